/- Texts L41 to XTq: lemmas, each with its conditions. -/
import Derived.Test.YtgkpbdkechfgmaaGreatP10
namespace Go.Ex
variable{M:List (List Rat)}{s:List (List Rat)×List Nat}{E:Mx}{B n r:Nat}{p q σ:Nat->Nat}{v:Nat->Rat}
theorem eQ.Gn{F:Mx}(h:eQ E r n v)(e:∀i t,i<r->t<n->F i t=E i t):eQ F r n v:=by
 obtain⟨c,hc⟩:=h;exact⟨c,fun t ht=>by rw[hc t ht];exact cR fun i hi=>by rw[e i t hi ht]⟩
theorem eQ.more{s:Nat}(h:eQ E r n v)(k:r<=s):eQ E s n v:=h.trans fun i hi=>eQ.row (Nat.lt_of_lt_of_le hi k)
theorem Ru.congr{F:Mx}(h:Ru E p r n)(e:∀i t,i<r->t<n->F i t=E i t)(ep:∀i,i<r->q i=p i):Ru F q r n:=
 ⟨fun i hi=>by rw[ep i hi];exact h.lt i hi,fun i j hi hj k=>h.inj i j hi hj (by rw[<-ep i hi,<-ep j hj];exact k),fun i j hi hj=>by rw[ep i hi,e j _ hj (h.lt i hi)];exact h.unit i j hi hj,
  fun i t hi ht=>by rw[ep i hi]at ht;rw[e i t hi (by have:=h.lt i hi;omega)];exact h.lead i t hi ht⟩
theorem z7.congr{F Z Y:Mx}(h:z7 E p r n B Z)(e:∀i t,i<r->t<n->F i t=E i t)(ep:∀i,i<r->q i=p i)(eZ:∀i t,i<r->t<n->Y i t=Z i t):z7 F q r n B Y:=by
 refine⟨h.ru.congr e ep,fun i hi=>((h.sp i hi).congr fun t ht=>eZ i t hi ht).Gn e,fun i t hi ht=>by rw[eZ i t hi ht];exact h.ib i t hi ht,?_⟩;rw[show tu Y q r=tu Z p r from jF fun i j hi hj=>by rw[ep _ (by omega),eZ _ _ (by omega) (h.ru.lt _ (by omega))]];exact h.nz
theorem z8(row:List Rat):∀f k,k<=pE row f k∧pE row f k<=k+f∧(∀t,k<=t->t<pE row f k->row.getD t 0=0)∧(pE row f k<k+f->row.getD (pE row f k) 0≠0)
 |0,k=>by
  unfold pE;exact⟨Nat.le_refl _,Nat.le_refl _,fun t h1 h2=>by omega,fun h=>by omega⟩
 |f+1,k=>by
  unfold pE;split
  ·rename_i h;obtain⟨h1,h2,h3,h4⟩:=z8 row f (k+1);refine⟨by omega,by omega,fun t k1 k2=>?_,fun h5=>h4 (by omega)⟩;rcases aS k t with h5|h5
   ·exact h3 t h5 k2
   ·rw[show t=k by omega];exact h
  ·rename_i h;exact⟨Nat.le_refl _,by omega,fun t h1 h2=>by omega,fun _=>h⟩
theorem JM(row:List Rat)(n:Nat):tp row n<=n∧(∀t,t<tp row n->row.getD t 0=0)∧(tp row n≠n->row.getD (tp row n) 0≠0):=by
 obtain⟨_,h2,h3,h4⟩:=z8 row n 0;unfold tp;exact⟨by omega,fun t h=>h3 t (aR _) h,fun h=>h4 (by omega)⟩
theorem JN(y:List Rat)(q:Rat)(t:Nat):(y.map (· / q)).getD t 0=y.getD t 0 / q:=by
 simp only[List.getD,aM]
 cases y[t]? with
 |none=>show(0:Rat)=0 / q;rw[bo,bI]
 |some x=>rfl
structure Gp(M:List (List Rat))(n B i:Nat)(s:xg)(p:Nat->Nat)(Z:Mx):Prop where
 ok:tq n n i s
 piv:∀k,k<n->∀r:Nat,s.2.1[k]? =some (some r)↔r<s.1.length∧p r=k
 zc:z7 (dK s.1) p s.1.length n B Z
 up:∀r,r<s.1.length->eQ (dK M) i n (dK s.1 r)
 dn:∀j,j<i->eQ (dK s.1) s.1.length n (dK M j)
section
variable{M:List (List Rat)}{n B i:Nat}{s:xg}{p:Nat->Nat}{Z:Mx}
theorem Gp.mF(h:Gp M n B i s p Z){x:List Rat}(hx:x.length=n):∀k,k<=n->∀t,t<n->(gD s.1 s.2.1 x k).getD t 0=mF (dK s.1) p s.1.length (fun t=>x.getD t 0) k t
 |0,_,t,ht=>by rw[Kf];rfl
 |k+1,hk,t,ht=>by
  have ih:=Gp.mF h hx k (by omega);obtain⟨o,ho⟩:∃o,s.2.1[k]? =some o:=⟨_,aA (by rw[h.ok.at_];omega)⟩
  have hd:s.2.1.getD k none=o:=by rw[List.getD,ho];rfl
  rw[gD,hd]
  cases o with
  |none=>
   simp only
   rw[ih t ht,Kg fun r hr e=>?_];have:=(h.piv k (by omega) r).2 ⟨hr,e⟩;rw[ho]at this
   cases this
  |some r=>
   simp only
   obtain⟨hr,e⟩:=(h.piv k (by omega) r).1 ho;rw[mM,vQ (by rw[ia,hx];exact ht),ih t ht,ih k (by omega),<-e,Kh h.zc.ru hr];rfl
theorem Gp.step(h:Gp M n B i s p Z)(hM:gX n M)(hi:i<M.length){d:Rat}(hd:d≠0)(hz:∀t,t<n->Ib B (d*dK M i t)):
  ∃p' Z',Gp M n B (i+1) (kP n s i (M.getD i [])) p' Z':=by
 have hx:(M.getD i []).length=n:=hM.getD hi;have OZ:=h.ok.step hx;obtain⟨y,hy⟩:∃y,gD s.1 s.2.1 (M.getD i []) n=y:=⟨_,rfl⟩
 have hu:∀t,t<n->y.getD t 0=Go.Ex.mF (dK s.1) p s.1.length (dK M i) n t:=fun t ht=>by rw[<-hy];exact h.mF hx n (Nat.le_refl _) t ht
 have WT:y.length=n:=by rw[<-hy,ia,hx]
 obtain⟨q1,q2,q3⟩:=JM y n;by_cases hq:tp y n=n
 ·have e:kP n s i (M.getD i [])=s:=by unfold kP;simp only[hy,hq,if_true]
  rw[e]at OZ ⊢;refine⟨p,Z,OZ,h.piv,h.zc,fun r hr=>(h.up r hr).more (Nat.le_succ i),fun j hj=>?_⟩;rcases aS j i with h1|h1
  ·exact h.dn j h1
  ·rw[show j=i by omega];refine⟨fun j=>dK M i (p j),fun t ht=>?_⟩;have h2:=hu t ht;rw[q2 t (by omega)]at h2;unfold Go.Ex.mF at h2;rw[cR (g:=fun j=>dK M i (p j)*dK s.1 j t) fun j hj=>if_pos (h.zc.ru.lt j hj)]at h2;grind
 ·have h0:=q3 hq;obtain⟨k,hk⟩:∃k,tp y n=k:=⟨_,rfl⟩
  rw[hk]at hq h0 q1 q2;have hkn:k<n:=by omega
  have e:kP n s i (M.getD i [])=(gU s.1 (y.map (· / y.getD k 0)) k s.1.length++[y.map (· / y.getD k 0)],s.2.1.set k (some s.1.length),s.2.2++[i]):=by
   unfold kP;simp only[hy,hk,aJ hq]
  rw[e]at OZ ⊢;have hl:(gU s.1 (y.map (· / y.getD k 0)) k s.1.length).length=s.1.length:=gG ..;have Rp:(gU s.1 (y.map (· / y.getD k 0)) k s.1.length++[y.map (· / y.getD k 0)]).length=s.1.length+1:=by rw[List.length_append,hl];rfl
  have hdv:∀t,t<n->(y.map (· / y.getD k 0)).getD t 0=y.getD t 0 / y.getD k 0:=fun t _=>JN y _ t;have hE:∀a t,a<s.1.length+1->t<n->dK (gU s.1 (y.map (· / y.getD k 0)) k s.1.length++[y.map (· / y.getD k 0)]) a t=kk (dK s.1) s.1.length (fun t=>y.getD t 0) k a t:=fun a t ha ht=>by
   unfold kk;by_cases h1:a=s.1.length
   ·rw[if_pos h1,<-hdv t ht,dK];congr 1;rw[List.getD,aO (by omega),hl,h1,bK];rfl
   ·have RN:a<s.1.length:=by omega
    have hr:=aA RN;have Pm:(s.1[a]).length=n:=h.ok.len _ (ah RN);have hg:s.1.getD a []=s.1[a]:=by rw[List.getD,hr];rfl
    have OV:(gU s.1 (y.map (· / y.getD k 0)) k s.1.length++[y.map (· / y.getD k 0)]).getD a []=mM s.1[a] (y.map (· / y.getD k 0)) ((s.1[a]).getD k 0):=by
     rw[List.getD,aK (by omega),gU,List.getElem?_mapIdx,hr];simp only[bf,Option.getD_some,if_pos RN]
    rw[aJ h1,dK,OV,mM,vQ (by omega),hdv t ht];unfold dK;rw[hg]
  have hC:=h.zc.push hd hz hu hkn h0 q2;have WU:=aAF (v:=dK M i) hu h.zc.ru.lt;refine⟨fun i=>if i=s.1.length then k else p i,fun a t=>if a=s.1.length then d*dK M i t else Z a t,OZ,?_,?_,?_,?_⟩
  ·intro c hc r;dsimp only
   rw[Rp];have OY:∀j,j<s.1.length->p j≠k:=fun j hj e=>h0 (by rw[hu k hkn,<-e];exact IA h.zc.ru hj);by_cases h1:c=k
   ·rw[h1,aQ (by rw[h.ok.at_];exact hkn)];constructor
    ·intro e;injection e with e;injection e with e;exact⟨by omega,by rw[if_pos e.symm]⟩
    ·rintro⟨h2,h3⟩;by_cases h4:r=s.1.length
     ·rw[h4]
     ·rw[aJ h4]at h3;exact absurd h3 (OY r (by omega))
   ·rw[aY (Ne.symm h1),h.piv c hc r];constructor
    ·rintro⟨h2,h3⟩;exact⟨by omega,by rw[aJ (by omega)];exact h3⟩
    ·rintro⟨h2,h3⟩;by_cases h4:r=s.1.length
     ·rw[if_pos h4]at h3;exact absurd h3.symm h1
     ·rw[aJ h4]at h3;exact⟨by omega,h3⟩
  ·dsimp only
   rw[Rp];exact hC.congr hE (fun _ _=>rfl) fun _ _ _ _=>rfl
  ·dsimp only
   rw[Rp];intro a ha;refine((Ki (k:=k) WU a ha).trans fun b hb=>?_).congr fun t ht=>hE a t ha ht;by_cases h1:b=s.1.length
   ·exact(eQ.row (show i<i+1 by omega)).congr fun t _=>by unfold kG;rw[if_pos h1]
   ·exact((h.up b (by omega)).more (Nat.le_succ i)).congr fun t _=>by unfold kG;rw[aJ h1]
  ·dsimp only
   rw[Rp];intro j hj;refine eQ.Gn ?_ hE;rcases aS j i with h1|h1
   ·exact(h.dn j h1).trans fun b hb=>rG h0 b hb
   ·rw[show j=i by omega];exact CI h0 hu h.zc.ru.lt
end
theorem rI{M:List (List Rat)}{n B:Nat}(hM:gX n M)(hW:DM M n B):∀i,i<=M.length->∃p Z,Gp M n B i (iT M n i) p Z
 |0,_=>⟨fun _=>0,fun _ _=>0,tq.start n n,fun k _ r=>⟨fun h=>(by
   simp only[iT,List.getElem?_replicate]at h
   split at h<;>cases h),fun h=>(by have:=h.1;simp[iT]at this)⟩,z7.start _ _ _ _ _,fun r h=>(by simp[iT]at h),fun j h=>by omega⟩
 |i+1,hi=>by
  obtain⟨p,Z,h⟩:=rI hM hW i (by omega);obtain⟨d,hd,-,hz⟩:=hW i (by omega);exact h.step hM (by omega) hd hz
theorem Ko(hM:gX n M)(hW:DM M n B)(hB:1<=B){i:Nat}(hi:i<=M.length):∀r∈(iT M n i).1,∀q∈r,rl q<=ln (fB B M.length):=fun r hr q hq=>by
 obtain⟨p,Z,h⟩:=rI hM hW i hi;obtain⟨a,ha⟩:=aN hr;obtain⟨t,ht⟩:=aN hq;have RN:=(aE.1 ha).1;have TX:=(aE.1 ht).1;rw[h.ok.len r hr]at TX;have h1:=h.zc.Km RN TX;rw[dK,show(iT M n i).1.getD a []=r by rw[List.getD,ha];rfl,show r.getD t 0=q by rw[List.getD,ht];rfl]at h1;exact aX h1 (fX (rH hB (aX h.ok.le hi)))
theorem Kp(hM:gX n M)(hW:DM M n B)(hB:1<=B){i k:Nat}(hi:i<M.length)(hk:k<=n):∀q∈gD (iT M n i).1 (iT M n i).2.1 (M.getD i []) k,rl q<=ln (fB B M.length):=fun q hq=>by
 obtain⟨p,Z,h⟩:=rI hM hW i (by omega);have hx:(M.getD i []).length=n:=hM.getD hi;obtain⟨t,ht⟩:=aN hq;have TX:=(aE.1 ht).1;rw[ia,hx]at TX;have h1:=h.mF hx k hk t TX;rw[show (gD (iT M n i).1 (iT M n i).2.1 (M.getD i []) k).getD t 0=q by rw[List.getD,ht];rfl]at h1;obtain⟨d,hd,hdB,hz⟩:=hW i hi;rw[h1];exact aX (h.zc.Kn hB hd hdB hz k TX) (fX (rH hB (by have:=h.ok.le;omega)))
theorem CJ{s:xg}:∀k,(dL s k).1.length=(dL s k).2.1.length∧(∀i,i<(dL s k).2.1.length->∃r:Nat,s.2.1[(dL s k).2.1.getD i 0]? =some (some r)∧(dL s k).1.getD i []=s.1.getD r []∧(dL s k).2.1.getD i 0<k)∧
  (∀i j,i<j->j<(dL s k).2.1.length->(dL s k).2.1.getD i 0<(dL s k).2.1.getD j 0)∧∀q,q<k->∀r:Nat,s.2.1[q]? =some (some r)->∃i,i<(dL s k).2.1.length∧(dL s k).2.1.getD i 0=q
 |0=>⟨rfl,fun i h=>(by cases h),fun i j _ h=>(by cases h),fun q h=>by omega⟩
 |k+1=>by
  obtain⟨h1,h2,h3,h4⟩:=CJ (s:=s) k;have step:(∃r:Nat,s.2.1[k]? =some (some r)∧dL s (k+1)=((dL s k).1++[s.1.getD r []],(dL s k).2.1++[k],(dL s k).2.2++[s.2.2.getD r 0]))∨((∀r:Nat,s.2.1[k]? ≠some (some r))∧dL s (k+1)=dL s k):=by
   rw[dL]
   cases ho:s.2.1[k]? with
   |none=>exact .inr ⟨fun r e=>(by cases e),by rw[show s.2.1.getD k none=none by rw[List.getD,ho];rfl]⟩
   |some o=>cases o with
    |none=>exact .inr ⟨fun r e=>(by cases e),by rw[show s.2.1.getD k none=none by rw[List.getD,ho];rfl]⟩
    |some r=>exact .inl ⟨r,rfl,by rw[show s.2.1.getD k none=some r by rw[List.getD,ho];rfl]⟩
  rcases step with⟨r,hr,e⟩|⟨hr,e⟩
  ·rw[e];have old:∀i,i<(dL s k).2.1.length->((dL s k).2.1++[k]).getD i 0=(dL s k).2.1.getD i 0:=fun i hi=>by rw[List.getD,aK hi,<-List.getD]
   have new:((dL s k).2.1++[k]).getD (dL s k).2.1.length 0=k:=by rw[List.getD,aO (Nat.le_refl _),bK];rfl
   have hlen:((dL s k).2.1++[k]).length=(dL s k).2.1.length+1:=by simp
   dsimp only
   rw[hlen];refine⟨by simp[h1],fun i hi=>?_,fun i j Pj hj=>?_,fun q hq x hx=>?_⟩
   ·rcases aS i (dL s k).2.1.length with h5|h5
    ·obtain⟨x,x1,x2,x3⟩:=h2 i h5;rw[old i h5];refine⟨x,x1,?_,by omega⟩;rw[List.getD,aK (by omega),<-List.getD];exact x2
    ·rw[show i=(dL s k).2.1.length by omega,new];refine⟨r,hr,?_,by omega⟩;rw[List.getD,aO (by omega),h1,bK];rfl
   ·rcases aS j (dL s k).2.1.length with h5|h5
    ·rw[old i (by omega),old j h5];exact h3 i j Pj h5
    ·rw[show j=(dL s k).2.1.length by omega,new,old i (by omega)];obtain⟨_,_,_,x3⟩:=h2 i (by omega);exact x3
   ·rcases aS q k with h5|h5
    ·obtain⟨i,i1,i2⟩:=h4 q h5 x hx;exact⟨i,by omega,by rw[old i i1];exact i2⟩
    ·exact⟨(dL s k).2.1.length,by omega,by rw[new];omega⟩
  ·rw[e];refine⟨h1,fun i hi=>?_,h3,fun q hq x hx=>?_⟩
   ·obtain⟨x,x1,x2,x3⟩:=h2 i hi;exact⟨x,x1,x2,by omega⟩
   ·rcases aS q k with h5|h5
    ·exact h4 q h5 x hx
    ·rw[show q=k by omega]at hx;exact absurd hx (hr x)
theorem iA{α:Type}{a b:List α}(d:α)(hl:a.length=b.length)(h:∀i,i<a.length->a.getD i d=b.getD i d):a=b:=by
 refine List.ext_getElem hl fun i h1 h2=>?_;have:=h i h1
 rwa [List.getD,List.getD,aA h1,aA h2]at this
theorem s6(hM:gX n M)(hW:DM M n B):(eK M n).2.1=(cN M n).2∧(eK M n).1=(cN M n).1.take (cN M n).2.length:=by
 obtain⟨p,Z,h⟩:=rI hM hW M.length (Nat.le_refl _);obtain⟨h1,h2,h3,h4⟩:=CJ (s:=iT M n M.length) n;unfold eK;generalize iT M n M.length=s at*
 obtain⟨F,hF⟩:∃F,dL s n=F:=⟨_,rfl⟩
 rw[hF]at h1 h2 h3 h4 ⊢;have OV:∀i,i<F.2.1.length->∃r,r<s.1.length∧p r=F.2.1.getD i 0∧F.1.getD i []=s.1.getD r []∧F.2.1.getD i 0<n:=fun i hi=>by
  obtain⟨r,r1,r2,r3⟩:=h2 i hi;obtain⟨k1,k2⟩:=(h.piv _ r3 r).1 r1;exact⟨r,k1,k2,r2,r3⟩
 have inj:∀i j,i<F.2.1.length->j<F.2.1.length->F.2.1.getD i 0=F.2.1.getD j 0->i=j:=fun i j hi hj e=>by
  rcases cA i j with h5|h5|h5
  ·have:=h3 i j h5 hj;omega
  ·exact h5
  ·have:=h3 j i h5 hi;omega
 have hrf:Rf (dK F.1) (fun i=>F.2.1.getD i 0) F.2.1.length n:=by
  refine⟨fun i hi=>?_,h3,fun i j hi hj=>?_,fun i t hi ht=>?_⟩
  ·obtain⟨_,_,_,_,h5⟩:=OV i hi;exact h5
  ·obtain⟨a,a1,a2,a3,_⟩:=OV i hi;obtain⟨b,b1,b2,b3,_⟩:=OV j hj;rw[dK,b3,<-a2];have:=h.zc.ru.unit a b a1 b1;unfold dK at this;rw[this];by_cases h5:j=i
   ·rw[if_pos h5,if_pos (h.zc.ru.inj b a b1 a1 (by rw[a2,b2,h5]))]
   ·rw[aJ h5,aJ fun e=>h5 (inj j i hj hi (by rw[<-a2,<-b2,e]))]
  ·obtain⟨a,a1,a2,a3,_⟩:=OV i hi;rw[dK,a3];have:=h.zc.ru.lead a t a1 (by rw[a2];exact ht);unfold dK at this;exact this
 have XK:∀r,r<s.1.length->eQ (dK F.1) F.2.1.length n (dK s.1 r):=fun r hr=>by
  have hp:=h.zc.ru.lt r hr;obtain⟨i,i1,i2⟩:=h4 (p r) hp r ((h.piv _ hp r).2 ⟨hr,rfl⟩);obtain⟨a,a1,a2,a3,_⟩:=OV i i1;have e:a=r:=h.zc.ru.inj a r a1 hr (by rw[a2,i2]);exact(eQ.row i1).congr fun t _=>by rw[dK,dK,a3,e]
 obtain⟨e1,e2,e3⟩:=Ez hM hrf (fun i hi=>by
  obtain⟨a,a1,a2,a3,_⟩:=OV i hi
  exact(h.up a a1).congr fun t _=>by rw[dK,dK,a3]) fun j hj=>(h.dn j hj).trans XK
 obtain⟨g1,g2,-,-,-⟩:=eX hM n (Nat.le_refl _);refine⟨iA 0 e1.symm fun i hi=>(e2 i hi).symm,iA [] ?_ fun i hi=>?_⟩
 ·rw[ai,e1,h1];omega
 ·rw[h1]at hi;have Rq:i<(cN M n).2.length:=by omega
  obtain⟨a,a1,a2,a3,_⟩:=OV i hi;have RK:(F.1.getD i []).length=n:=by rw[a3];exact h.ok.len.getD a1
  have hg:((cN M n).1.take (cN M n).2.length).getD i []=(cN M n).1.getD i []:=by rw[List.getD,bV Rq,<-List.getD]
  rw[hg];refine iA 0 (by rw[RK,g1.getD (by omega)]) fun t ht=>?_;rw[RK]at ht;exact(e3 i t hi ht).symm
structure ElI(M:List (List Rat))(n B c:Nat)(s:List (List Rat)×List Nat)(σ:Nat->Nat)(Z:Mx):Prop where
 red:Red n c s
 mon:Ke s
 len:s.1.length=M.length
 zc:z7 (dK s.1) (fun i=>s.2.getD i 0) s.2.length n B Z
 org:∀j,j<M.length->σ j<M.length
 rest:∀j,s.2.length<=j->j<M.length->∀t,t<n->dK s.1 j t=mF (dK s.1) (fun i=>s.2.getD i 0) s.2.length (dK M (σ j)) n t
theorem ElI.step{c:Nat}{Z:Mx}(h:ElI M n B c s σ Z)(hW:DM M n B)(hc:c<n):∃σ' Z',ElI M n B (c+1) (dX s c) σ' Z':=by
 have Q5:=h.red.step hc;have hmon:=h.mon.step h.red hc;have hlen:(dX s c).1.length=M.length:=by rw[lA,h.len]
 obtain⟨hl,hle,hz,Qq,hu⟩:=h.red;rcases jf c hle with⟨e,h0⟩|⟨k,h1,h2,h3,e⟩
 ·rw[e]at Q5 hmon hlen ⊢;exact⟨σ,Z,Q5,hmon,hlen,h.zc,h.org,h.rest⟩
 ·obtain⟨r1,r2⟩:=lT hl h1 h2 h3 e;have e2:(dX s c).2=s.2++[c]:=by rw[e]
  have e3:(dX s c).2.length=s.2.length+1:=by rw[e2];simp
  have hkM:k<M.length:=by rw[<-h.len];exact h2
  have hk:=h.rest k h1 hkM;obtain⟨d,hd,-,hdz⟩:=hW (σ k) (h.org k hkM);have hC:=h.zc.push (u:=dK s.1 k) hd hdz hk hc h3 fun t ht=>hz k t h1 h2 ht;have hold:∀i,i<s.2.length->(dX s c).2.getD i 0=s.2.getD i 0:=fun i hi=>by rw[e2,List.getD,aK hi,<-List.getD]
  have Rv:(dX s c).2.getD s.2.length 0=c:=by rw[e2,List.getD,aO (Nat.le_refl _),bK];rfl
  have hE:∀i t,i<s.2.length+1->t<n->dK (dX s c).1 i t=kk (dK s.1) s.2.length (dK s.1 k) c i t:=fun i t hi ht=>by
   unfold kk;by_cases XL:i=s.2.length
   ·rw[if_pos XL,XL,r1,bo,bo,bz]
   ·rw[aJ XL,r2 i (by omega) XL t ht,aJ (by omega),bo,bo,bz]
  have Vy:z7 (dK (dX s c).1) (fun i=>(dX s c).2.getD i 0) (dX s c).2.length n B fun i t=>if i=s.2.length then d*dK M (σ k) t else Z i t:=by
   rw[e3];refine hC.congr hE (fun i hi=>?_) fun _ _ _ _=>rfl;by_cases XL:i=s.2.length
   ·rw[if_pos XL,XL,Rv]
   ·rw[aJ XL,hold i (by omega)]
  refine⟨fun j=>if j=k then σ s.2.length else σ j,_,Q5,hmon,hlen,Vy,fun j hj=>?_,fun j hj hjM t ht=>?_⟩
  ·split
   ·exact h.org _ (by omega)
   ·exact h.org j hj
  ·rw[e3]at hj;have hjs:j<s.1.length:=by rw[h.len];exact hjM
   obtain⟨jj,hjj⟩:∃jj,(if j=k then s.2.length else j)=jj:=⟨_,rfl⟩
   have hjr:s.2.length<=jj:=by rw[<-hjj];split<;>omega
   have Sa:jj<M.length:=by rw[<-hjj];split<;>omega
   have hσ:(if j=k then σ s.2.length else σ j)=σ jj:=by rw[<-hjj];split<;>rfl
   rw[hσ];refine Mq Vy.ru ?_ (fun i hi=>?_) ht
   ·have hr:eQ (dK (dX s c).1) (dX s c).2.length n (dK (dX s c).1 s.2.length):=eQ.row (by omega);have h5:eQ (dK s.1) s.2.length n fun t=>dJ (fun i=>dK M (σ jj) (s.2.getD i 0)*dK s.1 i t) s.2.length:=⟨_,fun t _=>rfl⟩
    have h6:eQ (dK (dX s c).1) (dX s c).2.length n fun t=>dJ (fun i=>dK M (σ jj) (s.2.getD i 0)*dK s.1 i t) s.2.length:=h5.trans fun i hi=>by
     rw[e3];exact eQ.Gn (rG h3 i hi) hE
    refine(h6.add hr (dK s.1 jj c)).congr fun t ht=>?_;have h7:=h.rest jj hjr Sa t ht;unfold mF at h7;rw[cR (g:=fun i=>dK M (σ jj) (s.2.getD i 0)*dK s.1 i t) fun i hi=>if_pos (h.zc.ru.lt i hi)]at h7;rw[r2 j hjs (by omega) t ht,hjj,r1,h7];grind
   ·rw[Q5.2.2.2.2 i j hi (by rw[hlen];exact hjM),aJ (by omega)]
theorem pz{M:List (List Rat)}{n B:Nat}(hM:gX n M)(hW:DM M n B):∀c,c<=n->∃σ Z,ElI M n B c (cN M c) σ Z
 |0,_=>⟨fun j=>j,fun _ _=>0,⟨hM,aR _,fun _ _ _ _ h=>by omega,fun p hp=>(by cases hp),fun _ _ h=>(by cases h)⟩,⟨fun _ _ _ h=>(by cases h),fun _ _ h=>(by cases h)⟩,rfl,z7.start _ _ _ _ _,fun j hj=>hj,fun j _ hj t ht=>by
   show dK M j t=mF (dK M) _ 0 (dK M j) n t;unfold mF;show _=_-0
   grind⟩
 |c+1,hc=>by
  obtain⟨σ,Z,h⟩:=pz hM hW c (by omega);unfold cN at h ⊢;rw[bS,List.foldl_append];exact h.step hW (by omega)
theorem zd(hM:gX n M)(hW:DM M n B)(hB:1<=B){c:Nat}(hc:c<=n):∀r∈(cN M c).1,∀q∈r,rl q<=ln (fB B M.length):=fun r hr q hq=>by
 obtain⟨σ,Z,h⟩:=pz hM hW c hc;obtain⟨a,ha⟩:=aN hr;obtain⟨t,ht⟩:=aN hq;have RN:=(aE.1 ha).1;have TX:=(aE.1 ht).1;rw[h.red.1 r hr]at TX;have hle:=h.red.2.1;have e:q=dK (cN M c).1 a t:=by rw[dK,show(cN M c).1.getD a []=r by rw[List.getD,ha];rfl,List.getD,ht];rfl
 rw[h.len]at RN hle;rw[e];rcases aS a (cN M c).2.length with h1|h1
 ·exact aX (h.zc.Km h1 TX) (fX (rH hB hle))
 ·obtain⟨d,hd,hdB,hz⟩:=hW _ (h.org a RN);rw[h.rest a h1 RN t TX];exact aX (h.zc.Kn hB hd hdB hz n TX) (fX (rH hB (by omega)))
end Go.Ex
namespace Go.Ex
open Go Go.Sx Go.Proofs
variable{K M:List (List Rat)}{qs xs ys:List Rat}{cs:List Value}{h:Nat}{C S:Nat->Prop}{a:Option Addr}{p q:Rat}{u v:Value}{w:World}
theorem H3(hS:Old S w)(hx:dQ w S v xs)(hy:dQ w S u ys)(hl:xs.length=ys.length)(Un:∀q∈xs,rl q+1<=h)(hqy:∀q∈ys,rl q+1<=h)(h2:2<=h)(hb:2*h*xs.length<=90000):
  eG PG N.CT #[v,u] w (eL w fun v' w2=>dA w2 (Nf w w2) v' (dT xs ys xs.length)):=by
 have hw:=bR w;obtain⟨ax,cx,rfl,UW,Uo⟩:=hx.shape;obtain⟨ay,cy,rfl,hcy,-⟩:=hy.shape;unfold maxLen at Uo;refine D6 (by simp) ?_;refine cH (cE hw (fun _ w' v w2=>dA w2 (Nf w' w2) v (((0:Int):Rat))) (fun O w' r=>GM 0 w' (by decide) (by decide)) ?_);rintro O _ _ _ Og r he hw h_ hn;have hd:=hn.dF (S:=FF) r.cG (mN h_);obtain⟨A0,A1,A2,A3,A4,A5,A6,A7,rfl⟩:=hd.shape;rw[show ((0:Int):Rat)=dT xs ys 0 from rfl]at hd
 refine⟨Nat×(Bool×Bool)×(Option Addr×Option Addr)×(Nat×Nat×Nat×Nat)×World×Iv,fun z=>⟨[(0,sV ax xs.length cx),(1,sV ay ys.length cy),(4,pP 0 0),(5,pP 1 0),(6,iN z.1)],[(1,.box T.Rat [.v (.bool z.2.1.1),.v (.slice z.2.2.1.1 z.2.2.2.1.1 z.2.2.2.1.2.1),.v (.bool z.2.1.2),.v (.slice z.2.2.1.2 z.2.2.2.1.2.2.1 z.2.2.2.1.2.2.2)]),(0,.box T.Rat [.v (.bool false),.v (.slice none 0 0),.v (.bool false),.v (.slice none 0 0)])],2,z.2.2.2.2.2,z.2.2.2.2.1⟩,fun z=>xs.length-z.1,
  fun z=>z.1<=xs.length∧dq w.heap.size w z.2.2.2.2.1∧dA z.2.2.2.2.1 (Cf w z.2.2.2.2.2) (.agg #[.bool z.2.1.1,.slice z.2.2.1.1 z.2.2.2.1.1 z.2.2.2.1.2.1,.bool z.2.1.2,.slice z.2.2.1.2 z.2.2.2.1.2.2.1 z.2.2.2.1.2.2.2]) (dT xs ys z.1),?_,?_⟩
 ·intro O w' r;exact⟨(0,(A0,A4),(A1,A5),(A2,A3,A6,A7),w',Og),⟨by simp,hw.tr r.cU,hd.rel r (cF w)⟩,Sub.gn [] r⟩
 rintro⟨i,⟨p0,p4⟩,⟨p1,p5⟩,⟨p2,p3,p6,p7⟩,w1,iv⟩ ⟨hi,hw,hd⟩;dsimp only at hi hw hd ⊢;refine dN.mk ?_ ?_<;>intro OU
 ·have OU:i<xs.length:=by simpa using OU
  have hs:=ke Un hqy h2 i;have Qa:2*h*i<=2*h*xs.length:=bW _ hi;have hs3:2*h*1<=2*h*xs.length:=bW _ (by omega);obtain⟨x,QG⟩:∃x,xs[i]? =some x:=⟨_,aA OU⟩
  obtain⟨y,UA⟩:∃x,ys[i]? =some x:=⟨_,aA (by omega)⟩
  have hx3:=Un x (aD QG);have hy3:=hqy y (aD UA);have RG:xs.getD i 0=x:=by rw[List.getD,QG];rfl
  have XP:ys.getD i 0=y:=by rw[List.getD,UA];rfl
  have hm:=ic x y;obtain⟨adx,csx,Pq,R6,-,PO⟩:=dO.load hx QG;obtain⟨ady,csy,Up,Rn,-,Qj⟩:=dO.load hy UA;obtain⟨f0,f1,f2,f3,f4,f5,f6,f7,rfl,R6⟩:=R6;obtain⟨q0,q1,q2,q3,q4,q5,q6,q7,rfl,Rn⟩:=Rn;refine cQ hτ dx [.x 0,.x 1,.x 2,.x 3,.x 4,.x 5,.x 6,.x 7,.x 8,.x 9,.x 10,.x 11] (by kernel_rfl) (by kernel_rfl) ?_;refine⟨adx,Pq,by omega,[.bool f0,.slice f1 f2 f3,.bool f4,.slice f5 f6 f7],rfl,rdO PO hw hS,ady,Up,by omega,[.bool q0,.slice q1 q2 q3,.bool q4,.slice q5 q6 q7],rfl,rdO Qj hw hS,?_⟩;refine cE hw (fun _ w' v w2=>dA w2 (Nf w' w2) v (x*y)) (fun O w' r=>Hg (oS hS r) (R6.cJ (kS hw r hS)) (Rn.cJ (kS hw r hS))) ?_;rintro O _ _ _ OX r he hw h_ hn;replace hd:=hd.cK r (cF w) he (mC h_);have hp:=hn.dF (S:=FF) r.cG (mN h_);obtain⟨C0,C1,C2,C3,C4,C5,C6,C7,rfl⟩:=hp.shape;refine cE hw (fun _ w' v w2=>dA w2 (Nf w' w2) v (dT xs ys i+x*y)) (fun O w' r=>M4 (Rel.old r (cF w)) ((hd.rel r (cF w)).l (by omega)) ((hp.rel r (cF w)).l (by omega))) ?_;rintro O _ _ _ Oh r he hw h_ hn;have Pg:=hn.dF (S:=FF) r.cG (mN h_);obtain⟨E0,E1,E2,E3,E4,E5,E6,E7,rfl⟩:=Pg.shape;rw[show dT xs ys i+x*y=dT xs ys (i+1) by rw[dT,RG,XP]]at Pg;refine⟨((i+1:Nat):Int),wo,?_⟩;intro ρ3 w3 r3;exact⟨(i+1,(E0,E4),(E1,E5),(E2,E3,E6,E7),w3,_),⟨OU,hw.tr r3.cU,Pg.rel r3 (cF w)⟩,Sub.gn [] r3,by dsimp only;omega⟩
 have OU:i=xs.length:=aU hi (by simpa using OU);subst OU;exact rtn hw fun ρe we re=>hd.out re (cF w)
section
variable{S:Nat->Prop}{H:Hp}{nx:Nat}{iv iv':Iv}{B:Nat}{w w' w2:World}{O:Nat->Sx.dw}{css:List (List Value)}{qs:List Rat}
theorem Fc.rel(h:Fc w (Cv S B iv) css qs)(r:Rel H nx iv B w O w')(hS:∀g,S g->g<B):Fc w' (Cv S B iv) css qs:=h.cJ fun _ hg=>Rel.same r hS hg
theorem Fc.cK(h:Fc w (Cv S B iv) css qs)(r:Rel H nx iv B w O w')(hS:∀g,S g->g<B)(he:Ext w' w2)(hm:∀p,p∈iv->p∈iv'):Fc w2 (Cv S B iv') css qs:=
 ((h.rel r hS).cJ fun g hg=>he.block g (Rel.old r hS g hg)).cL fun _ hg=>hg.mono hm
theorem Fc.push(h:Fc w S css qs)(hc:iz w S cs q):Fc w S (css++[cs]) (qs++[q]):=by
 refine⟨by simp[h.1],fun j x p h1 h2=>?_⟩;rcases aS j css.length with hi|hi
 ·rw[aK hi]at h1;rw[aK (by rw[<-h.1];exact hi)]at h2;exact h.2 j x p h1 h2
 ·have SF:j=css.length:=by have:=(aE.1 h1).1;simp at this;omega
  subst SF;rw[aO (Nat.le_refl _),bK]at h1;rw[h.1,aO (Nat.le_refl _),bK]at h2;simp at h1 h2;subst h1 h2;exact hc
end
section
variable{S S':Nat->Prop}{H:Hp}{nx:Nat}{iv iv':Iv}{B:Nat}{w w' w2:World}{O:Nat->Sx.dw}{v:Value}{b:List (Int×Int)}
end
def jl(qs:List Rat):List (Int×Int):=qs.map fun q=>(q.num,(q.den:Int))
theorem wR(qs:List Rat):(jl qs).length=qs.length:=aL ..
theorem qo(qs:List Rat):(jl qs).map ec=qs:=by
 unfold jl;rw[List.map_map];exact(List.map_congr_left fun q _=>oy q).trans (List.map_id qs)
theorem MF(K:List (List Rat)):kH (K.map jl)=K:=by
 unfold kH;rw[List.map_map];exact(List.map_congr_left fun q _=>qo q).trans (List.map_id K)
theorem cO.jl(h:cO w S v qs):eP w S v (jl qs):=by
 obtain⟨css,h1,h2,h3,h4⟩:=h;refine⟨css,by unfold Go.Ex.jl;rw[aL];exact h1,by unfold Go.Ex.jl;rw[aL];exact h2,h3,fun j cs x k1 k2=>?_⟩;unfold Go.Ex.jl at k2;rw[aM]at k2;obtain⟨q,hq,rfl⟩:=Option.map_eq_some_iff.1 k2;obtain⟨b,a,n,c,b2,a2,n2,c2,rfl,hr⟩:=h4 j cs q k1 hq;exact hr.four
theorem cV.jl(h:cV w S v K):eI w S v (K.map jl):=by
 obtain⟨rv,h1,h2,h3⟩:=h;refine⟨rv,by rw[aL];exact h1,by rw[aL];exact h2,fun i u x k1 k2=>?_⟩;rw[aM]at k2;obtain⟨q,hq,rfl⟩:=Option.map_eq_some_iff.1 k2;exact(h3 i u q k1 hq).jl
theorem Cn(h:∀q∈qs,rl q<=10000000000):Few (jl qs):=fun x hx=>by
 obtain⟨q,hq,rfl⟩:=aV.1 hx;exact⟨aX (gP q) (h q hq),aX (fY q) (h q hq)⟩
section
variable{S:Nat->Prop}{w:World}{v u:Value}{M:List (List (Int×Int))}{b:List (Int×Int)}
theorem NX{M:List (List Rat)}{b:List Rat}(hM:Ht M h)(hb:∀q∈b,rl q+1<=h)(h2:2<=h):Ht (fH M b) h:=fun r hr q hq=>by
 obtain⟨i,hi⟩:=aN hr;unfold fH at hi;rw[List.getElem?_mapIdx]at hi
 cases hx:M[i]? with
 |none=>rw[hx]at hi;cases hi
 |some x=>
  rw[hx]at hi;injection hi with hi;subst hi;rcases bE.1 hq with hq|hq
  ·exact hM x (aD hx) q hq
  ·rcases List.mem_cons.1 hq with hq|hq
   ·rw[hq];exact lD hb h2 i
   ·unfold kY at hq;rcases av hq with hq|hq
    ·rw[bJ hq];exact aX (by decide) h2
    ·rw[hq,LI];exact h2
end
theorem cV.l(h:cV w S v K)(hq:∀r∈K,∀q∈r,rl q<=100000):Cl w S v K:=by
 obtain⟨rv,h1,h2,h3⟩:=h;exact⟨rv,h1,h2,fun i u x k1 k2=>(h3 i u x k1 k2).l (hq x (aD k2))⟩
theorem eV(M:List (List Rat))(x:List Rat):(fM M x).length=M.length:=aL ..
theorem Jj{x:List Rat}{n:Nat}(hM:Ht M h)(hx:∀q∈x,rl q+1<=h)(h2:2<=h)(hn:∀r∈M,r.length<=n):∀q∈fM M x,rl q<=2*h*n+2:=fun q hq=>by
 obtain⟨r,hr,rfl⟩:=aV.1 hq;have h3:=ke (hM r hr) hx h2 r.length;have:=bW (2*h) (hn r hr);omega
theorem fE.zero:fE w S (.agg #[.bool false,.slice none 0 0,.bool false,.slice none 0 0]) 0:=
 ⟨_,_,_,_,0,0,rfl,⟨false,[],⟨_,rfl,dV.nil _ _⟩,rfl,aR _⟩,⟨false,[],⟨_,rfl,dV.nil _ _⟩,rfl,aR _⟩,by decide⟩
theorem Lv{x:List Rat}(hS:Old S w)(hM:Cl w S v M)(hx:dQ w S u x)(OV:∀r∈M,r.length=x.length)(hqM:Ht M h)(Un:∀q∈x,rl q+1<=h)(h2:2<=h)(hb:2*h*x.length<=90000)(hR:M.length<=1000000):
  eG PG N.xQ #[v,u] w (eL w fun v' w2=>cO w2 (Nf w w2) v' (fM M x)):=by
 have hw:=bR w;obtain⟨am,cm,rfl,Rt,Ra⟩:=cd.shape hM;obtain⟨ax,cx,rfl,UW,-⟩:=dO.shape hx;unfold maxLen at Ra;refine Ad (by simp) ?_
 refine⟨Nat×List (List Value)×World×Iv,fun z=>⟨[(0,sV am M.length cm),(1,sV ax x.length cx),(5,.o (.w 0 z.2.1.length)),(6,iN z.1)],[(0,.vec T.Rat 4 z.2.1.flatten)],1,z.2.2.2,z.2.2.1⟩,fun z=>M.length-z.1,
  fun z=>z.1<=M.length∧dq w.heap.size w z.2.2.1∧Fc z.2.2.1 (Cf w z.2.2.2) z.2.1 ((fM M x).take z.1),?_,?_⟩
 ·intro O w' r
  exact⟨(0,[],w',[]),⟨aR _,hw.tr r.cU,by simp[Fc]⟩,Sub.nil 5 T.Rat 4 rfl (by simp[kF,SV.sc,At.sc,fm]) r fun ρ1 r1=>
   Sub.gn [] r1⟩
 rintro⟨i,css,w1,iv⟩ ⟨hi,hw,hC⟩;dsimp only at hi hw hC ⊢;have Pf:css.length=i:=by rw[hC.1,ai,eV];omega
 have PA:=ei hC.mz;refine dN.mk ?_ ?_<;>intro OU
 ·have OU:i<M.length:=by simpa using OU
  obtain⟨ra,Tl⟩:∃r,M[i]? =some r:=⟨_,aA OU⟩
  have Wx:=OV ra (aD Tl);obtain⟨adm,um,Qs,PD,km1,km2⟩:=cd.load hM Tl;obtain⟨au,cu,rfl,hcu,-⟩:=dO.shape PD;refine⟨adm,Qs,by omega,.slice au ra.length cu,rd1 km2 hw (hS _ km1),?_⟩;refine cH (cE hw (fun _ w' v w2=>dA w2 (Nf w' w2) v (dT ra x ra.length)) (fun O w' r=>H3 (oS hS r) (dQ.cJ PD ((kS hw r hS))) (dQ.cJ hx ((kS hw r hS))) Wx (hqM ra (aD Tl)) Un h2 (by rw[Wx];exact hb)) ?_);rintro O _ _ QJ Og r he hw h_ hn;replace hC:=hC.cK r (cF w) he (mC h_);have hd:=hn.dF (S:=FF) r.cG (mN h_);obtain⟨A0,A1,A2,A3,A4,A5,A6,A7,rfl⟩:=hd.shape;have Vy:Fc QJ (Cf w Og) (css++[[.bool A0,.slice A1 A2 A3,.bool A4,.slice A5 A6 A7]]) ((fM M x).take (i+1)):=by
   have e:(fM M x)[i]? =some (dT ra x ra.length):=by rw[fM,aM,Tl];rfl
   rw[List.take_add_one,e];exact hC.push hd.sH
  have Qy:css.flatten++([.bool A0,.slice A1 A2 A3,.bool A4,.slice A5 A6 A7]:List Value)=(css++([[.bool A0,.slice A1 A2 A3,.bool A4,.slice A5 A6 A7]]:List (List Value))).flatten:=by simp
  refine .inl ?_;refine⟨by omega,by omega,by unfold maxLen;omega,((i+1:Nat):Int),wo,?_⟩;intro ρ3 w3 r3;exact⟨(i+1,css++[[.bool A0,.slice A1 A2 A3,.bool A4,.slice A5 A6 A7]],w3,_),⟨OU,hw.tr r3.cU,Vy.rel r3 (cF w)⟩,Sub.gn [(0,2)] r3 ⟨by dsimp only;rw[<-Qy];rfl,trivial⟩ ⟨rfl,rfl,by dsimp only;rw[List.length_append,List.length_singleton];rfl,rfl,trivial⟩,by dsimp only;omega⟩
 have OU:i=M.length:=aU hi (by simpa using OU);intro ρe we re;refine⟨_,rfl,hw.tr re.cU,?_⟩;rw[List.take_of_length_le (by rw[eV];omega)]at hC;have h5:=re.iD (id:=0) (sz:=4) (m:=css.length) rfl PA (by unfold maxLen;omega) (by decide) hC.one;have h6:=hC.rel re (cF w);refine⟨css,?_,h6.1,h6.mz,fun j cs q k1 k2=>(h6.2 j cs q k1 k2).cL fun _ hg=>Cv.nw hg re⟩;rw[<-hC.1];exact h5.cL fun g hg=>.inr hg
section
variable{S:Nat->Prop}{w:World}{v u:Value}{M:List (List (Int×Int))}{x:List Rat}
end
theorem qf(q:Rat):rs (q-0)=rs q:=by rw[show q-0=q by grind]
theorem jx(n:Int)(w:World)(h1n: -9223372036854775808<=n)(h2n:n<=9223372036854775807):eG PG N.rz #[.int .i64 n] w (eL w fun v' w2=>dA w2 (Nf w w2) v' (n:Rat)):=by
 have hw:=bR w;refine vq (by simp) ?_;refine cH (cE hw (fun _ w' v w2=>dA w2 (Nf w' w2) v ((n:Rat))) (fun O w' r=>HG n w' h1n h2n) ?_);rintro O _ _ _ Og r he hw h_ hn;have hd:=hn.dF (S:=FF) r.cG (mN h_);obtain⟨A0,A1,A2,A3,A4,A5,A6,A7,rfl⟩:=hd.shape;exact rtn hw fun ρe we re=>hd.out re (cF w)
theorem lI(hS:Old S w)(hq:fE w S v q):eG PG N.uB #[v] w (eL w fun v' _=>∃d,v'= .bool d∧(d=true↔q=0)):=by
 have hw:=bR w;obtain⟨f0,f1,f2,f3,f4,f5,f6,f7,rfl⟩:=hq.shape;refine xm (by simp) ?_;refine cH (cE hw (fun _ w' v w2=>v= .int .i64 (rs q)) (fun O w' r=>(Dj (oS hS r) (hq.v.cJ (kS hw r hS)) (fE.zero (S:=S)).v).mono fun _ _ ⟨v2,e1,e2,e3⟩=>⟨v2,e1,e2,by rw[e3,qf]⟩) ?_);rintro O _ _ _ Og r he hw h_ rfl;intro ρe we re;refine⟨_,rfl,hw.tr re.cU,_,rfl,?_⟩;rw[beq_iff_eq];exact ya
theorem LZ(hS:Old S w)(hp:fE w S v p)(hq:fE w S u q)(h0:q≠0):eG PG N.xL #[v,u] w (eL w fun v' w2=>dA w2 (Nf w w2) v' (p / q)):=by
 have hw:=bR w;obtain⟨f0,f1,f2,f3,f4,f5,f6,f7,rfl⟩:=hp.shape;obtain⟨g0,g1,g2,g3,g4,g5,g6,g7,rfl⟩:=hq.shape;refine AY (by simp) ?_;refine cH (cE hw (fun _ w' v w2=>∃r,v= .tuple #[r,.int .i64 0]∧dA w2 (Nf w' w2) r (p / q)) (fun O w' r=>(aAO (oS hS r) (hp.v.cJ (kS hw r hS)) (hq.v.cJ (kS hw r hS))).mono fun _ _ ⟨v2,e1,e2,e3⟩=>⟨v2,e1,e2,e3.elim (fun h=>absurd h.1 h0) fun h=>h.2⟩) ?_);rintro O _ _ _ Og r he hw h_ ⟨q1,rfl,k1⟩;have hd:=k1.dF (S:=FF) r.cG (mN h_);obtain⟨s1_0a,s1_0b,s1_0c,s1_0d,s1_0e,s1_0f,s1_0g,s1_0h,rfl⟩:=hd.shape;exact rtn hw fun ρe we re=>hd.out re (cF w)
theorem L0(hS:Old S w)(hq:fE w S v q):eG PG N.xT #[v] w (eL w fun v' w2=>dA w2 (Nf w w2) v' (-q)):=by
 have hw:=bR w;obtain⟨f0,f1,f2,f3,f4,f5,f6,f7,rfl⟩:=hq.shape;refine Ag (by simp) ?_;refine cH (cE hw (fun _ w' v w2=>dA w2 (Nf w' w2) v (-q)) (fun O w' r=>(La (oS hS r) (fE.zero (S:=S)).v (hq.v.cJ (kS hw r hS))).mono fun _ _ ⟨v2,e1,e2,e3⟩=>⟨v2,e1,e2,by rwa [show (0:Rat)-q= -q by grind]at e3⟩) ?_);rintro O _ _ _ Og r he hw h_ hn;have hd:=hn.dF (S:=FF) r.cG (mN h_);obtain⟨A0,A1,A2,A3,A4,A5,A6,A7,rfl⟩:=hd.shape;exact rtn hw fun ρe we re=>hd.out re (cF w)
theorem Al(hS:Old S w)(hx:dQ w S v xs)(hy:dQ w S u ys)(hl:xs.length<=ys.length)(Un:∀q∈xs,rl q+1<=h)(hqy:∀q∈ys,rl q+1<=h)(h2:2<=h)(hb:2*h*xs.length<=90000):
  eG PG N.xK #[v,u] w (eL w fun v' w2=>dA w2 (Nf w w2) v' (dT xs ys xs.length)):=by
 have hw:=bR w;obtain⟨ax,cx,rfl,UW,Uo⟩:=dO.shape hx;obtain⟨ay,cy,rfl,hcy,-⟩:=dO.shape hy;unfold maxLen at Uo;refine AX (by simp) ?_;refine cH (cE hw (fun _ w' v w2=>dA w2 (Nf w' w2) v (((0:Int):Rat))) (fun O w' r=>jx 0 w' (by decide) (by decide)) ?_);rintro O _ _ _ Og r he hw h_ hn;have hd:=hn.dF (S:=FF) r.cG (mN h_);obtain⟨A0,A1,A2,A3,A4,A5,A6,A7,rfl⟩:=hd.shape;rw[show ((0:Int):Rat)=dT xs ys 0 from rfl]at hd
 refine⟨Nat×(Bool×Bool)×(Option Addr×Option Addr)×(Nat×Nat×Nat×Nat)×World×Iv,fun z=>⟨[(1,sV ay ys.length cy),(4,pP 0 0),(5,pP 1 0),(9,sV ax xs.length cx),(10,iZ xs.length),(11,iN z.1)],[(1,.box T.Rat [.v (.bool z.2.1.1),.v (.slice z.2.2.1.1 z.2.2.2.1.1 z.2.2.2.1.2.1),.v (.bool z.2.1.2),.v (.slice z.2.2.1.2 z.2.2.2.1.2.2.1 z.2.2.2.1.2.2.2)]),(0,.box T.Rat [.v (.bool false),.v (.slice none 0 0),.v (.bool false),.v (.slice none 0 0)])],2,z.2.2.2.2.2,z.2.2.2.2.1⟩,fun z=>xs.length-z.1,
  fun z=>z.1<=xs.length∧dq w.heap.size w z.2.2.2.2.1∧dA z.2.2.2.2.1 (Cf w z.2.2.2.2.2) (.agg #[.bool z.2.1.1,.slice z.2.2.1.1 z.2.2.2.1.1 z.2.2.2.1.2.1,.bool z.2.1.2,.slice z.2.2.1.2 z.2.2.2.1.2.2.1 z.2.2.2.1.2.2.2]) (dT xs ys z.1),?_,?_⟩
 ·intro O w' r;exact⟨(0,(A0,A4),(A1,A5),(A2,A3,A6,A7),w',Og),⟨by simp,hw.tr r.cU,hd.rel r (cF w)⟩,Sub.gn [] r⟩
 rintro⟨i,⟨p0,p4⟩,⟨p1,p5⟩,⟨p2,p3,p6,p7⟩,w1,iv⟩ ⟨hi,hw,hd⟩;dsimp only at hi hw hd ⊢;refine dN.mk ?_ ?_<;>intro OU
 ·have OU:i<xs.length:=by simpa using OU
  have hs:=ke Un hqy h2 i;have Qa:2*h*i<=2*h*xs.length:=bW _ hi;have hs3:2*h*1<=2*h*xs.length:=bW _ (by omega);obtain⟨x,QG⟩:∃x,xs[i]? =some x:=⟨_,aA OU⟩
  obtain⟨y,UA⟩:∃x,ys[i]? =some x:=⟨_,aA (by omega)⟩
  have hx3:=Un x (aD QG);have hy3:=hqy y (aD UA);have RG:xs.getD i 0=x:=by rw[List.getD,QG];rfl
  have XP:ys.getD i 0=y:=by rw[List.getD,UA];rfl
  have hm:=ic x y;obtain⟨adx,csx,Pq,R6,-,PO⟩:=dO.load hx QG;obtain⟨ady,csy,Up,Rn,-,Qj⟩:=dO.load hy UA;obtain⟨f0,f1,f2,f3,f4,f5,f6,f7,rfl,R6⟩:=R6;obtain⟨q0,q1,q2,q3,q4,q5,q6,q7,rfl,Rn⟩:=Rn;refine⟨adx,Pq,by omega,[.bool f0,.slice f1 f2 f3,.bool f4,.slice f5 f6 f7],rfl,rdO PO hw hS,?_⟩;refine cH (cE hw (fun _ w' v w2=>∃d,v= .bool d∧(d=true↔x=0)) (fun O w' r=>lI (oS hS r) (R6.cJ (kS hw r hS))) ?_);rintro O _ _ _ OX r he hw h_ ⟨d1,rfl,Ov⟩;replace hd:=hd.cK r (cF w) he (mC h_)
  cases d1
  ·refine⟨ady,Up,by omega,[.bool q0,.slice q1 q2 q3,.bool q4,.slice q5 q6 q7],rfl,rdO Qj hw hS,?_⟩;refine cH (cE hw (fun _ w' v w2=>∃d,v= .bool d∧(d=true↔y=0)) (fun O w' r=>lI (oS hS r) (Rn.cJ (kS hw r hS))) ?_);rintro O _ _ _ Oh r he hw h_ ⟨d2,rfl,Ps⟩;replace hd:=hd.cK r (cF w) he (mC h_)
   cases d2
   ·refine cQ hτ dx [.x 0,.x 1,.x 2,.x 3,.x 4,.x 5,.x 6,.x 7,.x 8] (by kernel_rfl) (by kernel_rfl) ?_;refine⟨ady,Up,by omega,[.bool q0,.slice q1 q2 q3,.bool q4,.slice q5 q6 q7],rfl,rdO Qj hw hS,?_⟩;refine cE hw (fun _ w' v w2=>dA w2 (Nf w' w2) v (x*y)) (fun O w' r=>Am (oS hS r) (R6.v.cJ (kS hw r hS)) (Rn.v.cJ (kS hw r hS))) ?_;rintro O _ _ _ On r he hw h_ hn;replace hd:=hd.cK r (cF w) he (mC h_);have hp:=hn.dF (S:=FF) r.cG (mN h_);obtain⟨C0,C1,C2,C3,C4,C5,C6,C7,rfl⟩:=hp.shape;refine cE hw (fun _ w' v w2=>dA w2 (Nf w' w2) v (dT xs ys i+x*y)) (fun O w' r=>HH (Rel.old r (cF w)) ((hd.rel r (cF w)).v (by omega)) ((hp.rel r (cF w)).v (by omega))) ?_;rintro O _ _ _ PN r he hw h_ hn;have Pg:=hn.dF (S:=FF) r.cG (mN h_);obtain⟨E0,E1,E2,E3,E4,E5,E6,E7,rfl⟩:=Pg.shape;rw[show dT xs ys i+x*y=dT xs ys (i+1) by rw[dT,RG,XP]]at Pg;refine⟨((i+1:Nat):Int),wo,?_⟩;intro ρ3 w3 r3;exact⟨(i+1,(E0,E4),(E1,E5),(E2,E3,E6,E7),w3,_),⟨OU,hw.tr r3.cU,Pg.rel r3 (cF w)⟩,Sub.gn [] r3,by dsimp only;omega⟩
   ·have QH:y=0:=Ps.1 rfl;rw[show dT xs ys i=dT xs ys (i+1) by rw[dT,RG,XP,QH,bD,bQ]]at hd;refine⟨((i+1:Nat):Int),wo,?_⟩;intro ρ3 w3 r3;exact⟨(i+1,(p0,p4),(p1,p5),(p2,p3,p6,p7),w3,_),⟨OU,hw.tr r3.cU,hd.rel r3 (cF w)⟩,Sub.gn [] r3,by dsimp only;omega⟩
  ·have Rg:x=0:=Ov.1 rfl;rw[show dT xs ys i=dT xs ys (i+1) by rw[dT,RG,XP,Rg,bI,bQ]]at hd;refine⟨((i+1:Nat):Int),wo,?_⟩;intro ρ3 w3 r3;exact⟨(i+1,(p0,p4),(p1,p5),(p2,p3,p6,p7),w3,_),⟨OU,hw.tr r3.cU,hd.rel r3 (cF w)⟩,Sub.gn [] r3,by dsimp only;omega⟩
 have OU:i=xs.length:=aU hi (by simpa using OU);subst OU;exact rtn hw fun ρe we re=>hd.out re (cF w)
structure gF(w:World)(S:Nat->Prop)(n i:Nat)(css:List (List Value))(qs:List Rat):Prop where
 len:css.length=n
 four:∀cs∈css,cs.length=4
 one:∀cs∈css,∀u∈cs,u.oneCell'=true
 at_:∀(j:Nat) cs q,j<i->css[j]? =some cs->qs[j]? =some q->iz w S cs q
section
variable{S S':Nat->Prop}{H:Hp}{nx n i:Nat}{iv iv':Iv}{B:Nat}{w w1 w' w2:World}{O:Nat->Sx.dw}{css:List (List Value)}{qs:List Rat}
theorem gF.cJ(h:gF w S n i css qs)(hk:∀g,S g->w2.heap[g]? =w.heap[g]?):gF w2 S n i css qs:=⟨h.len,h.four,h.one,fun j cs q hj h1 h2=>(h.at_ j cs q hj h1 h2).cJ hk⟩
theorem gF.cL(h:gF w S n i css qs)(hk:∀g,S g->S' g):gF w S' n i css qs:=⟨h.len,h.four,h.one,fun j cs q hj h1 h2=>(h.at_ j cs q hj h1 h2).cL hk⟩
theorem gF.rel(h:gF w (Cv S B iv) n i css qs)(r:Rel H nx iv B w O w')(hS:∀g,S g->g<B):gF w' (Cv S B iv) n i css qs:=h.cJ fun _ hg=>Rel.same r hS hg
theorem gF.cK(h:gF w (Cv S B iv) n i css qs)(r:Rel H nx iv B w O w')(hS:∀g,S g->g<B)(he:Ext w' w2)(hm:∀p,p∈iv->p∈iv'):gF w2 (Cv S B iv') n i css qs:=
 ((h.rel r hS).cJ fun g hg=>he.block g (Rel.old r hS g hg)).cL fun _ hg=>hg.mono hm
theorem gF.start(w:World)(S:Nat->Prop)(n:Nat)(qs:List Rat):gF w S n 0 (List.replicate n f0) qs:=
 ⟨by simp,fun cs hc=>by rw[bJ hc];rfl,fun cs hc u hu=>by rw[bJ hc]at hu;simp[f0]at hu;rcases hu with rfl|rfl|rfl|rfl<;>rfl,fun j cs q hj=>by omega⟩
theorem gF.next{b b2:Bool}{a2:Option Addr}{m c m2 c2:Nat}(h:gF w S n i css qs)(hi:i<n)(hq:qs[i]? =some q)(hf:dA w S (.agg #[.bool b,.slice a m c,.bool b2,.slice a2 m2 c2]) q):
  gF w S n (i+1) (css.set i [.bool b,.slice a m c,.bool b2,.slice a2 m2 c2]) qs:=by
 refine⟨by simp[h.len],fun cs hc=>?_,fun cs hc u hu=>?_,fun j cs p hj h1 h2=>?_⟩
 ·rcases av hc with hc|rfl
  ·exact h.four cs hc
  ·rfl
 ·rcases av hc with hc|rfl
  ·exact h.one cs hc u hu
  ·simp at hu;rcases hu with rfl|rfl|rfl|rfl<;>rfl
 ·by_cases Pj:i=j
  ·subst Pj;rw[aQ (by rw[h.len];exact hi)]at h1;rw[hq]at h2;injection h1 with h1;injection h2 with h2;subst h1 h2;exact hf.sH
  ·rw[aY Pj]at h1;exact h.at_ j cs p (by omega) h1 h2
theorem gF.flat(h:gF w S n i css qs):css.flatten.length=n*4:=by rw[ei h.four,h.len]
theorem gF.done{w0:World}(h:gF w1 (Cf w0 iv) n n css qs)(hl:qs.length=n)(hn:n<=maxLen)(r:Rel H nx iv w0.heap.size w1 O w'){id:Nat}(hH:dD H id=some (.arr T.Rat css.flatten))(Oo:(O id).nil=false):
  eR w' FF w0.heap.size [(w0.heap.size,w'.heap.size)] (.slice (some ⟨(O id).g,0,none⟩) n n) n qs:=by
 have h2:=h.rel r (cF w0);have Oa:=r.low id _ hH Oo;refine⟨⟨css,⟨h.flat,.inr ⟨(O id).g,n,css.flatten.toArray,rfl,aR _,r.arr id _ _ hH,Nat.le_refl _,hn,by simpa using h.flat,?_⟩⟩,h.len,?_⟩,fun g hg=>?_⟩
 ·rw[<-h.flat];exact bF
 ·refine⟨by rw[h.len,hl],fun j cs q h3 h4=>?_⟩;refine(h2.at_ j cs q (by rw[<-hl];exact(aE.1 h4).1) h3 h4).cL fun g hg=>⟨?_,fun e=>?_⟩
  ·rcases hg with hg|⟨k1,lo,hi,k2,k3,k4⟩
   ·exact hg.elim
   ·exact .inr ⟨k1,_,_,bL.2 rfl,k1,by have:=r.pC lo hi k2;have:=r.size;omega⟩
  ·injection e with e;exact Rel.not r (cF w0) hg id _ hH Oo e
 ·injection hg with hg;subst hg;exact .inr ⟨Oa.1,_,_,bL.2 rfl,Oa.1,Oa.2⟩
theorem gW.c(h:gW w S S v qs):cO w S v qs:=by
 obtain⟨css,h1,h2⟩:=h;exact⟨css,h1,h2.1,h2.mz,h2.2⟩
theorem eR.c(h:eR w S B iv v n qs):cO w (Cv S B iv) v qs:=h.read.c
theorem cO.rc(h:cO w S v qs):gW w S S v qs:=by
 obtain⟨css,h1,h2,h3,h4⟩:=h;exact⟨css,h1,h2,h4⟩
theorem gW.rel(h:gW w (Cv C B iv) (Cv S B iv) v qs)(r:Rel H nx iv B w O w')(hC:∀g,C g->g<B)(hS:∀g,S g->g<B):gW w' (Cv C B iv) (Cv S B iv) v qs:=
 h.cJ fun _ hg=>hg.elim (Rel.same r hC) (Rel.same r hS)
theorem gW.cK(h:gW w (Cv C B iv) (Cv S B iv) v qs)(r:Rel H nx iv B w O w')(hC:∀g,C g->g<B)(hS:∀g,S g->g<B)(he:Ext w' w2)(hm:∀p,p∈iv->p∈iv'):gW w2 (Cv C B iv') (Cv S B iv') v qs:=
 ((h.rel r hC hS).cJ fun g hg=>he.block g (hg.elim (Rel.old r hC g) (Rel.old r hS g))).cL (fun _ hg=>hg.mono hm) (fun _ hg=>hg.mono hm)
theorem gW.arg(h:gW w C S v qs)(iv:Iv):gW w (Cv C w.heap.size iv) (Cv S w.heap.size iv) v qs:=h.cL (fun _ h=>.inl h) (fun _ h=>.inl h)
theorem gW.shape(h:gW w C S v qs):∃a c,v= .slice a qs.length c∧qs.length<=c∧qs.length<=maxLen:=by
 obtain⟨css,⟨h0,_,_,a,c,h1,h2,_⟩,_⟩:=h;exact⟨a,c,h1,h2,h0⟩
theorem gW.load{n c j:Nat}(h:gW w C S (.slice a n c) qs)(hq:qs[j]? =some q):
  ∃ad cs,a=some ad∧iz w S cs q∧∀k u,cs[k]? =some u->C ad.block∧w.cell? ((ad.add (j*4)).add k)=some u:=by
 obtain⟨css,⟨h0,h1,h2,a',c',e,h3,h4⟩,hf⟩:=h;injection e with e1 e2 e3;subst e1;obtain⟨cs,PI⟩:∃cs,css[j]? =some cs:=⟨_,aA (by rw[hf.1];exact(aE.1 hq).1)⟩
 have hF:=hf.2 j cs q PI hq;have hl:=hF.len;obtain⟨ad,k1,k2,k3⟩:=h4 (j*4+0) _ (flat_get hf.mz PI 0 _ (aA (show 0<cs.length by omega)));refine⟨ad,cs,k1,hF,fun k u hu=>?_⟩;obtain⟨ad2,m1,m2,m3⟩:=h4 (j*4+k) u (flat_get hf.mz PI k u hu);rw[k1]at m1;injection m1 with m1;subst m1;refine⟨m2,?_⟩;rw[<-m3];have:(ad.add (j*4)).add k=ad.add (j*4+k):=by
  unfold Addr.add;split<;>split<;>simp_all<;>omega
 rw[this]
theorem Fb{j:Nat}{c:Nat}(h:w.ownsRow 0 T.Rat 4 (.slice a n c) n css.flatten)(hf:Fc w S css qs)(hj:css[j]? =some cs):
  ∃g,a=some ⟨g,0,none⟩∧∀k u,cs[k]? =some u->w.cell? ((Addr.add ⟨g,0,none⟩ (j*4)).add k)=some u:=by
 rcases h.2 with⟨h1,h0⟩|⟨g,cap,cur,Rb,_⟩
 ·have:=h.1;rw[ei hf.mz]at this;have:=(aE.1 hj).1;omega
 ·injection Rb with h1 h2 h3;subst h1;refine⟨g,rfl,fun k u hu=>?_⟩;have:=h.cells (g:=g) rfl (j*4+k) u (flat_get hf.mz hj k u hu);rw[dI,dI];rw[dI]at this;rw[Nat.add_assoc];exact this
end
theorem Fe(n:Nat)(w:World)(hn:n<=1000000):eG PG N.sB #[.int .i64 n] w (eL w fun v' w2=>eR w2 FF w.heap.size [(w.heap.size,w2.heap.size)] v' n (List.replicate n 0)):=by
 have hw:=bR w;refine wA (by simp) ?_
 refine⟨n,n,rfl,rfl,Nat.le_refl _,by omega,by omega,Nat×List (List Value)×Iv×World,fun z=>⟨[(3,.o (.s 0 0 n n)),(8,iZ n),(9,iN z.1)],[(0,.arr T.Rat z.2.1.flatten)],1,z.2.2.1,z.2.2.2⟩,fun z=>n-z.1,
  fun z=>z.1<=n∧dq w.heap.size w z.2.2.2∧gF z.2.2.2 (Cf w z.2.2.1) (n) z.1 z.2.1 (List.replicate n 0),?_,?_⟩
 ·intro O w' r;exact⟨(0,List.replicate (n) f0,_,w'),⟨by simp,hw.tr r.cU,gF.start _ _ _ _⟩,Sub.gn [] r⟩
 rintro⟨i,css,iv,w1⟩ ⟨hi,hw,hF⟩;dsimp only at hi hw hF ⊢;refine dN.mk ?_ ?_<;>intro h
 ·have h:i<n:=by simpa using h
  refine cH (cE hw (fun _ w' v w2=>dA w2 (Nf w' w2) v (((0:Int):Rat))) (fun O w' r=>jx 0 w' (by decide) (by decide)) ?_);rintro O _ _ _ Og r he hw h_ hn;replace hF:=hF.cK r (cF w) he (mC h_);have hd:=hn.dF (S:=FF) r.cG (mN h_);obtain⟨A0,A1,A2,A3,A4,A5,A6,A7,rfl⟩:=hd.shape;have Oi:=hF.next h (q:=_) (by simp[h]) hd
  refine⟨by omega,by have:=hF.flat;omega,(css.set i [.bool A0,.slice A1 A2 A3,.bool A4,.slice A5 A6 A7]).flatten,?_,?_⟩
  ·have:=gp (cs:=[.bool A0,.slice A1 A2 A3,.bool A4,.slice A5 A6 A7]) hF.four (show i<css.length by rw[hF.len];exact h);rw[<-this];simp
  refine⟨((i+1:Nat):Int),wo,?_⟩;intro ρ3 w3 r3;exact⟨(i+1,css.set i [.bool A0,.slice A1 A2 A3,.bool A4,.slice A5 A6 A7],_,w3),⟨h,hw.tr r3.cU,Oi.rel r3 (cF w)⟩,Sub.gn [] r3,by dsimp only;omega⟩
 have h:i=n:=aU hi (by simpa using h);subst h;exact rtn hw fun ρe we re=>hF.done (by simp) (by unfold maxLen;omega) re (id:=0) rfl (re.nn 0 _ rfl (by intros;simp) (by simp))
theorem wH{b:Rat}(hS:Old S w)(hx:dQ w S v xs)(hb:fE w S u b)(hn:xs.length<=1000000):
  eG PG N.qL #[v,u] w (eL w fun v' w2=>eR w2 FF w.heap.size [(w.heap.size,w2.heap.size)] v' xs.length (dR xs b)):=by
 have hw:=bR w;obtain⟨ax,cx,rfl,UW,Uo⟩:=dO.shape hx;obtain⟨g0,g1,g2,g3,g4,g5,g6,g7,rfl⟩:=hb.shape;have Oq:rl b<=100000:=hb.rl;refine uX (by simp) ?_
 refine⟨xs.length,xs.length,rfl,rfl,Nat.le_refl _,by omega,by omega,Nat×List (List Value)×Iv×World,fun z=>⟨[(3,pP 0 0),(5,.o (.s 1 0 xs.length xs.length)),(11,sV ax xs.length cx),(12,iZ xs.length),(13,iN z.1)],[(0,.box T.Rat [.v (.bool g0),.v (.slice g1 g2 g3),.v (.bool g4),.v (.slice g5 g6 g7)]),(1,.arr T.Rat z.2.1.flatten)],2,z.2.2.1,z.2.2.2⟩,fun z=>xs.length-z.1,
  fun z=>z.1<=xs.length∧dq w.heap.size w z.2.2.2∧gF z.2.2.2 (Cf w z.2.2.1) (xs.length) z.1 z.2.1 (dR xs b),?_,?_⟩
 ·intro O w' r;exact⟨(0,List.replicate (xs.length) f0,_,w'),⟨by simp,hw.tr r.cU,gF.start _ _ _ _⟩,Sub.gn [] r⟩
 rintro⟨i,css,iv,w1⟩ ⟨hi,hw,hF⟩;dsimp only at hi hw hF ⊢;refine dN.mk ?_ ?_<;>intro h
 ·have h:i<xs.length:=by simpa using h
  obtain⟨x,QG⟩:∃x,xs[i]? =some x:=⟨_,aA h⟩
  obtain⟨adx,csx,Pq,R6,-,PO⟩:=dO.load hx QG;obtain⟨f0,f1,f2,f3,f4,f5,f6,f7,rfl,R6⟩:=R6;refine⟨adx,Pq,by omega,[.bool f0,.slice f1 f2 f3,.bool f4,.slice f5 f6 f7],rfl,rdO PO hw hS,?_⟩;refine cH (cE hw (fun _ w' v w2=>dA w2 (Nf w' w2) v (x*b)) (fun O w' r=>Am (oS hS r) (R6.v.cJ (kS hw r hS)) (hb.v.cJ (kS hw r hS))) ?_);rintro O _ _ _ Og r he hw h_ hn;replace hF:=hF.cK r (cF w) he (mC h_);have hd:=hn.dF (S:=FF) r.cG (mN h_);obtain⟨A0,A1,A2,A3,A4,A5,A6,A7,rfl⟩:=hd.shape;have Oi:=hF.next h (q:=_) (by rw[dR,aM,QG];rfl) hd
  refine⟨by omega,by have:=hF.flat;omega,(css.set i [.bool A0,.slice A1 A2 A3,.bool A4,.slice A5 A6 A7]).flatten,?_,?_⟩
  ·have:=gp (cs:=[.bool A0,.slice A1 A2 A3,.bool A4,.slice A5 A6 A7]) hF.four (show i<css.length by rw[hF.len];exact h);rw[<-this];simp
  refine⟨((i+1:Nat):Int),wo,?_⟩;intro ρ3 w3 r3;exact⟨(i+1,css.set i [.bool A0,.slice A1 A2 A3,.bool A4,.slice A5 A6 A7],_,w3),⟨h,hw.tr r3.cU,Oi.rel r3 (cF w)⟩,Sub.gn [] r3,by dsimp only;omega⟩
 have h:i=xs.length:=aU hi (by simpa using h);subst h;exact rtn hw fun ρe we re=>hF.done (by simp[dR]) (by unfold maxLen;omega) re (id:=1) rfl (re.nn 1 _ rfl (by intros;simp) (by simp))
theorem NG(hS:Old S w)(hx:dQ w S v xs)(hy:dQ w S u ys)(hl:xs.length<=ys.length)(hn:xs.length<=1000000):
  eG PG N.uH #[v,u] w (eL w fun v' w2=>eR w2 FF w.heap.size [(w.heap.size,w2.heap.size)] v' xs.length (mO xs ys)):=by
 have hw:=bR w;obtain⟨ax,cx,rfl,UW,Uo⟩:=dO.shape hx;obtain⟨ay,cy,rfl,hcy,hmy⟩:=dO.shape hy;refine xu (by simp) ?_
 refine⟨xs.length,xs.length,rfl,rfl,Nat.le_refl _,by omega,by omega,Nat×List (List Value)×Iv×World,fun z=>⟨[(0,sV ax xs.length cx),(1,sV ay ys.length cy),(5,.o (.s 0 0 xs.length xs.length)),(11,iZ xs.length),(12,iN z.1)],[(0,.arr T.Rat z.2.1.flatten)],1,z.2.2.1,z.2.2.2⟩,fun z=>xs.length-z.1,
  fun z=>z.1<=xs.length∧dq w.heap.size w z.2.2.2∧gF z.2.2.2 (Cf w z.2.2.1) (xs.length) z.1 z.2.1 (mO xs ys),?_,?_⟩
 ·intro O w' r;exact⟨(0,List.replicate (xs.length) f0,_,w'),⟨by simp,hw.tr r.cU,gF.start _ _ _ _⟩,Sub.gn [] r⟩
 rintro⟨i,css,iv,w1⟩ ⟨hi,hw,hF⟩;dsimp only at hi hw hF ⊢;refine dN.mk ?_ ?_<;>intro h
 ·have h:i<xs.length:=by simpa using h
  obtain⟨x,QG⟩:∃x,xs[i]? =some x:=⟨_,aA h⟩
  obtain⟨y,UA⟩:∃x,ys[i]? =some x:=⟨_,aA (by omega)⟩
  obtain⟨adx,csx,Pq,R6,-,PO⟩:=dO.load hx QG;obtain⟨f0,f1,f2,f3,f4,f5,f6,f7,rfl,R6⟩:=R6;obtain⟨ady,csy,Up,Rn,-,Qj⟩:=dO.load hy UA;obtain⟨q0,q1,q2,q3,q4,q5,q6,q7,rfl,Rn⟩:=Rn;refine cQ hτ dx [.x 0,.x 1,.x 2,.x 3,.x 4,.x 5,.x 6,.x 7,.x 8,.x 9,.x 10,.x 11,.x 12] (by kernel_rfl) (by kernel_rfl) ?_;refine⟨adx,Pq,by omega,[.bool f0,.slice f1 f2 f3,.bool f4,.slice f5 f6 f7],rfl,rdO PO hw hS,ady,Up,by omega,[.bool q0,.slice q1 q2 q3,.bool q4,.slice q5 q6 q7],rfl,rdO Qj hw hS,?_⟩;refine cE hw (fun _ w' v w2=>dA w2 (Nf w' w2) v (x*y)) (fun O w' r=>Am (oS hS r) (R6.v.cJ (kS hw r hS)) (Rn.v.cJ (kS hw r hS))) ?_;rintro O _ _ _ Og r he hw h_ hn;replace hF:=hF.cK r (cF w) he (mC h_);have hd:=hn.dF (S:=FF) r.cG (mN h_);obtain⟨A0,A1,A2,A3,A4,A5,A6,A7,rfl⟩:=hd.shape;have Oi:=hF.next h (q:=_) (by rw[mO,List.getElem?_mapIdx,QG,List.getD,UA];rfl) hd
  refine⟨by omega,by have:=hF.flat;omega,(css.set i [.bool A0,.slice A1 A2 A3,.bool A4,.slice A5 A6 A7]).flatten,?_,?_⟩
  ·have:=gp (cs:=[.bool A0,.slice A1 A2 A3,.bool A4,.slice A5 A6 A7]) hF.four (show i<css.length by rw[hF.len];exact h);rw[<-this];simp
  refine⟨((i+1:Nat):Int),wo,?_⟩;intro ρ3 w3 r3;exact⟨(i+1,css.set i [.bool A0,.slice A1 A2 A3,.bool A4,.slice A5 A6 A7],_,w3),⟨h,hw.tr r3.cU,Oi.rel r3 (cF w)⟩,Sub.gn [] r3,by dsimp only;omega⟩
 have h:i=xs.length:=aU hi (by simpa using h);subst h;exact rtn hw fun ρe we re=>hF.done (by simp[mO]) (by unfold maxLen;omega) re (id:=0) rfl (re.nn 0 _ rfl (by intros;simp) (by simp))
theorem NH{vby vs:Value}{n:Nat}{ps:List Rat}(hC:Old C w)(hS:Old S w)(hrw:iq w S v n qs)(Oq:fE w S vby p)
  (hs:gW w C S vs ps) (Pb:ps.length=n) (VI:∀g,v.ownBlock=some g->¬S g) (hdc:∀g,v.ownBlock=some g->¬C g) (hq:∀q∈qs,rl q+1<=h) (hps:∀q∈ps,rl q+1<=h) (hb:rl p+1<=h) (hh:3*h<=90000):
  eG PG N.o7 #[v,vs,vby] w (fun e w2=>e= .returned (.tuple #[])∧w.grownBy w2 v.ownBlock∧iq w2 (Nw S w w2) v n (mM qs ps p)):=by
 obtain⟨css,OV,Pf,PS⟩:=hrw;have Oa:∀g,v.ownBlock=some g->g<w.heap.size:=fun g hg=>(ownsRow.low OV g hg).2;have PK:∀iv g,v.ownBlock=some g->Out w.heap.size iv g:=fun iv g hg=>.inl (Oa g hg);have Su:∀iv g,v.ownBlock=some g->¬Cv S w.heap.size iv g:=fun iv g hg h=>by
  rcases h with h|⟨h,_⟩
  ·exact VI g hg h
  ·have:=Oa g hg;omega
 have VJ:∀iv g,v.ownBlock=some g->¬Cv C w.heap.size iv g:=fun iv g hg h=>by
  rcases h with h|⟨h,_⟩
  ·exact hdc g hg h
  ·have:=Oa g hg;omega
 have SJ:qs.length=n:=by rw[<-PS.1,Pf]
 obtain⟨a,c,rfl,TF⟩:=fF OV;obtain⟨b1,a1,n1,c1,b2,a2,n2,c2,rfl⟩:=Oq.shape;obtain⟨asl,cs0,rfl,R1,Ty⟩:=hs.shape;rw[Pb]at R1 Ty hs ⊢;unfold maxLen at Ty;replace PS:=PS.cL (S':=Cv S w.heap.size []) fun _ h=>.inl h;replace Oq:=Oq.arg [];replace hs:=hs.arg [];refine yE (by simp) ?_;have PL:=OV;have hg:w.grownBy w (Value.slice a n c).ownBlock:=⟨rfl,rfl,rfl,Nat.le_refl _,fun _ _ _=>rfl⟩
 have hbyl:rl p<=100000:=Oq.rl
 refine⟨Nat×List (List Value)×Iv×World,fun z=>⟨[(0,sV a n c),(5,pP 0 0),(8,sV asl n cs0),(9,iZ n),(10,iZ z.1)],
   [(0,.box T.Rat [.v (.bool b1),.v (.slice a1 n1 c1),.v (.bool b2),.v (.slice a2 n2 c2)])],1,z.2.2.1,z.2.2.2⟩,fun z=>n-z.1,
  fun z=>z.1<=n∧w.grownBy z.2.2.2 (Value.slice a n c).ownBlock∧z.2.2.2.ownsRow 0 T.Rat 4 (.slice a n c) n z.2.1.flatten∧z.2.1.length=n∧Fc z.2.2.2 (Cv S w.heap.size z.2.2.1) z.2.1 (iO z.1 (pO (-p) ps) qs)∧
   fE z.2.2.2 (Cv S w.heap.size z.2.2.1) (.agg #[.bool b1,.slice a1 n1 c1,.bool b2,.slice a2 n2 c2]) p∧gW z.2.2.2 (Cv C w.heap.size z.2.2.1) (Cv S w.heap.size z.2.2.1) (.slice asl n cs0) ps,?_,?_⟩
 ·intro O w' r
  refine⟨(0,css,[],w'),⟨by simp,dc hg r.cU,fa PL (PK []) r,Pf,by rw[om];exact PS.rel r hS,Oq.rel r hS,hs.rel r hC hS⟩,
   Sub.gn [] r⟩
 rintro⟨i,css,iv,w1⟩ ⟨hi,hg,OV,Pf,PS,Oq,hs⟩;dsimp only at hi hg OV Pf PS Oq hs ⊢;refine dN.mk ?_ ?_<;>intro h
 ·have h:i<n:=by simpa using h
  obtain⟨cs,PI⟩:∃cs,css[i]? =some cs:=⟨_,aA (by omega)⟩
  obtain⟨q,Rr⟩:∃q,qs[i]? =some q:=⟨_,aA (by omega)⟩
  obtain⟨f,TS⟩:∃f,ps[i]? =some f:=⟨_,aA (by omega)⟩
  have hF:=PS.2 i cs q PI (ue Rr);have VK:pO (-p) ps i q=q-p*f:=by simp only[pO,List.getD,TS,Option.getD_some];grind
  obtain⟨d1,e1,m1,k1,d2,e2,m2,k2,rfl,hF⟩:=hF;have Wc:=hq q (aD Rr);have hrlf:=hps f (aD TS);obtain⟨ad,fcs,Ox,UB,PA⟩:=hs.load TS;obtain⟨f1,g1,o1,u1,f2,g2,o2,u2,rfl,UB⟩:=UB;refine⟨ad,Ox,by omega,[.bool f1,.slice g1 o1 u1,.bool f2,.slice g2 o2 u2],rfl,fun O w' r j x hx=>?_,?_⟩
  ·have Qa:=hs.rel r hC hS;obtain⟨k2',k3⟩:=PA j x hx;have:=Rel.same r hC k2';rw[aF,cI (w:=w1) (w2:=w') (by rw[dC,dC];exact this)];exact k3
  refine cH (cM (Φ:=fun _ _ v _=>∃d,v= .bool d∧(d=true↔f=0)) (fun O w' r=>lI (Rel.old r hS) ((UB.rel r hS).l (by omega))) ?_);rintro O wa v1 wb r he PQ ⟨dz,rfl,hz⟩;replace Oq:=Oq.cK (iv':=(wa.heap.size,wb.heap.size)::iv) r hS he fun x hx=>aC _ hx;replace PS:=PS.cK (iv':=(wa.heap.size,wb.heap.size)::iv) r hS he fun x hx=>aC _ hx;replace hs:=hs.cK (iv':=(wa.heap.size,wb.heap.size)::iv) r hC hS he fun x hx=>aC _ hx;replace UB:=UB.cK (iv':=(wa.heap.size,wb.heap.size)::iv) r hS he fun x hx=>aC _ hx;replace hF:=hF.cK (iv':=(wa.heap.size,wb.heap.size)::iv) r hS he fun x hx=>aC _ hx;replace OV:wb.ownsRow 0 T.Rat 4 (.slice a n c) n css.flatten:=ownsRow.cJ (fa OV (PK iv) r) fun b hb=>he.block b (by have:=Oa b hb;have:=r.cG;omega);replace hg:w.grownBy wb _:=dc hg PQ;generalize (wa.heap.size,wb.heap.size)::iv=OX at*
  cases dz
  ·refine cQ hτ dx [.x 0,.x 1,.x 2,.x 3,.x 4,.x 5,.x 6,.x 7,.x 8,.x 9,.x 10,.x 11] (by kernel_rfl) (by kernel_rfl) ?_;obtain⟨g,rfl,Oy⟩:=Fb OV PS PI;refine⟨⟨g,0,none⟩,rfl,by omega,[.bool d1,.slice e1 m1 k1,.bool d2,.slice e2 m2 k2],rfl,fun O w' r j x hx=>?_,?_⟩
   ·have:=Fb (fa OV (PK OX) r) (PS.rel r hS) PI;obtain⟨g',h1,h2⟩:=this;injection h1 with h1;rw[<-h1]at h2;exact h2 j x hx
   have RK:=ic p f;refine cM (Φ:=fun _ w' v w2=>dA w2 (Nf w' w2) v (p*f)) (fun O w' r=>Am (Rel.old r hS) (Oq.rel r hS).v ((UB.rel r hS).v (by omega))) ?_;rintro O wa v1 wb r he PQ hP;have Rh:=hP.dF (S:=S) r.cG (iv:=(wa.heap.size,wb.heap.size)::OX) aG;replace Oq:=Oq.cK (iv':=(wa.heap.size,wb.heap.size)::OX) r hS he fun x hx=>aC _ hx;replace PS:=PS.cK (iv':=(wa.heap.size,wb.heap.size)::OX) r hS he fun x hx=>aC _ hx;replace hs:=hs.cK (iv':=(wa.heap.size,wb.heap.size)::OX) r hC hS he fun x hx=>aC _ hx;replace hF:=hF.cK (iv':=(wa.heap.size,wb.heap.size)::OX) r hS he fun x hx=>aC _ hx;replace OV:wb.ownsRow 0 T.Rat 4 (.slice (some ⟨g,0,none⟩) n c) n css.flatten:=ownsRow.cJ (fa OV (PK OX) r) fun b hb=>he.block b (by have:=Oa b hb;have:=r.cG;omega);replace hg:w.grownBy wb _:=dc hg PQ;generalize (wa.heap.size,wb.heap.size)::OX=Oh at*
   obtain⟨b5,a5,n5,c5,b6,a6,n6,c6,rfl⟩:=Rh.shape;refine cM (Φ:=fun _ w' v w2=>dA w2 (Nf w' w2) v (q-p*f)) (fun O w' r=>La (Rel.old r hS) ((hF.rel r hS).v (by omega)) ((Rh.rel r hS).v (by omega))) ?_;rintro O wc v2 wd r he PQ hQ;have VL:=hQ.dF (S:=S) r.cG (iv:=(wc.heap.size,wd.heap.size)::Oh) aG;replace Oq:=Oq.cK (iv':=(wc.heap.size,wd.heap.size)::Oh) r hS he fun x hx=>aC _ hx;replace PS:=PS.cK (iv':=(wc.heap.size,wd.heap.size)::Oh) r hS he fun x hx=>aC _ hx;replace hs:=hs.cK (iv':=(wc.heap.size,wd.heap.size)::Oh) r hC hS he fun x hx=>aC _ hx;replace OV:wd.ownsRow 0 T.Rat 4 (.slice (some ⟨g,0,none⟩) n c) n css.flatten:=ownsRow.cJ (fa OV (PK Oh) r) fun b hb=>he.block b (by have:=Oa b hb;have:=r.cG;omega);replace hg:w.grownBy wd _:=dc hg PQ;generalize (wc.heap.size,wd.heap.size)::Oh=On at*
   obtain⟨b7,a7,n7,c7,b8,a8,n8,c8,rfl⟩:=VL.shape;rw[<-VK]at VL;refine⟨⟨g,0,none⟩,rfl,by omega,?_⟩;intro O w' r;have RO:=fa OV (PK On) r;have hF5:=(VL.rel r hS).sH;obtain⟨g',Qg,OZ,QB,Ot,PH⟩:=j1 (nv:=[.bool b7,.slice a7 n7 c7,.bool b8,.slice a8 n8 c8]) RO rfl h rfl (by decide);injection Qg with Qg;injection Qg with Qg;subst Qg;have Q1:=gp (cs:=[.bool b7,.slice a7 n7 c7,.bool b8,.slice a8 n8 c8]) PS.mz (show i<css.length by omega);rw[Q1]at QB;have PM:∀x,Cv S w.heap.size On x->(setCells w' ⟨g,i*4,none⟩ [.bool b7,.slice a7 n7 c7,.bool b8,.slice a8 n8 c8]).heap[x]? =w'.heap[x]? :=fun x hx=>
    Ot.block x (Rel.old r hS x hx) fun e=>Su On g rfl (by injection e with e;rw[<-e];exact hx)
   have PY:(⟨g,0,none⟩:Addr).add ((i:Int).toNat*4)=⟨g,i*4,none⟩:=by rw[aF,dI,aW]
   have VM:=((PS.rel r hS).cJ PM).set (j:=i) (hF5.cJ PM);rw[lg (f:=pO (-p) ps) Rr]at VM;have Sv:=(Oq.rel r hS).cJ PM;have Sf:∀x,Cv C w.heap.size On x->(setCells w' ⟨g,i*4,none⟩ [.bool b7,.slice a7 n7 c7,.bool b8,.slice a8 n8 c8]).heap[x]? =w'.heap[x]? :=fun x hx=>
    Ot.block x (Rel.old r hC x hx) fun e=>VJ On g rfl (by injection e with e;rw[<-e];exact hx)
   have hs6:=(hs.rel r hC hS).cJ fun x hx=>hx.elim (Sf x) (PM x);replace hg:w.grownBy (setCells w' ⟨g,i*4,none⟩ [.bool b7,.slice a7 n7 c7,.bool b8,.slice a8 n8 c8]) (some g):=ff (dc hg r.cU) Ot;have PR:=fun id b hb hn=>Rel.not r (fun _ h=>h) (PK On g rfl) id b hb hn;refine⟨by rw[PY],fun k hk=>by rw[PY];exact OZ k hk,fun id b hb hn=>by rw[PY];exact PR id b hb hn,fun w2 Oz=>?_⟩;have Oz:w2=setCells w' ⟨g,i*4,none⟩ [.bool b7,.slice a7 n7 c7,.bool b8,.slice a8 n8 c8]:=by rw[Oz];exact congrArg (fun x=>setCells w' x _) PY
   rw[<-Oz]at VM Sv QB hg PH hs6;refine⟨((i+1:Nat):Int),wo,?_⟩;intro ρ3 w3 r3
   exact⟨(i+1,css.set i [.bool b7,.slice a7 n7 c7,.bool b8,.slice a8 n8 c8],On,w3),⟨h,dc hg r3.cU,fa QB (PK On) r3,by simpa using Pf,VM.rel r3 hS,Sv.rel r3 hS,hs6.rel r3 hC hS⟩,
    Sub.gn [] r3,by dsimp only;omega⟩
  ·have hf0:f=0:=hz.1 rfl;have Od:pO (-p) ps i q=q:=by rw[VK,hf0];grind
   refine⟨((i+1:Nat):Int),wo,?_⟩;intro ρ3 w3 r3
   exact⟨(i+1,css,OX,w3),⟨h,dc hg r3.cU,fa OV (PK OX) r3,Pf,by rw[<-An Rr Od];exact PS.rel r3 hS,Oq.rel r3 hS,hs.rel r3 hC hS⟩,
    Sub.gn [] r3,by dsimp only;omega⟩
 ·have h:i=n:=by
   have:¬i<n:=by simpa using h
   omega
  subst h;intro ρ5 w5 r5;refine⟨rfl,dc hg r5.cU,css,fa OV (PK iv) r5,Pf,?_⟩;have:=(PS.rel r5 hS).cL (S':=Nw S w w5) fun g hg=>Cv.nw hg r5
  rwa [<-SJ,rL]at this
section
variable{S:Nat->Prop}{w:World}{v u vx vk vp:Value}{z:Int}{M K:List (List (Int×Int))}{b X P:List (Int×Int)}
end
end Go.Ex
namespace Go.Sx
open Go Go.Ex Go.Proofs
variable{cs:List Value}{O:Nat->Sx.dw}
theorem Sub.aA9{B:Nat}{l tl:Env}{nx:Nat}{H tH:Hp}{iv:Iv}{w w':World}{id t n sz:Nat}{e:TypeId}(r:Rel H nx iv B w O w')(PV:dD H id=some (.vec e sz cs))(hn:(O id).nil=false)(ht:fu l t=some (.o (.w id n)))
  (hs:vJ H tH) (ho:DD id tH=true) (h1:Ea l tl) (h2:kF nx tl):
  Sub B l nx O w' ⟨(t,.o (.v (.slice (some ⟨(O id).g,0,none⟩) n (O id).cap)))::tl,tH,nx,((O id).g,(O id).g+1)::iv,w'⟩:=
 ⟨O,r.free PV (by simp) hn hs ho,fun u v hv=>uc hn ht h1 h2 u v hv⟩
end Go.Sx
namespace Go.Ex
open Go Go.Sx Go.Proofs
end Go.Ex
namespace Go.Ex
open Go Go.Sx Go.Proofs
variable{css:List (List Value)}{qs ri:List Rat}{rv:List Value}{g:Nat}{a:Option Addr}{row:Option Nat}{q:Rat}{v:Value}
def Ob(rv:List Value)(g:Nat):Prop:=∃v∈rv,v.ownBlock=some g
def Lr(S:Nat->Prop)(B:Nat)(iv:Iv)(rv:List Value)(g:Nat):Prop:=Cv S B iv g∧¬Ob rv g
structure lh(w:World)(S:Nat->Prop)(B:Nat)(iv:Iv)(rv:List Value)(n:Nat)(M:List (List Rat)):Prop where
 len:rv.length=M.length
 row:∀(i:Nat) v qs,rv[i]? =some v->M[i]? =some qs->iq w (Lr S B iv rv) v n qs
 uf:∀(i j:Nat) a b g,rv[i]? =some a->rv[j]? =some b->a.ownBlock=some g->b.ownBlock=some g->i=j
 new:∀g,Ob rv g->Cv FF B iv g
theorem Ob.append:Ob (rv++[v]) g↔Ob rv g∨v.ownBlock=some g:=by
 unfold Ob;simp[or_and_right,exists_or]
section
variable{S S':Nat->Prop}{H:Hp}{nx n:Nat}{iv iv':Iv}{B:Nat}{w w' w2:World}{O:Nat->Sx.dw}{rv:List Value}{M:List (List Rat)}
theorem lh.nil:lh w S B iv [] n []:=⟨rfl,fun i v qs h=>(by cases h),fun i j a b g h=>(by cases h),fun g ⟨v,hv,_⟩=>by cases hv⟩
theorem lh.cJ(h:lh w S B iv rv n M)(hk:∀g,Cv S B iv g->w2.heap[g]? =w.heap[g]?):lh w2 S B iv rv n M:=
 ⟨h.len,fun i v qs h1 h2=>(h.row i v qs h1 h2).cJ fun g hg=>hg.elim (fun hg=>hk g hg.1) fun hg=>hk g (EP (h.new g ⟨v,aD h1,hg⟩)),h.uf,h.new⟩
theorem lh.rel(h:lh w S B iv rv n M)(r:Rel H nx iv B w O w')(hS:∀g,S g->g<B):lh w' S B iv rv n M:=h.cJ fun _ hg=>Rel.same r hS hg
theorem lh.mono(h:lh w S B iv rv n M)(hm:∀p,p∈iv->p∈iv'):lh w S B iv' rv n M:=
 ⟨h.len,fun i v qs h1 h2=>(h.row i v qs h1 h2).cL fun _ hg=>⟨hg.1.mono hm,hg.2⟩,h.uf,fun g hg=>(h.new g hg).mono hm⟩
theorem lh.cK(h:lh w S B iv rv n M)(r:Rel H nx iv B w O w')(hS:∀g,S g->g<B)(he:Ext w' w2)(hm:∀p,p∈iv->p∈iv'):lh w2 S B iv' rv n M:=
 ((h.rel r hS).cJ fun g hg=>he.block g (Rel.old r hS g hg)).mono hm
theorem lh.low(h:lh w S B iv rv n M)(hg:Ob rv g):B<=g:=(h.new g hg).elim (fun h=>h.elim) fun h=>h.1
theorem lh.lt(h:lh w S B iv rv n M)(r:Rel H nx iv B w O w')(hg:Ob rv g):g<w'.heap.size:=Rel.old r (gq B) g (h.new g hg)
theorem Lr.grown(r:Rel H nx iv B w O w')(hS:∀g,S g->g<B)(hg:w'.grownBy w2 row)(OV:∀g,row=some g->Ob rv g):∀g,Lr S B iv rv g->w2.heap[g]? =w.heap[g]? :=fun g h=>by
 rw[hg.block g (Rel.old r hS g h.1) fun e=>h.2 (OV g e.symm),Rel.same r hS h.1]
theorem lh.cU(h:lh w S B iv rv n M)(r:Rel H nx iv B w O w')(hg:w'.grownBy w2 row)(OV:∀g,row=some g->Ob rv g):dq B w' w2:=
 dq.grown hg (fun g e=>h.low (OV g e)) r.cG
theorem lh.setRow(h:lh w' S B iv rv n M)(PF:∀g,Cv S B iv g->g<w'.heap.size){i:Nat}{vi:Value}(UX:rv[i]? =some vi)(Ot:w'.grownBy w2 vi.ownBlock)(hB:B<=w'.heap.size)
  (hq:iq w2 (Nw (Lr S B iv rv) w' w2) vi n qs):lh w2 S B ((w'.heap.size,w2.heap.size)::iv) rv n (M.set i qs):=by
 have hnw:∀g,Nw (Lr S B iv rv) w' w2 g->Lr S B ((w'.heap.size,w2.heap.size)::iv) rv g:=fun g hg=>by
  rcases hg with hg|hg
  ·exact⟨hg.1.mono fun p hp=>aC _ hp,hg.2⟩
  ·exact⟨.inr ⟨by omega,_,_,aG,hg.1,hg.2⟩,fun hm=>by have:=PF g (EP (h.new g hm));omega⟩
 refine⟨by rw[bM];exact h.len,fun k v ps h1 h2=>?_,h.uf,fun g hg=>(h.new g hg).mono fun p hp=>aC _ hp⟩;by_cases hk:i=k
 ·subst hk;rw[UX]at h1;injection h1 with h1;subst h1;rw[aQ (by rw[<-h.len];exact(aE.1 UX).1)]at h2;injection h2 with h2;subst h2;exact hq.cL hnw
 ·rw[aY hk]at h2;refine((h.row k v ps h1 h2).cJ fun g hg=>?_).cL fun g hg=>⟨hg.1.mono fun p hp=>aC _ hp,hg.2⟩
  rcases hg with hg|hg
  ·exact Ot.block g (PF g hg.1) fun e=>hg.2 ⟨vi,aD UX,e.symm⟩
  ·exact Ot.block g (PF g (EP (h.new g ⟨v,aD h1,hg⟩))) fun e=>hk (h.uf i k vi v g UX h1 e.symm hg)
theorem lh.De(hM:lh w S B iv rv n M)(r:Rel H nx iv B w O w')(hS:∀g,S g->g<B){i j h:Nat}{vi vj vby:Value}{ri rj:List Rat}{p:Rat}(Pj:i≠j)(UX:rv[i]? =some vi)(Sw:rv[j]? =some vj)(hri:M[i]? =some ri)(hrj:M[j]? =some rj)
  (Oq:fE w (Lr S B iv rv) vby p) (hq:∀q∈ri,rl q+1<=h) (hqj:∀q∈rj,rl q+1<=h) (hb:rl p+1<=h) (hh:3*h<=90000):
  eG PG N.o7 #[vi,vj,vby] w' (fun e w2=>e= .returned (.tuple #[])∧w'.grownBy w2 vi.ownBlock∧(∀g,vi.ownBlock=some g->Ob rv g)∧lh w2 S B ((w'.heap.size,w2.heap.size)::iv) rv n (M.set i (mM ri rj p))):=by
 have S4:=hM.rel r hS;have h1:=S4.row i vi ri UX hri;have h2:=S4.row j vj rj Sw hrj;have TK:∀g,vi.ownBlock=some g->Ob rv g:=fun g hg=>⟨_,aD UX,hg⟩
 have hmj:∀g,vj.ownBlock=some g->Ob rv g:=fun g hg=>⟨_,aD Sw,hg⟩
 refine(NH (C:=fun g=>vj.ownBlock=some g) (S:=Lr S B iv rv) (fun x hx=>hM.lt r (hmj x hx)) (fun g hg=>Rel.old r hS g hg.1) h1 (fE.cJ Oq fun g hg=>Rel.same r hS hg.1) h2.read h2.len (fun g hg hx=>hx.2 (TK g hg)) (fun g hg hx=>Pj (hM.uf i j _ _ g UX Sw hg hx)) hq hqj hb hh).mono fun e w8 he=>?_;obtain⟨rfl,Ot,OV⟩:=he;exact⟨rfl,Ot,TK,S4.setRow (fun g hg=>Rel.old r hS g hg) UX Ot r.cG OV⟩
theorem lh.form(hM:lh w S B iv rv n M){i:Nat}(hv:rv[i]? =some v):∃a c,v= .slice a n c:=by
 obtain⟨qs,hq⟩:∃qs,M[i]? =some qs:=⟨_,aA (by rw[<-hM.len];exact(aE.1 hv).1)⟩
 obtain⟨a,c,h,_⟩:=(hM.row i v qs hv hq).form;exact⟨a,c,h⟩
theorem lh.load(hM:lh w S B iv rv n M){i k:Nat}{c:Nat}(hv:rv[i]? =some (.slice a n c))(hq:M[i]? =some qs)(hk:qs[k]? =some q):
  ∃ad cs,a=some ad∧iz w (Lr S B iv rv) cs q∧∀j u,cs[j]? =some u->Cv FF B iv ad.block∧w.cell? ((ad.add (k*4)).add j)=some u:=by
 obtain⟨ad,cs,h1,h2,h3⟩:=gW.load (hM.row i _ qs hv hq).read hk;refine⟨ad,cs,h1,h2,fun j u hu=>⟨?_,(h3 j u hu).2⟩⟩;have:=(h3 j u hu).1;exact hM.new _ ⟨_,aD hv,this⟩
theorem lh.store(hM:lh w S B iv rv n M)(r:Rel H nx iv B w O w')(hS:∀g,S g->g<B){i k:Nat}{a1 a2:Option Addr}{c n1 c1 n2 c2:Nat}{b b2:Bool}(UX:rv[i]? =some (.slice a n c))(hri:M[i]? =some ri)(hk:k<n)
  (hf:dA w (Lr S B iv rv) (.agg #[.bool b,.slice a1 n1 c1,.bool b2,.slice a2 n2 c2]) q):
  ∃g,a=some ⟨g,0,none⟩∧((⟨g,0,none⟩:Addr).add ((k:Int).toNat*4)).spot=none∧
   (∀j,j<4->(w'.cell? (((⟨g,0,none⟩:Addr).add ((k:Int).toNat*4)).add j)).isSome=true∧w'.frozen? (((⟨g,0,none⟩:Addr).add ((k:Int).toNat*4)).add j)=false)∧
   (∀id b,dD H id=some b->(O id).nil=false->(O id).g≠((⟨g,0,none⟩:Addr).add ((k:Int).toNat*4)).block)∧
   ∀w2,w2=setCells w' ((⟨g,0,none⟩:Addr).add ((k:Int).toNat*4)) [.bool b,.slice a1 n1 c1,.bool b2,.slice a2 n2 c2]->lh w2 S B iv rv n (M.set i (ri.set k q))∧dq B w' w2∧Rel H nx iv B w2 O w2∧∀g,Lr S B iv rv g->w2.heap[g]? =w.heap[g]? :=by
 have S4:=hM.rel r hS;have TK:∀g,(Value.slice a n c).ownBlock=some g->Ob rv g:=fun g hg=>⟨_,aD UX,hg⟩
 obtain⟨g,rfl,h1,h2,h3,h4⟩:=(S4.row i _ ri UX hri).store hk (hf.cJ fun g hg=>Rel.same r hS hg.1) (fun g hg hx=>hx.2 (TK g hg)) (fun x hx=>Rel.old r hS x hx.1);refine⟨g,rfl,h1,h3,fun id b hb hn=>by rw[h2];exact Rel.not r (gq B) (hM.new g (TK g rfl)) id b hb hn,fun w2 Oz=>?_⟩;obtain⟨k1,k2,k3⟩:=h4 w2 Oz;have hs:=S4.setRow (fun g hg=>Rel.old r hS g hg) UX k2 r.cG (k1.cL fun g hg=>.inl hg);refine⟨?_,hM.cU r k2 TK,r.yu (fun id b hb hn=>Rel.not r (gq B) (hM.new g (TK g rfl)) id b hb hn) k2,Lr.grown r hS k2 TK⟩;refine⟨hs.len,fun j v qs h5 h6=>(hs.row j v qs h5 h6).cL fun x hx=>⟨?_,hx.2⟩,hs.uf,fun x hx=>hM.new x hx⟩;rcases hx.1 with hx|⟨m1,lo,hi,m2,m3,m4⟩
 ·exact .inl hx
 ·rcases List.mem_cons.1 m2 with e|m2
  ·injection e with e1 e2;subst e1 e2;omega
  ·exact .inr ⟨m1,lo,hi,m2,m3,m4⟩
theorem lh.push(hM:lh w S B iv rv n M){gx c:Nat}(Q3:∀g,Cv S B iv g->g≠gx)(hBx:B<=gx)(OV:iq w S (.slice (some ⟨gx,0,none⟩) n c) n qs)(hS:∀g,S g->g<B):
  lh w S B ((gx,gx+1)::iv) (rv++[.slice (some ⟨gx,0,none⟩) n c]) n (M++[qs]):=by
 have RE:∀g,Ob rv g->g≠gx:=fun g hg=>Q3 g (EP (hM.new g hg))
 have WA:∀g,Lr S B iv rv g->Lr S B ((gx,gx+1)::iv) (rv++[.slice (some ⟨gx,0,none⟩) n c]) g:=fun g hg=>⟨hg.1.mono fun p hp=>aC _ hp,fun h=>by
  rcases Ob.append.1 h with h|h
  ·exact hg.2 h
  ·injection h with h;exact Q3 g hg.1 h.symm⟩
 refine⟨by simp[hM.len],fun i v ps h1 h2=>?_,fun i j a b g h1 h2 h3 h4=>?_,fun g hg=>?_⟩
 ·rcases aS i rv.length with hi|hi
  ·rw[aK hi]at h1;rw[aK (by rw[<-hM.len];exact hi)]at h2;exact(hM.row i v ps h1 h2).cL WA
  ·have SF:i=rv.length:=by have:=(aE.1 h1).1;simp at this;omega
   rw[SF,aO (Nat.le_refl _),bK]at h1;rw[SF,hM.len,aO (Nat.le_refl _),bK]at h2;simp at h1 h2;subst h1 h2;refine OV.cL fun g hg=>⟨.inl hg,fun h=>?_⟩
   have:=hS g hg;rcases Ob.append.1 h with h|h
   ·have:=hM.low h;omega
   ·injection h with h;have h:gx=g:=h;omega
 ·have key:∀(k:Nat) v,(rv++[Value.slice (some ⟨gx,0,none⟩) n c])[k]? =some v->(k<rv.length∧rv[k]? =some v)∨(k=rv.length∧v= .slice (some ⟨gx,0,none⟩) n c):=fun k v hk=>by
   rcases aS k rv.length with hi|hi
   ·rw[aK hi]at hk;exact .inl ⟨hi,hk⟩
   ·have SF:k=rv.length:=by have:=(aE.1 hk).1;simp at this;omega
    rw[SF,aO (Nat.le_refl _),bK]at hk;simp at hk;exact .inr ⟨SF,hk.symm⟩
  rcases key i a h1 with⟨_,k1⟩|⟨e1,rfl⟩<;>rcases key j b h2 with⟨_,k2⟩|⟨e2,rfl⟩
  ·exact hM.uf i j a b g k1 k2 h3 h4
  ·injection h4 with h4;exact absurd h4.symm (RE g ⟨a,aD k1,h3⟩)
  ·injection h3 with h3;exact absurd h3.symm (RE g ⟨b,aD k2,h4⟩)
  ·rw[e1,e2]
 ·rcases Ob.append.1 hg with h|h
  ·exact(hM.new g h).mono fun p hp=>aC _ hp
  ·injection h with h;have h:gx=g:=h;subst h;exact .inr ⟨hBx,_,_,aG,Nat.le_refl _,bY _⟩
theorem lh.drop(hM:lh w S B iv (rv++[v]) n (M++[qs])):lh w S B iv rv n M:=by
 have hl:rv.length=M.length:=by have:=hM.len;simpa using this
 have RE:∀g,Ob rv g->Ob (rv++[v]) g:=fun g hg=>Ob.append.2 (.inl hg);refine⟨hl,fun i u ps h1 h2=>?_,fun i j a b g h1 h2=>hM.uf i j a b g ?_ ?_,fun g hg=>hM.new g (RE g hg)⟩
 ·have hi:=(aE.1 h1).1;exact(hM.row i u ps (by rw[aK hi];exact h1) (by rw[aK (by rw[<-hl];exact hi)];exact h2)).cL fun g hg=>⟨hg.1,fun h=>hg.2 (RE g h)⟩
 ·rw[aK (aE.1 h1).1];exact h1
 ·rw[aK (aE.1 h2).1];exact h2
theorem aAs{id m:Nat}(r:Rel H nx iv B w O w')(h:dD H id=some (.vec T.Rat 4 css.flatten))(hl:css.length=m)(h0:0<m)(hm:m<=maxLen)(hF:Fc w' S css qs):
  (O id).nil=false∧B<=(O id).g∧(∀g,Out B iv g->g≠(O id).g)∧iq w' S (.slice (some ⟨(O id).g,0,none⟩) m (O id).cap) m qs:=by
 have PA:=ei hF.mz;rcases r.vec id _ _ _ h with⟨_,h2⟩|⟨h1,spare,h2,h3,h4⟩
 ·rw[h2]at PA;rw[hl]at PA;simp at PA;omega
 ·refine⟨h1,(r.low id _ h h1).1,fun g hg e=>?_,css,⟨by rw[PA,hl],.inr ⟨(O id).g,(O id).cap,_,rfl,aR _,h2,?_,h4,by simpa using h3,by rw[show m*4=css.flatten.length by rw[PA,hl]];simp⟩⟩,hl,hF⟩
  ·exact Rel.not r (fun _ h=>h) hg id _ h h1 e.symm
  ·rw[List.length_append,PA,hl]at h3;omega
end
end Go.Ex
namespace Go.Sx
open Go Go.Ex Go.Proofs
variable{O:Nat->Sx.dw}
theorem Sub.Dk{B nx:Nat}{l:Env}{H:Hp}{iv:Iv}{w w':World}{t:yv}(id p e sz:Nat){bt:Nat}{cs:List At}(PV:dD H id=some (.box bt cs))(hp:cs[p]? =some (.v (.slice none 0 0)))(R1:kF nx l)(r:Rel H nx iv B w O w')
  (h:∀ρ1,Rel ((id,.box bt (cs.set p (.w nx 0)))::(nx,.vec e sz [])::H) (nx+1) iv B w ρ1 w'->Sx.Sub B l (nx+1) ρ1 w' t):Sx.Sub B l nx O w' t:=by
 have r1:=r.push (.vec e sz []) ⟨0,0,true⟩ (w2:=w') rfl rfl rfl (Nat.le_refl _) (fun _ _=>rfl) (fun h=>by cases h) (.inl ⟨rfl,rfl⟩) trivial;have OY:id≠nx:=Nat.ne_of_lt (r.keys id _ PV);have Wd:dD ((nx,.vec e sz [])::H) id=some (.box bt cs):=by rw[dB,aJ (fun h=>OY h.symm)];exact PV
 have WB:=r1.nn id _ Wd (by intros;simp) (by simp);have PC:=r1.box id bt cs Wd;have R7:(cs.set p (.w nx 0)).map (At.den (Sx.gS O nx ⟨0,0,true⟩))=cs.map (At.den (Sx.gS O nx ⟨0,0,true⟩)):=by
  refine bH fun j=>?_;rw[aM,aM];by_cases hj:p=j
  ·subst hj;rw[aQ (aE.1 hp).1,hp];simp[At.den,eS]
  ·rw[aY hj]
 have r2:=r1.store (b':=.box bt (cs.set p (.w nx 0))) (H':=(id,.box bt (cs.set p (.w nx 0)))::(nx,.vec e sz [])::H) (w2:=w') Wd (by simp) WB (fun j=>by
  rw[dB];by_cases hj:id=j
  ·subst hj;rw[if_pos rfl]
  ·rw[aJ hj,aJ (fun h=>hj h.symm)]) rfl rfl rfl rfl (fun _ _=>rfl) ⟨WB,by rw[R7];exact PC⟩ (fun x hx=>by
   rcases av hx with hx|rfl
   ·exact r1.KA id bt cs Wd x hx
   ·exact bY nx)
 obtain⟨ρ',h1,h2⟩:=h _ r2;refine⟨ρ',h1,fun x v hv=>?_⟩;obtain⟨h3,v0,h4,h5⟩:=h2 x v hv;refine⟨h3,v0,h4,?_⟩;rw[<-h5];exact SV.je (fun id PV=>gM id PV) (R1.get _ _ h4)
end Go.Sx
namespace Go.Ex
open Go Go.Sx Go.Proofs
end Go.Ex
namespace Go.Ex
open Go Go.Sx Go.Proofs
inductive Tq where
 |nil
 |x (i:Nat) (t:Tq)
 |two (i:Nat) (t:Tq) (j:Nat) (u:Tq)
 |three (i:Nat) (t:Tq) (j:Nat) (u:Tq) (k:Nat) (v:Tq)
section
variable{P:Program}{τ:nF}{ops:Array Oper}{B n nx:Nat}{l:Env}{H:Hp}{iv:Iv}{w w':World}{O:Nat->Sx.dw}{a:Act}
end
end Go.Ex
