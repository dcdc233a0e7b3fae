/- Texts L41 to XTq: lemmas, each with its conditions. -/
import Derived.Test.YtgkpbdkechfgmaaGreatP10
namespace Go.Ex
variable{M:List (List Rat)}{E:Mx}{B n r:Nat}{p q:Nat->Nat}{v:Nat->Rat}
theorem eX.JX{F:Mx}(h:eX E r n v)(e:∀i t,i<r->t<n->F i t=E i t):eX F r n v:=by
 obtain⟨c,hc⟩:=h;exact⟨c,fun t ht=>by rw[hc t ht];exact cN fun i hi=>by rw[e i t hi ht]⟩
theorem eX.more{s:Nat}(h:eX E r n v)(k:r<=s):eX E s n v:=h.trans fun i hi=>eX.row (Nat.lt_of_lt_of_le hi k)
theorem Ru.congr{F:Mx}(h:Ru E p r n)(e:∀i t,i<r->t<n->F i t=E i t)(ep:∀i,i<r->q i=p i):Ru F q r n:=
 ⟨fun i hi=>by rw[ep i hi];exact h.lt i hi,fun i j hi hj k=>h.inj i j hi hj (by rw[<-ep i hi,<-ep j hj];exact k),fun i j hi hj=>by rw[ep i hi,e j _ hj (h.lt i hi)];exact h.unit i j hi hj,
  fun i t hi ht=>by rw[ep i hi]at ht;rw[e i t hi (by have:=h.lt i hi;omega)];exact h.lead i t hi ht⟩
theorem Bt.congr{F Z Y:Mx}(h:Bt E p r n B Z)(e:∀i t,i<r->t<n->F i t=E i t)(ep:∀i,i<r->q i=p i)(eZ:∀i t,i<r->t<n->Y i t=Z i t):Bt F q r n B Y:=by
 refine⟨h.ru.congr e ep,fun i hi=>((h.sp i hi).congr fun t ht=>eZ i t hi ht).JX e,fun i t hi ht=>by rw[eZ i t hi ht];exact h.ib i t hi ht,?_⟩;rw[show wK Y q r=wK Z p r from fG fun i j hi hj=>by rw[ep _ (by omega),eZ _ _ (by omega) (h.ru.lt _ (by omega))]];exact h.nz
theorem Bu(row:List Rat):∀f k,k<=q9 row f k∧q9 row f k<=k+f∧(∀t,k<=t->t<q9 row f k->row.getD t 0=0)∧(q9 row f k<k+f->row.getD (q9 row f k) 0≠0)
 |0,k=>by
  unfold q9;exact⟨Nat.le_refl _,Nat.le_refl _,fun t h1 h2=>by omega,fun h=>by omega⟩
 |f+1,k=>by
  unfold q9;split
  ·rename_i h;obtain⟨h1,h2,h3,h4⟩:=Bu row f (k+1);refine⟨by omega,by omega,fun t k1 k2=>?_,fun h5=>h4 (by omega)⟩;rcases aP k t with h5|h5
   ·exact h3 t h5 k2
   ·rw[show t=k by omega];exact h
  ·rename_i h;exact⟨Nat.le_refl _,by omega,fun t h1 h2=>by omega,fun _=>h⟩
theorem MX(row:List Rat)(n:Nat):wH row n<=n∧(∀t,t<wH row n->row.getD t 0=0)∧(wH row n≠n->row.getD (wH row n) 0≠0):=by
 obtain⟨_,h2,h3,h4⟩:=Bu row n 0;unfold wH;exact⟨by omega,fun t h=>h3 t (aO _) h,fun h=>h4 (by omega)⟩
theorem MY(y:List Rat)(q:Rat)(t:Nat):(y.map (· / q)).getD t 0=y.getD t 0 / q:=by
 simp only[List.getD,aN]
 cases y[t]? with
 |none=>show(0:Rat)=0 / q;rw[bV,bC]
 |some x=>rfl
structure JY(M:List (List Rat))(n B i:Nat)(s:AD)(p:Nat->Nat)(Z:Mx):Prop where
 ok:wI n n i s
 piv:∀k,k<n->∀r:Nat,s.2.1[k]? =some (some r)↔r<s.1.length∧p r=k
 Bv:Bt (cY s.1) p s.1.length n B Z
 up:∀r,r<s.1.length->eX (cY M) i n (cY s.1 r)
 dn:∀j,j<i->eX (cY s.1) s.1.length n (cY M j)
section
variable{M:List (List Rat)}{n B i:Nat}{s:AD}{p:Nat->Nat}{Z:Mx}
theorem JY.nP(h:JY M n B i s p Z){x:List Rat}(hx:x.length=n):∀k,k<=n->∀t,t<n->(gL s.1 s.2.1 x k).getD t 0=nP (cY s.1) p s.1.length (fun t=>x.getD t 0) k t
 |0,_,t,ht=>by rw[OG];rfl
 |k+1,hk,t,ht=>by
  have ih:=JY.nP h hx k (by omega);obtain⟨o,ho⟩:∃o,s.2.1[k]? =some o:=⟨_,aB (by rw[h.ok.at_];omega)⟩
  have hd:s.2.1.getD k none=o:=by rw[List.getD,ho];rfl
  rw[gL,hd]
  cases o with
  |none=>
   simp only
   rw[ih t ht,OH fun r hr e=>?_];have:=(h.piv k (by omega) r).2 ⟨hr,e⟩;rw[ho]at this
   cases this
  |some r=>
   simp only
   obtain⟨hr,e⟩:=(h.piv k (by omega) r).1 ho;rw[nZ,yF (by rw[jC,hx];exact ht),ih t ht,ih k (by omega),<-e,OI h.Bv.ru hr];rfl
theorem JY.step(h:JY M n B i s p Z)(hM:fq n M)(hi:i<M.length){d:Rat}(hd:d≠0)(hz:∀t,t<n->Ib B (d*cY M i t)):
  ∃p' Z',JY M n B (i+1) (lK n s i (M.getD i [])) p' Z':=by
 have hx:(M.getD i []).length=n:=hM.getD hi;have Oc:=h.ok.step hx;obtain⟨y,hy⟩:∃y,gL s.1 s.2.1 (M.getD i []) n=y:=⟨_,rfl⟩
 have hu:∀t,t<n->y.getD t 0=Go.Ex.nP (cY s.1) p s.1.length (cY M i) n t:=fun t ht=>by rw[<-hy];exact h.nP hx n (Nat.le_refl _) t ht
 have hyl:y.length=n:=by rw[<-hy,jC,hx]
 obtain⟨q1,q2,q3⟩:=MX y n;by_cases hq:wH y n=n
 ·have e:lK n s i (M.getD i [])=s:=by unfold lK;simp only[hy,hq,if_true]
  rw[e]at Oc ⊢;refine⟨p,Z,Oc,h.piv,h.Bv,fun r hr=>(h.up r hr).more (Nat.le_succ i),fun j hj=>?_⟩;rcases aP j i with h1|h1
  ·exact h.dn j h1
  ·rw[show j=i by omega];refine⟨fun j=>cY M i (p j),fun t ht=>?_⟩;have h2:=hu t ht;rw[q2 t (by omega)]at h2;unfold Go.Ex.nP at h2;rw[cN (g:=fun j=>cY M i (p j)*cY s.1 j t) fun j hj=>if_pos (h.Bv.ru.lt j hj)]at h2;grind
 ·have h0:=q3 hq;obtain⟨k,hk⟩:∃k,wH y n=k:=⟨_,rfl⟩
  rw[hk]at hq h0 q1 q2;have Vb:k<n:=by omega
  have e:lK n s i (M.getD i [])=(gp s.1 (y.map (· / y.getD k 0)) k s.1.length++[y.map (· / y.getD k 0)],s.2.1.set k (some s.1.length),s.2.2++[i]):=by
   unfold lK;simp only[hy,hk,aK hq]
  rw[e]at Oc ⊢;have hl:(gp s.1 (y.map (· / y.getD k 0)) k s.1.length).length=s.1.length:=gO ..;have SK:(gp s.1 (y.map (· / y.getD k 0)) k s.1.length++[y.map (· / y.getD k 0)]).length=s.1.length+1:=by rw[List.length_append,hl];rfl
  have hdv:∀t,t<n->(y.map (· / y.getD k 0)).getD t 0=y.getD t 0 / y.getD k 0:=fun t _=>MY y _ t;have hE:∀a t,a<s.1.length+1->t<n->cY (gp s.1 (y.map (· / y.getD k 0)) k s.1.length++[y.map (· / y.getD k 0)]) a t=lr (cY s.1) s.1.length (fun t=>y.getD t 0) k a t:=fun a t ha ht=>by
   unfold lr;by_cases h1:a=s.1.length
   ·rw[if_pos h1,<-hdv t ht,cY];congr 1;rw[List.getD,aM (by omega),hl,h1,bI];rfl
   ·have RB:a<s.1.length:=by omega
    have hr:=aB RB;have Ot:(s.1[a]).length=n:=h.ok.len _ (a9 RB);have hg:s.1.getD a []=s.1[a]:=by rw[List.getD,hr];rfl
    have OX:(gp s.1 (y.map (· / y.getD k 0)) k s.1.length++[y.map (· / y.getD k 0)]).getD a []=nZ s.1[a] (y.map (· / y.getD k 0)) ((s.1[a]).getD k 0):=by
     rw[List.getD,aJ (by omega),gp,List.getElem?_mapIdx,hr];simp only[bh,Option.getD_some,if_pos RB]
    rw[aK h1,cY,OX,nZ,yF (by omega),hdv t ht];unfold cY;rw[hg]
  have hC:=h.Bv.push hd hz hu Vb h0 q2;have UR:=aCq (v:=cY M i) hu h.Bv.ru.lt;refine⟨fun i=>if i=s.1.length then k else p i,fun a t=>if a=s.1.length then d*cY M i t else Z a t,Oc,?_,?_,?_,?_⟩
  ·intro c hc r;dsimp only
   rw[SK];have OZ:∀j,j<s.1.length->p j≠k:=fun j hj e=>h0 (by rw[hu k Vb,<-e];exact Kv h.Bv.ru hj);by_cases h1:c=k
   ·rw[h1,aR (by rw[h.ok.at_];exact Vb)];constructor
    ·intro e;injection e with e;injection e with e;exact⟨by omega,by rw[if_pos e.symm]⟩
    ·rintro⟨h2,h3⟩;by_cases h4:r=s.1.length
     ·rw[h4]
     ·rw[aK h4]at h3;exact absurd h3 (OZ r (by omega))
   ·rw[aX (Ne.symm h1),h.piv c hc r];constructor
    ·rintro⟨h2,h3⟩;exact⟨by omega,by rw[aK (by omega)];exact h3⟩
    ·rintro⟨h2,h3⟩;by_cases h4:r=s.1.length
     ·rw[if_pos h4]at h3;exact absurd h3.symm h1
     ·rw[aK h4]at h3;exact⟨by omega,h3⟩
  ·dsimp only
   rw[SK];exact hC.congr hE (fun _ _=>rfl) fun _ _ _ _=>rfl
  ·dsimp only
   rw[SK];intro a ha;refine((OJ (k:=k) UR a ha).trans fun b hb=>?_).congr fun t ht=>hE a t ha ht;by_cases h1:b=s.1.length
   ·exact(eX.row (show i<i+1 by omega)).congr fun t _=>by unfold kk;rw[if_pos h1]
   ·exact((h.up b (by omega)).more (Nat.le_succ i)).congr fun t _=>by unfold kk;rw[aK h1]
  ·dsimp only
   rw[SK];intro j hj;refine eX.JX ?_ hE;rcases aP j i with h1|h1
   ·exact(h.dn j h1).trans fun b hb=>tE h0 b hb
   ·rw[show j=i by omega];exact E3 h0 hu h.Bv.ru.lt
end
theorem tI{M:List (List Rat)}{n B:Nat}(hM:fq n M)(hW:Fm M n B):∀i,i<=M.length->∃p Z,JY M n B i (im M n i) p Z
 |0,_=>⟨fun _=>0,fun _ _=>0,wI.start n n,fun k _ r=>⟨fun h=>(by
   simp only[im,List.getElem?_replicate]at h
   split at h<;>cases h),fun h=>(by have:=h.1;simp[im]at this)⟩,Bt.start _ _ _ _ _,fun r h=>(by simp[im]at h),fun j h=>by omega⟩
 |i+1,hi=>by
  obtain⟨p,Z,h⟩:=tI hM hW i (by omega);obtain⟨d,hd,-,hz⟩:=hW i (by omega);exact h.step hM (by omega) hd hz
theorem OO(hM:fq n M)(hW:Fm M n B)(hB:1<=B){i:Nat}(hi:i<=M.length):∀r∈(im M n i).1,∀q∈r,rl q<=ln (fB B M.length):=fun r hr q hq=>by
 obtain⟨p,Z,h⟩:=tI hM hW i hi;obtain⟨a,ha⟩:=aS hr;obtain⟨t,ht⟩:=aS hq;have RB:=(aE.1 ha).1;have TC:=(aE.1 ht).1;rw[h.ok.len r hr]at TC;have h1:=h.Bv.OM RB TC;rw[cY,show(im M n i).1.getD a []=r by rw[List.getD,ha];rfl,show r.getD t 0=q by rw[List.getD,ht];rfl]at h1;exact aV h1 (fk (tF hB (aV h.ok.le hi)))
theorem OP(hM:fq n M)(hW:Fm M n B)(hB:1<=B){i k:Nat}(hi:i<M.length)(hk:k<=n):∀q∈gL (im M n i).1 (im M n i).2.1 (M.getD i []) k,rl q<=ln (fB B M.length):=fun q hq=>by
 obtain⟨p,Z,h⟩:=tI hM hW i (by omega);have hx:(M.getD i []).length=n:=hM.getD hi;obtain⟨t,ht⟩:=aS hq;have TC:=(aE.1 ht).1;rw[jC,hx]at TC;have h1:=h.nP hx k hk t TC;rw[show (gL (im M n i).1 (im M n i).2.1 (M.getD i []) k).getD t 0=q by rw[List.getD,ht];rfl]at h1;obtain⟨d,hd,hdB,hz⟩:=hW i hi;rw[h1];exact aV (h.Bv.ON hB hd hdB hz k TC) (fk (tF hB (by have:=h.ok.le;omega)))
theorem E4{s:AD}:∀k,(dO s k).1.length=(dO s k).2.1.length∧(∀i,i<(dO s k).2.1.length->∃r:Nat,s.2.1[(dO s k).2.1.getD i 0]? =some (some r)∧(dO s k).1.getD i []=s.1.getD r []∧(dO s k).2.1.getD i 0<k)∧
  (∀i j,i<j->j<(dO s k).2.1.length->(dO s k).2.1.getD i 0<(dO s k).2.1.getD j 0)∧∀q,q<k->∀r:Nat,s.2.1[q]? =some (some r)->∃i,i<(dO s k).2.1.length∧(dO s k).2.1.getD i 0=q
 |0=>⟨rfl,fun i h=>(by cases h),fun i j _ h=>(by cases h),fun q h=>by omega⟩
 |k+1=>by
  obtain⟨h1,h2,h3,h4⟩:=E4 (s:=s) k;have step:(∃r:Nat,s.2.1[k]? =some (some r)∧dO s (k+1)=((dO s k).1++[s.1.getD r []],(dO s k).2.1++[k],(dO s k).2.2++[s.2.2.getD r 0]))∨((∀r:Nat,s.2.1[k]? ≠some (some r))∧dO s (k+1)=dO s k):=by
   rw[dO]
   cases ho:s.2.1[k]? with
   |none=>exact .inr ⟨fun r e=>(by cases e),by rw[show s.2.1.getD k none=none by rw[List.getD,ho];rfl]⟩
   |some o=>cases o with
    |none=>exact .inr ⟨fun r e=>(by cases e),by rw[show s.2.1.getD k none=none by rw[List.getD,ho];rfl]⟩
    |some r=>exact .inl ⟨r,rfl,by rw[show s.2.1.getD k none=some r by rw[List.getD,ho];rfl]⟩
  rcases step with⟨r,hr,e⟩|⟨hr,e⟩
  ·rw[e];have old:∀i,i<(dO s k).2.1.length->((dO s k).2.1++[k]).getD i 0=(dO s k).2.1.getD i 0:=fun i hi=>by rw[List.getD,aJ hi,<-List.getD]
   have new:((dO s k).2.1++[k]).getD (dO s k).2.1.length 0=k:=by rw[List.getD,aM (Nat.le_refl _),bI];rfl
   have hlen:((dO s k).2.1++[k]).length=(dO s k).2.1.length+1:=by simp
   dsimp only
   rw[hlen];refine⟨by simp[h1],fun i hi=>?_,fun i j PZ hj=>?_,fun q hq x hx=>?_⟩
   ·rcases aP i (dO s k).2.1.length with h5|h5
    ·obtain⟨x,x1,x2,x3⟩:=h2 i h5;rw[old i h5];refine⟨x,x1,?_,by omega⟩;rw[List.getD,aJ (by omega),<-List.getD];exact x2
    ·rw[show i=(dO s k).2.1.length by omega,new];refine⟨r,hr,?_,by omega⟩;rw[List.getD,aM (by omega),h1,bI];rfl
   ·rcases aP j (dO s k).2.1.length with h5|h5
    ·rw[old i (by omega),old j h5];exact h3 i j PZ h5
    ·rw[show j=(dO s k).2.1.length by omega,new,old i (by omega)];obtain⟨_,_,_,x3⟩:=h2 i (by omega);exact x3
   ·rcases aP q k with h5|h5
    ·obtain⟨i,i1,i2⟩:=h4 q h5 x hx;exact⟨i,by omega,by rw[old i i1];exact i2⟩
    ·exact⟨(dO s k).2.1.length,by omega,by rw[new];omega⟩
  ·rw[e];refine⟨h1,fun i hi=>?_,h3,fun q hq x hx=>?_⟩
   ·obtain⟨x,x1,x2,x3⟩:=h2 i hi;exact⟨x,x1,x2,by omega⟩
   ·rcases aP q k with h5|h5
    ·exact h4 q h5 x hx
    ·rw[show q=k by omega]at hx;exact absurd hx (hr x)
theorem gQ{α:Type}{a b:List α}(d:α)(hl:a.length=b.length)(h:∀i,i<a.length->a.getD i d=b.getD i d):a=b:=by
 refine List.ext_getElem hl fun i h1 h2=>?_;have:=h i h1
 rwa [List.getD,List.getD,aB h1,aB h2]at this
theorem mo(hM:fq n M)(hW:Fm M n B):(db M n).2.1=(cQ M n).2∧(db M n).1=(cQ M n).1.take (cQ M n).2.length:=by
 obtain⟨p,Z,h⟩:=tI hM hW M.length (Nat.le_refl _);obtain⟨h1,h2,h3,h4⟩:=E4 (s:=im M n M.length) n;unfold db;generalize im M n M.length=s at*
 obtain⟨F,hF⟩:∃F,dO s n=F:=⟨_,rfl⟩
 rw[hF]at h1 h2 h3 h4 ⊢;have OX:∀i,i<F.2.1.length->∃r,r<s.1.length∧p r=F.2.1.getD i 0∧F.1.getD i []=s.1.getD r []∧F.2.1.getD i 0<n:=fun i hi=>by
  obtain⟨r,r1,r2,r3⟩:=h2 i hi;obtain⟨k1,k2⟩:=(h.piv _ r3 r).1 r1;exact⟨r,k1,k2,r2,r3⟩
 have inj:∀i j,i<F.2.1.length->j<F.2.1.length->F.2.1.getD i 0=F.2.1.getD j 0->i=j:=fun i j hi hj e=>by
  rcases bs i j with h5|h5|h5
  ·have:=h3 i j h5 hj;omega
  ·exact h5
  ·have:=h3 j i h5 hi;omega
 have hrf:Rf (cY F.1) (fun i=>F.2.1.getD i 0) F.2.1.length n:=by
  refine⟨fun i hi=>?_,h3,fun i j hi hj=>?_,fun i t hi ht=>?_⟩
  ·obtain⟨_,_,_,_,h5⟩:=OX i hi;exact h5
  ·obtain⟨a,a1,a2,a3,_⟩:=OX i hi;obtain⟨b,b1,b2,b3,_⟩:=OX j hj;rw[cY,b3,<-a2];have:=h.Bv.ru.unit a b a1 b1;unfold cY at this;rw[this];by_cases h5:j=i
   ·rw[if_pos h5,if_pos (h.Bv.ru.inj b a b1 a1 (by rw[a2,b2,h5]))]
   ·rw[aK h5,aK fun e=>h5 (inj j i hj hi (by rw[<-a2,<-b2,e]))]
  ·obtain⟨a,a1,a2,a3,_⟩:=OX i hi;rw[cY,a3];have:=h.Bv.ru.lead a t a1 (by rw[a2];exact ht);unfold cY at this;exact this
 have hsp:∀r,r<s.1.length->eX (cY F.1) F.2.1.length n (cY s.1 r):=fun r hr=>by
  have hp:=h.Bv.ru.lt r hr;obtain⟨i,i1,i2⟩:=h4 (p r) hp r ((h.piv _ hp r).2 ⟨hr,rfl⟩);obtain⟨a,a1,a2,a3,_⟩:=OX i i1;have e:a=r:=h.Bv.ru.inj a r a1 hr (by rw[a2,i2]);exact(eX.row i1).congr fun t _=>by rw[cY,cY,a3,e]
 obtain⟨e1,e2,e3⟩:=Hb hM hrf (fun i hi=>by
  obtain⟨a,a1,a2,a3,_⟩:=OX i hi
  exact(h.up a a1).congr fun t _=>by rw[cY,cY,a3]) fun j hj=>(h.dn j hj).trans hsp
 obtain⟨g1,g2,-,-,-⟩:=dc hM n (Nat.le_refl _);refine⟨gQ 0 e1.symm fun i hi=>(e2 i hi).symm,gQ [] ?_ fun i hi=>?_⟩
 ·rw[aZ,e1,h1];omega
 ·rw[h1]at hi;have Sq:i<(cQ M n).2.length:=by omega
  obtain⟨a,a1,a2,a3,_⟩:=OX i hi;have QV:(F.1.getD i []).length=n:=by rw[a3];exact h.ok.len.getD a1
  have hg:((cQ M n).1.take (cQ M n).2.length).getD i []=(cQ M n).1.getD i []:=by rw[List.getD,bZ Sq,<-List.getD]
  rw[hg];refine gQ 0 (by rw[QV,g1.getD (by omega)]) fun t ht=>?_;rw[QV]at ht;exact(e3 i t hi ht).symm
structure ElI(M:List (List Rat))(n B c:Nat)(s:List (List Rat)×List Nat)(σ:Nat->Nat)(Z:Mx):Prop where
 red:Red n c s
 mon:OF s
 len:s.1.length=M.length
 Bv:Bt (cY s.1) (fun i=>s.2.getD i 0) s.2.length n B Z
 org:∀j,j<M.length->σ j<M.length
 rest:∀j,s.2.length<=j->j<M.length->∀t,t<n->cY s.1 j t=nP (cY s.1) (fun i=>s.2.getD i 0) s.2.length (cY M (σ j)) n t
theorem ElI.step{M:List (List Rat)}{n B c:Nat}{s:List (List Rat)×List Nat}{σ:Nat->Nat}{Z:Mx}(h:ElI M n B c s σ Z)(hW:Fm M n B)(hc:c<n):∃σ' Z',ElI M n B (c+1) (dm s c) σ' Z':=by
 have Qo:=h.red.step hc;have hmon:=h.mon.step h.red hc;have hlen:(dm s c).1.length=M.length:=by rw[pX,h.len]
 obtain⟨hl,hle,hz,RQ,hu⟩:=h.red;rcases kH c hle with⟨e,h0⟩|⟨k,h1,h2,h3,e⟩
 ·rw[e]at Qo hmon hlen ⊢;exact⟨σ,Z,Qo,hmon,hlen,h.Bv,h.org,h.rest⟩
 ·obtain⟨r1,r2⟩:=mi hl h1 h2 h3 e;have e2:(dm s c).2=s.2++[c]:=by rw[e]
  have e3:(dm s c).2.length=s.2.length+1:=by rw[e2];simp
  have hkM:k<M.length:=by rw[<-h.len];exact h2
  have hk:=h.rest k h1 hkM;obtain⟨d,hd,-,hdz⟩:=hW (σ k) (h.org k hkM);have hC:=h.Bv.push (u:=cY s.1 k) hd hdz hk hc h3 fun t ht=>hz k t h1 h2 ht;have hold:∀i,i<s.2.length->(dm s c).2.getD i 0=s.2.getD i 0:=fun i hi=>by rw[e2,List.getD,aJ hi,<-List.getD]
  have Qj:(dm s c).2.getD s.2.length 0=c:=by rw[e2,List.getD,aM (Nat.le_refl _),bI];rfl
  have hE:∀i t,i<s.2.length+1->t<n->cY (dm s c).1 i t=lr (cY s.1) s.2.length (cY s.1 k) c i t:=fun i t hi ht=>by
   unfold lr;by_cases TO:i=s.2.length
   ·rw[if_pos TO,TO,r1,bV,bV,bf]
   ·rw[aK TO,r2 i (by omega) TO t ht,aK (by omega),bV,bV,bf]
  have Sr:Bt (cY (dm s c).1) (fun i=>(dm s c).2.getD i 0) (dm s c).2.length n B fun i t=>if i=s.2.length then d*cY M (σ k) t else Z i t:=by
   rw[e3];refine hC.congr hE (fun i hi=>?_) fun _ _ _ _=>rfl;by_cases TO:i=s.2.length
   ·rw[if_pos TO,TO,Qj]
   ·rw[aK TO,hold i (by omega)]
  refine⟨fun j=>if j=k then σ s.2.length else σ j,_,Qo,hmon,hlen,Sr,fun j hj=>?_,fun j hj hjM t ht=>?_⟩
  ·split
   ·exact h.org _ (by omega)
   ·exact h.org j hj
  ·rw[e3]at hj;have hjs:j<s.1.length:=by rw[h.len];exact hjM
   obtain⟨jj,hjj⟩:∃jj,(if j=k then s.2.length else j)=jj:=⟨_,rfl⟩
   have hjr:s.2.length<=jj:=by rw[<-hjj];split<;>omega
   have TX:jj<M.length:=by rw[<-hjj];split<;>omega
   have hσ:(if j=k then σ s.2.length else σ j)=σ jj:=by rw[<-hjj];split<;>rfl
   rw[hσ];refine aBf Sr.ru ?_ (fun i hi=>?_) ht
   ·have hr:eX (cY (dm s c).1) (dm s c).2.length n (cY (dm s c).1 s.2.length):=eX.row (by omega);have h5:eX (cY s.1) s.2.length n fun t=>cX (fun i=>cY M (σ jj) (s.2.getD i 0)*cY s.1 i t) s.2.length:=⟨_,fun t _=>rfl⟩
    have h6:eX (cY (dm s c).1) (dm s c).2.length n fun t=>cX (fun i=>cY M (σ jj) (s.2.getD i 0)*cY s.1 i t) s.2.length:=h5.trans fun i hi=>by
     rw[e3];exact eX.JX (tE h3 i hi) hE
    refine(h6.add hr (cY s.1 jj c)).congr fun t ht=>?_;have h7:=h.rest jj hjr TX t ht;unfold nP at h7;rw[cN (g:=fun i=>cY M (σ jj) (s.2.getD i 0)*cY s.1 i t) fun i hi=>if_pos (h.Bv.ru.lt i hi)]at h7;rw[r2 j hjs (by omega) t ht,hjj,r1,h7];grind
   ·rw[Qo.2.2.2.2 i j hi (by rw[hlen];exact hjM),aK (by omega)]
theorem rT{M:List (List Rat)}{n B:Nat}(hM:fq n M)(hW:Fm M n B):∀c,c<=n->∃σ Z,ElI M n B c (cQ M c) σ Z
 |0,_=>⟨fun j=>j,fun _ _=>0,⟨hM,aO _,fun _ _ _ _ h=>by omega,fun p hp=>(by cases hp),fun _ _ h=>(by cases h)⟩,⟨fun _ _ _ h=>(by cases h),fun _ _ h=>(by cases h)⟩,rfl,Bt.start _ _ _ _ _,fun j hj=>hj,fun j _ hj t ht=>by
   show cY M j t=nP (cY M) _ 0 (cY M j) n t;unfold nP;show _=_-0
   grind⟩
 |c+1,hc=>by
  obtain⟨σ,Z,h⟩:=rT hM hW c (by omega);unfold cQ at h ⊢;rw[bM,List.foldl_append];exact h.step hW (by omega)
theorem Bw(hM:fq n M)(hW:Fm M n B)(hB:1<=B){c:Nat}(hc:c<=n):∀r∈(cQ M c).1,∀q∈r,rl q<=ln (fB B M.length):=fun r hr q hq=>by
 obtain⟨σ,Z,h⟩:=rT hM hW c hc;obtain⟨a,ha⟩:=aS hr;obtain⟨t,ht⟩:=aS hq;have RB:=(aE.1 ha).1;have TC:=(aE.1 ht).1;rw[h.red.1 r hr]at TC;have hle:=h.red.2.1;have e:q=cY (cQ M c).1 a t:=by rw[cY,show(cQ M c).1.getD a []=r by rw[List.getD,ha];rfl,List.getD,ht];rfl
 rw[h.len]at RB hle;rw[e];rcases aP a (cQ M c).2.length with h1|h1
 ·exact aV (h.Bv.OM h1 TC) (fk (tF hB hle))
 ·obtain⟨d,hd,hdB,hz⟩:=hW _ (h.org a RB);rw[h.rest a h1 RB t TC];exact aV (h.Bv.ON hB hd hdB hz n TC) (fk (tF hB (by omega)))
end Go.Ex
namespace Go.Ex
open Go Go.Sx Go.Proofs
variable{K M:List (List Rat)}{qs xs ys:List Rat}{cs:List Value}{h n:Nat}{C S:Nat->Prop}{a:Option Addr}{p q:Rat}{u v:Value}{w:World}
theorem Ic{a c i k:Nat}(h:i<k):(dx M a c k)[i]? =(dx M a c (i+1))[i]? :=by
 simp only[dx,List.getElem?_mapIdx]
 have:(i<k∧i≠a)↔(i<i+1∧i≠a):=by omega
 simp[this,h]
theorem Ie{cols:Nat}(hS:Old S w)(hm:fN w S v M)(hlen:fq n M)(hn:n<=1000)(hR:M.length<=1000)(Pt:cols<=n)(hB:∀c,c<=cols->Ht (cQ M c).1 h)(hh:3*h<=90000):
  eA PG N.uA #[v,.int .i64 cols] w (eL w fun v' w2=>∃vm vp,v'= .tuple #[vm,vp]∧fN w2 (Nw S w w2) vm (cQ M cols).1∧dF w2 (Nf w w2) vp (cQ M cols).2):=by
 have hw:=bR w;replace hm:=fN.arg hm [];obtain⟨rv0,⟨UZ,hl0,h1,am,cm,rfl,Ri,PV⟩,hl,hrows⟩:=hm;unfold maxLen at UZ;have Q3:ir w (Cv S w.heap.size []) rv0 M:=⟨hl,h1,hrows⟩
 refine yg (by simp) ?_;refine .inl ?_;refine⟨rv0,hl0,h1,fun O w' r PL=>?_,?_⟩
 ·obtain⟨u0,XR⟩:∃u,rv0[0]? =some u:=⟨_,aB (by omega)⟩
  obtain⟨ad,ha,_,_⟩:=PV 0 u0 XR;refine⟨ad,ha,fun j u hj=>?_⟩;obtain⟨ad2,RB,q1,q2⟩:=PV j u hj;rw[ha]at RB;injection RB with RB;subst RB;rw[cM (w:=w) (w2:=w') (by rw[dD];exact Rel.same r hS q1)];exact q2
 refine⟨rfl,by omega,by unfold maxLen;omega,?_⟩;rw[aW M.length]
 refine⟨Nat×List Value×List (List Rat)×List Nat×World×Iv,fun z=>⟨[(1,iZ cols),(6,.o (.w 0 M.length)),(7,.o (.w 1 z.2.2.2.1.length)),(8,iN z.1)],[(1,.vec T.int 1 (z.2.2.2.1.map fun c:Nat=>.int .i64 (c:Int))),(0,.vec T.fz 1 z.2.1)],2,z.2.2.2.2.2,z.2.2.2.2.1⟩,fun z=>cols-z.1,
  fun z=>z.1<=cols∧(z.2.2.1,z.2.2.2.1)=(List.range z.1).foldl dm (M,[])∧fq n z.2.2.1∧(z.2.2.1.length=M.length∧z.2.2.2.1.length<=M.length)∧dg w.heap.size w z.2.2.2.2.1∧ir z.2.2.2.2.1 (Cv S w.heap.size z.2.2.2.2.2) z.2.1 z.2.2.1,?_,?_⟩
 ·intro O w' r
  exact⟨(0,rv0,M,[],w',[]),⟨aO _,rfl,hlen,⟨rfl,aO _⟩,hw.tr r.cS,Q3.rel r hS⟩,Sub.nil 7 T.int 1 rfl (by simp[jw,SV.sc,At.sc,fQ]) r fun ρ1 r1=>
   Sub.gn [(0,1),(1,2)] r1⟩
 rintro⟨c,rv,M1,pv,w1,iv⟩ ⟨hc,Ry,Uh,hInv,hw,Q3⟩;dsimp only at hc Ry Uh hInv hw Q3 ⊢;obtain⟨hI1,hI2⟩:=hInv;have hI4:Ht M1 h:=by
  have h5:=hB c hc;rw[show cQ M c=(M1,pv)from Ry.symm]at h5;exact h5
 have Ot:rv.length=M.length:=by rw[Q3.1,hI1]
 refine dG.mk ?_ ?_<;>intro OW
 ·have OW:c<cols:=by simpa using OW
  refine⟨by simp,Nat×World×Iv,fun z=>⟨[(1,iZ cols),(6,.o (.w 0 M.length)),(7,.o (.w 1 pv.length)),(8,iN c),(9,iN pv.length),(10,iN z.1)],[(1,.vec T.int 1 (pv.map fun c:Nat=>.int .i64 (c:Int))),(0,.vec T.fz 1 rv)],2,z.2.2,z.2.1⟩,fun z=>M.length-z.1,
   fun z=>pv.length<=z.1∧z.1<=M.length∧(∀j,pv.length<=j->j<z.1->cY M1 j c=0)∧dg w.heap.size w z.2.1∧ir z.2.1 (Cv S w.heap.size z.2.2) rv M1,?_,?_⟩
  ·intro O w' r;exact⟨(pv.length,w',iv),⟨Nat.le_refl _,hI2,fun j h3 h4=>by dsimp only at h4;omega,hw.tr r.cS,Q3.rel r hS⟩,Sub.gn [] r⟩
  rintro⟨k,w2,iv⟩ ⟨SS,hk1,hkz,hw,Q3⟩;dsimp only at SS hk1 hkz hw Q3 ⊢;have hRl:=Q3.1;refine⟨by rw[Ot,aW,aY],?_⟩;refine dG.mk ?_ ?_<;>intro OY
  ·have OY:k<M.length:=by have:=aH OY;omega
   obtain⟨u,x,hu,hx,hux⟩:=Q3.get (i:=k) (by omega);have Pr:=Uh x (aD hx);obtain⟨y,hy⟩:∃y,x[c]? =some y:=⟨_,aB (by omega)⟩
   have Qg:cY M1 k c=y:=by simp[cY,List.getD,hx,hy]
   obtain⟨au,cu,rfl,hcu,-⟩:=dL.shape hux;obtain⟨ad,cs,Oy,hF,_,Tb⟩:=dL.load hux hy;obtain⟨p0,p1,p2,p3,p4,p5,p6,p7,rfl,hF⟩:=hF;refine⟨by simp[Ot],by omega,.slice au x.length cu,by simpa using hu,ad,Oy,by omega,[.bool p0,.slice p1 p2 p3,.bool p4,.slice p5 p6 p7],rfl,fun O w' r i x hx=>?_,?_⟩
   ·obtain⟨k1,k2⟩:=Tb i x hx;rw[aF,cM (w:=w2) (w2:=w') (by rw[dD,dD];exact Rel.same r hS k1)];exact k2
   refine cH (cE hw (fun _ w' v w2=>v= .int .i64 (rs y)) (fun O w' r=>vR (Rel.old r hS) (hF.rel r hS)) ?_);rintro O _ _ PJ Od r he hw h_ rfl;replace Q3:=Q3.cK r hS he (mC h_);refine dG.mk ?_ ?_<;>intro hs
   ·have hs:y=0:=lP.1 (by simpa using hs);refine⟨((k+1:Nat):Int),wo,?_⟩;intro ρ3 w3 r3
    exact⟨(k+1,w3,_),⟨by dsimp only;omega,OY,fun j h3 h4=>by
      by_cases hj:j=k
      ·rw[hj,Qg,hs]
      ·exact hkz j h3 (by dsimp only at h4;omega),hw.tr r3.cS,Q3.rel r3 hS⟩,Sub.gn [] r3,by dsimp only;omega⟩
   have hs:y≠0:=fun e=>by rw[e]at hs;exact absurd hs (by decide)
   refine⟨by rw[Ot,aW,aY],?_⟩;refine dG.mk (fun UF=>absurd (aH UF) (by omega)) (fun _=>?_);obtain⟨uk,xk,huk,hxk,huxk⟩:=Q3.get (i:=k) (by omega);obtain⟨ur,xr,hur,UI,huxr⟩:=Q3.get (i:=pv.length) (by omega);have hukc:=Q3.2.1 uk (aD huk);have hurc:=Q3.2.1 ur (aD hur);obtain⟨aur,cur,rfl,-,-⟩:=dL.shape huxr;obtain⟨auk,cuk,rfl,-,-⟩:=dL.shape huxk;have hsw:ef [] M1 pv.length k=(M1.set pv.length xk).set k xr:=by simp[ef,List.getD,hxk,UI]
   have TD:pv.length<M.length:=by omega
   have OZ:cY M1 k c≠0:=by rw[Qg];exact hs
   have PW:=B5 (s:=(M1,pv)) (c:=c) (k:=k) SS (by show k<M1.length;omega) hkz OZ;dsimp only at PW;have hHt2:=hI4.swap (i:=pv.length) (j:=k) (by omega) (by omega);have hat2:=B9 (M:=M1) (i:=pv.length) (j:=k) (c:=c) (by omega) (by omega);have WU:Ht (dx (scaled (ef [] M1 pv.length k) pv.length c) pv.length c M.length) h:=by
    have h5:=hB (c+1) OW;rw[show cQ M (c+1)=dm (M1,pv) c by unfold cQ;rw[bM,List.foldl_append,<-Ry];rfl,PW,hI1]at h5;exact h5
   have XX:(∀r,(scaled (ef [] M1 pv.length k) pv.length c)[pv.length]? =some r->∀q∈r,rl q+1<=h)∧∀j r,j≠pv.length->(scaled (ef [] M1 pv.length k) pv.length c)[j]? =some r->∀q∈r,rl q+1<=h:=
    ⟨fun r hr=>WU r (aD (i:=pv.length) (by rw[uX];exact hr)),fun j r hj hr=>hHt2 r (aD (i:=j) (by unfold Go.Ex.scaled at hr;rwa [aX (Ne.symm hj)]at hr))⟩
   have SX:=(Q3.set (i:=pv.length) hukc huxk).set (i:=k) hurc huxr;rw[<-hsw]at SX;have YH:fq n (ef [] M1 pv.length k):=by
    rw[hsw];exact(Uh.set (Uh xk (aD hxk))).set (Uh xr (aD UI))
   have PU:(ef [] M1 pv.length k).length=M.length:=by rw[jg,hI1]
   generalize hrv2:(rv.set pv.length (.slice auk xk.length cuk)).set k (.slice aur xr.length cur)=rv2 at SX;have RL:rv2.length=M.length:=by rw[SX.1,PU]
   refine cO hτ dZ [.x 0,.x 1,.x 2,.x 3,.x 4,.x 5,.x 6,.x 7,.x 8,.x 9,.x 10,.x 11,.x 12,.x 13,.x 14,.x 15] (by kernel_rfl) (by kernel_rfl) ?_;refine⟨by simp[Ot],by omega,.slice auk xk.length cuk,by simpa using huk,by simp[Ot],by omega,.slice aur xr.length cur,by simpa using hur,by simp[Ot],by omega,by simp[Ot,RL];omega,rv.set pv.length (.slice auk xk.length cuk),by rw[aF,aY];exact gP (by simp[Ot,RL];omega),by simp[Ot],by omega,by simp[Ot,RL];omega,rv2,by rw[aF,aY,<-hrv2];exact gP (by simp[Ot,RL];omega),?_⟩;obtain⟨u2,x2,UR,RI,Ui⟩:=SX.get (i:=pv.length) (by omega);have hx2l:=YH x2 (aD RI);obtain⟨y2,XN⟩:∃y,x2[c]? =some y:=⟨_,aB (by omega)⟩
   have hat3:cY (ef [] M1 pv.length k) pv.length c=y2:=by simp[cY,List.getD,RI,XN]
   have hy20:y2≠0:=by rw[<-hat3,hat2];exact OZ
   have QY:(ef [] M1 pv.length k).getD pv.length []=x2:=by simp[List.getD,RI]
   have hscl:scaled (ef [] M1 pv.length k) pv.length c=(ef [] M1 pv.length k).set pv.length (x2.map (· *(1 / y2))):=by rw[scaled,QY,hat3]
   rw[hscl]at PW XX WU;have RG:=hHt2.at RI;have Vr:=RG y2 (aD XN);have hinv:=aAN hy20;have QL:((ef [] M1 pv.length k).set pv.length (x2.map (· *(1 / y2)))).length=M.length:=by rw[bW,PU]
   have hget3:((ef [] M1 pv.length k).set pv.length (x2.map (· *(1 / y2))))[pv.length]? =some (x2.map (· *(1 / y2))):=aR (by omega);have YI:fq n ((ef [] M1 pv.length k).set pv.length (x2.map (· *(1 / y2)))):=YH.set (by rw[aL];exact hx2l);generalize ef [] M1 pv.length k=M2 at*
   obtain⟨au2,cu2,rfl,hcu2,-⟩:=dL.shape Ui;obtain⟨ad2,cs2,Pv,Rg,_,hlc2⟩:=dL.load Ui XN;obtain⟨q0,q1,q2,q3,q4,q5,q6,q7,rfl,Rg⟩:=Rg;replace Ot:=RL;refine cO hτ dZ [.x 1,.x 2,.x 3,.x 4,.x 5,.x 6,.x 7,.p 12,.x 0,.x 8,.x 9,.x 10,.x 11,.x 12,.x 13,.x 14] (by kernel_rfl) (by kernel_rfl) ?_;refine⟨by simp[Ot],by omega,.slice au2 x2.length cu2,by simpa using UR,ad2,Pv,by omega,[.bool q0,.slice q1 q2 q3,.bool q4,.slice q5 q6 q7],rfl,fun O w' r i x hx=>?_,?_⟩
   ·obtain⟨k1,k2⟩:=hlc2 i x hx;rw[aF,cM (w:=PJ) (w2:=w') (by rw[dD,dD];exact Rel.same r hS k1)];exact k2
   refine cE hw (fun _ w' v w2=>cT w2 (Nf w' w2) v (1:Rat)) (fun O w' r=>(show ((1:Int):Rat)=1 from rfl)▸oE 1 w' (by decide) (by decide)) ?_;rintro O _ _ _ Oa r he hw h_ hn;replace SX:=SX.cK r hS he (mC h_);replace Ui:=dB.cK Ui r hS he (mC h_);replace Rg:=Rg.cK r hS he (mC h_);have h_1:=hn.dK (S:=FF) r.cI (mN h_);obtain⟨A0,A1,A2,A3,A4,A5,A6,A7,rfl⟩:=h_1.shape;refine cE hw (fun _ w' v w2=>∃q,v= .tuple #[q,.int .i64 0]∧cT w2 (Nf w' w2) q (1 / y2)) (fun O w' r=>FC (Rel.old r hS) (((h_1.rel r (cG w)).l (by rw[GA];decide)).cL fun g hg=>Cv.false hg) (Rg.rel r hS) hy20) ?_;rintro O _ _ _ Oj r he hw h_ ⟨q,rfl,k1⟩;replace SX:=SX.cK r hS he (mC h_);replace Ui:=dB.cK Ui r hS he (mC h_);have PD:=k1.dK (S:=FF) r.cI (mN h_);obtain⟨s3_0a,s3_0b,s3_0c,s3_0d,s3_0e,s3_0f,s3_0g,s3_0h,rfl⟩:=PD.shape;refine cO hτ dZ [.x 0,.x 1,.x 2,.x 3,.x 4,.x 5,.x 6,.x 7,.x 8,.x 9] (by kernel_rfl) (by kernel_rfl) ?_;refine⟨by simp[Ot],by omega,.slice au2 x2.length cu2,by simpa using UR,?_⟩;refine cE hw (fun _ w' v w2=>cR w2 (Nf w' w2) v (x2.map (· *(1 / y2)))) (fun O w' r=>(NJ x2 (1 / y2))▸Lj (Rel.old r hS) (dB.nil w' _) (dB.rel Ui r hS) (((PD.rel r (cG w)).l (by omega)).cL fun g hg=>Cv.false hg) (.inl rfl) (by omega) (fun y hy=>by have:=RG y hy;omega)) ?_;rintro O _ _ _ Oz r he hw h_ hn;replace SX:=SX.cK r hS he (mC h_);have hx3:=cR.dK (S:=FF) hn r.cI (mN h_);obtain⟨a3,c3,rfl,hc3,-⟩:=dL.shape hx3;have hRV3:=SX.set (i:=pv.length) (u:=.slice a3 (x2.map (· *(1 / y2))).length c3) rfl (dB.cL (cR.l hx3 fun q hq=>by have:=XX.1 _ hget3 q hq;omega) fun g hg=>Cv.false hg);obtain⟨rv3,hrv3⟩:∃rv3,rv3=rv2.set pv.length (.slice a3 (x2.map (· *(1 / y2))).length c3):=⟨_,rfl⟩
   rw[<-hrv3]at hRV3;generalize x2.map (· *(1 / y2))=x3 at*
   generalize hM3:M2.set pv.length x3=M3 at*
   refine⟨by simp[Ot],by omega,by simp[Ot,RL];omega,rv3,by rw[aF,aY,hrv3];exact gP (by simp[Ot,RL];omega),?_⟩;have hrl3:rv3.length=M.length:=by rw[hRV3.1,QL]
   refine⟨Nat×List Value×World×Iv,fun z=>⟨[(1,iZ cols),(6,.o (.w 0 M.length)),(7,.o (.w 1 pv.length)),(8,iN c),(9,iN pv.length),(13,iN z.1)],[(1,.vec T.int 1 (pv.map fun c:Nat=>.int .i64 (c:Int))),(0,.vec T.fz 1 z.2.1)],2,z.2.2.2,z.2.2.1⟩,fun z=>M.length-z.1,
    fun z=>z.1<=M.length∧dg w.heap.size w z.2.2.1∧ir z.2.2.1 (Cv S w.heap.size z.2.2.2) z.2.1 (dx M3 pv.length c z.1),?_,?_⟩
   ·intro O w' r;exact⟨(0,rv3,w',Oz),⟨aO _,hw.tr r.cS,by dsimp only;rw[Fx];exact hRV3.rel r hS⟩,Sub.gn [] r⟩
   rintro⟨i,rv,w4,iv⟩ ⟨hi,hw,Q3⟩;dsimp only at hi hw Q3 ⊢;have Ot:rv.length=M.length:=by rw[Q3.1,iU,QL]
   refine⟨by rw[Ot,aW,aY],?_⟩;refine dG.mk ?_ ?_<;>intro XY
   ·have XY:i<M.length:=by have:=aH XY;omega
    refine dG.mk ?_ ?_<;>intro TO
    ·have TO:i≠pv.length:=fun e=>by rw[e]at TO;simp at TO
     obtain⟨u4,x4,hu4,hx4,Tt⟩:=Q3.get (i:=i) (by rw[iU];omega);obtain⟨u5,x5,hu5,hx5,VO⟩:=Q3.get (i:=pv.length) (by rw[iU];omega);rw[Ji _ _ _ _ _ (Nat.le_refl _)]at hx4;rw[uX]at hx5;have hx4l:=YI x4 (aD hx4);have hx5l:=YI x5 (aD hx5);obtain⟨y4,hy4⟩:∃y,x4[c]? =some y:=⟨_,aB (by omega)⟩
     have hy4d:x4.getD c 0=y4:=by simp[List.getD,hy4]
     have hx5d:M3.getD pv.length []=x5:=by simp[List.getD,hx5]
     have Sk:=XX.2 i x4 TO hx4;have hb5:=XX.1 x5 hx5;have hyb4:=Sk y4 (aD hy4);have Xz:=jB y4;obtain⟨au4,cu4,rfl,hcu4,-⟩:=dL.shape Tt;obtain⟨au5,cu5,rfl,hcu5,-⟩:=dL.shape VO;obtain⟨ad4,cs4,had4,hF4,_,hlc4⟩:=dL.load Tt hy4;obtain⟨e0,e1,e2,e3,e4,e5,e6,e7,rfl,hF4⟩:=hF4;refine⟨by simp[Ot],by omega,.slice au4 x4.length cu4,by simpa using hu4,ad4,had4,by omega,[.bool e0,.slice e1 e2 e3,.bool e4,.slice e5 e6 e7],rfl,fun O w' r i x hx=>?_,?_⟩
     ·obtain⟨k1,k2⟩:=hlc4 i x hx;rw[aF,cM (w:=w4) (w2:=w') (by rw[dD,dD];exact Rel.same r hS k1)];exact k2
     refine cH (cE hw (fun _ w' v w2=>v= .int .i64 (rs y4)) (fun O w' r=>vR (Rel.old r hS) (hF4.rel r hS)) ?_);rintro O _ _ Rs QT r he hw h_ rfl;replace Q3:=Q3.cK r hS he (mC h_);replace Tt:=dB.cK Tt r hS he (mC h_);replace VO:=dB.cK VO r hS he (mC h_);refine dG.mk ?_ ?_<;>intro hs4
     ·have hs4:y4≠0:=fun e=>by rw[e]at hs4;exact absurd hs4 (by decide)
      obtain⟨ad6,cs6,had6,WK,_,hlc6⟩:=dL.load Tt hy4;obtain⟨f0,f1,f2',f3,f4,f5,f6,f7,rfl,WK⟩:=WK;refine cO hτ dZ [.x 0,.x 1,.x 2,.x 3,.x 4,.x 5,.x 6,.x 7,.x 8,.x 9,.x 10,.x 11,.x 12,.x 13,.x 14,.x 15,.x 16,.x 17,.x 18,.x 19,.x 20] (by kernel_rfl) (by kernel_rfl) ?_;refine⟨by simp[Ot],by omega,.slice au4 x4.length cu4,by simpa using hu4,by simp[Ot],by omega,.slice au5 x5.length cu5,by simpa using hu5,by simp[Ot],by omega,.slice au4 x4.length cu4,by simpa using hu4,ad6,had6,by omega,[.bool f0,.slice f1 f2' f3,.bool f4,.slice f5 f6 f7],rfl,fun O w' r i x hx=>?_,?_⟩
      ·obtain⟨k1,k2⟩:=hlc6 i x hx;rw[aF,cM (w:=Rs) (w2:=w') (by rw[dD,dD];exact Rel.same r hS k1)];exact k2
      refine cE hw (fun _ w' v w2=>cT w2 (Nf w' w2) v (-y4)) (fun O w' r=>Jt (Rel.old r hS) (WK.rel r hS)) ?_;rintro O _ _ _ Qr r he hw h_ hn;replace Q3:=Q3.cK r hS he (mC h_);replace Tt:=dB.cK Tt r hS he (mC h_);replace VO:=dB.cK VO r hS he (mC h_);have hng:=hn.dK (S:=FF) r.cI (mN h_);obtain⟨C0,C1,C2,C3,C4,C5,C6,C7,rfl⟩:=hng.shape;refine cE hw (fun _ w' v w2=>cR w2 (Nf w' w2) v (mG x4 x5 (-y4))) (fun O w' r=>Lj (Rel.old r hS) (dB.rel Tt r hS) (dB.rel VO r hS) (((hng.rel r (cG w)).l (by omega)).cL fun g hg=>Cv.false hg) (.inr (by omega)) (by omega) (fun y hy=>by have:=hb5 y hy;omega)) ?_;rintro O _ _ _ RO r he hw h_ hn;replace Q3:=Q3.cK r hS he (mC h_);have hx7:=cR.dK (S:=FF) hn r.cI (mN h_);obtain⟨a7,c7,rfl,hc7,-⟩:=dL.shape hx7;have Qj:(dx M3 pv.length c i).set i (mG x4 x5 (-y4))=dx M3 pv.length c (i+1):=by
       rw[<-Fy hx4 TO,hy4d,hx5d,KO _ (by omega)]
      have hrow7:(dx M3 pv.length c (i+1))[i]? =some (mG x4 x5 (-y4)):=by rw[<-Qj];exact aR (by rw[iU];omega)
      have hb7:=WU.at (i:=i) (by rw[Ic XY];exact hrow7);replace Q3:=Q3.set (i:=i) (u:=.slice a7 (mG x4 x5 (-y4)).length c7) rfl (dB.cL (cR.l hx7 fun q hq=>by have:=hb7 q hq;omega) fun g hg=>Cv.false hg);rw[Qj]at Q3;refine⟨by simp[Ot],by omega,by simp[Ot];omega,rv.set i (.slice a7 (mG x4 x5 (-y4)).length c7),by rw[aF,aY];exact gP (by omega),((i+1:Nat):Int),wo,?_⟩;intro ρ3 w3 r3;exact⟨(i+1,rv.set i (.slice a7 (mG x4 x5 (-y4)).length c7),w3,_),⟨XY,hw.tr r3.cS,by dsimp only;rw[show i+1=i+1 from rfl];exact Q3.rel r3 hS⟩,Sub.gn [] r3,by dsimp only;omega⟩
     have hs4:y4=0:=lP.1 (by simpa using hs4);refine⟨((i+1:Nat):Int),wo,?_⟩;intro ρ3 w3 r3;exact⟨(i+1,rv,w3,_),⟨XY,hw.tr r3.cS,by dsimp only;rw[Fh hx4 (by rw[hy4d,hs4])];exact Q3.rel r3 hS⟩,Sub.gn [] r3,by dsimp only;omega⟩
    have hir1:(i:Int)=pv.length:=by simpa using TO
    have TO:i=pv.length:=by omega
    refine⟨((i+1:Nat):Int),wo,?_⟩;intro ρ3 w3 r3;exact⟨(i+1,rv,w3,_),⟨XY,hw.tr r3.cS,by dsimp only;rw[show dx M3 pv.length c (i+1)=dx M3 pv.length c i by rw[TO,<-Fz]];exact Q3.rel r3 hS⟩,Sub.gn [] r3,by dsimp only;omega⟩
   have XY:i=M.length:=by have:=aG XY;omega
   subst XY;refine .inl ?_;refine⟨by simp,by omega,by unfold maxLen;omega,?_⟩;have Xq:(pv++[c]).map (fun c:Nat=>Value.int .i64 (c:Int))=pv.map (fun c:Nat=>Value.int .i64 (c:Int))++[.int .i64 (c:Int)]:=by simp
   rw[hI1]at PW;refine⟨((c+1:Nat):Int),wo,?_⟩;intro ρ3 w3 r3;have hs:dm (M1,pv) c=((dx M3 pv.length c M.length),(pv++[c])):=PW;have hf2:((dx M3 pv.length c M.length),(pv++[c]))=(List.range (c+1)).foldl dm (M,[]):=by rw[bM,List.foldl_append,<-Ry];exact hs.symm
   have Sq:(dm (M1,pv) c).1.length=M.length∧(dm (M1,pv) c).2.length<=M.length:=by
    have h5:=(dc hlen (c+1) (by omega)).2.1;have h6:=da M (c+1);rw[show cQ M (c+1)=dm (M1,pv) c by unfold cQ;rw[bM,List.foldl_append,<-Ry];rfl]at h5 h6;omega
   have PU:=fq.step (s:=(M1,pv)) (c:=c) Uh;rw[hs]at Sq PU;exact⟨(c+1,rv,(dx M3 pv.length c M.length),(pv++[c]),w3,_),⟨OW,hf2,PU,Sq,hw.tr r3.cS,Q3.rel r3 hS⟩,Sub.gn [(1,3)] r3 ⟨by dsimp only;rw[Xq];rfl,rfl,trivial⟩ ⟨rfl,rfl,by dsimp only;rw[List.length_append,List.length_singleton];rfl,rfl,trivial⟩,by dsimp only;omega⟩
  have OY:k=M.length:=by have:=aG OY;omega
  refine⟨by rw[Ot,aW,aY],?_⟩;refine dG.mk (fun _=>?_) (fun UF=>absurd (aG UF) (by omega));refine⟨((c+1:Nat):Int),wo,?_⟩;intro ρ3 w3 r3;have hs:dm (M1,pv) c=(M1,pv):=MK SS (by show k=M1.length;omega) hkz;have hf2:(M1,pv)=(List.range (c+1)).foldl dm (M,[]):=by rw[bM,List.foldl_append,<-Ry];exact hs.symm
  have Sq:(dm (M1,pv) c).1.length=M.length∧(dm (M1,pv) c).2.length<=M.length:=by
   have h5:=(dc hlen (c+1) (by omega)).2.1;have h6:=da M (c+1);rw[show cQ M (c+1)=dm (M1,pv) c by unfold cQ;rw[bM,List.foldl_append,<-Ry];rfl]at h5 h6;omega
  have PU:=fq.step (s:=(M1,pv)) (c:=c) Uh;rw[hs]at Sq PU;exact⟨(c+1,rv,M1,pv,w3,_),⟨OW,hf2,PU,Sq,hw.tr r3.cS,Q3.rel r3 hS⟩,Sub.gn [] r3,by dsimp only;omega⟩
 have OW:c=cols:=aQ hc (by simpa using OW);subst OW;have Qo:cQ M c=(M1,pv):=Ry.symm;rw[Qo];intro ρe we re;refine⟨_,rfl,hw.tr re.cS,_,_,rfl,⟨rv,?_,Q3.1,fun i u x h1 h2=>dB.out (Q3.2.2 i u x h1 h2) re hS⟩,?_⟩
 ·have:=re.gz (id:=0) (sz:=1) (m:=M.length) rfl (by rw[Ot,aY]) (by unfold maxLen;omega) (by decide) Q3.2.1;rw[show (M1,pv).1.length=M.length from hI1];exact this.cL fun g hg=>.inr hg
 ·have:=re.gz (id:=1) (sz:=1) (m:=pv.length) rfl (by simp) (by unfold maxLen;omega) (by decide) (fun u hu=>by
   obtain⟨_,_,rfl⟩:=aT.1 hu
   rfl)
  exact this.cL fun g hg=>.inr hg
theorem aAq{M:List (List (Int×Int))}{h0:Nat}(hS:Old S w)(h:fC w S v M)(hL:fN w S v (iu M))(Qi:∀r∈M,r.length=fg M)(hR:M.length<=1000)(hn:fg M<=1000)(hB:∀c,c<=fg M->Ht (cQ (iu M) c).1 h0)(hh:3*h0<=90000):
  eA PG N.uq #[v] w (eL w fun v' _=>v'= .int .i64 (cQ (iu M) (fg M)).2.length):=by
 have hw:=bR w;have VA:(iu M).length=M.length:=by simp[iu]
 have hlen:fq (fg M) (iu M):=fun r hr=>by
  rw[iu]at hr;obtain⟨x,hx,rfl⟩:=aT.1 hr;rw[aL];exact Qi x hx
 replace h:=fC.arg h [];replace hL:=fN.arg hL [];obtain⟨am,cm,rfl,Ri,Q9⟩:=dA.shape h;refine Dh (by simp) ?_;refine cH (cE hw (fun _ w' v w2=>v= .int .i64 (fg M)) (fun O w' r=>KP (Rel.old r hS) (fC.rel h r hS)) ?_);rintro O _ _ _ Od r he hw h_ rfl;replace hL:=fN.cK hL r hS he (mC h_);refine cH (cP (Φ:=fun _ w' v w2=>∃vm vp,v= .tuple #[vm,vp]∧fN w2 (Nw (Cv S w.heap.size Od) w' w2) vm (cQ (iu M) (fg M)).1∧dF w2 (Nf w' w2) vp (cQ (iu M) (fg M)).2) (fun O w' r=>Ie (Rel.old r hS) (fN.rel hL r hS) hlen (by omega) (by omega) (Nat.le_refl _) hB hh) ?_);rintro O QR v2 PY r he hb ⟨vm,vp,rfl,k1,k2⟩;replace hw:=hw.tr hb;have hA:=fN.old k1 r.cI;have hP:=dF.dK (S:=FF) k2 r.cI (iv:=(QR.heap.size,PY.heap.size)::Od) aI;generalize (QR.heap.size,PY.heap.size)::Od=Oa at*
 obtain⟨aA,cA,rfl,hcA,-⟩:=dA.shape hA;have hPs:=hP;obtain⟨-,-,-,ap,cp,rfl,YD,-⟩:=hPs;exact rtn hw fun ρe we re=>rfl
theorem aDS(hS:Old S w)(hx:dB w S v xs)(hy:dB w S u ys)(hl:xs.length=ys.length)(hqx:∀q∈xs,rl q+1<=h)(hqy:∀q∈ys,rl q+1<=h)(h2:2<=h)(hb:2*h*xs.length<=90000):
  eA PG N.Ej #[v,u] w (eL w fun v' w2=>cT w2 (Nf w w2) v' (eh xs ys xs.length)):=by
 have hw:=bR w;obtain⟨ax,cx,rfl,TU,Tj⟩:=hx.shape;obtain⟨ay,cy,rfl,hcy,-⟩:=hy.shape;unfold maxLen at Tj;refine GP (by simp) ?_;refine cH (cE hw (fun _ w' v w2=>cT w2 (Nf w' w2) v (((0:Int):Rat))) (fun O w' r=>oE 0 w' (by decide) (by decide)) ?_);rintro O _ _ _ Od r he hw h_ hn;have hd:=hn.dK (S:=FF) r.cI (mN h_);obtain⟨A0,A1,A2,A3,A4,A5,A6,A7,rfl⟩:=hd.shape;rw[show ((0:Int):Rat)=eh xs ys 0 from rfl]at hd
 refine⟨Nat×(Bool×Bool)×(Option Addr×Option Addr)×(Nat×Nat×Nat×Nat)×World×Iv,fun z=>⟨[(0,sV ax xs.length cx),(1,sV ay ys.length cy),(4,pP 0 0),(5,pP 1 0),(6,iN z.1)],[(1,.box T.Rat [.v (.bool z.2.1.1),.v (.slice z.2.2.1.1 z.2.2.2.1.1 z.2.2.2.1.2.1),.v (.bool z.2.1.2),.v (.slice z.2.2.1.2 z.2.2.2.1.2.2.1 z.2.2.2.1.2.2.2)]),(0,.box T.Rat [.v (.bool false),.v (.slice none 0 0),.v (.bool false),.v (.slice none 0 0)])],2,z.2.2.2.2.2,z.2.2.2.2.1⟩,fun z=>xs.length-z.1,
  fun z=>z.1<=xs.length∧dg w.heap.size w z.2.2.2.2.1∧cT z.2.2.2.2.1 (Cf w z.2.2.2.2.2) (.agg #[.bool z.2.1.1,.slice z.2.2.1.1 z.2.2.2.1.1 z.2.2.2.1.2.1,.bool z.2.1.2,.slice z.2.2.1.2 z.2.2.2.1.2.2.1 z.2.2.2.1.2.2.2]) (eh xs ys z.1),?_,?_⟩
 ·intro O w' r;exact⟨(0,(A0,A4),(A1,A5),(A2,A3,A6,A7),w',Od),⟨by simp,hw.tr r.cS,hd.rel r (cG w)⟩,Sub.gn [] r⟩
 rintro⟨i,⟨p0,p4⟩,⟨p1,p5⟩,⟨p2,p3,p6,p7⟩,w1,iv⟩ ⟨hi,hw,hd⟩;dsimp only at hi hw hd ⊢;refine dG.mk ?_ ?_<;>intro OW
 ·have OW:i<xs.length:=by simpa using OW
  have hs:=s4 hqx hqy h2 i;have Qf:2*h*i<=2*h*xs.length:=bO _ hi;have hs3:2*h*1<=2*h*xs.length:=bO _ (by omega);obtain⟨x,Pf⟩:∃x,xs[i]? =some x:=⟨_,aB OW⟩
  obtain⟨y,S7⟩:∃x,ys[i]? =some x:=⟨_,aB (by omega)⟩
  have hx3:=hqx x (aD Pf);have hy3:=hqy y (aD S7);have RI:xs.getD i 0=x:=by rw[List.getD,Pf];rfl
  have XN:ys.getD i 0=y:=by rw[List.getD,S7];rfl
  have hm:=fb x y;obtain⟨adx,csx,Pz,Qc,-,PS⟩:=dL.load hx Pf;obtain⟨ady,csy,Ux,Rb,-,Qu⟩:=dL.load hy S7;obtain⟨f0,f1,f2,f3,f4,f5,f6,f7,rfl,Qc⟩:=Qc;obtain⟨q0,q1,q2,q3,q4,q5,q6,q7,rfl,Rb⟩:=Rb;refine cO hτ dZ [.x 0,.x 1,.x 2,.x 3,.x 4,.x 5,.x 6,.x 7,.x 8,.x 9,.x 10,.x 11] (by kernel_rfl) (by kernel_rfl) ?_;refine⟨adx,Pz,by omega,[.bool f0,.slice f1 f2 f3,.bool f4,.slice f5 f6 f7],rfl,rdO PS hw hS,ady,Ux,by omega,[.bool q0,.slice q1 q2 q3,.bool q4,.slice q5 q6 q7],rfl,rdO Qu hw hS,?_⟩;refine cE hw (fun _ w' v w2=>cT w2 (Nf w' w2) v (x*y)) (fun O w' r=>vC (oS hS r) (Qc.cJ (kS hw r hS)) (Rb.cJ (kS hw r hS))) ?_;rintro O _ _ _ Oa r he hw h_ hn;replace hd:=hd.cK r (cG w) he (mC h_);have hp:=hn.dK (S:=FF) r.cI (mN h_);obtain⟨C0,C1,C2,C3,C4,C5,C6,C7,rfl⟩:=hp.shape;refine cE hw (fun _ w' v w2=>cT w2 (Nf w' w2) v (eh xs ys i+x*y)) (fun O w' r=>vD (Rel.old r (cG w)) ((hd.rel r (cG w)).l (by omega)) ((hp.rel r (cG w)).l (by omega))) ?_;rintro O _ _ _ Oj r he hw h_ hn;have PF:=hn.dK (S:=FF) r.cI (mN h_);obtain⟨F0,F1,F2,F3,F4,F5,F6,F7,rfl⟩:=PF.shape;rw[show eh xs ys i+x*y=eh xs ys (i+1) by rw[eh,RI,XN]]at PF;refine⟨((i+1:Nat):Int),wo,?_⟩;intro ρ3 w3 r3;exact⟨(i+1,(F0,F4),(F1,F5),(F2,F3,F6,F7),w3,_),⟨OW,hw.tr r3.cS,PF.rel r3 (cG w)⟩,Sub.gn [] r3,by dsimp only;omega⟩
 have OW:i=xs.length:=aQ hi (by simpa using OW);subst OW;exact rtn hw fun ρe we re=>hd.out re (cG w)
section
variable{S:Nat->Prop}{H:Hp}{nx:Nat}{iv iv':Iv}{B:Nat}{w w' w2:World}{O:Nat->Sx.eE}{css:List (List Value)}{qs:List Rat}
theorem Fc.rel(h:Fc w (Cv S B iv) css qs)(r:Rel H nx iv B w O w')(hS:∀g,S g->g<B):Fc w' (Cv S B iv) css qs:=h.cJ fun _ hg=>Rel.same r hS hg
theorem Fc.cK(h:Fc w (Cv S B iv) css qs)(r:Rel H nx iv B w O w')(hS:∀g,S g->g<B)(he:Ext w' w2)(hm:∀p,p∈iv->p∈iv'):Fc w2 (Cv S B iv') css qs:=
 ((h.rel r hS).cJ fun g hg=>he.block g (Rel.old r hS g hg)).cL fun _ hg=>hg.mono hm
theorem Fc.push(h:Fc w S css qs)(hc:jn w S cs q):Fc w S (css++[cs]) (qs++[q]):=by
 refine⟨by simp[h.1],fun j x p h1 h2=>?_⟩;rcases aP j css.length with hi|hi
 ·rw[aJ hi]at h1;rw[aJ (by rw[<-h.1];exact hi)]at h2;exact h.2 j x p h1 h2
 ·have Ra:j=css.length:=by have:=(aE.1 h1).1;simp at this;omega
  subst Ra;rw[aM (Nat.le_refl _),bI]at h1;rw[h.1,aM (Nat.le_refl _),bI]at h2;simp at h1 h2;subst h1 h2;exact hc
end
section
variable{S S':Nat->Prop}{H:Hp}{nx:Nat}{iv iv':Iv}{B:Nat}{w w' w2:World}{O:Nat->Sx.eE}{v:Value}{b:List (Int×Int)}
end
def jd(qs:List Rat):List (Int×Int):=qs.map fun q=>(q.num,(q.den:Int))
theorem yz(qs:List Rat):(jd qs).length=qs.length:=aL ..
theorem Iy(qs:List Rat):(jd qs).map sf=qs:=by
 unfold jd;rw[List.map_map];exact(List.map_congr_left fun q _=>qW q).trans (List.map_id qs)
theorem DN(K:List (List Rat)):iu (K.map jd)=K:=by
 unfold iu;rw[List.map_map];exact(List.map_congr_left fun q _=>Iy q).trans (List.map_id K)
theorem cR.jd(h:cR w S v qs):fp w S v (jd qs):=by
 obtain⟨css,h1,h2,h3,h4⟩:=h;refine⟨css,by unfold Go.Ex.jd;rw[aL];exact h1,by unfold Go.Ex.jd;rw[aL];exact h2,h3,fun j cs x k1 k2=>?_⟩;unfold Go.Ex.jd at k2;rw[aN]at k2;obtain⟨q,hq,rfl⟩:=Option.map_eq_some_iff.1 k2;obtain⟨b,a,n,c,b2,a2,n2,c2,rfl,hr⟩:=h4 j cs q k1 hq;exact hr.four
theorem cW.jd(h:cW w S v K):fC w S v (K.map jd):=by
 obtain⟨rv,h1,h2,h3⟩:=h;refine⟨rv,by rw[aL];exact h1,by rw[aL];exact h2,fun i u x k1 k2=>?_⟩;rw[aN]at k2;obtain⟨q,hq,rfl⟩:=Option.map_eq_some_iff.1 k2;exact(h3 i u q k1 hq).jd
theorem NS(h:∀q∈qs,rl q<=10000000000):Few (jd qs):=fun x hx=>by
 obtain⟨q,hq,rfl⟩:=aT.1 hx;exact⟨aV (gD q) (h q hq),aV (fO q) (h q hq)⟩
section
variable{S:Nat->Prop}{w:World}{v u:Value}{M:List (List (Int×Int))}{b:List (Int×Int)}
end
theorem cW.l(h:cW w S v K)(hq:∀r∈K,∀q∈r,rl q<=100000):fN w S v K:=by
 obtain⟨rv,h1,h2,h3⟩:=h;exact⟨rv,h1,h2,fun i u x k1 k2=>(h3 i u x k1 k2).l (hq x (aD k2))⟩
theorem lQ(M:List (List Rat))(x:List Rat):(kv M x).length=M.length:=aL ..
theorem NQ{x:List Rat}(hM:Ht M h)(hx:∀q∈x,rl q+1<=h)(h2:2<=h)(hn:∀r∈M,r.length<=n):∀q∈kv M x,rl q<=2*h*n+2:=fun q hq=>by
 obtain⟨r,hr,rfl⟩:=aT.1 hq;have h3:=s4 (hM r hr) hx h2 r.length;have:=bO (2*h) (hn r hr);omega
theorem eS.zero:eS w S (.agg #[.bool false,.slice none 0 0,.bool false,.slice none 0 0]) 0:=
 ⟨_,_,_,_,0,0,rfl,⟨false,[],⟨_,rfl,dV.nil _ _⟩,rfl,aO _⟩,⟨false,[],⟨_,rfl,dV.nil _ _⟩,rfl,aO _⟩,by decide⟩
theorem aAx{x:List Rat}(hS:Old S w)(hM:fN w S v M)(hx:dB w S u x)(OX:∀r∈M,r.length=x.length)(hqM:Ht M h)(hqx:∀q∈x,rl q+1<=h)(h2:2<=h)(hb:2*h*x.length<=90000)(hR:M.length<=1000000):
  eA PG N.zf #[v,u] w (eL w fun v' w2=>cR w2 (Nf w w2) v' (kv M x)):=by
 have hw:=bR w;obtain⟨am,cm,rfl,Ri,Q9⟩:=dA.shape hM;obtain⟨ax,cx,rfl,TU,-⟩:=dL.shape hx;unfold maxLen at Q9;refine Cs (by simp) ?_
 refine⟨Nat×List (List Value)×World×Iv,fun z=>⟨[(0,sV am M.length cm),(1,sV ax x.length cx),(5,.o (.w 0 z.2.1.length)),(6,iN z.1)],[(0,.vec T.Rat 4 z.2.1.flatten)],1,z.2.2.2,z.2.2.1⟩,fun z=>M.length-z.1,
  fun z=>z.1<=M.length∧dg w.heap.size w z.2.2.1∧Fc z.2.2.1 (Cf w z.2.2.2) z.2.1 ((kv M x).take z.1),?_,?_⟩
 ·intro O w' r
  exact⟨(0,[],w',[]),⟨aO _,hw.tr r.cS,by simp[Fc]⟩,Sub.nil 5 T.Rat 4 rfl (by simp[jw,SV.sc,At.sc,fQ]) r fun ρ1 r1=>
   Sub.gn [] r1⟩
 rintro⟨i,css,w1,iv⟩ ⟨hi,hw,hC⟩;dsimp only at hi hw hC ⊢;have QB:css.length=i:=by rw[hC.1,aZ,lQ];omega
 have Ok:=eD hC.mV;refine dG.mk ?_ ?_<;>intro OW
 ·have OW:i<M.length:=by simpa using OW
  obtain⟨ra,SM⟩:∃r,M[i]? =some r:=⟨_,aB OW⟩
  have UT:=OX ra (aD SM);obtain⟨adm,um,SN,QE,km1,km2⟩:=dA.load hM SM;obtain⟨au,cu,rfl,hcu,-⟩:=dL.shape QE;refine⟨adm,SN,by omega,.slice au ra.length cu,rd1 km2 hw (hS _ km1),?_⟩;refine cH (cE hw (fun _ w' v w2=>cT w2 (Nf w' w2) v (eh ra x ra.length)) (fun O w' r=>aDS (oS hS r) (dB.cJ QE ((kS hw r hS))) (dB.cJ hx ((kS hw r hS))) UT (hqM ra (aD SM)) hqx h2 (by rw[UT];exact hb)) ?_);rintro O _ _ PJ Od r he hw h_ hn;replace hC:=hC.cK r (cG w) he (mC h_);have hd:=hn.dK (S:=FF) r.cI (mN h_);obtain⟨A0,A1,A2,A3,A4,A5,A6,A7,rfl⟩:=hd.shape;have Sr:Fc PJ (Cf w Od) (css++[[.bool A0,.slice A1 A2 A3,.bool A4,.slice A5 A6 A7]]) ((kv M x).take (i+1)):=by
   have e:(kv M x)[i]? =some (eh ra x ra.length):=by rw[kv,aN,SM];rfl
   rw[List.take_add_one,e];exact hC.push hd.sX
  have PR:css.flatten++([.bool A0,.slice A1 A2 A3,.bool A4,.slice A5 A6 A7]:List Value)=(css++([[.bool A0,.slice A1 A2 A3,.bool A4,.slice A5 A6 A7]]:List (List Value))).flatten:=by simp
  refine .inl ?_;refine⟨by omega,by omega,by unfold maxLen;omega,((i+1:Nat):Int),wo,?_⟩;intro ρ3 w3 r3;exact⟨(i+1,css++[[.bool A0,.slice A1 A2 A3,.bool A4,.slice A5 A6 A7]],w3,_),⟨OW,hw.tr r3.cS,Sr.rel r3 (cG w)⟩,Sub.gn [(0,2)] r3 ⟨by dsimp only;rw[<-PR];rfl,trivial⟩ ⟨rfl,rfl,by dsimp only;rw[List.length_append,List.length_singleton];rfl,rfl,trivial⟩,by dsimp only;omega⟩
 have OW:i=M.length:=aQ hi (by simpa using OW);intro ρe we re;refine⟨_,rfl,hw.tr re.cS,?_⟩;rw[List.take_of_length_le (by rw[lQ];omega)]at hC;have h5:=re.gz (id:=0) (sz:=4) (m:=css.length) rfl Ok (by unfold maxLen;omega) (by decide) hC.one;have h6:=hC.rel re (cG w);refine⟨css,?_,h6.1,h6.mV,fun j cs q k1 k2=>(h6.2 j cs q k1 k2).cL fun _ hg=>Cv.nw hg re⟩;rw[<-hC.1];exact h5.cL fun g hg=>.inr hg
section
variable{S:Nat->Prop}{w:World}{v u:Value}{M:List (List (Int×Int))}{x:List Rat}
end
theorem oF(q:Rat):rs (q-0)=rs q:=by rw[show q-0=q by grind]
theorem k8(n:Int)(w:World)(h1n: -9223372036854775808<=n)(h2n:n<=9223372036854775807):eA PG N.tp #[.int .i64 n] w (eL w fun v' w2=>cT w2 (Nf w w2) v' (n:Rat)):=by
 have hw:=bR w;refine yZ (by simp) ?_;refine cH (cE hw (fun _ w' v w2=>cT w2 (Nf w' w2) v ((n:Rat))) (fun O w' r=>Jv n w' h1n h2n) ?_);rintro O _ _ _ Od r he hw h_ hn;have hd:=hn.dK (S:=FF) r.cI (mN h_);obtain⟨A0,A1,A2,A3,A4,A5,A6,A7,rfl⟩:=hd.shape;exact rtn hw fun ρe we re=>hd.out re (cG w)
theorem oG(hS:Old S w)(hq:eS w S v q):eA PG N.wY #[v] w (eL w fun v' _=>∃d,v'= .bool d∧(d=true↔q=0)):=by
 have hw:=bR w;obtain⟨f0,f1,f2,f3,f4,f5,f6,f7,rfl⟩:=hq.shape;refine AI (by simp) ?_;refine cH (cE hw (fun _ w' v w2=>v= .int .i64 (rs q)) (fun O w' r=>(Jw (oS hS r) (hq.v.cJ (kS hw r hS)) (eS.zero (S:=S)).v).mono fun _ _ ⟨v2,e1,e2,e3⟩=>⟨v2,e1,e2,by rw[e3,oF]⟩) ?_);rintro O _ _ _ Od r he hw h_ rfl;intro ρe we re;refine⟨_,rfl,hw.tr re.cS,_,rfl,?_⟩;rw[beq_iff_eq];exact lP
theorem Jx(hS:Old S w)(hp:eS w S v p)(hq:eS w S u q)(h0:q≠0):eA PG N.z7 #[v,u] w (eL w fun v' w2=>cT w2 (Nf w w2) v' (p / q)):=by
 have hw:=bR w;obtain⟨f0,f1,f2,f3,f4,f5,f6,f7,rfl⟩:=hp.shape;obtain⟨g0,g1,g2,g3,g4,g5,g6,g7,rfl⟩:=hq.shape;refine Co (by simp) ?_;refine cH (cE hw (fun _ w' v w2=>∃r,v= .tuple #[r,.int .i64 0]∧cT w2 (Nf w' w2) r (p / q)) (fun O w' r=>(aDF (oS hS r) (hp.v.cJ (kS hw r hS)) (hq.v.cJ (kS hw r hS))).mono fun _ _ ⟨v2,e1,e2,e3⟩=>⟨v2,e1,e2,e3.elim (fun h=>absurd h.1 h0) fun h=>h.2⟩) ?_);rintro O _ _ _ Od r he hw h_ ⟨q1,rfl,k1⟩;have hd:=k1.dK (S:=FF) r.cI (mN h_);obtain⟨s1_0a,s1_0b,s1_0c,s1_0d,s1_0e,s1_0f,s1_0g,s1_0h,rfl⟩:=hd.shape;exact rtn hw fun ρe we re=>hd.out re (cG w)
theorem yq(hS:Old S w)(hq:eS w S v q):eA PG N.zj #[v] w (eL w fun v' w2=>cT w2 (Nf w w2) v' (-q)):=by
 have hw:=bR w;obtain⟨f0,f1,f2,f3,f4,f5,f6,f7,rfl⟩:=hq.shape;refine Cw (by simp) ?_;refine cH (cE hw (fun _ w' v w2=>cT w2 (Nf w' w2) v (-q)) (fun O w' r=>(aAa (oS hS r) (eS.zero (S:=S)).v (hq.v.cJ (kS hw r hS))).mono fun _ _ ⟨v2,e1,e2,e3⟩=>⟨v2,e1,e2,by rwa [show (0:Rat)-q= -q by grind]at e3⟩) ?_);rintro O _ _ _ Od r he hw h_ hn;have hd:=hn.dK (S:=FF) r.cI (mN h_);obtain⟨A0,A1,A2,A3,A4,A5,A6,A7,rfl⟩:=hd.shape;exact rtn hw fun ρe we re=>hd.out re (cG w)
theorem aAb(hS:Old S w)(hx:dB w S v xs)(hy:dB w S u ys)(hl:xs.length<=ys.length)(hqx:∀q∈xs,rl q+1<=h)(hqy:∀q∈ys,rl q+1<=h)(h2:2<=h)(hb:2*h*xs.length<=90000):
  eA PG N.z6 #[v,u] w (eL w fun v' w2=>cT w2 (Nf w w2) v' (eh xs ys xs.length)):=by
 have hw:=bR w;obtain⟨ax,cx,rfl,TU,Tj⟩:=dL.shape hx;obtain⟨ay,cy,rfl,hcy,-⟩:=dL.shape hy;unfold maxLen at Tj;refine Cn (by simp) ?_;refine cH (cE hw (fun _ w' v w2=>cT w2 (Nf w' w2) v (((0:Int):Rat))) (fun O w' r=>k8 0 w' (by decide) (by decide)) ?_);rintro O _ _ _ Od r he hw h_ hn;have hd:=hn.dK (S:=FF) r.cI (mN h_);obtain⟨A0,A1,A2,A3,A4,A5,A6,A7,rfl⟩:=hd.shape;rw[show ((0:Int):Rat)=eh xs ys 0 from rfl]at hd
 refine⟨Nat×(Bool×Bool)×(Option Addr×Option Addr)×(Nat×Nat×Nat×Nat)×World×Iv,fun z=>⟨[(1,sV ay ys.length cy),(4,pP 0 0),(5,pP 1 0),(9,sV ax xs.length cx),(10,iZ xs.length),(11,iN z.1)],[(1,.box T.Rat [.v (.bool z.2.1.1),.v (.slice z.2.2.1.1 z.2.2.2.1.1 z.2.2.2.1.2.1),.v (.bool z.2.1.2),.v (.slice z.2.2.1.2 z.2.2.2.1.2.2.1 z.2.2.2.1.2.2.2)]),(0,.box T.Rat [.v (.bool false),.v (.slice none 0 0),.v (.bool false),.v (.slice none 0 0)])],2,z.2.2.2.2.2,z.2.2.2.2.1⟩,fun z=>xs.length-z.1,
  fun z=>z.1<=xs.length∧dg w.heap.size w z.2.2.2.2.1∧cT z.2.2.2.2.1 (Cf w z.2.2.2.2.2) (.agg #[.bool z.2.1.1,.slice z.2.2.1.1 z.2.2.2.1.1 z.2.2.2.1.2.1,.bool z.2.1.2,.slice z.2.2.1.2 z.2.2.2.1.2.2.1 z.2.2.2.1.2.2.2]) (eh xs ys z.1),?_,?_⟩
 ·intro O w' r;exact⟨(0,(A0,A4),(A1,A5),(A2,A3,A6,A7),w',Od),⟨by simp,hw.tr r.cS,hd.rel r (cG w)⟩,Sub.gn [] r⟩
 rintro⟨i,⟨p0,p4⟩,⟨p1,p5⟩,⟨p2,p3,p6,p7⟩,w1,iv⟩ ⟨hi,hw,hd⟩;dsimp only at hi hw hd ⊢;refine dG.mk ?_ ?_<;>intro OW
 ·have OW:i<xs.length:=by simpa using OW
  have hs:=s4 hqx hqy h2 i;have Qf:2*h*i<=2*h*xs.length:=bO _ hi;have hs3:2*h*1<=2*h*xs.length:=bO _ (by omega);obtain⟨x,Pf⟩:∃x,xs[i]? =some x:=⟨_,aB OW⟩
  obtain⟨y,S7⟩:∃x,ys[i]? =some x:=⟨_,aB (by omega)⟩
  have hx3:=hqx x (aD Pf);have hy3:=hqy y (aD S7);have RI:xs.getD i 0=x:=by rw[List.getD,Pf];rfl
  have XN:ys.getD i 0=y:=by rw[List.getD,S7];rfl
  have hm:=fb x y;obtain⟨adx,csx,Pz,Qc,-,PS⟩:=dL.load hx Pf;obtain⟨ady,csy,Ux,Rb,-,Qu⟩:=dL.load hy S7;obtain⟨f0,f1,f2,f3,f4,f5,f6,f7,rfl,Qc⟩:=Qc;obtain⟨q0,q1,q2,q3,q4,q5,q6,q7,rfl,Rb⟩:=Rb;refine⟨adx,Pz,by omega,[.bool f0,.slice f1 f2 f3,.bool f4,.slice f5 f6 f7],rfl,rdO PS hw hS,?_⟩;refine cH (cE hw (fun _ w' v w2=>∃d,v= .bool d∧(d=true↔x=0)) (fun O w' r=>oG (oS hS r) (Qc.cJ (kS hw r hS))) ?_);rintro O _ _ _ Oa r he hw h_ ⟨d1,rfl,PM⟩;replace hd:=hd.cK r (cG w) he (mC h_)
  cases d1
  ·refine⟨ady,Ux,by omega,[.bool q0,.slice q1 q2 q3,.bool q4,.slice q5 q6 q7],rfl,rdO Qu hw hS,?_⟩;refine cH (cE hw (fun _ w' v w2=>∃d,v= .bool d∧(d=true↔y=0)) (fun O w' r=>oG (oS hS r) (Rb.cJ (kS hw r hS))) ?_);rintro O _ _ _ Oj r he hw h_ ⟨d2,rfl,QD⟩;replace hd:=hd.cK r (cG w) he (mC h_)
   cases d2
   ·refine cO hτ dZ [.x 0,.x 1,.x 2,.x 3,.x 4,.x 5,.x 6,.x 7,.x 8] (by kernel_rfl) (by kernel_rfl) ?_;refine⟨ady,Ux,by omega,[.bool q0,.slice q1 q2 q3,.bool q4,.slice q5 q6 q7],rfl,rdO Qu hw hS,?_⟩;refine cE hw (fun _ w' v w2=>cT w2 (Nf w' w2) v (x*y)) (fun O w' r=>DC (oS hS r) (Qc.v.cJ (kS hw r hS)) (Rb.v.cJ (kS hw r hS))) ?_;rintro O _ _ _ Oz r he hw h_ hn;replace hd:=hd.cK r (cG w) he (mC h_);have hp:=hn.dK (S:=FF) r.cI (mN h_);obtain⟨C0,C1,C2,C3,C4,C5,C6,C7,rfl⟩:=hp.shape;refine cE hw (fun _ w' v w2=>cT w2 (Nf w' w2) v (eh xs ys i+x*y)) (fun O w' r=>G9 (Rel.old r (cG w)) ((hd.rel r (cG w)).v (by omega)) ((hp.rel r (cG w)).v (by omega))) ?_;rintro O _ _ _ QT r he hw h_ hn;have PF:=hn.dK (S:=FF) r.cI (mN h_);obtain⟨F0,F1,F2,F3,F4,F5,F6,F7,rfl⟩:=PF.shape;rw[show eh xs ys i+x*y=eh xs ys (i+1) by rw[eh,RI,XN]]at PF;refine⟨((i+1:Nat):Int),wo,?_⟩;intro ρ3 w3 r3;exact⟨(i+1,(F0,F4),(F1,F5),(F2,F3,F6,F7),w3,_),⟨OW,hw.tr r3.cS,PF.rel r3 (cG w)⟩,Sub.gn [] r3,by dsimp only;omega⟩
   ·have QM:y=0:=QD.1 rfl;rw[show eh xs ys i=eh xs ys (i+1) by rw[eh,RI,XN,QM,bB,bN]]at hd;refine⟨((i+1:Nat):Int),wo,?_⟩;intro ρ3 w3 r3;exact⟨(i+1,(p0,p4),(p1,p5),(p2,p3,p6,p7),w3,_),⟨OW,hw.tr r3.cS,hd.rel r3 (cG w)⟩,Sub.gn [] r3,by dsimp only;omega⟩
  ·have SC:x=0:=PM.1 rfl;rw[show eh xs ys i=eh xs ys (i+1) by rw[eh,RI,XN,SC,bC,bN]]at hd;refine⟨((i+1:Nat):Int),wo,?_⟩;intro ρ3 w3 r3;exact⟨(i+1,(p0,p4),(p1,p5),(p2,p3,p6,p7),w3,_),⟨OW,hw.tr r3.cS,hd.rel r3 (cG w)⟩,Sub.gn [] r3,by dsimp only;omega⟩
 have OW:i=xs.length:=aQ hi (by simpa using OW);subst OW;exact rtn hw fun ρe we re=>hd.out re (cG w)
structure gh(w:World)(S:Nat->Prop)(n i:Nat)(css:List (List Value))(qs:List Rat):Prop where
 len:css.length=n
 four:∀cs∈css,cs.length=4
 one:∀cs∈css,∀u∈cs,u.oneCell'=true
 at_:∀(j:Nat) cs q,j<i->css[j]? =some cs->qs[j]? =some q->jn w S cs q
section
variable{S S':Nat->Prop}{H:Hp}{nx n i:Nat}{iv iv':Iv}{B:Nat}{w w1 w' w2:World}{O:Nat->Sx.eE}{css:List (List Value)}{qs:List Rat}
theorem gh.cJ(h:gh w S n i css qs)(hk:∀g,S g->w2.heap[g]? =w.heap[g]?):gh w2 S n i css qs:=⟨h.len,h.four,h.one,fun j cs q hj h1 h2=>(h.at_ j cs q hj h1 h2).cJ hk⟩
theorem gh.cL(h:gh w S n i css qs)(hk:∀g,S g->S' g):gh w S' n i css qs:=⟨h.len,h.four,h.one,fun j cs q hj h1 h2=>(h.at_ j cs q hj h1 h2).cL hk⟩
theorem gh.rel(h:gh w (Cv S B iv) n i css qs)(r:Rel H nx iv B w O w')(hS:∀g,S g->g<B):gh w' (Cv S B iv) n i css qs:=h.cJ fun _ hg=>Rel.same r hS hg
theorem gh.cK(h:gh w (Cv S B iv) n i css qs)(r:Rel H nx iv B w O w')(hS:∀g,S g->g<B)(he:Ext w' w2)(hm:∀p,p∈iv->p∈iv'):gh w2 (Cv S B iv') n i css qs:=
 ((h.rel r hS).cJ fun g hg=>he.block g (Rel.old r hS g hg)).cL fun _ hg=>hg.mono hm
theorem gh.start(w:World)(S:Nat->Prop)(n:Nat)(qs:List Rat):gh w S n 0 (List.replicate n f0) qs:=
 ⟨by simp,fun cs hc=>by rw[ah hc];rfl,fun cs hc u hu=>by rw[ah hc]at hu;simp[f0]at hu;rcases hu with rfl|rfl|rfl|rfl<;>rfl,fun j cs q hj=>by omega⟩
theorem gh.next{b b2:Bool}{a2:Option Addr}{m c m2 c2:Nat}(h:gh w S n i css qs)(hi:i<n)(hq:qs[i]? =some q)(hf:cT w S (.agg #[.bool b,.slice a m c,.bool b2,.slice a2 m2 c2]) q):
  gh w S n (i+1) (css.set i [.bool b,.slice a m c,.bool b2,.slice a2 m2 c2]) qs:=by
 refine⟨by simp[h.len],fun cs hc=>?_,fun cs hc u hu=>?_,fun j cs p hj h1 h2=>?_⟩
 ·rcases bA hc with hc|rfl
  ·exact h.four cs hc
  ·rfl
 ·rcases bA hc with hc|rfl
  ·exact h.one cs hc u hu
  ·simp at hu;rcases hu with rfl|rfl|rfl|rfl<;>rfl
 ·by_cases PZ:i=j
  ·subst PZ;rw[aR (by rw[h.len];exact hi)]at h1;rw[hq]at h2;injection h1 with h1;injection h2 with h2;subst h1 h2;exact hf.sX
  ·rw[aX PZ]at h1;exact h.at_ j cs p (by omega) h1 h2
theorem gh.flat(h:gh w S n i css qs):css.flatten.length=n*4:=by rw[eD h.four,h.len]
theorem gh.done{w0:World}(h:gh w1 (Cf w0 iv) n n css qs)(hl:qs.length=n)(hn:n<=maxLen)(r:Rel H nx iv w0.heap.size w1 O w'){id:Nat}(hH:dM H id=some (.arr T.Rat css.flatten))(On:(O id).nil=false):
  eO w' FF w0.heap.size [(w0.heap.size,w'.heap.size)] (.slice (some ⟨(O id).g,0,none⟩) n n) n qs:=by
 have h2:=h.rel r (cG w0);have Ol:=r.low id _ hH On;refine⟨⟨css,⟨h.flat,.inr ⟨(O id).g,n,css.flatten.toArray,rfl,aO _,r.arr id _ _ hH,Nat.le_refl _,hn,by simpa using h.flat,?_⟩⟩,h.len,?_⟩,fun g hg=>?_⟩
 ·rw[<-h.flat];exact bH
 ·refine⟨by rw[h.len,hl],fun j cs q h3 h4=>?_⟩;refine(h2.at_ j cs q (by rw[<-hl];exact(aE.1 h4).1) h3 h4).cL fun g hg=>⟨?_,fun e=>?_⟩
  ·rcases hg with hg|⟨k1,lo,hi,k2,k3,k4⟩
   ·exact hg.elim
   ·exact .inr ⟨k1,_,_,bE.2 rfl,k1,by have:=r.so lo hi k2;have:=r.size;omega⟩
  ·injection e with e;exact Rel.not r (cG w0) hg id _ hH On e
 ·injection hg with hg;subst hg;exact .inr ⟨Ol.1,_,_,bE.2 rfl,Ol.1,Ol.2⟩
theorem gj.c(h:gj w S S v qs):cR w S v qs:=by
 obtain⟨css,h1,h2⟩:=h;exact⟨css,h1,h2.1,h2.mV,h2.2⟩
theorem eO.c(h:eO w S B iv v n qs):cR w (Cv S B iv) v qs:=h.read.c
theorem cR.rc(h:cR w S v qs):gj w S S v qs:=by
 obtain⟨css,h1,h2,h3,h4⟩:=h;exact⟨css,h1,h2,h4⟩
theorem gj.rel(h:gj w (Cv C B iv) (Cv S B iv) v qs)(r:Rel H nx iv B w O w')(hC:∀g,C g->g<B)(hS:∀g,S g->g<B):gj w' (Cv C B iv) (Cv S B iv) v qs:=
 h.cJ fun _ hg=>hg.elim (Rel.same r hC) (Rel.same r hS)
theorem gj.cK(h:gj w (Cv C B iv) (Cv S B iv) v qs)(r:Rel H nx iv B w O w')(hC:∀g,C g->g<B)(hS:∀g,S g->g<B)(he:Ext w' w2)(hm:∀p,p∈iv->p∈iv'):gj w2 (Cv C B iv') (Cv S B iv') v qs:=
 ((h.rel r hC hS).cJ fun g hg=>he.block g (hg.elim (Rel.old r hC g) (Rel.old r hS g))).cL (fun _ hg=>hg.mono hm) (fun _ hg=>hg.mono hm)
theorem gj.arg(h:gj w C S v qs)(iv:Iv):gj w (Cv C w.heap.size iv) (Cv S w.heap.size iv) v qs:=h.cL (fun _ h=>.inl h) (fun _ h=>.inl h)
theorem gj.shape(h:gj w C S v qs):∃a c,v= .slice a qs.length c∧qs.length<=c∧qs.length<=maxLen:=by
 obtain⟨css,⟨h0,_,_,a,c,h1,h2,_⟩,_⟩:=h;exact⟨a,c,h1,h2,h0⟩
theorem gj.load{n c j:Nat}(h:gj w C S (.slice a n c) qs)(hq:qs[j]? =some q):
  ∃ad cs,a=some ad∧jn w S cs q∧∀k u,cs[k]? =some u->C ad.block∧w.cell? ((ad.add (j*4)).add k)=some u:=by
 obtain⟨css,⟨h0,h1,h2,a',c',e,h3,h4⟩,hf⟩:=h;injection e with e1 e2 e3;subst e1;obtain⟨cs,Ox⟩:∃cs,css[j]? =some cs:=⟨_,aB (by rw[hf.1];exact(aE.1 hq).1)⟩
 have hF:=hf.2 j cs q Ox hq;have hl:=hF.len;obtain⟨ad,k1,k2,k3⟩:=h4 (j*4+0) _ (flat_get hf.mV Ox 0 _ (aB (show 0<cs.length by omega)));refine⟨ad,cs,k1,hF,fun k u hu=>?_⟩;obtain⟨ad2,m1,m2,m3⟩:=h4 (j*4+k) u (flat_get hf.mV Ox k u hu);rw[k1]at m1;injection m1 with m1;subst m1;refine⟨m2,?_⟩;rw[<-m3];have:(ad.add (j*4)).add k=ad.add (j*4+k):=by
  unfold Addr.add;split<;>split<;>simp_all<;>omega
 rw[this]
theorem IV{j:Nat}{c:Nat}(h:w.ownsRow 0 T.Rat 4 (.slice a n c) n css.flatten)(hf:Fc w S css qs)(hj:css[j]? =some cs):
  ∃g,a=some ⟨g,0,none⟩∧∀k u,cs[k]? =some u->w.cell? ((Addr.add ⟨g,0,none⟩ (j*4)).add k)=some u:=by
 rcases h.2 with⟨h1,h0⟩|⟨g,cap,cur,Rx,_⟩
 ·have:=h.1;rw[eD hf.mV]at this;have:=(aE.1 hj).1;omega
 ·injection Rx with h1 h2 h3;subst h1;refine⟨g,rfl,fun k u hu=>?_⟩;have:=h.cells (g:=g) rfl (j*4+k) u (flat_get hf.mV hj k u hu);rw[dP,dP];rw[dP]at this;rw[Nat.add_assoc];exact this
end
theorem DD(n:Nat)(w:World)(hn:n<=1000000):eA PG N.tx #[.int .i64 n] w (eL w fun v' w2=>eO w2 FF w.heap.size [(w.heap.size,w2.heap.size)] v' n (List.replicate n 0)):=by
 have hw:=bR w;refine ye (by simp) ?_
 refine⟨n,n,rfl,rfl,Nat.le_refl _,by omega,by omega,Nat×List (List Value)×Iv×World,fun z=>⟨[(3,.o (.s 0 0 n n)),(8,iZ n),(9,iN z.1)],[(0,.arr T.Rat z.2.1.flatten)],1,z.2.2.1,z.2.2.2⟩,fun z=>n-z.1,
  fun z=>z.1<=n∧dg w.heap.size w z.2.2.2∧gh z.2.2.2 (Cf w z.2.2.1) (n) z.1 z.2.1 (List.replicate n 0),?_,?_⟩
 ·intro O w' r;exact⟨(0,List.replicate (n) f0,_,w'),⟨by simp,hw.tr r.cS,gh.start _ _ _ _⟩,Sub.gn [] r⟩
 rintro⟨i,css,iv,w1⟩ ⟨hi,hw,hF⟩;dsimp only at hi hw hF ⊢;refine dG.mk ?_ ?_<;>intro h
 ·have h:i<n:=by simpa using h
  refine cH (cE hw (fun _ w' v w2=>cT w2 (Nf w' w2) v (((0:Int):Rat))) (fun O w' r=>k8 0 w' (by decide) (by decide)) ?_);rintro O _ _ _ Od r he hw h_ hn;replace hF:=hF.cK r (cG w) he (mC h_);have hd:=hn.dK (S:=FF) r.cI (mN h_);obtain⟨A0,A1,A2,A3,A4,A5,A6,A7,rfl⟩:=hd.shape;have Oq:=hF.next h (q:=_) (by simp[h]) hd
  refine⟨by omega,by have:=hF.flat;omega,(css.set i [.bool A0,.slice A1 A2 A3,.bool A4,.slice A5 A6 A7]).flatten,?_,?_⟩
  ·have:=jt (cs:=[.bool A0,.slice A1 A2 A3,.bool A4,.slice A5 A6 A7]) hF.four (show i<css.length by rw[hF.len];exact h);rw[<-this];simp
  refine⟨((i+1:Nat):Int),wo,?_⟩;intro ρ3 w3 r3;exact⟨(i+1,css.set i [.bool A0,.slice A1 A2 A3,.bool A4,.slice A5 A6 A7],_,w3),⟨h,hw.tr r3.cS,Oq.rel r3 (cG w)⟩,Sub.gn [] r3,by dsimp only;omega⟩
 have h:i=n:=aQ hi (by simpa using h);subst h;exact rtn hw fun ρe we re=>hF.done (by simp) (by unfold maxLen;omega) re (id:=0) rfl (re.nn 0 _ rfl (by intros;simp) (by simp))
theorem Es{b:Rat}(hS:Old S w)(hx:dB w S v xs)(hb:eS w S u b)(hn:xs.length<=1000000):
  eA PG N.sA #[v,u] w (eL w fun v' w2=>eO w2 FF w.heap.size [(w.heap.size,w2.heap.size)] v' xs.length (eB xs b)):=by
 have hw:=bR w;obtain⟨ax,cx,rfl,TU,Tj⟩:=dL.shape hx;obtain⟨g0,g1,g2,g3,g4,g5,g6,g7,rfl⟩:=hb.shape;have PD:rl b<=100000:=hb.rl;refine xO (by simp) ?_
 refine⟨xs.length,xs.length,rfl,rfl,Nat.le_refl _,by omega,by omega,Nat×List (List Value)×Iv×World,fun z=>⟨[(3,pP 0 0),(5,.o (.s 1 0 xs.length xs.length)),(11,sV ax xs.length cx),(12,iZ xs.length),(13,iN z.1)],[(0,.box T.Rat [.v (.bool g0),.v (.slice g1 g2 g3),.v (.bool g4),.v (.slice g5 g6 g7)]),(1,.arr T.Rat z.2.1.flatten)],2,z.2.2.1,z.2.2.2⟩,fun z=>xs.length-z.1,
  fun z=>z.1<=xs.length∧dg w.heap.size w z.2.2.2∧gh z.2.2.2 (Cf w z.2.2.1) (xs.length) z.1 z.2.1 (eB xs b),?_,?_⟩
 ·intro O w' r;exact⟨(0,List.replicate (xs.length) f0,_,w'),⟨by simp,hw.tr r.cS,gh.start _ _ _ _⟩,Sub.gn [] r⟩
 rintro⟨i,css,iv,w1⟩ ⟨hi,hw,hF⟩;dsimp only at hi hw hF ⊢;refine dG.mk ?_ ?_<;>intro h
 ·have h:i<xs.length:=by simpa using h
  obtain⟨x,Pf⟩:∃x,xs[i]? =some x:=⟨_,aB h⟩
  obtain⟨adx,csx,Pz,Qc,-,PS⟩:=dL.load hx Pf;obtain⟨f0,f1,f2,f3,f4,f5,f6,f7,rfl,Qc⟩:=Qc;refine⟨adx,Pz,by omega,[.bool f0,.slice f1 f2 f3,.bool f4,.slice f5 f6 f7],rfl,rdO PS hw hS,?_⟩;refine cH (cE hw (fun _ w' v w2=>cT w2 (Nf w' w2) v (x*b)) (fun O w' r=>DC (oS hS r) (Qc.v.cJ (kS hw r hS)) (hb.v.cJ (kS hw r hS))) ?_);rintro O _ _ _ Od r he hw h_ hn;replace hF:=hF.cK r (cG w) he (mC h_);have hd:=hn.dK (S:=FF) r.cI (mN h_);obtain⟨A0,A1,A2,A3,A4,A5,A6,A7,rfl⟩:=hd.shape;have Oq:=hF.next h (q:=_) (by rw[eB,aN,Pf];rfl) hd
  refine⟨by omega,by have:=hF.flat;omega,(css.set i [.bool A0,.slice A1 A2 A3,.bool A4,.slice A5 A6 A7]).flatten,?_,?_⟩
  ·have:=jt (cs:=[.bool A0,.slice A1 A2 A3,.bool A4,.slice A5 A6 A7]) hF.four (show i<css.length by rw[hF.len];exact h);rw[<-this];simp
  refine⟨((i+1:Nat):Int),wo,?_⟩;intro ρ3 w3 r3;exact⟨(i+1,css.set i [.bool A0,.slice A1 A2 A3,.bool A4,.slice A5 A6 A7],_,w3),⟨h,hw.tr r3.cS,Oq.rel r3 (cG w)⟩,Sub.gn [] r3,by dsimp only;omega⟩
 have h:i=xs.length:=aQ hi (by simpa using h);subst h;exact rtn hw fun ρe we re=>hF.done (by simp[eB]) (by unfold maxLen;omega) re (id:=1) rfl (re.nn 1 _ rfl (by intros;simp) (by simp))
theorem Lf(hS:Old S w)(hx:dB w S v xs)(hy:dB w S u ys)(hl:xs.length<=ys.length)(hn:xs.length<=1000000):
  eA PG N.wu #[v,u] w (eL w fun v' w2=>eO w2 FF w.heap.size [(w.heap.size,w2.heap.size)] v' xs.length (fm xs ys)):=by
 have hw:=bR w;obtain⟨ax,cx,rfl,TU,Tj⟩:=dL.shape hx;obtain⟨ay,cy,rfl,hcy,hmy⟩:=dL.shape hy;refine AQ (by simp) ?_
 refine⟨xs.length,xs.length,rfl,rfl,Nat.le_refl _,by omega,by omega,Nat×List (List Value)×Iv×World,fun z=>⟨[(0,sV ax xs.length cx),(1,sV ay ys.length cy),(5,.o (.s 0 0 xs.length xs.length)),(11,iZ xs.length),(12,iN z.1)],[(0,.arr T.Rat z.2.1.flatten)],1,z.2.2.1,z.2.2.2⟩,fun z=>xs.length-z.1,
  fun z=>z.1<=xs.length∧dg w.heap.size w z.2.2.2∧gh z.2.2.2 (Cf w z.2.2.1) (xs.length) z.1 z.2.1 (fm xs ys),?_,?_⟩
 ·intro O w' r;exact⟨(0,List.replicate (xs.length) f0,_,w'),⟨by simp,hw.tr r.cS,gh.start _ _ _ _⟩,Sub.gn [] r⟩
 rintro⟨i,css,iv,w1⟩ ⟨hi,hw,hF⟩;dsimp only at hi hw hF ⊢;refine dG.mk ?_ ?_<;>intro h
 ·have h:i<xs.length:=by simpa using h
  obtain⟨x,Pf⟩:∃x,xs[i]? =some x:=⟨_,aB h⟩
  obtain⟨y,S7⟩:∃x,ys[i]? =some x:=⟨_,aB (by omega)⟩
  obtain⟨adx,csx,Pz,Qc,-,PS⟩:=dL.load hx Pf;obtain⟨f0,f1,f2,f3,f4,f5,f6,f7,rfl,Qc⟩:=Qc;obtain⟨ady,csy,Ux,Rb,-,Qu⟩:=dL.load hy S7;obtain⟨q0,q1,q2,q3,q4,q5,q6,q7,rfl,Rb⟩:=Rb;refine cO hτ dZ [.x 0,.x 1,.x 2,.x 3,.x 4,.x 5,.x 6,.x 7,.x 8,.x 9,.x 10,.x 11,.x 12] (by kernel_rfl) (by kernel_rfl) ?_;refine⟨adx,Pz,by omega,[.bool f0,.slice f1 f2 f3,.bool f4,.slice f5 f6 f7],rfl,rdO PS hw hS,ady,Ux,by omega,[.bool q0,.slice q1 q2 q3,.bool q4,.slice q5 q6 q7],rfl,rdO Qu hw hS,?_⟩;refine cE hw (fun _ w' v w2=>cT w2 (Nf w' w2) v (x*y)) (fun O w' r=>DC (oS hS r) (Qc.v.cJ (kS hw r hS)) (Rb.v.cJ (kS hw r hS))) ?_;rintro O _ _ _ Od r he hw h_ hn;replace hF:=hF.cK r (cG w) he (mC h_);have hd:=hn.dK (S:=FF) r.cI (mN h_);obtain⟨A0,A1,A2,A3,A4,A5,A6,A7,rfl⟩:=hd.shape;have Oq:=hF.next h (q:=_) (by rw[fm,List.getElem?_mapIdx,Pf,List.getD,S7];rfl) hd
  refine⟨by omega,by have:=hF.flat;omega,(css.set i [.bool A0,.slice A1 A2 A3,.bool A4,.slice A5 A6 A7]).flatten,?_,?_⟩
  ·have:=jt (cs:=[.bool A0,.slice A1 A2 A3,.bool A4,.slice A5 A6 A7]) hF.four (show i<css.length by rw[hF.len];exact h);rw[<-this];simp
  refine⟨((i+1:Nat):Int),wo,?_⟩;intro ρ3 w3 r3;exact⟨(i+1,css.set i [.bool A0,.slice A1 A2 A3,.bool A4,.slice A5 A6 A7],_,w3),⟨h,hw.tr r3.cS,Oq.rel r3 (cG w)⟩,Sub.gn [] r3,by dsimp only;omega⟩
 have h:i=xs.length:=aQ hi (by simpa using h);subst h;exact rtn hw fun ρe we re=>hF.done (by simp[fm]) (by unfold maxLen;omega) re (id:=0) rfl (re.nn 0 _ rfl (by intros;simp) (by simp))
theorem aBw{vby vs:Value}{ps:List Rat}(hC:Old C w)(hS:Old S w)(hrw:iF w S v n qs)(PD:eS w S vby p)
  (hs:gj w C S vs ps) (QI:ps.length=n) (hdis:∀g,v.ownBlock=some g->¬S g) (Vf:∀g,v.ownBlock=some g->¬C g) (hq:∀q∈qs,rl q+1<=h) (hps:∀q∈ps,rl q+1<=h) (hb:rl p+1<=h) (hh:3*h<=90000):
  eA PG N.qC #[v,vs,vby] w (fun e w2=>e= .returned (.tuple #[])∧w.grownBy w2 v.ownBlock∧iF w2 (Nw S w w2) v n (nZ qs ps p)):=by
 obtain⟨css,OX,QB,QF⟩:=hrw;have Ol:∀g,v.ownBlock=some g->g<w.heap.size:=fun g hg=>(ownsRow.low OX g hg).2;have Pn:∀iv g,v.ownBlock=some g->Out w.heap.size iv g:=fun iv g hg=>.inl (Ol g hg);have WI:∀iv g,v.ownBlock=some g->¬Cv S w.heap.size iv g:=fun iv g hg h=>by
  rcases h with h|⟨h,_⟩
  ·exact hdis g hg h
  ·have:=Ol g hg;omega
 have WJ:∀iv g,v.ownBlock=some g->¬Cv C w.heap.size iv g:=fun iv g hg h=>by
  rcases h with h|⟨h,_⟩
  ·exact Vf g hg h
  ·have:=Ol g hg;omega
 have Sd:qs.length=n:=by rw[<-QF.1,QB]
 obtain⟨a,c,rfl,Uq⟩:=iX OX;obtain⟨b1,a1,n1,c1,b2,a2,n2,c2,rfl⟩:=PD.shape;obtain⟨asl,cs0,rfl,Sn,Va⟩:=hs.shape;rw[QI]at Sn Va hs ⊢;unfold maxLen at Va;replace QF:=QF.cL (S':=Cv S w.heap.size []) fun _ h=>.inl h;replace PD:=PD.arg [];replace hs:=hs.arg [];refine AX (by simp) ?_;have Pp:=OX;have hg:w.grownBy w (Value.slice a n c).ownBlock:=⟨rfl,rfl,rfl,Nat.le_refl _,fun _ _ _=>rfl⟩
 have hbyl:rl p<=100000:=PD.rl
 refine⟨Nat×List (List Value)×Iv×World,fun z=>⟨[(0,sV a n c),(5,pP 0 0),(8,sV asl n cs0),(9,iZ n),(10,iZ z.1)],
   [(0,.box T.Rat [.v (.bool b1),.v (.slice a1 n1 c1),.v (.bool b2),.v (.slice a2 n2 c2)])],1,z.2.2.1,z.2.2.2⟩,fun z=>n-z.1,
  fun z=>z.1<=n∧w.grownBy z.2.2.2 (Value.slice a n c).ownBlock∧z.2.2.2.ownsRow 0 T.Rat 4 (.slice a n c) n z.2.1.flatten∧z.2.1.length=n∧Fc z.2.2.2 (Cv S w.heap.size z.2.2.1) z.2.1 (iY z.1 (oe (-p) ps) qs)∧
   eS z.2.2.2 (Cv S w.heap.size z.2.2.1) (.agg #[.bool b1,.slice a1 n1 c1,.bool b2,.slice a2 n2 c2]) p∧gj z.2.2.2 (Cv C w.heap.size z.2.2.1) (Cv S w.heap.size z.2.2.1) (.slice asl n cs0) ps,?_,?_⟩
 ·intro O w' r
  refine⟨(0,css,[],w'),⟨by simp,eR hg r.cS,ia Pp (Pn []) r,QB,by rw[qO];exact QF.rel r hS,PD.rel r hS,hs.rel r hC hS⟩,
   Sub.gn [] r⟩
 rintro⟨i,css,iv,w1⟩ ⟨hi,hg,OX,QB,QF,PD,hs⟩;dsimp only at hi hg OX QB QF PD hs ⊢;refine dG.mk ?_ ?_<;>intro h
 ·have h:i<n:=by simpa using h
  obtain⟨cs,Ox⟩:∃cs,css[i]? =some cs:=⟨_,aB (by omega)⟩
  obtain⟨q,XO⟩:∃q,qs[i]? =some q:=⟨_,aB (by omega)⟩
  obtain⟨f,UO⟩:∃f,ps[i]? =some f:=⟨_,aB (by omega)⟩
  have hF:=QF.2 i cs q Ox (xa XO);have Ua:oe (-p) ps i q=q-p*f:=by simp only[oe,List.getD,UO,Option.getD_some];grind
  obtain⟨d1,e1,m1,k1,d2,e2,m2,k2,rfl,hF⟩:=hF;have hrlq:=hq q (aD XO);have hrlf:=hps f (aD UO);obtain⟨ad,fcs,Oy,Uy,Ok⟩:=hs.load UO;obtain⟨f1,g1,o1,u1,f2,g2,o2,u2,rfl,Uy⟩:=Uy;refine⟨ad,Oy,by omega,[.bool f1,.slice g1 o1 u1,.bool f2,.slice g2 o2 u2],rfl,fun O w' r j x hx=>?_,?_⟩
  ·have Qf:=hs.rel r hC hS;obtain⟨k2',k3⟩:=Ok j x hx;have:=Rel.same r hC k2';rw[aF,cM (w:=w1) (w2:=w') (by rw[dD,dD];exact this)];exact k3
  refine cH (cP (Φ:=fun _ _ v _=>∃d,v= .bool d∧(d=true↔f=0)) (fun O w' r=>oG (Rel.old r hS) ((Uy.rel r hS).l (by omega))) ?_);rintro O wa v1 wb r he QH ⟨dz,rfl,hz⟩;replace PD:=PD.cK (iv':=(wa.heap.size,wb.heap.size)::iv) r hS he fun x hx=>aC _ hx;replace QF:=QF.cK (iv':=(wa.heap.size,wb.heap.size)::iv) r hS he fun x hx=>aC _ hx;replace hs:=hs.cK (iv':=(wa.heap.size,wb.heap.size)::iv) r hC hS he fun x hx=>aC _ hx;replace Uy:=Uy.cK (iv':=(wa.heap.size,wb.heap.size)::iv) r hS he fun x hx=>aC _ hx;replace hF:=hF.cK (iv':=(wa.heap.size,wb.heap.size)::iv) r hS he fun x hx=>aC _ hx;replace OX:wb.ownsRow 0 T.Rat 4 (.slice a n c) n css.flatten:=ownsRow.cJ (ia OX (Pn iv) r) fun b hb=>he.block b (by have:=Ol b hb;have:=r.cI;omega);replace hg:w.grownBy wb _:=eR hg QH;generalize (wa.heap.size,wb.heap.size)::iv=Oa at*
  cases dz
  ·refine cO hτ dZ [.x 0,.x 1,.x 2,.x 3,.x 4,.x 5,.x 6,.x 7,.x 8,.x 9,.x 10,.x 11] (by kernel_rfl) (by kernel_rfl) ?_;obtain⟨g,rfl,PK⟩:=IV OX QF Ox;refine⟨⟨g,0,none⟩,rfl,by omega,[.bool d1,.slice e1 m1 k1,.bool d2,.slice e2 m2 k2],rfl,fun O w' r j x hx=>?_,?_⟩
   ·have:=IV (ia OX (Pn Oa) r) (QF.rel r hS) Ox;obtain⟨g',h1,h2⟩:=this;injection h1 with h1;rw[<-h1]at h2;exact h2 j x hx
   have QV:=fb p f;refine cP (Φ:=fun _ w' v w2=>cT w2 (Nf w' w2) v (p*f)) (fun O w' r=>DC (Rel.old r hS) (PD.rel r hS).v ((Uy.rel r hS).v (by omega))) ?_;rintro O wa v1 wb r he QH hP;have hPN:=hP.dK (S:=S) r.cI (iv:=(wa.heap.size,wb.heap.size)::Oa) aI;replace PD:=PD.cK (iv':=(wa.heap.size,wb.heap.size)::Oa) r hS he fun x hx=>aC _ hx;replace QF:=QF.cK (iv':=(wa.heap.size,wb.heap.size)::Oa) r hS he fun x hx=>aC _ hx;replace hs:=hs.cK (iv':=(wa.heap.size,wb.heap.size)::Oa) r hC hS he fun x hx=>aC _ hx;replace hF:=hF.cK (iv':=(wa.heap.size,wb.heap.size)::Oa) r hS he fun x hx=>aC _ hx;replace OX:wb.ownsRow 0 T.Rat 4 (.slice (some ⟨g,0,none⟩) n c) n css.flatten:=ownsRow.cJ (ia OX (Pn Oa) r) fun b hb=>he.block b (by have:=Ol b hb;have:=r.cI;omega);replace hg:w.grownBy wb _:=eR hg QH;generalize (wa.heap.size,wb.heap.size)::Oa=Oj at*
   obtain⟨b5,a5,n5,c5,b6,a6,n6,c6,rfl⟩:=hPN.shape;refine cP (Φ:=fun _ w' v w2=>cT w2 (Nf w' w2) v (q-p*f)) (fun O w' r=>aAa (Rel.old r hS) ((hF.rel r hS).v (by omega)) ((hPN.rel r hS).v (by omega))) ?_;rintro O wc v2 wd r he QH hQ;have YB:=hQ.dK (S:=S) r.cI (iv:=(wc.heap.size,wd.heap.size)::Oj) aI;replace PD:=PD.cK (iv':=(wc.heap.size,wd.heap.size)::Oj) r hS he fun x hx=>aC _ hx;replace QF:=QF.cK (iv':=(wc.heap.size,wd.heap.size)::Oj) r hS he fun x hx=>aC _ hx;replace hs:=hs.cK (iv':=(wc.heap.size,wd.heap.size)::Oj) r hC hS he fun x hx=>aC _ hx;replace OX:wd.ownsRow 0 T.Rat 4 (.slice (some ⟨g,0,none⟩) n c) n css.flatten:=ownsRow.cJ (ia OX (Pn Oj) r) fun b hb=>he.block b (by have:=Ol b hb;have:=r.cI;omega);replace hg:w.grownBy wd _:=eR hg QH;generalize (wc.heap.size,wd.heap.size)::Oj=Oz at*
   obtain⟨b7,a7,n7,c7,b8,a8,n8,c8,rfl⟩:=YB.shape;rw[<-Ua]at YB;refine⟨⟨g,0,none⟩,rfl,by omega,?_⟩;intro O w' r;have Su:=ia OX (Pn Oz) r;have hF5:=(YB.rel r hS).sX;obtain⟨g',SW,Oc,Q4,Oi,Oo⟩:=lT (nv:=[.bool b7,.slice a7 n7 c7,.bool b8,.slice a8 n8 c8]) Su rfl h rfl (by decide);injection SW with SW;injection SW with SW;subst SW;have Tl:=jt (cs:=[.bool b7,.slice a7 n7 c7,.bool b8,.slice a8 n8 c8]) QF.mV (show i<css.length by omega);rw[Tl]at Q4;have Pb:∀x,Cv S w.heap.size Oz x->(setCells w' ⟨g,i*4,none⟩ [.bool b7,.slice a7 n7 c7,.bool b8,.slice a8 n8 c8]).heap[x]? =w'.heap[x]? :=fun x hx=>
    Oi.block x (Rel.old r hS x hx) fun e=>WI Oz g rfl (by injection e with e;rw[<-e];exact hx)
   have Pv:(⟨g,0,none⟩:Addr).add ((i:Int).toNat*4)=⟨g,i*4,none⟩:=by rw[aF,dP,aW]
   have WK:=((QF.rel r hS).cJ Pb).set (j:=i) (hF5.cJ Pb);rw[nE (f:=oe (-p) ps) XO]at WK;have WL:=(PD.rel r hS).cJ Pb;have TF:∀x,Cv C w.heap.size Oz x->(setCells w' ⟨g,i*4,none⟩ [.bool b7,.slice a7 n7 c7,.bool b8,.slice a8 n8 c8]).heap[x]? =w'.heap[x]? :=fun x hx=>
    Oi.block x (Rel.old r hC x hx) fun e=>WJ Oz g rfl (by injection e with e;rw[<-e];exact hx)
   have hs6:=(hs.rel r hC hS).cJ fun x hx=>hx.elim (TF x) (Pb x);replace hg:w.grownBy (setCells w' ⟨g,i*4,none⟩ [.bool b7,.slice a7 n7 c7,.bool b8,.slice a8 n8 c8]) (some g):=gT (eR hg r.cS) Oi;have QX:=fun id b hb hn=>Rel.not r (fun _ h=>h) (Pn Oz g rfl) id b hb hn;refine⟨by rw[Pv],fun k hk=>by rw[Pv];exact Oc k hk,fun id b hb hn=>by rw[Pv];exact QX id b hb hn,fun w2 PI=>?_⟩;have PI:w2=setCells w' ⟨g,i*4,none⟩ [.bool b7,.slice a7 n7 c7,.bool b8,.slice a8 n8 c8]:=by rw[PI];exact congrArg (fun x=>setCells w' x _) Pv
   rw[<-PI]at WK WL Q4 hg Oo hs6;refine⟨((i+1:Nat):Int),wo,?_⟩;intro ρ3 w3 r3
   exact⟨(i+1,css.set i [.bool b7,.slice a7 n7 c7,.bool b8,.slice a8 n8 c8],Oz,w3),⟨h,eR hg r3.cS,ia Q4 (Pn Oz) r3,by simpa using QB,WK.rel r3 hS,WL.rel r3 hS,hs6.rel r3 hC hS⟩,
    Sub.gn [] r3,by dsimp only;omega⟩
  ·have XP:f=0:=hz.1 rfl;have SQ:oe (-p) ps i q=q:=by rw[Ua,XP];grind
   refine⟨((i+1:Nat):Int),wo,?_⟩;intro ρ3 w3 r3
   exact⟨(i+1,css,Oa,w3),⟨h,eR hg r3.cS,ia OX (Pn Oa) r3,QB,by rw[<-DE XO SQ];exact QF.rel r3 hS,PD.rel r3 hS,hs.rel r3 hC hS⟩,
    Sub.gn [] r3,by dsimp only;omega⟩
 ·have h:i=n:=by
   have:¬i<n:=by simpa using h
   omega
  subst h;intro ρ5 w5 r5;refine⟨rfl,eR hg r5.cS,css,ia OX (Pn iv) r5,QB,?_⟩;have:=(QF.rel r5 hS).cL (S':=Nw S w w5) fun g hg=>Cv.nw hg r5
  rwa [<-Sd,tP]at this
section
variable{S:Nat->Prop}{w:World}{v u vx vk vp:Value}{z:Int}{M K:List (List (Int×Int))}{b X P:List (Int×Int)}
end
end Go.Ex
namespace Go.Sx
open Go Go.Ex Go.Proofs
variable{cs:List Value}{O:Nat->Sx.eE}
theorem Sub.aDb{B:Nat}{l tl:Env}{nx:Nat}{H tH:Hp}{iv:Iv}{w w':World}{id t n sz:Nat}{e:TypeId}(r:Rel H nx iv B w O w')(Pk:dM H id=some (.vec e sz cs))(hn:(O id).nil=false)(ht:gF l t=some (.o (.w id n)))
  (hs:zz H tH) (ho:HS id tH=true) (h1:HP l tl) (h2:jw nx tl):
  Sub B l nx O w' ⟨(t,.o (.v (.slice (some ⟨(O id).g,0,none⟩) n (O id).cap)))::tl,tH,nx,((O id).g,(O id).g+1)::iv,w'⟩:=
 ⟨O,r.free Pk (by simp) hn hs ho,fun u v hv=>x8 hn ht h1 h2 u v hv⟩
end Go.Sx
namespace Go.Ex
open Go Go.Sx Go.Proofs
end Go.Ex
namespace Go.Ex
open Go Go.Sx Go.Proofs
variable{css:List (List Value)}{qs ri:List Rat}{rv:List Value}{g:Nat}{a:Option Addr}{row:Option Nat}{q:Rat}{v:Value}
def Ob(rv:List Value)(g:Nat):Prop:=∃v∈rv,v.ownBlock=some g
def Lr(S:Nat->Prop)(B:Nat)(iv:Iv)(rv:List Value)(g:Nat):Prop:=Cv S B iv g∧¬Ob rv g
structure nF(w:World)(S:Nat->Prop)(B:Nat)(iv:Iv)(rv:List Value)(n:Nat)(M:List (List Rat)):Prop where
 len:rv.length=M.length
 row:∀(i:Nat) v qs,rv[i]? =some v->M[i]? =some qs->iF w (Lr S B iv rv) v n qs
 uF:∀(i j:Nat) a b g,rv[i]? =some a->rv[j]? =some b->a.ownBlock=some g->b.ownBlock=some g->i=j
 new:∀g,Ob rv g->Cv FF B iv g
theorem Ob.append:Ob (rv++[v]) g↔Ob rv g∨v.ownBlock=some g:=by
 unfold Ob;simp[or_and_right,exists_or]
section
variable{S S':Nat->Prop}{H:Hp}{nx n:Nat}{iv iv':Iv}{B:Nat}{w w' w2:World}{O:Nat->Sx.eE}{rv:List Value}{M:List (List Rat)}
theorem nF.nil:nF w S B iv [] n []:=⟨rfl,fun i v qs h=>(by cases h),fun i j a b g h=>(by cases h),fun g ⟨v,hv,_⟩=>by cases hv⟩
theorem nF.cJ(h:nF w S B iv rv n M)(hk:∀g,Cv S B iv g->w2.heap[g]? =w.heap[g]?):nF w2 S B iv rv n M:=
 ⟨h.len,fun i v qs h1 h2=>(h.row i v qs h1 h2).cJ fun g hg=>hg.elim (fun hg=>hk g hg.1) fun hg=>hk g (D3 (h.new g ⟨v,aD h1,hg⟩)),h.uF,h.new⟩
theorem nF.rel(h:nF w S B iv rv n M)(r:Rel H nx iv B w O w')(hS:∀g,S g->g<B):nF w' S B iv rv n M:=h.cJ fun _ hg=>Rel.same r hS hg
theorem nF.mono(h:nF w S B iv rv n M)(hm:∀p,p∈iv->p∈iv'):nF w S B iv' rv n M:=
 ⟨h.len,fun i v qs h1 h2=>(h.row i v qs h1 h2).cL fun _ hg=>⟨hg.1.mono hm,hg.2⟩,h.uF,fun g hg=>(h.new g hg).mono hm⟩
theorem nF.cK(h:nF w S B iv rv n M)(r:Rel H nx iv B w O w')(hS:∀g,S g->g<B)(he:Ext w' w2)(hm:∀p,p∈iv->p∈iv'):nF w2 S B iv' rv n M:=
 ((h.rel r hS).cJ fun g hg=>he.block g (Rel.old r hS g hg)).mono hm
theorem nF.low(h:nF w S B iv rv n M)(hg:Ob rv g):B<=g:=(h.new g hg).elim (fun h=>h.elim) fun h=>h.1
theorem nF.lt(h:nF w S B iv rv n M)(r:Rel H nx iv B w O w')(hg:Ob rv g):g<w'.heap.size:=Rel.old r (dN B) g (h.new g hg)
theorem Lr.grown(r:Rel H nx iv B w O w')(hS:∀g,S g->g<B)(hg:w'.grownBy w2 row)(OX:∀g,row=some g->Ob rv g):∀g,Lr S B iv rv g->w2.heap[g]? =w.heap[g]? :=fun g h=>by
 rw[hg.block g (Rel.old r hS g h.1) fun e=>h.2 (OX g e.symm),Rel.same r hS h.1]
theorem nF.cS(h:nF w S B iv rv n M)(r:Rel H nx iv B w O w')(hg:w'.grownBy w2 row)(OX:∀g,row=some g->Ob rv g):dg B w' w2:=
 dg.grown hg (fun g e=>h.low (OX g e)) r.cI
theorem nF.setRow(h:nF w' S B iv rv n M)(PC:∀g,Cv S B iv g->g<w'.heap.size){i:Nat}{vi:Value}(TP:rv[i]? =some vi)(Oi:w'.grownBy w2 vi.ownBlock)(hB:B<=w'.heap.size)
  (hq:iF w2 (Nw (Lr S B iv rv) w' w2) vi n qs):nF w2 S B ((w'.heap.size,w2.heap.size)::iv) rv n (M.set i qs):=by
 have hnw:∀g,Nw (Lr S B iv rv) w' w2 g->Lr S B ((w'.heap.size,w2.heap.size)::iv) rv g:=fun g hg=>by
  rcases hg with hg|hg
  ·exact⟨hg.1.mono fun p hp=>aC _ hp,hg.2⟩
  ·exact⟨.inr ⟨by omega,_,_,aI,hg.1,hg.2⟩,fun hm=>by have:=PC g (D3 (h.new g hm));omega⟩
 refine⟨by rw[bW];exact h.len,fun k v ps h1 h2=>?_,h.uF,fun g hg=>(h.new g hg).mono fun p hp=>aC _ hp⟩;by_cases hk:i=k
 ·subst hk;rw[TP]at h1;injection h1 with h1;subst h1;rw[aR (by rw[<-h.len];exact(aE.1 TP).1)]at h2;injection h2 with h2;subst h2;exact hq.cL hnw
 ·rw[aX hk]at h2;refine((h.row k v ps h1 h2).cJ fun g hg=>?_).cL fun g hg=>⟨hg.1.mono fun p hp=>aC _ hp,hg.2⟩
  rcases hg with hg|hg
  ·exact Oi.block g (PC g hg.1) fun e=>hg.2 ⟨vi,aD TP,e.symm⟩
  ·exact Oi.block g (PC g (D3 (h.new g ⟨v,aD h1,hg⟩))) fun e=>hk (h.uF i k vi v g TP h1 e.symm hg)
theorem nF.G5(hM:nF w S B iv rv n M)(r:Rel H nx iv B w O w')(hS:∀g,S g->g<B){i j h:Nat}{vi vj vby:Value}{ri rj:List Rat}{p:Rat}(PZ:i≠j)(TP:rv[i]? =some vi)(Tm:rv[j]? =some vj)(Tc:M[i]? =some ri)(hrj:M[j]? =some rj)
  (PD:eS w (Lr S B iv rv) vby p) (hq:∀q∈ri,rl q+1<=h) (hqj:∀q∈rj,rl q+1<=h) (hb:rl p+1<=h) (hh:3*h<=90000):
  eA PG N.qC #[vi,vj,vby] w' (fun e w2=>e= .returned (.tuple #[])∧w'.grownBy w2 vi.ownBlock∧(∀g,vi.ownBlock=some g->Ob rv g)∧nF w2 S B ((w'.heap.size,w2.heap.size)::iv) rv n (M.set i (nZ ri rj p))):=by
 have TD:=hM.rel r hS;have h1:=TD.row i vi ri TP Tc;have h2:=TD.row j vj rj Tm hrj;have Qx:∀g,vi.ownBlock=some g->Ob rv g:=fun g hg=>⟨_,aD TP,hg⟩
 have hmj:∀g,vj.ownBlock=some g->Ob rv g:=fun g hg=>⟨_,aD Tm,hg⟩
 refine(aBw (C:=fun g=>vj.ownBlock=some g) (S:=Lr S B iv rv) (fun x hx=>hM.lt r (hmj x hx)) (fun g hg=>Rel.old r hS g hg.1) h1 (eS.cJ PD fun g hg=>Rel.same r hS hg.1) h2.read h2.len (fun g hg hx=>hx.2 (Qx g hg)) (fun g hg hx=>PZ (hM.uF i j _ _ g TP Tm hg hx)) hq hqj hb hh).mono fun e w8 he=>?_;obtain⟨rfl,Oi,OX⟩:=he;exact⟨rfl,Oi,Qx,TD.setRow (fun g hg=>Rel.old r hS g hg) TP Oi r.cI OX⟩
theorem nF.form(hM:nF w S B iv rv n M){i:Nat}(hv:rv[i]? =some v):∃a c,v= .slice a n c:=by
 obtain⟨qs,hq⟩:∃qs,M[i]? =some qs:=⟨_,aB (by rw[<-hM.len];exact(aE.1 hv).1)⟩
 obtain⟨a,c,h,_⟩:=(hM.row i v qs hv hq).form;exact⟨a,c,h⟩
theorem nF.load(hM:nF w S B iv rv n M){i k:Nat}{c:Nat}(hv:rv[i]? =some (.slice a n c))(hq:M[i]? =some qs)(hk:qs[k]? =some q):
  ∃ad cs,a=some ad∧jn w (Lr S B iv rv) cs q∧∀j u,cs[j]? =some u->Cv FF B iv ad.block∧w.cell? ((ad.add (k*4)).add j)=some u:=by
 obtain⟨ad,cs,h1,h2,h3⟩:=gj.load (hM.row i _ qs hv hq).read hk;refine⟨ad,cs,h1,h2,fun j u hu=>⟨?_,(h3 j u hu).2⟩⟩;have:=(h3 j u hu).1;exact hM.new _ ⟨_,aD hv,this⟩
theorem nF.store(hM:nF w S B iv rv n M)(r:Rel H nx iv B w O w')(hS:∀g,S g->g<B){i k:Nat}{a1 a2:Option Addr}{c n1 c1 n2 c2:Nat}{b b2:Bool}(TP:rv[i]? =some (.slice a n c))(Tc:M[i]? =some ri)(hk:k<n)
  (hf:cT w (Lr S B iv rv) (.agg #[.bool b,.slice a1 n1 c1,.bool b2,.slice a2 n2 c2]) q):
  ∃g,a=some ⟨g,0,none⟩∧((⟨g,0,none⟩:Addr).add ((k:Int).toNat*4)).spot=none∧
   (∀j,j<4->(w'.cell? (((⟨g,0,none⟩:Addr).add ((k:Int).toNat*4)).add j)).isSome=true∧w'.frozen? (((⟨g,0,none⟩:Addr).add ((k:Int).toNat*4)).add j)=false)∧
   (∀id b,dM H id=some b->(O id).nil=false->(O id).g≠((⟨g,0,none⟩:Addr).add ((k:Int).toNat*4)).block)∧
   ∀w2,w2=setCells w' ((⟨g,0,none⟩:Addr).add ((k:Int).toNat*4)) [.bool b,.slice a1 n1 c1,.bool b2,.slice a2 n2 c2]->nF w2 S B iv rv n (M.set i (ri.set k q))∧dg B w' w2∧Rel H nx iv B w2 O w2∧∀g,Lr S B iv rv g->w2.heap[g]? =w.heap[g]? :=by
 have TD:=hM.rel r hS;have Qx:∀g,(Value.slice a n c).ownBlock=some g->Ob rv g:=fun g hg=>⟨_,aD TP,hg⟩
 obtain⟨g,rfl,h1,h2,h3,h4⟩:=(TD.row i _ ri TP Tc).store hk (hf.cJ fun g hg=>Rel.same r hS hg.1) (fun g hg hx=>hx.2 (Qx g hg)) (fun x hx=>Rel.old r hS x hx.1);refine⟨g,rfl,h1,h3,fun id b hb hn=>by rw[h2];exact Rel.not r (dN B) (hM.new g (Qx g rfl)) id b hb hn,fun w2 PI=>?_⟩;obtain⟨k1,k2,k3⟩:=h4 w2 PI;have hs:=TD.setRow (fun g hg=>Rel.old r hS g hg) TP k2 r.cI (k1.cL fun g hg=>.inl hg);refine⟨?_,hM.cS r k2 Qx,r.BS (fun id b hb hn=>Rel.not r (dN B) (hM.new g (Qx g rfl)) id b hb hn) k2,Lr.grown r hS k2 Qx⟩;refine⟨hs.len,fun j v qs h5 h6=>(hs.row j v qs h5 h6).cL fun x hx=>⟨?_,hx.2⟩,hs.uF,fun x hx=>hM.new x hx⟩;rcases hx.1 with hx|⟨m1,lo,hi,m2,m3,m4⟩
 ·exact .inl hx
 ·rcases List.mem_cons.1 m2 with e|m2
  ·injection e with e1 e2;subst e1 e2;omega
  ·exact .inr ⟨m1,lo,hi,m2,m3,m4⟩
theorem nF.push(hM:nF w S B iv rv n M){gx c:Nat}(YC:∀g,Cv S B iv g->g≠gx)(hBx:B<=gx)(OX:iF w S (.slice (some ⟨gx,0,none⟩) n c) n qs)(hS:∀g,S g->g<B):
  nF w S B ((gx,gx+1)::iv) (rv++[.slice (some ⟨gx,0,none⟩) n c]) n (M++[qs]):=by
 have R1:∀g,Ob rv g->g≠gx:=fun g hg=>YC g (D3 (hM.new g hg))
 have Wo:∀g,Lr S B iv rv g->Lr S B ((gx,gx+1)::iv) (rv++[.slice (some ⟨gx,0,none⟩) n c]) g:=fun g hg=>⟨hg.1.mono fun p hp=>aC _ hp,fun h=>by
  rcases Ob.append.1 h with h|h
  ·exact hg.2 h
  ·injection h with h;exact YC g hg.1 h.symm⟩
 refine⟨by simp[hM.len],fun i v ps h1 h2=>?_,fun i j a b g h1 h2 h3 h4=>?_,fun g hg=>?_⟩
 ·rcases aP i rv.length with hi|hi
  ·rw[aJ hi]at h1;rw[aJ (by rw[<-hM.len];exact hi)]at h2;exact(hM.row i v ps h1 h2).cL Wo
  ·have Ra:i=rv.length:=by have:=(aE.1 h1).1;simp at this;omega
   rw[Ra,aM (Nat.le_refl _),bI]at h1;rw[Ra,hM.len,aM (Nat.le_refl _),bI]at h2;simp at h1 h2;subst h1 h2;refine OX.cL fun g hg=>⟨.inl hg,fun h=>?_⟩
   have:=hS g hg;rcases Ob.append.1 h with h|h
   ·have:=hM.low h;omega
   ·injection h with h;have h:gx=g:=h;omega
 ·have key:∀(k:Nat) v,(rv++[Value.slice (some ⟨gx,0,none⟩) n c])[k]? =some v->(k<rv.length∧rv[k]? =some v)∨(k=rv.length∧v= .slice (some ⟨gx,0,none⟩) n c):=fun k v hk=>by
   rcases aP k rv.length with hi|hi
   ·rw[aJ hi]at hk;exact .inl ⟨hi,hk⟩
   ·have Ra:k=rv.length:=by have:=(aE.1 hk).1;simp at this;omega
    rw[Ra,aM (Nat.le_refl _),bI]at hk;simp at hk;exact .inr ⟨Ra,hk.symm⟩
  rcases key i a h1 with⟨_,k1⟩|⟨e1,rfl⟩<;>rcases key j b h2 with⟨_,k2⟩|⟨e2,rfl⟩
  ·exact hM.uF i j a b g k1 k2 h3 h4
  ·injection h4 with h4;exact absurd h4.symm (R1 g ⟨a,aD k1,h3⟩)
  ·injection h3 with h3;exact absurd h3.symm (R1 g ⟨b,aD k2,h4⟩)
  ·rw[e1,e2]
 ·rcases Ob.append.1 hg with h|h
  ·exact(hM.new g h).mono fun p hp=>aC _ hp
  ·injection h with h;have h:gx=g:=h;subst h;exact .inr ⟨hBx,_,_,aI,Nat.le_refl _,bU _⟩
theorem nF.drop(hM:nF w S B iv (rv++[v]) n (M++[qs])):nF w S B iv rv n M:=by
 have hl:rv.length=M.length:=by have:=hM.len;simpa using this
 have R1:∀g,Ob rv g->Ob (rv++[v]) g:=fun g hg=>Ob.append.2 (.inl hg);refine⟨hl,fun i u ps h1 h2=>?_,fun i j a b g h1 h2=>hM.uF i j a b g ?_ ?_,fun g hg=>hM.new g (R1 g hg)⟩
 ·have hi:=(aE.1 h1).1;exact(hM.row i u ps (by rw[aJ hi];exact h1) (by rw[aJ (by rw[<-hl];exact hi)];exact h2)).cL fun g hg=>⟨hg.1,fun h=>hg.2 (R1 g h)⟩
 ·rw[aJ (aE.1 h1).1];exact h1
 ·rw[aJ (aE.1 h2).1];exact h2
theorem aBx{id m:Nat}(r:Rel H nx iv B w O w')(h:dM H id=some (.vec T.Rat 4 css.flatten))(hl:css.length=m)(h0:0<m)(hm:m<=maxLen)(hF:Fc w' S css qs):
  (O id).nil=false∧B<=(O id).g∧(∀g,Out B iv g->g≠(O id).g)∧iF w' S (.slice (some ⟨(O id).g,0,none⟩) m (O id).cap) m qs:=by
 have Ok:=eD hF.mV;rcases r.vec id _ _ _ h with⟨_,h2⟩|⟨h1,spare,h2,h3,h4⟩
 ·rw[h2]at Ok;rw[hl]at Ok;simp at Ok;omega
 ·refine⟨h1,(r.low id _ h h1).1,fun g hg e=>?_,css,⟨by rw[Ok,hl],.inr ⟨(O id).g,(O id).cap,_,rfl,aO _,h2,?_,h4,by simpa using h3,by rw[show m*4=css.flatten.length by rw[Ok,hl]];simp⟩⟩,hl,hF⟩
  ·exact Rel.not r (fun _ h=>h) hg id _ h h1 e.symm
  ·rw[List.length_append,Ok,hl]at h3;omega
end
end Go.Ex
namespace Go.Sx
open Go Go.Ex Go.Proofs
variable{O:Nat->Sx.eE}
theorem Sub.Du{B nx:Nat}{l:Env}{H:Hp}{iv:Iv}{w w':World}{t:BT}(id p e sz:Nat){bt:Nat}{cs:List At}(Pk:dM H id=some (.box bt cs))(hp:cs[p]? =some (.v (.slice none 0 0)))(Sn:jw nx l)(r:Rel H nx iv B w O w')
  (h:∀ρ1,Rel ((id,.box bt (cs.set p (.w nx 0)))::(nx,.vec e sz [])::H) (nx+1) iv B w ρ1 w'->Sx.Sub B l (nx+1) ρ1 w' t):Sx.Sub B l nx O w' t:=by
 have r1:=r.push (.vec e sz []) ⟨0,0,true⟩ (w2:=w') rfl rfl rfl (Nat.le_refl _) (fun _ _=>rfl) (fun h=>by cases h) (.inl ⟨rfl,rfl⟩) trivial;have OZ:id≠nx:=Nat.ne_of_lt (r.keys id _ Pk);have XQ:dM ((nx,.vec e sz [])::H) id=some (.box bt cs):=by rw[dT,aK (fun h=>OZ h.symm)];exact Pk
 have Wl:=r1.nn id _ XQ (by intros;simp) (by simp);have PV:=r1.box id bt cs XQ;have Rq:(cs.set p (.w nx 0)).map (At.den (Sx.iI O nx ⟨0,0,true⟩))=cs.map (At.den (Sx.iI O nx ⟨0,0,true⟩)):=by
  refine bL fun j=>?_;rw[aN,aN];by_cases hj:p=j
  ·subst hj;rw[aR (aE.1 hp).1,hp];simp[At.den,fZ]
  ·rw[aX hj]
 have r2:=r1.store (b':=.box bt (cs.set p (.w nx 0))) (H':=(id,.box bt (cs.set p (.w nx 0)))::(nx,.vec e sz [])::H) (w2:=w') XQ (by simp) Wl (fun j=>by
  rw[dT];by_cases hj:id=j
  ·subst hj;rw[if_pos rfl]
  ·rw[aK hj,aK (fun h=>hj h.symm)]) rfl rfl rfl rfl (fun _ _=>rfl) ⟨Wl,by rw[Rq];exact PV⟩ (fun x hx=>by
   rcases bA hx with hx|rfl
   ·exact r1.scH id bt cs XQ x hx
   ·exact bU nx)
 obtain⟨ρ',h1,h2⟩:=h _ r2;refine⟨ρ',h1,fun x v hv=>?_⟩;obtain⟨h3,v0,h4,h5⟩:=h2 x v hv;refine⟨h3,v0,h4,?_⟩;rw[<-h5];exact SV.kr (fun id Pk=>iQ id Pk) (Sn.get _ _ h4)
end Go.Sx
namespace Go.Ex
open Go Go.Sx Go.Proofs
end Go.Ex
namespace Go.Ex
open Go Go.Sx Go.Proofs
inductive Tq where
 |nil
 |x (i:Nat) (t:Tq)
 |two (i:Nat) (t:Tq) (j:Nat) (u:Tq)
 |three (i:Nat) (t:Tq) (j:Nat) (u:Tq) (k:Nat) (v:Tq)
section
variable{P:Program}{τ:o8}{ops:Array Oper}{B n nx:Nat}{l:Env}{H:Hp}{iv:Iv}{w w':World}{O:Nat->Sx.eE}{a:Act}
end
end Go.Ex
