/- Texts L41 to X109: lemmas, each with its conditions. -/
import Derived.Test.YtkdcaknoaeicdaaGreatP8
namespace Go.Ex
variable{M:List (List Rat)}{s:List (List Rat)×List Nat}{E:Mx}{B n r:Nat}{p q σ:Nat->Nat}{v:Nat->Rat}
theorem eI.HT{F:Mx}(h:eI E r n v)(e:∀i t,i<r->t<n->F i t=E i t):eI F r n v:=by
 obtain⟨c,hc⟩:=h;exact⟨c,fun t ht=>by rw[hc t ht];exact cL fun i hi=>by rw[e i t hi ht]⟩
theorem eI.more{s:Nat}(h:eI E r n v)(k:r<=s):eI E s n v:=h.trans fun i hi=>eI.row (Nat.lt_of_lt_of_le hi k)
theorem Ru.congr{F:Mx}(h:Ru E p r n)(e:∀i t,i<r->t<n->F i t=E i t)(ep:∀i,i<r->q i=p i):Ru F q r n:=
 ⟨fun i hi=>by rw[ep i hi];exact h.lt i hi,fun i j hi hj k=>h.inj i j hi hj (by rw[<-ep i hi,<-ep j hj];exact k),fun i j hi hj=>by rw[ep i hi,e j _ hj (h.lt i hi)];exact h.unit i j hi hj,
  fun i t hi ht=>by rw[ep i hi]at ht;rw[e i t hi (by have:=h.lt i hi;omega)];exact h.lead i t hi ht⟩
theorem AI.congr{F Z Y:Mx}(h:AI E p r n B Z)(e:∀i t,i<r->t<n->F i t=E i t)(ep:∀i,i<r->q i=p i)(eZ:∀i t,i<r->t<n->Y i t=Z i t):AI F q r n B Y:=by
 refine⟨h.ru.congr e ep,fun i hi=>((h.sp i hi).congr fun t ht=>eZ i t hi ht).HT e,fun i t hi ht=>by rw[eZ i t hi ht];exact h.ib i t hi ht,?_⟩;rw[show uM Y q r=uM Z p r from ir fun i j hi hj=>by rw[ep _ (by omega),eZ _ _ (by omega) (h.ru.lt _ (by omega))]];exact h.nz
theorem AJ(row:List Rat):∀f k,k<=pO row f k∧pO row f k<=k+f∧(∀t,k<=t->t<pO row f k->row.getD t 0=0)∧(pO row f k<k+f->row.getD (pO row f k) 0≠0)
 |0,k=>by
  unfold pO;exact⟨aF _,aF _,fun t h1 h2=>by omega,fun h=>by omega⟩
 |f+1,k=>by
  unfold pO;split
  ·rename_i h;obtain⟨h1,h2,h3,h4⟩:=AJ row f (k+1);refine⟨by omega,by omega,fun t k1 k2=>?_,fun h5=>h4 (by omega)⟩;rcases aQ k t with h5|h5
   ·exact h3 t h5 k2
   ·rw[show t=k by omega];exact h
  ·rename_i h;exact⟨aF _,by omega,fun t h1 h2=>by omega,fun _=>h⟩
theorem Jk(row:List Rat)(n:Nat):uJ row n<=n∧(∀t,t<uJ row n->row.getD t 0=0)∧(uJ row n≠n->row.getD (uJ row n) 0≠0):=by
 obtain⟨_,h2,h3,h4⟩:=AJ row n 0;unfold uJ;exact⟨by omega,fun t h=>h3 t (aO _) h,fun h=>h4 (by omega)⟩
theorem Jl(y:List Rat)(q:Rat)(t:Nat):(y.map (· / q)).getD t 0=y.getD t 0 / q:=by
 simp only[List.getD,aM]
 cases y[t]? with
 |none=>show(0:Rat)=0 / q;rw[bj,bI]
 |some x=>rfl
structure HU(M:List (List Rat))(n B i:Nat)(s:yR)(p:Nat->Nat)(Z:Mx):Prop where
 ok:uK n n i s
 piv:∀k,k<n->∀r:Nat,s.2.1[k]? =some (some r)↔r<s.1.length∧p r=k
 AK:AI (dF s.1) p s.1.length n B Z
 up:∀r,r<s.1.length->eI (dF M) i n (dF s.1 r)
 dn:∀j,j<i->eI (dF s.1) s.1.length n (dF M j)
section
variable{M:List (List Rat)}{n B i:Nat}{s:yR}{p:Nat->Nat}{Z:Mx}
theorem HU.mb(h:HU M n B i s p Z){x:List Rat}(hx:x.length=n):∀k,k<=n->∀t,t<n->(fy s.1 s.2.1 x k).getD t 0=mb (dF s.1) p s.1.length (fun t=>x.getD t 0) k t
 |0,_,t,ht=>by rw[LC];rfl
 |k+1,hk,t,ht=>by
  have ih:=HU.mb h hx k (by omega);obtain⟨o,ho⟩:∃o,s.2.1[k]? =some o:=⟨_,aB (by rw[h.ok.at_];omega)⟩
  have hd:s.2.1.getD k none=o:=by rw[List.getD,ho];rfl
  rw[fy,hd]
  cases o with
  |none=>
   simp only
   rw[ih t ht,LD fun r hr e=>?_];have:=(h.piv k (by omega) r).2 ⟨hr,e⟩;rw[ho]at this
   cases this
  |some r=>
   simp only
   obtain⟨hr,e⟩:=(h.piv k (by omega) r).1 ho;rw[mi,wE (by rw[iL,hx];exact ht),ih t ht,ih k (by omega),<-e,LF h.AK.ru hr];rfl
theorem HU.step(h:HU M n B i s p Z)(hM:fZ n M)(hi:i<M.length){d:Rat}(hd:d≠0)(hz:∀t,t<n->Ib B (d*dF M i t)):
  ∃p' Z',HU M n B (i+1) (kc n s i (M.getD i [])) p' Z':=by
 have hx:(M.getD i []).length=n:=hM.getD hi;have OM:=h.ok.step hx;obtain⟨y,hy⟩:∃y,fy s.1 s.2.1 (M.getD i []) n=y:=⟨_,rfl⟩
 have hu:∀t,t<n->y.getD t 0=Go.Ex.mb (dF s.1) p s.1.length (dF M i) n t:=fun t ht=>by rw[<-hy];exact h.mb hx n (aF _) t ht
 have Vc:y.length=n:=by rw[<-hy,iL,hx]
 obtain⟨q1,q2,q3⟩:=Jk y n;by_cases hq:uJ y n=n
 ·have e:kc n s i (M.getD i [])=s:=by unfold kc;simp only[hy,hq,if_true]
  rw[e]at OM ⊢;refine⟨p,Z,OM,h.piv,h.AK,fun r hr=>(h.up r hr).more (Nat.le_succ i),fun j hj=>?_⟩;rcases aQ j i with h1|h1
  ·exact h.dn j h1
  ·rw[show j=i by omega];refine⟨fun j=>dF M i (p j),fun t ht=>?_⟩;have h2:=hu t ht;rw[q2 t (by omega)]at h2;unfold Go.Ex.mb at h2;rw[cL (g:=fun j=>dF M i (p j)*dF s.1 j t) fun j hj=>if_pos (h.AK.ru.lt j hj)]at h2;grind
 ·have h0:=q3 hq;obtain⟨k,hk⟩:∃k,uJ y n=k:=⟨_,rfl⟩
  rw[hk]at hq h0 q1 q2;have hkn:k<n:=by omega
  have e:kc n s i (M.getD i [])=(gQ s.1 (y.map (· / y.getD k 0)) k s.1.length++[y.map (· / y.getD k 0)],s.2.1.set k (some s.1.length),s.2.2++[i]):=by
   unfold kc;simp only[hy,hk,aK hq]
  rw[e]at OM ⊢;have hl:(gQ s.1 (y.map (· / y.getD k 0)) k s.1.length).length=s.1.length:=gB ..;have Rb:(gQ s.1 (y.map (· / y.getD k 0)) k s.1.length++[y.map (· / y.getD k 0)]).length=s.1.length+1:=by rw[List.length_append,hl];rfl
  have hdv:∀t,t<n->(y.map (· / y.getD k 0)).getD t 0=y.getD t 0 / y.getD k 0:=fun t _=>Jl y _ t;have hE:∀a t,a<s.1.length+1->t<n->dF (gQ s.1 (y.map (· / y.getD k 0)) k s.1.length++[y.map (· / y.getD k 0)]) a t=lG (dF s.1) s.1.length (fun t=>y.getD t 0) k a t:=fun a t ha ht=>by
   unfold lG;by_cases h1:a=s.1.length
   ·rw[if_pos h1,<-hdv t ht,dF];congr 1;rw[List.getD,aN (by omega),hl,h1,bL];rfl
   ·have PC:a<s.1.length:=by omega
    have hr:=aB PC;have Ou:(s.1[a]).length=n:=h.ok.len _ (aX PC);have hg:s.1.getD a []=s.1[a]:=by rw[List.getD,hr];rfl
    have OK:(gQ s.1 (y.map (· / y.getD k 0)) k s.1.length++[y.map (· / y.getD k 0)]).getD a []=mi s.1[a] (y.map (· / y.getD k 0)) ((s.1[a]).getD k 0):=by
     rw[List.getD,aL (by omega),gQ,List.getElem?_mapIdx,hr];simp only[Option.map_some,Option.getD_some,if_pos PC]
    rw[aK h1,dF,OK,mi,wE (by omega),hdv t ht];unfold dF;rw[hg]
  have hC:=h.AK.push hd hz hu hkn h0 q2;have Tm:=aAQ (v:=dF M i) hu h.AK.ru.lt;refine⟨fun i=>if i=s.1.length then k else p i,fun a t=>if a=s.1.length then d*dF M i t else Z a t,OM,?_,?_,?_,?_⟩
  ·intro c hc r;dsimp only
   rw[Rb];have OJ:∀j,j<s.1.length->p j≠k:=fun j hj e=>h0 (by rw[hu k hkn,<-e];exact I1 h.AK.ru hj);by_cases h1:c=k
   ·rw[h1,aV (by rw[h.ok.at_];exact hkn)];constructor
    ·intro e;injection e with e;injection e with e;exact⟨by omega,by rw[if_pos e.symm]⟩
    ·rintro⟨h2,h3⟩;by_cases h4:r=s.1.length
     ·rw[h4]
     ·rw[aK h4]at h3;exact absurd h3 (OJ r (by omega))
   ·rw[aZ (Ne.symm h1),h.piv c hc r];constructor
    ·rintro⟨h2,h3⟩;exact⟨by omega,by rw[aK (by omega)];exact h3⟩
    ·rintro⟨h2,h3⟩;by_cases h4:r=s.1.length
     ·rw[if_pos h4]at h3;exact absurd h3.symm h1
     ·rw[aK h4]at h3;exact⟨by omega,h3⟩
  ·dsimp only
   rw[Rb];exact hC.congr hE (fun _ _=>rfl) fun _ _ _ _=>rfl
  ·dsimp only
   rw[Rb];intro a ha;refine((LG (k:=k) Tm a ha).trans fun b hb=>?_).congr fun t ht=>hE a t ha ht;by_cases h1:b=s.1.length
   ·exact(eI.row (show i<i+1 by omega)).congr fun t _=>by unfold kO;rw[if_pos h1]
   ·exact((h.up b (by omega)).more (Nat.le_succ i)).congr fun t _=>by unfold kO;rw[aK h1]
  ·dsimp only
   rw[Rb];intro j hj;refine eI.HT ?_ hE;rcases aQ j i with h1|h1
   ·exact(h.dn j h1).trans fun b hb=>rK h0 b hb
   ·rw[show j=i by omega];exact Ch h0 hu h.AK.ru.lt
end
theorem rM{M:List (List Rat)}{n B:Nat}(hM:fZ n M)(hW:Bp M n B):∀i,i<=M.length->∃p Z,HU M n B i (iG M n i) p Z
 |0,_=>⟨fun _=>0,fun _ _=>0,uK.start n n,fun k _ r=>⟨fun h=>(by
   simp only[iG,List.getElem?_replicate]at h
   split at h<;>cases h),fun h=>(by have:=h.1;simp[iG]at this)⟩,AI.start _ _ _ _ _,fun r h=>(by simp[iG]at h),fun j h=>by omega⟩
 |i+1,hi=>by
  obtain⟨p,Z,h⟩:=rM hM hW i (by omega);obtain⟨d,hd,-,hz⟩:=hW i (by omega);exact h.step hM (by omega) hd hz
theorem LL(hM:fZ n M)(hW:Bp M n B)(hB:1<=B){i:Nat}(hi:i<=M.length):∀r∈(iG M n i).1,∀q∈r,rl q<=ln (fB B M.length):=fun r hr q hq=>by
 obtain⟨p,Z,h⟩:=rM hM hW i hi;obtain⟨a,ha⟩:=aR hr;obtain⟨t,ht⟩:=aR hq;have PC:=(aD.1 ha).1;have Ss:=(aD.1 ht).1;rw[h.ok.len r hr]at Ss;have h1:=h.AK.LJ PC Ss;rw[dF,show(iG M n i).1.getD a []=r by rw[List.getD,ha];rfl,show r.getD t 0=q by rw[List.getD,ht];rfl]at h1;exact aY h1 (fM (rL hB (aY h.ok.le hi)))
theorem LM(hM:fZ n M)(hW:Bp M n B)(hB:1<=B){i k:Nat}(hi:i<M.length)(hk:k<=n):∀q∈fy (iG M n i).1 (iG M n i).2.1 (M.getD i []) k,rl q<=ln (fB B M.length):=fun q hq=>by
 obtain⟨p,Z,h⟩:=rM hM hW i (by omega);have hx:(M.getD i []).length=n:=hM.getD hi;obtain⟨t,ht⟩:=aR hq;have Ss:=(aD.1 ht).1;rw[iL,hx]at Ss;have h1:=h.mb hx k hk t Ss;rw[show (fy (iG M n i).1 (iG M n i).2.1 (M.getD i []) k).getD t 0=q by rw[List.getD,ht];rfl]at h1;obtain⟨d,hd,hdB,hz⟩:=hW i hi;rw[h1];exact aY (h.AK.LK hB hd hdB hz k Ss) (fM (rL hB (by have:=h.ok.le;omega)))
theorem Ci{s:yR}:∀k,(dJ s k).1.length=(dJ s k).2.1.length∧(∀i,i<(dJ s k).2.1.length->∃r:Nat,s.2.1[(dJ s k).2.1.getD i 0]? =some (some r)∧(dJ s k).1.getD i []=s.1.getD r []∧(dJ s k).2.1.getD i 0<k)∧
  (∀i j,i<j->j<(dJ s k).2.1.length->(dJ s k).2.1.getD i 0<(dJ s k).2.1.getD j 0)∧∀q,q<k->∀r:Nat,s.2.1[q]? =some (some r)->∃i,i<(dJ s k).2.1.length∧(dJ s k).2.1.getD i 0=q
 |0=>⟨rfl,fun i h=>(by cases h),fun i j _ h=>(by cases h),fun q h=>by omega⟩
 |k+1=>by
  obtain⟨h1,h2,h3,h4⟩:=Ci (s:=s) k;have step:(∃r:Nat,s.2.1[k]? =some (some r)∧dJ s (k+1)=((dJ s k).1++[s.1.getD r []],(dJ s k).2.1++[k],(dJ s k).2.2++[s.2.2.getD r 0]))∨((∀r:Nat,s.2.1[k]? ≠some (some r))∧dJ s (k+1)=dJ s k):=by
   rw[dJ]
   cases ho:s.2.1[k]? with
   |none=>exact .inr ⟨fun r e=>(by cases e),by rw[show s.2.1.getD k none=none by rw[List.getD,ho];rfl]⟩
   |some o=>cases o with
    |none=>exact .inr ⟨fun r e=>(by cases e),by rw[show s.2.1.getD k none=none by rw[List.getD,ho];rfl]⟩
    |some r=>exact .inl ⟨r,rfl,by rw[show s.2.1.getD k none=some r by rw[List.getD,ho];rfl]⟩
  rcases step with⟨r,hr,e⟩|⟨hr,e⟩
  ·rw[e];have old:∀i,i<(dJ s k).2.1.length->((dJ s k).2.1++[k]).getD i 0=(dJ s k).2.1.getD i 0:=fun i hi=>by rw[List.getD,aL hi,<-List.getD]
   have new:((dJ s k).2.1++[k]).getD (dJ s k).2.1.length 0=k:=by rw[List.getD,aN (aF _),bL];rfl
   have hlen:((dJ s k).2.1++[k]).length=(dJ s k).2.1.length+1:=by simp
   dsimp only
   rw[hlen];refine⟨by simp[h1],fun i hi=>?_,fun i j Pt hj=>?_,fun q hq x hx=>?_⟩
   ·rcases aQ i (dJ s k).2.1.length with h5|h5
    ·obtain⟨x,x1,x2,x3⟩:=h2 i h5;rw[old i h5];refine⟨x,x1,?_,by omega⟩;rw[List.getD,aL (by omega),<-List.getD];exact x2
    ·rw[show i=(dJ s k).2.1.length by omega,new];refine⟨r,hr,?_,by omega⟩;rw[List.getD,aN (by omega),h1,bL];rfl
   ·rcases aQ j (dJ s k).2.1.length with h5|h5
    ·rw[old i (by omega),old j h5];exact h3 i j Pt h5
    ·rw[show j=(dJ s k).2.1.length by omega,new,old i (by omega)];obtain⟨_,_,_,x3⟩:=h2 i (by omega);exact x3
   ·rcases aQ q k with h5|h5
    ·obtain⟨i,i1,i2⟩:=h4 q h5 x hx;exact⟨i,by omega,by rw[old i i1];exact i2⟩
    ·exact⟨(dJ s k).2.1.length,by omega,by rw[new];omega⟩
  ·rw[e];refine⟨h1,fun i hi=>?_,h3,fun q hq x hx=>?_⟩
   ·obtain⟨x,x1,x2,x3⟩:=h2 i hi;exact⟨x,x1,x2,by omega⟩
   ·rcases aQ q k with h5|h5
    ·exact h4 q h5 x hx
    ·rw[show q=k by omega]at hx;exact absurd hx (hr x)
theorem gp{α:Type}{a b:List α}(d:α)(hl:a.length=b.length)(h:∀i,i<a.length->a.getD i d=b.getD i d):a=b:=by
 refine List.ext_getElem hl fun i h1 h2=>?_;have:=h i h1
 rwa [List.getD,List.getD,aB h1,aB h2]at this
theorem mG(hM:fZ n M)(hW:Bp M n B):(dS M n).2.1=(cM M n).2∧(dS M n).1=(cM M n).1.take (cM M n).2.length:=by
 obtain⟨p,Z,h⟩:=rM hM hW M.length (aF _);obtain⟨h1,h2,h3,h4⟩:=Ci (s:=iG M n M.length) n;unfold dS;generalize iG M n M.length=s at*
 obtain⟨F,hF⟩:∃F,dJ s n=F:=⟨_,rfl⟩
 rw[hF]at h1 h2 h3 h4 ⊢;have OK:∀i,i<F.2.1.length->∃r,r<s.1.length∧p r=F.2.1.getD i 0∧F.1.getD i []=s.1.getD r []∧F.2.1.getD i 0<n:=fun i hi=>by
  obtain⟨r,r1,r2,r3⟩:=h2 i hi;obtain⟨k1,k2⟩:=(h.piv _ r3 r).1 r1;exact⟨r,k1,k2,r2,r3⟩
 have inj:∀i j,i<F.2.1.length->j<F.2.1.length->F.2.1.getD i 0=F.2.1.getD j 0->i=j:=fun i j hi hj e=>by
  rcases bs i j with h5|h5|h5
  ·have:=h3 i j h5 hj;omega
  ·exact h5
  ·have:=h3 j i h5 hi;omega
 have hrf:Rf (dF F.1) (fun i=>F.2.1.getD i 0) F.2.1.length n:=by
  refine⟨fun i hi=>?_,h3,fun i j hi hj=>?_,fun i t hi ht=>?_⟩
  ·obtain⟨_,_,_,_,h5⟩:=OK i hi;exact h5
  ·obtain⟨a,a1,a2,a3,_⟩:=OK i hi;obtain⟨b,b1,b2,b3,_⟩:=OK j hj;rw[dF,b3,<-a2];have:=h.AK.ru.unit a b a1 b1;unfold dF at this;rw[this];by_cases h5:j=i
   ·rw[if_pos h5,if_pos (h.AK.ru.inj b a b1 a1 (by rw[a2,b2,h5]))]
   ·rw[aK h5,aK fun e=>h5 (inj j i hj hi (by rw[<-a2,<-b2,e]))]
  ·obtain⟨a,a1,a2,a3,_⟩:=OK i hi;rw[dF,a3];have:=h.AK.ru.lead a t a1 (by rw[a2];exact ht);unfold dF at this;exact this
 have Wh:∀r,r<s.1.length->eI (dF F.1) F.2.1.length n (dF s.1 r):=fun r hr=>by
  have hp:=h.AK.ru.lt r hr;obtain⟨i,i1,i2⟩:=h4 (p r) hp r ((h.piv _ hp r).2 ⟨hr,rfl⟩);obtain⟨a,a1,a2,a3,_⟩:=OK i i1;have e:a=r:=h.AK.ru.inj a r a1 hr (by rw[a2,i2]);exact(eI.row i1).congr fun t _=>by rw[dF,dF,a3,e]
 obtain⟨e1,e2,e3⟩:=FX hM hrf (fun i hi=>by
  obtain⟨a,a1,a2,a3,_⟩:=OK i hi
  exact(h.up a a1).congr fun t _=>by rw[dF,dF,a3]) fun j hj=>(h.dn j hj).trans Wh
 obtain⟨g1,g2,-,-,-⟩:=dV hM n (aF _);refine⟨gp 0 e1.symm fun i hi=>(e2 i hi).symm,gp [] ?_ fun i hi=>?_⟩
 ·rw[aW,e1,h1];omega
 ·rw[h1]at hi;have Qh:i<(cM M n).2.length:=by omega
  obtain⟨a,a1,a2,a3,_⟩:=OK i hi;have Rl:(F.1.getD i []).length=n:=by rw[a3];exact h.ok.len.getD a1
  have hg:((cM M n).1.take (cM M n).2.length).getD i []=(cM M n).1.getD i []:=by rw[List.getD,bV Qh,<-List.getD]
  rw[hg];refine gp 0 (by rw[Rl,g1.getD (by omega)]) fun t ht=>?_;rw[Rl]at ht;exact(e3 i t hi ht).symm
structure ElI(M:List (List Rat))(n B c:Nat)(s:List (List Rat)×List Nat)(σ:Nat->Nat)(Z:Mx):Prop where
 red:Red n c s
 mon:LB s
 len:s.1.length=M.length
 AK:AI (dF s.1) (fun i=>s.2.getD i 0) s.2.length n B Z
 org:∀j,j<M.length->σ j<M.length
 rest:∀j,s.2.length<=j->j<M.length->∀t,t<n->dF s.1 j t=mb (dF s.1) (fun i=>s.2.getD i 0) s.2.length (dF M (σ j)) n t
theorem ElI.step{c:Nat}{Z:Mx}(h:ElI M n B c s σ Z)(hW:Bp M n B)(hc:c<n):∃σ' Z',ElI M n B (c+1) (db s c) σ' Z':=by
 have QR:=h.red.step hc;have hmon:=h.mon.step h.red hc;have hlen:(db s c).1.length=M.length:=by rw[o8,h.len]
 obtain⟨hl,hle,hz,RQ,hu⟩:=h.red;rcases jh c hle with⟨e,h0⟩|⟨k,h1,h2,h3,e⟩
 ·rw[e]at QR hmon hlen ⊢;exact⟨σ,Z,QR,hmon,hlen,h.AK,h.org,h.rest⟩
 ·obtain⟨r1,r2⟩:=mE hl h1 h2 h3 e;have e2:(db s c).2=s.2++[c]:=by rw[e]
  have e3:(db s c).2.length=s.2.length+1:=by rw[e2];simp
  have hkM:k<M.length:=by rw[<-h.len];exact h2
  have hk:=h.rest k h1 hkM;obtain⟨d,hd,-,hdz⟩:=hW (σ k) (h.org k hkM);have hC:=h.AK.push (u:=dF s.1 k) hd hdz hk hc h3 fun t ht=>hz k t h1 h2 ht;have hold:∀i,i<s.2.length->(db s c).2.getD i 0=s.2.getD i 0:=fun i hi=>by rw[e2,List.getD,aL hi,<-List.getD]
  have QD:(db s c).2.getD s.2.length 0=c:=by rw[e2,List.getD,aN (aF _),bL];rfl
  have hE:∀i t,i<s.2.length+1->t<n->dF (db s c).1 i t=lG (dF s.1) s.2.length (dF s.1 k) c i t:=fun i t hi ht=>by
   unfold lG;by_cases St:i=s.2.length
   ·rw[if_pos St,St,r1,bj,bj,bq]
   ·rw[aK St,r2 i (by omega) St t ht,aK (by omega),bj,bj,bq]
  have Wi:AI (dF (db s c).1) (fun i=>(db s c).2.getD i 0) (db s c).2.length n B fun i t=>if i=s.2.length then d*dF M (σ k) t else Z i t:=by
   rw[e3];refine hC.congr hE (fun i hi=>?_) fun _ _ _ _=>rfl;by_cases St:i=s.2.length
   ·rw[if_pos St,St,QD]
   ·rw[aK St,hold i (by omega)]
  refine⟨fun j=>if j=k then σ s.2.length else σ j,_,QR,hmon,hlen,Wi,fun j hj=>?_,fun j hj hjM t ht=>?_⟩
  ·split
   ·exact h.org _ (by omega)
   ·exact h.org j hj
  ·rw[e3]at hj;have hjs:j<s.1.length:=by rw[h.len];exact hjM
   obtain⟨jj,hjj⟩:∃jj,(if j=k then s.2.length else j)=jj:=⟨_,rfl⟩
   have hjr:s.2.length<=jj:=by rw[<-hjj];split<;>omega
   have Tt:jj<M.length:=by rw[<-hjj];split<;>omega
   have hσ:(if j=k then σ s.2.length else σ j)=σ jj:=by rw[<-hjj];split<;>rfl
   rw[hσ];refine NC Wi.ru ?_ (fun i hi=>?_) ht
   ·have hr:eI (dF (db s c).1) (db s c).2.length n (dF (db s c).1 s.2.length):=eI.row (by omega);have h5:eI (dF s.1) s.2.length n fun t=>cZ (fun i=>dF M (σ jj) (s.2.getD i 0)*dF s.1 i t) s.2.length:=⟨_,fun t _=>rfl⟩
    have h6:eI (dF (db s c).1) (db s c).2.length n fun t=>cZ (fun i=>dF M (σ jj) (s.2.getD i 0)*dF s.1 i t) s.2.length:=h5.trans fun i hi=>by
     rw[e3];exact eI.HT (rK h3 i hi) hE
    refine(h6.add hr (dF s.1 jj c)).congr fun t ht=>?_;have h7:=h.rest jj hjr Tt t ht;unfold mb at h7;rw[cL (g:=fun i=>dF M (σ jj) (s.2.getD i 0)*dF s.1 i t) fun i hi=>if_pos (h.AK.ru.lt i hi)]at h7;rw[r2 j hjs (by omega) t ht,hjj,r1,h7];grind
   ·rw[QR.2.2.2.2 i j hi (by rw[hlen];exact hjM),aK (by omega)]
theorem qH{M:List (List Rat)}{n B:Nat}(hM:fZ n M)(hW:Bp M n B):∀c,c<=n->∃σ Z,ElI M n B c (cM M c) σ Z
 |0,_=>⟨fun j=>j,fun _ _=>0,⟨hM,aO _,fun _ _ _ _ h=>by omega,fun p hp=>(by cases hp),fun _ _ h=>(by cases h)⟩,⟨fun _ _ _ h=>(by cases h),fun _ _ h=>(by cases h)⟩,rfl,AI.start _ _ _ _ _,fun j hj=>hj,fun j _ hj t ht=>by
   show dF M j t=mb (dF M) _ 0 (dF M j) n t;unfold mb;show _=_-0
   grind⟩
 |c+1,hc=>by
  obtain⟨σ,Z,h⟩:=qH hM hW c (by omega);unfold cM at h ⊢;rw[bT,List.foldl_append];exact h.step hW (by omega)
theorem tG(hM:fZ n M)(hW:Bp M n B)(hB:1<=B){c:Nat}(hc:c<=n):∀r∈(cM M c).1,∀q∈r,rl q<=ln (fB B M.length):=fun r hr q hq=>by
 obtain⟨σ,Z,h⟩:=qH hM hW c hc;obtain⟨a,ha⟩:=aR hr;obtain⟨t,ht⟩:=aR hq;have PC:=(aD.1 ha).1;have Ss:=(aD.1 ht).1;rw[h.red.1 r hr]at Ss;have hle:=h.red.2.1;have e:q=dF (cM M c).1 a t:=by rw[dF,show(cM M c).1.getD a []=r by rw[List.getD,ha];rfl,List.getD,ht];rfl
 rw[h.len]at PC hle;rw[e];rcases aQ a (cM M c).2.length with h1|h1
 ·exact aY (h.AK.LJ h1 Ss) (fM (rL hB hle))
 ·obtain⟨d,hd,hdB,hz⟩:=hW _ (h.org a PC);rw[h.rest a h1 PC t Ss];exact aY (h.AK.LK hB hd hdB hz n Ss) (fM (rL hB (by omega)))
end Go.Ex
namespace Go.Ex
open Go Go.Sx Go.Proofs
variable{b:List (Int×Int)}{M:List (List (Int×Int))}{K:List (List Rat)}{qs xs ys:List Rat}{cs:List Value}{h h0:Nat}{C S:Nat->Prop}{a:Option Addr}{p q:Rat}{u v:Value}{w:World}
theorem GU{M:List (List Rat)}{a c i k:Nat}(h:i<k):(de M a c k)[i]? =(de M a c (i+1))[i]? :=by
 simp only[de,List.getElem?_mapIdx]
 have:(i<k∧i≠a)↔(i<i+1∧i≠a):=by omega
 simp[this,h]
theorem yG{M:List (List Rat)}{n cols:Nat}(hS:Old S w)(hm:dK w S v M)(hlen:fZ n M)(hn:n<=1000)(hR:M.length<=1000)(Pz:cols<=n)(hB:∀c,c<=cols->Ht (cM M c).1 h)(hh:3*h<=90000):
  eD PG N.sP #[v,.int .i64 cols] w (eG w fun v' w2=>∃vm vp,v'= .tuple #[vm,vp]∧dK w2 (Nw S w w2) vm (cM M cols).1∧dC w2 (Nf w w2) vp (cM M cols).2):=by
 have hw:=bR w;replace hm:=dK.arg hm [];obtain⟨rv0,⟨TR,hl0,h1,am,cm,rfl,SC,Oy⟩,hl,hrows⟩:=hm;unfold maxLen at TR;have QL:gh w (Cv S w.heap.size []) rv0 M:=⟨hl,h1,hrows⟩
 refine wx (by simp) ?_;refine .inl ?_;refine⟨rv0,hl0,h1,fun O w' r Od=>?_,?_⟩
 ·obtain⟨u0,SP⟩:∃u,rv0[0]? =some u:=⟨_,aB (by omega)⟩
  obtain⟨ad,ha,_,_⟩:=Oy 0 u0 SP;refine⟨ad,ha,fun j u hj=>?_⟩;obtain⟨ad2,PC,q1,q2⟩:=Oy j u hj;rw[ha]at PC;injection PC with PC;subst PC;rw[cH (w:=w) (w2:=w') (by rw[dD];exact Rel.same r hS q1)];exact q2
 refine⟨rfl,by omega,by unfold maxLen;omega,?_⟩;rw[aS M.length]
 refine⟨Nat×List Value×List (List Rat)×List Nat×World×Iv,fun z=>⟨[(1,iZ cols),(6,.o (.w 0 M.length)),(7,.o (.w 1 z.2.2.2.1.length)),(8,iN z.1)],[(1,.vec T.int 1 (z.2.2.2.1.map fun c:Nat=>.int .i64 (c:Int))),(0,.vec T.fc 1 z.2.1)],2,z.2.2.2.2.2,z.2.2.2.2.1⟩,fun z=>cols-z.1,
  fun z=>z.1<=cols∧(z.2.2.1,z.2.2.2.1)=(List.range z.1).foldl db (M,[])∧fZ n z.2.2.1∧(z.2.2.1.length=M.length∧z.2.2.2.1.length<=M.length)∧dm w.heap.size w z.2.2.2.2.1∧gh z.2.2.2.2.1 (Cv S w.heap.size z.2.2.2.2.2) z.2.1 z.2.2.1,?_,?_⟩
 ·intro O w' r
  exact⟨(0,rv0,M,[],w',[]),⟨aO _,rfl,hlen,⟨rfl,aO _⟩,hw.tr r.cQ,QL.rel r hS⟩,Sub.nil 7 T.int 1 rfl (by simp[jQ,SV.sc,At.sc,fP]) r fun ρ1 r1=>
   Sub.gn [(0,1),(1,2)] r1⟩
 rintro⟨c,rv,M1,pv,w1,iv⟩ ⟨hc,R0,TY,hInv,hw,QL⟩;dsimp only at hc R0 TY hInv hw QL ⊢;obtain⟨hI1,hI2⟩:=hInv;have hI4:Ht M1 h:=by
  have h5:=hB c hc;rw[show cM M c=(M1,pv)from R0.symm]at h5;exact h5
 have Ou:rv.length=M.length:=by rw[QL.1,hI1]
 refine dI.mk ?_ ?_<;>intro OI
 ·have OI:c<cols:=by simpa using OI
  refine⟨by simp,Nat×World×Iv,fun z=>⟨[(1,iZ cols),(6,.o (.w 0 M.length)),(7,.o (.w 1 pv.length)),(8,iN c),(9,iN pv.length),(10,iN z.1)],[(1,.vec T.int 1 (pv.map fun c:Nat=>.int .i64 (c:Int))),(0,.vec T.fc 1 rv)],2,z.2.2,z.2.1⟩,fun z=>M.length-z.1,
   fun z=>pv.length<=z.1∧z.1<=M.length∧(∀j,pv.length<=j->j<z.1->dF M1 j c=0)∧dm w.heap.size w z.2.1∧gh z.2.1 (Cv S w.heap.size z.2.2) rv M1,?_,?_⟩
  ·intro O w' r;exact⟨(pv.length,w',iv),⟨aF _,hI2,fun j h3 h4=>by dsimp only at h4;omega,hw.tr r.cQ,QL.rel r hS⟩,Sub.gn [] r⟩
  rintro⟨k,w2,iv⟩ ⟨Sd,hk1,hkz,hw,QL⟩;dsimp only at Sd hk1 hkz hw QL ⊢;have hRl:=QL.1;refine⟨by rw[Ou,aS,aU],?_⟩;refine dI.mk ?_ ?_<;>intro OL
  ·have OL:k<M.length:=by have:=aI OL;omega
   obtain⟨u,x,hu,hx,hux⟩:=QL.get (i:=k) (by omega);have Pk:=TY x (aC hx);obtain⟨y,hy⟩:∃y,x[c]? =some y:=⟨_,aB (by omega)⟩
   have QV:dF M1 k c=y:=by simp[dF,List.getD,hx,hy]
   obtain⟨au,cu,rfl,hcu,-⟩:=dH.shape hux;obtain⟨ad,cs,Ol,hF,_,Se⟩:=dH.load hux hy;obtain⟨p0,p1,p2,p3,p4,p5,p6,p7,rfl,hF⟩:=hF;refine⟨by simp[Ou],by omega,.slice au x.length cu,by simpa using hu,ad,Ol,by omega,[.bool p0,.slice p1 p2 p3,.bool p4,.slice p5 p6 p7],rfl,fun O w' r i x hx=>?_,?_⟩
   ·obtain⟨k1,k2⟩:=Se i x hx;rw[aE,cH (w:=w2) (w2:=w') (by rw[dD,dD];exact Rel.same r hS k1)];exact k2
   refine cD (cE hw (fun _ w' v w2=>v= .int .i64 (rs y)) (fun O w' r=>jb (Rel.old r hS) (hF.rel r hS)) ?_);rintro O _ _ Pg OP r he hw h_ rfl;replace QL:=QL.cG r hS he (mC h_);refine dI.mk ?_ ?_<;>intro hs
   ·have hs:y=0:=kg.1 (by simpa using hs);refine⟨((k+1:Nat):Int),wo,?_⟩;intro ρ3 w3 r3
    exact⟨(k+1,w3,_),⟨by dsimp only;omega,OL,fun j h3 h4=>by
      by_cases hj:j=k
      ·rw[hj,QV,hs]
      ·exact hkz j h3 (by dsimp only at h4;omega),hw.tr r3.cQ,QL.rel r3 hS⟩,Sub.gn [] r3,by dsimp only;omega⟩
   have hs:y≠0:=fun e=>by rw[e]at hs;exact absurd hs (by decide)
   refine⟨by rw[Ou,aS,aU],?_⟩;refine dI.mk (fun Si=>absurd (aI Si) (by omega)) (fun _=>?_);obtain⟨uk,xk,huk,hxk,huxk⟩:=QL.get (i:=k) (by omega);obtain⟨ur,xr,hur,TS,huxr⟩:=QL.get (i:=pv.length) (by omega);have hukc:=QL.2.1 uk (aC huk);have hurc:=QL.2.1 ur (aC hur);obtain⟨aur,cur,rfl,-,-⟩:=dH.shape huxr;obtain⟨auk,cuk,rfl,-,-⟩:=dH.shape huxk;have hsw:fW [] M1 pv.length k=(M1.set pv.length xk).set k xr:=by simp[fW,List.getD,hxk,TS]
   have Vd:pv.length<M.length:=by omega
   have OJ:dF M1 k c≠0:=by rw[QV];exact hs
   have Oz:=zl (s:=(M1,pv)) (c:=c) (k:=k) Sd (by show k<M1.length;omega) hkz OJ;dsimp only at Oz;have hHt2:=hI4.swap (i:=pv.length) (j:=k) (by omega) (by omega);have hat2:=FT (M:=M1) (i:=pv.length) (j:=k) (c:=c) (by omega) (by omega);have hc1:Ht (de (scaled (fW [] M1 pv.length k) pv.length c) pv.length c M.length) h:=by
    have h5:=hB (c+1) OI;rw[show cM M (c+1)=db (M1,pv) c by unfold cM;rw[bT,List.foldl_append,<-R0];rfl,Oz,hI1]at h5;exact h5
   have WL:(∀r,(scaled (fW [] M1 pv.length k) pv.length c)[pv.length]? =some r->∀q∈r,rl q+1<=h)∧∀j r,j≠pv.length->(scaled (fW [] M1 pv.length k) pv.length c)[j]? =some r->∀q∈r,rl q+1<=h:=
    ⟨fun r hr=>hc1 r (aC (i:=pv.length) (by rw[tA];exact hr)),fun j r hj hr=>hHt2 r (aC (i:=j) (by unfold Go.Ex.scaled at hr;rwa [aZ (Ne.symm hj)]at hr))⟩
   have Rv:=(QL.set (i:=pv.length) hukc huxk).set (i:=k) hurc huxr;rw[<-hsw]at Rv;have Wr:fZ n (fW [] M1 pv.length k):=by
    rw[hsw];exact(TY.set (TY xk (aC hxk))).set (TY xr (aC TS))
   have Pa:(fW [] M1 pv.length k).length=M.length:=by rw[jw,hI1]
   generalize hrv2:(rv.set pv.length (.slice auk xk.length cuk)).set k (.slice aur xr.length cur)=rv2 at Rv;have Qi:rv2.length=M.length:=by rw[Rv.1,Pa]
   refine cK hτ da [.x 0,.x 1,.x 2,.x 3,.x 4,.x 5,.x 6,.x 7,.x 8,.x 9,.x 10,.x 11,.x 12,.x 13,.x 14,.x 15] (by kernel_rfl) (by kernel_rfl) ?_;refine⟨by simp[Ou],by omega,.slice auk xk.length cuk,by simpa using huk,by simp[Ou],by omega,.slice aur xr.length cur,by simpa using hur,by simp[Ou],by omega,by simp[Ou,Qi];omega,rv.set pv.length (.slice auk xk.length cuk),by rw[aE,aU];exact gC (by simp[Ou,Qi];omega),by simp[Ou],by omega,by simp[Ou,Qi];omega,rv2,by rw[aE,aU,<-hrv2];exact gC (by simp[Ou,Qi];omega),?_⟩;obtain⟨u2,x2,Tm,SD,TZ⟩:=Rv.get (i:=pv.length) (by omega);have hx2l:=Wr x2 (aC SD);obtain⟨y2,hy2⟩:∃y,x2[c]? =some y:=⟨_,aB (by omega)⟩
   have hat3:dF (fW [] M1 pv.length k) pv.length c=y2:=by simp[dF,List.getD,SD,hy2]
   have hy20:y2≠0:=by rw[<-hat3,hat2];exact OJ
   have RY:(fW [] M1 pv.length k).getD pv.length []=x2:=by simp[List.getD,SD]
   have hscl:scaled (fW [] M1 pv.length k) pv.length c=(fW [] M1 pv.length k).set pv.length (x2.map (· *(1 / y2))):=by rw[scaled,RY,hat3]
   rw[hscl]at Oz WL hc1;have QY:=hHt2.at SD;have Ui:=QY y2 (aC hy2);have hinv:=aAX hy20;have SF:((fW [] M1 pv.length k).set pv.length (x2.map (· *(1 / y2)))).length=M.length:=by rw[ah,Pa]
   have hget3:((fW [] M1 pv.length k).set pv.length (x2.map (· *(1 / y2))))[pv.length]? =some (x2.map (· *(1 / y2))):=aV (by omega);have Ws:fZ n ((fW [] M1 pv.length k).set pv.length (x2.map (· *(1 / y2)))):=Wr.set (by rw[aJ];exact hx2l);generalize fW [] M1 pv.length k=M2 at*
   obtain⟨au2,cu2,rfl,hcu2,-⟩:=dH.shape TZ;obtain⟨ad2,cs2,Pv,SE,_,hlc2⟩:=dH.load TZ hy2;obtain⟨q0,q1,q2,q3,q4,q5,q6,q7,rfl,SE⟩:=SE;replace Ou:=Qi;refine cK hτ da [.x 1,.x 2,.x 3,.x 4,.x 5,.x 6,.x 7,.p 12,.x 0,.x 8,.x 9,.x 10,.x 11,.x 12,.x 13,.x 14] (by kernel_rfl) (by kernel_rfl) ?_;refine⟨by simp[Ou],by omega,.slice au2 x2.length cu2,by simpa using Tm,ad2,Pv,by omega,[.bool q0,.slice q1 q2 q3,.bool q4,.slice q5 q6 q7],rfl,fun O w' r i x hx=>?_,?_⟩
   ·obtain⟨k1,k2⟩:=hlc2 i x hx;rw[aE,cH (w:=Pg) (w2:=w') (by rw[dD,dD];exact Rel.same r hS k1)];exact k2
   refine cE hw (fun _ w' v w2=>cS w2 (Nf w' w2) v (1:Rat)) (fun O w' r=>(show ((1:Int):Rat)=1 from rfl)▸nE 1 w' (by decide) (by decide)) ?_;rintro O _ _ _ ON r he hw h_ hn;replace Rv:=Rv.cG r hS he (mC h_);replace TZ:=cX.cG TZ r hS he (mC h_);replace SE:=SE.cG r hS he (mC h_);have h_1:=hn.dB (S:=FF) r.cF (mN h_);obtain⟨A0,A1,A2,A3,A4,A5,A6,A7,rfl⟩:=h_1.shape;refine cE hw (fun _ w' v w2=>∃q,v= .tuple #[q,.int .i64 0]∧cS w2 (Nf w' w2) q (1 / y2)) (fun O w' r=>KI (Rel.old r hS) (((h_1.rel r (cC w)).l (by rw[Lg];decide)).cJ fun g hg=>Cv.false hg) (SE.rel r hS) hy20) ?_;rintro O _ _ _ OU r he hw h_ ⟨q,rfl,k1⟩;replace Rv:=Rv.cG r hS he (mC h_);replace TZ:=cX.cG TZ r hS he (mC h_);have PY:=k1.dB (S:=FF) r.cF (mN h_);obtain⟨s3_0a,s3_0b,s3_0c,s3_0d,s3_0e,s3_0f,s3_0g,s3_0h,rfl⟩:=PY.shape;refine cK hτ da [.x 0,.x 1,.x 2,.x 3,.x 4,.x 5,.x 6,.x 7,.x 8,.x 9] (by kernel_rfl) (by kernel_rfl) ?_;refine⟨by simp[Ou],by omega,.slice au2 x2.length cu2,by simpa using Tm,?_⟩;refine cE hw (fun _ w' v w2=>cN w2 (Nf w' w2) v (x2.map (· *(1 / y2)))) (fun O w' r=>(DP x2 (1 / y2))▸JC (Rel.old r hS) (cX.nil w' _) (cX.rel TZ r hS) (((PY.rel r (cC w)).l (by omega)).cJ fun g hg=>Cv.false hg) (.inl rfl) (by omega) (fun y hy=>by have:=QY y hy;omega)) ?_;rintro O _ _ _ OW r he hw h_ hn;replace Rv:=Rv.cG r hS he (mC h_);have hx3:=cN.dB (S:=FF) hn r.cF (mN h_);obtain⟨a3,c3,rfl,hc3,-⟩:=dH.shape hx3;have hRV3:=Rv.set (i:=pv.length) (u:=.slice a3 (x2.map (· *(1 / y2))).length c3) rfl (cX.cJ (cN.l hx3 fun q hq=>by have:=WL.1 _ hget3 q hq;omega) fun g hg=>Cv.false hg);obtain⟨rv3,hrv3⟩:∃rv3,rv3=rv2.set pv.length (.slice a3 (x2.map (· *(1 / y2))).length c3):=⟨_,rfl⟩
   rw[<-hrv3]at hRV3;generalize x2.map (· *(1 / y2))=x3 at*
   generalize UZ:M2.set pv.length x3=M3 at*
   refine⟨by simp[Ou],by omega,by simp[Ou,Qi];omega,rv3,by rw[aE,aU,hrv3];exact gC (by simp[Ou,Qi];omega),?_⟩;have hrl3:rv3.length=M.length:=by rw[hRV3.1,SF]
   refine⟨Nat×List Value×World×Iv,fun z=>⟨[(1,iZ cols),(6,.o (.w 0 M.length)),(7,.o (.w 1 pv.length)),(8,iN c),(9,iN pv.length),(13,iN z.1)],[(1,.vec T.int 1 (pv.map fun c:Nat=>.int .i64 (c:Int))),(0,.vec T.fc 1 z.2.1)],2,z.2.2.2,z.2.2.1⟩,fun z=>M.length-z.1,
    fun z=>z.1<=M.length∧dm w.heap.size w z.2.2.1∧gh z.2.2.1 (Cv S w.heap.size z.2.2.2) z.2.1 (de M3 pv.length c z.1),?_,?_⟩
   ·intro O w' r;exact⟨(0,rv3,w',OW),⟨aO _,hw.tr r.cQ,by dsimp only;rw[Dt];exact hRV3.rel r hS⟩,Sub.gn [] r⟩
   rintro⟨i,rv,w4,iv⟩ ⟨hi,hw,QL⟩;dsimp only at hi hw QL ⊢;have Ou:rv.length=M.length:=by rw[QL.1,hJ,SF]
   refine⟨by rw[Ou,aS,aU],?_⟩;refine dI.mk ?_ ?_<;>intro WM
   ·have WM:i<M.length:=by have:=aI WM;omega
    refine dI.mk ?_ ?_<;>intro St
    ·have St:i≠pv.length:=fun e=>by rw[e]at St;simp at St
     obtain⟨u4,x4,hu4,hx4,Sz⟩:=QL.get (i:=i) (by rw[hJ];omega);obtain⟨u5,x5,hu5,hx5,UF⟩:=QL.get (i:=pv.length) (by rw[hJ];omega);rw[H5 _ _ _ _ _ (aF _)]at hx4;rw[tA]at hx5;have hx4l:=Ws x4 (aC hx4);have hx5l:=Ws x5 (aC hx5);obtain⟨y4,hy4⟩:∃y,x4[c]? =some y:=⟨_,aB (by omega)⟩
     have hy4d:x4.getD c 0=y4:=by simp[List.getD,hy4]
     have hx5d:M3.getD pv.length []=x5:=by simp[List.getD,hx5]
     have Rn:=WL.2 i x4 St hx4;have hb5:=WL.1 x5 hx5;have hyb4:=Rn y4 (aC hy4);have hrn:=tL y4;obtain⟨au4,cu4,rfl,hcu4,-⟩:=dH.shape Sz;obtain⟨au5,cu5,rfl,hcu5,-⟩:=dH.shape UF;obtain⟨ad4,cs4,had4,hF4,_,hlc4⟩:=dH.load Sz hy4;obtain⟨e0,e1,e2,e3,e4,e5,e6,e7,rfl,hF4⟩:=hF4;refine⟨by simp[Ou],by omega,.slice au4 x4.length cu4,by simpa using hu4,ad4,had4,by omega,[.bool e0,.slice e1 e2 e3,.bool e4,.slice e5 e6 e7],rfl,fun O w' r i x hx=>?_,?_⟩
     ·obtain⟨k1,k2⟩:=hlc4 i x hx;rw[aE,cH (w:=w4) (w2:=w') (by rw[dD,dD];exact Rel.same r hS k1)];exact k2
     refine cD (cE hw (fun _ w' v w2=>v= .int .i64 (rs y4)) (fun O w' r=>jb (Rel.old r hS) (hF4.rel r hS)) ?_);rintro O _ _ RR Pb r he hw h_ rfl;replace QL:=QL.cG r hS he (mC h_);replace Sz:=cX.cG Sz r hS he (mC h_);replace UF:=cX.cG UF r hS he (mC h_);refine dI.mk ?_ ?_<;>intro hs4
     ·have hs4:y4≠0:=fun e=>by rw[e]at hs4;exact absurd hs4 (by decide)
      obtain⟨ad6,cs6,had6,hF6,_,hlc6⟩:=dH.load Sz hy4;obtain⟨f0,f1,f2',f3,f4,f5,f6,f7,rfl,hF6⟩:=hF6;refine cK hτ da [.x 0,.x 1,.x 2,.x 3,.x 4,.x 5,.x 6,.x 7,.x 8,.x 9,.x 10,.x 11,.x 12,.x 13,.x 14,.x 15,.x 16,.x 17,.x 18,.x 19,.x 20] (by kernel_rfl) (by kernel_rfl) ?_;refine⟨by simp[Ou],by omega,.slice au4 x4.length cu4,by simpa using hu4,by simp[Ou],by omega,.slice au5 x5.length cu5,by simpa using hu5,by simp[Ou],by omega,.slice au4 x4.length cu4,by simpa using hu4,ad6,had6,by omega,[.bool f0,.slice f1 f2' f3,.bool f4,.slice f5 f6 f7],rfl,fun O w' r i x hx=>?_,?_⟩
      ·obtain⟨k1,k2⟩:=hlc6 i x hx;rw[aE,cH (w:=RR) (w2:=w') (by rw[dD,dD];exact Rel.same r hS k1)];exact k2
      refine cE hw (fun _ w' v w2=>cS w2 (Nf w' w2) v (-y4)) (fun O w' r=>MK (Rel.old r hS) (hF6.rel r hS)) ?_;rintro O _ _ _ Qk r he hw h_ hn;replace QL:=QL.cG r hS he (mC h_);replace Sz:=cX.cG Sz r hS he (mC h_);replace UF:=cX.cG UF r hS he (mC h_);have hng:=hn.dB (S:=FF) r.cF (mN h_);obtain⟨C0,C1,C2,C3,C4,C5,C6,C7,rfl⟩:=hng.shape;refine cE hw (fun _ w' v w2=>cN w2 (Nf w' w2) v (kx x4 x5 (-y4))) (fun O w' r=>JC (Rel.old r hS) (cX.rel Sz r hS) (cX.rel UF r hS) (((hng.rel r (cC w)).l (by omega)).cJ fun g hg=>Cv.false hg) (.inr (by omega)) (by omega) (fun y hy=>by have:=hb5 y hy;omega)) ?_;rintro O _ _ _ TA r he hw h_ hn;replace QL:=QL.cG r hS he (mC h_);have hx7:=cN.dB (S:=FF) hn r.cF (mN h_);obtain⟨a7,c7,rfl,hc7,-⟩:=dH.shape hx7;have QD:(de M3 pv.length c i).set i (kx x4 x5 (-y4))=de M3 pv.length c (i+1):=by
       rw[<-Du hx4 St,hy4d,hx5d,Hs _ (by omega)]
      have hrow7:(de M3 pv.length c (i+1))[i]? =some (kx x4 x5 (-y4)):=by rw[<-QD];exact aV (by rw[hJ];omega)
      have hb7:=hc1.at (i:=i) (by rw[GU WM];exact hrow7);replace QL:=QL.set (i:=i) (u:=.slice a7 (kx x4 x5 (-y4)).length c7) rfl (cX.cJ (cN.l hx7 fun q hq=>by have:=hb7 q hq;omega) fun g hg=>Cv.false hg);rw[QD]at QL;refine⟨by simp[Ou],by omega,by simp[Ou];omega,rv.set i (.slice a7 (kx x4 x5 (-y4)).length c7),by rw[aE,aU];exact gC (by omega),((i+1:Nat):Int),wo,?_⟩;intro ρ3 w3 r3;exact⟨(i+1,rv.set i (.slice a7 (kx x4 x5 (-y4)).length c7),w3,_),⟨WM,hw.tr r3.cQ,by dsimp only;rw[show i+1=i+1 from rfl];exact QL.rel r3 hS⟩,Sub.gn [] r3,by dsimp only;omega⟩
     have hs4:y4=0:=kg.1 (by simpa using hs4);refine⟨((i+1:Nat):Int),wo,?_⟩;intro ρ3 w3 r3;exact⟨(i+1,rv,w3,_),⟨WM,hw.tr r3.cQ,by dsimp only;rw[Dk hx4 (by rw[hy4d,hs4])];exact QL.rel r3 hS⟩,Sub.gn [] r3,by dsimp only;omega⟩
    have hir1:(i:Int)=pv.length:=by simpa using St
    have St:i=pv.length:=by omega
    refine⟨((i+1:Nat):Int),wo,?_⟩;intro ρ3 w3 r3;exact⟨(i+1,rv,w3,_),⟨WM,hw.tr r3.cQ,by dsimp only;rw[show de M3 pv.length c (i+1)=de M3 pv.length c i by rw[St,<-Dv]];exact QL.rel r3 hS⟩,Sub.gn [] r3,by dsimp only;omega⟩
   have WM:i=M.length:=by have:=aH WM;omega
   subst WM;refine .inl ?_;refine⟨by simp,by omega,by unfold maxLen;omega,?_⟩;have hpm:(pv++[c]).map (fun c:Nat=>Value.int .i64 (c:Int))=pv.map (fun c:Nat=>Value.int .i64 (c:Int))++[.int .i64 (c:Int)]:=by simp
   rw[hI1]at Oz;refine⟨((c+1:Nat):Int),wo,?_⟩;intro ρ3 w3 r3;have hs:db (M1,pv) c=((de M3 pv.length c M.length),(pv++[c])):=Oz;have hf2:((de M3 pv.length c M.length),(pv++[c]))=(List.range (c+1)).foldl db (M,[]):=by rw[bT,List.foldl_append,<-R0];exact hs.symm
   have Qh:(db (M1,pv) c).1.length=M.length∧(db (M1,pv) c).2.length<=M.length:=by
    have h5:=(dV hlen (c+1) (by omega)).2.1;have h6:=dq M (c+1);rw[show cM M (c+1)=db (M1,pv) c by unfold cM;rw[bT,List.foldl_append,<-R0];rfl]at h5 h6;omega
   have Pa:=fZ.step (s:=(M1,pv)) (c:=c) TY;rw[hs]at Qh Pa;exact⟨(c+1,rv,(de M3 pv.length c M.length),(pv++[c]),w3,_),⟨OI,hf2,Pa,Qh,hw.tr r3.cQ,QL.rel r3 hS⟩,Sub.gn [(1,3)] r3 ⟨by dsimp only;rw[hpm];rfl,rfl,trivial⟩ ⟨rfl,rfl,by dsimp only;rw[List.length_append,List.length_singleton];rfl,rfl,trivial⟩,by dsimp only;omega⟩
  have OL:k=M.length:=by have:=aH OL;omega
  refine⟨by rw[Ou,aS,aU],?_⟩;refine dI.mk (fun _=>?_) (fun Si=>absurd (aH Si) (by omega));refine⟨((c+1:Nat):Int),wo,?_⟩;intro ρ3 w3 r3;have hs:db (M1,pv) c=(M1,pv):=Ja Sd (by show k=M1.length;omega) hkz;have hf2:(M1,pv)=(List.range (c+1)).foldl db (M,[]):=by rw[bT,List.foldl_append,<-R0];exact hs.symm
  have Qh:(db (M1,pv) c).1.length=M.length∧(db (M1,pv) c).2.length<=M.length:=by
   have h5:=(dV hlen (c+1) (by omega)).2.1;have h6:=dq M (c+1);rw[show cM M (c+1)=db (M1,pv) c by unfold cM;rw[bT,List.foldl_append,<-R0];rfl]at h5 h6;omega
  have Pa:=fZ.step (s:=(M1,pv)) (c:=c) TY;rw[hs]at Qh Pa;exact⟨(c+1,rv,M1,pv,w3,_),⟨OI,hf2,Pa,Qh,hw.tr r3.cQ,QL.rel r3 hS⟩,Sub.gn [] r3,by dsimp only;omega⟩
 have OI:c=cols:=aP hc (by simpa using OI);subst OI;have QR:cM M c=(M1,pv):=R0.symm;rw[QR];intro ρe we re;refine⟨_,rfl,hw.tr re.cQ,_,_,rfl,⟨rv,?_,QL.1,fun i u x h1 h2=>cX.out (QL.2.2 i u x h1 h2) re hS⟩,?_⟩
 ·have:=re.iC (id:=0) (sz:=1) (m:=M.length) rfl (by rw[Ou,aU]) (by unfold maxLen;omega) (by decide) QL.2.1;rw[show (M1,pv).1.length=M.length from hI1];exact this.cJ fun g hg=>.inr hg
 ·have:=re.iC (id:=1) (sz:=1) (m:=pv.length) rfl (by simp) (by unfold maxLen;omega) (by decide) (fun u hu=>by
   obtain⟨_,_,rfl⟩:=aT.1 hu
   rfl)
  exact this.cJ fun g hg=>.inr hg
theorem Hu(hS:Old S w)(h:jP w S v M)(hL:dK w S v (fY M))(QH:∀r∈M,r.length=eU M)(hR:M.length<=1000)(hn:eU M<=1000)(hB:∀c,c<=eU M->Ht (cM (fY M) c).1 h0)(hh:3*h0<=90000):
  eD PG N.oo #[v] w (eG w fun v' w2=>cR w2 (Nf w w2) v' (eE (cM (fY M) (eU M)).1 (cM (fY M) (eU M)).2 (eU M) (eU M))):=by
 have hw:=bR w;have Ql:(fY M).length=M.length:=by simp[fY]
 have hlen:fZ (eU M) (fY M):=fun r hr=>by
  rw[fY]at hr;obtain⟨x,hx,rfl⟩:=aT.1 hr;rw[aJ];exact QH x hx
 replace h:=jP.arg h [];replace hL:=dK.arg hL [];obtain⟨am,cm,rfl,SC,SA⟩:=c9.shape h;refine yb (by simp) ?_;refine cD (cE hw (fun _ w' v w2=>v= .int .i64 (eU M)) (fun O w' r=>BW (Rel.old r hS) (jP.rel h r hS)) ?_);rintro O _ v1 _ OP r he hw h_ rfl;replace hL:=dK.cG hL r hS he (mC h_);refine cD (cO (Φ:=fun _ w' v w2=>∃vm vp,v= .tuple #[vm,vp]∧dK w2 (Nw (Cv S w.heap.size OP) w' w2) vm (cM (fY M) (eU M)).1∧dC w2 (Nf w' w2) vp (cM (fY M) (eU M)).2) (fun O w' r=>yG (Rel.old r hS) (dK.rel hL r hS) hlen (by omega) (by omega) (aF _) hB hh) ?_);rintro O QB v2 PI r he hb ⟨vm,vp,rfl,k1,k2⟩;replace hw:=hw.tr hb;have hA:=dK.old k1 r.cF;have hP:=dC.dB (S:=FF) k2 r.cF (iv:=(QB.heap.size,PI.heap.size)::OP) aG;generalize (QB.heap.size,PI.heap.size)::OP=ON at*
 obtain⟨aA,cA,rfl,hcA,-⟩:=c9.shape hA;have hPs:=hP;obtain⟨-,-,-,ap,cp,rfl,hcp,-⟩:=hPs;have hAl:=dq (fY M) (eU M);obtain⟨-,Pe,-,RQ,-⟩:=dV hlen (eU M) (aF _);rw[hAl]at Pe;have hAh:=hB (eU M) (aF _);have VD:=xe (cols:=eU M) hlen;generalize (cM (fY M) (eU M)).1=A at*
 generalize (cM (fY M) (eU M)).2=pv at*
 generalize eU M=cols at*
 refine⟨Nat×List Value×World×Iv,fun z=>⟨[(3,iZ cols),(4,sV aA A.length cA),(5,sV ap pv.length cp),(6,.o (.w 0 z.2.1.length)),(7,iN z.1)],[(0,.vec T.fc 1 z.2.1)],1,z.2.2.2,z.2.2.1⟩,fun z=>cols-z.1,
  fun z=>z.1<=cols∧z.2.1.length<=z.1∧dm w.heap.size w z.2.2.1∧dK z.2.2.1 (Cv S w.heap.size z.2.2.2) (.slice aA A.length cA) A∧dC z.2.2.1 (Cf w z.2.2.2) (.slice ap pv.length cp) pv∧dQ z.2.2.1 (Cf w z.2.2.2) z.2.1 (eE A pv cols z.1),?_,?_⟩
 ·intro O w' r
  exact⟨(0,[],w',ON),⟨aO _,aF _,hw.tr r.cQ,dK.rel hA r hS,dC.rel hP r (cC w),by simp[dQ,eE]⟩,Sub.nil 6 T.fc 1 rfl (by simp[jQ,SV.sc,At.sc,fP]) r fun ρ1 r1=>
   Sub.gn [] r1⟩
 rintro⟨c,rv,w1,iv⟩ ⟨hc,hrc,hw,hA,hP,hK⟩;dsimp only at hc hrc hw hA hP hK ⊢;refine dI.mk ?_ ?_<;>intro OI
 ·have OI:c<cols:=by simpa using OI
  refine cD (cE hw (fun _ w' v w2=>v= .bool (decide (c∈pv))) (fun O w' r=>aA7 (Rel.old r (cC w)) (dC.rel hP r (cC w))) ?_);rintro O _ _ _ OU r he hw h_ rfl;replace hA:=dK.cG hA r hS he (mC h_);replace hP:=dC.cG hP r (cC w) he (mC h_);replace hK:=hK.cG r (cC w) he (mC h_);refine dI.mk ?_ ?_<;>intro hm
  ·have hm:=aI hm;refine⟨((c+1:Nat):Int),wo,?_⟩;intro ρ3 w3 r3;exact⟨(c+1,rv,w3,_),⟨OI,by simp;omega,hw.tr r3.cQ,dK.rel hA r3 hS,dC.rel hP r3 (cC w),by dsimp only;rw[yF hm];exact hK.rel r3 (cC w)⟩,Sub.gn [] r3,by dsimp only;omega⟩
  have hm:=aH hm
  refine⟨cols,cols,rfl,rfl,aF _,by omega,by omega,Nat×List (List Value)×World×Iv,fun z=>⟨[(3,iZ cols),(4,sV aA A.length cA),(5,sV ap pv.length cp),(6,.o (.w 0 rv.length)),(7,iN c),(8,.o (.s 1 0 cols cols)),(9,iN z.1)],[(1,.arr T.Rat z.2.1.flatten),(0,.vec T.fc 1 rv)],2,z.2.2.2,z.2.2.1⟩,fun z=>cols-z.1,
   fun z=>z.1<=cols∧z.2.1.length=cols∧(∀x∈z.2.1,x.length=4)∧dm w.heap.size w z.2.2.1∧dK z.2.2.1 (Cv S w.heap.size z.2.2.2) (.slice aA A.length cA) A∧dC z.2.2.1 (Cf w z.2.2.2) (.slice ap pv.length cp) pv∧dQ z.2.2.1 (Cf w z.2.2.2) rv (eE A pv cols c)∧
    jM z.2.2.1 (Cf w z.2.2.2) z.2.1 z.1,?_,?_⟩
  ·intro O w' r
   exact⟨(0,List.replicate cols [.bool false,.slice none 0 0,.bool false,.slice none 0 0],w',OU),⟨aO _,by simp,fun x hx=>by rw[bH hx];rfl,hw.tr r.cQ,dK.rel hA r hS,dC.rel hP r (cC w),hK.rel r (cC w),fun j cs hj=>by dsimp only at hj;omega⟩,
    Sub.gn [] r⟩
  rintro⟨k,css,w2,iv⟩ ⟨hk,PQ,RL,hw,hA,hP,hK,hz⟩;dsimp only at hk PQ RL hw hA hP hK hz ⊢;refine dI.mk ?_ ?_<;>intro OL
  ·have OL:k<cols:=by simpa using OL
   refine cD (cE hw (fun _ w' v w2=>cS w2 (Nf w' w2) v (0)) (fun O w' r=>(show ((0:Int):Rat)=0 from rfl)▸nE 0 w' (by decide) (by decide)) ?_);rintro O Qd v4 Q5 OW r he hw h_ hn;replace hA:=dK.cG hA r hS he (mC h_);replace hP:=dC.cG hP r (cC w) he (mC h_);replace hK:=hK.cG r (cC w) he (mC h_);replace hz:=hz.cG r (cC w) he (mC h_);have h_0:=hn.dB (S:=FF) r.cF (mN h_);obtain⟨A0,A1,A2,A3,A4,A5,A6,A7,rfl⟩:=h_0.shape;refine⟨by omega,?_⟩;have OY:=eK RL;refine⟨by rw[aE,OY];omega,(css.set k [.bool A0,.slice A1 A2 A3,.bool A4,.slice A5 A6 A7]).flatten,by rw[aE,aS];exact iy (css:=css) (j:=k) RL (by omega),((k+1:Nat):Int),wo,?_⟩;intro ρ3 w3 r3
   exact⟨(k+1,css.set k [.bool A0,.slice A1 A2 A3,.bool A4,.slice A5 A6 A7],w3,_),⟨OL,by simp[PQ],GV RL rfl,hw.tr r3.cQ,dK.rel hA r3 hS,dC.rel hP r3 (cC w),hK.rel r3 (cC w),(hz.rel r3 (cC w)).push (h_0.rel r3 (cC w)).pW⟩,
    Sub.gn [] r3,by dsimp only;omega⟩
  have OL:k=cols:=aP hk (by simpa using OL);subst OL;refine cD (cE hw (fun _ w' v w2=>cS w2 (Nf w' w2) v (1)) (fun O w' r=>(show ((1:Int):Rat)=1 from rfl)▸nE 1 w' (by decide) (by decide)) ?_);rintro O _ _ _ OW r he hw h_ hn;replace hA:=dK.cG hA r hS he (mC h_);replace hP:=dC.cG hP r (cC w) he (mC h_);replace hK:=hK.cG r (cC w) he (mC h_);replace hz:=hz.cG r (cC w) he (mC h_);have h_1:=hn.dB (S:=FF) r.cF (mN h_);obtain⟨A0,A1,A2,A3,A4,A5,A6,A7,rfl⟩:=h_1.shape;refine⟨by omega,?_⟩;have OY:=eK RL;refine⟨by rw[aE,OY];omega,(css.set c [.bool A0,.slice A1 A2 A3,.bool A4,.slice A5 A6 A7]).flatten,by rw[aE,aS];exact iy (css:=css) (j:=c) RL (by omega),?_⟩;have hFc:=hz.one PQ (c:=c) h_1.pW;have R7:(css.set c [.bool A0,.slice A1 A2 A3,.bool A4,.slice A5 A6 A7]).length=k:=by simp[PQ]
  generalize css.set c [.bool A0,.slice A1 A2 A3,.bool A4,.slice A5 A6 A7]=cs2 at*
  refine⟨Nat×Nat×World×Iv,fun z=>⟨[(8,.o (.v (.slice (some ⟨z.2.1,0,none⟩) k k))),(3,iZ k),(4,sV aA A.length cA),(5,sV ap pv.length cp),(6,.o (.w 0 rv.length)),(7,iN c),(10,iN z.1)],[(0,.vec T.fc 1 rv)],2,z.2.2.2,z.2.2.1⟩,fun z=>pv.length-z.1,
   fun z=>z.1<=pv.length∧dm w.heap.size w z.2.2.1∧(∀p,p∈OW->p∈z.2.2.2)∧¬Cv S w.heap.size OW z.2.1∧w.heap.size<=z.2.1∧dK z.2.2.1 (Cv S w.heap.size OW) (.slice aA A.length cA) A∧dC z.2.2.1 (Cf w OW) (.slice ap pv.length cp) pv∧dQ z.2.2.1 (Cf w OW) rv (eE A pv k c)∧
    df z.2.2.1 FF w.heap.size z.2.2.2 (.slice (some ⟨z.2.1,0,none⟩) k k) k (fo A pv k c z.1),?_,?_⟩
  ·intro O w' r
   exact⟨(0,(O 1).g,w',((O 1).g,(O 1).g+1)::OW),⟨aO _,hw.tr r.cQ,fun p hp=>List.mem_cons_of_mem _ hp,fun hg=>Rel.not r hS hg 1 _ rfl (r.fits (id:=1) rfl).1 rfl,(r.low 1 _ rfl (r.fits (id:=1) rfl).1).1,dK.rel hA r hS,dC.rel hP r (cC w),hK.rel r (cC w),df.kD r (id:=1) rfl R7 (by unfold maxLen;omega) hFc⟩,
    Sub.kD r (id:=1) (t:=8) rfl rfl ⟨rfl,trivial⟩ rfl ⟨rfl,rfl,rfl,rfl,rfl,rfl,trivial⟩ (by simp[jQ,SV.sc,At.sc])⟩
  rintro⟨i,gx,w5,Pb⟩ ⟨hi,hw,Ov,Qe,Wt,hA,hP,hK,hX⟩;dsimp only at hi hw Ov Qe Wt hA hP hK hX ⊢;refine dI.mk ?_ ?_<;>intro Qh
  ·have Qh:i<pv.length:=by simpa using Qh
   obtain⟨p,Um⟩:∃p,pv[i]? =some p:=⟨_,aB Qh⟩
   have hpd:pv.getD i 0=p:=by simp[List.getD,Um]
   have VE:=RQ p (aC Um);obtain⟨ra,hra⟩:∃r,A[i]? =some r:=⟨_,aB (by omega)⟩
   have hral:=VD ra (aC hra);have hPs:=hP;obtain⟨_,_,_,_,_,hpe,_,Ta⟩:=hPs;injection hpe with VF hpe2 VG;subst VF VG;obtain⟨adp,RO,kp1,kp2⟩:=Ta i (.int .i64 (p:Int)) (by rw[aM,Um];rfl);obtain⟨adm,um,QE,Oj,km1,km2⟩:=c9.load hA hra;obtain⟨au,cu,rfl,hcu,-⟩:=dH.shape Oj;obtain⟨q,hq⟩:∃q,ra[c]? =some q:=⟨_,aB (by omega)⟩
   have QV:dF A i c=q:=by simp[dF,List.getD,hra,hq]
   obtain⟨adq,cs,RP,hF,_,hl⟩:=dH.load Oj hq;obtain⟨b3,a3,n3,c3,b4,a4,n4,c4,rfl,hF⟩:=hF;have RS:∀{H nx O w'},Rel H nx Pb w.heap.size w5 O w'->∀{g},Cv S w.heap.size OW g->w'.heap[g]? =w5.heap[g]? :=fun r g hg=>Rel.same r hS (hg.mono Ov);refine cK hτ da [.x 0,.x 1,.x 2,.x 3,.x 4,.x 5,.x 6,.x 7,.x 8,.x 9,.x 10,.x 11,.x 12,.x 13,.x 14] (by kernel_rfl) (by kernel_rfl) ?_;refine⟨adp,RO,by omega,.int .i64 (p:Int),fun O w' r=>?_,?_⟩
   ·rw[aE,aU,cH (w:=w5) (w2:=w') (by rw[dD];exact RS r (yE kp1))];exact kp2
   refine⟨adm,QE,by omega,.slice au ra.length cu,fun O w' r=>?_,?_⟩
   ·rw[aE,cH (w:=w5) (w2:=w') (by rw[dD];exact RS r km1)];exact km2
   refine⟨adq,RP,by omega,[.bool b3,.slice a3 n3 c3,.bool b4,.slice a4 n4 c4],rfl,fun O w' r j u hu=>?_,?_⟩
   ·obtain⟨k1,k2⟩:=hl j u hu;rw[aE,cH (w:=w5) (w2:=w') (by rw[dD,dD];exact RS r k1)];exact k2
   refine cO (Φ:=fun _ w' v w2=>cS w2 (Nf w' w2) v (-q)) (fun O w' r=>MK (fun g hg=>Rel.old r hS g (hg.mono Ov)) (hF.cI fun g hg=>RS r hg)) ?_;rintro O wa v1 wb r he hb hO;have hON:cS wb (fun g=>Cf w ((wa.heap.size,wb.heap.size)::Pb) g∧(Value.slice (some ⟨gx,0,none⟩) k k).ownBlock≠some g) v1 (-q):=hO.cJ fun g hg=>by
    rcases hg with hg|hg
    ·exact hg.elim
    ·have hB:=r.cF;have:=Rel.old r hS gx (yE (hX.new gx rfl));refine⟨.inr ⟨by omega,_,_,aG,hg.1,hg.2⟩,fun e=>?_⟩;have e2:gx=_:=Option.some.inj e;omega
   replace hX:=hX.cG (iv':=(wa.heap.size,wb.heap.size)::Pb) r (cC w) he fun x hx=>List.mem_cons_of_mem _ hx;have Rw:∀g,Cv S w.heap.size OW g->wb.heap[g]? =w5.heap[g]? :=fun g hg=>by rw[he.block g (Rel.old r hS g (hg.mono Ov)),Rel.same r hS (hg.mono Ov)]
   replace hA:=dK.cI hA Rw;replace hP:=gO.cI hP fun g hg=>Rw g (yE hg);replace hK:=hK.cI fun g hg=>Rw g (yE hg);replace hw:=hw.tr hb;replace Ov:∀p,p∈OW->p∈(wa.heap.size,wb.heap.size)::Pb:=fun p hp=>List.mem_cons_of_mem _ (Ov p hp);generalize (wa.heap.size,wb.heap.size)::Pb=Qk at*
   obtain⟨b1,a1,n1,c1,b2,a2,n2,c2,rfl⟩:=hON.shape;refine⟨⟨gx,0,none⟩,rfl,by omega,?_⟩;intro O w' r;obtain⟨_,S4,h1,h2',h3,h4,h5⟩:=(hX.rel r (cC w)).store VE (cS.cI hON fun g hg=>Rel.same r (cC w) hg.1) r (cC w);injection S4 with S4;injection S4 with S4;subst S4;have Rw:∀g,Cv S w.heap.size OW g->w'.heap[g]? =wb.heap[g]? :=fun g hg=>Rel.same r hS (hg.mono Ov);replace hw:=hw.tr r.cQ;have hold:∀g,Cv S w.heap.size Qk g->g<w'.heap.size:=Rel.old r hS;refine⟨h1,h2',h3,fun w2 PN=>?_⟩;obtain⟨hX,Pc,-⟩:=h5 w2 PN;have UG:∀g,Cv S w.heap.size OW g->w2.heap[g]? =wb.heap[g]? :=fun g hg=>by
    rw[<-Rw g hg];exact Pc.block g (hold g (hg.mono Ov)) fun e=>by injection e with e;subst e;exact Qe hg
   replace hA:=dK.cI hA UG;replace hP:=gO.cI hP fun g hg=>UG g (yE hg);replace hK:=hK.cI fun g hg=>UG g (yE hg);replace hw:dm w.heap.size w w2:=hw.tr (dm.grown Pc (fun g hg=>by injection hg with hg;subst hg;exact Wt) (by have:=hw.size;omega));rw[<-QV,<-hpd,<-gX]at hX;refine⟨((i+1:Nat):Int),wo,?_⟩;intro ρ3 w3 r3;have Rw:∀g,Cv S w.heap.size OW g->w3.heap[g]? =w2.heap[g]? :=fun g hg=>Rel.same r3 hS (hg.mono Ov)
   exact⟨(i+1,gx,w3,Qk),⟨Qh,hw.tr r3.cQ,Ov,Qe,Wt,dK.cI hA Rw,gO.cI hP fun g hg=>Rw g (yE hg),hK.cI fun g hg=>Rw g (yE hg),hX.rel r3 (cC w)⟩,
    Sub.gn [] r3,by dsimp only;omega⟩
  have Qh:i=pv.length:=aP hi (by simpa using Qh);subst Qh;have hnr:cN w5 (Cf w Pb) (.slice (some ⟨gx,0,none⟩) k k) (fo A pv k c pv.length):=hX.aBD;have RE:dQ w5 (Cf w Pb) (rv++[.slice (some ⟨gx,0,none⟩) k k]) (eE A pv k (c+1)):=by
   rw[vL hm];exact(hK.cJ fun g hg=>hg.mono Ov).push rfl hnr
  replace hA:=dK.cJ hA fun g hg=>hg.mono Ov;replace hP:=dC.cJ hP fun g hg=>hg.mono Ov;have hK:=RE;refine .inl ?_;refine⟨by simp,by omega,by unfold maxLen;omega,((c+1:Nat):Int),wo,?_⟩;intro ρ3 w3 r3;exact⟨(c+1,(rv++[.slice (some ⟨gx,0,none⟩) k k]),w3,_),⟨OI,by simp;omega,hw.tr r3.cQ,dK.rel hA r3 hS,dC.rel hP r3 (cC w),by dsimp only;rw[show c+1=c+1 from rfl];exact hK.rel r3 (cC w)⟩,Sub.gn [(0,3)] r3 (hE:=⟨rfl,rfl,rfl,by dsimp only;rw[List.length_append,List.length_singleton];rfl,rfl,trivial⟩),by dsimp only;omega⟩
 have OI:c=cols:=aP hc (by simpa using OI);subst OI;intro ρe we re;refine⟨_,rfl,hw.tr re.cQ,rv,?_,hK.1,fun i u x h1 h2=>cN.out (hK.2.2 i u x h1 h2) re (cC w)⟩;have:=re.iC (id:=0) (sz:=1) (m:=rv.length) rfl (by rw[aU]) (by unfold maxLen;omega) (by decide) hK.2.1;rw[<-hK.1];exact this.cJ fun g hg=>.inr hg
theorem KJ(hS:Old S w)(h:jP w S v M)(hL:dK w S v (fY M))(hu:cX w S u (b.map iQ))(QH:∀r∈M,r.length=eU M)(Pr:b.length=M.length)(hR:M.length<=1000)(hn:eU M<=999)
  (hB:∀c,c<=eU M->Ht (cM (dL (fY M) (b.map iQ)) c).1 h0) (hh:3*h0<=90000):
  eD PG N.qV #[v,u] w (eG w fun v' w2=>(∃j,(cM (dL (fY M) (b.map iQ)) (eU M)).2.length<=j∧j<M.length∧dF (cM (dL (fY M) (b.map iQ)) (eU M)).1 j (eU M)≠0∧v'= .tuple #[.slice none 0 0,.bool false])∨
   ((∀j,(cM (dL (fY M) (b.map iQ)) (eU M)).2.length<=j->j<M.length->dF (cM (dL (fY M) (b.map iQ)) (eU M)).1 j (eU M)=0)∧∃vx,v'= .tuple #[vx,.bool true]∧cN w2 (Nf w w2) vx (gA (cM (dL (fY M) (b.map iQ)) (eU M)).1 (cM (dL (fY M) (b.map iQ)) (eU M)).2 (eU M) (cM (dL (fY M) (b.map iQ)) (eU M)).2.length))):=by
 have hw:=bR w;have Ql:(fY M).length=M.length:=by simp[fY]
 have Wu:fZ (eU M) (fY M):=fun r hr=>by
  rw[fY]at hr;obtain⟨x,hx,rfl⟩:=aT.1 hr;rw[aJ];exact QH x hx
 have hlen:=gI (b:=b.map iQ) Wu;have Tn:(dL (fY M) (b.map iQ)).length=M.length:=by rw[dy,Ql]
 replace h:=jP.arg h [];replace hL:=dK.arg hL [];replace hu:=cX.arg hu [];obtain⟨am,cm,rfl,SC,SA⟩:=c9.shape h;obtain⟨ab,cb,rfl,QG,-⟩:=dH.shape hu;refine Ax (by simp) ?_;refine cD (cE hw (fun _ w' v w2=>v= .int .i64 (eU M)) (fun O w' r=>BW (Rel.old r hS) (jP.rel h r hS)) ?_);rintro O _ v1 _ OP r he hw h_ rfl;replace hL:=dK.cG hL r hS he (mC h_);replace hu:=cX.cG hu r hS he (mC h_);refine cD (cO (Φ:=fun _ w' v w2=>dK w2 (Nw (Cv S w.heap.size OP) w' w2) v (dL (fY M) (b.map iQ))) (fun O w' r=>ML (Rel.old r hS) (dK.rel hL r hS) (cX.rel hu r hS) (by rw[aJ,Ql];exact Pr) (fun r hr=>by rw[Wu r hr];omega) (by omega)) ?_);rintro O QB v2 PI r he hb hn;replace hw:=hw.tr hb;have hW:=dK.old hn r.cF;generalize (QB.heap.size,PI.heap.size)::OP=ON at*
 refine cD (cO (Φ:=fun _ w' v w2=>∃vm vp,v= .tuple #[vm,vp]∧dK w2 (Nw (Cv S w.heap.size ON) w' w2) vm (cM (dL (fY M) (b.map iQ)) (eU M)).1∧dC w2 (Nf w' w2) vp (cM (dL (fY M) (b.map iQ)) (eU M)).2) (fun O w' r=>yG (Rel.old r hS) (dK.rel hW r hS) hlen (by omega) (by omega) (by omega) hB hh) ?_);rintro O PX v3 PT r he hb ⟨vm,vp,rfl,k1,k2⟩;replace hw:=hw.tr hb;have hA:=dK.old k1 r.cF;have hP:=dC.dB (S:=FF) k2 r.cF (iv:=(PX.heap.size,PT.heap.size)::ON) aG;generalize (PX.heap.size,PT.heap.size)::ON=OU at*
 obtain⟨aA,cA,rfl,hcA,-⟩:=c9.shape hA;have hPs:=hP;obtain⟨-,-,-,ap,cp,rfl,hcp,-⟩:=hPs;have hAl:=dq (dL (fY M) (b.map iQ)) (eU M);obtain⟨-,Pe,-,RQ,-⟩:=dV hlen (eU M) (by omega);rw[hAl]at Pe;have hAh:=hB (eU M) (aF _);have VD:=xe (cols:=eU M) hlen;rw[Tn]at hAl Pe;generalize (cM (dL (fY M) (b.map iQ)) (eU M)).1=A at*
 generalize (cM (dL (fY M) (b.map iQ)) (eU M)).2=pv at*
 generalize eU M=cols at*
 rw[<-hAl]at hR Pe ⊢
 refine⟨cols,cols,rfl,rfl,aF _,by omega,by omega,Nat×List (List Value)×World×Iv,fun z=>⟨[(6,iZ cols),(7,sV aA A.length cA),(8,sV ap pv.length cp),(9,.o (.s 0 0 cols cols)),(10,iN z.1)],[(0,.arr T.Rat z.2.1.flatten)],1,z.2.2.2,z.2.2.1⟩,fun z=>cols-z.1,
  fun z=>z.1<=cols∧z.2.1.length=cols∧(∀x∈z.2.1,x.length=4)∧dm w.heap.size w z.2.2.1∧dK z.2.2.1 (Cv S w.heap.size z.2.2.2) (.slice aA A.length cA) A∧dC z.2.2.1 (Cf w z.2.2.2) (.slice ap pv.length cp) pv∧
   jM z.2.2.1 (Cf w z.2.2.2) z.2.1 z.1,?_,?_⟩
 ·intro O w' r
  exact⟨(0,List.replicate cols [.bool false,.slice none 0 0,.bool false,.slice none 0 0],w',OU),⟨aO _,by simp,fun x hx=>by rw[bH hx];rfl,hw.tr r.cQ,dK.rel hA r hS,dC.rel hP r (cC w),fun j cs hj=>by dsimp only at hj;omega⟩,
   Sub.gn [] r⟩
 rintro⟨k,css,w2,iv⟩ ⟨hk,PQ,RL,hw,hA,hP,hz⟩;dsimp only at hk PQ RL hw hA hP hz ⊢;refine dI.mk ?_ ?_<;>intro OL
 ·have OL:k<cols:=by simpa using OL
  refine cD (cE hw (fun _ w' v w2=>cS w2 (Nf w' w2) v (0)) (fun O w' r=>(show ((0:Int):Rat)=0 from rfl)▸nE 0 w' (by decide) (by decide)) ?_);rintro O _ _ _ OW r he hw h_ hn;replace hA:=dK.cG hA r hS he (mC h_);replace hP:=dC.cG hP r (cC w) he (mC h_);replace hz:=hz.cG r (cC w) he (mC h_);have h_0:=hn.dB (S:=FF) r.cF (mN h_);obtain⟨A0,A1,A2,A3,A4,A5,A6,A7,rfl⟩:=h_0.shape;refine⟨by omega,?_⟩;have OY:=eK RL;refine⟨by rw[aE,OY];omega,(css.set k [.bool A0,.slice A1 A2 A3,.bool A4,.slice A5 A6 A7]).flatten,by rw[aE,aS];exact iy (css:=css) (j:=k) RL (by omega),((k+1:Nat):Int),wo,?_⟩;intro ρ3 w3 r3
  exact⟨(k+1,css.set k [.bool A0,.slice A1 A2 A3,.bool A4,.slice A5 A6 A7],w3,_),⟨OL,by simp[PQ],GV RL rfl,hw.tr r3.cQ,dK.rel hA r3 hS,dC.rel hP r3 (cC w),(hz.rel r3 (cC w)).push (h_0.rel r3 (cC w)).pW⟩,
   Sub.gn [] r3,by dsimp only;omega⟩
 have OL:k=cols:=aP hk (by simpa using OL);subst OL;have hFc:Fc w2 (Cf w iv) css (gA A pv k 0):=by
  refine⟨by rw[PQ,jU],fun j cs q h1 h2=>?_⟩;have hj:=(aD.1 h1).1;simp only[gA,List.range_zero,List.foldl_nil,List.getElem?_replicate]at h2;split at h2
  ·injection h2 with h2;rw[<-h2];exact hz j cs (by omega) h1
  ·cases h2
 refine⟨Nat×Nat×World×Iv,fun z=>⟨[(9,.o (.v (.slice (some ⟨z.2.1,0,none⟩) k k))),(6,iZ k),(7,sV aA A.length cA),(8,sV ap pv.length cp),(11,iN z.1)],[],1,z.2.2.2,z.2.2.1⟩,fun z=>A.length-z.1,
  fun z=>z.1<=A.length∧(∀j,pv.length<=j->j<z.1->dF A j k=0)∧dm w.heap.size w z.2.2.1∧(∀p,p∈iv->p∈z.2.2.2)∧¬Cv S w.heap.size iv z.2.1∧w.heap.size<=z.2.1∧dK z.2.2.1 (Cv S w.heap.size iv) (.slice aA A.length cA) A∧dC z.2.2.1 (Cf w iv) (.slice ap pv.length cp) pv∧
   df z.2.2.1 FF w.heap.size z.2.2.2 (.slice (some ⟨z.2.1,0,none⟩) k k) k (gA A pv k (min z.1 pv.length)),?_,?_⟩
 ·intro O w' r
  exact⟨(0,(O 0).g,w',((O 0).g,(O 0).g+1)::iv),⟨aO _,fun j h3 h4=>by dsimp only at h4;omega,hw.tr r.cQ,fun p hp=>List.mem_cons_of_mem _ hp,fun hg=>Rel.not r hS hg 0 _ rfl (r.fits (id:=0) rfl).1 rfl,(r.low 0 _ rfl (r.fits (id:=0) rfl).1).1,dK.rel hA r hS,dC.rel hP r (cC w),by dsimp only;rw[Nat.zero_min];exact df.kD r (id:=0) rfl PQ (by unfold maxLen;omega) hFc⟩,
   Sub.kD r (id:=0) (t:=9) rfl rfl trivial rfl ⟨rfl,rfl,rfl,rfl,trivial⟩ (by simp[jQ,SV.sc,At.sc])⟩
 rintro⟨i,gx,w5,Pb⟩ ⟨hi,hzr,hw,Ov,Qe,Wt,hA,hP,hX⟩;dsimp only at hi hzr hw Ov Qe Wt hA hP hX ⊢;refine dI.mk ?_ ?_<;>intro Qh
 ·have Qh:i<A.length:=by simpa using Qh
  obtain⟨ra,hra⟩:∃r,A[i]? =some r:=⟨_,aB (by omega)⟩
  have hral:=VD ra (aC hra);obtain⟨adm,um,QE,Oj,km1,km2⟩:=c9.load hA hra;obtain⟨au,cu,rfl,hcu,-⟩:=dH.shape Oj;obtain⟨q,hq⟩:∃q,ra[k]? =some q:=⟨_,aB (by omega)⟩
  have QV:dF A i k=q:=by simp[dF,List.getD,hra,hq]
  obtain⟨adq,cs,RP,hF,_,hl⟩:=dH.load Oj hq;obtain⟨b3,a3,n3,c3,b4,a4,n4,c4,rfl,hF⟩:=hF;have RS:∀{H nx O w'},Rel H nx Pb w.heap.size w5 O w'->∀{g},Cv S w.heap.size iv g->w'.heap[g]? =w5.heap[g]? :=fun r g hg=>Rel.same r hS (hg.mono Ov);refine dI.mk ?_ ?_<;>intro Wv
  ·have Wv:i<pv.length:=by simpa using Wv
   obtain⟨p,Um⟩:∃p,pv[i]? =some p:=⟨_,aB Wv⟩
   have hpd:pv.getD i 0=p:=by simp[List.getD,Um]
   have VE:=RQ p (aC Um);have hPs:=hP;obtain⟨_,_,_,_,_,hpe,_,Ta⟩:=hPs;injection hpe with VF hpe2 VG;subst VF VG;obtain⟨adp,RO,kp1,kp2⟩:=Ta i (.int .i64 (p:Int)) (by rw[aM,Um];rfl);rw[Nat.min_eq_left (by omega)]at hX;refine cK hτ da [.x 0,.x 1,.x 2,.x 3,.x 4,.x 5,.x 6,.x 7,.x 8,.x 9,.x 10,.x 11,.x 12,.x 13,.x 14] (by kernel_rfl) (by kernel_rfl) ?_;refine⟨adp,RO,by omega,.int .i64 (p:Int),fun O w' r=>?_,?_⟩
   ·rw[aE,aU,cH (w:=w5) (w2:=w') (by rw[dD];exact RS r (yE kp1))];exact kp2
   refine⟨adm,QE,by omega,.slice au ra.length cu,fun O w' r=>?_,?_⟩
   ·rw[aE,cH (w:=w5) (w2:=w') (by rw[dD];exact RS r km1)];exact km2
   refine⟨adq,RP,by omega,[.bool b3,.slice a3 n3 c3,.bool b4,.slice a4 n4 c4],rfl,fun O w' r j u hu=>?_,?_⟩
   ·obtain⟨k1,k2⟩:=hl j u hu;rw[aE,cH (w:=w5) (w2:=w') (by rw[dD,dD];exact RS r k1)];exact k2
   refine cO (Φ:=fun _ w' v w2=>cS w2 (Nf w' w2) v q) (fun O w' r=>gF (fun g hg=>Rel.old r hS g (hg.mono Ov)) (hF.cI fun g hg=>RS r hg)) ?_;rintro O wa v1 wb r he hb hO;have hON:cS wb (fun g=>Cf w ((wa.heap.size,wb.heap.size)::Pb) g∧(Value.slice (some ⟨gx,0,none⟩) k k).ownBlock≠some g) v1 q:=hO.cJ fun g hg=>by
    rcases hg with hg|hg
    ·exact hg.elim
    ·have hB:=r.cF;have:=Rel.old r hS gx (yE (hX.new gx rfl));refine⟨.inr ⟨by omega,_,_,aG,hg.1,hg.2⟩,fun e=>?_⟩;have e2:gx=_:=Option.some.inj e;omega
   replace hX:=hX.cG (iv':=(wa.heap.size,wb.heap.size)::Pb) r (cC w) he fun x hx=>List.mem_cons_of_mem _ hx;have Rw:∀g,Cv S w.heap.size iv g->wb.heap[g]? =w5.heap[g]? :=fun g hg=>by rw[he.block g (Rel.old r hS g (hg.mono Ov)),Rel.same r hS (hg.mono Ov)]
   replace hA:=dK.cI hA Rw;replace hP:=gO.cI hP fun g hg=>Rw g (yE hg);replace hw:=hw.tr hb;replace Ov:∀p,p∈iv->p∈(wa.heap.size,wb.heap.size)::Pb:=fun p hp=>List.mem_cons_of_mem _ (Ov p hp);generalize (wa.heap.size,wb.heap.size)::Pb=Qk at*
   obtain⟨b1,a1,n1,c1,b2,a2,n2,c2,rfl⟩:=hON.shape;refine⟨⟨gx,0,none⟩,rfl,by omega,?_⟩;intro O w' r;obtain⟨_,S4,h1,h2',h3,h4,h5⟩:=(hX.rel r (cC w)).store VE (cS.cI hON fun g hg=>Rel.same r (cC w) hg.1) r (cC w);injection S4 with S4;injection S4 with S4;subst S4;have Rw:∀g,Cv S w.heap.size iv g->w'.heap[g]? =wb.heap[g]? :=fun g hg=>Rel.same r hS (hg.mono Ov);replace hw:=hw.tr r.cQ;have hold:∀g,Cv S w.heap.size Qk g->g<w'.heap.size:=Rel.old r hS;refine⟨h1,h2',h3,fun w2 PN=>?_⟩;obtain⟨hX,Pc,-⟩:=h5 w2 PN;have UG:∀g,Cv S w.heap.size iv g->w2.heap[g]? =wb.heap[g]? :=fun g hg=>by
    rw[<-Rw g hg];exact Pc.block g (hold g (hg.mono Ov)) fun e=>by injection e with e;subst e;exact Qe hg
   replace hA:=dK.cI hA UG;replace hP:=gO.cI hP fun g hg=>UG g (yE hg);replace hw:dm w.heap.size w w2:=hw.tr (dm.grown Pc (fun g hg=>by injection hg with hg;subst hg;exact Wt) (by have:=hw.size;omega));rw[<-QV,<-hpd,<-gY]at hX;refine⟨((i+1:Nat):Int),wo,?_⟩;intro ρ3 w3 r3;have Rw:∀g,Cv S w.heap.size iv g->w3.heap[g]? =w2.heap[g]? :=fun g hg=>Rel.same r3 hS (hg.mono Ov)
   exact⟨(i+1,gx,w3,Qk),⟨Qh,fun j h3 h4=>by dsimp only at h4;omega,hw.tr r3.cQ,Ov,Qe,Wt,dK.cI hA Rw,gO.cI hP fun g hg=>Rw g (yE hg),by dsimp only;rw[Nat.min_eq_left (by omega)];exact hX.rel r3 (cC w)⟩,
    Sub.gn [] r3,by dsimp only;omega⟩
  have Wv:pv.length<=i:=by have:=aH Wv;omega
  refine⟨adm,QE,by omega,.slice au ra.length cu,fun O w' r=>?_,?_⟩
  ·rw[aE,cH (w:=w5) (w2:=w') (by rw[dD];exact RS r km1)];exact km2
  refine⟨adq,RP,by omega,[.bool b3,.slice a3 n3 c3,.bool b4,.slice a4 n4 c4],rfl,fun O w' r j u hu=>?_,?_⟩
  ·obtain⟨k1,k2⟩:=hl j u hu;rw[aE,cH (w:=w5) (w2:=w') (by rw[dD,dD];exact RS r k1)];exact k2
  refine cD (cO (Φ:=fun _ w' v w2=>v= .int .i64 (rs q)) (fun O w' r=>jb (fun g hg=>Rel.old r hS g (hg.mono Ov)) (hF.cI fun g hg=>RS r hg)) ?_);rintro O wa v1 wb r he hb rfl;replace hX:=hX.cG (iv':=(wa.heap.size,wb.heap.size)::Pb) r (cC w) he fun x hx=>List.mem_cons_of_mem _ hx;have Rw:∀g,Cv S w.heap.size iv g->wb.heap[g]? =w5.heap[g]? :=fun g hg=>by rw[he.block g (Rel.old r hS g (hg.mono Ov)),Rel.same r hS (hg.mono Ov)]
  replace hA:=dK.cI hA Rw;replace hP:=gO.cI hP fun g hg=>Rw g (yE hg);replace hw:=hw.tr hb;replace Ov:∀p,p∈iv->p∈(wa.heap.size,wb.heap.size)::Pb:=fun p hp=>List.mem_cons_of_mem _ (Ov p hp);generalize (wa.heap.size,wb.heap.size)::Pb=Qk at*
  refine dI.mk ?_ ?_<;>intro hs
  ·have hs:q≠0:=fun e=>by rw[kg.2 e]at hs;exact absurd hs (by decide)
   exact rtn hw fun ρe we re=>.inl ⟨i,Wv,Qh,by rw[QV];exact hs,rfl⟩
  have hs:q=0:=kg.1 (by simpa using hs);refine⟨((i+1:Nat):Int),wo,?_⟩;intro ρ3 w3 r3;have Rw:∀g,Cv S w.heap.size iv g->w3.heap[g]? =wb.heap[g]? :=fun g hg=>Rel.same r3 hS (hg.mono Ov)
  exact⟨(i+1,gx,w3,Qk),⟨Qh,fun j h3 h4=>by
    by_cases hj:j=i
    ·rw[hj,QV,hs]
    ·exact hzr j h3 (by dsimp only at h4;omega),hw.tr r3.cQ,Ov,Qe,Wt,dK.cI hA Rw,gO.cI hP fun g hg=>Rw g (yE hg),by dsimp only;rw[Nat.min_eq_right (by omega),<-Nat.min_eq_right Wv];exact hX.rel r3 (cC w)⟩,
   Sub.gn [] r3,by dsimp only;omega⟩
 have Qh:i=A.length:=aP hi (by simpa using Qh);subst Qh;rw[Nat.min_eq_right Pe]at hX;intro ρe we re;refine⟨_,rfl,hw.tr re.cQ,.inr ⟨hzr,_,rfl,?_⟩⟩;exact cN.out hX.aBD re (cC w)
section
variable{S:Nat->Prop}{H:Hp}{nx:Nat}{iv iv':Iv}{B:Nat}{w w' w2:World}{O:Nat->Sx.di}{css:List (List Value)}{qs:List Rat}
theorem Fc.rel(h:Fc w (Cv S B iv) css qs)(r:Rel H nx iv B w O w')(hS:∀g,S g->g<B):Fc w' (Cv S B iv) css qs:=h.cI fun _ hg=>Rel.same r hS hg
theorem Fc.cG(h:Fc w (Cv S B iv) css qs)(r:Rel H nx iv B w O w')(hS:∀g,S g->g<B)(he:Ext w' w2)(hm:∀p,p∈iv->p∈iv'):Fc w2 (Cv S B iv') css qs:=
 ((h.rel r hS).cI fun g hg=>he.block g (Rel.old r hS g hg)).cJ fun _ hg=>hg.mono hm
theorem Fc.push(h:Fc w S css qs)(hc:iB w S cs q):Fc w S (css++[cs]) (qs++[q]):=by
 refine⟨by simp[h.1],fun j x p h1 h2=>?_⟩;rcases aQ j css.length with hi|hi
 ·rw[aL hi]at h1;rw[aL (by rw[<-h.1];exact hi)]at h2;exact h.2 j x p h1 h2
 ·have Rp:j=css.length:=by have:=(aD.1 h1).1;simp at this;omega
  subst Rp;rw[aN (aF _),bL]at h1;rw[h.1,aN (aF _),bL]at h2;simp at h1 h2;subst h1 h2;exact hc
end
section
variable{S S':Nat->Prop}{H:Hp}{nx:Nat}{iv iv':Iv}{B:Nat}{w w' w2:World}{O:Nat->Sx.di}{v:Value}{b:List (Int×Int)}
end
def jY(qs:List Rat):List (Int×Int):=qs.map fun q=>(q.num,(q.den:Int))
theorem xJ(qs:List Rat):(jY qs).length=qs.length:=aJ ..
theorem nG(qs:List Rat):(jY qs).map iQ=qs:=by
 unfold jY;rw[List.map_map];exact(List.map_congr_left fun q _=>pK q).trans (List.map_id qs)
theorem BY(K:List (List Rat)):fY (K.map jY)=K:=by
 unfold fY;rw[List.map_map];exact(List.map_congr_left fun q _=>nG q).trans (List.map_id K)
theorem cN.jY(h:cN w S v qs):qw w S v (jY qs):=by
 obtain⟨css,h1,h2,h3,h4⟩:=h;refine⟨css,by unfold Go.Ex.jY;rw[aJ];exact h1,by unfold Go.Ex.jY;rw[aJ];exact h2,h3,fun j cs x k1 k2=>?_⟩;unfold Go.Ex.jY at k2;rw[aM]at k2;obtain⟨q,hq,rfl⟩:=Option.map_eq_some_iff.1 k2;obtain⟨b,a,n,c,b2,a2,n2,c2,rfl,hr⟩:=h4 j cs q k1 hq;exact hr.four
theorem cR.jY(h:cR w S v K):jP w S v (K.map jY):=by
 obtain⟨rv,h1,h2,h3⟩:=h;refine⟨rv,by rw[aJ];exact h1,by rw[aJ];exact h2,fun i u x k1 k2=>?_⟩;rw[aM]at k2;obtain⟨q,hq,rfl⟩:=Option.map_eq_some_iff.1 k2;exact(h3 i u q k1 hq).jY
section
variable{S:Nat->Prop}{w:World}{v u:Value}{M:List (List (Int×Int))}{b:List (Int×Int)}
end
theorem cR.l(h:cR w S v K)(hq:∀r∈K,∀q∈r,rl q<=100000):dK w S v K:=by
 obtain⟨rv,h1,h2,h3⟩:=h;exact⟨rv,h1,h2,fun i u x k1 k2=>(h3 i u x k1 k2).l (hq x (aC k2))⟩
theorem eS.zero:eS w S (.agg #[.bool false,.slice none 0 0,.bool false,.slice none 0 0]) 0:=
 ⟨_,_,_,_,0,0,rfl,⟨false,[],⟨_,rfl,dP.nil _ _⟩,rfl,aO _⟩,⟨false,[],⟨_,rfl,dP.nil _ _⟩,rfl,aO _⟩,by decide⟩
section
variable{S:Nat->Prop}{w:World}{v u:Value}{M:List (List (Int×Int))}{x:List Rat}
end
theorem jn(q:Rat):rs (q-0)=rs q:=by rw[show q-0=q by grind]
theorem kC(n:Int)(w:World)(h1n: -9223372036854775808<=n)(h2n:n<=9223372036854775807):eD PG N.sK #[.int .i64 n] w (eG w fun v' w2=>cS w2 (Nf w w2) v' (n:Rat)):=by
 have hw:=bR w;refine wh (by simp) ?_;refine cD (cE hw (fun _ w' v w2=>cS w2 (Nf w' w2) v ((n:Rat))) (fun O w' r=>Hb n w' h1n h2n) ?_);rintro O _ _ _ OP r he hw h_ hn;have hd:=hn.dB (S:=FF) r.cF (mN h_);obtain⟨A0,A1,A2,A3,A4,A5,A6,A7,rfl⟩:=hd.shape;exact rtn hw fun ρe we re=>hd.out re (cC w)
theorem rS(hS:Old S w)(hq:eS w S v q):eD PG N.ud #[v] w (eG w fun v' _=>∃d,v'= .bool d∧(d=true↔q=0)):=by
 have hw:=bR w;obtain⟨f0,f1,f2,f3,f4,f5,f6,f7,rfl⟩:=hq.shape;refine ye (by simp) ?_;refine cD (cE hw (fun _ w' v w2=>v= .int .i64 (rs q)) (fun O w' r=>(xB (oS hS r) (hq.v.cI (kS hw r hS)) (eS.zero (S:=S)).v).mono fun _ _ ⟨v2,e1,e2,e3⟩=>⟨v2,e1,e2,by rw[e3,jn]⟩) ?_);rintro O _ _ _ OP r he hw h_ rfl;intro ρe we re;refine⟨_,rfl,hw.tr re.cQ,_,rfl,?_⟩;rw[beq_iff_eq];exact kg
theorem aA1(hS:Old S w)(hp:eS w S v p)(hq:eS w S u q)(h0:q≠0):eD PG N.xn #[v,u] w (eG w fun v' w2=>cS w2 (Nf w w2) v' (p / q)):=by
 have hw:=bR w;obtain⟨f0,f1,f2,f3,f4,f5,f6,f7,rfl⟩:=hp.shape;obtain⟨g0,g1,g2,g3,g4,g5,g6,g7,rfl⟩:=hq.shape;refine Ay (by simp) ?_;refine cD (cE hw (fun _ w' v w2=>∃r,v= .tuple #[r,.int .i64 0]∧cS w2 (Nf w' w2) r (p / q)) (fun O w' r=>(aA2 (oS hS r) (hp.v.cI (kS hw r hS)) (hq.v.cI (kS hw r hS))).mono fun _ _ ⟨v2,e1,e2,e3⟩=>⟨v2,e1,e2,e3.elim (fun h=>absurd h.1 h0) fun h=>h.2⟩) ?_);rintro O _ _ _ OP r he hw h_ ⟨q1,rfl,k1⟩;have hd:=k1.dB (S:=FF) r.cF (mN h_);obtain⟨s1_0a,s1_0b,s1_0c,s1_0d,s1_0e,s1_0f,s1_0g,s1_0h,rfl⟩:=hd.shape;exact rtn hw fun ρe we re=>hd.out re (cC w)
theorem Lu(hS:Old S w)(hq:eS w S v q):eD PG N.xw #[v] w (eG w fun v' w2=>cS w2 (Nf w w2) v' (-q)):=by
 have hw:=bR w;obtain⟨f0,f1,f2,f3,f4,f5,f6,f7,rfl⟩:=hq.shape;refine BE (by simp) ?_;refine cD (cE hw (fun _ w' v w2=>cS w2 (Nf w' w2) v (-q)) (fun O w' r=>(Lv (oS hS r) (eS.zero (S:=S)).v (hq.v.cI (kS hw r hS))).mono fun _ _ ⟨v2,e1,e2,e3⟩=>⟨v2,e1,e2,by rwa [show (0:Rat)-q= -q by grind]at e3⟩) ?_);rintro O _ _ _ OP r he hw h_ hn;have hd:=hn.dB (S:=FF) r.cF (mN h_);obtain⟨A0,A1,A2,A3,A4,A5,A6,A7,rfl⟩:=hd.shape;exact rtn hw fun ρe we re=>hd.out re (cC w)
theorem Lw(hS:Old S w)(hx:cX w S v xs)(hy:cX w S u ys)(hl:xs.length<=ys.length)(hqx:∀q∈xs,rl q+1<=h)(hqy:∀q∈ys,rl q+1<=h)(h2:2<=h)(hb:2*h*xs.length<=90000):
  eD PG N.xo #[v,u] w (eG w fun v' w2=>cS w2 (Nf w w2) v' (fQ xs ys xs.length)):=by
 have hw:=bR w;obtain⟨ax,cx,rfl,Wm,hmx⟩:=dH.shape hx;obtain⟨ay,cy,rfl,hcy,-⟩:=dH.shape hy;unfold maxLen at hmx;refine Az (by simp) ?_;refine cD (cE hw (fun _ w' v w2=>cS w2 (Nf w' w2) v (((0:Int):Rat))) (fun O w' r=>kC 0 w' (by decide) (by decide)) ?_);rintro O _ _ _ OP r he hw h_ hn;have hd:=hn.dB (S:=FF) r.cF (mN h_);obtain⟨A0,A1,A2,A3,A4,A5,A6,A7,rfl⟩:=hd.shape;rw[show ((0:Int):Rat)=fQ xs ys 0 from rfl]at hd
 refine⟨Nat×(Bool×Bool)×(Option Addr×Option Addr)×(Nat×Nat×Nat×Nat)×World×Iv,fun z=>⟨[(1,sV ay ys.length cy),(4,pP 0 0),(5,pP 1 0),(9,sV ax xs.length cx),(10,iZ xs.length),(11,iN z.1)],[(1,.box T.Rat [.v (.bool z.2.1.1),.v (.slice z.2.2.1.1 z.2.2.2.1.1 z.2.2.2.1.2.1),.v (.bool z.2.1.2),.v (.slice z.2.2.1.2 z.2.2.2.1.2.2.1 z.2.2.2.1.2.2.2)]),(0,.box T.Rat [.v (.bool false),.v (.slice none 0 0),.v (.bool false),.v (.slice none 0 0)])],2,z.2.2.2.2.2,z.2.2.2.2.1⟩,fun z=>xs.length-z.1,
  fun z=>z.1<=xs.length∧dm w.heap.size w z.2.2.2.2.1∧cS z.2.2.2.2.1 (Cf w z.2.2.2.2.2) (.agg #[.bool z.2.1.1,.slice z.2.2.1.1 z.2.2.2.1.1 z.2.2.2.1.2.1,.bool z.2.1.2,.slice z.2.2.1.2 z.2.2.2.1.2.2.1 z.2.2.2.1.2.2.2]) (fQ xs ys z.1),?_,?_⟩
 ·intro O w' r;exact⟨(0,(A0,A4),(A1,A5),(A2,A3,A6,A7),w',OP),⟨by simp,hw.tr r.cQ,hd.rel r (cC w)⟩,Sub.gn [] r⟩
 rintro⟨i,⟨p0,p4⟩,⟨p1,p5⟩,⟨p2,p3,p6,p7⟩,w1,iv⟩ ⟨hi,hw,hd⟩;dsimp only at hi hw hd ⊢;refine dI.mk ?_ ?_<;>intro OI
 ·have OI:i<xs.length:=by simpa using OI
  have hs:=BM hqx hqy h2 i;have Qq:2*h*i<=2*h*xs.length:=bc _ hi;have hs3:2*h*1<=2*h*xs.length:=bc _ (by omega);obtain⟨x,Ps⟩:∃x,xs[i]? =some x:=⟨_,aB OI⟩
  obtain⟨y,To⟩:∃x,ys[i]? =some x:=⟨_,aB (by omega)⟩
  have hx3:=hqx x (aC Ps);have hy3:=hqy y (aC To);have SD:xs.getD i 0=x:=by rw[List.getD,Ps];rfl
  have hy2:ys.getD i 0=y:=by rw[List.getD,To];rfl
  have hm:=j9 x y;obtain⟨adx,csx,PS,Rs,-,Oo⟩:=dH.load hx Ps;obtain⟨ady,csy,UW,SN,-,Qb⟩:=dH.load hy To;obtain⟨f0,f1,f2,f3,f4,f5,f6,f7,rfl,Rs⟩:=Rs;obtain⟨q0,q1,q2,q3,q4,q5,q6,q7,rfl,SN⟩:=SN;refine⟨adx,PS,by omega,[.bool f0,.slice f1 f2 f3,.bool f4,.slice f5 f6 f7],rfl,rdO Oo hw hS,?_⟩;refine cD (cE hw (fun _ w' v w2=>∃d,v= .bool d∧(d=true↔x=0)) (fun O w' r=>rS (oS hS r) (Rs.cI (kS hw r hS))) ?_);rintro O _ _ _ ON r he hw h_ ⟨d1,rfl,OV⟩;replace hd:=hd.cG r (cC w) he (mC h_)
  cases d1
  ·refine⟨ady,UW,by omega,[.bool q0,.slice q1 q2 q3,.bool q4,.slice q5 q6 q7],rfl,rdO Qb hw hS,?_⟩;refine cD (cE hw (fun _ w' v w2=>∃d,v= .bool d∧(d=true↔y=0)) (fun O w' r=>rS (oS hS r) (SN.cI (kS hw r hS))) ?_);rintro O _ _ _ OU r he hw h_ ⟨d2,rfl,Ot⟩;replace hd:=hd.cG r (cC w) he (mC h_)
   cases d2
   ·refine cK hτ da [.x 0,.x 1,.x 2,.x 3,.x 4,.x 5,.x 6,.x 7,.x 8] (by kernel_rfl) (by kernel_rfl) ?_;refine⟨ady,UW,by omega,[.bool q0,.slice q1 q2 q3,.bool q4,.slice q5 q6 q7],rfl,rdO Qb hw hS,?_⟩;refine cE hw (fun _ w' v w2=>cS w2 (Nf w' w2) v (x*y)) (fun O w' r=>BN (oS hS r) (Rs.v.cI (kS hw r hS)) (SN.v.cI (kS hw r hS))) ?_;rintro O _ _ _ OW r he hw h_ hn;replace hd:=hd.cG r (cC w) he (mC h_);have hp:=hn.dB (S:=FF) r.cF (mN h_);obtain⟨C0,C1,C2,C3,C4,C5,C6,C7,rfl⟩:=hp.shape;refine cE hw (fun _ w' v w2=>cS w2 (Nf w' w2) v (fQ xs ys i+x*y)) (fun O w' r=>EY (Rel.old r (cC w)) ((hd.rel r (cC w)).v (by omega)) ((hp.rel r (cC w)).v (by omega))) ?_;rintro O _ _ _ Pb r he hw h_ hn;have PM:=hn.dB (S:=FF) r.cF (mN h_);obtain⟨F0,F1,F2,F3,F4,F5,F6,F7,rfl⟩:=PM.shape;rw[show fQ xs ys i+x*y=fQ xs ys (i+1) by rw[fQ,SD,hy2]]at PM;refine⟨((i+1:Nat):Int),wo,?_⟩;intro ρ3 w3 r3;exact⟨(i+1,(F0,F4),(F1,F5),(F2,F3,F6,F7),w3,_),⟨OI,hw.tr r3.cQ,PM.rel r3 (cC w)⟩,Sub.gn [] r3,by dsimp only;omega⟩
   ·have Pw:y=0:=Ot.1 rfl;rw[show fQ xs ys i=fQ xs ys (i+1) by rw[fQ,SD,hy2,Pw,bD,bY]]at hd;refine⟨((i+1:Nat):Int),wo,?_⟩;intro ρ3 w3 r3;exact⟨(i+1,(p0,p4),(p1,p5),(p2,p3,p6,p7),w3,_),⟨OI,hw.tr r3.cQ,hd.rel r3 (cC w)⟩,Sub.gn [] r3,by dsimp only;omega⟩
  ·have SO:x=0:=OV.1 rfl;rw[show fQ xs ys i=fQ xs ys (i+1) by rw[fQ,SD,hy2,SO,bI,bY]]at hd;refine⟨((i+1:Nat):Int),wo,?_⟩;intro ρ3 w3 r3;exact⟨(i+1,(p0,p4),(p1,p5),(p2,p3,p6,p7),w3,_),⟨OI,hw.tr r3.cQ,hd.rel r3 (cC w)⟩,Sub.gn [] r3,by dsimp only;omega⟩
 have OI:i=xs.length:=aP hi (by simpa using OI);subst OI;exact rtn hw fun ρe we re=>hd.out re (cC w)
structure gM(w:World)(S:Nat->Prop)(n i:Nat)(css:List (List Value))(qs:List Rat):Prop where
 len:css.length=n
 four:∀cs∈css,cs.length=4
 one:∀cs∈css,∀u∈cs,u.oneCell'=true
 at_:∀(j:Nat) cs q,j<i->css[j]? =some cs->qs[j]? =some q->iB w S cs q
section
variable{S S':Nat->Prop}{H:Hp}{nx n i:Nat}{iv iv':Iv}{B:Nat}{w w1 w' w2:World}{O:Nat->Sx.di}{css:List (List Value)}{qs:List Rat}
theorem gM.cI(h:gM w S n i css qs)(hk:∀g,S g->w2.heap[g]? =w.heap[g]?):gM w2 S n i css qs:=⟨h.len,h.four,h.one,fun j cs q hj h1 h2=>(h.at_ j cs q hj h1 h2).cI hk⟩
theorem gM.cJ(h:gM w S n i css qs)(hk:∀g,S g->S' g):gM w S' n i css qs:=⟨h.len,h.four,h.one,fun j cs q hj h1 h2=>(h.at_ j cs q hj h1 h2).cJ hk⟩
theorem gM.rel(h:gM w (Cv S B iv) n i css qs)(r:Rel H nx iv B w O w')(hS:∀g,S g->g<B):gM w' (Cv S B iv) n i css qs:=h.cI fun _ hg=>Rel.same r hS hg
theorem gM.cG(h:gM w (Cv S B iv) n i css qs)(r:Rel H nx iv B w O w')(hS:∀g,S g->g<B)(he:Ext w' w2)(hm:∀p,p∈iv->p∈iv'):gM w2 (Cv S B iv') n i css qs:=
 ((h.rel r hS).cI fun g hg=>he.block g (Rel.old r hS g hg)).cJ fun _ hg=>hg.mono hm
theorem gM.start(w:World)(S:Nat->Prop)(n:Nat)(qs:List Rat):gM w S n 0 (List.replicate n f0) qs:=
 ⟨by simp,fun cs hc=>by rw[bH hc];rfl,fun cs hc u hu=>by rw[bH hc]at hu;simp[f0]at hu;rcases hu with rfl|rfl|rfl|rfl<;>rfl,fun j cs q hj=>by omega⟩
theorem gM.next{b b2:Bool}{a2:Option Addr}{m c m2 c2:Nat}(h:gM w S n i css qs)(hi:i<n)(hq:qs[i]? =some q)(hf:cS w S (.agg #[.bool b,.slice a m c,.bool b2,.slice a2 m2 c2]) q):
  gM w S n (i+1) (css.set i [.bool b,.slice a m c,.bool b2,.slice a2 m2 c2]) qs:=by
 refine⟨by simp[h.len],fun cs hc=>?_,fun cs hc u hu=>?_,fun j cs p hj h1 h2=>?_⟩
 ·rcases bF hc with hc|rfl
  ·exact h.four cs hc
  ·rfl
 ·rcases bF hc with hc|rfl
  ·exact h.one cs hc u hu
  ·simp at hu;rcases hu with rfl|rfl|rfl|rfl<;>rfl
 ·by_cases Pt:i=j
  ·subst Pt;rw[aV (by rw[h.len];exact hi)]at h1;rw[hq]at h2;injection h1 with h1;injection h2 with h2;subst h1 h2;exact hf.pW
  ·rw[aZ Pt]at h1;exact h.at_ j cs p (by omega) h1 h2
theorem gM.flat(h:gM w S n i css qs):css.flatten.length=n*4:=by rw[eK h.four,h.len]
theorem gM.done{w0:World}(h:gM w1 (Cf w0 iv) n n css qs)(hl:qs.length=n)(hn:n<=maxLen)(r:Rel H nx iv w0.heap.size w1 O w'){id:Nat}(hH:dE H id=some (.arr T.Rat css.flatten))(Oa:(O id).nil=false):
  df w' FF w0.heap.size [(w0.heap.size,w'.heap.size)] (.slice (some ⟨(O id).g,0,none⟩) n n) n qs:=by
 have h2:=h.rel r (cC w0);have On:=r.low id _ hH Oa;refine⟨⟨css,⟨h.flat,.inr ⟨(O id).g,n,css.flatten.toArray,rfl,aO _,r.arr id _ _ hH,aF _,hn,by simpa using h.flat,?_⟩⟩,h.len,?_⟩,fun g hg=>?_⟩
 ·rw[<-h.flat];exact bG
 ·refine⟨by rw[h.len,hl],fun j cs q h3 h4=>?_⟩;refine(h2.at_ j cs q (by rw[<-hl];exact(aD.1 h4).1) h3 h4).cJ fun g hg=>⟨?_,fun e=>?_⟩
  ·rcases hg with hg|⟨k1,lo,hi,k2,k3,k4⟩
   ·exact hg.elim
   ·exact .inr ⟨k1,_,_,bB.2 rfl,k1,by have:=r.po lo hi k2;have:=r.size;omega⟩
  ·injection e with e;exact Rel.not r (cC w0) hg id _ hH Oa e
 ·injection hg with hg;subst hg;exact .inr ⟨On.1,_,_,bB.2 rfl,On.1,On.2⟩
theorem gS.c(h:gS w S S v qs):cN w S v qs:=by
 obtain⟨css,h1,h2⟩:=h;exact⟨css,h1,h2.1,h2.xC,h2.2⟩
theorem df.c(h:df w S B iv v n qs):cN w (Cv S B iv) v qs:=h.read.c
theorem cN.rc(h:cN w S v qs):gS w S S v qs:=by
 obtain⟨css,h1,h2,h3,h4⟩:=h;exact⟨css,h1,h2,h4⟩
theorem gS.rel(h:gS w (Cv C B iv) (Cv S B iv) v qs)(r:Rel H nx iv B w O w')(hC:∀g,C g->g<B)(hS:∀g,S g->g<B):gS w' (Cv C B iv) (Cv S B iv) v qs:=
 h.cI fun _ hg=>hg.elim (Rel.same r hC) (Rel.same r hS)
theorem gS.cG(h:gS w (Cv C B iv) (Cv S B iv) v qs)(r:Rel H nx iv B w O w')(hC:∀g,C g->g<B)(hS:∀g,S g->g<B)(he:Ext w' w2)(hm:∀p,p∈iv->p∈iv'):gS w2 (Cv C B iv') (Cv S B iv') v qs:=
 ((h.rel r hC hS).cI fun g hg=>he.block g (hg.elim (Rel.old r hC g) (Rel.old r hS g))).cJ (fun _ hg=>hg.mono hm) (fun _ hg=>hg.mono hm)
theorem gS.arg(h:gS w C S v qs)(iv:Iv):gS w (Cv C w.heap.size iv) (Cv S w.heap.size iv) v qs:=h.cJ (fun _ h=>.inl h) (fun _ h=>.inl h)
theorem gS.shape(h:gS w C S v qs):∃a c,v= .slice a qs.length c∧qs.length<=c∧qs.length<=maxLen:=by
 obtain⟨css,⟨h0,_,_,a,c,h1,h2,_⟩,_⟩:=h;exact⟨a,c,h1,h2,h0⟩
theorem gS.load{n c j:Nat}(h:gS w C S (.slice a n c) qs)(hq:qs[j]? =some q):
  ∃ad cs,a=some ad∧iB w S cs q∧∀k u,cs[k]? =some u->C ad.block∧w.cell? ((ad.add (j*4)).add k)=some u:=by
 obtain⟨css,⟨h0,h1,h2,a',c',e,h3,h4⟩,hf⟩:=h;injection e with e1 e2 e3;subst e1;obtain⟨cs,PE⟩:∃cs,css[j]? =some cs:=⟨_,aB (by rw[hf.1];exact(aD.1 hq).1)⟩
 have hF:=hf.2 j cs q PE hq;have hl:=hF.len;obtain⟨ad,k1,k2,k3⟩:=h4 (j*4+0) _ (flat_get hf.xC PE 0 _ (aB (show 0<cs.length by omega)));refine⟨ad,cs,k1,hF,fun k u hu=>?_⟩;obtain⟨ad2,m1,m2,m3⟩:=h4 (j*4+k) u (flat_get hf.xC PE k u hu);rw[k1]at m1;injection m1 with m1;subst m1;refine⟨m2,?_⟩;rw[<-m3];have:(ad.add (j*4)).add k=ad.add (j*4+k):=by
  unfold Addr.add;split<;>split<;>simp_all<;>omega
 rw[this]
theorem GF{j:Nat}{c:Nat}(h:w.ownsRow 0 T.Rat 4 (.slice a n c) n css.flatten)(hf:Fc w S css qs)(hj:css[j]? =some cs):
  ∃g,a=some ⟨g,0,none⟩∧∀k u,cs[k]? =some u->w.cell? ((Addr.add ⟨g,0,none⟩ (j*4)).add k)=some u:=by
 rcases h.2 with⟨h1,h0⟩|⟨g,cap,cur,Rd,_⟩
 ·have:=h.1;rw[eK hf.xC]at this;have:=(aD.1 hj).1;omega
 ·injection Rd with h1 h2 h3;subst h1;refine⟨g,rfl,fun k u hu=>?_⟩;have:=h.cells (g:=g) rfl (j*4+k) u (flat_get hf.xC hj k u hu);rw[dZ,dZ];rw[dZ]at this;rw[Nat.add_assoc];exact this
end
theorem GG(n:Nat)(w:World)(hn:n<=1000000):eD PG N.sN #[.int .i64 n] w (eG w fun v' w2=>df w2 FF w.heap.size [(w.heap.size,w2.heap.size)] v' n (List.replicate n 0)):=by
 have hw:=bR w;refine wu (by simp) ?_
 refine⟨n,n,rfl,rfl,aF _,by omega,by omega,Nat×List (List Value)×Iv×World,fun z=>⟨[(3,.o (.s 0 0 n n)),(8,iZ n),(9,iN z.1)],[(0,.arr T.Rat z.2.1.flatten)],1,z.2.2.1,z.2.2.2⟩,fun z=>n-z.1,
  fun z=>z.1<=n∧dm w.heap.size w z.2.2.2∧gM z.2.2.2 (Cf w z.2.2.1) (n) z.1 z.2.1 (List.replicate n 0),?_,?_⟩
 ·intro O w' r;exact⟨(0,List.replicate (n) f0,_,w'),⟨by simp,hw.tr r.cQ,gM.start _ _ _ _⟩,Sub.gn [] r⟩
 rintro⟨i,css,iv,w1⟩ ⟨hi,hw,hF⟩;dsimp only at hi hw hF ⊢;refine dI.mk ?_ ?_<;>intro h
 ·have h:i<n:=by simpa using h
  refine cD (cE hw (fun _ w' v w2=>cS w2 (Nf w' w2) v (((0:Int):Rat))) (fun O w' r=>kC 0 w' (by decide) (by decide)) ?_);rintro O _ _ _ OP r he hw h_ hn;replace hF:=hF.cG r (cC w) he (mC h_);have hd:=hn.dB (S:=FF) r.cF (mN h_);obtain⟨A0,A1,A2,A3,A4,A5,A6,A7,rfl⟩:=hd.shape;have OR:=hF.next h (q:=_) (by simp[h]) hd
  refine⟨by omega,by have:=hF.flat;omega,(css.set i [.bool A0,.slice A1 A2 A3,.bool A4,.slice A5 A6 A7]).flatten,?_,?_⟩
  ·have:=iy (cs:=[.bool A0,.slice A1 A2 A3,.bool A4,.slice A5 A6 A7]) hF.four (show i<css.length by rw[hF.len];exact h);rw[<-this];simp
  refine⟨((i+1:Nat):Int),wo,?_⟩;intro ρ3 w3 r3;exact⟨(i+1,css.set i [.bool A0,.slice A1 A2 A3,.bool A4,.slice A5 A6 A7],_,w3),⟨h,hw.tr r3.cQ,OR.rel r3 (cC w)⟩,Sub.gn [] r3,by dsimp only;omega⟩
 have h:i=n:=aP hi (by simpa using h);subst h;exact rtn hw fun ρe we re=>hF.done (by simp) (by unfold maxLen;omega) re (id:=0) rfl (re.nn 0 _ rfl (by intros;simp) (by simp))
theorem DH{b:Rat}(hS:Old S w)(hx:cX w S v xs)(hb:eS w S u b)(hn:xs.length<=1000000):
  eD PG N.qT #[v,u] w (eG w fun v' w2=>df w2 FF w.heap.size [(w.heap.size,w2.heap.size)] v' xs.length (cW xs b)):=by
 have hw:=bR w;obtain⟨ax,cx,rfl,Wm,hmx⟩:=dH.shape hx;obtain⟨g0,g1,g2,g3,g4,g5,g6,g7,rfl⟩:=hb.shape;have PY:rl b<=100000:=hb.rl;refine uz (by simp) ?_
 refine⟨xs.length,xs.length,rfl,rfl,aF _,by omega,by omega,Nat×List (List Value)×Iv×World,fun z=>⟨[(3,pP 0 0),(5,.o (.s 1 0 xs.length xs.length)),(11,sV ax xs.length cx),(12,iZ xs.length),(13,iN z.1)],[(0,.box T.Rat [.v (.bool g0),.v (.slice g1 g2 g3),.v (.bool g4),.v (.slice g5 g6 g7)]),(1,.arr T.Rat z.2.1.flatten)],2,z.2.2.1,z.2.2.2⟩,fun z=>xs.length-z.1,
  fun z=>z.1<=xs.length∧dm w.heap.size w z.2.2.2∧gM z.2.2.2 (Cf w z.2.2.1) (xs.length) z.1 z.2.1 (cW xs b),?_,?_⟩
 ·intro O w' r;exact⟨(0,List.replicate (xs.length) f0,_,w'),⟨by simp,hw.tr r.cQ,gM.start _ _ _ _⟩,Sub.gn [] r⟩
 rintro⟨i,css,iv,w1⟩ ⟨hi,hw,hF⟩;dsimp only at hi hw hF ⊢;refine dI.mk ?_ ?_<;>intro h
 ·have h:i<xs.length:=by simpa using h
  obtain⟨x,Ps⟩:∃x,xs[i]? =some x:=⟨_,aB h⟩
  obtain⟨adx,csx,PS,Rs,-,Oo⟩:=dH.load hx Ps;obtain⟨f0,f1,f2,f3,f4,f5,f6,f7,rfl,Rs⟩:=Rs;refine⟨adx,PS,by omega,[.bool f0,.slice f1 f2 f3,.bool f4,.slice f5 f6 f7],rfl,rdO Oo hw hS,?_⟩;refine cD (cE hw (fun _ w' v w2=>cS w2 (Nf w' w2) v (x*b)) (fun O w' r=>BN (oS hS r) (Rs.v.cI (kS hw r hS)) (hb.v.cI (kS hw r hS))) ?_);rintro O _ _ _ OP r he hw h_ hn;replace hF:=hF.cG r (cC w) he (mC h_);have hd:=hn.dB (S:=FF) r.cF (mN h_);obtain⟨A0,A1,A2,A3,A4,A5,A6,A7,rfl⟩:=hd.shape;have OR:=hF.next h (q:=_) (by rw[cW,aM,Ps];rfl) hd
  refine⟨by omega,by have:=hF.flat;omega,(css.set i [.bool A0,.slice A1 A2 A3,.bool A4,.slice A5 A6 A7]).flatten,?_,?_⟩
  ·have:=iy (cs:=[.bool A0,.slice A1 A2 A3,.bool A4,.slice A5 A6 A7]) hF.four (show i<css.length by rw[hF.len];exact h);rw[<-this];simp
  refine⟨((i+1:Nat):Int),wo,?_⟩;intro ρ3 w3 r3;exact⟨(i+1,css.set i [.bool A0,.slice A1 A2 A3,.bool A4,.slice A5 A6 A7],_,w3),⟨h,hw.tr r3.cQ,OR.rel r3 (cC w)⟩,Sub.gn [] r3,by dsimp only;omega⟩
 have h:i=xs.length:=aP hi (by simpa using h);subst h;exact rtn hw fun ρe we re=>hF.done (by simp[cW]) (by unfold maxLen;omega) re (id:=1) rfl (re.nn 1 _ rfl (by intros;simp) (by simp))
theorem Ix(hS:Old S w)(hx:cX w S v xs)(hy:cX w S u ys)(hl:xs.length<=ys.length)(hn:xs.length<=1000000):
  eD PG N.u7 #[v,u] w (eG w fun v' w2=>df w2 FF w.heap.size [(w.heap.size,w2.heap.size)] v' xs.length (fR xs ys)):=by
 have hw:=bR w;obtain⟨ax,cx,rfl,Wm,hmx⟩:=dH.shape hx;obtain⟨ay,cy,rfl,hcy,hmy⟩:=dH.shape hy;refine y8 (by simp) ?_
 refine⟨xs.length,xs.length,rfl,rfl,aF _,by omega,by omega,Nat×List (List Value)×Iv×World,fun z=>⟨[(0,sV ax xs.length cx),(1,sV ay ys.length cy),(5,.o (.s 0 0 xs.length xs.length)),(11,iZ xs.length),(12,iN z.1)],[(0,.arr T.Rat z.2.1.flatten)],1,z.2.2.1,z.2.2.2⟩,fun z=>xs.length-z.1,
  fun z=>z.1<=xs.length∧dm w.heap.size w z.2.2.2∧gM z.2.2.2 (Cf w z.2.2.1) (xs.length) z.1 z.2.1 (fR xs ys),?_,?_⟩
 ·intro O w' r;exact⟨(0,List.replicate (xs.length) f0,_,w'),⟨by simp,hw.tr r.cQ,gM.start _ _ _ _⟩,Sub.gn [] r⟩
 rintro⟨i,css,iv,w1⟩ ⟨hi,hw,hF⟩;dsimp only at hi hw hF ⊢;refine dI.mk ?_ ?_<;>intro h
 ·have h:i<xs.length:=by simpa using h
  obtain⟨x,Ps⟩:∃x,xs[i]? =some x:=⟨_,aB h⟩
  obtain⟨y,To⟩:∃x,ys[i]? =some x:=⟨_,aB (by omega)⟩
  obtain⟨adx,csx,PS,Rs,-,Oo⟩:=dH.load hx Ps;obtain⟨f0,f1,f2,f3,f4,f5,f6,f7,rfl,Rs⟩:=Rs;obtain⟨ady,csy,UW,SN,-,Qb⟩:=dH.load hy To;obtain⟨q0,q1,q2,q3,q4,q5,q6,q7,rfl,SN⟩:=SN;refine cK hτ da [.x 0,.x 1,.x 2,.x 3,.x 4,.x 5,.x 6,.x 7,.x 8,.x 9,.x 10,.x 11,.x 12] (by kernel_rfl) (by kernel_rfl) ?_;refine⟨adx,PS,by omega,[.bool f0,.slice f1 f2 f3,.bool f4,.slice f5 f6 f7],rfl,rdO Oo hw hS,ady,UW,by omega,[.bool q0,.slice q1 q2 q3,.bool q4,.slice q5 q6 q7],rfl,rdO Qb hw hS,?_⟩;refine cE hw (fun _ w' v w2=>cS w2 (Nf w' w2) v (x*y)) (fun O w' r=>BN (oS hS r) (Rs.v.cI (kS hw r hS)) (SN.v.cI (kS hw r hS))) ?_;rintro O _ _ _ OP r he hw h_ hn;replace hF:=hF.cG r (cC w) he (mC h_);have hd:=hn.dB (S:=FF) r.cF (mN h_);obtain⟨A0,A1,A2,A3,A4,A5,A6,A7,rfl⟩:=hd.shape;have OR:=hF.next h (q:=_) (by rw[fR,List.getElem?_mapIdx,Ps,List.getD,To];rfl) hd
  refine⟨by omega,by have:=hF.flat;omega,(css.set i [.bool A0,.slice A1 A2 A3,.bool A4,.slice A5 A6 A7]).flatten,?_,?_⟩
  ·have:=iy (cs:=[.bool A0,.slice A1 A2 A3,.bool A4,.slice A5 A6 A7]) hF.four (show i<css.length by rw[hF.len];exact h);rw[<-this];simp
  refine⟨((i+1:Nat):Int),wo,?_⟩;intro ρ3 w3 r3;exact⟨(i+1,css.set i [.bool A0,.slice A1 A2 A3,.bool A4,.slice A5 A6 A7],_,w3),⟨h,hw.tr r3.cQ,OR.rel r3 (cC w)⟩,Sub.gn [] r3,by dsimp only;omega⟩
 have h:i=xs.length:=aP hi (by simpa using h);subst h;exact rtn hw fun ρe we re=>hF.done (by simp[fR]) (by unfold maxLen;omega) re (id:=0) rfl (re.nn 0 _ rfl (by intros;simp) (by simp))
theorem NQ{vby vs:Value}{n:Nat}{ps:List Rat}(hC:Old C w)(hS:Old S w)(RK:ig w S v n qs)(PY:eS w S vby p)
  (hs:gS w C S vs ps) (Pe:ps.length=n) (WD:∀g,v.ownBlock=some g->¬S g) (hdc:∀g,v.ownBlock=some g->¬C g) (hq:∀q∈qs,rl q+1<=h) (hps:∀q∈ps,rl q+1<=h) (hb:rl p+1<=h) (hh:3*h<=90000):
  eD PG N.ot #[v,vs,vby] w (fun e w2=>e= .returned (.tuple #[])∧w.grownBy w2 v.ownBlock∧ig w2 (Nw S w w2) v n (mi qs ps p)):=by
 obtain⟨css,OK,PQ,SL⟩:=RK;have On:∀g,v.ownBlock=some g->g<w.heap.size:=fun g hg=>(ownsRow.low OK g hg).2;have QT:∀iv g,v.ownBlock=some g->Out w.heap.size iv g:=fun iv g hg=>.inl (On g hg);have hdis2:∀iv g,v.ownBlock=some g->¬Cv S w.heap.size iv g:=fun iv g hg h=>by
  rcases h with h|⟨h,_⟩
  ·exact WD g hg h
  ·have:=On g hg;omega
 have hdis3:∀iv g,v.ownBlock=some g->¬Cv C w.heap.size iv g:=fun iv g hg h=>by
  rcases h with h|⟨h,_⟩
  ·exact hdc g hg h
  ·have:=On g hg;omega
 have Uq:qs.length=n:=by rw[<-SL.1,PQ]
 obtain⟨a,c,rfl,Tu⟩:=fJ OK;obtain⟨b1,a1,n1,c1,b2,a2,n2,c2,rfl⟩:=PY.shape;obtain⟨asl,cs0,rfl,SZ,Vy⟩:=hs.shape;rw[Pe]at SZ Vy hs ⊢;unfold maxLen at Vy;replace SL:=SL.cJ (S':=Cv S w.heap.size []) fun _ h=>.inl h;replace PY:=PY.arg [];replace hs:=hs.arg [];refine yi (by simp) ?_;have QP:=OK;have hg:w.grownBy w (Value.slice a n c).ownBlock:=⟨rfl,rfl,rfl,aF _,fun _ _ _=>rfl⟩
 have hbyl:rl p<=100000:=PY.rl
 refine⟨Nat×List (List Value)×Iv×World,fun z=>⟨[(0,sV a n c),(5,pP 0 0),(8,sV asl n cs0),(9,iZ n),(10,iZ z.1)],
   [(0,.box T.Rat [.v (.bool b1),.v (.slice a1 n1 c1),.v (.bool b2),.v (.slice a2 n2 c2)])],1,z.2.2.1,z.2.2.2⟩,fun z=>n-z.1,
  fun z=>z.1<=n∧w.grownBy z.2.2.2 (Value.slice a n c).ownBlock∧z.2.2.2.ownsRow 0 T.Rat 4 (.slice a n c) n z.2.1.flatten∧z.2.1.length=n∧Fc z.2.2.2 (Cv S w.heap.size z.2.2.1) z.2.1 (iH z.1 (ss (-p) ps) qs)∧
   eS z.2.2.2 (Cv S w.heap.size z.2.2.1) (.agg #[.bool b1,.slice a1 n1 c1,.bool b2,.slice a2 n2 c2]) p∧gS z.2.2.2 (Cv C w.heap.size z.2.2.1) (Cv S w.heap.size z.2.2.1) (.slice asl n cs0) ps,?_,?_⟩
 ·intro O w' r
  refine⟨(0,css,[],w'),⟨by simp,gf hg r.cQ,pB QP (QT []) r,PQ,by rw[tW];exact SL.rel r hS,PY.rel r hS,hs.rel r hC hS⟩,
   Sub.gn [] r⟩
 rintro⟨i,css,iv,w1⟩ ⟨hi,hg,OK,PQ,SL,PY,hs⟩;dsimp only at hi hg OK PQ SL PY hs ⊢;refine dI.mk ?_ ?_<;>intro h
 ·have h:i<n:=by simpa using h
  obtain⟨cs,PE⟩:∃cs,css[i]? =some cs:=⟨_,aB (by omega)⟩
  obtain⟨q,hqi⟩:∃q,qs[i]? =some q:=⟨_,aB (by omega)⟩
  obtain⟨f,Ug⟩:∃f,ps[i]? =some f:=⟨_,aB (by omega)⟩
  have hF:=SL.2 i cs q PE (BO hqi);have hadd:ss (-p) ps i q=q-p*f:=by simp only[ss,List.getD,Ug,Option.getD_some];grind
  obtain⟨d1,e1,m1,k1,d2,e2,m2,k2,rfl,hF⟩:=hF;have hrlq:=hq q (aC hqi);have hrlf:=hps f (aC Ug);obtain⟨ad,fcs,Ol,hff,OY⟩:=hs.load Ug;obtain⟨f1,g1,o1,u1,f2,g2,o2,u2,rfl,hff⟩:=hff;refine⟨ad,Ol,by omega,[.bool f1,.slice g1 o1 u1,.bool f2,.slice g2 o2 u2],rfl,fun O w' r j x hx=>?_,?_⟩
  ·have Qq:=hs.rel r hC hS;obtain⟨k2',k3⟩:=OY j x hx;have:=Rel.same r hC k2';rw[aE,cH (w:=w1) (w2:=w') (by rw[dD,dD];exact this)];exact k3
  refine cD (cO (Φ:=fun _ _ v _=>∃d,v= .bool d∧(d=true↔f=0)) (fun O w' r=>rS (Rel.old r hS) ((hff.rel r hS).l (by omega))) ?_);rintro O wa v1 wb r he Pr ⟨dz,rfl,hz⟩;replace PY:=PY.cG (iv':=(wa.heap.size,wb.heap.size)::iv) r hS he fun x hx=>List.mem_cons_of_mem _ hx;replace SL:=SL.cG (iv':=(wa.heap.size,wb.heap.size)::iv) r hS he fun x hx=>List.mem_cons_of_mem _ hx;replace hs:=hs.cG (iv':=(wa.heap.size,wb.heap.size)::iv) r hC hS he fun x hx=>List.mem_cons_of_mem _ hx;replace hff:=hff.cG (iv':=(wa.heap.size,wb.heap.size)::iv) r hS he fun x hx=>List.mem_cons_of_mem _ hx;replace hF:=hF.cG (iv':=(wa.heap.size,wb.heap.size)::iv) r hS he fun x hx=>List.mem_cons_of_mem _ hx;replace OK:wb.ownsRow 0 T.Rat 4 (.slice a n c) n css.flatten:=ownsRow.cI (pB OK (QT iv) r) fun b hb=>he.block b (by have:=On b hb;have:=r.cF;omega);replace hg:w.grownBy wb _:=gf hg Pr;generalize (wa.heap.size,wb.heap.size)::iv=ON at*
  cases dz
  ·refine cK hτ da [.x 0,.x 1,.x 2,.x 3,.x 4,.x 5,.x 6,.x 7,.x 8,.x 9,.x 10,.x 11] (by kernel_rfl) (by kernel_rfl) ?_;obtain⟨g,rfl,PF⟩:=GF OK SL PE;refine⟨⟨g,0,none⟩,rfl,by omega,[.bool d1,.slice e1 m1 k1,.bool d2,.slice e2 m2 k2],rfl,fun O w' r j x hx=>?_,?_⟩
   ·have:=GF (pB OK (QT ON) r) (SL.rel r hS) PE;obtain⟨g',h1,h2⟩:=this;injection h1 with h1;rw[<-h1]at h2;exact h2 j x hx
   have Rl:=j9 p f;refine cO (Φ:=fun _ w' v w2=>cS w2 (Nf w' w2) v (p*f)) (fun O w' r=>BN (Rel.old r hS) (PY.rel r hS).v ((hff.rel r hS).v (by omega))) ?_;rintro O wa v1 wb r he Pr hP;have hPN:=hP.dB (S:=S) r.cF (iv:=(wa.heap.size,wb.heap.size)::ON) aG;replace PY:=PY.cG (iv':=(wa.heap.size,wb.heap.size)::ON) r hS he fun x hx=>List.mem_cons_of_mem _ hx;replace SL:=SL.cG (iv':=(wa.heap.size,wb.heap.size)::ON) r hS he fun x hx=>List.mem_cons_of_mem _ hx;replace hs:=hs.cG (iv':=(wa.heap.size,wb.heap.size)::ON) r hC hS he fun x hx=>List.mem_cons_of_mem _ hx;replace hF:=hF.cG (iv':=(wa.heap.size,wb.heap.size)::ON) r hS he fun x hx=>List.mem_cons_of_mem _ hx;replace OK:wb.ownsRow 0 T.Rat 4 (.slice (some ⟨g,0,none⟩) n c) n css.flatten:=ownsRow.cI (pB OK (QT ON) r) fun b hb=>he.block b (by have:=On b hb;have:=r.cF;omega);replace hg:w.grownBy wb _:=gf hg Pr;generalize (wa.heap.size,wb.heap.size)::ON=OU at*
   obtain⟨b5,a5,n5,c5,b6,a6,n6,c6,rfl⟩:=hPN.shape;refine cO (Φ:=fun _ w' v w2=>cS w2 (Nf w' w2) v (q-p*f)) (fun O w' r=>Lv (Rel.old r hS) ((hF.rel r hS).v (by omega)) ((hPN.rel r hS).v (by omega))) ?_;rintro O wc v2 wd r he Pr hQ;have hQN:=hQ.dB (S:=S) r.cF (iv:=(wc.heap.size,wd.heap.size)::OU) aG;replace PY:=PY.cG (iv':=(wc.heap.size,wd.heap.size)::OU) r hS he fun x hx=>List.mem_cons_of_mem _ hx;replace SL:=SL.cG (iv':=(wc.heap.size,wd.heap.size)::OU) r hS he fun x hx=>List.mem_cons_of_mem _ hx;replace hs:=hs.cG (iv':=(wc.heap.size,wd.heap.size)::OU) r hC hS he fun x hx=>List.mem_cons_of_mem _ hx;replace OK:wd.ownsRow 0 T.Rat 4 (.slice (some ⟨g,0,none⟩) n c) n css.flatten:=ownsRow.cI (pB OK (QT OU) r) fun b hb=>he.block b (by have:=On b hb;have:=r.cF;omega);replace hg:w.grownBy wd _:=gf hg Pr;generalize (wc.heap.size,wd.heap.size)::OU=OW at*
   obtain⟨b7,a7,n7,c7,b8,a8,n8,c8,rfl⟩:=hQN.shape;rw[<-hadd]at hQN;refine⟨⟨g,0,none⟩,rfl,by omega,?_⟩;intro O w' r;have Ur:=pB OK (QT OW) r;have hF5:=(hQN.rel r hS).pW;obtain⟨g',Us,OM,Px,Pc,Om⟩:=qB (nv:=[.bool b7,.slice a7 n7 c7,.bool b8,.slice a8 n8 c8]) Ur rfl h rfl (by decide);injection Us with Us;injection Us with Us;subst Us;have Ut:=iy (cs:=[.bool b7,.slice a7 n7 c7,.bool b8,.slice a8 n8 c8]) SL.xC (show i<css.length by omega);rw[Ut]at Px;have Pn:∀x,Cv S w.heap.size OW x->(setCells w' ⟨g,i*4,none⟩ [.bool b7,.slice a7 n7 c7,.bool b8,.slice a8 n8 c8]).heap[x]? =w'.heap[x]? :=fun x hx=>
    Pc.block x (Rel.old r hS x hx) fun e=>hdis2 OW g rfl (by injection e with e;rw[<-e];exact hx)
   have Pv:(⟨g,0,none⟩:Addr).add ((i:Int).toNat*4)=⟨g,i*4,none⟩:=by rw[aE,dZ,aS]
   have hF6:=((SL.rel r hS).cI Pn).set (j:=i) (hF5.cI Pn);rw[pC (f:=ss (-p) ps) hqi]at hF6;have hby6:=(PY.rel r hS).cI Pn;have hkeep3:∀x,Cv C w.heap.size OW x->(setCells w' ⟨g,i*4,none⟩ [.bool b7,.slice a7 n7 c7,.bool b8,.slice a8 n8 c8]).heap[x]? =w'.heap[x]? :=fun x hx=>
    Pc.block x (Rel.old r hC x hx) fun e=>hdis3 OW g rfl (by injection e with e;rw[<-e];exact hx)
   have hs6:=(hs.rel r hC hS).cI fun x hx=>hx.elim (hkeep3 x) (Pn x);replace hg:w.grownBy (setCells w' ⟨g,i*4,none⟩ [.bool b7,.slice a7 n7 c7,.bool b8,.slice a8 n8 c8]) (some g):=gu (gf hg r.cQ) Pc;have Qt:=fun id b hb hn=>Rel.not r (fun _ h=>h) (QT OW g rfl) id b hb hn;refine⟨by rw[Pv],fun k hk=>by rw[Pv];exact OM k hk,fun id b hb hn=>by rw[Pv];exact Qt id b hb hn,fun w2 PN=>?_⟩;have PN:w2=setCells w' ⟨g,i*4,none⟩ [.bool b7,.slice a7 n7 c7,.bool b8,.slice a8 n8 c8]:=by rw[PN];exact congrArg (fun x=>setCells w' x _) Pv
   rw[<-PN]at hF6 hby6 Px hg Om hs6;refine⟨((i+1:Nat):Int),wo,?_⟩;intro ρ3 w3 r3
   exact⟨(i+1,css.set i [.bool b7,.slice a7 n7 c7,.bool b8,.slice a8 n8 c8],OW,w3),⟨h,gf hg r3.cQ,pB Px (QT OW) r3,by simpa using PQ,hF6.rel r3 hS,hby6.rel r3 hS,hs6.rel r3 hC hS⟩,
    Sub.gn [] r3,by dsimp only;omega⟩
  ·have hf0:f=0:=hz.1 rfl;have RH:ss (-p) ps i q=q:=by rw[hadd,hf0];grind
   refine⟨((i+1:Nat):Int),wo,?_⟩;intro ρ3 w3 r3
   exact⟨(i+1,css,ON,w3),⟨h,gf hg r3.cQ,pB OK (QT ON) r3,PQ,by rw[<-Hc hqi RH];exact SL.rel r3 hS,PY.rel r3 hS,hs.rel r3 hC hS⟩,
    Sub.gn [] r3,by dsimp only;omega⟩
 ·have h:i=n:=by
   have:¬i<n:=by simpa using h
   omega
  subst h;intro ρ5 w5 r5;refine⟨rfl,gf hg r5.cQ,css,pB OK (QT iv) r5,PQ,?_⟩;have:=(SL.rel r5 hS).cJ (S':=Nw S w w5) fun g hg=>Cv.nw hg r5
  rwa [<-Uq,xD]at this
section
variable{S:Nat->Prop}{w:World}{v u vx vk vp:Value}{z:Int}{M K:List (List (Int×Int))}{b X P:List (Int×Int)}
end
end Go.Ex
namespace Go.Sx
open Go Go.Ex Go.Proofs
variable{cs:List Value}{O:Nat->Sx.di}
theorem Sub.aAy{B:Nat}{l tl:Env}{nx:Nat}{H tH:Hp}{iv:Iv}{w w':World}{id t n sz:Nat}{e:TypeId}(r:Rel H nx iv B w O w')(Ox:dE H id=some (.vec e sz cs))(hn:(O id).nil=false)(ht:fT l t=some (.o (.w id n)))
  (hs:vq H tH) (ho:Er id tH=true) (h1:FB l tl) (h2:jQ nx tl):
  Sub B l nx O w' ⟨(t,.o (.v (.slice (some ⟨(O id).g,0,none⟩) n (O id).cap)))::tl,tH,nx,((O id).g,(O id).g+1)::iv,w'⟩:=
 ⟨O,r.free Ox (by simp) hn hs ho,fun u v hv=>jX hn ht h1 h2 u v hv⟩
end Go.Sx
namespace Go.Ex
open Go Go.Sx Go.Proofs
end Go.Ex
