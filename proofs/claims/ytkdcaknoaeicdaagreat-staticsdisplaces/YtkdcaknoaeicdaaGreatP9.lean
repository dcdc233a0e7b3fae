/- Texts L41 to X109: lemmas, each with its conditions. -/
import Derived.Test.YtkdcaknoaeicdaaGreatP8
namespace Go.Ex
variable{M:List (List Rat)}{s:List (List Rat)×List Nat}{E:Mx}{B n r:Nat}{p q σ:Nat->Nat}{v:Nat->Rat}
theorem eF.FZ{F:Mx}(h:eF E r n v)(e:∀i t,i<r->t<n->F i t=E i t):eF F r n v:=by
 obtain⟨c,hc⟩:=h;exact⟨c,fun t ht=>by rw[hc t ht];exact cK fun i hi=>by rw[e i t hi ht]⟩
theorem eF.more{s:Nat}(h:eF E r n v)(k:r<=s):eF E s n v:=h.trans fun i hi=>eF.row (Nat.lt_of_lt_of_le hi k)
theorem Ru.congr{F:Mx}(h:Ru E p r n)(e:∀i t,i<r->t<n->F i t=E i t)(ep:∀i,i<r->q i=p i):Ru F q r n:=
 ⟨fun i hi=>by rw[ep i hi];exact h.lt i hi,fun i j hi hj k=>h.inj i j hi hj (by rw[<-ep i hi,<-ep j hj];exact k),fun i j hi hj=>by rw[ep i hi,e j _ hj (h.lt i hi)];exact h.unit i j hi hj,
  fun i t hi ht=>by rw[ep i hi]at ht;rw[e i t hi (by have:=h.lt i hi;omega)];exact h.lead i t hi ht⟩
theorem yg.congr{F Z Y:Mx}(h:yg E p r n B Z)(e:∀i t,i<r->t<n->F i t=E i t)(ep:∀i,i<r->q i=p i)(eZ:∀i t,i<r->t<n->Y i t=Z i t):yg F q r n B Y:=by
 refine⟨h.ru.congr e ep,fun i hi=>((h.sp i hi).congr fun t ht=>eZ i t hi ht).FZ e,fun i t hi ht=>by rw[eZ i t hi ht];exact h.ib i t hi ht,?_⟩;rw[show ss Y q r=ss Z p r from iT fun i j hi hj=>by rw[ep _ (by omega),eZ _ _ (by omega) (h.ru.lt _ (by omega))]];exact h.nz
theorem yh(row:List Rat):∀f k,k<=oT row f k∧oT row f k<=k+f∧(∀t,k<=t->t<oT row f k->row.getD t 0=0)∧(oT row f k<k+f->row.getD (oT row f k) 0≠0)
 |0,k=>by
  unfold oT;exact⟨aF _,aF _,fun t h1 h2=>by omega,fun h=>by omega⟩
 |f+1,k=>by
  unfold oT;split
  ·rename_i h;obtain⟨h1,h2,h3,h4⟩:=yh row f (k+1);refine⟨by omega,by omega,fun t k1 k2=>?_,fun h5=>h4 (by omega)⟩;rcases aP k t with h5|h5
   ·exact h3 t h5 k2
   ·rw[show t=k by omega];exact h
  ·rename_i h;exact⟨aF _,by omega,fun t h1 h2=>by omega,fun _=>h⟩
theorem Hs(row:List Rat)(n:Nat):sk row n<=n∧(∀t,t<sk row n->row.getD t 0=0)∧(sk row n≠n->row.getD (sk row n) 0≠0):=by
 obtain⟨_,h2,h3,h4⟩:=yh row n 0;unfold sk;exact⟨by omega,fun t h=>h3 t (aO _) h,fun h=>h4 (by omega)⟩
theorem Hu(y:List Rat)(q:Rat)(t:Nat):(y.map (· / q)).getD t 0=y.getD t 0 / q:=by
 simp only[List.getD,aN]
 cases y[t]? with
 |none=>show(0:Rat)=0 / q;rw[bj,bH]
 |some x=>rfl
structure Fa(M:List (List Rat))(n B i:Nat)(s:wy)(p:Nat->Nat)(Z:Mx):Prop where
 ok:sn n n i s
 NU:∀k,k<n->∀r:Nat,s.2.1[k]? =some (some r)↔r<s.1.length∧p r=k
 yi:yg (dD s.1) p s.1.length n B Z
 up:∀r,r<s.1.length->eF (dD M) i n (dD s.1 r)
 dn:∀j,j<i->eF (dD s.1) s.1.length n (dD M j)
section
variable{M:List (List Rat)}{n B i:Nat}{s:wy}{p:Nat->Nat}{Z:Mx}
theorem Fa.l7(h:Fa M n B i s p Z){x:List Rat}(hx:x.length=n):∀k,k<=n->∀t,t<n->(fm s.1 s.2.1 x k).getD t 0=l7 (dD s.1) p s.1.length (fun t=>x.getD t 0) k t
 |0,_,t,ht=>by rw[JK];rfl
 |k+1,hk,t,ht=>by
  have ih:=Fa.l7 h hx k (by omega);obtain⟨o,ho⟩:∃o,s.2.1[k]? =some o:=⟨_,aB (by rw[h.ok.at_];omega)⟩
  have hd:s.2.1.getD k none=o:=by rw[List.getD,ho];rfl
  rw[fm,hd]
  cases o with
  |none=>
   simp only
   rw[ih t ht,JL fun r hr e=>?_];have:=(h.NU k (by omega) r).2 ⟨hr,e⟩;rw[ho]at this
   cases this
  |some r=>
   simp only
   obtain⟨hr,e⟩:=(h.NU k (by omega) r).1 ho;rw[lk,uX (by rw[hJ,hx];exact ht),ih t ht,ih k (by omega),<-e,JM h.yi.ru hr];rfl
theorem Fa.step(h:Fa M n B i s p Z)(hM:fX n M)(hi:i<M.length){d:Rat}(hd:d≠0)(hz:∀t,t<n->Ib B (d*dD M i t)):
  ∃p' Z',Fa M n B (i+1) (kB n s i (M.getD i [])) p' Z':=by
 have hx:(M.getD i []).length=n:=hM.getD hi;have OJ:=h.ok.step hx;obtain⟨y,hy⟩:∃y,fm s.1 s.2.1 (M.getD i []) n=y:=⟨_,rfl⟩
 have hu:∀t,t<n->y.getD t 0=Go.Ex.l7 (dD s.1) p s.1.length (dD M i) n t:=fun t ht=>by rw[<-hy];exact h.l7 hx n (aF _) t ht
 have hyl:y.length=n:=by rw[<-hy,hJ,hx]
 obtain⟨q1,q2,q3⟩:=Hs y n;by_cases hq:sk y n=n
 ·have e:kB n s i (M.getD i [])=s:=by unfold kB;simp only[hy,hq,if_true]
  rw[e]at OJ ⊢;refine⟨p,Z,OJ,h.NU,h.yi,fun r hr=>(h.up r hr).more (Nat.le_succ i),fun j hj=>?_⟩;rcases aP j i with h1|h1
  ·exact h.dn j h1
  ·rw[show j=i by omega];refine⟨fun j=>dD M i (p j),fun t ht=>?_⟩;have h2:=hu t ht;rw[q2 t (by omega)]at h2;unfold Go.Ex.l7 at h2;rw[cK (g:=fun j=>dD M i (p j)*dD s.1 j t) fun j hj=>if_pos (h.yi.ru.lt j hj)]at h2;grind
 ·have h0:=q3 hq;obtain⟨k,hk⟩:∃k,sk y n=k:=⟨_,rfl⟩
  rw[hk]at hq h0 q1 q2;have hkn:k<n:=by omega
  have e:kB n s i (M.getD i [])=(gK s.1 (y.map (· / y.getD k 0)) k s.1.length++[y.map (· / y.getD k 0)],s.2.1.set k (some s.1.length),s.2.2++[i]):=by
   unfold kB;simp only[hy,hk,aK hq]
  rw[e]at OJ ⊢;have hl:(gK s.1 (y.map (· / y.getD k 0)) k s.1.length).length=s.1.length:=fq ..;have RQ:(gK s.1 (y.map (· / y.getD k 0)) k s.1.length++[y.map (· / y.getD k 0)]).length=s.1.length+1:=by rw[List.length_append,hl];rfl
  have hdv:∀t,t<n->(y.map (· / y.getD k 0)).getD t 0=y.getD t 0 / y.getD k 0:=fun t _=>Hu y _ t;have hE:∀a t,a<s.1.length+1->t<n->dD (gK s.1 (y.map (· / y.getD k 0)) k s.1.length++[y.map (· / y.getD k 0)]) a t=kT (dD s.1) s.1.length (fun t=>y.getD t 0) k a t:=fun a t ha ht=>by
   unfold kT;by_cases h1:a=s.1.length
   ·rw[if_pos h1,<-hdv t ht,dD];congr 1;rw[List.getD,aM (by omega),hl,h1,bK];rfl
   ·have On:a<s.1.length:=by omega
    have hr:=aB On;have Oh:(s.1[a]).length=n:=h.ok.len _ (aY On);have hg:s.1.getD a []=s.1[a]:=by rw[List.getD,hr];rfl
    have OH:(gK s.1 (y.map (· / y.getD k 0)) k s.1.length++[y.map (· / y.getD k 0)]).getD a []=lk s.1[a] (y.map (· / y.getD k 0)) ((s.1[a]).getD k 0):=by
     rw[List.getD,aL (by omega),gK,List.getElem?_mapIdx,hr];simp only[Option.map_some,Option.getD_some,if_pos On]
    rw[aK h1,dD,OH,lk,uX (by omega),hdv t ht];unfold dD;rw[hg]
  have hC:=h.yi.push hd hz hu hkn h0 q2;have RI:=Mh (v:=dD M i) hu h.yi.ru.lt;refine⟨fun i=>if i=s.1.length then k else p i,fun a t=>if a=s.1.length then d*dD M i t else Z a t,OJ,?_,?_,?_,?_⟩
  ·intro c hc r;dsimp only
   rw[RQ];have OG:∀j,j<s.1.length->p j≠k:=fun j hj e=>h0 (by rw[hu k hkn,<-e];exact Gl h.yi.ru hj);by_cases h1:c=k
   ·rw[h1,aW (by rw[h.ok.at_];exact hkn)];constructor
    ·intro e;injection e with e;injection e with e;exact⟨by omega,by rw[if_pos e.symm]⟩
    ·rintro⟨h2,h3⟩;by_cases h4:r=s.1.length
     ·rw[h4]
     ·rw[aK h4]at h3;exact absurd h3 (OG r (by omega))
   ·rw[aX (Ne.symm h1),h.NU c hc r];constructor
    ·rintro⟨h2,h3⟩;exact⟨by omega,by rw[aK (by omega)];exact h3⟩
    ·rintro⟨h2,h3⟩;by_cases h4:r=s.1.length
     ·rw[if_pos h4]at h3;exact absurd h3.symm h1
     ·rw[aK h4]at h3;exact⟨by omega,h3⟩
  ·dsimp only
   rw[RQ];exact hC.congr hE (fun _ _=>rfl) fun _ _ _ _=>rfl
  ·dsimp only
   rw[RQ];intro a ha;refine((JN (k:=k) RI a ha).trans fun b hb=>?_).congr fun t ht=>hE a t ha ht;by_cases h1:b=s.1.length
   ·exact(eF.row (show i<i+1 by omega)).congr fun t _=>by unfold jk;rw[if_pos h1]
   ·exact((h.up b (by omega)).more (Nat.le_succ i)).congr fun t _=>by unfold jk;rw[aK h1]
  ·dsimp only
   rw[RQ];intro j hj;refine eF.FZ ?_ hE;rcases aP j i with h1|h1
   ·exact(h.dn j h1).trans fun b hb=>qO h0 b hb
   ·rw[show j=i by omega];exact BO h0 hu h.yi.ru.lt
end
theorem qQ{M:List (List Rat)}{n B:Nat}(hM:fX n M)(hW:BP M n B):∀i,i<=M.length->∃p Z,Fa M n B i (gq M n i) p Z
 |0,_=>⟨fun _=>0,fun _ _=>0,sn.start n n,fun k _ r=>⟨fun h=>(by
   simp only[gq,List.getElem?_replicate]at h
   split at h<;>cases h),fun h=>(by have:=h.1;simp[gq]at this)⟩,yg.start _ _ _ _ _,fun r h=>(by simp[gq]at h),fun j h=>by omega⟩
 |i+1,hi=>by
  obtain⟨p,Z,h⟩:=qQ hM hW i (by omega);obtain⟨d,hd,-,hz⟩:=hW i (by omega);exact h.step hM (by omega) hd hz
theorem JS(hM:fX n M)(hW:BP M n B)(hB:1<=B){i:Nat}(hi:i<=M.length):∀r∈(gq M n i).1,∀q∈r,rl q<=ln (fB B M.length):=fun r hr q hq=>by
 obtain⟨p,Z,h⟩:=qQ hM hW i hi;obtain⟨a,ha⟩:=aU hr;obtain⟨t,ht⟩:=aU hq;have On:=(aD.1 ha).1;have SY:=(aD.1 ht).1;rw[h.ok.len r hr]at SY;have h1:=h.yi.JQ On SY;rw[dD,show(gq M n i).1.getD a []=r by rw[List.getD,ha];rfl,show r.getD t 0=q by rw[List.getD,ht];rfl]at h1;exact ah h1 (fG (qP hB (ah h.ok.le hi)))
theorem JT(hM:fX n M)(hW:BP M n B)(hB:1<=B){i k:Nat}(hi:i<M.length)(hk:k<=n):∀q∈fm (gq M n i).1 (gq M n i).2.1 (M.getD i []) k,rl q<=ln (fB B M.length):=fun q hq=>by
 obtain⟨p,Z,h⟩:=qQ hM hW i (by omega);have hx:(M.getD i []).length=n:=hM.getD hi;obtain⟨t,ht⟩:=aU hq;have SY:=(aD.1 ht).1;rw[hJ,hx]at SY;have h1:=h.l7 hx k hk t SY;rw[show (fm (gq M n i).1 (gq M n i).2.1 (M.getD i []) k).getD t 0=q by rw[List.getD,ht];rfl]at h1;obtain⟨d,hd,hdB,hz⟩:=hW i hi;rw[h1];exact ah (h.yi.JR hB hd hdB hz k SY) (fG (qP hB (by have:=h.ok.le;omega)))
theorem BQ{s:wy}:∀k,(dC s k).1.length=(dC s k).2.1.length∧(∀i,i<(dC s k).2.1.length->∃r:Nat,s.2.1[(dC s k).2.1.getD i 0]? =some (some r)∧(dC s k).1.getD i []=s.1.getD r []∧(dC s k).2.1.getD i 0<k)∧
  (∀i j,i<j->j<(dC s k).2.1.length->(dC s k).2.1.getD i 0<(dC s k).2.1.getD j 0)∧∀q,q<k->∀r:Nat,s.2.1[q]? =some (some r)->∃i,i<(dC s k).2.1.length∧(dC s k).2.1.getD i 0=q
 |0=>⟨rfl,fun i h=>(by cases h),fun i j _ h=>(by cases h),fun q h=>by omega⟩
 |k+1=>by
  obtain⟨h1,h2,h3,h4⟩:=BQ (s:=s) k;have step:(∃r:Nat,s.2.1[k]? =some (some r)∧dC s (k+1)=((dC s k).1++[s.1.getD r []],(dC s k).2.1++[k],(dC s k).2.2++[s.2.2.getD r 0]))∨((∀r:Nat,s.2.1[k]? ≠some (some r))∧dC s (k+1)=dC s k):=by
   rw[dC]
   cases ho:s.2.1[k]? with
   |none=>exact .inr ⟨fun r e=>(by cases e),by rw[show s.2.1.getD k none=none by rw[List.getD,ho];rfl]⟩
   |some o=>cases o with
    |none=>exact .inr ⟨fun r e=>(by cases e),by rw[show s.2.1.getD k none=none by rw[List.getD,ho];rfl]⟩
    |some r=>exact .inl ⟨r,rfl,by rw[show s.2.1.getD k none=some r by rw[List.getD,ho];rfl]⟩
  rcases step with⟨r,hr,e⟩|⟨hr,e⟩
  ·rw[e];have old:∀i,i<(dC s k).2.1.length->((dC s k).2.1++[k]).getD i 0=(dC s k).2.1.getD i 0:=fun i hi=>by rw[List.getD,aL hi,<-List.getD]
   have new:((dC s k).2.1++[k]).getD (dC s k).2.1.length 0=k:=by rw[List.getD,aM (aF _),bK];rfl
   have hlen:((dC s k).2.1++[k]).length=(dC s k).2.1.length+1:=by simp
   dsimp only
   rw[hlen];refine⟨by simp[h1],fun i hi=>?_,fun i j Pb hj=>?_,fun q hq x hx=>?_⟩
   ·rcases aP i (dC s k).2.1.length with h5|h5
    ·obtain⟨x,x1,x2,x3⟩:=h2 i h5;rw[old i h5];refine⟨x,x1,?_,by omega⟩;rw[List.getD,aL (by omega),<-List.getD];exact x2
    ·rw[show i=(dC s k).2.1.length by omega,new];refine⟨r,hr,?_,by omega⟩;rw[List.getD,aM (by omega),h1,bK];rfl
   ·rcases aP j (dC s k).2.1.length with h5|h5
    ·rw[old i (by omega),old j h5];exact h3 i j Pb h5
    ·rw[show j=(dC s k).2.1.length by omega,new,old i (by omega)];obtain⟨_,_,_,x3⟩:=h2 i (by omega);exact x3
   ·rcases aP q k with h5|h5
    ·obtain⟨i,i1,i2⟩:=h4 q h5 x hx;exact⟨i,by omega,by rw[old i i1];exact i2⟩
    ·exact⟨(dC s k).2.1.length,by omega,by rw[new];omega⟩
  ·rw[e];refine⟨h1,fun i hi=>?_,h3,fun q hq x hx=>?_⟩
   ·obtain⟨x,x1,x2,x3⟩:=h2 i hi;exact⟨x,x1,x2,by omega⟩
   ·rcases aP q k with h5|h5
    ·exact h4 q h5 x hx
    ·rw[show q=k by omega]at hx;exact absurd hx (hr x)
theorem ga{α:Type}{a b:List α}(d:α)(hl:a.length=b.length)(h:∀i,i<a.length->a.getD i d=b.getD i d):a=b:=by
 refine List.ext_getElem hl fun i h1 h2=>?_;have:=h i h1
 rwa [List.getD,List.getD,aB h1,aB h2]at this
theorem lG(hM:fX n M)(hW:BP M n B):(dR M n).2.1=(cM M n).2∧(dR M n).1=(cM M n).1.take (cM M n).2.length:=by
 obtain⟨p,Z,h⟩:=qQ hM hW M.length (aF _);obtain⟨h1,h2,h3,h4⟩:=BQ (s:=gq M n M.length) n;unfold dR;generalize gq M n M.length=s at*
 obtain⟨F,hF⟩:∃F,dC s n=F:=⟨_,rfl⟩
 rw[hF]at h1 h2 h3 h4 ⊢;have OH:∀i,i<F.2.1.length->∃r,r<s.1.length∧p r=F.2.1.getD i 0∧F.1.getD i []=s.1.getD r []∧F.2.1.getD i 0<n:=fun i hi=>by
  obtain⟨r,r1,r2,r3⟩:=h2 i hi;obtain⟨k1,k2⟩:=(h.NU _ r3 r).1 r1;exact⟨r,k1,k2,r2,r3⟩
 have inj:∀i j,i<F.2.1.length->j<F.2.1.length->F.2.1.getD i 0=F.2.1.getD j 0->i=j:=fun i j hi hj e=>by
  rcases bs i j with h5|h5|h5
  ·have:=h3 i j h5 hj;omega
  ·exact h5
  ·have:=h3 j i h5 hi;omega
 have hrf:Rf (dD F.1) (fun i=>F.2.1.getD i 0) F.2.1.length n:=by
  refine⟨fun i hi=>?_,h3,fun i j hi hj=>?_,fun i t hi ht=>?_⟩
  ·obtain⟨_,_,_,_,h5⟩:=OH i hi;exact h5
  ·obtain⟨a,a1,a2,a3,_⟩:=OH i hi;obtain⟨b,b1,b2,b3,_⟩:=OH j hj;rw[dD,b3,<-a2];have:=h.yi.ru.unit a b a1 b1;unfold dD at this;rw[this];by_cases h5:j=i
   ·rw[if_pos h5,if_pos (h.yi.ru.inj b a b1 a1 (by rw[a2,b2,h5]))]
   ·rw[aK h5,aK fun e=>h5 (inj j i hj hi (by rw[<-a2,<-b2,e]))]
  ·obtain⟨a,a1,a2,a3,_⟩:=OH i hi;rw[dD,a3];have:=h.yi.ru.lead a t a1 (by rw[a2];exact ht);unfold dD at this;exact this
 have Vg:∀r,r<s.1.length->eF (dD F.1) F.2.1.length n (dD s.1 r):=fun r hr=>by
  have hp:=h.yi.ru.lt r hr;obtain⟨i,i1,i2⟩:=h4 (p r) hp r ((h.NU _ hp r).2 ⟨hr,rfl⟩);obtain⟨a,a1,a2,a3,_⟩:=OH i i1;have e:a=r:=h.yi.ru.inj a r a1 hr (by rw[a2,i2]);exact(eF.row i1).congr fun t _=>by rw[dD,dD,a3,e]
 obtain⟨e1,e2,e3⟩:=Dm hM hrf (fun i hi=>by
  obtain⟨a,a1,a2,a3,_⟩:=OH i hi
  exact(h.up a a1).congr fun t _=>by rw[dD,dD,a3]) fun j hj=>(h.dn j hj).trans Vg
 obtain⟨g1,g2,-,-,-⟩:=dY hM n (aF _);refine⟨ga 0 e1.symm fun i hi=>(e2 i hi).symm,ga [] ?_ fun i hi=>?_⟩
 ·rw[aV,e1,h1];omega
 ·rw[h1]at hi;have RJ:i<(cM M n).2.length:=by omega
  obtain⟨a,a1,a2,a3,_⟩:=OH i hi;have R8:(F.1.getD i []).length=n:=by rw[a3];exact h.ok.len.getD a1
  have hg:((cM M n).1.take (cM M n).2.length).getD i []=(cM M n).1.getD i []:=by rw[List.getD,bU RJ,<-List.getD]
  rw[hg];refine ga 0 (by rw[R8,g1.getD (by omega)]) fun t ht=>?_;rw[R8]at ht;exact(e3 i t hi ht).symm
structure OA(M:List (List Rat))(n B c:Nat)(s:List (List Rat)×List Nat)(σ:Nat->Nat)(Z:Mx):Prop where
 red:NT n c s
 mon:JJ s
 len:s.1.length=M.length
 yi:yg (dD s.1) (fun i=>s.2.getD i 0) s.2.length n B Z
 Na:∀j,j<M.length->σ j<M.length
 rest:∀j,s.2.length<=j->j<M.length->∀t,t<n->dD s.1 j t=l7 (dD s.1) (fun i=>s.2.getD i 0) s.2.length (dD M (σ j)) n t
theorem OA.step{c:Nat}{Z:Mx}(h:OA M n B c s σ Z)(hW:BP M n B)(hc:c<n):∃σ' Z',OA M n B (c+1) (dX s c) σ' Z':=by
 have QE:=h.red.step hc;have hmon:=h.mon.step h.red hc;have hlen:(dX s c).1.length=M.length:=by rw[nV,h.len]
 obtain⟨hl,hle,hz,RH,hu⟩:=h.red;rcases jX c hle with⟨e,h0⟩|⟨k,h1,h2,h3,e⟩
 ·rw[e]at QE hmon hlen ⊢;exact⟨σ,Z,QE,hmon,hlen,h.yi,h.Na,h.rest⟩
 ·obtain⟨r1,r2⟩:=lC hl h1 h2 h3 e;have e2:(dX s c).2=s.2++[c]:=by rw[e]
  have e3:(dX s c).2.length=s.2.length+1:=by rw[e2];simp
  have hkM:k<M.length:=by rw[<-h.len];exact h2
  have hk:=h.rest k h1 hkM;obtain⟨d,hd,-,hdz⟩:=hW (σ k) (h.Na k hkM);have hC:=h.yi.push (u:=dD s.1 k) hd hdz hk hc h3 fun t ht=>hz k t h1 h2 ht;have hold:∀i,i<s.2.length->(dX s c).2.getD i 0=s.2.getD i 0:=fun i hi=>by rw[e2,List.getD,aL hi,<-List.getD]
  have Pk:(dX s c).2.getD s.2.length 0=c:=by rw[e2,List.getD,aM (aF _),bK];rfl
  have hE:∀i t,i<s.2.length+1->t<n->dD (dX s c).1 i t=kT (dD s.1) s.2.length (dD s.1 k) c i t:=fun i t hi ht=>by
   unfold kT;by_cases SZ:i=s.2.length
   ·rw[if_pos SZ,SZ,r1,bj,bj,bw]
   ·rw[aK SZ,r2 i (by omega) SZ t ht,aK (by omega),bj,bj,bw]
  have Vh:yg (dD (dX s c).1) (fun i=>(dX s c).2.getD i 0) (dX s c).2.length n B fun i t=>if i=s.2.length then d*dD M (σ k) t else Z i t:=by
   rw[e3];refine hC.congr hE (fun i hi=>?_) fun _ _ _ _=>rfl;by_cases SZ:i=s.2.length
   ·rw[if_pos SZ,SZ,Pk]
   ·rw[aK SZ,hold i (by omega)]
  refine⟨fun j=>if j=k then σ s.2.length else σ j,_,QE,hmon,hlen,Vh,fun j hj=>?_,fun j hj hjM t ht=>?_⟩
  ·split
   ·exact h.Na _ (by omega)
   ·exact h.Na j hj
  ·rw[e3]at hj;have hjs:j<s.1.length:=by rw[h.len];exact hjM
   obtain⟨jj,hjj⟩:∃jj,(if j=k then s.2.length else j)=jj:=⟨_,rfl⟩
   have hjr:s.2.length<=jj:=by rw[<-hjj];split<;>omega
   have Sc:jj<M.length:=by rw[<-hjj];split<;>omega
   have hσ:(if j=k then σ s.2.length else σ j)=σ jj:=by rw[<-hjj];split<;>rfl
   rw[hσ];refine LY Vh.ru ?_ (fun i hi=>?_) ht
   ·have hr:eF (dD (dX s c).1) (dX s c).2.length n (dD (dX s c).1 s.2.length):=eF.row (by omega);have h5:eF (dD s.1) s.2.length n fun t=>cY (fun i=>dD M (σ jj) (s.2.getD i 0)*dD s.1 i t) s.2.length:=⟨_,fun t _=>rfl⟩
    have h6:eF (dD (dX s c).1) (dX s c).2.length n fun t=>cY (fun i=>dD M (σ jj) (s.2.getD i 0)*dD s.1 i t) s.2.length:=h5.trans fun i hi=>by
     rw[e3];exact eF.FZ (qO h3 i hi) hE
    refine(h6.add hr (dD s.1 jj c)).congr fun t ht=>?_;have h7:=h.rest jj hjr Sc t ht;unfold l7 at h7;rw[cK (g:=fun i=>dD M (σ jj) (s.2.getD i 0)*dD s.1 i t) fun i hi=>if_pos (h.yi.ru.lt i hi)]at h7;rw[r2 j hjs (by omega) t ht,hjj,r1,h7];grind
   ·rw[QE.2.2.2.2 i j hi (by rw[hlen];exact hjM),aK (by omega)]
theorem pC{M:List (List Rat)}{n B:Nat}(hM:fX n M)(hW:BP M n B):∀c,c<=n->∃σ Z,OA M n B c (cM M c) σ Z
 |0,_=>⟨fun j=>j,fun _ _=>0,⟨hM,aO _,fun _ _ _ _ h=>by omega,fun p hp=>(by cases hp),fun _ _ h=>(by cases h)⟩,⟨fun _ _ _ h=>(by cases h),fun _ _ h=>(by cases h)⟩,rfl,yg.start _ _ _ _ _,fun j hj=>hj,fun j _ hj t ht=>by
   show dD M j t=l7 (dD M) _ 0 (dD M j) n t;unfold l7;show _=_-0
   grind⟩
 |c+1,hc=>by
  obtain⟨σ,Z,h⟩:=pC hM hW c (by omega);unfold cM at h ⊢;rw[bO,List.foldl_append];exact h.step hW (by omega)
theorem r9(hM:fX n M)(hW:BP M n B)(hB:1<=B){c:Nat}(hc:c<=n):∀r∈(cM M c).1,∀q∈r,rl q<=ln (fB B M.length):=fun r hr q hq=>by
 obtain⟨σ,Z,h⟩:=pC hM hW c hc;obtain⟨a,ha⟩:=aU hr;obtain⟨t,ht⟩:=aU hq;have On:=(aD.1 ha).1;have SY:=(aD.1 ht).1;rw[h.red.1 r hr]at SY;have hle:=h.red.2.1;have e:q=dD (cM M c).1 a t:=by rw[dD,show(cM M c).1.getD a []=r by rw[List.getD,ha];rfl,List.getD,ht];rfl
 rw[h.len]at On hle;rw[e];rcases aP a (cM M c).2.length with h1|h1
 ·exact ah (h.yi.JQ h1 SY) (fG (qP hB hle))
 ·obtain⟨d,hd,hdB,hz⟩:=hW _ (h.Na a On);rw[h.rest a h1 On t SY];exact ah (h.yi.JR hB hd hdB hz n SY) (fG (qP hB (by omega)))
end Go.Ex
namespace Go.Ex
open Go Go.Sx Go.Proofs
variable{b:List (Int×Int)}{M:List (List (Int×Int))}{K:List (List Rat)}{qs xs ys:List Rat}{cs:List Value}{h h0:Nat}{C S:Nat->Prop}{a:Option Addr}{p q:Rat}{u v:Value}{w:World}
theorem El{M:List (List Rat)}{a c i k:Nat}(h:i<k):(dc M a c k)[i]? =(dc M a c (i+1))[i]? :=by
 simp only[dc,List.getElem?_mapIdx]
 have:(i<k∧i≠a)↔(i<i+1∧i≠a):=by omega
 simp[this,h]
theorem wX{M:List (List Rat)}{n cols:Nat}(hS:Old S w)(hm:dO w S v M)(hlen:fX n M)(hn:n<=1000)(hR:M.length<=1000)(Pr:cols<=n)(hB:∀c,c<=cols->Ht (cM M c).1 h)(hh:3*h<=90000):
  eD PG N.qz #[v,.int .i64 cols] w (eG w fun v' w2=>∃vm vp,v'= .tuple #[vm,vp]∧dO w2 (Nw S w w2) vm (cM M cols).1∧dK w2 (Nf w w2) vp (cM M cols).2):=by
 have hw:=bR w;replace hm:=dO.arg hm [];obtain⟨rv0,⟨Sn,S4,h1,am,cm,rfl,SR,Oz⟩,hl,hrows⟩:=hm;unfold maxLen at Sn;have Py:fR w (Cv S w.heap.size []) rv0 M:=⟨hl,h1,hrows⟩
 refine vF (by simp) ?_;refine .inl ?_;refine⟨rv0,S4,h1,fun O w' r Oo=>?_,?_⟩
 ·obtain⟨u0,RY⟩:∃u,rv0[0]? =some u:=⟨_,aB (by omega)⟩
  obtain⟨ad,ha,_,_⟩:=Oz 0 u0 RY;refine⟨ad,ha,fun j u hj=>?_⟩;obtain⟨ad2,On,q1,q2⟩:=Oz j u hj;rw[ha]at On;injection On with On;subst On;rw[cH (w:=w) (w2:=w') (by rw[dH];exact Rel.same r hS q1)];exact q2
 refine⟨rfl,by omega,by unfold maxLen;omega,?_⟩;rw[aQ M.length]
 refine⟨Nat×List Value×List (List Rat)×List Nat×World×Iv,fun z=>⟨[(1,iZ cols),(6,.o (.w 0 M.length)),(7,.o (.w 1 z.2.2.2.1.length)),(8,iN z.1)],[(1,.vec T.int 1 (z.2.2.2.1.map fun c:Nat=>.int .i64 (c:Int))),(0,.vec T.fa 1 z.2.1)],2,z.2.2.2.2.2,z.2.2.2.2.1⟩,fun z=>cols-z.1,
  fun z=>z.1<=cols∧(z.2.2.1,z.2.2.2.1)=(List.range z.1).foldl dX (M,[])∧fX n z.2.2.1∧(z.2.2.1.length=M.length∧z.2.2.2.1.length<=M.length)∧eB w.heap.size w z.2.2.2.2.1∧fR z.2.2.2.2.1 (Cv S w.heap.size z.2.2.2.2.2) z.2.1 z.2.2.1,?_,?_⟩
 ·intro O w' r
  exact⟨(0,rv0,M,[],w',[]),⟨aO _,rfl,hlen,⟨rfl,aO _⟩,hw.tr r.cQ,Py.rel r hS⟩,Sub.nil 7 T.int 1 rfl (by simp[jN,SV.sc,At.sc,fW]) r fun ρ1 r1=>
   Sub.gn [(0,1),(1,2)] r1⟩
 rintro⟨c,rv,M1,pv,w1,iv⟩ ⟨hc,RF,Su,hInv,hw,Py⟩;dsimp only at hc RF Su hInv hw Py ⊢;obtain⟨hI1,hI2⟩:=hInv;have hI4:Ht M1 h:=by
  have h5:=hB c hc;rw[show cM M c=(M1,pv)from RF.symm]at h5;exact h5
 have Oh:rv.length=M.length:=by rw[Py.1,hI1]
 refine dN.mk ?_ ?_<;>intro OF
 ·have OF:c<cols:=by simpa using OF
  refine⟨by simp,Nat×World×Iv,fun z=>⟨[(1,iZ cols),(6,.o (.w 0 M.length)),(7,.o (.w 1 pv.length)),(8,iN c),(9,iN pv.length),(10,iN z.1)],[(1,.vec T.int 1 (pv.map fun c:Nat=>.int .i64 (c:Int))),(0,.vec T.fa 1 rv)],2,z.2.2,z.2.1⟩,fun z=>M.length-z.1,
   fun z=>pv.length<=z.1∧z.1<=M.length∧(∀j,pv.length<=j->j<z.1->dD M1 j c=0)∧eB w.heap.size w z.2.1∧fR z.2.1 (Cv S w.heap.size z.2.2) rv M1,?_,?_⟩
  ·intro O w' r;exact⟨(pv.length,w',iv),⟨aF _,hI2,fun j h3 h4=>by dsimp only at h4;omega,hw.tr r.cQ,Py.rel r hS⟩,Sub.gn [] r⟩
  rintro⟨k,w2,iv⟩ ⟨SA,hk1,hkz,hw,Py⟩;dsimp only at SA hk1 hkz hw Py ⊢;have hRl:=Py.1;refine⟨by rw[Oh,aQ,aS],?_⟩;refine dN.mk ?_ ?_<;>intro OI
  ·have OI:k<M.length:=by have:=aI OI;omega
   obtain⟨u,x,hu,hx,hux⟩:=Py.get (i:=k) (by omega);have PW:=Su x (aC hx);obtain⟨y,hy⟩:∃y,x[c]? =some y:=⟨_,aB (by omega)⟩
   have QO:dD M1 k c=y:=by simp[dD,List.getD,hx,hy]
   obtain⟨au,cu,rfl,hcu,-⟩:=dM.shape hux;obtain⟨ad,cs,Od,hF,_,SX⟩:=dM.load hux hy;obtain⟨p0,p1,p2,p3,p4,p5,p6,p7,rfl,hF⟩:=hF;refine⟨by simp[Oh],by omega,.slice au x.length cu,by simpa using hu,ad,Od,by omega,[.bool p0,.slice p1 p2 p3,.bool p4,.slice p5 p6 p7],rfl,fun O w' r i x hx=>?_,?_⟩
   ·obtain⟨k1,k2⟩:=SX i x hx;rw[aE,cH (w:=w2) (w2:=w') (by rw[dH,dH];exact Rel.same r hS k1)];exact k2
   refine cD (cE hw (fun _ w' v w2=>v= .int .i64 (rs y)) (fun O w' r=>oK (Rel.old r hS) (hF.rel r hS)) ?_);rintro O _ _ Pa OM r he hw h_ rfl;replace Py:=Py.cG r hS he (mC h_);refine dN.mk ?_ ?_<;>intro hs
   ·have hs:y=0:=mI.1 (by simpa using hs);refine⟨((k+1:Nat):Int),wo,?_⟩;intro ρ3 w3 r3
    exact⟨(k+1,w3,_),⟨by dsimp only;omega,OI,fun j h3 h4=>by
      by_cases hj:j=k
      ·rw[hj,QO,hs]
      ·exact hkz j h3 (by dsimp only at h4;omega),hw.tr r3.cQ,Py.rel r3 hS⟩,Sub.gn [] r3,by dsimp only;omega⟩
   have hs:y≠0:=fun e=>by rw[e]at hs;exact absurd hs (by decide)
   refine⟨by rw[Oh,aQ,aS],?_⟩;refine dN.mk (fun hge=>absurd (aI hge) (by omega)) (fun _=>?_);obtain⟨uk,xk,huk,hxk,huxk⟩:=Py.get (i:=k) (by omega);obtain⟨ur,xr,hur,Sp,huxr⟩:=Py.get (i:=pv.length) (by omega);have hukc:=Py.2.1 uk (aC huk);have hurc:=Py.2.1 ur (aC hur);obtain⟨aur,cur,rfl,-,-⟩:=dM.shape huxr;obtain⟨auk,cuk,rfl,-,-⟩:=dM.shape huxk;have hsw:fP [] M1 pv.length k=(M1.set pv.length xk).set k xr:=by simp[fP,List.getD,hxk,Sp]
   have Ug:pv.length<M.length:=by omega
   have OG:dD M1 k c≠0:=by rw[QO];exact hs
   have Ok:=yP (s:=(M1,pv)) (c:=c) (k:=k) SA (by show k<M1.length;omega) hkz OG;dsimp only at Ok;have hHt2:=hI4.swap (i:=pv.length) (j:=k) (by omega) (by omega);have hat2:=Di (M:=M1) (i:=pv.length) (j:=k) (c:=c) (by omega) (by omega);have hc1:Ht (dc (scaled (fP [] M1 pv.length k) pv.length c) pv.length c M.length) h:=by
    have h5:=hB (c+1) OF;rw[show cM M (c+1)=dX (M1,pv) c by unfold cM;rw[bO,List.foldl_append,<-RF];rfl,Ok,hI1]at h5;exact h5
   have VN:(∀r,(scaled (fP [] M1 pv.length k) pv.length c)[pv.length]? =some r->∀q∈r,rl q+1<=h)∧∀j r,j≠pv.length->(scaled (fP [] M1 pv.length k) pv.length c)[j]? =some r->∀q∈r,rl q+1<=h:=
    ⟨fun r hr=>hc1 r (aC (i:=pv.length) (by rw[rV];exact hr)),fun j r hj hr=>hHt2 r (aC (i:=j) (by unfold Go.Ex.scaled at hr;rwa [aX (Ne.symm hj)]at hr))⟩
   have R0:=(Py.set (i:=pv.length) hukc huxk).set (i:=k) hurc huxr;rw[<-hsw]at R0;have Vn:fX n (fP [] M1 pv.length k):=by
    rw[hsw];exact(Su.set (Su xk (aC hxk))).set (Su xr (aC Sp))
   have Pn:(fP [] M1 pv.length k).length=M.length:=by rw[j8,hI1]
   generalize hrv2:(rv.set pv.length (.slice auk xk.length cuk)).set k (.slice aur xr.length cur)=rv2 at R0;have QT:rv2.length=M.length:=by rw[R0.1,Pn]
   refine cN hτ dm [.x 0,.x 1,.x 2,.x 3,.x 4,.x 5,.x 6,.x 7,.x 8,.x 9,.x 10,.x 11,.x 12,.x 13,.x 14,.x 15] (by kernel_rfl) (by kernel_rfl) ?_;refine⟨by simp[Oh],by omega,.slice auk xk.length cuk,by simpa using huk,by simp[Oh],by omega,.slice aur xr.length cur,by simpa using hur,by simp[Oh],by omega,by simp[Oh,QT];omega,rv.set pv.length (.slice auk xk.length cuk),by rw[aE,aS];exact fu (by simp[Oh,QT];omega),by simp[Oh],by omega,by simp[Oh,QT];omega,rv2,by rw[aE,aS,<-hrv2];exact fu (by simp[Oh,QT];omega),?_⟩;obtain⟨u2,x2,RI,QM,Sv⟩:=R0.get (i:=pv.length) (by omega);have hx2l:=Vn x2 (aC QM);obtain⟨y2,hy2⟩:∃y,x2[c]? =some y:=⟨_,aB (by omega)⟩
   have hat3:dD (fP [] M1 pv.length k) pv.length c=y2:=by simp[dD,List.getD,QM,hy2]
   have hy20:y2≠0:=by rw[<-hat3,hat2];exact OG
   have RD:(fP [] M1 pv.length k).getD pv.length []=x2:=by simp[List.getD,QM]
   have hscl:scaled (fP [] M1 pv.length k) pv.length c=(fP [] M1 pv.length k).set pv.length (x2.map (· *(1 / y2))):=by rw[scaled,RD,hat3]
   rw[hscl]at Ok VN hc1;have QH:=hHt2.at QM;have UC:=QH y2 (aC hy2);have hinv:=Mr hy20;have R7:((fP [] M1 pv.length k).set pv.length (x2.map (· *(1 / y2)))).length=M.length:=by rw[bE,Pn]
   have hget3:((fP [] M1 pv.length k).set pv.length (x2.map (· *(1 / y2))))[pv.length]? =some (x2.map (· *(1 / y2))):=aW (by omega);have Vo:fX n ((fP [] M1 pv.length k).set pv.length (x2.map (· *(1 / y2)))):=Vn.set (by rw[aJ];exact hx2l);generalize fP [] M1 pv.length k=M2 at*
   obtain⟨au2,cu2,rfl,hcu2,-⟩:=dM.shape Sv;obtain⟨ad2,cs2,PR,R6,_,hlc2⟩:=dM.load Sv hy2;obtain⟨q0,q1,q2,q3,q4,q5,q6,q7,rfl,R6⟩:=R6;replace Oh:=QT;refine cN hτ dm [.x 1,.x 2,.x 3,.x 4,.x 5,.x 6,.x 7,.p 12,.x 0,.x 8,.x 9,.x 10,.x 11,.x 12,.x 13,.x 14] (by kernel_rfl) (by kernel_rfl) ?_;refine⟨by simp[Oh],by omega,.slice au2 x2.length cu2,by simpa using RI,ad2,PR,by omega,[.bool q0,.slice q1 q2 q3,.bool q4,.slice q5 q6 q7],rfl,fun O w' r i x hx=>?_,?_⟩
   ·obtain⟨k1,k2⟩:=hlc2 i x hx;rw[aE,cH (w:=Pa) (w2:=w') (by rw[dH,dH];exact Rel.same r hS k1)];exact k2
   refine cE hw (fun _ w' v w2=>cS w2 (Nf w' w2) v (1:Rat)) (fun O w' r=>(show ((1:Int):Rat)=1 from rfl)▸wY 1 w' (by decide) (by decide)) ?_;rintro O _ _ _ OK r he hw h_ hn;replace R0:=R0.cG r hS he (mC h_);replace Sv:=cV.cG Sv r hS he (mC h_);replace R6:=R6.cG r hS he (mC h_);have h_1:=hn.dE (S:=FF) r.cF (mN h_);obtain⟨A0,A1,A2,A3,A4,A5,A6,A7,rfl⟩:=h_1.shape;refine cE hw (fun _ w' v w2=>∃q,v= .tuple #[q,.int .i64 0]∧cS w2 (Nf w' w2) q (1 / y2)) (fun O w' r=>IQ (Rel.old r hS) (((h_1.rel r (cC w)).l (by rw[Jm];decide)).cJ fun g hg=>Cv.false hg) (R6.rel r hS) hy20) ?_;rintro O _ _ _ OS r he hw h_ ⟨q,rfl,k1⟩;replace R0:=R0.cG r hS he (mC h_);replace Sv:=cV.cG Sv r hS he (mC h_);have PL:=k1.dE (S:=FF) r.cF (mN h_);obtain⟨s3_0a,s3_0b,s3_0c,s3_0d,s3_0e,s3_0f,s3_0g,s3_0h,rfl⟩:=PL.shape;refine cN hτ dm [.x 0,.x 1,.x 2,.x 3,.x 4,.x 5,.x 6,.x 7,.x 8,.x 9] (by kernel_rfl) (by kernel_rfl) ?_;refine⟨by simp[Oh],by omega,.slice au2 x2.length cu2,by simpa using RI,?_⟩;refine cE hw (fun _ w' v w2=>cL w2 (Nf w' w2) v (x2.map (· *(1 / y2)))) (fun O w' r=>(Bi x2 (1 / y2))▸HQ (Rel.old r hS) (cV.nil w' _) (cV.rel Sv r hS) (((PL.rel r (cC w)).l (by omega)).cJ fun g hg=>Cv.false hg) (.inl rfl) (by omega) (fun y hy=>by have:=QH y hy;omega)) ?_;rintro O _ _ _ Oe r he hw h_ hn;replace R0:=R0.cG r hS he (mC h_);have hx3:=cL.dE (S:=FF) hn r.cF (mN h_);obtain⟨a3,c3,rfl,hc3,-⟩:=dM.shape hx3;have hRV3:=R0.set (i:=pv.length) (u:=.slice a3 (x2.map (· *(1 / y2))).length c3) rfl (cV.cJ (cL.l hx3 fun q hq=>by have:=VN.1 _ hget3 q hq;omega) fun g hg=>Cv.false hg);obtain⟨rv3,hrv3⟩:∃rv3,rv3=rv2.set pv.length (.slice a3 (x2.map (· *(1 / y2))).length c3):=⟨_,rfl⟩
   rw[<-hrv3]at hRV3;generalize x2.map (· *(1 / y2))=x3 at*
   generalize hM3:M2.set pv.length x3=M3 at*
   refine⟨by simp[Oh],by omega,by simp[Oh,QT];omega,rv3,by rw[aE,aS,hrv3];exact fu (by simp[Oh,QT];omega),?_⟩;have hrl3:rv3.length=M.length:=by rw[hRV3.1,R7]
   refine⟨Nat×List Value×World×Iv,fun z=>⟨[(1,iZ cols),(6,.o (.w 0 M.length)),(7,.o (.w 1 pv.length)),(8,iN c),(9,iN pv.length),(13,iN z.1)],[(1,.vec T.int 1 (pv.map fun c:Nat=>.int .i64 (c:Int))),(0,.vec T.fa 1 z.2.1)],2,z.2.2.2,z.2.2.1⟩,fun z=>M.length-z.1,
    fun z=>z.1<=M.length∧eB w.heap.size w z.2.2.1∧fR z.2.2.1 (Cv S w.heap.size z.2.2.2) z.2.1 (dc M3 pv.length c z.1),?_,?_⟩
   ·intro O w' r;exact⟨(0,rv3,w',Oe),⟨aO _,hw.tr r.cQ,by dsimp only;rw[CS];exact hRV3.rel r hS⟩,Sub.gn [] r⟩
   rintro⟨i,rv,w4,iv⟩ ⟨hi,hw,Py⟩;dsimp only at hi hw Py ⊢;have Oh:rv.length=M.length:=by rw[Py.1,gj,R7]
   refine⟨by rw[Oh,aQ,aS],?_⟩;refine dN.mk ?_ ?_<;>intro VO
   ·have VO:i<M.length:=by have:=aI VO;omega
    refine dN.mk ?_ ?_<;>intro SZ
    ·have SZ:i≠pv.length:=fun e=>by rw[e]at SZ;simp at SZ
     obtain⟨u4,x4,hu4,hx4,S5⟩:=Py.get (i:=i) (by rw[gj];omega);obtain⟨u5,x5,hu5,hx5,Tb⟩:=Py.get (i:=pv.length) (by rw[gj];omega);rw[Fk _ _ _ _ _ (aF _)]at hx4;rw[rV]at hx5;have hx4l:=Vo x4 (aC hx4);have hx5l:=Vo x5 (aC hx5);obtain⟨y4,hy4⟩:∃y,x4[c]? =some y:=⟨_,aB (by omega)⟩
     have hy4d:x4.getD c 0=y4:=by simp[List.getD,hy4]
     have hx5d:M3.getD pv.length []=x5:=by simp[List.getD,hx5]
     have RU:=VN.2 i x4 SZ hx4;have hb5:=VN.1 x5 hx5;have hyb4:=RU y4 (aC hy4);have hrn:=rh y4;obtain⟨au4,cu4,rfl,hcu4,-⟩:=dM.shape S5;obtain⟨au5,cu5,rfl,hcu5,-⟩:=dM.shape Tb;obtain⟨ad4,cs4,had4,hF4,_,hlc4⟩:=dM.load S5 hy4;obtain⟨e0,e1,e2,e3,e4,e5,e6,e7,rfl,hF4⟩:=hF4;refine⟨by simp[Oh],by omega,.slice au4 x4.length cu4,by simpa using hu4,ad4,had4,by omega,[.bool e0,.slice e1 e2 e3,.bool e4,.slice e5 e6 e7],rfl,fun O w' r i x hx=>?_,?_⟩
     ·obtain⟨k1,k2⟩:=hlc4 i x hx;rw[aE,cH (w:=w4) (w2:=w') (by rw[dH,dH];exact Rel.same r hS k1)];exact k2
     refine cD (cE hw (fun _ w' v w2=>v= .int .i64 (rs y4)) (fun O w' r=>oK (Rel.old r hS) (hF4.rel r hS)) ?_);rintro O _ _ Rg Pp r he hw h_ rfl;replace Py:=Py.cG r hS he (mC h_);replace S5:=cV.cG S5 r hS he (mC h_);replace Tb:=cV.cG Tb r hS he (mC h_);refine dN.mk ?_ ?_<;>intro hs4
     ·have hs4:y4≠0:=fun e=>by rw[e]at hs4;exact absurd hs4 (by decide)
      obtain⟨ad6,cs6,had6,hF6,_,hlc6⟩:=dM.load S5 hy4;obtain⟨f0,f1,f2',f3,f4,f5,f6,f7,rfl,hF6⟩:=hF6;refine cN hτ dm [.x 0,.x 1,.x 2,.x 3,.x 4,.x 5,.x 6,.x 7,.x 8,.x 9,.x 10,.x 11,.x 12,.x 13,.x 14,.x 15,.x 16,.x 17,.x 18,.x 19,.x 20] (by kernel_rfl) (by kernel_rfl) ?_;refine⟨by simp[Oh],by omega,.slice au4 x4.length cu4,by simpa using hu4,by simp[Oh],by omega,.slice au5 x5.length cu5,by simpa using hu5,by simp[Oh],by omega,.slice au4 x4.length cu4,by simpa using hu4,ad6,had6,by omega,[.bool f0,.slice f1 f2' f3,.bool f4,.slice f5 f6 f7],rfl,fun O w' r i x hx=>?_,?_⟩
      ·obtain⟨k1,k2⟩:=hlc6 i x hx;rw[aE,cH (w:=Rg) (w2:=w') (by rw[dH,dH];exact Rel.same r hS k1)];exact k2
      refine cE hw (fun _ w' v w2=>cS w2 (Nf w' w2) v (-y4)) (fun O w' r=>ND (Rel.old r hS) (hF6.rel r hS)) ?_;rintro O _ _ _ Qy r he hw h_ hn;replace Py:=Py.cG r hS he (mC h_);replace S5:=cV.cG S5 r hS he (mC h_);replace Tb:=cV.cG Tb r hS he (mC h_);have hng:=hn.dE (S:=FF) r.cF (mN h_);obtain⟨C0,C1,C2,C3,C4,C5,C6,C7,rfl⟩:=hng.shape;refine cE hw (fun _ w' v w2=>cL w2 (Nf w' w2) v (kO x4 x5 (-y4))) (fun O w' r=>HQ (Rel.old r hS) (cV.rel S5 r hS) (cV.rel Tb r hS) (((hng.rel r (cC w)).l (by omega)).cJ fun g hg=>Cv.false hg) (.inr (by omega)) (by omega) (fun y hy=>by have:=hb5 y hy;omega)) ?_;rintro O _ _ _ TN r he hw h_ hn;replace Py:=Py.cG r hS he (mC h_);have hx7:=cL.dE (S:=FF) hn r.cF (mN h_);obtain⟨a7,c7,rfl,hc7,-⟩:=dM.shape hx7;have Pk:(dc M3 pv.length c i).set i (kO x4 x5 (-y4))=dc M3 pv.length c (i+1):=by
       rw[<-CT hx4 SZ,hy4d,hx5d,GK _ (by omega)]
      have hrow7:(dc M3 pv.length c (i+1))[i]? =some (kO x4 x5 (-y4)):=by rw[<-Pk];exact aW (by rw[gj];omega)
      have hb7:=hc1.at (i:=i) (by rw[El VO];exact hrow7);replace Py:=Py.set (i:=i) (u:=.slice a7 (kO x4 x5 (-y4)).length c7) rfl (cV.cJ (cL.l hx7 fun q hq=>by have:=hb7 q hq;omega) fun g hg=>Cv.false hg);rw[Pk]at Py;refine⟨by simp[Oh],by omega,by simp[Oh];omega,rv.set i (.slice a7 (kO x4 x5 (-y4)).length c7),by rw[aE,aS];exact fu (by omega),((i+1:Nat):Int),wo,?_⟩;intro ρ3 w3 r3;exact⟨(i+1,rv.set i (.slice a7 (kO x4 x5 (-y4)).length c7),w3,_),⟨VO,hw.tr r3.cQ,by dsimp only;rw[show i+1=i+1 from rfl];exact Py.rel r3 hS⟩,Sub.gn [] r3,by dsimp only;omega⟩
     have hs4:y4=0:=mI.1 (by simpa using hs4);refine⟨((i+1:Nat):Int),wo,?_⟩;intro ρ3 w3 r3;exact⟨(i+1,rv,w3,_),⟨VO,hw.tr r3.cQ,by dsimp only;rw[CL hx4 (by rw[hy4d,hs4])];exact Py.rel r3 hS⟩,Sub.gn [] r3,by dsimp only;omega⟩
    have hir1:(i:Int)=pv.length:=by simpa using SZ
    have SZ:i=pv.length:=by omega
    refine⟨((i+1:Nat):Int),wo,?_⟩;intro ρ3 w3 r3;exact⟨(i+1,rv,w3,_),⟨VO,hw.tr r3.cQ,by dsimp only;rw[show dc M3 pv.length c (i+1)=dc M3 pv.length c i by rw[SZ,<-CU]];exact Py.rel r3 hS⟩,Sub.gn [] r3,by dsimp only;omega⟩
   have VO:i=M.length:=by have:=aH VO;omega
   subst VO;refine .inl ?_;refine⟨by simp,by omega,by unfold maxLen;omega,?_⟩;have hpm:(pv++[c]).map (fun c:Nat=>Value.int .i64 (c:Int))=pv.map (fun c:Nat=>Value.int .i64 (c:Int))++[.int .i64 (c:Int)]:=by simp
   rw[hI1]at Ok;refine⟨((c+1:Nat):Int),wo,?_⟩;intro ρ3 w3 r3;have hs:dX (M1,pv) c=((dc M3 pv.length c M.length),(pv++[c])):=Ok;have hf2:((dc M3 pv.length c M.length),(pv++[c]))=(List.range (c+1)).foldl dX (M,[]):=by rw[bO,List.foldl_append,<-RF];exact hs.symm
   have RJ:(dX (M1,pv) c).1.length=M.length∧(dX (M1,pv) c).2.length<=M.length:=by
    have h5:=(dY hlen (c+1) (by omega)).2.1;have h6:=dh M (c+1);rw[show cM M (c+1)=dX (M1,pv) c by unfold cM;rw[bO,List.foldl_append,<-RF];rfl]at h5 h6;omega
   have Pn:=fX.step (s:=(M1,pv)) (c:=c) Su;rw[hs]at RJ Pn;exact⟨(c+1,rv,(dc M3 pv.length c M.length),(pv++[c]),w3,_),⟨OF,hf2,Pn,RJ,hw.tr r3.cQ,Py.rel r3 hS⟩,Sub.gn [(1,3)] r3 ⟨by dsimp only;rw[hpm];rfl,rfl,trivial⟩ ⟨rfl,rfl,by dsimp only;rw[List.length_append,List.length_singleton];rfl,rfl,trivial⟩,by dsimp only;omega⟩
  have OI:k=M.length:=by have:=aH OI;omega
  refine⟨by rw[Oh,aQ,aS],?_⟩;refine dN.mk (fun _=>?_) (fun hge=>absurd (aH hge) (by omega));refine⟨((c+1:Nat):Int),wo,?_⟩;intro ρ3 w3 r3;have hs:dX (M1,pv) c=(M1,pv):=Hh SA (by show k=M1.length;omega) hkz;have hf2:(M1,pv)=(List.range (c+1)).foldl dX (M,[]):=by rw[bO,List.foldl_append,<-RF];exact hs.symm
  have RJ:(dX (M1,pv) c).1.length=M.length∧(dX (M1,pv) c).2.length<=M.length:=by
   have h5:=(dY hlen (c+1) (by omega)).2.1;have h6:=dh M (c+1);rw[show cM M (c+1)=dX (M1,pv) c by unfold cM;rw[bO,List.foldl_append,<-RF];rfl]at h5 h6;omega
  have Pn:=fX.step (s:=(M1,pv)) (c:=c) Su;rw[hs]at RJ Pn;exact⟨(c+1,rv,M1,pv,w3,_),⟨OF,hf2,Pn,RJ,hw.tr r3.cQ,Py.rel r3 hS⟩,Sub.gn [] r3,by dsimp only;omega⟩
 have OF:c=cols:=aR hc (by simpa using OF);subst OF;have QE:cM M c=(M1,pv):=RF.symm;rw[QE];intro ρe we re;refine⟨_,rfl,hw.tr re.cQ,_,_,rfl,⟨rv,?_,Py.1,fun i u x h1 h2=>cV.out (Py.2.2 i u x h1 h2) re hS⟩,?_⟩
 ·have:=re.ie (id:=0) (sz:=1) (m:=M.length) rfl (by rw[Oh,aS]) (by unfold maxLen;omega) (by decide) Py.2.1;rw[show (M1,pv).1.length=M.length from hI1];exact this.cJ fun g hg=>.inr hg
 ·have:=re.ie (id:=1) (sz:=1) (m:=pv.length) rfl (by simp) (by unfold maxLen;omega) (by decide) (fun u hu=>by
   obtain⟨_,_,rfl⟩:=aT.1 hu
   rfl)
  exact this.cJ fun g hg=>.inr hg
theorem KP(hS:Old S w)(h:il w S v M)(hL:dO w S v (fS M))(Pv:∀r∈M,r.length=ek M)(hR:M.length<=1000)(hn:ek M<=1000)(hB:∀c,c<=ek M->Ht (cM (fS M) c).1 h0)(hh:3*h0<=90000):
  eD PG N.ry #[v] w (eG w fun v' _=>v'= .int .i64 (cM (fS M) (ek M)).2.length):=by
 have hw:=bR w;have S6:(fS M).length=M.length:=by simp[fS]
 have hlen:fX (ek M) (fS M):=fun r hr=>by
  rw[fS]at hr;obtain⟨x,hx,rfl⟩:=aT.1 hr;rw[aJ];exact Pv x hx
 replace h:=il.arg h [];replace hL:=dO.arg hL [];obtain⟨am,cm,rfl,SR,R1⟩:=db.shape h;refine Ab (by simp) ?_;refine cD (cE hw (fun _ w' v w2=>v= .int .i64 (ek M)) (fun O w' r=>zy (Rel.old r hS) (il.rel h r hS)) ?_);rintro O _ _ _ OM r he hw h_ rfl;replace hL:=dO.cG hL r hS he (mC h_);refine cD (cO (Φ:=fun _ w' v w2=>∃vm vp,v= .tuple #[vm,vp]∧dO w2 (Nw (Cv S w.heap.size OM) w' w2) vm (cM (fS M) (ek M)).1∧dK w2 (Nf w' w2) vp (cM (fS M) (ek M)).2) (fun O w' r=>wX (Rel.old r hS) (dO.rel hL r hS) hlen (by omega) (by omega) (aF _) hB hh) ?_);rintro O Ph v2 PD r he hb ⟨vm,vp,rfl,k1,k2⟩;replace hw:=hw.tr hb;have hA:=dO.old k1 r.cF;have hP:=dK.dE (S:=FF) k2 r.cF (iv:=(Ph.heap.size,PD.heap.size)::OM) aG;generalize (Ph.heap.size,PD.heap.size)::OM=OK at*
 obtain⟨aA,cA,rfl,hcA,-⟩:=db.shape hA;have hPs:=hP;obtain⟨-,-,-,ap,cp,rfl,hcp,-⟩:=hPs;exact rtn hw fun ρe we re=>rfl
theorem IS(hS:Old S w)(h:il w S v M)(hL:dO w S v (fS M))(hu:cV w S u (b.map gI))(Pv:∀r∈M,r.length=ek M)(Pf:b.length=M.length)(hR:M.length<=1000)(hn:ek M<=999)
  (hB:∀c,c<=ek M->Ht (cM (dF (fS M) (b.map gI)) c).1 h0) (hh:3*h0<=90000):
  eD PG N.pU #[v,u] w (eG w fun v' w2=>(∃j,(cM (dF (fS M) (b.map gI)) (ek M)).2.length<=j∧j<M.length∧dD (cM (dF (fS M) (b.map gI)) (ek M)).1 j (ek M)≠0∧v'= .tuple #[.slice none 0 0,.bool false])∨
   ((∀j,(cM (dF (fS M) (b.map gI)) (ek M)).2.length<=j->j<M.length->dD (cM (dF (fS M) (b.map gI)) (ek M)).1 j (ek M)=0)∧∃vx,v'= .tuple #[vx,.bool true]∧cL w2 (Nf w w2) vx (fp (cM (dF (fS M) (b.map gI)) (ek M)).1 (cM (dF (fS M) (b.map gI)) (ek M)).2 (ek M) (cM (dF (fS M) (b.map gI)) (ek M)).2.length))):=by
 have hw:=bR w;have S6:(fS M).length=M.length:=by simp[fS]
 have Vp:fX (ek M) (fS M):=fun r hr=>by
  rw[fS]at hr;obtain⟨x,hx,rfl⟩:=aT.1 hr;rw[aJ];exact Pv x hx
 have hlen:=gX (b:=b.map gI) Vp;have TH:(dF (fS M) (b.map gI)).length=M.length:=by rw[eA,S6]
 replace h:=il.arg h [];replace hL:=dO.arg hL [];replace hu:=cV.arg hu [];obtain⟨am,cm,rfl,SR,R1⟩:=db.shape h;obtain⟨ab,cb,rfl,Pu,-⟩:=dM.shape hu;refine zX (by simp) ?_;refine cD (cE hw (fun _ w' v w2=>v= .int .i64 (ek M)) (fun O w' r=>zy (Rel.old r hS) (il.rel h r hS)) ?_);rintro O _ v1 _ OM r he hw h_ rfl;replace hL:=dO.cG hL r hS he (mC h_);replace hu:=cV.cG hu r hS he (mC h_);refine cD (cO (Φ:=fun _ w' v w2=>dO w2 (Nw (Cv S w.heap.size OM) w' w2) v (dF (fS M) (b.map gI))) (fun O w' r=>KQ (Rel.old r hS) (dO.rel hL r hS) (cV.rel hu r hS) (by rw[aJ,S6];exact Pf) (fun r hr=>by rw[Vp r hr];omega) (by omega)) ?_);rintro O Ph v2 PD r he hb hn;replace hw:=hw.tr hb;have hW:=dO.old hn r.cF;generalize (Ph.heap.size,PD.heap.size)::OM=OK at*
 refine cD (cO (Φ:=fun _ w' v w2=>∃vm vp,v= .tuple #[vm,vp]∧dO w2 (Nw (Cv S w.heap.size OK) w' w2) vm (cM (dF (fS M) (b.map gI)) (ek M)).1∧dK w2 (Nf w' w2) vp (cM (dF (fS M) (b.map gI)) (ek M)).2) (fun O w' r=>wX (Rel.old r hS) (dO.rel hW r hS) hlen (by omega) (by omega) (by omega) hB hh) ?_);rintro O PQ v3 PN r he hb ⟨vm,vp,rfl,k1,k2⟩;replace hw:=hw.tr hb;have hA:=dO.old k1 r.cF;have hP:=dK.dE (S:=FF) k2 r.cF (iv:=(PQ.heap.size,PN.heap.size)::OK) aG;generalize (PQ.heap.size,PN.heap.size)::OK=OS at*
 obtain⟨aA,cA,rfl,hcA,-⟩:=db.shape hA;have hPs:=hP;obtain⟨-,-,-,ap,cp,rfl,hcp,-⟩:=hPs;have hAl:=dh (dF (fS M) (b.map gI)) (ek M);obtain⟨-,PV,-,RH,-⟩:=dY hlen (ek M) (by omega);rw[hAl]at PV;have hAh:=hB (ek M) (aF _);have hAlen:=EJ (cols:=ek M) hlen;rw[TH]at hAl PV;generalize (cM (dF (fS M) (b.map gI)) (ek M)).1=A at*
 generalize (cM (dF (fS M) (b.map gI)) (ek M)).2=pv at*
 generalize ek M=cols at*
 rw[<-hAl]at hR PV ⊢
 refine⟨cols,cols,rfl,rfl,aF _,by omega,by omega,Nat×List (List Value)×World×Iv,fun z=>⟨[(6,iZ cols),(7,sV aA A.length cA),(8,sV ap pv.length cp),(9,.o (.s 0 0 cols cols)),(10,iN z.1)],[(0,.arr T.Rat z.2.1.flatten)],1,z.2.2.2,z.2.2.1⟩,fun z=>cols-z.1,
  fun z=>z.1<=cols∧z.2.1.length=cols∧(∀x∈z.2.1,x.length=4)∧eB w.heap.size w z.2.2.1∧dO z.2.2.1 (Cv S w.heap.size z.2.2.2) (.slice aA A.length cA) A∧dK z.2.2.1 (Cf w z.2.2.2) (.slice ap pv.length cp) pv∧
   kE z.2.2.1 (Cf w z.2.2.2) z.2.1 z.1,?_,?_⟩
 ·intro O w' r
  exact⟨(0,List.replicate cols [.bool false,.slice none 0 0,.bool false,.slice none 0 0],w',OS),⟨aO _,by simp,fun x hx=>by rw[bL hx];rfl,hw.tr r.cQ,dO.rel hA r hS,dK.rel hP r (cC w),fun j cs hj=>by dsimp only at hj;omega⟩,
   Sub.gn [] r⟩
 rintro⟨k,css,w2,iv⟩ ⟨hk,Po,R4,hw,hA,hP,hz⟩;dsimp only at hk Po R4 hw hA hP hz ⊢;refine dN.mk ?_ ?_<;>intro OI
 ·have OI:k<cols:=by simpa using OI
  refine cD (cE hw (fun _ w' v w2=>cS w2 (Nf w' w2) v (0)) (fun O w' r=>(show ((0:Int):Rat)=0 from rfl)▸wY 0 w' (by decide) (by decide)) ?_);rintro O _ _ _ Oe r he hw h_ hn;replace hA:=dO.cG hA r hS he (mC h_);replace hP:=dK.cG hP r (cC w) he (mC h_);replace hz:=hz.cG r (cC w) he (mC h_);have h_0:=hn.dE (S:=FF) r.cF (mN h_);obtain⟨A0,A1,A2,A3,A4,A5,A6,A7,rfl⟩:=h_0.shape;refine⟨by omega,?_⟩;have OX:=eH R4;refine⟨by rw[aE,OX];omega,(css.set k [.bool A0,.slice A1 A2 A3,.bool A4,.slice A5 A6 A7]).flatten,by rw[aE,aQ];exact jH (css:=css) (j:=k) R4 (by omega),((k+1:Nat):Int),wo,?_⟩;intro ρ3 w3 r3
  exact⟨(k+1,css.set k [.bool A0,.slice A1 A2 A3,.bool A4,.slice A5 A6 A7],w3,_),⟨OI,by simp[Po],KR R4 rfl,hw.tr r3.cQ,dO.rel hA r3 hS,dK.rel hP r3 (cC w),(hz.rel r3 (cC w)).push (h_0.rel r3 (cC w)).rD⟩,
   Sub.gn [] r3,by dsimp only;omega⟩
 have OI:k=cols:=aR hk (by simpa using OI);subst OI;have hFc:Fc w2 (Cf w iv) css (fp A pv k 0):=by
  refine⟨by rw[Po,jD],fun j cs q h1 h2=>?_⟩;have hj:=(aD.1 h1).1;simp only[fp,List.range_zero,List.foldl_nil,List.getElem?_replicate]at h2;split at h2
  ·injection h2 with h2;rw[<-h2];exact hz j cs (by omega) h1
  ·cases h2
 refine⟨Nat×Nat×World×Iv,fun z=>⟨[(9,.o (.v (.slice (some ⟨z.2.1,0,none⟩) k k))),(6,iZ k),(7,sV aA A.length cA),(8,sV ap pv.length cp),(11,iN z.1)],[],1,z.2.2.2,z.2.2.1⟩,fun z=>A.length-z.1,
  fun z=>z.1<=A.length∧(∀j,pv.length<=j->j<z.1->dD A j k=0)∧eB w.heap.size w z.2.2.1∧(∀p,p∈iv->p∈z.2.2.2)∧¬Cv S w.heap.size iv z.2.1∧w.heap.size<=z.2.1∧dO z.2.2.1 (Cv S w.heap.size iv) (.slice aA A.length cA) A∧dK z.2.2.1 (Cf w iv) (.slice ap pv.length cp) pv∧
   da z.2.2.1 FF w.heap.size z.2.2.2 (.slice (some ⟨z.2.1,0,none⟩) k k) k (fp A pv k (min z.1 pv.length)),?_,?_⟩
 ·intro O w' r
  exact⟨(0,(O 0).g,w',((O 0).g,(O 0).g+1)::iv),⟨aO _,fun j h3 h4=>by dsimp only at h4;omega,hw.tr r.cQ,fun p hp=>List.mem_cons_of_mem _ hp,fun hg=>Rel.not r hS hg 0 _ rfl (r.fits (id:=0) rfl).1 rfl,(r.low 0 _ rfl (r.fits (id:=0) rfl).1).1,dO.rel hA r hS,dK.rel hP r (cC w),by dsimp only;rw[Nat.zero_min];exact da.jw r (id:=0) rfl Po (by unfold maxLen;omega) hFc⟩,
   Sub.jw r (id:=0) (t:=9) rfl rfl trivial rfl ⟨rfl,rfl,rfl,rfl,trivial⟩ (by simp[jN,SV.sc,At.sc])⟩
 rintro⟨i,gx,w5,Pp⟩ ⟨hi,hzr,hw,Ps,Qe,hxB,hA,hP,hX⟩;dsimp only at hi hzr hw Ps Qe hxB hA hP hX ⊢;refine dN.mk ?_ ?_<;>intro RJ
 ·have RJ:i<A.length:=by simpa using RJ
  obtain⟨ra,hra⟩:∃r,A[i]? =some r:=⟨_,aB (by omega)⟩
  have hral:=hAlen ra (aC hra);obtain⟨adm,um,RL,PS,km1,km2⟩:=db.load hA hra;obtain⟨au,cu,rfl,hcu,-⟩:=dM.shape PS;obtain⟨q,hq⟩:∃q,ra[k]? =some q:=⟨_,aB (by omega)⟩
  have QO:dD A i k=q:=by simp[dD,List.getD,hra,hq]
  obtain⟨adq,cs,TM,hF,_,hl⟩:=dM.load PS hq;obtain⟨b3,a3,n3,c3,b4,a4,n4,c4,rfl,hF⟩:=hF;have SN:∀{H nx O w'},Rel H nx Pp w.heap.size w5 O w'->∀{g},Cv S w.heap.size iv g->w'.heap[g]? =w5.heap[g]? :=fun r g hg=>Rel.same r hS (hg.mono Ps);refine dN.mk ?_ ?_<;>intro Vq
  ·have Vq:i<pv.length:=by simpa using Vq
   obtain⟨p,hpi⟩:∃p,pv[i]? =some p:=⟨_,aB Vq⟩
   have hpd:pv.getD i 0=p:=by simp[List.getD,hpi]
   have hpcol:=RH p (aC hpi);have hPs:=hP;obtain⟨_,_,_,_,_,hpe,_,hpcell⟩:=hPs;injection hpe with hpe1 hpe2 hpe3;subst hpe1 hpe3;obtain⟨adp,RA,kp1,kp2⟩:=hpcell i (.int .i64 (p:Int)) (by rw[aN,hpi];rfl);rw[Nat.min_eq_left (by omega)]at hX;refine cN hτ dm [.x 0,.x 1,.x 2,.x 3,.x 4,.x 5,.x 6,.x 7,.x 8,.x 9,.x 10,.x 11,.x 12,.x 13,.x 14] (by kernel_rfl) (by kernel_rfl) ?_;refine⟨adp,RA,by omega,.int .i64 (p:Int),fun O w' r=>?_,?_⟩
   ·rw[aE,aS,cH (w:=w5) (w2:=w') (by rw[dH];exact SN r (Aj kp1))];exact kp2
   refine⟨adm,RL,by omega,.slice au ra.length cu,fun O w' r=>?_,?_⟩
   ·rw[aE,cH (w:=w5) (w2:=w') (by rw[dH];exact SN r km1)];exact km2
   refine⟨adq,TM,by omega,[.bool b3,.slice a3 n3 c3,.bool b4,.slice a4 n4 c4],rfl,fun O w' r j u hu=>?_,?_⟩
   ·obtain⟨k1,k2⟩:=hl j u hu;rw[aE,cH (w:=w5) (w2:=w') (by rw[dH,dH];exact SN r k1)];exact k2
   refine cO (Φ:=fun _ w' v w2=>cS w2 (Nf w' w2) v q) (fun O w' r=>fz (fun g hg=>Rel.old r hS g (hg.mono Ps)) (hF.cI fun g hg=>SN r hg)) ?_;rintro O wa v1 wb r he hb hO;have hON:cS wb (fun g=>Cf w ((wa.heap.size,wb.heap.size)::Pp) g∧(Value.slice (some ⟨gx,0,none⟩) k k).ownBlock≠some g) v1 q:=hO.cJ fun g hg=>by
    rcases hg with hg|hg
    ·exact hg.elim
    ·have hB:=r.cF;have:=Rel.old r hS gx (Aj (hX.new gx rfl));refine⟨.inr ⟨by omega,_,_,aG,hg.1,hg.2⟩,fun e=>?_⟩;have e2:gx=_:=Option.some.inj e;omega
   replace hX:=hX.cG (iv':=(wa.heap.size,wb.heap.size)::Pp) r (cC w) he fun x hx=>List.mem_cons_of_mem _ hx;have Tc:∀g,Cv S w.heap.size iv g->wb.heap[g]? =w5.heap[g]? :=fun g hg=>by rw[he.block g (Rel.old r hS g (hg.mono Ps)),Rel.same r hS (hg.mono Ps)]
   replace hA:=dO.cI hA Tc;replace hP:=iB.cI hP fun g hg=>Tc g (Aj hg);replace hw:=hw.tr hb;replace Ps:∀p,p∈iv->p∈(wa.heap.size,wb.heap.size)::Pp:=fun p hp=>List.mem_cons_of_mem _ (Ps p hp);generalize (wa.heap.size,wb.heap.size)::Pp=Qy at*
   obtain⟨b1,a1,n1,c1,b2,a2,n2,c2,rfl⟩:=hON.shape;refine⟨⟨gx,0,none⟩,rfl,by omega,?_⟩;intro O w' r;obtain⟨_,TL,h1,h2',h3,h4,h5⟩:=(hX.rel r (cC w)).store hpcol (cS.cI hON fun g hg=>Rel.same r (cC w) hg.1) r (cC w);injection TL with TL;injection TL with TL;subst TL;have Tc:∀g,Cv S w.heap.size iv g->w'.heap[g]? =wb.heap[g]? :=fun g hg=>Rel.same r hS (hg.mono Ps);replace hw:=hw.tr r.cQ;have hold:∀g,Cv S w.heap.size Qy g->g<w'.heap.size:=Rel.old r hS;refine⟨h1,h2',h3,fun w2 Ow=>?_⟩;obtain⟨hX,PX,-⟩:=h5 w2 Ow;have hkp2:∀g,Cv S w.heap.size iv g->w2.heap[g]? =wb.heap[g]? :=fun g hg=>by
    rw[<-Tc g hg];exact PX.block g (hold g (hg.mono Ps)) fun e=>by injection e with e;subst e;exact Qe hg
   replace hA:=dO.cI hA hkp2;replace hP:=iB.cI hP fun g hg=>hkp2 g (Aj hg);replace hw:eB w.heap.size w w2:=hw.tr (eB.grown PX (fun g hg=>by injection hg with hg;subst hg;exact hxB) (by have:=hw.size;omega));rw[<-QO,<-hpd,<-gR]at hX;refine⟨((i+1:Nat):Int),wo,?_⟩;intro ρ3 w3 r3;have Tc:∀g,Cv S w.heap.size iv g->w3.heap[g]? =w2.heap[g]? :=fun g hg=>Rel.same r3 hS (hg.mono Ps)
   exact⟨(i+1,gx,w3,Qy),⟨RJ,fun j h3 h4=>by dsimp only at h4;omega,hw.tr r3.cQ,Ps,Qe,hxB,dO.cI hA Tc,iB.cI hP fun g hg=>Tc g (Aj hg),by dsimp only;rw[Nat.min_eq_left (by omega)];exact hX.rel r3 (cC w)⟩,
    Sub.gn [] r3,by dsimp only;omega⟩
  have Vq:pv.length<=i:=by have:=aH Vq;omega
  refine⟨adm,RL,by omega,.slice au ra.length cu,fun O w' r=>?_,?_⟩
  ·rw[aE,cH (w:=w5) (w2:=w') (by rw[dH];exact SN r km1)];exact km2
  refine⟨adq,TM,by omega,[.bool b3,.slice a3 n3 c3,.bool b4,.slice a4 n4 c4],rfl,fun O w' r j u hu=>?_,?_⟩
  ·obtain⟨k1,k2⟩:=hl j u hu;rw[aE,cH (w:=w5) (w2:=w') (by rw[dH,dH];exact SN r k1)];exact k2
  refine cD (cO (Φ:=fun _ w' v w2=>v= .int .i64 (rs q)) (fun O w' r=>oK (fun g hg=>Rel.old r hS g (hg.mono Ps)) (hF.cI fun g hg=>SN r hg)) ?_);rintro O wa v1 wb r he hb rfl;replace hX:=hX.cG (iv':=(wa.heap.size,wb.heap.size)::Pp) r (cC w) he fun x hx=>List.mem_cons_of_mem _ hx;have Tc:∀g,Cv S w.heap.size iv g->wb.heap[g]? =w5.heap[g]? :=fun g hg=>by rw[he.block g (Rel.old r hS g (hg.mono Ps)),Rel.same r hS (hg.mono Ps)]
  replace hA:=dO.cI hA Tc;replace hP:=iB.cI hP fun g hg=>Tc g (Aj hg);replace hw:=hw.tr hb;replace Ps:∀p,p∈iv->p∈(wa.heap.size,wb.heap.size)::Pp:=fun p hp=>List.mem_cons_of_mem _ (Ps p hp);generalize (wa.heap.size,wb.heap.size)::Pp=Qy at*
  refine dN.mk ?_ ?_<;>intro hs
  ·have hs:q≠0:=fun e=>by rw[mI.2 e]at hs;exact absurd hs (by decide)
   exact rtn hw fun ρe we re=>.inl ⟨i,Vq,RJ,by rw[QO];exact hs,rfl⟩
  have hs:q=0:=mI.1 (by simpa using hs);refine⟨((i+1:Nat):Int),wo,?_⟩;intro ρ3 w3 r3;have Tc:∀g,Cv S w.heap.size iv g->w3.heap[g]? =wb.heap[g]? :=fun g hg=>Rel.same r3 hS (hg.mono Ps)
  exact⟨(i+1,gx,w3,Qy),⟨RJ,fun j h3 h4=>by
    by_cases hj:j=i
    ·rw[hj,QO,hs]
    ·exact hzr j h3 (by dsimp only at h4;omega),hw.tr r3.cQ,Ps,Qe,hxB,dO.cI hA Tc,iB.cI hP fun g hg=>Tc g (Aj hg),by dsimp only;rw[Nat.min_eq_right (by omega),<-Nat.min_eq_right Vq];exact hX.rel r3 (cC w)⟩,
   Sub.gn [] r3,by dsimp only;omega⟩
 have RJ:i=A.length:=aR hi (by simpa using RJ);subst RJ;rw[Nat.min_eq_right PV]at hX;intro ρe we re;refine⟨_,rfl,hw.tr re.cQ,.inr ⟨hzr,_,rfl,?_⟩⟩;exact cL.out hX.aAO re (cC w)
section
variable{S:Nat->Prop}{H:Hp}{nx:Nat}{iv iv':Iv}{B:Nat}{w w' w2:World}{O:Nat->Sx.dg}{css:List (List Value)}{qs:List Rat}
theorem Fc.rel(h:Fc w (Cv S B iv) css qs)(r:Rel H nx iv B w O w')(hS:∀g,S g->g<B):Fc w' (Cv S B iv) css qs:=h.cI fun _ hg=>Rel.same r hS hg
theorem Fc.cG(h:Fc w (Cv S B iv) css qs)(r:Rel H nx iv B w O w')(hS:∀g,S g->g<B)(he:Ext w' w2)(hm:∀p,p∈iv->p∈iv'):Fc w2 (Cv S B iv') css qs:=
 ((h.rel r hS).cI fun g hg=>he.block g (Rel.old r hS g hg)).cJ fun _ hg=>hg.mono hm
theorem Fc.push(h:Fc w S css qs)(hc:iM w S cs q):Fc w S (css++[cs]) (qs++[q]):=by
 refine⟨by simp[h.1],fun j x p h1 h2=>?_⟩;rcases aP j css.length with hi|hi
 ·rw[aL hi]at h1;rw[aL (by rw[<-h.1];exact hi)]at h2;exact h.2 j x p h1 h2
 ·have RV:j=css.length:=by have:=(aD.1 h1).1;simp at this;omega
  subst RV;rw[aM (aF _),bK]at h1;rw[h.1,aM (aF _),bK]at h2;simp at h1 h2;subst h1 h2;exact hc
end
section
variable{S S':Nat->Prop}{H:Hp}{nx:Nat}{iv iv':Iv}{B:Nat}{w w' w2:World}{O:Nat->Sx.dg}{v:Value}{b:List (Int×Int)}
end
def iP(qs:List Rat):List (Int×Int):=qs.map fun q=>(q.num,(q.den:Int))
theorem Bn(qs:List Rat):(iP qs).length=qs.length:=aJ ..
theorem FA(qs:List Rat):(iP qs).map gI=qs:=by
 unfold iP;rw[List.map_map];exact(List.map_congr_left fun q _=>oO q).trans (List.map_id qs)
theorem GQ(K:List (List Rat)):fS (K.map iP)=K:=by
 unfold fS;rw[List.map_map];exact(List.map_congr_left fun q _=>FA q).trans (List.map_id K)
theorem cL.iP(h:cL w S v qs):nK w S v (iP qs):=by
 obtain⟨css,h1,h2,h3,h4⟩:=h;refine⟨css,by unfold Go.Ex.iP;rw[aJ];exact h1,by unfold Go.Ex.iP;rw[aJ];exact h2,h3,fun j cs x k1 k2=>?_⟩;unfold Go.Ex.iP at k2;rw[aN]at k2;obtain⟨q,hq,rfl⟩:=Option.map_eq_some_iff.1 k2;obtain⟨b,a,n,c,b2,a2,n2,c2,rfl,hr⟩:=h4 j cs q k1 hq;exact hr.four
theorem cT.iP(h:cT w S v K):il w S v (K.map iP):=by
 obtain⟨rv,h1,h2,h3⟩:=h;refine⟨rv,by rw[aJ];exact h1,by rw[aJ];exact h2,fun i u x k1 k2=>?_⟩;rw[aN]at k2;obtain⟨q,hq,rfl⟩:=Option.map_eq_some_iff.1 k2;exact(h3 i u q k1 hq).iP
section
variable{S:Nat->Prop}{w:World}{v u:Value}{M:List (List (Int×Int))}{b:List (Int×Int)}
end
theorem cT.l(h:cT w S v K)(hq:∀r∈K,∀q∈r,rl q<=100000):dO w S v K:=by
 obtain⟨rv,h1,h2,h3⟩:=h;exact⟨rv,h1,h2,fun i u x k1 k2=>(h3 i u x k1 k2).l (hq x (aC k2))⟩
theorem eR.zero:eR w S (.agg #[.bool false,.slice none 0 0,.bool false,.slice none 0 0]) 0:=
 ⟨_,_,_,_,0,0,rfl,⟨false,[],⟨_,rfl,dL.nil _ _⟩,rfl,aO _⟩,⟨false,[],⟨_,rfl,dL.nil _ _⟩,rfl,aO _⟩,by decide⟩
section
variable{S:Nat->Prop}{w:World}{v u:Value}{M:List (List (Int×Int))}{x:List Rat}
end
theorem pr(q:Rat):rs (q-0)=rs q:=by rw[show q-0=q by grind]
theorem lO(n:Int)(w:World)(h1n: -9223372036854775808<=n)(h2n:n<=9223372036854775807):eD PG N.qt #[.int .i64 n] w (eG w fun v' w2=>cS w2 (Nf w w2) v' (n:Rat)):=by
 have hw:=bR w;refine uz (by simp) ?_;refine cD (cE hw (fun _ w' v w2=>cS w2 (Nf w' w2) v ((n:Rat))) (fun O w' r=>Fs n w' h1n h2n) ?_);rintro O _ _ _ OM r he hw h_ hn;have hd:=hn.dE (S:=FF) r.cF (mN h_);obtain⟨A0,A1,A2,A3,A4,A5,A6,A7,rfl⟩:=hd.shape;exact rtn hw fun ρe we re=>hd.out re (cC w)
theorem qU(hS:Old S w)(hq:eR w S v q):eD PG N.tR #[v] w (eG w fun v' _=>∃d,v'= .bool d∧(d=true↔q=0)):=by
 have hw:=bR w;obtain⟨f0,f1,f2,f3,f4,f5,f6,f7,rfl⟩:=hq.shape;refine xK (by simp) ?_;refine cD (cE hw (fun _ w' v w2=>v= .int .i64 (rs q)) (fun O w' r=>(Ft (oS hS r) (hq.v.cI (kS hw r hS)) (eR.zero (S:=S)).v).mono fun _ _ ⟨v2,e1,e2,e3⟩=>⟨v2,e1,e2,by rw[e3,pr]⟩) ?_);rintro O _ _ _ OM r he hw h_ rfl;intro ρe we re;refine⟨_,rfl,hw.tr re.cQ,_,rfl,?_⟩;rw[beq_iff_eq];exact mI
theorem Mv(hS:Old S w)(hp:eR w S v p)(hq:eR w S u q)(h0:q≠0):eD PG N.wJ #[v,u] w (eG w fun v' w2=>cS w2 (Nf w w2) v' (p / q)):=by
 have hw:=bR w;obtain⟨f0,f1,f2,f3,f4,f5,f6,f7,rfl⟩:=hp.shape;obtain⟨g0,g1,g2,g3,g4,g5,g6,g7,rfl⟩:=hq.shape;refine zY (by simp) ?_;refine cD (cE hw (fun _ w' v w2=>∃r,v= .tuple #[r,.int .i64 0]∧cS w2 (Nf w' w2) r (p / q)) (fun O w' r=>(Mw (oS hS r) (hp.v.cI (kS hw r hS)) (hq.v.cI (kS hw r hS))).mono fun _ _ ⟨v2,e1,e2,e3⟩=>⟨v2,e1,e2,e3.elim (fun h=>absurd h.1 h0) fun h=>h.2⟩) ?_);rintro O _ _ _ OM r he hw h_ ⟨q1,rfl,k1⟩;have hd:=k1.dE (S:=FF) r.cF (mN h_);obtain⟨s1_0a,s1_0b,s1_0c,s1_0d,s1_0e,s1_0f,s1_0g,s1_0h,rfl⟩:=hd.shape;exact rtn hw fun ρe we re=>hd.out re (cC w)
theorem Jy(hS:Old S w)(hq:eR w S v q):eD PG N.wP #[v] w (eG w fun v' w2=>cS w2 (Nf w w2) v' (-q)):=by
 have hw:=bR w;obtain⟨f0,f1,f2,f3,f4,f5,f6,f7,rfl⟩:=hq.shape;refine zd (by simp) ?_;refine cD (cE hw (fun _ w' v w2=>cS w2 (Nf w' w2) v (-q)) (fun O w' r=>(Jz (oS hS r) (eR.zero (S:=S)).v (hq.v.cI (kS hw r hS))).mono fun _ _ ⟨v2,e1,e2,e3⟩=>⟨v2,e1,e2,by rwa [show (0:Rat)-q= -q by grind]at e3⟩) ?_);rintro O _ _ _ OM r he hw h_ hn;have hd:=hn.dE (S:=FF) r.cF (mN h_);obtain⟨A0,A1,A2,A3,A4,A5,A6,A7,rfl⟩:=hd.shape;exact rtn hw fun ρe we re=>hd.out re (cC w)
theorem KA(hS:Old S w)(hx:cV w S v xs)(hy:cV w S u ys)(hl:xs.length<=ys.length)(hqx:∀q∈xs,rl q+1<=h)(hqy:∀q∈ys,rl q+1<=h)(h2:2<=h)(hb:2*h*xs.length<=90000):
  eD PG N.wK #[v,u] w (eG w fun v' w2=>cS w2 (Nf w w2) v' (fI xs ys xs.length)):=by
 have hw:=bR w;obtain⟨ax,cx,rfl,Vk,hmx⟩:=dM.shape hx;obtain⟨ay,cy,rfl,hcy,-⟩:=dM.shape hy;unfold maxLen at hmx;refine zZ (by simp) ?_;refine cD (cE hw (fun _ w' v w2=>cS w2 (Nf w' w2) v (((0:Int):Rat))) (fun O w' r=>lO 0 w' (by decide) (by decide)) ?_);rintro O _ _ _ OM r he hw h_ hn;have hd:=hn.dE (S:=FF) r.cF (mN h_);obtain⟨A0,A1,A2,A3,A4,A5,A6,A7,rfl⟩:=hd.shape;rw[show ((0:Int):Rat)=fI xs ys 0 from rfl]at hd
 refine⟨Nat×(Bool×Bool)×(Option Addr×Option Addr)×(Nat×Nat×Nat×Nat)×World×Iv,fun z=>⟨[(1,sV ay ys.length cy),(4,pP 0 0),(5,pP 1 0),(9,sV ax xs.length cx),(10,iZ xs.length),(11,iN z.1)],[(1,.box T.Rat [.v (.bool z.2.1.1),.v (.slice z.2.2.1.1 z.2.2.2.1.1 z.2.2.2.1.2.1),.v (.bool z.2.1.2),.v (.slice z.2.2.1.2 z.2.2.2.1.2.2.1 z.2.2.2.1.2.2.2)]),(0,.box T.Rat [.v (.bool false),.v (.slice none 0 0),.v (.bool false),.v (.slice none 0 0)])],2,z.2.2.2.2.2,z.2.2.2.2.1⟩,fun z=>xs.length-z.1,
  fun z=>z.1<=xs.length∧eB w.heap.size w z.2.2.2.2.1∧cS z.2.2.2.2.1 (Cf w z.2.2.2.2.2) (.agg #[.bool z.2.1.1,.slice z.2.2.1.1 z.2.2.2.1.1 z.2.2.2.1.2.1,.bool z.2.1.2,.slice z.2.2.1.2 z.2.2.2.1.2.2.1 z.2.2.2.1.2.2.2]) (fI xs ys z.1),?_,?_⟩
 ·intro O w' r;exact⟨(0,(A0,A4),(A1,A5),(A2,A3,A6,A7),w',OM),⟨by simp,hw.tr r.cQ,hd.rel r (cC w)⟩,Sub.gn [] r⟩
 rintro⟨i,⟨p0,p4⟩,⟨p1,p5⟩,⟨p2,p3,p6,p7⟩,w1,iv⟩ ⟨hi,hw,hd⟩;dsimp only at hi hw hd ⊢;refine dN.mk ?_ ?_<;>intro OF
 ·have OF:i<xs.length:=by simpa using OF
  have hs:=zm hqx hqy h2 i;have QW:2*h*i<=2*h*xs.length:=b9 _ hi;have hs3:2*h*1<=2*h*xs.length:=b9 _ (by omega);obtain⟨x,PZ⟩:∃x,xs[i]? =some x:=⟨_,aB OF⟩
  obtain⟨y,TJ⟩:∃x,ys[i]? =some x:=⟨_,aB (by omega)⟩
  have hx3:=hqx x (aC PZ);have hy3:=hqy y (aC TJ);have QM:xs.getD i 0=x:=by rw[List.getD,PZ];rfl
  have hy2:ys.getD i 0=y:=by rw[List.getD,TJ];rfl
  have hm:=j9 x y;obtain⟨adx,csx,PI,SE,-,Of⟩:=dM.load hx PZ;obtain⟨ady,csy,Uf,Rd,-,QY⟩:=dM.load hy TJ;obtain⟨f0,f1,f2,f3,f4,f5,f6,f7,rfl,SE⟩:=SE;obtain⟨q0,q1,q2,q3,q4,q5,q6,q7,rfl,Rd⟩:=Rd;refine⟨adx,PI,by omega,[.bool f0,.slice f1 f2 f3,.bool f4,.slice f5 f6 f7],rfl,rdO Of hw hS,?_⟩;refine cD (cE hw (fun _ w' v w2=>∃d,v= .bool d∧(d=true↔x=0)) (fun O w' r=>qU (oS hS r) (SE.cI (kS hw r hS))) ?_);rintro O _ _ _ OK r he hw h_ ⟨d1,rfl,OV⟩;replace hd:=hd.cG r (cC w) he (mC h_)
  cases d1
  ·refine⟨ady,Uf,by omega,[.bool q0,.slice q1 q2 q3,.bool q4,.slice q5 q6 q7],rfl,rdO QY hw hS,?_⟩;refine cD (cE hw (fun _ w' v w2=>∃d,v= .bool d∧(d=true↔y=0)) (fun O w' r=>qU (oS hS r) (Rd.cI (kS hw r hS))) ?_);rintro O _ _ _ OS r he hw h_ ⟨d2,rfl,Ov⟩;replace hd:=hd.cG r (cC w) he (mC h_)
   cases d2
   ·refine cN hτ dm [.x 0,.x 1,.x 2,.x 3,.x 4,.x 5,.x 6,.x 7,.x 8] (by kernel_rfl) (by kernel_rfl) ?_;refine⟨ady,Uf,by omega,[.bool q0,.slice q1 q2 q3,.bool q4,.slice q5 q6 q7],rfl,rdO QY hw hS,?_⟩;refine cE hw (fun _ w' v w2=>cS w2 (Nf w' w2) v (x*y)) (fun O w' r=>zn (oS hS r) (SE.v.cI (kS hw r hS)) (Rd.v.cI (kS hw r hS))) ?_;rintro O _ _ _ Oe r he hw h_ hn;replace hd:=hd.cG r (cC w) he (mC h_);have hp:=hn.dE (S:=FF) r.cF (mN h_);obtain⟨C0,C1,C2,C3,C4,C5,C6,C7,rfl⟩:=hp.shape;refine cE hw (fun _ w' v w2=>cS w2 (Nf w' w2) v (fI xs ys i+x*y)) (fun O w' r=>KB (Rel.old r (cC w)) ((hd.rel r (cC w)).v (by omega)) ((hp.rel r (cC w)).v (by omega))) ?_;rintro O _ _ _ Pp r he hw h_ hn;have PC:=hn.dE (S:=FF) r.cF (mN h_);obtain⟨E0,E1,E2,E3,E4,E5,E6,E7,rfl⟩:=PC.shape;rw[show fI xs ys i+x*y=fI xs ys (i+1) by rw[fI,QM,hy2]]at PC;refine⟨((i+1:Nat):Int),wo,?_⟩;intro ρ3 w3 r3;exact⟨(i+1,(E0,E4),(E1,E5),(E2,E3,E6,E7),w3,_),⟨OF,hw.tr r3.cQ,PC.rel r3 (cC w)⟩,Sub.gn [] r3,by dsimp only;omega⟩
   ·have Pe:y=0:=Ov.1 rfl;rw[show fI xs ys i=fI xs ys (i+1) by rw[fI,QM,hy2,Pe,bD,bX]]at hd;refine⟨((i+1:Nat):Int),wo,?_⟩;intro ρ3 w3 r3;exact⟨(i+1,(p0,p4),(p1,p5),(p2,p3,p6,p7),w3,_),⟨OF,hw.tr r3.cQ,hd.rel r3 (cC w)⟩,Sub.gn [] r3,by dsimp only;omega⟩
  ·have SF:x=0:=OV.1 rfl;rw[show fI xs ys i=fI xs ys (i+1) by rw[fI,QM,hy2,SF,bH,bX]]at hd;refine⟨((i+1:Nat):Int),wo,?_⟩;intro ρ3 w3 r3;exact⟨(i+1,(p0,p4),(p1,p5),(p2,p3,p6,p7),w3,_),⟨OF,hw.tr r3.cQ,hd.rel r3 (cC w)⟩,Sub.gn [] r3,by dsimp only;omega⟩
 have OF:i=xs.length:=aR hi (by simpa using OF);subst OF;exact rtn hw fun ρe we re=>hd.out re (cC w)
structure gG(w:World)(S:Nat->Prop)(n i:Nat)(css:List (List Value))(qs:List Rat):Prop where
 len:css.length=n
 four:∀cs∈css,cs.length=4
 one:∀cs∈css,∀u∈cs,u.oneCell'=true
 at_:∀(j:Nat) cs q,j<i->css[j]? =some cs->qs[j]? =some q->iM w S cs q
section
variable{S S':Nat->Prop}{H:Hp}{nx n i:Nat}{iv iv':Iv}{B:Nat}{w w1 w' w2:World}{O:Nat->Sx.dg}{css:List (List Value)}{qs:List Rat}
theorem gG.cI(h:gG w S n i css qs)(hk:∀g,S g->w2.heap[g]? =w.heap[g]?):gG w2 S n i css qs:=⟨h.len,h.four,h.one,fun j cs q hj h1 h2=>(h.at_ j cs q hj h1 h2).cI hk⟩
theorem gG.cJ(h:gG w S n i css qs)(hk:∀g,S g->S' g):gG w S' n i css qs:=⟨h.len,h.four,h.one,fun j cs q hj h1 h2=>(h.at_ j cs q hj h1 h2).cJ hk⟩
theorem gG.rel(h:gG w (Cv S B iv) n i css qs)(r:Rel H nx iv B w O w')(hS:∀g,S g->g<B):gG w' (Cv S B iv) n i css qs:=h.cI fun _ hg=>Rel.same r hS hg
theorem gG.cG(h:gG w (Cv S B iv) n i css qs)(r:Rel H nx iv B w O w')(hS:∀g,S g->g<B)(he:Ext w' w2)(hm:∀p,p∈iv->p∈iv'):gG w2 (Cv S B iv') n i css qs:=
 ((h.rel r hS).cI fun g hg=>he.block g (Rel.old r hS g hg)).cJ fun _ hg=>hg.mono hm
theorem gG.start(w:World)(S:Nat->Prop)(n:Nat)(qs:List Rat):gG w S n 0 (List.replicate n f0) qs:=
 ⟨by simp,fun cs hc=>by rw[bL hc];rfl,fun cs hc u hu=>by rw[bL hc]at hu;simp[f0]at hu;rcases hu with rfl|rfl|rfl|rfl<;>rfl,fun j cs q hj=>by omega⟩
theorem gG.next{b b2:Bool}{a2:Option Addr}{m c m2 c2:Nat}(h:gG w S n i css qs)(hi:i<n)(hq:qs[i]? =some q)(hf:cS w S (.agg #[.bool b,.slice a m c,.bool b2,.slice a2 m2 c2]) q):
  gG w S n (i+1) (css.set i [.bool b,.slice a m c,.bool b2,.slice a2 m2 c2]) qs:=by
 refine⟨by simp[h.len],fun cs hc=>?_,fun cs hc u hu=>?_,fun j cs p hj h1 h2=>?_⟩
 ·rcases bJ hc with hc|rfl
  ·exact h.four cs hc
  ·rfl
 ·rcases bJ hc with hc|rfl
  ·exact h.one cs hc u hu
  ·simp at hu;rcases hu with rfl|rfl|rfl|rfl<;>rfl
 ·by_cases Pb:i=j
  ·subst Pb;rw[aW (by rw[h.len];exact hi)]at h1;rw[hq]at h2;injection h1 with h1;injection h2 with h2;subst h1 h2;exact hf.rD
  ·rw[aX Pb]at h1;exact h.at_ j cs p (by omega) h1 h2
theorem gG.flat(h:gG w S n i css qs):css.flatten.length=n*4:=by rw[eH h.four,h.len]
theorem gG.done{w0:World}(h:gG w1 (Cf w0 iv) n n css qs)(hl:qs.length=n)(hn:n<=maxLen)(r:Rel H nx iv w0.heap.size w1 O w'){id:Nat}(hH:dB H id=some (.arr T.Rat css.flatten))(PE:(O id).nil=false):
  da w' FF w0.heap.size [(w0.heap.size,w'.heap.size)] (.slice (some ⟨(O id).g,0,none⟩) n n) n qs:=by
 have h2:=h.rel r (cC w0);have Og:=r.low id _ hH PE;refine⟨⟨css,⟨h.flat,.inr ⟨(O id).g,n,css.flatten.toArray,rfl,aO _,r.arr id _ _ hH,aF _,hn,by simpa using h.flat,?_⟩⟩,h.len,?_⟩,fun g hg=>?_⟩
 ·rw[<-h.flat];exact bF
 ·refine⟨by rw[h.len,hl],fun j cs q h3 h4=>?_⟩;refine(h2.at_ j cs q (by rw[<-hl];exact(aD.1 h4).1) h3 h4).cJ fun g hg=>⟨?_,fun e=>?_⟩
  ·rcases hg with hg|⟨k1,lo,hi,k2,k3,k4⟩
   ·exact hg.elim
   ·exact .inr ⟨k1,_,_,aw.2 rfl,k1,by have:=r.oe lo hi k2;have:=r.size;omega⟩
  ·injection e with e;exact Rel.not r (cC w0) hg id _ hH PE e
 ·injection hg with hg;subst hg;exact .inr ⟨Og.1,_,_,aw.2 rfl,Og.1,Og.2⟩
theorem gM.c(h:gM w S S v qs):cL w S v qs:=by
 obtain⟨css,h1,h2⟩:=h;exact⟨css,h1,h2.1,h2.tv,h2.2⟩
theorem da.c(h:da w S B iv v n qs):cL w (Cv S B iv) v qs:=h.read.c
theorem cL.rc(h:cL w S v qs):gM w S S v qs:=by
 obtain⟨css,h1,h2,h3,h4⟩:=h;exact⟨css,h1,h2,h4⟩
theorem gM.rel(h:gM w (Cv C B iv) (Cv S B iv) v qs)(r:Rel H nx iv B w O w')(hC:∀g,C g->g<B)(hS:∀g,S g->g<B):gM w' (Cv C B iv) (Cv S B iv) v qs:=
 h.cI fun _ hg=>hg.elim (Rel.same r hC) (Rel.same r hS)
theorem gM.cG(h:gM w (Cv C B iv) (Cv S B iv) v qs)(r:Rel H nx iv B w O w')(hC:∀g,C g->g<B)(hS:∀g,S g->g<B)(he:Ext w' w2)(hm:∀p,p∈iv->p∈iv'):gM w2 (Cv C B iv') (Cv S B iv') v qs:=
 ((h.rel r hC hS).cI fun g hg=>he.block g (hg.elim (Rel.old r hC g) (Rel.old r hS g))).cJ (fun _ hg=>hg.mono hm) (fun _ hg=>hg.mono hm)
theorem gM.arg(h:gM w C S v qs)(iv:Iv):gM w (Cv C w.heap.size iv) (Cv S w.heap.size iv) v qs:=h.cJ (fun _ h=>.inl h) (fun _ h=>.inl h)
theorem gM.shape(h:gM w C S v qs):∃a c,v= .slice a qs.length c∧qs.length<=c∧qs.length<=maxLen:=by
 obtain⟨css,⟨h0,_,_,a,c,h1,h2,_⟩,_⟩:=h;exact⟨a,c,h1,h2,h0⟩
theorem gM.load{n c j:Nat}(h:gM w C S (.slice a n c) qs)(hq:qs[j]? =some q):
  ∃ad cs,a=some ad∧iM w S cs q∧∀k u,cs[k]? =some u->C ad.block∧w.cell? ((ad.add (j*4)).add k)=some u:=by
 obtain⟨css,⟨h0,h1,h2,a',c',e,h3,h4⟩,hf⟩:=h;injection e with e1 e2 e3;subst e1;obtain⟨cs,Om⟩:∃cs,css[j]? =some cs:=⟨_,aB (by rw[hf.1];exact(aD.1 hq).1)⟩
 have hF:=hf.2 j cs q Om hq;have hl:=hF.len;obtain⟨ad,k1,k2,k3⟩:=h4 (j*4+0) _ (flat_get hf.tv Om 0 _ (aB (show 0<cs.length by omega)));refine⟨ad,cs,k1,hF,fun k u hu=>?_⟩;obtain⟨ad2,m1,m2,m3⟩:=h4 (j*4+k) u (flat_get hf.tv Om k u hu);rw[k1]at m1;injection m1 with m1;subst m1;refine⟨m2,?_⟩;rw[<-m3];have:(ad.add (j*4)).add k=ad.add (j*4+k):=by
  unfold Addr.add;split<;>split<;>simp_all<;>omega
 rw[this]
theorem EV{j:Nat}{c:Nat}(h:w.ownsRow 0 T.Rat 4 (.slice a n c) n css.flatten)(hf:Fc w S css qs)(hj:css[j]? =some cs):
  ∃g,a=some ⟨g,0,none⟩∧∀k u,cs[k]? =some u->w.cell? ((Addr.add ⟨g,0,none⟩ (j*4)).add k)=some u:=by
 rcases h.2 with⟨h1,h0⟩|⟨g,cap,cur,RS,_⟩
 ·have:=h.1;rw[eH hf.tv]at this;have:=(aD.1 hj).1;omega
 ·injection RS with h1 h2 h3;subst h1;refine⟨g,rfl,fun k u hu=>?_⟩;have:=h.cells (g:=g) rfl (j*4+k) u (flat_get hf.tv hj k u hu);rw[dQ,dQ];rw[dQ]at this;rw[Nat.add_assoc];exact this
end
theorem EW(n:Nat)(w:World)(hn:n<=1000000):eD PG N.qv #[.int .i64 n] w (eG w fun v' w2=>da w2 FF w.heap.size [(w.heap.size,w2.heap.size)] v' n (List.replicate n 0)):=by
 have hw:=bR w;refine vD (by simp) ?_
 refine⟨n,n,rfl,rfl,aF _,by omega,by omega,Nat×List (List Value)×Iv×World,fun z=>⟨[(3,.o (.s 0 0 n n)),(8,iZ n),(9,iN z.1)],[(0,.arr T.Rat z.2.1.flatten)],1,z.2.2.1,z.2.2.2⟩,fun z=>n-z.1,
  fun z=>z.1<=n∧eB w.heap.size w z.2.2.2∧gG z.2.2.2 (Cf w z.2.2.1) (n) z.1 z.2.1 (List.replicate n 0),?_,?_⟩
 ·intro O w' r;exact⟨(0,List.replicate (n) f0,_,w'),⟨by simp,hw.tr r.cQ,gG.start _ _ _ _⟩,Sub.gn [] r⟩
 rintro⟨i,css,iv,w1⟩ ⟨hi,hw,hF⟩;dsimp only at hi hw hF ⊢;refine dN.mk ?_ ?_<;>intro h
 ·have h:i<n:=by simpa using h
  refine cD (cE hw (fun _ w' v w2=>cS w2 (Nf w' w2) v (((0:Int):Rat))) (fun O w' r=>lO 0 w' (by decide) (by decide)) ?_);rintro O _ _ _ OM r he hw h_ hn;replace hF:=hF.cG r (cC w) he (mC h_);have hd:=hn.dE (S:=FF) r.cF (mN h_);obtain⟨A0,A1,A2,A3,A4,A5,A6,A7,rfl⟩:=hd.shape;have OO:=hF.next h (q:=_) (by simp[h]) hd
  refine⟨by omega,by have:=hF.flat;omega,(css.set i [.bool A0,.slice A1 A2 A3,.bool A4,.slice A5 A6 A7]).flatten,?_,?_⟩
  ·have:=jH (cs:=[.bool A0,.slice A1 A2 A3,.bool A4,.slice A5 A6 A7]) hF.four (show i<css.length by rw[hF.len];exact h);rw[<-this];simp
  refine⟨((i+1:Nat):Int),wo,?_⟩;intro ρ3 w3 r3;exact⟨(i+1,css.set i [.bool A0,.slice A1 A2 A3,.bool A4,.slice A5 A6 A7],_,w3),⟨h,hw.tr r3.cQ,OO.rel r3 (cC w)⟩,Sub.gn [] r3,by dsimp only;omega⟩
 have h:i=n:=aR hi (by simpa using h);subst h;exact rtn hw fun ρe we re=>hF.done (by simp) (by unfold maxLen;omega) re (id:=0) rfl (re.nn 0 _ rfl (by intros;simp) (by simp))
theorem B8{b:Rat}(hS:Old S w)(hx:cV w S v xs)(hb:eR w S u b)(hn:xs.length<=1000000):
  eD PG N.pQ #[v,u] w (eG w fun v' w2=>da w2 FF w.heap.size [(w.heap.size,w2.heap.size)] v' xs.length (cZ xs b)):=by
 have hw:=bR w;obtain⟨ax,cx,rfl,Vk,hmx⟩:=dM.shape hx;obtain⟨g0,g1,g2,g3,g4,g5,g6,g7,rfl⟩:=hb.shape;have PL:rl b<=100000:=hb.rl;refine tf (by simp) ?_
 refine⟨xs.length,xs.length,rfl,rfl,aF _,by omega,by omega,Nat×List (List Value)×Iv×World,fun z=>⟨[(3,pP 0 0),(5,.o (.s 1 0 xs.length xs.length)),(11,sV ax xs.length cx),(12,iZ xs.length),(13,iN z.1)],[(0,.box T.Rat [.v (.bool g0),.v (.slice g1 g2 g3),.v (.bool g4),.v (.slice g5 g6 g7)]),(1,.arr T.Rat z.2.1.flatten)],2,z.2.2.1,z.2.2.2⟩,fun z=>xs.length-z.1,
  fun z=>z.1<=xs.length∧eB w.heap.size w z.2.2.2∧gG z.2.2.2 (Cf w z.2.2.1) (xs.length) z.1 z.2.1 (cZ xs b),?_,?_⟩
 ·intro O w' r;exact⟨(0,List.replicate (xs.length) f0,_,w'),⟨by simp,hw.tr r.cQ,gG.start _ _ _ _⟩,Sub.gn [] r⟩
 rintro⟨i,css,iv,w1⟩ ⟨hi,hw,hF⟩;dsimp only at hi hw hF ⊢;refine dN.mk ?_ ?_<;>intro h
 ·have h:i<xs.length:=by simpa using h
  obtain⟨x,PZ⟩:∃x,xs[i]? =some x:=⟨_,aB h⟩
  obtain⟨adx,csx,PI,SE,-,Of⟩:=dM.load hx PZ;obtain⟨f0,f1,f2,f3,f4,f5,f6,f7,rfl,SE⟩:=SE;refine⟨adx,PI,by omega,[.bool f0,.slice f1 f2 f3,.bool f4,.slice f5 f6 f7],rfl,rdO Of hw hS,?_⟩;refine cD (cE hw (fun _ w' v w2=>cS w2 (Nf w' w2) v (x*b)) (fun O w' r=>zn (oS hS r) (SE.v.cI (kS hw r hS)) (hb.v.cI (kS hw r hS))) ?_);rintro O _ _ _ OM r he hw h_ hn;replace hF:=hF.cG r (cC w) he (mC h_);have hd:=hn.dE (S:=FF) r.cF (mN h_);obtain⟨A0,A1,A2,A3,A4,A5,A6,A7,rfl⟩:=hd.shape;have OO:=hF.next h (q:=_) (by rw[cZ,aN,PZ];rfl) hd
  refine⟨by omega,by have:=hF.flat;omega,(css.set i [.bool A0,.slice A1 A2 A3,.bool A4,.slice A5 A6 A7]).flatten,?_,?_⟩
  ·have:=jH (cs:=[.bool A0,.slice A1 A2 A3,.bool A4,.slice A5 A6 A7]) hF.four (show i<css.length by rw[hF.len];exact h);rw[<-this];simp
  refine⟨((i+1:Nat):Int),wo,?_⟩;intro ρ3 w3 r3;exact⟨(i+1,css.set i [.bool A0,.slice A1 A2 A3,.bool A4,.slice A5 A6 A7],_,w3),⟨h,hw.tr r3.cQ,OO.rel r3 (cC w)⟩,Sub.gn [] r3,by dsimp only;omega⟩
 have h:i=xs.length:=aR hi (by simpa using h);subst h;exact rtn hw fun ρe we re=>hF.done (by simp[cZ]) (by unfold maxLen;omega) re (id:=1) rfl (re.nn 1 _ rfl (by intros;simp) (by simp))
theorem HM(hS:Old S w)(hx:cV w S v xs)(hy:cV w S u ys)(hl:xs.length<=ys.length)(hn:xs.length<=1000000):
  eD PG N.tM #[v,u] w (eG w fun v' w2=>da w2 FF w.heap.size [(w.heap.size,w2.heap.size)] v' xs.length (ew xs ys)):=by
 have hw:=bR w;obtain⟨ax,cx,rfl,Vk,hmx⟩:=dM.shape hx;obtain⟨ay,cy,rfl,hcy,hmy⟩:=dM.shape hy;refine xF (by simp) ?_
 refine⟨xs.length,xs.length,rfl,rfl,aF _,by omega,by omega,Nat×List (List Value)×Iv×World,fun z=>⟨[(0,sV ax xs.length cx),(1,sV ay ys.length cy),(5,.o (.s 0 0 xs.length xs.length)),(11,iZ xs.length),(12,iN z.1)],[(0,.arr T.Rat z.2.1.flatten)],1,z.2.2.1,z.2.2.2⟩,fun z=>xs.length-z.1,
  fun z=>z.1<=xs.length∧eB w.heap.size w z.2.2.2∧gG z.2.2.2 (Cf w z.2.2.1) (xs.length) z.1 z.2.1 (ew xs ys),?_,?_⟩
 ·intro O w' r;exact⟨(0,List.replicate (xs.length) f0,_,w'),⟨by simp,hw.tr r.cQ,gG.start _ _ _ _⟩,Sub.gn [] r⟩
 rintro⟨i,css,iv,w1⟩ ⟨hi,hw,hF⟩;dsimp only at hi hw hF ⊢;refine dN.mk ?_ ?_<;>intro h
 ·have h:i<xs.length:=by simpa using h
  obtain⟨x,PZ⟩:∃x,xs[i]? =some x:=⟨_,aB h⟩
  obtain⟨y,TJ⟩:∃x,ys[i]? =some x:=⟨_,aB (by omega)⟩
  obtain⟨adx,csx,PI,SE,-,Of⟩:=dM.load hx PZ;obtain⟨f0,f1,f2,f3,f4,f5,f6,f7,rfl,SE⟩:=SE;obtain⟨ady,csy,Uf,Rd,-,QY⟩:=dM.load hy TJ;obtain⟨q0,q1,q2,q3,q4,q5,q6,q7,rfl,Rd⟩:=Rd;refine cN hτ dm [.x 0,.x 1,.x 2,.x 3,.x 4,.x 5,.x 6,.x 7,.x 8,.x 9,.x 10,.x 11,.x 12] (by kernel_rfl) (by kernel_rfl) ?_;refine⟨adx,PI,by omega,[.bool f0,.slice f1 f2 f3,.bool f4,.slice f5 f6 f7],rfl,rdO Of hw hS,ady,Uf,by omega,[.bool q0,.slice q1 q2 q3,.bool q4,.slice q5 q6 q7],rfl,rdO QY hw hS,?_⟩;refine cE hw (fun _ w' v w2=>cS w2 (Nf w' w2) v (x*y)) (fun O w' r=>zn (oS hS r) (SE.v.cI (kS hw r hS)) (Rd.v.cI (kS hw r hS))) ?_;rintro O _ _ _ OM r he hw h_ hn;replace hF:=hF.cG r (cC w) he (mC h_);have hd:=hn.dE (S:=FF) r.cF (mN h_);obtain⟨A0,A1,A2,A3,A4,A5,A6,A7,rfl⟩:=hd.shape;have OO:=hF.next h (q:=_) (by rw[ew,List.getElem?_mapIdx,PZ,List.getD,TJ];rfl) hd
  refine⟨by omega,by have:=hF.flat;omega,(css.set i [.bool A0,.slice A1 A2 A3,.bool A4,.slice A5 A6 A7]).flatten,?_,?_⟩
  ·have:=jH (cs:=[.bool A0,.slice A1 A2 A3,.bool A4,.slice A5 A6 A7]) hF.four (show i<css.length by rw[hF.len];exact h);rw[<-this];simp
  refine⟨((i+1:Nat):Int),wo,?_⟩;intro ρ3 w3 r3;exact⟨(i+1,css.set i [.bool A0,.slice A1 A2 A3,.bool A4,.slice A5 A6 A7],_,w3),⟨h,hw.tr r3.cQ,OO.rel r3 (cC w)⟩,Sub.gn [] r3,by dsimp only;omega⟩
 have h:i=xs.length:=aR hi (by simpa using h);subst h;exact rtn hw fun ρe we re=>hF.done (by simp[ew]) (by unfold maxLen;omega) re (id:=0) rfl (re.nn 0 _ rfl (by intros;simp) (by simp))
theorem Lj{vby vs:Value}{n:Nat}{ps:List Rat}(hC:Old C w)(hS:Old S w)(hrw:iO w S v n qs)(PL:eR w S vby p)
  (hs:gM w C S vs ps) (PV:ps.length=n) (So:∀g,v.ownBlock=some g->¬S g) (hdc:∀g,v.ownBlock=some g->¬C g) (hq:∀q∈qs,rl q+1<=h) (hps:∀q∈ps,rl q+1<=h) (hb:rl p+1<=h) (hh:3*h<=90000):
  eD PG N.nm #[v,vs,vby] w (fun e w2=>e= .returned (.tuple #[])∧w.grownBy w2 v.ownBlock∧iO w2 (Nw S w w2) v n (lk qs ps p)):=by
 obtain⟨css,OH,Po,Rc⟩:=hrw;have Og:∀g,v.ownBlock=some g->g<w.heap.size:=fun g hg=>(ownsRow.low OH g hg).2;have Qk:∀iv g,v.ownBlock=some g->Out w.heap.size iv g:=fun iv g hg=>.inl (Og g hg);have hdis2:∀iv g,v.ownBlock=some g->¬Cv S w.heap.size iv g:=fun iv g hg h=>by
  rcases h with h|⟨h,_⟩
  ·exact So g hg h
  ·have:=Og g hg;omega
 have hdis3:∀iv g,v.ownBlock=some g->¬Cv C w.heap.size iv g:=fun iv g hg h=>by
  rcases h with h|⟨h,_⟩
  ·exact hdc g hg h
  ·have:=Og g hg;omega
 have UI:qs.length=n:=by rw[<-Rc.1,Po]
 obtain⟨a,c,rfl,Tn⟩:=jc OH;obtain⟨b1,a1,n1,c1,b2,a2,n2,c2,rfl⟩:=PL.shape;obtain⟨asl,cs0,rfl,Rk,Vf⟩:=hs.shape;rw[PV]at Rk Vf hs ⊢;unfold maxLen at Vf;replace Rc:=Rc.cJ (S':=Cv S w.heap.size []) fun _ h=>.inl h;replace PL:=PL.arg [];replace hs:=hs.arg [];refine xO (by simp) ?_;have QB:=OH;have hg:w.grownBy w (Value.slice a n c).ownBlock:=⟨rfl,rfl,rfl,aF _,fun _ _ _=>rfl⟩
 have hbyl:rl p<=100000:=PL.rl
 refine⟨Nat×List (List Value)×Iv×World,fun z=>⟨[(0,sV a n c),(5,pP 0 0),(8,sV asl n cs0),(9,iZ n),(10,iZ z.1)],
   [(0,.box T.Rat [.v (.bool b1),.v (.slice a1 n1 c1),.v (.bool b2),.v (.slice a2 n2 c2)])],1,z.2.2.1,z.2.2.2⟩,fun z=>n-z.1,
  fun z=>z.1<=n∧w.grownBy z.2.2.2 (Value.slice a n c).ownBlock∧z.2.2.2.ownsRow 0 T.Rat 4 (.slice a n c) n z.2.1.flatten∧z.2.1.length=n∧Fc z.2.2.2 (Cv S w.heap.size z.2.2.1) z.2.1 (gu z.1 (rT (-p) ps) qs)∧
   eR z.2.2.2 (Cv S w.heap.size z.2.2.1) (.agg #[.bool b1,.slice a1 n1 c1,.bool b2,.slice a2 n2 c2]) p∧gM z.2.2.2 (Cv C w.heap.size z.2.2.1) (Cv S w.heap.size z.2.2.1) (.slice asl n cs0) ps,?_,?_⟩
 ·intro O w' r
  refine⟨(0,css,[],w'),⟨by simp,gT hg r.cQ,oD QB (Qk []) r,Po,by rw[sH];exact Rc.rel r hS,PL.rel r hS,hs.rel r hC hS⟩,
   Sub.gn [] r⟩
 rintro⟨i,css,iv,w1⟩ ⟨hi,hg,OH,Po,Rc,PL,hs⟩;dsimp only at hi hg OH Po Rc PL hs ⊢;refine dN.mk ?_ ?_<;>intro h
 ·have h:i<n:=by simpa using h
  obtain⟨cs,Om⟩:∃cs,css[i]? =some cs:=⟨_,aB (by omega)⟩
  obtain⟨q,hqi⟩:∃q,qs[i]? =some q:=⟨_,aB (by omega)⟩
  obtain⟨f,UA⟩:∃f,ps[i]? =some f:=⟨_,aB (by omega)⟩
  have hF:=Rc.2 i cs q Om (zo hqi);have hadd:rT (-p) ps i q=q-p*f:=by simp only[rT,List.getD,UA,Option.getD_some];grind
  obtain⟨d1,e1,m1,k1,d2,e2,m2,k2,rfl,hF⟩:=hF;have hrlq:=hq q (aC hqi);have hrlf:=hps f (aC UA);obtain⟨ad,fcs,Od,hff,OX⟩:=hs.load UA;obtain⟨f1,g1,o1,u1,f2,g2,o2,u2,rfl,hff⟩:=hff;refine⟨ad,Od,by omega,[.bool f1,.slice g1 o1 u1,.bool f2,.slice g2 o2 u2],rfl,fun O w' r j x hx=>?_,?_⟩
  ·have QW:=hs.rel r hC hS;obtain⟨k2',k3⟩:=OX j x hx;have:=Rel.same r hC k2';rw[aE,cH (w:=w1) (w2:=w') (by rw[dH,dH];exact this)];exact k3
  refine cD (cO (Φ:=fun _ _ v _=>∃d,v= .bool d∧(d=true↔f=0)) (fun O w' r=>qU (Rel.old r hS) ((hff.rel r hS).l (by omega))) ?_);rintro O wa v1 wb r he Pf ⟨dz,rfl,hz⟩;replace PL:=PL.cG (iv':=(wa.heap.size,wb.heap.size)::iv) r hS he fun x hx=>List.mem_cons_of_mem _ hx;replace Rc:=Rc.cG (iv':=(wa.heap.size,wb.heap.size)::iv) r hS he fun x hx=>List.mem_cons_of_mem _ hx;replace hs:=hs.cG (iv':=(wa.heap.size,wb.heap.size)::iv) r hC hS he fun x hx=>List.mem_cons_of_mem _ hx;replace hff:=hff.cG (iv':=(wa.heap.size,wb.heap.size)::iv) r hS he fun x hx=>List.mem_cons_of_mem _ hx;replace hF:=hF.cG (iv':=(wa.heap.size,wb.heap.size)::iv) r hS he fun x hx=>List.mem_cons_of_mem _ hx;replace OH:wb.ownsRow 0 T.Rat 4 (.slice a n c) n css.flatten:=ownsRow.cI (oD OH (Qk iv) r) fun b hb=>he.block b (by have:=Og b hb;have:=r.cF;omega);replace hg:w.grownBy wb _:=gT hg Pf;generalize (wa.heap.size,wb.heap.size)::iv=OK at*
  cases dz
  ·refine cN hτ dm [.x 0,.x 1,.x 2,.x 3,.x 4,.x 5,.x 6,.x 7,.x 8,.x 9,.x 10,.x 11] (by kernel_rfl) (by kernel_rfl) ?_;obtain⟨g,rfl,Ot⟩:=EV OH Rc Om;refine⟨⟨g,0,none⟩,rfl,by omega,[.bool d1,.slice e1 m1 k1,.bool d2,.slice e2 m2 k2],rfl,fun O w' r j x hx=>?_,?_⟩
   ·have:=EV (oD OH (Qk OK) r) (Rc.rel r hS) Om;obtain⟨g',h1,h2⟩:=this;injection h1 with h1;rw[<-h1]at h2;exact h2 j x hx
   have R8:=j9 p f;refine cO (Φ:=fun _ w' v w2=>cS w2 (Nf w' w2) v (p*f)) (fun O w' r=>zn (Rel.old r hS) (PL.rel r hS).v ((hff.rel r hS).v (by omega))) ?_;rintro O wa v1 wb r he Pf hP;have hPN:=hP.dE (S:=S) r.cF (iv:=(wa.heap.size,wb.heap.size)::OK) aG;replace PL:=PL.cG (iv':=(wa.heap.size,wb.heap.size)::OK) r hS he fun x hx=>List.mem_cons_of_mem _ hx;replace Rc:=Rc.cG (iv':=(wa.heap.size,wb.heap.size)::OK) r hS he fun x hx=>List.mem_cons_of_mem _ hx;replace hs:=hs.cG (iv':=(wa.heap.size,wb.heap.size)::OK) r hC hS he fun x hx=>List.mem_cons_of_mem _ hx;replace hF:=hF.cG (iv':=(wa.heap.size,wb.heap.size)::OK) r hS he fun x hx=>List.mem_cons_of_mem _ hx;replace OH:wb.ownsRow 0 T.Rat 4 (.slice (some ⟨g,0,none⟩) n c) n css.flatten:=ownsRow.cI (oD OH (Qk OK) r) fun b hb=>he.block b (by have:=Og b hb;have:=r.cF;omega);replace hg:w.grownBy wb _:=gT hg Pf;generalize (wa.heap.size,wb.heap.size)::OK=OS at*
   obtain⟨b5,a5,n5,c5,b6,a6,n6,c6,rfl⟩:=hPN.shape;refine cO (Φ:=fun _ w' v w2=>cS w2 (Nf w' w2) v (q-p*f)) (fun O w' r=>Jz (Rel.old r hS) ((hF.rel r hS).v (by omega)) ((hPN.rel r hS).v (by omega))) ?_;rintro O wc v2 wd r he Pf hQ;have hQN:=hQ.dE (S:=S) r.cF (iv:=(wc.heap.size,wd.heap.size)::OS) aG;replace PL:=PL.cG (iv':=(wc.heap.size,wd.heap.size)::OS) r hS he fun x hx=>List.mem_cons_of_mem _ hx;replace Rc:=Rc.cG (iv':=(wc.heap.size,wd.heap.size)::OS) r hS he fun x hx=>List.mem_cons_of_mem _ hx;replace hs:=hs.cG (iv':=(wc.heap.size,wd.heap.size)::OS) r hC hS he fun x hx=>List.mem_cons_of_mem _ hx;replace OH:wd.ownsRow 0 T.Rat 4 (.slice (some ⟨g,0,none⟩) n c) n css.flatten:=ownsRow.cI (oD OH (Qk OS) r) fun b hb=>he.block b (by have:=Og b hb;have:=r.cF;omega);replace hg:w.grownBy wd _:=gT hg Pf;generalize (wc.heap.size,wd.heap.size)::OS=Oe at*
   obtain⟨b7,a7,n7,c7,b8,a8,n8,c8,rfl⟩:=hQN.shape;rw[<-hadd]at hQN;refine⟨⟨g,0,none⟩,rfl,by omega,?_⟩;intro O w' r;have UJ:=oD OH (Qk Oe) r;have hF5:=(hQN.rel r hS).rD;obtain⟨g',UK,OJ,QV,PX,Oq⟩:=ow (nv:=[.bool b7,.slice a7 n7 c7,.bool b8,.slice a8 n8 c8]) UJ rfl h rfl (by decide);injection UK with UK;injection UK with UK;subst UK;have UL:=jH (cs:=[.bool b7,.slice a7 n7 c7,.bool b8,.slice a8 n8 c8]) Rc.tv (show i<css.length by omega);rw[UL]at QV;have OW:∀x,Cv S w.heap.size Oe x->(setCells w' ⟨g,i*4,none⟩ [.bool b7,.slice a7 n7 c7,.bool b8,.slice a8 n8 c8]).heap[x]? =w'.heap[x]? :=fun x hx=>
    PX.block x (Rel.old r hS x hx) fun e=>hdis2 Oe g rfl (by injection e with e;rw[<-e];exact hx)
   have PR:(⟨g,0,none⟩:Addr).add ((i:Int).toNat*4)=⟨g,i*4,none⟩:=by rw[aE,dQ,aQ]
   have hF6:=((Rc.rel r hS).cI OW).set (j:=i) (hF5.cI OW);rw[oE (f:=rT (-p) ps) hqi]at hF6;have hby6:=(PL.rel r hS).cI OW;have hkeep3:∀x,Cv C w.heap.size Oe x->(setCells w' ⟨g,i*4,none⟩ [.bool b7,.slice a7 n7 c7,.bool b8,.slice a8 n8 c8]).heap[x]? =w'.heap[x]? :=fun x hx=>
    PX.block x (Rel.old r hC x hx) fun e=>hdis3 Oe g rfl (by injection e with e;rw[<-e];exact hx)
   have hs6:=(hs.rel r hC hS).cI fun x hx=>hx.elim (hkeep3 x) (OW x);replace hg:w.grownBy (setCells w' ⟨g,i*4,none⟩ [.bool b7,.slice a7 n7 c7,.bool b8,.slice a8 n8 c8]) (some g):=gf (gT hg r.cQ) PX;have Q6:=fun id b hb hn=>Rel.not r (fun _ h=>h) (Qk Oe g rfl) id b hb hn;refine⟨by rw[PR],fun k hk=>by rw[PR];exact OJ k hk,fun id b hb hn=>by rw[PR];exact Q6 id b hb hn,fun w2 Ow=>?_⟩;have Ow:w2=setCells w' ⟨g,i*4,none⟩ [.bool b7,.slice a7 n7 c7,.bool b8,.slice a8 n8 c8]:=by rw[Ow];exact congrArg (fun x=>setCells w' x _) PR
   rw[<-Ow]at hF6 hby6 QV hg Oq hs6;refine⟨((i+1:Nat):Int),wo,?_⟩;intro ρ3 w3 r3
   exact⟨(i+1,css.set i [.bool b7,.slice a7 n7 c7,.bool b8,.slice a8 n8 c8],Oe,w3),⟨h,gT hg r3.cQ,oD QV (Qk Oe) r3,by simpa using Po,hF6.rel r3 hS,hby6.rel r3 hS,hs6.rel r3 hC hS⟩,
    Sub.gn [] r3,by dsimp only;omega⟩
  ·have hf0:f=0:=hz.1 rfl;have Qg:rT (-p) ps i q=q:=by rw[hadd,hf0];grind
   refine⟨((i+1:Nat):Int),wo,?_⟩;intro ρ3 w3 r3
   exact⟨(i+1,css,OK,w3),⟨h,gT hg r3.cQ,oD OH (Qk OK) r3,Po,by rw[<-Fu hqi Qg];exact Rc.rel r3 hS,PL.rel r3 hS,hs.rel r3 hC hS⟩,
    Sub.gn [] r3,by dsimp only;omega⟩
 ·have h:i=n:=by
   have:¬i<n:=by simpa using h
   omega
  subst h;intro ρ5 w5 r5;refine⟨rfl,gT hg r5.cQ,css,oD OH (Qk iv) r5,Po,?_⟩;have:=(Rc.rel r5 hS).cJ (S':=Nw S w w5) fun g hg=>Cv.nw hg r5
  rwa [<-UI,vJ]at this
section
variable{S:Nat->Prop}{w:World}{v u vx vk vp:Value}{z:Int}{M K:List (List (Int×Int))}{b X P:List (Int×Int)}
end
end Go.Ex
namespace Go.Sx
open Go Go.Ex Go.Proofs
variable{cs:List Value}{O:Nat->Sx.dg}
theorem Sub.Nj{B:Nat}{l tl:Env}{nx:Nat}{H tH:Hp}{iv:Iv}{w w':World}{id t n sz:Nat}{e:TypeId}(r:Rel H nx iv B w O w')(Oj:dB H id=some (.vec e sz cs))(hn:(O id).nil=false)(ht:fL l t=some (.o (.w id n)))
  (hs:uR H tH) (ho:DQ id tH=true) (h1:D3 l tl) (h2:jN nx tl):
  Sub B l nx O w' ⟨(t,.o (.v (.slice (some ⟨(O id).g,0,none⟩) n (O id).cap)))::tl,tH,nx,((O id).g,(O id).g+1)::iv,w'⟩:=
 ⟨O,r.free Oj (by simp) hn hs ho,fun u v hv=>jG hn ht h1 h2 u v hv⟩
end Go.Sx
namespace Go.Ex
open Go Go.Sx Go.Proofs
end Go.Ex
