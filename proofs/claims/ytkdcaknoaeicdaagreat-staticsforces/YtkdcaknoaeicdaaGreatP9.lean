/- Texts L41 to X109: lemmas, each with its conditions. -/
import Derived.Test.YtkdcaknoaeicdaaGreatP8
namespace Go.Ex
variable{M:List (List Rat)}{s:List (List Rat)×List Nat}{E:Mx}{B n r:Nat}{p q σ:Nat->Nat}{v:Nat->Rat}
theorem eG.Gd{F:Mx}(h:eG E r n v)(e:∀i t,i<r->t<n->F i t=E i t):eG F r n v:=by
 obtain⟨c,hc⟩:=h;exact⟨c,fun t ht=>by rw[hc t ht];exact cL fun i hi=>by rw[e i t hi ht]⟩
theorem eG.more{s:Nat}(h:eG E r n v)(k:r<=s):eG E s n v:=h.trans fun i hi=>eG.row (Nat.lt_of_lt_of_le hi k)
theorem Ru.congr{F:Mx}(h:Ru E p r n)(e:∀i t,i<r->t<n->F i t=E i t)(ep:∀i,i<r->q i=p i):Ru F q r n:=
 ⟨fun i hi=>by rw[ep i hi];exact h.lt i hi,fun i j hi hj k=>h.inj i j hi hj (by rw[<-ep i hi,<-ep j hj];exact k),fun i j hi hj=>by rw[ep i hi,e j _ hj (h.lt i hi)];exact h.unit i j hi hj,
  fun i t hi ht=>by rw[ep i hi]at ht;rw[e i t hi (by have:=h.lt i hi;omega)];exact h.lead i t hi ht⟩
theorem zL.congr{F Z Y:Mx}(h:zL E p r n B Z)(e:∀i t,i<r->t<n->F i t=E i t)(ep:∀i,i<r->q i=p i)(eZ:∀i t,i<r->t<n->Y i t=Z i t):zL F q r n B Y:=by
 refine⟨h.ru.congr e ep,fun i hi=>((h.sp i hi).congr fun t ht=>eZ i t hi ht).Gd e,fun i t hi ht=>by rw[eZ i t hi ht];exact h.ib i t hi ht,?_⟩;rw[show tU Y q r=tU Z p r from ia fun i j hi hj=>by rw[ep _ (by omega),eZ _ _ (by omega) (h.ru.lt _ (by omega))]];exact h.nz
theorem zM(row:List Rat):∀f k,k<=ov row f k∧ov row f k<=k+f∧(∀t,k<=t->t<ov row f k->row.getD t 0=0)∧(ov row f k<k+f->row.getD (ov row f k) 0≠0)
 |0,k=>by
  unfold ov;exact⟨aF _,aF _,fun t h1 h2=>by omega,fun h=>by omega⟩
 |f+1,k=>by
  unfold ov;split
  ·rename_i h;obtain⟨h1,h2,h3,h4⟩:=zM row f (k+1);refine⟨by omega,by omega,fun t k1 k2=>?_,fun h5=>h4 (by omega)⟩;rcases aO k t with h5|h5
   ·exact h3 t h5 k2
   ·rw[show t=k by omega];exact h
  ·rename_i h;exact⟨aF _,by omega,fun t h1 h2=>by omega,fun _=>h⟩
theorem Io(row:List Rat)(n:Nat):tR row n<=n∧(∀t,t<tR row n->row.getD t 0=0)∧(tR row n≠n->row.getD (tR row n) 0≠0):=by
 obtain⟨_,h2,h3,h4⟩:=zM row n 0;unfold tR;exact⟨by omega,fun t h=>h3 t (aP _) h,fun h=>h4 (by omega)⟩
theorem Ip(y:List Rat)(q:Rat)(t:Nat):(y.map (· / q)).getD t 0=y.getD t 0 / q:=by
 simp only[List.getD,aM]
 cases y[t]? with
 |none=>show(0:Rat)=0 / q;rw[bg,bL]
 |some x=>rfl
structure Ge(M:List (List Rat))(n B i:Nat)(s:xU)(p:Nat->Nat)(Z:Mx):Prop where
 ok:tS n n i s
 piv:∀k,k<n->∀r:Nat,s.2.1[k]? =some (some r)↔r<s.1.length∧p r=k
 zN:zL (dL s.1) p s.1.length n B Z
 up:∀r,r<s.1.length->eG (dL M) i n (dL s.1 r)
 dn:∀j,j<i->eG (dL s.1) s.1.length n (dL M j)
section
variable{M:List (List Rat)}{n B i:Nat}{s:xU}{p:Nat->Nat}{Z:Mx}
theorem Ge.mJ(h:Ge M n B i s p Z){x:List Rat}(hx:x.length=n):∀k,k<=n->∀t,t<n->(fW s.1 s.2.1 x k).getD t 0=mJ (dL s.1) p s.1.length (fun t=>x.getD t 0) k t
 |0,_,t,ht=>by rw[KD];rfl
 |k+1,hk,t,ht=>by
  have ih:=Ge.mJ h hx k (by omega);obtain⟨o,ho⟩:∃o,s.2.1[k]? =some o:=⟨_,aB (by rw[h.ok.at_];omega)⟩
  have hd:s.2.1.getD k none=o:=by rw[List.getD,ho];rfl
  rw[fW,hd]
  cases o with
  |none=>
   simp only
   rw[ih t ht,KE fun r hr e=>?_];have:=(h.piv k (by omega) r).2 ⟨hr,e⟩;rw[ho]at this
   cases this
  |some r=>
   simp only
   obtain⟨hr,e⟩:=(h.piv k (by omega) r).1 ho;rw[mP,uz (by rw[iA,hx];exact ht),ih t ht,ih k (by omega),<-e,KF h.zN.ru hr];rfl
theorem Ge.step(h:Ge M n B i s p Z)(hM:fg n M)(hi:i<M.length){d:Rat}(hd:d≠0)(hz:∀t,t<n->Ib B (d*dL M i t)):
  ∃p' Z',Ge M n B (i+1) (kI n s i (M.getD i [])) p' Z':=by
 have hx:(M.getD i []).length=n:=hM.getD hi;have OI:=h.ok.step hx;obtain⟨y,hy⟩:∃y,fW s.1 s.2.1 (M.getD i []) n=y:=⟨_,rfl⟩
 have hu:∀t,t<n->y.getD t 0=Go.Ex.mJ (dL s.1) p s.1.length (dL M i) n t:=fun t ht=>by rw[<-hy];exact h.mJ hx n (aF _) t ht
 have TO:y.length=n:=by rw[<-hy,iA,hx]
 obtain⟨q1,q2,q3⟩:=Io y n;by_cases hq:tR y n=n
 ·have e:kI n s i (M.getD i [])=s:=by unfold kI;simp only[hy,hq,if_true]
  rw[e]at OI ⊢;refine⟨p,Z,OI,h.piv,h.zN,fun r hr=>(h.up r hr).more (Nat.le_succ i),fun j hj=>?_⟩;rcases aO j i with h1|h1
  ·exact h.dn j h1
  ·rw[show j=i by omega];refine⟨fun j=>dL M i (p j),fun t ht=>?_⟩;have h2:=hu t ht;rw[q2 t (by omega)]at h2;unfold Go.Ex.mJ at h2;rw[cL (g:=fun j=>dL M i (p j)*dL s.1 j t) fun j hj=>if_pos (h.zN.ru.lt j hj)]at h2;grind
 ·have h0:=q3 hq;obtain⟨k,hk⟩:∃k,tR y n=k:=⟨_,rfl⟩
  rw[hk]at hq h0 q1 q2;have hkn:k<n:=by omega
  have e:kI n s i (M.getD i [])=(gJ s.1 (y.map (· / y.getD k 0)) k s.1.length++[y.map (· / y.getD k 0)],s.2.1.set k (some s.1.length),s.2.2++[i]):=by
   unfold kI;simp only[hy,hk,aL hq]
  rw[e]at OI ⊢;have hl:(gJ s.1 (y.map (· / y.getD k 0)) k s.1.length).length=s.1.length:=fq ..;have RP:(gJ s.1 (y.map (· / y.getD k 0)) k s.1.length++[y.map (· / y.getD k 0)]).length=s.1.length+1:=by rw[List.length_append,hl];rfl
  have hdv:∀t,t<n->(y.map (· / y.getD k 0)).getD t 0=y.getD t 0 / y.getD k 0:=fun t _=>Ip y _ t;have hE:∀a t,a<s.1.length+1->t<n->dL (gJ s.1 (y.map (· / y.getD k 0)) k s.1.length++[y.map (· / y.getD k 0)]) a t=kf (dL s.1) s.1.length (fun t=>y.getD t 0) k a t:=fun a t ha ht=>by
   unfold kf;by_cases h1:a=s.1.length
   ·rw[if_pos h1,<-hdv t ht,dL];congr 1;rw[List.getD,aN (by omega),hl,h1,bH];rfl
   ·have Oq:a<s.1.length:=by omega
    have hr:=aB Oq;have Ok:(s.1[a]).length=n:=h.ok.len _ (aX Oq);have hg:s.1.getD a []=s.1[a]:=by rw[List.getD,hr];rfl
    have OG:(gJ s.1 (y.map (· / y.getD k 0)) k s.1.length++[y.map (· / y.getD k 0)]).getD a []=mP s.1[a] (y.map (· / y.getD k 0)) ((s.1[a]).getD k 0):=by
     rw[List.getD,aK (by omega),gJ,List.getElem?_mapIdx,hr];simp only[Option.map_some,Option.getD_some,if_pos Oq]
    rw[aL h1,dL,OG,mP,uz (by omega),hdv t ht];unfold dL;rw[hg]
  have hC:=h.zN.push hd hz hu hkn h0 q2;have TP:=NX (v:=dL M i) hu h.zN.ru.lt;refine⟨fun i=>if i=s.1.length then k else p i,fun a t=>if a=s.1.length then d*dL M i t else Z a t,OI,?_,?_,?_,?_⟩
  ·intro c hc r;dsimp only
   rw[RP];have OH:∀j,j<s.1.length->p j≠k:=fun j hj e=>h0 (by rw[hu k hkn,<-e];exact Hh h.zN.ru hj);by_cases h1:c=k
   ·rw[h1,aV (by rw[h.ok.at_];exact hkn)];constructor
    ·intro e;injection e with e;injection e with e;exact⟨by omega,by rw[if_pos e.symm]⟩
    ·rintro⟨h2,h3⟩;by_cases h4:r=s.1.length
     ·rw[h4]
     ·rw[aL h4]at h3;exact absurd h3 (OH r (by omega))
   ·rw[aY (Ne.symm h1),h.piv c hc r];constructor
    ·rintro⟨h2,h3⟩;exact⟨by omega,by rw[aL (by omega)];exact h3⟩
    ·rintro⟨h2,h3⟩;by_cases h4:r=s.1.length
     ·rw[if_pos h4]at h3;exact absurd h3.symm h1
     ·rw[aL h4]at h3;exact⟨by omega,h3⟩
  ·dsimp only
   rw[RP];exact hC.congr hE (fun _ _=>rfl) fun _ _ _ _=>rfl
  ·dsimp only
   rw[RP];intro a ha;refine((KG (k:=k) TP a ha).trans fun b hb=>?_).congr fun t ht=>hE a t ha ht;by_cases h1:b=s.1.length
   ·exact(eG.row (show i<i+1 by omega)).congr fun t _=>by unfold js;rw[if_pos h1]
   ·exact((h.up b (by omega)).more (Nat.le_succ i)).congr fun t _=>by unfold js;rw[aL h1]
  ·dsimp only
   rw[RP];intro j hj;refine eG.Gd ?_ hE;rcases aO j i with h1|h1
   ·exact(h.dn j h1).trans fun b hb=>qk h0 b hb
   ·rw[show j=i by omega];exact Bh h0 hu h.zN.ru.lt
end
theorem qm{M:List (List Rat)}{n B:Nat}(hM:fg n M)(hW:Bi M n B):∀i,i<=M.length->∃p Z,Ge M n B i (gR M n i) p Z
 |0,_=>⟨fun _=>0,fun _ _=>0,tS.start n n,fun k _ r=>⟨fun h=>(by
   simp only[gR,List.getElem?_replicate]at h
   split at h<;>cases h),fun h=>(by have:=h.1;simp[gR]at this)⟩,zL.start _ _ _ _ _,fun r h=>(by simp[gR]at h),fun j h=>by omega⟩
 |i+1,hi=>by
  obtain⟨p,Z,h⟩:=qm hM hW i (by omega);obtain⟨d,hd,-,hz⟩:=hW i (by omega);exact h.step hM (by omega) hd hz
theorem KL(hM:fg n M)(hW:Bi M n B)(hB:1<=B){i:Nat}(hi:i<=M.length):∀r∈(gR M n i).1,∀q∈r,rl q<=ln (fB B M.length):=fun r hr q hq=>by
 obtain⟨p,Z,h⟩:=qm hM hW i hi;obtain⟨a,ha⟩:=aS hr;obtain⟨t,ht⟩:=aS hq;have Oq:=(aD.1 ha).1;have SZ:=(aD.1 ht).1;rw[h.ok.len r hr]at SZ;have h1:=h.zN.KJ Oq SZ;rw[dL,show(gR M n i).1.getD a []=r by rw[List.getD,ha];rfl,show r.getD t 0=q by rw[List.getD,ht];rfl]at h1;exact aZ h1 (fI (ql hB (aZ h.ok.le hi)))
theorem KM(hM:fg n M)(hW:Bi M n B)(hB:1<=B){i k:Nat}(hi:i<M.length)(hk:k<=n):∀q∈fW (gR M n i).1 (gR M n i).2.1 (M.getD i []) k,rl q<=ln (fB B M.length):=fun q hq=>by
 obtain⟨p,Z,h⟩:=qm hM hW i (by omega);have hx:(M.getD i []).length=n:=hM.getD hi;obtain⟨t,ht⟩:=aS hq;have SZ:=(aD.1 ht).1;rw[iA,hx]at SZ;have h1:=h.mJ hx k hk t SZ;rw[show (fW (gR M n i).1 (gR M n i).2.1 (M.getD i []) k).getD t 0=q by rw[List.getD,ht];rfl]at h1;obtain⟨d,hd,hdB,hz⟩:=hW i hi;rw[h1];exact aZ (h.zN.KK hB hd hdB hz k SZ) (fI (ql hB (by have:=h.ok.le;omega)))
theorem Bj{s:xU}:∀k,(dG s k).1.length=(dG s k).2.1.length∧(∀i,i<(dG s k).2.1.length->∃r:Nat,s.2.1[(dG s k).2.1.getD i 0]? =some (some r)∧(dG s k).1.getD i []=s.1.getD r []∧(dG s k).2.1.getD i 0<k)∧
  (∀i j,i<j->j<(dG s k).2.1.length->(dG s k).2.1.getD i 0<(dG s k).2.1.getD j 0)∧∀q,q<k->∀r:Nat,s.2.1[q]? =some (some r)->∃i,i<(dG s k).2.1.length∧(dG s k).2.1.getD i 0=q
 |0=>⟨rfl,fun i h=>(by cases h),fun i j _ h=>(by cases h),fun q h=>by omega⟩
 |k+1=>by
  obtain⟨h1,h2,h3,h4⟩:=Bj (s:=s) k;have step:(∃r:Nat,s.2.1[k]? =some (some r)∧dG s (k+1)=((dG s k).1++[s.1.getD r []],(dG s k).2.1++[k],(dG s k).2.2++[s.2.2.getD r 0]))∨((∀r:Nat,s.2.1[k]? ≠some (some r))∧dG s (k+1)=dG s k):=by
   rw[dG]
   cases ho:s.2.1[k]? with
   |none=>exact .inr ⟨fun r e=>(by cases e),by rw[show s.2.1.getD k none=none by rw[List.getD,ho];rfl]⟩
   |some o=>cases o with
    |none=>exact .inr ⟨fun r e=>(by cases e),by rw[show s.2.1.getD k none=none by rw[List.getD,ho];rfl]⟩
    |some r=>exact .inl ⟨r,rfl,by rw[show s.2.1.getD k none=some r by rw[List.getD,ho];rfl]⟩
  rcases step with⟨r,hr,e⟩|⟨hr,e⟩
  ·rw[e];have old:∀i,i<(dG s k).2.1.length->((dG s k).2.1++[k]).getD i 0=(dG s k).2.1.getD i 0:=fun i hi=>by rw[List.getD,aK hi,<-List.getD]
   have new:((dG s k).2.1++[k]).getD (dG s k).2.1.length 0=k:=by rw[List.getD,aN (aF _),bH];rfl
   have hlen:((dG s k).2.1++[k]).length=(dG s k).2.1.length+1:=by simp
   dsimp only
   rw[hlen];refine⟨by simp[h1],fun i hi=>?_,fun i j Pm hj=>?_,fun q hq x hx=>?_⟩
   ·rcases aO i (dG s k).2.1.length with h5|h5
    ·obtain⟨x,x1,x2,x3⟩:=h2 i h5;rw[old i h5];refine⟨x,x1,?_,by omega⟩;rw[List.getD,aK (by omega),<-List.getD];exact x2
    ·rw[show i=(dG s k).2.1.length by omega,new];refine⟨r,hr,?_,by omega⟩;rw[List.getD,aN (by omega),h1,bH];rfl
   ·rcases aO j (dG s k).2.1.length with h5|h5
    ·rw[old i (by omega),old j h5];exact h3 i j Pm h5
    ·rw[show j=(dG s k).2.1.length by omega,new,old i (by omega)];obtain⟨_,_,_,x3⟩:=h2 i (by omega);exact x3
   ·rcases aO q k with h5|h5
    ·obtain⟨i,i1,i2⟩:=h4 q h5 x hx;exact⟨i,by omega,by rw[old i i1];exact i2⟩
    ·exact⟨(dG s k).2.1.length,by omega,by rw[new];omega⟩
  ·rw[e];refine⟨h1,fun i hi=>?_,h3,fun q hq x hx=>?_⟩
   ·obtain⟨x,x1,x2,x3⟩:=h2 i hi;exact⟨x,x1,x2,by omega⟩
   ·rcases aO q k with h5|h5
    ·exact h4 q h5 x hx
    ·rw[show q=k by omega]at hx;exact absurd hx (hr x)
theorem fw{α:Type}{a b:List α}(d:α)(hl:a.length=b.length)(h:∀i,i<a.length->a.getD i d=b.getD i d):a=b:=by
 refine List.ext_getElem hl fun i h1 h2=>?_;have:=h i h1
 rwa [List.getD,List.getD,aB h1,aB h2]at this
theorem sQ(hM:fg n M)(hW:Bi M n B):(dX M n).2.1=(cN M n).2∧(dX M n).1=(cN M n).1.take (cN M n).2.length:=by
 obtain⟨p,Z,h⟩:=qm hM hW M.length (aF _);obtain⟨h1,h2,h3,h4⟩:=Bj (s:=gR M n M.length) n;unfold dX;generalize gR M n M.length=s at*
 obtain⟨F,hF⟩:∃F,dG s n=F:=⟨_,rfl⟩
 rw[hF]at h1 h2 h3 h4 ⊢;have OG:∀i,i<F.2.1.length->∃r,r<s.1.length∧p r=F.2.1.getD i 0∧F.1.getD i []=s.1.getD r []∧F.2.1.getD i 0<n:=fun i hi=>by
  obtain⟨r,r1,r2,r3⟩:=h2 i hi;obtain⟨k1,k2⟩:=(h.piv _ r3 r).1 r1;exact⟨r,k1,k2,r2,r3⟩
 have inj:∀i j,i<F.2.1.length->j<F.2.1.length->F.2.1.getD i 0=F.2.1.getD j 0->i=j:=fun i j hi hj e=>by
  rcases bq i j with h5|h5|h5
  ·have:=h3 i j h5 hj;omega
  ·exact h5
  ·have:=h3 j i h5 hi;omega
 have hrf:Rf (dL F.1) (fun i=>F.2.1.getD i 0) F.2.1.length n:=by
  refine⟨fun i hi=>?_,h3,fun i j hi hj=>?_,fun i t hi ht=>?_⟩
  ·obtain⟨_,_,_,_,h5⟩:=OG i hi;exact h5
  ·obtain⟨a,a1,a2,a3,_⟩:=OG i hi;obtain⟨b,b1,b2,b3,_⟩:=OG j hj;rw[dL,b3,<-a2];have:=h.zN.ru.unit a b a1 b1;unfold dL at this;rw[this];by_cases h5:j=i
   ·rw[if_pos h5,if_pos (h.zN.ru.inj b a b1 a1 (by rw[a2,b2,h5]))]
   ·rw[aL h5,aL fun e=>h5 (inj j i hj hi (by rw[<-a2,<-b2,e]))]
  ·obtain⟨a,a1,a2,a3,_⟩:=OG i hi;rw[dL,a3];have:=h.zN.ru.lead a t a1 (by rw[a2];exact ht);unfold dL at this;exact this
 have Vy:∀r,r<s.1.length->eG (dL F.1) F.2.1.length n (dL s.1 r):=fun r hr=>by
  have hp:=h.zN.ru.lt r hr;obtain⟨i,i1,i2⟩:=h4 (p r) hp r ((h.piv _ hp r).2 ⟨hr,rfl⟩);obtain⟨a,a1,a2,a3,_⟩:=OG i i1;have e:a=r:=h.zN.ru.inj a r a1 hr (by rw[a2,i2]);exact(eG.row i1).congr fun t _=>by rw[dL,dL,a3,e]
 obtain⟨e1,e2,e3⟩:=Ee hM hrf (fun i hi=>by
  obtain⟨a,a1,a2,a3,_⟩:=OG i hi
  exact(h.up a a1).congr fun t _=>by rw[dL,dL,a3]) fun j hj=>(h.dn j hj).trans Vy
 obtain⟨g1,g2,-,-,-⟩:=dx hM n (aF _);refine⟨fw 0 e1.symm fun i hi=>(e2 i hi).symm,fw [] ?_ fun i hi=>?_⟩
 ·rw[aW,e1,h1];omega
 ·rw[h1]at hi;have Q4:i<(cN M n).2.length:=by omega
  obtain⟨a,a1,a2,a3,_⟩:=OG i hi;have RU:(F.1.getD i []).length=n:=by rw[a3];exact h.ok.len.getD a1
  have hg:((cN M n).1.take (cN M n).2.length).getD i []=(cN M n).1.getD i []:=by rw[List.getD,bU Q4,<-List.getD]
  rw[hg];refine fw 0 (by rw[RU,g1.getD (by omega)]) fun t ht=>?_;rw[RU]at ht;exact(e3 i t hi ht).symm
structure ElI(M:List (List Rat))(n B c:Nat)(s:List (List Rat)×List Nat)(σ:Nat->Nat)(Z:Mx):Prop where
 red:Red n c s
 mon:KC s
 len:s.1.length=M.length
 zN:zL (dL s.1) (fun i=>s.2.getD i 0) s.2.length n B Z
 org:∀j,j<M.length->σ j<M.length
 rest:∀j,s.2.length<=j->j<M.length->∀t,t<n->dL s.1 j t=mJ (dL s.1) (fun i=>s.2.getD i 0) s.2.length (dL M (σ j)) n t
theorem ElI.step{c:Nat}{Z:Mx}(h:ElI M n B c s σ Z)(hW:Bi M n B)(hc:c<n):∃σ' Z',ElI M n B (c+1) (da s c) σ' Z':=by
 have QE:=h.red.step hc;have hmon:=h.mon.step h.red hc;have hlen:(da s c).1.length=M.length:=by rw[oF,h.len]
 obtain⟨hl,hle,hz,Qy,hu⟩:=h.red;rcases kT c hle with⟨e,h0⟩|⟨k,h1,h2,h3,e⟩
 ·rw[e]at QE hmon hlen ⊢;exact⟨σ,Z,QE,hmon,hlen,h.zN,h.org,h.rest⟩
 ·obtain⟨r1,r2⟩:=oG hl h1 h2 h3 e;have e2:(da s c).2=s.2++[c]:=by rw[e]
  have e3:(da s c).2.length=s.2.length+1:=by rw[e2];simp
  have hkM:k<M.length:=by rw[<-h.len];exact h2
  have hk:=h.rest k h1 hkM;obtain⟨d,hd,-,hdz⟩:=hW (σ k) (h.org k hkM);have hC:=h.zN.push (u:=dL s.1 k) hd hdz hk hc h3 fun t ht=>hz k t h1 h2 ht;have hold:∀i,i<s.2.length->(da s c).2.getD i 0=s.2.getD i 0:=fun i hi=>by rw[e2,List.getD,aK hi,<-List.getD]
  have Ps:(da s c).2.getD s.2.length 0=c:=by rw[e2,List.getD,aN (aF _),bH];rfl
  have hE:∀i t,i<s.2.length+1->t<n->dL (da s c).1 i t=kf (dL s.1) s.2.length (dL s.1 k) c i t:=fun i t hi ht=>by
   unfold kf;by_cases S1:i=s.2.length
   ·rw[if_pos S1,S1,r1,bg,bg,bu]
   ·rw[aL S1,r2 i (by omega) S1 t ht,aL (by omega),bg,bg,bu]
  have Vz:zL (dL (da s c).1) (fun i=>(da s c).2.getD i 0) (da s c).2.length n B fun i t=>if i=s.2.length then d*dL M (σ k) t else Z i t:=by
   rw[e3];refine hC.congr hE (fun i hi=>?_) fun _ _ _ _=>rfl;by_cases S1:i=s.2.length
   ·rw[if_pos S1,S1,Ps]
   ·rw[aL S1,hold i (by omega)]
  refine⟨fun j=>if j=k then σ s.2.length else σ j,_,QE,hmon,hlen,Vz,fun j hj=>?_,fun j hj hjM t ht=>?_⟩
  ·split
   ·exact h.org _ (by omega)
   ·exact h.org j hj
  ·rw[e3]at hj;have hjs:j<s.1.length:=by rw[h.len];exact hjM
   obtain⟨jj,hjj⟩:∃jj,(if j=k then s.2.length else j)=jj:=⟨_,rfl⟩
   have hjr:s.2.length<=jj:=by rw[<-hjj];split<;>omega
   have Sf:jj<M.length:=by rw[<-hjj];split<;>omega
   have hσ:(if j=k then σ s.2.length else σ j)=σ jj:=by rw[<-hjj];split<;>rfl
   rw[hσ];refine ML Vz.ru ?_ (fun i hi=>?_) ht
   ·have hr:eG (dL (da s c).1) (da s c).2.length n (dL (da s c).1 s.2.length):=eG.row (by omega);have h5:eG (dL s.1) s.2.length n fun t=>cd (fun i=>dL M (σ jj) (s.2.getD i 0)*dL s.1 i t) s.2.length:=⟨_,fun t _=>rfl⟩
    have h6:eG (dL (da s c).1) (da s c).2.length n fun t=>cd (fun i=>dL M (σ jj) (s.2.getD i 0)*dL s.1 i t) s.2.length:=h5.trans fun i hi=>by
     rw[e3];exact eG.Gd (qk h3 i hi) hE
    refine(h6.add hr (dL s.1 jj c)).congr fun t ht=>?_;have h7:=h.rest jj hjr Sf t ht;unfold mJ at h7;rw[cL (g:=fun i=>dL M (σ jj) (s.2.getD i 0)*dL s.1 i t) fun i hi=>if_pos (h.zN.ru.lt i hi)]at h7;rw[r2 j hjs (by omega) t ht,hjj,r1,h7];grind
   ·rw[QE.2.2.2.2 i j hi (by rw[hlen];exact hjM),aL (by omega)]
theorem pc{M:List (List Rat)}{n B:Nat}(hM:fg n M)(hW:Bi M n B):∀c,c<=n->∃σ Z,ElI M n B c (cN M c) σ Z
 |0,_=>⟨fun j=>j,fun _ _=>0,⟨hM,aP _,fun _ _ _ _ h=>by omega,fun p hp=>(by cases hp),fun _ _ h=>(by cases h)⟩,⟨fun _ _ _ h=>(by cases h),fun _ _ h=>(by cases h)⟩,rfl,zL.start _ _ _ _ _,fun j hj=>hj,fun j _ hj t ht=>by
   show dL M j t=mJ (dL M) _ 0 (dL M j) n t;unfold mJ;show _=_-0
   grind⟩
 |c+1,hc=>by
  obtain⟨σ,Z,h⟩:=pc hM hW c (by omega);unfold cN at h ⊢;rw[bT,List.foldl_append];exact h.step hW (by omega)
theorem sR(hM:fg n M)(hW:Bi M n B)(hB:1<=B){c:Nat}(hc:c<=n):∀r∈(cN M c).1,∀q∈r,rl q<=ln (fB B M.length):=fun r hr q hq=>by
 obtain⟨σ,Z,h⟩:=pc hM hW c hc;obtain⟨a,ha⟩:=aS hr;obtain⟨t,ht⟩:=aS hq;have Oq:=(aD.1 ha).1;have SZ:=(aD.1 ht).1;rw[h.red.1 r hr]at SZ;have hle:=h.red.2.1;have e:q=dL (cN M c).1 a t:=by rw[dL,show(cN M c).1.getD a []=r by rw[List.getD,ha];rfl,List.getD,ht];rfl
 rw[h.len]at Oq hle;rw[e];rcases aO a (cN M c).2.length with h1|h1
 ·exact aZ (h.zN.KJ h1 SZ) (fI (ql hB hle))
 ·obtain⟨d,hd,hdB,hz⟩:=hW _ (h.org a Oq);rw[h.rest a h1 Oq t SZ];exact aZ (h.zN.KK hB hd hdB hz n SZ) (fI (ql hB (by omega)))
end Go.Ex
namespace Go.Ex
open Go Go.Sx Go.Proofs
variable{b:List (Int×Int)}{M:List (List (Int×Int))}{K:List (List Rat)}{qs xs ys:List Rat}{cs:List Value}{h h0:Nat}{C S:Nat->Prop}{a:Option Addr}{p q:Rat}{u v:Value}{w:World}
theorem Ff{M:List (List Rat)}{a c i k:Nat}(h:i<k):(db M a c k)[i]? =(db M a c (i+1))[i]? :=by
 simp only[db,List.getElem?_mapIdx]
 have:(i<k∧i≠a)↔(i<i+1∧i≠a):=by omega
 simp[this,h]
theorem xN{M:List (List Rat)}{n cols:Nat}(hS:Old S w)(hm:dF w S v M)(hlen:fg n M)(hn:n<=1000)(hR:M.length<=1000)(PT:cols<=n)(hB:∀c,c<=cols->Ht (cN M c).1 h)(hh:3*h<=90000):
  di PG N.rY #[v,.int .i64 cols] w (dw w fun v' w2=>∃vm vp,v'= .tuple #[vm,vp]∧dF w2 (Nw S w w2) vm (cN M cols).1∧dH w2 (Nf w w2) vp (cN M cols).2):=by
 have hw:=bR w;replace hm:=dF.arg hm [];obtain⟨rv0,⟨St,hl0,h1,am,cm,rfl,Rb,OS⟩,hl,hrows⟩:=hm;unfold maxLen at St;have Pz:gX w (Cv S w.heap.size []) rv0 M:=⟨hl,h1,hrows⟩
 refine ve (by simp) ?_;refine .inl ?_;refine⟨rv0,hl0,h1,fun O w' r Ot=>?_,?_⟩
 ·obtain⟨u0,Rl⟩:∃u,rv0[0]? =some u:=⟨_,aB (by omega)⟩
  obtain⟨ad,ha,_,_⟩:=OS 0 u0 Rl;refine⟨ad,ha,fun j u hj=>?_⟩;obtain⟨ad2,Oq,q1,q2⟩:=OS j u hj;rw[ha]at Oq;injection Oq with Oq;subst Oq;rw[cG (w:=w) (w2:=w') (by rw[dE];exact Rel.same r hS q1)];exact q2
 refine⟨rfl,by omega,by unfold maxLen;omega,?_⟩;rw[aR M.length]
 refine⟨Nat×List Value×List (List Rat)×List Nat×World×Iv,fun z=>⟨[(1,iZ cols),(6,.o (.w 0 M.length)),(7,.o (.w 1 z.2.2.2.1.length)),(8,iN z.1)],[(1,.vec T.int 1 (z.2.2.2.1.map fun c:Nat=>.int .i64 (c:Int))),(0,.vec T.fU 1 z.2.1)],2,z.2.2.2.2.2,z.2.2.2.2.1⟩,fun z=>cols-z.1,
  fun z=>z.1<=cols∧(z.2.2.1,z.2.2.2.1)=(List.range z.1).foldl da (M,[])∧fg n z.2.2.1∧(z.2.2.1.length=M.length∧z.2.2.2.1.length<=M.length)∧dm w.heap.size w z.2.2.2.2.1∧gX z.2.2.2.2.1 (Cv S w.heap.size z.2.2.2.2.2) z.2.1 z.2.2.1,?_,?_⟩
 ·intro O w' r
  exact⟨(0,rv0,M,[],w',[]),⟨aP _,rfl,hlen,⟨rfl,aP _⟩,hw.tr r.cP,Pz.rel r hS⟩,Sub.nil 7 T.int 1 rfl (by simp[jX,SV.sc,At.sc,fT]) r fun ρ1 r1=>
   Sub.gn [(0,1),(1,2)] r1⟩
 rintro⟨c,rv,M1,pv,w1,iv⟩ ⟨hc,RJ,TB,hInv,hw,Pz⟩;dsimp only at hc RJ TB hInv hw Pz ⊢;obtain⟨hI1,hI2⟩:=hInv;have hI4:Ht M1 h:=by
  have h5:=hB c hc;rw[show cN M c=(M1,pv)from RJ.symm]at h5;exact h5
 have Ok:rv.length=M.length:=by rw[Pz.1,hI1]
 refine dM.mk ?_ ?_<;>intro OF
 ·have OF:c<cols:=by simpa using OF
  refine⟨by simp,Nat×World×Iv,fun z=>⟨[(1,iZ cols),(6,.o (.w 0 M.length)),(7,.o (.w 1 pv.length)),(8,iN c),(9,iN pv.length),(10,iN z.1)],[(1,.vec T.int 1 (pv.map fun c:Nat=>.int .i64 (c:Int))),(0,.vec T.fU 1 rv)],2,z.2.2,z.2.1⟩,fun z=>M.length-z.1,
   fun z=>pv.length<=z.1∧z.1<=M.length∧(∀j,pv.length<=j->j<z.1->dL M1 j c=0)∧dm w.heap.size w z.2.1∧gX z.2.1 (Cv S w.heap.size z.2.2) rv M1,?_,?_⟩
  ·intro O w' r;exact⟨(pv.length,w',iv),⟨aF _,hI2,fun j h3 h4=>by dsimp only at h4;omega,hw.tr r.cP,Pz.rel r hS⟩,Sub.gn [] r⟩
  rintro⟨k,w2,iv⟩ ⟨Sr,hk1,hkz,hw,Pz⟩;dsimp only at Sr hk1 hkz hw Pz ⊢;have hRl:=Pz.1;refine⟨by rw[Ok,aR,aT],?_⟩;refine dM.mk ?_ ?_<;>intro OK
  ·have OK:k<M.length:=by have:=aI OK;omega
   obtain⟨u,x,hu,hx,hux⟩:=Pz.get (i:=k) (by omega);have PO:=TB x (aC hx);obtain⟨y,hy⟩:∃y,x[c]? =some y:=⟨_,aB (by omega)⟩
   have QG:dL M1 k c=y:=by simp[dL,List.getD,hx,hy]
   obtain⟨au,cu,rfl,hcu,-⟩:=cY.shape hux;obtain⟨ad,cs,OW,hF,_,SY⟩:=cY.load hux hy;obtain⟨p0,p1,p2,p3,p4,p5,p6,p7,rfl,hF⟩:=hF;refine⟨by simp[Ok],by omega,.slice au x.length cu,by simpa using hu,ad,OW,by omega,[.bool p0,.slice p1 p2 p3,.bool p4,.slice p5 p6 p7],rfl,fun O w' r i x hx=>?_,?_⟩
   ·obtain⟨k1,k2⟩:=SY i x hx;rw[aE,cG (w:=w2) (w2:=w') (by rw[dE,dE];exact Rel.same r hS k1)];exact k2
   refine cC (cE hw (fun _ w' v w2=>v= .int .i64 (rs y)) (fun O w' r=>og (Rel.old r hS) (hF.rel r hS)) ?_);rintro O _ _ Pe OM r he hw h_ rfl;replace Pz:=Pz.cF r hS he (mC h_);refine dM.mk ?_ ?_<;>intro hs
   ·have hs:y=0:=lD.1 (by simpa using hs);refine⟨((k+1:Nat):Int),wo,?_⟩;intro ρ3 w3 r3
    exact⟨(k+1,w3,_),⟨by dsimp only;omega,OK,fun j h3 h4=>by
      by_cases hj:j=k
      ·rw[hj,QG,hs]
      ·exact hkz j h3 (by dsimp only at h4;omega),hw.tr r3.cP,Pz.rel r3 hS⟩,Sub.gn [] r3,by dsimp only;omega⟩
   have hs:y≠0:=fun e=>by rw[e]at hs;exact absurd hs (by decide)
   refine⟨by rw[Ok,aR,aT],?_⟩;refine dM.mk (fun hge=>absurd (aI hge) (by omega)) (fun _=>?_);obtain⟨uk,xk,huk,hxk,huxk⟩:=Pz.get (i:=k) (by omega);obtain⟨ur,xr,hur,Ty,huxr⟩:=Pz.get (i:=pv.length) (by omega);have hukc:=Pz.2.1 uk (aC huk);have hurc:=Pz.2.1 ur (aC hur);obtain⟨aur,cur,rfl,-,-⟩:=cY.shape huxr;obtain⟨auk,cuk,rfl,-,-⟩:=cY.shape huxk;have hsw:fP [] M1 pv.length k=(M1.set pv.length xk).set k xr:=by simp[fP,List.getD,hxk,Ty]
   have Uy:pv.length<M.length:=by omega
   have OH:dL M1 k c≠0:=by rw[QG];exact hs
   have On:=yq (s:=(M1,pv)) (c:=c) (k:=k) Sr (by show k<M1.length;omega) hkz OH;dsimp only at On;have hHt2:=hI4.swap (i:=pv.length) (j:=k) (by omega) (by omega);have hat2:=EZ (M:=M1) (i:=pv.length) (j:=k) (c:=c) (by omega) (by omega);have hc1:Ht (db (scaled (fP [] M1 pv.length k) pv.length c) pv.length c M.length) h:=by
    have h5:=hB (c+1) OF;rw[show cN M (c+1)=da (M1,pv) c by unfold cN;rw[bT,List.foldl_append,<-RJ];rfl,On,hI1]at h5;exact h5
   have Vb:(∀r,(scaled (fP [] M1 pv.length k) pv.length c)[pv.length]? =some r->∀q∈r,rl q+1<=h)∧∀j r,j≠pv.length->(scaled (fP [] M1 pv.length k) pv.length c)[j]? =some r->∀q∈r,rl q+1<=h:=
    ⟨fun r hr=>hc1 r (aC (i:=pv.length) (by rw[sL];exact hr)),fun j r hj hr=>hHt2 r (aC (i:=j) (by unfold Go.Ex.scaled at hr;rwa [aY (Ne.symm hj)]at hr))⟩
   have R5:=(Pz.set (i:=pv.length) hukc huxk).set (i:=k) hurc huxr;rw[<-hsw]at R5;have WG:fg n (fP [] M1 pv.length k):=by
    rw[hsw];exact(TB.set (TB xk (aC hxk))).set (TB xr (aC Ty))
   have Pb:(fP [] M1 pv.length k).length=M.length:=by rw[jf,hI1]
   generalize hrv2:(rv.set pv.length (.slice auk xk.length cuk)).set k (.slice aur xr.length cur)=rv2 at R5;have Q5:rv2.length=M.length:=by rw[R5.1,Pb]
   refine cK hτ dZ [.x 0,.x 1,.x 2,.x 3,.x 4,.x 5,.x 6,.x 7,.x 8,.x 9,.x 10,.x 11,.x 12,.x 13,.x 14,.x 15] (by kernel_rfl) (by kernel_rfl) ?_;refine⟨by simp[Ok],by omega,.slice auk xk.length cuk,by simpa using huk,by simp[Ok],by omega,.slice aur xr.length cur,by simpa using hur,by simp[Ok],by omega,by simp[Ok,Q5];omega,rv.set pv.length (.slice auk xk.length cuk),by rw[aE,aT];exact fu (by simp[Ok,Q5];omega),by simp[Ok],by omega,by simp[Ok,Q5];omega,rv2,by rw[aE,aT,<-hrv2];exact fu (by simp[Ok,Q5];omega),?_⟩;obtain⟨u2,x2,TP,Rh,TC⟩:=R5.get (i:=pv.length) (by omega);have hx2l:=WG x2 (aC Rh);obtain⟨y2,hy2⟩:∃y,x2[c]? =some y:=⟨_,aB (by omega)⟩
   have hat3:dL (fP [] M1 pv.length k) pv.length c=y2:=by simp[dL,List.getD,Rh,hy2]
   have hy20:y2≠0:=by rw[<-hat3,hat2];exact OH
   have RG:(fP [] M1 pv.length k).getD pv.length []=x2:=by simp[List.getD,Rh]
   have hscl:scaled (fP [] M1 pv.length k) pv.length c=(fP [] M1 pv.length k).set pv.length (x2.map (· *(1 / y2))):=by rw[scaled,RG,hat3]
   rw[hscl]at On Vb hc1;have QI:=hHt2.at Rh;have UH:=QI y2 (aC hy2);have hinv:=Nj hy20;have Rd:((fP [] M1 pv.length k).set pv.length (x2.map (· *(1 / y2)))).length=M.length:=by rw[bE,Pb]
   have hget3:((fP [] M1 pv.length k).set pv.length (x2.map (· *(1 / y2))))[pv.length]? =some (x2.map (· *(1 / y2))):=aV (by omega);have WH:fg n ((fP [] M1 pv.length k).set pv.length (x2.map (· *(1 / y2)))):=WG.set (by rw[aJ];exact hx2l);generalize fP [] M1 pv.length k=M2 at*
   obtain⟨au2,cu2,rfl,hcu2,-⟩:=cY.shape TC;obtain⟨ad2,cs2,Po,Rc,_,hlc2⟩:=cY.load TC hy2;obtain⟨q0,q1,q2,q3,q4,q5,q6,q7,rfl,Rc⟩:=Rc;replace Ok:=Q5;refine cK hτ dZ [.x 1,.x 2,.x 3,.x 4,.x 5,.x 6,.x 7,.p 12,.x 0,.x 8,.x 9,.x 10,.x 11,.x 12,.x 13,.x 14] (by kernel_rfl) (by kernel_rfl) ?_;refine⟨by simp[Ok],by omega,.slice au2 x2.length cu2,by simpa using TP,ad2,Po,by omega,[.bool q0,.slice q1 q2 q3,.bool q4,.slice q5 q6 q7],rfl,fun O w' r i x hx=>?_,?_⟩
   ·obtain⟨k1,k2⟩:=hlc2 i x hx;rw[aE,cG (w:=Pe) (w2:=w') (by rw[dE,dE];exact Rel.same r hS k1)];exact k2
   refine cE hw (fun _ w' v w2=>cU w2 (Nf w' w2) v (1:Rat)) (fun O w' r=>(show ((1:Int):Rat)=1 from rfl)▸mn 1 w' (by decide) (by decide)) ?_;rintro O _ _ _ OJ r he hw h_ hn;replace R5:=R5.cF r hS he (mC h_);replace TC:=cR.cF TC r hS he (mC h_);replace Rc:=Rc.cF r hS he (mC h_);have h_1:=hn.dA (S:=FF) r.cD (mN h_);obtain⟨A0,A1,A2,A3,A4,A5,A6,A7,rfl⟩:=h_1.shape;refine cE hw (fun _ w' v w2=>∃q,v= .tuple #[q,.int .i64 0]∧cU w2 (Nf w' w2) q (1 / y2)) (fun O w' r=>JQ (Rel.old r hS) (((h_1.rel r (cB w)).l (by rw[Kg];decide)).cI fun g hg=>Cv.false hg) (Rc.rel r hS) hy20) ?_;rintro O _ _ _ OP r he hw h_ ⟨q,rfl,k1⟩;replace R5:=R5.cF r hS he (mC h_);replace TC:=cR.cF TC r hS he (mC h_);have PQ:=k1.dA (S:=FF) r.cD (mN h_);obtain⟨s3_0a,s3_0b,s3_0c,s3_0d,s3_0e,s3_0f,s3_0g,s3_0h,rfl⟩:=PQ.shape;refine cK hτ dZ [.x 0,.x 1,.x 2,.x 3,.x 4,.x 5,.x 6,.x 7,.x 8,.x 9] (by kernel_rfl) (by kernel_rfl) ?_;refine⟨by simp[Ok],by omega,.slice au2 x2.length cu2,by simpa using TP,?_⟩;refine cE hw (fun _ w' v w2=>cJ w2 (Nf w' w2) v (x2.map (· *(1 / y2)))) (fun O w' r=>(CQ x2 (1 / y2))▸II (Rel.old r hS) (cR.nil w' _) (cR.rel TC r hS) (((PQ.rel r (cB w)).l (by omega)).cI fun g hg=>Cv.false hg) (.inl rfl) (by omega) (fun y hy=>by have:=QI y hy;omega)) ?_;rintro O _ _ _ OR r he hw h_ hn;replace R5:=R5.cF r hS he (mC h_);have hx3:=cJ.dA (S:=FF) hn r.cD (mN h_);obtain⟨a3,c3,rfl,hc3,-⟩:=cY.shape hx3;have hRV3:=R5.set (i:=pv.length) (u:=.slice a3 (x2.map (· *(1 / y2))).length c3) rfl (cR.cI (cJ.l hx3 fun q hq=>by have:=Vb.1 _ hget3 q hq;omega) fun g hg=>Cv.false hg);obtain⟨rv3,hrv3⟩:∃rv3,rv3=rv2.set pv.length (.slice a3 (x2.map (· *(1 / y2))).length c3):=⟨_,rfl⟩
   rw[<-hrv3]at hRV3;generalize x2.map (· *(1 / y2))=x3 at*
   generalize hM3:M2.set pv.length x3=M3 at*
   refine⟨by simp[Ok],by omega,by simp[Ok,Q5];omega,rv3,by rw[aE,aT,hrv3];exact fu (by simp[Ok,Q5];omega),?_⟩;have hrl3:rv3.length=M.length:=by rw[hRV3.1,Rd]
   refine⟨Nat×List Value×World×Iv,fun z=>⟨[(1,iZ cols),(6,.o (.w 0 M.length)),(7,.o (.w 1 pv.length)),(8,iN c),(9,iN pv.length),(13,iN z.1)],[(1,.vec T.int 1 (pv.map fun c:Nat=>.int .i64 (c:Int))),(0,.vec T.fU 1 z.2.1)],2,z.2.2.2,z.2.2.1⟩,fun z=>M.length-z.1,
    fun z=>z.1<=M.length∧dm w.heap.size w z.2.2.1∧gX z.2.2.1 (Cv S w.heap.size z.2.2.2) z.2.1 (db M3 pv.length c z.1),?_,?_⟩
   ·intro O w' r;exact⟨(0,rv3,w',OR),⟨aP _,hw.tr r.cP,by dsimp only;rw[Cy];exact hRV3.rel r hS⟩,Sub.gn [] r⟩
   rintro⟨i,rv,w4,iv⟩ ⟨hi,hw,Pz⟩;dsimp only at hi hw Pz ⊢;have Ok:rv.length=M.length:=by rw[Pz.1,gl,Rd]
   refine⟨by rw[Ok,aR,aT],?_⟩;refine dM.mk ?_ ?_<;>intro Vc
   ·have Vc:i<M.length:=by have:=aI Vc;omega
    refine dM.mk ?_ ?_<;>intro S1
    ·have S1:i≠pv.length:=fun e=>by rw[e]at S1;simp at S1
     obtain⟨u4,x4,hu4,hx4,S6⟩:=Pz.get (i:=i) (by rw[gl];omega);obtain⟨u5,x5,hu5,hx5,Th⟩:=Pz.get (i:=pv.length) (by rw[gl];omega);rw[Gn _ _ _ _ _ (aF _)]at hx4;rw[sL]at hx5;have hx4l:=WH x4 (aC hx4);have hx5l:=WH x5 (aC hx5);obtain⟨y4,hy4⟩:∃y,x4[c]? =some y:=⟨_,aB (by omega)⟩
     have hy4d:x4.getD c 0=y4:=by simp[List.getD,hy4]
     have hx5d:M3.getD pv.length []=x5:=by simp[List.getD,hx5]
     have RV:=Vb.2 i x4 S1 hx4;have hb5:=Vb.1 x5 hx5;have hyb4:=RV y4 (aC hy4);have hrn:=pe y4;obtain⟨au4,cu4,rfl,hcu4,-⟩:=cY.shape S6;obtain⟨au5,cu5,rfl,hcu5,-⟩:=cY.shape Th;obtain⟨ad4,cs4,had4,hF4,_,hlc4⟩:=cY.load S6 hy4;obtain⟨e0,e1,e2,e3,e4,e5,e6,e7,rfl,hF4⟩:=hF4;refine⟨by simp[Ok],by omega,.slice au4 x4.length cu4,by simpa using hu4,ad4,had4,by omega,[.bool e0,.slice e1 e2 e3,.bool e4,.slice e5 e6 e7],rfl,fun O w' r i x hx=>?_,?_⟩
     ·obtain⟨k1,k2⟩:=hlc4 i x hx;rw[aE,cG (w:=w4) (w2:=w') (by rw[dE,dE];exact Rel.same r hS k1)];exact k2
     refine cC (cE hw (fun _ w' v w2=>v= .int .i64 (rs y4)) (fun O w' r=>og (Rel.old r hS) (hF4.rel r hS)) ?_);rintro O _ _ RI Ou r he hw h_ rfl;replace Pz:=Pz.cF r hS he (mC h_);replace S6:=cR.cF S6 r hS he (mC h_);replace Th:=cR.cF Th r hS he (mC h_);refine dM.mk ?_ ?_<;>intro hs4
     ·have hs4:y4≠0:=fun e=>by rw[e]at hs4;exact absurd hs4 (by decide)
      obtain⟨ad6,cs6,had6,hF6,_,hlc6⟩:=cY.load S6 hy4;obtain⟨f0,f1,f2',f3,f4,f5,f6,f7,rfl,hF6⟩:=hF6;refine cK hτ dZ [.x 0,.x 1,.x 2,.x 3,.x 4,.x 5,.x 6,.x 7,.x 8,.x 9,.x 10,.x 11,.x 12,.x 13,.x 14,.x 15,.x 16,.x 17,.x 18,.x 19,.x 20] (by kernel_rfl) (by kernel_rfl) ?_;refine⟨by simp[Ok],by omega,.slice au4 x4.length cu4,by simpa using hu4,by simp[Ok],by omega,.slice au5 x5.length cu5,by simpa using hu5,by simp[Ok],by omega,.slice au4 x4.length cu4,by simpa using hu4,ad6,had6,by omega,[.bool f0,.slice f1 f2' f3,.bool f4,.slice f5 f6 f7],rfl,fun O w' r i x hx=>?_,?_⟩
      ·obtain⟨k1,k2⟩:=hlc6 i x hx;rw[aE,cG (w:=RI) (w2:=w') (by rw[dE,dE];exact Rel.same r hS k1)];exact k2
      refine cE hw (fun _ w' v w2=>cU w2 (Nf w' w2) v (-y4)) (fun O w' r=>HP (Rel.old r hS) (hF6.rel r hS)) ?_;rintro O _ _ _ Q7 r he hw h_ hn;replace Pz:=Pz.cF r hS he (mC h_);replace S6:=cR.cF S6 r hS he (mC h_);replace Th:=cR.cF Th r hS he (mC h_);have hng:=hn.dA (S:=FF) r.cD (mN h_);obtain⟨C0,C1,C2,C3,C4,C5,C6,C7,rfl⟩:=hng.shape;refine cE hw (fun _ w' v w2=>cJ w2 (Nf w' w2) v (k7 x4 x5 (-y4))) (fun O w' r=>II (Rel.old r hS) (cR.rel S6 r hS) (cR.rel Th r hS) (((hng.rel r (cB w)).l (by omega)).cI fun g hg=>Cv.false hg) (.inr (by omega)) (by omega) (fun y hy=>by have:=hb5 y hy;omega)) ?_;rintro O _ _ _ R4 r he hw h_ hn;replace Pz:=Pz.cF r hS he (mC h_);have hx7:=cJ.dA (S:=FF) hn r.cD (mN h_);obtain⟨a7,c7,rfl,hc7,-⟩:=cY.shape hx7;have Ps:(db M3 pv.length c i).set i (k7 x4 x5 (-y4))=db M3 pv.length c (i+1):=by
       rw[<-Cz hx4 S1,hy4d,hx5d,HQ _ (by omega)]
      have hrow7:(db M3 pv.length c (i+1))[i]? =some (k7 x4 x5 (-y4)):=by rw[<-Ps];exact aV (by rw[gl];omega)
      have hb7:=hc1.at (i:=i) (by rw[Ff Vc];exact hrow7);replace Pz:=Pz.set (i:=i) (u:=.slice a7 (k7 x4 x5 (-y4)).length c7) rfl (cR.cI (cJ.l hx7 fun q hq=>by have:=hb7 q hq;omega) fun g hg=>Cv.false hg);rw[Ps]at Pz;refine⟨by simp[Ok],by omega,by simp[Ok];omega,rv.set i (.slice a7 (k7 x4 x5 (-y4)).length c7),by rw[aE,aT];exact fu (by omega),((i+1:Nat):Int),wo,?_⟩;intro ρ3 w3 r3;exact⟨(i+1,rv.set i (.slice a7 (k7 x4 x5 (-y4)).length c7),w3,_),⟨Vc,hw.tr r3.cP,by dsimp only;rw[show i+1=i+1 from rfl];exact Pz.rel r3 hS⟩,Sub.gn [] r3,by dsimp only;omega⟩
     have hs4:y4=0:=lD.1 (by simpa using hs4);refine⟨((i+1:Nat):Int),wo,?_⟩;intro ρ3 w3 r3;exact⟨(i+1,rv,w3,_),⟨Vc,hw.tr r3.cP,by dsimp only;rw[Cs hx4 (by rw[hy4d,hs4])];exact Pz.rel r3 hS⟩,Sub.gn [] r3,by dsimp only;omega⟩
    have hir1:(i:Int)=pv.length:=by simpa using S1
    have S1:i=pv.length:=by omega
    refine⟨((i+1:Nat):Int),wo,?_⟩;intro ρ3 w3 r3;exact⟨(i+1,rv,w3,_),⟨Vc,hw.tr r3.cP,by dsimp only;rw[show db M3 pv.length c (i+1)=db M3 pv.length c i by rw[S1,<-DA]];exact Pz.rel r3 hS⟩,Sub.gn [] r3,by dsimp only;omega⟩
   have Vc:i=M.length:=by have:=aH Vc;omega
   subst Vc;refine .inl ?_;refine⟨by simp,by omega,by unfold maxLen;omega,?_⟩;have hpm:(pv++[c]).map (fun c:Nat=>Value.int .i64 (c:Int))=pv.map (fun c:Nat=>Value.int .i64 (c:Int))++[.int .i64 (c:Int)]:=by simp
   rw[hI1]at On;refine⟨((c+1:Nat):Int),wo,?_⟩;intro ρ3 w3 r3;have hs:da (M1,pv) c=((db M3 pv.length c M.length),(pv++[c])):=On;have hf2:((db M3 pv.length c M.length),(pv++[c]))=(List.range (c+1)).foldl da (M,[]):=by rw[bT,List.foldl_append,<-RJ];exact hs.symm
   have Q4:(da (M1,pv) c).1.length=M.length∧(da (M1,pv) c).2.length<=M.length:=by
    have h5:=(dx hlen (c+1) (by omega)).2.1;have h6:=eQ M (c+1);rw[show cN M (c+1)=da (M1,pv) c by unfold cN;rw[bT,List.foldl_append,<-RJ];rfl]at h5 h6;omega
   have Pb:=fg.step (s:=(M1,pv)) (c:=c) TB;rw[hs]at Q4 Pb;exact⟨(c+1,rv,(db M3 pv.length c M.length),(pv++[c]),w3,_),⟨OF,hf2,Pb,Q4,hw.tr r3.cP,Pz.rel r3 hS⟩,Sub.gn [(1,3)] r3 ⟨by dsimp only;rw[hpm];rfl,rfl,trivial⟩ ⟨rfl,rfl,by dsimp only;rw[List.length_append,List.length_singleton];rfl,rfl,trivial⟩,by dsimp only;omega⟩
  have OK:k=M.length:=by have:=aH OK;omega
  refine⟨by rw[Ok,aR,aT],?_⟩;refine dM.mk (fun _=>?_) (fun hge=>absurd (aH hge) (by omega));refine⟨((c+1:Nat):Int),wo,?_⟩;intro ρ3 w3 r3;have hs:da (M1,pv) c=(M1,pv):=Ia Sr (by show k=M1.length;omega) hkz;have hf2:(M1,pv)=(List.range (c+1)).foldl da (M,[]):=by rw[bT,List.foldl_append,<-RJ];exact hs.symm
  have Q4:(da (M1,pv) c).1.length=M.length∧(da (M1,pv) c).2.length<=M.length:=by
   have h5:=(dx hlen (c+1) (by omega)).2.1;have h6:=eQ M (c+1);rw[show cN M (c+1)=da (M1,pv) c by unfold cN;rw[bT,List.foldl_append,<-RJ];rfl]at h5 h6;omega
  have Pb:=fg.step (s:=(M1,pv)) (c:=c) TB;rw[hs]at Q4 Pb;exact⟨(c+1,rv,M1,pv,w3,_),⟨OF,hf2,Pb,Q4,hw.tr r3.cP,Pz.rel r3 hS⟩,Sub.gn [] r3,by dsimp only;omega⟩
 have OF:c=cols:=aQ hc (by simpa using OF);subst OF;have QE:cN M c=(M1,pv):=RJ.symm;rw[QE];intro ρe we re;refine⟨_,rfl,hw.tr re.cP,_,_,rfl,⟨rv,?_,Pz.1,fun i u x h1 h2=>cR.out (Pz.2.2 i u x h1 h2) re hS⟩,?_⟩
 ·have:=re.iR (id:=0) (sz:=1) (m:=M.length) rfl (by rw[Ok,aT]) (by unfold maxLen;omega) (by decide) Pz.2.1;rw[show (M1,pv).1.length=M.length from hI1];exact this.cI fun g hg=>.inr hg
 ·have:=re.iR (id:=1) (sz:=1) (m:=pv.length) rfl (by simp) (by unfold maxLen;omega) (by decide) (fun u hu=>by
   obtain⟨_,_,rfl⟩:=aU.1 hu
   rfl)
  exact this.cI fun g hg=>.inr hg
theorem HR(hS:Old S w)(h:jJ w S v M)(hL:dF w S v (fR M))(QO:∀r∈M,r.length=eP M)(hR:M.length<=1000)(hn:eP M<=1000)(hB:∀c,c<=eP M->Ht (cN (fR M) c).1 h0)(hh:3*h0<=90000):
  di PG N.oP #[v] w (dw w fun v' w2=>cQ w2 (Nf w w2) v' (dy (cN (fR M) (eP M)).1 (cN (fR M) (eP M)).2 (eP M) (eP M))):=by
 have hw:=bR w;have SD:(fR M).length=M.length:=by simp[fR]
 have hlen:fg (eP M) (fR M):=fun r hr=>by
  rw[fR]at hr;obtain⟨x,hx,rfl⟩:=aU.1 hr;rw[aJ];exact QO x hx
 replace h:=jJ.arg h [];replace hL:=dF.arg hL [];obtain⟨am,cm,rfl,Rb,RD⟩:=dD.shape h;refine xd (by simp) ?_;refine cC (cE hw (fun _ w' v w2=>v= .int .i64 (eP M)) (fun O w' r=>Aa (Rel.old r hS) (jJ.rel h r hS)) ?_);rintro O _ v1 _ OM r he hw h_ rfl;replace hL:=dF.cF hL r hS he (mC h_);refine cC (cM (Φ:=fun _ w' v w2=>∃vm vp,v= .tuple #[vm,vp]∧dF w2 (Nw (Cv S w.heap.size OM) w' w2) vm (cN (fR M) (eP M)).1∧dH w2 (Nf w' w2) vp (cN (fR M) (eP M)).2) (fun O w' r=>xN (Rel.old r hS) (dF.rel hL r hS) hlen (by omega) (by omega) (aF _) hB hh) ?_);rintro O Pr v2 PB r he hb ⟨vm,vp,rfl,k1,k2⟩;replace hw:=hw.tr hb;have hA:=dF.old k1 r.cD;have hP:=dH.dA (S:=FF) k2 r.cD (iv:=(Pr.heap.size,PB.heap.size)::OM) aG;generalize (Pr.heap.size,PB.heap.size)::OM=OJ at*
 obtain⟨aA,cA,rfl,hcA,-⟩:=dD.shape hA;have hPs:=hP;obtain⟨-,-,-,ap,cp,rfl,WC,-⟩:=hPs;have hAl:=eQ (fR M) (eP M);obtain⟨-,PN,-,Qy,-⟩:=dx hlen (eP M) (aF _);rw[hAl]at PN;have hAh:=hB (eP M) (aF _);have Uf:=wj (cols:=eP M) hlen;generalize (cN (fR M) (eP M)).1=A at*
 generalize (cN (fR M) (eP M)).2=pv at*
 generalize eP M=cols at*
 refine⟨Nat×List Value×World×Iv,fun z=>⟨[(3,iZ cols),(4,sV aA A.length cA),(5,sV ap pv.length cp),(6,.o (.w 0 z.2.1.length)),(7,iN z.1)],[(0,.vec T.fU 1 z.2.1)],1,z.2.2.2,z.2.2.1⟩,fun z=>cols-z.1,
  fun z=>z.1<=cols∧z.2.1.length<=z.1∧dm w.heap.size w z.2.2.1∧dF z.2.2.1 (Cv S w.heap.size z.2.2.2) (.slice aA A.length cA) A∧dH z.2.2.1 (Cf w z.2.2.2) (.slice ap pv.length cp) pv∧dR z.2.2.1 (Cf w z.2.2.2) z.2.1 (dy A pv cols z.1),?_,?_⟩
 ·intro O w' r
  exact⟨(0,[],w',OJ),⟨aP _,aF _,hw.tr r.cP,dF.rel hA r hS,dH.rel hP r (cB w),by simp[dR,dy]⟩,Sub.nil 6 T.fU 1 rfl (by simp[jX,SV.sc,At.sc,fT]) r fun ρ1 r1=>
   Sub.gn [] r1⟩
 rintro⟨c,rv,w1,iv⟩ ⟨hc,hrc,hw,hA,hP,hK⟩;dsimp only at hc hrc hw hA hP hK ⊢;refine dM.mk ?_ ?_<;>intro OF
 ·have OF:c<cols:=by simpa using OF
  refine cC (cE hw (fun _ w' v w2=>v= .bool (decide (c∈pv))) (fun O w' r=>OB (Rel.old r (cB w)) (dH.rel hP r (cB w))) ?_);rintro O _ _ _ OP r he hw h_ rfl;replace hA:=dF.cF hA r hS he (mC h_);replace hP:=dH.cF hP r (cB w) he (mC h_);replace hK:=hK.cF r (cB w) he (mC h_);refine dM.mk ?_ ?_<;>intro hm
  ·have hm:=aI hm;refine⟨((c+1:Nat):Int),wo,?_⟩;intro ρ3 w3 r3;exact⟨(c+1,rv,w3,_),⟨OF,by simp;omega,hw.tr r3.cP,dF.rel hA r3 hS,dH.rel hP r3 (cB w),by dsimp only;rw[xM hm];exact hK.rel r3 (cB w)⟩,Sub.gn [] r3,by dsimp only;omega⟩
  have hm:=aH hm
  refine⟨cols,cols,rfl,rfl,aF _,by omega,by omega,Nat×List (List Value)×World×Iv,fun z=>⟨[(3,iZ cols),(4,sV aA A.length cA),(5,sV ap pv.length cp),(6,.o (.w 0 rv.length)),(7,iN c),(8,.o (.s 1 0 cols cols)),(9,iN z.1)],[(1,.arr T.Rat z.2.1.flatten),(0,.vec T.fU 1 rv)],2,z.2.2.2,z.2.2.1⟩,fun z=>cols-z.1,
   fun z=>z.1<=cols∧z.2.1.length=cols∧(∀x∈z.2.1,x.length=4)∧dm w.heap.size w z.2.2.1∧dF z.2.2.1 (Cv S w.heap.size z.2.2.2) (.slice aA A.length cA) A∧dH z.2.2.1 (Cf w z.2.2.2) (.slice ap pv.length cp) pv∧dR z.2.2.1 (Cf w z.2.2.2) rv (dy A pv cols c)∧
    jE z.2.2.1 (Cf w z.2.2.2) z.2.1 z.1,?_,?_⟩
  ·intro O w' r
   exact⟨(0,List.replicate cols [.bool false,.slice none 0 0,.bool false,.slice none 0 0],w',OP),⟨aP _,by simp,fun x hx=>by rw[bP hx];rfl,hw.tr r.cP,dF.rel hA r hS,dH.rel hP r (cB w),hK.rel r (cB w),fun j cs hj=>by dsimp only at hj;omega⟩,
    Sub.gn [] r⟩
  rintro⟨k,css,w2,iv⟩ ⟨hk,PV,Qt,hw,hA,hP,hK,hz⟩;dsimp only at hk PV Qt hw hA hP hK hz ⊢;refine dM.mk ?_ ?_<;>intro OK
  ·have OK:k<cols:=by simpa using OK
   refine cC (cE hw (fun _ w' v w2=>cU w2 (Nf w' w2) v (0)) (fun O w' r=>(show ((0:Int):Rat)=0 from rfl)▸mn 0 w' (by decide) (by decide)) ?_);rintro O QB v4 Pw OR r he hw h_ hn;replace hA:=dF.cF hA r hS he (mC h_);replace hP:=dH.cF hP r (cB w) he (mC h_);replace hK:=hK.cF r (cB w) he (mC h_);replace hz:=hz.cF r (cB w) he (mC h_);have h_0:=hn.dA (S:=FF) r.cD (mN h_);obtain⟨A0,A1,A2,A3,A4,A5,A6,A7,rfl⟩:=h_0.shape;refine⟨by omega,?_⟩;have OY:=eN Qt;refine⟨by rw[aE,OY];omega,(css.set k [.bool A0,.slice A1 A2 A3,.bool A4,.slice A5 A6 A7]).flatten,by rw[aE,aR];exact iL (css:=css) (j:=k) Qt (by omega),((k+1:Nat):Int),wo,?_⟩;intro ρ3 w3 r3
   exact⟨(k+1,css.set k [.bool A0,.slice A1 A2 A3,.bool A4,.slice A5 A6 A7],w3,_),⟨OK,by simp[PV],Fg Qt rfl,hw.tr r3.cP,dF.rel hA r3 hS,dH.rel hP r3 (cB w),hK.rel r3 (cB w),(hz.rel r3 (cB w)).push (h_0.rel r3 (cB w)).pD⟩,
    Sub.gn [] r3,by dsimp only;omega⟩
  have OK:k=cols:=aQ hk (by simpa using OK);subst OK;refine cC (cE hw (fun _ w' v w2=>cU w2 (Nf w' w2) v (1)) (fun O w' r=>(show ((1:Int):Rat)=1 from rfl)▸mn 1 w' (by decide) (by decide)) ?_);rintro O _ _ _ OR r he hw h_ hn;replace hA:=dF.cF hA r hS he (mC h_);replace hP:=dH.cF hP r (cB w) he (mC h_);replace hK:=hK.cF r (cB w) he (mC h_);replace hz:=hz.cF r (cB w) he (mC h_);have h_1:=hn.dA (S:=FF) r.cD (mN h_);obtain⟨A0,A1,A2,A3,A4,A5,A6,A7,rfl⟩:=h_1.shape;refine⟨by omega,?_⟩;have OY:=eN Qt;refine⟨by rw[aE,OY];omega,(css.set c [.bool A0,.slice A1 A2 A3,.bool A4,.slice A5 A6 A7]).flatten,by rw[aE,aR];exact iL (css:=css) (j:=c) Qt (by omega),?_⟩;have hFc:=hz.one PV (c:=c) h_1.pD;have Sy:(css.set c [.bool A0,.slice A1 A2 A3,.bool A4,.slice A5 A6 A7]).length=k:=by simp[PV]
  generalize css.set c [.bool A0,.slice A1 A2 A3,.bool A4,.slice A5 A6 A7]=cs2 at*
  refine⟨Nat×Nat×World×Iv,fun z=>⟨[(8,.o (.v (.slice (some ⟨z.2.1,0,none⟩) k k))),(3,iZ k),(4,sV aA A.length cA),(5,sV ap pv.length cp),(6,.o (.w 0 rv.length)),(7,iN c),(10,iN z.1)],[(0,.vec T.fU 1 rv)],2,z.2.2.2,z.2.2.1⟩,fun z=>pv.length-z.1,
   fun z=>z.1<=pv.length∧dm w.heap.size w z.2.2.1∧(∀p,p∈OR->p∈z.2.2.2)∧¬Cv S w.heap.size OR z.2.1∧w.heap.size<=z.2.1∧dF z.2.2.1 (Cv S w.heap.size OR) (.slice aA A.length cA) A∧dH z.2.2.1 (Cf w OR) (.slice ap pv.length cp) pv∧dR z.2.2.1 (Cf w OR) rv (dy A pv k c)∧
    dP z.2.2.1 FF w.heap.size z.2.2.2 (.slice (some ⟨z.2.1,0,none⟩) k k) k (fZ A pv k c z.1),?_,?_⟩
  ·intro O w' r
   exact⟨(0,(O 1).g,w',((O 1).g,(O 1).g+1)::OR),⟨aP _,hw.tr r.cP,fun p hp=>List.mem_cons_of_mem _ hp,fun hg=>Rel.not r hS hg 1 _ rfl (r.fits (id:=1) rfl).1 rfl,(r.low 1 _ rfl (r.fits (id:=1) rfl).1).1,dF.rel hA r hS,dH.rel hP r (cB w),hK.rel r (cB w),dP.jl r (id:=1) rfl Sy (by unfold maxLen;omega) hFc⟩,
    Sub.jl r (id:=1) (t:=8) rfl rfl ⟨rfl,trivial⟩ rfl ⟨rfl,rfl,rfl,rfl,rfl,rfl,trivial⟩ (by simp[jX,SV.sc,At.sc])⟩
  rintro⟨i,gx,w5,Ou⟩ ⟨hi,hw,Oi,Q2,WI,hA,hP,hK,hX⟩;dsimp only at hi hw Oi Q2 WI hA hP hK hX ⊢;refine dM.mk ?_ ?_<;>intro Q4
  ·have Q4:i<pv.length:=by simpa using Q4
   obtain⟨p,UM⟩:∃p,pv[i]? =some p:=⟨_,aB Q4⟩
   have hpd:pv.getD i 0=p:=by simp[List.getD,UM]
   have Ug:=Qy p (aC UM);obtain⟨ra,hra⟩:∃r,A[i]? =some r:=⟨_,aB (by omega)⟩
   have hral:=Uf ra (aC hra);have hPs:=hP;obtain⟨_,_,_,_,_,hpe,_,TD⟩:=hPs;injection hpe with Uh hpe2 Ui;subst Uh Ui;obtain⟨adp,Qv,kp1,kp2⟩:=TD i (.int .i64 (p:Int)) (by rw[aM,UM];rfl);obtain⟨adm,um,Qs,PK,km1,km2⟩:=dD.load hA hra;obtain⟨au,cu,rfl,hcu,-⟩:=cY.shape PK;obtain⟨q,hq⟩:∃q,ra[c]? =some q:=⟨_,aB (by omega)⟩
   have QG:dL A i c=q:=by simp[dL,List.getD,hra,hq]
   obtain⟨adq,cs,Sm,hF,_,hl⟩:=cY.load PK hq;obtain⟨b3,a3,n3,c3,b4,a4,n4,c4,rfl,hF⟩:=hF;have Rq:∀{H nx O w'},Rel H nx Ou w.heap.size w5 O w'->∀{g},Cv S w.heap.size OR g->w'.heap[g]? =w5.heap[g]? :=fun r g hg=>Rel.same r hS (hg.mono Oi);refine cK hτ dZ [.x 0,.x 1,.x 2,.x 3,.x 4,.x 5,.x 6,.x 7,.x 8,.x 9,.x 10,.x 11,.x 12,.x 13,.x 14] (by kernel_rfl) (by kernel_rfl) ?_;refine⟨adp,Qv,by omega,.int .i64 (p:Int),fun O w' r=>?_,?_⟩
   ·rw[aE,aT,cG (w:=w5) (w2:=w') (by rw[dE];exact Rq r (ui kp1))];exact kp2
   refine⟨adm,Qs,by omega,.slice au ra.length cu,fun O w' r=>?_,?_⟩
   ·rw[aE,cG (w:=w5) (w2:=w') (by rw[dE];exact Rq r km1)];exact km2
   refine⟨adq,Sm,by omega,[.bool b3,.slice a3 n3 c3,.bool b4,.slice a4 n4 c4],rfl,fun O w' r j u hu=>?_,?_⟩
   ·obtain⟨k1,k2⟩:=hl j u hu;rw[aE,cG (w:=w5) (w2:=w') (by rw[dE,dE];exact Rq r k1)];exact k2
   refine cM (Φ:=fun _ w' v w2=>cU w2 (Nf w' w2) v (-q)) (fun O w' r=>HP (fun g hg=>Rel.old r hS g (hg.mono Oi)) (hF.cH fun g hg=>Rq r hg)) ?_;rintro O wa v1 wb r he hb hO;have hON:cU wb (fun g=>Cf w ((wa.heap.size,wb.heap.size)::Ou) g∧(Value.slice (some ⟨gx,0,none⟩) k k).ownBlock≠some g) v1 (-q):=hO.cI fun g hg=>by
    rcases hg with hg|hg
    ·exact hg.elim
    ·have hB:=r.cD;have:=Rel.old r hS gx (ui (hX.new gx rfl));refine⟨.inr ⟨by omega,_,_,aG,hg.1,hg.2⟩,fun e=>?_⟩;have e2:gx=_:=Option.some.inj e;omega
   replace hX:=hX.cF (iv':=(wa.heap.size,wb.heap.size)::Ou) r (cB w) he fun x hx=>List.mem_cons_of_mem _ hx;have R6:∀g,Cv S w.heap.size OR g->wb.heap[g]? =w5.heap[g]? :=fun g hg=>by rw[he.block g (Rel.old r hS g (hg.mono Oi)),Rel.same r hS (hg.mono Oi)]
   replace hA:=dF.cH hA R6;replace hP:=iM.cH hP fun g hg=>R6 g (ui hg);replace hK:=hK.cH fun g hg=>R6 g (ui hg);replace hw:=hw.tr hb;replace Oi:∀p,p∈OR->p∈(wa.heap.size,wb.heap.size)::Ou:=fun p hp=>List.mem_cons_of_mem _ (Oi p hp);generalize (wa.heap.size,wb.heap.size)::Ou=Q7 at*
   obtain⟨b1,a1,n1,c1,b2,a2,n2,c2,rfl⟩:=hON.shape;refine⟨⟨gx,0,none⟩,rfl,by omega,?_⟩;intro O w' r;obtain⟨_,SB,h1,h2',h3,h4,h5⟩:=(hX.rel r (cB w)).store Ug (cU.cH hON fun g hg=>Rel.same r (cB w) hg.1) r (cB w);injection SB with SB;injection SB with SB;subst SB;have R6:∀g,Cv S w.heap.size OR g->w'.heap[g]? =wb.heap[g]? :=fun g hg=>Rel.same r hS (hg.mono Oi);replace hw:=hw.tr r.cP;have hold:∀g,Cv S w.heap.size Q7 g->g<w'.heap.size:=Rel.old r hS;refine⟨h1,h2',h3,fun w2 PE=>?_⟩;obtain⟨hX,PW,-⟩:=h5 w2 PE;have Ti:∀g,Cv S w.heap.size OR g->w2.heap[g]? =wb.heap[g]? :=fun g hg=>by
    rw[<-R6 g hg];exact PW.block g (hold g (hg.mono Oi)) fun e=>by injection e with e;subst e;exact Q2 hg
   replace hA:=dF.cH hA Ti;replace hP:=iM.cH hP fun g hg=>Ti g (ui hg);replace hK:=hK.cH fun g hg=>Ti g (ui hg);replace hw:dm w.heap.size w w2:=hw.tr (dm.grown PW (fun g hg=>by injection hg with hg;subst hg;exact WI) (by have:=hw.size;omega));rw[<-QG,<-hpd,<-gP]at hX;refine⟨((i+1:Nat):Int),wo,?_⟩;intro ρ3 w3 r3;have R6:∀g,Cv S w.heap.size OR g->w3.heap[g]? =w2.heap[g]? :=fun g hg=>Rel.same r3 hS (hg.mono Oi)
   exact⟨(i+1,gx,w3,Q7),⟨Q4,hw.tr r3.cP,Oi,Q2,WI,dF.cH hA R6,iM.cH hP fun g hg=>R6 g (ui hg),hK.cH fun g hg=>R6 g (ui hg),hX.rel r3 (cB w)⟩,
    Sub.gn [] r3,by dsimp only;omega⟩
  have Q4:i=pv.length:=aQ hi (by simpa using Q4);subst Q4;have hnr:cJ w5 (Cf w Ou) (.slice (some ⟨gx,0,none⟩) k k) (fZ A pv k c pv.length):=hX.aA6;have Qw:dR w5 (Cf w Ou) (rv++[.slice (some ⟨gx,0,none⟩) k k]) (dy A pv k (c+1)):=by
   rw[uT hm];exact(hK.cI fun g hg=>hg.mono Oi).push rfl hnr
  replace hA:=dF.cI hA fun g hg=>hg.mono Oi;replace hP:=dH.cI hP fun g hg=>hg.mono Oi;have hK:=Qw;refine .inl ?_;refine⟨by simp,by omega,by unfold maxLen;omega,((c+1:Nat):Int),wo,?_⟩;intro ρ3 w3 r3;exact⟨(c+1,(rv++[.slice (some ⟨gx,0,none⟩) k k]),w3,_),⟨OF,by simp;omega,hw.tr r3.cP,dF.rel hA r3 hS,dH.rel hP r3 (cB w),by dsimp only;rw[show c+1=c+1 from rfl];exact hK.rel r3 (cB w)⟩,Sub.gn [(0,3)] r3 (hE:=⟨rfl,rfl,rfl,by dsimp only;rw[List.length_append,List.length_singleton];rfl,rfl,trivial⟩),by dsimp only;omega⟩
 have OF:c=cols:=aQ hc (by simpa using OF);subst OF;intro ρe we re;refine⟨_,rfl,hw.tr re.cP,rv,?_,hK.1,fun i u x h1 h2=>cJ.out (hK.2.2 i u x h1 h2) re (cB w)⟩;have:=re.iR (id:=0) (sz:=1) (m:=rv.length) rfl (by rw[aT]) (by unfold maxLen;omega) (by decide) hK.2.1;rw[<-hK.1];exact this.cI fun g hg=>.inr hg
theorem JR(hS:Old S w)(h:jJ w S v M)(hL:dF w S v (fR M))(hu:cR w S u (b.map iF))(QO:∀r∈M,r.length=eP M)(Pg:b.length=M.length)(hR:M.length<=1000)(hn:eP M<=999)
  (hB:∀c,c<=eP M->Ht (cN (dJ (fR M) (b.map iF)) c).1 h0) (hh:3*h0<=90000):
  di PG N.pz #[v,u] w (dw w fun v' w2=>(∃j,(cN (dJ (fR M) (b.map iF)) (eP M)).2.length<=j∧j<M.length∧dL (cN (dJ (fR M) (b.map iF)) (eP M)).1 j (eP M)≠0∧v'= .tuple #[.slice none 0 0,.bool false])∨
   ((∀j,(cN (dJ (fR M) (b.map iF)) (eP M)).2.length<=j->j<M.length->dL (cN (dJ (fR M) (b.map iF)) (eP M)).1 j (eP M)=0)∧∃vx,v'= .tuple #[vx,.bool true]∧cJ w2 (Nf w w2) vx (fp (cN (dJ (fR M) (b.map iF)) (eP M)).1 (cN (dJ (fR M) (b.map iF)) (eP M)).2 (eP M) (cN (dJ (fR M) (b.map iF)) (eP M)).2.length))):=by
 have hw:=bR w;have SD:(fR M).length=M.length:=by simp[fR]
 have WJ:fg (eP M) (fR M):=fun r hr=>by
  rw[fR]at hr;obtain⟨x,hx,rfl⟩:=aU.1 hr;rw[aJ];exact QO x hx
 have hlen:=ga (b:=b.map iF) WJ;have TQ:(dJ (fR M) (b.map iF)).length=M.length:=by rw[eB,SD]
 replace h:=jJ.arg h [];replace hL:=dF.arg hL [];replace hu:=cR.arg hu [];obtain⟨am,cm,rfl,Rb,RD⟩:=dD.shape h;obtain⟨ab,cb,rfl,Pv,-⟩:=cY.shape hu;refine zz (by simp) ?_;refine cC (cE hw (fun _ w' v w2=>v= .int .i64 (eP M)) (fun O w' r=>Aa (Rel.old r hS) (jJ.rel h r hS)) ?_);rintro O _ v1 _ OM r he hw h_ rfl;replace hL:=dF.cF hL r hS he (mC h_);replace hu:=cR.cF hu r hS he (mC h_);refine cC (cM (Φ:=fun _ w' v w2=>dF w2 (Nw (Cv S w.heap.size OM) w' w2) v (dJ (fR M) (b.map iF))) (fun O w' r=>LP (Rel.old r hS) (dF.rel hL r hS) (cR.rel hu r hS) (by rw[aJ,SD];exact Pg) (fun r hr=>by rw[WJ r hr];omega) (by omega)) ?_);rintro O Pr v2 PB r he hb hn;replace hw:=hw.tr hb;have hW:=dF.old hn r.cD;generalize (Pr.heap.size,PB.heap.size)::OM=OJ at*
 refine cC (cM (Φ:=fun _ w' v w2=>∃vm vp,v= .tuple #[vm,vp]∧dF w2 (Nw (Cv S w.heap.size OJ) w' w2) vm (cN (dJ (fR M) (b.map iF)) (eP M)).1∧dH w2 (Nf w' w2) vp (cN (dJ (fR M) (b.map iF)) (eP M)).2) (fun O w' r=>xN (Rel.old r hS) (dF.rel hW r hS) hlen (by omega) (by omega) (by omega) hB hh) ?_);rintro O PX v3 PU r he hb ⟨vm,vp,rfl,k1,k2⟩;replace hw:=hw.tr hb;have hA:=dF.old k1 r.cD;have hP:=dH.dA (S:=FF) k2 r.cD (iv:=(PX.heap.size,PU.heap.size)::OJ) aG;generalize (PX.heap.size,PU.heap.size)::OJ=OP at*
 obtain⟨aA,cA,rfl,hcA,-⟩:=dD.shape hA;have hPs:=hP;obtain⟨-,-,-,ap,cp,rfl,WC,-⟩:=hPs;have hAl:=eQ (dJ (fR M) (b.map iF)) (eP M);obtain⟨-,PN,-,Qy,-⟩:=dx hlen (eP M) (by omega);rw[hAl]at PN;have hAh:=hB (eP M) (aF _);have Uf:=wj (cols:=eP M) hlen;rw[TQ]at hAl PN;generalize (cN (dJ (fR M) (b.map iF)) (eP M)).1=A at*
 generalize (cN (dJ (fR M) (b.map iF)) (eP M)).2=pv at*
 generalize eP M=cols at*
 rw[<-hAl]at hR PN ⊢
 refine⟨cols,cols,rfl,rfl,aF _,by omega,by omega,Nat×List (List Value)×World×Iv,fun z=>⟨[(6,iZ cols),(7,sV aA A.length cA),(8,sV ap pv.length cp),(9,.o (.s 0 0 cols cols)),(10,iN z.1)],[(0,.arr T.Rat z.2.1.flatten)],1,z.2.2.2,z.2.2.1⟩,fun z=>cols-z.1,
  fun z=>z.1<=cols∧z.2.1.length=cols∧(∀x∈z.2.1,x.length=4)∧dm w.heap.size w z.2.2.1∧dF z.2.2.1 (Cv S w.heap.size z.2.2.2) (.slice aA A.length cA) A∧dH z.2.2.1 (Cf w z.2.2.2) (.slice ap pv.length cp) pv∧
   jE z.2.2.1 (Cf w z.2.2.2) z.2.1 z.1,?_,?_⟩
 ·intro O w' r
  exact⟨(0,List.replicate cols [.bool false,.slice none 0 0,.bool false,.slice none 0 0],w',OP),⟨aP _,by simp,fun x hx=>by rw[bP hx];rfl,hw.tr r.cP,dF.rel hA r hS,dH.rel hP r (cB w),fun j cs hj=>by dsimp only at hj;omega⟩,
   Sub.gn [] r⟩
 rintro⟨k,css,w2,iv⟩ ⟨hk,PV,Qt,hw,hA,hP,hz⟩;dsimp only at hk PV Qt hw hA hP hz ⊢;refine dM.mk ?_ ?_<;>intro OK
 ·have OK:k<cols:=by simpa using OK
  refine cC (cE hw (fun _ w' v w2=>cU w2 (Nf w' w2) v (0)) (fun O w' r=>(show ((0:Int):Rat)=0 from rfl)▸mn 0 w' (by decide) (by decide)) ?_);rintro O _ _ _ OR r he hw h_ hn;replace hA:=dF.cF hA r hS he (mC h_);replace hP:=dH.cF hP r (cB w) he (mC h_);replace hz:=hz.cF r (cB w) he (mC h_);have h_0:=hn.dA (S:=FF) r.cD (mN h_);obtain⟨A0,A1,A2,A3,A4,A5,A6,A7,rfl⟩:=h_0.shape;refine⟨by omega,?_⟩;have OY:=eN Qt;refine⟨by rw[aE,OY];omega,(css.set k [.bool A0,.slice A1 A2 A3,.bool A4,.slice A5 A6 A7]).flatten,by rw[aE,aR];exact iL (css:=css) (j:=k) Qt (by omega),((k+1:Nat):Int),wo,?_⟩;intro ρ3 w3 r3
  exact⟨(k+1,css.set k [.bool A0,.slice A1 A2 A3,.bool A4,.slice A5 A6 A7],w3,_),⟨OK,by simp[PV],Fg Qt rfl,hw.tr r3.cP,dF.rel hA r3 hS,dH.rel hP r3 (cB w),(hz.rel r3 (cB w)).push (h_0.rel r3 (cB w)).pD⟩,
   Sub.gn [] r3,by dsimp only;omega⟩
 have OK:k=cols:=aQ hk (by simpa using OK);subst OK;have hFc:Fc w2 (Cf w iv) css (fp A pv k 0):=by
  refine⟨by rw[PV,jO],fun j cs q h1 h2=>?_⟩;have hj:=(aD.1 h1).1;simp only[fp,List.range_zero,List.foldl_nil,List.getElem?_replicate]at h2;split at h2
  ·injection h2 with h2;rw[<-h2];exact hz j cs (by omega) h1
  ·cases h2
 refine⟨Nat×Nat×World×Iv,fun z=>⟨[(9,.o (.v (.slice (some ⟨z.2.1,0,none⟩) k k))),(6,iZ k),(7,sV aA A.length cA),(8,sV ap pv.length cp),(11,iN z.1)],[],1,z.2.2.2,z.2.2.1⟩,fun z=>A.length-z.1,
  fun z=>z.1<=A.length∧(∀j,pv.length<=j->j<z.1->dL A j k=0)∧dm w.heap.size w z.2.2.1∧(∀p,p∈iv->p∈z.2.2.2)∧¬Cv S w.heap.size iv z.2.1∧w.heap.size<=z.2.1∧dF z.2.2.1 (Cv S w.heap.size iv) (.slice aA A.length cA) A∧dH z.2.2.1 (Cf w iv) (.slice ap pv.length cp) pv∧
   dP z.2.2.1 FF w.heap.size z.2.2.2 (.slice (some ⟨z.2.1,0,none⟩) k k) k (fp A pv k (min z.1 pv.length)),?_,?_⟩
 ·intro O w' r
  exact⟨(0,(O 0).g,w',((O 0).g,(O 0).g+1)::iv),⟨aP _,fun j h3 h4=>by dsimp only at h4;omega,hw.tr r.cP,fun p hp=>List.mem_cons_of_mem _ hp,fun hg=>Rel.not r hS hg 0 _ rfl (r.fits (id:=0) rfl).1 rfl,(r.low 0 _ rfl (r.fits (id:=0) rfl).1).1,dF.rel hA r hS,dH.rel hP r (cB w),by dsimp only;rw[Nat.zero_min];exact dP.jl r (id:=0) rfl PV (by unfold maxLen;omega) hFc⟩,
   Sub.jl r (id:=0) (t:=9) rfl rfl trivial rfl ⟨rfl,rfl,rfl,rfl,trivial⟩ (by simp[jX,SV.sc,At.sc])⟩
 rintro⟨i,gx,w5,Ou⟩ ⟨hi,hzr,hw,Oi,Q2,WI,hA,hP,hX⟩;dsimp only at hi hzr hw Oi Q2 WI hA hP hX ⊢;refine dM.mk ?_ ?_<;>intro Q4
 ·have Q4:i<A.length:=by simpa using Q4
  obtain⟨ra,hra⟩:∃r,A[i]? =some r:=⟨_,aB (by omega)⟩
  have hral:=Uf ra (aC hra);obtain⟨adm,um,Qs,PK,km1,km2⟩:=dD.load hA hra;obtain⟨au,cu,rfl,hcu,-⟩:=cY.shape PK;obtain⟨q,hq⟩:∃q,ra[k]? =some q:=⟨_,aB (by omega)⟩
  have QG:dL A i k=q:=by simp[dL,List.getD,hra,hq]
  obtain⟨adq,cs,Sm,hF,_,hl⟩:=cY.load PK hq;obtain⟨b3,a3,n3,c3,b4,a4,n4,c4,rfl,hF⟩:=hF;have Rq:∀{H nx O w'},Rel H nx Ou w.heap.size w5 O w'->∀{g},Cv S w.heap.size iv g->w'.heap[g]? =w5.heap[g]? :=fun r g hg=>Rel.same r hS (hg.mono Oi);refine dM.mk ?_ ?_<;>intro WK
  ·have WK:i<pv.length:=by simpa using WK
   obtain⟨p,UM⟩:∃p,pv[i]? =some p:=⟨_,aB WK⟩
   have hpd:pv.getD i 0=p:=by simp[List.getD,UM]
   have Ug:=Qy p (aC UM);have hPs:=hP;obtain⟨_,_,_,_,_,hpe,_,TD⟩:=hPs;injection hpe with Uh hpe2 Ui;subst Uh Ui;obtain⟨adp,Qv,kp1,kp2⟩:=TD i (.int .i64 (p:Int)) (by rw[aM,UM];rfl);rw[Nat.min_eq_left (by omega)]at hX;refine cK hτ dZ [.x 0,.x 1,.x 2,.x 3,.x 4,.x 5,.x 6,.x 7,.x 8,.x 9,.x 10,.x 11,.x 12,.x 13,.x 14] (by kernel_rfl) (by kernel_rfl) ?_;refine⟨adp,Qv,by omega,.int .i64 (p:Int),fun O w' r=>?_,?_⟩
   ·rw[aE,aT,cG (w:=w5) (w2:=w') (by rw[dE];exact Rq r (ui kp1))];exact kp2
   refine⟨adm,Qs,by omega,.slice au ra.length cu,fun O w' r=>?_,?_⟩
   ·rw[aE,cG (w:=w5) (w2:=w') (by rw[dE];exact Rq r km1)];exact km2
   refine⟨adq,Sm,by omega,[.bool b3,.slice a3 n3 c3,.bool b4,.slice a4 n4 c4],rfl,fun O w' r j u hu=>?_,?_⟩
   ·obtain⟨k1,k2⟩:=hl j u hu;rw[aE,cG (w:=w5) (w2:=w') (by rw[dE,dE];exact Rq r k1)];exact k2
   refine cM (Φ:=fun _ w' v w2=>cU w2 (Nf w' w2) v q) (fun O w' r=>gB (fun g hg=>Rel.old r hS g (hg.mono Oi)) (hF.cH fun g hg=>Rq r hg)) ?_;rintro O wa v1 wb r he hb hO;have hON:cU wb (fun g=>Cf w ((wa.heap.size,wb.heap.size)::Ou) g∧(Value.slice (some ⟨gx,0,none⟩) k k).ownBlock≠some g) v1 q:=hO.cI fun g hg=>by
    rcases hg with hg|hg
    ·exact hg.elim
    ·have hB:=r.cD;have:=Rel.old r hS gx (ui (hX.new gx rfl));refine⟨.inr ⟨by omega,_,_,aG,hg.1,hg.2⟩,fun e=>?_⟩;have e2:gx=_:=Option.some.inj e;omega
   replace hX:=hX.cF (iv':=(wa.heap.size,wb.heap.size)::Ou) r (cB w) he fun x hx=>List.mem_cons_of_mem _ hx;have R6:∀g,Cv S w.heap.size iv g->wb.heap[g]? =w5.heap[g]? :=fun g hg=>by rw[he.block g (Rel.old r hS g (hg.mono Oi)),Rel.same r hS (hg.mono Oi)]
   replace hA:=dF.cH hA R6;replace hP:=iM.cH hP fun g hg=>R6 g (ui hg);replace hw:=hw.tr hb;replace Oi:∀p,p∈iv->p∈(wa.heap.size,wb.heap.size)::Ou:=fun p hp=>List.mem_cons_of_mem _ (Oi p hp);generalize (wa.heap.size,wb.heap.size)::Ou=Q7 at*
   obtain⟨b1,a1,n1,c1,b2,a2,n2,c2,rfl⟩:=hON.shape;refine⟨⟨gx,0,none⟩,rfl,by omega,?_⟩;intro O w' r;obtain⟨_,SB,h1,h2',h3,h4,h5⟩:=(hX.rel r (cB w)).store Ug (cU.cH hON fun g hg=>Rel.same r (cB w) hg.1) r (cB w);injection SB with SB;injection SB with SB;subst SB;have R6:∀g,Cv S w.heap.size iv g->w'.heap[g]? =wb.heap[g]? :=fun g hg=>Rel.same r hS (hg.mono Oi);replace hw:=hw.tr r.cP;have hold:∀g,Cv S w.heap.size Q7 g->g<w'.heap.size:=Rel.old r hS;refine⟨h1,h2',h3,fun w2 PE=>?_⟩;obtain⟨hX,PW,-⟩:=h5 w2 PE;have Ti:∀g,Cv S w.heap.size iv g->w2.heap[g]? =wb.heap[g]? :=fun g hg=>by
    rw[<-R6 g hg];exact PW.block g (hold g (hg.mono Oi)) fun e=>by injection e with e;subst e;exact Q2 hg
   replace hA:=dF.cH hA Ti;replace hP:=iM.cH hP fun g hg=>Ti g (ui hg);replace hw:dm w.heap.size w w2:=hw.tr (dm.grown PW (fun g hg=>by injection hg with hg;subst hg;exact WI) (by have:=hw.size;omega));rw[<-QG,<-hpd,<-gQ]at hX;refine⟨((i+1:Nat):Int),wo,?_⟩;intro ρ3 w3 r3;have R6:∀g,Cv S w.heap.size iv g->w3.heap[g]? =w2.heap[g]? :=fun g hg=>Rel.same r3 hS (hg.mono Oi)
   exact⟨(i+1,gx,w3,Q7),⟨Q4,fun j h3 h4=>by dsimp only at h4;omega,hw.tr r3.cP,Oi,Q2,WI,dF.cH hA R6,iM.cH hP fun g hg=>R6 g (ui hg),by dsimp only;rw[Nat.min_eq_left (by omega)];exact hX.rel r3 (cB w)⟩,
    Sub.gn [] r3,by dsimp only;omega⟩
  have WK:pv.length<=i:=by have:=aH WK;omega
  refine⟨adm,Qs,by omega,.slice au ra.length cu,fun O w' r=>?_,?_⟩
  ·rw[aE,cG (w:=w5) (w2:=w') (by rw[dE];exact Rq r km1)];exact km2
  refine⟨adq,Sm,by omega,[.bool b3,.slice a3 n3 c3,.bool b4,.slice a4 n4 c4],rfl,fun O w' r j u hu=>?_,?_⟩
  ·obtain⟨k1,k2⟩:=hl j u hu;rw[aE,cG (w:=w5) (w2:=w') (by rw[dE,dE];exact Rq r k1)];exact k2
  refine cC (cM (Φ:=fun _ w' v w2=>v= .int .i64 (rs q)) (fun O w' r=>og (fun g hg=>Rel.old r hS g (hg.mono Oi)) (hF.cH fun g hg=>Rq r hg)) ?_);rintro O wa v1 wb r he hb rfl;replace hX:=hX.cF (iv':=(wa.heap.size,wb.heap.size)::Ou) r (cB w) he fun x hx=>List.mem_cons_of_mem _ hx;have R6:∀g,Cv S w.heap.size iv g->wb.heap[g]? =w5.heap[g]? :=fun g hg=>by rw[he.block g (Rel.old r hS g (hg.mono Oi)),Rel.same r hS (hg.mono Oi)]
  replace hA:=dF.cH hA R6;replace hP:=iM.cH hP fun g hg=>R6 g (ui hg);replace hw:=hw.tr hb;replace Oi:∀p,p∈iv->p∈(wa.heap.size,wb.heap.size)::Ou:=fun p hp=>List.mem_cons_of_mem _ (Oi p hp);generalize (wa.heap.size,wb.heap.size)::Ou=Q7 at*
  refine dM.mk ?_ ?_<;>intro hs
  ·have hs:q≠0:=fun e=>by rw[lD.2 e]at hs;exact absurd hs (by decide)
   exact rtn hw fun ρe we re=>.inl ⟨i,WK,Q4,by rw[QG];exact hs,rfl⟩
  have hs:q=0:=lD.1 (by simpa using hs);refine⟨((i+1:Nat):Int),wo,?_⟩;intro ρ3 w3 r3;have R6:∀g,Cv S w.heap.size iv g->w3.heap[g]? =wb.heap[g]? :=fun g hg=>Rel.same r3 hS (hg.mono Oi)
  exact⟨(i+1,gx,w3,Q7),⟨Q4,fun j h3 h4=>by
    by_cases hj:j=i
    ·rw[hj,QG,hs]
    ·exact hzr j h3 (by dsimp only at h4;omega),hw.tr r3.cP,Oi,Q2,WI,dF.cH hA R6,iM.cH hP fun g hg=>R6 g (ui hg),by dsimp only;rw[Nat.min_eq_right (by omega),<-Nat.min_eq_right WK];exact hX.rel r3 (cB w)⟩,
   Sub.gn [] r3,by dsimp only;omega⟩
 have Q4:i=A.length:=aQ hi (by simpa using Q4);subst Q4;rw[Nat.min_eq_right PN]at hX;intro ρe we re;refine⟨_,rfl,hw.tr re.cP,.inr ⟨hzr,_,rfl,?_⟩⟩;exact cJ.out hX.aA6 re (cB w)
section
variable{S:Nat->Prop}{H:Hp}{nx:Nat}{iv iv':Iv}{B:Nat}{w w' w2:World}{O:Nat->Sx.dg}{css:List (List Value)}{qs:List Rat}
theorem Fc.rel(h:Fc w (Cv S B iv) css qs)(r:Rel H nx iv B w O w')(hS:∀g,S g->g<B):Fc w' (Cv S B iv) css qs:=h.cH fun _ hg=>Rel.same r hS hg
theorem Fc.cF(h:Fc w (Cv S B iv) css qs)(r:Rel H nx iv B w O w')(hS:∀g,S g->g<B)(he:Ext w' w2)(hm:∀p,p∈iv->p∈iv'):Fc w2 (Cv S B iv') css qs:=
 ((h.rel r hS).cH fun g hg=>he.block g (Rel.old r hS g hg)).cI fun _ hg=>hg.mono hm
theorem Fc.push(h:Fc w S css qs)(hc:iK w S cs q):Fc w S (css++[cs]) (qs++[q]):=by
 refine⟨by simp[h.1],fun j x p h1 h2=>?_⟩;rcases aO j css.length with hi|hi
 ·rw[aK hi]at h1;rw[aK (by rw[<-h.1];exact hi)]at h2;exact h.2 j x p h1 h2
 ·have RW:j=css.length:=by have:=(aD.1 h1).1;simp at this;omega
  subst RW;rw[aN (aF _),bH]at h1;rw[h.1,aN (aF _),bH]at h2;simp at h1 h2;subst h1 h2;exact hc
end
section
variable{S S':Nat->Prop}{H:Hp}{nx:Nat}{iv iv':Iv}{B:Nat}{w w' w2:World}{O:Nat->Sx.dg}{v:Value}{b:List (Int×Int)}
end
def jS(qs:List Rat):List (Int×Int):=qs.map fun q=>(q.num,(q.den:Int))
theorem wF(qs:List Rat):(jS qs).length=qs.length:=aJ ..
theorem mo(qs:List Rat):(jS qs).map iF=qs:=by
 unfold jS;rw[List.map_map];exact(List.map_congr_left fun q _=>om q).trans (List.map_id qs)
theorem Ad(K:List (List Rat)):fR (K.map jS)=K:=by
 unfold fR;rw[List.map_map];exact(List.map_congr_left fun q _=>mo q).trans (List.map_id K)
theorem cJ.jS(h:cJ w S v qs):kr w S v (jS qs):=by
 obtain⟨css,h1,h2,h3,h4⟩:=h;refine⟨css,by unfold Go.Ex.jS;rw[aJ];exact h1,by unfold Go.Ex.jS;rw[aJ];exact h2,h3,fun j cs x k1 k2=>?_⟩;unfold Go.Ex.jS at k2;rw[aM]at k2;obtain⟨q,hq,rfl⟩:=Option.map_eq_some_iff.1 k2;obtain⟨b,a,n,c,b2,a2,n2,c2,rfl,hr⟩:=h4 j cs q k1 hq;exact hr.four
theorem cQ.jS(h:cQ w S v K):jJ w S v (K.map jS):=by
 obtain⟨rv,h1,h2,h3⟩:=h;refine⟨rv,by rw[aJ];exact h1,by rw[aJ];exact h2,fun i u x k1 k2=>?_⟩;rw[aM]at k2;obtain⟨q,hq,rfl⟩:=Option.map_eq_some_iff.1 k2;exact(h3 i u q k1 hq).jS
section
variable{S:Nat->Prop}{w:World}{v u:Value}{M:List (List (Int×Int))}{b:List (Int×Int)}
end
theorem cQ.l(h:cQ w S v K)(hq:∀r∈K,∀q∈r,rl q<=100000):dF w S v K:=by
 obtain⟨rv,h1,h2,h3⟩:=h;exact⟨rv,h1,h2,fun i u x k1 k2=>(h3 i u x k1 k2).l (hq x (aC k2))⟩
theorem iQ(M:List (List Rat))(x:List Rat):(jg M x).length=M.length:=aJ ..
theorem eM.zero:eM w S (.agg #[.bool false,.slice none 0 0,.bool false,.slice none 0 0]) 0:=
 ⟨_,_,_,_,0,0,rfl,⟨false,[],⟨_,rfl,dO.nil _ _⟩,rfl,aP _⟩,⟨false,[],⟨_,rfl,dO.nil _ _⟩,rfl,aP _⟩,by decide⟩
section
variable{S:Nat->Prop}{w:World}{v u:Value}{M:List (List (Int×Int))}{x:List Rat}
end
theorem qR(q:Rat):rs (q-0)=rs q:=by rw[show q-0=q by grind]
theorem k5(n:Int)(w:World)(h1n: -9223372036854775808<=n)(h2n:n<=9223372036854775807):di PG N.rT #[.int .i64 n] w (dw w fun v' w2=>cU w2 (Nf w w2) v' (n:Rat)):=by
 have hw:=bR w;refine vT (by simp) ?_;refine cC (cE hw (fun _ w' v w2=>cU w2 (Nf w' w2) v ((n:Rat))) (fun O w' r=>Gu n w' h1n h2n) ?_);rintro O _ _ _ OM r he hw h_ hn;have hd:=hn.dA (S:=FF) r.cD (mN h_);obtain⟨A0,A1,A2,A3,A4,A5,A6,A7,rfl⟩:=hd.shape;exact rtn hw fun ρe we re=>hd.out re (cB w)
theorem mh(hS:Old S w)(hq:eM w S v q):di PG N.tt #[v] w (dw w fun v' _=>∃d,v'= .bool d∧(d=true↔q=0)):=by
 have hw:=bR w;obtain⟨f0,f1,f2,f3,f4,f5,f6,f7,rfl⟩:=hq.shape;refine xg (by simp) ?_;refine cC (cE hw (fun _ w' v w2=>v= .int .i64 (rs q)) (fun O w' r=>(Gv (oS hS r) (hq.v.cH (kS hw r hS)) (eM.zero (S:=S)).v).mono fun _ _ ⟨v2,e1,e2,e3⟩=>⟨v2,e1,e2,by rw[e3,qR]⟩) ?_);rintro O _ _ _ OM r he hw h_ rfl;intro ρe we re;refine⟨_,rfl,hw.tr re.cP,_,rfl,?_⟩;rw[beq_iff_eq];exact lD
theorem Nn(hS:Old S w)(hp:eM w S v p)(hq:eM w S u q)(h0:q≠0):di PG N.wy #[v,u] w (dw w fun v' w2=>cU w2 (Nf w w2) v' (p / q)):=by
 have hw:=bR w;obtain⟨f0,f1,f2,f3,f4,f5,f6,f7,rfl⟩:=hp.shape;obtain⟨g0,g1,g2,g3,g4,g5,g6,g7,rfl⟩:=hq.shape;refine AA (by simp) ?_;refine cC (cE hw (fun _ w' v w2=>∃r,v= .tuple #[r,.int .i64 0]∧cU w2 (Nf w' w2) r (p / q)) (fun O w' r=>(No (oS hS r) (hp.v.cH (kS hw r hS)) (hq.v.cH (kS hw r hS))).mono fun _ _ ⟨v2,e1,e2,e3⟩=>⟨v2,e1,e2,e3.elim (fun h=>absurd h.1 h0) fun h=>h.2⟩) ?_);rintro O _ _ _ OM r he hw h_ ⟨q1,rfl,k1⟩;have hd:=k1.dA (S:=FF) r.cD (mN h_);obtain⟨s1_0a,s1_0b,s1_0c,s1_0d,s1_0e,s1_0f,s1_0g,s1_0h,rfl⟩:=hd.shape;exact rtn hw fun ρe we re=>hd.out re (cB w)
theorem Ks(hS:Old S w)(hq:eM w S v q):di PG N.xE #[v] w (dw w fun v' w2=>cU w2 (Nf w w2) v' (-q)):=by
 have hw:=bR w;obtain⟨f0,f1,f2,f3,f4,f5,f6,f7,rfl⟩:=hq.shape;refine AH (by simp) ?_;refine cC (cE hw (fun _ w' v w2=>cU w2 (Nf w' w2) v (-q)) (fun O w' r=>(Kt (oS hS r) (eM.zero (S:=S)).v (hq.v.cH (kS hw r hS))).mono fun _ _ ⟨v2,e1,e2,e3⟩=>⟨v2,e1,e2,by rwa [show (0:Rat)-q= -q by grind]at e3⟩) ?_);rintro O _ _ _ OM r he hw h_ hn;have hd:=hn.dA (S:=FF) r.cD (mN h_);obtain⟨A0,A1,A2,A3,A4,A5,A6,A7,rfl⟩:=hd.shape;exact rtn hw fun ρe we re=>hd.out re (cB w)
theorem DZ(hS:Old S w)(hx:cR w S v xs)(hy:cR w S u ys)(hl:xs.length<=ys.length)(hqx:∀q∈xs,rl q+1<=h)(hqy:∀q∈ys,rl q+1<=h)(h2:2<=h)(hb:2*h*xs.length<=90000):
  di PG N.wz #[v,u] w (dw w fun v' w2=>cU w2 (Nf w w2) v' (eF xs ys xs.length)):=by
 have hw:=bR w;obtain⟨ax,cx,rfl,Sl,Uw⟩:=cY.shape hx;obtain⟨ay,cy,rfl,hcy,-⟩:=cY.shape hy;unfold maxLen at Uw;refine AB (by simp) ?_;refine cC (cE hw (fun _ w' v w2=>cU w2 (Nf w' w2) v (((0:Int):Rat))) (fun O w' r=>k5 0 w' (by decide) (by decide)) ?_);rintro O _ _ _ OM r he hw h_ hn;have hd:=hn.dA (S:=FF) r.cD (mN h_);obtain⟨A0,A1,A2,A3,A4,A5,A6,A7,rfl⟩:=hd.shape;rw[show ((0:Int):Rat)=eF xs ys 0 from rfl]at hd
 refine⟨Nat×(Bool×Bool)×(Option Addr×Option Addr)×(Nat×Nat×Nat×Nat)×World×Iv,fun z=>⟨[(1,sV ay ys.length cy),(4,pP 0 0),(5,pP 1 0),(9,sV ax xs.length cx),(10,iZ xs.length),(11,iN z.1)],[(1,.box T.Rat [.v (.bool z.2.1.1),.v (.slice z.2.2.1.1 z.2.2.2.1.1 z.2.2.2.1.2.1),.v (.bool z.2.1.2),.v (.slice z.2.2.1.2 z.2.2.2.1.2.2.1 z.2.2.2.1.2.2.2)]),(0,.box T.Rat [.v (.bool false),.v (.slice none 0 0),.v (.bool false),.v (.slice none 0 0)])],2,z.2.2.2.2.2,z.2.2.2.2.1⟩,fun z=>xs.length-z.1,
  fun z=>z.1<=xs.length∧dm w.heap.size w z.2.2.2.2.1∧cU z.2.2.2.2.1 (Cf w z.2.2.2.2.2) (.agg #[.bool z.2.1.1,.slice z.2.2.1.1 z.2.2.2.1.1 z.2.2.2.1.2.1,.bool z.2.1.2,.slice z.2.2.1.2 z.2.2.2.1.2.2.1 z.2.2.2.1.2.2.2]) (eF xs ys z.1),?_,?_⟩
 ·intro O w' r;exact⟨(0,(A0,A4),(A1,A5),(A2,A3,A6,A7),w',OM),⟨by simp,hw.tr r.cP,hd.rel r (cB w)⟩,Sub.gn [] r⟩
 rintro⟨i,⟨p0,p4⟩,⟨p1,p5⟩,⟨p2,p3,p6,p7⟩,w1,iv⟩ ⟨hi,hw,hd⟩;dsimp only at hi hw hd ⊢;refine dM.mk ?_ ?_<;>intro OF
 ·have OF:i<xs.length:=by simpa using OF
  have hs:=qS hqx hqy h2 i;have Q9:2*h*i<=2*h*xs.length:=b9 _ hi;have hs3:2*h*1<=2*h*xs.length:=b9 _ (by omega);obtain⟨x,PZ⟩:∃x,xs[i]? =some x:=⟨_,aB OF⟩
  obtain⟨y,TR⟩:∃x,ys[i]? =some x:=⟨_,aB (by omega)⟩
  have hx3:=hqx x (aC PZ);have hy3:=hqy y (aC TR);have Rh:xs.getD i 0=x:=by rw[List.getD,PZ];rfl
  have hy2:ys.getD i 0=y:=by rw[List.getD,TR];rfl
  have hm:=j0 x y;obtain⟨adx,csx,PS,RZ,-,Oj⟩:=cY.load hx PZ;obtain⟨ady,csy,Ux,Rk,-,Qa⟩:=cY.load hy TR;obtain⟨f0,f1,f2,f3,f4,f5,f6,f7,rfl,RZ⟩:=RZ;obtain⟨q0,q1,q2,q3,q4,q5,q6,q7,rfl,Rk⟩:=Rk;refine⟨adx,PS,by omega,[.bool f0,.slice f1 f2 f3,.bool f4,.slice f5 f6 f7],rfl,rdO Oj hw hS,?_⟩;refine cC (cE hw (fun _ w' v w2=>∃d,v= .bool d∧(d=true↔x=0)) (fun O w' r=>mh (oS hS r) (RZ.cH (kS hw r hS))) ?_);rintro O _ _ _ OJ r he hw h_ ⟨d1,rfl,OU⟩;replace hd:=hd.cF r (cB w) he (mC h_)
  cases d1
  ·refine⟨ady,Ux,by omega,[.bool q0,.slice q1 q2 q3,.bool q4,.slice q5 q6 q7],rfl,rdO Qa hw hS,?_⟩;refine cC (cE hw (fun _ w' v w2=>∃d,v= .bool d∧(d=true↔y=0)) (fun O w' r=>mh (oS hS r) (Rk.cH (kS hw r hS))) ?_);rintro O _ _ _ OP r he hw h_ ⟨d2,rfl,Ox⟩;replace hd:=hd.cF r (cB w) he (mC h_)
   cases d2
   ·refine cK hτ dZ [.x 0,.x 1,.x 2,.x 3,.x 4,.x 5,.x 6,.x 7,.x 8] (by kernel_rfl) (by kernel_rfl) ?_;refine⟨ady,Ux,by omega,[.bool q0,.slice q1 q2 q3,.bool q4,.slice q5 q6 q7],rfl,rdO Qa hw hS,?_⟩;refine cE hw (fun _ w' v w2=>cU w2 (Nf w' w2) v (x*y)) (fun O w' r=>AQ (oS hS r) (RZ.v.cH (kS hw r hS)) (Rk.v.cH (kS hw r hS))) ?_;rintro O _ _ _ OR r he hw h_ hn;replace hd:=hd.cF r (cB w) he (mC h_);have hp:=hn.dA (S:=FF) r.cD (mN h_);obtain⟨C0,C1,C2,C3,C4,C5,C6,C7,rfl⟩:=hp.shape;refine cE hw (fun _ w' v w2=>cU w2 (Nf w' w2) v (eF xs ys i+x*y)) (fun O w' r=>Gw (Rel.old r (cB w)) ((hd.rel r (cB w)).v (by omega)) ((hp.rel r (cB w)).v (by omega))) ?_;rintro O _ _ _ Ou r he hw h_ hn;have PD:=hn.dA (S:=FF) r.cD (mN h_);obtain⟨E0,E1,E2,E3,E4,E5,E6,E7,rfl⟩:=PD.shape;rw[show eF xs ys i+x*y=eF xs ys (i+1) by rw[eF,Rh,hy2]]at PD;refine⟨((i+1:Nat):Int),wo,?_⟩;intro ρ3 w3 r3;exact⟨(i+1,(E0,E4),(E1,E5),(E2,E3,E6,E7),w3,_),⟨OF,hw.tr r3.cP,PD.rel r3 (cB w)⟩,Sub.gn [] r3,by dsimp only;omega⟩
   ·have Pp:y=0:=Ox.1 rfl;rw[show eF xs ys i=eF xs ys (i+1) by rw[eF,Rh,hy2,Pp,bD,bX]]at hd;refine⟨((i+1:Nat):Int),wo,?_⟩;intro ρ3 w3 r3;exact⟨(i+1,(p0,p4),(p1,p5),(p2,p3,p6,p7),w3,_),⟨OF,hw.tr r3.cP,hd.rel r3 (cB w)⟩,Sub.gn [] r3,by dsimp only;omega⟩
  ·have R0:x=0:=OU.1 rfl;rw[show eF xs ys i=eF xs ys (i+1) by rw[eF,Rh,hy2,R0,bL,bX]]at hd;refine⟨((i+1:Nat):Int),wo,?_⟩;intro ρ3 w3 r3;exact⟨(i+1,(p0,p4),(p1,p5),(p2,p3,p6,p7),w3,_),⟨OF,hw.tr r3.cP,hd.rel r3 (cB w)⟩,Sub.gn [] r3,by dsimp only;omega⟩
 have OF:i=xs.length:=aQ hi (by simpa using OF);subst OF;exact rtn hw fun ρe we re=>hd.out re (cB w)
structure fo(w:World)(S:Nat->Prop)(n i:Nat)(css:List (List Value))(qs:List Rat):Prop where
 len:css.length=n
 four:∀cs∈css,cs.length=4
 one:∀cs∈css,∀u∈cs,u.oneCell'=true
 at_:∀(j:Nat) cs q,j<i->css[j]? =some cs->qs[j]? =some q->iK w S cs q
section
variable{S S':Nat->Prop}{H:Hp}{nx n i:Nat}{iv iv':Iv}{B:Nat}{w w1 w' w2:World}{O:Nat->Sx.dg}{css:List (List Value)}{qs:List Rat}
theorem fo.cH(h:fo w S n i css qs)(hk:∀g,S g->w2.heap[g]? =w.heap[g]?):fo w2 S n i css qs:=⟨h.len,h.four,h.one,fun j cs q hj h1 h2=>(h.at_ j cs q hj h1 h2).cH hk⟩
theorem fo.cI(h:fo w S n i css qs)(hk:∀g,S g->S' g):fo w S' n i css qs:=⟨h.len,h.four,h.one,fun j cs q hj h1 h2=>(h.at_ j cs q hj h1 h2).cI hk⟩
theorem fo.rel(h:fo w (Cv S B iv) n i css qs)(r:Rel H nx iv B w O w')(hS:∀g,S g->g<B):fo w' (Cv S B iv) n i css qs:=h.cH fun _ hg=>Rel.same r hS hg
theorem fo.cF(h:fo w (Cv S B iv) n i css qs)(r:Rel H nx iv B w O w')(hS:∀g,S g->g<B)(he:Ext w' w2)(hm:∀p,p∈iv->p∈iv'):fo w2 (Cv S B iv') n i css qs:=
 ((h.rel r hS).cH fun g hg=>he.block g (Rel.old r hS g hg)).cI fun _ hg=>hg.mono hm
theorem fo.start(w:World)(S:Nat->Prop)(n:Nat)(qs:List Rat):fo w S n 0 (List.replicate n f0) qs:=
 ⟨by simp,fun cs hc=>by rw[bP hc];rfl,fun cs hc u hu=>by rw[bP hc]at hu;simp[f0]at hu;rcases hu with rfl|rfl|rfl|rfl<;>rfl,fun j cs q hj=>by omega⟩
theorem fo.next{b b2:Bool}{a2:Option Addr}{m c m2 c2:Nat}(h:fo w S n i css qs)(hi:i<n)(hq:qs[i]? =some q)(hf:cU w S (.agg #[.bool b,.slice a m c,.bool b2,.slice a2 m2 c2]) q):
  fo w S n (i+1) (css.set i [.bool b,.slice a m c,.bool b2,.slice a2 m2 c2]) qs:=by
 refine⟨by simp[h.len],fun cs hc=>?_,fun cs hc u hu=>?_,fun j cs p hj h1 h2=>?_⟩
 ·rcases bJ hc with hc|rfl
  ·exact h.four cs hc
  ·rfl
 ·rcases bJ hc with hc|rfl
  ·exact h.one cs hc u hu
  ·simp at hu;rcases hu with rfl|rfl|rfl|rfl<;>rfl
 ·by_cases Pm:i=j
  ·subst Pm;rw[aV (by rw[h.len];exact hi)]at h1;rw[hq]at h2;injection h1 with h1;injection h2 with h2;subst h1 h2;exact hf.pD
  ·rw[aY Pm]at h1;exact h.at_ j cs p (by omega) h1 h2
theorem fo.flat(h:fo w S n i css qs):css.flatten.length=n*4:=by rw[eN h.four,h.len]
theorem fo.done{w0:World}(h:fo w1 (Cf w0 iv) n n css qs)(hl:qs.length=n)(hn:n<=maxLen)(r:Rel H nx iv w0.heap.size w1 O w'){id:Nat}(hH:dC H id=some (.arr T.Rat css.flatten))(PC:(O id).nil=false):
  dP w' FF w0.heap.size [(w0.heap.size,w'.heap.size)] (.slice (some ⟨(O id).g,0,none⟩) n n) n qs:=by
 have h2:=h.rel r (cB w0);have Og:=r.low id _ hH PC;refine⟨⟨css,⟨h.flat,.inr ⟨(O id).g,n,css.flatten.toArray,rfl,aP _,r.arr id _ _ hH,aF _,hn,by simpa using h.flat,?_⟩⟩,h.len,?_⟩,fun g hg=>?_⟩
 ·rw[<-h.flat];exact bC
 ·refine⟨by rw[h.len,hl],fun j cs q h3 h4=>?_⟩;refine(h2.at_ j cs q (by rw[<-hl];exact(aD.1 h4).1) h3 h4).cI fun g hg=>⟨?_,fun e=>?_⟩
  ·rcases hg with hg|⟨k1,lo,hi,k2,k3,k4⟩
   ·exact hg.elim
   ·exact .inr ⟨k1,_,_,bB.2 rfl,k1,by have:=r.qd lo hi k2;have:=r.size;omega⟩
  ·injection e with e;exact Rel.not r (cB w0) hg id _ hH PC e
 ·injection hg with hg;subst hg;exact .inr ⟨Og.1,_,_,bB.2 rfl,Og.1,Og.2⟩
theorem gL.c(h:gL w S S v qs):cJ w S v qs:=by
 obtain⟨css,h1,h2⟩:=h;exact⟨css,h1,h2.1,h2.vq,h2.2⟩
theorem dP.c(h:dP w S B iv v n qs):cJ w (Cv S B iv) v qs:=h.read.c
theorem cJ.rc(h:cJ w S v qs):gL w S S v qs:=by
 obtain⟨css,h1,h2,h3,h4⟩:=h;exact⟨css,h1,h2,h4⟩
theorem gL.rel(h:gL w (Cv C B iv) (Cv S B iv) v qs)(r:Rel H nx iv B w O w')(hC:∀g,C g->g<B)(hS:∀g,S g->g<B):gL w' (Cv C B iv) (Cv S B iv) v qs:=
 h.cH fun _ hg=>hg.elim (Rel.same r hC) (Rel.same r hS)
theorem gL.cF(h:gL w (Cv C B iv) (Cv S B iv) v qs)(r:Rel H nx iv B w O w')(hC:∀g,C g->g<B)(hS:∀g,S g->g<B)(he:Ext w' w2)(hm:∀p,p∈iv->p∈iv'):gL w2 (Cv C B iv') (Cv S B iv') v qs:=
 ((h.rel r hC hS).cH fun g hg=>he.block g (hg.elim (Rel.old r hC g) (Rel.old r hS g))).cI (fun _ hg=>hg.mono hm) (fun _ hg=>hg.mono hm)
theorem gL.arg(h:gL w C S v qs)(iv:Iv):gL w (Cv C w.heap.size iv) (Cv S w.heap.size iv) v qs:=h.cI (fun _ h=>.inl h) (fun _ h=>.inl h)
theorem gL.shape(h:gL w C S v qs):∃a c,v= .slice a qs.length c∧qs.length<=c∧qs.length<=maxLen:=by
 obtain⟨css,⟨h0,_,_,a,c,h1,h2,_⟩,_⟩:=h;exact⟨a,c,h1,h2,h0⟩
theorem gL.load{n c j:Nat}(h:gL w C S (.slice a n c) qs)(hq:qs[j]? =some q):
  ∃ad cs,a=some ad∧iK w S cs q∧∀k u,cs[k]? =some u->C ad.block∧w.cell? ((ad.add (j*4)).add k)=some u:=by
 obtain⟨css,⟨h0,h1,h2,a',c',e,h3,h4⟩,hf⟩:=h;injection e with e1 e2 e3;subst e1;obtain⟨cs,Ov⟩:∃cs,css[j]? =some cs:=⟨_,aB (by rw[hf.1];exact(aD.1 hq).1)⟩
 have hF:=hf.2 j cs q Ov hq;have hl:=hF.len;obtain⟨ad,k1,k2,k3⟩:=h4 (j*4+0) _ (flat_get hf.vq Ov 0 _ (aB (show 0<cs.length by omega)));refine⟨ad,cs,k1,hF,fun k u hu=>?_⟩;obtain⟨ad2,m1,m2,m3⟩:=h4 (j*4+k) u (flat_get hf.vq Ov k u hu);rw[k1]at m1;injection m1 with m1;subst m1;refine⟨m2,?_⟩;rw[<-m3];have:(ad.add (j*4)).add k=ad.add (j*4+k):=by
  unfold Addr.add;split<;>split<;>simp_all<;>omega
 rw[this]
theorem FL{j:Nat}{c:Nat}(h:w.ownsRow 0 T.Rat 4 (.slice a n c) n css.flatten)(hf:Fc w S css qs)(hj:css[j]? =some cs):
  ∃g,a=some ⟨g,0,none⟩∧∀k u,cs[k]? =some u->w.cell? ((Addr.add ⟨g,0,none⟩ (j*4)).add k)=some u:=by
 rcases h.2 with⟨h1,h0⟩|⟨g,cap,cur,RR,_⟩
 ·have:=h.1;rw[eN hf.vq]at this;have:=(aD.1 hj).1;omega
 ·injection RR with h1 h2 h3;subst h1;refine⟨g,rfl,fun k u hu=>?_⟩;have:=h.cells (g:=g) rfl (j*4+k) u (flat_get hf.vq hj k u hu);rw[dW,dW];rw[dW]at this;rw[Nat.add_assoc];exact this
end
theorem FM(n:Nat)(w:World)(hn:n<=1000000):di PG N.rW #[.int .i64 n] w (dw w fun v' w2=>dP w2 FF w.heap.size [(w.heap.size,w2.heap.size)] v' n (List.replicate n 0)):=by
 have hw:=bR w;refine vY (by simp) ?_
 refine⟨n,n,rfl,rfl,aF _,by omega,by omega,Nat×List (List Value)×Iv×World,fun z=>⟨[(3,.o (.s 0 0 n n)),(8,iZ n),(9,iN z.1)],[(0,.arr T.Rat z.2.1.flatten)],1,z.2.2.1,z.2.2.2⟩,fun z=>n-z.1,
  fun z=>z.1<=n∧dm w.heap.size w z.2.2.2∧fo z.2.2.2 (Cf w z.2.2.1) (n) z.1 z.2.1 (List.replicate n 0),?_,?_⟩
 ·intro O w' r;exact⟨(0,List.replicate (n) f0,_,w'),⟨by simp,hw.tr r.cP,fo.start _ _ _ _⟩,Sub.gn [] r⟩
 rintro⟨i,css,iv,w1⟩ ⟨hi,hw,hF⟩;dsimp only at hi hw hF ⊢;refine dM.mk ?_ ?_<;>intro h
 ·have h:i<n:=by simpa using h
  refine cC (cE hw (fun _ w' v w2=>cU w2 (Nf w' w2) v (((0:Int):Rat))) (fun O w' r=>k5 0 w' (by decide) (by decide)) ?_);rintro O _ _ _ OM r he hw h_ hn;replace hF:=hF.cF r (cB w) he (mC h_);have hd:=hn.dA (S:=FF) r.cD (mN h_);obtain⟨A0,A1,A2,A3,A4,A5,A6,A7,rfl⟩:=hd.shape;have OO:=hF.next h (q:=_) (by simp[h]) hd
  refine⟨by omega,by have:=hF.flat;omega,(css.set i [.bool A0,.slice A1 A2 A3,.bool A4,.slice A5 A6 A7]).flatten,?_,?_⟩
  ·have:=iL (cs:=[.bool A0,.slice A1 A2 A3,.bool A4,.slice A5 A6 A7]) hF.four (show i<css.length by rw[hF.len];exact h);rw[<-this];simp
  refine⟨((i+1:Nat):Int),wo,?_⟩;intro ρ3 w3 r3;exact⟨(i+1,css.set i [.bool A0,.slice A1 A2 A3,.bool A4,.slice A5 A6 A7],_,w3),⟨h,hw.tr r3.cP,OO.rel r3 (cB w)⟩,Sub.gn [] r3,by dsimp only;omega⟩
 have h:i=n:=aQ hi (by simpa using h);subst h;exact rtn hw fun ρe we re=>hF.done (by simp) (by unfold maxLen;omega) re (id:=0) rfl (re.nn 0 _ rfl (by intros;simp) (by simp))
theorem vv{b:Rat}(hS:Old S w)(hx:cR w S v xs)(hb:eM w S u b)(hn:xs.length<=1000000):
  di PG N.pt #[v,u] w (dw w fun v' w2=>dP w2 FF w.heap.size [(w.heap.size,w2.heap.size)] v' xs.length (cX xs b)):=by
 have hw:=bR w;obtain⟨ax,cx,rfl,Sl,Uw⟩:=cY.shape hx;obtain⟨g0,g1,g2,g3,g4,g5,g6,g7,rfl⟩:=hb.shape;have PQ:rl b<=100000:=hb.rl;refine uF (by simp) ?_
 refine⟨xs.length,xs.length,rfl,rfl,aF _,by omega,by omega,Nat×List (List Value)×Iv×World,fun z=>⟨[(3,pP 0 0),(5,.o (.s 1 0 xs.length xs.length)),(11,sV ax xs.length cx),(12,iZ xs.length),(13,iN z.1)],[(0,.box T.Rat [.v (.bool g0),.v (.slice g1 g2 g3),.v (.bool g4),.v (.slice g5 g6 g7)]),(1,.arr T.Rat z.2.1.flatten)],2,z.2.2.1,z.2.2.2⟩,fun z=>xs.length-z.1,
  fun z=>z.1<=xs.length∧dm w.heap.size w z.2.2.2∧fo z.2.2.2 (Cf w z.2.2.1) (xs.length) z.1 z.2.1 (cX xs b),?_,?_⟩
 ·intro O w' r;exact⟨(0,List.replicate (xs.length) f0,_,w'),⟨by simp,hw.tr r.cP,fo.start _ _ _ _⟩,Sub.gn [] r⟩
 rintro⟨i,css,iv,w1⟩ ⟨hi,hw,hF⟩;dsimp only at hi hw hF ⊢;refine dM.mk ?_ ?_<;>intro h
 ·have h:i<xs.length:=by simpa using h
  obtain⟨x,PZ⟩:∃x,xs[i]? =some x:=⟨_,aB h⟩
  obtain⟨adx,csx,PS,RZ,-,Oj⟩:=cY.load hx PZ;obtain⟨f0,f1,f2,f3,f4,f5,f6,f7,rfl,RZ⟩:=RZ;refine⟨adx,PS,by omega,[.bool f0,.slice f1 f2 f3,.bool f4,.slice f5 f6 f7],rfl,rdO Oj hw hS,?_⟩;refine cC (cE hw (fun _ w' v w2=>cU w2 (Nf w' w2) v (x*b)) (fun O w' r=>AQ (oS hS r) (RZ.v.cH (kS hw r hS)) (hb.v.cH (kS hw r hS))) ?_);rintro O _ _ _ OM r he hw h_ hn;replace hF:=hF.cF r (cB w) he (mC h_);have hd:=hn.dA (S:=FF) r.cD (mN h_);obtain⟨A0,A1,A2,A3,A4,A5,A6,A7,rfl⟩:=hd.shape;have OO:=hF.next h (q:=_) (by rw[cX,aM,PZ];rfl) hd
  refine⟨by omega,by have:=hF.flat;omega,(css.set i [.bool A0,.slice A1 A2 A3,.bool A4,.slice A5 A6 A7]).flatten,?_,?_⟩
  ·have:=iL (cs:=[.bool A0,.slice A1 A2 A3,.bool A4,.slice A5 A6 A7]) hF.four (show i<css.length by rw[hF.len];exact h);rw[<-this];simp
  refine⟨((i+1:Nat):Int),wo,?_⟩;intro ρ3 w3 r3;exact⟨(i+1,css.set i [.bool A0,.slice A1 A2 A3,.bool A4,.slice A5 A6 A7],_,w3),⟨h,hw.tr r3.cP,OO.rel r3 (cB w)⟩,Sub.gn [] r3,by dsimp only;omega⟩
 have h:i=xs.length:=aQ hi (by simpa using h);subst h;exact rtn hw fun ρe we re=>hF.done (by simp[cX]) (by unfold maxLen;omega) re (id:=1) rfl (re.nn 1 _ rfl (by intros;simp) (by simp))
theorem D2(hS:Old S w)(hx:cR w S v xs)(hy:cR w S u ys)(hl:xs.length<=ys.length)(hn:xs.length<=1000000):
  di PG N.tk #[v,u] w (dw w fun v' w2=>dP w2 FF w.heap.size [(w.heap.size,w2.heap.size)] v' xs.length (eO xs ys)):=by
 have hw:=bR w;obtain⟨ax,cx,rfl,Sl,Uw⟩:=cY.shape hx;obtain⟨ay,cy,rfl,hcy,hmy⟩:=cY.shape hy;refine xa (by simp) ?_
 refine⟨xs.length,xs.length,rfl,rfl,aF _,by omega,by omega,Nat×List (List Value)×Iv×World,fun z=>⟨[(0,sV ax xs.length cx),(1,sV ay ys.length cy),(5,.o (.s 0 0 xs.length xs.length)),(11,iZ xs.length),(12,iN z.1)],[(0,.arr T.Rat z.2.1.flatten)],1,z.2.2.1,z.2.2.2⟩,fun z=>xs.length-z.1,
  fun z=>z.1<=xs.length∧dm w.heap.size w z.2.2.2∧fo z.2.2.2 (Cf w z.2.2.1) (xs.length) z.1 z.2.1 (eO xs ys),?_,?_⟩
 ·intro O w' r;exact⟨(0,List.replicate (xs.length) f0,_,w'),⟨by simp,hw.tr r.cP,fo.start _ _ _ _⟩,Sub.gn [] r⟩
 rintro⟨i,css,iv,w1⟩ ⟨hi,hw,hF⟩;dsimp only at hi hw hF ⊢;refine dM.mk ?_ ?_<;>intro h
 ·have h:i<xs.length:=by simpa using h
  obtain⟨x,PZ⟩:∃x,xs[i]? =some x:=⟨_,aB h⟩
  obtain⟨y,TR⟩:∃x,ys[i]? =some x:=⟨_,aB (by omega)⟩
  obtain⟨adx,csx,PS,RZ,-,Oj⟩:=cY.load hx PZ;obtain⟨f0,f1,f2,f3,f4,f5,f6,f7,rfl,RZ⟩:=RZ;obtain⟨ady,csy,Ux,Rk,-,Qa⟩:=cY.load hy TR;obtain⟨q0,q1,q2,q3,q4,q5,q6,q7,rfl,Rk⟩:=Rk;refine cK hτ dZ [.x 0,.x 1,.x 2,.x 3,.x 4,.x 5,.x 6,.x 7,.x 8,.x 9,.x 10,.x 11,.x 12] (by kernel_rfl) (by kernel_rfl) ?_;refine⟨adx,PS,by omega,[.bool f0,.slice f1 f2 f3,.bool f4,.slice f5 f6 f7],rfl,rdO Oj hw hS,ady,Ux,by omega,[.bool q0,.slice q1 q2 q3,.bool q4,.slice q5 q6 q7],rfl,rdO Qa hw hS,?_⟩;refine cE hw (fun _ w' v w2=>cU w2 (Nf w' w2) v (x*y)) (fun O w' r=>AQ (oS hS r) (RZ.v.cH (kS hw r hS)) (Rk.v.cH (kS hw r hS))) ?_;rintro O _ _ _ OM r he hw h_ hn;replace hF:=hF.cF r (cB w) he (mC h_);have hd:=hn.dA (S:=FF) r.cD (mN h_);obtain⟨A0,A1,A2,A3,A4,A5,A6,A7,rfl⟩:=hd.shape;have OO:=hF.next h (q:=_) (by rw[eO,List.getElem?_mapIdx,PZ,List.getD,TR];rfl) hd
  refine⟨by omega,by have:=hF.flat;omega,(css.set i [.bool A0,.slice A1 A2 A3,.bool A4,.slice A5 A6 A7]).flatten,?_,?_⟩
  ·have:=iL (cs:=[.bool A0,.slice A1 A2 A3,.bool A4,.slice A5 A6 A7]) hF.four (show i<css.length by rw[hF.len];exact h);rw[<-this];simp
  refine⟨((i+1:Nat):Int),wo,?_⟩;intro ρ3 w3 r3;exact⟨(i+1,css.set i [.bool A0,.slice A1 A2 A3,.bool A4,.slice A5 A6 A7],_,w3),⟨h,hw.tr r3.cP,OO.rel r3 (cB w)⟩,Sub.gn [] r3,by dsimp only;omega⟩
 have h:i=xs.length:=aQ hi (by simpa using h);subst h;exact rtn hw fun ρe we re=>hF.done (by simp[eO]) (by unfold maxLen;omega) re (id:=0) rfl (re.nn 0 _ rfl (by intros;simp) (by simp))
theorem M0{vby vs:Value}{n:Nat}{ps:List Rat}(hC:Old C w)(hS:Old S w)(hrw:iV w S v n qs)(PQ:eM w S vby p)
  (hs:gL w C S vs ps) (PN:ps.length=n) (VT:∀g,v.ownBlock=some g->¬S g) (hdc:∀g,v.ownBlock=some g->¬C g) (hq:∀q∈qs,rl q+1<=h) (hps:∀q∈ps,rl q+1<=h) (hb:rl p+1<=h) (hh:3*h<=90000):
  di PG N.oR #[v,vs,vby] w (fun e w2=>e= .returned (.tuple #[])∧w.grownBy w2 v.ownBlock∧iV w2 (Nw S w w2) v n (mP qs ps p)):=by
 obtain⟨css,OG,PV,Rj⟩:=hrw;have Og:∀g,v.ownBlock=some g->g<w.heap.size:=fun g hg=>(ownsRow.low OG g hg).2;have Qr:∀iv g,v.ownBlock=some g->Out w.heap.size iv g:=fun iv g hg=>.inl (Og g hg);have hdis2:∀iv g,v.ownBlock=some g->¬Cv S w.heap.size iv g:=fun iv g hg h=>by
  rcases h with h|⟨h,_⟩
  ·exact VT g hg h
  ·have:=Og g hg;omega
 have hdis3:∀iv g,v.ownBlock=some g->¬Cv C w.heap.size iv g:=fun iv g hg h=>by
  rcases h with h|⟨h,_⟩
  ·exact hdc g hg h
  ·have:=Og g hg;omega
 have UQ:qs.length=n:=by rw[<-Rj.1,PV]
 obtain⟨a,c,rfl,TW⟩:=jk OG;obtain⟨b1,a1,n1,c1,b2,a2,n2,c2,rfl⟩:=PQ.shape;obtain⟨asl,cs0,rfl,Rx,VP⟩:=hs.shape;rw[PN]at Rx VP hs ⊢;unfold maxLen at VP;replace Rj:=Rj.cI (S':=Cv S w.heap.size []) fun _ h=>.inl h;replace PQ:=PQ.arg [];replace hs:=hs.arg [];refine xm (by simp) ?_;have QA:=OG;have hg:w.grownBy w (Value.slice a n c).ownBlock:=⟨rfl,rfl,rfl,aF _,fun _ _ _=>rfl⟩
 have hbyl:rl p<=100000:=PQ.rl
 refine⟨Nat×List (List Value)×Iv×World,fun z=>⟨[(0,sV a n c),(5,pP 0 0),(8,sV asl n cs0),(9,iZ n),(10,iZ z.1)],
   [(0,.box T.Rat [.v (.bool b1),.v (.slice a1 n1 c1),.v (.bool b2),.v (.slice a2 n2 c2)])],1,z.2.2.1,z.2.2.2⟩,fun z=>n-z.1,
  fun z=>z.1<=n∧w.grownBy z.2.2.2 (Value.slice a n c).ownBlock∧z.2.2.2.ownsRow 0 T.Rat 4 (.slice a n c) n z.2.1.flatten∧z.2.1.length=n∧Fc z.2.2.2 (Cv S w.heap.size z.2.2.1) z.2.1 (gw z.1 (sJ (-p) ps) qs)∧
   eM z.2.2.2 (Cv S w.heap.size z.2.2.1) (.agg #[.bool b1,.slice a1 n1 c1,.bool b2,.slice a2 n2 c2]) p∧gL z.2.2.2 (Cv C w.heap.size z.2.2.1) (Cv S w.heap.size z.2.2.1) (.slice asl n cs0) ps,?_,?_⟩
 ·intro O w' r
  refine⟨(0,css,[],w'),⟨by simp,gU hg r.cP,o8 QA (Qr []) r,PV,by rw[sd];exact Rj.rel r hS,PQ.rel r hS,hs.rel r hC hS⟩,
   Sub.gn [] r⟩
 rintro⟨i,css,iv,w1⟩ ⟨hi,hg,OG,PV,Rj,PQ,hs⟩;dsimp only at hi hg OG PV Rj PQ hs ⊢;refine dM.mk ?_ ?_<;>intro h
 ·have h:i<n:=by simpa using h
  obtain⟨cs,Ov⟩:∃cs,css[i]? =some cs:=⟨_,aB (by omega)⟩
  obtain⟨q,hqi⟩:∃q,qs[i]? =some q:=⟨_,aB (by omega)⟩
  obtain⟨f,UF⟩:∃f,ps[i]? =some f:=⟨_,aB (by omega)⟩
  have hF:=Rj.2 i cs q Ov (AR hqi);have hadd:sJ (-p) ps i q=q-p*f:=by simp only[sJ,List.getD,UF,Option.getD_some];grind
  obtain⟨d1,e1,m1,k1,d2,e2,m2,k2,rfl,hF⟩:=hF;have hrlq:=hq q (aC hqi);have hrlf:=hps f (aC UF);obtain⟨ad,fcs,OW,hff,OY⟩:=hs.load UF;obtain⟨f1,g1,o1,u1,f2,g2,o2,u2,rfl,hff⟩:=hff;refine⟨ad,OW,by omega,[.bool f1,.slice g1 o1 u1,.bool f2,.slice g2 o2 u2],rfl,fun O w' r j x hx=>?_,?_⟩
  ·have Q9:=hs.rel r hC hS;obtain⟨k2',k3⟩:=OY j x hx;have:=Rel.same r hC k2';rw[aE,cG (w:=w1) (w2:=w') (by rw[dE,dE];exact this)];exact k3
  refine cC (cM (Φ:=fun _ _ v _=>∃d,v= .bool d∧(d=true↔f=0)) (fun O w' r=>mh (Rel.old r hS) ((hff.rel r hS).l (by omega))) ?_);rintro O wa v1 wb r he Pg ⟨dz,rfl,hz⟩;replace PQ:=PQ.cF (iv':=(wa.heap.size,wb.heap.size)::iv) r hS he fun x hx=>List.mem_cons_of_mem _ hx;replace Rj:=Rj.cF (iv':=(wa.heap.size,wb.heap.size)::iv) r hS he fun x hx=>List.mem_cons_of_mem _ hx;replace hs:=hs.cF (iv':=(wa.heap.size,wb.heap.size)::iv) r hC hS he fun x hx=>List.mem_cons_of_mem _ hx;replace hff:=hff.cF (iv':=(wa.heap.size,wb.heap.size)::iv) r hS he fun x hx=>List.mem_cons_of_mem _ hx;replace hF:=hF.cF (iv':=(wa.heap.size,wb.heap.size)::iv) r hS he fun x hx=>List.mem_cons_of_mem _ hx;replace OG:wb.ownsRow 0 T.Rat 4 (.slice a n c) n css.flatten:=ownsRow.cH (o8 OG (Qr iv) r) fun b hb=>he.block b (by have:=Og b hb;have:=r.cD;omega);replace hg:w.grownBy wb _:=gU hg Pg;generalize (wa.heap.size,wb.heap.size)::iv=OJ at*
  cases dz
  ·refine cK hτ dZ [.x 0,.x 1,.x 2,.x 3,.x 4,.x 5,.x 6,.x 7,.x 8,.x 9,.x 10,.x 11] (by kernel_rfl) (by kernel_rfl) ?_;obtain⟨g,rfl,Ow⟩:=FL OG Rj Ov;refine⟨⟨g,0,none⟩,rfl,by omega,[.bool d1,.slice e1 m1 k1,.bool d2,.slice e2 m2 k2],rfl,fun O w' r j x hx=>?_,?_⟩
   ·have:=FL (o8 OG (Qr OJ) r) (Rj.rel r hS) Ov;obtain⟨g',h1,h2⟩:=this;injection h1 with h1;rw[<-h1]at h2;exact h2 j x hx
   have RU:=j0 p f;refine cM (Φ:=fun _ w' v w2=>cU w2 (Nf w' w2) v (p*f)) (fun O w' r=>AQ (Rel.old r hS) (PQ.rel r hS).v ((hff.rel r hS).v (by omega))) ?_;rintro O wa v1 wb r he Pg hP;have hPN:=hP.dA (S:=S) r.cD (iv:=(wa.heap.size,wb.heap.size)::OJ) aG;replace PQ:=PQ.cF (iv':=(wa.heap.size,wb.heap.size)::OJ) r hS he fun x hx=>List.mem_cons_of_mem _ hx;replace Rj:=Rj.cF (iv':=(wa.heap.size,wb.heap.size)::OJ) r hS he fun x hx=>List.mem_cons_of_mem _ hx;replace hs:=hs.cF (iv':=(wa.heap.size,wb.heap.size)::OJ) r hC hS he fun x hx=>List.mem_cons_of_mem _ hx;replace hF:=hF.cF (iv':=(wa.heap.size,wb.heap.size)::OJ) r hS he fun x hx=>List.mem_cons_of_mem _ hx;replace OG:wb.ownsRow 0 T.Rat 4 (.slice (some ⟨g,0,none⟩) n c) n css.flatten:=ownsRow.cH (o8 OG (Qr OJ) r) fun b hb=>he.block b (by have:=Og b hb;have:=r.cD;omega);replace hg:w.grownBy wb _:=gU hg Pg;generalize (wa.heap.size,wb.heap.size)::OJ=OP at*
   obtain⟨b5,a5,n5,c5,b6,a6,n6,c6,rfl⟩:=hPN.shape;refine cM (Φ:=fun _ w' v w2=>cU w2 (Nf w' w2) v (q-p*f)) (fun O w' r=>Kt (Rel.old r hS) ((hF.rel r hS).v (by omega)) ((hPN.rel r hS).v (by omega))) ?_;rintro O wc v2 wd r he Pg hQ;have hQN:=hQ.dA (S:=S) r.cD (iv:=(wc.heap.size,wd.heap.size)::OP) aG;replace PQ:=PQ.cF (iv':=(wc.heap.size,wd.heap.size)::OP) r hS he fun x hx=>List.mem_cons_of_mem _ hx;replace Rj:=Rj.cF (iv':=(wc.heap.size,wd.heap.size)::OP) r hS he fun x hx=>List.mem_cons_of_mem _ hx;replace hs:=hs.cF (iv':=(wc.heap.size,wd.heap.size)::OP) r hC hS he fun x hx=>List.mem_cons_of_mem _ hx;replace OG:wd.ownsRow 0 T.Rat 4 (.slice (some ⟨g,0,none⟩) n c) n css.flatten:=ownsRow.cH (o8 OG (Qr OP) r) fun b hb=>he.block b (by have:=Og b hb;have:=r.cD;omega);replace hg:w.grownBy wd _:=gU hg Pg;generalize (wc.heap.size,wd.heap.size)::OP=OR at*
   obtain⟨b7,a7,n7,c7,b8,a8,n8,c8,rfl⟩:=hQN.shape;rw[<-hadd]at hQN;refine⟨⟨g,0,none⟩,rfl,by omega,?_⟩;intro O w' r;have UR:=o8 OG (Qr OR) r;have hF5:=(hQN.rel r hS).pD;obtain⟨g',US,OI,QD,PW,OX⟩:=pV (nv:=[.bool b7,.slice a7 n7 c7,.bool b8,.slice a8 n8 c8]) UR rfl h rfl (by decide);injection US with US;injection US with US;subst US;have UT:=iL (cs:=[.bool b7,.slice a7 n7 c7,.bool b8,.slice a8 n8 c8]) Rj.vq (show i<css.length by omega);rw[UT]at QD;have Pk:∀x,Cv S w.heap.size OR x->(setCells w' ⟨g,i*4,none⟩ [.bool b7,.slice a7 n7 c7,.bool b8,.slice a8 n8 c8]).heap[x]? =w'.heap[x]? :=fun x hx=>
    PW.block x (Rel.old r hS x hx) fun e=>hdis2 OR g rfl (by injection e with e;rw[<-e];exact hx)
   have Po:(⟨g,0,none⟩:Addr).add ((i:Int).toNat*4)=⟨g,i*4,none⟩:=by rw[aE,dW,aR]
   have hF6:=((Rj.rel r hS).cH Pk).set (j:=i) (hF5.cH Pk);rw[o9 (f:=sJ (-p) ps) hqi]at hF6;have hby6:=(PQ.rel r hS).cH Pk;have hkeep3:∀x,Cv C w.heap.size OR x->(setCells w' ⟨g,i*4,none⟩ [.bool b7,.slice a7 n7 c7,.bool b8,.slice a8 n8 c8]).heap[x]? =w'.heap[x]? :=fun x hx=>
    PW.block x (Rel.old r hC x hx) fun e=>hdis3 OR g rfl (by injection e with e;rw[<-e];exact hx)
   have hs6:=(hs.rel r hC hS).cH fun x hx=>hx.elim (hkeep3 x) (Pk x);replace hg:w.grownBy (setCells w' ⟨g,i*4,none⟩ [.bool b7,.slice a7 n7 c7,.bool b8,.slice a8 n8 c8]) (some g):=gh (gU hg r.cP) PW;have Qc:=fun id b hb hn=>Rel.not r (fun _ h=>h) (Qr OR g rfl) id b hb hn;refine⟨by rw[Po],fun k hk=>by rw[Po];exact OI k hk,fun id b hb hn=>by rw[Po];exact Qc id b hb hn,fun w2 PE=>?_⟩;have PE:w2=setCells w' ⟨g,i*4,none⟩ [.bool b7,.slice a7 n7 c7,.bool b8,.slice a8 n8 c8]:=by rw[PE];exact congrArg (fun x=>setCells w' x _) Po
   rw[<-PE]at hF6 hby6 QD hg OX hs6;refine⟨((i+1:Nat):Int),wo,?_⟩;intro ρ3 w3 r3
   exact⟨(i+1,css.set i [.bool b7,.slice a7 n7 c7,.bool b8,.slice a8 n8 c8],OR,w3),⟨h,gU hg r3.cP,o8 QD (Qr OR) r3,by simpa using PV,hF6.rel r3 hS,hby6.rel r3 hS,hs6.rel r3 hC hS⟩,
    Sub.gn [] r3,by dsimp only;omega⟩
  ·have hf0:f=0:=hz.1 rfl;have Qo:sJ (-p) ps i q=q:=by rw[hadd,hf0];grind
   refine⟨((i+1:Nat):Int),wo,?_⟩;intro ρ3 w3 r3
   exact⟨(i+1,css,OJ,w3),⟨h,gU hg r3.cP,o8 OG (Qr OJ) r3,PV,by rw[<-Gx hqi Qo];exact Rj.rel r3 hS,PQ.rel r3 hS,hs.rel r3 hC hS⟩,
    Sub.gn [] r3,by dsimp only;omega⟩
 ·have h:i=n:=by
   have:¬i<n:=by simpa using h
   omega
  subst h;intro ρ5 w5 r5;refine⟨rfl,gU hg r5.cP,css,o8 OG (Qr iv) r5,PV,?_⟩;have:=(Rj.rel r5 hS).cI (S':=Nw S w w5) fun g hg=>Cv.nw hg r5
  rwa [<-UQ,vw]at this
section
variable{S:Nat->Prop}{w:World}{v u vx vk vp:Value}{z:Int}{M K:List (List (Int×Int))}{b X P:List (Int×Int)}
end
end Go.Ex
namespace Go.Sx
open Go Go.Ex Go.Proofs
variable{cs:List Value}{O:Nat->Sx.dg}
theorem Sub.aA0{B:Nat}{l tl:Env}{nx:Nat}{H tH:Hp}{iv:Iv}{w w':World}{id t n sz:Nat}{e:TypeId}(r:Rel H nx iv B w O w')(Om:dC H id=some (.vec e sz cs))(hn:(O id).nil=false)(ht:fM l t=some (.o (.w id n)))
  (hs:uo H tH) (ho:Dz id tH=true) (h1:EK l tl) (h2:jX nx tl):
  Sub B l nx O w' ⟨(t,.o (.v (.slice (some ⟨(O id).g,0,none⟩) n (O id).cap)))::tl,tH,nx,((O id).g,(O id).g+1)::iv,w'⟩:=
 ⟨O,r.free Om (by simp) hn hs ho,fun u v hv=>jR hn ht h1 h2 u v hv⟩
end Go.Sx
namespace Go.Ex
open Go Go.Sx Go.Proofs
end Go.Ex
