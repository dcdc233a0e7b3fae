/- A part of the proof: texts L22 to X131. Each tells its conditions in its theorems. -/
import Derived.Test.YtkdcaknoaeicdaaGreatP5
import Derived.Test.YtkdcaknoaeicdaaGreatP7
namespace Go.Ex
variable{M:List (List Rat)}{E F m:Mx}{B C a r t:Nat}{p σ:Nat->Nat}{u v x:Nat->Rat}{d q:Rat}
theorem kN(f:Nat->Nat->Rat)(m:Nat):∀n,cQ (fun i=>cQ (f i) m) n=cQ (fun j=>cQ (fun i=>f i j) n) m
 |0=>(dK m).symm
 |n+1=>by
  show cQ (fun i=>cQ (f i) m) n+cQ (f n) m=cQ (fun j=>cQ (fun i=>f i j) n+f n j) m;rw[fO,kN f m n]
theorem mc(x y:List Rat):∀n,de x y n=cQ (fun t=>x.getD t 0*y.getD t 0) n
 |0=>rfl
 |n+1=>by rw[de,mc x y n];rfl
theorem uI{f:Nat->Rat}:∀{n:Nat},(∀k,k<n->0<=f k)->0<=cQ f n
 |0,_=>Rat.le_refl
 |n+1,h=>by
  have h1:=uI (n:=n) fun k hk=>h k (by omega);have h2:=h n (by omega);show 0<=cQ f n+f n;grind
theorem uJ{f:Nat->Rat}:∀{n:Nat},(∀k,k<n->0<=f k)->cQ f n<=0->∀k,k<n->f k=0
 |0,_,_,k,hk=>by omega
 |n+1,h,h0,k,hk=>by
  have h1:=uI (n:=n) fun k hk=>h k (by omega);have h2:=h n (by omega);have h3:cQ f n+f n<=0:=h0;rcases aO k n with h4|h4
  ·exact uJ (fun k hk=>h k (by omega)) (by grind) k h4
  ·rw[show k=n by omega];grind
def A2(m:Mx)(n w:Nat):Prop:=∀x:Nat->Rat,(∀t,t<w->cQ (fun i=>x i*m i t) n=0)->∀i,i<n->x i=0
theorem G0(f:Nat->Rat){n b:Nat}(ha:a<n)(hb:b<n):cQ (fun i=>f (kF a b i)) n=cQ f n:=by
 have h1:cQ (fun i=>(if i=a then f b-f a else 0)+(if i=b then f a-f b else 0)) n=0:=by
  rw[fO,eL ha fun k _ hne=>aI hne,eL hb fun k _ hne=>aI hne,if_pos rfl,if_pos rfl];grind
 have h2:cQ (fun i=>f (kF a b i)) n-cQ f n=0:=by
  rw[<-rJ,<-h1];refine cA fun k _=>?_;unfold kF;by_cases h3:k=a
  ·subst h3;rw[if_pos rfl,if_pos rfl];by_cases h4:k=b
   ·subst h4;rw[if_pos rfl];grind
   ·rw[aI h4];grind
  ·rw[aI h3,aI h3];by_cases h4:k=b
   ·subst h4;rw[if_pos rfl,if_pos rfl];grind
   ·rw[aI h4,aI h4];grind
 grind
theorem A3(a b i:Nat):kF a b (kF a b i)=i:=by
 unfold kF;by_cases h1:i=a
 ·rw[if_pos h1];by_cases h2:b=a
  ·rw[if_pos h2];omega
  ·rw[aI h2,if_pos rfl];omega
 ·rw[aI h1];by_cases h2:i=b
  ·rw[if_pos h2,if_pos rfl];omega
  ·rw[aI h2,aI h1,aI h2]
theorem JX{b i n:Nat}(ha:a<n)(hb:b<n)(hi:i<n):kF a b i<n:=by unfold kF;split<;>(try split)<;>omega
theorem A2.kF{n w b:Nat}(h:A2 m n w)(ha:a<n)(hb:b<n):A2 (fun i t=>m (kF a b i) t) n w:=fun x hx i hi=>by
 have h1:=h (fun i=>x (Go.Ex.kF a b i)) (fun t ht=>by
  rw[<-hx t ht,<-G0 (fun i=>x i*m (Go.Ex.kF a b i) t) ha hb]
  exact cA fun k _=>by simp only[A3]) (Go.Ex.kF a b i) (JX ha hb hi)
 simp only[A3]at h1;exact h1
section
variable{m m':Mx}{n w p:Nat}{κ:Rat}{q:Nat->Rat}
def kp(p:Nat)(q x:Nat->Rat)(n:Nat):Rat:=cQ (fun j=>if j=p then 0 else x j*q j) n
theorem ET(hp:p<n)(h1:∀t,t<w->m' p t=κ*m p t)(h2:∀j t,j<n->j≠p->t<w->m' j t=m j t+q j*m' p t)(x:Nat->Rat)(ht:t<w):
  cQ (fun j=>x j*m' j t) n=cQ (fun j=>(if j=p then κ*(x p+kp p q x n)else x j)*m j t) n:=by
 have h3:cQ (fun j=>x j*m' j t) n-cQ (fun j=>(if j=p then κ*(x p+kp p q x n)else x j)*m j t) n=0:=by
  rw[<-rJ];have h4:∀j,j<n->x j*m' j t-(if j=p then κ*(x p+kp p q x n)else x j)*m j t=(if j=p then 0 else x j*q j)*(κ*m p t)+(if j=p then -(kp p q x n*(κ*m p t))else 0):=fun j hj=>by
   by_cases h5:j=p
   ·subst h5;rw[if_pos rfl,if_pos rfl,if_pos rfl,h1 t ht];grind
   ·rw[aI h5,aI h5,aI h5,h2 j t hj h5 ht,h1 t ht];grind
  rw[cA h4,fO,jN,eL hp fun k _ hne=>aI hne,if_pos rfl];unfold kp;grind
 grind
theorem A2.mix(hi:A2 m n w)(hκ:κ≠0)(hp:p<n)(h1:∀t,t<w->m' p t=κ*m p t)(h2:∀j t,j<n->j≠p->t<w->m' j t=m j t+q j*m' p t):A2 m' n w:=fun x hx=>by
 have h3:=hi _ fun t ht=>(ET hp h1 h2 x ht).symm.trans (hx t ht);have h4:∀j,j<n->j≠p->x j=0:=fun j hj hne=>by have:=h3 j hj;rwa [aI hne]at this
 have h5:kp p q x n=0:=by
  unfold kp;rw[cA (g:=fun _=>0) fun j hj=>?_,dK];by_cases h6:j=p
  ·rw[if_pos h6]
  ·rw[aI h6,h4 j hj h6,bA]
 have h6:=h3 p hp;rw[if_pos rfl,h5,bP]at h6;intro i hi;by_cases h7:i=p
 ·rw[h7];exact(Rat.mul_eq_zero.1 h6).resolve_left hκ
 ·exact h4 i hi h7
theorem A2.KC(hi:A2 m' n w)(hκ:κ≠0)(hp:p<n)(h1:∀t,t<w->m' p t=κ*m p t)(h2:∀j t,j<n->j≠p->t<w->m' j t=m j t+q j*m' p t):A2 m n w:=fun y hy=>by
 have hk:κ*κ⁻¹=1:=Rat.mul_inv_cancel _ hκ;have h3:=hi (fun j=>if j=p then y p*κ⁻¹-kp p q y n else y j) fun t ht=>by
  rw[ET hp h1 h2 _ ht,<-hy t ht];refine cA fun j hj=>?_;have h5:kp p q (fun j=>if j=p then y p*κ⁻¹-kp p q y n else y j) n=kp p q y n:=by
   unfold kp;refine cA fun i _=>?_;by_cases h6:i=p
   ·rw[if_pos h6,if_pos h6]
   ·rw[aI h6,aI h6];simp only[aI h6]
  rw[h5,if_pos rfl];by_cases h6:j=p
  ·rw[if_pos h6,h6];grind
  ·rw[aI h6,aI h6]
 have h4:∀j,j<n->j≠p->y j=0:=fun j hj hne=>by have:=h3 j hj;rwa [aI hne]at this
 have h5:kp p q y n=0:=by
  unfold kp;rw[cA (g:=fun _=>0) fun j hj=>?_,dK];by_cases h6:j=p
  ·rw[if_pos h6]
  ·rw[aI h6,h4 j hj h6,bA]
 have h6:=h3 p hp;rw[if_pos rfl,h5]at h6;intro i hi;by_cases h7:i=p
 ·rw[h7];grind
 ·exact h4 i hi h7
end
theorem A2.congr{m':Mx}{n w:Nat}(h:A2 m n w)(e:∀i t,i<n->t<w->m' i t=m i t):A2 m' n w:=fun x hx=>h x fun t ht=>by
 rw[<-hx t ht];exact cA fun i hi=>by rw[e i t hi ht]
theorem G1{s:List (List Rat)×List Nat}{c w:Nat}(hl:fZ w s.1)(hle:s.2.length<=s.1.length):A2 (cY (dV s c).1) s.1.length w↔A2 (cY s.1) s.1.length w:=by
 rcases iZ c hle with⟨e,-⟩|⟨k,h1,h2,h3,e⟩
 ·rw[e]
 ·obtain⟨r1,r2⟩:=kL hl h1 h2 h3 e;have hp:s.2.length<s.1.length:=by omega
  have hs:kF s.2.length k s.2.length=k:=by unfold kF;rw[if_pos rfl]
  have hκ:(1 / cY s.1 k c)≠0:=fun e=>by have:=rH h3;rw[e,aw]at this;exact absurd this (by decide)
  have q1:∀t,t<w->cY (dV s c).1 s.2.length t=(1 / cY s.1 k c)*(fun i t=>cY s.1 (kF s.2.length k i) t) s.2.length t:=fun t _=>by
   simp only[hs]
   rw[r1,bZ]
  have q2:∀j t,j<s.1.length->j≠s.2.length->t<w->cY (dV s c).1 j t=(fun i t=>cY s.1 (kF s.2.length k i) t) j t+(fun j=> -(cY s.1 (kF s.2.length k j) c)) j*cY (dV s c).1 s.2.length t:=fun j t hj hne ht=>by
   rw[r2 j hj hne t ht,r1];have:kF s.2.length k j=if j=k then s.2.length else j:=by unfold kF;rw[aI hne]
   simp only[this]
  constructor
  ·intro h;have h4:=(A2.KC h hκ hp q1 q2).kF hp h2;exact h4.congr fun i t _ _=>by simp only[A3]
  ·intro h;exact A2.mix (h.kF hp h2) hκ hp q1 q2
theorem uK{M:List (List Rat)}{w:Nat}(hl:fZ w M):∀cols,cols<=w->(A2 (cY (cH M cols).1) M.length w↔A2 (cY M) M.length w)
 |0,_=>Iff.rfl
 |c+1,h=>by
  have ih:=uK hl c (by omega);have hr:=dN hl c (by omega);have h1:=dg M c;rw[<-ih];have h2:=G1 (c:=c) hr.1 hr.2.1;rw[h1]at h2;rw[<-h2];unfold cH;rw[bR,List.foldl_append];exact Iff.rfl
def df(E:Mx)(r n:Nat)(v:Nat->Rat):Prop:=∃c:Nat->Rat,∀t,t<n->v t=cQ (fun i=>c i*E i t) r
structure Rf(E:Mx)(p:Nat->Nat)(r n:Nat):Prop where
 lt:∀i,i<r->p i<n
 mono:∀i j,i<j->j<r->p i<p j
 unit:∀i j,i<r->j<r->E j (p i)=if j=i then 1 else 0
 lead:∀i t,i<r->t<p i->E i t=0
section
variable{E F:Mx}{p q:Nat->Nat}{r s n:Nat}{v:Nat->Rat}
theorem Rf.coeff(h:Rf E p r n)(hv:df E r n v):∀t,t<n->v t=cQ (fun i=>v (p i)*E i t) r:=by
 obtain⟨c,hc⟩:=hv;intro t ht;rw[hc t ht];refine cA fun i hi=>?_;rw[hc (p i) (h.lt i hi),eL hi fun k hk hne=>by rw[h.unit i k hi hk,aI hne,aw],h.unit i i hi hi,if_pos rfl,Rat.mul_one]
theorem Rf.IG(h:Rf E p r n)(hv:df E r n v)(ht:t<n)(h0:v t≠0)(hz:∀k,k<t->v k=0):∃i,i<r∧p i=t:=by
 refine Decidable.byContradiction fun hno=>h0 ?_;rw[h.coeff hv t ht,cA (g:=fun _=>0) fun i hi=>?_,dK];rcases bl (p i) t with h1|h1|h1
 ·rw[hz _ h1,bA]
 ·exact absurd ⟨i,hi,h1⟩ hno
 ·rw[h.lead i t hi h1,aw]
theorem Rf.Iw(h:Rf E p r n)(k:Rf F q s n)(hE:∀i,i<r->df F s n (E i)){i:Nat}(hi:i<r):∃j,j<s∧q j=p i:=
 k.IG (hE i hi) (h.lt i hi) (by rw[h.unit i i hi hi,if_pos rfl];decide) fun t ht=>h.lead i t hi ht
theorem Rf.G2(h:Rf E p r n)(k:Rf F q s n)(hE:∀i,i<r->df F s n (E i))(hF:∀j,j<s->df E r n (F j)):∀i,i<r->i<s∧p i=q i:=by
 intro i
 induction i using Nat.strongRecOn with
 |ind i ih=>
  intro hi;obtain⟨j,hj,e1⟩:=h.Iw k hE hi;have hji:i<=j:=by
   refine Nat.le_of_not_lt fun hlt=>?_;have h1:=(ih j hlt (by omega)).2;have h2:=h.mono j i hlt hi;omega
  have his:i<s:=by omega
  refine⟨his,?_⟩;obtain⟨l,hl,e2⟩:=k.Iw h hF his;have hli:i<=l:=by
   refine Nat.le_of_not_lt fun hlt=>?_;have h1:=(ih l hlt hl).2;have h2:=k.mono l i hlt his;omega
  have h3:q i<=q j:=by
   rcases aO i j with h4|h4
   ·exact Nat.le_of_lt (k.mono i j h4 hj)
   ·rw[show i=j by omega];exact aE _
  have h5:p i<=p l:=by
   rcases aO i l with h4|h4
   ·exact Nat.le_of_lt (h.mono i l h4 hl)
   ·rw[show i=l by omega];exact aE _
  omega
theorem Rf.one(h:Rf E p r n)(k:Rf F q s n)(hE:∀i,i<r->df F s n (E i))(hF:∀j,j<s->df E r n (F j)):r=s∧(∀i,i<r->p i=q i)∧∀i t,i<r->t<n->E i t=F i t:=by
 have h1:=h.G2 k hE hF;have h2:=k.G2 h hF hE;have hrs:r=s:=by
  rcases bl r s with h3|h3|h3
  ·have:=(h2 r h3).1;omega
  ·exact h3
  ·have:=(h1 s h3).1;omega
 refine⟨hrs,fun i hi=>(h1 i hi).2,fun i t hi ht=>?_⟩;rw[k.coeff (hE i hi) t ht,eL (i:=i) (by omega) fun j hj hne=>by rw[<-(h1 j (by omega)).2,h.unit j i (by omega) hi,aI (Ne.symm hne),bA],<-(h1 i hi).2,h.unit i i hi hi,if_pos rfl,bj]
end
theorem df.row{n i:Nat}(hi:i<r):df E r n (E i):=⟨fun k=>if k=i then 1 else 0,fun t _=>by
 rw[eL hi fun k _ hne=>by simp only[aI hne,bA]]
 simp only[if_pos,bj]⟩
theorem df.add{n:Nat}(h:df E r n u)(k:df E r n v)(x:Rat):df E r n fun t=>u t+x*v t:=by
 obtain⟨c,hc⟩:=h;obtain⟨d,hd⟩:=k;refine⟨fun i=>c i+x*d i,fun t ht=>?_⟩;show u t+x*v t=cQ (fun i=>(c i+x*d i)*E i t) r;rw[hc t ht,hd t ht,<-eE,<-fO];exact cA fun i _=>by grind
theorem df.mul{n:Nat}(h:df E r n u)(x:Rat):df E r n fun t=>u t*x:=by
 obtain⟨c,hc⟩:=h;refine⟨fun i=>c i*x,fun t ht=>?_⟩;show u t*x=cQ (fun i=>(c i*x)*E i t) r;rw[hc t ht,<-jN];exact cA fun i _=>by grind
theorem df.congr{n:Nat}(h:df E r n u)(e:∀t,t<n->v t=u t):df E r n v:=by
 obtain⟨c,hc⟩:=h;exact⟨c,fun t ht=>by rw[e t ht,hc t ht]⟩
theorem df.trans{s n:Nat}(h:df E r n v)(k:∀i,i<r->df F s n (E i)):df F s n v:=by
 obtain⟨c,hc⟩:=h;have key:∀m,m<=r->df F s n fun t=>cQ (fun i=>c i*E i t) m:=by
  intro m
  induction m with
  |zero=>intro _;exact⟨fun _=>0,fun t _=>by rw[cA (g:=fun _=>0) fun i _=>bA _,dK];rfl⟩
  |succ m ih=>
   intro hm;exact(ih (by omega)).add (k m (by omega)) (c m)
 exact(key r (aE _)).congr fun t ht=>hc t ht
def G3(s:List (List Rat)×List Nat):Prop:=(∀i j,i<j->j<s.2.length->s.2.getD i 0<s.2.getD j 0)∧∀i t,i<s.2.length->t<s.2.getD i 0->cY s.1 i t=0
theorem G3.step{n c:Nat}{s:List (List Rat)×List Nat}(h:G3 s)(hr:Ju n c s)(hc:c<n):G3 (dV s c):=by
 obtain⟨hl,hle,hz,hpc,hu⟩:=hr;rcases iZ c hle with⟨e,-⟩|⟨k,h1,h2,h3,e⟩
 ·rw[e];exact h
 ·obtain⟨r1,r2⟩:=kL hl h1 h2 h3 e;have e2:(dV s c).2=s.2++[c]:=by rw[e]
  have hold:∀i,i<s.2.length->(dV s c).2.getD i 0=s.2.getD i 0:=fun i hi=>by rw[e2,List.getD,aK hi,<-List.getD]
  have hnew:(dV s c).2.getD s.2.length 0=c:=by rw[e2,List.getD,aN (aE _),bI];rfl
  have hlt:∀i,i<s.2.length->s.2.getD i 0<c:=fun i hi=>hpc _ (by rw[List.getD,aA hi];exact aX _);have hlen:(dV s c).2.length=s.2.length+1:=by rw[e2];simp
  refine⟨fun i j hij hj=>?_,fun i t hi ht=>?_⟩
  ·rw[hlen]at hj;rcases aO j s.2.length with h4|h4
   ·rw[hold i (by omega),hold j h4];exact h.1 i j hij h4
   ·rw[show j=s.2.length by omega,hnew,hold i (by omega)];exact hlt i (by omega)
  ·rw[hlen]at hi;rcases aO i s.2.length with h4|h4
   ·rw[hold i h4]at ht;have h5:=hlt i h4;rw[r2 i (by omega) (by omega) t (by omega),hz k t h1 h2 (by omega),aI (by omega),h.2 i t h4 ht,bA,aw,Rat.zero_add]
   ·rw[show i=s.2.length by omega]at ht ⊢;rw[hnew]at ht;rw[r1,hz k t h1 h2 ht,bA]
theorem rK{M:List (List Rat)}{n:Nat}(hl:fZ n M):∀cols,cols<=n->G3 (cH M cols)
 |0,_=>⟨fun _ _ _ h=>(by cases h),fun _ _ h=>(by cases h)⟩
 |c+1,h=>by
  have ih:=rK hl c (by omega);have hr:=dN hl c (by omega);unfold cH at ih hr ⊢;rw[bR,List.foldl_append];exact ih.step hr (by omega)
theorem xB{n:Nat}(hl:fZ n M):Rf (cY (cH M n).1) (fun i=>(cH M n).2.getD i 0) (cH M n).2.length n:=by
 obtain⟨h1,h2,h3,h4,h5⟩:=dN hl n (aE _);obtain⟨k1,k2⟩:=rK hl n (aE _);refine⟨fun i hi=>h4 _ (by rw[List.getD,aA hi];exact aX _),k1,fun i j hi hj=>h5 i j hi (by omega),k2⟩
theorem IH{s:List (List Rat)×List Nat}{c n:Nat}(hl:fZ n s.1)(hle:s.2.length<=s.1.length):(∀j,j<s.1.length->df (cY s.1) s.1.length n (cY (dV s c).1 j))∧∀j,j<s.1.length->df (cY (dV s c).1) s.1.length n (cY s.1 j):=by
 rcases iZ c hle with⟨e,-⟩|⟨k,h1,h2,h3,e⟩
 ·rw[e];exact⟨fun j hj=>df.row hj,fun j hj=>df.row hj⟩
 ·obtain⟨r1,r2⟩:=kL hl h1 h2 h3 e;have hp:s.2.length<s.1.length:=by omega
  have a1:df (cY s.1) s.1.length n (cY (dV s c).1 s.2.length):=((df.row h2).mul (1 / cY s.1 k c)).congr fun t _=>r1 t;have b1:df (cY (dV s c).1) s.1.length n (cY s.1 k):=((df.row hp).mul (cY s.1 k c)).congr fun t _=>by rw[r1,Rat.mul_assoc,bZ (1 / _),rH h3,Rat.mul_one]
  refine⟨fun j hj=>?_,fun j hj=>?_⟩
  ·by_cases h4:j=s.2.length
   ·rw[h4];exact a1
   ·exact((df.row (show (if j=k then s.2.length else j)<s.1.length by split<;>omega)).add (df.row h2) (-(cY s.1 (if j=k then s.2.length else j) c)*(1 / cY s.1 k c))).congr fun t ht=>by rw[r2 j hj h4 t ht];grind
  ·by_cases h4:j=k
   ·rw[h4];exact b1
   ·obtain⟨i,hi,hne,hij⟩:∃i,i<s.1.length∧i≠s.2.length∧(if i=k then s.2.length else i)=j:=by
     by_cases h5:j=s.2.length
     ·exact⟨k,h2,fun e6=>h4 (h5.trans e6.symm),by rw[if_pos rfl,h5]⟩
     ·exact⟨j,hj,h5,aI h4⟩
    refine((df.row hi).add (df.row hp) (cY s.1 j c)).congr fun t ht=>?_;rw[r2 i hi hne t ht,hij,r1];grind
theorem iU{M:List (List Rat)}{n:Nat}(hl:fZ n M):∀cols,cols<=n->(∀j,j<M.length->df (cY M) M.length n (cY (cH M cols).1 j))∧∀j,j<M.length->df (cY (cH M cols).1) M.length n (cY M j)
 |0,_=>⟨fun j hj=>df.row hj,fun j hj=>df.row hj⟩
 |c+1,h=>by
  obtain⟨i1,i2⟩:=iU hl c (by omega);have hr:=dN hl c (by omega);have h1:=dg M c;have h2:=IH (c:=c) hr.1 hr.2.1;rw[h1]at h2;have e:(cH M (c+1))=dV (cH M c) c:=by unfold cH;rw[bR,List.foldl_append];rfl
  rw[e];exact⟨fun j hj=>(h2.1 j hj).trans i1,fun j hj=>(i2 j hj).trans h2.2⟩
theorem df.cut{m n:Nat}(h:df E m n v)(hz:∀i t,r<=i->i<m->t<n->E i t=0):df E r n v:=by
 refine h.trans fun i hi=>?_;rcases aO i r with h1|h1
 ·exact df.row h1
 ·exact⟨fun _=>0,fun t ht=>by rw[hz i t h1 hi ht,cA (g:=fun _=>0) fun k _=>bA _,dK]⟩
theorem Br{n:Nat}{q:Nat->Nat}(hl:fZ n M)(k:Rf F q r n)(h1:∀i,i<r->df (cY M) M.length n (F i))(h2:∀j,j<M.length->df F r n (cY M j)):
  (cH M n).2.length=r∧(∀i,i<r->(cH M n).2.getD i 0=q i)∧∀i t,i<r->t<n->cY (cH M n).1 i t=F i t:=by
 obtain⟨a1,a2⟩:=iU hl n (aE _);obtain⟨-,hle,hz,-,-⟩:=dN hl n (aE _);rw[dg]at hle hz;have h:=xB hl;obtain⟨e1,e2,e3⟩:=h.one k (fun i hi=>(a1 i (by omega)).trans h2) fun j hj=>((h1 j hj).trans a2).cut fun i t hi hm ht=>hz i t hi hm ht;exact⟨e1,fun i hi=>e2 i (by omega),fun i t hi ht=>e3 i t (by omega) ht⟩
structure Ru(E:Mx)(p:Nat->Nat)(r n:Nat):Prop where
 lt:∀i,i<r->p i<n
 inj:∀i j,i<r->j<r->p i=p j->i=j
 unit:∀i j,i<r->j<r->E j (p i)=if j=i then 1 else 0
 lead:∀i t,i<r->t<p i->E i t=0
def ki(E:Mx)(p:Nat->Nat)(r:Nat)(v:Nat->Rat)(k t:Nat):Rat:=v t-cQ (fun i=>if p i<k then v (p i)*E i t else 0) r
theorem G4(E:Mx)(p:Nat->Nat)(r:Nat)(v:Nat->Rat)(t:Nat):ki E p r v 0 t=v t:=by
 unfold ki;rw[cA (g:=fun _=>0) fun i _=>aI (by omega),dK];grind
section
variable{E:Mx}{p:Nat->Nat}{r n:Nat}{v:Nat->Rat}
theorem G5{k:Nat}(h:∀i,i<r->p i≠k):ki E p r v (k+1) t=ki E p r v k t:=by
 unfold ki;rw[cA fun i hi=>?_];have:=h i hi;by_cases h1:p i<k
 ·rw[if_pos h1,if_pos (by omega)]
 ·rw[aI h1,aI (by omega)]
theorem JY(h:Ru E p r n){i:Nat}(hi:i<r):ki E p r v (p i) (p i)=v (p i):=by
 unfold ki;rw[cA (g:=fun _=>0) fun j hj=>?_,dK]
 ·grind
 ·by_cases h1:p j<p i
  ·rw[if_pos h1,h.unit i j hi hj,aI (fun e=>by rw[e]at h1;omega),aw]
  ·rw[aI h1]
theorem G6(h:Ru E p r n){i:Nat}(hi:i<r):ki E p r v (p i+1) t=ki E p r v (p i) t+ -(ki E p r v (p i) (p i))*E i t:=by
 rw[JY h hi];unfold ki;have e:cQ (fun j=>if p j<p i+1 then v (p j)*E j t else 0) r=cQ (fun j=>(if p j<p i then v (p j)*E j t else 0)+(if j=i then v (p i)*E i t else 0)) r:=by
  refine cA fun j hj=>?_;by_cases h1:j=i
  ·subst h1;rw[if_pos (by omega),aI (by omega),if_pos rfl,Rat.zero_add]
  ·have h2:p j≠p i:=fun e=>h1 (h.inj j i hj hi e);rw[aI h1,bP];by_cases h3:p j<p i
   ·rw[if_pos h3,if_pos (by omega)]
   ·rw[aI h3,aI (by omega)]
 rw[e,fO,eL hi fun k _ hne=>aI hne,if_pos rfl];grind
theorem EU(h:Ru E p r n){i:Nat}(hi:i<r):ki E p r v n (p i)=0:=by
 unfold ki;rw[eL hi fun k hk hne=>?_,if_pos (h.lt i hi),h.unit i i hi hi,if_pos rfl]
 ·grind
 ·rw[if_pos (h.lt k hk),h.unit i k hi hk,aI hne,aw]
end
def je(E:Mx)(r:Nat)(u:Nat->Rat)(k:Nat):Mx:=fun i t=>if i=r then u t / u k else E i t+ -(E i k)*(u t / u k)
theorem Ru.push{n k:Nat}(h:Ru E p r n)(hk:k<n)(hu:∀i,i<r->u (p i)=0)(h0:u k≠0)(hz:∀t,t<k->u t=0):
  Ru (je E r u k) (fun i=>if i=r then k else p i) (r+1) n:=by
 have hne:∀i,i<r->p i≠k:=fun i hi e=>h0 (e▸hu i hi);have hone:u k / u k=1:=by rw[bW,Rat.mul_inv_cancel _ h0]
 have hz0:∀i,i<r->u (p i) / u k=0:=fun i hi=>by rw[hu i hi,bW,bA]
 refine⟨fun i hi=>?_,fun i j hi hj e=>?_,fun i j hi hj=>?_,fun i t hi ht=>?_⟩
 ·split
  ·exact hk
  ·exact h.lt i (by omega)
 ·by_cases h1:i=r
  ·by_cases h2:j=r
   ·omega
   ·rw[if_pos h1,aI h2]at e;exact absurd e.symm (hne j (by omega))
  ·by_cases h2:j=r
   ·rw[aI h1,if_pos h2]at e;exact absurd e (hne i (by omega))
   ·rw[aI h1,aI h2]at e;exact h.inj i j (by omega) (by omega) e
 ·unfold je;by_cases h1:i=r
  ·rw[if_pos h1];by_cases h2:j=r
   ·rw[if_pos h2,if_pos (by omega),hone]
   ·rw[aI h2,aI (by omega),hone];grind
  ·rw[aI h1];by_cases h2:j=r
   ·rw[if_pos h2,aI (by omega),hz0 i (by omega)]
   ·rw[aI h2,hz0 i (by omega),aw,bP];exact h.unit i j (by omega) (by omega)
 ·unfold je;by_cases h1:i=r
  ·rw[if_pos h1]at ht;rw[if_pos h1,hz t ht,bW,bA]
  ·rw[aI h1]at ht;rw[aI h1,h.lead i t (by omega) ht,Rat.zero_add];rcases aO t k with h2|h2
   ·rw[hz t h2,bW,bA,aw]
   ·rw[h.lead i k (by omega) (by omega)];grind
def jJ(E:Mx)(r:Nat)(v:Nat->Rat):Mx:=fun i t=>if i=r then v t else E i t
section
variable{E:Mx}{p:Nat->Nat}{r n k:Nat}{u v:Nat->Rat}
theorem FT(i:Nat)(hi:i<r):df (jJ E r v) (r+1) n (E i):=(df.row (show i<r+1 by omega)).congr fun t _=>by unfold jJ;rw[aI (by omega)]
theorem JZ(hu:∀t,t<n->u t=ki E p r v n t)(hl:∀i,i<r->p i<n):df (jJ E r v) (r+1) n u:=by
 refine⟨fun i=>if i=r then 1 else -(v (p i)),fun t ht=>?_⟩;rw[hu t ht];show ki E p r v n t=cQ (fun i=>(if i=r then 1 else -(v (p i)))*jJ E r v i t) r+(if r=r then 1 else -(v (p r)))*jJ E r v r t;rw[if_pos rfl,cA (g:=fun i=> -(v (p i)*E i t)) fun i hi=>by unfold jJ;rw[aI (by omega),aI (by omega),Rat.neg_mul],jB];unfold ki jJ;rw[if_pos rfl,cA (g:=fun i=>v (p i)*E i t) fun i hi=>if_pos (hl i hi)];grind
theorem G7(hu:df (jJ E r v) (r+1) n u):∀i,i<r+1->df (jJ E r v) (r+1) n (je E r u k i):=fun i hi=>by
 by_cases h1:i=r
 ·exact(hu.mul (1 / u k)).congr fun t _=>by unfold je;rw[if_pos h1,bW,bW,bj]
 ·exact((FT i (by omega)).add hu (-(E i k)*(1 / u k))).congr fun t _=>by unfold je;rw[aI h1,bW,bW];grind
theorem EV(h0:u k≠0):df (je E r u k) (r+1) n u:=((df.row (show r<r+1 by omega)).mul (u k)).congr fun t _=>by
 unfold je;rw[if_pos rfl,Rat.div_mul_cancel h0]
theorem pA(h0:u k≠0)(i:Nat)(hi:i<r):df (je E r u k) (r+1) n (E i):=((df.row (show i<r+1 by omega)).add (EV h0) (E i k / u k)).congr fun t _=>by
 unfold je;rw[aI (by omega),bW,bW];grind
theorem zX(h0:u k≠0)(hu:∀t,t<n->u t=ki E p r v n t)(hl:∀i,i<r->p i<n):df (je E r u k) (r+1) n v:=by
 have h1:df (jJ E r u) (r+1) n v:=by
  refine⟨fun i=>if i=r then 1 else v (p i),fun t ht=>?_⟩;show v t=cQ (fun i=>(if i=r then 1 else v (p i))*jJ E r u i t) r+(if r=r then 1 else v (p r))*jJ E r u r t;rw[if_pos rfl,cA (g:=fun i=>v (p i)*E i t) fun i hi=>by unfold jJ;rw[aI (by omega),aI (by omega)]];unfold jJ;rw[if_pos rfl,hu t ht];unfold ki;rw[cA (g:=fun i=>v (p i)*E i t) fun i hi=>if_pos (hl i hi)];grind
 refine h1.trans fun i hi=>?_;by_cases h2:i=r
 ·exact(EV h0).congr fun t _=>by unfold jJ;rw[if_pos h2]
 ·exact(pA h0 i (by omega)).congr fun t _=>by unfold jJ;rw[aI h2]
end
def kr(row sh:List Rat)(by_:Rat):List Rat:=row.mapIdx (wi (-by_) sh)
theorem rL(row sh:List Rat)(b:Rat):(kr row sh b).length=row.length:=List.length_mapIdx
theorem xC(row sh:List Rat):kr row sh 0=row:=by
 refine bU fun j=>?_;rw[kr,List.getElem?_mapIdx]
 cases row[j]? with
 |none=>rfl
 |some q=>exact congrArg some (by rw[wi,Rat.neg_zero,bA,bP])
def nH(row:List Rat):Nat->Nat->Nat
 |0,k=>k
 |f+1,k=>if row.getD k 0=0 then nH row f (k+1)else k
def rM(row:List Rat)(cols:Nat):Nat:=nH row cols 0
theorem G9{row:List Rat}{k:Nat}:∀(f j:Nat),(∀i,j<=i->i<j+k->row.getD i 0=0)->k<=f->(k<f->row.getD (j+k) 0≠0)->nH row f j=j+k:=by
 induction k with
 |zero=>
  intro f j _ _ h
  cases f with
  |zero=>rfl
  |succ f=>rw[nH,aI (by have:=h (by omega);rwa [bp]at this)];rfl
 |succ k ih=>
  intro f j h0 hf h
  cases f with
  |zero=>omega
  |succ f=>
   rw[nH,if_pos (h0 j (aE _) (by omega)),ih f (j+1) (fun i h1 h2=>h0 i (by omega) (by omega)) (by omega) (fun h1=>by rw[Nat.add_assoc,Nat.add_comm 1 k];exact h (by omega))];omega
theorem EW{row:List Rat}{cols k:Nat}(h0:∀i,i<k->row.getD i 0=0)(hk:k<=cols)(h:k<cols->row.getD k 0≠0):rM row cols=k:=by
 rw[rM,G9 (k:=k) cols 0 (fun i _ h2=>h0 i (by omega)) hk (fun h1=>by rw[aS];exact h h1),aS]
abbrev uu:=List (List Rat)×List (Option Nat)×List Nat
def fG(E:List (List Rat))(at_:List (Option Nat))(row:List Rat):Nat->List Rat
 |0=>row
 |k+1=>match at_.getD k none with
  |some j=>kr (fG E at_ row k) (E.getD j []) ((fG E at_ row k).getD k 0)
  |none=>fG E at_ row k
theorem gM(E:List (List Rat))(at_:List (Option Nat))(row:List Rat):∀k,(fG E at_ row k).length=row.length
 |0=>rfl
 |k+1=>by
  rw[fG];split
  ·rw[rL,gM E at_ row k]
  ·exact gM E at_ row k
def fT(E:List (List Rat))(u:List Rat)(p i:Nat):List (List Rat):=E.mapIdx fun j r=>if j<i then kr r u (r.getD p 0)else r
def jW(cols:Nat)(s:uu)(i:Nat)(row:List Rat):uu:=
 let r:=fG s.1 s.2.1 row cols
 let p:=rM r cols
 if p=cols then s else
  let u:=r.map (· / r.getD p 0)
  (fT s.1 u p s.1.length++[u],s.2.1.set p (some s.1.length),s.2.2++[i])
def gG(M:List (List Rat))(cols:Nat):Nat->uu
 |0=>([],List.replicate cols none,[])
 |i+1=>jW cols (gG M cols i) i (M.getD i [])
def cV(s:uu):Nat->List (List Rat)×List Nat×List Nat
 |0=>([],[],[])
 |k+1=>match s.2.1.getD k none with
  |some r=>((cV s k).1++[s.1.getD r []],(cV s k).2.1++[k],(cV s k).2.2++[s.2.2.getD r 0])
  |none=>cV s k
def dB(M:List (List Rat))(cols:Nat):List (List Rat)×List Nat×List Nat:=cV (gG M cols M.length) cols
structure rN(n cols i:Nat)(s:uu):Prop where
 len:fZ n s.1
 at_:s.2.1.length=cols
 sh:s.2.2.length=s.1.length
 lt:∀(k r:Nat),s.2.1[k]? =some (some r)->r<s.1.length
 le:s.1.length<=i
 fr:∀j∈s.2.2,j<i
theorem fJ(E:List (List Rat))(u:List Rat)(p i:Nat):(fT E u p i).length=E.length:=List.length_mapIdx
theorem DM(E:List (List Rat))(u:List Rat)(p:Nat):fT E u p 0=E:=by
 refine bU fun j=>?_;rw[fT,List.getElem?_mapIdx]
 cases E[j]? <;>rfl
theorem Bu{E:List (List Rat)}{u:List Rat}{p i:Nat}{r:List Rat}(h:E[i]? =some r):(fT E u p i)[i]? =some r:=by
 rw[fT,List.getElem?_mapIdx,h];exact congrArg some (aI (Nat.lt_irrefl i))
theorem xD{E:List (List Rat)}{u:List Rat}{p i:Nat}{r:List Rat}(h:E[i]? =some r):fT E u p (i+1)=(fT E u p i).set i (kr r u (r.getD p 0)):=by
 refine bU fun j=>?_;have hi:=(aC.1 h).1;by_cases hj:i=j
 ·subst hj;rw[aU (by rw[fJ];exact hi),fT,List.getElem?_mapIdx,h];exact congrArg some (if_pos (bo i))
 ·rw[aZ hj,fT,fT,List.getElem?_mapIdx,List.getElem?_mapIdx]
  cases E[j]? with
  |none=>rfl
  |some r=>
   have e:(j<i+1)↔(j<i):=by omega
   simp only[Option.map_some,e]
theorem FW{E:List (List Rat)}{u:List Rat}{p i n:Nat}(h:fZ n E):fZ n (fT E u p i):=fun r hr=>by
 obtain⟨j,hj⟩:=aT hr;rw[fT,List.getElem?_mapIdx]at hj
 cases hE:E[j]? with
 |none=>rw[hE]at hj;cases hj
 |some x=>
  rw[hE]at hj;have hx:=h x (aD hE);simp only[Option.map_some,Option.some.injEq]at hj;subst hj;split
  ·rw[rL];exact hx
  ·exact hx
theorem rN.start(n cols:Nat):rN n cols 0 ([],List.replicate cols none,[]):=
 ⟨(fun r hr=>by cases hr),bE ..,rfl,(fun (k r:Nat) h=>by rw[List.getElem?_replicate]at h;split at h<;>cases h),aE _,fun j hj=>by cases hj⟩
theorem rN.step{n cols i:Nat}{s:uu}(h:rN n cols i s){row:List Rat}(hr:row.length=n):rN n cols (i+1) (jW cols s i row):=by
 unfold jW;dsimp only
 split
 ·exact⟨h.len,h.at_,h.sh,h.lt,Nat.le_succ_of_le h.le,fun j hj=>Nat.lt_succ_of_lt (h.fr j hj)⟩
 ·refine⟨fun r hm=>?_,by simp[h.at_],by simp[h.sh,fJ],fun k r hk=>?_,?_,fun j hj=>?_⟩
  ·rcases bN.1 hm with hm|hm
   ·exact FW h.len r hm
   ·rw[bD]at hm;subst hm;rw[aL,gM,hr]
  ·dsimp only at hk ⊢;rw[List.length_append,fJ,List.length_singleton];rw[List.getElem?_set]at hk;split at hk
   ·split at hk
    ·injection hk with hk;injection hk with hk;omega
    ·cases hk
   ·have:=h.lt k r hk;omega
  ·dsimp only
   rw[List.length_append,fJ,List.length_singleton];have:=h.le;omega
  ·rcases bN.1 hj with hj|hj
   ·exact Nat.lt_succ_of_lt (h.fr j hj)
   ·rw[bD]at hj;omega
theorem xE{M:List (List Rat)}{n:Nat}(cols:Nat)(hM:fZ n M):∀i,i<=M.length->rN n cols i (gG M cols i)
 |0,_=>rN.start n cols
 |i+1,hi=>by
  have hm:=aA (l:=M) (show i<M.length by omega);refine(xE cols hM i (by omega)).step ?_;rw[List.getD,hm];exact hM _ (aD hm)
structure ei where
 nodes:List (Int×Int×Int)
 bars:List (Int×Int×Rat)
 cS:List (Int×Int×Rat)
def ei.cols(f:ei):Nat:=f.bars.length+f.cS.length
def ei.node(f:ei)(n:Int):Int×Int×Int:=f.nodes.getD n.toNat (0,0,0)
def xF(f:ei)(b:Int×Int×Rat):List Int:=[(f.node b.2.1).1-(f.node b.1).1,(f.node b.2.1).2.1-(f.node b.1).2.1,(f.node b.2.1).2.2-(f.node b.1).2.2]
def xG(M:List (List Int))(r c:Nat)(d:Int):List (List Int):=M.set r ((M.getD r []).set c ((M.getD r []).getD c 0+d))
def putAt(M:List (List Int))(r c:Nat)(d:Int):List (List Int):=M.set r ((M.getD r []).set c d)
def fH(f:ei)(M:List (List Int))(i:Nat):Nat->List (List Int)
 |0=>M
 |k+1=>
  let b:=f.bars.getD i (0,0,0)
  let d:=(xF f b).getD k 0
  xG (xG (fH f M i k) (3*b.1+k).toNat i d) (3*b.2.1+k).toNat i (-d)
def eM(f:ei):Nat->List (List Int)
 |0=>List.replicate (3*f.nodes.length) (List.replicate f.cols 0)
 |i+1=>fH f (eM f i) i 3
def ed(f:ei):Nat->List (List Int)
 |0=>eM f f.bars.length
 |i+1=>
  let s:=f.cS.getD i (0,0,0)
  putAt (ed f i) (3*s.1+s.2.1).toNat (f.bars.length+i) 1
def iV(f:ei):List (List Int):=ed f f.cS.length
def dL(l:List Int):List Rat:=l.map fun(n:Int)=>(n:Rat)
def cK(f:ei):List (List Rat):=(iV f).map dL
def dZ(M:List (List Rat))(cols:Nat):List (List Rat):=(List.range cols).map fun k=>M.map fun r=>r.getD k 0
abbrev Ld:=Int×Int×Int×Int
def EX(s:List Int)(r:Nat)(d:Int):List Int:=s.set r (s.getD r 0+d)
def cU(l:List Rat)(b:Rat):List Rat:=l.map (· *b)
def da(a b:List Rat):List Rat:=a.mapIdx fun i x=>x*b.getD i 0
def cP(f:ei):List Rat:=f.bars.map (·.2.2)++f.cS.map (·.2.2)
def jK(M:List (List Rat))(b:List Rat):List (List Rat):=M.mapIdx fun i r=>r++[b.getD i 0]
def jt(M:List (List Rat))(cols:Nat):List (List Rat):=eB (dB M cols).1 (dB M cols).2.1 cols cols
def me(M:List (List Rat))(b:List Rat)(cols:Nat):Option (List Rat):=
 let e:=dB (jK M b) (cols+1)
 if cols∈e.2.1 then none else some (gC e.1 e.2.1 cols e.2.1.length)
def eD(st:List (List Rat))(fl:List Rat):List (List Rat):=st.map fun s=>st.map fun r=>de (da s fl) r s.length
def fq(st:List (List Rat))(fl x:List Rat):List Rat:=st.map fun s=> -(de (da s fl) x s.length)
def kO(st:List (List Rat))(c x:List Rat):Nat->List Rat
 |0=>x
 |i+1=>(kO st c x i).mapIdx fun k q=>q+c.getD i 0*(st.getD i []).getD k 0
def eo:ei:=⟨[(0,0,0),(0,0,4),(3,0,0)],[(0,2,1),(1,2,1)],[(0,0,0),(0,1,0),(0,2,0),(1,0,0),(1,1,0),(1,2,0),(2,1,0)]⟩
def Ib(B:Nat)(q:Rat):Prop:=∃z:Int,q=(z:Rat)∧z.natAbs<=B
theorem Ib.mono(h:Ib B q)(k:B<=C):Ib C q:=let⟨z,e,b⟩:=h;⟨z,e,ai b k⟩
theorem Ib.add{p:Rat}(h:Ib B p)(k:Ib C q):Ib (B+C) (p+q):=by
 obtain⟨z,rfl,b⟩:=h;obtain⟨y,rfl,c⟩:=k;exact⟨z+y,by rw[Rat.intCast_add],by omega⟩
theorem Ib.mul{p:Rat}(h:Ib B p)(k:Ib C q):Ib (B*C) (p*q):=by
 obtain⟨z,rfl,b⟩:=h;obtain⟨y,rfl,c⟩:=k;exact⟨z*y,by rw[Rat.intCast_mul],by rw[Int.natAbs_mul];exact Nat.mul_le_mul b c⟩
theorem Ib.neg{p:Rat}(h:Ib B p):Ib B (-p):=by
 obtain⟨z,rfl,b⟩:=h;exact⟨-z,by rw[Rat.intCast_neg],by omega⟩
theorem Ib.sub{p:Rat}(h:Ib B p)(k:Ib C q):Ib (B+C) (p-q):=by rw[Rat.sub_eq_add_neg];exact h.add k.neg
theorem Ib.zero(B:Nat):Ib B 0:=⟨0,rfl,aP _⟩
theorem Ib.one(h:1<=B):Ib B 1:=⟨1,rfl,h⟩
theorem Ib.int{z:Int}(h:z.natAbs<=B):Ib B (z:Rat):=⟨z,rfl,h⟩
theorem Ib.sum{B:Nat}{f:Nat->Rat}:∀(n:Nat),(∀k,k<n->Ib B (f k))->Ib (n*B) (cQ f n)
 |0,_=>Ib.zero _
 |n+1,h=>by rw[cQ,Nat.succ_mul];exact(Ib.sum n fun k hk=>h k (by omega)).add (h n (by omega))
def fB(B:Nat):Nat->Nat
 |0=>1
 |n+1=>(n+1)*(B*fB B n)
theorem Ib.qP{k:Nat}(h:Ib B q):Ib B (qP k*q):=by
 unfold Go.Ex.qP;split
 ·rw[show (-1:Rat)*q= -q by grind];exact h.neg
 ·rw[bj];exact h
theorem Ib.Kb{B:Nat}:∀(n:Nat) {m:Mx},(∀i j,i<n->j<n->Ib B (m i j))->Ib (fB B n) (fF n m)
 |0,_,_=>Ib.one (aE _)
 |n+1,m,h=>by
  unfold fF fB;exact Ib.sum (n+1) fun k hk=>((h 0 k (by omega) hk).mul (Ib.Kb n fun i j hi hj=>h (i+1) (skip k j) (by omega) (ES hj))).qP
theorem EY(B n:Nat):B*fB B n<=fB B (n+1):=Nat.le_mul_of_pos_left _ (Nat.succ_pos n)
theorem IK(h:1<=B)(n:Nat):fB B n<=fB B (n+1):=ai (Nat.le_mul_of_pos_left _ h) (EY B n)
theorem pB{B a:Nat}(h:1<=B):∀{b:Nat},a<=b->fB B a<=fB B b
 |0,k=>by rw[Nat.le_zero.1 k];exact aE _
 |b+1,k=>by
  rcases aO b a with h1|h1
  ·rw[show a=b+1 by omega];exact aE _
  ·exact ai (pB h h1) (IK h b)
theorem Ix{B R:Nat}:∀{n:Nat},n<=R->fB B n<=(R*B)^n
 |0,_=>aE _
 |n+1,h=>by
  rw[fB,Nat.pow_succ,<-b9,bM _ (R*B)];exact Nat.mul_le_mul (Nat.mul_le_mul_right B h) (Ix (by omega))
theorem Iy{R l n:Nat}(hn:n<=R)(h:R*B<=wt l):ln (fB B n)<=l*n+1:=by
 rw[fb,gz];have h1:=ai (Ix (B:=B) hn) (Nat.pow_le_pow_left h n);rw[sw,<-Nat.pow_mul]at h1;have h2:=sw (l*n);have h3:=wY (l*n);rw[show 32*l*n=32*(l*n) by rw[b9]]at h1;omega
theorem vg{K:Nat}{D:Rat}(h0:D≠0)(hD:Ib K D)(hq:Ib K (D*q)):rl q<=ln K:=by
 obtain⟨d,rfl,b⟩:=hD;obtain⟨z,e,c⟩:=hq;have hd:d≠0:=fun e=>h0 (by rw[e];rfl);have e2:q=Rat.divInt z d:=by
  rw[Rat.divInt_eq_div,<-e,bW,bZ (d:Rat) q,Rat.mul_assoc,Rat.mul_inv_cancel _ h0,Rat.mul_one]
 have:=jO (a:=z) hd;have:=eY b;have:=eY c;rw[e2];omega
theorem FY{n:Nat}(h:r<n):fF n (gA m r fun _=>0)=0:=by
 have h1:=ll 1 n r m h (fun _=>0) fun _=>0;rw[show (fun _:Nat=>(0:Rat)+1*0)=fun _=>0 from funext fun _=>by grind]at h1;grind
theorem xJ{n r:Nat}{m:Mx}(h:r<n)(c:Nat->Rat)(v:Nat->Nat->Rat):∀s,fF n (gA m r fun j=>cQ (fun k=>c k*v k j) s)=cQ (fun k=>c k*fF n (gA m r (v k))) s
 |0=>FY h
 |s+1=>by
  have h1:=ll (c s) n r m h (fun j=>cQ (fun k=>c k*v k j) s) (v s);rw[xJ h c v s]at h1;exact h1
theorem EZ{n b:Nat}(hb:b<n)(hab:a<b)(he:∀j,j<n->m a j=m b j):fF n m=0:=by
 obtain⟨b,rfl⟩:∃k,b=k+1:=⟨b-1,by omega⟩
 cases a with
 |zero=>exact mb b n m hb he
 |succ a=>
  have h1:=FR (m:=m) (k:=a) (n:=n) (by omega);rw[mb b n _ hb fun j hj=>?_]at h1
  ·grind
  ·rw[show kF 0 (a+1) 0=a+1 by unfold kF;rw[if_pos rfl],show kF 0 (a+1) (b+1)=b+1 by unfold kF;rw[aI (by omega),aI (by omega)]];exact he j hj
theorem Bv{n b:Nat}(ha:a<n)(hb:b<n)(hab:a≠b)(he:∀j,j<n->m a j=m b j):fF n m=0:=by
 rcases Nat.lt_or_gt_of_ne hab with h|h
 ·exact EZ hb h he
 ·exact EZ ha h fun j hj=>(he j hj).symm
section
variable{E Z:Mx}{p:Nat->Nat}{r n:Nat}{v:Nat->Rat}
theorem Ru.coeff(h:Ru E p r n)(hv:df E r n v):∀t,t<n->v t=cQ (fun i=>v (p i)*E i t) r:=by
 obtain⟨c,hc⟩:=hv;intro t ht;rw[hc t ht];refine cA fun i hi=>?_;rw[hc (p i) (h.lt i hi),eL hi fun k hk hne=>by rw[h.unit i k hi hk,aI hne,aw],h.unit i i hi hi,if_pos rfl,Rat.mul_one]
def rO(Z:Mx)(p:Nat->Nat)(r:Nat):Rat:=fF r fun j i=>Z (r-1-i) (p (r-1-j))
theorem J0(h:Ru E p r n)(hZ:∀i,i<r->df E r n (Z i)){k:Nat}(hk:k<r)(ht:t<n):
  rO Z p r*E k t=fF r (gA (fun j i=>Z (r-1-i) (p (r-1-j))) (r-1-k) fun i=>Z (r-1-i) t):=by
 have e:∀i j,i<r->j<r->gA (fun j i=>Z (r-1-i) (p (r-1-j))) (r-1-k) (fun i=>Z (r-1-i) t) i j=gA (fun j i=>Z (r-1-i) (p (r-1-j))) (r-1-k) (fun i=>cQ (fun j=>E j t*Z (r-1-i) (p j)) r) i j:=fun i j hi hj=>by
  unfold gA;split
  ·show Z (r-1-j) t=cQ (fun l=>E l t*Z (r-1-j) (p l)) r;rw[h.coeff (hZ (r-1-j) (by omega)) t ht];exact cA fun l _=>bZ _ _
  ·rfl
 rw[gj e,xJ (v:=fun k i=>Z (r-1-i) (p k)) (by omega),eL hk fun j hj hne=>?_]
 ·rw[show gA (fun j i=>Z (r-1-i) (p (r-1-j))) (r-1-k) (fun i=>Z (r-1-i) (p k))=fun j i=>Z (r-1-i) (p (r-1-j))from ?_]
  ·rw[rO,bZ]
  ·funext i j
   unfold gA;split
   ·rename_i hi;rw[hi,show r-1-(r-1-k)=k by omega]
   ·rfl
 ·rw[Bv (a:=r-1-k) (b:=r-1-j) (by omega) (by omega) (by omega) fun i hi=>?_,aw];unfold gA;rw[if_pos rfl,aI (by omega)];show Z (r-1-i) (p j)=Z (r-1-i) (p (r-1-(r-1-j)));rw[show r-1-(r-1-j)=j by omega]
theorem J1(h:Ru E p r n)(hZ:∀i,i<r->df E r n (Z i))(ht:t<n):
  fF (r+1) (fun j i=>if j=0 then Z (r-i) t else Z (r-i) (p (r-j)))=ki E p r (Z r) n t*rO Z p r:=by
 obtain⟨m,hm⟩:∃m:Mx,m=fun j i=>if j=0 then Z (r-i) t else Z (r-i) (p (r-j)):=⟨_,rfl⟩
 obtain⟨w,hw⟩:∃w:Nat->Rat,w=fun i=>if i=0 then ki E p r (Z r) n t else 0:=⟨_,rfl⟩
 rw[<-hm];have hrow:∀j,j<r->∀i,m (r-j) i=Z (r-i) (p j):=fun j hj i=>by rw[hm];simp only;rw[aI (by omega),show r-(r-j)=j by omega]
 have e:∀i j,i<r+1->j<r+1->m i j=gA m 0 (fun i=>w i+1*cQ (fun j=>E j t*m (r-j) i) r) i j:=fun i j hi hj=>by
  unfold gA;split
  ·rename_i h0;subst h0;show m 0 j=w j+1*cQ (fun l=>E l t*m (r-l) j) r;rw[cA (g:=fun l=>E l t*Z (r-j) (p l)) fun l hl=>by rw[hrow l hl],bj,hw];simp only
   by_cases hj0:j=0
   ·rw[if_pos hj0,hj0,hm];simp only[if_pos,Nat.sub_zero]
    unfold ki;rw[cA (f:=fun i=>if p i<n then Z r (p i)*E i t else 0) (g:=fun i=>E i t*Z r (p i)) fun l hl=>by rw[if_pos (h.lt l hl),bZ]];grind
   ·rw[aI hj0,Rat.zero_add,hm];simp only[if_pos]
    rw[h.coeff (hZ (r-j) (by omega)) t ht];exact cA fun l _=>bZ _ _
  ·rfl
 rw[gj e,ll 1 (r+1) 0 m (by omega),xJ (v:=fun k i=>m (r-k) i) (by omega),cA (g:=fun _=>0) fun j hj=>?_,dK,aw,bP]
 ·rw[fF,eL (i:=0) (by omega) fun k hk hne=>?_]
  ·unfold gA;rw[if_pos rfl,hw];simp only[if_pos]
   rw[show qP 0=1 by decide,bj,rO,gj fun i j hi hj=>?_];rw[aI (by omega),hm];simp only
   rw[aI (by omega),show skip 0 j=j+1 by unfold skip;rw[aI (by omega)],show r-(j+1)=r-1-j by omega,show r-(i+1)=r-1-i by omega]
  ·unfold gA;rw[if_pos rfl,hw];simp only
   rw[aI hne,bA,aw]
 ·rw[Bv (a:=0) (b:=r-j) (by omega) (by omega) (by omega) fun i _=>?_,aw];unfold gA;rw[if_pos rfl,aI (by omega)]
theorem IL(d:Rat)(k t:Nat):ki E p r (fun t=>d*v t) k t=d*ki E p r v k t:=by
 unfold ki;rw[cA (g:=fun i=>d*if p i<k then v (p i)*E i t else 0) fun i _=>?_,eE]
 ·grind
 ·split
  ·rw[Rat.mul_assoc]
  ·rw[aw]
theorem IM(h:Ru E p r n)(hx:df E r n fun t=>v t+ -(x t))(h0:∀i,i<r->x (p i)=0)(ht:t<n):x t=ki E p r v n t:=by
 have h1:=h.coeff hx t ht;unfold ki;rw[cA (g:=fun i=>v (p i)*E i t) fun i hi=>if_pos (h.lt i hi)];rw[cA (g:=fun i=>v (p i)*E i t) fun i hi=>by rw[h0 i hi];grind]at h1;grind
end
structure xK(E:Mx)(p:Nat->Nat)(r n B:Nat)(Z:Mx):Prop where
 ru:Ru E p r n
 sp:∀i,i<r->df E r n (Z i)
 ib:∀i t,i<r->t<n->Ib B (Z i t)
 nz:rO Z p r≠0
section
variable{E Z:Mx}{p:Nat->Nat}{r n B k:Nat}{v u:Nat->Rat}
theorem xK.start(E Z:Mx)(p:Nat->Nat)(n B:Nat):xK E p 0 n B Z:=
 ⟨⟨fun _ h=>(by omega),fun _ _ h=>(by omega),fun _ _ h=>(by omega),fun _ _ h=>(by omega)⟩,fun _ h=>(by omega),fun _ _ h=>(by omega),by show(1:Rat)≠0;decide⟩
theorem xK.push(h:xK E p r n B Z)(hd:d≠0)(hz:∀t,t<n->Ib B (d*v t))(hu:∀t,t<n->u t=ki E p r v n t)(hk:k<n)(h0:u k≠0)(hl:∀t,t<k->u t=0):
  xK (je E r u k) (fun i=>if i=r then k else p i) (r+1) n B fun i t=>if i=r then d*v t else Z i t:=by
 refine⟨h.ru.push hk (fun i hi=>by rw[hu _ (h.ru.lt i hi),EU h.ru hi]) h0 hl,fun i hi=>?_,fun i t hi ht=>?_,?_⟩
 ·by_cases h1:i=r
  ·exact((zX h0 hu h.ru.lt).mul d).congr fun t _=>by simp only[if_pos h1];rw[bZ]
  ·exact((h.sp i (by omega)).trans fun j hj=>pA h0 j hj).congr fun t _=>by simp only[aI h1]
 ·by_cases h1:i=r
  ·simp only[if_pos h1];exact hz t ht
  ·simp only[aI h1];exact h.ib i t (by omega) ht
 ·have hb:=J1 (Z:=fun i t=>if i=r then d*v t else Z i t) h.ru (fun i hi=>(h.sp i hi).congr fun t _=>by simp only[aI (Nat.ne_of_lt hi)]) hk;have e1:rO (fun i t=>if i=r then d*v t else Z i t) p r=rO Z p r:=gj fun i j hi hj=>by simp only;rw[aI (by omega)]
  simp only[if_pos]at hb;rw[IL,<-hu k hk,e1]at hb;have e2:rO (fun i t=>if i=r then d*v t else Z i t) (fun i=>if i=r then k else p i) (r+1)=d*u k*rO Z p r:=by
   rw[<-hb];refine gj fun i j hi hj=>?_;by_cases h1:i=0
   ·subst h1;simp only[if_true]
    rw[if_pos (show r+1-1-0=r by omega),show r+1-1-j=r-j by omega]
   ·simp only[aI h1]
    rw[aI (show ¬r+1-1-i=r by omega),show r+1-1-j=r-j by omega,show r+1-1-i=r-i by omega]
  rw[e2];have hz1:∀{a b:Rat},a≠0->b≠0->a*b≠0:=fun ha hb e=>by
   rcases Rat.mul_eq_zero.1 e with h|h
   ·exact ha h
   ·exact hb h
  exact hz1 (hz1 hd h0) h.nz
theorem xK.den(h:xK E p r n B Z):Ib (fB B r) (rO Z p r):=Ib.Kb r fun i j hi hj=>h.ib _ _ (by omega) (h.ru.lt _ (by omega))
theorem xK.Kd(h:xK E p r n B Z){i:Nat}(hi:i<r)(ht:t<n):Ib (fB B r) (rO Z p r*E i t):=by
 rw[J0 h.ru h.sp hi ht];refine Ib.Kb r fun j l hj hl=>?_;unfold gA;split
 ·exact h.ib _ _ (by omega) ht
 ·exact h.ib _ _ (by omega) (h.ru.lt _ (by omega))
theorem xK.Ga(h:xK E p r n B Z){i:Nat}(hi:i<r)(ht:t<n):rl (E i t)<=ln (fB B r):=vg h.nz h.den (h.Kd hi ht)
theorem xK.ki(h:xK E p r n B Z)(hz:∀t,t<n->Ib B (d*v t))(k:Nat)(ht:t<n):Ib (fB B (r+1)) (d*rO Z p r*ki E p r v k t):=by
 unfold Go.Ex.ki;rw[show ∀a b c s:Rat,a*b*(c-s)=b*(a*c)-(a*b)*s from fun a b c s=>by grind,<-eE,fB,Nat.succ_mul,Nat.add_comm];refine Ib.sub (by rw[bM B];exact h.den.mul (hz t ht)) (Ib.sum r fun i hi=>?_);split
 ·rw[show ∀a b c s:Rat,a*b*(c*s)=(a*c)*(b*s)from fun a b c s=>by grind];exact(hz _ (h.ru.lt i hi)).mul (h.Kd hi ht)
 ·rw[aw];exact Ib.zero _
theorem xK.Gb(h:xK E p r n B Z)(hB:1<=B)(hd:d≠0)(hdB:Ib B d)(hz:∀t,t<n->Ib B (d*v t))(k:Nat)(ht:t<n):Go.Ex.rl (Go.Ex.ki E p r v k t)<=ln (fB B (r+1)):=
 vg (fun e=>by rcases Rat.mul_eq_zero.1 e with e|e;exact hd e;exact h.nz e) ((hdB.mul h.den).mono (EY B r)) (h.ki hz k ht)
end
def A4(M:List (List Rat))(n B:Nat):Prop:=∀j,j<M.length->∃d:Rat,d≠0∧Ib B d∧∀t,t<n->Ib B (d*cY M j t)
theorem df.DN{n:Nat}(h:df E r n v)(e:∀i t,i<r->t<n->F i t=E i t):df F r n v:=by
 obtain⟨c,hc⟩:=h;exact⟨c,fun t ht=>by rw[hc t ht];exact cA fun i hi=>by rw[e i t hi ht]⟩
theorem df.more{s n:Nat}(h:df E r n v)(k:r<=s):df E s n v:=h.trans fun i hi=>df.row (Nat.lt_of_lt_of_le hi k)
theorem Ru.congr{q:Nat->Nat}{n:Nat}(h:Ru E p r n)(e:∀i t,i<r->t<n->F i t=E i t)(ep:∀i,i<r->q i=p i):Ru F q r n:=
 ⟨fun i hi=>by rw[ep i hi];exact h.lt i hi,fun i j hi hj k=>h.inj i j hi hj (by rw[<-ep i hi,<-ep j hj];exact k),fun i j hi hj=>by rw[ep i hi,e j _ hj (h.lt i hi)];exact h.unit i j hi hj,
  fun i t hi ht=>by rw[ep i hi]at ht;rw[e i t hi (by have:=h.lt i hi;omega)];exact h.lead i t hi ht⟩
theorem xK.congr{Z Y:Mx}{q:Nat->Nat}{n:Nat}(h:xK E p r n B Z)(e:∀i t,i<r->t<n->F i t=E i t)(ep:∀i,i<r->q i=p i)(eZ:∀i t,i<r->t<n->Y i t=Z i t):xK F q r n B Y:=by
 refine⟨h.ru.congr e ep,fun i hi=>((h.sp i hi).congr fun t ht=>eZ i t hi ht).DN e,fun i t hi ht=>by rw[eZ i t hi ht];exact h.ib i t hi ht,?_⟩;rw[show rO Y q r=rO Z p r from gj fun i j hi hj=>by rw[ep _ (by omega),eZ _ _ (by omega) (h.ru.lt _ (by omega))]];exact h.nz
theorem xL(row:List Rat):∀f k,k<=nH row f k∧nH row f k<=k+f∧(∀t,k<=t->t<nH row f k->row.getD t 0=0)∧(nH row f k<k+f->row.getD (nH row f k) 0≠0)
 |0,k=>by
  unfold nH;exact⟨aE _,aE _,fun t h1 h2=>by omega,fun h=>by omega⟩
 |f+1,k=>by
  unfold nH;split
  ·rename_i h;obtain⟨h1,h2,h3,h4⟩:=xL row f (k+1);refine⟨by omega,by omega,fun t k1 k2=>?_,fun h5=>h4 (by omega)⟩;rcases aO k t with h5|h5
   ·exact h3 t h5 k2
   ·rw[show t=k by omega];exact h
  ·rename_i h;exact⟨aE _,by omega,fun t h1 h2=>by omega,fun _=>h⟩
theorem FZ(row:List Rat)(n:Nat):rM row n<=n∧(∀t,t<rM row n->row.getD t 0=0)∧(rM row n≠n->row.getD (rM row n) 0≠0):=by
 obtain⟨_,h2,h3,h4⟩:=xL row n 0;unfold rM;exact⟨by omega,fun t h=>h3 t (aP _) h,fun h=>h4 (by omega)⟩
theorem F0(y:List Rat)(q:Rat)(t:Nat):(y.map (· / q)).getD t 0=y.getD t 0 / q:=by
 simp only[List.getD,aM]
 cases y[t]? with
 |none=>show(0:Rat)=0 / q;rw[bW,bA]
 |some x=>rfl
structure DO(M:List (List Rat))(n B i:Nat)(s:uu)(p:Nat->Nat)(Z:Mx):Prop where
 ok:rN n n i s
 Jv:∀k,k<n->∀r:Nat,s.2.1[k]? =some (some r)↔r<s.1.length∧p r=k
 xM:xK (cY s.1) p s.1.length n B Z
 up:∀r,r<s.1.length->df (cY M) i n (cY s.1 r)
 dn:∀j,j<i->df (cY s.1) s.1.length n (cY M j)
section
variable{M:List (List Rat)}{n B i:Nat}{s:uu}{p:Nat->Nat}{Z:Mx}
theorem DO.ki(h:DO M n B i s p Z){x:List Rat}(hx:x.length=n):∀k,k<=n->∀t,t<n->(fG s.1 s.2.1 x k).getD t 0=ki (cY s.1) p s.1.length (fun t=>x.getD t 0) k t
 |0,_,t,ht=>by rw[G4];rfl
 |k+1,hk,t,ht=>by
  have ih:=DO.ki h hx k (by omega);obtain⟨o,ho⟩:∃o,s.2.1[k]? =some o:=⟨_,aA (by rw[h.ok.at_];omega)⟩
  have hd:s.2.1.getD k none=o:=by rw[List.getD,ho];rfl
  rw[fG,hd]
  cases o with
  |none=>
   simp only
   rw[ih t ht,G5 fun r hr e=>?_];have:=(h.Jv k (by omega) r).2 ⟨hr,e⟩;rw[ho]at this
   cases this
  |some r=>
   simp only
   obtain⟨hr,e⟩:=(h.Jv k (by omega) r).1 ho;rw[kr,tA (by rw[gM,hx];exact ht),ih t ht,ih k (by omega),<-e,G6 h.xM.ru hr];rfl
theorem DO.step(h:DO M n B i s p Z)(hM:fZ n M)(hi:i<M.length)(hd:d≠0)(hz:∀t,t<n->Ib B (d*cY M i t)):
  ∃p' Z',DO M n B (i+1) (jW n s i (M.getD i [])) p' Z':=by
 have hx:(M.getD i []).length=n:=hM.getD hi;have hok:=h.ok.step hx;obtain⟨y,hy⟩:∃y,fG s.1 s.2.1 (M.getD i []) n=y:=⟨_,rfl⟩
 have hu:∀t,t<n->y.getD t 0=Go.Ex.ki (cY s.1) p s.1.length (cY M i) n t:=fun t ht=>by rw[<-hy];exact h.ki hx n (aE _) t ht
 have hyl:y.length=n:=by rw[<-hy,gM,hx]
 obtain⟨q1,q2,q3⟩:=FZ y n;by_cases hq:rM y n=n
 ·have e:jW n s i (M.getD i [])=s:=by unfold jW;simp only[hy,hq,if_true]
  rw[e]at hok ⊢;refine⟨p,Z,hok,h.Jv,h.xM,fun r hr=>(h.up r hr).more (Nat.le_succ i),fun j hj=>?_⟩;rcases aO j i with h1|h1
  ·exact h.dn j h1
  ·rw[show j=i by omega];refine⟨fun j=>cY M i (p j),fun t ht=>?_⟩;have h2:=hu t ht;rw[q2 t (by omega)]at h2;unfold Go.Ex.ki at h2;rw[cA (g:=fun j=>cY M i (p j)*cY s.1 j t) fun j hj=>if_pos (h.xM.ru.lt j hj)]at h2;grind
 ·have h0:=q3 hq;obtain⟨k,hk⟩:∃k,rM y n=k:=⟨_,rfl⟩
  rw[hk]at hq h0 q1 q2;have hkn:k<n:=by omega
  have e:jW n s i (M.getD i [])=(fT s.1 (y.map (· / y.getD k 0)) k s.1.length++[y.map (· / y.getD k 0)],s.2.1.set k (some s.1.length),s.2.2++[i]):=by
   unfold jW;simp only[hy,hk,aI hq]
  rw[e]at hok ⊢;have hl:(fT s.1 (y.map (· / y.getD k 0)) k s.1.length).length=s.1.length:=fJ ..;have hnl:(fT s.1 (y.map (· / y.getD k 0)) k s.1.length++[y.map (· / y.getD k 0)]).length=s.1.length+1:=by rw[List.length_append,hl];rfl
  have hdv:∀t,t<n->(y.map (· / y.getD k 0)).getD t 0=y.getD t 0 / y.getD k 0:=fun t _=>F0 y _ t;have hE:∀a t,a<s.1.length+1->t<n->cY (fT s.1 (y.map (· / y.getD k 0)) k s.1.length++[y.map (· / y.getD k 0)]) a t=je (cY s.1) s.1.length (fun t=>y.getD t 0) k a t:=fun a t ha ht=>by
   unfold je;by_cases h1:a=s.1.length
   ·rw[if_pos h1,<-hdv t ht,cY];congr 1;rw[List.getD,aN (by omega),hl,h1,bI];rfl
   ·have ha2:a<s.1.length:=by omega
    have hr:=aA ha2;have hrl:(s.1[a]).length=n:=h.ok.len _ (aX ha2);have hg:s.1.getD a []=s.1[a]:=by rw[List.getD,hr];rfl
    have hrow:(fT s.1 (y.map (· / y.getD k 0)) k s.1.length++[y.map (· / y.getD k 0)]).getD a []=kr s.1[a] (y.map (· / y.getD k 0)) ((s.1[a]).getD k 0):=by
     rw[List.getD,aK (by omega),fT,List.getElem?_mapIdx,hr];simp only[Option.map_some,Option.getD_some,if_pos ha2]
    rw[aI h1,cY,hrow,kr,tA (by omega),hdv t ht];unfold cY;rw[hg]
  have hC:=h.xM.push hd hz hu hkn h0 q2;have hu2:=JZ (v:=cY M i) hu h.xM.ru.lt;refine⟨fun i=>if i=s.1.length then k else p i,fun a t=>if a=s.1.length then d*cY M i t else Z a t,hok,?_,?_,?_,?_⟩
  ·intro c hc r;dsimp only
   rw[hnl];have hne:∀j,j<s.1.length->p j≠k:=fun j hj e=>h0 (by rw[hu k hkn,<-e];exact EU h.xM.ru hj);by_cases h1:c=k
   ·rw[h1,aU (by rw[h.ok.at_];exact hkn)];constructor
    ·intro e;injection e with e;injection e with e;exact⟨by omega,by rw[if_pos e.symm]⟩
    ·rintro⟨h2,h3⟩;by_cases h4:r=s.1.length
     ·rw[h4]
     ·rw[aI h4]at h3;exact absurd h3 (hne r (by omega))
   ·rw[aZ (Ne.symm h1),h.Jv c hc r];constructor
    ·rintro⟨h2,h3⟩;exact⟨by omega,by rw[aI (by omega)];exact h3⟩
    ·rintro⟨h2,h3⟩;by_cases h4:r=s.1.length
     ·rw[if_pos h4]at h3;exact absurd h3.symm h1
     ·rw[aI h4]at h3;exact⟨by omega,h3⟩
  ·dsimp only
   rw[hnl];exact hC.congr hE (fun _ _=>rfl) fun _ _ _ _=>rfl
  ·dsimp only
   rw[hnl];intro a ha;refine((G7 (k:=k) hu2 a ha).trans fun b hb=>?_).congr fun t ht=>hE a t ha ht;by_cases h1:b=s.1.length
   ·exact(df.row (show i<i+1 by omega)).congr fun t _=>by unfold jJ;rw[if_pos h1]
   ·exact((h.up b (by omega)).more (Nat.le_succ i)).congr fun t _=>by unfold jJ;rw[aI h1]
  ·dsimp only
   rw[hnl];intro j hj;refine df.DN ?_ hE;rcases aO j i with h1|h1
   ·exact(h.dn j h1).trans fun b hb=>pA h0 b hb
   ·rw[show j=i by omega];exact zX h0 hu h.xM.ru.lt
end
theorem pC{M:List (List Rat)}{n B:Nat}(hM:fZ n M)(hW:A4 M n B):∀i,i<=M.length->∃p Z,DO M n B i (gG M n i) p Z
 |0,_=>⟨fun _=>0,fun _ _=>0,rN.start n n,fun k _ r=>⟨fun h=>(by
   simp only[gG,List.getElem?_replicate]at h
   split at h<;>cases h),fun h=>(by have:=h.1;simp[gG]at this)⟩,xK.start _ _ _ _ _,fun r h=>(by simp[gG]at h),fun j h=>by omega⟩
 |i+1,hi=>by
  obtain⟨p,Z,h⟩:=pC hM hW i (by omega);obtain⟨d,hd,-,hz⟩:=hW i (by omega);exact h.step hM (by omega) hd hz
theorem Gc{n:Nat}(hM:fZ n M)(hW:A4 M n B)(hB:1<=B){i:Nat}(hi:i<=M.length):∀r∈(gG M n i).1,∀q∈r,rl q<=ln (fB B M.length):=fun r hr q hq=>by
 obtain⟨p,Z,h⟩:=pC hM hW i hi;obtain⟨a,ha⟩:=aT hr;obtain⟨t,ht⟩:=aT hq;have ha2:=(aC.1 ha).1;have ht2:=(aC.1 ht).1;rw[h.ok.len r hr]at ht2;have h1:=h.xM.Ga ha2 ht2;rw[cY,show(gG M n i).1.getD a []=r by rw[List.getD,ha];rfl,show r.getD t 0=q by rw[List.getD,ht];rfl]at h1;exact ai h1 (eY (pB hB (ai h.ok.le hi)))
theorem Gd{n:Nat}(hM:fZ n M)(hW:A4 M n B)(hB:1<=B){i k:Nat}(hi:i<M.length)(hk:k<=n):∀q∈fG (gG M n i).1 (gG M n i).2.1 (M.getD i []) k,rl q<=ln (fB B M.length):=fun q hq=>by
 obtain⟨p,Z,h⟩:=pC hM hW i (by omega);have hx:(M.getD i []).length=n:=hM.getD hi;obtain⟨t,ht⟩:=aT hq;have ht2:=(aC.1 ht).1;rw[gM,hx]at ht2;have h1:=h.ki hx k hk t ht2;rw[show (fG (gG M n i).1 (gG M n i).2.1 (M.getD i []) k).getD t 0=q by rw[List.getD,ht];rfl]at h1;obtain⟨d,hd,hdB,hz⟩:=hW i hi;rw[h1];exact ai (h.xM.Gb hB hd hdB hz k ht2) (eY (pB hB (by have:=h.ok.le;omega)))
theorem zY{s:uu}:∀k,(cV s k).1.length=(cV s k).2.1.length∧(∀i,i<(cV s k).2.1.length->∃r:Nat,s.2.1[(cV s k).2.1.getD i 0]? =some (some r)∧(cV s k).1.getD i []=s.1.getD r []∧(cV s k).2.1.getD i 0<k)∧
  (∀i j,i<j->j<(cV s k).2.1.length->(cV s k).2.1.getD i 0<(cV s k).2.1.getD j 0)∧∀q,q<k->∀r:Nat,s.2.1[q]? =some (some r)->∃i,i<(cV s k).2.1.length∧(cV s k).2.1.getD i 0=q
 |0=>⟨rfl,fun i h=>(by cases h),fun i j _ h=>(by cases h),fun q h=>by omega⟩
 |k+1=>by
  obtain⟨h1,h2,h3,h4⟩:=zY (s:=s) k;have step:(∃r:Nat,s.2.1[k]? =some (some r)∧cV s (k+1)=((cV s k).1++[s.1.getD r []],(cV s k).2.1++[k],(cV s k).2.2++[s.2.2.getD r 0]))∨((∀r:Nat,s.2.1[k]? ≠some (some r))∧cV s (k+1)=cV s k):=by
   rw[cV]
   cases ho:s.2.1[k]? with
   |none=>exact .inr ⟨fun r e=>(by cases e),by rw[show s.2.1.getD k none=none by rw[List.getD,ho];rfl]⟩
   |some o=>cases o with
    |none=>exact .inr ⟨fun r e=>(by cases e),by rw[show s.2.1.getD k none=none by rw[List.getD,ho];rfl]⟩
    |some r=>exact .inl ⟨r,rfl,by rw[show s.2.1.getD k none=some r by rw[List.getD,ho];rfl]⟩
  rcases step with⟨r,hr,e⟩|⟨hr,e⟩
  ·rw[e];have old:∀i,i<(cV s k).2.1.length->((cV s k).2.1++[k]).getD i 0=(cV s k).2.1.getD i 0:=fun i hi=>by rw[List.getD,aK hi,<-List.getD]
   have new:((cV s k).2.1++[k]).getD (cV s k).2.1.length 0=k:=by rw[List.getD,aN (aE _),bI];rfl
   have hlen:((cV s k).2.1++[k]).length=(cV s k).2.1.length+1:=by simp
   dsimp only
   rw[hlen];refine⟨by simp[h1],fun i hi=>?_,fun i j hij hj=>?_,fun q hq x hx=>?_⟩
   ·rcases aO i (cV s k).2.1.length with h5|h5
    ·obtain⟨x,x1,x2,x3⟩:=h2 i h5;rw[old i h5];refine⟨x,x1,?_,by omega⟩;rw[List.getD,aK (by omega),<-List.getD];exact x2
    ·rw[show i=(cV s k).2.1.length by omega,new];refine⟨r,hr,?_,by omega⟩;rw[List.getD,aN (by omega),h1,bI];rfl
   ·rcases aO j (cV s k).2.1.length with h5|h5
    ·rw[old i (by omega),old j h5];exact h3 i j hij h5
    ·rw[show j=(cV s k).2.1.length by omega,new,old i (by omega)];obtain⟨_,_,_,x3⟩:=h2 i (by omega);exact x3
   ·rcases aO q k with h5|h5
    ·obtain⟨i,i1,i2⟩:=h4 q h5 x hx;exact⟨i,by omega,by rw[old i i1];exact i2⟩
    ·exact⟨(cV s k).2.1.length,by omega,by rw[new];omega⟩
  ·rw[e];refine⟨h1,fun i hi=>?_,h3,fun q hq x hx=>?_⟩
   ·obtain⟨x,x1,x2,x3⟩:=h2 i hi;exact⟨x,x1,x2,by omega⟩
   ·rcases aO q k with h5|h5
    ·exact h4 q h5 x hx
    ·rw[show q=k by omega]at hx;exact absurd hx (hr x)
theorem fu{α:Type}{a b:List α}(d:α)(hl:a.length=b.length)(h:∀i,i<a.length->a.getD i d=b.getD i d):a=b:=by
 refine List.ext_getElem hl fun i h1 h2=>?_;have:=h i h1
 rwa [List.getD,List.getD,aA h1,aA h2]at this
theorem kP{n:Nat}(hM:fZ n M)(hW:A4 M n B):(dB M n).2.1=(cH M n).2∧(dB M n).1=(cH M n).1.take (cH M n).2.length:=by
 obtain⟨p,Z,h⟩:=pC hM hW M.length (aE _);obtain⟨h1,h2,h3,h4⟩:=zY (s:=gG M n M.length) n;unfold dB;generalize gG M n M.length=s at*
 obtain⟨F,hF⟩:∃F,cV s n=F:=⟨_,rfl⟩
 rw[hF]at h1 h2 h3 h4 ⊢;have hrow:∀i,i<F.2.1.length->∃r,r<s.1.length∧p r=F.2.1.getD i 0∧F.1.getD i []=s.1.getD r []∧F.2.1.getD i 0<n:=fun i hi=>by
  obtain⟨r,r1,r2,r3⟩:=h2 i hi;obtain⟨k1,k2⟩:=(h.Jv _ r3 r).1 r1;exact⟨r,k1,k2,r2,r3⟩
 have inj:∀i j,i<F.2.1.length->j<F.2.1.length->F.2.1.getD i 0=F.2.1.getD j 0->i=j:=fun i j hi hj e=>by
  rcases bl i j with h5|h5|h5
  ·have:=h3 i j h5 hj;omega
  ·exact h5
  ·have:=h3 j i h5 hi;omega
 have hrf:Rf (cY F.1) (fun i=>F.2.1.getD i 0) F.2.1.length n:=by
  refine⟨fun i hi=>?_,h3,fun i j hi hj=>?_,fun i t hi ht=>?_⟩
  ·obtain⟨_,_,_,_,h5⟩:=hrow i hi;exact h5
  ·obtain⟨a,a1,a2,a3,_⟩:=hrow i hi;obtain⟨b,b1,b2,b3,_⟩:=hrow j hj;rw[cY,b3,<-a2];have:=h.xM.ru.unit a b a1 b1;unfold cY at this;rw[this];by_cases h5:j=i
   ·rw[if_pos h5,if_pos (h.xM.ru.inj b a b1 a1 (by rw[a2,b2,h5]))]
   ·rw[aI h5,aI fun e=>h5 (inj j i hj hi (by rw[<-a2,<-b2,e]))]
  ·obtain⟨a,a1,a2,a3,_⟩:=hrow i hi;rw[cY,a3];have:=h.xM.ru.lead a t a1 (by rw[a2];exact ht);unfold cY at this;exact this
 have hsp:∀r,r<s.1.length->df (cY F.1) F.2.1.length n (cY s.1 r):=fun r hr=>by
  have hp:=h.xM.ru.lt r hr;obtain⟨i,i1,i2⟩:=h4 (p r) hp r ((h.Jv _ hp r).2 ⟨hr,rfl⟩);obtain⟨a,a1,a2,a3,_⟩:=hrow i i1;have e:a=r:=h.xM.ru.inj a r a1 hr (by rw[a2,i2]);exact(df.row i1).congr fun t _=>by rw[cY,cY,a3,e]
 obtain⟨e1,e2,e3⟩:=Br hM hrf (fun i hi=>by
  obtain⟨a,a1,a2,a3,_⟩:=hrow i hi
  exact(h.up a a1).congr fun t _=>by rw[cY,cY,a3]) fun j hj=>(h.dn j hj).trans hsp
 obtain⟨g1,g2,-,-,-⟩:=dN hM n (aE _);refine⟨fu 0 e1.symm fun i hi=>(e2 i hi).symm,fu [] ?_ fun i hi=>?_⟩
 ·rw[aW,e1,h1];omega
 ·rw[h1]at hi;have hi2:i<(cH M n).2.length:=by omega
  obtain⟨a,a1,a2,a3,_⟩:=hrow i hi;have hl1:(F.1.getD i []).length=n:=by rw[a3];exact h.ok.len.getD a1
  have hg:((cH M n).1.take (cH M n).2.length).getD i []=(cH M n).1.getD i []:=by rw[List.getD,bK hi2,<-List.getD]
  rw[hg];refine fu 0 (by rw[hl1,g1.getD (by omega)]) fun t ht=>?_;rw[hl1]at ht;exact(e3 i t hi ht).symm
structure K3(M:List (List Rat))(n B c:Nat)(s:List (List Rat)×List Nat)(σ:Nat->Nat)(Z:Mx):Prop where
 red:Ju n c s
 Ky:G3 s
 len:s.1.length=M.length
 xM:xK (cY s.1) (fun i=>s.2.getD i 0) s.2.length n B Z
 KD:∀j,j<M.length->σ j<M.length
 rest:∀j,s.2.length<=j->j<M.length->∀t,t<n->cY s.1 j t=ki (cY s.1) (fun i=>s.2.getD i 0) s.2.length (cY M (σ j)) n t
theorem K3.step{n c:Nat}{s:List (List Rat)×List Nat}{Z:Mx}(h:K3 M n B c s σ Z)(hW:A4 M n B)(hc:c<n):∃σ' Z',K3 M n B (c+1) (dV s c) σ' Z':=by
 have hred:=h.red.step hc;have hmon:=h.Ky.step h.red hc;have hlen:(dV s c).1.length=M.length:=by rw[mY,h.len]
 obtain⟨hl,hle,hz,hpc,hu⟩:=h.red;rcases iZ c hle with⟨e,h0⟩|⟨k,h1,h2,h3,e⟩
 ·rw[e]at hred hmon hlen ⊢;exact⟨σ,Z,hred,hmon,hlen,h.xM,h.KD,h.rest⟩
 ·obtain⟨r1,r2⟩:=kL hl h1 h2 h3 e;have e2:(dV s c).2=s.2++[c]:=by rw[e]
  have e3:(dV s c).2.length=s.2.length+1:=by rw[e2];simp
  have hkM:k<M.length:=by rw[<-h.len];exact h2
  have hk:=h.rest k h1 hkM;obtain⟨d,hd,-,hdz⟩:=hW (σ k) (h.KD k hkM);have hC:=h.xM.push (u:=cY s.1 k) hd hdz hk hc h3 fun t ht=>hz k t h1 h2 ht;have hold:∀i,i<s.2.length->(dV s c).2.getD i 0=s.2.getD i 0:=fun i hi=>by rw[e2,List.getD,aK hi,<-List.getD]
  have hnew:(dV s c).2.getD s.2.length 0=c:=by rw[e2,List.getD,aN (aE _),bI];rfl
  have hE:∀i t,i<s.2.length+1->t<n->cY (dV s c).1 i t=je (cY s.1) s.2.length (cY s.1 k) c i t:=fun i t hi ht=>by
   unfold je;by_cases hir:i=s.2.length
   ·rw[if_pos hir,hir,r1,bW,bW,bj]
   ·rw[aI hir,r2 i (by omega) hir t ht,aI (by omega),bW,bW,bj]
  have hC2:xK (cY (dV s c).1) (fun i=>(dV s c).2.getD i 0) (dV s c).2.length n B fun i t=>if i=s.2.length then d*cY M (σ k) t else Z i t:=by
   rw[e3];refine hC.congr hE (fun i hi=>?_) fun _ _ _ _=>rfl;by_cases hir:i=s.2.length
   ·rw[if_pos hir,hir,hnew]
   ·rw[aI hir,hold i (by omega)]
  refine⟨fun j=>if j=k then σ s.2.length else σ j,_,hred,hmon,hlen,hC2,fun j hj=>?_,fun j hj hjM t ht=>?_⟩
  ·split
   ·exact h.KD _ (by omega)
   ·exact h.KD j hj
  ·rw[e3]at hj;have hjs:j<s.1.length:=by rw[h.len];exact hjM
   obtain⟨jj,hjj⟩:∃jj,(if j=k then s.2.length else j)=jj:=⟨_,rfl⟩
   have hjr:s.2.length<=jj:=by rw[<-hjj];split<;>omega
   have hjl:jj<M.length:=by rw[<-hjj];split<;>omega
   have hσ:(if j=k then σ s.2.length else σ j)=σ jj:=by rw[<-hjj];split<;>rfl
   rw[hσ];refine IM hC2.ru ?_ (fun i hi=>?_) ht
   ·have hr:df (cY (dV s c).1) (dV s c).2.length n (cY (dV s c).1 s.2.length):=df.row (by omega);have h5:df (cY s.1) s.2.length n fun t=>cQ (fun i=>cY M (σ jj) (s.2.getD i 0)*cY s.1 i t) s.2.length:=⟨_,fun t _=>rfl⟩
    have h6:df (cY (dV s c).1) (dV s c).2.length n fun t=>cQ (fun i=>cY M (σ jj) (s.2.getD i 0)*cY s.1 i t) s.2.length:=h5.trans fun i hi=>by
     rw[e3];exact df.DN (pA h3 i hi) hE
    refine(h6.add hr (cY s.1 jj c)).congr fun t ht=>?_;have h7:=h.rest jj hjr hjl t ht;unfold ki at h7;rw[cA (g:=fun i=>cY M (σ jj) (s.2.getD i 0)*cY s.1 i t) fun i hi=>if_pos (h.xM.ru.lt i hi)]at h7;rw[r2 j hjs (by omega) t ht,hjj,r1,h7];grind
   ·rw[hred.2.2.2.2 i j hi (by rw[hlen];exact hjM),aI (by omega)]
theorem nt{M:List (List Rat)}{n B:Nat}(hM:fZ n M)(hW:A4 M n B):∀c,c<=n->∃σ Z,K3 M n B c (cH M c) σ Z
 |0,_=>⟨fun j=>j,fun _ _=>0,⟨hM,aP _,fun _ _ _ _ h=>by omega,fun p hp=>(by cases hp),fun _ _ h=>(by cases h)⟩,⟨fun _ _ _ h=>(by cases h),fun _ _ h=>(by cases h)⟩,rfl,xK.start _ _ _ _ _,fun j hj=>hj,fun j _ hj t ht=>by
   show cY M j t=ki (cY M) _ 0 (cY M j) n t;unfold ki;show _=_-0
   grind⟩
 |c+1,hc=>by
  obtain⟨σ,Z,h⟩:=nt hM hW c (by omega);unfold cH at h ⊢;rw[bR,List.foldl_append];exact h.step hW (by omega)
theorem DP{n:Nat}(hM:fZ n M)(hW:A4 M n B)(hB:1<=B){c:Nat}(hc:c<=n):∀r∈(cH M c).1,∀q∈r,rl q<=ln (fB B M.length):=fun r hr q hq=>by
 obtain⟨σ,Z,h⟩:=nt hM hW c hc;obtain⟨a,ha⟩:=aT hr;obtain⟨t,ht⟩:=aT hq;have ha2:=(aC.1 ha).1;have ht2:=(aC.1 ht).1;rw[h.red.1 r hr]at ht2;have hle:=h.red.2.1;have e:q=cY (cH M c).1 a t:=by rw[cY,show(cH M c).1.getD a []=r by rw[List.getD,ha];rfl,List.getD,ht];rfl
 rw[h.len]at ha2 hle;rw[e];rcases aO a (cH M c).2.length with h1|h1
 ·exact ai (h.xM.Ga h1 ht2) (eY (pB hB hle))
 ·obtain⟨d,hd,hdB,hz⟩:=hW _ (h.KD a ha2);rw[h.rest a h1 ha2 t ht2];exact ai (h.xM.Gb hB hd hdB hz n ht2) (eY (pB hB (by omega)))
end Go.Ex
namespace Go.Ex
open Go Go.Sx Go.Proofs
variable{xs ys:List Rat}{cs:List Value}{h:Nat}{C S:Nat->Prop}{a:Option Addr}{q:Rat}{u v:Value}{w:World}
theorem Dx(hS:Old S w)(hx:dX w S v xs)(hy:dX w S u ys)(hl:xs.length=ys.length)(hqx:∀q∈xs,rl q+1<=h)(hqy:∀q∈ys,rl q+1<=h)(h2:2<=h)(hb:2*h*xs.length<=90000):
  di PG N.zj #[v,u] w (dw w fun v' w2=>cM w2 (Nf w w2) v' (de xs ys xs.length)):=by
 have hw:cR w.heap.size w w:=cR.refl;obtain⟨ax,cx,rfl,hcx,hmx⟩:=hx.shape;obtain⟨ay,cy,rfl,hcy,-⟩:=hy.shape;unfold maxLen at hmx;refine Ad (by simp) ?_;refine bw (cE hw (fun _ w' v w2=>cM w2 (Nf w' w2) v (((0:Int):Rat))) (fun O w' r=>Ck 0 w' (by decide) (by decide)) ?_);rintro O wa1 v1 wb1 iv1 r he hw h_ hn;have hd:=hn.cd (S:=fun _=>False) r.bu (mN h_);obtain⟨s1_0,s1_1,s1_2,s1_3,s1_4,s1_5,s1_6,s1_7,rfl⟩:=hd.shape;rw[show ((0:Int):Rat)=de xs ys 0 from rfl]at hd
 refine⟨Nat×(Bool×Bool)×(Option Addr×Option Addr)×(Nat×Nat×Nat×Nat)×World×Iv,fun z=>⟨[(0,.o (.v (.slice ax xs.length cx))),(1,.o (.v (.slice ay ys.length cy))),(4,.o (.p 0 0)),(5,.o (.p 1 0)),(6,.o (.v (.int .i64 ((z.1:Nat):Int))))],[(1,.box T.Rat [.v (.bool z.2.1.1),.v (.slice z.2.2.1.1 z.2.2.2.1.1 z.2.2.2.1.2.1),.v (.bool z.2.1.2),.v (.slice z.2.2.1.2 z.2.2.2.1.2.2.1 z.2.2.2.1.2.2.2)]),(0,.box T.Rat [.v (.bool false),.v (.slice none 0 0),.v (.bool false),.v (.slice none 0 0)])],2,z.2.2.2.2.2,z.2.2.2.2.1⟩,fun z=>xs.length-z.1,
  fun z=>z.1<=xs.length∧cR w.heap.size w z.2.2.2.2.1∧cM z.2.2.2.2.1 (Cf w z.2.2.2.2.2) (.agg #[.bool z.2.1.1,.slice z.2.2.1.1 z.2.2.2.1.1 z.2.2.2.1.2.1,.bool z.2.1.2,.slice z.2.2.1.2 z.2.2.2.1.2.2.1 z.2.2.2.1.2.2.2]) (de xs ys z.1),?_,?_⟩
 ·intro O w' r;exact⟨(0,(s1_0,s1_4),(s1_1,s1_5),(s1_2,s1_3,s1_6,s1_7),w',iv1),⟨by simp,hw.tr r.cI,hd.rel r (bs w)⟩,Sub.gn [] r⟩
 rintro⟨i,⟨p0,p4⟩,⟨p1,p5⟩,⟨p2,p3,p6,p7⟩,w1,iv⟩ ⟨hi,hw,hd⟩;dsimp only at hi hw hd ⊢;refine dF.mk (fun hib=>?_) (fun hib=>?_)
 ·have hib:i<xs.length:=by simpa using hib
  have hs:=jC hqx hqy h2 i;have hs2:2*h*i<=2*h*xs.length:=bQ _ hi;have hs3:2*h*1<=2*h*xs.length:=bQ _ (by omega);obtain⟨x,hxi⟩:∃x,xs[i]? =some x:=⟨_,aA hib⟩
  obtain⟨y,hyi⟩:∃x,ys[i]? =some x:=⟨_,aA (by omega)⟩
  have hx3:=hqx x (aD hxi);have hy3:=hqy y (aD hyi);have hx2:xs.getD i 0=x:=by rw[List.getD,hxi];rfl
  have hy2:ys.getD i 0=y:=by rw[List.getD,hyi];rfl
  have hm:=iW x y;obtain⟨adx,csx,hax,hFx,-,hlx⟩:=dY.load hx hxi;obtain⟨ady,csy,hay,hFy,-,hly⟩:=dY.load hy hyi;obtain⟨f0,f1,f2,f3,f4,f5,f6,f7,rfl,hFx⟩:=hFx;obtain⟨q0,q1,q2,q3,q4,q5,q6,q7,rfl,hFy⟩:=hFy;refine cF hτ dc [.x 0,.x 1,.x 2,.x 3,.x 4,.x 5,.x 6,.x 7,.x 8,.x 9,.x 10,.x 11] (by kernel_rfl) (by kernel_rfl) ?_;refine⟨adx,hax,by omega,[.bool f0,.slice f1 f2 f3,.bool f4,.slice f5 f6 f7],rfl,rdO hlx hw hS,ady,hay,by omega,[.bool q0,.slice q1 q2 q3,.bool q4,.slice q5 q6 q7],rfl,rdO hly hw hS,?_⟩;refine cE hw (fun _ w' v w2=>cM w2 (Nf w' w2) v (x*y)) (fun O w' r=>Jq (oS hS r) (hFx.cB (kS hw r hS)) (hFy.cB (kS hw r hS))) ?_;rintro O wa2 v2 wb2 iv2 r he hw h_ hn;replace hd:=hd.bz r (bs w) he (mC h_);have hp:=hn.cd (S:=fun _=>False) r.bu (mN h_);obtain⟨s2_0,s2_1,s2_2,s2_3,s2_4,s2_5,s2_6,s2_7,rfl⟩:=hp.shape;refine cE hw (fun _ w' v w2=>cM w2 (Nf w' w2) v (de xs ys i+x*y)) (fun O w' r=>Dy (Rel.old r (bs w)) ((hd.rel r (bs w)).l (by omega)) ((hp.rel r (bs w)).l (by omega))) ?_;rintro O wa3 v3 wb3 iv3 r he hw h_ hn;have hd2:=hn.cd (S:=fun _=>False) r.bu (mN h_);obtain⟨s3_0,s3_1,s3_2,s3_3,s3_4,s3_5,s3_6,s3_7,rfl⟩:=hd2.shape;rw[show de xs ys i+x*y=de xs ys (i+1) by rw[de,hx2,hy2]]at hd2;refine⟨((i+1:Nat):Int),wo,?_⟩;intro ρ3 w3 r3;exact⟨(i+1,(s3_0,s3_4),(s3_1,s3_5),(s3_2,s3_3,s3_6,s3_7),w3,_),⟨hib,hw.tr r3.cI,hd2.rel r3 (bs w)⟩,Sub.gn [] r3,by dsimp only;omega⟩
 have hib:i=xs.length:=aQ hi (by simpa using hib);subst hib;intro ρe we re;exact⟨_,rfl,hw.tr re.cI,hd.out re (bs w)⟩
section
variable{S:Nat->Prop}{H:Hp}{nx:Nat}{iv iv':Iv}{B:Nat}{w w' w2:World}{O:Nat->Sx.dS}{css:List (List Value)}{qs:List Rat}
theorem Fc.rel(h:Fc w (Cv S B iv) css qs)(r:Rel H nx iv B w O w')(hS:∀g,S g->g<B):Fc w' (Cv S B iv) css qs:=h.cB fun _ hg=>Rel.same r hS hg
theorem Fc.bz(h:Fc w (Cv S B iv) css qs)(r:Rel H nx iv B w O w')(hS:∀g,S g->g<B)(he:Ext w' w2)(hm:∀p,p∈iv->p∈iv'):Fc w2 (Cv S B iv') css qs:=
 ((h.rel r hS).cB fun g hg=>he.block g (Rel.old r hS g hg)).cC fun _ hg=>hg.mono hm
theorem Fc.push(h:Fc w S css qs)(hc:jD w S cs q):Fc w S (css++[cs]) (qs++[q]):=by
 refine⟨by simp[h.1],fun j x p h1 h2=>?_⟩;rcases aO j css.length with hi|hi
 ·rw[aK hi]at h1;rw[aK (by rw[<-h.1];exact hi)]at h2;exact h.2 j x p h1 h2
 ·have hi0:j=css.length:=by have:=(aC.1 h1).1;simp at this;omega
  subst hi0;rw[aN (aE _),bI]at h1;rw[h.1,aN (aE _),bI]at h2;simp at h1 h2;subst h1 h2;exact hc
end
section
variable{S S':Nat->Prop}{H:Hp}{nx:Nat}{iv iv':Iv}{B:Nat}{w w' w2:World}{O:Nat->Sx.dS}{v:Value}{b:List (Int×Int)}
end
def aAK(qs:List Rat):List (Int×Int):=qs.map fun q=>(q.num,(q.den:Int))
section
variable{S:Nat->Prop}{w:World}{v u:Value}{M:List (List (Int×Int))}{b:List (Int×Int)}
end
theorem eR.zero:eR w S (.agg #[.bool false,.slice none 0 0,.bool false,.slice none 0 0]) 0:=
 ⟨_,_,_,_,0,0,rfl,⟨false,[],⟨_,rfl,cw.nil _ _⟩,rfl,aP _⟩,⟨false,[],⟨_,rfl,cw.nil _ _⟩,rfl,aP _⟩,by decide⟩
section
variable{S:Nat->Prop}{w:World}{v u:Value}{M:List (List (Int×Int))}{x:List Rat}
end
theorem oa(q:Rat):rs (q-0)=rs q:=by rw[show q-0=q by grind]
theorem j5(n:Int)(w:World)(h1n: -9223372036854775808<=n)(h2n:n<=9223372036854775807):di PG N.ph #[.int .i64 n] w (dw w fun v' w2=>cM w2 (Nf w w2) v' (n:Rat)):=by
 have hw:cR w.heap.size w w:=cR.refl;refine tX (by simp) ?_;refine bw (cE hw (fun _ w' v w2=>cM w2 (Nf w' w2) v ((n:Rat))) (fun O w' r=>D7 n w' h1n h2n) ?_);rintro O wa1 v1 wb1 iv1 r he hw h_ hn;have hd:=hn.cd (S:=fun _=>False) r.bu (mN h_);obtain⟨s1_0,s1_1,s1_2,s1_3,s1_4,s1_5,s1_6,s1_7,rfl⟩:=hd.shape;intro ρe we re;exact⟨_,rfl,hw.tr re.cI,hd.out re (bs w)⟩
theorem pH(hS:Old S w)(hq:eR w S v q):di PG N.rh #[v] w (dw w fun v' _=>∃d,v'= .bool d∧(d=true↔q=0)):=by
 have hw:cR w.heap.size w w:=cR.refl;obtain⟨f0,f1,f2,f3,f4,f5,f6,f7,rfl⟩:=hq.shape;refine vF (by simp) ?_;refine bw (cE hw (fun _ w' v w2=>v= .int .i64 (rs q)) (fun O w' r=>(D8 (oS hS r) (hq.v.cB (kS hw r hS)) (eR.zero (S:=S)).v).mono fun _ _ ⟨v2,e1,e2,e3⟩=>⟨v2,e1,e2,by rw[e3,oa]⟩) ?_);rintro O wa1 v1 wb1 iv1 r he hw h_ rfl;intro ρe we re;refine⟨_,rfl,hw.tr re.cI,_,rfl,?_⟩;rw[beq_iff_eq];exact Av
theorem HJ{p:Rat}(hS:Old S w)(hp:eR w S v p)(hq:eR w S u q)(h0:q≠0):di PG N.uU #[v,u] w (dw w fun v' w2=>cM w2 (Nf w w2) v' (p / q)):=by
 have hw:cR w.heap.size w w:=cR.refl;obtain⟨f0,f1,f2,f3,f4,f5,f6,f7,rfl⟩:=hp.shape;obtain⟨g0,g1,g2,g3,g4,g5,g6,g7,rfl⟩:=hq.shape;refine xt (by simp) ?_;refine bw (cE hw (fun _ w' v w2=>∃r,v= .tuple #[r,.int .i64 0]∧cM w2 (Nf w' w2) r (p / q)) (fun O w' r=>(Jd (oS hS r) (hp.v.cB (kS hw r hS)) (hq.v.cB (kS hw r hS))).mono fun _ _ ⟨v2,e1,e2,e3⟩=>⟨v2,e1,e2,e3.elim (fun h=>absurd h.1 h0) fun h=>h.2⟩) ?_);rintro O wa1 v1 wb1 iv1 r he hw h_ ⟨q1,rfl,k1⟩;have hd:=k1.cd (S:=fun _=>False) r.bu (mN h_);obtain⟨s1_0a,s1_0b,s1_0c,s1_0d,s1_0e,s1_0f,s1_0g,s1_0h,rfl⟩:=hd.shape;intro ρe we re;exact⟨_,rfl,hw.tr re.cI,hd.out re (bs w)⟩
theorem HK(hS:Old S w)(hq:eR w S v q):di PG N.u5 #[v] w (dw w fun v' w2=>cM w2 (Nf w w2) v' (-q)):=by
 have hw:cR w.heap.size w w:=cR.refl;obtain⟨f0,f1,f2,f3,f4,f5,f6,f7,rfl⟩:=hq.shape;refine yA (by simp) ?_;refine bw (cE hw (fun _ w' v w2=>cM w2 (Nf w' w2) v (-q)) (fun O w' r=>(HL (oS hS r) (eR.zero (S:=S)).v (hq.v.cB (kS hw r hS))).mono fun _ _ ⟨v2,e1,e2,e3⟩=>⟨v2,e1,e2,by rwa [show (0:Rat)-q= -q by grind]at e3⟩) ?_);rintro O wa1 v1 wb1 iv1 r he hw h_ hn;have hd:=hn.cd (S:=fun _=>False) r.bu (mN h_);obtain⟨s1_0,s1_1,s1_2,s1_3,s1_4,s1_5,s1_6,s1_7,rfl⟩:=hd.shape;intro ρe we re;exact⟨_,rfl,hw.tr re.cI,hd.out re (bs w)⟩
theorem D9(hS:Old S w)(hx:dX w S v xs)(hy:dX w S u ys)(hl:xs.length<=ys.length)(hqx:∀q∈xs,rl q+1<=h)(hqy:∀q∈ys,rl q+1<=h)(h2:2<=h)(hb:2*h*xs.length<=90000):
  di PG N.uV #[v,u] w (dw w fun v' w2=>cM w2 (Nf w w2) v' (de xs ys xs.length)):=by
 have hw:cR w.heap.size w w:=cR.refl;obtain⟨ax,cx,rfl,hcx,hmx⟩:=dY.shape hx;obtain⟨ay,cy,rfl,hcy,-⟩:=dY.shape hy;unfold maxLen at hmx;refine xu (by simp) ?_;refine bw (cE hw (fun _ w' v w2=>cM w2 (Nf w' w2) v (((0:Int):Rat))) (fun O w' r=>j5 0 w' (by decide) (by decide)) ?_);rintro O wa1 v1 wb1 iv1 r he hw h_ hn;have hd:=hn.cd (S:=fun _=>False) r.bu (mN h_);obtain⟨s1_0,s1_1,s1_2,s1_3,s1_4,s1_5,s1_6,s1_7,rfl⟩:=hd.shape;rw[show ((0:Int):Rat)=de xs ys 0 from rfl]at hd
 refine⟨Nat×(Bool×Bool)×(Option Addr×Option Addr)×(Nat×Nat×Nat×Nat)×World×Iv,fun z=>⟨[(1,.o (.v (.slice ay ys.length cy))),(4,.o (.p 0 0)),(5,.o (.p 1 0)),(9,.o (.v (.slice ax xs.length cx))),(10,.o (.v (.int .i64 xs.length))),(11,.o (.v (.int .i64 ((z.1:Nat):Int))))],[(1,.box T.Rat [.v (.bool z.2.1.1),.v (.slice z.2.2.1.1 z.2.2.2.1.1 z.2.2.2.1.2.1),.v (.bool z.2.1.2),.v (.slice z.2.2.1.2 z.2.2.2.1.2.2.1 z.2.2.2.1.2.2.2)]),(0,.box T.Rat [.v (.bool false),.v (.slice none 0 0),.v (.bool false),.v (.slice none 0 0)])],2,z.2.2.2.2.2,z.2.2.2.2.1⟩,fun z=>xs.length-z.1,
  fun z=>z.1<=xs.length∧cR w.heap.size w z.2.2.2.2.1∧cM z.2.2.2.2.1 (Cf w z.2.2.2.2.2) (.agg #[.bool z.2.1.1,.slice z.2.2.1.1 z.2.2.2.1.1 z.2.2.2.1.2.1,.bool z.2.1.2,.slice z.2.2.1.2 z.2.2.2.1.2.2.1 z.2.2.2.1.2.2.2]) (de xs ys z.1),?_,?_⟩
 ·intro O w' r;exact⟨(0,(s1_0,s1_4),(s1_1,s1_5),(s1_2,s1_3,s1_6,s1_7),w',iv1),⟨by simp,hw.tr r.cI,hd.rel r (bs w)⟩,Sub.gn [] r⟩
 rintro⟨i,⟨p0,p4⟩,⟨p1,p5⟩,⟨p2,p3,p6,p7⟩,w1,iv⟩ ⟨hi,hw,hd⟩;dsimp only at hi hw hd ⊢;refine dF.mk (fun hib=>?_) (fun hib=>?_)
 ·have hib:i<xs.length:=by simpa using hib
  have hs:=jC hqx hqy h2 i;have hs2:2*h*i<=2*h*xs.length:=bQ _ hi;have hs3:2*h*1<=2*h*xs.length:=bQ _ (by omega);obtain⟨x,hxi⟩:∃x,xs[i]? =some x:=⟨_,aA hib⟩
  obtain⟨y,hyi⟩:∃x,ys[i]? =some x:=⟨_,aA (by omega)⟩
  have hx3:=hqx x (aD hxi);have hy3:=hqy y (aD hyi);have hx2:xs.getD i 0=x:=by rw[List.getD,hxi];rfl
  have hy2:ys.getD i 0=y:=by rw[List.getD,hyi];rfl
  have hm:=iW x y;obtain⟨adx,csx,hax,hFx,-,hlx⟩:=dY.load hx hxi;obtain⟨ady,csy,hay,hFy,-,hly⟩:=dY.load hy hyi;obtain⟨f0,f1,f2,f3,f4,f5,f6,f7,rfl,hFx⟩:=hFx;obtain⟨q0,q1,q2,q3,q4,q5,q6,q7,rfl,hFy⟩:=hFy;refine⟨adx,hax,by omega,[.bool f0,.slice f1 f2 f3,.bool f4,.slice f5 f6 f7],rfl,rdO hlx hw hS,?_⟩;refine bw (cE hw (fun _ w' v w2=>∃d,v= .bool d∧(d=true↔x=0)) (fun O w' r=>pH (oS hS r) (hFx.cB (kS hw r hS))) ?_);rintro O wa2 v2 wb2 iv2 r he hw h_ ⟨d1,rfl,hz1⟩;replace hd:=hd.bz r (bs w) he (mC h_)
  cases d1
  ·refine⟨ady,hay,by omega,[.bool q0,.slice q1 q2 q3,.bool q4,.slice q5 q6 q7],rfl,rdO hly hw hS,?_⟩;refine bw (cE hw (fun _ w' v w2=>∃d,v= .bool d∧(d=true↔y=0)) (fun O w' r=>pH (oS hS r) (hFy.cB (kS hw r hS))) ?_);rintro O wa3 v3 wb3 iv3 r he hw h_ ⟨d2,rfl,hz2⟩;replace hd:=hd.bz r (bs w) he (mC h_)
   cases d2
   ·refine cF hτ dc [.x 0,.x 1,.x 2,.x 3,.x 4,.x 5,.x 6,.x 7,.x 8] (by kernel_rfl) (by kernel_rfl) ?_;refine⟨ady,hay,by omega,[.bool q0,.slice q1 q2 q3,.bool q4,.slice q5 q6 q7],rfl,rdO hly hw hS,?_⟩;refine cE hw (fun _ w' v w2=>cM w2 (Nf w' w2) v (x*y)) (fun O w' r=>yH (oS hS r) (hFx.v.cB (kS hw r hS)) (hFy.v.cB (kS hw r hS))) ?_;rintro O wa4 v4 wb4 iv4 r he hw h_ hn;replace hd:=hd.bz r (bs w) he (mC h_);have hp:=hn.cd (S:=fun _=>False) r.bu (mN h_);obtain⟨s4_0,s4_1,s4_2,s4_3,s4_4,s4_5,s4_6,s4_7,rfl⟩:=hp.shape;refine cE hw (fun _ w' v w2=>cM w2 (Nf w' w2) v (de xs ys i+x*y)) (fun O w' r=>HM (Rel.old r (bs w)) ((hd.rel r (bs w)).v (by omega)) ((hp.rel r (bs w)).v (by omega))) ?_;rintro O wa5 v5 wb5 iv5 r he hw h_ hn;have hd2:=hn.cd (S:=fun _=>False) r.bu (mN h_);obtain⟨s5_0,s5_1,s5_2,s5_3,s5_4,s5_5,s5_6,s5_7,rfl⟩:=hd2.shape;rw[show de xs ys i+x*y=de xs ys (i+1) by rw[de,hx2,hy2]]at hd2;refine⟨((i+1:Nat):Int),wo,?_⟩;intro ρ3 w3 r3;exact⟨(i+1,(s5_0,s5_4),(s5_1,s5_5),(s5_2,s5_3,s5_6,s5_7),w3,_),⟨hib,hw.tr r3.cI,hd2.rel r3 (bs w)⟩,Sub.gn [] r3,by dsimp only;omega⟩
   ·have hy0:y=0:=hz2.1 rfl;rw[show de xs ys i=de xs ys (i+1) by rw[de,hx2,hy2,hy0,aw,bP]]at hd;refine⟨((i+1:Nat):Int),wo,?_⟩;intro ρ3 w3 r3;exact⟨(i+1,(p0,p4),(p1,p5),(p2,p3,p6,p7),w3,_),⟨hib,hw.tr r3.cI,hd.rel r3 (bs w)⟩,Sub.gn [] r3,by dsimp only;omega⟩
  ·have hx0:x=0:=hz1.1 rfl;rw[show de xs ys i=de xs ys (i+1) by rw[de,hx2,hy2,hx0,bA,bP]]at hd;refine⟨((i+1:Nat):Int),wo,?_⟩;intro ρ3 w3 r3;exact⟨(i+1,(p0,p4),(p1,p5),(p2,p3,p6,p7),w3,_),⟨hib,hw.tr r3.cI,hd.rel r3 (bs w)⟩,Sub.gn [] r3,by dsimp only;omega⟩
 have hib:i=xs.length:=aQ hi (by simpa using hib);subst hib;intro ρe we re;exact⟨_,rfl,hw.tr re.cI,hd.out re (bs w)⟩
structure fR(w:World)(S:Nat->Prop)(n i:Nat)(css:List (List Value))(qs:List Rat):Prop where
 len:css.length=n
 four:∀cs∈css,cs.length=4
 one:∀cs∈css,∀u∈cs,u.oneCell'=true
 at_:∀(j:Nat) cs q,j<i->css[j]? =some cs->qs[j]? =some q->jD w S cs q
section
variable{S S':Nat->Prop}{H:Hp}{nx n i:Nat}{iv iv':Iv}{B:Nat}{w w1 w' w2:World}{O:Nat->Sx.dS}{css:List (List Value)}{qs:List Rat}
theorem fR.cB(h:fR w S n i css qs)(hk:∀g,S g->w2.heap[g]? =w.heap[g]?):fR w2 S n i css qs:=⟨h.len,h.four,h.one,fun j cs q hj h1 h2=>(h.at_ j cs q hj h1 h2).cB hk⟩
theorem fR.cC(h:fR w S n i css qs)(hk:∀g,S g->S' g):fR w S' n i css qs:=⟨h.len,h.four,h.one,fun j cs q hj h1 h2=>(h.at_ j cs q hj h1 h2).cC hk⟩
theorem fR.rel(h:fR w (Cv S B iv) n i css qs)(r:Rel H nx iv B w O w')(hS:∀g,S g->g<B):fR w' (Cv S B iv) n i css qs:=h.cB fun _ hg=>Rel.same r hS hg
theorem fR.bz(h:fR w (Cv S B iv) n i css qs)(r:Rel H nx iv B w O w')(hS:∀g,S g->g<B)(he:Ext w' w2)(hm:∀p,p∈iv->p∈iv'):fR w2 (Cv S B iv') n i css qs:=
 ((h.rel r hS).cB fun g hg=>he.block g (Rel.old r hS g hg)).cC fun _ hg=>hg.mono hm
theorem fR.start(w:World)(S:Nat->Prop)(n:Nat)(qs:List Rat):fR w S n 0 (List.replicate n f0) qs:=
 ⟨by simp,fun cs hc=>by rw[bV hc];rfl,fun cs hc u hu=>by rw[bV hc]at hu;simp[f0]at hu;rcases hu with rfl|rfl|rfl|rfl<;>rfl,fun j cs q hj=>by omega⟩
theorem fR.next{b b2:Bool}{a2:Option Addr}{m c m2 c2:Nat}(h:fR w S n i css qs)(hi:i<n)(hq:qs[i]? =some q)(hf:cM w S (.agg #[.bool b,.slice a m c,.bool b2,.slice a2 m2 c2]) q):
  fR w S n (i+1) (css.set i [.bool b,.slice a m c,.bool b2,.slice a2 m2 c2]) qs:=by
 refine⟨by simp[h.len],fun cs hc=>?_,fun cs hc u hu=>?_,fun j cs p hj h1 h2=>?_⟩
 ·rcases bS hc with hc|rfl
  ·exact h.four cs hc
  ·rfl
 ·rcases bS hc with hc|rfl
  ·exact h.one cs hc u hu
  ·simp at hu;rcases hu with rfl|rfl|rfl|rfl<;>rfl
 ·by_cases hij:i=j
  ·subst hij;rw[aU (by rw[h.len];exact hi)]at h1;rw[hq]at h2;injection h1 with h1;injection h2 with h2;subst h1 h2;exact hf.zt
  ·rw[aZ hij]at h1;exact h.at_ j cs p (by omega) h1 h2
theorem fR.flat(h:fR w S n i css qs):css.flatten.length=n*4:=by rw[fg h.four,h.len]
theorem fR.done{w0:World}(h:fR w1 (Cf w0 iv) n n css qs)(hl:qs.length=n)(hn:n<=maxLen)(r:Rel H nx iv w0.heap.size w1 O w'){id:Nat}(hH:cX H id=some (.arr T.Rat css.flatten))(hnil:(O id).nil=false):
  dh w' (fun _=>False) w0.heap.size [(w0.heap.size,w'.heap.size)] (.slice (some ⟨(O id).g,0,none⟩) n n) n qs:=by
 have h2:=h.rel r (bs w0);have hlow:=r.low id _ hH hnil;refine⟨⟨css,⟨h.flat,.inr ⟨(O id).g,n,css.flatten.toArray,rfl,aP _,r.arr id _ _ hH,aE _,hn,by simpa using h.flat,?_⟩⟩,h.len,?_⟩,fun g hg=>?_⟩
 ·rw[<-h.flat];exact bC
 ·refine⟨by rw[h.len,hl],fun j cs q h3 h4=>?_⟩;refine(h2.at_ j cs q (by rw[<-hl];exact(aC.1 h4).1) h3 h4).cC fun g hg=>⟨?_,fun e=>?_⟩
  ·rcases hg with hg|⟨k1,lo,hi,k2,k3,k4⟩
   ·exact hg.elim
   ·exact .inr ⟨k1,_,_,bD.2 rfl,k1,by have:=r.qp lo hi k2;have:=r.size;omega⟩
  ·injection e with e;exact Rel.not r (bs w0) hg id _ hH hnil e
 ·injection hg with hg;subst hg;exact .inr ⟨hlow.1,_,_,bD.2 rfl,hlow.1,hlow.2⟩
theorem fV.c(h:fV w S S v qs):cD w S v qs:=by
 obtain⟨css,h1,h2⟩:=h;exact⟨css,h1,h2.1,h2.yv,h2.2⟩
theorem dh.c(h:dh w S B iv v n qs):cD w (Cv S B iv) v qs:=h.read.c
theorem cD.rc(h:cD w S v qs):fV w S S v qs:=by
 obtain⟨css,h1,h2,h3,h4⟩:=h;exact⟨css,h1,h2,h4⟩
theorem fV.rel(h:fV w (Cv C B iv) (Cv S B iv) v qs)(r:Rel H nx iv B w O w')(hC:∀g,C g->g<B)(hS:∀g,S g->g<B):fV w' (Cv C B iv) (Cv S B iv) v qs:=
 h.cB fun _ hg=>hg.elim (Rel.same r hC) (Rel.same r hS)
theorem fV.bz(h:fV w (Cv C B iv) (Cv S B iv) v qs)(r:Rel H nx iv B w O w')(hC:∀g,C g->g<B)(hS:∀g,S g->g<B)(he:Ext w' w2)(hm:∀p,p∈iv->p∈iv'):fV w2 (Cv C B iv') (Cv S B iv') v qs:=
 ((h.rel r hC hS).cB fun g hg=>he.block g (hg.elim (Rel.old r hC g) (Rel.old r hS g))).cC (fun _ hg=>hg.mono hm) (fun _ hg=>hg.mono hm)
theorem fV.arg(h:fV w C S v qs)(iv:Iv):fV w (Cv C w.heap.size iv) (Cv S w.heap.size iv) v qs:=h.cC (fun _ h=>.inl h) (fun _ h=>.inl h)
theorem fV.shape(h:fV w C S v qs):∃a c,v= .slice a qs.length c∧qs.length<=c∧qs.length<=maxLen:=by
 obtain⟨css,⟨h0,_,_,a,c,h1,h2,_⟩,_⟩:=h;exact⟨a,c,h1,h2,h0⟩
theorem fV.load{n c j:Nat}(h:fV w C S (.slice a n c) qs)(hq:qs[j]? =some q):
  ∃ad cs,a=some ad∧jD w S cs q∧∀k u,cs[k]? =some u->C ad.block∧w.cell? ((ad.add (j*4)).add k)=some u:=by
 obtain⟨css,⟨h0,h1,h2,a',c',e,h3,h4⟩,hf⟩:=h;injection e with e1 e2 e3;subst e1;obtain⟨cs,hcs⟩:∃cs,css[j]? =some cs:=⟨_,aA (by rw[hf.1];exact(aC.1 hq).1)⟩
 have hF:=hf.2 j cs q hcs hq;have hl:=hF.len;obtain⟨ad,k1,k2,k3⟩:=h4 (j*4+0) _ (flat_get hf.yv hcs 0 _ (aA (show 0<cs.length by omega)));refine⟨ad,cs,k1,hF,fun k u hu=>?_⟩;obtain⟨ad2,m1,m2,m3⟩:=h4 (j*4+k) u (flat_get hf.yv hcs k u hu);rw[k1]at m1;injection m1 with m1;subst m1;refine⟨m2,?_⟩;rw[<-m3];have:(ad.add (j*4)).add k=ad.add (j*4+k):=by
  unfold Addr.add;split<;>split<;>simp_all<;>omega
 rw[this]
theorem CY{j:Nat}{c:Nat}(h:w.ownsRow 0 T.Rat 4 (.slice a n c) n css.flatten)(hf:Fc w S css qs)(hj:css[j]? =some cs):
  ∃g,a=some ⟨g,0,none⟩∧∀k u,cs[k]? =some u->w.cell? ((Addr.add ⟨g,0,none⟩ (j*4)).add k)=some u:=by
 rcases h.2 with⟨h1,h0⟩|⟨g,cap,cur,hv2,_⟩
 ·have:=h.1;rw[fg hf.yv]at this;have:=(aC.1 hj).1;omega
 ·injection hv2 with h1 h2 h3;subst h1;refine⟨g,rfl,fun k u hu=>?_⟩;have:=h.cells (g:=g) rfl (j*4+k) u (flat_get hf.yv hj k u hu);rw[dH,dH];rw[dH]at this;rw[Nat.add_assoc];exact this
end
theorem CZ(n:Nat)(w:World)(hn:n<=1000000):di PG N.pn #[.int .i64 n] w (dw w fun v' w2=>dh w2 (fun _=>False) w.heap.size [(w.heap.size,w2.heap.size)] v' n (List.replicate n 0)):=by
 have hw:cR w.heap.size w w:=cR.refl;refine tc (by simp) ?_
 refine⟨n,n,rfl,rfl,aE _,by omega,by omega,Nat×List (List Value)×Iv×World,fun z=>⟨[(3,.o (.s 0 0 n n)),(8,.o (.v (.int .i64 n))),(9,.o (.v (.int .i64 ((z.1:Nat):Int))))],[(0,.arr T.Rat z.2.1.flatten)],1,z.2.2.1,z.2.2.2⟩,fun z=>n-z.1,
  fun z=>z.1<=n∧cR w.heap.size w z.2.2.2∧fR z.2.2.2 (Cf w z.2.2.1) (n) z.1 z.2.1 (List.replicate n 0),?_,?_⟩
 ·intro O w' r;exact⟨(0,List.replicate (n) f0,_,w'),⟨by simp,hw.tr r.cI,fR.start _ _ _ _⟩,Sub.gn [] r⟩
 rintro⟨i,css,iv,w1⟩ ⟨hi,hw,hF⟩;dsimp only at hi hw hF ⊢;refine dF.mk (fun h=>?_) (fun h=>?_)
 ·have h:i<n:=by simpa using h
  refine bw (cE hw (fun _ w' v w2=>cM w2 (Nf w' w2) v (((0:Int):Rat))) (fun O w' r=>j5 0 w' (by decide) (by decide)) ?_);rintro O wa1 v1 wb1 iv1 r he hw h_ hn;replace hF:=hF.bz r (bs w) he (mC h_);have hd:=hn.cd (S:=fun _=>False) r.bu (mN h_);obtain⟨s1_0,s1_1,s1_2,s1_3,s1_4,s1_5,s1_6,s1_7,rfl⟩:=hd.shape;have hnext:=hF.next h (q:=_) (by simp[h]) hd
  refine⟨by omega,by have:=hF.flat;omega,(css.set i [.bool s1_0,.slice s1_1 s1_2 s1_3,.bool s1_4,.slice s1_5 s1_6 s1_7]).flatten,?_,?_⟩
  ·have:=j6 (cs:=[.bool s1_0,.slice s1_1 s1_2 s1_3,.bool s1_4,.slice s1_5 s1_6 s1_7]) hF.four (show i<css.length by rw[hF.len];exact h);rw[<-this];simp
  refine⟨((i+1:Nat):Int),wo,?_⟩;intro ρ3 w3 r3;exact⟨(i+1,css.set i [.bool s1_0,.slice s1_1 s1_2 s1_3,.bool s1_4,.slice s1_5 s1_6 s1_7],_,w3),⟨h,hw.tr r3.cI,hnext.rel r3 (bs w)⟩,Sub.gn [] r3,by dsimp only;omega⟩
 have h:i=n:=aQ hi (by simpa using h);subst h;intro ρe we re;exact⟨_,rfl,hw.tr re.cI,hF.done (by simp) (by unfold maxLen;omega) re (id:=0) rfl (re.nn 0 _ rfl (by intros;simp) (by simp))⟩
theorem zu{b:Rat}(hS:Old S w)(hx:dX w S v xs)(hb:eR w S u b)(hn:xs.length<=1000000):
  di PG N.oM #[v,u] w (dw w fun v' w2=>dh w2 (fun _=>False) w.heap.size [(w.heap.size,w2.heap.size)] v' xs.length (cU xs b)):=by
 have hw:cR w.heap.size w w:=cR.refl;obtain⟨ax,cx,rfl,hcx,hmx⟩:=dY.shape hx;obtain⟨g0,g1,g2,g3,g4,g5,g6,g7,rfl⟩:=hb.shape;have hby:rl b<=100000:=hb.rl;refine sG (by simp) ?_
 refine⟨xs.length,xs.length,rfl,rfl,aE _,by omega,by omega,Nat×List (List Value)×Iv×World,fun z=>⟨[(3,.o (.p 0 0)),(5,.o (.s 1 0 xs.length xs.length)),(11,.o (.v (.slice ax xs.length cx))),(12,.o (.v (.int .i64 xs.length))),(13,.o (.v (.int .i64 ((z.1:Nat):Int))))],[(0,.box T.Rat [.v (.bool g0),.v (.slice g1 g2 g3),.v (.bool g4),.v (.slice g5 g6 g7)]),(1,.arr T.Rat z.2.1.flatten)],2,z.2.2.1,z.2.2.2⟩,fun z=>xs.length-z.1,
  fun z=>z.1<=xs.length∧cR w.heap.size w z.2.2.2∧fR z.2.2.2 (Cf w z.2.2.1) (xs.length) z.1 z.2.1 (cU xs b),?_,?_⟩
 ·intro O w' r;exact⟨(0,List.replicate (xs.length) f0,_,w'),⟨by simp,hw.tr r.cI,fR.start _ _ _ _⟩,Sub.gn [] r⟩
 rintro⟨i,css,iv,w1⟩ ⟨hi,hw,hF⟩;dsimp only at hi hw hF ⊢;refine dF.mk (fun h=>?_) (fun h=>?_)
 ·have h:i<xs.length:=by simpa using h
  obtain⟨x,hxi⟩:∃x,xs[i]? =some x:=⟨_,aA h⟩
  obtain⟨adx,csx,hax,hFx,-,hlx⟩:=dY.load hx hxi;obtain⟨f0,f1,f2,f3,f4,f5,f6,f7,rfl,hFx⟩:=hFx;refine⟨adx,hax,by omega,[.bool f0,.slice f1 f2 f3,.bool f4,.slice f5 f6 f7],rfl,rdO hlx hw hS,?_⟩;refine bw (cE hw (fun _ w' v w2=>cM w2 (Nf w' w2) v (x*b)) (fun O w' r=>yH (oS hS r) (hFx.v.cB (kS hw r hS)) (hb.v.cB (kS hw r hS))) ?_);rintro O wa1 v1 wb1 iv1 r he hw h_ hn;replace hF:=hF.bz r (bs w) he (mC h_);have hd:=hn.cd (S:=fun _=>False) r.bu (mN h_);obtain⟨s1_0,s1_1,s1_2,s1_3,s1_4,s1_5,s1_6,s1_7,rfl⟩:=hd.shape;have hnext:=hF.next h (q:=_) (by rw[cU,aM,hxi];rfl) hd
  refine⟨by omega,by have:=hF.flat;omega,(css.set i [.bool s1_0,.slice s1_1 s1_2 s1_3,.bool s1_4,.slice s1_5 s1_6 s1_7]).flatten,?_,?_⟩
  ·have:=j6 (cs:=[.bool s1_0,.slice s1_1 s1_2 s1_3,.bool s1_4,.slice s1_5 s1_6 s1_7]) hF.four (show i<css.length by rw[hF.len];exact h);rw[<-this];simp
  refine⟨((i+1:Nat):Int),wo,?_⟩;intro ρ3 w3 r3;exact⟨(i+1,css.set i [.bool s1_0,.slice s1_1 s1_2 s1_3,.bool s1_4,.slice s1_5 s1_6 s1_7],_,w3),⟨h,hw.tr r3.cI,hnext.rel r3 (bs w)⟩,Sub.gn [] r3,by dsimp only;omega⟩
 have h:i=xs.length:=aQ hi (by simpa using h);subst h;intro ρe we re;exact⟨_,rfl,hw.tr re.cI,hF.done (by simp[cU]) (by unfold maxLen;omega) re (id:=1) rfl (re.nn 1 _ rfl (by intros;simp) (by simp))⟩
theorem Aw(hS:Old S w)(hx:dX w S v xs)(hy:dX w S u ys)(hl:xs.length<=ys.length)(hn:xs.length<=1000000):
  di PG N.r8 #[v,u] w (dw w fun v' w2=>dh w2 (fun _=>False) w.heap.size [(w.heap.size,w2.heap.size)] v' xs.length (da xs ys)):=by
 have hw:cR w.heap.size w w:=cR.refl;obtain⟨ax,cx,rfl,hcx,hmx⟩:=dY.shape hx;obtain⟨ay,cy,rfl,hcy,hmy⟩:=dY.shape hy;refine vA (by simp) ?_
 refine⟨xs.length,xs.length,rfl,rfl,aE _,by omega,by omega,Nat×List (List Value)×Iv×World,fun z=>⟨[(0,.o (.v (.slice ax xs.length cx))),(1,.o (.v (.slice ay ys.length cy))),(5,.o (.s 0 0 xs.length xs.length)),(11,.o (.v (.int .i64 xs.length))),(12,.o (.v (.int .i64 ((z.1:Nat):Int))))],[(0,.arr T.Rat z.2.1.flatten)],1,z.2.2.1,z.2.2.2⟩,fun z=>xs.length-z.1,
  fun z=>z.1<=xs.length∧cR w.heap.size w z.2.2.2∧fR z.2.2.2 (Cf w z.2.2.1) (xs.length) z.1 z.2.1 (da xs ys),?_,?_⟩
 ·intro O w' r;exact⟨(0,List.replicate (xs.length) f0,_,w'),⟨by simp,hw.tr r.cI,fR.start _ _ _ _⟩,Sub.gn [] r⟩
 rintro⟨i,css,iv,w1⟩ ⟨hi,hw,hF⟩;dsimp only at hi hw hF ⊢;refine dF.mk (fun h=>?_) (fun h=>?_)
 ·have h:i<xs.length:=by simpa using h
  obtain⟨x,hxi⟩:∃x,xs[i]? =some x:=⟨_,aA h⟩
  obtain⟨y,hyi⟩:∃x,ys[i]? =some x:=⟨_,aA (by omega)⟩
  obtain⟨adx,csx,hax,hFx,-,hlx⟩:=dY.load hx hxi;obtain⟨f0,f1,f2,f3,f4,f5,f6,f7,rfl,hFx⟩:=hFx;obtain⟨ady,csy,hay,hFy,-,hly⟩:=dY.load hy hyi;obtain⟨q0,q1,q2,q3,q4,q5,q6,q7,rfl,hFy⟩:=hFy;refine cF hτ dc [.x 0,.x 1,.x 2,.x 3,.x 4,.x 5,.x 6,.x 7,.x 8,.x 9,.x 10,.x 11,.x 12] (by kernel_rfl) (by kernel_rfl) ?_;refine⟨adx,hax,by omega,[.bool f0,.slice f1 f2 f3,.bool f4,.slice f5 f6 f7],rfl,rdO hlx hw hS,ady,hay,by omega,[.bool q0,.slice q1 q2 q3,.bool q4,.slice q5 q6 q7],rfl,rdO hly hw hS,?_⟩;refine cE hw (fun _ w' v w2=>cM w2 (Nf w' w2) v (x*y)) (fun O w' r=>yH (oS hS r) (hFx.v.cB (kS hw r hS)) (hFy.v.cB (kS hw r hS))) ?_;rintro O wa1 v1 wb1 iv1 r he hw h_ hn;replace hF:=hF.bz r (bs w) he (mC h_);have hd:=hn.cd (S:=fun _=>False) r.bu (mN h_);obtain⟨s1_0,s1_1,s1_2,s1_3,s1_4,s1_5,s1_6,s1_7,rfl⟩:=hd.shape;have hnext:=hF.next h (q:=_) (by rw[da,List.getElem?_mapIdx,hxi,List.getD,hyi];rfl) hd
  refine⟨by omega,by have:=hF.flat;omega,(css.set i [.bool s1_0,.slice s1_1 s1_2 s1_3,.bool s1_4,.slice s1_5 s1_6 s1_7]).flatten,?_,?_⟩
  ·have:=j6 (cs:=[.bool s1_0,.slice s1_1 s1_2 s1_3,.bool s1_4,.slice s1_5 s1_6 s1_7]) hF.four (show i<css.length by rw[hF.len];exact h);rw[<-this];simp
  refine⟨((i+1:Nat):Int),wo,?_⟩;intro ρ3 w3 r3;exact⟨(i+1,css.set i [.bool s1_0,.slice s1_1 s1_2 s1_3,.bool s1_4,.slice s1_5 s1_6 s1_7],_,w3),⟨h,hw.tr r3.cI,hnext.rel r3 (bs w)⟩,Sub.gn [] r3,by dsimp only;omega⟩
 have h:i=xs.length:=aQ hi (by simpa using h);subst h;intro ρe we re;exact⟨_,rfl,hw.tr re.cI,hF.done (by simp[da]) (by unfold maxLen;omega) re (id:=0) rfl (re.nn 0 _ rfl (by intros;simp) (by simp))⟩
end Go.Ex
