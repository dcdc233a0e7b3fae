/- Texts X60 to X77: lemmas, each with its conditions. -/
import Derived.Test.YtgkpbdkechfgmaaGreatP8
namespace Go.Ex
open Go Go.Sx Go.Proofs
variable{S:Nat->Prop}
theorem Ju{x y:Int}(hx: -65535<=x∧x<=65535)(hy: -65535<=y∧y<=65535):(x*y).natAbs<=4294836225:=by
 rw[Int.natAbs_mul];exact Nat.mul_le_mul (show x.natAbs<=65535 by omega) (show y.natAbs<=65535 by omega)
theorem Cu{a b:List Int}{i k:Nat}(hk:k<=i+1)(h:i<k∨a.length<=k):iy a b i k=gQ a b i:=by
 rcases h with h|h
 ·rw[gQ,show i+1=k by omega]
 ·obtain⟨m,hm⟩:∃m,i+1=k+m:=⟨i+1-k,by omega⟩
  rw[gQ,hm,HF a b i k m h]
theorem jU{w:World}{v u:Value}{k l:Nat}{x y:Int}(hS:Old S w)(hx:fh w S v k x)(hy:fh w S u l y)(hk:k<=10000000)(hl:l<=10000000):
  eG PG N.AI #[v,u] w (eL w fun v' w2=>dS w2 (Nf w w2) v' (x*y)):=by
 have hw:=bR w;replace hx:=hx.cL (S':=Cv S w.heap.size []) fun _ h=>.inl h;replace hy:=hy.cL (S':=Cv S w.heap.size []) fun _ h=>.inl h;obtain⟨b1,a1,n1,c1,rfl⟩:=hx.shape;obtain⟨b2,a2,n2,c2,rfl⟩:=hy.shape;refine B3 (by simp) ?_;refine cQ hτ dx [.x 0,.x 2,.x 1,.x 3,.x 4,.x 5] (by kernel_rfl) (by kernel_rfl) ?_;refine cE hw (fun _ w' v w2=>∃cs,eD w2 (Nf w' w2) v cs∧Bh cs (2*k) (x)) (fun O w' r=>rT (Rel.old r hS) (hx.rel r hS) (by omega)) ?_;rintro O _ _ _ Og r he hw h_ ⟨ca,k1,bca⟩;replace hy:=hy.cK r hS he (mC h_);have Pc:=k1.dF (S:=FF) r.cG (mN h_);obtain⟨aca,cca,rfl,lca⟩:=Pc.shape;refine cE hw (fun _ w' v w2=>∃cs,eD w2 (Nf w' w2) v cs∧Bh cs (2*l) (y)) (fun O w' r=>rT (Rel.old r hS) (hy.rel r hS) (by omega)) ?_;rintro O _ _ _ OX r he hw h_ ⟨cb,k1,bcb⟩;replace Pc:=Pc.cK r (cF w) he (mC h_);have QT:=k1.dF (S:=FF) r.cG (mN h_);obtain⟨acb,ccb,rfl,lcb⟩:=QT.shape;have l1:=bca.2.1;have l2:=bcb.2.1
 refine⟨Nat×World,fun z=>⟨[(4,pP 2 0),(5,sV aca ca.length cca),(6,sV acb cb.length ccb),(7,.o (.w 3 z.1)),(8,iN z.1)],[(3,.vec T.int 1 (((List.range z.1).map (gQ ca cb)).map (Value.int .i64))),(2,.box T.Int [.v (.bool false),.v (.slice none 0 0)])],4,OX,z.2⟩,fun z=>ca.length+cb.length-z.1,
  fun z=>(z.1+1<=ca.length+cb.length∨z.1=0)∧dq w.heap.size w z.2∧eD z.2 (Cf w OX) (.slice aca ca.length cca) ca∧eD z.2 (Cf w OX) (.slice acb cb.length ccb) cb,?_,?_⟩
 ·intro O w' r
  exact⟨(0,w'),⟨by simp,hw.tr r.cU,Pc.rel r (cF w),QT.rel r (cF w)⟩,Sub.nil 7 T.int 1 rfl (by simp[kF,SV.sc,At.sc,fm]) r fun ρ1 r1=>
   Sub.gn [] r1⟩
 rintro⟨i,w1⟩ ⟨hi,hw,Pc,QT⟩;dsimp only at hi hw Pc QT ⊢;refine⟨((i+1:Nat):Int),wo,((ca.length+cb.length:Nat):Int),wo,?_⟩;refine dN.mk ?_ ?_<;>intro OU
 ·have OU:i+1<ca.length+cb.length:=by
   have:=aI OU;omega
  refine⟨(i:Int)-cb.length,wo,(i:Int)-cb.length+1,wo,?_⟩;conv=>whnf
  rw[show max 0 ((i:Int)-cb.length+1)=((i+1-cb.length:Nat):Int) by omega];obtain⟨k0,Tx⟩:∃k0,k0=i+1-cb.length:=⟨_,rfl⟩
  rw[<-Tx]
  refine⟨Nat×World,fun z=>⟨[(4,pP 2 0),(5,sV aca ca.length cca),(6,sV acb cb.length ccb),(7,.o (.w 3 i)),(8,iN i),(9,.o (.v (.int .i64 (iy ca cb i z.1)))),(10,iN z.1)],[(3,.vec T.int 1 (((List.range i).map (gQ ca cb)).map (Value.int .i64))),(2,.box T.Int [.v (.bool false),.v (.slice none 0 0)])],4,OX,z.2⟩,fun z=>i+1-z.1,
   fun z=>k0<=z.1∧z.1<=i+1∧dq w.heap.size w z.2∧eD z.2 (Cf w OX) (.slice aca ca.length cca) ca∧eD z.2 (Cf w OX) (.slice acb cb.length ccb) cb,?_,?_⟩
  ·intro O w' r;refine⟨(k0,w'),⟨by simp,by dsimp only;omega,hw.tr r.cU,Pc.rel r (cF w),QT.rel r (cF w)⟩,Sub.gn [] r (hE:=⟨rfl,rfl,rfl,rfl,rfl,?_,rfl,trivial⟩)⟩;dsimp only
   rw[HE ca cb i k0 k0 (fun j hj=>by omega) (by omega) (Nat.le_refl _)];rfl
  rintro⟨j,w2⟩ ⟨VF,hj1,hw,Pc,QT⟩;dsimp only at VF hj1 hw Pc QT ⊢;conv=>whnf
  refine dN.mk ?_ ?_<;>intro PZ
  ·have PZ:j<=i:=by
    have:=aI PZ;omega
   refine dN.mk ?_ ?_<;>intro WZ
   ·have WZ:j<ca.length:=by
     have:=aI WZ;omega
    obtain⟨p,hp⟩:∃p,ca[j]? =some p:=⟨_,aA WZ⟩
    obtain⟨q,hq⟩:∃q,cb[i-j]? =some q:=⟨_,aA (by omega)⟩
    obtain⟨ad,rfl,q1,q2⟩:=Pc.load hp;obtain⟨ad2,rfl,q3,q4⟩:=QT.load hq;have e1:ca.getD j 0=p:=by rw[List.getD,hp];rfl
    have e2:cb.getD (i-j) 0=q:=by rw[List.getD,hq];rfl
    have e3:iy ca cb i (j+1)=iy ca cb i j+p*q:=by rw[iy,e1,if_pos PZ,e2]
    have m1:=bca.at j;have m2:=bcb.at (i-j);rw[e1]at m1;rw[e2]at m2;have m3:=Ju m1 m2;have m4:=mS (a:=ca) (b:=cb) (i:=i) bca.2.2.1 bcb.2.2.1 j;refine cQ hτ dx [.x 0,.x 1,.x 2,.x 3,.x 4,.x 5,.x 6,.x 7,.x 8,.x 9,.x 10,.x 11,.x 12,.x 13] (by kernel_rfl) (by kernel_rfl) ?_;refine⟨ad,rfl,by omega,.int .i64 p,fun O w' r=>?_,?_⟩
    ·rw[aF,cI (w:=w2) (w2:=w') (by rw[dC];exact Rel.same (S:=FF) r (cF w) q1)];exact q2
    refine⟨((i-j:Nat):Int),wo,ad2,rfl,by omega,.int .i64 q,fun O w' r=>?_,?_⟩
    ·rw[aF,cI (w:=w2) (w2:=w') (by rw[dC];exact Rel.same (S:=FF) r (cF w) q3)];exact q4
    refine⟨p*q,wo,iy ca cb i (j+1),by rw[e3,wrap64]<;>omega,((j+1:Nat):Int),wo,?_⟩;intro ρ3 w3 r3;exact⟨(j+1,w3),⟨by dsimp only;omega,by dsimp only;omega,hw.tr r3.cU,Pc.rel r3 (cF w),QT.rel r3 (cF w)⟩,Sub.gn [] r3,by dsimp only;omega⟩
   have WZ:ca.length<=j:=by
    have:=aH WZ;omega
   rw[Cu hj1 (.inr WZ)];have m4:=mS (a:=ca) (b:=cb) (i:=i) bca.2.2.1 bcb.2.2.1 (i+1);refine .inl ?_;refine⟨by simp,by omega,by unfold maxLen;omega,((i+1:Nat):Int),wo,?_⟩;intro ρ3 w3 r3;have TE:((List.range (i+1)).map (gQ ca cb)).map (Value.int .i64)=((List.range i).map (gQ ca cb)).map (Value.int .i64)++[.int .i64 (gQ ca cb i)]:=by
    rw[bS,List.map_append,List.map_append];rfl
   exact⟨(i+1,w3),⟨.inl OU,hw.tr r3.cU,Pc.rel r3 (cF w),QT.rel r3 (cF w)⟩,Sub.gn [(3,5)] r3 ⟨by dsimp only;rw[TE];rfl,rfl,trivial⟩,by dsimp only;omega⟩
  have PZ:i<j:=by
   have:=aH PZ;omega
  rw[Cu hj1 (.inl PZ)];have m4:=mS (a:=ca) (b:=cb) (i:=i) bca.2.2.1 bcb.2.2.1 (i+1);refine .inl ?_;refine⟨by simp,by omega,by unfold maxLen;omega,((i+1:Nat):Int),wo,?_⟩;intro ρ3 w3 r3;have TE:((List.range (i+1)).map (gQ ca cb)).map (Value.int .i64)=((List.range i).map (gQ ca cb)).map (Value.int .i64)++[.int .i64 (gQ ca cb i)]:=by
   rw[bS,List.map_append,List.map_append];rfl
  exact⟨(i+1,w3),⟨.inl OU,hw.tr r3.cU,Pc.rel r3 (cF w),QT.rel r3 (cF w)⟩,Sub.gn [(3,5)] r3 ⟨by dsimp only;rw[TE];rfl,rfl,trivial⟩,by dsimp only;omega⟩
 have OU:ca.length+cb.length<=i+1:=by
  have:=aH OU;omega
 generalize PI:((List.range i).map (gQ ca cb))=cs;have hz:dW cs=x*y:=by
  rw[<-PI,AB,LQ ca cb i OU,bca.1,bcb.1]
 have hlen:i=cs.length:=by rw[<-PI];simp
 have Ow:∀c∈cs,-1152921504606846976<=c∧c<=1152921504606846976:=fun c hc=>by
  rw[<-PI]at hc;obtain⟨j,hj,rfl⟩:=aV.1 hc;have hj:=List.mem_range.1 hj;have:=mS (a:=ca) (b:=cb) (i:=j) bca.2.2.1 bcb.2.2.1 (j+1);rw[gQ];omega
 refine cH (cE hw (fun _ w' v w2=>dS w2 (Nf w' w2) v (x*y)) (fun O w' r=>nC r rfl hlen (by omega) Ow hz) ?_);rintro O _ _ _ Oh r he hw h_ hn;have hC:=hn.dF (S:=FF) r.cG (mN h_);obtain⟨A0,A1,A2,A3,rfl⟩:=hC.shape;exact rtn hw fun ρe we re=>hC.out re (cF w)
end Go.Ex
namespace Go.Ex
theorem Iz{b r r2 q X n c:Int}(h:X=b*q+r)(hr:r*65536+c=b*n+r2):c+65536*X=b*(n+65536*q)+r2:=by
 rw[h,Int.mul_add,Int.mul_add,Int.mul_left_comm b 65536 q];omega
theorem KR{x y Q R:Int}(hy:y≠0)(h:(x.natAbs:Int)=(y.natAbs:Int)*Q+R)(h0:0<=R)(h1:R<(y.natAbs:Int)):
  (if x<0∧0<R then(if (x<0)↔(y<0)then(Q+1)else -(Q+1))else(if (x<0)↔(y<0)then Q else -Q))=x / y∧(if x<0∧0<R then(y.natAbs:Int)-R else R)=x % y:=by
 have key:∀q r:Int,r+y*q=x->0<=r->r<(y.natAbs:Int)->q=x / y∧r=x % y:=by
  intro q r e1 e2 e3;have m:x % y=r:=by
   rw[<-e1,Int.add_mul_emod_self_left];rcases Int.lt_or_lt_of_ne hy with h|h
   ·rw[<-Int.emod_neg,Int.emod_eq_of_lt e2 (by omega)]
   ·exact Int.emod_eq_of_lt e2 (by omega)
  have d:=Int.mul_ediv_add_emod x y;rw[m]at d;exact⟨(Int.eq_of_mul_eq_mul_left hy (by omega)),m.symm⟩
 by_cases hx:x<0
 ·have ex:(x.natAbs:Int)= -x:=by omega
  by_cases hy':y<0
  ·have ey:(y.natAbs:Int)= -y:=by omega
   rw[ex,ey,Int.neg_mul]at h;by_cases hR:0<R
   ·rw[if_pos (show x<0∧0<R from⟨hx,hR⟩),if_pos (show x<0∧0<R from⟨hx,hR⟩),if_pos (show (x<0)↔(y<0) by simp[hx,hy'])];exact key _ _ (by rw[Int.mul_add,Int.mul_one];omega) (by omega) (by omega)
   ·rw[aJ (show ¬(x<0∧0<R) by omega),aJ (show ¬(x<0∧0<R) by omega),if_pos (show (x<0)↔(y<0) by simp[hx,hy'])];exact key _ _ (by omega) h0 h1
  ·have ey:(y.natAbs:Int)=y:=by omega
   rw[ex,ey]at h;have hn:¬((x<0)↔(y<0)):=by simp[hx,hy']
   by_cases hR:0<R
   ·rw[if_pos (show x<0∧0<R from⟨hx,hR⟩),if_pos (show x<0∧0<R from⟨hx,hR⟩),aJ hn];exact key _ _ (by rw[Int.mul_neg,Int.mul_add,Int.mul_one];omega) (by omega) (by omega)
   ·rw[aJ (show ¬(x<0∧0<R) by omega),aJ (show ¬(x<0∧0<R) by omega),aJ hn];exact key _ _ (by rw[Int.mul_neg];omega) h0 h1
 ·have ex:(x.natAbs:Int)=x:=by omega
  rw[aJ (show ¬(x<0∧0<R) by omega),aJ (show ¬(x<0∧0<R) by omega)];by_cases hy':y<0
  ·have ey:(y.natAbs:Int)= -y:=by omega
   rw[ex,ey,Int.neg_mul]at h;rw[aJ (show ¬((x<0)↔(y<0)) by simp[hx,hy'])];exact key _ _ (by rw[Int.mul_neg];omega) h0 h1
  ·have ey:(y.natAbs:Int)=y:=by omega
   rw[ex,ey]at h;rw[if_pos (show (x<0)↔(y<0) by simp[hx,hy'])];exact key _ _ (by omega) h0 h1
theorem gO(z:Int):(z<0∧z.sign= -1)∨(z=0∧z.sign=0)∨(0<z∧z.sign=1):=by
 rcases Int.lt_trichotomy z 0 with h|h|h
 ·exact .inl ⟨h,bl h⟩
 ·exact .inr (.inl ⟨h,by rw[h];rfl⟩)
 ·exact .inr (.inr ⟨h,bp h⟩)
end Go.Ex
namespace Go.Ex
open Go Go.Sx Go.Proofs
variable{x y:Int}{M:List (List Rat)}{css:List (List Value)}{Q:List Int}{xs ys:List Rat}{cs:List Value}{k:Nat}{S:Nat->Prop}{O:Nat->Sx.dw}{a:Option Addr}{b p q:Rat}{u:Value}{w:World}
def MZ:Value:=.agg #[.bool false,.slice none 0 0]
theorem dS.nil(w:World)(S:Nat->Prop):dS w S (.agg #[.bool false,.slice none 0 0]) 0:=⟨[],⟨_,rfl,dV.nil _ _⟩,fun x h=>by simp at h,rfl⟩
theorem aBB(h:∀c∈Q,0<=c∧c<=65535):0<=dW Q:=by
 induction Q with
 |nil=>exact Int.le_refl _
 |cons c r ih=>
  have h1:=h c aG;have h2:=ih fun x hx=>h x (aC _ hx);rw[dW];omega
theorem BM{n:Int}(h:0<=n)(h2:n<4294967296):ln n.natAbs<=1:=gT.2 (by show n.natAbs<4294967296^1;omega)
theorem Jv{v:Value}{l:Nat}(hS:Old S w)(hx:fh w S v k x)(hy:fh w S u l y)(hk:k<=1000000)(hl:l<=1000000):
  eG PG N.o6 #[v,u] w (eL w fun v' w2=>(y=0∧v'= .tuple #[MZ,MZ,.int .i64 9])∨(y≠0∧∃q r,v'= .tuple #[q,r,.int .i64 0]∧dS w2 (Nf w w2) q (x / y)∧dS w2 (Nf w w2) r (x % y))):=by
 have hw:=bR w;replace hx:=hx.cL (S':=Cv S w.heap.size []) fun _ h=>.inl h;replace hy:=hy.cL (S':=Cv S w.heap.size []) fun _ h=>.inl h;obtain⟨b1,a1,n1,c1,rfl⟩:=hx.shape;obtain⟨b2,a2,n2,c2,rfl⟩:=hy.shape;refine xz (by simp) ?_;have Qj:=hy.ln;refine cH (cE hw (fun _ w' v w2=>v= .int .i64 y.sign) (fun O w' r=>gw (Rel.old r hS) (hy.rel r hS).r) ?_);rintro O _ _ _ Og r he hw h_ rfl;replace hx:=hx.cK r hS he (mC h_);replace hy:=hy.cK r hS he (mC h_);refine dN.mk ?_ ?_<;>intro QH
 ·have QH:y=0:=by rcases gO y with h|h|h<;>simp[h]at QH ⊢
  exact rtn hw fun ρe we re=>.inl ⟨QH,rfl⟩
 have QH:y≠0:=fun e=>by rw[e]at QH;simp at QH
 refine cQ hτ dx [.x 0,.x 3,.p 5,.x 1,.x 2,.x 4,.x 5,.x 6,.x 7] (by kernel_rfl) (by kernel_rfl) ?_;refine cE hw (fun _ w' v w2=>dS w2 (Nf w' w2) v ((x.natAbs:Int))) (fun O w' r=>ye (Rel.old r hS) (hx.rel r hS) (by omega)) ?_;rintro O _ _ _ OX r he hw h_ hn;replace hx:=hx.cK r hS he (mC h_);replace hy:=hy.cK r hS he (mC h_);have hsx:=hn.dF (S:=FF) r.cG (mN h_);obtain⟨A0,A1,A2,A3,rfl⟩:=hsx.shape;have PO:=hx.ln;refine cE hw (fun _ w' v w2=>∃cs,eD w2 (Nf w' w2) v cs∧Bh cs (2*k) ((x.natAbs:Int))) (fun O w' r=>rT (Rel.old r (cF w)) ((hsx.rel r (cF w)).l (k:=k) (by rw[Int.natAbs_natCast];exact PO)) (by omega)) ?_;rintro O _ _ _ Oh r he hw h_ ⟨ca,k1,bca⟩;replace hx:=hx.cK r hS he (mC h_);replace hy:=hy.cK r hS he (mC h_);have Pc:=k1.dF (S:=FF) r.cG (mN h_);obtain⟨aca,cca,rfl,lca⟩:=Pc.shape;refine cE hw (fun _ w' v w2=>dS w2 (Nf w' w2) v ((y.natAbs:Int))) (fun O w' r=>ye (Rel.old r hS) (hy.rel r hS) (by omega)) ?_;rintro O _ _ _ On r he hw h_ hn;replace hx:=hx.cK r hS he (mC h_);replace hy:=hy.cK r hS he (mC h_);replace Pc:=Pc.cK r (cF w) he (mC h_);have Om:=hn.dF (S:=FF) r.cG (mN h_);obtain⟨C0,C1,C2,C3,rfl⟩:=Om.shape;generalize hB:(y.natAbs:Int)=B at*
 have l1:=bca.2.1;have hB0:0<B:=by omega
 have lB:ln B.natAbs<=l:=by rw[<-hB,Int.natAbs_natCast];exact Qj
 refine⟨(ca.length:Int)-1,wo,Nat×List Int×Int×(Bool×Option Addr×Nat×Nat)×World×Iv,fun z=>⟨[(2,pP 0 0),(3,pP 1 0),(4,pP 2 0),(5,pP 3 0),(6,iZ 0),(7,sV aca ca.length cca),(8,pP 4 0),(9,.o (.w 6 z.2.1.length)),(10,pP 5 0),(11,.o (.v (.int .i64 ((z.1:Int)-1))))],[(6,.vec T.int 1 (z.2.1.map (Value.int .i64))),(5,.box T.Int [.v (.bool z.2.2.2.1.1),.v (.slice z.2.2.2.1.2.1 z.2.2.2.1.2.2.1 z.2.2.2.1.2.2.2)]),(4,.box T.Int [.v (.bool C0),.v (.slice C1 C2 C3)]),(3,.box T.Int [.v (.bool false),.v (.slice none 0 0)]),(2,.box T.Int [.v (.bool false),.v (.slice none 0 0)]),(1,.box T.Int [.v (.bool b2),.v (.slice a2 n2 c2)]),(0,.box T.Int [.v (.bool b1),.v (.slice a1 n1 c1)])],7,z.2.2.2.2.2,z.2.2.2.2.1⟩,fun z=>z.1,
  fun z=>z.1<=ca.length∧z.2.1.length+z.1=ca.length∧(∀c∈z.2.1,0<=c∧c<=65535)∧dW (ca.drop z.1)=B*dW z.2.1+z.2.2.1∧0<=z.2.2.1∧z.2.2.1<B∧dq w.heap.size w z.2.2.2.2.1∧fh z.2.2.2.2.1 (Cv S w.heap.size z.2.2.2.2.2) (.agg #[.bool b1,.slice a1 n1 c1]) k x∧fh z.2.2.2.2.1 (Cv S w.heap.size z.2.2.2.2.2) (.agg #[.bool b2,.slice a2 n2 c2]) l y∧eD z.2.2.2.2.1 (Cf w z.2.2.2.2.2) (.slice aca ca.length cca) ca∧dS z.2.2.2.2.1 (Cf w z.2.2.2.2.2) (.agg #[.bool C0,.slice C1 C2 C3]) B∧dS z.2.2.2.2.1 (Cf w z.2.2.2.2.2) (.agg #[.bool z.2.2.2.1.1,.slice z.2.2.2.1.2.1 z.2.2.2.1.2.2.1 z.2.2.2.1.2.2.2]) z.2.2.1,?_,?_⟩
 ·intro O w' r
  exact⟨(ca.length,[],0,(false,none,0,0),w',On),⟨Nat.le_refl _,by simp,by simp,by simp[dW],Int.le_refl _,hB0,hw.tr r.cU,hx.rel r hS,hy.rel r hS,Pc.rel r (cF w),Om.rel r (cF w),dS.nil _ _⟩,Sub.nil 9 T.int 1 rfl (by simp[kF,SV.sc,At.sc]) r fun ρ1 r1=>
   Sub.gn [] r1⟩
 rintro⟨j,Q,R,⟨br,ar,nr,cr⟩,w1,iv⟩ ⟨hj,hQ,hd,hv,hR0,Vh,hw,hx,hy,Pc,Om,hr⟩;dsimp only at hj hQ hd hv hR0 Vh hw hx hy Pc Om hr ⊢;refine dN.mk ?_ ?_<;>intro OU
 ·obtain⟨i,rfl⟩:∃i,j=i+1:=⟨j-1,by have:(j:Int)-1≥0:=aI OU;omega⟩
  rw[show ((i+1:Nat):Int)-1=(i:Int) by omega];obtain⟨d,RW⟩:∃d,ca[i]? =some d:=⟨_,aA (by omega)⟩
  have Sh:=bca.2.2.1 d (aD RW);have Pg:=bca.2.2.2 (by omega) d (aD RW);have lR:ln R.natAbs<=l:=aX (fX (by omega)) lB;have lU:ln (65536:Int).natAbs<=1:=by decide
  have m1:=dE R 65536;have m2:=BM (n:=d) Pg (by omega);have m3:=jJ (R*65536) d;refine cQ hτ dx [.x 0,.x 3,.x 4,.x 5,.x 6,.x 1,.x 2,.x 7,.x 8,.x 9] (by kernel_rfl) (by kernel_rfl) ?_;obtain⟨ad,ha0,q1,q2⟩:=Pc.load RW;refine⟨ad,ha0,by omega,.int .i64 d,fun O w' r=>?_,?_⟩
  ·rw[aF,cI (w:=w1) (w2:=w') (by rw[dC];exact Rel.same (S:=FF) r (cF w) q1)];exact q2
  refine cE hw (fun _ w' v w2=>dS w2 (Nf w' w2) v (65536)) (fun O w' r=>mi _ w' (by decide) (by decide)) ?_;rintro O Tf v5 UH PN r he hw h_ hn;replace hx:=hx.cK r hS he (mC h_);replace hy:=hy.cK r hS he (mC h_);replace Pc:=Pc.cK r (cF w) he (mC h_);replace Om:=Om.cK r (cF w) he (mC h_);replace hr:=hr.cK r (cF w) he (mC h_);have hu:=hn.dF (S:=FF) r.cG (mN h_);obtain⟨E0,E1,E2,E3,rfl⟩:=hu.shape;refine cE hw (fun _ w' v w2=>dS w2 (Nf w' w2) v (R*65536)) (fun O w' r=>jU (Rel.old r (cF w)) ((hr.rel r (cF w)).l (k:=1000001) (by omega)) ((hu.rel r (cF w)).l (k:=1000001) (by omega)) (by omega) (by omega)) ?_;rintro O SQ v6 S6 RI r he hw h_ hn;replace hx:=hx.cK r hS he (mC h_);replace hy:=hy.cK r hS he (mC h_);replace Pc:=Pc.cK r (cF w) he (mC h_);replace Om:=Om.cK r (cF w) he (mC h_);have hp:=hn.dF (S:=FF) r.cG (mN h_);obtain⟨F0,F1,F2,F3,rfl⟩:=hp.shape;refine cE hw (fun _ w' v w2=>dS w2 (Nf w' w2) v (d)) (fun O w' r=>mi _ w' (by omega) (by omega)) ?_;rintro O XU v7 XV RR r he hw h_ hn;replace hx:=hx.cK r hS he (mC h_);replace hy:=hy.cK r hS he (mC h_);replace Pc:=Pc.cK r (cF w) he (mC h_);replace Om:=Om.cK r (cF w) he (mC h_);replace hp:=hp.cK r (cF w) he (mC h_);have hdd:=hn.dF (S:=FF) r.cG (mN h_);obtain⟨G0,G1,G2,G3,rfl⟩:=hdd.shape;refine cE hw (fun _ w' v w2=>dS w2 (Nf w' w2) v (R*65536+d)) (fun O w' r=>BL (Rel.old r (cF w)) ((hp.rel r (cF w)).l (k:=1000002) (by omega)) ((hdd.rel r (cF w)).l (k:=1000002) (by omega)) (by omega) (by omega)) ?_;rintro O Uu v8 VZ SP r he hw h_ hn;replace hx:=hx.cK r hS he (mC h_);replace hy:=hy.cK r hS he (mC h_);replace Pc:=Pc.cK r (cF w) he (mC h_);replace Om:=Om.cK r (cF w) he (mC h_);have hr:=hn.dF (S:=FF) r.cG (mN h_);obtain⟨J0,J1,J2,J3,rfl⟩:=hr.shape;generalize Ri:R*65536+d=R2 at*
  have hR20:0<=R2:=by omega
  have hR21:R2<65536*B:=by omega
  refine⟨Nat×Nat×Nat×World×Iv,fun z=>⟨[(2,pP 0 0),(3,pP 1 0),(4,pP 2 0),(5,pP 3 0),(6,iZ 0),(7,sV aca ca.length cca),(8,pP 4 0),(9,.o (.w 6 Q.length)),(10,pP 5 0),(11,.o (.v (.int .i64 ((i:Int))))),(12,iN z.1),(13,iN z.2.2.1)],[(6,.vec T.int 1 (Q.map (Value.int .i64))),(5,.box T.Int [.v (.bool J0),.v (.slice J1 J2 J3)]),(4,.box T.Int [.v (.bool C0),.v (.slice C1 C2 C3)]),(3,.box T.Int [.v (.bool false),.v (.slice none 0 0)]),(2,.box T.Int [.v (.bool false),.v (.slice none 0 0)]),(1,.box T.Int [.v (.bool b2),.v (.slice a2 n2 c2)]),(0,.box T.Int [.v (.bool b1),.v (.slice a1 n1 c1)])],7,z.2.2.2.2,z.2.2.2.1⟩,fun z=>z.2.1,
   fun z=>z.2.2.1=2^z.2.1 / 2∧z.1+2^z.2.1<=65536∧((z.1:Nat):Int)*B<=R2∧R2<((z.1+2^z.2.1:Nat):Int)*B∧dq w.heap.size w z.2.2.2.1∧fh z.2.2.2.1 (Cv S w.heap.size z.2.2.2.2) (.agg #[.bool b1,.slice a1 n1 c1]) k x∧fh z.2.2.2.1 (Cv S w.heap.size z.2.2.2.2) (.agg #[.bool b2,.slice a2 n2 c2]) l y∧eD z.2.2.2.1 (Cf w z.2.2.2.2) (.slice aca ca.length cca) ca∧dS z.2.2.2.1 (Cf w z.2.2.2.2) (.agg #[.bool C0,.slice C1 C2 C3]) B∧dS z.2.2.2.1 (Cf w z.2.2.2.2) (.agg #[.bool J0,.slice J1 J2 J3]) R2,?_,?_⟩
  ·intro O w' r
   exact⟨(0,16,32768,w',SP),⟨by show 32768=2^16 / 2;decide,by show 0+2^16<=65536;decide,by dsimp only;omega,by dsimp only;rw[show ((0+2^16:Nat):Int)=65536 from rfl];exact hR21,hw.tr r.cU,hx.rel r hS,hy.rel r hS,Pc.rel r (cF w),Om.rel r (cF w),hr.rel r (cF w)⟩,
    Sub.gn [] r⟩
  rintro⟨n,e,bit,w5,iv⟩ ⟨hn0,WK,Rx,WQ,hw,hx,hy,Pc,Om,hr⟩;dsimp only at hn0 WK Rx WQ hw hx hy Pc Om hr ⊢;refine dN.mk ?_ ?_<;>intro Uj
  ·have Uj:0<2^e / 2:=by have:((bit:Nat):Int)>0:=aI Uj;omega
   obtain⟨f,rfl⟩:∃f,e=f+1:=by
    cases e with
    |zero=>exact absurd Uj (by decide)
    |succ f=>exact⟨f,rfl⟩
   have e1:2^(f+1)=2*2^f:=by rw[Nat.pow_succ];omega
   have e2:2^(f+1) / 2=2^f:=by omega
   obtain rfl:bit=2^f:=by omega
   rw[e1]at WK WQ;have hp0:=bu f;generalize hp:2^f=p at*
   have m4:=BM (n:=((n+p:Nat):Int)) (by omega) (by omega);have m5:=dE B ((n+p:Nat):Int);have m6:ln R2.natAbs<=l+1:=by
    refine aX (fX (b:=((65536:Int)*B).natAbs) (by omega)) ?_;have:=dE 65536 B;omega
   refine cQ hτ dx [.x 0,.x 1,.x 2,.x 3,.x 6,.x 4,.x 5,.x 7,.x 8] (by kernel_rfl) (by kernel_rfl) ?_;refine⟨((n+p:Nat):Int),wo,?_⟩;refine cE hw (fun _ w' v w2=>dS w2 (Nf w' w2) v (((n+p:Nat):Int))) (fun O w' r=>mi _ w' (by omega) (by omega)) ?_;rintro O Ti v9 UI TL r he hw h_ hn;replace hx:=hx.cK r hS he (mC h_);replace hy:=hy.cK r hS he (mC h_);replace Pc:=Pc.cK r (cF w) he (mC h_);replace Om:=Om.cK r (cF w) he (mC h_);replace hr:=hr.cK r (cF w) he (mC h_);have hu:=hn.dF (S:=FF) r.cG (mN h_);obtain⟨K0,K1,K2,K3,rfl⟩:=hu.shape;refine cE hw (fun _ w' v w2=>dS w2 (Nf w' w2) v (B*((n+p:Nat):Int))) (fun O w' r=>jU (Rel.old r (cF w)) ((Om.rel r (cF w)).l (k:=1000001) (by omega)) ((hu.rel r (cF w)).l (k:=1000001) (by omega)) (by omega) (by omega)) ?_;rintro O Wr v10 Ws Tk r he hw h_ hn;replace hx:=hx.cK r hS he (mC h_);replace hy:=hy.cK r hS he (mC h_);replace Pc:=Pc.cK r (cF w) he (mC h_);replace Om:=Om.cK r (cF w) he (mC h_);replace hr:=hr.cK r (cF w) he (mC h_);have Q6:=hn.dF (S:=FF) r.cG (mN h_);obtain⟨N0,N1,N2,N3,rfl⟩:=Q6.shape;refine cE hw (fun _ w' v w2=>v= .int .i64 (B*((n+p:Nat):Int)-R2).sign) (fun O w' r=>Jt (Rel.old r (cF w)) ((Q6.rel r (cF w)).l (k:=1000001) (by omega)) ((hr.rel r (cF w)).l (k:=1000001) (by omega)) (by omega) (by omega)) ?_;rintro O SR v11 Si RS r he hw h_ rfl;replace hx:=hx.cK r hS he (mC h_);replace hy:=hy.cK r hS he (mC h_);replace Pc:=Pc.cK r (cF w) he (mC h_);replace Om:=Om.cK r (cF w) he (mC h_);replace hr:=hr.cK r (cF w) he (mC h_);have hs:=gO (B*((n+p:Nat):Int)-R2);refine dN.mk ?_ ?_<;>intro hle
   ·have hle:=aI hle;have Ve:((n+p:Nat):Int)*B<=R2:=by rw[Int.mul_comm];omega
    refine⟨((n+p:Nat):Int),wo,by decide,((2^f / 2:Nat):Int),by rw[hp,show((p:Nat):Int).tdiv 2=((p / 2:Nat):Int)from rfl,wrap64]<;>omega,?_⟩;intro ρ3 w3 r3;exact⟨(n+p,f,2^f / 2,w3,_),⟨rfl,by dsimp only;omega,Ve,by dsimp only;rw[hp,show n+p+p=n+2*p by omega];exact WQ,hw.tr r3.cU,hx.rel r3 hS,hy.rel r3 hS,Pc.rel r3 (cF w),Om.rel r3 (cF w),hr.rel r3 (cF w)⟩,Sub.gn [] r3,by dsimp only;omega⟩
   have hle:=aH hle;have Ve:R2<((n+p:Nat):Int)*B:=by rw[Int.mul_comm];omega
   refine⟨by decide,((2^f / 2:Nat):Int),by rw[hp,show((p:Nat):Int).tdiv 2=((p / 2:Nat):Int)from rfl,wrap64]<;>omega,?_⟩;intro ρ3 w3 r3;exact⟨(n,f,2^f / 2,w3,_),⟨rfl,by dsimp only;omega,Rx,by dsimp only;rw[hp];exact Ve,hw.tr r3.cU,hx.rel r3 hS,hy.rel r3 hS,Pc.rel r3 (cF w),Om.rel r3 (cF w),hr.rel r3 (cF w)⟩,Sub.gn [] r3,by dsimp only;omega⟩
  have Uj:¬0<2^e / 2:=by have:¬((bit:Nat):Int)>0:=aH Uj;omega
  obtain rfl:e=0:=by
   cases e with
   |zero=>rfl
   |succ f=>exact absurd (show 0<2^(f+1) / 2 by rw[Nat.pow_succ];have:=bu f;omega) Uj
  rw[show n+2^0=n+1 from rfl]at WK WQ;rw[Int.natCast_add,Int.add_mul]at WQ;rw[Int.mul_comm]at Rx;rw[Int.mul_comm]at WQ;have m4:=BM (n:=((n:Nat):Int)) (by omega) (by omega);have m5:=dE B ((n:Nat):Int);have m6:ln R2.natAbs<=l+1:=by
   refine aX (fX (b:=((65536:Int)*B).natAbs) (by omega)) ?_;have:=dE 65536 B;omega
  refine cQ hτ dx [.x 0,.x 1,.x 2,.x 3,.x 4,.x 5,.x 6] (by kernel_rfl) (by kernel_rfl) ?_;refine cE hw (fun _ w' v w2=>dS w2 (Nf w' w2) v (((n:Nat):Int))) (fun O w' r=>mi _ w' (by omega) (by omega)) ?_;rintro O Ti v9 UI TL r he hw h_ hn;replace hx:=hx.cK r hS he (mC h_);replace hy:=hy.cK r hS he (mC h_);replace Pc:=Pc.cK r (cF w) he (mC h_);replace Om:=Om.cK r (cF w) he (mC h_);replace hr:=hr.cK r (cF w) he (mC h_);have hu:=hn.dF (S:=FF) r.cG (mN h_);obtain⟨K0,K1,K2,K3,rfl⟩:=hu.shape;refine cE hw (fun _ w' v w2=>dS w2 (Nf w' w2) v (B*((n:Nat):Int))) (fun O w' r=>jU (Rel.old r (cF w)) ((Om.rel r (cF w)).l (k:=1000001) (by omega)) ((hu.rel r (cF w)).l (k:=1000001) (by omega)) (by omega) (by omega)) ?_;rintro O Wr v10 Ws Tk r he hw h_ hn;replace hx:=hx.cK r hS he (mC h_);replace hy:=hy.cK r hS he (mC h_);replace Pc:=Pc.cK r (cF w) he (mC h_);replace Om:=Om.cK r (cF w) he (mC h_);replace hr:=hr.cK r (cF w) he (mC h_);have Q6:=hn.dF (S:=FF) r.cG (mN h_);obtain⟨N0,N1,N2,N3,rfl⟩:=Q6.shape;refine cE hw (fun _ w' v w2=>dS w2 (Nf w' w2) v (R2-B*((n:Nat):Int))) (fun O w' r=>EI (Rel.old r (cF w)) ((hr.rel r (cF w)).l (k:=1000002) (by omega)) ((Q6.rel r (cF w)).l (k:=1000002) (by omega)) (by omega) (by omega)) ?_;rintro O SR v11 Si RS r he hw h_ hn;replace hx:=hx.cK r hS he (mC h_);replace hy:=hy.cK r hS he (mC h_);replace Pc:=Pc.cK r (cF w) he (mC h_);replace Om:=Om.cK r (cF w) he (mC h_);have Vf:=hn.dF (S:=FF) r.cG (mN h_);obtain⟨O0,O1,O2,O3,rfl⟩:=Vf.shape;generalize hR3:R2-B*((n:Nat):Int)=R3 at*
  refine .inl ?_;refine⟨by rw[aL,aZ],fun u hu=>by obtain⟨_,_,rfl⟩:=aV.1 hu;rfl,rfl,by omega,by unfold maxLen;omega,(i:Int)-1,wo,?_⟩;intro ρ3 w3 r3;have Rb:dW (ca.drop i)=B*dW (((n:Nat):Int)::Q)+R3:=by
   rw[FU RW,dW];exact Iz hv (by rw[<-hR3,<-Ri];omega)
  exact⟨(i,((n:Nat):Int)::Q,R3,(O0,O1,O2,O3),w3,_),⟨by dsimp only;omega,by dsimp only;rw[List.length_cons];omega,fun c hc=>by
    rcases List.mem_cons.1 hc with rfl|hc
    ·omega
    ·exact hd c hc,Rb,by dsimp only;omega,by dsimp only;omega,hw.tr r3.cU,hx.rel r3 hS,hy.rel r3 hS,Pc.rel r3 (cF w),Om.rel r3 (cF w),Vf.rel r3 (cF w)⟩,
   Sub.gn [(6,8)] r3 (hE:=⟨rfl,rfl,rfl,rfl,rfl,rfl,rfl,by dsimp only;rw[show (((n:Nat):Int)::Q).length=1+Q.length by rw[List.length_cons,Nat.add_comm]];rfl,rfl,rfl,trivial⟩),by dsimp only;omega⟩
 obtain rfl:j=0:=by have:¬(j:Int)-1≥0:=aH OU;omega
 rw[List.drop_zero,bca.1]at hv;rw[<-hB]at hv Vh;have key:=KR QH hv hR0 Vh;rw[hB]at key hv Vh;have lq:ln (dW Q).natAbs<=k+1:=by
  have h1:=aBB hd;have h2:1*dW Q<=B*dW Q:=Int.mul_le_mul_of_nonneg_right (by omega) h1;exact aX (fX (b:=x.natAbs) (by omega)) (by omega)
 have lR:ln R.natAbs<=l:=aX (fX (by omega)) lB;have sx:=gO x;have sy:=gO y;have sr:=gO R;refine cH (cE hw (fun _ w' v w2=>dS w2 (Nf w' w2) v (dW Q)) (fun O w' r=>nC r rfl rfl (by omega) (fun c hc=>by have:=hd c hc;omega) rfl) ?_);rintro O _ _ _ PN r he hw h_ hn;replace hx:=hx.cK r hS he (mC h_);replace hy:=hy.cK r hS he (mC h_);replace Om:=Om.cK r (cF w) he (mC h_);replace hr:=hr.cK r (cF w) he (mC h_);have hq:=hn.dF (S:=FF) r.cG (mN h_);obtain⟨E0,E1,E2,E3,rfl⟩:=hq.shape;refine cH (cE hw (fun _ w' v w2=>v= .int .i64 x.sign) (fun O w' r=>gw (Rel.old r hS) (hx.rel r hS).r) ?_);rintro O _ _ _ RI r he hw h_ rfl;replace hx:=hx.cK r hS he (mC h_);replace hy:=hy.cK r hS he (mC h_);replace Om:=Om.cK r (cF w) he (mC h_);replace hr:=hr.cK r (cF w) he (mC h_);replace hq:=hq.cK r (cF w) he (mC h_);refine dN.mk ?_ ?_<;>intro hxs
 ·have hxs:=aI hxs;refine cH (cE hw (fun _ w' v w2=>v= .int .i64 R.sign) (fun O w' r=>gw (Rel.old r (cF w)) (hr.rel r (cF w)).r) ?_);rintro O XU v7 XV RR r he hw h_ rfl;replace hx:=hx.cK r hS he (mC h_);replace hy:=hy.cK r hS he (mC h_);replace Om:=Om.cK r (cF w) he (mC h_);replace hr:=hr.cK r (cF w) he (mC h_);replace hq:=hq.cK r (cF w) he (mC h_);refine dN.mk ?_ ?_<;>intro WS
  ·have WS:=aI WS;rw[if_pos (show x<0∧0<R by omega),if_pos (show x<0∧0<R by omega)]at key;have m7:=jJ (dW Q) 1;have m8:ln (1:Int).natAbs<=1:=by decide
   have m9:ln (B-R).natAbs<=l:=aX (fX (by omega)) lB;refine cQ hτ dx [.x 0,.x 3,.x 4,.x 1,.x 2,.x 5,.x 6,.x 7] (by kernel_rfl) (by kernel_rfl) ?_;refine cE hw (fun _ w' v w2=>dS w2 (Nf w' w2) v (1)) (fun O w' r=>mi _ w' (by omega) (by omega)) ?_;rintro O Uu v8 VZ SP r he hw h_ hn;replace hx:=hx.cK r hS he (mC h_);replace hy:=hy.cK r hS he (mC h_);replace Om:=Om.cK r (cF w) he (mC h_);replace hr:=hr.cK r (cF w) he (mC h_);replace hq:=hq.cK r (cF w) he (mC h_);have hu:=hn.dF (S:=FF) r.cG (mN h_);obtain⟨J0,J1,J2,J3,rfl⟩:=hu.shape;refine cE hw (fun _ w' v w2=>dS w2 (Nf w' w2) v (dW Q+1)) (fun O w' r=>BL (Rel.old r (cF w)) ((hq.rel r (cF w)).l (k:=1000003) (by omega)) ((hu.rel r (cF w)).l (k:=1000003) (by omega)) (by omega) (by omega)) ?_;rintro O Ti v9 UI TL r he hw h_ hn;replace hx:=hx.cK r hS he (mC h_);replace hy:=hy.cK r hS he (mC h_);replace Om:=Om.cK r (cF w) he (mC h_);replace hr:=hr.cK r (cF w) he (mC h_);have Qb:=hn.dF (S:=FF) r.cG (mN h_);obtain⟨K0,K1,K2,K3,rfl⟩:=Qb.shape;refine cE hw (fun _ w' v w2=>dS w2 (Nf w' w2) v (B-R)) (fun O w' r=>EI (Rel.old r (cF w)) ((Om.rel r (cF w)).l (k:=1000003) (by omega)) ((hr.rel r (cF w)).l (k:=1000003) (by omega)) (by omega) (by omega)) ?_;rintro O Wr v10 Ws Tk r he hw h_ hn;replace hx:=hx.cK r hS he (mC h_);replace hy:=hy.cK r hS he (mC h_);replace Qb:=Qb.cK r (cF w) he (mC h_);have SH:=hn.dF (S:=FF) r.cG (mN h_);obtain⟨N0,N1,N2,N3,rfl⟩:=SH.shape;refine cQ hτ dx [.x 0,.x 3,.x 1,.x 2,.x 4,.x 5,.x 6] (by kernel_rfl) (by kernel_rfl) ?_;refine cE hw (fun _ w' v w2=>v= .int .i64 x.sign) (fun O w' r=>gw (Rel.old r hS) (hx.rel r hS).r) ?_;rintro O _ _ _ RS r he hw h_ rfl;replace hy:=hy.cK r hS he (mC h_);replace Qb:=Qb.cK r (cF w) he (mC h_);replace SH:=SH.cK r (cF w) he (mC h_);refine cE hw (fun _ w' v w2=>v= .int .i64 y.sign) (fun O w' r=>gw (Rel.old r hS) (hy.rel r hS).r) ?_;rintro O _ _ _ Va r he hw h_ rfl;replace Qb:=Qb.cK r (cF w) he (mC h_);replace SH:=SH.cK r (cF w) he (mC h_);refine dN.mk ?_ ?_<;>intro OY
   ·have hn:¬((x<0)↔(y<0)):=fun e=>by
     have e2:decide (x.sign<0)=decide (y.sign<0):=decide_eq_decide.2 (by omega);rw[e2]at OY;simp at OY
    rw[aJ hn]at key;refine cH (cE hw (fun _ w' v w2=>dS w2 (Nf w' w2) v (-(dW Q+1))) (fun O w' r=>oA (Rel.old r (cF w)) ((Qb.rel r (cF w)).l (k:=1000003) (by omega)) (by omega)) ?_);rintro O _ _ _ iv13 r he hw h_ hn;replace SH:=SH.cK r (cF w) he (mC h_);have St:=hn.dF (S:=FF) r.cG (mN h_);obtain⟨P0,P1,P2,P3,rfl⟩:=St.shape;refine jD hτ dx (.two 0 (.two 1 (.one 2 (.one 3 (.one 4 .nil))) 2 (.one 1 (.one 3 (.one 4 .nil)))) 1 (.one 0 (.one 2 (.one 3 (.one 4 .nil))))) (by kernel_rfl) ?_;refine⟨?_,?_⟩
    ·refine⟨?_,?_⟩
     ·exact rtn hw fun ρe we re=>.inr ⟨QH,_,_,rfl,key.1▸St.out re (cF w),key.2▸SH.out re (cF w)⟩
     ·exact rtn hw fun ρe we re=>.inr ⟨QH,_,_,rfl,key.1▸St.out re (cF w),key.2▸SH.out re (cF w)⟩
    ·exact rtn hw fun ρe we re=>.inr ⟨QH,_,_,rfl,key.1▸St.out re (cF w),key.2▸SH.out re (cF w)⟩
   have hn:(x<0)↔(y<0):=by
    have e2:decide (x.sign<0)=decide (y.sign<0):=by simpa using OY
    have:=decide_eq_decide.1 e2;omega
   rw[if_pos hn]at key;refine jD hτ dx (.two 0 (.two 1 (.one 2 (.one 3 (.one 4 .nil))) 2 (.one 1 (.one 3 (.one 4 .nil)))) 1 (.one 0 (.one 2 (.one 3 (.one 4 .nil))))) (by kernel_rfl) ?_;refine⟨?_,?_⟩
   ·refine⟨?_,?_⟩
    ·exact rtn hw fun ρe we re=>.inr ⟨QH,_,_,rfl,key.1▸Qb.out re (cF w),key.2▸SH.out re (cF w)⟩
    ·exact rtn hw fun ρe we re=>.inr ⟨QH,_,_,rfl,key.1▸Qb.out re (cF w),key.2▸SH.out re (cF w)⟩
   ·exact rtn hw fun ρe we re=>.inr ⟨QH,_,_,rfl,key.1▸Qb.out re (cF w),key.2▸SH.out re (cF w)⟩
  have WS:=aH WS;rw[aJ (show ¬(x<0∧0<R) by omega),aJ (show ¬(x<0∧0<R) by omega)]at key;refine cQ hτ dx [.x 0,.x 3,.x 1,.x 2,.x 4,.x 5,.x 6] (by kernel_rfl) (by kernel_rfl) ?_;refine cE hw (fun _ w' v w2=>v= .int .i64 x.sign) (fun O w' r=>gw (Rel.old r hS) (hx.rel r hS).r) ?_;rintro O Uu v8 VZ SP r he hw h_ rfl;replace hy:=hy.cK r hS he (mC h_);replace Om:=Om.cK r (cF w) he (mC h_);replace hr:=hr.cK r (cF w) he (mC h_);replace hq:=hq.cK r (cF w) he (mC h_);refine cE hw (fun _ w' v w2=>v= .int .i64 y.sign) (fun O w' r=>gw (Rel.old r hS) (hy.rel r hS).r) ?_;rintro O Ti v9 UI TL r he hw h_ rfl;replace Om:=Om.cK r (cF w) he (mC h_);replace hr:=hr.cK r (cF w) he (mC h_);replace hq:=hq.cK r (cF w) he (mC h_);refine dN.mk ?_ ?_<;>intro OY
  ·have hn:¬((x<0)↔(y<0)):=fun e=>by
    have e2:decide (x.sign<0)=decide (y.sign<0):=decide_eq_decide.2 (by omega);rw[e2]at OY;simp at OY
   rw[aJ hn]at key;refine cH (cE hw (fun _ w' v w2=>dS w2 (Nf w' w2) v (-(dW Q))) (fun O w' r=>oA (Rel.old r (cF w)) ((hq.rel r (cF w)).l (k:=1000003) (by omega)) (by omega)) ?_);rintro O _ _ _ Tk r he hw h_ hn;replace Om:=Om.cK r (cF w) he (mC h_);replace hr:=hr.cK r (cF w) he (mC h_);have St:=hn.dF (S:=FF) r.cG (mN h_);obtain⟨N0,N1,N2,N3,rfl⟩:=St.shape;refine jD hτ dx (.two 0 (.two 1 (.one 2 (.one 3 (.one 4 .nil))) 2 (.one 1 (.one 3 (.one 4 .nil)))) 1 (.one 0 (.one 2 (.one 3 (.one 4 .nil))))) (by kernel_rfl) ?_;refine⟨?_,?_⟩
   ·refine⟨?_,?_⟩
    ·exact rtn hw fun ρe we re=>.inr ⟨QH,_,_,rfl,key.1▸St.out re (cF w),key.2▸hr.out re (cF w)⟩
    ·exact rtn hw fun ρe we re=>.inr ⟨QH,_,_,rfl,key.1▸St.out re (cF w),key.2▸hr.out re (cF w)⟩
   ·exact rtn hw fun ρe we re=>.inr ⟨QH,_,_,rfl,key.1▸St.out re (cF w),key.2▸hr.out re (cF w)⟩
  have hn:(x<0)↔(y<0):=by
   have e2:decide (x.sign<0)=decide (y.sign<0):=by simpa using OY
   have:=decide_eq_decide.1 e2;omega
  rw[if_pos hn]at key;refine jD hτ dx (.two 0 (.two 1 (.one 2 (.one 3 (.one 4 .nil))) 2 (.one 1 (.one 3 (.one 4 .nil)))) 1 (.one 0 (.one 2 (.one 3 (.one 4 .nil))))) (by kernel_rfl) ?_;refine⟨?_,?_⟩
  ·refine⟨?_,?_⟩
   ·exact rtn hw fun ρe we re=>.inr ⟨QH,_,_,rfl,key.1▸hq.out re (cF w),key.2▸hr.out re (cF w)⟩
   ·exact rtn hw fun ρe we re=>.inr ⟨QH,_,_,rfl,key.1▸hq.out re (cF w),key.2▸hr.out re (cF w)⟩
  ·exact rtn hw fun ρe we re=>.inr ⟨QH,_,_,rfl,key.1▸hq.out re (cF w),key.2▸hr.out re (cF w)⟩
 have hxs:=aH hxs;rw[aJ (show ¬(x<0∧0<R) by omega),aJ (show ¬(x<0∧0<R) by omega)]at key;refine cQ hτ dx [.x 0,.x 3,.x 1,.x 2,.x 4,.x 5,.x 6] (by kernel_rfl) (by kernel_rfl) ?_;refine cE hw (fun _ w' v w2=>v= .int .i64 x.sign) (fun O w' r=>gw (Rel.old r hS) (hx.rel r hS).r) ?_;rintro O _ _ _ RR r he hw h_ rfl;replace hy:=hy.cK r hS he (mC h_);replace Om:=Om.cK r (cF w) he (mC h_);replace hr:=hr.cK r (cF w) he (mC h_);replace hq:=hq.cK r (cF w) he (mC h_);refine cE hw (fun _ w' v w2=>v= .int .i64 y.sign) (fun O w' r=>gw (Rel.old r hS) (hy.rel r hS).r) ?_;rintro O _ _ _ SP r he hw h_ rfl;replace Om:=Om.cK r (cF w) he (mC h_);replace hr:=hr.cK r (cF w) he (mC h_);replace hq:=hq.cK r (cF w) he (mC h_);refine dN.mk ?_ ?_<;>intro OY
 ·have hn:¬((x<0)↔(y<0)):=fun e=>by
   have e2:decide (x.sign<0)=decide (y.sign<0):=decide_eq_decide.2 (by omega);rw[e2]at OY;simp at OY
  rw[aJ hn]at key;refine cH (cE hw (fun _ w' v w2=>dS w2 (Nf w' w2) v (-(dW Q))) (fun O w' r=>oA (Rel.old r (cF w)) ((hq.rel r (cF w)).l (k:=1000003) (by omega)) (by omega)) ?_);rintro O _ _ _ TL r he hw h_ hn;replace Om:=Om.cK r (cF w) he (mC h_);replace hr:=hr.cK r (cF w) he (mC h_);have St:=hn.dF (S:=FF) r.cG (mN h_);obtain⟨K0,K1,K2,K3,rfl⟩:=St.shape;refine jD hτ dx (.two 0 (.two 1 (.one 2 (.one 3 (.one 4 .nil))) 2 (.one 1 (.one 3 (.one 4 .nil)))) 1 (.one 0 (.one 2 (.one 3 (.one 4 .nil))))) (by kernel_rfl) ?_;refine⟨?_,?_⟩
  ·refine⟨?_,?_⟩
   ·exact rtn hw fun ρe we re=>.inr ⟨QH,_,_,rfl,key.1▸St.out re (cF w),key.2▸hr.out re (cF w)⟩
   ·exact rtn hw fun ρe we re=>.inr ⟨QH,_,_,rfl,key.1▸St.out re (cF w),key.2▸hr.out re (cF w)⟩
  ·exact rtn hw fun ρe we re=>.inr ⟨QH,_,_,rfl,key.1▸St.out re (cF w),key.2▸hr.out re (cF w)⟩
 have hn:(x<0)↔(y<0):=by
  have e2:decide (x.sign<0)=decide (y.sign<0):=by simpa using OY
  have:=decide_eq_decide.1 e2;omega
 rw[if_pos hn]at key;refine jD hτ dx (.two 0 (.two 1 (.one 2 (.one 3 (.one 4 .nil))) 2 (.one 1 (.one 3 (.one 4 .nil)))) 1 (.one 0 (.one 2 (.one 3 (.one 4 .nil))))) (by kernel_rfl) ?_;refine⟨?_,?_⟩
 ·refine⟨?_,?_⟩
  ·exact rtn hw fun ρe we re=>.inr ⟨QH,_,_,rfl,key.1▸hq.out re (cF w),key.2▸hr.out re (cF w)⟩
  ·exact rtn hw fun ρe we re=>.inr ⟨QH,_,_,rfl,key.1▸hq.out re (cF w),key.2▸hr.out re (cF w)⟩
 ·exact rtn hw fun ρe we re=>.inr ⟨QH,_,_,rfl,key.1▸hq.out re (cF w),key.2▸hr.out re (cF w)⟩
theorem jV{v:Value}{l:Nat}(hS:Old S w)(hx:fh w S v k x)(hy:fh w S u l y)(hk:k<=1000000)(hl:l<=1000000)(h0:y≠0):
  eG PG N.o6 #[v,u] w (eL w fun v' w2=>∃q r,v'= .tuple #[q,r,.int .i64 0]∧dS w2 (Nf w w2) q (x / y)∧dS w2 (Nf w w2) r (x % y)):=
 (Jv hS hx hy hk hl).mono fun _ _ ⟨v2,e1,e2,e3⟩=>⟨v2,e1,e2,e3.elim (fun h=>absurd h.1 h0) fun h=>h.2⟩
theorem aAZ(x:Nat){y:Nat}(h:y≠0):ln (Nat.gcd x y)<=ln y:=fX (Nat.le_of_dvd (by omega) (Nat.gcd_dvd_right x y))
theorem He{a b:Int}(hb:b≠0):a / (b.sign*(Nat.gcd a.natAbs b.natAbs:Nat))=(Rat.divInt a b).num∧b / (b.sign*(Nat.gcd a.natAbs b.natAbs:Nat))=((Rat.divInt a b).den:Int):=by
 obtain⟨h1,h2⟩:=Cs (a:=a) hb;have d1:((Nat.gcd a.natAbs b.natAbs:Nat):Int) ∣ a:=Int.ofNat_dvd_left.2 (Nat.gcd_dvd_left _ _);have d2:((Nat.gcd a.natAbs b.natAbs:Nat):Int) ∣ b:=Int.ofNat_dvd_left.2 (Nat.gcd_dvd_right _ _);have sg:b.sign=1∨b.sign= -1:=by rcases gO b with h|h|h<;>omega
 have key:∀c:Int,((Nat.gcd a.natAbs b.natAbs:Nat):Int) ∣ c->b.sign*(Nat.gcd a.natAbs b.natAbs:Nat) ∣ c:=fun c hc=>by
  rcases sg with h|h<;>rw[h]
  ·rw[Int.one_mul];exact hc
  ·rw[Int.neg_one_mul];exact Int.neg_dvd.2 hc
 rw[<-h1,<-h2,Int.tdiv_eq_ediv_of_dvd (key a d1),Int.tdiv_eq_ediv_of_dvd (key b d2)];exact⟨rfl,rfl⟩
theorem Cw{v:Value}{l:Nat}(hS:Old S w)(hx:fh w S v k x)(hy:fh w S u l y)(hk:k<=1000000)(hl:l<=1000000):
  eG PG N.uK #[v,u] w (eL w fun v' w2=>dS w2 (Nf w w2) v' ((Nat.gcd x.natAbs y.natAbs:Nat):Int)):=by
 have hw:=bR w;replace hx:=hx.cL (S':=Cv S w.heap.size []) fun _ h=>.inl h;replace hy:=hy.cL (S':=Cv S w.heap.size []) fun _ h=>.inl h;obtain⟨b1,a1,n1,c1,rfl⟩:=hx.shape;obtain⟨b2,a2,n2,c2,rfl⟩:=hy.shape;refine xy (by simp) ?_;have PO:=hx.ln;have Qj:=hy.ln;refine cQ hτ dx [.x 0,.x 2,.x 1,.x 3,.x 4,.x 5] (by kernel_rfl) (by kernel_rfl) ?_;refine cE hw (fun _ w' v w2=>dS w2 (Nf w' w2) v ((x.natAbs:Int))) (fun O w' r=>ye (Rel.old r hS) (hx.rel r hS) (by omega)) ?_;rintro O _ _ _ Og r he hw h_ hn;clear hx;replace hy:=hy.cK r hS he (mC h_);have ha:=hn.dF (S:=FF) r.cG (mN h_);clear r;obtain⟨A0,A1,A2,A3,rfl⟩:=ha.shape;refine cE hw (fun _ w' v w2=>dS w2 (Nf w' w2) v ((y.natAbs:Int))) (fun O w' r=>ye (Rel.old r hS) (hy.rel r hS) (by omega)) ?_;rintro O _ _ _ OX r he hw h_ hn;clear hy;replace ha:=ha.cK r (cF w) he (mC h_);have hc:=hn.dF (S:=FF) r.cG (mN h_);clear r;obtain⟨C0,C1,C2,C3,rfl⟩:=hc.shape
 refine⟨Nat×Nat×(Bool×Option Addr×Nat×Nat)×(Bool×Option Addr×Nat×Nat)×World×Iv,fun z=>⟨[(2,pP 0 0),(3,pP 1 0),(4,pP 2 0)],[(2,.box T.Int [.v (.bool false),.v (.slice none 0 0)]),(1,.box T.Int [.v (.bool z.2.2.2.1.1),.v (.slice z.2.2.2.1.2.1 z.2.2.2.1.2.2.1 z.2.2.2.1.2.2.2)]),(0,.box T.Int [.v (.bool z.2.2.1.1),.v (.slice z.2.2.1.2.1 z.2.2.1.2.2.1 z.2.2.1.2.2.2)])],3,z.2.2.2.2.2,z.2.2.2.2.1⟩,fun z=>z.2.1,
  fun z=>Nat.gcd z.1 z.2.1=Nat.gcd x.natAbs y.natAbs∧ln z.1<=1000000∧ln z.2.1<=1000000∧dq w.heap.size w z.2.2.2.2.1∧dS z.2.2.2.2.1 (Cf w z.2.2.2.2.2) (.agg #[.bool z.2.2.1.1,.slice z.2.2.1.2.1 z.2.2.1.2.2.1 z.2.2.1.2.2.2]) (z.1:Int)∧dS z.2.2.2.2.1 (Cf w z.2.2.2.2.2) (.agg #[.bool z.2.2.2.1.1,.slice z.2.2.2.1.2.1 z.2.2.2.1.2.2.1 z.2.2.2.1.2.2.2]) (z.2.1:Int),?_,?_⟩
 ·intro O w' r
  exact⟨(x.natAbs,y.natAbs,(A0,A1,A2,A3),(C0,C1,C2,C3),w',OX),⟨rfl,by dsimp only;omega,by dsimp only;omega,hw.tr r.cU,ha.rel r (cF w),hc.rel r (cF w)⟩,
   Sub.gn [] r⟩
 clear hw ha hc;rintro⟨a,b,⟨ba,aa,na,ca⟩,⟨bb,ab,nb,cb⟩,w1,iv⟩ ⟨hg,QM,PT,hw,ha,hc⟩;dsimp only at hg QM PT hw ha hc ⊢;refine cH (cE hw (fun _ w' v w2=>v= .int .i64 (b:Int).sign) (fun O w' r=>gw (Rel.old r (cF w)) (hc.rel r (cF w)).r) ?_);rintro O _ _ _ Oh r he hw h_ rfl;replace ha:=ha.cK r (cF w) he (mC h_);replace hc:=hc.cK r (cF w) he (mC h_);clear r;have sb:=gO (b:Int);refine dN.mk ?_ ?_<;>intro h
 ·have h:=aI h;have VD:0<b:=by omega
  have hm:=cC a VD;have Pv:ln (a % b)<=1000000:=aX (fX (by omega)) PT;refine cH (cE hw (fun _ w' v w2=>∃q r,v= .tuple #[q,r,.int .i64 0]∧dS w2 (Nf w' w2) q ((a:Int) / b)∧dS w2 (Nf w' w2) r ((a:Int) % b)) (fun O w' r=>jV (Rel.old r (cF w)) ((ha.rel r (cF w)).l (k:=1000000) QM) ((hc.rel r (cF w)).l (k:=1000000) PT) (by omega) (by omega) (by omega)) ?_);rintro O _ _ _ On r he hw h_ ⟨q,rr,rfl,k1,k2⟩;clear ha;replace hc:=hc.cK r (cF w) he (mC h_);have hq:=k1.dF (S:=FF) r.cG (mN h_);have hr:=k2.dF (S:=FF) r.cG (mN h_);clear r;obtain⟨s4_0a,s4_0b,s4_0c,s4_0d,rfl⟩:=hq.shape;obtain⟨s4_1a,s4_1b,s4_1c,s4_1d,rfl⟩:=hr.shape;clear k1 k2 hq;refine jD hτ dx (.two 0 (.two 1 (.one 2 (.one 3 .nil)) 2 (.one 1 (.one 3 .nil))) 1 (.one 0 (.one 2 (.one 3 .nil)))) (by kernel_rfl) ?_;refine⟨?_,?_⟩
  ·conv=>whnf
   refine⟨?_,?_⟩
   ·conv=>whnf
    intro ρ3 w3 r3;exact⟨(b,a % b,(bb,ab,nb,cb),(s4_1a,s4_1b,s4_1c,s4_1d),w3,_),⟨by dsimp only;rw[<-hg,Nat.gcd_comm a b,Nat.gcd_rec b a,Nat.gcd_comm],PT,Pv,hw.tr r3.cU,hc.rel r3 (cF w),hr.rel r3 (cF w)⟩,Sub.gn [] r3,hm⟩
   ·conv=>whnf
    intro ρ3 w3 r3;exact⟨(b,a % b,(bb,ab,nb,cb),(s4_1a,s4_1b,s4_1c,s4_1d),w3,_),⟨by dsimp only;rw[<-hg,Nat.gcd_comm a b,Nat.gcd_rec b a,Nat.gcd_comm],PT,Pv,hw.tr r3.cU,hc.rel r3 (cF w),hr.rel r3 (cF w)⟩,Sub.gn [] r3,hm⟩
  ·conv=>whnf
   intro ρ3 w3 r3;exact⟨(b,a % b,(bb,ab,nb,cb),(s4_1a,s4_1b,s4_1c,s4_1d),w3,_),⟨by dsimp only;rw[<-hg,Nat.gcd_comm a b,Nat.gcd_rec b a,Nat.gcd_comm],PT,Pv,hw.tr r3.cU,hc.rel r3 (cF w),hr.rel r3 (cF w)⟩,Sub.gn [] r3,hm⟩
 have h:=aH h;obtain rfl:b=0:=by omega
 rw[Nat.gcd_zero_right]at hg;subst hg;clear hc;exact rtn hw fun ρe we re=>ha.out re (cF w)
theorem oz{v:Value}{l:Nat}(hS:Old S w)(hx:fh w S v k x)(hy:fh w S u l y)(hk:k<=1000000)(hl:l<=1000000)(QH:y≠0):
  eG PG N.sf #[v,u] w (eL w fun v' w2=>dA w2 (Nf w w2) v' (Rat.divInt x y)):=by
 have hw:=bR w;replace hx:=hx.cL (S':=Cv S w.heap.size []) fun _ h=>.inl h;replace hy:=hy.cL (S':=Cv S w.heap.size []) fun _ h=>.inl h;obtain⟨b1,a1,n1,c1,rfl⟩:=hx.shape;obtain⟨b2,a2,n2,c2,rfl⟩:=hy.shape;refine sG (by simp) ?_;have PO:=hx.ln;have Qj:=hy.ln;have hlg:=aAZ x.natAbs (y:=y.natAbs) (by omega);obtain⟨hn,hd⟩:=He (a:=x) QH;have sy:=gO y
 refine cH (cE hw (fun _ w' v w2=>∃n p,v= .tuple #[.int .i64 n,.bool p]∧(p=true->n=x∧x.natAbs<1073741824)) (fun O w' r=>(nu (Rel.old r hS) (hx.rel r hS).r).mono fun e w2 ⟨v2,e1,e2,e3⟩=>⟨v2,e1,e2,by
   rw[e3,kD];split
   ·exact⟨_,_,rfl,fun _=>⟨rfl,‹_›⟩⟩
   ·exact⟨_,_,rfl,fun h=>by cases h⟩⟩) ?_)
 rintro O _ _ _ Og r he hw h_ ⟨nx,px,rfl,qx⟩;replace hx:=hx.cK r hS he (mC h_);replace hy:=hy.cK r hS he (mC h_);clear r
 refine cH (cE hw (fun _ w' v w2=>∃n p,v= .tuple #[.int .i64 n,.bool p]∧(p=true->n=y∧y.natAbs<1073741824)) (fun O w' r=>(nu (Rel.old r hS) (hy.rel r hS).r).mono fun e w2 ⟨v2,e1,e2,e3⟩=>⟨v2,e1,e2,by
   rw[e3,kD];split
   ·exact⟨_,_,rfl,fun _=>⟨rfl,‹_›⟩⟩
   ·exact⟨_,_,rfl,fun h=>by cases h⟩⟩) ?_)
 rintro O _ _ _ OX r he hw h_ ⟨ny,py,rfl,qy⟩;replace hx:=hx.cK r hS he (mC h_);replace hy:=hy.cK r hS he (mC h_);clear r;refine dN.mk ?_ ?_<;>intro h1
 ·obtain⟨e1,hxs⟩:=qx h1;replace e1:=e1.symm;subst e1;refine dN.mk ?_ ?_<;>intro h2
  ·obtain⟨e2,hys⟩:=qy h2;replace e2:=e2.symm;subst e2;clear hx hy;refine cH (cE hw (fun _ w' v w2=>dA w2 (Nf w' w2) v (Rat.divInt x y)) (fun O w' r=>rS x y w' (by omega) (by omega) QH) ?_);rintro O Pz v3 Px Oh r he hw h_ hn;have hR:=hn.dF (S:=FF) r.cG (mN h_);clear r hn;obtain⟨A0,A1,A2,A3,A4,A5,A6,A7,rfl⟩:=hR.shape;exact rtn hw fun ρe we re=>hR.out re (cF w)
  refine cH (cE hw (fun _ w' v w2=>dS w2 (Nf w' w2) v (((Nat.gcd x.natAbs y.natAbs:Nat):Int))) (fun O w' r=>Cw (Rel.old r hS) (hx.rel r hS) (hy.rel r hS) hk hl) ?_);rintro O Pz v3 Px Oh r he hw h_ hn;replace hx:=hx.cK r hS he (mC h_);replace hy:=hy.cK r hS he (mC h_);have hg:=hn.dF (S:=FF) r.cG (mN h_);clear r hn;obtain⟨A0,A1,A2,A3,rfl⟩:=hg.shape;refine cH (cE hw (fun _ w' v w2=>v= .int .i64 y.sign) (fun O w' r=>gw (Rel.old r hS) (hy.rel r hS).r) ?_);rintro O Ro v4 Qh On r he hw h_ rfl;replace hx:=hx.cK r hS he (mC h_);replace hy:=hy.cK r hS he (mC h_);replace hg:=hg.cK r (cF w) he (mC h_);clear r;have hgp:0<Nat.gcd x.natAbs y.natAbs:=bq _ (by omega);generalize Nat.gcd x.natAbs y.natAbs=g at*
  refine dN.mk ?_ ?_<;>intro hs
  ·have hs:=aI hs;rw[show y.sign= -1 by omega,Int.neg_one_mul]at hn hd;refine cH (cE hw (fun _ w' v w2=>dS w2 (Nf w' w2) v (-(g:Int))) (fun O w' r=>oA (Rel.old r (cF w)) ((hg.rel r (cF w)).l (k:=1000000) (by rw[Int.natAbs_natCast];omega)) (by omega)) ?_);rintro O Tf v5 UH PN r he hw h_ hn;replace hx:=hx.cK r hS he (mC h_);replace hy:=hy.cK r hS he (mC h_);clear hg;have SE:=hn.dF (S:=FF) r.cG (mN h_);clear r hn;obtain⟨C0,C1,C2,C3,rfl⟩:=SE.shape;refine cH (cE hw (fun _ w' v w2=>∃q r,v= .tuple #[q,r,.int .i64 0]∧dS w2 (Nf w' w2) q (Rat.divInt x y).num∧dS w2 (Nf w' w2) r (x % (-(g:Int)))) (fun O w' r=>hn▸jV (Rel.old r hS) (hx.rel r hS) ((((SE.rel r (cF w)).l (k:=1000000) (by rw[Int.natAbs_neg,Int.natAbs_natCast];omega))).cL fun g hg=>Cv.false hg) hk (by omega) (by omega)) ?_);rintro O SQ v6 S6 RI r he hw h_ ⟨q,rr,rfl,k1,k2⟩;clear hx;replace hy:=hy.cK r hS he (mC h_);replace SE:=SE.cK r (cF w) he (mC h_);have hq:=k1.dF (S:=FF) r.cG (mN h_);have hr:=k2.dF (S:=FF) r.cG (mN h_);clear r;obtain⟨s6_0a,s6_0b,s6_0c,s6_0d,rfl⟩:=hq.shape;obtain⟨s6_1a,s6_1b,s6_1c,s6_1d,rfl⟩:=hr.shape;clear k1 k2 hr;refine cH (cE hw (fun _ w' v w2=>∃q r,v= .tuple #[q,r,.int .i64 0]∧dS w2 (Nf w' w2) q ((Rat.divInt x y).den:Int)∧dS w2 (Nf w' w2) r (y % (-(g:Int)))) (fun O w' r=>hd▸jV (Rel.old r hS) (hy.rel r hS) ((((SE.rel r (cF w)).l (k:=1000000) (by rw[Int.natAbs_neg,Int.natAbs_natCast];omega))).cL fun g hg=>Cv.false hg) hl (by omega) (by omega)) ?_);rintro O XU v7 XV RR r he hw h_ ⟨q,rr,rfl,k1,k2⟩;clear hy;clear SE;replace hq:=hq.cK r (cF w) he (mC h_);have Qb:=k1.dF (S:=FF) r.cG (mN h_);have hr:=k2.dF (S:=FF) r.cG (mN h_);clear r;obtain⟨s7_0a,s7_0b,s7_0c,s7_0d,rfl⟩:=Qb.shape;obtain⟨s7_1a,s7_1b,s7_1c,s7_1d,rfl⟩:=hr.shape;clear k1 k2 hr;exact rtn hw fun ρe we re=>(dA.of hq Qb).out re (cF w)
  have hs:=aH hs;rw[show y.sign=1 by omega,Int.one_mul]at hn hd;refine cH (cE hw (fun _ w' v w2=>∃q r,v= .tuple #[q,r,.int .i64 0]∧dS w2 (Nf w' w2) q (Rat.divInt x y).num∧dS w2 (Nf w' w2) r (x % ((g:Int)))) (fun O w' r=>hn▸jV (Rel.old r hS) (hx.rel r hS) ((((hg.rel r (cF w)).l (k:=1000000) (by rw[Int.natAbs_natCast];omega))).cL fun g hg=>Cv.false hg) hk (by omega) (by omega)) ?_);rintro O Tf v5 UH PN r he hw h_ ⟨q,rr,rfl,k1,k2⟩;clear hx;replace hy:=hy.cK r hS he (mC h_);replace hg:=hg.cK r (cF w) he (mC h_);have hq:=k1.dF (S:=FF) r.cG (mN h_);have hr:=k2.dF (S:=FF) r.cG (mN h_);clear r;obtain⟨s5_0a,s5_0b,s5_0c,s5_0d,rfl⟩:=hq.shape;obtain⟨s5_1a,s5_1b,s5_1c,s5_1d,rfl⟩:=hr.shape;clear k1 k2 hr;refine cH (cE hw (fun _ w' v w2=>∃q r,v= .tuple #[q,r,.int .i64 0]∧dS w2 (Nf w' w2) q ((Rat.divInt x y).den:Int)∧dS w2 (Nf w' w2) r (y % ((g:Int)))) (fun O w' r=>hd▸jV (Rel.old r hS) (hy.rel r hS) ((((hg.rel r (cF w)).l (k:=1000000) (by rw[Int.natAbs_natCast];omega))).cL fun g hg=>Cv.false hg) hl (by omega) (by omega)) ?_);rintro O SQ v6 S6 RI r he hw h_ ⟨q,rr,rfl,k1,k2⟩;clear hy;clear hg;replace hq:=hq.cK r (cF w) he (mC h_);have Qb:=k1.dF (S:=FF) r.cG (mN h_);have hr:=k2.dF (S:=FF) r.cG (mN h_);clear r;obtain⟨s6_0a,s6_0b,s6_0c,s6_0d,rfl⟩:=Qb.shape;obtain⟨s6_1a,s6_1b,s6_1c,s6_1d,rfl⟩:=hr.shape;clear k1 k2 hr;exact rtn hw fun ρe we re=>(dA.of hq Qb).out re (cF w)
 refine cH (cE hw (fun _ w' v w2=>dS w2 (Nf w' w2) v (((Nat.gcd x.natAbs y.natAbs:Nat):Int))) (fun O w' r=>Cw (Rel.old r hS) (hx.rel r hS) (hy.rel r hS) hk hl) ?_);rintro O _ _ _ Oh r he hw h_ hn;replace hx:=hx.cK r hS he (mC h_);replace hy:=hy.cK r hS he (mC h_);have hg:=hn.dF (S:=FF) r.cG (mN h_);clear r hn;obtain⟨A0,A1,A2,A3,rfl⟩:=hg.shape;refine cH (cE hw (fun _ w' v w2=>v= .int .i64 y.sign) (fun O w' r=>gw (Rel.old r hS) (hy.rel r hS).r) ?_);rintro O _ _ _ On r he hw h_ rfl;replace hx:=hx.cK r hS he (mC h_);replace hy:=hy.cK r hS he (mC h_);replace hg:=hg.cK r (cF w) he (mC h_);clear r;have hgp:0<Nat.gcd x.natAbs y.natAbs:=bq _ (by omega);generalize Nat.gcd x.natAbs y.natAbs=g at*
 refine dN.mk ?_ ?_<;>intro hs
 ·have hs:=aI hs;rw[show y.sign= -1 by omega,Int.neg_one_mul]at hn hd;refine cH (cE hw (fun _ w' v w2=>dS w2 (Nf w' w2) v (-(g:Int))) (fun O w' r=>oA (Rel.old r (cF w)) ((hg.rel r (cF w)).l (k:=1000000) (by rw[Int.natAbs_natCast];omega)) (by omega)) ?_);rintro O Tf v5 UH PN r he hw h_ hn;replace hx:=hx.cK r hS he (mC h_);replace hy:=hy.cK r hS he (mC h_);clear hg;have SE:=hn.dF (S:=FF) r.cG (mN h_);clear r hn;obtain⟨C0,C1,C2,C3,rfl⟩:=SE.shape;refine cH (cE hw (fun _ w' v w2=>∃q r,v= .tuple #[q,r,.int .i64 0]∧dS w2 (Nf w' w2) q (Rat.divInt x y).num∧dS w2 (Nf w' w2) r (x % (-(g:Int)))) (fun O w' r=>hn▸jV (Rel.old r hS) (hx.rel r hS) ((((SE.rel r (cF w)).l (k:=1000000) (by rw[Int.natAbs_neg,Int.natAbs_natCast];omega))).cL fun g hg=>Cv.false hg) hk (by omega) (by omega)) ?_);rintro O SQ v6 S6 RI r he hw h_ ⟨q,rr,rfl,k1,k2⟩;clear hx;replace hy:=hy.cK r hS he (mC h_);replace SE:=SE.cK r (cF w) he (mC h_);have hq:=k1.dF (S:=FF) r.cG (mN h_);have hr:=k2.dF (S:=FF) r.cG (mN h_);clear r;obtain⟨s6_0a,s6_0b,s6_0c,s6_0d,rfl⟩:=hq.shape;obtain⟨s6_1a,s6_1b,s6_1c,s6_1d,rfl⟩:=hr.shape;clear k1 k2 hr;refine cH (cE hw (fun _ w' v w2=>∃q r,v= .tuple #[q,r,.int .i64 0]∧dS w2 (Nf w' w2) q ((Rat.divInt x y).den:Int)∧dS w2 (Nf w' w2) r (y % (-(g:Int)))) (fun O w' r=>hd▸jV (Rel.old r hS) (hy.rel r hS) ((((SE.rel r (cF w)).l (k:=1000000) (by rw[Int.natAbs_neg,Int.natAbs_natCast];omega))).cL fun g hg=>Cv.false hg) hl (by omega) (by omega)) ?_);rintro O _ _ _ RR r he hw h_ ⟨q,rr,rfl,k1,k2⟩;clear hy;clear SE;replace hq:=hq.cK r (cF w) he (mC h_);have Qb:=k1.dF (S:=FF) r.cG (mN h_);have hr:=k2.dF (S:=FF) r.cG (mN h_);clear r;obtain⟨s7_0a,s7_0b,s7_0c,s7_0d,rfl⟩:=Qb.shape;obtain⟨s7_1a,s7_1b,s7_1c,s7_1d,rfl⟩:=hr.shape;clear k1 k2 hr;exact rtn hw fun ρe we re=>(dA.of hq Qb).out re (cF w)
 have hs:=aH hs;rw[show y.sign=1 by omega,Int.one_mul]at hn hd;refine cH (cE hw (fun _ w' v w2=>∃q r,v= .tuple #[q,r,.int .i64 0]∧dS w2 (Nf w' w2) q (Rat.divInt x y).num∧dS w2 (Nf w' w2) r (x % ((g:Int)))) (fun O w' r=>hn▸jV (Rel.old r hS) (hx.rel r hS) ((((hg.rel r (cF w)).l (k:=1000000) (by rw[Int.natAbs_natCast];omega))).cL fun g hg=>Cv.false hg) hk (by omega) (by omega)) ?_);rintro O _ _ _ PN r he hw h_ ⟨q,rr,rfl,k1,k2⟩;clear hx;replace hy:=hy.cK r hS he (mC h_);replace hg:=hg.cK r (cF w) he (mC h_);have hq:=k1.dF (S:=FF) r.cG (mN h_);have hr:=k2.dF (S:=FF) r.cG (mN h_);clear r;obtain⟨s5_0a,s5_0b,s5_0c,s5_0d,rfl⟩:=hq.shape;obtain⟨s5_1a,s5_1b,s5_1c,s5_1d,rfl⟩:=hr.shape;clear k1 k2 hr;refine cH (cE hw (fun _ w' v w2=>∃q r,v= .tuple #[q,r,.int .i64 0]∧dS w2 (Nf w' w2) q ((Rat.divInt x y).den:Int)∧dS w2 (Nf w' w2) r (y % ((g:Int)))) (fun O w' r=>hd▸jV (Rel.old r hS) (hy.rel r hS) ((((hg.rel r (cF w)).l (k:=1000000) (by rw[Int.natAbs_natCast];omega))).cL fun g hg=>Cv.false hg) hl (by omega) (by omega)) ?_);rintro O _ _ _ RI r he hw h_ ⟨q,rr,rfl,k1,k2⟩;clear hy;clear hg;replace hq:=hq.cK r (cF w) he (mC h_);have Qb:=k1.dF (S:=FF) r.cG (mN h_);have hr:=k2.dF (S:=FF) r.cG (mN h_);clear r;obtain⟨s6_0a,s6_0b,s6_0c,s6_0d,rfl⟩:=Qb.shape;obtain⟨s6_1a,s6_1b,s6_1c,s6_1d,rfl⟩:=hr.shape;clear k1 k2 hr;exact rtn hw fun ρe we re=>(dA.of hq Qb).out re (cF w)
def fE(w:World)(S:Nat->Prop)(v:Value)(q:Rat):Prop:=∃b1 l1 b2 l2 a b,v= .agg #[.bool b1,l1,.bool b2,l2]∧fh w S (.agg #[.bool b1,l1]) 100000 a∧fh w S (.agg #[.bool b2,l2]) 100000 b∧ratio a b=q
theorem fE.cJ{w2:World}{v:Value}(h:fE w S v q)(hk:∀g,S g->w2.heap[g]? =w.heap[g]?):fE w2 S v q:=by
 obtain⟨b1,l1,b2,l2,a,b,h1,h2,h3,h4⟩:=h;exact⟨b1,l1,b2,l2,a,b,h1,h2.cJ hk,h3.cJ hk,h4⟩
theorem fE.cL{S':Nat->Prop}{v:Value}(h:fE w S v q)(hk:∀g,S g->S' g):fE w S' v q:=by
 obtain⟨b1,l1,b2,l2,a,b,h1,h2,h3,h4⟩:=h;exact⟨b1,l1,b2,l2,a,b,h1,h2.cL hk,h3.cL hk,h4⟩
theorem fE.r{v:Value}(h:fE w S v q):∃a b,iP w S v a b∧ratio a b=q:=by
 obtain⟨b1,l1,b2,l2,a,b,rfl,h2,h3,h4⟩:=h;exact⟨a,b,⟨b1,l1,b2,l2,rfl,h2.r,h3.r⟩,h4⟩
theorem fE.v{v:Value}(h:fE w S v q):qt w S v q:=by
 obtain⟨b1,l1,b2,l2,a,b,rfl,h2,h3,h4⟩:=h;exact⟨a,b,⟨b1,l1,b2,l2,rfl,h2.r,h3.r⟩,h4,h2.ln,h3.ln⟩
theorem fE.shape{v:Value}(h:fE w S v q):∃b a n c b2 a2 n2 c2,v= .agg #[.bool b,.slice a n c,.bool b2,.slice a2 n2 c2]:=h.v.shape
theorem fE.rl{v:Value}(h:fE w S v q):rl q<=100000:=by
 obtain⟨b1,l1,b2,l2,a,b,rfl,h2,h3,rfl⟩:=h;have:=iK a b;have:=h2.ln;have:=h3.ln;omega
theorem dA.l{v:Value}(h:dA w S v q)(hl:rl q<=100000):fE w S v q:=by
 obtain⟨b1,l1,b2,l2,h1,h2,h3⟩:=h;exact⟨b1,l1,b2,l2,_,_,h1,h2.l (aX (gP q) hl),h3.l (aX (fY q) hl),oy q⟩
theorem M0(a b:Int):rs (ratio a b)=if b.sign<0 then -a.sign else a.sign:=by
 have sb:=gO b;rw[ratio];split
 ·rw[aJ (by omega),rs,tz (by decide)]
 ·split
  ·rw[show Rat.divInt a b=Rat.divInt (-a) (-b)from(Rat.neg_divInt_neg a b).symm,rs,tz (by omega),Int.sign_neg]
  ·rw[rs,tz (by omega)]
theorem jm{a c:Int}:(a.natAbs<1073741824)->(c.natAbs<1073741824)->(a*c).natAbs<=1152921502459363329:=fun h1 h2=>by
 rw[Int.natAbs_mul];exact Nat.mul_le_mul (show a.natAbs<=1073741823 by omega) (show c.natAbs<=1073741823 by omega)
section
variable{S S':Nat->Prop}{H:Hp}{nx:Nat}{iv iv':Iv}{B:Nat}{w w' w2:World}{O:Nat->Sx.dw}{v:Value}{q:Rat}
theorem fE.rel(h:fE w (Cv S B iv) v q)(r:Rel H nx iv B w O w')(hS:∀g,S g->g<B):fE w' (Cv S B iv) v q:=h.cJ fun _ hg=>Rel.same r hS hg
theorem fE.cK(h:fE w (Cv S B iv) v q)(r:Rel H nx iv B w O w')(hS:∀g,S g->g<B)(he:Ext w' w2)(hm:∀p,p∈iv->p∈iv'):fE w2 (Cv S B iv') v q:=
 ((h.rel r hS).cJ fun g hg=>he.block g (Rel.old r hS g hg)).cL fun _ hg=>hg.mono hm
theorem fE.arg(h:fE w S v q)(iv:Iv):fE w (Cv S w.heap.size iv) v q:=h.cL fun _ h=>.inl h
end
theorem tG{v:Value}{a b:Int}(hS:Old S w)(hp:iP w S v a b):
  eG PG N.ju #[v] w (eL w fun v' _=>v'= .int .i64 (rs (ratio a b))):=by
 have hw:=bR w;obtain⟨b1,l1,b2,l2,rfl,ha,Qf⟩:=hp;obtain⟨_,a1,n1,c1,e1⟩:=ha.shape;obtain⟨_,a2,n2,c2,e2⟩:=Qf.shape;simp only[Value.agg.injEq,Array.mk.injEq,List.cons.injEq,and_true]at e1 e2;obtain⟨_,rfl⟩:=e1;obtain⟨_,rfl⟩:=e2;replace ha:=ha.cL (S':=Cv S w.heap.size []) fun _ h=>.inl h;replace Qf:=Qf.cL (S':=Cv S w.heap.size []) fun _ h=>.inl h;have hr:=M0 a b;have sa:=gO a;refine xl (by simp) ?_;refine cH (cE hw (fun _ w' v w2=>v= .int .i64 b.sign) (fun O w' r=>gw (Rel.old r hS) (Qf.rel r hS)) ?_);rintro O _ _ _ Og r he hw h_ rfl;replace ha:=ha.cK r hS he (mC h_);refine dN.mk ?_ ?_<;>intro h
 ·have h:=aI h;rw[if_pos h]at hr;refine cH (cE hw (fun _ w' v w2=>v= .int .i64 a.sign) (fun O w' r=>gw (Rel.old r hS) (ha.rel r hS)) ?_);rintro O QQ v2 Pn OX r he hw h_ rfl;refine⟨-a.sign,wo,?_⟩;exact rtn hw fun ρe we re=>by rw[hr];rfl
 have h:=aH h;rw[aJ h]at hr;refine cH (cE hw (fun _ w' v w2=>v= .int .i64 a.sign) (fun O w' r=>gw (Rel.old r hS) (ha.rel r hS)) ?_);rintro O _ _ _ OX r he hw h_ rfl;exact rtn hw fun ρe we re=>by rw[hr];rfl
theorem Co{v:Value}(hS:Old S w)(hp:dA w S v p):eG PG N.ju #[v] w (eL w fun v' _=>v'= .int .i64 (rs p)):=by
 have:=tG hS hp.r;rw[oy]at this;exact this
theorem Hf{v:Value}(hS:Old S w)(hp:fE w S v p):eG PG N.ju #[v] w (eL w fun v' _=>v'= .int .i64 (rs p)):=by
 obtain⟨a,b,h1,rfl⟩:=hp.r;exact tG hS h1
theorem jW{v:Value}(hS:Old S w)(hp:fE w S v p):
  eG PG N.uF #[v] w (eL w fun v' w2=>dA w2 (Nf w w2) v' p):=by
 have hw:=bR w;obtain⟨b1,l1,b2,l2,a,b,rfl,ha,Qf,rfl⟩:=hp;obtain⟨_,a1,n1,c1,e1⟩:=ha.shape;obtain⟨_,a2,n2,c2,e2⟩:=Qf.shape;simp only[Value.agg.injEq,Array.mk.injEq,List.cons.injEq,and_true]at e1 e2;obtain⟨_,rfl⟩:=e1;obtain⟨_,rfl⟩:=e2;replace ha:=ha.cL (S':=Cv S w.heap.size []) fun _ h=>.inl h;replace Qf:=Qf.cL (S':=Cv S w.heap.size []) fun _ h=>.inl h;have sb:=gO b;refine xq (by simp) ?_;refine cH (cM (Φ:=fun _ w' v w2=>v= .int .i64 b.sign) (fun O w' r=>gw (Rel.old r hS) (Qf.rel r hS).r) ?_);rintro O QU v1 QJ r he hb rfl;replace hw:=hw.tr hb;replace ha:=ha.cK (iv':=(QU.heap.size,QJ.heap.size)::[]) r hS he fun x hx=>aC _ hx;replace Qf:=Qf.cK (iv':=(QU.heap.size,QJ.heap.size)::[]) r hS he fun x hx=>aC _ hx;generalize (QU.heap.size,QJ.heap.size)::[]=Og at*
 refine dN.mk ?_ ?_<;>intro h
 ·have h:b.sign=0:=by simpa using h
  obtain rfl:b=0:=by omega
  rw[show ratio a 0=Rat.divInt a 1 from if_pos rfl];refine cQ hτ dx [.x 0,.x 1,.x 2,.x 3,.x 4] (by kernel_rfl) (by kernel_rfl) ?_;refine cM (Φ:=fun _ w' v w2=>dS w2 (Nf w' w2) v (1)) (fun O w' r=>mi _ w' (by decide) (by decide)) ?_;rintro O QQ v2 Pn r he hb hn;replace hw:=hw.tr hb;replace ha:=ha.cK (iv':=(QQ.heap.size,Pn.heap.size)::Og) r hS he fun x hx=>aC _ hx;replace Qf:=Qf.cK (iv':=(QQ.heap.size,Pn.heap.size)::Og) r hS he fun x hx=>aC _ hx;have h1:=hn.dF (S:=FF) r.cG (iv:=(QQ.heap.size,Pn.heap.size)::Og) aG;generalize (QQ.heap.size,Pn.heap.size)::Og=OX at*
  obtain⟨A0,A1,A2,A3,rfl⟩:=h1.shape;refine cM (Φ:=fun _ w' v w2=>dA w2 (Nf w' w2) v (Rat.divInt a 1)) (fun O w' r=>oz (Rel.old r hS) (ha.rel r hS) (((h1.rel r (cF w)).l (k:=1) (by decide)).cL fun g hg=>Cv.false hg) (by omega) (by omega) (by decide)) ?_;rintro O Pz v3 Px r he hb hn;replace hw:=hw.tr hb;replace ha:=ha.cK (iv':=(Pz.heap.size,Px.heap.size)::OX) r hS he fun x hx=>aC _ hx;replace Qf:=Qf.cK (iv':=(Pz.heap.size,Px.heap.size)::OX) r hS he fun x hx=>aC _ hx;replace h1:=h1.cK (iv':=(Pz.heap.size,Px.heap.size)::OX) r (cF w) he fun x hx=>aC _ hx;have hR:=hn.dF (S:=FF) r.cG (iv:=(Pz.heap.size,Px.heap.size)::OX) aG;generalize (Pz.heap.size,Px.heap.size)::OX=Oh at*
  obtain⟨C0,C1,C2,C3,C4,C5,C6,C7,rfl⟩:=hR.shape;exact rtn hw fun ρe we re=>hR.out re (cF w)
 have h:b.sign≠0:=by simpa using h
 have VD:b≠0:=by omega
 rw[show ratio a b=Rat.divInt a b from aJ VD];refine cH (cM (Φ:=fun _ w' v w2=>dA w2 (Nf w' w2) v (Rat.divInt a b)) (fun O w' r=>oz (Rel.old r hS) (ha.rel r hS) (Qf.rel r hS) (by omega) (by omega) VD) ?_);rintro O QQ v2 Pn r he hb hn;replace hw:=hw.tr hb;replace ha:=ha.cK (iv':=(QQ.heap.size,Pn.heap.size)::Og) r hS he fun x hx=>aC _ hx;replace Qf:=Qf.cK (iv':=(QQ.heap.size,Pn.heap.size)::Og) r hS he fun x hx=>aC _ hx;have hR:=hn.dF (S:=FF) r.cG (iv:=(QQ.heap.size,Pn.heap.size)::Og) aG;generalize (QQ.heap.size,Pn.heap.size)::Og=OX at*
 obtain⟨A0,A1,A2,A3,A4,A5,A6,A7,rfl⟩:=hR.shape;exact rtn hw fun ρe we re=>hR.out re (cF w)
theorem yf{v:Value}(hS:Old S w)(hp:fE w S v p):
  eG PG N.xS #[v] w (eL w fun v' _=>∃n d ok,v'= .tuple #[.int .i64 n,.int .i64 d,.bool ok]∧(ok=true->d≠0∧n.natAbs<1073741824∧d.natAbs<1073741824∧Rat.divInt n d=p)):=by
 have hw:=bR w;obtain⟨b1,l1,b2,l2,a,b,rfl,ha,Qf,rfl⟩:=hp;obtain⟨_,a1,n1,c1,e1⟩:=ha.shape;obtain⟨_,a2,n2,c2,e2⟩:=Qf.shape;simp only[Value.agg.injEq,Array.mk.injEq,List.cons.injEq,and_true]at e1 e2;obtain⟨_,rfl⟩:=e1;obtain⟨_,rfl⟩:=e2;replace ha:=ha.cL (S':=Cv S w.heap.size []) fun _ h=>.inl h;replace Qf:=Qf.cL (S':=Cv S w.heap.size []) fun _ h=>.inl h;refine Af (by simp) ?_
 refine cH (cM (Φ:=fun _ w' v w2=>∃n p,v= .tuple #[.int .i64 n,.bool p]∧(p=true->n=a∧a.natAbs<1073741824)) (fun O w' r=>(nu (Rel.old r hS) (ha.rel r hS).r).mono fun e w2 ⟨v2,e1,e2,e3⟩=>⟨v2,e1,e2,by
   rw[e3,kD];split
   ·exact⟨_,_,rfl,fun _=>⟨rfl,‹_›⟩⟩
   ·exact⟨_,_,rfl,fun h=>by cases h⟩⟩) ?_)
 rintro O QU v1 QJ r he hb ⟨na,pa,rfl,qa⟩;replace hw:=hw.tr hb;replace ha:=ha.cK (iv':=(QU.heap.size,QJ.heap.size)::[]) r hS he fun x hx=>aC _ hx;replace Qf:=Qf.cK (iv':=(QU.heap.size,QJ.heap.size)::[]) r hS he fun x hx=>aC _ hx;generalize (QU.heap.size,QJ.heap.size)::[]=Og at*
 refine cH (cM (Φ:=fun _ w' v w2=>∃n p,v= .tuple #[.int .i64 n,.bool p]∧(p=true->n=b∧b.natAbs<1073741824)) (fun O w' r=>(nu (Rel.old r hS) (Qf.rel r hS).r).mono fun e w2 ⟨v2,e1,e2,e3⟩=>⟨v2,e1,e2,by
   rw[e3,kD];split
   ·exact⟨_,_,rfl,fun _=>⟨rfl,‹_›⟩⟩
   ·exact⟨_,_,rfl,fun h=>by cases h⟩⟩) ?_)
 rintro O QQ v2 Pn r he hb ⟨nb,pb,rfl,qb⟩;replace hw:=hw.tr hb;replace ha:=ha.cK (iv':=(QQ.heap.size,Pn.heap.size)::Og) r hS he fun x hx=>aC _ hx;replace Qf:=Qf.cK (iv':=(QQ.heap.size,Pn.heap.size)::Og) r hS he fun x hx=>aC _ hx;generalize (QQ.heap.size,Pn.heap.size)::Og=OX at*
 refine dN.mk ?_ ?_<;>intro h
 ·have h:nb=0:=by simpa using h
  refine dN.mk ?_ ?_<;>intro h1
  ·intro ρe we re
   exact⟨_,rfl,hw.tr re.cU,⟨na,1,pb,rfl,fun h2=>by
     obtain⟨rfl,hx⟩:=qa h1;obtain⟨rfl,hy⟩:=qb h2;rw[h]
     exact⟨by decide,hx,by decide,(if_pos rfl).symm⟩⟩⟩
  exact rtn hw fun ρe we re=>⟨na,1,false,rfl,fun h2=>by cases h2⟩
 have h:nb≠0:=by simpa using h
 refine dN.mk ?_ ?_<;>intro h1
 ·intro ρe we re
  exact⟨_,rfl,hw.tr re.cU,⟨na,nb,pb,rfl,fun h2=>by
    obtain⟨rfl,hx⟩:=qa h1;obtain⟨rfl,hy⟩:=qb h2
    exact⟨h,hx,hy,(aJ h).symm⟩⟩⟩
 exact rtn hw fun ρe we re=>⟨na,nb,false,rfl,fun h2=>by cases h2⟩
theorem M4{v:Value}(hS:Old S w)(hp:fE w S v p)(hq:fE w S u q):
  eG PG N.CU #[v,u] w (eL w fun v' w2=>dA w2 (Nf w w2) v' (p+q)):=by
 have hw:=bR w;replace hp:=hp.cL (S':=Cv S w.heap.size []) fun _ h=>.inl h;replace hq:=hq.cL (S':=Cv S w.heap.size []) fun _ h=>.inl h;obtain⟨b1,a1,n1,c1,b2,a2,n2,c2,rfl⟩:=hp.shape;obtain⟨b3,a3,n3,c3,b4,a4,n4,c4,rfl⟩:=hq.shape;refine D8 (by simp) ?_;have r1:=hp.rl;have r2:=hq.rl;have u1:=gP p;have u2:=fY p;have u3:=gP q;have u4:=fY q;refine cH (cE hw (fun _ w' v w2=>∃n d ok,v= .tuple #[.int .i64 n,.int .i64 d,.bool ok]∧(ok=true->d≠0∧n.natAbs<1073741824∧d.natAbs<1073741824∧Rat.divInt n d=p)) (fun O w' r=>yf (Rel.old r hS) (hp.rel r hS)) ?_);rintro O _ _ _ Og r he hw h_ ⟨a,b,k1,rfl,g1⟩;replace hp:=hp.cK r hS he (mC h_);replace hq:=hq.cK r hS he (mC h_);refine cH (cE hw (fun _ w' v w2=>∃n d ok,v= .tuple #[.int .i64 n,.int .i64 d,.bool ok]∧(ok=true->d≠0∧n.natAbs<1073741824∧d.natAbs<1073741824∧Rat.divInt n d=q)) (fun O w' r=>yf (Rel.old r hS) (hq.rel r hS)) ?_);rintro O _ _ _ OX r he hw h_ ⟨c,d,k2,rfl,g2⟩;replace hp:=hp.cK r hS he (mC h_);replace hq:=hq.cK r hS he (mC h_);refine dN.mk ?_ ?_<;>intro h1
 ·refine dN.mk ?_ ?_<;>intro h2
  ·obtain⟨g3,g4,g5,g6⟩:=g1 h1;obtain⟨g7,g8,g9,g10⟩:=g2 h2;have i1:=jm g4 g9;have i2:=jm g8 g5;have i3:=jm g5 g9;have i4:=jm g4 g8;refine⟨a*d,wo,c*b,wo,a*d+c*b,wo,b*d,wo,?_⟩;have e:=Rat.divInt_add_divInt a c g3 g7;rw[g6,g10]at e;refine cH (cE hw (fun _ w' v w2=>dA w2 (Nf w' w2) v (p+q)) (fun O w' r=>e▸rS (a*d+c*b) (b*d) w' (by omega) (by omega) (ki g3 g7)) ?_);rintro O Pz v3 Px Oh r he hw h_ hn;have hR:=hn.dF (S:=FF) r.cG (mN h_);obtain⟨A0,A1,A2,A3,A4,A5,A6,A7,rfl⟩:=hR.shape;exact rtn hw fun ρe we re=>hR.out re (cF w)
  refine cQ hτ dx [.x 0,.x 2,.x 1,.x 3,.x 4,.x 5] (by kernel_rfl) (by kernel_rfl) ?_;refine cE hw (fun _ w' v w2=>dA w2 (Nf w' w2) v (p)) (fun O w' r=>jW (Rel.old r hS) (hp.rel r hS)) ?_;rintro O Pz v3 Px Oh r he hw h_ hn;replace hq:=hq.cK r hS he (mC h_);have hX:=hn.dF (S:=FF) r.cG (mN h_);obtain⟨A0,A1,A2,A3,A4,A5,A6,A7,rfl⟩:=hX.shape;refine cE hw (fun _ w' v w2=>dA w2 (Nf w' w2) v (q)) (fun O w' r=>jW (Rel.old r hS) (hq.rel r hS)) ?_;rintro O Ro v4 Qh On r he hw h_ hn;replace hX:=hX.cK r (cF w) he (mC h_);have hY:=hn.dF (S:=FF) r.cG (mN h_);obtain⟨C0,C1,C2,C3,C4,C5,C6,C7,rfl⟩:=hY.shape;have RC:=hX.num;have Qm:=hX.den;have RD:=hY.num;have Qn:=hY.den;have m0:=dE p.num q.den;have m1:=dE q.num p.den;have m2:=dE (p.den:Int) q.den;have m3:=jJ (p.num*q.den) (q.num*p.den);have m4:=dE p.num q.num;refine cQ hτ dx [.x 0,.x 1,.x 2,.x 3,.x 5,.x 6,.x 7,.x 8,.x 11,.x 12,.x 13,.x 14,.x 4,.x 9,.x 10,.x 15,.x 16,.x 17] (by kernel_rfl) (by kernel_rfl) ?_;refine cE hw (fun _ w' v w2=>dS w2 (Nf w' w2) v (p.num*(q.den:Int))) (fun O w' r=>jU (Rel.old r (cF w)) ((RC.rel r (cF w)).l (k:=100000) (by omega)) ((Qn.rel r (cF w)).l (k:=100000) (by omega)) (by omega) (by omega)) ?_;rintro O Tf v5 UH PN r he hw h_ hn;replace RC:=RC.cK r (cF w) he (mC h_);replace Qm:=Qm.cK r (cF w) he (mC h_);replace RD:=RD.cK r (cF w) he (mC h_);replace Qn:=Qn.cK r (cF w) he (mC h_);have hA:=hn.dF (S:=FF) r.cG (mN h_);obtain⟨E0,E1,E2,E3,rfl⟩:=hA.shape;refine cE hw (fun _ w' v w2=>dS w2 (Nf w' w2) v (q.num*(p.den:Int))) (fun O w' r=>jU (Rel.old r (cF w)) ((RD.rel r (cF w)).l (k:=100000) (by omega)) ((Qm.rel r (cF w)).l (k:=100000) (by omega)) (by omega) (by omega)) ?_;rintro O SQ v6 S6 RI r he hw h_ hn;replace RC:=RC.cK r (cF w) he (mC h_);replace Qm:=Qm.cK r (cF w) he (mC h_);replace RD:=RD.cK r (cF w) he (mC h_);replace Qn:=Qn.cK r (cF w) he (mC h_);replace hA:=hA.cK r (cF w) he (mC h_);have hB:=hn.dF (S:=FF) r.cG (mN h_);obtain⟨F0,F1,F2,F3,rfl⟩:=hB.shape;refine cE hw (fun _ w' v w2=>dS w2 (Nf w' w2) v (p.num*(q.den:Int)+q.num*(p.den:Int))) (fun O w' r=>BL (Rel.old r (cF w)) ((hA.rel r (cF w)).l (k:=200000) (by omega)) ((hB.rel r (cF w)).l (k:=200000) (by omega)) (by omega) (by omega)) ?_;rintro O XU v7 XV RR r he hw h_ hn;replace RC:=RC.cK r (cF w) he (mC h_);replace Qm:=Qm.cK r (cF w) he (mC h_);replace RD:=RD.cK r (cF w) he (mC h_);replace Qn:=Qn.cK r (cF w) he (mC h_);have hN:=hn.dF (S:=FF) r.cG (mN h_);obtain⟨G0,G1,G2,G3,rfl⟩:=hN.shape;refine cE hw (fun _ w' v w2=>dS w2 (Nf w' w2) v ((p.den:Int)*(q.den:Int))) (fun O w' r=>jU (Rel.old r (cF w)) ((Qm.rel r (cF w)).l (k:=100000) (by omega)) ((Qn.rel r (cF w)).l (k:=100000) (by omega)) (by omega) (by omega)) ?_;rintro O Uu v8 VZ SP r he hw h_ hn;replace RC:=RC.cK r (cF w) he (mC h_);replace Qm:=Qm.cK r (cF w) he (mC h_);replace RD:=RD.cK r (cF w) he (mC h_);replace Qn:=Qn.cK r (cF w) he (mC h_);replace hN:=hN.cK r (cF w) he (mC h_);have hD:=hn.dF (S:=FF) r.cG (mN h_);obtain⟨J0,J1,J2,J3,rfl⟩:=hD.shape;refine cE hw (fun _ w' v w2=>dA w2 (Nf w' w2) v (p+q)) (fun O w' r=>(tx p q)▸oz (Rel.old r (cF w)) ((hN.rel r (cF w)).l (k:=200001) (by omega)) ((hD.rel r (cF w)).l (k:=200001) (by omega)) (by omega) (by omega) (ki (iB p) (iB q))) ?_;rintro O Ti v9 UI TL r he hw h_ hn;have hR:=hn.dF (S:=FF) r.cG (mN h_);obtain⟨K0,K1,K2,K3,K4,K5,K6,K7,rfl⟩:=hR.shape;exact rtn hw fun ρe we re=>hR.out re (cF w)
 refine cQ hτ dx [.x 0,.x 2,.x 1,.x 3,.x 4,.x 5] (by kernel_rfl) (by kernel_rfl) ?_;refine cE hw (fun _ w' v w2=>dA w2 (Nf w' w2) v (p)) (fun O w' r=>jW (Rel.old r hS) (hp.rel r hS)) ?_;rintro O _ _ _ Oh r he hw h_ hn;replace hq:=hq.cK r hS he (mC h_);have hX:=hn.dF (S:=FF) r.cG (mN h_);obtain⟨A0,A1,A2,A3,A4,A5,A6,A7,rfl⟩:=hX.shape;refine cE hw (fun _ w' v w2=>dA w2 (Nf w' w2) v (q)) (fun O w' r=>jW (Rel.old r hS) (hq.rel r hS)) ?_;rintro O _ _ _ On r he hw h_ hn;replace hX:=hX.cK r (cF w) he (mC h_);have hY:=hn.dF (S:=FF) r.cG (mN h_);obtain⟨C0,C1,C2,C3,C4,C5,C6,C7,rfl⟩:=hY.shape;have RC:=hX.num;have Qm:=hX.den;have RD:=hY.num;have Qn:=hY.den;have m0:=dE p.num q.den;have m1:=dE q.num p.den;have m2:=dE (p.den:Int) q.den;have m3:=jJ (p.num*q.den) (q.num*p.den);have m4:=dE p.num q.num;refine cQ hτ dx [.x 0,.x 1,.x 2,.x 3,.x 5,.x 6,.x 7,.x 8,.x 11,.x 12,.x 13,.x 14,.x 4,.x 9,.x 10,.x 15,.x 16,.x 17] (by kernel_rfl) (by kernel_rfl) ?_;refine cE hw (fun _ w' v w2=>dS w2 (Nf w' w2) v (p.num*(q.den:Int))) (fun O w' r=>jU (Rel.old r (cF w)) ((RC.rel r (cF w)).l (k:=100000) (by omega)) ((Qn.rel r (cF w)).l (k:=100000) (by omega)) (by omega) (by omega)) ?_;rintro O _ _ _ PN r he hw h_ hn;replace RC:=RC.cK r (cF w) he (mC h_);replace Qm:=Qm.cK r (cF w) he (mC h_);replace RD:=RD.cK r (cF w) he (mC h_);replace Qn:=Qn.cK r (cF w) he (mC h_);have hA:=hn.dF (S:=FF) r.cG (mN h_);obtain⟨E0,E1,E2,E3,rfl⟩:=hA.shape;refine cE hw (fun _ w' v w2=>dS w2 (Nf w' w2) v (q.num*(p.den:Int))) (fun O w' r=>jU (Rel.old r (cF w)) ((RD.rel r (cF w)).l (k:=100000) (by omega)) ((Qm.rel r (cF w)).l (k:=100000) (by omega)) (by omega) (by omega)) ?_;rintro O _ _ _ RI r he hw h_ hn;replace RC:=RC.cK r (cF w) he (mC h_);replace Qm:=Qm.cK r (cF w) he (mC h_);replace RD:=RD.cK r (cF w) he (mC h_);replace Qn:=Qn.cK r (cF w) he (mC h_);replace hA:=hA.cK r (cF w) he (mC h_);have hB:=hn.dF (S:=FF) r.cG (mN h_);obtain⟨F0,F1,F2,F3,rfl⟩:=hB.shape;refine cE hw (fun _ w' v w2=>dS w2 (Nf w' w2) v (p.num*(q.den:Int)+q.num*(p.den:Int))) (fun O w' r=>BL (Rel.old r (cF w)) ((hA.rel r (cF w)).l (k:=200000) (by omega)) ((hB.rel r (cF w)).l (k:=200000) (by omega)) (by omega) (by omega)) ?_;rintro O _ _ _ RR r he hw h_ hn;replace RC:=RC.cK r (cF w) he (mC h_);replace Qm:=Qm.cK r (cF w) he (mC h_);replace RD:=RD.cK r (cF w) he (mC h_);replace Qn:=Qn.cK r (cF w) he (mC h_);have hN:=hn.dF (S:=FF) r.cG (mN h_);obtain⟨G0,G1,G2,G3,rfl⟩:=hN.shape;refine cE hw (fun _ w' v w2=>dS w2 (Nf w' w2) v ((p.den:Int)*(q.den:Int))) (fun O w' r=>jU (Rel.old r (cF w)) ((Qm.rel r (cF w)).l (k:=100000) (by omega)) ((Qn.rel r (cF w)).l (k:=100000) (by omega)) (by omega) (by omega)) ?_;rintro O _ _ _ SP r he hw h_ hn;replace RC:=RC.cK r (cF w) he (mC h_);replace Qm:=Qm.cK r (cF w) he (mC h_);replace RD:=RD.cK r (cF w) he (mC h_);replace Qn:=Qn.cK r (cF w) he (mC h_);replace hN:=hN.cK r (cF w) he (mC h_);have hD:=hn.dF (S:=FF) r.cG (mN h_);obtain⟨J0,J1,J2,J3,rfl⟩:=hD.shape;refine cE hw (fun _ w' v w2=>dA w2 (Nf w' w2) v (p+q)) (fun O w' r=>(tx p q)▸oz (Rel.old r (cF w)) ((hN.rel r (cF w)).l (k:=200001) (by omega)) ((hD.rel r (cF w)).l (k:=200001) (by omega)) (by omega) (by omega) (ki (iB p) (iB q))) ?_;rintro O _ _ _ TL r he hw h_ hn;have hR:=hn.dF (S:=FF) r.cG (mN h_);obtain⟨K0,K1,K2,K3,K4,K5,K6,K7,rfl⟩:=hR.shape;exact rtn hw fun ρe we re=>hR.out re (cF w)
theorem Hg{v:Value}(hS:Old S w)(hp:fE w S v p)(hq:fE w S u q):
  eG PG N.CS #[v,u] w (eL w fun v' w2=>dA w2 (Nf w w2) v' (p*q)):=by
 have hw:=bR w;replace hp:=hp.cL (S':=Cv S w.heap.size []) fun _ h=>.inl h;replace hq:=hq.cL (S':=Cv S w.heap.size []) fun _ h=>.inl h;obtain⟨b1,a1,n1,c1,b2,a2,n2,c2,rfl⟩:=hp.shape;obtain⟨b3,a3,n3,c3,b4,a4,n4,c4,rfl⟩:=hq.shape;refine D5 (by simp) ?_;have r1:=hp.rl;have r2:=hq.rl;have u1:=gP p;have u2:=fY p;have u3:=gP q;have u4:=fY q;refine cH (cE hw (fun _ w' v w2=>∃n d ok,v= .tuple #[.int .i64 n,.int .i64 d,.bool ok]∧(ok=true->d≠0∧n.natAbs<1073741824∧d.natAbs<1073741824∧Rat.divInt n d=p)) (fun O w' r=>yf (Rel.old r hS) (hp.rel r hS)) ?_);rintro O _ _ _ Og r he hw h_ ⟨a,b,k1,rfl,g1⟩;replace hp:=hp.cK r hS he (mC h_);replace hq:=hq.cK r hS he (mC h_);refine cH (cE hw (fun _ w' v w2=>∃n d ok,v= .tuple #[.int .i64 n,.int .i64 d,.bool ok]∧(ok=true->d≠0∧n.natAbs<1073741824∧d.natAbs<1073741824∧Rat.divInt n d=q)) (fun O w' r=>yf (Rel.old r hS) (hq.rel r hS)) ?_);rintro O _ _ _ OX r he hw h_ ⟨c,d,k2,rfl,g2⟩;replace hp:=hp.cK r hS he (mC h_);replace hq:=hq.cK r hS he (mC h_);refine dN.mk ?_ ?_<;>intro h1
 ·refine dN.mk ?_ ?_<;>intro h2
  ·obtain⟨g3,g4,g5,g6⟩:=g1 h1;obtain⟨g7,g8,g9,g10⟩:=g2 h2;have i1:=jm g4 g9;have i2:=jm g8 g5;have i3:=jm g5 g9;have i4:=jm g4 g8;refine⟨a*c,wo,b*d,wo,?_⟩;have e:=Rat.divInt_mul_divInt a c (d₁:=b) (d₂:=d);rw[g6,g10]at e;refine cH (cE hw (fun _ w' v w2=>dA w2 (Nf w' w2) v (p*q)) (fun O w' r=>e▸rS (a*c) (b*d) w' (by omega) (by omega) (ki g3 g7)) ?_);rintro O Pz v3 Px Oh r he hw h_ hn;have hR:=hn.dF (S:=FF) r.cG (mN h_);obtain⟨A0,A1,A2,A3,A4,A5,A6,A7,rfl⟩:=hR.shape;exact rtn hw fun ρe we re=>hR.out re (cF w)
  refine cQ hτ dx [.x 0,.x 2,.x 1,.x 3,.x 4,.x 5] (by kernel_rfl) (by kernel_rfl) ?_;refine cE hw (fun _ w' v w2=>dA w2 (Nf w' w2) v (p)) (fun O w' r=>jW (Rel.old r hS) (hp.rel r hS)) ?_;rintro O Pz v3 Px Oh r he hw h_ hn;replace hq:=hq.cK r hS he (mC h_);have hX:=hn.dF (S:=FF) r.cG (mN h_);obtain⟨A0,A1,A2,A3,A4,A5,A6,A7,rfl⟩:=hX.shape;refine cE hw (fun _ w' v w2=>dA w2 (Nf w' w2) v (q)) (fun O w' r=>jW (Rel.old r hS) (hq.rel r hS)) ?_;rintro O Ro v4 Qh On r he hw h_ hn;replace hX:=hX.cK r (cF w) he (mC h_);have hY:=hn.dF (S:=FF) r.cG (mN h_);obtain⟨C0,C1,C2,C3,C4,C5,C6,C7,rfl⟩:=hY.shape;have RC:=hX.num;have Qm:=hX.den;have RD:=hY.num;have Qn:=hY.den;have m0:=dE p.num q.den;have m1:=dE q.num p.den;have m2:=dE (p.den:Int) q.den;have m3:=jJ (p.num*q.den) (q.num*p.den);have m4:=dE p.num q.num;refine cQ hτ dx [.x 0,.x 1,.x 2,.x 3,.x 5,.x 6,.x 7,.x 8,.x 4,.x 9,.x 10,.x 11] (by kernel_rfl) (by kernel_rfl) ?_;refine cE hw (fun _ w' v w2=>dS w2 (Nf w' w2) v (p.num*q.num)) (fun O w' r=>jU (Rel.old r (cF w)) ((RC.rel r (cF w)).l (k:=100000) (by omega)) ((RD.rel r (cF w)).l (k:=100000) (by omega)) (by omega) (by omega)) ?_;rintro O Tf v5 UH PN r he hw h_ hn;replace RC:=RC.cK r (cF w) he (mC h_);replace Qm:=Qm.cK r (cF w) he (mC h_);replace RD:=RD.cK r (cF w) he (mC h_);replace Qn:=Qn.cK r (cF w) he (mC h_);have hN:=hn.dF (S:=FF) r.cG (mN h_);obtain⟨E0,E1,E2,E3,rfl⟩:=hN.shape;refine cE hw (fun _ w' v w2=>dS w2 (Nf w' w2) v ((p.den:Int)*(q.den:Int))) (fun O w' r=>jU (Rel.old r (cF w)) ((Qm.rel r (cF w)).l (k:=100000) (by omega)) ((Qn.rel r (cF w)).l (k:=100000) (by omega)) (by omega) (by omega)) ?_;rintro O SQ v6 S6 RI r he hw h_ hn;replace RC:=RC.cK r (cF w) he (mC h_);replace Qm:=Qm.cK r (cF w) he (mC h_);replace RD:=RD.cK r (cF w) he (mC h_);replace Qn:=Qn.cK r (cF w) he (mC h_);replace hN:=hN.cK r (cF w) he (mC h_);have hD:=hn.dF (S:=FF) r.cG (mN h_);obtain⟨F0,F1,F2,F3,rfl⟩:=hD.shape;refine cE hw (fun _ w' v w2=>dA w2 (Nf w' w2) v (p*q)) (fun O w' r=>(yY p q)▸oz (Rel.old r (cF w)) ((hN.rel r (cF w)).l (k:=200001) (by omega)) ((hD.rel r (cF w)).l (k:=200001) (by omega)) (by omega) (by omega) (ki (iB p) (iB q))) ?_;rintro O XU v7 XV RR r he hw h_ hn;have hR:=hn.dF (S:=FF) r.cG (mN h_);obtain⟨G0,G1,G2,G3,G4,G5,G6,G7,rfl⟩:=hR.shape;exact rtn hw fun ρe we re=>hR.out re (cF w)
 refine cQ hτ dx [.x 0,.x 2,.x 1,.x 3,.x 4,.x 5] (by kernel_rfl) (by kernel_rfl) ?_;refine cE hw (fun _ w' v w2=>dA w2 (Nf w' w2) v (p)) (fun O w' r=>jW (Rel.old r hS) (hp.rel r hS)) ?_;rintro O _ _ _ Oh r he hw h_ hn;replace hq:=hq.cK r hS he (mC h_);have hX:=hn.dF (S:=FF) r.cG (mN h_);obtain⟨A0,A1,A2,A3,A4,A5,A6,A7,rfl⟩:=hX.shape;refine cE hw (fun _ w' v w2=>dA w2 (Nf w' w2) v (q)) (fun O w' r=>jW (Rel.old r hS) (hq.rel r hS)) ?_;rintro O _ _ _ On r he hw h_ hn;replace hX:=hX.cK r (cF w) he (mC h_);have hY:=hn.dF (S:=FF) r.cG (mN h_);obtain⟨C0,C1,C2,C3,C4,C5,C6,C7,rfl⟩:=hY.shape;have RC:=hX.num;have Qm:=hX.den;have RD:=hY.num;have Qn:=hY.den;have m0:=dE p.num q.den;have m1:=dE q.num p.den;have m2:=dE (p.den:Int) q.den;have m3:=jJ (p.num*q.den) (q.num*p.den);have m4:=dE p.num q.num;refine cQ hτ dx [.x 0,.x 1,.x 2,.x 3,.x 5,.x 6,.x 7,.x 8,.x 4,.x 9,.x 10,.x 11] (by kernel_rfl) (by kernel_rfl) ?_;refine cE hw (fun _ w' v w2=>dS w2 (Nf w' w2) v (p.num*q.num)) (fun O w' r=>jU (Rel.old r (cF w)) ((RC.rel r (cF w)).l (k:=100000) (by omega)) ((RD.rel r (cF w)).l (k:=100000) (by omega)) (by omega) (by omega)) ?_;rintro O _ _ _ PN r he hw h_ hn;replace RC:=RC.cK r (cF w) he (mC h_);replace Qm:=Qm.cK r (cF w) he (mC h_);replace RD:=RD.cK r (cF w) he (mC h_);replace Qn:=Qn.cK r (cF w) he (mC h_);have hN:=hn.dF (S:=FF) r.cG (mN h_);obtain⟨E0,E1,E2,E3,rfl⟩:=hN.shape;refine cE hw (fun _ w' v w2=>dS w2 (Nf w' w2) v ((p.den:Int)*(q.den:Int))) (fun O w' r=>jU (Rel.old r (cF w)) ((Qm.rel r (cF w)).l (k:=100000) (by omega)) ((Qn.rel r (cF w)).l (k:=100000) (by omega)) (by omega) (by omega)) ?_;rintro O _ _ _ RI r he hw h_ hn;replace RC:=RC.cK r (cF w) he (mC h_);replace Qm:=Qm.cK r (cF w) he (mC h_);replace RD:=RD.cK r (cF w) he (mC h_);replace Qn:=Qn.cK r (cF w) he (mC h_);replace hN:=hN.cK r (cF w) he (mC h_);have hD:=hn.dF (S:=FF) r.cG (mN h_);obtain⟨F0,F1,F2,F3,rfl⟩:=hD.shape;refine cE hw (fun _ w' v w2=>dA w2 (Nf w' w2) v (p*q)) (fun O w' r=>(yY p q)▸oz (Rel.old r (cF w)) ((hN.rel r (cF w)).l (k:=200001) (by omega)) ((hD.rel r (cF w)).l (k:=200001) (by omega)) (by omega) (by omega) (ki (iB p) (iB q))) ?_;rintro O _ _ _ RR r he hw h_ hn;have hR:=hn.dF (S:=FF) r.cG (mN h_);obtain⟨G0,G1,G2,G3,G4,G5,G6,G7,rfl⟩:=hR.shape;exact rtn hw fun ρe we re=>hR.out re (cF w)
theorem GM(n:Int)(w:World)(h1n: -9223372036854775808<=n)(h2n:n<=9223372036854775807):
  eG PG N.qG #[.int .i64 n] w (eL w fun v' w2=>dA w2 (Nf w w2) v' (n:Rat)):=by
 have hw:=bR w;have ha:=Ax h1n h2n;refine qT (by simp) ?_;refine cH (cE hw (fun _ w' v w2=>dS w2 (Nf w' w2) v (n)) (fun O w' r=>mi n w' h1n h2n) ?_);rintro O _ _ _ Og r he hw h_ hn;have hA:=hn.dF (S:=FF) r.cG (mN h_);obtain⟨A0,A1,A2,A3,rfl⟩:=hA.shape;refine cH (cE hw (fun _ w' v w2=>dS w2 (Nf w' w2) v (1)) (fun O w' r=>mi 1 w' (by decide) (by decide)) ?_);rintro O _ _ _ OX r he hw h_ hn;replace hA:=hA.cK r (cF w) he (mC h_);have hB:=hn.dF (S:=FF) r.cG (mN h_);obtain⟨C0,C1,C2,C3,rfl⟩:=hB.shape;refine cH (cE hw (fun _ w' v w2=>dA w2 (Nf w' w2) v ((n:Rat))) (fun O w' r=>(BJ n)▸oz (Rel.old r (cF w)) ((hA.rel r (cF w)).l (k:=2) (by omega)) ((hB.rel r (cF w)).l (k:=2) (by decide)) (by omega) (by omega) (by decide)) ?_);rintro O _ _ _ Oh r he hw h_ hn;have hR:=hn.dF (S:=FF) r.cG (mN h_);obtain⟨E0,E1,E2,E3,E4,E5,E6,E7,rfl⟩:=hR.shape;exact rtn hw fun ρe we re=>hR.out re (cF w)
section
variable{S S':Nat->Prop}{H:Hp}{nx:Nat}{iv iv':Iv}{B:Nat}{w w' w2:World}{O:Nat->Sx.dw}{v:Value}{a:Int}{b:Int}
end
theorem jn.short{b:Bool}{n c:Nat}{z:Int}(h:jn w S (.agg #[.bool b,.slice a n c]) z)(hk:n<=k):fh w S (.agg #[.bool b,.slice a n c]) k z:=by
 obtain⟨b2,ls,⟨lv,e1,h3⟩,h2⟩:=h;obtain⟨a2,c2,e2,_⟩:=h3.sl;subst e2;simp only[Value.agg.injEq,Array.mk.injEq,List.cons.injEq,Value.bool.injEq,Value.slice.injEq,and_true]at e1;obtain⟨rfl,rfl,e3,rfl⟩:=e1;exact⟨_,ls,⟨_,by rw[e3],h3⟩,h2,by omega⟩
def kv(w:World)(S:Nat->Prop)(cs:List Value)(q:Rat):Prop:=∃b a n c b2 a2 n2 c2,cs=[.bool b,.slice a n c,.bool b2,.slice a2 n2 c2]∧fE w S (.agg #[.bool b,.slice a n c,.bool b2,.slice a2 n2 c2]) q
abbrev dQ:=dO kv
abbrev Cl:=cd dQ
section
variable{S S':Nat->Prop}{H:Hp}{nx:Nat}{iv iv':Iv}{B:Nat}{w w' w2:World}{O:Nat->Sx.dw}{v:Value}{qs:List Rat}{cs:List Value}{q:Rat}
theorem kv.cJ(h:kv w S cs q)(hk:∀g,S g->w2.heap[g]? =w.heap[g]?):kv w2 S cs q:=by
 obtain⟨b,a,n,c,b2,a2,n2,c2,h1,h2⟩:=h;exact⟨b,a,n,c,b2,a2,n2,c2,h1,h2.cJ hk⟩
theorem kv.cL(h:kv w S cs q)(hk:∀g,S g->S' g):kv w S' cs q:=by
 obtain⟨b,a,n,c,b2,a2,n2,c2,h1,h2⟩:=h;exact⟨b,a,n,c,b2,a2,n2,c2,h1,h2.cL hk⟩
theorem dQ.cJ(h:dQ w S v qs)(hk:∀g,S g->w2.heap[g]? =w.heap[g]?):dQ w2 S v qs:=by
 obtain⟨css,h1,h2,h3,h4⟩:=h;exact⟨css,h1.cJ hk,h2,h3,fun j cs x k1 k2=>(h4 j cs x k1 k2).cJ hk⟩
theorem dQ.cL(h:dQ w S v qs)(hk:∀g,S g->S' g):dQ w S' v qs:=by
 obtain⟨css,h1,h2,h3,h4⟩:=h;exact⟨css,h1.cL hk,h2,h3,fun j cs x k1 k2=>(h4 j cs x k1 k2).cL hk⟩
theorem Cl.cL(h:Cl w S v M)(hk:∀g,S g->S' g):Cl w S' v M:=by
 obtain⟨rv,h1,h2,h3⟩:=h;exact⟨rv,h1.cL hk,h2,fun i u x k1 k2=>dQ.cL (h3 i u x k1 k2) hk⟩
end
section
variable{S S':Nat->Prop}{H:Hp}{nx:Nat}{iv iv':Iv}{B:Nat}{w w' w2:World}{O:Nat->Sx.dw}{v:Value}{qs:List Rat}
theorem dQ.rel(h:dQ w (Cv S B iv) v qs)(r:Rel H nx iv B w O w')(hS:∀g,S g->g<B):dQ w' (Cv S B iv) v qs:=dQ.cJ h fun _ hg=>Rel.same r hS hg
theorem dQ.cK(h:dQ w (Cv S B iv) v qs)(r:Rel H nx iv B w O w')(hS:∀g,S g->g<B)(he:Ext w' w2)(hm:∀p,p∈iv->p∈iv'):dQ w2 (Cv S B iv') v qs:=
 dQ.cL (dQ.cJ (dQ.rel h r hS) fun g hg=>he.block g (Rel.old r hS g hg)) fun _ hg=>hg.mono hm
end
section
variable{S S':Nat->Prop}{H:Hp}{nx:Nat}{iv iv':Iv}{B:Nat}{w w' w2:World}{O:Nat->Sx.dw}{v:Value}{M:List (List Rat)}
end
def Bj(w:World)(S:Nat->Prop)(css:List (List Value))(qs:List Rat):Prop:=∀(j:Nat) cs q,css[j]? =some cs->qs[j]? =some q->iz w S cs q
section
variable{S S':Nat->Prop}{H:Hp}{nx:Nat}{iv iv':Iv}{B:Nat}{w w' w2:World}{O:Nat->Sx.dw}{css:List (List Value)}{qs:List Rat}
theorem Bj.rel(h:Bj w (Cv S B iv) css qs)(r:Rel H nx iv B w O w')(hS:∀g,S g->g<B):Bj w' (Cv S B iv) css qs:=fun j cs q h1 h2=>(h j cs q h1 h2).cJ fun _ hg=>Rel.same r hS hg
theorem Bj.cK(h:Bj w (Cv S B iv) css qs)(r:Rel H nx iv B w O w')(hS:∀g,S g->g<B)(he:Ext w' w2)(hm:∀p,p∈iv->p∈iv'):Bj w2 (Cv S B iv') css qs:=fun j cs q h1 h2=>
 (((h.rel r hS) j cs q h1 h2).cJ fun g hg=>he.block g (Rel.old r hS g hg)).cL fun _ hg=>hg.mono hm
theorem Bj.push(h:Bj w S css qs)(hq:qs[css.length]? =some q)(hc:iz w S cs q):Bj w S (css++[cs]) qs:=fun j cs' q' h1 h2=>by
 rcases aS j css.length with hj|hj
 ·rw[aK hj]at h1;exact h j cs' q' h1 h2
 ·have VF:j=css.length:=by have:=(aE.1 h1).1;simp at this;omega
  subst VF;rw[aO (Nat.le_refl _),bK]at h1;simp at h1;rw[hq]at h2;injection h2 with h2;subst h1 h2;exact hc
end
theorem BN(h:∀x∈css,x.length=4∧∀u∈x,u.oneCell'=true)(hc:cs.length=4∧∀u∈cs,u.oneCell'=true):∀x∈css++[cs],x.length=4∧∀u∈x,u.oneCell'=true:=fun x hx=>by
 rcases bE.1 hx with hx|hx
 ·exact h x hx
 ·simp at hx;subst hx;exact hc
def aBC(w w2:World)(v:Value)(xs:List Rat):Prop:=∃css:List (List Value),w2.ownsRow w.heap.size T.Rat 4 v xs.length css.flatten∧css.length=xs.length∧(∀cs∈css,cs.length=4∧∀u∈cs,u.oneCell'=true)∧∀(j:Nat) cs q,css[j]? =some cs->xs[j]? =some q->iz w2 (fun g=>Nf w w2 g∧v.ownBlock≠some g) cs q
theorem OK{id n g:Nat}(h:((At.w id n).den O).ownBlock=some g):(O id).nil=false∧(O id).g=g:=by
 cases hn:(O id).nil with
 |true=>rw[show (At.w id n).den O= .slice none 0 0 by simp[At.den,hn]]at h;cases h
 |false=>
  rw[show (At.w id n).den O= .slice (some ⟨(O id).g,0,none⟩) n (O id).cap by simp[At.den,hn]]at h;injection h with h;exact⟨rfl,h⟩
def pN(xs ys:List Rat)(b:Rat):List Rat:=(List.range ys.length).map fun j=>if 0<xs.length then xs.getD j 0+ys.getD j 0*b else ys.getD j 0*b
theorem vC(xs ys:List Rat)(b:Rat):(pN xs ys b).length=ys.length:=by simp[pN]
theorem Cx{j:Nat}(h:j<ys.length):(pN xs ys b)[j]? =some (if 0<xs.length then xs.getD j 0+ys.getD j 0*b else ys.getD j 0*b):=by
 rw[pN,aM,List.getElem?_range h];rfl
theorem M5{v t:Value}(hS:Old S w)(hx:dQ w S v xs)(hy:dQ w S u ys)(hb:fE w S t b)(hlen:xs=[]∨xs.length=ys.length)(hn:ys.length<=1000000)(hbound:∀y∈ys,rl y+rl b<=100000):
  eG PG N.se #[v,u,t] w (eL w fun v' w2=>cO w2 (Nf w w2) v' (pN xs ys b)∧aBC w w2 v' (pN xs ys b)):=by
 have hw:=bR w;obtain⟨ax,cx,rfl,UW,Uo⟩:=dO.shape hx;obtain⟨ay,cy,rfl,hcy,hmy⟩:=dO.shape hy;obtain⟨t0,t1,t2,t3,t4,t5,t6,t7,rfl⟩:=hb.shape;have Pb:=vC xs ys b;refine BY (by simp) ?_
 refine⟨List (List Value)×World×Iv,fun z=>⟨[(0,sV ax xs.length cx),(1,sV ay ys.length cy),(5,pP 0 0),(7,.o (.w 1 z.1.length)),(8,iZ z.1.length)],[(1,.vec T.Rat 4 z.1.flatten),(0,.box T.Rat [.v (.bool t0),.v (.slice t1 t2 t3),.v (.bool t4),.v (.slice t5 t6 t7)])],2,z.2.2,z.2.1⟩,fun z=>ys.length-z.1.length,
  fun z=>z.1.length<=ys.length∧dq w.heap.size w z.2.1∧(∀x∈z.1,x.length=4∧∀u∈x,u.oneCell'=true)∧Bj z.2.1 (Cf w z.2.2) z.1 (pN xs ys b),?_,?_⟩
 ·intro O w' r
  exact⟨([],w',[]),⟨by simp,r.cU,by simp,fun j cs q h=>by simp at h⟩,Sub.nil 7 T.Rat 4 rfl (by simp[kF,SV.sc,At.sc,fm]) r fun ρ1 r1=>
   Sub.gn [] r1⟩
 clear hw;rintro⟨css,w1,iv⟩ ⟨hi,hw,h4,Pp⟩;dsimp only at hi hw h4 Pp ⊢;have PA:=ei fun x hx=>(h4 x hx).1;refine dN.mk ?_ ?_<;>intro OU
 ·have OU:css.length<ys.length:=by simpa using OU
  obtain⟨y,UA⟩:∃y,ys[css.length]? =some y:=⟨_,aA OU⟩
  obtain⟨ady,csy,Up,Rn,_,Qj⟩:=dO.load hy UA;obtain⟨p0,p1,p2,p3,p4,p5,p6,p7,rfl,Rn⟩:=Rn;have hyd:ys.getD css.length 0=y:=by rw[List.getD,UA];rfl
  have Wj:=Cx (xs:=xs) (b:=b) OU;rw[hyd]at Wj;have Ow:=hbound y (aD UA);have hrm:=ic y b;refine dN.mk ?_ ?_<;>intro Rg
  ·have Rg:0<xs.length:=by have:=aI Rg;omega
   have QO:css.length<xs.length:=hlen.elim (fun h=>by rw[h]at Rg;simp at Rg) (fun h=>by omega);obtain⟨x,QG⟩:∃x,xs[css.length]? =some x:=⟨_,aA QO⟩
   obtain⟨adx,csx,Pq,R6,_,PO⟩:=dO.load hx QG;obtain⟨q0,q1,q2,q3,q4,q5,q6,q7,rfl,R6⟩:=R6;have Uw:xs.getD css.length 0=x:=by rw[List.getD,QG];rfl
   rw[if_pos Rg,Uw]at Wj;refine⟨ady,Up,by omega,[.bool p0,.slice p1 p2 p3,.bool p4,.slice p5 p6 p7],rfl,fun O w' r i x hx=>?_,?_⟩
   ·obtain⟨k1,k2⟩:=Qj i x hx;rw[aF,cI (w:=w) (w2:=w') (by rw[dC,dC];exact(hw.tr r.cU).block _ (hS _ k1))];exact k2
   refine cH (cE hw (fun _ w' v w2=>v= .int .i64 (rs y)) (fun O w' r=>Hf (oS hS r) (Rn.cJ (kS hw r hS))) ?_);rintro O QU v1 QJ Og r he hw h_ rfl;replace Pp:=Pp.cK r (cF w) he (mC h_);clear r;refine dN.mk ?_ ?_<;>intro hs
   ·have hs:y=0:=ya.1 (by simpa using hs);rw[hs,bI,bQ]at Wj;refine⟨adx,Pq,by omega,[.bool q0,.slice q1 q2 q3,.bool q4,.slice q5 q6 q7],rfl,fun O w' r i x hx=>?_,?_⟩
    ·obtain⟨k1,k2⟩:=PO i x hx;rw[aF,cI (w:=w) (w2:=w') (by rw[dC,dC];exact(hw.tr r.cU).block _ (hS _ k1))];exact k2
    refine cH (cE hw (fun _ w' v w2=>dA w2 (Nf w' w2) v (x)) (fun O w' r=>jW (oS hS r) (R6.cJ (kS hw r hS))) ?_);rintro O QQ v2 Pn OX r he hw h_ hn;replace Pp:=Pp.cK r (cF w) he (mC h_);have UP:=hn.dF (S:=FF) r.cG (mN h_);clear r hn;obtain⟨A0,A1,A2,A3,A4,A5,A6,A7,rfl⟩:=UP.shape;refine .inl ?_;refine⟨PA,by omega,by unfold maxLen;omega,((css.length+1:Nat):Int),wo,?_⟩;intro ρ3 w3 r3;have QL:(css++[[Value.bool A0,.slice A1 A2 A3,.bool A4,.slice A5 A6 A7]]).length=css.length+1:=by simp
    have Wy:(css++[[Value.bool A0,.slice A1 A2 A3,.bool A4,.slice A5 A6 A7]]).flatten=css.flatten++[Value.bool A0,.slice A1 A2 A3,.bool A4,.slice A5 A6 A7]:=by simp
    exact⟨(css++[[.bool A0,.slice A1 A2 A3,.bool A4,.slice A5 A6 A7]],w3,_),⟨by dsimp only;rw[QL];exact OU,hw.tr r3.cU,BN h4 ⟨rfl,by intro u hu;simp at hu;rcases hu with rfl|rfl|rfl|rfl<;>rfl⟩,(Pp.rel r3 (cF w)).push Wj (UP.rel r3 (cF w)).sH⟩,
     Sub.gn [(1,3)] r3 ⟨by dsimp only;rw[Wy];rfl,rfl,trivial⟩ ⟨rfl,rfl,rfl,by dsimp only;rw[QL];rfl,by dsimp only;rw[QL];rfl,trivial⟩,by dsimp only;rw[QL];omega⟩
   refine cQ hτ dx [.x 0,.x 1,.x 2,.x 3,.x 4,.p 6,.x 5,.x 6,.x 7] (by kernel_rfl) (by kernel_rfl) ?_;refine⟨ady,Up,by omega,[.bool p0,.slice p1 p2 p3,.bool p4,.slice p5 p6 p7],rfl,fun O w' r i x hx=>?_,?_⟩
   ·obtain⟨k1,k2⟩:=Qj i x hx;rw[aF,cI (w:=w) (w2:=w') (by rw[dC,dC];exact(hw.tr r.cU).block _ (hS _ k1))];exact k2
   refine cE hw (fun _ w' v w2=>dA w2 (Nf w' w2) v (y*b)) (fun O w' r=>Hg (oS hS r) (Rn.cJ (kS hw r hS)) (hb.cJ (kS hw r hS))) ?_;rintro O _ _ _ OX r he hw h_ hn;replace Pp:=Pp.cK r (cF w) he (mC h_);have hm:=hn.dF (S:=FF) r.cG (mN h_);clear r hn;obtain⟨A0,A1,A2,A3,A4,A5,A6,A7,rfl⟩:=hm.shape;refine dN.mk (fun Sl=>?_) (fun Sl=>absurd Rg (by have:=aH Sl;omega));refine cQ hτ dx [.x 0,.x 1,.x 2,.x 3,.x 4,.x 5,.x 6] (by kernel_rfl) (by kernel_rfl) ?_;refine⟨adx,Pq,by omega,[.bool q0,.slice q1 q2 q3,.bool q4,.slice q5 q6 q7],rfl,fun O w' r i x hx=>?_,?_⟩
   ·obtain⟨k1,k2⟩:=PO i x hx;rw[aF,cI (w:=w) (w2:=w') (by rw[dC,dC];exact(hw.tr r.cU).block _ (hS _ k1))];exact k2
   refine cE hw (fun _ w' v w2=>dA w2 (Nf w' w2) v (x+y*b)) (fun O w' r=>M4 (Rel.old r hS) ((R6.cJ (kS hw r hS)).cL fun g hg=>Or.inl hg) (((hm.rel r (cF w)).l (by omega)).cL fun g hg=>Cv.false hg)) ?_;rintro O _ _ _ Oh r he hw h_ hn;replace Pp:=Pp.cK r (cF w) he (mC h_);clear hm;have UP:=hn.dF (S:=FF) r.cG (mN h_);clear r hn;obtain⟨C0,C1,C2,C3,C4,C5,C6,C7,rfl⟩:=UP.shape;refine .inl ?_;refine⟨PA,by omega,by unfold maxLen;omega,((css.length+1:Nat):Int),wo,?_⟩;intro ρ3 w3 r3;have QL:(css++[[Value.bool C0,.slice C1 C2 C3,.bool C4,.slice C5 C6 C7]]).length=css.length+1:=by simp
   have Wy:(css++[[Value.bool C0,.slice C1 C2 C3,.bool C4,.slice C5 C6 C7]]).flatten=css.flatten++[Value.bool C0,.slice C1 C2 C3,.bool C4,.slice C5 C6 C7]:=by simp
   exact⟨(css++[[.bool C0,.slice C1 C2 C3,.bool C4,.slice C5 C6 C7]],w3,_),⟨by dsimp only;rw[QL];exact OU,hw.tr r3.cU,BN h4 ⟨rfl,by intro u hu;simp at hu;rcases hu with rfl|rfl|rfl|rfl<;>rfl⟩,(Pp.rel r3 (cF w)).push Wj (UP.rel r3 (cF w)).sH⟩,
    Sub.gn [(1,4)] r3 ⟨by dsimp only;rw[Wy];rfl,rfl,trivial⟩ ⟨rfl,rfl,rfl,by dsimp only;rw[QL];rfl,by dsimp only;rw[QL];rfl,trivial⟩,by dsimp only;rw[QL];omega⟩
  have Rg:¬0<xs.length:=by have:=aH Rg;omega
  rw[aJ Rg]at Wj;refine cQ hτ dx [.x 0,.x 1,.x 2,.x 3,.x 4,.p 6,.x 5,.x 6,.x 7] (by kernel_rfl) (by kernel_rfl) ?_;refine⟨ady,Up,by omega,[.bool p0,.slice p1 p2 p3,.bool p4,.slice p5 p6 p7],rfl,fun O w' r i x hx=>?_,?_⟩
  ·obtain⟨k1,k2⟩:=Qj i x hx;rw[aF,cI (w:=w) (w2:=w') (by rw[dC,dC];exact(hw.tr r.cU).block _ (hS _ k1))];exact k2
  refine cE hw (fun _ w' v w2=>dA w2 (Nf w' w2) v (y*b)) (fun O w' r=>Hg (oS hS r) (Rn.cJ (kS hw r hS)) (hb.cJ (kS hw r hS))) ?_;rintro O _ _ _ Og r he hw h_ hn;replace Pp:=Pp.cK r (cF w) he (mC h_);have hm:=hn.dF (S:=FF) r.cG (mN h_);clear r hn;obtain⟨E0,E1,E2,E3,E4,E5,E6,E7,rfl⟩:=hm.shape;refine dN.mk (fun Sl=>absurd (aI Sl) (by omega)) (fun Sl=>?_);refine .inl ?_;refine⟨PA,by omega,by unfold maxLen;omega,((css.length+1:Nat):Int),wo,?_⟩;intro ρ3 w3 r3;have QL:(css++[[Value.bool E0,.slice E1 E2 E3,.bool E4,.slice E5 E6 E7]]).length=css.length+1:=by simp
  have Wy:(css++[[Value.bool E0,.slice E1 E2 E3,.bool E4,.slice E5 E6 E7]]).flatten=css.flatten++[Value.bool E0,.slice E1 E2 E3,.bool E4,.slice E5 E6 E7]:=by simp
  exact⟨(css++[[.bool E0,.slice E1 E2 E3,.bool E4,.slice E5 E6 E7]],w3,_),⟨by dsimp only;rw[QL];exact OU,hw.tr r3.cU,BN h4 ⟨rfl,by intro u hu;simp at hu;rcases hu with rfl|rfl|rfl|rfl<;>rfl⟩,(Pp.rel r3 (cF w)).push Wj (hm.rel r3 (cF w)).sH⟩,
   Sub.gn [(1,4)] r3 ⟨by dsimp only;rw[Wy];rfl,rfl,trivial⟩ ⟨rfl,rfl,rfl,by dsimp only;rw[QL];rfl,by dsimp only;rw[QL];rfl,trivial⟩,by dsimp only;rw[QL];omega⟩
 have OU:css.length=ys.length:=aU hi (by simpa using OU);intro ρe we re;have Po:∀u∈css.flatten,u.oneCell'=true:=fun u hu=>by
  obtain⟨cs,hc,hu⟩:=List.mem_flatten.1 hu;exact(h4 cs hc).2 u hu
 refine⟨_,rfl,hw.tr re.cU,?_,css,by rw[Pb,<-OU];exact Ek re (id:=1) rfl PA (by decide),by rw[Pb];exact OU,h4,fun j cs q k1 k2=>((Pp j cs q k1 k2).cJ fun g hg=>Rel.same re (cF w) hg).cL fun g hg=>⟨Cv.nw hg re,fun e=>Rel.not re (cF w) hg 1 _ rfl (OK e).1 (OK e).2⟩⟩;refine⟨css,?_,by rw[Pb];exact OU,fun cs hc=>(h4 cs hc).1,fun j cs q k1 k2=>((Pp j cs q k1 k2).cJ fun g hg=>Rel.same re (cF w) hg).cL fun g hg=>Cv.nw hg re⟩;have:=re.iD (id:=1) (sz:=4) (m:=css.length) rfl PA (by unfold maxLen;omega) (by decide) Po;rw[Pb,<-OU];exact this.cL fun g hg=>.inr hg
theorem EC{v t:Value}(hS:Old S w)(hx:dQ w S v xs)(hy:dQ w S u ys)(hb:fE w S t b)(hlen:xs=[]∨xs.length=ys.length)(hn:ys.length<=1000000)(hbound:∀y∈ys,rl y+rl b<=100000):
  eG PG N.se #[v,u,t] w (eL w fun v' w2=>cO w2 (Nf w w2) v' (pN xs ys b)):=
 (M5 hS hx hy hb hlen hn hbound).mono fun _ _ ⟨v2,e1,e2,e3,_⟩=>⟨v2,e1,e2,e3⟩
end Go.Ex
namespace Go.Ex
variable{M:List (List Rat)}{s:List (List Rat)×List Nat}{c:Nat}
theorem Gi{r k R:Nat}(hk:r<=k)(hR:k<=R)(h:∀j,r<=j->j<k->dK M j c=0):fy M c (R-r) r=fy M c (R-k) k:=by
 induction k with
 |zero=>
  have:r=0:=by omega
  subst this;rfl
 |succ k ih=>
  rcases aS k r with h1|h1
  ·have:r=k+1:=by omega
   subst this;rfl
  ·rw[ih h1 (by omega) fun j h2 h3=>h j h2 (by omega),show R-k=(R-(k+1))+1 by omega,zE (h k h1 (by omega))]
theorem kO{α:Type}{l:List α}{i:Nat}{x:α}(h:i<l.length):l.take i++[x]++l.drop (i+1)=l.set i x:=by
 rw[List.set_eq_take_append_cons_drop,if_pos h];simp
theorem Gj(h:¬s.2.length<s.1.length∨fy s.1 c (s.1.length-s.2.length) s.2.length=s.1.length):dX s c=s:=by
 unfold dX;split
 ·rcases h with h|h
  ·exact absurd ‹_› h
  ·dsimp only;rw[if_pos h]
 ·rfl
theorem zF{k:Nat}(hk:s.2.length<=k)(hl:k<s.1.length)(h:∀j,s.2.length<=j->j<k->dK s.1 j c=0)(hn:dK s.1 k c≠0):
  dX s c=(df (scaled (fc [] s.1 s.2.length k) s.2.length c) s.2.length c s.1.length,s.2++[c]):=by
 have e:fy s.1 c (s.1.length-s.2.length) s.2.length=k:=by
  rw[Gi hk (by omega) h,show s.1.length-k=(s.1.length-k-1)+1 by omega,zG hn]
 unfold dX;rw[if_pos (by omega)];dsimp only
 rw[e,aJ (by omega),ix,fQ]
end Go.Ex
namespace Go.Ex
open Go Go.Sx Go.Proofs
variable{qs:List Rat}{S:Nat->Prop}
theorem wS(ys:List Rat)(b:Rat):pN [] ys b=ys.map (· *b):=by
 refine bH fun j=>?_;rcases aS j ys.length with h|h
 ·rw[Cx h,aJ (by simp),aM,List.getD,aA h];rfl
 ·rw[List.getElem?_eq_none (by rw[vC];exact h),List.getElem?_eq_none (by simp;exact h)]
theorem cO.l{w:World}{v:Value}(h:cO w S v qs)(hq:∀q∈qs,rl q<=100000):dQ w S v qs:=by
 obtain⟨css,h1,h2,h3,h4⟩:=h;refine⟨css,h1,h2,h3,fun j cs q k1 k2=>?_⟩;obtain⟨b,a,n,c,b2,a2,n2,c2,e,hc⟩:=h4 j cs q k1 k2;exact⟨b,a,n,c,b2,a2,n2,c2,e,hc.l (hq q (aD k2))⟩
theorem dQ.nil(w:World)(S:Nat->Prop):dQ w S (.slice none 0 0) []:=⟨[],⟨by simp,by simp,by simp,none,0,rfl,Nat.le_refl _,by simp⟩,rfl,by simp,by simp⟩
section
variable{S S':Nat->Prop}{H:Hp}{nx:Nat}{iv iv':Iv}{B:Nat}{w w' w2:World}{O:Nat->Sx.dw}{rv:List Value}{M:List (List Rat)}
end
end Go.Ex
