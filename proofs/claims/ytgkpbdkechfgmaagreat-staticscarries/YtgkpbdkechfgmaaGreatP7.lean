/- Texts X61 to X77: lemmas, each with its conditions. -/
import Derived.Test.YtgkpbdkechfgmaaGreatP6
namespace Go.Ex
open Go Go.Sx Go.Proofs
variable{x y:Int}{M:List (List Rat)}{css:List (List Value)}{Q:List Int}{xs ys:List Rat}{cs:List Value}{k:Nat}{S:Nat->Prop}{O:Nat->Sx.dx}{a:Option Addr}{b p q:Rat}{u:Value}{w:World}
def MJ:Value:=.agg #[.bool false,.slice none 0 0]
theorem dL.nil(w:World)(S:Nat->Prop):dL w S (.agg #[.bool false,.slice none 0 0]) 0:=⟨[],⟨_,rfl,dQ.nil _ _⟩,fun x h=>by simp at h,rfl⟩
theorem aAv(h:∀c∈Q,0<=c∧c<=65535):0<=dS Q:=by
 induction Q with
 |nil=>exact Int.le_refl _
 |cons c r ih=>
  have h1:=h c aG;have h2:=ih fun x hx=>h x (List.mem_cons_of_mem _ hx);rw[dS];omega
theorem Av{n:Int}(h:0<=n)(h2:n<4294967296):ln n.natAbs<=1:=gB.2 (by show n.natAbs<4294967296^1;omega)
theorem Jb{v:Value}{l:Nat}(hS:Old S w)(hx:fY w S v k x)(hy:fY w S u l y)(hk:k<=1000000)(hl:l<=1000000):
  eA PG N.oO #[v,u] w (eF w fun v' w2=>(y=0∧v'= .tuple #[MJ,MJ,.int .i64 9])∨(y≠0∧∃q r,v'= .tuple #[q,r,.int .i64 0]∧dL w2 (Nf w w2) q (x / y)∧dL w2 (Nf w w2) r (x % y))):=by
 have hw:=bR w;replace hx:=hx.cK (S':=Cv S w.heap.size []) fun _ h=>.inl h;replace hy:=hy.cK (S':=Cv S w.heap.size []) fun _ h=>.inl h;obtain⟨b1,a1,n1,c1,rfl⟩:=hx.shape;obtain⟨b2,a2,n2,c2,rfl⟩:=hy.shape;refine xn (by simp) ?_;have QP:=hy.ln;refine cF (cE hw (fun _ w' v w2=>v= .int .i64 y.sign) (fun O w' r=>ga (Rel.old r hS) (hy.rel r hS).r) ?_);rintro O _ _ _ OJ r he hw h_ rfl;replace hx:=hx.cG r hS he (mC h_);replace hy:=hy.cG r hS he (mC h_);refine dK.mk ?_ ?_<;>intro Pe
 ·have Pe:y=0:=by rcases gG y with h|h|h<;>simp[h]at Pe ⊢
  exact rtn hw fun ρe we re=>.inl ⟨Pe,rfl⟩
 have Pe:y≠0:=fun e=>by rw[e]at Pe;simp at Pe
 refine cM hτ df [.x 0,.x 3,.p 5,.x 1,.x 2,.x 4,.x 5,.x 6,.x 7] (by kernel_rfl) (by kernel_rfl) ?_;refine cE hw (fun _ w' v w2=>dL w2 (Nf w' w2) v ((x.natAbs:Int))) (fun O w' r=>yU (Rel.old r hS) (hx.rel r hS) (by omega)) ?_;rintro O _ _ _ OG r he hw h_ hn;replace hx:=hx.cG r hS he (mC h_);replace hy:=hy.cG r hS he (mC h_);have hsx:=hn.dB (S:=FF) r.cD (mN h_);obtain⟨A0,A1,A2,A3,rfl⟩:=hsx.shape;have Oa:=hx.ln;refine cE hw (fun _ w' v w2=>∃cs,eD w2 (Nf w' w2) v cs∧BY cs (2*k) ((x.natAbs:Int))) (fun O w' r=>rD (Rel.old r (cC w)) ((hsx.rel r (cC w)).l (k:=k) (by rw[Int.natAbs_natCast];exact Oa)) (by omega)) ?_;rintro O _ _ _ ON r he hw h_ ⟨ca,k1,bca⟩;replace hx:=hx.cG r hS he (mC h_);replace hy:=hy.cG r hS he (mC h_);have Ot:=k1.dB (S:=FF) r.cD (mN h_);obtain⟨aca,cca,rfl,lca⟩:=Ot.shape;refine cE hw (fun _ w' v w2=>dL w2 (Nf w' w2) v ((y.natAbs:Int))) (fun O w' r=>yU (Rel.old r hS) (hy.rel r hS) (by omega)) ?_;rintro O _ _ _ OZ r he hw h_ hn;replace hx:=hx.cG r hS he (mC h_);replace hy:=hy.cG r hS he (mC h_);replace Ot:=Ot.cG r (cC w) he (mC h_);have OQ:=hn.dB (S:=FF) r.cD (mN h_);obtain⟨C0,C1,C2,C3,rfl⟩:=OQ.shape;generalize hB:(y.natAbs:Int)=B at*
 have l1:=bca.2.1;have hB0:0<B:=by omega
 have lB:ln B.natAbs<=l:=by rw[<-hB,Int.natAbs_natCast];exact QP
 refine⟨(ca.length:Int)-1,wo,Nat×List Int×Int×(Bool×Option Addr×Nat×Nat)×World×Iv,fun z=>⟨[(2,pP 0 0),(3,pP 1 0),(4,pP 2 0),(5,pP 3 0),(6,iZ 0),(7,sV aca ca.length cca),(8,pP 4 0),(9,.o (.w 6 z.2.1.length)),(10,pP 5 0),(11,.o (.v (.int .i64 ((z.1:Int)-1))))],[(6,.vec T.int 1 (z.2.1.map (Value.int .i64))),(5,.box T.Int [.v (.bool z.2.2.2.1.1),.v (.slice z.2.2.2.1.2.1 z.2.2.2.1.2.2.1 z.2.2.2.1.2.2.2)]),(4,.box T.Int [.v (.bool C0),.v (.slice C1 C2 C3)]),(3,.box T.Int [.v (.bool false),.v (.slice none 0 0)]),(2,.box T.Int [.v (.bool false),.v (.slice none 0 0)]),(1,.box T.Int [.v (.bool b2),.v (.slice a2 n2 c2)]),(0,.box T.Int [.v (.bool b1),.v (.slice a1 n1 c1)])],7,z.2.2.2.2.2,z.2.2.2.2.1⟩,fun z=>z.1,
  fun z=>z.1<=ca.length∧z.2.1.length+z.1=ca.length∧(∀c∈z.2.1,0<=c∧c<=65535)∧dS (ca.drop z.1)=B*dS z.2.1+z.2.2.1∧0<=z.2.2.1∧z.2.2.1<B∧eE w.heap.size w z.2.2.2.2.1∧fY z.2.2.2.2.1 (Cv S w.heap.size z.2.2.2.2.2) (.agg #[.bool b1,.slice a1 n1 c1]) k x∧fY z.2.2.2.2.1 (Cv S w.heap.size z.2.2.2.2.2) (.agg #[.bool b2,.slice a2 n2 c2]) l y∧eD z.2.2.2.2.1 (Cf w z.2.2.2.2.2) (.slice aca ca.length cca) ca∧dL z.2.2.2.2.1 (Cf w z.2.2.2.2.2) (.agg #[.bool C0,.slice C1 C2 C3]) B∧dL z.2.2.2.2.1 (Cf w z.2.2.2.2.2) (.agg #[.bool z.2.2.2.1.1,.slice z.2.2.2.1.2.1 z.2.2.2.1.2.2.1 z.2.2.2.1.2.2.2]) z.2.2.1,?_,?_⟩
 ·intro O w' r
  exact⟨(ca.length,[],0,(false,none,0,0),w',OZ),⟨aF _,by simp,by simp,by simp[dS],Int.le_refl _,hB0,hw.tr r.cQ,hx.rel r hS,hy.rel r hS,Ot.rel r (cC w),OQ.rel r (cC w),dL.nil _ _⟩,Sub.nil 9 T.int 1 rfl (by simp[j8,SV.sc,At.sc]) r fun ρ1 r1=>
   Sub.gn [] r1⟩
 rintro⟨j,Q,R,⟨br,ar,nr,cr⟩,w1,iv⟩ ⟨hj,hQ,hd,hv,hR0,hR1,hw,hx,hy,Ot,OQ,hr⟩;dsimp only at hj hQ hd hv hR0 hR1 hw hx hy Ot OQ hr ⊢;refine dK.mk ?_ ?_<;>intro OC
 ·obtain⟨i,rfl⟩:∃i,j=i+1:=⟨j-1,by have:(j:Int)-1≥0:=aI OC;omega⟩
  rw[show ((i+1:Nat):Int)-1=(i:Int) by omega];obtain⟨d,RL⟩:∃d,ca[i]? =some d:=⟨_,aB (by omega)⟩
  have TW:=bca.2.2.1 d (aC RL);have Oc:=bca.2.2.2 (by omega) d (aC RL);have lR:ln R.natAbs<=l:=aX (fP (by omega)) lB;have lU:ln (65536:Int).natAbs<=1:=by decide
  have m1:=dA R 65536;have m2:=Av (n:=d) Oc (by omega);have m3:=ie (R*65536) d;refine cM hτ df [.x 0,.x 3,.x 4,.x 5,.x 6,.x 1,.x 2,.x 7,.x 8,.x 9] (by kernel_rfl) (by kernel_rfl) ?_;obtain⟨ad,ha0,q1,q2⟩:=Ot.load RL;refine⟨ad,ha0,by omega,.int .i64 d,fun O w' r=>?_,?_⟩
  ·rw[aE,cH (w:=w1) (w2:=w') (by rw[dN];exact Rel.same (S:=FF) r (cC w) q1)];exact q2
  refine cE hw (fun _ w' v w2=>dL w2 (Nf w' w2) v (65536)) (fun O w' r=>kj _ w' (by decide) (by decide)) ?_;rintro O RY v5 RO PF r he hw h_ hn;replace hx:=hx.cG r hS he (mC h_);replace hy:=hy.cG r hS he (mC h_);replace Ot:=Ot.cG r (cC w) he (mC h_);replace OQ:=OQ.cG r (cC w) he (mC h_);replace hr:=hr.cG r (cC w) he (mC h_);have hu:=hn.dB (S:=FF) r.cD (mN h_);obtain⟨E0,E1,E2,E3,rfl⟩:=hu.shape;refine cE hw (fun _ w' v w2=>dL w2 (Nf w' w2) v (R*65536)) (fun O w' r=>iJ (Rel.old r (cC w)) ((hr.rel r (cC w)).l (k:=1000001) (by omega)) ((hu.rel r (cC w)).l (k:=1000001) (by omega)) (by omega) (by omega)) ?_;rintro O RR v6 RZ Q2 r he hw h_ hn;replace hx:=hx.cG r hS he (mC h_);replace hy:=hy.cG r hS he (mC h_);replace Ot:=Ot.cG r (cC w) he (mC h_);replace OQ:=OQ.cG r (cC w) he (mC h_);have hp:=hn.dB (S:=FF) r.cD (mN h_);obtain⟨F0,F1,F2,F3,rfl⟩:=hp.shape;refine cE hw (fun _ w' v w2=>dL w2 (Nf w' w2) v (d)) (fun O w' r=>kj _ w' (by omega) (by omega)) ?_;rintro O Tc v7 Td RP r he hw h_ hn;replace hx:=hx.cG r hS he (mC h_);replace hy:=hy.cG r hS he (mC h_);replace Ot:=Ot.cG r (cC w) he (mC h_);replace OQ:=OQ.cG r (cC w) he (mC h_);replace hp:=hp.cG r (cC w) he (mC h_);have hdd:=hn.dB (S:=FF) r.cD (mN h_);obtain⟨G0,G1,G2,G3,rfl⟩:=hdd.shape;refine cE hw (fun _ w' v w2=>dL w2 (Nf w' w2) v (R*65536+d)) (fun O w' r=>Au (Rel.old r (cC w)) ((hp.rel r (cC w)).l (k:=1000002) (by omega)) ((hdd.rel r (cC w)).l (k:=1000002) (by omega)) (by omega) (by omega)) ?_;rintro O Tw v8 UZ Rg r he hw h_ hn;replace hx:=hx.cG r hS he (mC h_);replace hy:=hy.cG r hS he (mC h_);replace Ot:=Ot.cG r (cC w) he (mC h_);replace OQ:=OQ.cG r (cC w) he (mC h_);have hr:=hn.dB (S:=FF) r.cD (mN h_);obtain⟨J0,J1,J2,J3,rfl⟩:=hr.shape;generalize Ql:R*65536+d=R2 at*
  have hR20:0<=R2:=by omega
  have hR21:R2<65536*B:=by omega
  refine⟨Nat×Nat×Nat×World×Iv,fun z=>⟨[(2,pP 0 0),(3,pP 1 0),(4,pP 2 0),(5,pP 3 0),(6,iZ 0),(7,sV aca ca.length cca),(8,pP 4 0),(9,.o (.w 6 Q.length)),(10,pP 5 0),(11,.o (.v (.int .i64 ((i:Int))))),(12,iN z.1),(13,iN z.2.2.1)],[(6,.vec T.int 1 (Q.map (Value.int .i64))),(5,.box T.Int [.v (.bool J0),.v (.slice J1 J2 J3)]),(4,.box T.Int [.v (.bool C0),.v (.slice C1 C2 C3)]),(3,.box T.Int [.v (.bool false),.v (.slice none 0 0)]),(2,.box T.Int [.v (.bool false),.v (.slice none 0 0)]),(1,.box T.Int [.v (.bool b2),.v (.slice a2 n2 c2)]),(0,.box T.Int [.v (.bool b1),.v (.slice a1 n1 c1)])],7,z.2.2.2.2,z.2.2.2.1⟩,fun z=>z.2.1,
   fun z=>z.2.2.1=2^z.2.1 / 2∧z.1+2^z.2.1<=65536∧((z.1:Nat):Int)*B<=R2∧R2<((z.1+2^z.2.1:Nat):Int)*B∧eE w.heap.size w z.2.2.2.1∧fY z.2.2.2.1 (Cv S w.heap.size z.2.2.2.2) (.agg #[.bool b1,.slice a1 n1 c1]) k x∧fY z.2.2.2.1 (Cv S w.heap.size z.2.2.2.2) (.agg #[.bool b2,.slice a2 n2 c2]) l y∧eD z.2.2.2.1 (Cf w z.2.2.2.2) (.slice aca ca.length cca) ca∧dL z.2.2.2.1 (Cf w z.2.2.2.2) (.agg #[.bool C0,.slice C1 C2 C3]) B∧dL z.2.2.2.1 (Cf w z.2.2.2.2) (.agg #[.bool J0,.slice J1 J2 J3]) R2,?_,?_⟩
  ·intro O w' r
   exact⟨(0,16,32768,w',Rg),⟨by show 32768=2^16 / 2;decide,by show 0+2^16<=65536;decide,by dsimp only;omega,by dsimp only;rw[show ((0+2^16:Nat):Int)=65536 from rfl];exact hR21,hw.tr r.cQ,hx.rel r hS,hy.rel r hS,Ot.rel r (cC w),OQ.rel r (cC w),hr.rel r (cC w)⟩,
    Sub.gn [] r⟩
  rintro⟨n,e,bit,w5,iv⟩ ⟨hn0,hn1,RV,Uv,hw,hx,hy,Ot,OQ,hr⟩;dsimp only at hn0 hn1 RV Uv hw hx hy Ot OQ hr ⊢;refine dK.mk ?_ ?_<;>intro Th
  ·have Th:0<2^e / 2:=by have:((bit:Nat):Int)>0:=aI Th;omega
   obtain⟨f,rfl⟩:∃f,e=f+1:=by
    cases e with
    |zero=>exact absurd Th (by decide)
    |succ f=>exact⟨f,rfl⟩
   have e1:2^(f+1)=2*2^f:=by rw[Nat.pow_succ];omega
   have e2:2^(f+1) / 2=2^f:=by omega
   obtain rfl:bit=2^f:=by omega
   rw[e1]at hn1 Uv;have Vr:=bm f;generalize hp:2^f=p at*
   have m4:=Av (n:=((n+p:Nat):Int)) (by omega) (by omega);have m5:=dA B ((n+p:Nat):Int);have m6:ln R2.natAbs<=l+1:=by
    refine aX (fP (b:=((65536:Int)*B).natAbs) (by omega)) ?_;have:=dA 65536 B;omega
   refine cM hτ df [.x 0,.x 1,.x 2,.x 3,.x 6,.x 4,.x 5,.x 7,.x 8] (by kernel_rfl) (by kernel_rfl) ?_;refine⟨((n+p:Nat):Int),wo,?_⟩;refine cE hw (fun _ w' v w2=>dL w2 (Nf w' w2) v (((n+p:Nat):Int))) (fun O w' r=>kj _ w' (by omega) (by omega)) ?_;rintro O Rh v9 Rv SK r he hw h_ hn;replace hx:=hx.cG r hS he (mC h_);replace hy:=hy.cG r hS he (mC h_);replace Ot:=Ot.cG r (cC w) he (mC h_);replace OQ:=OQ.cG r (cC w) he (mC h_);replace hr:=hr.cG r (cC w) he (mC h_);have hu:=hn.dB (S:=FF) r.cD (mN h_);obtain⟨K0,K1,K2,K3,rfl⟩:=hu.shape;refine cE hw (fun _ w' v w2=>dL w2 (Nf w' w2) v (B*((n+p:Nat):Int))) (fun O w' r=>iJ (Rel.old r (cC w)) ((OQ.rel r (cC w)).l (k:=1000001) (by omega)) ((hu.rel r (cC w)).l (k:=1000001) (by omega)) (by omega) (by omega)) ?_;rintro O wa10 v10 wb10 RH r he hw h_ hn;replace hx:=hx.cG r hS he (mC h_);replace hy:=hy.cG r hS he (mC h_);replace Ot:=Ot.cG r (cC w) he (mC h_);replace OQ:=OQ.cG r (cC w) he (mC h_);replace hr:=hr.cG r (cC w) he (mC h_);have QB:=hn.dB (S:=FF) r.cD (mN h_);obtain⟨N0,N1,N2,N3,rfl⟩:=QB.shape;refine cE hw (fun _ w' v w2=>v= .int .i64 (B*((n+p:Nat):Int)-R2).sign) (fun O w' r=>JZ (Rel.old r (cC w)) ((QB.rel r (cC w)).l (k:=1000001) (by omega)) ((hr.rel r (cC w)).l (k:=1000001) (by omega)) (by omega) (by omega)) ?_;rintro O Qq v11 RG QV r he hw h_ rfl;replace hx:=hx.cG r hS he (mC h_);replace hy:=hy.cG r hS he (mC h_);replace Ot:=Ot.cG r (cC w) he (mC h_);replace OQ:=OQ.cG r (cC w) he (mC h_);replace hr:=hr.cG r (cC w) he (mC h_);have hs:=gG (B*((n+p:Nat):Int)-R2);refine dK.mk ?_ ?_<;>intro hle
   ·have hle:=aI hle;have Ub:((n+p:Nat):Int)*B<=R2:=by rw[Int.mul_comm];omega
    refine⟨((n+p:Nat):Int),wo,by decide,((2^f / 2:Nat):Int),by rw[hp,show((p:Nat):Int).tdiv 2=((p / 2:Nat):Int)from rfl,wrap64]<;>omega,?_⟩;intro ρ3 w3 r3;exact⟨(n+p,f,2^f / 2,w3,_),⟨rfl,by dsimp only;omega,Ub,by dsimp only;rw[hp,show n+p+p=n+2*p by omega];exact Uv,hw.tr r3.cQ,hx.rel r3 hS,hy.rel r3 hS,Ot.rel r3 (cC w),OQ.rel r3 (cC w),hr.rel r3 (cC w)⟩,Sub.gn [] r3,by dsimp only;omega⟩
   have hle:=aH hle;have Ub:R2<((n+p:Nat):Int)*B:=by rw[Int.mul_comm];omega
   refine⟨by decide,((2^f / 2:Nat):Int),by rw[hp,show((p:Nat):Int).tdiv 2=((p / 2:Nat):Int)from rfl,wrap64]<;>omega,?_⟩;intro ρ3 w3 r3;exact⟨(n,f,2^f / 2,w3,_),⟨rfl,by dsimp only;omega,RV,by dsimp only;rw[hp];exact Ub,hw.tr r3.cQ,hx.rel r3 hS,hy.rel r3 hS,Ot.rel r3 (cC w),OQ.rel r3 (cC w),hr.rel r3 (cC w)⟩,Sub.gn [] r3,by dsimp only;omega⟩
  have Th:¬0<2^e / 2:=by have:¬((bit:Nat):Int)>0:=aH Th;omega
  obtain rfl:e=0:=by
   cases e with
   |zero=>rfl
   |succ f=>exact absurd (show 0<2^(f+1) / 2 by rw[Nat.pow_succ];have:=bm f;omega) Th
  rw[show n+2^0=n+1 from rfl]at hn1 Uv;rw[Int.natCast_add,Int.add_mul]at Uv;rw[Int.mul_comm]at RV;rw[Int.mul_comm]at Uv;have m4:=Av (n:=((n:Nat):Int)) (by omega) (by omega);have m5:=dA B ((n:Nat):Int);have m6:ln R2.natAbs<=l+1:=by
   refine aX (fP (b:=((65536:Int)*B).natAbs) (by omega)) ?_;have:=dA 65536 B;omega
  refine cM hτ df [.x 0,.x 1,.x 2,.x 3,.x 4,.x 5,.x 6] (by kernel_rfl) (by kernel_rfl) ?_;refine cE hw (fun _ w' v w2=>dL w2 (Nf w' w2) v (((n:Nat):Int))) (fun O w' r=>kj _ w' (by omega) (by omega)) ?_;rintro O Rh v9 Rv SK r he hw h_ hn;replace hx:=hx.cG r hS he (mC h_);replace hy:=hy.cG r hS he (mC h_);replace Ot:=Ot.cG r (cC w) he (mC h_);replace OQ:=OQ.cG r (cC w) he (mC h_);replace hr:=hr.cG r (cC w) he (mC h_);have hu:=hn.dB (S:=FF) r.cD (mN h_);obtain⟨K0,K1,K2,K3,rfl⟩:=hu.shape;refine cE hw (fun _ w' v w2=>dL w2 (Nf w' w2) v (B*((n:Nat):Int))) (fun O w' r=>iJ (Rel.old r (cC w)) ((OQ.rel r (cC w)).l (k:=1000001) (by omega)) ((hu.rel r (cC w)).l (k:=1000001) (by omega)) (by omega) (by omega)) ?_;rintro O wa10 v10 wb10 RH r he hw h_ hn;replace hx:=hx.cG r hS he (mC h_);replace hy:=hy.cG r hS he (mC h_);replace Ot:=Ot.cG r (cC w) he (mC h_);replace OQ:=OQ.cG r (cC w) he (mC h_);replace hr:=hr.cG r (cC w) he (mC h_);have QB:=hn.dB (S:=FF) r.cD (mN h_);obtain⟨N0,N1,N2,N3,rfl⟩:=QB.shape;refine cE hw (fun _ w' v w2=>dL w2 (Nf w' w2) v (R2-B*((n:Nat):Int))) (fun O w' r=>Dw (Rel.old r (cC w)) ((hr.rel r (cC w)).l (k:=1000002) (by omega)) ((QB.rel r (cC w)).l (k:=1000002) (by omega)) (by omega) (by omega)) ?_;rintro O Qq v11 RG QV r he hw h_ hn;replace hx:=hx.cG r hS he (mC h_);replace hy:=hy.cG r hS he (mC h_);replace Ot:=Ot.cG r (cC w) he (mC h_);replace OQ:=OQ.cG r (cC w) he (mC h_);have hr3:=hn.dB (S:=FF) r.cD (mN h_);obtain⟨O0,O1,O2,O3,rfl⟩:=hr3.shape;generalize hR3:R2-B*((n:Nat):Int)=R3 at*
  refine .inl ?_;refine⟨by rw[aK,aT],fun u hu=>by obtain⟨_,_,rfl⟩:=aU.1 hu;rfl,rfl,by omega,by unfold maxLen;omega,(i:Int)-1,wo,?_⟩;intro ρ3 w3 r3;have RK:dS (ca.drop i)=B*dS (((n:Nat):Int)::Q)+R3:=by
   rw[FG RL,dS];exact Ic hv (by rw[<-hR3,<-Ql];omega)
  exact⟨(i,((n:Nat):Int)::Q,R3,(O0,O1,O2,O3),w3,_),⟨by dsimp only;omega,by dsimp only;rw[List.length_cons];omega,fun c hc=>by
    rcases List.mem_cons.1 hc with rfl|hc
    ·omega
    ·exact hd c hc,RK,by dsimp only;omega,by dsimp only;omega,hw.tr r3.cQ,hx.rel r3 hS,hy.rel r3 hS,Ot.rel r3 (cC w),OQ.rel r3 (cC w),hr3.rel r3 (cC w)⟩,
   Sub.gn [(6,8)] r3 (hE:=⟨rfl,rfl,rfl,rfl,rfl,rfl,rfl,by dsimp only;rw[show (((n:Nat):Int)::Q).length=1+Q.length by rw[List.length_cons,Nat.add_comm]];rfl,rfl,rfl,trivial⟩),by dsimp only;omega⟩
 obtain rfl:j=0:=by have:¬(j:Int)-1≥0:=aH OC;omega
 rw[List.drop_zero,bca.1]at hv;rw[<-hB]at hv hR1;have key:=Jx Pe hv hR0 hR1;rw[hB]at key hv hR1;have lq:ln (dS Q).natAbs<=k+1:=by
  have h1:=aAv hd;have h2:1*dS Q<=B*dS Q:=Int.mul_le_mul_of_nonneg_right (by omega) h1;exact aX (fP (b:=x.natAbs) (by omega)) (by omega)
 have lR:ln R.natAbs<=l:=aX (fP (by omega)) lB;have sx:=gG x;have sy:=gG y;have sr:=gG R;refine cF (cE hw (fun _ w' v w2=>dL w2 (Nf w' w2) v (dS Q)) (fun O w' r=>mx r rfl rfl (by omega) (fun c hc=>by have:=hd c hc;omega) rfl) ?_);rintro O _ _ _ PF r he hw h_ hn;replace hx:=hx.cG r hS he (mC h_);replace hy:=hy.cG r hS he (mC h_);replace OQ:=OQ.cG r (cC w) he (mC h_);replace hr:=hr.cG r (cC w) he (mC h_);have hq:=hn.dB (S:=FF) r.cD (mN h_);obtain⟨E0,E1,E2,E3,rfl⟩:=hq.shape;refine cF (cE hw (fun _ w' v w2=>v= .int .i64 x.sign) (fun O w' r=>ga (Rel.old r hS) (hx.rel r hS).r) ?_);rintro O _ _ _ Q2 r he hw h_ rfl;replace hx:=hx.cG r hS he (mC h_);replace hy:=hy.cG r hS he (mC h_);replace OQ:=OQ.cG r (cC w) he (mC h_);replace hr:=hr.cG r (cC w) he (mC h_);replace hq:=hq.cG r (cC w) he (mC h_);refine dK.mk ?_ ?_<;>intro hxs
 ·have hxs:=aI hxs;refine cF (cE hw (fun _ w' v w2=>v= .int .i64 R.sign) (fun O w' r=>ga (Rel.old r (cC w)) (hr.rel r (cC w)).r) ?_);rintro O Tc v7 Td RP r he hw h_ rfl;replace hx:=hx.cG r hS he (mC h_);replace hy:=hy.cG r hS he (mC h_);replace OQ:=OQ.cG r (cC w) he (mC h_);replace hr:=hr.cG r (cC w) he (mC h_);replace hq:=hq.cG r (cC w) he (mC h_);refine dK.mk ?_ ?_<;>intro Uz
  ·have Uz:=aI Uz;rw[if_pos (show x<0∧0<R by omega),if_pos (show x<0∧0<R by omega)]at key;have m7:=ie (dS Q) 1;have m8:ln (1:Int).natAbs<=1:=by decide
   have m9:ln (B-R).natAbs<=l:=aX (fP (by omega)) lB;refine cM hτ df [.x 0,.x 3,.x 4,.x 1,.x 2,.x 5,.x 6,.x 7] (by kernel_rfl) (by kernel_rfl) ?_;refine cE hw (fun _ w' v w2=>dL w2 (Nf w' w2) v (1)) (fun O w' r=>kj _ w' (by omega) (by omega)) ?_;rintro O Tw v8 UZ Rg r he hw h_ hn;replace hx:=hx.cG r hS he (mC h_);replace hy:=hy.cG r hS he (mC h_);replace OQ:=OQ.cG r (cC w) he (mC h_);replace hr:=hr.cG r (cC w) he (mC h_);replace hq:=hq.cG r (cC w) he (mC h_);have hu:=hn.dB (S:=FF) r.cD (mN h_);obtain⟨J0,J1,J2,J3,rfl⟩:=hu.shape;refine cE hw (fun _ w' v w2=>dL w2 (Nf w' w2) v (dS Q+1)) (fun O w' r=>Au (Rel.old r (cC w)) ((hq.rel r (cC w)).l (k:=1000003) (by omega)) ((hu.rel r (cC w)).l (k:=1000003) (by omega)) (by omega) (by omega)) ?_;rintro O Rh v9 Rv SK r he hw h_ hn;replace hx:=hx.cG r hS he (mC h_);replace hy:=hy.cG r hS he (mC h_);replace OQ:=OQ.cG r (cC w) he (mC h_);replace hr:=hr.cG r (cC w) he (mC h_);have Pv:=hn.dB (S:=FF) r.cD (mN h_);obtain⟨K0,K1,K2,K3,rfl⟩:=Pv.shape;refine cE hw (fun _ w' v w2=>dL w2 (Nf w' w2) v (B-R)) (fun O w' r=>Dw (Rel.old r (cC w)) ((OQ.rel r (cC w)).l (k:=1000003) (by omega)) ((hr.rel r (cC w)).l (k:=1000003) (by omega)) (by omega) (by omega)) ?_;rintro O wa10 v10 wb10 RH r he hw h_ hn;replace hx:=hx.cG r hS he (mC h_);replace hy:=hy.cG r hS he (mC h_);replace Pv:=Pv.cG r (cC w) he (mC h_);have SD:=hn.dB (S:=FF) r.cD (mN h_);obtain⟨N0,N1,N2,N3,rfl⟩:=SD.shape;refine cM hτ df [.x 0,.x 3,.x 1,.x 2,.x 4,.x 5,.x 6] (by kernel_rfl) (by kernel_rfl) ?_;refine cE hw (fun _ w' v w2=>v= .int .i64 x.sign) (fun O w' r=>ga (Rel.old r hS) (hx.rel r hS).r) ?_;rintro O _ _ _ QV r he hw h_ rfl;replace hy:=hy.cG r hS he (mC h_);replace Pv:=Pv.cG r (cC w) he (mC h_);replace SD:=SD.cG r (cC w) he (mC h_);refine cE hw (fun _ w' v w2=>v= .int .i64 y.sign) (fun O w' r=>ga (Rel.old r hS) (hy.rel r hS).r) ?_;rintro O _ _ _ VU r he hw h_ rfl;replace Pv:=Pv.cG r (cC w) he (mC h_);replace SD:=SD.cG r (cC w) he (mC h_);refine dK.mk ?_ ?_<;>intro OD
   ·have hn:¬((x<0)↔(y<0)):=fun e=>by
     have e2:decide (x.sign<0)=decide (y.sign<0):=decide_eq_decide.2 (by omega);rw[e2]at OD;simp at OD
    rw[aJ hn]at key;refine cF (cE hw (fun _ w' v w2=>dL w2 (Nf w' w2) v (-(dS Q+1))) (fun O w' r=>mA (Rel.old r (cC w)) ((Pv.rel r (cC w)).l (k:=1000003) (by omega)) (by omega)) ?_);rintro O _ _ _ VW r he hw h_ hn;replace SD:=SD.cG r (cC w) he (mC h_);have SW:=hn.dB (S:=FF) r.cD (mN h_);obtain⟨P0,P1,P2,P3,rfl⟩:=SW.shape;refine iX hτ df (.two 0 (.two 1 (.one 2 (.one 3 (.one 4 .nil))) 2 (.one 1 (.one 3 (.one 4 .nil)))) 1 (.one 0 (.one 2 (.one 3 (.one 4 .nil))))) (by kernel_rfl) ?_;refine⟨?_,?_⟩
    ·refine⟨?_,?_⟩
     ·exact rtn hw fun ρe we re=>.inr ⟨Pe,_,_,rfl,key.1▸SW.out re (cC w),key.2▸SD.out re (cC w)⟩
     ·exact rtn hw fun ρe we re=>.inr ⟨Pe,_,_,rfl,key.1▸SW.out re (cC w),key.2▸SD.out re (cC w)⟩
    ·exact rtn hw fun ρe we re=>.inr ⟨Pe,_,_,rfl,key.1▸SW.out re (cC w),key.2▸SD.out re (cC w)⟩
   have hn:(x<0)↔(y<0):=by
    have e2:decide (x.sign<0)=decide (y.sign<0):=by simpa using OD
    have:=decide_eq_decide.1 e2;omega
   rw[if_pos hn]at key;refine iX hτ df (.two 0 (.two 1 (.one 2 (.one 3 (.one 4 .nil))) 2 (.one 1 (.one 3 (.one 4 .nil)))) 1 (.one 0 (.one 2 (.one 3 (.one 4 .nil))))) (by kernel_rfl) ?_;refine⟨?_,?_⟩
   ·refine⟨?_,?_⟩
    ·exact rtn hw fun ρe we re=>.inr ⟨Pe,_,_,rfl,key.1▸Pv.out re (cC w),key.2▸SD.out re (cC w)⟩
    ·exact rtn hw fun ρe we re=>.inr ⟨Pe,_,_,rfl,key.1▸Pv.out re (cC w),key.2▸SD.out re (cC w)⟩
   ·exact rtn hw fun ρe we re=>.inr ⟨Pe,_,_,rfl,key.1▸Pv.out re (cC w),key.2▸SD.out re (cC w)⟩
  have Uz:=aH Uz;rw[aJ (show ¬(x<0∧0<R) by omega),aJ (show ¬(x<0∧0<R) by omega)]at key;refine cM hτ df [.x 0,.x 3,.x 1,.x 2,.x 4,.x 5,.x 6] (by kernel_rfl) (by kernel_rfl) ?_;refine cE hw (fun _ w' v w2=>v= .int .i64 x.sign) (fun O w' r=>ga (Rel.old r hS) (hx.rel r hS).r) ?_;rintro O Tw v8 UZ Rg r he hw h_ rfl;replace hy:=hy.cG r hS he (mC h_);replace OQ:=OQ.cG r (cC w) he (mC h_);replace hr:=hr.cG r (cC w) he (mC h_);replace hq:=hq.cG r (cC w) he (mC h_);refine cE hw (fun _ w' v w2=>v= .int .i64 y.sign) (fun O w' r=>ga (Rel.old r hS) (hy.rel r hS).r) ?_;rintro O Rh v9 Rv SK r he hw h_ rfl;replace OQ:=OQ.cG r (cC w) he (mC h_);replace hr:=hr.cG r (cC w) he (mC h_);replace hq:=hq.cG r (cC w) he (mC h_);refine dK.mk ?_ ?_<;>intro OD
  ·have hn:¬((x<0)↔(y<0)):=fun e=>by
    have e2:decide (x.sign<0)=decide (y.sign<0):=decide_eq_decide.2 (by omega);rw[e2]at OD;simp at OD
   rw[aJ hn]at key;refine cF (cE hw (fun _ w' v w2=>dL w2 (Nf w' w2) v (-(dS Q))) (fun O w' r=>mA (Rel.old r (cC w)) ((hq.rel r (cC w)).l (k:=1000003) (by omega)) (by omega)) ?_);rintro O _ _ _ RH r he hw h_ hn;replace OQ:=OQ.cG r (cC w) he (mC h_);replace hr:=hr.cG r (cC w) he (mC h_);have SW:=hn.dB (S:=FF) r.cD (mN h_);obtain⟨N0,N1,N2,N3,rfl⟩:=SW.shape;refine iX hτ df (.two 0 (.two 1 (.one 2 (.one 3 (.one 4 .nil))) 2 (.one 1 (.one 3 (.one 4 .nil)))) 1 (.one 0 (.one 2 (.one 3 (.one 4 .nil))))) (by kernel_rfl) ?_;refine⟨?_,?_⟩
   ·refine⟨?_,?_⟩
    ·exact rtn hw fun ρe we re=>.inr ⟨Pe,_,_,rfl,key.1▸SW.out re (cC w),key.2▸hr.out re (cC w)⟩
    ·exact rtn hw fun ρe we re=>.inr ⟨Pe,_,_,rfl,key.1▸SW.out re (cC w),key.2▸hr.out re (cC w)⟩
   ·exact rtn hw fun ρe we re=>.inr ⟨Pe,_,_,rfl,key.1▸SW.out re (cC w),key.2▸hr.out re (cC w)⟩
  have hn:(x<0)↔(y<0):=by
   have e2:decide (x.sign<0)=decide (y.sign<0):=by simpa using OD
   have:=decide_eq_decide.1 e2;omega
  rw[if_pos hn]at key;refine iX hτ df (.two 0 (.two 1 (.one 2 (.one 3 (.one 4 .nil))) 2 (.one 1 (.one 3 (.one 4 .nil)))) 1 (.one 0 (.one 2 (.one 3 (.one 4 .nil))))) (by kernel_rfl) ?_;refine⟨?_,?_⟩
  ·refine⟨?_,?_⟩
   ·exact rtn hw fun ρe we re=>.inr ⟨Pe,_,_,rfl,key.1▸hq.out re (cC w),key.2▸hr.out re (cC w)⟩
   ·exact rtn hw fun ρe we re=>.inr ⟨Pe,_,_,rfl,key.1▸hq.out re (cC w),key.2▸hr.out re (cC w)⟩
  ·exact rtn hw fun ρe we re=>.inr ⟨Pe,_,_,rfl,key.1▸hq.out re (cC w),key.2▸hr.out re (cC w)⟩
 have hxs:=aH hxs;rw[aJ (show ¬(x<0∧0<R) by omega),aJ (show ¬(x<0∧0<R) by omega)]at key;refine cM hτ df [.x 0,.x 3,.x 1,.x 2,.x 4,.x 5,.x 6] (by kernel_rfl) (by kernel_rfl) ?_;refine cE hw (fun _ w' v w2=>v= .int .i64 x.sign) (fun O w' r=>ga (Rel.old r hS) (hx.rel r hS).r) ?_;rintro O _ _ _ RP r he hw h_ rfl;replace hy:=hy.cG r hS he (mC h_);replace OQ:=OQ.cG r (cC w) he (mC h_);replace hr:=hr.cG r (cC w) he (mC h_);replace hq:=hq.cG r (cC w) he (mC h_);refine cE hw (fun _ w' v w2=>v= .int .i64 y.sign) (fun O w' r=>ga (Rel.old r hS) (hy.rel r hS).r) ?_;rintro O _ _ _ Rg r he hw h_ rfl;replace OQ:=OQ.cG r (cC w) he (mC h_);replace hr:=hr.cG r (cC w) he (mC h_);replace hq:=hq.cG r (cC w) he (mC h_);refine dK.mk ?_ ?_<;>intro OD
 ·have hn:¬((x<0)↔(y<0)):=fun e=>by
   have e2:decide (x.sign<0)=decide (y.sign<0):=decide_eq_decide.2 (by omega);rw[e2]at OD;simp at OD
  rw[aJ hn]at key;refine cF (cE hw (fun _ w' v w2=>dL w2 (Nf w' w2) v (-(dS Q))) (fun O w' r=>mA (Rel.old r (cC w)) ((hq.rel r (cC w)).l (k:=1000003) (by omega)) (by omega)) ?_);rintro O _ _ _ SK r he hw h_ hn;replace OQ:=OQ.cG r (cC w) he (mC h_);replace hr:=hr.cG r (cC w) he (mC h_);have SW:=hn.dB (S:=FF) r.cD (mN h_);obtain⟨K0,K1,K2,K3,rfl⟩:=SW.shape;refine iX hτ df (.two 0 (.two 1 (.one 2 (.one 3 (.one 4 .nil))) 2 (.one 1 (.one 3 (.one 4 .nil)))) 1 (.one 0 (.one 2 (.one 3 (.one 4 .nil))))) (by kernel_rfl) ?_;refine⟨?_,?_⟩
  ·refine⟨?_,?_⟩
   ·exact rtn hw fun ρe we re=>.inr ⟨Pe,_,_,rfl,key.1▸SW.out re (cC w),key.2▸hr.out re (cC w)⟩
   ·exact rtn hw fun ρe we re=>.inr ⟨Pe,_,_,rfl,key.1▸SW.out re (cC w),key.2▸hr.out re (cC w)⟩
  ·exact rtn hw fun ρe we re=>.inr ⟨Pe,_,_,rfl,key.1▸SW.out re (cC w),key.2▸hr.out re (cC w)⟩
 have hn:(x<0)↔(y<0):=by
  have e2:decide (x.sign<0)=decide (y.sign<0):=by simpa using OD
  have:=decide_eq_decide.1 e2;omega
 rw[if_pos hn]at key;refine iX hτ df (.two 0 (.two 1 (.one 2 (.one 3 (.one 4 .nil))) 2 (.one 1 (.one 3 (.one 4 .nil)))) 1 (.one 0 (.one 2 (.one 3 (.one 4 .nil))))) (by kernel_rfl) ?_;refine⟨?_,?_⟩
 ·refine⟨?_,?_⟩
  ·exact rtn hw fun ρe we re=>.inr ⟨Pe,_,_,rfl,key.1▸hq.out re (cC w),key.2▸hr.out re (cC w)⟩
  ·exact rtn hw fun ρe we re=>.inr ⟨Pe,_,_,rfl,key.1▸hq.out re (cC w),key.2▸hr.out re (cC w)⟩
 ·exact rtn hw fun ρe we re=>.inr ⟨Pe,_,_,rfl,key.1▸hq.out re (cC w),key.2▸hr.out re (cC w)⟩
theorem jB{v:Value}{l:Nat}(hS:Old S w)(hx:fY w S v k x)(hy:fY w S u l y)(hk:k<=1000000)(hl:l<=1000000)(h0:y≠0):
  eA PG N.oO #[v,u] w (eF w fun v' w2=>∃q r,v'= .tuple #[q,r,.int .i64 0]∧dL w2 (Nf w w2) q (x / y)∧dL w2 (Nf w w2) r (x % y)):=
 (Jb hS hx hy hk hl).mono fun _ _ ⟨v2,e1,e2,e3⟩=>⟨v2,e1,e2,e3.elim (fun h=>absurd h.1 h0) fun h=>h.2⟩
theorem aAP(x:Nat){y:Nat}(h:y≠0):ln (Nat.gcd x y)<=ln y:=fP (Nat.le_of_dvd (by omega) (Nat.gcd_dvd_right x y))
theorem HY{a b:Int}(hb:b≠0):a / (b.sign*(Nat.gcd a.natAbs b.natAbs:Nat))=(Rat.divInt a b).num∧b / (b.sign*(Nat.gcd a.natAbs b.natAbs:Nat))=((Rat.divInt a b).den:Int):=by
 obtain⟨h1,h2⟩:=Cc (a:=a) hb;have d1:((Nat.gcd a.natAbs b.natAbs:Nat):Int) ∣ a:=Int.ofNat_dvd_left.2 (Nat.gcd_dvd_left _ _);have d2:((Nat.gcd a.natAbs b.natAbs:Nat):Int) ∣ b:=Int.ofNat_dvd_left.2 (Nat.gcd_dvd_right _ _);have sg:b.sign=1∨b.sign= -1:=by rcases gG b with h|h|h<;>omega
 have key:∀c:Int,((Nat.gcd a.natAbs b.natAbs:Nat):Int) ∣ c->b.sign*(Nat.gcd a.natAbs b.natAbs:Nat) ∣ c:=fun c hc=>by
  rcases sg with h|h<;>rw[h]
  ·rw[Int.one_mul];exact hc
  ·rw[Int.neg_one_mul];exact Int.neg_dvd.2 hc
 rw[<-h1,<-h2,Int.tdiv_eq_ediv_of_dvd (key a d1),Int.tdiv_eq_ediv_of_dvd (key b d2)];exact⟨rfl,rfl⟩
theorem Cg{v:Value}{l:Nat}(hS:Old S w)(hx:fY w S v k x)(hy:fY w S u l y)(hk:k<=1000000)(hl:l<=1000000):
  eA PG N.tw #[v,u] w (eF w fun v' w2=>dL w2 (Nf w w2) v' ((Nat.gcd x.natAbs y.natAbs:Nat):Int)):=by
 have hw:=bR w;replace hx:=hx.cK (S':=Cv S w.heap.size []) fun _ h=>.inl h;replace hy:=hy.cK (S':=Cv S w.heap.size []) fun _ h=>.inl h;obtain⟨b1,a1,n1,c1,rfl⟩:=hx.shape;obtain⟨b2,a2,n2,c2,rfl⟩:=hy.shape;refine xm (by simp) ?_;have Oa:=hx.ln;have QP:=hy.ln;refine cM hτ df [.x 0,.x 2,.x 1,.x 3,.x 4,.x 5] (by kernel_rfl) (by kernel_rfl) ?_;refine cE hw (fun _ w' v w2=>dL w2 (Nf w' w2) v ((x.natAbs:Int))) (fun O w' r=>yU (Rel.old r hS) (hx.rel r hS) (by omega)) ?_;rintro O _ _ _ OJ r he hw h_ hn;clear hx;replace hy:=hy.cG r hS he (mC h_);have ha:=hn.dB (S:=FF) r.cD (mN h_);clear r;obtain⟨A0,A1,A2,A3,rfl⟩:=ha.shape;refine cE hw (fun _ w' v w2=>dL w2 (Nf w' w2) v ((y.natAbs:Int))) (fun O w' r=>yU (Rel.old r hS) (hy.rel r hS) (by omega)) ?_;rintro O _ _ _ OG r he hw h_ hn;clear hy;replace ha:=ha.cG r (cC w) he (mC h_);have hc:=hn.dB (S:=FF) r.cD (mN h_);clear r;obtain⟨C0,C1,C2,C3,rfl⟩:=hc.shape
 refine⟨Nat×Nat×(Bool×Option Addr×Nat×Nat)×(Bool×Option Addr×Nat×Nat)×World×Iv,fun z=>⟨[(2,pP 0 0),(3,pP 1 0),(4,pP 2 0)],[(2,.box T.Int [.v (.bool false),.v (.slice none 0 0)]),(1,.box T.Int [.v (.bool z.2.2.2.1.1),.v (.slice z.2.2.2.1.2.1 z.2.2.2.1.2.2.1 z.2.2.2.1.2.2.2)]),(0,.box T.Int [.v (.bool z.2.2.1.1),.v (.slice z.2.2.1.2.1 z.2.2.1.2.2.1 z.2.2.1.2.2.2)])],3,z.2.2.2.2.2,z.2.2.2.2.1⟩,fun z=>z.2.1,
  fun z=>Nat.gcd z.1 z.2.1=Nat.gcd x.natAbs y.natAbs∧ln z.1<=1000000∧ln z.2.1<=1000000∧eE w.heap.size w z.2.2.2.2.1∧dL z.2.2.2.2.1 (Cf w z.2.2.2.2.2) (.agg #[.bool z.2.2.1.1,.slice z.2.2.1.2.1 z.2.2.1.2.2.1 z.2.2.1.2.2.2]) (z.1:Int)∧dL z.2.2.2.2.1 (Cf w z.2.2.2.2.2) (.agg #[.bool z.2.2.2.1.1,.slice z.2.2.2.1.2.1 z.2.2.2.1.2.2.1 z.2.2.2.1.2.2.2]) (z.2.1:Int),?_,?_⟩
 ·intro O w' r
  exact⟨(x.natAbs,y.natAbs,(A0,A1,A2,A3),(C0,C1,C2,C3),w',OG),⟨rfl,by dsimp only;omega,by dsimp only;omega,hw.tr r.cQ,ha.rel r (cC w),hc.rel r (cC w)⟩,
   Sub.gn [] r⟩
 clear hw ha hc;rintro⟨a,b,⟨ba,aa,na,ca⟩,⟨bb,ab,nb,cb⟩,w1,iv⟩ ⟨hg,PW,Od,hw,ha,hc⟩;dsimp only at hg PW Od hw ha hc ⊢;refine cF (cE hw (fun _ w' v w2=>v= .int .i64 (b:Int).sign) (fun O w' r=>ga (Rel.old r (cC w)) (hc.rel r (cC w)).r) ?_);rintro O _ _ _ ON r he hw h_ rfl;replace ha:=ha.cG r (cC w) he (mC h_);replace hc:=hc.cG r (cC w) he (mC h_);clear r;have sb:=gG (b:Int);refine dK.mk ?_ ?_<;>intro h
 ·have h:=aI h;have UI:0<b:=by omega
  have hm:=bu a UI;have PO:ln (a % b)<=1000000:=aX (fP (by omega)) Od;refine cF (cE hw (fun _ w' v w2=>∃q r,v= .tuple #[q,r,.int .i64 0]∧dL w2 (Nf w' w2) q ((a:Int) / b)∧dL w2 (Nf w' w2) r ((a:Int) % b)) (fun O w' r=>jB (Rel.old r (cC w)) ((ha.rel r (cC w)).l (k:=1000000) PW) ((hc.rel r (cC w)).l (k:=1000000) Od) (by omega) (by omega) (by omega)) ?_);rintro O _ _ _ OZ r he hw h_ ⟨q,rr,rfl,k1,k2⟩;clear ha;replace hc:=hc.cG r (cC w) he (mC h_);have hq:=k1.dB (S:=FF) r.cD (mN h_);have hr:=k2.dB (S:=FF) r.cD (mN h_);clear r;obtain⟨s4_0a,s4_0b,s4_0c,s4_0d,rfl⟩:=hq.shape;obtain⟨s4_1a,s4_1b,s4_1c,s4_1d,rfl⟩:=hr.shape;clear k1 k2 hq;refine iX hτ df (.two 0 (.two 1 (.one 2 (.one 3 .nil)) 2 (.one 1 (.one 3 .nil))) 1 (.one 0 (.one 2 (.one 3 .nil)))) (by kernel_rfl) ?_;refine⟨?_,?_⟩
  ·conv=>whnf
   refine⟨?_,?_⟩
   ·conv=>whnf
    intro ρ3 w3 r3;exact⟨(b,a % b,(bb,ab,nb,cb),(s4_1a,s4_1b,s4_1c,s4_1d),w3,_),⟨by dsimp only;rw[<-hg,Nat.gcd_comm a b,Nat.gcd_rec b a,Nat.gcd_comm],Od,PO,hw.tr r3.cQ,hc.rel r3 (cC w),hr.rel r3 (cC w)⟩,Sub.gn [] r3,hm⟩
   ·conv=>whnf
    intro ρ3 w3 r3;exact⟨(b,a % b,(bb,ab,nb,cb),(s4_1a,s4_1b,s4_1c,s4_1d),w3,_),⟨by dsimp only;rw[<-hg,Nat.gcd_comm a b,Nat.gcd_rec b a,Nat.gcd_comm],Od,PO,hw.tr r3.cQ,hc.rel r3 (cC w),hr.rel r3 (cC w)⟩,Sub.gn [] r3,hm⟩
  ·conv=>whnf
   intro ρ3 w3 r3;exact⟨(b,a % b,(bb,ab,nb,cb),(s4_1a,s4_1b,s4_1c,s4_1d),w3,_),⟨by dsimp only;rw[<-hg,Nat.gcd_comm a b,Nat.gcd_rec b a,Nat.gcd_comm],Od,PO,hw.tr r3.cQ,hc.rel r3 (cC w),hr.rel r3 (cC w)⟩,Sub.gn [] r3,hm⟩
 have h:=aH h;obtain rfl:b=0:=by omega
 rw[Nat.gcd_zero_right]at hg;subst hg;clear hc;exact rtn hw fun ρe we re=>ha.out re (cC w)
theorem kL{v:Value}{l:Nat}(hS:Old S w)(hx:fY w S v k x)(hy:fY w S u l y)(hk:k<=1000000)(hl:l<=1000000)(Pe:y≠0):
  eA PG N.s3 #[v,u] w (eF w fun v' w2=>cT w2 (Nf w w2) v' (Rat.divInt x y)):=by
 have hw:=bR w;replace hx:=hx.cK (S':=Cv S w.heap.size []) fun _ h=>.inl h;replace hy:=hy.cK (S':=Cv S w.heap.size []) fun _ h=>.inl h;obtain⟨b1,a1,n1,c1,rfl⟩:=hx.shape;obtain⟨b2,a2,n2,c2,rfl⟩:=hy.shape;refine rk (by simp) ?_;have Oa:=hx.ln;have QP:=hy.ln;have hlg:=aAP x.natAbs (y:=y.natAbs) (by omega);obtain⟨hn,hd⟩:=HY (a:=x) Pe;have sy:=gG y
 refine cF (cE hw (fun _ w' v w2=>∃n p,v= .tuple #[.int .i64 n,.bool p]∧(p=true->n=x∧x.natAbs<1073741824)) (fun O w' r=>(nd (Rel.old r hS) (hx.rel r hS).r).mono fun e w2 ⟨v2,e1,e2,e3⟩=>⟨v2,e1,e2,by
   rw[e3,jk];split
   ·exact⟨_,_,rfl,fun _=>⟨rfl,‹_›⟩⟩
   ·exact⟨_,_,rfl,fun h=>by cases h⟩⟩) ?_)
 rintro O _ _ _ OJ r he hw h_ ⟨nx,px,rfl,qx⟩;replace hx:=hx.cG r hS he (mC h_);replace hy:=hy.cG r hS he (mC h_);clear r
 refine cF (cE hw (fun _ w' v w2=>∃n p,v= .tuple #[.int .i64 n,.bool p]∧(p=true->n=y∧y.natAbs<1073741824)) (fun O w' r=>(nd (Rel.old r hS) (hy.rel r hS).r).mono fun e w2 ⟨v2,e1,e2,e3⟩=>⟨v2,e1,e2,by
   rw[e3,jk];split
   ·exact⟨_,_,rfl,fun _=>⟨rfl,‹_›⟩⟩
   ·exact⟨_,_,rfl,fun h=>by cases h⟩⟩) ?_)
 rintro O _ _ _ OG r he hw h_ ⟨ny,py,rfl,qy⟩;replace hx:=hx.cG r hS he (mC h_);replace hy:=hy.cG r hS he (mC h_);clear r;refine dK.mk ?_ ?_<;>intro h1
 ·obtain⟨e1,hxs⟩:=qx h1;replace e1:=e1.symm;subst e1;refine dK.mk ?_ ?_<;>intro h2
  ·obtain⟨e2,hys⟩:=qy h2;replace e2:=e2.symm;subst e2;clear hx hy;refine cF (cE hw (fun _ w' v w2=>cT w2 (Nf w' w2) v (Rat.divInt x y)) (fun O w' r=>rC x y w' (by omega) (by omega) Pe) ?_);rintro O PH v3 PD ON r he hw h_ hn;have hR:=hn.dB (S:=FF) r.cD (mN h_);clear r hn;obtain⟨A0,A1,A2,A3,A4,A5,A6,A7,rfl⟩:=hR.shape;exact rtn hw fun ρe we re=>hR.out re (cC w)
  refine cF (cE hw (fun _ w' v w2=>dL w2 (Nf w' w2) v (((Nat.gcd x.natAbs y.natAbs:Nat):Int))) (fun O w' r=>Cg (Rel.old r hS) (hx.rel r hS) (hy.rel r hS) hk hl) ?_);rintro O PH v3 PD ON r he hw h_ hn;replace hx:=hx.cG r hS he (mC h_);replace hy:=hy.cG r hS he (mC h_);have hg:=hn.dB (S:=FF) r.cD (mN h_);clear r hn;obtain⟨A0,A1,A2,A3,rfl⟩:=hg.shape;refine cF (cE hw (fun _ w' v w2=>v= .int .i64 y.sign) (fun O w' r=>ga (Rel.old r hS) (hy.rel r hS).r) ?_);rintro O Qw v4 Qk OZ r he hw h_ rfl;replace hx:=hx.cG r hS he (mC h_);replace hy:=hy.cG r hS he (mC h_);replace hg:=hg.cG r (cC w) he (mC h_);clear r;have hgp:0<Nat.gcd x.natAbs y.natAbs:=bl _ (by omega);generalize Nat.gcd x.natAbs y.natAbs=g at*
  refine dK.mk ?_ ?_<;>intro hs
  ·have hs:=aI hs;rw[show y.sign= -1 by omega,Int.neg_one_mul]at hn hd;refine cF (cE hw (fun _ w' v w2=>dL w2 (Nf w' w2) v (-(g:Int))) (fun O w' r=>mA (Rel.old r (cC w)) ((hg.rel r (cC w)).l (k:=1000000) (by rw[Int.natAbs_natCast];omega)) (by omega)) ?_);rintro O RY v5 RO PF r he hw h_ hn;replace hx:=hx.cG r hS he (mC h_);replace hy:=hy.cG r hS he (mC h_);clear hg;have R8:=hn.dB (S:=FF) r.cD (mN h_);clear r hn;obtain⟨C0,C1,C2,C3,rfl⟩:=R8.shape;refine cF (cE hw (fun _ w' v w2=>∃q r,v= .tuple #[q,r,.int .i64 0]∧dL w2 (Nf w' w2) q (Rat.divInt x y).num∧dL w2 (Nf w' w2) r (x % (-(g:Int)))) (fun O w' r=>hn▸jB (Rel.old r hS) (hx.rel r hS) ((((R8.rel r (cC w)).l (k:=1000000) (by rw[bz,Int.natAbs_natCast];omega))).cK fun g hg=>Cv.false hg) hk (by omega) (by omega)) ?_);rintro O RR v6 RZ Q2 r he hw h_ ⟨q,rr,rfl,k1,k2⟩;clear hx;replace hy:=hy.cG r hS he (mC h_);replace R8:=R8.cG r (cC w) he (mC h_);have hq:=k1.dB (S:=FF) r.cD (mN h_);have hr:=k2.dB (S:=FF) r.cD (mN h_);clear r;obtain⟨s6_0a,s6_0b,s6_0c,s6_0d,rfl⟩:=hq.shape;obtain⟨s6_1a,s6_1b,s6_1c,s6_1d,rfl⟩:=hr.shape;clear k1 k2 hr;refine cF (cE hw (fun _ w' v w2=>∃q r,v= .tuple #[q,r,.int .i64 0]∧dL w2 (Nf w' w2) q ((Rat.divInt x y).den:Int)∧dL w2 (Nf w' w2) r (y % (-(g:Int)))) (fun O w' r=>hd▸jB (Rel.old r hS) (hy.rel r hS) ((((R8.rel r (cC w)).l (k:=1000000) (by rw[bz,Int.natAbs_natCast];omega))).cK fun g hg=>Cv.false hg) hl (by omega) (by omega)) ?_);rintro O Tc v7 Td RP r he hw h_ ⟨q,rr,rfl,k1,k2⟩;clear hy;clear R8;replace hq:=hq.cG r (cC w) he (mC h_);have Pv:=k1.dB (S:=FF) r.cD (mN h_);have hr:=k2.dB (S:=FF) r.cD (mN h_);clear r;obtain⟨s7_0a,s7_0b,s7_0c,s7_0d,rfl⟩:=Pv.shape;obtain⟨s7_1a,s7_1b,s7_1c,s7_1d,rfl⟩:=hr.shape;clear k1 k2 hr;exact rtn hw fun ρe we re=>(cT.of hq Pv).out re (cC w)
  have hs:=aH hs;rw[show y.sign=1 by omega,Int.one_mul]at hn hd;refine cF (cE hw (fun _ w' v w2=>∃q r,v= .tuple #[q,r,.int .i64 0]∧dL w2 (Nf w' w2) q (Rat.divInt x y).num∧dL w2 (Nf w' w2) r (x % ((g:Int)))) (fun O w' r=>hn▸jB (Rel.old r hS) (hx.rel r hS) ((((hg.rel r (cC w)).l (k:=1000000) (by rw[Int.natAbs_natCast];omega))).cK fun g hg=>Cv.false hg) hk (by omega) (by omega)) ?_);rintro O RY v5 RO PF r he hw h_ ⟨q,rr,rfl,k1,k2⟩;clear hx;replace hy:=hy.cG r hS he (mC h_);replace hg:=hg.cG r (cC w) he (mC h_);have hq:=k1.dB (S:=FF) r.cD (mN h_);have hr:=k2.dB (S:=FF) r.cD (mN h_);clear r;obtain⟨s5_0a,s5_0b,s5_0c,s5_0d,rfl⟩:=hq.shape;obtain⟨s5_1a,s5_1b,s5_1c,s5_1d,rfl⟩:=hr.shape;clear k1 k2 hr;refine cF (cE hw (fun _ w' v w2=>∃q r,v= .tuple #[q,r,.int .i64 0]∧dL w2 (Nf w' w2) q ((Rat.divInt x y).den:Int)∧dL w2 (Nf w' w2) r (y % ((g:Int)))) (fun O w' r=>hd▸jB (Rel.old r hS) (hy.rel r hS) ((((hg.rel r (cC w)).l (k:=1000000) (by rw[Int.natAbs_natCast];omega))).cK fun g hg=>Cv.false hg) hl (by omega) (by omega)) ?_);rintro O RR v6 RZ Q2 r he hw h_ ⟨q,rr,rfl,k1,k2⟩;clear hy;clear hg;replace hq:=hq.cG r (cC w) he (mC h_);have Pv:=k1.dB (S:=FF) r.cD (mN h_);have hr:=k2.dB (S:=FF) r.cD (mN h_);clear r;obtain⟨s6_0a,s6_0b,s6_0c,s6_0d,rfl⟩:=Pv.shape;obtain⟨s6_1a,s6_1b,s6_1c,s6_1d,rfl⟩:=hr.shape;clear k1 k2 hr;exact rtn hw fun ρe we re=>(cT.of hq Pv).out re (cC w)
 refine cF (cE hw (fun _ w' v w2=>dL w2 (Nf w' w2) v (((Nat.gcd x.natAbs y.natAbs:Nat):Int))) (fun O w' r=>Cg (Rel.old r hS) (hx.rel r hS) (hy.rel r hS) hk hl) ?_);rintro O _ _ _ ON r he hw h_ hn;replace hx:=hx.cG r hS he (mC h_);replace hy:=hy.cG r hS he (mC h_);have hg:=hn.dB (S:=FF) r.cD (mN h_);clear r hn;obtain⟨A0,A1,A2,A3,rfl⟩:=hg.shape;refine cF (cE hw (fun _ w' v w2=>v= .int .i64 y.sign) (fun O w' r=>ga (Rel.old r hS) (hy.rel r hS).r) ?_);rintro O _ _ _ OZ r he hw h_ rfl;replace hx:=hx.cG r hS he (mC h_);replace hy:=hy.cG r hS he (mC h_);replace hg:=hg.cG r (cC w) he (mC h_);clear r;have hgp:0<Nat.gcd x.natAbs y.natAbs:=bl _ (by omega);generalize Nat.gcd x.natAbs y.natAbs=g at*
 refine dK.mk ?_ ?_<;>intro hs
 ·have hs:=aI hs;rw[show y.sign= -1 by omega,Int.neg_one_mul]at hn hd;refine cF (cE hw (fun _ w' v w2=>dL w2 (Nf w' w2) v (-(g:Int))) (fun O w' r=>mA (Rel.old r (cC w)) ((hg.rel r (cC w)).l (k:=1000000) (by rw[Int.natAbs_natCast];omega)) (by omega)) ?_);rintro O RY v5 RO PF r he hw h_ hn;replace hx:=hx.cG r hS he (mC h_);replace hy:=hy.cG r hS he (mC h_);clear hg;have R8:=hn.dB (S:=FF) r.cD (mN h_);clear r hn;obtain⟨C0,C1,C2,C3,rfl⟩:=R8.shape;refine cF (cE hw (fun _ w' v w2=>∃q r,v= .tuple #[q,r,.int .i64 0]∧dL w2 (Nf w' w2) q (Rat.divInt x y).num∧dL w2 (Nf w' w2) r (x % (-(g:Int)))) (fun O w' r=>hn▸jB (Rel.old r hS) (hx.rel r hS) ((((R8.rel r (cC w)).l (k:=1000000) (by rw[bz,Int.natAbs_natCast];omega))).cK fun g hg=>Cv.false hg) hk (by omega) (by omega)) ?_);rintro O RR v6 RZ Q2 r he hw h_ ⟨q,rr,rfl,k1,k2⟩;clear hx;replace hy:=hy.cG r hS he (mC h_);replace R8:=R8.cG r (cC w) he (mC h_);have hq:=k1.dB (S:=FF) r.cD (mN h_);have hr:=k2.dB (S:=FF) r.cD (mN h_);clear r;obtain⟨s6_0a,s6_0b,s6_0c,s6_0d,rfl⟩:=hq.shape;obtain⟨s6_1a,s6_1b,s6_1c,s6_1d,rfl⟩:=hr.shape;clear k1 k2 hr;refine cF (cE hw (fun _ w' v w2=>∃q r,v= .tuple #[q,r,.int .i64 0]∧dL w2 (Nf w' w2) q ((Rat.divInt x y).den:Int)∧dL w2 (Nf w' w2) r (y % (-(g:Int)))) (fun O w' r=>hd▸jB (Rel.old r hS) (hy.rel r hS) ((((R8.rel r (cC w)).l (k:=1000000) (by rw[bz,Int.natAbs_natCast];omega))).cK fun g hg=>Cv.false hg) hl (by omega) (by omega)) ?_);rintro O _ _ _ RP r he hw h_ ⟨q,rr,rfl,k1,k2⟩;clear hy;clear R8;replace hq:=hq.cG r (cC w) he (mC h_);have Pv:=k1.dB (S:=FF) r.cD (mN h_);have hr:=k2.dB (S:=FF) r.cD (mN h_);clear r;obtain⟨s7_0a,s7_0b,s7_0c,s7_0d,rfl⟩:=Pv.shape;obtain⟨s7_1a,s7_1b,s7_1c,s7_1d,rfl⟩:=hr.shape;clear k1 k2 hr;exact rtn hw fun ρe we re=>(cT.of hq Pv).out re (cC w)
 have hs:=aH hs;rw[show y.sign=1 by omega,Int.one_mul]at hn hd;refine cF (cE hw (fun _ w' v w2=>∃q r,v= .tuple #[q,r,.int .i64 0]∧dL w2 (Nf w' w2) q (Rat.divInt x y).num∧dL w2 (Nf w' w2) r (x % ((g:Int)))) (fun O w' r=>hn▸jB (Rel.old r hS) (hx.rel r hS) ((((hg.rel r (cC w)).l (k:=1000000) (by rw[Int.natAbs_natCast];omega))).cK fun g hg=>Cv.false hg) hk (by omega) (by omega)) ?_);rintro O _ _ _ PF r he hw h_ ⟨q,rr,rfl,k1,k2⟩;clear hx;replace hy:=hy.cG r hS he (mC h_);replace hg:=hg.cG r (cC w) he (mC h_);have hq:=k1.dB (S:=FF) r.cD (mN h_);have hr:=k2.dB (S:=FF) r.cD (mN h_);clear r;obtain⟨s5_0a,s5_0b,s5_0c,s5_0d,rfl⟩:=hq.shape;obtain⟨s5_1a,s5_1b,s5_1c,s5_1d,rfl⟩:=hr.shape;clear k1 k2 hr;refine cF (cE hw (fun _ w' v w2=>∃q r,v= .tuple #[q,r,.int .i64 0]∧dL w2 (Nf w' w2) q ((Rat.divInt x y).den:Int)∧dL w2 (Nf w' w2) r (y % ((g:Int)))) (fun O w' r=>hd▸jB (Rel.old r hS) (hy.rel r hS) ((((hg.rel r (cC w)).l (k:=1000000) (by rw[Int.natAbs_natCast];omega))).cK fun g hg=>Cv.false hg) hl (by omega) (by omega)) ?_);rintro O _ _ _ Q2 r he hw h_ ⟨q,rr,rfl,k1,k2⟩;clear hy;clear hg;replace hq:=hq.cG r (cC w) he (mC h_);have Pv:=k1.dB (S:=FF) r.cD (mN h_);have hr:=k2.dB (S:=FF) r.cD (mN h_);clear r;obtain⟨s6_0a,s6_0b,s6_0c,s6_0d,rfl⟩:=Pv.shape;obtain⟨s6_1a,s6_1b,s6_1c,s6_1d,rfl⟩:=hr.shape;clear k1 k2 hr;exact rtn hw fun ρe we re=>(cT.of hq Pv).out re (cC w)
def eS(w:World)(S:Nat->Prop)(v:Value)(q:Rat):Prop:=∃b1 l1 b2 l2 a b,v= .agg #[.bool b1,l1,.bool b2,l2]∧fY w S (.agg #[.bool b1,l1]) 100000 a∧fY w S (.agg #[.bool b2,l2]) 100000 b∧ratio a b=q
theorem eS.cJ{w2:World}{v:Value}(h:eS w S v q)(hk:∀g,S g->w2.heap[g]? =w.heap[g]?):eS w2 S v q:=by
 obtain⟨b1,l1,b2,l2,a,b,h1,h2,h3,h4⟩:=h;exact⟨b1,l1,b2,l2,a,b,h1,h2.cJ hk,h3.cJ hk,h4⟩
theorem eS.cK{S':Nat->Prop}{v:Value}(h:eS w S v q)(hk:∀g,S g->S' g):eS w S' v q:=by
 obtain⟨b1,l1,b2,l2,a,b,h1,h2,h3,h4⟩:=h;exact⟨b1,l1,b2,l2,a,b,h1,h2.cK hk,h3.cK hk,h4⟩
theorem eS.r{v:Value}(h:eS w S v q):∃a b,iO w S v a b∧ratio a b=q:=by
 obtain⟨b1,l1,b2,l2,a,b,rfl,h2,h3,h4⟩:=h;exact⟨a,b,⟨b1,l1,b2,l2,rfl,h2.r,h3.r⟩,h4⟩
theorem eS.v{v:Value}(h:eS w S v q):q9 w S v q:=by
 obtain⟨b1,l1,b2,l2,a,b,rfl,h2,h3,h4⟩:=h;exact⟨a,b,⟨b1,l1,b2,l2,rfl,h2.r,h3.r⟩,h4,h2.ln,h3.ln⟩
theorem eS.shape{v:Value}(h:eS w S v q):∃b a n c b2 a2 n2 c2,v= .agg #[.bool b,.slice a n c,.bool b2,.slice a2 n2 c2]:=h.v.shape
theorem eS.rl{v:Value}(h:eS w S v q):rl q<=100000:=by
 obtain⟨b1,l1,b2,l2,a,b,rfl,h2,h3,rfl⟩:=h;have:=iK a b;have:=h2.ln;have:=h3.ln;omega
theorem cT.l{v:Value}(h:cT w S v q)(hl:rl q<=100000):eS w S v q:=by
 obtain⟨b1,l1,b2,l2,h1,h2,h3⟩:=h;exact⟨b1,l1,b2,l2,_,_,h1,h2.l (aX (fm q) hl),h3.l (aX (fF q) hl),om q⟩
theorem MK(a b:Int):rs (ratio a b)=if b.sign<0 then -a.sign else a.sign:=by
 have sb:=gG b;rw[ratio];split
 ·rw[aJ (by omega),rs,te (by decide)]
 ·split
  ·rw[show Rat.divInt a b=Rat.divInt (-a) (-b)from(Rat.neg_divInt_neg a b).symm,rs,te (by omega),Int.sign_neg]
  ·rw[rs,te (by omega)]
theorem j7{a c:Int}:(a.natAbs<1073741824)->(c.natAbs<1073741824)->(a*c).natAbs<=1152921502459363329:=fun h1 h2=>by
 rw[Int.natAbs_mul];exact Nat.mul_le_mul (show a.natAbs<=1073741823 by omega) (show c.natAbs<=1073741823 by omega)
section
variable{S S':Nat->Prop}{H:Hp}{nx:Nat}{iv iv':Iv}{B:Nat}{w w' w2:World}{O:Nat->Sx.dx}{v:Value}{q:Rat}
theorem eS.rel(h:eS w (Cv S B iv) v q)(r:Rel H nx iv B w O w')(hS:∀g,S g->g<B):eS w' (Cv S B iv) v q:=h.cJ fun _ hg=>Rel.same r hS hg
theorem eS.cG(h:eS w (Cv S B iv) v q)(r:Rel H nx iv B w O w')(hS:∀g,S g->g<B)(he:Ext w' w2)(hm:∀p,p∈iv->p∈iv'):eS w2 (Cv S B iv') v q:=
 ((h.rel r hS).cJ fun g hg=>he.block g (Rel.old r hS g hg)).cK fun _ hg=>hg.mono hm
theorem eS.arg(h:eS w S v q)(iv:Iv):eS w (Cv S w.heap.size iv) v q:=h.cK fun _ h=>.inl h
end
theorem ss{v:Value}{a b:Int}(hS:Old S w)(hp:iO w S v a b):
  eA PG N.jd #[v] w (eF w fun v' _=>v'= .int .i64 (rs (ratio a b))):=by
 have hw:=bR w;obtain⟨b1,l1,b2,l2,rfl,ha,QG⟩:=hp;obtain⟨_,a1,n1,c1,e1⟩:=ha.shape;obtain⟨_,a2,n2,c2,e2⟩:=QG.shape;simp only[Value.agg.injEq,Array.mk.injEq,List.cons.injEq,and_true]at e1 e2;obtain⟨_,rfl⟩:=e1;obtain⟨_,rfl⟩:=e2;replace ha:=ha.cK (S':=Cv S w.heap.size []) fun _ h=>.inl h;replace QG:=QG.cK (S':=Cv S w.heap.size []) fun _ h=>.inl h;have hr:=MK a b;have sa:=gG a;refine x9 (by simp) ?_;refine cF (cE hw (fun _ w' v w2=>v= .int .i64 b.sign) (fun O w' r=>ga (Rel.old r hS) (QG.rel r hS)) ?_);rintro O _ _ _ OJ r he hw h_ rfl;replace ha:=ha.cG r hS he (mC h_);refine dK.mk ?_ ?_<;>intro h
 ·have h:=aI h;rw[if_pos h]at hr;refine cF (cE hw (fun _ w' v w2=>v= .int .i64 a.sign) (fun O w' r=>ga (Rel.old r hS) (ha.rel r hS)) ?_);rintro O Pn v2 PJ OG r he hw h_ rfl;refine⟨-a.sign,wo,?_⟩;exact rtn hw fun ρe we re=>by rw[hr];rfl
 have h:=aH h;rw[aJ h]at hr;refine cF (cE hw (fun _ w' v w2=>v= .int .i64 a.sign) (fun O w' r=>ga (Rel.old r hS) (ha.rel r hS)) ?_);rintro O _ _ _ OG r he hw h_ rfl;exact rtn hw fun ρe we re=>by rw[hr];rfl
theorem Ch{v:Value}(hS:Old S w)(hp:cT w S v p):eA PG N.jd #[v] w (eF w fun v' _=>v'= .int .i64 (rs p)):=by
 have:=ss hS hp.r;rw[om]at this;exact this
theorem od{v:Value}(hS:Old S w)(hp:eS w S v p):eA PG N.jd #[v] w (eF w fun v' _=>v'= .int .i64 (rs p)):=by
 obtain⟨a,b,h1,rfl⟩:=hp.r;exact ss hS h1
theorem gF{v:Value}(hS:Old S w)(hp:eS w S v p):
  eA PG N.tq #[v] w (eF w fun v' w2=>cT w2 (Nf w w2) v' p):=by
 have hw:=bR w;obtain⟨b1,l1,b2,l2,a,b,rfl,ha,QG,rfl⟩:=hp;obtain⟨_,a1,n1,c1,e1⟩:=ha.shape;obtain⟨_,a2,n2,c2,e2⟩:=QG.shape;simp only[Value.agg.injEq,Array.mk.injEq,List.cons.injEq,and_true]at e1 e2;obtain⟨_,rfl⟩:=e1;obtain⟨_,rfl⟩:=e2;replace ha:=ha.cK (S':=Cv S w.heap.size []) fun _ h=>.inl h;replace QG:=QG.cK (S':=Cv S w.heap.size []) fun _ h=>.inl h;have sb:=gG b;refine xg (by simp) ?_;refine cF (cO (Φ:=fun _ w' v w2=>v= .int .i64 b.sign) (fun O w' r=>ga (Rel.old r hS) (QG.rel r hS).r) ?_);rintro O Pg v1 PS r he hb rfl;replace hw:=hw.tr hb;replace ha:=ha.cG (iv':=(Pg.heap.size,PS.heap.size)::[]) r hS he fun x hx=>List.mem_cons_of_mem _ hx;replace QG:=QG.cG (iv':=(Pg.heap.size,PS.heap.size)::[]) r hS he fun x hx=>List.mem_cons_of_mem _ hx;generalize (Pg.heap.size,PS.heap.size)::[]=OJ at*
 refine dK.mk ?_ ?_<;>intro h
 ·have h:b.sign=0:=by simpa using h
  obtain rfl:b=0:=by omega
  rw[show ratio a 0=Rat.divInt a 1 from if_pos rfl];refine cM hτ df [.x 0,.x 1,.x 2,.x 3,.x 4] (by kernel_rfl) (by kernel_rfl) ?_;refine cO (Φ:=fun _ w' v w2=>dL w2 (Nf w' w2) v (1)) (fun O w' r=>kj _ w' (by decide) (by decide)) ?_;rintro O Pn v2 PJ r he hb hn;replace hw:=hw.tr hb;replace ha:=ha.cG (iv':=(Pn.heap.size,PJ.heap.size)::OJ) r hS he fun x hx=>List.mem_cons_of_mem _ hx;replace QG:=QG.cG (iv':=(Pn.heap.size,PJ.heap.size)::OJ) r hS he fun x hx=>List.mem_cons_of_mem _ hx;have h1:=hn.dB (S:=FF) r.cD (iv:=(Pn.heap.size,PJ.heap.size)::OJ) aG;generalize (Pn.heap.size,PJ.heap.size)::OJ=OG at*
  obtain⟨A0,A1,A2,A3,rfl⟩:=h1.shape;refine cO (Φ:=fun _ w' v w2=>cT w2 (Nf w' w2) v (Rat.divInt a 1)) (fun O w' r=>kL (Rel.old r hS) (ha.rel r hS) (((h1.rel r (cC w)).l (k:=1) (by decide)).cK fun g hg=>Cv.false hg) (by omega) (by omega) (by decide)) ?_;rintro O PH v3 PD r he hb hn;replace hw:=hw.tr hb;replace ha:=ha.cG (iv':=(PH.heap.size,PD.heap.size)::OG) r hS he fun x hx=>List.mem_cons_of_mem _ hx;replace QG:=QG.cG (iv':=(PH.heap.size,PD.heap.size)::OG) r hS he fun x hx=>List.mem_cons_of_mem _ hx;replace h1:=h1.cG (iv':=(PH.heap.size,PD.heap.size)::OG) r (cC w) he fun x hx=>List.mem_cons_of_mem _ hx;have hR:=hn.dB (S:=FF) r.cD (iv:=(PH.heap.size,PD.heap.size)::OG) aG;generalize (PH.heap.size,PD.heap.size)::OG=ON at*
  obtain⟨C0,C1,C2,C3,C4,C5,C6,C7,rfl⟩:=hR.shape;exact rtn hw fun ρe we re=>hR.out re (cC w)
 have h:b.sign≠0:=by simpa using h
 have UI:b≠0:=by omega
 rw[show ratio a b=Rat.divInt a b from aJ UI];refine cF (cO (Φ:=fun _ w' v w2=>cT w2 (Nf w' w2) v (Rat.divInt a b)) (fun O w' r=>kL (Rel.old r hS) (ha.rel r hS) (QG.rel r hS) (by omega) (by omega) UI) ?_);rintro O Pn v2 PJ r he hb hn;replace hw:=hw.tr hb;replace ha:=ha.cG (iv':=(Pn.heap.size,PJ.heap.size)::OJ) r hS he fun x hx=>List.mem_cons_of_mem _ hx;replace QG:=QG.cG (iv':=(Pn.heap.size,PJ.heap.size)::OJ) r hS he fun x hx=>List.mem_cons_of_mem _ hx;have hR:=hn.dB (S:=FF) r.cD (iv:=(Pn.heap.size,PJ.heap.size)::OJ) aG;generalize (Pn.heap.size,PJ.heap.size)::OJ=OG at*
 obtain⟨A0,A1,A2,A3,A4,A5,A6,A7,rfl⟩:=hR.shape;exact rtn hw fun ρe we re=>hR.out re (cC w)
theorem yV{v:Value}(hS:Old S w)(hp:eS w S v p):
  eA PG N.xK #[v] w (eF w fun v' _=>∃n d ok,v'= .tuple #[.int .i64 n,.int .i64 d,.bool ok]∧(ok=true->d≠0∧n.natAbs<1073741824∧d.natAbs<1073741824∧Rat.divInt n d=p)):=by
 have hw:=bR w;obtain⟨b1,l1,b2,l2,a,b,rfl,ha,QG,rfl⟩:=hp;obtain⟨_,a1,n1,c1,e1⟩:=ha.shape;obtain⟨_,a2,n2,c2,e2⟩:=QG.shape;simp only[Value.agg.injEq,Array.mk.injEq,List.cons.injEq,and_true]at e1 e2;obtain⟨_,rfl⟩:=e1;obtain⟨_,rfl⟩:=e2;replace ha:=ha.cK (S':=Cv S w.heap.size []) fun _ h=>.inl h;replace QG:=QG.cK (S':=Cv S w.heap.size []) fun _ h=>.inl h;refine AS (by simp) ?_
 refine cF (cO (Φ:=fun _ w' v w2=>∃n p,v= .tuple #[.int .i64 n,.bool p]∧(p=true->n=a∧a.natAbs<1073741824)) (fun O w' r=>(nd (Rel.old r hS) (ha.rel r hS).r).mono fun e w2 ⟨v2,e1,e2,e3⟩=>⟨v2,e1,e2,by
   rw[e3,jk];split
   ·exact⟨_,_,rfl,fun _=>⟨rfl,‹_›⟩⟩
   ·exact⟨_,_,rfl,fun h=>by cases h⟩⟩) ?_)
 rintro O Pg v1 PS r he hb ⟨na,pa,rfl,qa⟩;replace hw:=hw.tr hb;replace ha:=ha.cG (iv':=(Pg.heap.size,PS.heap.size)::[]) r hS he fun x hx=>List.mem_cons_of_mem _ hx;replace QG:=QG.cG (iv':=(Pg.heap.size,PS.heap.size)::[]) r hS he fun x hx=>List.mem_cons_of_mem _ hx;generalize (Pg.heap.size,PS.heap.size)::[]=OJ at*
 refine cF (cO (Φ:=fun _ w' v w2=>∃n p,v= .tuple #[.int .i64 n,.bool p]∧(p=true->n=b∧b.natAbs<1073741824)) (fun O w' r=>(nd (Rel.old r hS) (QG.rel r hS).r).mono fun e w2 ⟨v2,e1,e2,e3⟩=>⟨v2,e1,e2,by
   rw[e3,jk];split
   ·exact⟨_,_,rfl,fun _=>⟨rfl,‹_›⟩⟩
   ·exact⟨_,_,rfl,fun h=>by cases h⟩⟩) ?_)
 rintro O Pn v2 PJ r he hb ⟨nb,pb,rfl,qb⟩;replace hw:=hw.tr hb;replace ha:=ha.cG (iv':=(Pn.heap.size,PJ.heap.size)::OJ) r hS he fun x hx=>List.mem_cons_of_mem _ hx;replace QG:=QG.cG (iv':=(Pn.heap.size,PJ.heap.size)::OJ) r hS he fun x hx=>List.mem_cons_of_mem _ hx;generalize (Pn.heap.size,PJ.heap.size)::OJ=OG at*
 refine dK.mk ?_ ?_<;>intro h
 ·have h:nb=0:=by simpa using h
  refine dK.mk ?_ ?_<;>intro h1
  ·intro ρe we re
   exact⟨_,rfl,hw.tr re.cQ,⟨na,1,pb,rfl,fun h2=>by
     obtain⟨rfl,hx⟩:=qa h1;obtain⟨rfl,hy⟩:=qb h2;rw[h]
     exact⟨by decide,hx,by decide,(if_pos rfl).symm⟩⟩⟩
  exact rtn hw fun ρe we re=>⟨na,1,false,rfl,fun h2=>by cases h2⟩
 have h:nb≠0:=by simpa using h
 refine dK.mk ?_ ?_<;>intro h1
 ·intro ρe we re
  exact⟨_,rfl,hw.tr re.cQ,⟨na,nb,pb,rfl,fun h2=>by
    obtain⟨rfl,hx⟩:=qa h1;obtain⟨rfl,hy⟩:=qb h2
    exact⟨h,hx,hy,(aJ h).symm⟩⟩⟩
 exact rtn hw fun ρe we re=>⟨na,nb,false,rfl,fun h2=>by cases h2⟩
theorem HZ{v:Value}(hS:Old S w)(hp:eS w S v p)(hq:eS w S u q):
  eA PG N.CG #[v,u] w (eF w fun v' w2=>cT w2 (Nf w w2) v' (p+q)):=by
 have hw:=bR w;replace hp:=hp.cK (S':=Cv S w.heap.size []) fun _ h=>.inl h;replace hq:=hq.cK (S':=Cv S w.heap.size []) fun _ h=>.inl h;obtain⟨b1,a1,n1,c1,b2,a2,n2,c2,rfl⟩:=hp.shape;obtain⟨b3,a3,n3,c3,b4,a4,n4,c4,rfl⟩:=hq.shape;refine DS (by simp) ?_;have r1:=hp.rl;have r2:=hq.rl;have u1:=fm p;have u2:=fF p;have u3:=fm q;have u4:=fF q;refine cF (cE hw (fun _ w' v w2=>∃n d ok,v= .tuple #[.int .i64 n,.int .i64 d,.bool ok]∧(ok=true->d≠0∧n.natAbs<1073741824∧d.natAbs<1073741824∧Rat.divInt n d=p)) (fun O w' r=>yV (Rel.old r hS) (hp.rel r hS)) ?_);rintro O _ _ _ OJ r he hw h_ ⟨a,b,k1,rfl,g1⟩;replace hp:=hp.cG r hS he (mC h_);replace hq:=hq.cG r hS he (mC h_);refine cF (cE hw (fun _ w' v w2=>∃n d ok,v= .tuple #[.int .i64 n,.int .i64 d,.bool ok]∧(ok=true->d≠0∧n.natAbs<1073741824∧d.natAbs<1073741824∧Rat.divInt n d=q)) (fun O w' r=>yV (Rel.old r hS) (hq.rel r hS)) ?_);rintro O _ _ _ OG r he hw h_ ⟨c,d,k2,rfl,g2⟩;replace hp:=hp.cG r hS he (mC h_);replace hq:=hq.cG r hS he (mC h_);refine dK.mk ?_ ?_<;>intro h1
 ·refine dK.mk ?_ ?_<;>intro h2
  ·obtain⟨g3,g4,g5,g6⟩:=g1 h1;obtain⟨g7,g8,g9,g10⟩:=g2 h2;have i1:=j7 g4 g9;have i2:=j7 g8 g5;have i3:=j7 g5 g9;have i4:=j7 g4 g8;refine⟨a*d,wo,c*b,wo,a*d+c*b,wo,b*d,wo,?_⟩;have e:=Rat.divInt_add_divInt a c g3 g7;rw[g6,g10]at e;refine cF (cE hw (fun _ w' v w2=>cT w2 (Nf w' w2) v (p+q)) (fun O w' r=>e▸rC (a*d+c*b) (b*d) w' (by omega) (by omega) (jz g3 g7)) ?_);rintro O PH v3 PD ON r he hw h_ hn;have hR:=hn.dB (S:=FF) r.cD (mN h_);obtain⟨A0,A1,A2,A3,A4,A5,A6,A7,rfl⟩:=hR.shape;exact rtn hw fun ρe we re=>hR.out re (cC w)
  refine cM hτ df [.x 0,.x 2,.x 1,.x 3,.x 4,.x 5] (by kernel_rfl) (by kernel_rfl) ?_;refine cE hw (fun _ w' v w2=>cT w2 (Nf w' w2) v (p)) (fun O w' r=>gF (Rel.old r hS) (hp.rel r hS)) ?_;rintro O PH v3 PD ON r he hw h_ hn;replace hq:=hq.cG r hS he (mC h_);have hX:=hn.dB (S:=FF) r.cD (mN h_);obtain⟨A0,A1,A2,A3,A4,A5,A6,A7,rfl⟩:=hX.shape;refine cE hw (fun _ w' v w2=>cT w2 (Nf w' w2) v (q)) (fun O w' r=>gF (Rel.old r hS) (hq.rel r hS)) ?_;rintro O Qw v4 Qk OZ r he hw h_ hn;replace hX:=hX.cG r (cC w) he (mC h_);have hY:=hn.dB (S:=FF) r.cD (mN h_);obtain⟨C0,C1,C2,C3,C4,C5,C6,C7,rfl⟩:=hY.shape;have QK:=hX.num;have Pp:=hX.den;have QL:=hY.num;have QM:=hY.den;have m0:=dA p.num q.den;have m1:=dA q.num p.den;have m2:=dA (p.den:Int) q.den;have m3:=ie (p.num*q.den) (q.num*p.den);have m4:=dA p.num q.num;refine cM hτ df [.x 0,.x 1,.x 2,.x 3,.x 5,.x 6,.x 7,.x 8,.x 11,.x 12,.x 13,.x 14,.x 4,.x 9,.x 10,.x 15,.x 16,.x 17] (by kernel_rfl) (by kernel_rfl) ?_;refine cE hw (fun _ w' v w2=>dL w2 (Nf w' w2) v (p.num*(q.den:Int))) (fun O w' r=>iJ (Rel.old r (cC w)) ((QK.rel r (cC w)).l (k:=100000) (by omega)) ((QM.rel r (cC w)).l (k:=100000) (by omega)) (by omega) (by omega)) ?_;rintro O RY v5 RO PF r he hw h_ hn;replace QK:=QK.cG r (cC w) he (mC h_);replace Pp:=Pp.cG r (cC w) he (mC h_);replace QL:=QL.cG r (cC w) he (mC h_);replace QM:=QM.cG r (cC w) he (mC h_);have hA:=hn.dB (S:=FF) r.cD (mN h_);obtain⟨E0,E1,E2,E3,rfl⟩:=hA.shape;refine cE hw (fun _ w' v w2=>dL w2 (Nf w' w2) v (q.num*(p.den:Int))) (fun O w' r=>iJ (Rel.old r (cC w)) ((QL.rel r (cC w)).l (k:=100000) (by omega)) ((Pp.rel r (cC w)).l (k:=100000) (by omega)) (by omega) (by omega)) ?_;rintro O RR v6 RZ Q2 r he hw h_ hn;replace QK:=QK.cG r (cC w) he (mC h_);replace Pp:=Pp.cG r (cC w) he (mC h_);replace QL:=QL.cG r (cC w) he (mC h_);replace QM:=QM.cG r (cC w) he (mC h_);replace hA:=hA.cG r (cC w) he (mC h_);have hB:=hn.dB (S:=FF) r.cD (mN h_);obtain⟨F0,F1,F2,F3,rfl⟩:=hB.shape;refine cE hw (fun _ w' v w2=>dL w2 (Nf w' w2) v (p.num*(q.den:Int)+q.num*(p.den:Int))) (fun O w' r=>Au (Rel.old r (cC w)) ((hA.rel r (cC w)).l (k:=200000) (by omega)) ((hB.rel r (cC w)).l (k:=200000) (by omega)) (by omega) (by omega)) ?_;rintro O Tc v7 Td RP r he hw h_ hn;replace QK:=QK.cG r (cC w) he (mC h_);replace Pp:=Pp.cG r (cC w) he (mC h_);replace QL:=QL.cG r (cC w) he (mC h_);replace QM:=QM.cG r (cC w) he (mC h_);have hN:=hn.dB (S:=FF) r.cD (mN h_);obtain⟨G0,G1,G2,G3,rfl⟩:=hN.shape;refine cE hw (fun _ w' v w2=>dL w2 (Nf w' w2) v ((p.den:Int)*(q.den:Int))) (fun O w' r=>iJ (Rel.old r (cC w)) ((Pp.rel r (cC w)).l (k:=100000) (by omega)) ((QM.rel r (cC w)).l (k:=100000) (by omega)) (by omega) (by omega)) ?_;rintro O Tw v8 UZ Rg r he hw h_ hn;replace QK:=QK.cG r (cC w) he (mC h_);replace Pp:=Pp.cG r (cC w) he (mC h_);replace QL:=QL.cG r (cC w) he (mC h_);replace QM:=QM.cG r (cC w) he (mC h_);replace hN:=hN.cG r (cC w) he (mC h_);have hD:=hn.dB (S:=FF) r.cD (mN h_);obtain⟨J0,J1,J2,J3,rfl⟩:=hD.shape;refine cE hw (fun _ w' v w2=>cT w2 (Nf w' w2) v (p+q)) (fun O w' r=>(td p q)▸kL (Rel.old r (cC w)) ((hN.rel r (cC w)).l (k:=200001) (by omega)) ((hD.rel r (cC w)).l (k:=200001) (by omega)) (by omega) (by omega) (jz (gK p) (gK q))) ?_;rintro O Rh v9 Rv SK r he hw h_ hn;have hR:=hn.dB (S:=FF) r.cD (mN h_);obtain⟨K0,K1,K2,K3,K4,K5,K6,K7,rfl⟩:=hR.shape;exact rtn hw fun ρe we re=>hR.out re (cC w)
 refine cM hτ df [.x 0,.x 2,.x 1,.x 3,.x 4,.x 5] (by kernel_rfl) (by kernel_rfl) ?_;refine cE hw (fun _ w' v w2=>cT w2 (Nf w' w2) v (p)) (fun O w' r=>gF (Rel.old r hS) (hp.rel r hS)) ?_;rintro O _ _ _ ON r he hw h_ hn;replace hq:=hq.cG r hS he (mC h_);have hX:=hn.dB (S:=FF) r.cD (mN h_);obtain⟨A0,A1,A2,A3,A4,A5,A6,A7,rfl⟩:=hX.shape;refine cE hw (fun _ w' v w2=>cT w2 (Nf w' w2) v (q)) (fun O w' r=>gF (Rel.old r hS) (hq.rel r hS)) ?_;rintro O _ _ _ OZ r he hw h_ hn;replace hX:=hX.cG r (cC w) he (mC h_);have hY:=hn.dB (S:=FF) r.cD (mN h_);obtain⟨C0,C1,C2,C3,C4,C5,C6,C7,rfl⟩:=hY.shape;have QK:=hX.num;have Pp:=hX.den;have QL:=hY.num;have QM:=hY.den;have m0:=dA p.num q.den;have m1:=dA q.num p.den;have m2:=dA (p.den:Int) q.den;have m3:=ie (p.num*q.den) (q.num*p.den);have m4:=dA p.num q.num;refine cM hτ df [.x 0,.x 1,.x 2,.x 3,.x 5,.x 6,.x 7,.x 8,.x 11,.x 12,.x 13,.x 14,.x 4,.x 9,.x 10,.x 15,.x 16,.x 17] (by kernel_rfl) (by kernel_rfl) ?_;refine cE hw (fun _ w' v w2=>dL w2 (Nf w' w2) v (p.num*(q.den:Int))) (fun O w' r=>iJ (Rel.old r (cC w)) ((QK.rel r (cC w)).l (k:=100000) (by omega)) ((QM.rel r (cC w)).l (k:=100000) (by omega)) (by omega) (by omega)) ?_;rintro O _ _ _ PF r he hw h_ hn;replace QK:=QK.cG r (cC w) he (mC h_);replace Pp:=Pp.cG r (cC w) he (mC h_);replace QL:=QL.cG r (cC w) he (mC h_);replace QM:=QM.cG r (cC w) he (mC h_);have hA:=hn.dB (S:=FF) r.cD (mN h_);obtain⟨E0,E1,E2,E3,rfl⟩:=hA.shape;refine cE hw (fun _ w' v w2=>dL w2 (Nf w' w2) v (q.num*(p.den:Int))) (fun O w' r=>iJ (Rel.old r (cC w)) ((QL.rel r (cC w)).l (k:=100000) (by omega)) ((Pp.rel r (cC w)).l (k:=100000) (by omega)) (by omega) (by omega)) ?_;rintro O _ _ _ Q2 r he hw h_ hn;replace QK:=QK.cG r (cC w) he (mC h_);replace Pp:=Pp.cG r (cC w) he (mC h_);replace QL:=QL.cG r (cC w) he (mC h_);replace QM:=QM.cG r (cC w) he (mC h_);replace hA:=hA.cG r (cC w) he (mC h_);have hB:=hn.dB (S:=FF) r.cD (mN h_);obtain⟨F0,F1,F2,F3,rfl⟩:=hB.shape;refine cE hw (fun _ w' v w2=>dL w2 (Nf w' w2) v (p.num*(q.den:Int)+q.num*(p.den:Int))) (fun O w' r=>Au (Rel.old r (cC w)) ((hA.rel r (cC w)).l (k:=200000) (by omega)) ((hB.rel r (cC w)).l (k:=200000) (by omega)) (by omega) (by omega)) ?_;rintro O _ _ _ RP r he hw h_ hn;replace QK:=QK.cG r (cC w) he (mC h_);replace Pp:=Pp.cG r (cC w) he (mC h_);replace QL:=QL.cG r (cC w) he (mC h_);replace QM:=QM.cG r (cC w) he (mC h_);have hN:=hn.dB (S:=FF) r.cD (mN h_);obtain⟨G0,G1,G2,G3,rfl⟩:=hN.shape;refine cE hw (fun _ w' v w2=>dL w2 (Nf w' w2) v ((p.den:Int)*(q.den:Int))) (fun O w' r=>iJ (Rel.old r (cC w)) ((Pp.rel r (cC w)).l (k:=100000) (by omega)) ((QM.rel r (cC w)).l (k:=100000) (by omega)) (by omega) (by omega)) ?_;rintro O _ _ _ Rg r he hw h_ hn;replace QK:=QK.cG r (cC w) he (mC h_);replace Pp:=Pp.cG r (cC w) he (mC h_);replace QL:=QL.cG r (cC w) he (mC h_);replace QM:=QM.cG r (cC w) he (mC h_);replace hN:=hN.cG r (cC w) he (mC h_);have hD:=hn.dB (S:=FF) r.cD (mN h_);obtain⟨J0,J1,J2,J3,rfl⟩:=hD.shape;refine cE hw (fun _ w' v w2=>cT w2 (Nf w' w2) v (p+q)) (fun O w' r=>(td p q)▸kL (Rel.old r (cC w)) ((hN.rel r (cC w)).l (k:=200001) (by omega)) ((hD.rel r (cC w)).l (k:=200001) (by omega)) (by omega) (by omega) (jz (gK p) (gK q))) ?_;rintro O _ _ _ SK r he hw h_ hn;have hR:=hn.dB (S:=FF) r.cD (mN h_);obtain⟨K0,K1,K2,K3,K4,K5,K6,K7,rfl⟩:=hR.shape;exact rtn hw fun ρe we re=>hR.out re (cC w)
theorem H0{v:Value}(hS:Old S w)(hp:eS w S v p)(hq:eS w S u q):
  eA PG N.CE #[v,u] w (eF w fun v' w2=>cT w2 (Nf w w2) v' (p*q)):=by
 have hw:=bR w;replace hp:=hp.cK (S':=Cv S w.heap.size []) fun _ h=>.inl h;replace hq:=hq.cK (S':=Cv S w.heap.size []) fun _ h=>.inl h;obtain⟨b1,a1,n1,c1,b2,a2,n2,c2,rfl⟩:=hp.shape;obtain⟨b3,a3,n3,c3,b4,a4,n4,c4,rfl⟩:=hq.shape;refine DP (by simp) ?_;have r1:=hp.rl;have r2:=hq.rl;have u1:=fm p;have u2:=fF p;have u3:=fm q;have u4:=fF q;refine cF (cE hw (fun _ w' v w2=>∃n d ok,v= .tuple #[.int .i64 n,.int .i64 d,.bool ok]∧(ok=true->d≠0∧n.natAbs<1073741824∧d.natAbs<1073741824∧Rat.divInt n d=p)) (fun O w' r=>yV (Rel.old r hS) (hp.rel r hS)) ?_);rintro O _ _ _ OJ r he hw h_ ⟨a,b,k1,rfl,g1⟩;replace hp:=hp.cG r hS he (mC h_);replace hq:=hq.cG r hS he (mC h_);refine cF (cE hw (fun _ w' v w2=>∃n d ok,v= .tuple #[.int .i64 n,.int .i64 d,.bool ok]∧(ok=true->d≠0∧n.natAbs<1073741824∧d.natAbs<1073741824∧Rat.divInt n d=q)) (fun O w' r=>yV (Rel.old r hS) (hq.rel r hS)) ?_);rintro O _ _ _ OG r he hw h_ ⟨c,d,k2,rfl,g2⟩;replace hp:=hp.cG r hS he (mC h_);replace hq:=hq.cG r hS he (mC h_);refine dK.mk ?_ ?_<;>intro h1
 ·refine dK.mk ?_ ?_<;>intro h2
  ·obtain⟨g3,g4,g5,g6⟩:=g1 h1;obtain⟨g7,g8,g9,g10⟩:=g2 h2;have i1:=j7 g4 g9;have i2:=j7 g8 g5;have i3:=j7 g5 g9;have i4:=j7 g4 g8;refine⟨a*c,wo,b*d,wo,?_⟩;have e:=Rat.divInt_mul_divInt a c (d₁:=b) (d₂:=d);rw[g6,g10]at e;refine cF (cE hw (fun _ w' v w2=>cT w2 (Nf w' w2) v (p*q)) (fun O w' r=>e▸rC (a*c) (b*d) w' (by omega) (by omega) (jz g3 g7)) ?_);rintro O PH v3 PD ON r he hw h_ hn;have hR:=hn.dB (S:=FF) r.cD (mN h_);obtain⟨A0,A1,A2,A3,A4,A5,A6,A7,rfl⟩:=hR.shape;exact rtn hw fun ρe we re=>hR.out re (cC w)
  refine cM hτ df [.x 0,.x 2,.x 1,.x 3,.x 4,.x 5] (by kernel_rfl) (by kernel_rfl) ?_;refine cE hw (fun _ w' v w2=>cT w2 (Nf w' w2) v (p)) (fun O w' r=>gF (Rel.old r hS) (hp.rel r hS)) ?_;rintro O PH v3 PD ON r he hw h_ hn;replace hq:=hq.cG r hS he (mC h_);have hX:=hn.dB (S:=FF) r.cD (mN h_);obtain⟨A0,A1,A2,A3,A4,A5,A6,A7,rfl⟩:=hX.shape;refine cE hw (fun _ w' v w2=>cT w2 (Nf w' w2) v (q)) (fun O w' r=>gF (Rel.old r hS) (hq.rel r hS)) ?_;rintro O Qw v4 Qk OZ r he hw h_ hn;replace hX:=hX.cG r (cC w) he (mC h_);have hY:=hn.dB (S:=FF) r.cD (mN h_);obtain⟨C0,C1,C2,C3,C4,C5,C6,C7,rfl⟩:=hY.shape;have QK:=hX.num;have Pp:=hX.den;have QL:=hY.num;have QM:=hY.den;have m0:=dA p.num q.den;have m1:=dA q.num p.den;have m2:=dA (p.den:Int) q.den;have m3:=ie (p.num*q.den) (q.num*p.den);have m4:=dA p.num q.num;refine cM hτ df [.x 0,.x 1,.x 2,.x 3,.x 5,.x 6,.x 7,.x 8,.x 4,.x 9,.x 10,.x 11] (by kernel_rfl) (by kernel_rfl) ?_;refine cE hw (fun _ w' v w2=>dL w2 (Nf w' w2) v (p.num*q.num)) (fun O w' r=>iJ (Rel.old r (cC w)) ((QK.rel r (cC w)).l (k:=100000) (by omega)) ((QL.rel r (cC w)).l (k:=100000) (by omega)) (by omega) (by omega)) ?_;rintro O RY v5 RO PF r he hw h_ hn;replace QK:=QK.cG r (cC w) he (mC h_);replace Pp:=Pp.cG r (cC w) he (mC h_);replace QL:=QL.cG r (cC w) he (mC h_);replace QM:=QM.cG r (cC w) he (mC h_);have hN:=hn.dB (S:=FF) r.cD (mN h_);obtain⟨E0,E1,E2,E3,rfl⟩:=hN.shape;refine cE hw (fun _ w' v w2=>dL w2 (Nf w' w2) v ((p.den:Int)*(q.den:Int))) (fun O w' r=>iJ (Rel.old r (cC w)) ((Pp.rel r (cC w)).l (k:=100000) (by omega)) ((QM.rel r (cC w)).l (k:=100000) (by omega)) (by omega) (by omega)) ?_;rintro O RR v6 RZ Q2 r he hw h_ hn;replace QK:=QK.cG r (cC w) he (mC h_);replace Pp:=Pp.cG r (cC w) he (mC h_);replace QL:=QL.cG r (cC w) he (mC h_);replace QM:=QM.cG r (cC w) he (mC h_);replace hN:=hN.cG r (cC w) he (mC h_);have hD:=hn.dB (S:=FF) r.cD (mN h_);obtain⟨F0,F1,F2,F3,rfl⟩:=hD.shape;refine cE hw (fun _ w' v w2=>cT w2 (Nf w' w2) v (p*q)) (fun O w' r=>(yK p q)▸kL (Rel.old r (cC w)) ((hN.rel r (cC w)).l (k:=200001) (by omega)) ((hD.rel r (cC w)).l (k:=200001) (by omega)) (by omega) (by omega) (jz (gK p) (gK q))) ?_;rintro O Tc v7 Td RP r he hw h_ hn;have hR:=hn.dB (S:=FF) r.cD (mN h_);obtain⟨G0,G1,G2,G3,G4,G5,G6,G7,rfl⟩:=hR.shape;exact rtn hw fun ρe we re=>hR.out re (cC w)
 refine cM hτ df [.x 0,.x 2,.x 1,.x 3,.x 4,.x 5] (by kernel_rfl) (by kernel_rfl) ?_;refine cE hw (fun _ w' v w2=>cT w2 (Nf w' w2) v (p)) (fun O w' r=>gF (Rel.old r hS) (hp.rel r hS)) ?_;rintro O _ _ _ ON r he hw h_ hn;replace hq:=hq.cG r hS he (mC h_);have hX:=hn.dB (S:=FF) r.cD (mN h_);obtain⟨A0,A1,A2,A3,A4,A5,A6,A7,rfl⟩:=hX.shape;refine cE hw (fun _ w' v w2=>cT w2 (Nf w' w2) v (q)) (fun O w' r=>gF (Rel.old r hS) (hq.rel r hS)) ?_;rintro O _ _ _ OZ r he hw h_ hn;replace hX:=hX.cG r (cC w) he (mC h_);have hY:=hn.dB (S:=FF) r.cD (mN h_);obtain⟨C0,C1,C2,C3,C4,C5,C6,C7,rfl⟩:=hY.shape;have QK:=hX.num;have Pp:=hX.den;have QL:=hY.num;have QM:=hY.den;have m0:=dA p.num q.den;have m1:=dA q.num p.den;have m2:=dA (p.den:Int) q.den;have m3:=ie (p.num*q.den) (q.num*p.den);have m4:=dA p.num q.num;refine cM hτ df [.x 0,.x 1,.x 2,.x 3,.x 5,.x 6,.x 7,.x 8,.x 4,.x 9,.x 10,.x 11] (by kernel_rfl) (by kernel_rfl) ?_;refine cE hw (fun _ w' v w2=>dL w2 (Nf w' w2) v (p.num*q.num)) (fun O w' r=>iJ (Rel.old r (cC w)) ((QK.rel r (cC w)).l (k:=100000) (by omega)) ((QL.rel r (cC w)).l (k:=100000) (by omega)) (by omega) (by omega)) ?_;rintro O _ _ _ PF r he hw h_ hn;replace QK:=QK.cG r (cC w) he (mC h_);replace Pp:=Pp.cG r (cC w) he (mC h_);replace QL:=QL.cG r (cC w) he (mC h_);replace QM:=QM.cG r (cC w) he (mC h_);have hN:=hn.dB (S:=FF) r.cD (mN h_);obtain⟨E0,E1,E2,E3,rfl⟩:=hN.shape;refine cE hw (fun _ w' v w2=>dL w2 (Nf w' w2) v ((p.den:Int)*(q.den:Int))) (fun O w' r=>iJ (Rel.old r (cC w)) ((Pp.rel r (cC w)).l (k:=100000) (by omega)) ((QM.rel r (cC w)).l (k:=100000) (by omega)) (by omega) (by omega)) ?_;rintro O _ _ _ Q2 r he hw h_ hn;replace QK:=QK.cG r (cC w) he (mC h_);replace Pp:=Pp.cG r (cC w) he (mC h_);replace QL:=QL.cG r (cC w) he (mC h_);replace QM:=QM.cG r (cC w) he (mC h_);replace hN:=hN.cG r (cC w) he (mC h_);have hD:=hn.dB (S:=FF) r.cD (mN h_);obtain⟨F0,F1,F2,F3,rfl⟩:=hD.shape;refine cE hw (fun _ w' v w2=>cT w2 (Nf w' w2) v (p*q)) (fun O w' r=>(yK p q)▸kL (Rel.old r (cC w)) ((hN.rel r (cC w)).l (k:=200001) (by omega)) ((hD.rel r (cC w)).l (k:=200001) (by omega)) (by omega) (by omega) (jz (gK p) (gK q))) ?_;rintro O _ _ _ RP r he hw h_ hn;have hR:=hn.dB (S:=FF) r.cD (mN h_);obtain⟨G0,G1,G2,G3,G4,G5,G6,G7,rfl⟩:=hR.shape;exact rtn hw fun ρe we re=>hR.out re (cC w)
theorem HK{v:Value}(hS:Old S w)(hp:eS w S v p):
  eA PG N.CD #[v] w (eF w fun v' w2=>cT w2 (Nf w w2) v' (-p)):=by
 have hw:=bR w;replace hp:=hp.cK (S':=Cv S w.heap.size []) fun _ h=>.inl h;obtain⟨b1,a1,n1,c1,b2,a2,n2,c2,rfl⟩:=hp.shape;refine DO (by simp) ?_;have r1:=hp.rl;have u1:=fm p;have u2:=fF p;refine cF (cE hw (fun _ w' v w2=>cT w2 (Nf w' w2) v (p)) (fun O w' r=>gF (Rel.old r hS) (hp.rel r hS)) ?_);rintro O _ _ _ OJ r he hw h_ hn;have hX:=hn.dB (S:=FF) r.cD (mN h_);obtain⟨A0,A1,A2,A3,A4,A5,A6,A7,rfl⟩:=hX.shape;have QK:=hX.num;have Pp:=hX.den;refine cM hτ df [.x 0,.x 1,.x 3,.x 4,.x 2,.x 5,.x 6] (by kernel_rfl) (by kernel_rfl) ?_;refine cE hw (fun _ w' v w2=>dL w2 (Nf w' w2) v (-p.num)) (fun O w' r=>mA (Rel.old r (cC w)) ((QK.rel r (cC w)).l (k:=100000) (by omega)) (by omega)) ?_;rintro O _ _ _ OG r he hw h_ hn;replace Pp:=Pp.cG r (cC w) he (mC h_);have hN:=hn.dB (S:=FF) r.cD (mN h_);obtain⟨C0,C1,C2,C3,rfl⟩:=hN.shape;refine cE hw (fun _ w' v w2=>cT w2 (Nf w' w2) v (-p)) (fun O w' r=>show eA _ _ _ _ (eF _ fun v w2=>cT w2 _ v (-p))from(show Rat.divInt (-p.num) p.den= -p by rw[<-Rat.neg_divInt,Rat.num_divInt_den])▸kL (Rel.old r (cC w)) ((hN.rel r (cC w)).l (k:=100000) (by rw[bz];omega)) ((Pp.rel r (cC w)).l (k:=100000) (by omega)) (by omega) (by omega) (gK p)) ?_;rintro O _ _ _ ON r he hw h_ hn;have hR:=hn.dB (S:=FF) r.cD (mN h_);obtain⟨E0,E1,E2,E3,E4,E5,E6,E7,rfl⟩:=hR.shape;exact rtn hw fun ρe we re=>hR.out re (cC w)
theorem aAQ{v:Value}(hS:Old S w)(hp:eS w S v p)(hq:eS w S u q):
  eA PG N.CH #[v,u] w (eF w fun v' w2=>cT w2 (Nf w w2) v' (p-q)):=by
 have hw:=bR w;replace hp:=hp.cK (S':=Cv S w.heap.size []) fun _ h=>.inl h;replace hq:=hq.cK (S':=Cv S w.heap.size []) fun _ h=>.inl h;obtain⟨b1,a1,n1,c1,b2,a2,n2,c2,rfl⟩:=hp.shape;obtain⟨b3,a3,n3,c3,b4,a4,n4,c4,rfl⟩:=hq.shape;refine DT (by simp) ?_;have r1:=hp.rl;have r2:=hq.rl;have u1:=lY q;refine cM hτ df [.x 0,.x 1,.x 2,.x 3,.x 4] (by kernel_rfl) (by kernel_rfl) ?_;refine cE hw (fun _ w' v w2=>cT w2 (Nf w' w2) v (-q)) (fun O w' r=>HK (Rel.old r hS) (hq.rel r hS)) ?_;rintro O _ _ _ OJ r he hw h_ hn;replace hp:=hp.cG r hS he (mC h_);have hN:=hn.dB (S:=FF) r.cD (mN h_);obtain⟨A0,A1,A2,A3,A4,A5,A6,A7,rfl⟩:=hN.shape;refine cE hw (fun _ w' v w2=>cT w2 (Nf w' w2) v (p-q)) (fun O w' r=>(Rat.sub_eq_add_neg p q)▸HZ (Rel.old r hS) (hp.rel r hS) (((hN.rel r (cC w)).l (by omega)).cK fun g hg=>Cv.false hg)) ?_;rintro O _ _ _ OG r he hw h_ hn;have hR:=hn.dB (S:=FF) r.cD (mN h_);obtain⟨C0,C1,C2,C3,C4,C5,C6,C7,rfl⟩:=hR.shape;exact rtn hw fun ρe we re=>hR.out re (cC w)
theorem Lg{v:Value}(hS:Old S w)(hp:eS w S v p)(hq:eS w S u q):
  eA PG N.CC #[v,u] w (eF w fun v' _=>v'= .int .i64 (rs (p-q))):=by
 have hw:=bR w;replace hp:=hp.cK (S':=Cv S w.heap.size []) fun _ h=>.inl h;replace hq:=hq.cK (S':=Cv S w.heap.size []) fun _ h=>.inl h;obtain⟨b1,a1,n1,c1,b2,a2,n2,c2,rfl⟩:=hp.shape;obtain⟨b3,a3,n3,c3,b4,a4,n4,c4,rfl⟩:=hq.shape;refine DN (by simp) ?_;refine cF (cE hw (fun _ w' v w2=>cT w2 (Nf w' w2) v (p-q)) (fun O w' r=>aAQ (Rel.old r hS) (hp.rel r hS) (hq.rel r hS)) ?_);rintro O _ _ _ OJ r he hw h_ hn;have hR:=hn.dB (S:=FF) r.cD (mN h_);obtain⟨A0,A1,A2,A3,A4,A5,A6,A7,rfl⟩:=hR.shape;refine cF (cE hw (fun _ w' v w2=>v= .int .i64 (rs (p-q))) (fun O w' r=>Ch (Rel.old r (cC w)) (hR.rel r (cC w))) ?_);rintro O _ _ _ OG r he hw h_ rfl;exact rtn hw fun ρe we re=>rfl
theorem aAR{v:Value}(hS:Old S w)(hp:eS w S v p)(hq:eS w S u q):
  eA PG N.vM #[v,u] w (eF w fun v' w2=>(q=0∧v'= .tuple #[Ap,.int .i64 9])∨(q≠0∧∃r,v'= .tuple #[r,.int .i64 0]∧cT w2 (Nf w w2) r (p / q))):=by
 have hw:=bR w;replace hp:=hp.cK (S':=Cv S w.heap.size []) fun _ h=>.inl h;replace hq:=hq.cK (S':=Cv S w.heap.size []) fun _ h=>.inl h;obtain⟨b1,a1,n1,c1,b2,a2,n2,c2,rfl⟩:=hp.shape;obtain⟨b3,a3,n3,c3,b4,a4,n4,c4,rfl⟩:=hq.shape;refine DW (by simp) ?_;have r1:=hp.rl;have r2:=hq.rl;have u1:=fm p;have u2:=fF p;have u3:=fm q;have u4:=fF q;have m0:=dA p.num q.den;have m1:=dA (p.den:Int) q.num;refine cM hτ df [.x 0,.x 2,.x 1,.x 3,.x 4,.x 5] (by kernel_rfl) (by kernel_rfl) ?_;refine cE hw (fun _ w' v w2=>cT w2 (Nf w' w2) v (p)) (fun O w' r=>gF (Rel.old r hS) (hp.rel r hS)) ?_;rintro O _ _ _ OJ r he hw h_ hn;replace hq:=hq.cG r hS he (mC h_);have hX:=hn.dB (S:=FF) r.cD (mN h_);obtain⟨A0,A1,A2,A3,A4,A5,A6,A7,rfl⟩:=hX.shape;refine cE hw (fun _ w' v w2=>cT w2 (Nf w' w2) v (q)) (fun O w' r=>gF (Rel.old r hS) (hq.rel r hS)) ?_;rintro O _ _ _ OG r he hw h_ hn;replace hX:=hX.cG r (cC w) he (mC h_);have hY:=hn.dB (S:=FF) r.cD (mN h_);obtain⟨C0,C1,C2,C3,C4,C5,C6,C7,rfl⟩:=hY.shape;refine cF (cE hw (fun _ w' v w2=>v= .int .i64 (rs q)) (fun O w' r=>Ch (Rel.old r (cC w)) (hY.rel r (cC w))) ?_);rintro O _ _ _ ON r he hw h_ rfl;replace hX:=hX.cG r (cC w) he (mC h_);replace hY:=hY.cG r (cC w) he (mC h_);refine dK.mk ?_ ?_<;>intro h
 ·have h:rs q=0:=by simpa using h
  exact rtn hw fun ρe we re=>.inl ⟨ky.1 h,rfl⟩
 have h:q≠0:=fun e=>by rw[e]at h;exact absurd h (by decide)
 have hqn:q.num≠0:=fun e=>h (Rat.num_eq_zero.1 e);have QK:=hX.num;have Pp:=hX.den;have QL:=hY.num;have QM:=hY.den;refine cM hτ df [.x 0,.x 1,.x 2,.x 3,.x 5,.x 6,.x 7,.x 8,.x 4,.x 9,.x 10,.x 11,.x 12] (by kernel_rfl) (by kernel_rfl) ?_;refine cE hw (fun _ w' v w2=>dL w2 (Nf w' w2) v (p.num*(q.den:Int))) (fun O w' r=>iJ (Rel.old r (cC w)) ((QK.rel r (cC w)).l (k:=100000) (by omega)) ((QM.rel r (cC w)).l (k:=100000) (by omega)) (by omega) (by omega)) ?_;rintro O _ _ _ OZ r he hw h_ hn;replace Pp:=Pp.cG r (cC w) he (mC h_);replace QL:=QL.cG r (cC w) he (mC h_);have hN:=hn.dB (S:=FF) r.cD (mN h_);obtain⟨E0,E1,E2,E3,rfl⟩:=hN.shape;refine cE hw (fun _ w' v w2=>dL w2 (Nf w' w2) v ((p.den:Int)*q.num)) (fun O w' r=>iJ (Rel.old r (cC w)) ((Pp.rel r (cC w)).l (k:=100000) (by omega)) ((QL.rel r (cC w)).l (k:=100000) (by omega)) (by omega) (by omega)) ?_;rintro O _ _ _ PF r he hw h_ hn;replace hN:=hN.cG r (cC w) he (mC h_);have hD:=hn.dB (S:=FF) r.cD (mN h_);obtain⟨F0,F1,F2,F3,rfl⟩:=hD.shape;refine cE hw (fun _ w' v w2=>cT w2 (Nf w' w2) v (p / q)) (fun O w' r=>(DB p q)▸kL (Rel.old r (cC w)) ((hN.rel r (cC w)).l (k:=200001) (by omega)) ((hD.rel r (cC w)).l (k:=200001) (by omega)) (by omega) (by omega) (jz (gK p) hqn)) ?_;rintro O _ _ _ Q2 r he hw h_ hn;have hR:=hn.dB (S:=FF) r.cD (mN h_);obtain⟨G0,G1,G2,G3,G4,G5,G6,G7,rfl⟩:=hR.shape;exact rtn hw fun ρe we re=>.inr ⟨h,_,rfl,hR.out re (cC w)⟩
theorem qW(n:Int)(w:World)(h1n: -9223372036854775808<=n)(h2n:n<=9223372036854775807):
  eA PG N.pr #[.int .i64 n] w (eF w fun v' w2=>cT w2 (Nf w w2) v' (n:Rat)):=by
 have hw:=bR w;have ha:=lr h1n h2n;refine qH (by simp) ?_;refine cF (cE hw (fun _ w' v w2=>dL w2 (Nf w' w2) v (n)) (fun O w' r=>kj n w' h1n h2n) ?_);rintro O _ _ _ OJ r he hw h_ hn;have hA:=hn.dB (S:=FF) r.cD (mN h_);obtain⟨A0,A1,A2,A3,rfl⟩:=hA.shape;refine cF (cE hw (fun _ w' v w2=>dL w2 (Nf w' w2) v (1)) (fun O w' r=>kj 1 w' (by decide) (by decide)) ?_);rintro O _ _ _ OG r he hw h_ hn;replace hA:=hA.cG r (cC w) he (mC h_);have hB:=hn.dB (S:=FF) r.cD (mN h_);obtain⟨C0,C1,C2,C3,rfl⟩:=hB.shape;refine cF (cE hw (fun _ w' v w2=>cT w2 (Nf w' w2) v ((n:Rat))) (fun O w' r=>(Ar n)▸kL (Rel.old r (cC w)) ((hA.rel r (cC w)).l (k:=2) (by omega)) ((hB.rel r (cC w)).l (k:=2) (by decide)) (by omega) (by omega) (by decide)) ?_);rintro O _ _ _ ON r he hw h_ hn;have hR:=hn.dB (S:=FF) r.cD (mN h_);obtain⟨E0,E1,E2,E3,E4,E5,E6,E7,rfl⟩:=hR.shape;exact rtn hw fun ρe we re=>hR.out re (cC w)
theorem Lq(a b:Int)(w:World)(h1a: -9223372036854775808<=a)(h2a:a<=9223372036854775807)(h1b: -9223372036854775808<=b)(h2b:b<=9223372036854775807):
  eA PG N.xC #[.int .i64 a,.int .i64 b] w (eF w fun v' w2=>(b=0∧v'= .tuple #[Ap,.int .i64 9])∨(b≠0∧∃q,v'= .tuple #[q,.int .i64 0]∧cT w2 (Nf w w2) q (Rat.divInt a b))):=by
 have hw:=bR w;have ha:=lr h1a h2a;have QG:=lr h1b h2b;refine AI (by simp) ?_;refine dK.mk ?_ ?_<;>intro h
 ·have h:b=0:=by simpa using h
  exact rtn hw fun ρe we re=>.inl ⟨h,rfl⟩
 have h:b≠0:=by simpa using h
 refine cF (cE hw (fun _ w' v w2=>dL w2 (Nf w' w2) v (a)) (fun O w' r=>kj a w' h1a h2a) ?_);rintro O _ _ _ OJ r he hw h_ hn;have hA:=hn.dB (S:=FF) r.cD (mN h_);obtain⟨A0,A1,A2,A3,rfl⟩:=hA.shape;refine cF (cE hw (fun _ w' v w2=>dL w2 (Nf w' w2) v (b)) (fun O w' r=>kj b w' h1b h2b) ?_);rintro O _ _ _ OG r he hw h_ hn;replace hA:=hA.cG r (cC w) he (mC h_);have hB:=hn.dB (S:=FF) r.cD (mN h_);obtain⟨C0,C1,C2,C3,rfl⟩:=hB.shape;refine cF (cE hw (fun _ w' v w2=>cT w2 (Nf w' w2) v (Rat.divInt a b)) (fun O w' r=>kL (Rel.old r (cC w)) ((hA.rel r (cC w)).l (k:=2) (by omega)) ((hB.rel r (cC w)).l (k:=2) (by omega)) (by omega) (by omega) h) ?_);rintro O _ _ _ ON r he hw h_ hn;have hR:=hn.dB (S:=FF) r.cD (mN h_);obtain⟨E0,E1,E2,E3,E4,E5,E6,E7,rfl⟩:=hR.shape;exact rtn hw fun ρe we re=>.inr ⟨h,_,rfl,hR.out re (cC w)⟩
section
variable{S S':Nat->Prop}{H:Hp}{nx:Nat}{iv iv':Iv}{B:Nat}{w w' w2:World}{O:Nat->Sx.dx}{v:Value}{a:Int}{b:Int}
end
theorem j9.short{b:Bool}{n c:Nat}{z:Int}(h:j9 w S (.agg #[.bool b,.slice a n c]) z)(hk:n<=k):fY w S (.agg #[.bool b,.slice a n c]) k z:=by
 obtain⟨b2,ls,⟨lv,e1,h3⟩,h2⟩:=h;obtain⟨a2,c2,e2,_⟩:=h3.sl;subst e2;simp only[Value.agg.injEq,Array.mk.injEq,List.cons.injEq,Value.bool.injEq,Value.slice.injEq,and_true]at e1;obtain⟨rfl,rfl,e3,rfl⟩:=e1;exact⟨_,ls,⟨_,by rw[e3],h3⟩,h2,by omega⟩
def mc(w:World)(S:Nat->Prop)(cs:List Value)(q:Rat):Prop:=∃b a n c b2 a2 n2 c2,cs=[.bool b,.slice a n c,.bool b2,.slice a2 n2 c2]∧eS w S (.agg #[.bool b,.slice a n c,.bool b2,.slice a2 n2 c2]) q
abbrev cS:=cY mc
abbrev da:=dM cS
section
variable{S S':Nat->Prop}{H:Hp}{nx:Nat}{iv iv':Iv}{B:Nat}{w w' w2:World}{O:Nat->Sx.dx}{v:Value}{qs:List Rat}{cs:List Value}{q:Rat}
theorem mc.cJ(h:mc w S cs q)(hk:∀g,S g->w2.heap[g]? =w.heap[g]?):mc w2 S cs q:=by
 obtain⟨b,a,n,c,b2,a2,n2,c2,h1,h2⟩:=h;exact⟨b,a,n,c,b2,a2,n2,c2,h1,h2.cJ hk⟩
theorem mc.cK(h:mc w S cs q)(hk:∀g,S g->S' g):mc w S' cs q:=by
 obtain⟨b,a,n,c,b2,a2,n2,c2,h1,h2⟩:=h;exact⟨b,a,n,c,b2,a2,n2,c2,h1,h2.cK hk⟩
theorem cS.cJ(h:cS w S v qs)(hk:∀g,S g->w2.heap[g]? =w.heap[g]?):cS w2 S v qs:=by
 obtain⟨css,h1,h2,h3,h4⟩:=h;exact⟨css,h1.cJ hk,h2,h3,fun j cs x k1 k2=>(h4 j cs x k1 k2).cJ hk⟩
theorem cS.cK(h:cS w S v qs)(hk:∀g,S g->S' g):cS w S' v qs:=by
 obtain⟨css,h1,h2,h3,h4⟩:=h;exact⟨css,h1.cK hk,h2,h3,fun j cs x k1 k2=>(h4 j cs x k1 k2).cK hk⟩
theorem da.cJ(h:da w S v M)(hk:∀g,S g->w2.heap[g]? =w.heap[g]?):da w2 S v M:=by
 obtain⟨rv,h1,h2,h3⟩:=h;exact⟨rv,h1.cJ hk,h2,fun i u x k1 k2=>cS.cJ (h3 i u x k1 k2) hk⟩
theorem da.cK(h:da w S v M)(hk:∀g,S g->S' g):da w S' v M:=by
 obtain⟨rv,h1,h2,h3⟩:=h;exact⟨rv,h1.cK hk,h2,fun i u x k1 k2=>cS.cK (h3 i u x k1 k2) hk⟩
end
section
variable{S S':Nat->Prop}{H:Hp}{nx:Nat}{iv iv':Iv}{B:Nat}{w w' w2:World}{O:Nat->Sx.dx}{v:Value}{qs:List Rat}
theorem cS.rel(h:cS w (Cv S B iv) v qs)(r:Rel H nx iv B w O w')(hS:∀g,S g->g<B):cS w' (Cv S B iv) v qs:=cS.cJ h fun _ hg=>Rel.same r hS hg
theorem cS.cG(h:cS w (Cv S B iv) v qs)(r:Rel H nx iv B w O w')(hS:∀g,S g->g<B)(he:Ext w' w2)(hm:∀p,p∈iv->p∈iv'):cS w2 (Cv S B iv') v qs:=
 cS.cK (cS.cJ (cS.rel h r hS) fun g hg=>he.block g (Rel.old r hS g hg)) fun _ hg=>hg.mono hm
theorem cS.out{w0 w1:World}(h:cS w1 (Cv S w0.heap.size iv) v qs)(r:Rel H nx iv w0.heap.size w1 O w')(hS:Old S w0):cS w' (Nw S w0 w') v qs:=
 cS.cK (cS.rel h r hS) fun _ hg=>Cv.nw hg r
theorem cS.arg(h:cS w S v qs)(iv:Iv):cS w (Cv S w.heap.size iv) v qs:=cS.cK h fun _ h=>.inl h
end
section
variable{S S':Nat->Prop}{H:Hp}{nx:Nat}{iv iv':Iv}{B:Nat}{w w' w2:World}{O:Nat->Sx.dx}{v:Value}{M:List (List Rat)}
theorem da.rel(h:da w (Cv S B iv) v M)(r:Rel H nx iv B w O w')(hS:∀g,S g->g<B):da w' (Cv S B iv) v M:=da.cJ h fun _ hg=>Rel.same r hS hg
theorem da.cG(h:da w (Cv S B iv) v M)(r:Rel H nx iv B w O w')(hS:∀g,S g->g<B)(he:Ext w' w2)(hm:∀p,p∈iv->p∈iv'):da w2 (Cv S B iv') v M:=
 da.cK (da.cJ (da.rel h r hS) fun g hg=>he.block g (Rel.old r hS g hg)) fun _ hg=>hg.mono hm
theorem da.old(h:da w2 (Nw (Cv S B iv) w' w2) v M)(hB:B<=w'.heap.size):da w2 (Cv S B ((w'.heap.size,w2.heap.size)::iv)) v M:=da.cK h fun _ hg=>Nw.cv hg hB
theorem da.arg(h:da w S v M)(iv:Iv):da w (Cv S w.heap.size iv) v M:=da.cK h fun _ h=>.inl h
end
def B1(w:World)(S:Nat->Prop)(css:List (List Value))(qs:List Rat):Prop:=∀(j:Nat) cs q,css[j]? =some cs->qs[j]? =some q->iU w S cs q
section
variable{S S':Nat->Prop}{H:Hp}{nx:Nat}{iv iv':Iv}{B:Nat}{w w' w2:World}{O:Nat->Sx.dx}{css:List (List Value)}{qs:List Rat}
theorem B1.rel(h:B1 w (Cv S B iv) css qs)(r:Rel H nx iv B w O w')(hS:∀g,S g->g<B):B1 w' (Cv S B iv) css qs:=fun j cs q h1 h2=>(h j cs q h1 h2).cJ fun _ hg=>Rel.same r hS hg
theorem B1.cG(h:B1 w (Cv S B iv) css qs)(r:Rel H nx iv B w O w')(hS:∀g,S g->g<B)(he:Ext w' w2)(hm:∀p,p∈iv->p∈iv'):B1 w2 (Cv S B iv') css qs:=fun j cs q h1 h2=>
 (((h.rel r hS) j cs q h1 h2).cJ fun g hg=>he.block g (Rel.old r hS g hg)).cK fun _ hg=>hg.mono hm
theorem B1.push(h:B1 w S css qs)(hq:qs[css.length]? =some q)(hc:iU w S cs q):B1 w S (css++[cs]) qs:=fun j cs' q' h1 h2=>by
 rcases aP j css.length with hj|hj
 ·rw[aL hj]at h1;exact h j cs' q' h1 h2
 ·have Ui:j=css.length:=by have:=(aD.1 h1).1;simp at this;omega
  subst Ui;rw[aN (aF _),bI]at h1;simp at h1;rw[hq]at h2;injection h2 with h2;subst h1 h2;exact hc
end
theorem Aw(h:∀x∈css,x.length=4∧∀u∈x,u.oneCell'=true)(hc:cs.length=4∧∀u∈cs,u.oneCell'=true):∀x∈css++[cs],x.length=4∧∀u∈x,u.oneCell'=true:=fun x hx=>by
 rcases bS.1 hx with hx|hx
 ·exact h x hx
 ·simp at hx;subst hx;exact hc
def aAH(w w2:World)(v:Value)(xs:List Rat):Prop:=∃css:List (List Value),w2.ownsRow w.heap.size T.Rat 4 v xs.length css.flatten∧css.length=xs.length∧(∀cs∈css,cs.length=4∧∀u∈cs,u.oneCell'=true)∧∀(j:Nat) cs q,css[j]? =some cs->xs[j]? =some q->iU w2 (fun g=>Nf w w2 g∧v.ownBlock≠some g) cs q
theorem CS{id n g:Nat}(h:((At.w id n).den O).ownBlock=some g):(O id).nil=false∧(O id).g=g:=by
 cases hn:(O id).nil with
 |true=>rw[show (At.w id n).den O= .slice none 0 0 by simp[At.den,hn]]at h;cases h
 |false=>
  rw[show (At.w id n).den O= .slice (some ⟨(O id).g,0,none⟩) n (O id).cap by simp[At.den,hn]]at h;injection h with h;exact⟨rfl,h⟩
def jr(xs ys:List Rat)(b:Rat):List Rat:=(List.range ys.length).map fun j=>if 0<xs.length then xs.getD j 0+ys.getD j 0*b else ys.getD j 0*b
theorem oo(xs ys:List Rat)(b:Rat):(jr xs ys b).length=ys.length:=by simp[jr]
theorem wN{j:Nat}(h:j<ys.length):(jr xs ys b)[j]? =some (if 0<xs.length then xs.getD j 0+ys.getD j 0*b else ys.getD j 0*b):=by
 rw[jr,aM,bq h];rfl
theorem Fj{v t:Value}(hS:Old S w)(hx:cS w S v xs)(hy:cS w S u ys)(hb:eS w S t b)(hlen:xs=[]∨xs.length=ys.length)(hn:ys.length<=1000000)(hbound:∀y∈ys,rl y+rl b<=100000):
  eA PG N.sY #[v,u,t] w (eF w fun v' w2=>cI w2 (Nf w w2) v' (jr xs ys b)∧aAH w w2 v' (jr xs ys b)):=by
 have hw:=bR w;obtain⟨ax,cx,rfl,Sf,SI⟩:=cY.shape hx;obtain⟨ay,cy,rfl,hcy,hmy⟩:=cY.shape hy;obtain⟨t0,t1,t2,t3,t4,t5,t6,t7,rfl⟩:=hb.shape;have PR:=oo xs ys b;refine BH (by simp) ?_
 refine⟨List (List Value)×World×Iv,fun z=>⟨[(0,sV ax xs.length cx),(1,sV ay ys.length cy),(5,pP 0 0),(7,.o (.w 1 z.1.length)),(8,iZ z.1.length)],[(1,.vec T.Rat 4 z.1.flatten),(0,.box T.Rat [.v (.bool t0),.v (.slice t1 t2 t3),.v (.bool t4),.v (.slice t5 t6 t7)])],2,z.2.2,z.2.1⟩,fun z=>ys.length-z.1.length,
  fun z=>z.1.length<=ys.length∧eE w.heap.size w z.2.1∧(∀x∈z.1,x.length=4∧∀u∈x,u.oneCell'=true)∧B1 z.2.1 (Cf w z.2.2) z.1 (jr xs ys b),?_,?_⟩
 ·intro O w' r
  exact⟨([],w',[]),⟨by simp,r.cQ,by simp,fun j cs q h=>by simp at h⟩,Sub.nil 7 T.Rat 4 rfl (by simp[j8,SV.sc,At.sc,fa]) r fun ρ1 r1=>
   Sub.gn [] r1⟩
 clear hw;rintro⟨css,w1,iv⟩ ⟨hi,hw,h4,QJ⟩;dsimp only at hi hw h4 QJ ⊢;have OX:=eY fun x hx=>(h4 x hx).1;refine dK.mk ?_ ?_<;>intro OC
 ·have OC:css.length<ys.length:=by simpa using OC
  obtain⟨y,SJ⟩:∃y,ys[css.length]? =some y:=⟨_,aB OC⟩
  obtain⟨ady,csy,Ts,RE,_,QP⟩:=cY.load hy SJ;obtain⟨p0,p1,p2,p3,p4,p5,p6,p7,rfl,RE⟩:=RE;have hyd:ys.getD css.length 0=y:=by rw[List.getD,SJ];rfl
  have VR:=wN (xs:=xs) (b:=b) OC;rw[hyd]at VR;have OW:=hbound y (aC SJ);have hrm:=jE y b;refine dK.mk ?_ ?_<;>intro Qi
  ·have Qi:0<xs.length:=by have:=aI Qi;omega
   have PZ:css.length<xs.length:=hlen.elim (fun h=>by rw[h]at Qi;simp at Qi) (fun h=>by omega);obtain⟨x,PL⟩:∃x,xs[css.length]? =some x:=⟨_,aB PZ⟩
   obtain⟨adx,csx,PC,Qn,_,Oa⟩:=cY.load hx PL;obtain⟨q0,q1,q2,q3,q4,q5,q6,q7,rfl,Qn⟩:=Qn;have UA:xs.getD css.length 0=x:=by rw[List.getD,PL];rfl
   rw[if_pos Qi,UA]at VR;refine⟨ady,Ts,by omega,[.bool p0,.slice p1 p2 p3,.bool p4,.slice p5 p6 p7],rfl,fun O w' r i x hx=>?_,?_⟩
   ·obtain⟨k1,k2⟩:=QP i x hx;rw[aE,cH (w:=w) (w2:=w') (by rw[dN,dN];exact(hw.tr r.cQ).block _ (hS _ k1))];exact k2
   refine cF (cE hw (fun _ w' v w2=>v= .int .i64 (rs y)) (fun O w' r=>od (oS hS r) (RE.cJ (kS hw r hS))) ?_);rintro O Pg v1 PS OJ r he hw h_ rfl;replace QJ:=QJ.cG r (cC w) he (mC h_);clear r;refine dK.mk ?_ ?_<;>intro hs
   ·have hs:y=0:=ky.1 (by simpa using hs);rw[hs,bE,bW]at VR;refine⟨adx,PC,by omega,[.bool q0,.slice q1 q2 q3,.bool q4,.slice q5 q6 q7],rfl,fun O w' r i x hx=>?_,?_⟩
    ·obtain⟨k1,k2⟩:=Oa i x hx;rw[aE,cH (w:=w) (w2:=w') (by rw[dN,dN];exact(hw.tr r.cQ).block _ (hS _ k1))];exact k2
    refine cF (cE hw (fun _ w' v w2=>cT w2 (Nf w' w2) v (x)) (fun O w' r=>gF (oS hS r) (Qn.cJ (kS hw r hS))) ?_);rintro O Pn v2 PJ OG r he hw h_ hn;replace QJ:=QJ.cG r (cC w) he (mC h_);have TM:=hn.dB (S:=FF) r.cD (mN h_);clear r hn;obtain⟨A0,A1,A2,A3,A4,A5,A6,A7,rfl⟩:=TM.shape;refine .inl ?_;refine⟨OX,by omega,by unfold maxLen;omega,((css.length+1:Nat):Int),wo,?_⟩;intro ρ3 w3 r3;have R6:(css++[[Value.bool A0,.slice A1 A2 A3,.bool A4,.slice A5 A6 A7]]).length=css.length+1:=by simp
    have hf3:(css++[[Value.bool A0,.slice A1 A2 A3,.bool A4,.slice A5 A6 A7]]).flatten=css.flatten++[Value.bool A0,.slice A1 A2 A3,.bool A4,.slice A5 A6 A7]:=by simp
    exact⟨(css++[[.bool A0,.slice A1 A2 A3,.bool A4,.slice A5 A6 A7]],w3,_),⟨by dsimp only;rw[R6];exact OC,hw.tr r3.cQ,Aw h4 ⟨rfl,by intro u hu;simp at hu;rcases hu with rfl|rfl|rfl|rfl<;>rfl⟩,(QJ.rel r3 (cC w)).push VR (TM.rel r3 (cC w)).qS⟩,
     Sub.gn [(1,3)] r3 ⟨by dsimp only;rw[hf3];rfl,rfl,trivial⟩ ⟨rfl,rfl,rfl,by dsimp only;rw[R6];rfl,by dsimp only;rw[R6];rfl,trivial⟩,by dsimp only;rw[R6];omega⟩
   refine cM hτ df [.x 0,.x 1,.x 2,.x 3,.x 4,.p 6,.x 5,.x 6,.x 7] (by kernel_rfl) (by kernel_rfl) ?_;refine⟨ady,Ts,by omega,[.bool p0,.slice p1 p2 p3,.bool p4,.slice p5 p6 p7],rfl,fun O w' r i x hx=>?_,?_⟩
   ·obtain⟨k1,k2⟩:=QP i x hx;rw[aE,cH (w:=w) (w2:=w') (by rw[dN,dN];exact(hw.tr r.cQ).block _ (hS _ k1))];exact k2
   refine cE hw (fun _ w' v w2=>cT w2 (Nf w' w2) v (y*b)) (fun O w' r=>H0 (oS hS r) (RE.cJ (kS hw r hS)) (hb.cJ (kS hw r hS))) ?_;rintro O _ _ _ OG r he hw h_ hn;replace QJ:=QJ.cG r (cC w) he (mC h_);have hm:=hn.dB (S:=FF) r.cD (mN h_);clear r hn;obtain⟨A0,A1,A2,A3,A4,A5,A6,A7,rfl⟩:=hm.shape;refine dK.mk (fun SH=>?_) (fun SH=>absurd Qi (by have:=aH SH;omega));refine cM hτ df [.x 0,.x 1,.x 2,.x 3,.x 4,.x 5,.x 6] (by kernel_rfl) (by kernel_rfl) ?_;refine⟨adx,PC,by omega,[.bool q0,.slice q1 q2 q3,.bool q4,.slice q5 q6 q7],rfl,fun O w' r i x hx=>?_,?_⟩
   ·obtain⟨k1,k2⟩:=Oa i x hx;rw[aE,cH (w:=w) (w2:=w') (by rw[dN,dN];exact(hw.tr r.cQ).block _ (hS _ k1))];exact k2
   refine cE hw (fun _ w' v w2=>cT w2 (Nf w' w2) v (x+y*b)) (fun O w' r=>HZ (Rel.old r hS) ((Qn.cJ (kS hw r hS)).cK fun g hg=>Or.inl hg) (((hm.rel r (cC w)).l (by omega)).cK fun g hg=>Cv.false hg)) ?_;rintro O _ _ _ ON r he hw h_ hn;replace QJ:=QJ.cG r (cC w) he (mC h_);clear hm;have TM:=hn.dB (S:=FF) r.cD (mN h_);clear r hn;obtain⟨C0,C1,C2,C3,C4,C5,C6,C7,rfl⟩:=TM.shape;refine .inl ?_;refine⟨OX,by omega,by unfold maxLen;omega,((css.length+1:Nat):Int),wo,?_⟩;intro ρ3 w3 r3;have R6:(css++[[Value.bool C0,.slice C1 C2 C3,.bool C4,.slice C5 C6 C7]]).length=css.length+1:=by simp
   have hf3:(css++[[Value.bool C0,.slice C1 C2 C3,.bool C4,.slice C5 C6 C7]]).flatten=css.flatten++[Value.bool C0,.slice C1 C2 C3,.bool C4,.slice C5 C6 C7]:=by simp
   exact⟨(css++[[.bool C0,.slice C1 C2 C3,.bool C4,.slice C5 C6 C7]],w3,_),⟨by dsimp only;rw[R6];exact OC,hw.tr r3.cQ,Aw h4 ⟨rfl,by intro u hu;simp at hu;rcases hu with rfl|rfl|rfl|rfl<;>rfl⟩,(QJ.rel r3 (cC w)).push VR (TM.rel r3 (cC w)).qS⟩,
    Sub.gn [(1,4)] r3 ⟨by dsimp only;rw[hf3];rfl,rfl,trivial⟩ ⟨rfl,rfl,rfl,by dsimp only;rw[R6];rfl,by dsimp only;rw[R6];rfl,trivial⟩,by dsimp only;rw[R6];omega⟩
  have Qi:¬0<xs.length:=by have:=aH Qi;omega
  rw[aJ Qi]at VR;refine cM hτ df [.x 0,.x 1,.x 2,.x 3,.x 4,.p 6,.x 5,.x 6,.x 7] (by kernel_rfl) (by kernel_rfl) ?_;refine⟨ady,Ts,by omega,[.bool p0,.slice p1 p2 p3,.bool p4,.slice p5 p6 p7],rfl,fun O w' r i x hx=>?_,?_⟩
  ·obtain⟨k1,k2⟩:=QP i x hx;rw[aE,cH (w:=w) (w2:=w') (by rw[dN,dN];exact(hw.tr r.cQ).block _ (hS _ k1))];exact k2
  refine cE hw (fun _ w' v w2=>cT w2 (Nf w' w2) v (y*b)) (fun O w' r=>H0 (oS hS r) (RE.cJ (kS hw r hS)) (hb.cJ (kS hw r hS))) ?_;rintro O _ _ _ OJ r he hw h_ hn;replace QJ:=QJ.cG r (cC w) he (mC h_);have hm:=hn.dB (S:=FF) r.cD (mN h_);clear r hn;obtain⟨E0,E1,E2,E3,E4,E5,E6,E7,rfl⟩:=hm.shape;refine dK.mk (fun SH=>absurd (aI SH) (by omega)) (fun SH=>?_);refine .inl ?_;refine⟨OX,by omega,by unfold maxLen;omega,((css.length+1:Nat):Int),wo,?_⟩;intro ρ3 w3 r3;have R6:(css++[[Value.bool E0,.slice E1 E2 E3,.bool E4,.slice E5 E6 E7]]).length=css.length+1:=by simp
  have hf3:(css++[[Value.bool E0,.slice E1 E2 E3,.bool E4,.slice E5 E6 E7]]).flatten=css.flatten++[Value.bool E0,.slice E1 E2 E3,.bool E4,.slice E5 E6 E7]:=by simp
  exact⟨(css++[[.bool E0,.slice E1 E2 E3,.bool E4,.slice E5 E6 E7]],w3,_),⟨by dsimp only;rw[R6];exact OC,hw.tr r3.cQ,Aw h4 ⟨rfl,by intro u hu;simp at hu;rcases hu with rfl|rfl|rfl|rfl<;>rfl⟩,(QJ.rel r3 (cC w)).push VR (hm.rel r3 (cC w)).qS⟩,
   Sub.gn [(1,4)] r3 ⟨by dsimp only;rw[hf3];rfl,rfl,trivial⟩ ⟨rfl,rfl,rfl,by dsimp only;rw[R6];rfl,by dsimp only;rw[R6];rfl,trivial⟩,by dsimp only;rw[R6];omega⟩
 have OC:css.length=ys.length:=aO hi (by simpa using OC);intro ρe we re;have Pm:∀u∈css.flatten,u.oneCell'=true:=fun u hu=>by
  obtain⟨cs,hc,hu⟩:=List.mem_flatten.1 hu;exact(h4 cs hc).2 u hu
 refine⟨_,rfl,hw.tr re.cQ,?_,css,by rw[PR,<-OC];exact ym re (id:=1) rfl OX (by decide),by rw[PR];exact OC,h4,fun j cs q k1 k2=>((QJ j cs q k1 k2).cJ fun g hg=>Rel.same re (cC w) hg).cK fun g hg=>⟨Cv.nw hg re,fun e=>Rel.not re (cC w) hg 1 _ rfl (CS e).1 (CS e).2⟩⟩;refine⟨css,?_,by rw[PR];exact OC,fun cs hc=>(h4 cs hc).1,fun j cs q k1 k2=>((QJ j cs q k1 k2).cJ fun g hg=>Rel.same re (cC w) hg).cK fun g hg=>Cv.nw hg re⟩;have:=re.iG (id:=1) (sz:=4) (m:=css.length) rfl OX (by unfold maxLen;omega) (by decide) Pm;rw[PR,<-OC];exact this.cK fun g hg=>.inr hg
theorem Dj{v t:Value}(hS:Old S w)(hx:cS w S v xs)(hy:cS w S u ys)(hb:eS w S t b)(hlen:xs=[]∨xs.length=ys.length)(hn:ys.length<=1000000)(hbound:∀y∈ys,rl y+rl b<=100000):
  eA PG N.sY #[v,u,t] w (eF w fun v' w2=>cI w2 (Nf w w2) v' (jr xs ys b)):=
 (Fj hS hx hy hb hlen hn hbound).mono fun _ _ ⟨v2,e1,e2,e3,_⟩=>⟨v2,e1,e2,e3⟩
end Go.Ex
namespace Go.Ex
variable{M:List (List Rat)}{s:List (List Rat)×List Nat}{c:Nat}
theorem yr{r k R:Nat}(hk:r<=k)(hR:k<=R)(h:∀j,r<=j->j<k->dD M j c=0):iS M c (R-r) r=iS M c (R-k) k:=by
 induction k with
 |zero=>
  have:r=0:=by omega
  subst this;rfl
 |succ k ih=>
  rcases aP k r with h1|h1
  ·have:r=k+1:=by omega
   subst this;rfl
  ·rw[ih h1 (by omega) fun j h2 h3=>h j h2 (by omega),show R-k=(R-(k+1))+1 by omega,GX (h k h1 (by omega))]
theorem Cs{a i:Nat}{r:List Rat}(h:M[i]? =some r)(h0:r.getD c 0=0):di M a c (i+1)=di M a c i:=by
 unfold di;refine bK fun j=>?_;rw[List.getElem?_mapIdx,List.getElem?_mapIdx];by_cases hj:j=i
 ·subst hj;rw[h];simp only[Option.map_some]
  by_cases ha:j=a
  ·rw[aJ (by omega),aJ (by omega)]
  ·rw[if_pos ⟨by omega,ha⟩,aJ (by omega),h0];congr 1;refine bK fun k=>?_;rw[List.getElem?_mapIdx]
   cases r[k]? with
   |none=>rfl
   |some q=>simp[sM,bW]
 ·cases M[j]? with
  |none=>rfl
  |some r'=>
   simp only[Option.map_some]
   by_cases h2:j<i∧j≠a
   ·rw[if_pos ⟨by omega,h2.2⟩,if_pos h2]
   ·rw[aJ (by omega),aJ h2]
theorem gC{α:Type}{l:List α}{i:Nat}{x:α}(h:i<l.length):l.take i++[x]++l.drop (i+1)=l.set i x:=by
 rw[List.set_eq_take_append_cons_drop,if_pos h];simp
theorem yt(h:¬s.2.length<s.1.length∨iS s.1 c (s.1.length-s.2.length) s.2.length=s.1.length):db s c=s:=by
 unfold db;split
 ·rcases h with h|h
  ·exact absurd ‹_› h
  ·dsimp only;rw[if_pos h]
 ·rfl
theorem yu{k:Nat}(hk:s.2.length<=k)(hl:k<s.1.length)(h:∀j,s.2.length<=j->j<k->dD s.1 j c=0)(hn:dD s.1 k c≠0):
  db s c=(di (scaled (fV [] s.1 s.2.length k) s.2.length c) s.2.length c s.1.length,s.2++[c]):=by
 have e:iS s.1 c (s.1.length-s.2.length) s.2.length=k:=by
  rw[yr hk (by omega) h,show s.1.length-k=(s.1.length-k-1)+1 by omega,GY hn]
 unfold db;rw[if_pos (by omega)];dsimp only
 rw[e,aJ (by omega),rP,jc]
theorem Ie{k:Nat}(hk:s.2.length<=k)(hl:k=s.1.length)(h:∀j,s.2.length<=j->j<k->dD s.1 j c=0):db s c=s:=by
 refine yt (.inr ?_);rw[yr hk (by omega) h,hl,bI];rfl
end Go.Ex
namespace Go.Ex
open Go Go.Sx Go.Proofs
variable{qs x:List Rat}{i:Nat}{S:Nat->Prop}{u:Value}{w:World}
theorem wD(ys:List Rat)(b:Rat):jr [] ys b=ys.map (· *b):=by
 refine bK fun j=>?_;rcases aP j ys.length with h|h
 ·rw[wN h,aJ (by simp),aM,List.getD,aB h];rfl
 ·rw[List.getElem?_eq_none (by rw[oo];exact h),List.getElem?_eq_none (by simp;exact h)]
theorem HL{xs ys:List Rat}(b:Rat)(h:xs.length=ys.length):jr xs ys b=xs.mapIdx (sM b ys):=by
 refine bK fun j=>?_;rw[List.getElem?_mapIdx];rcases aP j ys.length with h1|h1
 ·rw[wN h1,if_pos (by omega),aB (by omega),List.getD,aB (show j<xs.length by omega)];simp[sM,bg]
 ·rw[List.getElem?_eq_none (by rw[oo];exact h1),List.getElem?_eq_none (show xs.length<=j by omega)];rfl
theorem cI.l{v:Value}(h:cI w S v qs)(hq:∀q∈qs,rl q<=100000):cS w S v qs:=by
 obtain⟨css,h1,h2,h3,h4⟩:=h;refine⟨css,h1,h2,h3,fun j cs q k1 k2=>?_⟩;obtain⟨b,a,n,c,b2,a2,n2,c2,e,hc⟩:=h4 j cs q k1 k2;exact⟨b,a,n,c,b2,a2,n2,c2,e,hc.l (hq q (aC k2))⟩
theorem cS.nil(w:World)(S:Nat->Prop):cS w S (.slice none 0 0) []:=⟨[],⟨by simp,by simp,by simp,none,0,rfl,aF _,by simp⟩,rfl,by simp,by simp⟩
theorem JO{v:Value}{p q:Rat}(hS:Old S w)(hp:eS w S v p)(hq:eS w S u q)(h0:q≠0):
  eA PG N.vM #[v,u] w (eF w fun v' w2=>∃r,v'= .tuple #[r,.int .i64 0]∧cT w2 (Nf w w2) r (p / q)):=
 (aAR hS hp hq).mono fun _ _ ⟨v2,e1,e2,e3⟩=>⟨v2,e1,e2,e3.elim (fun h=>absurd h.1 h0) fun h=>h.2⟩
def gZ(w:World)(S:Nat->Prop)(rv:List Value)(M:List (List Rat)):Prop:=rv.length=M.length∧(∀u∈rv,u.oneCell'=true)∧∀(i:Nat) u r,rv[i]? =some u->M[i]? =some r->cS w S u r
section
variable{S S':Nat->Prop}{H:Hp}{nx:Nat}{iv iv':Iv}{B:Nat}{w w' w2:World}{O:Nat->Sx.dx}{rv:List Value}{M:List (List Rat)}
theorem gZ.rel(h:gZ w (Cv S B iv) rv M)(r:Rel H nx iv B w O w')(hS:∀g,S g->g<B):gZ w' (Cv S B iv) rv M:=⟨h.1,h.2.1,fun i u x h1 h2=>cS.rel (h.2.2 i u x h1 h2) r hS⟩
theorem gZ.cG(h:gZ w (Cv S B iv) rv M)(r:Rel H nx iv B w O w')(hS:∀g,S g->g<B)(he:Ext w' w2)(hm:∀p,p∈iv->p∈iv'):gZ w2 (Cv S B iv') rv M:=⟨h.1,h.2.1,fun i u x h1 h2=>cS.cG (h.2.2 i u x h1 h2) r hS he hm⟩
theorem gZ.set(h:gZ w S rv M)(hu:u.oneCell'=true)(hx:cS w S u x):gZ w S (rv.set i u) (M.set i x):=by
 refine⟨by simp[h.1],fun v hv=>?_,fun j v y h1 h2=>?_⟩
 ·rcases bJ hv with h1|h1
  ·exact h.2.1 v h1
  ·rw[h1];exact hu
 ·rw[List.getElem?_set]at h1 h2;by_cases hj:i=j
  ·rw[if_pos hj]at h1 h2;split at h1
   ·split at h2
    ·injection h1 with h1;injection h2 with h2;subst h1 h2;exact hx
    ·cases h2
   ·cases h1
  ·rw[aJ hj]at h1 h2;exact h.2.2 j v y h1 h2
theorem gZ.get(h:gZ w S rv M)(hi:i<M.length):∃u r,rv[i]? =some u∧M[i]? =some r∧cS w S u r:=by
 obtain⟨u,hu⟩:∃u,rv[i]? =some u:=⟨_,aB (by rw[h.1];exact hi)⟩
 obtain⟨r,hr⟩:∃r,M[i]? =some r:=⟨_,aB hi⟩
 exact⟨u,r,hu,hr,h.2.2 i u r hu hr⟩
end
end Go.Ex
