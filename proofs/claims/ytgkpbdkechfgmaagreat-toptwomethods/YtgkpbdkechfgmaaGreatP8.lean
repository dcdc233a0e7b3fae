/- Texts X61 to L15: lemmas, each with its conditions. -/
import Derived.Test.YtgkpbdkechfgmaaGreatP7
namespace Go.Ex
open Go Go.Sx Go.Proofs
variable{x y:Int}{M:List (List Rat)}{Z:List (List Value)}{Q:List Int}{xs ys:List Rat}{W:List Value}{k:Nat}{S:Nat->Prop}{O:Nat->Sx.dq}{a:Option Addr}{b p q:Rat}{u:Value}{w:World}
def NG:Value:=.agg #[.bool false,.slice none 0 0]
theorem dR.nil(w:World)(S:Nat->Prop):dR w S (.agg #[.bool false,.slice none 0 0]) 0:=⟨[],⟨_,rfl,dT.nil _ _⟩,fun x h=>by simp at h,rfl⟩
theorem aB7(h:∀c∈Q,0<=c/\c<=65535):0<=dU Q:=by
 induction Q with
 |nil=>exact Int.le_refl _
 |cons c r ih=>
  have L:=h c aF;have G:=ih fun x F=>h x (aB _ F);rw[dU];omega
theorem BW{n:Int}(h:0<=n)(G:n<4294967296):ln n.natAbs<=1:=gU.2 (by show n.natAbs<4294967296^1;omega)
theorem Kb{v:Value}{l:Nat}(X:Old S w)(F:fk w S v k x)(hy:fk w S u l y)(D:k<=1000000)(hl:l<=1000000):
  eI PG F'.om #[v,u] w (eO w fun v' V=>(y=0/\v'= .tuple #[NG,NG,.int .i64 9])\/(y≠0/\∃q r,v'= .tuple #[q,r,.int .i64 0]/\dR V (Nf w V) q (x / y)/\dR V (Nf w V) r (x % y))):=by
 have I:=bR w;replace F:=F.cN (S':=Cv S w.heap.size []) fun _ h=>.inl h;replace hy:=hy.cN (S':=Cv S w.heap.size []) fun _ h=>.inl h;obtain⟨b1,a1,n1,c1,rfl⟩:=F.shape;obtain⟨b2,a2,n2,c2,rfl⟩:=hy.shape;refine yQ (by simp) ?_;have Qu:=hy.ln;refine cJ (cE I (fun _ J v V=>v= .int .i64 y.sign) (fun O J r=>gu (Rel.old r X) (hy.rel r X).r) ?_);rintro O _ _ _ Oo r U I h_ rfl;replace F:=F.cM r X U (mC h_);replace hy:=hy.cM r X U (mC h_);refine dQ.mk ?_ ?_<;>intro QQ
 ·have QQ:y=0:=by rcases gN y with h|h|h<;>simp[h]at QQ ⊢
  exact rtn I fun IR we re=>.inl ⟨QQ,rfl⟩
 have QQ:y≠0:=fun e=>by rw[e]at QQ;simp at QQ
 refine cR hτ dx [.x 0,.x 3,.p 5,.x 1,.x 2,.x 4,.x 5,.x 6,.x 7] (by kernel_rfl) (by kernel_rfl) ?_;refine cE I (fun _ J v V=>dR V (Nf J V) v ((x.natAbs:Int))) (fun O J r=>yt (Rel.old r X) (F.rel r X) (by omega)) ?_;rintro O _ _ _ Od r U I h_ R;replace F:=F.cM r X U (mC h_);replace hy:=hy.cM r X U (mC h_);have hsx:=R.dK (S:=FF) r.cI (mN h_);obtain⟨A0,A1,A2,A3,rfl⟩:=hsx.shape;have PU:=F.ln;refine cE I (fun _ J v V=>∃W,eF V (Nf J V) v W/\Bx W (2*k) ((x.natAbs:Int))) (fun O J r=>r9 (Rel.old r (cH w)) ((hsx.rel r (cH w)).l (k:=k) (by rw[Int.natAbs_natCast];exact PU)) (by omega)) ?_;rintro O _ _ _ Oq r U I h_ ⟨ca,k1,bca⟩;replace F:=F.cM r X U (mC h_);replace hy:=hy.cM r X U (mC h_);have Pk:=k1.dK (S:=FF) r.cI (mN h_);obtain⟨aca,cca,rfl,lca⟩:=Pk.shape;refine cE I (fun _ J v V=>dR V (Nf J V) v ((y.natAbs:Int))) (fun O J r=>yt (Rel.old r X) (hy.rel r X) (by omega)) ?_;rintro O _ _ _ Ox r U I h_ R;replace F:=F.cM r X U (mC h_);replace hy:=hy.cM r X U (mC h_);replace Pk:=Pk.cM r (cH w) U (mC h_);have Oz:=R.dK (S:=FF) r.cI (mN h_);obtain⟨C0,C1,C2,C3,rfl⟩:=Oz.shape;generalize hB:(y.natAbs:Int)=B at*
 have l1:=bca.2.1;have hB0:0<B:=by omega
 have lB:ln B.natAbs<=l:=by rw[<-hB,Int.natAbs_natCast];exact Qu
 refine⟨(ca.length:Int)-1,wo,Nat×List Int×Int×(Bool×Option Addr×Nat×Nat)×World×Iv,fun z=>⟨[(2,pP 0 0),(3,pP 1 0),(4,pP 2 0),(5,pP 3 0),(6,iZ 0),(7,sV aca ca.length cca),(8,pP 4 0),(9,.o (.w 6 z.2.1.length)),(10,pP 5 0),(11,.o (.v (.int .i64 ((z.1:Int)-1))))],[(6,.vec T.int 1 (z.2.1.map (Value.int .i64))),(5,.box T.Int [.v (.bool z.2.2.2.1.1),.v (.slice z.2.2.2.1.2.1 z.2.2.2.1.2.2.1 z.2.2.2.1.2.2.2)]),(4,.box T.Int [.v (.bool C0),.v (.slice C1 C2 C3)]),(3,.box T.Int [.v (.bool false),.v (.slice none 0 0)]),(2,.box T.Int [.v (.bool false),.v (.slice none 0 0)]),(1,.box T.Int [.v (.bool b2),.v (.slice a2 n2 c2)]),(0,.box T.Int [.v (.bool b1),.v (.slice a1 n1 c1)])],7,z.2.2.2.2.2,z.2.2.2.2.1⟩,fun z=>z.1,
  fun z=>z.1<=ca.length/\z.2.1.length+z.1=ca.length/\(∀c∈z.2.1,0<=c/\c<=65535)/\dU (ca.drop z.1)=B*dU z.2.1+z.2.2.1/\0<=z.2.2.1/\z.2.2.1<B/\dw w.heap.size w z.2.2.2.2.1/\fk z.2.2.2.2.1 (Cv S w.heap.size z.2.2.2.2.2) (.agg #[.bool b1,.slice a1 n1 c1]) k x/\fk z.2.2.2.2.1 (Cv S w.heap.size z.2.2.2.2.2) (.agg #[.bool b2,.slice a2 n2 c2]) l y/\eF z.2.2.2.2.1 (Cf w z.2.2.2.2.2) (.slice aca ca.length cca) ca/\dR z.2.2.2.2.1 (Cf w z.2.2.2.2.2) (.agg #[.bool C0,.slice C1 C2 C3]) B/\dR z.2.2.2.2.1 (Cf w z.2.2.2.2.2) (.agg #[.bool z.2.2.2.1.1,.slice z.2.2.2.1.2.1 z.2.2.2.1.2.2.1 z.2.2.2.1.2.2.2]) z.2.2.1,?_,?_⟩
 ·intro O J r
  exact⟨(ca.length,[],0,(false,none,0,0),J,Ox),⟨Nat.le_refl _,by simp,by simp,by simp[dU],Int.le_refl _,hB0,I.tr r.cU,F.rel r X,hy.rel r X,Pk.rel r (cH w),Oz.rel r (cH w),dR.nil _ _⟩,Sub.nil 9 T.int 1 rfl (by simp[jw,SV.sc,At.sc]) r fun Id r1=>
   Sub.gn [] r1⟩
 rintro⟨j,Q,EQ,⟨br,ar,nr,cr⟩,w1,iv⟩ ⟨hj,hQ,hd,hv,hR0,US,I,F,hy,Pk,Oz,hr⟩;dsimp only at hj hQ hd hv hR0 US I F hy Pk Oz hr ⊢;refine dQ.mk ?_ ?_<;>intro OZ
 ·obtain⟨i,rfl⟩:∃i,j=i+1:=⟨j-1,by have:(j:Int)-1≥0:=aK OZ;omega⟩
  rw[show ((i+1:Nat):Int)-1=(i:Int) by omega];obtain⟨d,SL⟩:∃d,ca[i]? =some d:=⟨_,aA (by omega)⟩
  have UR:=bca.2.2.1 d (aC SL);have Pn:=bca.2.2.2 (by omega) d (aC SL);have lR:ln EQ.natAbs<=l:=aW (fY (by omega)) lB;have lU:ln (65536:Int).natAbs<=1:=by decide
  have m1:=dH EQ 65536;have m2:=BW (n:=d) Pn (by omega);have m3:=jM (EQ*65536) d;refine cR hτ dx [.x 0,.x 3,.x 4,.x 5,.x 6,.x 1,.x 2,.x 7,.x 8,.x 9] (by kernel_rfl) (by kernel_rfl) ?_;obtain⟨ad,ha0,q1,q2⟩:=Pk.load SL;refine⟨ad,ha0,by omega,.int .i64 d,fun O J r=>?_,?_⟩
  ·rw[aE,cL (w:=w1) (V:=J) (by rw[dF];exact Rel.same (S:=FF) r (cH w) q1)];exact q2
  refine cE I (fun _ J v V=>dR V (Nf J V) v (65536)) (fun O J r=>mz _ J (by decide) (by decide)) ?_;rintro O Rt v5 Rv PX r U I h_ R;replace F:=F.cM r X U (mC h_);replace hy:=hy.cM r X U (mC h_);replace Pk:=Pk.cM r (cH w) U (mC h_);replace Oz:=Oz.cM r (cH w) U (mC h_);replace hr:=hr.cM r (cH w) U (mC h_);have hu:=R.dK (S:=FF) r.cI (mN h_);obtain⟨E0,E1,E2,E3,rfl⟩:=hu.shape;refine cE I (fun _ J v V=>dR V (Nf J V) v (EQ*65536)) (fun O J r=>jX (Rel.old r (cH w)) ((hr.rel r (cH w)).l (k:=1000001) (by omega)) ((hu.rel r (cH w)).l (k:=1000001) (by omega)) (by omega) (by omega)) ?_;rintro O Ro v6 Rq Q8 r U I h_ R;replace F:=F.cM r X U (mC h_);replace hy:=hy.cM r X U (mC h_);replace Pk:=Pk.cM r (cH w) U (mC h_);replace Oz:=Oz.cM r (cH w) U (mC h_);have hp:=R.dK (S:=FF) r.cI (mN h_);obtain⟨F0,F1,F2,F3,rfl⟩:=hp.shape;refine cE I (fun _ J v V=>dR V (Nf J V) v (d)) (fun O J r=>mz _ J (by omega) (by omega)) ?_;rintro O TU v7 TD Qj r U I h_ R;replace F:=F.cM r X U (mC h_);replace hy:=hy.cM r X U (mC h_);replace Pk:=Pk.cM r (cH w) U (mC h_);replace Oz:=Oz.cM r (cH w) U (mC h_);replace hp:=hp.cM r (cH w) U (mC h_);have hdd:=R.dK (S:=FF) r.cI (mN h_);obtain⟨G0,G1,G2,G3,rfl⟩:=hdd.shape;refine cE I (fun _ J v V=>dR V (Nf J V) v (EQ*65536+d)) (fun O J r=>BV (Rel.old r (cH w)) ((hp.rel r (cH w)).l (k:=1000002) (by omega)) ((hdd.rel r (cH w)).l (k:=1000002) (by omega)) (by omega) (by omega)) ?_;rintro O SN v8 SO SP r U I h_ R;replace F:=F.cM r X U (mC h_);replace hy:=hy.cM r X U (mC h_);replace Pk:=Pk.cM r (cH w) U (mC h_);replace Oz:=Oz.cM r (cH w) U (mC h_);have hr:=R.dK (S:=FF) r.cI (mN h_);obtain⟨J0,J1,J2,J3,rfl⟩:=hr.shape;generalize Qs:EQ*65536+d=R2 at*
  have hR20:0<=R2:=by omega
  have hR21:R2<65536*B:=by omega
  refine⟨Nat×Nat×Nat×World×Iv,fun z=>⟨[(2,pP 0 0),(3,pP 1 0),(4,pP 2 0),(5,pP 3 0),(6,iZ 0),(7,sV aca ca.length cca),(8,pP 4 0),(9,.o (.w 6 Q.length)),(10,pP 5 0),(11,.o (.v (.int .i64 ((i:Int))))),(12,iN z.1),(13,iN z.2.2.1)],[(6,.vec T.int 1 (Q.map (Value.int .i64))),(5,.box T.Int [.v (.bool J0),.v (.slice J1 J2 J3)]),(4,.box T.Int [.v (.bool C0),.v (.slice C1 C2 C3)]),(3,.box T.Int [.v (.bool false),.v (.slice none 0 0)]),(2,.box T.Int [.v (.bool false),.v (.slice none 0 0)]),(1,.box T.Int [.v (.bool b2),.v (.slice a2 n2 c2)]),(0,.box T.Int [.v (.bool b1),.v (.slice a1 n1 c1)])],7,z.2.2.2.2,z.2.2.2.1⟩,fun z=>z.2.1,
   fun z=>z.2.2.1=2^z.2.1 / 2/\z.1+2^z.2.1<=65536/\((z.1:Nat):Int)*B<=R2/\R2<((z.1+2^z.2.1:Nat):Int)*B/\dw w.heap.size w z.2.2.2.1/\fk z.2.2.2.1 (Cv S w.heap.size z.2.2.2.2) (.agg #[.bool b1,.slice a1 n1 c1]) k x/\fk z.2.2.2.1 (Cv S w.heap.size z.2.2.2.2) (.agg #[.bool b2,.slice a2 n2 c2]) l y/\eF z.2.2.2.1 (Cf w z.2.2.2.2) (.slice aca ca.length cca) ca/\dR z.2.2.2.1 (Cf w z.2.2.2.2) (.agg #[.bool C0,.slice C1 C2 C3]) B/\dR z.2.2.2.1 (Cf w z.2.2.2.2) (.agg #[.bool J0,.slice J1 J2 J3]) R2,?_,?_⟩
  ·intro O J r
   exact⟨(0,16,32768,J,SP),⟨by show 32768=2^16 / 2;decide,by show 0+2^16<=65536;decide,by dsimp only;omega,by dsimp only;rw[show ((0+2^16:Nat):Int)=65536 from rfl];exact hR21,I.tr r.cU,F.rel r X,hy.rel r X,Pk.rel r (cH w),Oz.rel r (cH w),hr.rel r (cH w)⟩,
    Sub.gn [] r⟩
  rintro⟨n,e,bit,w5,iv⟩ ⟨hn0,WV,Ri,WZ,I,F,hy,Pk,Oz,hr⟩;dsimp only at hn0 WV Ri WZ I F hy Pk Oz hr ⊢;refine dQ.mk ?_ ?_<;>intro Uy
  ·have Uy:0<2^e / 2:=by have:((bit:Nat):Int)>0:=aK Uy;omega
   obtain⟨f,rfl⟩:∃f,e=f+1:=by
    cases e with
    |zero=>exact absurd Uy (by decide)
    |succ f=>exact⟨f,rfl⟩
   have e1:2^(f+1)=2*2^f:=by rw[Nat.pow_succ];omega
   have e2:2^(f+1) / 2=2^f:=by omega
   obtain rfl:bit=2^f:=by omega
   rw[e1]at WV WZ;have hp0:=bz f;generalize hp:2^f=p at*
   have m4:=BW (n:=((n+p:Nat):Int)) (by omega) (by omega);have m5:=dH B ((n+p:Nat):Int);have m6:ln R2.natAbs<=l+1:=by
    refine aW (fY (b:=((65536:Int)*B).natAbs) (by omega)) ?_;have:=dH 65536 B;omega
   refine cR hτ dx [.x 0,.x 1,.x 2,.x 3,.x 6,.x 4,.x 5,.x 7,.x 8] (by kernel_rfl) (by kernel_rfl) ?_;refine⟨((n+p:Nat):Int),wo,?_⟩;refine cE I (fun _ J v V=>dR V (Nf J V) v (((n+p:Nat):Int))) (fun O J r=>mz _ J (by omega) (by omega)) ?_;rintro O UQ v9 Uq Uk r U I h_ R;replace F:=F.cM r X U (mC h_);replace hy:=hy.cM r X U (mC h_);replace Pk:=Pk.cM r (cH w) U (mC h_);replace Oz:=Oz.cM r (cH w) U (mC h_);replace hr:=hr.cM r (cH w) U (mC h_);have hu:=R.dK (S:=FF) r.cI (mN h_);obtain⟨K0,K1,K2,K3,rfl⟩:=hu.shape;refine cE I (fun _ J v V=>dR V (Nf J V) v (B*((n+p:Nat):Int))) (fun O J r=>jX (Rel.old r (cH w)) ((Oz.rel r (cH w)).l (k:=1000001) (by omega)) ((hu.rel r (cH w)).l (k:=1000001) (by omega)) (by omega) (by omega)) ?_;rintro O wa10 v10 wb10 Sw r U I h_ R;replace F:=F.cM r X U (mC h_);replace hy:=hy.cM r X U (mC h_);replace Pk:=Pk.cM r (cH w) U (mC h_);replace Oz:=Oz.cM r (cH w) U (mC h_);replace hr:=hr.cM r (cH w) U (mC h_);have Qg:=R.dK (S:=FF) r.cI (mN h_);obtain⟨N0,N1,N2,N3,rfl⟩:=Qg.shape;refine cE I (fun _ J v V=>v= .int .i64 (B*((n+p:Nat):Int)-R2).sign) (fun O J r=>KZ (Rel.old r (cH w)) ((Qg.rel r (cH w)).l (k:=1000001) (by omega)) ((hr.rel r (cH w)).l (k:=1000001) (by omega)) (by omega) (by omega)) ?_;rintro O Rc v11 Rw Rx r U I h_ rfl;replace F:=F.cM r X U (mC h_);replace hy:=hy.cM r X U (mC h_);replace Pk:=Pk.cM r (cH w) U (mC h_);replace Oz:=Oz.cM r (cH w) U (mC h_);replace hr:=hr.cM r (cH w) U (mC h_);have hs:=gN (B*((n+p:Nat):Int)-R2);refine dQ.mk ?_ ?_<;>intro hle
   ·have hle:=aK hle;have Vx:((n+p:Nat):Int)*B<=R2:=by rw[Int.mul_comm];omega
    refine⟨((n+p:Nat):Int),wo,by decide,((2^f / 2:Nat):Int),by rw[hp,show((p:Nat):Int).tdiv 2=((p / 2:Nat):Int)from rfl,wrap64]<;>omega,?_⟩;intro GT w3 E;exact⟨(n+p,f,2^f / 2,w3,_),⟨rfl,by dsimp only;omega,Vx,by dsimp only;rw[hp,show n+p+p=n+2*p by omega];exact WZ,I.tr E.cU,F.rel E X,hy.rel E X,Pk.rel E (cH w),Oz.rel E (cH w),hr.rel E (cH w)⟩,Sub.gn [] E,by dsimp only;omega⟩
   have hle:=aG hle;have Vx:R2<((n+p:Nat):Int)*B:=by rw[Int.mul_comm];omega
   refine⟨by decide,((2^f / 2:Nat):Int),by rw[hp,show((p:Nat):Int).tdiv 2=((p / 2:Nat):Int)from rfl,wrap64]<;>omega,?_⟩;intro GT w3 E;exact⟨(n,f,2^f / 2,w3,_),⟨rfl,by dsimp only;omega,Ri,by dsimp only;rw[hp];exact Vx,I.tr E.cU,F.rel E X,hy.rel E X,Pk.rel E (cH w),Oz.rel E (cH w),hr.rel E (cH w)⟩,Sub.gn [] E,by dsimp only;omega⟩
  have Uy:¬0<2^e / 2:=by have:¬((bit:Nat):Int)>0:=aG Uy;omega
  obtain rfl:e=0:=by
   cases e with
   |zero=>rfl
   |succ f=>exact absurd (show 0<2^(f+1) / 2 by rw[Nat.pow_succ];have:=bz f;omega) Uy
  rw[show n+2^0=n+1 from rfl]at WV WZ;rw[Int.natCast_add,Int.add_mul]at WZ;rw[Int.mul_comm]at Ri;rw[Int.mul_comm]at WZ;have m4:=BW (n:=((n:Nat):Int)) (by omega) (by omega);have m5:=dH B ((n:Nat):Int);have m6:ln R2.natAbs<=l+1:=by
   refine aW (fY (b:=((65536:Int)*B).natAbs) (by omega)) ?_;have:=dH 65536 B;omega
  refine cR hτ dx [.x 0,.x 1,.x 2,.x 3,.x 4,.x 5,.x 6] (by kernel_rfl) (by kernel_rfl) ?_;refine cE I (fun _ J v V=>dR V (Nf J V) v (((n:Nat):Int))) (fun O J r=>mz _ J (by omega) (by omega)) ?_;rintro O UQ v9 Uq Uk r U I h_ R;replace F:=F.cM r X U (mC h_);replace hy:=hy.cM r X U (mC h_);replace Pk:=Pk.cM r (cH w) U (mC h_);replace Oz:=Oz.cM r (cH w) U (mC h_);replace hr:=hr.cM r (cH w) U (mC h_);have hu:=R.dK (S:=FF) r.cI (mN h_);obtain⟨K0,K1,K2,K3,rfl⟩:=hu.shape;refine cE I (fun _ J v V=>dR V (Nf J V) v (B*((n:Nat):Int))) (fun O J r=>jX (Rel.old r (cH w)) ((Oz.rel r (cH w)).l (k:=1000001) (by omega)) ((hu.rel r (cH w)).l (k:=1000001) (by omega)) (by omega) (by omega)) ?_;rintro O wa10 v10 wb10 Sw r U I h_ R;replace F:=F.cM r X U (mC h_);replace hy:=hy.cM r X U (mC h_);replace Pk:=Pk.cM r (cH w) U (mC h_);replace Oz:=Oz.cM r (cH w) U (mC h_);replace hr:=hr.cM r (cH w) U (mC h_);have Qg:=R.dK (S:=FF) r.cI (mN h_);obtain⟨N0,N1,N2,N3,rfl⟩:=Qg.shape;refine cE I (fun _ J v V=>dR V (Nf J V) v (R2-B*((n:Nat):Int))) (fun O J r=>Em (Rel.old r (cH w)) ((hr.rel r (cH w)).l (k:=1000002) (by omega)) ((Qg.rel r (cH w)).l (k:=1000002) (by omega)) (by omega) (by omega)) ?_;rintro O Rc v11 Rw Rx r U I h_ R;replace F:=F.cM r X U (mC h_);replace hy:=hy.cM r X U (mC h_);replace Pk:=Pk.cM r (cH w) U (mC h_);replace Oz:=Oz.cM r (cH w) U (mC h_);have Vo:=R.dK (S:=FF) r.cI (mN h_);obtain⟨O0,O1,O2,O3,rfl⟩:=Vo.shape;generalize hR3:R2-B*((n:Nat):Int)=R3 at*
  refine .inl ?_;refine⟨by rw[aJ,aV],fun u hu=>by obtain⟨_,_,rfl⟩:=aU.1 hu;rfl,rfl,by omega,by unfold maxLen;omega,(i:Int)-1,wo,?_⟩;intro GT w3 E;have Rh:dU (ca.drop i)=B*dU (((n:Nat):Int)::Q)+R3:=by
   rw[GA SL,dU];exact Jb hv (by rw[<-hR3,<-Qs];omega)
  exact⟨(i,((n:Nat):Int)::Q,R3,(O0,O1,O2,O3),w3,_),⟨by dsimp only;omega,by dsimp only;rw[List.length_cons];omega,fun c hc=>by
    rcases List.mem_cons.1 hc with rfl|hc
    ·omega
    ·exact hd c hc,Rh,by dsimp only;omega,by dsimp only;omega,I.tr E.cU,F.rel E X,hy.rel E X,Pk.rel E (cH w),Oz.rel E (cH w),Vo.rel E (cH w)⟩,
   Sub.gn [(6,8)] E (hE:=⟨rfl,rfl,rfl,rfl,rfl,rfl,rfl,by dsimp only;rw[show (((n:Nat):Int)::Q).length=1+Q.length by rw[List.length_cons,Nat.add_comm]];rfl,rfl,rfl,trivial⟩),by dsimp only;omega⟩
 obtain rfl:j=0:=by have:¬(j:Int)-1≥0:=aG OZ;omega
 rw[List.drop_zero,bca.1]at hv;rw[<-hB]at hv US;have key:=Kx QQ hv hR0 US;rw[hB]at key hv US;have lq:ln (dU Q).natAbs<=k+1:=by
  have L:=aB7 hd;have G:1*dU Q<=B*dU Q:=Int.mul_le_mul_of_nonneg_right (by omega) L;exact aW (fY (b:=x.natAbs) (by omega)) (by omega)
 have lR:ln EQ.natAbs<=l:=aW (fY (by omega)) lB;have sx:=gN x;have sy:=gN y;have sr:=gN EQ;refine cJ (cE I (fun _ J v V=>dR V (Nf J V) v (dU Q)) (fun O J r=>nO r rfl rfl (by omega) (fun c hc=>by have:=hd c hc;omega) rfl) ?_);rintro O _ _ _ PX r U I h_ R;replace F:=F.cM r X U (mC h_);replace hy:=hy.cM r X U (mC h_);replace Oz:=Oz.cM r (cH w) U (mC h_);replace hr:=hr.cM r (cH w) U (mC h_);have hq:=R.dK (S:=FF) r.cI (mN h_);obtain⟨E0,E1,E2,E3,rfl⟩:=hq.shape;refine cJ (cE I (fun _ J v V=>v= .int .i64 x.sign) (fun O J r=>gu (Rel.old r X) (F.rel r X).r) ?_);rintro O _ _ _ Q8 r U I h_ rfl;replace F:=F.cM r X U (mC h_);replace hy:=hy.cM r X U (mC h_);replace Oz:=Oz.cM r (cH w) U (mC h_);replace hr:=hr.cM r (cH w) U (mC h_);replace hq:=hq.cM r (cH w) U (mC h_);refine dQ.mk ?_ ?_<;>intro hxs
 ·have hxs:=aK hxs;refine cJ (cE I (fun _ J v V=>v= .int .i64 EQ.sign) (fun O J r=>gu (Rel.old r (cH w)) (hr.rel r (cH w)).r) ?_);rintro O TU v7 TD Qj r U I h_ rfl;replace F:=F.cM r X U (mC h_);replace hy:=hy.cM r X U (mC h_);replace Oz:=Oz.cM r (cH w) U (mC h_);replace hr:=hr.cM r (cH w) U (mC h_);replace hq:=hq.cM r (cH w) U (mC h_);refine dQ.mk ?_ ?_<;>intro Wb
  ·have Wb:=aK Wb;rw[if_pos (show x<0/\0<EQ by omega),if_pos (show x<0/\0<EQ by omega)]at key;have m7:=jM (dU Q) 1;have m8:ln (1:Int).natAbs<=1:=by decide
   have m9:ln (B-EQ).natAbs<=l:=aW (fY (by omega)) lB;refine cR hτ dx [.x 0,.x 3,.x 4,.x 1,.x 2,.x 5,.x 6,.x 7] (by kernel_rfl) (by kernel_rfl) ?_;refine cE I (fun _ J v V=>dR V (Nf J V) v (1)) (fun O J r=>mz _ J (by omega) (by omega)) ?_;rintro O SN v8 SO SP r U I h_ R;replace F:=F.cM r X U (mC h_);replace hy:=hy.cM r X U (mC h_);replace Oz:=Oz.cM r (cH w) U (mC h_);replace hr:=hr.cM r (cH w) U (mC h_);replace hq:=hq.cM r (cH w) U (mC h_);have hu:=R.dK (S:=FF) r.cI (mN h_);obtain⟨J0,J1,J2,J3,rfl⟩:=hu.shape;refine cE I (fun _ J v V=>dR V (Nf J V) v (dU Q+1)) (fun O J r=>BV (Rel.old r (cH w)) ((hq.rel r (cH w)).l (k:=1000003) (by omega)) ((hu.rel r (cH w)).l (k:=1000003) (by omega)) (by omega) (by omega)) ?_;rintro O UQ v9 Uq Uk r U I h_ R;replace F:=F.cM r X U (mC h_);replace hy:=hy.cM r X U (mC h_);replace Oz:=Oz.cM r (cH w) U (mC h_);replace hr:=hr.cM r (cH w) U (mC h_);have Qd:=R.dK (S:=FF) r.cI (mN h_);obtain⟨K0,K1,K2,K3,rfl⟩:=Qd.shape;refine cE I (fun _ J v V=>dR V (Nf J V) v (B-EQ)) (fun O J r=>Em (Rel.old r (cH w)) ((Oz.rel r (cH w)).l (k:=1000003) (by omega)) ((hr.rel r (cH w)).l (k:=1000003) (by omega)) (by omega) (by omega)) ?_;rintro O wa10 v10 wb10 Sw r U I h_ R;replace F:=F.cM r X U (mC h_);replace hy:=hy.cM r X U (mC h_);replace Qd:=Qd.cM r (cH w) U (mC h_);have SW:=R.dK (S:=FF) r.cI (mN h_);obtain⟨N0,N1,N2,N3,rfl⟩:=SW.shape;refine cR hτ dx [.x 0,.x 3,.x 1,.x 2,.x 4,.x 5,.x 6] (by kernel_rfl) (by kernel_rfl) ?_;refine cE I (fun _ J v V=>v= .int .i64 x.sign) (fun O J r=>gu (Rel.old r X) (F.rel r X).r) ?_;rintro O _ _ _ Rx r U I h_ rfl;replace hy:=hy.cM r X U (mC h_);replace Qd:=Qd.cM r (cH w) U (mC h_);replace SW:=SW.cM r (cH w) U (mC h_);refine cE I (fun _ J v V=>v= .int .i64 y.sign) (fun O J r=>gu (Rel.old r X) (hy.rel r X).r) ?_;rintro O _ _ _ iv12 r U I h_ rfl;replace Qd:=Qd.cM r (cH w) U (mC h_);replace SW:=SW.cM r (cH w) U (mC h_);refine dQ.mk ?_ ?_<;>intro Oe
   ·have R:¬((x<0)↔(y<0)):=fun e=>by
     have e2:decide (x.sign<0)=decide (y.sign<0):=decide_eq_decide.2 (by omega);rw[e2]at Oe;simp at Oe
    rw[aH R]at key;refine cJ (cE I (fun _ J v V=>dR V (Nf J V) v (-(dU Q+1))) (fun O J r=>mM (Rel.old r (cH w)) ((Qd.rel r (cH w)).l (k:=1000003) (by omega)) (by omega)) ?_);rintro O _ _ _ iv13 r U I h_ R;replace SW:=SW.cM r (cH w) U (mC h_);have TL:=R.dK (S:=FF) r.cI (mN h_);obtain⟨P0,P1,P2,P3,rfl⟩:=TL.shape;refine jH hτ dx (.two 0 (.two 1 (.one 2 (.one 3 (.one 4 .nil))) 2 (.one 1 (.one 3 (.one 4 .nil)))) 1 (.one 0 (.one 2 (.one 3 (.one 4 .nil))))) (by kernel_rfl) ?_;refine⟨?_,?_⟩
    ·refine⟨?_,?_⟩
     ·exact rtn I fun IR we re=>.inr ⟨QQ,_,_,rfl,key.1▸TL.out re (cH w),key.2▸SW.out re (cH w)⟩
     ·exact rtn I fun IR we re=>.inr ⟨QQ,_,_,rfl,key.1▸TL.out re (cH w),key.2▸SW.out re (cH w)⟩
    ·exact rtn I fun IR we re=>.inr ⟨QQ,_,_,rfl,key.1▸TL.out re (cH w),key.2▸SW.out re (cH w)⟩
   have R:(x<0)↔(y<0):=by
    have e2:decide (x.sign<0)=decide (y.sign<0):=by simpa using Oe
    have:=decide_eq_decide.1 e2;omega
   rw[if_pos R]at key;refine jH hτ dx (.two 0 (.two 1 (.one 2 (.one 3 (.one 4 .nil))) 2 (.one 1 (.one 3 (.one 4 .nil)))) 1 (.one 0 (.one 2 (.one 3 (.one 4 .nil))))) (by kernel_rfl) ?_;refine⟨?_,?_⟩
   ·refine⟨?_,?_⟩
    ·exact rtn I fun IR we re=>.inr ⟨QQ,_,_,rfl,key.1▸Qd.out re (cH w),key.2▸SW.out re (cH w)⟩
    ·exact rtn I fun IR we re=>.inr ⟨QQ,_,_,rfl,key.1▸Qd.out re (cH w),key.2▸SW.out re (cH w)⟩
   ·exact rtn I fun IR we re=>.inr ⟨QQ,_,_,rfl,key.1▸Qd.out re (cH w),key.2▸SW.out re (cH w)⟩
  have Wb:=aG Wb;rw[aH (show ¬(x<0/\0<EQ) by omega),aH (show ¬(x<0/\0<EQ) by omega)]at key;refine cR hτ dx [.x 0,.x 3,.x 1,.x 2,.x 4,.x 5,.x 6] (by kernel_rfl) (by kernel_rfl) ?_;refine cE I (fun _ J v V=>v= .int .i64 x.sign) (fun O J r=>gu (Rel.old r X) (F.rel r X).r) ?_;rintro O SN v8 SO SP r U I h_ rfl;replace hy:=hy.cM r X U (mC h_);replace Oz:=Oz.cM r (cH w) U (mC h_);replace hr:=hr.cM r (cH w) U (mC h_);replace hq:=hq.cM r (cH w) U (mC h_);refine cE I (fun _ J v V=>v= .int .i64 y.sign) (fun O J r=>gu (Rel.old r X) (hy.rel r X).r) ?_;rintro O UQ v9 Uq Uk r U I h_ rfl;replace Oz:=Oz.cM r (cH w) U (mC h_);replace hr:=hr.cM r (cH w) U (mC h_);replace hq:=hq.cM r (cH w) U (mC h_);refine dQ.mk ?_ ?_<;>intro Oe
  ·have R:¬((x<0)↔(y<0)):=fun e=>by
    have e2:decide (x.sign<0)=decide (y.sign<0):=decide_eq_decide.2 (by omega);rw[e2]at Oe;simp at Oe
   rw[aH R]at key;refine cJ (cE I (fun _ J v V=>dR V (Nf J V) v (-(dU Q))) (fun O J r=>mM (Rel.old r (cH w)) ((hq.rel r (cH w)).l (k:=1000003) (by omega)) (by omega)) ?_);rintro O _ _ _ Sw r U I h_ R;replace Oz:=Oz.cM r (cH w) U (mC h_);replace hr:=hr.cM r (cH w) U (mC h_);have TL:=R.dK (S:=FF) r.cI (mN h_);obtain⟨N0,N1,N2,N3,rfl⟩:=TL.shape;refine jH hτ dx (.two 0 (.two 1 (.one 2 (.one 3 (.one 4 .nil))) 2 (.one 1 (.one 3 (.one 4 .nil)))) 1 (.one 0 (.one 2 (.one 3 (.one 4 .nil))))) (by kernel_rfl) ?_;refine⟨?_,?_⟩
   ·refine⟨?_,?_⟩
    ·exact rtn I fun IR we re=>.inr ⟨QQ,_,_,rfl,key.1▸TL.out re (cH w),key.2▸hr.out re (cH w)⟩
    ·exact rtn I fun IR we re=>.inr ⟨QQ,_,_,rfl,key.1▸TL.out re (cH w),key.2▸hr.out re (cH w)⟩
   ·exact rtn I fun IR we re=>.inr ⟨QQ,_,_,rfl,key.1▸TL.out re (cH w),key.2▸hr.out re (cH w)⟩
  have R:(x<0)↔(y<0):=by
   have e2:decide (x.sign<0)=decide (y.sign<0):=by simpa using Oe
   have:=decide_eq_decide.1 e2;omega
  rw[if_pos R]at key;refine jH hτ dx (.two 0 (.two 1 (.one 2 (.one 3 (.one 4 .nil))) 2 (.one 1 (.one 3 (.one 4 .nil)))) 1 (.one 0 (.one 2 (.one 3 (.one 4 .nil))))) (by kernel_rfl) ?_;refine⟨?_,?_⟩
  ·refine⟨?_,?_⟩
   ·exact rtn I fun IR we re=>.inr ⟨QQ,_,_,rfl,key.1▸hq.out re (cH w),key.2▸hr.out re (cH w)⟩
   ·exact rtn I fun IR we re=>.inr ⟨QQ,_,_,rfl,key.1▸hq.out re (cH w),key.2▸hr.out re (cH w)⟩
  ·exact rtn I fun IR we re=>.inr ⟨QQ,_,_,rfl,key.1▸hq.out re (cH w),key.2▸hr.out re (cH w)⟩
 have hxs:=aG hxs;rw[aH (show ¬(x<0/\0<EQ) by omega),aH (show ¬(x<0/\0<EQ) by omega)]at key;refine cR hτ dx [.x 0,.x 3,.x 1,.x 2,.x 4,.x 5,.x 6] (by kernel_rfl) (by kernel_rfl) ?_;refine cE I (fun _ J v V=>v= .int .i64 x.sign) (fun O J r=>gu (Rel.old r X) (F.rel r X).r) ?_;rintro O _ _ _ Qj r U I h_ rfl;replace hy:=hy.cM r X U (mC h_);replace Oz:=Oz.cM r (cH w) U (mC h_);replace hr:=hr.cM r (cH w) U (mC h_);replace hq:=hq.cM r (cH w) U (mC h_);refine cE I (fun _ J v V=>v= .int .i64 y.sign) (fun O J r=>gu (Rel.old r X) (hy.rel r X).r) ?_;rintro O _ _ _ SP r U I h_ rfl;replace Oz:=Oz.cM r (cH w) U (mC h_);replace hr:=hr.cM r (cH w) U (mC h_);replace hq:=hq.cM r (cH w) U (mC h_);refine dQ.mk ?_ ?_<;>intro Oe
 ·have R:¬((x<0)↔(y<0)):=fun e=>by
   have e2:decide (x.sign<0)=decide (y.sign<0):=decide_eq_decide.2 (by omega);rw[e2]at Oe;simp at Oe
  rw[aH R]at key;refine cJ (cE I (fun _ J v V=>dR V (Nf J V) v (-(dU Q))) (fun O J r=>mM (Rel.old r (cH w)) ((hq.rel r (cH w)).l (k:=1000003) (by omega)) (by omega)) ?_);rintro O _ _ _ Uk r U I h_ R;replace Oz:=Oz.cM r (cH w) U (mC h_);replace hr:=hr.cM r (cH w) U (mC h_);have TL:=R.dK (S:=FF) r.cI (mN h_);obtain⟨K0,K1,K2,K3,rfl⟩:=TL.shape;refine jH hτ dx (.two 0 (.two 1 (.one 2 (.one 3 (.one 4 .nil))) 2 (.one 1 (.one 3 (.one 4 .nil)))) 1 (.one 0 (.one 2 (.one 3 (.one 4 .nil))))) (by kernel_rfl) ?_;refine⟨?_,?_⟩
  ·refine⟨?_,?_⟩
   ·exact rtn I fun IR we re=>.inr ⟨QQ,_,_,rfl,key.1▸TL.out re (cH w),key.2▸hr.out re (cH w)⟩
   ·exact rtn I fun IR we re=>.inr ⟨QQ,_,_,rfl,key.1▸TL.out re (cH w),key.2▸hr.out re (cH w)⟩
  ·exact rtn I fun IR we re=>.inr ⟨QQ,_,_,rfl,key.1▸TL.out re (cH w),key.2▸hr.out re (cH w)⟩
 have R:(x<0)↔(y<0):=by
  have e2:decide (x.sign<0)=decide (y.sign<0):=by simpa using Oe
  have:=decide_eq_decide.1 e2;omega
 rw[if_pos R]at key;refine jH hτ dx (.two 0 (.two 1 (.one 2 (.one 3 (.one 4 .nil))) 2 (.one 1 (.one 3 (.one 4 .nil)))) 1 (.one 0 (.one 2 (.one 3 (.one 4 .nil))))) (by kernel_rfl) ?_;refine⟨?_,?_⟩
 ·refine⟨?_,?_⟩
  ·exact rtn I fun IR we re=>.inr ⟨QQ,_,_,rfl,key.1▸hq.out re (cH w),key.2▸hr.out re (cH w)⟩
  ·exact rtn I fun IR we re=>.inr ⟨QQ,_,_,rfl,key.1▸hq.out re (cH w),key.2▸hr.out re (cH w)⟩
 ·exact rtn I fun IR we re=>.inr ⟨QQ,_,_,rfl,key.1▸hq.out re (cH w),key.2▸hr.out re (cH w)⟩
theorem jY{v:Value}{l:Nat}(X:Old S w)(F:fk w S v k x)(hy:fk w S u l y)(D:k<=1000000)(hl:l<=1000000)(h0:y≠0):
  eI PG F'.om #[v,u] w (eO w fun v' V=>∃q r,v'= .tuple #[q,r,.int .i64 0]/\dR V (Nf w V) q (x / y)/\dR V (Nf w V) r (x % y)):=
 (Kb X F hy D hl).mono fun _ _ ⟨v2,e1,e2,e3⟩=>⟨v2,e1,e2,e3.elim (fun h=>absurd h.1 h0) fun h=>h.2⟩
theorem aAs(x:Nat){y:Nat}(h:y≠0):ln (Nat.gcd x y)<=ln y:=fY (Nat.le_of_dvd (by omega) (Nat.gcd_dvd_right x y))
theorem IB{a b:Int}(hb:b≠0):a / (b.sign*(Nat.gcd a.natAbs b.natAbs:Nat))=(Rat.divInt a b).num/\b / (b.sign*(Nat.gcd a.natAbs b.natAbs:Nat))=((Rat.divInt a b).den:Int):=by
 obtain⟨L,G⟩:=DP (a:=a) hb;have d1:((Nat.gcd a.natAbs b.natAbs:Nat):Int) ∣ a:=Int.ofNat_dvd_left.2 (Nat.gcd_dvd_left _ _);have d2:((Nat.gcd a.natAbs b.natAbs:Nat):Int) ∣ b:=Int.ofNat_dvd_left.2 (Nat.gcd_dvd_right _ _);have sg:b.sign=1\/b.sign= -1:=by rcases gN b with h|h|h<;>omega
 have key:∀c:Int,((Nat.gcd a.natAbs b.natAbs:Nat):Int) ∣ c->b.sign*(Nat.gcd a.natAbs b.natAbs:Nat) ∣ c:=fun c hc=>by
  rcases sg with h|h<;>rw[h]
  ·rw[Int.one_mul];exact hc
  ·rw[Int.neg_one_mul];exact Int.neg_dvd.2 hc
 rw[<-L,<-G,Int.tdiv_eq_ediv_of_dvd (key a d1),Int.tdiv_eq_ediv_of_dvd (key b d2)];exact⟨rfl,rfl⟩
theorem DS{v:Value}{l:Nat}(X:Old S w)(F:fk w S v k x)(hy:fk w S u l y)(D:k<=1000000)(hl:l<=1000000):
  eI PG F'.uT #[v,u] w (eO w fun v' V=>dR V (Nf w V) v' ((Nat.gcd x.natAbs y.natAbs:Nat):Int)):=by
 have I:=bR w;replace F:=F.cN (S':=Cv S w.heap.size []) fun _ h=>.inl h;replace hy:=hy.cN (S':=Cv S w.heap.size []) fun _ h=>.inl h;obtain⟨b1,a1,n1,c1,rfl⟩:=F.shape;obtain⟨b2,a2,n2,c2,rfl⟩:=hy.shape;refine yP (by simp) ?_;have PU:=F.ln;have Qu:=hy.ln;refine cR hτ dx [.x 0,.x 2,.x 1,.x 3,.x 4,.x 5] (by kernel_rfl) (by kernel_rfl) ?_;refine cE I (fun _ J v V=>dR V (Nf J V) v ((x.natAbs:Int))) (fun O J r=>yt (Rel.old r X) (F.rel r X) (by omega)) ?_;rintro O _ _ _ Oo r U I h_ R;clear F;replace hy:=hy.cM r X U (mC h_);have ha:=R.dK (S:=FF) r.cI (mN h_);clear r;obtain⟨A0,A1,A2,A3,rfl⟩:=ha.shape;refine cE I (fun _ J v V=>dR V (Nf J V) v ((y.natAbs:Int))) (fun O J r=>yt (Rel.old r X) (hy.rel r X) (by omega)) ?_;rintro O _ _ _ Od r U I h_ R;clear hy;replace ha:=ha.cM r (cH w) U (mC h_);have hc:=R.dK (S:=FF) r.cI (mN h_);clear r;obtain⟨C0,C1,C2,C3,rfl⟩:=hc.shape
 refine⟨Nat×Nat×(Bool×Option Addr×Nat×Nat)×(Bool×Option Addr×Nat×Nat)×World×Iv,fun z=>⟨[(2,pP 0 0),(3,pP 1 0),(4,pP 2 0)],[(2,.box T.Int [.v (.bool false),.v (.slice none 0 0)]),(1,.box T.Int [.v (.bool z.2.2.2.1.1),.v (.slice z.2.2.2.1.2.1 z.2.2.2.1.2.2.1 z.2.2.2.1.2.2.2)]),(0,.box T.Int [.v (.bool z.2.2.1.1),.v (.slice z.2.2.1.2.1 z.2.2.1.2.2.1 z.2.2.1.2.2.2)])],3,z.2.2.2.2.2,z.2.2.2.2.1⟩,fun z=>z.2.1,
  fun z=>Nat.gcd z.1 z.2.1=Nat.gcd x.natAbs y.natAbs/\ln z.1<=1000000/\ln z.2.1<=1000000/\dw w.heap.size w z.2.2.2.2.1/\dR z.2.2.2.2.1 (Cf w z.2.2.2.2.2) (.agg #[.bool z.2.2.1.1,.slice z.2.2.1.2.1 z.2.2.1.2.2.1 z.2.2.1.2.2.2]) (z.1:Int)/\dR z.2.2.2.2.1 (Cf w z.2.2.2.2.2) (.agg #[.bool z.2.2.2.1.1,.slice z.2.2.2.1.2.1 z.2.2.2.1.2.2.1 z.2.2.2.1.2.2.2]) (z.2.1:Int),?_,?_⟩
 ·intro O J r
  exact⟨(x.natAbs,y.natAbs,(A0,A1,A2,A3),(C0,C1,C2,C3),J,Od),⟨rfl,by dsimp only;omega,by dsimp only;omega,I.tr r.cU,ha.rel r (cH w),hc.rel r (cH w)⟩,
   Sub.gn [] r⟩
 clear I ha hc;rintro⟨a,b,⟨ba,aa,na,ca⟩,⟨bb,ab,nb,cb⟩,w1,iv⟩ ⟨Y,Q1,PV,I,ha,hc⟩;dsimp only at Y Q1 PV I ha hc ⊢;refine cJ (cE I (fun _ J v V=>v= .int .i64 (b:Int).sign) (fun O J r=>gu (Rel.old r (cH w)) (hc.rel r (cH w)).r) ?_);rintro O _ _ _ Oq r U I h_ rfl;replace ha:=ha.cM r (cH w) U (mC h_);replace hc:=hc.cM r (cH w) U (mC h_);clear r;have sb:=gN (b:Int);refine dQ.mk ?_ ?_<;>intro h
 ·have h:=aK h;have hb0:0<b:=by omega
  have hm:=cD a hb0;have QG:ln (a % b)<=1000000:=aW (fY (by omega)) PV;refine cJ (cE I (fun _ J v V=>∃q r,v= .tuple #[q,r,.int .i64 0]/\dR V (Nf J V) q ((a:Int) / b)/\dR V (Nf J V) r ((a:Int) % b)) (fun O J r=>jY (Rel.old r (cH w)) ((ha.rel r (cH w)).l (k:=1000000) Q1) ((hc.rel r (cH w)).l (k:=1000000) PV) (by omega) (by omega) (by omega)) ?_);rintro O _ _ _ Ox r U I h_ ⟨q,rr,rfl,k1,k2⟩;clear ha;replace hc:=hc.cM r (cH w) U (mC h_);have hq:=k1.dK (S:=FF) r.cI (mN h_);have hr:=k2.dK (S:=FF) r.cI (mN h_);clear r;obtain⟨s4_0a,s4_0b,s4_0c,s4_0d,rfl⟩:=hq.shape;obtain⟨s4_1a,s4_1b,s4_1c,s4_1d,rfl⟩:=hr.shape;clear k1 k2 hq;refine jH hτ dx (.two 0 (.two 1 (.one 2 (.one 3 .nil)) 2 (.one 1 (.one 3 .nil))) 1 (.one 0 (.one 2 (.one 3 .nil)))) (by kernel_rfl) ?_;refine⟨?_,?_⟩
  ·conv=>whnf
   refine⟨?_,?_⟩
   ·conv=>whnf
    intro GT w3 E;exact⟨(b,a % b,(bb,ab,nb,cb),(s4_1a,s4_1b,s4_1c,s4_1d),w3,_),⟨by dsimp only;rw[<-Y,Nat.gcd_comm a b,Nat.gcd_rec b a,Nat.gcd_comm],PV,QG,I.tr E.cU,hc.rel E (cH w),hr.rel E (cH w)⟩,Sub.gn [] E,hm⟩
   ·conv=>whnf
    intro GT w3 E;exact⟨(b,a % b,(bb,ab,nb,cb),(s4_1a,s4_1b,s4_1c,s4_1d),w3,_),⟨by dsimp only;rw[<-Y,Nat.gcd_comm a b,Nat.gcd_rec b a,Nat.gcd_comm],PV,QG,I.tr E.cU,hc.rel E (cH w),hr.rel E (cH w)⟩,Sub.gn [] E,hm⟩
  ·conv=>whnf
   intro GT w3 E;exact⟨(b,a % b,(bb,ab,nb,cb),(s4_1a,s4_1b,s4_1c,s4_1d),w3,_),⟨by dsimp only;rw[<-Y,Nat.gcd_comm a b,Nat.gcd_rec b a,Nat.gcd_comm],PV,QG,I.tr E.cU,hc.rel E (cH w),hr.rel E (cH w)⟩,Sub.gn [] E,hm⟩
 have h:=aG h;obtain rfl:b=0:=by omega
 rw[Nat.gcd_zero_right]at Y;subst Y;clear hc;exact rtn I fun IR we re=>ha.out re (cH w)
theorem nA{v:Value}{l:Nat}(X:Old S w)(F:fk w S v k x)(hy:fk w S u l y)(D:k<=1000000)(hl:l<=1000000)(QQ:y≠0):
  eI PG F'.sn #[v,u] w (eO w fun v' V=>dA V (Nf w V) v' (Rat.divInt x y)):=by
 have I:=bR w;replace F:=F.cN (S':=Cv S w.heap.size []) fun _ h=>.inl h;replace hy:=hy.cN (S':=Cv S w.heap.size []) fun _ h=>.inl h;obtain⟨b1,a1,n1,c1,rfl⟩:=F.shape;obtain⟨b2,a2,n2,c2,rfl⟩:=hy.shape;refine sQ (by simp) ?_;have PU:=F.ln;have Qu:=hy.ln;have hlg:=aAs x.natAbs (y:=y.natAbs) (by omega);obtain⟨R,hd⟩:=IB (a:=x) QQ;have sy:=gN y
 refine cJ (cE I (fun _ J v V=>∃n p,v= .tuple #[.int .i64 n,.bool p]/\(p=true->n=x/\x.natAbs<1073741824)) (fun O J r=>(oI (Rel.old r X) (F.rel r X).r).mono fun e V ⟨v2,e1,e2,e3⟩=>⟨v2,e1,e2,by
   rw[e3,kJ];split
   ·exact⟨_,_,rfl,fun _=>⟨rfl,‹_›⟩⟩
   ·exact⟨_,_,rfl,fun h=>by cases h⟩⟩) ?_)
 rintro O _ _ _ Oo r U I h_ ⟨nx,px,rfl,qx⟩;replace F:=F.cM r X U (mC h_);replace hy:=hy.cM r X U (mC h_);clear r
 refine cJ (cE I (fun _ J v V=>∃n p,v= .tuple #[.int .i64 n,.bool p]/\(p=true->n=y/\y.natAbs<1073741824)) (fun O J r=>(oI (Rel.old r X) (hy.rel r X).r).mono fun e V ⟨v2,e1,e2,e3⟩=>⟨v2,e1,e2,by
   rw[e3,kJ];split
   ·exact⟨_,_,rfl,fun _=>⟨rfl,‹_›⟩⟩
   ·exact⟨_,_,rfl,fun h=>by cases h⟩⟩) ?_)
 rintro O _ _ _ Od r U I h_ ⟨ny,py,rfl,qy⟩;replace F:=F.cM r X U (mC h_);replace hy:=hy.cM r X U (mC h_);clear r;refine dQ.mk ?_ ?_<;>intro L
 ·obtain⟨e1,hxs⟩:=qx L;replace e1:=e1.symm;subst e1;refine dQ.mk ?_ ?_<;>intro G
  ·obtain⟨e2,hys⟩:=qy G;replace e2:=e2.symm;subst e2;clear F hy;refine cJ (cE I (fun _ J v V=>dA V (Nf J V) v (Rat.divInt x y)) (fun O J r=>r8 x y J (by omega) (by omega) QQ) ?_);rintro O QF v3 Pw Oq r U I h_ R;have hR:=R.dK (S:=FF) r.cI (mN h_);clear r R;obtain⟨A0,A1,A2,A3,A4,A5,A6,A7,rfl⟩:=hR.shape;exact rtn I fun IR we re=>hR.out re (cH w)
  refine cJ (cE I (fun _ J v V=>dR V (Nf J V) v (((Nat.gcd x.natAbs y.natAbs:Nat):Int))) (fun O J r=>DS (Rel.old r X) (F.rel r X) (hy.rel r X) D hl) ?_);rintro O QF v3 Pw Oq r U I h_ R;replace F:=F.cM r X U (mC h_);replace hy:=hy.cM r X U (mC h_);have Y:=R.dK (S:=FF) r.cI (mN h_);clear r R;obtain⟨A0,A1,A2,A3,rfl⟩:=Y.shape;refine cJ (cE I (fun _ J v V=>v= .int .i64 y.sign) (fun O J r=>gu (Rel.old r X) (hy.rel r X).r) ?_);rintro O RG v4 QX Ox r U I h_ rfl;replace F:=F.cM r X U (mC h_);replace hy:=hy.cM r X U (mC h_);replace Y:=Y.cM r (cH w) U (mC h_);clear r;have hgp:0<Nat.gcd x.natAbs y.natAbs:=bw _ (by omega);generalize Nat.gcd x.natAbs y.natAbs=g at*
  refine dQ.mk ?_ ?_<;>intro hs
  ·have hs:=aK hs;rw[show y.sign= -1 by omega,Int.neg_one_mul]at R hd;refine cJ (cE I (fun _ J v V=>dR V (Nf J V) v (-(g:Int))) (fun O J r=>mM (Rel.old r (cH w)) ((Y.rel r (cH w)).l (k:=1000000) (by rw[Int.natAbs_natCast];omega)) (by omega)) ?_);rintro O Rt v5 Rv PX r U I h_ R;replace F:=F.cM r X U (mC h_);replace hy:=hy.cM r X U (mC h_);clear Y;have SQ:=R.dK (S:=FF) r.cI (mN h_);clear r R;obtain⟨C0,C1,C2,C3,rfl⟩:=SQ.shape;refine cJ (cE I (fun _ J v V=>∃q r,v= .tuple #[q,r,.int .i64 0]/\dR V (Nf J V) q (Rat.divInt x y).num/\dR V (Nf J V) r (x % (-(g:Int)))) (fun O J r=>R▸jY (Rel.old r X) (F.rel r X) ((((SQ.rel r (cH w)).l (k:=1000000) (by rw[cG,Int.natAbs_natCast];omega))).cN fun g Y=>Cv.false Y) D (by omega) (by omega)) ?_);rintro O Ro v6 Rq Q8 r U I h_ ⟨q,rr,rfl,k1,k2⟩;clear F;replace hy:=hy.cM r X U (mC h_);replace SQ:=SQ.cM r (cH w) U (mC h_);have hq:=k1.dK (S:=FF) r.cI (mN h_);have hr:=k2.dK (S:=FF) r.cI (mN h_);clear r;obtain⟨s6_0a,s6_0b,s6_0c,s6_0d,rfl⟩:=hq.shape;obtain⟨s6_1a,s6_1b,s6_1c,s6_1d,rfl⟩:=hr.shape;clear k1 k2 hr;refine cJ (cE I (fun _ J v V=>∃q r,v= .tuple #[q,r,.int .i64 0]/\dR V (Nf J V) q ((Rat.divInt x y).den:Int)/\dR V (Nf J V) r (y % (-(g:Int)))) (fun O J r=>hd▸jY (Rel.old r X) (hy.rel r X) ((((SQ.rel r (cH w)).l (k:=1000000) (by rw[cG,Int.natAbs_natCast];omega))).cN fun g Y=>Cv.false Y) hl (by omega) (by omega)) ?_);rintro O TU v7 TD Qj r U I h_ ⟨q,rr,rfl,k1,k2⟩;clear hy;clear SQ;replace hq:=hq.cM r (cH w) U (mC h_);have Qd:=k1.dK (S:=FF) r.cI (mN h_);have hr:=k2.dK (S:=FF) r.cI (mN h_);clear r;obtain⟨s7_0a,s7_0b,s7_0c,s7_0d,rfl⟩:=Qd.shape;obtain⟨s7_1a,s7_1b,s7_1c,s7_1d,rfl⟩:=hr.shape;clear k1 k2 hr;exact rtn I fun IR we re=>(dA.of hq Qd).out re (cH w)
  have hs:=aG hs;rw[show y.sign=1 by omega,Int.one_mul]at R hd;refine cJ (cE I (fun _ J v V=>∃q r,v= .tuple #[q,r,.int .i64 0]/\dR V (Nf J V) q (Rat.divInt x y).num/\dR V (Nf J V) r (x % ((g:Int)))) (fun O J r=>R▸jY (Rel.old r X) (F.rel r X) ((((Y.rel r (cH w)).l (k:=1000000) (by rw[Int.natAbs_natCast];omega))).cN fun g Y=>Cv.false Y) D (by omega) (by omega)) ?_);rintro O Rt v5 Rv PX r U I h_ ⟨q,rr,rfl,k1,k2⟩;clear F;replace hy:=hy.cM r X U (mC h_);replace Y:=Y.cM r (cH w) U (mC h_);have hq:=k1.dK (S:=FF) r.cI (mN h_);have hr:=k2.dK (S:=FF) r.cI (mN h_);clear r;obtain⟨s5_0a,s5_0b,s5_0c,s5_0d,rfl⟩:=hq.shape;obtain⟨s5_1a,s5_1b,s5_1c,s5_1d,rfl⟩:=hr.shape;clear k1 k2 hr;refine cJ (cE I (fun _ J v V=>∃q r,v= .tuple #[q,r,.int .i64 0]/\dR V (Nf J V) q ((Rat.divInt x y).den:Int)/\dR V (Nf J V) r (y % ((g:Int)))) (fun O J r=>hd▸jY (Rel.old r X) (hy.rel r X) ((((Y.rel r (cH w)).l (k:=1000000) (by rw[Int.natAbs_natCast];omega))).cN fun g Y=>Cv.false Y) hl (by omega) (by omega)) ?_);rintro O Ro v6 Rq Q8 r U I h_ ⟨q,rr,rfl,k1,k2⟩;clear hy;clear Y;replace hq:=hq.cM r (cH w) U (mC h_);have Qd:=k1.dK (S:=FF) r.cI (mN h_);have hr:=k2.dK (S:=FF) r.cI (mN h_);clear r;obtain⟨s6_0a,s6_0b,s6_0c,s6_0d,rfl⟩:=Qd.shape;obtain⟨s6_1a,s6_1b,s6_1c,s6_1d,rfl⟩:=hr.shape;clear k1 k2 hr;exact rtn I fun IR we re=>(dA.of hq Qd).out re (cH w)
 refine cJ (cE I (fun _ J v V=>dR V (Nf J V) v (((Nat.gcd x.natAbs y.natAbs:Nat):Int))) (fun O J r=>DS (Rel.old r X) (F.rel r X) (hy.rel r X) D hl) ?_);rintro O _ _ _ Oq r U I h_ R;replace F:=F.cM r X U (mC h_);replace hy:=hy.cM r X U (mC h_);have Y:=R.dK (S:=FF) r.cI (mN h_);clear r R;obtain⟨A0,A1,A2,A3,rfl⟩:=Y.shape;refine cJ (cE I (fun _ J v V=>v= .int .i64 y.sign) (fun O J r=>gu (Rel.old r X) (hy.rel r X).r) ?_);rintro O _ _ _ Ox r U I h_ rfl;replace F:=F.cM r X U (mC h_);replace hy:=hy.cM r X U (mC h_);replace Y:=Y.cM r (cH w) U (mC h_);clear r;have hgp:0<Nat.gcd x.natAbs y.natAbs:=bw _ (by omega);generalize Nat.gcd x.natAbs y.natAbs=g at*
 refine dQ.mk ?_ ?_<;>intro hs
 ·have hs:=aK hs;rw[show y.sign= -1 by omega,Int.neg_one_mul]at R hd;refine cJ (cE I (fun _ J v V=>dR V (Nf J V) v (-(g:Int))) (fun O J r=>mM (Rel.old r (cH w)) ((Y.rel r (cH w)).l (k:=1000000) (by rw[Int.natAbs_natCast];omega)) (by omega)) ?_);rintro O Rt v5 Rv PX r U I h_ R;replace F:=F.cM r X U (mC h_);replace hy:=hy.cM r X U (mC h_);clear Y;have SQ:=R.dK (S:=FF) r.cI (mN h_);clear r R;obtain⟨C0,C1,C2,C3,rfl⟩:=SQ.shape;refine cJ (cE I (fun _ J v V=>∃q r,v= .tuple #[q,r,.int .i64 0]/\dR V (Nf J V) q (Rat.divInt x y).num/\dR V (Nf J V) r (x % (-(g:Int)))) (fun O J r=>R▸jY (Rel.old r X) (F.rel r X) ((((SQ.rel r (cH w)).l (k:=1000000) (by rw[cG,Int.natAbs_natCast];omega))).cN fun g Y=>Cv.false Y) D (by omega) (by omega)) ?_);rintro O Ro v6 Rq Q8 r U I h_ ⟨q,rr,rfl,k1,k2⟩;clear F;replace hy:=hy.cM r X U (mC h_);replace SQ:=SQ.cM r (cH w) U (mC h_);have hq:=k1.dK (S:=FF) r.cI (mN h_);have hr:=k2.dK (S:=FF) r.cI (mN h_);clear r;obtain⟨s6_0a,s6_0b,s6_0c,s6_0d,rfl⟩:=hq.shape;obtain⟨s6_1a,s6_1b,s6_1c,s6_1d,rfl⟩:=hr.shape;clear k1 k2 hr;refine cJ (cE I (fun _ J v V=>∃q r,v= .tuple #[q,r,.int .i64 0]/\dR V (Nf J V) q ((Rat.divInt x y).den:Int)/\dR V (Nf J V) r (y % (-(g:Int)))) (fun O J r=>hd▸jY (Rel.old r X) (hy.rel r X) ((((SQ.rel r (cH w)).l (k:=1000000) (by rw[cG,Int.natAbs_natCast];omega))).cN fun g Y=>Cv.false Y) hl (by omega) (by omega)) ?_);rintro O _ _ _ Qj r U I h_ ⟨q,rr,rfl,k1,k2⟩;clear hy;clear SQ;replace hq:=hq.cM r (cH w) U (mC h_);have Qd:=k1.dK (S:=FF) r.cI (mN h_);have hr:=k2.dK (S:=FF) r.cI (mN h_);clear r;obtain⟨s7_0a,s7_0b,s7_0c,s7_0d,rfl⟩:=Qd.shape;obtain⟨s7_1a,s7_1b,s7_1c,s7_1d,rfl⟩:=hr.shape;clear k1 k2 hr;exact rtn I fun IR we re=>(dA.of hq Qd).out re (cH w)
 have hs:=aG hs;rw[show y.sign=1 by omega,Int.one_mul]at R hd;refine cJ (cE I (fun _ J v V=>∃q r,v= .tuple #[q,r,.int .i64 0]/\dR V (Nf J V) q (Rat.divInt x y).num/\dR V (Nf J V) r (x % ((g:Int)))) (fun O J r=>R▸jY (Rel.old r X) (F.rel r X) ((((Y.rel r (cH w)).l (k:=1000000) (by rw[Int.natAbs_natCast];omega))).cN fun g Y=>Cv.false Y) D (by omega) (by omega)) ?_);rintro O _ _ _ PX r U I h_ ⟨q,rr,rfl,k1,k2⟩;clear F;replace hy:=hy.cM r X U (mC h_);replace Y:=Y.cM r (cH w) U (mC h_);have hq:=k1.dK (S:=FF) r.cI (mN h_);have hr:=k2.dK (S:=FF) r.cI (mN h_);clear r;obtain⟨s5_0a,s5_0b,s5_0c,s5_0d,rfl⟩:=hq.shape;obtain⟨s5_1a,s5_1b,s5_1c,s5_1d,rfl⟩:=hr.shape;clear k1 k2 hr;refine cJ (cE I (fun _ J v V=>∃q r,v= .tuple #[q,r,.int .i64 0]/\dR V (Nf J V) q ((Rat.divInt x y).den:Int)/\dR V (Nf J V) r (y % ((g:Int)))) (fun O J r=>hd▸jY (Rel.old r X) (hy.rel r X) ((((Y.rel r (cH w)).l (k:=1000000) (by rw[Int.natAbs_natCast];omega))).cN fun g Y=>Cv.false Y) hl (by omega) (by omega)) ?_);rintro O _ _ _ Q8 r U I h_ ⟨q,rr,rfl,k1,k2⟩;clear hy;clear Y;replace hq:=hq.cM r (cH w) U (mC h_);have Qd:=k1.dK (S:=FF) r.cI (mN h_);have hr:=k2.dK (S:=FF) r.cI (mN h_);clear r;obtain⟨s6_0a,s6_0b,s6_0c,s6_0d,rfl⟩:=Qd.shape;obtain⟨s6_1a,s6_1b,s6_1c,s6_1d,rfl⟩:=hr.shape;clear k1 k2 hr;exact rtn I fun IR we re=>(dA.of hq Qd).out re (cH w)
def ed(w:World)(S:Nat->Prop)(v:Value)(q:Rat):Prop:=∃b1 l1 b2 l2 a b,v= .agg #[.bool b1,l1,.bool b2,l2]/\fk w S (.agg #[.bool b1,l1]) 100000 a/\fk w S (.agg #[.bool b2,l2]) 100000 b/\ratio a b=q
theorem ed.cK{V:World}{v:Value}(h:ed w S v q)(D:∀g,S g->V.heap[g]? =w.heap[g]?):ed V S v q:=by
 obtain⟨b1,l1,b2,l2,a,b,L,G,N,h4⟩:=h;exact⟨b1,l1,b2,l2,a,b,L,G.cK D,N.cK D,h4⟩
theorem ed.cN{S':Nat->Prop}{v:Value}(h:ed w S v q)(D:∀g,S g->S' g):ed w S' v q:=by
 obtain⟨b1,l1,b2,l2,a,b,L,G,N,h4⟩:=h;exact⟨b1,l1,b2,l2,a,b,L,G.cN D,N.cN D,h4⟩
theorem ed.r{v:Value}(h:ed w S v q):∃a b,iM w S v a b/\ratio a b=q:=by
 obtain⟨b1,l1,b2,l2,a,b,rfl,G,N,h4⟩:=h;exact⟨a,b,⟨b1,l1,b2,l2,rfl,G.r,N.r⟩,h4⟩
theorem ed.v{v:Value}(h:ed w S v q):nM w S v q:=by
 obtain⟨b1,l1,b2,l2,a,b,rfl,G,N,h4⟩:=h;exact⟨a,b,⟨b1,l1,b2,l2,rfl,G.r,N.r⟩,h4,G.ln,N.ln⟩
theorem ed.shape{v:Value}(h:ed w S v q):∃b a n c b2 a2 n2 c2,v= .agg #[.bool b,.slice a n c,.bool b2,.slice a2 n2 c2]:=h.v.shape
theorem ed.rl{v:Value}(h:ed w S v q):rl q<=100000:=by
 obtain⟨b1,l1,b2,l2,a,b,rfl,G,N,rfl⟩:=h;have:=il a b;have:=G.ln;have:=N.ln;omega
theorem dA.l{v:Value}(h:dA w S v q)(hl:rl q<=100000):ed w S v q:=by
 obtain⟨b1,l1,b2,l2,L,G,N⟩:=h;exact⟨b1,l1,b2,l2,_,_,L,G.l (aW (gG q) hl),N.l (aW (fR q) hl),pJ q⟩
theorem NH(a b:Int):rs (ratio a b)=if b.sign<0 then -a.sign else a.sign:=by
 have sb:=gN b;rw[ratio];split
 ·rw[aH (by omega),rs,uI (by decide)]
 ·split
  ·rw[show Rat.divInt a b=Rat.divInt (-a) (-b)from(Rat.neg_divInt_neg a b).symm,rs,uI (by omega),Int.sign_neg]
  ·rw[rs,uI (by omega)]
theorem jv{a c:Int}:(a.natAbs<1073741824)->(c.natAbs<1073741824)->(a*c).natAbs<=1152921502459363329:=fun L G=>by
 rw[Int.natAbs_mul];exact Nat.mul_le_mul (show a.natAbs<=1073741823 by omega) (show c.natAbs<=1073741823 by omega)
section
variable{S S':Nat->Prop}{H:Hp}{nx:Nat}{iv K:Iv}{B:Nat}{w J V:World}{O:Nat->Sx.dq}{v:Value}{q:Rat}
theorem ed.rel(h:ed w (Cv S B iv) v q)(r:Rel H nx iv B w O J)(X:∀g,S g->g<B):ed J (Cv S B iv) v q:=h.cK fun _ Y=>Rel.same r X Y
theorem ed.cM(h:ed w (Cv S B iv) v q)(r:Rel H nx iv B w O J)(X:∀g,S g->g<B)(U:Ext J V)(hm:∀p,p∈iv->p∈K):ed V (Cv S B K) v q:=
 ((h.rel r X).cK fun g Y=>U.block g (Rel.old r X g Y)).cN fun _ Y=>Y.mono hm
theorem ed.arg(h:ed w S v q)(iv:Iv):ed w (Cv S w.heap.size iv) v q:=h.cN fun _ h=>.inl h
end
theorem tO{v:Value}{a b:Int}(X:Old S w)(hp:iM w S v a b):
  eI PG F'.kC #[v] w (eO w fun v' _=>v'= .int .i64 (rs (ratio a b))):=by
 have I:=bR w;obtain⟨b1,l1,b2,l2,rfl,ha,Qq⟩:=hp;obtain⟨_,a1,n1,c1,e1⟩:=ha.shape;obtain⟨_,a2,n2,c2,e2⟩:=Qq.shape;simp only[Value.agg.injEq,Array.mk.injEq,List.cons.injEq,and_true]at e1 e2;obtain⟨_,rfl⟩:=e1;obtain⟨_,rfl⟩:=e2;replace ha:=ha.cN (S':=Cv S w.heap.size []) fun _ h=>.inl h;replace Qq:=Qq.cN (S':=Cv S w.heap.size []) fun _ h=>.inl h;have hr:=NH a b;have sa:=gN a;refine yF (by simp) ?_;refine cJ (cE I (fun _ J v V=>v= .int .i64 b.sign) (fun O J r=>gu (Rel.old r X) (Qq.rel r X)) ?_);rintro O _ _ _ Oo r U I h_ rfl;replace ha:=ha.cM r X U (mC h_);refine dQ.mk ?_ ?_<;>intro h
 ·have h:=aK h;rw[if_pos h]at hr;refine cJ (cE I (fun _ J v V=>v= .int .i64 a.sign) (fun O J r=>gu (Rel.old r X) (ha.rel r X)) ?_);rintro O Q7 v2 Pt Od r U I h_ rfl;refine⟨-a.sign,wo,?_⟩;exact rtn I fun IR we re=>by rw[hr];rfl
 have h:=aG h;rw[aH h]at hr;refine cJ (cE I (fun _ J v V=>v= .int .i64 a.sign) (fun O J r=>gu (Rel.old r X) (ha.rel r X)) ?_);rintro O _ _ _ Od r U I h_ rfl;exact rtn I fun IR we re=>by rw[hr];rfl
theorem DL{v:Value}(X:Old S w)(hp:dA w S v p):eI PG F'.kC #[v] w (eO w fun v' _=>v'= .int .i64 (rs p)):=by
 have:=tO X hp.r;rw[pJ]at this;exact this
theorem IC{v:Value}(X:Old S w)(hp:ed w S v p):eI PG F'.kC #[v] w (eO w fun v' _=>v'= .int .i64 (rs p)):=by
 obtain⟨a,b,L,rfl⟩:=hp.r;exact tO X L
theorem iz{v:Value}(X:Old S w)(hp:ed w S v p):
  eI PG F'.uO #[v] w (eO w fun v' V=>dA V (Nf w V) v' p):=by
 have I:=bR w;obtain⟨b1,l1,b2,l2,a,b,rfl,ha,Qq,rfl⟩:=hp;obtain⟨_,a1,n1,c1,e1⟩:=ha.shape;obtain⟨_,a2,n2,c2,e2⟩:=Qq.shape;simp only[Value.agg.injEq,Array.mk.injEq,List.cons.injEq,and_true]at e1 e2;obtain⟨_,rfl⟩:=e1;obtain⟨_,rfl⟩:=e2;replace ha:=ha.cN (S':=Cv S w.heap.size []) fun _ h=>.inl h;replace Qq:=Qq.cN (S':=Cv S w.heap.size []) fun _ h=>.inl h;have sb:=gN b;refine yK (by simp) ?_;refine cJ (cO (If:=fun _ J v V=>v= .int .i64 b.sign) (fun O J r=>gu (Rel.old r X) (Qq.rel r X).r) ?_);rintro O Q6 v1 QT r U hb rfl;replace I:=I.tr hb;replace ha:=ha.cM (K:=(Q6.heap.size,QT.heap.size)::[]) r X U fun x F=>aB _ F;replace Qq:=Qq.cM (K:=(Q6.heap.size,QT.heap.size)::[]) r X U fun x F=>aB _ F;generalize (Q6.heap.size,QT.heap.size)::[]=Oo at*
 refine dQ.mk ?_ ?_<;>intro h
 ·have h:b.sign=0:=by simpa using h
  obtain rfl:b=0:=by omega
  rw[show ratio a 0=Rat.divInt a 1 from if_pos rfl];refine cR hτ dx [.x 0,.x 1,.x 2,.x 3,.x 4] (by kernel_rfl) (by kernel_rfl) ?_;refine cO (If:=fun _ J v V=>dR V (Nf J V) v (1)) (fun O J r=>mz _ J (by decide) (by decide)) ?_;rintro O Q7 v2 Pt r U hb R;replace I:=I.tr hb;replace ha:=ha.cM (K:=(Q7.heap.size,Pt.heap.size)::Oo) r X U fun x F=>aB _ F;replace Qq:=Qq.cM (K:=(Q7.heap.size,Pt.heap.size)::Oo) r X U fun x F=>aB _ F;have L:=R.dK (S:=FF) r.cI (iv:=(Q7.heap.size,Pt.heap.size)::Oo) aF;generalize (Q7.heap.size,Pt.heap.size)::Oo=Od at*
  obtain⟨A0,A1,A2,A3,rfl⟩:=L.shape;refine cO (If:=fun _ J v V=>dA V (Nf J V) v (Rat.divInt a 1)) (fun O J r=>nA (Rel.old r X) (ha.rel r X) (((L.rel r (cH w)).l (k:=1) (by decide)).cN fun g Y=>Cv.false Y) (by omega) (by omega) (by decide)) ?_;rintro O QF v3 Pw r U hb R;replace I:=I.tr hb;replace ha:=ha.cM (K:=(QF.heap.size,Pw.heap.size)::Od) r X U fun x F=>aB _ F;replace Qq:=Qq.cM (K:=(QF.heap.size,Pw.heap.size)::Od) r X U fun x F=>aB _ F;replace L:=L.cM (K:=(QF.heap.size,Pw.heap.size)::Od) r (cH w) U fun x F=>aB _ F;have hR:=R.dK (S:=FF) r.cI (iv:=(QF.heap.size,Pw.heap.size)::Od) aF;generalize (QF.heap.size,Pw.heap.size)::Od=Oq at*
  obtain⟨C0,C1,C2,C3,C4,C5,C6,C7,rfl⟩:=hR.shape;exact rtn I fun IR we re=>hR.out re (cH w)
 have h:b.sign≠0:=by simpa using h
 have hb0:b≠0:=by omega
 rw[show ratio a b=Rat.divInt a b from aH hb0];refine cJ (cO (If:=fun _ J v V=>dA V (Nf J V) v (Rat.divInt a b)) (fun O J r=>nA (Rel.old r X) (ha.rel r X) (Qq.rel r X) (by omega) (by omega) hb0) ?_);rintro O Q7 v2 Pt r U hb R;replace I:=I.tr hb;replace ha:=ha.cM (K:=(Q7.heap.size,Pt.heap.size)::Oo) r X U fun x F=>aB _ F;replace Qq:=Qq.cM (K:=(Q7.heap.size,Pt.heap.size)::Oo) r X U fun x F=>aB _ F;have hR:=R.dK (S:=FF) r.cI (iv:=(Q7.heap.size,Pt.heap.size)::Oo) aF;generalize (Q7.heap.size,Pt.heap.size)::Oo=Od at*
 obtain⟨A0,A1,A2,A3,A4,A5,A6,A7,rfl⟩:=hR.shape;exact rtn I fun IR we re=>hR.out re (cH w)
theorem yu{v:Value}(X:Old S w)(hp:ed w S v p):
  eI PG F'.xe #[v] w (eO w fun v' _=>∃n d ok,v'= .tuple #[.int .i64 n,.int .i64 d,.bool ok]/\(ok=true->d≠0/\n.natAbs<1073741824/\d.natAbs<1073741824/\Rat.divInt n d=p)):=by
 have I:=bR w;obtain⟨b1,l1,b2,l2,a,b,rfl,ha,Qq,rfl⟩:=hp;obtain⟨_,a1,n1,c1,e1⟩:=ha.shape;obtain⟨_,a2,n2,c2,e2⟩:=Qq.shape;simp only[Value.agg.injEq,Array.mk.injEq,List.cons.injEq,and_true]at e1 e2;obtain⟨_,rfl⟩:=e1;obtain⟨_,rfl⟩:=e2;replace ha:=ha.cN (S':=Cv S w.heap.size []) fun _ h=>.inl h;replace Qq:=Qq.cN (S':=Cv S w.heap.size []) fun _ h=>.inl h;refine Ap (by simp) ?_
 refine cJ (cO (If:=fun _ J v V=>∃n p,v= .tuple #[.int .i64 n,.bool p]/\(p=true->n=a/\a.natAbs<1073741824)) (fun O J r=>(oI (Rel.old r X) (ha.rel r X).r).mono fun e V ⟨v2,e1,e2,e3⟩=>⟨v2,e1,e2,by
   rw[e3,kJ];split
   ·exact⟨_,_,rfl,fun _=>⟨rfl,‹_›⟩⟩
   ·exact⟨_,_,rfl,fun h=>by cases h⟩⟩) ?_)
 rintro O Q6 v1 QT r U hb ⟨na,pa,rfl,qa⟩;replace I:=I.tr hb;replace ha:=ha.cM (K:=(Q6.heap.size,QT.heap.size)::[]) r X U fun x F=>aB _ F;replace Qq:=Qq.cM (K:=(Q6.heap.size,QT.heap.size)::[]) r X U fun x F=>aB _ F;generalize (Q6.heap.size,QT.heap.size)::[]=Oo at*
 refine cJ (cO (If:=fun _ J v V=>∃n p,v= .tuple #[.int .i64 n,.bool p]/\(p=true->n=b/\b.natAbs<1073741824)) (fun O J r=>(oI (Rel.old r X) (Qq.rel r X).r).mono fun e V ⟨v2,e1,e2,e3⟩=>⟨v2,e1,e2,by
   rw[e3,kJ];split
   ·exact⟨_,_,rfl,fun _=>⟨rfl,‹_›⟩⟩
   ·exact⟨_,_,rfl,fun h=>by cases h⟩⟩) ?_)
 rintro O Q7 v2 Pt r U hb ⟨nb,pb,rfl,qb⟩;replace I:=I.tr hb;replace ha:=ha.cM (K:=(Q7.heap.size,Pt.heap.size)::Oo) r X U fun x F=>aB _ F;replace Qq:=Qq.cM (K:=(Q7.heap.size,Pt.heap.size)::Oo) r X U fun x F=>aB _ F;generalize (Q7.heap.size,Pt.heap.size)::Oo=Od at*
 refine dQ.mk ?_ ?_<;>intro h
 ·have h:nb=0:=by simpa using h
  refine dQ.mk ?_ ?_<;>intro L
  ·intro IR we re
   exact⟨_,rfl,I.tr re.cU,⟨na,1,pb,rfl,fun G=>by
     obtain⟨rfl,F⟩:=qa L;obtain⟨rfl,hy⟩:=qb G;rw[h]
     exact⟨by decide,F,by decide,(if_pos rfl).symm⟩⟩⟩
  exact rtn I fun IR we re=>⟨na,1,false,rfl,fun G=>by cases G⟩
 have h:nb≠0:=by simpa using h
 refine dQ.mk ?_ ?_<;>intro L
 ·intro IR we re
  exact⟨_,rfl,I.tr re.cU,⟨na,nb,pb,rfl,fun G=>by
    obtain⟨rfl,F⟩:=qa L;obtain⟨rfl,hy⟩:=qb G
    exact⟨h,F,hy,(aH h).symm⟩⟩⟩
 exact rtn I fun IR we re=>⟨na,nb,false,rfl,fun G=>by cases G⟩
theorem ID{v:Value}(X:Old S w)(hp:ed w S v p)(hq:ed w S u q):
  eI PG F'.Co #[v,u] w (eO w fun v' V=>dA V (Nf w V) v' (p+q)):=by
 have I:=bR w;replace hp:=hp.cN (S':=Cv S w.heap.size []) fun _ h=>.inl h;replace hq:=hq.cN (S':=Cv S w.heap.size []) fun _ h=>.inl h;obtain⟨b1,a1,n1,c1,b2,a2,n2,c2,rfl⟩:=hp.shape;obtain⟨b3,a3,n3,c3,b4,a4,n4,c4,rfl⟩:=hq.shape;refine EA (by simp) ?_;have r1:=hp.rl;have r2:=hq.rl;have u1:=gG p;have u2:=fR p;have u3:=gG q;have u4:=fR q;refine cJ (cE I (fun _ J v V=>∃n d ok,v= .tuple #[.int .i64 n,.int .i64 d,.bool ok]/\(ok=true->d≠0/\n.natAbs<1073741824/\d.natAbs<1073741824/\Rat.divInt n d=p)) (fun O J r=>yu (Rel.old r X) (hp.rel r X)) ?_);rintro O _ _ _ Oo r U I h_ ⟨a,b,k1,rfl,g1⟩;replace hp:=hp.cM r X U (mC h_);replace hq:=hq.cM r X U (mC h_);refine cJ (cE I (fun _ J v V=>∃n d ok,v= .tuple #[.int .i64 n,.int .i64 d,.bool ok]/\(ok=true->d≠0/\n.natAbs<1073741824/\d.natAbs<1073741824/\Rat.divInt n d=q)) (fun O J r=>yu (Rel.old r X) (hq.rel r X)) ?_);rintro O _ _ _ Od r U I h_ ⟨c,d,k2,rfl,g2⟩;replace hp:=hp.cM r X U (mC h_);replace hq:=hq.cM r X U (mC h_);refine dQ.mk ?_ ?_<;>intro L
 ·refine dQ.mk ?_ ?_<;>intro G
  ·obtain⟨g3,g4,g5,g6⟩:=g1 L;obtain⟨g7,g8,g9,g10⟩:=g2 G;have i1:=jv g4 g9;have i2:=jv g8 g5;have i3:=jv g5 g9;have i4:=jv g4 g8;refine⟨a*d,wo,c*b,wo,a*d+c*b,wo,b*d,wo,?_⟩;have e:=Rat.divInt_add_divInt a c g3 g7;rw[g6,g10]at e;refine cJ (cE I (fun _ J v V=>dA V (Nf J V) v (p+q)) (fun O J r=>e▸r8 (a*d+c*b) (b*d) J (by omega) (by omega) (kl g3 g7)) ?_);rintro O QF v3 Pw Oq r U I h_ R;have hR:=R.dK (S:=FF) r.cI (mN h_);obtain⟨A0,A1,A2,A3,A4,A5,A6,A7,rfl⟩:=hR.shape;exact rtn I fun IR we re=>hR.out re (cH w)
  refine cR hτ dx [.x 0,.x 2,.x 1,.x 3,.x 4,.x 5] (by kernel_rfl) (by kernel_rfl) ?_;refine cE I (fun _ J v V=>dA V (Nf J V) v (p)) (fun O J r=>iz (Rel.old r X) (hp.rel r X)) ?_;rintro O QF v3 Pw Oq r U I h_ R;replace hq:=hq.cM r X U (mC h_);have hX:=R.dK (S:=FF) r.cI (mN h_);obtain⟨A0,A1,A2,A3,A4,A5,A6,A7,rfl⟩:=hX.shape;refine cE I (fun _ J v V=>dA V (Nf J V) v (q)) (fun O J r=>iz (Rel.old r X) (hq.rel r X)) ?_;rintro O RG v4 QX Ox r U I h_ R;replace hX:=hX.cM r (cH w) U (mC h_);have hY:=R.dK (S:=FF) r.cI (mN h_);obtain⟨C0,C1,C2,C3,C4,C5,C6,C7,rfl⟩:=hY.shape;have Qy:=hX.num;have Qk:=hX.den;have RL:=hY.num;have Qz:=hY.den;have m0:=dH p.num q.den;have m1:=dH q.num p.den;have m2:=dH (p.den:Int) q.den;have m3:=jM (p.num*q.den) (q.num*p.den);have m4:=dH p.num q.num;refine cR hτ dx [.x 0,.x 1,.x 2,.x 3,.x 5,.x 6,.x 7,.x 8,.x 11,.x 12,.x 13,.x 14,.x 4,.x 9,.x 10,.x 15,.x 16,.x 17] (by kernel_rfl) (by kernel_rfl) ?_;refine cE I (fun _ J v V=>dR V (Nf J V) v (p.num*(q.den:Int))) (fun O J r=>jX (Rel.old r (cH w)) ((Qy.rel r (cH w)).l (k:=100000) (by omega)) ((Qz.rel r (cH w)).l (k:=100000) (by omega)) (by omega) (by omega)) ?_;rintro O Rt v5 Rv PX r U I h_ R;replace Qy:=Qy.cM r (cH w) U (mC h_);replace Qk:=Qk.cM r (cH w) U (mC h_);replace RL:=RL.cM r (cH w) U (mC h_);replace Qz:=Qz.cM r (cH w) U (mC h_);have hA:=R.dK (S:=FF) r.cI (mN h_);obtain⟨E0,E1,E2,E3,rfl⟩:=hA.shape;refine cE I (fun _ J v V=>dR V (Nf J V) v (q.num*(p.den:Int))) (fun O J r=>jX (Rel.old r (cH w)) ((RL.rel r (cH w)).l (k:=100000) (by omega)) ((Qk.rel r (cH w)).l (k:=100000) (by omega)) (by omega) (by omega)) ?_;rintro O Ro v6 Rq Q8 r U I h_ R;replace Qy:=Qy.cM r (cH w) U (mC h_);replace Qk:=Qk.cM r (cH w) U (mC h_);replace RL:=RL.cM r (cH w) U (mC h_);replace Qz:=Qz.cM r (cH w) U (mC h_);replace hA:=hA.cM r (cH w) U (mC h_);have hB:=R.dK (S:=FF) r.cI (mN h_);obtain⟨F0,F1,F2,F3,rfl⟩:=hB.shape;refine cE I (fun _ J v V=>dR V (Nf J V) v (p.num*(q.den:Int)+q.num*(p.den:Int))) (fun O J r=>BV (Rel.old r (cH w)) ((hA.rel r (cH w)).l (k:=200000) (by omega)) ((hB.rel r (cH w)).l (k:=200000) (by omega)) (by omega) (by omega)) ?_;rintro O TU v7 TD Qj r U I h_ R;replace Qy:=Qy.cM r (cH w) U (mC h_);replace Qk:=Qk.cM r (cH w) U (mC h_);replace RL:=RL.cM r (cH w) U (mC h_);replace Qz:=Qz.cM r (cH w) U (mC h_);have hN:=R.dK (S:=FF) r.cI (mN h_);obtain⟨G0,G1,G2,G3,rfl⟩:=hN.shape;refine cE I (fun _ J v V=>dR V (Nf J V) v ((p.den:Int)*(q.den:Int))) (fun O J r=>jX (Rel.old r (cH w)) ((Qk.rel r (cH w)).l (k:=100000) (by omega)) ((Qz.rel r (cH w)).l (k:=100000) (by omega)) (by omega) (by omega)) ?_;rintro O SN v8 SO SP r U I h_ R;replace Qy:=Qy.cM r (cH w) U (mC h_);replace Qk:=Qk.cM r (cH w) U (mC h_);replace RL:=RL.cM r (cH w) U (mC h_);replace Qz:=Qz.cM r (cH w) U (mC h_);replace hN:=hN.cM r (cH w) U (mC h_);have hD:=R.dK (S:=FF) r.cI (mN h_);obtain⟨J0,J1,J2,J3,rfl⟩:=hD.shape;refine cE I (fun _ J v V=>dA V (Nf J V) v (p+q)) (fun O J r=>(uH p q)▸nA (Rel.old r (cH w)) ((hN.rel r (cH w)).l (k:=200001) (by omega)) ((hD.rel r (cH w)).l (k:=200001) (by omega)) (by omega) (by omega) (kl (ga p) (ga q))) ?_;rintro O UQ v9 Uq Uk r U I h_ R;have hR:=R.dK (S:=FF) r.cI (mN h_);obtain⟨K0,K1,K2,K3,K4,K5,K6,K7,rfl⟩:=hR.shape;exact rtn I fun IR we re=>hR.out re (cH w)
 refine cR hτ dx [.x 0,.x 2,.x 1,.x 3,.x 4,.x 5] (by kernel_rfl) (by kernel_rfl) ?_;refine cE I (fun _ J v V=>dA V (Nf J V) v (p)) (fun O J r=>iz (Rel.old r X) (hp.rel r X)) ?_;rintro O _ _ _ Oq r U I h_ R;replace hq:=hq.cM r X U (mC h_);have hX:=R.dK (S:=FF) r.cI (mN h_);obtain⟨A0,A1,A2,A3,A4,A5,A6,A7,rfl⟩:=hX.shape;refine cE I (fun _ J v V=>dA V (Nf J V) v (q)) (fun O J r=>iz (Rel.old r X) (hq.rel r X)) ?_;rintro O _ _ _ Ox r U I h_ R;replace hX:=hX.cM r (cH w) U (mC h_);have hY:=R.dK (S:=FF) r.cI (mN h_);obtain⟨C0,C1,C2,C3,C4,C5,C6,C7,rfl⟩:=hY.shape;have Qy:=hX.num;have Qk:=hX.den;have RL:=hY.num;have Qz:=hY.den;have m0:=dH p.num q.den;have m1:=dH q.num p.den;have m2:=dH (p.den:Int) q.den;have m3:=jM (p.num*q.den) (q.num*p.den);have m4:=dH p.num q.num;refine cR hτ dx [.x 0,.x 1,.x 2,.x 3,.x 5,.x 6,.x 7,.x 8,.x 11,.x 12,.x 13,.x 14,.x 4,.x 9,.x 10,.x 15,.x 16,.x 17] (by kernel_rfl) (by kernel_rfl) ?_;refine cE I (fun _ J v V=>dR V (Nf J V) v (p.num*(q.den:Int))) (fun O J r=>jX (Rel.old r (cH w)) ((Qy.rel r (cH w)).l (k:=100000) (by omega)) ((Qz.rel r (cH w)).l (k:=100000) (by omega)) (by omega) (by omega)) ?_;rintro O _ _ _ PX r U I h_ R;replace Qy:=Qy.cM r (cH w) U (mC h_);replace Qk:=Qk.cM r (cH w) U (mC h_);replace RL:=RL.cM r (cH w) U (mC h_);replace Qz:=Qz.cM r (cH w) U (mC h_);have hA:=R.dK (S:=FF) r.cI (mN h_);obtain⟨E0,E1,E2,E3,rfl⟩:=hA.shape;refine cE I (fun _ J v V=>dR V (Nf J V) v (q.num*(p.den:Int))) (fun O J r=>jX (Rel.old r (cH w)) ((RL.rel r (cH w)).l (k:=100000) (by omega)) ((Qk.rel r (cH w)).l (k:=100000) (by omega)) (by omega) (by omega)) ?_;rintro O _ _ _ Q8 r U I h_ R;replace Qy:=Qy.cM r (cH w) U (mC h_);replace Qk:=Qk.cM r (cH w) U (mC h_);replace RL:=RL.cM r (cH w) U (mC h_);replace Qz:=Qz.cM r (cH w) U (mC h_);replace hA:=hA.cM r (cH w) U (mC h_);have hB:=R.dK (S:=FF) r.cI (mN h_);obtain⟨F0,F1,F2,F3,rfl⟩:=hB.shape;refine cE I (fun _ J v V=>dR V (Nf J V) v (p.num*(q.den:Int)+q.num*(p.den:Int))) (fun O J r=>BV (Rel.old r (cH w)) ((hA.rel r (cH w)).l (k:=200000) (by omega)) ((hB.rel r (cH w)).l (k:=200000) (by omega)) (by omega) (by omega)) ?_;rintro O _ _ _ Qj r U I h_ R;replace Qy:=Qy.cM r (cH w) U (mC h_);replace Qk:=Qk.cM r (cH w) U (mC h_);replace RL:=RL.cM r (cH w) U (mC h_);replace Qz:=Qz.cM r (cH w) U (mC h_);have hN:=R.dK (S:=FF) r.cI (mN h_);obtain⟨G0,G1,G2,G3,rfl⟩:=hN.shape;refine cE I (fun _ J v V=>dR V (Nf J V) v ((p.den:Int)*(q.den:Int))) (fun O J r=>jX (Rel.old r (cH w)) ((Qk.rel r (cH w)).l (k:=100000) (by omega)) ((Qz.rel r (cH w)).l (k:=100000) (by omega)) (by omega) (by omega)) ?_;rintro O _ _ _ SP r U I h_ R;replace Qy:=Qy.cM r (cH w) U (mC h_);replace Qk:=Qk.cM r (cH w) U (mC h_);replace RL:=RL.cM r (cH w) U (mC h_);replace Qz:=Qz.cM r (cH w) U (mC h_);replace hN:=hN.cM r (cH w) U (mC h_);have hD:=R.dK (S:=FF) r.cI (mN h_);obtain⟨J0,J1,J2,J3,rfl⟩:=hD.shape;refine cE I (fun _ J v V=>dA V (Nf J V) v (p+q)) (fun O J r=>(uH p q)▸nA (Rel.old r (cH w)) ((hN.rel r (cH w)).l (k:=200001) (by omega)) ((hD.rel r (cH w)).l (k:=200001) (by omega)) (by omega) (by omega) (kl (ga p) (ga q))) ?_;rintro O _ _ _ Uk r U I h_ R;have hR:=R.dK (S:=FF) r.cI (mN h_);obtain⟨K0,K1,K2,K3,K4,K5,K6,K7,rfl⟩:=hR.shape;exact rtn I fun IR we re=>hR.out re (cH w)
theorem Ei{v:Value}(X:Old S w)(hp:ed w S v p)(hq:ed w S u q):
  eI PG F'.Cm #[v,u] w (eO w fun v' V=>dA V (Nf w V) v' (p*q)):=by
 have I:=bR w;replace hp:=hp.cN (S':=Cv S w.heap.size []) fun _ h=>.inl h;replace hq:=hq.cN (S':=Cv S w.heap.size []) fun _ h=>.inl h;obtain⟨b1,a1,n1,c1,b2,a2,n2,c2,rfl⟩:=hp.shape;obtain⟨b3,a3,n3,c3,b4,a4,n4,c4,rfl⟩:=hq.shape;refine Dx (by simp) ?_;have r1:=hp.rl;have r2:=hq.rl;have u1:=gG p;have u2:=fR p;have u3:=gG q;have u4:=fR q;refine cJ (cE I (fun _ J v V=>∃n d ok,v= .tuple #[.int .i64 n,.int .i64 d,.bool ok]/\(ok=true->d≠0/\n.natAbs<1073741824/\d.natAbs<1073741824/\Rat.divInt n d=p)) (fun O J r=>yu (Rel.old r X) (hp.rel r X)) ?_);rintro O _ _ _ Oo r U I h_ ⟨a,b,k1,rfl,g1⟩;replace hp:=hp.cM r X U (mC h_);replace hq:=hq.cM r X U (mC h_);refine cJ (cE I (fun _ J v V=>∃n d ok,v= .tuple #[.int .i64 n,.int .i64 d,.bool ok]/\(ok=true->d≠0/\n.natAbs<1073741824/\d.natAbs<1073741824/\Rat.divInt n d=q)) (fun O J r=>yu (Rel.old r X) (hq.rel r X)) ?_);rintro O _ _ _ Od r U I h_ ⟨c,d,k2,rfl,g2⟩;replace hp:=hp.cM r X U (mC h_);replace hq:=hq.cM r X U (mC h_);refine dQ.mk ?_ ?_<;>intro L
 ·refine dQ.mk ?_ ?_<;>intro G
  ·obtain⟨g3,g4,g5,g6⟩:=g1 L;obtain⟨g7,g8,g9,g10⟩:=g2 G;have i1:=jv g4 g9;have i2:=jv g8 g5;have i3:=jv g5 g9;have i4:=jv g4 g8;refine⟨a*c,wo,b*d,wo,?_⟩;have e:=Rat.divInt_mul_divInt a c (d₁:=b) (d₂:=d);rw[g6,g10]at e;refine cJ (cE I (fun _ J v V=>dA V (Nf J V) v (p*q)) (fun O J r=>e▸r8 (a*c) (b*d) J (by omega) (by omega) (kl g3 g7)) ?_);rintro O QF v3 Pw Oq r U I h_ R;have hR:=R.dK (S:=FF) r.cI (mN h_);obtain⟨A0,A1,A2,A3,A4,A5,A6,A7,rfl⟩:=hR.shape;exact rtn I fun IR we re=>hR.out re (cH w)
  refine cR hτ dx [.x 0,.x 2,.x 1,.x 3,.x 4,.x 5] (by kernel_rfl) (by kernel_rfl) ?_;refine cE I (fun _ J v V=>dA V (Nf J V) v (p)) (fun O J r=>iz (Rel.old r X) (hp.rel r X)) ?_;rintro O QF v3 Pw Oq r U I h_ R;replace hq:=hq.cM r X U (mC h_);have hX:=R.dK (S:=FF) r.cI (mN h_);obtain⟨A0,A1,A2,A3,A4,A5,A6,A7,rfl⟩:=hX.shape;refine cE I (fun _ J v V=>dA V (Nf J V) v (q)) (fun O J r=>iz (Rel.old r X) (hq.rel r X)) ?_;rintro O RG v4 QX Ox r U I h_ R;replace hX:=hX.cM r (cH w) U (mC h_);have hY:=R.dK (S:=FF) r.cI (mN h_);obtain⟨C0,C1,C2,C3,C4,C5,C6,C7,rfl⟩:=hY.shape;have Qy:=hX.num;have Qk:=hX.den;have RL:=hY.num;have Qz:=hY.den;have m0:=dH p.num q.den;have m1:=dH q.num p.den;have m2:=dH (p.den:Int) q.den;have m3:=jM (p.num*q.den) (q.num*p.den);have m4:=dH p.num q.num;refine cR hτ dx [.x 0,.x 1,.x 2,.x 3,.x 5,.x 6,.x 7,.x 8,.x 4,.x 9,.x 10,.x 11] (by kernel_rfl) (by kernel_rfl) ?_;refine cE I (fun _ J v V=>dR V (Nf J V) v (p.num*q.num)) (fun O J r=>jX (Rel.old r (cH w)) ((Qy.rel r (cH w)).l (k:=100000) (by omega)) ((RL.rel r (cH w)).l (k:=100000) (by omega)) (by omega) (by omega)) ?_;rintro O Rt v5 Rv PX r U I h_ R;replace Qy:=Qy.cM r (cH w) U (mC h_);replace Qk:=Qk.cM r (cH w) U (mC h_);replace RL:=RL.cM r (cH w) U (mC h_);replace Qz:=Qz.cM r (cH w) U (mC h_);have hN:=R.dK (S:=FF) r.cI (mN h_);obtain⟨E0,E1,E2,E3,rfl⟩:=hN.shape;refine cE I (fun _ J v V=>dR V (Nf J V) v ((p.den:Int)*(q.den:Int))) (fun O J r=>jX (Rel.old r (cH w)) ((Qk.rel r (cH w)).l (k:=100000) (by omega)) ((Qz.rel r (cH w)).l (k:=100000) (by omega)) (by omega) (by omega)) ?_;rintro O Ro v6 Rq Q8 r U I h_ R;replace Qy:=Qy.cM r (cH w) U (mC h_);replace Qk:=Qk.cM r (cH w) U (mC h_);replace RL:=RL.cM r (cH w) U (mC h_);replace Qz:=Qz.cM r (cH w) U (mC h_);replace hN:=hN.cM r (cH w) U (mC h_);have hD:=R.dK (S:=FF) r.cI (mN h_);obtain⟨F0,F1,F2,F3,rfl⟩:=hD.shape;refine cE I (fun _ J v V=>dA V (Nf J V) v (p*q)) (fun O J r=>(yl p q)▸nA (Rel.old r (cH w)) ((hN.rel r (cH w)).l (k:=200001) (by omega)) ((hD.rel r (cH w)).l (k:=200001) (by omega)) (by omega) (by omega) (kl (ga p) (ga q))) ?_;rintro O TU v7 TD Qj r U I h_ R;have hR:=R.dK (S:=FF) r.cI (mN h_);obtain⟨G0,G1,G2,G3,G4,G5,G6,G7,rfl⟩:=hR.shape;exact rtn I fun IR we re=>hR.out re (cH w)
 refine cR hτ dx [.x 0,.x 2,.x 1,.x 3,.x 4,.x 5] (by kernel_rfl) (by kernel_rfl) ?_;refine cE I (fun _ J v V=>dA V (Nf J V) v (p)) (fun O J r=>iz (Rel.old r X) (hp.rel r X)) ?_;rintro O _ _ _ Oq r U I h_ R;replace hq:=hq.cM r X U (mC h_);have hX:=R.dK (S:=FF) r.cI (mN h_);obtain⟨A0,A1,A2,A3,A4,A5,A6,A7,rfl⟩:=hX.shape;refine cE I (fun _ J v V=>dA V (Nf J V) v (q)) (fun O J r=>iz (Rel.old r X) (hq.rel r X)) ?_;rintro O _ _ _ Ox r U I h_ R;replace hX:=hX.cM r (cH w) U (mC h_);have hY:=R.dK (S:=FF) r.cI (mN h_);obtain⟨C0,C1,C2,C3,C4,C5,C6,C7,rfl⟩:=hY.shape;have Qy:=hX.num;have Qk:=hX.den;have RL:=hY.num;have Qz:=hY.den;have m0:=dH p.num q.den;have m1:=dH q.num p.den;have m2:=dH (p.den:Int) q.den;have m3:=jM (p.num*q.den) (q.num*p.den);have m4:=dH p.num q.num;refine cR hτ dx [.x 0,.x 1,.x 2,.x 3,.x 5,.x 6,.x 7,.x 8,.x 4,.x 9,.x 10,.x 11] (by kernel_rfl) (by kernel_rfl) ?_;refine cE I (fun _ J v V=>dR V (Nf J V) v (p.num*q.num)) (fun O J r=>jX (Rel.old r (cH w)) ((Qy.rel r (cH w)).l (k:=100000) (by omega)) ((RL.rel r (cH w)).l (k:=100000) (by omega)) (by omega) (by omega)) ?_;rintro O _ _ _ PX r U I h_ R;replace Qy:=Qy.cM r (cH w) U (mC h_);replace Qk:=Qk.cM r (cH w) U (mC h_);replace RL:=RL.cM r (cH w) U (mC h_);replace Qz:=Qz.cM r (cH w) U (mC h_);have hN:=R.dK (S:=FF) r.cI (mN h_);obtain⟨E0,E1,E2,E3,rfl⟩:=hN.shape;refine cE I (fun _ J v V=>dR V (Nf J V) v ((p.den:Int)*(q.den:Int))) (fun O J r=>jX (Rel.old r (cH w)) ((Qk.rel r (cH w)).l (k:=100000) (by omega)) ((Qz.rel r (cH w)).l (k:=100000) (by omega)) (by omega) (by omega)) ?_;rintro O _ _ _ Q8 r U I h_ R;replace Qy:=Qy.cM r (cH w) U (mC h_);replace Qk:=Qk.cM r (cH w) U (mC h_);replace RL:=RL.cM r (cH w) U (mC h_);replace Qz:=Qz.cM r (cH w) U (mC h_);replace hN:=hN.cM r (cH w) U (mC h_);have hD:=R.dK (S:=FF) r.cI (mN h_);obtain⟨F0,F1,F2,F3,rfl⟩:=hD.shape;refine cE I (fun _ J v V=>dA V (Nf J V) v (p*q)) (fun O J r=>(yl p q)▸nA (Rel.old r (cH w)) ((hN.rel r (cH w)).l (k:=200001) (by omega)) ((hD.rel r (cH w)).l (k:=200001) (by omega)) (by omega) (by omega) (kl (ga p) (ga q))) ?_;rintro O _ _ _ Qj r U I h_ R;have hR:=R.dK (S:=FF) r.cI (mN h_);obtain⟨G0,G1,G2,G3,G4,G5,G6,G7,rfl⟩:=hR.shape;exact rtn I fun IR we re=>hR.out re (cH w)
theorem Mn{v:Value}(X:Old S w)(hp:ed w S v p):
  eI PG F'.Cl #[v] w (eO w fun v' V=>dA V (Nf w V) v' (-p)):=by
 have I:=bR w;replace hp:=hp.cN (S':=Cv S w.heap.size []) fun _ h=>.inl h;obtain⟨b1,a1,n1,c1,b2,a2,n2,c2,rfl⟩:=hp.shape;refine Dw (by simp) ?_;have r1:=hp.rl;have u1:=gG p;have u2:=fR p;refine cJ (cE I (fun _ J v V=>dA V (Nf J V) v (p)) (fun O J r=>iz (Rel.old r X) (hp.rel r X)) ?_);rintro O _ _ _ Oo r U I h_ R;have hX:=R.dK (S:=FF) r.cI (mN h_);obtain⟨A0,A1,A2,A3,A4,A5,A6,A7,rfl⟩:=hX.shape;have Qy:=hX.num;have Qk:=hX.den;refine cR hτ dx [.x 0,.x 1,.x 3,.x 4,.x 2,.x 5,.x 6] (by kernel_rfl) (by kernel_rfl) ?_;refine cE I (fun _ J v V=>dR V (Nf J V) v (-p.num)) (fun O J r=>mM (Rel.old r (cH w)) ((Qy.rel r (cH w)).l (k:=100000) (by omega)) (by omega)) ?_;rintro O _ _ _ Od r U I h_ R;replace Qk:=Qk.cM r (cH w) U (mC h_);have hN:=R.dK (S:=FF) r.cI (mN h_);obtain⟨C0,C1,C2,C3,rfl⟩:=hN.shape;refine cE I (fun _ J v V=>dA V (Nf J V) v (-p)) (fun O J r=>show eI _ _ _ _ (eO _ fun v V=>dA V _ v (-p))from(show Rat.divInt (-p.num) p.den= -p by rw[<-Rat.neg_divInt,Rat.num_divInt_den])▸nA (Rel.old r (cH w)) ((hN.rel r (cH w)).l (k:=100000) (by rw[cG];omega)) ((Qk.rel r (cH w)).l (k:=100000) (by omega)) (by omega) (by omega) (ga p)) ?_;rintro O _ _ _ Oq r U I h_ R;have hR:=R.dK (S:=FF) r.cI (mN h_);obtain⟨E0,E1,E2,E3,E4,E5,E6,E7,rfl⟩:=hR.shape;exact rtn I fun IR we re=>hR.out re (cH w)
theorem aAt{v:Value}(X:Old S w)(hp:ed w S v p)(hq:ed w S u q):
  eI PG F'.Cp #[v,u] w (eO w fun v' V=>dA V (Nf w V) v' (p-q)):=by
 have I:=bR w;replace hp:=hp.cN (S':=Cv S w.heap.size []) fun _ h=>.inl h;replace hq:=hq.cN (S':=Cv S w.heap.size []) fun _ h=>.inl h;obtain⟨b1,a1,n1,c1,b2,a2,n2,c2,rfl⟩:=hp.shape;obtain⟨b3,a3,n3,c3,b4,a4,n4,c4,rfl⟩:=hq.shape;refine EB (by simp) ?_;have r1:=hp.rl;have r2:=hq.rl;have u1:=lh q;refine cR hτ dx [.x 0,.x 1,.x 2,.x 3,.x 4] (by kernel_rfl) (by kernel_rfl) ?_;refine cE I (fun _ J v V=>dA V (Nf J V) v (-q)) (fun O J r=>Mn (Rel.old r X) (hq.rel r X)) ?_;rintro O _ _ _ Oo r U I h_ R;replace hp:=hp.cM r X U (mC h_);have hN:=R.dK (S:=FF) r.cI (mN h_);obtain⟨A0,A1,A2,A3,A4,A5,A6,A7,rfl⟩:=hN.shape;refine cE I (fun _ J v V=>dA V (Nf J V) v (p-q)) (fun O J r=>(Rat.sub_eq_add_neg p q)▸ID (Rel.old r X) (hp.rel r X) (((hN.rel r (cH w)).l (by omega)).cN fun g Y=>Cv.false Y)) ?_;rintro O _ _ _ Od r U I h_ R;have hR:=R.dK (S:=FF) r.cI (mN h_);obtain⟨C0,C1,C2,C3,C4,C5,C6,C7,rfl⟩:=hR.shape;exact rtn I fun IR we re=>hR.out re (cH w)
theorem aAn{v:Value}(X:Old S w)(hp:ed w S v p)(hq:ed w S u q):
  eI PG F'.Ck #[v,u] w (eO w fun v' _=>v'= .int .i64 (rs (p-q))):=by
 have I:=bR w;replace hp:=hp.cN (S':=Cv S w.heap.size []) fun _ h=>.inl h;replace hq:=hq.cN (S':=Cv S w.heap.size []) fun _ h=>.inl h;obtain⟨b1,a1,n1,c1,b2,a2,n2,c2,rfl⟩:=hp.shape;obtain⟨b3,a3,n3,c3,b4,a4,n4,c4,rfl⟩:=hq.shape;refine Dv (by simp) ?_;refine cJ (cE I (fun _ J v V=>dA V (Nf J V) v (p-q)) (fun O J r=>aAt (Rel.old r X) (hp.rel r X) (hq.rel r X)) ?_);rintro O _ _ _ Oo r U I h_ R;have hR:=R.dK (S:=FF) r.cI (mN h_);obtain⟨A0,A1,A2,A3,A4,A5,A6,A7,rfl⟩:=hR.shape;refine cJ (cE I (fun _ J v V=>v= .int .i64 (rs (p-q))) (fun O J r=>DL (Rel.old r (cH w)) (hR.rel r (cH w))) ?_);rintro O _ _ _ Od r U I h_ rfl;exact rtn I fun IR we re=>rfl
theorem Gm(n:Int)(w:World)(h1n: -9223372036854775808<=n)(h2n:n<=9223372036854775807):
  eI PG F'.qK #[.int .i64 n] w (eO w fun v' V=>dA V (Nf w V) v' (n:Rat)):=by
 have I:=bR w;have ha:=BE h1n h2n;refine qY (by simp) ?_;refine cJ (cE I (fun _ J v V=>dR V (Nf J V) v (n)) (fun O J r=>mz n J h1n h2n) ?_);rintro O _ _ _ Oo r U I h_ R;have hA:=R.dK (S:=FF) r.cI (mN h_);obtain⟨A0,A1,A2,A3,rfl⟩:=hA.shape;refine cJ (cE I (fun _ J v V=>dR V (Nf J V) v (1)) (fun O J r=>mz 1 J (by decide) (by decide)) ?_);rintro O _ _ _ Od r U I h_ R;replace hA:=hA.cM r (cH w) U (mC h_);have hB:=R.dK (S:=FF) r.cI (mN h_);obtain⟨C0,C1,C2,C3,rfl⟩:=hB.shape;refine cJ (cE I (fun _ J v V=>dA V (Nf J V) v ((n:Rat))) (fun O J r=>(BT n)▸nA (Rel.old r (cH w)) ((hA.rel r (cH w)).l (k:=2) (by omega)) ((hB.rel r (cH w)).l (k:=2) (by decide)) (by omega) (by omega) (by decide)) ?_);rintro O _ _ _ Oq r U I h_ R;have hR:=R.dK (S:=FF) r.cI (mN h_);obtain⟨E0,E1,E2,E3,E4,E5,E6,E7,rfl⟩:=hR.shape;exact rtn I fun IR we re=>hR.out re (cH w)
section
variable{S S':Nat->Prop}{H:Hp}{nx:Nat}{iv K:Iv}{B:Nat}{w J V:World}{O:Nat->Sx.dq}{v:Value}{a:Int}{b:Int}
end
theorem jx.short{b:Bool}{n c:Nat}{z:Int}(h:jx w S (.agg #[.bool b,.slice a n c]) z)(D:n<=k):fk w S (.agg #[.bool b,.slice a n c]) k z:=by
 obtain⟨b2,ls,⟨lv,e1,N⟩,G⟩:=h;obtain⟨a2,c2,e2,_⟩:=N.sl;subst e2;simp only[Value.agg.injEq,Array.mk.injEq,List.cons.injEq,Value.bool.injEq,Value.slice.injEq,and_true]at e1;obtain⟨rfl,rfl,e3,rfl⟩:=e1;exact⟨_,ls,⟨_,by rw[e3],N⟩,G,by omega⟩
def mx(w:World)(S:Nat->Prop)(W:List Value)(q:Rat):Prop:=∃b a n c b2 a2 n2 c2,W=[.bool b,.slice a n c,.bool b2,.slice a2 n2 c2]/\ed w S (.agg #[.bool b,.slice a n c,.bool b2,.slice a2 n2 c2]) q
abbrev eD:=dV mx
abbrev DJ:=dC eD
section
variable{S S':Nat->Prop}{H:Hp}{nx:Nat}{iv K:Iv}{B:Nat}{w J V:World}{O:Nat->Sx.dq}{v:Value}{qs:List Rat}{W:List Value}{q:Rat}
theorem mx.cK(h:mx w S W q)(D:∀g,S g->V.heap[g]? =w.heap[g]?):mx V S W q:=by
 obtain⟨b,a,n,c,b2,a2,n2,c2,L,G⟩:=h;exact⟨b,a,n,c,b2,a2,n2,c2,L,G.cK D⟩
theorem mx.cN(h:mx w S W q)(D:∀g,S g->S' g):mx w S' W q:=by
 obtain⟨b,a,n,c,b2,a2,n2,c2,L,G⟩:=h;exact⟨b,a,n,c,b2,a2,n2,c2,L,G.cN D⟩
theorem eD.cK(h:eD w S v qs)(D:∀g,S g->V.heap[g]? =w.heap[g]?):eD V S v qs:=by
 obtain⟨Z,L,G,N,h4⟩:=h;exact⟨Z,L.cK D,G,N,fun j W x k1 k2=>(h4 j W x k1 k2).cK D⟩
theorem eD.cN(h:eD w S v qs)(D:∀g,S g->S' g):eD w S' v qs:=by
 obtain⟨Z,L,G,N,h4⟩:=h;exact⟨Z,L.cN D,G,N,fun j W x k1 k2=>(h4 j W x k1 k2).cN D⟩
theorem DJ.cN(h:DJ w S v M)(D:∀g,S g->S' g):DJ w S' v M:=by
 obtain⟨rv,L,G,N⟩:=h;exact⟨rv,L.cN D,G,fun i u x k1 k2=>eD.cN (N i u x k1 k2) D⟩
end
section
variable{S S':Nat->Prop}{H:Hp}{nx:Nat}{iv K:Iv}{B:Nat}{w J V:World}{O:Nat->Sx.dq}{v:Value}{qs:List Rat}
theorem eD.rel(h:eD w (Cv S B iv) v qs)(r:Rel H nx iv B w O J)(X:∀g,S g->g<B):eD J (Cv S B iv) v qs:=eD.cK h fun _ Y=>Rel.same r X Y
theorem eD.cM(h:eD w (Cv S B iv) v qs)(r:Rel H nx iv B w O J)(X:∀g,S g->g<B)(U:Ext J V)(hm:∀p,p∈iv->p∈K):eD V (Cv S B K) v qs:=
 eD.cN (eD.cK (eD.rel h r X) fun g Y=>U.block g (Rel.old r X g Y)) fun _ Y=>Y.mono hm
end
section
variable{S S':Nat->Prop}{H:Hp}{nx:Nat}{iv K:Iv}{B:Nat}{w J V:World}{O:Nat->Sx.dq}{v:Value}{M:List (List Rat)}
end
def Bz(w:World)(S:Nat->Prop)(Z:List (List Value))(qs:List Rat):Prop:=∀(j:Nat) W q,Z[j]? =some W->qs[j]? =some q->jD w S W q
section
variable{S S':Nat->Prop}{H:Hp}{nx:Nat}{iv K:Iv}{B:Nat}{w J V:World}{O:Nat->Sx.dq}{Z:List (List Value)}{qs:List Rat}
theorem Bz.rel(h:Bz w (Cv S B iv) Z qs)(r:Rel H nx iv B w O J)(X:∀g,S g->g<B):Bz J (Cv S B iv) Z qs:=fun j W q L G=>(h j W q L G).cK fun _ Y=>Rel.same r X Y
theorem Bz.cM(h:Bz w (Cv S B iv) Z qs)(r:Rel H nx iv B w O J)(X:∀g,S g->g<B)(U:Ext J V)(hm:∀p,p∈iv->p∈K):Bz V (Cv S B K) Z qs:=fun j W q L G=>
 (((h.rel r X) j W q L G).cK fun g Y=>U.block g (Rel.old r X g Y)).cN fun _ Y=>Y.mono hm
theorem Bz.push(h:Bz w S Z qs)(hq:qs[Z.length]? =some q)(hc:jD w S W q):Bz w S (Z++[W]) qs:=fun j cs' q' L G=>by
 rcases aO j Z.length with hj|hj
 ·rw[aI hj]at L;exact h j cs' q' L G
 ·have VT:j=Z.length:=by have:=(aD.1 L).1;simp at this;omega
  subst VT;rw[aM (Nat.le_refl _),bJ]at L;simp at L;rw[hq]at G;injection G with G;subst L G;exact hc
end
theorem BX(h:∀x∈Z,x.length=4/\∀u∈x,u.oneCell'=true)(hc:W.length=4/\∀u∈W,u.oneCell'=true):∀x∈Z++[W],x.length=4/\∀u∈x,u.oneCell'=true:=fun x F=>by
 rcases bB.1 F with F|F
 ·exact h x F
 ·simp at F;subst F;exact hc
def aAf(w V:World)(v:Value)(xs:List Rat):Prop:=∃Z:List (List Value),V.ownsRow w.heap.size T.Rat 4 v xs.length Z.flatten/\Z.length=xs.length/\(∀W∈Z,W.length=4/\∀u∈W,u.oneCell'=true)/\∀(j:Nat) W q,Z[j]? =some W->xs[j]? =some q->jD V (fun g=>Nf w V g/\v.ownBlock≠some g) W q
theorem DI{id n g:Nat}(h:((At.w id n).den O).ownBlock=some g):(O id).nil=false/\(O id).g=g:=by
 cases R:(O id).nil with
 |true=>rw[show (At.w id n).den O= .slice none 0 0 by simp[At.den,R]]at h;cases h
 |false=>
  rw[show (At.w id n).den O= .slice (some ⟨(O id).g,0,none⟩) n (O id).cap by simp[At.den,R]]at h;injection h with h;exact⟨rfl,h⟩
def vH(xs ys:List Rat)(b:Rat):List Rat:=(List.range ys.length).map fun j=>if 0<xs.length then xs.getD j 0+ys.getD j 0*b else ys.getD j 0*b
theorem vL(xs ys:List Rat)(b:Rat):(vH xs ys b).length=ys.length:=by simp[vH]
theorem DT{j:Nat}(h:j<ys.length):(vH xs ys b)[j]? =some (if 0<xs.length then xs.getD j 0+ys.getD j 0*b else ys.getD j 0*b):=by
 rw[vH,aL,bm h];rfl
theorem Mm{v t:Value}(X:Old S w)(F:eD w S v xs)(hy:eD w S u ys)(hb:ed w S t b)(hlen:xs=[]\/xs.length=ys.length)(R:ys.length<=1000000)(hbound:∀y∈ys,rl y+rl b<=100000):
  eI PG F'.AO #[v,u,t] w (eO w fun v' V=>cS V (Nf w V) v' (vH xs ys b)/\aAf w V v' (vH xs ys b)):=by
 have I:=bR w;obtain⟨ax,cx,rfl,XW,hmx⟩:=dV.shape F;obtain⟨ay,cy,rfl,hcy,hmy⟩:=dV.shape hy;obtain⟨t0,t1,t2,t3,t4,t5,t6,t7,rfl⟩:=hb.shape;have Pv:=vL xs ys b;refine Bb (by simp) ?_
 refine⟨List (List Value)×World×Iv,fun z=>⟨[(0,sV ax xs.length cx),(1,sV ay ys.length cy),(5,pP 0 0),(7,.o (.w 1 z.1.length)),(8,iZ z.1.length)],[(1,.vec T.Rat 4 z.1.flatten),(0,.box T.Rat [.v (.bool t0),.v (.slice t1 t2 t3),.v (.bool t4),.v (.slice t5 t6 t7)])],2,z.2.2,z.2.1⟩,fun z=>ys.length-z.1.length,
  fun z=>z.1.length<=ys.length/\dw w.heap.size w z.2.1/\(∀x∈z.1,x.length=4/\∀u∈x,u.oneCell'=true)/\Bz z.2.1 (Cf w z.2.2) z.1 (vH xs ys b),?_,?_⟩
 ·intro O J r
  exact⟨([],J,[]),⟨by simp,r.cU,by simp,fun j W q h=>by simp at h⟩,Sub.nil 7 T.Rat 4 rfl (by simp[jw,SV.sc,At.sc,fW]) r fun Id r1=>
   Sub.gn [] r1⟩
 clear I;rintro⟨Z,w1,iv⟩ ⟨A,I,h4,QH⟩;dsimp only at A I h4 QH ⊢;have PL:=ef fun x F=>(h4 x F).1;refine dQ.mk ?_ ?_<;>intro OZ
 ·have OZ:Z.length<ys.length:=by simpa using OZ
  obtain⟨y,TB⟩:∃y,ys[Z.length]? =some y:=⟨_,aA OZ⟩
  obtain⟨ady,csy,VD,Rs,_,Qu⟩:=dV.load hy TB;obtain⟨p0,p1,p2,p3,p4,p5,p6,p7,rfl,Rs⟩:=Rs;have hyd:ys.getD Z.length 0=y:=by rw[List.getD,TB];rfl
  have VH:=DT (xs:=xs) (b:=b) OZ;rw[hyd]at VH;have PH:=hbound y (aC TB);have hrm:=iA y b;refine dQ.mk ?_ ?_<;>intro TM
  ·have TM:0<xs.length:=by have:=aK TM;omega
   have QJ:Z.length<xs.length:=hlen.elim (fun h=>by rw[h]at TM;simp at TM) (fun h=>by omega);obtain⟨x,QK⟩:∃x,xs[Z.length]? =some x:=⟨_,aA QJ⟩
   obtain⟨adx,csx,QE,RQ,_,PU⟩:=dV.load F QK;obtain⟨q0,q1,q2,q3,q4,q5,q6,q7,rfl,RQ⟩:=RQ;have VM:xs.getD Z.length 0=x:=by rw[List.getD,QK];rfl
   rw[if_pos TM,VM]at VH;refine⟨ady,VD,by omega,[.bool p0,.slice p1 p2 p3,.bool p4,.slice p5 p6 p7],rfl,fun O J r i x F=>?_,?_⟩
   ·obtain⟨k1,k2⟩:=Qu i x F;rw[aE,cL (w:=w) (V:=J) (by rw[dF,dF];exact(I.tr r.cU).block _ (X _ k1))];exact k2
   refine cJ (cE I (fun _ J v V=>v= .int .i64 (rs y)) (fun O J r=>IC (oS X r) (Rs.cK (kS I r X))) ?_);rintro O Q6 v1 QT Oo r U I h_ rfl;replace QH:=QH.cM r (cH w) U (mC h_);clear r;refine dQ.mk ?_ ?_<;>intro hs
   ·have hs:y=0:=EM.1 (by simpa using hs);rw[hs,bE,bU]at VH;refine⟨adx,QE,by omega,[.bool q0,.slice q1 q2 q3,.bool q4,.slice q5 q6 q7],rfl,fun O J r i x F=>?_,?_⟩
    ·obtain⟨k1,k2⟩:=PU i x F;rw[aE,cL (w:=w) (V:=J) (by rw[dF,dF];exact(I.tr r.cU).block _ (X _ k1))];exact k2
    refine cJ (cE I (fun _ J v V=>dA V (Nf J V) v (x)) (fun O J r=>iz (oS X r) (RQ.cK (kS I r X))) ?_);rintro O Q7 v2 Pt Od r U I h_ R;replace QH:=QH.cM r (cH w) U (mC h_);have Ua:=R.dK (S:=FF) r.cI (mN h_);clear r R;obtain⟨A0,A1,A2,A3,A4,A5,A6,A7,rfl⟩:=Ua.shape;refine .inl ?_;refine⟨PL,by omega,by unfold maxLen;omega,((Z.length+1:Nat):Int),wo,?_⟩;intro GT w3 E;have QU:(Z++[[Value.bool A0,.slice A1 A2 A3,.bool A4,.slice A5 A6 A7]]).length=Z.length+1:=by simp
    have XH:(Z++[[Value.bool A0,.slice A1 A2 A3,.bool A4,.slice A5 A6 A7]]).flatten=Z.flatten++[Value.bool A0,.slice A1 A2 A3,.bool A4,.slice A5 A6 A7]:=by simp
    exact⟨(Z++[[.bool A0,.slice A1 A2 A3,.bool A4,.slice A5 A6 A7]],w3,_),⟨by dsimp only;rw[QU];exact OZ,I.tr E.cU,BX h4 ⟨rfl,by intro u hu;simp at hu;rcases hu with rfl|rfl|rfl|rfl<;>rfl⟩,(QH.rel E (cH w)).push VH (Ua.rel E (cH w)).sR⟩,
     Sub.gn [(1,3)] E ⟨by dsimp only;rw[XH];rfl,rfl,trivial⟩ ⟨rfl,rfl,rfl,by dsimp only;rw[QU];rfl,by dsimp only;rw[QU];rfl,trivial⟩,by dsimp only;rw[QU];omega⟩
   refine cR hτ dx [.x 0,.x 1,.x 2,.x 3,.x 4,.p 6,.x 5,.x 6,.x 7] (by kernel_rfl) (by kernel_rfl) ?_;refine⟨ady,VD,by omega,[.bool p0,.slice p1 p2 p3,.bool p4,.slice p5 p6 p7],rfl,fun O J r i x F=>?_,?_⟩
   ·obtain⟨k1,k2⟩:=Qu i x F;rw[aE,cL (w:=w) (V:=J) (by rw[dF,dF];exact(I.tr r.cU).block _ (X _ k1))];exact k2
   refine cE I (fun _ J v V=>dA V (Nf J V) v (y*b)) (fun O J r=>Ei (oS X r) (Rs.cK (kS I r X)) (hb.cK (kS I r X))) ?_;rintro O _ _ _ Od r U I h_ R;replace QH:=QH.cM r (cH w) U (mC h_);have hm:=R.dK (S:=FF) r.cI (mN h_);clear r R;obtain⟨A0,A1,A2,A3,A4,A5,A6,A7,rfl⟩:=hm.shape;refine dQ.mk (fun SS=>?_) (fun SS=>absurd TM (by have:=aG SS;omega));refine cR hτ dx [.x 0,.x 1,.x 2,.x 3,.x 4,.x 5,.x 6] (by kernel_rfl) (by kernel_rfl) ?_;refine⟨adx,QE,by omega,[.bool q0,.slice q1 q2 q3,.bool q4,.slice q5 q6 q7],rfl,fun O J r i x F=>?_,?_⟩
   ·obtain⟨k1,k2⟩:=PU i x F;rw[aE,cL (w:=w) (V:=J) (by rw[dF,dF];exact(I.tr r.cU).block _ (X _ k1))];exact k2
   refine cE I (fun _ J v V=>dA V (Nf J V) v (x+y*b)) (fun O J r=>ID (Rel.old r X) ((RQ.cK (kS I r X)).cN fun g Y=>Or.inl Y) (((hm.rel r (cH w)).l (by omega)).cN fun g Y=>Cv.false Y)) ?_;rintro O _ _ _ Oq r U I h_ R;replace QH:=QH.cM r (cH w) U (mC h_);clear hm;have Ua:=R.dK (S:=FF) r.cI (mN h_);clear r R;obtain⟨C0,C1,C2,C3,C4,C5,C6,C7,rfl⟩:=Ua.shape;refine .inl ?_;refine⟨PL,by omega,by unfold maxLen;omega,((Z.length+1:Nat):Int),wo,?_⟩;intro GT w3 E;have QU:(Z++[[Value.bool C0,.slice C1 C2 C3,.bool C4,.slice C5 C6 C7]]).length=Z.length+1:=by simp
   have XH:(Z++[[Value.bool C0,.slice C1 C2 C3,.bool C4,.slice C5 C6 C7]]).flatten=Z.flatten++[Value.bool C0,.slice C1 C2 C3,.bool C4,.slice C5 C6 C7]:=by simp
   exact⟨(Z++[[.bool C0,.slice C1 C2 C3,.bool C4,.slice C5 C6 C7]],w3,_),⟨by dsimp only;rw[QU];exact OZ,I.tr E.cU,BX h4 ⟨rfl,by intro u hu;simp at hu;rcases hu with rfl|rfl|rfl|rfl<;>rfl⟩,(QH.rel E (cH w)).push VH (Ua.rel E (cH w)).sR⟩,
    Sub.gn [(1,4)] E ⟨by dsimp only;rw[XH];rfl,rfl,trivial⟩ ⟨rfl,rfl,rfl,by dsimp only;rw[QU];rfl,by dsimp only;rw[QU];rfl,trivial⟩,by dsimp only;rw[QU];omega⟩
  have TM:¬0<xs.length:=by have:=aG TM;omega
  rw[aH TM]at VH;refine cR hτ dx [.x 0,.x 1,.x 2,.x 3,.x 4,.p 6,.x 5,.x 6,.x 7] (by kernel_rfl) (by kernel_rfl) ?_;refine⟨ady,VD,by omega,[.bool p0,.slice p1 p2 p3,.bool p4,.slice p5 p6 p7],rfl,fun O J r i x F=>?_,?_⟩
  ·obtain⟨k1,k2⟩:=Qu i x F;rw[aE,cL (w:=w) (V:=J) (by rw[dF,dF];exact(I.tr r.cU).block _ (X _ k1))];exact k2
  refine cE I (fun _ J v V=>dA V (Nf J V) v (y*b)) (fun O J r=>Ei (oS X r) (Rs.cK (kS I r X)) (hb.cK (kS I r X))) ?_;rintro O _ _ _ Oo r U I h_ R;replace QH:=QH.cM r (cH w) U (mC h_);have hm:=R.dK (S:=FF) r.cI (mN h_);clear r R;obtain⟨E0,E1,E2,E3,E4,E5,E6,E7,rfl⟩:=hm.shape;refine dQ.mk (fun SS=>absurd (aK SS) (by omega)) (fun SS=>?_);refine .inl ?_;refine⟨PL,by omega,by unfold maxLen;omega,((Z.length+1:Nat):Int),wo,?_⟩;intro GT w3 E;have QU:(Z++[[Value.bool E0,.slice E1 E2 E3,.bool E4,.slice E5 E6 E7]]).length=Z.length+1:=by simp
  have XH:(Z++[[Value.bool E0,.slice E1 E2 E3,.bool E4,.slice E5 E6 E7]]).flatten=Z.flatten++[Value.bool E0,.slice E1 E2 E3,.bool E4,.slice E5 E6 E7]:=by simp
  exact⟨(Z++[[.bool E0,.slice E1 E2 E3,.bool E4,.slice E5 E6 E7]],w3,_),⟨by dsimp only;rw[QU];exact OZ,I.tr E.cU,BX h4 ⟨rfl,by intro u hu;simp at hu;rcases hu with rfl|rfl|rfl|rfl<;>rfl⟩,(QH.rel E (cH w)).push VH (hm.rel E (cH w)).sR⟩,
   Sub.gn [(1,4)] E ⟨by dsimp only;rw[XH];rfl,rfl,trivial⟩ ⟨rfl,rfl,rfl,by dsimp only;rw[QU];rfl,by dsimp only;rw[QU];rfl,trivial⟩,by dsimp only;rw[QU];omega⟩
 have OZ:Z.length=ys.length:=aR A (by simpa using OZ);intro IR we re;have PZ:∀u∈Z.flatten,u.oneCell'=true:=fun u hu=>by
  obtain⟨W,hc,hu⟩:=List.mem_flatten.1 hu;exact(h4 W hc).2 u hu
 refine⟨_,rfl,I.tr re.cU,?_,Z,by rw[Pv,<-OZ];exact zO re (id:=1) rfl PL (by decide),by rw[Pv];exact OZ,h4,fun j W q k1 k2=>((QH j W q k1 k2).cK fun g Y=>Rel.same re (cH w) Y).cN fun g Y=>⟨Cv.nw Y re,fun e=>Rel.not re (cH w) Y 1 _ rfl (DI e).1 (DI e).2⟩⟩;refine⟨Z,?_,by rw[Pv];exact OZ,fun W hc=>(h4 W hc).1,fun j W q k1 k2=>((QH j W q k1 k2).cK fun g Y=>Rel.same re (cH w) Y).cN fun g Y=>Cv.nw Y re⟩;have:=re.iK (id:=1) (sz:=4) (m:=Z.length) rfl PL (by unfold maxLen;omega) (by decide) PZ;rw[Pv,<-OZ];exact this.cN fun g Y=>.inr Y
end Go.Ex
namespace Go.Ex
variable{M:List (List Rat)}{s:List (List Rat)×List Nat}
theorem HG{c r k EQ:Nat}(D:r<=k)(hR:k<=EQ)(h:∀j,r<=j->j<k->dD M j c=0):fw M c (EQ-r) r=fw M c (EQ-k) k:=by
 induction k with
 |zero=>
  have:r=0:=by omega
  subst this;rfl
 |succ k ih=>
  rcases aO k r with L|L
  ·have:r=k+1:=by omega
   subst this;rfl
  ·rw[ih L (by omega) fun j G N=>h j G (by omega),show EQ-k=(EQ-(k+1))+1 by omega,zS (h k L (by omega))]
theorem kV{α:Type}{l:List α}{i:Nat}{x:α}(h:i<l.length):l.take i++[x]++l.drop (i+1)=l.set i x:=by
 rw[List.set_eq_take_append_cons_drop,if_pos h];simp
theorem HH{c:Nat}(h:¬s.2.length<s.1.length\/fw s.1 c (s.1.length-s.2.length) s.2.length=s.1.length):dW s c=s:=by
 unfold dW;split
 ·rcases h with h|h
  ·exact absurd ‹_› h
  ·dsimp only;rw[if_pos h]
 ·rfl
theorem HI{c k:Nat}(D:s.2.length<=k)(hl:k<s.1.length)(h:∀j,s.2.length<=j->j<k->dD s.1 j c=0)(R:dD s.1 k c≠0):
  dW s c=(du (scaled (gH [] s.1 s.2.length k) s.2.length c) s.2.length c s.1.length,s.2++[c]):=by
 have e:fw s.1 c (s.1.length-s.2.length) s.2.length=k:=by
  rw[HG D (by omega) h,show s.1.length-k=(s.1.length-k-1)+1 by omega,zT R]
 unfold dW;rw[if_pos (by omega)];dsimp only
 rw[e,aH (by omega),j5,gE]
end Go.Ex
namespace Go.Ex
open Go Go.Sx Go.Proofs
variable{qs:List Rat}{S:Nat->Prop}
theorem KQ(ys:List Rat)(b:Rat):vH [] ys b=ys.map (· *b):=by
 refine bF fun j=>?_;rcases aO j ys.length with h|h
 ·rw[DT h,aH (by simp),aL,List.getD,aA h];rfl
 ·rw[List.getElem?_eq_none (by rw[vL];exact h),List.getElem?_eq_none (by simp;exact h)]
theorem cS.l{w:World}{v:Value}(h:cS w S v qs)(hq:∀q∈qs,rl q<=100000):eD w S v qs:=by
 obtain⟨Z,L,G,N,h4⟩:=h;refine⟨Z,L,G,N,fun j W q k1 k2=>?_⟩;obtain⟨b,a,n,c,b2,a2,n2,c2,e,hc⟩:=h4 j W q k1 k2;exact⟨b,a,n,c,b2,a2,n2,c2,e,hc.l (hq q (aC k2))⟩
theorem eD.nil(w:World)(S:Nat->Prop):eD w S (.slice none 0 0) []:=⟨[],⟨by simp,by simp,by simp,none,0,rfl,Nat.le_refl _,by simp⟩,rfl,by simp,by simp⟩
section
variable{S S':Nat->Prop}{H:Hp}{nx:Nat}{iv K:Iv}{B:Nat}{w J V:World}{O:Nat->Sx.dq}{rv:List Value}{M:List (List Rat)}
end
end Go.Ex
namespace Go.Ex
variable{M:List (List Rat)}{s:List (List Rat)×List Nat}{w:Nat}
theorem vZ{r:List Rat}{c:Nat}(h:c<w):(r.take w).getD c 0=r.getD c 0:=by
 simp only[List.getD,List.getElem?_take,if_pos h]
def tk(w:Nat)(M:List (List Rat)):List (List Rat):=M.map (·.take w)
theorem CQ(w:Nat)(M:List (List Rat)):(tk w M).length=M.length:=aJ ..
theorem th(w:Nat)(M:List (List Rat))(i:Nat):(tk w M).getD i []=(M.getD i []).take w:=by
 unfold tk;simp only[List.getD,aL]
 cases M[i]? <;>simp
theorem ve{i c:Nat}(h:c<w):dD (tk w M) i c=dD M i c:=by
 unfold dD;rw[th,vZ h]
theorem eP(M:List (List Rat))(cols:Nat):(cQ M cols).1.length=M.length:=by
 have key:∀(l:List Nat) (s:List (List Rat)×List Nat),(l.foldl dW s).1.length=s.1.length:=by
  intro l
  induction l with
  |nil=>exact fun s=>rfl
  |cons c l ih=>exact fun s=>by rw[List.foldl_cons,ih,oW]
 exact key _ _
theorem FQ{M:List (List Rat)}{w c:Nat}(h:c<w):∀f k,fw (tk w M) c f k=fw M c f k
 |0,k=>rfl
 |f+1,k=>by unfold fw;rw[ve h,FQ h f (k+1)]
theorem Kz(w:Nat)(M:List (List Rat))(i j:Nat):gH [] (tk w M) i j=tk w (gH [] M i j):=by
 unfold gH;rw[th,th];unfold tk;rw[List.map_set,List.map_set]
theorem Jc{a c:Nat}(h:c<w):scaled (tk w M) a c=tk w (scaled M a c):=by
 unfold scaled;rw[th,ve h];unfold tk;rw[List.map_set,List.map_take]
theorem HJ{a c i:Nat}(h:c<w):du (tk w M) a c i=tk w (du M a c i):=by
 refine bF fun j=>?_;have hP:=th w M a;unfold du;rw[hP];unfold tk;simp only[List.getElem?_mapIdx,aL]
 cases M[j]? with
 |none=>rfl
 |some r=>
  simp only[bc]
  by_cases hj:j<i/\j≠a
  ·rw[if_pos hj,if_pos hj];congr 1;refine bF fun k=>?_;rw[List.getElem?_mapIdx,List.getElem?_take,List.getElem?_take,List.getElem?_mapIdx,vZ h];by_cases D:k<w
   ·rw[if_pos D,if_pos D]
    cases r[k]? with
    |none=>rfl
    |some q=>simp only[bc,tj,vZ D]
   ·rw[aH D,aH D];rfl
  ·rw[aH hj,aH hj]
theorem LB{c:Nat}(h:c<w):dW (tk w s.1,s.2) c=(tk w (dW s c).1,(dW s c).2):=by
 unfold dW;simp only[CQ,FQ h]
 split
 ·split
  ·rfl
  ·rw[Kz,Jc h,HJ h,CQ]
 ·rfl
theorem s8{M:List (List Rat)}{w:Nat}:∀cols,cols<=w->cQ (tk w M) cols=(tk w (cQ M cols).1,(cQ M cols).2)
 |0,_=>rfl
 |c+1,h=>by
  have ih:=s8 (M:=M) (w:=w) c (by omega);unfold cQ at ih ⊢;rw[bO,List.foldl_append,List.foldl_append,ih];exact LB (s:=(List.range c).foldl dW (M,[])) (w:=w) (c:=c) (by omega)
theorem s9{M:List (List Rat)}{c:Nat}:∀f k j,k<=j->j<fw M c f k->dD M j c=0
 |0,k,j,L,G=>by simp only[fw]at G;omega
 |f+1,k,j,L,G=>by
  unfold fw at G;split at G
  ·rename_i h0;rcases aO k j with h|h
   ·exact s9 f (k+1) j h G
   ·rw[show j=k by omega];exact h0
  ·omega
theorem jm(c:Nat)(hle:s.2.length<=s.1.length):(dW s c=s/\∀j,s.2.length<=j->j<s.1.length->dD s.1 j c=0)\/
  ∃k,s.2.length<=k/\k<s.1.length/\dD s.1 k c≠0/\dW s c=(du (scaled (gH [] s.1 s.2.length k) s.2.length c) s.2.length c s.1.length,s.2++[c]):=by
 have L:=tm s.1 c (s.1.length-s.2.length) s.2.length;by_cases D:fw s.1 c (s.1.length-s.2.length) s.2.length=s.1.length
 ·exact .inl ⟨HH (.inr D),fun j hj hl=>s9 (s.1.length-s.2.length) s.2.length j hj (by omega)⟩
 ·exact .inr ⟨_,L.1,by omega,tp s.1 c _ _ (by omega),HI L.1 (by omega) (fun j G N=>s9 _ _ j G N) (tp s.1 c _ _ (by omega))⟩
theorem vg{p:Rat}{r s:List Rat}{c:Nat}(h:c<r.length):(r.mapIdx (tj p s)).getD c 0=r.getD c 0+p*s.getD c 0:=by
 simp only[List.getD,List.getElem?_mapIdx,aA h]
 rfl
theorem zU{r:List Rat}{k:Rat}{c:Nat}:(r.map (· *k)).getD c 0=r.getD c 0*k:=by
 simp only[List.getD,aL]
 cases r[c]? with
 |none=>exact(bE k).symm
 |some q=>rfl
theorem lW{c k n:Nat}(hl:fZ n s.1)(L:s.2.length<=k)(G:k<s.1.length)(N:dD s.1 k c≠0)(e:dW s c=(du (scaled (gH [] s.1 s.2.length k) s.2.length c) s.2.length c s.1.length,s.2++[c])):
  (∀t,dD (dW s c).1 s.2.length t=dD s.1 k t*(1 / dD s.1 k c))/\
  ∀j,j<s.1.length->j≠s.2.length->∀t,t<n->dD (dW s c).1 j t=dD s.1 (if j=k then s.2.length else j) t+ -(dD s.1 (if j=k then s.2.length else j) c)*(dD s.1 k t*(1 / dD s.1 k c)):=by
 have hp:s.2.length<s.1.length:=by omega
 have hsw:dD (gH [] s.1 s.2.length k) s.2.length c=dD s.1 k c:=zV hp G;have Ub:(scaled (gH [] s.1 s.2.length k) s.2.length c).getD s.2.length []=(s.1.getD k []).map (· *(1 / dD s.1 k c)):=by
  unfold scaled;rw[hsw,List.getD,aP (by rw[gE];exact hp)];simp only[Option.getD_some]
  congr 1;rw[List.getD,List.getD,CR hp G]
 have Oa:∀j,j<s.1.length->j≠s.2.length->(scaled (gH [] s.1 s.2.length k) s.2.length c)[j]? =some (s.1.getD (if j=k then s.2.length else j) []):=fun j hj Oe=>by
  unfold scaled;rw[aS (Ne.symm Oe)];unfold gH;by_cases Sb:j=k
  ·subst Sb;rw[aP (by simpa using hj),if_pos rfl]
  ·rw[aS (Ne.symm Sb),aS (Ne.symm Oe),aH Sb,List.getD,aA hj];rfl
 have hgp:(du (scaled (gH [] s.1 s.2.length k) s.2.length c) s.2.length c s.1.length).getD s.2.length []=(s.1.getD k []).map (· *(1 / dD s.1 k c)):=by
  rw[<-Ub];simp only[List.getD,zW]
 rw[e];refine⟨fun t=>?_,fun j hj Oe t ht=>?_⟩
 ·show((du (scaled (gH [] s.1 s.2.length k) s.2.length c) s.2.length c s.1.length).getD s.2.length []).getD t 0=_;rw[hgp,zU];rfl
 ·have hgj:(du (scaled (gH [] s.1 s.2.length k) s.2.length c) s.2.length c s.1.length).getD j []=(s.1.getD (if j=k then s.2.length else j) []).mapIdx (tj (-((s.1.getD (if j=k then s.2.length else j) []).getD c 0)) ((s.1.getD k []).map (· *(1 / dD s.1 k c)))):=by
   simp only[List.getD,du,List.getElem?_mapIdx,Oa j hj Oe,bc,Option.getD_some]
   rw[if_pos ⟨hj,Oe⟩];exact congrArg (fun P=>(s.1.getD (if j=k then s.2.length else j) []).mapIdx (tj (-((s.1.getD (if j=k then s.2.length else j) []).getD c 0)) P)) Ub
  show((du (scaled (gH [] s.1 s.2.length k) s.2.length c) s.2.length c s.1.length).getD j []).getD t 0=_;rw[hgj,vg (by rw[hl.getD (by split<;>omega)];exact ht),zU];rfl
theorem tq{x:Rat}(h:x≠0):x*(1 / x)=1:=by rw[bp,cB,Rat.mul_inv_cancel x h]
def Red(n c:Nat)(s:List (List Rat)×List Nat):Prop:=fZ n s.1/\s.2.length<=s.1.length/\(∀j t,s.2.length<=j->j<s.1.length->t<c->dD s.1 j t=0)/\(∀p∈s.2,p<c)/\
 ∀i j,i<s.2.length->j<s.1.length->dD s.1 j (s.2.getD i 0)=if j=i then 1 else 0
theorem Red.step{n c:Nat}(h:Red n c s)(hc:c<n):Red n (c+1) (dW s c):=by
 obtain⟨hl,hle,hz,Qv,hu⟩:=h;rcases jm c hle with⟨e,h0⟩|⟨k,L,G,N,e⟩
 ·rw[e];refine⟨hl,hle,fun j t hj Tj ht=>?_,fun p hp=>by have:=Qv p hp;omega,hu⟩;rcases aO t c with h|h
  ·exact hz j t hj Tj h
  ·rw[show t=c by omega];exact h0 j hj Tj
 ·obtain⟨r1,r2⟩:=lW hl L G N e;have hlen:(dW s c).1.length=s.1.length:=oW s c;have e2:(dW s c).2=s.2++[c]:=by rw[e]
  have e3:(dW s c).2.length=s.2.length+1:=by rw[e2];simp
  have PZ:∀j,j<s.1.length->j≠s.2.length->dD (dW s c).1 j c=0:=fun j hj Oe=>by
   rw[r2 j hj Oe c hc,tq N,Rat.mul_one,Rat.add_neg_cancel]
  refine⟨hl.step,by rw[e3,hlen];omega,fun j t hj Tj ht=>?_,fun p hp=>?_,fun i j A hj=>?_⟩
  ·rw[e3]at hj;rw[hlen]at Tj;rcases aO t c with h|h
   ·rw[r2 j Tj (by omega) t (by omega),hz k t L G h,hz (if j=k then s.2.length else j) t (by split<;>omega) (by split<;>omega) h,bE,ah,Rat.zero_add]
   ·rw[show t=c by omega];exact PZ j Tj (by omega)
  ·rw[e2]at hp;rcases bB.1 hp with hp|hp
   ·have:=Qv p hp;omega
   ·rw[bD.1 hp];omega
  ·rw[e3]at A;rw[hlen]at hj;rcases aO i s.2.length with h|h
   ·have Y:(dW s c).2.getD i 0=s.2.getD i 0:=by rw[e2,List.getD,aI h,<-List.getD]
    have hpm:s.2.getD i 0<c:=Qv _ (by rw[List.getD,aA h];exact aY h);have Ts:dD s.1 k (s.2.getD i 0)=0:=hz k _ L G hpm;rw[Y];by_cases hjp:j=s.2.length
    ·rw[hjp,r1,Ts,bE,aH (by omega)]
    ·rw[r2 j hj hjp _ (by omega),Ts,bE,ah,bU];by_cases Sb:j=k
     ·rw[if_pos Sb,hu i _ h (by omega),aH (by omega),aH (by omega)]
     ·rw[aH Sb,hu i j h hj]
   ·have Y:(dW s c).2.getD i 0=c:=by rw[e2,List.getD,aM h,show i-s.2.length=0 by omega];rfl
    rw[Y];by_cases hjp:j=s.2.length
    ·rw[hjp,r1,tq N,if_pos (by omega)]
    ·rw[PZ j hj hjp,aH (by omega)]
theorem eA{M:List (List Rat)}{n:Nat}(hl:fZ n M):∀cols,cols<=n->Red n cols (cQ M cols)
 |0,_=>⟨hl,aQ _,fun _ _ _ _ h=>by omega,fun p hp=>(by cases hp),fun _ _ h=>(by cases h)⟩
 |c+1,h=>by
  have ih:=eA hl c (by omega);unfold cQ at ih ⊢;rw[bO,List.foldl_append];exact ih.step (by omega)
end Go.Ex
