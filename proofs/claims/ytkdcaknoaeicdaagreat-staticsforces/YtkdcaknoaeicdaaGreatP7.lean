/- Texts X62 to X75: lemmas, each with its conditions. -/
import Derived.Test.YtkdcaknoaeicdaaGreatP6
namespace Go.Ex
open Go Go.Sx Go.Proofs
variable{x y:Int}{M:List (List Rat)}{css:List (List Value)}{xs ys:List Rat}{cs:List Value}{S:Nat->Prop}{O:Nat->Sx.dg}{a:Option Addr}{b p q:Rat}{u:Value}{w:World}
theorem jG{v:Value}{k l:Nat}(hS:Old S w)(hx:fS w S v k x)(hy:fS w S u l y)(hk:k<=1000000)(hl:l<=1000000)(h0:y≠0):
  di PG N.oQ #[v,u] w (dw w fun v' w2=>∃q r,v'= .tuple #[q,r,.int .i64 0]∧dK w2 (Nf w w2) q (x / y)∧dK w2 (Nf w w2) r (x % y)):=
 (Ja hS hx hy hk hl).mono fun _ _ ⟨v2,e1,e2,e3⟩=>⟨v2,e1,e2,e3.elim (fun h=>absurd h.1 h0) fun h=>h.2⟩
theorem aAL(x:Nat){y:Nat}(h:y≠0):ln (Nat.gcd x y)<=ln y:=fI (Nat.le_of_dvd (by omega) (Nat.gcd_dvd_right x y))
theorem H5{a b:Int}(hb:b≠0):a / (b.sign*(Nat.gcd a.natAbs b.natAbs:Nat))=(Rat.divInt a b).num∧b / (b.sign*(Nat.gcd a.natAbs b.natAbs:Nat))=((Rat.divInt a b).den:Int):=by
 obtain⟨h1,h2⟩:=Cd (a:=a) hb;have d1:((Nat.gcd a.natAbs b.natAbs:Nat):Int) ∣ a:=Int.ofNat_dvd_left.2 (Nat.gcd_dvd_left _ _);have d2:((Nat.gcd a.natAbs b.natAbs:Nat):Int) ∣ b:=Int.ofNat_dvd_left.2 (Nat.gcd_dvd_right _ _);have sg:b.sign=1∨b.sign= -1:=by rcases gD b with h|h|h<;>omega
 have key:∀c:Int,((Nat.gcd a.natAbs b.natAbs:Nat):Int) ∣ c->b.sign*(Nat.gcd a.natAbs b.natAbs:Nat) ∣ c:=fun c hc=>by
  rcases sg with h|h<;>rw[h]
  ·rw[Int.one_mul];exact hc
  ·rw[Int.neg_one_mul];exact Int.neg_dvd.2 hc
 rw[<-h1,<-h2,Int.tdiv_eq_ediv_of_dvd (key a d1),Int.tdiv_eq_ediv_of_dvd (key b d2)];exact⟨rfl,rfl⟩
theorem Ch{v:Value}{k l:Nat}(hS:Old S w)(hx:fS w S v k x)(hy:fS w S u l y)(hk:k<=1000000)(hl:l<=1000000):
  di PG N.tv #[v,u] w (dw w fun v' w2=>dK w2 (Nf w w2) v' ((Nat.gcd x.natAbs y.natAbs:Nat):Int)):=by
 have hw:=bR w;replace hx:=hx.cI (S':=Cv S w.heap.size []) fun _ h=>.inl h;replace hy:=hy.cI (S':=Cv S w.heap.size []) fun _ h=>.inl h;obtain⟨b1,a1,n1,c1,rfl⟩:=hx.shape;obtain⟨b2,a2,n2,c2,rfl⟩:=hy.shape;refine xj (by simp) ?_;have Oj:=hx.ln;have Qa:=hy.ln;refine cK hτ dZ [.x 0,.x 2,.x 1,.x 3,.x 4,.x 5] (by kernel_rfl) (by kernel_rfl) ?_;refine cE hw (fun _ w' v w2=>dK w2 (Nf w' w2) v ((x.natAbs:Int))) (fun O w' r=>yR (Rel.old r hS) (hx.rel r hS) (by omega)) ?_;rintro O _ _ _ OM r he hw h_ hn;clear hx;replace hy:=hy.cF r hS he (mC h_);have ha:=hn.dA (S:=FF) r.cD (mN h_);clear r;obtain⟨A0,A1,A2,A3,rfl⟩:=ha.shape;refine cE hw (fun _ w' v w2=>dK w2 (Nf w' w2) v ((y.natAbs:Int))) (fun O w' r=>yR (Rel.old r hS) (hy.rel r hS) (by omega)) ?_;rintro O _ _ _ OJ r he hw h_ hn;clear hy;replace ha:=ha.cF r (cB w) he (mC h_);have hc:=hn.dA (S:=FF) r.cD (mN h_);clear r;obtain⟨C0,C1,C2,C3,rfl⟩:=hc.shape
 refine⟨Nat×Nat×(Bool×Option Addr×Nat×Nat)×(Bool×Option Addr×Nat×Nat)×World×Iv,fun z=>⟨[(2,pP 0 0),(3,pP 1 0),(4,pP 2 0)],[(2,.box T.Int [.v (.bool false),.v (.slice none 0 0)]),(1,.box T.Int [.v (.bool z.2.2.2.1.1),.v (.slice z.2.2.2.1.2.1 z.2.2.2.1.2.2.1 z.2.2.2.1.2.2.2)]),(0,.box T.Int [.v (.bool z.2.2.1.1),.v (.slice z.2.2.1.2.1 z.2.2.1.2.2.1 z.2.2.1.2.2.2)])],3,z.2.2.2.2.2,z.2.2.2.2.1⟩,fun z=>z.2.1,
  fun z=>Nat.gcd z.1 z.2.1=Nat.gcd x.natAbs y.natAbs∧ln z.1<=1000000∧ln z.2.1<=1000000∧dm w.heap.size w z.2.2.2.2.1∧dK z.2.2.2.2.1 (Cf w z.2.2.2.2.2) (.agg #[.bool z.2.2.1.1,.slice z.2.2.1.2.1 z.2.2.1.2.2.1 z.2.2.1.2.2.2]) (z.1:Int)∧dK z.2.2.2.2.1 (Cf w z.2.2.2.2.2) (.agg #[.bool z.2.2.2.1.1,.slice z.2.2.2.1.2.1 z.2.2.2.1.2.2.1 z.2.2.2.1.2.2.2]) (z.2.1:Int),?_,?_⟩
 ·intro O w' r
  exact⟨(x.natAbs,y.natAbs,(A0,A1,A2,A3),(C0,C1,C2,C3),w',OJ),⟨rfl,by dsimp only;omega,by dsimp only;omega,hw.tr r.cP,ha.rel r (cB w),hc.rel r (cB w)⟩,
   Sub.gn [] r⟩
 clear hw ha hc;rintro⟨a,b,⟨ba,aa,na,ca⟩,⟨bb,ab,nb,cb⟩,w1,iv⟩ ⟨hg,Pc,Oc,hw,ha,hc⟩;dsimp only at hg Pc Oc hw ha hc ⊢;refine cC (cE hw (fun _ w' v w2=>v= .int .i64 (b:Int).sign) (fun O w' r=>gY (Rel.old r (cB w)) (hc.rel r (cB w)).r) ?_);rintro O _ _ _ OP r he hw h_ rfl;replace ha:=ha.cF r (cB w) he (mC h_);replace hc:=hc.cF r (cB w) he (mC h_);clear r;have sb:=gD (b:Int);refine dM.mk ?_ ?_<;>intro h
 ·have h:=aI h;have UK:0<b:=by omega
  have hm:=bs a UK;have PR:ln (a % b)<=1000000:=aZ (fI (by omega)) Oc;refine cC (cE hw (fun _ w' v w2=>∃q r,v= .tuple #[q,r,.int .i64 0]∧dK w2 (Nf w' w2) q ((a:Int) / b)∧dK w2 (Nf w' w2) r ((a:Int) % b)) (fun O w' r=>jG (Rel.old r (cB w)) ((ha.rel r (cB w)).l (k:=1000000) Pc) ((hc.rel r (cB w)).l (k:=1000000) Oc) (by omega) (by omega) (by omega)) ?_);rintro O _ _ _ OR r he hw h_ ⟨q,rr,rfl,k1,k2⟩;clear ha;replace hc:=hc.cF r (cB w) he (mC h_);have hq:=k1.dA (S:=FF) r.cD (mN h_);have hr:=k2.dA (S:=FF) r.cD (mN h_);clear r;obtain⟨s4_0a,s4_0b,s4_0c,s4_0d,rfl⟩:=hq.shape;obtain⟨s4_1a,s4_1b,s4_1c,s4_1d,rfl⟩:=hr.shape;clear k1 k2 hq;refine iY hτ dZ (.two 0 (.two 1 (.one 2 (.one 3 .nil)) 2 (.one 1 (.one 3 .nil))) 1 (.one 0 (.one 2 (.one 3 .nil)))) (by kernel_rfl) ?_;refine⟨?_,?_⟩
  ·conv=>whnf
   refine⟨?_,?_⟩
   ·conv=>whnf
    intro ρ3 w3 r3;exact⟨(b,a % b,(bb,ab,nb,cb),(s4_1a,s4_1b,s4_1c,s4_1d),w3,_),⟨by dsimp only;rw[<-hg,Nat.gcd_comm a b,Nat.gcd_rec b a,Nat.gcd_comm],Oc,PR,hw.tr r3.cP,hc.rel r3 (cB w),hr.rel r3 (cB w)⟩,Sub.gn [] r3,hm⟩
   ·conv=>whnf
    intro ρ3 w3 r3;exact⟨(b,a % b,(bb,ab,nb,cb),(s4_1a,s4_1b,s4_1c,s4_1d),w3,_),⟨by dsimp only;rw[<-hg,Nat.gcd_comm a b,Nat.gcd_rec b a,Nat.gcd_comm],Oc,PR,hw.tr r3.cP,hc.rel r3 (cB w),hr.rel r3 (cB w)⟩,Sub.gn [] r3,hm⟩
  ·conv=>whnf
   intro ρ3 w3 r3;exact⟨(b,a % b,(bb,ab,nb,cb),(s4_1a,s4_1b,s4_1c,s4_1d),w3,_),⟨by dsimp only;rw[<-hg,Nat.gcd_comm a b,Nat.gcd_rec b a,Nat.gcd_comm],Oc,PR,hw.tr r3.cP,hc.rel r3 (cB w),hr.rel r3 (cB w)⟩,Sub.gn [] r3,hm⟩
 have h:=aH h;obtain rfl:b=0:=by omega
 rw[Nat.gcd_zero_right]at hg;subst hg;clear hc;exact rtn hw fun ρe we re=>ha.out re (cB w)
theorem kO{v:Value}{k l:Nat}(hS:Old S w)(hx:fS w S v k x)(hy:fS w S u l y)(hk:k<=1000000)(hl:l<=1000000)(Pp:y≠0):
  di PG N.sX #[v,u] w (dw w fun v' w2=>cU w2 (Nf w w2) v' (Rat.divInt x y)):=by
 have hw:=bR w;replace hx:=hx.cI (S':=Cv S w.heap.size []) fun _ h=>.inl h;replace hy:=hy.cI (S':=Cv S w.heap.size []) fun _ h=>.inl h;obtain⟨b1,a1,n1,c1,rfl⟩:=hx.shape;obtain⟨b2,a2,n2,c2,rfl⟩:=hy.shape;refine r9 (by simp) ?_;have Oj:=hx.ln;have Qa:=hy.ln;have hlg:=aAL x.natAbs (y:=y.natAbs) (by omega);obtain⟨hn,hd⟩:=H5 (a:=x) Pp;have sy:=gD y
 refine cC (cE hw (fun _ w' v w2=>∃n p,v= .tuple #[.int .i64 n,.bool p]∧(p=true->n=x∧x.natAbs<1073741824)) (fun O w' r=>(nk (Rel.old r hS) (hx.rel r hS).r).mono fun e w2 ⟨v2,e1,e2,e3⟩=>⟨v2,e1,e2,by
   rw[e3,jo];split
   ·exact⟨_,_,rfl,fun _=>⟨rfl,‹_›⟩⟩
   ·exact⟨_,_,rfl,fun h=>by cases h⟩⟩) ?_)
 rintro O _ _ _ OM r he hw h_ ⟨nx,px,rfl,qx⟩;replace hx:=hx.cF r hS he (mC h_);replace hy:=hy.cF r hS he (mC h_);clear r
 refine cC (cE hw (fun _ w' v w2=>∃n p,v= .tuple #[.int .i64 n,.bool p]∧(p=true->n=y∧y.natAbs<1073741824)) (fun O w' r=>(nk (Rel.old r hS) (hy.rel r hS).r).mono fun e w2 ⟨v2,e1,e2,e3⟩=>⟨v2,e1,e2,by
   rw[e3,jo];split
   ·exact⟨_,_,rfl,fun _=>⟨rfl,‹_›⟩⟩
   ·exact⟨_,_,rfl,fun h=>by cases h⟩⟩) ?_)
 rintro O _ _ _ OJ r he hw h_ ⟨ny,py,rfl,qy⟩;replace hx:=hx.cF r hS he (mC h_);replace hy:=hy.cF r hS he (mC h_);clear r;refine dM.mk ?_ ?_<;>intro h1
 ·obtain⟨e1,hxs⟩:=qx h1;replace e1:=e1.symm;subst e1;refine dM.mk ?_ ?_<;>intro h2
  ·obtain⟨e2,hys⟩:=qy h2;replace e2:=e2.symm;subst e2;clear hx hy;refine cC (cE hw (fun _ w' v w2=>cU w2 (Nf w' w2) v (Rat.divInt x y)) (fun O w' r=>rB x y w' (by omega) (by omega) Pp) ?_);rintro O PX v3 PU OP r he hw h_ hn;have hR:=hn.dA (S:=FF) r.cD (mN h_);clear r hn;obtain⟨A0,A1,A2,A3,A4,A5,A6,A7,rfl⟩:=hR.shape;exact rtn hw fun ρe we re=>hR.out re (cB w)
  refine cC (cE hw (fun _ w' v w2=>dK w2 (Nf w' w2) v (((Nat.gcd x.natAbs y.natAbs:Nat):Int))) (fun O w' r=>Ch (Rel.old r hS) (hx.rel r hS) (hy.rel r hS) hk hl) ?_);rintro O PX v3 PU OP r he hw h_ hn;replace hx:=hx.cF r hS he (mC h_);replace hy:=hy.cF r hS he (mC h_);have hg:=hn.dA (S:=FF) r.cD (mN h_);clear r hn;obtain⟨A0,A1,A2,A3,rfl⟩:=hg.shape;refine cC (cE hw (fun _ w' v w2=>v= .int .i64 y.sign) (fun O w' r=>gY (Rel.old r hS) (hy.rel r hS).r) ?_);rintro O QB v4 Pw OR r he hw h_ rfl;replace hx:=hx.cF r hS he (mC h_);replace hy:=hy.cF r hS he (mC h_);replace hg:=hg.cF r (cB w) he (mC h_);clear r;have hgp:0<Nat.gcd x.natAbs y.natAbs:=bj _ (by omega);generalize Nat.gcd x.natAbs y.natAbs=g at*
  refine dM.mk ?_ ?_<;>intro hs
  ·have hs:=aI hs;rw[show y.sign= -1 by omega,Int.neg_one_mul]at hn hd;refine cC (cE hw (fun _ w' v w2=>dK w2 (Nf w' w2) v (-(g:Int))) (fun O w' r=>mG (Rel.old r (cB w)) ((hg.rel r (cB w)).l (k:=1000000) (by rw[Int.natAbs_natCast];omega)) (by omega)) ?_);rintro O RL v5 RI Ou r he hw h_ hn;replace hx:=hx.cF r hS he (mC h_);replace hy:=hy.cF r hS he (mC h_);clear hg;have Re:=hn.dA (S:=FF) r.cD (mN h_);clear r hn;obtain⟨C0,C1,C2,C3,rfl⟩:=Re.shape;refine cC (cE hw (fun _ w' v w2=>∃q r,v= .tuple #[q,r,.int .i64 0]∧dK w2 (Nf w' w2) q (Rat.divInt x y).num∧dK w2 (Nf w' w2) r (x % (-(g:Int)))) (fun O w' r=>hn▸jG (Rel.old r hS) (hx.rel r hS) ((((Re.rel r (cB w)).l (k:=1000000) (by rw[bz,Int.natAbs_natCast];omega))).cI fun g hg=>Cv.false hg) hk (by omega) (by omega)) ?_);rintro O Qx v6 RA Q7 r he hw h_ ⟨q,rr,rfl,k1,k2⟩;clear hx;replace hy:=hy.cF r hS he (mC h_);replace Re:=Re.cF r (cB w) he (mC h_);have hq:=k1.dA (S:=FF) r.cD (mN h_);have hr:=k2.dA (S:=FF) r.cD (mN h_);clear r;obtain⟨s6_0a,s6_0b,s6_0c,s6_0d,rfl⟩:=hq.shape;obtain⟨s6_1a,s6_1b,s6_1c,s6_1d,rfl⟩:=hr.shape;clear k1 k2 hr;refine cC (cE hw (fun _ w' v w2=>∃q r,v= .tuple #[q,r,.int .i64 0]∧dK w2 (Nf w' w2) q ((Rat.divInt x y).den:Int)∧dK w2 (Nf w' w2) r (y % (-(g:Int)))) (fun O w' r=>hd▸jG (Rel.old r hS) (hy.rel r hS) ((((Re.rel r (cB w)).l (k:=1000000) (by rw[bz,Int.natAbs_natCast];omega))).cI fun g hg=>Cv.false hg) hl (by omega) (by omega)) ?_);rintro O Vl v7 Vm R4 r he hw h_ ⟨q,rr,rfl,k1,k2⟩;clear hy;clear Re;replace hq:=hq.cF r (cB w) he (mC h_);have QL:=k1.dA (S:=FF) r.cD (mN h_);have hr:=k2.dA (S:=FF) r.cD (mN h_);clear r;obtain⟨s7_0a,s7_0b,s7_0c,s7_0d,rfl⟩:=QL.shape;obtain⟨s7_1a,s7_1b,s7_1c,s7_1d,rfl⟩:=hr.shape;clear k1 k2 hr;exact rtn hw fun ρe we re=>(cU.of hq QL).out re (cB w)
  have hs:=aH hs;rw[show y.sign=1 by omega,Int.one_mul]at hn hd;refine cC (cE hw (fun _ w' v w2=>∃q r,v= .tuple #[q,r,.int .i64 0]∧dK w2 (Nf w' w2) q (Rat.divInt x y).num∧dK w2 (Nf w' w2) r (x % ((g:Int)))) (fun O w' r=>hn▸jG (Rel.old r hS) (hx.rel r hS) ((((hg.rel r (cB w)).l (k:=1000000) (by rw[Int.natAbs_natCast];omega))).cI fun g hg=>Cv.false hg) hk (by omega) (by omega)) ?_);rintro O RL v5 RI Ou r he hw h_ ⟨q,rr,rfl,k1,k2⟩;clear hx;replace hy:=hy.cF r hS he (mC h_);replace hg:=hg.cF r (cB w) he (mC h_);have hq:=k1.dA (S:=FF) r.cD (mN h_);have hr:=k2.dA (S:=FF) r.cD (mN h_);clear r;obtain⟨s5_0a,s5_0b,s5_0c,s5_0d,rfl⟩:=hq.shape;obtain⟨s5_1a,s5_1b,s5_1c,s5_1d,rfl⟩:=hr.shape;clear k1 k2 hr;refine cC (cE hw (fun _ w' v w2=>∃q r,v= .tuple #[q,r,.int .i64 0]∧dK w2 (Nf w' w2) q ((Rat.divInt x y).den:Int)∧dK w2 (Nf w' w2) r (y % ((g:Int)))) (fun O w' r=>hd▸jG (Rel.old r hS) (hy.rel r hS) ((((hg.rel r (cB w)).l (k:=1000000) (by rw[Int.natAbs_natCast];omega))).cI fun g hg=>Cv.false hg) hl (by omega) (by omega)) ?_);rintro O Qx v6 RA Q7 r he hw h_ ⟨q,rr,rfl,k1,k2⟩;clear hy;clear hg;replace hq:=hq.cF r (cB w) he (mC h_);have QL:=k1.dA (S:=FF) r.cD (mN h_);have hr:=k2.dA (S:=FF) r.cD (mN h_);clear r;obtain⟨s6_0a,s6_0b,s6_0c,s6_0d,rfl⟩:=QL.shape;obtain⟨s6_1a,s6_1b,s6_1c,s6_1d,rfl⟩:=hr.shape;clear k1 k2 hr;exact rtn hw fun ρe we re=>(cU.of hq QL).out re (cB w)
 refine cC (cE hw (fun _ w' v w2=>dK w2 (Nf w' w2) v (((Nat.gcd x.natAbs y.natAbs:Nat):Int))) (fun O w' r=>Ch (Rel.old r hS) (hx.rel r hS) (hy.rel r hS) hk hl) ?_);rintro O _ _ _ OP r he hw h_ hn;replace hx:=hx.cF r hS he (mC h_);replace hy:=hy.cF r hS he (mC h_);have hg:=hn.dA (S:=FF) r.cD (mN h_);clear r hn;obtain⟨A0,A1,A2,A3,rfl⟩:=hg.shape;refine cC (cE hw (fun _ w' v w2=>v= .int .i64 y.sign) (fun O w' r=>gY (Rel.old r hS) (hy.rel r hS).r) ?_);rintro O _ _ _ OR r he hw h_ rfl;replace hx:=hx.cF r hS he (mC h_);replace hy:=hy.cF r hS he (mC h_);replace hg:=hg.cF r (cB w) he (mC h_);clear r;have hgp:0<Nat.gcd x.natAbs y.natAbs:=bj _ (by omega);generalize Nat.gcd x.natAbs y.natAbs=g at*
 refine dM.mk ?_ ?_<;>intro hs
 ·have hs:=aI hs;rw[show y.sign= -1 by omega,Int.neg_one_mul]at hn hd;refine cC (cE hw (fun _ w' v w2=>dK w2 (Nf w' w2) v (-(g:Int))) (fun O w' r=>mG (Rel.old r (cB w)) ((hg.rel r (cB w)).l (k:=1000000) (by rw[Int.natAbs_natCast];omega)) (by omega)) ?_);rintro O RL v5 RI Ou r he hw h_ hn;replace hx:=hx.cF r hS he (mC h_);replace hy:=hy.cF r hS he (mC h_);clear hg;have Re:=hn.dA (S:=FF) r.cD (mN h_);clear r hn;obtain⟨C0,C1,C2,C3,rfl⟩:=Re.shape;refine cC (cE hw (fun _ w' v w2=>∃q r,v= .tuple #[q,r,.int .i64 0]∧dK w2 (Nf w' w2) q (Rat.divInt x y).num∧dK w2 (Nf w' w2) r (x % (-(g:Int)))) (fun O w' r=>hn▸jG (Rel.old r hS) (hx.rel r hS) ((((Re.rel r (cB w)).l (k:=1000000) (by rw[bz,Int.natAbs_natCast];omega))).cI fun g hg=>Cv.false hg) hk (by omega) (by omega)) ?_);rintro O Qx v6 RA Q7 r he hw h_ ⟨q,rr,rfl,k1,k2⟩;clear hx;replace hy:=hy.cF r hS he (mC h_);replace Re:=Re.cF r (cB w) he (mC h_);have hq:=k1.dA (S:=FF) r.cD (mN h_);have hr:=k2.dA (S:=FF) r.cD (mN h_);clear r;obtain⟨s6_0a,s6_0b,s6_0c,s6_0d,rfl⟩:=hq.shape;obtain⟨s6_1a,s6_1b,s6_1c,s6_1d,rfl⟩:=hr.shape;clear k1 k2 hr;refine cC (cE hw (fun _ w' v w2=>∃q r,v= .tuple #[q,r,.int .i64 0]∧dK w2 (Nf w' w2) q ((Rat.divInt x y).den:Int)∧dK w2 (Nf w' w2) r (y % (-(g:Int)))) (fun O w' r=>hd▸jG (Rel.old r hS) (hy.rel r hS) ((((Re.rel r (cB w)).l (k:=1000000) (by rw[bz,Int.natAbs_natCast];omega))).cI fun g hg=>Cv.false hg) hl (by omega) (by omega)) ?_);rintro O _ _ _ R4 r he hw h_ ⟨q,rr,rfl,k1,k2⟩;clear hy;clear Re;replace hq:=hq.cF r (cB w) he (mC h_);have QL:=k1.dA (S:=FF) r.cD (mN h_);have hr:=k2.dA (S:=FF) r.cD (mN h_);clear r;obtain⟨s7_0a,s7_0b,s7_0c,s7_0d,rfl⟩:=QL.shape;obtain⟨s7_1a,s7_1b,s7_1c,s7_1d,rfl⟩:=hr.shape;clear k1 k2 hr;exact rtn hw fun ρe we re=>(cU.of hq QL).out re (cB w)
 have hs:=aH hs;rw[show y.sign=1 by omega,Int.one_mul]at hn hd;refine cC (cE hw (fun _ w' v w2=>∃q r,v= .tuple #[q,r,.int .i64 0]∧dK w2 (Nf w' w2) q (Rat.divInt x y).num∧dK w2 (Nf w' w2) r (x % ((g:Int)))) (fun O w' r=>hn▸jG (Rel.old r hS) (hx.rel r hS) ((((hg.rel r (cB w)).l (k:=1000000) (by rw[Int.natAbs_natCast];omega))).cI fun g hg=>Cv.false hg) hk (by omega) (by omega)) ?_);rintro O _ _ _ Ou r he hw h_ ⟨q,rr,rfl,k1,k2⟩;clear hx;replace hy:=hy.cF r hS he (mC h_);replace hg:=hg.cF r (cB w) he (mC h_);have hq:=k1.dA (S:=FF) r.cD (mN h_);have hr:=k2.dA (S:=FF) r.cD (mN h_);clear r;obtain⟨s5_0a,s5_0b,s5_0c,s5_0d,rfl⟩:=hq.shape;obtain⟨s5_1a,s5_1b,s5_1c,s5_1d,rfl⟩:=hr.shape;clear k1 k2 hr;refine cC (cE hw (fun _ w' v w2=>∃q r,v= .tuple #[q,r,.int .i64 0]∧dK w2 (Nf w' w2) q ((Rat.divInt x y).den:Int)∧dK w2 (Nf w' w2) r (y % ((g:Int)))) (fun O w' r=>hd▸jG (Rel.old r hS) (hy.rel r hS) ((((hg.rel r (cB w)).l (k:=1000000) (by rw[Int.natAbs_natCast];omega))).cI fun g hg=>Cv.false hg) hl (by omega) (by omega)) ?_);rintro O _ _ _ Q7 r he hw h_ ⟨q,rr,rfl,k1,k2⟩;clear hy;clear hg;replace hq:=hq.cF r (cB w) he (mC h_);have QL:=k1.dA (S:=FF) r.cD (mN h_);have hr:=k2.dA (S:=FF) r.cD (mN h_);clear r;obtain⟨s6_0a,s6_0b,s6_0c,s6_0d,rfl⟩:=QL.shape;obtain⟨s6_1a,s6_1b,s6_1c,s6_1d,rfl⟩:=hr.shape;clear k1 k2 hr;exact rtn hw fun ρe we re=>(cU.of hq QL).out re (cB w)
def eM(w:World)(S:Nat->Prop)(v:Value)(q:Rat):Prop:=∃b1 l1 b2 l2 a b,v= .agg #[.bool b1,l1,.bool b2,l2]∧fS w S (.agg #[.bool b1,l1]) 100000 a∧fS w S (.agg #[.bool b2,l2]) 100000 b∧ratio a b=q
theorem eM.cH{w2:World}{v:Value}(h:eM w S v q)(hk:∀g,S g->w2.heap[g]? =w.heap[g]?):eM w2 S v q:=by
 obtain⟨b1,l1,b2,l2,a,b,h1,h2,h3,h4⟩:=h;exact⟨b1,l1,b2,l2,a,b,h1,h2.cH hk,h3.cH hk,h4⟩
theorem eM.cI{S':Nat->Prop}{v:Value}(h:eM w S v q)(hk:∀g,S g->S' g):eM w S' v q:=by
 obtain⟨b1,l1,b2,l2,a,b,h1,h2,h3,h4⟩:=h;exact⟨b1,l1,b2,l2,a,b,h1,h2.cI hk,h3.cI hk,h4⟩
theorem eM.r{v:Value}(h:eM w S v q):∃a b,iO w S v a b∧ratio a b=q:=by
 obtain⟨b1,l1,b2,l2,a,b,rfl,h2,h3,h4⟩:=h;exact⟨a,b,⟨b1,l1,b2,l2,rfl,h2.r,h3.r⟩,h4⟩
theorem eM.v{v:Value}(h:eM w S v q):qY w S v q:=by
 obtain⟨b1,l1,b2,l2,a,b,rfl,h2,h3,h4⟩:=h;exact⟨a,b,⟨b1,l1,b2,l2,rfl,h2.r,h3.r⟩,h4,h2.ln,h3.ln⟩
theorem eM.shape{v:Value}(h:eM w S v q):∃b a n c b2 a2 n2 c2,v= .agg #[.bool b,.slice a n c,.bool b2,.slice a2 n2 c2]:=h.v.shape
theorem eM.rl{v:Value}(h:eM w S v q):rl q<=100000:=by
 obtain⟨b1,l1,b2,l2,a,b,rfl,h2,h3,rfl⟩:=h;have:=iI a b;have:=h2.ln;have:=h3.ln;omega
theorem cU.l{v:Value}(h:cU w S v q)(hl:rl q<=100000):eM w S v q:=by
 obtain⟨b1,l1,b2,l2,h1,h2,h3⟩:=h;exact⟨b1,l1,b2,l2,_,_,h1,h2.l (aZ (fb q) hl),h3.l (aZ (ew q) hl),om q⟩
theorem Lo(a b:Int):rs (ratio a b)=if b.sign<0 then -a.sign else a.sign:=by
 have sb:=gD b;rw[ratio];split
 ·rw[aL (by omega),rs,td (by decide)]
 ·split
  ·rw[show Rat.divInt a b=Rat.divInt (-a) (-b)from(Rat.neg_divInt_neg a b).symm,rs,td (by omega),Int.sign_neg]
  ·rw[rs,td (by omega)]
theorem jb{a c:Int}:(a.natAbs<1073741824)->(c.natAbs<1073741824)->(a*c).natAbs<=1152921502459363329:=fun h1 h2=>by
 rw[Int.natAbs_mul];exact Nat.mul_le_mul (show a.natAbs<=1073741823 by omega) (show c.natAbs<=1073741823 by omega)
section
variable{S S':Nat->Prop}{H:Hp}{nx:Nat}{iv iv':Iv}{B:Nat}{w w' w2:World}{O:Nat->Sx.dg}{v:Value}{q:Rat}
theorem eM.rel(h:eM w (Cv S B iv) v q)(r:Rel H nx iv B w O w')(hS:∀g,S g->g<B):eM w' (Cv S B iv) v q:=h.cH fun _ hg=>Rel.same r hS hg
theorem eM.cF(h:eM w (Cv S B iv) v q)(r:Rel H nx iv B w O w')(hS:∀g,S g->g<B)(he:Ext w' w2)(hm:∀p,p∈iv->p∈iv'):eM w2 (Cv S B iv') v q:=
 ((h.rel r hS).cH fun g hg=>he.block g (Rel.old r hS g hg)).cI fun _ hg=>hg.mono hm
theorem eM.arg(h:eM w S v q)(iv:Iv):eM w (Cv S w.heap.size iv) v q:=h.cI fun _ h=>.inl h
end
theorem so{v:Value}{a b:Int}(hS:Old S w)(hp:iO w S v a b):
  di PG N.ji #[v] w (dw w fun v' _=>v'= .int .i64 (rs (ratio a b))):=by
 have hw:=bR w;obtain⟨b1,l1,b2,l2,rfl,ha,QK⟩:=hp;obtain⟨_,a1,n1,c1,e1⟩:=ha.shape;obtain⟨_,a2,n2,c2,e2⟩:=QK.shape;simp only[Value.agg.injEq,Array.mk.injEq,List.cons.injEq,and_true]at e1 e2;obtain⟨_,rfl⟩:=e1;obtain⟨_,rfl⟩:=e2;replace ha:=ha.cI (S':=Cv S w.heap.size []) fun _ h=>.inl h;replace QK:=QK.cI (S':=Cv S w.heap.size []) fun _ h=>.inl h;have hr:=Lo a b;have sa:=gD a;refine xZ (by simp) ?_;refine cC (cE hw (fun _ w' v w2=>v= .int .i64 b.sign) (fun O w' r=>gY (Rel.old r hS) (QK.rel r hS)) ?_);rintro O _ _ _ OM r he hw h_ rfl;replace ha:=ha.cF r hS he (mC h_);refine dM.mk ?_ ?_<;>intro h
 ·have h:=aI h;rw[if_pos h]at hr;refine cC (cE hw (fun _ w' v w2=>v= .int .i64 a.sign) (fun O w' r=>gY (Rel.old r hS) (ha.rel r hS)) ?_);rintro O Pr v2 PB OJ r he hw h_ rfl;refine⟨-a.sign,wo,?_⟩;exact rtn hw fun ρe we re=>by rw[hr];rfl
 have h:=aH h;rw[aL h]at hr;refine cC (cE hw (fun _ w' v w2=>v= .int .i64 a.sign) (fun O w' r=>gY (Rel.old r hS) (ha.rel r hS)) ?_);rintro O _ _ _ OJ r he hw h_ rfl;exact rtn hw fun ρe we re=>by rw[hr];rfl
theorem Ci{v:Value}(hS:Old S w)(hp:cU w S v p):di PG N.ji #[v] w (dw w fun v' _=>v'= .int .i64 (rs p)):=by
 have:=so hS hp.r;rw[om]at this;exact this
theorem og{v:Value}(hS:Old S w)(hp:eM w S v p):di PG N.ji #[v] w (dw w fun v' _=>v'= .int .i64 (rs p)):=by
 obtain⟨a,b,h1,rfl⟩:=hp.r;exact so hS h1
theorem gB{v:Value}(hS:Old S w)(hp:eM w S v p):
  di PG N.tp #[v] w (dw w fun v' w2=>cU w2 (Nf w w2) v' p):=by
 have hw:=bR w;obtain⟨b1,l1,b2,l2,a,b,rfl,ha,QK,rfl⟩:=hp;obtain⟨_,a1,n1,c1,e1⟩:=ha.shape;obtain⟨_,a2,n2,c2,e2⟩:=QK.shape;simp only[Value.agg.injEq,Array.mk.injEq,List.cons.injEq,and_true]at e1 e2;obtain⟨_,rfl⟩:=e1;obtain⟨_,rfl⟩:=e2;replace ha:=ha.cI (S':=Cv S w.heap.size []) fun _ h=>.inl h;replace QK:=QK.cI (S':=Cv S w.heap.size []) fun _ h=>.inl h;have sb:=gD b;refine xe (by simp) ?_;refine cC (cM (Φ:=fun _ w' v w2=>v= .int .i64 b.sign) (fun O w' r=>gY (Rel.old r hS) (QK.rel r hS).r) ?_);rintro O Pq v1 Pe r he hb rfl;replace hw:=hw.tr hb;replace ha:=ha.cF (iv':=(Pq.heap.size,Pe.heap.size)::[]) r hS he fun x hx=>List.mem_cons_of_mem _ hx;replace QK:=QK.cF (iv':=(Pq.heap.size,Pe.heap.size)::[]) r hS he fun x hx=>List.mem_cons_of_mem _ hx;generalize (Pq.heap.size,Pe.heap.size)::[]=OM at*
 refine dM.mk ?_ ?_<;>intro h
 ·have h:b.sign=0:=by simpa using h
  obtain rfl:b=0:=by omega
  rw[show ratio a 0=Rat.divInt a 1 from if_pos rfl];refine cK hτ dZ [.x 0,.x 1,.x 2,.x 3,.x 4] (by kernel_rfl) (by kernel_rfl) ?_;refine cM (Φ:=fun _ w' v w2=>dK w2 (Nf w' w2) v (1)) (fun O w' r=>ku _ w' (by decide) (by decide)) ?_;rintro O Pr v2 PB r he hb hn;replace hw:=hw.tr hb;replace ha:=ha.cF (iv':=(Pr.heap.size,PB.heap.size)::OM) r hS he fun x hx=>List.mem_cons_of_mem _ hx;replace QK:=QK.cF (iv':=(Pr.heap.size,PB.heap.size)::OM) r hS he fun x hx=>List.mem_cons_of_mem _ hx;have h1:=hn.dA (S:=FF) r.cD (iv:=(Pr.heap.size,PB.heap.size)::OM) aG;generalize (Pr.heap.size,PB.heap.size)::OM=OJ at*
  obtain⟨A0,A1,A2,A3,rfl⟩:=h1.shape;refine cM (Φ:=fun _ w' v w2=>cU w2 (Nf w' w2) v (Rat.divInt a 1)) (fun O w' r=>kO (Rel.old r hS) (ha.rel r hS) (((h1.rel r (cB w)).l (k:=1) (by decide)).cI fun g hg=>Cv.false hg) (by omega) (by omega) (by decide)) ?_;rintro O PX v3 PU r he hb hn;replace hw:=hw.tr hb;replace ha:=ha.cF (iv':=(PX.heap.size,PU.heap.size)::OJ) r hS he fun x hx=>List.mem_cons_of_mem _ hx;replace QK:=QK.cF (iv':=(PX.heap.size,PU.heap.size)::OJ) r hS he fun x hx=>List.mem_cons_of_mem _ hx;replace h1:=h1.cF (iv':=(PX.heap.size,PU.heap.size)::OJ) r (cB w) he fun x hx=>List.mem_cons_of_mem _ hx;have hR:=hn.dA (S:=FF) r.cD (iv:=(PX.heap.size,PU.heap.size)::OJ) aG;generalize (PX.heap.size,PU.heap.size)::OJ=OP at*
  obtain⟨C0,C1,C2,C3,C4,C5,C6,C7,rfl⟩:=hR.shape;exact rtn hw fun ρe we re=>hR.out re (cB w)
 have h:b.sign≠0:=by simpa using h
 have UK:b≠0:=by omega
 rw[show ratio a b=Rat.divInt a b from aL UK];refine cC (cM (Φ:=fun _ w' v w2=>cU w2 (Nf w' w2) v (Rat.divInt a b)) (fun O w' r=>kO (Rel.old r hS) (ha.rel r hS) (QK.rel r hS) (by omega) (by omega) UK) ?_);rintro O Pr v2 PB r he hb hn;replace hw:=hw.tr hb;replace ha:=ha.cF (iv':=(Pr.heap.size,PB.heap.size)::OM) r hS he fun x hx=>List.mem_cons_of_mem _ hx;replace QK:=QK.cF (iv':=(Pr.heap.size,PB.heap.size)::OM) r hS he fun x hx=>List.mem_cons_of_mem _ hx;have hR:=hn.dA (S:=FF) r.cD (iv:=(Pr.heap.size,PB.heap.size)::OM) aG;generalize (Pr.heap.size,PB.heap.size)::OM=OJ at*
 obtain⟨A0,A1,A2,A3,A4,A5,A6,A7,rfl⟩:=hR.shape;exact rtn hw fun ρe we re=>hR.out re (cB w)
theorem yS{v:Value}(hS:Old S w)(hp:eM w S v p):
  di PG N.xA #[v] w (dw w fun v' _=>∃n d ok,v'= .tuple #[.int .i64 n,.int .i64 d,.bool ok]∧(ok=true->d≠0∧n.natAbs<1073741824∧d.natAbs<1073741824∧Rat.divInt n d=p)):=by
 have hw:=bR w;obtain⟨b1,l1,b2,l2,a,b,rfl,ha,QK,rfl⟩:=hp;obtain⟨_,a1,n1,c1,e1⟩:=ha.shape;obtain⟨_,a2,n2,c2,e2⟩:=QK.shape;simp only[Value.agg.injEq,Array.mk.injEq,List.cons.injEq,and_true]at e1 e2;obtain⟨_,rfl⟩:=e1;obtain⟨_,rfl⟩:=e2;replace ha:=ha.cI (S':=Cv S w.heap.size []) fun _ h=>.inl h;replace QK:=QK.cI (S':=Cv S w.heap.size []) fun _ h=>.inl h;refine AD (by simp) ?_
 refine cC (cM (Φ:=fun _ w' v w2=>∃n p,v= .tuple #[.int .i64 n,.bool p]∧(p=true->n=a∧a.natAbs<1073741824)) (fun O w' r=>(nk (Rel.old r hS) (ha.rel r hS).r).mono fun e w2 ⟨v2,e1,e2,e3⟩=>⟨v2,e1,e2,by
   rw[e3,jo];split
   ·exact⟨_,_,rfl,fun _=>⟨rfl,‹_›⟩⟩
   ·exact⟨_,_,rfl,fun h=>by cases h⟩⟩) ?_)
 rintro O Pq v1 Pe r he hb ⟨na,pa,rfl,qa⟩;replace hw:=hw.tr hb;replace ha:=ha.cF (iv':=(Pq.heap.size,Pe.heap.size)::[]) r hS he fun x hx=>List.mem_cons_of_mem _ hx;replace QK:=QK.cF (iv':=(Pq.heap.size,Pe.heap.size)::[]) r hS he fun x hx=>List.mem_cons_of_mem _ hx;generalize (Pq.heap.size,Pe.heap.size)::[]=OM at*
 refine cC (cM (Φ:=fun _ w' v w2=>∃n p,v= .tuple #[.int .i64 n,.bool p]∧(p=true->n=b∧b.natAbs<1073741824)) (fun O w' r=>(nk (Rel.old r hS) (QK.rel r hS).r).mono fun e w2 ⟨v2,e1,e2,e3⟩=>⟨v2,e1,e2,by
   rw[e3,jo];split
   ·exact⟨_,_,rfl,fun _=>⟨rfl,‹_›⟩⟩
   ·exact⟨_,_,rfl,fun h=>by cases h⟩⟩) ?_)
 rintro O Pr v2 PB r he hb ⟨nb,pb,rfl,qb⟩;replace hw:=hw.tr hb;replace ha:=ha.cF (iv':=(Pr.heap.size,PB.heap.size)::OM) r hS he fun x hx=>List.mem_cons_of_mem _ hx;replace QK:=QK.cF (iv':=(Pr.heap.size,PB.heap.size)::OM) r hS he fun x hx=>List.mem_cons_of_mem _ hx;generalize (Pr.heap.size,PB.heap.size)::OM=OJ at*
 refine dM.mk ?_ ?_<;>intro h
 ·have h:nb=0:=by simpa using h
  refine dM.mk ?_ ?_<;>intro h1
  ·intro ρe we re
   exact⟨_,rfl,hw.tr re.cP,⟨na,1,pb,rfl,fun h2=>by
     obtain⟨rfl,hx⟩:=qa h1;obtain⟨rfl,hy⟩:=qb h2;rw[h]
     exact⟨by decide,hx,by decide,(if_pos rfl).symm⟩⟩⟩
  exact rtn hw fun ρe we re=>⟨na,1,false,rfl,fun h2=>by cases h2⟩
 have h:nb≠0:=by simpa using h
 refine dM.mk ?_ ?_<;>intro h1
 ·intro ρe we re
  exact⟨_,rfl,hw.tr re.cP,⟨na,nb,pb,rfl,fun h2=>by
    obtain⟨rfl,hx⟩:=qa h1;obtain⟨rfl,hy⟩:=qb h2
    exact⟨h,hx,hy,(aL h).symm⟩⟩⟩
 exact rtn hw fun ρe we re=>⟨na,nb,false,rfl,fun h2=>by cases h2⟩
theorem Lp{v:Value}(hS:Old S w)(hp:eM w S v p)(hq:eM w S u q):
  di PG N.CB #[v,u] w (dw w fun v' w2=>cU w2 (Nf w w2) v' (p+q)):=by
 have hw:=bR w;replace hp:=hp.cI (S':=Cv S w.heap.size []) fun _ h=>.inl h;replace hq:=hq.cI (S':=Cv S w.heap.size []) fun _ h=>.inl h;obtain⟨b1,a1,n1,c1,b2,a2,n2,c2,rfl⟩:=hp.shape;obtain⟨b3,a3,n3,c3,b4,a4,n4,c4,rfl⟩:=hq.shape;refine DH (by simp) ?_;have r1:=hp.rl;have r2:=hq.rl;have u1:=fb p;have u2:=ew p;have u3:=fb q;have u4:=ew q;refine cC (cE hw (fun _ w' v w2=>∃n d ok,v= .tuple #[.int .i64 n,.int .i64 d,.bool ok]∧(ok=true->d≠0∧n.natAbs<1073741824∧d.natAbs<1073741824∧Rat.divInt n d=p)) (fun O w' r=>yS (Rel.old r hS) (hp.rel r hS)) ?_);rintro O _ _ _ OM r he hw h_ ⟨a,b,k1,rfl,g1⟩;replace hp:=hp.cF r hS he (mC h_);replace hq:=hq.cF r hS he (mC h_);refine cC (cE hw (fun _ w' v w2=>∃n d ok,v= .tuple #[.int .i64 n,.int .i64 d,.bool ok]∧(ok=true->d≠0∧n.natAbs<1073741824∧d.natAbs<1073741824∧Rat.divInt n d=q)) (fun O w' r=>yS (Rel.old r hS) (hq.rel r hS)) ?_);rintro O _ _ _ OJ r he hw h_ ⟨c,d,k2,rfl,g2⟩;replace hp:=hp.cF r hS he (mC h_);replace hq:=hq.cF r hS he (mC h_);refine dM.mk ?_ ?_<;>intro h1
 ·refine dM.mk ?_ ?_<;>intro h2
  ·obtain⟨g3,g4,g5,g6⟩:=g1 h1;obtain⟨g7,g8,g9,g10⟩:=g2 h2;have i1:=jb g4 g9;have i2:=jb g8 g5;have i3:=jb g5 g9;have i4:=jb g4 g8;refine⟨a*d,wo,c*b,wo,a*d+c*b,wo,b*d,wo,?_⟩;have e:=Rat.divInt_add_divInt a c g3 g7;rw[g6,g10]at e;refine cC (cE hw (fun _ w' v w2=>cU w2 (Nf w' w2) v (p+q)) (fun O w' r=>e▸rB (a*d+c*b) (b*d) w' (by omega) (by omega) (kB g3 g7)) ?_);rintro O PX v3 PU OP r he hw h_ hn;have hR:=hn.dA (S:=FF) r.cD (mN h_);obtain⟨A0,A1,A2,A3,A4,A5,A6,A7,rfl⟩:=hR.shape;exact rtn hw fun ρe we re=>hR.out re (cB w)
  refine cK hτ dZ [.x 0,.x 2,.x 1,.x 3,.x 4,.x 5] (by kernel_rfl) (by kernel_rfl) ?_;refine cE hw (fun _ w' v w2=>cU w2 (Nf w' w2) v (p)) (fun O w' r=>gB (Rel.old r hS) (hp.rel r hS)) ?_;rintro O PX v3 PU OP r he hw h_ hn;replace hq:=hq.cF r hS he (mC h_);have hX:=hn.dA (S:=FF) r.cD (mN h_);obtain⟨A0,A1,A2,A3,A4,A5,A6,A7,rfl⟩:=hX.shape;refine cE hw (fun _ w' v w2=>cU w2 (Nf w' w2) v (q)) (fun O w' r=>gB (Rel.old r hS) (hq.rel r hS)) ?_;rintro O QB v4 Pw OR r he hw h_ hn;replace hX:=hX.cF r (cB w) he (mC h_);have hY:=hn.dA (S:=FF) r.cD (mN h_);obtain⟨C0,C1,C2,C3,C4,C5,C6,C7,rfl⟩:=hY.shape;have QW:=hX.num;have Pt:=hX.den;have QX:=hY.num;have QY:=hY.den;have m0:=cZ p.num q.den;have m1:=cZ q.num p.den;have m2:=cZ (p.den:Int) q.den;have m3:=ij (p.num*q.den) (q.num*p.den);have m4:=cZ p.num q.num;refine cK hτ dZ [.x 0,.x 1,.x 2,.x 3,.x 5,.x 6,.x 7,.x 8,.x 11,.x 12,.x 13,.x 14,.x 4,.x 9,.x 10,.x 15,.x 16,.x 17] (by kernel_rfl) (by kernel_rfl) ?_;refine cE hw (fun _ w' v w2=>dK w2 (Nf w' w2) v (p.num*(q.den:Int))) (fun O w' r=>iG (Rel.old r (cB w)) ((QW.rel r (cB w)).l (k:=100000) (by omega)) ((QY.rel r (cB w)).l (k:=100000) (by omega)) (by omega) (by omega)) ?_;rintro O RL v5 RI Ou r he hw h_ hn;replace QW:=QW.cF r (cB w) he (mC h_);replace Pt:=Pt.cF r (cB w) he (mC h_);replace QX:=QX.cF r (cB w) he (mC h_);replace QY:=QY.cF r (cB w) he (mC h_);have hA:=hn.dA (S:=FF) r.cD (mN h_);obtain⟨E0,E1,E2,E3,rfl⟩:=hA.shape;refine cE hw (fun _ w' v w2=>dK w2 (Nf w' w2) v (q.num*(p.den:Int))) (fun O w' r=>iG (Rel.old r (cB w)) ((QX.rel r (cB w)).l (k:=100000) (by omega)) ((Pt.rel r (cB w)).l (k:=100000) (by omega)) (by omega) (by omega)) ?_;rintro O Qx v6 RA Q7 r he hw h_ hn;replace QW:=QW.cF r (cB w) he (mC h_);replace Pt:=Pt.cF r (cB w) he (mC h_);replace QX:=QX.cF r (cB w) he (mC h_);replace QY:=QY.cF r (cB w) he (mC h_);replace hA:=hA.cF r (cB w) he (mC h_);have hB:=hn.dA (S:=FF) r.cD (mN h_);obtain⟨F0,F1,F2,F3,rfl⟩:=hB.shape;refine cE hw (fun _ w' v w2=>dK w2 (Nf w' w2) v (p.num*(q.den:Int)+q.num*(p.den:Int))) (fun O w' r=>Aj (Rel.old r (cB w)) ((hA.rel r (cB w)).l (k:=200000) (by omega)) ((hB.rel r (cB w)).l (k:=200000) (by omega)) (by omega) (by omega)) ?_;rintro O Vl v7 Vm R4 r he hw h_ hn;replace QW:=QW.cF r (cB w) he (mC h_);replace Pt:=Pt.cF r (cB w) he (mC h_);replace QX:=QX.cF r (cB w) he (mC h_);replace QY:=QY.cF r (cB w) he (mC h_);have hN:=hn.dA (S:=FF) r.cD (mN h_);obtain⟨G0,G1,G2,G3,rfl⟩:=hN.shape;refine cE hw (fun _ w' v w2=>dK w2 (Nf w' w2) v ((p.den:Int)*(q.den:Int))) (fun O w' r=>iG (Rel.old r (cB w)) ((Pt.rel r (cB w)).l (k:=100000) (by omega)) ((QY.rel r (cB w)).l (k:=100000) (by omega)) (by omega) (by omega)) ?_;rintro O R7 v8 RN QZ r he hw h_ hn;replace QW:=QW.cF r (cB w) he (mC h_);replace Pt:=Pt.cF r (cB w) he (mC h_);replace QX:=QX.cF r (cB w) he (mC h_);replace QY:=QY.cF r (cB w) he (mC h_);replace hN:=hN.cF r (cB w) he (mC h_);have hD:=hn.dA (S:=FF) r.cD (mN h_);obtain⟨J0,J1,J2,J3,rfl⟩:=hD.shape;refine cE hw (fun _ w' v w2=>cU w2 (Nf w' w2) v (p+q)) (fun O w' r=>(tc p q)▸kO (Rel.old r (cB w)) ((hN.rel r (cB w)).l (k:=200001) (by omega)) ((hD.rel r (cB w)).l (k:=200001) (by omega)) (by omega) (by omega) (kB (gF p) (gF q))) ?_;rintro O Q1 v9 QU Qn r he hw h_ hn;have hR:=hn.dA (S:=FF) r.cD (mN h_);obtain⟨K0,K1,K2,K3,K4,K5,K6,K7,rfl⟩:=hR.shape;exact rtn hw fun ρe we re=>hR.out re (cB w)
 refine cK hτ dZ [.x 0,.x 2,.x 1,.x 3,.x 4,.x 5] (by kernel_rfl) (by kernel_rfl) ?_;refine cE hw (fun _ w' v w2=>cU w2 (Nf w' w2) v (p)) (fun O w' r=>gB (Rel.old r hS) (hp.rel r hS)) ?_;rintro O _ _ _ OP r he hw h_ hn;replace hq:=hq.cF r hS he (mC h_);have hX:=hn.dA (S:=FF) r.cD (mN h_);obtain⟨A0,A1,A2,A3,A4,A5,A6,A7,rfl⟩:=hX.shape;refine cE hw (fun _ w' v w2=>cU w2 (Nf w' w2) v (q)) (fun O w' r=>gB (Rel.old r hS) (hq.rel r hS)) ?_;rintro O _ _ _ OR r he hw h_ hn;replace hX:=hX.cF r (cB w) he (mC h_);have hY:=hn.dA (S:=FF) r.cD (mN h_);obtain⟨C0,C1,C2,C3,C4,C5,C6,C7,rfl⟩:=hY.shape;have QW:=hX.num;have Pt:=hX.den;have QX:=hY.num;have QY:=hY.den;have m0:=cZ p.num q.den;have m1:=cZ q.num p.den;have m2:=cZ (p.den:Int) q.den;have m3:=ij (p.num*q.den) (q.num*p.den);have m4:=cZ p.num q.num;refine cK hτ dZ [.x 0,.x 1,.x 2,.x 3,.x 5,.x 6,.x 7,.x 8,.x 11,.x 12,.x 13,.x 14,.x 4,.x 9,.x 10,.x 15,.x 16,.x 17] (by kernel_rfl) (by kernel_rfl) ?_;refine cE hw (fun _ w' v w2=>dK w2 (Nf w' w2) v (p.num*(q.den:Int))) (fun O w' r=>iG (Rel.old r (cB w)) ((QW.rel r (cB w)).l (k:=100000) (by omega)) ((QY.rel r (cB w)).l (k:=100000) (by omega)) (by omega) (by omega)) ?_;rintro O _ _ _ Ou r he hw h_ hn;replace QW:=QW.cF r (cB w) he (mC h_);replace Pt:=Pt.cF r (cB w) he (mC h_);replace QX:=QX.cF r (cB w) he (mC h_);replace QY:=QY.cF r (cB w) he (mC h_);have hA:=hn.dA (S:=FF) r.cD (mN h_);obtain⟨E0,E1,E2,E3,rfl⟩:=hA.shape;refine cE hw (fun _ w' v w2=>dK w2 (Nf w' w2) v (q.num*(p.den:Int))) (fun O w' r=>iG (Rel.old r (cB w)) ((QX.rel r (cB w)).l (k:=100000) (by omega)) ((Pt.rel r (cB w)).l (k:=100000) (by omega)) (by omega) (by omega)) ?_;rintro O _ _ _ Q7 r he hw h_ hn;replace QW:=QW.cF r (cB w) he (mC h_);replace Pt:=Pt.cF r (cB w) he (mC h_);replace QX:=QX.cF r (cB w) he (mC h_);replace QY:=QY.cF r (cB w) he (mC h_);replace hA:=hA.cF r (cB w) he (mC h_);have hB:=hn.dA (S:=FF) r.cD (mN h_);obtain⟨F0,F1,F2,F3,rfl⟩:=hB.shape;refine cE hw (fun _ w' v w2=>dK w2 (Nf w' w2) v (p.num*(q.den:Int)+q.num*(p.den:Int))) (fun O w' r=>Aj (Rel.old r (cB w)) ((hA.rel r (cB w)).l (k:=200000) (by omega)) ((hB.rel r (cB w)).l (k:=200000) (by omega)) (by omega) (by omega)) ?_;rintro O _ _ _ R4 r he hw h_ hn;replace QW:=QW.cF r (cB w) he (mC h_);replace Pt:=Pt.cF r (cB w) he (mC h_);replace QX:=QX.cF r (cB w) he (mC h_);replace QY:=QY.cF r (cB w) he (mC h_);have hN:=hn.dA (S:=FF) r.cD (mN h_);obtain⟨G0,G1,G2,G3,rfl⟩:=hN.shape;refine cE hw (fun _ w' v w2=>dK w2 (Nf w' w2) v ((p.den:Int)*(q.den:Int))) (fun O w' r=>iG (Rel.old r (cB w)) ((Pt.rel r (cB w)).l (k:=100000) (by omega)) ((QY.rel r (cB w)).l (k:=100000) (by omega)) (by omega) (by omega)) ?_;rintro O _ _ _ QZ r he hw h_ hn;replace QW:=QW.cF r (cB w) he (mC h_);replace Pt:=Pt.cF r (cB w) he (mC h_);replace QX:=QX.cF r (cB w) he (mC h_);replace QY:=QY.cF r (cB w) he (mC h_);replace hN:=hN.cF r (cB w) he (mC h_);have hD:=hn.dA (S:=FF) r.cD (mN h_);obtain⟨J0,J1,J2,J3,rfl⟩:=hD.shape;refine cE hw (fun _ w' v w2=>cU w2 (Nf w' w2) v (p+q)) (fun O w' r=>(tc p q)▸kO (Rel.old r (cB w)) ((hN.rel r (cB w)).l (k:=200001) (by omega)) ((hD.rel r (cB w)).l (k:=200001) (by omega)) (by omega) (by omega) (kB (gF p) (gF q))) ?_;rintro O _ _ _ Qn r he hw h_ hn;have hR:=hn.dA (S:=FF) r.cD (mN h_);obtain⟨K0,K1,K2,K3,K4,K5,K6,K7,rfl⟩:=hR.shape;exact rtn hw fun ρe we re=>hR.out re (cB w)
theorem HV{v:Value}(hS:Old S w)(hp:eM w S v p)(hq:eM w S u q):
  di PG N.CC #[v,u] w (dw w fun v' w2=>cU w2 (Nf w w2) v' (p*q)):=by
 have hw:=bR w;replace hp:=hp.cI (S':=Cv S w.heap.size []) fun _ h=>.inl h;replace hq:=hq.cI (S':=Cv S w.heap.size []) fun _ h=>.inl h;obtain⟨b1,a1,n1,c1,b2,a2,n2,c2,rfl⟩:=hp.shape;obtain⟨b3,a3,n3,c3,b4,a4,n4,c4,rfl⟩:=hq.shape;refine DI (by simp) ?_;have r1:=hp.rl;have r2:=hq.rl;have u1:=fb p;have u2:=ew p;have u3:=fb q;have u4:=ew q;refine cC (cE hw (fun _ w' v w2=>∃n d ok,v= .tuple #[.int .i64 n,.int .i64 d,.bool ok]∧(ok=true->d≠0∧n.natAbs<1073741824∧d.natAbs<1073741824∧Rat.divInt n d=p)) (fun O w' r=>yS (Rel.old r hS) (hp.rel r hS)) ?_);rintro O _ _ _ OM r he hw h_ ⟨a,b,k1,rfl,g1⟩;replace hp:=hp.cF r hS he (mC h_);replace hq:=hq.cF r hS he (mC h_);refine cC (cE hw (fun _ w' v w2=>∃n d ok,v= .tuple #[.int .i64 n,.int .i64 d,.bool ok]∧(ok=true->d≠0∧n.natAbs<1073741824∧d.natAbs<1073741824∧Rat.divInt n d=q)) (fun O w' r=>yS (Rel.old r hS) (hq.rel r hS)) ?_);rintro O _ _ _ OJ r he hw h_ ⟨c,d,k2,rfl,g2⟩;replace hp:=hp.cF r hS he (mC h_);replace hq:=hq.cF r hS he (mC h_);refine dM.mk ?_ ?_<;>intro h1
 ·refine dM.mk ?_ ?_<;>intro h2
  ·obtain⟨g3,g4,g5,g6⟩:=g1 h1;obtain⟨g7,g8,g9,g10⟩:=g2 h2;have i1:=jb g4 g9;have i2:=jb g8 g5;have i3:=jb g5 g9;have i4:=jb g4 g8;refine⟨a*c,wo,b*d,wo,?_⟩;have e:=Rat.divInt_mul_divInt a c (d₁:=b) (d₂:=d);rw[g6,g10]at e;refine cC (cE hw (fun _ w' v w2=>cU w2 (Nf w' w2) v (p*q)) (fun O w' r=>e▸rB (a*c) (b*d) w' (by omega) (by omega) (kB g3 g7)) ?_);rintro O PX v3 PU OP r he hw h_ hn;have hR:=hn.dA (S:=FF) r.cD (mN h_);obtain⟨A0,A1,A2,A3,A4,A5,A6,A7,rfl⟩:=hR.shape;exact rtn hw fun ρe we re=>hR.out re (cB w)
  refine cK hτ dZ [.x 0,.x 2,.x 1,.x 3,.x 4,.x 5] (by kernel_rfl) (by kernel_rfl) ?_;refine cE hw (fun _ w' v w2=>cU w2 (Nf w' w2) v (p)) (fun O w' r=>gB (Rel.old r hS) (hp.rel r hS)) ?_;rintro O PX v3 PU OP r he hw h_ hn;replace hq:=hq.cF r hS he (mC h_);have hX:=hn.dA (S:=FF) r.cD (mN h_);obtain⟨A0,A1,A2,A3,A4,A5,A6,A7,rfl⟩:=hX.shape;refine cE hw (fun _ w' v w2=>cU w2 (Nf w' w2) v (q)) (fun O w' r=>gB (Rel.old r hS) (hq.rel r hS)) ?_;rintro O QB v4 Pw OR r he hw h_ hn;replace hX:=hX.cF r (cB w) he (mC h_);have hY:=hn.dA (S:=FF) r.cD (mN h_);obtain⟨C0,C1,C2,C3,C4,C5,C6,C7,rfl⟩:=hY.shape;have QW:=hX.num;have Pt:=hX.den;have QX:=hY.num;have QY:=hY.den;have m0:=cZ p.num q.den;have m1:=cZ q.num p.den;have m2:=cZ (p.den:Int) q.den;have m3:=ij (p.num*q.den) (q.num*p.den);have m4:=cZ p.num q.num;refine cK hτ dZ [.x 0,.x 1,.x 2,.x 3,.x 5,.x 6,.x 7,.x 8,.x 4,.x 9,.x 10,.x 11] (by kernel_rfl) (by kernel_rfl) ?_;refine cE hw (fun _ w' v w2=>dK w2 (Nf w' w2) v (p.num*q.num)) (fun O w' r=>iG (Rel.old r (cB w)) ((QW.rel r (cB w)).l (k:=100000) (by omega)) ((QX.rel r (cB w)).l (k:=100000) (by omega)) (by omega) (by omega)) ?_;rintro O RL v5 RI Ou r he hw h_ hn;replace QW:=QW.cF r (cB w) he (mC h_);replace Pt:=Pt.cF r (cB w) he (mC h_);replace QX:=QX.cF r (cB w) he (mC h_);replace QY:=QY.cF r (cB w) he (mC h_);have hN:=hn.dA (S:=FF) r.cD (mN h_);obtain⟨E0,E1,E2,E3,rfl⟩:=hN.shape;refine cE hw (fun _ w' v w2=>dK w2 (Nf w' w2) v ((p.den:Int)*(q.den:Int))) (fun O w' r=>iG (Rel.old r (cB w)) ((Pt.rel r (cB w)).l (k:=100000) (by omega)) ((QY.rel r (cB w)).l (k:=100000) (by omega)) (by omega) (by omega)) ?_;rintro O Qx v6 RA Q7 r he hw h_ hn;replace QW:=QW.cF r (cB w) he (mC h_);replace Pt:=Pt.cF r (cB w) he (mC h_);replace QX:=QX.cF r (cB w) he (mC h_);replace QY:=QY.cF r (cB w) he (mC h_);replace hN:=hN.cF r (cB w) he (mC h_);have hD:=hn.dA (S:=FF) r.cD (mN h_);obtain⟨F0,F1,F2,F3,rfl⟩:=hD.shape;refine cE hw (fun _ w' v w2=>cU w2 (Nf w' w2) v (p*q)) (fun O w' r=>(yK p q)▸kO (Rel.old r (cB w)) ((hN.rel r (cB w)).l (k:=200001) (by omega)) ((hD.rel r (cB w)).l (k:=200001) (by omega)) (by omega) (by omega) (kB (gF p) (gF q))) ?_;rintro O Vl v7 Vm R4 r he hw h_ hn;have hR:=hn.dA (S:=FF) r.cD (mN h_);obtain⟨G0,G1,G2,G3,G4,G5,G6,G7,rfl⟩:=hR.shape;exact rtn hw fun ρe we re=>hR.out re (cB w)
 refine cK hτ dZ [.x 0,.x 2,.x 1,.x 3,.x 4,.x 5] (by kernel_rfl) (by kernel_rfl) ?_;refine cE hw (fun _ w' v w2=>cU w2 (Nf w' w2) v (p)) (fun O w' r=>gB (Rel.old r hS) (hp.rel r hS)) ?_;rintro O _ _ _ OP r he hw h_ hn;replace hq:=hq.cF r hS he (mC h_);have hX:=hn.dA (S:=FF) r.cD (mN h_);obtain⟨A0,A1,A2,A3,A4,A5,A6,A7,rfl⟩:=hX.shape;refine cE hw (fun _ w' v w2=>cU w2 (Nf w' w2) v (q)) (fun O w' r=>gB (Rel.old r hS) (hq.rel r hS)) ?_;rintro O _ _ _ OR r he hw h_ hn;replace hX:=hX.cF r (cB w) he (mC h_);have hY:=hn.dA (S:=FF) r.cD (mN h_);obtain⟨C0,C1,C2,C3,C4,C5,C6,C7,rfl⟩:=hY.shape;have QW:=hX.num;have Pt:=hX.den;have QX:=hY.num;have QY:=hY.den;have m0:=cZ p.num q.den;have m1:=cZ q.num p.den;have m2:=cZ (p.den:Int) q.den;have m3:=ij (p.num*q.den) (q.num*p.den);have m4:=cZ p.num q.num;refine cK hτ dZ [.x 0,.x 1,.x 2,.x 3,.x 5,.x 6,.x 7,.x 8,.x 4,.x 9,.x 10,.x 11] (by kernel_rfl) (by kernel_rfl) ?_;refine cE hw (fun _ w' v w2=>dK w2 (Nf w' w2) v (p.num*q.num)) (fun O w' r=>iG (Rel.old r (cB w)) ((QW.rel r (cB w)).l (k:=100000) (by omega)) ((QX.rel r (cB w)).l (k:=100000) (by omega)) (by omega) (by omega)) ?_;rintro O _ _ _ Ou r he hw h_ hn;replace QW:=QW.cF r (cB w) he (mC h_);replace Pt:=Pt.cF r (cB w) he (mC h_);replace QX:=QX.cF r (cB w) he (mC h_);replace QY:=QY.cF r (cB w) he (mC h_);have hN:=hn.dA (S:=FF) r.cD (mN h_);obtain⟨E0,E1,E2,E3,rfl⟩:=hN.shape;refine cE hw (fun _ w' v w2=>dK w2 (Nf w' w2) v ((p.den:Int)*(q.den:Int))) (fun O w' r=>iG (Rel.old r (cB w)) ((Pt.rel r (cB w)).l (k:=100000) (by omega)) ((QY.rel r (cB w)).l (k:=100000) (by omega)) (by omega) (by omega)) ?_;rintro O _ _ _ Q7 r he hw h_ hn;replace QW:=QW.cF r (cB w) he (mC h_);replace Pt:=Pt.cF r (cB w) he (mC h_);replace QX:=QX.cF r (cB w) he (mC h_);replace QY:=QY.cF r (cB w) he (mC h_);replace hN:=hN.cF r (cB w) he (mC h_);have hD:=hn.dA (S:=FF) r.cD (mN h_);obtain⟨F0,F1,F2,F3,rfl⟩:=hD.shape;refine cE hw (fun _ w' v w2=>cU w2 (Nf w' w2) v (p*q)) (fun O w' r=>(yK p q)▸kO (Rel.old r (cB w)) ((hN.rel r (cB w)).l (k:=200001) (by omega)) ((hD.rel r (cB w)).l (k:=200001) (by omega)) (by omega) (by omega) (kB (gF p) (gF q))) ?_;rintro O _ _ _ R4 r he hw h_ hn;have hR:=hn.dA (S:=FF) r.cD (mN h_);obtain⟨G0,G1,G2,G3,G4,G5,G6,G7,rfl⟩:=hR.shape;exact rtn hw fun ρe we re=>hR.out re (cB w)
theorem HP{v:Value}(hS:Old S w)(hp:eM w S v p):
  di PG N.CF #[v] w (dw w fun v' w2=>cU w2 (Nf w w2) v' (-p)):=by
 have hw:=bR w;replace hp:=hp.cI (S':=Cv S w.heap.size []) fun _ h=>.inl h;obtain⟨b1,a1,n1,c1,b2,a2,n2,c2,rfl⟩:=hp.shape;refine DP (by simp) ?_;have r1:=hp.rl;have u1:=fb p;have u2:=ew p;refine cC (cE hw (fun _ w' v w2=>cU w2 (Nf w' w2) v (p)) (fun O w' r=>gB (Rel.old r hS) (hp.rel r hS)) ?_);rintro O _ _ _ OM r he hw h_ hn;have hX:=hn.dA (S:=FF) r.cD (mN h_);obtain⟨A0,A1,A2,A3,A4,A5,A6,A7,rfl⟩:=hX.shape;have QW:=hX.num;have Pt:=hX.den;refine cK hτ dZ [.x 0,.x 1,.x 3,.x 4,.x 2,.x 5,.x 6] (by kernel_rfl) (by kernel_rfl) ?_;refine cE hw (fun _ w' v w2=>dK w2 (Nf w' w2) v (-p.num)) (fun O w' r=>mG (Rel.old r (cB w)) ((QW.rel r (cB w)).l (k:=100000) (by omega)) (by omega)) ?_;rintro O _ _ _ OJ r he hw h_ hn;replace Pt:=Pt.cF r (cB w) he (mC h_);have hN:=hn.dA (S:=FF) r.cD (mN h_);obtain⟨C0,C1,C2,C3,rfl⟩:=hN.shape;refine cE hw (fun _ w' v w2=>cU w2 (Nf w' w2) v (-p)) (fun O w' r=>show di _ _ _ _ (dw _ fun v w2=>cU w2 _ v (-p))from(show Rat.divInt (-p.num) p.den= -p by rw[<-Rat.neg_divInt,Rat.num_divInt_den])▸kO (Rel.old r (cB w)) ((hN.rel r (cB w)).l (k:=100000) (by rw[bz];omega)) ((Pt.rel r (cB w)).l (k:=100000) (by omega)) (by omega) (by omega) (gF p)) ?_;rintro O _ _ _ OP r he hw h_ hn;have hR:=hn.dA (S:=FF) r.cD (mN h_);obtain⟨E0,E1,E2,E3,E4,E5,E6,E7,rfl⟩:=hR.shape;exact rtn hw fun ρe we re=>hR.out re (cB w)
theorem aAM{v:Value}(hS:Old S w)(hp:eM w S v p)(hq:eM w S u q):
  di PG N.CD #[v,u] w (dw w fun v' w2=>cU w2 (Nf w w2) v' (p-q)):=by
 have hw:=bR w;replace hp:=hp.cI (S':=Cv S w.heap.size []) fun _ h=>.inl h;replace hq:=hq.cI (S':=Cv S w.heap.size []) fun _ h=>.inl h;obtain⟨b1,a1,n1,c1,b2,a2,n2,c2,rfl⟩:=hp.shape;obtain⟨b3,a3,n3,c3,b4,a4,n4,c4,rfl⟩:=hq.shape;refine DJ (by simp) ?_;have r1:=hp.rl;have r2:=hq.rl;have u1:=pe q;refine cK hτ dZ [.x 0,.x 1,.x 2,.x 3,.x 4] (by kernel_rfl) (by kernel_rfl) ?_;refine cE hw (fun _ w' v w2=>cU w2 (Nf w' w2) v (-q)) (fun O w' r=>HP (Rel.old r hS) (hq.rel r hS)) ?_;rintro O _ _ _ OM r he hw h_ hn;replace hp:=hp.cF r hS he (mC h_);have hN:=hn.dA (S:=FF) r.cD (mN h_);obtain⟨A0,A1,A2,A3,A4,A5,A6,A7,rfl⟩:=hN.shape;refine cE hw (fun _ w' v w2=>cU w2 (Nf w' w2) v (p-q)) (fun O w' r=>(Rat.sub_eq_add_neg p q)▸Lp (Rel.old r hS) (hp.rel r hS) (((hN.rel r (cB w)).l (by omega)).cI fun g hg=>Cv.false hg)) ?_;rintro O _ _ _ OJ r he hw h_ hn;have hR:=hn.dA (S:=FF) r.cD (mN h_);obtain⟨C0,C1,C2,C3,C4,C5,C6,C7,rfl⟩:=hR.shape;exact rtn hw fun ρe we re=>hR.out re (cB w)
theorem LW{v:Value}(hS:Old S w)(hp:eM w S v p)(hq:eM w S u q):
  di PG N.CA #[v,u] w (dw w fun v' _=>v'= .int .i64 (rs (p-q))):=by
 have hw:=bR w;replace hp:=hp.cI (S':=Cv S w.heap.size []) fun _ h=>.inl h;replace hq:=hq.cI (S':=Cv S w.heap.size []) fun _ h=>.inl h;obtain⟨b1,a1,n1,c1,b2,a2,n2,c2,rfl⟩:=hp.shape;obtain⟨b3,a3,n3,c3,b4,a4,n4,c4,rfl⟩:=hq.shape;refine DG (by simp) ?_;refine cC (cE hw (fun _ w' v w2=>cU w2 (Nf w' w2) v (p-q)) (fun O w' r=>aAM (Rel.old r hS) (hp.rel r hS) (hq.rel r hS)) ?_);rintro O _ _ _ OM r he hw h_ hn;have hR:=hn.dA (S:=FF) r.cD (mN h_);obtain⟨A0,A1,A2,A3,A4,A5,A6,A7,rfl⟩:=hR.shape;refine cC (cE hw (fun _ w' v w2=>v= .int .i64 (rs (p-q))) (fun O w' r=>Ci (Rel.old r (cB w)) (hR.rel r (cB w))) ?_);rintro O _ _ _ OJ r he hw h_ rfl;exact rtn hw fun ρe we re=>rfl
theorem aAN{v:Value}(hS:Old S w)(hp:eM w S v p)(hq:eM w S u q):
  di PG N.vK #[v,u] w (dw w fun v' w2=>(q=0∧v'= .tuple #[Af,.int .i64 9])∨(q≠0∧∃r,v'= .tuple #[r,.int .i64 0]∧cU w2 (Nf w w2) r (p / q))):=by
 have hw:=bR w;replace hp:=hp.cI (S':=Cv S w.heap.size []) fun _ h=>.inl h;replace hq:=hq.cI (S':=Cv S w.heap.size []) fun _ h=>.inl h;obtain⟨b1,a1,n1,c1,b2,a2,n2,c2,rfl⟩:=hp.shape;obtain⟨b3,a3,n3,c3,b4,a4,n4,c4,rfl⟩:=hq.shape;refine DM (by simp) ?_;have r1:=hp.rl;have r2:=hq.rl;have u1:=fb p;have u2:=ew p;have u3:=fb q;have u4:=ew q;have m0:=cZ p.num q.den;have m1:=cZ (p.den:Int) q.num;refine cK hτ dZ [.x 0,.x 2,.x 1,.x 3,.x 4,.x 5] (by kernel_rfl) (by kernel_rfl) ?_;refine cE hw (fun _ w' v w2=>cU w2 (Nf w' w2) v (p)) (fun O w' r=>gB (Rel.old r hS) (hp.rel r hS)) ?_;rintro O _ _ _ OM r he hw h_ hn;replace hq:=hq.cF r hS he (mC h_);have hX:=hn.dA (S:=FF) r.cD (mN h_);obtain⟨A0,A1,A2,A3,A4,A5,A6,A7,rfl⟩:=hX.shape;refine cE hw (fun _ w' v w2=>cU w2 (Nf w' w2) v (q)) (fun O w' r=>gB (Rel.old r hS) (hq.rel r hS)) ?_;rintro O _ _ _ OJ r he hw h_ hn;replace hX:=hX.cF r (cB w) he (mC h_);have hY:=hn.dA (S:=FF) r.cD (mN h_);obtain⟨C0,C1,C2,C3,C4,C5,C6,C7,rfl⟩:=hY.shape;refine cC (cE hw (fun _ w' v w2=>v= .int .i64 (rs q)) (fun O w' r=>Ci (Rel.old r (cB w)) (hY.rel r (cB w))) ?_);rintro O _ _ _ OP r he hw h_ rfl;replace hX:=hX.cF r (cB w) he (mC h_);replace hY:=hY.cF r (cB w) he (mC h_);refine dM.mk ?_ ?_<;>intro h
 ·have h:rs q=0:=by simpa using h
  exact rtn hw fun ρe we re=>.inl ⟨lD.1 h,rfl⟩
 have h:q≠0:=fun e=>by rw[e]at h;exact absurd h (by decide)
 have hqn:q.num≠0:=fun e=>h (Rat.num_eq_zero.1 e);have QW:=hX.num;have Pt:=hX.den;have QX:=hY.num;have QY:=hY.den;refine cK hτ dZ [.x 0,.x 1,.x 2,.x 3,.x 5,.x 6,.x 7,.x 8,.x 4,.x 9,.x 10,.x 11,.x 12] (by kernel_rfl) (by kernel_rfl) ?_;refine cE hw (fun _ w' v w2=>dK w2 (Nf w' w2) v (p.num*(q.den:Int))) (fun O w' r=>iG (Rel.old r (cB w)) ((QW.rel r (cB w)).l (k:=100000) (by omega)) ((QY.rel r (cB w)).l (k:=100000) (by omega)) (by omega) (by omega)) ?_;rintro O _ _ _ OR r he hw h_ hn;replace Pt:=Pt.cF r (cB w) he (mC h_);replace QX:=QX.cF r (cB w) he (mC h_);have hN:=hn.dA (S:=FF) r.cD (mN h_);obtain⟨E0,E1,E2,E3,rfl⟩:=hN.shape;refine cE hw (fun _ w' v w2=>dK w2 (Nf w' w2) v ((p.den:Int)*q.num)) (fun O w' r=>iG (Rel.old r (cB w)) ((Pt.rel r (cB w)).l (k:=100000) (by omega)) ((QX.rel r (cB w)).l (k:=100000) (by omega)) (by omega) (by omega)) ?_;rintro O _ _ _ Ou r he hw h_ hn;replace hN:=hN.cF r (cB w) he (mC h_);have hD:=hn.dA (S:=FF) r.cD (mN h_);obtain⟨F0,F1,F2,F3,rfl⟩:=hD.shape;refine cE hw (fun _ w' v w2=>cU w2 (Nf w' w2) v (p / q)) (fun O w' r=>(Cw p q)▸kO (Rel.old r (cB w)) ((hN.rel r (cB w)).l (k:=200001) (by omega)) ((hD.rel r (cB w)).l (k:=200001) (by omega)) (by omega) (by omega) (kB (gF p) hqn)) ?_;rintro O _ _ _ Q7 r he hw h_ hn;have hR:=hn.dA (S:=FF) r.cD (mN h_);obtain⟨G0,G1,G2,G3,G4,G5,G6,G7,rfl⟩:=hR.shape;exact rtn hw fun ρe we re=>.inr ⟨h,_,rfl,hR.out re (cB w)⟩
theorem mn(n:Int)(w:World)(h1n: -9223372036854775808<=n)(h2n:n<=9223372036854775807):
  di PG N.pq #[.int .i64 n] w (dw w fun v' w2=>cU w2 (Nf w w2) v' (n:Rat)):=by
 have hw:=bR w;have ha:=mD h1n h2n;refine qG (by simp) ?_;refine cC (cE hw (fun _ w' v w2=>dK w2 (Nf w' w2) v (n)) (fun O w' r=>ku n w' h1n h2n) ?_);rintro O _ _ _ OM r he hw h_ hn;have hA:=hn.dA (S:=FF) r.cD (mN h_);obtain⟨A0,A1,A2,A3,rfl⟩:=hA.shape;refine cC (cE hw (fun _ w' v w2=>dK w2 (Nf w' w2) v (1)) (fun O w' r=>ku 1 w' (by decide) (by decide)) ?_);rintro O _ _ _ OJ r he hw h_ hn;replace hA:=hA.cF r (cB w) he (mC h_);have hB:=hn.dA (S:=FF) r.cD (mN h_);obtain⟨C0,C1,C2,C3,rfl⟩:=hB.shape;refine cC (cE hw (fun _ w' v w2=>cU w2 (Nf w' w2) v ((n:Rat))) (fun O w' r=>(Ah n)▸kO (Rel.old r (cB w)) ((hA.rel r (cB w)).l (k:=2) (by omega)) ((hB.rel r (cB w)).l (k:=2) (by decide)) (by omega) (by omega) (by decide)) ?_);rintro O _ _ _ OP r he hw h_ hn;have hR:=hn.dA (S:=FF) r.cD (mN h_);obtain⟨E0,E1,E2,E3,E4,E5,E6,E7,rfl⟩:=hR.shape;exact rtn hw fun ρe we re=>hR.out re (cB w)
theorem LJ(a b:Int)(w:World)(h1a: -9223372036854775808<=a)(h2a:a<=9223372036854775807)(h1b: -9223372036854775808<=b)(h2b:b<=9223372036854775807):
  di PG N.wx #[.int .i64 a,.int .i64 b] w (dw w fun v' w2=>(b=0∧v'= .tuple #[Af,.int .i64 9])∨(b≠0∧∃q,v'= .tuple #[q,.int .i64 0]∧cU w2 (Nf w w2) q (Rat.divInt a b))):=by
 have hw:=bR w;have ha:=mD h1a h2a;have QK:=mD h1b h2b;refine zy (by simp) ?_;refine dM.mk ?_ ?_<;>intro h
 ·have h:b=0:=by simpa using h
  exact rtn hw fun ρe we re=>.inl ⟨h,rfl⟩
 have h:b≠0:=by simpa using h
 refine cC (cE hw (fun _ w' v w2=>dK w2 (Nf w' w2) v (a)) (fun O w' r=>ku a w' h1a h2a) ?_);rintro O _ _ _ OM r he hw h_ hn;have hA:=hn.dA (S:=FF) r.cD (mN h_);obtain⟨A0,A1,A2,A3,rfl⟩:=hA.shape;refine cC (cE hw (fun _ w' v w2=>dK w2 (Nf w' w2) v (b)) (fun O w' r=>ku b w' h1b h2b) ?_);rintro O _ _ _ OJ r he hw h_ hn;replace hA:=hA.cF r (cB w) he (mC h_);have hB:=hn.dA (S:=FF) r.cD (mN h_);obtain⟨C0,C1,C2,C3,rfl⟩:=hB.shape;refine cC (cE hw (fun _ w' v w2=>cU w2 (Nf w' w2) v (Rat.divInt a b)) (fun O w' r=>kO (Rel.old r (cB w)) ((hA.rel r (cB w)).l (k:=2) (by omega)) ((hB.rel r (cB w)).l (k:=2) (by omega)) (by omega) (by omega) h) ?_);rintro O _ _ _ OP r he hw h_ hn;have hR:=hn.dA (S:=FF) r.cD (mN h_);obtain⟨E0,E1,E2,E3,E4,E5,E6,E7,rfl⟩:=hR.shape;exact rtn hw fun ρe we re=>.inr ⟨h,_,rfl,hR.out re (cB w)⟩
section
variable{S S':Nat->Prop}{H:Hp}{nx:Nat}{iv iv':Iv}{B:Nat}{w w' w2:World}{O:Nat->Sx.dg}{v:Value}{a:Int}{b:Int}
end
theorem jc.short{b:Bool}{n c k:Nat}{z:Int}(h:jc w S (.agg #[.bool b,.slice a n c]) z)(hk:n<=k):fS w S (.agg #[.bool b,.slice a n c]) k z:=by
 obtain⟨b2,ls,⟨lv,e1,h3⟩,h2⟩:=h;obtain⟨a2,c2,e2,_⟩:=h3.sl;subst e2;simp only[Value.agg.injEq,Array.mk.injEq,List.cons.injEq,Value.bool.injEq,Value.slice.injEq,and_true]at e1;obtain⟨rfl,rfl,e3,rfl⟩:=e1;exact⟨_,ls,⟨_,by rw[e3],h3⟩,h2,by omega⟩
def lr(w:World)(S:Nat->Prop)(cs:List Value)(q:Rat):Prop:=∃b a n c b2 a2 n2 c2,cs=[.bool b,.slice a n c,.bool b2,.slice a2 n2 c2]∧eM w S (.agg #[.bool b,.slice a n c,.bool b2,.slice a2 n2 c2]) q
abbrev cR:=cY lr
abbrev dF:=dD cR
section
variable{S S':Nat->Prop}{H:Hp}{nx:Nat}{iv iv':Iv}{B:Nat}{w w' w2:World}{O:Nat->Sx.dg}{v:Value}{qs:List Rat}{cs:List Value}{q:Rat}
theorem lr.cH(h:lr w S cs q)(hk:∀g,S g->w2.heap[g]? =w.heap[g]?):lr w2 S cs q:=by
 obtain⟨b,a,n,c,b2,a2,n2,c2,h1,h2⟩:=h;exact⟨b,a,n,c,b2,a2,n2,c2,h1,h2.cH hk⟩
theorem lr.cI(h:lr w S cs q)(hk:∀g,S g->S' g):lr w S' cs q:=by
 obtain⟨b,a,n,c,b2,a2,n2,c2,h1,h2⟩:=h;exact⟨b,a,n,c,b2,a2,n2,c2,h1,h2.cI hk⟩
theorem cR.cH(h:cR w S v qs)(hk:∀g,S g->w2.heap[g]? =w.heap[g]?):cR w2 S v qs:=by
 obtain⟨css,h1,h2,h3,h4⟩:=h;exact⟨css,h1.cH hk,h2,h3,fun j cs x k1 k2=>(h4 j cs x k1 k2).cH hk⟩
theorem cR.cI(h:cR w S v qs)(hk:∀g,S g->S' g):cR w S' v qs:=by
 obtain⟨css,h1,h2,h3,h4⟩:=h;exact⟨css,h1.cI hk,h2,h3,fun j cs x k1 k2=>(h4 j cs x k1 k2).cI hk⟩
theorem dF.cH(h:dF w S v M)(hk:∀g,S g->w2.heap[g]? =w.heap[g]?):dF w2 S v M:=by
 obtain⟨rv,h1,h2,h3⟩:=h;exact⟨rv,h1.cH hk,h2,fun i u x k1 k2=>cR.cH (h3 i u x k1 k2) hk⟩
theorem dF.cI(h:dF w S v M)(hk:∀g,S g->S' g):dF w S' v M:=by
 obtain⟨rv,h1,h2,h3⟩:=h;exact⟨rv,h1.cI hk,h2,fun i u x k1 k2=>cR.cI (h3 i u x k1 k2) hk⟩
end
section
variable{S S':Nat->Prop}{H:Hp}{nx:Nat}{iv iv':Iv}{B:Nat}{w w' w2:World}{O:Nat->Sx.dg}{v:Value}{qs:List Rat}
theorem cR.rel(h:cR w (Cv S B iv) v qs)(r:Rel H nx iv B w O w')(hS:∀g,S g->g<B):cR w' (Cv S B iv) v qs:=cR.cH h fun _ hg=>Rel.same r hS hg
theorem cR.cF(h:cR w (Cv S B iv) v qs)(r:Rel H nx iv B w O w')(hS:∀g,S g->g<B)(he:Ext w' w2)(hm:∀p,p∈iv->p∈iv'):cR w2 (Cv S B iv') v qs:=
 cR.cI (cR.cH (cR.rel h r hS) fun g hg=>he.block g (Rel.old r hS g hg)) fun _ hg=>hg.mono hm
theorem cR.old(h:cR w2 (Nw (Cv S B iv) w' w2) v qs)(hB:B<=w'.heap.size):cR w2 (Cv S B ((w'.heap.size,w2.heap.size)::iv)) v qs:=cR.cI h fun _ hg=>Nw.cv hg hB
theorem cR.out{w0 w1:World}(h:cR w1 (Cv S w0.heap.size iv) v qs)(r:Rel H nx iv w0.heap.size w1 O w')(hS:Old S w0):cR w' (Nw S w0 w') v qs:=
 cR.cI (cR.rel h r hS) fun _ hg=>Cv.nw hg r
theorem cR.arg(h:cR w S v qs)(iv:Iv):cR w (Cv S w.heap.size iv) v qs:=cR.cI h fun _ h=>.inl h
end
section
variable{S S':Nat->Prop}{H:Hp}{nx:Nat}{iv iv':Iv}{B:Nat}{w w' w2:World}{O:Nat->Sx.dg}{v:Value}{M:List (List Rat)}
theorem dF.rel(h:dF w (Cv S B iv) v M)(r:Rel H nx iv B w O w')(hS:∀g,S g->g<B):dF w' (Cv S B iv) v M:=dF.cH h fun _ hg=>Rel.same r hS hg
theorem dF.cF(h:dF w (Cv S B iv) v M)(r:Rel H nx iv B w O w')(hS:∀g,S g->g<B)(he:Ext w' w2)(hm:∀p,p∈iv->p∈iv'):dF w2 (Cv S B iv') v M:=
 dF.cI (dF.cH (dF.rel h r hS) fun g hg=>he.block g (Rel.old r hS g hg)) fun _ hg=>hg.mono hm
theorem dF.old(h:dF w2 (Nw (Cv S B iv) w' w2) v M)(hB:B<=w'.heap.size):dF w2 (Cv S B ((w'.heap.size,w2.heap.size)::iv)) v M:=dF.cI h fun _ hg=>Nw.cv hg hB
theorem dF.arg(h:dF w S v M)(iv:Iv):dF w (Cv S w.heap.size iv) v M:=dF.cI h fun _ h=>.inl h
end
def BT(w:World)(S:Nat->Prop)(css:List (List Value))(qs:List Rat):Prop:=∀(j:Nat) cs q,css[j]? =some cs->qs[j]? =some q->iK w S cs q
section
variable{S S':Nat->Prop}{H:Hp}{nx:Nat}{iv iv':Iv}{B:Nat}{w w' w2:World}{O:Nat->Sx.dg}{css:List (List Value)}{qs:List Rat}
theorem BT.rel(h:BT w (Cv S B iv) css qs)(r:Rel H nx iv B w O w')(hS:∀g,S g->g<B):BT w' (Cv S B iv) css qs:=fun j cs q h1 h2=>(h j cs q h1 h2).cH fun _ hg=>Rel.same r hS hg
theorem BT.cF(h:BT w (Cv S B iv) css qs)(r:Rel H nx iv B w O w')(hS:∀g,S g->g<B)(he:Ext w' w2)(hm:∀p,p∈iv->p∈iv'):BT w2 (Cv S B iv') css qs:=fun j cs q h1 h2=>
 (((h.rel r hS) j cs q h1 h2).cH fun g hg=>he.block g (Rel.old r hS g hg)).cI fun _ hg=>hg.mono hm
theorem BT.push(h:BT w S css qs)(hq:qs[css.length]? =some q)(hc:iK w S cs q):BT w S (css++[cs]) qs:=fun j cs' q' h1 h2=>by
 rcases aO j css.length with hj|hj
 ·rw[aK hj]at h1;exact h j cs' q' h1 h2
 ·have Uv:j=css.length:=by have:=(aD.1 h1).1;simp at this;omega
  subst Uv;rw[aN (aF _),bH]at h1;simp at h1;rw[hq]at h2;injection h2 with h2;subst h1 h2;exact hc
end
theorem Al(h:∀x∈css,x.length=4∧∀u∈x,u.oneCell'=true)(hc:cs.length=4∧∀u∈cs,u.oneCell'=true):∀x∈css++[cs],x.length=4∧∀u∈x,u.oneCell'=true:=fun x hx=>by
 rcases bG.1 hx with hx|hx
 ·exact h x hx
 ·simp at hx;subst hx;exact hc
def OD(w w2:World)(v:Value)(xs:List Rat):Prop:=∃css:List (List Value),w2.ownsRow w.heap.size T.Rat 4 v xs.length css.flatten∧css.length=xs.length∧(∀cs∈css,cs.length=4∧∀u∈cs,u.oneCell'=true)∧∀(j:Nat) cs q,css[j]? =some cs->xs[j]? =some q->iK w2 (fun g=>Nf w w2 g∧v.ownBlock≠some g) cs q
theorem CR{id n g:Nat}(h:((At.w id n).den O).ownBlock=some g):(O id).nil=false∧(O id).g=g:=by
 cases hn:(O id).nil with
 |true=>rw[show (At.w id n).den O= .slice none 0 0 by simp[At.den,hn]]at h;cases h
 |false=>
  rw[show (At.w id n).den O= .slice (some ⟨(O id).g,0,none⟩) n (O id).cap by simp[At.den,hn]]at h;injection h with h;exact⟨rfl,h⟩
def k7(xs ys:List Rat)(b:Rat):List Rat:=(List.range ys.length).map fun j=>if 0<xs.length then xs.getD j 0+ys.getD j 0*b else ys.getD j 0*b
theorem oo(xs ys:List Rat)(b:Rat):(k7 xs ys b).length=ys.length:=by simp[k7]
theorem wL{j:Nat}(h:j<ys.length):(k7 xs ys b)[j]? =some (if 0<xs.length then xs.getD j 0+ys.getD j 0*b else ys.getD j 0*b):=by
 rw[k7,aM,bp h];rfl
theorem Fi{v t:Value}(hS:Old S w)(hx:cR w S v xs)(hy:cR w S u ys)(hb:eM w S t b)(hlen:xs=[]∨xs.length=ys.length)(hn:ys.length<=1000000)(hbound:∀y∈ys,rl y+rl b<=100000):
  di PG N.sW #[v,u,t] w (dw w fun v' w2=>cJ w2 (Nf w w2) v' (k7 xs ys b)∧OD w w2 v' (k7 xs ys b)):=by
 have hw:=bR w;obtain⟨ax,cx,rfl,Sl,Uw⟩:=cY.shape hx;obtain⟨ay,cy,rfl,hcy,hmy⟩:=cY.shape hy;obtain⟨t0,t1,t2,t3,t4,t5,t6,t7,rfl⟩:=hb.shape;have PN:=oo xs ys b;refine Ay (by simp) ?_
 refine⟨List (List Value)×World×Iv,fun z=>⟨[(0,sV ax xs.length cx),(1,sV ay ys.length cy),(5,pP 0 0),(7,.o (.w 1 z.1.length)),(8,iZ z.1.length)],[(1,.vec T.Rat 4 z.1.flatten),(0,.box T.Rat [.v (.bool t0),.v (.slice t1 t2 t3),.v (.bool t4),.v (.slice t5 t6 t7)])],2,z.2.2,z.2.1⟩,fun z=>ys.length-z.1.length,
  fun z=>z.1.length<=ys.length∧dm w.heap.size w z.2.1∧(∀x∈z.1,x.length=4∧∀u∈x,u.oneCell'=true)∧BT z.2.1 (Cf w z.2.2) z.1 (k7 xs ys b),?_,?_⟩
 ·intro O w' r
  exact⟨([],w',[]),⟨by simp,r.cP,by simp,fun j cs q h=>by simp at h⟩,Sub.nil 7 T.Rat 4 rfl (by simp[jX,SV.sc,At.sc,fT]) r fun ρ1 r1=>
   Sub.gn [] r1⟩
 clear hw;rintro⟨css,w1,iv⟩ ⟨hi,hw,h4,QG⟩;dsimp only at hi hw h4 QG ⊢;have OY:=eN fun x hx=>(h4 x hx).1;refine dM.mk ?_ ?_<;>intro OF
 ·have OF:css.length<ys.length:=by simpa using OF
  obtain⟨y,TR⟩:∃y,ys[css.length]? =some y:=⟨_,aB OF⟩
  obtain⟨ady,csy,Ux,Rk,_,Qa⟩:=cY.load hy TR;obtain⟨p0,p1,p2,p3,p4,p5,p6,p7,rfl,Rk⟩:=Rk;have hyd:ys.getD css.length 0=y:=by rw[List.getD,TR];rfl
  have UY:=wL (xs:=xs) (b:=b) OF;rw[hyd]at UY;have Oe:=hbound y (aC TR);have hrm:=j0 y b;refine dM.mk ?_ ?_<;>intro R0
  ·have R0:0<xs.length:=by have:=aI R0;omega
   have PO:css.length<xs.length:=hlen.elim (fun h=>by rw[h]at R0;simp at R0) (fun h=>by omega);obtain⟨x,PZ⟩:∃x,xs[css.length]? =some x:=⟨_,aB PO⟩
   obtain⟨adx,csx,PS,RZ,_,Oj⟩:=cY.load hx PZ;obtain⟨q0,q1,q2,q3,q4,q5,q6,q7,rfl,RZ⟩:=RZ;have UD:xs.getD css.length 0=x:=by rw[List.getD,PZ];rfl
   rw[if_pos R0,UD]at UY;refine⟨ady,Ux,by omega,[.bool p0,.slice p1 p2 p3,.bool p4,.slice p5 p6 p7],rfl,fun O w' r i x hx=>?_,?_⟩
   ·obtain⟨k1,k2⟩:=Qa i x hx;rw[aE,cG (w:=w) (w2:=w') (by rw[dE,dE];exact(hw.tr r.cP).block _ (hS _ k1))];exact k2
   refine cC (cE hw (fun _ w' v w2=>v= .int .i64 (rs y)) (fun O w' r=>og (oS hS r) (Rk.cH (kS hw r hS))) ?_);rintro O Pq v1 Pe OM r he hw h_ rfl;replace QG:=QG.cF r (cB w) he (mC h_);clear r;refine dM.mk ?_ ?_<;>intro hs
   ·have hs:y=0:=lD.1 (by simpa using hs);rw[hs,bL,bX]at UY;refine⟨adx,PS,by omega,[.bool q0,.slice q1 q2 q3,.bool q4,.slice q5 q6 q7],rfl,fun O w' r i x hx=>?_,?_⟩
    ·obtain⟨k1,k2⟩:=Oj i x hx;rw[aE,cG (w:=w) (w2:=w') (by rw[dE,dE];exact(hw.tr r.cP).block _ (hS _ k1))];exact k2
    refine cC (cE hw (fun _ w' v w2=>cU w2 (Nf w' w2) v (x)) (fun O w' r=>gB (oS hS r) (RZ.cH (kS hw r hS))) ?_);rintro O Pr v2 PB OJ r he hw h_ hn;replace QG:=QG.cF r (cB w) he (mC h_);have Ta:=hn.dA (S:=FF) r.cD (mN h_);clear r hn;obtain⟨A0,A1,A2,A3,A4,A5,A6,A7,rfl⟩:=Ta.shape;refine .inl ?_;refine⟨OY,by omega,by unfold maxLen;omega,((css.length+1:Nat):Int),wo,?_⟩;intro ρ3 w3 r3;have Rd:(css++[[Value.bool A0,.slice A1 A2 A3,.bool A4,.slice A5 A6 A7]]).length=css.length+1:=by simp
    have hf3:(css++[[Value.bool A0,.slice A1 A2 A3,.bool A4,.slice A5 A6 A7]]).flatten=css.flatten++[Value.bool A0,.slice A1 A2 A3,.bool A4,.slice A5 A6 A7]:=by simp
    exact⟨(css++[[.bool A0,.slice A1 A2 A3,.bool A4,.slice A5 A6 A7]],w3,_),⟨by dsimp only;rw[Rd];exact OF,hw.tr r3.cP,Al h4 ⟨rfl,by intro u hu;simp at hu;rcases hu with rfl|rfl|rfl|rfl<;>rfl⟩,(QG.rel r3 (cB w)).push UY (Ta.rel r3 (cB w)).pD⟩,
     Sub.gn [(1,3)] r3 ⟨by dsimp only;rw[hf3];rfl,rfl,trivial⟩ ⟨rfl,rfl,rfl,by dsimp only;rw[Rd];rfl,by dsimp only;rw[Rd];rfl,trivial⟩,by dsimp only;rw[Rd];omega⟩
   refine cK hτ dZ [.x 0,.x 1,.x 2,.x 3,.x 4,.p 6,.x 5,.x 6,.x 7] (by kernel_rfl) (by kernel_rfl) ?_;refine⟨ady,Ux,by omega,[.bool p0,.slice p1 p2 p3,.bool p4,.slice p5 p6 p7],rfl,fun O w' r i x hx=>?_,?_⟩
   ·obtain⟨k1,k2⟩:=Qa i x hx;rw[aE,cG (w:=w) (w2:=w') (by rw[dE,dE];exact(hw.tr r.cP).block _ (hS _ k1))];exact k2
   refine cE hw (fun _ w' v w2=>cU w2 (Nf w' w2) v (y*b)) (fun O w' r=>HV (oS hS r) (Rk.cH (kS hw r hS)) (hb.cH (kS hw r hS))) ?_;rintro O _ _ _ OJ r he hw h_ hn;replace QG:=QG.cF r (cB w) he (mC h_);have hm:=hn.dA (S:=FF) r.cD (mN h_);clear r hn;obtain⟨A0,A1,A2,A3,A4,A5,A6,A7,rfl⟩:=hm.shape;refine dM.mk (fun SR=>?_) (fun SR=>absurd R0 (by have:=aH SR;omega));refine cK hτ dZ [.x 0,.x 1,.x 2,.x 3,.x 4,.x 5,.x 6] (by kernel_rfl) (by kernel_rfl) ?_;refine⟨adx,PS,by omega,[.bool q0,.slice q1 q2 q3,.bool q4,.slice q5 q6 q7],rfl,fun O w' r i x hx=>?_,?_⟩
   ·obtain⟨k1,k2⟩:=Oj i x hx;rw[aE,cG (w:=w) (w2:=w') (by rw[dE,dE];exact(hw.tr r.cP).block _ (hS _ k1))];exact k2
   refine cE hw (fun _ w' v w2=>cU w2 (Nf w' w2) v (x+y*b)) (fun O w' r=>Lp (Rel.old r hS) ((RZ.cH (kS hw r hS)).cI fun g hg=>Or.inl hg) (((hm.rel r (cB w)).l (by omega)).cI fun g hg=>Cv.false hg)) ?_;rintro O _ _ _ OP r he hw h_ hn;replace QG:=QG.cF r (cB w) he (mC h_);clear hm;have Ta:=hn.dA (S:=FF) r.cD (mN h_);clear r hn;obtain⟨C0,C1,C2,C3,C4,C5,C6,C7,rfl⟩:=Ta.shape;refine .inl ?_;refine⟨OY,by omega,by unfold maxLen;omega,((css.length+1:Nat):Int),wo,?_⟩;intro ρ3 w3 r3;have Rd:(css++[[Value.bool C0,.slice C1 C2 C3,.bool C4,.slice C5 C6 C7]]).length=css.length+1:=by simp
   have hf3:(css++[[Value.bool C0,.slice C1 C2 C3,.bool C4,.slice C5 C6 C7]]).flatten=css.flatten++[Value.bool C0,.slice C1 C2 C3,.bool C4,.slice C5 C6 C7]:=by simp
   exact⟨(css++[[.bool C0,.slice C1 C2 C3,.bool C4,.slice C5 C6 C7]],w3,_),⟨by dsimp only;rw[Rd];exact OF,hw.tr r3.cP,Al h4 ⟨rfl,by intro u hu;simp at hu;rcases hu with rfl|rfl|rfl|rfl<;>rfl⟩,(QG.rel r3 (cB w)).push UY (Ta.rel r3 (cB w)).pD⟩,
    Sub.gn [(1,4)] r3 ⟨by dsimp only;rw[hf3];rfl,rfl,trivial⟩ ⟨rfl,rfl,rfl,by dsimp only;rw[Rd];rfl,by dsimp only;rw[Rd];rfl,trivial⟩,by dsimp only;rw[Rd];omega⟩
  have R0:¬0<xs.length:=by have:=aH R0;omega
  rw[aL R0]at UY;refine cK hτ dZ [.x 0,.x 1,.x 2,.x 3,.x 4,.p 6,.x 5,.x 6,.x 7] (by kernel_rfl) (by kernel_rfl) ?_;refine⟨ady,Ux,by omega,[.bool p0,.slice p1 p2 p3,.bool p4,.slice p5 p6 p7],rfl,fun O w' r i x hx=>?_,?_⟩
  ·obtain⟨k1,k2⟩:=Qa i x hx;rw[aE,cG (w:=w) (w2:=w') (by rw[dE,dE];exact(hw.tr r.cP).block _ (hS _ k1))];exact k2
  refine cE hw (fun _ w' v w2=>cU w2 (Nf w' w2) v (y*b)) (fun O w' r=>HV (oS hS r) (Rk.cH (kS hw r hS)) (hb.cH (kS hw r hS))) ?_;rintro O _ _ _ OM r he hw h_ hn;replace QG:=QG.cF r (cB w) he (mC h_);have hm:=hn.dA (S:=FF) r.cD (mN h_);clear r hn;obtain⟨E0,E1,E2,E3,E4,E5,E6,E7,rfl⟩:=hm.shape;refine dM.mk (fun SR=>absurd (aI SR) (by omega)) (fun SR=>?_);refine .inl ?_;refine⟨OY,by omega,by unfold maxLen;omega,((css.length+1:Nat):Int),wo,?_⟩;intro ρ3 w3 r3;have Rd:(css++[[Value.bool E0,.slice E1 E2 E3,.bool E4,.slice E5 E6 E7]]).length=css.length+1:=by simp
  have hf3:(css++[[Value.bool E0,.slice E1 E2 E3,.bool E4,.slice E5 E6 E7]]).flatten=css.flatten++[Value.bool E0,.slice E1 E2 E3,.bool E4,.slice E5 E6 E7]:=by simp
  exact⟨(css++[[.bool E0,.slice E1 E2 E3,.bool E4,.slice E5 E6 E7]],w3,_),⟨by dsimp only;rw[Rd];exact OF,hw.tr r3.cP,Al h4 ⟨rfl,by intro u hu;simp at hu;rcases hu with rfl|rfl|rfl|rfl<;>rfl⟩,(QG.rel r3 (cB w)).push UY (hm.rel r3 (cB w)).pD⟩,
   Sub.gn [(1,4)] r3 ⟨by dsimp only;rw[hf3];rfl,rfl,trivial⟩ ⟨rfl,rfl,rfl,by dsimp only;rw[Rd];rfl,by dsimp only;rw[Rd];rfl,trivial⟩,by dsimp only;rw[Rd];omega⟩
 have OF:css.length=ys.length:=aQ hi (by simpa using OF);intro ρe we re;have QQ:∀u∈css.flatten,u.oneCell'=true:=fun u hu=>by
  obtain⟨cs,hc,hu⟩:=List.mem_flatten.1 hu;exact(h4 cs hc).2 u hu
 refine⟨_,rfl,hw.tr re.cP,?_,css,by rw[PN,<-OF];exact yj re (id:=1) rfl OY (by decide),by rw[PN];exact OF,h4,fun j cs q k1 k2=>((QG j cs q k1 k2).cH fun g hg=>Rel.same re (cB w) hg).cI fun g hg=>⟨Cv.nw hg re,fun e=>Rel.not re (cB w) hg 1 _ rfl (CR e).1 (CR e).2⟩⟩;refine⟨css,?_,by rw[PN];exact OF,fun cs hc=>(h4 cs hc).1,fun j cs q k1 k2=>((QG j cs q k1 k2).cH fun g hg=>Rel.same re (cB w) hg).cI fun g hg=>Cv.nw hg re⟩;have:=re.iR (id:=1) (sz:=4) (m:=css.length) rfl OY (by unfold maxLen;omega) (by decide) QQ;rw[PN,<-OF];exact this.cI fun g hg=>.inr hg
theorem II{v t:Value}(hS:Old S w)(hx:cR w S v xs)(hy:cR w S u ys)(hb:eM w S t b)(hlen:xs=[]∨xs.length=ys.length)(hn:ys.length<=1000000)(hbound:∀y∈ys,rl y+rl b<=100000):
  di PG N.sW #[v,u,t] w (dw w fun v' w2=>cJ w2 (Nf w w2) v' (k7 xs ys b)):=
 (Fi hS hx hy hb hlen hn hbound).mono fun _ _ ⟨v2,e1,e2,e3,_⟩=>⟨v2,e1,e2,e3⟩
end Go.Ex
namespace Go.Ex
variable{M:List (List Rat)}{s:List (List Rat)×List Nat}
theorem yo{c r k R:Nat}(hk:r<=k)(hR:k<=R)(h:∀j,r<=j->j<k->dL M j c=0):iT M c (R-r) r=iT M c (R-k) k:=by
 induction k with
 |zero=>
  have:r=0:=by omega
  subst this;rfl
 |succ k ih=>
  rcases aO k r with h1|h1
  ·have:r=k+1:=by omega
   subst this;rfl
  ·rw[ih h1 (by omega) fun j h2 h3=>h j h2 (by omega),show R-k=(R-(k+1))+1 by omega,GZ (h k h1 (by omega))]
theorem Cs{a c i:Nat}{r:List Rat}(h:M[i]? =some r)(h0:r.getD c 0=0):db M a c (i+1)=db M a c i:=by
 unfold db;refine bM fun j=>?_;rw[List.getElem?_mapIdx,List.getElem?_mapIdx];by_cases hj:j=i
 ·subst hj;rw[h];simp only[Option.map_some]
  by_cases ha:j=a
  ·rw[aL (by omega),aL (by omega)]
  ·rw[if_pos ⟨by omega,ha⟩,aL (by omega),h0];congr 1;refine bM fun k=>?_;rw[List.getElem?_mapIdx]
   cases r[k]? with
   |none=>rfl
   |some q=>simp[sJ,bX]
 ·cases M[j]? with
  |none=>rfl
  |some r'=>
   simp only[Option.map_some]
   by_cases h2:j<i∧j≠a
   ·rw[if_pos ⟨by omega,h2.2⟩,if_pos h2]
   ·rw[aL (by omega),aL h2]
theorem fu{α:Type}{l:List α}{i:Nat}{x:α}(h:i<l.length):l.take i++[x]++l.drop (i+1)=l.set i x:=by
 rw[List.set_eq_take_append_cons_drop,if_pos h];simp
theorem yp{c:Nat}(h:¬s.2.length<s.1.length∨iT s.1 c (s.1.length-s.2.length) s.2.length=s.1.length):da s c=s:=by
 unfold da;split
 ·rcases h with h|h
  ·exact absurd ‹_› h
  ·dsimp only;rw[if_pos h]
 ·rfl
theorem yq{c k:Nat}(hk:s.2.length<=k)(hl:k<s.1.length)(h:∀j,s.2.length<=j->j<k->dL s.1 j c=0)(hn:dL s.1 k c≠0):
  da s c=(db (scaled (fP [] s.1 s.2.length k) s.2.length c) s.2.length c s.1.length,s.2++[c]):=by
 have e:iT s.1 c (s.1.length-s.2.length) s.2.length=k:=by
  rw[yo hk (by omega) h,show s.1.length-k=(s.1.length-k-1)+1 by omega,Ga hn]
 unfold da;rw[if_pos (by omega)];dsimp only
 rw[e,aL (by omega),rM,jf]
theorem Ia{c k:Nat}(hk:s.2.length<=k)(hl:k=s.1.length)(h:∀j,s.2.length<=j->j<k->dL s.1 j c=0):da s c=s:=by
 refine yp (.inr ?_);rw[yo hk (by omega) h,hl,bH];rfl
end Go.Ex
namespace Go.Ex
open Go Go.Sx Go.Proofs
variable{qs x:List Rat}{i:Nat}{S:Nat->Prop}{u:Value}{w:World}
theorem CQ(ys:List Rat)(b:Rat):k7 [] ys b=ys.map (· *b):=by
 refine bM fun j=>?_;rcases aO j ys.length with h|h
 ·rw[wL h,aL (by simp),aM,List.getD,aB h];rfl
 ·rw[List.getElem?_eq_none (by rw[oo];exact h),List.getElem?_eq_none (by simp;exact h)]
theorem HQ{xs ys:List Rat}(b:Rat)(h:xs.length=ys.length):k7 xs ys b=xs.mapIdx (sJ b ys):=by
 refine bM fun j=>?_;rw[List.getElem?_mapIdx];rcases aO j ys.length with h1|h1
 ·rw[wL h1,if_pos (by omega),aB (by omega),List.getD,aB (show j<xs.length by omega)];simp[sJ,bo]
 ·rw[List.getElem?_eq_none (by rw[oo];exact h1),List.getElem?_eq_none (show xs.length<=j by omega)];rfl
theorem cJ.l{v:Value}(h:cJ w S v qs)(hq:∀q∈qs,rl q<=100000):cR w S v qs:=by
 obtain⟨css,h1,h2,h3,h4⟩:=h;refine⟨css,h1,h2,h3,fun j cs q k1 k2=>?_⟩;obtain⟨b,a,n,c,b2,a2,n2,c2,e,hc⟩:=h4 j cs q k1 k2;exact⟨b,a,n,c,b2,a2,n2,c2,e,hc.l (hq q (aC k2))⟩
theorem cR.nil(w:World)(S:Nat->Prop):cR w S (.slice none 0 0) []:=⟨[],⟨by simp,by simp,by simp,none,0,rfl,aF _,by simp⟩,rfl,by simp,by simp⟩
theorem JQ{v:Value}{p q:Rat}(hS:Old S w)(hp:eM w S v p)(hq:eM w S u q)(h0:q≠0):
  di PG N.vK #[v,u] w (dw w fun v' w2=>∃r,v'= .tuple #[r,.int .i64 0]∧cU w2 (Nf w w2) r (p / q)):=
 (aAN hS hp hq).mono fun _ _ ⟨v2,e1,e2,e3⟩=>⟨v2,e1,e2,e3.elim (fun h=>absurd h.1 h0) fun h=>h.2⟩
def gX(w:World)(S:Nat->Prop)(rv:List Value)(M:List (List Rat)):Prop:=rv.length=M.length∧(∀u∈rv,u.oneCell'=true)∧∀(i:Nat) u r,rv[i]? =some u->M[i]? =some r->cR w S u r
section
variable{S S':Nat->Prop}{H:Hp}{nx:Nat}{iv iv':Iv}{B:Nat}{w w' w2:World}{O:Nat->Sx.dg}{rv:List Value}{M:List (List Rat)}
theorem gX.rel(h:gX w (Cv S B iv) rv M)(r:Rel H nx iv B w O w')(hS:∀g,S g->g<B):gX w' (Cv S B iv) rv M:=⟨h.1,h.2.1,fun i u x h1 h2=>cR.rel (h.2.2 i u x h1 h2) r hS⟩
theorem gX.cF(h:gX w (Cv S B iv) rv M)(r:Rel H nx iv B w O w')(hS:∀g,S g->g<B)(he:Ext w' w2)(hm:∀p,p∈iv->p∈iv'):gX w2 (Cv S B iv') rv M:=⟨h.1,h.2.1,fun i u x h1 h2=>cR.cF (h.2.2 i u x h1 h2) r hS he hm⟩
theorem gX.set(h:gX w S rv M)(hu:u.oneCell'=true)(hx:cR w S u x):gX w S (rv.set i u) (M.set i x):=by
 refine⟨by simp[h.1],fun v hv=>?_,fun j v y h1 h2=>?_⟩
 ·rcases bJ hv with h1|h1
  ·exact h.2.1 v h1
  ·rw[h1];exact hu
 ·rw[List.getElem?_set]at h1 h2;by_cases hj:i=j
  ·rw[if_pos hj]at h1 h2;split at h1
   ·split at h2
    ·injection h1 with h1;injection h2 with h2;subst h1 h2;exact hx
    ·cases h2
   ·cases h1
  ·rw[aL hj]at h1 h2;exact h.2.2 j v y h1 h2
theorem gX.get(h:gX w S rv M)(hi:i<M.length):∃u r,rv[i]? =some u∧M[i]? =some r∧cR w S u r:=by
 obtain⟨u,hu⟩:∃u,rv[i]? =some u:=⟨_,aB (by rw[h.1];exact hi)⟩
 obtain⟨r,hr⟩:∃r,M[i]? =some r:=⟨_,aB hi⟩
 exact⟨u,r,hu,hr,h.2.2 i u r hu hr⟩
end
end Go.Ex
namespace Go.Ex
variable{s:List (List Rat)×List Nat}
theorem eQ(M:List (List Rat))(cols:Nat):(cN M cols).1.length=M.length:=by
 have key:∀(l:List Nat) (s:List (List Rat)×List Nat),(l.foldl da s).1.length=s.1.length:=by
  intro l
  induction l with
  |nil=>exact fun s=>rfl
  |cons c l ih=>exact fun s=>by rw[List.foldl_cons,ih,oF]
 exact key _ _
theorem sK{M:List (List Rat)}{c:Nat}:∀f k j,k<=j->j<iT M c f k->dL M j c=0
 |0,k,j,h1,h2=>by simp only[iT]at h2;omega
 |f+1,k,j,h1,h2=>by
  unfold iT at h2;split at h2
  ·rename_i h0;rcases aO k j with h|h
   ·exact sK f (k+1) j h h2
   ·rw[show j=k by omega];exact h0
  ·omega
theorem kT(c:Nat)(hle:s.2.length<=s.1.length):(da s c=s∧∀j,s.2.length<=j->j<s.1.length->dL s.1 j c=0)∨
  ∃k,s.2.length<=k∧k<s.1.length∧dL s.1 k c≠0∧da s c=(db (scaled (fP [] s.1 s.2.length k) s.2.length c) s.2.length c s.1.length,s.2++[c]):=by
 have h1:=yr s.1 c (s.1.length-s.2.length) s.2.length;by_cases hk:iT s.1 c (s.1.length-s.2.length) s.2.length=s.1.length
 ·exact .inl ⟨yp (.inr hk),fun j hj hl=>sK (s.1.length-s.2.length) s.2.length j hj (by omega)⟩
 ·exact .inr ⟨_,h1.1,by omega,yt s.1 c _ _ (by omega),yq h1.1 (by omega) (fun j h2 h3=>sK _ _ j h2 h3) (yt s.1 c _ _ (by omega))⟩
theorem uz{p:Rat}{r s:List Rat}{c:Nat}(h:c<r.length):(r.mapIdx (sJ p s)).getD c 0=r.getD c 0+p*s.getD c 0:=by
 simp only[List.getD,List.getElem?_mapIdx,aB h]
 rfl
theorem yu{r:List Rat}{k:Rat}{c:Nat}:(r.map (· *k)).getD c 0=r.getD c 0*k:=by
 simp only[List.getD,aM]
 cases r[c]? with
 |none=>exact(bL k).symm
 |some q=>rfl
theorem oG{c k n:Nat}(hl:fg n s.1)(h1:s.2.length<=k)(h2:k<s.1.length)(h3:dL s.1 k c≠0)(e:da s c=(db (scaled (fP [] s.1 s.2.length k) s.2.length c) s.2.length c s.1.length,s.2++[c])):
  (∀t,dL (da s c).1 s.2.length t=dL s.1 k t*(1 / dL s.1 k c))∧
  ∀j,j<s.1.length->j≠s.2.length->∀t,t<n->dL (da s c).1 j t=dL s.1 (if j=k then s.2.length else j) t+ -(dL s.1 (if j=k then s.2.length else j) c)*(dL s.1 k t*(1 / dL s.1 k c)):=by
 have hp:s.2.length<s.1.length:=by omega
 have hsw:dL (fP [] s.1 s.2.length k) s.2.length c=dL s.1 k c:=EZ hp h2;have Tc:(scaled (fP [] s.1 s.2.length k) s.2.length c).getD s.2.length []=(s.1.getD k []).map (· *(1 / dL s.1 k c)):=by
  unfold scaled;rw[hsw,List.getD,aV (by rw[jf];exact hp)];simp only[Option.getD_some]
  congr 1;rw[List.getD,List.getD,Bf hp h2]
 have OG:∀j,j<s.1.length->j≠s.2.length->(scaled (fP [] s.1 s.2.length k) s.2.length c)[j]? =some (s.1.getD (if j=k then s.2.length else j) []):=fun j hj OH=>by
  unfold scaled;rw[aY (Ne.symm OH)];unfold fP;by_cases Rz:j=k
  ·subst Rz;rw[aV (by simpa using hj),if_pos rfl]
  ·rw[aY (Ne.symm Rz),aY (Ne.symm OH),aL Rz,List.getD,aB hj];rfl
 have hgp:(db (scaled (fP [] s.1 s.2.length k) s.2.length c) s.2.length c s.1.length).getD s.2.length []=(s.1.getD k []).map (· *(1 / dL s.1 k c)):=by
  rw[<-Tc];simp only[List.getD,sL]
 rw[e];refine⟨fun t=>?_,fun j hj OH t ht=>?_⟩
 ·show((db (scaled (fP [] s.1 s.2.length k) s.2.length c) s.2.length c s.1.length).getD s.2.length []).getD t 0=_;rw[hgp,yu];rfl
 ·have hgj:(db (scaled (fP [] s.1 s.2.length k) s.2.length c) s.2.length c s.1.length).getD j []=(s.1.getD (if j=k then s.2.length else j) []).mapIdx (sJ (-((s.1.getD (if j=k then s.2.length else j) []).getD c 0)) ((s.1.getD k []).map (· *(1 / dL s.1 k c)))):=by
   simp only[List.getD,db,List.getElem?_mapIdx,OG j hj OH,Option.map_some,Option.getD_some]
   rw[if_pos ⟨hj,OH⟩];exact congrArg (fun P=>(s.1.getD (if j=k then s.2.length else j) []).mapIdx (sJ (-((s.1.getD (if j=k then s.2.length else j) []).getD c 0)) P)) Tc
  show((db (scaled (fP [] s.1 s.2.length k) s.2.length c) s.2.length c s.1.length).getD j []).getD t 0=_;rw[hgj,uz (by rw[hl.getD (by split<;>omega)];exact ht),yu];rfl
theorem yv{x:Rat}(h:x≠0):x*(1 / x)=1:=by rw[bg,bu,Rat.mul_inv_cancel x h]
def Red(n c:Nat)(s:List (List Rat)×List Nat):Prop:=fg n s.1∧s.2.length<=s.1.length∧(∀j t,s.2.length<=j->j<s.1.length->t<c->dL s.1 j t=0)∧(∀p∈s.2,p<c)∧
 ∀i j,i<s.2.length->j<s.1.length->dL s.1 j (s.2.getD i 0)=if j=i then 1 else 0
theorem Red.step{n c:Nat}(h:Red n c s)(hc:c<n):Red n (c+1) (da s c):=by
 obtain⟨hl,hle,hz,Qy,hu⟩:=h;rcases kT c hle with⟨e,h0⟩|⟨k,h1,h2,h3,e⟩
 ·rw[e];refine⟨hl,hle,fun j t hj Sf ht=>?_,fun p hp=>by have:=Qy p hp;omega,hu⟩;rcases aO t c with h|h
  ·exact hz j t hj Sf h
  ·rw[show t=c by omega];exact h0 j hj Sf
 ·obtain⟨r1,r2⟩:=oG hl h1 h2 h3 e;have hlen:(da s c).1.length=s.1.length:=oF s c;have e2:(da s c).2=s.2++[c]:=by rw[e]
  have e3:(da s c).2.length=s.2.length+1:=by rw[e2];simp
  have QQ:∀j,j<s.1.length->j≠s.2.length->dL (da s c).1 j c=0:=fun j hj OH=>by
   rw[r2 j hj OH c hc,yv h3,Rat.mul_one,Rat.add_neg_cancel]
  refine⟨hl.step,by rw[e3,hlen];omega,fun j t hj Sf ht=>?_,fun p hp=>?_,fun i j hi hj=>?_⟩
  ·rw[e3]at hj;rw[hlen]at Sf;rcases aO t c with h|h
   ·rw[r2 j Sf (by omega) t (by omega),hz k t h1 h2 h,hz (if j=k then s.2.length else j) t (by split<;>omega) (by split<;>omega) h,bL,bD,Rat.zero_add]
   ·rw[show t=c by omega];exact QQ j Sf (by omega)
  ·rw[e2]at hp;rcases bG.1 hp with hp|hp
   ·have:=Qy p hp;omega
   ·rw[bB.1 hp];omega
  ·rw[e3]at hi;rw[hlen]at hj;rcases aO i s.2.length with h|h
   ·have hg:(da s c).2.getD i 0=s.2.getD i 0:=by rw[e2,List.getD,aK h,<-List.getD]
    have hpm:s.2.getD i 0<c:=Qy _ (by rw[List.getD,aB h];exact aX h);have Sr:dL s.1 k (s.2.getD i 0)=0:=hz k _ h1 h2 hpm;rw[hg];by_cases hjp:j=s.2.length
    ·rw[hjp,r1,Sr,bL,aL (by omega)]
    ·rw[r2 j hj hjp _ (by omega),Sr,bL,bD,bX];by_cases Rz:j=k
     ·rw[if_pos Rz,hu i _ h (by omega),aL (by omega),aL (by omega)]
     ·rw[aL Rz,hu i j h hj]
   ·have hg:(da s c).2.getD i 0=c:=by rw[e2,List.getD,aN h,show i-s.2.length=0 by omega];rfl
    rw[hg];by_cases hjp:j=s.2.length
    ·rw[hjp,r1,yv h3,if_pos (by omega)]
    ·rw[QQ j hj hjp,aL (by omega)]
theorem dx{M:List (List Rat)}{n:Nat}(hl:fg n M):∀cols,cols<=n->Red n cols (cN M cols)
 |0,_=>⟨hl,aP _,fun _ _ _ _ h=>by omega,fun p hp=>(by cases hp),fun _ _ h=>(by cases h)⟩
 |c+1,h=>by
  have ih:=dx hl c (by omega);unfold cN at ih ⊢;rw[bT,List.foldl_append];exact ih.step (by omega)
abbrev Mx:=Nat->Nat->Rat
def skip(k j:Nat):Nat:=if j<k then j else j+1
def sO(k:Nat):Rat:=if k % 2=1 then -1 else 1
def cd(f:Nat->Rat):Nat->Rat
 |0=>0
 |n+1=>cd f n+f n
def fh:Nat->Mx->Rat
 |0,_=>1
 |n+1,m=>cd (fun k=>sO k*(m 0 k*fh n fun i j=>m (i+1) (skip k j))) (n+1)
theorem cL{f g:Nat->Rat}:∀{n:Nat},(∀k,k<n->f k=g k)->cd f n=cd g n
 |0,_=>rfl
 |n+1,h=>by rw[cd,cd,cL fun k hk=>h k (by omega),h n (by omega)]
theorem eC:∀(n:Nat),cd (fun _=>0) n=0
 |0=>rfl
 |n+1=>by rw[cd,eC n,bX]
theorem gj(f g:Nat->Rat):∀(n:Nat),cd (fun k=>f k+g k) n=cd f n+cd g n
 |0=>(bX 0).symm
 |n+1=>by rw[cd,cd,cd,gj f g n];grind
theorem ek(p:Rat)(f:Nat->Rat):∀(n:Nat),cd (fun k=>p*f k) n=p*cd f n
 |0=>(bD p).symm
 |n+1=>by rw[cd,cd,ek p f n];grind
theorem nO(f:Nat->Rat)(n:Nat):cd (fun k=> -f k) n= -cd f n:=by
 have h:=ek (-1) f n;rw[show (-1:Rat)*cd f n= -cd f n by grind]at h;rw[<-h];exact cL fun k _=>by grind
theorem zC(f:Nat->Rat):∀(n:Nat),cd f (n+1)=f 0+cd (fun k=>f (k+1)) n
 |0=>by show 0+f 0=f 0+0;grind
 |n+1=>by rw[cd,zC f n,cd];grind
theorem Hg{k j n:Nat}(h:j<n):skip k j<n+1:=by unfold skip;split<;>omega
theorem Ic{k l:Nat}(h:k<=l)(j:Nat):skip k (skip l j)=skip (l+1) (skip k j):=by
 unfold skip;grind
theorem ia:∀{n:Nat} {m m':Mx},(∀i j,i<n->j<n->m i j=m' i j)->fh n m=fh n m'
 |0,_,_,_=>rfl
 |n+1,m,m',h=>by
  unfold fh;refine cL fun k hk=>?_;rw[h 0 k (by omega) hk,ia fun i j hi hj=>h (i+1) (skip k j) (by omega) (Hg hj)]
def gO(m:Mx)(r:Nat)(u:Nat->Rat):Mx:=fun i j=>if i=r then u j else m i j
theorem vA(m:Mx)(r k:Nat)(u:Nat->Rat):(fun i j=>gO m (r+1) u (i+1) (skip k j))=gO (fun i j=>m (i+1) (skip k j)) r fun j=>u (skip k j):=by
 funext i j
 unfold gO;by_cases h:i=r
 ·rw[if_pos h,if_pos (by omega)]
 ·rw[aL h,aL (by omega)]
theorem nP(p:Rat):∀(n r:Nat) (m:Mx),r<n->∀(u v:Nat->Rat),fh n (gO m r fun j=>u j+p*v j)=fh n (gO m r u)+p*fh n (gO m r v)
 |0,_,_,h,_,_=>by omega
 |n+1,0,m,_,u,v=>by
  unfold fh;rw[<-ek,<-gj];refine cL fun k _=>?_;have e:∀x:Nat->Rat,(fun i j=>gO m 0 x (i+1) (skip k j))=fun i j=>m (i+1) (skip k j):=fun x=>by
   funext i j;unfold gO;rw[aL (by omega)]
  rw[e,e,e];unfold gO;rw[if_pos rfl,if_pos rfl,if_pos rfl];grind
 |n+1,r+1,m,h,u,v=>by
  unfold fh;rw[<-ek,<-gj];refine cL fun k _=>?_;rw[vA,vA,vA,nP p n r _ (by omega) (fun j=>u (skip k j)) fun j=>v (skip k j)];have e:∀x:Nat->Rat,gO m (r+1) x 0 k=m 0 k:=fun x=>by unfold gO;rw[aL (by omega)]
  rw[e,e,e];grind
theorem zD{F:Nat->Nat->Rat}:∀{n:Nat},(∀k l,k<=l->l<n->F k l+F (l+1) k=0)->cd (fun k=>cd (F k) n) (n+1)=0
 |0,_=>by show 0+0=(0:Rat);grind
 |n+1,h=>by
  have ih:=zD (F:=F) (n:=n) fun k l h1 h2=>h k l h1 (by omega);have h3:cd (fun k=>F k n+F (n+1) k) (n+1)=0:=by
   rw[cL (g:=fun _=>0) fun k hk=>h k n (by omega) (by omega),eC]
  rw[gj]at h3;rw[cd];have h4:cd (fun k=>cd (F k) (n+1)) (n+1)=cd (fun k=>cd (F k) n) (n+1)+cd (fun k=>F k n) (n+1):=by
   rw[<-gj];rfl
  rw[h4,ih,Rat.zero_add];exact h3
def wV(a b i:Nat):Nat:=if i=a then b else if i=b then a else i
theorem Ie(r i:Nat):wV (r+1) (r+2) (i+1)=wV r (r+1) i+1:=by
 unfold wV;by_cases h:i=r
 ·rw[if_pos (by omega),if_pos h]
 ·rw[aL (by omega),aL h];by_cases h2:i=r+1
  ·rw[if_pos (by omega),if_pos h2]
  ·rw[aL (by omega),aL h2]
theorem KA(k:Nat):sO (k+1)= -sO k:=by
 unfold sO;by_cases h:k % 2=1
 ·rw[if_pos h,aL (by omega)];grind
 ·rw[aL h,if_pos (by omega)]
theorem Eb(n:Nat)(m:Mx):fh (n+2) m=cd (fun k=>cd (fun l=>sO k*sO l*(m 0 k*m 1 (skip k l))*fh n fun i j=>m (i+2) (skip k (skip l j))) (n+1)) (n+2):=by
 rw[fh];refine cL fun k _=>?_;rw[fh,<-ek,<-ek];refine cL fun l _=>?_;grind
theorem zE:∀(n r:Nat) (m:Mx),r+1<n->fh n (fun i j=>m (wV r (r+1) i) j)= -fh n m
 |0,_,_,h=>by omega
 |1,_,_,h=>by omega
 |n+2,0,m,_=>by
  rw[Eb,Eb,<-nO];have key:cd (fun k=>cd (fun l=>sO k*sO l*(m 1 k*m 0 (skip k l))*(fh n fun i j=>m (i+2) (skip k (skip l j)))+sO k*sO l*(m 0 k*m 1 (skip k l))*fh n fun i j=>m (i+2) (skip k (skip l j))) (n+1)) (n+2)=0:=by
   refine zD fun k l h1 h2=>?_;have e1:skip k l=l+1:=by unfold skip;rw[aL (by omega)]
   have e2:skip (l+1) k=k:=by unfold skip;rw[if_pos (by omega)]
   have e3:(fun i j=>m (i+2) (skip (l+1) (skip k j)))=fun i j=>m (i+2) (skip k (skip l j)):=by
    funext i j;rw[Ic h1]
   rw[e1,e2,e3,KA];grind
  have h4:cd (fun k=>cd (fun l=>sO k*sO l*(m 1 k*m 0 (skip k l))*(fh n fun i j=>m (i+2) (skip k (skip l j)))+sO k*sO l*(m 0 k*m 1 (skip k l))*fh n fun i j=>m (i+2) (skip k (skip l j))) (n+1)) (n+2)=
    cd (fun k=>cd (fun l=>sO k*sO l*(m 1 k*m 0 (skip k l))*fh n fun i j=>m (i+2) (skip k (skip l j))) (n+1)) (n+2)+cd (fun k=>cd (fun l=>sO k*sO l*(m 0 k*m 1 (skip k l))*fh n fun i j=>m (i+2) (skip k (skip l j))) (n+1)) (n+2):=by
   rw[<-gj];exact cL fun k _=>gj _ _ _
  rw[h4]at key;have h5:cd (fun k=> -cd (fun l=>sO k*sO l*(m 0 k*m 1 (skip k l))*fh n fun i j=>m (i+2) (skip k (skip l j))) (n+1)) (n+2)= -cd (fun k=>cd (fun l=>sO k*sO l*(m 0 k*m 1 (skip k l))*fh n fun i j=>m (i+2) (skip k (skip l j))) (n+1)) (n+2):=nO _ _;rw[h5];have h6:cd (fun k=>cd (fun l=>sO k*sO l*(m (wV 0 1 0) k*m (wV 0 1 1) (skip k l))*fh n fun i j=>m (wV 0 1 (i+2)) (skip k (skip l j))) (n+1)) (n+2)=cd (fun k=>cd (fun l=>sO k*sO l*(m 1 k*m 0 (skip k l))*fh n fun i j=>m (i+2) (skip k (skip l j))) (n+1)) (n+2):=by
   refine cL fun k _=>cL fun l _=>?_;have e:∀i,wV 0 1 (i+2)=i+2:=fun i=>by unfold wV;rw[aL (by omega),aL (by omega)]
   simp only[e]
   rfl
  rw[show (0:Nat)+1=1 from rfl,h6];grind
 |n+2,r+1,m,h=>by
  rw[fh,fh,<-nO];refine cL fun k _=>?_;have e:(fun i j=>m (wV (r+1) (r+1+1) (i+1)) (skip k j))=fun i j=>m (wV r (r+1) i+1) (skip k j):=by
   funext i j
   rw[show r+1+1=r+2 from rfl,Ie]
  have ih:fh (n+1) (fun i j=>m (wV r (r+1) i+1) (skip k j))= -fh (n+1) fun i j=>m (i+1) (skip k j):=zE (n+1) r (fun i j=>m (i+1) (skip k j)) (by omega);rw[e,ih];rw[show wV (r+1) (r+1+1) 0=0 by unfold wV;rw[aL (by omega),aL (by omega)]];grind
theorem oJ:∀(k n:Nat) (m:Mx),k+1<n->(∀j,j<n->m 0 j=m (k+1) j)->fh n m=0
 |0,n,m,h,he=>by
  have h1:=zE n 0 m h;rw[ia (m':=m) fun i j hi hj=>?_]at h1
  ·grind
  ·unfold wV;by_cases h0:i=0
   ·rw[if_pos h0,h0];exact(he j hj).symm
   ·rw[aL h0];by_cases h2:i=1
    ·rw[if_pos h2,h2];exact he j hj
    ·rw[aL h2]
 |k+1,n,m,h,he=>by
  have h1:=zE n (k+1) m h;rw[oJ k n _ (by omega) fun j hj=>?_]at h1
  ·grind
  ·rw[show wV (k+1) (k+1+1) 0=0 by unfold wV;rw[aL (by omega),aL (by omega)],show wV (k+1) (k+1+1) (k+1)=k+1+1 by unfold wV;rw[if_pos rfl]];exact he j hj
theorem Ec(m:Mx)(r:Nat):gO m r (m r)=m:=by
 funext i j
 unfold gO;by_cases h:i=r
 ·rw[if_pos h,h]
 ·rw[aL h]
theorem Ig{n k:Nat}{m:Mx}(h:k+1<n):fh n (fun i j=>m (wV 0 (k+1) i) j)= -fh n m:=by
 have z:∀u:Nat->Rat,fh n (gO (gO m 0 u) (k+1) u)=0:=fun u=>oJ k n _ h fun j _=>by
  unfold gO;rw[aL (by omega),if_pos rfl,if_pos rfl]
 have cm:∀u v:Nat->Rat,gO (gO m 0 u) (k+1) v=gO (gO m (k+1) v) 0 u:=fun u v=>by
  funext i j;unfold gO
  by_cases h1:i=k+1
  ·rw[if_pos h1,aL (by omega),if_pos h1]
  ·rw[aL h1,aL h1]
 have l1:∀u v x:Nat->Rat,fh n (gO (gO m 0 u) (k+1) fun j=>v j+1*x j)=fh n (gO (gO m 0 u) (k+1) v)+1*fh n (gO (gO m 0 u) (k+1) x):=fun u v x=>nP 1 n (k+1) _ h v x;have l2:∀u v x:Nat->Rat,fh n (gO (gO m 0 fun j=>v j+1*x j) (k+1) u)=fh n (gO (gO m 0 v) (k+1) u)+1*fh n (gO (gO m 0 x) (k+1) u):=fun u v x=>by
  rw[cm,cm,cm];exact nP 1 n 0 _ (by omega) v x
 have h1:=z fun j=>m 0 j+1*m (k+1) j;rw[l1,l2,l2,z,z]at h1;have e1:gO (gO m 0 (m 0)) (k+1) (m (k+1))=m:=by rw[Ec,Ec]
 have e2:gO (gO m 0 (m (k+1))) (k+1) (m 0)=fun i j=>m (wV 0 (k+1) i) j:=by
  funext i j;unfold gO wV
  by_cases h1:i=k+1
  ·rw[if_pos h1,aL (by omega),if_pos h1]
  ·rw[aL h1];by_cases h0:i=0
   ·rw[if_pos h0,if_pos h0]
   ·rw[aL h0,aL h0,aL h1]
 rw[e1,e2]at h1;grind
theorem qj(f:Nat->Rat)(p:Rat)(n:Nat):cd (fun k=>f k*p) n=cd f n*p:=by
 rw[bo,<-ek];exact cL fun k _=>bo ..
theorem Ed(f g:Nat->Rat):∀(n:Nat),cd (fun k=>f k-g k) n=cd f n-cd g n
 |0=>by show(0:Rat)=0-0;grind
 |n+1=>by rw[cd,cd,cd,Ed f g n];grind
theorem gE{f:Nat->Rat}{i:Nat}:∀{n:Nat},i<n->(∀k,k<n->k≠i->f k=0)->cd f n=f i
 |0,h,_=>by omega
 |n+1,h,hz=>by
  rw[cd];rcases aO i n with h1|h1
  ·rw[gE h1 fun k hk OH=>hz k (by omega) OH,hz n (by omega) (by omega),bX]
  ·obtain rfl:i=n:=by omega
   rw[cL (g:=fun _=>0) fun k hk=>hz k (by omega) (by omega),eC,Rat.zero_add]
theorem sq_nonneg(x:Rat):0<=x*x:=by
 rcases Rat.le_total (a:=0) (b:=x)with h|h
 ·exact Rat.mul_nonneg h h
 ·have:=Rat.mul_nonneg (show 0<= -x by grind) (show 0<= -x by grind);grind
end Go.Ex
namespace Go.Ex
open Go Go.Sx Go.Proofs
variable{M:List (List (Int×Int))}{S:Nat->Prop}
theorem Aa{w:World}{v:Value}(hS:Old S w)(h:jJ w S v M):di PG N.rX #[v] w (dw w fun v' _=>v'= .int .i64 (eP M)):=by
 have hn:=h;obtain⟨a,c,rfl,hc,hm⟩:=dD.shape h;refine vZ (by simp) ?_
 cases M with
 |nil=>
  intro ρe we re;exact⟨_,rfl,re.cP,rfl⟩
 |cons r t=>
  obtain⟨ad,u,rfl,hu,h1,h2⟩:=dD.load h (j:=0) (x:=r) rfl;obtain⟨a2,c2,rfl⟩:=dD.L0 hu;refine⟨ad,rfl,⟨by omega,by simp⟩,.slice a2 r.length c2,fun O w' r'=>by simpa using jv hS dm.refl r' h1 (by simpa using h2),?_⟩;intro ρe we re;exact⟨_,rfl,re.cP,rfl⟩
end Go.Ex
