/- Texts X62 to X78: lemmas, each with its conditions. -/
import Derived.Test.YtkdcaknoaeicdaaGreatP6
namespace Go.Ex
open Go Go.Sx Go.Proofs
variable{x y:Int}{M:List (List Rat)}{css:List (List Value)}{xs ys:List Rat}{cs:List Value}{S:Nat->Prop}{O:Nat->Sx.di}{a:Option Addr}{b p q:Rat}{u:Value}{w:World}
theorem jN{v:Value}{k l:Nat}(hS:Old S w)(hx:fa w S v k x)(hy:fa w S u l y)(hk:k<=1000000)(hl:l<=1000000)(h0:y≠0):
  eD PG N.oq #[v,u] w (eG w fun v' w2=>∃q r,v'= .tuple #[q,r,.int .i64 0]∧dO w2 (Nf w w2) q (x / y)∧dO w2 (Nf w w2) r (x % y)):=
 (KU hS hx hy hk hl).mono fun _ _ ⟨v2,e1,e2,e3⟩=>⟨v2,e1,e2,e3.elim (fun h=>absurd h.1 h0) fun h=>h.2⟩
theorem aAj(x:Nat){y:Nat}(h:y≠0):ln (Nat.gcd x y)<=ln y:=fM (Nat.le_of_dvd (by omega) (Nat.gcd_dvd_right x y))
theorem IM{a b:Int}(hb:b≠0):a / (b.sign*(Nat.gcd a.natAbs b.natAbs:Nat))=(Rat.divInt a b).num∧b / (b.sign*(Nat.gcd a.natAbs b.natAbs:Nat))=((Rat.divInt a b).den:Int):=by
 obtain⟨h1,h2⟩:=D6 (a:=a) hb;have d1:((Nat.gcd a.natAbs b.natAbs:Nat):Int) ∣ a:=Int.ofNat_dvd_left.2 (Nat.gcd_dvd_left _ _);have d2:((Nat.gcd a.natAbs b.natAbs:Nat):Int) ∣ b:=Int.ofNat_dvd_left.2 (Nat.gcd_dvd_right _ _);have sg:b.sign=1∨b.sign= -1:=by rcases gH b with h|h|h<;>omega
 have key:∀c:Int,((Nat.gcd a.natAbs b.natAbs:Nat):Int) ∣ c->b.sign*(Nat.gcd a.natAbs b.natAbs:Nat) ∣ c:=fun c hc=>by
  rcases sg with h|h<;>rw[h]
  ·rw[Int.one_mul];exact hc
  ·rw[Int.neg_one_mul];exact Int.neg_dvd.2 hc
 rw[<-h1,<-h2,Int.tdiv_eq_ediv_of_dvd (key a d1),Int.tdiv_eq_ediv_of_dvd (key b d2)];exact⟨rfl,rfl⟩
theorem D9{v:Value}{k l:Nat}(hS:Old S w)(hx:fa w S v k x)(hy:fa w S u l y)(hk:k<=1000000)(hl:l<=1000000):
  eD PG N.uf #[v,u] w (eG w fun v' w2=>dO w2 (Nf w w2) v' ((Nat.gcd x.natAbs y.natAbs:Nat):Int)):=by
 have hw:=bR w;replace hx:=hx.cJ (S':=Cv S w.heap.size []) fun _ h=>.inl h;replace hy:=hy.cJ (S':=Cv S w.heap.size []) fun _ h=>.inl h;obtain⟨b1,a1,n1,c1,rfl⟩:=hx.shape;obtain⟨b2,a2,n2,c2,rfl⟩:=hy.shape;refine yg (by simp) ?_;have Oo:=hx.ln;have Qb:=hy.ln;refine cK hτ da [.x 0,.x 2,.x 1,.x 3,.x 4,.x 5] (by kernel_rfl) (by kernel_rfl) ?_;refine cE hw (fun _ w' v w2=>dO w2 (Nf w' w2) v ((x.natAbs:Int))) (fun O w' r=>zO (Rel.old r hS) (hx.rel r hS) (by omega)) ?_;rintro O _ _ _ OP r he hw h_ hn;clear hx;replace hy:=hy.cG r hS he (mC h_);have ha:=hn.dB (S:=FF) r.cF (mN h_);clear r;obtain⟨A0,A1,A2,A3,rfl⟩:=ha.shape;refine cE hw (fun _ w' v w2=>dO w2 (Nf w' w2) v ((y.natAbs:Int))) (fun O w' r=>zO (Rel.old r hS) (hy.rel r hS) (by omega)) ?_;rintro O _ _ _ ON r he hw h_ hn;clear hy;replace ha:=ha.cG r (cC w) he (mC h_);have hc:=hn.dB (S:=FF) r.cF (mN h_);clear r;obtain⟨C0,C1,C2,C3,rfl⟩:=hc.shape
 refine⟨Nat×Nat×(Bool×Option Addr×Nat×Nat)×(Bool×Option Addr×Nat×Nat)×World×Iv,fun z=>⟨[(2,pP 0 0),(3,pP 1 0),(4,pP 2 0)],[(2,.box T.Int [.v (.bool false),.v (.slice none 0 0)]),(1,.box T.Int [.v (.bool z.2.2.2.1.1),.v (.slice z.2.2.2.1.2.1 z.2.2.2.1.2.2.1 z.2.2.2.1.2.2.2)]),(0,.box T.Int [.v (.bool z.2.2.1.1),.v (.slice z.2.2.1.2.1 z.2.2.1.2.2.1 z.2.2.1.2.2.2)])],3,z.2.2.2.2.2,z.2.2.2.2.1⟩,fun z=>z.2.1,
  fun z=>Nat.gcd z.1 z.2.1=Nat.gcd x.natAbs y.natAbs∧ln z.1<=1000000∧ln z.2.1<=1000000∧dm w.heap.size w z.2.2.2.2.1∧dO z.2.2.2.2.1 (Cf w z.2.2.2.2.2) (.agg #[.bool z.2.2.1.1,.slice z.2.2.1.2.1 z.2.2.1.2.2.1 z.2.2.1.2.2.2]) (z.1:Int)∧dO z.2.2.2.2.1 (Cf w z.2.2.2.2.2) (.agg #[.bool z.2.2.2.1.1,.slice z.2.2.2.1.2.1 z.2.2.2.1.2.2.1 z.2.2.2.1.2.2.2]) (z.2.1:Int),?_,?_⟩
 ·intro O w' r
  exact⟨(x.natAbs,y.natAbs,(A0,A1,A2,A3),(C0,C1,C2,C3),w',ON),⟨rfl,by dsimp only;omega,by dsimp only;omega,hw.tr r.cQ,ha.rel r (cC w),hc.rel r (cC w)⟩,
   Sub.gn [] r⟩
 clear hw ha hc;rintro⟨a,b,⟨ba,aa,na,ca⟩,⟨bb,ab,nb,cb⟩,w1,iv⟩ ⟨hg,QC,Oq,hw,ha,hc⟩;dsimp only at hg QC Oq hw ha hc ⊢;refine cD (cE hw (fun _ w' v w2=>v= .int .i64 (b:Int).sign) (fun O w' r=>gi (Rel.old r (cC w)) (hc.rel r (cC w)).r) ?_);rintro O _ _ _ OU r he hw h_ rfl;replace ha:=ha.cG r (cC w) he (mC h_);replace hc:=hc.cG r (cC w) he (mC h_);clear r;have sb:=gH (b:Int);refine dI.mk ?_ ?_<;>intro h
 ·have h:=aI h;have hb0:0<b:=by omega
  have hm:=bw a hb0;have PZ:ln (a % b)<=1000000:=aY (fM (by omega)) Oq;refine cD (cE hw (fun _ w' v w2=>∃q r,v= .tuple #[q,r,.int .i64 0]∧dO w2 (Nf w' w2) q ((a:Int) / b)∧dO w2 (Nf w' w2) r ((a:Int) % b)) (fun O w' r=>jN (Rel.old r (cC w)) ((ha.rel r (cC w)).l (k:=1000000) QC) ((hc.rel r (cC w)).l (k:=1000000) Oq) (by omega) (by omega) (by omega)) ?_);rintro O _ _ _ OW r he hw h_ ⟨q,rr,rfl,k1,k2⟩;clear ha;replace hc:=hc.cG r (cC w) he (mC h_);have hq:=k1.dB (S:=FF) r.cF (mN h_);have hr:=k2.dB (S:=FF) r.cF (mN h_);clear r;obtain⟨s4_0a,s4_0b,s4_0c,s4_0d,rfl⟩:=hq.shape;obtain⟨s4_1a,s4_1b,s4_1c,s4_1d,rfl⟩:=hr.shape;clear k1 k2 hq;refine iq hτ da (.two 0 (.two 1 (.one 2 (.one 3 .nil)) 2 (.one 1 (.one 3 .nil))) 1 (.one 0 (.one 2 (.one 3 .nil)))) (by kernel_rfl) ?_;refine⟨?_,?_⟩
  ·conv=>whnf
   refine⟨?_,?_⟩
   ·conv=>whnf
    intro ρ3 w3 r3;exact⟨(b,a % b,(bb,ab,nb,cb),(s4_1a,s4_1b,s4_1c,s4_1d),w3,_),⟨by dsimp only;rw[<-hg,Nat.gcd_comm a b,Nat.gcd_rec b a,Nat.gcd_comm],Oq,PZ,hw.tr r3.cQ,hc.rel r3 (cC w),hr.rel r3 (cC w)⟩,Sub.gn [] r3,hm⟩
   ·conv=>whnf
    intro ρ3 w3 r3;exact⟨(b,a % b,(bb,ab,nb,cb),(s4_1a,s4_1b,s4_1c,s4_1d),w3,_),⟨by dsimp only;rw[<-hg,Nat.gcd_comm a b,Nat.gcd_rec b a,Nat.gcd_comm],Oq,PZ,hw.tr r3.cQ,hc.rel r3 (cC w),hr.rel r3 (cC w)⟩,Sub.gn [] r3,hm⟩
  ·conv=>whnf
   intro ρ3 w3 r3;exact⟨(b,a % b,(bb,ab,nb,cb),(s4_1a,s4_1b,s4_1c,s4_1d),w3,_),⟨by dsimp only;rw[<-hg,Nat.gcd_comm a b,Nat.gcd_rec b a,Nat.gcd_comm],Oq,PZ,hw.tr r3.cQ,hc.rel r3 (cC w),hr.rel r3 (cC w)⟩,Sub.gn [] r3,hm⟩
 have h:=aH h;obtain rfl:b=0:=by omega
 rw[Nat.gcd_zero_right]at hg;subst hg;clear hc;exact rtn hw fun ρe we re=>ha.out re (cC w)
theorem ki{v:Value}{k l:Nat}(hS:Old S w)(hx:fa w S v k x)(hy:fa w S u l y)(hk:k<=1000000)(hl:l<=1000000)(Pw:y≠0):
  eD PG N.tN #[v,u] w (eG w fun v' w2=>cS w2 (Nf w w2) v' (Rat.divInt x y)):=by
 have hw:=bR w;replace hx:=hx.cJ (S':=Cv S w.heap.size []) fun _ h=>.inl h;replace hy:=hy.cJ (S':=Cv S w.heap.size []) fun _ h=>.inl h;obtain⟨b1,a1,n1,c1,rfl⟩:=hx.shape;obtain⟨b2,a2,n2,c2,rfl⟩:=hy.shape;refine sS (by simp) ?_;have Oo:=hx.ln;have Qb:=hy.ln;have hlg:=aAj x.natAbs (y:=y.natAbs) (by omega);obtain⟨hn,hd⟩:=IM (a:=x) Pw;have sy:=gH y
 refine cD (cE hw (fun _ w' v w2=>∃n p,v= .tuple #[.int .i64 n,.bool p]∧(p=true->n=x∧x.natAbs<1073741824)) (fun O w' r=>(oP (Rel.old r hS) (hx.rel r hS).r).mono fun e w2 ⟨v2,e1,e2,e3⟩=>⟨v2,e1,e2,by
   rw[e3,kL];split
   ·exact⟨_,_,rfl,fun _=>⟨rfl,‹_›⟩⟩
   ·exact⟨_,_,rfl,fun h=>by cases h⟩⟩) ?_)
 rintro O _ _ _ OP r he hw h_ ⟨nx,px,rfl,qx⟩;replace hx:=hx.cG r hS he (mC h_);replace hy:=hy.cG r hS he (mC h_);clear r
 refine cD (cE hw (fun _ w' v w2=>∃n p,v= .tuple #[.int .i64 n,.bool p]∧(p=true->n=y∧y.natAbs<1073741824)) (fun O w' r=>(oP (Rel.old r hS) (hy.rel r hS).r).mono fun e w2 ⟨v2,e1,e2,e3⟩=>⟨v2,e1,e2,by
   rw[e3,kL];split
   ·exact⟨_,_,rfl,fun _=>⟨rfl,‹_›⟩⟩
   ·exact⟨_,_,rfl,fun h=>by cases h⟩⟩) ?_)
 rintro O _ _ _ ON r he hw h_ ⟨ny,py,rfl,qy⟩;replace hx:=hx.cG r hS he (mC h_);replace hy:=hy.cG r hS he (mC h_);clear r;refine dI.mk ?_ ?_<;>intro h1
 ·obtain⟨e1,hxs⟩:=qx h1;replace e1:=e1.symm;subst e1;refine dI.mk ?_ ?_<;>intro h2
  ·obtain⟨e2,hys⟩:=qy h2;replace e2:=e2.symm;subst e2;clear hx hy;refine cD (cE hw (fun _ w' v w2=>cS w2 (Nf w' w2) v (Rat.divInt x y)) (fun O w' r=>r8 x y w' (by omega) (by omega) Pw) ?_);rintro O PX v3 PT OU r he hw h_ hn;have hR:=hn.dB (S:=FF) r.cF (mN h_);clear r hn;obtain⟨A0,A1,A2,A3,A4,A5,A6,A7,rfl⟩:=hR.shape;exact rtn hw fun ρe we re=>hR.out re (cC w)
  refine cD (cE hw (fun _ w' v w2=>dO w2 (Nf w' w2) v (((Nat.gcd x.natAbs y.natAbs:Nat):Int))) (fun O w' r=>D9 (Rel.old r hS) (hx.rel r hS) (hy.rel r hS) hk hl) ?_);rintro O PX v3 PT OU r he hw h_ hn;replace hx:=hx.cG r hS he (mC h_);replace hy:=hy.cG r hS he (mC h_);have hg:=hn.dB (S:=FF) r.cF (mN h_);clear r hn;obtain⟨A0,A1,A2,A3,rfl⟩:=hg.shape;refine cD (cE hw (fun _ w' v w2=>v= .int .i64 y.sign) (fun O w' r=>gi (Rel.old r hS) (hy.rel r hS).r) ?_);rintro O Qd v4 Q5 OW r he hw h_ rfl;replace hx:=hx.cG r hS he (mC h_);replace hy:=hy.cG r hS he (mC h_);replace hg:=hg.cG r (cC w) he (mC h_);clear r;have hgp:0<Nat.gcd x.natAbs y.natAbs:=bm _ (by omega);generalize Nat.gcd x.natAbs y.natAbs=g at*
  refine dI.mk ?_ ?_<;>intro hs
  ·have hs:=aI hs;rw[show y.sign= -1 by omega,Int.neg_one_mul]at hn hd;refine cD (cE hw (fun _ w' v w2=>dO w2 (Nf w' w2) v (-(g:Int))) (fun O w' r=>mY (Rel.old r (cC w)) ((hg.rel r (cC w)).l (k:=1000000) (by rw[Int.natAbs_natCast];omega)) (by omega)) ?_);rintro O R1 v5 RR Pb r he hw h_ hn;replace hx:=hx.cG r hS he (mC h_);replace hy:=hy.cG r hS he (mC h_);clear hg;have SI:=hn.dB (S:=FF) r.cF (mN h_);clear r hn;obtain⟨C0,C1,C2,C3,rfl⟩:=SI.shape;refine cD (cE hw (fun _ w' v w2=>∃q r,v= .tuple #[q,r,.int .i64 0]∧dO w2 (Nf w' w2) q (Rat.divInt x y).num∧dO w2 (Nf w' w2) r (x % (-(g:Int)))) (fun O w' r=>hn▸jN (Rel.old r hS) (hx.rel r hS) ((((SI.rel r (cC w)).l (k:=1000000) (by rw[cB,Int.natAbs_natCast];omega))).cJ fun g hg=>Cv.false hg) hk (by omega) (by omega)) ?_);rintro O Rx v6 SG Qk r he hw h_ ⟨q,rr,rfl,k1,k2⟩;clear hx;replace hy:=hy.cG r hS he (mC h_);replace SI:=SI.cG r (cC w) he (mC h_);have hq:=k1.dB (S:=FF) r.cF (mN h_);have hr:=k2.dB (S:=FF) r.cF (mN h_);clear r;obtain⟨s6_0a,s6_0b,s6_0c,s6_0d,rfl⟩:=hq.shape;obtain⟨s6_1a,s6_1b,s6_1c,s6_1d,rfl⟩:=hr.shape;clear k1 k2 hr;refine cD (cE hw (fun _ w' v w2=>∃q r,v= .tuple #[q,r,.int .i64 0]∧dO w2 (Nf w' w2) q ((Rat.divInt x y).den:Int)∧dO w2 (Nf w' w2) r (y % (-(g:Int)))) (fun O w' r=>hd▸jN (Rel.old r hS) (hy.rel r hS) ((((SI.rel r (cC w)).l (k:=1000000) (by rw[cB,Int.natAbs_natCast];omega))).cJ fun g hg=>Cv.false hg) hl (by omega) (by omega)) ?_);rintro O UL v7 UM TA r he hw h_ ⟨q,rr,rfl,k1,k2⟩;clear hy;clear SI;replace hq:=hq.cG r (cC w) he (mC h_);have QO:=k1.dB (S:=FF) r.cF (mN h_);have hr:=k2.dB (S:=FF) r.cF (mN h_);clear r;obtain⟨s7_0a,s7_0b,s7_0c,s7_0d,rfl⟩:=QO.shape;obtain⟨s7_1a,s7_1b,s7_1c,s7_1d,rfl⟩:=hr.shape;clear k1 k2 hr;exact rtn hw fun ρe we re=>(cS.of hq QO).out re (cC w)
  have hs:=aH hs;rw[show y.sign=1 by omega,Int.one_mul]at hn hd;refine cD (cE hw (fun _ w' v w2=>∃q r,v= .tuple #[q,r,.int .i64 0]∧dO w2 (Nf w' w2) q (Rat.divInt x y).num∧dO w2 (Nf w' w2) r (x % ((g:Int)))) (fun O w' r=>hn▸jN (Rel.old r hS) (hx.rel r hS) ((((hg.rel r (cC w)).l (k:=1000000) (by rw[Int.natAbs_natCast];omega))).cJ fun g hg=>Cv.false hg) hk (by omega) (by omega)) ?_);rintro O R1 v5 RR Pb r he hw h_ ⟨q,rr,rfl,k1,k2⟩;clear hx;replace hy:=hy.cG r hS he (mC h_);replace hg:=hg.cG r (cC w) he (mC h_);have hq:=k1.dB (S:=FF) r.cF (mN h_);have hr:=k2.dB (S:=FF) r.cF (mN h_);clear r;obtain⟨s5_0a,s5_0b,s5_0c,s5_0d,rfl⟩:=hq.shape;obtain⟨s5_1a,s5_1b,s5_1c,s5_1d,rfl⟩:=hr.shape;clear k1 k2 hr;refine cD (cE hw (fun _ w' v w2=>∃q r,v= .tuple #[q,r,.int .i64 0]∧dO w2 (Nf w' w2) q ((Rat.divInt x y).den:Int)∧dO w2 (Nf w' w2) r (y % ((g:Int)))) (fun O w' r=>hd▸jN (Rel.old r hS) (hy.rel r hS) ((((hg.rel r (cC w)).l (k:=1000000) (by rw[Int.natAbs_natCast];omega))).cJ fun g hg=>Cv.false hg) hl (by omega) (by omega)) ?_);rintro O Rx v6 SG Qk r he hw h_ ⟨q,rr,rfl,k1,k2⟩;clear hy;clear hg;replace hq:=hq.cG r (cC w) he (mC h_);have QO:=k1.dB (S:=FF) r.cF (mN h_);have hr:=k2.dB (S:=FF) r.cF (mN h_);clear r;obtain⟨s6_0a,s6_0b,s6_0c,s6_0d,rfl⟩:=QO.shape;obtain⟨s6_1a,s6_1b,s6_1c,s6_1d,rfl⟩:=hr.shape;clear k1 k2 hr;exact rtn hw fun ρe we re=>(cS.of hq QO).out re (cC w)
 refine cD (cE hw (fun _ w' v w2=>dO w2 (Nf w' w2) v (((Nat.gcd x.natAbs y.natAbs:Nat):Int))) (fun O w' r=>D9 (Rel.old r hS) (hx.rel r hS) (hy.rel r hS) hk hl) ?_);rintro O _ _ _ OU r he hw h_ hn;replace hx:=hx.cG r hS he (mC h_);replace hy:=hy.cG r hS he (mC h_);have hg:=hn.dB (S:=FF) r.cF (mN h_);clear r hn;obtain⟨A0,A1,A2,A3,rfl⟩:=hg.shape;refine cD (cE hw (fun _ w' v w2=>v= .int .i64 y.sign) (fun O w' r=>gi (Rel.old r hS) (hy.rel r hS).r) ?_);rintro O _ _ _ OW r he hw h_ rfl;replace hx:=hx.cG r hS he (mC h_);replace hy:=hy.cG r hS he (mC h_);replace hg:=hg.cG r (cC w) he (mC h_);clear r;have hgp:0<Nat.gcd x.natAbs y.natAbs:=bm _ (by omega);generalize Nat.gcd x.natAbs y.natAbs=g at*
 refine dI.mk ?_ ?_<;>intro hs
 ·have hs:=aI hs;rw[show y.sign= -1 by omega,Int.neg_one_mul]at hn hd;refine cD (cE hw (fun _ w' v w2=>dO w2 (Nf w' w2) v (-(g:Int))) (fun O w' r=>mY (Rel.old r (cC w)) ((hg.rel r (cC w)).l (k:=1000000) (by rw[Int.natAbs_natCast];omega)) (by omega)) ?_);rintro O R1 v5 RR Pb r he hw h_ hn;replace hx:=hx.cG r hS he (mC h_);replace hy:=hy.cG r hS he (mC h_);clear hg;have SI:=hn.dB (S:=FF) r.cF (mN h_);clear r hn;obtain⟨C0,C1,C2,C3,rfl⟩:=SI.shape;refine cD (cE hw (fun _ w' v w2=>∃q r,v= .tuple #[q,r,.int .i64 0]∧dO w2 (Nf w' w2) q (Rat.divInt x y).num∧dO w2 (Nf w' w2) r (x % (-(g:Int)))) (fun O w' r=>hn▸jN (Rel.old r hS) (hx.rel r hS) ((((SI.rel r (cC w)).l (k:=1000000) (by rw[cB,Int.natAbs_natCast];omega))).cJ fun g hg=>Cv.false hg) hk (by omega) (by omega)) ?_);rintro O Rx v6 SG Qk r he hw h_ ⟨q,rr,rfl,k1,k2⟩;clear hx;replace hy:=hy.cG r hS he (mC h_);replace SI:=SI.cG r (cC w) he (mC h_);have hq:=k1.dB (S:=FF) r.cF (mN h_);have hr:=k2.dB (S:=FF) r.cF (mN h_);clear r;obtain⟨s6_0a,s6_0b,s6_0c,s6_0d,rfl⟩:=hq.shape;obtain⟨s6_1a,s6_1b,s6_1c,s6_1d,rfl⟩:=hr.shape;clear k1 k2 hr;refine cD (cE hw (fun _ w' v w2=>∃q r,v= .tuple #[q,r,.int .i64 0]∧dO w2 (Nf w' w2) q ((Rat.divInt x y).den:Int)∧dO w2 (Nf w' w2) r (y % (-(g:Int)))) (fun O w' r=>hd▸jN (Rel.old r hS) (hy.rel r hS) ((((SI.rel r (cC w)).l (k:=1000000) (by rw[cB,Int.natAbs_natCast];omega))).cJ fun g hg=>Cv.false hg) hl (by omega) (by omega)) ?_);rintro O _ _ _ TA r he hw h_ ⟨q,rr,rfl,k1,k2⟩;clear hy;clear SI;replace hq:=hq.cG r (cC w) he (mC h_);have QO:=k1.dB (S:=FF) r.cF (mN h_);have hr:=k2.dB (S:=FF) r.cF (mN h_);clear r;obtain⟨s7_0a,s7_0b,s7_0c,s7_0d,rfl⟩:=QO.shape;obtain⟨s7_1a,s7_1b,s7_1c,s7_1d,rfl⟩:=hr.shape;clear k1 k2 hr;exact rtn hw fun ρe we re=>(cS.of hq QO).out re (cC w)
 have hs:=aH hs;rw[show y.sign=1 by omega,Int.one_mul]at hn hd;refine cD (cE hw (fun _ w' v w2=>∃q r,v= .tuple #[q,r,.int .i64 0]∧dO w2 (Nf w' w2) q (Rat.divInt x y).num∧dO w2 (Nf w' w2) r (x % ((g:Int)))) (fun O w' r=>hn▸jN (Rel.old r hS) (hx.rel r hS) ((((hg.rel r (cC w)).l (k:=1000000) (by rw[Int.natAbs_natCast];omega))).cJ fun g hg=>Cv.false hg) hk (by omega) (by omega)) ?_);rintro O _ _ _ Pb r he hw h_ ⟨q,rr,rfl,k1,k2⟩;clear hx;replace hy:=hy.cG r hS he (mC h_);replace hg:=hg.cG r (cC w) he (mC h_);have hq:=k1.dB (S:=FF) r.cF (mN h_);have hr:=k2.dB (S:=FF) r.cF (mN h_);clear r;obtain⟨s5_0a,s5_0b,s5_0c,s5_0d,rfl⟩:=hq.shape;obtain⟨s5_1a,s5_1b,s5_1c,s5_1d,rfl⟩:=hr.shape;clear k1 k2 hr;refine cD (cE hw (fun _ w' v w2=>∃q r,v= .tuple #[q,r,.int .i64 0]∧dO w2 (Nf w' w2) q ((Rat.divInt x y).den:Int)∧dO w2 (Nf w' w2) r (y % ((g:Int)))) (fun O w' r=>hd▸jN (Rel.old r hS) (hy.rel r hS) ((((hg.rel r (cC w)).l (k:=1000000) (by rw[Int.natAbs_natCast];omega))).cJ fun g hg=>Cv.false hg) hl (by omega) (by omega)) ?_);rintro O _ _ _ Qk r he hw h_ ⟨q,rr,rfl,k1,k2⟩;clear hy;clear hg;replace hq:=hq.cG r (cC w) he (mC h_);have QO:=k1.dB (S:=FF) r.cF (mN h_);have hr:=k2.dB (S:=FF) r.cF (mN h_);clear r;obtain⟨s6_0a,s6_0b,s6_0c,s6_0d,rfl⟩:=QO.shape;obtain⟨s6_1a,s6_1b,s6_1c,s6_1d,rfl⟩:=hr.shape;clear k1 k2 hr;exact rtn hw fun ρe we re=>(cS.of hq QO).out re (cC w)
def eS(w:World)(S:Nat->Prop)(v:Value)(q:Rat):Prop:=∃b1 l1 b2 l2 a b,v= .agg #[.bool b1,l1,.bool b2,l2]∧fa w S (.agg #[.bool b1,l1]) 100000 a∧fa w S (.agg #[.bool b2,l2]) 100000 b∧ratio a b=q
theorem eS.cI{w2:World}{v:Value}(h:eS w S v q)(hk:∀g,S g->w2.heap[g]? =w.heap[g]?):eS w2 S v q:=by
 obtain⟨b1,l1,b2,l2,a,b,h1,h2,h3,h4⟩:=h;exact⟨b1,l1,b2,l2,a,b,h1,h2.cI hk,h3.cI hk,h4⟩
theorem eS.cJ{S':Nat->Prop}{v:Value}(h:eS w S v q)(hk:∀g,S g->S' g):eS w S' v q:=by
 obtain⟨b1,l1,b2,l2,a,b,h1,h2,h3,h4⟩:=h;exact⟨b1,l1,b2,l2,a,b,h1,h2.cJ hk,h3.cJ hk,h4⟩
theorem eS.r{v:Value}(h:eS w S v q):∃a b,iU w S v a b∧ratio a b=q:=by
 obtain⟨b1,l1,b2,l2,a,b,rfl,h2,h3,h4⟩:=h;exact⟨a,b,⟨b1,l1,b2,l2,rfl,h2.r,h3.r⟩,h4⟩
theorem eS.v{v:Value}(h:eS w S v q):qz w S v q:=by
 obtain⟨b1,l1,b2,l2,a,b,rfl,h2,h3,h4⟩:=h;exact⟨a,b,⟨b1,l1,b2,l2,rfl,h2.r,h3.r⟩,h4,h2.ln,h3.ln⟩
theorem eS.shape{v:Value}(h:eS w S v q):∃b a n c b2 a2 n2 c2,v= .agg #[.bool b,.slice a n c,.bool b2,.slice a2 n2 c2]:=h.v.shape
theorem eS.rl{v:Value}(h:eS w S v q):rl q<=100000:=by
 obtain⟨b1,l1,b2,l2,a,b,rfl,h2,h3,rfl⟩:=h;have:=iS a b;have:=h2.ln;have:=h3.ln;omega
theorem cS.l{v:Value}(h:cS w S v q)(hl:rl q<=100000):eS w S v q:=by
 obtain⟨b1,l1,b2,l2,h1,h2,h3⟩:=h;exact⟨b1,l1,b2,l2,_,_,h1,h2.l (aY (fp q) hl),h3.l (aY (fF q) hl),pK q⟩
theorem Mh(a b:Int):rs (ratio a b)=if b.sign<0 then -a.sign else a.sign:=by
 have sb:=gH b;rw[ratio];split
 ·rw[aK (by omega),rs,uV (by decide)]
 ·split
  ·rw[show Rat.divInt a b=Rat.divInt (-a) (-b)from(Rat.neg_divInt_neg a b).symm,rs,uV (by omega),Int.sign_neg]
  ·rw[rs,uV (by omega)]
theorem js{a c:Int}:(a.natAbs<1073741824)->(c.natAbs<1073741824)->(a*c).natAbs<=1152921502459363329:=fun h1 h2=>by
 rw[Int.natAbs_mul];exact Nat.mul_le_mul (show a.natAbs<=1073741823 by omega) (show c.natAbs<=1073741823 by omega)
section
variable{S S':Nat->Prop}{H:Hp}{nx:Nat}{iv iv':Iv}{B:Nat}{w w' w2:World}{O:Nat->Sx.di}{v:Value}{q:Rat}
theorem eS.rel(h:eS w (Cv S B iv) v q)(r:Rel H nx iv B w O w')(hS:∀g,S g->g<B):eS w' (Cv S B iv) v q:=h.cI fun _ hg=>Rel.same r hS hg
theorem eS.cG(h:eS w (Cv S B iv) v q)(r:Rel H nx iv B w O w')(hS:∀g,S g->g<B)(he:Ext w' w2)(hm:∀p,p∈iv->p∈iv'):eS w2 (Cv S B iv') v q:=
 ((h.rel r hS).cI fun g hg=>he.block g (Rel.old r hS g hg)).cJ fun _ hg=>hg.mono hm
theorem eS.arg(h:eS w S v q)(iv:Iv):eS w (Cv S w.heap.size iv) v q:=h.cJ fun _ h=>.inl h
end
theorem th{v:Value}{a b:Int}(hS:Old S w)(hp:iU w S v a b):
  eD PG N.kB #[v] w (eG w fun v' _=>v'= .int .i64 (rs (ratio a b))):=by
 have hw:=bR w;obtain⟨b1,l1,b2,l2,rfl,ha,Q3⟩:=hp;obtain⟨_,a1,n1,c1,e1⟩:=ha.shape;obtain⟨_,a2,n2,c2,e2⟩:=Q3.shape;simp only[Value.agg.injEq,Array.mk.injEq,List.cons.injEq,and_true]at e1 e2;obtain⟨_,rfl⟩:=e1;obtain⟨_,rfl⟩:=e2;replace ha:=ha.cJ (S':=Cv S w.heap.size []) fun _ h=>.inl h;replace Q3:=Q3.cJ (S':=Cv S w.heap.size []) fun _ h=>.inl h;have hr:=Mh a b;have sa:=gH a;refine yU (by simp) ?_;refine cD (cE hw (fun _ w' v w2=>v= .int .i64 b.sign) (fun O w' r=>gi (Rel.old r hS) (Q3.rel r hS)) ?_);rintro O _ _ _ OP r he hw h_ rfl;replace ha:=ha.cG r hS he (mC h_);refine dI.mk ?_ ?_<;>intro h
 ·have h:=aI h;rw[if_pos h]at hr;refine cD (cE hw (fun _ w' v w2=>v= .int .i64 a.sign) (fun O w' r=>gi (Rel.old r hS) (ha.rel r hS)) ?_);rintro O QB v2 PI ON r he hw h_ rfl;refine⟨-a.sign,wo,?_⟩;exact rtn hw fun ρe we re=>by rw[hr];rfl
 have h:=aH h;rw[aK h]at hr;refine cD (cE hw (fun _ w' v w2=>v= .int .i64 a.sign) (fun O w' r=>gi (Rel.old r hS) (ha.rel r hS)) ?_);rintro O _ _ _ ON r he hw h_ rfl;exact rtn hw fun ρe we re=>by rw[hr];rfl
theorem KV{v:Value}(hS:Old S w)(hp:cS w S v p):eD PG N.kB #[v] w (eG w fun v' _=>v'= .int .i64 (rs p)):=by
 have:=th hS hp.r;rw[pK]at this;exact this
theorem jb{v:Value}(hS:Old S w)(hp:eS w S v p):eD PG N.kB #[v] w (eG w fun v' _=>v'= .int .i64 (rs p)):=by
 obtain⟨a,b,h1,rfl⟩:=hp.r;exact th hS h1
theorem gF{v:Value}(hS:Old S w)(hp:eS w S v p):
  eD PG N.ub #[v] w (eG w fun v' w2=>cS w2 (Nf w w2) v' p):=by
 have hw:=bR w;obtain⟨b1,l1,b2,l2,a,b,rfl,ha,Q3,rfl⟩:=hp;obtain⟨_,a1,n1,c1,e1⟩:=ha.shape;obtain⟨_,a2,n2,c2,e2⟩:=Q3.shape;simp only[Value.agg.injEq,Array.mk.injEq,List.cons.injEq,and_true]at e1 e2;obtain⟨_,rfl⟩:=e1;obtain⟨_,rfl⟩:=e2;replace ha:=ha.cJ (S':=Cv S w.heap.size []) fun _ h=>.inl h;replace Q3:=Q3.cJ (S':=Cv S w.heap.size []) fun _ h=>.inl h;have sb:=gH b;refine yc (by simp) ?_;refine cD (cO (Φ:=fun _ w' v w2=>v= .int .i64 b.sign) (fun O w' r=>gi (Rel.old r hS) (Q3.rel r hS).r) ?_);rintro O QA v1 Pg r he hb rfl;replace hw:=hw.tr hb;replace ha:=ha.cG (iv':=(QA.heap.size,Pg.heap.size)::[]) r hS he fun x hx=>List.mem_cons_of_mem _ hx;replace Q3:=Q3.cG (iv':=(QA.heap.size,Pg.heap.size)::[]) r hS he fun x hx=>List.mem_cons_of_mem _ hx;generalize (QA.heap.size,Pg.heap.size)::[]=OP at*
 refine dI.mk ?_ ?_<;>intro h
 ·have h:b.sign=0:=by simpa using h
  obtain rfl:b=0:=by omega
  rw[show ratio a 0=Rat.divInt a 1 from if_pos rfl];refine cK hτ da [.x 0,.x 1,.x 2,.x 3,.x 4] (by kernel_rfl) (by kernel_rfl) ?_;refine cO (Φ:=fun _ w' v w2=>dO w2 (Nf w' w2) v (1)) (fun O w' r=>lN _ w' (by decide) (by decide)) ?_;rintro O QB v2 PI r he hb hn;replace hw:=hw.tr hb;replace ha:=ha.cG (iv':=(QB.heap.size,PI.heap.size)::OP) r hS he fun x hx=>List.mem_cons_of_mem _ hx;replace Q3:=Q3.cG (iv':=(QB.heap.size,PI.heap.size)::OP) r hS he fun x hx=>List.mem_cons_of_mem _ hx;have h1:=hn.dB (S:=FF) r.cF (iv:=(QB.heap.size,PI.heap.size)::OP) aG;generalize (QB.heap.size,PI.heap.size)::OP=ON at*
  obtain⟨A0,A1,A2,A3,rfl⟩:=h1.shape;refine cO (Φ:=fun _ w' v w2=>cS w2 (Nf w' w2) v (Rat.divInt a 1)) (fun O w' r=>ki (Rel.old r hS) (ha.rel r hS) (((h1.rel r (cC w)).l (k:=1) (by decide)).cJ fun g hg=>Cv.false hg) (by omega) (by omega) (by decide)) ?_;rintro O PX v3 PT r he hb hn;replace hw:=hw.tr hb;replace ha:=ha.cG (iv':=(PX.heap.size,PT.heap.size)::ON) r hS he fun x hx=>List.mem_cons_of_mem _ hx;replace Q3:=Q3.cG (iv':=(PX.heap.size,PT.heap.size)::ON) r hS he fun x hx=>List.mem_cons_of_mem _ hx;replace h1:=h1.cG (iv':=(PX.heap.size,PT.heap.size)::ON) r (cC w) he fun x hx=>List.mem_cons_of_mem _ hx;have hR:=hn.dB (S:=FF) r.cF (iv:=(PX.heap.size,PT.heap.size)::ON) aG;generalize (PX.heap.size,PT.heap.size)::ON=OU at*
  obtain⟨C0,C1,C2,C3,C4,C5,C6,C7,rfl⟩:=hR.shape;exact rtn hw fun ρe we re=>hR.out re (cC w)
 have h:b.sign≠0:=by simpa using h
 have hb0:b≠0:=by omega
 rw[show ratio a b=Rat.divInt a b from aK hb0];refine cD (cO (Φ:=fun _ w' v w2=>cS w2 (Nf w' w2) v (Rat.divInt a b)) (fun O w' r=>ki (Rel.old r hS) (ha.rel r hS) (Q3.rel r hS) (by omega) (by omega) hb0) ?_);rintro O QB v2 PI r he hb hn;replace hw:=hw.tr hb;replace ha:=ha.cG (iv':=(QB.heap.size,PI.heap.size)::OP) r hS he fun x hx=>List.mem_cons_of_mem _ hx;replace Q3:=Q3.cG (iv':=(QB.heap.size,PI.heap.size)::OP) r hS he fun x hx=>List.mem_cons_of_mem _ hx;have hR:=hn.dB (S:=FF) r.cF (iv:=(QB.heap.size,PI.heap.size)::OP) aG;generalize (QB.heap.size,PI.heap.size)::OP=ON at*
 obtain⟨A0,A1,A2,A3,A4,A5,A6,A7,rfl⟩:=hR.shape;exact rtn hw fun ρe we re=>hR.out re (cC w)
theorem zP{v:Value}(hS:Old S w)(hp:eS w S v p):
  eD PG N.xp #[v] w (eG w fun v' _=>∃n d ok,v'= .tuple #[.int .i64 n,.int .i64 d,.bool ok]∧(ok=true->d≠0∧n.natAbs<1073741824∧d.natAbs<1073741824∧Rat.divInt n d=p)):=by
 have hw:=bR w;obtain⟨b1,l1,b2,l2,a,b,rfl,ha,Q3,rfl⟩:=hp;obtain⟨_,a1,n1,c1,e1⟩:=ha.shape;obtain⟨_,a2,n2,c2,e2⟩:=Q3.shape;simp only[Value.agg.injEq,Array.mk.injEq,List.cons.injEq,and_true]at e1 e2;obtain⟨_,rfl⟩:=e1;obtain⟨_,rfl⟩:=e2;replace ha:=ha.cJ (S':=Cv S w.heap.size []) fun _ h=>.inl h;replace Q3:=Q3.cJ (S':=Cv S w.heap.size []) fun _ h=>.inl h;refine BA (by simp) ?_
 refine cD (cO (Φ:=fun _ w' v w2=>∃n p,v= .tuple #[.int .i64 n,.bool p]∧(p=true->n=a∧a.natAbs<1073741824)) (fun O w' r=>(oP (Rel.old r hS) (ha.rel r hS).r).mono fun e w2 ⟨v2,e1,e2,e3⟩=>⟨v2,e1,e2,by
   rw[e3,kL];split
   ·exact⟨_,_,rfl,fun _=>⟨rfl,‹_›⟩⟩
   ·exact⟨_,_,rfl,fun h=>by cases h⟩⟩) ?_)
 rintro O QA v1 Pg r he hb ⟨na,pa,rfl,qa⟩;replace hw:=hw.tr hb;replace ha:=ha.cG (iv':=(QA.heap.size,Pg.heap.size)::[]) r hS he fun x hx=>List.mem_cons_of_mem _ hx;replace Q3:=Q3.cG (iv':=(QA.heap.size,Pg.heap.size)::[]) r hS he fun x hx=>List.mem_cons_of_mem _ hx;generalize (QA.heap.size,Pg.heap.size)::[]=OP at*
 refine cD (cO (Φ:=fun _ w' v w2=>∃n p,v= .tuple #[.int .i64 n,.bool p]∧(p=true->n=b∧b.natAbs<1073741824)) (fun O w' r=>(oP (Rel.old r hS) (Q3.rel r hS).r).mono fun e w2 ⟨v2,e1,e2,e3⟩=>⟨v2,e1,e2,by
   rw[e3,kL];split
   ·exact⟨_,_,rfl,fun _=>⟨rfl,‹_›⟩⟩
   ·exact⟨_,_,rfl,fun h=>by cases h⟩⟩) ?_)
 rintro O QB v2 PI r he hb ⟨nb,pb,rfl,qb⟩;replace hw:=hw.tr hb;replace ha:=ha.cG (iv':=(QB.heap.size,PI.heap.size)::OP) r hS he fun x hx=>List.mem_cons_of_mem _ hx;replace Q3:=Q3.cG (iv':=(QB.heap.size,PI.heap.size)::OP) r hS he fun x hx=>List.mem_cons_of_mem _ hx;generalize (QB.heap.size,PI.heap.size)::OP=ON at*
 refine dI.mk ?_ ?_<;>intro h
 ·have h:nb=0:=by simpa using h
  refine dI.mk ?_ ?_<;>intro h1
  ·intro ρe we re
   exact⟨_,rfl,hw.tr re.cQ,⟨na,1,pb,rfl,fun h2=>by
     obtain⟨rfl,hx⟩:=qa h1;obtain⟨rfl,hy⟩:=qb h2;rw[h]
     exact⟨by decide,hx,by decide,(if_pos rfl).symm⟩⟩⟩
  exact rtn hw fun ρe we re=>⟨na,1,false,rfl,fun h2=>by cases h2⟩
 have h:nb≠0:=by simpa using h
 refine dI.mk ?_ ?_<;>intro h1
 ·intro ρe we re
  exact⟨_,rfl,hw.tr re.cQ,⟨na,nb,pb,rfl,fun h2=>by
    obtain⟨rfl,hx⟩:=qa h1;obtain⟨rfl,hy⟩:=qb h2
    exact⟨h,hx,hy,(aK h).symm⟩⟩⟩
 exact rtn hw fun ρe we re=>⟨na,nb,false,rfl,fun h2=>by cases h2⟩
theorem IF{v:Value}(hS:Old S w)(hp:eS w S v p)(hq:eS w S u q):
  eD PG N.Cy #[v,u] w (eG w fun v' w2=>cS w2 (Nf w w2) v' (p+q)):=by
 have hw:=bR w;replace hp:=hp.cJ (S':=Cv S w.heap.size []) fun _ h=>.inl h;replace hq:=hq.cJ (S':=Cv S w.heap.size []) fun _ h=>.inl h;obtain⟨b1,a1,n1,c1,b2,a2,n2,c2,rfl⟩:=hp.shape;obtain⟨b3,a3,n3,c3,b4,a4,n4,c4,rfl⟩:=hq.shape;refine EB (by simp) ?_;have r1:=hp.rl;have r2:=hq.rl;have u1:=fp p;have u2:=fF p;have u3:=fp q;have u4:=fF q;refine cD (cE hw (fun _ w' v w2=>∃n d ok,v= .tuple #[.int .i64 n,.int .i64 d,.bool ok]∧(ok=true->d≠0∧n.natAbs<1073741824∧d.natAbs<1073741824∧Rat.divInt n d=p)) (fun O w' r=>zP (Rel.old r hS) (hp.rel r hS)) ?_);rintro O _ _ _ OP r he hw h_ ⟨a,b,k1,rfl,g1⟩;replace hp:=hp.cG r hS he (mC h_);replace hq:=hq.cG r hS he (mC h_);refine cD (cE hw (fun _ w' v w2=>∃n d ok,v= .tuple #[.int .i64 n,.int .i64 d,.bool ok]∧(ok=true->d≠0∧n.natAbs<1073741824∧d.natAbs<1073741824∧Rat.divInt n d=q)) (fun O w' r=>zP (Rel.old r hS) (hq.rel r hS)) ?_);rintro O _ _ _ ON r he hw h_ ⟨c,d,k2,rfl,g2⟩;replace hp:=hp.cG r hS he (mC h_);replace hq:=hq.cG r hS he (mC h_);refine dI.mk ?_ ?_<;>intro h1
 ·refine dI.mk ?_ ?_<;>intro h2
  ·obtain⟨g3,g4,g5,g6⟩:=g1 h1;obtain⟨g7,g8,g9,g10⟩:=g2 h2;have i1:=js g4 g9;have i2:=js g8 g5;have i3:=js g5 g9;have i4:=js g4 g8;refine⟨a*d,wo,c*b,wo,a*d+c*b,wo,b*d,wo,?_⟩;have e:=Rat.divInt_add_divInt a c g3 g7;rw[g6,g10]at e;refine cD (cE hw (fun _ w' v w2=>cS w2 (Nf w' w2) v (p+q)) (fun O w' r=>e▸r8 (a*d+c*b) (b*d) w' (by omega) (by omega) (kZ g3 g7)) ?_);rintro O PX v3 PT OU r he hw h_ hn;have hR:=hn.dB (S:=FF) r.cF (mN h_);obtain⟨A0,A1,A2,A3,A4,A5,A6,A7,rfl⟩:=hR.shape;exact rtn hw fun ρe we re=>hR.out re (cC w)
  refine cK hτ da [.x 0,.x 2,.x 1,.x 3,.x 4,.x 5] (by kernel_rfl) (by kernel_rfl) ?_;refine cE hw (fun _ w' v w2=>cS w2 (Nf w' w2) v (p)) (fun O w' r=>gF (Rel.old r hS) (hp.rel r hS)) ?_;rintro O PX v3 PT OU r he hw h_ hn;replace hq:=hq.cG r hS he (mC h_);have hX:=hn.dB (S:=FF) r.cF (mN h_);obtain⟨A0,A1,A2,A3,A4,A5,A6,A7,rfl⟩:=hX.shape;refine cE hw (fun _ w' v w2=>cS w2 (Nf w' w2) v (q)) (fun O w' r=>gF (Rel.old r hS) (hq.rel r hS)) ?_;rintro O Qd v4 Q5 OW r he hw h_ hn;replace hX:=hX.cG r (cC w) he (mC h_);have hY:=hn.dB (S:=FF) r.cF (mN h_);obtain⟨C0,C1,C2,C3,C4,C5,C6,C7,rfl⟩:=hY.shape;have Q8:=hX.num;have QF:=hX.den;have Q9:=hY.num;have Qa:=hY.den;have m0:=cd p.num q.den;have m1:=cd q.num p.den;have m2:=cd (p.den:Int) q.den;have m3:=iw (p.num*q.den) (q.num*p.den);have m4:=cd p.num q.num;refine cK hτ da [.x 0,.x 1,.x 2,.x 3,.x 5,.x 6,.x 7,.x 8,.x 11,.x 12,.x 13,.x 14,.x 4,.x 9,.x 10,.x 15,.x 16,.x 17] (by kernel_rfl) (by kernel_rfl) ?_;refine cE hw (fun _ w' v w2=>dO w2 (Nf w' w2) v (p.num*(q.den:Int))) (fun O w' r=>iR (Rel.old r (cC w)) ((Q8.rel r (cC w)).l (k:=100000) (by omega)) ((Qa.rel r (cC w)).l (k:=100000) (by omega)) (by omega) (by omega)) ?_;rintro O R1 v5 RR Pb r he hw h_ hn;replace Q8:=Q8.cG r (cC w) he (mC h_);replace QF:=QF.cG r (cC w) he (mC h_);replace Q9:=Q9.cG r (cC w) he (mC h_);replace Qa:=Qa.cG r (cC w) he (mC h_);have hA:=hn.dB (S:=FF) r.cF (mN h_);obtain⟨F0,F1,F2,F3,rfl⟩:=hA.shape;refine cE hw (fun _ w' v w2=>dO w2 (Nf w' w2) v (q.num*(p.den:Int))) (fun O w' r=>iR (Rel.old r (cC w)) ((Q9.rel r (cC w)).l (k:=100000) (by omega)) ((QF.rel r (cC w)).l (k:=100000) (by omega)) (by omega) (by omega)) ?_;rintro O Rx v6 SG Qk r he hw h_ hn;replace Q8:=Q8.cG r (cC w) he (mC h_);replace QF:=QF.cG r (cC w) he (mC h_);replace Q9:=Q9.cG r (cC w) he (mC h_);replace Qa:=Qa.cG r (cC w) he (mC h_);replace hA:=hA.cG r (cC w) he (mC h_);have hB:=hn.dB (S:=FF) r.cF (mN h_);obtain⟨G0,G1,G2,G3,rfl⟩:=hB.shape;refine cE hw (fun _ w' v w2=>dO w2 (Nf w' w2) v (p.num*(q.den:Int)+q.num*(p.den:Int))) (fun O w' r=>Ba (Rel.old r (cC w)) ((hA.rel r (cC w)).l (k:=200000) (by omega)) ((hB.rel r (cC w)).l (k:=200000) (by omega)) (by omega) (by omega)) ?_;rintro O UL v7 UM TA r he hw h_ hn;replace Q8:=Q8.cG r (cC w) he (mC h_);replace QF:=QF.cG r (cC w) he (mC h_);replace Q9:=Q9.cG r (cC w) he (mC h_);replace Qa:=Qa.cG r (cC w) he (mC h_);have hN:=hn.dB (S:=FF) r.cF (mN h_);obtain⟨J0,J1,J2,J3,rfl⟩:=hN.shape;refine cE hw (fun _ w' v w2=>dO w2 (Nf w' w2) v ((p.den:Int)*(q.den:Int))) (fun O w' r=>iR (Rel.old r (cC w)) ((QF.rel r (cC w)).l (k:=100000) (by omega)) ((Qa.rel r (cC w)).l (k:=100000) (by omega)) (by omega) (by omega)) ?_;rintro O SH v8 Ri RF r he hw h_ hn;replace Q8:=Q8.cG r (cC w) he (mC h_);replace QF:=QF.cG r (cC w) he (mC h_);replace Q9:=Q9.cG r (cC w) he (mC h_);replace Qa:=Qa.cG r (cC w) he (mC h_);replace hN:=hN.cG r (cC w) he (mC h_);have hD:=hn.dB (S:=FF) r.cF (mN h_);obtain⟨K0,K1,K2,K3,rfl⟩:=hD.shape;refine cE hw (fun _ w' v w2=>cS w2 (Nf w' w2) v (p+q)) (fun O w' r=>(uU p q)▸ki (Rel.old r (cC w)) ((hN.rel r (cC w)).l (k:=200001) (by omega)) ((hD.rel r (cC w)).l (k:=200001) (by omega)) (by omega) (by omega) (kZ (gK p) (gK q))) ?_;rintro O Qm v9 Qf Rg r he hw h_ hn;have hR:=hn.dB (S:=FF) r.cF (mN h_);obtain⟨N0,N1,N2,N3,N4,N5,N6,N7,rfl⟩:=hR.shape;exact rtn hw fun ρe we re=>hR.out re (cC w)
 refine cK hτ da [.x 0,.x 2,.x 1,.x 3,.x 4,.x 5] (by kernel_rfl) (by kernel_rfl) ?_;refine cE hw (fun _ w' v w2=>cS w2 (Nf w' w2) v (p)) (fun O w' r=>gF (Rel.old r hS) (hp.rel r hS)) ?_;rintro O _ _ _ OU r he hw h_ hn;replace hq:=hq.cG r hS he (mC h_);have hX:=hn.dB (S:=FF) r.cF (mN h_);obtain⟨A0,A1,A2,A3,A4,A5,A6,A7,rfl⟩:=hX.shape;refine cE hw (fun _ w' v w2=>cS w2 (Nf w' w2) v (q)) (fun O w' r=>gF (Rel.old r hS) (hq.rel r hS)) ?_;rintro O _ _ _ OW r he hw h_ hn;replace hX:=hX.cG r (cC w) he (mC h_);have hY:=hn.dB (S:=FF) r.cF (mN h_);obtain⟨C0,C1,C2,C3,C4,C5,C6,C7,rfl⟩:=hY.shape;have Q8:=hX.num;have QF:=hX.den;have Q9:=hY.num;have Qa:=hY.den;have m0:=cd p.num q.den;have m1:=cd q.num p.den;have m2:=cd (p.den:Int) q.den;have m3:=iw (p.num*q.den) (q.num*p.den);have m4:=cd p.num q.num;refine cK hτ da [.x 0,.x 1,.x 2,.x 3,.x 5,.x 6,.x 7,.x 8,.x 11,.x 12,.x 13,.x 14,.x 4,.x 9,.x 10,.x 15,.x 16,.x 17] (by kernel_rfl) (by kernel_rfl) ?_;refine cE hw (fun _ w' v w2=>dO w2 (Nf w' w2) v (p.num*(q.den:Int))) (fun O w' r=>iR (Rel.old r (cC w)) ((Q8.rel r (cC w)).l (k:=100000) (by omega)) ((Qa.rel r (cC w)).l (k:=100000) (by omega)) (by omega) (by omega)) ?_;rintro O _ _ _ Pb r he hw h_ hn;replace Q8:=Q8.cG r (cC w) he (mC h_);replace QF:=QF.cG r (cC w) he (mC h_);replace Q9:=Q9.cG r (cC w) he (mC h_);replace Qa:=Qa.cG r (cC w) he (mC h_);have hA:=hn.dB (S:=FF) r.cF (mN h_);obtain⟨F0,F1,F2,F3,rfl⟩:=hA.shape;refine cE hw (fun _ w' v w2=>dO w2 (Nf w' w2) v (q.num*(p.den:Int))) (fun O w' r=>iR (Rel.old r (cC w)) ((Q9.rel r (cC w)).l (k:=100000) (by omega)) ((QF.rel r (cC w)).l (k:=100000) (by omega)) (by omega) (by omega)) ?_;rintro O _ _ _ Qk r he hw h_ hn;replace Q8:=Q8.cG r (cC w) he (mC h_);replace QF:=QF.cG r (cC w) he (mC h_);replace Q9:=Q9.cG r (cC w) he (mC h_);replace Qa:=Qa.cG r (cC w) he (mC h_);replace hA:=hA.cG r (cC w) he (mC h_);have hB:=hn.dB (S:=FF) r.cF (mN h_);obtain⟨G0,G1,G2,G3,rfl⟩:=hB.shape;refine cE hw (fun _ w' v w2=>dO w2 (Nf w' w2) v (p.num*(q.den:Int)+q.num*(p.den:Int))) (fun O w' r=>Ba (Rel.old r (cC w)) ((hA.rel r (cC w)).l (k:=200000) (by omega)) ((hB.rel r (cC w)).l (k:=200000) (by omega)) (by omega) (by omega)) ?_;rintro O _ _ _ TA r he hw h_ hn;replace Q8:=Q8.cG r (cC w) he (mC h_);replace QF:=QF.cG r (cC w) he (mC h_);replace Q9:=Q9.cG r (cC w) he (mC h_);replace Qa:=Qa.cG r (cC w) he (mC h_);have hN:=hn.dB (S:=FF) r.cF (mN h_);obtain⟨J0,J1,J2,J3,rfl⟩:=hN.shape;refine cE hw (fun _ w' v w2=>dO w2 (Nf w' w2) v ((p.den:Int)*(q.den:Int))) (fun O w' r=>iR (Rel.old r (cC w)) ((QF.rel r (cC w)).l (k:=100000) (by omega)) ((Qa.rel r (cC w)).l (k:=100000) (by omega)) (by omega) (by omega)) ?_;rintro O _ _ _ RF r he hw h_ hn;replace Q8:=Q8.cG r (cC w) he (mC h_);replace QF:=QF.cG r (cC w) he (mC h_);replace Q9:=Q9.cG r (cC w) he (mC h_);replace Qa:=Qa.cG r (cC w) he (mC h_);replace hN:=hN.cG r (cC w) he (mC h_);have hD:=hn.dB (S:=FF) r.cF (mN h_);obtain⟨K0,K1,K2,K3,rfl⟩:=hD.shape;refine cE hw (fun _ w' v w2=>cS w2 (Nf w' w2) v (p+q)) (fun O w' r=>(uU p q)▸ki (Rel.old r (cC w)) ((hN.rel r (cC w)).l (k:=200001) (by omega)) ((hD.rel r (cC w)).l (k:=200001) (by omega)) (by omega) (by omega) (kZ (gK p) (gK q))) ?_;rintro O _ _ _ Rg r he hw h_ hn;have hR:=hn.dB (S:=FF) r.cF (mN h_);obtain⟨N0,N1,N2,N3,N4,N5,N6,N7,rfl⟩:=hR.shape;exact rtn hw fun ρe we re=>hR.out re (cC w)
theorem IA{v:Value}(hS:Old S w)(hp:eS w S v p)(hq:eS w S u q):
  eD PG N.DB #[v,u] w (eG w fun v' w2=>cS w2 (Nf w w2) v' (p*q)):=by
 have hw:=bR w;replace hp:=hp.cJ (S':=Cv S w.heap.size []) fun _ h=>.inl h;replace hq:=hq.cJ (S':=Cv S w.heap.size []) fun _ h=>.inl h;obtain⟨b1,a1,n1,c1,b2,a2,n2,c2,rfl⟩:=hp.shape;obtain⟨b3,a3,n3,c3,b4,a4,n4,c4,rfl⟩:=hq.shape;refine EG (by simp) ?_;have r1:=hp.rl;have r2:=hq.rl;have u1:=fp p;have u2:=fF p;have u3:=fp q;have u4:=fF q;refine cD (cE hw (fun _ w' v w2=>∃n d ok,v= .tuple #[.int .i64 n,.int .i64 d,.bool ok]∧(ok=true->d≠0∧n.natAbs<1073741824∧d.natAbs<1073741824∧Rat.divInt n d=p)) (fun O w' r=>zP (Rel.old r hS) (hp.rel r hS)) ?_);rintro O _ _ _ OP r he hw h_ ⟨a,b,k1,rfl,g1⟩;replace hp:=hp.cG r hS he (mC h_);replace hq:=hq.cG r hS he (mC h_);refine cD (cE hw (fun _ w' v w2=>∃n d ok,v= .tuple #[.int .i64 n,.int .i64 d,.bool ok]∧(ok=true->d≠0∧n.natAbs<1073741824∧d.natAbs<1073741824∧Rat.divInt n d=q)) (fun O w' r=>zP (Rel.old r hS) (hq.rel r hS)) ?_);rintro O _ _ _ ON r he hw h_ ⟨c,d,k2,rfl,g2⟩;replace hp:=hp.cG r hS he (mC h_);replace hq:=hq.cG r hS he (mC h_);refine dI.mk ?_ ?_<;>intro h1
 ·refine dI.mk ?_ ?_<;>intro h2
  ·obtain⟨g3,g4,g5,g6⟩:=g1 h1;obtain⟨g7,g8,g9,g10⟩:=g2 h2;have i1:=js g4 g9;have i2:=js g8 g5;have i3:=js g5 g9;have i4:=js g4 g8;refine⟨a*c,wo,b*d,wo,?_⟩;have e:=Rat.divInt_mul_divInt a c (d₁:=b) (d₂:=d);rw[g6,g10]at e;refine cD (cE hw (fun _ w' v w2=>cS w2 (Nf w' w2) v (p*q)) (fun O w' r=>e▸r8 (a*c) (b*d) w' (by omega) (by omega) (kZ g3 g7)) ?_);rintro O PX v3 PT OU r he hw h_ hn;have hR:=hn.dB (S:=FF) r.cF (mN h_);obtain⟨A0,A1,A2,A3,A4,A5,A6,A7,rfl⟩:=hR.shape;exact rtn hw fun ρe we re=>hR.out re (cC w)
  refine cK hτ da [.x 0,.x 2,.x 1,.x 3,.x 4,.x 5] (by kernel_rfl) (by kernel_rfl) ?_;refine cE hw (fun _ w' v w2=>cS w2 (Nf w' w2) v (p)) (fun O w' r=>gF (Rel.old r hS) (hp.rel r hS)) ?_;rintro O PX v3 PT OU r he hw h_ hn;replace hq:=hq.cG r hS he (mC h_);have hX:=hn.dB (S:=FF) r.cF (mN h_);obtain⟨A0,A1,A2,A3,A4,A5,A6,A7,rfl⟩:=hX.shape;refine cE hw (fun _ w' v w2=>cS w2 (Nf w' w2) v (q)) (fun O w' r=>gF (Rel.old r hS) (hq.rel r hS)) ?_;rintro O Qd v4 Q5 OW r he hw h_ hn;replace hX:=hX.cG r (cC w) he (mC h_);have hY:=hn.dB (S:=FF) r.cF (mN h_);obtain⟨C0,C1,C2,C3,C4,C5,C6,C7,rfl⟩:=hY.shape;have Q8:=hX.num;have QF:=hX.den;have Q9:=hY.num;have Qa:=hY.den;have m0:=cd p.num q.den;have m1:=cd q.num p.den;have m2:=cd (p.den:Int) q.den;have m3:=iw (p.num*q.den) (q.num*p.den);have m4:=cd p.num q.num;refine cK hτ da [.x 0,.x 1,.x 2,.x 3,.x 5,.x 6,.x 7,.x 8,.x 4,.x 9,.x 10,.x 11] (by kernel_rfl) (by kernel_rfl) ?_;refine cE hw (fun _ w' v w2=>dO w2 (Nf w' w2) v (p.num*q.num)) (fun O w' r=>iR (Rel.old r (cC w)) ((Q8.rel r (cC w)).l (k:=100000) (by omega)) ((Q9.rel r (cC w)).l (k:=100000) (by omega)) (by omega) (by omega)) ?_;rintro O R1 v5 RR Pb r he hw h_ hn;replace Q8:=Q8.cG r (cC w) he (mC h_);replace QF:=QF.cG r (cC w) he (mC h_);replace Q9:=Q9.cG r (cC w) he (mC h_);replace Qa:=Qa.cG r (cC w) he (mC h_);have hN:=hn.dB (S:=FF) r.cF (mN h_);obtain⟨F0,F1,F2,F3,rfl⟩:=hN.shape;refine cE hw (fun _ w' v w2=>dO w2 (Nf w' w2) v ((p.den:Int)*(q.den:Int))) (fun O w' r=>iR (Rel.old r (cC w)) ((QF.rel r (cC w)).l (k:=100000) (by omega)) ((Qa.rel r (cC w)).l (k:=100000) (by omega)) (by omega) (by omega)) ?_;rintro O Rx v6 SG Qk r he hw h_ hn;replace Q8:=Q8.cG r (cC w) he (mC h_);replace QF:=QF.cG r (cC w) he (mC h_);replace Q9:=Q9.cG r (cC w) he (mC h_);replace Qa:=Qa.cG r (cC w) he (mC h_);replace hN:=hN.cG r (cC w) he (mC h_);have hD:=hn.dB (S:=FF) r.cF (mN h_);obtain⟨G0,G1,G2,G3,rfl⟩:=hD.shape;refine cE hw (fun _ w' v w2=>cS w2 (Nf w' w2) v (p*q)) (fun O w' r=>(zG p q)▸ki (Rel.old r (cC w)) ((hN.rel r (cC w)).l (k:=200001) (by omega)) ((hD.rel r (cC w)).l (k:=200001) (by omega)) (by omega) (by omega) (kZ (gK p) (gK q))) ?_;rintro O UL v7 UM TA r he hw h_ hn;have hR:=hn.dB (S:=FF) r.cF (mN h_);obtain⟨J0,J1,J2,J3,J4,J5,J6,J7,rfl⟩:=hR.shape;exact rtn hw fun ρe we re=>hR.out re (cC w)
 refine cK hτ da [.x 0,.x 2,.x 1,.x 3,.x 4,.x 5] (by kernel_rfl) (by kernel_rfl) ?_;refine cE hw (fun _ w' v w2=>cS w2 (Nf w' w2) v (p)) (fun O w' r=>gF (Rel.old r hS) (hp.rel r hS)) ?_;rintro O _ _ _ OU r he hw h_ hn;replace hq:=hq.cG r hS he (mC h_);have hX:=hn.dB (S:=FF) r.cF (mN h_);obtain⟨A0,A1,A2,A3,A4,A5,A6,A7,rfl⟩:=hX.shape;refine cE hw (fun _ w' v w2=>cS w2 (Nf w' w2) v (q)) (fun O w' r=>gF (Rel.old r hS) (hq.rel r hS)) ?_;rintro O _ _ _ OW r he hw h_ hn;replace hX:=hX.cG r (cC w) he (mC h_);have hY:=hn.dB (S:=FF) r.cF (mN h_);obtain⟨C0,C1,C2,C3,C4,C5,C6,C7,rfl⟩:=hY.shape;have Q8:=hX.num;have QF:=hX.den;have Q9:=hY.num;have Qa:=hY.den;have m0:=cd p.num q.den;have m1:=cd q.num p.den;have m2:=cd (p.den:Int) q.den;have m3:=iw (p.num*q.den) (q.num*p.den);have m4:=cd p.num q.num;refine cK hτ da [.x 0,.x 1,.x 2,.x 3,.x 5,.x 6,.x 7,.x 8,.x 4,.x 9,.x 10,.x 11] (by kernel_rfl) (by kernel_rfl) ?_;refine cE hw (fun _ w' v w2=>dO w2 (Nf w' w2) v (p.num*q.num)) (fun O w' r=>iR (Rel.old r (cC w)) ((Q8.rel r (cC w)).l (k:=100000) (by omega)) ((Q9.rel r (cC w)).l (k:=100000) (by omega)) (by omega) (by omega)) ?_;rintro O _ _ _ Pb r he hw h_ hn;replace Q8:=Q8.cG r (cC w) he (mC h_);replace QF:=QF.cG r (cC w) he (mC h_);replace Q9:=Q9.cG r (cC w) he (mC h_);replace Qa:=Qa.cG r (cC w) he (mC h_);have hN:=hn.dB (S:=FF) r.cF (mN h_);obtain⟨F0,F1,F2,F3,rfl⟩:=hN.shape;refine cE hw (fun _ w' v w2=>dO w2 (Nf w' w2) v ((p.den:Int)*(q.den:Int))) (fun O w' r=>iR (Rel.old r (cC w)) ((QF.rel r (cC w)).l (k:=100000) (by omega)) ((Qa.rel r (cC w)).l (k:=100000) (by omega)) (by omega) (by omega)) ?_;rintro O _ _ _ Qk r he hw h_ hn;replace Q8:=Q8.cG r (cC w) he (mC h_);replace QF:=QF.cG r (cC w) he (mC h_);replace Q9:=Q9.cG r (cC w) he (mC h_);replace Qa:=Qa.cG r (cC w) he (mC h_);replace hN:=hN.cG r (cC w) he (mC h_);have hD:=hn.dB (S:=FF) r.cF (mN h_);obtain⟨G0,G1,G2,G3,rfl⟩:=hD.shape;refine cE hw (fun _ w' v w2=>cS w2 (Nf w' w2) v (p*q)) (fun O w' r=>(zG p q)▸ki (Rel.old r (cC w)) ((hN.rel r (cC w)).l (k:=200001) (by omega)) ((hD.rel r (cC w)).l (k:=200001) (by omega)) (by omega) (by omega) (kZ (gK p) (gK q))) ?_;rintro O _ _ _ TA r he hw h_ hn;have hR:=hn.dB (S:=FF) r.cF (mN h_);obtain⟨J0,J1,J2,J3,J4,J5,J6,J7,rfl⟩:=hR.shape;exact rtn hw fun ρe we re=>hR.out re (cC w)
theorem MK{v:Value}(hS:Old S w)(hp:eS w S v p):
  eD PG N.DD #[v] w (eG w fun v' w2=>cS w2 (Nf w w2) v' (-p)):=by
 have hw:=bR w;replace hp:=hp.cJ (S':=Cv S w.heap.size []) fun _ h=>.inl h;obtain⟨b1,a1,n1,c1,b2,a2,n2,c2,rfl⟩:=hp.shape;refine EM (by simp) ?_;have r1:=hp.rl;have u1:=fp p;have u2:=fF p;refine cD (cE hw (fun _ w' v w2=>cS w2 (Nf w' w2) v (p)) (fun O w' r=>gF (Rel.old r hS) (hp.rel r hS)) ?_);rintro O _ _ _ OP r he hw h_ hn;have hX:=hn.dB (S:=FF) r.cF (mN h_);obtain⟨A0,A1,A2,A3,A4,A5,A6,A7,rfl⟩:=hX.shape;have Q8:=hX.num;have QF:=hX.den;refine cK hτ da [.x 0,.x 1,.x 3,.x 4,.x 2,.x 5,.x 6] (by kernel_rfl) (by kernel_rfl) ?_;refine cE hw (fun _ w' v w2=>dO w2 (Nf w' w2) v (-p.num)) (fun O w' r=>mY (Rel.old r (cC w)) ((Q8.rel r (cC w)).l (k:=100000) (by omega)) (by omega)) ?_;rintro O _ _ _ ON r he hw h_ hn;replace QF:=QF.cG r (cC w) he (mC h_);have hN:=hn.dB (S:=FF) r.cF (mN h_);obtain⟨C0,C1,C2,C3,rfl⟩:=hN.shape;refine cE hw (fun _ w' v w2=>cS w2 (Nf w' w2) v (-p)) (fun O w' r=>show eD _ _ _ _ (eG _ fun v w2=>cS w2 _ v (-p))from(show Rat.divInt (-p.num) p.den= -p by rw[<-Rat.neg_divInt,Rat.num_divInt_den])▸ki (Rel.old r (cC w)) ((hN.rel r (cC w)).l (k:=100000) (by rw[cB];omega)) ((QF.rel r (cC w)).l (k:=100000) (by omega)) (by omega) (by omega) (gK p)) ?_;rintro O _ _ _ OU r he hw h_ hn;have hR:=hn.dB (S:=FF) r.cF (mN h_);obtain⟨F0,F1,F2,F3,F4,F5,F6,F7,rfl⟩:=hR.shape;exact rtn hw fun ρe we re=>hR.out re (cC w)
theorem aAk{v:Value}(hS:Old S w)(hp:eS w S v p)(hq:eS w S u q):
  eD PG N.wQ #[v,u] w (eG w fun v' w2=>(q=0∧v'= .tuple #[B6,.int .i64 9])∨(q≠0∧∃r,v'= .tuple #[r,.int .i64 0]∧cS w2 (Nf w w2) r (p / q))):=by
 have hw:=bR w;replace hp:=hp.cJ (S':=Cv S w.heap.size []) fun _ h=>.inl h;replace hq:=hq.cJ (S':=Cv S w.heap.size []) fun _ h=>.inl h;obtain⟨b1,a1,n1,c1,b2,a2,n2,c2,rfl⟩:=hp.shape;obtain⟨b3,a3,n3,c3,b4,a4,n4,c4,rfl⟩:=hq.shape;refine EJ (by simp) ?_;have r1:=hp.rl;have r2:=hq.rl;have u1:=fp p;have u2:=fF p;have u3:=fp q;have u4:=fF q;have m0:=cd p.num q.den;have m1:=cd (p.den:Int) q.num;refine cK hτ da [.x 0,.x 2,.x 1,.x 3,.x 4,.x 5] (by kernel_rfl) (by kernel_rfl) ?_;refine cE hw (fun _ w' v w2=>cS w2 (Nf w' w2) v (p)) (fun O w' r=>gF (Rel.old r hS) (hp.rel r hS)) ?_;rintro O _ _ _ OP r he hw h_ hn;replace hq:=hq.cG r hS he (mC h_);have hX:=hn.dB (S:=FF) r.cF (mN h_);obtain⟨A0,A1,A2,A3,A4,A5,A6,A7,rfl⟩:=hX.shape;refine cE hw (fun _ w' v w2=>cS w2 (Nf w' w2) v (q)) (fun O w' r=>gF (Rel.old r hS) (hq.rel r hS)) ?_;rintro O _ _ _ ON r he hw h_ hn;replace hX:=hX.cG r (cC w) he (mC h_);have hY:=hn.dB (S:=FF) r.cF (mN h_);obtain⟨C0,C1,C2,C3,C4,C5,C6,C7,rfl⟩:=hY.shape;refine cD (cE hw (fun _ w' v w2=>v= .int .i64 (rs q)) (fun O w' r=>KV (Rel.old r (cC w)) (hY.rel r (cC w))) ?_);rintro O _ _ _ OU r he hw h_ rfl;replace hX:=hX.cG r (cC w) he (mC h_);replace hY:=hY.cG r (cC w) he (mC h_);refine dI.mk ?_ ?_<;>intro h
 ·have h:rs q=0:=by simpa using h
  exact rtn hw fun ρe we re=>.inl ⟨kg.1 h,rfl⟩
 have h:q≠0:=fun e=>by rw[e]at h;exact absurd h (by decide)
 have hqn:q.num≠0:=fun e=>h (Rat.num_eq_zero.1 e);have Q8:=hX.num;have QF:=hX.den;have Q9:=hY.num;have Qa:=hY.den;refine cK hτ da [.x 0,.x 1,.x 2,.x 3,.x 5,.x 6,.x 7,.x 8,.x 4,.x 9,.x 10,.x 11,.x 12] (by kernel_rfl) (by kernel_rfl) ?_;refine cE hw (fun _ w' v w2=>dO w2 (Nf w' w2) v (p.num*(q.den:Int))) (fun O w' r=>iR (Rel.old r (cC w)) ((Q8.rel r (cC w)).l (k:=100000) (by omega)) ((Qa.rel r (cC w)).l (k:=100000) (by omega)) (by omega) (by omega)) ?_;rintro O _ _ _ OW r he hw h_ hn;replace QF:=QF.cG r (cC w) he (mC h_);replace Q9:=Q9.cG r (cC w) he (mC h_);have hN:=hn.dB (S:=FF) r.cF (mN h_);obtain⟨F0,F1,F2,F3,rfl⟩:=hN.shape;refine cE hw (fun _ w' v w2=>dO w2 (Nf w' w2) v ((p.den:Int)*q.num)) (fun O w' r=>iR (Rel.old r (cC w)) ((QF.rel r (cC w)).l (k:=100000) (by omega)) ((Q9.rel r (cC w)).l (k:=100000) (by omega)) (by omega) (by omega)) ?_;rintro O _ _ _ Pb r he hw h_ hn;replace hN:=hN.cG r (cC w) he (mC h_);have hD:=hn.dB (S:=FF) r.cF (mN h_);obtain⟨G0,G1,G2,G3,rfl⟩:=hD.shape;refine cE hw (fun _ w' v w2=>cS w2 (Nf w' w2) v (p / q)) (fun O w' r=>(Dq p q)▸ki (Rel.old r (cC w)) ((hN.rel r (cC w)).l (k:=200001) (by omega)) ((hD.rel r (cC w)).l (k:=200001) (by omega)) (by omega) (by omega) (kZ (gK p) hqn)) ?_;rintro O _ _ _ Qk r he hw h_ hn;have hR:=hn.dB (S:=FF) r.cF (mN h_);obtain⟨J0,J1,J2,J3,J4,J5,J6,J7,rfl⟩:=hR.shape;exact rtn hw fun ρe we re=>.inr ⟨h,_,rfl,hR.out re (cC w)⟩
theorem nE(n:Int)(w:World)(h1n: -9223372036854775808<=n)(h2n:n<=9223372036854775807):
  eD PG N.qP #[.int .i64 n] w (eG w fun v' w2=>cS w2 (Nf w w2) v' (n:Rat)):=by
 have hw:=bR w;have ha:=mV h1n h2n;refine qc (by simp) ?_;refine cD (cE hw (fun _ w' v w2=>dO w2 (Nf w' w2) v (n)) (fun O w' r=>lN n w' h1n h2n) ?_);rintro O _ _ _ OP r he hw h_ hn;have hA:=hn.dB (S:=FF) r.cF (mN h_);obtain⟨A0,A1,A2,A3,rfl⟩:=hA.shape;refine cD (cE hw (fun _ w' v w2=>dO w2 (Nf w' w2) v (1)) (fun O w' r=>lN 1 w' (by decide) (by decide)) ?_);rintro O _ _ _ ON r he hw h_ hn;replace hA:=hA.cG r (cC w) he (mC h_);have hB:=hn.dB (S:=FF) r.cF (mN h_);obtain⟨C0,C1,C2,C3,rfl⟩:=hB.shape;refine cD (cE hw (fun _ w' v w2=>cS w2 (Nf w' w2) v ((n:Rat))) (fun O w' r=>(B8 n)▸ki (Rel.old r (cC w)) ((hA.rel r (cC w)).l (k:=2) (by omega)) ((hB.rel r (cC w)).l (k:=2) (by decide)) (by omega) (by omega) (by decide)) ?_);rintro O _ _ _ OU r he hw h_ hn;have hR:=hn.dB (S:=FF) r.cF (mN h_);obtain⟨F0,F1,F2,F3,F4,F5,F6,F7,rfl⟩:=hR.shape;exact rtn hw fun ρe we re=>hR.out re (cC w)
theorem MS(a b:Int)(w:World)(h1a: -9223372036854775808<=a)(h2a:a<=9223372036854775807)(h1b: -9223372036854775808<=b)(h2b:b<=9223372036854775807):
  eD PG N.xm #[.int .i64 a,.int .i64 b] w (eG w fun v' w2=>(b=0∧v'= .tuple #[B6,.int .i64 9])∨(b≠0∧∃q,v'= .tuple #[q,.int .i64 0]∧cS w2 (Nf w w2) q (Rat.divInt a b))):=by
 have hw:=bR w;have ha:=mV h1a h2a;have Q3:=mV h1b h2b;refine Aw (by simp) ?_;refine dI.mk ?_ ?_<;>intro h
 ·have h:b=0:=by simpa using h
  exact rtn hw fun ρe we re=>.inl ⟨h,rfl⟩
 have h:b≠0:=by simpa using h
 refine cD (cE hw (fun _ w' v w2=>dO w2 (Nf w' w2) v (a)) (fun O w' r=>lN a w' h1a h2a) ?_);rintro O _ _ _ OP r he hw h_ hn;have hA:=hn.dB (S:=FF) r.cF (mN h_);obtain⟨A0,A1,A2,A3,rfl⟩:=hA.shape;refine cD (cE hw (fun _ w' v w2=>dO w2 (Nf w' w2) v (b)) (fun O w' r=>lN b w' h1b h2b) ?_);rintro O _ _ _ ON r he hw h_ hn;replace hA:=hA.cG r (cC w) he (mC h_);have hB:=hn.dB (S:=FF) r.cF (mN h_);obtain⟨C0,C1,C2,C3,rfl⟩:=hB.shape;refine cD (cE hw (fun _ w' v w2=>cS w2 (Nf w' w2) v (Rat.divInt a b)) (fun O w' r=>ki (Rel.old r (cC w)) ((hA.rel r (cC w)).l (k:=2) (by omega)) ((hB.rel r (cC w)).l (k:=2) (by omega)) (by omega) (by omega) h) ?_);rintro O _ _ _ OU r he hw h_ hn;have hR:=hn.dB (S:=FF) r.cF (mN h_);obtain⟨F0,F1,F2,F3,F4,F5,F6,F7,rfl⟩:=hR.shape;exact rtn hw fun ρe we re=>.inr ⟨h,_,rfl,hR.out re (cC w)⟩
section
variable{S S':Nat->Prop}{H:Hp}{nx:Nat}{iv iv':Iv}{B:Nat}{w w' w2:World}{O:Nat->Sx.di}{v:Value}{a:Int}{b:Int}
end
theorem jt.short{b:Bool}{n c k:Nat}{z:Int}(h:jt w S (.agg #[.bool b,.slice a n c]) z)(hk:n<=k):fa w S (.agg #[.bool b,.slice a n c]) k z:=by
 obtain⟨b2,ls,⟨lv,e1,h3⟩,h2⟩:=h;obtain⟨a2,c2,e2,_⟩:=h3.sl;subst e2;simp only[Value.agg.injEq,Array.mk.injEq,List.cons.injEq,Value.bool.injEq,Value.slice.injEq,and_true]at e1;obtain⟨rfl,rfl,e3,rfl⟩:=e1;exact⟨_,ls,⟨_,by rw[e3],h3⟩,h2,by omega⟩
def nD(w:World)(S:Nat->Prop)(cs:List Value)(q:Rat):Prop:=∃b a n c b2 a2 n2 c2,cs=[.bool b,.slice a n c,.bool b2,.slice a2 n2 c2]∧eS w S (.agg #[.bool b,.slice a n c,.bool b2,.slice a2 n2 c2]) q
abbrev cX:=dH nD
abbrev dK:=c9 cX
section
variable{S S':Nat->Prop}{H:Hp}{nx:Nat}{iv iv':Iv}{B:Nat}{w w' w2:World}{O:Nat->Sx.di}{v:Value}{qs:List Rat}{cs:List Value}{q:Rat}
theorem nD.cI(h:nD w S cs q)(hk:∀g,S g->w2.heap[g]? =w.heap[g]?):nD w2 S cs q:=by
 obtain⟨b,a,n,c,b2,a2,n2,c2,h1,h2⟩:=h;exact⟨b,a,n,c,b2,a2,n2,c2,h1,h2.cI hk⟩
theorem nD.cJ(h:nD w S cs q)(hk:∀g,S g->S' g):nD w S' cs q:=by
 obtain⟨b,a,n,c,b2,a2,n2,c2,h1,h2⟩:=h;exact⟨b,a,n,c,b2,a2,n2,c2,h1,h2.cJ hk⟩
theorem cX.cI(h:cX w S v qs)(hk:∀g,S g->w2.heap[g]? =w.heap[g]?):cX w2 S v qs:=by
 obtain⟨css,h1,h2,h3,h4⟩:=h;exact⟨css,h1.cI hk,h2,h3,fun j cs x k1 k2=>(h4 j cs x k1 k2).cI hk⟩
theorem cX.cJ(h:cX w S v qs)(hk:∀g,S g->S' g):cX w S' v qs:=by
 obtain⟨css,h1,h2,h3,h4⟩:=h;exact⟨css,h1.cJ hk,h2,h3,fun j cs x k1 k2=>(h4 j cs x k1 k2).cJ hk⟩
theorem dK.cI(h:dK w S v M)(hk:∀g,S g->w2.heap[g]? =w.heap[g]?):dK w2 S v M:=by
 obtain⟨rv,h1,h2,h3⟩:=h;exact⟨rv,h1.cI hk,h2,fun i u x k1 k2=>cX.cI (h3 i u x k1 k2) hk⟩
theorem dK.cJ(h:dK w S v M)(hk:∀g,S g->S' g):dK w S' v M:=by
 obtain⟨rv,h1,h2,h3⟩:=h;exact⟨rv,h1.cJ hk,h2,fun i u x k1 k2=>cX.cJ (h3 i u x k1 k2) hk⟩
end
section
variable{S S':Nat->Prop}{H:Hp}{nx:Nat}{iv iv':Iv}{B:Nat}{w w' w2:World}{O:Nat->Sx.di}{v:Value}{qs:List Rat}
theorem cX.rel(h:cX w (Cv S B iv) v qs)(r:Rel H nx iv B w O w')(hS:∀g,S g->g<B):cX w' (Cv S B iv) v qs:=cX.cI h fun _ hg=>Rel.same r hS hg
theorem cX.cG(h:cX w (Cv S B iv) v qs)(r:Rel H nx iv B w O w')(hS:∀g,S g->g<B)(he:Ext w' w2)(hm:∀p,p∈iv->p∈iv'):cX w2 (Cv S B iv') v qs:=
 cX.cJ (cX.cI (cX.rel h r hS) fun g hg=>he.block g (Rel.old r hS g hg)) fun _ hg=>hg.mono hm
theorem cX.out{w0 w1:World}(h:cX w1 (Cv S w0.heap.size iv) v qs)(r:Rel H nx iv w0.heap.size w1 O w')(hS:Old S w0):cX w' (Nw S w0 w') v qs:=
 cX.cJ (cX.rel h r hS) fun _ hg=>Cv.nw hg r
theorem cX.arg(h:cX w S v qs)(iv:Iv):cX w (Cv S w.heap.size iv) v qs:=cX.cJ h fun _ h=>.inl h
end
section
variable{S S':Nat->Prop}{H:Hp}{nx:Nat}{iv iv':Iv}{B:Nat}{w w' w2:World}{O:Nat->Sx.di}{v:Value}{M:List (List Rat)}
theorem dK.rel(h:dK w (Cv S B iv) v M)(r:Rel H nx iv B w O w')(hS:∀g,S g->g<B):dK w' (Cv S B iv) v M:=dK.cI h fun _ hg=>Rel.same r hS hg
theorem dK.cG(h:dK w (Cv S B iv) v M)(r:Rel H nx iv B w O w')(hS:∀g,S g->g<B)(he:Ext w' w2)(hm:∀p,p∈iv->p∈iv'):dK w2 (Cv S B iv') v M:=
 dK.cJ (dK.cI (dK.rel h r hS) fun g hg=>he.block g (Rel.old r hS g hg)) fun _ hg=>hg.mono hm
theorem dK.old(h:dK w2 (Nw (Cv S B iv) w' w2) v M)(hB:B<=w'.heap.size):dK w2 (Cv S B ((w'.heap.size,w2.heap.size)::iv)) v M:=dK.cJ h fun _ hg=>Nw.cv hg hB
theorem dK.arg(h:dK w S v M)(iv:Iv):dK w (Cv S w.heap.size iv) v M:=dK.cJ h fun _ h=>.inl h
end
def CM(w:World)(S:Nat->Prop)(css:List (List Value))(qs:List Rat):Prop:=∀(j:Nat) cs q,css[j]? =some cs->qs[j]? =some q->iB w S cs q
section
variable{S S':Nat->Prop}{H:Hp}{nx:Nat}{iv iv':Iv}{B:Nat}{w w' w2:World}{O:Nat->Sx.di}{css:List (List Value)}{qs:List Rat}
theorem CM.rel(h:CM w (Cv S B iv) css qs)(r:Rel H nx iv B w O w')(hS:∀g,S g->g<B):CM w' (Cv S B iv) css qs:=fun j cs q h1 h2=>(h j cs q h1 h2).cI fun _ hg=>Rel.same r hS hg
theorem CM.cG(h:CM w (Cv S B iv) css qs)(r:Rel H nx iv B w O w')(hS:∀g,S g->g<B)(he:Ext w' w2)(hm:∀p,p∈iv->p∈iv'):CM w2 (Cv S B iv') css qs:=fun j cs q h1 h2=>
 (((h.rel r hS) j cs q h1 h2).cI fun g hg=>he.block g (Rel.old r hS g hg)).cJ fun _ hg=>hg.mono hm
theorem CM.push(h:CM w S css qs)(hq:qs[css.length]? =some q)(hc:iB w S cs q):CM w S (css++[cs]) qs:=fun j cs' q' h1 h2=>by
 rcases aQ j css.length with hj|hj
 ·rw[aL hj]at h1;exact h j cs' q' h1 h2
 ·have Vb:j=css.length:=by have:=(aD.1 h1).1;simp at this;omega
  subst Vb;rw[aN (aF _),bL]at h1;simp at h1;rw[hq]at h2;injection h2 with h2;subst h1 h2;exact hc
end
theorem Bd(h:∀x∈css,x.length=4∧∀u∈x,u.oneCell'=true)(hc:cs.length=4∧∀u∈cs,u.oneCell'=true):∀x∈css++[cs],x.length=4∧∀u∈x,u.oneCell'=true:=fun x hx=>by
 rcases bK.1 hx with hx|hx
 ·exact h x hx
 ·simp at hx;subst hx;exact hc
def aA9(w w2:World)(v:Value)(xs:List Rat):Prop:=∃css:List (List Value),w2.ownsRow w.heap.size T.Rat 4 v xs.length css.flatten∧css.length=xs.length∧(∀cs∈css,cs.length=4∧∀u∈cs,u.oneCell'=true)∧∀(j:Nat) cs q,css[j]? =some cs->xs[j]? =some q->iB w2 (fun g=>Nf w w2 g∧v.ownBlock≠some g) cs q
theorem DQ{id n g:Nat}(h:((At.w id n).den O).ownBlock=some g):(O id).nil=false∧(O id).g=g:=by
 cases hn:(O id).nil with
 |true=>rw[show (At.w id n).den O= .slice none 0 0 by simp[At.den,hn]]at h;cases h
 |false=>
  rw[show (At.w id n).den O= .slice (some ⟨(O id).g,0,none⟩) n (O id).cap by simp[At.den,hn]]at h;injection h with h;exact⟨rfl,h⟩
def kx(xs ys:List Rat)(b:Rat):List Rat:=(List.range ys.length).map fun j=>if 0<xs.length then xs.getD j 0+ys.getD j 0*b else ys.getD j 0*b
theorem pL(xs ys:List Rat)(b:Rat):(kx xs ys b).length=ys.length:=by simp[kx]
theorem xS{j:Nat}(h:j<ys.length):(kx xs ys b)[j]? =some (if 0<xs.length then xs.getD j 0+ys.getD j 0*b else ys.getD j 0*b):=by
 rw[kx,aM,bh h];rfl
theorem GX{v t:Value}(hS:Old S w)(hx:cX w S v xs)(hy:cX w S u ys)(hb:eS w S t b)(hlen:xs=[]∨xs.length=ys.length)(hn:ys.length<=1000000)(hbound:∀y∈ys,rl y+rl b<=100000):
  eD PG N.tM #[v,u,t] w (eG w fun v' w2=>cN w2 (Nf w w2) v' (kx xs ys b)∧aA9 w w2 v' (kx xs ys b)):=by
 have hw:=bR w;obtain⟨ax,cx,rfl,Wm,hmx⟩:=dH.shape hx;obtain⟨ay,cy,rfl,hcy,hmy⟩:=dH.shape hy;obtain⟨t0,t1,t2,t3,t4,t5,t6,t7,rfl⟩:=hb.shape;have Pe:=pL xs ys b;refine Bt (by simp) ?_
 refine⟨List (List Value)×World×Iv,fun z=>⟨[(0,sV ax xs.length cx),(1,sV ay ys.length cy),(5,pP 0 0),(7,.o (.w 1 z.1.length)),(8,iZ z.1.length)],[(1,.vec T.Rat 4 z.1.flatten),(0,.box T.Rat [.v (.bool t0),.v (.slice t1 t2 t3),.v (.bool t4),.v (.slice t5 t6 t7)])],2,z.2.2,z.2.1⟩,fun z=>ys.length-z.1.length,
  fun z=>z.1.length<=ys.length∧dm w.heap.size w z.2.1∧(∀x∈z.1,x.length=4∧∀u∈x,u.oneCell'=true)∧CM z.2.1 (Cf w z.2.2) z.1 (kx xs ys b),?_,?_⟩
 ·intro O w' r
  exact⟨([],w',[]),⟨by simp,r.cQ,by simp,fun j cs q h=>by simp at h⟩,Sub.nil 7 T.Rat 4 rfl (by simp[jQ,SV.sc,At.sc,fP]) r fun ρ1 r1=>
   Sub.gn [] r1⟩
 clear hw;rintro⟨css,w1,iv⟩ ⟨hi,hw,h4,QV⟩;dsimp only at hi hw h4 QV ⊢;have OY:=eK fun x hx=>(h4 x hx).1;refine dI.mk ?_ ?_<;>intro OI
 ·have OI:css.length<ys.length:=by simpa using OI
  obtain⟨y,To⟩:∃y,ys[css.length]? =some y:=⟨_,aB OI⟩
  obtain⟨ady,csy,UW,SN,_,Qb⟩:=dH.load hy To;obtain⟨p0,p1,p2,p3,p4,p5,p6,p7,rfl,SN⟩:=SN;have hyd:ys.getD css.length 0=y:=by rw[List.getD,To];rfl
  have WO:=xS (xs:=xs) (b:=b) OI;rw[hyd]at WO;have Ok:=hbound y (aC To);have hrm:=j9 y b;refine dI.mk ?_ ?_<;>intro SO
  ·have SO:0<xs.length:=by have:=aI SO;omega
   have Pk:css.length<xs.length:=hlen.elim (fun h=>by rw[h]at SO;simp at SO) (fun h=>by omega);obtain⟨x,Ps⟩:∃x,xs[css.length]? =some x:=⟨_,aB Pk⟩
   obtain⟨adx,csx,PS,Rs,_,Oo⟩:=dH.load hx Ps;obtain⟨q0,q1,q2,q3,q4,q5,q6,q7,rfl,Rs⟩:=Rs;have Ue:xs.getD css.length 0=x:=by rw[List.getD,Ps];rfl
   rw[if_pos SO,Ue]at WO;refine⟨ady,UW,by omega,[.bool p0,.slice p1 p2 p3,.bool p4,.slice p5 p6 p7],rfl,fun O w' r i x hx=>?_,?_⟩
   ·obtain⟨k1,k2⟩:=Qb i x hx;rw[aE,cH (w:=w) (w2:=w') (by rw[dD,dD];exact(hw.tr r.cQ).block _ (hS _ k1))];exact k2
   refine cD (cE hw (fun _ w' v w2=>v= .int .i64 (rs y)) (fun O w' r=>jb (oS hS r) (SN.cI (kS hw r hS))) ?_);rintro O QA v1 Pg OP r he hw h_ rfl;replace QV:=QV.cG r (cC w) he (mC h_);clear r;refine dI.mk ?_ ?_<;>intro hs
   ·have hs:y=0:=kg.1 (by simpa using hs);rw[hs,bI,bY]at WO;refine⟨adx,PS,by omega,[.bool q0,.slice q1 q2 q3,.bool q4,.slice q5 q6 q7],rfl,fun O w' r i x hx=>?_,?_⟩
    ·obtain⟨k1,k2⟩:=Oo i x hx;rw[aE,cH (w:=w) (w2:=w') (by rw[dD,dD];exact(hw.tr r.cQ).block _ (hS _ k1))];exact k2
    refine cD (cE hw (fun _ w' v w2=>cS w2 (Nf w' w2) v (x)) (fun O w' r=>gF (oS hS r) (Rs.cI (kS hw r hS))) ?_);rintro O QB v2 PI ON r he hw h_ hn;replace QV:=QV.cG r (cC w) he (mC h_);have Ty:=hn.dB (S:=FF) r.cF (mN h_);clear r hn;obtain⟨A0,A1,A2,A3,A4,A5,A6,A7,rfl⟩:=Ty.shape;refine .inl ?_;refine⟨OY,by omega,by unfold maxLen;omega,((css.length+1:Nat):Int),wo,?_⟩;intro ρ3 w3 r3;have SF:(css++[[Value.bool A0,.slice A1 A2 A3,.bool A4,.slice A5 A6 A7]]).length=css.length+1:=by simp
    have hf3:(css++[[Value.bool A0,.slice A1 A2 A3,.bool A4,.slice A5 A6 A7]]).flatten=css.flatten++[Value.bool A0,.slice A1 A2 A3,.bool A4,.slice A5 A6 A7]:=by simp
    exact⟨(css++[[.bool A0,.slice A1 A2 A3,.bool A4,.slice A5 A6 A7]],w3,_),⟨by dsimp only;rw[SF];exact OI,hw.tr r3.cQ,Bd h4 ⟨rfl,by intro u hu;simp at hu;rcases hu with rfl|rfl|rfl|rfl<;>rfl⟩,(QV.rel r3 (cC w)).push WO (Ty.rel r3 (cC w)).pW⟩,
     Sub.gn [(1,3)] r3 ⟨by dsimp only;rw[hf3];rfl,rfl,trivial⟩ ⟨rfl,rfl,rfl,by dsimp only;rw[SF];rfl,by dsimp only;rw[SF];rfl,trivial⟩,by dsimp only;rw[SF];omega⟩
   refine cK hτ da [.x 0,.x 1,.x 2,.x 3,.x 4,.p 6,.x 5,.x 6,.x 7] (by kernel_rfl) (by kernel_rfl) ?_;refine⟨ady,UW,by omega,[.bool p0,.slice p1 p2 p3,.bool p4,.slice p5 p6 p7],rfl,fun O w' r i x hx=>?_,?_⟩
   ·obtain⟨k1,k2⟩:=Qb i x hx;rw[aE,cH (w:=w) (w2:=w') (by rw[dD,dD];exact(hw.tr r.cQ).block _ (hS _ k1))];exact k2
   refine cE hw (fun _ w' v w2=>cS w2 (Nf w' w2) v (y*b)) (fun O w' r=>IA (oS hS r) (SN.cI (kS hw r hS)) (hb.cI (kS hw r hS))) ?_;rintro O _ _ _ ON r he hw h_ hn;replace QV:=QV.cG r (cC w) he (mC h_);have hm:=hn.dB (S:=FF) r.cF (mN h_);clear r hn;obtain⟨A0,A1,A2,A3,A4,A5,A6,A7,rfl⟩:=hm.shape;refine dI.mk (fun Sm=>?_) (fun Sm=>absurd SO (by have:=aH Sm;omega));refine cK hτ da [.x 0,.x 1,.x 2,.x 3,.x 4,.x 5,.x 6] (by kernel_rfl) (by kernel_rfl) ?_;refine⟨adx,PS,by omega,[.bool q0,.slice q1 q2 q3,.bool q4,.slice q5 q6 q7],rfl,fun O w' r i x hx=>?_,?_⟩
   ·obtain⟨k1,k2⟩:=Oo i x hx;rw[aE,cH (w:=w) (w2:=w') (by rw[dD,dD];exact(hw.tr r.cQ).block _ (hS _ k1))];exact k2
   refine cE hw (fun _ w' v w2=>cS w2 (Nf w' w2) v (x+y*b)) (fun O w' r=>IF (Rel.old r hS) ((Rs.cI (kS hw r hS)).cJ fun g hg=>Or.inl hg) (((hm.rel r (cC w)).l (by omega)).cJ fun g hg=>Cv.false hg)) ?_;rintro O _ _ _ OU r he hw h_ hn;replace QV:=QV.cG r (cC w) he (mC h_);clear hm;have Ty:=hn.dB (S:=FF) r.cF (mN h_);clear r hn;obtain⟨C0,C1,C2,C3,C4,C5,C6,C7,rfl⟩:=Ty.shape;refine .inl ?_;refine⟨OY,by omega,by unfold maxLen;omega,((css.length+1:Nat):Int),wo,?_⟩;intro ρ3 w3 r3;have SF:(css++[[Value.bool C0,.slice C1 C2 C3,.bool C4,.slice C5 C6 C7]]).length=css.length+1:=by simp
   have hf3:(css++[[Value.bool C0,.slice C1 C2 C3,.bool C4,.slice C5 C6 C7]]).flatten=css.flatten++[Value.bool C0,.slice C1 C2 C3,.bool C4,.slice C5 C6 C7]:=by simp
   exact⟨(css++[[.bool C0,.slice C1 C2 C3,.bool C4,.slice C5 C6 C7]],w3,_),⟨by dsimp only;rw[SF];exact OI,hw.tr r3.cQ,Bd h4 ⟨rfl,by intro u hu;simp at hu;rcases hu with rfl|rfl|rfl|rfl<;>rfl⟩,(QV.rel r3 (cC w)).push WO (Ty.rel r3 (cC w)).pW⟩,
    Sub.gn [(1,4)] r3 ⟨by dsimp only;rw[hf3];rfl,rfl,trivial⟩ ⟨rfl,rfl,rfl,by dsimp only;rw[SF];rfl,by dsimp only;rw[SF];rfl,trivial⟩,by dsimp only;rw[SF];omega⟩
  have SO:¬0<xs.length:=by have:=aH SO;omega
  rw[aK SO]at WO;refine cK hτ da [.x 0,.x 1,.x 2,.x 3,.x 4,.p 6,.x 5,.x 6,.x 7] (by kernel_rfl) (by kernel_rfl) ?_;refine⟨ady,UW,by omega,[.bool p0,.slice p1 p2 p3,.bool p4,.slice p5 p6 p7],rfl,fun O w' r i x hx=>?_,?_⟩
  ·obtain⟨k1,k2⟩:=Qb i x hx;rw[aE,cH (w:=w) (w2:=w') (by rw[dD,dD];exact(hw.tr r.cQ).block _ (hS _ k1))];exact k2
  refine cE hw (fun _ w' v w2=>cS w2 (Nf w' w2) v (y*b)) (fun O w' r=>IA (oS hS r) (SN.cI (kS hw r hS)) (hb.cI (kS hw r hS))) ?_;rintro O _ _ _ OP r he hw h_ hn;replace QV:=QV.cG r (cC w) he (mC h_);have hm:=hn.dB (S:=FF) r.cF (mN h_);clear r hn;obtain⟨F0,F1,F2,F3,F4,F5,F6,F7,rfl⟩:=hm.shape;refine dI.mk (fun Sm=>absurd (aI Sm) (by omega)) (fun Sm=>?_);refine .inl ?_;refine⟨OY,by omega,by unfold maxLen;omega,((css.length+1:Nat):Int),wo,?_⟩;intro ρ3 w3 r3;have SF:(css++[[Value.bool F0,.slice F1 F2 F3,.bool F4,.slice F5 F6 F7]]).length=css.length+1:=by simp
  have hf3:(css++[[Value.bool F0,.slice F1 F2 F3,.bool F4,.slice F5 F6 F7]]).flatten=css.flatten++[Value.bool F0,.slice F1 F2 F3,.bool F4,.slice F5 F6 F7]:=by simp
  exact⟨(css++[[.bool F0,.slice F1 F2 F3,.bool F4,.slice F5 F6 F7]],w3,_),⟨by dsimp only;rw[SF];exact OI,hw.tr r3.cQ,Bd h4 ⟨rfl,by intro u hu;simp at hu;rcases hu with rfl|rfl|rfl|rfl<;>rfl⟩,(QV.rel r3 (cC w)).push WO (hm.rel r3 (cC w)).pW⟩,
   Sub.gn [(1,4)] r3 ⟨by dsimp only;rw[hf3];rfl,rfl,trivial⟩ ⟨rfl,rfl,rfl,by dsimp only;rw[SF];rfl,by dsimp only;rw[SF];rfl,trivial⟩,by dsimp only;rw[SF];omega⟩
 have OI:css.length=ys.length:=aP hi (by simpa using OI);intro ρe we re;have QI:∀u∈css.flatten,u.oneCell'=true:=fun u hu=>by
  obtain⟨cs,hc,hu⟩:=List.mem_flatten.1 hu;exact(h4 cs hc).2 u hu
 refine⟨_,rfl,hw.tr re.cQ,?_,css,by rw[Pe,<-OI];exact zf re (id:=1) rfl OY (by decide),by rw[Pe];exact OI,h4,fun j cs q k1 k2=>((QV j cs q k1 k2).cI fun g hg=>Rel.same re (cC w) hg).cJ fun g hg=>⟨Cv.nw hg re,fun e=>Rel.not re (cC w) hg 1 _ rfl (DQ e).1 (DQ e).2⟩⟩;refine⟨css,?_,by rw[Pe];exact OI,fun cs hc=>(h4 cs hc).1,fun j cs q k1 k2=>((QV j cs q k1 k2).cI fun g hg=>Rel.same re (cC w) hg).cJ fun g hg=>Cv.nw hg re⟩;have:=re.iC (id:=1) (sz:=4) (m:=css.length) rfl OY (by unfold maxLen;omega) (by decide) QI;rw[Pe,<-OI];exact this.cJ fun g hg=>.inr hg
theorem JC{v t:Value}(hS:Old S w)(hx:cX w S v xs)(hy:cX w S u ys)(hb:eS w S t b)(hlen:xs=[]∨xs.length=ys.length)(hn:ys.length<=1000000)(hbound:∀y∈ys,rl y+rl b<=100000):
  eD PG N.tM #[v,u,t] w (eG w fun v' w2=>cN w2 (Nf w w2) v' (kx xs ys b)):=
 (GX hS hx hy hb hlen hn hbound).mono fun _ _ ⟨v2,e1,e2,e3,_⟩=>⟨v2,e1,e2,e3⟩
end Go.Ex
namespace Go.Ex
variable{M:List (List Rat)}{s:List (List Rat)×List Nat}
theorem zj{c r k R:Nat}(hk:r<=k)(hR:k<=R)(h:∀j,r<=j->j<k->dF M j c=0):ic M c (R-r) r=ic M c (R-k) k:=by
 induction k with
 |zero=>
  have:r=0:=by omega
  subst this;rfl
 |succ k ih=>
  rcases aQ k r with h1|h1
  ·have:r=k+1:=by omega
   subst this;rfl
  ·rw[ih h1 (by omega) fun j h2 h3=>h j h2 (by omega),show R-k=(R-(k+1))+1 by omega,HQ (h k h1 (by omega))]
theorem Dk{a c i:Nat}{r:List Rat}(h:M[i]? =some r)(h0:r.getD c 0=0):de M a c (i+1)=de M a c i:=by
 unfold de;refine bM fun j=>?_;rw[List.getElem?_mapIdx,List.getElem?_mapIdx];by_cases hj:j=i
 ·subst hj;rw[h];simp only[Option.map_some]
  by_cases ha:j=a
  ·rw[aK (by omega),aK (by omega)]
  ·rw[if_pos ⟨by omega,ha⟩,aK (by omega),h0];congr 1;refine bM fun k=>?_;rw[List.getElem?_mapIdx]
   cases r[k]? with
   |none=>rfl
   |some q=>simp[ss,bY]
 ·cases M[j]? with
  |none=>rfl
  |some r'=>
   simp only[Option.map_some]
   by_cases h2:j<i∧j≠a
   ·rw[if_pos ⟨by omega,h2.2⟩,if_pos h2]
   ·rw[aK (by omega),aK h2]
theorem gC{α:Type}{l:List α}{i:Nat}{x:α}(h:i<l.length):l.take i++[x]++l.drop (i+1)=l.set i x:=by
 rw[List.set_eq_take_append_cons_drop,if_pos h];simp
theorem zk{c:Nat}(h:¬s.2.length<s.1.length∨ic s.1 c (s.1.length-s.2.length) s.2.length=s.1.length):db s c=s:=by
 unfold db;split
 ·rcases h with h|h
  ·exact absurd ‹_› h
  ·dsimp only;rw[if_pos h]
 ·rfl
theorem zl{c k:Nat}(hk:s.2.length<=k)(hl:k<s.1.length)(h:∀j,s.2.length<=j->j<k->dF s.1 j c=0)(hn:dF s.1 k c≠0):
  db s c=(de (scaled (fW [] s.1 s.2.length k) s.2.length c) s.2.length c s.1.length,s.2++[c]):=by
 have e:ic s.1 c (s.1.length-s.2.length) s.2.length=k:=by
  rw[zj hk (by omega) h,show s.1.length-k=(s.1.length-k-1)+1 by omega,HR hn]
 unfold db;rw[if_pos (by omega)];dsimp only
 rw[e,aK (by omega),sC,jw]
theorem Ja{c k:Nat}(hk:s.2.length<=k)(hl:k=s.1.length)(h:∀j,s.2.length<=j->j<k->dF s.1 j c=0):db s c=s:=by
 refine zk (.inr ?_);rw[zj hk (by omega) h,hl,bL];rfl
end Go.Ex
namespace Go.Ex
open Go Go.Sx Go.Proofs
variable{qs x:List Rat}{i:Nat}{S:Nat->Prop}{u:Value}{w:World}
theorem DP(ys:List Rat)(b:Rat):kx [] ys b=ys.map (· *b):=by
 refine bM fun j=>?_;rcases aQ j ys.length with h|h
 ·rw[xS h,aK (by simp),aM,List.getD,aB h];rfl
 ·rw[List.getElem?_eq_none (by rw[pL];exact h),List.getElem?_eq_none (by simp;exact h)]
theorem Hs{xs ys:List Rat}(b:Rat)(h:xs.length=ys.length):kx xs ys b=xs.mapIdx (ss b ys):=by
 refine bM fun j=>?_;rw[List.getElem?_mapIdx];rcases aQ j ys.length with h1|h1
 ·rw[xS h1,if_pos (by omega),aB (by omega),List.getD,aB (show j<xs.length by omega)];simp[ss,bl]
 ·rw[List.getElem?_eq_none (by rw[pL];exact h1),List.getElem?_eq_none (show xs.length<=j by omega)];rfl
theorem cN.l{v:Value}(h:cN w S v qs)(hq:∀q∈qs,rl q<=100000):cX w S v qs:=by
 obtain⟨css,h1,h2,h3,h4⟩:=h;refine⟨css,h1,h2,h3,fun j cs q k1 k2=>?_⟩;obtain⟨b,a,n,c,b2,a2,n2,c2,e,hc⟩:=h4 j cs q k1 k2;exact⟨b,a,n,c,b2,a2,n2,c2,e,hc.l (hq q (aC k2))⟩
theorem cX.nil(w:World)(S:Nat->Prop):cX w S (.slice none 0 0) []:=⟨[],⟨by simp,by simp,by simp,none,0,rfl,aF _,by simp⟩,rfl,by simp,by simp⟩
theorem KI{v:Value}{p q:Rat}(hS:Old S w)(hp:eS w S v p)(hq:eS w S u q)(h0:q≠0):
  eD PG N.wQ #[v,u] w (eG w fun v' w2=>∃r,v'= .tuple #[r,.int .i64 0]∧cS w2 (Nf w w2) r (p / q)):=
 (aAk hS hp hq).mono fun _ _ ⟨v2,e1,e2,e3⟩=>⟨v2,e1,e2,e3.elim (fun h=>absurd h.1 h0) fun h=>h.2⟩
def gh(w:World)(S:Nat->Prop)(rv:List Value)(M:List (List Rat)):Prop:=rv.length=M.length∧(∀u∈rv,u.oneCell'=true)∧∀(i:Nat) u r,rv[i]? =some u->M[i]? =some r->cX w S u r
section
variable{S S':Nat->Prop}{H:Hp}{nx:Nat}{iv iv':Iv}{B:Nat}{w w' w2:World}{O:Nat->Sx.di}{rv:List Value}{M:List (List Rat)}
theorem gh.rel(h:gh w (Cv S B iv) rv M)(r:Rel H nx iv B w O w')(hS:∀g,S g->g<B):gh w' (Cv S B iv) rv M:=⟨h.1,h.2.1,fun i u x h1 h2=>cX.rel (h.2.2 i u x h1 h2) r hS⟩
theorem gh.cG(h:gh w (Cv S B iv) rv M)(r:Rel H nx iv B w O w')(hS:∀g,S g->g<B)(he:Ext w' w2)(hm:∀p,p∈iv->p∈iv'):gh w2 (Cv S B iv') rv M:=⟨h.1,h.2.1,fun i u x h1 h2=>cX.cG (h.2.2 i u x h1 h2) r hS he hm⟩
theorem gh.set(h:gh w S rv M)(hu:u.oneCell'=true)(hx:cX w S u x):gh w S (rv.set i u) (M.set i x):=by
 refine⟨by simp[h.1],fun v hv=>?_,fun j v y h1 h2=>?_⟩
 ·rcases bF hv with h1|h1
  ·exact h.2.1 v h1
  ·rw[h1];exact hu
 ·rw[List.getElem?_set]at h1 h2;by_cases hj:i=j
  ·rw[if_pos hj]at h1 h2;split at h1
   ·split at h2
    ·injection h1 with h1;injection h2 with h2;subst h1 h2;exact hx
    ·cases h2
   ·cases h1
  ·rw[aK hj]at h1 h2;exact h.2.2 j v y h1 h2
theorem gh.get(h:gh w S rv M)(hi:i<M.length):∃u r,rv[i]? =some u∧M[i]? =some r∧cX w S u r:=by
 obtain⟨u,hu⟩:∃u,rv[i]? =some u:=⟨_,aB (by rw[h.1];exact hi)⟩
 obtain⟨r,hr⟩:∃r,M[i]? =some r:=⟨_,aB hi⟩
 exact⟨u,r,hu,hr,h.2.2 i u r hu hr⟩
end
end Go.Ex
namespace Go.Ex
variable{s:List (List Rat)×List Nat}
theorem dq(M:List (List Rat))(cols:Nat):(cM M cols).1.length=M.length:=by
 have key:∀(l:List Nat) (s:List (List Rat)×List Nat),(l.foldl db s).1.length=s.1.length:=by
  intro l
  induction l with
  |nil=>exact fun s=>rfl
  |cons c l ih=>exact fun s=>by rw[List.foldl_cons,ih,o8]
 exact key _ _
theorem sw{M:List (List Rat)}{c:Nat}:∀f k j,k<=j->j<ic M c f k->dF M j c=0
 |0,k,j,h1,h2=>by simp only[ic]at h2;omega
 |f+1,k,j,h1,h2=>by
  unfold ic at h2;split at h2
  ·rename_i h0;rcases aQ k j with h|h
   ·exact sw f (k+1) j h h2
   ·rw[show j=k by omega];exact h0
  ·omega
theorem jh(c:Nat)(hle:s.2.length<=s.1.length):(db s c=s∧∀j,s.2.length<=j->j<s.1.length->dF s.1 j c=0)∨
  ∃k,s.2.length<=k∧k<s.1.length∧dF s.1 k c≠0∧db s c=(de (scaled (fW [] s.1 s.2.length k) s.2.length c) s.2.length c s.1.length,s.2++[c]):=by
 have h1:=zm s.1 c (s.1.length-s.2.length) s.2.length;by_cases hk:ic s.1 c (s.1.length-s.2.length) s.2.length=s.1.length
 ·exact .inl ⟨zk (.inr hk),fun j hj hl=>sw (s.1.length-s.2.length) s.2.length j hj (by omega)⟩
 ·exact .inr ⟨_,h1.1,by omega,zn s.1 c _ _ (by omega),zl h1.1 (by omega) (fun j h2 h3=>sw _ _ j h2 h3) (zn s.1 c _ _ (by omega))⟩
theorem wE{p:Rat}{r s:List Rat}{c:Nat}(h:c<r.length):(r.mapIdx (ss p s)).getD c 0=r.getD c 0+p*s.getD c 0:=by
 simp only[List.getD,List.getElem?_mapIdx,aB h]
 rfl
theorem zo{r:List Rat}{k:Rat}{c:Nat}:(r.map (· *k)).getD c 0=r.getD c 0*k:=by
 simp only[List.getD,aM]
 cases r[c]? with
 |none=>exact(bI k).symm
 |some q=>rfl
theorem mE{c k n:Nat}(hl:fZ n s.1)(h1:s.2.length<=k)(h2:k<s.1.length)(h3:dF s.1 k c≠0)(e:db s c=(de (scaled (fW [] s.1 s.2.length k) s.2.length c) s.2.length c s.1.length,s.2++[c])):
  (∀t,dF (db s c).1 s.2.length t=dF s.1 k t*(1 / dF s.1 k c))∧
  ∀j,j<s.1.length->j≠s.2.length->∀t,t<n->dF (db s c).1 j t=dF s.1 (if j=k then s.2.length else j) t+ -(dF s.1 (if j=k then s.2.length else j) c)*(dF s.1 k t*(1 / dF s.1 k c)):=by
 have hp:s.2.length<s.1.length:=by omega
 have hsw:dF (fW [] s.1 s.2.length k) s.2.length c=dF s.1 k c:=FT hp h2;have Tz:(scaled (fW [] s.1 s.2.length k) s.2.length c).getD s.2.length []=(s.1.getD k []).map (· *(1 / dF s.1 k c)):=by
  unfold scaled;rw[hsw,List.getD,aV (by rw[jw];exact hp)];simp only[Option.getD_some]
  congr 1;rw[List.getD,List.getD,Ce hp h2]
 have OK:∀j,j<s.1.length->j≠s.2.length->(scaled (fW [] s.1 s.2.length k) s.2.length c)[j]? =some (s.1.getD (if j=k then s.2.length else j) []):=fun j hj OJ=>by
  unfold scaled;rw[aZ (Ne.symm OJ)];unfold fW;by_cases S2:j=k
  ·subst S2;rw[aV (by simpa using hj),if_pos rfl]
  ·rw[aZ (Ne.symm S2),aZ (Ne.symm OJ),aK S2,List.getD,aB hj];rfl
 have hgp:(de (scaled (fW [] s.1 s.2.length k) s.2.length c) s.2.length c s.1.length).getD s.2.length []=(s.1.getD k []).map (· *(1 / dF s.1 k c)):=by
  rw[<-Tz];simp only[List.getD,tA]
 rw[e];refine⟨fun t=>?_,fun j hj OJ t ht=>?_⟩
 ·show((de (scaled (fW [] s.1 s.2.length k) s.2.length c) s.2.length c s.1.length).getD s.2.length []).getD t 0=_;rw[hgp,zo];rfl
 ·have hgj:(de (scaled (fW [] s.1 s.2.length k) s.2.length c) s.2.length c s.1.length).getD j []=(s.1.getD (if j=k then s.2.length else j) []).mapIdx (ss (-((s.1.getD (if j=k then s.2.length else j) []).getD c 0)) ((s.1.getD k []).map (· *(1 / dF s.1 k c)))):=by
   simp only[List.getD,de,List.getElem?_mapIdx,OK j hj OJ,Option.map_some,Option.getD_some]
   rw[if_pos ⟨hj,OJ⟩];exact congrArg (fun P=>(s.1.getD (if j=k then s.2.length else j) []).mapIdx (ss (-((s.1.getD (if j=k then s.2.length else j) []).getD c 0)) P)) Tz
  show((de (scaled (fW [] s.1 s.2.length k) s.2.length c) s.2.length c s.1.length).getD j []).getD t 0=_;rw[hgj,wE (by rw[hl.getD (by split<;>omega)];exact ht),zo];rfl
theorem uE{x:Rat}(h:x≠0):x*(1 / x)=1:=by rw[bj,bq,Rat.mul_inv_cancel x h]
def Red(n c:Nat)(s:List (List Rat)×List Nat):Prop:=fZ n s.1∧s.2.length<=s.1.length∧(∀j t,s.2.length<=j->j<s.1.length->t<c->dF s.1 j t=0)∧(∀p∈s.2,p<c)∧
 ∀i j,i<s.2.length->j<s.1.length->dF s.1 j (s.2.getD i 0)=if j=i then 1 else 0
theorem Red.step{n c:Nat}(h:Red n c s)(hc:c<n):Red n (c+1) (db s c):=by
 obtain⟨hl,hle,hz,RQ,hu⟩:=h;rcases jh c hle with⟨e,h0⟩|⟨k,h1,h2,h3,e⟩
 ·rw[e];refine⟨hl,hle,fun j t hj Tt ht=>?_,fun p hp=>by have:=RQ p hp;omega,hu⟩;rcases aQ t c with h|h
  ·exact hz j t hj Tt h
  ·rw[show t=c by omega];exact h0 j hj Tt
 ·obtain⟨r1,r2⟩:=mE hl h1 h2 h3 e;have hlen:(db s c).1.length=s.1.length:=o8 s c;have e2:(db s c).2=s.2++[c]:=by rw[e]
  have e3:(db s c).2.length=s.2.length+1:=by rw[e2];simp
  have QI:∀j,j<s.1.length->j≠s.2.length->dF (db s c).1 j c=0:=fun j hj OJ=>by
   rw[r2 j hj OJ c hc,uE h3,Rat.mul_one,Rat.add_neg_cancel]
  refine⟨hl.step,by rw[e3,hlen];omega,fun j t hj Tt ht=>?_,fun p hp=>?_,fun i j hi hj=>?_⟩
  ·rw[e3]at hj;rw[hlen]at Tt;rcases aQ t c with h|h
   ·rw[r2 j Tt (by omega) t (by omega),hz k t h1 h2 h,hz (if j=k then s.2.length else j) t (by split<;>omega) (by split<;>omega) h,bI,bD,Rat.zero_add]
   ·rw[show t=c by omega];exact QI j Tt (by omega)
  ·rw[e2]at hp;rcases bK.1 hp with hp|hp
   ·have:=RQ p hp;omega
   ·rw[bB.1 hp];omega
  ·rw[e3]at hi;rw[hlen]at hj;rcases aQ i s.2.length with h|h
   ·have hg:(db s c).2.getD i 0=s.2.getD i 0:=by rw[e2,List.getD,aL h,<-List.getD]
    have hpm:s.2.getD i 0<c:=RQ _ (by rw[List.getD,aB h];exact aX h);have Sd:dF s.1 k (s.2.getD i 0)=0:=hz k _ h1 h2 hpm;rw[hg];by_cases hjp:j=s.2.length
    ·rw[hjp,r1,Sd,bI,aK (by omega)]
    ·rw[r2 j hj hjp _ (by omega),Sd,bI,bD,bY];by_cases S2:j=k
     ·rw[if_pos S2,hu i _ h (by omega),aK (by omega),aK (by omega)]
     ·rw[aK S2,hu i j h hj]
   ·have hg:(db s c).2.getD i 0=c:=by rw[e2,List.getD,aN h,show i-s.2.length=0 by omega];rfl
    rw[hg];by_cases hjp:j=s.2.length
    ·rw[hjp,r1,uE h3,if_pos (by omega)]
    ·rw[QI j hj hjp,aK (by omega)]
theorem dV{M:List (List Rat)}{n:Nat}(hl:fZ n M):∀cols,cols<=n->Red n cols (cM M cols)
 |0,_=>⟨hl,aO _,fun _ _ _ _ h=>by omega,fun p hp=>(by cases hp),fun _ _ h=>(by cases h)⟩
 |c+1,h=>by
  have ih:=dV hl c (by omega);unfold cM at ih ⊢;rw[bT,List.foldl_append];exact ih.step (by omega)
abbrev Mx:=Nat->Nat->Rat
def skip(k j:Nat):Nat:=if j<k then j else j+1
def tD(k:Nat):Rat:=if k % 2=1 then -1 else 1
def cZ(f:Nat->Rat):Nat->Rat
 |0=>0
 |n+1=>cZ f n+f n
def fw:Nat->Mx->Rat
 |0,_=>1
 |n+1,m=>cZ (fun k=>tD k*(m 0 k*fw n fun i j=>m (i+1) (skip k j))) (n+1)
theorem cL{f g:Nat->Rat}:∀{n:Nat},(∀k,k<n->f k=g k)->cZ f n=cZ g n
 |0,_=>rfl
 |n+1,h=>by rw[cZ,cZ,cL fun k hk=>h k (by omega),h n (by omega)]
theorem dw:∀(n:Nat),cZ (fun _=>0) n=0
 |0=>rfl
 |n+1=>by rw[cZ,dw n,bY]
theorem gJ(f g:Nat->Rat):∀(n:Nat),cZ (fun k=>f k+g k) n=cZ f n+cZ g n
 |0=>(bY 0).symm
 |n+1=>by rw[cZ,cZ,cZ,gJ f g n];grind
theorem eo(p:Rat)(f:Nat->Rat):∀(n:Nat),cZ (fun k=>p*f k) n=p*cZ f n
 |0=>(bD p).symm
 |n+1=>by rw[cZ,cZ,eo p f n];grind
theorem nh(f:Nat->Rat)(n:Nat):cZ (fun k=> -f k) n= -cZ f n:=by
 have h:=eo (-1) f n;rw[show (-1:Rat)*cZ f n= -cZ f n by grind]at h;rw[<-h];exact cL fun k _=>by grind
theorem zx(f:Nat->Rat):∀(n:Nat),cZ f (n+1)=f 0+cZ (fun k=>f (k+1)) n
 |0=>by show 0+f 0=f 0+0;grind
 |n+1=>by rw[cZ,zx f n,cZ];grind
theorem IY{k j n:Nat}(h:j<n):skip k j<n+1:=by unfold skip;split<;>omega
theorem Jb{k l:Nat}(h:k<=l)(j:Nat):skip k (skip l j)=skip (l+1) (skip k j):=by
 unfold skip;grind
theorem ir:∀{n:Nat} {m m':Mx},(∀i j,i<n->j<n->m i j=m' i j)->fw n m=fw n m'
 |0,_,_,_=>rfl
 |n+1,m,m',h=>by
  unfold fw;refine cL fun k hk=>?_;rw[h 0 k (by omega) hk,ir fun i j hi hj=>h (i+1) (skip k j) (by omega) (IY hj)]
def gW(m:Mx)(r:Nat)(u:Nat->Rat):Mx:=fun i j=>if i=r then u j else m i j
theorem wF(m:Mx)(r k:Nat)(u:Nat->Rat):(fun i j=>gW m (r+1) u (i+1) (skip k j))=gW (fun i j=>m (i+1) (skip k j)) r fun j=>u (skip k j):=by
 funext i j
 unfold gW;by_cases h:i=r
 ·rw[if_pos h,if_pos (by omega)]
 ·rw[aK h,aK (by omega)]
theorem ni(p:Rat):∀(n r:Nat) (m:Mx),r<n->∀(u v:Nat->Rat),fw n (gW m r fun j=>u j+p*v j)=fw n (gW m r u)+p*fw n (gW m r v)
 |0,_,_,h,_,_=>by omega
 |n+1,0,m,_,u,v=>by
  unfold fw;rw[<-eo,<-gJ];refine cL fun k _=>?_;have e:∀x:Nat->Rat,(fun i j=>gW m 0 x (i+1) (skip k j))=fun i j=>m (i+1) (skip k j):=fun x=>by
   funext i j;unfold gW;rw[aK (by omega)]
  rw[e,e,e];unfold gW;rw[if_pos rfl,if_pos rfl,if_pos rfl];grind
 |n+1,r+1,m,h,u,v=>by
  unfold fw;rw[<-eo,<-gJ];refine cL fun k _=>?_;rw[wF,wF,wF,ni p n r _ (by omega) (fun j=>u (skip k j)) fun j=>v (skip k j)];have e:∀x:Nat->Rat,gW m (r+1) x 0 k=m 0 k:=fun x=>by unfold gW;rw[aK (by omega)]
  rw[e,e,e];grind
theorem zy{F:Nat->Nat->Rat}:∀{n:Nat},(∀k l,k<=l->l<n->F k l+F (l+1) k=0)->cZ (fun k=>cZ (F k) n) (n+1)=0
 |0,_=>by show 0+0=(0:Rat);grind
 |n+1,h=>by
  have ih:=zy (F:=F) (n:=n) fun k l h1 h2=>h k l h1 (by omega);have h3:cZ (fun k=>F k n+F (n+1) k) (n+1)=0:=by
   rw[cL (g:=fun _=>0) fun k hk=>h k n (by omega) (by omega),dw]
  rw[gJ]at h3;rw[cZ];have h4:cZ (fun k=>cZ (F k) (n+1)) (n+1)=cZ (fun k=>cZ (F k) n) (n+1)+cZ (fun k=>F k n) (n+1):=by
   rw[<-gJ];rfl
  rw[h4,ih,Rat.zero_add];exact h3
def lf(a b i:Nat):Nat:=if i=a then b else if i=b then a else i
theorem Jc(r i:Nat):lf (r+1) (r+2) (i+1)=lf r (r+1) i+1:=by
 unfold lf;by_cases h:i=r
 ·rw[if_pos (by omega),if_pos h]
 ·rw[aK (by omega),aK h];by_cases h2:i=r+1
  ·rw[if_pos (by omega),if_pos h2]
  ·rw[aK (by omega),aK h2]
theorem Kw(k:Nat):tD (k+1)= -tD k:=by
 unfold tD;by_cases h:k % 2=1
 ·rw[if_pos h,aK (by omega)];grind
 ·rw[aK h,if_pos (by omega)]
theorem FV(n:Nat)(m:Mx):fw (n+2) m=cZ (fun k=>cZ (fun l=>tD k*tD l*(m 0 k*m 1 (skip k l))*fw n fun i j=>m (i+2) (skip k (skip l j))) (n+1)) (n+2):=by
 rw[fw];refine cL fun k _=>?_;rw[fw,<-eo,<-eo];refine cL fun l _=>?_;grind
theorem zz:∀(n r:Nat) (m:Mx),r+1<n->fw n (fun i j=>m (lf r (r+1) i) j)= -fw n m
 |0,_,_,h=>by omega
 |1,_,_,h=>by omega
 |n+2,0,m,_=>by
  rw[FV,FV,<-nh];have key:cZ (fun k=>cZ (fun l=>tD k*tD l*(m 1 k*m 0 (skip k l))*(fw n fun i j=>m (i+2) (skip k (skip l j)))+tD k*tD l*(m 0 k*m 1 (skip k l))*fw n fun i j=>m (i+2) (skip k (skip l j))) (n+1)) (n+2)=0:=by
   refine zy fun k l h1 h2=>?_;have e1:skip k l=l+1:=by unfold skip;rw[aK (by omega)]
   have e2:skip (l+1) k=k:=by unfold skip;rw[if_pos (by omega)]
   have e3:(fun i j=>m (i+2) (skip (l+1) (skip k j)))=fun i j=>m (i+2) (skip k (skip l j)):=by
    funext i j;rw[Jb h1]
   rw[e1,e2,e3,Kw];grind
  have h4:cZ (fun k=>cZ (fun l=>tD k*tD l*(m 1 k*m 0 (skip k l))*(fw n fun i j=>m (i+2) (skip k (skip l j)))+tD k*tD l*(m 0 k*m 1 (skip k l))*fw n fun i j=>m (i+2) (skip k (skip l j))) (n+1)) (n+2)=
    cZ (fun k=>cZ (fun l=>tD k*tD l*(m 1 k*m 0 (skip k l))*fw n fun i j=>m (i+2) (skip k (skip l j))) (n+1)) (n+2)+cZ (fun k=>cZ (fun l=>tD k*tD l*(m 0 k*m 1 (skip k l))*fw n fun i j=>m (i+2) (skip k (skip l j))) (n+1)) (n+2):=by
   rw[<-gJ];exact cL fun k _=>gJ _ _ _
  rw[h4]at key;have h5:cZ (fun k=> -cZ (fun l=>tD k*tD l*(m 0 k*m 1 (skip k l))*fw n fun i j=>m (i+2) (skip k (skip l j))) (n+1)) (n+2)= -cZ (fun k=>cZ (fun l=>tD k*tD l*(m 0 k*m 1 (skip k l))*fw n fun i j=>m (i+2) (skip k (skip l j))) (n+1)) (n+2):=nh _ _;rw[h5];have h6:cZ (fun k=>cZ (fun l=>tD k*tD l*(m (lf 0 1 0) k*m (lf 0 1 1) (skip k l))*fw n fun i j=>m (lf 0 1 (i+2)) (skip k (skip l j))) (n+1)) (n+2)=cZ (fun k=>cZ (fun l=>tD k*tD l*(m 1 k*m 0 (skip k l))*fw n fun i j=>m (i+2) (skip k (skip l j))) (n+1)) (n+2):=by
   refine cL fun k _=>cL fun l _=>?_;have e:∀i,lf 0 1 (i+2)=i+2:=fun i=>by unfold lf;rw[aK (by omega),aK (by omega)]
   simp only[e]
   rfl
  rw[show (0:Nat)+1=1 from rfl,h6];grind
 |n+2,r+1,m,h=>by
  rw[fw,fw,<-nh];refine cL fun k _=>?_;have e:(fun i j=>m (lf (r+1) (r+1+1) (i+1)) (skip k j))=fun i j=>m (lf r (r+1) i+1) (skip k j):=by
   funext i j
   rw[show r+1+1=r+2 from rfl,Jc]
  have ih:fw (n+1) (fun i j=>m (lf r (r+1) i+1) (skip k j))= -fw (n+1) fun i j=>m (i+1) (skip k j):=zz (n+1) r (fun i j=>m (i+1) (skip k j)) (by omega);rw[e,ih];rw[show lf (r+1) (r+1+1) 0=0 by unfold lf;rw[aK (by omega),aK (by omega)]];grind
theorem oc:∀(k n:Nat) (m:Mx),k+1<n->(∀j,j<n->m 0 j=m (k+1) j)->fw n m=0
 |0,n,m,h,he=>by
  have h1:=zz n 0 m h;rw[ir (m':=m) fun i j hi hj=>?_]at h1
  ·grind
  ·unfold lf;by_cases h0:i=0
   ·rw[if_pos h0,h0];exact(he j hj).symm
   ·rw[aK h0];by_cases h2:i=1
    ·rw[if_pos h2,h2];exact he j hj
    ·rw[aK h2]
 |k+1,n,m,h,he=>by
  have h1:=zz n (k+1) m h;rw[oc k n _ (by omega) fun j hj=>?_]at h1
  ·grind
  ·rw[show lf (k+1) (k+1+1) 0=0 by unfold lf;rw[aK (by omega),aK (by omega)],show lf (k+1) (k+1+1) (k+1)=k+1+1 by unfold lf;rw[if_pos rfl]];exact he j hj
theorem FW(m:Mx)(r:Nat):gW m r (m r)=m:=by
 funext i j
 unfold gW;by_cases h:i=r
 ·rw[if_pos h,h]
 ·rw[aK h]
theorem Jd{n k:Nat}{m:Mx}(h:k+1<n):fw n (fun i j=>m (lf 0 (k+1) i) j)= -fw n m:=by
 have z:∀u:Nat->Rat,fw n (gW (gW m 0 u) (k+1) u)=0:=fun u=>oc k n _ h fun j _=>by
  unfold gW;rw[aK (by omega),if_pos rfl,if_pos rfl]
 have cm:∀u v:Nat->Rat,gW (gW m 0 u) (k+1) v=gW (gW m (k+1) v) 0 u:=fun u v=>by
  funext i j;unfold gW
  by_cases h1:i=k+1
  ·rw[if_pos h1,aK (by omega),if_pos h1]
  ·rw[aK h1,aK h1]
 have l1:∀u v x:Nat->Rat,fw n (gW (gW m 0 u) (k+1) fun j=>v j+1*x j)=fw n (gW (gW m 0 u) (k+1) v)+1*fw n (gW (gW m 0 u) (k+1) x):=fun u v x=>ni 1 n (k+1) _ h v x;have l2:∀u v x:Nat->Rat,fw n (gW (gW m 0 fun j=>v j+1*x j) (k+1) u)=fw n (gW (gW m 0 v) (k+1) u)+1*fw n (gW (gW m 0 x) (k+1) u):=fun u v x=>by
  rw[cm,cm,cm];exact ni 1 n 0 _ (by omega) v x
 have h1:=z fun j=>m 0 j+1*m (k+1) j;rw[l1,l2,l2,z,z]at h1;have e1:gW (gW m 0 (m 0)) (k+1) (m (k+1))=m:=by rw[FW,FW]
 have e2:gW (gW m 0 (m (k+1))) (k+1) (m 0)=fun i j=>m (lf 0 (k+1) i) j:=by
  funext i j;unfold gW lf
  by_cases h1:i=k+1
  ·rw[if_pos h1,aK (by omega),if_pos h1]
  ·rw[aK h1];by_cases h0:i=0
   ·rw[if_pos h0,if_pos h0]
   ·rw[aK h0,aK h0,aK h1]
 rw[e1,e2]at h1;grind
theorem lg(f:Nat->Rat)(p:Rat)(n:Nat):cZ (fun k=>f k*p) n=cZ f n*p:=by
 rw[bl,<-eo];exact cL fun k _=>bl ..
theorem uG(f g:Nat->Rat):∀(n:Nat),cZ (fun k=>f k-g k) n=cZ f n-cZ g n
 |0=>by show(0:Rat)=0-0;grind
 |n+1=>by rw[cZ,cZ,cZ,uG f g n];grind
theorem eu{f:Nat->Rat}{i:Nat}:∀{n:Nat},i<n->(∀k,k<n->k≠i->f k=0)->cZ f n=f i
 |0,h,_=>by omega
 |n+1,h,hz=>by
  rw[cZ];rcases aQ i n with h1|h1
  ·rw[eu h1 fun k hk OJ=>hz k (by omega) OJ,hz n (by omega) (by omega),bY]
  ·obtain rfl:i=n:=by omega
   rw[cL (g:=fun _=>0) fun k hk=>hz k (by omega) (by omega),dw,Rat.zero_add]
theorem sq_nonneg(x:Rat):0<=x*x:=by
 rcases Rat.le_total (a:=0) (b:=x)with h|h
 ·exact Rat.mul_nonneg h h
 ·have:=Rat.mul_nonneg (show 0<= -x by grind) (show 0<= -x by grind);grind
end Go.Ex
namespace Go.Ex
open Go Go.Sx Go.Proofs
variable{M:List (List (Int×Int))}{cs:List Value}{j:Nat}{S:Nat->Prop}{a a1 a2:Option Addr}{q:Rat}{w:World}
theorem BW{v:Value}(hS:Old S w)(h:jP w S v M):eD PG N.sO #[v] w (eG w fun v' _=>v'= .int .i64 (eU M)):=by
 have hn:=h;obtain⟨a,c,rfl,hc,hm⟩:=c9.shape h;refine wv (by simp) ?_
 cases M with
 |nil=>
  intro ρe we re;exact⟨_,rfl,re.cQ,rfl⟩
 |cons r t=>
  obtain⟨ad,u,rfl,hu,h1,h2⟩:=c9.load h (j:=0) (x:=r) rfl;obtain⟨a2,c2,rfl⟩:=c9.M0 hu;refine⟨ad,rfl,⟨by omega,by simp⟩,.slice a2 r.length c2,fun O w' r'=>by simpa using kR hS dm.refl r' h1 (by simpa using h2),?_⟩;intro ρe we re;exact⟨_,rfl,re.cQ,rfl⟩
theorem iB.len(h:iB w S cs q):cs.length=4:=by obtain⟨_,_,_,_,_,_,_,_,rfl,_⟩:=h;rfl
def Fc(w:World)(S:Nat->Prop)(css:List (List Value))(qs:List Rat):Prop:=css.length=qs.length∧∀(j:Nat) cs q,css[j]? =some cs->qs[j]? =some q->iB w S cs q
section
variable{S S':Nat->Prop}{w w2:World}{cs:List Value}{css:List (List Value)}{q:Rat}{qs:List Rat}
theorem Fc.cI(h:Fc w S css qs)(hk:∀g,S g->w2.heap[g]? =w.heap[g]?):Fc w2 S css qs:=⟨h.1,fun j cs q h1 h2=>(h.2 j cs q h1 h2).cI hk⟩
theorem Fc.cJ(h:Fc w S css qs)(hk:∀g,S g->S' g):Fc w S' css qs:=⟨h.1,fun j cs q h1 h2=>(h.2 j cs q h1 h2).cJ hk⟩
theorem Fc.xC(h:Fc w S css qs):∀cs∈css,cs.length=4:=fun cs hc=>by
 obtain⟨j,hj⟩:=aR hc;have hl:=(aD.1 hj).1;exact(h.2 j cs _ hj (aB (by rw[<-h.1];exact hl))).len
theorem Fc.one(h:Fc w S css qs):∀u∈css.flatten,u.oneCell'=true:=fun u hu=>by
 obtain⟨cs,hc,hu⟩:=List.mem_flatten.1 hu;obtain⟨j,hj⟩:=aR hc;have hl:=(aD.1 hj).1;obtain⟨_,_,_,_,_,_,_,_,rfl,_⟩:=h.2 j cs _ hj (aB (by rw[<-h.1];exact hl));simp at hu;rcases hu with rfl|rfl|rfl|rfl<;>rfl
theorem Fc.set(h:Fc w S css qs)(hq:iB w S cs q):Fc w S (css.set j cs) (qs.set j q):=by
 refine⟨by simp[h.1],fun i c p h1 h2=>?_⟩;by_cases Pt:j=i
 ·subst Pt;have hl:=(aD.1 h1).1;rw[aV (by simpa using hl)]at h1;rw[aV (by have:=h.1;simp at hl;omega)]at h2;injection h1 with h1;injection h2 with h2;subst h1 h2;exact hq
 ·rw[aZ Pt]at h1 h2;exact h.2 i c p h1 h2
end
def gS(w:World)(C S:Nat->Prop)(v:Value)(qs:List Rat):Prop:=∃css,gO w C 4 v css.flatten qs.length∧Fc w S css qs
section
variable{C C' S S':Nat->Prop}{H:Hp}{nx:Nat}{iv iv':Iv}{B:Nat}{w w' w2:World}{O:Nat->Sx.di}{v:Value}{qs:List Rat}
theorem gS.cI(h:gS w C S v qs)(hk:∀g,C g∨S g->w2.heap[g]? =w.heap[g]?):gS w2 C S v qs:=by
 obtain⟨css,h1,h2⟩:=h;exact⟨css,h1.cI fun g hg=>hk g (.inl hg),h2.cI fun g hg=>hk g (.inr hg)⟩
theorem gS.cJ(h:gS w C S v qs)(hk:∀g,C g->C' g)(Vw:∀g,S g->S' g):gS w C' S' v qs:=by
 obtain⟨css,h1,h2⟩:=h;exact⟨css,h1.cJ hk,h2.cJ Vw⟩
end
def ig(w:World)(S:Nat->Prop)(v:Value)(n:Nat)(qs:List Rat):Prop:=∃css,w.ownsRow 0 T.Rat 4 v n css.flatten∧css.length=n∧Fc w S css qs
section
variable{S S' C:Nat->Prop}{H:Hp}{nx n:Nat}{iv iv':Iv}{B:Nat}{w w' w2:World}{O:Nat->Sx.di}{v:Value}{qs:List Rat}
theorem ig.cI(h:ig w S v n qs)(hk:∀g,S g∨v.ownBlock=some g->w2.heap[g]? =w.heap[g]?):ig w2 S v n qs:=by
 obtain⟨css,h1,h2,h3⟩:=h;exact⟨css,ownsRow.cI h1 fun g hg=>hk g (.inr hg),h2,h3.cI fun g hg=>hk g (.inl hg)⟩
theorem ig.cJ(h:ig w S v n qs)(hk:∀g,S g->S' g):ig w S' v n qs:=by
 obtain⟨css,h1,h2,h3⟩:=h;exact⟨css,h1,h2,h3.cJ hk⟩
theorem ig.len(h:ig w S v n qs):qs.length=n:=by
 obtain⟨css,h1,h2,h3⟩:=h;rw[<-h3.1,h2]
theorem ig.form(h:ig w S v n qs):∃a c,v= .slice a n c∧n<=c:=by
 obtain⟨css,h1,h2,h3⟩:=h;exact fJ h1
theorem ig.le(h:ig w S v n qs):n<=maxLen:=by
 obtain⟨css,h1,h2,h3⟩:=h;rcases h1.2 with⟨_,h0⟩|⟨_,_,_,_,_,_,h1,h2,_⟩
 ·omega
 ·omega
theorem ig.read(h:ig w S v n qs):gS w (fun g=>v.ownBlock=some g) S v qs:=by
 have hl:=h.len;have hn:=h.le;obtain⟨css,h1,h2,h3⟩:=h;refine⟨css,?_,h3⟩;rw[hl];rcases h1.2 with⟨rfl,rfl⟩|⟨g,cap,cur,rfl,hb,hc,Sc,Qs,Om,S1⟩
 ·refine⟨hn,h1.1,h3.one,none,0,rfl,aF _,fun j u hu=>?_⟩;have:=h1.1;rw[Nat.zero_mul]at this;rw[List.eq_nil_of_length_eq_zero this]at hu
  cases hu
 ·refine⟨hn,h1.1,h3.one,_,cap,rfl,Sc,fun j u hu=>⟨_,rfl,rfl,?_⟩⟩;exact h1.cells (g:=g) rfl j u hu
theorem ig.store{c n1 c1 n2 c2:Nat}{b b2:Bool}(h:ig w S (.slice a n c) n qs)(hj:j<n)(hf:cS w S (.agg #[.bool b,.slice a1 n1 c1,.bool b2,.slice a2 n2 c2]) q)(Te:∀g,(Value.slice a n c).ownBlock=some g->¬S g)(hS:Old S w):
  ∃g,a=some ⟨g,0,none⟩∧((⟨g,0,none⟩:Addr).add ((j:Int).toNat*4)).spot=none∧((⟨g,0,none⟩:Addr).add ((j:Int).toNat*4)).block=g∧
   (∀k,k<4->(w.cell? (((⟨g,0,none⟩:Addr).add ((j:Int).toNat*4)).add k)).isSome=true∧w.frozen? (((⟨g,0,none⟩:Addr).add ((j:Int).toNat*4)).add k)=false)∧
   ∀w2,w2=setCells w ((⟨g,0,none⟩:Addr).add ((j:Int).toNat*4)) [.bool b,.slice a1 n1 c1,.bool b2,.slice a2 n2 c2]->ig w2 S (.slice a n c) n (qs.set j q)∧w.grownBy w2 (some g)∧w2.heap.size=w.heap.size:=by
 obtain⟨css,h1,h2,h3⟩:=h;obtain⟨g,rfl,OM,Px,Pc,Om⟩:=qB (nv:=[.bool b,.slice a1 n1 c1,.bool b2,.slice a2 n2 c2]) h1 rfl hj rfl (by decide);have Ol:(⟨g,0,none⟩:Addr).add ((j:Int).toNat*4)=⟨g,j*4,none⟩:=by rw[aE,dZ,aS]
 refine⟨g,rfl,by rw[Ol],by rw[Ol],fun k hk=>by rw[Ol];exact OM k hk,fun w2 PN=>?_⟩;rw[Ol]at PN;subst PN;have Ut:=iy (cs:=[.bool b,.slice a1 n1 c1,.bool b2,.slice a2 n2 c2]) h3.xC (show j<css.length by omega);rw[Ut]at Px;have Pn:∀x,S x->(setCells w ⟨g,j*4,none⟩ [.bool b,.slice a1 n1 c1,.bool b2,.slice a2 n2 c2]).heap[x]? =w.heap[x]? :=fun x hx=>
  Pc.block x (hS x hx) fun e=>Te g rfl (by injection e with e;rw[<-e];exact hx)
 exact⟨⟨_,Px,by simpa using h2,(h3.cI Pn).set (hf.cI Pn).pW⟩,Pc,Om⟩
structure df(w:World)(S:Nat->Prop)(B:Nat)(iv:Iv)(v:Value)(n:Nat)(qs:List Rat):Prop where
 row:ig w (fun g=>Cv S B iv g∧v.ownBlock≠some g) v n qs
 new:∀g,v.ownBlock=some g->Cv FF B iv g
theorem df.cI(h:df w S B iv v n qs)(hk:∀g,Cv S B iv g->w2.heap[g]? =w.heap[g]?):df w2 S B iv v n qs:=
 ⟨h.row.cI fun g hg=>hk g (hg.elim (fun h=>h.1) fun hg=>(h.new g hg).elim (fun h=>h.elim) .inr),h.new⟩
theorem df.rel(h:df w S B iv v n qs)(r:Rel H nx iv B w O w')(hS:∀g,S g->g<B):df w' S B iv v n qs:=h.cI fun _ hg=>Rel.same r hS hg
theorem df.cG(h:df w S B iv v n qs)(r:Rel H nx iv B w O w')(hS:∀g,S g->g<B)(he:Ext w' w2)(hm:∀p,p∈iv->p∈iv'):df w2 S B iv' v n qs:=
 have h2:=(h.rel r hS).cI fun g hg=>he.block g (Rel.old r hS g hg)
 ⟨h2.row.cJ fun _ hg=>⟨hg.1.mono hm,hg.2⟩,fun g hg=>(h2.new g hg).mono hm⟩
theorem df.dB(h:df w2 FF w'.heap.size [(w'.heap.size,w2.heap.size)] v n qs)(hB:B<=w'.heap.size)(hm:(w'.heap.size,w2.heap.size)∈iv):df w2 S B iv v n qs:=by
 have key:∀g {X:Nat->Prop},Cv FF w'.heap.size [(w'.heap.size,w2.heap.size)] g->Cv X B iv g:=fun g X hg=>by
  rcases hg with hg|⟨h1,lo,hi,h2,h3,h4⟩
  ·exact hg.elim
  ·simp at h2;obtain⟨rfl,rfl⟩:=h2;exact .inr ⟨by omega,_,_,hm,h3,h4⟩
 exact⟨h.row.cJ fun g hg=>⟨key g hg.1,hg.2⟩,fun g hg=>key g (h.new g hg)⟩
theorem df.out{w0 w1:World}(h:df w1 FF w0.heap.size iv v n qs)(r:Rel H nx iv w0.heap.size w1 O w'):df w' FF w0.heap.size [(w0.heap.size,w'.heap.size)] v n qs:=by
 have h2:=h.rel r (cC w0);have key:∀g,Cf w0 iv g->Cf w0 [(w0.heap.size,w'.heap.size)] g:=fun g hg=>by
  rcases hg with hg|⟨h1,lo,hi,h2,h3,h4⟩
  ·exact hg.elim
  ·exact .inr ⟨h1,_,_,bB.2 rfl,h1,by have:=r.po lo hi h2;have:=r.size;omega⟩
 exact⟨h2.row.cJ fun g hg=>⟨key g hg.1,hg.2⟩,fun g hg=>key g (h2.new g hg)⟩
theorem df.read(h:df w S B iv v n qs):gS w (Cv S B iv) (Cv S B iv) v qs:=
 h.row.read.cJ (fun g hg=>(h.new g hg).elim (fun h=>h.elim) .inr) fun _ hg=>hg.1
end
section
variable{S S':Nat->Prop}{H:Hp}{nx n:Nat}{iv iv':Iv}{B:Nat}{w w' w2:World}{O:Nat->Sx.di}{v:Value}{qs:List Rat}
theorem df.store{c n1 c1 n2 c2:Nat}{b b2:Bool}(h:df w' S B iv (.slice a n c) n qs)(hj:j<n)(hf:cS w' (fun g=>Cv S B iv g∧(Value.slice a n c).ownBlock≠some g) (.agg #[.bool b,.slice a1 n1 c1,.bool b2,.slice a2 n2 c2]) q)
  (r:Rel H nx iv B w O w') (hS:∀g,S g->g<B):
  ∃g,a=some ⟨g,0,none⟩∧((⟨g,0,none⟩:Addr).add ((j:Int).toNat*4)).spot=none∧
   (∀k,k<4->(w'.cell? (((⟨g,0,none⟩:Addr).add ((j:Int).toNat*4)).add k)).isSome=true∧w'.frozen? (((⟨g,0,none⟩:Addr).add ((j:Int).toNat*4)).add k)=false)∧
   (∀id b,dE H id=some b->(O id).nil=false->(O id).g≠((⟨g,0,none⟩:Addr).add ((j:Int).toNat*4)).block)∧Cv FF B iv g∧
   ∀w2,w2=setCells w' ((⟨g,0,none⟩:Addr).add ((j:Int).toNat*4)) [.bool b,.slice a1 n1 c1,.bool b2,.slice a2 n2 c2]->df w2 S B iv (.slice a n c) n (qs.set j q)∧w'.grownBy w2 (some g)∧w2.heap.size=w'.heap.size:=by
 obtain⟨g,rfl,h1,h2,h3,h4⟩:=h.row.store hj hf (fun g hg hx=>hx.2 hg) (fun x hx=>Rel.old r hS x hx.1);refine⟨g,rfl,h1,h3,fun id b hb hn=>by rw[h2];exact Rel.not r hS (yE (h.new g rfl)) id b hb hn,h.new g rfl,fun w2 PN=>?_⟩;obtain⟨k1,k2,k3⟩:=h4 w2 PN;exact⟨⟨k1,h.new⟩,k2,k3⟩
end
end Go.Ex
namespace Go.Sx
open Go Go.Ex Go.Proofs
variable{cs:List Value}{O:Nat->Sx.di}
theorem Sub.kD{B:Nat}{l tl:Env}{nx:Nat}{H tH:Hp}{iv:Iv}{w w':World}{id t n c:Nat}{e:TypeId}(r:Rel H nx iv B w O w')(Ox:dE H id=some (.arr e cs))(ht:fT l t=some (.o (.s id 0 n c)))
  (hs:vq H tH) (ho:Er id tH=true) (h1:FB l tl) (h2:jQ nx tl):
  Sub B l nx O w' ⟨(t,.o (.v (.slice (some ⟨(O id).g,0,none⟩) n c)))::tl,tH,nx,((O id).g,(O id).g+1)::iv,w'⟩:=by
 refine⟨O,r.free Ox (by simp) (r.fits Ox).1 hs ho,fun u v hv=>?_⟩;rw[eX]at hv;split at hv
 ·rename_i e;subst e;injection hv with hv;subst hv;exact⟨trivial,_,ht,rfl⟩
 ·exact⟨h2.get u v hv,v,h1.get u v hv,rfl⟩
end Go.Sx
namespace Go.Ex
open Go Go.Sx Go.Proofs
end Go.Ex
