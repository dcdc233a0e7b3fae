/- A part of the proof: texts X62 to X75. Each tells its conditions in its theorems. -/
import Derived.Test.YtkdcaknoaeicdaaGreatP5
import Derived.Test.YtkdcaknoaeicdaaGreatP6
namespace Go.Ex
open Go Go.Sx Go.Proofs
variable{a x y:Int}{M:List (List Rat)}{css:List (List Value)}{xs ys:List Rat}{cs:List Value}{S:Nat->Prop}{O:Nat->Sx.df}{b p q:Rat}{u:Value}{w:World}
theorem iR{v:Value}{k l:Nat}(hS:Old S w)(hx:fE w S v k x)(hy:fE w S u l y)(hk:k<=1000000)(hl:l<=1000000)(h0:y≠0):
  dm PG N.nN #[v,u] w (eB w fun v' w2=>∃q r,v'= .tuple #[q,r,.int .i64 0]∧dC w2 (Nf w w2) q (x / y)∧dC w2 (Nf w w2) r (x % y)):=
 (HP hS hx hy hk hl).mono fun _ _ ⟨v2,e1,e2,e3⟩=>⟨v2,e1,e2,e3.elim (fun h=>absurd h.1 h0) fun h=>h.2⟩
theorem Lj(x:Nat){y:Nat}(h:y≠0):ln (Nat.gcd x y)<=ln y:=eu (Nat.le_of_dvd (by omega) (Nat.gcd_dvd_right x y))
theorem FV{b:Int}(hb:b≠0):a / (b.sign*(Nat.gcd a.natAbs b.natAbs:Nat))=(Rat.divInt a b).num∧b / (b.sign*(Nat.gcd a.natAbs b.natAbs:Nat))=((Rat.divInt a b).den:Int):=by
 obtain⟨h1,h2⟩:=BM (a:=a) hb;have d1:((Nat.gcd a.natAbs b.natAbs:Nat):Int) ∣ a:=Int.ofNat_dvd_left.2 (Nat.gcd_dvd_left _ _);have d2:((Nat.gcd a.natAbs b.natAbs:Nat):Int) ∣ b:=Int.ofNat_dvd_left.2 (Nat.gcd_dvd_right _ _);have sg:b.sign=1∨b.sign= -1:=by rcases fX b with h|h|h<;>omega
 have key:∀c:Int,((Nat.gcd a.natAbs b.natAbs:Nat):Int) ∣ c->b.sign*(Nat.gcd a.natAbs b.natAbs:Nat) ∣ c:=fun c hc=>by
  rcases sg with h|h<;>rw[h]
  ·rw[Int.one_mul];exact hc
  ·rw[Int.neg_one_mul];exact Int.neg_dvd.2 hc
 rw[<-h1,<-h2,Int.tdiv_eq_ediv_of_dvd (key a d1),Int.tdiv_eq_ediv_of_dvd (key b d2)];exact⟨rfl,rfl⟩
theorem BO{v:Value}{k l:Nat}(hS:Old S w)(hx:fE w S v k x)(hy:fE w S u l y)(hk:k<=1000000)(hl:l<=1000000):
  dm PG N.sn #[v,u] w (eB w fun v' w2=>dC w2 (Nf w w2) v' ((Nat.gcd x.natAbs y.natAbs:Nat):Int)):=by
 have hw:cV w.heap.size w w:=cV.refl;replace hx:=hx.cI (S':=Cv S w.heap.size []) fun _ h=>.inl h;replace hy:=hy.cI (S':=Cv S w.heap.size []) fun _ h=>.inl h;obtain⟨b1,a1,n1,c1,rfl⟩:=hx.shape;obtain⟨b2,a2,n2,c2,rfl⟩:=hy.shape;refine wO (by simp) ?_;have hlx:=hx.ln;have hly:=hy.ln;refine cJ hτ db [.x 0,.x 2,.x 1,.x 3,.x 4,.x 5] (by kernel_rfl) (by kernel_rfl) ?_;refine cE hw (fun _ w' v w2=>dC w2 (Nf w' w2) v ((x.natAbs:Int))) (fun O w' r=>xJ (Rel.old r hS) (hx.rel r hS) (by omega)) ?_;rintro O wa1 v1 wb1 iv1 r he hw h_ hn;clear hx;replace hy:=hy.cF r hS he (mC h_);have ha:=hn.c9 (S:=fun _=>False) r.cD (mN h_);clear r;obtain⟨s1_0,s1_1,s1_2,s1_3,rfl⟩:=ha.shape;refine cE hw (fun _ w' v w2=>dC w2 (Nf w' w2) v ((y.natAbs:Int))) (fun O w' r=>xJ (Rel.old r hS) (hy.rel r hS) (by omega)) ?_;rintro O wa2 v2 wb2 iv2 r he hw h_ hn;clear hy;replace ha:=ha.cF r (cB w) he (mC h_);have hc:=hn.c9 (S:=fun _=>False) r.cD (mN h_);clear r;obtain⟨s2_0,s2_1,s2_2,s2_3,rfl⟩:=hc.shape
 refine⟨Nat×Nat×(Bool×Option Addr×Nat×Nat)×(Bool×Option Addr×Nat×Nat)×World×Iv,fun z=>⟨[(2,.o (.p 0 0)),(3,.o (.p 1 0)),(4,.o (.p 2 0))],[(2,.box T.Int [.v (.bool false),.v (.slice none 0 0)]),(1,.box T.Int [.v (.bool z.2.2.2.1.1),.v (.slice z.2.2.2.1.2.1 z.2.2.2.1.2.2.1 z.2.2.2.1.2.2.2)]),(0,.box T.Int [.v (.bool z.2.2.1.1),.v (.slice z.2.2.1.2.1 z.2.2.1.2.2.1 z.2.2.1.2.2.2)])],3,z.2.2.2.2.2,z.2.2.2.2.1⟩,fun z=>z.2.1,
  fun z=>Nat.gcd z.1 z.2.1=Nat.gcd x.natAbs y.natAbs∧ln z.1<=1000000∧ln z.2.1<=1000000∧cV w.heap.size w z.2.2.2.2.1∧dC z.2.2.2.2.1 (Cf w z.2.2.2.2.2) (.agg #[.bool z.2.2.1.1,.slice z.2.2.1.2.1 z.2.2.1.2.2.1 z.2.2.1.2.2.2]) (z.1:Int)∧dC z.2.2.2.2.1 (Cf w z.2.2.2.2.2) (.agg #[.bool z.2.2.2.1.1,.slice z.2.2.2.1.2.1 z.2.2.2.1.2.2.1 z.2.2.2.1.2.2.2]) (z.2.1:Int),?_,?_⟩
 ·intro O w' r
  exact⟨(x.natAbs,y.natAbs,(s1_0,s1_1,s1_2,s1_3),(s2_0,s2_1,s2_2,s2_3),w',iv2),⟨rfl,by dsimp only;omega,by dsimp only;omega,hw.tr r.cM,ha.rel r (cB w),hc.rel r (cB w)⟩,
   Sub.gn [] r⟩
 clear hw ha hc;rintro⟨a,b,⟨ba,aa,na,ca⟩,⟨bb,ab,nb,cb⟩,w1,iv⟩ ⟨hg,hla,hlb,hw,ha,hc⟩;dsimp only at hg hla hlb hw ha hc ⊢;refine cC (cE hw (fun _ w' v w2=>v= .int .i64 (b:Int).sign) (fun O w' r=>gB (Rel.old r (cB w)) (hc.rel r (cB w)).r) ?_);rintro O wa3 v3 wb3 iv3 r he hw h_ rfl;replace ha:=ha.cF r (cB w) he (mC h_);replace hc:=hc.cF r (cB w) he (mC h_);clear r;have sb:=fX (b:Int);refine dI.mk (fun h=>?_) (fun h=>?_)
 ·have h:=aI h;have hb0:0<b:=by omega
  have hm:=bs a hb0;have hlm:ln (a % b)<=1000000:=a9 (eu (by omega)) hlb;refine cC (cE hw (fun _ w' v w2=>∃q r,v= .tuple #[q,r,.int .i64 0]∧dC w2 (Nf w' w2) q ((a:Int) / b)∧dC w2 (Nf w' w2) r ((a:Int) % b)) (fun O w' r=>iR (Rel.old r (cB w)) ((ha.rel r (cB w)).l (k:=1000000) hla) ((hc.rel r (cB w)).l (k:=1000000) hlb) (by omega) (by omega) (by omega)) ?_);rintro O wa4 v4 wb4 iv4 r he hw h_ ⟨q,rr,rfl,k1,k2⟩;clear ha;replace hc:=hc.cF r (cB w) he (mC h_);have hq:=k1.c9 (S:=fun _=>False) r.cD (mN h_);have hr:=k2.c9 (S:=fun _=>False) r.cD (mN h_);clear r;obtain⟨s4_0a,s4_0b,s4_0c,s4_0d,rfl⟩:=hq.shape;obtain⟨s4_1a,s4_1b,s4_1c,s4_1d,rfl⟩:=hr.shape;clear k1 k2 hq;refine iA hτ db (.two 0 (.two 1 (.one 2 (.one 3 .nil)) 2 (.one 1 (.one 3 .nil))) 1 (.one 0 (.one 2 (.one 3 .nil)))) (by kernel_rfl) ?_;refine⟨?_,?_⟩
  ·conv=>whnf
   refine⟨?_,?_⟩
   ·conv=>whnf
    intro ρ3 w3 r3;exact⟨(b,a % b,(bb,ab,nb,cb),(s4_1a,s4_1b,s4_1c,s4_1d),w3,_),⟨by dsimp only;rw[<-hg,Nat.gcd_comm a b,Nat.gcd_rec b a,Nat.gcd_comm],hlb,hlm,hw.tr r3.cM,hc.rel r3 (cB w),hr.rel r3 (cB w)⟩,Sub.gn [] r3,hm⟩
   ·conv=>whnf
    intro ρ3 w3 r3;exact⟨(b,a % b,(bb,ab,nb,cb),(s4_1a,s4_1b,s4_1c,s4_1d),w3,_),⟨by dsimp only;rw[<-hg,Nat.gcd_comm a b,Nat.gcd_rec b a,Nat.gcd_comm],hlb,hlm,hw.tr r3.cM,hc.rel r3 (cB w),hr.rel r3 (cB w)⟩,Sub.gn [] r3,hm⟩
  ·conv=>whnf
   intro ρ3 w3 r3;exact⟨(b,a % b,(bb,ab,nb,cb),(s4_1a,s4_1b,s4_1c,s4_1d),w3,_),⟨by dsimp only;rw[<-hg,Nat.gcd_comm a b,Nat.gcd_rec b a,Nat.gcd_comm],hlb,hlm,hw.tr r3.cM,hc.rel r3 (cB w),hr.rel r3 (cB w)⟩,Sub.gn [] r3,hm⟩
 have h:=aH h;obtain rfl:b=0:=by omega
 rw[Nat.gcd_zero_right]at hg;subst hg;clear hc;intro ρe we re;exact⟨_,rfl,hw.tr re.cM,ha.out re (cB w)⟩
theorem jd{v:Value}{k l:Nat}(hS:Old S w)(hx:fE w S v k x)(hy:fE w S u l y)(hk:k<=1000000)(hl:l<=1000000)(hy0:y≠0):
  dm PG N.rU #[v,u] w (eB w fun v' w2=>cP w2 (Nf w w2) v' (Rat.divInt x y)):=by
 have hw:cV w.heap.size w w:=cV.refl;replace hx:=hx.cI (S':=Cv S w.heap.size []) fun _ h=>.inl h;replace hy:=hy.cI (S':=Cv S w.heap.size []) fun _ h=>.inl h;obtain⟨b1,a1,n1,c1,rfl⟩:=hx.shape;obtain⟨b2,a2,n2,c2,rfl⟩:=hy.shape;refine qn (by simp) ?_;have hlx:=hx.ln;have hly:=hy.ln;have hlg:=Lj x.natAbs (y:=y.natAbs) (by omega);obtain⟨hn,hd⟩:=FV (a:=x) hy0;have sy:=fX y
 refine cC (cE hw (fun _ w' v w2=>∃n p,v= .tuple #[.int .i64 n,.bool p]∧(p=true->n=x∧x.natAbs<1073741824)) (fun O w' r=>(mm (Rel.old r hS) (hx.rel r hS).r).mono fun e w2 ⟨v2,e1,e2,e3⟩=>⟨v2,e1,e2,by
   rw[e3,jR];split
   ·exact⟨_,_,rfl,fun _=>⟨rfl,‹_›⟩⟩
   ·exact⟨_,_,rfl,fun h=>by cases h⟩⟩) ?_)
 rintro O wa1 v1 wb1 iv1 r he hw h_ ⟨nx,px,rfl,qx⟩;replace hx:=hx.cF r hS he (mC h_);replace hy:=hy.cF r hS he (mC h_);clear r
 refine cC (cE hw (fun _ w' v w2=>∃n p,v= .tuple #[.int .i64 n,.bool p]∧(p=true->n=y∧y.natAbs<1073741824)) (fun O w' r=>(mm (Rel.old r hS) (hy.rel r hS).r).mono fun e w2 ⟨v2,e1,e2,e3⟩=>⟨v2,e1,e2,by
   rw[e3,jR];split
   ·exact⟨_,_,rfl,fun _=>⟨rfl,‹_›⟩⟩
   ·exact⟨_,_,rfl,fun h=>by cases h⟩⟩) ?_)
 rintro O wa2 v2 wb2 iv2 r he hw h_ ⟨ny,py,rfl,qy⟩;replace hx:=hx.cF r hS he (mC h_);replace hy:=hy.cF r hS he (mC h_);clear r;refine dI.mk (fun h1=>?_) (fun h1=>?_)
 ·obtain⟨e1,hxs⟩:=qx h1;replace e1:=e1.symm;subst e1;refine dI.mk (fun h2=>?_) (fun h2=>?_)
  ·obtain⟨e2,hys⟩:=qy h2;replace e2:=e2.symm;subst e2;clear hx hy;refine cC (cE hw (fun _ w' v w2=>cP w2 (Nf w' w2) v (Rat.divInt x y)) (fun O w' r=>qK x y w' (by omega) (by omega) hy0) ?_);rintro O wa3 v3 wb3 iv3 r he hw h_ hn;have hR:=hn.c9 (S:=fun _=>False) r.cD (mN h_);clear r hn;obtain⟨s3_0,s3_1,s3_2,s3_3,s3_4,s3_5,s3_6,s3_7,rfl⟩:=hR.shape;intro ρe we re;exact⟨_,rfl,hw.tr re.cM,hR.out re (cB w)⟩
  refine cC (cE hw (fun _ w' v w2=>dC w2 (Nf w' w2) v (((Nat.gcd x.natAbs y.natAbs:Nat):Int))) (fun O w' r=>BO (Rel.old r hS) (hx.rel r hS) (hy.rel r hS) hk hl) ?_);rintro O wa3 v3 wb3 iv3 r he hw h_ hn;replace hx:=hx.cF r hS he (mC h_);replace hy:=hy.cF r hS he (mC h_);have hg:=hn.c9 (S:=fun _=>False) r.cD (mN h_);clear r hn;obtain⟨s3_0,s3_1,s3_2,s3_3,rfl⟩:=hg.shape;refine cC (cE hw (fun _ w' v w2=>v= .int .i64 y.sign) (fun O w' r=>gB (Rel.old r hS) (hy.rel r hS).r) ?_);rintro O wa4 v4 wb4 iv4 r he hw h_ rfl;replace hx:=hx.cF r hS he (mC h_);replace hy:=hy.cF r hS he (mC h_);replace hg:=hg.cF r (cB w) he (mC h_);clear r;have hgp:0<Nat.gcd x.natAbs y.natAbs:=bj _ (by omega);generalize Nat.gcd x.natAbs y.natAbs=g at*
  refine dI.mk (fun hs=>?_) (fun hs=>?_)
  ·have hs:=aI hs;rw[show y.sign= -1 by omega,Int.neg_one_mul]at hn hd;refine cC (cE hw (fun _ w' v w2=>dC w2 (Nf w' w2) v (-(g:Int))) (fun O w' r=>lC (Rel.old r (cB w)) ((hg.rel r (cB w)).l (k:=1000000) (by rw[Int.natAbs_natCast];omega)) (by omega)) ?_);rintro O wa5 v5 wb5 iv5 r he hw h_ hn;replace hx:=hx.cF r hS he (mC h_);replace hy:=hy.cF r hS he (mC h_);clear hg;have hg2:=hn.c9 (S:=fun _=>False) r.cD (mN h_);clear r hn;obtain⟨s5_0,s5_1,s5_2,s5_3,rfl⟩:=hg2.shape;refine cC (cE hw (fun _ w' v w2=>∃q r,v= .tuple #[q,r,.int .i64 0]∧dC w2 (Nf w' w2) q (Rat.divInt x y).num∧dC w2 (Nf w' w2) r (x % (-(g:Int)))) (fun O w' r=>hn▸iR (Rel.old r hS) (hx.rel r hS) ((((hg2.rel r (cB w)).l (k:=1000000) (by rw[bz,Int.natAbs_natCast];omega))).cI fun g hg=>Cv.false hg) hk (by omega) (by omega)) ?_);rintro O wa6 v6 wb6 iv6 r he hw h_ ⟨q,rr,rfl,k1,k2⟩;clear hx;replace hy:=hy.cF r hS he (mC h_);replace hg2:=hg2.cF r (cB w) he (mC h_);have hq:=k1.c9 (S:=fun _=>False) r.cD (mN h_);have hr:=k2.c9 (S:=fun _=>False) r.cD (mN h_);clear r;obtain⟨s6_0a,s6_0b,s6_0c,s6_0d,rfl⟩:=hq.shape;obtain⟨s6_1a,s6_1b,s6_1c,s6_1d,rfl⟩:=hr.shape;clear k1 k2 hr;refine cC (cE hw (fun _ w' v w2=>∃q r,v= .tuple #[q,r,.int .i64 0]∧dC w2 (Nf w' w2) q ((Rat.divInt x y).den:Int)∧dC w2 (Nf w' w2) r (y % (-(g:Int)))) (fun O w' r=>hd▸iR (Rel.old r hS) (hy.rel r hS) ((((hg2.rel r (cB w)).l (k:=1000000) (by rw[bz,Int.natAbs_natCast];omega))).cI fun g hg=>Cv.false hg) hl (by omega) (by omega)) ?_);rintro O wa7 v7 wb7 iv7 r he hw h_ ⟨q,rr,rfl,k1,k2⟩;clear hy;clear hg2;replace hq:=hq.cF r (cB w) he (mC h_);have hq2:=k1.c9 (S:=fun _=>False) r.cD (mN h_);have hr:=k2.c9 (S:=fun _=>False) r.cD (mN h_);clear r;obtain⟨s7_0a,s7_0b,s7_0c,s7_0d,rfl⟩:=hq2.shape;obtain⟨s7_1a,s7_1b,s7_1c,s7_1d,rfl⟩:=hr.shape;clear k1 k2 hr;intro ρe we re;exact⟨_,rfl,hw.tr re.cM,(cP.of hq hq2).out re (cB w)⟩
  have hs:=aH hs;rw[show y.sign=1 by omega,Int.one_mul]at hn hd;refine cC (cE hw (fun _ w' v w2=>∃q r,v= .tuple #[q,r,.int .i64 0]∧dC w2 (Nf w' w2) q (Rat.divInt x y).num∧dC w2 (Nf w' w2) r (x % ((g:Int)))) (fun O w' r=>hn▸iR (Rel.old r hS) (hx.rel r hS) ((((hg.rel r (cB w)).l (k:=1000000) (by rw[Int.natAbs_natCast];omega))).cI fun g hg=>Cv.false hg) hk (by omega) (by omega)) ?_);rintro O wa5 v5 wb5 iv5 r he hw h_ ⟨q,rr,rfl,k1,k2⟩;clear hx;replace hy:=hy.cF r hS he (mC h_);replace hg:=hg.cF r (cB w) he (mC h_);have hq:=k1.c9 (S:=fun _=>False) r.cD (mN h_);have hr:=k2.c9 (S:=fun _=>False) r.cD (mN h_);clear r;obtain⟨s5_0a,s5_0b,s5_0c,s5_0d,rfl⟩:=hq.shape;obtain⟨s5_1a,s5_1b,s5_1c,s5_1d,rfl⟩:=hr.shape;clear k1 k2 hr;refine cC (cE hw (fun _ w' v w2=>∃q r,v= .tuple #[q,r,.int .i64 0]∧dC w2 (Nf w' w2) q ((Rat.divInt x y).den:Int)∧dC w2 (Nf w' w2) r (y % ((g:Int)))) (fun O w' r=>hd▸iR (Rel.old r hS) (hy.rel r hS) ((((hg.rel r (cB w)).l (k:=1000000) (by rw[Int.natAbs_natCast];omega))).cI fun g hg=>Cv.false hg) hl (by omega) (by omega)) ?_);rintro O wa6 v6 wb6 iv6 r he hw h_ ⟨q,rr,rfl,k1,k2⟩;clear hy;clear hg;replace hq:=hq.cF r (cB w) he (mC h_);have hq2:=k1.c9 (S:=fun _=>False) r.cD (mN h_);have hr:=k2.c9 (S:=fun _=>False) r.cD (mN h_);clear r;obtain⟨s6_0a,s6_0b,s6_0c,s6_0d,rfl⟩:=hq2.shape;obtain⟨s6_1a,s6_1b,s6_1c,s6_1d,rfl⟩:=hr.shape;clear k1 k2 hr;intro ρe we re;exact⟨_,rfl,hw.tr re.cM,(cP.of hq hq2).out re (cB w)⟩
 refine cC (cE hw (fun _ w' v w2=>dC w2 (Nf w' w2) v (((Nat.gcd x.natAbs y.natAbs:Nat):Int))) (fun O w' r=>BO (Rel.old r hS) (hx.rel r hS) (hy.rel r hS) hk hl) ?_);rintro O wa3 v3 wb3 iv3 r he hw h_ hn;replace hx:=hx.cF r hS he (mC h_);replace hy:=hy.cF r hS he (mC h_);have hg:=hn.c9 (S:=fun _=>False) r.cD (mN h_);clear r hn;obtain⟨s3_0,s3_1,s3_2,s3_3,rfl⟩:=hg.shape;refine cC (cE hw (fun _ w' v w2=>v= .int .i64 y.sign) (fun O w' r=>gB (Rel.old r hS) (hy.rel r hS).r) ?_);rintro O wa4 v4 wb4 iv4 r he hw h_ rfl;replace hx:=hx.cF r hS he (mC h_);replace hy:=hy.cF r hS he (mC h_);replace hg:=hg.cF r (cB w) he (mC h_);clear r;have hgp:0<Nat.gcd x.natAbs y.natAbs:=bj _ (by omega);generalize Nat.gcd x.natAbs y.natAbs=g at*
 refine dI.mk (fun hs=>?_) (fun hs=>?_)
 ·have hs:=aI hs;rw[show y.sign= -1 by omega,Int.neg_one_mul]at hn hd;refine cC (cE hw (fun _ w' v w2=>dC w2 (Nf w' w2) v (-(g:Int))) (fun O w' r=>lC (Rel.old r (cB w)) ((hg.rel r (cB w)).l (k:=1000000) (by rw[Int.natAbs_natCast];omega)) (by omega)) ?_);rintro O wa5 v5 wb5 iv5 r he hw h_ hn;replace hx:=hx.cF r hS he (mC h_);replace hy:=hy.cF r hS he (mC h_);clear hg;have hg2:=hn.c9 (S:=fun _=>False) r.cD (mN h_);clear r hn;obtain⟨s5_0,s5_1,s5_2,s5_3,rfl⟩:=hg2.shape;refine cC (cE hw (fun _ w' v w2=>∃q r,v= .tuple #[q,r,.int .i64 0]∧dC w2 (Nf w' w2) q (Rat.divInt x y).num∧dC w2 (Nf w' w2) r (x % (-(g:Int)))) (fun O w' r=>hn▸iR (Rel.old r hS) (hx.rel r hS) ((((hg2.rel r (cB w)).l (k:=1000000) (by rw[bz,Int.natAbs_natCast];omega))).cI fun g hg=>Cv.false hg) hk (by omega) (by omega)) ?_);rintro O wa6 v6 wb6 iv6 r he hw h_ ⟨q,rr,rfl,k1,k2⟩;clear hx;replace hy:=hy.cF r hS he (mC h_);replace hg2:=hg2.cF r (cB w) he (mC h_);have hq:=k1.c9 (S:=fun _=>False) r.cD (mN h_);have hr:=k2.c9 (S:=fun _=>False) r.cD (mN h_);clear r;obtain⟨s6_0a,s6_0b,s6_0c,s6_0d,rfl⟩:=hq.shape;obtain⟨s6_1a,s6_1b,s6_1c,s6_1d,rfl⟩:=hr.shape;clear k1 k2 hr;refine cC (cE hw (fun _ w' v w2=>∃q r,v= .tuple #[q,r,.int .i64 0]∧dC w2 (Nf w' w2) q ((Rat.divInt x y).den:Int)∧dC w2 (Nf w' w2) r (y % (-(g:Int)))) (fun O w' r=>hd▸iR (Rel.old r hS) (hy.rel r hS) ((((hg2.rel r (cB w)).l (k:=1000000) (by rw[bz,Int.natAbs_natCast];omega))).cI fun g hg=>Cv.false hg) hl (by omega) (by omega)) ?_);rintro O wa7 v7 wb7 iv7 r he hw h_ ⟨q,rr,rfl,k1,k2⟩;clear hy;clear hg2;replace hq:=hq.cF r (cB w) he (mC h_);have hq2:=k1.c9 (S:=fun _=>False) r.cD (mN h_);have hr:=k2.c9 (S:=fun _=>False) r.cD (mN h_);clear r;obtain⟨s7_0a,s7_0b,s7_0c,s7_0d,rfl⟩:=hq2.shape;obtain⟨s7_1a,s7_1b,s7_1c,s7_1d,rfl⟩:=hr.shape;clear k1 k2 hr;intro ρe we re;exact⟨_,rfl,hw.tr re.cM,(cP.of hq hq2).out re (cB w)⟩
 have hs:=aH hs;rw[show y.sign=1 by omega,Int.one_mul]at hn hd;refine cC (cE hw (fun _ w' v w2=>∃q r,v= .tuple #[q,r,.int .i64 0]∧dC w2 (Nf w' w2) q (Rat.divInt x y).num∧dC w2 (Nf w' w2) r (x % ((g:Int)))) (fun O w' r=>hn▸iR (Rel.old r hS) (hx.rel r hS) ((((hg.rel r (cB w)).l (k:=1000000) (by rw[Int.natAbs_natCast];omega))).cI fun g hg=>Cv.false hg) hk (by omega) (by omega)) ?_);rintro O wa5 v5 wb5 iv5 r he hw h_ ⟨q,rr,rfl,k1,k2⟩;clear hx;replace hy:=hy.cF r hS he (mC h_);replace hg:=hg.cF r (cB w) he (mC h_);have hq:=k1.c9 (S:=fun _=>False) r.cD (mN h_);have hr:=k2.c9 (S:=fun _=>False) r.cD (mN h_);clear r;obtain⟨s5_0a,s5_0b,s5_0c,s5_0d,rfl⟩:=hq.shape;obtain⟨s5_1a,s5_1b,s5_1c,s5_1d,rfl⟩:=hr.shape;clear k1 k2 hr;refine cC (cE hw (fun _ w' v w2=>∃q r,v= .tuple #[q,r,.int .i64 0]∧dC w2 (Nf w' w2) q ((Rat.divInt x y).den:Int)∧dC w2 (Nf w' w2) r (y % ((g:Int)))) (fun O w' r=>hd▸iR (Rel.old r hS) (hy.rel r hS) ((((hg.rel r (cB w)).l (k:=1000000) (by rw[Int.natAbs_natCast];omega))).cI fun g hg=>Cv.false hg) hl (by omega) (by omega)) ?_);rintro O wa6 v6 wb6 iv6 r he hw h_ ⟨q,rr,rfl,k1,k2⟩;clear hy;clear hg;replace hq:=hq.cF r (cB w) he (mC h_);have hq2:=k1.c9 (S:=fun _=>False) r.cD (mN h_);have hr:=k2.c9 (S:=fun _=>False) r.cD (mN h_);clear r;obtain⟨s6_0a,s6_0b,s6_0c,s6_0d,rfl⟩:=hq2.shape;obtain⟨s6_1a,s6_1b,s6_1c,s6_1d,rfl⟩:=hr.shape;clear k1 k2 hr;intro ρe we re;exact⟨_,rfl,hw.tr re.cM,(cP.of hq hq2).out re (cB w)⟩
def eI(w:World)(S:Nat->Prop)(v:Value)(q:Rat):Prop:=∃b1 l1 b2 l2 a b,v= .agg #[.bool b1,l1,.bool b2,l2]∧fE w S (.agg #[.bool b1,l1]) 100000 a∧fE w S (.agg #[.bool b2,l2]) 100000 b∧ratio a b=q
theorem eI.cG{w2:World}{v:Value}(h:eI w S v q)(hk:∀g,S g->w2.heap[g]? =w.heap[g]?):eI w2 S v q:=by
 obtain⟨b1,l1,b2,l2,a,b,h1,h2,h3,h4⟩:=h;exact⟨b1,l1,b2,l2,a,b,h1,h2.cG hk,h3.cG hk,h4⟩
theorem eI.cI{S':Nat->Prop}{v:Value}(h:eI w S v q)(hk:∀g,S g->S' g):eI w S' v q:=by
 obtain⟨b1,l1,b2,l2,a,b,h1,h2,h3,h4⟩:=h;exact⟨b1,l1,b2,l2,a,b,h1,h2.cI hk,h3.cI hk,h4⟩
theorem eI.r{v:Value}(h:eI w S v q):∃a b,gh w S v a b∧ratio a b=q:=by
 obtain⟨b1,l1,b2,l2,a,b,rfl,h2,h3,h4⟩:=h;exact⟨a,b,⟨b1,l1,b2,l2,rfl,h2.r,h3.r⟩,h4⟩
theorem eI.v{v:Value}(h:eI w S v q):p8 w S v q:=by
 obtain⟨b1,l1,b2,l2,a,b,rfl,h2,h3,h4⟩:=h;exact⟨a,b,⟨b1,l1,b2,l2,rfl,h2.r,h3.r⟩,h4,h2.ln,h3.ln⟩
theorem eI.shape{v:Value}(h:eI w S v q):∃b a n c b2 a2 n2 c2,v= .agg #[.bool b,.slice a n c,.bool b2,.slice a2 n2 c2]:=h.v.shape
theorem eI.rl{v:Value}(h:eI w S v q):rl q<=100000:=by
 obtain⟨b1,l1,b2,l2,a,b,rfl,h2,h3,rfl⟩:=h;have:=gb a b;have:=h2.ln;have:=h3.ln;omega
theorem cP.l{v:Value}(h:cP w S v q)(hl:rl q<=100000):eI w S v q:=by
 obtain⟨b1,l1,b2,l2,h1,h2,h3⟩:=h;exact⟨b1,l1,b2,l2,_,_,h1,h2.l (a9 (fM q) hl),h3.l (a9 (ed q) hl),nm q⟩
theorem JT(a b:Int):rs (ratio a b)=if b.sign<0 then -a.sign else a.sign:=by
 have sb:=fX b;rw[ratio];split
 ·rw[aK (by omega),rs,s6 (by decide)]
 ·split
  ·rw[show Rat.divInt a b=Rat.divInt (-a) (-b)from(Rat.neg_divInt_neg a b).symm,rs,s6 (by omega),Int.sign_neg]
  ·rw[rs,s6 (by omega)]
theorem jE{c:Int}:(a.natAbs<1073741824)->(c.natAbs<1073741824)->(a*c).natAbs<=1152921502459363329:=fun h1 h2=>by
 rw[Int.natAbs_mul];exact Nat.mul_le_mul (show a.natAbs<=1073741823 by omega) (show c.natAbs<=1073741823 by omega)
section
variable{S S':Nat->Prop}{H:Hp}{nx:Nat}{iv iv':Iv}{B:Nat}{w w' w2:World}{O:Nat->Sx.df}{v:Value}{q:Rat}
theorem eI.rel(h:eI w (Cv S B iv) v q)(r:Rel H nx iv B w O w')(hS:∀g,S g->g<B):eI w' (Cv S B iv) v q:=h.cG fun _ hg=>Rel.same r hS hg
theorem eI.cF(h:eI w (Cv S B iv) v q)(r:Rel H nx iv B w O w')(hS:∀g,S g->g<B)(he:Ext w' w2)(hm:∀p,p∈iv->p∈iv'):eI w2 (Cv S B iv') v q:=
 ((h.rel r hS).cG fun g hg=>he.block g (Rel.old r hS g hg)).cI fun _ hg=>hg.mono hm
theorem eI.arg(h:eI w S v q)(iv:Iv):eI w (Cv S w.heap.size iv) v q:=h.cI fun _ h=>.inl h
end
theorem sA{v:Value}{b:Int}(hS:Old S w)(hp:gh w S v a b):
  dm PG N.jJ #[v] w (eB w fun v' _=>v'= .int .i64 (rs (ratio a b))):=by
 have hw:cV w.heap.size w w:=cV.refl;obtain⟨b1,l1,b2,l2,rfl,ha,hb'⟩:=hp;obtain⟨_,a1,n1,c1,e1⟩:=ha.shape;obtain⟨_,a2,n2,c2,e2⟩:=hb'.shape;simp only[Value.agg.injEq,Array.mk.injEq,List.cons.injEq,and_true]at e1 e2;obtain⟨_,rfl⟩:=e1;obtain⟨_,rfl⟩:=e2;replace ha:=ha.cI (S':=Cv S w.heap.size []) fun _ h=>.inl h;replace hb':=hb'.cI (S':=Cv S w.heap.size []) fun _ h=>.inl h;have hr:=JT a b;have sa:=fX a;refine wD (by simp) ?_;refine cC (cE hw (fun _ w' v w2=>v= .int .i64 b.sign) (fun O w' r=>gB (Rel.old r hS) (hb'.rel r hS)) ?_);rintro O wa1 v1 wb1 iv1 r he hw h_ rfl;replace ha:=ha.cF r hS he (mC h_);refine dI.mk (fun h=>?_) (fun h=>?_)
 ·have h:=aI h;rw[if_pos h]at hr;refine cC (cE hw (fun _ w' v w2=>v= .int .i64 a.sign) (fun O w' r=>gB (Rel.old r hS) (ha.rel r hS)) ?_);rintro O wa2 v2 wb2 iv2 r he hw h_ rfl;refine⟨-a.sign,wo,?_⟩;intro ρe we re;exact⟨_,rfl,hw.tr re.cM,by rw[hr];rfl⟩
 have h:=aH h;rw[aK h]at hr;refine cC (cE hw (fun _ w' v w2=>v= .int .i64 a.sign) (fun O w' r=>gB (Rel.old r hS) (ha.rel r hS)) ?_);rintro O wa2 v2 wb2 iv2 r he hw h_ rfl;intro ρe we re;exact⟨_,rfl,hw.tr re.cM,by rw[hr];rfl⟩
theorem BP{v:Value}(hS:Old S w)(hp:cP w S v p):dm PG N.jJ #[v] w (eB w fun v' _=>v'= .int .i64 (rs p)):=by
 have:=sA hS hp.r;rw[nm]at this;exact this
theorem ni{v:Value}(hS:Old S w)(hp:eI w S v p):dm PG N.jJ #[v] w (eB w fun v' _=>v'= .int .i64 (rs p)):=by
 obtain⟨a,b,h1,rfl⟩:=hp.r;exact sA hS h1
theorem fp{v:Value}(hS:Old S w)(hp:eI w S v p):
  dm PG N.sh #[v] w (eB w fun v' w2=>cP w2 (Nf w w2) v' p):=by
 have hw:cV w.heap.size w w:=cV.refl;obtain⟨b1,l1,b2,l2,a,b,rfl,ha,hb',rfl⟩:=hp;obtain⟨_,a1,n1,c1,e1⟩:=ha.shape;obtain⟨_,a2,n2,c2,e2⟩:=hb'.shape;simp only[Value.agg.injEq,Array.mk.injEq,List.cons.injEq,and_true]at e1 e2;obtain⟨_,rfl⟩:=e1;obtain⟨_,rfl⟩:=e2;replace ha:=ha.cI (S':=Cv S w.heap.size []) fun _ h=>.inl h;replace hb':=hb'.cI (S':=Cv S w.heap.size []) fun _ h=>.inl h;have sb:=fX b;refine wK (by simp) ?_;refine cC (cL (Φ:=fun _ w' v w2=>v= .int .i64 b.sign) (fun O w' r=>gB (Rel.old r hS) (hb'.rel r hS).r) ?_);rintro O wa1 v1 wb1 r he hb rfl;replace hw:=hw.tr hb;replace ha:=ha.cF (iv':=(wa1.heap.size,wb1.heap.size)::[]) r hS he fun x hx=>aC _ hx;replace hb':=hb'.cF (iv':=(wa1.heap.size,wb1.heap.size)::[]) r hS he fun x hx=>aC _ hx;generalize (wa1.heap.size,wb1.heap.size)::[]=iv1 at*
 refine dI.mk (fun h=>?_) (fun h=>?_)
 ·have h:b.sign=0:=by simpa using h
  obtain rfl:b=0:=by omega
  rw[show ratio a 0=Rat.divInt a 1 from if_pos rfl];refine cJ hτ db [.x 0,.x 1,.x 2,.x 3,.x 4] (by kernel_rfl) (by kernel_rfl) ?_;refine cL (Φ:=fun _ w' v w2=>dC w2 (Nf w' w2) v (1)) (fun O w' r=>kB _ w' (by decide) (by decide)) ?_;rintro O wa2 v2 wb2 r he hb hn;replace hw:=hw.tr hb;replace ha:=ha.cF (iv':=(wa2.heap.size,wb2.heap.size)::iv1) r hS he fun x hx=>aC _ hx;replace hb':=hb'.cF (iv':=(wa2.heap.size,wb2.heap.size)::iv1) r hS he fun x hx=>aC _ hx;have h1:=hn.c9 (S:=fun _=>False) r.cD (iv:=(wa2.heap.size,wb2.heap.size)::iv1) aJ;generalize (wa2.heap.size,wb2.heap.size)::iv1=iv2 at*
  obtain⟨s2_0,s2_1,s2_2,s2_3,rfl⟩:=h1.shape;refine cL (Φ:=fun _ w' v w2=>cP w2 (Nf w' w2) v (Rat.divInt a 1)) (fun O w' r=>jd (Rel.old r hS) (ha.rel r hS) (((h1.rel r (cB w)).l (k:=1) (by decide)).cI fun g hg=>Cv.false hg) (by omega) (by omega) (by decide)) ?_;rintro O wa3 v3 wb3 r he hb hn;replace hw:=hw.tr hb;replace ha:=ha.cF (iv':=(wa3.heap.size,wb3.heap.size)::iv2) r hS he fun x hx=>aC _ hx;replace hb':=hb'.cF (iv':=(wa3.heap.size,wb3.heap.size)::iv2) r hS he fun x hx=>aC _ hx;replace h1:=h1.cF (iv':=(wa3.heap.size,wb3.heap.size)::iv2) r (cB w) he fun x hx=>aC _ hx;have hR:=hn.c9 (S:=fun _=>False) r.cD (iv:=(wa3.heap.size,wb3.heap.size)::iv2) aJ;generalize (wa3.heap.size,wb3.heap.size)::iv2=iv3 at*
  obtain⟨s3_0,s3_1,s3_2,s3_3,s3_4,s3_5,s3_6,s3_7,rfl⟩:=hR.shape;intro ρe we re;exact⟨_,rfl,hw.tr re.cM,hR.out re (cB w)⟩
 have h:b.sign≠0:=by simpa using h
 have hb0:b≠0:=by omega
 rw[show ratio a b=Rat.divInt a b from aK hb0];refine cC (cL (Φ:=fun _ w' v w2=>cP w2 (Nf w' w2) v (Rat.divInt a b)) (fun O w' r=>jd (Rel.old r hS) (ha.rel r hS) (hb'.rel r hS) (by omega) (by omega) hb0) ?_);rintro O wa2 v2 wb2 r he hb hn;replace hw:=hw.tr hb;replace ha:=ha.cF (iv':=(wa2.heap.size,wb2.heap.size)::iv1) r hS he fun x hx=>aC _ hx;replace hb':=hb'.cF (iv':=(wa2.heap.size,wb2.heap.size)::iv1) r hS he fun x hx=>aC _ hx;have hR:=hn.c9 (S:=fun _=>False) r.cD (iv:=(wa2.heap.size,wb2.heap.size)::iv1) aJ;generalize (wa2.heap.size,wb2.heap.size)::iv1=iv2 at*
 obtain⟨s2_0,s2_1,s2_2,s2_3,s2_4,s2_5,s2_6,s2_7,rfl⟩:=hR.shape;intro ρe we re;exact⟨_,rfl,hw.tr re.cM,hR.out re (cB w)⟩
theorem xK{v:Value}(hS:Old S w)(hp:eI w S v p):
  dm PG N.vO #[v] w (eB w fun v' _=>∃n d ok,v'= .tuple #[.int .i64 n,.int .i64 d,.bool ok]∧(ok=true->d≠0∧n.natAbs<1073741824∧d.natAbs<1073741824∧Rat.divInt n d=p)):=by
 have hw:cV w.heap.size w w:=cV.refl;obtain⟨b1,l1,b2,l2,a,b,rfl,ha,hb',rfl⟩:=hp;obtain⟨_,a1,n1,c1,e1⟩:=ha.shape;obtain⟨_,a2,n2,c2,e2⟩:=hb'.shape;simp only[Value.agg.injEq,Array.mk.injEq,List.cons.injEq,and_true]at e1 e2;obtain⟨_,rfl⟩:=e1;obtain⟨_,rfl⟩:=e2;replace ha:=ha.cI (S':=Cv S w.heap.size []) fun _ h=>.inl h;replace hb':=hb'.cI (S':=Cv S w.heap.size []) fun _ h=>.inl h;refine yq (by simp) ?_
 refine cC (cL (Φ:=fun _ w' v w2=>∃n p,v= .tuple #[.int .i64 n,.bool p]∧(p=true->n=a∧a.natAbs<1073741824)) (fun O w' r=>(mm (Rel.old r hS) (ha.rel r hS).r).mono fun e w2 ⟨v2,e1,e2,e3⟩=>⟨v2,e1,e2,by
   rw[e3,jR];split
   ·exact⟨_,_,rfl,fun _=>⟨rfl,‹_›⟩⟩
   ·exact⟨_,_,rfl,fun h=>by cases h⟩⟩) ?_)
 rintro O wa1 v1 wb1 r he hb ⟨na,pa,rfl,qa⟩;replace hw:=hw.tr hb;replace ha:=ha.cF (iv':=(wa1.heap.size,wb1.heap.size)::[]) r hS he fun x hx=>aC _ hx;replace hb':=hb'.cF (iv':=(wa1.heap.size,wb1.heap.size)::[]) r hS he fun x hx=>aC _ hx;generalize (wa1.heap.size,wb1.heap.size)::[]=iv1 at*
 refine cC (cL (Φ:=fun _ w' v w2=>∃n p,v= .tuple #[.int .i64 n,.bool p]∧(p=true->n=b∧b.natAbs<1073741824)) (fun O w' r=>(mm (Rel.old r hS) (hb'.rel r hS).r).mono fun e w2 ⟨v2,e1,e2,e3⟩=>⟨v2,e1,e2,by
   rw[e3,jR];split
   ·exact⟨_,_,rfl,fun _=>⟨rfl,‹_›⟩⟩
   ·exact⟨_,_,rfl,fun h=>by cases h⟩⟩) ?_)
 rintro O wa2 v2 wb2 r he hb ⟨nb,pb,rfl,qb⟩;replace hw:=hw.tr hb;replace ha:=ha.cF (iv':=(wa2.heap.size,wb2.heap.size)::iv1) r hS he fun x hx=>aC _ hx;replace hb':=hb'.cF (iv':=(wa2.heap.size,wb2.heap.size)::iv1) r hS he fun x hx=>aC _ hx;generalize (wa2.heap.size,wb2.heap.size)::iv1=iv2 at*
 refine dI.mk (fun h=>?_) (fun h=>?_)
 ·have h:nb=0:=by simpa using h
  refine dI.mk (fun h1=>?_) (fun h1=>?_)
  ·intro ρe we re
   exact⟨_,rfl,hw.tr re.cM,⟨na,1,pb,rfl,fun h2=>by
     obtain⟨rfl,hx⟩:=qa h1;obtain⟨rfl,hy⟩:=qb h2;rw[h]
     exact⟨by decide,hx,by decide,(if_pos rfl).symm⟩⟩⟩
  intro ρe we re;exact⟨_,rfl,hw.tr re.cM,⟨na,1,false,rfl,fun h2=>by cases h2⟩⟩
 have h:nb≠0:=by simpa using h
 refine dI.mk (fun h1=>?_) (fun h1=>?_)
 ·intro ρe we re
  exact⟨_,rfl,hw.tr re.cM,⟨na,nb,pb,rfl,fun h2=>by
    obtain⟨rfl,hx⟩:=qa h1;obtain⟨rfl,hy⟩:=qb h2
    exact⟨h,hx,hy,(aK h).symm⟩⟩⟩
 intro ρe we re;exact⟨_,rfl,hw.tr re.cM,⟨na,nb,false,rfl,fun h2=>by cases h2⟩⟩
theorem FW{v:Value}(hS:Old S w)(hp:eI w S v p)(hq:eI w S u q):
  dm PG N.Am #[v,u] w (eB w fun v' w2=>cP w2 (Nf w w2) v' (p+q)):=by
 have hw:cV w.heap.size w w:=cV.refl;replace hp:=hp.cI (S':=Cv S w.heap.size []) fun _ h=>.inl h;replace hq:=hq.cI (S':=Cv S w.heap.size []) fun _ h=>.inl h;obtain⟨b1,a1,n1,c1,b2,a2,n2,c2,rfl⟩:=hp.shape;obtain⟨b3,a3,n3,c3,b4,a4,n4,c4,rfl⟩:=hq.shape;refine Bh (by simp) ?_;have r1:=hp.rl;have r2:=hq.rl;have u1:=fM p;have u2:=ed p;have u3:=fM q;have u4:=ed q;refine cC (cE hw (fun _ w' v w2=>∃n d ok,v= .tuple #[.int .i64 n,.int .i64 d,.bool ok]∧(ok=true->d≠0∧n.natAbs<1073741824∧d.natAbs<1073741824∧Rat.divInt n d=p)) (fun O w' r=>xK (Rel.old r hS) (hp.rel r hS)) ?_);rintro O wa1 v1 wb1 iv1 r he hw h_ ⟨a,b,k1,rfl,g1⟩;replace hp:=hp.cF r hS he (mC h_);replace hq:=hq.cF r hS he (mC h_);refine cC (cE hw (fun _ w' v w2=>∃n d ok,v= .tuple #[.int .i64 n,.int .i64 d,.bool ok]∧(ok=true->d≠0∧n.natAbs<1073741824∧d.natAbs<1073741824∧Rat.divInt n d=q)) (fun O w' r=>xK (Rel.old r hS) (hq.rel r hS)) ?_);rintro O wa2 v2 wb2 iv2 r he hw h_ ⟨c,d,k2,rfl,g2⟩;replace hp:=hp.cF r hS he (mC h_);replace hq:=hq.cF r hS he (mC h_);refine dI.mk (fun h1=>?_) (fun h1=>?_)
 ·refine dI.mk (fun h2=>?_) (fun h2=>?_)
  ·obtain⟨g3,g4,g5,g6⟩:=g1 h1;obtain⟨g7,g8,g9,g10⟩:=g2 h2;have i1:=jE g4 g9;have i2:=jE g8 g5;have i3:=jE g5 g9;have i4:=jE g4 g8;refine⟨a*d,wo,c*b,wo,a*d+c*b,wo,b*d,wo,?_⟩;have e:=Rat.divInt_add_divInt a c g3 g7;rw[g6,g10]at e;refine cC (cE hw (fun _ w' v w2=>cP w2 (Nf w' w2) v (p+q)) (fun O w' r=>e▸qK (a*d+c*b) (b*d) w' (by omega) (by omega) (j2 g3 g7)) ?_);rintro O wa3 v3 wb3 iv3 r he hw h_ hn;have hR:=hn.c9 (S:=fun _=>False) r.cD (mN h_);obtain⟨s3_0,s3_1,s3_2,s3_3,s3_4,s3_5,s3_6,s3_7,rfl⟩:=hR.shape;intro ρe we re;exact⟨_,rfl,hw.tr re.cM,hR.out re (cB w)⟩
  refine cJ hτ db [.x 0,.x 2,.x 1,.x 3,.x 4,.x 5] (by kernel_rfl) (by kernel_rfl) ?_;refine cE hw (fun _ w' v w2=>cP w2 (Nf w' w2) v (p)) (fun O w' r=>fp (Rel.old r hS) (hp.rel r hS)) ?_;rintro O wa3 v3 wb3 iv3 r he hw h_ hn;replace hq:=hq.cF r hS he (mC h_);have hX:=hn.c9 (S:=fun _=>False) r.cD (mN h_);obtain⟨s3_0,s3_1,s3_2,s3_3,s3_4,s3_5,s3_6,s3_7,rfl⟩:=hX.shape;refine cE hw (fun _ w' v w2=>cP w2 (Nf w' w2) v (q)) (fun O w' r=>fp (Rel.old r hS) (hq.rel r hS)) ?_;rintro O wa4 v4 wb4 iv4 r he hw h_ hn;replace hX:=hX.cF r (cB w) he (mC h_);have hY:=hn.c9 (S:=fun _=>False) r.cD (mN h_);obtain⟨s4_0,s4_1,s4_2,s4_3,s4_4,s4_5,s4_6,s4_7,rfl⟩:=hY.shape;have hXn:=hX.num;have hXd:=hX.den;have hYn:=hY.num;have hYd:=hY.den;have m0:=cY p.num q.den;have m1:=cY q.num p.den;have m2:=cY (p.den:Int) q.den;have m3:=iE (p.num*q.den) (q.num*p.den);have m4:=cY p.num q.num;refine cJ hτ db [.x 0,.x 1,.x 2,.x 3,.x 5,.x 6,.x 7,.x 8,.x 11,.x 12,.x 13,.x 14,.x 4,.x 9,.x 10,.x 15,.x 16,.x 17] (by kernel_rfl) (by kernel_rfl) ?_;refine cE hw (fun _ w' v w2=>dC w2 (Nf w' w2) v (p.num*(q.den:Int))) (fun O w' r=>ga (Rel.old r (cB w)) ((hXn.rel r (cB w)).l (k:=100000) (by omega)) ((hYd.rel r (cB w)).l (k:=100000) (by omega)) (by omega) (by omega)) ?_;rintro O wa5 v5 wb5 iv5 r he hw h_ hn;replace hXn:=hXn.cF r (cB w) he (mC h_);replace hXd:=hXd.cF r (cB w) he (mC h_);replace hYn:=hYn.cF r (cB w) he (mC h_);replace hYd:=hYd.cF r (cB w) he (mC h_);have hA:=hn.c9 (S:=fun _=>False) r.cD (mN h_);obtain⟨s5_0,s5_1,s5_2,s5_3,rfl⟩:=hA.shape;refine cE hw (fun _ w' v w2=>dC w2 (Nf w' w2) v (q.num*(p.den:Int))) (fun O w' r=>ga (Rel.old r (cB w)) ((hYn.rel r (cB w)).l (k:=100000) (by omega)) ((hXd.rel r (cB w)).l (k:=100000) (by omega)) (by omega) (by omega)) ?_;rintro O wa6 v6 wb6 iv6 r he hw h_ hn;replace hXn:=hXn.cF r (cB w) he (mC h_);replace hXd:=hXd.cF r (cB w) he (mC h_);replace hYn:=hYn.cF r (cB w) he (mC h_);replace hYd:=hYd.cF r (cB w) he (mC h_);replace hA:=hA.cF r (cB w) he (mC h_);have hB:=hn.c9 (S:=fun _=>False) r.cD (mN h_);obtain⟨s6_0,s6_1,s6_2,s6_3,rfl⟩:=hB.shape;refine cE hw (fun _ w' v w2=>dC w2 (Nf w' w2) v (p.num*(q.den:Int)+q.num*(p.den:Int))) (fun O w' r=>zW (Rel.old r (cB w)) ((hA.rel r (cB w)).l (k:=200000) (by omega)) ((hB.rel r (cB w)).l (k:=200000) (by omega)) (by omega) (by omega)) ?_;rintro O wa7 v7 wb7 iv7 r he hw h_ hn;replace hXn:=hXn.cF r (cB w) he (mC h_);replace hXd:=hXd.cF r (cB w) he (mC h_);replace hYn:=hYn.cF r (cB w) he (mC h_);replace hYd:=hYd.cF r (cB w) he (mC h_);have hN:=hn.c9 (S:=fun _=>False) r.cD (mN h_);obtain⟨s7_0,s7_1,s7_2,s7_3,rfl⟩:=hN.shape;refine cE hw (fun _ w' v w2=>dC w2 (Nf w' w2) v ((p.den:Int)*(q.den:Int))) (fun O w' r=>ga (Rel.old r (cB w)) ((hXd.rel r (cB w)).l (k:=100000) (by omega)) ((hYd.rel r (cB w)).l (k:=100000) (by omega)) (by omega) (by omega)) ?_;rintro O wa8 v8 wb8 iv8 r he hw h_ hn;replace hXn:=hXn.cF r (cB w) he (mC h_);replace hXd:=hXd.cF r (cB w) he (mC h_);replace hYn:=hYn.cF r (cB w) he (mC h_);replace hYd:=hYd.cF r (cB w) he (mC h_);replace hN:=hN.cF r (cB w) he (mC h_);have hD:=hn.c9 (S:=fun _=>False) r.cD (mN h_);obtain⟨s8_0,s8_1,s8_2,s8_3,rfl⟩:=hD.shape;refine cE hw (fun _ w' v w2=>cP w2 (Nf w' w2) v (p+q)) (fun O w' r=>(s5 p q)▸jd (Rel.old r (cB w)) ((hN.rel r (cB w)).l (k:=200001) (by omega)) ((hD.rel r (cB w)).l (k:=200001) (by omega)) (by omega) (by omega) (j2 (fZ p) (fZ q))) ?_;rintro O wa9 v9 wb9 iv9 r he hw h_ hn;have hR:=hn.c9 (S:=fun _=>False) r.cD (mN h_);obtain⟨s9_0,s9_1,s9_2,s9_3,s9_4,s9_5,s9_6,s9_7,rfl⟩:=hR.shape;intro ρe we re;exact⟨_,rfl,hw.tr re.cM,hR.out re (cB w)⟩
 refine cJ hτ db [.x 0,.x 2,.x 1,.x 3,.x 4,.x 5] (by kernel_rfl) (by kernel_rfl) ?_;refine cE hw (fun _ w' v w2=>cP w2 (Nf w' w2) v (p)) (fun O w' r=>fp (Rel.old r hS) (hp.rel r hS)) ?_;rintro O wa3 v3 wb3 iv3 r he hw h_ hn;replace hq:=hq.cF r hS he (mC h_);have hX:=hn.c9 (S:=fun _=>False) r.cD (mN h_);obtain⟨s3_0,s3_1,s3_2,s3_3,s3_4,s3_5,s3_6,s3_7,rfl⟩:=hX.shape;refine cE hw (fun _ w' v w2=>cP w2 (Nf w' w2) v (q)) (fun O w' r=>fp (Rel.old r hS) (hq.rel r hS)) ?_;rintro O wa4 v4 wb4 iv4 r he hw h_ hn;replace hX:=hX.cF r (cB w) he (mC h_);have hY:=hn.c9 (S:=fun _=>False) r.cD (mN h_);obtain⟨s4_0,s4_1,s4_2,s4_3,s4_4,s4_5,s4_6,s4_7,rfl⟩:=hY.shape;have hXn:=hX.num;have hXd:=hX.den;have hYn:=hY.num;have hYd:=hY.den;have m0:=cY p.num q.den;have m1:=cY q.num p.den;have m2:=cY (p.den:Int) q.den;have m3:=iE (p.num*q.den) (q.num*p.den);have m4:=cY p.num q.num;refine cJ hτ db [.x 0,.x 1,.x 2,.x 3,.x 5,.x 6,.x 7,.x 8,.x 11,.x 12,.x 13,.x 14,.x 4,.x 9,.x 10,.x 15,.x 16,.x 17] (by kernel_rfl) (by kernel_rfl) ?_;refine cE hw (fun _ w' v w2=>dC w2 (Nf w' w2) v (p.num*(q.den:Int))) (fun O w' r=>ga (Rel.old r (cB w)) ((hXn.rel r (cB w)).l (k:=100000) (by omega)) ((hYd.rel r (cB w)).l (k:=100000) (by omega)) (by omega) (by omega)) ?_;rintro O wa5 v5 wb5 iv5 r he hw h_ hn;replace hXn:=hXn.cF r (cB w) he (mC h_);replace hXd:=hXd.cF r (cB w) he (mC h_);replace hYn:=hYn.cF r (cB w) he (mC h_);replace hYd:=hYd.cF r (cB w) he (mC h_);have hA:=hn.c9 (S:=fun _=>False) r.cD (mN h_);obtain⟨s5_0,s5_1,s5_2,s5_3,rfl⟩:=hA.shape;refine cE hw (fun _ w' v w2=>dC w2 (Nf w' w2) v (q.num*(p.den:Int))) (fun O w' r=>ga (Rel.old r (cB w)) ((hYn.rel r (cB w)).l (k:=100000) (by omega)) ((hXd.rel r (cB w)).l (k:=100000) (by omega)) (by omega) (by omega)) ?_;rintro O wa6 v6 wb6 iv6 r he hw h_ hn;replace hXn:=hXn.cF r (cB w) he (mC h_);replace hXd:=hXd.cF r (cB w) he (mC h_);replace hYn:=hYn.cF r (cB w) he (mC h_);replace hYd:=hYd.cF r (cB w) he (mC h_);replace hA:=hA.cF r (cB w) he (mC h_);have hB:=hn.c9 (S:=fun _=>False) r.cD (mN h_);obtain⟨s6_0,s6_1,s6_2,s6_3,rfl⟩:=hB.shape;refine cE hw (fun _ w' v w2=>dC w2 (Nf w' w2) v (p.num*(q.den:Int)+q.num*(p.den:Int))) (fun O w' r=>zW (Rel.old r (cB w)) ((hA.rel r (cB w)).l (k:=200000) (by omega)) ((hB.rel r (cB w)).l (k:=200000) (by omega)) (by omega) (by omega)) ?_;rintro O wa7 v7 wb7 iv7 r he hw h_ hn;replace hXn:=hXn.cF r (cB w) he (mC h_);replace hXd:=hXd.cF r (cB w) he (mC h_);replace hYn:=hYn.cF r (cB w) he (mC h_);replace hYd:=hYd.cF r (cB w) he (mC h_);have hN:=hn.c9 (S:=fun _=>False) r.cD (mN h_);obtain⟨s7_0,s7_1,s7_2,s7_3,rfl⟩:=hN.shape;refine cE hw (fun _ w' v w2=>dC w2 (Nf w' w2) v ((p.den:Int)*(q.den:Int))) (fun O w' r=>ga (Rel.old r (cB w)) ((hXd.rel r (cB w)).l (k:=100000) (by omega)) ((hYd.rel r (cB w)).l (k:=100000) (by omega)) (by omega) (by omega)) ?_;rintro O wa8 v8 wb8 iv8 r he hw h_ hn;replace hXn:=hXn.cF r (cB w) he (mC h_);replace hXd:=hXd.cF r (cB w) he (mC h_);replace hYn:=hYn.cF r (cB w) he (mC h_);replace hYd:=hYd.cF r (cB w) he (mC h_);replace hN:=hN.cF r (cB w) he (mC h_);have hD:=hn.c9 (S:=fun _=>False) r.cD (mN h_);obtain⟨s8_0,s8_1,s8_2,s8_3,rfl⟩:=hD.shape;refine cE hw (fun _ w' v w2=>cP w2 (Nf w' w2) v (p+q)) (fun O w' r=>(s5 p q)▸jd (Rel.old r (cB w)) ((hN.rel r (cB w)).l (k:=200001) (by omega)) ((hD.rel r (cB w)).l (k:=200001) (by omega)) (by omega) (by omega) (j2 (fZ p) (fZ q))) ?_;rintro O wa9 v9 wb9 iv9 r he hw h_ hn;have hR:=hn.c9 (S:=fun _=>False) r.cD (mN h_);obtain⟨s9_0,s9_1,s9_2,s9_3,s9_4,s9_5,s9_6,s9_7,rfl⟩:=hR.shape;intro ρe we re;exact⟨_,rfl,hw.tr re.cM,hR.out re (cB w)⟩
theorem zR{v:Value}(hS:Old S w)(hp:eI w S v p)(hq:eI w S u q):
  dm PG N.An #[v,u] w (eB w fun v' w2=>cP w2 (Nf w w2) v' (p*q)):=by
 have hw:cV w.heap.size w w:=cV.refl;replace hp:=hp.cI (S':=Cv S w.heap.size []) fun _ h=>.inl h;replace hq:=hq.cI (S':=Cv S w.heap.size []) fun _ h=>.inl h;obtain⟨b1,a1,n1,c1,b2,a2,n2,c2,rfl⟩:=hp.shape;obtain⟨b3,a3,n3,c3,b4,a4,n4,c4,rfl⟩:=hq.shape;refine Bi (by simp) ?_;have r1:=hp.rl;have r2:=hq.rl;have u1:=fM p;have u2:=ed p;have u3:=fM q;have u4:=ed q;refine cC (cE hw (fun _ w' v w2=>∃n d ok,v= .tuple #[.int .i64 n,.int .i64 d,.bool ok]∧(ok=true->d≠0∧n.natAbs<1073741824∧d.natAbs<1073741824∧Rat.divInt n d=p)) (fun O w' r=>xK (Rel.old r hS) (hp.rel r hS)) ?_);rintro O wa1 v1 wb1 iv1 r he hw h_ ⟨a,b,k1,rfl,g1⟩;replace hp:=hp.cF r hS he (mC h_);replace hq:=hq.cF r hS he (mC h_);refine cC (cE hw (fun _ w' v w2=>∃n d ok,v= .tuple #[.int .i64 n,.int .i64 d,.bool ok]∧(ok=true->d≠0∧n.natAbs<1073741824∧d.natAbs<1073741824∧Rat.divInt n d=q)) (fun O w' r=>xK (Rel.old r hS) (hq.rel r hS)) ?_);rintro O wa2 v2 wb2 iv2 r he hw h_ ⟨c,d,k2,rfl,g2⟩;replace hp:=hp.cF r hS he (mC h_);replace hq:=hq.cF r hS he (mC h_);refine dI.mk (fun h1=>?_) (fun h1=>?_)
 ·refine dI.mk (fun h2=>?_) (fun h2=>?_)
  ·obtain⟨g3,g4,g5,g6⟩:=g1 h1;obtain⟨g7,g8,g9,g10⟩:=g2 h2;have i1:=jE g4 g9;have i2:=jE g8 g5;have i3:=jE g5 g9;have i4:=jE g4 g8;refine⟨a*c,wo,b*d,wo,?_⟩;have e:=Rat.divInt_mul_divInt a c (d₁:=b) (d₂:=d);rw[g6,g10]at e;refine cC (cE hw (fun _ w' v w2=>cP w2 (Nf w' w2) v (p*q)) (fun O w' r=>e▸qK (a*c) (b*d) w' (by omega) (by omega) (j2 g3 g7)) ?_);rintro O wa3 v3 wb3 iv3 r he hw h_ hn;have hR:=hn.c9 (S:=fun _=>False) r.cD (mN h_);obtain⟨s3_0,s3_1,s3_2,s3_3,s3_4,s3_5,s3_6,s3_7,rfl⟩:=hR.shape;intro ρe we re;exact⟨_,rfl,hw.tr re.cM,hR.out re (cB w)⟩
  refine cJ hτ db [.x 0,.x 2,.x 1,.x 3,.x 4,.x 5] (by kernel_rfl) (by kernel_rfl) ?_;refine cE hw (fun _ w' v w2=>cP w2 (Nf w' w2) v (p)) (fun O w' r=>fp (Rel.old r hS) (hp.rel r hS)) ?_;rintro O wa3 v3 wb3 iv3 r he hw h_ hn;replace hq:=hq.cF r hS he (mC h_);have hX:=hn.c9 (S:=fun _=>False) r.cD (mN h_);obtain⟨s3_0,s3_1,s3_2,s3_3,s3_4,s3_5,s3_6,s3_7,rfl⟩:=hX.shape;refine cE hw (fun _ w' v w2=>cP w2 (Nf w' w2) v (q)) (fun O w' r=>fp (Rel.old r hS) (hq.rel r hS)) ?_;rintro O wa4 v4 wb4 iv4 r he hw h_ hn;replace hX:=hX.cF r (cB w) he (mC h_);have hY:=hn.c9 (S:=fun _=>False) r.cD (mN h_);obtain⟨s4_0,s4_1,s4_2,s4_3,s4_4,s4_5,s4_6,s4_7,rfl⟩:=hY.shape;have hXn:=hX.num;have hXd:=hX.den;have hYn:=hY.num;have hYd:=hY.den;have m0:=cY p.num q.den;have m1:=cY q.num p.den;have m2:=cY (p.den:Int) q.den;have m3:=iE (p.num*q.den) (q.num*p.den);have m4:=cY p.num q.num;refine cJ hτ db [.x 0,.x 1,.x 2,.x 3,.x 5,.x 6,.x 7,.x 8,.x 4,.x 9,.x 10,.x 11] (by kernel_rfl) (by kernel_rfl) ?_;refine cE hw (fun _ w' v w2=>dC w2 (Nf w' w2) v (p.num*q.num)) (fun O w' r=>ga (Rel.old r (cB w)) ((hXn.rel r (cB w)).l (k:=100000) (by omega)) ((hYn.rel r (cB w)).l (k:=100000) (by omega)) (by omega) (by omega)) ?_;rintro O wa5 v5 wb5 iv5 r he hw h_ hn;replace hXn:=hXn.cF r (cB w) he (mC h_);replace hXd:=hXd.cF r (cB w) he (mC h_);replace hYn:=hYn.cF r (cB w) he (mC h_);replace hYd:=hYd.cF r (cB w) he (mC h_);have hN:=hn.c9 (S:=fun _=>False) r.cD (mN h_);obtain⟨s5_0,s5_1,s5_2,s5_3,rfl⟩:=hN.shape;refine cE hw (fun _ w' v w2=>dC w2 (Nf w' w2) v ((p.den:Int)*(q.den:Int))) (fun O w' r=>ga (Rel.old r (cB w)) ((hXd.rel r (cB w)).l (k:=100000) (by omega)) ((hYd.rel r (cB w)).l (k:=100000) (by omega)) (by omega) (by omega)) ?_;rintro O wa6 v6 wb6 iv6 r he hw h_ hn;replace hXn:=hXn.cF r (cB w) he (mC h_);replace hXd:=hXd.cF r (cB w) he (mC h_);replace hYn:=hYn.cF r (cB w) he (mC h_);replace hYd:=hYd.cF r (cB w) he (mC h_);replace hN:=hN.cF r (cB w) he (mC h_);have hD:=hn.c9 (S:=fun _=>False) r.cD (mN h_);obtain⟨s6_0,s6_1,s6_2,s6_3,rfl⟩:=hD.shape;refine cE hw (fun _ w' v w2=>cP w2 (Nf w' w2) v (p*q)) (fun O w' r=>(xD p q)▸jd (Rel.old r (cB w)) ((hN.rel r (cB w)).l (k:=200001) (by omega)) ((hD.rel r (cB w)).l (k:=200001) (by omega)) (by omega) (by omega) (j2 (fZ p) (fZ q))) ?_;rintro O wa7 v7 wb7 iv7 r he hw h_ hn;have hR:=hn.c9 (S:=fun _=>False) r.cD (mN h_);obtain⟨s7_0,s7_1,s7_2,s7_3,s7_4,s7_5,s7_6,s7_7,rfl⟩:=hR.shape;intro ρe we re;exact⟨_,rfl,hw.tr re.cM,hR.out re (cB w)⟩
 refine cJ hτ db [.x 0,.x 2,.x 1,.x 3,.x 4,.x 5] (by kernel_rfl) (by kernel_rfl) ?_;refine cE hw (fun _ w' v w2=>cP w2 (Nf w' w2) v (p)) (fun O w' r=>fp (Rel.old r hS) (hp.rel r hS)) ?_;rintro O wa3 v3 wb3 iv3 r he hw h_ hn;replace hq:=hq.cF r hS he (mC h_);have hX:=hn.c9 (S:=fun _=>False) r.cD (mN h_);obtain⟨s3_0,s3_1,s3_2,s3_3,s3_4,s3_5,s3_6,s3_7,rfl⟩:=hX.shape;refine cE hw (fun _ w' v w2=>cP w2 (Nf w' w2) v (q)) (fun O w' r=>fp (Rel.old r hS) (hq.rel r hS)) ?_;rintro O wa4 v4 wb4 iv4 r he hw h_ hn;replace hX:=hX.cF r (cB w) he (mC h_);have hY:=hn.c9 (S:=fun _=>False) r.cD (mN h_);obtain⟨s4_0,s4_1,s4_2,s4_3,s4_4,s4_5,s4_6,s4_7,rfl⟩:=hY.shape;have hXn:=hX.num;have hXd:=hX.den;have hYn:=hY.num;have hYd:=hY.den;have m0:=cY p.num q.den;have m1:=cY q.num p.den;have m2:=cY (p.den:Int) q.den;have m3:=iE (p.num*q.den) (q.num*p.den);have m4:=cY p.num q.num;refine cJ hτ db [.x 0,.x 1,.x 2,.x 3,.x 5,.x 6,.x 7,.x 8,.x 4,.x 9,.x 10,.x 11] (by kernel_rfl) (by kernel_rfl) ?_;refine cE hw (fun _ w' v w2=>dC w2 (Nf w' w2) v (p.num*q.num)) (fun O w' r=>ga (Rel.old r (cB w)) ((hXn.rel r (cB w)).l (k:=100000) (by omega)) ((hYn.rel r (cB w)).l (k:=100000) (by omega)) (by omega) (by omega)) ?_;rintro O wa5 v5 wb5 iv5 r he hw h_ hn;replace hXn:=hXn.cF r (cB w) he (mC h_);replace hXd:=hXd.cF r (cB w) he (mC h_);replace hYn:=hYn.cF r (cB w) he (mC h_);replace hYd:=hYd.cF r (cB w) he (mC h_);have hN:=hn.c9 (S:=fun _=>False) r.cD (mN h_);obtain⟨s5_0,s5_1,s5_2,s5_3,rfl⟩:=hN.shape;refine cE hw (fun _ w' v w2=>dC w2 (Nf w' w2) v ((p.den:Int)*(q.den:Int))) (fun O w' r=>ga (Rel.old r (cB w)) ((hXd.rel r (cB w)).l (k:=100000) (by omega)) ((hYd.rel r (cB w)).l (k:=100000) (by omega)) (by omega) (by omega)) ?_;rintro O wa6 v6 wb6 iv6 r he hw h_ hn;replace hXn:=hXn.cF r (cB w) he (mC h_);replace hXd:=hXd.cF r (cB w) he (mC h_);replace hYn:=hYn.cF r (cB w) he (mC h_);replace hYd:=hYd.cF r (cB w) he (mC h_);replace hN:=hN.cF r (cB w) he (mC h_);have hD:=hn.c9 (S:=fun _=>False) r.cD (mN h_);obtain⟨s6_0,s6_1,s6_2,s6_3,rfl⟩:=hD.shape;refine cE hw (fun _ w' v w2=>cP w2 (Nf w' w2) v (p*q)) (fun O w' r=>(xD p q)▸jd (Rel.old r (cB w)) ((hN.rel r (cB w)).l (k:=200001) (by omega)) ((hD.rel r (cB w)).l (k:=200001) (by omega)) (by omega) (by omega) (j2 (fZ p) (fZ q))) ?_;rintro O wa7 v7 wb7 iv7 r he hw h_ hn;have hR:=hn.c9 (S:=fun _=>False) r.cD (mN h_);obtain⟨s7_0,s7_1,s7_2,s7_3,s7_4,s7_5,s7_6,s7_7,rfl⟩:=hR.shape;intro ρe we re;exact⟨_,rfl,hw.tr re.cM,hR.out re (cB w)⟩
theorem FF{v:Value}(hS:Old S w)(hp:eI w S v p):
  dm PG N.Aq #[v] w (eB w fun v' w2=>cP w2 (Nf w w2) v' (-p)):=by
 have hw:cV w.heap.size w w:=cV.refl;replace hp:=hp.cI (S':=Cv S w.heap.size []) fun _ h=>.inl h;obtain⟨b1,a1,n1,c1,b2,a2,n2,c2,rfl⟩:=hp.shape;refine Bq (by simp) ?_;have r1:=hp.rl;have u1:=fM p;have u2:=ed p;refine cC (cE hw (fun _ w' v w2=>cP w2 (Nf w' w2) v (p)) (fun O w' r=>fp (Rel.old r hS) (hp.rel r hS)) ?_);rintro O wa1 v1 wb1 iv1 r he hw h_ hn;have hX:=hn.c9 (S:=fun _=>False) r.cD (mN h_);obtain⟨s1_0,s1_1,s1_2,s1_3,s1_4,s1_5,s1_6,s1_7,rfl⟩:=hX.shape;have hXn:=hX.num;have hXd:=hX.den;refine cJ hτ db [.x 0,.x 1,.x 3,.x 4,.x 2,.x 5,.x 6] (by kernel_rfl) (by kernel_rfl) ?_;refine cE hw (fun _ w' v w2=>dC w2 (Nf w' w2) v (-p.num)) (fun O w' r=>lC (Rel.old r (cB w)) ((hXn.rel r (cB w)).l (k:=100000) (by omega)) (by omega)) ?_;rintro O wa2 v2 wb2 iv2 r he hw h_ hn;replace hXd:=hXd.cF r (cB w) he (mC h_);have hN:=hn.c9 (S:=fun _=>False) r.cD (mN h_);obtain⟨s2_0,s2_1,s2_2,s2_3,rfl⟩:=hN.shape;refine cE hw (fun _ w' v w2=>cP w2 (Nf w' w2) v (-p)) (fun O w' r=>show dm _ _ _ _ (eB _ fun v w2=>cP w2 _ v (-p))from(show Rat.divInt (-p.num) p.den= -p by rw[<-Rat.neg_divInt,Rat.num_divInt_den])▸jd (Rel.old r (cB w)) ((hN.rel r (cB w)).l (k:=100000) (by rw[bz];omega)) ((hXd.rel r (cB w)).l (k:=100000) (by omega)) (by omega) (by omega) (fZ p)) ?_;rintro O wa3 v3 wb3 iv3 r he hw h_ hn;have hR:=hn.c9 (S:=fun _=>False) r.cD (mN h_);obtain⟨s3_0,s3_1,s3_2,s3_3,s3_4,s3_5,s3_6,s3_7,rfl⟩:=hR.shape;intro ρe we re;exact⟨_,rfl,hw.tr re.cM,hR.out re (cB w)⟩
theorem Lk{v:Value}(hS:Old S w)(hp:eI w S v p)(hq:eI w S u q):
  dm PG N.Ao #[v,u] w (eB w fun v' w2=>cP w2 (Nf w w2) v' (p-q)):=by
 have hw:cV w.heap.size w w:=cV.refl;replace hp:=hp.cI (S':=Cv S w.heap.size []) fun _ h=>.inl h;replace hq:=hq.cI (S':=Cv S w.heap.size []) fun _ h=>.inl h;obtain⟨b1,a1,n1,c1,b2,a2,n2,c2,rfl⟩:=hp.shape;obtain⟨b3,a3,n3,c3,b4,a4,n4,c4,rfl⟩:=hq.shape;refine Bj (by simp) ?_;have r1:=hp.rl;have r2:=hq.rl;have u1:=og q;refine cJ hτ db [.x 0,.x 1,.x 2,.x 3,.x 4] (by kernel_rfl) (by kernel_rfl) ?_;refine cE hw (fun _ w' v w2=>cP w2 (Nf w' w2) v (-q)) (fun O w' r=>FF (Rel.old r hS) (hq.rel r hS)) ?_;rintro O wa1 v1 wb1 iv1 r he hw h_ hn;replace hp:=hp.cF r hS he (mC h_);have hN:=hn.c9 (S:=fun _=>False) r.cD (mN h_);obtain⟨s1_0,s1_1,s1_2,s1_3,s1_4,s1_5,s1_6,s1_7,rfl⟩:=hN.shape;refine cE hw (fun _ w' v w2=>cP w2 (Nf w' w2) v (p-q)) (fun O w' r=>(Rat.sub_eq_add_neg p q)▸FW (Rel.old r hS) (hp.rel r hS) (((hN.rel r (cB w)).l (by omega)).cI fun g hg=>Cv.false hg)) ?_;rintro O wa2 v2 wb2 iv2 r he hw h_ hn;have hR:=hn.c9 (S:=fun _=>False) r.cD (mN h_);obtain⟨s2_0,s2_1,s2_2,s2_3,s2_4,s2_5,s2_6,s2_7,rfl⟩:=hR.shape;intro ρe we re;exact⟨_,rfl,hw.tr re.cM,hR.out re (cB w)⟩
theorem JB{v:Value}(hS:Old S w)(hp:eI w S v p)(hq:eI w S u q):
  dm PG N.Ak #[v,u] w (eB w fun v' _=>v'= .int .i64 (rs (p-q))):=by
 have hw:cV w.heap.size w w:=cV.refl;replace hp:=hp.cI (S':=Cv S w.heap.size []) fun _ h=>.inl h;replace hq:=hq.cI (S':=Cv S w.heap.size []) fun _ h=>.inl h;obtain⟨b1,a1,n1,c1,b2,a2,n2,c2,rfl⟩:=hp.shape;obtain⟨b3,a3,n3,c3,b4,a4,n4,c4,rfl⟩:=hq.shape;refine Bf (by simp) ?_;refine cC (cE hw (fun _ w' v w2=>cP w2 (Nf w' w2) v (p-q)) (fun O w' r=>Lk (Rel.old r hS) (hp.rel r hS) (hq.rel r hS)) ?_);rintro O wa1 v1 wb1 iv1 r he hw h_ hn;have hR:=hn.c9 (S:=fun _=>False) r.cD (mN h_);obtain⟨s1_0,s1_1,s1_2,s1_3,s1_4,s1_5,s1_6,s1_7,rfl⟩:=hR.shape;refine cC (cE hw (fun _ w' v w2=>v= .int .i64 (rs (p-q))) (fun O w' r=>BP (Rel.old r (cB w)) (hR.rel r (cB w))) ?_);rintro O wa2 v2 wb2 iv2 r he hw h_ rfl;intro ρe we re;exact⟨_,rfl,hw.tr re.cM,rfl⟩
theorem Ll{v:Value}(hS:Old S w)(hp:eI w S v p)(hq:eI w S u q):
  dm PG N.uJ #[v,u] w (eB w fun v' w2=>(q=0∧v'= .tuple #[mH,.int .i64 9])∨(q≠0∧∃r,v'= .tuple #[r,.int .i64 0]∧cP w2 (Nf w w2) r (p / q))):=by
 have hw:cV w.heap.size w w:=cV.refl;replace hp:=hp.cI (S':=Cv S w.heap.size []) fun _ h=>.inl h;replace hq:=hq.cI (S':=Cv S w.heap.size []) fun _ h=>.inl h;obtain⟨b1,a1,n1,c1,b2,a2,n2,c2,rfl⟩:=hp.shape;obtain⟨b3,a3,n3,c3,b4,a4,n4,c4,rfl⟩:=hq.shape;refine Bn (by simp) ?_;have r1:=hp.rl;have r2:=hq.rl;have u1:=fM p;have u2:=ed p;have u3:=fM q;have u4:=ed q;have m0:=cY p.num q.den;have m1:=cY (p.den:Int) q.num;refine cJ hτ db [.x 0,.x 2,.x 1,.x 3,.x 4,.x 5] (by kernel_rfl) (by kernel_rfl) ?_;refine cE hw (fun _ w' v w2=>cP w2 (Nf w' w2) v (p)) (fun O w' r=>fp (Rel.old r hS) (hp.rel r hS)) ?_;rintro O wa1 v1 wb1 iv1 r he hw h_ hn;replace hq:=hq.cF r hS he (mC h_);have hX:=hn.c9 (S:=fun _=>False) r.cD (mN h_);obtain⟨s1_0,s1_1,s1_2,s1_3,s1_4,s1_5,s1_6,s1_7,rfl⟩:=hX.shape;refine cE hw (fun _ w' v w2=>cP w2 (Nf w' w2) v (q)) (fun O w' r=>fp (Rel.old r hS) (hq.rel r hS)) ?_;rintro O wa2 v2 wb2 iv2 r he hw h_ hn;replace hX:=hX.cF r (cB w) he (mC h_);have hY:=hn.c9 (S:=fun _=>False) r.cD (mN h_);obtain⟨s2_0,s2_1,s2_2,s2_3,s2_4,s2_5,s2_6,s2_7,rfl⟩:=hY.shape;refine cC (cE hw (fun _ w' v w2=>v= .int .i64 (rs q)) (fun O w' r=>BP (Rel.old r (cB w)) (hY.rel r (cB w))) ?_);rintro O wa3 v3 wb3 iv3 r he hw h_ rfl;replace hX:=hX.cF r (cB w) he (mC h_);replace hY:=hY.cF r (cB w) he (mC h_);refine dI.mk (fun h=>?_) (fun h=>?_)
 ·have h:rs q=0:=by simpa using h
  intro ρe we re;exact⟨_,rfl,hw.tr re.cM,.inl ⟨nX.1 h,rfl⟩⟩
 have h:q≠0:=fun e=>by rw[e]at h;exact absurd h (by decide)
 have hqn:q.num≠0:=fun e=>h (Rat.num_eq_zero.1 e);have hXn:=hX.num;have hXd:=hX.den;have hYn:=hY.num;have hYd:=hY.den;refine cJ hτ db [.x 0,.x 1,.x 2,.x 3,.x 5,.x 6,.x 7,.x 8,.x 4,.x 9,.x 10,.x 11,.x 12] (by kernel_rfl) (by kernel_rfl) ?_;refine cE hw (fun _ w' v w2=>dC w2 (Nf w' w2) v (p.num*(q.den:Int))) (fun O w' r=>ga (Rel.old r (cB w)) ((hXn.rel r (cB w)).l (k:=100000) (by omega)) ((hYd.rel r (cB w)).l (k:=100000) (by omega)) (by omega) (by omega)) ?_;rintro O wa4 v4 wb4 iv4 r he hw h_ hn;replace hXd:=hXd.cF r (cB w) he (mC h_);replace hYn:=hYn.cF r (cB w) he (mC h_);have hN:=hn.c9 (S:=fun _=>False) r.cD (mN h_);obtain⟨s4_0,s4_1,s4_2,s4_3,rfl⟩:=hN.shape;refine cE hw (fun _ w' v w2=>dC w2 (Nf w' w2) v ((p.den:Int)*q.num)) (fun O w' r=>ga (Rel.old r (cB w)) ((hXd.rel r (cB w)).l (k:=100000) (by omega)) ((hYn.rel r (cB w)).l (k:=100000) (by omega)) (by omega) (by omega)) ?_;rintro O wa5 v5 wb5 iv5 r he hw h_ hn;replace hN:=hN.cF r (cB w) he (mC h_);have hD:=hn.c9 (S:=fun _=>False) r.cD (mN h_);obtain⟨s5_0,s5_1,s5_2,s5_3,rfl⟩:=hD.shape;refine cE hw (fun _ w' v w2=>cP w2 (Nf w' w2) v (p / q)) (fun O w' r=>(B4 p q)▸jd (Rel.old r (cB w)) ((hN.rel r (cB w)).l (k:=200001) (by omega)) ((hD.rel r (cB w)).l (k:=200001) (by omega)) (by omega) (by omega) (j2 (fZ p) hqn)) ?_;rintro O wa6 v6 wb6 iv6 r he hw h_ hn;have hR:=hn.c9 (S:=fun _=>False) r.cD (mN h_);obtain⟨s6_0,s6_1,s6_2,s6_3,s6_4,s6_5,s6_6,s6_7,rfl⟩:=hR.shape;intro ρe we re;exact⟨_,rfl,hw.tr re.cM,.inr ⟨h,_,rfl,hR.out re (cB w)⟩⟩
theorem lj(n:Int)(w:World)(h1n: -9223372036854775808<=n)(h2n:n<=9223372036854775807):
  dm PG N.ow #[.int .i64 n] w (eB w fun v' w2=>cP w2 (Nf w w2) v' (n:Rat)):=by
 have hw:cV w.heap.size w w:=cV.refl;have ha:=ml h1n h2n;refine pG (by simp) ?_;refine cC (cE hw (fun _ w' v w2=>dC w2 (Nf w' w2) v (n)) (fun O w' r=>kB n w' h1n h2n) ?_);rintro O wa1 v1 wb1 iv1 r he hw h_ hn;have hA:=hn.c9 (S:=fun _=>False) r.cD (mN h_);obtain⟨s1_0,s1_1,s1_2,s1_3,rfl⟩:=hA.shape;refine cC (cE hw (fun _ w' v w2=>dC w2 (Nf w' w2) v (1)) (fun O w' r=>kB 1 w' (by decide) (by decide)) ?_);rintro O wa2 v2 wb2 iv2 r he hw h_ hn;replace hA:=hA.cF r (cB w) he (mC h_);have hB:=hn.c9 (S:=fun _=>False) r.cD (mN h_);obtain⟨s2_0,s2_1,s2_2,s2_3,rfl⟩:=hB.shape;refine cC (cE hw (fun _ w' v w2=>cP w2 (Nf w' w2) v ((n:Rat))) (fun O w' r=>(zU n)▸jd (Rel.old r (cB w)) ((hA.rel r (cB w)).l (k:=2) (by omega)) ((hB.rel r (cB w)).l (k:=2) (by decide)) (by omega) (by omega) (by decide)) ?_);rintro O wa3 v3 wb3 iv3 r he hw h_ hn;have hR:=hn.c9 (S:=fun _=>False) r.cD (mN h_);obtain⟨s3_0,s3_1,s3_2,s3_3,s3_4,s3_5,s3_6,s3_7,rfl⟩:=hR.shape;intro ρe we re;exact⟨_,rfl,hw.tr re.cM,hR.out re (cB w)⟩
theorem Dl(a b:Int)(w:World)(h1a: -9223372036854775808<=a)(h2a:a<=9223372036854775807)(h1b: -9223372036854775808<=b)(h2b:b<=9223372036854775807):
  dm PG N.vL #[.int .i64 a,.int .i64 b] w (eB w fun v' w2=>(b=0∧v'= .tuple #[mH,.int .i64 9])∨(b≠0∧∃q,v'= .tuple #[q,.int .i64 0]∧cP w2 (Nf w w2) q (Rat.divInt a b))):=by
 have hw:cV w.heap.size w w:=cV.refl;have ha:=ml h1a h2a;have hb':=ml h1b h2b;refine yn (by simp) ?_;refine dI.mk (fun h=>?_) (fun h=>?_)
 ·have h:b=0:=by simpa using h
  intro ρe we re;exact⟨_,rfl,hw.tr re.cM,.inl ⟨h,rfl⟩⟩
 have h:b≠0:=by simpa using h
 refine cC (cE hw (fun _ w' v w2=>dC w2 (Nf w' w2) v (a)) (fun O w' r=>kB a w' h1a h2a) ?_);rintro O wa1 v1 wb1 iv1 r he hw h_ hn;have hA:=hn.c9 (S:=fun _=>False) r.cD (mN h_);obtain⟨s1_0,s1_1,s1_2,s1_3,rfl⟩:=hA.shape;refine cC (cE hw (fun _ w' v w2=>dC w2 (Nf w' w2) v (b)) (fun O w' r=>kB b w' h1b h2b) ?_);rintro O wa2 v2 wb2 iv2 r he hw h_ hn;replace hA:=hA.cF r (cB w) he (mC h_);have hB:=hn.c9 (S:=fun _=>False) r.cD (mN h_);obtain⟨s2_0,s2_1,s2_2,s2_3,rfl⟩:=hB.shape;refine cC (cE hw (fun _ w' v w2=>cP w2 (Nf w' w2) v (Rat.divInt a b)) (fun O w' r=>jd (Rel.old r (cB w)) ((hA.rel r (cB w)).l (k:=2) (by omega)) ((hB.rel r (cB w)).l (k:=2) (by omega)) (by omega) (by omega) h) ?_);rintro O wa3 v3 wb3 iv3 r he hw h_ hn;have hR:=hn.c9 (S:=fun _=>False) r.cD (mN h_);obtain⟨s3_0,s3_1,s3_2,s3_3,s3_4,s3_5,s3_6,s3_7,rfl⟩:=hR.shape;intro ρe we re;exact⟨_,rfl,hw.tr re.cM,.inr ⟨h,_,rfl,hR.out re (cB w)⟩⟩
def Dw(w:World)(S:Nat->Prop)(v:Value)(a b:Int):Prop:=∃b1 l1 b2 l2,v= .agg #[.bool b1,l1,.bool b2,l2]∧dC w S (.agg #[.bool b1,l1]) a∧dC w S (.agg #[.bool b2,l2]) b
theorem Dw.nil(w:World)(S:Nat->Prop):Dw w S mH 0 0:=⟨_,_,_,_,rfl,dC.nil w S,dC.nil w S⟩
section
variable{S S':Nat->Prop}{H:Hp}{nx:Nat}{iv iv':Iv}{B:Nat}{w w' w2:World}{O:Nat->Sx.df}{v:Value}{a:Int}{b:Int}
end
theorem jF.short{b:Bool}{a:Option Addr}{n c k:Nat}{z:Int}(h:jF w S (.agg #[.bool b,.slice a n c]) z)(hk:n<=k):fE w S (.agg #[.bool b,.slice a n c]) k z:=by
 obtain⟨b2,ls,⟨lv,e1,h3⟩,h2⟩:=h;obtain⟨a2,c2,e2,_⟩:=h3.sl;subst e2;simp only[Value.agg.injEq,Array.mk.injEq,List.cons.injEq,Value.bool.injEq,Value.slice.injEq,and_true]at e1;obtain⟨rfl,rfl,e3,rfl⟩:=e1;exact⟨_,ls,⟨_,by rw[e3],h3⟩,h2,by omega⟩
theorem GH{v:Value}{b c d:Int}(hS:Old S w)(hx:Dw w S v a b)(hy:Dw w S u c d):
  dm PG N.rS #[v,u] w (eB w fun v' _=>v'= .bool (decide (a=c∧b=d))):=by
 have hw:cV w.heap.size w w:=cV.refl;obtain⟨b1,l1,b2,l2,rfl,ha,hb'⟩:=hx;obtain⟨b3,l3,b4,l4,rfl,hc,hd⟩:=hy;obtain⟨_,a1,n1,c1,e1⟩:=ha.shape;simp only[Value.agg.injEq,Array.mk.injEq,List.cons.injEq,and_true]at e1;obtain⟨_,rfl⟩:=e1;obtain⟨_,a2,n2,c2,e2⟩:=hb'.shape;simp only[Value.agg.injEq,Array.mk.injEq,List.cons.injEq,and_true]at e2;obtain⟨_,rfl⟩:=e2;obtain⟨_,a3,n3,c3,e3⟩:=hc.shape;simp only[Value.agg.injEq,Array.mk.injEq,List.cons.injEq,and_true]at e3;obtain⟨_,rfl⟩:=e3;obtain⟨_,a4,n4,c4,e4⟩:=hd.shape;simp only[Value.agg.injEq,Array.mk.injEq,List.cons.injEq,and_true]at e4;obtain⟨_,rfl⟩:=e4;replace ha:=ha.cI (S':=Cv S w.heap.size []) fun _ h=>.inl h;replace hb':=hb'.cI (S':=Cv S w.heap.size []) fun _ h=>.inl h;replace hc:=hc.cI (S':=Cv S w.heap.size []) fun _ h=>.inl h;replace hd:=hd.cI (S':=Cv S w.heap.size []) fun _ h=>.inl h;refine qm (by simp) ?_;refine cC (cL (Φ:=fun _ w' v w2=>v= .bool (decide (a=c))) (fun O w' r=>qL (Rel.old r hS) (ha.rel r hS) (hc.rel r hS)) ?_);rintro O wa1 v1 wb1 r he hb rfl;replace hw:=hw.tr hb;replace hb':=hb'.cF (iv':=(wa1.heap.size,wb1.heap.size)::[]) r hS he fun x hx=>aC _ hx;replace hd:=hd.cF (iv':=(wa1.heap.size,wb1.heap.size)::[]) r hS he fun x hx=>aC _ hx;generalize (wa1.heap.size,wb1.heap.size)::[]=iv1 at*
 refine dI.mk (fun h=>?_) (fun h=>?_)
 ·have h:=aI h;refine cC (cE hw (fun _ w' v w2=>v= .bool (decide (b=d))) (fun O w' r=>qL (Rel.old r hS) (hb'.rel r hS) (hd.rel r hS)) ?_);rintro O wa2 v2 wb2 iv2 r he hw h_ rfl;intro ρe we re;exact⟨_,rfl,hw.tr re.cM,by rw[show decide (a=c∧b=d)=decide (b=d) by simp[h]];rfl⟩
 have h:=aH h;intro ρe we re;exact⟨_,rfl,hw.tr re.cM,by rw[bF (fun e=>h e.1)];rfl⟩
def kk(w:World)(S:Nat->Prop)(cs:List Value)(q:Rat):Prop:=∃b a n c b2 a2 n2 c2,cs=[.bool b,.slice a n c,.bool b2,.slice a2 n2 c2]∧eI w S (.agg #[.bool b,.slice a n c,.bool b2,.slice a2 n2 c2]) q
abbrev cX:=dL kk
abbrev eD:=de cX
section
variable{S S':Nat->Prop}{H:Hp}{nx:Nat}{iv iv':Iv}{B:Nat}{w w' w2:World}{O:Nat->Sx.df}{v:Value}{qs:List Rat}{cs:List Value}{q:Rat}
theorem kk.cG(h:kk w S cs q)(hk:∀g,S g->w2.heap[g]? =w.heap[g]?):kk w2 S cs q:=by
 obtain⟨b,a,n,c,b2,a2,n2,c2,h1,h2⟩:=h;exact⟨b,a,n,c,b2,a2,n2,c2,h1,h2.cG hk⟩
theorem kk.cI(h:kk w S cs q)(hk:∀g,S g->S' g):kk w S' cs q:=by
 obtain⟨b,a,n,c,b2,a2,n2,c2,h1,h2⟩:=h;exact⟨b,a,n,c,b2,a2,n2,c2,h1,h2.cI hk⟩
theorem cX.cG(h:cX w S v qs)(hk:∀g,S g->w2.heap[g]? =w.heap[g]?):cX w2 S v qs:=by
 obtain⟨css,h1,h2,h3,h4⟩:=h;exact⟨css,h1.cG hk,h2,h3,fun j cs x k1 k2=>(h4 j cs x k1 k2).cG hk⟩
theorem cX.cI(h:cX w S v qs)(hk:∀g,S g->S' g):cX w S' v qs:=by
 obtain⟨css,h1,h2,h3,h4⟩:=h;exact⟨css,h1.cI hk,h2,h3,fun j cs x k1 k2=>(h4 j cs x k1 k2).cI hk⟩
theorem eD.cG(h:eD w S v M)(hk:∀g,S g->w2.heap[g]? =w.heap[g]?):eD w2 S v M:=by
 obtain⟨rv,h1,h2,h3⟩:=h;exact⟨rv,h1.cG hk,h2,fun i u x k1 k2=>cX.cG (h3 i u x k1 k2) hk⟩
theorem eD.cI(h:eD w S v M)(hk:∀g,S g->S' g):eD w S' v M:=by
 obtain⟨rv,h1,h2,h3⟩:=h;exact⟨rv,h1.cI hk,h2,fun i u x k1 k2=>cX.cI (h3 i u x k1 k2) hk⟩
end
section
variable{S S':Nat->Prop}{H:Hp}{nx:Nat}{iv iv':Iv}{B:Nat}{w w' w2:World}{O:Nat->Sx.df}{v:Value}{qs:List Rat}
theorem cX.rel(h:cX w (Cv S B iv) v qs)(r:Rel H nx iv B w O w')(hS:∀g,S g->g<B):cX w' (Cv S B iv) v qs:=cX.cG h fun _ hg=>Rel.same r hS hg
theorem cX.cF(h:cX w (Cv S B iv) v qs)(r:Rel H nx iv B w O w')(hS:∀g,S g->g<B)(he:Ext w' w2)(hm:∀p,p∈iv->p∈iv'):cX w2 (Cv S B iv') v qs:=
 cX.cI (cX.cG (cX.rel h r hS) fun g hg=>he.block g (Rel.old r hS g hg)) fun _ hg=>hg.mono hm
theorem cX.old(h:cX w2 (Nw (Cv S B iv) w' w2) v qs)(hB:B<=w'.heap.size):cX w2 (Cv S B ((w'.heap.size,w2.heap.size)::iv)) v qs:=cX.cI h fun _ hg=>Nw.cv hg hB
theorem cX.out{w0 w1:World}(h:cX w1 (Cv S w0.heap.size iv) v qs)(r:Rel H nx iv w0.heap.size w1 O w')(hS:Old S w0):cX w' (Nw S w0 w') v qs:=
 cX.cI (cX.rel h r hS) fun _ hg=>Cv.nw hg r
end
section
variable{S S':Nat->Prop}{H:Hp}{nx:Nat}{iv iv':Iv}{B:Nat}{w w' w2:World}{O:Nat->Sx.df}{v:Value}{M:List (List Rat)}
theorem eD.rel(h:eD w (Cv S B iv) v M)(r:Rel H nx iv B w O w')(hS:∀g,S g->g<B):eD w' (Cv S B iv) v M:=eD.cG h fun _ hg=>Rel.same r hS hg
theorem eD.cF(h:eD w (Cv S B iv) v M)(r:Rel H nx iv B w O w')(hS:∀g,S g->g<B)(he:Ext w' w2)(hm:∀p,p∈iv->p∈iv'):eD w2 (Cv S B iv') v M:=
 eD.cI (eD.cG (eD.rel h r hS) fun g hg=>he.block g (Rel.old r hS g hg)) fun _ hg=>hg.mono hm
theorem eD.old(h:eD w2 (Nw (Cv S B iv) w' w2) v M)(hB:B<=w'.heap.size):eD w2 (Cv S B ((w'.heap.size,w2.heap.size)::iv)) v M:=eD.cI h fun _ hg=>Nw.cv hg hB
theorem eD.arg(h:eD w S v M)(iv:Iv):eD w (Cv S w.heap.size iv) v M:=eD.cI h fun _ h=>.inl h
end
def AH(w:World)(S:Nat->Prop)(css:List (List Value))(qs:List Rat):Prop:=∀(j:Nat) cs q,css[j]? =some cs->qs[j]? =some q->gg w S cs q
section
variable{S S':Nat->Prop}{H:Hp}{nx:Nat}{iv iv':Iv}{B:Nat}{w w' w2:World}{O:Nat->Sx.df}{css:List (List Value)}{qs:List Rat}
theorem AH.rel(h:AH w (Cv S B iv) css qs)(r:Rel H nx iv B w O w')(hS:∀g,S g->g<B):AH w' (Cv S B iv) css qs:=fun j cs q h1 h2=>(h j cs q h1 h2).cG fun _ hg=>Rel.same r hS hg
theorem AH.cF(h:AH w (Cv S B iv) css qs)(r:Rel H nx iv B w O w')(hS:∀g,S g->g<B)(he:Ext w' w2)(hm:∀p,p∈iv->p∈iv'):AH w2 (Cv S B iv') css qs:=fun j cs q h1 h2=>
 (((h.rel r hS) j cs q h1 h2).cG fun g hg=>he.block g (Rel.old r hS g hg)).cI fun _ hg=>hg.mono hm
theorem AH.push(h:AH w S css qs)(hq:qs[css.length]? =some q)(hc:gg w S cs q):AH w S (css++[cs]) qs:=fun j cs' q' h1 h2=>by
 rcases aQ j css.length with hj|hj
 ·rw[aM hj]at h1;exact h j cs' q' h1 h2
 ·have hj0:j=css.length:=by have:=(aE.1 h1).1;simp at this;omega
  subst hj0;rw[aO (aG _),bM]at h1;simp at h1;rw[hq]at h2;injection h2 with h2;subst h1 h2;exact hc
end
theorem zY(h:∀x∈css,x.length=4∧∀u∈x,u.oneCell'=true)(hc:cs.length=4∧∀u∈cs,u.oneCell'=true):∀x∈css++[cs],x.length=4∧∀u∈x,u.oneCell'=true:=fun x hx=>by
 rcases bQ.1 hx with hx|hx
 ·exact h x hx
 ·simp at hx;subst hx;exact hc
def Ml(w w2:World)(v:Value)(xs:List Rat):Prop:=∃css:List (List Value),w2.ownsRow w.heap.size T.Rat 4 v xs.length css.flatten∧css.length=xs.length∧(∀cs∈css,cs.length=4∧∀u∈cs,u.oneCell'=true)∧∀(j:Nat) cs q,css[j]? =some cs->xs[j]? =some q->gg w2 (fun g=>Nf w w2 g∧v.ownBlock≠some g) cs q
theorem BD{id n g:Nat}(h:((At.w id n).den O).ownBlock=some g):(O id).nil=false∧(O id).g=g:=by
 cases hn:(O id).nil with
 |true=>rw[show (At.w id n).den O= .slice none 0 0 by simp[At.den,hn]]at h;cases h
 |false=>
  rw[show (At.w id n).den O= .slice (some ⟨(O id).g,0,none⟩) n (O id).cap by simp[At.den,hn]]at h;injection h with h;exact⟨rfl,h⟩
def iT(xs ys:List Rat)(b:Rat):List Rat:=(List.range ys.length).map fun j=>if 0<xs.length then xs.getD j 0+ys.getD j 0*b else ys.getD j 0*b
theorem jQ(xs ys:List Rat)(b:Rat):(iT xs ys b).length=ys.length:=by simp[iT]
theorem qH{j:Nat}(h:j<ys.length):(iT xs ys b)[j]? =some (if 0<xs.length then xs.getD j 0+ys.getD j 0*b else ys.getD j 0*b):=by
 rw[iT,aN,bp h];rfl
theorem JU{v t:Value}(hS:Old S w)(hx:cX w S v xs)(hy:cX w S u ys)(hb:eI w S t b)(hlen:xs=[]∨xs.length=ys.length)(hn:ys.length<=1000000)(hbound:∀y∈ys,rl y+rl b<=100000):
  dm PG N.rT #[v,u,t] w (eB w fun v' w2=>cO w2 (Nf w w2) v' (iT xs ys b)∧Ml w w2 v' (iT xs ys b)):=by
 have hw:cV w.heap.size w w:=cV.refl;obtain⟨ax,cx,rfl,hcx,hmx⟩:=dL.shape hx;obtain⟨ay,cy,rfl,hcy,hmy⟩:=dL.shape hy;obtain⟨t0,t1,t2,t3,t4,t5,t6,t7,rfl⟩:=hb.shape;have hpl:=jQ xs ys b;refine zi (by simp) ?_
 refine⟨List (List Value)×World×Iv,fun z=>⟨[(0,.o (.v (.slice ax xs.length cx))),(1,.o (.v (.slice ay ys.length cy))),(5,.o (.p 0 0)),(7,.o (.w 1 z.1.length)),(8,.o (.v (.int .i64 z.1.length)))],[(1,.vec T.Rat 4 z.1.flatten),(0,.box T.Rat [.v (.bool t0),.v (.slice t1 t2 t3),.v (.bool t4),.v (.slice t5 t6 t7)])],2,z.2.2,z.2.1⟩,fun z=>ys.length-z.1.length,
  fun z=>z.1.length<=ys.length∧cV w.heap.size w z.2.1∧(∀x∈z.1,x.length=4∧∀u∈x,u.oneCell'=true)∧AH z.2.1 (Cf w z.2.2) z.1 (iT xs ys b),?_,?_⟩
 ·intro O w' r
  exact⟨([],w',[]),⟨by simp,r.cM,by simp,fun j cs q h=>by simp at h⟩,Sub.nil 7 T.Rat 4 rfl (by simp[jn,SV.sc,At.sc,fW]) r fun ρ1 r1=>
   Sub.gn [] r1⟩
 clear hw;rintro⟨css,w1,iv⟩ ⟨hi,hw,h4,hat⟩;dsimp only at hi hw h4 hat ⊢;have hfl:=e9 fun x hx=>(h4 x hx).1;refine dI.mk (fun hib=>?_) (fun hib=>?_)
 ·have hib:css.length<ys.length:=by simpa using hib
  obtain⟨y,hyi⟩:∃y,ys[css.length]? =some y:=⟨_,aB hib⟩
  obtain⟨ady,csy,hay,hFy,_,hly⟩:=dL.load hy hyi;obtain⟨p0,p1,p2,p3,p4,p5,p6,p7,rfl,hFy⟩:=hFy;have hyd:ys.getD css.length 0=y:=by rw[List.getD,hyi];rfl
  have hpq:=qH (xs:=xs) (b:=b) hib;rw[hyd]at hpq;have hbd:=hbound y (aD hyi);have hrm:=iF y b;refine dI.mk (fun hx0=>?_) (fun hx0=>?_)
  ·have hx0:0<xs.length:=by have:=aI hx0;omega
   have hxl:css.length<xs.length:=hlen.elim (fun h=>by rw[h]at hx0;simp at hx0) (fun h=>by omega);obtain⟨x,hxi⟩:∃x,xs[css.length]? =some x:=⟨_,aB hxl⟩
   obtain⟨adx,csx,hax,hFx,_,hlx⟩:=dL.load hx hxi;obtain⟨q0,q1,q2,q3,q4,q5,q6,q7,rfl,hFx⟩:=hFx;have hxd:xs.getD css.length 0=x:=by rw[List.getD,hxi];rfl
   rw[if_pos hx0,hxd]at hpq;refine⟨ady,hay,by omega,[.bool p0,.slice p1 p2 p3,.bool p4,.slice p5 p6 p7],rfl,fun O w' r i x hx=>?_,?_⟩
   ·obtain⟨k1,k2⟩:=hly i x hx;rw[aF,cH (w:=w) (w2:=w') (by rw[dQ,dQ];exact(hw.tr r.cM).block _ (hS _ k1))];exact k2
   refine cC (cE hw (fun _ w' v w2=>v= .int .i64 (rs y)) (fun O w' r=>ni (oS hS r) (hFy.cG (kS hw r hS))) ?_);rintro O wa1 v1 wb1 iv1 r he hw h_ rfl;replace hat:=hat.cF r (cB w) he (mC h_);clear r;refine dI.mk (fun hs=>?_) (fun hs=>?_)
   ·have hs:y=0:=nX.1 (by simpa using hs);rw[hs,bG,bX]at hpq;refine⟨adx,hax,by omega,[.bool q0,.slice q1 q2 q3,.bool q4,.slice q5 q6 q7],rfl,fun O w' r i x hx=>?_,?_⟩
    ·obtain⟨k1,k2⟩:=hlx i x hx;rw[aF,cH (w:=w) (w2:=w') (by rw[dQ,dQ];exact(hw.tr r.cM).block _ (hS _ k1))];exact k2
    refine cC (cE hw (fun _ w' v w2=>cP w2 (Nf w' w2) v (x)) (fun O w' r=>fp (oS hS r) (hFx.cG (kS hw r hS))) ?_);rintro O wa2 v2 wb2 iv2 r he hw h_ hn;replace hat:=hat.cF r (cB w) he (mC h_);have hv1:=hn.c9 (S:=fun _=>False) r.cD (mN h_);clear r hn;obtain⟨s2_0,s2_1,s2_2,s2_3,s2_4,s2_5,s2_6,s2_7,rfl⟩:=hv1.shape;refine .inl ?_;refine⟨hfl,by omega,by unfold maxLen;omega,((css.length+1:Nat):Int),wo,?_⟩;intro ρ3 w3 r3;have hl3:(css++[[Value.bool s2_0,.slice s2_1 s2_2 s2_3,.bool s2_4,.slice s2_5 s2_6 s2_7]]).length=css.length+1:=by simp
    have hf3:(css++[[Value.bool s2_0,.slice s2_1 s2_2 s2_3,.bool s2_4,.slice s2_5 s2_6 s2_7]]).flatten=css.flatten++[Value.bool s2_0,.slice s2_1 s2_2 s2_3,.bool s2_4,.slice s2_5 s2_6 s2_7]:=by simp
    exact⟨(css++[[.bool s2_0,.slice s2_1 s2_2 s2_3,.bool s2_4,.slice s2_5 s2_6 s2_7]],w3,_),⟨by dsimp only;rw[hl3];exact hib,hw.tr r3.cM,zY h4 ⟨rfl,by intro u hu;simp at hu;rcases hu with rfl|rfl|rfl|rfl<;>rfl⟩,(hat.rel r3 (cB w)).push hpq (hv1.rel r3 (cB w)).pS⟩,
     Sub.gn [(1,3)] r3 ⟨by dsimp only;rw[hf3];rfl,rfl,trivial⟩ ⟨rfl,rfl,rfl,by dsimp only;rw[hl3];rfl,by dsimp only;rw[hl3];rfl,trivial⟩,by dsimp only;rw[hl3];omega⟩
   refine cJ hτ db [.x 0,.x 1,.x 2,.x 3,.x 4,.p 6,.x 5,.x 6,.x 7] (by kernel_rfl) (by kernel_rfl) ?_;refine⟨ady,hay,by omega,[.bool p0,.slice p1 p2 p3,.bool p4,.slice p5 p6 p7],rfl,fun O w' r i x hx=>?_,?_⟩
   ·obtain⟨k1,k2⟩:=hly i x hx;rw[aF,cH (w:=w) (w2:=w') (by rw[dQ,dQ];exact(hw.tr r.cM).block _ (hS _ k1))];exact k2
   refine cE hw (fun _ w' v w2=>cP w2 (Nf w' w2) v (y*b)) (fun O w' r=>zR (oS hS r) (hFy.cG (kS hw r hS)) (hb.cG (kS hw r hS))) ?_;rintro O wa2 v2 wb2 iv2 r he hw h_ hn;replace hat:=hat.cF r (cB w) he (mC h_);have hm:=hn.c9 (S:=fun _=>False) r.cD (mN h_);clear r hn;obtain⟨s2_0,s2_1,s2_2,s2_3,s2_4,s2_5,s2_6,s2_7,rfl⟩:=hm.shape;refine dI.mk (fun hx1=>?_) (fun hx1=>absurd hx0 (by have:=aH hx1;omega));refine cJ hτ db [.x 0,.x 1,.x 2,.x 3,.x 4,.x 5,.x 6] (by kernel_rfl) (by kernel_rfl) ?_;refine⟨adx,hax,by omega,[.bool q0,.slice q1 q2 q3,.bool q4,.slice q5 q6 q7],rfl,fun O w' r i x hx=>?_,?_⟩
   ·obtain⟨k1,k2⟩:=hlx i x hx;rw[aF,cH (w:=w) (w2:=w') (by rw[dQ,dQ];exact(hw.tr r.cM).block _ (hS _ k1))];exact k2
   refine cE hw (fun _ w' v w2=>cP w2 (Nf w' w2) v (x+y*b)) (fun O w' r=>FW (Rel.old r hS) ((hFx.cG (kS hw r hS)).cI fun g hg=>Or.inl hg) (((hm.rel r (cB w)).l (by omega)).cI fun g hg=>Cv.false hg)) ?_;rintro O wa3 v3 wb3 iv3 r he hw h_ hn;replace hat:=hat.cF r (cB w) he (mC h_);clear hm;have hv1:=hn.c9 (S:=fun _=>False) r.cD (mN h_);clear r hn;obtain⟨s3_0,s3_1,s3_2,s3_3,s3_4,s3_5,s3_6,s3_7,rfl⟩:=hv1.shape;refine .inl ?_;refine⟨hfl,by omega,by unfold maxLen;omega,((css.length+1:Nat):Int),wo,?_⟩;intro ρ3 w3 r3;have hl3:(css++[[Value.bool s3_0,.slice s3_1 s3_2 s3_3,.bool s3_4,.slice s3_5 s3_6 s3_7]]).length=css.length+1:=by simp
   have hf3:(css++[[Value.bool s3_0,.slice s3_1 s3_2 s3_3,.bool s3_4,.slice s3_5 s3_6 s3_7]]).flatten=css.flatten++[Value.bool s3_0,.slice s3_1 s3_2 s3_3,.bool s3_4,.slice s3_5 s3_6 s3_7]:=by simp
   exact⟨(css++[[.bool s3_0,.slice s3_1 s3_2 s3_3,.bool s3_4,.slice s3_5 s3_6 s3_7]],w3,_),⟨by dsimp only;rw[hl3];exact hib,hw.tr r3.cM,zY h4 ⟨rfl,by intro u hu;simp at hu;rcases hu with rfl|rfl|rfl|rfl<;>rfl⟩,(hat.rel r3 (cB w)).push hpq (hv1.rel r3 (cB w)).pS⟩,
    Sub.gn [(1,4)] r3 ⟨by dsimp only;rw[hf3];rfl,rfl,trivial⟩ ⟨rfl,rfl,rfl,by dsimp only;rw[hl3];rfl,by dsimp only;rw[hl3];rfl,trivial⟩,by dsimp only;rw[hl3];omega⟩
  have hx0:¬0<xs.length:=by have:=aH hx0;omega
  rw[aK hx0]at hpq;refine cJ hτ db [.x 0,.x 1,.x 2,.x 3,.x 4,.p 6,.x 5,.x 6,.x 7] (by kernel_rfl) (by kernel_rfl) ?_;refine⟨ady,hay,by omega,[.bool p0,.slice p1 p2 p3,.bool p4,.slice p5 p6 p7],rfl,fun O w' r i x hx=>?_,?_⟩
  ·obtain⟨k1,k2⟩:=hly i x hx;rw[aF,cH (w:=w) (w2:=w') (by rw[dQ,dQ];exact(hw.tr r.cM).block _ (hS _ k1))];exact k2
  refine cE hw (fun _ w' v w2=>cP w2 (Nf w' w2) v (y*b)) (fun O w' r=>zR (oS hS r) (hFy.cG (kS hw r hS)) (hb.cG (kS hw r hS))) ?_;rintro O wa1 v1 wb1 iv1 r he hw h_ hn;replace hat:=hat.cF r (cB w) he (mC h_);have hm:=hn.c9 (S:=fun _=>False) r.cD (mN h_);clear r hn;obtain⟨s1_0,s1_1,s1_2,s1_3,s1_4,s1_5,s1_6,s1_7,rfl⟩:=hm.shape;refine dI.mk (fun hx1=>absurd (aI hx1) (by omega)) (fun hx1=>?_);refine .inl ?_;refine⟨hfl,by omega,by unfold maxLen;omega,((css.length+1:Nat):Int),wo,?_⟩;intro ρ3 w3 r3;have hl3:(css++[[Value.bool s1_0,.slice s1_1 s1_2 s1_3,.bool s1_4,.slice s1_5 s1_6 s1_7]]).length=css.length+1:=by simp
  have hf3:(css++[[Value.bool s1_0,.slice s1_1 s1_2 s1_3,.bool s1_4,.slice s1_5 s1_6 s1_7]]).flatten=css.flatten++[Value.bool s1_0,.slice s1_1 s1_2 s1_3,.bool s1_4,.slice s1_5 s1_6 s1_7]:=by simp
  exact⟨(css++[[.bool s1_0,.slice s1_1 s1_2 s1_3,.bool s1_4,.slice s1_5 s1_6 s1_7]],w3,_),⟨by dsimp only;rw[hl3];exact hib,hw.tr r3.cM,zY h4 ⟨rfl,by intro u hu;simp at hu;rcases hu with rfl|rfl|rfl|rfl<;>rfl⟩,(hat.rel r3 (cB w)).push hpq (hm.rel r3 (cB w)).pS⟩,
   Sub.gn [(1,4)] r3 ⟨by dsimp only;rw[hf3];rfl,rfl,trivial⟩ ⟨rfl,rfl,rfl,by dsimp only;rw[hl3];rfl,by dsimp only;rw[hl3];rfl,trivial⟩,by dsimp only;rw[hl3];omega⟩
 have hib:css.length=ys.length:=aR hi (by simpa using hib);intro ρe we re;have hone:∀u∈css.flatten,u.oneCell'=true:=fun u hu=>by
  obtain⟨cs,hc,hu⟩:=List.mem_flatten.1 hu;exact(h4 cs hc).2 u hu
 refine⟨_,rfl,hw.tr re.cM,?_,css,by rw[hpl,<-hib];exact x9 re (id:=1) rfl hfl (by decide),by rw[hpl];exact hib,h4,fun j cs q k1 k2=>((hat j cs q k1 k2).cG fun g hg=>Rel.same re (cB w) hg).cI fun g hg=>⟨Cv.nw hg re,fun e=>Rel.not re (cB w) hg 1 _ rfl (BD e).1 (BD e).2⟩⟩;refine⟨css,?_,by rw[hpl];exact hib,fun cs hc=>(h4 cs hc).1,fun j cs q k1 k2=>((hat j cs q k1 k2).cG fun g hg=>Rel.same re (cB w) hg).cI fun g hg=>Cv.nw hg re⟩;have:=re.iX (id:=1) (sz:=4) (m:=css.length) rfl hfl (by unfold maxLen;omega) (by decide) hone;rw[hpl,<-hib];exact this.cI fun g hg=>.inr hg
theorem CP{v t:Value}(hS:Old S w)(hx:cX w S v xs)(hy:cX w S u ys)(hb:eI w S t b)(hlen:xs=[]∨xs.length=ys.length)(hn:ys.length<=1000000)(hbound:∀y∈ys,rl y+rl b<=100000):
  dm PG N.rT #[v,u,t] w (eB w fun v' w2=>cO w2 (Nf w w2) v' (iT xs ys b)):=
 (JU hS hx hy hb hlen hn hbound).mono fun _ _ ⟨v2,e1,e2,e3,_⟩=>⟨v2,e1,e2,e3⟩
end Go.Ex
namespace Go.Ex
variable{M:List (List Rat)}{s:List (List Rat)×List Nat}
theorem xd{c r k R:Nat}(hk:r<=k)(hR:k<=R)(h:∀j,r<=j->j<k->dG M j c=0):gp M c (R-r) r=gp M c (R-k) k:=by
 induction k with
 |zero=>
  have:r=0:=by omega
  subst this;rfl
 |succ k ih=>
  rcases aQ k r with h1|h1
  ·have:r=k+1:=by omega
   subst this;rfl
  ·rw[ih h1 (by omega) fun j h2 h3=>h j h2 (by omega),show R-k=(R-(k+1))+1 by omega,EX (h k h1 (by omega))]
theorem BZ{a c i:Nat}{r:List Rat}(h:M[i]? =some r)(h0:r.getD c 0=0):dX M a c (i+1)=dX M a c i:=by
 unfold dX;refine bK fun j=>?_;rw[List.getElem?_mapIdx,List.getElem?_mapIdx];by_cases hj:j=i
 ·subst hj;rw[h];simp only[Option.map_some]
  by_cases ha:j=a
  ·rw[aK (by omega),aK (by omega)]
  ·rw[if_pos ⟨by omega,ha⟩,aK (by omega),h0];congr 1;refine bK fun k=>?_;rw[List.getElem?_mapIdx]
   cases r[k]? with
   |none=>rfl
   |some q=>simp[rH,bX]
 ·cases M[j]? with
  |none=>rfl
  |some r'=>
   simp only[Option.map_some]
   by_cases h2:j<i∧j≠a
   ·rw[if_pos ⟨by omega,h2.2⟩,if_pos h2]
   ·rw[aK (by omega),aK h2]
theorem fT{α:Type}{l:List α}{i:Nat}{x:α}(h:i<l.length):l.take i++[x]++l.drop (i+1)=l.set i x:=by
 rw[List.set_eq_take_append_cons_drop,if_pos h];simp
theorem xe{c:Nat}(h:¬s.2.length<s.1.length∨gp s.1 c (s.1.length-s.2.length) s.2.length=s.1.length):dW s c=s:=by
 unfold dW;split
 ·rcases h with h|h
  ·exact absurd ‹_› h
  ·dsimp only;rw[if_pos h]
 ·rfl
theorem xf{c k:Nat}(hk:s.2.length<=k)(hl:k<s.1.length)(h:∀j,s.2.length<=j->j<k->dG s.1 j c=0)(hn:dG s.1 k c≠0):
  dW s c=(dX (scaled (fC [] s.1 s.2.length k) s.2.length c) s.2.length c s.1.length,s.2++[c]):=by
 have e:gp s.1 c (s.1.length-s.2.length) s.2.length=k:=by
  rw[xd hk (by omega) h,show s.1.length-k=(s.1.length-k-1)+1 by omega,EY hn]
 unfold dW;rw[if_pos (by omega)];dsimp only
 rw[e,aK (by omega),qZ,jI]
theorem G3{c k:Nat}(hk:s.2.length<=k)(hl:k=s.1.length)(h:∀j,s.2.length<=j->j<k->dG s.1 j c=0):dW s c=s:=by
 refine xe (.inr ?_);rw[xd hk (by omega) h,hl,bM];rfl
end Go.Ex
namespace Go.Ex
open Go Go.Sx Go.Proofs
variable{qs x:List Rat}{i:Nat}{S:Nat->Prop}{u:Value}{w:World}
theorem HF(ys:List Rat)(b:Rat):iT [] ys b=ys.map (· *b):=by
 refine bK fun j=>?_;rcases aQ j ys.length with h|h
 ·rw[qH h,aK (by simp),aN,List.getD,aB h];rfl
 ·rw[List.getElem?_eq_none (by rw[jQ];exact h),List.getElem?_eq_none (by simp;exact h)]
theorem FG{xs ys:List Rat}(b:Rat)(h:xs.length=ys.length):iT xs ys b=xs.mapIdx (rH b ys):=by
 refine bK fun j=>?_;rw[List.getElem?_mapIdx];rcases aQ j ys.length with h1|h1
 ·rw[qH h1,if_pos (by omega),aB (by omega),List.getD,aB (show j<xs.length by omega)];simp[rH,bl]
 ·rw[List.getElem?_eq_none (by rw[jQ];exact h1),List.getElem?_eq_none (show xs.length<=j by omega)];rfl
theorem cO.l{v:Value}(h:cO w S v qs)(hq:∀q∈qs,rl q<=100000):cX w S v qs:=by
 obtain⟨css,h1,h2,h3,h4⟩:=h;refine⟨css,h1,h2,h3,fun j cs q k1 k2=>?_⟩;obtain⟨b,a,n,c,b2,a2,n2,c2,e,hc⟩:=h4 j cs q k1 k2;exact⟨b,a,n,c,b2,a2,n2,c2,e,hc.l (hq q (aD k2))⟩
theorem cX.nil(w:World)(S:Nat->Prop):cX w S (.slice none 0 0) []:=⟨[],⟨by simp,by simp,by simp,none,0,rfl,aG _,by simp⟩,rfl,by simp,by simp⟩
theorem HE{v:Value}{p q:Rat}(hS:Old S w)(hp:eI w S v p)(hq:eI w S u q)(h0:q≠0):
  dm PG N.uJ #[v,u] w (eB w fun v' w2=>∃r,v'= .tuple #[r,.int .i64 0]∧cP w2 (Nf w w2) r (p / q)):=
 (Ll hS hp hq).mono fun _ _ ⟨v2,e1,e2,e3⟩=>⟨v2,e1,e2,e3.elim (fun h=>absurd h.1 h0) fun h=>h.2⟩
def ky(w:World)(S:Nat->Prop)(rv:List Value)(M:List (List Rat)):Prop:=rv.length=M.length∧(∀u∈rv,u.oneCell'=true)∧∀(i:Nat) u r,rv[i]? =some u->M[i]? =some r->cX w S u r
section
variable{S S':Nat->Prop}{H:Hp}{nx:Nat}{iv iv':Iv}{B:Nat}{w w' w2:World}{O:Nat->Sx.df}{rv:List Value}{M:List (List Rat)}
theorem ky.rel(h:ky w (Cv S B iv) rv M)(r:Rel H nx iv B w O w')(hS:∀g,S g->g<B):ky w' (Cv S B iv) rv M:=⟨h.1,h.2.1,fun i u x h1 h2=>cX.rel (h.2.2 i u x h1 h2) r hS⟩
theorem ky.cF(h:ky w (Cv S B iv) rv M)(r:Rel H nx iv B w O w')(hS:∀g,S g->g<B)(he:Ext w' w2)(hm:∀p,p∈iv->p∈iv'):ky w2 (Cv S B iv') rv M:=⟨h.1,h.2.1,fun i u x h1 h2=>cX.cF (h.2.2 i u x h1 h2) r hS he hm⟩
theorem ky.set(h:ky w S rv M)(hu:u.oneCell'=true)(hx:cX w S u x):ky w S (rv.set i u) (M.set i x):=by
 refine⟨by simp[h.1],fun v hv=>?_,fun j v y h1 h2=>?_⟩
 ·rcases bI hv with h1|h1
  ·exact h.2.1 v h1
  ·rw[h1];exact hu
 ·rw[List.getElem?_set]at h1 h2;by_cases hj:i=j
  ·rw[if_pos hj]at h1 h2;split at h1
   ·split at h2
    ·injection h1 with h1;injection h2 with h2;subst h1 h2;exact hx
    ·cases h2
   ·cases h1
  ·rw[aK hj]at h1 h2;exact h.2.2 j v y h1 h2
theorem ky.get(h:ky w S rv M)(hi:i<M.length):∃u r,rv[i]? =some u∧M[i]? =some r∧cX w S u r:=by
 obtain⟨u,hu⟩:∃u,rv[i]? =some u:=⟨_,aB (by rw[h.1];exact hi)⟩
 obtain⟨r,hr⟩:∃r,M[i]? =some r:=⟨_,aB hi⟩
 exact⟨u,r,hu,hr,h.2.2 i u r hu hr⟩
end
end Go.Ex
namespace Go.Ex
variable{s:List (List Rat)×List Nat}
theorem eW(M:List (List Rat))(cols:Nat):(cN M cols).1.length=M.length:=by
 have key:∀(l:List Nat) (s:List (List Rat)×List Nat),(l.foldl dW s).1.length=s.1.length:=by
  intro l
  induction l with
  |nil=>exact fun s=>rfl
  |cons c l ih=>exact fun s=>by rw[List.foldl_cons,ih,nC]
 exact key _ _
theorem rI{M:List (List Rat)}{c:Nat}:∀f k j,k<=j->j<gp M c f k->dG M j c=0
 |0,k,j,h1,h2=>by simp only[gp]at h2;omega
 |f+1,k,j,h1,h2=>by
  unfold gp at h2;split at h2
  ·rename_i h0;rcases aQ k j with h|h
   ·exact rI f (k+1) j h h2
   ·rw[show j=k by omega];exact h0
  ·omega
theorem jg(c:Nat)(hle:s.2.length<=s.1.length):(dW s c=s∧∀j,s.2.length<=j->j<s.1.length->dG s.1 j c=0)∨
  ∃k,s.2.length<=k∧k<s.1.length∧dG s.1 k c≠0∧dW s c=(dX (scaled (fC [] s.1 s.2.length k) s.2.length c) s.2.length c s.1.length,s.2++[c]):=by
 have h1:=xg s.1 c (s.1.length-s.2.length) s.2.length;by_cases hk:gp s.1 c (s.1.length-s.2.length) s.2.length=s.1.length
 ·exact .inl ⟨xe (.inr hk),fun j hj hl=>rI (s.1.length-s.2.length) s.2.length j hj (by omega)⟩
 ·exact .inr ⟨_,h1.1,by omega,xh s.1 c _ _ (by omega),xf h1.1 (by omega) (fun j h2 h3=>rI _ _ j h2 h3) (xh s.1 c _ _ (by omega))⟩
theorem tx{p:Rat}{r s:List Rat}{c:Nat}(h:c<r.length):(r.mapIdx (rH p s)).getD c 0=r.getD c 0+p*s.getD c 0:=by
 simp only[List.getD,List.getElem?_mapIdx,aB h]
 rfl
theorem xj{r:List Rat}{k:Rat}{c:Nat}:(r.map (· *k)).getD c 0=r.getD c 0*k:=by
 simp only[List.getD,aN]
 cases r[c]? with
 |none=>exact(bG k).symm
 |some q=>rfl
theorem nD{c k n:Nat}(hl:fe n s.1)(h1:s.2.length<=k)(h2:k<s.1.length)(h3:dG s.1 k c≠0)(e:dW s c=(dX (scaled (fC [] s.1 s.2.length k) s.2.length c) s.2.length c s.1.length,s.2++[c])):
  (∀t,dG (dW s c).1 s.2.length t=dG s.1 k t*(1 / dG s.1 k c))∧
  ∀j,j<s.1.length->j≠s.2.length->∀t,t<n->dG (dW s c).1 j t=dG s.1 (if j=k then s.2.length else j) t+ -(dG s.1 (if j=k then s.2.length else j) c)*(dG s.1 k t*(1 / dG s.1 k c)):=by
 have hp:s.2.length<s.1.length:=by omega
 have hsw:dG (fC [] s.1 s.2.length k) s.2.length c=dG s.1 k c:=Cu hp h2;have hpiv:(scaled (fC [] s.1 s.2.length k) s.2.length c).getD s.2.length []=(s.1.getD k []).map (· *(1 / dG s.1 k c)):=by
  unfold scaled;rw[hsw,List.getD,aW (by rw[jI];exact hp)];simp only[Option.getD_some]
  congr 1;rw[List.getD,List.getD,A3 hp h2]
 have hrow:∀j,j<s.1.length->j≠s.2.length->(scaled (fC [] s.1 s.2.length k) s.2.length c)[j]? =some (s.1.getD (if j=k then s.2.length else j) []):=fun j hj hne=>by
  unfold scaled;rw[bA (Ne.symm hne)];unfold fC;by_cases hjk:j=k
  ·subst hjk;rw[aW (by simpa using hj),if_pos rfl]
  ·rw[bA (Ne.symm hjk),bA (Ne.symm hne),aK hjk,List.getD,aB hj];rfl
 have hgp:(dX (scaled (fC [] s.1 s.2.length k) s.2.length c) s.2.length c s.1.length).getD s.2.length []=(s.1.getD k []).map (· *(1 / dG s.1 k c)):=by
  rw[<-hpiv];simp only[List.getD,rJ]
 rw[e];refine⟨fun t=>?_,fun j hj hne t ht=>?_⟩
 ·show((dX (scaled (fC [] s.1 s.2.length k) s.2.length c) s.2.length c s.1.length).getD s.2.length []).getD t 0=_;rw[hgp,xj];rfl
 ·have hgj:(dX (scaled (fC [] s.1 s.2.length k) s.2.length c) s.2.length c s.1.length).getD j []=(s.1.getD (if j=k then s.2.length else j) []).mapIdx (rH (-((s.1.getD (if j=k then s.2.length else j) []).getD c 0)) ((s.1.getD k []).map (· *(1 / dG s.1 k c)))):=by
   simp only[List.getD,dX,List.getElem?_mapIdx,hrow j hj hne,Option.map_some,Option.getD_some]
   rw[if_pos ⟨hj,hne⟩];exact congrArg (fun P=>(s.1.getD (if j=k then s.2.length else j) []).mapIdx (rH (-((s.1.getD (if j=k then s.2.length else j) []).getD c 0)) P)) hpiv
  show((dX (scaled (fC [] s.1 s.2.length k) s.2.length c) s.2.length c s.1.length).getD j []).getD t 0=_;rw[hgj,tx (by rw[hl.getD (by split<;>omega)];exact ht),xj];rfl
theorem xl{x:Rat}(h:x≠0):x*(1 / x)=1:=by rw[bc,bu,Rat.mul_inv_cancel x h]
def Lp(n c:Nat)(s:List (List Rat)×List Nat):Prop:=fe n s.1∧s.2.length<=s.1.length∧(∀j t,s.2.length<=j->j<s.1.length->t<c->dG s.1 j t=0)∧(∀p∈s.2,p<c)∧
 ∀i j,i<s.2.length->j<s.1.length->dG s.1 j (s.2.getD i 0)=if j=i then 1 else 0
theorem Lp.step{n c:Nat}(h:Lp n c s)(hc:c<n):Lp n (c+1) (dW s c):=by
 obtain⟨hl,hle,hz,hpc,hu⟩:=h;rcases jg c hle with⟨e,h0⟩|⟨k,h1,h2,h3,e⟩
 ·rw[e];refine⟨hl,hle,fun j t hj hjl ht=>?_,fun p hp=>by have:=hpc p hp;omega,hu⟩;rcases aQ t c with h|h
  ·exact hz j t hj hjl h
  ·rw[show t=c by omega];exact h0 j hj hjl
 ·obtain⟨r1,r2⟩:=nD hl h1 h2 h3 e;have hlen:(dW s c).1.length=s.1.length:=nC s c;have e2:(dW s c).2=s.2++[c]:=by rw[e]
  have e3:(dW s c).2.length=s.2.length+1:=by rw[e2];simp
  have hone:∀j,j<s.1.length->j≠s.2.length->dG (dW s c).1 j c=0:=fun j hj hne=>by
   rw[r2 j hj hne c hc,xl h3,Rat.mul_one,Rat.add_neg_cancel]
  refine⟨hl.step,by rw[e3,hlen];omega,fun j t hj hjl ht=>?_,fun p hp=>?_,fun i j hi hj=>?_⟩
  ·rw[e3]at hj;rw[hlen]at hjl;rcases aQ t c with h|h
   ·rw[r2 j hjl (by omega) t (by omega),hz k t h1 h2 h,hz (if j=k then s.2.length else j) t (by split<;>omega) (by split<;>omega) h,bG,bC,Rat.zero_add]
   ·rw[show t=c by omega];exact hone j hjl (by omega)
  ·rw[e2]at hp;rcases bQ.1 hp with hp|hp
   ·have:=hpc p hp;omega
   ·rw[bD.1 hp];omega
  ·rw[e3]at hi;rw[hlen]at hj;rcases aQ i s.2.length with h|h
   ·have hg:(dW s c).2.getD i 0=s.2.getD i 0:=by rw[e2,List.getD,aM h,<-List.getD]
    have hpm:s.2.getD i 0<c:=hpc _ (by rw[List.getD,aB h];exact aX h);have hk0:dG s.1 k (s.2.getD i 0)=0:=hz k _ h1 h2 hpm;rw[hg];by_cases hjp:j=s.2.length
    ·rw[hjp,r1,hk0,bG,aK (by omega)]
    ·rw[r2 j hj hjp _ (by omega),hk0,bG,bC,bX];by_cases hjk:j=k
     ·rw[if_pos hjk,hu i _ h (by omega),aK (by omega),aK (by omega)]
     ·rw[aK hjk,hu i j h hj]
   ·have hg:(dW s c).2.getD i 0=c:=by rw[e2,List.getD,aO h,show i-s.2.length=0 by omega];rfl
    rw[hg];by_cases hjp:j=s.2.length
    ·rw[hjp,r1,xl h3,if_pos (by omega)]
    ·rw[hone j hj hjp,aK (by omega)]
theorem eA{M:List (List Rat)}{n:Nat}(hl:fe n M):∀cols,cols<=n->Lp n cols (cN M cols)
 |0,_=>⟨hl,aP _,fun _ _ _ _ h=>by omega,fun p hp=>(by cases hp),fun _ _ h=>(by cases h)⟩
 |c+1,h=>by
  have ih:=eA hl c (by omega);unfold cN at ih ⊢;rw[bN,List.foldl_append];exact ih.step (by omega)
abbrev Mx:=Nat->Nat->Rat
def skip(k j:Nat):Nat:=if j<k then j else j+1
def rM(k:Nat):Rat:=if k % 2=1 then -1 else 1
def cZ(f:Nat->Rat):Nat->Rat
 |0=>0
 |n+1=>cZ f n+f n
def fO:Nat->Mx->Rat
 |0,_=>1
 |n+1,m=>cZ (fun k=>rM k*(m 0 k*fO n fun i j=>m (i+1) (skip k j))) (n+1)
theorem cK{f g:Nat->Rat}:∀{n:Nat},(∀k,k<n->f k=g k)->cZ f n=cZ g n
 |0,_=>rfl
 |n+1,h=>by rw[cZ,cZ,cK fun k hk=>h k (by omega),h n (by omega)]
theorem dx:∀(n:Nat),cZ (fun _=>0) n=0
 |0=>rfl
 |n+1=>by rw[cZ,dx n,bX]
theorem fY(f g:Nat->Rat):∀(n:Nat),cZ (fun k=>f k+g k) n=cZ f n+cZ g n
 |0=>(bX 0).symm
 |n+1=>by rw[cZ,cZ,cZ,fY f g n];grind
theorem eN(p:Rat)(f:Nat->Rat):∀(n:Nat),cZ (fun k=>p*f k) n=p*cZ f n
 |0=>(bC p).symm
 |n+1=>by rw[cZ,cZ,eN p f n];grind
theorem mS(f:Nat->Rat)(n:Nat):cZ (fun k=> -f k) n= -cZ f n:=by
 have h:=eN (-1) f n;rw[show (-1:Rat)*cZ f n= -cZ f n by grind]at h;rw[<-h];exact cK fun k _=>by grind
theorem xt(f:Nat->Rat):∀(n:Nat),cZ f (n+1)=f 0+cZ (fun k=>f (k+1)) n
 |0=>by show 0+f 0=f 0+0;grind
 |n+1=>by rw[cZ,xt f n,cZ];grind
theorem F7{k j n:Nat}(h:j<n):skip k j<n+1:=by unfold skip;split<;>omega
theorem G4{k l:Nat}(h:k<=l)(j:Nat):skip k (skip l j)=skip (l+1) (skip k j):=by
 unfold skip;grind
theorem iB:∀{n:Nat} {m m':Mx},(∀i j,i<n->j<n->m i j=m' i j)->fO n m=fO n m'
 |0,_,_,_=>rfl
 |n+1,m,m',h=>by
  unfold fO;refine cK fun k hk=>?_;rw[h 0 k (by omega) hk,iB fun i j hi hj=>h (i+1) (skip k j) (by omega) (F7 hj)]
def gI(m:Mx)(r:Nat)(u:Nat->Rat):Mx:=fun i j=>if i=r then u j else m i j
theorem tz(m:Mx)(r k:Nat)(u:Nat->Rat):(fun i j=>gI m (r+1) u (i+1) (skip k j))=gI (fun i j=>m (i+1) (skip k j)) r fun j=>u (skip k j):=by
 funext i j
 unfold gI;by_cases h:i=r
 ·rw[if_pos h,if_pos (by omega)]
 ·rw[aK h,aK (by omega)]
theorem mT(p:Rat):∀(n r:Nat) (m:Mx),r<n->∀(u v:Nat->Rat),fO n (gI m r fun j=>u j+p*v j)=fO n (gI m r u)+p*fO n (gI m r v)
 |0,_,_,h,_,_=>by omega
 |n+1,0,m,_,u,v=>by
  unfold fO;rw[<-eN,<-fY];refine cK fun k _=>?_;have e:∀x:Nat->Rat,(fun i j=>gI m 0 x (i+1) (skip k j))=fun i j=>m (i+1) (skip k j):=fun x=>by
   funext i j;unfold gI;rw[aK (by omega)]
  rw[e,e,e];unfold gI;rw[if_pos rfl,if_pos rfl,if_pos rfl];grind
 |n+1,r+1,m,h,u,v=>by
  unfold fO;rw[<-eN,<-fY];refine cK fun k _=>?_;rw[tz,tz,tz,mT p n r _ (by omega) (fun j=>u (skip k j)) fun j=>v (skip k j)];have e:∀x:Nat->Rat,gI m (r+1) x 0 k=m 0 k:=fun x=>by unfold gI;rw[aK (by omega)]
  rw[e,e,e];grind
theorem xu{F:Nat->Nat->Rat}:∀{n:Nat},(∀k l,k<=l->l<n->F k l+F (l+1) k=0)->cZ (fun k=>cZ (F k) n) (n+1)=0
 |0,_=>by show 0+0=(0:Rat);grind
 |n+1,h=>by
  have ih:=xu (F:=F) (n:=n) fun k l h1 h2=>h k l h1 (by omega);have h3:cZ (fun k=>F k n+F (n+1) k) (n+1)=0:=by
   rw[cK (g:=fun _=>0) fun k hk=>h k n (by omega) (by omega),dx]
  rw[fY]at h3;rw[cZ];have h4:cZ (fun k=>cZ (F k) (n+1)) (n+1)=cZ (fun k=>cZ (F k) n) (n+1)+cZ (fun k=>F k n) (n+1):=by
   rw[<-fY];rfl
  rw[h4,ih,Rat.zero_add];exact h3
def vB(a b i:Nat):Nat:=if i=a then b else if i=b then a else i
theorem G5(r i:Nat):vB (r+1) (r+2) (i+1)=vB r (r+1) i+1:=by
 unfold vB;by_cases h:i=r
 ·rw[if_pos (by omega),if_pos h]
 ·rw[aK (by omega),aK h];by_cases h2:i=r+1
  ·rw[if_pos (by omega),if_pos h2]
  ·rw[aK (by omega),aK h2]
theorem Hf(k:Nat):rM (k+1)= -rM k:=by
 unfold rM;by_cases h:k % 2=1
 ·rw[if_pos h,aK (by omega)];grind
 ·rw[aK h,if_pos (by omega)]
theorem Cx(n:Nat)(m:Mx):fO (n+2) m=cZ (fun k=>cZ (fun l=>rM k*rM l*(m 0 k*m 1 (skip k l))*fO n fun i j=>m (i+2) (skip k (skip l j))) (n+1)) (n+2):=by
 rw[fO];refine cK fun k _=>?_;rw[fO,<-eN,<-eN];refine cK fun l _=>?_;grind
theorem xw:∀(n r:Nat) (m:Mx),r+1<n->fO n (fun i j=>m (vB r (r+1) i) j)= -fO n m
 |0,_,_,h=>by omega
 |1,_,_,h=>by omega
 |n+2,0,m,_=>by
  rw[Cx,Cx,<-mS];have key:cZ (fun k=>cZ (fun l=>rM k*rM l*(m 1 k*m 0 (skip k l))*(fO n fun i j=>m (i+2) (skip k (skip l j)))+rM k*rM l*(m 0 k*m 1 (skip k l))*fO n fun i j=>m (i+2) (skip k (skip l j))) (n+1)) (n+2)=0:=by
   refine xu fun k l h1 h2=>?_;have e1:skip k l=l+1:=by unfold skip;rw[aK (by omega)]
   have e2:skip (l+1) k=k:=by unfold skip;rw[if_pos (by omega)]
   have e3:(fun i j=>m (i+2) (skip (l+1) (skip k j)))=fun i j=>m (i+2) (skip k (skip l j)):=by
    funext i j;rw[G4 h1]
   rw[e1,e2,e3,Hf];grind
  have h4:cZ (fun k=>cZ (fun l=>rM k*rM l*(m 1 k*m 0 (skip k l))*(fO n fun i j=>m (i+2) (skip k (skip l j)))+rM k*rM l*(m 0 k*m 1 (skip k l))*fO n fun i j=>m (i+2) (skip k (skip l j))) (n+1)) (n+2)=
    cZ (fun k=>cZ (fun l=>rM k*rM l*(m 1 k*m 0 (skip k l))*fO n fun i j=>m (i+2) (skip k (skip l j))) (n+1)) (n+2)+cZ (fun k=>cZ (fun l=>rM k*rM l*(m 0 k*m 1 (skip k l))*fO n fun i j=>m (i+2) (skip k (skip l j))) (n+1)) (n+2):=by
   rw[<-fY];exact cK fun k _=>fY _ _ _
  rw[h4]at key;have h5:cZ (fun k=> -cZ (fun l=>rM k*rM l*(m 0 k*m 1 (skip k l))*fO n fun i j=>m (i+2) (skip k (skip l j))) (n+1)) (n+2)= -cZ (fun k=>cZ (fun l=>rM k*rM l*(m 0 k*m 1 (skip k l))*fO n fun i j=>m (i+2) (skip k (skip l j))) (n+1)) (n+2):=mS _ _;rw[h5];have h6:cZ (fun k=>cZ (fun l=>rM k*rM l*(m (vB 0 1 0) k*m (vB 0 1 1) (skip k l))*fO n fun i j=>m (vB 0 1 (i+2)) (skip k (skip l j))) (n+1)) (n+2)=cZ (fun k=>cZ (fun l=>rM k*rM l*(m 1 k*m 0 (skip k l))*fO n fun i j=>m (i+2) (skip k (skip l j))) (n+1)) (n+2):=by
   refine cK fun k _=>cK fun l _=>?_;have e:∀i,vB 0 1 (i+2)=i+2:=fun i=>by unfold vB;rw[aK (by omega),aK (by omega)]
   simp only[e]
   rfl
  rw[show (0:Nat)+1=1 from rfl,h6];grind
 |n+2,r+1,m,h=>by
  rw[fO,fO,<-mS];refine cK fun k _=>?_;have e:(fun i j=>m (vB (r+1) (r+1+1) (i+1)) (skip k j))=fun i j=>m (vB r (r+1) i+1) (skip k j):=by
   funext i j
   rw[show r+1+1=r+2 from rfl,G5]
  have ih:fO (n+1) (fun i j=>m (vB r (r+1) i+1) (skip k j))= -fO (n+1) fun i j=>m (i+1) (skip k j):=xw (n+1) r (fun i j=>m (i+1) (skip k j)) (by omega);rw[e,ih];rw[show vB (r+1) (r+1+1) 0=0 by unfold vB;rw[aK (by omega),aK (by omega)]];grind
theorem nG:∀(k n:Nat) (m:Mx),k+1<n->(∀j,j<n->m 0 j=m (k+1) j)->fO n m=0
 |0,n,m,h,he=>by
  have h1:=xw n 0 m h;rw[iB (m':=m) fun i j hi hj=>?_]at h1
  ·grind
  ·unfold vB;by_cases h0:i=0
   ·rw[if_pos h0,h0];exact(he j hj).symm
   ·rw[aK h0];by_cases h2:i=1
    ·rw[if_pos h2,h2];exact he j hj
    ·rw[aK h2]
 |k+1,n,m,h,he=>by
  have h1:=xw n (k+1) m h;rw[nG k n _ (by omega) fun j hj=>?_]at h1
  ·grind
  ·rw[show vB (k+1) (k+1+1) 0=0 by unfold vB;rw[aK (by omega),aK (by omega)],show vB (k+1) (k+1+1) (k+1)=k+1+1 by unfold vB;rw[if_pos rfl]];exact he j hj
theorem Cy(m:Mx)(r:Nat):gI m r (m r)=m:=by
 funext i j
 unfold gI;by_cases h:i=r
 ·rw[if_pos h,h]
 ·rw[aK h]
theorem G6{n k:Nat}{m:Mx}(h:k+1<n):fO n (fun i j=>m (vB 0 (k+1) i) j)= -fO n m:=by
 have z:∀u:Nat->Rat,fO n (gI (gI m 0 u) (k+1) u)=0:=fun u=>nG k n _ h fun j _=>by
  unfold gI;rw[aK (by omega),if_pos rfl,if_pos rfl]
 have cm:∀u v:Nat->Rat,gI (gI m 0 u) (k+1) v=gI (gI m (k+1) v) 0 u:=fun u v=>by
  funext i j;unfold gI
  by_cases h1:i=k+1
  ·rw[if_pos h1,aK (by omega),if_pos h1]
  ·rw[aK h1,aK h1]
 have l1:∀u v x:Nat->Rat,fO n (gI (gI m 0 u) (k+1) fun j=>v j+1*x j)=fO n (gI (gI m 0 u) (k+1) v)+1*fO n (gI (gI m 0 u) (k+1) x):=fun u v x=>mT 1 n (k+1) _ h v x;have l2:∀u v x:Nat->Rat,fO n (gI (gI m 0 fun j=>v j+1*x j) (k+1) u)=fO n (gI (gI m 0 v) (k+1) u)+1*fO n (gI (gI m 0 x) (k+1) u):=fun u v x=>by
  rw[cm,cm,cm];exact mT 1 n 0 _ (by omega) v x
 have h1:=z fun j=>m 0 j+1*m (k+1) j;rw[l1,l2,l2,z,z]at h1;have e1:gI (gI m 0 (m 0)) (k+1) (m (k+1))=m:=by rw[Cy,Cy]
 have e2:gI (gI m 0 (m (k+1))) (k+1) (m 0)=fun i j=>m (vB 0 (k+1) i) j:=by
  funext i j;unfold gI vB
  by_cases h1:i=k+1
  ·rw[if_pos h1,aK (by omega),if_pos h1]
  ·rw[aK h1];by_cases h0:i=0
   ·rw[if_pos h0,if_pos h0]
   ·rw[aK h0,aK h0,aK h1]
 rw[e1,e2]at h1;grind
theorem pq(f:Nat->Rat)(p:Rat)(n:Nat):cZ (fun k=>f k*p) n=cZ f n*p:=by
 rw[bl,<-eN];exact cK fun k _=>bl ..
theorem Cz(f g:Nat->Rat):∀(n:Nat),cZ (fun k=>f k-g k) n=cZ f n-cZ g n
 |0=>by show(0:Rat)=0-0;grind
 |n+1=>by rw[cZ,cZ,cZ,Cz f g n];grind
theorem fP{f:Nat->Rat}{i:Nat}:∀{n:Nat},i<n->(∀k,k<n->k≠i->f k=0)->cZ f n=f i
 |0,h,_=>by omega
 |n+1,h,hz=>by
  rw[cZ];rcases aQ i n with h1|h1
  ·rw[fP h1 fun k hk hne=>hz k (by omega) hne,hz n (by omega) (by omega),bX]
  ·obtain rfl:i=n:=by omega
   rw[cK (g:=fun _=>0) fun k hk=>hz k (by omega) (by omega),dx,Rat.zero_add]
theorem sq_nonneg(x:Rat):0<=x*x:=by
 rcases Rat.le_total (a:=0) (b:=x)with h|h
 ·exact Rat.mul_nonneg h h
 ·have:=Rat.mul_nonneg (show 0<= -x by grind) (show 0<= -x by grind);grind
end Go.Ex
namespace Go.Ex
open Go Go.Sx Go.Proofs
variable{M:List (List (Int×Int))}{S:Nat->Prop}
theorem FI{w:World}{v:Value}(hS:Old S w)(h:jN w S v M):dm PG N.qi #[v] w (eB w fun v' _=>v'= .int .i64 (gv M)):=by
 have hn:=h;obtain⟨a,c,rfl,hc,hm⟩:=de.shape h;refine uX (by simp) ?_
 cases M with
 |nil=>
  intro ρe we re;exact⟨_,rfl,re.cM,rfl⟩
 |cons r t=>
  obtain⟨ad,u,rfl,hu,h1,h2⟩:=de.load h (j:=0) (x:=r) rfl;obtain⟨a2,c2,rfl⟩:=de.JF hu;refine⟨ad,rfl,⟨by omega,by simp⟩,.slice a2 r.length c2,fun O w' r'=>by simpa using jX hS cV.refl r' h1 (by simpa using h2),?_⟩;intro ρe we re;exact⟨_,rfl,re.cM,rfl⟩
end Go.Ex
