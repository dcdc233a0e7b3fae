/- A part of the proof: texts X62 to X105. Each tells its conditions in its theorems. -/
import Derived.Test.YtkdcaknoaeicdaaGreatP5
import Derived.Test.YtkdcaknoaeicdaaGreatP6
namespace Go.Ex
open Go Go.Sx Go.Proofs
variable{y:Int}{css:List (List Value)}{xs ys:List Rat}{cs:List Value}{S:Nat->Prop}{O:Nat->Sx.dU}{a:Option Addr}{b p q:Rat}{u:Value}{w:World}
theorem iP{v:Value}{k l:Nat}{x:Int}(hS:Old S w)(hx:fC w S v k x)(hy:fC w S u l y)(hk:k<=1000000)(hl:l<=1000000)(h0:y≠0):
  du PG N.nD #[v,u] w (eD w fun v' w2=>∃q r,v'= .tuple #[q,r,.int .i64 0]∧cw w2 (Nf w w2) q (x / y)∧cw w2 (Nf w w2) r (x % y)):=
 (GV hS hx hy hk hl).mono fun _ _ ⟨v2,e1,e2,e3⟩=>⟨v2,e1,e2,e3.elim (fun h=>absurd h.1 h0) fun h=>h.2⟩
theorem K4(x:Nat){y:Nat}(h:y≠0):ln (Nat.gcd x y)<=ln y:=ee (Nat.le_of_dvd (by omega) (Nat.gcd_dvd_right x y))
theorem EV{a b:Int}(hb:b≠0):a / (b.sign*(Nat.gcd a.natAbs b.natAbs:Nat))=(Rat.divInt a b).num∧b / (b.sign*(Nat.gcd a.natAbs b.natAbs:Nat))=((Rat.divInt a b).den:Int):=by
 obtain⟨h1,h2⟩:=A6 (a:=a) hb;have d1:((Nat.gcd a.natAbs b.natAbs:Nat):Int) ∣ a:=Int.ofNat_dvd_left.2 (Nat.gcd_dvd_left _ _);have d2:((Nat.gcd a.natAbs b.natAbs:Nat):Int) ∣ b:=Int.ofNat_dvd_left.2 (Nat.gcd_dvd_right _ _);have sg:b.sign=1∨b.sign= -1:=by rcases fY b with h|h|h<;>omega
 have key:∀c:Int,((Nat.gcd a.natAbs b.natAbs:Nat):Int) ∣ c->b.sign*(Nat.gcd a.natAbs b.natAbs:Nat) ∣ c:=fun c hc=>by
  rcases sg with h|h<;>rw[h]
  ·rw[Int.one_mul];exact hc
  ·rw[Int.neg_one_mul];exact Int.neg_dvd.2 hc
 rw[<-h1,<-h2,Int.tdiv_eq_ediv_of_dvd (key a d1),Int.tdiv_eq_ediv_of_dvd (key b d2)];exact⟨rfl,rfl⟩
theorem A9{v:Value}{k l:Nat}{x:Int}(hS:Old S w)(hx:fC w S v k x)(hy:fC w S u l y)(hk:k<=1000000)(hl:l<=1000000):
  du PG N.sJ #[v,u] w (eD w fun v' w2=>cw w2 (Nf w w2) v' ((Nat.gcd x.natAbs y.natAbs:Nat):Int)):=by
 have hw:cQ w.heap.size w w:=cQ.refl;replace hx:=hx.cC (S':=Cv S w.heap.size []) fun _ h=>.inl h;replace hy:=hy.cC (S':=Cv S w.heap.size []) fun _ h=>.inl h;obtain⟨b1,a1,n1,c1,rfl⟩:=hx.shape;obtain⟨b2,a2,n2,c2,rfl⟩:=hy.shape;refine vP (by simp) ?_;have hlx:=hx.ln;have hly:=hy.ln;refine cD hτ df [.x 0,.x 2,.x 1,.x 3,.x 4,.x 5] (by kernel_rfl) (by kernel_rfl) ?_;refine cE hw (fun _ w' v w2=>cw w2 (Nf w' w2) v ((x.natAbs:Int))) (fun O w' r=>wM (Rel.old r hS) (hx.rel r hS) (by omega)) ?_;rintro O wa1 v1 wb1 iv1 r he hw h_ hn;clear hx;replace hy:=hy.bz r hS he (mC h_);have ha:=hn.dB (S:=fun _=>False) r.bw (mN h_);clear r;obtain⟨s1_0,s1_1,s1_2,s1_3,rfl⟩:=ha.shape;refine cE hw (fun _ w' v w2=>cw w2 (Nf w' w2) v ((y.natAbs:Int))) (fun O w' r=>wM (Rel.old r hS) (hy.rel r hS) (by omega)) ?_;rintro O wa2 v2 wb2 iv2 r he hw h_ hn;clear hy;replace ha:=ha.bz r (bs w) he (mC h_);have hc:=hn.dB (S:=fun _=>False) r.bw (mN h_);clear r;obtain⟨s2_0,s2_1,s2_2,s2_3,rfl⟩:=hc.shape
 refine⟨Nat×Nat×(Bool×Option Addr×Nat×Nat)×(Bool×Option Addr×Nat×Nat)×World×Iv,fun z=>⟨[(2,.o (.p 0 0)),(3,.o (.p 1 0)),(4,.o (.p 2 0))],[(2,.box T.Int [.v (.bool false),.v (.slice none 0 0)]),(1,.box T.Int [.v (.bool z.2.2.2.1.1),.v (.slice z.2.2.2.1.2.1 z.2.2.2.1.2.2.1 z.2.2.2.1.2.2.2)]),(0,.box T.Int [.v (.bool z.2.2.1.1),.v (.slice z.2.2.1.2.1 z.2.2.1.2.2.1 z.2.2.1.2.2.2)])],3,z.2.2.2.2.2,z.2.2.2.2.1⟩,fun z=>z.2.1,
  fun z=>Nat.gcd z.1 z.2.1=Nat.gcd x.natAbs y.natAbs∧ln z.1<=1000000∧ln z.2.1<=1000000∧cQ w.heap.size w z.2.2.2.2.1∧cw z.2.2.2.2.1 (Cf w z.2.2.2.2.2) (.agg #[.bool z.2.2.1.1,.slice z.2.2.1.2.1 z.2.2.1.2.2.1 z.2.2.1.2.2.2]) (z.1:Int)∧cw z.2.2.2.2.1 (Cf w z.2.2.2.2.2) (.agg #[.bool z.2.2.2.1.1,.slice z.2.2.2.1.2.1 z.2.2.2.1.2.2.1 z.2.2.2.1.2.2.2]) (z.2.1:Int),?_,?_⟩
 ·intro O w' r
  exact⟨(x.natAbs,y.natAbs,(s1_0,s1_1,s1_2,s1_3),(s2_0,s2_1,s2_2,s2_3),w',iv2),⟨rfl,by dsimp only;omega,by dsimp only;omega,hw.tr r.cI,ha.rel r (bs w),hc.rel r (bs w)⟩,
   Sub.gn [] r⟩
 clear hw ha hc;rintro⟨a,b,⟨ba,aa,na,ca⟩,⟨bb,ab,nb,cb⟩,w1,iv⟩ ⟨hg,hla,hlb,hw,ha,hc⟩;dsimp only at hg hla hlb hw ha hc ⊢;refine bu (cE hw (fun _ w' v w2=>v= .int .i64 (b:Int).sign) (fun O w' r=>fy (Rel.old r (bs w)) (hc.rel r (bs w)).r) ?_);rintro O wa3 v3 wb3 iv3 r he hw h_ rfl;replace ha:=ha.bz r (bs w) he (mC h_);replace hc:=hc.bz r (bs w) he (mC h_);clear r;have sb:=fY (b:Int);refine dH.mk (fun h=>?_) (fun h=>?_)
 ·have h:=aH h;have hb0:0<b:=by omega
  have hm:=bo a hb0;have hlm:ln (a % b)<=1000000:=ah (ee (by omega)) hlb;refine bu (cE hw (fun _ w' v w2=>∃q r,v= .tuple #[q,r,.int .i64 0]∧cw w2 (Nf w' w2) q ((a:Int) / b)∧cw w2 (Nf w' w2) r ((a:Int) % b)) (fun O w' r=>iP (Rel.old r (bs w)) ((ha.rel r (bs w)).l (k:=1000000) hla) ((hc.rel r (bs w)).l (k:=1000000) hlb) (by omega) (by omega) (by omega)) ?_);rintro O wa4 v4 wb4 iv4 r he hw h_ ⟨q,rr,rfl,k1,k2⟩;clear ha;replace hc:=hc.bz r (bs w) he (mC h_);have hq:=k1.dB (S:=fun _=>False) r.bw (mN h_);have hr:=k2.dB (S:=fun _=>False) r.bw (mN h_);clear r;obtain⟨s4_0a,s4_0b,s4_0c,s4_0d,rfl⟩:=hq.shape;obtain⟨s4_1a,s4_1b,s4_1c,s4_1d,rfl⟩:=hr.shape;clear k1 k2 hq;refine gz hτ df (.two 0 (.two 1 (.one 2 (.one 3 .nil)) 2 (.one 1 (.one 3 .nil))) 1 (.one 0 (.one 2 (.one 3 .nil)))) (by kernel_rfl) ?_;refine⟨?_,?_⟩
  ·conv=>whnf
   refine⟨?_,?_⟩
   ·conv=>whnf
    intro ρ3 w3 r3;exact⟨(b,a % b,(bb,ab,nb,cb),(s4_1a,s4_1b,s4_1c,s4_1d),w3,_),⟨by dsimp only;rw[<-hg,Nat.gcd_comm a b,Nat.gcd_rec b a,Nat.gcd_comm],hlb,hlm,hw.tr r3.cI,hc.rel r3 (bs w),hr.rel r3 (bs w)⟩,Sub.gn [] r3,hm⟩
   ·conv=>whnf
    intro ρ3 w3 r3;exact⟨(b,a % b,(bb,ab,nb,cb),(s4_1a,s4_1b,s4_1c,s4_1d),w3,_),⟨by dsimp only;rw[<-hg,Nat.gcd_comm a b,Nat.gcd_rec b a,Nat.gcd_comm],hlb,hlm,hw.tr r3.cI,hc.rel r3 (bs w),hr.rel r3 (bs w)⟩,Sub.gn [] r3,hm⟩
  ·conv=>whnf
   intro ρ3 w3 r3;exact⟨(b,a % b,(bb,ab,nb,cb),(s4_1a,s4_1b,s4_1c,s4_1d),w3,_),⟨by dsimp only;rw[<-hg,Nat.gcd_comm a b,Nat.gcd_rec b a,Nat.gcd_comm],hlb,hlm,hw.tr r3.cI,hc.rel r3 (bs w),hr.rel r3 (bs w)⟩,Sub.gn [] r3,hm⟩
 have h:=aG h;obtain rfl:b=0:=by omega
 rw[Nat.gcd_zero_right]at hg;subst hg;clear hc;intro ρe we re;exact⟨_,rfl,hw.tr re.cI,ha.out re (bs w)⟩
theorem nT{v:Value}{k l:Nat}{x:Int}(hS:Old S w)(hx:fC w S v k x)(hy:fC w S u l y)(hk:k<=1000000)(hl:l<=1000000)(hy0:y≠0):
  du PG N.qj #[v,u] w (eD w fun v' w2=>cP w2 (Nf w w2) v' (Rat.divInt x y)):=by
 have hw:cQ w.heap.size w w:=cQ.refl;replace hx:=hx.cC (S':=Cv S w.heap.size []) fun _ h=>.inl h;replace hy:=hy.cC (S':=Cv S w.heap.size []) fun _ h=>.inl h;obtain⟨b1,a1,n1,c1,rfl⟩:=hx.shape;obtain⟨b2,a2,n2,c2,rfl⟩:=hy.shape;refine qJ (by simp) ?_;have hlx:=hx.ln;have hly:=hy.ln;have hlg:=K4 x.natAbs (y:=y.natAbs) (by omega);obtain⟨hn,hd⟩:=EV (a:=x) hy0;have sy:=fY y
 refine bu (cE hw (fun _ w' v w2=>∃n p,v= .tuple #[.int .i64 n,.bool p]∧(p=true->n=x∧x.natAbs<1073741824)) (fun O w' r=>(mW (Rel.old r hS) (hx.rel r hS).r).mono fun e w2 ⟨v2,e1,e2,e3⟩=>⟨v2,e1,e2,by
   rw[e3,jQ];split
   ·exact⟨_,_,rfl,fun _=>⟨rfl,‹_›⟩⟩
   ·exact⟨_,_,rfl,fun h=>by cases h⟩⟩) ?_)
 rintro O wa1 v1 wb1 iv1 r he hw h_ ⟨nx,px,rfl,qx⟩;replace hx:=hx.bz r hS he (mC h_);replace hy:=hy.bz r hS he (mC h_);clear r
 refine bu (cE hw (fun _ w' v w2=>∃n p,v= .tuple #[.int .i64 n,.bool p]∧(p=true->n=y∧y.natAbs<1073741824)) (fun O w' r=>(mW (Rel.old r hS) (hy.rel r hS).r).mono fun e w2 ⟨v2,e1,e2,e3⟩=>⟨v2,e1,e2,by
   rw[e3,jQ];split
   ·exact⟨_,_,rfl,fun _=>⟨rfl,‹_›⟩⟩
   ·exact⟨_,_,rfl,fun h=>by cases h⟩⟩) ?_)
 rintro O wa2 v2 wb2 iv2 r he hw h_ ⟨ny,py,rfl,qy⟩;replace hx:=hx.bz r hS he (mC h_);replace hy:=hy.bz r hS he (mC h_);clear r;refine dH.mk (fun h1=>?_) (fun h1=>?_)
 ·obtain⟨e1,hxs⟩:=qx h1;replace e1:=e1.symm;subst e1;refine dH.mk (fun h2=>?_) (fun h2=>?_)
  ·obtain⟨e2,hys⟩:=qy h2;replace e2:=e2.symm;subst e2;clear hx hy;refine bu (cE hw (fun _ w' v w2=>cP w2 (Nf w' w2) v (Rat.divInt x y)) (fun O w' r=>pZ x y w' (by omega) (by omega) hy0) ?_);rintro O wa3 v3 wb3 iv3 r he hw h_ hn;have hR:=hn.dB (S:=fun _=>False) r.bw (mN h_);clear r hn;obtain⟨s3_0,s3_1,s3_2,s3_3,s3_4,s3_5,s3_6,s3_7,rfl⟩:=hR.shape;intro ρe we re;exact⟨_,rfl,hw.tr re.cI,hR.out re (bs w)⟩
  refine bu (cE hw (fun _ w' v w2=>cw w2 (Nf w' w2) v (((Nat.gcd x.natAbs y.natAbs:Nat):Int))) (fun O w' r=>A9 (Rel.old r hS) (hx.rel r hS) (hy.rel r hS) hk hl) ?_);rintro O wa3 v3 wb3 iv3 r he hw h_ hn;replace hx:=hx.bz r hS he (mC h_);replace hy:=hy.bz r hS he (mC h_);have hg:=hn.dB (S:=fun _=>False) r.bw (mN h_);clear r hn;obtain⟨s3_0,s3_1,s3_2,s3_3,rfl⟩:=hg.shape;refine bu (cE hw (fun _ w' v w2=>v= .int .i64 y.sign) (fun O w' r=>fy (Rel.old r hS) (hy.rel r hS).r) ?_);rintro O wa4 v4 wb4 iv4 r he hw h_ rfl;replace hx:=hx.bz r hS he (mC h_);replace hy:=hy.bz r hS he (mC h_);replace hg:=hg.bz r (bs w) he (mC h_);clear r;have hgp:0<Nat.gcd x.natAbs y.natAbs:=bg _ (by omega);generalize Nat.gcd x.natAbs y.natAbs=g at*
  refine dH.mk (fun hs=>?_) (fun hs=>?_)
  ·have hs:=aH hs;rw[show y.sign= -1 by omega,Int.neg_one_mul]at hn hd;refine bu (cE hw (fun _ w' v w2=>cw w2 (Nf w' w2) v (-(g:Int))) (fun O w' r=>mX (Rel.old r (bs w)) ((hg.rel r (bs w)).l (k:=1000000) (by rw[Int.natAbs_natCast];omega)) (by omega)) ?_);rintro O wa5 v5 wb5 iv5 r he hw h_ hn;replace hx:=hx.bz r hS he (mC h_);replace hy:=hy.bz r hS he (mC h_);clear hg;have hg2:=hn.dB (S:=fun _=>False) r.bw (mN h_);clear r hn;obtain⟨s5_0,s5_1,s5_2,s5_3,rfl⟩:=hg2.shape;refine bu (cE hw (fun _ w' v w2=>∃q r,v= .tuple #[q,r,.int .i64 0]∧cw w2 (Nf w' w2) q (Rat.divInt x y).num∧cw w2 (Nf w' w2) r (x % (-(g:Int)))) (fun O w' r=>hn▸iP (Rel.old r hS) (hx.rel r hS) ((((hg2.rel r (bs w)).l (k:=1000000) (by rw[Int.natAbs_neg,Int.natAbs_natCast];omega))).cC fun g hg=>Cv.false hg) hk (by omega) (by omega)) ?_);rintro O wa6 v6 wb6 iv6 r he hw h_ ⟨q,rr,rfl,k1,k2⟩;clear hx;replace hy:=hy.bz r hS he (mC h_);replace hg2:=hg2.bz r (bs w) he (mC h_);have hq:=k1.dB (S:=fun _=>False) r.bw (mN h_);have hr:=k2.dB (S:=fun _=>False) r.bw (mN h_);clear r;obtain⟨s6_0a,s6_0b,s6_0c,s6_0d,rfl⟩:=hq.shape;obtain⟨s6_1a,s6_1b,s6_1c,s6_1d,rfl⟩:=hr.shape;clear k1 k2 hr;refine bu (cE hw (fun _ w' v w2=>∃q r,v= .tuple #[q,r,.int .i64 0]∧cw w2 (Nf w' w2) q ((Rat.divInt x y).den:Int)∧cw w2 (Nf w' w2) r (y % (-(g:Int)))) (fun O w' r=>hd▸iP (Rel.old r hS) (hy.rel r hS) ((((hg2.rel r (bs w)).l (k:=1000000) (by rw[Int.natAbs_neg,Int.natAbs_natCast];omega))).cC fun g hg=>Cv.false hg) hl (by omega) (by omega)) ?_);rintro O wa7 v7 wb7 iv7 r he hw h_ ⟨q,rr,rfl,k1,k2⟩;clear hy;clear hg2;replace hq:=hq.bz r (bs w) he (mC h_);have hq2:=k1.dB (S:=fun _=>False) r.bw (mN h_);have hr:=k2.dB (S:=fun _=>False) r.bw (mN h_);clear r;obtain⟨s7_0a,s7_0b,s7_0c,s7_0d,rfl⟩:=hq2.shape;obtain⟨s7_1a,s7_1b,s7_1c,s7_1d,rfl⟩:=hr.shape;clear k1 k2 hr;intro ρe we re;exact⟨_,rfl,hw.tr re.cI,(cP.of hq hq2).out re (bs w)⟩
  have hs:=aG hs;rw[show y.sign=1 by omega,Int.one_mul]at hn hd;refine bu (cE hw (fun _ w' v w2=>∃q r,v= .tuple #[q,r,.int .i64 0]∧cw w2 (Nf w' w2) q (Rat.divInt x y).num∧cw w2 (Nf w' w2) r (x % ((g:Int)))) (fun O w' r=>hn▸iP (Rel.old r hS) (hx.rel r hS) ((((hg.rel r (bs w)).l (k:=1000000) (by rw[Int.natAbs_natCast];omega))).cC fun g hg=>Cv.false hg) hk (by omega) (by omega)) ?_);rintro O wa5 v5 wb5 iv5 r he hw h_ ⟨q,rr,rfl,k1,k2⟩;clear hx;replace hy:=hy.bz r hS he (mC h_);replace hg:=hg.bz r (bs w) he (mC h_);have hq:=k1.dB (S:=fun _=>False) r.bw (mN h_);have hr:=k2.dB (S:=fun _=>False) r.bw (mN h_);clear r;obtain⟨s5_0a,s5_0b,s5_0c,s5_0d,rfl⟩:=hq.shape;obtain⟨s5_1a,s5_1b,s5_1c,s5_1d,rfl⟩:=hr.shape;clear k1 k2 hr;refine bu (cE hw (fun _ w' v w2=>∃q r,v= .tuple #[q,r,.int .i64 0]∧cw w2 (Nf w' w2) q ((Rat.divInt x y).den:Int)∧cw w2 (Nf w' w2) r (y % ((g:Int)))) (fun O w' r=>hd▸iP (Rel.old r hS) (hy.rel r hS) ((((hg.rel r (bs w)).l (k:=1000000) (by rw[Int.natAbs_natCast];omega))).cC fun g hg=>Cv.false hg) hl (by omega) (by omega)) ?_);rintro O wa6 v6 wb6 iv6 r he hw h_ ⟨q,rr,rfl,k1,k2⟩;clear hy;clear hg;replace hq:=hq.bz r (bs w) he (mC h_);have hq2:=k1.dB (S:=fun _=>False) r.bw (mN h_);have hr:=k2.dB (S:=fun _=>False) r.bw (mN h_);clear r;obtain⟨s6_0a,s6_0b,s6_0c,s6_0d,rfl⟩:=hq2.shape;obtain⟨s6_1a,s6_1b,s6_1c,s6_1d,rfl⟩:=hr.shape;clear k1 k2 hr;intro ρe we re;exact⟨_,rfl,hw.tr re.cI,(cP.of hq hq2).out re (bs w)⟩
 refine bu (cE hw (fun _ w' v w2=>cw w2 (Nf w' w2) v (((Nat.gcd x.natAbs y.natAbs:Nat):Int))) (fun O w' r=>A9 (Rel.old r hS) (hx.rel r hS) (hy.rel r hS) hk hl) ?_);rintro O wa3 v3 wb3 iv3 r he hw h_ hn;replace hx:=hx.bz r hS he (mC h_);replace hy:=hy.bz r hS he (mC h_);have hg:=hn.dB (S:=fun _=>False) r.bw (mN h_);clear r hn;obtain⟨s3_0,s3_1,s3_2,s3_3,rfl⟩:=hg.shape;refine bu (cE hw (fun _ w' v w2=>v= .int .i64 y.sign) (fun O w' r=>fy (Rel.old r hS) (hy.rel r hS).r) ?_);rintro O wa4 v4 wb4 iv4 r he hw h_ rfl;replace hx:=hx.bz r hS he (mC h_);replace hy:=hy.bz r hS he (mC h_);replace hg:=hg.bz r (bs w) he (mC h_);clear r;have hgp:0<Nat.gcd x.natAbs y.natAbs:=bg _ (by omega);generalize Nat.gcd x.natAbs y.natAbs=g at*
 refine dH.mk (fun hs=>?_) (fun hs=>?_)
 ·have hs:=aH hs;rw[show y.sign= -1 by omega,Int.neg_one_mul]at hn hd;refine bu (cE hw (fun _ w' v w2=>cw w2 (Nf w' w2) v (-(g:Int))) (fun O w' r=>mX (Rel.old r (bs w)) ((hg.rel r (bs w)).l (k:=1000000) (by rw[Int.natAbs_natCast];omega)) (by omega)) ?_);rintro O wa5 v5 wb5 iv5 r he hw h_ hn;replace hx:=hx.bz r hS he (mC h_);replace hy:=hy.bz r hS he (mC h_);clear hg;have hg2:=hn.dB (S:=fun _=>False) r.bw (mN h_);clear r hn;obtain⟨s5_0,s5_1,s5_2,s5_3,rfl⟩:=hg2.shape;refine bu (cE hw (fun _ w' v w2=>∃q r,v= .tuple #[q,r,.int .i64 0]∧cw w2 (Nf w' w2) q (Rat.divInt x y).num∧cw w2 (Nf w' w2) r (x % (-(g:Int)))) (fun O w' r=>hn▸iP (Rel.old r hS) (hx.rel r hS) ((((hg2.rel r (bs w)).l (k:=1000000) (by rw[Int.natAbs_neg,Int.natAbs_natCast];omega))).cC fun g hg=>Cv.false hg) hk (by omega) (by omega)) ?_);rintro O wa6 v6 wb6 iv6 r he hw h_ ⟨q,rr,rfl,k1,k2⟩;clear hx;replace hy:=hy.bz r hS he (mC h_);replace hg2:=hg2.bz r (bs w) he (mC h_);have hq:=k1.dB (S:=fun _=>False) r.bw (mN h_);have hr:=k2.dB (S:=fun _=>False) r.bw (mN h_);clear r;obtain⟨s6_0a,s6_0b,s6_0c,s6_0d,rfl⟩:=hq.shape;obtain⟨s6_1a,s6_1b,s6_1c,s6_1d,rfl⟩:=hr.shape;clear k1 k2 hr;refine bu (cE hw (fun _ w' v w2=>∃q r,v= .tuple #[q,r,.int .i64 0]∧cw w2 (Nf w' w2) q ((Rat.divInt x y).den:Int)∧cw w2 (Nf w' w2) r (y % (-(g:Int)))) (fun O w' r=>hd▸iP (Rel.old r hS) (hy.rel r hS) ((((hg2.rel r (bs w)).l (k:=1000000) (by rw[Int.natAbs_neg,Int.natAbs_natCast];omega))).cC fun g hg=>Cv.false hg) hl (by omega) (by omega)) ?_);rintro O wa7 v7 wb7 iv7 r he hw h_ ⟨q,rr,rfl,k1,k2⟩;clear hy;clear hg2;replace hq:=hq.bz r (bs w) he (mC h_);have hq2:=k1.dB (S:=fun _=>False) r.bw (mN h_);have hr:=k2.dB (S:=fun _=>False) r.bw (mN h_);clear r;obtain⟨s7_0a,s7_0b,s7_0c,s7_0d,rfl⟩:=hq2.shape;obtain⟨s7_1a,s7_1b,s7_1c,s7_1d,rfl⟩:=hr.shape;clear k1 k2 hr;intro ρe we re;exact⟨_,rfl,hw.tr re.cI,(cP.of hq hq2).out re (bs w)⟩
 have hs:=aG hs;rw[show y.sign=1 by omega,Int.one_mul]at hn hd;refine bu (cE hw (fun _ w' v w2=>∃q r,v= .tuple #[q,r,.int .i64 0]∧cw w2 (Nf w' w2) q (Rat.divInt x y).num∧cw w2 (Nf w' w2) r (x % ((g:Int)))) (fun O w' r=>hn▸iP (Rel.old r hS) (hx.rel r hS) ((((hg.rel r (bs w)).l (k:=1000000) (by rw[Int.natAbs_natCast];omega))).cC fun g hg=>Cv.false hg) hk (by omega) (by omega)) ?_);rintro O wa5 v5 wb5 iv5 r he hw h_ ⟨q,rr,rfl,k1,k2⟩;clear hx;replace hy:=hy.bz r hS he (mC h_);replace hg:=hg.bz r (bs w) he (mC h_);have hq:=k1.dB (S:=fun _=>False) r.bw (mN h_);have hr:=k2.dB (S:=fun _=>False) r.bw (mN h_);clear r;obtain⟨s5_0a,s5_0b,s5_0c,s5_0d,rfl⟩:=hq.shape;obtain⟨s5_1a,s5_1b,s5_1c,s5_1d,rfl⟩:=hr.shape;clear k1 k2 hr;refine bu (cE hw (fun _ w' v w2=>∃q r,v= .tuple #[q,r,.int .i64 0]∧cw w2 (Nf w' w2) q ((Rat.divInt x y).den:Int)∧cw w2 (Nf w' w2) r (y % ((g:Int)))) (fun O w' r=>hd▸iP (Rel.old r hS) (hy.rel r hS) ((((hg.rel r (bs w)).l (k:=1000000) (by rw[Int.natAbs_natCast];omega))).cC fun g hg=>Cv.false hg) hl (by omega) (by omega)) ?_);rintro O wa6 v6 wb6 iv6 r he hw h_ ⟨q,rr,rfl,k1,k2⟩;clear hy;clear hg;replace hq:=hq.bz r (bs w) he (mC h_);have hq2:=k1.dB (S:=fun _=>False) r.bw (mN h_);have hr:=k2.dB (S:=fun _=>False) r.bw (mN h_);clear r;obtain⟨s6_0a,s6_0b,s6_0c,s6_0d,rfl⟩:=hq2.shape;obtain⟨s6_1a,s6_1b,s6_1c,s6_1d,rfl⟩:=hr.shape;clear k1 k2 hr;intro ρe we re;exact⟨_,rfl,hw.tr re.cI,(cP.of hq hq2).out re (bs w)⟩
def eX(w:World)(S:Nat->Prop)(v:Value)(q:Rat):Prop:=∃b1 l1 b2 l2 a b,v= .agg #[.bool b1,l1,.bool b2,l2]∧fC w S (.agg #[.bool b1,l1]) 100000 a∧fC w S (.agg #[.bool b2,l2]) 100000 b∧ratio a b=q
theorem eX.cB{w2:World}{v:Value}(h:eX w S v q)(hk:∀g,S g->w2.heap[g]? =w.heap[g]?):eX w2 S v q:=by
 obtain⟨b1,l1,b2,l2,a,b,h1,h2,h3,h4⟩:=h;exact⟨b1,l1,b2,l2,a,b,h1,h2.cB hk,h3.cB hk,h4⟩
theorem eX.cC{S':Nat->Prop}{v:Value}(h:eX w S v q)(hk:∀g,S g->S' g):eX w S' v q:=by
 obtain⟨b1,l1,b2,l2,a,b,h1,h2,h3,h4⟩:=h;exact⟨b1,l1,b2,l2,a,b,h1,h2.cC hk,h3.cC hk,h4⟩
theorem eX.r{v:Value}(h:eX w S v q):∃a b,gb w S v a b∧ratio a b=q:=by
 obtain⟨b1,l1,b2,l2,a,b,rfl,h2,h3,h4⟩:=h;exact⟨a,b,⟨b1,l1,b2,l2,rfl,h2.r,h3.r⟩,h4⟩
theorem eX.v{v:Value}(h:eX w S v q):pD w S v q:=by
 obtain⟨b1,l1,b2,l2,a,b,rfl,h2,h3,h4⟩:=h;exact⟨a,b,⟨b1,l1,b2,l2,rfl,h2.r,h3.r⟩,h4,h2.ln,h3.ln⟩
theorem eX.shape{v:Value}(h:eX w S v q):∃b a n c b2 a2 n2 c2,v= .agg #[.bool b,.slice a n c,.bool b2,.slice a2 n2 c2]:=h.v.shape
theorem eX.rl{v:Value}(h:eX w S v q):rl q<=100000:=by
 obtain⟨b1,l1,b2,l2,a,b,rfl,h2,h3,rfl⟩:=h;have:=gY a b;have:=h2.ln;have:=h3.ln;omega
theorem cP.l{v:Value}(h:cP w S v q)(hl:rl q<=100000):eX w S v q:=by
 obtain⟨b1,l1,b2,l2,h1,h2,h3⟩:=h;exact⟨b1,l1,b2,l2,_,_,h1,h2.l (ah (fk q) hl),h3.l (ah (fA q) hl),yn q⟩
theorem I0(a b:Int):rs (ratio a b)=if b.sign<0 then -a.sign else a.sign:=by
 have sb:=fY b;rw[ratio];split
 ·rw[aF (by omega),rs,rz (by decide)]
 ·split
  ·rw[show Rat.divInt a b=Rat.divInt (-a) (-b)from(Rat.neg_divInt_neg a b).symm,rs,rz (by omega),Int.sign_neg]
  ·rw[rs,rz (by omega)]
theorem jF{a c:Int}:(a.natAbs<1073741824)->(c.natAbs<1073741824)->(a*c).natAbs<=1152921502459363329:=fun h1 h2=>by
 rw[Int.natAbs_mul];exact Nat.mul_le_mul (show a.natAbs<=1073741823 by omega) (show c.natAbs<=1073741823 by omega)
section
variable{S S':Nat->Prop}{H:Hp}{nx:Nat}{iv iv':Iv}{B:Nat}{w w' w2:World}{O:Nat->Sx.dU}{v:Value}{q:Rat}
theorem eX.rel(h:eX w (Cv S B iv) v q)(r:Rel H nx iv B w O w')(hS:∀g,S g->g<B):eX w' (Cv S B iv) v q:=h.cB fun _ hg=>Rel.same r hS hg
theorem eX.bz(h:eX w (Cv S B iv) v q)(r:Rel H nx iv B w O w')(hS:∀g,S g->g<B)(he:Ext w' w2)(hm:∀p,p∈iv->p∈iv'):eX w2 (Cv S B iv') v q:=
 ((h.rel r hS).cB fun g hg=>he.block g (Rel.old r hS g hg)).cC fun _ hg=>hg.mono hm
theorem eX.arg(h:eX w S v q)(iv:Iv):eX w (Cv S w.heap.size iv) v q:=h.cC fun _ h=>.inl h
end
theorem yh{v:Value}{a b:Int}(hS:Old S w)(hp:gb w S v a b):
  du PG N.kH #[v] w (eD w fun v' _=>v'= .int .i64 (rs (ratio a b))):=by
 have hw:cQ w.heap.size w w:=cQ.refl;obtain⟨b1,l1,b2,l2,rfl,ha,hb'⟩:=hp;obtain⟨_,a1,n1,c1,e1⟩:=ha.shape;obtain⟨_,a2,n2,c2,e2⟩:=hb'.shape;simp only[Value.agg.injEq,Array.mk.injEq,List.cons.injEq,and_true]at e1 e2;obtain⟨_,rfl⟩:=e1;obtain⟨_,rfl⟩:=e2;replace ha:=ha.cC (S':=Cv S w.heap.size []) fun _ h=>.inl h;replace hb':=hb'.cC (S':=Cv S w.heap.size []) fun _ h=>.inl h;have hr:=I0 a b;have sa:=fY a;refine vG (by simp) ?_;refine bu (cE hw (fun _ w' v w2=>v= .int .i64 b.sign) (fun O w' r=>fy (Rel.old r hS) (hb'.rel r hS)) ?_);rintro O wa1 v1 wb1 iv1 r he hw h_ rfl;replace ha:=ha.bz r hS he (mC h_);refine dH.mk (fun h=>?_) (fun h=>?_)
 ·have h:=aH h;rw[if_pos h]at hr;refine bu (cE hw (fun _ w' v w2=>v= .int .i64 a.sign) (fun O w' r=>fy (Rel.old r hS) (ha.rel r hS)) ?_);rintro O wa2 v2 wb2 iv2 r he hw h_ rfl;refine⟨-a.sign,wo,?_⟩;intro ρe we re;exact⟨_,rfl,hw.tr re.cI,by rw[hr];rfl⟩
 have h:=aG h;rw[aF h]at hr;refine bu (cE hw (fun _ w' v w2=>v= .int .i64 a.sign) (fun O w' r=>fy (Rel.old r hS) (ha.rel r hS)) ?_);rintro O wa2 v2 wb2 iv2 r he hw h_ rfl;intro ρe we re;exact⟨_,rfl,hw.tr re.cI,by rw[hr];rfl⟩
theorem EW{v:Value}(hS:Old S w)(hp:eX w S v p):du PG N.kH #[v] w (eD w fun v' _=>v'= .int .i64 (rs p)):=by
 obtain⟨a,b,h1,rfl⟩:=hp.r;exact yh hS h1
theorem iQ{v:Value}(hS:Old S w)(hp:eX w S v p):
  du PG N.sF #[v] w (eD w fun v' w2=>cP w2 (Nf w w2) v' p):=by
 have hw:cQ w.heap.size w w:=cQ.refl;obtain⟨b1,l1,b2,l2,a,b,rfl,ha,hb',rfl⟩:=hp;obtain⟨_,a1,n1,c1,e1⟩:=ha.shape;obtain⟨_,a2,n2,c2,e2⟩:=hb'.shape;simp only[Value.agg.injEq,Array.mk.injEq,List.cons.injEq,and_true]at e1 e2;obtain⟨_,rfl⟩:=e1;obtain⟨_,rfl⟩:=e2;replace ha:=ha.cC (S':=Cv S w.heap.size []) fun _ h=>.inl h;replace hb':=hb'.cC (S':=Cv S w.heap.size []) fun _ h=>.inl h;have sb:=fY b;refine vL (by simp) ?_;refine bu (cH (Φ:=fun _ w' v w2=>v= .int .i64 b.sign) (fun O w' r=>fy (Rel.old r hS) (hb'.rel r hS).r) ?_);rintro O wa1 v1 wb1 r he hb rfl;replace hw:=hw.tr hb;replace ha:=ha.bz (iv':=(wa1.heap.size,wb1.heap.size)::[]) r hS he fun x hx=>aB _ hx;replace hb':=hb'.bz (iv':=(wa1.heap.size,wb1.heap.size)::[]) r hS he fun x hx=>aB _ hx;generalize (wa1.heap.size,wb1.heap.size)::[]=iv1 at*
 refine dH.mk (fun h=>?_) (fun h=>?_)
 ·have h:b.sign=0:=by simpa using h
  obtain rfl:b=0:=by omega
  rw[show ratio a 0=Rat.divInt a 1 from if_pos rfl];refine cD hτ df [.x 0,.x 1,.x 2,.x 3,.x 4] (by kernel_rfl) (by kernel_rfl) ?_;refine cH (Φ:=fun _ w' v w2=>cw w2 (Nf w' w2) v (1)) (fun O w' r=>lX _ w' (by decide) (by decide)) ?_;rintro O wa2 v2 wb2 r he hb hn;replace hw:=hw.tr hb;replace ha:=ha.bz (iv':=(wa2.heap.size,wb2.heap.size)::iv1) r hS he fun x hx=>aB _ hx;replace hb':=hb'.bz (iv':=(wa2.heap.size,wb2.heap.size)::iv1) r hS he fun x hx=>aB _ hx;have h1:=hn.dB (S:=fun _=>False) r.bw (iv:=(wa2.heap.size,wb2.heap.size)::iv1) aI;generalize (wa2.heap.size,wb2.heap.size)::iv1=iv2 at*
  obtain⟨s2_0,s2_1,s2_2,s2_3,rfl⟩:=h1.shape;refine cH (Φ:=fun _ w' v w2=>cP w2 (Nf w' w2) v (Rat.divInt a 1)) (fun O w' r=>nT (Rel.old r hS) (ha.rel r hS) (((h1.rel r (bs w)).l (k:=1) (by decide)).cC fun g hg=>Cv.false hg) (by omega) (by omega) (by decide)) ?_;rintro O wa3 v3 wb3 r he hb hn;replace hw:=hw.tr hb;replace ha:=ha.bz (iv':=(wa3.heap.size,wb3.heap.size)::iv2) r hS he fun x hx=>aB _ hx;replace hb':=hb'.bz (iv':=(wa3.heap.size,wb3.heap.size)::iv2) r hS he fun x hx=>aB _ hx;replace h1:=h1.bz (iv':=(wa3.heap.size,wb3.heap.size)::iv2) r (bs w) he fun x hx=>aB _ hx;have hR:=hn.dB (S:=fun _=>False) r.bw (iv:=(wa3.heap.size,wb3.heap.size)::iv2) aI;generalize (wa3.heap.size,wb3.heap.size)::iv2=iv3 at*
  obtain⟨s3_0,s3_1,s3_2,s3_3,s3_4,s3_5,s3_6,s3_7,rfl⟩:=hR.shape;intro ρe we re;exact⟨_,rfl,hw.tr re.cI,hR.out re (bs w)⟩
 have h:b.sign≠0:=by simpa using h
 have hb0:b≠0:=by omega
 rw[show ratio a b=Rat.divInt a b from aF hb0];refine bu (cH (Φ:=fun _ w' v w2=>cP w2 (Nf w' w2) v (Rat.divInt a b)) (fun O w' r=>nT (Rel.old r hS) (ha.rel r hS) (hb'.rel r hS) (by omega) (by omega) hb0) ?_);rintro O wa2 v2 wb2 r he hb hn;replace hw:=hw.tr hb;replace ha:=ha.bz (iv':=(wa2.heap.size,wb2.heap.size)::iv1) r hS he fun x hx=>aB _ hx;replace hb':=hb'.bz (iv':=(wa2.heap.size,wb2.heap.size)::iv1) r hS he fun x hx=>aB _ hx;have hR:=hn.dB (S:=fun _=>False) r.bw (iv:=(wa2.heap.size,wb2.heap.size)::iv1) aI;generalize (wa2.heap.size,wb2.heap.size)::iv1=iv2 at*
 obtain⟨s2_0,s2_1,s2_2,s2_3,s2_4,s2_5,s2_6,s2_7,rfl⟩:=hR.shape;intro ρe we re;exact⟨_,rfl,hw.tr re.cI,hR.out re (bs w)⟩
theorem wN{v:Value}(hS:Old S w)(hp:eX w S v p):
  du PG N.ua #[v] w (eD w fun v' _=>∃n d ok,v'= .tuple #[.int .i64 n,.int .i64 d,.bool ok]∧(ok=true->d≠0∧n.natAbs<1073741824∧d.natAbs<1073741824∧Rat.divInt n d=p)):=by
 have hw:cQ w.heap.size w w:=cQ.refl;obtain⟨b1,l1,b2,l2,a,b,rfl,ha,hb',rfl⟩:=hp;obtain⟨_,a1,n1,c1,e1⟩:=ha.shape;obtain⟨_,a2,n2,c2,e2⟩:=hb'.shape;simp only[Value.agg.injEq,Array.mk.injEq,List.cons.injEq,and_true]at e1 e2;obtain⟨_,rfl⟩:=e1;obtain⟨_,rfl⟩:=e2;replace ha:=ha.cC (S':=Cv S w.heap.size []) fun _ h=>.inl h;replace hb':=hb'.cC (S':=Cv S w.heap.size []) fun _ h=>.inl h;refine yP (by simp) ?_
 refine bu (cH (Φ:=fun _ w' v w2=>∃n p,v= .tuple #[.int .i64 n,.bool p]∧(p=true->n=a∧a.natAbs<1073741824)) (fun O w' r=>(mW (Rel.old r hS) (ha.rel r hS).r).mono fun e w2 ⟨v2,e1,e2,e3⟩=>⟨v2,e1,e2,by
   rw[e3,jQ];split
   ·exact⟨_,_,rfl,fun _=>⟨rfl,‹_›⟩⟩
   ·exact⟨_,_,rfl,fun h=>by cases h⟩⟩) ?_)
 rintro O wa1 v1 wb1 r he hb ⟨na,pa,rfl,qa⟩;replace hw:=hw.tr hb;replace ha:=ha.bz (iv':=(wa1.heap.size,wb1.heap.size)::[]) r hS he fun x hx=>aB _ hx;replace hb':=hb'.bz (iv':=(wa1.heap.size,wb1.heap.size)::[]) r hS he fun x hx=>aB _ hx;generalize (wa1.heap.size,wb1.heap.size)::[]=iv1 at*
 refine bu (cH (Φ:=fun _ w' v w2=>∃n p,v= .tuple #[.int .i64 n,.bool p]∧(p=true->n=b∧b.natAbs<1073741824)) (fun O w' r=>(mW (Rel.old r hS) (hb'.rel r hS).r).mono fun e w2 ⟨v2,e1,e2,e3⟩=>⟨v2,e1,e2,by
   rw[e3,jQ];split
   ·exact⟨_,_,rfl,fun _=>⟨rfl,‹_›⟩⟩
   ·exact⟨_,_,rfl,fun h=>by cases h⟩⟩) ?_)
 rintro O wa2 v2 wb2 r he hb ⟨nb,pb,rfl,qb⟩;replace hw:=hw.tr hb;replace ha:=ha.bz (iv':=(wa2.heap.size,wb2.heap.size)::iv1) r hS he fun x hx=>aB _ hx;replace hb':=hb'.bz (iv':=(wa2.heap.size,wb2.heap.size)::iv1) r hS he fun x hx=>aB _ hx;generalize (wa2.heap.size,wb2.heap.size)::iv1=iv2 at*
 refine dH.mk (fun h=>?_) (fun h=>?_)
 ·have h:nb=0:=by simpa using h
  refine dH.mk (fun h1=>?_) (fun h1=>?_)
  ·intro ρe we re
   exact⟨_,rfl,hw.tr re.cI,⟨na,1,pb,rfl,fun h2=>by
     obtain⟨rfl,hx⟩:=qa h1;obtain⟨rfl,hy⟩:=qb h2;rw[h]
     exact⟨by decide,hx,by decide,(if_pos rfl).symm⟩⟩⟩
  intro ρe we re;exact⟨_,rfl,hw.tr re.cI,⟨na,1,false,rfl,fun h2=>by cases h2⟩⟩
 have h:nb≠0:=by simpa using h
 refine dH.mk (fun h1=>?_) (fun h1=>?_)
 ·intro ρe we re
  exact⟨_,rfl,hw.tr re.cI,⟨na,nb,pb,rfl,fun h2=>by
    obtain⟨rfl,hx⟩:=qa h1;obtain⟨rfl,hy⟩:=qb h2
    exact⟨h,hx,hy,(aF h).symm⟩⟩⟩
 intro ρe we re;exact⟨_,rfl,hw.tr re.cI,⟨na,nb,false,rfl,fun h2=>by cases h2⟩⟩
theorem K5{v:Value}(hS:Old S w)(hp:eX w S v p)(hq:eX w S u q):
  du PG N.AH #[v,u] w (eD w fun v' w2=>cP w2 (Nf w w2) v' (p+q)):=by
 have hw:cQ w.heap.size w w:=cQ.refl;replace hp:=hp.cC (S':=Cv S w.heap.size []) fun _ h=>.inl h;replace hq:=hq.cC (S':=Cv S w.heap.size []) fun _ h=>.inl h;obtain⟨b1,a1,n1,c1,b2,a2,n2,c2,rfl⟩:=hp.shape;obtain⟨b3,a3,n3,c3,b4,a4,n4,c4,rfl⟩:=hq.shape;refine Av (by simp) ?_;have r1:=hp.rl;have r2:=hq.rl;have u1:=fk p;have u2:=fA p;have u3:=fk q;have u4:=fA q;refine bu (cE hw (fun _ w' v w2=>∃n d ok,v= .tuple #[.int .i64 n,.int .i64 d,.bool ok]∧(ok=true->d≠0∧n.natAbs<1073741824∧d.natAbs<1073741824∧Rat.divInt n d=p)) (fun O w' r=>wN (Rel.old r hS) (hp.rel r hS)) ?_);rintro O wa1 v1 wb1 iv1 r he hw h_ ⟨a,b,k1,rfl,g1⟩;replace hp:=hp.bz r hS he (mC h_);replace hq:=hq.bz r hS he (mC h_);refine bu (cE hw (fun _ w' v w2=>∃n d ok,v= .tuple #[.int .i64 n,.int .i64 d,.bool ok]∧(ok=true->d≠0∧n.natAbs<1073741824∧d.natAbs<1073741824∧Rat.divInt n d=q)) (fun O w' r=>wN (Rel.old r hS) (hq.rel r hS)) ?_);rintro O wa2 v2 wb2 iv2 r he hw h_ ⟨c,d,k2,rfl,g2⟩;replace hp:=hp.bz r hS he (mC h_);replace hq:=hq.bz r hS he (mC h_);refine dH.mk (fun h1=>?_) (fun h1=>?_)
 ·refine dH.mk (fun h2=>?_) (fun h2=>?_)
  ·obtain⟨g3,g4,g5,g6⟩:=g1 h1;obtain⟨g7,g8,g9,g10⟩:=g2 h2;have i1:=jF g4 g9;have i2:=jF g8 g5;have i3:=jF g5 g9;have i4:=jF g4 g8;refine⟨a*d,wo,c*b,wo,a*d+c*b,wo,b*d,wo,?_⟩;have e:=Rat.divInt_add_divInt a c g3 g7;rw[g6,g10]at e;refine bu (cE hw (fun _ w' v w2=>cP w2 (Nf w' w2) v (p+q)) (fun O w' r=>e▸pZ (a*d+c*b) (b*d) w' (by omega) (by omega) (jo g3 g7)) ?_);rintro O wa3 v3 wb3 iv3 r he hw h_ hn;have hR:=hn.dB (S:=fun _=>False) r.bw (mN h_);obtain⟨s3_0,s3_1,s3_2,s3_3,s3_4,s3_5,s3_6,s3_7,rfl⟩:=hR.shape;intro ρe we re;exact⟨_,rfl,hw.tr re.cI,hR.out re (bs w)⟩
  refine cD hτ df [.x 0,.x 2,.x 1,.x 3,.x 4,.x 5] (by kernel_rfl) (by kernel_rfl) ?_;refine cE hw (fun _ w' v w2=>cP w2 (Nf w' w2) v (p)) (fun O w' r=>iQ (Rel.old r hS) (hp.rel r hS)) ?_;rintro O wa3 v3 wb3 iv3 r he hw h_ hn;replace hq:=hq.bz r hS he (mC h_);have hX:=hn.dB (S:=fun _=>False) r.bw (mN h_);obtain⟨s3_0,s3_1,s3_2,s3_3,s3_4,s3_5,s3_6,s3_7,rfl⟩:=hX.shape;refine cE hw (fun _ w' v w2=>cP w2 (Nf w' w2) v (q)) (fun O w' r=>iQ (Rel.old r hS) (hq.rel r hS)) ?_;rintro O wa4 v4 wb4 iv4 r he hw h_ hn;replace hX:=hX.bz r (bs w) he (mC h_);have hY:=hn.dB (S:=fun _=>False) r.bw (mN h_);obtain⟨s4_0,s4_1,s4_2,s4_3,s4_4,s4_5,s4_6,s4_7,rfl⟩:=hY.shape;have hXn:=hX.num;have hXd:=hX.den;have hYn:=hY.num;have hYd:=hY.den;have m0:=cU p.num q.den;have m1:=cU q.num p.den;have m2:=cU (p.den:Int) q.den;have m3:=iD (p.num*q.den) (q.num*p.den);have m4:=cU p.num q.num;refine cD hτ df [.x 0,.x 1,.x 2,.x 3,.x 5,.x 6,.x 7,.x 8,.x 11,.x 12,.x 13,.x 14,.x 4,.x 9,.x 10,.x 15,.x 16,.x 17] (by kernel_rfl) (by kernel_rfl) ?_;refine cE hw (fun _ w' v w2=>cw w2 (Nf w' w2) v (p.num*(q.den:Int))) (fun O w' r=>iO (Rel.old r (bs w)) ((hXn.rel r (bs w)).l (k:=100000) (by omega)) ((hYd.rel r (bs w)).l (k:=100000) (by omega)) (by omega) (by omega)) ?_;rintro O wa5 v5 wb5 iv5 r he hw h_ hn;replace hXn:=hXn.bz r (bs w) he (mC h_);replace hXd:=hXd.bz r (bs w) he (mC h_);replace hYn:=hYn.bz r (bs w) he (mC h_);replace hYd:=hYd.bz r (bs w) he (mC h_);have hA:=hn.dB (S:=fun _=>False) r.bw (mN h_);obtain⟨s5_0,s5_1,s5_2,s5_3,rfl⟩:=hA.shape;refine cE hw (fun _ w' v w2=>cw w2 (Nf w' w2) v (q.num*(p.den:Int))) (fun O w' r=>iO (Rel.old r (bs w)) ((hYn.rel r (bs w)).l (k:=100000) (by omega)) ((hXd.rel r (bs w)).l (k:=100000) (by omega)) (by omega) (by omega)) ?_;rintro O wa6 v6 wb6 iv6 r he hw h_ hn;replace hXn:=hXn.bz r (bs w) he (mC h_);replace hXd:=hXd.bz r (bs w) he (mC h_);replace hYn:=hYn.bz r (bs w) he (mC h_);replace hYd:=hYd.bz r (bs w) he (mC h_);replace hA:=hA.bz r (bs w) he (mC h_);have hB:=hn.dB (S:=fun _=>False) r.bw (mN h_);obtain⟨s6_0,s6_1,s6_2,s6_3,rfl⟩:=hB.shape;refine cE hw (fun _ w' v w2=>cw w2 (Nf w' w2) v (p.num*(q.den:Int)+q.num*(p.den:Int))) (fun O w' r=>yo (Rel.old r (bs w)) ((hA.rel r (bs w)).l (k:=200000) (by omega)) ((hB.rel r (bs w)).l (k:=200000) (by omega)) (by omega) (by omega)) ?_;rintro O wa7 v7 wb7 iv7 r he hw h_ hn;replace hXn:=hXn.bz r (bs w) he (mC h_);replace hXd:=hXd.bz r (bs w) he (mC h_);replace hYn:=hYn.bz r (bs w) he (mC h_);replace hYd:=hYd.bz r (bs w) he (mC h_);have hN:=hn.dB (S:=fun _=>False) r.bw (mN h_);obtain⟨s7_0,s7_1,s7_2,s7_3,rfl⟩:=hN.shape;refine cE hw (fun _ w' v w2=>cw w2 (Nf w' w2) v ((p.den:Int)*(q.den:Int))) (fun O w' r=>iO (Rel.old r (bs w)) ((hXd.rel r (bs w)).l (k:=100000) (by omega)) ((hYd.rel r (bs w)).l (k:=100000) (by omega)) (by omega) (by omega)) ?_;rintro O wa8 v8 wb8 iv8 r he hw h_ hn;replace hXn:=hXn.bz r (bs w) he (mC h_);replace hXd:=hXd.bz r (bs w) he (mC h_);replace hYn:=hYn.bz r (bs w) he (mC h_);replace hYd:=hYd.bz r (bs w) he (mC h_);replace hN:=hN.bz r (bs w) he (mC h_);have hD:=hn.dB (S:=fun _=>False) r.bw (mN h_);obtain⟨s8_0,s8_1,s8_2,s8_3,rfl⟩:=hD.shape;refine cE hw (fun _ w' v w2=>cP w2 (Nf w' w2) v (p+q)) (fun O w' r=>(ry p q)▸nT (Rel.old r (bs w)) ((hN.rel r (bs w)).l (k:=200001) (by omega)) ((hD.rel r (bs w)).l (k:=200001) (by omega)) (by omega) (by omega) (jo (gD p) (gD q))) ?_;rintro O wa9 v9 wb9 iv9 r he hw h_ hn;have hR:=hn.dB (S:=fun _=>False) r.bw (mN h_);obtain⟨s9_0,s9_1,s9_2,s9_3,s9_4,s9_5,s9_6,s9_7,rfl⟩:=hR.shape;intro ρe we re;exact⟨_,rfl,hw.tr re.cI,hR.out re (bs w)⟩
 refine cD hτ df [.x 0,.x 2,.x 1,.x 3,.x 4,.x 5] (by kernel_rfl) (by kernel_rfl) ?_;refine cE hw (fun _ w' v w2=>cP w2 (Nf w' w2) v (p)) (fun O w' r=>iQ (Rel.old r hS) (hp.rel r hS)) ?_;rintro O wa3 v3 wb3 iv3 r he hw h_ hn;replace hq:=hq.bz r hS he (mC h_);have hX:=hn.dB (S:=fun _=>False) r.bw (mN h_);obtain⟨s3_0,s3_1,s3_2,s3_3,s3_4,s3_5,s3_6,s3_7,rfl⟩:=hX.shape;refine cE hw (fun _ w' v w2=>cP w2 (Nf w' w2) v (q)) (fun O w' r=>iQ (Rel.old r hS) (hq.rel r hS)) ?_;rintro O wa4 v4 wb4 iv4 r he hw h_ hn;replace hX:=hX.bz r (bs w) he (mC h_);have hY:=hn.dB (S:=fun _=>False) r.bw (mN h_);obtain⟨s4_0,s4_1,s4_2,s4_3,s4_4,s4_5,s4_6,s4_7,rfl⟩:=hY.shape;have hXn:=hX.num;have hXd:=hX.den;have hYn:=hY.num;have hYd:=hY.den;have m0:=cU p.num q.den;have m1:=cU q.num p.den;have m2:=cU (p.den:Int) q.den;have m3:=iD (p.num*q.den) (q.num*p.den);have m4:=cU p.num q.num;refine cD hτ df [.x 0,.x 1,.x 2,.x 3,.x 5,.x 6,.x 7,.x 8,.x 11,.x 12,.x 13,.x 14,.x 4,.x 9,.x 10,.x 15,.x 16,.x 17] (by kernel_rfl) (by kernel_rfl) ?_;refine cE hw (fun _ w' v w2=>cw w2 (Nf w' w2) v (p.num*(q.den:Int))) (fun O w' r=>iO (Rel.old r (bs w)) ((hXn.rel r (bs w)).l (k:=100000) (by omega)) ((hYd.rel r (bs w)).l (k:=100000) (by omega)) (by omega) (by omega)) ?_;rintro O wa5 v5 wb5 iv5 r he hw h_ hn;replace hXn:=hXn.bz r (bs w) he (mC h_);replace hXd:=hXd.bz r (bs w) he (mC h_);replace hYn:=hYn.bz r (bs w) he (mC h_);replace hYd:=hYd.bz r (bs w) he (mC h_);have hA:=hn.dB (S:=fun _=>False) r.bw (mN h_);obtain⟨s5_0,s5_1,s5_2,s5_3,rfl⟩:=hA.shape;refine cE hw (fun _ w' v w2=>cw w2 (Nf w' w2) v (q.num*(p.den:Int))) (fun O w' r=>iO (Rel.old r (bs w)) ((hYn.rel r (bs w)).l (k:=100000) (by omega)) ((hXd.rel r (bs w)).l (k:=100000) (by omega)) (by omega) (by omega)) ?_;rintro O wa6 v6 wb6 iv6 r he hw h_ hn;replace hXn:=hXn.bz r (bs w) he (mC h_);replace hXd:=hXd.bz r (bs w) he (mC h_);replace hYn:=hYn.bz r (bs w) he (mC h_);replace hYd:=hYd.bz r (bs w) he (mC h_);replace hA:=hA.bz r (bs w) he (mC h_);have hB:=hn.dB (S:=fun _=>False) r.bw (mN h_);obtain⟨s6_0,s6_1,s6_2,s6_3,rfl⟩:=hB.shape;refine cE hw (fun _ w' v w2=>cw w2 (Nf w' w2) v (p.num*(q.den:Int)+q.num*(p.den:Int))) (fun O w' r=>yo (Rel.old r (bs w)) ((hA.rel r (bs w)).l (k:=200000) (by omega)) ((hB.rel r (bs w)).l (k:=200000) (by omega)) (by omega) (by omega)) ?_;rintro O wa7 v7 wb7 iv7 r he hw h_ hn;replace hXn:=hXn.bz r (bs w) he (mC h_);replace hXd:=hXd.bz r (bs w) he (mC h_);replace hYn:=hYn.bz r (bs w) he (mC h_);replace hYd:=hYd.bz r (bs w) he (mC h_);have hN:=hn.dB (S:=fun _=>False) r.bw (mN h_);obtain⟨s7_0,s7_1,s7_2,s7_3,rfl⟩:=hN.shape;refine cE hw (fun _ w' v w2=>cw w2 (Nf w' w2) v ((p.den:Int)*(q.den:Int))) (fun O w' r=>iO (Rel.old r (bs w)) ((hXd.rel r (bs w)).l (k:=100000) (by omega)) ((hYd.rel r (bs w)).l (k:=100000) (by omega)) (by omega) (by omega)) ?_;rintro O wa8 v8 wb8 iv8 r he hw h_ hn;replace hXn:=hXn.bz r (bs w) he (mC h_);replace hXd:=hXd.bz r (bs w) he (mC h_);replace hYn:=hYn.bz r (bs w) he (mC h_);replace hYd:=hYd.bz r (bs w) he (mC h_);replace hN:=hN.bz r (bs w) he (mC h_);have hD:=hn.dB (S:=fun _=>False) r.bw (mN h_);obtain⟨s8_0,s8_1,s8_2,s8_3,rfl⟩:=hD.shape;refine cE hw (fun _ w' v w2=>cP w2 (Nf w' w2) v (p+q)) (fun O w' r=>(ry p q)▸nT (Rel.old r (bs w)) ((hN.rel r (bs w)).l (k:=200001) (by omega)) ((hD.rel r (bs w)).l (k:=200001) (by omega)) (by omega) (by omega) (jo (gD p) (gD q))) ?_;rintro O wa9 v9 wb9 iv9 r he hw h_ hn;have hR:=hn.dB (S:=fun _=>False) r.bw (mN h_);obtain⟨s9_0,s9_1,s9_2,s9_3,s9_4,s9_5,s9_6,s9_7,rfl⟩:=hR.shape;intro ρe we re;exact⟨_,rfl,hw.tr re.cI,hR.out re (bs w)⟩
theorem I1{v:Value}(hS:Old S w)(hp:eX w S v p)(hq:eX w S u q):
  du PG N.AI #[v,u] w (eD w fun v' w2=>cP w2 (Nf w w2) v' (p*q)):=by
 have hw:cQ w.heap.size w w:=cQ.refl;replace hp:=hp.cC (S':=Cv S w.heap.size []) fun _ h=>.inl h;replace hq:=hq.cC (S':=Cv S w.heap.size []) fun _ h=>.inl h;obtain⟨b1,a1,n1,c1,b2,a2,n2,c2,rfl⟩:=hp.shape;obtain⟨b3,a3,n3,c3,b4,a4,n4,c4,rfl⟩:=hq.shape;refine Aw (by simp) ?_;have r1:=hp.rl;have r2:=hq.rl;have u1:=fk p;have u2:=fA p;have u3:=fk q;have u4:=fA q;refine bu (cE hw (fun _ w' v w2=>∃n d ok,v= .tuple #[.int .i64 n,.int .i64 d,.bool ok]∧(ok=true->d≠0∧n.natAbs<1073741824∧d.natAbs<1073741824∧Rat.divInt n d=p)) (fun O w' r=>wN (Rel.old r hS) (hp.rel r hS)) ?_);rintro O wa1 v1 wb1 iv1 r he hw h_ ⟨a,b,k1,rfl,g1⟩;replace hp:=hp.bz r hS he (mC h_);replace hq:=hq.bz r hS he (mC h_);refine bu (cE hw (fun _ w' v w2=>∃n d ok,v= .tuple #[.int .i64 n,.int .i64 d,.bool ok]∧(ok=true->d≠0∧n.natAbs<1073741824∧d.natAbs<1073741824∧Rat.divInt n d=q)) (fun O w' r=>wN (Rel.old r hS) (hq.rel r hS)) ?_);rintro O wa2 v2 wb2 iv2 r he hw h_ ⟨c,d,k2,rfl,g2⟩;replace hp:=hp.bz r hS he (mC h_);replace hq:=hq.bz r hS he (mC h_);refine dH.mk (fun h1=>?_) (fun h1=>?_)
 ·refine dH.mk (fun h2=>?_) (fun h2=>?_)
  ·obtain⟨g3,g4,g5,g6⟩:=g1 h1;obtain⟨g7,g8,g9,g10⟩:=g2 h2;have i1:=jF g4 g9;have i2:=jF g8 g5;have i3:=jF g5 g9;have i4:=jF g4 g8;refine⟨a*c,wo,b*d,wo,?_⟩;have e:=Rat.divInt_mul_divInt a c (d₁:=b) (d₂:=d);rw[g6,g10]at e;refine bu (cE hw (fun _ w' v w2=>cP w2 (Nf w' w2) v (p*q)) (fun O w' r=>e▸pZ (a*c) (b*d) w' (by omega) (by omega) (jo g3 g7)) ?_);rintro O wa3 v3 wb3 iv3 r he hw h_ hn;have hR:=hn.dB (S:=fun _=>False) r.bw (mN h_);obtain⟨s3_0,s3_1,s3_2,s3_3,s3_4,s3_5,s3_6,s3_7,rfl⟩:=hR.shape;intro ρe we re;exact⟨_,rfl,hw.tr re.cI,hR.out re (bs w)⟩
  refine cD hτ df [.x 0,.x 2,.x 1,.x 3,.x 4,.x 5] (by kernel_rfl) (by kernel_rfl) ?_;refine cE hw (fun _ w' v w2=>cP w2 (Nf w' w2) v (p)) (fun O w' r=>iQ (Rel.old r hS) (hp.rel r hS)) ?_;rintro O wa3 v3 wb3 iv3 r he hw h_ hn;replace hq:=hq.bz r hS he (mC h_);have hX:=hn.dB (S:=fun _=>False) r.bw (mN h_);obtain⟨s3_0,s3_1,s3_2,s3_3,s3_4,s3_5,s3_6,s3_7,rfl⟩:=hX.shape;refine cE hw (fun _ w' v w2=>cP w2 (Nf w' w2) v (q)) (fun O w' r=>iQ (Rel.old r hS) (hq.rel r hS)) ?_;rintro O wa4 v4 wb4 iv4 r he hw h_ hn;replace hX:=hX.bz r (bs w) he (mC h_);have hY:=hn.dB (S:=fun _=>False) r.bw (mN h_);obtain⟨s4_0,s4_1,s4_2,s4_3,s4_4,s4_5,s4_6,s4_7,rfl⟩:=hY.shape;have hXn:=hX.num;have hXd:=hX.den;have hYn:=hY.num;have hYd:=hY.den;have m0:=cU p.num q.den;have m1:=cU q.num p.den;have m2:=cU (p.den:Int) q.den;have m3:=iD (p.num*q.den) (q.num*p.den);have m4:=cU p.num q.num;refine cD hτ df [.x 0,.x 1,.x 2,.x 3,.x 5,.x 6,.x 7,.x 8,.x 4,.x 9,.x 10,.x 11] (by kernel_rfl) (by kernel_rfl) ?_;refine cE hw (fun _ w' v w2=>cw w2 (Nf w' w2) v (p.num*q.num)) (fun O w' r=>iO (Rel.old r (bs w)) ((hXn.rel r (bs w)).l (k:=100000) (by omega)) ((hYn.rel r (bs w)).l (k:=100000) (by omega)) (by omega) (by omega)) ?_;rintro O wa5 v5 wb5 iv5 r he hw h_ hn;replace hXn:=hXn.bz r (bs w) he (mC h_);replace hXd:=hXd.bz r (bs w) he (mC h_);replace hYn:=hYn.bz r (bs w) he (mC h_);replace hYd:=hYd.bz r (bs w) he (mC h_);have hN:=hn.dB (S:=fun _=>False) r.bw (mN h_);obtain⟨s5_0,s5_1,s5_2,s5_3,rfl⟩:=hN.shape;refine cE hw (fun _ w' v w2=>cw w2 (Nf w' w2) v ((p.den:Int)*(q.den:Int))) (fun O w' r=>iO (Rel.old r (bs w)) ((hXd.rel r (bs w)).l (k:=100000) (by omega)) ((hYd.rel r (bs w)).l (k:=100000) (by omega)) (by omega) (by omega)) ?_;rintro O wa6 v6 wb6 iv6 r he hw h_ hn;replace hXn:=hXn.bz r (bs w) he (mC h_);replace hXd:=hXd.bz r (bs w) he (mC h_);replace hYn:=hYn.bz r (bs w) he (mC h_);replace hYd:=hYd.bz r (bs w) he (mC h_);replace hN:=hN.bz r (bs w) he (mC h_);have hD:=hn.dB (S:=fun _=>False) r.bw (mN h_);obtain⟨s6_0,s6_1,s6_2,s6_3,rfl⟩:=hD.shape;refine cE hw (fun _ w' v w2=>cP w2 (Nf w' w2) v (p*q)) (fun O w' r=>(wF p q)▸nT (Rel.old r (bs w)) ((hN.rel r (bs w)).l (k:=200001) (by omega)) ((hD.rel r (bs w)).l (k:=200001) (by omega)) (by omega) (by omega) (jo (gD p) (gD q))) ?_;rintro O wa7 v7 wb7 iv7 r he hw h_ hn;have hR:=hn.dB (S:=fun _=>False) r.bw (mN h_);obtain⟨s7_0,s7_1,s7_2,s7_3,s7_4,s7_5,s7_6,s7_7,rfl⟩:=hR.shape;intro ρe we re;exact⟨_,rfl,hw.tr re.cI,hR.out re (bs w)⟩
 refine cD hτ df [.x 0,.x 2,.x 1,.x 3,.x 4,.x 5] (by kernel_rfl) (by kernel_rfl) ?_;refine cE hw (fun _ w' v w2=>cP w2 (Nf w' w2) v (p)) (fun O w' r=>iQ (Rel.old r hS) (hp.rel r hS)) ?_;rintro O wa3 v3 wb3 iv3 r he hw h_ hn;replace hq:=hq.bz r hS he (mC h_);have hX:=hn.dB (S:=fun _=>False) r.bw (mN h_);obtain⟨s3_0,s3_1,s3_2,s3_3,s3_4,s3_5,s3_6,s3_7,rfl⟩:=hX.shape;refine cE hw (fun _ w' v w2=>cP w2 (Nf w' w2) v (q)) (fun O w' r=>iQ (Rel.old r hS) (hq.rel r hS)) ?_;rintro O wa4 v4 wb4 iv4 r he hw h_ hn;replace hX:=hX.bz r (bs w) he (mC h_);have hY:=hn.dB (S:=fun _=>False) r.bw (mN h_);obtain⟨s4_0,s4_1,s4_2,s4_3,s4_4,s4_5,s4_6,s4_7,rfl⟩:=hY.shape;have hXn:=hX.num;have hXd:=hX.den;have hYn:=hY.num;have hYd:=hY.den;have m0:=cU p.num q.den;have m1:=cU q.num p.den;have m2:=cU (p.den:Int) q.den;have m3:=iD (p.num*q.den) (q.num*p.den);have m4:=cU p.num q.num;refine cD hτ df [.x 0,.x 1,.x 2,.x 3,.x 5,.x 6,.x 7,.x 8,.x 4,.x 9,.x 10,.x 11] (by kernel_rfl) (by kernel_rfl) ?_;refine cE hw (fun _ w' v w2=>cw w2 (Nf w' w2) v (p.num*q.num)) (fun O w' r=>iO (Rel.old r (bs w)) ((hXn.rel r (bs w)).l (k:=100000) (by omega)) ((hYn.rel r (bs w)).l (k:=100000) (by omega)) (by omega) (by omega)) ?_;rintro O wa5 v5 wb5 iv5 r he hw h_ hn;replace hXn:=hXn.bz r (bs w) he (mC h_);replace hXd:=hXd.bz r (bs w) he (mC h_);replace hYn:=hYn.bz r (bs w) he (mC h_);replace hYd:=hYd.bz r (bs w) he (mC h_);have hN:=hn.dB (S:=fun _=>False) r.bw (mN h_);obtain⟨s5_0,s5_1,s5_2,s5_3,rfl⟩:=hN.shape;refine cE hw (fun _ w' v w2=>cw w2 (Nf w' w2) v ((p.den:Int)*(q.den:Int))) (fun O w' r=>iO (Rel.old r (bs w)) ((hXd.rel r (bs w)).l (k:=100000) (by omega)) ((hYd.rel r (bs w)).l (k:=100000) (by omega)) (by omega) (by omega)) ?_;rintro O wa6 v6 wb6 iv6 r he hw h_ hn;replace hXn:=hXn.bz r (bs w) he (mC h_);replace hXd:=hXd.bz r (bs w) he (mC h_);replace hYn:=hYn.bz r (bs w) he (mC h_);replace hYd:=hYd.bz r (bs w) he (mC h_);replace hN:=hN.bz r (bs w) he (mC h_);have hD:=hn.dB (S:=fun _=>False) r.bw (mN h_);obtain⟨s6_0,s6_1,s6_2,s6_3,rfl⟩:=hD.shape;refine cE hw (fun _ w' v w2=>cP w2 (Nf w' w2) v (p*q)) (fun O w' r=>(wF p q)▸nT (Rel.old r (bs w)) ((hN.rel r (bs w)).l (k:=200001) (by omega)) ((hD.rel r (bs w)).l (k:=200001) (by omega)) (by omega) (by omega) (jo (gD p) (gD q))) ?_;rintro O wa7 v7 wb7 iv7 r he hw h_ hn;have hR:=hn.dB (S:=fun _=>False) r.bw (mN h_);obtain⟨s7_0,s7_1,s7_2,s7_3,s7_4,s7_5,s7_6,s7_7,rfl⟩:=hR.shape;intro ρe we re;exact⟨_,rfl,hw.tr re.cI,hR.out re (bs w)⟩
theorem IF(a b:Int)(w:World)(h1a: -9223372036854775808<=a)(h2a:a<=9223372036854775807)(h1b: -9223372036854775808<=b)(h2b:b<=9223372036854775807):
  du PG N.u6 #[.int .i64 a,.int .i64 b] w (eD w fun v' w2=>(b=0∧v'= .tuple #[BZ,.int .i64 9])∨(b≠0∧∃q,v'= .tuple #[q,.int .i64 0]∧cP w2 (Nf w w2) q (Rat.divInt a b))):=by
 have hw:cQ w.heap.size w w:=cQ.refl;have ha:=mU h1a h2a;have hb':=mU h1b h2b;refine yM (by simp) ?_;refine dH.mk (fun h=>?_) (fun h=>?_)
 ·have h:b=0:=by simpa using h
  intro ρe we re;exact⟨_,rfl,hw.tr re.cI,.inl ⟨h,rfl⟩⟩
 have h:b≠0:=by simpa using h
 refine bu (cE hw (fun _ w' v w2=>cw w2 (Nf w' w2) v (a)) (fun O w' r=>lX a w' h1a h2a) ?_);rintro O wa1 v1 wb1 iv1 r he hw h_ hn;have hA:=hn.dB (S:=fun _=>False) r.bw (mN h_);obtain⟨s1_0,s1_1,s1_2,s1_3,rfl⟩:=hA.shape;refine bu (cE hw (fun _ w' v w2=>cw w2 (Nf w' w2) v (b)) (fun O w' r=>lX b w' h1b h2b) ?_);rintro O wa2 v2 wb2 iv2 r he hw h_ hn;replace hA:=hA.bz r (bs w) he (mC h_);have hB:=hn.dB (S:=fun _=>False) r.bw (mN h_);obtain⟨s2_0,s2_1,s2_2,s2_3,rfl⟩:=hB.shape;refine bu (cE hw (fun _ w' v w2=>cP w2 (Nf w' w2) v (Rat.divInt a b)) (fun O w' r=>nT (Rel.old r (bs w)) ((hA.rel r (bs w)).l (k:=2) (by omega)) ((hB.rel r (bs w)).l (k:=2) (by omega)) (by omega) (by omega) h) ?_);rintro O wa3 v3 wb3 iv3 r he hw h_ hn;have hR:=hn.dB (S:=fun _=>False) r.bw (mN h_);obtain⟨s3_0,s3_1,s3_2,s3_3,s3_4,s3_5,s3_6,s3_7,rfl⟩:=hR.shape;intro ρe we re;exact⟨_,rfl,hw.tr re.cI,.inr ⟨h,_,rfl,hR.out re (bs w)⟩⟩
section
variable{S S':Nat->Prop}{H:Hp}{nx:Nat}{iv iv':Iv}{B:Nat}{w w' w2:World}{O:Nat->Sx.dU}{v:Value}{a:Int}{b:Int}
end
theorem jH.short{b:Bool}{n c k:Nat}{z:Int}(h:jH w S (.agg #[.bool b,.slice a n c]) z)(hk:n<=k):fC w S (.agg #[.bool b,.slice a n c]) k z:=by
 obtain⟨b2,ls,⟨lv,e1,h3⟩,h2⟩:=h;obtain⟨a2,c2,e2,_⟩:=h3.sl;subst e2;simp only[Value.agg.injEq,Array.mk.injEq,List.cons.injEq,Value.bool.injEq,Value.slice.injEq,and_true]at e1;obtain⟨rfl,rfl,e3,rfl⟩:=e1;exact⟨_,ls,⟨_,by rw[e3],h3⟩,h2,by omega⟩
def lT(w:World)(S:Nat->Prop)(cs:List Value)(q:Rat):Prop:=∃b a n c b2 a2 n2 c2,cs=[.bool b,.slice a n c,.bool b2,.slice a2 n2 c2]∧eX w S (.agg #[.bool b,.slice a n c,.bool b2,.slice a2 n2 c2]) q
abbrev dx:=dZ lT
section
variable{S S':Nat->Prop}{H:Hp}{nx:Nat}{iv iv':Iv}{B:Nat}{w w' w2:World}{O:Nat->Sx.dU}{v:Value}{qs:List Rat}{cs:List Value}{q:Rat}
theorem lT.cB(h:lT w S cs q)(hk:∀g,S g->w2.heap[g]? =w.heap[g]?):lT w2 S cs q:=by
 obtain⟨b,a,n,c,b2,a2,n2,c2,h1,h2⟩:=h;exact⟨b,a,n,c,b2,a2,n2,c2,h1,h2.cB hk⟩
theorem lT.cC(h:lT w S cs q)(hk:∀g,S g->S' g):lT w S' cs q:=by
 obtain⟨b,a,n,c,b2,a2,n2,c2,h1,h2⟩:=h;exact⟨b,a,n,c,b2,a2,n2,c2,h1,h2.cC hk⟩
theorem dx.cB(h:dx w S v qs)(hk:∀g,S g->w2.heap[g]? =w.heap[g]?):dx w2 S v qs:=by
 obtain⟨css,h1,h2,h3,h4⟩:=h;exact⟨css,h1.cB hk,h2,h3,fun j cs x k1 k2=>(h4 j cs x k1 k2).cB hk⟩
theorem dx.cC(h:dx w S v qs)(hk:∀g,S g->S' g):dx w S' v qs:=by
 obtain⟨css,h1,h2,h3,h4⟩:=h;exact⟨css,h1.cC hk,h2,h3,fun j cs x k1 k2=>(h4 j cs x k1 k2).cC hk⟩
end
section
variable{S S':Nat->Prop}{H:Hp}{nx:Nat}{iv iv':Iv}{B:Nat}{w w' w2:World}{O:Nat->Sx.dU}{v:Value}{qs:List Rat}
theorem dx.rel(h:dx w (Cv S B iv) v qs)(r:Rel H nx iv B w O w')(hS:∀g,S g->g<B):dx w' (Cv S B iv) v qs:=dx.cB h fun _ hg=>Rel.same r hS hg
theorem dx.bz(h:dx w (Cv S B iv) v qs)(r:Rel H nx iv B w O w')(hS:∀g,S g->g<B)(he:Ext w' w2)(hm:∀p,p∈iv->p∈iv'):dx w2 (Cv S B iv') v qs:=
 dx.cC (dx.cB (dx.rel h r hS) fun g hg=>he.block g (Rel.old r hS g hg)) fun _ hg=>hg.mono hm
end
section
variable{S S':Nat->Prop}{H:Hp}{nx:Nat}{iv iv':Iv}{B:Nat}{w w' w2:World}{O:Nat->Sx.dU}{v:Value}{M:List (List Rat)}
end
def zV(w:World)(S:Nat->Prop)(css:List (List Value))(qs:List Rat):Prop:=∀(j:Nat) cs q,css[j]? =some cs->qs[j]? =some q->iT w S cs q
section
variable{S S':Nat->Prop}{H:Hp}{nx:Nat}{iv iv':Iv}{B:Nat}{w w' w2:World}{O:Nat->Sx.dU}{css:List (List Value)}{qs:List Rat}
theorem zV.rel(h:zV w (Cv S B iv) css qs)(r:Rel H nx iv B w O w')(hS:∀g,S g->g<B):zV w' (Cv S B iv) css qs:=fun j cs q h1 h2=>(h j cs q h1 h2).cB fun _ hg=>Rel.same r hS hg
theorem zV.bz(h:zV w (Cv S B iv) css qs)(r:Rel H nx iv B w O w')(hS:∀g,S g->g<B)(he:Ext w' w2)(hm:∀p,p∈iv->p∈iv'):zV w2 (Cv S B iv') css qs:=fun j cs q h1 h2=>
 (((h.rel r hS) j cs q h1 h2).cB fun g hg=>he.block g (Rel.old r hS g hg)).cC fun _ hg=>hg.mono hm
theorem zV.push(h:zV w S css qs)(hq:qs[css.length]? =some q)(hc:iT w S cs q):zV w S (css++[cs]) qs:=fun j cs' q' h1 h2=>by
 rcases aO j css.length with hj|hj
 ·rw[aK hj]at h1;exact h j cs' q' h1 h2
 ·have hj0:j=css.length:=by have:=(aC.1 h1).1;simp at this;omega
  subst hj0;rw[aN (aE _),bH]at h1;simp at h1;rw[hq]at h2;injection h2 with h2;subst h1 h2;exact hc
end
theorem yq(h:∀x∈css,x.length=4∧∀u∈x,u.oneCell'=true)(hc:cs.length=4∧∀u∈cs,u.oneCell'=true):∀x∈css++[cs],x.length=4∧∀u∈x,u.oneCell'=true:=fun x hx=>by
 rcases bK.1 hx with hx|hx
 ·exact h x hx
 ·simp at hx;subst hx;exact hc
def Lb(w w2:World)(v:Value)(xs:List Rat):Prop:=∃css:List (List Value),w2.ownsRow w.heap.size T.Rat 4 v xs.length css.flatten∧css.length=xs.length∧(∀cs∈css,cs.length=4∧∀u∈cs,u.oneCell'=true)∧∀(j:Nat) cs q,css[j]? =some cs->xs[j]? =some q->iT w2 (fun g=>Nf w w2 g∧v.ownBlock≠some g) cs q
theorem Jl{id n g:Nat}(h:((At.w id n).den O).ownBlock=some g):(O id).nil=false∧(O id).g=g:=by
 cases hn:(O id).nil with
 |true=>rw[show (At.w id n).den O= .slice none 0 0 by simp[At.den,hn]]at h;cases h
 |false=>
  rw[show (At.w id n).den O= .slice (some ⟨(O id).g,0,none⟩) n (O id).cap by simp[At.den,hn]]at h;injection h with h;exact⟨rfl,h⟩
def iz(xs ys:List Rat)(b:Rat):List Rat:=(List.range ys.length).map fun j=>if 0<xs.length then xs.getD j 0+ys.getD j 0*b else ys.getD j 0*b
theorem jM(xs ys:List Rat)(b:Rat):(iz xs ys b).length=ys.length:=by simp[iz]
theorem pT{j:Nat}(h:j<ys.length):(iz xs ys b)[j]? =some (if 0<xs.length then xs.getD j 0+ys.getD j 0*b else ys.getD j 0*b):=by
 rw[iz,aM,bS h];rfl
theorem I2{v t:Value}(hS:Old S w)(hx:dx w S v xs)(hy:dx w S u ys)(hb:eX w S t b)(hlen:xs=[]∨xs.length=ys.length)(hn:ys.length<=1000000)(hbound:∀y∈ys,rl y+rl b<=100000):
  du PG N.qi #[v,u,t] w (eD w fun v' w2=>cF w2 (Nf w w2) v' (iz xs ys b)∧Lb w w2 v' (iz xs ys b)):=by
 have hw:cQ w.heap.size w w:=cQ.refl;obtain⟨ax,cx,rfl,hcx,hmx⟩:=dZ.shape hx;obtain⟨ay,cy,rfl,hcy,hmy⟩:=dZ.shape hy;obtain⟨t0,t1,t2,t3,t4,t5,t6,t7,rfl⟩:=hb.shape;have hpl:=jM xs ys b;refine zD (by simp) ?_
 refine⟨List (List Value)×World×Iv,fun z=>⟨[(0,.o (.v (.slice ax xs.length cx))),(1,.o (.v (.slice ay ys.length cy))),(5,.o (.p 0 0)),(7,.o (.w 1 z.1.length)),(8,.o (.v (.int .i64 z.1.length)))],[(1,.vec T.Rat 4 z.1.flatten),(0,.box T.Rat [.v (.bool t0),.v (.slice t1 t2 t3),.v (.bool t4),.v (.slice t5 t6 t7)])],2,z.2.2,z.2.1⟩,fun z=>ys.length-z.1.length,
  fun z=>z.1.length<=ys.length∧cQ w.heap.size w z.2.1∧(∀x∈z.1,x.length=4∧∀u∈x,u.oneCell'=true)∧zV z.2.1 (Cf w z.2.2) z.1 (iz xs ys b),?_,?_⟩
 ·intro O w' r
  exact⟨([],w',[]),⟨by simp,r.cI,by simp,fun j cs q h=>by simp at h⟩,Sub.nil 7 T.Rat 4 rfl (by simp[ko,SV.sc,At.sc,gM]) r fun ρ1 r1=>
   Sub.gn [] r1⟩
 clear hw;rintro⟨css,w1,iv⟩ ⟨hi,hw,h4,hat⟩;dsimp only at hi hw h4 hat ⊢;have hfl:=fu fun x hx=>(h4 x hx).1;refine dH.mk (fun hib=>?_) (fun hib=>?_)
 ·have hib:css.length<ys.length:=by simpa using hib
  obtain⟨y,hyi⟩:∃y,ys[css.length]? =some y:=⟨_,aA hib⟩
  obtain⟨ady,csy,hay,hFy,_,hly⟩:=dZ.load hy hyi;obtain⟨p0,p1,p2,p3,p4,p5,p6,p7,rfl,hFy⟩:=hFy;have hyd:ys.getD css.length 0=y:=by rw[List.getD,hyi];rfl
  have hpq:=pT (xs:=xs) (b:=b) hib;rw[hyd]at hpq;have hbd:=hbound y (aD hyi);have hrm:=jL y b;refine dH.mk (fun hx0=>?_) (fun hx0=>?_)
  ·have hx0:0<xs.length:=by have:=aH hx0;omega
   have hxl:css.length<xs.length:=hlen.elim (fun h=>by rw[h]at hx0;simp at hx0) (fun h=>by omega);obtain⟨x,hxi⟩:∃x,xs[css.length]? =some x:=⟨_,aA hxl⟩
   obtain⟨adx,csx,hax,hFx,_,hlx⟩:=dZ.load hx hxi;obtain⟨q0,q1,q2,q3,q4,q5,q6,q7,rfl,hFx⟩:=hFx;have hxd:xs.getD css.length 0=x:=by rw[List.getD,hxi];rfl
   rw[if_pos hx0,hxd]at hpq;refine⟨ady,hay,by omega,[.bool p0,.slice p1 p2 p3,.bool p4,.slice p5 p6 p7],rfl,fun O w' r i x hx=>?_,?_⟩
   ·obtain⟨k1,k2⟩:=hly i x hx;rw[aJ,cJ (w:=w) (w2:=w') (by rw[dq,dq];exact(hw.tr r.cI).block _ (hS _ k1))];exact k2
   refine bu (cE hw (fun _ w' v w2=>v= .int .i64 (rs y)) (fun O w' r=>EW (oS hS r) (hFy.cB (kS hw r hS))) ?_);rintro O wa1 v1 wb1 iv1 r he hw h_ rfl;replace hat:=hat.bz r (bs w) he (mC h_);clear r;refine dH.mk (fun hs=>?_) (fun hs=>?_)
   ·have hs:y=0:=BJ.1 (by simpa using hs);rw[hs,bC,bV]at hpq;refine⟨adx,hax,by omega,[.bool q0,.slice q1 q2 q3,.bool q4,.slice q5 q6 q7],rfl,fun O w' r i x hx=>?_,?_⟩
    ·obtain⟨k1,k2⟩:=hlx i x hx;rw[aJ,cJ (w:=w) (w2:=w') (by rw[dq,dq];exact(hw.tr r.cI).block _ (hS _ k1))];exact k2
    refine bu (cE hw (fun _ w' v w2=>cP w2 (Nf w' w2) v (x)) (fun O w' r=>iQ (oS hS r) (hFx.cB (kS hw r hS))) ?_);rintro O wa2 v2 wb2 iv2 r he hw h_ hn;replace hat:=hat.bz r (bs w) he (mC h_);have hv1:=hn.dB (S:=fun _=>False) r.bw (mN h_);clear r hn;obtain⟨s2_0,s2_1,s2_2,s2_3,s2_4,s2_5,s2_6,s2_7,rfl⟩:=hv1.shape;refine .inl ?_;refine⟨hfl,by omega,by unfold maxLen;omega,((css.length+1:Nat):Int),wo,?_⟩;intro ρ3 w3 r3;have hl3:(css++[[Value.bool s2_0,.slice s2_1 s2_2 s2_3,.bool s2_4,.slice s2_5 s2_6 s2_7]]).length=css.length+1:=by simp
    have hf3:(css++[[Value.bool s2_0,.slice s2_1 s2_2 s2_3,.bool s2_4,.slice s2_5 s2_6 s2_7]]).flatten=css.flatten++[Value.bool s2_0,.slice s2_1 s2_2 s2_3,.bool s2_4,.slice s2_5 s2_6 s2_7]:=by simp
    exact⟨(css++[[.bool s2_0,.slice s2_1 s2_2 s2_3,.bool s2_4,.slice s2_5 s2_6 s2_7]],w3,_),⟨by dsimp only;rw[hl3];exact hib,hw.tr r3.cI,yq h4 ⟨rfl,by intro u hu;simp at hu;rcases hu with rfl|rfl|rfl|rfl<;>rfl⟩,(hat.rel r3 (bs w)).push hpq (hv1.rel r3 (bs w)).s5⟩,
     Sub.gn [(1,3)] r3 ⟨by dsimp only;rw[hf3];rfl,rfl,trivial⟩ ⟨rfl,rfl,rfl,by dsimp only;rw[hl3];rfl,by dsimp only;rw[hl3];rfl,trivial⟩,by dsimp only;rw[hl3];omega⟩
   refine cD hτ df [.x 0,.x 1,.x 2,.x 3,.x 4,.p 6,.x 5,.x 6,.x 7] (by kernel_rfl) (by kernel_rfl) ?_;refine⟨ady,hay,by omega,[.bool p0,.slice p1 p2 p3,.bool p4,.slice p5 p6 p7],rfl,fun O w' r i x hx=>?_,?_⟩
   ·obtain⟨k1,k2⟩:=hly i x hx;rw[aJ,cJ (w:=w) (w2:=w') (by rw[dq,dq];exact(hw.tr r.cI).block _ (hS _ k1))];exact k2
   refine cE hw (fun _ w' v w2=>cP w2 (Nf w' w2) v (y*b)) (fun O w' r=>I1 (oS hS r) (hFy.cB (kS hw r hS)) (hb.cB (kS hw r hS))) ?_;rintro O wa2 v2 wb2 iv2 r he hw h_ hn;replace hat:=hat.bz r (bs w) he (mC h_);have hm:=hn.dB (S:=fun _=>False) r.bw (mN h_);clear r hn;obtain⟨s2_0,s2_1,s2_2,s2_3,s2_4,s2_5,s2_6,s2_7,rfl⟩:=hm.shape;refine dH.mk (fun hx1=>?_) (fun hx1=>absurd hx0 (by have:=aG hx1;omega));refine cD hτ df [.x 0,.x 1,.x 2,.x 3,.x 4,.x 5,.x 6] (by kernel_rfl) (by kernel_rfl) ?_;refine⟨adx,hax,by omega,[.bool q0,.slice q1 q2 q3,.bool q4,.slice q5 q6 q7],rfl,fun O w' r i x hx=>?_,?_⟩
   ·obtain⟨k1,k2⟩:=hlx i x hx;rw[aJ,cJ (w:=w) (w2:=w') (by rw[dq,dq];exact(hw.tr r.cI).block _ (hS _ k1))];exact k2
   refine cE hw (fun _ w' v w2=>cP w2 (Nf w' w2) v (x+y*b)) (fun O w' r=>K5 (Rel.old r hS) ((hFx.cB (kS hw r hS)).cC fun g hg=>Or.inl hg) (((hm.rel r (bs w)).l (by omega)).cC fun g hg=>Cv.false hg)) ?_;rintro O wa3 v3 wb3 iv3 r he hw h_ hn;replace hat:=hat.bz r (bs w) he (mC h_);clear hm;have hv1:=hn.dB (S:=fun _=>False) r.bw (mN h_);clear r hn;obtain⟨s3_0,s3_1,s3_2,s3_3,s3_4,s3_5,s3_6,s3_7,rfl⟩:=hv1.shape;refine .inl ?_;refine⟨hfl,by omega,by unfold maxLen;omega,((css.length+1:Nat):Int),wo,?_⟩;intro ρ3 w3 r3;have hl3:(css++[[Value.bool s3_0,.slice s3_1 s3_2 s3_3,.bool s3_4,.slice s3_5 s3_6 s3_7]]).length=css.length+1:=by simp
   have hf3:(css++[[Value.bool s3_0,.slice s3_1 s3_2 s3_3,.bool s3_4,.slice s3_5 s3_6 s3_7]]).flatten=css.flatten++[Value.bool s3_0,.slice s3_1 s3_2 s3_3,.bool s3_4,.slice s3_5 s3_6 s3_7]:=by simp
   exact⟨(css++[[.bool s3_0,.slice s3_1 s3_2 s3_3,.bool s3_4,.slice s3_5 s3_6 s3_7]],w3,_),⟨by dsimp only;rw[hl3];exact hib,hw.tr r3.cI,yq h4 ⟨rfl,by intro u hu;simp at hu;rcases hu with rfl|rfl|rfl|rfl<;>rfl⟩,(hat.rel r3 (bs w)).push hpq (hv1.rel r3 (bs w)).s5⟩,
    Sub.gn [(1,4)] r3 ⟨by dsimp only;rw[hf3];rfl,rfl,trivial⟩ ⟨rfl,rfl,rfl,by dsimp only;rw[hl3];rfl,by dsimp only;rw[hl3];rfl,trivial⟩,by dsimp only;rw[hl3];omega⟩
  have hx0:¬0<xs.length:=by have:=aG hx0;omega
  rw[aF hx0]at hpq;refine cD hτ df [.x 0,.x 1,.x 2,.x 3,.x 4,.p 6,.x 5,.x 6,.x 7] (by kernel_rfl) (by kernel_rfl) ?_;refine⟨ady,hay,by omega,[.bool p0,.slice p1 p2 p3,.bool p4,.slice p5 p6 p7],rfl,fun O w' r i x hx=>?_,?_⟩
  ·obtain⟨k1,k2⟩:=hly i x hx;rw[aJ,cJ (w:=w) (w2:=w') (by rw[dq,dq];exact(hw.tr r.cI).block _ (hS _ k1))];exact k2
  refine cE hw (fun _ w' v w2=>cP w2 (Nf w' w2) v (y*b)) (fun O w' r=>I1 (oS hS r) (hFy.cB (kS hw r hS)) (hb.cB (kS hw r hS))) ?_;rintro O wa1 v1 wb1 iv1 r he hw h_ hn;replace hat:=hat.bz r (bs w) he (mC h_);have hm:=hn.dB (S:=fun _=>False) r.bw (mN h_);clear r hn;obtain⟨s1_0,s1_1,s1_2,s1_3,s1_4,s1_5,s1_6,s1_7,rfl⟩:=hm.shape;refine dH.mk (fun hx1=>absurd (aH hx1) (by omega)) (fun hx1=>?_);refine .inl ?_;refine⟨hfl,by omega,by unfold maxLen;omega,((css.length+1:Nat):Int),wo,?_⟩;intro ρ3 w3 r3;have hl3:(css++[[Value.bool s1_0,.slice s1_1 s1_2 s1_3,.bool s1_4,.slice s1_5 s1_6 s1_7]]).length=css.length+1:=by simp
  have hf3:(css++[[Value.bool s1_0,.slice s1_1 s1_2 s1_3,.bool s1_4,.slice s1_5 s1_6 s1_7]]).flatten=css.flatten++[Value.bool s1_0,.slice s1_1 s1_2 s1_3,.bool s1_4,.slice s1_5 s1_6 s1_7]:=by simp
  exact⟨(css++[[.bool s1_0,.slice s1_1 s1_2 s1_3,.bool s1_4,.slice s1_5 s1_6 s1_7]],w3,_),⟨by dsimp only;rw[hl3];exact hib,hw.tr r3.cI,yq h4 ⟨rfl,by intro u hu;simp at hu;rcases hu with rfl|rfl|rfl|rfl<;>rfl⟩,(hat.rel r3 (bs w)).push hpq (hm.rel r3 (bs w)).s5⟩,
   Sub.gn [(1,4)] r3 ⟨by dsimp only;rw[hf3];rfl,rfl,trivial⟩ ⟨rfl,rfl,rfl,by dsimp only;rw[hl3];rfl,by dsimp only;rw[hl3];rfl,trivial⟩,by dsimp only;rw[hl3];omega⟩
 have hib:css.length=ys.length:=aQ hi (by simpa using hib);intro ρe we re;have hone:∀u∈css.flatten,u.oneCell'=true:=fun u hu=>by
  obtain⟨cs,hc,hu⟩:=List.mem_flatten.1 hu;exact(h4 cs hc).2 u hu
 refine⟨_,rfl,hw.tr re.cI,?_,css,by rw[hpl,<-hib];exact Bv re (id:=1) rfl hfl (by decide),by rw[hpl];exact hib,h4,fun j cs q k1 k2=>((hat j cs q k1 k2).cB fun g hg=>Rel.same re (bs w) hg).cC fun g hg=>⟨Cv.nw hg re,fun e=>Rel.not re (bs w) hg 1 _ rfl (Jl e).1 (Jl e).2⟩⟩;refine⟨css,?_,by rw[hpl];exact hib,fun cs hc=>(h4 cs hc).1,fun j cs q k1 k2=>((hat j cs q k1 k2).cB fun g hg=>Rel.same re (bs w) hg).cC fun g hg=>Cv.nw hg re⟩;have:=re.jq (id:=1) (sz:=4) (m:=css.length) rfl hfl (by unfold maxLen;omega) (by decide) hone;rw[hpl,<-hib];exact this.cC fun g hg=>.inr hg
theorem FM{v t:Value}(hS:Old S w)(hx:dx w S v xs)(hy:dx w S u ys)(hb:eX w S t b)(hlen:xs=[]∨xs.length=ys.length)(hn:ys.length<=1000000)(hbound:∀y∈ys,rl y+rl b<=100000):
  du PG N.qi #[v,u,t] w (eD w fun v' w2=>cF w2 (Nf w w2) v' (iz xs ys b)):=
 (I2 hS hx hy hb hlen hn hbound).mono fun _ _ ⟨v2,e1,e2,e3,_⟩=>⟨v2,e1,e2,e3⟩
end Go.Ex
namespace Go.Ex
variable{M:List (List Rat)}{s:List (List Rat)×List Nat}
theorem DV{c r k R:Nat}(hk:r<=k)(hR:k<=R)(h:∀j,r<=j->j<k->cd M j c=0):gk M c (R-r) r=gk M c (R-k) k:=by
 induction k with
 |zero=>
  have:r=0:=by omega
  subst this;rfl
 |succ k ih=>
  rcases aO k r with h1|h1
  ·have:r=k+1:=by omega
   subst this;rfl
  ·rw[ih h1 (by omega) fun j h2 h3=>h j h2 (by omega),show R-k=(R-(k+1))+1 by omega,DW (h k h1 (by omega))]
theorem iX{α:Type}{l:List α}{i:Nat}{x:α}(h:i<l.length):l.take i++[x]++l.drop (i+1)=l.set i x:=by
 rw[List.set_eq_take_append_cons_drop,if_pos h];simp
theorem DX{c:Nat}(h:¬s.2.length<s.1.length∨gk s.1 c (s.1.length-s.2.length) s.2.length=s.1.length):db s c=s:=by
 unfold db;split
 ·rcases h with h|h
  ·exact absurd ‹_› h
  ·dsimp only;rw[if_pos h]
 ·rfl
theorem DY{c k:Nat}(hk:s.2.length<=k)(hl:k<s.1.length)(h:∀j,s.2.length<=j->j<k->cd s.1 j c=0)(hn:cd s.1 k c≠0):
  db s c=(gl (scaled (jK [] s.1 s.2.length k) s.2.length c) s.2.length c s.1.length,s.2++[c]):=by
 have e:gk s.1 c (s.1.length-s.2.length) s.2.length=k:=by
  rw[DV hk (by omega) h,show s.1.length-k=(s.1.length-k-1)+1 by omega,DZ hn]
 unfold db;rw[if_pos (by omega)];dsimp only
 rw[e,aF (by omega),pt,kC]
end Go.Ex
namespace Go.Ex
open Go Go.Sx Go.Proofs
variable{qs:List Rat}{S:Nat->Prop}
theorem GP(ys:List Rat)(b:Rat):iz [] ys b=ys.map (· *b):=by
 refine bO fun j=>?_;rcases aO j ys.length with h|h
 ·rw[pT h,aF (by simp),aM,List.getD,aA h];rfl
 ·rw[List.getElem?_eq_none (by rw[jM];exact h),List.getElem?_eq_none (by simp;exact h)]
theorem cF.l{w:World}{v:Value}(h:cF w S v qs)(hq:∀q∈qs,rl q<=100000):dx w S v qs:=by
 obtain⟨css,h1,h2,h3,h4⟩:=h;refine⟨css,h1,h2,h3,fun j cs q k1 k2=>?_⟩;obtain⟨b,a,n,c,b2,a2,n2,c2,e,hc⟩:=h4 j cs q k1 k2;exact⟨b,a,n,c,b2,a2,n2,c2,e,hc.l (hq q (aD k2))⟩
section
variable{S S':Nat->Prop}{H:Hp}{nx:Nat}{iv iv':Iv}{B:Nat}{w w' w2:World}{O:Nat->Sx.dU}{rv:List Value}{M:List (List Rat)}
end
end Go.Ex
namespace Go.Ex
variable{s:List (List Rat)×List Nat}
theorem dw(M:List (List Rat))(cols:Nat):(cG M cols).1.length=M.length:=by
 have key:∀(l:List Nat) (s:List (List Rat)×List Nat),(l.foldl db s).1.length=s.1.length:=by
  intro l
  induction l with
  |nil=>exact fun s=>rfl
  |cons c l ih=>exact fun s=>by rw[List.foldl_cons,ih,mm]
 exact key _ _
theorem qZ{M:List (List Rat)}{c:Nat}:∀f k j,k<=j->j<gk M c f k->cd M j c=0
 |0,k,j,h1,h2=>by simp only[gk]at h2;omega
 |f+1,k,j,h1,h2=>by
  unfold gk at h2;split at h2
  ·rename_i h0;rcases aO k j with h|h
   ·exact qZ f (k+1) j h h2
   ·rw[show j=k by omega];exact h0
  ·omega
theorem iy(c:Nat)(hle:s.2.length<=s.1.length):(db s c=s∧∀j,s.2.length<=j->j<s.1.length->cd s.1 j c=0)∨
  ∃k,s.2.length<=k∧k<s.1.length∧cd s.1 k c≠0∧db s c=(gl (scaled (jK [] s.1 s.2.length k) s.2.length c) s.2.length c s.1.length,s.2++[c]):=by
 have h1:=wy s.1 c (s.1.length-s.2.length) s.2.length;by_cases hk:gk s.1 c (s.1.length-s.2.length) s.2.length=s.1.length
 ·exact .inl ⟨DX (.inr hk),fun j hj hl=>qZ (s.1.length-s.2.length) s.2.length j hj (by omega)⟩
 ·exact .inr ⟨_,h1.1,by omega,wz s.1 c _ _ (by omega),DY h1.1 (by omega) (fun j h2 h3=>qZ _ _ j h2 h3) (wz s.1 c _ _ (by omega))⟩
theorem tJ{p:Rat}{r s:List Rat}{c:Nat}(h:c<r.length):(r.mapIdx (xA p s)).getD c 0=r.getD c 0+p*s.getD c 0:=by
 simp only[List.getD,List.getElem?_mapIdx,aA h]
 rfl
theorem xB{r:List Rat}{k:Rat}{c:Nat}:(r.map (· *k)).getD c 0=r.getD c 0*k:=by
 simp only[List.getD,aM]
 cases r[c]? with
 |none=>exact(bC k).symm
 |some q=>rfl
theorem kU{c k n:Nat}(hl:fp n s.1)(h1:s.2.length<=k)(h2:k<s.1.length)(h3:cd s.1 k c≠0)(e:db s c=(gl (scaled (jK [] s.1 s.2.length k) s.2.length c) s.2.length c s.1.length,s.2++[c])):
  (∀t,cd (db s c).1 s.2.length t=cd s.1 k t*(1 / cd s.1 k c))∧
  ∀j,j<s.1.length->j≠s.2.length->∀t,t<n->cd (db s c).1 j t=cd s.1 (if j=k then s.2.length else j) t+ -(cd s.1 (if j=k then s.2.length else j) c)*(cd s.1 k t*(1 / cd s.1 k c)):=by
 have hp:s.2.length<s.1.length:=by omega
 have hsw:cd (jK [] s.1 s.2.length k) s.2.length c=cd s.1 k c:=Gl hp h2;have hpiv:(scaled (jK [] s.1 s.2.length k) s.2.length c).getD s.2.length []=(s.1.getD k []).map (· *(1 / cd s.1 k c)):=by
  unfold scaled;rw[hsw,List.getD,aT (by rw[kC];exact hp)];simp only[Option.getD_some]
  congr 1;rw[List.getD,List.getD,zp hp h2]
 have hrow:∀j,j<s.1.length->j≠s.2.length->(scaled (jK [] s.1 s.2.length k) s.2.length c)[j]? =some (s.1.getD (if j=k then s.2.length else j) []):=fun j hj hne=>by
  unfold scaled;rw[aw (Ne.symm hne)];unfold jK;by_cases hjk:j=k
  ·subst hjk;rw[aT (by simpa using hj),if_pos rfl]
  ·rw[aw (Ne.symm hjk),aw (Ne.symm hne),aF hjk,List.getD,aA hj];rfl
 have hgp:(gl (scaled (jK [] s.1 s.2.length k) s.2.length c) s.2.length c s.1.length).getD s.2.length []=(s.1.getD k []).map (· *(1 / cd s.1 k c)):=by
  rw[<-hpiv];simp only[List.getD,D2]
 rw[e];refine⟨fun t=>?_,fun j hj hne t ht=>?_⟩
 ·show((gl (scaled (jK [] s.1 s.2.length k) s.2.length c) s.2.length c s.1.length).getD s.2.length []).getD t 0=_;rw[hgp,xB];rfl
 ·have hgj:(gl (scaled (jK [] s.1 s.2.length k) s.2.length c) s.2.length c s.1.length).getD j []=(s.1.getD (if j=k then s.2.length else j) []).mapIdx (xA (-((s.1.getD (if j=k then s.2.length else j) []).getD c 0)) ((s.1.getD k []).map (· *(1 / cd s.1 k c)))):=by
   simp only[List.getD,gl,List.getElem?_mapIdx,hrow j hj hne,Option.map_some,Option.getD_some]
   rw[if_pos ⟨hj,hne⟩];exact congrArg (fun P=>(s.1.getD (if j=k then s.2.length else j) []).mapIdx (xA (-((s.1.getD (if j=k then s.2.length else j) []).getD c 0)) P)) hpiv
  show((gl (scaled (jK [] s.1 s.2.length k) s.2.length c) s.2.length c s.1.length).getD j []).getD t 0=_;rw[hgj,tJ (by rw[hl.getD (by split<;>omega)];exact ht),xB];rfl
theorem rU{x:Rat}(h:x≠0):x*(1 / x)=1:=by rw[bc,bp,Rat.mul_inv_cancel x h]
def K7(n c:Nat)(s:List (List Rat)×List Nat):Prop:=fp n s.1∧s.2.length<=s.1.length∧(∀j t,s.2.length<=j->j<s.1.length->t<c->cd s.1 j t=0)∧(∀p∈s.2,p<c)∧
 ∀i j,i<s.2.length->j<s.1.length->cd s.1 j (s.2.getD i 0)=if j=i then 1 else 0
theorem K7.step{n c:Nat}(h:K7 n c s)(hc:c<n):K7 n (c+1) (db s c):=by
 obtain⟨hl,hle,hz,hpc,hu⟩:=h;rcases iy c hle with⟨e,h0⟩|⟨k,h1,h2,h3,e⟩
 ·rw[e];refine⟨hl,hle,fun j t hj hjl ht=>?_,fun p hp=>by have:=hpc p hp;omega,hu⟩;rcases aO t c with h|h
  ·exact hz j t hj hjl h
  ·rw[show t=c by omega];exact h0 j hj hjl
 ·obtain⟨r1,r2⟩:=kU hl h1 h2 h3 e;have hlen:(db s c).1.length=s.1.length:=mm s c;have e2:(db s c).2=s.2++[c]:=by rw[e]
  have e3:(db s c).2.length=s.2.length+1:=by rw[e2];simp
  have hone:∀j,j<s.1.length->j≠s.2.length->cd (db s c).1 j c=0:=fun j hj hne=>by
   rw[r2 j hj hne c hc,rU h3,Rat.mul_one,Rat.add_neg_cancel]
  refine⟨hl.step,by rw[e3,hlen];omega,fun j t hj hjl ht=>?_,fun p hp=>?_,fun i j hi hj=>?_⟩
  ·rw[e3]at hj;rw[hlen]at hjl;rcases aO t c with h|h
   ·rw[r2 j hjl (by omega) t (by omega),hz k t h1 h2 h,hz (if j=k then s.2.length else j) t (by split<;>omega) (by split<;>omega) h,bC,bA,Rat.zero_add]
   ·rw[show t=c by omega];exact hone j hjl (by omega)
  ·rw[e2]at hp;rcases bK.1 hp with hp|hp
   ·have:=hpc p hp;omega
   ·rw[bD.1 hp];omega
  ·rw[e3]at hi;rw[hlen]at hj;rcases aO i s.2.length with h|h
   ·have hg:(db s c).2.getD i 0=s.2.getD i 0:=by rw[e2,List.getD,aK h,<-List.getD]
    have hpm:s.2.getD i 0<c:=hpc _ (by rw[List.getD,aA h];exact aV h);have hk0:cd s.1 k (s.2.getD i 0)=0:=hz k _ h1 h2 hpm;rw[hg];by_cases hjp:j=s.2.length
    ·rw[hjp,r1,hk0,bC,aF (by omega)]
    ·rw[r2 j hj hjp _ (by omega),hk0,bC,bA,bV];by_cases hjk:j=k
     ·rw[if_pos hjk,hu i _ h (by omega),aF (by omega),aF (by omega)]
     ·rw[aF hjk,hu i j h hj]
   ·have hg:(db s c).2.getD i 0=c:=by rw[e2,List.getD,aN h,show i-s.2.length=0 by omega];rfl
    rw[hg];by_cases hjp:j=s.2.length
    ·rw[hjp,r1,rU h3,if_pos (by omega)]
    ·rw[hone j hj hjp,aF (by omega)]
theorem dS{M:List (List Rat)}{n:Nat}(hl:fp n M):∀cols,cols<=n->K7 n cols (cG M cols)
 |0,_=>⟨hl,aP _,fun _ _ _ _ h=>by omega,fun p hp=>(by cases hp),fun _ _ h=>(by cases h)⟩
 |c+1,h=>by
  have ih:=dS hl c (by omega);unfold cG at ih ⊢;rw[bT,List.foldl_append];exact ih.step (by omega)
abbrev Mx:=Nat->Nat->Rat
def skip(k j:Nat):Nat:=if j<k then j else j+1
def qc(k:Nat):Rat:=if k % 2=1 then -1 else 1
def cR(f:Nat->Rat):Nat->Rat
 |0=>0
 |n+1=>cR f n+f n
def fN:Nat->Mx->Rat
 |0,_=>1
 |n+1,m=>cR (fun k=>qc k*(m 0 k*fN n fun i j=>m (i+1) (skip k j))) (n+1)
theorem cA{f g:Nat->Rat}:∀{n:Nat},(∀k,k<n->f k=g k)->cR f n=cR g n
 |0,_=>rfl
 |n+1,h=>by rw[cR,cR,cA fun k hk=>h k (by omega),h n (by omega)]
theorem dQ:∀(n:Nat),cR (fun _=>0) n=0
 |0=>rfl
 |n+1=>by rw[cR,dQ n,bV]
theorem fO(f g:Nat->Rat):∀(n:Nat),cR (fun k=>f k+g k) n=cR f n+cR g n
 |0=>(bV 0).symm
 |n+1=>by rw[cR,cR,cR,fO f g n];grind
theorem eF(p:Rat)(f:Nat->Rat):∀(n:Nat),cR (fun k=>p*f k) n=p*cR f n
 |0=>(bA p).symm
 |n+1=>by rw[cR,cR,eF p f n];grind
theorem mF(f:Nat->Rat)(n:Nat):cR (fun k=> -f k) n= -cR f n:=by
 have h:=eF (-1) f n;rw[show (-1:Rat)*cR f n= -cR f n by grind]at h;rw[<-h];exact cA fun k _=>by grind
theorem xH(f:Nat->Rat):∀(n:Nat),cR f (n+1)=f 0+cR (fun k=>f (k+1)) n
 |0=>by show 0+f 0=f 0+0;grind
 |n+1=>by rw[cR,xH f n,cR];grind
theorem E6{k j n:Nat}(h:j<n):skip k j<n+1:=by unfold skip;split<;>omega
theorem Fa{k l:Nat}(h:k<=l)(j:Nat):skip k (skip l j)=skip (l+1) (skip k j):=by
 unfold skip;grind
theorem iA:∀{n:Nat} {m m':Mx},(∀i j,i<n->j<n->m i j=m' i j)->fN n m=fN n m'
 |0,_,_,_=>rfl
 |n+1,m,m',h=>by
  unfold fN;refine cA fun k hk=>?_;rw[h 0 k (by omega) hk,iA fun i j hi hj=>h (i+1) (skip k j) (by omega) (E6 hj)]
def gH(m:Mx)(r:Nat)(u:Nat->Rat):Mx:=fun i j=>if i=r then u j else m i j
theorem tK(m:Mx)(r k:Nat)(u:Nat->Rat):(fun i j=>gH m (r+1) u (i+1) (skip k j))=gH (fun i j=>m (i+1) (skip k j)) r fun j=>u (skip k j):=by
 funext i j
 unfold gH;by_cases h:i=r
 ·rw[if_pos h,if_pos (by omega)]
 ·rw[aF h,aF (by omega)]
theorem mG(p:Rat):∀(n r:Nat) (m:Mx),r<n->∀(u v:Nat->Rat),fN n (gH m r fun j=>u j+p*v j)=fN n (gH m r u)+p*fN n (gH m r v)
 |0,_,_,h,_,_=>by omega
 |n+1,0,m,_,u,v=>by
  unfold fN;rw[<-eF,<-fO];refine cA fun k _=>?_;have e:∀x:Nat->Rat,(fun i j=>gH m 0 x (i+1) (skip k j))=fun i j=>m (i+1) (skip k j):=fun x=>by
   funext i j;unfold gH;rw[aF (by omega)]
  rw[e,e,e];unfold gH;rw[if_pos rfl,if_pos rfl,if_pos rfl];grind
 |n+1,r+1,m,h,u,v=>by
  unfold fN;rw[<-eF,<-fO];refine cA fun k _=>?_;rw[tK,tK,tK,mG p n r _ (by omega) (fun j=>u (skip k j)) fun j=>v (skip k j)];have e:∀x:Nat->Rat,gH m (r+1) x 0 k=m 0 k:=fun x=>by unfold gH;rw[aF (by omega)]
  rw[e,e,e];grind
theorem xI{F:Nat->Nat->Rat}:∀{n:Nat},(∀k l,k<=l->l<n->F k l+F (l+1) k=0)->cR (fun k=>cR (F k) n) (n+1)=0
 |0,_=>by show 0+0=(0:Rat);grind
 |n+1,h=>by
  have ih:=xI (F:=F) (n:=n) fun k l h1 h2=>h k l h1 (by omega);have h3:cR (fun k=>F k n+F (n+1) k) (n+1)=0:=by
   rw[cA (g:=fun _=>0) fun k hk=>h k n (by omega) (by omega),dQ]
  rw[fO]at h3;rw[cR];have h4:cR (fun k=>cR (F k) (n+1)) (n+1)=cR (fun k=>cR (F k) n) (n+1)+cR (fun k=>F k n) (n+1):=by
   rw[<-fO];rfl
  rw[h4,ih,Rat.zero_add];exact h3
def kN(a b i:Nat):Nat:=if i=a then b else if i=b then a else i
theorem Fb(r i:Nat):kN (r+1) (r+2) (i+1)=kN r (r+1) i+1:=by
 unfold kN;by_cases h:i=r
 ·rw[if_pos (by omega),if_pos h]
 ·rw[aF (by omega),aF h];by_cases h2:i=r+1
  ·rw[if_pos (by omega),if_pos h2]
  ·rw[aF (by omega),aF h2]
theorem Gp(k:Nat):qc (k+1)= -qc k:=by
 unfold qc;by_cases h:k % 2=1
 ·rw[if_pos h,aF (by omega)];grind
 ·rw[aF h,if_pos (by omega)]
theorem CA(n:Nat)(m:Mx):fN (n+2) m=cR (fun k=>cR (fun l=>qc k*qc l*(m 0 k*m 1 (skip k l))*fN n fun i j=>m (i+2) (skip k (skip l j))) (n+1)) (n+2):=by
 rw[fN];refine cA fun k _=>?_;rw[fN,<-eF,<-eF];refine cA fun l _=>?_;grind
theorem xJ:∀(n r:Nat) (m:Mx),r+1<n->fN n (fun i j=>m (kN r (r+1) i) j)= -fN n m
 |0,_,_,h=>by omega
 |1,_,_,h=>by omega
 |n+2,0,m,_=>by
  rw[CA,CA,<-mF];have key:cR (fun k=>cR (fun l=>qc k*qc l*(m 1 k*m 0 (skip k l))*(fN n fun i j=>m (i+2) (skip k (skip l j)))+qc k*qc l*(m 0 k*m 1 (skip k l))*fN n fun i j=>m (i+2) (skip k (skip l j))) (n+1)) (n+2)=0:=by
   refine xI fun k l h1 h2=>?_;have e1:skip k l=l+1:=by unfold skip;rw[aF (by omega)]
   have e2:skip (l+1) k=k:=by unfold skip;rw[if_pos (by omega)]
   have e3:(fun i j=>m (i+2) (skip (l+1) (skip k j)))=fun i j=>m (i+2) (skip k (skip l j)):=by
    funext i j;rw[Fa h1]
   rw[e1,e2,e3,Gp];grind
  have h4:cR (fun k=>cR (fun l=>qc k*qc l*(m 1 k*m 0 (skip k l))*(fN n fun i j=>m (i+2) (skip k (skip l j)))+qc k*qc l*(m 0 k*m 1 (skip k l))*fN n fun i j=>m (i+2) (skip k (skip l j))) (n+1)) (n+2)=
    cR (fun k=>cR (fun l=>qc k*qc l*(m 1 k*m 0 (skip k l))*fN n fun i j=>m (i+2) (skip k (skip l j))) (n+1)) (n+2)+cR (fun k=>cR (fun l=>qc k*qc l*(m 0 k*m 1 (skip k l))*fN n fun i j=>m (i+2) (skip k (skip l j))) (n+1)) (n+2):=by
   rw[<-fO];exact cA fun k _=>fO _ _ _
  rw[h4]at key;have h5:cR (fun k=> -cR (fun l=>qc k*qc l*(m 0 k*m 1 (skip k l))*fN n fun i j=>m (i+2) (skip k (skip l j))) (n+1)) (n+2)= -cR (fun k=>cR (fun l=>qc k*qc l*(m 0 k*m 1 (skip k l))*fN n fun i j=>m (i+2) (skip k (skip l j))) (n+1)) (n+2):=mF _ _;rw[h5];have h6:cR (fun k=>cR (fun l=>qc k*qc l*(m (kN 0 1 0) k*m (kN 0 1 1) (skip k l))*fN n fun i j=>m (kN 0 1 (i+2)) (skip k (skip l j))) (n+1)) (n+2)=cR (fun k=>cR (fun l=>qc k*qc l*(m 1 k*m 0 (skip k l))*fN n fun i j=>m (i+2) (skip k (skip l j))) (n+1)) (n+2):=by
   refine cA fun k _=>cA fun l _=>?_;have e:∀i,kN 0 1 (i+2)=i+2:=fun i=>by unfold kN;rw[aF (by omega),aF (by omega)]
   simp only[e]
   rfl
  rw[show (0:Nat)+1=1 from rfl,h6];grind
 |n+2,r+1,m,h=>by
  rw[fN,fN,<-mF];refine cA fun k _=>?_;have e:(fun i j=>m (kN (r+1) (r+1+1) (i+1)) (skip k j))=fun i j=>m (kN r (r+1) i+1) (skip k j):=by
   funext i j
   rw[show r+1+1=r+2 from rfl,Fb]
  have ih:fN (n+1) (fun i j=>m (kN r (r+1) i+1) (skip k j))= -fN (n+1) fun i j=>m (i+1) (skip k j):=xJ (n+1) r (fun i j=>m (i+1) (skip k j)) (by omega);rw[e,ih];rw[show kN (r+1) (r+1+1) 0=0 by unfold kN;rw[aF (by omega),aF (by omega)]];grind
theorem mq:∀(k n:Nat) (m:Mx),k+1<n->(∀j,j<n->m 0 j=m (k+1) j)->fN n m=0
 |0,n,m,h,he=>by
  have h1:=xJ n 0 m h;rw[iA (m':=m) fun i j hi hj=>?_]at h1
  ·grind
  ·unfold kN;by_cases h0:i=0
   ·rw[if_pos h0,h0];exact(he j hj).symm
   ·rw[aF h0];by_cases h2:i=1
    ·rw[if_pos h2,h2];exact he j hj
    ·rw[aF h2]
 |k+1,n,m,h,he=>by
  have h1:=xJ n (k+1) m h;rw[mq k n _ (by omega) fun j hj=>?_]at h1
  ·grind
  ·rw[show kN (k+1) (k+1+1) 0=0 by unfold kN;rw[aF (by omega),aF (by omega)],show kN (k+1) (k+1+1) (k+1)=k+1+1 by unfold kN;rw[if_pos rfl]];exact he j hj
theorem CB(m:Mx)(r:Nat):gH m r (m r)=m:=by
 funext i j
 unfold gH;by_cases h:i=r
 ·rw[if_pos h,h]
 ·rw[aF h]
theorem Fe{n k:Nat}{m:Mx}(h:k+1<n):fN n (fun i j=>m (kN 0 (k+1) i) j)= -fN n m:=by
 have z:∀u:Nat->Rat,fN n (gH (gH m 0 u) (k+1) u)=0:=fun u=>mq k n _ h fun j _=>by
  unfold gH;rw[aF (by omega),if_pos rfl,if_pos rfl]
 have cm:∀u v:Nat->Rat,gH (gH m 0 u) (k+1) v=gH (gH m (k+1) v) 0 u:=fun u v=>by
  funext i j;unfold gH
  by_cases h1:i=k+1
  ·rw[if_pos h1,aF (by omega),if_pos h1]
  ·rw[aF h1,aF h1]
 have l1:∀u v x:Nat->Rat,fN n (gH (gH m 0 u) (k+1) fun j=>v j+1*x j)=fN n (gH (gH m 0 u) (k+1) v)+1*fN n (gH (gH m 0 u) (k+1) x):=fun u v x=>mG 1 n (k+1) _ h v x;have l2:∀u v x:Nat->Rat,fN n (gH (gH m 0 fun j=>v j+1*x j) (k+1) u)=fN n (gH (gH m 0 v) (k+1) u)+1*fN n (gH (gH m 0 x) (k+1) u):=fun u v x=>by
  rw[cm,cm,cm];exact mG 1 n 0 _ (by omega) v x
 have h1:=z fun j=>m 0 j+1*m (k+1) j;rw[l1,l2,l2,z,z]at h1;have e1:gH (gH m 0 (m 0)) (k+1) (m (k+1))=m:=by rw[CB,CB]
 have e2:gH (gH m 0 (m (k+1))) (k+1) (m 0)=fun i j=>m (kN 0 (k+1) i) j:=by
  funext i j;unfold gH kN
  by_cases h1:i=k+1
  ·rw[if_pos h1,aF (by omega),if_pos h1]
  ·rw[aF h1];by_cases h0:i=0
   ·rw[if_pos h0,if_pos h0]
   ·rw[aF h0,aF h0,aF h1]
 rw[e1,e2]at h1;grind
theorem kO(f:Nat->Rat)(p:Rat)(n:Nat):cR (fun k=>f k*p) n=cR f n*p:=by
 rw[bh,<-eF];exact cA fun k _=>bh ..
theorem rW(f g:Nat->Rat):∀(n:Nat),cR (fun k=>f k-g k) n=cR f n-cR g n
 |0=>by show(0:Rat)=0-0;grind
 |n+1=>by rw[cR,cR,cR,rW f g n];grind
theorem eS{f:Nat->Rat}{i:Nat}:∀{n:Nat},i<n->(∀k,k<n->k≠i->f k=0)->cR f n=f i
 |0,h,_=>by omega
 |n+1,h,hz=>by
  rw[cR];rcases aO i n with h1|h1
  ·rw[eS h1 fun k hk hne=>hz k (by omega) hne,hz n (by omega) (by omega),bV]
  ·obtain rfl:i=n:=by omega
   rw[cA (g:=fun _=>0) fun k hk=>hz k (by omega) (by omega),dQ,Rat.zero_add]
theorem sq_nonneg(x:Rat):0<=x*x:=by
 rcases Rat.le_total (a:=0) (b:=x)with h|h
 ·exact Rat.mul_nonneg h h
 ·have:=Rat.mul_nonneg (show 0<= -x by grind) (show 0<= -x by grind);grind
end Go.Ex
namespace Go.Ex
open Go Go.Sx Go.Proofs
variable{cs:List Value}{j:Nat}{S:Nat->Prop}{a a1 a2:Option Addr}{q:Rat}
theorem iT.len{w:World}(h:iT w S cs q):cs.length=4:=by obtain⟨_,_,_,_,_,_,_,_,rfl,_⟩:=h;rfl
def Fc(w:World)(S:Nat->Prop)(css:List (List Value))(qs:List Rat):Prop:=css.length=qs.length∧∀(j:Nat) cs q,css[j]? =some cs->qs[j]? =some q->iT w S cs q
section
variable{S S':Nat->Prop}{w w2:World}{cs:List Value}{css:List (List Value)}{q:Rat}{qs:List Rat}
theorem Fc.cB(h:Fc w S css qs)(hk:∀g,S g->w2.heap[g]? =w.heap[g]?):Fc w2 S css qs:=⟨h.1,fun j cs q h1 h2=>(h.2 j cs q h1 h2).cB hk⟩
theorem Fc.cC(h:Fc w S css qs)(hk:∀g,S g->S' g):Fc w S' css qs:=⟨h.1,fun j cs q h1 h2=>(h.2 j cs q h1 h2).cC hk⟩
theorem Fc.zN(h:Fc w S css qs):∀cs∈css,cs.length=4:=fun cs hc=>by
 obtain⟨j,hj⟩:=aR hc;have hl:=(aC.1 hj).1;exact(h.2 j cs _ hj (aA (by rw[<-h.1];exact hl))).len
theorem Fc.one(h:Fc w S css qs):∀u∈css.flatten,u.oneCell'=true:=fun u hu=>by
 obtain⟨cs,hc,hu⟩:=List.mem_flatten.1 hu;obtain⟨j,hj⟩:=aR hc;have hl:=(aC.1 hj).1;obtain⟨_,_,_,_,_,_,_,_,rfl,_⟩:=h.2 j cs _ hj (aA (by rw[<-h.1];exact hl));simp at hu;rcases hu with rfl|rfl|rfl|rfl<;>rfl
theorem Fc.set(h:Fc w S css qs)(hq:iT w S cs q):Fc w S (css.set j cs) (qs.set j q):=by
 refine⟨by simp[h.1],fun i c p h1 h2=>?_⟩;by_cases hij:j=i
 ·subst hij;have hl:=(aC.1 h1).1;rw[aT (by simpa using hl)]at h1;rw[aT (by have:=h.1;simp at hl;omega)]at h2;injection h1 with h1;injection h2 with h2;subst h1 h2;exact hq
 ·rw[aw hij]at h1 h2;exact h.2 i c p h1 h2
end
def fh(w:World)(C S:Nat->Prop)(v:Value)(qs:List Rat):Prop:=∃css,jN w C 4 v css.flatten qs.length∧Fc w S css qs
section
variable{C C' S S':Nat->Prop}{H:Hp}{nx:Nat}{iv iv':Iv}{B:Nat}{w w' w2:World}{O:Nat->Sx.dU}{v:Value}{qs:List Rat}
theorem fh.cB(h:fh w C S v qs)(hk:∀g,C g∨S g->w2.heap[g]? =w.heap[g]?):fh w2 C S v qs:=by
 obtain⟨css,h1,h2⟩:=h;exact⟨css,h1.cB fun g hg=>hk g (.inl hg),h2.cB fun g hg=>hk g (.inr hg)⟩
theorem fh.cC(h:fh w C S v qs)(hk:∀g,C g->C' g)(hk2:∀g,S g->S' g):fh w C' S' v qs:=by
 obtain⟨css,h1,h2⟩:=h;exact⟨css,h1.cC hk,h2.cC hk2⟩
end
def gq(w:World)(S:Nat->Prop)(v:Value)(n:Nat)(qs:List Rat):Prop:=∃css,w.ownsRow 0 T.Rat 4 v n css.flatten∧css.length=n∧Fc w S css qs
section
variable{S S' C:Nat->Prop}{H:Hp}{nx n:Nat}{iv iv':Iv}{B:Nat}{w w' w2:World}{O:Nat->Sx.dU}{v:Value}{qs:List Rat}
theorem gq.cB(h:gq w S v n qs)(hk:∀g,S g∨v.ownBlock=some g->w2.heap[g]? =w.heap[g]?):gq w2 S v n qs:=by
 obtain⟨css,h1,h2,h3⟩:=h;exact⟨css,ownsRow.cB h1 fun g hg=>hk g (.inr hg),h2,h3.cB fun g hg=>hk g (.inl hg)⟩
theorem gq.cC(h:gq w S v n qs)(hk:∀g,S g->S' g):gq w S' v n qs:=by
 obtain⟨css,h1,h2,h3⟩:=h;exact⟨css,h1,h2,h3.cC hk⟩
theorem gq.len(h:gq w S v n qs):qs.length=n:=by
 obtain⟨css,h1,h2,h3⟩:=h;rw[<-h3.1,h2]
theorem gq.form(h:gq w S v n qs):∃a c,v= .slice a n c∧n<=c:=by
 obtain⟨css,h1,h2,h3⟩:=h;exact jh h1
theorem gq.le(h:gq w S v n qs):n<=maxLen:=by
 obtain⟨css,h1,h2,h3⟩:=h;rcases h1.2 with⟨_,h0⟩|⟨_,_,_,_,_,_,h1,h2,_⟩
 ·omega
 ·omega
theorem gq.read(h:gq w S v n qs):fh w (fun g=>v.ownBlock=some g) S v qs:=by
 have hl:=h.len;have hn:=h.le;obtain⟨css,h1,h2,h3⟩:=h;refine⟨css,?_,h3⟩;rw[hl];rcases h1.2 with⟨rfl,rfl⟩|⟨g,cap,cur,rfl,hb,hc,hmc,hcap,hsz,htake⟩
 ·refine⟨hn,h1.1,h3.one,none,0,rfl,aE _,fun j u hu=>?_⟩;have:=h1.1;rw[Nat.zero_mul]at this;rw[List.eq_nil_of_length_eq_zero this]at hu
  cases hu
 ·refine⟨hn,h1.1,h3.one,_,cap,rfl,hmc,fun j u hu=>⟨_,rfl,rfl,?_⟩⟩;exact h1.cells (g:=g) rfl j u hu
theorem gq.store{c n1 c1 n2 c2:Nat}{b b2:Bool}(h:gq w S (.slice a n c) n qs)(hj:j<n)(hf:cP w S (.agg #[.bool b,.slice a1 n1 c1,.bool b2,.slice a2 n2 c2]) q)(hoff:∀g,(Value.slice a n c).ownBlock=some g->¬S g)(hS:Old S w):
  ∃g,a=some ⟨g,0,none⟩∧((⟨g,0,none⟩:Addr).add ((j:Int).toNat*4)).spot=none∧((⟨g,0,none⟩:Addr).add ((j:Int).toNat*4)).block=g∧
   (∀k,k<4->(w.cell? (((⟨g,0,none⟩:Addr).add ((j:Int).toNat*4)).add k)).isSome=true∧w.frozen? (((⟨g,0,none⟩:Addr).add ((j:Int).toNat*4)).add k)=false)∧
   ∀w2,w2=setCells w ((⟨g,0,none⟩:Addr).add ((j:Int).toNat*4)) [.bool b,.slice a1 n1 c1,.bool b2,.slice a2 n2 c2]->gq w2 S (.slice a n c) n (qs.set j q)∧w.grownBy w2 (some g)∧w2.heap.size=w.heap.size:=by
 obtain⟨css,h1,h2,h3⟩:=h;obtain⟨g,rfl,hok,hst,hgr,hsz⟩:=oI (nv:=[.bool b,.slice a1 n1 c1,.bool b2,.slice a2 n2 c2]) h1 rfl hj rfl (by decide);have had:(⟨g,0,none⟩:Addr).add ((j:Int).toNat*4)=⟨g,j*4,none⟩:=by rw[aJ,dN,aU]
 refine⟨g,rfl,by rw[had],by rw[had],fun k hk=>by rw[had];exact hok k hk,fun w2 hw2=>?_⟩;rw[had]at hw2;subst hw2;have hset:=jg (cs:=[.bool b,.slice a1 n1 c1,.bool b2,.slice a2 n2 c2]) h3.zN (show j<css.length by omega);rw[hset]at hst;have hkeep:∀x,S x->(setCells w ⟨g,j*4,none⟩ [.bool b,.slice a1 n1 c1,.bool b2,.slice a2 n2 c2]).heap[x]? =w.heap[x]? :=fun x hx=>
  hgr.block x (hS x hx) fun e=>hoff g rfl (by injection e with e;rw[<-e];exact hx)
 exact⟨⟨_,hst,by simpa using h2,(h3.cB hkeep).set (hf.cB hkeep).s5⟩,hgr,hsz⟩
structure di(w:World)(S:Nat->Prop)(B:Nat)(iv:Iv)(v:Value)(n:Nat)(qs:List Rat):Prop where
 row:gq w (fun g=>Cv S B iv g∧v.ownBlock≠some g) v n qs
 new:∀g,v.ownBlock=some g->Cv (fun _=>False) B iv g
theorem di.cB(h:di w S B iv v n qs)(hk:∀g,Cv S B iv g->w2.heap[g]? =w.heap[g]?):di w2 S B iv v n qs:=
 ⟨h.row.cB fun g hg=>hk g (hg.elim (fun h=>h.1) fun hg=>(h.new g hg).elim (fun h=>h.elim) .inr),h.new⟩
theorem di.rel(h:di w S B iv v n qs)(r:Rel H nx iv B w O w')(hS:∀g,S g->g<B):di w' S B iv v n qs:=h.cB fun _ hg=>Rel.same r hS hg
theorem di.bz(h:di w S B iv v n qs)(r:Rel H nx iv B w O w')(hS:∀g,S g->g<B)(he:Ext w' w2)(hm:∀p,p∈iv->p∈iv'):di w2 S B iv' v n qs:=
 have h2:=(h.rel r hS).cB fun g hg=>he.block g (Rel.old r hS g hg)
 ⟨h2.row.cC fun _ hg=>⟨hg.1.mono hm,hg.2⟩,fun g hg=>(h2.new g hg).mono hm⟩
theorem di.dB(h:di w2 (fun _=>False) w'.heap.size [(w'.heap.size,w2.heap.size)] v n qs)(hB:B<=w'.heap.size)(hm:(w'.heap.size,w2.heap.size)∈iv):di w2 S B iv v n qs:=by
 have key:∀g {X:Nat->Prop},Cv (fun _=>False) w'.heap.size [(w'.heap.size,w2.heap.size)] g->Cv X B iv g:=fun g X hg=>by
  rcases hg with hg|⟨h1,lo,hi,h2,h3,h4⟩
  ·exact hg.elim
  ·simp at h2;obtain⟨rfl,rfl⟩:=h2;exact .inr ⟨by omega,_,_,hm,h3,h4⟩
 exact⟨h.row.cC fun g hg=>⟨key g hg.1,hg.2⟩,fun g hg=>key g (h.new g hg)⟩
theorem di.read(h:di w S B iv v n qs):fh w (Cv S B iv) (Cv S B iv) v qs:=
 h.row.read.cC (fun g hg=>(h.new g hg).elim (fun h=>h.elim) .inr) fun _ hg=>hg.1
end
section
variable{S S':Nat->Prop}{H:Hp}{nx n:Nat}{iv iv':Iv}{B:Nat}{w w' w2:World}{O:Nat->Sx.dU}{v:Value}{qs:List Rat}
theorem di.store{c n1 c1 n2 c2:Nat}{b b2:Bool}(h:di w' S B iv (.slice a n c) n qs)(hj:j<n)(hf:cP w' (fun g=>Cv S B iv g∧(Value.slice a n c).ownBlock≠some g) (.agg #[.bool b,.slice a1 n1 c1,.bool b2,.slice a2 n2 c2]) q)
  (r:Rel H nx iv B w O w') (hS:∀g,S g->g<B):
  ∃g,a=some ⟨g,0,none⟩∧((⟨g,0,none⟩:Addr).add ((j:Int).toNat*4)).spot=none∧
   (∀k,k<4->(w'.cell? (((⟨g,0,none⟩:Addr).add ((j:Int).toNat*4)).add k)).isSome=true∧w'.frozen? (((⟨g,0,none⟩:Addr).add ((j:Int).toNat*4)).add k)=false)∧
   (∀id b,cY H id=some b->(O id).nil=false->(O id).g≠((⟨g,0,none⟩:Addr).add ((j:Int).toNat*4)).block)∧Cv (fun _=>False) B iv g∧
   ∀w2,w2=setCells w' ((⟨g,0,none⟩:Addr).add ((j:Int).toNat*4)) [.bool b,.slice a1 n1 c1,.bool b2,.slice a2 n2 c2]->di w2 S B iv (.slice a n c) n (qs.set j q)∧w'.grownBy w2 (some g)∧w2.heap.size=w'.heap.size:=by
 obtain⟨g,rfl,h1,h2,h3,h4⟩:=h.row.store hj hf (fun g hg hx=>hx.2 hg) (fun x hx=>Rel.old r hS x hx.1);refine⟨g,rfl,h1,h3,fun id b hb hn=>by rw[h2];exact Rel.not r hS (Ia (h.new g rfl)) id b hb hn,h.new g rfl,fun w2 hw2=>?_⟩;obtain⟨k1,k2,k3⟩:=h4 w2 hw2;exact⟨⟨k1,h.new⟩,k2,k3⟩
end
end Go.Ex
namespace Go.Sx
open Go Go.Ex Go.Proofs
variable{cs:List Value}{O:Nat->Sx.dU}
theorem Sub.qz{B:Nat}{l tl:Env}{nx:Nat}{H tH:Hp}{iv:Iv}{w w':World}{id t n c:Nat}{e:TypeId}(r:Rel H nx iv B w O w')(hid:cY H id=some (.arr e cs))(ht:fF l t=some (.o (.s id 0 n c)))
  (hs:uz H tH) (ho:Bm id tH=true) (h1:Bi l tl) (h2:ko nx tl):
  Sub B l nx O w' ⟨(t,.o (.v (.slice (some ⟨(O id).g,0,none⟩) n c)))::tl,tH,nx,((O id).g,(O id).g+1)::iv,w'⟩:=by
 refine⟨O,r.free hid (by simp) (r.fits hid).1 hs ho,fun u v hv=>?_⟩;rw[eQ]at hv;split at hv
 ·rename_i e;subst e;injection hv with hv;subst hv;exact⟨trivial,_,ht,rfl⟩
 ·exact⟨h2.get u v hv,v,h1.get u v hv,rfl⟩
end Go.Sx
namespace Go.Ex
open Go Go.Sx Go.Proofs
end Go.Ex
namespace Go.Ex
open Go Go.Sx Go.Proofs
def da(w:World)(S:Nat->Prop)(rv:List Value)(K:List (List Rat)):Prop:=rv.length=K.length∧(∀u∈rv,u.oneCell'=true)∧∀(i:Nat) u r,rv[i]? =some u->K[i]? =some r->cF w S u r
section
variable{S S':Nat->Prop}{H:Hp}{nx:Nat}{iv iv':Iv}{B:Nat}{w w' w2:World}{O:Nat->Sx.dU}{rv:List Value}{K:List (List Rat)}
theorem da.cB(h:da w S rv K)(hk:∀g,S g->w2.heap[g]? =w.heap[g]?):da w2 S rv K:=⟨h.1,h.2.1,fun i u x h1 h2=>cF.cB (h.2.2 i u x h1 h2) hk⟩
theorem da.cC(h:da w S rv K)(hk:∀g,S g->S' g):da w S' rv K:=⟨h.1,h.2.1,fun i u x h1 h2=>cF.cC (h.2.2 i u x h1 h2) hk⟩
theorem da.rel(h:da w (Cv S B iv) rv K)(r:Rel H nx iv B w O w')(hS:∀g,S g->g<B):da w' (Cv S B iv) rv K:=h.cB fun _ hg=>Rel.same r hS hg
theorem da.push{u:Value}{x:List Rat}(h:da w S rv K)(hu:u.oneCell'=true)(hx:cF w S u x):da w S (rv++[u]) (K++[x]):=by
 refine⟨by simp[h.1],fun v hv=>?_,fun i v y h1 h2=>?_⟩
 ·rcases bK.1 hv with hv|hv
  ·exact h.2.1 v hv
  ·simp at hv;subst hv;exact hu
 ·rcases aO i rv.length with hi|hi
  ·rw[aK hi]at h1;rw[aK (by rw[<-h.1];exact hi)]at h2;exact h.2.2 i v y h1 h2
  ·have hi0:i=rv.length:=by have:=(aC.1 h1).1;simp at this;omega
   subst hi0;rw[aN (aE _),bH]at h1;rw[h.1,aN (aE _),bH]at h2;simp at h1 h2;subst h1 h2;exact hx
end
end Go.Ex
namespace Go.Ex
theorem Gk(s:List (List Rat)×List Nat)(c:Nat):(db s c).2=s.2∨(db s c).2=s.2++[c]:=by
 unfold db;split
 ·dsimp only
  split
  ·exact .inl rfl
  ·exact .inr rfl
 ·exact .inl rfl
theorem gU(M:List (List Rat)):∀c:Nat,(∀p∈((List.range c).foldl db (M,[])).2,p<c)∧(((List.range c).foldl db (M,[])).2).Pairwise (· < ·)∧((List.range c).filter fun j=>decide (j∉((List.range c).foldl db (M,[])).2)).length+((List.range c).foldl db (M,[])).2.length=c:=by
 intro c
 induction c with
 |zero=>simp
 |succ c ih=>
  rw[bT,List.foldl_append,List.foldl_cons,List.foldl_nil];generalize (List.range c).foldl db (M,[])=s at*
  obtain⟨h1,h2,h3⟩:=ih;have hc:c∉s.2:=fun h=>by have:=h1 c h;omega
  rcases Gk s c with e|e
  ·rw[e];refine⟨fun p hp=>by have:=h1 p hp;omega,h2,?_⟩;rw[List.filter_append,List.length_append];simp only[List.filter_cons,hc,not_false_eq_true,decide_true,if_true,List.filter_nil,List.length_singleton]
   omega
  ·rw[e];refine⟨fun p hp=>?_,?_,?_⟩
   ·rcases bK.1 hp with hp|hp
    ·have:=h1 p hp;omega
    ·simp at hp;omega
   ·rw[List.pairwise_append];exact⟨h2,by simp,fun a ha b hb=>by simp at hb;subst hb;exact h1 a ha⟩
   ·rw[List.filter_append,List.length_append];have:(List.range c).filter (fun j=>decide (j∉s.2++[c]))=(List.range c).filter (fun j=>decide (j∉s.2)):=List.filter_congr fun j hj=>by
     have:=List.mem_range.1 hj;have hne:j≠c:=by omega
     simp[hne]
    have h0:(([c]:List Nat).filter fun j=>decide (j∉s.2++[c])).length=0:=by simp
    rw[this,List.length_append,List.length_singleton,h0];omega
end Go.Ex
namespace Go.Ex
open Go Go.Sx Go.Proofs
variable{cs:List Value}{O:Nat->Sx.dU}
section
variable{S S':Nat->Prop}{H:Hp}{nx:Nat}{iv iv':Iv}{B:Nat}{w w' w2:World}{O:Nat->Sx.dU}{v:Value}{M:List (List (Int×Int))}
end
def ef(xs ys:List Rat):Nat->Rat
 |0=>0
 |i+1=>ef xs ys i+xs.getD i 0*ys.getD i 0
theorem y8{xs ys:List Rat}{h:Nat}(hx:∀q∈xs,rl q+1<=h)(hy:∀q∈ys,rl q+1<=h)(h2:2<=h):∀i:Nat,rl (ef xs ys i)<=2*h*i+2
 |0=>by rw[ef];exact ah (by decide:rl 0<=2) (by omega)
 |i+1=>by
  have h3:=y8 hx hy h2 i;have h4:=oQ (ef xs ys i) (xs.getD i 0*ys.getD i 0);have h5:=jL (xs.getD i 0) (ys.getD i 0);have h6:=Ew hx h2 i;have h7:=Ew hy h2 i;rw[ef,bP];omega
section
variable{S S':Nat->Prop}{H:Hp}{nx:Nat}{iv iv':Iv}{B:Nat}{w w' w2:World}{O:Nat->Sx.dU}{v:Value}{qs:List Rat}
end
section
variable{S S':Nat->Prop}{H:Hp}{nx:Nat}{iv iv':Iv}{B:Nat}{w w' w2:World}{O:Nat->Sx.dU}{v:Value}{M:List (List Rat)}
end
section
variable{S S':Nat->Prop}{H:Hp}{nx:Nat}{iv iv':Iv}{B:Nat}{w w' w2:World}{O:Nat->Sx.dU}{v:List Value}{M:List (List Rat)}
end
theorem mD(w:World)(t e:TypeId)(a:Option Addr)(n c n' c':Nat)(h:PG.underlying t=some (.slice e)):
  (binOp .eql t (.slice a n c) (.slice none n' c')).run PG w= .ok (.bool a.isNone) w:=by
 have:∀d,(Op.equalIn (d+1) t (.slice a n c) (.slice none n' c')).run PG w= .ok a.isNone w:=fun d=>by cases a<;>simp[Op.equalIn,run_underlying h]
 simp only[binOp]
 cases a<;>simp[Op.equal,Op.maxDepth,this 9999]
abbrev LJ(gm R:Nat):Value:=.slice (some ⟨gm,0,none⟩) R R
def Ls(S:Nat->Prop)(B:Nat)(iv:Iv)(gm R:Nat)(rv:List Value)(g:Nat):Prop:=Cv S B iv g∧¬Mb (LJ gm R) rv g
structure LS(w:World)(S:Nat->Prop)(B:Nat)(iv:Iv)(gm R n:Nat)(rv:List Value)(M:List (List Rat)):Prop where
 mat:Kp w (Ls S B iv gm R rv) (LJ gm R) rv n M
 z7:∀g,Mb (LJ gm R) rv g->Cv (fun _=>False) B iv g
 rows:rv.length=R
section
variable{S S':Nat->Prop}{H:Hp}{nx gm R n:Nat}{iv iv':Iv}{B:Nat}{w w' w2:World}{O:Nat->Sx.dU}{rv:List Value}{M:List (List Rat)}
structure aAF(w:World)(S:Nat->Prop)(B:Nat)(iv:Iv)(gm R n:Nat)(rv:List Value)(M:List (List Rat))(i:Nat)(vb:Value):Prop where
 out:w.ownsRow 0 T.row 1 (LJ gm R) R (rv.set i vb)
 was:∃w0,LS w0 S B iv gm R n rv M∧∀g,Cv S B iv g->g≠gm->w.heap[g]? =w0.heap[g]?
end
section
variable{S:Nat->Prop}{H:Hp}{nx gm R:Nat}{iv iv':Iv}{B:Nat}{w w' w2:World}{O:Nat->Sx.dU}{rv:List Value}{css:List (List Value)}{qs:List Rat}
end
inductive Tp where
 |nil
 |x (i:Nat) (t:Tp)
 |two (i:Nat) (t:Tp) (j:Nat) (u:Tp)
 |qz (id:Nat) (t:Tp)
section
variable{P:Program}{τ:lu}{ops:Array Oper}{B n nx:Nat}{l:Env}{H:Hp}{iv:Iv}{w w':World}{O:Nat->Sx.dU}{a:Act}
end
theorem s3{l tl:Env}{nx t id n:Nat}(hn:(O id).nil=false)(ht:fF l t=some (.o (.w id n)))(h1:Bi l tl)(h2:ko nx tl):∀u v,fF ((t,.o (.v (.slice (some ⟨(O id).g,0,none⟩) n (O id).cap)))::tl) u=some v->v.sc nx∧∃v',fF l u=some v'∧v'.den O=v.den O:=fun u v hv=>by
 rw[eQ]at hv;split at hv
 ·rename_i e;subst e;injection hv with hv;subst hv;exact⟨trivial,_,ht,by simp[SV.den,At.den,hn]⟩
 ·exact⟨h2.get u v hv,v,h1.get u v hv,rfl⟩
theorem JH{H:Hp}{nx:Nat}{iv:Iv}{B:Nat}{w w':World}(r:Rel H nx iv B w O w'){id t m sz:Nat}(h:cY H id=some (.vec t sz cs))(hm:cs.length=m*sz)(hm1:m<=maxLen)(hs:0<sz)(h0:0<m)(h1:∀u∈cs,u.oneCell'=true):
  (O id).nil=false∧B<=(O id).g∧jN w' (fun g=>g=(O id).g) sz (.slice (some ⟨(O id).g,0,none⟩) m (O id).cap) cs m:=by
 rcases r.vec id t sz _ h with⟨hn,rfl⟩|⟨hn,spare,hb,hc,hcap⟩
 ·have:=Nat.mul_pos h0 hs;simp at hm;omega
 ·refine⟨hn,(r.low id _ h hn).1,hm1,hm,h1,some ⟨(O id).g,0,none⟩,(O id).cap,rfl,?_,fun j x hx=>⟨_,rfl,rfl,?_⟩⟩
  ·have h1:(cs++spare).length=cs.length+spare.length:=List.length_append;have h2:m*sz<=(O id).cap*sz:=by omega
   exact Nat.le_of_mul_le_mul_right h2 hs
  ·rw[dN,cell_of hb,aU,aK (aC.1 hx).1];exact hx
end Go.Ex
namespace Go.Ex
section
variable{M:List (List Rat)}{b:List Rat}{n:Nat}
def dX(M:List (List Rat))(b:List Rat):List (List Rat):=M.mapIdx fun i r=>r++[b.getD i 0]
theorem hJ(hl:fp n M):fp (n+1) (dX M b):=fun r hr=>by
 obtain⟨i,hi⟩:=aR hr;unfold dX at hi;rw[List.getElem?_mapIdx]at hi
 cases hx:M[i]? with
 |none=>rw[hx]at hi;cases hi
 |some x=>
  rw[hx]at hi;injection hi with hi;subst hi;rw[List.length_append,hl x (aD hx)];rfl
theorem eG:(dX M b).length=M.length:=by simp[dX]
end
end Go.Ex
namespace Go.Ex
open Go Go.Sx Go.Proofs
variable{q:Rat}
section
variable{S:Nat->Prop}{H:Hp}{nx:Nat}{iv0:Iv}{B:Nat}{w w' w2:World}{O:Nat->Sx.dU}{v:Value}{xs:List Rat}
end
theorem kg:rs q<0↔q<0:=by rw[rs,Int.sign_neg_iff,<-Int.not_le,Rat.num_nonneg,Rat.not_le]
theorem nP:0<rs q↔0<q:=by
 have h:=kg (q:= -q);rw[Jw]at h;constructor
 ·intro k;have:=h.1 (by omega);grind
 ·intro k;have:=h.2 (by grind);omega
end Go.Ex
