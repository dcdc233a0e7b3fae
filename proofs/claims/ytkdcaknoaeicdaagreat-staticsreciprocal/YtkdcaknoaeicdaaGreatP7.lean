/- A part of the proof: texts X62 to L17. Each tells its conditions in its theorems. -/
import Derived.Test.YtkdcaknoaeicdaaGreatP5
import Derived.Test.YtkdcaknoaeicdaaGreatP6
namespace Go.Ex
open Go Go.Sx Go.Proofs
variable{y:Int}{S:Nat->Prop}{a:Option Addr}{p q:Rat}{u:Value}{w:World}
theorem iD{v:Value}{k l:Nat}{x:Int}(hS:Old S w)(hx:ek w S v k x)(hy:ek w S u l y)(hk:k<=1000000)(hl:l<=1000000)(h0:y≠0):
  di PG N.mm #[v,u] w (dw w fun v' w2=>∃q r,v'= .tuple #[q,r,.int .i64 0]∧cZ w2 (Nf w w2) q (x / y)∧cZ w2 (Nf w w2) r (x % y)):=
 (Fu hS hx hy hk hl).mono fun _ _ ⟨v2,e1,e2,e3⟩=>⟨v2,e1,e2,e3.elim (fun h=>absurd h.1 h0) fun h=>h.2⟩
theorem Jp(x:Nat){y:Nat}(h:y≠0):ln (Nat.gcd x y)<=ln y:=eY (Nat.le_of_dvd (by omega) (Nat.gcd_dvd_right x y))
theorem EG{a b:Int}(hb:b≠0):a / (b.sign*(Nat.gcd a.natAbs b.natAbs:Nat))=(Rat.divInt a b).num∧b / (b.sign*(Nat.gcd a.natAbs b.natAbs:Nat))=((Rat.divInt a b).den:Int):=by
 obtain⟨h1,h2⟩:=AP (a:=a) hb;have d1:((Nat.gcd a.natAbs b.natAbs:Nat):Int) ∣ a:=Int.ofNat_dvd_left.2 (Nat.gcd_dvd_left _ _);have d2:((Nat.gcd a.natAbs b.natAbs:Nat):Int) ∣ b:=Int.ofNat_dvd_left.2 (Nat.gcd_dvd_right _ _);have sg:b.sign=1∨b.sign= -1:=by rcases fM b with h|h|h<;>omega
 have key:∀c:Int,((Nat.gcd a.natAbs b.natAbs:Nat):Int) ∣ c->b.sign*(Nat.gcd a.natAbs b.natAbs:Nat) ∣ c:=fun c hc=>by
  rcases sg with h|h<;>rw[h]
  ·rw[Int.one_mul];exact hc
  ·rw[Int.neg_one_mul];exact Int.neg_dvd.2 hc
 rw[<-h1,<-h2,Int.tdiv_eq_ediv_of_dvd (key a d1),Int.tdiv_eq_ediv_of_dvd (key b d2)];exact⟨rfl,rfl⟩
theorem AS{v:Value}{k l:Nat}{x:Int}(hS:Old S w)(hx:ek w S v k x)(hy:ek w S u l y)(hk:k<=1000000)(hl:l<=1000000):
  di PG N.rn #[v,u] w (dw w fun v' w2=>cZ w2 (Nf w w2) v' ((Nat.gcd x.natAbs y.natAbs:Nat):Int)):=by
 have hw:cR w.heap.size w w:=cR.refl;replace hx:=hx.cC (S':=Cv S w.heap.size []) fun _ h=>.inl h;replace hy:=hy.cC (S':=Cv S w.heap.size []) fun _ h=>.inl h;obtain⟨b1,a1,n1,c1,rfl⟩:=hx.shape;obtain⟨b2,a2,n2,c2,rfl⟩:=hy.shape;refine vH (by simp) ?_;have hlx:=hx.ln;have hly:=hy.ln;refine cF hτ dc [.x 0,.x 2,.x 1,.x 3,.x 4,.x 5] (by kernel_rfl) (by kernel_rfl) ?_;refine cE hw (fun _ w' v w2=>cZ w2 (Nf w' w2) v ((x.natAbs:Int))) (fun O w' r=>wC (Rel.old r hS) (hx.rel r hS) (by omega)) ?_;rintro O wa1 v1 wb1 iv1 r he hw h_ hn;clear hx;replace hy:=hy.bz r hS he (mC h_);have ha:=hn.cd (S:=fun _=>False) r.bu (mN h_);clear r;obtain⟨s1_0,s1_1,s1_2,s1_3,rfl⟩:=ha.shape;refine cE hw (fun _ w' v w2=>cZ w2 (Nf w' w2) v ((y.natAbs:Int))) (fun O w' r=>wC (Rel.old r hS) (hy.rel r hS) (by omega)) ?_;rintro O wa2 v2 wb2 iv2 r he hw h_ hn;clear hy;replace ha:=ha.bz r (bs w) he (mC h_);have hc:=hn.cd (S:=fun _=>False) r.bu (mN h_);clear r;obtain⟨s2_0,s2_1,s2_2,s2_3,rfl⟩:=hc.shape
 refine⟨Nat×Nat×(Bool×Option Addr×Nat×Nat)×(Bool×Option Addr×Nat×Nat)×World×Iv,fun z=>⟨[(2,.o (.p 0 0)),(3,.o (.p 1 0)),(4,.o (.p 2 0))],[(2,.box T.Int [.v (.bool false),.v (.slice none 0 0)]),(1,.box T.Int [.v (.bool z.2.2.2.1.1),.v (.slice z.2.2.2.1.2.1 z.2.2.2.1.2.2.1 z.2.2.2.1.2.2.2)]),(0,.box T.Int [.v (.bool z.2.2.1.1),.v (.slice z.2.2.1.2.1 z.2.2.1.2.2.1 z.2.2.1.2.2.2)])],3,z.2.2.2.2.2,z.2.2.2.2.1⟩,fun z=>z.2.1,
  fun z=>Nat.gcd z.1 z.2.1=Nat.gcd x.natAbs y.natAbs∧ln z.1<=1000000∧ln z.2.1<=1000000∧cR w.heap.size w z.2.2.2.2.1∧cZ z.2.2.2.2.1 (Cf w z.2.2.2.2.2) (.agg #[.bool z.2.2.1.1,.slice z.2.2.1.2.1 z.2.2.1.2.2.1 z.2.2.1.2.2.2]) (z.1:Int)∧cZ z.2.2.2.2.1 (Cf w z.2.2.2.2.2) (.agg #[.bool z.2.2.2.1.1,.slice z.2.2.2.1.2.1 z.2.2.2.1.2.2.1 z.2.2.2.1.2.2.2]) (z.2.1:Int),?_,?_⟩
 ·intro O w' r
  exact⟨(x.natAbs,y.natAbs,(s1_0,s1_1,s1_2,s1_3),(s2_0,s2_1,s2_2,s2_3),w',iv2),⟨rfl,by dsimp only;omega,by dsimp only;omega,hw.tr r.cI,ha.rel r (bs w),hc.rel r (bs w)⟩,
   Sub.gn [] r⟩
 clear hw ha hc;rintro⟨a,b,⟨ba,aa,na,ca⟩,⟨bb,ab,nb,cb⟩,w1,iv⟩ ⟨hg,hla,hlb,hw,ha,hc⟩;dsimp only at hg hla hlb hw ha hc ⊢;refine bw (cE hw (fun _ w' v w2=>v= .int .i64 (b:Int).sign) (fun O w' r=>fm (Rel.old r (bs w)) (hc.rel r (bs w)).r) ?_);rintro O wa3 v3 wb3 iv3 r he hw h_ rfl;replace ha:=ha.bz r (bs w) he (mC h_);replace hc:=hc.bz r (bs w) he (mC h_);clear r;have sb:=fM (b:Int);refine dF.mk (fun h=>?_) (fun h=>?_)
 ·have h:=aG h;have hb0:0<b:=by omega
  have hm:=bm a hb0;have hlm:ln (a % b)<=1000000:=ai (eY (by omega)) hlb;refine bw (cE hw (fun _ w' v w2=>∃q r,v= .tuple #[q,r,.int .i64 0]∧cZ w2 (Nf w' w2) q ((a:Int) / b)∧cZ w2 (Nf w' w2) r ((a:Int) % b)) (fun O w' r=>iD (Rel.old r (bs w)) ((ha.rel r (bs w)).l (k:=1000000) hla) ((hc.rel r (bs w)).l (k:=1000000) hlb) (by omega) (by omega) (by omega)) ?_);rintro O wa4 v4 wb4 iv4 r he hw h_ ⟨q,rr,rfl,k1,k2⟩;clear ha;replace hc:=hc.bz r (bs w) he (mC h_);have hq:=k1.cd (S:=fun _=>False) r.bu (mN h_);have hr:=k2.cd (S:=fun _=>False) r.bu (mN h_);clear r;obtain⟨s4_0a,s4_0b,s4_0c,s4_0d,rfl⟩:=hq.shape;obtain⟨s4_1a,s4_1b,s4_1c,s4_1d,rfl⟩:=hr.shape;clear k1 k2 hq;refine gh hτ dc (.two 0 (.two 1 (.one 2 (.one 3 .nil)) 2 (.one 1 (.one 3 .nil))) 1 (.one 0 (.one 2 (.one 3 .nil)))) (by kernel_rfl) ?_;refine⟨?_,?_⟩
  ·conv=>whnf
   refine⟨?_,?_⟩
   ·conv=>whnf
    intro ρ3 w3 r3;exact⟨(b,a % b,(bb,ab,nb,cb),(s4_1a,s4_1b,s4_1c,s4_1d),w3,_),⟨by dsimp only;rw[<-hg,Nat.gcd_comm a b,Nat.gcd_rec b a,Nat.gcd_comm],hlb,hlm,hw.tr r3.cI,hc.rel r3 (bs w),hr.rel r3 (bs w)⟩,Sub.gn [] r3,hm⟩
   ·conv=>whnf
    intro ρ3 w3 r3;exact⟨(b,a % b,(bb,ab,nb,cb),(s4_1a,s4_1b,s4_1c,s4_1d),w3,_),⟨by dsimp only;rw[<-hg,Nat.gcd_comm a b,Nat.gcd_rec b a,Nat.gcd_comm],hlb,hlm,hw.tr r3.cI,hc.rel r3 (bs w),hr.rel r3 (bs w)⟩,Sub.gn [] r3,hm⟩
  ·conv=>whnf
   intro ρ3 w3 r3;exact⟨(b,a % b,(bb,ab,nb,cb),(s4_1a,s4_1b,s4_1c,s4_1d),w3,_),⟨by dsimp only;rw[<-hg,Nat.gcd_comm a b,Nat.gcd_rec b a,Nat.gcd_comm],hlb,hlm,hw.tr r3.cI,hc.rel r3 (bs w),hr.rel r3 (bs w)⟩,Sub.gn [] r3,hm⟩
 have h:=aF h;obtain rfl:b=0:=by omega
 rw[Nat.gcd_zero_right]at hg;subst hg;clear hc;intro ρe we re;exact⟨_,rfl,hw.tr re.cI,ha.out re (bs w)⟩
theorem kC{v:Value}{k l:Nat}{x:Int}(hS:Old S w)(hx:ek w S v k x)(hy:ek w S u l y)(hk:k<=1000000)(hl:l<=1000000)(hy0:y≠0):
  di PG N.qV #[v,u] w (dw w fun v' w2=>cM w2 (Nf w w2) v' (Rat.divInt x y)):=by
 have hw:cR w.heap.size w w:=cR.refl;replace hx:=hx.cC (S':=Cv S w.heap.size []) fun _ h=>.inl h;replace hy:=hy.cC (S':=Cv S w.heap.size []) fun _ h=>.inl h;obtain⟨b1,a1,n1,c1,rfl⟩:=hx.shape;obtain⟨b2,a2,n2,c2,rfl⟩:=hy.shape;refine pr (by simp) ?_;have hlx:=hx.ln;have hly:=hy.ln;have hlg:=Jp x.natAbs (y:=y.natAbs) (by omega);obtain⟨hn,hd⟩:=EG (a:=x) hy0;have sy:=fM y
 refine bw (cE hw (fun _ w' v w2=>∃n p,v= .tuple #[.int .i64 n,.bool p]∧(p=true->n=x∧x.natAbs<1073741824)) (fun O w' r=>(mL (Rel.old r hS) (hx.rel r hS).r).mono fun e w2 ⟨v2,e1,e2,e3⟩=>⟨v2,e1,e2,by
   rw[e3,jF];split
   ·exact⟨_,_,rfl,fun _=>⟨rfl,‹_›⟩⟩
   ·exact⟨_,_,rfl,fun h=>by cases h⟩⟩) ?_)
 rintro O wa1 v1 wb1 iv1 r he hw h_ ⟨nx,px,rfl,qx⟩;replace hx:=hx.bz r hS he (mC h_);replace hy:=hy.bz r hS he (mC h_);clear r
 refine bw (cE hw (fun _ w' v w2=>∃n p,v= .tuple #[.int .i64 n,.bool p]∧(p=true->n=y∧y.natAbs<1073741824)) (fun O w' r=>(mL (Rel.old r hS) (hy.rel r hS).r).mono fun e w2 ⟨v2,e1,e2,e3⟩=>⟨v2,e1,e2,by
   rw[e3,jF];split
   ·exact⟨_,_,rfl,fun _=>⟨rfl,‹_›⟩⟩
   ·exact⟨_,_,rfl,fun h=>by cases h⟩⟩) ?_)
 rintro O wa2 v2 wb2 iv2 r he hw h_ ⟨ny,py,rfl,qy⟩;replace hx:=hx.bz r hS he (mC h_);replace hy:=hy.bz r hS he (mC h_);clear r;refine dF.mk (fun h1=>?_) (fun h1=>?_)
 ·obtain⟨e1,hxs⟩:=qx h1;replace e1:=e1.symm;subst e1;refine dF.mk (fun h2=>?_) (fun h2=>?_)
  ·obtain⟨e2,hys⟩:=qy h2;replace e2:=e2.symm;subst e2;clear hx hy;refine bw (cE hw (fun _ w' v w2=>cM w2 (Nf w' w2) v (Rat.divInt x y)) (fun O w' r=>pL x y w' (by omega) (by omega) hy0) ?_);rintro O wa3 v3 wb3 iv3 r he hw h_ hn;have hR:=hn.cd (S:=fun _=>False) r.bu (mN h_);clear r hn;obtain⟨s3_0,s3_1,s3_2,s3_3,s3_4,s3_5,s3_6,s3_7,rfl⟩:=hR.shape;intro ρe we re;exact⟨_,rfl,hw.tr re.cI,hR.out re (bs w)⟩
  refine bw (cE hw (fun _ w' v w2=>cZ w2 (Nf w' w2) v (((Nat.gcd x.natAbs y.natAbs:Nat):Int))) (fun O w' r=>AS (Rel.old r hS) (hx.rel r hS) (hy.rel r hS) hk hl) ?_);rintro O wa3 v3 wb3 iv3 r he hw h_ hn;replace hx:=hx.bz r hS he (mC h_);replace hy:=hy.bz r hS he (mC h_);have hg:=hn.cd (S:=fun _=>False) r.bu (mN h_);clear r hn;obtain⟨s3_0,s3_1,s3_2,s3_3,rfl⟩:=hg.shape;refine bw (cE hw (fun _ w' v w2=>v= .int .i64 y.sign) (fun O w' r=>fm (Rel.old r hS) (hy.rel r hS).r) ?_);rintro O wa4 v4 wb4 iv4 r he hw h_ rfl;replace hx:=hx.bz r hS he (mC h_);replace hy:=hy.bz r hS he (mC h_);replace hg:=hg.bz r (bs w) he (mC h_);clear r;have hgp:0<Nat.gcd x.natAbs y.natAbs:=bf _ (by omega);generalize Nat.gcd x.natAbs y.natAbs=g at*
  refine dF.mk (fun hs=>?_) (fun hs=>?_)
  ·have hs:=aG hs;rw[show y.sign= -1 by omega,Int.neg_one_mul]at hn hd;refine bw (cE hw (fun _ w' v w2=>cZ w2 (Nf w' w2) v (-(g:Int))) (fun O w' r=>kg (Rel.old r (bs w)) ((hg.rel r (bs w)).l (k:=1000000) (by rw[Int.natAbs_natCast];omega)) (by omega)) ?_);rintro O wa5 v5 wb5 iv5 r he hw h_ hn;replace hx:=hx.bz r hS he (mC h_);replace hy:=hy.bz r hS he (mC h_);clear hg;have hg2:=hn.cd (S:=fun _=>False) r.bu (mN h_);clear r hn;obtain⟨s5_0,s5_1,s5_2,s5_3,rfl⟩:=hg2.shape;refine bw (cE hw (fun _ w' v w2=>∃q r,v= .tuple #[q,r,.int .i64 0]∧cZ w2 (Nf w' w2) q (Rat.divInt x y).num∧cZ w2 (Nf w' w2) r (x % (-(g:Int)))) (fun O w' r=>hn▸iD (Rel.old r hS) (hx.rel r hS) ((((hg2.rel r (bs w)).l (k:=1000000) (by rw[bq,Int.natAbs_natCast];omega))).cC fun g hg=>Cv.false hg) hk (by omega) (by omega)) ?_);rintro O wa6 v6 wb6 iv6 r he hw h_ ⟨q,rr,rfl,k1,k2⟩;clear hx;replace hy:=hy.bz r hS he (mC h_);replace hg2:=hg2.bz r (bs w) he (mC h_);have hq:=k1.cd (S:=fun _=>False) r.bu (mN h_);have hr:=k2.cd (S:=fun _=>False) r.bu (mN h_);clear r;obtain⟨s6_0a,s6_0b,s6_0c,s6_0d,rfl⟩:=hq.shape;obtain⟨s6_1a,s6_1b,s6_1c,s6_1d,rfl⟩:=hr.shape;clear k1 k2 hr;refine bw (cE hw (fun _ w' v w2=>∃q r,v= .tuple #[q,r,.int .i64 0]∧cZ w2 (Nf w' w2) q ((Rat.divInt x y).den:Int)∧cZ w2 (Nf w' w2) r (y % (-(g:Int)))) (fun O w' r=>hd▸iD (Rel.old r hS) (hy.rel r hS) ((((hg2.rel r (bs w)).l (k:=1000000) (by rw[bq,Int.natAbs_natCast];omega))).cC fun g hg=>Cv.false hg) hl (by omega) (by omega)) ?_);rintro O wa7 v7 wb7 iv7 r he hw h_ ⟨q,rr,rfl,k1,k2⟩;clear hy;clear hg2;replace hq:=hq.bz r (bs w) he (mC h_);have hq2:=k1.cd (S:=fun _=>False) r.bu (mN h_);have hr:=k2.cd (S:=fun _=>False) r.bu (mN h_);clear r;obtain⟨s7_0a,s7_0b,s7_0c,s7_0d,rfl⟩:=hq2.shape;obtain⟨s7_1a,s7_1b,s7_1c,s7_1d,rfl⟩:=hr.shape;clear k1 k2 hr;intro ρe we re;exact⟨_,rfl,hw.tr re.cI,(cM.of hq hq2).out re (bs w)⟩
  have hs:=aF hs;rw[show y.sign=1 by omega,Int.one_mul]at hn hd;refine bw (cE hw (fun _ w' v w2=>∃q r,v= .tuple #[q,r,.int .i64 0]∧cZ w2 (Nf w' w2) q (Rat.divInt x y).num∧cZ w2 (Nf w' w2) r (x % ((g:Int)))) (fun O w' r=>hn▸iD (Rel.old r hS) (hx.rel r hS) ((((hg.rel r (bs w)).l (k:=1000000) (by rw[Int.natAbs_natCast];omega))).cC fun g hg=>Cv.false hg) hk (by omega) (by omega)) ?_);rintro O wa5 v5 wb5 iv5 r he hw h_ ⟨q,rr,rfl,k1,k2⟩;clear hx;replace hy:=hy.bz r hS he (mC h_);replace hg:=hg.bz r (bs w) he (mC h_);have hq:=k1.cd (S:=fun _=>False) r.bu (mN h_);have hr:=k2.cd (S:=fun _=>False) r.bu (mN h_);clear r;obtain⟨s5_0a,s5_0b,s5_0c,s5_0d,rfl⟩:=hq.shape;obtain⟨s5_1a,s5_1b,s5_1c,s5_1d,rfl⟩:=hr.shape;clear k1 k2 hr;refine bw (cE hw (fun _ w' v w2=>∃q r,v= .tuple #[q,r,.int .i64 0]∧cZ w2 (Nf w' w2) q ((Rat.divInt x y).den:Int)∧cZ w2 (Nf w' w2) r (y % ((g:Int)))) (fun O w' r=>hd▸iD (Rel.old r hS) (hy.rel r hS) ((((hg.rel r (bs w)).l (k:=1000000) (by rw[Int.natAbs_natCast];omega))).cC fun g hg=>Cv.false hg) hl (by omega) (by omega)) ?_);rintro O wa6 v6 wb6 iv6 r he hw h_ ⟨q,rr,rfl,k1,k2⟩;clear hy;clear hg;replace hq:=hq.bz r (bs w) he (mC h_);have hq2:=k1.cd (S:=fun _=>False) r.bu (mN h_);have hr:=k2.cd (S:=fun _=>False) r.bu (mN h_);clear r;obtain⟨s6_0a,s6_0b,s6_0c,s6_0d,rfl⟩:=hq2.shape;obtain⟨s6_1a,s6_1b,s6_1c,s6_1d,rfl⟩:=hr.shape;clear k1 k2 hr;intro ρe we re;exact⟨_,rfl,hw.tr re.cI,(cM.of hq hq2).out re (bs w)⟩
 refine bw (cE hw (fun _ w' v w2=>cZ w2 (Nf w' w2) v (((Nat.gcd x.natAbs y.natAbs:Nat):Int))) (fun O w' r=>AS (Rel.old r hS) (hx.rel r hS) (hy.rel r hS) hk hl) ?_);rintro O wa3 v3 wb3 iv3 r he hw h_ hn;replace hx:=hx.bz r hS he (mC h_);replace hy:=hy.bz r hS he (mC h_);have hg:=hn.cd (S:=fun _=>False) r.bu (mN h_);clear r hn;obtain⟨s3_0,s3_1,s3_2,s3_3,rfl⟩:=hg.shape;refine bw (cE hw (fun _ w' v w2=>v= .int .i64 y.sign) (fun O w' r=>fm (Rel.old r hS) (hy.rel r hS).r) ?_);rintro O wa4 v4 wb4 iv4 r he hw h_ rfl;replace hx:=hx.bz r hS he (mC h_);replace hy:=hy.bz r hS he (mC h_);replace hg:=hg.bz r (bs w) he (mC h_);clear r;have hgp:0<Nat.gcd x.natAbs y.natAbs:=bf _ (by omega);generalize Nat.gcd x.natAbs y.natAbs=g at*
 refine dF.mk (fun hs=>?_) (fun hs=>?_)
 ·have hs:=aG hs;rw[show y.sign= -1 by omega,Int.neg_one_mul]at hn hd;refine bw (cE hw (fun _ w' v w2=>cZ w2 (Nf w' w2) v (-(g:Int))) (fun O w' r=>kg (Rel.old r (bs w)) ((hg.rel r (bs w)).l (k:=1000000) (by rw[Int.natAbs_natCast];omega)) (by omega)) ?_);rintro O wa5 v5 wb5 iv5 r he hw h_ hn;replace hx:=hx.bz r hS he (mC h_);replace hy:=hy.bz r hS he (mC h_);clear hg;have hg2:=hn.cd (S:=fun _=>False) r.bu (mN h_);clear r hn;obtain⟨s5_0,s5_1,s5_2,s5_3,rfl⟩:=hg2.shape;refine bw (cE hw (fun _ w' v w2=>∃q r,v= .tuple #[q,r,.int .i64 0]∧cZ w2 (Nf w' w2) q (Rat.divInt x y).num∧cZ w2 (Nf w' w2) r (x % (-(g:Int)))) (fun O w' r=>hn▸iD (Rel.old r hS) (hx.rel r hS) ((((hg2.rel r (bs w)).l (k:=1000000) (by rw[bq,Int.natAbs_natCast];omega))).cC fun g hg=>Cv.false hg) hk (by omega) (by omega)) ?_);rintro O wa6 v6 wb6 iv6 r he hw h_ ⟨q,rr,rfl,k1,k2⟩;clear hx;replace hy:=hy.bz r hS he (mC h_);replace hg2:=hg2.bz r (bs w) he (mC h_);have hq:=k1.cd (S:=fun _=>False) r.bu (mN h_);have hr:=k2.cd (S:=fun _=>False) r.bu (mN h_);clear r;obtain⟨s6_0a,s6_0b,s6_0c,s6_0d,rfl⟩:=hq.shape;obtain⟨s6_1a,s6_1b,s6_1c,s6_1d,rfl⟩:=hr.shape;clear k1 k2 hr;refine bw (cE hw (fun _ w' v w2=>∃q r,v= .tuple #[q,r,.int .i64 0]∧cZ w2 (Nf w' w2) q ((Rat.divInt x y).den:Int)∧cZ w2 (Nf w' w2) r (y % (-(g:Int)))) (fun O w' r=>hd▸iD (Rel.old r hS) (hy.rel r hS) ((((hg2.rel r (bs w)).l (k:=1000000) (by rw[bq,Int.natAbs_natCast];omega))).cC fun g hg=>Cv.false hg) hl (by omega) (by omega)) ?_);rintro O wa7 v7 wb7 iv7 r he hw h_ ⟨q,rr,rfl,k1,k2⟩;clear hy;clear hg2;replace hq:=hq.bz r (bs w) he (mC h_);have hq2:=k1.cd (S:=fun _=>False) r.bu (mN h_);have hr:=k2.cd (S:=fun _=>False) r.bu (mN h_);clear r;obtain⟨s7_0a,s7_0b,s7_0c,s7_0d,rfl⟩:=hq2.shape;obtain⟨s7_1a,s7_1b,s7_1c,s7_1d,rfl⟩:=hr.shape;clear k1 k2 hr;intro ρe we re;exact⟨_,rfl,hw.tr re.cI,(cM.of hq hq2).out re (bs w)⟩
 have hs:=aF hs;rw[show y.sign=1 by omega,Int.one_mul]at hn hd;refine bw (cE hw (fun _ w' v w2=>∃q r,v= .tuple #[q,r,.int .i64 0]∧cZ w2 (Nf w' w2) q (Rat.divInt x y).num∧cZ w2 (Nf w' w2) r (x % ((g:Int)))) (fun O w' r=>hn▸iD (Rel.old r hS) (hx.rel r hS) ((((hg.rel r (bs w)).l (k:=1000000) (by rw[Int.natAbs_natCast];omega))).cC fun g hg=>Cv.false hg) hk (by omega) (by omega)) ?_);rintro O wa5 v5 wb5 iv5 r he hw h_ ⟨q,rr,rfl,k1,k2⟩;clear hx;replace hy:=hy.bz r hS he (mC h_);replace hg:=hg.bz r (bs w) he (mC h_);have hq:=k1.cd (S:=fun _=>False) r.bu (mN h_);have hr:=k2.cd (S:=fun _=>False) r.bu (mN h_);clear r;obtain⟨s5_0a,s5_0b,s5_0c,s5_0d,rfl⟩:=hq.shape;obtain⟨s5_1a,s5_1b,s5_1c,s5_1d,rfl⟩:=hr.shape;clear k1 k2 hr;refine bw (cE hw (fun _ w' v w2=>∃q r,v= .tuple #[q,r,.int .i64 0]∧cZ w2 (Nf w' w2) q ((Rat.divInt x y).den:Int)∧cZ w2 (Nf w' w2) r (y % ((g:Int)))) (fun O w' r=>hd▸iD (Rel.old r hS) (hy.rel r hS) ((((hg.rel r (bs w)).l (k:=1000000) (by rw[Int.natAbs_natCast];omega))).cC fun g hg=>Cv.false hg) hl (by omega) (by omega)) ?_);rintro O wa6 v6 wb6 iv6 r he hw h_ ⟨q,rr,rfl,k1,k2⟩;clear hy;clear hg;replace hq:=hq.bz r (bs w) he (mC h_);have hq2:=k1.cd (S:=fun _=>False) r.bu (mN h_);have hr:=k2.cd (S:=fun _=>False) r.bu (mN h_);clear r;obtain⟨s6_0a,s6_0b,s6_0c,s6_0d,rfl⟩:=hq2.shape;obtain⟨s6_1a,s6_1b,s6_1c,s6_1d,rfl⟩:=hr.shape;clear k1 k2 hr;intro ρe we re;exact⟨_,rfl,hw.tr re.cI,(cM.of hq hq2).out re (bs w)⟩
def eR(w:World)(S:Nat->Prop)(v:Value)(q:Rat):Prop:=∃b1 l1 b2 l2 a b,v= .agg #[.bool b1,l1,.bool b2,l2]∧ek w S (.agg #[.bool b1,l1]) 100000 a∧ek w S (.agg #[.bool b2,l2]) 100000 b∧ratio a b=q
theorem eR.cB{w2:World}{v:Value}(h:eR w S v q)(hk:∀g,S g->w2.heap[g]? =w.heap[g]?):eR w2 S v q:=by
 obtain⟨b1,l1,b2,l2,a,b,h1,h2,h3,h4⟩:=h;exact⟨b1,l1,b2,l2,a,b,h1,h2.cB hk,h3.cB hk,h4⟩
theorem eR.cC{S':Nat->Prop}{v:Value}(h:eR w S v q)(hk:∀g,S g->S' g):eR w S' v q:=by
 obtain⟨b1,l1,b2,l2,a,b,h1,h2,h3,h4⟩:=h;exact⟨b1,l1,b2,l2,a,b,h1,h2.cC hk,h3.cC hk,h4⟩
theorem eR.v{v:Value}(h:eR w S v q):oo w S v q:=by
 obtain⟨b1,l1,b2,l2,a,b,rfl,h2,h3,h4⟩:=h;exact⟨a,b,⟨b1,l1,b2,l2,rfl,h2.r,h3.r⟩,h4,h2.ln,h3.ln⟩
theorem eR.shape{v:Value}(h:eR w S v q):∃b a n c b2 a2 n2 c2,v= .agg #[.bool b,.slice a n c,.bool b2,.slice a2 n2 c2]:=h.v.shape
theorem eR.rl{v:Value}(h:eR w S v q):rl q<=100000:=by
 obtain⟨b1,l1,b2,l2,a,b,rfl,h2,h3,rfl⟩:=h;have:=gQ a b;have:=h2.ln;have:=h3.ln;omega
theorem cM.l{v:Value}(h:cM w S v q)(hl:rl q<=100000):eR w S v q:=by
 obtain⟨b1,l1,b2,l2,h1,h2,h3⟩:=h;exact⟨b1,l1,b2,l2,_,_,h1,h2.l (ai (fP q) hl),h3.l (ai (e7 q) hl),qn q⟩
theorem Hr(a b:Int):rs (ratio a b)=if b.sign<0 then -a.sign else a.sign:=by
 have sb:=fM b;rw[ratio];split
 ·rw[aI (by omega),rs,rW (by decide)]
 ·split
  ·rw[show Rat.divInt a b=Rat.divInt (-a) (-b)from(Rat.neg_divInt_neg a b).symm,rs,rW (by omega),Int.sign_neg]
  ·rw[rs,rW (by omega)]
theorem iu{a c:Int}:(a.natAbs<1073741824)->(c.natAbs<1073741824)->(a*c).natAbs<=1152921502459363329:=fun h1 h2=>by
 rw[Int.natAbs_mul];exact Nat.mul_le_mul (show a.natAbs<=1073741823 by omega) (show c.natAbs<=1073741823 by omega)
section
variable{S S':Nat->Prop}{H:Hp}{nx:Nat}{iv iv':Iv}{B:Nat}{w w' w2:World}{O:Nat->Sx.dS}{v:Value}{q:Rat}
theorem eR.rel(h:eR w (Cv S B iv) v q)(r:Rel H nx iv B w O w')(hS:∀g,S g->g<B):eR w' (Cv S B iv) v q:=h.cB fun _ hg=>Rel.same r hS hg
theorem eR.bz(h:eR w (Cv S B iv) v q)(r:Rel H nx iv B w O w')(hS:∀g,S g->g<B)(he:Ext w' w2)(hm:∀p,p∈iv->p∈iv'):eR w2 (Cv S B iv') v q:=
 ((h.rel r hS).cB fun g hg=>he.block g (Rel.old r hS g hg)).cC fun _ hg=>hg.mono hm
theorem eR.arg(h:eR w S v q)(iv:Iv):eR w (Cv S w.heap.size iv) v q:=h.cC fun _ h=>.inl h
end
theorem yR{v:Value}{a b:Int}(hS:Old S w)(hp:gW w S v a b):
  di PG N.jx #[v] w (dw w fun v' _=>v'= .int .i64 (rs (ratio a b))):=by
 have hw:cR w.heap.size w w:=cR.refl;obtain⟨b1,l1,b2,l2,rfl,ha,hb'⟩:=hp;obtain⟨_,a1,n1,c1,e1⟩:=ha.shape;obtain⟨_,a2,n2,c2,e2⟩:=hb'.shape;simp only[Value.agg.injEq,Array.mk.injEq,List.cons.injEq,and_true]at e1 e2;obtain⟨_,rfl⟩:=e1;obtain⟨_,rfl⟩:=e2;replace ha:=ha.cC (S':=Cv S w.heap.size []) fun _ h=>.inl h;replace hb':=hb'.cC (S':=Cv S w.heap.size []) fun _ h=>.inl h;have hr:=Hr a b;have sa:=fM a;refine ux (by simp) ?_;refine bw (cE hw (fun _ w' v w2=>v= .int .i64 b.sign) (fun O w' r=>fm (Rel.old r hS) (hb'.rel r hS)) ?_);rintro O wa1 v1 wb1 iv1 r he hw h_ rfl;replace ha:=ha.bz r hS he (mC h_);refine dF.mk (fun h=>?_) (fun h=>?_)
 ·have h:=aG h;rw[if_pos h]at hr;refine bw (cE hw (fun _ w' v w2=>v= .int .i64 a.sign) (fun O w' r=>fm (Rel.old r hS) (ha.rel r hS)) ?_);rintro O wa2 v2 wb2 iv2 r he hw h_ rfl;refine⟨-a.sign,wo,?_⟩;intro ρe we re;exact⟨_,rfl,hw.tr re.cI,by rw[hr];rfl⟩
 have h:=aF h;rw[aI h]at hr;refine bw (cE hw (fun _ w' v w2=>v= .int .i64 a.sign) (fun O w' r=>fm (Rel.old r hS) (ha.rel r hS)) ?_);rintro O wa2 v2 wb2 iv2 r he hw h_ rfl;intro ρe we re;exact⟨_,rfl,hw.tr re.cI,by rw[hr];rfl⟩
theorem Fv{v:Value}(hS:Old S w)(hp:cM w S v p):di PG N.jx #[v] w (dw w fun v' _=>v'= .int .i64 (rs p)):=by
 have:=yR hS hp.r;rw[qn]at this;exact this
theorem iE{v:Value}(hS:Old S w)(hp:eR w S v p):
  di PG N.rb #[v] w (dw w fun v' w2=>cM w2 (Nf w w2) v' p):=by
 have hw:cR w.heap.size w w:=cR.refl;obtain⟨b1,l1,b2,l2,a,b,rfl,ha,hb',rfl⟩:=hp;obtain⟨_,a1,n1,c1,e1⟩:=ha.shape;obtain⟨_,a2,n2,c2,e2⟩:=hb'.shape;simp only[Value.agg.injEq,Array.mk.injEq,List.cons.injEq,and_true]at e1 e2;obtain⟨_,rfl⟩:=e1;obtain⟨_,rfl⟩:=e2;replace ha:=ha.cC (S':=Cv S w.heap.size []) fun _ h=>.inl h;replace hb':=hb'.cC (S':=Cv S w.heap.size []) fun _ h=>.inl h;have sb:=fM b;refine vD (by simp) ?_;refine bw (cG (Φ:=fun _ w' v w2=>v= .int .i64 b.sign) (fun O w' r=>fm (Rel.old r hS) (hb'.rel r hS).r) ?_);rintro O wa1 v1 wb1 r he hb rfl;replace hw:=hw.tr hb;replace ha:=ha.bz (iv':=(wa1.heap.size,wb1.heap.size)::[]) r hS he fun x hx=>aB _ hx;replace hb':=hb'.bz (iv':=(wa1.heap.size,wb1.heap.size)::[]) r hS he fun x hx=>aB _ hx;generalize (wa1.heap.size,wb1.heap.size)::[]=iv1 at*
 refine dF.mk (fun h=>?_) (fun h=>?_)
 ·have h:b.sign=0:=by simpa using h
  obtain rfl:b=0:=by omega
  rw[show ratio a 0=Rat.divInt a 1 from if_pos rfl];refine cF hτ dc [.x 0,.x 1,.x 2,.x 3,.x 4] (by kernel_rfl) (by kernel_rfl) ?_;refine cG (Φ:=fun _ w' v w2=>cZ w2 (Nf w' w2) v (1)) (fun O w' r=>jm _ w' (by decide) (by decide)) ?_;rintro O wa2 v2 wb2 r he hb hn;replace hw:=hw.tr hb;replace ha:=ha.bz (iv':=(wa2.heap.size,wb2.heap.size)::iv1) r hS he fun x hx=>aB _ hx;replace hb':=hb'.bz (iv':=(wa2.heap.size,wb2.heap.size)::iv1) r hS he fun x hx=>aB _ hx;have h1:=hn.cd (S:=fun _=>False) r.bu (iv:=(wa2.heap.size,wb2.heap.size)::iv1) aH;generalize (wa2.heap.size,wb2.heap.size)::iv1=iv2 at*
  obtain⟨s2_0,s2_1,s2_2,s2_3,rfl⟩:=h1.shape;refine cG (Φ:=fun _ w' v w2=>cM w2 (Nf w' w2) v (Rat.divInt a 1)) (fun O w' r=>kC (Rel.old r hS) (ha.rel r hS) (((h1.rel r (bs w)).l (k:=1) (by decide)).cC fun g hg=>Cv.false hg) (by omega) (by omega) (by decide)) ?_;rintro O wa3 v3 wb3 r he hb hn;replace hw:=hw.tr hb;replace ha:=ha.bz (iv':=(wa3.heap.size,wb3.heap.size)::iv2) r hS he fun x hx=>aB _ hx;replace hb':=hb'.bz (iv':=(wa3.heap.size,wb3.heap.size)::iv2) r hS he fun x hx=>aB _ hx;replace h1:=h1.bz (iv':=(wa3.heap.size,wb3.heap.size)::iv2) r (bs w) he fun x hx=>aB _ hx;have hR:=hn.cd (S:=fun _=>False) r.bu (iv:=(wa3.heap.size,wb3.heap.size)::iv2) aH;generalize (wa3.heap.size,wb3.heap.size)::iv2=iv3 at*
  obtain⟨s3_0,s3_1,s3_2,s3_3,s3_4,s3_5,s3_6,s3_7,rfl⟩:=hR.shape;intro ρe we re;exact⟨_,rfl,hw.tr re.cI,hR.out re (bs w)⟩
 have h:b.sign≠0:=by simpa using h
 have hb0:b≠0:=by omega
 rw[show ratio a b=Rat.divInt a b from aI hb0];refine bw (cG (Φ:=fun _ w' v w2=>cM w2 (Nf w' w2) v (Rat.divInt a b)) (fun O w' r=>kC (Rel.old r hS) (ha.rel r hS) (hb'.rel r hS) (by omega) (by omega) hb0) ?_);rintro O wa2 v2 wb2 r he hb hn;replace hw:=hw.tr hb;replace ha:=ha.bz (iv':=(wa2.heap.size,wb2.heap.size)::iv1) r hS he fun x hx=>aB _ hx;replace hb':=hb'.bz (iv':=(wa2.heap.size,wb2.heap.size)::iv1) r hS he fun x hx=>aB _ hx;have hR:=hn.cd (S:=fun _=>False) r.bu (iv:=(wa2.heap.size,wb2.heap.size)::iv1) aH;generalize (wa2.heap.size,wb2.heap.size)::iv1=iv2 at*
 obtain⟨s2_0,s2_1,s2_2,s2_3,s2_4,s2_5,s2_6,s2_7,rfl⟩:=hR.shape;intro ρe we re;exact⟨_,rfl,hw.tr re.cI,hR.out re (bs w)⟩
theorem wD{v:Value}(hS:Old S w)(hp:eR w S v p):
  di PG N.uW #[v] w (dw w fun v' _=>∃n d ok,v'= .tuple #[.int .i64 n,.int .i64 d,.bool ok]∧(ok=true->d≠0∧n.natAbs<1073741824∧d.natAbs<1073741824∧Rat.divInt n d=p)):=by
 have hw:cR w.heap.size w w:=cR.refl;obtain⟨b1,l1,b2,l2,a,b,rfl,ha,hb',rfl⟩:=hp;obtain⟨_,a1,n1,c1,e1⟩:=ha.shape;obtain⟨_,a2,n2,c2,e2⟩:=hb'.shape;simp only[Value.agg.injEq,Array.mk.injEq,List.cons.injEq,and_true]at e1 e2;obtain⟨_,rfl⟩:=e1;obtain⟨_,rfl⟩:=e2;replace ha:=ha.cC (S':=Cv S w.heap.size []) fun _ h=>.inl h;replace hb':=hb'.cC (S':=Cv S w.heap.size []) fun _ h=>.inl h;refine xw (by simp) ?_
 refine bw (cG (Φ:=fun _ w' v w2=>∃n p,v= .tuple #[.int .i64 n,.bool p]∧(p=true->n=a∧a.natAbs<1073741824)) (fun O w' r=>(mL (Rel.old r hS) (ha.rel r hS).r).mono fun e w2 ⟨v2,e1,e2,e3⟩=>⟨v2,e1,e2,by
   rw[e3,jF];split
   ·exact⟨_,_,rfl,fun _=>⟨rfl,‹_›⟩⟩
   ·exact⟨_,_,rfl,fun h=>by cases h⟩⟩) ?_)
 rintro O wa1 v1 wb1 r he hb ⟨na,pa,rfl,qa⟩;replace hw:=hw.tr hb;replace ha:=ha.bz (iv':=(wa1.heap.size,wb1.heap.size)::[]) r hS he fun x hx=>aB _ hx;replace hb':=hb'.bz (iv':=(wa1.heap.size,wb1.heap.size)::[]) r hS he fun x hx=>aB _ hx;generalize (wa1.heap.size,wb1.heap.size)::[]=iv1 at*
 refine bw (cG (Φ:=fun _ w' v w2=>∃n p,v= .tuple #[.int .i64 n,.bool p]∧(p=true->n=b∧b.natAbs<1073741824)) (fun O w' r=>(mL (Rel.old r hS) (hb'.rel r hS).r).mono fun e w2 ⟨v2,e1,e2,e3⟩=>⟨v2,e1,e2,by
   rw[e3,jF];split
   ·exact⟨_,_,rfl,fun _=>⟨rfl,‹_›⟩⟩
   ·exact⟨_,_,rfl,fun h=>by cases h⟩⟩) ?_)
 rintro O wa2 v2 wb2 r he hb ⟨nb,pb,rfl,qb⟩;replace hw:=hw.tr hb;replace ha:=ha.bz (iv':=(wa2.heap.size,wb2.heap.size)::iv1) r hS he fun x hx=>aB _ hx;replace hb':=hb'.bz (iv':=(wa2.heap.size,wb2.heap.size)::iv1) r hS he fun x hx=>aB _ hx;generalize (wa2.heap.size,wb2.heap.size)::iv1=iv2 at*
 refine dF.mk (fun h=>?_) (fun h=>?_)
 ·have h:nb=0:=by simpa using h
  refine dF.mk (fun h1=>?_) (fun h1=>?_)
  ·intro ρe we re
   exact⟨_,rfl,hw.tr re.cI,⟨na,1,pb,rfl,fun h2=>by
     obtain⟨rfl,hx⟩:=qa h1;obtain⟨rfl,hy⟩:=qb h2;rw[h]
     exact⟨by decide,hx,by decide,(if_pos rfl).symm⟩⟩⟩
  intro ρe we re;exact⟨_,rfl,hw.tr re.cI,⟨na,1,false,rfl,fun h2=>by cases h2⟩⟩
 have h:nb≠0:=by simpa using h
 refine dF.mk (fun h1=>?_) (fun h1=>?_)
 ·intro ρe we re
  exact⟨_,rfl,hw.tr re.cI,⟨na,nb,pb,rfl,fun h2=>by
    obtain⟨rfl,hx⟩:=qa h1;obtain⟨rfl,hy⟩:=qb h2
    exact⟨h,hx,hy,(aI h).symm⟩⟩⟩
 intro ρe we re;exact⟨_,rfl,hw.tr re.cI,⟨na,nb,false,rfl,fun h2=>by cases h2⟩⟩
theorem Dy{v:Value}(hS:Old S w)(hp:eR w S v p)(hq:eR w S u q):
  di PG N.zk #[v,u] w (dw w fun v' w2=>cM w2 (Nf w w2) v' (p+q)):=by
 have hw:cR w.heap.size w w:=cR.refl;replace hp:=hp.cC (S':=Cv S w.heap.size []) fun _ h=>.inl h;replace hq:=hq.cC (S':=Cv S w.heap.size []) fun _ h=>.inl h;obtain⟨b1,a1,n1,c1,b2,a2,n2,c2,rfl⟩:=hp.shape;obtain⟨b3,a3,n3,c3,b4,a4,n4,c4,rfl⟩:=hq.shape;refine Ae (by simp) ?_;have r1:=hp.rl;have r2:=hq.rl;have u1:=fP p;have u2:=e7 p;have u3:=fP q;have u4:=e7 q;refine bw (cE hw (fun _ w' v w2=>∃n d ok,v= .tuple #[.int .i64 n,.int .i64 d,.bool ok]∧(ok=true->d≠0∧n.natAbs<1073741824∧d.natAbs<1073741824∧Rat.divInt n d=p)) (fun O w' r=>wD (Rel.old r hS) (hp.rel r hS)) ?_);rintro O wa1 v1 wb1 iv1 r he hw h_ ⟨a,b,k1,rfl,g1⟩;replace hp:=hp.bz r hS he (mC h_);replace hq:=hq.bz r hS he (mC h_);refine bw (cE hw (fun _ w' v w2=>∃n d ok,v= .tuple #[.int .i64 n,.int .i64 d,.bool ok]∧(ok=true->d≠0∧n.natAbs<1073741824∧d.natAbs<1073741824∧Rat.divInt n d=q)) (fun O w' r=>wD (Rel.old r hS) (hq.rel r hS)) ?_);rintro O wa2 v2 wb2 iv2 r he hw h_ ⟨c,d,k2,rfl,g2⟩;replace hp:=hp.bz r hS he (mC h_);replace hq:=hq.bz r hS he (mC h_);refine dF.mk (fun h1=>?_) (fun h1=>?_)
 ·refine dF.mk (fun h2=>?_) (fun h2=>?_)
  ·obtain⟨g3,g4,g5,g6⟩:=g1 h1;obtain⟨g7,g8,g9,g10⟩:=g2 h2;have i1:=iu g4 g9;have i2:=iu g8 g5;have i3:=iu g5 g9;have i4:=iu g4 g8;refine⟨a*d,wo,c*b,wo,a*d+c*b,wo,b*d,wo,?_⟩;have e:=Rat.divInt_add_divInt a c g3 g7;rw[g6,g10]at e;refine bw (cE hw (fun _ w' v w2=>cM w2 (Nf w' w2) v (p+q)) (fun O w' r=>e▸pL (a*d+c*b) (b*d) w' (by omega) (by omega) (jd g3 g7)) ?_);rintro O wa3 v3 wb3 iv3 r he hw h_ hn;have hR:=hn.cd (S:=fun _=>False) r.bu (mN h_);obtain⟨s3_0,s3_1,s3_2,s3_3,s3_4,s3_5,s3_6,s3_7,rfl⟩:=hR.shape;intro ρe we re;exact⟨_,rfl,hw.tr re.cI,hR.out re (bs w)⟩
  refine cF hτ dc [.x 0,.x 2,.x 1,.x 3,.x 4,.x 5] (by kernel_rfl) (by kernel_rfl) ?_;refine cE hw (fun _ w' v w2=>cM w2 (Nf w' w2) v (p)) (fun O w' r=>iE (Rel.old r hS) (hp.rel r hS)) ?_;rintro O wa3 v3 wb3 iv3 r he hw h_ hn;replace hq:=hq.bz r hS he (mC h_);have hX:=hn.cd (S:=fun _=>False) r.bu (mN h_);obtain⟨s3_0,s3_1,s3_2,s3_3,s3_4,s3_5,s3_6,s3_7,rfl⟩:=hX.shape;refine cE hw (fun _ w' v w2=>cM w2 (Nf w' w2) v (q)) (fun O w' r=>iE (Rel.old r hS) (hq.rel r hS)) ?_;rintro O wa4 v4 wb4 iv4 r he hw h_ hn;replace hX:=hX.bz r (bs w) he (mC h_);have hY:=hn.cd (S:=fun _=>False) r.bu (mN h_);obtain⟨s4_0,s4_1,s4_2,s4_3,s4_4,s4_5,s4_6,s4_7,rfl⟩:=hY.shape;have hXn:=hX.num;have hXd:=hX.den;have hYn:=hY.num;have hYd:=hY.den;have m0:=cT p.num q.den;have m1:=cT q.num p.den;have m2:=cT (p.den:Int) q.den;have m3:=gq (p.num*q.den) (q.num*p.den);have m4:=cT p.num q.num;refine cF hτ dc [.x 0,.x 1,.x 2,.x 3,.x 5,.x 6,.x 7,.x 8,.x 11,.x 12,.x 13,.x 14,.x 4,.x 9,.x 10,.x 15,.x 16,.x 17] (by kernel_rfl) (by kernel_rfl) ?_;refine cE hw (fun _ w' v w2=>cZ w2 (Nf w' w2) v (p.num*(q.den:Int))) (fun O w' r=>iC (Rel.old r (bs w)) ((hXn.rel r (bs w)).l (k:=100000) (by omega)) ((hYd.rel r (bs w)).l (k:=100000) (by omega)) (by omega) (by omega)) ?_;rintro O wa5 v5 wb5 iv5 r he hw h_ hn;replace hXn:=hXn.bz r (bs w) he (mC h_);replace hXd:=hXd.bz r (bs w) he (mC h_);replace hYn:=hYn.bz r (bs w) he (mC h_);replace hYd:=hYd.bz r (bs w) he (mC h_);have hA:=hn.cd (S:=fun _=>False) r.bu (mN h_);obtain⟨s5_0,s5_1,s5_2,s5_3,rfl⟩:=hA.shape;refine cE hw (fun _ w' v w2=>cZ w2 (Nf w' w2) v (q.num*(p.den:Int))) (fun O w' r=>iC (Rel.old r (bs w)) ((hYn.rel r (bs w)).l (k:=100000) (by omega)) ((hXd.rel r (bs w)).l (k:=100000) (by omega)) (by omega) (by omega)) ?_;rintro O wa6 v6 wb6 iv6 r he hw h_ hn;replace hXn:=hXn.bz r (bs w) he (mC h_);replace hXd:=hXd.bz r (bs w) he (mC h_);replace hYn:=hYn.bz r (bs w) he (mC h_);replace hYd:=hYd.bz r (bs w) he (mC h_);replace hA:=hA.bz r (bs w) he (mC h_);have hB:=hn.cd (S:=fun _=>False) r.bu (mN h_);obtain⟨s6_0,s6_1,s6_2,s6_3,rfl⟩:=hB.shape;refine cE hw (fun _ w' v w2=>cZ w2 (Nf w' w2) v (p.num*(q.den:Int)+q.num*(p.den:Int))) (fun O w' r=>yY (Rel.old r (bs w)) ((hA.rel r (bs w)).l (k:=200000) (by omega)) ((hB.rel r (bs w)).l (k:=200000) (by omega)) (by omega) (by omega)) ?_;rintro O wa7 v7 wb7 iv7 r he hw h_ hn;replace hXn:=hXn.bz r (bs w) he (mC h_);replace hXd:=hXd.bz r (bs w) he (mC h_);replace hYn:=hYn.bz r (bs w) he (mC h_);replace hYd:=hYd.bz r (bs w) he (mC h_);have hN:=hn.cd (S:=fun _=>False) r.bu (mN h_);obtain⟨s7_0,s7_1,s7_2,s7_3,rfl⟩:=hN.shape;refine cE hw (fun _ w' v w2=>cZ w2 (Nf w' w2) v ((p.den:Int)*(q.den:Int))) (fun O w' r=>iC (Rel.old r (bs w)) ((hXd.rel r (bs w)).l (k:=100000) (by omega)) ((hYd.rel r (bs w)).l (k:=100000) (by omega)) (by omega) (by omega)) ?_;rintro O wa8 v8 wb8 iv8 r he hw h_ hn;replace hXn:=hXn.bz r (bs w) he (mC h_);replace hXd:=hXd.bz r (bs w) he (mC h_);replace hYn:=hYn.bz r (bs w) he (mC h_);replace hYd:=hYd.bz r (bs w) he (mC h_);replace hN:=hN.bz r (bs w) he (mC h_);have hD:=hn.cd (S:=fun _=>False) r.bu (mN h_);obtain⟨s8_0,s8_1,s8_2,s8_3,rfl⟩:=hD.shape;refine cE hw (fun _ w' v w2=>cM w2 (Nf w' w2) v (p+q)) (fun O w' r=>(rV p q)▸kC (Rel.old r (bs w)) ((hN.rel r (bs w)).l (k:=200001) (by omega)) ((hD.rel r (bs w)).l (k:=200001) (by omega)) (by omega) (by omega) (jd (fW p) (fW q))) ?_;rintro O wa9 v9 wb9 iv9 r he hw h_ hn;have hR:=hn.cd (S:=fun _=>False) r.bu (mN h_);obtain⟨s9_0,s9_1,s9_2,s9_3,s9_4,s9_5,s9_6,s9_7,rfl⟩:=hR.shape;intro ρe we re;exact⟨_,rfl,hw.tr re.cI,hR.out re (bs w)⟩
 refine cF hτ dc [.x 0,.x 2,.x 1,.x 3,.x 4,.x 5] (by kernel_rfl) (by kernel_rfl) ?_;refine cE hw (fun _ w' v w2=>cM w2 (Nf w' w2) v (p)) (fun O w' r=>iE (Rel.old r hS) (hp.rel r hS)) ?_;rintro O wa3 v3 wb3 iv3 r he hw h_ hn;replace hq:=hq.bz r hS he (mC h_);have hX:=hn.cd (S:=fun _=>False) r.bu (mN h_);obtain⟨s3_0,s3_1,s3_2,s3_3,s3_4,s3_5,s3_6,s3_7,rfl⟩:=hX.shape;refine cE hw (fun _ w' v w2=>cM w2 (Nf w' w2) v (q)) (fun O w' r=>iE (Rel.old r hS) (hq.rel r hS)) ?_;rintro O wa4 v4 wb4 iv4 r he hw h_ hn;replace hX:=hX.bz r (bs w) he (mC h_);have hY:=hn.cd (S:=fun _=>False) r.bu (mN h_);obtain⟨s4_0,s4_1,s4_2,s4_3,s4_4,s4_5,s4_6,s4_7,rfl⟩:=hY.shape;have hXn:=hX.num;have hXd:=hX.den;have hYn:=hY.num;have hYd:=hY.den;have m0:=cT p.num q.den;have m1:=cT q.num p.den;have m2:=cT (p.den:Int) q.den;have m3:=gq (p.num*q.den) (q.num*p.den);have m4:=cT p.num q.num;refine cF hτ dc [.x 0,.x 1,.x 2,.x 3,.x 5,.x 6,.x 7,.x 8,.x 11,.x 12,.x 13,.x 14,.x 4,.x 9,.x 10,.x 15,.x 16,.x 17] (by kernel_rfl) (by kernel_rfl) ?_;refine cE hw (fun _ w' v w2=>cZ w2 (Nf w' w2) v (p.num*(q.den:Int))) (fun O w' r=>iC (Rel.old r (bs w)) ((hXn.rel r (bs w)).l (k:=100000) (by omega)) ((hYd.rel r (bs w)).l (k:=100000) (by omega)) (by omega) (by omega)) ?_;rintro O wa5 v5 wb5 iv5 r he hw h_ hn;replace hXn:=hXn.bz r (bs w) he (mC h_);replace hXd:=hXd.bz r (bs w) he (mC h_);replace hYn:=hYn.bz r (bs w) he (mC h_);replace hYd:=hYd.bz r (bs w) he (mC h_);have hA:=hn.cd (S:=fun _=>False) r.bu (mN h_);obtain⟨s5_0,s5_1,s5_2,s5_3,rfl⟩:=hA.shape;refine cE hw (fun _ w' v w2=>cZ w2 (Nf w' w2) v (q.num*(p.den:Int))) (fun O w' r=>iC (Rel.old r (bs w)) ((hYn.rel r (bs w)).l (k:=100000) (by omega)) ((hXd.rel r (bs w)).l (k:=100000) (by omega)) (by omega) (by omega)) ?_;rintro O wa6 v6 wb6 iv6 r he hw h_ hn;replace hXn:=hXn.bz r (bs w) he (mC h_);replace hXd:=hXd.bz r (bs w) he (mC h_);replace hYn:=hYn.bz r (bs w) he (mC h_);replace hYd:=hYd.bz r (bs w) he (mC h_);replace hA:=hA.bz r (bs w) he (mC h_);have hB:=hn.cd (S:=fun _=>False) r.bu (mN h_);obtain⟨s6_0,s6_1,s6_2,s6_3,rfl⟩:=hB.shape;refine cE hw (fun _ w' v w2=>cZ w2 (Nf w' w2) v (p.num*(q.den:Int)+q.num*(p.den:Int))) (fun O w' r=>yY (Rel.old r (bs w)) ((hA.rel r (bs w)).l (k:=200000) (by omega)) ((hB.rel r (bs w)).l (k:=200000) (by omega)) (by omega) (by omega)) ?_;rintro O wa7 v7 wb7 iv7 r he hw h_ hn;replace hXn:=hXn.bz r (bs w) he (mC h_);replace hXd:=hXd.bz r (bs w) he (mC h_);replace hYn:=hYn.bz r (bs w) he (mC h_);replace hYd:=hYd.bz r (bs w) he (mC h_);have hN:=hn.cd (S:=fun _=>False) r.bu (mN h_);obtain⟨s7_0,s7_1,s7_2,s7_3,rfl⟩:=hN.shape;refine cE hw (fun _ w' v w2=>cZ w2 (Nf w' w2) v ((p.den:Int)*(q.den:Int))) (fun O w' r=>iC (Rel.old r (bs w)) ((hXd.rel r (bs w)).l (k:=100000) (by omega)) ((hYd.rel r (bs w)).l (k:=100000) (by omega)) (by omega) (by omega)) ?_;rintro O wa8 v8 wb8 iv8 r he hw h_ hn;replace hXn:=hXn.bz r (bs w) he (mC h_);replace hXd:=hXd.bz r (bs w) he (mC h_);replace hYn:=hYn.bz r (bs w) he (mC h_);replace hYd:=hYd.bz r (bs w) he (mC h_);replace hN:=hN.bz r (bs w) he (mC h_);have hD:=hn.cd (S:=fun _=>False) r.bu (mN h_);obtain⟨s8_0,s8_1,s8_2,s8_3,rfl⟩:=hD.shape;refine cE hw (fun _ w' v w2=>cM w2 (Nf w' w2) v (p+q)) (fun O w' r=>(rV p q)▸kC (Rel.old r (bs w)) ((hN.rel r (bs w)).l (k:=200001) (by omega)) ((hD.rel r (bs w)).l (k:=200001) (by omega)) (by omega) (by omega) (jd (fW p) (fW q))) ?_;rintro O wa9 v9 wb9 iv9 r he hw h_ hn;have hR:=hn.cd (S:=fun _=>False) r.bu (mN h_);obtain⟨s9_0,s9_1,s9_2,s9_3,s9_4,s9_5,s9_6,s9_7,rfl⟩:=hR.shape;intro ρe we re;exact⟨_,rfl,hw.tr re.cI,hR.out re (bs w)⟩
theorem Jq{v:Value}(hS:Old S w)(hp:eR w S v p)(hq:eR w S u q):
  di PG N.zl #[v,u] w (dw w fun v' w2=>cM w2 (Nf w w2) v' (p*q)):=by
 have hw:cR w.heap.size w w:=cR.refl;replace hp:=hp.cC (S':=Cv S w.heap.size []) fun _ h=>.inl h;replace hq:=hq.cC (S':=Cv S w.heap.size []) fun _ h=>.inl h;obtain⟨b1,a1,n1,c1,b2,a2,n2,c2,rfl⟩:=hp.shape;obtain⟨b3,a3,n3,c3,b4,a4,n4,c4,rfl⟩:=hq.shape;refine Af (by simp) ?_;have r1:=hp.rl;have r2:=hq.rl;have u1:=fP p;have u2:=e7 p;have u3:=fP q;have u4:=e7 q;refine bw (cE hw (fun _ w' v w2=>∃n d ok,v= .tuple #[.int .i64 n,.int .i64 d,.bool ok]∧(ok=true->d≠0∧n.natAbs<1073741824∧d.natAbs<1073741824∧Rat.divInt n d=p)) (fun O w' r=>wD (Rel.old r hS) (hp.rel r hS)) ?_);rintro O wa1 v1 wb1 iv1 r he hw h_ ⟨a,b,k1,rfl,g1⟩;replace hp:=hp.bz r hS he (mC h_);replace hq:=hq.bz r hS he (mC h_);refine bw (cE hw (fun _ w' v w2=>∃n d ok,v= .tuple #[.int .i64 n,.int .i64 d,.bool ok]∧(ok=true->d≠0∧n.natAbs<1073741824∧d.natAbs<1073741824∧Rat.divInt n d=q)) (fun O w' r=>wD (Rel.old r hS) (hq.rel r hS)) ?_);rintro O wa2 v2 wb2 iv2 r he hw h_ ⟨c,d,k2,rfl,g2⟩;replace hp:=hp.bz r hS he (mC h_);replace hq:=hq.bz r hS he (mC h_);refine dF.mk (fun h1=>?_) (fun h1=>?_)
 ·refine dF.mk (fun h2=>?_) (fun h2=>?_)
  ·obtain⟨g3,g4,g5,g6⟩:=g1 h1;obtain⟨g7,g8,g9,g10⟩:=g2 h2;have i1:=iu g4 g9;have i2:=iu g8 g5;have i3:=iu g5 g9;have i4:=iu g4 g8;refine⟨a*c,wo,b*d,wo,?_⟩;have e:=Rat.divInt_mul_divInt a c (d₁:=b) (d₂:=d);rw[g6,g10]at e;refine bw (cE hw (fun _ w' v w2=>cM w2 (Nf w' w2) v (p*q)) (fun O w' r=>e▸pL (a*c) (b*d) w' (by omega) (by omega) (jd g3 g7)) ?_);rintro O wa3 v3 wb3 iv3 r he hw h_ hn;have hR:=hn.cd (S:=fun _=>False) r.bu (mN h_);obtain⟨s3_0,s3_1,s3_2,s3_3,s3_4,s3_5,s3_6,s3_7,rfl⟩:=hR.shape;intro ρe we re;exact⟨_,rfl,hw.tr re.cI,hR.out re (bs w)⟩
  refine cF hτ dc [.x 0,.x 2,.x 1,.x 3,.x 4,.x 5] (by kernel_rfl) (by kernel_rfl) ?_;refine cE hw (fun _ w' v w2=>cM w2 (Nf w' w2) v (p)) (fun O w' r=>iE (Rel.old r hS) (hp.rel r hS)) ?_;rintro O wa3 v3 wb3 iv3 r he hw h_ hn;replace hq:=hq.bz r hS he (mC h_);have hX:=hn.cd (S:=fun _=>False) r.bu (mN h_);obtain⟨s3_0,s3_1,s3_2,s3_3,s3_4,s3_5,s3_6,s3_7,rfl⟩:=hX.shape;refine cE hw (fun _ w' v w2=>cM w2 (Nf w' w2) v (q)) (fun O w' r=>iE (Rel.old r hS) (hq.rel r hS)) ?_;rintro O wa4 v4 wb4 iv4 r he hw h_ hn;replace hX:=hX.bz r (bs w) he (mC h_);have hY:=hn.cd (S:=fun _=>False) r.bu (mN h_);obtain⟨s4_0,s4_1,s4_2,s4_3,s4_4,s4_5,s4_6,s4_7,rfl⟩:=hY.shape;have hXn:=hX.num;have hXd:=hX.den;have hYn:=hY.num;have hYd:=hY.den;have m0:=cT p.num q.den;have m1:=cT q.num p.den;have m2:=cT (p.den:Int) q.den;have m3:=gq (p.num*q.den) (q.num*p.den);have m4:=cT p.num q.num;refine cF hτ dc [.x 0,.x 1,.x 2,.x 3,.x 5,.x 6,.x 7,.x 8,.x 4,.x 9,.x 10,.x 11] (by kernel_rfl) (by kernel_rfl) ?_;refine cE hw (fun _ w' v w2=>cZ w2 (Nf w' w2) v (p.num*q.num)) (fun O w' r=>iC (Rel.old r (bs w)) ((hXn.rel r (bs w)).l (k:=100000) (by omega)) ((hYn.rel r (bs w)).l (k:=100000) (by omega)) (by omega) (by omega)) ?_;rintro O wa5 v5 wb5 iv5 r he hw h_ hn;replace hXn:=hXn.bz r (bs w) he (mC h_);replace hXd:=hXd.bz r (bs w) he (mC h_);replace hYn:=hYn.bz r (bs w) he (mC h_);replace hYd:=hYd.bz r (bs w) he (mC h_);have hN:=hn.cd (S:=fun _=>False) r.bu (mN h_);obtain⟨s5_0,s5_1,s5_2,s5_3,rfl⟩:=hN.shape;refine cE hw (fun _ w' v w2=>cZ w2 (Nf w' w2) v ((p.den:Int)*(q.den:Int))) (fun O w' r=>iC (Rel.old r (bs w)) ((hXd.rel r (bs w)).l (k:=100000) (by omega)) ((hYd.rel r (bs w)).l (k:=100000) (by omega)) (by omega) (by omega)) ?_;rintro O wa6 v6 wb6 iv6 r he hw h_ hn;replace hXn:=hXn.bz r (bs w) he (mC h_);replace hXd:=hXd.bz r (bs w) he (mC h_);replace hYn:=hYn.bz r (bs w) he (mC h_);replace hYd:=hYd.bz r (bs w) he (mC h_);replace hN:=hN.bz r (bs w) he (mC h_);have hD:=hn.cd (S:=fun _=>False) r.bu (mN h_);obtain⟨s6_0,s6_1,s6_2,s6_3,rfl⟩:=hD.shape;refine cE hw (fun _ w' v w2=>cM w2 (Nf w' w2) v (p*q)) (fun O w' r=>(vh p q)▸kC (Rel.old r (bs w)) ((hN.rel r (bs w)).l (k:=200001) (by omega)) ((hD.rel r (bs w)).l (k:=200001) (by omega)) (by omega) (by omega) (jd (fW p) (fW q))) ?_;rintro O wa7 v7 wb7 iv7 r he hw h_ hn;have hR:=hn.cd (S:=fun _=>False) r.bu (mN h_);obtain⟨s7_0,s7_1,s7_2,s7_3,s7_4,s7_5,s7_6,s7_7,rfl⟩:=hR.shape;intro ρe we re;exact⟨_,rfl,hw.tr re.cI,hR.out re (bs w)⟩
 refine cF hτ dc [.x 0,.x 2,.x 1,.x 3,.x 4,.x 5] (by kernel_rfl) (by kernel_rfl) ?_;refine cE hw (fun _ w' v w2=>cM w2 (Nf w' w2) v (p)) (fun O w' r=>iE (Rel.old r hS) (hp.rel r hS)) ?_;rintro O wa3 v3 wb3 iv3 r he hw h_ hn;replace hq:=hq.bz r hS he (mC h_);have hX:=hn.cd (S:=fun _=>False) r.bu (mN h_);obtain⟨s3_0,s3_1,s3_2,s3_3,s3_4,s3_5,s3_6,s3_7,rfl⟩:=hX.shape;refine cE hw (fun _ w' v w2=>cM w2 (Nf w' w2) v (q)) (fun O w' r=>iE (Rel.old r hS) (hq.rel r hS)) ?_;rintro O wa4 v4 wb4 iv4 r he hw h_ hn;replace hX:=hX.bz r (bs w) he (mC h_);have hY:=hn.cd (S:=fun _=>False) r.bu (mN h_);obtain⟨s4_0,s4_1,s4_2,s4_3,s4_4,s4_5,s4_6,s4_7,rfl⟩:=hY.shape;have hXn:=hX.num;have hXd:=hX.den;have hYn:=hY.num;have hYd:=hY.den;have m0:=cT p.num q.den;have m1:=cT q.num p.den;have m2:=cT (p.den:Int) q.den;have m3:=gq (p.num*q.den) (q.num*p.den);have m4:=cT p.num q.num;refine cF hτ dc [.x 0,.x 1,.x 2,.x 3,.x 5,.x 6,.x 7,.x 8,.x 4,.x 9,.x 10,.x 11] (by kernel_rfl) (by kernel_rfl) ?_;refine cE hw (fun _ w' v w2=>cZ w2 (Nf w' w2) v (p.num*q.num)) (fun O w' r=>iC (Rel.old r (bs w)) ((hXn.rel r (bs w)).l (k:=100000) (by omega)) ((hYn.rel r (bs w)).l (k:=100000) (by omega)) (by omega) (by omega)) ?_;rintro O wa5 v5 wb5 iv5 r he hw h_ hn;replace hXn:=hXn.bz r (bs w) he (mC h_);replace hXd:=hXd.bz r (bs w) he (mC h_);replace hYn:=hYn.bz r (bs w) he (mC h_);replace hYd:=hYd.bz r (bs w) he (mC h_);have hN:=hn.cd (S:=fun _=>False) r.bu (mN h_);obtain⟨s5_0,s5_1,s5_2,s5_3,rfl⟩:=hN.shape;refine cE hw (fun _ w' v w2=>cZ w2 (Nf w' w2) v ((p.den:Int)*(q.den:Int))) (fun O w' r=>iC (Rel.old r (bs w)) ((hXd.rel r (bs w)).l (k:=100000) (by omega)) ((hYd.rel r (bs w)).l (k:=100000) (by omega)) (by omega) (by omega)) ?_;rintro O wa6 v6 wb6 iv6 r he hw h_ hn;replace hXn:=hXn.bz r (bs w) he (mC h_);replace hXd:=hXd.bz r (bs w) he (mC h_);replace hYn:=hYn.bz r (bs w) he (mC h_);replace hYd:=hYd.bz r (bs w) he (mC h_);replace hN:=hN.bz r (bs w) he (mC h_);have hD:=hn.cd (S:=fun _=>False) r.bu (mN h_);obtain⟨s6_0,s6_1,s6_2,s6_3,rfl⟩:=hD.shape;refine cE hw (fun _ w' v w2=>cM w2 (Nf w' w2) v (p*q)) (fun O w' r=>(vh p q)▸kC (Rel.old r (bs w)) ((hN.rel r (bs w)).l (k:=200001) (by omega)) ((hD.rel r (bs w)).l (k:=200001) (by omega)) (by omega) (by omega) (jd (fW p) (fW q))) ?_;rintro O wa7 v7 wb7 iv7 r he hw h_ hn;have hR:=hn.cd (S:=fun _=>False) r.bu (mN h_);obtain⟨s7_0,s7_1,s7_2,s7_3,s7_4,s7_5,s7_6,s7_7,rfl⟩:=hR.shape;intro ρe we re;exact⟨_,rfl,hw.tr re.cI,hR.out re (bs w)⟩
theorem Jr{v:Value}(hS:Old S w)(hp:eR w S v p):
  di PG N.zo #[v] w (dw w fun v' w2=>cM w2 (Nf w w2) v' (-p)):=by
 have hw:cR w.heap.size w w:=cR.refl;replace hp:=hp.cC (S':=Cv S w.heap.size []) fun _ h=>.inl h;obtain⟨b1,a1,n1,c1,b2,a2,n2,c2,rfl⟩:=hp.shape;refine Al (by simp) ?_;have r1:=hp.rl;have u1:=fP p;have u2:=e7 p;refine bw (cE hw (fun _ w' v w2=>cM w2 (Nf w' w2) v (p)) (fun O w' r=>iE (Rel.old r hS) (hp.rel r hS)) ?_);rintro O wa1 v1 wb1 iv1 r he hw h_ hn;have hX:=hn.cd (S:=fun _=>False) r.bu (mN h_);obtain⟨s1_0,s1_1,s1_2,s1_3,s1_4,s1_5,s1_6,s1_7,rfl⟩:=hX.shape;have hXn:=hX.num;have hXd:=hX.den;refine cF hτ dc [.x 0,.x 1,.x 3,.x 4,.x 2,.x 5,.x 6] (by kernel_rfl) (by kernel_rfl) ?_;refine cE hw (fun _ w' v w2=>cZ w2 (Nf w' w2) v (-p.num)) (fun O w' r=>kg (Rel.old r (bs w)) ((hXn.rel r (bs w)).l (k:=100000) (by omega)) (by omega)) ?_;rintro O wa2 v2 wb2 iv2 r he hw h_ hn;replace hXd:=hXd.bz r (bs w) he (mC h_);have hN:=hn.cd (S:=fun _=>False) r.bu (mN h_);obtain⟨s2_0,s2_1,s2_2,s2_3,rfl⟩:=hN.shape;refine cE hw (fun _ w' v w2=>cM w2 (Nf w' w2) v (-p)) (fun O w' r=>show di _ _ _ _ (dw _ fun v w2=>cM w2 _ v (-p))from(show Rat.divInt (-p.num) p.den= -p by rw[<-Rat.neg_divInt,Rat.num_divInt_den])▸kC (Rel.old r (bs w)) ((hN.rel r (bs w)).l (k:=100000) (by rw[bq];omega)) ((hXd.rel r (bs w)).l (k:=100000) (by omega)) (by omega) (by omega) (fW p)) ?_;rintro O wa3 v3 wb3 iv3 r he hw h_ hn;have hR:=hn.cd (S:=fun _=>False) r.bu (mN h_);obtain⟨s3_0,s3_1,s3_2,s3_3,s3_4,s3_5,s3_6,s3_7,rfl⟩:=hR.shape;intro ρe we re;exact⟨_,rfl,hw.tr re.cI,hR.out re (bs w)⟩
theorem Js{v:Value}(hS:Old S w)(hp:eR w S v p)(hq:eR w S u q):
  di PG N.zm #[v,u] w (dw w fun v' w2=>cM w2 (Nf w w2) v' (p-q)):=by
 have hw:cR w.heap.size w w:=cR.refl;replace hp:=hp.cC (S':=Cv S w.heap.size []) fun _ h=>.inl h;replace hq:=hq.cC (S':=Cv S w.heap.size []) fun _ h=>.inl h;obtain⟨b1,a1,n1,c1,b2,a2,n2,c2,rfl⟩:=hp.shape;obtain⟨b3,a3,n3,c3,b4,a4,n4,c4,rfl⟩:=hq.shape;refine Ag (by simp) ?_;have r1:=hp.rl;have r2:=hq.rl;have u1:=qU q;refine cF hτ dc [.x 0,.x 1,.x 2,.x 3,.x 4] (by kernel_rfl) (by kernel_rfl) ?_;refine cE hw (fun _ w' v w2=>cM w2 (Nf w' w2) v (-q)) (fun O w' r=>Jr (Rel.old r hS) (hq.rel r hS)) ?_;rintro O wa1 v1 wb1 iv1 r he hw h_ hn;replace hp:=hp.bz r hS he (mC h_);have hN:=hn.cd (S:=fun _=>False) r.bu (mN h_);obtain⟨s1_0,s1_1,s1_2,s1_3,s1_4,s1_5,s1_6,s1_7,rfl⟩:=hN.shape;refine cE hw (fun _ w' v w2=>cM w2 (Nf w' w2) v (p-q)) (fun O w' r=>(Rat.sub_eq_add_neg p q)▸Dy (Rel.old r hS) (hp.rel r hS) (((hN.rel r (bs w)).l (by omega)).cC fun g hg=>Cv.false hg)) ?_;rintro O wa2 v2 wb2 iv2 r he hw h_ hn;have hR:=hn.cd (S:=fun _=>False) r.bu (mN h_);obtain⟨s2_0,s2_1,s2_2,s2_3,s2_4,s2_5,s2_6,s2_7,rfl⟩:=hR.shape;intro ρe we re;exact⟨_,rfl,hw.tr re.cI,hR.out re (bs w)⟩
theorem H9{v:Value}(hS:Old S w)(hp:eR w S v p)(hq:eR w S u q):
  di PG N.zi #[v,u] w (dw w fun v' _=>v'= .int .i64 (rs (p-q))):=by
 have hw:cR w.heap.size w w:=cR.refl;replace hp:=hp.cC (S':=Cv S w.heap.size []) fun _ h=>.inl h;replace hq:=hq.cC (S':=Cv S w.heap.size []) fun _ h=>.inl h;obtain⟨b1,a1,n1,c1,b2,a2,n2,c2,rfl⟩:=hp.shape;obtain⟨b3,a3,n3,c3,b4,a4,n4,c4,rfl⟩:=hq.shape;refine Ac (by simp) ?_;refine bw (cE hw (fun _ w' v w2=>cM w2 (Nf w' w2) v (p-q)) (fun O w' r=>Js (Rel.old r hS) (hp.rel r hS) (hq.rel r hS)) ?_);rintro O wa1 v1 wb1 iv1 r he hw h_ hn;have hR:=hn.cd (S:=fun _=>False) r.bu (mN h_);obtain⟨s1_0,s1_1,s1_2,s1_3,s1_4,s1_5,s1_6,s1_7,rfl⟩:=hR.shape;refine bw (cE hw (fun _ w' v w2=>v= .int .i64 (rs (p-q))) (fun O w' r=>Fv (Rel.old r (bs w)) (hR.rel r (bs w))) ?_);rintro O wa2 v2 wb2 iv2 r he hw h_ rfl;intro ρe we re;exact⟨_,rfl,hw.tr re.cI,rfl⟩
theorem Ck(n:Int)(w:World)(h1n: -9223372036854775808<=n)(h2n:n<=9223372036854775807):
  di PG N.oJ #[.int .i64 n] w (dw w fun v' w2=>cM w2 (Nf w w2) v' (n:Rat)):=by
 have hw:cR w.heap.size w w:=cR.refl;have ha:=mK h1n h2n;refine oU (by simp) ?_;refine bw (cE hw (fun _ w' v w2=>cZ w2 (Nf w' w2) v (n)) (fun O w' r=>jm n w' h1n h2n) ?_);rintro O wa1 v1 wb1 iv1 r he hw h_ hn;have hA:=hn.cd (S:=fun _=>False) r.bu (mN h_);obtain⟨s1_0,s1_1,s1_2,s1_3,rfl⟩:=hA.shape;refine bw (cE hw (fun _ w' v w2=>cZ w2 (Nf w' w2) v (1)) (fun O w' r=>jm 1 w' (by decide) (by decide)) ?_);rintro O wa2 v2 wb2 iv2 r he hw h_ hn;replace hA:=hA.bz r (bs w) he (mC h_);have hB:=hn.cd (S:=fun _=>False) r.bu (mN h_);obtain⟨s2_0,s2_1,s2_2,s2_3,rfl⟩:=hB.shape;refine bw (cE hw (fun _ w' v w2=>cM w2 (Nf w' w2) v ((n:Rat))) (fun O w' r=>(yW n)▸kC (Rel.old r (bs w)) ((hA.rel r (bs w)).l (k:=2) (by omega)) ((hB.rel r (bs w)).l (k:=2) (by decide)) (by omega) (by omega) (by decide)) ?_);rintro O wa3 v3 wb3 iv3 r he hw h_ hn;have hR:=hn.cd (S:=fun _=>False) r.bu (mN h_);obtain⟨s3_0,s3_1,s3_2,s3_3,s3_4,s3_5,s3_6,s3_7,rfl⟩:=hR.shape;intro ρe we re;exact⟨_,rfl,hw.tr re.cI,hR.out re (bs w)⟩
theorem H7(a b:Int)(w:World)(h1a: -9223372036854775808<=a)(h2a:a<=9223372036854775807)(h1b: -9223372036854775808<=b)(h2b:b<=9223372036854775807):
  di PG N.uT #[.int .i64 a,.int .i64 b] w (dw w fun v' w2=>(b=0∧v'= .tuple #[tv,.int .i64 9])∨(b≠0∧∃q,v'= .tuple #[q,.int .i64 0]∧cM w2 (Nf w w2) q (Rat.divInt a b))):=by
 have hw:cR w.heap.size w w:=cR.refl;have ha:=mK h1a h2a;have hb':=mK h1b h2b;refine xr (by simp) ?_;refine dF.mk (fun h=>?_) (fun h=>?_)
 ·have h:b=0:=by simpa using h
  intro ρe we re;exact⟨_,rfl,hw.tr re.cI,.inl ⟨h,rfl⟩⟩
 have h:b≠0:=by simpa using h
 refine bw (cE hw (fun _ w' v w2=>cZ w2 (Nf w' w2) v (a)) (fun O w' r=>jm a w' h1a h2a) ?_);rintro O wa1 v1 wb1 iv1 r he hw h_ hn;have hA:=hn.cd (S:=fun _=>False) r.bu (mN h_);obtain⟨s1_0,s1_1,s1_2,s1_3,rfl⟩:=hA.shape;refine bw (cE hw (fun _ w' v w2=>cZ w2 (Nf w' w2) v (b)) (fun O w' r=>jm b w' h1b h2b) ?_);rintro O wa2 v2 wb2 iv2 r he hw h_ hn;replace hA:=hA.bz r (bs w) he (mC h_);have hB:=hn.cd (S:=fun _=>False) r.bu (mN h_);obtain⟨s2_0,s2_1,s2_2,s2_3,rfl⟩:=hB.shape;refine bw (cE hw (fun _ w' v w2=>cM w2 (Nf w' w2) v (Rat.divInt a b)) (fun O w' r=>kC (Rel.old r (bs w)) ((hA.rel r (bs w)).l (k:=2) (by omega)) ((hB.rel r (bs w)).l (k:=2) (by omega)) (by omega) (by omega) h) ?_);rintro O wa3 v3 wb3 iv3 r he hw h_ hn;have hR:=hn.cd (S:=fun _=>False) r.bu (mN h_);obtain⟨s3_0,s3_1,s3_2,s3_3,s3_4,s3_5,s3_6,s3_7,rfl⟩:=hR.shape;intro ρe we re;exact⟨_,rfl,hw.tr re.cI,.inr ⟨h,_,rfl,hR.out re (bs w)⟩⟩
section
variable{S S':Nat->Prop}{H:Hp}{nx:Nat}{iv iv':Iv}{B:Nat}{w w' w2:World}{O:Nat->Sx.dS}{v:Value}{a:Int}{b:Int}
end
theorem ix.short{b:Bool}{n c k:Nat}{z:Int}(h:ix w S (.agg #[.bool b,.slice a n c]) z)(hk:n<=k):ek w S (.agg #[.bool b,.slice a n c]) k z:=by
 obtain⟨b2,ls,⟨lv,e1,h3⟩,h2⟩:=h;obtain⟨a2,c2,e2,_⟩:=h3.sl;subst e2;simp only[Value.agg.injEq,Array.mk.injEq,List.cons.injEq,Value.bool.injEq,Value.slice.injEq,and_true]at e1;obtain⟨rfl,rfl,e3,rfl⟩:=e1;exact⟨_,ls,⟨_,by rw[e3],h3⟩,h2,by omega⟩
def lN(w:World)(S:Nat->Prop)(cs:List Value)(q:Rat):Prop:=∃b a n c b2 a2 n2 c2,cs=[.bool b,.slice a n c,.bool b2,.slice a2 n2 c2]∧eR w S (.agg #[.bool b,.slice a n c,.bool b2,.slice a2 n2 c2]) q
abbrev dX:=dY lN
section
variable{S S':Nat->Prop}{H:Hp}{nx:Nat}{iv iv':Iv}{B:Nat}{w w' w2:World}{O:Nat->Sx.dS}{v:Value}{qs:List Rat}{cs:List Value}{q:Rat}
theorem lN.cB(h:lN w S cs q)(hk:∀g,S g->w2.heap[g]? =w.heap[g]?):lN w2 S cs q:=by
 obtain⟨b,a,n,c,b2,a2,n2,c2,h1,h2⟩:=h;exact⟨b,a,n,c,b2,a2,n2,c2,h1,h2.cB hk⟩
theorem lN.cC(h:lN w S cs q)(hk:∀g,S g->S' g):lN w S' cs q:=by
 obtain⟨b,a,n,c,b2,a2,n2,c2,h1,h2⟩:=h;exact⟨b,a,n,c,b2,a2,n2,c2,h1,h2.cC hk⟩
theorem dX.cB(h:dX w S v qs)(hk:∀g,S g->w2.heap[g]? =w.heap[g]?):dX w2 S v qs:=by
 obtain⟨css,h1,h2,h3,h4⟩:=h;exact⟨css,h1.cB hk,h2,h3,fun j cs x k1 k2=>(h4 j cs x k1 k2).cB hk⟩
theorem dX.cC(h:dX w S v qs)(hk:∀g,S g->S' g):dX w S' v qs:=by
 obtain⟨css,h1,h2,h3,h4⟩:=h;exact⟨css,h1.cC hk,h2,h3,fun j cs x k1 k2=>(h4 j cs x k1 k2).cC hk⟩
end
section
variable{S S':Nat->Prop}{H:Hp}{nx:Nat}{iv iv':Iv}{B:Nat}{w w' w2:World}{O:Nat->Sx.dS}{v:Value}{qs:List Rat}
theorem dX.rel(h:dX w (Cv S B iv) v qs)(r:Rel H nx iv B w O w')(hS:∀g,S g->g<B):dX w' (Cv S B iv) v qs:=dX.cB h fun _ hg=>Rel.same r hS hg
theorem dX.bz(h:dX w (Cv S B iv) v qs)(r:Rel H nx iv B w O w')(hS:∀g,S g->g<B)(he:Ext w' w2)(hm:∀p,p∈iv->p∈iv'):dX w2 (Cv S B iv') v qs:=
 dX.cC (dX.cB (dX.rel h r hS) fun g hg=>he.block g (Rel.old r hS g hg)) fun _ hg=>hg.mono hm
end
section
variable{S S':Nat->Prop}{H:Hp}{nx:Nat}{iv iv':Iv}{B:Nat}{w w' w2:World}{O:Nat->Sx.dS}{v:Value}{M:List (List Rat)}
end
section
variable{S S':Nat->Prop}{H:Hp}{nx:Nat}{iv iv':Iv}{B:Nat}{w w' w2:World}{O:Nat->Sx.dS}{css:List (List Value)}{qs:List Rat}
end
end Go.Ex
namespace Go.Ex
variable{M:List (List Rat)}{s:List (List Rat)×List Nat}
theorem DG{c r k R:Nat}(hk:r<=k)(hR:k<=R)(h:∀j,r<=j->j<k->cY M j c=0):gX M c (R-r) r=gX M c (R-k) k:=by
 induction k with
 |zero=>
  have:r=0:=by omega
  subst this;rfl
 |succ k ih=>
  rcases aO k r with h1|h1
  ·have:r=k+1:=by omega
   subst this;rfl
  ·rw[ih h1 (by omega) fun j h2 h3=>h j h2 (by omega),show R-k=(R-(k+1))+1 by omega,DH (h k h1 (by omega))]
theorem jT{α:Type}{l:List α}{i:Nat}{x:α}(h:i<l.length):l.take i++[x]++l.drop (i+1)=l.set i x:=by
 rw[List.set_eq_take_append_cons_drop,if_pos h];simp
theorem DI{c:Nat}(h:¬s.2.length<s.1.length∨gX s.1 c (s.1.length-s.2.length) s.2.length=s.1.length):dV s c=s:=by
 unfold dV;split
 ·rcases h with h|h
  ·exact absurd ‹_› h
  ·dsimp only;rw[if_pos h]
 ·rfl
theorem DJ{c k:Nat}(hk:s.2.length<=k)(hl:k<s.1.length)(h:∀j,s.2.length<=j->j<k->cY s.1 j c=0)(hn:cY s.1 k c≠0):
  dV s c=(gY (scaled (jA [] s.1 s.2.length k) s.2.length c) s.2.length c s.1.length,s.2++[c]):=by
 have e:gX s.1 c (s.1.length-s.2.length) s.2.length=k:=by
  rw[DG hk (by omega) h,show s.1.length-k=(s.1.length-k-1)+1 by omega,DK hn]
 unfold dV;rw[if_pos (by omega)];dsimp only
 rw[e,aI (by omega),pY,js]
end Go.Ex
namespace Go.Ex
open Go Go.Sx Go.Proofs
variable{qs:List Rat}{S:Nat->Prop}
theorem cD.l{w:World}{v:Value}(h:cD w S v qs)(hq:∀q∈qs,rl q<=100000):dX w S v qs:=by
 obtain⟨css,h1,h2,h3,h4⟩:=h;refine⟨css,h1,h2,h3,fun j cs q k1 k2=>?_⟩;obtain⟨b,a,n,c,b2,a2,n2,c2,e,hc⟩:=h4 j cs q k1 k2;exact⟨b,a,n,c,b2,a2,n2,c2,e,hc.l (hq q (aD k2))⟩
section
variable{S S':Nat->Prop}{H:Hp}{nx:Nat}{iv iv':Iv}{B:Nat}{w w' w2:World}{O:Nat->Sx.dS}{rv:List Value}{M:List (List Rat)}
end
end Go.Ex
namespace Go.Ex
variable{s:List (List Rat)×List Nat}{r:List Rat}
theorem dg(M:List (List Rat))(cols:Nat):(cH M cols).1.length=M.length:=by
 have key:∀(l:List Nat) (s:List (List Rat)×List Nat),(l.foldl dV s).1.length=s.1.length:=by
  intro l
  induction l with
  |nil=>exact fun s=>rfl
  |cons c l ih=>exact fun s=>by rw[List.foldl_cons,ih,mY]
 exact key _ _
theorem qM{M:List (List Rat)}{c:Nat}:∀f k j,k<=j->j<gX M c f k->cY M j c=0
 |0,k,j,h1,h2=>by simp only[gX]at h2;omega
 |f+1,k,j,h1,h2=>by
  unfold gX at h2;split at h2
  ·rename_i h0;rcases aO k j with h|h
   ·exact qM f (k+1) j h h2
   ·rw[show j=k by omega];exact h0
  ·omega
theorem iZ(c:Nat)(hle:s.2.length<=s.1.length):(dV s c=s∧∀j,s.2.length<=j->j<s.1.length->cY s.1 j c=0)∨
  ∃k,s.2.length<=k∧k<s.1.length∧cY s.1 k c≠0∧dV s c=(gY (scaled (jA [] s.1 s.2.length k) s.2.length c) s.2.length c s.1.length,s.2++[c]):=by
 have h1:=wZ s.1 c (s.1.length-s.2.length) s.2.length;by_cases hk:gX s.1 c (s.1.length-s.2.length) s.2.length=s.1.length
 ·exact .inl ⟨DI (.inr hk),fun j hj hl=>qM (s.1.length-s.2.length) s.2.length j hj (by omega)⟩
 ·exact .inr ⟨_,h1.1,by omega,wh s.1 c _ _ (by omega),DJ h1.1 (by omega) (fun j h2 h3=>qM _ _ j h2 h3) (wh s.1 c _ _ (by omega))⟩
theorem tA{p:Rat}{s:List Rat}{c:Nat}(h:c<r.length):(r.mapIdx (wi p s)).getD c 0=r.getD c 0+p*s.getD c 0:=by
 simp only[List.getD,List.getElem?_mapIdx,aA h]
 rfl
theorem wj{k:Rat}{c:Nat}:(r.map (· *k)).getD c 0=r.getD c 0*k:=by
 simp only[List.getD,aM]
 cases r[c]? with
 |none=>exact(bA k).symm
 |some q=>rfl
theorem kL{c k n:Nat}(hl:fZ n s.1)(h1:s.2.length<=k)(h2:k<s.1.length)(h3:cY s.1 k c≠0)(e:dV s c=(gY (scaled (jA [] s.1 s.2.length k) s.2.length c) s.2.length c s.1.length,s.2++[c])):
  (∀t,cY (dV s c).1 s.2.length t=cY s.1 k t*(1 / cY s.1 k c))∧
  ∀j,j<s.1.length->j≠s.2.length->∀t,t<n->cY (dV s c).1 j t=cY s.1 (if j=k then s.2.length else j) t+ -(cY s.1 (if j=k then s.2.length else j) c)*(cY s.1 k t*(1 / cY s.1 k c)):=by
 have hp:s.2.length<s.1.length:=by omega
 have hsw:cY (jA [] s.1 s.2.length k) s.2.length c=cY s.1 k c:=GW hp h2;have hpiv:(scaled (jA [] s.1 s.2.length k) s.2.length c).getD s.2.length []=(s.1.getD k []).map (· *(1 / cY s.1 k c)):=by
  unfold scaled;rw[hsw,List.getD,aU (by rw[js];exact hp)];simp only[Option.getD_some]
  congr 1;rw[List.getD,List.getD,zV hp h2]
 have hrow:∀j,j<s.1.length->j≠s.2.length->(scaled (jA [] s.1 s.2.length k) s.2.length c)[j]? =some (s.1.getD (if j=k then s.2.length else j) []):=fun j hj hne=>by
  unfold scaled;rw[aZ (Ne.symm hne)];unfold jA;by_cases hjk:j=k
  ·subst hjk;rw[aU (by simpa using hj),if_pos rfl]
  ·rw[aZ (Ne.symm hjk),aZ (Ne.symm hne),aI hjk,List.getD,aA hj];rfl
 have hgp:(gY (scaled (jA [] s.1 s.2.length k) s.2.length c) s.2.length c s.1.length).getD s.2.length []=(s.1.getD k []).map (· *(1 / cY s.1 k c)):=by
  rw[<-hpiv];simp only[List.getD,DL]
 rw[e];refine⟨fun t=>?_,fun j hj hne t ht=>?_⟩
 ·show((gY (scaled (jA [] s.1 s.2.length k) s.2.length c) s.2.length c s.1.length).getD s.2.length []).getD t 0=_;rw[hgp,wj];rfl
 ·have hgj:(gY (scaled (jA [] s.1 s.2.length k) s.2.length c) s.2.length c s.1.length).getD j []=(s.1.getD (if j=k then s.2.length else j) []).mapIdx (wi (-((s.1.getD (if j=k then s.2.length else j) []).getD c 0)) ((s.1.getD k []).map (· *(1 / cY s.1 k c)))):=by
   simp only[List.getD,gY,List.getElem?_mapIdx,hrow j hj hne,Option.map_some,Option.getD_some]
   rw[if_pos ⟨hj,hne⟩];exact congrArg (fun P=>(s.1.getD (if j=k then s.2.length else j) []).mapIdx (wi (-((s.1.getD (if j=k then s.2.length else j) []).getD c 0)) P)) hpiv
  show((gY (scaled (jA [] s.1 s.2.length k) s.2.length c) s.2.length c s.1.length).getD j []).getD t 0=_;rw[hgj,tA (by rw[hl.getD (by split<;>omega)];exact ht),wj];rfl
theorem rH{x:Rat}(h:x≠0):x*(1 / x)=1:=by rw[bW,bj,Rat.mul_inv_cancel x h]
def Ju(n c:Nat)(s:List (List Rat)×List Nat):Prop:=fZ n s.1∧s.2.length<=s.1.length∧(∀j t,s.2.length<=j->j<s.1.length->t<c->cY s.1 j t=0)∧(∀p∈s.2,p<c)∧
 ∀i j,i<s.2.length->j<s.1.length->cY s.1 j (s.2.getD i 0)=if j=i then 1 else 0
theorem Ju.step{n c:Nat}(h:Ju n c s)(hc:c<n):Ju n (c+1) (dV s c):=by
 obtain⟨hl,hle,hz,hpc,hu⟩:=h;rcases iZ c hle with⟨e,h0⟩|⟨k,h1,h2,h3,e⟩
 ·rw[e];refine⟨hl,hle,fun j t hj hjl ht=>?_,fun p hp=>by have:=hpc p hp;omega,hu⟩;rcases aO t c with h|h
  ·exact hz j t hj hjl h
  ·rw[show t=c by omega];exact h0 j hj hjl
 ·obtain⟨r1,r2⟩:=kL hl h1 h2 h3 e;have hlen:(dV s c).1.length=s.1.length:=mY s c;have e2:(dV s c).2=s.2++[c]:=by rw[e]
  have e3:(dV s c).2.length=s.2.length+1:=by rw[e2];simp
  have hone:∀j,j<s.1.length->j≠s.2.length->cY (dV s c).1 j c=0:=fun j hj hne=>by
   rw[r2 j hj hne c hc,rH h3,Rat.mul_one,Rat.add_neg_cancel]
  refine⟨hl.step,by rw[e3,hlen];omega,fun j t hj hjl ht=>?_,fun p hp=>?_,fun i j hi hj=>?_⟩
  ·rw[e3]at hj;rw[hlen]at hjl;rcases aO t c with h|h
   ·rw[r2 j hjl (by omega) t (by omega),hz k t h1 h2 h,hz (if j=k then s.2.length else j) t (by split<;>omega) (by split<;>omega) h,bA,aw,Rat.zero_add]
   ·rw[show t=c by omega];exact hone j hjl (by omega)
  ·rw[e2]at hp;rcases bN.1 hp with hp|hp
   ·have:=hpc p hp;omega
   ·rw[bD.1 hp];omega
  ·rw[e3]at hi;rw[hlen]at hj;rcases aO i s.2.length with h|h
   ·have hg:(dV s c).2.getD i 0=s.2.getD i 0:=by rw[e2,List.getD,aK h,<-List.getD]
    have hpm:s.2.getD i 0<c:=hpc _ (by rw[List.getD,aA h];exact aX h);have hk0:cY s.1 k (s.2.getD i 0)=0:=hz k _ h1 h2 hpm;rw[hg];by_cases hjp:j=s.2.length
    ·rw[hjp,r1,hk0,bA,aI (by omega)]
    ·rw[r2 j hj hjp _ (by omega),hk0,bA,aw,bP];by_cases hjk:j=k
     ·rw[if_pos hjk,hu i _ h (by omega),aI (by omega),aI (by omega)]
     ·rw[aI hjk,hu i j h hj]
   ·have hg:(dV s c).2.getD i 0=c:=by rw[e2,List.getD,aN h,show i-s.2.length=0 by omega];rfl
    rw[hg];by_cases hjp:j=s.2.length
    ·rw[hjp,r1,rH h3,if_pos (by omega)]
    ·rw[hone j hj hjp,aI (by omega)]
theorem dN{M:List (List Rat)}{n:Nat}(hl:fZ n M):∀cols,cols<=n->Ju n cols (cH M cols)
 |0,_=>⟨hl,aP _,fun _ _ _ _ h=>by omega,fun p hp=>(by cases hp),fun _ _ h=>(by cases h)⟩
 |c+1,h=>by
  have ih:=dN hl c (by omega);unfold cH at ih ⊢;rw[bR,List.foldl_append];exact ih.step (by omega)
abbrev Mx:=Nat->Nat->Rat
def skip(k j:Nat):Nat:=if j<k then j else j+1
def qP(k:Nat):Rat:=if k % 2=1 then -1 else 1
def cQ(f:Nat->Rat):Nat->Rat
 |0=>0
 |n+1=>cQ f n+f n
def fF:Nat->Mx->Rat
 |0,_=>1
 |n+1,m=>cQ (fun k=>qP k*(m 0 k*fF n fun i j=>m (i+1) (skip k j))) (n+1)
theorem cA{f g:Nat->Rat}:∀{n:Nat},(∀k,k<n->f k=g k)->cQ f n=cQ g n
 |0,_=>rfl
 |n+1,h=>by rw[cQ,cQ,cA fun k hk=>h k (by omega),h n (by omega)]
theorem dK:∀(n:Nat),cQ (fun _=>0) n=0
 |0=>rfl
 |n+1=>by rw[cQ,dK n,bP]
theorem fO(f g:Nat->Rat):∀(n:Nat),cQ (fun k=>f k+g k) n=cQ f n+cQ g n
 |0=>(bP 0).symm
 |n+1=>by rw[cQ,cQ,cQ,fO f g n];grind
theorem eE(p:Rat)(f:Nat->Rat):∀(n:Nat),cQ (fun k=>p*f k) n=p*cQ f n
 |0=>(aw p).symm
 |n+1=>by rw[cQ,cQ,eE p f n];grind
theorem jB(f:Nat->Rat)(n:Nat):cQ (fun k=> -f k) n= -cQ f n:=by
 have h:=eE (-1) f n;rw[show (-1:Rat)*cQ f n= -cQ f n by grind]at h;rw[<-h];exact cA fun k _=>by grind
theorem wy(f:Nat->Rat):∀(n:Nat),cQ f (n+1)=f 0+cQ (fun k=>f (k+1)) n
 |0=>by show 0+f 0=f 0+0;grind
 |n+1=>by rw[cQ,wy f n,cQ];grind
theorem ES{k j n:Nat}(h:j<n):skip k j<n+1:=by unfold skip;split<;>omega
theorem FP{k l:Nat}(h:k<=l)(j:Nat):skip k (skip l j)=skip (l+1) (skip k j):=by
 unfold skip;grind
theorem gj:∀{n:Nat} {m m':Mx},(∀i j,i<n->j<n->m i j=m' i j)->fF n m=fF n m'
 |0,_,_,_=>rfl
 |n+1,m,m',h=>by
  unfold fF;refine cA fun k hk=>?_;rw[h 0 k (by omega) hk,gj fun i j hi hj=>h (i+1) (skip k j) (by omega) (ES hj)]
def gA(m:Mx)(r:Nat)(u:Nat->Rat):Mx:=fun i j=>if i=r then u j else m i j
theorem tB(m:Mx)(r k:Nat)(u:Nat->Rat):(fun i j=>gA m (r+1) u (i+1) (skip k j))=gA (fun i j=>m (i+1) (skip k j)) r fun j=>u (skip k j):=by
 funext i j
 unfold gA;by_cases h:i=r
 ·rw[if_pos h,if_pos (by omega)]
 ·rw[aI h,aI (by omega)]
theorem ll(p:Rat):∀(n r:Nat) (m:Mx),r<n->∀(u v:Nat->Rat),fF n (gA m r fun j=>u j+p*v j)=fF n (gA m r u)+p*fF n (gA m r v)
 |0,_,_,h,_,_=>by omega
 |n+1,0,m,_,u,v=>by
  unfold fF;rw[<-eE,<-fO];refine cA fun k _=>?_;have e:∀x:Nat->Rat,(fun i j=>gA m 0 x (i+1) (skip k j))=fun i j=>m (i+1) (skip k j):=fun x=>by
   funext i j;unfold gA;rw[aI (by omega)]
  rw[e,e,e];unfold gA;rw[if_pos rfl,if_pos rfl,if_pos rfl];grind
 |n+1,r+1,m,h,u,v=>by
  unfold fF;rw[<-eE,<-fO];refine cA fun k _=>?_;rw[tB,tB,tB,ll p n r _ (by omega) (fun j=>u (skip k j)) fun j=>v (skip k j)];have e:∀x:Nat->Rat,gA m (r+1) x 0 k=m 0 k:=fun x=>by unfold gA;rw[aI (by omega)]
  rw[e,e,e];grind
theorem wz{F:Nat->Nat->Rat}:∀{n:Nat},(∀k l,k<=l->l<n->F k l+F (l+1) k=0)->cQ (fun k=>cQ (F k) n) (n+1)=0
 |0,_=>by show 0+0=(0:Rat);grind
 |n+1,h=>by
  have ih:=wz (F:=F) (n:=n) fun k l h1 h2=>h k l h1 (by omega);have h3:cQ (fun k=>F k n+F (n+1) k) (n+1)=0:=by
   rw[cA (g:=fun _=>0) fun k hk=>h k n (by omega) (by omega),dK]
  rw[fO]at h3;rw[cQ];have h4:cQ (fun k=>cQ (F k) (n+1)) (n+1)=cQ (fun k=>cQ (F k) n) (n+1)+cQ (fun k=>F k n) (n+1):=by
   rw[<-fO];rfl
  rw[h4,ih,Rat.zero_add];exact h3
def kF(a b i:Nat):Nat:=if i=a then b else if i=b then a else i
theorem FQ(r i:Nat):kF (r+1) (r+2) (i+1)=kF r (r+1) i+1:=by
 unfold kF;by_cases h:i=r
 ·rw[if_pos (by omega),if_pos h]
 ·rw[aI (by omega),aI h];by_cases h2:i=r+1
  ·rw[if_pos (by omega),if_pos h2]
  ·rw[aI (by omega),aI h2]
theorem GZ(k:Nat):qP (k+1)= -qP k:=by
 unfold qP;by_cases h:k % 2=1
 ·rw[if_pos h,aI (by omega)];grind
 ·rw[aI h,if_pos (by omega)]
theorem Bp(n:Nat)(m:Mx):fF (n+2) m=cQ (fun k=>cQ (fun l=>qP k*qP l*(m 0 k*m 1 (skip k l))*fF n fun i j=>m (i+2) (skip k (skip l j))) (n+1)) (n+2):=by
 rw[fF];refine cA fun k _=>?_;rw[fF,<-eE,<-eE];refine cA fun l _=>?_;grind
theorem xA:∀(n r:Nat) (m:Mx),r+1<n->fF n (fun i j=>m (kF r (r+1) i) j)= -fF n m
 |0,_,_,h=>by omega
 |1,_,_,h=>by omega
 |n+2,0,m,_=>by
  rw[Bp,Bp,<-jB];have key:cQ (fun k=>cQ (fun l=>qP k*qP l*(m 1 k*m 0 (skip k l))*(fF n fun i j=>m (i+2) (skip k (skip l j)))+qP k*qP l*(m 0 k*m 1 (skip k l))*fF n fun i j=>m (i+2) (skip k (skip l j))) (n+1)) (n+2)=0:=by
   refine wz fun k l h1 h2=>?_;have e1:skip k l=l+1:=by unfold skip;rw[aI (by omega)]
   have e2:skip (l+1) k=k:=by unfold skip;rw[if_pos (by omega)]
   have e3:(fun i j=>m (i+2) (skip (l+1) (skip k j)))=fun i j=>m (i+2) (skip k (skip l j)):=by
    funext i j;rw[FP h1]
   rw[e1,e2,e3,GZ];grind
  have h4:cQ (fun k=>cQ (fun l=>qP k*qP l*(m 1 k*m 0 (skip k l))*(fF n fun i j=>m (i+2) (skip k (skip l j)))+qP k*qP l*(m 0 k*m 1 (skip k l))*fF n fun i j=>m (i+2) (skip k (skip l j))) (n+1)) (n+2)=
    cQ (fun k=>cQ (fun l=>qP k*qP l*(m 1 k*m 0 (skip k l))*fF n fun i j=>m (i+2) (skip k (skip l j))) (n+1)) (n+2)+cQ (fun k=>cQ (fun l=>qP k*qP l*(m 0 k*m 1 (skip k l))*fF n fun i j=>m (i+2) (skip k (skip l j))) (n+1)) (n+2):=by
   rw[<-fO];exact cA fun k _=>fO _ _ _
  rw[h4]at key;have h5:cQ (fun k=> -cQ (fun l=>qP k*qP l*(m 0 k*m 1 (skip k l))*fF n fun i j=>m (i+2) (skip k (skip l j))) (n+1)) (n+2)= -cQ (fun k=>cQ (fun l=>qP k*qP l*(m 0 k*m 1 (skip k l))*fF n fun i j=>m (i+2) (skip k (skip l j))) (n+1)) (n+2):=jB _ _;rw[h5];have h6:cQ (fun k=>cQ (fun l=>qP k*qP l*(m (kF 0 1 0) k*m (kF 0 1 1) (skip k l))*fF n fun i j=>m (kF 0 1 (i+2)) (skip k (skip l j))) (n+1)) (n+2)=cQ (fun k=>cQ (fun l=>qP k*qP l*(m 1 k*m 0 (skip k l))*fF n fun i j=>m (i+2) (skip k (skip l j))) (n+1)) (n+2):=by
   refine cA fun k _=>cA fun l _=>?_;have e:∀i,kF 0 1 (i+2)=i+2:=fun i=>by unfold kF;rw[aI (by omega),aI (by omega)]
   simp only[e]
   rfl
  rw[show (0:Nat)+1=1 from rfl,h6];grind
 |n+2,r+1,m,h=>by
  rw[fF,fF,<-jB];refine cA fun k _=>?_;have e:(fun i j=>m (kF (r+1) (r+1+1) (i+1)) (skip k j))=fun i j=>m (kF r (r+1) i+1) (skip k j):=by
   funext i j
   rw[show r+1+1=r+2 from rfl,FQ]
  have ih:fF (n+1) (fun i j=>m (kF r (r+1) i+1) (skip k j))= -fF (n+1) fun i j=>m (i+1) (skip k j):=xA (n+1) r (fun i j=>m (i+1) (skip k j)) (by omega);rw[e,ih];rw[show kF (r+1) (r+1+1) 0=0 by unfold kF;rw[aI (by omega),aI (by omega)]];grind
theorem mb:∀(k n:Nat) (m:Mx),k+1<n->(∀j,j<n->m 0 j=m (k+1) j)->fF n m=0
 |0,n,m,h,he=>by
  have h1:=xA n 0 m h;rw[gj (m':=m) fun i j hi hj=>?_]at h1
  ·grind
  ·unfold kF;by_cases h0:i=0
   ·rw[if_pos h0,h0];exact(he j hj).symm
   ·rw[aI h0];by_cases h2:i=1
    ·rw[if_pos h2,h2];exact he j hj
    ·rw[aI h2]
 |k+1,n,m,h,he=>by
  have h1:=xA n (k+1) m h;rw[mb k n _ (by omega) fun j hj=>?_]at h1
  ·grind
  ·rw[show kF (k+1) (k+1+1) 0=0 by unfold kF;rw[aI (by omega),aI (by omega)],show kF (k+1) (k+1+1) (k+1)=k+1+1 by unfold kF;rw[if_pos rfl]];exact he j hj
theorem Bq(m:Mx)(r:Nat):gA m r (m r)=m:=by
 funext i j
 unfold gA;by_cases h:i=r
 ·rw[if_pos h,h]
 ·rw[aI h]
theorem FR{n k:Nat}{m:Mx}(h:k+1<n):fF n (fun i j=>m (kF 0 (k+1) i) j)= -fF n m:=by
 have z:∀u:Nat->Rat,fF n (gA (gA m 0 u) (k+1) u)=0:=fun u=>mb k n _ h fun j _=>by
  unfold gA;rw[aI (by omega),if_pos rfl,if_pos rfl]
 have cm:∀u v:Nat->Rat,gA (gA m 0 u) (k+1) v=gA (gA m (k+1) v) 0 u:=fun u v=>by
  funext i j;unfold gA
  by_cases h1:i=k+1
  ·rw[if_pos h1,aI (by omega),if_pos h1]
  ·rw[aI h1,aI h1]
 have l1:∀u v x:Nat->Rat,fF n (gA (gA m 0 u) (k+1) fun j=>v j+1*x j)=fF n (gA (gA m 0 u) (k+1) v)+1*fF n (gA (gA m 0 u) (k+1) x):=fun u v x=>ll 1 n (k+1) _ h v x;have l2:∀u v x:Nat->Rat,fF n (gA (gA m 0 fun j=>v j+1*x j) (k+1) u)=fF n (gA (gA m 0 v) (k+1) u)+1*fF n (gA (gA m 0 x) (k+1) u):=fun u v x=>by
  rw[cm,cm,cm];exact ll 1 n 0 _ (by omega) v x
 have h1:=z fun j=>m 0 j+1*m (k+1) j;rw[l1,l2,l2,z,z]at h1;have e1:gA (gA m 0 (m 0)) (k+1) (m (k+1))=m:=by rw[Bq,Bq]
 have e2:gA (gA m 0 (m (k+1))) (k+1) (m 0)=fun i j=>m (kF 0 (k+1) i) j:=by
  funext i j;unfold gA kF
  by_cases h1:i=k+1
  ·rw[if_pos h1,aI (by omega),if_pos h1]
  ·rw[aI h1];by_cases h0:i=0
   ·rw[if_pos h0,if_pos h0]
   ·rw[aI h0,aI h0,aI h1]
 rw[e1,e2]at h1;grind
theorem jN(f:Nat->Rat)(p:Rat)(n:Nat):cQ (fun k=>f k*p) n=cQ f n*p:=by
 rw[bZ,<-eE];exact cA fun k _=>bZ ..
theorem rJ(f g:Nat->Rat):∀(n:Nat),cQ (fun k=>f k-g k) n=cQ f n-cQ g n
 |0=>by show(0:Rat)=0-0;grind
 |n+1=>by rw[cQ,cQ,cQ,rJ f g n];grind
theorem eL{f:Nat->Rat}{i:Nat}:∀{n:Nat},i<n->(∀k,k<n->k≠i->f k=0)->cQ f n=f i
 |0,h,_=>by omega
 |n+1,h,hz=>by
  rw[cQ];rcases aO i n with h1|h1
  ·rw[eL h1 fun k hk hne=>hz k (by omega) hne,hz n (by omega) (by omega),bP]
  ·obtain rfl:i=n:=by omega
   rw[cA (g:=fun _=>0) fun k hk=>hz k (by omega) (by omega),dK,Rat.zero_add]
theorem sq_nonneg(x:Rat):0<=x*x:=by
 rcases Rat.le_total (a:=0) (b:=x)with h|h
 ·exact Rat.mul_nonneg h h
 ·have:=Rat.mul_nonneg (show 0<= -x by grind) (show 0<= -x by grind);grind
end Go.Ex
namespace Go.Ex
open Go Go.Sx Go.Proofs
variable{cs:List Value}{j:Nat}{S:Nat->Prop}{a a1 a2:Option Addr}{q:Rat}
theorem jD.len{w:World}(h:jD w S cs q):cs.length=4:=by obtain⟨_,_,_,_,_,_,_,_,rfl,_⟩:=h;rfl
def Fc(w:World)(S:Nat->Prop)(css:List (List Value))(qs:List Rat):Prop:=css.length=qs.length∧∀(j:Nat) cs q,css[j]? =some cs->qs[j]? =some q->jD w S cs q
section
variable{S S':Nat->Prop}{w w2:World}{cs:List Value}{css:List (List Value)}{q:Rat}{qs:List Rat}
theorem Fc.cB(h:Fc w S css qs)(hk:∀g,S g->w2.heap[g]? =w.heap[g]?):Fc w2 S css qs:=⟨h.1,fun j cs q h1 h2=>(h.2 j cs q h1 h2).cB hk⟩
theorem Fc.cC(h:Fc w S css qs)(hk:∀g,S g->S' g):Fc w S' css qs:=⟨h.1,fun j cs q h1 h2=>(h.2 j cs q h1 h2).cC hk⟩
theorem Fc.yv(h:Fc w S css qs):∀cs∈css,cs.length=4:=fun cs hc=>by
 obtain⟨j,hj⟩:=aT hc;have hl:=(aC.1 hj).1;exact(h.2 j cs _ hj (aA (by rw[<-h.1];exact hl))).len
theorem Fc.one(h:Fc w S css qs):∀u∈css.flatten,u.oneCell'=true:=fun u hu=>by
 obtain⟨cs,hc,hu⟩:=List.mem_flatten.1 hu;obtain⟨j,hj⟩:=aT hc;have hl:=(aC.1 hj).1;obtain⟨_,_,_,_,_,_,_,_,rfl,_⟩:=h.2 j cs _ hj (aA (by rw[<-h.1];exact hl));simp at hu;rcases hu with rfl|rfl|rfl|rfl<;>rfl
theorem Fc.set(h:Fc w S css qs)(hq:jD w S cs q):Fc w S (css.set j cs) (qs.set j q):=by
 refine⟨by simp[h.1],fun i c p h1 h2=>?_⟩;by_cases hij:j=i
 ·subst hij;have hl:=(aC.1 h1).1;rw[aU (by simpa using hl)]at h1;rw[aU (by have:=h.1;simp at hl;omega)]at h2;injection h1 with h1;injection h2 with h2;subst h1 h2;exact hq
 ·rw[aZ hij]at h1 h2;exact h.2 i c p h1 h2
end
def fV(w:World)(C S:Nat->Prop)(v:Value)(qs:List Rat):Prop:=∃css,jH w C 4 v css.flatten qs.length∧Fc w S css qs
section
variable{C C' S S':Nat->Prop}{H:Hp}{nx:Nat}{iv iv':Iv}{B:Nat}{w w' w2:World}{O:Nat->Sx.dS}{v:Value}{qs:List Rat}
theorem fV.cB(h:fV w C S v qs)(hk:∀g,C g∨S g->w2.heap[g]? =w.heap[g]?):fV w2 C S v qs:=by
 obtain⟨css,h1,h2⟩:=h;exact⟨css,h1.cB fun g hg=>hk g (.inl hg),h2.cB fun g hg=>hk g (.inr hg)⟩
theorem fV.cC(h:fV w C S v qs)(hk:∀g,C g->C' g)(hk2:∀g,S g->S' g):fV w C' S' v qs:=by
 obtain⟨css,h1,h2⟩:=h;exact⟨css,h1.cC hk,h2.cC hk2⟩
end
def ga(w:World)(S:Nat->Prop)(v:Value)(n:Nat)(qs:List Rat):Prop:=∃css,w.ownsRow 0 T.Rat 4 v n css.flatten∧css.length=n∧Fc w S css qs
section
variable{S S' C:Nat->Prop}{H:Hp}{nx n:Nat}{iv iv':Iv}{B:Nat}{w w' w2:World}{O:Nat->Sx.dS}{v:Value}{qs:List Rat}
theorem ga.cB(h:ga w S v n qs)(hk:∀g,S g∨v.ownBlock=some g->w2.heap[g]? =w.heap[g]?):ga w2 S v n qs:=by
 obtain⟨css,h1,h2,h3⟩:=h;exact⟨css,ownsRow.cB h1 fun g hg=>hk g (.inr hg),h2,h3.cB fun g hg=>hk g (.inl hg)⟩
theorem ga.cC(h:ga w S v n qs)(hk:∀g,S g->S' g):ga w S' v n qs:=by
 obtain⟨css,h1,h2,h3⟩:=h;exact⟨css,h1,h2,h3.cC hk⟩
theorem ga.len(h:ga w S v n qs):qs.length=n:=by
 obtain⟨css,h1,h2,h3⟩:=h;rw[<-h3.1,h2]
theorem ga.form(h:ga w S v n qs):∃a c,v= .slice a n c∧n<=c:=by
 obtain⟨css,h1,h2,h3⟩:=h;exact j7 h1
theorem ga.le(h:ga w S v n qs):n<=maxLen:=by
 obtain⟨css,h1,h2,h3⟩:=h;rcases h1.2 with⟨_,h0⟩|⟨_,_,_,_,_,_,h1,h2,_⟩
 ·omega
 ·omega
theorem ga.read(h:ga w S v n qs):fV w (fun g=>v.ownBlock=some g) S v qs:=by
 have hl:=h.len;have hn:=h.le;obtain⟨css,h1,h2,h3⟩:=h;refine⟨css,?_,h3⟩;rw[hl];rcases h1.2 with⟨rfl,rfl⟩|⟨g,cap,cur,rfl,hb,hc,hmc,hcap,hsz,htake⟩
 ·refine⟨hn,h1.1,h3.one,none,0,rfl,aE _,fun j u hu=>?_⟩;have:=h1.1;rw[Nat.zero_mul]at this;rw[List.eq_nil_of_length_eq_zero this]at hu
  cases hu
 ·refine⟨hn,h1.1,h3.one,_,cap,rfl,hmc,fun j u hu=>⟨_,rfl,rfl,?_⟩⟩;exact h1.cells (g:=g) rfl j u hu
theorem ga.store{c n1 c1 n2 c2:Nat}{b b2:Bool}(h:ga w S (.slice a n c) n qs)(hj:j<n)(hf:cM w S (.agg #[.bool b,.slice a1 n1 c1,.bool b2,.slice a2 n2 c2]) q)(hoff:∀g,(Value.slice a n c).ownBlock=some g->¬S g)(hS:Old S w):
  ∃g,a=some ⟨g,0,none⟩∧((⟨g,0,none⟩:Addr).add ((j:Int).toNat*4)).spot=none∧((⟨g,0,none⟩:Addr).add ((j:Int).toNat*4)).block=g∧
   (∀k,k<4->(w.cell? (((⟨g,0,none⟩:Addr).add ((j:Int).toNat*4)).add k)).isSome=true∧w.frozen? (((⟨g,0,none⟩:Addr).add ((j:Int).toNat*4)).add k)=false)∧
   ∀w2,w2=setCells w ((⟨g,0,none⟩:Addr).add ((j:Int).toNat*4)) [.bool b,.slice a1 n1 c1,.bool b2,.slice a2 n2 c2]->ga w2 S (.slice a n c) n (qs.set j q)∧w.grownBy w2 (some g)∧w2.heap.size=w.heap.size:=by
 obtain⟨css,h1,h2,h3⟩:=h;obtain⟨g,rfl,hok,hst,hgr,hsz⟩:=nh (nv:=[.bool b,.slice a1 n1 c1,.bool b2,.slice a2 n2 c2]) h1 rfl hj rfl (by decide);have had:(⟨g,0,none⟩:Addr).add ((j:Int).toNat*4)=⟨g,j*4,none⟩:=by rw[aJ,dH,aS]
 refine⟨g,rfl,by rw[had],by rw[had],fun k hk=>by rw[had];exact hok k hk,fun w2 hw2=>?_⟩;rw[had]at hw2;subst hw2;have hset:=j6 (cs:=[.bool b,.slice a1 n1 c1,.bool b2,.slice a2 n2 c2]) h3.yv (show j<css.length by omega);rw[hset]at hst;have hkeep:∀x,S x->(setCells w ⟨g,j*4,none⟩ [.bool b,.slice a1 n1 c1,.bool b2,.slice a2 n2 c2]).heap[x]? =w.heap[x]? :=fun x hx=>
  hgr.block x (hS x hx) fun e=>hoff g rfl (by injection e with e;rw[<-e];exact hx)
 exact⟨⟨_,hst,by simpa using h2,(h3.cB hkeep).set (hf.cB hkeep).zt⟩,hgr,hsz⟩
structure dh(w:World)(S:Nat->Prop)(B:Nat)(iv:Iv)(v:Value)(n:Nat)(qs:List Rat):Prop where
 row:ga w (fun g=>Cv S B iv g∧v.ownBlock≠some g) v n qs
 new:∀g,v.ownBlock=some g->Cv (fun _=>False) B iv g
theorem dh.cB(h:dh w S B iv v n qs)(hk:∀g,Cv S B iv g->w2.heap[g]? =w.heap[g]?):dh w2 S B iv v n qs:=
 ⟨h.row.cB fun g hg=>hk g (hg.elim (fun h=>h.1) fun hg=>(h.new g hg).elim (fun h=>h.elim) .inr),h.new⟩
theorem dh.rel(h:dh w S B iv v n qs)(r:Rel H nx iv B w O w')(hS:∀g,S g->g<B):dh w' S B iv v n qs:=h.cB fun _ hg=>Rel.same r hS hg
theorem dh.bz(h:dh w S B iv v n qs)(r:Rel H nx iv B w O w')(hS:∀g,S g->g<B)(he:Ext w' w2)(hm:∀p,p∈iv->p∈iv'):dh w2 S B iv' v n qs:=
 have h2:=(h.rel r hS).cB fun g hg=>he.block g (Rel.old r hS g hg)
 ⟨h2.row.cC fun _ hg=>⟨hg.1.mono hm,hg.2⟩,fun g hg=>(h2.new g hg).mono hm⟩
theorem dh.cd(h:dh w2 (fun _=>False) w'.heap.size [(w'.heap.size,w2.heap.size)] v n qs)(hB:B<=w'.heap.size)(hm:(w'.heap.size,w2.heap.size)∈iv):dh w2 S B iv v n qs:=by
 have key:∀g {X:Nat->Prop},Cv (fun _=>False) w'.heap.size [(w'.heap.size,w2.heap.size)] g->Cv X B iv g:=fun g X hg=>by
  rcases hg with hg|⟨h1,lo,hi,h2,h3,h4⟩
  ·exact hg.elim
  ·simp at h2;obtain⟨rfl,rfl⟩:=h2;exact .inr ⟨by omega,_,_,hm,h3,h4⟩
 exact⟨h.row.cC fun g hg=>⟨key g hg.1,hg.2⟩,fun g hg=>key g (h.new g hg)⟩
theorem dh.read(h:dh w S B iv v n qs):fV w (Cv S B iv) (Cv S B iv) v qs:=
 h.row.read.cC (fun g hg=>(h.new g hg).elim (fun h=>h.elim) .inr) fun _ hg=>hg.1
end
section
variable{S S':Nat->Prop}{H:Hp}{nx n:Nat}{iv iv':Iv}{B:Nat}{w w' w2:World}{O:Nat->Sx.dS}{v:Value}{qs:List Rat}
theorem dh.store{c n1 c1 n2 c2:Nat}{b b2:Bool}(h:dh w' S B iv (.slice a n c) n qs)(hj:j<n)(hf:cM w' (fun g=>Cv S B iv g∧(Value.slice a n c).ownBlock≠some g) (.agg #[.bool b,.slice a1 n1 c1,.bool b2,.slice a2 n2 c2]) q)
  (r:Rel H nx iv B w O w') (hS:∀g,S g->g<B):
  ∃g,a=some ⟨g,0,none⟩∧((⟨g,0,none⟩:Addr).add ((j:Int).toNat*4)).spot=none∧
   (∀k,k<4->(w'.cell? (((⟨g,0,none⟩:Addr).add ((j:Int).toNat*4)).add k)).isSome=true∧w'.frozen? (((⟨g,0,none⟩:Addr).add ((j:Int).toNat*4)).add k)=false)∧
   (∀id b,cX H id=some b->(O id).nil=false->(O id).g≠((⟨g,0,none⟩:Addr).add ((j:Int).toNat*4)).block)∧Cv (fun _=>False) B iv g∧
   ∀w2,w2=setCells w' ((⟨g,0,none⟩:Addr).add ((j:Int).toNat*4)) [.bool b,.slice a1 n1 c1,.bool b2,.slice a2 n2 c2]->dh w2 S B iv (.slice a n c) n (qs.set j q)∧w'.grownBy w2 (some g)∧w2.heap.size=w'.heap.size:=by
 obtain⟨g,rfl,h1,h2,h3,h4⟩:=h.row.store hj hf (fun g hg hx=>hx.2 hg) (fun x hx=>Rel.old r hS x hx.1);refine⟨g,rfl,h1,h3,fun id b hb hn=>by rw[h2];exact Rel.not r hS (Hy (h.new g rfl)) id b hb hn,h.new g rfl,fun w2 hw2=>?_⟩;obtain⟨k1,k2,k3⟩:=h4 w2 hw2;exact⟨⟨k1,h.new⟩,k2,k3⟩
end
end Go.Ex
namespace Go.Sx
open Go Go.Ex Go.Proofs
variable{cs:List Value}{O:Nat->Sx.dS}
theorem Sub.qh{B:Nat}{l tl:Env}{nx:Nat}{H tH:Hp}{iv:Iv}{w w':World}{id t n c:Nat}{e:TypeId}(r:Rel H nx iv B w O w')(hid:cX H id=some (.arr e cs))(ht:ew l t=some (.o (.s id 0 n c)))
  (hs:uk H tH) (ho:Ba id tH=true) (h1:B7 l tl) (h2:kl nx tl):
  Sub B l nx O w' ⟨(t,.o (.v (.slice (some ⟨(O id).g,0,none⟩) n c)))::tl,tH,nx,((O id).g,(O id).g+1)::iv,w'⟩:=by
 refine⟨O,r.free hid (by simp) (r.fits hid).1 hs ho,fun u v hv=>?_⟩;rw[eJ]at hv;split at hv
 ·rename_i e;subst e;injection hv with hv;subst hv;exact⟨trivial,_,ht,rfl⟩
 ·exact⟨h2.get u v hv,v,h1.get u v hv,rfl⟩
end Go.Sx
namespace Go.Ex
open Go Go.Sx Go.Proofs
end Go.Ex
namespace Go.Ex
open Go Go.Sx Go.Proofs
def dT(w:World)(S:Nat->Prop)(rv:List Value)(K:List (List Rat)):Prop:=rv.length=K.length∧(∀u∈rv,u.oneCell'=true)∧∀(i:Nat) u r,rv[i]? =some u->K[i]? =some r->cD w S u r
section
variable{S S':Nat->Prop}{H:Hp}{nx:Nat}{iv iv':Iv}{B:Nat}{w w' w2:World}{O:Nat->Sx.dS}{rv:List Value}{K:List (List Rat)}
theorem dT.cB(h:dT w S rv K)(hk:∀g,S g->w2.heap[g]? =w.heap[g]?):dT w2 S rv K:=⟨h.1,h.2.1,fun i u x h1 h2=>cD.cB (h.2.2 i u x h1 h2) hk⟩
theorem dT.cC(h:dT w S rv K)(hk:∀g,S g->S' g):dT w S' rv K:=⟨h.1,h.2.1,fun i u x h1 h2=>cD.cC (h.2.2 i u x h1 h2) hk⟩
theorem dT.rel(h:dT w (Cv S B iv) rv K)(r:Rel H nx iv B w O w')(hS:∀g,S g->g<B):dT w' (Cv S B iv) rv K:=h.cB fun _ hg=>Rel.same r hS hg
theorem dT.push{u:Value}{x:List Rat}(h:dT w S rv K)(hu:u.oneCell'=true)(hx:cD w S u x):dT w S (rv++[u]) (K++[x]):=by
 refine⟨by simp[h.1],fun v hv=>?_,fun i v y h1 h2=>?_⟩
 ·rcases bN.1 hv with hv|hv
  ·exact h.2.1 v hv
  ·simp at hv;subst hv;exact hu
 ·rcases aO i rv.length with hi|hi
  ·rw[aK hi]at h1;rw[aK (by rw[<-h.1];exact hi)]at h2;exact h.2.2 i v y h1 h2
  ·have hi0:i=rv.length:=by have:=(aC.1 h1).1;simp at this;omega
   subst hi0;rw[aN (aE _),bI]at h1;rw[h.1,aN (aE _),bI]at h2;simp at h1 h2;subst h1 h2;exact hx
end
end Go.Ex
namespace Go.Ex
theorem GV(s:List (List Rat)×List Nat)(c:Nat):(dV s c).2=s.2∨(dV s c).2=s.2++[c]:=by
 unfold dV;split
 ·dsimp only
  split
  ·exact .inl rfl
  ·exact .inr rfl
 ·exact .inl rfl
theorem gL(M:List (List Rat)):∀c:Nat,(∀p∈((List.range c).foldl dV (M,[])).2,p<c)∧(((List.range c).foldl dV (M,[])).2).Pairwise (· < ·)∧((List.range c).filter fun j=>decide (j∉((List.range c).foldl dV (M,[])).2)).length+((List.range c).foldl dV (M,[])).2.length=c:=by
 intro c
 induction c with
 |zero=>simp
 |succ c ih=>
  rw[bR,List.foldl_append,List.foldl_cons,List.foldl_nil];generalize (List.range c).foldl dV (M,[])=s at*
  obtain⟨h1,h2,h3⟩:=ih;have hc:c∉s.2:=fun h=>by have:=h1 c h;omega
  rcases GV s c with e|e
  ·rw[e];refine⟨fun p hp=>by have:=h1 p hp;omega,h2,?_⟩;rw[List.filter_append,List.length_append];simp only[List.filter_cons,hc,not_false_eq_true,decide_true,if_true,List.filter_nil,List.length_singleton]
   omega
  ·rw[e];refine⟨fun p hp=>?_,?_,?_⟩
   ·rcases bN.1 hp with hp|hp
    ·have:=h1 p hp;omega
    ·simp at hp;omega
   ·rw[List.pairwise_append];exact⟨h2,by simp,fun a ha b hb=>by simp at hb;subst hb;exact h1 a ha⟩
   ·rw[List.filter_append,List.length_append];have:(List.range c).filter (fun j=>decide (j∉s.2++[c]))=(List.range c).filter (fun j=>decide (j∉s.2)):=List.filter_congr fun j hj=>by
     have:=List.mem_range.1 hj;have hne:j≠c:=by omega
     simp[hne]
    have h0:(([c]:List Nat).filter fun j=>decide (j∉s.2++[c])).length=0:=by simp
    rw[this,List.length_append,List.length_singleton,h0];omega
end Go.Ex
namespace Go.Ex
open Go Go.Sx Go.Proofs
variable{cs:List Value}{O:Nat->Sx.dS}
section
variable{S S':Nat->Prop}{H:Hp}{nx:Nat}{iv iv':Iv}{B:Nat}{w w' w2:World}{O:Nat->Sx.dS}{v:Value}{M:List (List (Int×Int))}
end
theorem EI(x y:Rat):x-y+y=x:=by rw[Rat.sub_eq_add_neg,Rat.add_assoc,Rat.neg_add_cancel,bP]
theorem BS(p q:Rat):p-q=0↔p=q:=by
 constructor
 ·intro h;have:=congrArg (· +q) h;simpa [EI,Rat.zero_add]using this
 ·intro h;rw[h,Rat.sub_self]
theorem JI{p q:Rat}:rs (p-q)=0↔p=q:=by rw[Av,BS]
def de(xs ys:List Rat):Nat->Rat
 |0=>0
 |i+1=>de xs ys i+xs.getD i 0*ys.getD i 0
theorem jC{xs ys:List Rat}{h:Nat}(hx:∀q∈xs,rl q+1<=h)(hy:∀q∈ys,rl q+1<=h)(h2:2<=h):∀i:Nat,rl (de xs ys i)<=2*h*i+2
 |0=>by rw[de];exact ai (by decide:rl 0<=2) (by omega)
 |i+1=>by
  have h3:=jC hx hy h2 i;have h4:=ml (de xs ys i) (xs.getD i 0*ys.getD i 0);have h5:=iW (xs.getD i 0) (ys.getD i 0);have h6:=Ee hx h2 i;have h7:=Ee hy h2 i;rw[de,bL];omega
section
variable{S S':Nat->Prop}{H:Hp}{nx:Nat}{iv iv':Iv}{B:Nat}{w w' w2:World}{O:Nat->Sx.dS}{v:Value}{qs:List Rat}
end
section
variable{S S':Nat->Prop}{H:Hp}{nx:Nat}{iv iv':Iv}{B:Nat}{w w' w2:World}{O:Nat->Sx.dS}{v:Value}{M:List (List Rat)}
end
section
variable{S S':Nat->Prop}{H:Hp}{nx:Nat}{iv iv':Iv}{B:Nat}{w w' w2:World}{O:Nat->Sx.dS}{v:List Value}{M:List (List Rat)}
end
theorem lj(w:World)(t e:TypeId)(a:Option Addr)(n c n' c':Nat)(h:PG.underlying t=some (.slice e)):
  (binOp .eql t (.slice a n c) (.slice none n' c')).run PG w= .ok (.bool a.isNone) w:=by
 have:∀d,(Op.equalIn (d+1) t (.slice a n c) (.slice none n' c')).run PG w= .ok a.isNone w:=fun d=>by cases a<;>simp[Op.equalIn,run_underlying h]
 simp only[binOp]
 cases a<;>simp[Op.equal,Op.maxDepth,this 9999]
abbrev K5(gm R:Nat):Value:=.slice (some ⟨gm,0,none⟩) R R
def LC(S:Nat->Prop)(B:Nat)(iv:Iv)(gm R:Nat)(rv:List Value)(g:Nat):Prop:=Cv S B iv g∧¬Mb (K5 gm R) rv g
structure Kg(w:World)(S:Nat->Prop)(B:Nat)(iv:Iv)(gm R n:Nat)(rv:List Value)(M:List (List Rat)):Prop where
 mat:KK w (LC S B iv gm R rv) (K5 gm R) rv n M
 zK:∀g,Mb (K5 gm R) rv g->Cv (fun _=>False) B iv g
 rows:rv.length=R
section
variable{S S':Nat->Prop}{H:Hp}{nx gm R n:Nat}{iv iv':Iv}{B:Nat}{w w' w2:World}{O:Nat->Sx.dS}{rv:List Value}{M:List (List Rat)}
structure aAE(w:World)(S:Nat->Prop)(B:Nat)(iv:Iv)(gm R n:Nat)(rv:List Value)(M:List (List Rat))(i:Nat)(vb:Value):Prop where
 out:w.ownsRow 0 T.row 1 (K5 gm R) R (rv.set i vb)
 was:∃w0,Kg w0 S B iv gm R n rv M∧∀g,Cv S B iv g->g≠gm->w.heap[g]? =w0.heap[g]?
end
section
variable{S:Nat->Prop}{H:Hp}{nx gm R:Nat}{iv iv':Iv}{B:Nat}{w w' w2:World}{O:Nat->Sx.dS}{rv:List Value}{css:List (List Value)}{qs:List Rat}
end
inductive Tp where
 |nil
 |x (i:Nat) (t:Tp)
 |two (i:Nat) (t:Tp) (j:Nat) (u:Tp)
 |qh (id:Nat) (t:Tp)
section
variable{P:Program}{τ:l9}{ops:Array Oper}{B n nx:Nat}{l:Env}{H:Hp}{iv:Iv}{w w':World}{O:Nat->Sx.dS}{a:Act}
end
theorem sO{l tl:Env}{nx t id n:Nat}(hn:(O id).nil=false)(ht:ew l t=some (.o (.w id n)))(h1:B7 l tl)(h2:kl nx tl):∀u v,ew ((t,.o (.v (.slice (some ⟨(O id).g,0,none⟩) n (O id).cap)))::tl) u=some v->v.sc nx∧∃v',ew l u=some v'∧v'.den O=v.den O:=fun u v hv=>by
 rw[eJ]at hv;split at hv
 ·rename_i e;subst e;injection hv with hv;subst hv;exact⟨trivial,_,ht,by simp[SV.den,At.den,hn]⟩
 ·exact⟨h2.get u v hv,v,h1.get u v hv,rfl⟩
theorem I4{H:Hp}{nx:Nat}{iv:Iv}{B:Nat}{w w':World}(r:Rel H nx iv B w O w'){id t m sz:Nat}(h:cX H id=some (.vec t sz cs))(hm:cs.length=m*sz)(hm1:m<=maxLen)(hs:0<sz)(h0:0<m)(h1:∀u∈cs,u.oneCell'=true):
  (O id).nil=false∧B<=(O id).g∧jH w' (fun g=>g=(O id).g) sz (.slice (some ⟨(O id).g,0,none⟩) m (O id).cap) cs m:=by
 rcases r.vec id t sz _ h with⟨hn,rfl⟩|⟨hn,spare,hb,hc,hcap⟩
 ·have:=Nat.mul_pos h0 hs;simp at hm;omega
 ·refine⟨hn,(r.low id _ h hn).1,hm1,hm,h1,some ⟨(O id).g,0,none⟩,(O id).cap,rfl,?_,fun j x hx=>⟨_,rfl,rfl,?_⟩⟩
  ·have h1:(cs++spare).length=cs.length+spare.length:=List.length_append;have h2:m*sz<=(O id).cap*sz:=by omega
   exact Nat.le_of_mul_le_mul_right h2 hs
  ·rw[dH,cell_of hb,aS,aK (aC.1 hx).1];exact hx
end Go.Ex
namespace Go.Ex
section
variable{M:List (List Rat)}{b:List Rat}{n:Nat}
def dP(M:List (List Rat))(b:List Rat):List (List Rat):=M.mapIdx fun i r=>r++[b.getD i 0]
theorem gi(hl:fZ n M):fZ (n+1) (dP M b):=fun r hr=>by
 obtain⟨i,hi⟩:=aT hr;unfold dP at hi;rw[List.getElem?_mapIdx]at hi
 cases hx:M[i]? with
 |none=>rw[hx]at hi;cases hi
 |some x=>
  rw[hx]at hi;injection hi with hi;subst hi;rw[List.length_append,hl x (aD hx)];rfl
theorem eC:(dP M b).length=M.length:=by simp[dP]
end
end Go.Ex
namespace Go.Ex
open Go Go.Sx Go.Proofs
variable{q:Rat}
section
variable{S:Nat->Prop}{H:Hp}{nx:Nat}{iv0:Iv}{B:Nat}{w w' w2:World}{O:Nat->Sx.dS}{v:Value}{xs:List Rat}
end
theorem k7:rs q<0↔q<0:=by rw[rs,Int.sign_neg_iff,<-Int.not_le,Rat.num_nonneg,Rat.not_le]
theorem nB:0<rs q↔0<q:=by
 have h:=k7 (q:= -q);rw[JW]at h;constructor
 ·intro k;have:=h.1 (by omega);grind
 ·intro k;have:=h.2 (by grind);omega
end Go.Ex
namespace Go.Ex
variable{pv:List Nat}{r:List Rat}{j:Nat}
def jM:List Nat->(Nat->Rat)->Rat
 |[],_=>0
 |t::l,g=>g t+jM l g
theorem wk{g h:Nat->Rat}:∀{l:List Nat},(∀t∈l,g t=h t)->jM l g=jM l h
 |[],_=>rfl
 |t::l,e=>by show g t+_=h t+_;rw[e t aH,wk fun s hs=>e s (aB _ hs)]
theorem zW{g:Nat->Rat}:∀{l:List Nat},(∀t∈l,g t=0)->jM l g=0
 |[],_=>rfl
 |t::l,e=>by show g t+_=0;rw[e t aH,zW fun s hs=>e s (aB _ hs),bP]
theorem uG(g:Nat->Rat):∀l k:List Nat,jM (l++k) g=jM l g+jM k g
 |[],k=>(Rat.zero_add _).symm
 |t::l,k=>by show g t+jM (l++k) g=g t+jM l g+jM k g;rw[uG g l k,Rat.add_assoc]
theorem Bo(g:Nat->Rat):∀l:List Nat,jM l (fun t=> -g t)= -jM l g
 |[]=>rfl
 |t::l=>by show -g t+jM l _= -(g t+jM l g);rw[Bo g l,Rat.neg_add]
theorem uH(p:Nat->Bool)(g:Nat->Rat):∀l:List Nat,jM l g=jM (l.filter p) g+jM (l.filter fun t=> !p t) g
 |[]=>(bP 0).symm
 |t::l=>by
  show g t+jM l g=_;rw[uH p g l,List.filter_cons,List.filter_cons]
  cases p t with
  |true=>show _=g t+_+_;rw[Rat.add_assoc];rfl
  |false=>
   show _=jM (l.filter p) g+(g t+_)
   rw[<-Rat.add_assoc,Rat.add_comm (g t),Rat.add_assoc]
theorem wm{g:Nat->Rat}{s:Nat}:∀{l:List Nat},l.Nodup->s∈l->(∀t∈l,t≠s->g t=0)->jM l g=g s
 |[],_,hm,_=>by cases hm
 |t::l,hn,hm,h=>by
  show g t+jM l g=g s;have hn2:=List.nodup_cons.1 hn;rcases List.mem_cons.1 hm with rfl|hm
  ·rw[zW fun u hu=>h u (aB _ hu) fun e=>hn2.1 (e▸hu),bP]
  ·rw[h t aH (fun e=>hn2.1 (e▸hm)),Rat.zero_add,wm hn2.2 hm fun u hu=>h u (aB _ hu)]
theorem wu{l:List Rat}{i t:Nat}{v:Rat}:(l.set i v).getD t 0=if i=t∧i<l.length then v else l.getD t 0:=by
 simp only[List.getD,List.getElem?_set]
 by_cases h:i=t
 ·subst h;by_cases hl:i<l.length
  ·simp[hl]
  ·simp[hl]
 ·simp[h]
theorem wv{F:Nat->List Rat}{pv:List Nat}{f:Nat->Rat}(hF:∀i,F (i+1)=(F i).set (pv.getD i 0) (f i)){t:Nat}(ht:t∉pv):∀i,i<=pv.length->(F i).getD t 0=(F 0).getD t 0
 |0,_=>rfl
 |i+1,h=>by
  rw[hF,wu,aI fun e=>ht (by rw[<-e.1,List.getD,aA (by omega)];exact aX _)];exact wv hF ht i (by omega)
theorem GX(hp:pv.Pairwise (· < ·)){i:Nat}(hij:j<i)(hi:i<pv.length):pv.getD j 0<pv.getD i 0:=by
 rw[List.getD,List.getD,aA hi,aA (by omega)];exact List.pairwise_iff_getElem.1 hp j i _ _ hij
theorem mZ{F:Nat->List Rat}{pv:List Nat}{f:Nat->Rat}{n:Nat}(hF:∀i,F (i+1)=(F i).set (pv.getD i 0) (f i))(hl:∀i,(F i).length=n)(hp:pv.Pairwise (· < ·))(hn:∀p∈pv,p<n){j:Nat}:∀i,i<=pv.length->j<i->(F i).getD (pv.getD j 0) 0=f j
 |0,_,h=>by omega
 |i+1,h,hj=>by
  rw[hF,wu];rcases aO j i with h1|h1
  ·have:=GX hp h1 (by omega);rw[aI (by omega)];exact mZ hF hl hp hn i (by omega) h1
  ·have e:j=i:=by omega
   subst e;have hm:pv.getD j 0<(F j).length:=by rw[hl];exact hn _ (by rw[List.getD,aA (by omega)];exact aX _)
   rw[if_pos ⟨rfl,hm⟩]
abbrev iF(pv:List Nat)(n:Nat):List Nat:=(List.range n).filter fun c=>decide (c∉pv)
section
variable{M:List (List Rat)}{x:List Rat}{n:Nat}
end
structure Diff(A:List (List Rat))(pv:List Nat)(n:Nat)(x:List Rat):Prop where
 up:pv.Pairwise (· < ·)
 lt:∀p∈pv,p<n
 le:pv.length<=A.length
 unit:∀i j,i<pv.length->j<A.length->cY A j (pv.getD i 0)=if j=i then 1 else 0
 sum:∀j,j<A.length->jM (List.range n) (fun t=>cY A j t*x.getD t 0)=cY A j n
section
variable{A:List (List Rat)}{pv:List Nat}{n:Nat}{x:List Rat}
theorem qN{t:Nat}(h:t∈pv):∃j,j<pv.length∧pv.getD j 0=t:=by
 obtain⟨j,hj,rfl⟩:=List.mem_iff_getElem.1 h;exact⟨j,hj,by rw[List.getD,aA hj];rfl⟩
theorem np{c t:Nat}(ht:t∉pv)(hc:c<n):(fN A pv n c pv.length).getD t 0=if t=c then 1 else 0:=by
 rw[wv (F:=fN A pv n c) (fun i=>gE A pv n c i) ht _ (aE _)];show((List.replicate n (0:Rat)).set c 1).getD t 0=_;rw[wu,bE];by_cases h:c=t
 ·rw[if_pos ⟨h,hc⟩,if_pos h.symm]
 ·rw[aI (fun e=>h e.1),aI (fun e=>h e.symm)];simp only[List.getD,List.getElem?_replicate]
  split<;>rfl
theorem Diff.Kx(h:Diff A pv n x){c:Nat}(hj:j<pv.length):(fN A pv n c pv.length).getD (pv.getD j 0) 0= -(cY A j c):=
 mZ (F:=fN A pv n c) (f:=fun i=> -(cY A i c)) (fun i=>gE A pv n c i) (jU A pv n c) h.up h.lt _ (aE _) hj
theorem rI{t:Nat}(ht:t∉pv):(gC A pv n pv.length).getD t 0=0:=by
 rw[wv (F:=gC A pv n) (fun i=>gF A pv n i) ht _ (aE _)];show(List.replicate n (0:Rat)).getD t 0=0;simp only[List.getD,List.getElem?_replicate]
 split<;>rfl
theorem Diff.Kr(h:Diff A pv n x)(hj:j<pv.length):(gC A pv n pv.length).getD (pv.getD j 0) 0=cY A j n:=
 mZ (F:=gC A pv n) (f:=fun i=>cY A i n) (fun i=>gF A pv n i) (jV A pv n) h.up h.lt _ (aE _) hj
theorem qO:(iF pv n).Nodup:=List.Pairwise.filter _ List.nodup_range
theorem kM{c:Nat}:c∈iF pv n↔c<n∧c∉pv:=by
 unfold iF;rw[List.mem_filter,List.mem_range,decide_eq_true_eq]
theorem Diff.rest(h:Diff A pv n x){t:Nat}(ht:t<n):x.getD t 0+(gC A pv n pv.length).getD t 0* -1=jM (iF pv n) fun c=>x.getD c 0*(fN A pv n c pv.length).getD t 0:=by
 by_cases hp:t∈pv
 ·obtain⟨j,hj,rfl⟩:=qN hp;have hs:=h.sum j (Nat.lt_of_lt_of_le hj h.le);rw[uH (fun c=>decide (c∉pv)),wm (s:=pv.getD j 0) (l:=(List.range n).filter fun t=> !decide (t∉pv)) (List.Pairwise.filter _ List.nodup_range) (List.mem_filter.2 ⟨List.mem_range.2 ht,by rw[bF fun e=>e hp];rfl⟩) (fun s hs hne=>?_),h.unit j j hj (Nat.lt_of_lt_of_le hj h.le),if_pos rfl,bj]at hs
  ·rw[h.Kr hj,wk (h:=fun c=> -(cY A j c*x.getD c 0)) fun c hc=>by rw[h.Kx hj,Rat.mul_neg,bZ],Bo,<-hs];generalize x.getD (pv.getD j 0) 0=q;generalize jM _ _=s;rw[Rat.mul_neg,Rat.mul_one,Rat.neg_add,<-Rat.add_assoc,Rat.add_comm q,Rat.add_assoc,Rat.add_neg_cancel,bP]
  ·have hs2:s∈pv:=by simpa using(List.mem_filter.1 hs).2
   obtain⟨i,hi,rfl⟩:=qN hs2;rw[h.unit i j hi (Nat.lt_of_lt_of_le hj h.le),aI (fun e=>hne (by rw[e])),bA]
 ·rw[rI hp,bA,bP,wm (s:=t) qO (kM.2 ⟨ht,hp⟩) fun c hc hne=>by rw[np hp (kM.1 hc).1,aI (Ne.symm hne),aw],np hp ht,if_pos rfl,Rat.mul_one]
theorem ns{k:Nat}(hk:k<(iF pv n).length):(iF pv n).getD k 0∈iF pv n:=by rw[List.getD,aA hk];exact aX hk
theorem ma{k:Nat}(h:(eB A pv n n)[k]? =some r):k<(iF pv n).length∧r=fN A pv n ((iF pv n).getD k 0) pv.length:=by
 unfold eB at h;rw[aM]at h;obtain⟨c,hc,rfl⟩:=Option.map_eq_some_iff.1 h;refine⟨(aC.1 hc).1,?_⟩;rw[List.getD,hc];rfl
theorem GY{i k:Nat}(hi:i<(iF pv n).length)(hk:k<(iF pv n).length)(e:(iF pv n).getD i 0=(iF pv n).getD k 0):i=k:=by
 rw[List.getD,List.getD,aA hi,aA hk]at e;rcases bl i k with h|h|h
 ·exact absurd e (List.pairwise_iff_getElem.1 qO i k hi hk h)
 ·exact h
 ·exact absurd e.symm (List.pairwise_iff_getElem.1 qO k i hk hi h)
theorem wx{k i:Nat}{s:List Rat}(hr:(eB A pv n n)[k]? =some r)(hs:(eB A pv n n)[i]? =some s):s.getD ((iF pv n).getD k 0) 0=if i=k then 1 else 0:=by
 obtain⟨hk,-⟩:=ma hr;obtain⟨hi,rfl⟩:=ma hs;have hm:=kM.1 (ns hk);rw[np hm.2 (kM.1 (ns hi)).1];by_cases h:i=k
 ·rw[h,if_pos rfl,if_pos rfl]
 ·rw[aI (fun e=>h (GY hi hk e.symm)),aI h]
end
end Go.Ex
