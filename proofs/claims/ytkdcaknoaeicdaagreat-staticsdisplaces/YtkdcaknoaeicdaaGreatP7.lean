/- Texts X62 to X78: lemmas, each with its conditions. -/
import Derived.Test.YtkdcaknoaeicdaaGreatP6
namespace Go.Ex
open Go Go.Sx Go.Proofs
variable{x y:Int}{M:List (List Rat)}{css:List (List Value)}{xs ys:List Rat}{cs:List Value}{S:Nat->Prop}{O:Nat->Sx.dg}{a:Option Addr}{b p q:Rat}{u:Value}{w:World}
theorem ix{v:Value}{k l:Nat}(hS:Old S w)(hx:fV w S v k x)(hy:fV w S u l y)(hk:k<=1000000)(hl:l<=1000000)(h0:y≠0):
  eD PG N.nk #[v,u] w (eG w fun v' w2=>∃q r,v'= .tuple #[q,r,.int .i64 0]∧dJ w2 (Nf w w2) q (x / y)∧dJ w2 (Nf w w2) r (x % y)):=
 (I6 hS hx hy hk hl).mono fun _ _ ⟨v2,e1,e2,e3⟩=>⟨v2,e1,e2,e3.elim (fun h=>absurd h.1 h0) fun h=>h.2⟩
theorem NO(x:Nat){y:Nat}(h:y≠0):ln (Nat.gcd x y)<=ln y:=fG (Nat.le_of_dvd (by omega) (Nat.gcd_dvd_right x y))
theorem GZ{a b:Int}(hb:b≠0):a / (b.sign*(Nat.gcd a.natAbs b.natAbs:Nat))=(Rat.divInt a b).num∧b / (b.sign*(Nat.gcd a.natAbs b.natAbs:Nat))=((Rat.divInt a b).den:Int):=by
 obtain⟨h1,h2⟩:=By (a:=a) hb;have d1:((Nat.gcd a.natAbs b.natAbs:Nat):Int) ∣ a:=Int.ofNat_dvd_left.2 (Nat.gcd_dvd_left _ _);have d2:((Nat.gcd a.natAbs b.natAbs:Nat):Int) ∣ b:=Int.ofNat_dvd_left.2 (Nat.gcd_dvd_right _ _);have sg:b.sign=1∨b.sign= -1:=by rcases gB b with h|h|h<;>omega
 have key:∀c:Int,((Nat.gcd a.natAbs b.natAbs:Nat):Int) ∣ c->b.sign*(Nat.gcd a.natAbs b.natAbs:Nat) ∣ c:=fun c hc=>by
  rcases sg with h|h<;>rw[h]
  ·rw[Int.one_mul];exact hc
  ·rw[Int.neg_one_mul];exact Int.neg_dvd.2 hc
 rw[<-h1,<-h2,Int.tdiv_eq_ediv_of_dvd (key a d1),Int.tdiv_eq_ediv_of_dvd (key b d2)];exact⟨rfl,rfl⟩
theorem CB{v:Value}{k l:Nat}(hS:Old S w)(hx:fV w S v k x)(hy:fV w S u l y)(hk:k<=1000000)(hl:l<=1000000):
  eD PG N.tT #[v,u] w (eG w fun v' w2=>dJ w2 (Nf w w2) v' ((Nat.gcd x.natAbs y.natAbs:Nat):Int)):=by
 have hw:=bR w;replace hx:=hx.cJ (S':=Cv S w.heap.size []) fun _ h=>.inl h;replace hy:=hy.cJ (S':=Cv S w.heap.size []) fun _ h=>.inl h;obtain⟨b1,a1,n1,c1,rfl⟩:=hx.shape;obtain⟨b2,a2,n2,c2,rfl⟩:=hy.shape;refine xM (by simp) ?_;have Of:=hx.ln;have QY:=hy.ln;refine cN hτ dm [.x 0,.x 2,.x 1,.x 3,.x 4,.x 5] (by kernel_rfl) (by kernel_rfl) ?_;refine cE hw (fun _ w' v w2=>dJ w2 (Nf w' w2) v ((x.natAbs:Int))) (fun O w' r=>xn (Rel.old r hS) (hx.rel r hS) (by omega)) ?_;rintro O _ _ _ OM r he hw h_ hn;clear hx;replace hy:=hy.cG r hS he (mC h_);have ha:=hn.dE (S:=FF) r.cF (mN h_);clear r;obtain⟨A0,A1,A2,A3,rfl⟩:=ha.shape;refine cE hw (fun _ w' v w2=>dJ w2 (Nf w' w2) v ((y.natAbs:Int))) (fun O w' r=>xn (Rel.old r hS) (hy.rel r hS) (by omega)) ?_;rintro O _ _ _ OK r he hw h_ hn;clear hy;replace ha:=ha.cG r (cC w) he (mC h_);have hc:=hn.dE (S:=FF) r.cF (mN h_);clear r;obtain⟨C0,C1,C2,C3,rfl⟩:=hc.shape
 refine⟨Nat×Nat×(Bool×Option Addr×Nat×Nat)×(Bool×Option Addr×Nat×Nat)×World×Iv,fun z=>⟨[(2,pP 0 0),(3,pP 1 0),(4,pP 2 0)],[(2,.box T.Int [.v (.bool false),.v (.slice none 0 0)]),(1,.box T.Int [.v (.bool z.2.2.2.1.1),.v (.slice z.2.2.2.1.2.1 z.2.2.2.1.2.2.1 z.2.2.2.1.2.2.2)]),(0,.box T.Int [.v (.bool z.2.2.1.1),.v (.slice z.2.2.1.2.1 z.2.2.1.2.2.1 z.2.2.1.2.2.2)])],3,z.2.2.2.2.2,z.2.2.2.2.1⟩,fun z=>z.2.1,
  fun z=>Nat.gcd z.1 z.2.1=Nat.gcd x.natAbs y.natAbs∧ln z.1<=1000000∧ln z.2.1<=1000000∧eB w.heap.size w z.2.2.2.2.1∧dJ z.2.2.2.2.1 (Cf w z.2.2.2.2.2) (.agg #[.bool z.2.2.1.1,.slice z.2.2.1.2.1 z.2.2.1.2.2.1 z.2.2.1.2.2.2]) (z.1:Int)∧dJ z.2.2.2.2.1 (Cf w z.2.2.2.2.2) (.agg #[.bool z.2.2.2.1.1,.slice z.2.2.2.1.2.1 z.2.2.2.1.2.2.1 z.2.2.2.1.2.2.2]) (z.2.1:Int),?_,?_⟩
 ·intro O w' r
  exact⟨(x.natAbs,y.natAbs,(A0,A1,A2,A3),(C0,C1,C2,C3),w',OK),⟨rfl,by dsimp only;omega,by dsimp only;omega,hw.tr r.cQ,ha.rel r (cC w),hc.rel r (cC w)⟩,
   Sub.gn [] r⟩
 clear hw ha hc;rintro⟨a,b,⟨ba,aa,na,ca⟩,⟨bb,ab,nb,cb⟩,w1,iv⟩ ⟨hg,Pj,Oa,hw,ha,hc⟩;dsimp only at hg Pj Oa hw ha hc ⊢;refine cD (cE hw (fun _ w' v w2=>v= .int .i64 (b:Int).sign) (fun O w' r=>gV (Rel.old r (cC w)) (hc.rel r (cC w)).r) ?_);rintro O _ _ _ OS r he hw h_ rfl;replace ha:=ha.cG r (cC w) he (mC h_);replace hc:=hc.cG r (cC w) he (mC h_);clear r;have sb:=gB (b:Int);refine dN.mk ?_ ?_<;>intro h
 ·have h:=aI h;have hb0:0<b:=by omega
  have hm:=bu a hb0;have PM:ln (a % b)<=1000000:=ah (fG (by omega)) Oa;refine cD (cE hw (fun _ w' v w2=>∃q r,v= .tuple #[q,r,.int .i64 0]∧dJ w2 (Nf w' w2) q ((a:Int) / b)∧dJ w2 (Nf w' w2) r ((a:Int) % b)) (fun O w' r=>ix (Rel.old r (cC w)) ((ha.rel r (cC w)).l (k:=1000000) Pj) ((hc.rel r (cC w)).l (k:=1000000) Oa) (by omega) (by omega) (by omega)) ?_);rintro O _ _ _ Oe r he hw h_ ⟨q,rr,rfl,k1,k2⟩;clear ha;replace hc:=hc.cG r (cC w) he (mC h_);have hq:=k1.dE (S:=FF) r.cF (mN h_);have hr:=k2.dE (S:=FF) r.cF (mN h_);clear r;obtain⟨s4_0a,s4_0b,s4_0c,s4_0d,rfl⟩:=hq.shape;obtain⟨s4_1a,s4_1b,s4_1c,s4_1d,rfl⟩:=hr.shape;clear k1 k2 hq;refine iS hτ dm (.two 0 (.two 1 (.one 2 (.one 3 .nil)) 2 (.one 1 (.one 3 .nil))) 1 (.one 0 (.one 2 (.one 3 .nil)))) (by kernel_rfl) ?_;refine⟨?_,?_⟩
  ·conv=>whnf
   refine⟨?_,?_⟩
   ·conv=>whnf
    intro ρ3 w3 r3;exact⟨(b,a % b,(bb,ab,nb,cb),(s4_1a,s4_1b,s4_1c,s4_1d),w3,_),⟨by dsimp only;rw[<-hg,Nat.gcd_comm a b,Nat.gcd_rec b a,Nat.gcd_comm],Oa,PM,hw.tr r3.cQ,hc.rel r3 (cC w),hr.rel r3 (cC w)⟩,Sub.gn [] r3,hm⟩
   ·conv=>whnf
    intro ρ3 w3 r3;exact⟨(b,a % b,(bb,ab,nb,cb),(s4_1a,s4_1b,s4_1c,s4_1d),w3,_),⟨by dsimp only;rw[<-hg,Nat.gcd_comm a b,Nat.gcd_rec b a,Nat.gcd_comm],Oa,PM,hw.tr r3.cQ,hc.rel r3 (cC w),hr.rel r3 (cC w)⟩,Sub.gn [] r3,hm⟩
  ·conv=>whnf
   intro ρ3 w3 r3;exact⟨(b,a % b,(bb,ab,nb,cb),(s4_1a,s4_1b,s4_1c,s4_1d),w3,_),⟨by dsimp only;rw[<-hg,Nat.gcd_comm a b,Nat.gcd_rec b a,Nat.gcd_comm],Oa,PM,hw.tr r3.cQ,hc.rel r3 (cC w),hr.rel r3 (cC w)⟩,Sub.gn [] r3,hm⟩
 have h:=aH h;obtain rfl:b=0:=by omega
 rw[Nat.gcd_zero_right]at hg;subst hg;clear hc;exact rtn hw fun ρe we re=>ha.out re (cC w)
theorem kG{v:Value}{k l:Nat}(hS:Old S w)(hx:fV w S v k x)(hy:fV w S u l y)(hk:k<=1000000)(hl:l<=1000000)(Pe:y≠0):
  eD PG N.rn #[v,u] w (eG w fun v' w2=>cS w2 (Nf w w2) v' (Rat.divInt x y)):=by
 have hw:=bR w;replace hx:=hx.cJ (S':=Cv S w.heap.size []) fun _ h=>.inl h;replace hy:=hy.cJ (S':=Cv S w.heap.size []) fun _ h=>.inl h;obtain⟨b1,a1,n1,c1,rfl⟩:=hx.shape;obtain⟨b2,a2,n2,c2,rfl⟩:=hy.shape;refine rC (by simp) ?_;have Of:=hx.ln;have QY:=hy.ln;have hlg:=NO x.natAbs (y:=y.natAbs) (by omega);obtain⟨hn,hd⟩:=GZ (a:=x) Pe;have sy:=gB y
 refine cD (cE hw (fun _ w' v w2=>∃n p,v= .tuple #[.int .i64 n,.bool p]∧(p=true->n=x∧x.natAbs<1073741824)) (fun O w' r=>(nL (Rel.old r hS) (hx.rel r hS).r).mono fun e w2 ⟨v2,e1,e2,e3⟩=>⟨v2,e1,e2,by
   rw[e3,jg];split
   ·exact⟨_,_,rfl,fun _=>⟨rfl,‹_›⟩⟩
   ·exact⟨_,_,rfl,fun h=>by cases h⟩⟩) ?_)
 rintro O _ _ _ OM r he hw h_ ⟨nx,px,rfl,qx⟩;replace hx:=hx.cG r hS he (mC h_);replace hy:=hy.cG r hS he (mC h_);clear r
 refine cD (cE hw (fun _ w' v w2=>∃n p,v= .tuple #[.int .i64 n,.bool p]∧(p=true->n=y∧y.natAbs<1073741824)) (fun O w' r=>(nL (Rel.old r hS) (hy.rel r hS).r).mono fun e w2 ⟨v2,e1,e2,e3⟩=>⟨v2,e1,e2,by
   rw[e3,jg];split
   ·exact⟨_,_,rfl,fun _=>⟨rfl,‹_›⟩⟩
   ·exact⟨_,_,rfl,fun h=>by cases h⟩⟩) ?_)
 rintro O _ _ _ OK r he hw h_ ⟨ny,py,rfl,qy⟩;replace hx:=hx.cG r hS he (mC h_);replace hy:=hy.cG r hS he (mC h_);clear r;refine dN.mk ?_ ?_<;>intro h1
 ·obtain⟨e1,hxs⟩:=qx h1;replace e1:=e1.symm;subst e1;refine dN.mk ?_ ?_<;>intro h2
  ·obtain⟨e2,hys⟩:=qy h2;replace e2:=e2.symm;subst e2;clear hx hy;refine cD (cE hw (fun _ w' v w2=>cS w2 (Nf w' w2) v (Rat.divInt x y)) (fun O w' r=>q8 x y w' (by omega) (by omega) Pe) ?_);rintro O PQ v3 PN OS r he hw h_ hn;have hR:=hn.dE (S:=FF) r.cF (mN h_);clear r hn;obtain⟨A0,A1,A2,A3,A4,A5,A6,A7,rfl⟩:=hR.shape;exact rtn hw fun ρe we re=>hR.out re (cC w)
  refine cD (cE hw (fun _ w' v w2=>dJ w2 (Nf w' w2) v (((Nat.gcd x.natAbs y.natAbs:Nat):Int))) (fun O w' r=>CB (Rel.old r hS) (hx.rel r hS) (hy.rel r hS) hk hl) ?_);rintro O PQ v3 PN OS r he hw h_ hn;replace hx:=hx.cG r hS he (mC h_);replace hy:=hy.cG r hS he (mC h_);have hg:=hn.dE (S:=FF) r.cF (mN h_);clear r hn;obtain⟨A0,A1,A2,A3,rfl⟩:=hg.shape;refine cD (cE hw (fun _ w' v w2=>v= .int .i64 y.sign) (fun O w' r=>gV (Rel.old r hS) (hy.rel r hS).r) ?_);rintro O RE v4 Qr Oe r he hw h_ rfl;replace hx:=hx.cG r hS he (mC h_);replace hy:=hy.cG r hS he (mC h_);replace hg:=hg.cG r (cC w) he (mC h_);clear r;have hgp:0<Nat.gcd x.natAbs y.natAbs:=bm _ (by omega);generalize Nat.gcd x.natAbs y.natAbs=g at*
  refine dN.mk ?_ ?_<;>intro hs
  ·have hs:=aI hs;rw[show y.sign= -1 by omega,Int.neg_one_mul]at hn hd;refine cD (cE hw (fun _ w' v w2=>dJ w2 (Nf w' w2) v (-(g:Int))) (fun O w' r=>lZ (Rel.old r (cC w)) ((hg.rel r (cC w)).l (k:=1000000) (by rw[Int.natAbs_natCast];omega)) (by omega)) ?_);rintro O Rr v5 Rg Pp r he hw h_ hn;replace hx:=hx.cG r hS he (mC h_);replace hy:=hy.cG r hS he (mC h_);clear hg;have R9:=hn.dE (S:=FF) r.cF (mN h_);clear r hn;obtain⟨C0,C1,C2,C3,rfl⟩:=R9.shape;refine cD (cE hw (fun _ w' v w2=>∃q r,v= .tuple #[q,r,.int .i64 0]∧dJ w2 (Nf w' w2) q (Rat.divInt x y).num∧dJ w2 (Nf w' w2) r (x % (-(g:Int)))) (fun O w' r=>hn▸ix (Rel.old r hS) (hx.rel r hS) ((((R9.rel r (cC w)).l (k:=1000000) (by rw[cB,Int.natAbs_natCast];omega))).cJ fun g hg=>Cv.false hg) hk (by omega) (by omega)) ?_);rintro O SI v6 SO Qy r he hw h_ ⟨q,rr,rfl,k1,k2⟩;clear hx;replace hy:=hy.cG r hS he (mC h_);replace R9:=R9.cG r (cC w) he (mC h_);have hq:=k1.dE (S:=FF) r.cF (mN h_);have hr:=k2.dE (S:=FF) r.cF (mN h_);clear r;obtain⟨s6_0a,s6_0b,s6_0c,s6_0d,rfl⟩:=hq.shape;obtain⟨s6_1a,s6_1b,s6_1c,s6_1d,rfl⟩:=hr.shape;clear k1 k2 hr;refine cD (cE hw (fun _ w' v w2=>∃q r,v= .tuple #[q,r,.int .i64 0]∧dJ w2 (Nf w' w2) q ((Rat.divInt x y).den:Int)∧dJ w2 (Nf w' w2) r (y % (-(g:Int)))) (fun O w' r=>hd▸ix (Rel.old r hS) (hy.rel r hS) ((((R9.rel r (cC w)).l (k:=1000000) (by rw[cB,Int.natAbs_natCast];omega))).cJ fun g hg=>Cv.false hg) hl (by omega) (by omega)) ?_);rintro O Um v7 Un TN r he hw h_ ⟨q,rr,rfl,k1,k2⟩;clear hy;clear R9;replace hq:=hq.cG r (cC w) he (mC h_);have QA:=k1.dE (S:=FF) r.cF (mN h_);have hr:=k2.dE (S:=FF) r.cF (mN h_);clear r;obtain⟨s7_0a,s7_0b,s7_0c,s7_0d,rfl⟩:=QA.shape;obtain⟨s7_1a,s7_1b,s7_1c,s7_1d,rfl⟩:=hr.shape;clear k1 k2 hr;exact rtn hw fun ρe we re=>(cS.of hq QA).out re (cC w)
  have hs:=aH hs;rw[show y.sign=1 by omega,Int.one_mul]at hn hd;refine cD (cE hw (fun _ w' v w2=>∃q r,v= .tuple #[q,r,.int .i64 0]∧dJ w2 (Nf w' w2) q (Rat.divInt x y).num∧dJ w2 (Nf w' w2) r (x % ((g:Int)))) (fun O w' r=>hn▸ix (Rel.old r hS) (hx.rel r hS) ((((hg.rel r (cC w)).l (k:=1000000) (by rw[Int.natAbs_natCast];omega))).cJ fun g hg=>Cv.false hg) hk (by omega) (by omega)) ?_);rintro O Rr v5 Rg Pp r he hw h_ ⟨q,rr,rfl,k1,k2⟩;clear hx;replace hy:=hy.cG r hS he (mC h_);replace hg:=hg.cG r (cC w) he (mC h_);have hq:=k1.dE (S:=FF) r.cF (mN h_);have hr:=k2.dE (S:=FF) r.cF (mN h_);clear r;obtain⟨s5_0a,s5_0b,s5_0c,s5_0d,rfl⟩:=hq.shape;obtain⟨s5_1a,s5_1b,s5_1c,s5_1d,rfl⟩:=hr.shape;clear k1 k2 hr;refine cD (cE hw (fun _ w' v w2=>∃q r,v= .tuple #[q,r,.int .i64 0]∧dJ w2 (Nf w' w2) q ((Rat.divInt x y).den:Int)∧dJ w2 (Nf w' w2) r (y % ((g:Int)))) (fun O w' r=>hd▸ix (Rel.old r hS) (hy.rel r hS) ((((hg.rel r (cC w)).l (k:=1000000) (by rw[Int.natAbs_natCast];omega))).cJ fun g hg=>Cv.false hg) hl (by omega) (by omega)) ?_);rintro O SI v6 SO Qy r he hw h_ ⟨q,rr,rfl,k1,k2⟩;clear hy;clear hg;replace hq:=hq.cG r (cC w) he (mC h_);have QA:=k1.dE (S:=FF) r.cF (mN h_);have hr:=k2.dE (S:=FF) r.cF (mN h_);clear r;obtain⟨s6_0a,s6_0b,s6_0c,s6_0d,rfl⟩:=QA.shape;obtain⟨s6_1a,s6_1b,s6_1c,s6_1d,rfl⟩:=hr.shape;clear k1 k2 hr;exact rtn hw fun ρe we re=>(cS.of hq QA).out re (cC w)
 refine cD (cE hw (fun _ w' v w2=>dJ w2 (Nf w' w2) v (((Nat.gcd x.natAbs y.natAbs:Nat):Int))) (fun O w' r=>CB (Rel.old r hS) (hx.rel r hS) (hy.rel r hS) hk hl) ?_);rintro O _ _ _ OS r he hw h_ hn;replace hx:=hx.cG r hS he (mC h_);replace hy:=hy.cG r hS he (mC h_);have hg:=hn.dE (S:=FF) r.cF (mN h_);clear r hn;obtain⟨A0,A1,A2,A3,rfl⟩:=hg.shape;refine cD (cE hw (fun _ w' v w2=>v= .int .i64 y.sign) (fun O w' r=>gV (Rel.old r hS) (hy.rel r hS).r) ?_);rintro O _ _ _ Oe r he hw h_ rfl;replace hx:=hx.cG r hS he (mC h_);replace hy:=hy.cG r hS he (mC h_);replace hg:=hg.cG r (cC w) he (mC h_);clear r;have hgp:0<Nat.gcd x.natAbs y.natAbs:=bm _ (by omega);generalize Nat.gcd x.natAbs y.natAbs=g at*
 refine dN.mk ?_ ?_<;>intro hs
 ·have hs:=aI hs;rw[show y.sign= -1 by omega,Int.neg_one_mul]at hn hd;refine cD (cE hw (fun _ w' v w2=>dJ w2 (Nf w' w2) v (-(g:Int))) (fun O w' r=>lZ (Rel.old r (cC w)) ((hg.rel r (cC w)).l (k:=1000000) (by rw[Int.natAbs_natCast];omega)) (by omega)) ?_);rintro O Rr v5 Rg Pp r he hw h_ hn;replace hx:=hx.cG r hS he (mC h_);replace hy:=hy.cG r hS he (mC h_);clear hg;have R9:=hn.dE (S:=FF) r.cF (mN h_);clear r hn;obtain⟨C0,C1,C2,C3,rfl⟩:=R9.shape;refine cD (cE hw (fun _ w' v w2=>∃q r,v= .tuple #[q,r,.int .i64 0]∧dJ w2 (Nf w' w2) q (Rat.divInt x y).num∧dJ w2 (Nf w' w2) r (x % (-(g:Int)))) (fun O w' r=>hn▸ix (Rel.old r hS) (hx.rel r hS) ((((R9.rel r (cC w)).l (k:=1000000) (by rw[cB,Int.natAbs_natCast];omega))).cJ fun g hg=>Cv.false hg) hk (by omega) (by omega)) ?_);rintro O SI v6 SO Qy r he hw h_ ⟨q,rr,rfl,k1,k2⟩;clear hx;replace hy:=hy.cG r hS he (mC h_);replace R9:=R9.cG r (cC w) he (mC h_);have hq:=k1.dE (S:=FF) r.cF (mN h_);have hr:=k2.dE (S:=FF) r.cF (mN h_);clear r;obtain⟨s6_0a,s6_0b,s6_0c,s6_0d,rfl⟩:=hq.shape;obtain⟨s6_1a,s6_1b,s6_1c,s6_1d,rfl⟩:=hr.shape;clear k1 k2 hr;refine cD (cE hw (fun _ w' v w2=>∃q r,v= .tuple #[q,r,.int .i64 0]∧dJ w2 (Nf w' w2) q ((Rat.divInt x y).den:Int)∧dJ w2 (Nf w' w2) r (y % (-(g:Int)))) (fun O w' r=>hd▸ix (Rel.old r hS) (hy.rel r hS) ((((R9.rel r (cC w)).l (k:=1000000) (by rw[cB,Int.natAbs_natCast];omega))).cJ fun g hg=>Cv.false hg) hl (by omega) (by omega)) ?_);rintro O _ _ _ TN r he hw h_ ⟨q,rr,rfl,k1,k2⟩;clear hy;clear R9;replace hq:=hq.cG r (cC w) he (mC h_);have QA:=k1.dE (S:=FF) r.cF (mN h_);have hr:=k2.dE (S:=FF) r.cF (mN h_);clear r;obtain⟨s7_0a,s7_0b,s7_0c,s7_0d,rfl⟩:=QA.shape;obtain⟨s7_1a,s7_1b,s7_1c,s7_1d,rfl⟩:=hr.shape;clear k1 k2 hr;exact rtn hw fun ρe we re=>(cS.of hq QA).out re (cC w)
 have hs:=aH hs;rw[show y.sign=1 by omega,Int.one_mul]at hn hd;refine cD (cE hw (fun _ w' v w2=>∃q r,v= .tuple #[q,r,.int .i64 0]∧dJ w2 (Nf w' w2) q (Rat.divInt x y).num∧dJ w2 (Nf w' w2) r (x % ((g:Int)))) (fun O w' r=>hn▸ix (Rel.old r hS) (hx.rel r hS) ((((hg.rel r (cC w)).l (k:=1000000) (by rw[Int.natAbs_natCast];omega))).cJ fun g hg=>Cv.false hg) hk (by omega) (by omega)) ?_);rintro O _ _ _ Pp r he hw h_ ⟨q,rr,rfl,k1,k2⟩;clear hx;replace hy:=hy.cG r hS he (mC h_);replace hg:=hg.cG r (cC w) he (mC h_);have hq:=k1.dE (S:=FF) r.cF (mN h_);have hr:=k2.dE (S:=FF) r.cF (mN h_);clear r;obtain⟨s5_0a,s5_0b,s5_0c,s5_0d,rfl⟩:=hq.shape;obtain⟨s5_1a,s5_1b,s5_1c,s5_1d,rfl⟩:=hr.shape;clear k1 k2 hr;refine cD (cE hw (fun _ w' v w2=>∃q r,v= .tuple #[q,r,.int .i64 0]∧dJ w2 (Nf w' w2) q ((Rat.divInt x y).den:Int)∧dJ w2 (Nf w' w2) r (y % ((g:Int)))) (fun O w' r=>hd▸ix (Rel.old r hS) (hy.rel r hS) ((((hg.rel r (cC w)).l (k:=1000000) (by rw[Int.natAbs_natCast];omega))).cJ fun g hg=>Cv.false hg) hl (by omega) (by omega)) ?_);rintro O _ _ _ Qy r he hw h_ ⟨q,rr,rfl,k1,k2⟩;clear hy;clear hg;replace hq:=hq.cG r (cC w) he (mC h_);have QA:=k1.dE (S:=FF) r.cF (mN h_);have hr:=k2.dE (S:=FF) r.cF (mN h_);clear r;obtain⟨s6_0a,s6_0b,s6_0c,s6_0d,rfl⟩:=QA.shape;obtain⟨s6_1a,s6_1b,s6_1c,s6_1d,rfl⟩:=hr.shape;clear k1 k2 hr;exact rtn hw fun ρe we re=>(cS.of hq QA).out re (cC w)
def eR(w:World)(S:Nat->Prop)(v:Value)(q:Rat):Prop:=∃b1 l1 b2 l2 a b,v= .agg #[.bool b1,l1,.bool b2,l2]∧fV w S (.agg #[.bool b1,l1]) 100000 a∧fV w S (.agg #[.bool b2,l2]) 100000 b∧ratio a b=q
theorem eR.cI{w2:World}{v:Value}(h:eR w S v q)(hk:∀g,S g->w2.heap[g]? =w.heap[g]?):eR w2 S v q:=by
 obtain⟨b1,l1,b2,l2,a,b,h1,h2,h3,h4⟩:=h;exact⟨b1,l1,b2,l2,a,b,h1,h2.cI hk,h3.cI hk,h4⟩
theorem eR.cJ{S':Nat->Prop}{v:Value}(h:eR w S v q)(hk:∀g,S g->S' g):eR w S' v q:=by
 obtain⟨b1,l1,b2,l2,a,b,h1,h2,h3,h4⟩:=h;exact⟨b1,l1,b2,l2,a,b,h1,h2.cJ hk,h3.cJ hk,h4⟩
theorem eR.r{v:Value}(h:eR w S v q):∃a b,iG w S v a b∧ratio a b=q:=by
 obtain⟨b1,l1,b2,l2,a,b,rfl,h2,h3,h4⟩:=h;exact⟨a,b,⟨b1,l1,b2,l2,rfl,h2.r,h3.r⟩,h4⟩
theorem eR.v{v:Value}(h:eR w S v q):qF w S v q:=by
 obtain⟨b1,l1,b2,l2,a,b,rfl,h2,h3,h4⟩:=h;exact⟨a,b,⟨b1,l1,b2,l2,rfl,h2.r,h3.r⟩,h4,h2.ln,h3.ln⟩
theorem eR.shape{v:Value}(h:eR w S v q):∃b a n c b2 a2 n2 c2,v= .agg #[.bool b,.slice a n c,.bool b2,.slice a2 n2 c2]:=h.v.shape
theorem eR.rl{v:Value}(h:eR w S v q):rl q<=100000:=by
 obtain⟨b1,l1,b2,l2,a,b,rfl,h2,h3,rfl⟩:=h;have:=iE a b;have:=h2.ln;have:=h3.ln;omega
theorem cS.l{v:Value}(h:cS w S v q)(hl:rl q<=100000):eR w S v q:=by
 obtain⟨b1,l1,b2,l2,h1,h2,h3⟩:=h;exact⟨b1,l1,b2,l2,_,_,h1,h2.l (ah (ff q) hl),h3.l (ah (eo q) hl),oO q⟩
theorem LB(a b:Int):rs (ratio a b)=if b.sign<0 then -a.sign else a.sign:=by
 have sb:=gB b;rw[ratio];split
 ·rw[aK (by omega),rs,tG (by decide)]
 ·split
  ·rw[show Rat.divInt a b=Rat.divInt (-a) (-b)from(Rat.neg_divInt_neg a b).symm,rs,tG (by omega),Int.sign_neg]
  ·rw[rs,tG (by omega)]
theorem j4{a c:Int}:(a.natAbs<1073741824)->(c.natAbs<1073741824)->(a*c).natAbs<=1152921502459363329:=fun h1 h2=>by
 rw[Int.natAbs_mul];exact Nat.mul_le_mul (show a.natAbs<=1073741823 by omega) (show c.natAbs<=1073741823 by omega)
section
variable{S S':Nat->Prop}{H:Hp}{nx:Nat}{iv iv':Iv}{B:Nat}{w w' w2:World}{O:Nat->Sx.dg}{v:Value}{q:Rat}
theorem eR.rel(h:eR w (Cv S B iv) v q)(r:Rel H nx iv B w O w')(hS:∀g,S g->g<B):eR w' (Cv S B iv) v q:=h.cI fun _ hg=>Rel.same r hS hg
theorem eR.cG(h:eR w (Cv S B iv) v q)(r:Rel H nx iv B w O w')(hS:∀g,S g->g<B)(he:Ext w' w2)(hm:∀p,p∈iv->p∈iv'):eR w2 (Cv S B iv') v q:=
 ((h.rel r hS).cI fun g hg=>he.block g (Rel.old r hS g hg)).cJ fun _ hg=>hg.mono hm
theorem eR.arg(h:eR w S v q)(iv:Iv):eR w (Cv S w.heap.size iv) v q:=h.cJ fun _ h=>.inl h
end
theorem sP{v:Value}{a b:Int}(hS:Old S w)(hp:iG w S v a b):
  eD PG N.jb #[v] w (eG w fun v' _=>v'= .int .i64 (rs (ratio a b))):=by
 have hw:=bR w;obtain⟨b1,l1,b2,l2,rfl,ha,QJ⟩:=hp;obtain⟨_,a1,n1,c1,e1⟩:=ha.shape;obtain⟨_,a2,n2,c2,e2⟩:=QJ.shape;simp only[Value.agg.injEq,Array.mk.injEq,List.cons.injEq,and_true]at e1 e2;obtain⟨_,rfl⟩:=e1;obtain⟨_,rfl⟩:=e2;replace ha:=ha.cJ (S':=Cv S w.heap.size []) fun _ h=>.inl h;replace QJ:=QJ.cJ (S':=Cv S w.heap.size []) fun _ h=>.inl h;have hr:=LB a b;have sa:=gB a;refine xB (by simp) ?_;refine cD (cE hw (fun _ w' v w2=>v= .int .i64 b.sign) (fun O w' r=>gV (Rel.old r hS) (QJ.rel r hS)) ?_);rintro O _ _ _ OM r he hw h_ rfl;replace ha:=ha.cG r hS he (mC h_);refine dN.mk ?_ ?_<;>intro h
 ·have h:=aI h;rw[if_pos h]at hr;refine cD (cE hw (fun _ w' v w2=>v= .int .i64 a.sign) (fun O w' r=>gV (Rel.old r hS) (ha.rel r hS)) ?_);rintro O Ph v2 PD OK r he hw h_ rfl;refine⟨-a.sign,wo,?_⟩;exact rtn hw fun ρe we re=>by rw[hr];rfl
 have h:=aH h;rw[aK h]at hr;refine cD (cE hw (fun _ w' v w2=>v= .int .i64 a.sign) (fun O w' r=>gV (Rel.old r hS) (ha.rel r hS)) ?_);rintro O _ _ _ OK r he hw h_ rfl;exact rtn hw fun ρe we re=>by rw[hr];rfl
theorem I7{v:Value}(hS:Old S w)(hp:cS w S v p):eD PG N.jb #[v] w (eG w fun v' _=>v'= .int .i64 (rs p)):=by
 have:=sP hS hp.r;rw[oO]at this;exact this
theorem oK{v:Value}(hS:Old S w)(hp:eR w S v p):eD PG N.jb #[v] w (eG w fun v' _=>v'= .int .i64 (rs p)):=by
 obtain⟨a,b,h1,rfl⟩:=hp.r;exact sP hS h1
theorem fz{v:Value}(hS:Old S w)(hp:eR w S v p):
  eD PG N.tP #[v] w (eG w fun v' w2=>cS w2 (Nf w w2) v' p):=by
 have hw:=bR w;obtain⟨b1,l1,b2,l2,a,b,rfl,ha,QJ,rfl⟩:=hp;obtain⟨_,a1,n1,c1,e1⟩:=ha.shape;obtain⟨_,a2,n2,c2,e2⟩:=QJ.shape;simp only[Value.agg.injEq,Array.mk.injEq,List.cons.injEq,and_true]at e1 e2;obtain⟨_,rfl⟩:=e1;obtain⟨_,rfl⟩:=e2;replace ha:=ha.cJ (S':=Cv S w.heap.size []) fun _ h=>.inl h;replace QJ:=QJ.cJ (S':=Cv S w.heap.size []) fun _ h=>.inl h;have sb:=gB b;refine xI (by simp) ?_;refine cD (cO (Φ:=fun _ w' v w2=>v= .int .i64 b.sign) (fun O w' r=>gV (Rel.old r hS) (QJ.rel r hS).r) ?_);rintro O Pq v1 Pa r he hb rfl;replace hw:=hw.tr hb;replace ha:=ha.cG (iv':=(Pq.heap.size,Pa.heap.size)::[]) r hS he fun x hx=>List.mem_cons_of_mem _ hx;replace QJ:=QJ.cG (iv':=(Pq.heap.size,Pa.heap.size)::[]) r hS he fun x hx=>List.mem_cons_of_mem _ hx;generalize (Pq.heap.size,Pa.heap.size)::[]=OM at*
 refine dN.mk ?_ ?_<;>intro h
 ·have h:b.sign=0:=by simpa using h
  obtain rfl:b=0:=by omega
  rw[show ratio a 0=Rat.divInt a 1 from if_pos rfl];refine cN hτ dm [.x 0,.x 1,.x 2,.x 3,.x 4] (by kernel_rfl) (by kernel_rfl) ?_;refine cO (Φ:=fun _ w' v w2=>dJ w2 (Nf w' w2) v (1)) (fun O w' r=>kZ _ w' (by decide) (by decide)) ?_;rintro O Ph v2 PD r he hb hn;replace hw:=hw.tr hb;replace ha:=ha.cG (iv':=(Ph.heap.size,PD.heap.size)::OM) r hS he fun x hx=>List.mem_cons_of_mem _ hx;replace QJ:=QJ.cG (iv':=(Ph.heap.size,PD.heap.size)::OM) r hS he fun x hx=>List.mem_cons_of_mem _ hx;have h1:=hn.dE (S:=FF) r.cF (iv:=(Ph.heap.size,PD.heap.size)::OM) aG;generalize (Ph.heap.size,PD.heap.size)::OM=OK at*
  obtain⟨A0,A1,A2,A3,rfl⟩:=h1.shape;refine cO (Φ:=fun _ w' v w2=>cS w2 (Nf w' w2) v (Rat.divInt a 1)) (fun O w' r=>kG (Rel.old r hS) (ha.rel r hS) (((h1.rel r (cC w)).l (k:=1) (by decide)).cJ fun g hg=>Cv.false hg) (by omega) (by omega) (by decide)) ?_;rintro O PQ v3 PN r he hb hn;replace hw:=hw.tr hb;replace ha:=ha.cG (iv':=(PQ.heap.size,PN.heap.size)::OK) r hS he fun x hx=>List.mem_cons_of_mem _ hx;replace QJ:=QJ.cG (iv':=(PQ.heap.size,PN.heap.size)::OK) r hS he fun x hx=>List.mem_cons_of_mem _ hx;replace h1:=h1.cG (iv':=(PQ.heap.size,PN.heap.size)::OK) r (cC w) he fun x hx=>List.mem_cons_of_mem _ hx;have hR:=hn.dE (S:=FF) r.cF (iv:=(PQ.heap.size,PN.heap.size)::OK) aG;generalize (PQ.heap.size,PN.heap.size)::OK=OS at*
  obtain⟨C0,C1,C2,C3,C4,C5,C6,C7,rfl⟩:=hR.shape;exact rtn hw fun ρe we re=>hR.out re (cC w)
 have h:b.sign≠0:=by simpa using h
 have hb0:b≠0:=by omega
 rw[show ratio a b=Rat.divInt a b from aK hb0];refine cD (cO (Φ:=fun _ w' v w2=>cS w2 (Nf w' w2) v (Rat.divInt a b)) (fun O w' r=>kG (Rel.old r hS) (ha.rel r hS) (QJ.rel r hS) (by omega) (by omega) hb0) ?_);rintro O Ph v2 PD r he hb hn;replace hw:=hw.tr hb;replace ha:=ha.cG (iv':=(Ph.heap.size,PD.heap.size)::OM) r hS he fun x hx=>List.mem_cons_of_mem _ hx;replace QJ:=QJ.cG (iv':=(Ph.heap.size,PD.heap.size)::OM) r hS he fun x hx=>List.mem_cons_of_mem _ hx;have hR:=hn.dE (S:=FF) r.cF (iv:=(Ph.heap.size,PD.heap.size)::OM) aG;generalize (Ph.heap.size,PD.heap.size)::OM=OK at*
 obtain⟨A0,A1,A2,A3,A4,A5,A6,A7,rfl⟩:=hR.shape;exact rtn hw fun ρe we re=>hR.out re (cC w)
theorem xo{v:Value}(hS:Old S w)(hp:eR w S v p):
  eD PG N.wL #[v] w (eG w fun v' _=>∃n d ok,v'= .tuple #[.int .i64 n,.int .i64 d,.bool ok]∧(ok=true->d≠0∧n.natAbs<1073741824∧d.natAbs<1073741824∧Rat.divInt n d=p)):=by
 have hw:=bR w;obtain⟨b1,l1,b2,l2,a,b,rfl,ha,QJ,rfl⟩:=hp;obtain⟨_,a1,n1,c1,e1⟩:=ha.shape;obtain⟨_,a2,n2,c2,e2⟩:=QJ.shape;simp only[Value.agg.injEq,Array.mk.injEq,List.cons.injEq,and_true]at e1 e2;obtain⟨_,rfl⟩:=e1;obtain⟨_,rfl⟩:=e2;replace ha:=ha.cJ (S':=Cv S w.heap.size []) fun _ h=>.inl h;replace QJ:=QJ.cJ (S':=Cv S w.heap.size []) fun _ h=>.inl h;refine z6 (by simp) ?_
 refine cD (cO (Φ:=fun _ w' v w2=>∃n p,v= .tuple #[.int .i64 n,.bool p]∧(p=true->n=a∧a.natAbs<1073741824)) (fun O w' r=>(nL (Rel.old r hS) (ha.rel r hS).r).mono fun e w2 ⟨v2,e1,e2,e3⟩=>⟨v2,e1,e2,by
   rw[e3,jg];split
   ·exact⟨_,_,rfl,fun _=>⟨rfl,‹_›⟩⟩
   ·exact⟨_,_,rfl,fun h=>by cases h⟩⟩) ?_)
 rintro O Pq v1 Pa r he hb ⟨na,pa,rfl,qa⟩;replace hw:=hw.tr hb;replace ha:=ha.cG (iv':=(Pq.heap.size,Pa.heap.size)::[]) r hS he fun x hx=>List.mem_cons_of_mem _ hx;replace QJ:=QJ.cG (iv':=(Pq.heap.size,Pa.heap.size)::[]) r hS he fun x hx=>List.mem_cons_of_mem _ hx;generalize (Pq.heap.size,Pa.heap.size)::[]=OM at*
 refine cD (cO (Φ:=fun _ w' v w2=>∃n p,v= .tuple #[.int .i64 n,.bool p]∧(p=true->n=b∧b.natAbs<1073741824)) (fun O w' r=>(nL (Rel.old r hS) (QJ.rel r hS).r).mono fun e w2 ⟨v2,e1,e2,e3⟩=>⟨v2,e1,e2,by
   rw[e3,jg];split
   ·exact⟨_,_,rfl,fun _=>⟨rfl,‹_›⟩⟩
   ·exact⟨_,_,rfl,fun h=>by cases h⟩⟩) ?_)
 rintro O Ph v2 PD r he hb ⟨nb,pb,rfl,qb⟩;replace hw:=hw.tr hb;replace ha:=ha.cG (iv':=(Ph.heap.size,PD.heap.size)::OM) r hS he fun x hx=>List.mem_cons_of_mem _ hx;replace QJ:=QJ.cG (iv':=(Ph.heap.size,PD.heap.size)::OM) r hS he fun x hx=>List.mem_cons_of_mem _ hx;generalize (Ph.heap.size,PD.heap.size)::OM=OK at*
 refine dN.mk ?_ ?_<;>intro h
 ·have h:nb=0:=by simpa using h
  refine dN.mk ?_ ?_<;>intro h1
  ·intro ρe we re
   exact⟨_,rfl,hw.tr re.cQ,⟨na,1,pb,rfl,fun h2=>by
     obtain⟨rfl,hx⟩:=qa h1;obtain⟨rfl,hy⟩:=qb h2;rw[h]
     exact⟨by decide,hx,by decide,(if_pos rfl).symm⟩⟩⟩
  exact rtn hw fun ρe we re=>⟨na,1,false,rfl,fun h2=>by cases h2⟩
 have h:nb≠0:=by simpa using h
 refine dN.mk ?_ ?_<;>intro h1
 ·intro ρe we re
  exact⟨_,rfl,hw.tr re.cQ,⟨na,nb,pb,rfl,fun h2=>by
    obtain⟨rfl,hx⟩:=qa h1;obtain⟨rfl,hy⟩:=qb h2
    exact⟨h,hx,hy,(aK h).symm⟩⟩⟩
 exact rtn hw fun ρe we re=>⟨na,nb,false,rfl,fun h2=>by cases h2⟩
theorem NP{v:Value}(hS:Old S w)(hp:eR w S v p)(hq:eR w S u q):
  eD PG N.B2 #[v,u] w (eG w fun v' w2=>cS w2 (Nf w w2) v' (p+q)):=by
 have hw:=bR w;replace hp:=hp.cJ (S':=Cv S w.heap.size []) fun _ h=>.inl h;replace hq:=hq.cJ (S':=Cv S w.heap.size []) fun _ h=>.inl h;obtain⟨b1,a1,n1,c1,b2,a2,n2,c2,rfl⟩:=hp.shape;obtain⟨b3,a3,n3,c3,b4,a4,n4,c4,rfl⟩:=hq.shape;refine Ca (by simp) ?_;have r1:=hp.rl;have r2:=hq.rl;have u1:=ff p;have u2:=eo p;have u3:=ff q;have u4:=eo q;refine cD (cE hw (fun _ w' v w2=>∃n d ok,v= .tuple #[.int .i64 n,.int .i64 d,.bool ok]∧(ok=true->d≠0∧n.natAbs<1073741824∧d.natAbs<1073741824∧Rat.divInt n d=p)) (fun O w' r=>xo (Rel.old r hS) (hp.rel r hS)) ?_);rintro O _ _ _ OM r he hw h_ ⟨a,b,k1,rfl,g1⟩;replace hp:=hp.cG r hS he (mC h_);replace hq:=hq.cG r hS he (mC h_);refine cD (cE hw (fun _ w' v w2=>∃n d ok,v= .tuple #[.int .i64 n,.int .i64 d,.bool ok]∧(ok=true->d≠0∧n.natAbs<1073741824∧d.natAbs<1073741824∧Rat.divInt n d=q)) (fun O w' r=>xo (Rel.old r hS) (hq.rel r hS)) ?_);rintro O _ _ _ OK r he hw h_ ⟨c,d,k2,rfl,g2⟩;replace hp:=hp.cG r hS he (mC h_);replace hq:=hq.cG r hS he (mC h_);refine dN.mk ?_ ?_<;>intro h1
 ·refine dN.mk ?_ ?_<;>intro h2
  ·obtain⟨g3,g4,g5,g6⟩:=g1 h1;obtain⟨g7,g8,g9,g10⟩:=g2 h2;have i1:=j4 g4 g9;have i2:=j4 g8 g5;have i3:=j4 g5 g9;have i4:=j4 g4 g8;refine⟨a*d,wo,c*b,wo,a*d+c*b,wo,b*d,wo,?_⟩;have e:=Rat.divInt_add_divInt a c g3 g7;rw[g6,g10]at e;refine cD (cE hw (fun _ w' v w2=>cS w2 (Nf w' w2) v (p+q)) (fun O w' r=>e▸q8 (a*d+c*b) (b*d) w' (by omega) (by omega) (jv g3 g7)) ?_);rintro O PQ v3 PN OS r he hw h_ hn;have hR:=hn.dE (S:=FF) r.cF (mN h_);obtain⟨A0,A1,A2,A3,A4,A5,A6,A7,rfl⟩:=hR.shape;exact rtn hw fun ρe we re=>hR.out re (cC w)
  refine cN hτ dm [.x 0,.x 2,.x 1,.x 3,.x 4,.x 5] (by kernel_rfl) (by kernel_rfl) ?_;refine cE hw (fun _ w' v w2=>cS w2 (Nf w' w2) v (p)) (fun O w' r=>fz (Rel.old r hS) (hp.rel r hS)) ?_;rintro O PQ v3 PN OS r he hw h_ hn;replace hq:=hq.cG r hS he (mC h_);have hX:=hn.dE (S:=FF) r.cF (mN h_);obtain⟨A0,A1,A2,A3,A4,A5,A6,A7,rfl⟩:=hX.shape;refine cE hw (fun _ w' v w2=>cS w2 (Nf w' w2) v (q)) (fun O w' r=>fz (Rel.old r hS) (hq.rel r hS)) ?_;rintro O RE v4 Qr Oe r he hw h_ hn;replace hX:=hX.cG r (cC w) he (mC h_);have hY:=hn.dE (S:=FF) r.cF (mN h_);obtain⟨C0,C1,C2,C3,C4,C5,C6,C7,rfl⟩:=hY.shape;have QP:=hX.num;have Pt:=hX.den;have QQ:=hY.num;have QR:=hY.den;have m0:=cw p.num q.den;have m1:=cw q.num p.den;have m2:=cw (p.den:Int) q.den;have m3:=iY (p.num*q.den) (q.num*p.den);have m4:=cw p.num q.num;refine cN hτ dm [.x 0,.x 1,.x 2,.x 3,.x 5,.x 6,.x 7,.x 8,.x 11,.x 12,.x 13,.x 14,.x 4,.x 9,.x 10,.x 15,.x 16,.x 17] (by kernel_rfl) (by kernel_rfl) ?_;refine cE hw (fun _ w' v w2=>dJ w2 (Nf w' w2) v (p.num*(q.den:Int))) (fun O w' r=>iD (Rel.old r (cC w)) ((QP.rel r (cC w)).l (k:=100000) (by omega)) ((QR.rel r (cC w)).l (k:=100000) (by omega)) (by omega) (by omega)) ?_;rintro O Rr v5 Rg Pp r he hw h_ hn;replace QP:=QP.cG r (cC w) he (mC h_);replace Pt:=Pt.cG r (cC w) he (mC h_);replace QQ:=QQ.cG r (cC w) he (mC h_);replace QR:=QR.cG r (cC w) he (mC h_);have hA:=hn.dE (S:=FF) r.cF (mN h_);obtain⟨E0,E1,E2,E3,rfl⟩:=hA.shape;refine cE hw (fun _ w' v w2=>dJ w2 (Nf w' w2) v (q.num*(p.den:Int))) (fun O w' r=>iD (Rel.old r (cC w)) ((QQ.rel r (cC w)).l (k:=100000) (by omega)) ((Pt.rel r (cC w)).l (k:=100000) (by omega)) (by omega) (by omega)) ?_;rintro O SI v6 SO Qy r he hw h_ hn;replace QP:=QP.cG r (cC w) he (mC h_);replace Pt:=Pt.cG r (cC w) he (mC h_);replace QQ:=QQ.cG r (cC w) he (mC h_);replace QR:=QR.cG r (cC w) he (mC h_);replace hA:=hA.cG r (cC w) he (mC h_);have hB:=hn.dE (S:=FF) r.cF (mN h_);obtain⟨F0,F1,F2,F3,rfl⟩:=hB.shape;refine cE hw (fun _ w' v w2=>dJ w2 (Nf w' w2) v (p.num*(q.den:Int)+q.num*(p.den:Int))) (fun O w' r=>AG (Rel.old r (cC w)) ((hA.rel r (cC w)).l (k:=200000) (by omega)) ((hB.rel r (cC w)).l (k:=200000) (by omega)) (by omega) (by omega)) ?_;rintro O Um v7 Un TN r he hw h_ hn;replace QP:=QP.cG r (cC w) he (mC h_);replace Pt:=Pt.cG r (cC w) he (mC h_);replace QQ:=QQ.cG r (cC w) he (mC h_);replace QR:=QR.cG r (cC w) he (mC h_);have hN:=hn.dE (S:=FF) r.cF (mN h_);obtain⟨G0,G1,G2,G3,rfl⟩:=hN.shape;refine cE hw (fun _ w' v w2=>dJ w2 (Nf w' w2) v ((p.den:Int)*(q.den:Int))) (fun O w' r=>iD (Rel.old r (cC w)) ((Pt.rel r (cC w)).l (k:=100000) (by omega)) ((QR.rel r (cC w)).l (k:=100000) (by omega)) (by omega) (by omega)) ?_;rintro O RT v8 Qm Q2 r he hw h_ hn;replace QP:=QP.cG r (cC w) he (mC h_);replace Pt:=Pt.cG r (cC w) he (mC h_);replace QQ:=QQ.cG r (cC w) he (mC h_);replace QR:=QR.cG r (cC w) he (mC h_);replace hN:=hN.cG r (cC w) he (mC h_);have hD:=hn.dE (S:=FF) r.cF (mN h_);obtain⟨J0,J1,J2,J3,rfl⟩:=hD.shape;refine cE hw (fun _ w' v w2=>cS w2 (Nf w' w2) v (p+q)) (fun O w' r=>(tF p q)▸kG (Rel.old r (cC w)) ((hN.rel r (cC w)).l (k:=200001) (by omega)) ((hD.rel r (cC w)).l (k:=200001) (by omega)) (by omega) (by omega) (jv (gE p) (gE q))) ?_;rintro O Qf v9 Q3 R5 r he hw h_ hn;have hR:=hn.dE (S:=FF) r.cF (mN h_);obtain⟨K0,K1,K2,K3,K4,K5,K6,K7,rfl⟩:=hR.shape;exact rtn hw fun ρe we re=>hR.out re (cC w)
 refine cN hτ dm [.x 0,.x 2,.x 1,.x 3,.x 4,.x 5] (by kernel_rfl) (by kernel_rfl) ?_;refine cE hw (fun _ w' v w2=>cS w2 (Nf w' w2) v (p)) (fun O w' r=>fz (Rel.old r hS) (hp.rel r hS)) ?_;rintro O _ _ _ OS r he hw h_ hn;replace hq:=hq.cG r hS he (mC h_);have hX:=hn.dE (S:=FF) r.cF (mN h_);obtain⟨A0,A1,A2,A3,A4,A5,A6,A7,rfl⟩:=hX.shape;refine cE hw (fun _ w' v w2=>cS w2 (Nf w' w2) v (q)) (fun O w' r=>fz (Rel.old r hS) (hq.rel r hS)) ?_;rintro O _ _ _ Oe r he hw h_ hn;replace hX:=hX.cG r (cC w) he (mC h_);have hY:=hn.dE (S:=FF) r.cF (mN h_);obtain⟨C0,C1,C2,C3,C4,C5,C6,C7,rfl⟩:=hY.shape;have QP:=hX.num;have Pt:=hX.den;have QQ:=hY.num;have QR:=hY.den;have m0:=cw p.num q.den;have m1:=cw q.num p.den;have m2:=cw (p.den:Int) q.den;have m3:=iY (p.num*q.den) (q.num*p.den);have m4:=cw p.num q.num;refine cN hτ dm [.x 0,.x 1,.x 2,.x 3,.x 5,.x 6,.x 7,.x 8,.x 11,.x 12,.x 13,.x 14,.x 4,.x 9,.x 10,.x 15,.x 16,.x 17] (by kernel_rfl) (by kernel_rfl) ?_;refine cE hw (fun _ w' v w2=>dJ w2 (Nf w' w2) v (p.num*(q.den:Int))) (fun O w' r=>iD (Rel.old r (cC w)) ((QP.rel r (cC w)).l (k:=100000) (by omega)) ((QR.rel r (cC w)).l (k:=100000) (by omega)) (by omega) (by omega)) ?_;rintro O _ _ _ Pp r he hw h_ hn;replace QP:=QP.cG r (cC w) he (mC h_);replace Pt:=Pt.cG r (cC w) he (mC h_);replace QQ:=QQ.cG r (cC w) he (mC h_);replace QR:=QR.cG r (cC w) he (mC h_);have hA:=hn.dE (S:=FF) r.cF (mN h_);obtain⟨E0,E1,E2,E3,rfl⟩:=hA.shape;refine cE hw (fun _ w' v w2=>dJ w2 (Nf w' w2) v (q.num*(p.den:Int))) (fun O w' r=>iD (Rel.old r (cC w)) ((QQ.rel r (cC w)).l (k:=100000) (by omega)) ((Pt.rel r (cC w)).l (k:=100000) (by omega)) (by omega) (by omega)) ?_;rintro O _ _ _ Qy r he hw h_ hn;replace QP:=QP.cG r (cC w) he (mC h_);replace Pt:=Pt.cG r (cC w) he (mC h_);replace QQ:=QQ.cG r (cC w) he (mC h_);replace QR:=QR.cG r (cC w) he (mC h_);replace hA:=hA.cG r (cC w) he (mC h_);have hB:=hn.dE (S:=FF) r.cF (mN h_);obtain⟨F0,F1,F2,F3,rfl⟩:=hB.shape;refine cE hw (fun _ w' v w2=>dJ w2 (Nf w' w2) v (p.num*(q.den:Int)+q.num*(p.den:Int))) (fun O w' r=>AG (Rel.old r (cC w)) ((hA.rel r (cC w)).l (k:=200000) (by omega)) ((hB.rel r (cC w)).l (k:=200000) (by omega)) (by omega) (by omega)) ?_;rintro O _ _ _ TN r he hw h_ hn;replace QP:=QP.cG r (cC w) he (mC h_);replace Pt:=Pt.cG r (cC w) he (mC h_);replace QQ:=QQ.cG r (cC w) he (mC h_);replace QR:=QR.cG r (cC w) he (mC h_);have hN:=hn.dE (S:=FF) r.cF (mN h_);obtain⟨G0,G1,G2,G3,rfl⟩:=hN.shape;refine cE hw (fun _ w' v w2=>dJ w2 (Nf w' w2) v ((p.den:Int)*(q.den:Int))) (fun O w' r=>iD (Rel.old r (cC w)) ((Pt.rel r (cC w)).l (k:=100000) (by omega)) ((QR.rel r (cC w)).l (k:=100000) (by omega)) (by omega) (by omega)) ?_;rintro O _ _ _ Q2 r he hw h_ hn;replace QP:=QP.cG r (cC w) he (mC h_);replace Pt:=Pt.cG r (cC w) he (mC h_);replace QQ:=QQ.cG r (cC w) he (mC h_);replace QR:=QR.cG r (cC w) he (mC h_);replace hN:=hN.cG r (cC w) he (mC h_);have hD:=hn.dE (S:=FF) r.cF (mN h_);obtain⟨J0,J1,J2,J3,rfl⟩:=hD.shape;refine cE hw (fun _ w' v w2=>cS w2 (Nf w' w2) v (p+q)) (fun O w' r=>(tF p q)▸kG (Rel.old r (cC w)) ((hN.rel r (cC w)).l (k:=200001) (by omega)) ((hD.rel r (cC w)).l (k:=200001) (by omega)) (by omega) (by omega) (jv (gE p) (gE q))) ?_;rintro O _ _ _ R5 r he hw h_ hn;have hR:=hn.dE (S:=FF) r.cF (mN h_);obtain⟨K0,K1,K2,K3,K4,K5,K6,K7,rfl⟩:=hR.shape;exact rtn hw fun ρe we re=>hR.out re (cC w)
theorem LC{v:Value}(hS:Old S w)(hp:eR w S v p)(hq:eR w S u q):
  eD PG N.B3 #[v,u] w (eG w fun v' w2=>cS w2 (Nf w w2) v' (p*q)):=by
 have hw:=bR w;replace hp:=hp.cJ (S':=Cv S w.heap.size []) fun _ h=>.inl h;replace hq:=hq.cJ (S':=Cv S w.heap.size []) fun _ h=>.inl h;obtain⟨b1,a1,n1,c1,b2,a2,n2,c2,rfl⟩:=hp.shape;obtain⟨b3,a3,n3,c3,b4,a4,n4,c4,rfl⟩:=hq.shape;refine Cb (by simp) ?_;have r1:=hp.rl;have r2:=hq.rl;have u1:=ff p;have u2:=eo p;have u3:=ff q;have u4:=eo q;refine cD (cE hw (fun _ w' v w2=>∃n d ok,v= .tuple #[.int .i64 n,.int .i64 d,.bool ok]∧(ok=true->d≠0∧n.natAbs<1073741824∧d.natAbs<1073741824∧Rat.divInt n d=p)) (fun O w' r=>xo (Rel.old r hS) (hp.rel r hS)) ?_);rintro O _ _ _ OM r he hw h_ ⟨a,b,k1,rfl,g1⟩;replace hp:=hp.cG r hS he (mC h_);replace hq:=hq.cG r hS he (mC h_);refine cD (cE hw (fun _ w' v w2=>∃n d ok,v= .tuple #[.int .i64 n,.int .i64 d,.bool ok]∧(ok=true->d≠0∧n.natAbs<1073741824∧d.natAbs<1073741824∧Rat.divInt n d=q)) (fun O w' r=>xo (Rel.old r hS) (hq.rel r hS)) ?_);rintro O _ _ _ OK r he hw h_ ⟨c,d,k2,rfl,g2⟩;replace hp:=hp.cG r hS he (mC h_);replace hq:=hq.cG r hS he (mC h_);refine dN.mk ?_ ?_<;>intro h1
 ·refine dN.mk ?_ ?_<;>intro h2
  ·obtain⟨g3,g4,g5,g6⟩:=g1 h1;obtain⟨g7,g8,g9,g10⟩:=g2 h2;have i1:=j4 g4 g9;have i2:=j4 g8 g5;have i3:=j4 g5 g9;have i4:=j4 g4 g8;refine⟨a*c,wo,b*d,wo,?_⟩;have e:=Rat.divInt_mul_divInt a c (d₁:=b) (d₂:=d);rw[g6,g10]at e;refine cD (cE hw (fun _ w' v w2=>cS w2 (Nf w' w2) v (p*q)) (fun O w' r=>e▸q8 (a*c) (b*d) w' (by omega) (by omega) (jv g3 g7)) ?_);rintro O PQ v3 PN OS r he hw h_ hn;have hR:=hn.dE (S:=FF) r.cF (mN h_);obtain⟨A0,A1,A2,A3,A4,A5,A6,A7,rfl⟩:=hR.shape;exact rtn hw fun ρe we re=>hR.out re (cC w)
  refine cN hτ dm [.x 0,.x 2,.x 1,.x 3,.x 4,.x 5] (by kernel_rfl) (by kernel_rfl) ?_;refine cE hw (fun _ w' v w2=>cS w2 (Nf w' w2) v (p)) (fun O w' r=>fz (Rel.old r hS) (hp.rel r hS)) ?_;rintro O PQ v3 PN OS r he hw h_ hn;replace hq:=hq.cG r hS he (mC h_);have hX:=hn.dE (S:=FF) r.cF (mN h_);obtain⟨A0,A1,A2,A3,A4,A5,A6,A7,rfl⟩:=hX.shape;refine cE hw (fun _ w' v w2=>cS w2 (Nf w' w2) v (q)) (fun O w' r=>fz (Rel.old r hS) (hq.rel r hS)) ?_;rintro O RE v4 Qr Oe r he hw h_ hn;replace hX:=hX.cG r (cC w) he (mC h_);have hY:=hn.dE (S:=FF) r.cF (mN h_);obtain⟨C0,C1,C2,C3,C4,C5,C6,C7,rfl⟩:=hY.shape;have QP:=hX.num;have Pt:=hX.den;have QQ:=hY.num;have QR:=hY.den;have m0:=cw p.num q.den;have m1:=cw q.num p.den;have m2:=cw (p.den:Int) q.den;have m3:=iY (p.num*q.den) (q.num*p.den);have m4:=cw p.num q.num;refine cN hτ dm [.x 0,.x 1,.x 2,.x 3,.x 5,.x 6,.x 7,.x 8,.x 4,.x 9,.x 10,.x 11] (by kernel_rfl) (by kernel_rfl) ?_;refine cE hw (fun _ w' v w2=>dJ w2 (Nf w' w2) v (p.num*q.num)) (fun O w' r=>iD (Rel.old r (cC w)) ((QP.rel r (cC w)).l (k:=100000) (by omega)) ((QQ.rel r (cC w)).l (k:=100000) (by omega)) (by omega) (by omega)) ?_;rintro O Rr v5 Rg Pp r he hw h_ hn;replace QP:=QP.cG r (cC w) he (mC h_);replace Pt:=Pt.cG r (cC w) he (mC h_);replace QQ:=QQ.cG r (cC w) he (mC h_);replace QR:=QR.cG r (cC w) he (mC h_);have hN:=hn.dE (S:=FF) r.cF (mN h_);obtain⟨E0,E1,E2,E3,rfl⟩:=hN.shape;refine cE hw (fun _ w' v w2=>dJ w2 (Nf w' w2) v ((p.den:Int)*(q.den:Int))) (fun O w' r=>iD (Rel.old r (cC w)) ((Pt.rel r (cC w)).l (k:=100000) (by omega)) ((QR.rel r (cC w)).l (k:=100000) (by omega)) (by omega) (by omega)) ?_;rintro O SI v6 SO Qy r he hw h_ hn;replace QP:=QP.cG r (cC w) he (mC h_);replace Pt:=Pt.cG r (cC w) he (mC h_);replace QQ:=QQ.cG r (cC w) he (mC h_);replace QR:=QR.cG r (cC w) he (mC h_);replace hN:=hN.cG r (cC w) he (mC h_);have hD:=hn.dE (S:=FF) r.cF (mN h_);obtain⟨F0,F1,F2,F3,rfl⟩:=hD.shape;refine cE hw (fun _ w' v w2=>cS w2 (Nf w' w2) v (p*q)) (fun O w' r=>(xd p q)▸kG (Rel.old r (cC w)) ((hN.rel r (cC w)).l (k:=200001) (by omega)) ((hD.rel r (cC w)).l (k:=200001) (by omega)) (by omega) (by omega) (jv (gE p) (gE q))) ?_;rintro O Um v7 Un TN r he hw h_ hn;have hR:=hn.dE (S:=FF) r.cF (mN h_);obtain⟨G0,G1,G2,G3,G4,G5,G6,G7,rfl⟩:=hR.shape;exact rtn hw fun ρe we re=>hR.out re (cC w)
 refine cN hτ dm [.x 0,.x 2,.x 1,.x 3,.x 4,.x 5] (by kernel_rfl) (by kernel_rfl) ?_;refine cE hw (fun _ w' v w2=>cS w2 (Nf w' w2) v (p)) (fun O w' r=>fz (Rel.old r hS) (hp.rel r hS)) ?_;rintro O _ _ _ OS r he hw h_ hn;replace hq:=hq.cG r hS he (mC h_);have hX:=hn.dE (S:=FF) r.cF (mN h_);obtain⟨A0,A1,A2,A3,A4,A5,A6,A7,rfl⟩:=hX.shape;refine cE hw (fun _ w' v w2=>cS w2 (Nf w' w2) v (q)) (fun O w' r=>fz (Rel.old r hS) (hq.rel r hS)) ?_;rintro O _ _ _ Oe r he hw h_ hn;replace hX:=hX.cG r (cC w) he (mC h_);have hY:=hn.dE (S:=FF) r.cF (mN h_);obtain⟨C0,C1,C2,C3,C4,C5,C6,C7,rfl⟩:=hY.shape;have QP:=hX.num;have Pt:=hX.den;have QQ:=hY.num;have QR:=hY.den;have m0:=cw p.num q.den;have m1:=cw q.num p.den;have m2:=cw (p.den:Int) q.den;have m3:=iY (p.num*q.den) (q.num*p.den);have m4:=cw p.num q.num;refine cN hτ dm [.x 0,.x 1,.x 2,.x 3,.x 5,.x 6,.x 7,.x 8,.x 4,.x 9,.x 10,.x 11] (by kernel_rfl) (by kernel_rfl) ?_;refine cE hw (fun _ w' v w2=>dJ w2 (Nf w' w2) v (p.num*q.num)) (fun O w' r=>iD (Rel.old r (cC w)) ((QP.rel r (cC w)).l (k:=100000) (by omega)) ((QQ.rel r (cC w)).l (k:=100000) (by omega)) (by omega) (by omega)) ?_;rintro O _ _ _ Pp r he hw h_ hn;replace QP:=QP.cG r (cC w) he (mC h_);replace Pt:=Pt.cG r (cC w) he (mC h_);replace QQ:=QQ.cG r (cC w) he (mC h_);replace QR:=QR.cG r (cC w) he (mC h_);have hN:=hn.dE (S:=FF) r.cF (mN h_);obtain⟨E0,E1,E2,E3,rfl⟩:=hN.shape;refine cE hw (fun _ w' v w2=>dJ w2 (Nf w' w2) v ((p.den:Int)*(q.den:Int))) (fun O w' r=>iD (Rel.old r (cC w)) ((Pt.rel r (cC w)).l (k:=100000) (by omega)) ((QR.rel r (cC w)).l (k:=100000) (by omega)) (by omega) (by omega)) ?_;rintro O _ _ _ Qy r he hw h_ hn;replace QP:=QP.cG r (cC w) he (mC h_);replace Pt:=Pt.cG r (cC w) he (mC h_);replace QQ:=QQ.cG r (cC w) he (mC h_);replace QR:=QR.cG r (cC w) he (mC h_);replace hN:=hN.cG r (cC w) he (mC h_);have hD:=hn.dE (S:=FF) r.cF (mN h_);obtain⟨F0,F1,F2,F3,rfl⟩:=hD.shape;refine cE hw (fun _ w' v w2=>cS w2 (Nf w' w2) v (p*q)) (fun O w' r=>(xd p q)▸kG (Rel.old r (cC w)) ((hN.rel r (cC w)).l (k:=200001) (by omega)) ((hD.rel r (cC w)).l (k:=200001) (by omega)) (by omega) (by omega) (jv (gE p) (gE q))) ?_;rintro O _ _ _ TN r he hw h_ hn;have hR:=hn.dE (S:=FF) r.cF (mN h_);obtain⟨G0,G1,G2,G3,G4,G5,G6,G7,rfl⟩:=hR.shape;exact rtn hw fun ρe we re=>hR.out re (cC w)
theorem ND{v:Value}(hS:Old S w)(hp:eR w S v p):
  eD PG N.B5 #[v] w (eG w fun v' w2=>cS w2 (Nf w w2) v' (-p)):=by
 have hw:=bR w;replace hp:=hp.cJ (S':=Cv S w.heap.size []) fun _ h=>.inl h;obtain⟨b1,a1,n1,c1,b2,a2,n2,c2,rfl⟩:=hp.shape;refine Ci (by simp) ?_;have r1:=hp.rl;have u1:=ff p;have u2:=eo p;refine cD (cE hw (fun _ w' v w2=>cS w2 (Nf w' w2) v (p)) (fun O w' r=>fz (Rel.old r hS) (hp.rel r hS)) ?_);rintro O _ _ _ OM r he hw h_ hn;have hX:=hn.dE (S:=FF) r.cF (mN h_);obtain⟨A0,A1,A2,A3,A4,A5,A6,A7,rfl⟩:=hX.shape;have QP:=hX.num;have Pt:=hX.den;refine cN hτ dm [.x 0,.x 1,.x 3,.x 4,.x 2,.x 5,.x 6] (by kernel_rfl) (by kernel_rfl) ?_;refine cE hw (fun _ w' v w2=>dJ w2 (Nf w' w2) v (-p.num)) (fun O w' r=>lZ (Rel.old r (cC w)) ((QP.rel r (cC w)).l (k:=100000) (by omega)) (by omega)) ?_;rintro O _ _ _ OK r he hw h_ hn;replace Pt:=Pt.cG r (cC w) he (mC h_);have hN:=hn.dE (S:=FF) r.cF (mN h_);obtain⟨C0,C1,C2,C3,rfl⟩:=hN.shape;refine cE hw (fun _ w' v w2=>cS w2 (Nf w' w2) v (-p)) (fun O w' r=>show eD _ _ _ _ (eG _ fun v w2=>cS w2 _ v (-p))from(show Rat.divInt (-p.num) p.den= -p by rw[<-Rat.neg_divInt,Rat.num_divInt_den])▸kG (Rel.old r (cC w)) ((hN.rel r (cC w)).l (k:=100000) (by rw[cB];omega)) ((Pt.rel r (cC w)).l (k:=100000) (by omega)) (by omega) (by omega) (gE p)) ?_;rintro O _ _ _ OS r he hw h_ hn;have hR:=hn.dE (S:=FF) r.cF (mN h_);obtain⟨E0,E1,E2,E3,E4,E5,E6,E7,rfl⟩:=hR.shape;exact rtn hw fun ρe we re=>hR.out re (cC w)
theorem NQ{v:Value}(hS:Old S w)(hp:eR w S v p)(hq:eR w S u q):
  eD PG N.ui #[v,u] w (eG w fun v' w2=>(q=0∧v'= .tuple #[AB,.int .i64 9])∨(q≠0∧∃r,v'= .tuple #[r,.int .i64 0]∧cS w2 (Nf w w2) r (p / q))):=by
 have hw:=bR w;replace hp:=hp.cJ (S':=Cv S w.heap.size []) fun _ h=>.inl h;replace hq:=hq.cJ (S':=Cv S w.heap.size []) fun _ h=>.inl h;obtain⟨b1,a1,n1,c1,b2,a2,n2,c2,rfl⟩:=hp.shape;obtain⟨b3,a3,n3,c3,b4,a4,n4,c4,rfl⟩:=hq.shape;refine Ce (by simp) ?_;have r1:=hp.rl;have r2:=hq.rl;have u1:=ff p;have u2:=eo p;have u3:=ff q;have u4:=eo q;have m0:=cw p.num q.den;have m1:=cw (p.den:Int) q.num;refine cN hτ dm [.x 0,.x 2,.x 1,.x 3,.x 4,.x 5] (by kernel_rfl) (by kernel_rfl) ?_;refine cE hw (fun _ w' v w2=>cS w2 (Nf w' w2) v (p)) (fun O w' r=>fz (Rel.old r hS) (hp.rel r hS)) ?_;rintro O _ _ _ OM r he hw h_ hn;replace hq:=hq.cG r hS he (mC h_);have hX:=hn.dE (S:=FF) r.cF (mN h_);obtain⟨A0,A1,A2,A3,A4,A5,A6,A7,rfl⟩:=hX.shape;refine cE hw (fun _ w' v w2=>cS w2 (Nf w' w2) v (q)) (fun O w' r=>fz (Rel.old r hS) (hq.rel r hS)) ?_;rintro O _ _ _ OK r he hw h_ hn;replace hX:=hX.cG r (cC w) he (mC h_);have hY:=hn.dE (S:=FF) r.cF (mN h_);obtain⟨C0,C1,C2,C3,C4,C5,C6,C7,rfl⟩:=hY.shape;refine cD (cE hw (fun _ w' v w2=>v= .int .i64 (rs q)) (fun O w' r=>I7 (Rel.old r (cC w)) (hY.rel r (cC w))) ?_);rintro O _ _ _ OS r he hw h_ rfl;replace hX:=hX.cG r (cC w) he (mC h_);replace hY:=hY.cG r (cC w) he (mC h_);refine dN.mk ?_ ?_<;>intro h
 ·have h:rs q=0:=by simpa using h
  exact rtn hw fun ρe we re=>.inl ⟨mI.1 h,rfl⟩
 have h:q≠0:=fun e=>by rw[e]at h;exact absurd h (by decide)
 have hqn:q.num≠0:=fun e=>h (Rat.num_eq_zero.1 e);have QP:=hX.num;have Pt:=hX.den;have QQ:=hY.num;have QR:=hY.den;refine cN hτ dm [.x 0,.x 1,.x 2,.x 3,.x 5,.x 6,.x 7,.x 8,.x 4,.x 9,.x 10,.x 11,.x 12] (by kernel_rfl) (by kernel_rfl) ?_;refine cE hw (fun _ w' v w2=>dJ w2 (Nf w' w2) v (p.num*(q.den:Int))) (fun O w' r=>iD (Rel.old r (cC w)) ((QP.rel r (cC w)).l (k:=100000) (by omega)) ((QR.rel r (cC w)).l (k:=100000) (by omega)) (by omega) (by omega)) ?_;rintro O _ _ _ Oe r he hw h_ hn;replace Pt:=Pt.cG r (cC w) he (mC h_);replace QQ:=QQ.cG r (cC w) he (mC h_);have hN:=hn.dE (S:=FF) r.cF (mN h_);obtain⟨E0,E1,E2,E3,rfl⟩:=hN.shape;refine cE hw (fun _ w' v w2=>dJ w2 (Nf w' w2) v ((p.den:Int)*q.num)) (fun O w' r=>iD (Rel.old r (cC w)) ((Pt.rel r (cC w)).l (k:=100000) (by omega)) ((QQ.rel r (cC w)).l (k:=100000) (by omega)) (by omega) (by omega)) ?_;rintro O _ _ _ Pp r he hw h_ hn;replace hN:=hN.cG r (cC w) he (mC h_);have hD:=hn.dE (S:=FF) r.cF (mN h_);obtain⟨F0,F1,F2,F3,rfl⟩:=hD.shape;refine cE hw (fun _ w' v w2=>cS w2 (Nf w' w2) v (p / q)) (fun O w' r=>(CQ p q)▸kG (Rel.old r (cC w)) ((hN.rel r (cC w)).l (k:=200001) (by omega)) ((hD.rel r (cC w)).l (k:=200001) (by omega)) (by omega) (by omega) (jv (gE p) hqn)) ?_;rintro O _ _ _ Qy r he hw h_ hn;have hR:=hn.dE (S:=FF) r.cF (mN h_);obtain⟨G0,G1,G2,G3,G4,G5,G6,G7,rfl⟩:=hR.shape;exact rtn hw fun ρe we re=>.inr ⟨h,_,rfl,hR.out re (cC w)⟩
theorem wY(n:Int)(w:World)(h1n: -9223372036854775808<=n)(h2n:n<=9223372036854775807):
  eD PG N.pM #[.int .i64 n] w (eG w fun v' w2=>cS w2 (Nf w w2) v' (n:Rat)):=by
 have hw:=bR w;have ha:=lW h1n h2n;refine p8 (by simp) ?_;refine cD (cE hw (fun _ w' v w2=>dJ w2 (Nf w' w2) v (n)) (fun O w' r=>kZ n w' h1n h2n) ?_);rintro O _ _ _ OM r he hw h_ hn;have hA:=hn.dE (S:=FF) r.cF (mN h_);obtain⟨A0,A1,A2,A3,rfl⟩:=hA.shape;refine cD (cE hw (fun _ w' v w2=>dJ w2 (Nf w' w2) v (1)) (fun O w' r=>kZ 1 w' (by decide) (by decide)) ?_);rintro O _ _ _ OK r he hw h_ hn;replace hA:=hA.cG r (cC w) he (mC h_);have hB:=hn.dE (S:=FF) r.cF (mN h_);obtain⟨C0,C1,C2,C3,rfl⟩:=hB.shape;refine cD (cE hw (fun _ w' v w2=>cS w2 (Nf w' w2) v ((n:Rat))) (fun O w' r=>(AE n)▸kG (Rel.old r (cC w)) ((hA.rel r (cC w)).l (k:=2) (by omega)) ((hB.rel r (cC w)).l (k:=2) (by decide)) (by omega) (by omega) (by decide)) ?_);rintro O _ _ _ OS r he hw h_ hn;have hR:=hn.dE (S:=FF) r.cF (mN h_);obtain⟨E0,E1,E2,E3,E4,E5,E6,E7,rfl⟩:=hR.shape;exact rtn hw fun ρe we re=>hR.out re (cC w)
theorem Kh(a b:Int)(w:World)(h1a: -9223372036854775808<=a)(h2a:a<=9223372036854775807)(h1b: -9223372036854775808<=b)(h2b:b<=9223372036854775807):
  eD PG N.wI #[.int .i64 a,.int .i64 b] w (eG w fun v' w2=>(b=0∧v'= .tuple #[AB,.int .i64 9])∨(b≠0∧∃q,v'= .tuple #[q,.int .i64 0]∧cS w2 (Nf w w2) q (Rat.divInt a b))):=by
 have hw:=bR w;have ha:=lW h1a h2a;have QJ:=lW h1b h2b;refine zW (by simp) ?_;refine dN.mk ?_ ?_<;>intro h
 ·have h:b=0:=by simpa using h
  exact rtn hw fun ρe we re=>.inl ⟨h,rfl⟩
 have h:b≠0:=by simpa using h
 refine cD (cE hw (fun _ w' v w2=>dJ w2 (Nf w' w2) v (a)) (fun O w' r=>kZ a w' h1a h2a) ?_);rintro O _ _ _ OM r he hw h_ hn;have hA:=hn.dE (S:=FF) r.cF (mN h_);obtain⟨A0,A1,A2,A3,rfl⟩:=hA.shape;refine cD (cE hw (fun _ w' v w2=>dJ w2 (Nf w' w2) v (b)) (fun O w' r=>kZ b w' h1b h2b) ?_);rintro O _ _ _ OK r he hw h_ hn;replace hA:=hA.cG r (cC w) he (mC h_);have hB:=hn.dE (S:=FF) r.cF (mN h_);obtain⟨C0,C1,C2,C3,rfl⟩:=hB.shape;refine cD (cE hw (fun _ w' v w2=>cS w2 (Nf w' w2) v (Rat.divInt a b)) (fun O w' r=>kG (Rel.old r (cC w)) ((hA.rel r (cC w)).l (k:=2) (by omega)) ((hB.rel r (cC w)).l (k:=2) (by omega)) (by omega) (by omega) h) ?_);rintro O _ _ _ OS r he hw h_ hn;have hR:=hn.dE (S:=FF) r.cF (mN h_);obtain⟨E0,E1,E2,E3,E4,E5,E6,E7,rfl⟩:=hR.shape;exact rtn hw fun ρe we re=>.inr ⟨h,_,rfl,hR.out re (cC w)⟩
section
variable{S S':Nat->Prop}{H:Hp}{nx:Nat}{iv iv':Iv}{B:Nat}{w w' w2:World}{O:Nat->Sx.dg}{v:Value}{a:Int}{b:Int}
end
theorem j5.short{b:Bool}{n c k:Nat}{z:Int}(h:j5 w S (.agg #[.bool b,.slice a n c]) z)(hk:n<=k):fV w S (.agg #[.bool b,.slice a n c]) k z:=by
 obtain⟨b2,ls,⟨lv,e1,h3⟩,h2⟩:=h;obtain⟨a2,c2,e2,_⟩:=h3.sl;subst e2;simp only[Value.agg.injEq,Array.mk.injEq,List.cons.injEq,Value.bool.injEq,Value.slice.injEq,and_true]at e1;obtain⟨rfl,rfl,e3,rfl⟩:=e1;exact⟨_,ls,⟨_,by rw[e3],h3⟩,h2,by omega⟩
def jd(w:World)(S:Nat->Prop)(cs:List Value)(q:Rat):Prop:=∃b a n c b2 a2 n2 c2,cs=[.bool b,.slice a n c,.bool b2,.slice a2 n2 c2]∧eR w S (.agg #[.bool b,.slice a n c,.bool b2,.slice a2 n2 c2]) q
abbrev cV:=dM jd
abbrev dO:=db cV
section
variable{S S':Nat->Prop}{H:Hp}{nx:Nat}{iv iv':Iv}{B:Nat}{w w' w2:World}{O:Nat->Sx.dg}{v:Value}{qs:List Rat}{cs:List Value}{q:Rat}
theorem jd.cI(h:jd w S cs q)(hk:∀g,S g->w2.heap[g]? =w.heap[g]?):jd w2 S cs q:=by
 obtain⟨b,a,n,c,b2,a2,n2,c2,h1,h2⟩:=h;exact⟨b,a,n,c,b2,a2,n2,c2,h1,h2.cI hk⟩
theorem jd.cJ(h:jd w S cs q)(hk:∀g,S g->S' g):jd w S' cs q:=by
 obtain⟨b,a,n,c,b2,a2,n2,c2,h1,h2⟩:=h;exact⟨b,a,n,c,b2,a2,n2,c2,h1,h2.cJ hk⟩
theorem cV.cI(h:cV w S v qs)(hk:∀g,S g->w2.heap[g]? =w.heap[g]?):cV w2 S v qs:=by
 obtain⟨css,h1,h2,h3,h4⟩:=h;exact⟨css,h1.cI hk,h2,h3,fun j cs x k1 k2=>(h4 j cs x k1 k2).cI hk⟩
theorem cV.cJ(h:cV w S v qs)(hk:∀g,S g->S' g):cV w S' v qs:=by
 obtain⟨css,h1,h2,h3,h4⟩:=h;exact⟨css,h1.cJ hk,h2,h3,fun j cs x k1 k2=>(h4 j cs x k1 k2).cJ hk⟩
theorem dO.cI(h:dO w S v M)(hk:∀g,S g->w2.heap[g]? =w.heap[g]?):dO w2 S v M:=by
 obtain⟨rv,h1,h2,h3⟩:=h;exact⟨rv,h1.cI hk,h2,fun i u x k1 k2=>cV.cI (h3 i u x k1 k2) hk⟩
theorem dO.cJ(h:dO w S v M)(hk:∀g,S g->S' g):dO w S' v M:=by
 obtain⟨rv,h1,h2,h3⟩:=h;exact⟨rv,h1.cJ hk,h2,fun i u x k1 k2=>cV.cJ (h3 i u x k1 k2) hk⟩
end
section
variable{S S':Nat->Prop}{H:Hp}{nx:Nat}{iv iv':Iv}{B:Nat}{w w' w2:World}{O:Nat->Sx.dg}{v:Value}{qs:List Rat}
theorem cV.rel(h:cV w (Cv S B iv) v qs)(r:Rel H nx iv B w O w')(hS:∀g,S g->g<B):cV w' (Cv S B iv) v qs:=cV.cI h fun _ hg=>Rel.same r hS hg
theorem cV.cG(h:cV w (Cv S B iv) v qs)(r:Rel H nx iv B w O w')(hS:∀g,S g->g<B)(he:Ext w' w2)(hm:∀p,p∈iv->p∈iv'):cV w2 (Cv S B iv') v qs:=
 cV.cJ (cV.cI (cV.rel h r hS) fun g hg=>he.block g (Rel.old r hS g hg)) fun _ hg=>hg.mono hm
theorem cV.out{w0 w1:World}(h:cV w1 (Cv S w0.heap.size iv) v qs)(r:Rel H nx iv w0.heap.size w1 O w')(hS:Old S w0):cV w' (Nw S w0 w') v qs:=
 cV.cJ (cV.rel h r hS) fun _ hg=>Cv.nw hg r
theorem cV.arg(h:cV w S v qs)(iv:Iv):cV w (Cv S w.heap.size iv) v qs:=cV.cJ h fun _ h=>.inl h
end
section
variable{S S':Nat->Prop}{H:Hp}{nx:Nat}{iv iv':Iv}{B:Nat}{w w' w2:World}{O:Nat->Sx.dg}{v:Value}{M:List (List Rat)}
theorem dO.rel(h:dO w (Cv S B iv) v M)(r:Rel H nx iv B w O w')(hS:∀g,S g->g<B):dO w' (Cv S B iv) v M:=dO.cI h fun _ hg=>Rel.same r hS hg
theorem dO.cG(h:dO w (Cv S B iv) v M)(r:Rel H nx iv B w O w')(hS:∀g,S g->g<B)(he:Ext w' w2)(hm:∀p,p∈iv->p∈iv'):dO w2 (Cv S B iv') v M:=
 dO.cJ (dO.cI (dO.rel h r hS) fun g hg=>he.block g (Rel.old r hS g hg)) fun _ hg=>hg.mono hm
theorem dO.old(h:dO w2 (Nw (Cv S B iv) w' w2) v M)(hB:B<=w'.heap.size):dO w2 (Cv S B ((w'.heap.size,w2.heap.size)::iv)) v M:=dO.cJ h fun _ hg=>Nw.cv hg hB
theorem dO.arg(h:dO w S v M)(iv:Iv):dO w (Cv S w.heap.size iv) v M:=dO.cJ h fun _ h=>.inl h
end
def Au(w:World)(S:Nat->Prop)(css:List (List Value))(qs:List Rat):Prop:=∀(j:Nat) cs q,css[j]? =some cs->qs[j]? =some q->iM w S cs q
section
variable{S S':Nat->Prop}{H:Hp}{nx:Nat}{iv iv':Iv}{B:Nat}{w w' w2:World}{O:Nat->Sx.dg}{css:List (List Value)}{qs:List Rat}
theorem Au.rel(h:Au w (Cv S B iv) css qs)(r:Rel H nx iv B w O w')(hS:∀g,S g->g<B):Au w' (Cv S B iv) css qs:=fun j cs q h1 h2=>(h j cs q h1 h2).cI fun _ hg=>Rel.same r hS hg
theorem Au.cG(h:Au w (Cv S B iv) css qs)(r:Rel H nx iv B w O w')(hS:∀g,S g->g<B)(he:Ext w' w2)(hm:∀p,p∈iv->p∈iv'):Au w2 (Cv S B iv') css qs:=fun j cs q h1 h2=>
 (((h.rel r hS) j cs q h1 h2).cI fun g hg=>he.block g (Rel.old r hS g hg)).cJ fun _ hg=>hg.mono hm
theorem Au.push(h:Au w S css qs)(hq:qs[css.length]? =some q)(hc:iM w S cs q):Au w S (css++[cs]) qs:=fun j cs' q' h1 h2=>by
 rcases aP j css.length with hj|hj
 ·rw[aL hj]at h1;exact h j cs' q' h1 h2
 ·have Ud:j=css.length:=by have:=(aD.1 h1).1;simp at this;omega
  subst Ud;rw[aM (aF _),bK]at h1;simp at h1;rw[hq]at h2;injection h2 with h2;subst h1 h2;exact hc
end
theorem AI(h:∀x∈css,x.length=4∧∀u∈x,u.oneCell'=true)(hc:cs.length=4∧∀u∈cs,u.oneCell'=true):∀x∈css++[cs],x.length=4∧∀u∈x,u.oneCell'=true:=fun x hx=>by
 rcases bG.1 hx with hx|hx
 ·exact h x hx
 ·simp at hx;subst hx;exact hc
def NF(w w2:World)(v:Value)(xs:List Rat):Prop:=∃css:List (List Value),w2.ownsRow w.heap.size T.Rat 4 v xs.length css.flatten∧css.length=xs.length∧(∀cs∈css,cs.length=4∧∀u∈cs,u.oneCell'=true)∧∀(j:Nat) cs q,css[j]? =some cs->xs[j]? =some q->iM w2 (fun g=>Nf w w2 g∧v.ownBlock≠some g) cs q
theorem Bk{id n g:Nat}(h:((At.w id n).den O).ownBlock=some g):(O id).nil=false∧(O id).g=g:=by
 cases hn:(O id).nil with
 |true=>rw[show (At.w id n).den O= .slice none 0 0 by simp[At.den,hn]]at h;cases h
 |false=>
  rw[show (At.w id n).den O= .slice (some ⟨(O id).g,0,none⟩) n (O id).cap by simp[At.den,hn]]at h;injection h with h;exact⟨rfl,h⟩
def kO(xs ys:List Rat)(b:Rat):List Rat:=(List.range ys.length).map fun j=>if 0<xs.length then xs.getD j 0+ys.getD j 0*b else ys.getD j 0*b
theorem oP(xs ys:List Rat)(b:Rat):(kO xs ys b).length=ys.length:=by simp[kO]
theorem vT{j:Nat}(h:j<ys.length):(kO xs ys b)[j]? =some (if 0<xs.length then xs.getD j 0+ys.getD j 0*b else ys.getD j 0*b):=by
 rw[kO,aN,bq h];rfl
theorem En{v t:Value}(hS:Old S w)(hx:cV w S v xs)(hy:cV w S u ys)(hb:eR w S t b)(hlen:xs=[]∨xs.length=ys.length)(hn:ys.length<=1000000)(hbound:∀y∈ys,rl y+rl b<=100000):
  eD PG N.rk #[v,u,t] w (eG w fun v' w2=>cL w2 (Nf w w2) v' (kO xs ys b)∧NF w w2 v' (kO xs ys b)):=by
 have hw:=bR w;obtain⟨ax,cx,rfl,Vk,hmx⟩:=dM.shape hx;obtain⟨ay,cy,rfl,hcy,hmy⟩:=dM.shape hy;obtain⟨t0,t1,t2,t3,t4,t5,t6,t7,rfl⟩:=hb.shape;have PV:=oP xs ys b;refine AW (by simp) ?_
 refine⟨List (List Value)×World×Iv,fun z=>⟨[(0,sV ax xs.length cx),(1,sV ay ys.length cy),(5,pP 0 0),(7,.o (.w 1 z.1.length)),(8,iZ z.1.length)],[(1,.vec T.Rat 4 z.1.flatten),(0,.box T.Rat [.v (.bool t0),.v (.slice t1 t2 t3),.v (.bool t4),.v (.slice t5 t6 t7)])],2,z.2.2,z.2.1⟩,fun z=>ys.length-z.1.length,
  fun z=>z.1.length<=ys.length∧eB w.heap.size w z.2.1∧(∀x∈z.1,x.length=4∧∀u∈x,u.oneCell'=true)∧Au z.2.1 (Cf w z.2.2) z.1 (kO xs ys b),?_,?_⟩
 ·intro O w' r
  exact⟨([],w',[]),⟨by simp,r.cQ,by simp,fun j cs q h=>by simp at h⟩,Sub.nil 7 T.Rat 4 rfl (by simp[jN,SV.sc,At.sc,fW]) r fun ρ1 r1=>
   Sub.gn [] r1⟩
 clear hw;rintro⟨css,w1,iv⟩ ⟨hi,hw,h4,QO⟩;dsimp only at hi hw h4 QO ⊢;have OX:=eH fun x hx=>(h4 x hx).1;refine dN.mk ?_ ?_<;>intro OF
 ·have OF:css.length<ys.length:=by simpa using OF
  obtain⟨y,TJ⟩:∃y,ys[css.length]? =some y:=⟨_,aB OF⟩
  obtain⟨ady,csy,Uf,Rd,_,QY⟩:=dM.load hy TJ;obtain⟨p0,p1,p2,p3,p4,p5,p6,p7,rfl,Rd⟩:=Rd;have hyd:ys.getD css.length 0=y:=by rw[List.getD,TJ];rfl
  have VQ:=vT (xs:=xs) (b:=b) OF;rw[hyd]at VQ;have Oc:=hbound y (aC TJ);have hrm:=j9 y b;refine dN.mk ?_ ?_<;>intro SF
  ·have SF:0<xs.length:=by have:=aI SF;omega
   have PW:css.length<xs.length:=hlen.elim (fun h=>by rw[h]at SF;simp at SF) (fun h=>by omega);obtain⟨x,PZ⟩:∃x,xs[css.length]? =some x:=⟨_,aB PW⟩
   obtain⟨adx,csx,PI,SE,_,Of⟩:=dM.load hx PZ;obtain⟨q0,q1,q2,q3,q4,q5,q6,q7,rfl,SE⟩:=SE;have Ty:xs.getD css.length 0=x:=by rw[List.getD,PZ];rfl
   rw[if_pos SF,Ty]at VQ;refine⟨ady,Uf,by omega,[.bool p0,.slice p1 p2 p3,.bool p4,.slice p5 p6 p7],rfl,fun O w' r i x hx=>?_,?_⟩
   ·obtain⟨k1,k2⟩:=QY i x hx;rw[aE,cH (w:=w) (w2:=w') (by rw[dH,dH];exact(hw.tr r.cQ).block _ (hS _ k1))];exact k2
   refine cD (cE hw (fun _ w' v w2=>v= .int .i64 (rs y)) (fun O w' r=>oK (oS hS r) (Rd.cI (kS hw r hS))) ?_);rintro O Pq v1 Pa OM r he hw h_ rfl;replace QO:=QO.cG r (cC w) he (mC h_);clear r;refine dN.mk ?_ ?_<;>intro hs
   ·have hs:y=0:=mI.1 (by simpa using hs);rw[hs,bH,bX]at VQ;refine⟨adx,PI,by omega,[.bool q0,.slice q1 q2 q3,.bool q4,.slice q5 q6 q7],rfl,fun O w' r i x hx=>?_,?_⟩
    ·obtain⟨k1,k2⟩:=Of i x hx;rw[aE,cH (w:=w) (w2:=w') (by rw[dH,dH];exact(hw.tr r.cQ).block _ (hS _ k1))];exact k2
    refine cD (cE hw (fun _ w' v w2=>cS w2 (Nf w' w2) v (x)) (fun O w' r=>fz (oS hS r) (SE.cI (kS hw r hS))) ?_);rintro O Ph v2 PD OK r he hw h_ hn;replace QO:=QO.cG r (cC w) he (mC h_);have TT:=hn.dE (S:=FF) r.cF (mN h_);clear r hn;obtain⟨A0,A1,A2,A3,A4,A5,A6,A7,rfl⟩:=TT.shape;refine .inl ?_;refine⟨OX,by omega,by unfold maxLen;omega,((css.length+1:Nat):Int),wo,?_⟩;intro ρ3 w3 r3;have R7:(css++[[Value.bool A0,.slice A1 A2 A3,.bool A4,.slice A5 A6 A7]]).length=css.length+1:=by simp
    have hf3:(css++[[Value.bool A0,.slice A1 A2 A3,.bool A4,.slice A5 A6 A7]]).flatten=css.flatten++[Value.bool A0,.slice A1 A2 A3,.bool A4,.slice A5 A6 A7]:=by simp
    exact⟨(css++[[.bool A0,.slice A1 A2 A3,.bool A4,.slice A5 A6 A7]],w3,_),⟨by dsimp only;rw[R7];exact OF,hw.tr r3.cQ,AI h4 ⟨rfl,by intro u hu;simp at hu;rcases hu with rfl|rfl|rfl|rfl<;>rfl⟩,(QO.rel r3 (cC w)).push VQ (TT.rel r3 (cC w)).rD⟩,
     Sub.gn [(1,3)] r3 ⟨by dsimp only;rw[hf3];rfl,rfl,trivial⟩ ⟨rfl,rfl,rfl,by dsimp only;rw[R7];rfl,by dsimp only;rw[R7];rfl,trivial⟩,by dsimp only;rw[R7];omega⟩
   refine cN hτ dm [.x 0,.x 1,.x 2,.x 3,.x 4,.p 6,.x 5,.x 6,.x 7] (by kernel_rfl) (by kernel_rfl) ?_;refine⟨ady,Uf,by omega,[.bool p0,.slice p1 p2 p3,.bool p4,.slice p5 p6 p7],rfl,fun O w' r i x hx=>?_,?_⟩
   ·obtain⟨k1,k2⟩:=QY i x hx;rw[aE,cH (w:=w) (w2:=w') (by rw[dH,dH];exact(hw.tr r.cQ).block _ (hS _ k1))];exact k2
   refine cE hw (fun _ w' v w2=>cS w2 (Nf w' w2) v (y*b)) (fun O w' r=>LC (oS hS r) (Rd.cI (kS hw r hS)) (hb.cI (kS hw r hS))) ?_;rintro O _ _ _ OK r he hw h_ hn;replace QO:=QO.cG r (cC w) he (mC h_);have hm:=hn.dE (S:=FF) r.cF (mN h_);clear r hn;obtain⟨A0,A1,A2,A3,A4,A5,A6,A7,rfl⟩:=hm.shape;refine dN.mk (fun QK=>?_) (fun QK=>absurd SF (by have:=aH QK;omega));refine cN hτ dm [.x 0,.x 1,.x 2,.x 3,.x 4,.x 5,.x 6] (by kernel_rfl) (by kernel_rfl) ?_;refine⟨adx,PI,by omega,[.bool q0,.slice q1 q2 q3,.bool q4,.slice q5 q6 q7],rfl,fun O w' r i x hx=>?_,?_⟩
   ·obtain⟨k1,k2⟩:=Of i x hx;rw[aE,cH (w:=w) (w2:=w') (by rw[dH,dH];exact(hw.tr r.cQ).block _ (hS _ k1))];exact k2
   refine cE hw (fun _ w' v w2=>cS w2 (Nf w' w2) v (x+y*b)) (fun O w' r=>NP (Rel.old r hS) ((SE.cI (kS hw r hS)).cJ fun g hg=>Or.inl hg) (((hm.rel r (cC w)).l (by omega)).cJ fun g hg=>Cv.false hg)) ?_;rintro O _ _ _ OS r he hw h_ hn;replace QO:=QO.cG r (cC w) he (mC h_);clear hm;have TT:=hn.dE (S:=FF) r.cF (mN h_);clear r hn;obtain⟨C0,C1,C2,C3,C4,C5,C6,C7,rfl⟩:=TT.shape;refine .inl ?_;refine⟨OX,by omega,by unfold maxLen;omega,((css.length+1:Nat):Int),wo,?_⟩;intro ρ3 w3 r3;have R7:(css++[[Value.bool C0,.slice C1 C2 C3,.bool C4,.slice C5 C6 C7]]).length=css.length+1:=by simp
   have hf3:(css++[[Value.bool C0,.slice C1 C2 C3,.bool C4,.slice C5 C6 C7]]).flatten=css.flatten++[Value.bool C0,.slice C1 C2 C3,.bool C4,.slice C5 C6 C7]:=by simp
   exact⟨(css++[[.bool C0,.slice C1 C2 C3,.bool C4,.slice C5 C6 C7]],w3,_),⟨by dsimp only;rw[R7];exact OF,hw.tr r3.cQ,AI h4 ⟨rfl,by intro u hu;simp at hu;rcases hu with rfl|rfl|rfl|rfl<;>rfl⟩,(QO.rel r3 (cC w)).push VQ (TT.rel r3 (cC w)).rD⟩,
    Sub.gn [(1,4)] r3 ⟨by dsimp only;rw[hf3];rfl,rfl,trivial⟩ ⟨rfl,rfl,rfl,by dsimp only;rw[R7];rfl,by dsimp only;rw[R7];rfl,trivial⟩,by dsimp only;rw[R7];omega⟩
  have SF:¬0<xs.length:=by have:=aH SF;omega
  rw[aK SF]at VQ;refine cN hτ dm [.x 0,.x 1,.x 2,.x 3,.x 4,.p 6,.x 5,.x 6,.x 7] (by kernel_rfl) (by kernel_rfl) ?_;refine⟨ady,Uf,by omega,[.bool p0,.slice p1 p2 p3,.bool p4,.slice p5 p6 p7],rfl,fun O w' r i x hx=>?_,?_⟩
  ·obtain⟨k1,k2⟩:=QY i x hx;rw[aE,cH (w:=w) (w2:=w') (by rw[dH,dH];exact(hw.tr r.cQ).block _ (hS _ k1))];exact k2
  refine cE hw (fun _ w' v w2=>cS w2 (Nf w' w2) v (y*b)) (fun O w' r=>LC (oS hS r) (Rd.cI (kS hw r hS)) (hb.cI (kS hw r hS))) ?_;rintro O _ _ _ OM r he hw h_ hn;replace QO:=QO.cG r (cC w) he (mC h_);have hm:=hn.dE (S:=FF) r.cF (mN h_);clear r hn;obtain⟨E0,E1,E2,E3,E4,E5,E6,E7,rfl⟩:=hm.shape;refine dN.mk (fun QK=>absurd (aI QK) (by omega)) (fun QK=>?_);refine .inl ?_;refine⟨OX,by omega,by unfold maxLen;omega,((css.length+1:Nat):Int),wo,?_⟩;intro ρ3 w3 r3;have R7:(css++[[Value.bool E0,.slice E1 E2 E3,.bool E4,.slice E5 E6 E7]]).length=css.length+1:=by simp
  have hf3:(css++[[Value.bool E0,.slice E1 E2 E3,.bool E4,.slice E5 E6 E7]]).flatten=css.flatten++[Value.bool E0,.slice E1 E2 E3,.bool E4,.slice E5 E6 E7]:=by simp
  exact⟨(css++[[.bool E0,.slice E1 E2 E3,.bool E4,.slice E5 E6 E7]],w3,_),⟨by dsimp only;rw[R7];exact OF,hw.tr r3.cQ,AI h4 ⟨rfl,by intro u hu;simp at hu;rcases hu with rfl|rfl|rfl|rfl<;>rfl⟩,(QO.rel r3 (cC w)).push VQ (hm.rel r3 (cC w)).rD⟩,
   Sub.gn [(1,4)] r3 ⟨by dsimp only;rw[hf3];rfl,rfl,trivial⟩ ⟨rfl,rfl,rfl,by dsimp only;rw[R7];rfl,by dsimp only;rw[R7];rfl,trivial⟩,by dsimp only;rw[R7];omega⟩
 have OF:css.length=ys.length:=aR hi (by simpa using OF);intro ρe we re;have PF:∀u∈css.flatten,u.oneCell'=true:=fun u hu=>by
  obtain⟨cs,hc,hu⟩:=List.mem_flatten.1 hu;exact(h4 cs hc).2 u hu
 refine⟨_,rfl,hw.tr re.cQ,?_,css,by rw[PV,<-OF];exact yJ re (id:=1) rfl OX (by decide),by rw[PV];exact OF,h4,fun j cs q k1 k2=>((QO j cs q k1 k2).cI fun g hg=>Rel.same re (cC w) hg).cJ fun g hg=>⟨Cv.nw hg re,fun e=>Rel.not re (cC w) hg 1 _ rfl (Bk e).1 (Bk e).2⟩⟩;refine⟨css,?_,by rw[PV];exact OF,fun cs hc=>(h4 cs hc).1,fun j cs q k1 k2=>((QO j cs q k1 k2).cI fun g hg=>Rel.same re (cC w) hg).cJ fun g hg=>Cv.nw hg re⟩;have:=re.ie (id:=1) (sz:=4) (m:=css.length) rfl OX (by unfold maxLen;omega) (by decide) PF;rw[PV,<-OF];exact this.cJ fun g hg=>.inr hg
theorem HQ{v t:Value}(hS:Old S w)(hx:cV w S v xs)(hy:cV w S u ys)(hb:eR w S t b)(hlen:xs=[]∨xs.length=ys.length)(hn:ys.length<=1000000)(hbound:∀y∈ys,rl y+rl b<=100000):
  eD PG N.rk #[v,u,t] w (eG w fun v' w2=>cL w2 (Nf w w2) v' (kO xs ys b)):=
 (En hS hx hy hb hlen hn hbound).mono fun _ _ ⟨v2,e1,e2,e3,_⟩=>⟨v2,e1,e2,e3⟩
end Go.Ex
namespace Go.Ex
variable{M:List (List Rat)}{s:List (List Rat)×List Nat}
theorem yN{c r k R:Nat}(hk:r<=k)(hR:k<=R)(h:∀j,r<=j->j<k->dD M j c=0):iJ M c (R-r) r=iJ M c (R-k) k:=by
 induction k with
 |zero=>
  have:r=0:=by omega
  subst this;rfl
 |succ k ih=>
  rcases aP k r with h1|h1
  ·have:r=k+1:=by omega
   subst this;rfl
  ·rw[ih h1 (by omega) fun j h2 h3=>h j h2 (by omega),show R-k=(R-(k+1))+1 by omega,FW (h k h1 (by omega))]
theorem CL{a c i:Nat}{r:List Rat}(h:M[i]? =some r)(h0:r.getD c 0=0):dc M a c (i+1)=dc M a c i:=by
 unfold dc;refine bM fun j=>?_;rw[List.getElem?_mapIdx,List.getElem?_mapIdx];by_cases hj:j=i
 ·subst hj;rw[h];simp only[Option.map_some]
  by_cases ha:j=a
  ·rw[aK (by omega),aK (by omega)]
  ·rw[if_pos ⟨by omega,ha⟩,aK (by omega),h0];congr 1;refine bM fun k=>?_;rw[List.getElem?_mapIdx]
   cases r[k]? with
   |none=>rfl
   |some q=>simp[rT,bX]
 ·cases M[j]? with
  |none=>rfl
  |some r'=>
   simp only[Option.map_some]
   by_cases h2:j<i∧j≠a
   ·rw[if_pos ⟨by omega,h2.2⟩,if_pos h2]
   ·rw[aK (by omega),aK h2]
theorem fu{α:Type}{l:List α}{i:Nat}{x:α}(h:i<l.length):l.take i++[x]++l.drop (i+1)=l.set i x:=by
 rw[List.set_eq_take_append_cons_drop,if_pos h];simp
theorem yO{c:Nat}(h:¬s.2.length<s.1.length∨iJ s.1 c (s.1.length-s.2.length) s.2.length=s.1.length):dX s c=s:=by
 unfold dX;split
 ·rcases h with h|h
  ·exact absurd ‹_› h
  ·dsimp only;rw[if_pos h]
 ·rfl
theorem yP{c k:Nat}(hk:s.2.length<=k)(hl:k<s.1.length)(h:∀j,s.2.length<=j->j<k->dD s.1 j c=0)(hn:dD s.1 k c≠0):
  dX s c=(dc (scaled (fP [] s.1 s.2.length k) s.2.length c) s.2.length c s.1.length,s.2++[c]):=by
 have e:iJ s.1 c (s.1.length-s.2.length) s.2.length=k:=by
  rw[yN hk (by omega) h,show s.1.length-k=(s.1.length-k-1)+1 by omega,FX hn]
 unfold dX;rw[if_pos (by omega)];dsimp only
 rw[e,aK (by omega),qk,j8]
theorem Hh{c k:Nat}(hk:s.2.length<=k)(hl:k=s.1.length)(h:∀j,s.2.length<=j->j<k->dD s.1 j c=0):dX s c=s:=by
 refine yO (.inr ?_);rw[yN hk (by omega) h,hl,bK];rfl
end Go.Ex
namespace Go.Ex
open Go Go.Sx Go.Proofs
variable{qs x:List Rat}{i:Nat}{S:Nat->Prop}{u:Value}{w:World}
theorem Bi(ys:List Rat)(b:Rat):kO [] ys b=ys.map (· *b):=by
 refine bM fun j=>?_;rcases aP j ys.length with h|h
 ·rw[vT h,aK (by simp),aN,List.getD,aB h];rfl
 ·rw[List.getElem?_eq_none (by rw[oP];exact h),List.getElem?_eq_none (by simp;exact h)]
theorem GK{xs ys:List Rat}(b:Rat)(h:xs.length=ys.length):kO xs ys b=xs.mapIdx (rT b ys):=by
 refine bM fun j=>?_;rw[List.getElem?_mapIdx];rcases aP j ys.length with h1|h1
 ·rw[vT h1,if_pos (by omega),aB (by omega),List.getD,aB (show j<xs.length by omega)];simp[rT,bg]
 ·rw[List.getElem?_eq_none (by rw[oP];exact h1),List.getElem?_eq_none (show xs.length<=j by omega)];rfl
theorem cL.l{v:Value}(h:cL w S v qs)(hq:∀q∈qs,rl q<=100000):cV w S v qs:=by
 obtain⟨css,h1,h2,h3,h4⟩:=h;refine⟨css,h1,h2,h3,fun j cs q k1 k2=>?_⟩;obtain⟨b,a,n,c,b2,a2,n2,c2,e,hc⟩:=h4 j cs q k1 k2;exact⟨b,a,n,c,b2,a2,n2,c2,e,hc.l (hq q (aC k2))⟩
theorem cV.nil(w:World)(S:Nat->Prop):cV w S (.slice none 0 0) []:=⟨[],⟨by simp,by simp,by simp,none,0,rfl,aF _,by simp⟩,rfl,by simp,by simp⟩
theorem IQ{v:Value}{p q:Rat}(hS:Old S w)(hp:eR w S v p)(hq:eR w S u q)(h0:q≠0):
  eD PG N.ui #[v,u] w (eG w fun v' w2=>∃r,v'= .tuple #[r,.int .i64 0]∧cS w2 (Nf w w2) r (p / q)):=
 (NQ hS hp hq).mono fun _ _ ⟨v2,e1,e2,e3⟩=>⟨v2,e1,e2,e3.elim (fun h=>absurd h.1 h0) fun h=>h.2⟩
def fR(w:World)(S:Nat->Prop)(rv:List Value)(M:List (List Rat)):Prop:=rv.length=M.length∧(∀u∈rv,u.oneCell'=true)∧∀(i:Nat) u r,rv[i]? =some u->M[i]? =some r->cV w S u r
section
variable{S S':Nat->Prop}{H:Hp}{nx:Nat}{iv iv':Iv}{B:Nat}{w w' w2:World}{O:Nat->Sx.dg}{rv:List Value}{M:List (List Rat)}
theorem fR.rel(h:fR w (Cv S B iv) rv M)(r:Rel H nx iv B w O w')(hS:∀g,S g->g<B):fR w' (Cv S B iv) rv M:=⟨h.1,h.2.1,fun i u x h1 h2=>cV.rel (h.2.2 i u x h1 h2) r hS⟩
theorem fR.cG(h:fR w (Cv S B iv) rv M)(r:Rel H nx iv B w O w')(hS:∀g,S g->g<B)(he:Ext w' w2)(hm:∀p,p∈iv->p∈iv'):fR w2 (Cv S B iv') rv M:=⟨h.1,h.2.1,fun i u x h1 h2=>cV.cG (h.2.2 i u x h1 h2) r hS he hm⟩
theorem fR.set(h:fR w S rv M)(hu:u.oneCell'=true)(hx:cV w S u x):fR w S (rv.set i u) (M.set i x):=by
 refine⟨by simp[h.1],fun v hv=>?_,fun j v y h1 h2=>?_⟩
 ·rcases bJ hv with h1|h1
  ·exact h.2.1 v h1
  ·rw[h1];exact hu
 ·rw[List.getElem?_set]at h1 h2;by_cases hj:i=j
  ·rw[if_pos hj]at h1 h2;split at h1
   ·split at h2
    ·injection h1 with h1;injection h2 with h2;subst h1 h2;exact hx
    ·cases h2
   ·cases h1
  ·rw[aK hj]at h1 h2;exact h.2.2 j v y h1 h2
theorem fR.get(h:fR w S rv M)(hi:i<M.length):∃u r,rv[i]? =some u∧M[i]? =some r∧cV w S u r:=by
 obtain⟨u,hu⟩:∃u,rv[i]? =some u:=⟨_,aB (by rw[h.1];exact hi)⟩
 obtain⟨r,hr⟩:∃r,M[i]? =some r:=⟨_,aB hi⟩
 exact⟨u,r,hu,hr,h.2.2 i u r hu hr⟩
end
end Go.Ex
namespace Go.Ex
variable{s:List (List Rat)×List Nat}
theorem dh(M:List (List Rat))(cols:Nat):(cM M cols).1.length=M.length:=by
 have key:∀(l:List Nat) (s:List (List Rat)×List Nat),(l.foldl dX s).1.length=s.1.length:=by
  intro l
  induction l with
  |nil=>exact fun s=>rfl
  |cons c l ih=>exact fun s=>by rw[List.foldl_cons,ih,nV]
 exact key _ _
theorem rU{M:List (List Rat)}{c:Nat}:∀f k j,k<=j->j<iJ M c f k->dD M j c=0
 |0,k,j,h1,h2=>by simp only[iJ]at h2;omega
 |f+1,k,j,h1,h2=>by
  unfold iJ at h2;split at h2
  ·rename_i h0;rcases aP k j with h|h
   ·exact rU f (k+1) j h h2
   ·rw[show j=k by omega];exact h0
  ·omega
theorem jX(c:Nat)(hle:s.2.length<=s.1.length):(dX s c=s∧∀j,s.2.length<=j->j<s.1.length->dD s.1 j c=0)∨
  ∃k,s.2.length<=k∧k<s.1.length∧dD s.1 k c≠0∧dX s c=(dc (scaled (fP [] s.1 s.2.length k) s.2.length c) s.2.length c s.1.length,s.2++[c]):=by
 have h1:=yQ s.1 c (s.1.length-s.2.length) s.2.length;by_cases hk:iJ s.1 c (s.1.length-s.2.length) s.2.length=s.1.length
 ·exact .inl ⟨yO (.inr hk),fun j hj hl=>rU (s.1.length-s.2.length) s.2.length j hj (by omega)⟩
 ·exact .inr ⟨_,h1.1,by omega,yR s.1 c _ _ (by omega),yP h1.1 (by omega) (fun j h2 h3=>rU _ _ j h2 h3) (yR s.1 c _ _ (by omega))⟩
theorem uX{p:Rat}{r s:List Rat}{c:Nat}(h:c<r.length):(r.mapIdx (rT p s)).getD c 0=r.getD c 0+p*s.getD c 0:=by
 simp only[List.getD,List.getElem?_mapIdx,aB h]
 rfl
theorem yS{r:List Rat}{k:Rat}{c:Nat}:(r.map (· *k)).getD c 0=r.getD c 0*k:=by
 simp only[List.getD,aN]
 cases r[c]? with
 |none=>exact(bH k).symm
 |some q=>rfl
theorem lC{c k n:Nat}(hl:fX n s.1)(h1:s.2.length<=k)(h2:k<s.1.length)(h3:dD s.1 k c≠0)(e:dX s c=(dc (scaled (fP [] s.1 s.2.length k) s.2.length c) s.2.length c s.1.length,s.2++[c])):
  (∀t,dD (dX s c).1 s.2.length t=dD s.1 k t*(1 / dD s.1 k c))∧
  ∀j,j<s.1.length->j≠s.2.length->∀t,t<n->dD (dX s c).1 j t=dD s.1 (if j=k then s.2.length else j) t+ -(dD s.1 (if j=k then s.2.length else j) c)*(dD s.1 k t*(1 / dD s.1 k c)):=by
 have hp:s.2.length<s.1.length:=by omega
 have hsw:dD (fP [] s.1 s.2.length k) s.2.length c=dD s.1 k c:=Di hp h2;have TU:(scaled (fP [] s.1 s.2.length k) s.2.length c).getD s.2.length []=(s.1.getD k []).map (· *(1 / dD s.1 k c)):=by
  unfold scaled;rw[hsw,List.getD,aW (by rw[j8];exact hp)];simp only[Option.getD_some]
  congr 1;rw[List.getD,List.getD,BM hp h2]
 have OH:∀j,j<s.1.length->j≠s.2.length->(scaled (fP [] s.1 s.2.length k) s.2.length c)[j]? =some (s.1.getD (if j=k then s.2.length else j) []):=fun j hj OG=>by
  unfold scaled;rw[aX (Ne.symm OG)];unfold fP;by_cases Rn:j=k
  ·subst Rn;rw[aW (by simpa using hj),if_pos rfl]
  ·rw[aX (Ne.symm Rn),aX (Ne.symm OG),aK Rn,List.getD,aB hj];rfl
 have hgp:(dc (scaled (fP [] s.1 s.2.length k) s.2.length c) s.2.length c s.1.length).getD s.2.length []=(s.1.getD k []).map (· *(1 / dD s.1 k c)):=by
  rw[<-TU];simp only[List.getD,rV]
 rw[e];refine⟨fun t=>?_,fun j hj OG t ht=>?_⟩
 ·show((dc (scaled (fP [] s.1 s.2.length k) s.2.length c) s.2.length c s.1.length).getD s.2.length []).getD t 0=_;rw[hgp,yS];rfl
 ·have hgj:(dc (scaled (fP [] s.1 s.2.length k) s.2.length c) s.2.length c s.1.length).getD j []=(s.1.getD (if j=k then s.2.length else j) []).mapIdx (rT (-((s.1.getD (if j=k then s.2.length else j) []).getD c 0)) ((s.1.getD k []).map (· *(1 / dD s.1 k c)))):=by
   simp only[List.getD,dc,List.getElem?_mapIdx,OH j hj OG,Option.map_some,Option.getD_some]
   rw[if_pos ⟨hj,OG⟩];exact congrArg (fun P=>(s.1.getD (if j=k then s.2.length else j) []).mapIdx (rT (-((s.1.getD (if j=k then s.2.length else j) []).getD c 0)) P)) TU
  show((dc (scaled (fP [] s.1 s.2.length k) s.2.length c) s.2.length c s.1.length).getD j []).getD t 0=_;rw[hgj,uX (by rw[hl.getD (by split<;>omega)];exact ht),yS];rfl
theorem se{x:Rat}(h:x≠0):x*(1 / x)=1:=by rw[bj,bw,Rat.mul_inv_cancel x h]
def NT(n c:Nat)(s:List (List Rat)×List Nat):Prop:=fX n s.1∧s.2.length<=s.1.length∧(∀j t,s.2.length<=j->j<s.1.length->t<c->dD s.1 j t=0)∧(∀p∈s.2,p<c)∧
 ∀i j,i<s.2.length->j<s.1.length->dD s.1 j (s.2.getD i 0)=if j=i then 1 else 0
theorem NT.step{n c:Nat}(h:NT n c s)(hc:c<n):NT n (c+1) (dX s c):=by
 obtain⟨hl,hle,hz,RH,hu⟩:=h;rcases jX c hle with⟨e,h0⟩|⟨k,h1,h2,h3,e⟩
 ·rw[e];refine⟨hl,hle,fun j t hj Sc ht=>?_,fun p hp=>by have:=RH p hp;omega,hu⟩;rcases aP t c with h|h
  ·exact hz j t hj Sc h
  ·rw[show t=c by omega];exact h0 j hj Sc
 ·obtain⟨r1,r2⟩:=lC hl h1 h2 h3 e;have hlen:(dX s c).1.length=s.1.length:=nV s c;have e2:(dX s c).2=s.2++[c]:=by rw[e]
  have e3:(dX s c).2.length=s.2.length+1:=by rw[e2];simp
  have PF:∀j,j<s.1.length->j≠s.2.length->dD (dX s c).1 j c=0:=fun j hj OG=>by
   rw[r2 j hj OG c hc,se h3,Rat.mul_one,Rat.add_neg_cancel]
  refine⟨hl.step,by rw[e3,hlen];omega,fun j t hj Sc ht=>?_,fun p hp=>?_,fun i j hi hj=>?_⟩
  ·rw[e3]at hj;rw[hlen]at Sc;rcases aP t c with h|h
   ·rw[r2 j Sc (by omega) t (by omega),hz k t h1 h2 h,hz (if j=k then s.2.length else j) t (by split<;>omega) (by split<;>omega) h,bH,bD,Rat.zero_add]
   ·rw[show t=c by omega];exact PF j Sc (by omega)
  ·rw[e2]at hp;rcases bG.1 hp with hp|hp
   ·have:=RH p hp;omega
   ·rw[aw.1 hp];omega
  ·rw[e3]at hi;rw[hlen]at hj;rcases aP i s.2.length with h|h
   ·have hg:(dX s c).2.getD i 0=s.2.getD i 0:=by rw[e2,List.getD,aL h,<-List.getD]
    have hpm:s.2.getD i 0<c:=RH _ (by rw[List.getD,aB h];exact aY h);have SA:dD s.1 k (s.2.getD i 0)=0:=hz k _ h1 h2 hpm;rw[hg];by_cases hjp:j=s.2.length
    ·rw[hjp,r1,SA,bH,aK (by omega)]
    ·rw[r2 j hj hjp _ (by omega),SA,bH,bD,bX];by_cases Rn:j=k
     ·rw[if_pos Rn,hu i _ h (by omega),aK (by omega),aK (by omega)]
     ·rw[aK Rn,hu i j h hj]
   ·have hg:(dX s c).2.getD i 0=c:=by rw[e2,List.getD,aM h,show i-s.2.length=0 by omega];rfl
    rw[hg];by_cases hjp:j=s.2.length
    ·rw[hjp,r1,se h3,if_pos (by omega)]
    ·rw[PF j hj hjp,aK (by omega)]
theorem dY{M:List (List Rat)}{n:Nat}(hl:fX n M):∀cols,cols<=n->NT n cols (cM M cols)
 |0,_=>⟨hl,aO _,fun _ _ _ _ h=>by omega,fun p hp=>(by cases hp),fun _ _ h=>(by cases h)⟩
 |c+1,h=>by
  have ih:=dY hl c (by omega);unfold cM at ih ⊢;rw[bO,List.foldl_append];exact ih.step (by omega)
abbrev Mx:=Nat->Nat->Rat
def skip(k j:Nat):Nat:=if j<k then j else j+1
def rY(k:Nat):Rat:=if k % 2=1 then -1 else 1
def cY(f:Nat->Rat):Nat->Rat
 |0=>0
 |n+1=>cY f n+f n
def fk:Nat->Mx->Rat
 |0,_=>1
 |n+1,m=>cY (fun k=>rY k*(m 0 k*fk n fun i j=>m (i+1) (skip k j))) (n+1)
theorem cK{f g:Nat->Rat}:∀{n:Nat},(∀k,k<n->f k=g k)->cY f n=cY g n
 |0,_=>rfl
 |n+1,h=>by rw[cY,cY,cK fun k hk=>h k (by omega),h n (by omega)]
theorem di:∀(n:Nat),cY (fun _=>0) n=0
 |0=>rfl
 |n+1=>by rw[cY,di n,bX]
theorem gD(f g:Nat->Rat):∀(n:Nat),cY (fun k=>f k+g k) n=cY f n+cY g n
 |0=>(bX 0).symm
 |n+1=>by rw[cY,cY,cY,gD f g n];grind
theorem e9(p:Rat)(f:Nat->Rat):∀(n:Nat),cY (fun k=>p*f k) n=p*cY f n
 |0=>(bD p).symm
 |n+1=>by rw[cY,cY,e9 p f n];grind
theorem lE(f:Nat->Rat)(n:Nat):cY (fun k=> -f k) n= -cY f n:=by
 have h:=e9 (-1) f n;rw[show (-1:Rat)*cY f n= -cY f n by grind]at h;rw[<-h];exact cK fun k _=>by grind
theorem yY(f:Nat->Rat):∀(n:Nat),cY f (n+1)=f 0+cY (fun k=>f (k+1)) n
 |0=>by show 0+f 0=f 0+0;grind
 |n+1=>by rw[cY,yY f n,cY];grind
theorem Gj{k j n:Nat}(h:j<n):skip k j<n+1:=by unfold skip;split<;>omega
theorem Hi{k l:Nat}(h:k<=l)(j:Nat):skip k (skip l j)=skip (l+1) (skip k j):=by
 unfold skip;grind
theorem iT:∀{n:Nat} {m m':Mx},(∀i j,i<n->j<n->m i j=m' i j)->fk n m=fk n m'
 |0,_,_,_=>rfl
 |n+1,m,m',h=>by
  unfold fk;refine cK fun k hk=>?_;rw[h 0 k (by omega) hk,iT fun i j hi hj=>h (i+1) (skip k j) (by omega) (Gj hj)]
def gP(m:Mx)(r:Nat)(u:Nat->Rat):Mx:=fun i j=>if i=r then u j else m i j
theorem uY(m:Mx)(r k:Nat)(u:Nat->Rat):(fun i j=>gP m (r+1) u (i+1) (skip k j))=gP (fun i j=>m (i+1) (skip k j)) r fun j=>u (skip k j):=by
 funext i j
 unfold gP;by_cases h:i=r
 ·rw[if_pos h,if_pos (by omega)]
 ·rw[aK h,aK (by omega)]
theorem mo(p:Rat):∀(n r:Nat) (m:Mx),r<n->∀(u v:Nat->Rat),fk n (gP m r fun j=>u j+p*v j)=fk n (gP m r u)+p*fk n (gP m r v)
 |0,_,_,h,_,_=>by omega
 |n+1,0,m,_,u,v=>by
  unfold fk;rw[<-e9,<-gD];refine cK fun k _=>?_;have e:∀x:Nat->Rat,(fun i j=>gP m 0 x (i+1) (skip k j))=fun i j=>m (i+1) (skip k j):=fun x=>by
   funext i j;unfold gP;rw[aK (by omega)]
  rw[e,e,e];unfold gP;rw[if_pos rfl,if_pos rfl,if_pos rfl];grind
 |n+1,r+1,m,h,u,v=>by
  unfold fk;rw[<-e9,<-gD];refine cK fun k _=>?_;rw[uY,uY,uY,mo p n r _ (by omega) (fun j=>u (skip k j)) fun j=>v (skip k j)];have e:∀x:Nat->Rat,gP m (r+1) x 0 k=m 0 k:=fun x=>by unfold gP;rw[aK (by omega)]
  rw[e,e,e];grind
theorem yZ{F:Nat->Nat->Rat}:∀{n:Nat},(∀k l,k<=l->l<n->F k l+F (l+1) k=0)->cY (fun k=>cY (F k) n) (n+1)=0
 |0,_=>by show 0+0=(0:Rat);grind
 |n+1,h=>by
  have ih:=yZ (F:=F) (n:=n) fun k l h1 h2=>h k l h1 (by omega);have h3:cY (fun k=>F k n+F (n+1) k) (n+1)=0:=by
   rw[cK (g:=fun _=>0) fun k hk=>h k n (by omega) (by omega),di]
  rw[gD]at h3;rw[cY];have h4:cY (fun k=>cY (F k) (n+1)) (n+1)=cY (fun k=>cY (F k) n) (n+1)+cY (fun k=>F k n) (n+1):=by
   rw[<-gD];rfl
  rw[h4,ih,Rat.zero_add];exact h3
def kk(a b i:Nat):Nat:=if i=a then b else if i=b then a else i
theorem Hj(r i:Nat):kk (r+1) (r+2) (i+1)=kk r (r+1) i+1:=by
 unfold kk;by_cases h:i=r
 ·rw[if_pos (by omega),if_pos h]
 ·rw[aK (by omega),aK h];by_cases h2:i=r+1
  ·rw[if_pos (by omega),if_pos h2]
  ·rw[aK (by omega),aK h2]
theorem JF(k:Nat):rY (k+1)= -rY k:=by
 unfold rY;by_cases h:k % 2=1
 ·rw[if_pos h,aK (by omega)];grind
 ·rw[aK h,if_pos (by omega)]
theorem Dk(n:Nat)(m:Mx):fk (n+2) m=cY (fun k=>cY (fun l=>rY k*rY l*(m 0 k*m 1 (skip k l))*fk n fun i j=>m (i+2) (skip k (skip l j))) (n+1)) (n+2):=by
 rw[fk];refine cK fun k _=>?_;rw[fk,<-e9,<-e9];refine cK fun l _=>?_;grind
theorem y8:∀(n r:Nat) (m:Mx),r+1<n->fk n (fun i j=>m (kk r (r+1) i) j)= -fk n m
 |0,_,_,h=>by omega
 |1,_,_,h=>by omega
 |n+2,0,m,_=>by
  rw[Dk,Dk,<-lE];have key:cY (fun k=>cY (fun l=>rY k*rY l*(m 1 k*m 0 (skip k l))*(fk n fun i j=>m (i+2) (skip k (skip l j)))+rY k*rY l*(m 0 k*m 1 (skip k l))*fk n fun i j=>m (i+2) (skip k (skip l j))) (n+1)) (n+2)=0:=by
   refine yZ fun k l h1 h2=>?_;have e1:skip k l=l+1:=by unfold skip;rw[aK (by omega)]
   have e2:skip (l+1) k=k:=by unfold skip;rw[if_pos (by omega)]
   have e3:(fun i j=>m (i+2) (skip (l+1) (skip k j)))=fun i j=>m (i+2) (skip k (skip l j)):=by
    funext i j;rw[Hi h1]
   rw[e1,e2,e3,JF];grind
  have h4:cY (fun k=>cY (fun l=>rY k*rY l*(m 1 k*m 0 (skip k l))*(fk n fun i j=>m (i+2) (skip k (skip l j)))+rY k*rY l*(m 0 k*m 1 (skip k l))*fk n fun i j=>m (i+2) (skip k (skip l j))) (n+1)) (n+2)=
    cY (fun k=>cY (fun l=>rY k*rY l*(m 1 k*m 0 (skip k l))*fk n fun i j=>m (i+2) (skip k (skip l j))) (n+1)) (n+2)+cY (fun k=>cY (fun l=>rY k*rY l*(m 0 k*m 1 (skip k l))*fk n fun i j=>m (i+2) (skip k (skip l j))) (n+1)) (n+2):=by
   rw[<-gD];exact cK fun k _=>gD _ _ _
  rw[h4]at key;have h5:cY (fun k=> -cY (fun l=>rY k*rY l*(m 0 k*m 1 (skip k l))*fk n fun i j=>m (i+2) (skip k (skip l j))) (n+1)) (n+2)= -cY (fun k=>cY (fun l=>rY k*rY l*(m 0 k*m 1 (skip k l))*fk n fun i j=>m (i+2) (skip k (skip l j))) (n+1)) (n+2):=lE _ _;rw[h5];have h6:cY (fun k=>cY (fun l=>rY k*rY l*(m (kk 0 1 0) k*m (kk 0 1 1) (skip k l))*fk n fun i j=>m (kk 0 1 (i+2)) (skip k (skip l j))) (n+1)) (n+2)=cY (fun k=>cY (fun l=>rY k*rY l*(m 1 k*m 0 (skip k l))*fk n fun i j=>m (i+2) (skip k (skip l j))) (n+1)) (n+2):=by
   refine cK fun k _=>cK fun l _=>?_;have e:∀i,kk 0 1 (i+2)=i+2:=fun i=>by unfold kk;rw[aK (by omega),aK (by omega)]
   simp only[e]
   rfl
  rw[show (0:Nat)+1=1 from rfl,h6];grind
 |n+2,r+1,m,h=>by
  rw[fk,fk,<-lE];refine cK fun k _=>?_;have e:(fun i j=>m (kk (r+1) (r+1+1) (i+1)) (skip k j))=fun i j=>m (kk r (r+1) i+1) (skip k j):=by
   funext i j
   rw[show r+1+1=r+2 from rfl,Hj]
  have ih:fk (n+1) (fun i j=>m (kk r (r+1) i+1) (skip k j))= -fk (n+1) fun i j=>m (i+1) (skip k j):=y8 (n+1) r (fun i j=>m (i+1) (skip k j)) (by omega);rw[e,ih];rw[show kk (r+1) (r+1+1) 0=0 by unfold kk;rw[aK (by omega),aK (by omega)]];grind
theorem nY:∀(k n:Nat) (m:Mx),k+1<n->(∀j,j<n->m 0 j=m (k+1) j)->fk n m=0
 |0,n,m,h,he=>by
  have h1:=y8 n 0 m h;rw[iT (m':=m) fun i j hi hj=>?_]at h1
  ·grind
  ·unfold kk;by_cases h0:i=0
   ·rw[if_pos h0,h0];exact(he j hj).symm
   ·rw[aK h0];by_cases h2:i=1
    ·rw[if_pos h2,h2];exact he j hj
    ·rw[aK h2]
 |k+1,n,m,h,he=>by
  have h1:=y8 n (k+1) m h;rw[nY k n _ (by omega) fun j hj=>?_]at h1
  ·grind
  ·rw[show kk (k+1) (k+1+1) 0=0 by unfold kk;rw[aK (by omega),aK (by omega)],show kk (k+1) (k+1+1) (k+1)=k+1+1 by unfold kk;rw[if_pos rfl]];exact he j hj
theorem Dl(m:Mx)(r:Nat):gP m r (m r)=m:=by
 funext i j
 unfold gP;by_cases h:i=r
 ·rw[if_pos h,h]
 ·rw[aK h]
theorem Hk{n k:Nat}{m:Mx}(h:k+1<n):fk n (fun i j=>m (kk 0 (k+1) i) j)= -fk n m:=by
 have z:∀u:Nat->Rat,fk n (gP (gP m 0 u) (k+1) u)=0:=fun u=>nY k n _ h fun j _=>by
  unfold gP;rw[aK (by omega),if_pos rfl,if_pos rfl]
 have cm:∀u v:Nat->Rat,gP (gP m 0 u) (k+1) v=gP (gP m (k+1) v) 0 u:=fun u v=>by
  funext i j;unfold gP
  by_cases h1:i=k+1
  ·rw[if_pos h1,aK (by omega),if_pos h1]
  ·rw[aK h1,aK h1]
 have l1:∀u v x:Nat->Rat,fk n (gP (gP m 0 u) (k+1) fun j=>v j+1*x j)=fk n (gP (gP m 0 u) (k+1) v)+1*fk n (gP (gP m 0 u) (k+1) x):=fun u v x=>mo 1 n (k+1) _ h v x;have l2:∀u v x:Nat->Rat,fk n (gP (gP m 0 fun j=>v j+1*x j) (k+1) u)=fk n (gP (gP m 0 v) (k+1) u)+1*fk n (gP (gP m 0 x) (k+1) u):=fun u v x=>by
  rw[cm,cm,cm];exact mo 1 n 0 _ (by omega) v x
 have h1:=z fun j=>m 0 j+1*m (k+1) j;rw[l1,l2,l2,z,z]at h1;have e1:gP (gP m 0 (m 0)) (k+1) (m (k+1))=m:=by rw[Dl,Dl]
 have e2:gP (gP m 0 (m (k+1))) (k+1) (m 0)=fun i j=>m (kk 0 (k+1) i) j:=by
  funext i j;unfold gP kk
  by_cases h1:i=k+1
  ·rw[if_pos h1,aK (by omega),if_pos h1]
  ·rw[aK h1];by_cases h0:i=0
   ·rw[if_pos h0,if_pos h0]
   ·rw[aK h0,aK h0,aK h1]
 rw[e1,e2]at h1;grind
theorem kl(f:Nat->Rat)(p:Rat)(n:Nat):cY (fun k=>f k*p) n=cY f n*p:=by
 rw[bg,<-e9];exact cK fun k _=>bg ..
theorem sh(f g:Nat->Rat):∀(n:Nat),cY (fun k=>f k-g k) n=cY f n-cY g n
 |0=>by show(0:Rat)=0-0;grind
 |n+1=>by rw[cY,cY,cY,sh f g n];grind
theorem ec{f:Nat->Rat}{i:Nat}:∀{n:Nat},i<n->(∀k,k<n->k≠i->f k=0)->cY f n=f i
 |0,h,_=>by omega
 |n+1,h,hz=>by
  rw[cY];rcases aP i n with h1|h1
  ·rw[ec h1 fun k hk OG=>hz k (by omega) OG,hz n (by omega) (by omega),bX]
  ·obtain rfl:i=n:=by omega
   rw[cK (g:=fun _=>0) fun k hk=>hz k (by omega) (by omega),di,Rat.zero_add]
theorem sq_nonneg(x:Rat):0<=x*x:=by
 rcases Rat.le_total (a:=0) (b:=x)with h|h
 ·exact Rat.mul_nonneg h h
 ·have:=Rat.mul_nonneg (show 0<= -x by grind) (show 0<= -x by grind);grind
end Go.Ex
namespace Go.Ex
open Go Go.Sx Go.Proofs
variable{M:List (List (Int×Int))}{cs:List Value}{j:Nat}{S:Nat->Prop}{a a1 a2:Option Addr}{q:Rat}{w:World}
theorem zy{v:Value}(hS:Old S w)(h:il w S v M):eD PG N.qw #[v] w (eG w fun v' _=>v'= .int .i64 (ek M)):=by
 have hn:=h;obtain⟨a,c,rfl,hc,hm⟩:=db.shape h;refine vE (by simp) ?_
 cases M with
 |nil=>
  intro ρe we re;exact⟨_,rfl,re.cQ,rfl⟩
 |cons r t=>
  obtain⟨ad,u,rfl,hu,h1,h2⟩:=db.load h (j:=0) (x:=r) rfl;obtain⟨a2,c2,rfl⟩:=db.Km hu;refine⟨ad,rfl,⟨by omega,by simp⟩,.slice a2 r.length c2,fun O w' r'=>by simpa using kM hS eB.refl r' h1 (by simpa using h2),?_⟩;intro ρe we re;exact⟨_,rfl,re.cQ,rfl⟩
theorem iM.len(h:iM w S cs q):cs.length=4:=by obtain⟨_,_,_,_,_,_,_,_,rfl,_⟩:=h;rfl
def Fc(w:World)(S:Nat->Prop)(css:List (List Value))(qs:List Rat):Prop:=css.length=qs.length∧∀(j:Nat) cs q,css[j]? =some cs->qs[j]? =some q->iM w S cs q
section
variable{S S':Nat->Prop}{w w2:World}{cs:List Value}{css:List (List Value)}{q:Rat}{qs:List Rat}
theorem Fc.cI(h:Fc w S css qs)(hk:∀g,S g->w2.heap[g]? =w.heap[g]?):Fc w2 S css qs:=⟨h.1,fun j cs q h1 h2=>(h.2 j cs q h1 h2).cI hk⟩
theorem Fc.cJ(h:Fc w S css qs)(hk:∀g,S g->S' g):Fc w S' css qs:=⟨h.1,fun j cs q h1 h2=>(h.2 j cs q h1 h2).cJ hk⟩
theorem Fc.tv(h:Fc w S css qs):∀cs∈css,cs.length=4:=fun cs hc=>by
 obtain⟨j,hj⟩:=aU hc;have hl:=(aD.1 hj).1;exact(h.2 j cs _ hj (aB (by rw[<-h.1];exact hl))).len
theorem Fc.one(h:Fc w S css qs):∀u∈css.flatten,u.oneCell'=true:=fun u hu=>by
 obtain⟨cs,hc,hu⟩:=List.mem_flatten.1 hu;obtain⟨j,hj⟩:=aU hc;have hl:=(aD.1 hj).1;obtain⟨_,_,_,_,_,_,_,_,rfl,_⟩:=h.2 j cs _ hj (aB (by rw[<-h.1];exact hl));simp at hu;rcases hu with rfl|rfl|rfl|rfl<;>rfl
theorem Fc.set(h:Fc w S css qs)(hq:iM w S cs q):Fc w S (css.set j cs) (qs.set j q):=by
 refine⟨by simp[h.1],fun i c p h1 h2=>?_⟩;by_cases Pb:j=i
 ·subst Pb;have hl:=(aD.1 h1).1;rw[aW (by simpa using hl)]at h1;rw[aW (by have:=h.1;simp at hl;omega)]at h2;injection h1 with h1;injection h2 with h2;subst h1 h2;exact hq
 ·rw[aX Pb]at h1 h2;exact h.2 i c p h1 h2
end
def gM(w:World)(C S:Nat->Prop)(v:Value)(qs:List Rat):Prop:=∃css,iB w C 4 v css.flatten qs.length∧Fc w S css qs
section
variable{C C' S S':Nat->Prop}{H:Hp}{nx:Nat}{iv iv':Iv}{B:Nat}{w w' w2:World}{O:Nat->Sx.dg}{v:Value}{qs:List Rat}
theorem gM.cI(h:gM w C S v qs)(hk:∀g,C g∨S g->w2.heap[g]? =w.heap[g]?):gM w2 C S v qs:=by
 obtain⟨css,h1,h2⟩:=h;exact⟨css,h1.cI fun g hg=>hk g (.inl hg),h2.cI fun g hg=>hk g (.inr hg)⟩
theorem gM.cJ(h:gM w C S v qs)(hk:∀g,C g->C' g)(VA:∀g,S g->S' g):gM w C' S' v qs:=by
 obtain⟨css,h1,h2⟩:=h;exact⟨css,h1.cJ hk,h2.cJ VA⟩
end
def iO(w:World)(S:Nat->Prop)(v:Value)(n:Nat)(qs:List Rat):Prop:=∃css,w.ownsRow 0 T.Rat 4 v n css.flatten∧css.length=n∧Fc w S css qs
section
variable{S S' C:Nat->Prop}{H:Hp}{nx n:Nat}{iv iv':Iv}{B:Nat}{w w' w2:World}{O:Nat->Sx.dg}{v:Value}{qs:List Rat}
theorem iO.cI(h:iO w S v n qs)(hk:∀g,S g∨v.ownBlock=some g->w2.heap[g]? =w.heap[g]?):iO w2 S v n qs:=by
 obtain⟨css,h1,h2,h3⟩:=h;exact⟨css,ownsRow.cI h1 fun g hg=>hk g (.inr hg),h2,h3.cI fun g hg=>hk g (.inl hg)⟩
theorem iO.cJ(h:iO w S v n qs)(hk:∀g,S g->S' g):iO w S' v n qs:=by
 obtain⟨css,h1,h2,h3⟩:=h;exact⟨css,h1,h2,h3.cJ hk⟩
theorem iO.len(h:iO w S v n qs):qs.length=n:=by
 obtain⟨css,h1,h2,h3⟩:=h;rw[<-h3.1,h2]
theorem iO.form(h:iO w S v n qs):∃a c,v= .slice a n c∧n<=c:=by
 obtain⟨css,h1,h2,h3⟩:=h;exact jc h1
theorem iO.le(h:iO w S v n qs):n<=maxLen:=by
 obtain⟨css,h1,h2,h3⟩:=h;rcases h1.2 with⟨_,h0⟩|⟨_,_,_,_,_,_,h1,h2,_⟩
 ·omega
 ·omega
theorem iO.read(h:iO w S v n qs):gM w (fun g=>v.ownBlock=some g) S v qs:=by
 have hl:=h.len;have hn:=h.le;obtain⟨css,h1,h2,h3⟩:=h;refine⟨css,?_,h3⟩;rw[hl];rcases h1.2 with⟨rfl,rfl⟩|⟨g,cap,cur,rfl,hb,hc,hmc,Q5,Oq,Rl⟩
 ·refine⟨hn,h1.1,h3.one,none,0,rfl,aF _,fun j u hu=>?_⟩;have:=h1.1;rw[Nat.zero_mul]at this;rw[List.eq_nil_of_length_eq_zero this]at hu
  cases hu
 ·refine⟨hn,h1.1,h3.one,_,cap,rfl,hmc,fun j u hu=>⟨_,rfl,rfl,?_⟩⟩;exact h1.cells (g:=g) rfl j u hu
theorem iO.store{c n1 c1 n2 c2:Nat}{b b2:Bool}(h:iO w S (.slice a n c) n qs)(hj:j<n)(hf:cS w S (.agg #[.bool b,.slice a1 n1 c1,.bool b2,.slice a2 n2 c2]) q)(hoff:∀g,(Value.slice a n c).ownBlock=some g->¬S g)(hS:Old S w):
  ∃g,a=some ⟨g,0,none⟩∧((⟨g,0,none⟩:Addr).add ((j:Int).toNat*4)).spot=none∧((⟨g,0,none⟩:Addr).add ((j:Int).toNat*4)).block=g∧
   (∀k,k<4->(w.cell? (((⟨g,0,none⟩:Addr).add ((j:Int).toNat*4)).add k)).isSome=true∧w.frozen? (((⟨g,0,none⟩:Addr).add ((j:Int).toNat*4)).add k)=false)∧
   ∀w2,w2=setCells w ((⟨g,0,none⟩:Addr).add ((j:Int).toNat*4)) [.bool b,.slice a1 n1 c1,.bool b2,.slice a2 n2 c2]->iO w2 S (.slice a n c) n (qs.set j q)∧w.grownBy w2 (some g)∧w2.heap.size=w.heap.size:=by
 obtain⟨css,h1,h2,h3⟩:=h;obtain⟨g,rfl,OJ,QV,PX,Oq⟩:=ow (nv:=[.bool b,.slice a1 n1 c1,.bool b2,.slice a2 n2 c2]) h1 rfl hj rfl (by decide);have Od:(⟨g,0,none⟩:Addr).add ((j:Int).toNat*4)=⟨g,j*4,none⟩:=by rw[aE,dQ,aQ]
 refine⟨g,rfl,by rw[Od],by rw[Od],fun k hk=>by rw[Od];exact OJ k hk,fun w2 Ow=>?_⟩;rw[Od]at Ow;subst Ow;have UL:=jH (cs:=[.bool b,.slice a1 n1 c1,.bool b2,.slice a2 n2 c2]) h3.tv (show j<css.length by omega);rw[UL]at QV;have OW:∀x,S x->(setCells w ⟨g,j*4,none⟩ [.bool b,.slice a1 n1 c1,.bool b2,.slice a2 n2 c2]).heap[x]? =w.heap[x]? :=fun x hx=>
  PX.block x (hS x hx) fun e=>hoff g rfl (by injection e with e;rw[<-e];exact hx)
 exact⟨⟨_,QV,by simpa using h2,(h3.cI OW).set (hf.cI OW).rD⟩,PX,Oq⟩
structure da(w:World)(S:Nat->Prop)(B:Nat)(iv:Iv)(v:Value)(n:Nat)(qs:List Rat):Prop where
 row:iO w (fun g=>Cv S B iv g∧v.ownBlock≠some g) v n qs
 new:∀g,v.ownBlock=some g->Cv FF B iv g
theorem da.cI(h:da w S B iv v n qs)(hk:∀g,Cv S B iv g->w2.heap[g]? =w.heap[g]?):da w2 S B iv v n qs:=
 ⟨h.row.cI fun g hg=>hk g (hg.elim (fun h=>h.1) fun hg=>(h.new g hg).elim (fun h=>h.elim) .inr),h.new⟩
theorem da.rel(h:da w S B iv v n qs)(r:Rel H nx iv B w O w')(hS:∀g,S g->g<B):da w' S B iv v n qs:=h.cI fun _ hg=>Rel.same r hS hg
theorem da.cG(h:da w S B iv v n qs)(r:Rel H nx iv B w O w')(hS:∀g,S g->g<B)(he:Ext w' w2)(hm:∀p,p∈iv->p∈iv'):da w2 S B iv' v n qs:=
 have h2:=(h.rel r hS).cI fun g hg=>he.block g (Rel.old r hS g hg)
 ⟨h2.row.cJ fun _ hg=>⟨hg.1.mono hm,hg.2⟩,fun g hg=>(h2.new g hg).mono hm⟩
theorem da.dE(h:da w2 FF w'.heap.size [(w'.heap.size,w2.heap.size)] v n qs)(hB:B<=w'.heap.size)(hm:(w'.heap.size,w2.heap.size)∈iv):da w2 S B iv v n qs:=by
 have key:∀g {X:Nat->Prop},Cv FF w'.heap.size [(w'.heap.size,w2.heap.size)] g->Cv X B iv g:=fun g X hg=>by
  rcases hg with hg|⟨h1,lo,hi,h2,h3,h4⟩
  ·exact hg.elim
  ·simp at h2;obtain⟨rfl,rfl⟩:=h2;exact .inr ⟨by omega,_,_,hm,h3,h4⟩
 exact⟨h.row.cJ fun g hg=>⟨key g hg.1,hg.2⟩,fun g hg=>key g (h.new g hg)⟩
theorem da.out{w0 w1:World}(h:da w1 FF w0.heap.size iv v n qs)(r:Rel H nx iv w0.heap.size w1 O w'):da w' FF w0.heap.size [(w0.heap.size,w'.heap.size)] v n qs:=by
 have h2:=h.rel r (cC w0);have key:∀g,Cf w0 iv g->Cf w0 [(w0.heap.size,w'.heap.size)] g:=fun g hg=>by
  rcases hg with hg|⟨h1,lo,hi,h2,h3,h4⟩
  ·exact hg.elim
  ·exact .inr ⟨h1,_,_,aw.2 rfl,h1,by have:=r.oe lo hi h2;have:=r.size;omega⟩
 exact⟨h2.row.cJ fun g hg=>⟨key g hg.1,hg.2⟩,fun g hg=>key g (h2.new g hg)⟩
theorem da.read(h:da w S B iv v n qs):gM w (Cv S B iv) (Cv S B iv) v qs:=
 h.row.read.cJ (fun g hg=>(h.new g hg).elim (fun h=>h.elim) .inr) fun _ hg=>hg.1
end
section
variable{S S':Nat->Prop}{H:Hp}{nx n:Nat}{iv iv':Iv}{B:Nat}{w w' w2:World}{O:Nat->Sx.dg}{v:Value}{qs:List Rat}
theorem da.store{c n1 c1 n2 c2:Nat}{b b2:Bool}(h:da w' S B iv (.slice a n c) n qs)(hj:j<n)(hf:cS w' (fun g=>Cv S B iv g∧(Value.slice a n c).ownBlock≠some g) (.agg #[.bool b,.slice a1 n1 c1,.bool b2,.slice a2 n2 c2]) q)
  (r:Rel H nx iv B w O w') (hS:∀g,S g->g<B):
  ∃g,a=some ⟨g,0,none⟩∧((⟨g,0,none⟩:Addr).add ((j:Int).toNat*4)).spot=none∧
   (∀k,k<4->(w'.cell? (((⟨g,0,none⟩:Addr).add ((j:Int).toNat*4)).add k)).isSome=true∧w'.frozen? (((⟨g,0,none⟩:Addr).add ((j:Int).toNat*4)).add k)=false)∧
   (∀id b,dB H id=some b->(O id).nil=false->(O id).g≠((⟨g,0,none⟩:Addr).add ((j:Int).toNat*4)).block)∧Cv FF B iv g∧
   ∀w2,w2=setCells w' ((⟨g,0,none⟩:Addr).add ((j:Int).toNat*4)) [.bool b,.slice a1 n1 c1,.bool b2,.slice a2 n2 c2]->da w2 S B iv (.slice a n c) n (qs.set j q)∧w'.grownBy w2 (some g)∧w2.heap.size=w'.heap.size:=by
 obtain⟨g,rfl,h1,h2,h3,h4⟩:=h.row.store hj hf (fun g hg hx=>hx.2 hg) (fun x hx=>Rel.old r hS x hx.1);refine⟨g,rfl,h1,h3,fun id b hb hn=>by rw[h2];exact Rel.not r hS (Aj (h.new g rfl)) id b hb hn,h.new g rfl,fun w2 Ow=>?_⟩;obtain⟨k1,k2,k3⟩:=h4 w2 Ow;exact⟨⟨k1,h.new⟩,k2,k3⟩
end
end Go.Ex
namespace Go.Sx
open Go Go.Ex Go.Proofs
variable{cs:List Value}{O:Nat->Sx.dg}
theorem Sub.jw{B:Nat}{l tl:Env}{nx:Nat}{H tH:Hp}{iv:Iv}{w w':World}{id t n c:Nat}{e:TypeId}(r:Rel H nx iv B w O w')(Oj:dB H id=some (.arr e cs))(ht:fL l t=some (.o (.s id 0 n c)))
  (hs:uR H tH) (ho:DQ id tH=true) (h1:D3 l tl) (h2:jN nx tl):
  Sub B l nx O w' ⟨(t,.o (.v (.slice (some ⟨(O id).g,0,none⟩) n c)))::tl,tH,nx,((O id).g,(O id).g+1)::iv,w'⟩:=by
 refine⟨O,r.free Oj (by simp) (r.fits Oj).1 hs ho,fun u v hv=>?_⟩;rw[eS]at hv;split at hv
 ·rename_i e;subst e;injection hv with hv;subst hv;exact⟨trivial,_,ht,rfl⟩
 ·exact⟨h2.get u v hv,v,h1.get u v hv,rfl⟩
end Go.Sx
namespace Go.Ex
open Go Go.Sx Go.Proofs
end Go.Ex
