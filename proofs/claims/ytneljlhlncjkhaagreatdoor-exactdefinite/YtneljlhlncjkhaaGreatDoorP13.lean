/- A part of the proof: texts X62 to X77. Each tells its conditions in its theorems. -/
import Derived.Test.YtneljlhlncjkhaaGreatDoorP11
import Derived.Test.YtneljlhlncjkhaaGreatDoorP12
/- The reference's integers and fractions: Common, Over. Printed by program. No condition but sizes. -/
namespace Go.Ex
open Go Go.Sx Go.Proofs

theorem rDivNon_c{S:Nat→Prop}{w:World}{v u:Value}{k l:Nat}{x y:Int}(hS:Old S w)(hx:IntL w S v k x)(hy:IntL w S u l y)(hk:k≤1000000)(hl:l≤1000000)(h0:y≠0):
  Con PG N.ref01_Divide #[v,u] w (Ret w fun v' w2=>∃q r,v'= .tuple #[q,r,.int .i64 0]∧IntC w2 (Nw (fun _=>False) w w2) q (x / y)∧IntC w2 (Nw (fun _=>False) w w2) r (x % y)):=
 (rDivide_c hS hx hy hk hl).mono fun _ _ ⟨v2,e1,e2,e3⟩=>⟨v2,e1,e2,e3.elim (fun h=>absurd h.1 h0) fun h=>h.2⟩
theorem ln_gcd(x:Nat){y:Nat}(h:y≠0):ln (Nat.gcd x y)≤ln y:=ln_mono (Nat.le_of_dvd (by omega) (Nat.gcd_dvd_right x y))
theorem low_ratio2{a b:Int}(hb:b≠0):a / (b.sign*(Nat.gcd a.natAbs b.natAbs:Nat))=(Rat.divInt a b).num∧b / (b.sign*(Nat.gcd a.natAbs b.natAbs:Nat))=((Rat.divInt a b).den:Int):=by
 obtain⟨h1,h2⟩:=low_ratio (a:=a) hb
 have d1:((Nat.gcd a.natAbs b.natAbs:Nat):Int) ∣ a:=Int.ofNat_dvd_left.2 (Nat.gcd_dvd_left _ _)
 have d2:((Nat.gcd a.natAbs b.natAbs:Nat):Int) ∣ b:=Int.ofNat_dvd_left.2 (Nat.gcd_dvd_right _ _)
 have sg:b.sign=1∨b.sign= -1:=by rcases sign_cases b with h|h|h<;>omega
 have key:∀c:Int,((Nat.gcd a.natAbs b.natAbs:Nat):Int) ∣ c→b.sign*(Nat.gcd a.natAbs b.natAbs:Nat) ∣ c:=fun c hc=>by
  rcases sg with h|h<;>rw[h]
  ·rw[Int.one_mul];exact hc
  ·rw[Int.neg_one_mul];exact Int.neg_dvd.2 hc
 rw[←h1,←h2,Int.tdiv_eq_ediv_of_dvd (key a d1),Int.tdiv_eq_ediv_of_dvd (key b d2)]
 exact⟨rfl,rfl⟩
theorem rCommon_c{S:Nat→Prop}{w:World}{v u:Value}{k l:Nat}{x y:Int}(hS:Old S w)(hx:IntL w S v k x)(hy:IntL w S u l y)(hk:k≤1000000)(hl:l≤1000000):
  Con PG N.ref01_Common #[v,u] w (Ret w fun v' w2=>IntC w2 (Nw (fun _=>False) w w2) v' ((Nat.gcd x.natAbs y.natAbs:Nat):Int)):=by
 have hw:Bel w.heap.size w w:=Bel.refl
 replace hx:=hx.weak (S':=Cv S w.heap.size []) fun _ h=>.inl h
 replace hy:=hy.weak (S':=Cv S w.heap.size []) fun _ h=>.inl h
 obtain⟨b1,a1,n1,c1,rfl⟩:=hx.shape
 obtain⟨b2,a2,n2,c2,rfl⟩:=hy.shape
 refine in_ref01_Common (by simp) ?_
 conv=>whnf
 have hlx:=hx.ln
 have hly:=hy.ln
 refine drawn_of_pi hτ hmix [.x 0,.x 2,.x 1,.x 3,.x 4,.x 5] (by kernel_rfl) (by kernel_rfl) ?_
 conv=>whnf
 refine callE_con (Φ:=fun _ w' v w2=>IntC w2 (Nw (fun _=>False) w' w2) v ((x.natAbs:Int))) (fun ρ w' r=>rSize_c (Rel.old r hS) (hx.rel r hS) (by omega)) ?_
 rintro ρ wa1 v1 wb1 r he hb hn
 replace hw:=hw.tr hb
 clear hx
 replace hy:=hy.past (iv':=(wa1.heap.size,wb1.heap.size)::[]) r hS he fun x hx=>List.mem_cons_of_mem _ hx
 have ha:=hn.got (S:=fun _=>False) r.baseLe (iv:=(wa1.heap.size,wb1.heap.size)::[]) List.mem_cons_self
 clear r he hb hn
 generalize (wa1.heap.size,wb1.heap.size)::[]=iv1 at*
 obtain⟨s1_0,s1_1,s1_2,s1_3,rfl⟩:=ha.shape
 conv=>whnf
 refine callE_con (Φ:=fun _ w' v w2=>IntC w2 (Nw (fun _=>False) w' w2) v ((y.natAbs:Int))) (fun ρ w' r=>rSize_c (Rel.old r hS) (hy.rel r hS) (by omega)) ?_
 rintro ρ wa2 v2 wb2 r he hb hn
 replace hw:=hw.tr hb
 clear hy
 replace ha:=ha.past (iv':=(wa2.heap.size,wb2.heap.size)::iv1) r (oldF w) he fun x hx=>List.mem_cons_of_mem _ hx
 have hc:=hn.got (S:=fun _=>False) r.baseLe (iv:=(wa2.heap.size,wb2.heap.size)::iv1) List.mem_cons_self
 clear r he hb hn
 generalize (wa2.heap.size,wb2.heap.size)::iv1=iv2 at*
 obtain⟨s2_0,s2_1,s2_2,s2_3,rfl⟩:=hc.shape
 conv=>whnf
 refine⟨Nat×Nat×(Bool×Option Addr×Nat×Nat)×(Bool×Option Addr×Nat×Nat)×World×Iv,fun z=>⟨[(2,.o (.p 0 0)),(3,.o (.p 1 0)),(4,.o (.p 2 0))],[(2,.box T.Int [.v (.bool false),.v (.slice none 0 0)]),(1,.box T.Int [.v (.bool z.2.2.2.1.1),.v (.slice z.2.2.2.1.2.1 z.2.2.2.1.2.2.1 z.2.2.2.1.2.2.2)]),(0,.box T.Int [.v (.bool z.2.2.1.1),.v (.slice z.2.2.1.2.1 z.2.2.1.2.2.1 z.2.2.1.2.2.2)])],3,z.2.2.2.2.2,z.2.2.2.2.1⟩,fun z=>z.2.1,
  fun z=>Nat.gcd z.1 z.2.1=Nat.gcd x.natAbs y.natAbs∧ln z.1≤1000000∧ln z.2.1≤1000000∧Bel w.heap.size w z.2.2.2.2.1∧IntC z.2.2.2.2.1 (Cv (fun _=>False) w.heap.size z.2.2.2.2.2) (.agg #[.bool z.2.2.1.1,.slice z.2.2.1.2.1 z.2.2.1.2.2.1 z.2.2.1.2.2.2]) (z.1:Int)∧IntC z.2.2.2.2.1 (Cv (fun _=>False) w.heap.size z.2.2.2.2.2) (.agg #[.bool z.2.2.2.1.1,.slice z.2.2.2.1.2.1 z.2.2.2.1.2.2.1 z.2.2.2.1.2.2.2]) (z.2.1:Int),?_,?_⟩
 ·intro ρ w' r
  exact⟨(x.natAbs,y.natAbs,(s1_0,s1_1,s1_2,s1_3),(s2_0,s2_1,s2_2,s2_3),w',iv2),⟨rfl,by dsimp only;omega,by dsimp only;omega,hw.tr r.bel,ha.rel r (oldF w),hc.rel r (oldF w)⟩,
   Sub.gen [] r ⟨rfl,rfl,rfl,trivial⟩ ⟨rfl,rfl,rfl,trivial⟩ (by simp[ScH,Blk.scopd,At.sc]) (by simp[ScE,SV.sc,At.sc]) (by rfl) (fun lo hi h=>h)⟩
 clear hw ha hc
 rintro⟨a,b,⟨ba,aa,na,ca⟩,⟨bb,ab,nb,cb⟩,w1,iv⟩ ⟨hg,hla,hlb,hw,ha,hc⟩
 dsimp only at hg hla hlb hw ha hc ⊢
 conv=>whnf
 refine callE_S (callE_con (Φ:=fun _ w' v w2=>v= .int .i64 (b:Int).sign) (fun ρ w' r=>rSign_c (Rel.old r (oldF w)) (hc.rel r (oldF w)).r) ?_)
 rintro ρ wa3 v3 wb3 r he hb rfl
 replace hw:=hw.tr hb
 replace ha:=ha.past (iv':=(wa3.heap.size,wb3.heap.size)::iv) r (oldF w) he fun x hx=>List.mem_cons_of_mem _ hx
 replace hc:=hc.past (iv':=(wa3.heap.size,wb3.heap.size)::iv) r (oldF w) he fun x hx=>List.mem_cons_of_mem _ hx
 clear r he hb
 generalize (wa3.heap.size,wb3.heap.size)::iv=iv3 at*
 conv=>whnf
 have sb:=sign_cases (b:Int)
 refine BrS.mk (fun h=>?_) (fun h=>?_)
 ·have h:=of_decide_eq_true h
  have hb0:0<b:=by omega
  have hm:=Nat.mod_lt a hb0
  have hlm:ln (a % b)≤1000000:=Nat.le_trans (ln_mono (by omega)) hlb
  conv=>whnf
  refine callE_S (callE_con (Φ:=fun _ w' v w2=>∃q r,v= .tuple #[q,r,.int .i64 0]∧IntC w2 (Nw (fun _=>False) w' w2) q ((a:Int) / b)∧IntC w2 (Nw (fun _=>False) w' w2) r ((a:Int) % b)) (fun ρ w' r=>rDivNon_c (Rel.old r (oldF w)) ((ha.rel r (oldF w)).l (k:=1000000) hla) ((hc.rel r (oldF w)).l (k:=1000000) hlb) (by omega) (by omega) (by omega)) ?_)
  rintro ρ wa4 v4 wb4 r he hb ⟨q,rr,rfl,k1,k2⟩
  replace hw:=hw.tr hb
  clear ha
  replace hc:=hc.past (iv':=(wa4.heap.size,wb4.heap.size)::iv3) r (oldF w) he fun x hx=>List.mem_cons_of_mem _ hx
  have hq:=k1.got (S:=fun _=>False) r.baseLe (iv:=(wa4.heap.size,wb4.heap.size)::iv3) List.mem_cons_self
  have hr:=k2.got (S:=fun _=>False) r.baseLe (iv:=(wa4.heap.size,wb4.heap.size)::iv3) List.mem_cons_self
  clear r he hb
  generalize (wa4.heap.size,wb4.heap.size)::iv3=iv4 at*
  obtain⟨s4_0a,s4_0b,s4_0c,s4_0d,rfl⟩:=hq.shape
  obtain⟨s4_1a,s4_1b,s4_1c,s4_1d,rfl⟩:=hr.shape
  clear k1 k2 hq
  conv=>whnf
  refine drawn_of_tr hτ hmix (.two 0 (.two 1 (.one 2 (.one 3 .nil)) 2 (.one 1 (.one 3 .nil))) 1 (.one 0 (.one 2 (.one 3 .nil)))) (by kernel_rfl) ?_
  conv=>whnf
  refine⟨?_,?_⟩
  ·conv=>whnf
   refine⟨?_,?_⟩
   ·conv=>whnf
    intro ρ3 w3 r3
    exact⟨(b,a % b,(bb,ab,nb,cb),(s4_1a,s4_1b,s4_1c,s4_1d),w3,_),⟨by dsimp only;rw[←hg,Nat.gcd_comm a b,Nat.gcd_rec b a,Nat.gcd_comm],hlb,hlm,hw.tr r3.bel,hc.rel r3 (oldF w),hr.rel r3 (oldF w)⟩,Sub.gen [] r3 ⟨rfl,rfl,rfl,trivial⟩ ⟨rfl,rfl,rfl,trivial⟩ (by simp[ScH,Blk.scopd,At.sc]) (by simp[ScE,SV.sc,At.sc]) (by rfl) (fun lo hi h=>h),hm⟩
   ·conv=>whnf
    intro ρ3 w3 r3
    exact⟨(b,a % b,(bb,ab,nb,cb),(s4_1a,s4_1b,s4_1c,s4_1d),w3,_),⟨by dsimp only;rw[←hg,Nat.gcd_comm a b,Nat.gcd_rec b a,Nat.gcd_comm],hlb,hlm,hw.tr r3.bel,hc.rel r3 (oldF w),hr.rel r3 (oldF w)⟩,Sub.gen [] r3 ⟨rfl,rfl,rfl,trivial⟩ ⟨rfl,rfl,rfl,trivial⟩ (by simp[ScH,Blk.scopd,At.sc]) (by simp[ScE,SV.sc,At.sc]) (by rfl) (fun lo hi h=>h),hm⟩
  ·conv=>whnf
   intro ρ3 w3 r3
   exact⟨(b,a % b,(bb,ab,nb,cb),(s4_1a,s4_1b,s4_1c,s4_1d),w3,_),⟨by dsimp only;rw[←hg,Nat.gcd_comm a b,Nat.gcd_rec b a,Nat.gcd_comm],hlb,hlm,hw.tr r3.bel,hc.rel r3 (oldF w),hr.rel r3 (oldF w)⟩,Sub.gen [] r3 ⟨rfl,rfl,rfl,trivial⟩ ⟨rfl,rfl,rfl,trivial⟩ (by simp[ScH,Blk.scopd,At.sc]) (by simp[ScE,SV.sc,At.sc]) (by rfl) (fun lo hi h=>h),hm⟩
 have h:=of_decide_eq_false h
 obtain rfl:b=0:=by omega
 rw[Nat.gcd_zero_right]at hg
 subst hg
 clear hc
 conv=>whnf
 intro ρe we re
 exact⟨_,rfl,hw.tr re.bel,ha.out re (oldF w)⟩
theorem rOver_c{S:Nat→Prop}{w:World}{v u:Value}{k l:Nat}{x y:Int}(hS:Old S w)(hx:IntL w S v k x)(hy:IntL w S u l y)(hk:k≤1000000)(hl:l≤1000000)(hy0:y≠0):
  Con PG N.ref01_Over #[v,u] w (Ret w fun v' w2=>RatC w2 (Nw (fun _=>False) w w2) v' (Rat.divInt x y)):=by
 have hw:Bel w.heap.size w w:=Bel.refl
 replace hx:=hx.weak (S':=Cv S w.heap.size []) fun _ h=>.inl h
 replace hy:=hy.weak (S':=Cv S w.heap.size []) fun _ h=>.inl h
 obtain⟨b1,a1,n1,c1,rfl⟩:=hx.shape
 obtain⟨b2,a2,n2,c2,rfl⟩:=hy.shape
 refine in_ref01_Over (by simp) ?_
 conv=>whnf
 have hlx:=hx.ln
 have hly:=hy.ln
 have hlg:=ln_gcd x.natAbs (y:=y.natAbs) (by omega)
 obtain⟨hn,hd⟩:=low_ratio2 (a:=x) hy0
 have sy:=sign_cases y
 refine callE_S (callE_con (Φ:=fun _ w' v w2=>∃n p,v= .tuple #[.int .i64 n,.bool p]∧(p=true→n=x∧x.natAbs<1073741824)) (fun ρ w' r=>(rshort_c (Rel.old r hS) (hx.rel r hS).r).mono fun e w2 ⟨v2,e1,e2,e3⟩=>⟨v2,e1,e2,by
   rw[e3,shortV]
   split
   ·exact⟨_,_,rfl,fun _=>⟨rfl,‹_›⟩⟩
   ·exact⟨_,_,rfl,fun h=>by cases h⟩⟩) ?_)
 rintro ρ wa1 v1 wb1 r he hb ⟨nx,px,rfl,qx⟩
 replace hw:=hw.tr hb
 replace hx:=hx.past (iv':=(wa1.heap.size,wb1.heap.size)::[]) r hS he fun x hx=>List.mem_cons_of_mem _ hx
 replace hy:=hy.past (iv':=(wa1.heap.size,wb1.heap.size)::[]) r hS he fun x hx=>List.mem_cons_of_mem _ hx
 clear r he hb
 generalize (wa1.heap.size,wb1.heap.size)::[]=iv1 at*
 conv=>whnf
 refine callE_S (callE_con (Φ:=fun _ w' v w2=>∃n p,v= .tuple #[.int .i64 n,.bool p]∧(p=true→n=y∧y.natAbs<1073741824)) (fun ρ w' r=>(rshort_c (Rel.old r hS) (hy.rel r hS).r).mono fun e w2 ⟨v2,e1,e2,e3⟩=>⟨v2,e1,e2,by
   rw[e3,shortV]
   split
   ·exact⟨_,_,rfl,fun _=>⟨rfl,‹_›⟩⟩
   ·exact⟨_,_,rfl,fun h=>by cases h⟩⟩) ?_)
 rintro ρ wa2 v2 wb2 r he hb ⟨ny,py,rfl,qy⟩
 replace hw:=hw.tr hb
 replace hx:=hx.past (iv':=(wa2.heap.size,wb2.heap.size)::iv1) r hS he fun x hx=>List.mem_cons_of_mem _ hx
 replace hy:=hy.past (iv':=(wa2.heap.size,wb2.heap.size)::iv1) r hS he fun x hx=>List.mem_cons_of_mem _ hx
 clear r he hb
 generalize (wa2.heap.size,wb2.heap.size)::iv1=iv2 at*
 conv=>whnf
 refine BrS.mk (fun h1=>?_) (fun h1=>?_)
 ·obtain⟨e1,hxs⟩:=qx h1
  replace e1:=e1.symm
  subst e1
  conv=>whnf
  refine BrS.mk (fun h2=>?_) (fun h2=>?_)
  ·obtain⟨e2,hys⟩:=qy h2
   replace e2:=e2.symm
   subst e2
   clear hx hy
   conv=>whnf
   refine callE_S (callE_con (Φ:=fun _ w' v w2=>RatC w2 (Nw (fun _=>False) w' w2) v (Rat.divInt x y)) (fun ρ w' r=>rlowest_c x y w' (by omega) (by omega) hy0) ?_)
   rintro ρ wa3 v3 wb3 r he hb hn
   replace hw:=hw.tr hb
   have hR:=hn.got (S:=fun _=>False) r.baseLe (iv:=(wa3.heap.size,wb3.heap.size)::iv2) List.mem_cons_self
   clear r he hb hn
   generalize (wa3.heap.size,wb3.heap.size)::iv2=iv3 at*
   obtain⟨s3_0,s3_1,s3_2,s3_3,s3_4,s3_5,s3_6,s3_7,rfl⟩:=hR.shape
   conv=>whnf
   intro ρe we re
   exact⟨_,rfl,hw.tr re.bel,hR.out re (oldF w)⟩
  conv=>whnf
  refine callE_S (callE_con (Φ:=fun _ w' v w2=>IntC w2 (Nw (fun _=>False) w' w2) v (((Nat.gcd x.natAbs y.natAbs:Nat):Int))) (fun ρ w' r=>rCommon_c (Rel.old r hS) (hx.rel r hS) (hy.rel r hS) hk hl) ?_)
  rintro ρ wa3 v3 wb3 r he hb hn
  replace hw:=hw.tr hb
  replace hx:=hx.past (iv':=(wa3.heap.size,wb3.heap.size)::iv2) r hS he fun x hx=>List.mem_cons_of_mem _ hx
  replace hy:=hy.past (iv':=(wa3.heap.size,wb3.heap.size)::iv2) r hS he fun x hx=>List.mem_cons_of_mem _ hx
  have hg:=hn.got (S:=fun _=>False) r.baseLe (iv:=(wa3.heap.size,wb3.heap.size)::iv2) List.mem_cons_self
  clear r he hb hn
  generalize (wa3.heap.size,wb3.heap.size)::iv2=iv3 at*
  obtain⟨s3_0,s3_1,s3_2,s3_3,rfl⟩:=hg.shape
  conv=>whnf
  refine callE_S (callE_con (Φ:=fun _ w' v w2=>v= .int .i64 y.sign) (fun ρ w' r=>rSign_c (Rel.old r hS) (hy.rel r hS).r) ?_)
  rintro ρ wa4 v4 wb4 r he hb rfl
  replace hw:=hw.tr hb
  replace hx:=hx.past (iv':=(wa4.heap.size,wb4.heap.size)::iv3) r hS he fun x hx=>List.mem_cons_of_mem _ hx
  replace hy:=hy.past (iv':=(wa4.heap.size,wb4.heap.size)::iv3) r hS he fun x hx=>List.mem_cons_of_mem _ hx
  replace hg:=hg.past (iv':=(wa4.heap.size,wb4.heap.size)::iv3) r (oldF w) he fun x hx=>List.mem_cons_of_mem _ hx
  clear r he hb
  generalize (wa4.heap.size,wb4.heap.size)::iv3=iv4 at*
  conv=>whnf
  have hgp:0<Nat.gcd x.natAbs y.natAbs:=Nat.gcd_pos_of_pos_right _ (by omega)
  generalize Nat.gcd x.natAbs y.natAbs=g at*
  refine BrS.mk (fun hs=>?_) (fun hs=>?_)
  ·have hs:=of_decide_eq_true hs
   rw[show y.sign= -1 by omega,Int.neg_one_mul]at hn hd
   conv=>whnf
   refine callE_S (callE_con (Φ:=fun _ w' v w2=>IntC w2 (Nw (fun _=>False) w' w2) v (-(g:Int))) (fun ρ w' r=>rMinus_c (Rel.old r (oldF w)) ((hg.rel r (oldF w)).l (k:=1000000) (by rw[Int.natAbs_natCast];omega)) (by omega)) ?_)
   rintro ρ wa5 v5 wb5 r he hb hn
   replace hw:=hw.tr hb
   replace hx:=hx.past (iv':=(wa5.heap.size,wb5.heap.size)::iv4) r hS he fun x hx=>List.mem_cons_of_mem _ hx
   replace hy:=hy.past (iv':=(wa5.heap.size,wb5.heap.size)::iv4) r hS he fun x hx=>List.mem_cons_of_mem _ hx
   clear hg
   have hg2:=hn.got (S:=fun _=>False) r.baseLe (iv:=(wa5.heap.size,wb5.heap.size)::iv4) List.mem_cons_self
   clear r he hb hn
   generalize (wa5.heap.size,wb5.heap.size)::iv4=iv5 at*
   obtain⟨s5_0,s5_1,s5_2,s5_3,rfl⟩:=hg2.shape
   conv=>whnf
   refine callE_S (callE_con (Φ:=fun _ w' v w2=>∃q r,v= .tuple #[q,r,.int .i64 0]∧IntC w2 (Nw (fun _=>False) w' w2) q (Rat.divInt x y).num∧IntC w2 (Nw (fun _=>False) w' w2) r (x % (-(g:Int)))) (fun ρ w' r=>hn▸rDivNon_c (Rel.old r hS) (hx.rel r hS) ((((hg2.rel r (oldF w)).l (k:=1000000) (by rw[Int.natAbs_neg,Int.natAbs_natCast];omega))).weak fun g hg=>Cv.false hg) hk (by omega) (by omega)) ?_)
   rintro ρ wa6 v6 wb6 r he hb ⟨q,rr,rfl,k1,k2⟩
   replace hw:=hw.tr hb
   clear hx
   replace hy:=hy.past (iv':=(wa6.heap.size,wb6.heap.size)::iv5) r hS he fun x hx=>List.mem_cons_of_mem _ hx
   replace hg2:=hg2.past (iv':=(wa6.heap.size,wb6.heap.size)::iv5) r (oldF w) he fun x hx=>List.mem_cons_of_mem _ hx
   have hq:=k1.got (S:=fun _=>False) r.baseLe (iv:=(wa6.heap.size,wb6.heap.size)::iv5) List.mem_cons_self
   have hr:=k2.got (S:=fun _=>False) r.baseLe (iv:=(wa6.heap.size,wb6.heap.size)::iv5) List.mem_cons_self
   clear r he hb
   generalize (wa6.heap.size,wb6.heap.size)::iv5=iv6 at*
   obtain⟨s6_0a,s6_0b,s6_0c,s6_0d,rfl⟩:=hq.shape
   obtain⟨s6_1a,s6_1b,s6_1c,s6_1d,rfl⟩:=hr.shape
   clear k1 k2 hr
   conv=>whnf
   refine callE_S (callE_con (Φ:=fun _ w' v w2=>∃q r,v= .tuple #[q,r,.int .i64 0]∧IntC w2 (Nw (fun _=>False) w' w2) q ((Rat.divInt x y).den:Int)∧IntC w2 (Nw (fun _=>False) w' w2) r (y % (-(g:Int)))) (fun ρ w' r=>hd▸rDivNon_c (Rel.old r hS) (hy.rel r hS) ((((hg2.rel r (oldF w)).l (k:=1000000) (by rw[Int.natAbs_neg,Int.natAbs_natCast];omega))).weak fun g hg=>Cv.false hg) hl (by omega) (by omega)) ?_)
   rintro ρ wa7 v7 wb7 r he hb ⟨q,rr,rfl,k1,k2⟩
   replace hw:=hw.tr hb
   clear hy
   clear hg2
   replace hq:=hq.past (iv':=(wa7.heap.size,wb7.heap.size)::iv6) r (oldF w) he fun x hx=>List.mem_cons_of_mem _ hx
   have hq2:=k1.got (S:=fun _=>False) r.baseLe (iv:=(wa7.heap.size,wb7.heap.size)::iv6) List.mem_cons_self
   have hr:=k2.got (S:=fun _=>False) r.baseLe (iv:=(wa7.heap.size,wb7.heap.size)::iv6) List.mem_cons_self
   clear r he hb
   generalize (wa7.heap.size,wb7.heap.size)::iv6=iv7 at*
   obtain⟨s7_0a,s7_0b,s7_0c,s7_0d,rfl⟩:=hq2.shape
   obtain⟨s7_1a,s7_1b,s7_1c,s7_1d,rfl⟩:=hr.shape
   clear k1 k2 hr
   conv=>whnf
   intro ρe we re
   exact⟨_,rfl,hw.tr re.bel,(RatC.of hq hq2).out re (oldF w)⟩
  have hs:=of_decide_eq_false hs
  rw[show y.sign=1 by omega,Int.one_mul]at hn hd
  conv=>whnf
  refine callE_S (callE_con (Φ:=fun _ w' v w2=>∃q r,v= .tuple #[q,r,.int .i64 0]∧IntC w2 (Nw (fun _=>False) w' w2) q (Rat.divInt x y).num∧IntC w2 (Nw (fun _=>False) w' w2) r (x % ((g:Int)))) (fun ρ w' r=>hn▸rDivNon_c (Rel.old r hS) (hx.rel r hS) ((((hg.rel r (oldF w)).l (k:=1000000) (by rw[Int.natAbs_natCast];omega))).weak fun g hg=>Cv.false hg) hk (by omega) (by omega)) ?_)
  rintro ρ wa5 v5 wb5 r he hb ⟨q,rr,rfl,k1,k2⟩
  replace hw:=hw.tr hb
  clear hx
  replace hy:=hy.past (iv':=(wa5.heap.size,wb5.heap.size)::iv4) r hS he fun x hx=>List.mem_cons_of_mem _ hx
  replace hg:=hg.past (iv':=(wa5.heap.size,wb5.heap.size)::iv4) r (oldF w) he fun x hx=>List.mem_cons_of_mem _ hx
  have hq:=k1.got (S:=fun _=>False) r.baseLe (iv:=(wa5.heap.size,wb5.heap.size)::iv4) List.mem_cons_self
  have hr:=k2.got (S:=fun _=>False) r.baseLe (iv:=(wa5.heap.size,wb5.heap.size)::iv4) List.mem_cons_self
  clear r he hb
  generalize (wa5.heap.size,wb5.heap.size)::iv4=iv5 at*
  obtain⟨s5_0a,s5_0b,s5_0c,s5_0d,rfl⟩:=hq.shape
  obtain⟨s5_1a,s5_1b,s5_1c,s5_1d,rfl⟩:=hr.shape
  clear k1 k2 hr
  conv=>whnf
  refine callE_S (callE_con (Φ:=fun _ w' v w2=>∃q r,v= .tuple #[q,r,.int .i64 0]∧IntC w2 (Nw (fun _=>False) w' w2) q ((Rat.divInt x y).den:Int)∧IntC w2 (Nw (fun _=>False) w' w2) r (y % ((g:Int)))) (fun ρ w' r=>hd▸rDivNon_c (Rel.old r hS) (hy.rel r hS) ((((hg.rel r (oldF w)).l (k:=1000000) (by rw[Int.natAbs_natCast];omega))).weak fun g hg=>Cv.false hg) hl (by omega) (by omega)) ?_)
  rintro ρ wa6 v6 wb6 r he hb ⟨q,rr,rfl,k1,k2⟩
  replace hw:=hw.tr hb
  clear hy
  clear hg
  replace hq:=hq.past (iv':=(wa6.heap.size,wb6.heap.size)::iv5) r (oldF w) he fun x hx=>List.mem_cons_of_mem _ hx
  have hq2:=k1.got (S:=fun _=>False) r.baseLe (iv:=(wa6.heap.size,wb6.heap.size)::iv5) List.mem_cons_self
  have hr:=k2.got (S:=fun _=>False) r.baseLe (iv:=(wa6.heap.size,wb6.heap.size)::iv5) List.mem_cons_self
  clear r he hb
  generalize (wa6.heap.size,wb6.heap.size)::iv5=iv6 at*
  obtain⟨s6_0a,s6_0b,s6_0c,s6_0d,rfl⟩:=hq2.shape
  obtain⟨s6_1a,s6_1b,s6_1c,s6_1d,rfl⟩:=hr.shape
  clear k1 k2 hr
  conv=>whnf
  intro ρe we re
  exact⟨_,rfl,hw.tr re.bel,(RatC.of hq hq2).out re (oldF w)⟩
 conv=>whnf
 refine callE_S (callE_con (Φ:=fun _ w' v w2=>IntC w2 (Nw (fun _=>False) w' w2) v (((Nat.gcd x.natAbs y.natAbs:Nat):Int))) (fun ρ w' r=>rCommon_c (Rel.old r hS) (hx.rel r hS) (hy.rel r hS) hk hl) ?_)
 rintro ρ wa3 v3 wb3 r he hb hn
 replace hw:=hw.tr hb
 replace hx:=hx.past (iv':=(wa3.heap.size,wb3.heap.size)::iv2) r hS he fun x hx=>List.mem_cons_of_mem _ hx
 replace hy:=hy.past (iv':=(wa3.heap.size,wb3.heap.size)::iv2) r hS he fun x hx=>List.mem_cons_of_mem _ hx
 have hg:=hn.got (S:=fun _=>False) r.baseLe (iv:=(wa3.heap.size,wb3.heap.size)::iv2) List.mem_cons_self
 clear r he hb hn
 generalize (wa3.heap.size,wb3.heap.size)::iv2=iv3 at*
 obtain⟨s3_0,s3_1,s3_2,s3_3,rfl⟩:=hg.shape
 conv=>whnf
 refine callE_S (callE_con (Φ:=fun _ w' v w2=>v= .int .i64 y.sign) (fun ρ w' r=>rSign_c (Rel.old r hS) (hy.rel r hS).r) ?_)
 rintro ρ wa4 v4 wb4 r he hb rfl
 replace hw:=hw.tr hb
 replace hx:=hx.past (iv':=(wa4.heap.size,wb4.heap.size)::iv3) r hS he fun x hx=>List.mem_cons_of_mem _ hx
 replace hy:=hy.past (iv':=(wa4.heap.size,wb4.heap.size)::iv3) r hS he fun x hx=>List.mem_cons_of_mem _ hx
 replace hg:=hg.past (iv':=(wa4.heap.size,wb4.heap.size)::iv3) r (oldF w) he fun x hx=>List.mem_cons_of_mem _ hx
 clear r he hb
 generalize (wa4.heap.size,wb4.heap.size)::iv3=iv4 at*
 conv=>whnf
 have hgp:0<Nat.gcd x.natAbs y.natAbs:=Nat.gcd_pos_of_pos_right _ (by omega)
 generalize Nat.gcd x.natAbs y.natAbs=g at*
 refine BrS.mk (fun hs=>?_) (fun hs=>?_)
 ·have hs:=of_decide_eq_true hs
  rw[show y.sign= -1 by omega,Int.neg_one_mul]at hn hd
  conv=>whnf
  refine callE_S (callE_con (Φ:=fun _ w' v w2=>IntC w2 (Nw (fun _=>False) w' w2) v (-(g:Int))) (fun ρ w' r=>rMinus_c (Rel.old r (oldF w)) ((hg.rel r (oldF w)).l (k:=1000000) (by rw[Int.natAbs_natCast];omega)) (by omega)) ?_)
  rintro ρ wa5 v5 wb5 r he hb hn
  replace hw:=hw.tr hb
  replace hx:=hx.past (iv':=(wa5.heap.size,wb5.heap.size)::iv4) r hS he fun x hx=>List.mem_cons_of_mem _ hx
  replace hy:=hy.past (iv':=(wa5.heap.size,wb5.heap.size)::iv4) r hS he fun x hx=>List.mem_cons_of_mem _ hx
  clear hg
  have hg2:=hn.got (S:=fun _=>False) r.baseLe (iv:=(wa5.heap.size,wb5.heap.size)::iv4) List.mem_cons_self
  clear r he hb hn
  generalize (wa5.heap.size,wb5.heap.size)::iv4=iv5 at*
  obtain⟨s5_0,s5_1,s5_2,s5_3,rfl⟩:=hg2.shape
  conv=>whnf
  refine callE_S (callE_con (Φ:=fun _ w' v w2=>∃q r,v= .tuple #[q,r,.int .i64 0]∧IntC w2 (Nw (fun _=>False) w' w2) q (Rat.divInt x y).num∧IntC w2 (Nw (fun _=>False) w' w2) r (x % (-(g:Int)))) (fun ρ w' r=>hn▸rDivNon_c (Rel.old r hS) (hx.rel r hS) ((((hg2.rel r (oldF w)).l (k:=1000000) (by rw[Int.natAbs_neg,Int.natAbs_natCast];omega))).weak fun g hg=>Cv.false hg) hk (by omega) (by omega)) ?_)
  rintro ρ wa6 v6 wb6 r he hb ⟨q,rr,rfl,k1,k2⟩
  replace hw:=hw.tr hb
  clear hx
  replace hy:=hy.past (iv':=(wa6.heap.size,wb6.heap.size)::iv5) r hS he fun x hx=>List.mem_cons_of_mem _ hx
  replace hg2:=hg2.past (iv':=(wa6.heap.size,wb6.heap.size)::iv5) r (oldF w) he fun x hx=>List.mem_cons_of_mem _ hx
  have hq:=k1.got (S:=fun _=>False) r.baseLe (iv:=(wa6.heap.size,wb6.heap.size)::iv5) List.mem_cons_self
  have hr:=k2.got (S:=fun _=>False) r.baseLe (iv:=(wa6.heap.size,wb6.heap.size)::iv5) List.mem_cons_self
  clear r he hb
  generalize (wa6.heap.size,wb6.heap.size)::iv5=iv6 at*
  obtain⟨s6_0a,s6_0b,s6_0c,s6_0d,rfl⟩:=hq.shape
  obtain⟨s6_1a,s6_1b,s6_1c,s6_1d,rfl⟩:=hr.shape
  clear k1 k2 hr
  conv=>whnf
  refine callE_S (callE_con (Φ:=fun _ w' v w2=>∃q r,v= .tuple #[q,r,.int .i64 0]∧IntC w2 (Nw (fun _=>False) w' w2) q ((Rat.divInt x y).den:Int)∧IntC w2 (Nw (fun _=>False) w' w2) r (y % (-(g:Int)))) (fun ρ w' r=>hd▸rDivNon_c (Rel.old r hS) (hy.rel r hS) ((((hg2.rel r (oldF w)).l (k:=1000000) (by rw[Int.natAbs_neg,Int.natAbs_natCast];omega))).weak fun g hg=>Cv.false hg) hl (by omega) (by omega)) ?_)
  rintro ρ wa7 v7 wb7 r he hb ⟨q,rr,rfl,k1,k2⟩
  replace hw:=hw.tr hb
  clear hy
  clear hg2
  replace hq:=hq.past (iv':=(wa7.heap.size,wb7.heap.size)::iv6) r (oldF w) he fun x hx=>List.mem_cons_of_mem _ hx
  have hq2:=k1.got (S:=fun _=>False) r.baseLe (iv:=(wa7.heap.size,wb7.heap.size)::iv6) List.mem_cons_self
  have hr:=k2.got (S:=fun _=>False) r.baseLe (iv:=(wa7.heap.size,wb7.heap.size)::iv6) List.mem_cons_self
  clear r he hb
  generalize (wa7.heap.size,wb7.heap.size)::iv6=iv7 at*
  obtain⟨s7_0a,s7_0b,s7_0c,s7_0d,rfl⟩:=hq2.shape
  obtain⟨s7_1a,s7_1b,s7_1c,s7_1d,rfl⟩:=hr.shape
  clear k1 k2 hr
  conv=>whnf
  intro ρe we re
  exact⟨_,rfl,hw.tr re.bel,(RatC.of hq hq2).out re (oldF w)⟩
 have hs:=of_decide_eq_false hs
 rw[show y.sign=1 by omega,Int.one_mul]at hn hd
 conv=>whnf
 refine callE_S (callE_con (Φ:=fun _ w' v w2=>∃q r,v= .tuple #[q,r,.int .i64 0]∧IntC w2 (Nw (fun _=>False) w' w2) q (Rat.divInt x y).num∧IntC w2 (Nw (fun _=>False) w' w2) r (x % ((g:Int)))) (fun ρ w' r=>hn▸rDivNon_c (Rel.old r hS) (hx.rel r hS) ((((hg.rel r (oldF w)).l (k:=1000000) (by rw[Int.natAbs_natCast];omega))).weak fun g hg=>Cv.false hg) hk (by omega) (by omega)) ?_)
 rintro ρ wa5 v5 wb5 r he hb ⟨q,rr,rfl,k1,k2⟩
 replace hw:=hw.tr hb
 clear hx
 replace hy:=hy.past (iv':=(wa5.heap.size,wb5.heap.size)::iv4) r hS he fun x hx=>List.mem_cons_of_mem _ hx
 replace hg:=hg.past (iv':=(wa5.heap.size,wb5.heap.size)::iv4) r (oldF w) he fun x hx=>List.mem_cons_of_mem _ hx
 have hq:=k1.got (S:=fun _=>False) r.baseLe (iv:=(wa5.heap.size,wb5.heap.size)::iv4) List.mem_cons_self
 have hr:=k2.got (S:=fun _=>False) r.baseLe (iv:=(wa5.heap.size,wb5.heap.size)::iv4) List.mem_cons_self
 clear r he hb
 generalize (wa5.heap.size,wb5.heap.size)::iv4=iv5 at*
 obtain⟨s5_0a,s5_0b,s5_0c,s5_0d,rfl⟩:=hq.shape
 obtain⟨s5_1a,s5_1b,s5_1c,s5_1d,rfl⟩:=hr.shape
 clear k1 k2 hr
 conv=>whnf
 refine callE_S (callE_con (Φ:=fun _ w' v w2=>∃q r,v= .tuple #[q,r,.int .i64 0]∧IntC w2 (Nw (fun _=>False) w' w2) q ((Rat.divInt x y).den:Int)∧IntC w2 (Nw (fun _=>False) w' w2) r (y % ((g:Int)))) (fun ρ w' r=>hd▸rDivNon_c (Rel.old r hS) (hy.rel r hS) ((((hg.rel r (oldF w)).l (k:=1000000) (by rw[Int.natAbs_natCast];omega))).weak fun g hg=>Cv.false hg) hl (by omega) (by omega)) ?_)
 rintro ρ wa6 v6 wb6 r he hb ⟨q,rr,rfl,k1,k2⟩
 replace hw:=hw.tr hb
 clear hy
 clear hg
 replace hq:=hq.past (iv':=(wa6.heap.size,wb6.heap.size)::iv5) r (oldF w) he fun x hx=>List.mem_cons_of_mem _ hx
 have hq2:=k1.got (S:=fun _=>False) r.baseLe (iv:=(wa6.heap.size,wb6.heap.size)::iv5) List.mem_cons_self
 have hr:=k2.got (S:=fun _=>False) r.baseLe (iv:=(wa6.heap.size,wb6.heap.size)::iv5) List.mem_cons_self
 clear r he hb
 generalize (wa6.heap.size,wb6.heap.size)::iv5=iv6 at*
 obtain⟨s6_0a,s6_0b,s6_0c,s6_0d,rfl⟩:=hq2.shape
 obtain⟨s6_1a,s6_1b,s6_1c,s6_1d,rfl⟩:=hr.shape
 clear k1 k2 hr
 conv=>whnf
 intro ρe we re
 exact⟨_,rfl,hw.tr re.bel,(RatC.of hq hq2).out re (oldF w)⟩
end Go.Ex

/- The reference's fractions: quick, Normal, Add, Neg, Sub, Mul, SignOf, Quo, Cmp, Floor, Whole, Ratio. Printed by program. No condition but sizes. -/
namespace Go.Ex
open Go Go.Sx Go.Proofs

/-- a fraction of the api by its value; its parts have few limbs -/
def RatL(w:World)(S:Nat→Prop)(v:Value)(q:Rat):Prop:=∃b1 l1 b2 l2 a b,v= .agg #[.bool b1,l1,.bool b2,l2]∧IntL w S (.agg #[.bool b1,l1]) 100000 a∧IntL w S (.agg #[.bool b2,l2]) 100000 b∧ratio a b=q
theorem RatL.keep{S:Nat→Prop}{w w2:World}{v:Value}{q:Rat}(h:RatL w S v q)(hk:∀g,S g→w2.heap[g]? =w.heap[g]?):RatL w2 S v q:=by
 obtain⟨b1,l1,b2,l2,a,b,h1,h2,h3,h4⟩:=h;exact⟨b1,l1,b2,l2,a,b,h1,h2.keep hk,h3.keep hk,h4⟩
theorem RatL.weak{S S':Nat→Prop}{w:World}{v:Value}{q:Rat}(h:RatL w S v q)(hk:∀g,S g→S' g):RatL w S' v q:=by
 obtain⟨b1,l1,b2,l2,a,b,h1,h2,h3,h4⟩:=h;exact⟨b1,l1,b2,l2,a,b,h1,h2.weak hk,h3.weak hk,h4⟩
theorem RatL.r{S:Nat→Prop}{w:World}{v:Value}{q:Rat}(h:RatL w S v q):∃a b,RatR w S v a b∧ratio a b=q:=by
 obtain⟨b1,l1,b2,l2,a,b,rfl,h2,h3,h4⟩:=h;exact⟨a,b,⟨b1,l1,b2,l2,rfl,h2.r,h3.r⟩,h4⟩
theorem RatL.v{S:Nat→Prop}{w:World}{v:Value}{q:Rat}(h:RatL w S v q):RatV w S v q:=by
 obtain⟨b1,l1,b2,l2,a,b,rfl,h2,h3,h4⟩:=h;exact⟨a,b,⟨b1,l1,b2,l2,rfl,h2.r,h3.r⟩,h4,h2.ln,h3.ln⟩
theorem RatL.shape{S:Nat→Prop}{w:World}{v:Value}{q:Rat}(h:RatL w S v q):∃b a n c b2 a2 n2 c2,v= .agg #[.bool b,.slice a n c,.bool b2,.slice a2 n2 c2]:=h.v.shape
theorem RatL.rl{S:Nat→Prop}{w:World}{v:Value}{q:Rat}(h:RatL w S v q):rl q≤100000:=by
 obtain⟨b1,l1,b2,l2,a,b,rfl,h2,h3,rfl⟩:=h
 have:=rl_ratio a b
 have:=h2.ln
 have:=h3.ln
 omega
theorem RatC.l{S:Nat→Prop}{w:World}{v:Value}{q:Rat}(h:RatC w S v q)(hl:rl q≤100000):RatL w S v q:=by
 obtain⟨b1,l1,b2,l2,h1,h2,h3⟩:=h
 exact⟨b1,l1,b2,l2,_,_,h1,h2.l (Nat.le_trans (rl_num q) hl),h3.l (Nat.le_trans (rl_den' q) hl),ratio_self q⟩
theorem rs_ratio(a b:Int):rs (ratio a b)=if b.sign<0 then -a.sign else a.sign:=by
 have sb:=sign_cases b
 rw[ratio]
 split
 ·rw[if_neg (by omega),rs,sign_div (by decide)]
 ·split
  ·rw[show Rat.divInt a b=Rat.divInt (-a) (-b)from(Rat.neg_divInt_neg a b).symm,rs,sign_div (by omega),Int.sign_neg]
  ·rw[rs,sign_div (by omega)]
theorem divInt_sq{a c:Int}:(a.natAbs<1073741824)→(c.natAbs<1073741824)→(a*c).natAbs≤1152921502459363329:=fun h1 h2=>by
 rw[Int.natAbs_mul]
 exact Nat.mul_le_mul (show a.natAbs≤1073741823 by omega) (show c.natAbs≤1073741823 by omega)
section
variable{S S':Nat→Prop}{H:Hp}{nx:Nat}{iv iv':Iv}{B:Nat}{w w' w2:World}{ρ:Nat→Sx.Val}{v:Value}{q:Rat}
theorem RatL.rel(h:RatL w (Cv S B iv) v q)(r:Rel H nx iv B w ρ w')(hS:∀g,S g→g<B):RatL w' (Cv S B iv) v q:=h.keep fun _ hg=>Rel.same r hS hg
theorem RatL.past(h:RatL w (Cv S B iv) v q)(r:Rel H nx iv B w ρ w')(hS:∀g,S g→g<B)(he:Ext w' w2)(hm:∀p,p∈iv→p∈iv'):RatL w2 (Cv S B iv') v q:=
 ((h.rel r hS).keep fun g hg=>he.block g (Rel.old r hS g hg)).weak fun _ hg=>hg.mono hm
end

theorem rSignOfR_c{S:Nat→Prop}{w:World}{v:Value}{a b:Int}(hS:Old S w)(hp:RatR w S v a b):
  Con PG N.ref01_SignOf #[v] w (Ret w fun v' _=>v'= .int .i64 (rs (ratio a b))):=by
 have hw:Bel w.heap.size w w:=Bel.refl
 obtain⟨b1,l1,b2,l2,rfl,ha,hb'⟩:=hp
 obtain⟨_,a1,n1,c1,e1⟩:=ha.shape
 obtain⟨_,a2,n2,c2,e2⟩:=hb'.shape
 simp only[Value.agg.injEq,Array.mk.injEq,List.cons.injEq,and_true]at e1 e2
 obtain⟨_,rfl⟩:=e1
 obtain⟨_,rfl⟩:=e2
 replace ha:=ha.weak (S':=Cv S w.heap.size []) fun _ h=>.inl h
 replace hb':=hb'.weak (S':=Cv S w.heap.size []) fun _ h=>.inl h
 have hr:=rs_ratio a b
 have sa:=sign_cases a
 refine in_ref01_SignOf (by simp) ?_
 conv=>whnf
 refine callE_S (callE_con (Φ:=fun _ w' v w2=>v= .int .i64 b.sign) (fun ρ w' r=>rSign_c (Rel.old r hS) (hb'.rel r hS)) ?_)
 rintro ρ wa1 v1 wb1 r he hb rfl
 replace hw:=hw.tr hb
 replace ha:=ha.past (iv':=(wa1.heap.size,wb1.heap.size)::[]) r hS he fun x hx=>List.mem_cons_of_mem _ hx
 clear hb'
 clear r he hb
 generalize (wa1.heap.size,wb1.heap.size)::[]=iv1 at*
 conv=>whnf
 refine BrS.mk (fun h=>?_) (fun h=>?_)
 ·have h:=of_decide_eq_true h
  rw[if_pos h]at hr
  conv=>whnf
  refine callE_S (callE_con (Φ:=fun _ w' v w2=>v= .int .i64 a.sign) (fun ρ w' r=>rSign_c (Rel.old r hS) (ha.rel r hS)) ?_)
  rintro ρ wa2 v2 wb2 r he hb rfl
  replace hw:=hw.tr hb
  clear ha
  clear r he hb
  generalize (wa2.heap.size,wb2.heap.size)::iv1=iv2 at*
  conv=>whnf
  refine⟨-a.sign,by rw[wrap64]<;>omega,?_⟩
  conv=>whnf
  intro ρe we re
  exact⟨_,rfl,hw.tr re.bel,by rw[hr];rfl⟩
 have h:=of_decide_eq_false h
 rw[if_neg h]at hr
 conv=>whnf
 refine callE_S (callE_con (Φ:=fun _ w' v w2=>v= .int .i64 a.sign) (fun ρ w' r=>rSign_c (Rel.old r hS) (ha.rel r hS)) ?_)
 rintro ρ wa2 v2 wb2 r he hb rfl
 replace hw:=hw.tr hb
 clear ha
 clear r he hb
 generalize (wa2.heap.size,wb2.heap.size)::iv1=iv2 at*
 conv=>whnf
 intro ρe we re
 exact⟨_,rfl,hw.tr re.bel,by rw[hr];rfl⟩

theorem rSignOf_c{S:Nat→Prop}{w:World}{v:Value}{p:Rat}(hS:Old S w)(hp:RatC w S v p):Con PG N.ref01_SignOf #[v] w (Ret w fun v' _=>v'= .int .i64 (rs p)):=by
 have:=rSignOfR_c hS hp.r
 rw[ratio_self]at this
 exact this
theorem rSignOfL_c{S:Nat→Prop}{w:World}{v:Value}{p:Rat}(hS:Old S w)(hp:RatL w S v p):Con PG N.ref01_SignOf #[v] w (Ret w fun v' _=>v'= .int .i64 (rs p)):=by
 obtain⟨a,b,h1,rfl⟩:=hp.r
 exact rSignOfR_c hS h1
theorem rNormal_c{S:Nat→Prop}{w:World}{v:Value}{p:Rat}(hS:Old S w)(hp:RatL w S v p):
  Con PG N.ref01_Normal #[v] w (Ret w fun v' w2=>RatC w2 (Nw (fun _=>False) w w2) v' p):=by
 have hw:Bel w.heap.size w w:=Bel.refl
 obtain⟨b1,l1,b2,l2,a,b,rfl,ha,hb',rfl⟩:=hp
 obtain⟨_,a1,n1,c1,e1⟩:=ha.shape
 obtain⟨_,a2,n2,c2,e2⟩:=hb'.shape
 simp only[Value.agg.injEq,Array.mk.injEq,List.cons.injEq,and_true]at e1 e2
 obtain⟨_,rfl⟩:=e1
 obtain⟨_,rfl⟩:=e2
 replace ha:=ha.weak (S':=Cv S w.heap.size []) fun _ h=>.inl h
 replace hb':=hb'.weak (S':=Cv S w.heap.size []) fun _ h=>.inl h
 have sb:=sign_cases b
 refine in_ref01_Normal (by simp) ?_
 conv=>whnf
 refine callE_S (callE_con (Φ:=fun _ w' v w2=>v= .int .i64 b.sign) (fun ρ w' r=>rSign_c (Rel.old r hS) (hb'.rel r hS).r) ?_)
 rintro ρ wa1 v1 wb1 r he hb rfl
 replace hw:=hw.tr hb
 replace ha:=ha.past (iv':=(wa1.heap.size,wb1.heap.size)::[]) r hS he fun x hx=>List.mem_cons_of_mem _ hx
 replace hb':=hb'.past (iv':=(wa1.heap.size,wb1.heap.size)::[]) r hS he fun x hx=>List.mem_cons_of_mem _ hx
 clear r he hb
 generalize (wa1.heap.size,wb1.heap.size)::[]=iv1 at*
 conv=>whnf
 refine BrS.mk (fun h=>?_) (fun h=>?_)
 ·have h:b.sign=0:=by simpa using h
  obtain rfl:b=0:=by omega
  rw[show ratio a 0=Rat.divInt a 1 from if_pos rfl]
  conv=>whnf
  refine drawn_of_pi hτ hmix [.x 0,.x 1,.x 2,.x 3,.x 4] (by kernel_rfl) (by kernel_rfl) ?_
  conv=>whnf
  refine callE_con (Φ:=fun _ w' v w2=>IntC w2 (Nw (fun _=>False) w' w2) v (1)) (fun ρ w' r=>rOf_c _ w' (by decide) (by decide)) ?_
  rintro ρ wa2 v2 wb2 r he hb hn
  replace hw:=hw.tr hb
  replace ha:=ha.past (iv':=(wa2.heap.size,wb2.heap.size)::iv1) r hS he fun x hx=>List.mem_cons_of_mem _ hx
  replace hb':=hb'.past (iv':=(wa2.heap.size,wb2.heap.size)::iv1) r hS he fun x hx=>List.mem_cons_of_mem _ hx
  have h1:=hn.got (S:=fun _=>False) r.baseLe (iv:=(wa2.heap.size,wb2.heap.size)::iv1) List.mem_cons_self
  clear r he hb hn
  generalize (wa2.heap.size,wb2.heap.size)::iv1=iv2 at*
  obtain⟨s2_0,s2_1,s2_2,s2_3,rfl⟩:=h1.shape
  conv=>whnf
  refine callE_con (Φ:=fun _ w' v w2=>RatC w2 (Nw (fun _=>False) w' w2) v (Rat.divInt a 1)) (fun ρ w' r=>rOver_c (Rel.old r hS) (ha.rel r hS) (((h1.rel r (oldF w)).l (k:=1) (by decide)).weak fun g hg=>Cv.false hg) (by omega) (by omega) (by decide)) ?_
  rintro ρ wa3 v3 wb3 r he hb hn
  replace hw:=hw.tr hb
  replace ha:=ha.past (iv':=(wa3.heap.size,wb3.heap.size)::iv2) r hS he fun x hx=>List.mem_cons_of_mem _ hx
  replace hb':=hb'.past (iv':=(wa3.heap.size,wb3.heap.size)::iv2) r hS he fun x hx=>List.mem_cons_of_mem _ hx
  replace h1:=h1.past (iv':=(wa3.heap.size,wb3.heap.size)::iv2) r (oldF w) he fun x hx=>List.mem_cons_of_mem _ hx
  have hR:=hn.got (S:=fun _=>False) r.baseLe (iv:=(wa3.heap.size,wb3.heap.size)::iv2) List.mem_cons_self
  clear r he hb hn
  generalize (wa3.heap.size,wb3.heap.size)::iv2=iv3 at*
  obtain⟨s3_0,s3_1,s3_2,s3_3,s3_4,s3_5,s3_6,s3_7,rfl⟩:=hR.shape
  conv=>whnf
  intro ρe we re
  exact⟨_,rfl,hw.tr re.bel,hR.out re (oldF w)⟩
 have h:b.sign≠0:=by simpa using h
 have hb0:b≠0:=by omega
 rw[show ratio a b=Rat.divInt a b from if_neg hb0]
 conv=>whnf
 refine callE_S (callE_con (Φ:=fun _ w' v w2=>RatC w2 (Nw (fun _=>False) w' w2) v (Rat.divInt a b)) (fun ρ w' r=>rOver_c (Rel.old r hS) (ha.rel r hS) (hb'.rel r hS) (by omega) (by omega) hb0) ?_)
 rintro ρ wa2 v2 wb2 r he hb hn
 replace hw:=hw.tr hb
 replace ha:=ha.past (iv':=(wa2.heap.size,wb2.heap.size)::iv1) r hS he fun x hx=>List.mem_cons_of_mem _ hx
 replace hb':=hb'.past (iv':=(wa2.heap.size,wb2.heap.size)::iv1) r hS he fun x hx=>List.mem_cons_of_mem _ hx
 have hR:=hn.got (S:=fun _=>False) r.baseLe (iv:=(wa2.heap.size,wb2.heap.size)::iv1) List.mem_cons_self
 clear r he hb hn
 generalize (wa2.heap.size,wb2.heap.size)::iv1=iv2 at*
 obtain⟨s2_0,s2_1,s2_2,s2_3,s2_4,s2_5,s2_6,s2_7,rfl⟩:=hR.shape
 conv=>whnf
 intro ρe we re
 exact⟨_,rfl,hw.tr re.bel,hR.out re (oldF w)⟩

theorem quick_c{S:Nat→Prop}{w:World}{v:Value}{p:Rat}(hS:Old S w)(hp:RatL w S v p):
  Con PG N.ref01_quick #[v] w (Ret w fun v' _=>∃n d ok,v'= .tuple #[.int .i64 n,.int .i64 d,.bool ok]∧(ok=true→d≠0∧n.natAbs<1073741824∧d.natAbs<1073741824∧Rat.divInt n d=p)):=by
 have hw:Bel w.heap.size w w:=Bel.refl
 obtain⟨b1,l1,b2,l2,a,b,rfl,ha,hb',rfl⟩:=hp
 obtain⟨_,a1,n1,c1,e1⟩:=ha.shape
 obtain⟨_,a2,n2,c2,e2⟩:=hb'.shape
 simp only[Value.agg.injEq,Array.mk.injEq,List.cons.injEq,and_true]at e1 e2
 obtain⟨_,rfl⟩:=e1
 obtain⟨_,rfl⟩:=e2
 replace ha:=ha.weak (S':=Cv S w.heap.size []) fun _ h=>.inl h
 replace hb':=hb'.weak (S':=Cv S w.heap.size []) fun _ h=>.inl h
 refine in_ref01_quick (by simp) ?_
 conv=>whnf
 refine callE_S (callE_con (Φ:=fun _ w' v w2=>∃n p,v= .tuple #[.int .i64 n,.bool p]∧(p=true→n=a∧a.natAbs<1073741824)) (fun ρ w' r=>(rshort_c (Rel.old r hS) (ha.rel r hS).r).mono fun e w2 ⟨v2,e1,e2,e3⟩=>⟨v2,e1,e2,by
   rw[e3,shortV]
   split
   ·exact⟨_,_,rfl,fun _=>⟨rfl,‹_›⟩⟩
   ·exact⟨_,_,rfl,fun h=>by cases h⟩⟩) ?_)
 rintro ρ wa1 v1 wb1 r he hb ⟨na,pa,rfl,qa⟩
 replace hw:=hw.tr hb
 replace ha:=ha.past (iv':=(wa1.heap.size,wb1.heap.size)::[]) r hS he fun x hx=>List.mem_cons_of_mem _ hx
 replace hb':=hb'.past (iv':=(wa1.heap.size,wb1.heap.size)::[]) r hS he fun x hx=>List.mem_cons_of_mem _ hx
 clear r he hb
 generalize (wa1.heap.size,wb1.heap.size)::[]=iv1 at*
 conv=>whnf
 refine callE_S (callE_con (Φ:=fun _ w' v w2=>∃n p,v= .tuple #[.int .i64 n,.bool p]∧(p=true→n=b∧b.natAbs<1073741824)) (fun ρ w' r=>(rshort_c (Rel.old r hS) (hb'.rel r hS).r).mono fun e w2 ⟨v2,e1,e2,e3⟩=>⟨v2,e1,e2,by
   rw[e3,shortV]
   split
   ·exact⟨_,_,rfl,fun _=>⟨rfl,‹_›⟩⟩
   ·exact⟨_,_,rfl,fun h=>by cases h⟩⟩) ?_)
 rintro ρ wa2 v2 wb2 r he hb ⟨nb,pb,rfl,qb⟩
 replace hw:=hw.tr hb
 replace ha:=ha.past (iv':=(wa2.heap.size,wb2.heap.size)::iv1) r hS he fun x hx=>List.mem_cons_of_mem _ hx
 replace hb':=hb'.past (iv':=(wa2.heap.size,wb2.heap.size)::iv1) r hS he fun x hx=>List.mem_cons_of_mem _ hx
 clear r he hb
 generalize (wa2.heap.size,wb2.heap.size)::iv1=iv2 at*
 conv=>whnf
 refine BrS.mk (fun h=>?_) (fun h=>?_)
 ·have h:nb=0:=by simpa using h
  conv=>whnf
  refine BrS.mk (fun h1=>?_) (fun h1=>?_)
  ·conv=>whnf
   intro ρe we re
   exact⟨_,rfl,hw.tr re.bel,⟨na,1,pb,rfl,fun h2=>by
     obtain⟨rfl,hx⟩:=qa h1
     obtain⟨rfl,hy⟩:=qb h2
     rw[h]
     exact⟨by decide,hx,by decide,(if_pos rfl).symm⟩⟩⟩
  conv=>whnf
  intro ρe we re
  exact⟨_,rfl,hw.tr re.bel,⟨na,1,false,rfl,fun h2=>by cases h2⟩⟩
 have h:nb≠0:=by simpa using h
 conv=>whnf
 refine BrS.mk (fun h1=>?_) (fun h1=>?_)
 ·conv=>whnf
  intro ρe we re
  exact⟨_,rfl,hw.tr re.bel,⟨na,nb,pb,rfl,fun h2=>by
    obtain⟨rfl,hx⟩:=qa h1
    obtain⟨rfl,hy⟩:=qb h2
    exact⟨h,hx,hy,(if_neg h).symm⟩⟩⟩
 conv=>whnf
 intro ρe we re
 exact⟨_,rfl,hw.tr re.bel,⟨na,nb,false,rfl,fun h2=>by cases h2⟩⟩

theorem rAdd_c{S:Nat→Prop}{w:World}{v u:Value}{p q:Rat}(hS:Old S w)(hp:RatL w S v p)(hq:RatL w S u q):
  Con PG N.ref01_Add #[v,u] w (Ret w fun v' w2=>RatC w2 (Nw (fun _=>False) w w2) v' (p+q)):=by
 have hw:Bel w.heap.size w w:=Bel.refl
 replace hp:=hp.weak (S':=Cv S w.heap.size []) fun _ h=>.inl h
 replace hq:=hq.weak (S':=Cv S w.heap.size []) fun _ h=>.inl h
 obtain⟨b1,a1,n1,c1,b2,a2,n2,c2,rfl⟩:=hp.shape
 obtain⟨b3,a3,n3,c3,b4,a4,n4,c4,rfl⟩:=hq.shape
 refine in_ref01_Add (by simp) ?_
 conv=>whnf
 have r1:=hp.rl
 have r2:=hq.rl
 have u1:=rl_num p
 have u2:=rl_den' p
 have u3:=rl_num q
 have u4:=rl_den' q
 refine callE_S (callE_con (Φ:=fun _ w' v w2=>∃n d ok,v= .tuple #[.int .i64 n,.int .i64 d,.bool ok]∧(ok=true→d≠0∧n.natAbs<1073741824∧d.natAbs<1073741824∧Rat.divInt n d=p)) (fun ρ w' r=>quick_c (Rel.old r hS) (hp.rel r hS)) ?_)
 rintro ρ wa1 v1 wb1 r he hb ⟨a,b,k1,rfl,g1⟩
 replace hw:=hw.tr hb
 replace hp:=hp.past (iv':=(wa1.heap.size,wb1.heap.size)::[]) r hS he fun x hx=>List.mem_cons_of_mem _ hx
 replace hq:=hq.past (iv':=(wa1.heap.size,wb1.heap.size)::[]) r hS he fun x hx=>List.mem_cons_of_mem _ hx
 clear r he hb
 generalize (wa1.heap.size,wb1.heap.size)::[]=iv1 at*
 conv=>whnf
 refine callE_S (callE_con (Φ:=fun _ w' v w2=>∃n d ok,v= .tuple #[.int .i64 n,.int .i64 d,.bool ok]∧(ok=true→d≠0∧n.natAbs<1073741824∧d.natAbs<1073741824∧Rat.divInt n d=q)) (fun ρ w' r=>quick_c (Rel.old r hS) (hq.rel r hS)) ?_)
 rintro ρ wa2 v2 wb2 r he hb ⟨c,d,k2,rfl,g2⟩
 replace hw:=hw.tr hb
 replace hp:=hp.past (iv':=(wa2.heap.size,wb2.heap.size)::iv1) r hS he fun x hx=>List.mem_cons_of_mem _ hx
 replace hq:=hq.past (iv':=(wa2.heap.size,wb2.heap.size)::iv1) r hS he fun x hx=>List.mem_cons_of_mem _ hx
 clear r he hb
 generalize (wa2.heap.size,wb2.heap.size)::iv1=iv2 at*
 conv=>whnf
 refine BrS.mk (fun h1=>?_) (fun h1=>?_)
 ·conv=>whnf
  refine BrS.mk (fun h2=>?_) (fun h2=>?_)
  ·obtain⟨g3,g4,g5,g6⟩:=g1 h1
   obtain⟨g7,g8,g9,g10⟩:=g2 h2
   have i1:=divInt_sq g4 g9
   have i2:=divInt_sq g8 g5
   have i3:=divInt_sq g5 g9
   have i4:=divInt_sq g4 g8
   clear hp hq
   conv=>whnf
   refine⟨a*d,by rw[wrap64]<;>omega,?_⟩
   conv=>whnf
   refine⟨c*b,by rw[wrap64]<;>omega,?_⟩
   conv=>whnf
   refine⟨a*d+c*b,by rw[wrap64]<;>omega,?_⟩
   conv=>whnf
   refine⟨b*d,by rw[wrap64]<;>omega,?_⟩
   conv=>whnf
   have e:=Rat.divInt_add_divInt a c g3 g7
   rw[g6,g10]at e
   refine callE_S (callE_con (Φ:=fun _ w' v w2=>RatC w2 (Nw (fun _=>False) w' w2) v (p+q)) (fun ρ w' r=>e▸rlowest_c (a*d+c*b) (b*d) w' (by omega) (by omega) (mul_ne g3 g7)) ?_)
   rintro ρ wa3 v3 wb3 r he hb hn
   replace hw:=hw.tr hb
   have hR:=hn.got (S:=fun _=>False) r.baseLe (iv:=(wa3.heap.size,wb3.heap.size)::iv2) List.mem_cons_self
   clear r he hb hn
   generalize (wa3.heap.size,wb3.heap.size)::iv2=iv3 at*
   obtain⟨s3_0,s3_1,s3_2,s3_3,s3_4,s3_5,s3_6,s3_7,rfl⟩:=hR.shape
   conv=>whnf
   intro ρe we re
   exact⟨_,rfl,hw.tr re.bel,hR.out re (oldF w)⟩
  conv=>whnf
  refine drawn_of_pi hτ hmix [.x 0,.x 2,.x 1,.x 3,.x 4,.x 5] (by kernel_rfl) (by kernel_rfl) ?_
  conv=>whnf
  refine callE_con (Φ:=fun _ w' v w2=>RatC w2 (Nw (fun _=>False) w' w2) v (p)) (fun ρ w' r=>rNormal_c (Rel.old r hS) (hp.rel r hS)) ?_
  rintro ρ wa3 v3 wb3 r he hb hn
  replace hw:=hw.tr hb
  clear hp
  replace hq:=hq.past (iv':=(wa3.heap.size,wb3.heap.size)::iv2) r hS he fun x hx=>List.mem_cons_of_mem _ hx
  have hX:=hn.got (S:=fun _=>False) r.baseLe (iv:=(wa3.heap.size,wb3.heap.size)::iv2) List.mem_cons_self
  clear r he hb hn
  generalize (wa3.heap.size,wb3.heap.size)::iv2=iv3 at*
  obtain⟨s3_0,s3_1,s3_2,s3_3,s3_4,s3_5,s3_6,s3_7,rfl⟩:=hX.shape
  conv=>whnf
  refine callE_con (Φ:=fun _ w' v w2=>RatC w2 (Nw (fun _=>False) w' w2) v (q)) (fun ρ w' r=>rNormal_c (Rel.old r hS) (hq.rel r hS)) ?_
  rintro ρ wa4 v4 wb4 r he hb hn
  replace hw:=hw.tr hb
  clear hq
  replace hX:=hX.past (iv':=(wa4.heap.size,wb4.heap.size)::iv3) r (oldF w) he fun x hx=>List.mem_cons_of_mem _ hx
  have hY:=hn.got (S:=fun _=>False) r.baseLe (iv:=(wa4.heap.size,wb4.heap.size)::iv3) List.mem_cons_self
  clear r he hb hn
  generalize (wa4.heap.size,wb4.heap.size)::iv3=iv4 at*
  obtain⟨s4_0,s4_1,s4_2,s4_3,s4_4,s4_5,s4_6,s4_7,rfl⟩:=hY.shape
  conv=>whnf
  have hXn:=hX.num
  have hXd:=hX.den
  clear hX
  have hYn:=hY.num
  have hYd:=hY.den
  clear hY
  have m0:=ln_mul_abs p.num q.den
  have m1:=ln_mul_abs q.num p.den
  have m2:=ln_mul_abs (p.den:Int) q.den
  have m3:=ln_add_int (p.num*q.den) (q.num*p.den)
  have m4:=ln_mul_abs p.num q.num
  refine drawn_of_pi hτ hmix [.x 0,.x 1,.x 2,.x 3,.x 5,.x 6,.x 7,.x 8,.x 11,.x 12,.x 13,.x 14,.x 4,.x 9,.x 10,.x 15,.x 16,.x 17] (by kernel_rfl) (by kernel_rfl) ?_
  conv=>whnf
  refine callE_con (Φ:=fun _ w' v w2=>IntC w2 (Nw (fun _=>False) w' w2) v (p.num*(q.den:Int))) (fun ρ w' r=>rProd_c (Rel.old r (oldF w)) ((hXn.rel r (oldF w)).l (k:=100000) (by omega)) ((hYd.rel r (oldF w)).l (k:=100000) (by omega)) (by omega) (by omega)) ?_
  rintro ρ wa5 v5 wb5 r he hb hn
  replace hw:=hw.tr hb
  replace hXn:=hXn.past (iv':=(wa5.heap.size,wb5.heap.size)::iv4) r (oldF w) he fun x hx=>List.mem_cons_of_mem _ hx
  replace hXd:=hXd.past (iv':=(wa5.heap.size,wb5.heap.size)::iv4) r (oldF w) he fun x hx=>List.mem_cons_of_mem _ hx
  replace hYn:=hYn.past (iv':=(wa5.heap.size,wb5.heap.size)::iv4) r (oldF w) he fun x hx=>List.mem_cons_of_mem _ hx
  replace hYd:=hYd.past (iv':=(wa5.heap.size,wb5.heap.size)::iv4) r (oldF w) he fun x hx=>List.mem_cons_of_mem _ hx
  have hA:=hn.got (S:=fun _=>False) r.baseLe (iv:=(wa5.heap.size,wb5.heap.size)::iv4) List.mem_cons_self
  clear r he hb hn
  generalize (wa5.heap.size,wb5.heap.size)::iv4=iv5 at*
  obtain⟨s5_0,s5_1,s5_2,s5_3,rfl⟩:=hA.shape
  conv=>whnf
  refine callE_con (Φ:=fun _ w' v w2=>IntC w2 (Nw (fun _=>False) w' w2) v (q.num*(p.den:Int))) (fun ρ w' r=>rProd_c (Rel.old r (oldF w)) ((hYn.rel r (oldF w)).l (k:=100000) (by omega)) ((hXd.rel r (oldF w)).l (k:=100000) (by omega)) (by omega) (by omega)) ?_
  rintro ρ wa6 v6 wb6 r he hb hn
  replace hw:=hw.tr hb
  replace hXn:=hXn.past (iv':=(wa6.heap.size,wb6.heap.size)::iv5) r (oldF w) he fun x hx=>List.mem_cons_of_mem _ hx
  replace hXd:=hXd.past (iv':=(wa6.heap.size,wb6.heap.size)::iv5) r (oldF w) he fun x hx=>List.mem_cons_of_mem _ hx
  replace hYn:=hYn.past (iv':=(wa6.heap.size,wb6.heap.size)::iv5) r (oldF w) he fun x hx=>List.mem_cons_of_mem _ hx
  replace hYd:=hYd.past (iv':=(wa6.heap.size,wb6.heap.size)::iv5) r (oldF w) he fun x hx=>List.mem_cons_of_mem _ hx
  replace hA:=hA.past (iv':=(wa6.heap.size,wb6.heap.size)::iv5) r (oldF w) he fun x hx=>List.mem_cons_of_mem _ hx
  have hB:=hn.got (S:=fun _=>False) r.baseLe (iv:=(wa6.heap.size,wb6.heap.size)::iv5) List.mem_cons_self
  clear r he hb hn
  generalize (wa6.heap.size,wb6.heap.size)::iv5=iv6 at*
  obtain⟨s6_0,s6_1,s6_2,s6_3,rfl⟩:=hB.shape
  conv=>whnf
  refine callE_con (Φ:=fun _ w' v w2=>IntC w2 (Nw (fun _=>False) w' w2) v (p.num*(q.den:Int)+q.num*(p.den:Int))) (fun ρ w' r=>rSum_c (Rel.old r (oldF w)) ((hA.rel r (oldF w)).l (k:=200000) (by omega)) ((hB.rel r (oldF w)).l (k:=200000) (by omega)) (by omega) (by omega)) ?_
  rintro ρ wa7 v7 wb7 r he hb hn
  replace hw:=hw.tr hb
  replace hXn:=hXn.past (iv':=(wa7.heap.size,wb7.heap.size)::iv6) r (oldF w) he fun x hx=>List.mem_cons_of_mem _ hx
  replace hXd:=hXd.past (iv':=(wa7.heap.size,wb7.heap.size)::iv6) r (oldF w) he fun x hx=>List.mem_cons_of_mem _ hx
  replace hYn:=hYn.past (iv':=(wa7.heap.size,wb7.heap.size)::iv6) r (oldF w) he fun x hx=>List.mem_cons_of_mem _ hx
  replace hYd:=hYd.past (iv':=(wa7.heap.size,wb7.heap.size)::iv6) r (oldF w) he fun x hx=>List.mem_cons_of_mem _ hx
  clear hA
  clear hB
  have hN:=hn.got (S:=fun _=>False) r.baseLe (iv:=(wa7.heap.size,wb7.heap.size)::iv6) List.mem_cons_self
  clear r he hb hn
  generalize (wa7.heap.size,wb7.heap.size)::iv6=iv7 at*
  obtain⟨s7_0,s7_1,s7_2,s7_3,rfl⟩:=hN.shape
  conv=>whnf
  refine callE_con (Φ:=fun _ w' v w2=>IntC w2 (Nw (fun _=>False) w' w2) v ((p.den:Int)*(q.den:Int))) (fun ρ w' r=>rProd_c (Rel.old r (oldF w)) ((hXd.rel r (oldF w)).l (k:=100000) (by omega)) ((hYd.rel r (oldF w)).l (k:=100000) (by omega)) (by omega) (by omega)) ?_
  rintro ρ wa8 v8 wb8 r he hb hn
  replace hw:=hw.tr hb
  replace hXn:=hXn.past (iv':=(wa8.heap.size,wb8.heap.size)::iv7) r (oldF w) he fun x hx=>List.mem_cons_of_mem _ hx
  replace hXd:=hXd.past (iv':=(wa8.heap.size,wb8.heap.size)::iv7) r (oldF w) he fun x hx=>List.mem_cons_of_mem _ hx
  replace hYn:=hYn.past (iv':=(wa8.heap.size,wb8.heap.size)::iv7) r (oldF w) he fun x hx=>List.mem_cons_of_mem _ hx
  replace hYd:=hYd.past (iv':=(wa8.heap.size,wb8.heap.size)::iv7) r (oldF w) he fun x hx=>List.mem_cons_of_mem _ hx
  replace hN:=hN.past (iv':=(wa8.heap.size,wb8.heap.size)::iv7) r (oldF w) he fun x hx=>List.mem_cons_of_mem _ hx
  have hD:=hn.got (S:=fun _=>False) r.baseLe (iv:=(wa8.heap.size,wb8.heap.size)::iv7) List.mem_cons_self
  clear r he hb hn
  generalize (wa8.heap.size,wb8.heap.size)::iv7=iv8 at*
  obtain⟨s8_0,s8_1,s8_2,s8_3,rfl⟩:=hD.shape
  conv=>whnf
  refine callE_con (Φ:=fun _ w' v w2=>RatC w2 (Nw (fun _=>False) w' w2) v (p+q)) (fun ρ w' r=>(rat_add p q)▸rOver_c (Rel.old r (oldF w)) ((hN.rel r (oldF w)).l (k:=200001) (by omega)) ((hD.rel r (oldF w)).l (k:=200001) (by omega)) (by omega) (by omega) (mul_ne (den_ne p) (den_ne q))) ?_
  rintro ρ wa9 v9 wb9 r he hb hn
  replace hw:=hw.tr hb
  clear hXn
  clear hXd
  clear hYn
  clear hYd
  clear hN
  clear hD
  have hR:=hn.got (S:=fun _=>False) r.baseLe (iv:=(wa9.heap.size,wb9.heap.size)::iv8) List.mem_cons_self
  clear r he hb hn
  generalize (wa9.heap.size,wb9.heap.size)::iv8=iv9 at*
  obtain⟨s9_0,s9_1,s9_2,s9_3,s9_4,s9_5,s9_6,s9_7,rfl⟩:=hR.shape
  conv=>whnf
  intro ρe we re
  exact⟨_,rfl,hw.tr re.bel,hR.out re (oldF w)⟩
 conv=>whnf
 refine drawn_of_pi hτ hmix [.x 0,.x 2,.x 1,.x 3,.x 4,.x 5] (by kernel_rfl) (by kernel_rfl) ?_
 conv=>whnf
 refine callE_con (Φ:=fun _ w' v w2=>RatC w2 (Nw (fun _=>False) w' w2) v (p)) (fun ρ w' r=>rNormal_c (Rel.old r hS) (hp.rel r hS)) ?_
 rintro ρ wa3 v3 wb3 r he hb hn
 replace hw:=hw.tr hb
 clear hp
 replace hq:=hq.past (iv':=(wa3.heap.size,wb3.heap.size)::iv2) r hS he fun x hx=>List.mem_cons_of_mem _ hx
 have hX:=hn.got (S:=fun _=>False) r.baseLe (iv:=(wa3.heap.size,wb3.heap.size)::iv2) List.mem_cons_self
 clear r he hb hn
 generalize (wa3.heap.size,wb3.heap.size)::iv2=iv3 at*
 obtain⟨s3_0,s3_1,s3_2,s3_3,s3_4,s3_5,s3_6,s3_7,rfl⟩:=hX.shape
 conv=>whnf
 refine callE_con (Φ:=fun _ w' v w2=>RatC w2 (Nw (fun _=>False) w' w2) v (q)) (fun ρ w' r=>rNormal_c (Rel.old r hS) (hq.rel r hS)) ?_
 rintro ρ wa4 v4 wb4 r he hb hn
 replace hw:=hw.tr hb
 clear hq
 replace hX:=hX.past (iv':=(wa4.heap.size,wb4.heap.size)::iv3) r (oldF w) he fun x hx=>List.mem_cons_of_mem _ hx
 have hY:=hn.got (S:=fun _=>False) r.baseLe (iv:=(wa4.heap.size,wb4.heap.size)::iv3) List.mem_cons_self
 clear r he hb hn
 generalize (wa4.heap.size,wb4.heap.size)::iv3=iv4 at*
 obtain⟨s4_0,s4_1,s4_2,s4_3,s4_4,s4_5,s4_6,s4_7,rfl⟩:=hY.shape
 conv=>whnf
 have hXn:=hX.num
 have hXd:=hX.den
 clear hX
 have hYn:=hY.num
 have hYd:=hY.den
 clear hY
 have m0:=ln_mul_abs p.num q.den
 have m1:=ln_mul_abs q.num p.den
 have m2:=ln_mul_abs (p.den:Int) q.den
 have m3:=ln_add_int (p.num*q.den) (q.num*p.den)
 have m4:=ln_mul_abs p.num q.num
 refine drawn_of_pi hτ hmix [.x 0,.x 1,.x 2,.x 3,.x 5,.x 6,.x 7,.x 8,.x 11,.x 12,.x 13,.x 14,.x 4,.x 9,.x 10,.x 15,.x 16,.x 17] (by kernel_rfl) (by kernel_rfl) ?_
 conv=>whnf
 refine callE_con (Φ:=fun _ w' v w2=>IntC w2 (Nw (fun _=>False) w' w2) v (p.num*(q.den:Int))) (fun ρ w' r=>rProd_c (Rel.old r (oldF w)) ((hXn.rel r (oldF w)).l (k:=100000) (by omega)) ((hYd.rel r (oldF w)).l (k:=100000) (by omega)) (by omega) (by omega)) ?_
 rintro ρ wa5 v5 wb5 r he hb hn
 replace hw:=hw.tr hb
 replace hXn:=hXn.past (iv':=(wa5.heap.size,wb5.heap.size)::iv4) r (oldF w) he fun x hx=>List.mem_cons_of_mem _ hx
 replace hXd:=hXd.past (iv':=(wa5.heap.size,wb5.heap.size)::iv4) r (oldF w) he fun x hx=>List.mem_cons_of_mem _ hx
 replace hYn:=hYn.past (iv':=(wa5.heap.size,wb5.heap.size)::iv4) r (oldF w) he fun x hx=>List.mem_cons_of_mem _ hx
 replace hYd:=hYd.past (iv':=(wa5.heap.size,wb5.heap.size)::iv4) r (oldF w) he fun x hx=>List.mem_cons_of_mem _ hx
 have hA:=hn.got (S:=fun _=>False) r.baseLe (iv:=(wa5.heap.size,wb5.heap.size)::iv4) List.mem_cons_self
 clear r he hb hn
 generalize (wa5.heap.size,wb5.heap.size)::iv4=iv5 at*
 obtain⟨s5_0,s5_1,s5_2,s5_3,rfl⟩:=hA.shape
 conv=>whnf
 refine callE_con (Φ:=fun _ w' v w2=>IntC w2 (Nw (fun _=>False) w' w2) v (q.num*(p.den:Int))) (fun ρ w' r=>rProd_c (Rel.old r (oldF w)) ((hYn.rel r (oldF w)).l (k:=100000) (by omega)) ((hXd.rel r (oldF w)).l (k:=100000) (by omega)) (by omega) (by omega)) ?_
 rintro ρ wa6 v6 wb6 r he hb hn
 replace hw:=hw.tr hb
 replace hXn:=hXn.past (iv':=(wa6.heap.size,wb6.heap.size)::iv5) r (oldF w) he fun x hx=>List.mem_cons_of_mem _ hx
 replace hXd:=hXd.past (iv':=(wa6.heap.size,wb6.heap.size)::iv5) r (oldF w) he fun x hx=>List.mem_cons_of_mem _ hx
 replace hYn:=hYn.past (iv':=(wa6.heap.size,wb6.heap.size)::iv5) r (oldF w) he fun x hx=>List.mem_cons_of_mem _ hx
 replace hYd:=hYd.past (iv':=(wa6.heap.size,wb6.heap.size)::iv5) r (oldF w) he fun x hx=>List.mem_cons_of_mem _ hx
 replace hA:=hA.past (iv':=(wa6.heap.size,wb6.heap.size)::iv5) r (oldF w) he fun x hx=>List.mem_cons_of_mem _ hx
 have hB:=hn.got (S:=fun _=>False) r.baseLe (iv:=(wa6.heap.size,wb6.heap.size)::iv5) List.mem_cons_self
 clear r he hb hn
 generalize (wa6.heap.size,wb6.heap.size)::iv5=iv6 at*
 obtain⟨s6_0,s6_1,s6_2,s6_3,rfl⟩:=hB.shape
 conv=>whnf
 refine callE_con (Φ:=fun _ w' v w2=>IntC w2 (Nw (fun _=>False) w' w2) v (p.num*(q.den:Int)+q.num*(p.den:Int))) (fun ρ w' r=>rSum_c (Rel.old r (oldF w)) ((hA.rel r (oldF w)).l (k:=200000) (by omega)) ((hB.rel r (oldF w)).l (k:=200000) (by omega)) (by omega) (by omega)) ?_
 rintro ρ wa7 v7 wb7 r he hb hn
 replace hw:=hw.tr hb
 replace hXn:=hXn.past (iv':=(wa7.heap.size,wb7.heap.size)::iv6) r (oldF w) he fun x hx=>List.mem_cons_of_mem _ hx
 replace hXd:=hXd.past (iv':=(wa7.heap.size,wb7.heap.size)::iv6) r (oldF w) he fun x hx=>List.mem_cons_of_mem _ hx
 replace hYn:=hYn.past (iv':=(wa7.heap.size,wb7.heap.size)::iv6) r (oldF w) he fun x hx=>List.mem_cons_of_mem _ hx
 replace hYd:=hYd.past (iv':=(wa7.heap.size,wb7.heap.size)::iv6) r (oldF w) he fun x hx=>List.mem_cons_of_mem _ hx
 clear hA
 clear hB
 have hN:=hn.got (S:=fun _=>False) r.baseLe (iv:=(wa7.heap.size,wb7.heap.size)::iv6) List.mem_cons_self
 clear r he hb hn
 generalize (wa7.heap.size,wb7.heap.size)::iv6=iv7 at*
 obtain⟨s7_0,s7_1,s7_2,s7_3,rfl⟩:=hN.shape
 conv=>whnf
 refine callE_con (Φ:=fun _ w' v w2=>IntC w2 (Nw (fun _=>False) w' w2) v ((p.den:Int)*(q.den:Int))) (fun ρ w' r=>rProd_c (Rel.old r (oldF w)) ((hXd.rel r (oldF w)).l (k:=100000) (by omega)) ((hYd.rel r (oldF w)).l (k:=100000) (by omega)) (by omega) (by omega)) ?_
 rintro ρ wa8 v8 wb8 r he hb hn
 replace hw:=hw.tr hb
 replace hXn:=hXn.past (iv':=(wa8.heap.size,wb8.heap.size)::iv7) r (oldF w) he fun x hx=>List.mem_cons_of_mem _ hx
 replace hXd:=hXd.past (iv':=(wa8.heap.size,wb8.heap.size)::iv7) r (oldF w) he fun x hx=>List.mem_cons_of_mem _ hx
 replace hYn:=hYn.past (iv':=(wa8.heap.size,wb8.heap.size)::iv7) r (oldF w) he fun x hx=>List.mem_cons_of_mem _ hx
 replace hYd:=hYd.past (iv':=(wa8.heap.size,wb8.heap.size)::iv7) r (oldF w) he fun x hx=>List.mem_cons_of_mem _ hx
 replace hN:=hN.past (iv':=(wa8.heap.size,wb8.heap.size)::iv7) r (oldF w) he fun x hx=>List.mem_cons_of_mem _ hx
 have hD:=hn.got (S:=fun _=>False) r.baseLe (iv:=(wa8.heap.size,wb8.heap.size)::iv7) List.mem_cons_self
 clear r he hb hn
 generalize (wa8.heap.size,wb8.heap.size)::iv7=iv8 at*
 obtain⟨s8_0,s8_1,s8_2,s8_3,rfl⟩:=hD.shape
 conv=>whnf
 refine callE_con (Φ:=fun _ w' v w2=>RatC w2 (Nw (fun _=>False) w' w2) v (p+q)) (fun ρ w' r=>(rat_add p q)▸rOver_c (Rel.old r (oldF w)) ((hN.rel r (oldF w)).l (k:=200001) (by omega)) ((hD.rel r (oldF w)).l (k:=200001) (by omega)) (by omega) (by omega) (mul_ne (den_ne p) (den_ne q))) ?_
 rintro ρ wa9 v9 wb9 r he hb hn
 replace hw:=hw.tr hb
 clear hXn
 clear hXd
 clear hYn
 clear hYd
 clear hN
 clear hD
 have hR:=hn.got (S:=fun _=>False) r.baseLe (iv:=(wa9.heap.size,wb9.heap.size)::iv8) List.mem_cons_self
 clear r he hb hn
 generalize (wa9.heap.size,wb9.heap.size)::iv8=iv9 at*
 obtain⟨s9_0,s9_1,s9_2,s9_3,s9_4,s9_5,s9_6,s9_7,rfl⟩:=hR.shape
 conv=>whnf
 intro ρe we re
 exact⟨_,rfl,hw.tr re.bel,hR.out re (oldF w)⟩

theorem rMul_c{S:Nat→Prop}{w:World}{v u:Value}{p q:Rat}(hS:Old S w)(hp:RatL w S v p)(hq:RatL w S u q):
  Con PG N.ref01_Mul #[v,u] w (Ret w fun v' w2=>RatC w2 (Nw (fun _=>False) w w2) v' (p*q)):=by
 have hw:Bel w.heap.size w w:=Bel.refl
 replace hp:=hp.weak (S':=Cv S w.heap.size []) fun _ h=>.inl h
 replace hq:=hq.weak (S':=Cv S w.heap.size []) fun _ h=>.inl h
 obtain⟨b1,a1,n1,c1,b2,a2,n2,c2,rfl⟩:=hp.shape
 obtain⟨b3,a3,n3,c3,b4,a4,n4,c4,rfl⟩:=hq.shape
 refine in_ref01_Mul (by simp) ?_
 conv=>whnf
 have r1:=hp.rl
 have r2:=hq.rl
 have u1:=rl_num p
 have u2:=rl_den' p
 have u3:=rl_num q
 have u4:=rl_den' q
 refine callE_S (callE_con (Φ:=fun _ w' v w2=>∃n d ok,v= .tuple #[.int .i64 n,.int .i64 d,.bool ok]∧(ok=true→d≠0∧n.natAbs<1073741824∧d.natAbs<1073741824∧Rat.divInt n d=p)) (fun ρ w' r=>quick_c (Rel.old r hS) (hp.rel r hS)) ?_)
 rintro ρ wa1 v1 wb1 r he hb ⟨a,b,k1,rfl,g1⟩
 replace hw:=hw.tr hb
 replace hp:=hp.past (iv':=(wa1.heap.size,wb1.heap.size)::[]) r hS he fun x hx=>List.mem_cons_of_mem _ hx
 replace hq:=hq.past (iv':=(wa1.heap.size,wb1.heap.size)::[]) r hS he fun x hx=>List.mem_cons_of_mem _ hx
 clear r he hb
 generalize (wa1.heap.size,wb1.heap.size)::[]=iv1 at*
 conv=>whnf
 refine callE_S (callE_con (Φ:=fun _ w' v w2=>∃n d ok,v= .tuple #[.int .i64 n,.int .i64 d,.bool ok]∧(ok=true→d≠0∧n.natAbs<1073741824∧d.natAbs<1073741824∧Rat.divInt n d=q)) (fun ρ w' r=>quick_c (Rel.old r hS) (hq.rel r hS)) ?_)
 rintro ρ wa2 v2 wb2 r he hb ⟨c,d,k2,rfl,g2⟩
 replace hw:=hw.tr hb
 replace hp:=hp.past (iv':=(wa2.heap.size,wb2.heap.size)::iv1) r hS he fun x hx=>List.mem_cons_of_mem _ hx
 replace hq:=hq.past (iv':=(wa2.heap.size,wb2.heap.size)::iv1) r hS he fun x hx=>List.mem_cons_of_mem _ hx
 clear r he hb
 generalize (wa2.heap.size,wb2.heap.size)::iv1=iv2 at*
 conv=>whnf
 refine BrS.mk (fun h1=>?_) (fun h1=>?_)
 ·conv=>whnf
  refine BrS.mk (fun h2=>?_) (fun h2=>?_)
  ·obtain⟨g3,g4,g5,g6⟩:=g1 h1
   obtain⟨g7,g8,g9,g10⟩:=g2 h2
   have i1:=divInt_sq g4 g9
   have i2:=divInt_sq g8 g5
   have i3:=divInt_sq g5 g9
   have i4:=divInt_sq g4 g8
   clear hp hq
   conv=>whnf
   refine⟨a*c,by rw[wrap64]<;>omega,?_⟩
   conv=>whnf
   refine⟨b*d,by rw[wrap64]<;>omega,?_⟩
   conv=>whnf
   have e:=Rat.divInt_mul_divInt a c (d₁:=b) (d₂:=d)
   rw[g6,g10]at e
   refine callE_S (callE_con (Φ:=fun _ w' v w2=>RatC w2 (Nw (fun _=>False) w' w2) v (p*q)) (fun ρ w' r=>e▸rlowest_c (a*c) (b*d) w' (by omega) (by omega) (mul_ne g3 g7)) ?_)
   rintro ρ wa3 v3 wb3 r he hb hn
   replace hw:=hw.tr hb
   have hR:=hn.got (S:=fun _=>False) r.baseLe (iv:=(wa3.heap.size,wb3.heap.size)::iv2) List.mem_cons_self
   clear r he hb hn
   generalize (wa3.heap.size,wb3.heap.size)::iv2=iv3 at*
   obtain⟨s3_0,s3_1,s3_2,s3_3,s3_4,s3_5,s3_6,s3_7,rfl⟩:=hR.shape
   conv=>whnf
   intro ρe we re
   exact⟨_,rfl,hw.tr re.bel,hR.out re (oldF w)⟩
  conv=>whnf
  refine drawn_of_pi hτ hmix [.x 0,.x 2,.x 1,.x 3,.x 4,.x 5] (by kernel_rfl) (by kernel_rfl) ?_
  conv=>whnf
  refine callE_con (Φ:=fun _ w' v w2=>RatC w2 (Nw (fun _=>False) w' w2) v (p)) (fun ρ w' r=>rNormal_c (Rel.old r hS) (hp.rel r hS)) ?_
  rintro ρ wa3 v3 wb3 r he hb hn
  replace hw:=hw.tr hb
  clear hp
  replace hq:=hq.past (iv':=(wa3.heap.size,wb3.heap.size)::iv2) r hS he fun x hx=>List.mem_cons_of_mem _ hx
  have hX:=hn.got (S:=fun _=>False) r.baseLe (iv:=(wa3.heap.size,wb3.heap.size)::iv2) List.mem_cons_self
  clear r he hb hn
  generalize (wa3.heap.size,wb3.heap.size)::iv2=iv3 at*
  obtain⟨s3_0,s3_1,s3_2,s3_3,s3_4,s3_5,s3_6,s3_7,rfl⟩:=hX.shape
  conv=>whnf
  refine callE_con (Φ:=fun _ w' v w2=>RatC w2 (Nw (fun _=>False) w' w2) v (q)) (fun ρ w' r=>rNormal_c (Rel.old r hS) (hq.rel r hS)) ?_
  rintro ρ wa4 v4 wb4 r he hb hn
  replace hw:=hw.tr hb
  clear hq
  replace hX:=hX.past (iv':=(wa4.heap.size,wb4.heap.size)::iv3) r (oldF w) he fun x hx=>List.mem_cons_of_mem _ hx
  have hY:=hn.got (S:=fun _=>False) r.baseLe (iv:=(wa4.heap.size,wb4.heap.size)::iv3) List.mem_cons_self
  clear r he hb hn
  generalize (wa4.heap.size,wb4.heap.size)::iv3=iv4 at*
  obtain⟨s4_0,s4_1,s4_2,s4_3,s4_4,s4_5,s4_6,s4_7,rfl⟩:=hY.shape
  conv=>whnf
  have hXn:=hX.num
  have hXd:=hX.den
  clear hX
  have hYn:=hY.num
  have hYd:=hY.den
  clear hY
  have m0:=ln_mul_abs p.num q.den
  have m1:=ln_mul_abs q.num p.den
  have m2:=ln_mul_abs (p.den:Int) q.den
  have m3:=ln_add_int (p.num*q.den) (q.num*p.den)
  have m4:=ln_mul_abs p.num q.num
  refine drawn_of_pi hτ hmix [.x 0,.x 1,.x 2,.x 3,.x 5,.x 6,.x 7,.x 8,.x 4,.x 9,.x 10,.x 11] (by kernel_rfl) (by kernel_rfl) ?_
  conv=>whnf
  refine callE_con (Φ:=fun _ w' v w2=>IntC w2 (Nw (fun _=>False) w' w2) v (p.num*q.num)) (fun ρ w' r=>rProd_c (Rel.old r (oldF w)) ((hXn.rel r (oldF w)).l (k:=100000) (by omega)) ((hYn.rel r (oldF w)).l (k:=100000) (by omega)) (by omega) (by omega)) ?_
  rintro ρ wa5 v5 wb5 r he hb hn
  replace hw:=hw.tr hb
  replace hXn:=hXn.past (iv':=(wa5.heap.size,wb5.heap.size)::iv4) r (oldF w) he fun x hx=>List.mem_cons_of_mem _ hx
  replace hXd:=hXd.past (iv':=(wa5.heap.size,wb5.heap.size)::iv4) r (oldF w) he fun x hx=>List.mem_cons_of_mem _ hx
  replace hYn:=hYn.past (iv':=(wa5.heap.size,wb5.heap.size)::iv4) r (oldF w) he fun x hx=>List.mem_cons_of_mem _ hx
  replace hYd:=hYd.past (iv':=(wa5.heap.size,wb5.heap.size)::iv4) r (oldF w) he fun x hx=>List.mem_cons_of_mem _ hx
  have hN:=hn.got (S:=fun _=>False) r.baseLe (iv:=(wa5.heap.size,wb5.heap.size)::iv4) List.mem_cons_self
  clear r he hb hn
  generalize (wa5.heap.size,wb5.heap.size)::iv4=iv5 at*
  obtain⟨s5_0,s5_1,s5_2,s5_3,rfl⟩:=hN.shape
  conv=>whnf
  refine callE_con (Φ:=fun _ w' v w2=>IntC w2 (Nw (fun _=>False) w' w2) v ((p.den:Int)*(q.den:Int))) (fun ρ w' r=>rProd_c (Rel.old r (oldF w)) ((hXd.rel r (oldF w)).l (k:=100000) (by omega)) ((hYd.rel r (oldF w)).l (k:=100000) (by omega)) (by omega) (by omega)) ?_
  rintro ρ wa6 v6 wb6 r he hb hn
  replace hw:=hw.tr hb
  replace hXn:=hXn.past (iv':=(wa6.heap.size,wb6.heap.size)::iv5) r (oldF w) he fun x hx=>List.mem_cons_of_mem _ hx
  replace hXd:=hXd.past (iv':=(wa6.heap.size,wb6.heap.size)::iv5) r (oldF w) he fun x hx=>List.mem_cons_of_mem _ hx
  replace hYn:=hYn.past (iv':=(wa6.heap.size,wb6.heap.size)::iv5) r (oldF w) he fun x hx=>List.mem_cons_of_mem _ hx
  replace hYd:=hYd.past (iv':=(wa6.heap.size,wb6.heap.size)::iv5) r (oldF w) he fun x hx=>List.mem_cons_of_mem _ hx
  replace hN:=hN.past (iv':=(wa6.heap.size,wb6.heap.size)::iv5) r (oldF w) he fun x hx=>List.mem_cons_of_mem _ hx
  have hD:=hn.got (S:=fun _=>False) r.baseLe (iv:=(wa6.heap.size,wb6.heap.size)::iv5) List.mem_cons_self
  clear r he hb hn
  generalize (wa6.heap.size,wb6.heap.size)::iv5=iv6 at*
  obtain⟨s6_0,s6_1,s6_2,s6_3,rfl⟩:=hD.shape
  conv=>whnf
  refine callE_con (Φ:=fun _ w' v w2=>RatC w2 (Nw (fun _=>False) w' w2) v (p*q)) (fun ρ w' r=>(rat_mul p q)▸rOver_c (Rel.old r (oldF w)) ((hN.rel r (oldF w)).l (k:=200001) (by omega)) ((hD.rel r (oldF w)).l (k:=200001) (by omega)) (by omega) (by omega) (mul_ne (den_ne p) (den_ne q))) ?_
  rintro ρ wa7 v7 wb7 r he hb hn
  replace hw:=hw.tr hb
  clear hXn
  clear hXd
  clear hYn
  clear hYd
  clear hN
  clear hD
  have hR:=hn.got (S:=fun _=>False) r.baseLe (iv:=(wa7.heap.size,wb7.heap.size)::iv6) List.mem_cons_self
  clear r he hb hn
  generalize (wa7.heap.size,wb7.heap.size)::iv6=iv7 at*
  obtain⟨s7_0,s7_1,s7_2,s7_3,s7_4,s7_5,s7_6,s7_7,rfl⟩:=hR.shape
  conv=>whnf
  intro ρe we re
  exact⟨_,rfl,hw.tr re.bel,hR.out re (oldF w)⟩
 conv=>whnf
 refine drawn_of_pi hτ hmix [.x 0,.x 2,.x 1,.x 3,.x 4,.x 5] (by kernel_rfl) (by kernel_rfl) ?_
 conv=>whnf
 refine callE_con (Φ:=fun _ w' v w2=>RatC w2 (Nw (fun _=>False) w' w2) v (p)) (fun ρ w' r=>rNormal_c (Rel.old r hS) (hp.rel r hS)) ?_
 rintro ρ wa3 v3 wb3 r he hb hn
 replace hw:=hw.tr hb
 clear hp
 replace hq:=hq.past (iv':=(wa3.heap.size,wb3.heap.size)::iv2) r hS he fun x hx=>List.mem_cons_of_mem _ hx
 have hX:=hn.got (S:=fun _=>False) r.baseLe (iv:=(wa3.heap.size,wb3.heap.size)::iv2) List.mem_cons_self
 clear r he hb hn
 generalize (wa3.heap.size,wb3.heap.size)::iv2=iv3 at*
 obtain⟨s3_0,s3_1,s3_2,s3_3,s3_4,s3_5,s3_6,s3_7,rfl⟩:=hX.shape
 conv=>whnf
 refine callE_con (Φ:=fun _ w' v w2=>RatC w2 (Nw (fun _=>False) w' w2) v (q)) (fun ρ w' r=>rNormal_c (Rel.old r hS) (hq.rel r hS)) ?_
 rintro ρ wa4 v4 wb4 r he hb hn
 replace hw:=hw.tr hb
 clear hq
 replace hX:=hX.past (iv':=(wa4.heap.size,wb4.heap.size)::iv3) r (oldF w) he fun x hx=>List.mem_cons_of_mem _ hx
 have hY:=hn.got (S:=fun _=>False) r.baseLe (iv:=(wa4.heap.size,wb4.heap.size)::iv3) List.mem_cons_self
 clear r he hb hn
 generalize (wa4.heap.size,wb4.heap.size)::iv3=iv4 at*
 obtain⟨s4_0,s4_1,s4_2,s4_3,s4_4,s4_5,s4_6,s4_7,rfl⟩:=hY.shape
 conv=>whnf
 have hXn:=hX.num
 have hXd:=hX.den
 clear hX
 have hYn:=hY.num
 have hYd:=hY.den
 clear hY
 have m0:=ln_mul_abs p.num q.den
 have m1:=ln_mul_abs q.num p.den
 have m2:=ln_mul_abs (p.den:Int) q.den
 have m3:=ln_add_int (p.num*q.den) (q.num*p.den)
 have m4:=ln_mul_abs p.num q.num
 refine drawn_of_pi hτ hmix [.x 0,.x 1,.x 2,.x 3,.x 5,.x 6,.x 7,.x 8,.x 4,.x 9,.x 10,.x 11] (by kernel_rfl) (by kernel_rfl) ?_
 conv=>whnf
 refine callE_con (Φ:=fun _ w' v w2=>IntC w2 (Nw (fun _=>False) w' w2) v (p.num*q.num)) (fun ρ w' r=>rProd_c (Rel.old r (oldF w)) ((hXn.rel r (oldF w)).l (k:=100000) (by omega)) ((hYn.rel r (oldF w)).l (k:=100000) (by omega)) (by omega) (by omega)) ?_
 rintro ρ wa5 v5 wb5 r he hb hn
 replace hw:=hw.tr hb
 replace hXn:=hXn.past (iv':=(wa5.heap.size,wb5.heap.size)::iv4) r (oldF w) he fun x hx=>List.mem_cons_of_mem _ hx
 replace hXd:=hXd.past (iv':=(wa5.heap.size,wb5.heap.size)::iv4) r (oldF w) he fun x hx=>List.mem_cons_of_mem _ hx
 replace hYn:=hYn.past (iv':=(wa5.heap.size,wb5.heap.size)::iv4) r (oldF w) he fun x hx=>List.mem_cons_of_mem _ hx
 replace hYd:=hYd.past (iv':=(wa5.heap.size,wb5.heap.size)::iv4) r (oldF w) he fun x hx=>List.mem_cons_of_mem _ hx
 have hN:=hn.got (S:=fun _=>False) r.baseLe (iv:=(wa5.heap.size,wb5.heap.size)::iv4) List.mem_cons_self
 clear r he hb hn
 generalize (wa5.heap.size,wb5.heap.size)::iv4=iv5 at*
 obtain⟨s5_0,s5_1,s5_2,s5_3,rfl⟩:=hN.shape
 conv=>whnf
 refine callE_con (Φ:=fun _ w' v w2=>IntC w2 (Nw (fun _=>False) w' w2) v ((p.den:Int)*(q.den:Int))) (fun ρ w' r=>rProd_c (Rel.old r (oldF w)) ((hXd.rel r (oldF w)).l (k:=100000) (by omega)) ((hYd.rel r (oldF w)).l (k:=100000) (by omega)) (by omega) (by omega)) ?_
 rintro ρ wa6 v6 wb6 r he hb hn
 replace hw:=hw.tr hb
 replace hXn:=hXn.past (iv':=(wa6.heap.size,wb6.heap.size)::iv5) r (oldF w) he fun x hx=>List.mem_cons_of_mem _ hx
 replace hXd:=hXd.past (iv':=(wa6.heap.size,wb6.heap.size)::iv5) r (oldF w) he fun x hx=>List.mem_cons_of_mem _ hx
 replace hYn:=hYn.past (iv':=(wa6.heap.size,wb6.heap.size)::iv5) r (oldF w) he fun x hx=>List.mem_cons_of_mem _ hx
 replace hYd:=hYd.past (iv':=(wa6.heap.size,wb6.heap.size)::iv5) r (oldF w) he fun x hx=>List.mem_cons_of_mem _ hx
 replace hN:=hN.past (iv':=(wa6.heap.size,wb6.heap.size)::iv5) r (oldF w) he fun x hx=>List.mem_cons_of_mem _ hx
 have hD:=hn.got (S:=fun _=>False) r.baseLe (iv:=(wa6.heap.size,wb6.heap.size)::iv5) List.mem_cons_self
 clear r he hb hn
 generalize (wa6.heap.size,wb6.heap.size)::iv5=iv6 at*
 obtain⟨s6_0,s6_1,s6_2,s6_3,rfl⟩:=hD.shape
 conv=>whnf
 refine callE_con (Φ:=fun _ w' v w2=>RatC w2 (Nw (fun _=>False) w' w2) v (p*q)) (fun ρ w' r=>(rat_mul p q)▸rOver_c (Rel.old r (oldF w)) ((hN.rel r (oldF w)).l (k:=200001) (by omega)) ((hD.rel r (oldF w)).l (k:=200001) (by omega)) (by omega) (by omega) (mul_ne (den_ne p) (den_ne q))) ?_
 rintro ρ wa7 v7 wb7 r he hb hn
 replace hw:=hw.tr hb
 clear hXn
 clear hXd
 clear hYn
 clear hYd
 clear hN
 clear hD
 have hR:=hn.got (S:=fun _=>False) r.baseLe (iv:=(wa7.heap.size,wb7.heap.size)::iv6) List.mem_cons_self
 clear r he hb hn
 generalize (wa7.heap.size,wb7.heap.size)::iv6=iv7 at*
 obtain⟨s7_0,s7_1,s7_2,s7_3,s7_4,s7_5,s7_6,s7_7,rfl⟩:=hR.shape
 conv=>whnf
 intro ρe we re
 exact⟨_,rfl,hw.tr re.bel,hR.out re (oldF w)⟩

theorem rWholeAll_c(n:Int)(w:World)(h1n: -9223372036854775808≤n)(h2n:n≤9223372036854775807):
  Con PG N.ref01_Whole #[.int .i64 n] w (Ret w fun v' w2=>RatC w2 (Nw (fun _=>False) w w2) v' (n:Rat)):=by
 have hw:Bel w.heap.size w w:=Bel.refl
 have ha:=ln_small h1n h2n
 refine in_ref01_Whole (by simp) ?_
 conv=>whnf
 refine callE_S (callE_con (Φ:=fun _ w' v w2=>IntC w2 (Nw (fun _=>False) w' w2) v (n)) (fun ρ w' r=>rOf_c n w' h1n h2n) ?_)
 rintro ρ wa1 v1 wb1 r he hb hn
 replace hw:=hw.tr hb
 have hA:=hn.got (S:=fun _=>False) r.baseLe (iv:=(wa1.heap.size,wb1.heap.size)::[]) List.mem_cons_self
 clear r he hb hn
 generalize (wa1.heap.size,wb1.heap.size)::[]=iv1 at*
 obtain⟨s1_0,s1_1,s1_2,s1_3,rfl⟩:=hA.shape
 conv=>whnf
 refine callE_S (callE_con (Φ:=fun _ w' v w2=>IntC w2 (Nw (fun _=>False) w' w2) v (1)) (fun ρ w' r=>rOf_c 1 w' (by decide) (by decide)) ?_)
 rintro ρ wa2 v2 wb2 r he hb hn
 replace hw:=hw.tr hb
 replace hA:=hA.past (iv':=(wa2.heap.size,wb2.heap.size)::iv1) r (oldF w) he fun x hx=>List.mem_cons_of_mem _ hx
 have hB:=hn.got (S:=fun _=>False) r.baseLe (iv:=(wa2.heap.size,wb2.heap.size)::iv1) List.mem_cons_self
 clear r he hb hn
 generalize (wa2.heap.size,wb2.heap.size)::iv1=iv2 at*
 obtain⟨s2_0,s2_1,s2_2,s2_3,rfl⟩:=hB.shape
 conv=>whnf
 refine callE_S (callE_con (Φ:=fun _ w' v w2=>RatC w2 (Nw (fun _=>False) w' w2) v ((n:Rat))) (fun ρ w' r=>(divInt_one n)▸rOver_c (Rel.old r (oldF w)) ((hA.rel r (oldF w)).l (k:=2) (by omega)) ((hB.rel r (oldF w)).l (k:=2) (by decide)) (by omega) (by omega) (by decide)) ?_)
 rintro ρ wa3 v3 wb3 r he hb hn
 replace hw:=hw.tr hb
 clear hA
 clear hB
 have hR:=hn.got (S:=fun _=>False) r.baseLe (iv:=(wa3.heap.size,wb3.heap.size)::iv2) List.mem_cons_self
 clear r he hb hn
 generalize (wa3.heap.size,wb3.heap.size)::iv2=iv3 at*
 obtain⟨s3_0,s3_1,s3_2,s3_3,s3_4,s3_5,s3_6,s3_7,rfl⟩:=hR.shape
 conv=>whnf
 intro ρe we re
 exact⟨_,rfl,hw.tr re.bel,hR.out re (oldF w)⟩

end Go.Ex

/- ExactFractions of the laws of chapter 1. Printed by program. No condition. -/
namespace Go.Ex
open Go Go.Sx Go.Proofs

section
variable{S S':Nat→Prop}{H:Hp}{nx:Nat}{iv iv':Iv}{B:Nat}{w w' w2:World}{ρ:Nat→Sx.Val}{v:Value}{a:Int}{b:Int}
end

theorem IntR.short{S:Nat→Prop}{w:World}{b:Bool}{a:Option Addr}{n c k:Nat}{z:Int}(h:IntR w S (.agg #[.bool b,.slice a n c]) z)(hk:n≤k):IntL w S (.agg #[.bool b,.slice a n c]) k z:=by
 obtain⟨b2,ls,⟨lv,e1,h3⟩,h2⟩:=h
 obtain⟨a2,c2,e2,_⟩:=h3.sl
 subst e2
 simp only[Value.agg.injEq,Array.mk.injEq,List.cons.injEq,Value.bool.injEq,Value.slice.injEq,and_true]at e1
 obtain⟨rfl,rfl,e3,rfl⟩:=e1
 exact⟨_,ls,⟨_,by rw[e3],h3⟩,h2,by omega⟩
theorem RatR.shortL{S:Nat→Prop}{w:World}{b1 b2:Bool}{a1 a2:Option Addr}{n1 n2 c1 c2:Nat}{a b:Int}(h:RatR w S (.agg #[.bool b1,.slice a1 n1 c1,.bool b2,.slice a2 n2 c2]) a b)(k1:n1≤3)(k2:n2≤3):
  RatL w S (.agg #[.bool b1,.slice a1 n1 c1,.bool b2,.slice a2 n2 c2]) (ratio a b)∧rl (ratio a b)≤3:=by
 obtain⟨b1,l1,b2,l2,e,h1,h2⟩:=h
 simp only[Value.agg.injEq,Array.mk.injEq,List.cons.injEq,Value.bool.injEq,and_true]at e
 obtain⟨rfl,rfl,rfl,rfl⟩:=e
 have i1:=h1.short k1
 have i2:=h2.short k2
 have q1:=i1.ln
 have q2:=i2.ln
 have q3:=rl_ratio a b
 exact⟨⟨_,_,_,_,a,b,rfl,i1.up (by omega),i2.up (by omega),rfl⟩,by omega⟩
end Go.Ex

/- Lists and matrices of fractions by their values; Small of the laws of chapter 1. Printed by program. No condition but sizes. -/
namespace Go.Ex
open Go Go.Sx Go.Proofs

/-- the four cells of a fraction of the api, by its value -/
def Rat4L(w:World)(S:Nat→Prop)(cs:List Value)(q:Rat):Prop:=∃b a n c b2 a2 n2 c2,cs=[.bool b,.slice a n c,.bool b2,.slice a2 n2 c2]∧RatL w S (.agg #[.bool b,.slice a n c,.bool b2,.slice a2 n2 c2]) q
abbrev RatsL:=ListR Rat4L
abbrev RatML:=SlicesR RatsL
section
variable{S S':Nat→Prop}{H:Hp}{nx:Nat}{iv iv':Iv}{B:Nat}{w w' w2:World}{ρ:Nat→Sx.Val}{v:Value}{qs:List Rat}{cs:List Value}{q:Rat}
theorem Rat4L.keep(h:Rat4L w S cs q)(hk:∀g,S g→w2.heap[g]? =w.heap[g]?):Rat4L w2 S cs q:=by
 obtain⟨b,a,n,c,b2,a2,n2,c2,h1,h2⟩:=h;exact⟨b,a,n,c,b2,a2,n2,c2,h1,h2.keep hk⟩
theorem Rat4L.weak(h:Rat4L w S cs q)(hk:∀g,S g→S' g):Rat4L w S' cs q:=by
 obtain⟨b,a,n,c,b2,a2,n2,c2,h1,h2⟩:=h;exact⟨b,a,n,c,b2,a2,n2,c2,h1,h2.weak hk⟩
theorem RatsL.keep(h:RatsL w S v qs)(hk:∀g,S g→w2.heap[g]? =w.heap[g]?):RatsL w2 S v qs:=by
 obtain⟨css,h1,h2,h3,h4⟩:=h;exact⟨css,h1.keep hk,h2,h3,fun j cs x k1 k2=>(h4 j cs x k1 k2).keep hk⟩
theorem RatsL.weak(h:RatsL w S v qs)(hk:∀g,S g→S' g):RatsL w S' v qs:=by
 obtain⟨css,h1,h2,h3,h4⟩:=h;exact⟨css,h1.weak hk,h2,h3,fun j cs x k1 k2=>(h4 j cs x k1 k2).weak hk⟩
theorem RatML.keep{M:List (List Rat)}(h:RatML w S v M)(hk:∀g,S g→w2.heap[g]? =w.heap[g]?):RatML w2 S v M:=by
 obtain⟨rv,h1,h2,h3⟩:=h;exact⟨rv,h1.keep hk,h2,fun i u x k1 k2=>RatsL.keep (h3 i u x k1 k2) hk⟩
end
section
variable{S S':Nat→Prop}{H:Hp}{nx:Nat}{iv iv':Iv}{B:Nat}{w w' w2:World}{ρ:Nat→Sx.Val}{v:Value}{qs:List Rat}
end
section
variable{S S':Nat→Prop}{H:Hp}{nx:Nat}{iv iv':Iv}{B:Nat}{w w' w2:World}{ρ:Nat→Sx.Val}{v:Value}{M:List (List Rat)}
end

def headOf:List Value→Head×Head
 |[.bool b,.slice a n c,.bool b2,.slice a2 n2 c2]=>((b,a,n,c),(b2,a2,n2,c2))
 |_=>((false,none,0,0),(false,none,0,0))
theorem rheads_flat{css:List (List Value)}(h:∀cs∈css,∃b a n c b2 a2 n2 c2,cs=[.bool b,.slice a n c,.bool b2,.slice a2 n2 c2]):rheads (css.map headOf)=css.flatten:=by
 induction css with
 |nil=>rfl
 |cons cs r ih=>
  obtain⟨b,a,n,c,b2,a2,n2,c2,rfl⟩:=h cs List.mem_cons_self
  rw[List.map_cons,List.flatten_cons,←ih fun x hx=>h x (List.mem_cons_of_mem _ hx)]
  rfl
/-- a list of fractions, as brief reads it -/
theorem RatsR.brief{S:Nat→Prop}{w:World}{v:Value}{xs:List (Int×Int)}(h:RatsR w S v xs):
  ∃ks:List (Head×Head),SeqR w S 4 v (rheads ks) ks.length∧((∀k∈ks,k.1.2.2.1≤3∧k.2.2.2.1≤3)→RatsL w S v (xs.map ratioP)∧(∀q∈xs.map ratioP,rl q≤3)∧Few xs):=by
 obtain⟨css,h1,h2,h3,h4⟩:=h
 have hform:∀(j:Nat) cs,css[j]? =some cs→∃x,xs[j]? =some x∧Rat4 w S cs x:=fun j cs hj=>by
  obtain⟨x,hx⟩:∃x,xs[j]? =some x:=⟨_,List.getElem?_eq_getElem (by rw[←h2];exact(List.getElem?_eq_some_iff.1 hj).1)⟩
  exact⟨x,hx,h4 j cs x hj hx⟩
 have hf:∀cs∈css,∃b a n c b2 a2 n2 c2,cs=[Value.bool b,.slice a n c,.bool b2,.slice a2 n2 c2]:=fun cs hc=>by
  obtain⟨j,hj,rfl⟩:=List.mem_iff_getElem.1 hc
  obtain⟨x,_,b,a,n,c,b2,a2,n2,c2,e,_⟩:=hform j _ (List.getElem?_eq_getElem hj)
  exact⟨b,a,n,c,b2,a2,n2,c2,e⟩
 refine⟨css.map headOf,by rw[rheads_flat hf,List.length_map,h2];exact h1,fun hk=>?_⟩
 have key:∀(j:Nat) cs x,css[j]? =some cs→xs[j]? =some x→Rat4L w S cs (ratioP x)∧rl (ratioP x)≤3∧ln x.1.natAbs≤10000000000∧ln x.2.natAbs≤10000000000:=fun j cs x k1 k2=>by
  obtain⟨b,a,n,c,b2,a2,n2,c2,rfl,hr⟩:=h4 j cs x k1 k2
  have:=hk _ (List.mem_map.2 ⟨_,List.mem_of_getElem? k1,rfl⟩)
  obtain⟨r1,r2⟩:=hr.shortL this.1 this.2
  obtain⟨_,_,_,_,e,i1,i2⟩:=hr
  simp only[Value.agg.injEq,Array.mk.injEq,List.cons.injEq,Value.bool.injEq,and_true]at e
  obtain⟨rfl,rfl,rfl,rfl⟩:=e
  have l1:=(i1.short this.1).ln
  have l2:=(i2.short this.2).ln
  exact⟨⟨b,a,n,c,b2,a2,n2,c2,rfl,r1⟩,r2,by omega,by omega⟩
 refine⟨⟨css,by rw[List.length_map];exact h1,by rw[List.length_map];exact h2,h3,fun j cs q k1 k2=>?_⟩,fun q hq=>?_,fun x hx=>?_⟩
 ·rw[List.getElem?_map]at k2
  obtain⟨x,hx,rfl⟩:=Option.map_eq_some_iff.1 k2
  exact(key j cs x k1 hx).1
 ·obtain⟨x,hx,rfl⟩:=List.mem_map.1 hq
  obtain⟨j,hj,rfl⟩:=List.mem_iff_getElem.1 hx
  exact(key j _ _ (List.getElem?_eq_getElem (by rw[h2];exact hj)) (List.getElem?_eq_getElem hj)).2.1
 ·obtain⟨j,hj,rfl⟩:=List.mem_iff_getElem.1 hx
  exact(key j _ _ (List.getElem?_eq_getElem (by rw[h2];exact hj)) (List.getElem?_eq_getElem hj)).2.2
def Sized(n:Nat):Prop:=n≤5∨60<n∧n≤65
/-- a matrix that the laws are told for -/
def SmallM(w:World)(S:Nat→Prop)(v:Value)(M:List (List (Int×Int))):Prop:=Sized M.length∧(∀r∈M,Sized r.length)∧RatML w S v (valsM M)∧(∀r∈valsM M,∀q∈r,rl q≤3)∧∀r∈M,Few r
theorem smallM_c{S:Nat→Prop}{w:World}{v:Value}{M:List (List (Int×Int))}(hS:Old S w)(h:RatMR w S v M):
  Con PG N.law01_Small #[v] w (Ret w fun v' _=>∃d,v'= .bool d∧(d=true→SmallM w S v M)):=by
 have hw:Bel w.heap.size w w:=Bel.refl
 obtain⟨rv,⟨h0,hl0,h1,a,c,rfl,hc,hcell⟩,hl,hrow⟩:=h
 unfold maxLen at h0
 refine in_law01_Small (by simp) ?_
 conv=>whnf
 refine BrS.mk (fun h5=>?_) (fun h5=>?_)
 ·have h5:=of_decide_eq_true h5
  conv=>whnf
  refine BrS.mk (fun h60=>?_) (fun h60=>?_)
  ·have h60:=of_decide_eq_true h60
   conv=>whnf
   intro ρe we re
   exact⟨_,rfl,hw.tr re.bel,⟨false,rfl,fun h=>by cases h⟩⟩
  have h60:=of_decide_eq_false h60
  conv=>whnf
  refine BrS.mk (fun h65=>?_) (fun h65=>?_)
  ·have h65:=of_decide_eq_true h65
   conv=>whnf
   intro ρe we re
   exact⟨_,rfl,hw.tr re.bel,⟨false,rfl,fun h=>by cases h⟩⟩
  have h65:=of_decide_eq_false h65
  conv=>whnf
  refine⟨Nat×World×Iv,fun z=>⟨[(0,.o (.v (.slice a M.length c))),(3,.o (.v (.int .i64 ((z.1:Nat):Int))))],[],0,z.2.2,z.2.1⟩,fun z=>M.length-z.1,
   fun z=>z.1≤M.length∧Bel w.heap.size w z.2.1∧∀(j:Nat) r u,j<z.1→M[j]? =some r→rv[j]? =some u→Sized r.length∧RatsL w S u (r.map ratioP)∧(∀q∈r.map ratioP,rl q≤3)∧Few r,?_,?_⟩
  ·intro ρ w' r
   exact⟨(0,w',[]),⟨by simp,hw.tr r.bel,fun j r u hj=>by dsimp only at hj;omega⟩,Sub.gen [] r trivial ⟨rfl,rfl,trivial⟩ (by simp[ScH]) (by simp[ScE,SV.sc,At.sc]) (by rfl) (by simp)⟩
  clear hw
  rintro⟨i,w1,iv⟩ ⟨hi,hw,ht⟩
  dsimp only at hi hw ht ⊢
  conv=>whnf
  refine BrS.mk (fun hib=>?_) (fun hib=>?_)
  ·have hib:i<M.length:=by simpa using hib
   obtain⟨r0,hr0⟩:∃r,M[i]? =some r:=⟨_,List.getElem?_eq_getElem hib⟩
   obtain⟨u,hu⟩:∃u,rv[i]? =some u:=⟨_,List.getElem?_eq_getElem (by omega)⟩
   have hR:=hrow i u r0 hu hr0
   obtain⟨ad,ha0,q1,q2⟩:=hcell i u hu
   obtain⟨au,cu,rfl,hcu,-⟩:=ListR.shape hR
   have hld:∀{H nx iv ρ w'},Rel H nx iv w.heap.size w1 ρ w'→w'.cell? (ad.add ((i:Int).toNat*1))=some (.slice au r0.length cu):=fun r=>by
    rw[Int.toNat_natCast,Nat.mul_one];exact cellS hS hw r q1 q2
   conv=>whnf
   refine⟨ad,ha0,⟨by omega,by omega⟩,?_⟩
   conv=>whnf
   refine⟨.slice au r0.length cu,fun ρ w' r=>hld r,?_⟩
   conv=>whnf
   refine BrS.mk (fun h5=>?_) (fun h5=>?_)
   ·have h5:=of_decide_eq_true h5
    conv=>whnf
    refine⟨ad,ha0,⟨by omega,by omega⟩,?_⟩
    conv=>whnf
    refine⟨.slice au r0.length cu,fun ρ w' r=>hld r,?_⟩
    conv=>whnf
    refine BrS.mk (fun h60=>?_) (fun h60=>?_)
    ·have h60:=of_decide_eq_true h60
     conv=>whnf
     intro ρe we re
     exact⟨_,rfl,hw.tr re.bel,⟨false,rfl,fun h=>by cases h⟩⟩
    have h60:=of_decide_eq_false h60
    conv=>whnf
    refine⟨ad,ha0,⟨by omega,by omega⟩,?_⟩
    conv=>whnf
    refine⟨.slice au r0.length cu,fun ρ w' r=>hld r,?_⟩
    conv=>whnf
    refine BrS.mk (fun h65=>?_) (fun h65=>?_)
    ·have h65:=of_decide_eq_true h65
     conv=>whnf
     intro ρe we re
     exact⟨_,rfl,hw.tr re.bel,⟨false,rfl,fun h=>by cases h⟩⟩
    have h65:=of_decide_eq_false h65
    conv=>whnf
    refine⟨ad,ha0,⟨by omega,by omega⟩,?_⟩
    conv=>whnf
    refine⟨.slice au r0.length cu,fun ρ w' r=>hld r,?_⟩
    conv=>whnf
    obtain⟨ks,hks,hbr⟩:=RatsR.brief hR
    refine callE_S (callE_con (Φ:=fun _ w' v w2=>v= .bool (decide (∀k∈ks,k.1.2.2.1≤3∧k.2.2.2.1≤3))) (fun ρ w' r=>brief_c (fun g hg=>by have:=hS g hg;have:=r.baseLe;omega) (hks.keep fun g hg=>(hw.tr r.bel).block g (hS g hg))) ?_)
    rintro ρ wa1 v1 wb1 r he hb rfl
    replace hw:=hw.tr hb
    clear r he hb
    generalize (wa1.heap.size,wb1.heap.size)::iv=iv1 at*
    conv=>whnf
    clear hld
    refine BrS.mk (fun hb0=>?_) (fun hb0=>?_)
    ·conv=>whnf
     intro ρe we re
     exact⟨_,rfl,hw.tr re.bel,⟨false,rfl,fun h=>by cases h⟩⟩
    have hb1:=of_decide_eq_true (show decide (∀k∈ks,k.1.2.2.1≤3∧k.2.2.2.1≤3)=true by simpa using hb0)
    conv=>whnf
    refine⟨((i+1:Nat):Int),by rw[wrap64]<;>omega,?_⟩
    conv=>whnf
    intro ρ3 w3 r3
    refine⟨(i+1,w3,_),⟨by dsimp only;omega,hw.tr r3.bel,fun j r u hj k1 k2=>?_⟩,Sub.gen [] r3 trivial ⟨rfl,rfl,trivial⟩ (by simp[ScH]) (by simp[ScE,SV.sc,At.sc]) (by rfl) (fun lo hi h=>h),by dsimp only;omega⟩
    rcases Nat.lt_or_ge j i with hj2|hj2
    ·exact ht j r u hj2 k1 k2
    ·obtain rfl:j=i:=by dsimp only at hj;omega
     rw[hr0]at k1
     rw[hu]at k2
     injection k1 with k1
     injection k2 with k2
     subst k1 k2
     exact⟨by unfold Sized;omega,hbr hb1⟩
   have h5:=of_decide_eq_false h5
   conv=>whnf
   refine⟨ad,ha0,⟨by omega,by omega⟩,?_⟩
   conv=>whnf
   refine⟨.slice au r0.length cu,fun ρ w' r=>hld r,?_⟩
   conv=>whnf
   refine BrS.mk (fun h65=>?_) (fun h65=>?_)
   ·have h65:=of_decide_eq_true h65
    conv=>whnf
    intro ρe we re
    exact⟨_,rfl,hw.tr re.bel,⟨false,rfl,fun h=>by cases h⟩⟩
   have h65:=of_decide_eq_false h65
   conv=>whnf
   refine⟨ad,ha0,⟨by omega,by omega⟩,?_⟩
   conv=>whnf
   refine⟨.slice au r0.length cu,fun ρ w' r=>hld r,?_⟩
   conv=>whnf
   obtain⟨ks,hks,hbr⟩:=RatsR.brief hR
   refine callE_S (callE_con (Φ:=fun _ w' v w2=>v= .bool (decide (∀k∈ks,k.1.2.2.1≤3∧k.2.2.2.1≤3))) (fun ρ w' r=>brief_c (fun g hg=>by have:=hS g hg;have:=r.baseLe;omega) (hks.keep fun g hg=>(hw.tr r.bel).block g (hS g hg))) ?_)
   rintro ρ wa1 v1 wb1 r he hb rfl
   replace hw:=hw.tr hb
   clear r he hb
   generalize (wa1.heap.size,wb1.heap.size)::iv=iv1 at*
   conv=>whnf
   clear hld
   refine BrS.mk (fun hb0=>?_) (fun hb0=>?_)
   ·conv=>whnf
    intro ρe we re
    exact⟨_,rfl,hw.tr re.bel,⟨false,rfl,fun h=>by cases h⟩⟩
   have hb1:=of_decide_eq_true (show decide (∀k∈ks,k.1.2.2.1≤3∧k.2.2.2.1≤3)=true by simpa using hb0)
   conv=>whnf
   refine⟨((i+1:Nat):Int),by rw[wrap64]<;>omega,?_⟩
   conv=>whnf
   intro ρ3 w3 r3
   refine⟨(i+1,w3,_),⟨by dsimp only;omega,hw.tr r3.bel,fun j r u hj k1 k2=>?_⟩,Sub.gen [] r3 trivial ⟨rfl,rfl,trivial⟩ (by simp[ScH]) (by simp[ScE,SV.sc,At.sc]) (by rfl) (fun lo hi h=>h),by dsimp only;omega⟩
   rcases Nat.lt_or_ge j i with hj2|hj2
   ·exact ht j r u hj2 k1 k2
   ·obtain rfl:j=i:=by dsimp only at hj;omega
    rw[hr0]at k1
    rw[hu]at k2
    injection k1 with k1
    injection k2 with k2
    subst k1 k2
    exact⟨by unfold Sized;omega,hbr hb1⟩
  have hib:i=M.length:=by
   have:¬i<M.length:=by simpa using hib
   omega
  subst hib
  conv=>whnf
  have hgood:SmallM w S (.slice a M.length c) M:=by
   refine⟨by unfold Sized;omega,fun r hr=>?_,⟨rv,?_,by rw[hl];simp[valsM],fun j u q k1 k2=>?_⟩,fun r hr q hq=>?_,fun r hr=>?_⟩
   ·obtain⟨j,hj,rfl⟩:=List.mem_iff_getElem.1 hr
    exact(ht j _ _ hj (List.getElem?_eq_getElem hj) (List.getElem?_eq_getElem (by rw[hl];exact hj))).1
   ·rw[show (valsM M).length=M.length by simp[valsM]]
    exact⟨by unfold maxLen;omega,hl0,h1,a,c,rfl,hc,hcell⟩
   ·rw[valsM,List.getElem?_map]at k2
    obtain⟨x,hx,rfl⟩:=Option.map_eq_some_iff.1 k2
    exact(ht j x u (List.getElem?_eq_some_iff.1 hx).1 hx k1).2.1
   ·rw[valsM]at hr
    obtain⟨x,hx,rfl⟩:=List.mem_map.1 hr
    obtain⟨j,hj,rfl⟩:=List.mem_iff_getElem.1 hx
    exact(ht j _ _ hj (List.getElem?_eq_getElem hj) (List.getElem?_eq_getElem (by rw[hl];exact hj))).2.2.1 q hq
   ·obtain⟨j,hj,rfl⟩:=List.mem_iff_getElem.1 hr
    exact(ht j _ _ hj (List.getElem?_eq_getElem hj) (List.getElem?_eq_getElem (by rw[hl];exact hj))).2.2.2
  intro ρe we re
  exact⟨_,rfl,hw.tr re.bel,⟨true,rfl,fun _=>hgood⟩⟩
 have h5:=of_decide_eq_false h5
 conv=>whnf
 refine BrS.mk (fun h65=>?_) (fun h65=>?_)
 ·have h65:=of_decide_eq_true h65
  conv=>whnf
  intro ρe we re
  exact⟨_,rfl,hw.tr re.bel,⟨false,rfl,fun h=>by cases h⟩⟩
 have h65:=of_decide_eq_false h65
 conv=>whnf
 refine⟨Nat×World×Iv,fun z=>⟨[(0,.o (.v (.slice a M.length c))),(3,.o (.v (.int .i64 ((z.1:Nat):Int))))],[],0,z.2.2,z.2.1⟩,fun z=>M.length-z.1,
  fun z=>z.1≤M.length∧Bel w.heap.size w z.2.1∧∀(j:Nat) r u,j<z.1→M[j]? =some r→rv[j]? =some u→Sized r.length∧RatsL w S u (r.map ratioP)∧(∀q∈r.map ratioP,rl q≤3)∧Few r,?_,?_⟩
 ·intro ρ w' r
  exact⟨(0,w',[]),⟨by simp,hw.tr r.bel,fun j r u hj=>by dsimp only at hj;omega⟩,Sub.gen [] r trivial ⟨rfl,rfl,trivial⟩ (by simp[ScH]) (by simp[ScE,SV.sc,At.sc]) (by rfl) (by simp)⟩
 clear hw
 rintro⟨i,w1,iv⟩ ⟨hi,hw,ht⟩
 dsimp only at hi hw ht ⊢
 conv=>whnf
 refine BrS.mk (fun hib=>?_) (fun hib=>?_)
 ·have hib:i<M.length:=by simpa using hib
  obtain⟨r0,hr0⟩:∃r,M[i]? =some r:=⟨_,List.getElem?_eq_getElem hib⟩
  obtain⟨u,hu⟩:∃u,rv[i]? =some u:=⟨_,List.getElem?_eq_getElem (by omega)⟩
  have hR:=hrow i u r0 hu hr0
  obtain⟨ad,ha0,q1,q2⟩:=hcell i u hu
  obtain⟨au,cu,rfl,hcu,-⟩:=ListR.shape hR
  have hld:∀{H nx iv ρ w'},Rel H nx iv w.heap.size w1 ρ w'→w'.cell? (ad.add ((i:Int).toNat*1))=some (.slice au r0.length cu):=fun r=>by
   rw[Int.toNat_natCast,Nat.mul_one];exact cellS hS hw r q1 q2
  conv=>whnf
  refine⟨ad,ha0,⟨by omega,by omega⟩,?_⟩
  conv=>whnf
  refine⟨.slice au r0.length cu,fun ρ w' r=>hld r,?_⟩
  conv=>whnf
  refine BrS.mk (fun h5=>?_) (fun h5=>?_)
  ·have h5:=of_decide_eq_true h5
   conv=>whnf
   refine⟨ad,ha0,⟨by omega,by omega⟩,?_⟩
   conv=>whnf
   refine⟨.slice au r0.length cu,fun ρ w' r=>hld r,?_⟩
   conv=>whnf
   refine BrS.mk (fun h60=>?_) (fun h60=>?_)
   ·have h60:=of_decide_eq_true h60
    conv=>whnf
    intro ρe we re
    exact⟨_,rfl,hw.tr re.bel,⟨false,rfl,fun h=>by cases h⟩⟩
   have h60:=of_decide_eq_false h60
   conv=>whnf
   refine⟨ad,ha0,⟨by omega,by omega⟩,?_⟩
   conv=>whnf
   refine⟨.slice au r0.length cu,fun ρ w' r=>hld r,?_⟩
   conv=>whnf
   refine BrS.mk (fun h65=>?_) (fun h65=>?_)
   ·have h65:=of_decide_eq_true h65
    conv=>whnf
    intro ρe we re
    exact⟨_,rfl,hw.tr re.bel,⟨false,rfl,fun h=>by cases h⟩⟩
   have h65:=of_decide_eq_false h65
   conv=>whnf
   refine⟨ad,ha0,⟨by omega,by omega⟩,?_⟩
   conv=>whnf
   refine⟨.slice au r0.length cu,fun ρ w' r=>hld r,?_⟩
   conv=>whnf
   obtain⟨ks,hks,hbr⟩:=RatsR.brief hR
   refine callE_S (callE_con (Φ:=fun _ w' v w2=>v= .bool (decide (∀k∈ks,k.1.2.2.1≤3∧k.2.2.2.1≤3))) (fun ρ w' r=>brief_c (fun g hg=>by have:=hS g hg;have:=r.baseLe;omega) (hks.keep fun g hg=>(hw.tr r.bel).block g (hS g hg))) ?_)
   rintro ρ wa1 v1 wb1 r he hb rfl
   replace hw:=hw.tr hb
   clear r he hb
   generalize (wa1.heap.size,wb1.heap.size)::iv=iv1 at*
   conv=>whnf
   clear hld
   refine BrS.mk (fun hb0=>?_) (fun hb0=>?_)
   ·conv=>whnf
    intro ρe we re
    exact⟨_,rfl,hw.tr re.bel,⟨false,rfl,fun h=>by cases h⟩⟩
   have hb1:=of_decide_eq_true (show decide (∀k∈ks,k.1.2.2.1≤3∧k.2.2.2.1≤3)=true by simpa using hb0)
   conv=>whnf
   refine⟨((i+1:Nat):Int),by rw[wrap64]<;>omega,?_⟩
   conv=>whnf
   intro ρ3 w3 r3
   refine⟨(i+1,w3,_),⟨by dsimp only;omega,hw.tr r3.bel,fun j r u hj k1 k2=>?_⟩,Sub.gen [] r3 trivial ⟨rfl,rfl,trivial⟩ (by simp[ScH]) (by simp[ScE,SV.sc,At.sc]) (by rfl) (fun lo hi h=>h),by dsimp only;omega⟩
   rcases Nat.lt_or_ge j i with hj2|hj2
   ·exact ht j r u hj2 k1 k2
   ·obtain rfl:j=i:=by dsimp only at hj;omega
    rw[hr0]at k1
    rw[hu]at k2
    injection k1 with k1
    injection k2 with k2
    subst k1 k2
    exact⟨by unfold Sized;omega,hbr hb1⟩
  have h5:=of_decide_eq_false h5
  conv=>whnf
  refine⟨ad,ha0,⟨by omega,by omega⟩,?_⟩
  conv=>whnf
  refine⟨.slice au r0.length cu,fun ρ w' r=>hld r,?_⟩
  conv=>whnf
  refine BrS.mk (fun h65=>?_) (fun h65=>?_)
  ·have h65:=of_decide_eq_true h65
   conv=>whnf
   intro ρe we re
   exact⟨_,rfl,hw.tr re.bel,⟨false,rfl,fun h=>by cases h⟩⟩
  have h65:=of_decide_eq_false h65
  conv=>whnf
  refine⟨ad,ha0,⟨by omega,by omega⟩,?_⟩
  conv=>whnf
  refine⟨.slice au r0.length cu,fun ρ w' r=>hld r,?_⟩
  conv=>whnf
  obtain⟨ks,hks,hbr⟩:=RatsR.brief hR
  refine callE_S (callE_con (Φ:=fun _ w' v w2=>v= .bool (decide (∀k∈ks,k.1.2.2.1≤3∧k.2.2.2.1≤3))) (fun ρ w' r=>brief_c (fun g hg=>by have:=hS g hg;have:=r.baseLe;omega) (hks.keep fun g hg=>(hw.tr r.bel).block g (hS g hg))) ?_)
  rintro ρ wa1 v1 wb1 r he hb rfl
  replace hw:=hw.tr hb
  clear r he hb
  generalize (wa1.heap.size,wb1.heap.size)::iv=iv1 at*
  conv=>whnf
  clear hld
  refine BrS.mk (fun hb0=>?_) (fun hb0=>?_)
  ·conv=>whnf
   intro ρe we re
   exact⟨_,rfl,hw.tr re.bel,⟨false,rfl,fun h=>by cases h⟩⟩
  have hb1:=of_decide_eq_true (show decide (∀k∈ks,k.1.2.2.1≤3∧k.2.2.2.1≤3)=true by simpa using hb0)
  conv=>whnf
  refine⟨((i+1:Nat):Int),by rw[wrap64]<;>omega,?_⟩
  conv=>whnf
  intro ρ3 w3 r3
  refine⟨(i+1,w3,_),⟨by dsimp only;omega,hw.tr r3.bel,fun j r u hj k1 k2=>?_⟩,Sub.gen [] r3 trivial ⟨rfl,rfl,trivial⟩ (by simp[ScH]) (by simp[ScE,SV.sc,At.sc]) (by rfl) (fun lo hi h=>h),by dsimp only;omega⟩
  rcases Nat.lt_or_ge j i with hj2|hj2
  ·exact ht j r u hj2 k1 k2
  ·obtain rfl:j=i:=by dsimp only at hj;omega
   rw[hr0]at k1
   rw[hu]at k2
   injection k1 with k1
   injection k2 with k2
   subst k1 k2
   exact⟨by unfold Sized;omega,hbr hb1⟩
 have hib:i=M.length:=by
  have:¬i<M.length:=by simpa using hib
  omega
 subst hib
 conv=>whnf
 have hgood:SmallM w S (.slice a M.length c) M:=by
  refine⟨by unfold Sized;omega,fun r hr=>?_,⟨rv,?_,by rw[hl];simp[valsM],fun j u q k1 k2=>?_⟩,fun r hr q hq=>?_,fun r hr=>?_⟩
  ·obtain⟨j,hj,rfl⟩:=List.mem_iff_getElem.1 hr
   exact(ht j _ _ hj (List.getElem?_eq_getElem hj) (List.getElem?_eq_getElem (by rw[hl];exact hj))).1
  ·rw[show (valsM M).length=M.length by simp[valsM]]
   exact⟨by unfold maxLen;omega,hl0,h1,a,c,rfl,hc,hcell⟩
  ·rw[valsM,List.getElem?_map]at k2
   obtain⟨x,hx,rfl⟩:=Option.map_eq_some_iff.1 k2
   exact(ht j x u (List.getElem?_eq_some_iff.1 hx).1 hx k1).2.1
  ·rw[valsM]at hr
   obtain⟨x,hx,rfl⟩:=List.mem_map.1 hr
   obtain⟨j,hj,rfl⟩:=List.mem_iff_getElem.1 hx
   exact(ht j _ _ hj (List.getElem?_eq_getElem hj) (List.getElem?_eq_getElem (by rw[hl];exact hj))).2.2.1 q hq
  ·obtain⟨j,hj,rfl⟩:=List.mem_iff_getElem.1 hr
   exact(ht j _ _ hj (List.getElem?_eq_getElem hj) (List.getElem?_eq_getElem (by rw[hl];exact hj))).2.2.2
 intro ρe we re
 exact⟨_,rfl,hw.tr re.bel,⟨true,rfl,fun _=>hgood⟩⟩
end Go.Ex

/- Plus of the reference. Printed by program. No condition but sizes. -/
namespace Go.Ex
open Go Go.Sx Go.Proofs

section
variable{S S':Nat→Prop}{H:Hp}{nx:Nat}{iv iv':Iv}{B:Nat}{w w' w2:World}{ρ:Nat→Sx.Val}{css:List (List Value)}{qs:List Rat}
end
end Go.Ex

/- Echelon of the reference. Printed by program. No condition but sizes. -/
namespace Go.Ex
open Go Go.Sx Go.Proofs

theorem RatsC.l{S:Nat→Prop}{w:World}{v:Value}{qs:List Rat}(h:RatsC w S v qs)(hq:∀q∈qs,rl q≤100000):RatsL w S v qs:=by
 obtain⟨css,h1,h2,h3,h4⟩:=h
 refine⟨css,h1,h2,h3,fun j cs q k1 k2=>?_⟩
 obtain⟨b,a,n,c,b2,a2,n2,c2,e,hc⟩:=h4 j cs q k1 k2
 exact⟨b,a,n,c,b2,a2,n2,c2,e,hc.l (hq q (List.mem_of_getElem? k2))⟩
section
variable{S S':Nat→Prop}{H:Hp}{nx:Nat}{iv iv':Iv}{B:Nat}{w w' w2:World}{ρ:Nat→Sx.Val}{rv:List Value}{M:List (List Rat)}
end
end Go.Ex
