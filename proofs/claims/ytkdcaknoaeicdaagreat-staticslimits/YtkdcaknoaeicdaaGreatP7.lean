/- A part of the proof: texts X54 to L11. Each tells its conditions in its theorems. -/
import Derived.Test.YtkdcaknoaeicdaaGreatP5
import Derived.Test.YtkdcaknoaeicdaaGreatP6
/- The fractions that package exact exports. Printed by program. No condition but sizes. -/
namespace Go.Ex
open Go Go.Sx Go.Proofs

theorem pubNormal_c{S:Nat→Prop}{w:World}{v:Value}{x1 x2:Int}(hS:Old S w)(hx:RatR w S v x1 x2)(hl0:ln x1.natAbs≤100000)(hl1:ln x2.natAbs≤100000):
  Con PG N.exact_Normal #[v] w (Ret w fun v' w2=>RatC w2 (Nw (fun _=>False) w w2) v' (ratio x1 x2)):=by
 have hw:Bel w.heap.size w w:=Bel.refl
 have r1:=rl_ratio x1 x2
 replace hx:=hx.weak (S':=Cv S w.heap.size []) fun _ h=>.inl h
 obtain⟨b1,a1,n1,c1,b2,a2,n2,c2,rfl⟩:=hx.shape
 refine in_exact_Normal (by simp) ?_
 conv=>whnf
 refine callE_S (cE hw (Φ:=fun _ w' v w2=>FracR w2 (Nw (fun _=>False) w' w2) v ((ratio x1 x2))) (fun ρ w' r=>value_c (Rel.old r hS) (hx.rel r hS) (by omega) (by omega)) ?_)
 rintro ρ wa1 v1 wb1 iv1 r he hw h_ hn
 clear hx
 have hX:=hn.got (S:=fun _=>False) r.baseLe (mN h_)
 clear r
 obtain⟨s1_0,s1_1,s1_2,s1_3,s1_4,s1_5,s1_6,s1_7,rfl⟩:=hX.shape
 conv=>whnf
 refine callE_S (cE hw (Φ:=fun _ w' v w2=>RatC w2 (Nw (fun _=>False) w' w2) v ((ratio x1 x2))) (fun ρ w' r=>fgive_c (Rel.old r (oldF w)) (hX.rel r (oldF w)) (by omega)) ?_)
 rintro ρ wa2 v2 wb2 iv2 r he hw h_ hn
 clear hX
 have hC:=hn.got (S:=fun _=>False) r.baseLe (mN h_)
 clear r
 obtain⟨s2_0,s2_1,s2_2,s2_3,s2_4,s2_5,s2_6,s2_7,rfl⟩:=hC.shape
 conv=>whnf
 intro ρe we re
 exact⟨_,rfl,hw.tr re.bel,hC.out re (oldF w)⟩

theorem pubAdd_c{S:Nat→Prop}{w:World}{v u:Value}{x1 x2 y1 y2:Int}(hS:Old S w)(hx:RatR w S v x1 x2)(hy:RatR w S u y1 y2)(hl0:ln x1.natAbs≤100000)(hl1:ln x2.natAbs≤100000)(hl2:ln y1.natAbs≤100000)(hl3:ln y2.natAbs≤100000):
  Con PG N.exact_Add #[v,u] w (Ret w fun v' w2=>RatC w2 (Nw (fun _=>False) w w2) v' ((ratio x1 x2)+(ratio y1 y2))):=by
 have hw:Bel w.heap.size w w:=Bel.refl
 have r1:=rl_ratio x1 x2
 have r2:=rl_ratio y1 y2
 have r3:=rl_add (ratio x1 x2) (ratio y1 y2)
 have r4:=rl_mul (ratio x1 x2) (ratio y1 y2)
 have r5:=rl_neg (ratio y1 y2)
 have r6:=rl_sub (ratio x1 x2) (ratio y1 y2)
 replace hx:=hx.weak (S':=Cv S w.heap.size []) fun _ h=>.inl h
 replace hy:=hy.weak (S':=Cv S w.heap.size []) fun _ h=>.inl h
 obtain⟨b1,a1,n1,c1,b2,a2,n2,c2,rfl⟩:=hx.shape
 obtain⟨b3,a3,n3,c3,b4,a4,n4,c4,rfl⟩:=hy.shape
 refine in_exact_Add (by simp) ?_
 conv=>whnf
 refine drawn_of_pi hτ hmix [.x 0,.x 2,.x 1,.x 3,.x 4,.x 5,.x 6] (by kernel_rfl) (by kernel_rfl) ?_
 conv=>whnf
 refine cE hw (Φ:=fun _ w' v w2=>FracR w2 (Nw (fun _=>False) w' w2) v ((ratio x1 x2))) (fun ρ w' r=>value_c (Rel.old r hS) (hx.rel r hS) (by omega) (by omega)) ?_
 rintro ρ wa1 v1 wb1 iv1 r he hw h_ hn
 clear hx
 replace hy:=hy.past r hS he (mC h_)
 have hX:=hn.got (S:=fun _=>False) r.baseLe (mN h_)
 clear r
 obtain⟨s1_0,s1_1,s1_2,s1_3,s1_4,s1_5,s1_6,s1_7,rfl⟩:=hX.shape
 conv=>whnf
 refine cE hw (Φ:=fun _ w' v w2=>FracR w2 (Nw (fun _=>False) w' w2) v ((ratio y1 y2))) (fun ρ w' r=>value_c (Rel.old r hS) (hy.rel r hS) (by omega) (by omega)) ?_
 rintro ρ wa2 v2 wb2 iv2 r he hw h_ hn
 clear hy
 replace hX:=hX.past r (oldF w) he (mC h_)
 have hY:=hn.got (S:=fun _=>False) r.baseLe (mN h_)
 clear r
 obtain⟨s2_0,s2_1,s2_2,s2_3,s2_4,s2_5,s2_6,s2_7,rfl⟩:=hY.shape
 conv=>whnf
 refine cE hw (Φ:=fun _ w' v w2=>FracR w2 (Nw (fun _=>False) w' w2) v ((ratio x1 x2)+(ratio y1 y2))) (fun ρ w' r=>fplus_c (Rel.old r (oldF w)) (hX.rel r (oldF w)) (hY.rel r (oldF w)) (by omega) (by omega)) ?_
 rintro ρ wa3 v3 wb3 iv3 r he hw h_ hn
 clear hX
 clear hY
 have hP:=hn.got (S:=fun _=>False) r.baseLe (mN h_)
 clear r
 obtain⟨s3_0,s3_1,s3_2,s3_3,s3_4,s3_5,s3_6,s3_7,rfl⟩:=hP.shape
 conv=>whnf
 refine cE hw (Φ:=fun _ w' v w2=>RatC w2 (Nw (fun _=>False) w' w2) v ((ratio x1 x2)+(ratio y1 y2))) (fun ρ w' r=>fgive_c (Rel.old r (oldF w)) (hP.rel r (oldF w)) (by omega)) ?_
 rintro ρ wa4 v4 wb4 iv4 r he hw h_ hn
 clear hP
 have hC:=hn.got (S:=fun _=>False) r.baseLe (mN h_)
 clear r
 obtain⟨s4_0,s4_1,s4_2,s4_3,s4_4,s4_5,s4_6,s4_7,rfl⟩:=hC.shape
 conv=>whnf
 intro ρe we re
 exact⟨_,rfl,hw.tr re.bel,hC.out re (oldF w)⟩

theorem pubMul_c{S:Nat→Prop}{w:World}{v u:Value}{x1 x2 y1 y2:Int}(hS:Old S w)(hx:RatR w S v x1 x2)(hy:RatR w S u y1 y2)(hl0:ln x1.natAbs≤100000)(hl1:ln x2.natAbs≤100000)(hl2:ln y1.natAbs≤100000)(hl3:ln y2.natAbs≤100000):
  Con PG N.exact_Mul #[v,u] w (Ret w fun v' w2=>RatC w2 (Nw (fun _=>False) w w2) v' ((ratio x1 x2)*(ratio y1 y2))):=by
 have hw:Bel w.heap.size w w:=Bel.refl
 have r1:=rl_ratio x1 x2
 have r2:=rl_ratio y1 y2
 have r3:=rl_add (ratio x1 x2) (ratio y1 y2)
 have r4:=rl_mul (ratio x1 x2) (ratio y1 y2)
 have r5:=rl_neg (ratio y1 y2)
 have r6:=rl_sub (ratio x1 x2) (ratio y1 y2)
 replace hx:=hx.weak (S':=Cv S w.heap.size []) fun _ h=>.inl h
 replace hy:=hy.weak (S':=Cv S w.heap.size []) fun _ h=>.inl h
 obtain⟨b1,a1,n1,c1,b2,a2,n2,c2,rfl⟩:=hx.shape
 obtain⟨b3,a3,n3,c3,b4,a4,n4,c4,rfl⟩:=hy.shape
 refine in_exact_Mul (by simp) ?_
 conv=>whnf
 refine drawn_of_pi hτ hmix [.x 0,.x 2,.x 1,.x 3,.x 4,.x 5,.x 6] (by kernel_rfl) (by kernel_rfl) ?_
 conv=>whnf
 refine cE hw (Φ:=fun _ w' v w2=>FracR w2 (Nw (fun _=>False) w' w2) v ((ratio x1 x2))) (fun ρ w' r=>value_c (Rel.old r hS) (hx.rel r hS) (by omega) (by omega)) ?_
 rintro ρ wa1 v1 wb1 iv1 r he hw h_ hn
 clear hx
 replace hy:=hy.past r hS he (mC h_)
 have hX:=hn.got (S:=fun _=>False) r.baseLe (mN h_)
 clear r
 obtain⟨s1_0,s1_1,s1_2,s1_3,s1_4,s1_5,s1_6,s1_7,rfl⟩:=hX.shape
 conv=>whnf
 refine cE hw (Φ:=fun _ w' v w2=>FracR w2 (Nw (fun _=>False) w' w2) v ((ratio y1 y2))) (fun ρ w' r=>value_c (Rel.old r hS) (hy.rel r hS) (by omega) (by omega)) ?_
 rintro ρ wa2 v2 wb2 iv2 r he hw h_ hn
 clear hy
 replace hX:=hX.past r (oldF w) he (mC h_)
 have hY:=hn.got (S:=fun _=>False) r.baseLe (mN h_)
 clear r
 obtain⟨s2_0,s2_1,s2_2,s2_3,s2_4,s2_5,s2_6,s2_7,rfl⟩:=hY.shape
 conv=>whnf
 refine cE hw (Φ:=fun _ w' v w2=>FracR w2 (Nw (fun _=>False) w' w2) v ((ratio x1 x2)*(ratio y1 y2))) (fun ρ w' r=>ftimes_c (Rel.old r (oldF w)) (hX.rel r (oldF w)) (hY.rel r (oldF w)) (by omega) (by omega)) ?_
 rintro ρ wa3 v3 wb3 iv3 r he hw h_ hn
 clear hX
 clear hY
 have hP:=hn.got (S:=fun _=>False) r.baseLe (mN h_)
 clear r
 obtain⟨s3_0,s3_1,s3_2,s3_3,s3_4,s3_5,s3_6,s3_7,rfl⟩:=hP.shape
 conv=>whnf
 refine cE hw (Φ:=fun _ w' v w2=>RatC w2 (Nw (fun _=>False) w' w2) v ((ratio x1 x2)*(ratio y1 y2))) (fun ρ w' r=>fgive_c (Rel.old r (oldF w)) (hP.rel r (oldF w)) (by omega)) ?_
 rintro ρ wa4 v4 wb4 iv4 r he hw h_ hn
 clear hP
 have hC:=hn.got (S:=fun _=>False) r.baseLe (mN h_)
 clear r
 obtain⟨s4_0,s4_1,s4_2,s4_3,s4_4,s4_5,s4_6,s4_7,rfl⟩:=hC.shape
 conv=>whnf
 intro ρe we re
 exact⟨_,rfl,hw.tr re.bel,hC.out re (oldF w)⟩

theorem pubSub_c{S:Nat→Prop}{w:World}{v u:Value}{x1 x2 y1 y2:Int}(hS:Old S w)(hx:RatR w S v x1 x2)(hy:RatR w S u y1 y2)(hl0:ln x1.natAbs≤100000)(hl1:ln x2.natAbs≤100000)(hl2:ln y1.natAbs≤100000)(hl3:ln y2.natAbs≤100000):
  Con PG N.exact_Sub #[v,u] w (Ret w fun v' w2=>RatC w2 (Nw (fun _=>False) w w2) v' ((ratio x1 x2)-(ratio y1 y2))):=by
 have hw:Bel w.heap.size w w:=Bel.refl
 have r1:=rl_ratio x1 x2
 have r2:=rl_ratio y1 y2
 have r3:=rl_add (ratio x1 x2) (ratio y1 y2)
 have r4:=rl_mul (ratio x1 x2) (ratio y1 y2)
 have r5:=rl_neg (ratio y1 y2)
 have r6:=rl_sub (ratio x1 x2) (ratio y1 y2)
 replace hx:=hx.weak (S':=Cv S w.heap.size []) fun _ h=>.inl h
 replace hy:=hy.weak (S':=Cv S w.heap.size []) fun _ h=>.inl h
 obtain⟨b1,a1,n1,c1,b2,a2,n2,c2,rfl⟩:=hx.shape
 obtain⟨b3,a3,n3,c3,b4,a4,n4,c4,rfl⟩:=hy.shape
 refine in_exact_Sub (by simp) ?_
 conv=>whnf
 refine drawn_of_pi hτ hmix [.x 0,.x 2,.x 1,.x 3,.x 4,.x 5,.x 6,.x 7] (by kernel_rfl) (by kernel_rfl) ?_
 conv=>whnf
 refine cE hw (Φ:=fun _ w' v w2=>FracR w2 (Nw (fun _=>False) w' w2) v ((ratio x1 x2))) (fun ρ w' r=>value_c (Rel.old r hS) (hx.rel r hS) (by omega) (by omega)) ?_
 rintro ρ wa1 v1 wb1 iv1 r he hw h_ hn
 clear hx
 replace hy:=hy.past r hS he (mC h_)
 have hX:=hn.got (S:=fun _=>False) r.baseLe (mN h_)
 clear r
 obtain⟨s1_0,s1_1,s1_2,s1_3,s1_4,s1_5,s1_6,s1_7,rfl⟩:=hX.shape
 conv=>whnf
 refine cE hw (Φ:=fun _ w' v w2=>FracR w2 (Nw (fun _=>False) w' w2) v ((ratio y1 y2))) (fun ρ w' r=>value_c (Rel.old r hS) (hy.rel r hS) (by omega) (by omega)) ?_
 rintro ρ wa2 v2 wb2 iv2 r he hw h_ hn
 clear hy
 replace hX:=hX.past r (oldF w) he (mC h_)
 have hY:=hn.got (S:=fun _=>False) r.baseLe (mN h_)
 clear r
 obtain⟨s2_0,s2_1,s2_2,s2_3,s2_4,s2_5,s2_6,s2_7,rfl⟩:=hY.shape
 conv=>whnf
 refine callE_con (Φ:=fun _ w' v w2=>FracR w2 (Nw (Cv (fun _=>False) w.heap.size iv2) w' w2) v (-(ratio y1 y2))) (fun ρ w' r=>fminus_c (Rel.old r (oldF w)) (hY.rel r (oldF w))) ?_
 rintro ρ wa3 v3 wb3 r he hb hn
 replace hw:=hw.tr hb
 replace hX:=hX.past (iv':=(wa3.heap.size,wb3.heap.size)::iv2) r (oldF w) he fun x hx=>List.mem_cons_of_mem _ hx
 clear hY
 have hM:=hn.old r.baseLe
 clear r he hb hn
 generalize (wa3.heap.size,wb3.heap.size)::iv2=iv3 at*
 obtain⟨s3_0,s3_1,s3_2,s3_3,s3_4,s3_5,s3_6,s3_7,rfl⟩:=hM.shape
 conv=>whnf
 refine cE hw (Φ:=fun _ w' v w2=>FracR w2 (Nw (fun _=>False) w' w2) v ((ratio x1 x2)-(ratio y1 y2))) (fun ρ w' r=>(Rat.sub_eq_add_neg (ratio x1 x2) (ratio y1 y2))▸fplus_c (Rel.old r (oldF w)) (hX.rel r (oldF w)) (hM.rel r (oldF w)) (by omega) (by omega)) ?_
 rintro ρ wa4 v4 wb4 iv4 r he hw h_ hn
 clear hX
 clear hM
 have hP:=hn.got (S:=fun _=>False) r.baseLe (mN h_)
 clear r he hn
 obtain⟨s4_0,s4_1,s4_2,s4_3,s4_4,s4_5,s4_6,s4_7,rfl⟩:=hP.shape
 conv=>whnf
 refine cE hw (Φ:=fun _ w' v w2=>RatC w2 (Nw (fun _=>False) w' w2) v ((ratio x1 x2)-(ratio y1 y2))) (fun ρ w' r=>fgive_c (Rel.old r (oldF w)) (hP.rel r (oldF w)) (by omega)) ?_
 rintro ρ wa5 v5 wb5 iv5 r he hw h_ hn
 clear hP
 have hC:=hn.got (S:=fun _=>False) r.baseLe (mN h_)
 clear r he hn
 obtain⟨s5_0,s5_1,s5_2,s5_3,s5_4,s5_5,s5_6,s5_7,rfl⟩:=hC.shape
 conv=>whnf
 intro ρe we re
 exact⟨_,rfl,hw.tr re.bel,hC.out re (oldF w)⟩

theorem fcmp_c{S:Nat→Prop}{w:World}{v u:Value}{f g:Rat}(hS:Old S w)(hf:FracR w S v f)(hg:FracR w S u g)(hlf:rl f≤10000000000)(hlg:rl g≤10000000000):
  Con PG N.exact_fraction_cmp #[v,u] w (Ret w fun v' w2=>v'= .int .i64 (rs (f-g))):=by
 have hw:Bel w.heap.size w w:=Bel.refl
 have l1:=rl_num f
 have l2:=rl_den' f
 have l3:=rl_num g
 have l4:=rl_den' g
 have m0:=ln_mul_abs f.num g.den
 have m1:=ln_mul_abs g.num f.den
 replace hf:=hf.weak (S':=Cv S w.heap.size []) fun _ h=>.inl h
 replace hg:=hg.weak (S':=Cv S w.heap.size []) fun _ h=>.inl h
 obtain⟨b1,a1,n1,c1,b2,a2,n2,c2,rfl⟩:=hf.shape
 obtain⟨b3,a3,n3,c3,b4,a4,n4,c4,rfl⟩:=hg.shape
 have hfn:=hf.num
 have hfd:=hf.den
 clear hf
 have hgn:=hg.num
 have hgd:=hg.den
 clear hg
 refine in_exact_fraction_cmp (by simp) ?_
 conv=>whnf
 refine drawn_of_pi hτ hmix [.x 0,.x 1,.x 2,.x 3,.x 5,.x 6,.x 7,.x 8,.x 4,.x 9,.x 10,.x 11] (by kernel_rfl) (by kernel_rfl) ?_
 conv=>whnf
 refine cE hw (Φ:=fun _ w' v w2=>NumR w2 (Nw (fun _=>False) w' w2) v (f.num*(g.den:Int))) (fun ρ w' r=>numTimes_c (Rel.old r hS) (hfn.rel r hS) (hgd.rel r hS) (by omega) (by omega)) ?_
 rintro ρ wa1 v1 wb1 iv1 r he hw h_ hn
 clear hfn
 replace hfd:=hfd.past r hS he (mC h_)
 replace hgn:=hgn.past r hS he (mC h_)
 clear hgd
 have hA:=hn.got (S:=fun _=>False) r.baseLe (mN h_)
 clear r
 obtain⟨s1_0,s1_1,s1_2,s1_3,rfl⟩:=hA.shape
 conv=>whnf
 refine cE hw (Φ:=fun _ w' v w2=>NumR w2 (Nw (fun _=>False) w' w2) v (g.num*(f.den:Int))) (fun ρ w' r=>numTimes_c (Rel.old r hS) (hgn.rel r hS) (hfd.rel r hS) (by omega) (by omega)) ?_
 rintro ρ wa2 v2 wb2 iv2 r he hw h_ hn
 clear hfd
 clear hgn
 replace hA:=hA.past r (oldF w) he (mC h_)
 have hB:=hn.got (S:=fun _=>False) r.baseLe (mN h_)
 clear r
 obtain⟨s2_0,s2_1,s2_2,s2_3,rfl⟩:=hB.shape
 conv=>whnf
 refine cE hw (Φ:=fun _ w' v w2=>v= .int .i64 (rs (f-g))) (fun ρ w' r=>(rat_cmp f g)▸numCmp_c (Rel.old r (oldF w)) (hA.rel r (oldF w)) (hB.rel r (oldF w)) (by omega) (by omega)) ?_
 rintro ρ wa3 v3 wb3 iv3 r he hw h_ rfl
 clear hA
 clear hB
 clear r
 conv=>whnf
 intro ρe we re
 exact⟨_,rfl,hw.tr re.bel,rfl⟩

theorem pubCmp_c{S:Nat→Prop}{w:World}{v u:Value}{x1 x2 y1 y2:Int}(hS:Old S w)(hx:RatR w S v x1 x2)(hy:RatR w S u y1 y2)(hl0:ln x1.natAbs≤100000)(hl1:ln x2.natAbs≤100000)(hl2:ln y1.natAbs≤100000)(hl3:ln y2.natAbs≤100000):
  Con PG N.exact_Cmp #[v,u] w (Ret w fun v' w2=>v'= .int .i64 (rs ((ratio x1 x2)-(ratio y1 y2)))):=by
 have hw:Bel w.heap.size w w:=Bel.refl
 have r1:=rl_ratio x1 x2
 have r2:=rl_ratio y1 y2
 have r3:=rl_add (ratio x1 x2) (ratio y1 y2)
 have r4:=rl_mul (ratio x1 x2) (ratio y1 y2)
 have r5:=rl_neg (ratio y1 y2)
 have r6:=rl_sub (ratio x1 x2) (ratio y1 y2)
 replace hx:=hx.weak (S':=Cv S w.heap.size []) fun _ h=>.inl h
 replace hy:=hy.weak (S':=Cv S w.heap.size []) fun _ h=>.inl h
 obtain⟨b1,a1,n1,c1,b2,a2,n2,c2,rfl⟩:=hx.shape
 obtain⟨b3,a3,n3,c3,b4,a4,n4,c4,rfl⟩:=hy.shape
 refine in_exact_Cmp (by simp) ?_
 conv=>whnf
 refine drawn_of_pi hτ hmix [.x 0,.x 2,.x 1,.x 3,.x 4,.x 5] (by kernel_rfl) (by kernel_rfl) ?_
 conv=>whnf
 refine cE hw (Φ:=fun _ w' v w2=>FracR w2 (Nw (fun _=>False) w' w2) v ((ratio x1 x2))) (fun ρ w' r=>value_c (Rel.old r hS) (hx.rel r hS) (by omega) (by omega)) ?_
 rintro ρ wa1 v1 wb1 iv1 r he hw h_ hn
 clear hx
 replace hy:=hy.past r hS he (mC h_)
 have hX:=hn.got (S:=fun _=>False) r.baseLe (mN h_)
 clear r
 obtain⟨s1_0,s1_1,s1_2,s1_3,s1_4,s1_5,s1_6,s1_7,rfl⟩:=hX.shape
 conv=>whnf
 refine cE hw (Φ:=fun _ w' v w2=>FracR w2 (Nw (fun _=>False) w' w2) v ((ratio y1 y2))) (fun ρ w' r=>value_c (Rel.old r hS) (hy.rel r hS) (by omega) (by omega)) ?_
 rintro ρ wa2 v2 wb2 iv2 r he hw h_ hn
 clear hy
 replace hX:=hX.past r (oldF w) he (mC h_)
 have hY:=hn.got (S:=fun _=>False) r.baseLe (mN h_)
 clear r
 obtain⟨s2_0,s2_1,s2_2,s2_3,s2_4,s2_5,s2_6,s2_7,rfl⟩:=hY.shape
 conv=>whnf
 refine cE hw (Φ:=fun _ w' v w2=>v= .int .i64 (rs ((ratio x1 x2)-(ratio y1 y2)))) (fun ρ w' r=>fcmp_c (Rel.old r (oldF w)) (hX.rel r (oldF w)) (hY.rel r (oldF w)) (by omega) (by omega)) ?_
 rintro ρ wa3 v3 wb3 iv3 r he hw h_ rfl
 clear hX
 clear hY
 clear r
 conv=>whnf
 intro ρe we re
 exact⟨_,rfl,hw.tr re.bel,rfl⟩

theorem rs_zero{q:Rat}:rs q=0↔q=0:=by rw[rs,Int.sign_eq_zero_iff_zero,Rat.num_eq_zero]
theorem pubQuo_c{S:Nat→Prop}{w:World}{v u:Value}{x1 x2 y1 y2:Int}(hS:Old S w)(hx:RatR w S v x1 x2)(hy:RatR w S u y1 y2)(hl0:ln x1.natAbs≤100000)(hl1:ln x2.natAbs≤100000)(hl2:ln y1.natAbs≤100000)(hl3:ln y2.natAbs≤100000):
  Con PG N.exact_Quo #[v,u] w (Ret w fun v' w2=>((ratio y1 y2)=0∧v'= .tuple #[ratNil,.int .i64 9])∨((ratio y1 y2)≠0∧∃q,v'= .tuple #[q,.int .i64 0]∧RatC w2 (Nw (fun _=>False) w w2) q ((ratio x1 x2) / (ratio y1 y2)))):=by
 have hw:Bel w.heap.size w w:=Bel.refl
 have r1:=rl_ratio x1 x2
 have r2:=rl_ratio y1 y2
 have r3:=rl_add (ratio x1 x2) (ratio y1 y2)
 have r4:=rl_mul (ratio x1 x2) (ratio y1 y2)
 have r5:=rl_neg (ratio y1 y2)
 have r6:=rl_sub (ratio x1 x2) (ratio y1 y2)
 replace hx:=hx.weak (S':=Cv S w.heap.size []) fun _ h=>.inl h
 replace hy:=hy.weak (S':=Cv S w.heap.size []) fun _ h=>.inl h
 obtain⟨b1,a1,n1,c1,b2,a2,n2,c2,rfl⟩:=hx.shape
 obtain⟨b3,a3,n3,c3,b4,a4,n4,c4,rfl⟩:=hy.shape
 refine in_exact_Quo (by simp) ?_
 conv=>whnf
 refine callE_S (cE hw (Φ:=fun _ w' v w2=>FracR w2 (Nw (fun _=>False) w' w2) v ((ratio y1 y2))) (fun ρ w' r=>value_c (Rel.old r hS) (hy.rel r hS) (by omega) (by omega)) ?_)
 rintro ρ wa1 v1 wb1 iv1 r he hw h_ hn
 replace hx:=hx.past r hS he (mC h_)
 clear hy
 have hY:=hn.got (S:=fun _=>False) r.baseLe (mN h_)
 clear r
 obtain⟨s1_0,s1_1,s1_2,s1_3,s1_4,s1_5,s1_6,s1_7,rfl⟩:=hY.shape
 conv=>whnf
 refine callE_S (cE hw (Φ:=fun _ w' v w2=>v= .int .i64 (rs (ratio y1 y2))) (fun ρ w' r=>fsign_c (Rel.old r (oldF w)) (hY.rel r (oldF w))) ?_)
 rintro ρ wa2 v2 wb2 iv2 r he hw h_ rfl
 replace hx:=hx.past r hS he (mC h_)
 replace hY:=hY.past r (oldF w) he (mC h_)
 clear r
 conv=>whnf
 refine BrS.mk (fun h=>?_) (fun h=>?_)
 ·have h:rs (ratio y1 y2)=0:=by simpa using h
  conv=>whnf
  intro ρe we re
  exact⟨_,rfl,hw.tr re.bel,.inl ⟨rs_zero.1 h,rfl⟩⟩
 have h:(ratio y1 y2)≠0:=fun e=>by rw[e]at h;exact absurd h (by decide)
 have r7:=rl_div (ratio x1 x2) h
 conv=>whnf
 refine drawn_of_pi hτ hmix [.x 0,.x 2,.x 1,.x 3,.x 4,.x 5,.x 6] (by kernel_rfl) (by kernel_rfl) ?_
 conv=>whnf
 refine cE hw (Φ:=fun _ w' v w2=>FracR w2 (Nw (fun _=>False) w' w2) v ((ratio x1 x2))) (fun ρ w' r=>value_c (Rel.old r hS) (hx.rel r hS) (by omega) (by omega)) ?_
 rintro ρ wa3 v3 wb3 iv3 r he hw h_ hn
 clear hx
 replace hY:=hY.past r (oldF w) he (mC h_)
 have hX:=hn.got (S:=fun _=>False) r.baseLe (mN h_)
 clear r
 obtain⟨s3_0,s3_1,s3_2,s3_3,s3_4,s3_5,s3_6,s3_7,rfl⟩:=hX.shape
 conv=>whnf
 refine cE hw (Φ:=fun _ w' v w2=>FracR w2 (Nw (fun _=>False) w' w2) v ((ratio x1 x2) / (ratio y1 y2))) (fun ρ w' r=>fby_c (Rel.old r (oldF w)) (hX.rel r (oldF w)) (hY.rel r (oldF w)) (by omega) (by omega) h) ?_
 rintro ρ wa4 v4 wb4 iv4 r he hw h_ hn
 clear hY
 clear hX
 have hP:=hn.got (S:=fun _=>False) r.baseLe (mN h_)
 clear r
 obtain⟨s4_0,s4_1,s4_2,s4_3,s4_4,s4_5,s4_6,s4_7,rfl⟩:=hP.shape
 conv=>whnf
 refine cE hw (Φ:=fun _ w' v w2=>RatC w2 (Nw (fun _=>False) w' w2) v ((ratio x1 x2) / (ratio y1 y2))) (fun ρ w' r=>fgive_c (Rel.old r (oldF w)) (hP.rel r (oldF w)) (by omega)) ?_
 rintro ρ wa5 v5 wb5 iv5 r he hw h_ hn
 clear hP
 have hC:=hn.got (S:=fun _=>False) r.baseLe (mN h_)
 clear r
 obtain⟨s5_0,s5_1,s5_2,s5_3,s5_4,s5_5,s5_6,s5_7,rfl⟩:=hC.shape
 conv=>whnf
 intro ρe we re
 exact⟨_,rfl,hw.tr re.bel,.inr ⟨h,_,rfl,hC.out re (oldF w)⟩⟩

theorem rl_whole{n:Int}(h1: -9223372036854775808≤n)(h2:n≤9223372036854775807):rl (n:Rat)≤2:=by
 have:=ln_small h1 h2
 unfold rl
 rw[Rat.num_intCast,Rat.den_intCast]
 have:ln 1=1:=by decide
 omega
theorem pubWhole_c(n:Int)(w:World)(h1: -9223372036854775808≤n)(h2:n≤9223372036854775807):
  Con PG N.exact_Whole #[.int .i64 n] w (Ret w fun v' w2=>RatC w2 (Nw (fun _=>False) w w2) v' (n:Rat)):=by
 have hw:Bel w.heap.size w w:=Bel.refl
 have hl:=rl_whole h1 h2
 refine in_exact_Whole (by simp) ?_
 conv=>whnf
 refine callE_S (cE hw (Φ:=fun _ w' v w2=>FracR w2 (Nw (fun _=>False) w' w2) v (n)) (fun ρ w' r=>whole_c n w' h1 h2) ?_)
 rintro ρ wa1 v1 wb1 iv1 r he hw h_ hn
 have hX:=hn.got (S:=fun _=>False) r.baseLe (mN h_)
 clear r
 obtain⟨s1_0,s1_1,s1_2,s1_3,s1_4,s1_5,s1_6,s1_7,rfl⟩:=hX.shape
 conv=>whnf
 refine callE_S (cE hw (Φ:=fun _ w' v w2=>RatC w2 (Nw (fun _=>False) w' w2) v (n)) (fun ρ w' r=>fgive_c (Rel.old r (oldF w)) (hX.rel r (oldF w)) (by omega)) ?_)
 rintro ρ wa2 v2 wb2 iv2 r he hw h_ hn
 clear hX
 have hC:=hn.got (S:=fun _=>False) r.baseLe (mN h_)
 clear r
 obtain⟨s2_0,s2_1,s2_2,s2_3,s2_4,s2_5,s2_6,s2_7,rfl⟩:=hC.shape
 conv=>whnf
 intro ρe we re
 exact⟨_,rfl,hw.tr re.bel,hC.out re (oldF w)⟩

theorem pubRatio_c(a b:Int)(w:World)(h1a: -9223372036854775808≤a)(h2a:a≤9223372036854775807)(h1b: -9223372036854775808≤b)(h2b:b≤9223372036854775807):
  Con PG N.exact_Ratio #[.int .i64 a,.int .i64 b] w (Ret w fun v' w2=>(b=0∧v'= .tuple #[ratNil,.int .i64 9])∨(b≠0∧∃q,v'= .tuple #[q,.int .i64 0]∧RatC w2 (Nw (fun _=>False) w w2) q (Rat.divInt a b))):=by
 have hw:Bel w.heap.size w w:=Bel.refl
 have ha:=ln_small h1a h2a
 have hb:=ln_small h1b h2b
 refine in_exact_Ratio (by simp) ?_
 conv=>whnf
 refine BrS.mk (fun h=>?_) (fun h=>?_)
 ·have h:b=0:=by simpa using h
  conv=>whnf
  intro ρe we re
  exact⟨_,rfl,hw.tr re.bel,.inl ⟨h,rfl⟩⟩
 have h:b≠0:=by simpa using h
 have hq:=rl_divInt (a:=a) h
 conv=>whnf
 refine callE_S (cE hw (Φ:=fun _ w' v w2=>NumR w2 (Nw (fun _=>False) w' w2) v a) (fun ρ w' r=>small_c a w' h1a h2a) ?_)
 rintro ρ wa1 v1 wb1 iv1 r he hw h_ hn
 have hA:=hn.got (S:=fun _=>False) r.baseLe (mN h_)
 clear r
 obtain⟨s1_0,s1_1,s1_2,s1_3,rfl⟩:=hA.shape
 conv=>whnf
 refine callE_S (cE hw (Φ:=fun _ w' v w2=>NumR w2 (Nw (fun _=>False) w' w2) v b) (fun ρ w' r=>small_c b w' h1b h2b) ?_)
 rintro ρ wa2 v2 wb2 iv2 r he hw h_ hn
 replace hA:=hA.past r (oldF w) he (mC h_)
 have hB:=hn.got (S:=fun _=>False) r.baseLe (mN h_)
 clear r
 obtain⟨s2_0,s2_1,s2_2,s2_3,rfl⟩:=hB.shape
 conv=>whnf
 refine callE_S (cE hw (Φ:=fun _ w' v w2=>FracR w2 (Nw (fun _=>False) w' w2) v (Rat.divInt a b)) (fun ρ w' r=>over_c (Rel.old r (oldF w)) (hA.rel r (oldF w)) (hB.rel r (oldF w)) h (by omega) (by omega)) ?_)
 rintro ρ wa3 v3 wb3 iv3 r he hw h_ hn
 clear hA
 clear hB
 have hP:=hn.got (S:=fun _=>False) r.baseLe (mN h_)
 clear r
 obtain⟨s3_0,s3_1,s3_2,s3_3,s3_4,s3_5,s3_6,s3_7,rfl⟩:=hP.shape
 conv=>whnf
 refine callE_S (cE hw (Φ:=fun _ w' v w2=>RatC w2 (Nw (fun _=>False) w' w2) v (Rat.divInt a b)) (fun ρ w' r=>fgive_c (Rel.old r (oldF w)) (hP.rel r (oldF w)) (by omega)) ?_)
 rintro ρ wa4 v4 wb4 iv4 r he hw h_ hn
 clear hP
 have hC:=hn.got (S:=fun _=>False) r.baseLe (mN h_)
 clear r
 obtain⟨s4_0,s4_1,s4_2,s4_3,s4_4,s4_5,s4_6,s4_7,rfl⟩:=hC.shape
 conv=>whnf
 intro ρe we re
 exact⟨_,rfl,hw.tr re.bel,.inr ⟨h,_,rfl,hC.out re (oldF w)⟩⟩

end Go.Ex

/- brief of the laws of chapter 1; fractions of package exact by their values. Printed by program. No condition but sizes. -/
namespace Go.Ex
open Go Go.Sx Go.Proofs

theorem addr_two(ad:Addr)(i j:Nat):(ad.add i).add j=ad.add (i+j):=by
 unfold Addr.add
 split<;>split<;>simp_all<;>omega
/-- a fraction of the api by its value; its parts are not too long -/
def RatV(w:World)(S:Nat→Prop)(v:Value)(q:Rat):Prop:=∃a b,RatR w S v a b∧ratio a b=q∧ln a.natAbs≤100000∧ln b.natAbs≤100000
theorem RatV.keep{S:Nat→Prop}{w w2:World}{v:Value}{q:Rat}(h:RatV w S v q)(hk:∀g,S g→w2.heap[g]? =w.heap[g]?):RatV w2 S v q:=by
 obtain⟨a,b,h1,h2⟩:=h;exact⟨a,b,h1.keep hk,h2⟩
theorem RatV.weak{S S':Nat→Prop}{w:World}{v:Value}{q:Rat}(h:RatV w S v q)(hk:∀g,S g→S' g):RatV w S' v q:=by
 obtain⟨a,b,h1,h2⟩:=h;exact⟨a,b,h1.weak hk,h2⟩
theorem RatV.shape{S:Nat→Prop}{w:World}{v:Value}{q:Rat}(h:RatV w S v q):∃b a n c b2 a2 n2 c2,v= .agg #[.bool b,.slice a n c,.bool b2,.slice a2 n2 c2]:=by
 obtain⟨a,b,h1,_⟩:=h;exact h1.shape
theorem ratio_self(q:Rat):ratio q.num q.den=q:=by rw[ratio,if_neg (den_ne q),Rat.num_divInt_den]
theorem RatC.v{S:Nat→Prop}{w:World}{v:Value}{q:Rat}(h:RatC w S v q)(hl:rl q≤100000):RatV w S v q:=
 ⟨_,_,h.r,ratio_self q,Nat.le_trans (rl_num q) hl,Nat.le_trans (rl_den' q) hl⟩
section
variable{S S':Nat→Prop}{H:Hp}{nx:Nat}{iv iv':Iv}{B:Nat}{w w' w2:World}{ρ:Nat→Sx.Val}{v:Value}{q:Rat}
end

theorem vNormal_c{S:Nat→Prop}{w:World}{v:Value}{p:Rat}(hS:Old S w)(hp:RatV w S v p):Con PG N.exact_Normal #[v] w (Ret w fun v' w2=>RatC w2 (Nw (fun _=>False) w w2) v' p):=by
 obtain⟨a,b,h1,rfl,h2,h3⟩:=hp
 exact pubNormal_c hS h1 h2 h3
theorem vAdd_c{S:Nat→Prop}{w:World}{v u:Value}{p q:Rat}(hS:Old S w)(hp:RatV w S v p)(hq:RatV w S u q):Con PG N.exact_Add #[v,u] w (Ret w fun v' w2=>RatC w2 (Nw (fun _=>False) w w2) v' (p+q)):=by
 obtain⟨a,b,h1,rfl,h2,h3⟩:=hp
 obtain⟨c,d,k1,rfl,k2,k3⟩:=hq
 exact pubAdd_c hS h1 k1 h2 h3 k2 k3
theorem vMul_c{S:Nat→Prop}{w:World}{v u:Value}{p q:Rat}(hS:Old S w)(hp:RatV w S v p)(hq:RatV w S u q):Con PG N.exact_Mul #[v,u] w (Ret w fun v' w2=>RatC w2 (Nw (fun _=>False) w w2) v' (p*q)):=by
 obtain⟨a,b,h1,rfl,h2,h3⟩:=hp
 obtain⟨c,d,k1,rfl,k2,k3⟩:=hq
 exact pubMul_c hS h1 k1 h2 h3 k2 k3
theorem vSub_c{S:Nat→Prop}{w:World}{v u:Value}{p q:Rat}(hS:Old S w)(hp:RatV w S v p)(hq:RatV w S u q):Con PG N.exact_Sub #[v,u] w (Ret w fun v' w2=>RatC w2 (Nw (fun _=>False) w w2) v' (p-q)):=by
 obtain⟨a,b,h1,rfl,h2,h3⟩:=hp
 obtain⟨c,d,k1,rfl,k2,k3⟩:=hq
 exact pubSub_c hS h1 k1 h2 h3 k2 k3
theorem vCmp_c{S:Nat→Prop}{w:World}{v u:Value}{p q:Rat}(hS:Old S w)(hp:RatV w S v p)(hq:RatV w S u q):Con PG N.exact_Cmp #[v,u] w (Ret w fun v' _=>v'= .int .i64 (rs (p-q))):=by
 obtain⟨a,b,h1,rfl,h2,h3⟩:=hp
 obtain⟨c,d,k1,rfl,k2,k3⟩:=hq
 exact pubCmp_c hS h1 k1 h2 h3 k2 k3
theorem vQuo_c{S:Nat→Prop}{w:World}{v u:Value}{p q:Rat}(hS:Old S w)(hp:RatV w S v p)(hq:RatV w S u q):Con PG N.exact_Quo #[v,u] w (Ret w fun v' w2=>(q=0∧v'= .tuple #[ratNil,.int .i64 9])∨(q≠0∧∃r,v'= .tuple #[r,.int .i64 0]∧RatC w2 (Nw (fun _=>False) w w2) r (p / q))):=by
 obtain⟨a,b,h1,rfl,h2,h3⟩:=hp
 obtain⟨c,d,k1,rfl,k2,k3⟩:=hq
 exact pubQuo_c hS h1 k1 h2 h3 k2 k3
end Go.Ex

/- signs of fractions; the floor of a fraction. Plain. -/
namespace Go.Ex
theorem rs_neg(q:Rat):rs (-q)= -rs q:=by rw[rs,rs,Rat.neg_num,Int.sign_neg]
end Go.Ex

/- The reference's integers: columns, Int, Minus, Size, at, Sum, Diff, Sign, CmpInt. Printed by program. No condition but sizes. -/
namespace Go.Ex
open Go Go.Sx Go.Proofs

/-- an integer with at most so many limbs -/
def IntL(w:World)(S:Nat→Prop)(v:Value)(k:Nat)(z:Int):Prop:=∃neg ls,IntV w S v neg ls∧sg neg (val ls)=z∧ls.length≤k
theorem IntL.keep{S:Nat→Prop}{w w2:World}{v:Value}{k:Nat}{z:Int}(h:IntL w S v k z)(hk:∀g,S g→w2.heap[g]? =w.heap[g]?):IntL w2 S v k z:=by
 obtain⟨n,l,h1,h2⟩:=h;exact⟨n,l,h1.keep hk,h2⟩
theorem IntL.weak{S S':Nat→Prop}{w:World}{v:Value}{k:Nat}{z:Int}(h:IntL w S v k z)(hk:∀g,S g→S' g):IntL w S' v k z:=by
 obtain⟨n,l,h1,h2⟩:=h;exact⟨n,l,h1.weak hk,h2⟩
theorem IntL.r{S:Nat→Prop}{w:World}{v:Value}{k:Nat}{z:Int}(h:IntL w S v k z):IntR w S v z:=by
 obtain⟨n,l,h1,h2,_⟩:=h;exact⟨n,l,h1,h2⟩
theorem IntL.shape{S:Nat→Prop}{w:World}{v:Value}{k:Nat}{z:Int}(h:IntL w S v k z):∃b a n c,v= .agg #[.bool b,.slice a n c]:=h.r.shape
theorem IntC.l{S:Nat→Prop}{w:World}{v:Value}{k:Nat}{z:Int}(h:IntC w S v z)(hk:ln z.natAbs≤k):IntL w S v k z:=by
 obtain⟨l,h1,h2,h3⟩:=h
 obtain⟨_,_,hl⟩:=h1
 have:=length_ln hl.lm h2
 rw[h3]at this
 exact⟨_,l,⟨_,‹_›,hl⟩,by rw[h3,sg_natAbs],by omega⟩
section
variable{S S':Nat→Prop}{H:Hp}{nx:Nat}{iv iv':Iv}{B:Nat}{w w' w2:World}{ρ:Nat→Sx.Val}{v:Value}{k:Nat}{z:Int}
theorem IntL.rel(h:IntL w (Cv S B iv) v k z)(r:Rel H nx iv B w ρ w')(hS:∀g,S g→g<B):IntL w' (Cv S B iv) v k z:=h.keep fun _ hg=>Rel.same r hS hg
theorem IntL.past(h:IntL w (Cv S B iv) v k z)(r:Rel H nx iv B w ρ w')(hS:∀g,S g→g<B)(he:Ext w' w2)(hm:∀p,p∈iv→p∈iv'):IntL w2 (Cv S B iv') v k z:=
 ((h.rel r hS).keep fun g hg=>he.block g (Rel.old r hS g hg)).weak fun _ hg=>hg.mono hm
end
section
variable{S S':Nat→Prop}{H:Hp}{nx:Nat}{iv iv':Iv}{B:Nat}{w w' w2:World}{ρ:Nat→Sx.Val}{v:Value}{cs:List Int}
theorem ColsR.rel(h:ColsR w (Cv S B iv) v cs)(r:Rel H nx iv B w ρ w')(hS:∀g,S g→g<B):ColsR w' (Cv S B iv) v cs:=ColsR.keep h fun _ hg=>Rel.same r hS hg
theorem ColsR.past(h:ColsR w (Cv S B iv) v cs)(r:Rel H nx iv B w ρ w')(hS:∀g,S g→g<B)(he:Ext w' w2)(hm:∀p,p∈iv→p∈iv'):ColsR w2 (Cv S B iv') v cs:=
 (ColsR.keep (h.rel r hS) fun g hg=>he.block g (Rel.old r hS g hg)).weak fun _ hg=>hg.mono hm
theorem ColsR.got(h:ColsR w2 (Nw (fun _=>False) w' w2) v cs)(hB:B≤w'.heap.size)(hm:(w'.heap.size,w2.heap.size)∈iv):ColsR w2 (Cv S B iv) v cs:=ColsR.weak h fun _ hg=>hg.got hB hm
end

def sgn(b:Bool):Int:=if b then -1 else 1
theorem sgn_or(b:Bool):sgn b=1∨sgn b= -1:=by cases b<;>simp[sgn]
theorem sgn_val(b:Bool)(n:Nat):sgn b*(n:Int)=sg b n:=by cases b<;>simp[sgn,sg]
theorem rcolumns_c{S:Nat→Prop}{w:World}{v:Value}{neg:Bool}{ls:List Nat}(hS:Old S w)(h:IntV w S v neg ls)(hl:ls.length≤40000000):
  Con PG N.ref01_columns #[v] w (Ret w fun v' w2=>ColsR w2 (Nw (fun _=>False) w w2) v' (limbCols (sgn neg) ls)):=by
 obtain⟨lv,rfl,hL⟩:=h
 have hlm:=hL.lm
 obtain⟨a,c,rfl,hc,hcell⟩:=hL.sl
 refine in_ref01_columns (by simp) ?_
 conv=>whnf
 cases neg with
 |true=>
  conv=>whnf
  refine⟨Nat×World,fun z=>⟨[(1,.o (.p 0 0)),(3,.o (.v (.int .i64 (-1)))),(4,.o (.w 1 (2*z.1))),(5,.o (.v (.int .i64 z.1)))],[(1,.vec T.int 1 ((limbCols (-1) (ls.take z.1)).map (Value.int .i64))),(0,.box T.Int [.v (.bool true),.v (.slice a ls.length c)])],2,[],z.2⟩,fun z=>ls.length-z.1,
   fun z=>Bel w.heap.size w z.2∧z.1≤ls.length,?_,?_⟩
  ·intro ρ w' r
   exact⟨(0,w'),⟨r.bel,by simp⟩,Sub.nil 4 T.int 1 rfl (by simp[ScE,SV.sc,At.sc,initE]) r fun ρ1 r1=>
    Sub.gen [] r1 ⟨rfl,rfl,trivial⟩ ⟨rfl,rfl,rfl,rfl,trivial⟩ (by simp[ScH,Blk.scopd,At.sc]) (by simp[ScE,SV.sc,At.sc]) (by rfl) (by simp)⟩
  rintro⟨i,w1⟩ ⟨hw,hi⟩
  dsimp only at hw hi ⊢
  have hln:((limbCols (-1) (ls.take i)).map (Value.int .i64)).length=2*i:=by rw[List.length_map,limbCols_length,List.length_take];omega
  conv=>whnf
  refine BrS.mk (fun h=>?_) (fun h=>?_)
  ·have h:i<ls.length:=by simpa using h
   obtain⟨x,hx⟩:∃x,ls[i]? =some x:=⟨_,List.getElem?_eq_getElem h⟩
   have hx32:=hlm x (List.mem_of_getElem? hx)
   obtain⟨ad,rfl,q1,q2⟩:=hcell i x hx
   have htk:limbCols (-1) (ls.take (i+1))=limbCols (-1) (ls.take i)++[(-1)*((x % 65536:Nat):Int),(-1)*((x / 65536:Nat):Int)]:=by rw[List.take_add_one,hx,Option.toList_some,limbCols_append];rfl
   conv=>whnf
   refine⟨ad,rfl,⟨by omega,by omega⟩,?_⟩
   conv=>whnf
   refine⟨.int .u32 x,fun ρ w' r=>?_,?_⟩
   ·rw[Int.toNat_natCast,Nat.mul_one];exact cellS hS hw r q1 q2
   conv=>whnf
   refine⟨(x:Int),by rw[wrap64]<;>omega,?_⟩
   conv=>whnf
   refine⟨by decide,((x % 65536:Nat):Int),rfl,?_⟩
   conv=>whnf
   refine⟨(-1)*((x % 65536:Nat):Int),by rw[wrap64]<;>omega,?_⟩
   conv=>whnf
   refine⟨by decide,((x / 65536:Nat):Int),by rw[show (x:Int).tdiv 65536=((x / 65536:Nat):Int)from rfl,wrap64]<;>omega,?_⟩
   conv=>whnf
   refine⟨(-1)*((x / 65536:Nat):Int),by rw[wrap64]<;>omega,?_⟩
   conv=>whnf
   refine .inl ?_
   conv=>whnf
   refine⟨by rw[hln,Nat.mul_one],by omega,by unfold maxLen;omega,?_⟩
   conv=>whnf
   refine⟨((i+1:Nat):Int),by rw[wrap64]<;>omega,?_⟩
   conv=>whnf
   intro ρ3 w3 r3
   have hm5:(limbCols (-1) (ls.take (i+1))).map (Value.int .i64)=(limbCols (-1) (ls.take i)).map (Value.int .i64)++[.int .i64 ((-1)*((x % 65536:Nat):Int)),.int .i64 ((-1)*((x / 65536:Nat):Int))]:=by
    rw[htk];simp
   exact⟨(i+1,w3),⟨hw.tr r3.bel,by dsimp only;omega⟩,Sub.gen [(1,3)] r3 ⟨by dsimp only;rw[hm5];rfl,rfl,trivial⟩ ⟨rfl,rfl,rfl,rfl,trivial⟩ (by simp[ScH,Blk.scopd,At.sc]) (by simp[ScE,SV.sc,At.sc]) (by rfl) (fun lo hi h=>h),by dsimp only;omega⟩
  have h:i=ls.length:=by
   have:¬i<ls.length:=by simpa using h
   omega
  subst h
  rw[List.take_length]at hln ⊢
  conv=>whnf
  intro ρe we re
  have hrow:=re.vecRow (id:=1) (m:=2*ls.length) rfl (by rw[hln,Nat.mul_one]) (by decide)
  have hcols:=rowCols hrow (by rw[limbCols_length]) (by unfold maxLen;omega)
  refine⟨_,rfl,hw.tr re.bel,ColsR.weak hcols fun g hg=>.inr ?_⟩
  have:=ownsRow.low hrow g hg
  exact this
 |false=>
  conv=>whnf
  refine⟨Nat×World,fun z=>⟨[(1,.o (.p 0 0)),(3,.o (.v (.int .i64 (1)))),(4,.o (.w 1 (2*z.1))),(5,.o (.v (.int .i64 z.1)))],[(1,.vec T.int 1 ((limbCols (1) (ls.take z.1)).map (Value.int .i64))),(0,.box T.Int [.v (.bool false),.v (.slice a ls.length c)])],2,[],z.2⟩,fun z=>ls.length-z.1,
   fun z=>Bel w.heap.size w z.2∧z.1≤ls.length,?_,?_⟩
  ·intro ρ w' r
   exact⟨(0,w'),⟨r.bel,by simp⟩,Sub.nil 4 T.int 1 rfl (by simp[ScE,SV.sc,At.sc,initE]) r fun ρ1 r1=>
    Sub.gen [] r1 ⟨rfl,rfl,trivial⟩ ⟨rfl,rfl,rfl,rfl,trivial⟩ (by simp[ScH,Blk.scopd,At.sc]) (by simp[ScE,SV.sc,At.sc]) (by rfl) (by simp)⟩
  rintro⟨i,w1⟩ ⟨hw,hi⟩
  dsimp only at hw hi ⊢
  have hln:((limbCols (1) (ls.take i)).map (Value.int .i64)).length=2*i:=by rw[List.length_map,limbCols_length,List.length_take];omega
  conv=>whnf
  refine BrS.mk (fun h=>?_) (fun h=>?_)
  ·have h:i<ls.length:=by simpa using h
   obtain⟨x,hx⟩:∃x,ls[i]? =some x:=⟨_,List.getElem?_eq_getElem h⟩
   have hx32:=hlm x (List.mem_of_getElem? hx)
   obtain⟨ad,rfl,q1,q2⟩:=hcell i x hx
   have htk:limbCols (1) (ls.take (i+1))=limbCols (1) (ls.take i)++[(1)*((x % 65536:Nat):Int),(1)*((x / 65536:Nat):Int)]:=by rw[List.take_add_one,hx,Option.toList_some,limbCols_append];rfl
   conv=>whnf
   refine⟨ad,rfl,⟨by omega,by omega⟩,?_⟩
   conv=>whnf
   refine⟨.int .u32 x,fun ρ w' r=>?_,?_⟩
   ·rw[Int.toNat_natCast,Nat.mul_one];exact cellS hS hw r q1 q2
   conv=>whnf
   refine⟨(x:Int),by rw[wrap64]<;>omega,?_⟩
   conv=>whnf
   refine⟨by decide,((x % 65536:Nat):Int),rfl,?_⟩
   conv=>whnf
   refine⟨(1)*((x % 65536:Nat):Int),by rw[wrap64]<;>omega,?_⟩
   conv=>whnf
   refine⟨by decide,((x / 65536:Nat):Int),by rw[show (x:Int).tdiv 65536=((x / 65536:Nat):Int)from rfl,wrap64]<;>omega,?_⟩
   conv=>whnf
   refine⟨(1)*((x / 65536:Nat):Int),by rw[wrap64]<;>omega,?_⟩
   conv=>whnf
   refine .inl ?_
   conv=>whnf
   refine⟨by rw[hln,Nat.mul_one],by omega,by unfold maxLen;omega,?_⟩
   conv=>whnf
   refine⟨((i+1:Nat):Int),by rw[wrap64]<;>omega,?_⟩
   conv=>whnf
   intro ρ3 w3 r3
   have hm5:(limbCols (1) (ls.take (i+1))).map (Value.int .i64)=(limbCols (1) (ls.take i)).map (Value.int .i64)++[.int .i64 ((1)*((x % 65536:Nat):Int)),.int .i64 ((1)*((x / 65536:Nat):Int))]:=by
    rw[htk];simp
   exact⟨(i+1,w3),⟨hw.tr r3.bel,by dsimp only;omega⟩,Sub.gen [(1,3)] r3 ⟨by dsimp only;rw[hm5];rfl,rfl,trivial⟩ ⟨rfl,rfl,rfl,rfl,trivial⟩ (by simp[ScH,Blk.scopd,At.sc]) (by simp[ScE,SV.sc,At.sc]) (by rfl) (fun lo hi h=>h),by dsimp only;omega⟩
  have h:i=ls.length:=by
   have:¬i<ls.length:=by simpa using h
   omega
  subst h
  rw[List.take_length]at hln ⊢
  conv=>whnf
  intro ρe we re
  have hrow:=re.vecRow (id:=1) (m:=2*ls.length) rfl (by rw[hln,Nat.mul_one]) (by decide)
  have hcols:=rowCols hrow (by rw[limbCols_length]) (by unfold maxLen;omega)
  refine⟨_,rfl,hw.tr re.bel,ColsR.weak hcols fun g hg=>.inr ?_⟩
  have:=ownsRow.low hrow g hg
  exact this
end Go.Ex

/- The reference's integers: Int, Minus, Size, at, Sign. Printed by program. No condition but sizes. -/
namespace Go.Ex
open Go Go.Sx Go.Proofs

/-- columns of a number -/
def ColB(cs:List Int)(n:Nat)(z:Int):Prop:=colval cs=z∧cs.length≤n∧(∀c∈cs,-65535≤c∧c≤65535)∧(0≤z→∀c∈cs,0≤c)
theorem limbCols_zero(s:Int){ls:List Nat}(h:val ls=0):∀c∈limbCols s ls,c=0:=fun c hc=>by
 induction ls with
 |nil=>cases hc
 |cons l r ih=>
  have h:l+4294967296*val r=0:=h
  have h1:l=0:=by omega
  have h2:val r=0:=by omega
  subst h1
  rw[limbCols]at hc
  rcases List.mem_cons.1 hc with rfl|hc
  ·simp
  rcases List.mem_cons.1 hc with rfl|hc
  ·simp
  ·exact ih h2 hc
theorem IntL.limbs{S:Nat→Prop}{w:World}{v:Value}{k:Nat}{z:Int}(h:IntL w S v k z):∃b a ls c,v= .agg #[.bool b,.slice a ls.length c]∧Limbs w S (.slice a ls.length c) ls∧sg b (val ls)=z∧ls.length≤k:=by
 obtain⟨b,ls,⟨lv,rfl,hl⟩,hz,hk⟩:=h
 obtain⟨a,c,rfl,_⟩:=hl.sl
 exact⟨b,a,ls,c,rfl,hl,hz,hk⟩
theorem IntL.ln{S:Nat→Prop}{w:World}{v:Value}{k:Nat}{z:Int}(h:IntL w S v k z):ln z.natAbs≤k:=by
 obtain⟨b,a,ls,c,_,hl,hz,hk⟩:=h.limbs
 rw[←hz,sg_abs]
 exact ln_limbs hl.lm hk
theorem IntL.neg{S:Nat→Prop}{w:World}{lv:Value}{b:Bool}{k:Nat}{z:Int}(h:IntL w S (.agg #[.bool b,lv]) k z):IntL w S (.agg #[.bool (!b),lv]) k (-z):=by
 obtain⟨b,ls,⟨lv,e,hl⟩,hz,hk⟩:=h
 simp only[Value.agg.injEq,Array.mk.injEq,List.cons.injEq,Value.bool.injEq,and_true]at e
 obtain⟨rfl,rfl⟩:=e
 refine⟨_,ls,⟨_,rfl,hl⟩,?_,hk⟩
 rw[←hz]
 cases b<;>simp[sg]
theorem IntL.abs{S:Nat→Prop}{w:World}{lv:Value}{b:Bool}{k:Nat}{z:Int}(h:IntL w S (.agg #[.bool b,lv]) k z):IntL w S (.agg #[.bool false,lv]) k (z.natAbs:Int):=by
 obtain⟨b,ls,⟨lv,e,hl⟩,hz,hk⟩:=h
 simp only[Value.agg.injEq,Array.mk.injEq,List.cons.injEq,Value.bool.injEq,and_true]at e
 obtain⟨rfl,rfl⟩:=e
 exact⟨_,ls,⟨_,rfl,hl⟩,by rw[←hz,sg_abs];rfl,hk⟩
theorem rcols_c{S:Nat→Prop}{w:World}{v:Value}{k:Nat}{z:Int}(hS:Old S w)(h:IntL w S v k z)(hk:k≤40000000):
  Con PG N.ref01_columns #[v] w (Ret w fun v' w2=>∃cs,ColsR w2 (Nw (fun _=>False) w w2) v' cs∧ColB cs (2*k) z):=by
 obtain⟨b,ls,hi,hz,hl⟩:=h
 have hlm:Lm ls:=by obtain⟨_,_,h⟩:=hi;exact h.lm
 refine(rcolumns_c hS hi (by omega)).mono fun _ w2 ⟨v2,e1,e2,e3⟩=>⟨v2,e1,e2,_,e3,by rw[limbCols_val,sgn_val,hz],by rw[limbCols_length];omega,limbCols_bound (sgn_or b) hlm,fun h0=>?_⟩
 cases b with
 |false=>exact fun c hc=>(limbCols_digits hlm c hc).1
 |true=>
  rw[sg_t]at hz
  exact fun c hc=>by rw[limbCols_zero _ (show val ls=0 by omega) c hc];decide
theorem rsettled_c{S:Nat→Prop}{w:World}{v:Value}{cs:List Int}{n:Nat}{z:Int}(hS:Old S w)(h:ColsR w S v cs)(hb:ColB cs n z)(hn:n≤100000000):
  Con PG N.ref01_settled #[v] w (Ret w fun v' w2=>IntC w2 (Nw (fun _=>False) w w2) v' z):=by
 have:=settled_c hS h (fun c hc=>by have:=hb.2.2.1 c hc;omega) (by have:=hb.2.1;omega)
 rw[hb.1]at this
 exact this
theorem rInt_c{S:Nat→Prop}{w:World}{v:Value}{k:Nat}{x:Int}(hS:Old S w)(hx:IntL w S v k x)(hk:k≤40000000):
  Con PG N.ref01_Int #[v] w (Ret w fun v' w2=>IntC w2 (Nw (fun _=>False) w w2) v' x):=by
 have hw:Bel w.heap.size w w:=Bel.refl
 replace hx:=hx.weak (S':=Cv S w.heap.size []) fun _ h=>.inl h
 obtain⟨b1,a1,n1,c1,rfl⟩:=hx.shape
 refine in_ref01_Int (by simp) ?_
 conv=>whnf
 refine callE_S (cE hw (Φ:=fun _ w' v w2=>∃cs,ColsR w2 (Nw (fun _=>False) w' w2) v cs∧ColB cs (2*k) (x)) (fun ρ w' r=>rcols_c (Rel.old r hS) (hx.rel r hS) (by omega)) ?_)
 rintro ρ wa1 v1 wb1 iv1 r he hw h_ ⟨cs,k1,bcs⟩
 clear hx
 have hc:=k1.got (S:=fun _=>False) r.baseLe (mN h_)
 clear r
 clear k1
 obtain⟨acs,ccs,rfl,lcs⟩:=hc.shape
 conv=>whnf
 refine callE_S (cE hw (Φ:=fun _ w' v w2=>IntC w2 (Nw (fun _=>False) w' w2) v (x)) (fun ρ w' r=>rsettled_c (Rel.old r (oldF w)) (hc.rel r (oldF w)) bcs (by omega)) ?_)
 rintro ρ wa2 v2 wb2 iv2 r he hw h_ hn
 clear hc
 have hC:=hn.got (S:=fun _=>False) r.baseLe (mN h_)
 clear r
 obtain⟨s2_0,s2_1,s2_2,s2_3,rfl⟩:=hC.shape
 conv=>whnf
 intro ρe we re
 exact⟨_,rfl,hw.tr re.bel,hC.out re (oldF w)⟩
theorem rMinus_c{S:Nat→Prop}{w:World}{v:Value}{k:Nat}{x:Int}(hS:Old S w)(hx:IntL w S v k x)(hk:k≤40000000):
  Con PG N.ref01_Minus #[v] w (Ret w fun v' w2=>IntC w2 (Nw (fun _=>False) w w2) v' (-x)):=by
 have hw:Bel w.heap.size w w:=Bel.refl
 replace hx:=hx.weak (S':=Cv S w.heap.size []) fun _ h=>.inl h
 obtain⟨b1,a1,n1,c1,rfl⟩:=hx.shape
 replace hx:=hx.neg
 refine in_ref01_Minus (by simp) ?_
 conv=>whnf
 refine callE_S (cE hw (Φ:=fun _ w' v w2=>IntC w2 (Nw (fun _=>False) w' w2) v (-x)) (fun ρ w' r=>rInt_c (Rel.old r hS) (hx.rel r hS) hk) ?_)
 rintro ρ wa1 v1 wb1 iv1 r he hw h_ hn
 clear hx
 have hC:=hn.got (S:=fun _=>False) r.baseLe (mN h_)
 clear r
 obtain⟨s1_0,s1_1,s1_2,s1_3,rfl⟩:=hC.shape
 conv=>whnf
 intro ρe we re
 exact⟨_,rfl,hw.tr re.bel,hC.out re (oldF w)⟩
theorem rSize_c{S:Nat→Prop}{w:World}{v:Value}{k:Nat}{x:Int}(hS:Old S w)(hx:IntL w S v k x)(hk:k≤40000000):
  Con PG N.ref01_Size #[v] w (Ret w fun v' w2=>IntC w2 (Nw (fun _=>False) w w2) v' ((x.natAbs:Int))):=by
 have hw:Bel w.heap.size w w:=Bel.refl
 replace hx:=hx.weak (S':=Cv S w.heap.size []) fun _ h=>.inl h
 obtain⟨b1,a1,n1,c1,rfl⟩:=hx.shape
 replace hx:=hx.abs
 refine in_ref01_Size (by simp) ?_
 conv=>whnf
 refine callE_S (cE hw (Φ:=fun _ w' v w2=>IntC w2 (Nw (fun _=>False) w' w2) v ((x.natAbs:Int))) (fun ρ w' r=>rInt_c (Rel.old r hS) (hx.rel r hS) hk) ?_)
 rintro ρ wa1 v1 wb1 iv1 r he hw h_ hn
 clear hx
 have hC:=hn.got (S:=fun _=>False) r.baseLe (mN h_)
 clear r
 obtain⟨s1_0,s1_1,s1_2,s1_3,rfl⟩:=hC.shape
 conv=>whnf
 intro ρe we re
 exact⟨_,rfl,hw.tr re.bel,hC.out re (oldF w)⟩
theorem rat_c{S:Nat→Prop}{w:World}{v:Value}{cs:List Int}{i:Nat}(hS:Old S w)(h:ColsR w S v cs):
  Con PG N.ref01_at #[v,.int .i64 i] w (Ret w fun v' _=>v'= .int .i64 (cs.getD i 0)):=by
 obtain⟨a,c,rfl,hc⟩:=h.shape
 refine in_ref01_at (by simp) ?_
 conv=>whnf
 refine BrS.mk (fun hi=>?_) (fun hi=>?_)
 ·have hi:i<cs.length:=by simpa using hi
  obtain⟨x,hx⟩:∃x,cs[i]? =some x:=⟨_,List.getElem?_eq_getElem hi⟩
  obtain⟨ad,rfl,q1,q2⟩:=h.load hx
  conv=>whnf
  refine⟨ad,rfl,⟨by omega,by omega⟩,?_⟩
  conv=>whnf
  refine⟨.int .i64 x,fun ρ w' r=>?_,?_⟩
  ·rw[Int.toNat_natCast];exact cellS hS Bel.refl r q1 q2
  conv=>whnf
  intro ρ w2 r
  exact⟨_,rfl,r.bel,by rw[List.getD,hx];rfl⟩
 ·have hi:cs.length≤i:=by
   have:¬i<cs.length:=by simpa using hi
   omega
  conv=>whnf
  intro ρ w2 r
  exact⟨_,rfl,r.bel,by rw[List.getD,List.getElem?_eq_none hi];rfl⟩
theorem val_zero{ls:List Nat}(h:∀x∈ls,x=0):val ls=0:=by
 induction ls with
 |nil=>rfl
 |cons l r ih=>rw[val,h l List.mem_cons_self,ih fun x hx=>h x (List.mem_cons_of_mem _ hx)]
theorem val_pos{ls:List Nat}{x:Nat}(h:x∈ls)(hx:x≠0):0<val ls:=by
 induction ls with
 |nil=>cases h
 |cons l r ih=>
  rw[val]
  rcases List.mem_cons.1 h with rfl|h
  ·omega
  ·have:=ih h;omega
theorem rSign_c{S:Nat→Prop}{w:World}{v:Value}{x:Int}(hS:Old S w)(hx:IntR w S v x):
  Con PG N.ref01_Sign #[v] w (Ret w fun v' _=>v'= .int .i64 x.sign):=by
 obtain⟨b,ls,⟨lv,rfl,h1⟩,hz⟩:=hx
 obtain⟨a,c,rfl,_,ha⟩:=h1.sl
 have hle1:=h1.le
 refine in_ref01_Sign (by simp) ?_
 conv=>whnf
 refine⟨Nat×World,fun z=>⟨[(1,.o (.p 0 0)),(3,.o (.v (.int .i64 z.1)))],[(0,.box T.Int [.v (.bool b),.v (.slice a ls.length c)])],1,[],z.2⟩,fun z=>ls.length-z.1,
  fun z=>z.1≤ls.length∧Bel w.heap.size w z.2∧∀x∈ls.take z.1,x=0,?_,?_⟩
 ·intro ρ w' r
  exact⟨(0,w'),⟨by simp,r.bel,by simp⟩,Sub.gen [] r ⟨rfl,trivial⟩ ⟨rfl,rfl,trivial⟩ (by simp[ScH,Blk.scopd,At.sc]) (by simp[ScE,SV.sc,At.sc]) (by rfl) (fun lo hi h=>h)⟩
 rintro⟨i,w1⟩ ⟨hi,hw,ht⟩
 dsimp only at hi hw ht ⊢
 conv=>whnf
 refine BrS.mk (fun hib=>?_) (fun hib=>?_)
 ·have hib:i<ls.length:=by simpa using hib
  obtain⟨y,hy⟩:∃x,ls[i]? =some x:=⟨_,List.getElem?_eq_getElem hib⟩
  obtain⟨ad,rfl,q1,q2⟩:=ha i y hy
  conv=>whnf
  refine⟨ad,rfl,⟨by omega,by omega⟩,?_⟩
  conv=>whnf
  refine⟨.int .u32 y,fun ρ w' r=>by rw[Int.toNat_natCast,Nat.mul_one];exact cellS hS hw r q1 q2,?_⟩
  conv=>whnf
  refine BrS.mk (fun hne=>?_) (fun hne=>?_)
  ·have hne:y≠0:=fun h=>by rw[h]at hne;simp at hne
   have hp:=val_pos (List.mem_of_getElem? hy) hne
   conv=>whnf
   cases b with
   |true=>
    rw[sg_t]at hz
    conv=>whnf
    intro ρ w2 r
    exact⟨_,rfl,hw.tr r.bel,by rw[Int.sign_eq_neg_one_of_neg (by omega)];rfl⟩
   |false=>
    rw[sg_f]at hz
    conv=>whnf
    intro ρ w2 r
    exact⟨_,rfl,hw.tr r.bel,by rw[Int.sign_eq_one_of_pos (by omega)];rfl⟩
  have hne:y=0:=by simpa using hne
  subst hne
  have ht2:∀x∈ls.take (i+1),x=0:=fun x hx=>by
   rw[List.take_add_one,hy]at hx
   rcases List.mem_append.1 hx with hx|hx
   ·exact ht x hx
   ·simpa using hx
  conv=>whnf
  refine⟨((i+1:Nat):Int),by rw[wrap64]<;>omega,?_⟩
  conv=>whnf
  intro ρ3 w3 r3
  exact⟨(i+1,w3),⟨hib,hw.tr r3.bel,ht2⟩,Sub.gen [] r3 ⟨rfl,trivial⟩ ⟨rfl,rfl,trivial⟩ (by simp[ScH,Blk.scopd,At.sc]) (by simp[ScE,SV.sc,At.sc]) (by rfl) (fun lo hi h=>h),by dsimp only;omega⟩
 have hib:i=ls.length:=by
  have:¬i<ls.length:=by simpa using hib
  omega
 subst hib
 rw[List.take_length]at ht
 conv=>whnf
 intro ρ w2 r
 refine⟨_,rfl,hw.tr r.bel,?_⟩
 rw[←hz,val_zero ht]
 cases b<;>rfl
end Go.Ex

/- The reference's integers: Sum, Diff, CmpInt. Printed by program. No condition but sizes. -/
namespace Go.Ex
open Go Go.Sx Go.Proofs

theorem ColB.at{cs:List Int}{n:Nat}{z:Int}(h:ColB cs n z)(i:Nat): -65535≤cs.getD i 0∧cs.getD i 0≤65535:=by
 rw[List.getD]
 cases hj:cs[i]? with
 |none=>simp
 |some d=>exact h.2.2.1 d (List.mem_of_getElem? hj)
end Go.Ex
namespace Go.Sx
open Go Go.Ex Go.Proofs
/-- a row of one's own, given to a function as columns -/
theorem Rel.vecCols{H:Hp}{nx:Nat}{iv:Iv}{B:Nat}{w w':World}{ρ:Nat→Sx.Val}(r:Rel H nx iv B w ρ w'){id m:Nat}{cs:List Int}(h:getH H id=some (.vec T.int 1 (cs.map (Value.int .i64))))(hm:m=cs.length)(hl:m≤maxLen):
  ∃S',Old S' w'∧ColsR w' S' ((SV.o (.w id m)).den ρ) cs:=by
 have hrow:=r.vecRow (m:=m) h (by rw[List.length_map,hm,Nat.mul_one]) (by decide)
 exact⟨_,fun g hg=>(ownsRow.low hrow g hg).2,rowCols hrow hm hl⟩
end Go.Sx
namespace Go.Ex
open Go Go.Sx Go.Proofs
/-- columns that have been settled, as one's own row -/
theorem rsettledOwn_c{H:Hp}{nx:Nat}{iv:Iv}{B:Nat}{w w':World}{ρ:Nat→Sx.Val}(r:Rel H nx iv B w ρ w'){id m:Nat}{cs:List Int}{z:Int}(h:getH H id=some (.vec T.int 1 (cs.map (Value.int .i64))))(hm:m=cs.length)(hl:m≤100000000)
  (hb:∀c∈cs,-1152921504606846976≤c∧c≤1152921504606846976) (hz:colval cs=z):Con PG N.ref01_settled #[(SV.o (.w id m)).den ρ] w' (Ret w' fun v' w2=>IntC w2 (Nw (fun _=>False) w' w2) v' z):=by
 subst hz
 obtain⟨S',h1,h2⟩:=r.vecCols h hm (by unfold maxLen;omega)
 exact settled_c h1 h2 hb (by omega)
theorem rSum_c{S:Nat→Prop}{w:World}{v u:Value}{k l:Nat}{x y:Int}(hS:Old S w)(hx:IntL w S v k x)(hy:IntL w S u l y)(hk:k≤10000000)(hl:l≤10000000):
  Con PG N.ref01_Sum #[v,u] w (Ret w fun v' w2=>IntC w2 (Nw (fun _=>False) w w2) v' (x+y)):=by
 have hw:Bel w.heap.size w w:=Bel.refl
 replace hx:=hx.weak (S':=Cv S w.heap.size []) fun _ h=>.inl h
 replace hy:=hy.weak (S':=Cv S w.heap.size []) fun _ h=>.inl h
 obtain⟨b1,a1,n1,c1,rfl⟩:=hx.shape
 obtain⟨b2,a2,n2,c2,rfl⟩:=hy.shape
 refine in_ref01_Sum (by simp) ?_
 conv=>whnf
 refine drawn_of_pi hτ hmix [.x 0,.x 2,.x 1,.x 3,.x 4,.x 5] (by kernel_rfl) (by kernel_rfl) ?_
 conv=>whnf
 refine cE hw (Φ:=fun _ w' v w2=>∃cs,ColsR w2 (Nw (fun _=>False) w' w2) v cs∧ColB cs (2*k) (x)) (fun ρ w' r=>rcols_c (Rel.old r hS) (hx.rel r hS) (by omega)) ?_
 rintro ρ wa1 v1 wb1 iv1 r he hw h_ ⟨ca,k1,bca⟩
 clear hx
 replace hy:=hy.past r hS he (mC h_)
 have hca:=k1.got (S:=fun _=>False) r.baseLe (mN h_)
 clear r
 clear k1
 obtain⟨aca,cca,rfl,lca⟩:=hca.shape
 conv=>whnf
 refine cE hw (Φ:=fun _ w' v w2=>∃cs,ColsR w2 (Nw (fun _=>False) w' w2) v cs∧ColB cs (2*l) (y)) (fun ρ w' r=>rcols_c (Rel.old r hS) (hy.rel r hS) (by omega)) ?_
 rintro ρ wa2 v2 wb2 iv2 r he hw h_ ⟨cb,k1,bcb⟩
 clear hy
 replace hca:=hca.past r (oldF w) he (mC h_)
 have hcb:=k1.got (S:=fun _=>False) r.baseLe (mN h_)
 clear r
 clear k1
 obtain⟨acb,ccb,rfl,lcb⟩:=hcb.shape
 conv=>whnf
 refine⟨Nat×World×Iv,fun z=>⟨[(4,.o (.p 2 0)),(5,.o (.v (.slice aca ca.length cca))),(6,.o (.v (.slice acb cb.length ccb))),(7,.o (.w 3 z.1)),(8,.o (.v (.int .i64 z.1)))],[(3,.vec T.int 1 (((List.range z.1).map fun j=>ca.getD j 0+cb.getD j 0).map (Value.int .i64))),(2,.box T.Int [.v (.bool false),.v (.slice none 0 0)])],4,z.2.2,z.2.1⟩,fun z=>max ca.length cb.length-z.1,
  fun z=>z.1≤max ca.length cb.length∧Bel w.heap.size w z.2.1∧ColsR z.2.1 (Cv (fun _=>False) w.heap.size z.2.2) (.slice aca ca.length cca) ca∧ColsR z.2.1 (Cv (fun _=>False) w.heap.size z.2.2) (.slice acb cb.length ccb) cb,?_,?_⟩
 ·intro ρ w' r
  exact⟨(0,w',iv2),⟨by simp,hw.tr r.bel,hca.rel r (oldF w),hcb.rel r (oldF w)⟩,Sub.nil 7 T.int 1 rfl (by simp[ScE,SV.sc,At.sc,initE]) r fun ρ1 r1=>
   Sub.gen [] r1 ⟨rfl,rfl,trivial⟩ ⟨rfl,rfl,rfl,rfl,rfl,trivial⟩ (by simp[ScH,Blk.scopd,At.sc]) (by simp[ScE,SV.sc,At.sc]) (by rfl) (fun lo hi h=>h)⟩
 clear hw hca hcb
 rintro⟨i,w1,iv⟩ ⟨hi,hw,hca,hcb⟩
 dsimp only at hi hw hca hcb ⊢
 have l1:=bca.2.1
 have l2:=bcb.2.1
 conv=>whnf
 refine BrS.mk (fun hib=>?_) (fun hib=>?_)
 ·have hib:i<max ca.length cb.length:=by
   have:=of_decide_eq_true hib
   omega
  conv=>whnf
  have q1:=bca.at i
  have q2:=bcb.at i
  refine callE_S (cE hw (Φ:=fun _ w' v w2=>v= .int .i64 (ca.getD i 0)) (fun ρ w' r=>rat_c (Rel.old r (oldF w)) (hca.rel r (oldF w))) ?_)
  rintro ρ wa3 v3 wb3 iv3 r he hw h_ rfl
  replace hca:=hca.past r (oldF w) he (mC h_)
  replace hcb:=hcb.past r (oldF w) he (mC h_)
  clear r
  conv=>whnf
  refine callE_S (cE hw (Φ:=fun _ w' v w2=>v= .int .i64 (cb.getD i 0)) (fun ρ w' r=>rat_c (Rel.old r (oldF w)) (hcb.rel r (oldF w))) ?_)
  rintro ρ wa4 v4 wb4 iv4 r he hw h_ rfl
  replace hca:=hca.past r (oldF w) he (mC h_)
  replace hcb:=hcb.past r (oldF w) he (mC h_)
  clear r
  conv=>whnf
  refine⟨ca.getD i 0+cb.getD i 0,by rw[wrap64]<;>omega,?_⟩
  conv=>whnf
  refine .inl ?_
  conv=>whnf
  refine⟨by simp,by omega,by unfold maxLen;omega,?_⟩
  conv=>whnf
  refine⟨((i+1:Nat):Int),by rw[wrap64]<;>omega,?_⟩
  conv=>whnf
  intro ρ3 w3 r3
  have hm5:((List.range (i+1)).map fun j=>ca.getD j 0+cb.getD j 0).map (Value.int .i64)=((List.range i).map fun j=>ca.getD j 0+cb.getD j 0).map (Value.int .i64)++[.int .i64 (ca.getD i 0+cb.getD i 0)]:=by
   rw[List.range_succ,List.map_append,List.map_append];rfl
  exact⟨(i+1,w3,_),⟨hib,hw.tr r3.bel,hca.rel r3 (oldF w),hcb.rel r3 (oldF w)⟩,Sub.gen [(3,5)] r3 ⟨by dsimp only;rw[hm5];rfl,rfl,trivial⟩ ⟨rfl,rfl,rfl,rfl,rfl,trivial⟩ (by simp[ScH,Blk.scopd,At.sc]) (by simp[ScE,SV.sc,At.sc]) (by rfl) (fun lo hi h=>h),by dsimp only;omega⟩
 have hib:i=max ca.length cb.length:=by
  have:=of_decide_eq_false hib
  omega
 clear hca hcb
 conv=>whnf
 generalize hcs:((List.range i).map fun j=>ca.getD j 0+cb.getD j 0)=cs
 have hz:colval cs=x+y:=by
  rw[←hcs,colsum_map,colsum_add,colsum_getD ca i (by omega),colsum_getD cb i (by omega),bca.1,bcb.1]
 have hlen:i=cs.length:=by rw[←hcs];simp
 have hbd:∀c∈cs,-1152921504606846976≤c∧c≤1152921504606846976:=fun c hc=>by
  rw[←hcs]at hc
  obtain⟨j,_,rfl⟩:=List.mem_map.1 hc
  have:=bca.at j
  have:=bcb.at j
  omega
 refine callE_S (cE hw (Φ:=fun _ w' v w2=>IntC w2 (Nw (fun _=>False) w' w2) v (x+y)) (fun ρ w' r=>rsettledOwn_c r rfl hlen (by omega) hbd hz) ?_)
 rintro ρ wa3 v3 wb3 iv3 r he hw h_ hn
 have hC:=hn.got (S:=fun _=>False) r.baseLe (mN h_)
 clear r
 obtain⟨s3_0,s3_1,s3_2,s3_3,rfl⟩:=hC.shape
 conv=>whnf
 intro ρe we re
 exact⟨_,rfl,hw.tr re.bel,hC.out re (oldF w)⟩
theorem rDiff_c{S:Nat→Prop}{w:World}{v u:Value}{k l:Nat}{x y:Int}(hS:Old S w)(hx:IntL w S v k x)(hy:IntL w S u l y)(hk:k≤10000000)(hl:l≤10000000):
  Con PG N.ref01_Diff #[v,u] w (Ret w fun v' w2=>IntC w2 (Nw (fun _=>False) w w2) v' (x-y)):=by
 have hly:=hy.ln
 have hw:Bel w.heap.size w w:=Bel.refl
 replace hx:=hx.weak (S':=Cv S w.heap.size []) fun _ h=>.inl h
 replace hy:=hy.weak (S':=Cv S w.heap.size []) fun _ h=>.inl h
 obtain⟨b1,a1,n1,c1,rfl⟩:=hx.shape
 obtain⟨b2,a2,n2,c2,rfl⟩:=hy.shape
 refine in_ref01_Diff (by simp) ?_
 conv=>whnf
 refine drawn_of_pi hτ hmix [.x 0,.x 1,.x 2,.x 3,.x 4] (by kernel_rfl) (by kernel_rfl) ?_
 conv=>whnf
 refine cE hw (Φ:=fun _ w' v w2=>IntC w2 (Nw (fun _=>False) w' w2) v (-y)) (fun ρ w' r=>rMinus_c (Rel.old r hS) (hy.rel r hS) (by omega)) ?_
 rintro ρ wa1 v1 wb1 iv1 r he hw h_ hn
 replace hx:=hx.past r hS he (mC h_)
 clear hy
 have hm:=hn.got (S:=fun _=>False) r.baseLe (mN h_)
 clear r
 obtain⟨s1_0,s1_1,s1_2,s1_3,rfl⟩:=hm.shape
 conv=>whnf
 refine cE hw (Φ:=fun _ w' v w2=>IntC w2 (Nw (fun _=>False) w' w2) v (x-y)) (fun ρ w' r=>?_) ?_
 ·have h:=rSum_c (Rel.old r hS) (hx.rel r hS) (((hm.rel r (oldF w)).l (k:=l) (by rw[Int.natAbs_neg];exact hly)).weak fun g hg=>Cv.false hg) hk hl
  rw[←Int.sub_eq_add_neg]at h
  exact h
 rintro ρ wa2 v2 wb2 iv2 r he hw h_ hn
 clear hx
 clear hm
 have hC:=hn.got (S:=fun _=>False) r.baseLe (mN h_)
 clear r
 obtain⟨s2_0,s2_1,s2_2,s2_3,rfl⟩:=hC.shape
 conv=>whnf
 intro ρe we re
 exact⟨_,rfl,hw.tr re.bel,hC.out re (oldF w)⟩
theorem rCmpInt_c{S:Nat→Prop}{w:World}{v u:Value}{k l:Nat}{x y:Int}(hS:Old S w)(hx:IntL w S v k x)(hy:IntL w S u l y)(hk:k≤10000000)(hl:l≤10000000):
  Con PG N.ref01_CmpInt #[v,u] w (Ret w fun v' _=>v'= .int .i64 (x-y).sign):=by
 have hw:Bel w.heap.size w w:=Bel.refl
 replace hx:=hx.weak (S':=Cv S w.heap.size []) fun _ h=>.inl h
 replace hy:=hy.weak (S':=Cv S w.heap.size []) fun _ h=>.inl h
 obtain⟨b1,a1,n1,c1,rfl⟩:=hx.shape
 obtain⟨b2,a2,n2,c2,rfl⟩:=hy.shape
 refine in_ref01_CmpInt (by simp) ?_
 conv=>whnf
 refine callE_S (cE hw (Φ:=fun _ w' v w2=>IntC w2 (Nw (fun _=>False) w' w2) v (x-y)) (fun ρ w' r=>rDiff_c (Rel.old r hS) (hx.rel r hS) (hy.rel r hS) hk hl) ?_)
 rintro ρ wa1 v1 wb1 iv1 r he hw h_ hn
 clear hx
 clear hy
 have hd:=hn.got (S:=fun _=>False) r.baseLe (mN h_)
 clear r
 obtain⟨s1_0,s1_1,s1_2,s1_3,rfl⟩:=hd.shape
 conv=>whnf
 refine callE_S (cE hw (Φ:=fun _ w' v w2=>v= .int .i64 (x-y).sign) (fun ρ w' r=>rSign_c (Rel.old r (oldF w)) (hd.rel r (oldF w)).r) ?_)
 rintro ρ wa2 v2 wb2 iv2 r he hw h_ rfl
 clear hd
 clear r
 conv=>whnf
 intro ρe we re
 exact⟨_,rfl,hw.tr re.bel,rfl⟩
end Go.Ex

/- The reference's integers: Prod. Printed by program. No condition but sizes. -/
namespace Go.Ex
open Go Go.Sx Go.Proofs

theorem mul_small{x y:Int}(hx: -65535≤x∧x≤65535)(hy: -65535≤y∧y≤65535):(x*y).natAbs≤4294836225:=by
 rw[Int.natAbs_mul]
 exact Nat.mul_le_mul (show x.natAbs≤65535 by omega) (show y.natAbs≤65535 by omega)
theorem conv_done{a b:List Int}{i k:Nat}(hk:k≤i+1)(h:i<k∨a.length≤k):cpart a b i k=convAt a b i:=by
 rcases h with h|h
 ·rw[convAt,show i+1=k by omega]
 ·obtain⟨m,hm⟩:∃m,i+1=k+m:=⟨i+1-k,by omega⟩
  rw[convAt,hm,cpart_rest a b i k m h]
theorem rProd_c{S:Nat→Prop}{w:World}{v u:Value}{k l:Nat}{x y:Int}(hS:Old S w)(hx:IntL w S v k x)(hy:IntL w S u l y)(hk:k≤10000000)(hl:l≤10000000):
  Con PG N.ref01_Prod #[v,u] w (Ret w fun v' w2=>IntC w2 (Nw (fun _=>False) w w2) v' (x*y)):=by
 have hw:Bel w.heap.size w w:=Bel.refl
 replace hx:=hx.weak (S':=Cv S w.heap.size []) fun _ h=>.inl h
 replace hy:=hy.weak (S':=Cv S w.heap.size []) fun _ h=>.inl h
 obtain⟨b1,a1,n1,c1,rfl⟩:=hx.shape
 obtain⟨b2,a2,n2,c2,rfl⟩:=hy.shape
 refine in_ref01_Prod (by simp) ?_
 conv=>whnf
 refine drawn_of_pi hτ hmix [.x 0,.x 2,.x 1,.x 3,.x 4,.x 5] (by kernel_rfl) (by kernel_rfl) ?_
 conv=>whnf
 refine cE hw (Φ:=fun _ w' v w2=>∃cs,ColsR w2 (Nw (fun _=>False) w' w2) v cs∧ColB cs (2*k) (x)) (fun ρ w' r=>rcols_c (Rel.old r hS) (hx.rel r hS) (by omega)) ?_
 rintro ρ wa1 v1 wb1 iv1 r he hw h_ ⟨ca,k1,bca⟩
 clear hx
 replace hy:=hy.past r hS he (mC h_)
 have hca:=k1.got (S:=fun _=>False) r.baseLe (mN h_)
 clear r
 clear k1
 obtain⟨aca,cca,rfl,lca⟩:=hca.shape
 conv=>whnf
 refine cE hw (Φ:=fun _ w' v w2=>∃cs,ColsR w2 (Nw (fun _=>False) w' w2) v cs∧ColB cs (2*l) (y)) (fun ρ w' r=>rcols_c (Rel.old r hS) (hy.rel r hS) (by omega)) ?_
 rintro ρ wa2 v2 wb2 iv2 r he hw h_ ⟨cb,k1,bcb⟩
 clear hy
 replace hca:=hca.past r (oldF w) he (mC h_)
 have hcb:=k1.got (S:=fun _=>False) r.baseLe (mN h_)
 clear r
 clear k1
 obtain⟨acb,ccb,rfl,lcb⟩:=hcb.shape
 conv=>whnf
 have l1:=bca.2.1
 have l2:=bcb.2.1
 refine⟨Nat×World,fun z=>⟨[(4,.o (.p 2 0)),(5,.o (.v (.slice aca ca.length cca))),(6,.o (.v (.slice acb cb.length ccb))),(7,.o (.w 3 z.1)),(8,.o (.v (.int .i64 ((z.1:Nat):Int))))],[(3,.vec T.int 1 (((List.range z.1).map (convAt ca cb)).map (Value.int .i64))),(2,.box T.Int [.v (.bool false),.v (.slice none 0 0)])],4,iv2,z.2⟩,fun z=>ca.length+cb.length-z.1,
  fun z=>(z.1+1≤ca.length+cb.length∨z.1=0)∧Bel w.heap.size w z.2∧ColsR z.2 (Cv (fun _=>False) w.heap.size iv2) (.slice aca ca.length cca) ca∧ColsR z.2 (Cv (fun _=>False) w.heap.size iv2) (.slice acb cb.length ccb) cb,?_,?_⟩
 ·intro ρ w' r
  exact⟨(0,w'),⟨by simp,hw.tr r.bel,hca.rel r (oldF w),hcb.rel r (oldF w)⟩,Sub.nil 7 T.int 1 rfl (by simp[ScE,SV.sc,At.sc,initE]) r fun ρ1 r1=>
   Sub.gen [] r1 ⟨rfl,rfl,trivial⟩ ⟨rfl,rfl,rfl,rfl,rfl,trivial⟩ (by simp[ScH,Blk.scopd,At.sc]) (by simp[ScE,SV.sc,At.sc]) (by rfl) (fun lo hi h=>h)⟩
 clear hw hca hcb
 rintro⟨i,w1⟩ ⟨hi,hw,hca,hcb⟩
 dsimp only at hi hw hca hcb ⊢
 conv=>whnf
 refine⟨((i+1:Nat):Int),by rw[wrap64]<;>omega,?_⟩
 conv=>whnf
 refine⟨((ca.length+cb.length:Nat):Int),by rw[wrap64]<;>omega,?_⟩
 conv=>whnf
 refine BrS.mk (fun hib=>?_) (fun hib=>?_)
 ·have hib:i+1<ca.length+cb.length:=by
   have:=of_decide_eq_true hib
   omega
  conv=>whnf
  refine⟨(i:Int)-cb.length,by rw[wrap64]<;>omega,?_⟩
  conv=>whnf
  refine⟨(i:Int)-cb.length+1,by rw[wrap64]<;>omega,?_⟩
  conv=>whnf
  rw[show max 0 ((i:Int)-cb.length+1)=((i+1-cb.length:Nat):Int) by omega]
  obtain⟨k0,hk0⟩:∃k0,k0=i+1-cb.length:=⟨_,rfl⟩
  rw[←hk0]
  refine⟨Nat×World,fun z=>⟨[(4,.o (.p 2 0)),(5,.o (.v (.slice aca ca.length cca))),(6,.o (.v (.slice acb cb.length ccb))),(7,.o (.w 3 i)),(8,.o (.v (.int .i64 ((i:Nat):Int)))),(9,.o (.v (.int .i64 (cpart ca cb i z.1)))),(10,.o (.v (.int .i64 ((z.1:Nat):Int))))],[(3,.vec T.int 1 (((List.range i).map (convAt ca cb)).map (Value.int .i64))),(2,.box T.Int [.v (.bool false),.v (.slice none 0 0)])],4,iv2,z.2⟩,fun z=>i+1-z.1,
   fun z=>k0≤z.1∧z.1≤i+1∧Bel w.heap.size w z.2∧ColsR z.2 (Cv (fun _=>False) w.heap.size iv2) (.slice aca ca.length cca) ca∧ColsR z.2 (Cv (fun _=>False) w.heap.size iv2) (.slice acb cb.length ccb) cb,?_,?_⟩
  ·intro ρ w' r
   refine⟨(k0,w'),⟨by simp,by dsimp only;omega,hw.tr r.bel,hca.rel r (oldF w),hcb.rel r (oldF w)⟩,Sub.gen [] r ⟨rfl,rfl,trivial⟩ ⟨rfl,rfl,rfl,rfl,rfl,?_,rfl,trivial⟩ (by simp[ScH,Blk.scopd,At.sc]) (by simp[ScE,SV.sc,At.sc]) (by rfl) (fun lo hi h=>h)⟩
   dsimp only
   rw[cpart_skip ca cb i k0 k0 (fun j hj=>by omega) (by omega) (Nat.le_refl _)]
   rfl
  clear hw hca hcb
  rintro⟨j,w2⟩ ⟨hj0,hj1,hw,hca,hcb⟩
  dsimp only at hj0 hj1 hw hca hcb ⊢
  conv=>whnf
  refine BrS.mk (fun hji=>?_) (fun hji=>?_)
  ·have hji:j≤i:=by
    have:=of_decide_eq_true hji
    omega
   conv=>whnf
   refine BrS.mk (fun hja=>?_) (fun hja=>?_)
   ·have hja:j<ca.length:=by
     have:=of_decide_eq_true hja
     omega
    obtain⟨p,hp⟩:∃p,ca[j]? =some p:=⟨_,List.getElem?_eq_getElem hja⟩
    obtain⟨q,hq⟩:∃q,cb[i-j]? =some q:=⟨_,List.getElem?_eq_getElem (by omega)⟩
    obtain⟨ad,rfl,q1,q2⟩:=hca.load hp
    obtain⟨ad2,rfl,q3,q4⟩:=hcb.load hq
    have e1:ca.getD j 0=p:=by rw[List.getD,hp];rfl
    have e2:cb.getD (i-j) 0=q:=by rw[List.getD,hq];rfl
    have e3:cpart ca cb i (j+1)=cpart ca cb i j+p*q:=by rw[cpart,e1,if_pos hji,e2]
    have m1:=bca.at j
    have m2:=bcb.at (i-j)
    rw[e1]at m1
    rw[e2]at m2
    have m3:=mul_small m1 m2
    have m4:=cpart_bound (a:=ca) (b:=cb) (i:=i) bca.2.2.1 bcb.2.2.1 j
    conv=>whnf
    refine drawn_of_pi hτ hmix [.x 0,.x 1,.x 2,.x 3,.x 4,.x 5,.x 6,.x 7,.x 8,.x 9,.x 10,.x 11,.x 12,.x 13] (by kernel_rfl) (by kernel_rfl) ?_
    conv=>whnf
    refine⟨ad,rfl,⟨by omega,by omega⟩,?_⟩
    conv=>whnf
    refine⟨.int .i64 p,fun ρ w' r=>?_,?_⟩
    ·rw[Int.toNat_natCast,cell_of_heap (w:=w2) (w2:=w') (by rw[addB];exact Rel.same (S:=fun _=>False) r (oldF w) q1)]
     exact q2
    conv=>whnf
    refine⟨((i-j:Nat):Int),by rw[wrap64]<;>omega,?_⟩
    conv=>whnf
    refine⟨ad2,rfl,⟨by omega,by omega⟩,?_⟩
    conv=>whnf
    refine⟨.int .i64 q,fun ρ w' r=>?_,?_⟩
    ·rw[Int.toNat_natCast,cell_of_heap (w:=w2) (w2:=w') (by rw[addB];exact Rel.same (S:=fun _=>False) r (oldF w) q3)]
     exact q4
    conv=>whnf
    refine⟨p*q,by rw[wrap64]<;>omega,?_⟩
    conv=>whnf
    refine⟨cpart ca cb i (j+1),by rw[e3,wrap64]<;>omega,?_⟩
    conv=>whnf
    refine⟨((j+1:Nat):Int),by rw[wrap64]<;>omega,?_⟩
    conv=>whnf
    intro ρ3 w3 r3
    exact⟨(j+1,w3),⟨by dsimp only;omega,by dsimp only;omega,hw.tr r3.bel,hca.rel r3 (oldF w),hcb.rel r3 (oldF w)⟩,Sub.gen [] r3 ⟨rfl,rfl,trivial⟩ ⟨rfl,rfl,rfl,rfl,rfl,rfl,rfl,trivial⟩ (by simp[ScH,Blk.scopd,At.sc]) (by simp[ScE,SV.sc,At.sc]) (by rfl) (fun lo hi h=>h),by dsimp only;omega⟩
   have hja:ca.length≤j:=by
    have:=of_decide_eq_false hja
    omega
   rw[conv_done hj1 (.inr hja)]
   have m4:=cpart_bound (a:=ca) (b:=cb) (i:=i) bca.2.2.1 bcb.2.2.1 (i+1)
   conv=>whnf
   refine .inl ?_
   conv=>whnf
   refine⟨by simp,by omega,by unfold maxLen;omega,?_⟩
   conv=>whnf
   refine⟨((i+1:Nat):Int),by rw[wrap64]<;>omega,?_⟩
   conv=>whnf
   intro ρ3 w3 r3
   have hm5:((List.range (i+1)).map (convAt ca cb)).map (Value.int .i64)=((List.range i).map (convAt ca cb)).map (Value.int .i64)++[.int .i64 (convAt ca cb i)]:=by
    rw[List.range_succ,List.map_append,List.map_append];rfl
   exact⟨(i+1,w3),⟨.inl hib,hw.tr r3.bel,hca.rel r3 (oldF w),hcb.rel r3 (oldF w)⟩,Sub.gen [(3,5)] r3 ⟨by dsimp only;rw[hm5];rfl,rfl,trivial⟩ ⟨rfl,rfl,rfl,rfl,rfl,trivial⟩ (by simp[ScH,Blk.scopd,At.sc]) (by simp[ScE,SV.sc,At.sc]) (by rfl) (fun lo hi h=>h),by dsimp only;omega⟩
  have hji:i<j:=by
   have:=of_decide_eq_false hji
   omega
  rw[conv_done hj1 (.inl hji)]
  have m4:=cpart_bound (a:=ca) (b:=cb) (i:=i) bca.2.2.1 bcb.2.2.1 (i+1)
  conv=>whnf
  refine .inl ?_
  conv=>whnf
  refine⟨by simp,by omega,by unfold maxLen;omega,?_⟩
  conv=>whnf
  refine⟨((i+1:Nat):Int),by rw[wrap64]<;>omega,?_⟩
  conv=>whnf
  intro ρ3 w3 r3
  have hm5:((List.range (i+1)).map (convAt ca cb)).map (Value.int .i64)=((List.range i).map (convAt ca cb)).map (Value.int .i64)++[.int .i64 (convAt ca cb i)]:=by
   rw[List.range_succ,List.map_append,List.map_append];rfl
  exact⟨(i+1,w3),⟨.inl hib,hw.tr r3.bel,hca.rel r3 (oldF w),hcb.rel r3 (oldF w)⟩,Sub.gen [(3,5)] r3 ⟨by dsimp only;rw[hm5];rfl,rfl,trivial⟩ ⟨rfl,rfl,rfl,rfl,rfl,trivial⟩ (by simp[ScH,Blk.scopd,At.sc]) (by simp[ScE,SV.sc,At.sc]) (by rfl) (fun lo hi h=>h),by dsimp only;omega⟩
 have hib:ca.length+cb.length≤i+1:=by
  have:=of_decide_eq_false hib
  omega
 clear hca hcb
 conv=>whnf
 generalize hcs:((List.range i).map (convAt ca cb))=cs
 have hz:colval cs=x*y:=by
  rw[←hcs,colsum_map,conv_sum ca cb i hib,bca.1,bcb.1]
 have hlen:i=cs.length:=by rw[←hcs];simp
 have hbd:∀c∈cs,-1152921504606846976≤c∧c≤1152921504606846976:=fun c hc=>by
  rw[←hcs]at hc
  obtain⟨j,hj,rfl⟩:=List.mem_map.1 hc
  have hj:=List.mem_range.1 hj
  have:=cpart_bound (a:=ca) (b:=cb) (i:=j) bca.2.2.1 bcb.2.2.1 (j+1)
  rw[convAt]
  omega
 refine callE_S (cE hw (Φ:=fun _ w' v w2=>IntC w2 (Nw (fun _=>False) w' w2) v (x*y)) (fun ρ w' r=>rsettledOwn_c r rfl hlen (by omega) hbd hz) ?_)
 rintro ρ wa3 v3 wb3 iv3 r he hw h_ hn
 have hC:=hn.got (S:=fun _=>False) r.baseLe (mN h_)
 clear r
 obtain⟨s3_0,s3_1,s3_2,s3_3,rfl⟩:=hC.shape
 conv=>whnf
 intro ρe we re
 exact⟨_,rfl,hw.tr re.bel,hC.out re (oldF w)⟩
end Go.Ex

/- Division by bits: the plain laws. -/
namespace Go.Ex
theorem rdiv_step{b r r2 q X n c:Int}(h:X=b*q+r)(hr:r*65536+c=b*n+r2):c+65536*X=b*(n+65536*q)+r2:=by
 rw[h,Int.mul_add,Int.mul_add,Int.mul_left_comm b 65536 q]
 omega
/-- the quotient and the remainder of sizes become those of the numbers -/
theorem div_sign{x y Q R:Int}(hy:y≠0)(h:(x.natAbs:Int)=(y.natAbs:Int)*Q+R)(h0:0≤R)(h1:R<(y.natAbs:Int)):
  (if x<0∧0<R then(if (x<0)↔(y<0)then(Q+1)else -(Q+1))else(if (x<0)↔(y<0)then Q else -Q))=x / y∧(if x<0∧0<R then(y.natAbs:Int)-R else R)=x % y:=by
 have key:∀q r:Int,r+y*q=x→0≤r→r<(y.natAbs:Int)→q=x / y∧r=x % y:=by
  intro q r e1 e2 e3
  have m:x % y=r:=by
   rw[←e1,Int.add_mul_emod_self_left]
   rcases Int.lt_or_lt_of_ne hy with h|h
   ·rw[←Int.emod_neg,Int.emod_eq_of_lt e2 (by omega)]
   ·exact Int.emod_eq_of_lt e2 (by omega)
  have d:=Int.mul_ediv_add_emod x y
  rw[m]at d
  exact⟨(Int.eq_of_mul_eq_mul_left hy (by omega)),m.symm⟩
 by_cases hx:x<0
 ·have ex:(x.natAbs:Int)= -x:=by omega
  by_cases hy':y<0
  ·have ey:(y.natAbs:Int)= -y:=by omega
   rw[ex,ey,Int.neg_mul]at h
   by_cases hR:0<R
   ·rw[if_pos (show x<0∧0<R from⟨hx,hR⟩),if_pos (show x<0∧0<R from⟨hx,hR⟩),if_pos (show (x<0)↔(y<0) by simp[hx,hy'])]
    exact key _ _ (by rw[Int.mul_add,Int.mul_one];omega) (by omega) (by omega)
   ·rw[if_neg (show ¬(x<0∧0<R) by omega),if_neg (show ¬(x<0∧0<R) by omega),if_pos (show (x<0)↔(y<0) by simp[hx,hy'])]
    exact key _ _ (by omega) h0 h1
  ·have ey:(y.natAbs:Int)=y:=by omega
   rw[ex,ey]at h
   have hn:¬((x<0)↔(y<0)):=by simp[hx,hy']
   by_cases hR:0<R
   ·rw[if_pos (show x<0∧0<R from⟨hx,hR⟩),if_pos (show x<0∧0<R from⟨hx,hR⟩),if_neg hn]
    exact key _ _ (by rw[Int.mul_neg,Int.mul_add,Int.mul_one];omega) (by omega) (by omega)
   ·rw[if_neg (show ¬(x<0∧0<R) by omega),if_neg (show ¬(x<0∧0<R) by omega),if_neg hn]
    exact key _ _ (by rw[Int.mul_neg];omega) h0 h1
 ·have ex:(x.natAbs:Int)=x:=by omega
  rw[if_neg (show ¬(x<0∧0<R) by omega),if_neg (show ¬(x<0∧0<R) by omega)]
  by_cases hy':y<0
  ·have ey:(y.natAbs:Int)= -y:=by omega
   rw[ex,ey,Int.neg_mul]at h
   rw[if_neg (show ¬((x<0)↔(y<0)) by simp[hx,hy'])]
   exact key _ _ (by rw[Int.mul_neg];omega) h0 h1
  ·have ey:(y.natAbs:Int)=y:=by omega
   rw[ex,ey]at h
   rw[if_pos (show (x<0)↔(y<0) by simp[hx,hy'])]
   exact key _ _ (by omega) h0 h1
theorem sign_cases(z:Int):(z<0∧z.sign= -1)∨(z=0∧z.sign=0)∨(0<z∧z.sign=1):=by
 rcases Int.lt_trichotomy z 0 with h|h|h
 ·exact .inl ⟨h,Int.sign_eq_neg_one_of_neg h⟩
 ·exact .inr (.inl ⟨h,by rw[h];rfl⟩)
 ·exact .inr (.inr ⟨h,Int.sign_eq_one_of_pos h⟩)
end Go.Ex
