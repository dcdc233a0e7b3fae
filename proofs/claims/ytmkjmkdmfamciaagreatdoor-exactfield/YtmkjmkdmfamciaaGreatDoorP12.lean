/- A part of the proof: texts X57 to X57. Each tells its conditions in its theorems. -/
import Derived.Test.YtmkjmkdmfamciaaGreatDoorP11
/- ExactField of the laws of chapter 1. Printed by program. No condition. -/
namespace Go.Ex
open Go Go.Sx Go.Proofs

theorem RatR.limbs {S : Nat → Prop} {w : World} {v : Value} {a b : Int} (h : RatR w S v a b) : ∃ b1 a1 l1 c1 b2 a2 l2 c2, v = .agg #[.bool b1, .slice a1 l1.length c1, .bool b2, .slice a2 l2.length c2] ∧ Lm l1 ∧ Lm l2 ∧ sg b1 (val l1) = a ∧ sg b2 (val l2) = b := by
  obtain ⟨b1, v1, b2, v2, rfl, h1, h2⟩ := h
  obtain ⟨b1', a1, l1, c1, e1, h3, h4⟩ := h1.limbs
  obtain ⟨b2', a2, l2, c2, e2, h5, h6⟩ := h2.limbs
  simp only [Value.agg.injEq, Array.mk.injEq, List.cons.injEq, Value.bool.injEq, and_true] at e1 e2
  obtain ⟨rfl, rfl⟩ := e1
  obtain ⟨rfl, rfl⟩ := e2
  exact ⟨b1, a1, l1, c1, b2, a2, l2, c2, rfl, h3.lm, h5.lm, h4, h6⟩
/-- a short fraction of the api -/
theorem RatR.short {S : Nat → Prop} {w : World} {b1 b2 : Bool} {a1 a2 : Option Addr} {l1 l2 : List Nat} {c1 c2 : Nat} {a b : Int} (h : RatR w S (.agg #[.bool b1, .slice a1 l1.length c1, .bool b2, .slice a2 l2.length c2]) a b)
    (m1 : Lm l1) (m2 : Lm l2) (e1 : sg b1 (val l1) = a) (e2 : sg b2 (val l2) = b) (k1 : l1.length ≤ 3) (k2 : l2.length ≤ 3) :
    RatV w S (.agg #[.bool b1, .slice a1 l1.length c1, .bool b2, .slice a2 l2.length c2]) (ratio a b) ∧ rl (ratio a b) ≤ 3 := by
  have q1 : ln a.natAbs ≤ 3 := by rw [← e1, sg_abs]; exact ln_limbs m1 k1
  have q2 : ln b.natAbs ≤ 3 := by rw [← e2, sg_abs]; exact ln_limbs m2 k2
  have q3 := rl_ratio a b
  exact ⟨⟨a, b, h, rfl, by omega, by omega⟩, by omega⟩
theorem rs_self (q : Rat) : rs (q - q) = 0 := by rw [Rat.sub_self]; decide
theorem rs_sub0 (q : Rat) : rs (q - 0) = rs q := by rw [Rat.sub_eq_add_neg, Rat.neg_zero, Rat.add_zero]
theorem ratio_zero (z : Int) : ratio z 0 = (z : Rat) := by rw [ratio, if_pos rfl, divInt_one]
theorem quoZero_c {S : Nat → Prop} {w : World} {v u : Value} {p q : Rat} (hS : Old S w) (hp : RatV w S v p) (hq : RatV w S u q) (h0 : q = 0) :
    Con PG N.exact_Quo #[v, u] w (Ret w fun v' _ => v' = .tuple #[ratNil, .int .i64 9]) :=
  (vQuo_c hS hp hq).mono fun _ _ ⟨v2, e1, e2, e3⟩ => ⟨v2, e1, e2, e3.elim (fun h => h.2) fun h => absurd h0 h.1⟩
theorem quoNon_c {S : Nat → Prop} {w : World} {v u : Value} {p q : Rat} (hS : Old S w) (hp : RatV w S v p) (hq : RatV w S u q) (h0 : q ≠ 0) :
    Con PG N.exact_Quo #[v, u] w (Ret w fun v' w2 => ∃ r, v' = .tuple #[r, .int .i64 0] ∧ RatC w2 (Nw (fun _ => False) w w2) r (p / q)) :=
  (vQuo_c hS hp hq).mono fun _ _ ⟨v2, e1, e2, e3⟩ => ⟨v2, e1, e2, e3.elim (fun h => absurd h.1 h0) fun h => h.2⟩
theorem IntC.frac {S : Nat → Prop} {w : World} {b : Bool} {l : Value} {z : Int} (h : IntC w S (.agg #[.bool b, l]) z) (hl : ln z.natAbs ≤ 100000) : RatV w S (.agg #[.bool b, l, .bool false, .slice none 0 0]) ((z : Int) : Rat) :=
  ⟨z, 0, ⟨_, _, _, _, rfl, h.r, ⟨false, [], ⟨_, rfl, Limbs.nil _ _⟩, rfl⟩⟩, ratio_zero z, hl, by decide⟩
theorem rl_whole0 (z : Int) : rl ((z : Int) : Rat) ≤ ln z.natAbs + 1 := by
  unfold rl
  rw [Rat.num_intCast, Rat.den_intCast, ln_one]
  omega
theorem rat_distrib (x y z : Rat) : x * (y + z) = x * y + x * z := Rat.mul_add x y z
theorem rat_back (x y : Rat) : x - y + y = x := by rw [Rat.sub_eq_add_neg, Rat.add_assoc, Rat.neg_add_cancel, Rat.add_zero]
theorem rat_quo (x : Rat) {y : Rat} (h : y ≠ 0) : x / y * y = x := by rw [Rat.div_def, Rat.mul_assoc, Rat.inv_mul_cancel y h, Rat.mul_one]
theorem exactField_c {S : Nat → Prop} {w : World} {v u t : Value} {xa xb ya yb za zb : Int} (hS : Old S w) (hx : RatR w S v xa xb) (hy : RatR w S u ya yb) (hz : RatR w S t za zb) :
    Con PG N.law01_ExactField #[v, u, t] w (Ret w fun v' _ => v' = .bool true) := by
  have hw : Bel w.heap.size w w := Bel.refl
  obtain ⟨b01, a01, l01, c01, b02, a02, l02, c02, rfl, m01, m02, e01, e02⟩ := hx.limbs
  obtain ⟨b11, a11, l11, c11, b12, a12, l12, c12, rfl, m11, m12, e11, e12⟩ := hy.limbs
  obtain ⟨b21, a21, l21, c21, b22, a22, l22, c22, rfl, m21, m22, e21, e22⟩ := hz.limbs
  refine in_law01_ExactField (by simp) ?_
  replace hx := hx.weak (S' := Cv S w.heap.size []) fun _ h => .inl h
  replace hy := hy.weak (S' := Cv S w.heap.size []) fun _ h => .inl h
  replace hz := hz.weak (S' := Cv S w.heap.size []) fun _ h => .inl h
  conv => whnf
  refine callE_S (callE_con (Φ := fun _ w' v w2 => ∃ d, v = .bool d ∧ (d = true → (l01.length ≤ 3 ∧ l02.length ≤ 3) ∧ (l11.length ≤ 3 ∧ l12.length ≤ 3) ∧ (l21.length ≤ 3 ∧ l22.length ≤ 3))) (fun ρ w' r => ?_) ?_)
  · have hb := r.boxSeq (id := 3) (sz := 4) (n := 3) rfl rfl (by decide) (by intro u hu; simp at hu; rcases hu with rfl | rfl | rfl | rfl | rfl | rfl | rfl | rfl | rfl | rfl | rfl | rfl <;> rfl)
    refine (brief_c (S := fun g => g < w'.heap.size) (ks := [((b01, a01, l01.length, c01), (b02, a02, l02.length, c02)), ((b11, a11, l11.length, c11), (b12, a12, l12.length, c12)), ((b21, a21, l21.length, c21), (b22, a22, l22.length, c22))]) (fun g hg => hg) (hb.weak fun g hg => by rw [hg]; exact Rel.lt r rfl)).mono fun _ w2 ⟨v2, e1, e2, e3⟩ => ⟨v2, e1, e2, _, e3, fun h => ?_⟩
    have h := of_decide_eq_true h
    exact ⟨h ((b01, a01, l01.length, c01), (b02, a02, l02.length, c02)) (by simp), h ((b11, a11, l11.length, c11), (b12, a12, l12.length, c12)) (by simp), h ((b21, a21, l21.length, c21), (b22, a22, l22.length, c22)) (by simp)⟩
  rintro ρ wa1 v1 wb1 r he hb ⟨d, rfl, hd⟩
  replace hw := hw.tr hb
  replace hx := hx.past (iv' := (wa1.heap.size, wb1.heap.size) :: []) r hS he fun x hx => List.mem_cons_of_mem _ hx
  replace hy := hy.past (iv' := (wa1.heap.size, wb1.heap.size) :: []) r hS he fun x hx => List.mem_cons_of_mem _ hx
  replace hz := hz.past (iv' := (wa1.heap.size, wb1.heap.size) :: []) r hS he fun x hx => List.mem_cons_of_mem _ hx
  clear r he hb
  generalize (wa1.heap.size, wb1.heap.size) :: [] = iv1 at *
  conv => whnf
  cases d with
  | false =>
    conv => whnf
    refine callE_S (callE_con (Φ := fun _ w' v w2 => v = .bool true) (fun ρ w' r => awake_c w') ?_)
    rintro ρ wa2 v2 wb2 r he hb rfl
    replace hw := hw.tr hb
    replace hx := hx.past (iv' := (wa2.heap.size, wb2.heap.size) :: iv1) r hS he fun x hx => List.mem_cons_of_mem _ hx
    replace hy := hy.past (iv' := (wa2.heap.size, wb2.heap.size) :: iv1) r hS he fun x hx => List.mem_cons_of_mem _ hx
    replace hz := hz.past (iv' := (wa2.heap.size, wb2.heap.size) :: iv1) r hS he fun x hx => List.mem_cons_of_mem _ hx
    clear r he hb
    generalize (wa2.heap.size, wb2.heap.size) :: iv1 = iv2 at *
    conv => whnf
    intro ρe we re
    exact ⟨_, rfl, hw.tr re.bel, rfl⟩
  | true =>
    obtain ⟨⟨g01, g02⟩, ⟨g11, g12⟩, ⟨g21, g22⟩⟩ := hd rfl
    clear hd
    obtain ⟨hx, r0⟩ := hx.short m01 m02 e01 e02 g01 g02
    generalize ratio xa xb = x at hx r0
    clear m01 m02 e01 e02 g01 g02
    obtain ⟨hy, r1⟩ := hy.short m11 m12 e11 e12 g11 g12
    generalize ratio ya yb = y at hy r1
    clear m11 m12 e11 e12 g11 g12
    obtain ⟨hz, r2⟩ := hz.short m21 m22 e21 e22 g21 g22
    generalize ratio za zb = z at hz r2
    clear m21 m22 e21 e22 g21 g22
    have f1 := rl_add y z
    have f2 := rl_mul x (y + z)
    have f3 := rl_mul x y
    have f4 := rl_mul x z
    have f5 := rl_add (x * y) (x * z)
    have f6 := rl_add x y
    have f7 := rl_add (x + y) z
    have f8 := rl_add x (y + z)
    have f9 := rl_sub x y
    have f10 := rl_add (x - y) y
    have f11 := rs_range (x - y)
    conv => whnf
    refine drawn_of_pi hτ hmix [.x 0, .x 1, .x 2, .x 5, .x 6, .x 8, .x 9, .x 3, .x 4, .x 7, .x 10, .x 11, .x 12, .x 13, .x 14, .x 15, .x 16, .x 18, .x 20, .x 21, .x 22, .x 17, .x 19, .x 23, .x 24, .x 25, .x 26, .x 27, .x 28, .x 29, .x 30, .x 32, .x 34, .x 31, .x 33, .x 35, .x 36, .x 37, .x 38] (by kernel_rfl) (by kernel_rfl) ?_
    conv => whnf
    refine callE_con (Φ := fun _ w' v w2 => RatC w2 (Nw (fun _ => False) w' w2) v (y + z)) (fun ρ w' r => vAdd_c (Rel.old r hS) (hy.rel r hS) (hz.rel r hS)) ?_
    rintro ρ wa2 v2 wb2 r he hb hn
    replace hw := hw.tr hb
    replace hx := hx.past (iv' := (wa2.heap.size, wb2.heap.size) :: iv1) r hS he fun x hx => List.mem_cons_of_mem _ hx
    replace hy := hy.past (iv' := (wa2.heap.size, wb2.heap.size) :: iv1) r hS he fun x hx => List.mem_cons_of_mem _ hx
    replace hz := hz.past (iv' := (wa2.heap.size, wb2.heap.size) :: iv1) r hS he fun x hx => List.mem_cons_of_mem _ hx
    have h1 := hn.got (S := fun _ => False) r.baseLe (iv := (wa2.heap.size, wb2.heap.size) :: iv1) List.mem_cons_self
    clear r he hb hn
    generalize (wa2.heap.size, wb2.heap.size) :: iv1 = iv2 at *
    obtain ⟨s2_0, s2_1, s2_2, s2_3, s2_4, s2_5, s2_6, s2_7, rfl⟩ := h1.shape
    conv => whnf
    refine callE_con (Φ := fun _ w' v w2 => RatC w2 (Nw (fun _ => False) w' w2) v (x * (y + z))) (fun ρ w' r => vMul_c (Rel.old r hS) (hx.rel r hS) (((h1.rel r (oldF w)).v (by omega)).weak fun g hg => Cv.false hg)) ?_
    rintro ρ wa3 v3 wb3 r he hb hn
    replace hw := hw.tr hb
    replace hx := hx.past (iv' := (wa3.heap.size, wb3.heap.size) :: iv2) r hS he fun x hx => List.mem_cons_of_mem _ hx
    replace hy := hy.past (iv' := (wa3.heap.size, wb3.heap.size) :: iv2) r hS he fun x hx => List.mem_cons_of_mem _ hx
    replace hz := hz.past (iv' := (wa3.heap.size, wb3.heap.size) :: iv2) r hS he fun x hx => List.mem_cons_of_mem _ hx
    clear h1
    have h2 := hn.got (S := fun _ => False) r.baseLe (iv := (wa3.heap.size, wb3.heap.size) :: iv2) List.mem_cons_self
    clear r he hb hn
    generalize (wa3.heap.size, wb3.heap.size) :: iv2 = iv3 at *
    obtain ⟨s3_0, s3_1, s3_2, s3_3, s3_4, s3_5, s3_6, s3_7, rfl⟩ := h2.shape
    conv => whnf
    refine callE_con (Φ := fun _ w' v w2 => RatC w2 (Nw (fun _ => False) w' w2) v (x * y)) (fun ρ w' r => vMul_c (Rel.old r hS) (hx.rel r hS) (hy.rel r hS)) ?_
    rintro ρ wa4 v4 wb4 r he hb hn
    replace hw := hw.tr hb
    replace hx := hx.past (iv' := (wa4.heap.size, wb4.heap.size) :: iv3) r hS he fun x hx => List.mem_cons_of_mem _ hx
    replace hy := hy.past (iv' := (wa4.heap.size, wb4.heap.size) :: iv3) r hS he fun x hx => List.mem_cons_of_mem _ hx
    replace hz := hz.past (iv' := (wa4.heap.size, wb4.heap.size) :: iv3) r hS he fun x hx => List.mem_cons_of_mem _ hx
    replace h2 := h2.past (iv' := (wa4.heap.size, wb4.heap.size) :: iv3) r (oldF w) he fun x hx => List.mem_cons_of_mem _ hx
    have h3 := hn.got (S := fun _ => False) r.baseLe (iv := (wa4.heap.size, wb4.heap.size) :: iv3) List.mem_cons_self
    clear r he hb hn
    generalize (wa4.heap.size, wb4.heap.size) :: iv3 = iv4 at *
    obtain ⟨s4_0, s4_1, s4_2, s4_3, s4_4, s4_5, s4_6, s4_7, rfl⟩ := h3.shape
    conv => whnf
    refine callE_con (Φ := fun _ w' v w2 => RatC w2 (Nw (fun _ => False) w' w2) v (x * z)) (fun ρ w' r => vMul_c (Rel.old r hS) (hx.rel r hS) (hz.rel r hS)) ?_
    rintro ρ wa5 v5 wb5 r he hb hn
    replace hw := hw.tr hb
    replace hx := hx.past (iv' := (wa5.heap.size, wb5.heap.size) :: iv4) r hS he fun x hx => List.mem_cons_of_mem _ hx
    replace hy := hy.past (iv' := (wa5.heap.size, wb5.heap.size) :: iv4) r hS he fun x hx => List.mem_cons_of_mem _ hx
    replace hz := hz.past (iv' := (wa5.heap.size, wb5.heap.size) :: iv4) r hS he fun x hx => List.mem_cons_of_mem _ hx
    replace h2 := h2.past (iv' := (wa5.heap.size, wb5.heap.size) :: iv4) r (oldF w) he fun x hx => List.mem_cons_of_mem _ hx
    replace h3 := h3.past (iv' := (wa5.heap.size, wb5.heap.size) :: iv4) r (oldF w) he fun x hx => List.mem_cons_of_mem _ hx
    have h4 := hn.got (S := fun _ => False) r.baseLe (iv := (wa5.heap.size, wb5.heap.size) :: iv4) List.mem_cons_self
    clear r he hb hn
    generalize (wa5.heap.size, wb5.heap.size) :: iv4 = iv5 at *
    obtain ⟨s5_0, s5_1, s5_2, s5_3, s5_4, s5_5, s5_6, s5_7, rfl⟩ := h4.shape
    conv => whnf
    refine callE_con (Φ := fun _ w' v w2 => RatC w2 (Nw (fun _ => False) w' w2) v (x * y + x * z)) (fun ρ w' r => vAdd_c (Rel.old r (oldF w)) ((h3.rel r (oldF w)).v (by omega)) ((h4.rel r (oldF w)).v (by omega))) ?_
    rintro ρ wa6 v6 wb6 r he hb hn
    replace hw := hw.tr hb
    replace hx := hx.past (iv' := (wa6.heap.size, wb6.heap.size) :: iv5) r hS he fun x hx => List.mem_cons_of_mem _ hx
    replace hy := hy.past (iv' := (wa6.heap.size, wb6.heap.size) :: iv5) r hS he fun x hx => List.mem_cons_of_mem _ hx
    replace hz := hz.past (iv' := (wa6.heap.size, wb6.heap.size) :: iv5) r hS he fun x hx => List.mem_cons_of_mem _ hx
    replace h2 := h2.past (iv' := (wa6.heap.size, wb6.heap.size) :: iv5) r (oldF w) he fun x hx => List.mem_cons_of_mem _ hx
    clear h3
    clear h4
    have h5 := hn.got (S := fun _ => False) r.baseLe (iv := (wa6.heap.size, wb6.heap.size) :: iv5) List.mem_cons_self
    clear r he hb hn
    generalize (wa6.heap.size, wb6.heap.size) :: iv5 = iv6 at *
    obtain ⟨s6_0, s6_1, s6_2, s6_3, s6_4, s6_5, s6_6, s6_7, rfl⟩ := h5.shape
    conv => whnf
    refine callE_con (Φ := fun _ w' v w2 => v = .bool true) (fun ρ w' r => ?_) ?_
    · have h := same_c (Rel.old r (oldF w)) (h2.rel r (oldF w)) (h5.rel r (oldF w))
      rw [decide_eq_true (rat_distrib x y z)] at h
      exact h
    rintro ρ wa7 v7 wb7 r he hb rfl
    replace hw := hw.tr hb
    replace hx := hx.past (iv' := (wa7.heap.size, wb7.heap.size) :: iv6) r hS he fun x hx => List.mem_cons_of_mem _ hx
    replace hy := hy.past (iv' := (wa7.heap.size, wb7.heap.size) :: iv6) r hS he fun x hx => List.mem_cons_of_mem _ hx
    replace hz := hz.past (iv' := (wa7.heap.size, wb7.heap.size) :: iv6) r hS he fun x hx => List.mem_cons_of_mem _ hx
    clear h2
    clear h5
    clear r he hb
    generalize (wa7.heap.size, wb7.heap.size) :: iv6 = iv7 at *
    conv => whnf
    refine callE_con (Φ := fun _ w' v w2 => RatC w2 (Nw (fun _ => False) w' w2) v (x + y)) (fun ρ w' r => vAdd_c (Rel.old r hS) (hx.rel r hS) (hy.rel r hS)) ?_
    rintro ρ wa8 v8 wb8 r he hb hn
    replace hw := hw.tr hb
    replace hx := hx.past (iv' := (wa8.heap.size, wb8.heap.size) :: iv7) r hS he fun x hx => List.mem_cons_of_mem _ hx
    replace hy := hy.past (iv' := (wa8.heap.size, wb8.heap.size) :: iv7) r hS he fun x hx => List.mem_cons_of_mem _ hx
    replace hz := hz.past (iv' := (wa8.heap.size, wb8.heap.size) :: iv7) r hS he fun x hx => List.mem_cons_of_mem _ hx
    have h6 := hn.got (S := fun _ => False) r.baseLe (iv := (wa8.heap.size, wb8.heap.size) :: iv7) List.mem_cons_self
    clear r he hb hn
    generalize (wa8.heap.size, wb8.heap.size) :: iv7 = iv8 at *
    obtain ⟨s8_0, s8_1, s8_2, s8_3, s8_4, s8_5, s8_6, s8_7, rfl⟩ := h6.shape
    conv => whnf
    refine callE_con (Φ := fun _ w' v w2 => RatC w2 (Nw (fun _ => False) w' w2) v (x + y + z)) (fun ρ w' r => vAdd_c (Rel.old r hS) (((h6.rel r (oldF w)).v (by omega)).weak fun g hg => Cv.false hg) (hz.rel r hS)) ?_
    rintro ρ wa9 v9 wb9 r he hb hn
    replace hw := hw.tr hb
    replace hx := hx.past (iv' := (wa9.heap.size, wb9.heap.size) :: iv8) r hS he fun x hx => List.mem_cons_of_mem _ hx
    replace hy := hy.past (iv' := (wa9.heap.size, wb9.heap.size) :: iv8) r hS he fun x hx => List.mem_cons_of_mem _ hx
    replace hz := hz.past (iv' := (wa9.heap.size, wb9.heap.size) :: iv8) r hS he fun x hx => List.mem_cons_of_mem _ hx
    clear h6
    have h7 := hn.got (S := fun _ => False) r.baseLe (iv := (wa9.heap.size, wb9.heap.size) :: iv8) List.mem_cons_self
    clear r he hb hn
    generalize (wa9.heap.size, wb9.heap.size) :: iv8 = iv9 at *
    obtain ⟨s9_0, s9_1, s9_2, s9_3, s9_4, s9_5, s9_6, s9_7, rfl⟩ := h7.shape
    conv => whnf
    refine callE_con (Φ := fun _ w' v w2 => RatC w2 (Nw (fun _ => False) w' w2) v (y + z)) (fun ρ w' r => vAdd_c (Rel.old r hS) (hy.rel r hS) (hz.rel r hS)) ?_
    rintro ρ wa10 v10 wb10 r he hb hn
    replace hw := hw.tr hb
    replace hx := hx.past (iv' := (wa10.heap.size, wb10.heap.size) :: iv9) r hS he fun x hx => List.mem_cons_of_mem _ hx
    replace hy := hy.past (iv' := (wa10.heap.size, wb10.heap.size) :: iv9) r hS he fun x hx => List.mem_cons_of_mem _ hx
    replace hz := hz.past (iv' := (wa10.heap.size, wb10.heap.size) :: iv9) r hS he fun x hx => List.mem_cons_of_mem _ hx
    replace h7 := h7.past (iv' := (wa10.heap.size, wb10.heap.size) :: iv9) r (oldF w) he fun x hx => List.mem_cons_of_mem _ hx
    have h8 := hn.got (S := fun _ => False) r.baseLe (iv := (wa10.heap.size, wb10.heap.size) :: iv9) List.mem_cons_self
    clear r he hb hn
    generalize (wa10.heap.size, wb10.heap.size) :: iv9 = iv10 at *
    obtain ⟨s10_0, s10_1, s10_2, s10_3, s10_4, s10_5, s10_6, s10_7, rfl⟩ := h8.shape
    conv => whnf
    refine callE_con (Φ := fun _ w' v w2 => RatC w2 (Nw (fun _ => False) w' w2) v (x + (y + z))) (fun ρ w' r => vAdd_c (Rel.old r hS) (hx.rel r hS) (((h8.rel r (oldF w)).v (by omega)).weak fun g hg => Cv.false hg)) ?_
    rintro ρ wa11 v11 wb11 r he hb hn
    replace hw := hw.tr hb
    replace hx := hx.past (iv' := (wa11.heap.size, wb11.heap.size) :: iv10) r hS he fun x hx => List.mem_cons_of_mem _ hx
    replace hy := hy.past (iv' := (wa11.heap.size, wb11.heap.size) :: iv10) r hS he fun x hx => List.mem_cons_of_mem _ hx
    replace hz := hz.past (iv' := (wa11.heap.size, wb11.heap.size) :: iv10) r hS he fun x hx => List.mem_cons_of_mem _ hx
    replace h7 := h7.past (iv' := (wa11.heap.size, wb11.heap.size) :: iv10) r (oldF w) he fun x hx => List.mem_cons_of_mem _ hx
    clear h8
    have h9 := hn.got (S := fun _ => False) r.baseLe (iv := (wa11.heap.size, wb11.heap.size) :: iv10) List.mem_cons_self
    clear r he hb hn
    generalize (wa11.heap.size, wb11.heap.size) :: iv10 = iv11 at *
    obtain ⟨s11_0, s11_1, s11_2, s11_3, s11_4, s11_5, s11_6, s11_7, rfl⟩ := h9.shape
    conv => whnf
    refine callE_con (Φ := fun _ w' v w2 => v = .bool true) (fun ρ w' r => ?_) ?_
    · have h := same_c (Rel.old r (oldF w)) (h7.rel r (oldF w)) (h9.rel r (oldF w))
      rw [decide_eq_true (Rat.add_assoc x y z)] at h
      exact h
    rintro ρ wa12 v12 wb12 r he hb rfl
    replace hw := hw.tr hb
    replace hx := hx.past (iv' := (wa12.heap.size, wb12.heap.size) :: iv11) r hS he fun x hx => List.mem_cons_of_mem _ hx
    replace hy := hy.past (iv' := (wa12.heap.size, wb12.heap.size) :: iv11) r hS he fun x hx => List.mem_cons_of_mem _ hx
    replace hz := hz.past (iv' := (wa12.heap.size, wb12.heap.size) :: iv11) r hS he fun x hx => List.mem_cons_of_mem _ hx
    clear h7
    clear h9
    clear r he hb
    generalize (wa12.heap.size, wb12.heap.size) :: iv11 = iv12 at *
    conv => whnf
    refine callE_con (Φ := fun _ w' v w2 => RatC w2 (Nw (fun _ => False) w' w2) v (x - y)) (fun ρ w' r => vSub_c (Rel.old r hS) (hx.rel r hS) (hy.rel r hS)) ?_
    rintro ρ wa13 v13 wb13 r he hb hn
    replace hw := hw.tr hb
    replace hx := hx.past (iv' := (wa13.heap.size, wb13.heap.size) :: iv12) r hS he fun x hx => List.mem_cons_of_mem _ hx
    replace hy := hy.past (iv' := (wa13.heap.size, wb13.heap.size) :: iv12) r hS he fun x hx => List.mem_cons_of_mem _ hx
    replace hz := hz.past (iv' := (wa13.heap.size, wb13.heap.size) :: iv12) r hS he fun x hx => List.mem_cons_of_mem _ hx
    have h10 := hn.got (S := fun _ => False) r.baseLe (iv := (wa13.heap.size, wb13.heap.size) :: iv12) List.mem_cons_self
    clear r he hb hn
    generalize (wa13.heap.size, wb13.heap.size) :: iv12 = iv13 at *
    obtain ⟨s13_0, s13_1, s13_2, s13_3, s13_4, s13_5, s13_6, s13_7, rfl⟩ := h10.shape
    conv => whnf
    refine callE_con (Φ := fun _ w' v w2 => RatC w2 (Nw (fun _ => False) w' w2) v (x - y + y)) (fun ρ w' r => vAdd_c (Rel.old r hS) (((h10.rel r (oldF w)).v (by omega)).weak fun g hg => Cv.false hg) (hy.rel r hS)) ?_
    rintro ρ wa14 v14 wb14 r he hb hn
    replace hw := hw.tr hb
    replace hx := hx.past (iv' := (wa14.heap.size, wb14.heap.size) :: iv13) r hS he fun x hx => List.mem_cons_of_mem _ hx
    replace hy := hy.past (iv' := (wa14.heap.size, wb14.heap.size) :: iv13) r hS he fun x hx => List.mem_cons_of_mem _ hx
    replace hz := hz.past (iv' := (wa14.heap.size, wb14.heap.size) :: iv13) r hS he fun x hx => List.mem_cons_of_mem _ hx
    clear h10
    have h11 := hn.got (S := fun _ => False) r.baseLe (iv := (wa14.heap.size, wb14.heap.size) :: iv13) List.mem_cons_self
    clear r he hb hn
    generalize (wa14.heap.size, wb14.heap.size) :: iv13 = iv14 at *
    obtain ⟨s14_0, s14_1, s14_2, s14_3, s14_4, s14_5, s14_6, s14_7, rfl⟩ := h11.shape
    conv => whnf
    refine callE_con (Φ := fun _ w' v w2 => RatC w2 (Nw (fun _ => False) w' w2) v (x)) (fun ρ w' r => vNormal_c (Rel.old r hS) (hx.rel r hS)) ?_
    rintro ρ wa15 v15 wb15 r he hb hn
    replace hw := hw.tr hb
    replace hx := hx.past (iv' := (wa15.heap.size, wb15.heap.size) :: iv14) r hS he fun x hx => List.mem_cons_of_mem _ hx
    replace hy := hy.past (iv' := (wa15.heap.size, wb15.heap.size) :: iv14) r hS he fun x hx => List.mem_cons_of_mem _ hx
    replace hz := hz.past (iv' := (wa15.heap.size, wb15.heap.size) :: iv14) r hS he fun x hx => List.mem_cons_of_mem _ hx
    replace h11 := h11.past (iv' := (wa15.heap.size, wb15.heap.size) :: iv14) r (oldF w) he fun x hx => List.mem_cons_of_mem _ hx
    have h12 := hn.got (S := fun _ => False) r.baseLe (iv := (wa15.heap.size, wb15.heap.size) :: iv14) List.mem_cons_self
    clear r he hb hn
    generalize (wa15.heap.size, wb15.heap.size) :: iv14 = iv15 at *
    obtain ⟨s15_0, s15_1, s15_2, s15_3, s15_4, s15_5, s15_6, s15_7, rfl⟩ := h12.shape
    conv => whnf
    refine callE_con (Φ := fun _ w' v w2 => v = .bool true) (fun ρ w' r => ?_) ?_
    · have h := same_c (Rel.old r (oldF w)) (h11.rel r (oldF w)) (h12.rel r (oldF w))
      rw [decide_eq_true (rat_back x y)] at h
      exact h
    rintro ρ wa16 v16 wb16 r he hb rfl
    replace hw := hw.tr hb
    replace hx := hx.past (iv' := (wa16.heap.size, wb16.heap.size) :: iv15) r hS he fun x hx => List.mem_cons_of_mem _ hx
    replace hy := hy.past (iv' := (wa16.heap.size, wb16.heap.size) :: iv15) r hS he fun x hx => List.mem_cons_of_mem _ hx
    replace hz := hz.past (iv' := (wa16.heap.size, wb16.heap.size) :: iv15) r hS he fun x hx => List.mem_cons_of_mem _ hx
    clear h11
    clear h12
    clear r he hb
    generalize (wa16.heap.size, wb16.heap.size) :: iv15 = iv16 at *
    conv => whnf
    clear f1 f2 f4 f5 f6 f7 f8 f10
    have w0 : rl 0 = 1 := by decide
    have w1 : rl 1 = 1 := by decide
    clear hz
    refine callE_S (callE_con (Φ := fun _ w' v w2 => RatC w2 (Nw (fun _ => False) w' w2) v 0) (fun ρ w' r => pubWhole_c 0 w' (by decide) (by decide)) ?_)
    rintro ρ wa17 v17 wb17 r he hb hn
    replace hw := hw.tr hb
    replace hx := hx.past (iv' := (wa17.heap.size, wb17.heap.size) :: iv16) r hS he fun x hx => List.mem_cons_of_mem _ hx
    replace hy := hy.past (iv' := (wa17.heap.size, wb17.heap.size) :: iv16) r hS he fun x hx => List.mem_cons_of_mem _ hx
    have h0 := hn.got (S := fun _ => False) r.baseLe (iv := (wa17.heap.size, wb17.heap.size) :: iv16) List.mem_cons_self
    clear r he hb hn
    generalize (wa17.heap.size, wb17.heap.size) :: iv16 = iv17 at *
    obtain ⟨s17_0, s17_1, s17_2, s17_3, s17_4, s17_5, s17_6, s17_7, rfl⟩ := h0.shape
    conv => whnf
    refine callE_S (callE_con (Φ := fun _ w' v w2 => RatC w2 (Nw (fun _ => False) w' w2) v 1) (fun ρ w' r => pubWhole_c 1 w' (by decide) (by decide)) ?_)
    rintro ρ wa18 v18 wb18 r he hb hn
    replace hw := hw.tr hb
    replace hx := hx.past (iv' := (wa18.heap.size, wb18.heap.size) :: iv17) r hS he fun x hx => List.mem_cons_of_mem _ hx
    replace hy := hy.past (iv' := (wa18.heap.size, wb18.heap.size) :: iv17) r hS he fun x hx => List.mem_cons_of_mem _ hx
    replace h0 := h0.past (iv' := (wa18.heap.size, wb18.heap.size) :: iv17) r (oldF w) he fun x hx => List.mem_cons_of_mem _ hx
    have h1 := hn.got (S := fun _ => False) r.baseLe (iv := (wa18.heap.size, wb18.heap.size) :: iv17) List.mem_cons_self
    clear r he hb hn
    generalize (wa18.heap.size, wb18.heap.size) :: iv17 = iv18 at *
    obtain ⟨s18_0, s18_1, s18_2, s18_3, s18_4, s18_5, s18_6, s18_7, rfl⟩ := h1.shape
    conv => whnf
    by_cases hy0 : y = 0
    · refine callE_S (callE_con (Φ := fun _ w' v w2 => v = .tuple #[ratNil, .int .i64 9]) (fun ρ w' r => quoZero_c (Rel.old r hS) (hx.rel r hS) (hy.rel r hS) hy0) ?_)
      rintro ρ wa19 v19 wb19 r he hb rfl
      replace hw := hw.tr hb
      replace hx := hx.past (iv' := (wa19.heap.size, wb19.heap.size) :: iv18) r hS he fun x hx => List.mem_cons_of_mem _ hx
      replace hy := hy.past (iv' := (wa19.heap.size, wb19.heap.size) :: iv18) r hS he fun x hx => List.mem_cons_of_mem _ hx
      replace h0 := h0.past (iv' := (wa19.heap.size, wb19.heap.size) :: iv18) r (oldF w) he fun x hx => List.mem_cons_of_mem _ hx
      replace h1 := h1.past (iv' := (wa19.heap.size, wb19.heap.size) :: iv18) r (oldF w) he fun x hx => List.mem_cons_of_mem _ hx
      clear r he hb
      generalize (wa19.heap.size, wb19.heap.size) :: iv18 = iv19 at *
      conv => whnf
      refine callE_S (callE_con (Φ := fun _ w' v w2 => v = .int .i64 0) (fun ρ w' r => ?_) ?_)
      · have h := vCmp_c (Rel.old r hS) (hy.rel r hS) (((h0.rel r (oldF w)).v (by omega)).weak fun g hg => Cv.false hg)
        rw [show rs (y - 0) = 0 from by rw [hy0]; exact rs_self 0] at h
        exact h
      rintro ρ wa20 v20 wb20 r he hb rfl
      replace hw := hw.tr hb
      replace hx := hx.past (iv' := (wa20.heap.size, wb20.heap.size) :: iv19) r hS he fun x hx => List.mem_cons_of_mem _ hx
      replace hy := hy.past (iv' := (wa20.heap.size, wb20.heap.size) :: iv19) r hS he fun x hx => List.mem_cons_of_mem _ hx
      replace h0 := h0.past (iv' := (wa20.heap.size, wb20.heap.size) :: iv19) r (oldF w) he fun x hx => List.mem_cons_of_mem _ hx
      replace h1 := h1.past (iv' := (wa20.heap.size, wb20.heap.size) :: iv19) r (oldF w) he fun x hx => List.mem_cons_of_mem _ hx
      clear r he hb
      generalize (wa20.heap.size, wb20.heap.size) :: iv19 = iv20 at *
      conv => whnf
      refine callE_S (callE_con (Φ := fun _ w' v w2 => v = .bool true) (fun ρ w' r => awake_c w') ?_)
      rintro ρ wa21 v21 wb21 r he hb rfl
      replace hw := hw.tr hb
      replace hx := hx.past (iv' := (wa21.heap.size, wb21.heap.size) :: iv20) r hS he fun x hx => List.mem_cons_of_mem _ hx
      replace hy := hy.past (iv' := (wa21.heap.size, wb21.heap.size) :: iv20) r hS he fun x hx => List.mem_cons_of_mem _ hx
      replace h0 := h0.past (iv' := (wa21.heap.size, wb21.heap.size) :: iv20) r (oldF w) he fun x hx => List.mem_cons_of_mem _ hx
      replace h1 := h1.past (iv' := (wa21.heap.size, wb21.heap.size) :: iv20) r (oldF w) he fun x hx => List.mem_cons_of_mem _ hx
      clear r he hb
      generalize (wa21.heap.size, wb21.heap.size) :: iv20 = iv21 at *
      conv => whnf
      intro ρe we re
      exact ⟨_, rfl, hw.tr re.bel, rfl⟩
    · have c1 := rl_div x hy0
      have c2 := rl_mul (x / y) y
      have c3 : rs y ≠ 0 := fun e => hy0 (rs_zero.1 e)
      have c4 := rs_mul_range x y
      have c5 := ln_ediv x.num x.den
      have c6 := rl_num x
      refine callE_S (callE_con (Φ := fun _ w' v w2 => ∃ q, v = .tuple #[q, .int .i64 0] ∧ RatC w2 (Nw (fun _ => False) w' w2) q (x / y)) (fun ρ w' r => quoNon_c (Rel.old r hS) (hx.rel r hS) (hy.rel r hS) hy0) ?_)
      rintro ρ wa19 v19 wb19 r he hb ⟨q, rfl, k1⟩
      replace hw := hw.tr hb
      replace hx := hx.past (iv' := (wa19.heap.size, wb19.heap.size) :: iv18) r hS he fun x hx => List.mem_cons_of_mem _ hx
      replace hy := hy.past (iv' := (wa19.heap.size, wb19.heap.size) :: iv18) r hS he fun x hx => List.mem_cons_of_mem _ hx
      replace h0 := h0.past (iv' := (wa19.heap.size, wb19.heap.size) :: iv18) r (oldF w) he fun x hx => List.mem_cons_of_mem _ hx
      replace h1 := h1.past (iv' := (wa19.heap.size, wb19.heap.size) :: iv18) r (oldF w) he fun x hx => List.mem_cons_of_mem _ hx
      have hq := k1.got (S := fun _ => False) r.baseLe (iv := (wa19.heap.size, wb19.heap.size) :: iv18) List.mem_cons_self
      clear r he hb
      generalize (wa19.heap.size, wb19.heap.size) :: iv18 = iv19 at *
      obtain ⟨s19_0a, s19_0b, s19_0c, s19_0d, s19_0e, s19_0f, s19_0g, s19_0h, rfl⟩ := hq.shape
      conv => whnf
      clear k1
      refine callE_S (callE_con (Φ := fun _ w' v w2 => v = .int .i64 (rs y)) (fun ρ w' r => ?_) ?_)
      · have h := vCmp_c (Rel.old r hS) (hy.rel r hS) (((h0.rel r (oldF w)).v (by omega)).weak fun g hg => Cv.false hg)
        rw [show rs (y - 0) = (rs y) from rs_sub0 y] at h
        exact h
      rintro ρ wa20 v20 wb20 r he hb rfl
      replace hw := hw.tr hb
      replace hx := hx.past (iv' := (wa20.heap.size, wb20.heap.size) :: iv19) r hS he fun x hx => List.mem_cons_of_mem _ hx
      replace hy := hy.past (iv' := (wa20.heap.size, wb20.heap.size) :: iv19) r hS he fun x hx => List.mem_cons_of_mem _ hx
      replace h0 := h0.past (iv' := (wa20.heap.size, wb20.heap.size) :: iv19) r (oldF w) he fun x hx => List.mem_cons_of_mem _ hx
      replace h1 := h1.past (iv' := (wa20.heap.size, wb20.heap.size) :: iv19) r (oldF w) he fun x hx => List.mem_cons_of_mem _ hx
      replace hq := hq.past (iv' := (wa20.heap.size, wb20.heap.size) :: iv19) r (oldF w) he fun x hx => List.mem_cons_of_mem _ hx
      clear r he hb
      generalize (wa20.heap.size, wb20.heap.size) :: iv19 = iv20 at *
      conv => whnf
      refine BrS.mk (fun hne => by simp [c3] at hne) (fun _ => ?_)
      conv => whnf
      refine callE_S (callE_con (Φ := fun _ w' v w2 => IntC w2 (Nw (fun _ => False) w' w2) v (x.num / x.den)) (fun ρ w' r => vFloor_c (Rel.old r hS) (hx.rel r hS)) ?_)
      rintro ρ wa21 v21 wb21 r he hb hn
      replace hw := hw.tr hb
      replace hx := hx.past (iv' := (wa21.heap.size, wb21.heap.size) :: iv20) r hS he fun x hx => List.mem_cons_of_mem _ hx
      replace hy := hy.past (iv' := (wa21.heap.size, wb21.heap.size) :: iv20) r hS he fun x hx => List.mem_cons_of_mem _ hx
      replace h0 := h0.past (iv' := (wa21.heap.size, wb21.heap.size) :: iv20) r (oldF w) he fun x hx => List.mem_cons_of_mem _ hx
      replace h1 := h1.past (iv' := (wa21.heap.size, wb21.heap.size) :: iv20) r (oldF w) he fun x hx => List.mem_cons_of_mem _ hx
      replace hq := hq.past (iv' := (wa21.heap.size, wb21.heap.size) :: iv20) r (oldF w) he fun x hx => List.mem_cons_of_mem _ hx
      have hF := hn.got (S := fun _ => False) r.baseLe (iv := (wa21.heap.size, wb21.heap.size) :: iv20) List.mem_cons_self
      clear r he hb hn
      generalize (wa21.heap.size, wb21.heap.size) :: iv20 = iv21 at *
      obtain ⟨s21_0, s21_1, s21_2, s21_3, rfl⟩ := hF.shape
      conv => whnf
      refine drawn_of_pi hτ hmix [.x 0, .x 1, .x 2, .x 3, .x 4, .x 6, .x 5, .x 7, .x 8, .x 9, .x 10, .x 11, .x 12, .x 13, .x 15, .x 17, .x 18, .x 20, .x 21, .x 14, .x 16, .x 19, .x 22, .x 23, .x 24, .x 25, .x 26, .x 27, .x 28, .x 30, .x 32, .x 33, .x 29, .x 31, .x 34, .x 35, .x 36] (by kernel_rfl) (by kernel_rfl) ?_
      conv => whnf
      have hlow := hF.frac (show ln (x.num / x.den).natAbs ≤ 100000 by omega)
      clear hF
      refine callE_con (Φ := fun _ w' v w2 => RatC w2 (Nw (fun _ => False) w' w2) v (x / y * y)) (fun ρ w' r => vMul_c (Rel.old r hS) (((hq.rel r (oldF w)).v (by omega)).weak fun g hg => Cv.false hg) (hy.rel r hS)) ?_
      rintro ρ wa22 v22 wb22 r he hb hn
      replace hw := hw.tr hb
      replace hx := hx.past (iv' := (wa22.heap.size, wb22.heap.size) :: iv21) r hS he fun x hx => List.mem_cons_of_mem _ hx
      replace hy := hy.past (iv' := (wa22.heap.size, wb22.heap.size) :: iv21) r hS he fun x hx => List.mem_cons_of_mem _ hx
      replace h0 := h0.past (iv' := (wa22.heap.size, wb22.heap.size) :: iv21) r (oldF w) he fun x hx => List.mem_cons_of_mem _ hx
      replace h1 := h1.past (iv' := (wa22.heap.size, wb22.heap.size) :: iv21) r (oldF w) he fun x hx => List.mem_cons_of_mem _ hx
      clear hq
      replace hlow := hlow.past (iv' := (wa22.heap.size, wb22.heap.size) :: iv21) r (oldF w) he fun x hx => List.mem_cons_of_mem _ hx
      have h2 := hn.got (S := fun _ => False) r.baseLe (iv := (wa22.heap.size, wb22.heap.size) :: iv21) List.mem_cons_self
      clear r he hb hn
      generalize (wa22.heap.size, wb22.heap.size) :: iv21 = iv22 at *
      obtain ⟨s22_0, s22_1, s22_2, s22_3, s22_4, s22_5, s22_6, s22_7, rfl⟩ := h2.shape
      conv => whnf
      refine callE_con (Φ := fun _ w' v w2 => RatC w2 (Nw (fun _ => False) w' w2) v (x)) (fun ρ w' r => vNormal_c (Rel.old r hS) (hx.rel r hS)) ?_
      rintro ρ wa23 v23 wb23 r he hb hn
      replace hw := hw.tr hb
      replace hx := hx.past (iv' := (wa23.heap.size, wb23.heap.size) :: iv22) r hS he fun x hx => List.mem_cons_of_mem _ hx
      replace hy := hy.past (iv' := (wa23.heap.size, wb23.heap.size) :: iv22) r hS he fun x hx => List.mem_cons_of_mem _ hx
      replace h0 := h0.past (iv' := (wa23.heap.size, wb23.heap.size) :: iv22) r (oldF w) he fun x hx => List.mem_cons_of_mem _ hx
      replace h1 := h1.past (iv' := (wa23.heap.size, wb23.heap.size) :: iv22) r (oldF w) he fun x hx => List.mem_cons_of_mem _ hx
      replace hlow := hlow.past (iv' := (wa23.heap.size, wb23.heap.size) :: iv22) r (oldF w) he fun x hx => List.mem_cons_of_mem _ hx
      replace h2 := h2.past (iv' := (wa23.heap.size, wb23.heap.size) :: iv22) r (oldF w) he fun x hx => List.mem_cons_of_mem _ hx
      have h3 := hn.got (S := fun _ => False) r.baseLe (iv := (wa23.heap.size, wb23.heap.size) :: iv22) List.mem_cons_self
      clear r he hb hn
      generalize (wa23.heap.size, wb23.heap.size) :: iv22 = iv23 at *
      obtain ⟨s23_0, s23_1, s23_2, s23_3, s23_4, s23_5, s23_6, s23_7, rfl⟩ := h3.shape
      conv => whnf
      refine callE_con (Φ := fun _ w' v w2 => v = .bool true) (fun ρ w' r => ?_) ?_
      · have h := same_c (Rel.old r (oldF w)) (h2.rel r (oldF w)) (h3.rel r (oldF w))
        rw [decide_eq_true (rat_quo x hy0)] at h
        exact h
      rintro ρ wa24 v24 wb24 r he hb rfl
      replace hw := hw.tr hb
      replace hx := hx.past (iv' := (wa24.heap.size, wb24.heap.size) :: iv23) r hS he fun x hx => List.mem_cons_of_mem _ hx
      replace hy := hy.past (iv' := (wa24.heap.size, wb24.heap.size) :: iv23) r hS he fun x hx => List.mem_cons_of_mem _ hx
      replace h0 := h0.past (iv' := (wa24.heap.size, wb24.heap.size) :: iv23) r (oldF w) he fun x hx => List.mem_cons_of_mem _ hx
      replace h1 := h1.past (iv' := (wa24.heap.size, wb24.heap.size) :: iv23) r (oldF w) he fun x hx => List.mem_cons_of_mem _ hx
      replace hlow := hlow.past (iv' := (wa24.heap.size, wb24.heap.size) :: iv23) r (oldF w) he fun x hx => List.mem_cons_of_mem _ hx
      clear h2
      clear h3
      clear r he hb
      generalize (wa24.heap.size, wb24.heap.size) :: iv23 = iv24 at *
      conv => whnf
      refine callE_con (Φ := fun _ w' v w2 => RatC w2 (Nw (fun _ => False) w' w2) v (x * y)) (fun ρ w' r => vMul_c (Rel.old r hS) (hx.rel r hS) (hy.rel r hS)) ?_
      rintro ρ wa25 v25 wb25 r he hb hn
      replace hw := hw.tr hb
      replace hx := hx.past (iv' := (wa25.heap.size, wb25.heap.size) :: iv24) r hS he fun x hx => List.mem_cons_of_mem _ hx
      replace hy := hy.past (iv' := (wa25.heap.size, wb25.heap.size) :: iv24) r hS he fun x hx => List.mem_cons_of_mem _ hx
      replace h0 := h0.past (iv' := (wa25.heap.size, wb25.heap.size) :: iv24) r (oldF w) he fun x hx => List.mem_cons_of_mem _ hx
      replace h1 := h1.past (iv' := (wa25.heap.size, wb25.heap.size) :: iv24) r (oldF w) he fun x hx => List.mem_cons_of_mem _ hx
      replace hlow := hlow.past (iv' := (wa25.heap.size, wb25.heap.size) :: iv24) r (oldF w) he fun x hx => List.mem_cons_of_mem _ hx
      have h4 := hn.got (S := fun _ => False) r.baseLe (iv := (wa25.heap.size, wb25.heap.size) :: iv24) List.mem_cons_self
      clear r he hb hn
      generalize (wa25.heap.size, wb25.heap.size) :: iv24 = iv25 at *
      obtain ⟨s25_0, s25_1, s25_2, s25_3, s25_4, s25_5, s25_6, s25_7, rfl⟩ := h4.shape
      conv => whnf
      refine callE_con (Φ := fun _ w' v w2 => v = .int .i64 (rs x * rs y)) (fun ρ w' r => ?_) ?_
      · have h := vCmp_c (Rel.old r (oldF w)) ((h4.rel r (oldF w)).v (by omega)) ((h0.rel r (oldF w)).v (by omega))
        rw [show rs (x * y - 0) = (rs x * rs y) from by rw [rs_sub0, rs_mul]] at h
        exact h
      rintro ρ wa26 v26 wb26 r he hb rfl
      replace hw := hw.tr hb
      replace hx := hx.past (iv' := (wa26.heap.size, wb26.heap.size) :: iv25) r hS he fun x hx => List.mem_cons_of_mem _ hx
      replace hy := hy.past (iv' := (wa26.heap.size, wb26.heap.size) :: iv25) r hS he fun x hx => List.mem_cons_of_mem _ hx
      replace h0 := h0.past (iv' := (wa26.heap.size, wb26.heap.size) :: iv25) r (oldF w) he fun x hx => List.mem_cons_of_mem _ hx
      replace h1 := h1.past (iv' := (wa26.heap.size, wb26.heap.size) :: iv25) r (oldF w) he fun x hx => List.mem_cons_of_mem _ hx
      replace hlow := hlow.past (iv' := (wa26.heap.size, wb26.heap.size) :: iv25) r (oldF w) he fun x hx => List.mem_cons_of_mem _ hx
      clear h4
      clear r he hb
      generalize (wa26.heap.size, wb26.heap.size) :: iv25 = iv26 at *
      conv => whnf
      refine callE_con (Φ := fun _ w' v w2 => v = .int .i64 (rs x)) (fun ρ w' r => ?_) ?_
      · have h := vCmp_c (Rel.old r hS) (hx.rel r hS) (((h0.rel r (oldF w)).v (by omega)).weak fun g hg => Cv.false hg)
        rw [show rs (x - 0) = (rs x) from rs_sub0 x] at h
        exact h
      rintro ρ wa27 v27 wb27 r he hb rfl
      replace hw := hw.tr hb
      replace hx := hx.past (iv' := (wa27.heap.size, wb27.heap.size) :: iv26) r hS he fun x hx => List.mem_cons_of_mem _ hx
      replace hy := hy.past (iv' := (wa27.heap.size, wb27.heap.size) :: iv26) r hS he fun x hx => List.mem_cons_of_mem _ hx
      replace h0 := h0.past (iv' := (wa27.heap.size, wb27.heap.size) :: iv26) r (oldF w) he fun x hx => List.mem_cons_of_mem _ hx
      replace h1 := h1.past (iv' := (wa27.heap.size, wb27.heap.size) :: iv26) r (oldF w) he fun x hx => List.mem_cons_of_mem _ hx
      replace hlow := hlow.past (iv' := (wa27.heap.size, wb27.heap.size) :: iv26) r (oldF w) he fun x hx => List.mem_cons_of_mem _ hx
      clear r he hb
      generalize (wa27.heap.size, wb27.heap.size) :: iv26 = iv27 at *
      conv => whnf
      refine callE_con (Φ := fun _ w' v w2 => v = .int .i64 (rs y)) (fun ρ w' r => ?_) ?_
      · have h := vCmp_c (Rel.old r hS) (hy.rel r hS) (((h0.rel r (oldF w)).v (by omega)).weak fun g hg => Cv.false hg)
        rw [show rs (y - 0) = (rs y) from rs_sub0 y] at h
        exact h
      rintro ρ wa28 v28 wb28 r he hb rfl
      replace hw := hw.tr hb
      replace hx := hx.past (iv' := (wa28.heap.size, wb28.heap.size) :: iv27) r hS he fun x hx => List.mem_cons_of_mem _ hx
      replace hy := hy.past (iv' := (wa28.heap.size, wb28.heap.size) :: iv27) r hS he fun x hx => List.mem_cons_of_mem _ hx
      replace h0 := h0.past (iv' := (wa28.heap.size, wb28.heap.size) :: iv27) r (oldF w) he fun x hx => List.mem_cons_of_mem _ hx
      replace h1 := h1.past (iv' := (wa28.heap.size, wb28.heap.size) :: iv27) r (oldF w) he fun x hx => List.mem_cons_of_mem _ hx
      replace hlow := hlow.past (iv' := (wa28.heap.size, wb28.heap.size) :: iv27) r (oldF w) he fun x hx => List.mem_cons_of_mem _ hx
      clear r he hb
      generalize (wa28.heap.size, wb28.heap.size) :: iv27 = iv28 at *
      conv => whnf
      refine ⟨rs x * rs y, by rw [wrap64] <;> omega, ?_⟩
      conv => whnf
      refine BrS.mk (fun hne => by simp at hne) (fun _ => ?_)
      conv => whnf
      refine callE_con (Φ := fun _ w' v w2 => RatC w2 (Nw (fun _ => False) w' w2) v (x - y)) (fun ρ w' r => vSub_c (Rel.old r hS) (hx.rel r hS) (hy.rel r hS)) ?_
      rintro ρ wa29 v29 wb29 r he hb hn
      replace hw := hw.tr hb
      replace hx := hx.past (iv' := (wa29.heap.size, wb29.heap.size) :: iv28) r hS he fun x hx => List.mem_cons_of_mem _ hx
      replace hy := hy.past (iv' := (wa29.heap.size, wb29.heap.size) :: iv28) r hS he fun x hx => List.mem_cons_of_mem _ hx
      replace h0 := h0.past (iv' := (wa29.heap.size, wb29.heap.size) :: iv28) r (oldF w) he fun x hx => List.mem_cons_of_mem _ hx
      replace h1 := h1.past (iv' := (wa29.heap.size, wb29.heap.size) :: iv28) r (oldF w) he fun x hx => List.mem_cons_of_mem _ hx
      replace hlow := hlow.past (iv' := (wa29.heap.size, wb29.heap.size) :: iv28) r (oldF w) he fun x hx => List.mem_cons_of_mem _ hx
      have h5 := hn.got (S := fun _ => False) r.baseLe (iv := (wa29.heap.size, wb29.heap.size) :: iv28) List.mem_cons_self
      clear r he hb hn
      generalize (wa29.heap.size, wb29.heap.size) :: iv28 = iv29 at *
      obtain ⟨s29_0, s29_1, s29_2, s29_3, s29_4, s29_5, s29_6, s29_7, rfl⟩ := h5.shape
      conv => whnf
      refine callE_con (Φ := fun _ w' v w2 => v = .int .i64 (rs (x - y))) (fun ρ w' r => ?_) ?_
      · have h := vCmp_c (Rel.old r (oldF w)) ((h5.rel r (oldF w)).v (by omega)) ((h0.rel r (oldF w)).v (by omega))
        rw [show rs (x - y - 0) = (rs (x - y)) from rs_sub0 (x - y)] at h
        exact h
      rintro ρ wa30 v30 wb30 r he hb rfl
      replace hw := hw.tr hb
      replace hx := hx.past (iv' := (wa30.heap.size, wb30.heap.size) :: iv29) r hS he fun x hx => List.mem_cons_of_mem _ hx
      replace hy := hy.past (iv' := (wa30.heap.size, wb30.heap.size) :: iv29) r hS he fun x hx => List.mem_cons_of_mem _ hx
      clear h0
      replace h1 := h1.past (iv' := (wa30.heap.size, wb30.heap.size) :: iv29) r (oldF w) he fun x hx => List.mem_cons_of_mem _ hx
      replace hlow := hlow.past (iv' := (wa30.heap.size, wb30.heap.size) :: iv29) r (oldF w) he fun x hx => List.mem_cons_of_mem _ hx
      clear h5
      clear r he hb
      generalize (wa30.heap.size, wb30.heap.size) :: iv29 = iv30 at *
      conv => whnf
      refine callE_con (Φ := fun _ w' v w2 => v = .int .i64 (rs (x - y))) (fun ρ w' r => ?_) ?_
      · have h := vCmp_c (Rel.old r hS) (hx.rel r hS) (hy.rel r hS)
        rw [show rs (x - y) = (rs (x - y)) from rfl] at h
        exact h
      rintro ρ wa31 v31 wb31 r he hb rfl
      replace hw := hw.tr hb
      replace hx := hx.past (iv' := (wa31.heap.size, wb31.heap.size) :: iv30) r hS he fun x hx => List.mem_cons_of_mem _ hx
      clear hy
      replace h1 := h1.past (iv' := (wa31.heap.size, wb31.heap.size) :: iv30) r (oldF w) he fun x hx => List.mem_cons_of_mem _ hx
      replace hlow := hlow.past (iv' := (wa31.heap.size, wb31.heap.size) :: iv30) r (oldF w) he fun x hx => List.mem_cons_of_mem _ hx
      clear r he hb
      generalize (wa31.heap.size, wb31.heap.size) :: iv30 = iv31 at *
      conv => whnf
      refine BrS.mk (fun hne => by simp at hne) (fun _ => ?_)
      conv => whnf
      refine drawn_of_pi hτ hmix [.x 0, .x 1, .x 2, .x 3, .x 4, .x 5, .x 6, .x 7, .x 8, .x 9, .x 10, .x 11, .x 12, .x 13, .x 14, .x 15] (by kernel_rfl) (by kernel_rfl) ?_
      conv => whnf
      have d1 := floor_low x
      have d2 := floor_high x
      have d3 := rl_whole0 (x.num / x.den)
      have d4 := rl_add ((x.num / x.den : Int) : Rat) 1
      generalize ((x.num / x.den : Int) : Rat) = fl at *
      refine callE_con (Φ := fun _ w' v w2 => v = .int .i64 (rs (fl - x))) (fun ρ w' r => ?_) ?_
      · have h := vCmp_c (Rel.old r hS) ((hlow.rel r (oldF w)).weak fun g hg => Cv.false hg) (hx.rel r hS)
        rw [show rs (fl - x) = (rs (fl - x)) from rfl] at h
        exact h
      rintro ρ wa32 v32 wb32 r he hb rfl
      replace hw := hw.tr hb
      replace hx := hx.past (iv' := (wa32.heap.size, wb32.heap.size) :: iv31) r hS he fun x hx => List.mem_cons_of_mem _ hx
      replace h1 := h1.past (iv' := (wa32.heap.size, wb32.heap.size) :: iv31) r (oldF w) he fun x hx => List.mem_cons_of_mem _ hx
      replace hlow := hlow.past (iv' := (wa32.heap.size, wb32.heap.size) :: iv31) r (oldF w) he fun x hx => List.mem_cons_of_mem _ hx
      clear r he hb
      generalize (wa32.heap.size, wb32.heap.size) :: iv31 = iv32 at *
      conv => whnf
      refine BrS.mk (fun _ => ?_) (fun hne => absurd d1 (of_decide_eq_false hne))
      conv => whnf
      refine callE_con (Φ := fun _ w' v w2 => RatC w2 (Nw (fun _ => False) w' w2) v (fl + 1)) (fun ρ w' r => vAdd_c (Rel.old r (oldF w)) (hlow.rel r (oldF w)) ((h1.rel r (oldF w)).v (by omega))) ?_
      rintro ρ wa33 v33 wb33 r he hb hn
      replace hw := hw.tr hb
      replace hx := hx.past (iv' := (wa33.heap.size, wb33.heap.size) :: iv32) r hS he fun x hx => List.mem_cons_of_mem _ hx
      clear h1
      clear hlow
      have h6 := hn.got (S := fun _ => False) r.baseLe (iv := (wa33.heap.size, wb33.heap.size) :: iv32) List.mem_cons_self
      clear r he hb hn
      generalize (wa33.heap.size, wb33.heap.size) :: iv32 = iv33 at *
      obtain ⟨s33_0, s33_1, s33_2, s33_3, s33_4, s33_5, s33_6, s33_7, rfl⟩ := h6.shape
      conv => whnf
      refine callE_con (Φ := fun _ w' v w2 => v = .int .i64 (-1)) (fun ρ w' r => ?_) ?_
      · have h := vCmp_c (Rel.old r hS) (hx.rel r hS) (((h6.rel r (oldF w)).v (by omega)).weak fun g hg => Cv.false hg)
        rw [show rs (x - (fl + 1)) = (-1) from d2] at h
        exact h
      rintro ρ wa34 v34 wb34 r he hb rfl
      replace hw := hw.tr hb
      clear hx
      clear h6
      clear r he hb
      generalize (wa34.heap.size, wb34.heap.size) :: iv33 = iv34 at *
      conv => whnf
      refine callE_con (Φ := fun _ w' v w2 => v = .bool true) (fun ρ w' r => awake_c w') ?_
      rintro ρ wa35 v35 wb35 r he hb rfl
      replace hw := hw.tr hb
      clear r he hb
      generalize (wa35.heap.size, wb35.heap.size) :: iv34 = iv35 at *
      conv => whnf
      intro ρe we re
      exact ⟨_, rfl, hw.tr re.bel, rfl⟩
end Go.Ex
