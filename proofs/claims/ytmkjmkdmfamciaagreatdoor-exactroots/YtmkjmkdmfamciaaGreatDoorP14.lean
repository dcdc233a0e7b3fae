/- A part of the proof: texts X73 to X73. Each tells its conditions in its theorems. -/
import Derived.Test.YtmkjmkdmfamciaaGreatDoorP11
import Derived.Test.YtmkjmkdmfamciaaGreatDoorP13
/- ExactRoots of the laws of chapter 1. Printed by program. No condition. -/
namespace Go.Ex
open Go Go.Sx Go.Proofs

theorem rs_sub0' (q : Rat) : rs (q - 0) = rs q := by rw [Rat.sub_eq_add_neg, Rat.neg_zero, Rat.add_zero]
theorem pubCmpRootsBad_c {S : Nat → Prop} {w : World} {v u : Value} {p q : Rat} {m n : Int} (hS : Old S w) (hp : RatV w S v p) (hq : RatV w S u q) (hm1 : -9223372036854775808 ≤ m) (hm2 : m ≤ 9223372036854775807) (hn1 : -9223372036854775808 ≤ n) (hn2 : n ≤ 9223372036854775807) (h : m < 0 ∨ n < 0) : Con PG N.exact_CmpRoots #[v, .int .i64 m, u, .int .i64 n] w (Ret w fun v' _ => v' = .tuple #[.int .i64 0, .int .i64 2]) :=
  (pubCmpRoots_c hS hp hq hm1 hm2 hn1 hn2).mono fun _ _ ⟨v2, e1, e2, e3⟩ => ⟨v2, e1, e2, e3.elim (fun k => k.2) fun k => absurd h k.1⟩
theorem pubCmpRootsOk_c {S : Nat → Prop} {w : World} {v u : Value} {p q : Rat} {m n : Int} (hS : Old S w) (hp : RatV w S v p) (hq : RatV w S u q) (hm1 : -9223372036854775808 ≤ m) (hm2 : m ≤ 9223372036854775807) (hn1 : -9223372036854775808 ≤ n) (hn2 : n ≤ 9223372036854775807) (h : ¬ (m < 0 ∨ n < 0)) : Con PG N.exact_CmpRoots #[v, .int .i64 m, u, .int .i64 n] w (Ret w fun v' _ => v' = .tuple #[.int .i64 (rs (sqs p m - sqs q n)), .int .i64 0]) :=
  (pubCmpRoots_c hS hp hq hm1 hm2 hn1 hn2).mono fun _ _ ⟨v2, e1, e2, e3⟩ => ⟨v2, e1, e2, e3.elim (fun k => absurd k.1 h) fun k => k.2⟩
theorem rCmpRootsBad_c {S : Nat → Prop} {w : World} {v u : Value} {p q : Rat} {m n : Int} (hS : Old S w) (hp : RatL w S v p) (hq : RatL w S u q) (hlp : rl p ≤ 1000) (hlq : rl q ≤ 1000) (hm1 : -9223372036854775808 ≤ m) (hm2 : m ≤ 9223372036854775807) (hn1 : -9223372036854775808 ≤ n) (hn2 : n ≤ 9223372036854775807) (h : m < 0 ∨ n < 0) : Con PG N.ref01_CmpRoots #[v, .int .i64 m, u, .int .i64 n] w (Ret w fun v' _ => v' = .tuple #[.int .i64 0, .int .i64 2]) :=
  (rCmpRoots_c hS hp hq hlp hlq hm1 hm2 hn1 hn2).mono fun _ _ ⟨v2, e1, e2, e3⟩ => ⟨v2, e1, e2, e3.elim (fun k => k.2) fun k => absurd h k.1⟩
theorem rCmpRootsOk_c {S : Nat → Prop} {w : World} {v u : Value} {p q : Rat} {m n : Int} (hS : Old S w) (hp : RatL w S v p) (hq : RatL w S u q) (hlp : rl p ≤ 1000) (hlq : rl q ≤ 1000) (hm1 : -9223372036854775808 ≤ m) (hm2 : m ≤ 9223372036854775807) (hn1 : -9223372036854775808 ≤ n) (hn2 : n ≤ 9223372036854775807) (h : ¬ (m < 0 ∨ n < 0)) : Con PG N.ref01_CmpRoots #[v, .int .i64 m, u, .int .i64 n] w (Ret w fun v' _ => v' = .tuple #[.int .i64 (rs (sqs p m - sqs q n)), .int .i64 0]) :=
  (rCmpRoots_c hS hp hq hlp hlq hm1 hm2 hn1 hn2).mono fun _ _ ⟨v2, e1, e2, e3⟩ => ⟨v2, e1, e2, e3.elim (fun k => absurd k.1 h) fun k => k.2⟩
theorem exactRoots_c {S : Nat → Prop} {w : World} {v u : Value} {xa xb ya yb m n : Int} (hS : Old S w) (hx : RatR w S v xa xb) (hy : RatR w S u ya yb) (hm1 : -9223372036854775808 ≤ m) (hm2 : m ≤ 9223372036854775807) (hn1 : -9223372036854775808 ≤ n) (hn2 : n ≤ 9223372036854775807) :
    Con PG N.law01_ExactRoots #[v, u, .agg #[.int .i64 m, .int .i64 n]] w (Ret w fun v' _ => v' = .bool true) := by
  have hw : Bel w.heap.size w w := Bel.refl
  obtain ⟨b01, a01, n01, c01, b02, a02, n02, c02, rfl⟩ := hx.shape
  obtain ⟨b11, a11, n11, c11, b12, a12, n12, c12, rfl⟩ := hy.shape
  refine in_law01_ExactRoots (by simp) ?_
  replace hx := hx.weak (S' := Cv S w.heap.size []) fun _ h => .inl h
  replace hy := hy.weak (S' := Cv S w.heap.size []) fun _ h => .inl h
  conv => whnf
  refine callE_S (callE_con (Φ := fun _ w' v w2 => ∃ d, v = .bool d ∧ (d = true → (n01 ≤ 3 ∧ n02 ≤ 3) ∧ (n11 ≤ 3 ∧ n12 ≤ 3))) (fun ρ w' r => ?_) ?_)
  · have hb := r.boxSeq (id := 3) (sz := 4) (n := 2) rfl rfl (by decide) (by intro u hu; simp at hu; rcases hu with rfl | rfl | rfl | rfl | rfl | rfl | rfl | rfl <;> rfl)
    refine (brief_c (S := fun g => g < w'.heap.size) (ks := [((b01, a01, n01, c01), (b02, a02, n02, c02)), ((b11, a11, n11, c11), (b12, a12, n12, c12))]) (fun g hg => hg) (hb.weak fun g hg => by rw [hg]; exact Rel.lt r rfl)).mono fun _ w2 ⟨v2, e1, e2, e3⟩ => ⟨v2, e1, e2, _, e3, fun h => ?_⟩
    have h := of_decide_eq_true h
    exact ⟨h ((b01, a01, n01, c01), (b02, a02, n02, c02)) (by simp), h ((b11, a11, n11, c11), (b12, a12, n12, c12)) (by simp)⟩
  rintro ρ wa1 v1 wb1 r he hb ⟨d, rfl, hd⟩
  replace hw := hw.tr hb
  replace hx := hx.past (iv' := (wa1.heap.size, wb1.heap.size) :: []) r hS he fun x hx => List.mem_cons_of_mem _ hx
  replace hy := hy.past (iv' := (wa1.heap.size, wb1.heap.size) :: []) r hS he fun x hx => List.mem_cons_of_mem _ hx
  clear r he hb
  generalize (wa1.heap.size, wb1.heap.size) :: [] = iv1 at *
  conv => whnf
  cases d with
  | false =>
    conv => whnf
    refine callE_S (callE_con (Φ := fun _ w' v w2 => v = .bool true) (fun ρ w' r => awake_c w') ?_)
    rintro ρ wa2 v2 wb2 r he hb rfl
    replace hw := hw.tr hb
    replace hx := hx.past (iv' := (wa2.heap.size, wb2.heap.size) :: iv1) r hS he fun x hx => List.mem_cons_of_mem _ hx
    replace hy := hy.past (iv' := (wa2.heap.size, wb2.heap.size) :: iv1) r hS he fun x hx => List.mem_cons_of_mem _ hx
    clear r he hb
    generalize (wa2.heap.size, wb2.heap.size) :: iv1 = iv2 at *
    conv => whnf
    intro ρe we re
    exact ⟨_, rfl, hw.tr re.bel, rfl⟩
  | true =>
    obtain ⟨⟨g01, g02⟩, ⟨g11, g12⟩⟩ := hd rfl
    clear hd
    obtain ⟨hx, r0⟩ := hx.shortL g01 g02
    clear g01 g02
    generalize ratio xa xb = x at hx r0
    obtain ⟨hy, r1⟩ := hy.shortL g11 g12
    clear g11 g12
    generalize ratio ya yb = y at hy r1
    have f1 := rl_mul x x
    have f2 := rl_mul (x * x) (m : Rat)
    have f3 := rl_mul y y
    have f4 := rl_mul (y * y) (n : Rat)
    have f5 := rl_whole hm1 hm2
    have f6 := rl_whole hn1 hn2
    have w0 : rl 0 = 1 := by decide
    have hc0 : rs (sqs y n - sqs x m) = -rs (sqs x m - sqs y n) := by rw [← rs_neg, Rat.neg_sub]
    have hc1 := rs_range (sqs x m - sqs y n)
    conv => whnf
    refine ⟨by decide, ?_⟩
    conv => whnf
    refine ⟨by decide, ?_⟩
    conv => whnf
    by_cases hneg : m < 0 ∨ n < 0
    · refine callE_S (callE_con (Φ := fun _ w' v w2 => v = .tuple #[.int .i64 0, .int .i64 2]) (fun ρ w' r => pubCmpRootsBad_c (Rel.old r hS) (hx.rel r hS).v (hy.rel r hS).v hm1 hm2 hn1 hn2 hneg) ?_)
      rintro ρ wa2 v2 wb2 r he hb rfl
      replace hw := hw.tr hb
      replace hx := hx.past (iv' := (wa2.heap.size, wb2.heap.size) :: iv1) r hS he fun x hx => List.mem_cons_of_mem _ hx
      replace hy := hy.past (iv' := (wa2.heap.size, wb2.heap.size) :: iv1) r hS he fun x hx => List.mem_cons_of_mem _ hx
      clear r he hb
      generalize (wa2.heap.size, wb2.heap.size) :: iv1 = iv2 at *
      conv => whnf
      refine ⟨by decide, ?_⟩
      conv => whnf
      refine ⟨by decide, ?_⟩
      conv => whnf
      refine callE_S (callE_con (Φ := fun _ w' v w2 => v = .tuple #[.int .i64 0, .int .i64 2]) (fun ρ w' r => rCmpRootsBad_c (Rel.old r hS) (hx.rel r hS) (hy.rel r hS) (by omega) (by omega) hm1 hm2 hn1 hn2 hneg) ?_)
      rintro ρ wa3 v3 wb3 r he hb rfl
      replace hw := hw.tr hb
      clear hx
      clear hy
      clear r he hb
      generalize (wa3.heap.size, wb3.heap.size) :: iv2 = iv3 at *
      conv => whnf
      refine callE_S (callE_con (Φ := fun _ w' v w2 => v = .bool true) (fun ρ w' r => awake_c w') ?_)
      rintro ρ wa4 v4 wb4 r he hb rfl
      replace hw := hw.tr hb
      clear r he hb
      generalize (wa4.heap.size, wb4.heap.size) :: iv3 = iv4 at *
      conv => whnf
      intro ρe we re
      exact ⟨_, rfl, hw.tr re.bel, rfl⟩
    refine callE_S (callE_con (Φ := fun _ w' v w2 => v = .tuple #[.int .i64 (rs (sqs x m - sqs y n)), .int .i64 0]) (fun ρ w' r => pubCmpRootsOk_c (Rel.old r hS) (hx.rel r hS).v (hy.rel r hS).v hm1 hm2 hn1 hn2 hneg) ?_)
    rintro ρ wa2 v2 wb2 r he hb rfl
    replace hw := hw.tr hb
    replace hx := hx.past (iv' := (wa2.heap.size, wb2.heap.size) :: iv1) r hS he fun x hx => List.mem_cons_of_mem _ hx
    replace hy := hy.past (iv' := (wa2.heap.size, wb2.heap.size) :: iv1) r hS he fun x hx => List.mem_cons_of_mem _ hx
    clear r he hb
    generalize (wa2.heap.size, wb2.heap.size) :: iv1 = iv2 at *
    conv => whnf
    refine ⟨by decide, ?_⟩
    conv => whnf
    refine ⟨by decide, ?_⟩
    conv => whnf
    refine callE_S (callE_con (Φ := fun _ w' v w2 => v = .tuple #[.int .i64 (rs (sqs x m - sqs y n)), .int .i64 0]) (fun ρ w' r => rCmpRootsOk_c (Rel.old r hS) (hx.rel r hS) (hy.rel r hS) (by omega) (by omega) hm1 hm2 hn1 hn2 hneg) ?_)
    rintro ρ wa3 v3 wb3 r he hb rfl
    replace hw := hw.tr hb
    replace hx := hx.past (iv' := (wa3.heap.size, wb3.heap.size) :: iv2) r hS he fun x hx => List.mem_cons_of_mem _ hx
    replace hy := hy.past (iv' := (wa3.heap.size, wb3.heap.size) :: iv2) r hS he fun x hx => List.mem_cons_of_mem _ hx
    clear r he hb
    generalize (wa3.heap.size, wb3.heap.size) :: iv2 = iv3 at *
    conv => whnf
    refine BrS.mk (fun hne => by simp at hne) (fun _ => ?_)
    conv => whnf
    refine ⟨by decide, ?_⟩
    conv => whnf
    refine ⟨by decide, ?_⟩
    conv => whnf
    refine callE_S (callE_con (Φ := fun _ w' v w2 => v = .tuple #[.int .i64 (-rs (sqs x m - sqs y n)), .int .i64 0]) (fun ρ w' r => hc0 ▸ pubCmpRootsOk_c (Rel.old r hS) (hy.rel r hS).v (hx.rel r hS).v hn1 hn2 hm1 hm2 (fun h => hneg h.symm)) ?_)
    rintro ρ wa4 v4 wb4 r he hb rfl
    replace hw := hw.tr hb
    replace hx := hx.past (iv' := (wa4.heap.size, wb4.heap.size) :: iv3) r hS he fun x hx => List.mem_cons_of_mem _ hx
    replace hy := hy.past (iv' := (wa4.heap.size, wb4.heap.size) :: iv3) r hS he fun x hx => List.mem_cons_of_mem _ hx
    clear r he hb
    generalize (wa4.heap.size, wb4.heap.size) :: iv3 = iv4 at *
    conv => whnf
    refine ⟨-rs (sqs x m - sqs y n), by rw [wrap64] <;> omega, ?_⟩
    conv => whnf
    refine BrS.mk (fun hne => by simp at hne) (fun _ => ?_)
    conv => whnf
    refine callE_S (callE_con (Φ := fun _ w' v w2 => RatC w2 (Nw (fun _ => False) w' w2) v (0)) (fun ρ w' r => pubWhole_c 0 w' (by decide) (by decide)) ?_)
    rintro ρ wa5 v5 wb5 r he hb hn
    replace hw := hw.tr hb
    replace hx := hx.past (iv' := (wa5.heap.size, wb5.heap.size) :: iv4) r hS he fun x hx => List.mem_cons_of_mem _ hx
    replace hy := hy.past (iv' := (wa5.heap.size, wb5.heap.size) :: iv4) r hS he fun x hx => List.mem_cons_of_mem _ hx
    have h0 := hn.got (S := fun _ => False) r.baseLe (iv := (wa5.heap.size, wb5.heap.size) :: iv4) List.mem_cons_self
    clear r he hb hn
    generalize (wa5.heap.size, wb5.heap.size) :: iv4 = iv5 at *
    obtain ⟨s5_0, s5_1, s5_2, s5_3, s5_4, s5_5, s5_6, s5_7, rfl⟩ := h0.shape
    conv => whnf
    refine callE_S (callE_con (Φ := fun _ w' v w2 => v = .int .i64 (rs x)) (fun ρ w' r => rs_sub0' x ▸ vCmp_c (Rel.old r hS) (hx.rel r hS).v ((((h0.rel r (oldF w)).v (by omega))).weak fun g hg => Cv.false hg)) ?_)
    rintro ρ wa6 v6 wb6 r he hb rfl
    replace hw := hw.tr hb
    replace hx := hx.past (iv' := (wa6.heap.size, wb6.heap.size) :: iv5) r hS he fun x hx => List.mem_cons_of_mem _ hx
    replace hy := hy.past (iv' := (wa6.heap.size, wb6.heap.size) :: iv5) r hS he fun x hx => List.mem_cons_of_mem _ hx
    replace h0 := h0.past (iv' := (wa6.heap.size, wb6.heap.size) :: iv5) r (oldF w) he fun x hx => List.mem_cons_of_mem _ hx
    clear r he hb
    generalize (wa6.heap.size, wb6.heap.size) :: iv5 = iv6 at *
    conv => whnf
    refine BrS.mk (fun hx0 => ?_) (fun hx0 => ?_)
    · conv => whnf
      refine callE_S (callE_con (Φ := fun _ w' v w2 => v = .bool true) (fun ρ w' r => awake_c w') ?_)
      rintro ρ wa7 v7 wb7 r he hb rfl
      replace hw := hw.tr hb
      replace hx := hx.past (iv' := (wa7.heap.size, wb7.heap.size) :: iv6) r hS he fun x hx => List.mem_cons_of_mem _ hx
      replace hy := hy.past (iv' := (wa7.heap.size, wb7.heap.size) :: iv6) r hS he fun x hx => List.mem_cons_of_mem _ hx
      replace h0 := h0.past (iv' := (wa7.heap.size, wb7.heap.size) :: iv6) r (oldF w) he fun x hx => List.mem_cons_of_mem _ hx
      clear r he hb
      generalize (wa7.heap.size, wb7.heap.size) :: iv6 = iv7 at *
      conv => whnf
      intro ρe we re
      exact ⟨_, rfl, hw.tr re.bel, rfl⟩
    have hx0 := of_decide_eq_false hx0
    conv => whnf
    refine callE_S (callE_con (Φ := fun _ w' v w2 => v = .int .i64 (rs y)) (fun ρ w' r => rs_sub0' y ▸ vCmp_c (Rel.old r hS) (hy.rel r hS).v ((((h0.rel r (oldF w)).v (by omega))).weak fun g hg => Cv.false hg)) ?_)
    rintro ρ wa7 v7 wb7 r he hb rfl
    replace hw := hw.tr hb
    replace hx := hx.past (iv' := (wa7.heap.size, wb7.heap.size) :: iv6) r hS he fun x hx => List.mem_cons_of_mem _ hx
    replace hy := hy.past (iv' := (wa7.heap.size, wb7.heap.size) :: iv6) r hS he fun x hx => List.mem_cons_of_mem _ hx
    clear h0
    clear r he hb
    generalize (wa7.heap.size, wb7.heap.size) :: iv6 = iv7 at *
    conv => whnf
    refine BrS.mk (fun hy0 => ?_) (fun hy0 => ?_)
    · conv => whnf
      refine callE_S (callE_con (Φ := fun _ w' v w2 => v = .bool true) (fun ρ w' r => awake_c w') ?_)
      rintro ρ wa8 v8 wb8 r he hb rfl
      replace hw := hw.tr hb
      replace hx := hx.past (iv' := (wa8.heap.size, wb8.heap.size) :: iv7) r hS he fun x hx => List.mem_cons_of_mem _ hx
      replace hy := hy.past (iv' := (wa8.heap.size, wb8.heap.size) :: iv7) r hS he fun x hx => List.mem_cons_of_mem _ hx
      clear r he hb
      generalize (wa8.heap.size, wb8.heap.size) :: iv7 = iv8 at *
      conv => whnf
      intro ρe we re
      exact ⟨_, rfl, hw.tr re.bel, rfl⟩
    have hy0 := of_decide_eq_false hy0
    conv => whnf
    refine drawn_of_pi hτ hmix [.x 0, .x 1, .x 3, .x 4, .x 7, .x 8, .x 10, .x 11, .p 14, .p 15, .x 2, .x 5, .x 6, .x 9, .x 12, .x 13, .x 14, .x 15, .x 16, .x 17] (by kernel_rfl) (by kernel_rfl) ?_
    conv => whnf
    refine ⟨by decide, ?_⟩
    conv => whnf
    refine ⟨by decide, ?_⟩
    conv => whnf
    refine callE_con (Φ := fun _ w' v w2 => RatC w2 (Nw (fun _ => False) w' w2) v (x * x)) (fun ρ w' r => vMul_c (Rel.old r hS) (hx.rel r hS).v (hx.rel r hS).v) ?_
    rintro ρ wa8 v8 wb8 r he hb hn
    replace hw := hw.tr hb
    clear hx
    replace hy := hy.past (iv' := (wa8.heap.size, wb8.heap.size) :: iv7) r hS he fun x hx => List.mem_cons_of_mem _ hx
    have hs := hn.got (S := fun _ => False) r.baseLe (iv := (wa8.heap.size, wb8.heap.size) :: iv7) List.mem_cons_self
    clear r he hb hn
    generalize (wa8.heap.size, wb8.heap.size) :: iv7 = iv8 at *
    obtain ⟨s8_0, s8_1, s8_2, s8_3, s8_4, s8_5, s8_6, s8_7, rfl⟩ := hs.shape
    conv => whnf
    refine callE_con (Φ := fun _ w' v w2 => RatC w2 (Nw (fun _ => False) w' w2) v ((m : Rat))) (fun ρ w' r => pubWhole_c m w' hm1 hm2) ?_
    rintro ρ wa9 v9 wb9 r he hb hn
    replace hw := hw.tr hb
    replace hy := hy.past (iv' := (wa9.heap.size, wb9.heap.size) :: iv8) r hS he fun x hx => List.mem_cons_of_mem _ hx
    replace hs := hs.past (iv' := (wa9.heap.size, wb9.heap.size) :: iv8) r (oldF w) he fun x hx => List.mem_cons_of_mem _ hx
    have hk := hn.got (S := fun _ => False) r.baseLe (iv := (wa9.heap.size, wb9.heap.size) :: iv8) List.mem_cons_self
    clear r he hb hn
    generalize (wa9.heap.size, wb9.heap.size) :: iv8 = iv9 at *
    obtain ⟨s9_0, s9_1, s9_2, s9_3, s9_4, s9_5, s9_6, s9_7, rfl⟩ := hk.shape
    conv => whnf
    refine callE_con (Φ := fun _ w' v w2 => RatC w2 (Nw (fun _ => False) w' w2) v (x * x * (m : Rat))) (fun ρ w' r => vMul_c (Rel.old r (oldF w)) ((hs.rel r (oldF w)).v (by omega)) ((hk.rel r (oldF w)).v (by omega))) ?_
    rintro ρ wa10 v10 wb10 r he hb hn
    replace hw := hw.tr hb
    replace hy := hy.past (iv' := (wa10.heap.size, wb10.heap.size) :: iv9) r hS he fun x hx => List.mem_cons_of_mem _ hx
    clear hs
    clear hk
    have hA := hn.got (S := fun _ => False) r.baseLe (iv := (wa10.heap.size, wb10.heap.size) :: iv9) List.mem_cons_self
    clear r he hb hn
    generalize (wa10.heap.size, wb10.heap.size) :: iv9 = iv10 at *
    obtain ⟨s10_0, s10_1, s10_2, s10_3, s10_4, s10_5, s10_6, s10_7, rfl⟩ := hA.shape
    conv => whnf
    refine callE_con (Φ := fun _ w' v w2 => RatC w2 (Nw (fun _ => False) w' w2) v (y * y)) (fun ρ w' r => vMul_c (Rel.old r hS) (hy.rel r hS).v (hy.rel r hS).v) ?_
    rintro ρ wa11 v11 wb11 r he hb hn
    replace hw := hw.tr hb
    clear hy
    replace hA := hA.past (iv' := (wa11.heap.size, wb11.heap.size) :: iv10) r (oldF w) he fun x hx => List.mem_cons_of_mem _ hx
    have hs := hn.got (S := fun _ => False) r.baseLe (iv := (wa11.heap.size, wb11.heap.size) :: iv10) List.mem_cons_self
    clear r he hb hn
    generalize (wa11.heap.size, wb11.heap.size) :: iv10 = iv11 at *
    obtain ⟨s11_0, s11_1, s11_2, s11_3, s11_4, s11_5, s11_6, s11_7, rfl⟩ := hs.shape
    conv => whnf
    refine callE_con (Φ := fun _ w' v w2 => RatC w2 (Nw (fun _ => False) w' w2) v ((n : Rat))) (fun ρ w' r => pubWhole_c n w' hn1 hn2) ?_
    rintro ρ wa12 v12 wb12 r he hb hn
    replace hw := hw.tr hb
    replace hA := hA.past (iv' := (wa12.heap.size, wb12.heap.size) :: iv11) r (oldF w) he fun x hx => List.mem_cons_of_mem _ hx
    replace hs := hs.past (iv' := (wa12.heap.size, wb12.heap.size) :: iv11) r (oldF w) he fun x hx => List.mem_cons_of_mem _ hx
    have hk := hn.got (S := fun _ => False) r.baseLe (iv := (wa12.heap.size, wb12.heap.size) :: iv11) List.mem_cons_self
    clear r he hb hn
    generalize (wa12.heap.size, wb12.heap.size) :: iv11 = iv12 at *
    obtain ⟨s12_0, s12_1, s12_2, s12_3, s12_4, s12_5, s12_6, s12_7, rfl⟩ := hk.shape
    conv => whnf
    refine callE_con (Φ := fun _ w' v w2 => RatC w2 (Nw (fun _ => False) w' w2) v (y * y * (n : Rat))) (fun ρ w' r => vMul_c (Rel.old r (oldF w)) ((hs.rel r (oldF w)).v (by omega)) ((hk.rel r (oldF w)).v (by omega))) ?_
    rintro ρ wa13 v13 wb13 r he hb hn
    replace hw := hw.tr hb
    replace hA := hA.past (iv' := (wa13.heap.size, wb13.heap.size) :: iv12) r (oldF w) he fun x hx => List.mem_cons_of_mem _ hx
    clear hs
    clear hk
    have hB := hn.got (S := fun _ => False) r.baseLe (iv := (wa13.heap.size, wb13.heap.size) :: iv12) List.mem_cons_self
    clear r he hb hn
    generalize (wa13.heap.size, wb13.heap.size) :: iv12 = iv13 at *
    obtain ⟨s13_0, s13_1, s13_2, s13_3, s13_4, s13_5, s13_6, s13_7, rfl⟩ := hB.shape
    conv => whnf
    have eA : sqs x m = x * x * (m : Rat) := if_neg hx0
    have eB : sqs y n = y * y * (n : Rat) := if_neg hy0
    rw [eA, eB] at *
    refine callE_S (callE_con (Φ := fun _ w' v w2 => v = .int .i64 (rs (x * x * (m : Rat) - y * y * (n : Rat)))) (fun ρ w' r => vCmp_c (Rel.old r (oldF w)) ((hA.rel r (oldF w)).v (by omega)) ((hB.rel r (oldF w)).v (by omega))) ?_)
    rintro ρ wa14 v14 wb14 r he hb rfl
    replace hw := hw.tr hb
    clear hA
    clear hB
    clear r he hb
    generalize (wa14.heap.size, wb14.heap.size) :: iv13 = iv14 at *
    conv => whnf
    refine BrS.mk (fun _ => ?_) (fun hne => by simp at hne)
    conv => whnf
    refine callE_S (callE_con (Φ := fun _ w' v w2 => v = .bool true) (fun ρ w' r => awake_c w') ?_)
    rintro ρ wa15 v15 wb15 r he hb rfl
    replace hw := hw.tr hb
    clear r he hb
    generalize (wa15.heap.size, wb15.heap.size) :: iv14 = iv15 at *
    conv => whnf
    intro ρe we re
    exact ⟨_, rfl, hw.tr re.bel, rfl⟩
end Go.Ex
