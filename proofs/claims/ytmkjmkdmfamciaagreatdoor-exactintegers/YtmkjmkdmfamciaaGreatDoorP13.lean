/- A part of the proof: texts X68 to X68. Each tells its conditions in its theorems. -/
import Derived.Test.YtmkjmkdmfamciaaGreatDoorP11
import Derived.Test.YtmkjmkdmfamciaaGreatDoorP12
/- ExactIntegers of the laws of chapter 1. Printed by program. No condition. -/
namespace Go.Ex
open Go Go.Sx Go.Proofs

theorem smallV_form (z : Int) : ∃ m b, smallV z = .tuple #[.int .i64 m, .bool b] := by
  rw [smallV]
  split
  · exact ⟨_, _, rfl⟩
  · exact ⟨_, _, rfl⟩
theorem IntR.short {S : Nat → Prop} {w : World} {b : Bool} {a : Option Addr} {n c k : Nat} {z : Int} (h : IntR w S (.agg #[.bool b, .slice a n c]) z) (hk : n ≤ k) : IntL w S (.agg #[.bool b, .slice a n c]) k z := by
  obtain ⟨b2, ls, ⟨lv, e1, h3⟩, h2⟩ := h
  obtain ⟨a2, c2, e2, _⟩ := h3.sl
  subst e2
  simp only [Value.agg.injEq, Array.mk.injEq, List.cons.injEq, Value.bool.injEq, Value.slice.injEq, and_true] at e1
  obtain ⟨rfl, rfl, e3, rfl⟩ := e1
  exact ⟨_, ls, ⟨_, by rw [e3], h3⟩, h2, by omega⟩
theorem rDivZero_c {S : Nat → Prop} {w : World} {v u : Value} {k l : Nat} {x y : Int} (hS : Old S w) (hx : IntL w S v k x) (hy : IntL w S u l y) (hk : k ≤ 1000000) (hl : l ≤ 1000000) (h0 : y = 0) :
    Con PG N.ref01_Divide #[v, u] w (Ret w fun v' _ => v' = .tuple #[.agg #[.bool false, .slice none 0 0], .agg #[.bool false, .slice none 0 0], .int .i64 9]) :=
  (rDivide_c hS hx hy hk hl).mono fun _ _ ⟨v2, e1, e2, e3⟩ => ⟨v2, e1, e2, e3.elim (fun h => h.2) fun h => absurd h0 h.1⟩
theorem rDivNon2_c {S : Nat → Prop} {w : World} {v u : Value} {k l : Nat} {x y : Int} (hS : Old S w) (hx : IntL w S v k x) (hy : IntL w S u l y) (hk : k ≤ 1000000) (hl : l ≤ 1000000) (h0 : y ≠ 0) :
    Con PG N.ref01_Divide #[v, u] w (Ret w fun v' w2 => ∃ q r, v' = .tuple #[q, r, .int .i64 0] ∧ IntC w2 (Nw (fun _ => False) w w2) q (x / y) ∧ IntC w2 (Nw (fun _ => False) w w2) r (x % y)) :=
  (rDivide_c hS hx hy hk hl).mono fun _ _ ⟨v2, e1, e2, e3⟩ => ⟨v2, e1, e2, e3.elim (fun h => absurd h.1 h0) fun h => h.2⟩
theorem exactIntegers_c {S : Nat → Prop} {w : World} {v u : Value} {x y n : Int} (hS : Old S w) (hx : IntR w S v x) (hy : IntR w S u y) (hn1 : -9223372036854775808 ≤ n) (hn2 : n ≤ 9223372036854775807) :
    Con PG N.law01_ExactIntegers #[v, u, .int .i64 n] w (Ret w fun v' _ => v' = .bool true) := by
  have hw : Bel w.heap.size w w := Bel.refl
  obtain ⟨bx, ax, lx, cx, rfl, hLx, hzx⟩ := hx.limbs
  obtain ⟨b2, ay, ly, cy, rfl, hLy, hzy⟩ := hy.limbs
  obtain ⟨m, is, hsm⟩ := smallV_form x
  refine in_law01_ExactIntegers (by simp) ?_
  replace hx := hx.weak (S' := Cv S w.heap.size []) fun _ h => .inl h
  replace hy := hy.weak (S' := Cv S w.heap.size []) fun _ h => .inl h
  conv => whnf
  refine callE_S (callE_con (Φ := fun _ w' v w2 => ∃ d, v = .bool d ∧ (d = true → lx.length ≤ 5 ∧ ly.length ≤ 5)) (fun ρ w' r => ?_) ?_)
  · have hb := r.boxSeq (id := 2) (sz := 2) (n := 2) rfl rfl (by decide) (by intro u hu; simp at hu; rcases hu with rfl | rfl | rfl | rfl <;> rfl)
    refine (shortL_c (S := fun g => g < w'.heap.size) (ks := [(bx, ax, lx.length, cx), (b2, ay, ly.length, cy)]) (fun g hg => hg) (hb.weak fun g hg => by rw [hg]; exact Rel.lt r rfl)).mono fun _ w2 ⟨v2, e1, e2, e3⟩ => ⟨v2, e1, e2, _, e3, fun h => ?_⟩
    have h := of_decide_eq_true h
    exact ⟨h (bx, ax, lx.length, cx) (by simp), h (b2, ay, ly.length, cy) (by simp)⟩
  rintro ρ wa1 v1 wb1 r he hb ⟨d, rfl, hd⟩
  replace hw := hw.tr hb
  replace hx := hx.past (iv' := (wa1.heap.size, wb1.heap.size) :: []) r hS he fun x hx => List.mem_cons_of_mem _ hx
  replace hy := hy.past (iv' := (wa1.heap.size, wb1.heap.size) :: []) r hS he fun x hx => List.mem_cons_of_mem _ hx
  clear r he hb
  generalize (wa1.heap.size, wb1.heap.size) :: [] = iv1 at *
  conv => whnf
  cases d with
  | false =>
    conv => whnf
    refine callE_S (callE_con (Φ := fun _ w' v w2 => v = .bool true) (fun ρ w' r => awake_c w') ?_)
    rintro ρ wa2 v2 wb2 r he hb rfl
    replace hw := hw.tr hb
    replace hx := hx.past (iv' := (wa2.heap.size, wb2.heap.size) :: iv1) r hS he fun x hx => List.mem_cons_of_mem _ hx
    replace hy := hy.past (iv' := (wa2.heap.size, wb2.heap.size) :: iv1) r hS he fun x hx => List.mem_cons_of_mem _ hx
    clear r he hb
    generalize (wa2.heap.size, wb2.heap.size) :: iv1 = iv2 at *
    conv => whnf
    intro ρe we re
    exact ⟨_, rfl, hw.tr re.bel, rfl⟩
  | true =>
    obtain ⟨l1, l2⟩ := hd rfl
    clear hd
    have hlx : ln x.natAbs ≤ 5 := by rw [← hzx, sg_abs]; exact ln_limbs hLx.lm l1
    have hly : ln y.natAbs ≤ 5 := by rw [← hzy, sg_abs]; exact ln_limbs hLy.lm l2
    replace hx := hx.short l1
    replace hy := hy.short l2
    clear hLx hLy hzx hzy l1 l2
    have c1 := ln_ediv x y
    conv => whnf
    refine callE_S (callE_con (Φ := fun _ w' v w2 => v = .tuple #[.int .i64 m, .bool is]) (fun ρ w' r => hsm ▸ pubSmall_c (Rel.old r hS) (hx.rel r hS).r) ?_)
    rintro ρ wa2 v2 wb2 r he hb rfl
    replace hw := hw.tr hb
    replace hx := hx.past (iv' := (wa2.heap.size, wb2.heap.size) :: iv1) r hS he fun x hx => List.mem_cons_of_mem _ hx
    replace hy := hy.past (iv' := (wa2.heap.size, wb2.heap.size) :: iv1) r hS he fun x hx => List.mem_cons_of_mem _ hx
    clear r he hb
    generalize (wa2.heap.size, wb2.heap.size) :: iv1 = iv2 at *
    conv => whnf
    refine callE_S (callE_con (Φ := fun _ w' v w2 => v = .tuple #[.int .i64 m, .bool is]) (fun ρ w' r => hsm ▸ rSmall_c (Rel.old r hS) (hx.rel r hS) (by omega)) ?_)
    rintro ρ wa3 v3 wb3 r he hb rfl
    replace hw := hw.tr hb
    replace hx := hx.past (iv' := (wa3.heap.size, wb3.heap.size) :: iv2) r hS he fun x hx => List.mem_cons_of_mem _ hx
    replace hy := hy.past (iv' := (wa3.heap.size, wb3.heap.size) :: iv2) r hS he fun x hx => List.mem_cons_of_mem _ hx
    clear r he hb
    generalize (wa3.heap.size, wb3.heap.size) :: iv2 = iv3 at *
    conv => whnf
    refine drawn_of_pi hτ hmix [.x 0, .x 1, .x 2, .x 3, .x 4, .x 5, .x 6, .x 7, .x 8, .x 9, .x 11, .x 10, .x 12, .x 13, .x 14, .x 15, .x 16, .x 17, .x 18, .x 20, .x 21, .x 19, .x 22, .x 23, .x 24, .x 25, .x 26, .x 27, .x 28, .x 30, .x 31, .x 29, .x 32, .x 33, .x 34, .x 35, .x 36, .x 37, .x 38, .x 40, .x 41, .x 39, .x 42, .x 43, .x 44, .x 45] (by kernel_rfl) (by kernel_rfl) ?_
    conv => whnf
    refine BrS.mk (fun hne => by simp at hne) (fun _ => ?_)
    conv => whnf
    refine BrS.mk (fun hne => by simp at hne) (fun _ => ?_)
    conv => whnf
    refine callE_con (Φ := fun _ w' v w2 => IntC w2 (Nw (fun _ => False) w' w2) v (n)) (fun ρ w' r => pubOf_c n w' hn1 hn2) ?_
    rintro ρ wa4 v4 wb4 r he hb hn
    replace hw := hw.tr hb
    replace hx := hx.past (iv' := (wa4.heap.size, wb4.heap.size) :: iv3) r hS he fun x hx => List.mem_cons_of_mem _ hx
    replace hy := hy.past (iv' := (wa4.heap.size, wb4.heap.size) :: iv3) r hS he fun x hx => List.mem_cons_of_mem _ hx
    have h1 := hn.got (S := fun _ => False) r.baseLe (iv := (wa4.heap.size, wb4.heap.size) :: iv3) List.mem_cons_self
    clear r he hb hn
    generalize (wa4.heap.size, wb4.heap.size) :: iv3 = iv4 at *
    obtain ⟨s4_0, s4_1, s4_2, s4_3, rfl⟩ := h1.shape
    conv => whnf
    refine callE_con (Φ := fun _ w' v w2 => IntC w2 (Nw (fun _ => False) w' w2) v (n)) (fun ρ w' r => rOf_c n w' hn1 hn2) ?_
    rintro ρ wa5 v5 wb5 r he hb hn
    replace hw := hw.tr hb
    replace hx := hx.past (iv' := (wa5.heap.size, wb5.heap.size) :: iv4) r hS he fun x hx => List.mem_cons_of_mem _ hx
    replace hy := hy.past (iv' := (wa5.heap.size, wb5.heap.size) :: iv4) r hS he fun x hx => List.mem_cons_of_mem _ hx
    replace h1 := h1.past (iv' := (wa5.heap.size, wb5.heap.size) :: iv4) r (oldF w) he fun x hx => List.mem_cons_of_mem _ hx
    have h2 := hn.got (S := fun _ => False) r.baseLe (iv := (wa5.heap.size, wb5.heap.size) :: iv4) List.mem_cons_self
    clear r he hb hn
    generalize (wa5.heap.size, wb5.heap.size) :: iv4 = iv5 at *
    obtain ⟨s5_0, s5_1, s5_2, s5_3, rfl⟩ := h2.shape
    conv => whnf
    refine callE_con (Φ := fun _ w' v w2 => v = .bool true) (fun ρ w' r => ?_) ?_
    · have h := sameInt_c (Rel.old r (oldF w)) (h1.rel r (oldF w)) (h2.rel r (oldF w))
      rw [decide_eq_true rfl] at h
      exact h
    rintro ρ wa6 v6 wb6 r he hb rfl
    replace hw := hw.tr hb
    replace hx := hx.past (iv' := (wa6.heap.size, wb6.heap.size) :: iv5) r hS he fun x hx => List.mem_cons_of_mem _ hx
    replace hy := hy.past (iv' := (wa6.heap.size, wb6.heap.size) :: iv5) r hS he fun x hx => List.mem_cons_of_mem _ hx
    clear h1
    clear h2
    clear r he hb
    generalize (wa6.heap.size, wb6.heap.size) :: iv5 = iv6 at *
    conv => whnf
    refine callE_con (Φ := fun _ w' v w2 => IntC w2 (Nw (fun _ => False) w' w2) v (x + y)) (fun ρ w' r => pubSum_c (Rel.old r hS) (hx.rel r hS).r (hy.rel r hS).r (by omega) (by omega)) ?_
    rintro ρ wa7 v7 wb7 r he hb hn
    replace hw := hw.tr hb
    replace hx := hx.past (iv' := (wa7.heap.size, wb7.heap.size) :: iv6) r hS he fun x hx => List.mem_cons_of_mem _ hx
    replace hy := hy.past (iv' := (wa7.heap.size, wb7.heap.size) :: iv6) r hS he fun x hx => List.mem_cons_of_mem _ hx
    have h1 := hn.got (S := fun _ => False) r.baseLe (iv := (wa7.heap.size, wb7.heap.size) :: iv6) List.mem_cons_self
    clear r he hb hn
    generalize (wa7.heap.size, wb7.heap.size) :: iv6 = iv7 at *
    obtain ⟨s7_0, s7_1, s7_2, s7_3, rfl⟩ := h1.shape
    conv => whnf
    refine callE_con (Φ := fun _ w' v w2 => IntC w2 (Nw (fun _ => False) w' w2) v (x + y)) (fun ρ w' r => rSum_c (Rel.old r hS) (hx.rel r hS) (hy.rel r hS) (by omega) (by omega)) ?_
    rintro ρ wa8 v8 wb8 r he hb hn
    replace hw := hw.tr hb
    replace hx := hx.past (iv' := (wa8.heap.size, wb8.heap.size) :: iv7) r hS he fun x hx => List.mem_cons_of_mem _ hx
    replace hy := hy.past (iv' := (wa8.heap.size, wb8.heap.size) :: iv7) r hS he fun x hx => List.mem_cons_of_mem _ hx
    replace h1 := h1.past (iv' := (wa8.heap.size, wb8.heap.size) :: iv7) r (oldF w) he fun x hx => List.mem_cons_of_mem _ hx
    have h2 := hn.got (S := fun _ => False) r.baseLe (iv := (wa8.heap.size, wb8.heap.size) :: iv7) List.mem_cons_self
    clear r he hb hn
    generalize (wa8.heap.size, wb8.heap.size) :: iv7 = iv8 at *
    obtain ⟨s8_0, s8_1, s8_2, s8_3, rfl⟩ := h2.shape
    conv => whnf
    refine callE_con (Φ := fun _ w' v w2 => v = .bool true) (fun ρ w' r => ?_) ?_
    · have h := sameInt_c (Rel.old r (oldF w)) (h1.rel r (oldF w)) (h2.rel r (oldF w))
      rw [decide_eq_true rfl] at h
      exact h
    rintro ρ wa9 v9 wb9 r he hb rfl
    replace hw := hw.tr hb
    replace hx := hx.past (iv' := (wa9.heap.size, wb9.heap.size) :: iv8) r hS he fun x hx => List.mem_cons_of_mem _ hx
    replace hy := hy.past (iv' := (wa9.heap.size, wb9.heap.size) :: iv8) r hS he fun x hx => List.mem_cons_of_mem _ hx
    clear h1
    clear h2
    clear r he hb
    generalize (wa9.heap.size, wb9.heap.size) :: iv8 = iv9 at *
    conv => whnf
    refine callE_con (Φ := fun _ w' v w2 => IntC w2 (Nw (fun _ => False) w' w2) v (x - y)) (fun ρ w' r => pubDiff_c (Rel.old r hS) (hx.rel r hS).r (hy.rel r hS).r (by omega) (by omega)) ?_
    rintro ρ wa10 v10 wb10 r he hb hn
    replace hw := hw.tr hb
    replace hx := hx.past (iv' := (wa10.heap.size, wb10.heap.size) :: iv9) r hS he fun x hx => List.mem_cons_of_mem _ hx
    replace hy := hy.past (iv' := (wa10.heap.size, wb10.heap.size) :: iv9) r hS he fun x hx => List.mem_cons_of_mem _ hx
    have h1 := hn.got (S := fun _ => False) r.baseLe (iv := (wa10.heap.size, wb10.heap.size) :: iv9) List.mem_cons_self
    clear r he hb hn
    generalize (wa10.heap.size, wb10.heap.size) :: iv9 = iv10 at *
    obtain ⟨s10_0, s10_1, s10_2, s10_3, rfl⟩ := h1.shape
    conv => whnf
    refine callE_con (Φ := fun _ w' v w2 => IntC w2 (Nw (fun _ => False) w' w2) v (x - y)) (fun ρ w' r => rDiff_c (Rel.old r hS) (hx.rel r hS) (hy.rel r hS) (by omega) (by omega)) ?_
    rintro ρ wa11 v11 wb11 r he hb hn
    replace hw := hw.tr hb
    replace hx := hx.past (iv' := (wa11.heap.size, wb11.heap.size) :: iv10) r hS he fun x hx => List.mem_cons_of_mem _ hx
    replace hy := hy.past (iv' := (wa11.heap.size, wb11.heap.size) :: iv10) r hS he fun x hx => List.mem_cons_of_mem _ hx
    replace h1 := h1.past (iv' := (wa11.heap.size, wb11.heap.size) :: iv10) r (oldF w) he fun x hx => List.mem_cons_of_mem _ hx
    have h2 := hn.got (S := fun _ => False) r.baseLe (iv := (wa11.heap.size, wb11.heap.size) :: iv10) List.mem_cons_self
    clear r he hb hn
    generalize (wa11.heap.size, wb11.heap.size) :: iv10 = iv11 at *
    obtain ⟨s11_0, s11_1, s11_2, s11_3, rfl⟩ := h2.shape
    conv => whnf
    refine callE_con (Φ := fun _ w' v w2 => v = .bool true) (fun ρ w' r => ?_) ?_
    · have h := sameInt_c (Rel.old r (oldF w)) (h1.rel r (oldF w)) (h2.rel r (oldF w))
      rw [decide_eq_true rfl] at h
      exact h
    rintro ρ wa12 v12 wb12 r he hb rfl
    replace hw := hw.tr hb
    replace hx := hx.past (iv' := (wa12.heap.size, wb12.heap.size) :: iv11) r hS he fun x hx => List.mem_cons_of_mem _ hx
    replace hy := hy.past (iv' := (wa12.heap.size, wb12.heap.size) :: iv11) r hS he fun x hx => List.mem_cons_of_mem _ hx
    clear h1
    clear h2
    clear r he hb
    generalize (wa12.heap.size, wb12.heap.size) :: iv11 = iv12 at *
    conv => whnf
    refine callE_con (Φ := fun _ w' v w2 => IntC w2 (Nw (fun _ => False) w' w2) v (x * y)) (fun ρ w' r => pubProd_c (Rel.old r hS) (hx.rel r hS).r (hy.rel r hS).r (by omega) (by omega)) ?_
    rintro ρ wa13 v13 wb13 r he hb hn
    replace hw := hw.tr hb
    replace hx := hx.past (iv' := (wa13.heap.size, wb13.heap.size) :: iv12) r hS he fun x hx => List.mem_cons_of_mem _ hx
    replace hy := hy.past (iv' := (wa13.heap.size, wb13.heap.size) :: iv12) r hS he fun x hx => List.mem_cons_of_mem _ hx
    have h1 := hn.got (S := fun _ => False) r.baseLe (iv := (wa13.heap.size, wb13.heap.size) :: iv12) List.mem_cons_self
    clear r he hb hn
    generalize (wa13.heap.size, wb13.heap.size) :: iv12 = iv13 at *
    obtain ⟨s13_0, s13_1, s13_2, s13_3, rfl⟩ := h1.shape
    conv => whnf
    refine callE_con (Φ := fun _ w' v w2 => IntC w2 (Nw (fun _ => False) w' w2) v (x * y)) (fun ρ w' r => rProd_c (Rel.old r hS) (hx.rel r hS) (hy.rel r hS) (by omega) (by omega)) ?_
    rintro ρ wa14 v14 wb14 r he hb hn
    replace hw := hw.tr hb
    replace hx := hx.past (iv' := (wa14.heap.size, wb14.heap.size) :: iv13) r hS he fun x hx => List.mem_cons_of_mem _ hx
    replace hy := hy.past (iv' := (wa14.heap.size, wb14.heap.size) :: iv13) r hS he fun x hx => List.mem_cons_of_mem _ hx
    replace h1 := h1.past (iv' := (wa14.heap.size, wb14.heap.size) :: iv13) r (oldF w) he fun x hx => List.mem_cons_of_mem _ hx
    have h2 := hn.got (S := fun _ => False) r.baseLe (iv := (wa14.heap.size, wb14.heap.size) :: iv13) List.mem_cons_self
    clear r he hb hn
    generalize (wa14.heap.size, wb14.heap.size) :: iv13 = iv14 at *
    obtain ⟨s14_0, s14_1, s14_2, s14_3, rfl⟩ := h2.shape
    conv => whnf
    refine callE_con (Φ := fun _ w' v w2 => v = .bool true) (fun ρ w' r => ?_) ?_
    · have h := sameInt_c (Rel.old r (oldF w)) (h1.rel r (oldF w)) (h2.rel r (oldF w))
      rw [decide_eq_true rfl] at h
      exact h
    rintro ρ wa15 v15 wb15 r he hb rfl
    replace hw := hw.tr hb
    replace hx := hx.past (iv' := (wa15.heap.size, wb15.heap.size) :: iv14) r hS he fun x hx => List.mem_cons_of_mem _ hx
    replace hy := hy.past (iv' := (wa15.heap.size, wb15.heap.size) :: iv14) r hS he fun x hx => List.mem_cons_of_mem _ hx
    clear h1
    clear h2
    clear r he hb
    generalize (wa15.heap.size, wb15.heap.size) :: iv14 = iv15 at *
    conv => whnf
    have hcs : ∀ z : Int, decide (z.sign = z.sign) = true := fun z => decide_eq_true rfl
    by_cases hy0 : y = 0
    · refine callE_S (callE_con (Φ := fun _ w' v w2 => v = .tuple #[.agg #[.bool false, .slice none 0 0], .agg #[.bool false, .slice none 0 0], .int .i64 9]) (fun ρ w' r => divZero_c (Rel.old r hS) (hx.rel r hS).r (hy.rel r hS).r (by omega) hy0) ?_)
      rintro ρ wa16 v16 wb16 r he hb rfl
      replace hw := hw.tr hb
      replace hx := hx.past (iv' := (wa16.heap.size, wb16.heap.size) :: iv15) r hS he fun x hx => List.mem_cons_of_mem _ hx
      replace hy := hy.past (iv' := (wa16.heap.size, wb16.heap.size) :: iv15) r hS he fun x hx => List.mem_cons_of_mem _ hx
      clear r he hb
      generalize (wa16.heap.size, wb16.heap.size) :: iv15 = iv16 at *
      conv => whnf
      refine callE_S (callE_con (Φ := fun _ w' v w2 => v = .tuple #[.agg #[.bool false, .slice none 0 0], .agg #[.bool false, .slice none 0 0], .int .i64 9]) (fun ρ w' r => rDivZero_c (Rel.old r hS) (hx.rel r hS) (hy.rel r hS) (by omega) (by omega) hy0) ?_)
      rintro ρ wa17 v17 wb17 r he hb rfl
      replace hw := hw.tr hb
      replace hx := hx.past (iv' := (wa17.heap.size, wb17.heap.size) :: iv16) r hS he fun x hx => List.mem_cons_of_mem _ hx
      replace hy := hy.past (iv' := (wa17.heap.size, wb17.heap.size) :: iv16) r hS he fun x hx => List.mem_cons_of_mem _ hx
      clear r he hb
      generalize (wa17.heap.size, wb17.heap.size) :: iv16 = iv17 at *
      conv => whnf
      refine drawn_of_pi hτ hmix [.x 0, .x 1, .x 2, .x 3, .x 4, .x 5, .x 6, .x 7, .x 8, .x 9, .x 10, .x 11, .x 12, .x 13, .x 14, .x 15, .x 17, .x 18, .x 16, .x 19, .x 20, .x 21, .x 22, .x 23, .x 24, .x 25] (by kernel_rfl) (by kernel_rfl) ?_
      conv => whnf
      refine callE_con (Φ := fun _ w' v w2 => v = .bool true) (fun ρ w' r => sameInt_c (Rel.old r (oldF w)) (IntC.nil w' _) (IntC.nil w' _)) ?_
      rintro ρ wa18 v18 wb18 r he hb rfl
      replace hw := hw.tr hb
      replace hx := hx.past (iv' := (wa18.heap.size, wb18.heap.size) :: iv17) r hS he fun x hx => List.mem_cons_of_mem _ hx
      replace hy := hy.past (iv' := (wa18.heap.size, wb18.heap.size) :: iv17) r hS he fun x hx => List.mem_cons_of_mem _ hx
      clear r he hb
      generalize (wa18.heap.size, wb18.heap.size) :: iv17 = iv18 at *
      conv => whnf
      refine callE_con (Φ := fun _ w' v w2 => v = .bool true) (fun ρ w' r => sameInt_c (Rel.old r (oldF w)) (IntC.nil w' _) (IntC.nil w' _)) ?_
      rintro ρ wa19 v19 wb19 r he hb rfl
      replace hw := hw.tr hb
      replace hx := hx.past (iv' := (wa19.heap.size, wb19.heap.size) :: iv18) r hS he fun x hx => List.mem_cons_of_mem _ hx
      replace hy := hy.past (iv' := (wa19.heap.size, wb19.heap.size) :: iv18) r hS he fun x hx => List.mem_cons_of_mem _ hx
      clear r he hb
      generalize (wa19.heap.size, wb19.heap.size) :: iv18 = iv19 at *
      conv => whnf
      refine callE_con (Φ := fun _ w' v w2 => v = .int .i64 (x - y).sign) (fun ρ w' r => pubCmpInt_c (Rel.old r hS) (hx.rel r hS).r (hy.rel r hS).r (by omega) (by omega)) ?_
      rintro ρ wa20 v20 wb20 r he hb rfl
      replace hw := hw.tr hb
      replace hx := hx.past (iv' := (wa20.heap.size, wb20.heap.size) :: iv19) r hS he fun x hx => List.mem_cons_of_mem _ hx
      replace hy := hy.past (iv' := (wa20.heap.size, wb20.heap.size) :: iv19) r hS he fun x hx => List.mem_cons_of_mem _ hx
      clear r he hb
      generalize (wa20.heap.size, wb20.heap.size) :: iv19 = iv20 at *
      conv => whnf
      refine callE_con (Φ := fun _ w' v w2 => v = .int .i64 (x - y).sign) (fun ρ w' r => rCmpInt_c (Rel.old r hS) (hx.rel r hS) (hy.rel r hS) (by omega) (by omega)) ?_
      rintro ρ wa21 v21 wb21 r he hb rfl
      replace hw := hw.tr hb
      clear hx
      clear hy
      clear r he hb
      generalize (wa21.heap.size, wb21.heap.size) :: iv20 = iv21 at *
      conv => whnf
      refine BrS.mk (fun _ => ?_) (fun hne => by simp at hne)
      conv => whnf
      refine callE_con (Φ := fun _ w' v w2 => v = .bool true) (fun ρ w' r => awake_c w') ?_
      rintro ρ wa22 v22 wb22 r he hb rfl
      replace hw := hw.tr hb
      clear r he hb
      generalize (wa22.heap.size, wb22.heap.size) :: iv21 = iv22 at *
      conv => whnf
      intro ρe we re
      exact ⟨_, rfl, hw.tr re.bel, rfl⟩
    · refine callE_S (callE_con (Φ := fun _ w' v w2 => ∃ q r, v = .tuple #[q, r, .int .i64 0] ∧ IntC w2 (Nw (fun _ => False) w' w2) q (x / y) ∧ IntC w2 (Nw (fun _ => False) w' w2) r (x % y)) (fun ρ w' r => divNon_c (Rel.old r hS) (hx.rel r hS).r (hy.rel r hS).r (by omega) (by omega) hy0) ?_)
      rintro ρ wa16 v16 wb16 r he hb ⟨q, rr, rfl, k1, k2⟩
      replace hw := hw.tr hb
      replace hx := hx.past (iv' := (wa16.heap.size, wb16.heap.size) :: iv15) r hS he fun x hx => List.mem_cons_of_mem _ hx
      replace hy := hy.past (iv' := (wa16.heap.size, wb16.heap.size) :: iv15) r hS he fun x hx => List.mem_cons_of_mem _ hx
      have hq := k1.got (S := fun _ => False) r.baseLe (iv := (wa16.heap.size, wb16.heap.size) :: iv15) List.mem_cons_self
      have hr := k2.got (S := fun _ => False) r.baseLe (iv := (wa16.heap.size, wb16.heap.size) :: iv15) List.mem_cons_self
      clear r he hb
      generalize (wa16.heap.size, wb16.heap.size) :: iv15 = iv16 at *
      obtain ⟨s16_0a, s16_0b, s16_0c, s16_0d, rfl⟩ := hq.shape
      obtain ⟨s16_1a, s16_1b, s16_1c, s16_1d, rfl⟩ := hr.shape
      clear k1 k2
      conv => whnf
      refine callE_S (callE_con (Φ := fun _ w' v w2 => ∃ q r, v = .tuple #[q, r, .int .i64 0] ∧ IntC w2 (Nw (fun _ => False) w' w2) q (x / y) ∧ IntC w2 (Nw (fun _ => False) w' w2) r (x % y)) (fun ρ w' r => rDivNon2_c (Rel.old r hS) (hx.rel r hS) (hy.rel r hS) (by omega) (by omega) hy0) ?_)
      rintro ρ wa17 v17 wb17 r he hb ⟨q, rr, rfl, k1, k2⟩
      replace hw := hw.tr hb
      replace hx := hx.past (iv' := (wa17.heap.size, wb17.heap.size) :: iv16) r hS he fun x hx => List.mem_cons_of_mem _ hx
      replace hy := hy.past (iv' := (wa17.heap.size, wb17.heap.size) :: iv16) r hS he fun x hx => List.mem_cons_of_mem _ hx
      replace hq := hq.past (iv' := (wa17.heap.size, wb17.heap.size) :: iv16) r (oldF w) he fun x hx => List.mem_cons_of_mem _ hx
      replace hr := hr.past (iv' := (wa17.heap.size, wb17.heap.size) :: iv16) r (oldF w) he fun x hx => List.mem_cons_of_mem _ hx
      have hq2 := k1.got (S := fun _ => False) r.baseLe (iv := (wa17.heap.size, wb17.heap.size) :: iv16) List.mem_cons_self
      have hr2 := k2.got (S := fun _ => False) r.baseLe (iv := (wa17.heap.size, wb17.heap.size) :: iv16) List.mem_cons_self
      clear r he hb
      generalize (wa17.heap.size, wb17.heap.size) :: iv16 = iv17 at *
      obtain ⟨s17_0a, s17_0b, s17_0c, s17_0d, rfl⟩ := hq2.shape
      obtain ⟨s17_1a, s17_1b, s17_1c, s17_1d, rfl⟩ := hr2.shape
      clear k1 k2
      conv => whnf
      refine drawn_of_pi hτ hmix [.x 0, .x 1, .x 2, .x 3, .x 4, .x 5, .x 6, .x 7, .x 8, .x 9, .x 10, .x 11, .x 12, .x 13, .x 14, .x 15, .x 17, .x 18, .x 16, .x 19, .x 20, .x 21, .x 22, .x 23, .x 24, .x 25] (by kernel_rfl) (by kernel_rfl) ?_
      conv => whnf
      refine callE_con (Φ := fun _ w' v w2 => v = .bool true) (fun ρ w' r => ?_) ?_
      · have h := sameInt_c (Rel.old r (oldF w)) (hq.rel r (oldF w)) (hq2.rel r (oldF w))
        rw [decide_eq_true rfl] at h
        exact h
      rintro ρ wa18 v18 wb18 r he hb rfl
      replace hw := hw.tr hb
      replace hx := hx.past (iv' := (wa18.heap.size, wb18.heap.size) :: iv17) r hS he fun x hx => List.mem_cons_of_mem _ hx
      replace hy := hy.past (iv' := (wa18.heap.size, wb18.heap.size) :: iv17) r hS he fun x hx => List.mem_cons_of_mem _ hx
      clear hq
      replace hr := hr.past (iv' := (wa18.heap.size, wb18.heap.size) :: iv17) r (oldF w) he fun x hx => List.mem_cons_of_mem _ hx
      clear hq2
      replace hr2 := hr2.past (iv' := (wa18.heap.size, wb18.heap.size) :: iv17) r (oldF w) he fun x hx => List.mem_cons_of_mem _ hx
      clear r he hb
      generalize (wa18.heap.size, wb18.heap.size) :: iv17 = iv18 at *
      conv => whnf
      refine callE_con (Φ := fun _ w' v w2 => v = .bool true) (fun ρ w' r => ?_) ?_
      · have h := sameInt_c (Rel.old r (oldF w)) (hr.rel r (oldF w)) (hr2.rel r (oldF w))
        rw [decide_eq_true rfl] at h
        exact h
      rintro ρ wa19 v19 wb19 r he hb rfl
      replace hw := hw.tr hb
      replace hx := hx.past (iv' := (wa19.heap.size, wb19.heap.size) :: iv18) r hS he fun x hx => List.mem_cons_of_mem _ hx
      replace hy := hy.past (iv' := (wa19.heap.size, wb19.heap.size) :: iv18) r hS he fun x hx => List.mem_cons_of_mem _ hx
      clear hr
      clear hr2
      clear r he hb
      generalize (wa19.heap.size, wb19.heap.size) :: iv18 = iv19 at *
      conv => whnf
      refine callE_con (Φ := fun _ w' v w2 => v = .int .i64 (x - y).sign) (fun ρ w' r => pubCmpInt_c (Rel.old r hS) (hx.rel r hS).r (hy.rel r hS).r (by omega) (by omega)) ?_
      rintro ρ wa20 v20 wb20 r he hb rfl
      replace hw := hw.tr hb
      replace hx := hx.past (iv' := (wa20.heap.size, wb20.heap.size) :: iv19) r hS he fun x hx => List.mem_cons_of_mem _ hx
      replace hy := hy.past (iv' := (wa20.heap.size, wb20.heap.size) :: iv19) r hS he fun x hx => List.mem_cons_of_mem _ hx
      clear r he hb
      generalize (wa20.heap.size, wb20.heap.size) :: iv19 = iv20 at *
      conv => whnf
      refine callE_con (Φ := fun _ w' v w2 => v = .int .i64 (x - y).sign) (fun ρ w' r => rCmpInt_c (Rel.old r hS) (hx.rel r hS) (hy.rel r hS) (by omega) (by omega)) ?_
      rintro ρ wa21 v21 wb21 r he hb rfl
      replace hw := hw.tr hb
      clear hx
      clear hy
      clear r he hb
      generalize (wa21.heap.size, wb21.heap.size) :: iv20 = iv21 at *
      conv => whnf
      refine BrS.mk (fun _ => ?_) (fun hne => by simp at hne)
      conv => whnf
      refine callE_con (Φ := fun _ w' v w2 => v = .bool true) (fun ρ w' r => awake_c w') ?_
      rintro ρ wa22 v22 wb22 r he hb rfl
      replace hw := hw.tr hb
      clear r he hb
      generalize (wa22.heap.size, wb22.heap.size) :: iv21 = iv22 at *
      conv => whnf
      intro ρe we re
      exact ⟨_, rfl, hw.tr re.bel, rfl⟩
end Go.Ex
