/- A part of the proof: texts X80 to X80. Each tells its conditions in its theorems. -/
import Derived.Test.YtmkjmkdmfamciaaGreatDoorP13
/- ExactRanks of the laws of chapter 1. Printed by program. No condition. -/
namespace Go.Ex
open Go Go.Sx Go.Proofs

theorem kernelTo_count (M : List (List Rat)) (cols : Nat) : (reduceF M cols).2.length + (kernelTo (reduceF M cols).1 (reduceF M cols).2 cols cols).length = cols := by
  have := (pivots_count M cols).2.2
  rw [kernelTo, List.length_map]
  unfold reduceF
  omega
theorem SmallM.keep {S : Nat → Prop} {w w2 : World} {v : Value} {M : List (List (Int × Int))} (h : SmallM w S v M) (hk : ∀ g, S g → w2.heap[g]? = w.heap[g]?) : SmallM w2 S v M := ⟨h.1, h.2.1, RatML.keep h.2.2.1 hk, h.2.2.2⟩
theorem SmallM.weak {S S' : Nat → Prop} {w : World} {v : Value} {M : List (List (Int × Int))} (h : SmallM w S v M) (hk : ∀ g, S g → S' g) : SmallM w S' v M := ⟨h.1, h.2.1, RatML.weak h.2.2.1 hk, h.2.2.2⟩
section
variable {S S' : Nat → Prop} {H : Hp} {nx : Nat} {iv iv' : Iv} {B : Nat} {w w' w2 : World} {ρ : Nat → Sx.Val} {v : Value} {M : List (List (Int × Int))}
theorem SmallM.rel (h : SmallM w (Cv S B iv) v M) (r : Rel H nx iv B w ρ w') (hS : ∀ g, S g → g < B) : SmallM w' (Cv S B iv) v M := h.keep fun _ hg => Rel.same r hS hg
theorem SmallM.past (h : SmallM w (Cv S B iv) v M) (r : Rel H nx iv B w ρ w') (hS : ∀ g, S g → g < B) (he : Ext w' w2) (hm : ∀ p, p ∈ iv → p ∈ iv') : SmallM w2 (Cv S B iv') v M :=
  ((h.rel r hS).keep fun g hg => he.block g (Rel.old r hS g hg)).weak fun _ hg => hg.mono hm
end
theorem smallM2_c {S : Nat → Prop} {w : World} {v : Value} {M : List (List (Int × Int))} (hS : Old S w) (h : RatMR w S v M) :
    Con PG N.law01_Small #[v] w (Ret w fun v' w2 => ∃ d, v' = .bool d ∧ (d = true → SmallM w2 S v M)) :=
  (smallM_c hS h).mono fun _ _ ⟨v2, e1, e2, d, e3, e4⟩ => ⟨v2, e1, e2, d, e3, fun hd => (e4 hd).keep fun g hg => e2.block g (hS g hg)⟩
/-- sizes of a matrix that the laws are told for -/
theorem SmallM.sizes {S : Nat → Prop} {w : World} {v : Value} {M : List (List (Int × Int))} (h : SmallM w S v M) (he : errM M = 0) :
    (∀ r ∈ M, r.length = colsM M) ∧ M.length ≤ 5 ∧ colsM M ≤ 5 ∧ Ht (valsM M) 4 ∧ 4 ^ (valsM M).length * 4 ≤ 4096 := by
  obtain ⟨h1, h2, h3⟩ := errM_zero he
  have h4 : M.length ≤ 5 := by have := h.1; unfold Sized at this; omega
  refine ⟨h1, h4, ?_, fun r hr q hq => ?_, ?_⟩
  · cases M with
    | nil => exact Nat.zero_le _
    | cons r t =>
      have := h.2.1 r List.mem_cons_self
      have h5 : colsM (r :: t) = r.length := rfl
      unfold Sized at this
      omega
  · have := h.2.2.2.1 r hr q hq
    omega
  · have h5 : (valsM M).length ≤ 5 := by simp [valsM]; exact h4
    exact Nat.le_trans (Nat.mul_le_mul_right 4 (Nat.pow_le_pow_right (by decide) h5)) (by decide)
theorem RankBad_c {S : Nat → Prop} {w : World} {v : Value} {M : List (List (Int × Int))} (hS : Old S w) (h : RatMR w S v M) (he : errM M ≠ 0) : Con PG N.exact_Rank #[v] w (Ret w fun v' _ => v' = .tuple #[.int .i64 0, .int .i64 (errM M)]) :=
  (pubRank_c (h0 := 4) hS h (fun e => absurd e he)).mono fun _ _ ⟨v2, e1, e2, e3⟩ => ⟨v2, e1, e2, e3.elim (fun k => k.2) fun k => absurd k.1 he⟩
theorem RankOk_c {S : Nat → Prop} {w : World} {v : Value} {M : List (List (Int × Int))} (hS : Old S w) (h : RatMR w S v M) (hs : SmallM w S v M) (he : errM M = 0) : Con PG N.exact_Rank #[v] w (Ret w fun v' _ => v' = .tuple #[.int .i64 (reduceF (valsM M) (colsM M)).2.length, .int .i64 0]) :=
  (pubRank_c (h0 := 4) hS h (fun e => by obtain ⟨_, _, _, h4, h5⟩ := hs.sizes he; exact ⟨hs.2.2.2.2, h4, by decide, by omega⟩)).mono fun _ _ ⟨v2, e1, e2, e3⟩ => ⟨v2, e1, e2, e3.elim (fun k => absurd he k.1) fun k => k.2⟩
theorem KernelBad_c {S : Nat → Prop} {w : World} {v : Value} {M : List (List (Int × Int))} (hS : Old S w) (h : RatMR w S v M) (he : errM M ≠ 0) : Con PG N.exact_Kernel #[v] w (Ret w fun v' _ => v' = .tuple #[.slice none 0 0, .int .i64 (errM M)]) :=
  (pubKernel_c (h0 := 4) hS h (fun e => absurd e he)).mono fun _ _ ⟨v2, e1, e2, e3⟩ => ⟨v2, e1, e2, e3.elim (fun k => k.2) fun k => absurd k.1 he⟩
theorem KernelOk_c {S : Nat → Prop} {w : World} {v : Value} {M : List (List (Int × Int))} (hS : Old S w) (h : RatMR w S v M) (hs : SmallM w S v M) (he : errM M = 0) : Con PG N.exact_Kernel #[v] w (Ret w fun v' w2 => ∃ vk, v' = .tuple #[vk, .int .i64 0] ∧ RatMC w2 (Nw (fun _ => False) w w2) vk (kernelTo (reduceF (valsM M) (colsM M)).1 (reduceF (valsM M) (colsM M)).2 (colsM M) (colsM M))) :=
  (pubKernel_c (h0 := 4) hS h (fun e => by obtain ⟨_, _, _, h4, h5⟩ := hs.sizes he; exact ⟨hs.2.2.2.2, h4, by decide, by omega⟩)).mono fun _ _ ⟨v2, e1, e2, e3⟩ => ⟨v2, e1, e2, e3.elim (fun k => absurd he k.1) fun k => k.2⟩
theorem exactRanks_c {S : Nat → Prop} {w : World} {v : Value} {M : List (List (Int × Int))} (hS : Old S w) (h : RatMR w S v M) :
    Con PG N.law01_ExactRanks #[v] w (Ret w fun v' _ => v' = .bool true) := by
  have hw : Bel w.heap.size w w := Bel.refl
  replace h := RatMR.arg h []
  obtain ⟨am, cm, rfl, hcm, hmm⟩ := SlicesR.shape h
  refine in_law01_ExactRanks (by simp) ?_
  conv => whnf
  refine callE_S (callE_con (Φ := fun _ w' v w2 => ∃ d, v = .bool d ∧ (d = true → SmallM w2 (Cv S w.heap.size []) (.slice am M.length cm) M)) (fun ρ w' r => smallM2_c (Rel.old r hS) (RatMR.rel h r hS)) ?_)
  rintro ρ wa1 v1 wb1 r he hb ⟨d, rfl, hd⟩
  replace hw := hw.tr hb
  replace h := RatMR.past (iv' := (wa1.heap.size, wb1.heap.size) :: []) h r hS he fun x hx => List.mem_cons_of_mem _ hx
  clear r he hb
  replace hd := fun e => (hd e).weak (S' := Cv S w.heap.size ((wa1.heap.size, wb1.heap.size) :: [])) fun g hg => hg.mono fun p hp => by cases hp
  generalize (wa1.heap.size, wb1.heap.size) :: [] = iv1 at *
  conv => whnf
  cases d with
  | false =>
    conv => whnf
    refine callE_S (callE_con (Φ := fun _ w' v w2 => v = .bool true) (fun ρ w' r => awake_c w') ?_)
    rintro ρ wa2 v2 wb2 r he hb rfl
    replace hw := hw.tr hb
    replace h := RatMR.past (iv' := (wa2.heap.size, wb2.heap.size) :: iv1) h r hS he fun x hx => List.mem_cons_of_mem _ hx
    clear r he hb
    generalize (wa2.heap.size, wb2.heap.size) :: iv1 = iv2 at *
    conv => whnf
    intro ρe we re
    exact ⟨_, rfl, hw.tr re.bel, rfl⟩
  | true =>
    have hs := hd rfl
    clear hd
    conv => whnf
    by_cases herr : errM M = 0
    · obtain ⟨hall, hM5, hc5, hht, hpow⟩ := hs.sizes herr
      have hcount := kernelTo_count (valsM M) (colsM M)
      refine callE_S (callE_con (Φ := fun _ w' v w2 => v = .tuple #[.int .i64 (reduceF (valsM M) (colsM M)).2.length, .int .i64 0]) (fun ρ w' r => RankOk_c (Rel.old r hS) (RatMR.rel h r hS) (hs.rel r hS) herr) ?_)
      rintro ρ wa2 v2 wb2 r he hb rfl
      replace hw := hw.tr hb
      replace h := RatMR.past (iv' := (wa2.heap.size, wb2.heap.size) :: iv1) h r hS he fun x hx => List.mem_cons_of_mem _ hx
      replace hs := hs.past (iv' := (wa2.heap.size, wb2.heap.size) :: iv1) r hS he fun x hx => List.mem_cons_of_mem _ hx
      clear r he hb
      generalize (wa2.heap.size, wb2.heap.size) :: iv1 = iv2 at *
      conv => whnf
      refine callE_S (callE_con (Φ := fun _ w' v w2 => ∃ vk, v = .tuple #[vk, .int .i64 0] ∧ RatMC w2 (Nw (fun _ => False) w' w2) vk (kernelTo (reduceF (valsM M) (colsM M)).1 (reduceF (valsM M) (colsM M)).2 (colsM M) (colsM M))) (fun ρ w' r => KernelOk_c (Rel.old r hS) (RatMR.rel h r hS) (hs.rel r hS) herr) ?_)
      rintro ρ wa3 v3 wb3 r he hb ⟨vk, rfl, k1⟩
      replace hw := hw.tr hb
      replace h := RatMR.past (iv' := (wa3.heap.size, wb3.heap.size) :: iv2) h r hS he fun x hx => List.mem_cons_of_mem _ hx
      replace hs := hs.past (iv' := (wa3.heap.size, wb3.heap.size) :: iv2) r hS he fun x hx => List.mem_cons_of_mem _ hx
      have hk := RatMC.got (S := fun _ => False) k1 r.baseLe (iv := (wa3.heap.size, wb3.heap.size) :: iv2) List.mem_cons_self
      clear r he hb
      generalize (wa3.heap.size, wb3.heap.size) :: iv2 = iv3 at *
      clear k1
      obtain ⟨ak, ck, rfl, hck, -⟩ := SlicesR.shape hk
      conv => whnf
      refine callE_S (callE_con (Φ := fun _ w' v w2 => v = .int .i64 0) (fun ρ w' r => (show ((errM M : Nat) : Int) = 0 by rw [herr]; rfl) ▸ rCheckMatrix_c (Rel.old r hS) (RatMR.rel h r hS)) ?_)
      rintro ρ wa4 v4 wb4 r he hb rfl
      replace hw := hw.tr hb
      replace h := RatMR.past (iv' := (wa4.heap.size, wb4.heap.size) :: iv3) h r hS he fun x hx => List.mem_cons_of_mem _ hx
      replace hs := hs.past (iv' := (wa4.heap.size, wb4.heap.size) :: iv3) r hS he fun x hx => List.mem_cons_of_mem _ hx
      replace hk := RatMC.past (iv' := (wa4.heap.size, wb4.heap.size) :: iv3) hk r (oldF w) he fun x hx => List.mem_cons_of_mem _ hx
      clear r he hb
      generalize (wa4.heap.size, wb4.heap.size) :: iv3 = iv4 at *
      conv => whnf
      refine callE_S (callE_con (Φ := fun _ w' v w2 => v = .int .i64 (reduceF (valsM M) (colsM M)).2.length) (fun ρ w' r => rRank_c (Rel.old r hS) (RatMR.rel h r hS) (hs.rel r hS).2.2.1 hall (by omega) (by omega) hht (by decide) (by omega)) ?_)
      rintro ρ wa5 v5 wb5 r he hb rfl
      replace hw := hw.tr hb
      replace h := RatMR.past (iv' := (wa5.heap.size, wb5.heap.size) :: iv4) h r hS he fun x hx => List.mem_cons_of_mem _ hx
      replace hs := hs.past (iv' := (wa5.heap.size, wb5.heap.size) :: iv4) r hS he fun x hx => List.mem_cons_of_mem _ hx
      replace hk := RatMC.past (iv' := (wa5.heap.size, wb5.heap.size) :: iv4) hk r (oldF w) he fun x hx => List.mem_cons_of_mem _ hx
      clear r he hb
      generalize (wa5.heap.size, wb5.heap.size) :: iv4 = iv5 at *
      conv => whnf
      refine BrS.mk (fun _ => ?_) (fun hne => by simp at hne)
      conv => whnf
      refine callE_S (callE_con (Φ := fun _ w' v w2 => RatMC w2 (Nw (fun _ => False) w' w2) v (kernelTo (reduceF (valsM M) (colsM M)).1 (reduceF (valsM M) (colsM M)).2 (colsM M) (colsM M))) (fun ρ w' r => rKernel_c (Rel.old r hS) (RatMR.rel h r hS) (hs.rel r hS).2.2.1 hall (by omega) (by omega) hht (by decide) (by omega)) ?_)
      rintro ρ wa6 v6 wb6 r he hb k1
      replace hw := hw.tr hb
      replace h := RatMR.past (iv' := (wa6.heap.size, wb6.heap.size) :: iv5) h r hS he fun x hx => List.mem_cons_of_mem _ hx
      replace hs := hs.past (iv' := (wa6.heap.size, wb6.heap.size) :: iv5) r hS he fun x hx => List.mem_cons_of_mem _ hx
      replace hk := RatMC.past (iv' := (wa6.heap.size, wb6.heap.size) :: iv5) hk r (oldF w) he fun x hx => List.mem_cons_of_mem _ hx
      have hk2 := RatMC.got (S := fun _ => False) k1 r.baseLe (iv := (wa6.heap.size, wb6.heap.size) :: iv5) List.mem_cons_self
      clear r he hb
      generalize (wa6.heap.size, wb6.heap.size) :: iv5 = iv6 at *
      clear k1
      obtain ⟨ak2, ck2, rfl, hck2, -⟩ := SlicesR.shape hk2
      conv => whnf
      refine callE_S (callE_con (Φ := fun _ w' v w2 => v = .bool true) (fun ρ w' r => ?_) ?_)
      · have h := sameLists_c (Rel.old r (oldF w)) (RatMC.rel hk r (oldF w)) (RatMC.rel hk2 r (oldF w))
        rw [decide_eq_true rfl] at h
        exact h
      rintro ρ wa7 v7 wb7 r he hb rfl
      replace hw := hw.tr hb
      replace h := RatMR.past (iv' := (wa7.heap.size, wb7.heap.size) :: iv6) h r hS he fun x hx => List.mem_cons_of_mem _ hx
      replace hs := hs.past (iv' := (wa7.heap.size, wb7.heap.size) :: iv6) r hS he fun x hx => List.mem_cons_of_mem _ hx
      clear hk
      clear hk2
      clear r he hb
      generalize (wa7.heap.size, wb7.heap.size) :: iv6 = iv7 at *
      conv => whnf
      refine ⟨((colsM M : Nat) : Int), by rw [wrap64] <;> omega, ?_⟩
      conv => whnf
      refine callE_S (callE_con (Φ := fun _ w' v w2 => v = .int .i64 (colsM M)) (fun ρ w' r => rColumns_c (Rel.old r hS) (RatMR.rel h r hS)) ?_)
      rintro ρ wa8 v8 wb8 r he hb rfl
      replace hw := hw.tr hb
      replace h := RatMR.past (iv' := (wa8.heap.size, wb8.heap.size) :: iv7) h r hS he fun x hx => List.mem_cons_of_mem _ hx
      replace hs := hs.past (iv' := (wa8.heap.size, wb8.heap.size) :: iv7) r hS he fun x hx => List.mem_cons_of_mem _ hx
      clear r he hb
      generalize (wa8.heap.size, wb8.heap.size) :: iv7 = iv8 at *
      conv => whnf
      refine BrS.mk (fun _ => ?_) (fun hne => by simp at hne)
      conv => whnf
      refine callE_S (callE_con (Φ := fun _ w' v w2 => v = .bool true) (fun ρ w' r => awake_c w') ?_)
      rintro ρ wa9 v9 wb9 r he hb rfl
      replace hw := hw.tr hb
      replace h := RatMR.past (iv' := (wa9.heap.size, wb9.heap.size) :: iv8) h r hS he fun x hx => List.mem_cons_of_mem _ hx
      replace hs := hs.past (iv' := (wa9.heap.size, wb9.heap.size) :: iv8) r hS he fun x hx => List.mem_cons_of_mem _ hx
      clear r he hb
      generalize (wa9.heap.size, wb9.heap.size) :: iv8 = iv9 at *
      conv => whnf
      intro ρe we re
      exact ⟨_, rfl, hw.tr re.bel, rfl⟩
    refine callE_S (callE_con (Φ := fun _ w' v w2 => v = .tuple #[.int .i64 0, .int .i64 (errM M)]) (fun ρ w' r => RankBad_c (Rel.old r hS) (RatMR.rel h r hS) herr) ?_)
    rintro ρ wa2 v2 wb2 r he hb rfl
    replace hw := hw.tr hb
    replace h := RatMR.past (iv' := (wa2.heap.size, wb2.heap.size) :: iv1) h r hS he fun x hx => List.mem_cons_of_mem _ hx
    replace hs := hs.past (iv' := (wa2.heap.size, wb2.heap.size) :: iv1) r hS he fun x hx => List.mem_cons_of_mem _ hx
    clear r he hb
    generalize (wa2.heap.size, wb2.heap.size) :: iv1 = iv2 at *
    conv => whnf
    refine callE_S (callE_con (Φ := fun _ w' v w2 => v = .tuple #[.slice none 0 0, .int .i64 (errM M)]) (fun ρ w' r => KernelBad_c (Rel.old r hS) (RatMR.rel h r hS) herr) ?_)
    rintro ρ wa3 v3 wb3 r he hb rfl
    replace hw := hw.tr hb
    replace h := RatMR.past (iv' := (wa3.heap.size, wb3.heap.size) :: iv2) h r hS he fun x hx => List.mem_cons_of_mem _ hx
    replace hs := hs.past (iv' := (wa3.heap.size, wb3.heap.size) :: iv2) r hS he fun x hx => List.mem_cons_of_mem _ hx
    clear r he hb
    generalize (wa3.heap.size, wb3.heap.size) :: iv2 = iv3 at *
    conv => whnf
    refine callE_S (callE_con (Φ := fun _ w' v w2 => v = .int .i64 (errM M)) (fun ρ w' r => rCheckMatrix_c (Rel.old r hS) (RatMR.rel h r hS)) ?_)
    rintro ρ wa4 v4 wb4 r he hb rfl
    replace hw := hw.tr hb
    replace h := RatMR.past (iv' := (wa4.heap.size, wb4.heap.size) :: iv3) h r hS he fun x hx => List.mem_cons_of_mem _ hx
    replace hs := hs.past (iv' := (wa4.heap.size, wb4.heap.size) :: iv3) r hS he fun x hx => List.mem_cons_of_mem _ hx
    clear r he hb
    generalize (wa4.heap.size, wb4.heap.size) :: iv3 = iv4 at *
    conv => whnf
    refine BrS.mk (fun _ => ?_) (fun hne => absurd (Int.ofNat.inj (show ((errM M : Nat) : Int) = ((0 : Nat) : Int) by simpa using hne)) herr)
    conv => whnf
    refine BrS.mk (fun _ => ?_) (fun hne => by simp at hne)
    conv => whnf
    refine BrS.mk (fun _ => ?_) (fun hne => by simp at hne)
    conv => whnf
    refine callE_S (callE_con (Φ := fun _ w' v w2 => v = .bool true) (fun ρ w' r => awake_c w') ?_)
    rintro ρ wa5 v5 wb5 r he hb rfl
    replace hw := hw.tr hb
    replace h := RatMR.past (iv' := (wa5.heap.size, wb5.heap.size) :: iv4) h r hS he fun x hx => List.mem_cons_of_mem _ hx
    replace hs := hs.past (iv' := (wa5.heap.size, wb5.heap.size) :: iv4) r hS he fun x hx => List.mem_cons_of_mem _ hx
    clear r he hb
    generalize (wa5.heap.size, wb5.heap.size) :: iv4 = iv5 at *
    conv => whnf
    intro ρe we re
    exact ⟨_, rfl, hw.tr re.bel, rfl⟩
end Go.Ex
