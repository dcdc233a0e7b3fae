/- A part of the proof of TopFewestHandlings: contracts of functions of package erection, part 1. Their conditions stand in the theorems. -/
import Derived.Test.YtbkpmaflldbfeaaSx14
import Derived.KernelRfl
import Derived.Test.YtbkpmaflldbfeaaEr0
namespace Go.Er
open Go Go.Sx Go.Proofs

theorem within_c (n lo hi : Int) (w : World) : Con Try.prog 23 #[.int .i64 n, .int .i64 lo, .int .i64 hi] w (fun e w2 => ∃ v, e = .returned v ∧ Ext w w2 ∧ v = .bool (decide (lo ≤ n) && decide (n ≤ hi))) := by
  refine ⟨ent23, calls_f Try.func23 (by rfl) (by simp) (by rfl) ?_⟩
  conv => whnf
  refine BrS.mk (fun h => ?_) (fun h => ?_)
  · conv => whnf
    intro ρ w' r
    refine ⟨_, rfl, r.bel, ?_⟩
    have h : lo ≤ n := by simpa using h
    simp [SV.den, At.den, h]
  · conv => whnf
    intro ρ w' r
    refine ⟨_, rfl, r.bel, ?_⟩
    have h : ¬ lo ≤ n := by simpa using h
    simp [SV.den, At.den, h]

/-- a slice of integers, below B -/
structure IntsB (w : World) (B : Nat) (a : Option Addr) (n : Nat) (xs : List Int) : Prop where
  len : n = xs.length
  le : n ≤ 9223372036854775807
  cell : ∀ j x, xs[j]? = some x → ∃ ad, a = some ad ∧ CellB w B (ad.add j) (.int .i64 x)
theorem IntsB.bel {w w2 : World} {B : Nat} {a : Option Addr} {n : Nat} {xs : List Int} (h : IntsB w B a n xs) (k : Bel B w w2) : IntsB w2 B a n xs :=
  ⟨h.len, h.le, fun j x hx => by obtain ⟨ad, h1, h2⟩ := h.cell j x hx; exact ⟨ad, h1, h2.bel k⟩⟩

def risingB : List Int → Bool
  | [] => true
  | [_] => true
  | a :: b :: r => decide (a < b) && risingB (b :: r)
theorem risingB_true : ∀ {xs : List Int}, (∀ j x y, xs[j]? = some x → xs[j + 1]? = some y → x < y) → risingB xs = true
  | [], _ => rfl
  | [_], _ => rfl
  | a :: b :: r, h => by
    simp only [risingB, Bool.and_eq_true, decide_eq_true_eq]
    exact ⟨h 0 a b rfl rfl, risingB_true (fun j x y hx hy => h (j + 1) x y (by simpa using hx) (by simpa using hy))⟩
theorem risingB_false : ∀ {xs : List Int} {j : Nat} {x y : Int}, xs[j]? = some x → xs[j + 1]? = some y → y ≤ x → risingB xs = false
  | [], _, _, _, h, _, _ => by simp at h
  | [_], j, _, _, _, h, _ => by simp at h
  | a :: b :: r, 0, x, y, h1, h2, h => by
    simp at h1 h2; subst h1; subst h2
    simp only [risingB, Bool.and_eq_false_iff, decide_eq_false_iff_not]
    left; omega
  | a :: b :: r, j + 1, x, y, h1, h2, h => by
    simp only [risingB, Bool.and_eq_false_iff]
    right
    exact risingB_false (j := j) (by simpa using h1) (by simpa using h2) h

theorem rising_c (a : Option Addr) (n c : Nat) (xs : List Int) (w : World) (hI : IntsB w w.heap.size a n xs) : Con Try.prog 32 #[.slice a n c] w (fun e w2 => ∃ v, e = .returned v ∧ Ext w w2 ∧ v = .bool (risingB xs)) := by
  refine ⟨ent32, calls_f Try.func32 (by rfl) (by simp) (by rfl) ?_⟩
  conv => whnf
  refine ⟨Nat, fun i => ⟨[(0, .o (.v (.slice a n c))), (5, .o (.v (.int .i64 n))), (6, .o (.v (.int .i64 i)))], [], 0, [], w⟩, fun i => n - i,
    fun i => i ≤ n ∧ ∀ j x y, j + 1 < i → xs[j]? = some x → xs[j + 1]? = some y → x < y, ?_, ?_⟩
  · intro ρ w' r
    refine ⟨0, ⟨by omega, by omega⟩, Sub.of r ⟨rfl, rfl, rfl, trivial⟩ ⟨trivial, trivial, trivial, trivial⟩⟩
  · rintro i ⟨hi, hx⟩
    dsimp only
    conv => whnf
    refine BrS.mk (fun h => ?_) (fun h => ?_)
    · have h : i < n := by simpa using h
      conv => whnf
      refine drawn_of_pi hτ hmix [.x 0, .x 1, .x 2, .x 3, .x 4, .x 5, .x 6, .x 7, .x 8, .x 9, .x 10, .x 11, .x 12, .x 13] (by kernel_rfl) (by kernel_rfl) ?_
      conv => whnf
      refine BrS.mk (fun h0 => ?_) (fun h0 => ?_)
      · obtain ⟨j, rfl⟩ : ∃ j, i = j + 1 := ⟨i - 1, by have : (0 : Int) < i := by simpa using h0
                                                       omega⟩
        obtain ⟨x, hx1⟩ : ∃ x, xs[j]? = some x := ⟨_, List.getElem?_eq_getElem (by rw [← hI.len]; omega)⟩
        obtain ⟨y, hx2⟩ : ∃ x, xs[j + 1]? = some x := ⟨_, List.getElem?_eq_getElem (by rw [← hI.len]; omega)⟩
        have hle := hI.le
        obtain ⟨ad, ha, hc1⟩ := hI.cell _ _ hx1
        obtain ⟨ad', ha', hc2⟩ := hI.cell _ _ hx2
        rw [ha] at ha'; injection ha' with ha'; subst ha'
        conv => whnf
        refine ⟨j, by rw [wrap64] <;> omega, ?_⟩
        conv => whnf
        refine ⟨ad, ha, ⟨by omega, by omega⟩, ?_⟩
        conv => whnf
        refine ⟨_, (by simpa using hc1.rel), ?_⟩
        conv => whnf
        refine ⟨ad, ha, ⟨by omega, by omega⟩, ?_⟩
        conv => whnf
        refine ⟨_, (by simpa using hc2.rel), ?_⟩
        conv => whnf
        refine BrS.mk (fun h1 => ?_) (fun h1 => ?_)
        · conv => whnf
          intro ρ w' r
          refine ⟨_, rfl, r.bel, ?_⟩
          rw [risingB_false hx1 hx2 (by simpa using h1)]
          rfl
        · conv => whnf
          refine ⟨(j + 1 + 1 : Nat), by rw [wrap64] <;> omega, ?_⟩
          conv => whnf
          intro ρ w' r
          refine ⟨j + 1 + 1, ⟨by omega, fun k x' y' hk h2 h3 => ?_⟩, Sub.of r ⟨rfl, rfl, rfl, trivial⟩ ⟨trivial, trivial, trivial, trivial⟩, by omega⟩
          by_cases hkj : k = j
          · subst hkj
            rw [hx1] at h2; injection h2 with h2
            rw [hx2] at h3; injection h3 with h3
            have : ¬ x ≥ y := by simpa using h1
            omega
          · exact hx k x' y' (by omega) h2 h3
      · have h0 : i = 0 := by have : ¬ (0 : Int) < i := by simpa using h0
                              omega
        subst h0
        have hle := hI.le
        conv => whnf
        refine ⟨(1 : Nat), by rw [wrap64] <;> omega, ?_⟩
        conv => whnf
        intro ρ w' r
        exact ⟨1, ⟨by omega, fun k x' y' hk h2 h3 => by omega⟩, Sub.of r ⟨rfl, rfl, rfl, trivial⟩ ⟨trivial, trivial, trivial, trivial⟩, by omega⟩
    · conv => whnf
      intro ρ w' r
      refine ⟨_, rfl, r.bel, ?_⟩
      have h : i = n := by have : ¬ i < n := by simpa using h
                           omega
      rw [risingB_true]
      · rfl
      · intro j x y h1 h2
        refine hx j x y ?_ h1 h2
        have := (List.getElem?_eq_some_iff.1 h2).1
        rw [h, hI.len]; exact this
end Go.Er
