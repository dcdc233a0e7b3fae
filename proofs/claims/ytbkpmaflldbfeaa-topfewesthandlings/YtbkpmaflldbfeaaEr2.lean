/- A part of the proof of TopFewestHandlings: contracts of functions of package erection, part 2. Their conditions stand in the theorems. -/
import Derived.Test.YtbkpmaflldbfeaaEr1
namespace Go.Er
open Go Go.Sx Go.Proofs

/-- the first place whose element is so, or -1 -/
def idxF (p : Int → Bool) : List Int → Int
  | [] => -1
  | x :: r => if p x then 0 else if idxF p r < 0 then -1 else idxF p r + 1
theorem idxF_none {p : Int → Bool} : ∀ {xs : List Int}, (∀ (j : Nat) (x : Int), xs[j]? = some x → p x = false) → idxF p xs = -1
  | [], _ => rfl
  | x :: r, h => by
    have h0 := h 0 x rfl
    have ih := idxF_none (xs := r) (fun j y hy => h (j + 1) y (by simpa using hy))
    simp [idxF, h0, ih]
theorem idxF_some {p : Int → Bool} : ∀ {xs : List Int} {i : Nat} {x : Int}, xs[i]? = some x → p x = true → (∀ (j : Nat) (y : Int), j < i → xs[j]? = some y → p y = false) → idxF p xs = i
  | [], _, _, h, _, _ => by simp at h
  | a :: r, 0, x, h, hp, _ => by
    simp at h; subst h
    simp [idxF, hp]
  | a :: r, i + 1, x, h, hp, hn => by
    have h0 := hn 0 a (by omega) rfl
    have ih := idxF_some (xs := r) (i := i) (x := x) (by simpa using h) hp (fun j y hj hy => hn (j + 1) y (by omega) (by simpa using hy))
    simp only [idxF, h0, ih]
    simp
    omega
theorem idxF_any {p : Int → Bool} (xs : List Int) : decide (idxF p xs ≥ 0) = xs.any p := by
  induction xs with
  | nil => rfl
  | cons x r ih =>
    simp only [idxF, List.any_cons, ← ih]
    by_cases hp : p x
    · simp [hp]
    · by_cases hi : idxF p r < 0
      · simp [hp, hi]
      · simp only [hp, hi]
        simp
        omega

theorem indexFunc_c (a : Option Addr) (n c : Nat) (xs : List Int) (g : Nat) (caps : Array Value) (p : Int → Bool) (w : World) (hI : IntsB w w.heap.size a n xs)
    (hf : ∀ x ∈ xs, ∀ w1, Ext w w1 → Con Try.prog g (#[.int .i64 x] ++ caps) w1 (Ret w1 fun v _ => v = .bool (p x))) :
    Con Try.prog 33 #[.slice a n c, .func (.func g) #[] caps] w (Ret w fun v _ => v = .int .i64 (idxF p xs)) := by
  refine ⟨ent33, calls_f Try.func33 (by rfl) (by simp) (by rfl) ?_⟩
  conv => whnf
  refine ⟨Nat × World, fun x => ⟨[(0, .o (.v (.slice a n c))), (1, .o (.v (.func (.func g) #[] caps))), (7, .o (.v (.int .i64 n))), (8, .o (.v (.int .i64 x.1)))], [], 0, [], x.2⟩, fun x => n - x.1,
    fun x => x.1 ≤ n ∧ Ext w x.2 ∧ ∀ j y, j < x.1 → xs[j]? = some y → p y = false, ?_, ?_⟩
  · intro ρ w' r
    exact ⟨(0, w'), ⟨by simp, r.bel, by simp⟩, Sub.reset r ⟨rfl, rfl, rfl, rfl, trivial⟩ ⟨trivial, trivial, trivial, trivial, trivial⟩⟩
  · rintro ⟨i, w1⟩ ⟨hi, hw, hx⟩
    dsimp only at hi hw hx ⊢
    conv => whnf
    refine BrS.mk (fun h => ?_) (fun h => ?_)
    · have h : i < n := by simpa using h
      obtain ⟨x, hx1⟩ : ∃ x, xs[i]? = some x := ⟨_, List.getElem?_eq_getElem (by rw [← hI.len]; omega)⟩
      have hle := hI.le
      obtain ⟨ad, ha, hc1⟩ := hI.cell _ _ hx1
      conv => whnf
      refine ⟨ad, ha, ⟨by omega, by omega⟩, ?_⟩
      conv => whnf
      refine ⟨_, (by simpa using (hc1.bel hw).rel), ?_⟩
      conv => whnf
      refine callE_S (callE_con (Φ := fun _ _ v _ => v = .bool (p x)) (fun ρ w' r => ?_) ?_)
      · have := hf x (List.mem_of_getElem? hx1) w' (hw.tr r.bel)
        simpa [densOf, SV.den, At.den] using this
      · rintro ρ w' v w2 r he hb rfl
        conv => whnf
        refine BrS.mk (fun hp => ?_) (fun hp => ?_)
        · conv => whnf
          intro ρ' w3 r'
          refine ⟨_, rfl, (hw.tr hb).tr r'.bel, ?_⟩
          rw [idxF_some hx1 hp hx]
          rfl
        · conv => whnf
          refine ⟨(i + 1 : Nat), by rw [wrap64] <;> omega, ?_⟩
          conv => whnf
          intro ρ' w3 r'
          refine ⟨(i + 1, w3), ⟨by simp; omega, (hw.tr hb).tr r'.bel, fun k y hk hy => ?_⟩, Sub.reset r' ⟨rfl, rfl, rfl, rfl, trivial⟩ ⟨trivial, trivial, trivial, trivial, trivial⟩, by simp; omega⟩
          by_cases hki : k = i
          · subst hki; rw [hx1] at hy; injection hy with hy; subst hy; exact hp
          · exact hx k y (by simp at hk; omega) hy
    · conv => whnf
      intro ρ' w3 r'
      refine ⟨_, rfl, hw.tr r'.bel, ?_⟩
      have : i = n := by have : ¬ i < n := by simpa using h
                         omega
      subst this
      rw [idxF_none]
      · rfl
      · intro j y hy
        refine hx j y ?_ hy
        have := (List.getElem?_eq_some_iff.1 hy).1
        rw [hI.len]; exact this

theorem containsFunc_c (a : Option Addr) (n c : Nat) (xs : List Int) (g : Nat) (caps : Array Value) (p : Int → Bool) (w : World) (hI : IntsB w w.heap.size a n xs)
    (hf : ∀ x ∈ xs, ∀ w1, Ext w w1 → Con Try.prog g (#[.int .i64 x] ++ caps) w1 (Ret w1 fun v _ => v = .bool (p x))) :
    Con Try.prog 25 #[.slice a n c, .func (.func g) #[] caps] w (Ret w fun v _ => v = .bool (xs.any p)) := by
  refine ⟨ent25, calls_f Try.func25 (by rfl) (by simp) (by rfl) ?_⟩
  conv => whnf
  refine callE_S (callE_con (Φ := fun _ _ v _ => v = .int .i64 (idxF p xs)) (fun ρ w' r => ?_) ?_)
  · exact indexFunc_c a n c xs g caps p w' ⟨hI.len, hI.le, fun j x hx => by obtain ⟨ad, h1, h2⟩ := hI.cell j x hx; exact ⟨ad, h1, by have := r.size; have := h2.1; omega, (h2.bel r.bel).2⟩⟩ (fun x hx w1 hw => hf x hx w1 (r.bel.tr (hw.bel r.size)))
  · rintro ρ w' v w2 r he hb rfl
    conv => whnf
    intro ρ' w3 r'
    refine ⟨_, rfl, hb.tr r'.bel, ?_⟩
    rw [← idxF_any]
    rfl
end Go.Er
