/- A part of the proof of TopFewestHandlings: contracts of functions of package erection, part 11. Their conditions stand in the theorems. -/
import Derived.Test.YtbkpmaflldbfeaaEr10
namespace Go.Er
open Go Go.Sx Go.Proofs

theorem addAll_count (i : Int) : ∀ (needs : List Int) (us : List (List Int)) (j : Nat) (u : List Int), (∀ q ∈ needs, 0 ≤ q) → us[j]? = some u →
    ∃ u', (addAll i needs us)[j]? = some u' ∧ ∀ k : Int, u'.count k = u.count k + (if k = i then needs.count (j : Int) else 0)
  | [], us, j, u, _, hu => ⟨u, hu, fun k => by simp⟩
  | q :: r, us, j, u, hq, hu => by
    have hq0 := hq q (by simp)
    have hr : ∀ q ∈ r, 0 ≤ q := fun x hx => hq x (by simp [hx])
    by_cases hqj : q.toNat = j
    · obtain ⟨u', h1, h2⟩ := addAll_count i r (us.modify q.toNat (fun u => u ++ [i])) j (u ++ [i]) hr (by simp [List.getElem?_modify, hqj, hu])
      refine ⟨u', h1, fun k => ?_⟩
      rw [h2, List.count_append, List.count_cons]
      have hq' : q = (j : Int) := by omega
      by_cases hk : k = i
      · subst hk; simp [hq']; omega
      · have : ¬ i = k := fun e => hk e.symm
        simp [hk, this]
    · obtain ⟨u', h1, h2⟩ := addAll_count i r (us.modify q.toNat (fun u => u ++ [i])) j u hr (by simp [List.getElem?_modify, hqj, hu])
      refine ⟨u', h1, fun k => ?_⟩
      rw [h2, List.count_cons]
      have hq' : ¬ q = (j : Int) := by omega
      simp [hq']
theorem usersGo_count : ∀ (r : List Tk) (i : Nat) (us : List (List Int)) (j : Nat) (u : List Int), (∀ t ∈ r, ∀ q ∈ t.needs, 0 ≤ q) → us[j]? = some u →
    ∃ u', (usersGo r i us)[j]? = some u' ∧ ∀ k : Int, u'.count k = u.count k + (if (i : Int) ≤ k then ((r[(k - i).toNat]?).map (fun t => t.needs.count (j : Int))).getD 0 else 0)
  | [], i, us, j, u, _, hu => ⟨u, hu, fun k => by simp⟩
  | t :: r, i, us, j, u, hq, hu => by
    obtain ⟨u1, h1, h2⟩ := addAll_count (i : Int) t.needs us j u (hq t (by simp)) hu
    obtain ⟨u', h3, h4⟩ := usersGo_count r (i + 1) _ j u1 (fun t ht => hq t (by simp [ht])) h1
    refine ⟨u', h3, fun k => ?_⟩
    rw [h4, h2]
    by_cases hk : k = i
    · subst hk
      rw [if_pos rfl, if_neg (by omega), if_pos (by omega)]
      simp
    · rw [if_neg hk]
      by_cases hk2 : (i : Int) ≤ k
      · have e : (k - (i : Int)).toNat = (k - ((i + 1 : Nat) : Int)).toNat + 1 := by omega
        rw [if_pos (by omega), if_pos hk2, e]
        simp
      · rw [if_neg (by omega), if_neg hk2]
theorem usersF_count {ts : List Tk} (hN : InRange ts) {j : Nat} (hj : j < ts.length) : ∃ u, (usersF ts)[j]? = some u ∧ (∀ k : Nat, k < ts.length → u.count (k : Int) = (needsOf ts k).count (j : Int)) ∧ ∀ y ∈ u, 0 ≤ y ∧ y < ts.length := by
  obtain ⟨u, h1, h2⟩ := usersGo_count ts 0 (List.replicate ts.length []) j [] (fun t ht q hq => (hN t ht q hq).1) (by simp [hj])
  refine ⟨u, h1, fun k hk => ?_, fun y hy => ?_⟩
  · rw [h2, if_pos (by omega)]
    simp only [needsOf, List.count_nil, Nat.zero_add, Int.toNat_natCast]
    rw [show ((k : Int) - ((0 : Nat) : Int)).toNat = k by omega]
    rw [List.getElem?_eq_getElem hk]
    simp
  · have hc := List.count_pos_iff.2 hy
    rw [h2] at hc
    by_cases h0 : ((0 : Nat) : Int) ≤ y
    · refine ⟨by omega, ?_⟩
      rw [if_pos h0] at hc
      apply Decidable.byContradiction
      intro hn
      rw [List.getElem?_eq_none (by omega)] at hc
      simp at hc
    · rw [if_neg h0] at hc
      simp at hc
end Go.Er
