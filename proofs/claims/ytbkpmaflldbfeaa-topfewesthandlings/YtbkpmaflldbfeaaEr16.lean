/- A part of the proof of TopFewestHandlings: contracts of functions of package erection, part 16. Their conditions stand in the theorems. -/
import Derived.Test.YtbkpmaflldbfeaaEr15
namespace Go.Er
open Go Go.Sx Go.Proofs

/-- few tasks, with few needs and short names -/
def fewGo : List Tk → Bool
  | [] => true
  | t :: r => match decide ((t.needs.length : Int) > 30) || (decide ((t.name.size : Int) > 30) || decide ((t.trade.size : Int) > 30)) with
    | true => false
    | false => fewGo r
def fewF (ts : List Tk) (m : Int) : Bool := match decide ((ts.length : Int) > m) with
  | true => false
  | false => fewGo ts
theorem fewGo_sml : ∀ {ts : List Tk}, fewGo ts = true → ∀ t ∈ ts, t.needs.length ≤ 30
  | [], _, t, ht => by cases ht
  | u :: r, h, t, ht => by
    unfold fewGo at h
    split at h
    · cases h
    · rename_i h1
      rcases List.mem_cons.1 ht with rfl | ht
      · simp at h1; omega
      · exact fewGo_sml h t ht
theorem fewF_sml {ts : List Tk} (h : fewF ts 8 = true) : Sml ts := by
  unfold fewF at h
  split at h
  · cases h
  · rename_i h1
    exact ⟨by simp at h1; omega, fewGo_sml h⟩
theorem few_c (a : Option Addr) (n c : Nat) (m : Int) (ts : List Tk) (w : World) (hT : TasksB w w.heap.size a n ts) :
    Con Try.prog 5 #[.slice a n c, .int .i64 m] w (Ret w fun v _ => v = .bool (fewF ts m)) := by
  have hle := hT.le
  have hlen := hT.len
  refine ⟨ent5, calls_f Try.func5 (by rfl) (by simp) (by rfl) ?_⟩
  conv => whnf
  refine BrS.mk (fun h => ?_) (fun h => ?_)
  · conv => whnf
    intro ρ w3 r
    rw [hlen] at h
    exact ⟨_, rfl, r.bel, by rw [fewF, h]; rfl⟩
  · rw [hlen] at h
    have hF0 : fewF ts m = fewGo ts := by rw [fewF, h]
    conv => whnf
    refine ⟨Nat × World, fun x => ⟨[(0, .o (.v (.slice a n c))), (5, .o (.v (.int .i64 x.1)))], [], 0, [], x.2⟩, fun x => n - x.1,
      fun x => x.1 ≤ n ∧ Bel w.heap.size w x.2 ∧ fewF ts m = fewGo (ts.drop x.1), ?_, ?_⟩
    · intro ρ w' r
      exact ⟨(0, w'), ⟨by simp, r.bel, by simpa using hF0⟩, Sub.reset r ⟨rfl, rfl, trivial⟩ ⟨trivial, trivial, trivial⟩⟩
    · rintro ⟨i, w1⟩ ⟨hi, hw, hF⟩
      dsimp only at hi hw hF ⊢
      conv => whnf
      refine BrS.mk (fun h => ?_) (fun h => ?_)
      · have h : i < n := by simpa using h
        obtain ⟨t, ht⟩ : ∃ t, ts[i]? = some t := ⟨_, List.getElem?_eq_getElem (by omega)⟩
        obtain ⟨ad, ha, hload⟩ := hT.load hw ht
        have hnn := (hT.needs i t ht).len
        have hdrop : ts.drop i = t :: ts.drop (i + 1) := by
          have hlt : i < ts.length := by omega
          rw [List.drop_eq_getElem_cons hlt]
          rw [List.getElem?_eq_getElem hlt] at ht
          injection ht with ht
          rw [ht]
        rw [hdrop, fewGo, ← hnn] at hF
        conv => whnf
        refine ⟨ad, ha, ⟨by omega, by omega⟩, ?_⟩
        conv => whnf
        refine ⟨.slice t.na t.nn t.nc, fun ρ w' r => by simpa using hload _ _ _ ρ w' r 5 _ rfl, ?_⟩
        conv => whnf
        refine BrS.mk (fun h1 => ?_) (fun h1 => ?_)
        · rw [h1, Bool.true_or] at hF
          conv => whnf
          intro ρ w3 r
          exact ⟨_, rfl, hw.tr r.bel, by rw [hF]; rfl⟩
        rw [h1, Bool.false_or] at hF
        conv => whnf
        refine ⟨ad, ha, ⟨by omega, by omega⟩, ?_⟩
        conv => whnf
        refine ⟨.string t.name, fun ρ w' r => by simpa using hload _ _ _ ρ w' r 0 _ rfl, ?_⟩
        conv => whnf
        refine BrS.mk (fun h1 => ?_) (fun h1 => ?_)
        · rw [h1, Bool.true_or] at hF
          conv => whnf
          intro ρ w3 r
          exact ⟨_, rfl, hw.tr r.bel, by rw [hF]; rfl⟩
        rw [h1, Bool.false_or] at hF
        conv => whnf
        refine ⟨ad, ha, ⟨by omega, by omega⟩, ?_⟩
        conv => whnf
        refine ⟨.string t.trade, fun ρ w' r => by simpa using hload _ _ _ ρ w' r 1 _ rfl, ?_⟩
        conv => whnf
        refine BrS.mk (fun h1 => ?_) (fun h1 => ?_)
        · rw [h1] at hF
          conv => whnf
          intro ρ w3 r
          exact ⟨_, rfl, hw.tr r.bel, by rw [hF]; rfl⟩
        rw [h1] at hF
        conv => whnf
        refine ⟨(i + 1 : Nat), by rw [wrap64] <;> omega, ?_⟩
        conv => whnf
        intro ρ3 w3 r3
        exact ⟨(i + 1, w3), ⟨by simp; omega, hw.tr r3.bel, hF⟩, Sub.reset r3 ⟨rfl, rfl, trivial⟩ ⟨trivial, trivial, trivial⟩, by simp; omega⟩
      · have hin : i = n := by have : ¬ i < n := by simpa using h
                               omega
        have hd : ts.drop i = [] := by rw [List.drop_eq_nil_iff]; omega
        rw [hd, fewGo] at hF
        conv => whnf
        intro ρ w3 r
        exact ⟨_, rfl, hw.tr r.bel, by rw [hF]; rfl⟩
end Go.Er
