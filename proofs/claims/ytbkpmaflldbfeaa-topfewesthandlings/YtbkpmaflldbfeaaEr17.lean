/- A part of the proof of TopFewestHandlings: contracts of functions of package erection, part 17. Their conditions stand in the theorems. -/
import Derived.Test.YtbkpmaflldbfeaaEr16
namespace Go.Er
open Go Go.Sx Go.Proofs

def placeOf (ts : List Tk) (x : Int) : Int := ((ts[x.toNat]?).map Tk.place).getD 0
/-- whether a task is handled at another place than the last one; there is no last one below 0 -/
def mv (ts : List Tk) (last x : Int) : Int := match decide (last ≥ 0) && (placeOf ts last != placeOf ts x) with
  | true => 1
  | false => 0
def cost (ts : List Tk) : Int → List Int → Int
  | _, [] => 0
  | last, x :: r => mv ts last x + cost ts x r
noncomputable def handF (ts : List Tk) (order : List Int) : Int × Int := if (accF ts order).2 = 0 then (cost ts (-1) order, 0) else (0, (accF ts order).2)

theorem acceptGo_ok {ts : List Tk} : ∀ {os : List Int} {i : Nat} {bs : List Bool}, (acceptGo ts os i bs).2 = 0 → ∀ x ∈ os, 0 ≤ x ∧ x < ts.length
  | [], _, _, _, x, hx => by cases hx
  | y :: r, i, bs, h, x, hx => by
    unfold acceptGo at h
    split at h
    · cases h
    · rename_i h1
      split at h
      · cases h
      · split at h
        · cases h
        · rcases List.mem_cons.1 hx with rfl | hx
          · simp [outB] at h1; omega
          · exact acceptGo_ok h x hx
theorem accF_ok {ts : List Tk} {os : List Int} (h : (accF ts os).2 = 0) : checkF ts = 0 ∧ acceptF ts os = accF ts os := by
  unfold accF at h ⊢
  split at h
  · rename_i h1; exact ⟨h1, by rw [if_pos h1]⟩
  · rename_i h1; exact absurd h h1
theorem mv_range (ts : List Tk) (a b : Int) : 0 ≤ mv ts a b ∧ mv ts a b ≤ 1 := by
  unfold mv
  split <;> simp
theorem cost_range (ts : List Tk) : ∀ (os : List Int) (a : Int), 0 ≤ cost ts a os ∧ cost ts a os ≤ os.length
  | [], a => by simp [cost]
  | x :: r, a => by
    have h1 := mv_range ts a x
    have h2 := cost_range ts r x
    simp only [cost, List.length_cons]
    omega

theorem hand_c (a a2 : Option Addr) (n c n2 c2 : Nat) (ts : List Tk) (order : List Int) (w : World) (hT : TasksB w w.heap.size a n ts) (hO : IntsB w w.heap.size a2 n2 order) (hS : Sml ts) :
    Con Try.prog 6 #[.slice a n c, .slice a2 n2 c2] w (Ret w fun v _ => v = .tuple #[.int .i64 (handF ts order).1, .int .i64 (handF ts order).2]) := by
  have hle := hT.le
  have hlen := hT.len
  have hle2 := hO.le
  have hlen2 := hO.len
  refine ⟨ent6, calls_f Try.func6 (by rfl) (by simp) (by rfl) ?_⟩
  conv => whnf
  refine callE_S (callE_con (Φ := fun _ _ v _ => v = .tuple #[.int .i64 (accF ts order).1, .int .i64 (accF ts order).2]) (fun ρ w' r => acc_c a a2 n c n2 c2 ts order w' (hT.up r.bel r.size) (hO.up r.bel r.size) hS) ?_)
  rintro ρ w' v w2 r he hb rfl
  conv => whnf
  refine BrS.mk (fun h1 => ?_) (fun h1 => ?_)
  · have h1 : (accF ts order).2 ≠ 0 := by simpa using h1
    conv => whnf
    intro ρ w3 r
    exact ⟨_, rfl, hb.tr r.bel, by rw [handF, if_neg h1]; rfl⟩
  · have h1 : (accF ts order).2 = 0 := by simpa using h1
    have hrng : ∀ x ∈ order, 0 ≤ x ∧ x < ts.length := by
      have := (accF_ok h1).2
      exact acceptGo_ok (i := 0) (bs := List.replicate ts.length false) (by rw [← acceptF, this]; exact h1)
    conv => whnf
    refine ⟨Nat × Int × Int × World, fun x => ⟨[(0, .o (.v (.slice a n c))), (1, .o (.v (.slice a2 n2 c2))), (8, .o (.v (.int .i64 x.2.1))), (20, .o (.v (.slice a2 n2 c2))), (21, .o (.v (.int .i64 n2))), (22, .o (.v (.int .i64 x.1)))], [], 0, [], x.2.2.2⟩, fun x => n2 - x.1,
      fun x => x.1 ≤ n2 ∧ Bel w.heap.size w x.2.2.2 ∧ 0 ≤ x.2.1 ∧ x.2.1 ≤ x.1 ∧ cost ts (-1) order = x.2.1 + cost ts x.2.2.1 (order.drop x.1) ∧ (x.1 = 0 → x.2.2.1 = -1) ∧ (∀ k, x.1 = k + 1 → order[k]? = some x.2.2.1), ?_, ?_⟩
    · intro ρ w' r
      exact ⟨(0, 0, -1, w'), ⟨by simp, hb.tr r.bel, by simp, by simp, by simp, by simp, by simp⟩, Sub.reset r ⟨rfl, rfl, rfl, rfl, rfl, rfl, trivial⟩ ⟨trivial, trivial, trivial, trivial, trivial, trivial, trivial⟩⟩
    · rintro ⟨i, ct, last, w1⟩ ⟨hi, hw, hc0, hc1, hF, hl0, hl1⟩
      dsimp only at hi hw hc0 hc1 hF hl0 hl1 ⊢
      conv => whnf
      refine BrS.mk (fun h => ?_) (fun h => ?_)
      · have h : i < n2 := by simpa using h
        obtain ⟨x, hx⟩ : ∃ x, order[i]? = some x := ⟨_, List.getElem?_eq_getElem (by omega)⟩
        obtain ⟨ad, ha, hcx⟩ := hO.cell _ _ hx
        obtain ⟨hx0, hx1⟩ := hrng x (List.mem_of_getElem? hx)
        obtain ⟨t, ht⟩ : ∃ t, ts[x.toNat]? = some t := ⟨_, List.getElem?_eq_getElem (by omega)⟩
        have hpx : placeOf ts x = t.place := by simp [placeOf, ht]
        obtain ⟨ad1, ha1, hload⟩ := hT.load hw ht
        have hdrop : order.drop i = x :: order.drop (i + 1) := by
          have hlt : i < order.length := by omega
          rw [List.drop_eq_getElem_cons hlt]
          rw [List.getElem?_eq_getElem hlt] at hx
          injection hx with hx
          rw [hx]
        rw [hdrop, cost] at hF
        conv => whnf
        refine ⟨ad, ha, ⟨by omega, by omega⟩, ?_⟩
        conv => whnf
        refine ⟨_, (by simpa using (hcx.bel hw).rel), ?_⟩
        conv => whnf
        refine drawn_of_pi hτ hmix [.x 0, .x 1, .x 2, .x 3, .x 4, .x 5, .x 6, .x 7, .x 8, .x 9, .x 10, .x 11, .x 12, .x 13, .x 14, .x 15, .x 16, .x 17, .x 18] (by kernel_rfl) (by kernel_rfl) ?_
        conv => whnf
        refine BrS.mk (fun h2 => ?_) (fun h2 => ?_)
        · have h2 : 0 < i := by simpa using h2
          obtain ⟨k, rfl⟩ : ∃ k, i = k + 1 := ⟨i - 1, by omega⟩
          have hlast := hl1 k rfl
          obtain ⟨hy0, hy1⟩ := hrng last (List.mem_of_getElem? hlast)
          obtain ⟨t2, ht2⟩ : ∃ t, ts[last.toNat]? = some t := ⟨_, List.getElem?_eq_getElem (by omega)⟩
          have hpy : placeOf ts last = t2.place := by simp [placeOf, ht2]
          obtain ⟨ad2, ha2, hload2⟩ := hT.load hw ht2
          obtain ⟨ad0, ha0, hcy⟩ := hO.cell _ _ hlast
          have hmv : mv ts last x = match t2.place != t.place with
            | true => 1
            | false => 0 := by rw [mv, decide_eq_true hy0, Bool.true_and, hpx, hpy]
          conv => whnf
          refine ⟨(k : Int), by rw [wrap64] <;> omega, ?_⟩
          conv => whnf
          refine ⟨ad0, ha0, ⟨by omega, by omega⟩, ?_⟩
          conv => whnf
          refine ⟨.int .i64 last, (by simpa using (hcy.bel hw).rel), ?_⟩
          conv => whnf
          refine ⟨ad2, ha2, ⟨by omega, by omega⟩, ?_⟩
          conv => whnf
          refine ⟨.int .i64 t2.place, fun ρ w' r => by simpa using hload2 _ _ _ ρ w' r 3 _ rfl, ?_⟩
          conv => whnf
          refine ⟨ad1, ha1, ⟨by omega, by omega⟩, ?_⟩
          conv => whnf
          refine ⟨.int .i64 t.place, fun ρ w' r => by simpa using hload _ _ _ ρ w' r 3 _ rfl, ?_⟩
          conv => whnf
          refine BrS.mk (fun h3 => ?_) (fun h3 => ?_)
          · rw [h3] at hmv
            conv => whnf
            refine ⟨ct + 1, by rw [wrap64] <;> omega, ?_⟩
            conv => whnf
            refine ⟨((k + 1 + 1 : Nat) : Int), by rw [wrap64] <;> omega, ?_⟩
            conv => whnf
            intro ρ3 w3 r3
            exact ⟨(k + 1 + 1, ct + 1, x, w3), ⟨by simp; omega, hw.tr r3.bel, by simp; omega, by simp; omega, by dsimp only at hmv ⊢; rw [hF, hmv]; omega, by simp, fun k' hk' => by simp at hk'; subst hk'; exact hx⟩, Sub.reset r3 ⟨rfl, rfl, rfl, rfl, rfl, rfl, trivial⟩ ⟨trivial, trivial, trivial, trivial, trivial, trivial, trivial⟩, by simp; omega⟩
          · rw [h3] at hmv
            conv => whnf
            refine ⟨((k + 1 + 1 : Nat) : Int), by rw [wrap64] <;> omega, ?_⟩
            conv => whnf
            intro ρ3 w3 r3
            exact ⟨(k + 1 + 1, ct, x, w3), ⟨by simp; omega, hw.tr r3.bel, by simp; omega, by simp; omega, by dsimp only at hmv ⊢; rw [hF, hmv]; omega, by simp, fun k' hk' => by simp at hk'; subst hk'; exact hx⟩, Sub.reset r3 ⟨rfl, rfl, rfl, rfl, rfl, rfl, trivial⟩ ⟨trivial, trivial, trivial, trivial, trivial, trivial, trivial⟩, by simp; omega⟩
        · have h2 : i = 0 := by have : ¬ 0 < i := by simpa using h2
                                omega
          subst h2
          have hmv : mv ts last x = 0 := by rw [hl0 rfl]; rfl
          conv => whnf
          refine ⟨((0 + 1 : Nat) : Int), by rw [wrap64] <;> omega, ?_⟩
          conv => whnf
          intro ρ3 w3 r3
          exact ⟨(0 + 1, ct, x, w3), ⟨by simp; omega, hw.tr r3.bel, by simp; omega, by simp; omega, by dsimp only at hmv ⊢; rw [hF, hmv]; omega, by simp, fun k' hk' => by simp at hk'; subst hk'; exact hx⟩, Sub.reset r3 ⟨rfl, rfl, rfl, rfl, rfl, rfl, trivial⟩ ⟨trivial, trivial, trivial, trivial, trivial, trivial, trivial⟩, by simp; omega⟩
      · have hin : i = n2 := by have : ¬ i < n2 := by simpa using h
                                omega
        have hd : order.drop i = [] := by rw [List.drop_eq_nil_iff]; omega
        rw [hd] at hF
        have hF : cost ts (-1) order = ct := by rw [hF]; simp [cost]
        conv => whnf
        intro ρ w3 r
        exact ⟨_, rfl, hw.tr r.bel, by rw [handF, if_pos h1, hF]; rfl⟩
end Go.Er
