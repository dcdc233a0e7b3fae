/- A part of the proof of TopFewestHandlings: contracts of functions of package erection, part 18. Their conditions stand in the theorems. -/
import Derived.Test.YtbkpmaflldbfeaaEr17
namespace Go.Er
open Go Go.Sx Go.Proofs

def flat (ts : List Tk) : List Value := (ts.map Tk.cells).flatten
theorem flat_len (ts : List Tk) : (flat ts).length = ts.length * 6 := by
  induction ts with
  | nil => rfl
  | cons t r ih => simp only [flat, List.map_cons, List.flatten_cons, List.length_append, List.length_cons] at ih ⊢; rw [ih]; simp [Tk.cells]; omega
theorem flat_get (ts : List Tk) : ∀ (j : Nat), (flat ts)[j]? = (ts[j / 6]?).bind (fun t => t.cells[j % 6]?) := by
  induction ts with
  | nil => intro j; simp [flat]
  | cons t r ih =>
    intro j
    have hl : t.cells.length = 6 := rfl
    have e : flat (t :: r) = t.cells ++ flat r := by simp [flat]
    rw [e]
    by_cases h : j < 6
    · rw [List.getElem?_append_left (by omega), Nat.div_eq_of_lt h, Nat.mod_eq_of_lt h]
      rfl
    · rw [List.getElem?_append_right (by omega), hl, ih (j - 6)]
      have h1 : j / 6 = (j - 6) / 6 + 1 := by omega
      have h2 : j % 6 = (j - 6) % 6 := by omega
      rw [h1, h2]
      rfl

/-- a copy of one's own of a plan's cells -/
structure OwnB (w : World) (B : Nat) (g n cap : Nat) (cur : List Value) (ts : List Tk) : Prop where
  low : B ≤ g
  len : n = ts.length
  row : w.heap[g]? = some (.cells cur.toArray 38 (0, 0))
  take : cur.take (n * 6) = flat ts
  size : n * 6 ≤ cur.length

theorem clone_c (ad : Addr) (n c : Nat) (ts : List Tk) (w : World) (hT : TasksB w w.heap.size (some ad) n ts) (hn : n ≤ 1000) (h0 : 0 < n) :
    Con Try.prog 27 #[.slice (some ad) n c] w (Ret w fun v w2 => ∃ g cap cur, v = .slice (some ⟨g, 0, none⟩) n cap ∧ OwnB w2 w.heap.size g n cap cur ts) := by
  refine ⟨ent27, calls_f Try.func27 (by rfl) (by simp) (by rfl) ?_⟩
  conv => whnf
  refine ⟨false, fun _ _ _ _ => by rfl, ?_⟩
  conv => whnf
  refine .inr ⟨fun ρ w' e r hev => ?_⟩
  have e1 : e (.tmp 5) = .slice (some ⟨(ρ 0).g, 0, none⟩) 0 0 := hev (.tmp 5) _ rfl
  have e2 : e (.tmp 6) = .slice (some ad) n c := hev (.tmp 6) _ rfl
  have hbox : w'.heap[(ρ 0).g]? = some (.cells #[] 38 (0, 0)) := r.box 0 38 [] rfl
  have hlow := r.low 0 _ rfl (r.nn 0 _ rfl (by intros; simp) (by simp))
  have hT' := hT.up r.bel r.size
  have hcells : ∀ (j : Nat) u, (flat ts)[j]? = some u → w'.cell? (ad.add j) = some u := fun j u hj => by
    rw [flat_get] at hj
    rw [Option.bind_eq_some_iff] at hj
    obtain ⟨t, ht, hu⟩ := hj
    obtain ⟨ad', h1, h2⟩ := hT'.cell _ t ht
    injection h1 with h1
    subst h1
    have := (h2 _ u hu).2
    rw [Addr.add_add] at this
    rwa [show j / 6 * 6 + j % 6 = j by omega] at this
  have hrun := run_append_grow (P := Try.prog) w' 22 22 38 _ _ (by rfl) (by rfl) (by rfl) ⟨(ρ 0).g, 0, none⟩ 0 0 [] (by rfl) (by simp) ad n c (flat ts) (by rw [flat_len, hT.len]; rfl) hcells (by omega) (by omega) (growslice_fits (by omega) (by show (0 + n) * 80 ≤ 140737488355328; omega))
  rw [Nat.zero_add] at hrun
  have hge := grownCap_ge w' n 0 38
  generalize grownCap w' n 0 38 = cap at hrun hge
  generalize Builtin.zeroCells (Value.agg #[.string ⟨#[]⟩, .string ⟨#[]⟩, .int .i64 0, .int .i64 0, .int .i64 0, .slice none 0 0]).cells (cap - n) = Z at hrun
  rw [show (([] : List Value).toArray ++ (flat ts).toArray ++ Z) = (flat ts ++ Z.toList).toArray by simp] at hrun
  have hnew := heap_alloc_new w'.drew (.cells (flat ts ++ Z.toList).toArray 38)
  have hold : ∀ k, k < w'.heap.size → (w'.drew.alloc (.cells (flat ts ++ Z.toList).toArray 38)).heap[k]? = w'.heap[k]? := fun k hk => heap_alloc_old w'.drew (.cells (flat ts ++ Z.toList).toArray 38) hk
  have hsz : (w'.drew.alloc (.cells (flat ts ++ Z.toList).toArray 38)).heap.size = w'.heap.size + 1 := by simp
  have hbel : Bel w.heap.size w (w'.drew.alloc (.cells (flat ts ++ Z.toList).toArray 38)) := r.bel.tr ⟨rfl, rfl, rfl, by omega, fun k hk => hold k (by have := r.size; omega)⟩
  generalize w'.drew.alloc (.cells (flat ts ++ Z.toList).toArray 38) = w2 at *
  refine ⟨.slice (some ⟨w'.heap.size, 0, none⟩) n cap, w2, [(w'.heap.size, w'.heap.size + 1)], .inl ?_, r.moved (by omega) (fun id b hb hn => hold _ (r.low id b hb hn).2) (fun lo hi hm => ?_), ?_⟩
  · simp [execOp, resolve, invoke, builtin, e1, e2, hrun]
  · simp at hm
    obtain ⟨rfl, rfl⟩ := hm
    exact ⟨by omega, fun id b hb hn he => by have := (r.low id b hb hn).2; omega⟩
  have hwl := r.size
  have hnew : w2.heap[w'.heap.size]? = some (.cells (flat ts ++ Z.toList).toArray 38 (0, 0)) := hnew
  generalize w'.heap.size = g at *
  clear hold hrun hcells hT' hlow hbox hev e1 e2 r
  conv => whnf
  intro ρ3 w3 r3
  refine ⟨_, rfl, hbel.tr r3.bel, g, cap, flat ts ++ Z.toList, rfl, hwl, hT.len, ?_, ?_, ?_⟩
  · rw [r3.frm g (by omega) fun id b hb hn he => r3.prot g (g + 1) (by simp) id b hb hn (by omega)]
    exact hnew
  · rw [List.take_append_of_le_length (by rw [flat_len, hT.len]; omega), List.take_of_length_le (by rw [flat_len, hT.len]; omega)]
  · rw [List.length_append, flat_len, hT.len]; omega
end Go.Er
