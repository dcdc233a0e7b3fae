/- putlog/putlogtop.TopFewestHandlings returns true for every input, and its arguments read behind the call as they read before. No condition. -/
import Derived.Test.YtbkpmaflldbfeaaRows
import Derived.ProofKit
import Derived.WalkKit
import Derived.OpenShut
import Derived.ShutString
import Derived.ChangeOld
import Derived.Below
import Derived.Deep.SlicePairs
import Derived.Test.YtbkpmaflldbfeaaEr29
namespace Go.Proofs.Ytbkpmaflldbfeaa
open Go.ChangeShapes Go.WideShapes Go.ChangeAt Go.RowKit Go.Deep Go.Sx

theorem own : ownKnob Try.prog.godebug = none := by kernel_rfl
theorem laidOut : laidOutB Try.prog = true := by kernel_rfl

theorem cell_lt {w : World} {a : Addr} {v : Value} (h : w.cell? a = some v) : a.block < w.heap.size := by
  apply Decidable.byContradiction
  intro hn
  have hb : w.heap[a.block]? = none := Array.getElem?_eq_none (by omega)
  unfold World.cell? at h
  rw [hb] at h
  cases h
section
variable {H : Type} {enc : TypeId × Value → H} {W : World} {sp : Nat → Bool} {hd : Bool}
theorem ints_of_cells {fuel : Nat} {cs : List Value} {x : DataW H × List MemPlace} (h : DataW.trod enc Try.prog W 0 sp hd fuel 23 cs = some x) : ∃ a n c xs, cs = [.slice a n c] ∧ Er.IntsB W W.heap.size a n xs := by
  rcases open_slice1 Try.underlying23 (by kernel_rfl) h with ⟨rfl, _⟩ | ⟨a, n, c, m, k, V, D, Pl, rfl, _, hnc, hcm, hm, _, hel⟩
  · exact ⟨none, 0, 0, [], rfl, rfl, by decide, by simp⟩
  · have hnm : n ≤ m := by rw [hm]; split <;> omega
    obtain ⟨xs, hl, hx⟩ := Er.choose_list n (fun j (y : Int) => V j = .int .i64 y) (fun j hj => by
      obtain ⟨y, h1, _⟩ := DataW.trod_int Try.underlying3 (hel j (by omega)).2
      injection h1 with h1
      exact ⟨y, h1⟩)
    refine ⟨some a, n, c, xs, rfl, hl.symm, by unfold maxLen at hcm; omega, fun j y hj => ⟨a, rfl, ?_⟩⟩
    have hjl := (List.getElem?_eq_some_iff.1 hj).1
    have h1 := (hel j (by omega)).1
    rw [hx j y hj] at h1
    exact ⟨cell_lt h1, h1⟩
theorem ints_of_trod {a : Option Addr} {n c : Nat} {d : DataW H} {p : List MemPlace} (h : DataW.Trod enc Try.prog W 0 sp hd 23 (.slice a n c) d p) : ∃ xs, Er.IntsB W W.heap.size a n xs := by
  obtain ⟨fuel, hf⟩ := h
  obtain ⟨a', n', c', xs, h1, h2⟩ := ints_of_cells hf
  have h1 : [Value.slice a n c] = [.slice a' n' c'] := h1
  simp only [List.cons.injEq, Value.slice.injEq, and_true] at h1
  obtain ⟨rfl, rfl, rfl⟩ := h1
  exact ⟨xs, h2⟩
theorem task_of_cells {fuel : Nat} {cs : List Value} {x : DataW H × List MemPlace} (h : DataW.trod enc Try.prog W 0 sp hd fuel 38 cs = some x) (hl : cs.length = 6) : ∃ t : Er.Tk, cs = t.cells ∧ Er.IntsB W W.heap.size t.na t.nn t.needs := by
  obtain ⟨xs, k, _, _, _, hxl, hf⟩ := DataW.trod_struct Try.underlying38 h
  match cs, hl with
  | [c0, c1, c2, c3, c4, c5], _ =>
    have c9 : Try.prog.cellsOf 9 = 1 := by kernel_rfl
    have c3' : Try.prog.cellsOf 3 = 1 := by kernel_rfl
    have c23 : Try.prog.cellsOf 23 = 1 := by kernel_rfl
    have len6 : xs.length = 6 := hxl
    match xs, len6 with
    | [y0, y1, y2, y3, y4, y5], _ =>
      have g0 : DataW.trod enc Try.prog W 0 sp hd k 9 (List.take (Try.prog.cellsOf 9) [c0, c1, c2, c3, c4, c5]) = some y0 := hf 0 _ rfl
      have g1 : DataW.trod enc Try.prog W 0 sp hd k 9 (List.take (Try.prog.cellsOf 9) [c1, c2, c3, c4, c5]) = some y1 := hf 1 _ rfl
      have g2 : DataW.trod enc Try.prog W 0 sp hd k 3 (List.take (Try.prog.cellsOf 3) [c2, c3, c4, c5]) = some y2 := hf 2 _ rfl
      have g3 : DataW.trod enc Try.prog W 0 sp hd k 3 (List.take (Try.prog.cellsOf 3) [c3, c4, c5]) = some y3 := hf 3 _ rfl
      have g4 : DataW.trod enc Try.prog W 0 sp hd k 3 (List.take (Try.prog.cellsOf 3) [c4, c5]) = some y4 := hf 4 _ rfl
      have g5 : DataW.trod enc Try.prog W 0 sp hd k 23 (List.take (Try.prog.cellsOf 23) [c5]) = some y5 := hf 5 _ rfl
      rw [c9] at g0 g1
      rw [c3'] at g2 g3 g4
      rw [c23] at g5
      obtain ⟨s0, e0, _⟩ := DataW.trod_string Try.underlying9 g0
      obtain ⟨s1, e1, _⟩ := DataW.trod_string Try.underlying9 g1
      obtain ⟨i2, e2, _⟩ := DataW.trod_int Try.underlying3 g2
      obtain ⟨i3, e3, _⟩ := DataW.trod_int Try.underlying3 g3
      obtain ⟨i4, e4, _⟩ := DataW.trod_int Try.underlying3 g4
      obtain ⟨a, n, c, zs, e5, hz⟩ := ints_of_cells g5
      have e0 : [c0] = [Value.string s0] := e0
      have e1 : [c1] = [Value.string s1] := e1
      have e2 : [c2] = [Value.int .i64 i2] := e2
      have e3 : [c3] = [Value.int .i64 i3] := e3
      have e4 : [c4] = [Value.int .i64 i4] := e4
      have e5 : [c5] = [Value.slice a n c] := e5
      simp only [List.cons.injEq, and_true] at e0 e1 e2 e3 e4 e5
      subst e0 e1 e2 e3 e4 e5
      exact ⟨⟨s0, s1, i2, i3, i4, a, n, c, zs⟩, rfl, hz⟩
theorem tasks_of_trod {a : Option Addr} {n c : Nat} {d : DataW H} {p : List MemPlace} (h : DataW.Trod enc Try.prog W 0 sp hd 22 (.slice a n c) d p) : ∃ ts, Er.TasksB W W.heap.size a n ts := by
  obtain ⟨fuel, hf⟩ := h
  rcases open_slice Try.underlying22 hf with ⟨hcs, _⟩ | ⟨a', n', c', m, k, D, Pl, hcs, _, hnc, hcm, hm, _, hel⟩
  · have hcs : [Value.slice a n c] = [.slice none 0 0] := hcs
    simp only [List.cons.injEq, Value.slice.injEq, and_true] at hcs
    obtain ⟨rfl, rfl, rfl⟩ := hcs
    exact ⟨[], rfl, by decide, by simp, by simp⟩
  · have hcs : [Value.slice a n c] = [.slice (some a') n' c'] := hcs
    simp only [List.cons.injEq, Value.slice.injEq, and_true] at hcs
    obtain ⟨rfl, rfl, rfl⟩ := hcs
    have hnm : n ≤ m := by rw [hm]; split <;> omega
    have c38 : Try.prog.cellsOf 38 = 6 := by kernel_rfl
    rw [c38] at hel
    obtain ⟨ts, hl, hts⟩ := Er.choose_list n (fun j (t : Er.Tk) => (∀ i x, t.cells[i]? = some x → W.cell? ((a'.add (j * 6)).add i) = some x) ∧ Er.IntsB W W.heap.size t.na t.nn t.needs) (fun j hj => by
      obtain ⟨cs, h1, h2⟩ := hel j (by omega)
      obtain ⟨_, hlen, hcell⟩ := World.cells?_some h1
      obtain ⟨t, rfl, h3⟩ := task_of_cells h2 hlen
      refine ⟨t, fun i x hx => ?_, h3⟩
      have h6 : t.cells.length = 6 := rfl
      have hi := (List.getElem?_eq_some_iff.1 hx).1
      rw [hcell i (by omega), hx])
    exact ⟨ts, hl.symm, by unfold maxLen at hcm; omega, fun j t hj => ⟨a', rfl, fun i x hx => ⟨cell_lt ((hts j t hj).1 i x hx), (hts j t hj).1 i x hx⟩⟩, fun j t hj => (hts j t hj).2⟩
end

set_option maxRecDepth 100000 in
theorem lifted (os : Os) (started : os.Started) (H : Type) (enc : TypeId × Value → H) :
    ReturnsInHanded {} Try.checked os 3 .any (Rows.topFewestHandlingsSpec.pre6 enc Try.prog Try.f3 Rows.topFewestHandlingsRow.domain false) (Rows.topFewestHandlingsSpec.post enc Try.prog Try.f3 false true false false) := by
  refine returnsInHanded_of_change (C := Try.checked) own started (by kernel_rfl) Try.func3
    (ChangeSpec.witness6 (enc := enc) (C := Try.checked) false ⟨#[], #[.slice none 0 0, .slice none 0 0], []⟩ 8 (by kernel_rfl) (by kernel_rfl) (by kernel_rfl) (by kernel_rfl)) ?_
  intro W base args ds gs before hval0 hW hcnd _
  have hval : ∀ (j : Nat) t v, Try.f3.params[j]? = some t → args[j]? = some v → Value.okWide Try.prog W .any base t v := hval0
  have hW' := hW
  obtain ⟨p, q, hA0, hV, rfl, hfz, hnd⟩ := hW
  have hA : DataW.TrodAll enc Try.prog W 0 (fun _ => true) true Try.f3.params.toList args.toList ds p := hA0
  rw [Try.params3] at hA hval
  obtain ⟨v0, vs0, d0, ds0, p0, q0, hargs, rfl, rfl, h0, r0⟩ := trodAll_cons hA
  obtain ⟨v1, vs1, d1, ds1, p1, q1, rfl, rfl, rfl, h1, r1⟩ := trodAll_cons r0
  obtain ⟨rfl, rfl, rfl⟩ := trodAll_nil r1
  obtain rfl : args = #[v0, v1] := by cases args; simp_all
  obtain ⟨rfl, rfl⟩ := trodVars_none hV
  obtain ⟨a0, len0, cap0, rfl⟩ := okWide_slice Try.underlying22 (hval 0 22 v0 rfl rfl)
  have k0 := h0
  have lt0 : ∀ x ∈ p0, x.block < W.heap.size := by obtain ⟨m, hm⟩ := k0; exact DataW.trod_lt m _ _ _ hm
  obtain ⟨ts, hT⟩ := tasks_of_trod h0
  obtain ⟨a1, len1, cap1, rfl⟩ := okWide_slice Try.underlying23 (hval 1 23 v1 rfl rfl)
  have k1 := h1
  have lt1 : ∀ x ∈ p1, x.block < W.heap.size := by obtain ⟨m, hm⟩ := k1; exact DataW.trod_lt m _ _ _ hm
  obtain ⟨xs, hO⟩ := ints_of_trod h1
  clear hA0 hval0
  refine ((Er.law_c a0 a1 len0 cap0 len1 cap1 ts xs W hT hO).2).mono fun e W' ⟨v, he, bel, hv⟩ => ?_
  subst he; subst hv
  exact ⟨_, rfl, _, _, _, [], _, [], hW', trodAll_mk1 (shut_bool Try.underlying4 _), (trodAll_cons_mk (Below.trod laidOut (by kernel_rfl) (of_decide_eq_true (by kernel_rfl)) k0 bel lt0) (trodAll_cons_mk (Below.trod laidOut (by kernel_rfl) (of_decide_eq_true (by kernel_rfl)) k1 bel lt1) trodAll_mk0)), rfl, bel.frame _, fun h => by cases h⟩

theorem over : Rows.topFewestHandlingsRow.holds Try.pinned (OpenSpec.ofChange Rows.topFewestHandlingsSpec) :=
  OpenClaim.holds_of_wide 3 Try.f3 rfl rfl rfl rfl rfl rfl rfl ⟨rfl, rfl, rfl, rfl, rfl⟩ rfl rfl rfl rfl rfl (by kernel_rfl) Try.func3 (by kernel_rfl)
    (of_decide_eq_true (by kernel_rfl)) (by unfold Func.isWrapper; first | (rw [if_pos (by decide +kernel)]; kernel_rfl) | (rw [if_neg (by decide +kernel)]; exact ⟨rfl, rfl⟩))
    (fun os started H enc _ => lifted os started H enc)


/-- The law holds for every input. -/
theorem topFewestHandlings_holds : Rows.TopFewestHandlingsSaid := over
#print axioms topFewestHandlings_holds
end Go.Proofs.Ytbkpmaflldbfeaa
