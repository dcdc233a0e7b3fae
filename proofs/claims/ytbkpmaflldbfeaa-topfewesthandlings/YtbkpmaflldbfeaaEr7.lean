/- A part of the proof of TopFewestHandlings: contracts of functions of package erection, part 7. Their conditions stand in the theorems. -/
import Derived.Test.YtbkpmaflldbfeaaEr6
namespace Go.Er
open Go Go.Sx Go.Proofs

theorem grownBy_trans {a b c : World} {row : Option Nat} (h : a.grownBy b row) (k : b.grownBy c row) : a.grownBy c row :=
  ⟨k.os.trans h.os, k.tape.trans h.tape, k.output.trans h.output, Nat.le_trans h.size k.size, fun j hj hne => (k.block j (by have := h.size; omega) hne).trans (h.block j hj hne)⟩
theorem grownBy_none {a b : World} {row : Option Nat} (h : a.grownBy b none) : a.grownBy b row := ⟨h.os, h.tape, h.output, h.size, fun j hj _ => h.block j hj (by simp)⟩
end Go.Er
namespace Go.Sx
open Go Go.Er Go.Proofs
theorem Rel.nilBy {nx : Nat} {iv : Iv} {B : Nat} {w w' : World} {ρ : Nat → Val} (r : Rel [] nx iv B w ρ w') : w.grownBy w' none :=
  ⟨r.os, r.tape, r.output, r.size, fun k hk _ => r.frm k hk (fun id b h => by cases h)⟩
end Go.Sx
namespace Go.Er
open Go Go.Sx Go.Proofs

/-- a cell of a block is written -/
theorem store1 {w : World} {b e off : Nat} {cur : List Value} {v : Value} (h : w.heap[b]? = some (.cells cur.toArray e (0, 0))) :
    (setCells w ⟨b, off, none⟩ [v]).heap[b]? = some (.cells (cur.set off v).toArray e (0, 0)) ∧ w.grownBy (setCells w ⟨b, off, none⟩ [v]) (some b) ∧ (setCells w ⟨b, off, none⟩ [v]).heap.size = w.heap.size := by
  refine ⟨?_, ⟨rfl, rfl, rfl, ?_, fun k hk hne => ?_⟩, ?_⟩
  · simp [setCells, World.setCell, Array.getElem?_modify, h]
  · simp [setCells, World.setCell]
  · have : b ≠ k := fun e => hne (by rw [e])
    simp [setCells, World.setCell, Array.getElem?_modify, this]
  · simp [setCells, World.setCell]
theorem mayStore {w : World} {b e off : Nat} {cur : List Value} (h : w.heap[b]? = some (.cells cur.toArray e (0, 0))) (ho : off < cur.length) :
    (⟨b, off, none⟩ : Addr).spot = none ∧ ∀ j, j < 1 → (w.cell? ((⟨b, off, none⟩ : Addr).add j)).isSome = true ∧ w.frozen? ((⟨b, off, none⟩ : Addr).add j) = false := by
  refine ⟨rfl, fun j hj => ?_⟩
  have : j = 0 := by omega
  subst this
  have e0 : (⟨b, off, none⟩ : Addr).add 0 = ⟨b, off, none⟩ := rfl
  rw [e0]
  refine ⟨by rw [cell_of h]; simp [ho], ?_⟩
  unfold World.frozen?
  rw [h]
  simp

/-- a heap of numbers in the box g -/
structure HeapAt (w : World) (Bc g : Nat) (v : Value) (xs : List Int) : Prop where
  box : w.heap[g]? = some (.cells #[v] 62 (0, 0))
  row : w.ownsRow Bc 3 1 v xs.length (xs.map (Value.int .i64))
  ne : v.ownBlock ≠ some g
  low : Bc ≤ g

/-- beside a box and a row's block, all that was there is as it was -/
structure Beside (w w2 : World) (g : Nat) (row : Option Nat) : Prop where
  os : w2.os = w.os
  tape : w2.tape = w.tape
  output : w2.output = w.output
  size : w.heap.size ≤ w2.heap.size
  block : ∀ k, k < w.heap.size → k ≠ g → some k ≠ row → w2.heap[k]? = w.heap[k]?
theorem Beside.by {w w2 w3 : World} {g b : Nat} {row : Option Nat} (h : Beside w w2 g row) (k : w2.grownBy w3 (some b)) (hb : row = some b ∨ w.heap.size ≤ b ∨ b = g) : Beside w w3 g row :=
  ⟨k.os.trans h.os, k.tape.trans h.tape, k.output.trans h.output, Nat.le_trans h.size k.size, fun j hj hg hr => (k.block j (by have := h.size; omega) (fun e => by
    injection e with e
    rcases hb with hb | hb | hb
    · exact hr (by rw [hb, e])
    · omega
    · exact hg (e.trans hb))).trans (h.block j hj hg hr)⟩
theorem Beside.rel {H : Hp} {nx : Nat} {iv : Iv} {w w2 w3 : World} {ρ : Nat → Val} {g : Nat} {row : Option Nat} (h : Beside w w2 g row) (r : Rel H nx iv w.heap.size w2 ρ w3) : Beside w w3 g row :=
  ⟨r.os.trans h.os, r.tape.trans h.tape, r.output.trans h.output, Nat.le_trans h.size r.size, fun j hj hg hr => (r.bel.block j hj).trans (h.block j hj hg hr)⟩

/-- what has happened to a heap in a box: the box, and the row's block; what is new -/
structure HeapTo (w w2 : World) (Bc g : Nat) (v : Value) (ys : List Int) : Prop where
  os : w2.os = w.os
  tape : w2.tape = w.tape
  output : w2.output = w.output
  size : w.heap.size ≤ w2.heap.size
  block : ∀ k, k < w.heap.size → k ≠ g → some k ≠ v.ownBlock → w2.heap[k]? = w.heap[k]?
  to : ∃ v', HeapAt w2 Bc g v' ys ∧ ∀ k, v'.ownBlock = some k → v.ownBlock = some k ∨ w.heap.size ≤ k

theorem push_c (g Bc : Nat) (v : Value) (xs : List Int) (n : Int) (w : World) (hH : HeapAt w Bc g v xs) (hl : xs.length ≤ 1000) :
    Con Try.prog 29 #[.pointer (some ⟨g, 0, none⟩), .int .i64 n] w (fun e w2 => e = .returned (.tuple #[]) ∧ ∃ ys, HeapTo w w2 Bc g v ys ∧ ys.Perm (n :: xs)) := by
  refine ⟨ent29, calls_f Try.func29 (by rfl) (by simp) (by rfl) ?_⟩
  have hg : g < w.heap.size := (Array.getElem?_eq_some_iff.1 hH.box).1
  have hvb : ∀ b, v.ownBlock = some b → Bc ≤ b ∧ b < w.heap.size := ownsRow.low hH.row
  have hcell : CellB w w.heap.size ⟨g, 0, none⟩ v := ⟨hg, by have := hH.box; rw [show (#[v] : Array Value) = [v].toArray from rfl] at this; rw [cell_of this]; rfl⟩
  conv => whnf
  refine ⟨v, hcell.rel, ?_⟩
  conv => whnf
  refine .inr (opS_append hτ (Bc := Bc) (by have := hH.low; omega) (xs := xs.map (Value.int .i64)) (news := [.int .i64 n]) (m := xs.length) (k := 1) (by rfl) (by rfl) (by decide) (by rfl) (by rfl)
    (fun ρ w' r => ⟨ownsRow.keep hH.row (fun b hb => r.bel.block b (hvb b hb).2), fun b hb id c hc hn he => ?_⟩) (by rfl) (by simp [Value.oneCell']) (by unfold maxLen; omega) (by omega)
    (fun ρ w' r => .inr ⟨_, _, rfl, fun j x hx => r.boxNews (id := 0) (t := 3) rfl j x hx⟩) (fun v' w2 => rowIv [v']) (fun ρ w' v' w2 r hsz hob lo hi' hm => ?_) (fun ρ w' v' w2 r h1 h2 h3 => ?_))
  · have := (r.low id c hc hn).1; have := (hvb b hb).2; omega
  · obtain ⟨x, hx, hg', rfl⟩ := rowIv_mem.1 hm
    simp at hx; subst hx
    obtain ⟨h1, h2⟩ := hob _ hg'
    refine ⟨by omega, fun id c hc hn he => ?_⟩
    have := r.low id c hc hn
    rcases h2 with h2 | h2
    · have := (hvb _ h2).2; omega
    · omega
  · obtain ⟨b, cap, cur, rfl, hbB, hbc, hcapn, hcapm, hcs, htk⟩ : ∃ b cap cur, v' = .slice (some ⟨b, 0, none⟩) (xs.length + 1) cap ∧ Bc ≤ b ∧ w2.heap[b]? = some (.cells cur 3 (0, 0)) ∧ xs.length + 1 ≤ cap ∧ cap ≤ maxLen ∧ cur.size = cap * 1 ∧ cur.toList.take ((xs.length + 1) * 1) = xs.map (Value.int .i64) ++ [.int .i64 n] := by
      rcases h1.2 with ⟨_, h0⟩ | ⟨b, cap, cur, h4⟩
      · omega
      · exact ⟨b, cap, cur, h4⟩
    have hbn : v.ownBlock = some b ∨ w'.heap.size ≤ b := by
      rcases h3 with h3 | h3
      · exact .inl h3.symm
      · simp only [Value.ownBlock, Option.some.injEq] at h3; exact .inr (by omega)
    have hbg : b ≠ g := fun e => by
      rcases hbn with h4 | h4
      · exact hH.ne (by rw [h4, e])
      · have := r.size; omega
    generalize hsp : cur.toList.drop (xs.length + 1) = spare
    have hcur : w2.heap[b]? = some (.cells ((xs ++ [n]).map (Value.int .i64) ++ spare).toArray 3 (0, 0)) := by
      rw [hbc]
      congr 2
      apply Array.ext'
      rw [List.toList_toArray, List.map_append, List.map_singleton, ← htk, ← hsp, Nat.mul_one, List.take_append_drop]
    have hspl : (xs.length + 1) + spare.length = cap := by
      have : cur.toList.length = cap := by simp [hcs]
      rw [← hsp, List.length_drop, this]; omega
    have hsz1 := r.size
    have hsz2 := h2.size
    have hfr2 : ∀ k, k < w.heap.size → some k ≠ v.ownBlock → w2.heap[k]? = w.heap[k]? := fun k hk hne => (h2.block k (by omega) hne).trans (r.bel.block k hk)
    have hbox2 : w2.heap[g]? = some (.cells [v].toArray 62 (0, 0)) := by rw [hfr2 g hg (Ne.symm hH.ne)]; exact hH.box
    conv => whnf
    intro ρ3 w3 r3
    have hbox3 : w3.heap[g]? = some (.cells [v].toArray 62 (0, 0)) := by rw [r3.bel.block g hg]; exact hbox2
    refine ⟨rfl, (mayStore hbox3 (by simp)).2, fun id c hc hn he => by have := (r3.low id c hc hn).1; simp only at he; omega, fun w4 hw4 => ?_⟩
    obtain ⟨hs1, hs2, hs3⟩ := store1 (off := 0) (v := .slice (some ⟨b, 0, none⟩) (xs.length + 1) cap) hbox3
    rw [← hw4] at hs1 hs2 hs3
    clear hw4
    have hcur4 : w4.heap[b]? = some (.cells ((xs ++ [n]).map (Value.int .i64) ++ spare).toArray 3 (0, 0)) := by
      have hb2 := (Array.getElem?_eq_some_iff.1 hcur).1
      rw [hs2.block b (by have := r3.size; omega) (by simpa using hbg), r3.frm b hb2 (fun id c hc hn he => r3.prot b (b + 1) (rowIv_mem.2 ⟨_, List.mem_singleton.2 rfl, rfl, rfl⟩) id c hc hn (by omega)), hcur]
    conv => whnf
    refine ⟨.slice (some ⟨b, 0, none⟩) (xs.length + 1) cap, fun ρ5 w5 r5 => by rw [cell_of (by rw [r5.bel.block g hg]; exact hs1)]; rfl, ?_⟩
    conv => whnf
    refine ⟨(xs.length : Int), by rw [wrap64] <;> omega, ?_⟩
    conv => whnf
    have hB4 : Beside w w4 g v.ownBlock :=
      (Beside.rel ⟨h2.os.trans r.os, h2.tape.trans r.tape, h2.output.trans r.output, by omega, fun k hk _ hr => hfr2 k hk hr⟩ r3).by hs2 (.inr (.inr rfl))
    have hlt2 : w2.heap.size ≤ w4.heap.size := by have := r3.size; omega
    have hb4 : b < w4.heap.size := (Array.getElem?_eq_some_iff.1 hcur4).1
    refine ⟨Nat × List Int × World, fun x => ⟨[(4, .o (.v (.slice (some ⟨b, 0, none⟩) (xs.length + 1) cap))), (5, .o (.v (.int .i64 x.1)))], [], 0, [], x.2.2⟩, fun x => x.1,
      fun x => x.1 < xs.length + 1 ∧ x.2.1.length = xs.length + 1 ∧ x.2.1.Perm (n :: xs) ∧ x.2.2.heap[b]? = some (.cells (x.2.1.map (Value.int .i64) ++ spare).toArray 3 (0, 0)) ∧ x.2.2.heap[g]? = some (.cells #[.slice (some ⟨b, 0, none⟩) (xs.length + 1) cap] 62 (0, 0)) ∧ Beside w x.2.2 g v.ownBlock, ?_, ?_⟩
    · intro ρ5 w5 r5
      have hfr : ∀ k, k < w4.heap.size → (k = b ∨ k < w.heap.size) → w5.heap[k]? = w4.heap[k]? := fun k hk hor => by
        rcases hor with rfl | hor
        · exact r5.frm k hk fun id c hc hn he => r5.prot k (k + 1) (rowIv_mem.2 ⟨_, List.mem_singleton.2 rfl, rfl, rfl⟩) id c hc hn (by omega)
        · exact r5.bel.block k hor
      refine ⟨(xs.length, xs ++ [n], w5), ⟨by simp, by simp, ?_, ?_, ?_, hB4.rel r5⟩, Sub.gen [] r5 trivial ⟨rfl, rfl, trivial⟩ trivial (by simp [ScE, SV.sc, At.sc]) (by rfl) (by simp)⟩
      · exact List.perm_append_singleton n xs
      · rw [hfr b hb4 (.inl rfl)]; exact hcur4
      · rw [hfr g (by omega) (.inr hg)]; exact hs1
    · rintro ⟨i, ys, wi⟩ ⟨hi, hyl, hperm, hrow, hbox, hbes⟩
      dsimp only at hi hyl hperm hrow hbox hbes ⊢
      have hbw : b < wi.heap.size := (Array.getElem?_eq_some_iff.1 hrow).1
      have hfin : ∀ wj, wi.grownBy wj none → ∃ ys, HeapTo w wj Bc g v ys ∧ ys.Perm (n :: xs) := fun wj hj => by
        have hk : ∀ k, k < wi.heap.size → wj.heap[k]? = wi.heap[k]? := fun k hk => hj.block k hk (by simp)
        have hsz := hj.size
        have hbs := hbes.size
        refine ⟨ys, ⟨hj.os.trans hbes.os, hj.tape.trans hbes.tape, hj.output.trans hbes.output, by omega, fun k hk' hg' hr => (hk k (by omega)).trans (hbes.block k hk' hg' hr), _, ⟨by rw [hk g (by omega)]; exact hbox, ⟨by simp, .inr ⟨b, cap, (ys.map (Value.int .i64) ++ spare).toArray, by rw [hyl], hbB, by rw [hk b hbw]; exact hrow, by omega, hcapm, by simp; omega, ?_⟩⟩, fun e => hbg (by simpa [Value.ownBlock] using e), hH.low⟩, fun k hk' => ?_⟩, hperm⟩
        · simp
        · simp only [Value.ownBlock, Option.some.injEq] at hk'
          subst hk'
          rcases hbn with h4 | h4
          · exact .inl h4
          · exact .inr (by omega)
      conv => whnf
      refine drawn_of_pi hτ hmix [.x 0, .x 1, .x 2, .x 3, .x 4, .x 5, .x 6, .x 7, .x 8, .x 9, .x 10, .x 11, .x 12, .x 13, .x 14] (by kernel_rfl) (by kernel_rfl) ?_
      conv => whnf
      refine BrS.mk (fun h0 => ?_) (fun h0 => ?_)
      · obtain ⟨j, rfl⟩ : ∃ j, i = j + 1 := ⟨i - 1, by have : (0 : Int) < i := by simpa using h0
                                                       omega⟩
        obtain ⟨q, hq⟩ : ∃ q, j / 2 = q := ⟨_, rfl⟩
        have hquo : ((j : Int).tdiv 2) = (q : Int) := by rw [← hq]; rfl
        obtain ⟨x, hx⟩ : ∃ x, ys[q]? = some x := ⟨_, List.getElem?_eq_getElem (by omega)⟩
        obtain ⟨y, hy⟩ : ∃ y, ys[j + 1]? = some y := ⟨_, List.getElem?_eq_getElem (by omega)⟩
        have hread : ∀ (q : Nat) z, ys[q]? = some z → wi.cell? ((⟨b, 0, none⟩ : Addr).add q) = some (.int .i64 z) := fun q z hz => by
          rw [add_zero_addr, cell_of hrow, List.getElem?_append_left (by simp; exact (List.getElem?_eq_some_iff.1 hz).1)]
          simp [hz]
        have hread' : ∀ (q : Nat) z, ys[q]? = some z → ∀ (nx : Nat) (iv : Iv) ρ w', Rel [] nx iv w.heap.size wi ρ w' → w'.cell? ((⟨b, 0, none⟩ : Addr).add q) = some (.int .i64 z) := fun q z hz nx iv ρ w' r => by
          rw [cell_of_heap (w := wi) (by rw [add_zero_addr]; exact r.nilBy.block b hbw (by simp))]
          exact hread q z hz
        conv => whnf
        refine ⟨(j : Int), by rw [wrap64] <;> omega, ?_⟩
        conv => whnf
        refine ⟨by decide, (q : Int), by rw [hquo, wrap64] <;> omega, ?_⟩
        conv => whnf
        refine ⟨_, rfl, ⟨by omega, by omega⟩, ?_⟩
        conv => whnf
        refine ⟨_, by simpa using hread' _ _ hx 0 [], ?_⟩
        conv => whnf
        refine ⟨_, rfl, ⟨by omega, by omega⟩, ?_⟩
        conv => whnf
        refine ⟨_, by simpa using hread' _ _ hy 0 [], ?_⟩
        conv => whnf
        refine BrS.mk (fun h5 => ?_) (fun h5 => ?_)
        · conv => whnf
          refine drawn_of_pi hτ hmix [.x 0, .x 1, .x 2, .x 3, .x 4, .x 5, .x 6, .x 7, .x 8, .x 9, .x 10, .x 11, .x 12, .x 13, .x 14, .x 15, .x 16, .x 17, .x 18, .x 19] (by kernel_rfl) (by kernel_rfl) ?_
          conv => whnf
          refine ⟨(j : Int), by rw [wrap64] <;> omega, ?_⟩
          conv => whnf
          refine ⟨by decide, (q : Int), by rw [hquo, wrap64] <;> omega, ?_⟩
          conv => whnf
          refine ⟨_, rfl, ⟨by omega, by omega⟩, ?_⟩
          conv => whnf
          refine ⟨_, by simpa using hread' _ _ hy 0 [], ?_⟩
          conv => whnf
          refine ⟨(j : Int), by rw [wrap64] <;> omega, ?_⟩
          conv => whnf
          refine ⟨by decide, (q : Int), by rw [hquo, wrap64] <;> omega, ?_⟩
          conv => whnf
          refine ⟨_, rfl, ⟨by omega, by omega⟩, ?_⟩
          conv => whnf
          refine ⟨_, by simpa using hread' _ _ hx 0 [], ?_⟩
          conv => whnf
          refine ⟨_, rfl, ⟨by omega, by omega⟩, ?_⟩
          conv => whnf
          intro ρ6 w6 r6
          have e6 : (⟨b, 0, none⟩ : Addr).add ((q : Int).toNat * 1) = ⟨b, q, none⟩ := by rw [Int.toNat_natCast, Nat.mul_one, add_zero_addr]
          have hrow6 : w6.heap[b]? = some (.cells (ys.map (Value.int .i64) ++ spare).toArray 3 (0, 0)) := by rw [r6.nilBy.block b hbw (by simp)]; exact hrow
          rw [e6]
          refine ⟨rfl, (mayStore hrow6 (by simp; omega)).2, fun id c hc => (by cases hc), fun w7 hw7 => ?_⟩
          obtain ⟨ht1, ht2, ht3⟩ := store1 (off := q) (v := .int .i64 y) hrow6
          rw [← hw7] at ht1 ht2 ht3
          clear hw7
          rw [List.set_append_left _ _ (by simp; omega)] at ht1
          conv => whnf
          refine ⟨_, rfl, ⟨by omega, by omega⟩, ?_⟩
          conv => whnf
          intro ρ8 w8 r8
          have hrow8 : w8.heap[b]? = some (.cells ((ys.map (Value.int .i64)).set q (.int .i64 y) ++ spare).toArray 3 (0, 0)) := by rw [r8.nilBy.block b (by have := r6.size; omega) (by simp)]; exact ht1
          have e8 : (⟨b, 0, none⟩ : Addr).add (((j + 1 : Nat) : Int).toNat * 1) = ⟨b, j + 1, none⟩ := by rw [Int.toNat_natCast, Nat.mul_one, add_zero_addr]
          rw [e8]
          refine ⟨rfl, (mayStore hrow8 (by simp; omega)).2, fun id c hc => (by cases hc), fun w9 hw9 => ?_⟩
          obtain ⟨hu1, hu2, hu3⟩ := store1 (off := j + 1) (v := .int .i64 x) hrow8
          rw [← hw9] at hu1 hu2 hu3
          clear hw9
          rw [List.set_append_left _ _ (by simp; omega)] at hu1
          conv => whnf
          refine ⟨(j : Int), by rw [wrap64] <;> omega, ?_⟩
          conv => whnf
          refine ⟨by decide, (q : Int), by rw [hquo, wrap64] <;> omega, ?_⟩
          conv => whnf
          intro ρ10 w10 r10
          have hall : wi.grownBy w10 (some b) := grownBy_trans (grownBy_trans (grownBy_none r6.nilBy) ht2) (grownBy_trans (grownBy_trans (grownBy_none r8.nilBy) hu2) (grownBy_none r10.nilBy))
          have hqlt : q < ys.length := by omega
          have hjlt : j + 1 < ys.length := by omega
          have hxe : x = ys[q] := by rw [List.getElem?_eq_getElem hqlt] at hx; injection hx with hx; exact hx.symm
          have hye : y = ys[j + 1] := by rw [List.getElem?_eq_getElem hjlt] at hy; injection hy with hy; exact hy.symm
          refine ⟨(q, (ys.set q y).set (j + 1) x, w10), ⟨by simp; omega, by simp [hyl], ?_, ?_, ?_, hbes.by hall ?_⟩, Sub.gen [] r10 trivial ⟨rfl, rfl, trivial⟩ trivial (by simp [ScE, SV.sc, At.sc]) (by rfl) (by simp), by simp; omega⟩
          · rw [hxe, hye]
            exact (List.set_set_perm hqlt hjlt).trans hperm
          · rw [r10.nilBy.block b (by have := r6.size; have := r8.size; omega) (by simp), hu1, List.map_set, List.map_set]
          · rw [hall.block g (by have := hbes.size; omega) (by simpa using Ne.symm hbg)]; exact hbox
          · rcases hbn with h4 | h4
            · exact .inl h4
            · exact .inr (.inl (by omega))
        · conv => whnf
          intro ρ5 w5 r5
          exact ⟨rfl, hfin w5 r5.nilBy⟩
      · conv => whnf
        intro ρ5 w5 r5
        exact ⟨rfl, hfin w5 r5.nilBy⟩
end Go.Er
