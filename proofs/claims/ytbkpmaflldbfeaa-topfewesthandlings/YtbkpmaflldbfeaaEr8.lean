/- A part of the proof of TopFewestHandlings: contracts of functions of package erection, part 8. Their conditions stand in the theorems. -/
import Derived.Test.YtbkpmaflldbfeaaEr7
namespace Go.Er
open Go Go.Sx Go.Proofs

theorem pop_perm {xs : List Int} {m : Nat} {x0 xm : Int} (hl : xs.length = m + 1) (h0 : xs[0]? = some x0) (hm : xs[m]? = some xm) : (x0 :: (xs.set 0 xm).take m).Perm xs := by
  cases xs with
  | nil => simp at hl
  | cons a r =>
    simp at h0; subst h0
    simp only [List.length_cons, Nat.add_right_cancel_iff] at hl
    cases m with
    | zero =>
      have : r = [] := List.eq_nil_of_length_eq_zero hl
      subst this
      exact List.Perm.refl _
    | succ k =>
      simp only [List.set_cons_zero, List.take_succ_cons]
      have hr : r[k]? = some xm := by simpa using hm
      have hd : r = r.take k ++ [xm] := by
        have hlt : k < r.length := by omega
        have h1 : r.drop k = [xm] := by
          rw [List.drop_eq_getElem_cons hlt]
          rw [List.getElem?_eq_getElem hlt] at hr
          injection hr with hr
          rw [hr, List.drop_eq_nil_of_le (by omega)]
        rw [← h1, List.take_append_drop]
      refine List.Perm.cons _ ?_
      have h2 : (r.take k ++ [xm]).Perm (xm :: r.take k) := List.perm_append_singleton xm (r.take k)
      rw [← hd] at h2
      exact h2.symm

theorem pop_c (g Bc : Nat) (v : Value) (xs : List Int) (w : World) (hH : HeapAt w Bc g v xs) (hl : xs.length ≤ 1000) (hne : xs ≠ []) :
    Con Try.prog 30 #[.pointer (some ⟨g, 0, none⟩)] w (fun e w2 => ∃ x ys, e = .returned (.int .i64 x) ∧ HeapTo w w2 Bc g v ys ∧ (x :: ys).Perm xs) := by
  refine ⟨ent30, calls_f Try.func30 (by rfl) (by simp) (by rfl) ?_⟩
  have hg : g < w.heap.size := (Array.getElem?_eq_some_iff.1 hH.box).1
  obtain ⟨m, hm⟩ : ∃ m, xs.length = m + 1 := ⟨xs.length - 1, by have := List.length_pos_iff.2 hne; omega⟩
  obtain ⟨b, cap, cur, rfl, hbB, hbc, hcapn, hcapm, hcs, htk⟩ : ∃ b cap cur, v = .slice (some ⟨b, 0, none⟩) (m + 1) cap ∧ Bc ≤ b ∧ w.heap[b]? = some (.cells cur 3 (0, 0)) ∧ m + 1 ≤ cap ∧ cap ≤ maxLen ∧ cur.size = cap * 1 ∧ cur.toList.take ((m + 1) * 1) = xs.map (Value.int .i64) := by
    rcases hH.row.2 with ⟨_, h0⟩ | ⟨b, cap, cur, h4⟩
    · omega
    · rw [hm] at h4; exact ⟨b, cap, cur, h4⟩
  have hbg : b ≠ g := fun e => hH.ne (by rw [e]; rfl)
  have hbw : b < w.heap.size := (Array.getElem?_eq_some_iff.1 hbc).1
  generalize hsp : cur.toList.drop (m + 1) = spare
  have hcur : w.heap[b]? = some (.cells (xs.map (Value.int .i64) ++ spare).toArray 3 (0, 0)) := by
    rw [hbc]
    congr 2
    apply Array.ext'
    rw [List.toList_toArray, ← htk, ← hsp, Nat.mul_one, List.take_append_drop]
  have hspl : (m + 1) + spare.length = cap := by
    have : cur.toList.length = cap := by simp [hcs]
    rw [← hsp, List.length_drop, this]; omega
  have hbox : w.heap[g]? = some (.cells [.slice (some ⟨b, 0, none⟩) (m + 1) cap].toArray 62 (0, 0)) := hH.box
  obtain ⟨x0, hx0⟩ : ∃ x, xs[0]? = some x := ⟨_, List.getElem?_eq_getElem (by omega)⟩
  obtain ⟨xm, hxm⟩ : ∃ x, xs[m]? = some x := ⟨_, List.getElem?_eq_getElem (by omega)⟩
  have hperm0 := pop_perm hm hx0 hxm
  have hread0 : ∀ (q : Nat) z, xs[q]? = some z → CellB w w.heap.size ((⟨b, 0, none⟩ : Addr).add q) (.int .i64 z) := fun q z hz => by
    rw [add_zero_addr]
    refine ⟨hbw, ?_⟩
    rw [cell_of hcur, List.getElem?_append_left (by simp; exact (List.getElem?_eq_some_iff.1 hz).1)]
    simp [hz]
  conv => whnf
  refine ⟨_, (show CellB w w.heap.size ⟨g, 0, none⟩ _ from ⟨hg, by rw [cell_of hbox]; rfl⟩).rel, ?_⟩
  conv => whnf
  refine ⟨_, rfl, ⟨by omega, by omega⟩, ?_⟩
  conv => whnf
  refine ⟨_, (hread0 0 x0 hx0).rel, ?_⟩
  conv => whnf
  refine ⟨(m : Int), by rw [wrap64] <;> omega, ?_⟩
  conv => whnf
  refine ⟨_, rfl, ⟨by omega, by omega⟩, ?_⟩
  conv => whnf
  refine ⟨_, by simpa using (hread0 m xm hxm).rel, ?_⟩
  conv => whnf
  refine ⟨_, rfl, ⟨by omega, by omega⟩, ?_⟩
  conv => whnf
  intro ρ1 w1 r1
  have hcur1 : w1.heap[b]? = some (.cells (xs.map (Value.int .i64) ++ spare).toArray 3 (0, 0)) := by rw [r1.nilBy.block b hbw (by simp)]; exact hcur
  refine ⟨rfl, (mayStore (off := 0) hcur1 (by simp; omega)).2, fun id c hc => (by cases hc), fun w2 hw2 => ?_⟩
  obtain ⟨hs1, hs2, hs3⟩ := store1 (off := 0) (v := .int .i64 xm) hcur1
  have hw2' : w2 = setCells w1 ⟨b, 0, none⟩ [.int .i64 xm] := hw2
  rw [← hw2'] at hs1 hs2 hs3
  clear hw2 hw2'
  rw [List.set_append_left _ _ (by simp; omega)] at hs1
  conv => whnf
  refine ⟨⟨by omega, by omega, by omega⟩, some ⟨b, 0, none⟩, m, cap, by split <;> rfl, by simp, by simp, ?_⟩
  conv => whnf
  intro ρ3 w3 r3
  have hbox3 : w3.heap[g]? = some (.cells [.slice (some ⟨b, 0, none⟩) (m + 1) cap].toArray 62 (0, 0)) := by
    rw [r3.nilBy.block g (by have := r1.size; omega) (by simp), hs2.block g (by have := r1.size; omega) (by simpa using Ne.symm hbg), r1.nilBy.block g hg (by simp)]; exact hbox
  refine ⟨rfl, (mayStore (off := 0) hbox3 (by simp)).2, fun id c hc => (by cases hc), fun w4 hw4 => ?_⟩
  obtain ⟨ht1, ht2, ht3⟩ := store1 (off := 0) (v := .slice (some ⟨b, 0, none⟩) m cap) hbox3
  have hw4' : w4 = setCells w3 ⟨g, 0, none⟩ [.slice (some ⟨b, 0, none⟩) m cap] := hw4
  rw [← hw4'] at ht1 ht2 ht3
  clear hw4 hw4'
  have hB4 : Beside w w4 g (some b) := by
    have h1 : Beside w w1 g (some b) := ⟨r1.os, r1.tape, r1.output, r1.size, fun k hk _ _ => r1.nilBy.block k hk (by simp)⟩
    exact ((h1.by hs2 (.inl rfl)).by (grownBy_none r3.nilBy) (.inl rfl)).by ht2 (.inr (.inr rfl))
  have hrow4 : w4.heap[b]? = some (.cells (((xs.set 0 xm).take m).map (Value.int .i64) ++ ((xs.set 0 xm).drop m).map (Value.int .i64) ++ spare).toArray 3 (0, 0)) := by
    rw [ht2.block b (by have := r1.size; have := r3.size; omega) (by simpa using hbg), r3.nilBy.block b (by have := r1.size; omega) (by simp), hs1, ← List.map_append, List.take_append_drop, List.map_set]
  generalize hsp2 : ((xs.set 0 xm).drop m).map (Value.int .i64) ++ spare = spare2 at hrow4
  generalize hys0 : (xs.set 0 xm).take m = ys0 at hrow4 hperm0
  have hrow4 : w4.heap[b]? = some (.cells (ys0.map (Value.int .i64) ++ spare2).toArray 3 (0, 0)) := by rw [hrow4, ← hsp2, List.append_assoc]
  have hys0l : ys0.length = m := by rw [← hys0]; simp; omega
  have hsp2l : m + spare2.length = cap := by rw [← hsp2]; simp; omega
  have hbox4 : w4.heap[g]? = some (.cells #[.slice (some ⟨b, 0, none⟩) m cap] 62 (0, 0)) := by simpa using ht1
  clear hsp2 hys0 ht1 ht2 hs1 hs2
  conv => whnf
  refine ⟨Nat × List Int × World, fun x => ⟨[(3, .o (.v (.slice (some ⟨b, 0, none⟩) m cap))), (4, .o (.v (.int .i64 x0))), (5, .o (.v (.int .i64 m))), (6, .o (.v (.int .i64 x.1)))], [], 0, [], x.2.2⟩, fun x => m - x.1,
    fun x => x.1 ≤ m ∧ x.2.1.length = m ∧ x.2.1.Perm ys0 ∧ x.2.2.heap[b]? = some (.cells (x.2.1.map (Value.int .i64) ++ spare2).toArray 3 (0, 0)) ∧ x.2.2.heap[g]? = some (.cells #[.slice (some ⟨b, 0, none⟩) m cap] 62 (0, 0)) ∧ Beside w x.2.2 g (some b), ?_, ?_⟩
  · intro ρ5 w5 r5
    exact ⟨(0, ys0, w5), ⟨by simp, hys0l, List.Perm.refl _, by rw [r5.nilBy.block b (Array.getElem?_eq_some_iff.1 hrow4).1 (by simp)]; exact hrow4, by rw [r5.nilBy.block g (Array.getElem?_eq_some_iff.1 hbox4).1 (by simp)]; exact hbox4, hB4.by (grownBy_none r5.nilBy) (.inl rfl)⟩,
      Sub.gen [] r5 trivial ⟨rfl, rfl, rfl, rfl, trivial⟩ trivial (by simp [ScE, SV.sc, At.sc]) (by rfl) (by simp)⟩
  · rintro ⟨i, ys, wi⟩ ⟨hi, hyl, hperm, hrow, hbox, hbes⟩
    dsimp only at hi hyl hperm hrow hbox hbes ⊢
    have hbwi : b < wi.heap.size := (Array.getElem?_eq_some_iff.1 hrow).1
    have hfin : ∀ wj, wi.grownBy wj none → ∃ x ys, (Ending.returned (.int .i64 x0)) = .returned (.int .i64 x) ∧ HeapTo w wj Bc g (.slice (some ⟨b, 0, none⟩) (m + 1) cap) ys ∧ (x :: ys).Perm xs := fun wj hj => by
      have hk : ∀ k, k < wi.heap.size → wj.heap[k]? = wi.heap[k]? := fun k hk => hj.block k hk (by simp)
      have hsz := hj.size
      have hbs := hbes.size
      refine ⟨x0, ys, rfl, ⟨hj.os.trans hbes.os, hj.tape.trans hbes.tape, hj.output.trans hbes.output, by omega, fun k hk' hg' hr => (hk k (by omega)).trans (hbes.block k hk' hg' hr), .slice (some ⟨b, 0, none⟩) m cap, ⟨by rw [hk g (by omega)]; exact hbox, ⟨by simp, .inr ⟨b, cap, (ys.map (Value.int .i64) ++ spare2).toArray, by rw [hyl], hbB, by rw [hk b hbwi]; exact hrow, by omega, hcapm, by simp; omega, ?_⟩⟩, fun e => hbg (by simpa [Value.ownBlock] using e), hH.low⟩, fun k hk' => .inl hk'⟩, (List.Perm.cons _ hperm).trans hperm0⟩
      simp
    have hread' : ∀ (q : Nat) z, ys[q]? = some z → ∀ (nx : Nat) (iv : Iv) ρ w', Rel [] nx iv w.heap.size wi ρ w' → w'.cell? ((⟨b, 0, none⟩ : Addr).add q) = some (.int .i64 z) := fun q z hz nx iv ρ w' r => by
      rw [cell_of_heap (w := wi) (by rw [add_zero_addr]; exact r.nilBy.block b hbwi (by simp))]
      rw [add_zero_addr, cell_of hrow, List.getElem?_append_left (by simp; exact (List.getElem?_eq_some_iff.1 hz).1)]
      simp [hz]
    conv => whnf
    refine ⟨((2 * i : Nat) : Int), by rw [wrap64] <;> omega, ?_⟩
    conv => whnf
    refine ⟨((2 * i + 1 : Nat) : Int), by rw [wrap64] <;> omega, ?_⟩
    conv => whnf
    refine BrS.mk (fun h => ?_) (fun h => ?_)
    · obtain ⟨k, hk⟩ : ∃ k, 2 * i + 1 = k := ⟨_, rfl⟩
      have h : k < m := by have : ((2 * i + 1 : Nat) : Int) < m := by simpa using h
                           omega
      have him : i < m := by omega
      have hmul : (2 : Int) * i = ((2 * i : Nat) : Int) := by omega
      obtain ⟨x, hx⟩ : ∃ x, ys[i]? = some x := ⟨_, List.getElem?_eq_getElem (by omega)⟩
      obtain ⟨y, hy⟩ : ∃ x, ys[k]? = some x := ⟨_, List.getElem?_eq_getElem (by omega)⟩
      conv => whnf
      refine ⟨((2 * i : Nat) : Int), by rw [wrap64] <;> omega, ?_⟩
      conv => whnf
      refine ⟨(k : Int), by rw [wrap64] <;> omega, ?_⟩
      conv => whnf
      refine drawn_of_pi hτ hmix [.x 0, .x 1, .x 2, .x 3, .x 4, .x 5, .x 6, .x 7, .x 8, .x 9, .x 10, .x 11, .x 12, .x 13, .x 14, .x 15] (by kernel_rfl) (by kernel_rfl) ?_
      conv => whnf
      refine ⟨((k + 1 : Nat) : Int), by rw [wrap64] <;> omega, ?_⟩
      conv => whnf
      refine BrS.mk (fun h0 => ?_) (fun h0 => ?_)
      · have h0 : k + 1 < m := by have : ((k + 1 : Nat) : Int) < m := by simpa using h0
                                  omega
        obtain ⟨z, hz⟩ : ∃ x, ys[k + 1]? = some x := ⟨_, List.getElem?_eq_getElem (by omega)⟩
        conv => whnf
        refine ⟨((k + 1 : Nat) : Int), by rw [wrap64] <;> omega, ?_⟩
        conv => whnf
        refine ⟨_, rfl, ⟨by omega, by omega⟩, ?_⟩
        conv => whnf
        refine ⟨_, by simpa using hread' _ _ hz 0 [], ?_⟩
        conv => whnf
        refine ⟨_, rfl, ⟨by omega, by omega⟩, ?_⟩
        conv => whnf
        refine ⟨_, by simpa using hread' _ _ hy 0 [], ?_⟩
        conv => whnf
        refine BrS.mk (fun h1 => ?_) (fun h1 => ?_)
        · conv => whnf
          refine ⟨((k + 1 : Nat) : Int), by rw [wrap64] <;> omega, ?_⟩
          obtain ⟨j, hj⟩ : ∃ j, k + 1 = j := ⟨_, rfl⟩
          rw [hj] at hz ⊢
          have hjm : j < m := by omega
          have hij : i < j := by omega
          conv => whnf
          refine drawn_of_pi hτ hmix [.x 0, .x 1, .x 2, .x 3, .x 4, .x 5, .x 6, .x 7, .x 8] (by kernel_rfl) (by kernel_rfl) ?_
          conv => whnf
          refine ⟨_, rfl, ⟨by omega, by omega⟩, ?_⟩
          conv => whnf
          refine ⟨_, by simpa using hread' _ _ hx 0 [], ?_⟩
          conv => whnf
          refine ⟨_, rfl, ⟨by omega, by omega⟩, ?_⟩
          conv => whnf
          refine ⟨_, by simpa using hread' _ _ hz 0 [], ?_⟩
          conv => whnf
          refine BrS.mk (fun h5 => ?_) (fun h5 => ?_)
          · conv => whnf
            intro ρ5 w5 r5
            obtain ⟨x, ys, h1, h2, h3⟩ := hfin w5 r5.nilBy
            exact ⟨x, ys, h1, h2, h3⟩
          · conv => whnf
            refine drawn_of_pi hτ hmix [.x 0, .x 1, .x 2, .x 3, .x 4, .x 5, .x 6, .x 7, .x 8, .x 9, .x 10, .x 11, .x 12, .x 13, .x 14, .x 15] (by kernel_rfl) (by kernel_rfl) ?_
            conv => whnf
            refine ⟨_, rfl, ⟨by omega, by omega⟩, ?_⟩
            conv => whnf
            refine ⟨_, by simpa using hread' _ _ hz 0 [], ?_⟩
            conv => whnf
            refine ⟨_, rfl, ⟨by omega, by omega⟩, ?_⟩
            conv => whnf
            refine ⟨_, by simpa using hread' _ _ hx 0 [], ?_⟩
            conv => whnf
            refine ⟨_, rfl, ⟨by omega, by omega⟩, ?_⟩
            conv => whnf
            intro ρ6 w6 r6
            have e6 : (⟨b, 0, none⟩ : Addr).add ((i : Int).toNat * 1) = ⟨b, i, none⟩ := by rw [Int.toNat_natCast, Nat.mul_one, add_zero_addr]
            have hrow6 : w6.heap[b]? = some (.cells (ys.map (Value.int .i64) ++ spare2).toArray 3 (0, 0)) := by rw [r6.nilBy.block b hbwi (by simp)]; exact hrow
            rw [e6]
            refine ⟨rfl, (mayStore hrow6 (by simp; omega)).2, fun id c hc => (by cases hc), fun w7 hw7 => ?_⟩
            obtain ⟨ht1, ht2, ht3⟩ := store1 (off := i) (v := .int .i64 z) hrow6
            rw [← hw7] at ht1 ht2 ht3
            clear hw7
            rw [List.set_append_left _ _ (by simp; omega)] at ht1
            conv => whnf
            refine ⟨_, rfl, ⟨by omega, by omega⟩, ?_⟩
            conv => whnf
            intro ρ8 w8 r8
            have hrow8 : w8.heap[b]? = some (.cells ((ys.map (Value.int .i64)).set i (.int .i64 z) ++ spare2).toArray 3 (0, 0)) := by rw [r8.nilBy.block b (by have := r6.size; omega) (by simp)]; exact ht1
            have e8 : (⟨b, 0, none⟩ : Addr).add ((j : Int).toNat * 1) = ⟨b, j, none⟩ := by rw [Int.toNat_natCast, Nat.mul_one, add_zero_addr]
            rw [e8]
            refine ⟨rfl, (mayStore hrow8 (by simp; omega)).2, fun id c hc => (by cases hc), fun w9 hw9 => ?_⟩
            obtain ⟨hu1, hu2, hu3⟩ := store1 (off := j) (v := .int .i64 x) hrow8
            rw [← hw9] at hu1 hu2 hu3
            clear hw9
            rw [List.set_append_left _ _ (by simp; omega)] at hu1
            conv => whnf
            intro ρ10 w10 r10
            have hall : wi.grownBy w10 (some b) := grownBy_trans (grownBy_trans (grownBy_none r6.nilBy) ht2) (grownBy_trans (grownBy_trans (grownBy_none r8.nilBy) hu2) (grownBy_none r10.nilBy))
            have hilt : i < ys.length := by omega
            have hjlt : j < ys.length := by omega
            have hxe : x = ys[i] := by rw [List.getElem?_eq_getElem hilt] at hx; injection hx with hx; exact hx.symm
            have hze : z = ys[j] := by rw [List.getElem?_eq_getElem hjlt] at hz; injection hz with hz; exact hz.symm
            refine ⟨(j, (ys.set i z).set j x, w10), ⟨by simp; omega, by simp [hyl], ?_, ?_, ?_, hbes.by hall (.inl rfl)⟩, Sub.gen [] r10 trivial ⟨rfl, rfl, rfl, rfl, trivial⟩ trivial (by simp [ScE, SV.sc, At.sc]) (by rfl) (by simp), by simp; omega⟩
            · rw [hxe, hze]
              exact (List.set_set_perm hilt hjlt).trans hperm
            · rw [r10.nilBy.block b (by have := r6.size; have := r8.size; omega) (by simp), hu1, List.map_set, List.map_set]
            · rw [hall.block g (by have := (Array.getElem?_eq_some_iff.1 hbox).1; omega) (by simpa using Ne.symm hbg)]; exact hbox
        · obtain ⟨j, hj⟩ : ∃ j, k = j := ⟨_, rfl⟩
          have hjm : j < m := by omega
          have hij : i < j := by omega
          have hz := hy
          rw [hj] at hz ⊢
          conv => whnf
          refine drawn_of_pi hτ hmix [.x 0, .x 1, .x 2, .x 3, .x 4, .x 5, .x 6, .x 7, .x 8] (by kernel_rfl) (by kernel_rfl) ?_
          conv => whnf
          refine ⟨_, rfl, ⟨by omega, by omega⟩, ?_⟩
          conv => whnf
          refine ⟨_, by simpa using hread' _ _ hx 0 [], ?_⟩
          conv => whnf
          refine ⟨_, rfl, ⟨by omega, by omega⟩, ?_⟩
          conv => whnf
          refine ⟨_, by simpa using hread' _ _ hz 0 [], ?_⟩
          conv => whnf
          refine BrS.mk (fun h5 => ?_) (fun h5 => ?_)
          · conv => whnf
            intro ρ5 w5 r5
            obtain ⟨x, ys, h1, h2, h3⟩ := hfin w5 r5.nilBy
            exact ⟨x, ys, h1, h2, h3⟩
          · conv => whnf
            refine drawn_of_pi hτ hmix [.x 0, .x 1, .x 2, .x 3, .x 4, .x 5, .x 6, .x 7, .x 8, .x 9, .x 10, .x 11, .x 12, .x 13, .x 14, .x 15] (by kernel_rfl) (by kernel_rfl) ?_
            conv => whnf
            refine ⟨_, rfl, ⟨by omega, by omega⟩, ?_⟩
            conv => whnf
            refine ⟨_, by simpa using hread' _ _ hz 0 [], ?_⟩
            conv => whnf
            refine ⟨_, rfl, ⟨by omega, by omega⟩, ?_⟩
            conv => whnf
            refine ⟨_, by simpa using hread' _ _ hx 0 [], ?_⟩
            conv => whnf
            refine ⟨_, rfl, ⟨by omega, by omega⟩, ?_⟩
            conv => whnf
            intro ρ6 w6 r6
            have e6 : (⟨b, 0, none⟩ : Addr).add ((i : Int).toNat * 1) = ⟨b, i, none⟩ := by rw [Int.toNat_natCast, Nat.mul_one, add_zero_addr]
            have hrow6 : w6.heap[b]? = some (.cells (ys.map (Value.int .i64) ++ spare2).toArray 3 (0, 0)) := by rw [r6.nilBy.block b hbwi (by simp)]; exact hrow
            rw [e6]
            refine ⟨rfl, (mayStore hrow6 (by simp; omega)).2, fun id c hc => (by cases hc), fun w7 hw7 => ?_⟩
            obtain ⟨ht1, ht2, ht3⟩ := store1 (off := i) (v := .int .i64 y) hrow6
            rw [← hw7] at ht1 ht2 ht3
            clear hw7
            rw [List.set_append_left _ _ (by simp; omega)] at ht1
            conv => whnf
            refine ⟨_, rfl, ⟨by omega, by omega⟩, ?_⟩
            conv => whnf
            intro ρ8 w8 r8
            have hrow8 : w8.heap[b]? = some (.cells ((ys.map (Value.int .i64)).set i (.int .i64 y) ++ spare2).toArray 3 (0, 0)) := by rw [r8.nilBy.block b (by have := r6.size; omega) (by simp)]; exact ht1
            have e8 : (⟨b, 0, none⟩ : Addr).add ((j : Int).toNat * 1) = ⟨b, j, none⟩ := by rw [Int.toNat_natCast, Nat.mul_one, add_zero_addr]
            rw [e8]
            refine ⟨rfl, (mayStore hrow8 (by simp; omega)).2, fun id c hc => (by cases hc), fun w9 hw9 => ?_⟩
            obtain ⟨hu1, hu2, hu3⟩ := store1 (off := j) (v := .int .i64 x) hrow8
            rw [← hw9] at hu1 hu2 hu3
            clear hw9
            rw [List.set_append_left _ _ (by simp; omega)] at hu1
            conv => whnf
            intro ρ10 w10 r10
            have hall : wi.grownBy w10 (some b) := grownBy_trans (grownBy_trans (grownBy_none r6.nilBy) ht2) (grownBy_trans (grownBy_trans (grownBy_none r8.nilBy) hu2) (grownBy_none r10.nilBy))
            have hilt : i < ys.length := by omega
            have hjlt : j < ys.length := by omega
            have hxe : x = ys[i] := by rw [List.getElem?_eq_getElem hilt] at hx; injection hx with hx; exact hx.symm
            have hze : y = ys[j] := by rw [List.getElem?_eq_getElem hjlt] at hz; injection hz with hz; exact hz.symm
            refine ⟨(j, (ys.set i y).set j x, w10), ⟨by simp; omega, by simp [hyl], ?_, ?_, ?_, hbes.by hall (.inl rfl)⟩, Sub.gen [] r10 trivial ⟨rfl, rfl, rfl, rfl, trivial⟩ trivial (by simp [ScE, SV.sc, At.sc]) (by rfl) (by simp), by simp; omega⟩
            · rw [hxe, hze]
              exact (List.set_set_perm hilt hjlt).trans hperm
            · rw [r10.nilBy.block b (by have := r6.size; have := r8.size; omega) (by simp), hu1, List.map_set, List.map_set]
            · rw [hall.block g (by have := (Array.getElem?_eq_some_iff.1 hbox).1; omega) (by simpa using Ne.symm hbg)]; exact hbox
      · skip
        obtain ⟨j, hj⟩ : ∃ j, k = j := ⟨_, rfl⟩
        have hjm : j < m := by omega
        have hij : i < j := by omega
        have hz := hy
        rw [hj] at hz ⊢
        conv => whnf
        refine drawn_of_pi hτ hmix [.x 0, .x 1, .x 2, .x 3, .x 4, .x 5, .x 6, .x 7, .x 8] (by kernel_rfl) (by kernel_rfl) ?_
        conv => whnf
        refine ⟨_, rfl, ⟨by omega, by omega⟩, ?_⟩
        conv => whnf
        refine ⟨_, by simpa using hread' _ _ hx 0 [], ?_⟩
        conv => whnf
        refine ⟨_, rfl, ⟨by omega, by omega⟩, ?_⟩
        conv => whnf
        refine ⟨_, by simpa using hread' _ _ hz 0 [], ?_⟩
        conv => whnf
        refine BrS.mk (fun h5 => ?_) (fun h5 => ?_)
        · conv => whnf
          intro ρ5 w5 r5
          obtain ⟨x, ys, h1, h2, h3⟩ := hfin w5 r5.nilBy
          exact ⟨x, ys, h1, h2, h3⟩
        · conv => whnf
          refine drawn_of_pi hτ hmix [.x 0, .x 1, .x 2, .x 3, .x 4, .x 5, .x 6, .x 7, .x 8, .x 9, .x 10, .x 11, .x 12, .x 13, .x 14, .x 15] (by kernel_rfl) (by kernel_rfl) ?_
          conv => whnf
          refine ⟨_, rfl, ⟨by omega, by omega⟩, ?_⟩
          conv => whnf
          refine ⟨_, by simpa using hread' _ _ hz 0 [], ?_⟩
          conv => whnf
          refine ⟨_, rfl, ⟨by omega, by omega⟩, ?_⟩
          conv => whnf
          refine ⟨_, by simpa using hread' _ _ hx 0 [], ?_⟩
          conv => whnf
          refine ⟨_, rfl, ⟨by omega, by omega⟩, ?_⟩
          conv => whnf
          intro ρ6 w6 r6
          have e6 : (⟨b, 0, none⟩ : Addr).add ((i : Int).toNat * 1) = ⟨b, i, none⟩ := by rw [Int.toNat_natCast, Nat.mul_one, add_zero_addr]
          have hrow6 : w6.heap[b]? = some (.cells (ys.map (Value.int .i64) ++ spare2).toArray 3 (0, 0)) := by rw [r6.nilBy.block b hbwi (by simp)]; exact hrow
          rw [e6]
          refine ⟨rfl, (mayStore hrow6 (by simp; omega)).2, fun id c hc => (by cases hc), fun w7 hw7 => ?_⟩
          obtain ⟨ht1, ht2, ht3⟩ := store1 (off := i) (v := .int .i64 y) hrow6
          rw [← hw7] at ht1 ht2 ht3
          clear hw7
          rw [List.set_append_left _ _ (by simp; omega)] at ht1
          conv => whnf
          refine ⟨_, rfl, ⟨by omega, by omega⟩, ?_⟩
          conv => whnf
          intro ρ8 w8 r8
          have hrow8 : w8.heap[b]? = some (.cells ((ys.map (Value.int .i64)).set i (.int .i64 y) ++ spare2).toArray 3 (0, 0)) := by rw [r8.nilBy.block b (by have := r6.size; omega) (by simp)]; exact ht1
          have e8 : (⟨b, 0, none⟩ : Addr).add ((j : Int).toNat * 1) = ⟨b, j, none⟩ := by rw [Int.toNat_natCast, Nat.mul_one, add_zero_addr]
          rw [e8]
          refine ⟨rfl, (mayStore hrow8 (by simp; omega)).2, fun id c hc => (by cases hc), fun w9 hw9 => ?_⟩
          obtain ⟨hu1, hu2, hu3⟩ := store1 (off := j) (v := .int .i64 x) hrow8
          rw [← hw9] at hu1 hu2 hu3
          clear hw9
          rw [List.set_append_left _ _ (by simp; omega)] at hu1
          conv => whnf
          intro ρ10 w10 r10
          have hall : wi.grownBy w10 (some b) := grownBy_trans (grownBy_trans (grownBy_none r6.nilBy) ht2) (grownBy_trans (grownBy_trans (grownBy_none r8.nilBy) hu2) (grownBy_none r10.nilBy))
          have hilt : i < ys.length := by omega
          have hjlt : j < ys.length := by omega
          have hxe : x = ys[i] := by rw [List.getElem?_eq_getElem hilt] at hx; injection hx with hx; exact hx.symm
          have hze : y = ys[j] := by rw [List.getElem?_eq_getElem hjlt] at hz; injection hz with hz; exact hz.symm
          refine ⟨(j, (ys.set i y).set j x, w10), ⟨by simp; omega, by simp [hyl], ?_, ?_, ?_, hbes.by hall (.inl rfl)⟩, Sub.gen [] r10 trivial ⟨rfl, rfl, rfl, rfl, trivial⟩ trivial (by simp [ScE, SV.sc, At.sc]) (by rfl) (by simp), by simp; omega⟩
          · rw [hxe, hze]
            exact (List.set_set_perm hilt hjlt).trans hperm
          · rw [r10.nilBy.block b (by have := r6.size; have := r8.size; omega) (by simp), hu1, List.map_set, List.map_set]
          · rw [hall.block g (by have := (Array.getElem?_eq_some_iff.1 hbox).1; omega) (by simpa using Ne.symm hbg)]; exact hbox
    · conv => whnf
      intro ρ5 w5 r5
      obtain ⟨x, ys, h1, h2, h3⟩ := hfin w5 r5.nilBy
      exact ⟨x, ys, h1, h2, h3⟩
end Go.Er
