/- A part of the proof of TopFewestHandlings: contracts of functions of package erection, part 22. Their conditions stand in the theorems. -/
import Derived.Test.YtbkpmaflldbfeaaEr21
namespace Go.Er
open Go Go.Sx Go.Proofs

theorem moves_c (a b : Option Addr) (n c m cb : Nat) (ts : List Tk) (last : Int) (k : Nat) (w : World) (hT : TasksB w w.heap.size a n ts) (hl : last = -1 ∨ 0 ≤ last ∧ last < n) (hk : k < n) :
    Con Try.prog 16 #[.agg #[.slice a n c, .slice b m cb], .int .i64 last, .int .i64 k] w (Ret w fun v _ => v = .int .i64 (mv ts last k)) := by
  have hlen := hT.len
  refine ⟨ent16, calls_f Try.func16 (by rfl) (by simp) (by rfl) ?_⟩
  conv => whnf
  refine drawn_of_pi hτ hmix [.x 0, .x 1, .x 2, .x 3, .x 4, .x 5, .x 6, .x 7, .x 8, .x 9, .x 10, .x 11, .x 12, .x 13, .x 14, .x 15, .x 16] (by kernel_rfl) (by kernel_rfl) ?_
  conv => whnf
  obtain ⟨t, ht⟩ : ∃ t, ts[k]? = some t := ⟨_, List.getElem?_eq_getElem (by omega)⟩
  have hpx : placeOf ts k = t.place := by simp [placeOf, ht]
  obtain ⟨ad1, ha1, hload⟩ := hT.load Bel.refl ht
  refine BrS.mk (fun h2 => ?_) (fun h2 => ?_)
  · have h0 : last ≥ 0 := of_decide_eq_true h2
    obtain ⟨q, rfl⟩ := Int.eq_ofNat_of_zero_le h0
    obtain ⟨t2, ht2⟩ : ∃ t, ts[q]? = some t := ⟨_, List.getElem?_eq_getElem (by omega)⟩
    have hpy : placeOf ts q = t2.place := by simp [placeOf, ht2]
    obtain ⟨ad2, ha2, hload2⟩ := hT.load Bel.refl ht2
    have hmv : mv ts q k = match t2.place != t.place with
      | true => 1
      | false => 0 := by rw [mv, h2, Bool.true_and, hpx, hpy]; rfl
    conv => whnf
    refine ⟨ad2, ha2, ⟨by omega, by omega⟩, ?_⟩
    conv => whnf
    refine ⟨.int .i64 t2.place, fun ρ w' r => by simpa using hload2 _ _ _ ρ w' r 3 _ rfl, ?_⟩
    conv => whnf
    refine ⟨ad1, ha1, ⟨by omega, by omega⟩, ?_⟩
    conv => whnf
    refine ⟨.int .i64 t.place, fun ρ w' r => by simpa using hload _ _ _ ρ w' r 3 _ rfl, ?_⟩
    conv => whnf
    refine BrS.mk (fun h3 => ?_) (fun h3 => ?_)
    · conv => whnf
      intro ρ w3 r
      exact ⟨_, rfl, r.bel, by rw [hmv, h3]; rfl⟩
    · conv => whnf
      intro ρ w3 r
      exact ⟨_, rfl, r.bel, by rw [hmv, h3]; rfl⟩
  · have hmv : mv ts last k = 0 := by rw [mv, h2, Bool.false_and]
    conv => whnf
    intro ρ w3 r
    exact ⟨_, rfl, r.bel, by rw [hmv]; rfl⟩

def bitsF : List Int → Nat
  | [] => 0
  | k :: r => 2 ^ k.toNat ||| bitsF r
def bitsGo : List Int → Nat → Nat
  | [], a => a
  | k :: r, a => bitsGo r (a ||| 2 ^ k.toNat)
theorem bitsGo_eq : ∀ (l : List Int) (a : Nat), bitsGo l a = a ||| bitsF l
  | [], a => by simp [bitsGo, bitsF]
  | k :: r, a => by rw [bitsGo, bitsGo_eq r, bitsF, Nat.or_assoc]
theorem bitsF_test : ∀ (l : List Int) (j : Nat), (∀ k ∈ l, 0 ≤ k) → ((bitsF l).testBit j = true ↔ (j : Int) ∈ l)
  | [], j, _ => by simp [bitsF]
  | k :: r, j, h => by
    have h0 := h k (by simp)
    rw [bitsF, Nat.testBit_or, Bool.or_eq_true, bitsF_test r j (fun x hx => h x (by simp [hx])), Nat.testBit_two_pow, decide_eq_true_eq, List.mem_cons]
    constructor
    · rintro (h1 | h1)
      · exact .inl (by omega)
      · exact .inr h1
    · rintro (h1 | h1)
      · exact .inl (by omega)
      · exact .inr h1
theorem bitsGo_lt {n : Nat} : ∀ (l : List Int) (a : Nat), (∀ k ∈ l, 0 ≤ k ∧ k < n) → a < 2 ^ n → bitsGo l a < 2 ^ n
  | [], a, _, h => h
  | k :: r, a, hl, h => bitsGo_lt r _ (fun x hx => hl x (by simp [hx])) (Nat.or_lt_two_pow h (Nat.pow_lt_pow_right (by decide) (by have := hl k (by simp); omega)))

/-- numbers whose block is not below lo -/
structure U64I (w : World) (lo hi : Nat) (a : Option Addr) (n : Nat) (xs : List Nat) : Prop where
  len : n = xs.length
  cell : ∀ (j : Nat) x, xs[j]? = some x → ∃ ad, a = some ad ∧ lo ≤ ad.block ∧ CellB w hi (ad.add j) (.int .u64 x)
theorem U64I.keep {w w2 : World} {lo hi hi2 : Nat} {a : Option Addr} {n : Nat} {xs : List Nat} (h : U64I w lo hi a n xs) (hk : ∀ k, lo ≤ k → k < hi → w2.heap[k]? = w.heap[k]?) (hh : hi ≤ hi2) : U64B w2 hi2 a n xs :=
  ⟨h.len, fun j x hx => by
    obtain ⟨ad, h1, h2, h3⟩ := h.cell j x hx
    exact ⟨ad, h1, by have := h3.1; omega, by rw [cell_of_heap (hk _ (by rw [add_block]; exact h2) h3.1)]; exact h3.2⟩⟩
def SmallB (ts : List Tk) (a : Option Addr) (c : Nat) (lo : Nat) (v : Value) (w : World) : Prop := ∃ a' n' c' b m cb, v = .tuple #[.agg #[.slice a' n' c', .slice b m cb], .int .i64 (checkF ts)] ∧
  (checkF ts = 0 → a' = a ∧ n' = ts.length ∧ c' = c ∧ m = ts.length ∧ U64I w lo w.heap.size b ts.length (ts.map fun t => bitsF t.needs))

theorem small_c (a : Option Addr) (n c : Nat) (ts : List Tk) (w : World) (hT : TasksB w w.heap.size a n ts) (hS : Sml ts) :
    Con Try.prog 13 #[.slice a n c] w (Ret w fun v w2 => SmallB ts a c w.heap.size v w2) := by
  have hlen := hT.len
  have hn8 := hS.1
  refine ⟨ent13, calls_f Try.func13 (by rfl) (by simp) (by rfl) ?_⟩
  conv => whnf
  refine callE_S (callE_con (Φ := fun _ _ v _ => v = .int .i64 (checkF ts)) (fun ρ w' r => check_c a n c ts w' (hT.up r.bel r.size) hS) ?_)
  rintro ρ w' v w2 r he hb rfl
  conv => whnf
  refine BrS.mk (fun h1 => ?_) (fun h1 => ?_)
  · have h1 : checkF ts ≠ 0 := by simpa using h1
    conv => whnf
    intro ρ w3 r
    exact ⟨_, rfl, hb.tr r.bel, _, _, _, _, _, _, rfl, fun h => absurd h h1⟩
  have h1 : checkF ts = 0 := by simpa using h1
  have hO := checkF_zero h1
  conv => whnf
  refine BrS.mk (fun h => ?_) (fun h => ?_)
  · exfalso
    have : (n : Int) > 14 := of_decide_eq_true h
    omega
  conv => whnf
  refine ⟨Nat × Value × World, fun x => ⟨[(0, .o (.v (.slice a n c))), (2, .o (.p 0 0)), (5, .o (.p 1 0)), (23, .o (.v (.slice a n c))), (24, .o (.v (.int .i64 n))), (25, .o (.v (.int .i64 x.1)))],
      [(1, .box 41 [.v (.slice a n c), .v x.2.1]), (0, .box 41 [.v (.slice none 0 0), .v (.slice none 0 0)])], 2, rowIv [x.2.1], x.2.2⟩, fun x => n - x.1,
    fun x => x.1 ≤ n ∧ Bel w.heap.size w x.2.2 ∧ x.2.2.ownsRow w.heap.size 44 1 x.2.1 x.1 ((ts.take x.1).map fun t => Value.int .u64 (bitsF t.needs : Nat)), ?_, ?_⟩
  · intro ρ w' r
    refine ⟨(0, .slice none 0 0, w'), ⟨by simp, hb.tr r.bel, World.ownsRow_nil _ _ _ _⟩, Sub.gen [] r ⟨rfl, rfl, trivial⟩ ⟨rfl, rfl, rfl, rfl, rfl, rfl, trivial⟩ ?_ (by simp [ScE, SV.sc, At.sc]) (by rfl) ?_⟩
    · refine ⟨⟨by omega, fun x hx => ?_⟩, ⟨by omega, fun x hx => ?_⟩, trivial⟩ <;> simp at hx <;> rcases hx with rfl | rfl <;> trivial
    · intro lo hi h
      obtain ⟨x, hx, hb, _⟩ := rowIv_mem.1 h
      simp at hx; subst hx; cases hb
  · rintro ⟨i, v, wi⟩ ⟨hi, hw, hrow⟩
    dsimp only at hi hw hrow ⊢
    conv => whnf
    refine BrS.mk (fun h => ?_) (fun h => ?_)
    · have h : i < n := by simpa using h
      obtain ⟨t, ht⟩ : ∃ t, ts[i]? = some t := ⟨_, List.getElem?_eq_getElem (by omega)⟩
      obtain ⟨ad, ha, hload⟩ := hT.load hw ht
      have hnn := hT.needs i t ht
      have hnl := hnn.len
      have hmem := List.mem_of_getElem? ht
      have hnl30 := hS.2 t hmem
      have hnr := hO.rng t hmem
      conv => whnf
      refine ⟨ad, ha, ⟨by omega, by omega⟩, ?_⟩
      conv => whnf
      refine ⟨t.cells, rfl, by simpa using hload _ _ _, ?_⟩
      conv => whnf
      refine ⟨Nat × Nat × World, fun x => ⟨[(0, .o (.v (.slice a n c))), (2, .o (.p 0 0)), (5, .o (.p 1 0)), (23, .o (.v (.slice a n c))), (24, .o (.v (.int .i64 n))), (25, .o (.v (.int .i64 i))),
          (8, .o (.v (.int .u64 x.2.1))), (30, .o (.v (.slice t.na t.nn t.nc))), (31, .o (.v (.int .i64 t.nn))), (32, .o (.v (.int .i64 x.1)))],
          [(1, .box 41 [.v (.slice a n c), .v v]), (0, .box 41 [.v (.slice none 0 0), .v (.slice none 0 0)])], 2, rowIv [v], x.2.2⟩, fun x => t.nn - x.1,
        fun x => x.1 ≤ t.nn ∧ Bel w.heap.size w x.2.2 ∧ x.2.2.ownsRow w.heap.size 44 1 v i ((ts.take i).map fun t => Value.int .u64 (bitsF t.needs : Nat)) ∧ x.2.1 < 2 ^ n ∧ bitsF t.needs = bitsGo (t.needs.drop x.1) x.2.1, ?_, ?_⟩
      · intro ρ w' r
        refine ⟨(0, 0, w'), ⟨by simp, hw.tr r.bel, rowKeep hrow (covRow v) r, Nat.two_pow_pos n, by simp [bitsGo_eq]⟩, Sub.gen [] r ⟨rfl, rfl, trivial⟩ ⟨rfl, rfl, rfl, rfl, rfl, rfl, rfl, rfl, rfl, rfl, trivial⟩ ?_ (by simp [ScE, SV.sc, At.sc]) (by rfl) (by simp)⟩
        refine ⟨⟨by omega, fun x hx => ?_⟩, ⟨by omega, fun x hx => ?_⟩, trivial⟩ <;> simp at hx <;> rcases hx with rfl | rfl <;> trivial
      · rintro ⟨j, acc, wj⟩ ⟨hj, hw, hrow, hacc, hF⟩
        dsimp only at hj hw hrow hacc hF ⊢
        have hp8 : 2 ^ n ≤ 2 ^ 8 := Nat.pow_le_pow_right (by decide) (by omega)
        conv => whnf
        refine BrS.mk (fun h => ?_) (fun h => ?_)
        · have h : j < t.nn := by simpa using h
          obtain ⟨k, hk⟩ : ∃ k, t.needs[j]? = some k := ⟨_, List.getElem?_eq_getElem (by omega)⟩
          obtain ⟨ad2, ha2, hc2⟩ := hnn.cell _ _ hk
          obtain ⟨hk0, hk1⟩ := hnr k (List.mem_of_getElem? hk)
          obtain ⟨k, rfl⟩ := Int.eq_ofNat_of_zero_le hk0
          have hdrop2 : t.needs.drop j = (k : Int) :: t.needs.drop (j + 1) := by
            have hlt : j < t.needs.length := by omega
            rw [List.drop_eq_getElem_cons hlt]
            rw [List.getElem?_eq_getElem hlt] at hk
            injection hk with hk
            rw [hk]
          rw [hdrop2, bitsGo] at hF
          have hk2 : 2 ^ k < 2 ^ n := Nat.pow_lt_pow_right (by decide) (by omega)
          have hor := Nat.or_lt_two_pow hacc hk2
          conv => whnf
          refine ⟨ad2, ha2, ⟨by omega, by omega⟩, ?_⟩
          conv => whnf
          refine ⟨_, (by simpa using (hc2.bel hw).rel), ?_⟩
          conv => whnf
          refine ⟨by omega, ((2 ^ k : Nat) : Int), shl64 (by omega), ?_⟩
          conv => whnf
          refine ⟨((acc ||| 2 ^ k : Nat) : Int), by rw [or64 (by omega) (by omega), wrapU64] <;> omega, ?_⟩
          conv => whnf
          refine ⟨(j + 1 : Nat), by rw [wrap64] <;> omega, ?_⟩
          conv => whnf
          intro ρ3 w3 r3
          refine ⟨(j + 1, acc ||| 2 ^ k, w3), ⟨by simp; omega, hw.tr r3.bel, rowKeep hrow (covRow v) r3, hor, hF⟩,
              Sub.gen [] r3 ⟨rfl, rfl, trivial⟩ ⟨rfl, rfl, rfl, rfl, rfl, rfl, rfl, rfl, rfl, rfl, trivial⟩ ?_ (by simp [ScE, SV.sc, At.sc]) (by rfl) (by simp), by simp; omega⟩
          refine ⟨⟨by omega, fun x hx => ?_⟩, ⟨by omega, fun x hx => ?_⟩, trivial⟩ <;> simp at hx <;> rcases hx with rfl | rfl <;> trivial
        · have hjn : j = t.nn := by have : ¬ j < t.nn := by simpa using h
                                    omega
          have hd : t.needs.drop j = [] := by rw [List.drop_eq_nil_iff]; omega
          rw [hd, bitsGo] at hF
          have htake : (ts.take (i + 1)).map (fun t => Value.int .u64 (bitsF t.needs : Nat)) = (ts.take i).map (fun t => Value.int .u64 (bitsF t.needs : Nat)) ++ [.int .u64 (acc : Nat)] := by
            rw [List.take_add_one, ht, List.map_append, ← hF]
            rfl
          conv => whnf
          refine .inr (opS_append hτ (Nat.le_refl _) (xs := (ts.take i).map fun t => Value.int .u64 (bitsF t.needs : Nat)) (news := [.int .u64 (acc : Nat)]) (m := i) (k := 1) (by rfl) (by rfl) (by decide) (by rfl) (by rfl) (fun ρ w' r => ⟨rowKeep hrow (covRow v) r, fun g hg => rowIv_not r (List.mem_singleton.2 rfl) hg⟩) (by rfl) (by simp [Value.oneCell']) (by unfold maxLen; omega) (by omega)
            (fun ρ w' r => .inr ⟨_, _, rfl, fun j x hx => ?_⟩) (fun v' w2 => rowIv [v']) (fun ρ w' v' w2 r hsz hob lo hi' hm => ?_) (fun ρ w' v' w2 r h1 h2 h3 => ?_))
          · exact r.boxNews (id := 2) rfl j x hx
          · obtain ⟨x, hx, hg', rfl⟩ := rowIv_mem.1 hm
            simp at hx; subst hx
            obtain ⟨h1, h2⟩ := hob _ hg'
            refine ⟨by omega, fun id c hc hn he => ?_⟩
            rcases h2 with h2 | h2
            · exact rowIv_not r (List.mem_singleton.2 rfl) h2 id c hc hn (by omega)
            · have := (r.low id c hc hn).2; omega
          · have hb2 : Bel w.heap.size w w2 := (hw.tr r.bel).tr (Bel.grown h2 (fun g hg => (ownsRow.low hrow g hg).1) (by have := r.size; have := hw.size; omega))
            rw [← htake] at h1
            obtain ⟨a3, c3, rfl⟩ := row_form h1
            conv => whnf
            refine ⟨(i + 1 : Nat), by rw [wrap64] <;> omega, ?_⟩
            conv => whnf
            intro ρ3 w3 r3
            refine ⟨(i + 1, _, w3), ⟨by simp; omega, hb2.tr r3.bel, rowKeep h1 (covRow _) r3⟩,
              Sub.gen [] r3 ⟨rfl, rfl, trivial⟩ ⟨rfl, rfl, rfl, rfl, rfl, rfl, trivial⟩ ?_ (by simp [ScE, SV.sc, At.sc]) (by rfl) (by simp), by simp; omega⟩
            refine ⟨⟨by omega, fun x hx => ?_⟩, ⟨by omega, fun x hx => ?_⟩, trivial⟩ <;> simp at hx <;> rcases hx with rfl | rfl <;> trivial
    · have hin : i = n := by have : ¬ i < n := by simpa using h
                             omega
      subst hin
      obtain ⟨b, cb, rfl⟩ := row_form hrow
      conv => whnf
      intro ρ3 w3 r3
      have hrow3 := rowKeep hrow (covRow _) r3
      rw [List.take_of_length_le (by omega)] at hrow3
      refine ⟨_, rfl, hw.tr r3.bel, a, i, c, b, i, cb, by rw [h1]; rfl, fun _ => ⟨rfl, hlen, rfl, hlen, by simp, fun j x hx => ?_⟩⟩
      have hx2 : (ts.map fun t => Value.int .u64 (bitsF t.needs : Nat))[j]? = some (.int .u64 x) := by
        rw [List.getElem?_map] at hx ⊢
        cases hj : ts[j]? with
        | none => rw [hj] at hx; cases hx
        | some t => rw [hj] at hx; injection hx with hx; rw [← hx]; rfl
      rcases hrow3.2 with ⟨_, h0⟩ | ⟨g, cap, cur, he, hbg, hc, _, _, hcs, htk⟩
      · have := (List.getElem?_eq_some_iff.1 hx2).1
        simp at this; omega
      · injection he with he _ _
        subst he
        refine ⟨_, rfl, hbg, ?_⟩
        rw [add_zero_addr]
        have hg : g < w3.heap.size := (Array.getElem?_eq_some_iff.1 hc).1
        refine ⟨hg, ?_⟩
        rw [show cur = cur.toList.toArray by simp] at hc
        rw [cell_of hc, ← hx2, ← htk, List.getElem?_take_of_lt]
        have := (List.getElem?_eq_some_iff.1 hx2).1
        simp at this; omega
end Go.Er
