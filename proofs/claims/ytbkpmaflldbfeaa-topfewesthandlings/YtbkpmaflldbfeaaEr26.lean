/- A part of the proof of TopFewestHandlings: contracts of functions of package erection, part 26. Their conditions stand in the theorems. -/
import Derived.Test.YtbkpmaflldbfeaaEr25
namespace Go.Er
open Go Go.Sx Go.Proofs

theorem Amid.cell {w w2 w3 : World} {s1 s2 : Nat} (h : Amid w w2 w3 s1 s2) {ad : Addr} {j : Nat} {v : Value} (hlo : s1 ≤ ad.block) (hc : CellB w2 s2 (ad.add j) v) : w3.cell? (ad.add j) = some v := by
  rw [cell_of_heap (h.us _ (by rw [add_block]; exact hlo) hc.1)]
  exact hc.2
/-- a list of lists of integers, as a call hands it back -/
def LaysB (w : World) (lo hi : Nat) (v : Value) (us : List (List Int)) : Prop := ∃ a c, v = .slice a us.length c ∧
  ∀ (j : Nat) u, us[j]? = some u → ∃ ad a' c', a = some ad ∧ lo ≤ ad.block ∧ CellB w hi (ad.add j) (.slice a' u.length c') ∧ IntsI w lo hi a' u.length u
theorem LaysB.re {w w2 : World} {lo lo2 hi hi2 : Nat} {v : Value} {us : List (List Int)} (h : LaysB w lo hi v us) (hk : ∀ k, lo ≤ k → k < hi → w2.heap[k]? = w.heap[k]?) (h1 : lo2 ≤ lo) (h2 : hi ≤ hi2) : LaysB w2 lo2 hi2 v us := by
  obtain ⟨a, c, h3, h4⟩ := h
  refine ⟨a, c, h3, fun j u hu => ?_⟩
  obtain ⟨ad, a', c', h5, h6, h7, h8⟩ := h4 j u hu
  exact ⟨ad, a', c', h5, by omega, ⟨by have := h7.1; omega, by rw [cell_of_heap (hk _ (by rw [add_block]; exact h6) h7.1)]; exact h7.2⟩, h8.re hk h1 h2⟩
def LayRes (ts : List Tk) (lo : Nat) (v : Value) (w : World) : Prop := ∃ x, v = .tuple #[x, .int .i64 (checkF ts)] ∧ (checkF ts = 0 → ∃ lays, LaysB w lo w.heap.size x lays ∧ Topo ts lays.flatten ∧ lays.length ≤ 9)

theorem lay_len : ∀ {us : List (List Int)} {d : Nat} {u : List Int}, us[d]? = some u → u.length ≤ us.flatten.length
  | [], d, u, h => by simp at h
  | x :: r, 0, u, h => by
    simp at h
    subst h
    rw [List.flatten_cons, List.length_append]
    omega
  | x :: r, d + 1, u, h => by
    have := lay_len (us := r) (d := d) (u := u) (by simpa using h)
    rw [List.flatten_cons, List.length_append]
    omega
theorem rowIv_nil (rv : List Value) : rowIv (rv ++ [.slice none 0 0]) = rowIv rv := by
  unfold rowIv
  rw [List.filterMap_append]
  simp [Value.ownBlock]
theorem RowsI.room {w : World} {B : Nat} {rv : List Value} {us : List (List Int)} (h : RowsI w B rv us) : RowsI w B (rv ++ [.slice none 0 0]) (us ++ [[]]) := by
  have hl := h.len
  refine ⟨by simp [hl], fun j v u hv hu => ?_, fun j j' v v' g hv hv' hg hg' => ?_⟩
  · by_cases hj : j < rv.length
    · rw [List.getElem?_append_left hj] at hv
      rw [List.getElem?_append_left (by omega)] at hu
      exact h.own j v u hv hu
    · rw [List.getElem?_append_right (by omega)] at hv hu
      have h0 := (List.getElem?_eq_some_iff.1 hv).1
      simp at h0
      rw [show j - rv.length = 0 by omega] at hv
      rw [show j - us.length = 0 by omega] at hu
      simp at hv hu
      subst hv; subst hu
      exact World.ownsRow_nil _ _ _ _
  · have key : ∀ (j : Nat) (v : Value), (rv ++ [.slice none 0 0])[j]? = some v → v.ownBlock = some g → rv[j]? = some v := fun j v hv hg => by
      by_cases hj : j < rv.length
      · rwa [List.getElem?_append_left hj] at hv
      · rw [List.getElem?_append_right (by omega)] at hv
        have h0 := (List.getElem?_eq_some_iff.1 hv).1
        simp at h0
        rw [show j - rv.length = 0 by omega] at hv
        simp at hv
        subst hv
        cases hg
    exact h.dis j j' v v' g (key j v hv hg) (key j' v' hv' hg') hg hg'
theorem vecVals {H : Hp} {nx : Nat} {iv : Iv} {B : Nat} {w w' : World} {ρ : Nat → Sx.Val} (r : Rel H nx iv B w ρ w') {id : Nat} {xs : List Value} (h : getH H id = some (.vec 23 1 xs)) :
    ∃ a c, (At.w id xs.length).den ρ = .slice a xs.length c ∧ ∀ (j : Nat) x, xs[j]? = some x → ∃ ad, a = some ad ∧ B ≤ ad.block ∧ CellB w' w'.heap.size (ad.add j) x := by
  rcases r.vec id 23 1 _ h with ⟨hn, h0⟩ | ⟨hn, spare, hb, hs, hm⟩
  · have : xs = [] := h0
    subst this
    exact ⟨none, 0, by simp [At.den, hn], by simp⟩
  · refine ⟨some ⟨(ρ id).g, 0, none⟩, (ρ id).cap, by simp [At.den, hn], fun j x hx => ⟨_, rfl, (r.low id _ h hn).1, ?_⟩⟩
    rw [add_zero_addr]
    refine ⟨(r.low id _ h hn).2, ?_⟩
    rw [cell_of hb, List.getElem?_append_left (List.getElem?_eq_some_iff.1 hx).1]
    exact hx
theorem layers_c (a : Option Addr) (n c : Nat) (ts : List Tk) (w : World) (hT : TasksB w w.heap.size a n ts) (hS : Sml ts) :
    Con Try.prog 8 #[.slice a n c] w (Ret w fun v w2 => LayRes ts w.heap.size v w2) := by
  obtain rfl : n = ts.length := hT.len
  have hn8 := hS.1
  refine ⟨ent8, calls_f Try.func8 (by rfl) (by simp) (by rfl) ?_⟩
  conv => whnf
  refine callE_S (callE_con (Φ := fun _ w' v w2 => OrderB ts w'.heap.size v w2) (fun ρ w' r => order_c a _ c ts w' (hT.up r.bel r.size) hS) ?_)
  rintro ρ w' v w2 r he hb ⟨oa, on, oc, os, rfl, hx⟩
  conv => whnf
  refine BrS.mk (fun h1 => ?_) (fun h1 => ?_)
  · have h1 : checkF ts ≠ 0 := by simpa using h1
    conv => whnf
    intro ρ w3 r
    exact ⟨_, rfl, hb.tr r.bel, _, rfl, fun h => absurd h h1⟩
  have h1 : checkF ts = 0 := by simpa using h1
  obtain ⟨hoI, hto⟩ := hx h1
  have hO := checkF_zero h1
  obtain rfl : on = os.length := hoI.len
  have hol := hto.2.1
  have hA : Amid w w2 w2 w'.heap.size w2.heap.size := ⟨hb, fun _ _ _ => rfl, Nat.le_refl _⟩
  generalize w'.heap.size = s1 at *
  generalize hs2 : w2.heap.size = s2 at *
  clear hx he r
  conv => whnf
  refine ⟨ts.length, ts.length, rfl, rfl, Nat.le_refl _, by omega, by omega, ?_⟩
  conv => whnf
  refine ⟨Nat × List Int × World, fun x => ⟨[(0, .o (.v (.slice a ts.length c))), (6, .o (.s 0 0 ts.length ts.length)), (7, .o (.v (.slice none 0 0))), (25, .o (.v (.slice oa os.length oc))), (26, .o (.v (.int .i64 os.length))), (27, .o (.v (.int .i64 x.1)))],
      [(0, .arr 3 (x.2.1.map (Value.int .i64)))], 1, [(s1, s2)], x.2.2⟩, fun x => os.length - x.1,
    fun x => x.1 ≤ os.length ∧ Amid w w2 x.2.2 s1 s2 ∧ Dep ts os x.1 x.2.1, ?_, ?_⟩
  · intro ρ w' r
    rw [show List.replicate ts.length (Value.int IntKind.i64 0) = (List.replicate ts.length (0 : Int)).map (Value.int .i64) by simp] at r
    exact ⟨(0, List.replicate ts.length 0, w'), ⟨by simp, hA.rel r (by simp), Dep.start ts os⟩, Sub.gen [] r ⟨rfl, trivial⟩ ⟨rfl, rfl, rfl, rfl, rfl, rfl, trivial⟩ (by simp [ScH, Blk.scopd, At.sc]) (by simp [ScE, SV.sc, At.sc]) (by rfl) (by simp)⟩
  · rintro ⟨i, dp, wi⟩ ⟨hi, hA, hD⟩
    dsimp only at hi hA hD ⊢
    conv => whnf
    refine BrS.mk (fun h => ?_) (fun h => ?_)
    · have h : i < os.length := by simpa using h
      obtain ⟨x, hx⟩ : ∃ x, os[i]? = some x := ⟨_, List.getElem?_eq_getElem h⟩
      have hxr := hto.1.2 x (List.mem_of_getElem? hx)
      obtain ⟨x, rfl⟩ := Int.eq_ofNat_of_zero_le hxr.1
      have hxl : x < ts.length := by omega
      obtain ⟨t, ht⟩ : ∃ t, ts[x]? = some t := ⟨_, List.getElem?_eq_getElem hxl⟩
      have hno : needsOf ts x = t.needs := by simp [needsOf, ht]
      obtain ⟨ad, ha, hadlo, hadc⟩ := hoI.cell i _ hx
      obtain ⟨ad2, ha2, hload⟩ := hT.load hA.bel ht
      have hnn := hT.needs x t ht
      have hnl := hnn.len
      have hnr := hO.rng t (List.mem_of_getElem? ht)
      have hn30 := hS.2 t (List.mem_of_getElem? ht)
      conv => whnf
      refine ⟨ad, ha, ⟨by omega, by omega⟩, ?_⟩
      conv => whnf
      refine ⟨.int .i64 x, fun ρ w' r => by rw [Int.toNat_natCast, Nat.mul_one]; exact (hA.rel r (by simp)).cell hadlo hadc, ?_⟩
      conv => whnf
      refine ⟨ad2, ha2, ⟨by omega, by omega⟩, ?_⟩
      conv => whnf
      refine ⟨.slice t.na t.nn t.nc, fun ρ w' r => by simpa using hload _ _ _ ρ w' r 5 _ rfl, ?_⟩
      conv => whnf
      refine ⟨Nat × List Int × World, fun y => ⟨[(0, .o (.v (.slice a ts.length c))), (6, .o (.s 0 0 ts.length ts.length)), (7, .o (.v (.slice none 0 0))), (25, .o (.v (.slice oa os.length oc))), (26, .o (.v (.int .i64 os.length))), (27, .o (.v (.int .i64 i))),
          (9, .o (.v (.int .i64 x))), (35, .o (.v (.slice t.na t.nn t.nc))), (36, .o (.v (.int .i64 t.nn))), (37, .o (.v (.int .i64 y.1)))],
          [(0, .arr 3 (y.2.1.map (Value.int .i64)))], 1, [(s1, s2)], y.2.2⟩, fun y => t.nn - y.1,
        fun y => y.1 ≤ t.nn ∧ Amid w w2 y.2.2 s1 s2 ∧ DepIn ts os i x y.1 y.2.1, ?_, ?_⟩
      · intro ρ w' r
        exact ⟨(0, dp, w'), ⟨by simp, hA.rel r (by simp), hD.enter x⟩, Sub.gen [] r ⟨rfl, trivial⟩ ⟨rfl, rfl, rfl, rfl, rfl, rfl, rfl, rfl, rfl, rfl, trivial⟩ (by simp [ScH, Blk.scopd, At.sc]) (by simp [ScE, SV.sc, At.sc]) (by rfl) (by simp)⟩
      · rintro ⟨j, dp, wi⟩ ⟨hj, hA, hD⟩
        dsimp only at hj hA hD ⊢
        have hdl := hD.len
        conv => whnf
        refine BrS.mk (fun h => ?_) (fun h => ?_)
        · have h : j < t.nn := by simpa using h
          obtain ⟨k, hk⟩ : ∃ k, t.needs[j]? = some k := ⟨_, List.getElem?_eq_getElem (by omega)⟩
          obtain ⟨ad3, ha3, hc3⟩ := hnn.cell _ _ hk
          obtain ⟨hk0, hk1⟩ := hnr k (List.mem_of_getElem? hk)
          obtain ⟨k, rfl⟩ := Int.eq_ofNat_of_zero_le hk0
          have hkl : k < ts.length := by omega
          obtain ⟨dx, hdx⟩ : ∃ y, dp[x]? = some y := ⟨_, List.getElem?_eq_getElem (by omega)⟩
          obtain ⟨dk, hdk⟩ : ∃ y, dp[k]? = some y := ⟨_, List.getElem?_eq_getElem (by omega)⟩
          have hbk := hD.bd k dk hdk
          have hD2 := hD.step hto hx (by rw [hno]; exact hk) hdx hdk
          conv => whnf
          refine ⟨ad3, ha3, ⟨by omega, by omega⟩, ?_⟩
          conv => whnf
          refine ⟨_, (by simpa using (hc3.bel hA.bel).rel), ?_⟩
          conv => whnf
          refine drawn_of_pi hτ hmix [.x 0, .x 1, .x 2, .x 3, .x 4, .x 5, .x 6, .x 7, .x 8, .x 9, .x 10, .x 11, .x 12, .x 13] (by kernel_rfl) (by kernel_rfl) ?_
          conv => whnf
          refine ⟨⟨by omega, by omega⟩, ?_⟩
          conv => whnf
          refine ⟨.int .i64 dx, by simp [hdx], ?_⟩
          conv => whnf
          refine ⟨⟨by omega, by omega⟩, ?_⟩
          conv => whnf
          refine ⟨.int .i64 dk, by simp [hdk], ?_⟩
          conv => whnf
          refine ⟨dk + 1, by rw [wrap64] <;> omega, ?_⟩
          conv => whnf
          refine ⟨⟨by omega, by omega⟩, ?_⟩
          conv => whnf
          refine ⟨by simp [hdl]; omega, (dp.set x (max dx (dk + 1))).map (Value.int .i64), ?_, ?_⟩
          · have := splice_one (dp.map (Value.int .i64)) x (.int .i64 (max dx (dk + 1))) (by simp [hdl]; omega)
            simpa [List.map_set] using this
          conv => whnf
          refine ⟨(j + 1 : Nat), by rw [wrap64] <;> omega, ?_⟩
          conv => whnf
          intro ρ3 w3 r3
          exact ⟨(j + 1, dp.set x (max dx (dk + 1)), w3), ⟨by simp; omega, hA.rel r3 (by simp), hD2⟩, Sub.gen [] r3 ⟨rfl, trivial⟩ ⟨rfl, rfl, rfl, rfl, rfl, rfl, rfl, rfl, rfl, rfl, trivial⟩ (by simp [ScH, Blk.scopd, At.sc]) (by simp [ScE, SV.sc, At.sc]) (by rfl) (by simp), by simp; omega⟩
        · have hjn : j = t.nn := by have : ¬ j < t.nn := by simpa using h
                                    omega
          have hD2 := hD.done hx (by rw [hno]; omega)
          conv => whnf
          refine ⟨(i + 1 : Nat), by rw [wrap64] <;> omega, ?_⟩
          conv => whnf
          intro ρ3 w3 r3
          exact ⟨(i + 1, dp, w3), ⟨by simp; omega, hA.rel r3 (by simp), hD2⟩, Sub.gen [] r3 ⟨rfl, trivial⟩ ⟨rfl, rfl, rfl, rfl, rfl, rfl, trivial⟩ (by simp [ScH, Blk.scopd, At.sc]) (by simp [ScE, SV.sc, At.sc]) (by rfl) (by simp), by simp; omega⟩
    · have hin : i = os.length := by have : ¬ i < os.length := by simpa using h
                                     omega
      subst hin
      have hDp := hD.deep hto
      have hw := hA.bel
      have hdl := hDp.len
      clear hA hD
      conv => whnf
      refine ⟨Nat × List Value × List (List Int) × World, fun x => ⟨[(7, .o (.w 1 x.2.1.length)), (56, .o (.s 0 0 ts.length ts.length)), (57, .o (.v (.int .i64 ts.length))), (58, .o (.v (.int .i64 x.1)))],
          [(1, .vec 23 1 x.2.1), (0, .arr 3 (dp.map (Value.int .i64)))], 2, rowIv x.2.1, x.2.2.2⟩, fun x => ts.length - x.1,
        fun x => x.1 ≤ ts.length ∧ Bel w.heap.size w x.2.2.2 ∧ RowsI x.2.2.2 w.heap.size x.2.1 x.2.2.1 ∧ Lay dp x.1 x.2.2.1 ∧ x.2.2.1.length ≤ 9, ?_, ?_⟩
      · intro ρ w' r
        refine ⟨(0, [], [], w'), ⟨by simp, hw.tr r.bel, ⟨rfl, by simp, by simp⟩, Lay.start dp, by simp⟩, Sub.nil 7 23 1 rfl (by simp [ScE, SV.sc, At.sc]) r fun ρ1 r1 => ?_⟩
        exact Sub.gen [(1, 1)] r1 ⟨rfl, rfl, trivial⟩ ⟨rfl, rfl, rfl, rfl, trivial⟩ (by simp [ScH, Blk.scopd, At.sc]) (by simp [ScE, SV.sc, At.sc]) (by rfl) (by simp [rowIv])
      · rintro ⟨j, rv, us, wi⟩ ⟨hj, hw, hR, hL, h9⟩
        dsimp only at hj hw hR hL h9 ⊢
        conv => whnf
        refine BrS.mk (fun h => ?_) (fun h => ?_)
        · have h : j < ts.length := by simpa using h
          obtain ⟨d, hd⟩ : ∃ y, dp[j]? = some y := ⟨_, List.getElem?_eq_getElem (by omega)⟩
          have hbd := hDp.bd j d hd
          obtain ⟨d, rfl⟩ := Int.eq_ofNat_of_zero_le hbd.1
          conv => whnf
          refine ⟨⟨by omega, by omega⟩, ?_⟩
          conv => whnf
          refine ⟨.int .i64 d, by simp [hd], ?_⟩
          conv => whnf
          refine ⟨List Value × List (List Int) × World, fun y => ⟨[(7, .o (.w 1 y.1.length)), (56, .o (.s 0 0 ts.length ts.length)), (57, .o (.v (.int .i64 ts.length))), (58, .o (.v (.int .i64 j))), (12, .o (.v (.int .i64 j))), (13, .o (.v (.int .i64 d)))],
              [(1, .vec 23 1 y.1), (0, .arr 3 (dp.map (Value.int .i64)))], 2, rowIv y.1, y.2.2⟩, fun y => d + 1 - y.1.length,
            fun y => Bel w.heap.size w y.2.2 ∧ RowsI y.2.2 w.heap.size y.1 y.2.1 ∧ Lay dp j y.2.1 ∧ y.2.1.length ≤ 9, ?_, ?_⟩
          · intro ρ w' r
            exact ⟨(rv, us, w'), ⟨hw.tr r.bel, hR.rel r, hL, h9⟩, Sub.gen [] r ⟨rfl, rfl, trivial⟩ ⟨rfl, rfl, rfl, rfl, rfl, rfl, trivial⟩ (by simp [ScH, Blk.scopd, At.sc]) (by simp [ScE, SV.sc, At.sc]) (by rfl) (by simp)⟩
          · rintro ⟨rv, us, wi⟩ ⟨hw, hR, hL, h9⟩
            dsimp only at hw hR hL h9 ⊢
            have hrl := hR.len
            conv => whnf
            refine ⟨by simp, ?_⟩
            conv => whnf
            refine BrS.mk (fun h => ?_) (fun h => ?_)
            · have h : rv.length ≤ d := by simpa using h
              conv => whnf
              refine .inl ?_
              conv => whnf
              refine ⟨by simp, by omega, by unfold maxLen; omega, ?_⟩
              conv => whnf
              intro ρ3 w3 r3
              refine ⟨(rv ++ [.slice none 0 0], us ++ [[]], w3), ⟨hw.tr r3.bel, (hR.rel r3).room, hL.room, by simp; omega⟩, ?_, by simp; omega⟩
              dsimp only
              rw [List.length_append]
              exact Sub.gen [(1, 3)] r3 ⟨rfl, rfl, trivial⟩ ⟨rfl, rfl, rfl, rfl, rfl, rfl, trivial⟩ (by simp [ScH, Blk.scopd, At.sc]) (by simp [ScE, SV.sc, At.sc]) (by rfl) (by rw [rowIv_nil]; simp)
            · have h : d < rv.length := by have : ¬ rv.length ≤ d := by simpa using h
                                           omega
              obtain ⟨v, hv⟩ : ∃ v, rv[d]? = some v := ⟨_, List.getElem?_eq_getElem h⟩
              obtain ⟨u, hu⟩ : ∃ u, us[d]? = some u := ⟨_, List.getElem?_eq_getElem (by omega)⟩
              have hul : u.length ≤ 8 := by
                have := hL.perm.length_eq
                rw [List.length_map, List.length_range] at this
                have h2 := lay_len hu
                omega
              conv => whnf
              refine ⟨by simp, ?_⟩
              conv => whnf
              refine ⟨⟨by omega, by omega⟩, ?_⟩
              conv => whnf
              refine ⟨v, by simpa using hv, ?_⟩
              conv => whnf
              refine .inr (opS_append hτ (Nat.le_refl _) (xs := u.map (Value.int .i64)) (news := [.int .i64 (j : Int)]) (m := u.length) (k := 1) (by rfl) (by rfl) (by decide) (by rfl) (by rfl) (fun ρ w' r => ⟨(hR.rel r).own d v u hv hu, fun g hg => rowIv_not r (List.mem_of_getElem? hv) hg⟩) (by rfl) (by simp [Value.oneCell']) (by unfold maxLen; omega) (by omega)
                (fun ρ w' r => .inr ⟨_, _, rfl, fun j x hx => ?_⟩) (fun v' w2 => rowIv (rv.set d v')) (fun ρ w' v' w2 r hsz hob lo hi' hm => ?_) (fun ρ w' v' w2 r h1 h2 h3 => ?_))
              · exact r.boxNews (id := 2) rfl j x hx
              · exact rowIv_grow hR r (List.mem_of_getElem? hv) hsz hob hm
              · obtain ⟨a3, c3, rfl⟩ := row_form h1
                have hR2 := (hR.rel r).grow hv hu h1 h2 h3
                have hb2 : Bel w.heap.size w w2 := (hw.tr r.bel).tr (Bel.grown h2 (fun g hg => (hR.size (List.mem_of_getElem? hv) hg).1) (by have := r.size; have := hw.size; omega))
                have hL2 := hL.put (d := d) (by omega) hd
                conv => whnf
                refine ⟨by simp, ?_⟩
                conv => whnf
                refine ⟨⟨by omega, by omega⟩, ?_⟩
                conv => whnf
                refine ⟨by simp; omega, rv.set d (.slice a3 (u.length + 1) c3), by simpa using splice_one rv d _ (by omega), ?_⟩
                conv => whnf
                refine ⟨(j + 1 : Nat), by rw [wrap64] <;> omega, ?_⟩
                conv => whnf
                intro ρ3 w3 r3
                refine ⟨(j + 1, rv.set d (.slice a3 (u.length + 1) c3), us.modify d (fun u => u ++ [(j : Int)]), w3), ⟨by simp; omega, hb2.tr r3.bel, hR2.rel r3, hL2, by simp; omega⟩, ?_, by simp; omega⟩
                dsimp only
                rw [List.length_set]
                exact Sub.gen [] r3 ⟨rfl, rfl, trivial⟩ ⟨rfl, rfl, rfl, rfl, trivial⟩ (by simp [ScH, Blk.scopd, At.sc]) (by simp [ScE, SV.sc, At.sc]) (by rfl) (by simp)
        · have hjn : j = ts.length := by have : ¬ j < ts.length := by simpa using h
                                         omega
          subst hjn
          have hto2 := hL.topo hDp hO.rng
          have hrl := hR.len
          conv => whnf
          intro ρ3 w3 r3
          have hR3 := hR.rel r3
          obtain ⟨xo, co, hxo, hxI⟩ := vecVals r3 (id := 1) (xs := rv) rfl
          refine ⟨_, rfl, hw.tr r3.bel, .slice xo rv.length co, by rw [h1, ← hxo]; rfl, fun _ => ⟨us, ⟨xo, co, by rw [hrl], fun d u hu => ?_⟩, hto2, h9⟩⟩
          obtain ⟨v, hv⟩ : ∃ v, rv[d]? = some v := ⟨_, List.getElem?_eq_getElem (by have := (List.getElem?_eq_some_iff.1 hu).1; omega)⟩
          have hul : u.length ≤ 8 := by
            have := hL.perm.length_eq
            rw [List.length_map, List.length_range] at this
            have h2 := lay_len hu
            omega
          obtain ⟨b, c', rfl, hI⟩ := IntsI.ofRow (hR3.own d v u hv hu) (by omega)
          obtain ⟨ad, h3, h4, h5⟩ := hxI d _ hv
          exact ⟨ad, b, c', h3, h4, h5, hI⟩
end Go.Er
