/- A part of the proof of TopFewestHandlings: contracts of functions of package erection, part 29. Their conditions stand in the theorems. -/
import Derived.Test.YtbkpmaflldbfeaaEr28
namespace Go.Er
open Go Go.Sx Go.Proofs

/-- which tasks are in, and a list of them -/
def InsB (bs : List Bool) (p : List Int) (n : Nat) : Prop := bs.length = n ∧ ∀ k : Nat, k < n → (inF bs k = true ↔ (k : Int) ∈ p)
theorem InsB.add {bs : List Bool} {p : List Int} {n k : Nat} (h : InsB bs p n) (hk : k < n) : InsB (bs.set k true) (p ++ [(k : Int)]) n := by
  refine ⟨by simp [h.1], fun j hj => ?_⟩
  rw [List.mem_append, List.mem_singleton]
  by_cases e : k = j
  · subst e
    simp [inF, h.1, hk]
  · have : inF (bs.set k true) j = inF bs j := by simp [inF, List.getElem?_set_ne e]
    rw [this, h.2 j hj]
    constructor
    · exact .inl
    · rintro (h1 | h1)
      · exact h1
      · omega
theorem needs_at {ts : List Tk} (x : Int) : ((ts[x.toNat]?).map Tk.needs).getD [] = needsOf ts x := rfl
theorem acceptGo_topo {ts : List Tk} (hN : InRange ts) : ∀ (r p : List Int) (i : Nat) (bs : List Bool), InsB bs p ts.length → p.length = i → Topo ts (p ++ r) → acceptGo ts r i bs = (-1, 0)
  | [], p, i, bs, hb, hi, h => by
    have := h.2.1
    rw [List.append_nil] at this
    rw [acceptGo, if_neg (by omega)]
  | x :: r, p, i, bs, hb, hi, h => by
    have hx := h.1.2 x (by simp)
    obtain ⟨k, rfl⟩ := Int.eq_ofNat_of_zero_le hx.1
    have hk : k < ts.length := by omega
    have hnd := h.1.1
    have h1 : outB ts.length (k : Int) = false := by simp [outB]; omega
    have h2 : inF bs (k : Int) = false := by
      cases hc : inF bs (k : Int) with
      | false => rfl
      | true =>
        exfalso
        have hm := (hb.2 k hk).1 hc
        rw [List.nodup_append] at hnd
        exact hnd.2.2 _ hm _ (by simp) rfl
    have h3 : (needsOf ts (k : Int)).any (fun q => !inF bs q) = false := by
      rw [List.any_eq_false]
      intro q hq
      have h4 := h.2.2 p.length (k : Int) (by simp) q hq
      rw [List.take_left] at h4
      have hq0 := h.1.2 q (by simp [h4])
      have := (hb.2 q.toNat (by omega)).2 (by rw [Int.toNat_of_nonneg hq0.1]; exact h4)
      rw [Int.toNat_of_nonneg hq0.1] at this
      simp [this]
    rw [acceptGo, h1, needs_at]
    simp only [h2, h3]
    exact acceptGo_topo hN r (p ++ [(k : Int)]) (i + 1) _ (hb.add hk) (by simp [hi]) (by simpa using h)
theorem topo_acceptGo {ts : List Tk} (hN : InRange ts) : ∀ (r p : List Int) (i : Nat) (bs : List Bool), InsB bs p ts.length → p.length = i → Rng ts p → Tpl ts p → (acceptGo ts r i bs).2 = 0 → Topo ts (p ++ r)
  | [], p, i, bs, hb, hi, hr, ht, h => by
    rw [acceptGo] at h
    split at h
    · cases h
    · have := hr.length_le
      rw [List.append_nil]
      exact ⟨hr, by omega, ht⟩
  | x :: r, p, i, bs, hb, hi, hr, ht, h => by
    unfold acceptGo at h
    split at h
    · cases h
    · rename_i h1
      have hx : 0 ≤ x ∧ x < ts.length := by simp [outB] at h1; omega
      obtain ⟨k, rfl⟩ := Int.eq_ofNat_of_zero_le hx.1
      have hk : k < ts.length := by omega
      split at h
      · cases h
      · rename_i h2
        split at h
        · cases h
        · rename_i h3
          rw [needs_at] at h3
          have hnot : (k : Int) ∉ p := fun hm => by rw [(hb.2 k hk).2 hm] at h2; cases h2
          have := topo_acceptGo hN r (p ++ [(k : Int)]) (i + 1) _ (hb.add hk) (by simp [hi]) ⟨?_, fun y hy => ?_⟩ (fun j y hy q hq => ?_) h
          · simpa using this
          · rw [List.nodup_append]
            exact ⟨hr.1, by simp, fun a ha b hb e => by simp at hb; subst hb; exact hnot (e ▸ ha)⟩
          · rcases List.mem_append.1 hy with hy | hy
            · exact hr.2 y hy
            · simp at hy; subst hy; omega
          · by_cases hj : j < p.length
            · rw [List.getElem?_append_left hj] at hy
              rw [List.take_append_of_le_length (by omega)]
              exact ht j y hy q hq
            · have hl := (List.getElem?_eq_some_iff.1 hy).1
              simp at hl
              have hj : j = p.length := by omega
              subst hj
              simp at hy
              subst hy
              rw [List.take_left]
              obtain ⟨t, htk⟩ : ∃ t, ts[k]? = some t := ⟨_, List.getElem?_eq_getElem hk⟩
              have hn : needsOf ts k = t.needs := by simp [needsOf, htk]
              have hq0 := hN t (List.mem_of_getElem? htk) q (hn ▸ hq)
              have h4 := List.any_eq_false.1 h3 q hq
              have := (hb.2 q.toNat (by omega)).1 (by rw [Int.toNat_of_nonneg hq0.1]; simpa using h4)
              rwa [Int.toNat_of_nonneg hq0.1] at this
theorem insB_start (n : Nat) : InsB (List.replicate n false) [] n := ⟨by simp, fun k hk => by simp [inF, hk]⟩
theorem accept_topo {ts : List Tk} (hN : InRange ts) {os : List Int} (h : Topo ts os) : acceptF ts os = (-1, 0) := acceptGo_topo hN os [] 0 _ (insB_start _) rfl h
theorem topo_accept {ts : List Tk} (hN : InRange ts) {os : List Int} (h : (acceptF ts os).2 = 0) : Topo ts os := by
  simpa using topo_acceptGo hN os [] 0 _ (insB_start _) rfl ⟨List.nodup_nil, by simp⟩ (fun i x hx => by simp at hx) h
theorem acc_topo {ts : List Tk} (hc : checkF ts = 0) {os : List Int} (h : Topo ts os) : accF ts os = (-1, 0) := by
  rw [accF, if_pos hc, accept_topo (checkF_zero hc).rng h]
theorem hand_topo {ts : List Tk} (hc : checkF ts = 0) {os : List Int} (h : (handF ts os).2 = 0) : Topo ts os ∧ (handF ts os).1 = cost ts (-1) os := by
  by_cases ha : (accF ts os).2 = 0
  · refine ⟨topo_accept (checkF_zero hc).rng ?_, by rw [handF, if_pos ha]⟩
    rw [(accF_ok ha).2]
    exact ha
  · rw [handF, if_neg ha] at h
    exact absurd h ha
theorem hand_check {ts : List Tk} (hc : checkF ts ≠ 0) (os : List Int) : (handF ts os).2 ≠ 0 := by
  have ha : (accF ts os).2 = checkF ts := by rw [accF, if_neg hc]
  rw [handF, if_neg (by rw [ha]; exact hc), ha]
  exact hc

/-- where two lists first differ, the one that is after the other has the greater -/
theorem After.at {os o : List Int} (h : os = o ∨ After os o) {i : Nat} {a b : Int} (ht : os.take i = o.take i) (ha : os[i]? = some a) (hb : o[i]? = some b) (hne : a ≠ b) : b < a := by
  rcases h with rfl | ⟨j, x, y, h1, h2, h3, h4⟩
  · rw [ha] at hb; injection hb with hb; exact absurd hb hne
  · by_cases e : j = i
    · subst e
      rw [ha] at h2; injection h2 with h2
      rw [hb] at h3; injection h3 with h3
      omega
    · exfalso
      by_cases hlt : j < i
      · have := congrArg (fun l => l[j]?) ht
        simp only [List.getElem?_take_of_lt hlt] at this
        rw [h2, h3] at this
        injection this with this
        omega
      · have := congrArg (fun l => l[i]?) h1
        simp only [List.getElem?_take_of_lt (show i < j by omega)] at this
        rw [ha, hb] at this
        injection this with this
        exact hne this

theorem law_c (a a2 : Option Addr) (n c n2 c2 : Nat) (ts : List Tk) (order : List Int) (w : World) (hT : TasksB w w.heap.size a n ts) (hO : IntsB w w.heap.size a2 n2 order) :
    Con Try.prog 3 #[.slice a n c, .slice a2 n2 c2] w (Ret w fun v _ => v = .bool true) := by
  obtain rfl : n = ts.length := hT.len
  obtain rfl : n2 = order.length := hO.len
  refine ⟨ent3, calls_f Try.func3 (by rfl) (by simp) (by rfl) ?_⟩
  conv => whnf
  refine callE_S (callE_con (Φ := fun _ _ v _ => v = .bool true) (fun ρ w' r => ordered_c w') ?_)
  rintro ρ w' v w2 r he hb rfl
  conv => whnf
  refine callE_S (callE_con (Φ := fun _ _ v _ => v = .bool (fewF ts 8)) (fun ρ w' r => few_c _ _ _ 8 ts w' (hT.up (hb.tr r.bel) (by have := r.size; have := hb.size; omega))) ?_)
  rintro ρ3 w3 v w4 r3 he3 hb3 rfl
  replace hb := hb.tr hb3
  clear he r he3 r3 hb3
  conv => whnf
  refine BrS.mk (fun h1 => ?_) (fun h1 => ?_)
  · conv => whnf
    intro ρ w5 r
    exact ⟨_, rfl, hb.tr r.bel, rfl⟩
  have h1 : fewF ts 8 = true := by simpa using h1
  have hS := fewF_sml h1
  have hn8 := hS.1
  conv => whnf
  refine BrS.mk (fun h2 => ?_) (fun h2 => ?_)
  · conv => whnf
    intro ρ w5 r
    exact ⟨_, rfl, hb.tr r.bel, rfl⟩
  have h2 : order.length ≤ 10 := by have : ¬ (order.length : Int) > 10 := of_decide_eq_false h2
                                    omega
  conv => whnf
  refine callE_S (callE_con (Φ := fun _ _ v _ => v = .tuple #[.int .i64 (handF ts order).1, .int .i64 (handF ts order).2]) (fun ρ w' r => by
    have hs := r.size
    have hs2 := hb.size
    exact hand_c _ _ _ _ _ _ ts order w' (hT.up (hb.tr r.bel) (by omega)) (hO.up (hb.tr r.bel) (by omega)) hS) ?_)
  rintro ρ5 w5 v w6 r5 he5 hb5 rfl
  replace hb := hb.tr hb5
  clear he5 r5 hb5
  conv => whnf
  refine callE_S (callE_con (Φ := fun _ w' v w2 => FewB ts w'.heap.size v w2) (fun ρ w' r => fewest_c _ _ _ ts w' (hT.up (hb.tr r.bel) (by have := r.size; have := hb.size; omega)) hS) ?_)
  rintro ρ7 w7 v w8 r7 he7 hb7 ⟨oa, on, oc, out, sum, rfl, hF⟩
  replace hb := hb.tr hb7
  conv => whnf
  refine callE_S (callE_con (Φ := fun _ w' v w2 => LayRes ts w'.heap.size v w2) (fun ρ w' r => layers_c _ _ _ ts w' (hT.up (hb.tr r.bel) (by have := r.size; have := hb.size; omega)) hS) ?_)
  rintro ρ9 w9 v w10 r9 he9 hb9 ⟨lv, rfl, hL⟩
  replace hb := hb.tr hb9
  conv => whnf
  refine BrS.mk (fun h3 => ?_) (fun h3 => ?_)
  · have h3 : checkF ts ≠ 0 := by simpa using h3
    have h4 : ((handF ts order).2 != 0) = true := by simpa using hand_check h3 order
    conv => whnf
    intro ρ w5 r
    exact ⟨_, rfl, hb.tr r.bel, by rw [← h4]; rfl⟩
  have h3 : checkF ts = 0 := by simpa using h3
  have hO2 := checkF_zero h3
  obtain ⟨hoI, hFirst⟩ := hF h3
  obtain rfl : on = out.length := hoI.len
  obtain ⟨lays, ⟨la, lc, rfl, hlays⟩, hlt, hl9⟩ := hL h3
  have hA1 : Amid w w8 w10 w7.heap.size w8.heap.size := ⟨hb, fun k h4 h5 => (he9.block k (by have := r9.size; omega)).trans (r9.frm k h5 fun id b hb hn he => by cases hb), by have := r9.size; have := he9.size; omega⟩
  have hA2 : Amid w w10 w10 w9.heap.size w10.heap.size := ⟨hb, fun _ _ _ => rfl, Nat.le_refl _⟩
  generalize w7.heap.size = s1 at *
  generalize hs2 : w8.heap.size = s2 at *
  generalize w9.heap.size = s3 at *
  generalize hs4 : w10.heap.size = s4 at *
  clear hF hL he9 r9 hb9 he7 r7 hb7
  have hll : lays.flatten.length = ts.length := hlt.2.1
  conv => whnf
  refine BrS.mk (fun h4 => ?_) (fun h4 => ?_)
  · rw [h3] at h4; cases h4
  conv => whnf
  refine ⟨Nat × World, fun x => ⟨[(0, .o (.v (.slice a ts.length c))), (1, .o (.v (.slice a2 order.length c2))), (5, .o (.v (.int .i64 (handF ts order).1))), (6, .o (.v (.int .i64 (handF ts order).2))), (7, .o (.v (.slice oa out.length oc))), (8, .o (.v (.int .i64 sum))),
      (10, .o (.v (.slice la lays.length lc))), (12, .o (.w 0 (lays.take x.1).flatten.length)), (13, .o (.v (.int .i64 x.1)))],
      [(0, .vec 3 1 ((lays.take x.1).flatten.map (Value.int .i64)))], 1, [(s1, s2), (s3, s4)], x.2⟩, fun x => lays.length - x.1,
    fun x => x.1 ≤ lays.length ∧ Amid w w8 x.2 s1 s2 ∧ Amid w w10 x.2 s3 s4, ?_, ?_⟩
  · intro ρ5 w5 r5
    refine ⟨(0, w5), ⟨by simp, hA1.rel r5 (by simp), hA2.rel r5 (by simp)⟩, Sub.nil 12 3 1 rfl (by simp [ScE, initE, SV.sc, At.sc]) r5 fun ρ1 r1 => ?_⟩
    exact Sub.gen [] r1 ⟨rfl, trivial⟩ ⟨rfl, rfl, rfl, rfl, rfl, rfl, rfl, rfl, rfl, trivial⟩ (by simp [ScH, Blk.scopd, At.sc]) (by simp [ScE, SV.sc, At.sc]) (by rfl) (fun lo hi hm => by simp at hm ⊢; omega)
  · rintro ⟨i, wi⟩ ⟨hi, hA1, hA2⟩
    dsimp only at hi hA1 hA2 ⊢
    conv => whnf
    refine BrS.mk (fun h => ?_) (fun h => ?_)
    · have h : i < lays.length := by simpa using h
      obtain ⟨u, hu⟩ : ∃ u, lays[i]? = some u := ⟨_, List.getElem?_eq_getElem h⟩
      obtain ⟨ad, ua, uc, hla, hadlo, hadc, hui⟩ := hlays i u hu
      have hul := lay_len hu
      have htk : (lays.take (i + 1)).flatten = (lays.take i).flatten ++ u := by rw [List.take_add_one, hu]; simp
      have htl : (lays.take i).flatten.length + u.length ≤ ts.length := by
        have h5 := congrArg (fun l => l.flatten.length) (List.take_append_drop (i + 1) lays)
        simp only [List.flatten_append, List.length_append, htk] at h5
        omega
      conv => whnf
      refine ⟨ad, hla, ⟨by omega, by omega⟩, ?_⟩
      conv => whnf
      refine ⟨.slice ua u.length uc, fun ρ w' r => by rw [Int.toNat_natCast, Nat.mul_one]; exact (hA2.rel r (by simp)).cell hadlo hadc, ?_⟩
      conv => whnf
      refine .inl ?_
      conv => whnf
      refine ⟨u.map (Value.int .i64), by simp, fun x hx => by obtain ⟨y, _, rfl⟩ := List.mem_map.1 hx; rfl, fun ρ w' r hpos => ?_, ?_⟩
      · obtain ⟨y, hy⟩ : ∃ y, u[0]? = some y := ⟨_, List.getElem?_eq_getElem hpos⟩
        obtain ⟨ad2, h5, h6, _⟩ := hui.cell 0 y hy
        refine ⟨ad2, h5, fun j x hx => ?_⟩
        rw [List.getElem?_map] at hx
        cases hj : u[j]? with
        | none => rw [hj] at hx; cases hx
        | some z =>
          rw [hj] at hx
          injection hx with hx
          subst hx
          obtain ⟨ad3, h7, h8, h9⟩ := hui.cell j z hj
          rw [h5] at h7; injection h7 with h7; subst h7
          exact (hA2.rel r (by simp)).cell h8 h9
      conv => whnf
      refine ⟨by simp only [List.length_map, Nat.zero_add, Nat.mul_one], by omega, by unfold maxLen; omega, ?_⟩
      conv => whnf
      refine ⟨((i + 1 : Nat) : Int), by rw [wrap64] <;> omega, ?_⟩
      conv => whnf
      intro ρ5 w5 r5
      refine ⟨(i + 1, w5), ⟨by simp; omega, hA1.rel r5 (by simp), hA2.rel r5 (by simp)⟩, ?_, by simp; omega⟩
      dsimp only
      rw [htk, List.length_append, List.map_append]
      exact Sub.gen [(0, 1)] r5 ⟨rfl, trivial⟩ ⟨rfl, rfl, rfl, rfl, rfl, rfl, rfl, rfl, rfl, trivial⟩ (by simp [ScH, Blk.scopd, At.sc]) (by simp [ScE, SV.sc, At.sc]) (by rfl) (by simp)
    · have hin : i = lays.length := by have : ¬ i < lays.length := by simpa using h
                                       omega
      subst hin
      rw [List.take_length]
      conv => whnf
      refine callE_S (callE_con (Φ := fun _ _ v _ => v = .tuple #[.int .i64 (-1), .int .i64 0]) (fun ρ5 w5 r5 => ?_) ?_)
      · obtain ⟨xa, xc, hden, hxI⟩ := vecInts r5 (id := 0) (xs := lays.flatten) rfl (by omega)
        have := acc_c a xa _ c _ xc ts lays.flatten w5 (hT.up (hA1.bel.tr r5.bel) (by have := r5.size; have := hA1.bel.size; omega)) hxI.b hS
        rw [acc_topo h3 hlt] at this
        rw [← hden] at this
        exact this
      rintro ρ5 w5 v w6 r5 he5 hb5 rfl
      replace hA1 := (hA1.rel r5 (by simp)).call he5
      clear hA2 r5 he5 hb5
      conv => whnf
      refine ⟨by simp only [List.length_map, Nat.zero_add, Nat.mul_one], ?_⟩
      conv => whnf
      refine BrS.mk (fun h4 => ?_) (fun h4 => ?_)
      · rw [hll] at h4; simp at h4
      conv => whnf
      refine BrS.mk (fun h5 => ?_) (fun h5 => ?_)
      · conv => whnf
        intro ρ w5 r
        exact ⟨_, rfl, hA1.bel.tr r.bel, rfl⟩
      have h5 : (handF ts order).2 = 0 := by simpa using h5
      obtain ⟨hot, hoc⟩ := hand_topo h3 h5
      rw [hoc]
      conv => whnf
      refine ⟨Nat × World, fun x => ⟨[(1, .o (.v (.slice a2 order.length c2))), (5, .o (.v (.int .i64 (cost ts (-1) order)))), (7, .o (.v (.slice oa out.length oc))), (8, .o (.v (.int .i64 sum))), (16, .o (.v (.int .i64 x.1)))],
          [], 0, [(s1, s2)], x.2⟩, fun x => order.length - x.1,
        fun x => x.1 ≤ order.length ∧ Amid w w8 x.2 s1 s2 ∧ order.take x.1 = out.take x.1, ?_, ?_⟩
      · intro ρ5 w5 r5
        exact ⟨(0, w5), ⟨by simp, hA1.rel r5 (by simp), by simp⟩, Sub.gen [] r5 trivial ⟨rfl, rfl, rfl, rfl, rfl, trivial⟩ (by simp [ScH]) (by simp [ScE, SV.sc, At.sc]) (by rfl) (by simp)⟩
      · rintro ⟨i, wi⟩ ⟨hi, hA1, htk⟩
        dsimp only at hi hA1 htk ⊢
        have hge : decide (cost ts (-1) order ≥ sum) = true := decide_eq_true (hFirst.le order hot)
        conv => whnf
        refine BrS.mk (fun h => ?_) (fun h => ?_)
        · have h : i < order.length := by simpa using h
          conv => whnf
          refine BrS.mk (fun h6 => ?_) (fun h6 => ?_)
          · have h6 : i < out.length := by simpa using h6
            conv => whnf
            refine BrS.mk (fun h7 => ?_) (fun h7 => ?_)
            · have h7 : cost ts (-1) order = sum := by simpa using h7
              obtain ⟨x, hx⟩ : ∃ x, order[i]? = some x := ⟨_, List.getElem?_eq_getElem h⟩
              obtain ⟨y, hy⟩ : ∃ x, out[i]? = some x := ⟨_, List.getElem?_eq_getElem h6⟩
              obtain ⟨ad, ha, hc⟩ := hO.cell i x hx
              obtain ⟨ad2, ha2, hlo2, hc2⟩ := hoI.cell i y hy
              have hloadx : ∀ (nx : Nat) (iv : Iv) ρ w', Rel [] nx iv w.heap.size wi ρ w' → w'.cell? (ad.add ((i : Int).toNat * 1)) = some (.int .i64 x) := fun nx iv ρ w' r => by
                rw [Int.toNat_natCast, Nat.mul_one]
                exact (hc.bel (hA1.bel.tr r.bel)).2
              have hloady : ∀ ρ w', Rel [] 0 [(s1, s2)] w.heap.size wi ρ w' → w'.cell? (ad2.add ((i : Int).toNat * 1)) = some (.int .i64 y) := fun ρ w' r => by
                rw [Int.toNat_natCast, Nat.mul_one]
                exact (hA1.rel r (by simp)).cell hlo2 hc2
              conv => whnf
              refine drawn_of_pi hτ hmix [.x 0, .x 1, .x 2, .x 3, .x 4, .x 5, .x 6, .x 7, .x 8] (by kernel_rfl) (by kernel_rfl) ?_
              conv => whnf
              refine ⟨ad, ha, ⟨by omega, by omega⟩, ?_⟩
              conv => whnf
              refine ⟨.int .i64 x, hloadx _ _, ?_⟩
              conv => whnf
              refine ⟨ad2, ha2, ⟨by omega, by omega⟩, ?_⟩
              conv => whnf
              refine ⟨.int .i64 y, hloady, ?_⟩
              conv => whnf
              refine BrS.mk (fun h8 => ?_) (fun h8 => ?_)
              · have h8 : x ≠ y := by simpa using h8
                have hgt : decide (x > y) = true := decide_eq_true (After.at (hFirst.lex order hot h7) htk hx hy h8)
                conv => whnf
                refine drawn_of_pi hτ hmix [.x 0, .x 1, .x 2, .x 3, .x 4, .x 5, .x 6, .x 7, .x 8, .x 9] (by kernel_rfl) (by kernel_rfl) ?_
                conv => whnf
                refine ⟨ad, ha, ⟨by omega, by omega⟩, ?_⟩
                conv => whnf
                refine ⟨.int .i64 x, hloadx _ _, ?_⟩
                conv => whnf
                refine ⟨ad2, ha2, ⟨by omega, by omega⟩, ?_⟩
                conv => whnf
                refine ⟨.int .i64 y, hloady, ?_⟩
                conv => whnf
                intro ρ w5 r
                exact ⟨_, rfl, hA1.bel.tr r.bel, by rw [← hgt]; rfl⟩
              · have h8 : x = y := by simpa using h8
                subst h8
                conv => whnf
                refine ⟨((i + 1 : Nat) : Int), by rw [wrap64] <;> omega, ?_⟩
                conv => whnf
                intro ρ5 w5 r5
                exact ⟨(i + 1, w5), ⟨by simp; omega, hA1.rel r5 (by simp), by dsimp only; rw [List.take_add_one, List.take_add_one, hx, hy, htk]⟩, Sub.gen [] r5 trivial ⟨rfl, rfl, rfl, rfl, rfl, trivial⟩ (by simp [ScH]) (by simp [ScE, SV.sc, At.sc]) (by rfl) (by simp), by simp; omega⟩
            · conv => whnf
              intro ρ w5 r
              exact ⟨_, rfl, hA1.bel.tr r.bel, by rw [← hge]; rfl⟩
          · conv => whnf
            intro ρ w5 r
            exact ⟨_, rfl, hA1.bel.tr r.bel, by rw [← hge]; rfl⟩
        · conv => whnf
          intro ρ w5 r
          exact ⟨_, rfl, hA1.bel.tr r.bel, by rw [← hge]; rfl⟩
end Go.Er
