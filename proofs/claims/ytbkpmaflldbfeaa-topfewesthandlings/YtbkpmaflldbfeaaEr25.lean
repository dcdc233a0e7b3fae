/- A part of the proof of TopFewestHandlings: contracts of functions of package erection, part 25. Their conditions stand in the theorems. -/
import Derived.Test.YtbkpmaflldbfeaaEr24
namespace Go.Er
open Go Go.Sx Go.Proofs

theorem nodup_ne {l : List Int} (h : l.Nodup) {i j : Nat} (hij : i < j) {x : Int} (hi : l[i]? = some x) (hj : l[j]? = some x) : False := by
  obtain ⟨hil, e1⟩ := List.getElem?_eq_some_iff.1 hi
  obtain ⟨hjl, e2⟩ := List.getElem?_eq_some_iff.1 hj
  exact (List.pairwise_iff_getElem.1 h) i j hil hjl hij (e1.trans e2.symm)
def at0 (dp : List Int) (x : Int) : Int := dp.getD x.toNat 0
/-- depths, after so many tasks of an order -/
structure Dep (ts : List Tk) (os : List Int) (i : Nat) (dp : List Int) : Prop where
  len : dp.length = ts.length
  bd : ∀ (k : Nat) y, dp[k]? = some y → 0 ≤ y ∧ y ≤ i
  lt : ∀ (j : Nat) x, j < i → os[j]? = some x → ∀ q ∈ needsOf ts x, at0 dp q < at0 dp x
/-- in the midst of the needs of the task x -/
structure DepIn (ts : List Tk) (os : List Int) (i : Nat) (x : Int) (j : Nat) (dp : List Int) : Prop where
  len : dp.length = ts.length
  bd : ∀ (k : Nat) y, dp[k]? = some y → 0 ≤ y ∧ y ≤ i + 1 ∧ ((k : Int) ≠ x → y ≤ i)
  lt : ∀ (j : Nat) x, j < i → os[j]? = some x → ∀ q ∈ needsOf ts x, at0 dp q < at0 dp x
  cur : ∀ q ∈ (needsOf ts x).take j, at0 dp q < at0 dp x
theorem Dep.start (ts : List Tk) (os : List Int) : Dep ts os 0 (List.replicate ts.length 0) :=
  ⟨by simp, fun k y h => (by
    simp only [List.getElem?_replicate] at h
    split at h
    · injection h with h; subst h; exact ⟨by omega, by omega⟩
    · cases h), fun j x h => by omega⟩
theorem Dep.enter {ts : List Tk} {os : List Int} {i : Nat} {dp : List Int} (h : Dep ts os i dp) (x : Int) : DepIn ts os i x 0 dp :=
  ⟨h.len, fun k y hy => by have := h.bd k y hy; exact ⟨by omega, by omega, fun _ => by omega⟩, h.lt, by simp⟩
theorem at0_set {dp : List Int} {k : Nat} {y : Int} (hk : k < dp.length) : at0 (dp.set k y) k = y := by simp [at0, hk]
theorem at0_ne {dp : List Int} {k : Nat} {x y : Int} (h : x.toNat ≠ k) : at0 (dp.set k y) x = at0 dp x := by
  simp only [at0, List.getD_eq_getElem?_getD]
  rw [List.getElem?_set_ne (Ne.symm h)]
theorem DepIn.step {ts : List Tk} {os dp : List Int} {i j x k : Nat} (h : DepIn ts os i x j dp) (ht : Topo ts os) (hx : os[i]? = some (x : Int)) (hk : (needsOf ts x)[j]? = some (k : Int)) {dx dk : Int} (h1 : dp[x]? = some dx) (h2 : dp[k]? = some dk) :
    DepIn ts os i x (j + 1) (dp.set x (max dx (dk + 1))) := by
  have hxl := (List.getElem?_eq_some_iff.1 h1).1
  have hkx : k ≠ x := fun e => by
    have h3 := ht.2.2 i x hx _ (List.mem_of_getElem? hk)
    rw [e] at h3
    obtain ⟨m, hm⟩ := List.mem_iff_getElem?.1 h3
    have hml := (List.getElem?_eq_some_iff.1 hm).1
    simp only [List.length_take] at hml
    rw [List.getElem?_take_of_lt (by omega)] at hm
    exact nodup_ne ht.1.1 (by omega) hm hx
  have hbx := h.bd x dx h1
  have hbk := h.bd k dk h2
  have hbk2 := hbk.2.2 (by omega)
  have hax : at0 dp x = dx := by simp [at0, h1]
  have hak : at0 dp k = dk := by simp [at0, h2]
  have hnew : at0 (dp.set x (max dx (dk + 1))) x = max dx (dk + 1) := at0_set hxl
  refine ⟨by simp [h.len], fun m y hy => ?_, fun j2 x2 hj2 hx2 q hq => ?_, fun q hq => ?_⟩
  · by_cases e : x = m
    · subst e
      rw [List.getElem?_set_self hxl] at hy
      injection hy with hy
      exact ⟨by omega, by omega, fun hne => absurd rfl hne⟩
    · rw [List.getElem?_set_ne e] at hy
      exact h.bd m y hy
  · have hqt := ht.2.2 j2 x2 hx2 q hq
    have hr2 := ht.1.2 x2 (List.mem_of_getElem? hx2)
    have hne : ∀ m, m < i → os[m]? ≠ some (x : Int) := fun m hm e => by
      exact nodup_ne ht.1.1 hm e hx
    have hx2n : x2.toNat ≠ x := fun e => hne j2 hj2 (by rw [hx2]; congr 1; omega)
    have hqn : q.toNat ≠ x := fun e => by
      obtain ⟨m, hm⟩ := List.mem_iff_getElem?.1 hqt
      have hml := (List.getElem?_eq_some_iff.1 hm).1
      simp only [List.length_take] at hml
      rw [List.getElem?_take_of_lt (by omega)] at hm
      have hq0 := (ht.1.2 q (List.mem_of_getElem? hm)).1
      exact hne m (by omega) (by rw [hm]; congr 1; omega)
    rw [at0_ne hx2n, at0_ne hqn]
    exact h.lt j2 x2 hj2 hx2 q hq
  · rw [hnew]
    rw [List.take_add_one, hk] at hq
    have hqn : q.toNat ≠ x := fun e => by
      have hqm : q ∈ needsOf ts x := by
        rcases List.mem_append.1 hq with h3 | h3
        · exact List.mem_of_mem_take h3
        · simp at h3; rw [h3]; exact List.mem_of_getElem? hk
      have hqt := ht.2.2 i x hx q hqm
      obtain ⟨m, hm⟩ := List.mem_iff_getElem?.1 hqt
      have hml := (List.getElem?_eq_some_iff.1 hm).1
      simp only [List.length_take] at hml
      rw [List.getElem?_take_of_lt (by omega)] at hm
      have hq0 := (ht.1.2 q (List.mem_of_getElem? hm)).1
      exact nodup_ne ht.1.1 (show m < i by omega) (by rw [hm]; congr 1; omega) hx
    rw [at0_ne hqn]
    rcases List.mem_append.1 hq with h3 | h3
    · have := h.cur q h3
      rw [hax] at this
      omega
    · simp at h3
      subst h3
      rw [hak]
      omega
theorem DepIn.done {ts : List Tk} {os dp : List Int} {i : Nat} {x : Int} {j : Nat} (h : DepIn ts os i x j dp) (hx : os[i]? = some x) (hj : (needsOf ts x).length ≤ j) : Dep ts os (i + 1) dp :=
  ⟨h.len, fun k y hy => by have := h.bd k y hy; exact ⟨by omega, by omega⟩, fun j2 x2 hj2 hx2 q hq => by
    by_cases e : j2 = i
    · subst e
      rw [hx] at hx2
      injection hx2 with hx2
      subst hx2
      exact h.cur q (by rw [List.take_of_length_le hj]; exact hq)
    · exact h.lt j2 x2 (by omega) hx2 q hq⟩
/-- depths that grow along the needs -/
structure Deep (ts : List Tk) (dp : List Int) : Prop where
  len : dp.length = ts.length
  bd : ∀ (k : Nat) y, dp[k]? = some y → 0 ≤ y ∧ y ≤ ts.length
  lt : ∀ x : Int, 0 ≤ x → x < ts.length → ∀ q ∈ needsOf ts x, at0 dp q < at0 dp x
theorem Dep.deep {ts : List Tk} {os dp : List Int} (h : Dep ts os os.length dp) (ht : Topo ts os) : Deep ts dp :=
  ⟨h.len, fun k y hy => by have := h.bd k y hy; rw [ht.2.1] at this; exact this, fun x h0 h1 q hq => by
    obtain ⟨j, hj⟩ := List.mem_iff_getElem?.1 (ht.1.full ht.2.1 x h0 h1)
    exact h.lt j x (List.getElem?_eq_some_iff.1 hj).1 hj q hq⟩

/-- layers, after so many tasks -/
structure Lay (dp : List Int) (j : Nat) (lays : List (List Int)) : Prop where
  eq : ∀ (d : Nat) u, lays[d]? = some u → ∀ y ∈ u, at0 dp y = d
  perm : lays.flatten.Perm ((List.range j).map fun k : Nat => (k : Int))
theorem Lay.start (dp : List Int) : Lay dp 0 [] := ⟨by simp, by simp⟩
theorem Lay.room {dp : List Int} {j : Nat} {lays : List (List Int)} (h : Lay dp j lays) : Lay dp j (lays ++ [[]]) :=
  ⟨fun d u hu y hy => (by
    by_cases hd : d < lays.length
    · rw [List.getElem?_append_left hd] at hu
      exact h.eq d u hu y hy
    · rw [List.getElem?_append_right (by omega)] at hu
      have hl := (List.getElem?_eq_some_iff.1 hu).1
      simp at hl
      rw [show d - lays.length = 0 by omega] at hu
      simp at hu
      subst hu
      cases hy), by simpa using h.perm⟩
theorem flatten_modify (y : Int) : ∀ (lays : List (List Int)) (d : Nat), d < lays.length → (lays.modify d (fun u => u ++ [y])).flatten.Perm (lays.flatten ++ [y])
  | [], d, h => by simp at h
  | u :: r, 0, _ => by
    simp only [List.modify_zero_cons, List.flatten_cons, List.append_assoc]
    exact List.Perm.append_left u List.perm_append_comm
  | u :: r, d + 1, h => by
    simp only [List.modify_succ_cons, List.flatten_cons, List.append_assoc]
    exact List.Perm.append_left u (flatten_modify y r d (by simpa using h))
theorem Lay.put {dp : List Int} {j d : Nat} {lays : List (List Int)} (h : Lay dp j lays) (hd : d < lays.length) (hj : dp[j]? = some (d : Int)) : Lay dp (j + 1) (lays.modify d (fun u => u ++ [(j : Int)])) := by
  refine ⟨fun e u hu y hy => ?_, ?_⟩
  · simp only [List.getElem?_modify] at hu
    by_cases hde : d = e
    · subst hde
      cases hl : lays[d]? with
      | none => rw [hl] at hu; simp at hu
      | some u0 =>
        rw [hl] at hu
        simp at hu
        subst hu
        rcases List.mem_append.1 hy with hy | hy
        · exact h.eq d u0 hl y hy
        · simp at hy
          subst hy
          simp [at0, hj]
    · have hu : lays[e]? = some u := by simpa [hde] using hu
      exact h.eq e u hu y hy
  · refine (flatten_modify (j : Int) lays d hd).trans ?_
    rw [List.range_succ, List.map_append]
    exact List.Perm.append_right _ h.perm
theorem flat_before (f : Int → Int) : ∀ (lays : List (List Int)) (d0 : Nat), (∀ (d : Nat) u, lays[d]? = some u → ∀ y ∈ u, f y = (d0 + d : Nat)) → ∀ (i : Nat) (x q : Int), lays.flatten[i]? = some x → q ∈ lays.flatten → f q < f x → q ∈ lays.flatten.take i
  | [], _, _, i, x, q, hx, _, _ => by simp at hx
  | u :: r, d0, h, i, x, q, hx, hq, hlt => by
    have hu := h 0 u rfl
    have hr : ∀ (d : Nat) v, r[d]? = some v → ∀ y ∈ v, f y = (d0 + 1 + d : Nat) := fun d v hv y hy => by
      have := h (d + 1) v hv y hy
      omega
    have hge : ∀ y ∈ r.flatten, f y ≥ d0 + 1 := fun y hy => by
      obtain ⟨v, hv, hyv⟩ := List.mem_flatten.1 hy
      obtain ⟨d, hd⟩ := List.mem_iff_getElem?.1 hv
      have := hr d v hd y hyv
      omega
    rw [List.flatten_cons] at hx hq ⊢
    by_cases hi : i < u.length
    · rw [List.getElem?_append_left hi] at hx
      have h1 := hu x (List.mem_of_getElem? hx)
      rcases List.mem_append.1 hq with hq | hq
      · have := hu q hq; omega
      · have := hge q hq; omega
    · rw [List.getElem?_append_right (by omega)] at hx
      rw [List.take_append, List.take_of_length_le (by omega)]
      rcases List.mem_append.1 hq with hq | hq
      · exact List.mem_append_left _ hq
      · exact List.mem_append_right _ (flat_before f r (d0 + 1) hr _ x q hx hq hlt)
theorem Lay.topo {ts : List Tk} {dp : List Int} {lays : List (List Int)} (h : Lay dp ts.length lays) (hD : Deep ts dp) (hN : InRange ts) : Topo ts lays.flatten := by
  have hmem : ∀ x : Int, x ∈ lays.flatten ↔ 0 ≤ x ∧ x < ts.length := fun x => by
    rw [h.perm.mem_iff, List.mem_map]
    constructor
    · rintro ⟨k, hk, rfl⟩
      rw [List.mem_range] at hk
      omega
    · intro hx
      exact ⟨x.toNat, List.mem_range.2 (by omega), by omega⟩
  have hnd : ((List.range ts.length).map fun k : Nat => (k : Int)).Nodup := List.Pairwise.map _ (fun a b hab e => hab (by omega)) List.nodup_range
  refine ⟨⟨h.perm.nodup_iff.2 hnd, fun x hx => (hmem x).1 hx⟩, by rw [h.perm.length_eq]; simp, fun i x hx q hq => ?_⟩
  have hxr := (hmem x).1 (List.mem_of_getElem? hx)
  obtain ⟨t, ht⟩ : ∃ t, ts[x.toNat]? = some t := ⟨_, List.getElem?_eq_getElem (by omega)⟩
  have hn : needsOf ts x = t.needs := by simp [needsOf, ht]
  have hqr := hN t (List.mem_of_getElem? ht) q (hn ▸ hq)
  exact flat_before (at0 dp) lays 0 (fun d u hu y hy => by have := h.eq d u hu y hy; omega) i x q hx ((hmem q).2 hqr) (hD.lt x hxr.1 hxr.2 q hq)
end Go.Er
