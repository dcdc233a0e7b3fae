/- A part of the proof of TopFewestHandlings: contracts of functions of package erection, part 5. Their conditions stand in the theorems. -/
import Derived.Test.YtbkpmaflldbfeaaEr4
import Derived.Test.YtbkpmaflldbfeaaSx16
namespace Go.Er
open Go Go.Sx Go.Proofs

def addAll (i : Int) : List Int → List (List Int) → List (List Int)
  | [], us => us
  | k :: r, us => addAll i r (us.modify k.toNat (fun u => u ++ [i]))
def usersGo : List Tk → Nat → List (List Int) → List (List Int)
  | [], _, us => us
  | t :: r, i, us => usersGo r (i + 1) (addAll i t.needs us)
def usersF (ts : List Tk) : List (List Int) := usersGo ts 0 (List.replicate ts.length [])

/-- rows of integers that are held raw -/
structure RowsI (w : World) (B : Nat) (rv : List Value) (us : List (List Int)) : Prop where
  len : rv.length = us.length
  own : ∀ (j : Nat) (v : Value) (u : List Int), rv[j]? = some v → us[j]? = some u → w.ownsRow B 3 1 v u.length (u.map (Value.int .i64))
  dis : ∀ (j j' : Nat) (v v' : Value) (g : Nat), rv[j]? = some v → rv[j']? = some v' → v.ownBlock = some g → v'.ownBlock = some g → j = j'
def rowIv (rv : List Value) : Iv := rv.filterMap fun v => v.ownBlock.map fun g => (g, g + 1)
theorem rowIv_mem {rv : List Value} {lo hi : Nat} : (lo, hi) ∈ rowIv rv ↔ ∃ v ∈ rv, v.ownBlock = some lo ∧ hi = lo + 1 := by
  unfold rowIv
  rw [List.mem_filterMap]
  constructor
  · rintro ⟨v, hv, h⟩
    rw [Option.map_eq_some_iff] at h
    obtain ⟨g, h1, h2⟩ := h
    injection h2 with h2 h3
    exact ⟨v, hv, by rw [h1, h2], by omega⟩
  · rintro ⟨v, hv, h1, h2⟩
    exact ⟨v, hv, by rw [h1, h2]; rfl⟩
theorem RowsI.size {w : World} {B : Nat} {rv : List Value} {us : List (List Int)} (h : RowsI w B rv us) {v : Value} (hv : v ∈ rv) {g : Nat} (hg : v.ownBlock = some g) : B ≤ g ∧ g < w.heap.size := by
  obtain ⟨j, hj⟩ := List.mem_iff_getElem?.1 hv
  obtain ⟨u, hu⟩ : ∃ u, us[j]? = some u := ⟨_, List.getElem?_eq_getElem (by rw [← h.len]; exact (List.getElem?_eq_some_iff.1 hj).1)⟩
  exact ownsRow.low (h.own j v u hj hu) g hg
theorem RowsI.keep {w w2 : World} {B : Nat} {rv : List Value} {us : List (List Int)} (h : RowsI w B rv us) (hk : ∀ v ∈ rv, ∀ g, v.ownBlock = some g → w2.heap[g]? = w.heap[g]?) : RowsI w2 B rv us :=
  ⟨h.len, fun j v u hv hu => ownsRow.keep (h.own j v u hv hu) (hk v (List.mem_of_getElem? hv)), h.dis⟩
/-- seen from a world that goes on -/
theorem RowsI.rel {H : Hp} {nx : Nat} {B : Nat} {w w' : World} {ρ : Nat → Val} {rv : List Value} {us : List (List Int)} (h : RowsI w B rv us) (r : Rel H nx (rowIv rv) B w ρ w') : RowsI w' B rv us :=
  h.keep fun v hv g hg => r.frm g (h.size hv hg).2 fun id b hb hn he => r.prot g (g + 1) (rowIv_mem.2 ⟨v, hv, hg, rfl⟩) id b hb hn (by omega)
theorem rowIv_not {H : Hp} {nx : Nat} {B : Nat} {w w' : World} {ρ : Nat → Val} {rv : List Value} (r : Rel H nx (rowIv rv) B w ρ w') {v : Value} (hv : v ∈ rv) {g : Nat} (hg : v.ownBlock = some g) :
    ∀ id b, getH H id = some b → (ρ id).nil = false → (ρ id).g ≠ g := fun id b hb hn he => r.prot g (g + 1) (rowIv_mem.2 ⟨v, hv, hg, rfl⟩) id b hb hn (by omega)
/-- one row has grown -/
theorem RowsI.grow {w w' : World} {B : Nat} {rv : List Value} {us : List (List Int)} (h : RowsI w B rv us) {k : Nat} {v v' : Value} {u : List Int} {x : Int} (hv : rv[k]? = some v) (hu : us[k]? = some u)
    (h1 : w'.ownsRow B 3 1 v' (u.length + 1) (u.map (Value.int .i64) ++ [.int .i64 x])) (h2 : w.grownBy w' v.ownBlock) (h3 : v'.ownBlock = v.ownBlock ∨ v'.ownBlock = some w.heap.size) :
    RowsI w' B (rv.set k v') (us.modify k (fun u => u ++ [x])) := by
  have hlt := (List.getElem?_eq_some_iff.1 hv).1
  refine ⟨by simp [h.len], fun j w0 u0 hj hu0 => ?_, fun j j' w0 w1 g hj hj' hg hg' => ?_⟩
  · by_cases hjk : k = j
    · subst hjk
      rw [List.getElem?_set_self hlt] at hj
      injection hj with hj; subst hj
      simp only [List.getElem?_modify, hu] at hu0
      simp at hu0
      subst hu0
      simpa using h1
    · rw [List.getElem?_set_ne hjk] at hj
      simp only [List.getElem?_modify, hjk, if_false] at hu0
      have hu0 : us[j]? = some u0 := by simpa using hu0
      refine ownsRow.keep (h.own j w0 u0 hj hu0) fun g hg => h2.block g (h.size (List.mem_of_getElem? hj) hg).2 fun e => hjk (h.dis k j v w0 g hv hj e.symm hg)
  · have hnew : ∀ (j : Nat) (w0 : Value), k ≠ j → rv[j]? = some w0 → w0.ownBlock = some g → v'.ownBlock = some g → False := fun j w0 hjk hj hg hg' => by
      have hs := h.size (List.mem_of_getElem? hj) hg
      rcases h3 with h3 | h3
      · exact hjk (h.dis k j v w0 g hv hj (h3 ▸ hg') hg)
      · rw [h3] at hg'; injection hg' with hg'; omega
    by_cases hjk : k = j <;> by_cases hjk' : k = j'
    · omega
    · subst hjk
      rw [List.getElem?_set_self hlt] at hj
      injection hj with hj; subst hj
      rw [List.getElem?_set_ne hjk'] at hj'
      exact (hnew j' w1 hjk' hj' hg' hg).elim
    · subst hjk'
      rw [List.getElem?_set_self hlt] at hj'
      injection hj' with hj'; subst hj'
      rw [List.getElem?_set_ne hjk] at hj
      exact (hnew j w0 hjk hj hg hg').elim
    · rw [List.getElem?_set_ne hjk] at hj
      rw [List.getElem?_set_ne hjk'] at hj'
      exact h.dis j j' w0 w1 g hj hj' hg hg'

theorem add_block (ad : Addr) (j : Nat) : (ad.add j).block = ad.block := by
  unfold Addr.add
  split <;> rfl
/-- a slice of integers whose block is not below lo -/
structure IntsI (w : World) (lo hi : Nat) (a : Option Addr) (n : Nat) (xs : List Int) : Prop where
  len : n = xs.length
  le : n ≤ 140737488355328
  cell : ∀ (j : Nat) x, xs[j]? = some x → ∃ ad, a = some ad ∧ lo ≤ ad.block ∧ CellB w hi (ad.add j) (.int .i64 x)
theorem IntsI.b {w : World} {lo hi : Nat} {a : Option Addr} {n : Nat} {xs : List Int} (h : IntsI w lo hi a n xs) : IntsB w hi a n xs :=
  ⟨h.len, by have := h.le; omega, fun j x hx => by obtain ⟨ad, h1, _, h2⟩ := h.cell j x hx; exact ⟨ad, h1, h2⟩⟩
/-- where nothing in between is changed -/
theorem IntsI.keep {w w2 : World} {lo hi : Nat} {a : Option Addr} {n : Nat} {xs : List Int} (h : IntsI w lo hi a n xs) (hk : ∀ k, lo ≤ k → k < hi → w2.heap[k]? = w.heap[k]?) : IntsI w2 lo hi a n xs :=
  ⟨h.len, h.le, fun j x hx => by
    obtain ⟨ad, h1, h2, h3⟩ := h.cell j x hx
    exact ⟨ad, h1, h2, h3.1, by rw [cell_of_heap (hk _ (by rw [add_block]; exact h2) h3.1)]; exact h3.2⟩⟩

/-- a list of lists of integers, as a call hands it back -/
def UsersB (w : World) (lo hi : Nat) (v : Value) (us : List (List Int)) : Prop := ∃ g, v = .slice (some ⟨g, 0, none⟩) us.length us.length ∧ lo ≤ g ∧ g < hi ∧
  ∀ (j : Nat) (u : List Int), us[j]? = some u → ∃ a c, CellB w hi ⟨g, j, none⟩ (.slice a u.length c) ∧ IntsI w lo hi a u.length u
theorem UsersB.keep {w w2 : World} {lo hi : Nat} {v : Value} {us : List (List Int)} (h : UsersB w lo hi v us) (hk : ∀ k, lo ≤ k → k < hi → w2.heap[k]? = w.heap[k]?) : UsersB w2 lo hi v us := by
  obtain ⟨g, h1, h2, h3, h4⟩ := h
  refine ⟨g, h1, h2, h3, fun j u hu => ?_⟩
  obtain ⟨a, c, h5, h6⟩ := h4 j u hu
  exact ⟨a, c, ⟨h5.1, by rw [cell_of_heap (hk _ h2 h3)]; exact h5.2⟩, h6.keep hk⟩
theorem IntsI.ofRow {w : World} {B : Nat} {v : Value} {u : List Int} (h : w.ownsRow B 3 1 v u.length (u.map (Value.int .i64))) (hl : u.length ≤ 140737488355328) : ∃ a c, v = .slice a u.length c ∧ IntsI w B w.heap.size a u.length u := by
  rcases h.2 with ⟨rfl, h0⟩ | ⟨g, cap, cur, rfl, hb, hc, _, _, hcs, ht⟩
  · exact ⟨none, 0, by rw [h0], rfl, hl, fun j x hx => by have : u = [] := List.eq_nil_of_length_eq_zero h0
                                                          subst this; simp at hx⟩
  · refine ⟨some ⟨g, 0, none⟩, cap, rfl, rfl, hl, fun j x hx => ⟨_, rfl, hb, ?_⟩⟩
    rw [add_zero_addr]
    refine ⟨(Array.getElem?_eq_some_iff.1 hc).1, ?_⟩
    have h1 : (cur.toList.take (u.length * 1))[j]? = some (.int .i64 x) := by rw [ht]; simp [hx]
    simp only [List.getElem?_take] at h1
    split at h1
    · have hc : w.heap[g]? = some (.cells cur.toList.toArray 3 (0, 0)) := by simpa using hc
      rw [cell_of hc]; exact h1
    · cases h1
end Go.Er
