/- A part of the proof of TopFewestHandlings: contracts of functions of package erection, part 10. Their conditions stand in the theorems. -/
import Derived.Test.YtbkpmaflldbfeaaEr9
namespace Go.Er
open Go Go.Sx Go.Proofs

def needsOf (ts : List Tk) (x : Int) : List Int := ((ts[x.toNat]?).map Tk.needs).getD []
def cnt (os needs : List Int) : Nat := needs.countP (fun k => !decide (k ∈ os))
/-- each task of the list stands behind those that it needs -/
def Tpl (ts : List Tk) (os : List Int) : Prop := ∀ (i : Nat) x, os[i]? = some x → ∀ k ∈ needsOf ts x, k ∈ os.take i
def Rng (ts : List Tk) (l : List Int) : Prop := l.Nodup ∧ ∀ x ∈ l, 0 ≤ x ∧ x < ts.length
def Topo (ts : List Tk) (os : List Int) : Prop := Rng ts os ∧ os.length = ts.length ∧ Tpl ts os

/-- in the midst of a task: what it frees is still to be told -/
structure Mid (ts : List Tk) (os rs : List Int) (op : List Int) (R : List Int) : Prop where
  rng : Rng ts (os ++ rs)
  len : op.length = ts.length
  eq : ∀ (k : Nat) y, op[k]? = some y → y = cnt os (needsOf ts k) + R.count (k : Int)
  mem : ∀ (k : Nat) y, op[k]? = some y → ((k : Int) ∈ os ++ rs ↔ y = 0)
  tpl : Tpl ts os
  rr : ∀ x ∈ R, 0 ≤ x ∧ x < ts.length

theorem cnt_cons (os needs : List Int) (a : Int) : cnt os (a :: needs) = cnt os needs + (if a ∈ os then 0 else 1) := by
  unfold cnt
  rw [List.countP_cons]
  by_cases h : a ∈ os <;> simp [h]
theorem cnt_step {os needs : List Int} {x : Int} (h : x ∉ os) : cnt os needs = cnt (os ++ [x]) needs + needs.count x := by
  induction needs with
  | nil => rfl
  | cons a r ih =>
    rw [cnt_cons, cnt_cons, List.count_cons, ih]
    by_cases ha : a = x
    · subst ha
      rw [if_neg h, if_pos (by simp), if_pos (by simp)]
      omega
    · have h1 : (a ∈ os ++ [x]) ↔ a ∈ os := by simp [ha]
      rw [if_neg (show ¬ (a == x) = true by simpa using ha)]
      by_cases h2 : a ∈ os
      · rw [if_pos h2, if_pos (h1.2 h2)]
        omega
      · rw [if_neg h2, if_neg (fun h => h2 (h1.1 h))]
        omega
theorem cnt_zero {os needs : List Int} (h : cnt os needs = 0) : ∀ k ∈ needs, k ∈ os := by
  intro k hk
  unfold cnt at h
  rw [List.countP_eq_zero] at h
  simpa using h k hk
theorem cnt_zero' {os needs : List Int} (h : ∀ k ∈ needs, k ∈ os) : cnt os needs = 0 := by
  unfold cnt
  rw [List.countP_eq_zero]
  intro k hk
  simpa using h k hk

theorem Rng.length_le {ts : List Tk} {l : List Int} (h : Rng ts l) : l.length ≤ ts.length := by
  have h1 : l ⊆ (List.range ts.length).map (fun k : Nat => (k : Int)) := fun x hx => by
    have := h.2 x hx
    rw [List.mem_map]
    exact ⟨x.toNat, by rw [List.mem_range]; omega, by omega⟩
  have := List.Nodup.length_le_of_subset h.1 h1
  simpa using this
theorem Rng.full {ts : List Tk} {l : List Int} (h : Rng ts l) (hl : l.length = ts.length) : ∀ x : Int, 0 ≤ x → x < ts.length → x ∈ l := by
  intro x h0 h1
  apply Decidable.byContradiction
  intro hx
  have h2 : Rng ts (x :: l) := ⟨List.nodup_cons.2 ⟨hx, h.1⟩, fun y hy => by
    rcases List.mem_cons.1 hy with rfl | hy
    · exact ⟨h0, h1⟩
    · exact h.2 y hy⟩
  have := h2.length_le
  simp at this
  omega
theorem Rng.perm {ts : List Tk} {l l' : List Int} (h : Rng ts l) (p : l.Perm l') : Rng ts l' := ⟨p.nodup_iff.1 h.1, fun x hx => h.2 x (p.mem_iff.2 hx)⟩

/-- a ready task is taken -/
theorem Mid.pop {ts : List Tk} {os rs rs' op by_ : List Int} {x : Int} (h : Mid ts os rs op []) (hp : (x :: rs').Perm rs) (hby : ∀ k : Nat, k < ts.length → by_.count (k : Int) = (needsOf ts k).count x) (hr : ∀ y ∈ by_, 0 ≤ y ∧ y < ts.length) :
    Mid ts (os ++ [x]) rs' op by_ := by
  have hperm : (os ++ rs).Perm ((os ++ [x]) ++ rs') := by
    rw [List.append_assoc]
    exact List.Perm.append_left os hp.symm
  have hx : x ∈ os ++ rs := hperm.mem_iff.2 (by simp)
  have hxo : x ∉ os := by
    have := (hperm.nodup_iff.1 h.rng.1)
    rw [List.append_assoc, List.nodup_append] at this
    intro hm
    exact this.2.2 x hm x (by simp) rfl
  refine ⟨h.rng.perm hperm, h.len, fun k y hy => ?_, fun k y hy => ?_, fun i z hz k hk => ?_, hr⟩
  · have h1 := h.eq k y hy
    have hk : k < ts.length := by have := (List.getElem?_eq_some_iff.1 hy).1; have := h.len; omega
    rw [cnt_step hxo, ← hby k hk] at h1
    simp at h1
    exact h1
  · rw [← hperm.mem_iff]; exact h.mem k y hy
  · by_cases hi : i < os.length
    · rw [List.getElem?_append_left hi] at hz
      rw [List.take_append_of_le_length (by omega)]
      exact h.tpl i z hz k hk
    · have hlt := (List.getElem?_eq_some_iff.1 hz).1
      simp at hlt
      have hi : i = os.length := by omega
      subst hi
      simp at hz
      subst hz
      rw [List.take_left]
      have hxr := h.rng.2 x hx
      obtain ⟨y, hy⟩ : ∃ y, op[x.toNat]? = some y := ⟨_, List.getElem?_eq_getElem (by have := h.len; omega)⟩
      have e : ((x.toNat : Nat) : Int) = x := by omega
      have h0 := (h.mem _ y hy).1 (by rw [e]; exact hx)
      have h1 := h.eq _ y hy
      rw [h0, e] at h1
      exact cnt_zero (by simp at h1; omega) k hk
/-- one more is told -/
theorem Mid.tell {ts : List Tk} {os rs op R : List Int} {k : Nat} (h : Mid ts os rs op ((k : Int) :: R)) {y : Int} (hy : op[k]? = some y) :
    1 ≤ y ∧ y ≤ cnt os (needsOf ts k) + R.length + 1 ∧ (y - 1 ≠ 0 → Mid ts os rs (op.set k (y - 1)) R) ∧ ∀ rs', y - 1 = 0 → rs'.Perm ((k : Int) :: rs) → Mid ts os rs' (op.set k (y - 1)) R := by
  have hlt := (List.getElem?_eq_some_iff.1 hy).1
  have h1 := h.eq k y hy
  simp only [List.count_cons, beq_self_eq_true, if_true] at h1
  have hy1 : 1 ≤ y := by omega
  have hnk : (k : Int) ∉ os ++ rs := fun hm => by have := (h.mem k y hy).1 hm; omega
  have heq : ∀ (j : Nat) z, (op.set k (y - 1))[j]? = some z → z = cnt os (needsOf ts j) + R.count (j : Int) := fun j z hz => by
    by_cases hkj : k = j
    · subst hkj
      rw [List.getElem?_set_self hlt] at hz
      injection hz with hz
      omega
    · rw [List.getElem?_set_ne hkj] at hz
      have := h.eq j z hz
      rw [List.count_cons, if_neg (fun e => hkj (by have := eq_of_beq e; omega))] at this
      exact this
  have hkr := h.rr (k : Int) (by simp)
  refine ⟨hy1, ?_, fun hne => ⟨h.rng, by simp [h.len], heq, fun j z hz => ?_, h.tpl, fun x hx => h.rr x (by simp [hx])⟩, fun rs' h0 hp => ⟨?_, by simp [h.len], heq, fun j z hz => ?_, h.tpl, fun x hx => h.rr x (by simp [hx])⟩⟩
  · have := List.count_le_length (a := (k : Int)) (l := R)
    omega
  · by_cases hkj : k = j
    · subst hkj
      rw [List.getElem?_set_self hlt] at hz
      injection hz with hz
      exact ⟨fun hm => absurd hm hnk, fun e => absurd (hz.trans e) hne⟩
    · rw [List.getElem?_set_ne hkj] at hz
      exact h.mem j z hz
  · have hp2 : (os ++ rs').Perm ((k : Int) :: (os ++ rs)) := (List.Perm.append_left os hp).trans List.perm_middle
    refine Rng.perm (l := (k : Int) :: (os ++ rs)) ⟨List.nodup_cons.2 ⟨hnk, h.rng.1⟩, fun x hx => ?_⟩ hp2.symm
    rcases List.mem_cons.1 hx with rfl | hx
    · exact hkr
    · exact h.rng.2 x hx
  · have hp2 : (os ++ rs').Perm ((k : Int) :: (os ++ rs)) := (List.Perm.append_left os hp).trans List.perm_middle
    rw [hp2.mem_iff, List.mem_cons]
    by_cases hkj : k = j
    · subst hkj
      rw [List.getElem?_set_self hlt] at hz
      injection hz with hz
      exact ⟨fun _ => by omega, fun _ => .inl rfl⟩
    · rw [List.getElem?_set_ne hkj] at hz
      rw [← h.mem j z hz]
      exact ⟨fun hm => hm.resolve_left (by omega), .inr⟩
theorem Mid.done {ts : List Tk} {os op : List Int} (h : Mid ts os [] op []) : (os.length = ts.length → Topo ts os) ∧ (os.length < ts.length → ∀ l, ¬ Topo ts l) := by
  have hr : Rng ts os := by have := h.rng; simpa using this
  refine ⟨fun hl => ⟨hr, hl, h.tpl⟩, fun hl l ht => ?_⟩
  -- the first of the other order that is not there
  have key : ∀ i, i ≤ l.length → ∀ x ∈ l.take i, x ∈ os := by
    intro i
    induction i with
    | zero => intro _ x hx; simp at hx
    | succ i ih =>
      intro hi x hx
      have hlt : i < l.length := by omega
      rw [List.take_add_one, List.getElem?_eq_getElem hlt, Option.toList_some, List.mem_append, List.mem_singleton] at hx
      rcases hx with hx | rfl
      · exact ih (by omega) x hx
      · have hxr := ht.1.2 l[i] (List.getElem_mem hlt)
        have hq : (l[i]).toNat < op.length := by have := h.len; omega
        obtain ⟨y, hy⟩ : ∃ y, op[(l[i]).toNat]? = some y := ⟨op[(l[i]).toNat], List.getElem?_eq_getElem hq⟩
        have e : (((l[i]).toNat : Nat) : Int) = l[i] := by omega
        have h1 := h.eq _ y hy
        have h2 := h.mem _ y hy
        rw [e] at h1 h2
        have h0 : cnt os (needsOf ts l[i]) = 0 := cnt_zero' fun k hk => ih (by omega) k (ht.2.2 i l[i] (List.getElem?_eq_getElem hlt) k hk)
        have := h2.2 (by rw [h1, h0]; simp)
        simpa using this
  have hsub : l ⊆ os := fun x hx => key l.length (Nat.le_refl _) x (by simpa using hx)
  have := List.Nodup.length_le_of_subset ht.1.1 hsub
  have := ht.2.1
  omega
end Go.Er
