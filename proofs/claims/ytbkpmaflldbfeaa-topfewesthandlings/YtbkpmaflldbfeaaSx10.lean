/- A region that draws its order, by one order of its own: what only reads goes first, what only makes a block is looked at early. -/
import Derived.Test.YtbkpmaflldbfeaaSx9
namespace Go.Sx
open Go

inductive It where
  | x (i : Nat)
  | p (i : Nat)

def delEK : Env → Nat → (Env → Prop) → Prop
  | [], _, k => k []
  | (t, v) :: r, u, k => match Nat.beq t u with
    | true => delEK r u k
    | false => delEK r u (fun r' => k ((t, v) :: r'))
def delO (d : Option Tmp) (l : Env) (k : Env → Prop) : Prop := match d with
  | some t => delEK l t k
  | none => k l
def nthK : List Oper → Nat → (Oper → Prop) → Prop
  | [], _, _ => False
  | o :: _, 0, k => k o
  | _ :: r, n + 1, k => nthK r n k

def sxPi (P : Program) (τ : Tab) (B : Nat) (all : List Oper) : List It → Env → Hp → Nat → Iv → World → KT → Prop
  | [], l, H, nx, iv, w, K => K l H nx iv w
  | .x i :: r, l, H, nx, iv, w, K => nthK all i (fun o => sxStep true P τ B all o l H nx iv w (fun l' H' nx' iv' w' => sxPi P τ B all r l' H' nx' iv' w' K))
  | .p i :: r, l, H, nx, iv, w, K => nthK all i (fun o => sxOp true P τ B o l H nx iv w (fun _ _ _ _ _ => delO o.dst l (fun l' => sxPi P τ B all r l' H nx iv w K)))

def apAt (ops : Array Oper) (o : Oper) (j : Nat) : Bool := match ops[j]? with
  | some oj => o.apart ops oj
  | none => false
def lst (la : Array Bool) : List Nat → Array Bool
  | [] => la
  | i :: r => lst (la.setIfInBounds i true) r
/-- all that may come up while i has not -/
def reach (ops : Array Oper) (i : Nat) : Nat → Array Bool → Array Bool
  | 0, la => la
  | f + 1, la => match (Region.ready .any ops la).filter (fun j => !Nat.beq j i) with
    | [] => la
    | r => reach ops i f (lst la r)
/-- what cannot come up before i has -/
def blkB (r : Array Bool) (i : Nat) (j : Nat) : Bool := !Nat.beq j i && !r.getD j true
def freeB (ops : Array Oper) (lx : Array Bool) (r : Array Bool) (i : Nat) (oi : Oper) : Bool :=
  (List.range ops.size).all fun j => Nat.beq j i || lx.getD j true || match ops[j]? with
    | some oj => (blkB r i j && oj.after.any (fun e => Region.binds .any e && (Nat.beq e.on i || blkB r i e.on))) || (!blkB r i j && (oi.apart ops oj && (isP oi.op || !hard oj)))
    | none => true
def freeH (ops : Array Oper) (lx : Array Bool) (Pd : List Nat) (i : Nat) (oi : Oper) : Bool :=
  let r := reach ops i ops.size lx
  Nat.beq r.size lx.size && (List.range ops.size).all (fun j => !lx.getD j false || r.getD j false) && Pd.all (fun j => !blkB r i j) && freeB ops lx r i oi
def chkPi (ops : Array Oper) : List It → Array Bool → List Nat → Bool
  | [], lx, Pd => (Region.ready .any ops lx).isEmpty && Pd.isEmpty
  | .p i :: r, lx, Pd => match ops[i]? with
    | none => false
    | some o => isA o.op && o.guard.isNone && (match o.dst with
          | some d => !(o.looksAt ops).contains d
          | none => false) && (!lx.getD i true) && Pd.all (fun j => !Nat.beq j i) &&
        Pd.all (fun j => apAt ops o j && (match ops[j]? with
          | some oj => oj.apart ops o
          | none => false)) && chkPi ops r lx (i :: Pd)
  | .x i :: r, lx, Pd => match ops[i]? with
    | none => false
    | some o => (o.guard.isNone || Pd.isEmpty) && (Region.ready .any ops lx).contains i &&
        Pd.all (fun j => Nat.beq j i || apAt ops o j) &&
        (match isR o.op with
         | true => freeH ops lx Pd i o
         | false => (!hard o || Pd.isEmpty) && (Region.ready .any ops (lst lx (Pd.filter fun j => !Nat.beq j i))).all (fun j => Nat.beq j i)) &&
        chkPi ops r (lx.setIfInBounds i true) (Pd.filter fun j => !Nat.beq j i)

theorem getD_flip {la : Array Bool} {j : Nat} (h : j < la.size) (b c : Bool) : la.getD j b = la.getD j c := by
  rw [Array.getD_eq_getD_getElem?, Array.getD_eq_getD_getElem?, Array.getElem?_eq_getElem h]; rfl
theorem freeH_spec {ops : Array Oper} {lx : Array Bool} {Pd : List Nat} {i : Nat} {oi : Oper} (h : freeH ops lx Pd i oi = true) (hs : lx.size = ops.size) : ∃ blk : Nat → Prop,
    (∀ j, blk j → ∃ oj e, ops[j]? = some oj ∧ e ∈ oj.after ∧ Region.binds .any e = true ∧ (e.on = i ∨ blk e.on)) ∧ (∀ j, blk j → lx.getD j false = false) ∧ (∀ j ∈ Pd, ¬ blk j) ∧
    ∀ j oj, ops[j]? = some oj → j ≠ i → lx.getD j true = false → ¬ blk j → oi.apart ops oj = true ∧ (isP oi.op = true ∨ hard oj = false) := by
  simp only [freeH, Bool.and_eq_true] at h
  obtain ⟨⟨⟨h0, h1⟩, h2⟩, h3⟩ := h
  generalize reach ops i ops.size lx = r at *
  have h0 : r.size = lx.size := beq_t h0
  have hsub : ∀ j, j < ops.size → lx.getD j false = true → r.getD j false = true := fun j hj hl => by
    have := List.all_eq_true.1 h1 j (List.mem_range.2 hj)
    rw [hl] at this
    simpa using this
  have hun : ∀ j, j < ops.size → blkB r i j = true → lx.getD j false = false := fun j hj hb => by
    simp only [blkB, Bool.and_eq_true, Bool.not_eq_true'] at hb
    cases hl : lx.getD j false with
    | false => rfl
    | true =>
      have h4 := hsub j hj hl
      rw [getD_flip (by omega) true false, h4] at hb
      cases hb.2
  refine ⟨fun j => blkB r i j = true ∧ j < ops.size, fun j hj => ?_, fun j hj => hun j hj.2 hj.1, fun j hj hb => ?_, fun j oj hoj hji hl hb => ?_⟩
  · obtain ⟨hb, hj⟩ := hj
    have h4 := List.all_eq_true.1 h3 j (List.mem_range.2 hj)
    have hji : Nat.beq j i = false := by
      simp only [blkB, Bool.and_eq_true, Bool.not_eq_true'] at hb
      exact hb.1
    have hl : lx.getD j true = false := by rw [getD_flip (by omega) true false]; exact hun j hj hb
    simp only [hji, hl, Array.getElem?_eq_getElem hj, hb, Bool.not_true, Bool.false_and, Bool.or_false, Bool.false_or, Bool.true_and] at h4
    obtain ⟨e, he, hbi⟩ := Array.any_eq_true'.1 h4
    simp only [Bool.and_eq_true, Bool.or_eq_true] at hbi
    refine ⟨_, e, Array.getElem?_eq_getElem hj, he, hbi.1, ?_⟩
    rcases hbi.2 with h5 | h5
    · exact .inl (beq_t h5)
    · by_cases hlt : e.on < ops.size
      · exact .inr ⟨h5, hlt⟩
      · simp only [blkB, Bool.and_eq_true, Bool.not_eq_true'] at h5
        have : r.getD e.on true = true := by rw [Array.getD_eq_getD_getElem?, Array.getElem?_eq_none (by omega)]; rfl
        rw [this] at h5; cases h5.2
  · have := List.all_eq_true.1 h2 j hj
    rw [hb.1] at this; cases this
  · have hj := (Array.getElem?_eq_some_iff.1 hoj).1
    have h4 := List.all_eq_true.1 h3 j (List.mem_range.2 hj)
    have hji : Nat.beq j i = false := by
      cases hbb : Nat.beq j i with
      | false => rfl
      | true => exact absurd (beq_t hbb) hji
    have hbf : blkB r i j = false := by
      cases hbb : blkB r i j with
      | false => rfl
      | true => exact absurd ⟨hbb, hj⟩ hb
    simp only [hji, hl, hoj, hbf, Bool.false_and, Bool.false_or, Bool.not_false, Bool.true_and, Bool.and_eq_true, Bool.or_eq_true, Bool.not_eq_true'] at h4
    exact h4

theorem mem_ready' {ops : Array Oper} {la : Array Bool} {j : Nat} : j ∈ Region.ready .any ops la ↔
    la[j]? = some false ∧ ∃ o, ops[j]? = some o ∧ ∀ e ∈ o.after, Region.binds .any e = true → la[e.on]? = some true := by
  rw [mem_ready]
  have h1 : la.getD j true = false ↔ la[j]? = some false := by
    rw [Array.getD_eq_getD_getElem?]
    cases la[j]? with
    | none => simp
    | some b => simp
  have h2 : ∀ k, la.getD k false = true ↔ la[k]? = some true := fun k => by
    rw [Array.getD_eq_getD_getElem?]
    cases la[k]? with
    | none => simp
    | some b => simp
  simp only [h1, h2]
theorem set_true {la : Array Bool} {i j : Nat} : (la.setIfInBounds i true)[j]? = some true ↔ la[j]? = some true ∨ (j = i ∧ j < la.size) := by
  rw [Array.getElem?_setIfInBounds]
  split
  · rename_i h; subst h
    by_cases hs : i < la.size
    · simp [hs]
    · simp [hs]
  · rename_i h
    simp [Ne.symm h]
theorem lst_size : ∀ (Pd : List Nat) (la : Array Bool), (lst la Pd).size = la.size
  | [], _ => rfl
  | i :: r, la => by simp [lst, lst_size r]
theorem lst_true : ∀ (Pd : List Nat) (la : Array Bool) (j : Nat), (lst la Pd)[j]? = some true ↔ la[j]? = some true ∨ (j ∈ Pd ∧ j < la.size)
  | [], _, _ => by simp [lst]
  | i :: r, la, j => by
    rw [lst, lst_true r, set_true]
    simp only [Array.size_setIfInBounds, List.mem_cons]
    constructor
    · rintro ((h | ⟨h, hs⟩) | ⟨h, hs⟩)
      · exact .inl h
      · exact .inr ⟨.inl h, hs⟩
      · exact .inr ⟨.inr h, hs⟩
    · rintro (h | ⟨h | h, hs⟩)
      · exact .inl (.inl h)
      · exact .inl (.inr ⟨h, hs⟩)
      · exact .inr ⟨h, hs⟩

/-- how many have not come up -/
def unl (la : Array Bool) : Nat := la.toList.countP (fun b => !b)
theorem unl_set {la : Array Bool} {i : Nat} (h : la[i]? = some false) : unl (la.setIfInBounds i true) + 1 = unl la := by
  obtain ⟨hi, he⟩ := Array.getElem?_eq_some_iff.1 h
  have hi' : i < la.toList.length := by simpa using hi
  have hpos : 0 < la.toList.countP (fun b => !b) := List.countP_pos_iff.2 ⟨false, by
    have : la[i] ∈ la := Array.getElem_mem hi
    rw [he] at this
    simpa using this, rfl⟩
  unfold unl
  rw [Array.toList_setIfInBounds, List.countP_set hi']
  simp only [Array.getElem_toList, he]
  simp only [Bool.not_false, if_true, Bool.not_true, Bool.false_eq_true, if_false, Nat.add_zero]
  exact Nat.sub_add_cancel hpos

theorem delEK_spec : ∀ {l : Env} {u : Nat} {k : Env → Prop}, delEK l u k → ∃ l', k l' ∧ getE l' u = none ∧ ∀ t v, getE l' t = some v → t ≠ u ∧ getE l t = some v
  | [], u, k, h => ⟨[], h, rfl, fun t v h => by cases h⟩
  | (t0, v0) :: r, u, k, h => by
    unfold delEK at h
    split at h
    · rename_i hb
      have hb := beq_t hb
      obtain ⟨l', h1, h2, h3⟩ := delEK_spec h
      refine ⟨l', h1, h2, fun t v hv => ⟨(h3 t v hv).1, ?_⟩⟩
      rw [getE_cons, if_neg (fun e => (h3 t v hv).1 (e.symm.trans hb))]
      exact (h3 t v hv).2
    · rename_i hb
      have hne : t0 ≠ u := fun e => by subst e; rw [Nat.beq_refl] at hb; cases hb
      obtain ⟨l', h1, h2, h3⟩ := delEK_spec h
      refine ⟨_, h1, ?_, fun t v hv => ?_⟩
      · rw [getE_cons, if_neg hne]; exact h2
      · rw [getE_cons] at hv ⊢
        split at hv
        · rename_i e; subst e; exact ⟨hne, by simpa using hv⟩
        · rename_i e; rw [if_neg e]; exact h3 t v hv
theorem nthK_spec : ∀ {all : List Oper} {i : Nat} {k : Oper → Prop}, nthK all i k → ∃ o, all[i]? = some o ∧ k o
  | [], _, _, h => h.elim
  | o :: _, 0, _, h => ⟨o, rfl, h⟩
  | _ :: r, n + 1, _, h => by obtain ⟨o, h1, h2⟩ := nthK_spec (all := r) h; exact ⟨o, by simpa using h1, h2⟩

end Go.Sx
