/- Tables by one check of the kernel; calls. -/
import Derived.Test.YtbkpmaflldbfeaaSx12
namespace Go.Sx
open Go

def tabLook : List (Nat × TI) → Nat → Option TI
  | [], _ => none
  | (t, v) :: r, u => match Nat.beq t u with
    | true => some v
    | false => tabLook r u

def veq : Value → Value → Bool
  | .bool a, .bool b => a == b
  | .int k n, .int j m => kindEq k j && decide (n = m)
  | .string a, .string b => a.data.toList.isEmpty && b.data.toList.isEmpty
  | .pointer none, .pointer none => true
  | .slice none a b, .slice none c d => Nat.beq a c && Nat.beq b d
  | .map none, .map none => true
  | .nilFunc, .nilFunc => true
  | .nilIface, .nilIface => true
  | _, _ => false
theorem kindEq_eq {a b : IntKind} (h : kindEq a b = true) : a = b := by cases a <;> cases b <;> first | rfl | cases h
theorem veq_eq {a b : Value} (h : veq a b = true) : a = b ∧ a.oneCell' = true := by
  unfold veq at h
  split at h
  · exact ⟨by rw [eq_of_beq h], rfl⟩
  · simp only [Bool.and_eq_true, decide_eq_true_eq] at h
    exact ⟨by rw [kindEq_eq h.1, h.2], rfl⟩
  · rename_i a b
    simp only [Bool.and_eq_true, List.isEmpty_iff] at h
    refine ⟨?_, rfl⟩
    have ha : a = ⟨#[]⟩ := by
      obtain ⟨⟨l⟩⟩ := a
      simp only at h
      rw [h.1]
    have hb : b = ⟨#[]⟩ := by
      obtain ⟨⟨l⟩⟩ := b
      simp only at h
      rw [h.2]
    rw [ha, hb]
  · exact ⟨rfl, rfl⟩
  · simp only [Bool.and_eq_true] at h
    exact ⟨by rw [beq_t h.1, beq_t h.2], rfl⟩
  · exact ⟨rfl, rfl⟩
  · exact ⟨rfl, rfl⟩
  · exact ⟨rfl, rfl⟩
  · cases h
def veqs : List Value → List Value → Bool
  | [], [] => true
  | a :: r, b :: s => veq a b && veqs r s
  | _, _ => false
theorem veqs_eq : ∀ {a b : List Value}, veqs a b = true → a = b ∧ ∀ x ∈ b, x.oneCell' = true
  | [], [], _ => ⟨rfl, by simp⟩
  | a :: r, b :: s, h => by
    simp only [veqs, Bool.and_eq_true] at h
    obtain ⟨h1, h2⟩ := veq_eq h.1
    obtain ⟨h3, h4⟩ := veqs_eq h.2
    refine ⟨by rw [h1, h3], fun x hx => ?_⟩
    rcases List.mem_cons.1 hx with rfl | hx
    · rw [← h1]; exact h2
    · exact h4 x hx
  | [], _ :: _, h => by cases h
  | _ :: _, [], h => by cases h

def fieldsB (P : Program) : List Field → List (Nat × Nat) → Bool
  | [], [] => true
  | f :: r, (o, t) :: s => Nat.beq f.offset o && Nat.beq f.type t && (P.info? f.type).isSome && fieldsB P r s
  | _, _ => false
theorem fieldsB_eq {P : Program} : ∀ {a : List Field} {b : List (Nat × Nat)}, fieldsB P a b = true → a.map (fun f => (f.offset, f.type)) = b ∧ ∀ f ∈ a, (P.info? f.type).isSome = true
  | [], [], _ => ⟨rfl, by simp⟩
  | f :: r, (o, t) :: s, h => by
    simp only [fieldsB, Bool.and_eq_true] at h
    obtain ⟨h3, h4⟩ := fieldsB_eq h.2
    refine ⟨by rw [List.map_cons, h3, beq_t h.1.1.1, beq_t h.1.1.2], fun x hx => ?_⟩
    rcases List.mem_cons.1 hx with rfl | hx
    · exact h.1.2
    · exact h4 x hx
  | [], _ :: _, h => by cases h
  | _ :: _, [], h => by cases h

def isAgg : TypeDesc → Bool
  | .struct _ => true
  | .array _ _ => true
  | _ => false
def beqB (a b : Bool) : Bool := match a with
  | true => b
  | false => !b
theorem beqB_eq {a b : Bool} (h : beqB a b = true) : a = b := by cases a <;> cases b <;> first | rfl | cases h
def tokB (P : Program) (t : Nat) (i : TI) : Bool :=
  (match P.info? t with
   | some inf => Nat.beq inf.size i.size && Nat.beq inf.bytes i.bytes && (match inf.zero with
     | some z => veqs z.cells.toList i.zero
     | none => false)
   | none => false) && Nat.beq i.zero.length i.size &&
  (match P.underlying t with
   | some d => beqB (isAgg d) i.agg && (match i.tag with
     | 1 => (match d with
       | .int k => kindEq k i.ik
       | _ => false)
     | 2 => (match d with
       | .bool => true
       | _ => false)
     | 3 => (match d with
       | .string => true
       | _ => false)
     | 4 => (match d with
       | .slice e => Nat.beq e i.elem
       | _ => false)
     | 5 => (match d with
       | .struct fs => fieldsB P fs.toList i.fields
       | _ => false)
     | 6 => (match d with
       | .array n e => Nat.beq n i.alen && Nat.beq e i.elem
       | _ => false)
     | _ => true)
   | none => false)
theorem tok_of {P : Program} {t : Nat} {i : TI} (h : tokB P t i = true) : TOK P t i := by
  simp only [tokB, Bool.and_eq_true] at h
  obtain ⟨⟨h1, h2⟩, h3⟩ := h
  cases hi : P.info? t with
  | none => rw [hi] at h1; cases h1
  | some inf =>
  rw [hi] at h1
  simp only [Bool.and_eq_true] at h1
  obtain ⟨⟨h4, h5⟩, h6⟩ := h1
  cases hz : inf.zero with
  | none => rw [hz] at h6; cases h6
  | some z =>
  rw [hz] at h6
  obtain ⟨h7, h8⟩ := veqs_eq h6
  cases hu : P.underlying t with
  | none => rw [hu] at h3; cases h3
  | some d =>
  rw [hu] at h3
  simp only [Bool.and_eq_true] at h3
  obtain ⟨h9, h10⟩ := h3
  refine ⟨⟨inf, z, hi, beq_t h4, beq_t h5, hz, h7⟩, beq_t h2, h8, ⟨d, hu, ?_⟩, fun e => ?_, fun e => ?_, fun e => ?_, fun e => ?_, fun e => ?_, fun e => ?_⟩
  · rw [← beqB_eq h9]
    cases d <;> rfl
  all_goals rw [e] at h10
  · cases d with
    | int k => simp only at h10; rw [← kindEq_eq h10]; exact hu
    | _ => cases h10
  · cases d with
    | bool => exact hu
    | _ => cases h10
  · cases d with
    | string => exact hu
    | _ => cases h10
  · cases d with
    | slice e => simp only at h10; rw [← beq_t h10]; exact hu
    | _ => cases h10
  · cases d with
    | struct fs => simp only at h10; exact ⟨fs, hu, fieldsB_eq h10⟩
    | _ => cases h10
  · cases d with
    | array n e => simp only [Bool.and_eq_true] at h10; rw [← beq_t h10.1, ← beq_t h10.2]; exact hu
    | _ => cases h10

theorem tab_of {P : Program} {l : List (Nat × TI)} (h : l.all (fun p => tokB P p.1 p.2) = true) : TabOK P (tabLook l) := by
  intro t i hi
  have : (t, i) ∈ l := by
    clear h
    induction l with
    | nil => cases hi
    | cons p r ih =>
      obtain ⟨t0, i0⟩ := p
      unfold tabLook at hi
      split at hi
      · rename_i hb
        injection hi with hi
        subst hi
        rw [beq_t hb]
        exact List.mem_cons_self ..
      · exact List.mem_cons_of_mem _ (ih hi)
  exact tok_of (List.all_eq_true.1 h _ this)

theorem enters_of {P : Program} {g : Nat} {fn : Func} {c : Code} (hf : P.funcs[g]? = some fn) (hb : fn.body = some c) (hn : (fn.name == "runtime.NumGoroutine") = false) : Enters P g :=
  ⟨fun args w => by simp only [beq_eq_false_iff_ne] at hn; simp [callFunc, hf, hb, hn]⟩
end Go.Sx
