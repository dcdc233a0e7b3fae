/- A symbolic executor for the model's code: the state is a list of slots and a list of blocks of the call's own. Definitions. -/
import Derived.WalkKit
namespace Go.Sx
open Go

/-- An atom: a plain value, or something that leads into a block of the call's own (by a local number). -/
inductive At where
  | v (x : Value)
  | p (id off : Nat)
  | s (id off len cap : Nat)
  | w (id len : Nat)
  | fn (f : Nat) (caps : List Nat)
inductive SV where
  | o (x : At)
  | a (cs : List At)

/-- What a local number stands for: a block; for a growing slice also its capacity, and whether it is nil. -/
structure Val where
  g : Nat
  cap : Nat
  nil : Bool

def At.den (ρ : Nat → Val) : At → Value
  | .v x => x
  | .p id off => .pointer (some ⟨(ρ id).g, off, none⟩)
  | .s id off len cap => .slice (some ⟨(ρ id).g, off, none⟩) len cap
  | .w id len => match (ρ id).nil with
    | true => .slice none 0 0
    | false => .slice (some ⟨(ρ id).g, 0, none⟩) len (ρ id).cap
  | .fn f caps => .func (.func f) #[] (caps.map fun id => Value.pointer (some ⟨(ρ id).g, 0, none⟩)).toArray
def SV.den (ρ : Nat → Val) : SV → Value
  | .o x => x.den ρ
  | .a cs => .agg (cs.map (At.den ρ)).toArray

def At.sc (n : Nat) : At → Prop
  | .v _ => True
  | .p id _ => id < n
  | .s id _ _ _ => id < n
  | .w id _ => id < n
  | .fn _ caps => ∀ id ∈ caps, id < n
def SV.sc (n : Nat) : SV → Prop
  | .o x => x.sc n
  | .a cs => ∀ x ∈ cs, At.sc n x

inductive Blk where
  | box (t : Nat) (cs : List At)
  | arr (t : Nat) (cs : List Value)
  | vec (t : Nat) (size : Nat) (cs : List Value)
  | dead

abbrev Env := List (Nat × SV)
abbrev Hp := List (Nat × Blk)
abbrev Iv := List (Nat × Nat)

def getE : Env → Nat → Option SV
  | [], _ => none
  | (t, v) :: r, u => match Nat.beq t u with
    | true => some v
    | false => getE r u
def getH : Hp → Nat → Option Blk
  | [], _ => none
  | (t, v) :: r, u => match Nat.beq t u with
    | true => some v
    | false => getH r u
def killK : Hp → Nat → (Hp → Prop) → Prop
  | [], _, _ => False
  | (t, v) :: r, u, k => match Nat.beq t u with
    | true => k ((t, .dead) :: r)
    | false => killK r u (fun r' => k ((t, v) :: r'))
def setH : Hp → Nat → Blk → (Hp → Prop) → Prop
  | [], _, _, _ => False
  | (t, v) :: r, u, b, k => match Nat.beq t u with
    | true => k ((t, b) :: r)
    | false => setH r u b (fun r' => k ((t, v) :: r'))

/-- The types' table, as the executor sees it. -/
structure TI where
  size : Nat
  agg : Bool
  bytes : Nat
  zero : List Value
  /-- 0 other, 1 int, 2 bool, 3 string, 4 slice, 5 struct, 6 array, 7 pointer -/
  tag : Nat
  ik : IntKind := .i64
  elem : Nat := 0
  alen : Nat := 0
  fields : List (Nat × Nat) := []

def ev (l : Env) : Operand → Option SV
  | .tmp t => getE l t
  | .const v => some (.o (.v v))
  | .global g => some (.o (.v (.pointer (some ⟨g, 0, none⟩))))
  | .func f => some (.o (.v (.func (.func f) #[] #[])))

def wEv (l : Env) (x : Operand) (k : SV → Prop) : Prop := match ev l x with
  | some v => k v
  | none => False
def wEvs (l : Env) : List Operand → (List SV → Prop) → Prop
  | [], k => k []
  | x :: r, k => match ev l x with
    | some v => wEvs l r (fun vs => k (v :: vs))
    | none => False

def dropK : List At → Nat → (List At → Prop) → Prop
  | l, 0, k => k l
  | [], _ + 1, _ => False
  | _ :: t, n + 1, k => dropK t n k
def takeK : List At → Nat → (List At → Prop) → Prop
  | _, 0, k => k []
  | [], _ + 1, _ => False
  | x :: t, n + 1, k => takeK t n (fun r => k (x :: r))
/-- the first n cells, then the list that replaces what follows -/
def overK : List At → List At → (List At → Prop) → Prop
  | cs, [], k => k cs
  | [], _ :: _, _ => False
  | _ :: t, x :: r, k => overK t r (fun t' => k (x :: t'))
def spliceK : List At → Nat → List At → (List At → Prop) → Prop
  | cs, 0, new, k => overK cs new k
  | [], _ + 1, _, _ => False
  | x :: t, n + 1, new, k => spliceK t n new (fun t' => k (x :: t'))

def valsK : List Value → (List At → Prop) → Prop
  | [], k => k []
  | x :: r, k => valsK r (fun r' => k (.v x :: r'))
/-- The cells of a value. -/
def cellsK : SV → (List At → Prop) → Prop
  | .a cs, k => k cs
  | .o (.v (.agg ⟨l⟩)), k => valsK l k
  | .o (.v (.tuple _)), _ => False
  | .o x, k => k [x]
def At.one : At → Bool
  | .v (.agg _) => false
  | .v (.tuple _) => false
  | _ => true
/-- the cells are values of one cell each -/
def onesK : List At → Prop → Prop
  | [], k => k
  | x :: r, k => match x.one with
    | true => onesK r k
    | false => False
/-- the cells are plain values -/
def rawK : List At → (List Value → Prop) → Prop
  | [], k => k []
  | .v x :: r, k => match At.one (.v x) with
    | true => rawK r (fun r' => k (x :: r'))
    | false => False
  | _ :: _, _ => False

def BrS (b : Bool) (A B : Prop) : Prop := match b with
  | true => A
  | false => B
theorem BrS.t {b : Bool} {A B : Prop} (h : BrS b A B) (e : b = true) : A := by subst e; exact h
theorem BrS.f {b : Bool} {A B : Prop} (h : BrS b A B) (e : b = false) : B := by subst e; exact h
theorem BrS.mk {b : Bool} {A B : Prop} (h1 : b = true → A) (h2 : b = false → B) : BrS b A B := by
  cases b
  · exact h2 rfl
  · exact h1 rfl

structure Rel (H : Hp) (nx : Nat) (iv : Iv) (B : Nat) (w : World) (ρ : Nat → Val) (w' : World) : Prop where
  os : w'.os = w.os
  tape : w'.tape = w.tape
  output : w'.output = w.output
  size : w.heap.size ≤ w'.heap.size
  base : B ≤ w.heap.size
  ivs : ∀ lo hi, (lo, hi) ∈ iv → hi ≤ w.heap.size
  keys : ∀ id b, getH H id = some b → id < nx
  box : ∀ id t cs, getH H id = some (.box t cs) → w'.heap[(ρ id).g]? = some (.cells (cs.map (At.den ρ)).toArray t (0, 0))
  arr : ∀ id t cs, getH H id = some (.arr t cs) → w'.heap[(ρ id).g]? = some (.cells cs.toArray t (0, 0))
  vec : ∀ id t size cs, getH H id = some (.vec t size cs) → ((ρ id).nil = true ∧ cs = []) ∨
    ((ρ id).nil = false ∧ ∃ spare : List Value, w'.heap[(ρ id).g]? = some (.cells (cs ++ spare).toArray t (0, 0)) ∧ (cs ++ spare).length = (ρ id).cap * size ∧ (ρ id).cap ≤ maxLen)
  inj : ∀ id id' b b', getH H id = some b → getH H id' = some b' → b ≠ .dead → b' ≠ .dead → (ρ id).nil = false → (ρ id').nil = false → (ρ id).g = (ρ id').g → id = id'
  low : ∀ id b, getH H id = some b → (ρ id).nil = false → B ≤ (ρ id).g ∧ (ρ id).g < w'.heap.size
  frm : ∀ k, k < w.heap.size → (∀ id b, getH H id = some b → (ρ id).nil = false → (ρ id).g ≠ k) → w'.heap[k]? = w.heap[k]?
  prot : ∀ lo hi, (lo, hi) ∈ iv → ∀ id b, getH H id = some b → (ρ id).nil = false → ¬ (lo ≤ (ρ id).g ∧ (ρ id).g < hi)
  scH : ∀ id t cs, getH H id = some (.box t cs) → ∀ x ∈ cs, At.sc nx x
  nn : ∀ id b, getH H id = some b → (∀ t size cs, b ≠ .vec t size cs) → b ≠ .dead → (ρ id).nil = false

end Go.Sx
