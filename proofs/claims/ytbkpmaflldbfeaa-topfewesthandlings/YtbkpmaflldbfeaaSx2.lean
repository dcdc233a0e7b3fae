/- The executor: what is owed so that a piece of code leads to a wanted end. -/
import Derived.Test.YtbkpmaflldbfeaaSx1
namespace Go.Sx
open Go

/-- Function g of the program has a body and may be entered. -/
structure Enters (P : Program) (g : Nat) : Prop where
  h : ∀ (args : Array Value) (w : World), (callFunc g args).run P w = .ok (.enter g args) w
structure Con (P : Program) (g : Nat) (args : Array Value) (w : World) (R : Ending → World → Prop) : Prop where
  e : Enters P g
  c : Calls P g args w R

def nthA : List At → Nat → Option At
  | [], _ => none
  | x :: _, 0 => some x
  | _ :: t, n + 1 => nthA t n
def nthV : List Value → Nat → Option Value
  | [], _ => none
  | x :: _, 0 => some x
  | _ :: t, n + 1 => nthV t n
def nthF : List (Nat × Nat) → Nat → Option (Nat × Nat)
  | [], _ => none
  | x :: _, 0 => some x
  | _ :: t, n + 1 => nthF t n

def kindEq : IntKind → IntKind → Bool
  | .i8, .i8 => true | .i16, .i16 => true | .i32, .i32 => true | .i64, .i64 => true
  | .u8, .u8 => true | .u16, .u16 => true | .u32, .u32 => true | .u64, .u64 => true
  | _, _ => false

abbrev Tab := Nat → Option TI

def intK (op : BinOp) (k : IntKind) (a b : Int) (K : Value → Prop) : Prop :=
  match op with
  | .add => ∃ r, k.wrap (a + b) = r ∧ K (.int k r)
  | .sub => ∃ r, k.wrap (a - b) = r ∧ K (.int k r)
  | .mul => ∃ r, k.wrap (a * b) = r ∧ K (.int k r)
  | .quo => b ≠ 0 ∧ ∃ r, k.wrap (a.tdiv b) = r ∧ K (.int k r)
  | .rem => b ≠ 0 ∧ ∃ r, a.tmod b = r ∧ K (.int k r)
  | .and => ∃ r, k.wrap ((BitVec.ofInt k.bits a &&& BitVec.ofInt k.bits b).toNat : Int) = r ∧ K (.int k r)
  | .or => ∃ r, k.wrap ((BitVec.ofInt k.bits a ||| BitVec.ofInt k.bits b).toNat : Int) = r ∧ K (.int k r)
  | .xor => ∃ r, k.wrap ((BitVec.ofInt k.bits a ^^^ BitVec.ofInt k.bits b).toNat : Int) = r ∧ K (.int k r)
  | .shl => 0 ≤ b ∧ ∃ r, k.wrap (a * 2 ^ (min b.toNat k.bits)) = r ∧ K (.int k r)
  | .shr => 0 ≤ b ∧ ∃ r, a.fdiv (2 ^ (min b.toNat k.bits)) = r ∧ K (.int k r)
  | .eql => K (.bool (a == b))
  | .neq => K (.bool (a != b))
  | .lss => K (.bool (decide (a < b)))
  | .leq => K (.bool (decide (a ≤ b)))
  | .gtr => K (.bool (decide (a > b)))
  | .geq => K (.bool (decide (a ≥ b)))
  | .andNot => ∃ r, k.wrap ((BitVec.ofInt k.bits a &&& ~~~BitVec.ofInt k.bits b).toNat : Int) = r ∧ K (.int k r)

def binK (P : Program) (τ : Tab) (op : BinOp) (t : Nat) (x y : SV) (K : SV → Prop) : Prop :=
  match x, y with
  | .o (.v (.int k a)), .o (.v (.int k' b)) =>
    match op with
    | .shl => intK op k a b (fun r => K (.o (.v r)))
    | .shr => intK op k a b (fun r => K (.o (.v r)))
    | _ => match kindEq k k' with
      | true => intK op k a b (fun r => K (.o (.v r)))
      | false => False
  | .o (.v (.bool a)), .o (.v (.bool b)) =>
    match τ t with
    | some ti => match Nat.beq ti.tag 2 with
      | true => match op with
        | .eql => K (.o (.v (.bool (a == b))))
        | .neq => K (.o (.v (.bool (!(a == b)))))
        | _ => False
      | false => False
    | none => False
  | .o (.v (.string a)), .o (.v (.string b)) =>
    match op with
    | .eql => K (.o (.v (.bool (a.toList == b.toList))))
    | .neq => K (.o (.v (.bool (!(a.toList == b.toList)))))
    | .add => a.size + b.size ≤ maxLen ∧ K (.o (.v (.string (a ++ b))))
    | _ => False
  | _, _ => ∃ b : Bool, (∀ (ρ : Nat → Val) (w : World) (o1 o2 : Operand), (do eqGuard op t o1 o2 (x.den ρ) (y.den ρ); binOp op t (x.den ρ) (y.den ρ)).run P w = .ok (.bool b) w) ∧ K (.o (.v (.bool b)))

def loadK (τ : Tab) (B : Nat) (t : Nat) (addr : SV) (H : Hp) (nx : Nat) (iv : Iv) (w : World) (K : SV → Prop) : Prop :=
  match τ t with
  | none => False
  | some ⟨sz, ag, _, _, _, _, _, _, _⟩ =>
    match addr with
    | .o (.p id off) =>
      match getH H id with
      | some (.box _ cs) =>
        match ag with
        | false => match nthA cs off with
          | some x => K (.o x)
          | none => False
        | true => dropK cs off (fun r => takeK r sz (fun l => K (.a l)))
      | some (.arr _ cs) =>
        match ag with
        | false => ∃ x, cs[off]? = some x ∧ K (.o (.v x))
        | true => ∃ xs : List Value, (cs.drop off).take sz = xs ∧ xs.length = sz ∧ valsK xs (fun l => K (.a l))
      | some (.vec _ _ cs) =>
        match ag with
        | false => ∃ x, cs[off]? = some x ∧ K (.o (.v x))
        | true => ∃ xs : List Value, (cs.drop off).take sz = xs ∧ xs.length = sz ∧ valsK xs (fun l => K (.a l))
      | _ => False
    | .o (.v (.pointer (some ad))) =>
      match ag with
      | false => ∃ x, (∀ ρ w', Rel H nx iv B w ρ w' → w'.cell? ad = some x) ∧ K (.o (.v x))
      | true => ∃ xs : List Value, xs.length = sz ∧ (∀ ρ w', Rel H nx iv B w ρ w' → ∀ j x, xs[j]? = some x → w'.cell? (ad.add j) = some x) ∧ valsK xs (fun l => K (.a l))
    | _ => False

def setCells (w : World) (a : Addr) : List Value → World
  | [] => w
  | x :: r => setCells (w.setCell a x) (a.add 1) r

def storeK (τ : Tab) (B : Nat) (t : Nat) (addr x : SV) (H : Hp) (nx : Nat) (iv : Iv) (w : World) (K : Hp → World → Prop) : Prop :=
  match τ t with
  | none => False
  | some ⟨sz, _, _, _, _, _, _, _, _⟩ =>
    cellsK x (fun new => onesK new (match Nat.beq new.length sz with
      | false => False
      | true => match addr with
        | .o (.p id off) =>
          match getH H id with
          | some (.box bt cs) => spliceK cs off new (fun cs' => setH H id (.box bt cs') (fun H' => K H' w))
          | some (.arr bt cs) => rawK new (fun nv => off + sz ≤ cs.length ∧ ∃ cs', cs.take off ++ nv ++ cs.drop (off + sz) = cs' ∧ setH H id (.arr bt cs') (fun H' => K H' w))
          | some (.vec bt ez cs) => rawK new (fun nv => off + sz ≤ cs.length ∧ ∃ cs', cs.take off ++ nv ++ cs.drop (off + sz) = cs' ∧ setH H id (.vec bt ez cs') (fun H' => K H' w))
          | _ => False
        | .o (.v (.pointer (some ad))) => rawK new (fun nv => ∀ ρ w', Rel H nx iv B w ρ w' →
            ad.spot = none ∧ (∀ j, j < sz → (w'.cell? (ad.add j)).isSome = true ∧ w'.frozen? (ad.add j) = false) ∧
            (∀ id b, getH H id = some b → (ρ id).nil = false → (ρ id).g ≠ ad.block) ∧
            ∀ w2, w2 = setCells w' ad nv → K H w2)
        | _ => False))

/-- A new block of the call's own. -/
def newK (b : Blk) (H : Hp) (nx : Nat) (K : Hp → Nat → Prop) : Prop := K ((nx, b) :: H) (nx + 1)

def fieldOff (τ : Tab) (fs : List (Nat × Nat)) (f : Nat) (k : Nat → Nat → Bool → Prop) : Prop :=
  match nthF fs f with
  | some (off, ft) => match τ ft with
    | some ⟨sz, ag, _, _, _, _, _, _, _⟩ => match Nat.beq sz 0 with
      | true => False
      | false => k off sz ag
    | none => False
  | none => False

def ptrAddK (x : SV) (n : Nat) (K : SV → Prop) : Prop :=
  match x with
  | .o (.p id off) => K (.o (.p id (off + n)))
  | .o (.v (.pointer (some ad))) => K (.o (.v (.pointer (some (ad.add n)))))
  | _ => False

def partsK (l : Env) (place : Nat → (Nat → Nat → Prop) → Prop) : List (Nat × Operand) → List At → (List At → Prop) → Prop
  | [], cs, k => k cs
  | (i, x) :: r, cs, k => place i (fun off size => wEv l x (fun v => cellsK v (fun new => match Nat.beq new.length size with
      | true => spliceK cs off new (fun cs' => partsK l place r cs' k)
      | false => False)))

/-- a growing slice has as many elements as is said -/
def vecK (H : Hp) (id m : Nat) (K : Prop) : Prop :=
  match getH H id with
  | some (.vec _ sz cs) => match sz with
    | 0 => False
    | k + 1 => cs.length = m * (k + 1) ∧ K
  | _ => False

def lenK (τ : Tab) (H : Hp) (t : Nat) (x : SV) (K : Int → Prop) : Prop :=
  match τ t with
  | none => False
  | some ⟨_, _, _, _, tag, _, _, alen, _⟩ => match Nat.beq tag 4 with
    | true => match x with
      | .o (.v (.slice _ n _)) => K n
      | .o (.s _ _ n _) => K n
      | .o (.w id n) => vecK H id n (K n)
      | _ => False
    | false => match Nat.beq tag 3 with
      | true => match x with
        | .o (.v (.string b)) => K b.size
        | _ => False
      | false => match Nat.beq tag 6 with
        | true => K alen
        | false => False

def indexK (τ : Tab) (H : Hp) (t : Nat) (x i : SV) (K : SV → Prop) : Prop :=
  match i with
  | .o (.v (.int _ i)) => match τ t with
    | some ⟨_, _, _, _, tag, _, e, alen, _⟩ => match τ e with
      | some ⟨sz, _, _, _, _, _, _, _, _⟩ => match Nat.beq tag 4 with
        | true => match x with
          | .o (.s id off n _) => (0 ≤ i ∧ i < n) ∧ K (.o (.p id (off + i.toNat * sz)))
          | .o (.w id n) => vecK H id n ((0 ≤ i ∧ i < n) ∧ K (.o (.p id (i.toNat * sz))))
          | .o (.v (.slice a n _)) => ∃ ad, a = some ad ∧ (0 ≤ i ∧ i < n) ∧ K (.o (.v (.pointer (some (ad.add (i.toNat * sz))))))
          | _ => False
        | false => match Nat.beq tag 6 with
          | true => (0 ≤ i ∧ i < alen) ∧ ptrAddK x (i.toNat * sz) K
          | false => False
      | none => False
    | none => False
  | _ => False

/-- bounds of a slice expression -/
def loK (l : Env) (x : Option Operand) (dflt : Int) (K : Int → Prop) : Prop :=
  match x with
  | none => K dflt
  | some o => wEv l o (fun v => match v with
    | .o (.v (.int _ n)) => K n
    | _ => False)

def sliceK (τ : Tab) (t : Nat) (x : SV) (l : Env) (lo hi : Option Operand) (K : SV → Prop) : Prop :=
  match τ t with
  | some ⟨_, _, _, _, tag, _, e, _, _⟩ => match Nat.beq tag 4 with
    | true => match τ e with
      | some ⟨sz, _, _, _, _, _, _, _, _⟩ => match x with
        | .o (.s id off n c) => loK l lo 0 (fun a => loK l hi n (fun b => (0 ≤ a ∧ a ≤ b ∧ b ≤ c) ∧ ∃ off' n' c' : Nat, (if (c : Int) = a then off else off + a.toNat * sz) = off' ∧ b.toNat - a.toNat = n' ∧ c - a.toNat = c' ∧ K (.o (.s id off' n' c'))))
        | .o (.v (.slice ad n c)) => loK l lo 0 (fun a => loK l hi n (fun b => (0 ≤ a ∧ a ≤ b ∧ b ≤ c) ∧ ∃ ad' n' c', (if (c : Int) = a then ad else ad.map (·.add (a.toNat * sz))) = ad' ∧ b.toNat - a.toNat = n' ∧ c - a.toNat = c' ∧ K (.o (.v (.slice ad' n' c')))))
        | _ => False
      | none => False
    | false => False
  | none => False

def makeK (τ : Tab) (t : Nat) (x y : SV) (H : Hp) (nx : Nat) (K : SV → Hp → Nat → Prop) : Prop :=
  match x, y with
  | .o (.v (.int _ a)), .o (.v (.int _ b)) => match τ t with
    | some ⟨_, _, _, _, tag, _, e, _, _⟩ => match Nat.beq tag 4 with
      | true => match τ e with
        | some ⟨_, _, by_, ze, _, _, _, _, _⟩ => ∃ n c : Nat, a = n ∧ b = c ∧ n ≤ c ∧ by_ * c ≤ 281474976710656 ∧ c ≤ 9223372036854775807 ∧
            match ze with
            | [z] => newK (.arr e (List.replicate c z)) H nx (fun H' nx' => K (.o (.s nx 0 n c)) H' nx')
            | zs => newK (.arr e (List.replicate c zs).flatten) H nx (fun H' nx' => K (.o (.s nx 0 n c)) H' nx')
        | none => False
      | false => False
    | none => False
  | _, _ => False

/-- the cells of what is appended, n elements of so many cells -/
def newsK (B : Nat) (H : Hp) (nx : Nat) (iv : Iv) (w : World) (size : Nat) (x : SV) (K : Nat → List Value → Prop) : Prop :=
  match x with
  | .o (.s id off n _) => match getH H id with
    | some (.box _ cs) => dropK cs off (fun r => takeK r (n * size) (fun l => rawK l (fun vs => K n vs)))
    | some (.arr _ cs) => ∃ vs : List Value, (cs.drop off).take (n * size) = vs ∧ vs.length = n * size ∧ (∀ x ∈ vs, x.oneCell' = true) ∧ K n vs
    | _ => False
  | .o (.v (.slice a n _)) => ∃ vs : List Value, vs.length = n * size ∧ (∀ x ∈ vs, x.oneCell' = true) ∧
      (∀ ρ w', Rel H nx iv B w ρ w' → 0 < n → ∃ ad, a = some ad ∧ ∀ j u, vs[j]? = some u → w'.cell? (ad.add j) = some u) ∧ K n vs
  | .o (.w id n) => match getH H id with
    | some (.vec _ _ cs) => cs.length = n * size ∧ (∀ x ∈ cs, x.oneCell' = true) ∧ K n cs
    | _ => False
  | _ => False

def appendK (τ : Tab) (B : Nat) (t : Nat) (x y : SV) (H : Hp) (nx : Nat) (iv : Iv) (w : World) (K : SV → Hp → Nat → Prop) : Prop :=
  match τ t with
  | none => False
  | some ⟨_, _, _, _, tag, _, e, _, _⟩ => match Nat.beq tag 4 with
    | true => match τ e with
      | some ⟨sz, _, by_, ze, _, _, _, _, _⟩ => match ze with
        | [] => False
        | _ :: _ => newsK B H nx iv w sz y (fun m news =>
          match x with
          | .o (.v (.slice none 0 0)) => m * by_ ≤ 140737488355328 ∧ m ≤ maxLen ∧ newK (.vec e sz news) H nx (fun H' nx' => K (.o (.w nx m)) H' nx')
          | .o (.w id n) => match getH H id with
            | some (.vec e' sz' cs) => match Nat.beq e' e with
              | true => match Nat.beq sz' sz with
                | true => cs.length = n * sz ∧ (n + m) * by_ ≤ 140737488355328 ∧ n + m ≤ maxLen ∧ killK H id (fun H1 => newK (.vec e sz (cs ++ news)) H1 nx (fun H' nx' => K (.o (.w nx (n + m))) H' nx'))
                | false => False
              | false => False
            | _ => False
          | _ => False)
      | none => False
    | false => False

def densOf (ρ : Nat → Val) (xs : List SV) : Array Value := (xs.map (SV.den ρ)).toArray

/-- A world that goes on from another: what was there is as it was. -/
abbrev Ext (w w2 : World) : Prop := RowKit.Below w.heap.size w w2

/-- A call: the callee may write blocks of the caller's own. -/
structure CallS (P : Program) (B : Nat) (g : Nat) (args : (Nat → Val) → Array Value) (H : Hp) (nx : Nat) (iv : Iv) (w : World) (K : SV → Hp → Iv → World → Prop) : Prop where
  h : ∀ ρ w', Rel H nx iv B w ρ w' → Con P g (args ρ) w' (fun e w2 => ∃ v H', e = .returned v ∧ w'.heap.size ≤ w2.heap.size ∧
    Rel H' nx iv B w2 ρ w2 ∧ (∀ id, (getH H' id).isSome = (getH H id).isSome) ∧
    K (.o (.v v)) H' ((w'.heap.size, w2.heap.size) :: iv) w2)
/-- A call that leaves all that was there. -/
structure CallE (P : Program) (B : Nat) (g : Nat) (args : (Nat → Val) → Array Value) (H : Hp) (nx : Nat) (iv : Iv) (w : World) (K : SV → Hp → Iv → World → Prop) : Prop where
  h : ∀ ρ w', Rel H nx iv B w ρ w' → Con P g (args ρ) w' (fun e w2 => ∃ v, e = .returned v ∧ Ext w' w2 ∧ K (.o (.v v)) H ((w'.heap.size, w2.heap.size) :: iv) w2)
def callK (dr : Bool) (P : Program) (B : Nat) (g : Nat) (args : (Nat → Val) → Array Value) (H : Hp) (nx : Nat) (iv : Iv) (w : World) (K : SV → Hp → Iv → World → Prop) : Prop :=
  match dr with
  | true => CallE P B g args H nx iv w K
  | false => CallS P B g args H nx iv w K

/-- any other operation: what it does is said by hand, and the named world is the very world behind it -/
structure OpS (P : Program) (B : Nat) (o : Oper) (l : Env) (H : Hp) (nx : Nat) (iv : Iv) (w : World) (K : SV → Hp → Nat → Iv → World → Prop) : Prop where
  h : ∀ (ρ : Nat → Val) w' (e : Operand → Value), Rel H nx iv B w ρ w' → (∀ x v, ev l x = some v → e x = v.den ρ) →
    ∃ v w2 iv', ((execOp e o).run P w' = .ok (.value v) w2 ∨ ((execOp e o).run P w' = .ok .skip w2 ∧ v = undef)) ∧ Rel H nx iv' B w2 ρ w2 ∧ K (.o (.v v)) H nx iv' w2
def fbK (dr : Bool) (P : Program) (B : Nat) (o : Oper) (l : Env) (H : Hp) (nx : Nat) (iv : Iv) (w : World) (K : SV → Hp → Nat → Iv → World → Prop) : Prop :=
  match dr with
  | true => False
  | false => OpS P B o l H nx iv w K

def allPtr : List SV → (List Nat → Prop) → Prop
  | [], k => k []
  | .o (.p id 0) :: r, k => allPtr r (fun l => k (id :: l))
  | _ :: _, _ => False

def sxOp (dr : Bool) (P : Program) (τ : Tab) (B : Nat) (o : Oper) (l : Env) (H : Hp) (nx : Nat) (iv : Iv) (w : World) (K : SV → Hp → Nat → Iv → World → Prop) : Prop :=
  match o.op with
  | .move x => wEv l x (fun v => K v H nx iv w)
  | .assign x => wEv l x (fun v => K v H nx iv w)
  | .pick c a b => wEv l c (fun v => match v with
    | .o (.v (.bool t)) => BrS t (wEv l a (fun v => K v H nx iv w)) (wEv l b (fun v => K v H nx iv w))
    | _ => False)
  | .alloc t => match τ t with
    | some ⟨_, _, _, ze, _, _, _, _, _⟩ => valsK ze (fun cs => newK (.box t cs) H nx (fun H' nx' => K (.o (.p nx 0)) H' nx' iv w))
    | none => False
  | .box t x => wEv l x (fun v => cellsK v (fun cs => newK (.box t cs) H nx (fun H' nx' => K (.o (.p nx 0)) H' nx' iv w)))
  | .build t parts => match τ t with
    | some ⟨_, _, _, ze, tag, _, e, _, fs⟩ => match Nat.beq tag 5 with
      | true => valsK ze (fun z => partsK l (fun i k => fieldOff τ fs i (fun off sz _ => k off sz)) parts.toList z (fun cs => K (.a cs) H nx iv w))
      | false => match Nat.beq tag 6 with
        | true => match τ e with
          | some ⟨sz, _, _, _, _, _, _, _, _⟩ => valsK ze (fun z => partsK l (fun i k => k (i * sz) sz) parts.toList z (fun cs => K (.a cs) H nx iv w))
          | none => False
        | false => False
    | none => False
  | .buildSlice t n parts => match τ t with
    | some ⟨_, _, _, _, tag, _, e, _, _⟩ => match Nat.beq tag 4 with
      | true => match τ e with
        | some ⟨sz, _, _, ze, _, _, _, _, _⟩ => match Nat.ble (n * sz) 16777216 with
          | true => valsK (List.replicate n ze).flatten (fun z => partsK l (fun i k => k (i * sz) sz) parts.toList z (fun cs =>
              newK (.box e cs) H nx (fun H' nx' => K (.o (.s nx 0 n n)) H' nx' iv w)))
          | false => False
        | none => False
      | false => False
    | none => False
  | .load t a => wEv l a (fun v => loadK τ B t v H nx iv w (fun r => K r H nx iv w))
  | .store t a x => wEv l a (fun va => wEv l x (fun vx => storeK τ B t va vx H nx iv w (fun H' w' => K (.o (.v undef)) H' nx iv w')))
  | .nilCheck x => wEv l x (fun v => match v with
    | .o (.p id off) => K (.o (.p id off)) H nx iv w
    | .o (.v (.pointer (some ad))) => K (.o (.v (.pointer (some ad)))) H nx iv w
    | .o (.fn f ids) => K (.o (.fn f ids)) H nx iv w
    | .o (.v (.func (.func f) fi ca)) => K (.o (.v (.func (.func f) fi ca))) H nx iv w
    | _ => False)
  | .binOp op t x y _ => wEv l x (fun vx => wEv l y (fun vy => binK P τ op t vx vy (fun r => K r H nx iv w)))
  | .unOp op _ x => wEv l x (fun v => match op, v with
    | .not, .o (.v (.bool b)) => K (.o (.v (.bool (!b)))) H nx iv w
    | .neg, .o (.v (.int k n)) => ∃ r, k.wrap (0 - n) = r ∧ K (.o (.v (.int k r))) H nx iv w
    | _, _ => False)
  | .convert sr d x => match τ sr with
    | some _ => wEv l x (fun v => match τ d with
      | some ⟨_, _, _, _, tag, ik, _, _, _⟩ => match Nat.beq tag 1 with
        | true => match v with
          | .o (.v (.int _ n)) => ∃ r, ik.wrap n = r ∧ K (.o (.v (.int ik r))) H nx iv w
          | _ => False
        | false => fbK dr P B o l H nx iv w K
      | none => False)
    | none => False
  | .makeFunc (.func f) ⟨first⟩ caps => match first with
    | [] => wEvs l caps.toList (fun vs => allPtr vs (fun ids => K (.o (.fn f ids)) H nx iv w))
    | _ => False
  | .makeSlice t x y => wEv l x (fun vx => wEv l y (fun vy => makeK τ t vx vy H nx (fun v H' nx' => K v H' nx' iv w)))
  | .slice t x lo hi none => wEv l x (fun v => sliceK τ t v l lo hi (fun r => K r H nx iv w))
  | .fieldAddr t x f => match τ t with
    | some ⟨_, _, _, _, tag, _, _, _, fs⟩ => match Nat.beq tag 5 with
      | true => fieldOff τ fs f (fun off _ _ => wEv l x (fun v => ptrAddK v off (fun r => K r H nx iv w)))
      | false => False
    | none => False
  | .field t x f => match τ t with
    | some ⟨_, _, _, _, tag, _, _, _, fs⟩ => match Nat.beq tag 5 with
      | true => fieldOff τ fs f (fun off sz ag => wEv l x (fun v => match v with
        | .o (.v (.agg ⟨vs⟩)) => valsK vs (fun cs => match ag with
          | true => dropK cs off (fun r => takeK r sz (fun c => K (.a c) H nx iv w))
          | false => match nthA cs off with
            | some c => K (.o c) H nx iv w
            | none => False)
        | .a cs => match ag with
          | true => dropK cs off (fun r => takeK r sz (fun c => K (.a c) H nx iv w))
          | false => match nthA cs off with
            | some c => K (.o c) H nx iv w
            | none => False
        | _ => False))
      | false => False
    | none => False
  | .indexAddr t x i => wEv l x (fun vx => wEv l i (fun vi => indexK τ H t vx vi (fun r => K r H nx iv w)))
  | .extract x i => wEv l x (fun v => match v with
    | .o (.v (.tuple ⟨vs⟩)) => match nthV vs i with
      | some u => K (.o (.v u)) H nx iv w
      | none => False
    | _ => False)
  | .call ⟨.builtin .len, ⟨[x]⟩, ⟨[t]⟩⟩ => wEv l x (fun v => lenK τ H t v (fun n => K (.o (.v (.int .i64 n))) H nx iv w))
  | .call ⟨.builtin .append, ⟨[x, y]⟩, ⟨[t, u]⟩⟩ => match Nat.beq t u with
    | true => wEv l x (fun vx => wEv l y (fun vy => appendK τ B t vx vy H nx iv w (fun v H' nx' => K v H' nx' iv w) ∨ OpS P B o l H nx iv w K))
    | false => False
  | .call ⟨.builtin .max, ⟨[x, y]⟩, _⟩ => wEv l x (fun vx => wEv l y (fun vy => match vx, vy with
    | .o (.v (.int k a)), .o (.v (.int k' b)) => match kindEq k k' with
      | true => K (.o (.v (.int k (max a b)))) H nx iv w
      | false => False
    | _, _ => False))
  | .call ⟨.builtin .min, ⟨[x, y]⟩, _⟩ => wEv l x (fun vx => wEv l y (fun vy => match vx, vy with
    | .o (.v (.int k a)), .o (.v (.int k' b)) => match kindEq k k' with
      | true => K (.o (.v (.int k (min a b)))) H nx iv w
      | false => False
    | _, _ => False))
  | .call ⟨.builtin .copy, _, _⟩ => OpS P B o l H nx iv w K
  | .makeMap _ _ => OpS P B o l H nx iv w K
  | .lookup _ _ _ _ => OpS P B o l H nx iv w K
  | .mapUpdate _ _ _ _ => OpS P B o l H nx iv w K
  | .call ⟨.value f, ⟨args⟩, _⟩ => wEv l f (fun vf => wEvs l args (fun vs => match vf with
      | .o (.v (.func (.func g) first caps)) => callK dr P B g (fun ρ => first ++ densOf ρ vs ++ caps) H nx iv w (fun v H' iv' w' => K v H' nx iv' w')
      | .o (.fn g ids) => callK dr P B g (fun ρ => densOf ρ vs ++ (ids.map fun id => Value.pointer (some ⟨(ρ id).g, 0, none⟩)).toArray) H nx iv w (fun v H' iv' w' => K v H' nx iv' w')
      | _ => False))
  | _ => False

/-- The slot that an operation writes. -/
def dstOf : List Oper → Nat → Option Tmp
  | [], _ => none
  | o :: _, 0 => o.dst
  | _ :: r, n + 1 => dstOf r n

def setE (d : Option Tmp) (v : SV) (l : Env) (k : Env → Prop) : Prop := match d with
  | some t => k ((t, v) :: l)
  | none => k l

def sxGuard (all : List Oper) (g : Option (Nat × Bool)) (l : Env) (yes no : Env → Prop) : Prop :=
  match g with
  | none => yes l
  | some (j, want) => match dstOf all j with
    | none => no l
    | some d => match getE l d with
      | some (.o (.v (.bool b))) => match want with
        | true => BrS b (yes ((d, .o (.v (.bool true))) :: l)) (no ((d, .o (.v (.bool false))) :: l))
        | false => BrS b (no ((d, .o (.v (.bool true))) :: l)) (yes ((d, .o (.v (.bool false))) :: l))
      | some (.o (.v (.tuple _))) => no l
      | _ => False

/-- one operation; what is behind it is told once, so that the kernel compares it once -/
def sxStep (dr : Bool) (P : Program) (τ : Tab) (B : Nat) (all : List Oper) (o : Oper) (l : Env) (H : Hp) (nx : Nat) (iv : Iv) (w : World) (k : Env → Hp → Nat → Iv → World → Prop) : Prop :=
  sxGuard all o.guard l
    (fun l => sxOp dr P τ B o l H nx iv w (fun v H' nx' iv' w' => setE o.dst v l (fun l' => k l' H' nx' iv' w')))
    (fun l => setE o.dst (.o (.v undef)) l (fun l' => k l' H nx iv w))
def sxOps (P : Program) (τ : Tab) (B : Nat) (all : List Oper) : List Oper → Env → Hp → Nat → Iv → World → (Env → Hp → Nat → Iv → World → Prop) → Prop
  | [], l, H, nx, iv, w, K => K l H nx iv w
  | o :: r, l, H, nx, iv, w, K => sxStep false P τ B all o l H nx iv w (fun l' H' nx' iv' w' => sxOps P τ B all r l' H' nx' iv' w' K)

inductive Ex where
  | normal
  | exit (id : Nat)
  | ret

/-- A configuration of the machine meets a state. -/
structure Sat (n : Nat) (l : Env) (H : Hp) (nx : Nat) (iv : Iv) (B : Nat) (w : World) (ρ : Nat → Val) (a : Act) (w' : World) : Prop where
  rel : Rel H nx iv B w ρ w'
  size : a.tmps.size = n
  defers : a.defers = []
  env : ∀ t v, getE l t = some v → a.tmps[t]? = some (v.den ρ)
  sc : ∀ t v, getE l t = some v → v.sc nx

abbrev KT := Env → Hp → Nat → Iv → World → Prop
/-- what a region that draws its order owes: told elsewhere -/
structure DrawnS (P : Program) (B : Nat) (ops : Array Oper) (l : Env) (H : Hp) (nx : Nat) (iv : Iv) (w : World) (K : KT) : Prop where
  h : ∀ n ρ a w', ops.toList.all (fun o => match o.dst with
      | some d => Nat.blt d n
      | none => true) = true → Sat n l H nx iv B w ρ a w' →
    ∀ Q : Exit → Act → World → Prop, (∀ l' H' nx' iv' w2 ρ' a' w'', K l' H' nx' iv' w2 → Sat n l' H' nx' iv' B w2 ρ' a' w'' → Q .normal a' w'') →
    ∀ id, (Code.region id ops true).wp P Q a w'

structure LoopI where
  l : Env
  H : Hp
  nx : Nat
  iv : Iv
  w : World
/-- the same configuration meets another state -/
def Sub (B : Nat) (l : Env) (nx : Nat) (ρ : Nat → Val) (w' : World) (t : LoopI) : Prop :=
  ∃ ρ', Rel t.H t.nx t.iv B t.w ρ' w' ∧ (∀ u v, getE t.l u = some v → v.sc t.nx ∧ ∃ v0, getE l u = some v0 ∧ v0.den ρ = v.den ρ')

def sxCode (P : Program) (τ : Tab) (B : Nat) : Code → Env → Hp → Nat → Iv → World → (Ex → KT) → Prop
  | .skip, l, H, nx, iv, w, Q => Q .normal l H nx iv w
  | .region _ ops false, l, H, nx, iv, w, Q => sxOps P τ B ops.toList ops.toList l H nx iv w (Q .normal)
  | .region _ ops true, l, H, nx, iv, w, Q => DrawnS P B ops l H nx iv w (Q .normal)
  | .seq a b, l, H, nx, iv, w, Q => sxCode P τ B a l H nx iv w (fun e l H nx iv w => match e with
    | .normal => sxCode P τ B b l H nx iv w Q
    | .exit id => Q (.exit id) l H nx iv w
    | .ret => Q .ret l H nx iv w)
  | .cond c a b, l, H, nx, iv, w, Q => wEv l c (fun v => match v with
    | .o (.v (.bool t)) => BrS t (sxCode P τ B a l H nx iv w Q) (sxCode P τ B b l H nx iv w Q)
    | _ => False)
  | .block id c, l, H, nx, iv, w, Q => sxCode P τ B c l H nx iv w (fun e l H nx iv w => match e with
    | .normal => Q .normal l H nx iv w
    | .exit id' => match Nat.beq id' id with
      | true => Q .normal l H nx iv w
      | false => Q (.exit id') l H nx iv w
    | .ret => Q .ret l H nx iv w)
  | .loop c, l, H, nx, iv, w, Q => ∃ (α : Type) (st : α → LoopI) (μ : α → Nat) (I : α → Prop),
      (∀ ρ w', Rel H nx iv B w ρ w' → ∃ x, I x ∧ Sub B l nx ρ w' (st x)) ∧
      ∀ x, I x → sxCode P τ B c (st x).l (st x).H (st x).nx (st x).iv (st x).w (fun e l H nx iv w => match e with
        | .normal => ∀ ρ w', Rel H nx iv B w ρ w' → ∃ y, I y ∧ Sub B l nx ρ w' (st y) ∧ μ y < μ x
        | .exit id => Q (.exit id) l H nx iv w
        | .ret => Q .ret l H nx iv w)
  | .exit id, l, H, nx, iv, w, Q => Q (.exit id) l H nx iv w
  | .ret, l, H, nx, iv, w, Q => Q .ret l H nx iv w
  | _, _, _, _, _, _, _ => False

end Go.Sx
