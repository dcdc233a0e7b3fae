/- A part of the proof: texts Sx1 to Sx5. Each tells its conditions in its theorems. -/
import Derived.WalkKit
import Derived.Maps.AppendAt
import Derived.Laws.IdiomCopy
import Derived.Great.BuildSlice
/- A symbolic executor for the model's code: the state is a list of slots and a list of blocks of the call's own. Definitions. -/
namespace Go.Sx
open Go

/-- An atom: a plain value, or something that leads into a block of the call's own (by a local number). -/
inductive At where
 |v (x:Value)
 |p (id off:Nat)
 |s (id off len cap:Nat)
 |w (id len:Nat)
 |fn (f:Nat) (caps:List Nat)
inductive SV where
 |o (x:At)
 |a (cs:List At)

/-- What a local number stands for: a block; for a growing slice also its capacity, and whether it is nil. -/
structure Val where
 g:Nat
 cap:Nat
 nil:Bool

def At.den(ρ:Nat→Val):At→Value
 | .v x=>x
 | .p id off=>.pointer (some ⟨(ρ id).g,off,none⟩)
 | .s id off len cap=>.slice (some ⟨(ρ id).g,off,none⟩) len cap
 | .w id len=>match(ρ id).nil with
  |true=>.slice none 0 0
  |false=>.slice (some ⟨(ρ id).g,0,none⟩) len (ρ id).cap
 | .fn f caps=>.func (.func f) #[] (caps.map fun id=>Value.pointer (some ⟨(ρ id).g,0,none⟩)).toArray
def SV.den(ρ:Nat→Val):SV→Value
 | .o x=>x.den ρ
 | .a cs=>.agg (cs.map (At.den ρ)).toArray

def At.sc(n:Nat):At→Prop
 | .v _=>True
 | .p id _=>id<n
 | .s id _ _ _=>id<n
 | .w id _=>id<n
 | .fn _ caps=>∀id∈caps,id<n
def SV.sc(n:Nat):SV→Prop
 | .o x=>x.sc n
 | .a cs=>∀x∈cs,At.sc n x

inductive Blk where
 |box (t:Nat) (cs:List At)
 |arr (t:Nat) (cs:List Value)
 |vec (t:Nat) (size:Nat) (cs:List Value)
 |dead

abbrev Env:=List (Nat×SV)
abbrev Hp:=List (Nat×Blk)
abbrev Iv:=List (Nat×Nat)

def getE:Env→Nat→Option SV
 |[],_=>none
 |(t,v)::r,u=>match Nat.beq t u with
  |true=>some v
  |false=>getE r u
def getH:Hp→Nat→Option Blk
 |[],_=>none
 |(t,v)::r,u=>match Nat.beq t u with
  |true=>some v
  |false=>getH r u
def killK:Hp→Nat→(Hp→Prop)→Prop
 |[],_,_=>False
 |(t,v)::r,u,k=>match Nat.beq t u with
  |true=>k ((t,.dead)::r)
  |false=>killK r u (fun r'=>k ((t,v)::r'))
def setH:Hp→Nat→Blk→(Hp→Prop)→Prop
 |[],_,_,_=>False
 |(t,v)::r,u,b,k=>match Nat.beq t u with
  |true=>k ((t,b)::r)
  |false=>setH r u b (fun r'=>k ((t,v)::r'))

/-- The types' table, as the executor sees it. -/
structure TI where
 size:Nat
 agg:Bool
 bytes:Nat
 zero:List Value
 /-- 0 other, 1 int, 2 bool, 3 string, 4 slice, 5 struct, 6 array, 7 pointer -/
 tag:Nat
 ik:IntKind:=.i64
 elem:Nat:=0
 alen:Nat:=0
 fields:List (Nat×Nat):=[]

def ev(l:Env):Operand→Option SV
 | .tmp t=>getE l t
 | .const v=>some (.o (.v v))
 | .global g=>some (.o (.v (.pointer (some ⟨g,0,none⟩))))
 | .func f=>some (.o (.v (.func (.func f) #[] #[])))

def wEv(l:Env)(x:Operand)(k:SV→Prop):Prop:=match ev l x with
 |some v=>k v
 |none=>False
def wEvs(l:Env):List Operand→(List SV→Prop)→Prop
 |[],k=>k []
 |x::r,k=>match ev l x with
  |some v=>wEvs l r (fun vs=>k (v::vs))
  |none=>False

def dropK:List At→Nat→(List At→Prop)→Prop
 |l,0,k=>k l
 |[],_+1,_=>False
 |_::t,n+1,k=>dropK t n k
def takeK:List At→Nat→(List At→Prop)→Prop
 |_,0,k=>k []
 |[],_+1,_=>False
 |x::t,n+1,k=>takeK t n (fun r=>k (x::r))
/-- the first n cells, then the list that replaces what follows -/
def overK:List At→List At→(List At→Prop)→Prop
 |cs,[],k=>k cs
 |[],_::_,_=>False
 |_::t,x::r,k=>overK t r (fun t'=>k (x::t'))
def spliceK:List At→Nat→List At→(List At→Prop)→Prop
 |cs,0,new,k=>overK cs new k
 |[],_+1,_,_=>False
 |x::t,n+1,new,k=>spliceK t n new (fun t'=>k (x::t'))

def valsK:List Value→(List At→Prop)→Prop
 |[],k=>k []
 |x::r,k=>valsK r (fun r'=>k (.v x::r'))
/-- The cells of a value. -/
def cellsK:SV→(List At→Prop)→Prop
 | .a cs,k=>k cs
 | .o (.v (.agg ⟨l⟩)),k=>valsK l k
 | .o (.v (.tuple _)),_=>False
 | .o x,k=>k [x]
def At.one:At→Bool
 | .v (.agg _)=>false
 | .v (.tuple _)=>false
 |_=>true
/-- the cells are values of one cell each -/
def onesK:List At→Prop→Prop
 |[],k=>k
 |x::r,k=>match x.one with
  |true=>onesK r k
  |false=>False
/-- the cells are plain values -/
def rawK:List At→(List Value→Prop)→Prop
 |[],k=>k []
 | .v x::r,k=>match At.one (.v x)with
  |true=>rawK r (fun r'=>k (x::r'))
  |false=>False
 |_::_,_=>False

def BrS(b:Bool)(A B:Prop):Prop:=match b with
 |true=>A
 |false=>B
theorem BrS.t{b:Bool}{A B:Prop}(h:BrS b A B)(e:b=true):A:=by subst e;exact h
theorem BrS.f{b:Bool}{A B:Prop}(h:BrS b A B)(e:b=false):B:=by subst e;exact h
theorem BrS.mk{b:Bool}{A B:Prop}(h1:b=true→A)(h2:b=false→B):BrS b A B:=by
 cases b
 ·exact h2 rfl
 ·exact h1 rfl

structure Rel(H:Hp)(nx:Nat)(iv:Iv)(B:Nat)(w:World)(ρ:Nat→Val)(w':World):Prop where
 os:w'.os=w.os
 tape:w'.tape=w.tape
 output:w'.output=w.output
 size:w.heap.size≤w'.heap.size
 base:B≤w.heap.size
 ivs:∀lo hi,(lo,hi)∈iv→hi≤w.heap.size
 keys:∀id b,getH H id=some b→id<nx
 box:∀id t cs,getH H id=some (.box t cs)→w'.heap[(ρ id).g]? =some (.cells (cs.map (At.den ρ)).toArray t (0,0))
 arr:∀id t cs,getH H id=some (.arr t cs)→w'.heap[(ρ id).g]? =some (.cells cs.toArray t (0,0))
 vec:∀id t size cs,getH H id=some (.vec t size cs)→((ρ id).nil=true∧cs=[])∨
  ((ρ id).nil=false∧∃spare:List Value,w'.heap[(ρ id).g]? =some (.cells (cs++spare).toArray t (0,0))∧(cs++spare).length=(ρ id).cap*size∧(ρ id).cap≤maxLen)
 inj:∀id id' b b',getH H id=some b→getH H id'=some b'→b≠ .dead→b'≠ .dead→(ρ id).nil=false→(ρ id').nil=false→(ρ id).g=(ρ id').g→id=id'
 low:∀id b,getH H id=some b→(ρ id).nil=false→B≤(ρ id).g∧(ρ id).g<w'.heap.size
 frm:∀k,k<w.heap.size→(∀id b,getH H id=some b→(ρ id).nil=false→(ρ id).g≠k)→w'.heap[k]? =w.heap[k]?
 prot:∀lo hi,(lo,hi)∈iv→∀id b,getH H id=some b→(ρ id).nil=false→¬(lo≤(ρ id).g∧(ρ id).g<hi)
 scH:∀id t cs,getH H id=some (.box t cs)→∀x∈cs,At.sc nx x
 nn:∀id b,getH H id=some b→(∀t size cs,b≠ .vec t size cs)→b≠ .dead→(ρ id).nil=false

end Go.Sx

/- The executor: what is owed so that a piece of code leads to a wanted end. -/
namespace Go.Sx
open Go

/-- Function g of the program has a body and may be entered. -/
structure Enters(P:Program)(g:Nat):Prop where
 h:∀(args:Array Value) (w:World),(callFunc g args).run P w= .ok (.enter g args) w
structure Con(P:Program)(g:Nat)(args:Array Value)(w:World)(R:Ending→World→Prop):Prop where
 e:Enters P g
 c:Calls P g args w R

def nthA:List At→Nat→Option At
 |[],_=>none
 |x::_,0=>some x
 |_::t,n+1=>nthA t n
def nthV:List Value→Nat→Option Value
 |[],_=>none
 |x::_,0=>some x
 |_::t,n+1=>nthV t n
def nthF:List (Nat×Nat)→Nat→Option (Nat×Nat)
 |[],_=>none
 |x::_,0=>some x
 |_::t,n+1=>nthF t n

def kindEq:IntKind→IntKind→Bool
 | .i8,.i8=>true| .i16,.i16=>true| .i32,.i32=>true| .i64,.i64=>true
 | .u8,.u8=>true| .u16,.u16=>true| .u32,.u32=>true| .u64,.u64=>true
 |_,_=>false

abbrev Tab:=Nat→Option TI

def intK(op:BinOp)(k:IntKind)(a b:Int)(K:Value→Prop):Prop:=
 match op with
 | .add=>∃r,k.wrap (a+b)=r∧K (.int k r)
 | .sub=>∃r,k.wrap (a-b)=r∧K (.int k r)
 | .mul=>∃r,k.wrap (a*b)=r∧K (.int k r)
 | .quo=>b≠0∧∃r,k.wrap (a.tdiv b)=r∧K (.int k r)
 | .rem=>b≠0∧∃r,a.tmod b=r∧K (.int k r)
 | .and=>∃r,k.wrap ((BitVec.ofInt k.bits a &&& BitVec.ofInt k.bits b).toNat:Int)=r∧K (.int k r)
 | .or=>∃r,k.wrap ((BitVec.ofInt k.bits a ||| BitVec.ofInt k.bits b).toNat:Int)=r∧K (.int k r)
 | .xor=>∃r,k.wrap ((BitVec.ofInt k.bits a ^^^ BitVec.ofInt k.bits b).toNat:Int)=r∧K (.int k r)
 | .shl=>0≤b∧∃r,k.wrap (a*2^(min b.toNat k.bits))=r∧K (.int k r)
 | .shr=>0≤b∧∃r,a.fdiv (2^(min b.toNat k.bits))=r∧K (.int k r)
 | .eql=>K (.bool (a==b))
 | .neq=>K (.bool (a != b))
 | .lss=>K (.bool (decide (a<b)))
 | .leq=>K (.bool (decide (a≤b)))
 | .gtr=>K (.bool (decide (a>b)))
 | .geq=>K (.bool (decide (a≥b)))
 | .andNot=>∃r,k.wrap ((BitVec.ofInt k.bits a &&& ~~~BitVec.ofInt k.bits b).toNat:Int)=r∧K (.int k r)

def binK(P:Program)(τ:Tab)(op:BinOp)(t:Nat)(x y:SV)(K:SV→Prop):Prop:=
 match x,y with
 | .o (.v (.int k a)),.o (.v (.int k' b))=>
  match op with
  | .shl=>intK op k a b (fun r=>K (.o (.v r)))
  | .shr=>intK op k a b (fun r=>K (.o (.v r)))
  |_=>match kindEq k k' with
   |true=>intK op k a b (fun r=>K (.o (.v r)))
   |false=>False
 | .o (.v (.bool a)),.o (.v (.bool b))=>
  match τ t with
  |some ti=>match Nat.beq ti.tag 2 with
   |true=>match op with
    | .eql=>K (.o (.v (.bool (a==b))))
    | .neq=>K (.o (.v (.bool (!(a==b)))))
    |_=>False
   |false=>False
  |none=>False
 | .o (.v (.string a)),.o (.v (.string b))=>
  match op with
  | .eql=>K (.o (.v (.bool (a.data.toList==b.data.toList))))
  | .neq=>K (.o (.v (.bool (!(a.data.toList==b.data.toList)))))
  | .add=>a.size+b.size≤maxLen∧K (.o (.v (.string (a++b))))
  |_=>False
 |_,_=>∃b:Bool,(∀(ρ:Nat→Val) (w:World) (o1 o2:Operand),(do eqGuard op t o1 o2 (x.den ρ) (y.den ρ);binOp op t (x.den ρ) (y.den ρ)).run P w= .ok (.bool b) w)∧K (.o (.v (.bool b)))

def loadK(τ:Tab)(B:Nat)(t:Nat)(addr:SV)(H:Hp)(nx:Nat)(iv:Iv)(w:World)(K:SV→Prop):Prop:=
 match τ t with
 |none=>False
 |some ⟨sz,ag,_,_,_,_,_,_,_⟩=>
  match addr with
  | .o (.p id off)=>
   match getH H id with
   |some (.box _ cs)=>
    match ag with
    |false=>match nthA cs off with
     |some x=>K (.o x)
     |none=>False
    |true=>dropK cs off (fun r=>takeK r sz (fun l=>K (.a l)))
   |some (.arr _ cs)=>
    match ag with
    |false=>∃x,cs[off]? =some x∧K (.o (.v x))
    |true=>∃xs:List Value,(cs.drop off).take sz=xs∧xs.length=sz∧valsK xs (fun l=>K (.a l))
   |some (.vec _ _ cs)=>
    match ag with
    |false=>∃x,cs[off]? =some x∧K (.o (.v x))
    |true=>∃xs:List Value,(cs.drop off).take sz=xs∧xs.length=sz∧valsK xs (fun l=>K (.a l))
   |_=>False
  | .o (.v (.pointer (some ad)))=>
   match ag with
   |false=>∃x,(∀ρ w',Rel H nx iv B w ρ w'→w'.cell? ad=some x)∧K (.o (.v x))
   |true=>∃xs:List Value,xs.length=sz∧(∀ρ w',Rel H nx iv B w ρ w'→∀j x,xs[j]? =some x→w'.cell? (ad.add j)=some x)∧valsK xs (fun l=>K (.a l))
  |_=>False

def setCells(w:World)(a:Addr):List Value→World
 |[]=>w
 |x::r=>setCells (w.setCell a x) (a.add 1) r

def storeK(τ:Tab)(B:Nat)(t:Nat)(addr x:SV)(H:Hp)(nx:Nat)(iv:Iv)(w:World)(K:Hp→World→Prop):Prop:=
 match τ t with
 |none=>False
 |some ⟨sz,_,_,_,_,_,_,_,_⟩=>
  cellsK x (fun new=>onesK new (match Nat.beq new.length sz with
   |false=>False
   |true=>match addr with
    | .o (.p id off)=>
     match getH H id with
     |some (.box bt cs)=>spliceK cs off new (fun cs'=>setH H id (.box bt cs') (fun H'=>K H' w))
     |some (.arr bt cs)=>rawK new (fun nv=>off+sz≤cs.length∧∃cs',cs.take off++nv++cs.drop (off+sz)=cs'∧setH H id (.arr bt cs') (fun H'=>K H' w))
     |some (.vec bt ez cs)=>rawK new (fun nv=>off+sz≤cs.length∧∃cs',cs.take off++nv++cs.drop (off+sz)=cs'∧setH H id (.vec bt ez cs') (fun H'=>K H' w))
     |_=>False
    | .o (.v (.pointer (some ad)))=>rawK new (fun nv=>∀ρ w',Rel H nx iv B w ρ w'→
      ad.spot=none∧(∀j,j<sz→(w'.cell? (ad.add j)).isSome=true∧w'.frozen? (ad.add j)=false)∧
      (∀id b,getH H id=some b→(ρ id).nil=false→(ρ id).g≠ad.block)∧
      ∀w2,w2=setCells w' ad nv→K H w2)
    |_=>False))

/-- A new block of the call's own. -/
def newK(b:Blk)(H:Hp)(nx:Nat)(K:Hp→Nat→Prop):Prop:=K ((nx,b)::H) (nx+1)

def fieldOff(τ:Tab)(fs:List (Nat×Nat))(f:Nat)(k:Nat→Nat→Bool→Prop):Prop:=
 match nthF fs f with
 |some (off,ft)=>match τ ft with
  |some ⟨sz,ag,_,_,_,_,_,_,_⟩=>match Nat.beq sz 0 with
   |true=>False
   |false=>k off sz ag
  |none=>False
 |none=>False

def ptrAddK(x:SV)(n:Nat)(K:SV→Prop):Prop:=
 match x with
 | .o (.p id off)=>K (.o (.p id (off+n)))
 | .o (.v (.pointer (some ad)))=>K (.o (.v (.pointer (some (ad.add n)))))
 |_=>False

def partsK(l:Env)(place:Nat→(Nat→Nat→Prop)→Prop):List (Nat×Operand)→List At→(List At→Prop)→Prop
 |[],cs,k=>k cs
 |(i,x)::r,cs,k=>place i (fun off size=>wEv l x (fun v=>cellsK v (fun new=>match Nat.beq new.length size with
   |true=>spliceK cs off new (fun cs'=>partsK l place r cs' k)
   |false=>False)))

/-- a growing slice has as many elements as is said -/
def vecK(H:Hp)(id m:Nat)(K:Prop):Prop:=
 match getH H id with
 |some (.vec _ sz cs)=>match sz with
  |0=>False
  |k+1=>cs.length=m*(k+1)∧K
 |_=>False

def lenK(τ:Tab)(H:Hp)(t:Nat)(x:SV)(K:Int→Prop):Prop:=
 match τ t with
 |none=>False
 |some ⟨_,_,_,_,tag,_,_,alen,_⟩=>match Nat.beq tag 4 with
  |true=>match x with
   | .o (.v (.slice _ n _))=>K n
   | .o (.s _ _ n _)=>K n
   | .o (.w id n)=>vecK H id n (K n)
   |_=>False
  |false=>match Nat.beq tag 3 with
   |true=>match x with
    | .o (.v (.string b))=>K b.size
    |_=>False
   |false=>match Nat.beq tag 6 with
    |true=>K alen
    |false=>False

def indexK(τ:Tab)(H:Hp)(t:Nat)(x i:SV)(K:SV→Prop):Prop:=
 match i with
 | .o (.v (.int _ i))=>match τ t with
  |some ⟨_,_,_,_,tag,_,e,alen,_⟩=>match τ e with
   |some ⟨sz,_,_,_,_,_,_,_,_⟩=>match Nat.beq tag 4 with
    |true=>match x with
     | .o (.s id off n _)=>(0≤i∧i<n)∧K (.o (.p id (off+i.toNat*sz)))
     | .o (.w id n)=>vecK H id n ((0≤i∧i<n)∧K (.o (.p id (i.toNat*sz))))
     | .o (.v (.slice a n _))=>∃ad,a=some ad∧(0≤i∧i<n)∧K (.o (.v (.pointer (some (ad.add (i.toNat*sz))))))
     |_=>False
    |false=>match Nat.beq tag 6 with
     |true=>(0≤i∧i<alen)∧ptrAddK x (i.toNat*sz) K
     |false=>False
   |none=>False
  |none=>False
 |_=>False

/-- bounds of a slice expression -/
def loK(l:Env)(x:Option Operand)(dflt:Int)(K:Int→Prop):Prop:=
 match x with
 |none=>K dflt
 |some o=>wEv l o (fun v=>match v with
  | .o (.v (.int _ n))=>K n
  |_=>False)

def sliceK(τ:Tab)(H:Hp)(t:Nat)(x:SV)(l:Env)(lo hi:Option Operand)(K:SV→Prop):Prop:=
 match τ t with
 |some ⟨_,_,_,_,tag,_,e,al,_⟩=>match Nat.beq tag 4 with
  |true=>match τ e with
   |some ⟨sz,_,_,_,_,_,_,_,_⟩=>match x with
    | .o (.s id off n c)=>loK l lo 0 (fun a=>loK l hi n (fun b=>(0≤a∧a≤b∧b≤c)∧∃off' n' c':Nat,(if (c:Int)=a then off else off+a.toNat*sz)=off'∧b.toNat-a.toNat=n'∧c-a.toNat=c'∧K (.o (.s id off' n' c'))))
    | .o (.v (.slice ad n c))=>loK l lo 0 (fun a=>loK l hi n (fun b=>(0≤a∧a≤b∧b≤c)∧∃ad' n' c',(if (c:Int)=a then ad else ad.map (·.add (a.toNat*sz)))=ad'∧b.toNat-a.toNat=n'∧c-a.toNat=c'∧K (.o (.v (.slice ad' n' c')))))
    | .o (.w id n)=>match lo with
     |none=>vecK H id n (loK l hi n (fun b=>(0≤b∧b≤n)∧∃m:Nat,b.toNat=m∧K (.o (.w id m))))
     |some _=>False
    |_=>False
   |none=>False
  |false=>match Nat.beq tag 6 with
   |true=>match τ e with
    |some ⟨_,_,_,_,_,_,_,_,_⟩=>match x with
     | .o (.p id off)=>match lo,hi with
      |none,none=>match Nat.beq al 0 with
       |false=>K (.o (.s id off al al))
       |true=>False
      |_,_=>False
     |_=>False
    |none=>False
   |false=>match Nat.beq tag 3 with
    |true=>match x with
     | .o (.v (.string s))=>loK l lo 0 (fun a=>loK l hi s.size (fun b=>(0≤a∧a≤b∧b≤s.size)∧K (.o (.v (.string (s.extract a.toNat b.toNat))))))
     |_=>False
    |false=>False
 |none=>False

def makeK(τ:Tab)(t:Nat)(x y:SV)(H:Hp)(nx:Nat)(K:SV→Hp→Nat→Prop):Prop:=
 match x,y with
 | .o (.v (.int _ a)),.o (.v (.int _ b))=>match τ t with
  |some ⟨_,_,_,_,tag,_,e,_,_⟩=>match Nat.beq tag 4 with
   |true=>match τ e with
    |some ⟨_,_,by_,ze,_,_,_,_,_⟩=>∃n c:Nat,a=n∧b=c∧n≤c∧by_*c≤281474976710656∧c≤9223372036854775807∧
      match ze with
      |[z]=>newK (.arr e (List.replicate c z)) H nx (fun H' nx'=>K (.o (.s nx 0 n c)) H' nx')
      |zs=>newK (.arr e (List.replicate c zs).flatten) H nx (fun H' nx'=>K (.o (.s nx 0 n c)) H' nx')
    |none=>False
   |false=>False
  |none=>False
 |_,_=>False

/-- the cells of what is appended, n elements of so many cells -/
def newsK(B:Nat)(H:Hp)(nx:Nat)(iv:Iv)(w:World)(size:Nat)(x:SV)(K:Nat→List Value→Prop):Prop:=
 match x with
 | .o (.s id off n _)=>match getH H id with
  |some (.box _ cs)=>dropK cs off (fun r=>takeK r (n*size) (fun l=>rawK l (fun vs=>K n vs)))
  |some (.arr _ cs)=>∃vs:List Value,(cs.drop off).take (n*size)=vs∧vs.length=n*size∧(∀x∈vs,x.oneCell'=true)∧K n vs
  |_=>False
 | .o (.v (.slice a n _))=>∃vs:List Value,vs.length=n*size∧(∀x∈vs,x.oneCell'=true)∧
   (∀ρ w',Rel H nx iv B w ρ w'→0<n→∃ad,a=some ad∧∀j u,vs[j]? =some u→w'.cell? (ad.add j)=some u)∧K n vs
 | .o (.w id n)=>match getH H id with
  |some (.vec _ _ cs)=>cs.length=n*size∧(∀x∈cs,x.oneCell'=true)∧K n cs
  |_=>False
 |_=>False

def appendK(τ:Tab)(B:Nat)(t:Nat)(x y:SV)(H:Hp)(nx:Nat)(iv:Iv)(w:World)(K:SV→Hp→Nat→Prop):Prop:=
 match τ t with
 |none=>False
 |some ⟨_,_,_,_,tag,_,e,_,_⟩=>match Nat.beq tag 4 with
  |true=>match τ e with
   |some ⟨sz,_,by_,ze,_,_,_,_,_⟩=>match ze with
    |[]=>False
    |_::_=>newsK B H nx iv w sz y (fun m news=>
     match x with
     | .o (.v (.slice none 0 0))=>m*by_≤140737488355328∧m≤maxLen∧newK (.vec e sz news) H nx (fun H' nx'=>K (.o (.w nx m)) H' nx')
     | .o (.w id n)=>match getH H id with
      |some (.vec e' sz' cs)=>match Nat.beq e' e with
       |true=>match Nat.beq sz' sz with
        |true=>cs.length=n*sz∧(n+m)*by_≤140737488355328∧n+m≤maxLen∧killK H id (fun H1=>newK (.vec e sz (cs++news)) H1 nx (fun H' nx'=>K (.o (.w nx (n+m))) H' nx'))
        |false=>False
       |false=>False
      |_=>False
     | .o (.s id 0 n c)=>match Nat.beq n c with
      |true=>match getH H id with
       |some (.box e' cs)=>match Nat.beq e' e with
        |true=>rawK cs (fun vs=>vs.length=n*sz∧(n+m)*by_≤140737488355328∧n+m≤maxLen∧killK H id (fun H1=>newK (.vec e sz (vs++news)) H1 nx (fun H' nx'=>K (.o (.w nx (n+m))) H' nx')))
        |false=>False
       |_=>False
      |false=>False
     |_=>False)
   |none=>False
  |false=>False

def densOf(ρ:Nat→Val)(xs:List SV):Array Value:=(xs.map (SV.den ρ)).toArray

/-- A world that goes on from another: what was there is as it was. -/
abbrev Ext(w w2:World):Prop:=RowKit.Below w.heap.size w w2

/-- A call: the callee may write blocks of the caller's own. -/
structure CallS(P:Program)(B:Nat)(g:Nat)(args:(Nat→Val)→Array Value)(H:Hp)(nx:Nat)(iv:Iv)(w:World)(K:SV→Hp→Iv→World→Prop):Prop where
 h:∀ρ w',Rel H nx iv B w ρ w'→Con P g (args ρ) w' (fun e w2=>∃v H' iv',e= .returned v∧Rel H' nx iv' B w2 ρ w2∧K (.o (.v v)) H' iv' w2)
/-- A call that leaves all that was there. -/
structure CallE(P:Program)(B:Nat)(g:Nat)(args:(Nat→Val)→Array Value)(H:Hp)(nx:Nat)(iv:Iv)(w:World)(K:SV→Hp→Iv→World→Prop):Prop where
 h:∀ρ w',Rel H nx iv B w ρ w'→Con P g (args ρ) w' (fun e w2=>∃v,e= .returned v∧Ext w' w2∧K (.o (.v v)) H ((w'.heap.size,w2.heap.size)::iv) w2)
def callK(dr:Bool)(P:Program)(B:Nat)(g:Nat)(args:(Nat→Val)→Array Value)(H:Hp)(nx:Nat)(iv:Iv)(w:World)(K:SV→Hp→Iv→World→Prop):Prop:=
 match dr with
 |true=>CallE P B g args H nx iv w K
 |false=>CallS P B g args H nx iv w K

/-- any other operation: what it does is said by hand, and the named world is the very world behind it -/
structure OpS(P:Program)(B:Nat)(o:Oper)(l:Env)(H:Hp)(nx:Nat)(iv:Iv)(w:World)(K:SV→Hp→Nat→Iv→World→Prop):Prop where
 h:∀(ρ:Nat→Val) w' (e:Operand→Value),Rel H nx iv B w ρ w'→(∀x v,ev l x=some v→e x=v.den ρ)→
  ∃v w2 iv',((execOp e o).run P w'= .ok (.value v) w2∨((execOp e o).run P w'= .ok .skip w2∧v=undef))∧Rel H nx iv' B w2 ρ w2∧K (.o (.v v)) H nx iv' w2
def fbK(dr:Bool)(P:Program)(B:Nat)(o:Oper)(l:Env)(H:Hp)(nx:Nat)(iv:Iv)(w:World)(K:SV→Hp→Nat→Iv→World→Prop):Prop:=
 match dr with
 |true=>False
 |false=>OpS P B o l H nx iv w K

/-- a block of one's own goes into an array of one's own: what it does is said by hand, and the block is held raw behind it -/
structure OpG(P:Program)(B:Nat)(o:Oper)(l:Env)(H:Hp)(nx:Nat)(iv:Iv)(w:World)(K:SV→Hp→Nat→Iv→World→Prop):Prop where
 h:∀(ρ:Nat→Val) w' (e:Operand→Value),Rel H nx iv B w ρ w'→(∀x v,ev l x=some v→e x=v.den ρ)→
  ∃w2 w3 H' iv',(execOp e o).run P w'= .ok .skip w3∧Rel H' nx iv' B w2 ρ w3∧K (.o (.v undef)) H' nx iv' w2
def gbK(dr:Bool)(P:Program)(B:Nat)(o:Oper)(l:Env)(H:Hp)(nx:Nat)(iv:Iv)(w:World)(K:SV→Hp→Nat→Iv→World→Prop):Prop:=
 match dr with
 |true=>False
 |false=>OpG P B o l H nx iv w K
/-- a block of one's own is appended to a growing list: what it does is said by hand, and the block is held raw behind it -/
structure OpA(P:Program)(B:Nat)(o:Oper)(l:Env)(H:Hp)(nx:Nat)(iv:Iv)(w:World)(K:SV→Hp→Nat→Iv→World→Prop):Prop where
 h:∀(ρ:Nat→Val) w' (e:Operand→Value),Rel H nx iv B w ρ w'→(∀x v,ev l x=some v→e x=v.den ρ)→
  ∃v H' nx' iv' ρ' w2 w3,(execOp e o).run P w'= .ok (.value (SV.den ρ' v)) w3∧Rel H' nx' iv' B w2 ρ' w3∧v.sc nx'∧nx≤nx'∧(∀id,id<nx→ρ id=ρ' id)∧K v H' nx' iv' w2
def gaK(dr:Bool)(P:Program)(B:Nat)(o:Oper)(l:Env)(H:Hp)(nx:Nat)(iv:Iv)(w:World)(K:SV→Hp→Nat→Iv→World→Prop):Prop:=
 match dr with
 |true=>False
 |false=>OpA P B o l H nx iv w K
def giveA(H:Hp):SV→Bool
 | .o (.s id _ _ _)=>match getH H id with
  |some (.box _ [.s _ _ _ _])=>true
  |some (.box _ [.w _ _])=>true
  |_=>false
 |_=>false
def giveS(H:Hp):SV→SV→Bool
 | .o (.p id _),.o (.s _ _ _ _)=>match getH H id with
  |some (.arr _ _)=>true
  |_=>false
 |_,_=>false

def allPtr:List SV→(List Nat→Prop)→Prop
 |[],k=>k []
 | .o (.p id 0)::r,k=>allPtr r (fun l=>k (id::l))
 |_::_,_=>False

def sxOp(dr:Bool)(P:Program)(τ:Tab)(B:Nat)(o:Oper)(l:Env)(H:Hp)(nx:Nat)(iv:Iv)(w:World)(K:SV→Hp→Nat→Iv→World→Prop):Prop:=
 match o.op with
 | .move x=>wEv l x (fun v=>K v H nx iv w)
 | .assign x=>wEv l x (fun v=>K v H nx iv w)
 | .pick c a b=>wEv l c (fun v=>match v with
  | .o (.v (.bool t))=>BrS t (wEv l a (fun v=>K v H nx iv w)) (wEv l b (fun v=>K v H nx iv w))
  |_=>False)
 | .alloc t=>match τ t with
  |some ⟨_,_,_,ze,_,_,_,_,_⟩=>valsK ze (fun cs=>newK (.box t cs) H nx (fun H' nx'=>K (.o (.p nx 0)) H' nx' iv w))
  |none=>False
 | .box t x=>wEv l x (fun v=>cellsK v (fun cs=>newK (.box t cs) H nx (fun H' nx'=>K (.o (.p nx 0)) H' nx' iv w)))
 | .build t parts=>match τ t with
  |some ⟨_,_,_,ze,tag,_,e,_,fs⟩=>match Nat.beq tag 5 with
   |true=>valsK ze (fun z=>partsK l (fun i k=>fieldOff τ fs i (fun off sz _=>k off sz)) parts.toList z (fun cs=>K (.a cs) H nx iv w))
   |false=>match Nat.beq tag 6 with
    |true=>match τ e with
     |some ⟨sz,_,_,_,_,_,_,_,_⟩=>valsK ze (fun z=>partsK l (fun i k=>k (i*sz) sz) parts.toList z (fun cs=>K (.a cs) H nx iv w))
     |none=>False
    |false=>False
  |none=>False
 | .buildSlice t n parts=>match τ t with
  |some ⟨_,_,_,_,tag,_,e,_,_⟩=>match Nat.beq tag 4 with
   |true=>match τ e with
    |some ⟨sz,_,_,ze,_,_,_,_,_⟩=>match Nat.ble (n*sz) 16777216 with
     |true=>valsK (List.replicate n ze).flatten (fun z=>partsK l (fun i k=>k (i*sz) sz) parts.toList z (fun cs=>
       newK (.box e cs) H nx (fun H' nx'=>K (.o (.s nx 0 n n)) H' nx' iv w)))
     |false=>False
    |none=>False
   |false=>False
  |none=>False
 | .load t a=>wEv l a (fun v=>loadK τ B t v H nx iv w (fun r=>K r H nx iv w))
 | .store t a x=>wEv l a (fun va=>wEv l x (fun vx=>match giveS H va vx with
  |true=>gbK dr P B o l H nx iv w K
  |false=>storeK τ B t va vx H nx iv w (fun H' w'=>K (.o (.v undef)) H' nx iv w')))
 | .nilCheck x=>wEv l x (fun v=>match v with
  | .o (.p id off)=>K (.o (.p id off)) H nx iv w
  | .o (.v (.pointer (some ad)))=>K (.o (.v (.pointer (some ad)))) H nx iv w
  | .o (.fn f ids)=>K (.o (.fn f ids)) H nx iv w
  | .o (.v (.func (.func f) fi ca))=>K (.o (.v (.func (.func f) fi ca))) H nx iv w
  |_=>False)
 | .binOp op t x y _=>wEv l x (fun vx=>wEv l y (fun vy=>binK P τ op t vx vy (fun r=>K r H nx iv w)))
 | .unOp op _ x=>wEv l x (fun v=>match op,v with
  | .not,.o (.v (.bool b))=>K (.o (.v (.bool (!b)))) H nx iv w
  | .neg,.o (.v (.int k n))=>∃r,k.wrap (0-n)=r∧K (.o (.v (.int k r))) H nx iv w
  | .xor,.o (.v (.int k n))=>∃r,k.wrap ((BitVec.ofInt k.bits (if k.signed then -1 else k.max) ^^^ BitVec.ofInt k.bits n).toNat:Int)=r∧K (.o (.v (.int k r))) H nx iv w
  |_,_=>False)
 | .convert sr d x=>match τ sr with
  |some _=>wEv l x (fun v=>match τ d with
   |some ⟨_,_,_,_,tag,ik,_,_,_⟩=>match Nat.beq tag 1 with
    |true=>match v with
     | .o (.v (.int _ n))=>∃r,ik.wrap n=r∧K (.o (.v (.int ik r))) H nx iv w
     |_=>False
    |false=>fbK dr P B o l H nx iv w K
   |none=>False)
  |none=>False
 | .makeFunc (.func f) ⟨first⟩ caps=>match first with
  |[]=>wEvs l caps.toList (fun vs=>allPtr vs (fun ids=>K (.o (.fn f ids)) H nx iv w))
  |_=>False
 | .makeSlice t x y=>wEv l x (fun vx=>wEv l y (fun vy=>makeK τ t vx vy H nx (fun v H' nx'=>K v H' nx' iv w)))
 | .slice t x lo hi none=>wEv l x (fun v=>sliceK τ H t v l lo hi (fun r=>K r H nx iv w))
 | .fieldAddr t x f=>match τ t with
  |some ⟨_,_,_,_,tag,_,_,_,fs⟩=>match Nat.beq tag 5 with
   |true=>fieldOff τ fs f (fun off _ _=>wEv l x (fun v=>ptrAddK v off (fun r=>K r H nx iv w)))
   |false=>False
  |none=>False
 | .field t x f=>match τ t with
  |some ⟨_,_,_,_,tag,_,_,_,fs⟩=>match Nat.beq tag 5 with
   |true=>fieldOff τ fs f (fun off sz ag=>wEv l x (fun v=>match v with
    | .o (.v (.agg ⟨vs⟩))=>valsK vs (fun cs=>match ag with
     |true=>dropK cs off (fun r=>takeK r sz (fun c=>K (.a c) H nx iv w))
     |false=>match nthA cs off with
      |some c=>K (.o c) H nx iv w
      |none=>False)
    | .a cs=>match ag with
     |true=>dropK cs off (fun r=>takeK r sz (fun c=>K (.a c) H nx iv w))
     |false=>match nthA cs off with
      |some c=>K (.o c) H nx iv w
      |none=>False
    |_=>False))
   |false=>False
  |none=>False
 | .indexAddr t x i=>wEv l x (fun vx=>wEv l i (fun vi=>indexK τ H t vx vi (fun r=>K r H nx iv w)))
 | .extract x i=>wEv l x (fun v=>match v with
  | .o (.v (.tuple ⟨vs⟩))=>match nthV vs i with
   |some u=>K (.o (.v u)) H nx iv w
   |none=>False
  |_=>False)
 | .call ⟨.builtin .len,⟨[x]⟩,⟨[t]⟩⟩=>wEv l x (fun v=>lenK τ H t v (fun n=>K (.o (.v (.int .i64 n))) H nx iv w))
 | .call ⟨.builtin .append,⟨[x,y]⟩,⟨[t,u]⟩⟩=>match Nat.beq t u with
  |true=>wEv l x (fun vx=>wEv l y (fun vy=>match giveA H vy with
   |true=>gaK dr P B o l H nx iv w K
   |false=>appendK τ B t vx vy H nx iv w (fun v H' nx'=>K v H' nx' iv w)∨OpS P B o l H nx iv w K))
  |false=>OpS P B o l H nx iv w K
 | .call ⟨.builtin .max,⟨[x,y]⟩,_⟩=>wEv l x (fun vx=>wEv l y (fun vy=>match vx,vy with
  | .o (.v (.int k a)),.o (.v (.int k' b))=>match kindEq k k' with
   |true=>K (.o (.v (.int k (max a b)))) H nx iv w
   |false=>False
  |_,_=>False))
 | .call ⟨.builtin .min,⟨[x,y]⟩,_⟩=>wEv l x (fun vx=>wEv l y (fun vy=>match vx,vy with
  | .o (.v (.int k a)),.o (.v (.int k' b))=>match kindEq k k' with
   |true=>K (.o (.v (.int k (min a b)))) H nx iv w
   |false=>False
  |_,_=>False))
 | .call ⟨.builtin .copy,_,_⟩=>OpS P B o l H nx iv w K
 | .call ⟨.builtin .clear,_,_⟩=>OpS P B o l H nx iv w K
 | .call ⟨.builtin .cap,_,_⟩=>OpS P B o l H nx iv w K
 | .index _ _ _=>OpS P B o l H nx iv w K
 | .makeMap _ _=>OpS P B o l H nx iv w K
 | .lookup _ _ _ _=>OpS P B o l H nx iv w K
 | .mapUpdate _ _ _ _=>OpS P B o l H nx iv w K
 | .call ⟨.value f,⟨args⟩,_⟩=>wEv l f (fun vf=>wEvs l args (fun vs=>match vf with
   | .o (.v (.func (.func g) first caps))=>callK dr P B g (fun ρ=>first++densOf ρ vs++caps) H nx iv w (fun v H' iv' w'=>K v H' nx iv' w')
   | .o (.fn g ids)=>callK dr P B g (fun ρ=>densOf ρ vs++(ids.map fun id=>Value.pointer (some ⟨(ρ id).g,0,none⟩)).toArray) H nx iv w (fun v H' iv' w'=>K v H' nx iv' w')
   |_=>False))
 |_=>False

/-- The slot that an operation writes. -/
def dstOf:List Oper→Nat→Option Tmp
 |[],_=>none
 |o::_,0=>o.dst
 |_::r,n+1=>dstOf r n

def setE(d:Option Tmp)(v:SV)(l:Env)(k:Env→Prop):Prop:=match d with
 |some t=>k ((t,v)::l)
 |none=>k l

def sxGuard(all:List Oper)(g:Option (Nat×Bool))(l:Env)(yes no:Env→Prop):Prop:=
 match g with
 |none=>yes l
 |some (j,want)=>match dstOf all j with
  |none=>no l
  |some d=>match getE l d with
   |some (.o (.v (.bool b)))=>match want with
    |true=>BrS b (yes ((d,.o (.v (.bool true)))::l)) (no ((d,.o (.v (.bool false)))::l))
    |false=>BrS b (no ((d,.o (.v (.bool true)))::l)) (yes ((d,.o (.v (.bool false)))::l))
   |some (.o (.v (.tuple _)))=>no l
   |_=>False

/-- one operation; what is behind it is told once, so that the kernel compares it once -/
def sxStep(dr:Bool)(P:Program)(τ:Tab)(B:Nat)(all:List Oper)(o:Oper)(l:Env)(H:Hp)(nx:Nat)(iv:Iv)(w:World)(k:Env→Hp→Nat→Iv→World→Prop):Prop:=
 sxGuard all o.guard l
  (fun l=>sxOp dr P τ B o l H nx iv w (fun v H' nx' iv' w'=>setE o.dst v l (fun l'=>k l' H' nx' iv' w')))
  (fun l=>setE o.dst (.o (.v undef)) l (fun l'=>k l' H nx iv w))
def sxOps(P:Program)(τ:Tab)(B:Nat)(all:List Oper):List Oper→Env→Hp→Nat→Iv→World→(Env→Hp→Nat→Iv→World→Prop)→Prop
 |[],l,H,nx,iv,w,K=>K l H nx iv w
 |o::r,l,H,nx,iv,w,K=>sxStep false P τ B all o l H nx iv w (fun l' H' nx' iv' w'=>sxOps P τ B all r l' H' nx' iv' w' K)

inductive Ex where
 |normal
 |exit (id:Nat)
 |ret

/-- A configuration of the machine meets a state. -/
structure Sat(n:Nat)(l:Env)(H:Hp)(nx:Nat)(iv:Iv)(B:Nat)(w:World)(ρ:Nat→Val)(a:Act)(w':World):Prop where
 rel:Rel H nx iv B w ρ w'
 size:a.tmps.size=n
 defers:a.defers=[]
 env:∀t v,getE l t=some v→a.tmps[t]? =some (v.den ρ)
 sc:∀t v,getE l t=some v→v.sc nx

abbrev KT:=Env→Hp→Nat→Iv→World→Prop
/-- what a region that draws its order owes: told elsewhere -/
structure DrawnS(P:Program)(B:Nat)(ops:Array Oper)(l:Env)(H:Hp)(nx:Nat)(iv:Iv)(w:World)(K:KT):Prop where
 h:∀n ρ a w',ops.toList.all (fun o=>match o.dst with
   |some d=>Nat.blt d n
   |none=>true)=true→Sat n l H nx iv B w ρ a w'→
  ∀Q:Exit→Act→World→Prop,(∀l' H' nx' iv' w2 ρ' a' w'',K l' H' nx' iv' w2→Sat n l' H' nx' iv' B w2 ρ' a' w''→Q .normal a' w'')→
  ∀id,(Code.region id ops true).wp P Q a w'

structure LoopI where
 l:Env
 H:Hp
 nx:Nat
 iv:Iv
 w:World
/-- the same configuration meets another state -/
def Sub(B:Nat)(l:Env)(_nx:Nat)(ρ:Nat→Val)(w':World)(t:LoopI):Prop:=
 ∃ρ',Rel t.H t.nx t.iv B t.w ρ' w'∧(∀u v,getE t.l u=some v→v.sc t.nx∧∃v0,getE l u=some v0∧v0.den ρ=v.den ρ')

def sxCode(P:Program)(τ:Tab)(B:Nat):Code→Env→Hp→Nat→Iv→World→(Ex→KT)→Prop
 | .skip,l,H,nx,iv,w,Q=>Q .normal l H nx iv w
 | .region _ ops false,l,H,nx,iv,w,Q=>sxOps P τ B ops.toList ops.toList l H nx iv w (Q .normal)
 | .region _ ops true,l,H,nx,iv,w,Q=>DrawnS P B ops l H nx iv w (Q .normal)
 | .seq a b,l,H,nx,iv,w,Q=>sxCode P τ B a l H nx iv w (fun e l H nx iv w=>match e with
  | .normal=>sxCode P τ B b l H nx iv w Q
  | .exit id=>Q (.exit id) l H nx iv w
  | .ret=>Q .ret l H nx iv w)
 | .cond c a b,l,H,nx,iv,w,Q=>wEv l c (fun v=>match v with
  | .o (.v (.bool t))=>BrS t (sxCode P τ B a l H nx iv w Q) (sxCode P τ B b l H nx iv w Q)
  |_=>False)
 | .block id c,l,H,nx,iv,w,Q=>sxCode P τ B c l H nx iv w (fun e l H nx iv w=>match e with
  | .normal=>Q .normal l H nx iv w
  | .exit id'=>match Nat.beq id' id with
   |true=>Q .normal l H nx iv w
   |false=>Q (.exit id') l H nx iv w
  | .ret=>Q .ret l H nx iv w)
 | .loop c,l,H,nx,iv,w,Q=>∃(α:Type) (st:α→LoopI) (μ:α→Nat) (I:α→Prop),
   (∀ρ w',Rel H nx iv B w ρ w'→∃x,I x∧Sub B l nx ρ w' (st x))∧
   ∀x,I x→sxCode P τ B c (st x).l (st x).H (st x).nx (st x).iv (st x).w (fun e l H nx iv w=>match e with
    | .normal=>∀ρ w',Rel H nx iv B w ρ w'→∃y,I y∧Sub B l nx ρ w' (st y)∧μ y<μ x
    | .exit id=>Q (.exit id) l H nx iv w
    | .ret=>Q .ret l H nx iv w)
 | .exit id,l,H,nx,iv,w,Q=>Q (.exit id) l H nx iv w
 | .ret,l,H,nx,iv,w,Q=>Q .ret l H nx iv w
 |_,_,_,_,_,_,_=>False

end Go.Sx

/- The executor is sound, first part: its helpers, and how the relation to the world is kept. -/
namespace Go.Sx
open Go

/-- What the program says of a type is what the table says. -/
structure TOK(P:Program)(t:Nat)(i:TI):Prop where
 info:∃inf z,P.info? t=some inf∧inf.size=i.size∧inf.bytes=i.bytes∧inf.zero=some z∧z.cells.toList=i.zero
 zlen:i.zero.length=i.size
 zone:∀x∈i.zero,x.oneCell'=true
 agg:∃d,P.underlying t=some d∧(match d with| .struct _| .array _ _=>true|_=>false)=i.agg
 i1:i.tag=1→P.underlying t=some (.int i.ik)
 i2:i.tag=2→P.underlying t=some .bool
 i3:i.tag=3→P.underlying t=some .string
 i4:i.tag=4→P.underlying t=some (.slice i.elem)
 i5:i.tag=5→∃fs,P.underlying t=some (.struct fs)∧fs.toList.map (fun f=>(f.offset,f.type))=i.fields∧∀f∈fs.toList,(P.info? f.type).isSome=true
 i6:i.tag=6→P.underlying t=some (.array i.alen i.elem)
def TabOK(P:Program)(τ:Tab):Prop:=∀t i,τ t=some i→TOK P t i

theorem beq_t{a b:Nat}(h:Nat.beq a b=true):a=b:=Nat.eq_of_beq_eq_true h

/-! ### the helpers -/
theorem valsK_spec:∀{xs:List Value} {k:List At→Prop},valsK xs k→k (xs.map At.v)
 |[],_,h=>h
 |x::r,k,h=>by
  have:=valsK_spec (xs:=r) (k:=fun r'=>k (.v x::r')) h
  simpa using this
theorem dropK_spec:∀{cs:List At} {n:Nat} {k:List At→Prop},dropK cs n k→k (cs.drop n)∧n≤cs.length
 |cs,0,k,h=>by cases cs<;>exact⟨by simpa [dropK]using h,by simp⟩
 |[],n+1,k,h=>by simp[dropK]at h
 |x::t,n+1,k,h=>by
  have:=dropK_spec (cs:=t) (n:=n) (k:=k) h
  exact⟨by simpa using this.1,by simp;omega⟩
theorem takeK_spec:∀{cs:List At} {n:Nat} {k:List At→Prop},takeK cs n k→k (cs.take n)∧n≤cs.length
 |cs,0,k,h=>by cases cs<;>exact⟨by simpa [takeK]using h,by simp⟩
 |[],n+1,k,h=>by simp[takeK]at h
 |x::t,n+1,k,h=>by
  have:=takeK_spec (cs:=t) (n:=n) (k:=fun r=>k (x::r)) h
  exact⟨by simpa using this.1,by simp;omega⟩
theorem overK_spec:∀{cs new:List At} {k:List At→Prop},overK cs new k→k (new++cs.drop new.length)∧new.length≤cs.length
 |cs,[],k,h=>by cases cs<;>exact⟨by simpa [overK]using h,by simp⟩
 |[],x::r,k,h=>by simp[overK]at h
 |_::t,x::r,k,h=>by
  have:=overK_spec (cs:=t) (new:=r) (k:=fun t'=>k (x::t')) h
  exact⟨by simpa using this.1,by simp;omega⟩
theorem spliceK_spec:∀{cs:List At} {off:Nat} {new:List At} {k:List At→Prop},spliceK cs off new k→
  k (cs.take off++new++cs.drop (off+new.length))∧off+new.length≤cs.length
 |cs,0,new,k,h=>by
  have h':overK cs new k:=by cases cs<;>simpa [spliceK]using h
  have:=overK_spec h'
  exact⟨by simpa using this.1,by omega⟩
 |[],n+1,new,k,h=>by simp[spliceK]at h
 |x::t,n+1,new,k,h=>by
  have:=spliceK_spec (cs:=t) (off:=n) (new:=new) (k:=fun t'=>k (x::t')) h
  refine⟨?_,by simp;omega⟩
  have h2:=this.1
  rw[show n+1+new.length=(n+new.length)+1 by omega]
  simpa using h2
theorem one_den{x:At}(h:x.one=true)(ρ:Nat→Val):(x.den ρ).oneCell'=true:=by
 cases x with
 |v y=>cases y<;>simp_all [At.one,At.den,Value.oneCell']
 |w id n=>simp only[At.den];split<;>rfl
 |_=>rfl
theorem onesK_spec:∀{cs:List At} {k:Prop},onesK cs k→k∧∀c∈cs,At.one c=true
 |[],k,h=>⟨h,by simp⟩
 |x::r,k,h=>by
  unfold onesK at h
  split at h
  ·rename_i hx
   have:=onesK_spec h
   exact⟨this.1,by simp[hx];exact this.2⟩
  ·exact h.elim
theorem rawK_spec:∀{cs:List At} {k:List Value→Prop},rawK cs k→∃vs,k vs∧cs=vs.map At.v∧∀v∈vs,v.oneCell'=true
 |[],k,h=>⟨[],h,rfl,by simp⟩
 | .v x::r,k,h=>by
  unfold rawK at h
  split at h
  ·rename_i hx
   obtain⟨vs,h1,h2,h3⟩:=rawK_spec h
   exact⟨x::vs,h1,by simp[h2],by simp;exact⟨one_den hx (fun _=>⟨0,0,false⟩),h3⟩⟩
  ·exact h.elim
 | .p _ _::_,k,h=>by simp[rawK]at h
 | .s _ _ _ _::_,k,h=>by simp[rawK]at h
 | .w _ _::_,k,h=>by simp[rawK]at h
 | .fn _ _::_,k,h=>by simp[rawK]at h
theorem cellsK_spec{x:SV}{k:List At→Prop}(h:cellsK x k):∃cs,k cs∧(∀ρ,(x.den ρ).cells=(cs.map (At.den ρ)).toArray)∧(∀n,x.sc n→∀c∈cs,c.sc n):=by
 cases x with
 |a cs=>exact⟨cs,h,fun ρ=>rfl,fun n hn=>hn⟩
 |o y=>
  cases y with
  |v z=>
   cases z with
   |agg arr=>
    obtain⟨l⟩:=arr
    refine⟨_,valsK_spec h,fun ρ=>?_,fun n _ c hc=>?_⟩
    ·simp[SV.den,At.den,Value.cells,Function.comp_def]
    ·simp at hc;obtain⟨v,_,rfl⟩:=hc;trivial
   |tuple arr=>simp[cellsK]at h
   |_=>exact⟨_,h,fun ρ=>rfl,fun n _ c hc=>by simp at hc;subst hc;trivial⟩
  |w id n=>exact⟨_,h,fun ρ=>by simp only[SV.den,At.den,List.map];split<;>rfl,fun n hn c hc=>by simp at hc;subst hc;exact hn⟩
  |_=>exact⟨_,h,fun ρ=>rfl,fun n hn c hc=>by simp at hc;subst hc;exact hn⟩

theorem getH_cons(t:Nat)(b:Blk)(r:Hp)(u:Nat):getH ((t,b)::r) u=if t=u then some b else getH r u:=by
 show(match Nat.beq t u with|true=>some b|false=>getH r u)=_
 split
 ·rename_i h;rw[if_pos (beq_t h)]
 ·rename_i h;rw[if_neg (fun e=>by subst e;rw[Nat.beq_refl]at h;cases h)]
theorem getE_cons(t:Nat)(b:SV)(r:Env)(u:Nat):getE ((t,b)::r) u=if t=u then some b else getE r u:=by
 show(match Nat.beq t u with|true=>some b|false=>getE r u)=_
 split
 ·rename_i h;rw[if_pos (beq_t h)]
 ·rename_i h;rw[if_neg (fun e=>by subst e;rw[Nat.beq_refl]at h;cases h)]
theorem setH_spec:∀{H:Hp} {id:Nat} {b:Blk} {k:Hp→Prop},setH H id b k→∃H',k H'∧(∀j,getH H' j=if j=id then some b else getH H j)∧(getH H id).isSome=true
 |[],id,b,k,h=>by simp[setH]at h
 |(t,v)::r,id,b,k,h=>by
  unfold setH at h
  split at h
  ·rename_i ht
   have:=beq_t ht
   subst this
   refine⟨_,h,fun j=>?_,by simp[getH_cons]⟩
   simp only[getH_cons]
   by_cases e:t=j
   ·simp[e]
   ·simp[e,Ne.symm e]
  ·rename_i ht
   have hne:t≠id:=fun e=>by subst e;rw[Nat.beq_refl]at ht;cases ht
   obtain⟨H',h1,h2,h3⟩:=setH_spec h
   refine⟨_,h1,fun j=>?_,by simp[getH_cons,hne,h3]⟩
   simp only[getH_cons,h2]
   by_cases e:t=j
   ·subst e;simp[hne]
   ·simp[e]
theorem killK_spec:∀{H:Hp} {id:Nat} {k:Hp→Prop},killK H id k→∃H',k H'∧(∀j,getH H' j=if j=id then some .dead else getH H j)∧(getH H id).isSome=true
 |[],id,k,h=>by simp[killK]at h
 |(t,v)::r,id,k,h=>by
  unfold killK at h
  split at h
  ·rename_i ht
   have:=beq_t ht
   subst this
   refine⟨_,h,fun j=>?_,by simp[getH_cons]⟩
   simp only[getH_cons]
   by_cases e:t=j
   ·simp[e]
   ·simp[e,Ne.symm e]
  ·rename_i ht
   have hne:t≠id:=fun e=>by subst e;rw[Nat.beq_refl]at ht;cases ht
   obtain⟨H',h1,h2,h3⟩:=killK_spec h
   refine⟨_,h1,fun j=>?_,by simp[getH_cons,hne,h3]⟩
   simp only[getH_cons,h2]
   by_cases e:t=j
   ·subst e;simp[hne]
   ·simp[e]

/-! ### what depends on the numbering -/
theorem At.den_congr{x:At}{n:Nat}{ρ ρ':Nat→Val}(h:∀id,id<n→ρ id=ρ' id)(hx:x.sc n):x.den ρ=x.den ρ':=by
 cases x with
 |v y=>rfl
 |p id off=>simp only[At.den,h id hx]
 |s id off len cap=>simp only[At.den,h id hx]
 |w id len=>simp only[At.den,h id hx]
 |fn f caps=>
  simp only[At.den]
  congr 2
  exact List.map_congr_left fun id hid=>by rw[h id (hx id hid)]
theorem SV.den_congr{x:SV}{n:Nat}{ρ ρ':Nat→Val}(h:∀id,id<n→ρ id=ρ' id)(hx:x.sc n):x.den ρ=x.den ρ':=by
 cases x with
 |o y=>exact At.den_congr h hx
 |a cs=>
  simp only[SV.den]
  congr 2
  exact List.map_congr_left fun c hc=>At.den_congr h (hx c hc)
theorem At.sc_mono{x:At}{n m:Nat}(h:n≤m)(hx:x.sc n):x.sc m:=by
 cases x with
 |v y=>trivial
 |fn f caps=>intro id hid;have:=hx id hid;omega
 |_=>simp only[At.sc]at *;omega
theorem SV.sc_mono{x:SV}{n m:Nat}(h:n≤m)(hx:x.sc n):x.sc m:=by
 cases x with
 |o y=>exact At.sc_mono h hx
 |a cs=>exact fun c hc=>At.sc_mono h (hx c hc)

/-- the world has drawn -/
theorem Rel.drew{H:Hp}{nx:Nat}{iv:Iv}{B:Nat}{w w':World}{ρ:Nat→Val}(r:Rel H nx iv B w ρ w'):Rel H nx iv B w ρ w'.drew:=
 ⟨r.os,r.tape,r.output,r.size,r.base,r.ivs,r.keys,r.box,r.arr,r.vec,r.inj,r.low,r.frm,r.prot,r.scH,r.nn⟩

/-- the number of a new block is put into the numbering -/
def upd(ρ:Nat→Val)(nx:Nat)(v:Val):Nat→Val:=fun j=>if j=nx then v else ρ j
theorem upd_lt{ρ:Nat→Val}{nx:Nat}{v:Val}:∀id,id<nx→ρ id=upd ρ nx v id:=fun id h=>by simp[upd,Nat.ne_of_lt h]
@[simp] theorem upd_same {ρ:Nat→Val} {nx:Nat} {v:Val}:upd ρ nx v nx=v:=by simp[upd]

/-- What a block is to hold. -/
def Blk.fits(b:Blk)(ρ:Nat→Val)(v:Val)(w:World):Prop:=
 match b with
 | .box t cs=>v.nil=false∧w.heap[v.g]? =some (.cells (cs.map (At.den ρ)).toArray t (0,0))
 | .arr t cs=>v.nil=false∧w.heap[v.g]? =some (.cells cs.toArray t (0,0))
 | .vec t size cs=>(v.nil=true∧cs=[])∨(v.nil=false∧∃spare:List Value,w.heap[v.g]? =some (.cells (cs++spare).toArray t (0,0))∧(cs++spare).length=v.cap*size∧v.cap≤maxLen)
 | .dead=>True
def Blk.scopd(b:Blk)(n:Nat):Prop:=match b with
 | .box _ cs=>∀x∈cs,At.sc n x
 |_=>True

theorem Rel.fits{H:Hp}{nx:Nat}{iv:Iv}{B:Nat}{w w':World}{ρ:Nat→Val}(r:Rel H nx iv B w ρ w'){id:Nat}{b:Blk}(h:getH H id=some b):b.fits ρ (ρ id) w':=by
 cases b with
 |box t cs=>exact⟨r.nn id _ h (by intros;simp) (by simp),r.box id t cs h⟩
 |arr t cs=>exact⟨r.nn id _ h (by intros;simp) (by simp),r.arr id t cs h⟩
 |vec t size cs=>exact r.vec id t size cs h
 |dead=>trivial

/-- The relation out of what each block holds. -/
theorem Rel.mk'{H:Hp}{nx:Nat}{iv:Iv}{B:Nat}{w w':World}{ρ:Nat→Val}(os:w'.os=w.os)(tape:w'.tape=w.tape)(output:w'.output=w.output)
  (size:w.heap.size≤w'.heap.size) (base:B≤w.heap.size) (ivs:∀lo hi,(lo,hi)∈iv→hi≤w.heap.size) (keys:∀id b,getH H id=some b→id<nx)
  (fits:∀id b,getH H id=some b→b.fits ρ (ρ id) w') (scH:∀id b,getH H id=some b→b.scopd nx)
  (inj:∀id id' b b',getH H id=some b→getH H id'=some b'→b≠ .dead→b'≠ .dead→(ρ id).nil=false→(ρ id').nil=false→(ρ id).g=(ρ id').g→id=id')
  (low:∀id b,getH H id=some b→(ρ id).nil=false→B≤(ρ id).g∧(ρ id).g<w'.heap.size)
  (frm:∀k,k<w.heap.size→(∀id b,getH H id=some b→(ρ id).nil=false→(ρ id).g≠k)→w'.heap[k]? =w.heap[k]?)
  (prot:∀lo hi,(lo,hi)∈iv→∀id b,getH H id=some b→(ρ id).nil=false→¬(lo≤(ρ id).g∧(ρ id).g<hi)):Rel H nx iv B w ρ w' where
 os:=os
 tape:=tape
 output:=output
 size:=size
 base:=base
 ivs:=ivs
 keys:=keys
 box:=fun id t cs h=>(fits id _ h).2
 arr:=fun id t cs h=>(fits id _ h).2
 vec:=fun id t size cs h=>fits id _ h
 inj:=inj
 low:=low
 frm:=frm
 prot:=prot
 scH:=fun id t cs h=>scH id _ h
 nn:=fun id b h h1 h2=>by
  have:=fits id b h
  cases b with
  |box t cs=>exact this.1
  |arr t cs=>exact this.1
  |vec t size cs=>exact absurd rfl (h1 t size cs)
  |dead=>exact absurd rfl h2

theorem Blk.fits_keep{b:Blk}{ρ ρ':Nat→Val}{v:Val}{w w':World}{n:Nat}(h:b.fits ρ v w)(hρ:∀id,id<n→ρ id=ρ' id)(hs:b.scopd n)
  (hw:v.nil=false→b≠ .dead→w'.heap[v.g]? =w.heap[v.g]?):b.fits ρ' v w':=by
 cases b with
 |box t cs=>
  obtain⟨h1,h2⟩:=h
  refine⟨h1,?_⟩
  rw[hw h1 (by simp),h2,List.map_congr_left fun c hc=>At.den_congr hρ (hs c hc)]
 |arr t cs=>exact⟨h.1,by rw[hw h.1 (by simp)];exact h.2⟩
 |vec t size cs=>
  rcases h with h|⟨h1,spare,h2,h3⟩
  ·exact .inl h
  ·exact .inr ⟨h1,spare,by rw[hw h1 (by simp)];exact h2,h3⟩
 |dead=>trivial
theorem Blk.scopd_mono{b:Blk}{n m:Nat}(h:n≤m)(hb:b.scopd n):b.scopd m:=by
 cases b with
 |box t cs=>exact fun c hc=>At.sc_mono h (hb c hc)
 |_=>trivial
theorem Rel.scopd{H:Hp}{nx:Nat}{iv:Iv}{B:Nat}{w w':World}{ρ:Nat→Val}(r:Rel H nx iv B w ρ w'){id:Nat}{b:Blk}(h:getH H id=some b):b.scopd nx:=by
 cases b with
 |box t cs=>exact r.scH id t cs h
 |_=>trivial

/-- A new local number, for a block that lies behind all that were there. -/
theorem Rel.push{H:Hp}{nx:Nat}{iv:Iv}{B:Nat}{w w' w2:World}{ρ:Nat→Val}(r:Rel H nx iv B w ρ w')(b:Blk)(v:Val)
  (os:w2.os=w'.os) (tape:w2.tape=w'.tape) (output:w2.output=w'.output) (size:w'.heap.size≤w2.heap.size) (old:∀k,k<w'.heap.size→w2.heap[k]? =w'.heap[k]?)
  (hv:v.nil=false→w'.heap.size≤v.g∧v.g<w2.heap.size) (hb:b.fits ρ v w2) (hs:b.scopd nx):Rel ((nx,b)::H) (nx+1) iv B w (upd ρ nx v) w2:=by
 have hlt:∀id b,getH H id=some b→id≠nx:=fun id b h=>Nat.ne_of_lt (r.keys id b h)
 have hup:∀id b,getH H id=some b→upd ρ nx v id=ρ id:=fun id b h=>by simp[upd,hlt id b h]
 refine Rel.mk' (os.trans r.os) (tape.trans r.tape) (output.trans r.output) (Nat.le_trans r.size size) r.base r.ivs ?_ ?_ ?_ ?_ ?_ ?_ ?_
 ·intro id b' h
  rw[getH_cons]at h
  split at h
  ·omega
  ·have:=r.keys id b' h;omega
 ·intro id b' h
  rw[getH_cons]at h
  split at h
  ·rename_i e;subst e;injection h with h;subst h
   rw[upd_same]
   exact Blk.fits_keep hb upd_lt hs (fun _ _=>rfl)
  ·rw[hup id b' h]
   exact Blk.fits_keep (r.fits h) upd_lt (r.scopd h) (fun h1 _=>old _ (r.low id b' h h1).2)
 ·intro id b' h
  rw[getH_cons]at h
  split at h
  ·injection h with h;subst h;exact Blk.scopd_mono (by omega) hs
  ·exact Blk.scopd_mono (by omega) (r.scopd h)
 ·intro id id' b1 b2 h1 h2 d1 d2 n1 n2 e
  rw[getH_cons]at h1 h2
  split at h1<;>split at h2
  ·omega
  ·rename_i e1 e2;subst e1
   rw[upd_same]at e n1;rw[hup id' b2 h2]at e n2
   have:=(r.low id' b2 h2 n2).2
   have:=(hv n1).1
   omega
  ·rename_i e1 e2;subst e2
   rw[upd_same]at e n2;rw[hup id b1 h1]at e n1
   have:=(r.low id b1 h1 n1).2
   have:=(hv n2).1
   omega
  ·rw[hup id b1 h1]at e n1;rw[hup id' b2 h2]at e n2
   exact r.inj id id' b1 b2 h1 h2 d1 d2 n1 n2 e
 ·intro id b' h n1
  rw[getH_cons]at h
  split at h
  ·rename_i e;subst e;rw[upd_same]at n1 ⊢
   have:=hv n1;have:=r.base;have:=r.size;omega
  ·rw[hup id b' h]at n1 ⊢
   have:=r.low id b' h n1;omega
 ·intro k hk hne
  rw[old k (by have:=r.size;omega)]
  refine r.frm k hk fun id b' h n1=>?_
  have:=hne id b' (by rw[getH_cons,if_neg (Ne.symm (hlt id b' h))];exact h) (by rw[hup id b' h];exact n1)
  rwa [hup id b' h]at this
 ·intro lo hi hm id b' h n1
  rw[getH_cons]at h
  split at h
  ·rename_i e;subst e;rw[upd_same]at n1 ⊢
   have:=hv n1;have:=r.ivs lo hi hm;have:=r.size;omega
  ·rw[hup id b' h]at n1 ⊢
   exact r.prot lo hi hm id b' h n1

/-- A block of the call's own is written. -/
theorem Rel.store{H H':Hp}{nx:Nat}{iv:Iv}{B:Nat}{w w' w2:World}{ρ:Nat→Val}(r:Rel H nx iv B w ρ w'){id:Nat}{b b':Blk}(hid:getH H id=some b)(hd:b≠ .dead)(hn:(ρ id).nil=false)
  (hH:∀j,getH H' j=if j=id then some b' else getH H j)
  (os:w2.os=w'.os) (tape:w2.tape=w'.tape) (output:w2.output=w'.output) (size:w2.heap.size=w'.heap.size) (old:∀k,k≠(ρ id).g→w2.heap[k]? =w'.heap[k]?)
  (hb:b'.fits ρ (ρ id) w2) (hs:b'.scopd nx):Rel H' nx iv B w ρ w2:=by
 have key:∀j c,getH H' j=some c→∃c',getH H j=some c':=fun j c h=>by
  rw[hH]at h
  split at h
  ·rename_i e;subst e;exact⟨b,hid⟩
  ·exact⟨c,h⟩
 refine Rel.mk' (os.trans r.os) (tape.trans r.tape) (output.trans r.output) (by rw[size];exact r.size) r.base r.ivs ?_ ?_ ?_ ?_ ?_ ?_ ?_
 ·intro j c h;obtain⟨c',h'⟩:=key j c h;exact r.keys j c' h'
 ·intro j c h
  rw[hH]at h
  split at h
  ·rename_i e;subst e;injection h with h;subst h;exact hb
  ·rename_i e
   refine Blk.fits_keep (r.fits h) (fun _ _=>rfl) (r.scopd h) (fun h1 h2=>old _ fun e2=>e ?_)
   exact r.inj j id c b h hid h2 hd h1 hn e2
 ·intro j c h
  rw[hH]at h
  split at h
  ·injection h with h;subst h;exact hs
  ·exact r.scopd h
 ·intro j j' c c' h1 h2 d1 d2 n1 n2 e
  rw[hH]at h1 h2
  have l1:∃c1,getH H j=some c1∧c1≠ .dead:=by
   split at h1
   ·rename_i e1;subst e1;exact⟨b,hid,hd⟩
   ·exact⟨c,h1,d1⟩
  have l2:∃c1,getH H j'=some c1∧c1≠ .dead:=by
   split at h2
   ·rename_i e1;subst e1;exact⟨b,hid,hd⟩
   ·exact⟨c',h2,d2⟩
  obtain⟨c1,g1,g2⟩:=l1
  obtain⟨c2,g3,g4⟩:=l2
  exact r.inj j j' c1 c2 g1 g3 g2 g4 n1 n2 e
 ·intro j c h n1;obtain⟨c',h'⟩:=key j c h;rw[size];exact r.low j c' h' n1
 ·intro k hk hne
  have hkg:k≠(ρ id).g:=fun e=>hne id b' (by rw[hH];simp) hn e.symm
  rw[old k hkg]
  refine r.frm k hk fun j c h n1=>?_
  by_cases e:j=id
  ·subst e;exact Ne.symm hkg
  ·exact hne j c (by rw[hH,if_neg e];exact h) n1
 ·intro lo hi hm j c h n1;obtain⟨c',h'⟩:=key j c h;exact r.prot lo hi hm j c' h' n1

/-- A growing slice is appended to: its old number is dead, the new one stands for the old block, or for a new one. -/
theorem Rel.regrow{H H1:Hp}{nx:Nat}{iv:Iv}{B:Nat}{w w' w2:World}{ρ:Nat→Val}(r:Rel H nx iv B w ρ w'){id:Nat}{b0:Blk}(hid:getH H id=some b0)(hd:b0≠ .dead)
  (hH:∀j,getH H1 j=if j=id then some .dead else getH H j) (b:Blk) (v:Val)
  (os:w2.os=w'.os) (tape:w2.tape=w'.tape) (output:w2.output=w'.output) (size:w'.heap.size≤w2.heap.size)
  (old:∀k,k<w'.heap.size→((ρ id).nil=false→k≠(ρ id).g)→w2.heap[k]? =w'.heap[k]?)
  (hv:v.nil=false→(w'.heap.size≤v.g∧v.g<w2.heap.size)∨((ρ id).nil=false∧v.g=(ρ id).g)) (hb:b.fits ρ v w2) (hs:b.scopd nx):Rel ((nx,b)::H1) (nx+1) iv B w (upd ρ nx v) w2:=by
 have key:∀j c,getH H1 j=some c→∃c',getH H j=some c'∧(c≠ .dead→c'=c∧j≠id):=fun j c h=>by
  rw[hH]at h
  split at h
  ·rename_i e;subst e;injection h with h;exact⟨b0,hid,fun h2=>absurd h.symm h2⟩
  ·rename_i e;exact⟨c,h,fun _=>⟨rfl,e⟩⟩
 have hlt:∀j c,getH H1 j=some c→j≠nx:=fun j c h=>by obtain⟨c',h',_⟩:=key j c h;exact Nat.ne_of_lt (r.keys j c' h')
 have hup:∀j c,getH H1 j=some c→upd ρ nx v j=ρ j:=fun j c h=>by simp[upd,hlt j c h]
 have hidlt:=r.keys id b0 hid
 have hvlow:v.nil=false→B≤v.g∧v.g<w2.heap.size:=fun hn=>by
  rcases hv hn with h|⟨h1,h2⟩
  ·have:=r.base;have:=r.size;omega
  ·have:=r.low id b0 hid h1;omega
 refine Rel.mk' (os.trans r.os) (tape.trans r.tape) (output.trans r.output) (Nat.le_trans r.size size) r.base r.ivs ?_ ?_ ?_ ?_ ?_ ?_ ?_
 ·intro j b' h
  rw[getH_cons]at h
  split at h
  ·omega
  ·obtain⟨c',h',_⟩:=key j b' h;have:=r.keys j c' h';omega
 ·intro j b' h
  rw[getH_cons]at h
  split at h
  ·rename_i e;subst e;injection h with h;subst h
   rw[upd_same]
   exact Blk.fits_keep hb upd_lt hs (fun _ _=>rfl)
  ·rw[hup j b' h]
   by_cases hdead:b'= .dead
   ·subst hdead;trivial
   ·obtain⟨c',h',h2⟩:=key j b' h
    obtain⟨rfl,hne⟩:=h2 hdead
    exact Blk.fits_keep (r.fits h') upd_lt (r.scopd h') (fun h1 _=>old _ (r.low j c' h' h1).2 fun h3 e=>hne (r.inj j id c' b0 h' hid hdead hd h1 h3 e))
 ·intro j b' h
  rw[getH_cons]at h
  split at h
  ·injection h with h;subst h;exact Blk.scopd_mono (by omega) hs
  ·by_cases hdead:b'= .dead
   ·subst hdead;trivial
   ·obtain⟨c',h',h2⟩:=key j b' h
    obtain⟨rfl,hne⟩:=h2 hdead
    exact Blk.scopd_mono (by omega) (r.scopd h')
 ·have cross:∀j c,getH H1 j=some c→c≠ .dead→(ρ j).nil=false→v.nil=false→v.g≠(ρ j).g:=fun j c h dd nj nv e=>by
   obtain⟨c',h',h2⟩:=key j c h
   obtain⟨rfl,hne⟩:=h2 dd
   rcases hv nv with h3|⟨h3,h4⟩
   ·have:=(r.low j c' h' nj).2;omega
   ·exact hne (r.inj j id c' b0 h' hid dd hd nj h3 (by omega))
  intro j j' b1 b2 h1 h2 d1 d2 n1 n2 e
  rw[getH_cons]at h1 h2
  split at h1<;>split at h2
  ·omega
  ·rename_i e1 e2;subst e1
   rw[upd_same]at e n1;rw[hup j' b2 h2]at e n2
   exact absurd e (cross j' b2 h2 d2 n2 n1)
  ·rename_i e1 e2;subst e2
   rw[upd_same]at e n2;rw[hup j b1 h1]at e n1
   exact absurd e.symm (cross j b1 h1 d1 n1 n2)
  ·rw[hup j b1 h1]at e n1;rw[hup j' b2 h2]at e n2
   obtain⟨c1,g1,k1⟩:=key j b1 h1
   obtain⟨c2,g2,k2⟩:=key j' b2 h2
   obtain⟨rfl,_⟩:=k1 d1
   obtain⟨rfl,_⟩:=k2 d2
   exact r.inj j j' c1 c2 g1 g2 d1 d2 n1 n2 e
 ·intro j b' h n1
  rw[getH_cons]at h
  split at h
  ·rename_i e;subst e;rw[upd_same]at n1 ⊢
   exact hvlow n1
  ·rw[hup j b' h]at n1 ⊢
   obtain⟨c',h',_⟩:=key j b' h
   have:=r.low j c' h' n1;omega
 ·intro k hk hne
  have hkey:∀j c,getH H j=some c→(ρ j).nil=false→(ρ j).g≠k:=fun j c h nj=>by
   have hj:getH H1 j=some (if j=id then .dead else c):=by rw[hH];split<;>simp[h]
   have:=hne j _ (by rw[getH_cons,if_neg (Ne.symm (hlt j _ hj))];exact hj) (by rw[hup j _ hj];exact nj)
   rwa [hup j _ hj]at this
  rw[old k (by have:=r.size;omega) (fun h e=>hkey id b0 hid h e.symm)]
  exact r.frm k hk hkey
 ·intro lo hi hm j b' h n1
  rw[getH_cons]at h
  split at h
  ·rename_i e;subst e;rw[upd_same]at n1 ⊢
   rcases hv n1 with h3|⟨h3,h4⟩
   ·have:=r.ivs lo hi hm;have:=r.size;omega
   ·rw[h4];exact r.prot lo hi hm id b0 hid h3
  ·rw[hup j b' h]at n1 ⊢
   obtain⟨c',h',_⟩:=key j b' h
   exact r.prot lo hi hm j c' h' n1

end Go.Sx

/- The executor is sound, second part: each operation. -/
namespace Go.Sx
open Go

section
variable{P:Program}{τ:Tab}{B n nx:Nat}{l:Env}{H:Hp}{iv:Iv}{w w':World}{ρ:Nat→Val}{a:Act}

theorem ev_spec(sat:Sat n l H nx iv B w ρ a w'){x:Operand}{v:SV}(h:ev l x=some v):a.eval x=v.den ρ∧v.sc nx:=by
 cases x with
 |tmp t=>
  have h1:=sat.env t v h
  exact⟨by simp[Act.eval,h1],sat.sc t v h⟩
 |const c=>simp[ev]at h;subst h;exact⟨rfl,trivial⟩
 |global g=>simp[ev]at h;subst h;exact⟨rfl,trivial⟩
 |func f=>simp[ev]at h;subst h;exact⟨rfl,trivial⟩
theorem wEv_spec(sat:Sat n l H nx iv B w ρ a w'){x:Operand}{k:SV→Prop}(h:wEv l x k):∃v,k v∧a.eval x=v.den ρ∧v.sc nx:=by
 unfold wEv at h
 split at h
 ·rename_i v hv;exact⟨v,h,ev_spec sat hv⟩
 ·exact h.elim
theorem wEvs_spec(sat:Sat n l H nx iv B w ρ a w'):∀{xs:List Operand} {k:List SV→Prop},wEvs l xs k→∃vs,k vs∧xs.map a.eval=vs.map (SV.den ρ)∧∀v∈vs,SV.sc nx v
 |[],k,h=>⟨[],h,rfl,by simp⟩
 |x::r,k,h=>by
  unfold wEvs at h
  split at h
  ·rename_i v hv
   obtain⟨vs,h1,h2,h3⟩:=wEvs_spec sat (xs:=r) h
   have:=ev_spec sat hv
   exact⟨v::vs,h1,by simp[this.1,h2],by simp;exact⟨this.2,h3⟩⟩
  ·exact h.elim

theorem wp_val{o:Oper}{a:Act}{w w2:World}{v:Value}{next:Act→World→Prop}{Q:Exit→Act→World→Prop}(h:(execOp a.eval o).run P w= .ok (.value v) w2)(hk:next (a.put o.dst v) w2):o.wp P a w next Q:=by
 unfold Oper.wp;rw[h];exact hk
theorem wp_skp{o:Oper}{a:Act}{w w2:World}{next:Act→World→Prop}{Q:Exit→Act→World→Prop}(h:(execOp a.eval o).run P w= .ok .skip w2)(hk:next (a.put o.dst undef) w2):o.wp P a w next Q:=by
 unfold Oper.wp;rw[h];exact hk
theorem run_v{s:Sem Value}{w w2:World}{v:Value}(h:s.run P w= .ok v w2):((do pure (.value (←s))):Sem Next).run P w= .ok (.value v) w2:=by
 simp[h]

theorem TOK.isAgg{t:Nat}{i:TI}(h:TOK P t i)(w:World):(isAgg t).run P w= .ok i.agg w:=by
 obtain⟨d,h1,h2⟩:=h.agg
 unfold Go.isAgg
 rw[Sem.run_bind,run_underlying h1 w,←h2]
 cases d<;>rfl
theorem TOK.sizeOf{t:Nat}{i:TI}(h:TOK P t i)(w:World):(sizeOf t).run P w= .ok i.size w:=by
 obtain⟨inf,z,h1,h2,_⟩:=h.info
 simp[Go.sizeOf,typeInfo,h1,h2]
theorem TOK.zeroV{t:Nat}{i:TI}(h:TOK P t i)(w:World):∃z,(zeroValue t).run P w= .ok z w∧z.cells.toList=i.zero:=by
 obtain⟨inf,z,h1,h2,_,h4,h5⟩:=h.info
 exact⟨z,by simp[zeroValue,typeInfo,h1,h4],h5⟩

/-- loads -/
theorem run_load_one{t:Nat}{i:TI}(ht:TOK P t i)(hagg:i.agg=false){w:World}{ad:Addr}{x:Value}(hc:w.cell? ad=some x):
  (Instr.loadAt t (.pointer (some ad))).run P w= .ok x w:=by
 simp[Instr.loadAt,Instr.sureAddr,loadVar,ht.isAgg,hagg,hc]
theorem run_load_agg{t:Nat}{i:TI}(ht:TOK P t i)(hagg:i.agg=true){w:World}{ad:Addr}{xs:List Value}(hl:xs.length=i.size)(hc:∀j v,xs[j]? =some v→w.cell? (ad.add j)=some v):
  (Instr.loadAt t (.pointer (some ad))).run P w= .ok (.agg xs.toArray) w:=by
 have:=run_loadCells_list (P:=P) w ad xs hc
 rw[hl]at this
 simp[Instr.loadAt,Instr.sureAddr,loadVar,ht.isAgg,hagg,ht.sizeOf,this]
theorem addr_add(g off j:Nat):(⟨g,off,none⟩:Addr).add j=⟨g,off+j,none⟩:=by
 unfold Addr.add;split<;>simp_all

theorem nthA_spec:∀{cs:List At} {i:Nat},nthA cs i=cs[i]?
 |[],i=>by simp[nthA]
 |x::r,0=>by simp[nthA]
 |x::r,i+1=>by simp[nthA,nthA_spec (cs:=r)]
theorem nthV_spec:∀{cs:List Value} {i:Nat},nthV cs i=cs[i]?
 |[],i=>by simp[nthV]
 |x::r,0=>by simp[nthV]
 |x::r,i+1=>by simp[nthV,nthV_spec (cs:=r)]
theorem nthF_spec:∀{cs:List (Nat×Nat)} {i:Nat},nthF cs i=cs[i]?
 |[],i=>by simp[nthF]
 |x::r,0=>by simp[nthF]
 |x::r,i+1=>by simp[nthF,nthF_spec (cs:=r)]

/-- the cells of a block that is known -/
theorem cell_of{w:World}{g t off:Nat}{cs:List Value}(h:w.heap[g]? =some (.cells cs.toArray t (0,0))):w.cell? ⟨g,off,none⟩=cs[off]? :=by
 rw[cell_of_row w g off _ t (0,0) h];simp

theorem map_v_den{xs:List Value}{ρ:Nat→Val}:(xs.map At.v).map (At.den ρ)=xs:=by
 simp[Function.comp_def,At.den]

theorem loadK_spec(hτ:TabOK P τ)(rel0:Rel H nx iv B w ρ w'){t:Nat}{addr:SV}(hs:addr.sc nx){K:SV→Prop}(h:loadK τ B t addr H nx iv w K):
  ∃r,K r∧r.sc nx∧∀w',Rel H nx iv B w ρ w'→(Instr.loadAt t (addr.den ρ)).run P w'= .ok (r.den ρ) w':=by
 unfold loadK at h
 split at h
 ·exact h.elim
 ·rename_i sz ag by_ ze tag ik e al fs hti
  have ht:=hτ t _ hti
  split at h
  ·rename_i id off
   split at h
   ·rename_i bt cs hH
    split at h
    ·split at h
     ·rename_i x hx
      rw[nthA_spec]at hx
      refine⟨_,h,rel0.scH id bt cs hH x (List.mem_of_getElem? hx),fun w' rel=>?_⟩
      have hb:=rel.box id bt cs hH
      exact run_load_one ht rfl (by rw[cell_of hb];simp[hx,SV.den])
     ·exact h.elim
    ·have h1:=dropK_spec h
     have h2:=takeK_spec h1.1
     refine⟨_,h2.1,fun c hc=>rel0.scH id bt cs hH c (List.mem_of_mem_drop (List.mem_of_mem_take hc)),fun w' rel=>?_⟩
     have hb:=rel.box id bt cs hH
     refine run_load_agg ht rfl (xs:=((cs.drop off).take sz).map (At.den ρ)) ?_ fun j v hv=>?_
     ·have:=h2.2;simp only[List.length_map,List.length_take];omega
     ·rw[addr_add,cell_of hb]
      simp only[List.getElem?_map,List.getElem?_take,List.getElem?_drop]at hv ⊢
      split at hv
      ·exact hv
      ·simp at hv
   ·rename_i bt cs hH
    split at h
    ·obtain⟨x,hx,h⟩:=h
     exact⟨_,h,trivial,fun w' rel=>run_load_one ht rfl (by rw[cell_of (rel.arr id bt cs hH),hx];rfl)⟩
    ·obtain⟨xs,hx,hl,h⟩:=h
     refine⟨_,valsK_spec h,fun c hc=>by simp at hc;obtain⟨v,_,rfl⟩:=hc;trivial,fun w' rel=>?_⟩
     have hb:=rel.arr id bt cs hH
     simp only[SV.den,map_v_den]
     refine run_load_agg ht rfl hl fun j v hv=>?_
     rw[addr_add,cell_of hb]
     rw[←hx]at hv
     simp only[List.getElem?_take,List.getElem?_drop]at hv
     split at hv
     ·exact hv
     ·simp at hv
   ·rename_i bt ez cs hH
    split at h
    ·obtain⟨x,hx,h⟩:=h
     refine⟨_,h,trivial,fun w' rel=>?_⟩
     have hb:=rel.vec id bt ez cs hH
     rcases hb with⟨_,rfl⟩|⟨hn,spare,hb,_⟩
     ·simp at hx
     ·refine run_load_one ht rfl ?_
      rw[cell_of hb]
      have:off<cs.length:=(List.getElem?_eq_some_iff.1 hx).1
      rw[List.getElem?_append_left this,hx];rfl
    ·obtain⟨xs,hx,hl,h⟩:=h
     refine⟨_,valsK_spec h,fun c hc=>by simp at hc;obtain⟨v,_,rfl⟩:=hc;trivial,fun w' rel=>?_⟩
     have hb:=rel.vec id bt ez cs hH
     simp only[SV.den,map_v_den]
     rcases hb with⟨_,rfl⟩|⟨hn,spare,hb,_⟩
     ·have:xs=[]:=by rw[←hx];simp
      subst this
      refine run_load_agg ht rfl hl fun j v hv=>by simp at hv
     ·refine run_load_agg ht rfl hl fun j v hv=>?_
      rw[addr_add,cell_of hb]
      rw[←hx]at hv
      simp only[List.getElem?_take,List.getElem?_drop]at hv
      split at hv
      ·rw[List.getElem?_append_left (List.getElem?_eq_some_iff.1 hv).1];exact hv
      ·simp at hv
   ·exact h.elim
  ·rename_i ad
   split at h
   ·obtain⟨x,hx,h⟩:=h
    exact⟨_,h,trivial,fun w' rel=>run_load_one ht rfl (hx ρ w' rel)⟩
   ·obtain⟨xs,hl,hx,h⟩:=h
    refine⟨_,valsK_spec h,fun c hc=>by simp at hc;obtain⟨v,_,rfl⟩:=hc;trivial,fun w' rel=>?_⟩
    simp only[SV.den,map_v_den]
    exact run_load_agg ht rfl hl fun j v hv=>hx ρ w' rel j v hv
  ·exact h.elim

/-- a store of cells into a known block -/
theorem run_store_blk{t:Nat}{i:TI}(ht:TOK P t i){w:World}{g off bt:Nat}{old:List Value}(hb:w.heap[g]? =some (.cells old.toArray bt (0,0))){v:Value}{new:List Value}
  (hv:v.cells=new.toArray) (hl:new.length=i.size) (h1:∀x∈new,x.oneCell'=true) (hfit:off+new.length≤old.length):
  (Instr.storeAt t (.pointer (some ⟨g,off,none⟩)) v).run P w= .ok () (w.setRow g (old.take off++new++old.drop (off+new.length)).toArray):=by
 have:=run_storeCells_at (P:=P) g off bt new 0 old.toArray w hb (by simpa using hfit) h1
 simp only[Nat.add_zero]at this
 simp[Instr.storeAt,Instr.sureAddr,storeVar,ht.sizeOf,hv,hl,this]

theorem setCells_eq:∀(vs:List Value) (w:World) (b off:Nat),setCells w ⟨b,off,none⟩ vs=w.setCells b off vs
 |[],_,_,_=>rfl
 |x::r,w,b,off=>by
  simp only[setCells,World.setCells,addr_add]
  exact setCells_eq r _ b (off+1)

theorem storeK_spec(hτ:TabOK P τ)(sat:Sat n l H nx iv B w ρ a w'){t:Nat}{addr x:SV}(hs:addr.sc nx)(hx:x.sc nx){K:Hp→World→Prop}(h:storeK τ B t addr x H nx iv w K):
  ∃H' w2 w3,K H' w2∧Rel H' nx iv B w2 ρ w3∧(Instr.storeAt t (addr.den ρ) (x.den ρ)).run P w'= .ok () w3:=by
 unfold storeK at h
 split at h
 ·exact h.elim
 rename_i sz ag by_ ze tag ik e al fs hti
 have ht:=hτ t _ hti
 have rel:=sat.rel
 have h0:=cellsK_spec h
 clear h
 obtain⟨new,h00,hcells,hsc⟩:=h0
 have h0:=onesK_spec h00
 clear h00
 obtain⟨h,hone⟩:=h0
 split at h
 ·exact h.elim
 rename_i hlen
 have hlen:=beq_t hlen
 have hcell:=hcells ρ
 have hsc:=hsc nx hx
 have h1:∀v∈new.map (At.den ρ),v.oneCell'=true:=by
  intro v hv;simp at hv;obtain⟨c,hc,rfl⟩:=hv;exact one_den (hone c hc) ρ
 have hlm:(new.map (At.den ρ)).length=sz:=by simpa using hlen
 split at h
 ·rename_i id off
  split at h
  ·rename_i bt cs hH
   have hb:=rel.box id bt cs hH
   obtain⟨hr,hfit⟩:=spliceK_spec h
   obtain⟨H',hK,hH',_⟩:=setH_spec hr
   refine⟨H',w,_,hK,?_,run_store_blk ht (old:=cs.map (At.den ρ)) hb hcell hlm h1 (by simp;omega)⟩
   refine rel.store hH (by simp) (rel.nn id _ hH (by intros;simp) (by simp)) hH' rfl rfl rfl (by simp) (fun k hk=>setRow_other _ _ _ _ hk) ⟨rel.nn id _ hH (by intros;simp) (by simp),?_⟩ ?_
   ·rw[setRow_heap _ _ _ _ _ _ hb];simp[List.map_drop,List.map_take]
   ·intro c hc
    simp only[List.mem_append]at hc
    rcases hc with(hc|hc)|hc
    ·exact rel.scH id bt cs hH c (List.mem_of_mem_take hc)
    ·exact hsc c hc
    ·exact rel.scH id bt cs hH c (List.mem_of_mem_drop hc)
  ·rename_i bt cs hH
   have hb:=rel.arr id bt cs hH
   obtain⟨nv,hr,hnv,hnv1⟩:=rawK_spec h
   obtain⟨hfit,cs',hcs',hr⟩:=hr
   obtain⟨H',hK,hH',_⟩:=setH_spec hr
   have hnl:nv.length=sz:=by rw[hnv]at hlen;simpa using hlen
   have hcell':(x.den ρ).cells=nv.toArray:=by rw[hcell,hnv,map_v_den]
   refine⟨H',w,_,hK,?_,run_store_blk ht hb hcell' hnl hnv1 (by omega)⟩
   refine rel.store hH (by simp) (rel.nn id _ hH (by intros;simp) (by simp)) hH' rfl rfl rfl (by simp) (fun k hk=>setRow_other _ _ _ _ hk) ⟨rel.nn id _ hH (by intros;simp) (by simp),?_⟩ trivial
   rw[setRow_heap _ _ _ _ _ _ hb,hnl,hcs']
  ·rename_i bt ez cs hH
   have hb:=rel.vec id bt ez cs hH
   obtain⟨nv,hr,hnv,hnv1⟩:=rawK_spec h
   obtain⟨hfit,cs',hcs',hr⟩:=hr
   obtain⟨H',hK,hH',_⟩:=setH_spec hr
   have hnl:nv.length=sz:=by rw[hnv]at hlen;simpa using hlen
   have hcell':(x.den ρ).cells=nv.toArray:=by rw[hcell,hnv,map_v_den]
   rcases hb with⟨hnil,rfl⟩|⟨hn,spare,hb,hsl,hcap⟩
   · -- nothing can be stored into a nil slice: only a value without cells
    have h0:sz=0:=by simp at hfit;omega
    have hnv0:nv=[]:=by cases nv with|nil=>rfl|cons _ _=>simp at hnl;omega
    subst hnv0
    have:cs'=[]:=by rw[←hcs'];simp
    subst this
    refine⟨H',w,w',hK,?_,?_⟩
    ·have hHH:∀j,getH H' j=getH H j:=fun j=>by rw[hH'];split<;>simp_all
     exact Rel.mk' rel.os rel.tape rel.output rel.size rel.base rel.ivs (fun id b h=>rel.keys id b (by rw[←hHH];exact h)) (fun id b h=>rel.fits (by rw[←hHH];exact h)) (fun id b h=>rel.scopd (by rw[←hHH];exact h))
      (fun i j b b' h1 h2=>rel.inj i j b b' (by rw[←hHH];exact h1) (by rw[←hHH];exact h2)) (fun id b h=>rel.low id b (by rw[←hHH];exact h))
      (fun k hk hne=>rel.frm k hk fun id b h=>hne id b (by rw[hHH];exact h)) (fun lo hi hm id b h=>rel.prot lo hi hm id b (by rw[←hHH];exact h))
    ·subst h0
     show(Instr.storeAt t (.pointer (some ⟨(ρ id).g,off,none⟩)) (x.den ρ)).run P w'=_
     generalize x.den ρ=xv at hcell' ⊢
     simp[Instr.storeAt,Instr.sureAddr,storeVar,ht.sizeOf,hcell',storeCells]
   ·refine⟨H',w,_,hK,?_,run_store_blk ht hb hcell' hnl hnv1 (by simp;omega)⟩
    refine rel.store hH (by simp) hn hH' rfl rfl rfl (by simp) (fun k hk=>setRow_other _ _ _ _ hk) (.inr ⟨hn,spare,?_,?_,hcap⟩) trivial
    ·rw[setRow_heap _ _ _ _ _ _ hb,←hcs',hnl]
     congr 2
     rw[List.take_append_of_le_length (by omega),List.drop_append_of_le_length (by omega)]
     simp
    ·rw[←hsl,←hcs'];simp;omega
  ·exact h.elim
 ·rename_i ad
  obtain⟨nv,hr,hnv,hnv1⟩:=rawK_spec h
  obtain⟨hspot,hok,hne,hK⟩:=hr ρ w' rel
  have hnl:nv.length=sz:=by rw[hnv]at hlen;simpa using hlen
  have hcell':(x.den ρ).cells=nv.toArray:=by rw[hcell,hnv,map_v_den]
  obtain⟨b,off,spot⟩:=ad
  simp only at hspot hne
  subst hspot
  have hst:=run_storeCells_cells (P:=P) b off nv 0 w' (fun j hj=>by have:=(hok j (by omega)).1;rwa [addr_add]at this) (fun j hj=>by have:=(hok j (by omega)).2;rwa [addr_add]at this) hnv1
  have hother:∀k,k≠b→(w'.setCells b off nv).heap[k]? =w'.heap[k]? :=by
   intro k hk
   clear hst hok h hr hK hnv hnv1 hcell' hnl
   induction nv generalizing w' off with
   |nil=>rfl
   |cons v r ih=>
    simp only[World.setCells]
    rw[show (∀(w0:World) (o:Nat),(w0.setCells b o r).heap[k]? =w0.heap[k]?)from ?_]
    ·simp[World.setCell,Array.getElem?_modify,Ne.symm hk]
    ·clear ih
     intro w0 o
     induction r generalizing w0 o with
     |nil=>rfl
     |cons v r ih=>simp only[World.setCells];rw[ih];simp[World.setCell,Array.getElem?_modify,Ne.symm hk]
  have hfrm:(w'.setCells b off nv).os=w'.os∧(w'.setCells b off nv).tape=w'.tape∧(w'.setCells b off nv).output=w'.output∧(w'.setCells b off nv).heap.size=w'.heap.size:=by
   have:∀(vs:List Value) (w0:World) (o:Nat),(w0.setCells b o vs).os=w0.os∧(w0.setCells b o vs).tape=w0.tape∧(w0.setCells b o vs).output=w0.output∧(w0.setCells b o vs).heap.size=w0.heap.size:=by
    intro vs
    induction vs with
    |nil=>intro w0 o;exact⟨rfl,rfl,rfl,rfl⟩
    |cons v r ih=>intro w0 o;simp only[World.setCells];obtain⟨h1,h2,h3,h4⟩:=ih (w0.setCell ⟨b,o,none⟩ v) (o+1);exact⟨h1,h2,h3,by rw[h4];simp⟩
   exact this nv w' off
  refine⟨H,_,w'.setCells b off nv,hK _ rfl,?_,?_⟩
  ·rw[setCells_eq]
   refine Rel.mk' rfl rfl rfl (Nat.le_refl _) (by rw[hfrm.2.2.2];have:=rel.base;have:=rel.size;omega) (fun lo hi hm=>by rw[hfrm.2.2.2];have:=rel.ivs lo hi hm;have:=rel.size;omega) rel.keys
    (fun id b' h=>Blk.fits_keep (rel.fits h) (fun _ _=>rfl) (rel.scopd h) (fun hnil _=>hother _ (hne id b' h hnil))) (fun id b' h=>rel.scopd h) rel.inj (fun id b' h hnil=>by rw[hfrm.2.2.2];exact rel.low id b' h hnil) (fun _ _ _=>rfl) rel.prot
  ·show(Instr.storeAt t (.pointer (some ⟨b,off,none⟩)) (x.den ρ)).run P w'=_
   generalize x.den ρ=xv at hcell' ⊢
   simp at hst
   simp[Instr.storeAt,Instr.sureAddr,storeVar,ht.sizeOf,hcell',hnl,hst]
 ·exact h.elim
end
end Go.Sx

/- The executor is sound, third part: the other operations. -/
namespace Go.Sx
open Go

theorem foldl_over(new:List Value):∀(k off:Nat) (cs:Array Value),off+k+new.length≤cs.size→
  ((new.zipIdx k).foldl (fun cs (c,j)=>cs.setIfInBounds (off+j) c) cs).toList=cs.toList.take (off+k)++new++cs.toList.drop (off+k+new.length):=by
 induction new with
 |nil=>intro k off cs _;simp
 |cons x r ih=>
  intro k off cs h
  simp only[List.length_cons]at h
  rw[List.zipIdx_cons,List.foldl_cons,ih (k+1) off _ (by simp;omega)]
  have h2:=list_seg_step cs.toList (off+k) x r (by simp;omega)
  simp only[Array.toList_setIfInBounds,List.length_cons]at h2 ⊢
  rw[show off+(k+1)=off+k+1 by omega]
  exact h2

theorem fill_cons{place:Nat→Option (Nat×Nat)}{cells:Array Value}{i off size:Nat}{v:Value}{rest:List (Nat×Value)}{new:List Value}(hp:place i=some (off,size))
  (hv:v.cells=new.toArray) (hl:new.length=size) (hfit:off+new.length≤cells.size):
  Instr.fill place cells ((i,v)::rest)=Instr.fill place (cells.toList.take off++new++cells.toList.drop (off+new.length)).toArray rest:=by
 have h:=foldl_over new 0 off cells (by omega)
 have e:(v.cells.zipIdx.foldl (fun cs (x:Value×Nat)=>cs.setIfInBounds (off+x.2) x.1) cells)=(cells.toList.take off++new++cells.toList.drop (off+new.length)).toArray:=by
  rw[hv,←Array.foldl_toList]
  apply Array.ext'
  simpa using h
 conv=>lhs;unfold Instr.fill
 simp only[hp,hv,List.size_toArray,hl]
 rw[if_neg (by simp;omega)]
 rw[hv]at e
 rw[←hl,←e]

section
variable{P:Program}{τ:Tab}{B n nx:Nat}{l:Env}{H:Hp}{iv:Iv}{w w':World}{ρ:Nat→Val}{a:Act}

theorem partsK_spec(sat:Sat n l H nx iv B w ρ a w'){place:Nat→(Nat→Nat→Prop)→Prop}{placeF:Nat→Option (Nat×Nat)}
  (hp:∀i k,place i k→∃off size,k off size∧placeF i=some (off,size)):∀{parts:List (Nat×Operand)} {cs:List At} {k:List At→Prop},
  partsK l place parts cs k→(∀c∈cs,At.sc nx c)→∃cs',k cs'∧(∀c∈cs',At.sc nx c)∧cs'.length=cs.length∧
   Instr.fill placeF (cs.map (At.den ρ)).toArray (parts.map fun p=>(p.1,a.eval p.2))=some (cs'.map (At.den ρ)).toArray
 |[],cs,k,h,hs=>⟨cs,h,hs,rfl,by simp[Instr.fill]⟩
 |(i,x)::r,cs,k,h,hs=>by
  unfold partsK at h
  obtain⟨off,size,h1,hpl⟩:=hp i _ h
  obtain⟨v,h2,hv,hvs⟩:=wEv_spec sat h1
  obtain⟨new,h3,hcells,hsc⟩:=cellsK_spec h2
  split at h3
  ·rename_i hlen
   have hlen:=beq_t hlen
   obtain⟨h4,hfit⟩:=spliceK_spec h3
   obtain⟨cs',h5,h6,h7,h8⟩:=partsK_spec sat hp h4 (by
    intro c hc
    simp only[List.mem_append]at hc
    rcases hc with(hc|hc)|hc
    ·exact hs c (List.mem_of_mem_take hc)
    ·exact hsc nx hvs c hc
    ·exact hs c (List.mem_of_mem_drop hc))
   refine⟨cs',h5,h6,by rw[h7];simp;omega,?_⟩
   have hc:=hcells ρ
   rw[List.map_cons,fill_cons (new:=new.map (At.den ρ)) hpl (by show(a.eval x).cells=_;rw[hv];exact hc) (by simpa using hlen) (by simpa using hfit),←h8]
   simp[List.map_drop,List.map_take]
  ·exact h3.elim

theorem fieldOff_spec(hτ:TabOK P τ){fs:List (Nat×Nat)}{f:Nat}{k:Nat→Nat→Bool→Prop}(h:fieldOff τ fs f k):
  ∃off ft fi,k off fi.size fi.agg∧fs[f]? =some (off,ft)∧TOK P ft fi∧fi.size≠0:=by
 unfold fieldOff at h
 split at h
 ·rename_i off ft hf
  rw[nthF_spec]at hf
  split at h
  ·rename_i sz ag by_ ze tag ik e al fs' hti
   split at h
   ·exact h.elim
   ·rename_i hsz
    exact⟨off,ft,_,h,hf,hτ ft _ hti,fun e=>by simp at e;subst e;simp at hsz⟩
  ·exact h.elim
 ·exact h.elim

theorem fields_get{t:Nat}{i:TI}(h:TOK P t i)(h5:i.tag=5){f off ft:Nat}(hf:i.fields[f]? =some (off,ft)):
  ∃fs fd,P.underlying t=some (.struct fs)∧fs[f]? =some fd∧fd.offset=off∧fd.type=ft:=by
 obtain⟨fs,h1,h2,_⟩:=h.i5 h5
 rw[←h2]at hf
 simp only[List.getElem?_map,Option.map_eq_some_iff]at hf
 obtain⟨fd,hfd,he⟩:=hf
 injection he with e1 e2
 exact⟨fs,fd,h1,by simpa using hfd,e1,e2⟩

theorem run_fieldAt{t:Nat}{i:TI}(h:TOK P t i)(h5:i.tag=5){f off ft:Nat}{fi:TI}(hf:i.fields[f]? =some (off,ft))(hfi:TOK P ft fi)(hsz:fi.size≠0)(ad:Addr)(w:World):
  (Instr.fieldAt t (.pointer (some ad)) f).run P w= .ok (.pointer (some (ad.add off))) w:=by
 obtain⟨fs,fd,h1,h2,rfl,rfl⟩:=fields_get h h5 hf
 simp[Instr.fieldAt,run_underlying h1,h2,Instr.sureAddr,fieldPlace,hfi.sizeOf,hsz]

theorem ptrAddK_spec{x:SV}{m:Nat}{K:SV→Prop}(h:ptrAddK x m K)(hx:x.sc nx):∃r ad,K r∧r.sc nx∧x.den ρ= .pointer (some ad)∧r.den ρ= .pointer (some (ad.add m)):=by
 unfold ptrAddK at h
 split at h
 ·rename_i id off
  exact⟨_,⟨(ρ id).g,off,none⟩,h,hx,rfl,by simp[SV.den,At.den,addr_add]⟩
 ·rename_i ad
  exact⟨_,ad,h,trivial,rfl,rfl⟩
 ·exact h.elim

theorem vecK_spec(rel:Rel H nx iv B w ρ w'){id m:Nat}{K:Prop}(h:vecK H id m K):K∧((ρ id).nil=true→m=0):=by
 unfold vecK at h
 split at h
 ·rename_i t sz cs hH
  split at h
  ·exact h.elim
  ·rename_i k
   refine⟨h.2,fun hn=>?_⟩
   have h1:=h.1
   rcases rel.vec id t (k+1) cs hH with⟨_,rfl⟩|⟨h2,_⟩
   ·have h4:m*(k+1)=0:=by simpa using h1.symm
    rcases Nat.mul_eq_zero.1 h4 with h5|h5
    ·exact h5
    ·omega
   ·rw[hn]at h2;cases h2
 ·exact h.elim

theorem lenK_spec(hτ:TabOK P τ){t ty:Nat}{x:SV}{K:Int→Prop}(h:lenK τ H t x K)(rel:Rel H nx iv B w ρ w'):
  ∃r,K r∧∀w',(Builtin.len_ #[t] ty #[x.den ρ]).run P w'= .ok (.int .i64 r) w':=by
 unfold lenK at h
 split at h
 ·exact h.elim
 rename_i sz ag by_ ze tag ik e al fs hti
 have ht:=hτ t _ hti
 split at h
 ·rename_i htag
  have hu:=ht.i4 (beq_t htag)
  split at h
  ·exact⟨_,h,fun w'=>by simp[Builtin.len_,run_underlying hu,SV.den,At.den,goInt]⟩
  ·exact⟨_,h,fun w'=>by simp[Builtin.len_,run_underlying hu,SV.den,At.den,goInt]⟩
  ·rename_i id m
   have h1:=vecK_spec rel h
   refine⟨_,h1.1,fun w'=>?_⟩
   cases hn:(ρ id).nil
   ·simp[Builtin.len_,run_underlying hu,SV.den,At.den,goInt,hn]
   ·have:=h1.2 hn
    subst this
    simp[Builtin.len_,run_underlying hu,SV.den,At.den,goInt,hn]
  ·exact h.elim
 ·split at h
  ·rename_i htag
   have hu:=ht.i3 (beq_t htag)
   split at h
   ·exact⟨_,h,fun w'=>by simp[Builtin.len_,run_underlying hu,SV.den,At.den,goInt]⟩
   ·exact h.elim
  ·split at h
   ·rename_i htag
    have hu:=ht.i6 (beq_t htag)
    exact⟨_,h,fun w'=>by simp[Builtin.len_,run_underlying hu,goInt]⟩
   ·exact h.elim

theorem indexK_spec(hτ:TabOK P τ){t:Nat}{x i:SV}{K:SV→Prop}(h:indexK τ H t x i K)(hx:x.sc nx)(rel:Rel H nx iv B w ρ w'):
  ∃r,K r∧r.sc nx∧∀w',(Instr.indexAt t (x.den ρ) (i.den ρ)).run P w'= .ok (r.den ρ) w':=by
 unfold indexK at h
 split at h
 ·rename_i kd i
  split at h
  ·rename_i sz ag by_ ze tag ik e al fs hti
   have ht:=hτ t _ hti
   split at h
   ·rename_i sz' ag' by' ze' tag' ik' e' al' fs' hte
    have hte:=hτ e _ hte
    split at h
    ·rename_i htag
     have hu:=ht.i4 (beq_t htag)
     simp only at hu
     split at h
     ·rename_i id off m c
      obtain⟨hb,h⟩:=h
      exact⟨_,h,hx,fun w'=>by simp[Instr.indexAt,run_underlying hu,asIntOf,SV.den,At.den,hb,hte.sizeOf,addr_add]⟩
     ·rename_i id m
      obtain⟨⟨hb,h1⟩,h2⟩:=vecK_spec rel h
      refine⟨_,h1,hx,fun w'=>?_⟩
      cases hn:(ρ id).nil
      ·simp[Instr.indexAt,run_underlying hu,asIntOf,SV.den,At.den,hb,hte.sizeOf,addr_add,hn]
      ·have:=h2 hn
       omega
     ·rename_i a0 m c
      obtain⟨ad,rfl,hb,h⟩:=h
      exact⟨_,h,trivial,fun w'=>by simp[Instr.indexAt,run_underlying hu,asIntOf,SV.den,At.den,hb,hte.sizeOf]⟩
     ·exact h.elim
    ·split at h
     ·rename_i htag
      have hu:=ht.i6 (beq_t htag)
      simp only at hu
      obtain⟨hb,h⟩:=h
      obtain⟨r,ad,h1,h2,h3,h4⟩:=ptrAddK_spec (ρ:=ρ) h hx
      refine⟨r,h1,h2,fun w'=>?_⟩
      rw[h3,h4]
      simp[Instr.indexAt,run_underlying hu,asIntOf,SV.den,At.den,Instr.sureAddr,hb,hte.sizeOf]
     ·exact h.elim
   ·exact h.elim
  ·exact h.elim
 ·exact h.elim

theorem loK_spec(sat:Sat n l H nx iv B w ρ a w'){x:Option Operand}{d:Int}{K:Int→Prop}(h:loK l x d K):∃i,K i∧((x=none∧i=d)∨∃o k,x=some o∧a.eval o= .int k i):=by
 unfold loK at h
 split at h
 ·exact⟨d,h,.inl ⟨rfl,rfl⟩⟩
 ·obtain⟨v,h1,h2,h3⟩:=wEv_spec sat h
  clear h3
  split at h1
  ·rename_i k i
   exact⟨i,h1,.inr ⟨_,k,rfl,h2⟩⟩
  ·exact h1.elim

theorem run_bounds{len cap:Nat}{lo hi:Option Operand}{i j:Int}(hlo:(lo=none∧i=0)∨∃o k,lo=some o∧a.eval o= .int k i)(hhi:(hi=none∧j=len)∨∃o k,hi=some o∧a.eval o= .int k j)
  (h0:0≤i) (h1:i≤j) (h2:j≤cap):(Instr.sliceBounds true len cap (lo.map a.eval) (hi.map a.eval) none).run P w'= .ok (i.toNat,j.toNat,cap) w':=by
 rcases hlo with⟨rfl,rfl⟩|⟨o,k,rfl,ho⟩<;>rcases hhi with⟨rfl,rfl⟩|⟨o',k',rfl,ho'⟩
 ·simp[Instr.sliceBounds]
 ·have h1':0≤j:=by omega
  simp[Instr.sliceBounds,Instr.sliceBound,ho',asIntOf,h1',h2]
 ·have:i≤(len:Int):=h1
  simp[Instr.sliceBounds,Instr.sliceBound,ho,asIntOf,h0,this]
 ·have h1':0≤j:=by omega
  have h3:i≤((j.toNat:Nat):Int):=by omega
  have h3':i≤max j 0:=by omega
  simp[Instr.sliceBounds,Instr.sliceBound,ho,ho',asIntOf,h1',h2,h0,h3']

theorem run_boundsS{len cap:Nat}{lo hi:Option Operand}{i j:Int}(hlo:(lo=none∧i=0)∨∃o k,lo=some o∧a.eval o= .int k i)(hhi:(hi=none∧j=len)∨∃o k,hi=some o∧a.eval o= .int k j)
  (h0:0≤i) (h1:i≤j) (h2:j≤cap):(Instr.sliceBounds false len cap (lo.map a.eval) (hi.map a.eval) none).run P w'= .ok (i.toNat,j.toNat,cap) w':=by
 rcases hlo with⟨rfl,rfl⟩|⟨o,k,rfl,ho⟩<;>rcases hhi with⟨rfl,rfl⟩|⟨o',k',rfl,ho'⟩
 ·simp[Instr.sliceBounds]
 ·have h1':0≤j:=by omega
  simp[Instr.sliceBounds,Instr.sliceBound,ho',asIntOf,h1',h2]
 ·have:i≤(len:Int):=h1
  simp[Instr.sliceBounds,Instr.sliceBound,ho,asIntOf,h0,this]
 ·have h1':0≤j:=by omega
  have h3:i≤((j.toNat:Nat):Int):=by omega
  have h3':i≤max j 0:=by omega
  simp[Instr.sliceBounds,Instr.sliceBound,ho,ho',asIntOf,h1',h2,h0,h3']

theorem sliceK_spec(hτ:TabOK P τ)(sat:Sat n l H nx iv B w ρ a w'){t:Nat}{x:SV}{lo hi:Option Operand}{K:SV→Prop}(h:sliceK τ H t x l lo hi K)(hx:x.sc nx):
  ∃r,K r∧r.sc nx∧∀w',(Instr.sliceAt t (x.den ρ) (lo.map a.eval) (hi.map a.eval) none).run P w'= .ok (r.den ρ) w':=by
 unfold sliceK at h
 split at h
 ·rename_i sz ag by_ ze tag ik e al fs hti
  have ht:=hτ t _ hti
  split at h
  ·rename_i htag
   have hu:=ht.i4 (beq_t htag)
   simp only at hu
   split at h
   ·rename_i sz' ag' by' ze' tag' ik' e' al' fs' hte
    have hte:=hτ e _ hte
    split at h
    ·rename_i id off m c
     obtain⟨i,h1,hlo⟩:=loK_spec sat h
     obtain⟨j,h2,hhi⟩:=loK_spec sat h1
     obtain⟨⟨b0,b1,b2⟩,off',n',c',e1,rfl,rfl,h3⟩:=h2
     refine⟨_,h3,hx,fun w'=>?_⟩
     have hb:=run_bounds (P:=P) (w':=w') hlo hhi b0 b1 b2
     subst e1
     simp[Instr.sliceAt,Instr.slice,run_underlying hu,SV.den,At.den,hb,hte.sizeOf]
     by_cases hc:c=i.toNat
     ·rw[if_pos hc,if_pos (by omega)]
     ·rw[if_neg hc,if_neg (by omega)]
      simp[addr_add]
    ·rename_i ad m c
     obtain⟨i,h1,hlo⟩:=loK_spec sat h
     obtain⟨j,h2,hhi⟩:=loK_spec sat h1
     obtain⟨⟨b0,b1,b2⟩,off',n',c',e1,rfl,rfl,h3⟩:=h2
     refine⟨_,h3,trivial,fun w'=>?_⟩
     have hb:=run_bounds (P:=P) (w':=w') hlo hhi b0 b1 b2
     subst e1
     simp[Instr.sliceAt,Instr.slice,run_underlying hu,SV.den,At.den,hb,hte.sizeOf]
     by_cases hc:c=i.toNat
     ·rw[if_pos hc,if_pos (by omega)]
     ·rw[if_neg hc,if_neg (by omega)]
    ·rename_i id m
     split at h
     ·obtain⟨h1,hnil⟩:=vecK_spec sat.rel h
      obtain⟨j,h2,hhi⟩:=loK_spec sat h1
      obtain⟨⟨b0,b1⟩,m',rfl,h3⟩:=h2
      refine⟨_,h3,hx,fun w'=>?_⟩
      have hcap:(ρ id).nil=false→m≤(ρ id).cap:=fun hn=>by
       unfold vecK at h
       split at h
       ·rename_i t' sz' cs' hH
        split at h
        ·exact h.elim
        ·rename_i k
         rcases sat.rel.vec id t' (k+1) cs' hH with⟨h5,_⟩|⟨_,spare,_,h6,_⟩
         ·rw[hn]at h5;cases h5
         ·have h7:=h.1
          have h8:(cs'++spare).length=cs'.length+spare.length:=List.length_append
          have h9:m*(k+1)≤(ρ id).cap*(k+1):=by omega
          exact Nat.le_of_mul_le_mul_right h9 (Nat.succ_pos k)
       ·exact h.elim
      cases hn:(ρ id).nil with
      |true=>
       have hm:=hnil hn
       subst hm
       have hb:=run_bounds (P:=P) (w':=w') (len:=0) (cap:=0) (lo:=none) (i:=0) (.inl ⟨rfl,rfl⟩) hhi (Int.le_refl 0) b0 b1
       have hj:j.toNat=0:=by omega
       rw[hj]at hb ⊢
       simp only[Option.map_none]at hb
       simp[Instr.sliceAt,Instr.slice,run_underlying hu,SV.den,At.den,hn,hb,hte.sizeOf]
      |false=>
       have hc:=hcap hn
       have hb:=run_bounds (P:=P) (w':=w') (len:=m) (cap:=(ρ id).cap) (lo:=none) (i:=0) (.inl ⟨rfl,rfl⟩) hhi (Int.le_refl 0) b0 (by omega)
       simp only[Option.map_none]at hb
       simp[Instr.sliceAt,Instr.slice,run_underlying hu,SV.den,At.den,hn,hb,hte.sizeOf,addr_add]
     ·exact h.elim
    ·exact h.elim
   ·exact h.elim
  ·split at h
   ·rename_i htag
    have hu:=ht.i6 (beq_t htag)
    simp only at hu
    split at h
    ·rename_i sz' ag' by' ze' tag' ik' e' al' fs' hte
     have hte:=hτ e _ hte
     split at h
     ·rename_i id off
      split at h
      ·split at h
       ·rename_i h0
        refine⟨_,h,hx,fun w'=>?_⟩
        have h0:al≠0:=fun e=>by subst e;cases h0
        simp[Instr.sliceAt,Instr.sliceBounds,run_underlying hu,SV.den,At.den,hte.sizeOf,Instr.sureAddr,addr_add]
       ·exact h.elim
      ·exact h.elim
     ·exact h.elim
    ·exact h.elim
   ·split at h
    ·rename_i htag
     have hu:=ht.i3 (beq_t htag)
     split at h
     ·rename_i s
      obtain⟨i,h1,hlo⟩:=loK_spec sat h
      obtain⟨j,h2,hhi⟩:=loK_spec sat h1
      obtain⟨⟨b0,b1,b2⟩,h3⟩:=h2
      refine⟨_,h3,trivial,fun w'=>?_⟩
      have hb:=run_boundsS (P:=P) (w':=w') hlo hhi b0 b1 b2
      simp[Instr.sliceAt,Instr.slice,run_underlying hu,SV.den,At.den,hb]
     ·exact h.elim
    ·exact h.elim
 ·exact h.elim
end
end Go.Sx
