/- Texts Sx1 to Sx6: lemmas, each with its conditions. -/
import Derived.WalkKit
import Derived.Maps.AppendAt
import Derived.Laws.IdiomCopy
import Derived.Great.BuildSlice
namespace Go
theorem be{p:Prop}(h:p:=by omega):p:=h
theorem bv{p:Prop}(h:p:=by decide):p:=h
theorem ce{p:Prop}(h:p:=by simp):p:=h
theorem d5{p:Prop}(h:p:=by rfl):p:=h
theorem d6{p:Prop}(h:p:=by kernel_rfl):p:=h
end Go
namespace Go
variable{i m n:Nat}{c:Prop}
theorem aD.{u_1}{α:Type u_1}(y:α){a:α}{l:List α}:a∈l->a∈y::l:=List.mem_cons_of_mem y
theorem aE.{u_1}{α:Type u_1}{l:List α}(h:i<l.length):l[i]? =some l[i]:=List.getElem?_eq_getElem h
theorem aF.{u_1}{α:Type u_1}{a:α}{l:List α}:a∈a::l:=List.mem_cons_self
theorem aG.{u_1}{α:Type u_1}{l:List α}{a:α}(e:l[i]? =some a):a∈l:=List.mem_of_getElem? e
theorem aH.{u_1}{α:Type u_1}{a:α}{l:List α}:l[i]? =some a↔∃h:i<l.length,l[i]=a:=List.getElem?_eq_some_iff
theorem aI{p:Prop} [inst:Decidable p]:decide p=true->p:=of_decide_eq_true
theorem aJ.{u_1,u_2}{α:Type u_1}{β:Type u_2}{as:List α}(f:α->β):(List.map f as).length=as.length:=List.length_map f
theorem aK.{u}{h:Decidable c}(hnc:¬c){α:Sort u}{t e:α}:(if c then t else e)=e:=if_neg hnc
theorem aL{p:Prop} [inst:Decidable p]:decide p=false->¬p:=of_decide_eq_false
theorem aM.{u}{h:Decidable c}(hc:c){α:Sort u}{t e:α}:(if c then t else e)=t:=if_pos hc
theorem aN(n:Nat):((n:Int)).toNat=n:=Int.toNat_natCast n
theorem aO.{u_1}{α:Type u_1}{l:List α}{a:α}(h:i<l.length):(l.set i a)[i]? =some a:=List.getElem?_set_self h
theorem aP{k:Nat}:n<=m->m<=k->n<=k:=Nat.le_trans
theorem aQ.{u_1}{α:Type u_1}{l₁ l₂:List α}(U:i<l₁.length):(l₁++l₂)[i]? =l₁[i]? :=List.getElem?_append_left U
theorem aR(n:Nat):0+n=n:=Nat.zero_add n
theorem aS.{u_1,u_2}{α:Type u_1}{β:Type u_2}{f:α->β}{l:List α}:(List.map f l)[i]? =Option.map f l[i]? :=List.getElem?_map
theorem aU.{u}{α:Type u}{as bs:List α}:(as++bs).length=as.length+bs.length:=List.length_append
theorem aV.{u_1}{α:Type u_1}{l:List α}{j:Nat}(h:i≠j){a:α}:(l.set i a)[j]? =l[j]? :=List.getElem?_set_ne h
theorem aW.{u_1}{α:Type u_1}{l₁ l₂:List α}:l₁.length<=i->(l₁++l₂)[i]? =l₂[i-l₁.length]? :=List.getElem?_append_right
theorem aX.{u}{α:Type u}{xs:Array α}:xs.toList[i]? =xs[i]? :=Array.getElem?_toList
theorem aY.{u_1}{α:Type u_1}{a:α}{l:List α}(h:a∈l):∃i:Nat,l[i]? =some a:=List.getElem?_of_mem h
theorem aZ.{u_1}{α:Type u_1}{b:α}{xs:Array α}:xs[i]? =some b↔∃h:i<xs.size,xs[i]=b:=Array.getElem?_eq_some_iff
theorem ae(n:Nat):n<=n:=Nat.le_refl n
theorem ah.{u_1}{α:Type u_1}{xs:Array α}{d:α}:xs.getD i d=xs[i]?.getD d:=Array.getD_eq_getD_getElem?
theorem aj.{u_1}{α:Type u_1}{l₁ l₂:List α}(h:∀(i:Nat),l₁[i]? =l₂[i]?):l₁=l₂:=List.ext_getElem? h
theorem aq(a b:Bool):((a&&b)=true)=(a=true/\b=true):=Bool.and_eq_true a b
theorem av{p:Prop} [Decidable p]:¬p->decide p=false:=decide_eq_false
theorem az(n m:Nat):n<m\/n≥m:=Nat.lt_or_ge n m
theorem bA(n:Nat):0<=n:=Nat.zero_le n
theorem bB(n:Nat):n=0\/n>0:=Nat.eq_zero_or_pos n
theorem bC(n:Nat):n*1=n:=Nat.mul_one n
theorem bD.{u_1,u_2}{α:Type u_1}{β:Type u_2}{b:β}{f:α->β}{l:List α}:b∈List.map f l↔∃a,a∈l/\f a=b:=List.mem_map
theorem bE.{u_1}{α:Type u_1}{l:List α}:List.take (i+1) l=List.take i l++l[i]?.toList:=List.take_add_one
theorem bF.{u_1}{α:Type u_1}{l:List α}:List.take l.length l=l:=List.take_length
theorem bG.{u_1}{α:Type u_1}{xs:Array α}{a:α}:(xs.setIfInBounds i a).size=xs.size:=Array.size_setIfInBounds
theorem bH.{u_1}{α:Type u_1}{l:List α}{a b:α}:a∈l.set i b->a∈l\/a=b:=List.mem_or_eq_of_mem_set
theorem bI(a:Rat):a*0=0:=Rat.mul_zero a
theorem bJ:n.beq m=true->n=m:=Nat.eq_of_beq_eq_true
theorem bK(a b:Rat):a / b=a*b⁻¹:=Rat.div_def a b
theorem bL.{u_1}{α:Type u_1}{l:List α}:(List.take i l).length=min i l.length:=List.length_take
theorem bM.{u}{α:Type u}{as:List α}{a:α}:(as.set i a).length=as.length:=List.length_set
theorem bN(n m k:Nat):n*(m+k)=n*m+n*k:=Nat.mul_add n m k
theorem bO.{u_1,u_2}{α:Type u_1}{β:Type u_2}(a:α)(f:α->β):Option.map f (some a)=some (f a):=Option.map_some a f
theorem bQ{p:Prop} [inst:Decidable p]:p->decide p=true:=decide_eq_true
theorem bT{a b:Nat}(h:a<b):a % b=a:=Nat.mod_eq_of_lt h
theorem bU.{u_1}{α:Type u_1}{l:List α}(h:l.length<=i):List.take i l=l:=List.take_of_length_le h
theorem bV(n m:Nat):n*m=m*n:=Nat.mul_comm n m
theorem bW.{u_1}{α:Type u_1}{a b:α}:a∈[b]↔a=b:=List.mem_singleton
theorem bX{a:Int}:a.sign=0↔a=0:=Int.sign_eq_zero_iff_zero
theorem bY.{u_1}{α:Type u_1}{a:α}{s t:List α}:a∈s++t↔a∈s\/a∈t:=List.mem_append
theorem bZ.{u}{α:Type u}{a:α}{as:List α}:(a::as).length=as.length+1:=List.length_cons
theorem bc(n m k:Nat):n*m*k=n*(m*k):=Nat.mul_assoc n m k
theorem bg.{u}{α:Type u}(as bs cs:List α):as++bs++cs=as++(bs++cs):=List.append_assoc as bs cs
theorem bh(k:Nat)(h:n<=m):k*n<=k*m:=Nat.mul_le_mul_left k h
theorem bj(n:Nat):n-n=0:=Nat.sub_self n
theorem bm{a:Int}(h:a<0):a.sign= -1:=Int.sign_eq_neg_one_of_neg h
theorem bo.{u_1}{α:Type u_1}{xs:List α}{j:Nat}:(List.drop i xs)[j]? =xs[i+j]? :=List.getElem?_drop
theorem bp.{u}{α:Type u}{a:α}:(List.replicate n a).length=n:=List.length_replicate
theorem bu(a:Rat):0*a=0:=Rat.zero_mul a
theorem bw:List.range n.succ=List.range n++[n]:=List.range_succ
theorem bz(w:Nat):0<2^w:=Nat.two_pow_pos w
theorem cD{a:Int}(h:0<a):a.sign=1:=Int.sign_eq_one_of_pos h
theorem cF(m:Nat)(npos:0<n):0<m.gcd n:=Nat.gcd_pos_of_pos_right m npos
theorem cG(x:Nat){y:Nat}(hy:0<y):x % y<y:=Nat.mod_lt x hy
theorem cH(n:Nat):n+0=n:=Nat.add_zero n
theorem cI(n:Nat):n<n.succ:=Nat.lt_succ_self n
theorem cJ(a:Int):(-a).natAbs=a.natAbs:=Int.natAbs_neg a
theorem cK(a:Rat):a+0=a:=Rat.add_zero a
end Go
namespace Go.Sx
open Go
variable{next:Act->World->Prop}{ad:Addr}{cells:Array Value}{b:Bool}{Q:Exit->Act->World->Prop}{Fn:Int->Prop}{fs:List (Nat×Nat)}{rest:List (Nat×Value)}{cs new old xs:List Value}{B id m n nx off size:Nat}{place:Nat->Option (Nat×Nat)}{R lo:Option Operand}{F':Prop}{J F:World}
inductive At where
 |v (x:Value)
 |p (id off:Nat)
 |s (id off len cap:Nat)
 |w (id len:Nat)
 |fn (f:Nat) (caps:List Nat)
inductive SV where
 |o (x:At)
 |a (cs:List At)
structure dc where
 g:Nat
 cap:Nat
 nil:Bool
def At.den(O:Nat->dc):At->Value
 | .v x=>x
 | .p id off=>.pointer (some ⟨(O id).g,off,none⟩)
 | .s id off len cap=>.slice (some ⟨(O id).g,off,none⟩) len cap
 | .w id len=>match(O id).nil with
  |true=>.slice none 0 0
  |false=>.slice (some ⟨(O id).g,0,none⟩) len (O id).cap
 | .fn f caps=>.func (.func f) #[] (caps.map fun id=>Value.pointer (some ⟨(O id).g,0,none⟩)).toArray
def SV.den(O:Nat->dc):SV->Value
 | .o x=>x.den O
 | .a cs=>.agg (cs.map (At.den O)).toArray
def At.sc(n:Nat):At->Prop
 | .v _=>True
 | .p id _=>id<n
 | .s id _ _ _=>id<n
 | .w id _=>id<n
 | .fn _ caps=>∀id∈caps,id<n
def SV.sc(n:Nat):SV->Prop
 | .o x=>x.sc n
 | .a cs=>∀x∈cs,At.sc n x
inductive jL where
 |box (t:Nat) (cs:List At)
 |arr (t:Nat) (cs:List Value)
 |vec (t:Nat) (size:Nat) (cs:List Value)
 |dead
abbrev Env:=List (Nat×SV)
abbrev Hp:=List (Nat×jL)
abbrev Iv:=List (Nat×Nat)
def fH:Env->Nat->Option SV
 |[],_=>none
 |(t,v)::r,u=>match Nat.beq t u with
  |true=>some v
  |false=>fH r u
def dF:Hp->Nat->Option jL
 |[],_=>none
 |(t,v)::r,u=>match Nat.beq t u with
  |true=>some v
  |false=>dF r u
def z6:Hp->Nat->(Hp->Prop)->Prop
 |[],_,_=>False
 |(t,v)::r,u,k=>match Nat.beq t u with
  |true=>k ((t,.dead)::r)
  |false=>z6 r u (fun r'=>k ((t,v)::r'))
def D6:Hp->Nat->jL->(Hp->Prop)->Prop
 |[],_,_,_=>False
 |(t,v)::r,u,b,k=>match Nat.beq t u with
  |true=>k ((t,b)::r)
  |false=>D6 r u b (fun r'=>k ((t,v)::r'))
structure TI where
 size:Nat
 agg:Bool
 bytes:Nat
 zero:List Value
 tag:Nat
 ik:IntKind:=.i64
 elem:Nat:=0
 zE:Nat:=0
 fields:List (Nat×Nat):=[]
def ev(l:Env):Operand->Option SV
 | .tmp t=>fH l t
 | .const v=>some (.o (.v v))
 | .global g=>some (.o (.v (.pointer (some ⟨g,0,none⟩))))
 | .func f=>some (.o (.v (.func (.func f) #[] #[])))
def pQ(l:Env)(x:Operand)(k:SV->Prop):Prop:=match ev l x with
 |some v=>k v
 |none=>False
def H6(l:Env):List Operand->(List SV->Prop)->Prop
 |[],k=>k []
 |x::r,k=>match ev l x with
  |some v=>H6 l r (fun vs=>k (v::vs))
  |none=>False
def sd:List At->Nat->(List At->Prop)->Prop
 |l,0,k=>k l
 |[],_+1,_=>False
 |_::t,n+1,k=>sd t n k
def se:List At->Nat->(List At->Prop)->Prop
 |_,0,k=>k []
 |[],_+1,_=>False
 |x::t,n+1,k=>se t n (fun r=>k (x::r))
def z7:List At->List At->(List At->Prop)->Prop
 |cs,[],k=>k cs
 |[],_::_,_=>False
 |_::t,x::r,k=>z7 t r (fun t'=>k (x::t'))
def rE:List At->Nat->List At->(List At->Prop)->Prop
 |cs,0,new,k=>z7 cs new k
 |[],_+1,_,_=>False
 |x::t,n+1,new,k=>rE t n new (fun t'=>k (x::t'))
def pS:List Value->(List At->Prop)->Prop
 |[],k=>k []
 |x::r,k=>pS r (fun r'=>k (.v x::r'))
def wz:SV->(List At->Prop)->Prop
 | .a cs,k=>k cs
 | .o (.v (.agg ⟨l⟩)),k=>pS l k
 | .o (.v (.tuple _)),_=>False
 | .o x,k=>k [x]
def At.one:At->Bool
 | .v (.agg _)=>false
 | .v (.tuple _)=>false
 |_=>true
def Eu:List At->Prop->Prop
 |[],k=>k
 |x::r,k=>match x.one with
  |true=>Eu r k
  |false=>False
def vg:List At->(List Value->Prop)->Prop
 |[],k=>k []
 | .v x::r,k=>match At.one (.v x)with
  |true=>vg r (fun r'=>k (x::r'))
  |false=>False
 |_::_,_=>False
def zF(b:Bool)(F' B:Prop):Prop:=match b with
 |true=>F'
 |false=>B
theorem zF.t{B:Prop}(h:zF b F' B)(e:b=true):F':=by subst e;exact h
theorem zF.f{B:Prop}(h:zF b F' B)(e:b=false):B:=by subst e;exact h
theorem zF.mk{B:Prop}(W:b=true->F')(I:b=false->B):zF b F' B:=by
 cases b
 .exact I rfl
 .exact W rfl
theorem bS{B:Prop}(W:b=true->F')(I:b=false->B):zF b F' B:=.mk W I
structure Rel(H:Hp)(nx:Nat)(iv:Iv)(B:Nat)(w:World)(O:Nat->dc)(J:World):Prop where
 os:J.os=w.os
 tape:J.tape=w.tape
 output:J.output=w.output
 size:w.heap.size<=J.heap.size
 base:B<=w.heap.size
 nG:∀lo R,(lo,R)∈iv->R<=w.heap.size
 keys:∀id b,dF H id=some b->id<nx
 box:∀id t cs,dF H id=some (.box t cs)->J.heap[(O id).g]? =some (.cells (cs.map (At.den O)).toArray t (0,0))
 arr:∀id t cs,dF H id=some (.arr t cs)->J.heap[(O id).g]? =some (.cells cs.toArray t (0,0))
 vec:∀id t size cs,dF H id=some (.vec t size cs)->((O id).nil=true/\cs=[])\/
  ((O id).nil=false/\∃spare:List Value,J.heap[(O id).g]? =some (.cells (cs++spare).toArray t (0,0))/\(cs++spare).length=(O id).cap*size/\(O id).cap<=maxLen)
 inj:∀id id' b b',dF H id=some b->dF H id'=some b'->b≠ .dead->b'≠ .dead->(O id).nil=false->(O id').nil=false->(O id).g=(O id').g->id=id'
 low:∀id b,dF H id=some b->(O id).nil=false->B<=(O id).g/\(O id).g<J.heap.size
 Ad:∀k,k<w.heap.size->(∀id b,dF H id=some b->(O id).nil=false->(O id).g≠k)->J.heap[k]? =w.heap[k]?
 ix:∀lo R,(lo,R)∈iv->∀id b,dF H id=some b->(O id).nil=false->¬(lo<=(O id).g/\(O id).g<R)
 JS:∀id t cs,dF H id=some (.box t cs)->∀x∈cs,At.sc nx x
 nn:∀id b,dF H id=some b->(∀t size cs,b≠ .vec t size cs)->b≠ .dead->(O id).nil=false
structure Hb(P:Program)(g:Nat):Prop where
 h:∀(args:Array Value) (w:World),(callFunc g args).run P w= .ok (.enter g args) w
structure eD(P:Program)(g:Nat)(args:Array Value)(w:World)(FS:Ending->World->Prop):Prop where
 e:Hb P g
 c:Calls P g args w FS
def Ai:List At->Nat->Option At
 |[],_=>none
 |x::_,0=>some x
 |_::t,n+1=>Ai t n
def GC:List Value->Nat->Option Value
 |[],_=>none
 |x::_,0=>some x
 |_::t,n+1=>GC t n
def GD:List (Nat×Nat)->Nat->Option (Nat×Nat)
 |[],_=>none
 |x::_,0=>some x
 |_::t,n+1=>GD t n
def pW:IntKind->IntKind->Bool
 | .i8,.i8=>true| .i16,.i16=>true| .i32,.i32=>true| .i64,.i64=>true
 | .u8,.u8=>true| .u16,.u16=>true| .u32,.u32=>true| .u64,.u64=>true
 |_,_=>false
abbrev lO:=Nat->Option TI
def GF(op:BinOp)(k:IntKind)(a b:Int)(Fn:Value->Prop):Prop:=
 match op with
 | .add=>∃r,k.wrap (a+b)=r/\Fn (.int k r)
 | .sub=>∃r,k.wrap (a-b)=r/\Fn (.int k r)
 | .mul=>∃r,k.wrap (a*b)=r/\Fn (.int k r)
 | .quo=>b≠0/\∃r,k.wrap (a.tdiv b)=r/\Fn (.int k r)
 | .rem=>b≠0/\∃r,a.tmod b=r/\Fn (.int k r)
 | .and=>∃r,k.wrap ((BitVec.ofInt k.bits a &&& BitVec.ofInt k.bits b).toNat:Int)=r/\Fn (.int k r)
 | .or=>∃r,k.wrap ((BitVec.ofInt k.bits a ||| BitVec.ofInt k.bits b).toNat:Int)=r/\Fn (.int k r)
 | .xor=>∃r,k.wrap ((BitVec.ofInt k.bits a ^^^ BitVec.ofInt k.bits b).toNat:Int)=r/\Fn (.int k r)
 | .shl=>0<=b/\∃r,k.wrap (a*2^(min b.toNat k.bits))=r/\Fn (.int k r)
 | .shr=>0<=b/\∃r,a.fdiv (2^(min b.toNat k.bits))=r/\Fn (.int k r)
 | .eql=>Fn (.bool (a==b))
 | .neq=>Fn (.bool (a != b))
 | .lss=>Fn (.bool (decide (a<b)))
 | .leq=>Fn (.bool (decide (a<=b)))
 | .gtr=>Fn (.bool (decide (a>b)))
 | .geq=>Fn (.bool (decide (a≥b)))
 | .andNot=>∃r,k.wrap ((BitVec.ofInt k.bits a &&& ~~~BitVec.ofInt k.bits b).toNat:Int)=r/\Fn (.int k r)
def Kq(P:Program)(τ:lO)(op:BinOp)(t:Nat)(x y:SV)(Fn:SV->Prop):Prop:=
 match x,y with
 | .o (.v (.int k a)),.o (.v (.int k' b))=>
  match op with
  | .shl=>GF op k a b (fun r=>Fn (.o (.v r)))
  | .shr=>GF op k a b (fun r=>Fn (.o (.v r)))
  |_=>match pW k k' with
   |true=>GF op k a b (fun r=>Fn (.o (.v r)))
   |false=>False
 | .o (.v (.bool a)),.o (.v (.bool b))=>
  match τ t with
  |some ti=>match Nat.beq ti.tag 2 with
   |true=>match op with
    | .eql=>Fn (.o (.v (.bool (a==b))))
    | .neq=>Fn (.o (.v (.bool (!(a==b)))))
    |_=>False
   |false=>False
  |none=>False
 | .o (.v (.string a)),.o (.v (.string b))=>
  match op with
  | .eql=>Fn (.o (.v (.bool (a.data.toList==b.data.toList))))
  | .neq=>Fn (.o (.v (.bool (!(a.data.toList==b.data.toList)))))
  | .add=>a.size+b.size<=maxLen/\Fn (.o (.v (.string (a++b))))
  |_=>False
 |_,_=>∃b:Bool,(∀(O:Nat->dc) (w:World) (o1 o2:Operand),(do eqGuard op t o1 o2 (x.den O) (y.den O);binOp op t (x.den O) (y.den O)).run P w= .ok (.bool b) w)/\Fn (.o (.v (.bool b)))
def xM(τ:lO)(B:Nat)(t:Nat)(addr:SV)(H:Hp)(nx:Nat)(iv:Iv)(w:World)(Fn:SV->Prop):Prop:=
 match τ t with
 |none=>False
 |some ⟨sz,ag,_,_,_,_,_,_,_⟩=>
  match addr with
  | .o (.p id off)=>
   match dF H id with
   |some (.box _ cs)=>
    match ag with
    |false=>match Ai cs off with
     |some x=>Fn (.o x)
     |none=>False
    |true=>sd cs off (fun r=>se r sz (fun l=>Fn (.a l)))
   |some (.arr _ cs)=>
    match ag with
    |false=>∃x,cs[off]? =some x/\Fn (.o (.v x))
    |true=>∃xs:List Value,(cs.drop off).take sz=xs/\xs.length=sz/\pS xs (fun l=>Fn (.a l))
   |some (.vec _ _ cs)=>
    match ag with
    |false=>∃x,cs[off]? =some x/\Fn (.o (.v x))
    |true=>∃xs:List Value,(cs.drop off).take sz=xs/\xs.length=sz/\pS xs (fun l=>Fn (.a l))
   |_=>False
  | .o (.v (.pointer (some ad)))=>
   match ag with
   |false=>∃x,(∀O J,Rel H nx iv B w O J->J.cell? ad=some x)/\Fn (.o (.v x))
   |true=>∃xs:List Value,xs.length=sz/\(∀O J,Rel H nx iv B w O J->∀j x,xs[j]? =some x->J.cell? (ad.add j)=some x)/\pS xs (fun l=>Fn (.a l))
  |_=>False
def setCells(w:World)(a:Addr):List Value->World
 |[]=>w
 |x::r=>setCells (w.setCell a x) (a.add 1) r
def De(τ:lO)(B:Nat)(t:Nat)(addr x:SV)(H:Hp)(nx:Nat)(iv:Iv)(w:World)(Fn:Hp->World->Prop):Prop:=
 match τ t with
 |none=>False
 |some ⟨sz,_,_,_,_,_,_,_,_⟩=>
  wz x (fun new=>Eu new (match Nat.beq new.length sz with
   |false=>False
   |true=>match addr with
    | .o (.p id off)=>
     match dF H id with
     |some (.box bt cs)=>rE cs off new (fun cs'=>D6 H id (.box bt cs') (fun H'=>Fn H' w))
     |some (.arr bt cs)=>vg new (fun nv=>off+sz<=cs.length/\∃cs',cs.take off++nv++cs.drop (off+sz)=cs'/\D6 H id (.arr bt cs') (fun H'=>Fn H' w))
     |some (.vec bt ez cs)=>vg new (fun nv=>off+sz<=cs.length/\∃cs',cs.take off++nv++cs.drop (off+sz)=cs'/\D6 H id (.vec bt ez cs') (fun H'=>Fn H' w))
     |_=>False
    | .o (.v (.pointer (some ad)))=>vg new (fun nv=>∀O J,Rel H nx iv B w O J->
      ad.spot=none/\(∀j,j<sz->(J.cell? (ad.add j)).isSome=true/\J.frozen? (ad.add j)=false)/\
      (∀id b,dF H id=some b->(O id).nil=false->(O id).g≠ad.block)/\
      ∀F,F=setCells J ad nv->Fn H F)
    |_=>False))
def zH(b:jL)(H:Hp)(nx:Nat)(Fn:Hp->Nat->Prop):Prop:=Fn ((nx,b)::H) (nx+1)
def pX(τ:lO)(fs:List (Nat×Nat))(f:Nat)(k:Nat->Nat->Bool->Prop):Prop:=
 match GD fs f with
 |some (off,ft)=>match τ ft with
  |some ⟨sz,ag,_,_,_,_,_,_,_⟩=>match Nat.beq sz 0 with
   |true=>False
   |false=>k off sz ag
  |none=>False
 |none=>False
def wQ(x:SV)(n:Nat)(Fn:SV->Prop):Prop:=
 match x with
 | .o (.p id off)=>Fn (.o (.p id (off+n)))
 | .o (.v (.pointer (some ad)))=>Fn (.o (.v (.pointer (some (ad.add n)))))
 |_=>False
def tx(l:Env)(place:Nat->(Nat->Nat->Prop)->Prop):List (Nat×Operand)->List At->(List At->Prop)->Prop
 |[],cs,k=>k cs
 |(i,x)::r,cs,k=>place i (fun off size=>pQ l x (fun v=>wz v (fun new=>match Nat.beq new.length size with
   |true=>rE cs off new (fun cs'=>tx l place r cs' k)
   |false=>False)))
def GG(H:Hp)(id m:Nat)(Fn:Prop):Prop:=
 match dF H id with
 |some (.vec _ sz cs)=>match sz with
  |0=>False
  |k+1=>cs.length=m*(k+1)/\Fn
 |_=>False
def Kr(τ:lO)(H:Hp)(t:Nat)(x:SV)(Fn:Int->Prop):Prop:=
 match τ t with
 |none=>False
 |some ⟨_,_,_,_,tag,_,_,zE,_⟩=>match Nat.beq tag 4 with
  |true=>match x with
   | .o (.v (.slice _ n _))=>Fn n
   | .o (.s _ _ n _)=>Fn n
   | .o (.w id n)=>GG H id n (Fn n)
   |_=>False
  |false=>match Nat.beq tag 3 with
   |true=>match x with
    | .o (.v (.string b))=>Fn b.size
    |_=>False
   |false=>match Nat.beq tag 6 with
    |true=>Fn zE
    |false=>False
def Df(τ:lO)(H:Hp)(t:Nat)(x i:SV)(Fn:SV->Prop):Prop:=
 match i with
 | .o (.v (.int _ i))=>match τ t with
  |some ⟨_,_,_,_,tag,_,e,zE,_⟩=>match τ e with
   |some ⟨sz,_,_,_,_,_,_,_,_⟩=>match Nat.beq tag 4 with
    |true=>match x with
     | .o (.s id off n _)=>(0<=i/\i<n)/\Fn (.o (.p id (off+i.toNat*sz)))
     | .o (.w id n)=>GG H id n ((0<=i/\i<n)/\Fn (.o (.p id (i.toNat*sz))))
     | .o (.v (.slice a n _))=>∃ad,a=some ad/\(0<=i/\i<n)/\Fn (.o (.v (.pointer (some (ad.add (i.toNat*sz))))))
     |_=>False
    |false=>match Nat.beq tag 6 with
     |true=>(0<=i/\i<zE)/\wQ x (i.toNat*sz) Fn
     |false=>False
   |none=>False
  |none=>False
 |_=>False
def H3(l:Env)(x:Option Operand)(dflt:Int)(Fn:Int->Prop):Prop:=
 match x with
 |none=>Fn dflt
 |some o=>pQ l o (fun v=>match v with
  | .o (.v (.int _ n))=>Fn n
  |_=>False)
def Dh(τ:lO)(H:Hp)(t:Nat)(x:SV)(l:Env)(lo R:Option Operand)(Fn:SV->Prop):Prop:=
 match τ t with
 |some ⟨_,_,_,_,tag,_,e,al,_⟩=>match Nat.beq tag 4 with
  |true=>match τ e with
   |some ⟨sz,_,_,_,_,_,_,_,_⟩=>match x with
    | .o (.s id off n c)=>H3 l lo 0 (fun a=>H3 l R n (fun b=>(0<=a/\a<=b/\b<=c)/\∃off' n' c':Nat,(if (c:Int)=a then off else off+a.toNat*sz)=off'/\b.toNat-a.toNat=n'/\c-a.toNat=c'/\Fn (.o (.s id off' n' c'))))
    | .o (.v (.slice ad n c))=>H3 l lo 0 (fun a=>H3 l R n (fun b=>(0<=a/\a<=b/\b<=c)/\∃ad' n' c',(if (c:Int)=a then ad else ad.map (·.add (a.toNat*sz)))=ad'/\b.toNat-a.toNat=n'/\c-a.toNat=c'/\Fn (.o (.v (.slice ad' n' c')))))
    | .o (.w id n)=>match lo with
     |none=>GG H id n (H3 l R n (fun b=>(0<=b/\b<=n)/\∃m:Nat,b.toNat=m/\Fn (.o (.w id m))))
     |some _=>False
    |_=>False
   |none=>False
  |false=>match Nat.beq tag 6 with
   |true=>match τ e with
    |some ⟨_,_,_,_,_,_,_,_,_⟩=>match x with
     | .o (.p id off)=>match lo,R with
      |none,none=>match Nat.beq al 0 with
       |false=>Fn (.o (.s id off al al))
       |true=>False
      |_,_=>False
     |_=>False
    |none=>False
   |false=>match Nat.beq tag 3 with
    |true=>match x with
     | .o (.v (.string s))=>H3 l lo 0 (fun a=>H3 l R s.size (fun b=>(0<=a/\a<=b/\b<=s.size)/\Fn (.o (.v (.string (s.extract a.toNat b.toNat))))))
     |_=>False
    |false=>False
 |none=>False
def Aj(τ:lO)(t:Nat)(x:SV)(l:Env)(lo R mx:Operand)(Fn:SV->Prop):Prop:=
 match τ t with
 |some ⟨_,_,_,_,tag,_,e,_,_⟩=>match Nat.beq tag 4 with
  |true=>match τ e with
   |some ⟨sz,_,_,_,_,_,_,_,_⟩=>match x with
    | .o (.v (.slice ad n c))=>H3 l (some lo) 0 (fun a=>H3 l (some R) n (fun b=>H3 l (some mx) c (fun m=>(0<=a/\a<=b/\b<=m/\m<=c)/\∃ad' n' c',(if m=a then ad else ad.map (·.add (a.toNat*sz)))=ad'/\b.toNat-a.toNat=n'/\m.toNat-a.toNat=c'/\Fn (.o (.v (.slice ad' n' c'))))))
    |_=>False
   |none=>False
  |false=>False
 |none=>False
def FB(τ:lO)(t:Nat)(x y:SV)(H:Hp)(nx:Nat)(Fn:SV->Hp->Nat->Prop):Prop:=
 match x,y with
 | .o (.v (.int _ a)),.o (.v (.int _ b))=>match τ t with
  |some ⟨_,_,_,_,tag,_,e,_,_⟩=>match Nat.beq tag 4 with
   |true=>match τ e with
    |some ⟨_,_,by_,ze,_,_,_,_,_⟩=>∃n c:Nat,a=n/\b=c/\n<=c/\by_*c<=281474976710656/\c<=9223372036854775807/\
      match ze with
      |[z]=>zH (.arr e (List.replicate c z)) H nx (fun H' OO=>Fn (.o (.s nx 0 n c)) H' OO)
      |zs=>zH (.arr e (List.replicate c zs).flatten) H nx (fun H' OO=>Fn (.o (.s nx 0 n c)) H' OO)
    |none=>False
   |false=>False
  |none=>False
 |_,_=>False
def He(B:Nat)(H:Hp)(nx:Nat)(iv:Iv)(w:World)(size:Nat)(x:SV)(Fn:Nat->List Value->Prop):Prop:=
 match x with
 | .o (.s id off n _)=>match dF H id with
  |some (.box _ cs)=>sd cs off (fun r=>se r (n*size) (fun l=>vg l (fun vs=>Fn n vs)))
  |some (.arr _ cs)=>∃vs:List Value,(cs.drop off).take (n*size)=vs/\vs.length=n*size/\(∀x∈vs,x.oneCell'=true)/\Fn n vs
  |_=>False
 | .o (.v (.slice a n _))=>∃vs:List Value,vs.length=n*size/\(∀x∈vs,x.oneCell'=true)/\
   (∀O J,Rel H nx iv B w O J->0<n->∃ad,a=some ad/\∀j u,vs[j]? =some u->J.cell? (ad.add j)=some u)/\Fn n vs
 | .o (.w id n)=>match dF H id with
  |some (.vec _ _ cs)=>cs.length=n*size/\(∀x∈cs,x.oneCell'=true)/\Fn n cs
  |_=>False
 |_=>False
def Ak(τ:lO)(B:Nat)(t:Nat)(x y:SV)(H:Hp)(nx:Nat)(iv:Iv)(w:World)(Fn:SV->Hp->Nat->Prop):Prop:=
 match τ t with
 |none=>False
 |some ⟨_,_,_,_,tag,_,e,_,_⟩=>match Nat.beq tag 4 with
  |true=>match τ e with
   |some ⟨sz,_,by_,ze,_,_,_,_,_⟩=>match ze with
    |[]=>False
    |_::_=>He B H nx iv w sz y (fun m news=>
     match x with
     | .o (.v (.slice none 0 0))=>m*by_<=140737488355328/\m<=maxLen/\zH (.vec e sz news) H nx (fun H' OO=>Fn (.o (.w nx m)) H' OO)
     | .o (.w id n)=>match dF H id with
      |some (.vec e' sz' cs)=>match Nat.beq e' e with
       |true=>match Nat.beq sz' sz with
        |true=>cs.length=n*sz/\(n+m)*by_<=140737488355328/\n+m<=maxLen/\z6 H id (fun H1=>zH (.vec e sz (cs++news)) H1 nx (fun H' OO=>Fn (.o (.w nx (n+m))) H' OO))
        |false=>False
       |false=>False
      |_=>False
     | .o (.s id 0 n c)=>match Nat.beq n c with
      |true=>match dF H id with
       |some (.box e' cs)=>match Nat.beq e' e with
        |true=>vg cs (fun vs=>vs.length=n*sz/\(n+m)*by_<=140737488355328/\n+m<=maxLen/\z6 H id (fun H1=>zH (.vec e sz (vs++news)) H1 nx (fun H' OO=>Fn (.o (.w nx (n+m))) H' OO)))
        |false=>False
       |_=>False
      |false=>False
     |_=>False)
   |none=>False
  |false=>False
def nt(O:Nat->dc)(xs:List SV):Array Value:=(xs.map (SV.den O)).toArray
abbrev Ext(w F:World):Prop:=RowKit.Below w.heap.size w F
structure By(P:Program)(B:Nat)(g:Nat)(args:(Nat->dc)->Array Value)(H:Hp)(nx:Nat)(iv:Iv)(w:World)(Fn:SV->Hp->Iv->World->Prop):Prop where
 h:∀O J,Rel H nx iv B w O J->eD P g (args O) J (fun e F=>∃v H' K,e= .returned v/\Rel H' nx K B F O F/\Fn (.o (.v v)) H' K F)
structure Bt(P:Program)(B:Nat)(g:Nat)(args:(Nat->dc)->Array Value)(H:Hp)(nx:Nat)(iv:Iv)(w:World)(Fn:SV->Hp->Iv->World->Prop):Prop where
 h:∀O J,Rel H nx iv B w O J->eD P g (args O) J (fun e F=>∃v,e= .returned v/\Ext J F/\Fn (.o (.v v)) H ((J.heap.size,F.heap.size)::iv) F)
def Hf(dr:Bool)(P:Program)(B:Nat)(g:Nat)(args:(Nat->dc)->Array Value)(H:Hp)(nx:Nat)(iv:Iv)(w:World)(Fn:SV->Hp->Iv->World->Prop):Prop:=
 match dr with
 |true=>Bt P B g args H nx iv w Fn
 |false=>By P B g args H nx iv w Fn
structure xJ(P:Program)(B:Nat)(o:Oper)(l:Env)(H:Hp)(nx:Nat)(iv:Iv)(w:World)(Fn:SV->Hp->Nat->Iv->World->Prop):Prop where
 h:∀(O:Nat->dc) J (e:Operand->Value),Rel H nx iv B w O J->(∀x v,ev l x=some v->e x=v.den O)->
  ∃v F K,((execOp e o).run P J= .ok (.value v) F\/((execOp e o).run P J= .ok .skip F/\v=undef))/\Rel H nx K B F O F/\Fn (.o (.v v)) H nx K F
def Nr(dr:Bool)(P:Program)(B:Nat)(o:Oper)(l:Env)(H:Hp)(nx:Nat)(iv:Iv)(w:World)(Fn:SV->Hp->Nat->Iv->World->Prop):Prop:=
 match dr with
 |true=>False
 |false=>xJ P B o l H nx iv w Fn
structure Ni(P:Program)(B:Nat)(o:Oper)(l:Env)(H:Hp)(nx:Nat)(iv:Iv)(w:World)(Fn:SV->Hp->Nat->Iv->World->Prop):Prop where
 h:∀(O:Nat->dc) J (e:Operand->Value),Rel H nx iv B w O J->(∀x v,ev l x=some v->e x=v.den O)->
  ∃F w3 H' K,(execOp e o).run P J= .ok .skip w3/\Rel H' nx K B F O w3/\Fn (.o (.v undef)) H' nx K F
def Ns(dr:Bool)(P:Program)(B:Nat)(o:Oper)(l:Env)(H:Hp)(nx:Nat)(iv:Iv)(w:World)(Fn:SV->Hp->Nat->Iv->World->Prop):Prop:=
 match dr with
 |true=>False
 |false=>Ni P B o l H nx iv w Fn
structure Nt(P:Program)(B:Nat)(o:Oper)(l:Env)(H:Hp)(nx:Nat)(iv:Iv)(w:World)(Fn:SV->Hp->Nat->Iv->World->Prop):Prop where
 h:∀(O:Nat->dc) J (e:Operand->Value),Rel H nx iv B w O J->(∀x v,ev l x=some v->e x=v.den O)->
  ∃v H' OO K G9 F w3,(execOp e o).run P J= .ok (.value (SV.den G9 v)) w3/\Rel H' OO K B F G9 w3/\v.sc OO/\nx<=OO/\(∀id,id<nx->O id=G9 id)/\Fn v H' OO K F
def Nj(dr:Bool)(P:Program)(B:Nat)(o:Oper)(l:Env)(H:Hp)(nx:Nat)(iv:Iv)(w:World)(Fn:SV->Hp->Nat->Iv->World->Prop):Prop:=
 match dr with
 |true=>False
 |false=>Nt P B o l H nx iv w Fn
def MD(H:Hp):SV->Bool
 | .o (.s id _ _ _)=>match dF H id with
  |some (.box _ [.s _ _ _ _])=>true
  |some (.box _ [.w _ _])=>true
  |_=>false
 |_=>false
def K3(H:Hp):SV->SV->Bool
 | .o (.p id _),.o (.s _ _ _ _)=>match dF H id with
  |some (.arr _ _)=>true
  |_=>false
 |_,_=>false
def oA:List SV->(List Nat->Prop)->Prop
 |[],k=>k []
 | .o (.p id 0)::r,k=>oA r (fun l=>k (id::l))
 |_::_,_=>False
def xA(dr:Bool)(P:Program)(τ:lO)(B:Nat)(o:Oper)(l:Env)(H:Hp)(nx:Nat)(iv:Iv)(w:World)(Fn:SV->Hp->Nat->Iv->World->Prop):Prop:=
 match o.op with
 | .move x=>pQ l x (fun v=>Fn v H nx iv w)
 | .assign x=>pQ l x (fun v=>Fn v H nx iv w)
 | .pick c a b=>pQ l c (fun v=>match v with
  | .o (.v (.bool t))=>zF t (pQ l a (fun v=>Fn v H nx iv w)) (pQ l b (fun v=>Fn v H nx iv w))
  |_=>False)
 | .alloc t=>match τ t with
  |some ⟨_,_,_,ze,_,_,_,_,_⟩=>pS ze (fun cs=>zH (.box t cs) H nx (fun H' OO=>Fn (.o (.p nx 0)) H' OO iv w))
  |none=>False
 | .box t x=>pQ l x (fun v=>wz v (fun cs=>zH (.box t cs) H nx (fun H' OO=>Fn (.o (.p nx 0)) H' OO iv w)))
 | .build t parts=>match τ t with
  |some ⟨_,_,_,ze,tag,_,e,_,fs⟩=>match Nat.beq tag 5 with
   |true=>pS ze (fun z=>tx l (fun i k=>pX τ fs i (fun off sz _=>k off sz)) parts.toList z (fun cs=>Fn (.a cs) H nx iv w))
   |false=>match Nat.beq tag 6 with
    |true=>match τ e with
     |some ⟨sz,_,_,_,_,_,_,_,_⟩=>pS ze (fun z=>tx l (fun i k=>k (i*sz) sz) parts.toList z (fun cs=>Fn (.a cs) H nx iv w))
     |none=>False
    |false=>False
  |none=>False
 | .buildSlice t n parts=>match τ t with
  |some ⟨_,_,_,_,tag,_,e,_,_⟩=>match Nat.beq tag 4 with
   |true=>match τ e with
    |some ⟨sz,_,_,ze,_,_,_,_,_⟩=>match Nat.ble (n*sz) 16777216 with
     |true=>pS (List.replicate n ze).flatten (fun z=>tx l (fun i k=>k (i*sz) sz) parts.toList z (fun cs=>
       zH (.box e cs) H nx (fun H' OO=>Fn (.o (.s nx 0 n n)) H' OO iv w)))
     |false=>False
    |none=>False
   |false=>False
  |none=>False
 | .load t a=>pQ l a (fun v=>xM τ B t v H nx iv w (fun r=>Fn r H nx iv w))
 | .store t a x=>pQ l a (fun va=>pQ l x (fun vx=>match K3 H va vx with
  |true=>Ns dr P B o l H nx iv w Fn
  |false=>De τ B t va vx H nx iv w (fun H' J=>Fn (.o (.v undef)) H' nx iv J)))
 | .nilCheck x=>pQ l x (fun v=>match v with
  | .o (.p id off)=>Fn (.o (.p id off)) H nx iv w
  | .o (.v (.pointer (some ad)))=>Fn (.o (.v (.pointer (some ad)))) H nx iv w
  | .o (.fn f ids)=>Fn (.o (.fn f ids)) H nx iv w
  | .o (.v (.func (.func f) fi ca))=>Fn (.o (.v (.func (.func f) fi ca))) H nx iv w
  |_=>False)
 | .binOp op t x y _=>pQ l x (fun vx=>pQ l y (fun vy=>Kq P τ op t vx vy (fun r=>Fn r H nx iv w)))
 | .unOp op _ x=>pQ l x (fun v=>match op,v with
  | .not,.o (.v (.bool b))=>Fn (.o (.v (.bool (!b)))) H nx iv w
  | .neg,.o (.v (.int k n))=>∃r,k.wrap (0-n)=r/\Fn (.o (.v (.int k r))) H nx iv w
  | .xor,.o (.v (.int k n))=>∃r,k.wrap ((BitVec.ofInt k.bits (if k.signed then -1 else k.max) ^^^ BitVec.ofInt k.bits n).toNat:Int)=r/\Fn (.o (.v (.int k r))) H nx iv w
  |_,_=>False)
 | .convert sr d x=>match τ sr with
  |some _=>pQ l x (fun v=>match τ d with
   |some ⟨_,_,_,_,tag,ik,_,_,_⟩=>match Nat.beq tag 1 with
    |true=>match v with
     | .o (.v (.int _ n))=>∃r,ik.wrap n=r/\Fn (.o (.v (.int ik r))) H nx iv w
     |_=>False
    |false=>Nr dr P B o l H nx iv w Fn
   |none=>False)
  |none=>False
 | .makeFunc (.func f) ⟨first⟩ caps=>match first with
  |[]=>H6 l caps.toList (fun vs=>oA vs (fun ids=>Fn (.o (.fn f ids)) H nx iv w))
  |_=>False
 | .makeSlice t x y=>pQ l x (fun vx=>pQ l y (fun vy=>FB τ t vx vy H nx (fun v H' OO=>Fn v H' OO iv w)))
 | .slice t x lo R none=>pQ l x (fun v=>Dh τ H t v l lo R (fun r=>Fn r H nx iv w))
 | .slice t x (some lo) (some R) (some mx)=>pQ l x (fun v=>Aj τ t v l lo R mx (fun r=>Fn r H nx iv w))
 | .fieldAddr t x f=>match τ t with
  |some ⟨_,_,_,_,tag,_,_,_,fs⟩=>match Nat.beq tag 5 with
   |true=>pX τ fs f (fun off _ _=>pQ l x (fun v=>wQ v off (fun r=>Fn r H nx iv w)))
   |false=>False
  |none=>False
 | .field t x f=>match τ t with
  |some ⟨_,_,_,_,tag,_,_,_,fs⟩=>match Nat.beq tag 5 with
   |true=>pX τ fs f (fun off sz ag=>pQ l x (fun v=>match v with
    | .o (.v (.agg ⟨vs⟩))=>pS vs (fun cs=>match ag with
     |true=>sd cs off (fun r=>se r sz (fun c=>Fn (.a c) H nx iv w))
     |false=>match Ai cs off with
      |some c=>Fn (.o c) H nx iv w
      |none=>False)
    | .a cs=>match ag with
     |true=>sd cs off (fun r=>se r sz (fun c=>Fn (.a c) H nx iv w))
     |false=>match Ai cs off with
      |some c=>Fn (.o c) H nx iv w
      |none=>False
    |_=>False))
   |false=>False
  |none=>False
 | .indexAddr t x i=>pQ l x (fun vx=>pQ l i (fun vi=>Df τ H t vx vi (fun r=>Fn r H nx iv w)))
 | .extract x i=>pQ l x (fun v=>match v with
  | .o (.v (.tuple ⟨vs⟩))=>match GC vs i with
   |some u=>Fn (.o (.v u)) H nx iv w
   |none=>False
  |_=>False)
 | .call ⟨.builtin .len,⟨[x]⟩,⟨[t]⟩⟩=>pQ l x (fun v=>Kr τ H t v (fun n=>Fn (.o (.v (.int .i64 n))) H nx iv w))
 | .call ⟨.builtin .append,⟨[x,y]⟩,⟨[t,u]⟩⟩=>match Nat.beq t u with
  |true=>pQ l x (fun vx=>pQ l y (fun vy=>match MD H vy with
   |true=>Nj dr P B o l H nx iv w Fn
   |false=>Ak τ B t vx vy H nx iv w (fun v H' OO=>Fn v H' OO iv w)\/xJ P B o l H nx iv w Fn))
  |false=>xJ P B o l H nx iv w Fn
 | .call ⟨.builtin .max,⟨[x,y]⟩,_⟩=>pQ l x (fun vx=>pQ l y (fun vy=>match vx,vy with
  | .o (.v (.int k a)),.o (.v (.int k' b))=>match pW k k' with
   |true=>Fn (.o (.v (.int k (max a b)))) H nx iv w
   |false=>False
  |_,_=>False))
 | .call ⟨.builtin .min,⟨[x,y]⟩,_⟩=>pQ l x (fun vx=>pQ l y (fun vy=>match vx,vy with
  | .o (.v (.int k a)),.o (.v (.int k' b))=>match pW k k' with
   |true=>Fn (.o (.v (.int k (min a b)))) H nx iv w
   |false=>False
  |_,_=>False))
 | .call ⟨.builtin .copy,_,_⟩=>xJ P B o l H nx iv w Fn
 | .call ⟨.builtin .clear,_,_⟩=>xJ P B o l H nx iv w Fn
 | .call ⟨.builtin .cap,_,_⟩=>xJ P B o l H nx iv w Fn
 | .index _ _ _=>xJ P B o l H nx iv w Fn
 | .makeMap _ _=>xJ P B o l H nx iv w Fn
 | .lookup _ _ _ _=>xJ P B o l H nx iv w Fn
 | .mapUpdate _ _ _ _=>xJ P B o l H nx iv w Fn
 | .call ⟨.value f,⟨args⟩,_⟩=>pQ l f (fun vf=>H6 l args (fun vs=>match vf with
   | .o (.v (.func (.func g) first caps))=>Hf dr P B g (fun O=>first++nt O vs++caps) H nx iv w (fun v H' K J=>Fn v H' nx K J)
   | .o (.fn g ids)=>Hf dr P B g (fun O=>nt O vs++(ids.map fun id=>Value.pointer (some ⟨(O id).g,0,none⟩)).toArray) H nx iv w (fun v H' K J=>Fn v H' nx K J)
   |_=>False))
 |_=>False
def zf:List Oper->Nat->Option Tmp
 |[],_=>none
 |o::_,0=>o.dst
 |_::r,n+1=>zf r n
def Br(d:Option Tmp)(v:SV)(l:Env)(k:Env->Prop):Prop:=match d with
 |some t=>k ((t,v)::l)
 |none=>k l
def rH(all:List Oper)(g:Option (Nat×Bool))(l:Env)(yes no:Env->Prop):Prop:=
 match g with
 |none=>yes l
 |some (j,want)=>match zf all j with
  |none=>no l
  |some d=>match fH l d with
   |some (.o (.v (.bool b)))=>match want with
    |true=>zF b (yes ((d,.o (.v (.bool true)))::l)) (no ((d,.o (.v (.bool false)))::l))
    |false=>zF b (no ((d,.o (.v (.bool true)))::l)) (yes ((d,.o (.v (.bool false)))::l))
   |some (.o (.v (.tuple _)))=>no l
   |_=>False
def eh(dr:Bool)(P:Program)(τ:lO)(B:Nat)(all:List Oper)(o:Oper)(l:Env)(H:Hp)(nx:Nat)(iv:Iv)(w:World)(k:Env->Hp->Nat->Iv->World->Prop):Prop:=
 rH all o.guard l
  (fun l=>xA dr P τ B o l H nx iv w (fun v H' OO K J=>Br o.dst v l (fun l'=>k l' H' OO K J)))
  (fun l=>Br o.dst (.o (.v undef)) l (fun l'=>k l' H nx iv w))
def uj(P:Program)(τ:lO)(B:Nat)(all:List Oper):List Oper->Env->Hp->Nat->Iv->World->(Env->Hp->Nat->Iv->World->Prop)->Prop
 |[],l,H,nx,iv,w,Fn=>Fn l H nx iv w
 |o::r,l,H,nx,iv,w,Fn=>eh false P τ B all o l H nx iv w (fun l' H' OO K J=>uj P τ B all r l' H' OO K J Fn)
inductive Ex where
 |normal
 |exit (id:Nat)
 |ret
structure Sat(n:Nat)(l:Env)(H:Hp)(nx:Nat)(iv:Iv)(B:Nat)(w:World)(O:Nat->dc)(a:Act)(J:World):Prop where
 rel:Rel H nx iv B w O J
 size:a.tmps.size=n
 defers:a.defers=[]
 env:∀t v,fH l t=some v->a.tmps[t]? =some (v.den O)
 sc:∀t v,fH l t=some v->v.sc nx
abbrev KT:=Env->Hp->Nat->Iv->World->Prop
structure nu(P:Program)(B:Nat)(ops:Array Oper)(l:Env)(H:Hp)(nx:Nat)(iv:Iv)(w:World)(Fn:KT):Prop where
 h:∀n O a J,ops.toList.all (fun o=>match o.dst with
   |some d=>Nat.blt d n
   |none=>true)=true->Sat n l H nx iv B w O a J->
  ∀Q:Exit->Act->World->Prop,(∀l' H' OO K F G9 a' w'',Fn l' H' OO K F->Sat n l' H' OO K B F G9 a' w''->Q .normal a' w'')->
  ∀id,(Code.region id ops true).wp P Q a J
structure CB where
 l:Env
 H:Hp
 nx:Nat
 iv:Iv
 w:World
def Sub(B:Nat)(l:Env)(_nx:Nat)(O:Nat->dc)(J:World)(t:CB):Prop:=
 ∃G9,Rel t.H t.nx t.iv B t.w G9 J/\(∀u v,fH t.l u=some v->v.sc t.nx/\∃v0,fH l u=some v0/\v0.den O=v.den G9)
def jW(P:Program)(τ:lO)(B:Nat):Code->Env->Hp->Nat->Iv->World->(Ex->KT)->Prop
 | .skip,l,H,nx,iv,w,Q=>Q .normal l H nx iv w
 | .region _ ops false,l,H,nx,iv,w,Q=>uj P τ B ops.toList ops.toList l H nx iv w (Q .normal)
 | .region _ ops true,l,H,nx,iv,w,Q=>nu P B ops l H nx iv w (Q .normal)
 | .seq a b,l,H,nx,iv,w,Q=>jW P τ B a l H nx iv w (fun e l H nx iv w=>match e with
  | .normal=>jW P τ B b l H nx iv w Q
  | .exit id=>Q (.exit id) l H nx iv w
  | .ret=>Q .ret l H nx iv w)
 | .cond c a b,l,H,nx,iv,w,Q=>pQ l c (fun v=>match v with
  | .o (.v (.bool t))=>zF t (jW P τ B a l H nx iv w Q) (jW P τ B b l H nx iv w Q)
  |_=>False)
 | .block id c,l,H,nx,iv,w,Q=>jW P τ B c l H nx iv w (fun e l H nx iv w=>match e with
  | .normal=>Q .normal l H nx iv w
  | .exit id'=>match Nat.beq id' id with
   |true=>Q .normal l H nx iv w
   |false=>Q (.exit id') l H nx iv w
  | .ret=>Q .ret l H nx iv w)
 | .loop c,l,H,nx,iv,w,Q=>∃(α:Type) (st:α->CB) (μ:α->Nat) (E9:α->Prop),
   (∀O J,Rel H nx iv B w O J->∃x,E9 x/\Sub B l nx O J (st x))/\
   ∀x,E9 x->jW P τ B c (st x).l (st x).H (st x).nx (st x).iv (st x).w (fun e l H nx iv w=>match e with
    | .normal=>∀O J,Rel H nx iv B w O J->∃y,E9 y/\Sub B l nx O J (st y)/\μ y<μ x
    | .exit id=>Q (.exit id) l H nx iv w
    | .ret=>Q .ret l H nx iv w)
 | .exit id,l,H,nx,iv,w,Q=>Q (.exit id) l H nx iv w
 | .ret,l,H,nx,iv,w,Q=>Q .ret l H nx iv w
 |_,_,_,_,_,_,_=>False
structure Db(P:Program)(t:Nat)(i:TI):Prop where
 info:∃inf z,P.info? t=some inf/\inf.size=i.size/\inf.bytes=i.bytes/\inf.zero=some z/\z.cells.toList=i.zero
 Bw:i.zero.length=i.size
 MC:∀x∈i.zero,x.oneCell'=true
 agg:∃d,P.underlying t=some d/\(match d with| .struct _| .array _ _=>true|_=>false)=i.agg
 i1:i.tag=1->P.underlying t=some (.int i.ik)
 i2:i.tag=2->P.underlying t=some .bool
 i3:i.tag=3->P.underlying t=some .string
 i4:i.tag=4->P.underlying t=some (.slice i.elem)
 i5:i.tag=5->∃fs,P.underlying t=some (.struct fs)/\fs.toList.map (fun f=>(f.offset,f.type))=i.fields/\∀f∈fs.toList,(P.info? f.type).isSome=true
 i6:i.tag=6->P.underlying t=some (.array i.zE i.elem)
def en(P:Program)(τ:lO):Prop:=∀t i,τ t=some i->Db P t i
theorem eJ{a b:Nat}(h:Nat.beq a b=true):a=b:=bJ h
theorem fO:∀{xs:List Value} {k:List At->Prop},pS xs k->k (xs.map At.v)
 |[],_,h=>h
 |x::r,k,h=>by
  have:=fO (xs:=r) (k:=fun r'=>k (.v x::r')) h;simpa using this
theorem oC:∀{cs:List At} {n:Nat} {k:List At->Prop},sd cs n k->k (cs.drop n)/\n<=cs.length
 |cs,0,k,h=>by cases cs<;>exact⟨by simpa [sd]using h,ce⟩
 |[],n+1,k,h=>by simp[sd]at h
 |x::t,n+1,k,h=>by
  have:=oC (cs:=t) (n:=n) (k:=k) h;exact⟨by simpa using this.1,by simp;omega⟩
theorem oD:∀{cs:List At} {n:Nat} {k:List At->Prop},se cs n k->k (cs.take n)/\n<=cs.length
 |cs,0,k,h=>by cases cs<;>exact⟨by simpa [se]using h,ce⟩
 |[],n+1,k,h=>by simp[se]at h
 |x::t,n+1,k,h=>by
  have:=oD (cs:=t) (n:=n) (k:=fun r=>k (x::r)) h;exact⟨by simpa using this.1,by simp;omega⟩
theorem xN:∀{cs new:List At} {k:List At->Prop},z7 cs new k->k (new++cs.drop new.length)/\new.length<=cs.length
 |cs,[],k,h=>by cases cs<;>exact⟨by simpa [z7]using h,ce⟩
 |[],x::r,k,h=>by simp[z7]at h
 |_::t,x::r,k,h=>by
  have:=xN (cs:=t) (new:=r) (k:=fun t'=>k (x::t')) h;exact⟨by simpa using this.1,by simp;omega⟩
theorem oE:∀{cs:List At} {off:Nat} {new:List At} {k:List At->Prop},rE cs off new k->
  k (cs.take off++new++cs.drop (off+new.length))/\off+new.length<=cs.length
 |cs,0,new,k,h=>by
  have h':z7 cs new k:=by cases cs<;>simpa [rE]using h
  have:=xN h';exact⟨by simpa using this.1,be⟩
 |[],n+1,new,k,h=>by simp[rE]at h
 |x::t,n+1,new,k,h=>by
  have:=oE (cs:=t) (off:=n) (new:=new) (k:=fun t'=>k (x::t')) h;refine⟨?_,by simp;omega⟩;have I:=this.1;rw[show n+1+new.length=(n+new.length)+1 by omega];simpa using I
theorem one_den{x:At}(h:x.one=true)(O:Nat->dc):(x.den O).oneCell'=true:=by
 cases x with
 |v y=>cases y<;>simp_all [At.one,At.den,Value.oneCell']
 |w id n=>simp only[At.den];split<;>rfl
 |_=>rfl
theorem xO:∀{cs:List At} {k:Prop},Eu cs k->k/\∀c∈cs,At.one c=true
 |[],k,h=>⟨h,ce⟩
 |x::r,k,h=>by
  unfold Eu at h;split at h
  .rename_i E;have:=xO h;exact⟨this.1,by simp[E];exact this.2⟩
  .exact h.elim
theorem lQ:∀{cs:List At} {k:List Value->Prop},vg cs k->∃vs,k vs/\cs=vs.map At.v/\∀v∈vs,v.oneCell'=true
 |[],k,h=>⟨[],h,rfl,ce⟩
 | .v x::r,k,h=>by
  unfold vg at h;split at h
  .rename_i E;obtain⟨vs,W,I,h3⟩:=lQ h;exact⟨x::vs,W,by simp[I],by simp;exact⟨one_den E (fun _=>⟨0,0,false⟩),h3⟩⟩
  .exact h.elim
 | .p _ _::_,k,h=>by simp[vg]at h
 | .s _ _ _ _::_,k,h=>by simp[vg]at h
 | .w _ _::_,k,h=>by simp[vg]at h
 | .fn _ _::_,k,h=>by simp[vg]at h
theorem mQ{x:SV}{k:List At->Prop}(h:wz x k):∃cs,k cs/\(∀O,(x.den O).cells=(cs.map (At.den O)).toArray)/\(∀n,x.sc n->∀c∈cs,c.sc n):=by
 cases x with
 |a cs=>exact⟨cs,h,fun O=>rfl,fun n U=>U⟩
 |o y=>
  cases y with
  |v z=>
   cases z with
   |agg arr=>
    obtain⟨l⟩:=arr;refine⟨_,fO h,fun O=>?_,fun n _ c hc=>?_⟩
    .simp[SV.den,At.den,Value.cells,Function.comp_def]
    .simp at hc;obtain⟨v,_,rfl⟩:=hc;trivial
   |tuple arr=>simp[wz]at h
   |_=>exact⟨_,h,fun O=>rfl,fun n _ c hc=>by simp at hc;subst hc;trivial⟩
  |w id n=>exact⟨_,h,fun O=>by simp only[SV.den,At.den,List.map];split<;>rfl,fun n U c hc=>by simp at hc;subst hc;exact U⟩
  |_=>exact⟨_,h,fun O=>rfl,fun n U c hc=>by simp at hc;subst hc;exact U⟩
theorem dN(t:Nat)(b:jL)(r:Hp)(u:Nat):dF ((t,b)::r) u=if t=u then some b else dF r u:=by
 show(match Nat.beq t u with|true=>some b|false=>dF r u)=_;split
 .rename_i h;rw[aM (eJ h)]
 .rename_i h;rw[aK (fun e=>by subst e;rw[Nat.beq_refl]at h;cases h)]
theorem eU(t:Nat)(b:SV)(r:Env)(u:Nat):fH ((t,b)::r) u=if t=u then some b else fH r u:=by
 show(match Nat.beq t u with|true=>some b|false=>fH r u)=_;split
 .rename_i h;rw[aM (eJ h)]
 .rename_i h;rw[aK (fun e=>by subst e;rw[Nat.beq_refl]at h;cases h)]
theorem rI:∀{H:Hp} {id:Nat} {b:jL} {k:Hp->Prop},D6 H id b k->∃H',k H'/\(∀j,dF H' j=if j=id then some b else dF H j)/\(dF H id).isSome=true
 |[],id,b,k,h=>by simp[D6]at h
 |(t,v)::r,id,b,k,h=>by
  unfold D6 at h;split at h
  .rename_i ht;have:=eJ ht;subst this;refine⟨_,h,fun j=>?_,by simp[dN]⟩;simp only[dN]
   by_cases e:t=j
   .simp[e]
   .simp[e,Ne.symm e]
  .rename_i ht;have OL:t≠id:=fun e=>by subst e;rw[Nat.beq_refl]at ht;cases ht
   obtain⟨H',W,I,h3⟩:=rI h;refine⟨_,W,fun j=>?_,by simp[dN,OL,h3]⟩;simp only[dN,I]
   by_cases e:t=j
   .subst e;simp[OL]
   .simp[e]
theorem sL:∀{H:Hp} {id:Nat} {k:Hp->Prop},z6 H id k->∃H',k H'/\(∀j,dF H' j=if j=id then some .dead else dF H j)/\(dF H id).isSome=true
 |[],id,k,h=>by simp[z6]at h
 |(t,v)::r,id,k,h=>by
  unfold z6 at h;split at h
  .rename_i ht;have:=eJ ht;subst this;refine⟨_,h,fun j=>?_,by simp[dN]⟩;simp only[dN]
   by_cases e:t=j
   .simp[e]
   .simp[e,Ne.symm e]
  .rename_i ht;have OL:t≠id:=fun e=>by subst e;rw[Nat.beq_refl]at ht;cases ht
   obtain⟨H',W,I,h3⟩:=sL h;refine⟨_,W,fun j=>?_,by simp[dN,OL,h3]⟩;simp only[dN,I]
   by_cases e:t=j
   .subst e;simp[OL]
   .simp[e]
theorem At.js{x:At}{O G9:Nat->dc}(h:∀id,id<n->O id=G9 id)(E:x.sc n):x.den O=x.den G9:=by
 cases x with
 |v y=>rfl
 |p id off=>simp only[At.den,h id E]
 |s id off len cap=>simp only[At.den,h id E]
 |w id len=>simp only[At.den,h id E]
 |fn f caps=>
  simp only[At.den]
  congr 2;exact List.map_congr_left fun id Pk=>by rw[h id (E id Pk)]
theorem SV.js{x:SV}{O G9:Nat->dc}(h:∀id,id<n->O id=G9 id)(E:x.sc n):x.den O=x.den G9:=by
 cases x with
 |o y=>exact At.js h E
 |a cs=>
  simp only[SV.den]
  congr 2;exact List.map_congr_left fun c hc=>At.js h (E c hc)
theorem At.sk{x:At}(h:n<=m)(E:x.sc n):x.sc m:=by
 cases x with
 |v y=>trivial
 |fn f caps=>intro id Pk;have:=E id Pk;omega
 |_=>simp only[At.sc]at *;omega
theorem SV.sk{x:SV}(h:n<=m)(E:x.sc n):x.sc m:=by
 cases x with
 |o y=>exact At.sk h E
 |a cs=>exact fun c hc=>At.sk h (E c hc)
theorem Rel.drew{H:Hp}{iv:Iv}{w:World}{O:Nat->dc}(r:Rel H nx iv B w O J):Rel H nx iv B w O J.drew:=
 ⟨r.os,r.tape,r.output,r.size,r.base,r.nG,r.keys,r.box,r.arr,r.vec,r.inj,r.low,r.Ad,r.ix,r.JS,r.nn⟩
def gn(O:Nat->dc)(nx:Nat)(v:dc):Nat->dc:=fun j=>if j=nx then v else O j
theorem gN{O:Nat->dc}{v:dc}:∀id,id<nx->O id=gn O nx v id:=fun id h=>by simp[gn,Nat.ne_of_lt h]
@[simp] theorem ek {O:Nat->dc} {nx:Nat} {v:dc}:gn O nx v nx=v:=by simp[gn]
def jL.fits(b:jL)(O:Nat->dc)(v:dc)(w:World):Prop:=
 match b with
 | .box t cs=>v.nil=false/\w.heap[v.g]? =some (.cells (cs.map (At.den O)).toArray t (0,0))
 | .arr t cs=>v.nil=false/\w.heap[v.g]? =some (.cells cs.toArray t (0,0))
 | .vec t size cs=>(v.nil=true/\cs=[])\/(v.nil=false/\∃spare:List Value,w.heap[v.g]? =some (.cells (cs++spare).toArray t (0,0))/\(cs++spare).length=v.cap*size/\v.cap<=maxLen)
 | .dead=>True
def jL.scopd(b:jL)(n:Nat):Prop:=match b with
 | .box _ cs=>∀x∈cs,At.sc n x
 |_=>True
theorem Rel.fits{H:Hp}{iv:Iv}{w:World}{O:Nat->dc}(r:Rel H nx iv B w O J){b:jL}(h:dF H id=some b):b.fits O (O id) J:=by
 cases b with
 |box t cs=>exact⟨r.nn id _ h (by intros;simp) ce,r.box id t cs h⟩
 |arr t cs=>exact⟨r.nn id _ h (by intros;simp) ce,r.arr id t cs h⟩
 |vec t size cs=>exact r.vec id t size cs h
 |dead=>trivial
theorem Rel.mk'{H:Hp}{iv:Iv}{w:World}{O:Nat->dc}(os:J.os=w.os)(tape:J.tape=w.tape)(output:J.output=w.output)
  (size:w.heap.size<=J.heap.size) (base:B<=w.heap.size) (nG:∀lo R,(lo,R)∈iv->R<=w.heap.size) (keys:∀id b,dF H id=some b->id<nx)
  (fits:∀id b,dF H id=some b->b.fits O (O id) J) (JS:∀id b,dF H id=some b->b.scopd nx)
  (inj:∀id id' b b',dF H id=some b->dF H id'=some b'->b≠ .dead->b'≠ .dead->(O id).nil=false->(O id').nil=false->(O id).g=(O id').g->id=id')
  (low:∀id b,dF H id=some b->(O id).nil=false->B<=(O id).g/\(O id).g<J.heap.size)
  (Ad:∀k,k<w.heap.size->(∀id b,dF H id=some b->(O id).nil=false->(O id).g≠k)->J.heap[k]? =w.heap[k]?)
  (ix:∀lo R,(lo,R)∈iv->∀id b,dF H id=some b->(O id).nil=false->¬(lo<=(O id).g/\(O id).g<R)):Rel H nx iv B w O J where
 os:=os
 tape:=tape
 output:=output
 size:=size
 base:=base
 nG:=nG
 keys:=keys
 box:=fun id t cs h=>(fits id _ h).2
 arr:=fun id t cs h=>(fits id _ h).2
 vec:=fun id t size cs h=>fits id _ h
 inj:=inj
 low:=low
 Ad:=Ad
 ix:=ix
 JS:=fun id t cs h=>JS id _ h
 nn:=fun id b h W I=>by
  have:=fits id b h
  cases b with
  |box t cs=>exact this.1
  |arr t cs=>exact this.1
  |vec t size cs=>exact absurd rfl (W t size cs)
  |dead=>exact absurd rfl I
theorem jL.gV{b:jL}{O G9:Nat->dc}{v:dc}{w:World}(h:b.fits O v w)(GE:∀id,id<n->O id=G9 id)(hs:b.scopd n)
  (Y:v.nil=false->b≠ .dead->J.heap[v.g]? =w.heap[v.g]?):b.fits G9 v J:=by
 cases b with
 |box t cs=>
  obtain⟨W,I⟩:=h;refine⟨W,?_⟩;rw[Y W ce,I,List.map_congr_left fun c hc=>At.js GE (hs c hc)]
 |arr t cs=>exact⟨h.1,by rw[Y h.1 ce];exact h.2⟩
 |vec t size cs=>
  rcases h with h|⟨W,spare,I,h3⟩
  .exact .inl h
  .exact .inr ⟨W,spare,by rw[Y W ce];exact I,h3⟩
 |dead=>trivial
theorem jL.j1{b:jL}(h:n<=m)(N:b.scopd n):b.scopd m:=by
 cases b with
 |box t cs=>exact fun c hc=>At.sk h (N c hc)
 |_=>trivial
theorem Rel.scopd{H:Hp}{iv:Iv}{w:World}{O:Nat->dc}(r:Rel H nx iv B w O J){b:jL}(h:dF H id=some b):b.scopd nx:=by
 cases b with
 |box t cs=>exact r.JS id t cs h
 |_=>trivial
theorem Rel.push{H:Hp}{iv:Iv}{w:World}{O:Nat->dc}(r:Rel H nx iv B w O J)(b:jL)(v:dc)
  (os:F.os=J.os) (tape:F.tape=J.tape) (output:F.output=J.output) (size:J.heap.size<=F.heap.size) (old:∀k,k<J.heap.size->F.heap[k]? =J.heap[k]?)
  (hv:v.nil=false->J.heap.size<=v.g/\v.g<F.heap.size) (N:b.fits O v F) (hs:b.scopd nx):Rel ((nx,b)::H) (nx+1) iv B w (gn O nx v) F:=by
 have Oo:∀id b,dF H id=some b->id≠nx:=fun id b h=>Nat.ne_of_lt (r.keys id b h);have Q1:∀id b,dF H id=some b->gn O nx v id=O id:=fun id b h=>by simp[gn,Oo id b h]
 refine Rel.mk' (os.trans r.os) (tape.trans r.tape) (output.trans r.output) (aP r.size size) r.base r.nG ?_ ?_ ?_ ?_ ?_ ?_ ?_
 .intro id b' h;rw[dN]at h;split at h
  .omega
  .have:=r.keys id b' h;omega
 .intro id b' h;rw[dN]at h;split at h
  .rename_i e;subst e;injection h with h;subst h;rw[ek];exact jL.gV N gN hs (fun _ _=>rfl)
  .rw[Q1 id b' h];exact jL.gV (r.fits h) gN (r.scopd h) (fun W _=>old _ (r.low id b' h W).2)
 .intro id b' h;rw[dN]at h;split at h
  .injection h with h;subst h;exact jL.j1 be hs
  .exact jL.j1 be (r.scopd h)
 .intro id id' b1 b2 W I d1 d2 n1 n2 e;rw[dN]at W I;split at W<;>split at I
  .omega
  .rename_i e1 e2;subst e1;rw[ek]at e n1;rw[Q1 id' b2 I]at e n2;have:=(r.low id' b2 I n2).2;have:=(hv n1).1;omega
  .rename_i e1 e2;subst e2;rw[ek]at e n2;rw[Q1 id b1 W]at e n1;have:=(r.low id b1 W n1).2;have:=(hv n2).1;omega
  .rw[Q1 id b1 W]at e n1;rw[Q1 id' b2 I]at e n2;exact r.inj id id' b1 b2 W I d1 d2 n1 n2 e
 .intro id b' h n1;rw[dN]at h;split at h
  .rename_i e;subst e;rw[ek]at n1 ⊢;have:=hv n1;have:=r.base;have:=r.size;omega
  .rw[Q1 id b' h]at n1 ⊢;have:=r.low id b' h n1;omega
 .intro k Z OL;rw[old k (by have:=r.size;omega)];refine r.Ad k Z fun id b' h n1=>?_;have:=OL id b' (by rw[dN,aK (Ne.symm (Oo id b' h))];exact h) (by rw[Q1 id b' h];exact n1)
  rwa [Q1 id b' h]at this
 .intro lo R hm id b' h n1;rw[dN]at h;split at h
  .rename_i e;subst e;rw[ek]at n1 ⊢;have:=hv n1;have:=r.nG lo R hm;have:=r.size;omega
  .rw[Q1 id b' h]at n1 ⊢;exact r.ix lo R hm id b' h n1
theorem Rel.store{H H':Hp}{iv:Iv}{w:World}{O:Nat->dc}(r:Rel H nx iv B w O J){b b':jL}(Pk:dF H id=some b)(hd:b≠ .dead)(U:(O id).nil=false)
  (hH:∀j,dF H' j=if j=id then some b' else dF H j)
  (os:F.os=J.os) (tape:F.tape=J.tape) (output:F.output=J.output) (size:F.heap.size=J.heap.size) (old:∀k,k≠(O id).g->F.heap[k]? =J.heap[k]?)
  (N:b'.fits O (O id) F) (hs:b'.scopd nx):Rel H' nx iv B w O F:=by
 have key:∀j c,dF H' j=some c->∃c',dF H j=some c':=fun j c h=>by
  rw[hH]at h;split at h
  .rename_i e;subst e;exact⟨b,Pk⟩
  .exact⟨c,h⟩
 refine Rel.mk' (os.trans r.os) (tape.trans r.tape) (output.trans r.output) (by rw[size];exact r.size) r.base r.nG ?_ ?_ ?_ ?_ ?_ ?_ ?_
 .intro j c h;obtain⟨c',h'⟩:=key j c h;exact r.keys j c' h'
 .intro j c h;rw[hH]at h;split at h
  .rename_i e;subst e;injection h with h;subst h;exact N
  .rename_i e;refine jL.gV (r.fits h) (fun _ _=>rfl) (r.scopd h) (fun W I=>old _ fun e2=>e ?_);exact r.inj j id c b h Pk I hd W U e2
 .intro j c h;rw[hH]at h;split at h
  .injection h with h;subst h;exact hs
  .exact r.scopd h
 .intro j j' c c' W I d1 d2 n1 n2 e;rw[hH]at W I;have l1:∃c1,dF H j=some c1/\c1≠ .dead:=by
   split at W
   .rename_i e1;subst e1;exact⟨b,Pk,hd⟩
   .exact⟨c,W,d1⟩
  have l2:∃c1,dF H j'=some c1/\c1≠ .dead:=by
   split at I
   .rename_i e1;subst e1;exact⟨b,Pk,hd⟩
   .exact⟨c',I,d2⟩
  obtain⟨c1,g1,g2⟩:=l1;obtain⟨c2,g3,g4⟩:=l2;exact r.inj j j' c1 c2 g1 g3 g2 g4 n1 n2 e
 .intro j c h n1;obtain⟨c',h'⟩:=key j c h;rw[size];exact r.low j c' h' n1
 .intro k Z OL;have hkg:k≠(O id).g:=fun e=>OL id b' (by rw[hH];simp) U e.symm;rw[old k hkg];refine r.Ad k Z fun j c h n1=>?_;by_cases e:j=id
  .subst e;exact Ne.symm hkg
  .exact OL j c (by rw[hH,aK e];exact h) n1
 .intro lo R hm j c h n1;obtain⟨c',h'⟩:=key j c h;exact r.ix lo R hm j c' h' n1
theorem Rel.Hg{H H1:Hp}{iv:Iv}{w:World}{O:Nat->dc}(r:Rel H nx iv B w O J){b0:jL}(Pk:dF H id=some b0)(hd:b0≠ .dead)
  (hH:∀j,dF H1 j=if j=id then some .dead else dF H j) (b:jL) (v:dc)
  (os:F.os=J.os) (tape:F.tape=J.tape) (output:F.output=J.output) (size:J.heap.size<=F.heap.size)
  (old:∀k,k<J.heap.size->((O id).nil=false->k≠(O id).g)->F.heap[k]? =J.heap[k]?)
  (hv:v.nil=false->(J.heap.size<=v.g/\v.g<F.heap.size)\/((O id).nil=false/\v.g=(O id).g)) (N:b.fits O v F) (hs:b.scopd nx):Rel ((nx,b)::H1) (nx+1) iv B w (gn O nx v) F:=by
 have key:∀j c,dF H1 j=some c->∃c',dF H j=some c'/\(c≠ .dead->c'=c/\j≠id):=fun j c h=>by
  rw[hH]at h;split at h
  .rename_i e;subst e;injection h with h;exact⟨b0,Pk,fun I=>absurd h.symm I⟩
  .rename_i e;exact⟨c,h,fun _=>⟨rfl,e⟩⟩
 have Oo:∀j c,dF H1 j=some c->j≠nx:=fun j c h=>by obtain⟨c',h',_⟩:=key j c h;exact Nat.ne_of_lt (r.keys j c' h')
 have Q1:∀j c,dF H1 j=some c->gn O nx v j=O j:=fun j c h=>by simp[gn,Oo j c h]
 have hidlt:=r.keys id b0 Pk;have hvlow:v.nil=false->B<=v.g/\v.g<F.heap.size:=fun U=>by
  rcases hv U with h|⟨W,I⟩
  .have:=r.base;have:=r.size;omega
  .have:=r.low id b0 Pk W;omega
 refine Rel.mk' (os.trans r.os) (tape.trans r.tape) (output.trans r.output) (aP r.size size) r.base r.nG ?_ ?_ ?_ ?_ ?_ ?_ ?_
 .intro j b' h;rw[dN]at h;split at h
  .omega
  .obtain⟨c',h',_⟩:=key j b' h;have:=r.keys j c' h';omega
 .intro j b' h;rw[dN]at h;split at h
  .rename_i e;subst e;injection h with h;subst h;rw[ek];exact jL.gV N gN hs (fun _ _=>rfl)
  .rw[Q1 j b' h];by_cases SZ:b'= .dead
   .subst SZ;trivial
   .obtain⟨c',h',I⟩:=key j b' h;obtain⟨rfl,OL⟩:=I SZ;exact jL.gV (r.fits h') gN (r.scopd h') (fun W _=>old _ (r.low j c' h' W).2 fun h3 e=>OL (r.inj j id c' b0 h' Pk SZ hd W h3 e))
 .intro j b' h;rw[dN]at h;split at h
  .injection h with h;subst h;exact jL.j1 be hs
  .by_cases SZ:b'= .dead
   .subst SZ;trivial
   .obtain⟨c',h',I⟩:=key j b' h;obtain⟨rfl,OL⟩:=I SZ;exact jL.j1 be (r.scopd h')
 .have cross:∀j c,dF H1 j=some c->c≠ .dead->(O j).nil=false->v.nil=false->v.g≠(O j).g:=fun j c h dd nj nv e=>by
   obtain⟨c',h',I⟩:=key j c h;obtain⟨rfl,OL⟩:=I dd;rcases hv nv with h3|⟨h3,h4⟩
   .have:=(r.low j c' h' nj).2;omega
   .exact OL (r.inj j id c' b0 h' Pk dd hd nj h3 be)
  intro j j' b1 b2 W I d1 d2 n1 n2 e;rw[dN]at W I;split at W<;>split at I
  .omega
  .rename_i e1 e2;subst e1;rw[ek]at e n1;rw[Q1 j' b2 I]at e n2;exact absurd e (cross j' b2 I d2 n2 n1)
  .rename_i e1 e2;subst e2;rw[ek]at e n2;rw[Q1 j b1 W]at e n1;exact absurd e.symm (cross j b1 W d1 n1 n2)
  .rw[Q1 j b1 W]at e n1;rw[Q1 j' b2 I]at e n2;obtain⟨c1,g1,k1⟩:=key j b1 W;obtain⟨c2,g2,k2⟩:=key j' b2 I;obtain⟨rfl,_⟩:=k1 d1;obtain⟨rfl,_⟩:=k2 d2;exact r.inj j j' c1 c2 g1 g2 d1 d2 n1 n2 e
 .intro j b' h n1;rw[dN]at h;split at h
  .rename_i e;subst e;rw[ek]at n1 ⊢;exact hvlow n1
  .rw[Q1 j b' h]at n1 ⊢;obtain⟨c',h',_⟩:=key j b' h;have:=r.low j c' h' n1;omega
 .intro k Z OL;have hkey:∀j c,dF H j=some c->(O j).nil=false->(O j).g≠k:=fun j c h nj=>by
   have hj:dF H1 j=some (if j=id then .dead else c):=by rw[hH];split<;>simp[h]
   have:=OL j _ (by rw[dN,aK (Ne.symm (Oo j _ hj))];exact hj) (by rw[Q1 j _ hj];exact nj)
   rwa [Q1 j _ hj]at this
  rw[old k (by have:=r.size;omega) (fun h e=>hkey id b0 Pk h e.symm)];exact r.Ad k Z hkey
 .intro lo R hm j b' h n1;rw[dN]at h;split at h
  .rename_i e;subst e;rw[ek]at n1 ⊢;rcases hv n1 with h3|⟨h3,h4⟩
   .have:=r.nG lo R hm;have:=r.size;omega
   .rw[h4];exact r.ix lo R hm id b0 Pk h3
  .rw[Q1 j b' h]at n1 ⊢;obtain⟨c',h',_⟩:=key j b' h;exact r.ix lo R hm j c' h' n1
section
variable{P:Program}{τ:lO}{B n nx:Nat}{l:Env}{H:Hp}{iv:Iv}{w J:World}{O:Nat->dc}{a:Act}
theorem sn(sat:Sat n l H nx iv B w O a J){x:Operand}{v:SV}(h:ev l x=some v):a.eval x=v.den O/\v.sc nx:=by
 cases x with
 |tmp t=>
  have W:=sat.env t v h;exact⟨by simp[Act.eval,W],sat.sc t v h⟩
 |const c=>simp[ev]at h;subst h;exact⟨rfl,trivial⟩
 |global g=>simp[ev]at h;subst h;exact⟨rfl,trivial⟩
 |func f=>simp[ev]at h;subst h;exact⟨rfl,trivial⟩
theorem dT(sat:Sat n l H nx iv B w O a J){x:Operand}{k:SV->Prop}(h:pQ l x k):∃v,k v/\a.eval x=v.den O/\v.sc nx:=by
 unfold pQ at h;split at h
 .rename_i v hv;exact⟨v,h,sn sat hv⟩
 .exact h.elim
theorem rG(sat:Sat n l H nx iv B w O a J):∀{xs:List Operand} {k:List SV->Prop},H6 l xs k->∃vs,k vs/\xs.map a.eval=vs.map (SV.den O)/\∀v∈vs,SV.sc nx v
 |[],k,h=>⟨[],h,rfl,ce⟩
 |x::r,k,h=>by
  unfold H6 at h;split at h
  .rename_i v hv;obtain⟨vs,W,I,h3⟩:=rG sat (xs:=r) h;have:=sn sat hv;exact⟨v::vs,W,by simp[this.1,I],by simp;exact⟨this.2,h3⟩⟩
  .exact h.elim
theorem k9{o:Oper}{a:Act}{w:World}{v:Value}(h:(execOp a.eval o).run P w= .ok (.value v) F)(Z:next (a.put o.dst v) F):o.wp P a w next Q:=by
 unfold Oper.wp;rw[h];exact Z
theorem Hh{o:Oper}{a:Act}{w:World}(h:(execOp a.eval o).run P w= .ok .skip F)(Z:next (a.put o.dst undef) F):o.wp P a w next Q:=by
 unfold Oper.wp;rw[h];exact Z
theorem km{s:Sem Value}{w:World}{v:Value}(h:s.run P w= .ok v F):((do pure (.value (<-s))):Sem Next).run P w= .ok (.value v) F:=by
 simp[h]
theorem Db.isAgg{t:Nat}{i:TI}(h:Db P t i)(w:World):(isAgg t).run P w= .ok i.agg w:=by
 obtain⟨d,W,I⟩:=h.agg;unfold Go.isAgg;rw[Sem.run_bind,run_underlying W w,<-I]
 cases d<;>rfl
theorem Db.sizeOf{t:Nat}{i:TI}(h:Db P t i)(w:World):(sizeOf t).run P w= .ok i.size w:=by
 obtain⟨inf,z,W,I,_⟩:=h.info;simp[Go.sizeOf,typeInfo,W,I]
theorem Db.zeroV{t:Nat}{i:TI}(h:Db P t i)(w:World):∃z,(zeroValue t).run P w= .ok z w/\z.cells.toList=i.zero:=by
 obtain⟨inf,z,W,I,_,h4,h5⟩:=h.info;exact⟨z,by simp[zeroValue,typeInfo,W,h4],h5⟩
theorem lH{t:Nat}{i:TI}(ht:Db P t i)(hagg:i.agg=false){w:World}{x:Value}(hc:w.cell? ad=some x):
  (Instr.loadAt t (.pointer (some ad))).run P w= .ok x w:=by
 simp[Instr.loadAt,Instr.sureAddr,loadVar,ht.isAgg,hagg,hc]
theorem jb{t:Nat}{i:TI}(ht:Db P t i)(hagg:i.agg=true){w:World}(hl:xs.length=i.size)(hc:∀j v,xs[j]? =some v->w.cell? (ad.add j)=some v):
  (Instr.loadAt t (.pointer (some ad))).run P w= .ok (.agg xs.toArray) w:=by
 have:=run_loadCells_list (P:=P) w ad xs hc;rw[hl]at this;simp[Instr.loadAt,Instr.sureAddr,loadVar,ht.isAgg,hagg,ht.sizeOf,this]
theorem cd(g off j:Nat):(⟨g,off,none⟩:Addr).add j=⟨g,off+j,none⟩:=by
 unfold Addr.add;split<;>simp_all
theorem tz:∀{cs:List At} {i:Nat},Ai cs i=cs[i]?
 |[],i=>by simp[Ai]
 |x::r,0=>by simp[Ai]
 |x::r,i+1=>by simp[Ai,tz (cs:=r)]
theorem zh:∀{cs:List Value} {i:Nat},GC cs i=cs[i]?
 |[],i=>by simp[GC]
 |x::r,0=>by simp[GC]
 |x::r,i+1=>by simp[GC,zh (cs:=r)]
theorem zi:∀{cs:List (Nat×Nat)} {i:Nat},GD cs i=cs[i]?
 |[],i=>by simp[GD]
 |x::r,0=>by simp[GD]
 |x::r,i+1=>by simp[GD,zi (cs:=r)]
theorem cell_of{w:World}{g t:Nat}(h:w.heap[g]? =some (.cells cs.toArray t (0,0))):w.cell? ⟨g,off,none⟩=cs[off]? :=by
 rw[cell_of_row w g off _ t (0,0) h];simp
theorem fN{O:Nat->dc}:(xs.map At.v).map (At.den O)=xs:=by
 simp[Function.comp_def,At.den]
theorem l9(hτ:en P τ)(rel0:Rel H nx iv B w O J){t:Nat}{addr:SV}(hs:addr.sc nx){Fn:SV->Prop}(h:xM τ B t addr H nx iv w Fn):
  ∃r,Fn r/\r.sc nx/\∀J,Rel H nx iv B w O J->(Instr.loadAt t (addr.den O)).run P J= .ok (r.den O) J:=by
 unfold xM at h;split at h
 .exact h.elim
 .rename_i sz ag by_ ze tag ik e al fs QT;have ht:=hτ t _ QT;split at h
  .rename_i id off;split at h
   .rename_i bt cs hH;split at h
    .split at h
     .rename_i x E;rw[tz]at E;refine⟨_,h,rel0.JS id bt cs hH x (aG E),fun J rel=>?_⟩;have N:=rel.box id bt cs hH;exact lH ht rfl (by rw[cell_of N];simp[E,SV.den])
     .exact h.elim
    .have W:=oC h;have I:=oD W.1;refine⟨_,I.1,fun c hc=>rel0.JS id bt cs hH c (List.mem_of_mem_drop (List.mem_of_mem_take hc)),fun J rel=>?_⟩;have N:=rel.box id bt cs hH;refine jb ht rfl (xs:=((cs.drop off).take sz).map (At.den O)) ?_ fun j v hv=>?_
     .have:=I.2;simp only[aJ,bL];omega
     .rw[cd,cell_of N];simp only[aS,List.getElem?_take,bo]at hv ⊢;split at hv
      .exact hv
      .simp at hv
   .rename_i bt cs hH;split at h
    .obtain⟨x,E,h⟩:=h;exact⟨_,h,trivial,fun J rel=>lH ht rfl (by rw[cell_of (rel.arr id bt cs hH),E];rfl)⟩
    .obtain⟨xs,E,hl,h⟩:=h;refine⟨_,fO h,fun c hc=>by simp at hc;obtain⟨v,_,rfl⟩:=hc;trivial,fun J rel=>?_⟩;have N:=rel.arr id bt cs hH;simp only[SV.den,fN]
     refine jb ht rfl hl fun j v hv=>?_;rw[cd,cell_of N];rw[<-E]at hv;simp only[List.getElem?_take,bo]at hv;split at hv
     .exact hv
     .simp at hv
   .rename_i bt ez cs hH;split at h
    .obtain⟨x,E,h⟩:=h;refine⟨_,h,trivial,fun J rel=>?_⟩;have N:=rel.vec id bt ez cs hH;rcases N with⟨_,rfl⟩|⟨U,spare,N,_⟩
     .simp at E
     .refine lH ht rfl ?_;rw[cell_of N];have:off<cs.length:=(aH.1 E).1;rw[aQ this,E];rfl
    .obtain⟨xs,E,hl,h⟩:=h;refine⟨_,fO h,fun c hc=>by simp at hc;obtain⟨v,_,rfl⟩:=hc;trivial,fun J rel=>?_⟩;have N:=rel.vec id bt ez cs hH;simp only[SV.den,fN]
     rcases N with⟨_,rfl⟩|⟨U,spare,N,_⟩
     .have:xs=[]:=by rw[<-E];simp
      subst this;refine jb ht rfl hl fun j v hv=>by simp at hv
     .refine jb ht rfl hl fun j v hv=>?_;rw[cd,cell_of N];rw[<-E]at hv;simp only[List.getElem?_take,bo]at hv;split at hv
      .rw[aQ (aH.1 hv).1];exact hv
      .simp at hv
   .exact h.elim
  .rename_i ad;split at h
   .obtain⟨x,E,h⟩:=h;exact⟨_,h,trivial,fun J rel=>lH ht rfl (E O J rel)⟩
   .obtain⟨xs,hl,E,h⟩:=h;refine⟨_,fO h,fun c hc=>by simp at hc;obtain⟨v,_,rfl⟩:=hc;trivial,fun J rel=>?_⟩;simp only[SV.den,fN]
    exact jb ht rfl hl fun j v hv=>E O J rel j v hv
  .exact h.elim
theorem ml{t:Nat}{i:TI}(ht:Db P t i){w:World}{g bt:Nat}(N:w.heap[g]? =some (.cells old.toArray bt (0,0))){v:Value}
  (hv:v.cells=new.toArray) (hl:new.length=i.size) (W:∀x∈new,x.oneCell'=true) (Pg:off+new.length<=old.length):
  (Instr.storeAt t (.pointer (some ⟨g,off,none⟩)) v).run P w= .ok () (w.setRow g (old.take off++new++old.drop (off+new.length)).toArray):=by
 have:=run_storeCells_at (P:=P) g off bt new 0 old.toArray w N (by simpa using Pg) W;simp only[cH]at this;simp[Instr.storeAt,Instr.sureAddr,storeVar,ht.sizeOf,hv,hl,this]
theorem iS:∀(vs:List Value) (w:World) (b off:Nat),setCells w ⟨b,off,none⟩ vs=w.setCells b off vs
 |[],_,_,_=>rfl
 |x::r,w,b,off=>by
  simp only[setCells,World.setCells,cd]
  exact iS r _ b (off+1)
theorem CC(hτ:en P τ)(sat:Sat n l H nx iv B w O a J){t:Nat}{addr x:SV}(hs:addr.sc nx)(E:x.sc nx){Fn:Hp->World->Prop}(h:De τ B t addr x H nx iv w Fn):
  ∃H' F w3,Fn H' F/\Rel H' nx iv B F O w3/\(Instr.storeAt t (addr.den O) (x.den O)).run P J= .ok () w3:=by
 unfold De at h;split at h
 .exact h.elim
 rename_i sz ag by_ ze tag ik e al fs QT;have ht:=hτ t _ QT;have rel:=sat.rel;have h0:=mQ h;clear h;obtain⟨new,h00,Oy,Re⟩:=h0;have h0:=xO h00;clear h00;obtain⟨h,RQ⟩:=h0;split at h
 .exact h.elim
 rename_i hlen;have hlen:=eJ hlen;have OY:=Oy O;have Re:=Re nx E;have W:∀v∈new.map (At.den O),v.oneCell'=true:=by
  intro v hv;simp at hv;obtain⟨c,hc,rfl⟩:=hv;exact one_den (RQ c hc) O
 have PE:(new.map (At.den O)).length=sz:=by simpa using hlen
 split at h
 .rename_i id off;split at h
  .rename_i bt cs hH;have N:=rel.box id bt cs hH;obtain⟨hr,Pg⟩:=oE h;obtain⟨H',hK,hH',_⟩:=rI hr;refine⟨H',w,_,hK,?_,ml ht (old:=cs.map (At.den O)) N OY PE W (by simp;omega)⟩;refine rel.store hH ce (rel.nn id _ hH (by intros;simp) ce) hH' rfl rfl rfl ce (fun k Z=>setRow_other _ _ _ _ Z) ⟨rel.nn id _ hH (by intros;simp) ce,?_⟩ ?_
   .rw[setRow_heap _ _ _ _ _ _ N];simp[List.map_drop,List.map_take]
   .intro c hc;simp only[bY]at hc;rcases hc with(hc|hc)|hc
    .exact rel.JS id bt cs hH c (List.mem_of_mem_take hc)
    .exact Re c hc
    .exact rel.JS id bt cs hH c (List.mem_of_mem_drop hc)
  .rename_i bt cs hH;have N:=rel.arr id bt cs hH;obtain⟨nv,hr,RY,UW⟩:=lQ h;obtain⟨Pg,cs',VL,hr⟩:=hr;obtain⟨H',hK,hH',_⟩:=rI hr;have SK:nv.length=sz:=by rw[RY]at hlen;simpa using hlen
   have QP:(x.den O).cells=nv.toArray:=by rw[OY,RY,fN]
   refine⟨H',w,_,hK,?_,ml ht N QP SK UW be⟩;refine rel.store hH ce (rel.nn id _ hH (by intros;simp) ce) hH' rfl rfl rfl ce (fun k Z=>setRow_other _ _ _ _ Z) ⟨rel.nn id _ hH (by intros;simp) ce,?_⟩ trivial;rw[setRow_heap _ _ _ _ _ _ N,SK,VL]
  .rename_i bt ez cs hH;have N:=rel.vec id bt ez cs hH;obtain⟨nv,hr,RY,UW⟩:=lQ h;obtain⟨Pg,cs',VL,hr⟩:=hr;obtain⟨H',hK,hH',_⟩:=rI hr;have SK:nv.length=sz:=by rw[RY]at hlen;simpa using hlen
   have QP:(x.den O).cells=nv.toArray:=by rw[OY,RY,fN]
   rcases N with⟨OW,rfl⟩|⟨U,spare,N,Sv,Pu⟩
   ·
    have h0:sz=0:=by simp at Pg;omega
    have hnv0:nv=[]:=by cases nv with|nil=>rfl|cons _ _=>simp at SK;omega
    subst hnv0;have:cs'=[]:=by rw[<-VL];simp
    subst this;refine⟨H',w,J,hK,?_,?_⟩
    .have XL:∀j,dF H' j=dF H j:=fun j=>by rw[hH'];split<;>simp_all
     exact Rel.mk' rel.os rel.tape rel.output rel.size rel.base rel.nG (fun id b h=>rel.keys id b (by rw[<-XL];exact h)) (fun id b h=>rel.fits (by rw[<-XL];exact h)) (fun id b h=>rel.scopd (by rw[<-XL];exact h))
      (fun i j b b' W I=>rel.inj i j b b' (by rw[<-XL];exact W) (by rw[<-XL];exact I)) (fun id b h=>rel.low id b (by rw[<-XL];exact h))
      (fun k Z OL=>rel.Ad k Z fun id b h=>OL id b (by rw[XL];exact h)) (fun lo R hm id b h=>rel.ix lo R hm id b (by rw[<-XL];exact h))
    .subst h0;show(Instr.storeAt t (.pointer (some ⟨(O id).g,off,none⟩)) (x.den O)).run P J=_;generalize x.den O=xv at QP ⊢;simp[Instr.storeAt,Instr.sureAddr,storeVar,ht.sizeOf,QP,storeCells]
   .refine⟨H',w,_,hK,?_,ml ht N QP SK UW (by simp;omega)⟩;refine rel.store hH ce U hH' rfl rfl rfl ce (fun k Z=>setRow_other _ _ _ _ Z) (.inr ⟨U,spare,?_,?_,Pu⟩) trivial
    .rw[setRow_heap _ _ _ _ _ _ N,<-VL,SK];congr 2;rw[List.take_append_of_le_length be,List.drop_append_of_le_length be];simp
    .rw[<-Sv,<-VL];simp;omega
  .exact h.elim
 .rename_i ad;obtain⟨nv,hr,RY,UW⟩:=lQ h;obtain⟨XM,OV,OL,hK⟩:=hr O J rel;have SK:nv.length=sz:=by rw[RY]at hlen;simpa using hlen
  have QP:(x.den O).cells=nv.toArray:=by rw[OY,RY,fN]
  obtain⟨b,off,spot⟩:=ad;simp only at XM OL;subst XM;have Pr:=run_storeCells_cells (P:=P) b off nv 0 J (fun j hj=>by have:=(OV j be).1;rwa [cd]at this) (fun j hj=>by have:=(OV j be).2;rwa [cd]at this) UW;have Pm:∀k,k≠b->(J.setCells b off nv).heap[k]? =J.heap[k]? :=by
   intro k Z;clear Pr OV h hr hK RY UW QP SK
   induction nv generalizing J off with
   |nil=>rfl
   |cons v r ih=>
    simp only[World.setCells]
    rw[show (∀(w0:World) (o:Nat),(w0.setCells b o r).heap[k]? =w0.heap[k]?)from ?_]
    .simp[World.setCell,Array.getElem?_modify,Ne.symm Z]
    .clear ih;intro w0 o
     induction r generalizing w0 o with
     |nil=>rfl
     |cons v r ih=>simp only[World.setCells];rw[ih];simp[World.setCell,Array.getElem?_modify,Ne.symm Z]
  have hfrm:(J.setCells b off nv).os=J.os/\(J.setCells b off nv).tape=J.tape/\(J.setCells b off nv).output=J.output/\(J.setCells b off nv).heap.size=J.heap.size:=by
   have:∀(vs:List Value) (w0:World) (o:Nat),(w0.setCells b o vs).os=w0.os/\(w0.setCells b o vs).tape=w0.tape/\(w0.setCells b o vs).output=w0.output/\(w0.setCells b o vs).heap.size=w0.heap.size:=by
    intro vs
    induction vs with
    |nil=>intro w0 o;exact⟨rfl,rfl,rfl,rfl⟩
    |cons v r ih=>intro w0 o;simp only[World.setCells];obtain⟨W,I,h3,h4⟩:=ih (w0.setCell ⟨b,o,none⟩ v) (o+1);exact⟨W,I,h3,by rw[h4];simp⟩
   exact this nv J off
  refine⟨H,_,J.setCells b off nv,hK _ rfl,?_,?_⟩
  .rw[iS];refine Rel.mk' rfl rfl rfl (ae _) (by rw[hfrm.2.2.2];have:=rel.base;have:=rel.size;omega) (fun lo R hm=>by rw[hfrm.2.2.2];have:=rel.nG lo R hm;have:=rel.size;omega) rel.keys
    (fun id b' h=>jL.gV (rel.fits h) (fun _ _=>rfl) (rel.scopd h) (fun OW _=>Pm _ (OL id b' h OW))) (fun id b' h=>rel.scopd h) rel.inj (fun id b' h OW=>by rw[hfrm.2.2.2];exact rel.low id b' h OW) (fun _ _ _=>rfl) rel.ix
  .show(Instr.storeAt t (.pointer (some ⟨b,off,none⟩)) (x.den O)).run P J=_;generalize x.den O=xv at QP ⊢;simp at Pr;simp[Instr.storeAt,Instr.sureAddr,storeVar,ht.sizeOf,QP,SK,Pr]
 .exact h.elim
end
theorem Di(new:List Value):∀(k off:Nat) (cs:Array Value),off+k+new.length<=cs.size->
  ((new.zipIdx k).foldl (fun cs (c,j)=>cs.setIfInBounds (off+j) c) cs).toList=cs.toList.take (off+k)++new++cs.toList.drop (off+k+new.length):=by
 induction new with
 |nil=>intro k off cs _;simp
 |cons x r ih=>
  intro k off cs h;simp only[bZ]at h;rw[List.zipIdx_cons,List.foldl_cons,ih (k+1) off _ (by simp;omega)];have I:=list_seg_step cs.toList (off+k) x r (by simp;omega);simp only[Array.toList_setIfInBounds,bZ]at I ⊢;rw[show off+(k+1)=off+k+1 by omega];exact I
theorem GI{i:Nat}{v:Value}(hp:place i=some (off,size))
  (hv:v.cells=new.toArray) (hl:new.length=size) (Pg:off+new.length<=cells.size):
  Instr.fill place cells ((i,v)::rest)=Instr.fill place (cells.toList.take off++new++cells.toList.drop (off+new.length)).toArray rest:=by
 have h:=Di new 0 off cells be;have e:(v.cells.zipIdx.foldl (fun cs (x:Value×Nat)=>cs.setIfInBounds (off+x.2) x.1) cells)=(cells.toList.take off++new++cells.toList.drop (off+new.length)).toArray:=by
  rw[hv,<-Array.foldl_toList];apply Array.ext';simpa using h
 conv=>lhs;unfold Instr.fill
 simp only[hp,hv,List.size_toArray,hl]
 rw[aK (by simp;omega)];rw[hv]at e;rw[<-hl,<-e]
section
variable{P:Program}{τ:lO}{B n nx:Nat}{l:Env}{H:Hp}{iv:Iv}{w J:World}{O:Nat->dc}{a:Act}
theorem kM(sat:Sat n l H nx iv B w O a J){place:Nat->(Nat->Nat->Prop)->Prop}{placeF:Nat->Option (Nat×Nat)}
  (hp:∀i k,place i k->∃off size,k off size/\placeF i=some (off,size)):∀{parts:List (Nat×Operand)} {cs:List At} {k:List At->Prop},
  tx l place parts cs k->(∀c∈cs,At.sc nx c)->∃cs',k cs'/\(∀c∈cs',At.sc nx c)/\cs'.length=cs.length/\
   Instr.fill placeF (cs.map (At.den O)).toArray (parts.map fun p=>(p.1,a.eval p.2))=some (cs'.map (At.den O)).toArray
 |[],cs,k,h,hs=>⟨cs,h,hs,rfl,by simp[Instr.fill]⟩
 |(i,x)::r,cs,k,h,hs=>by
  unfold tx at h;obtain⟨off,size,W,Oq⟩:=hp i _ h;obtain⟨v,I,hv,QF⟩:=dT sat W;obtain⟨new,h3,Oy,Re⟩:=mQ I;split at h3
  .rename_i hlen;have hlen:=eJ hlen;obtain⟨h4,Pg⟩:=oE h3
   obtain⟨cs',h5,h6,h7,h8⟩:=kM sat hp h4 (by
    intro c hc;simp only[bY]at hc;rcases hc with(hc|hc)|hc
    .exact hs c (List.mem_of_mem_take hc)
    .exact Re nx QF c hc
    .exact hs c (List.mem_of_mem_drop hc))
   refine⟨cs',h5,h6,by rw[h7];simp;omega,?_⟩;have hc:=Oy O;rw[List.map_cons,GI (new:=new.map (At.den O)) Oq (by show(a.eval x).cells=_;rw[hv];exact hc) (by simpa using hlen) (by simpa using Pg),<-h8];simp[List.map_drop,List.map_take]
  .exact h3.elim
theorem mm(hτ:en P τ){f:Nat}{k:Nat->Nat->Bool->Prop}(h:pX τ fs f k):
  ∃off ft fi,k off fi.size fi.agg/\fs[f]? =some (off,ft)/\Db P ft fi/\fi.size≠0:=by
 unfold pX at h;split at h
 .rename_i off ft hf;rw[zi]at hf;split at h
  .rename_i sz ag by_ ze tag ik e al fs' QT;split at h
   .exact h.elim
   .rename_i Od;exact⟨off,ft,_,h,hf,hτ ft _ QT,fun e=>by simp at e;subst e;simp at Od⟩
  .exact h.elim
 .exact h.elim
theorem xP{t:Nat}{i:TI}(h:Db P t i)(h5:i.tag=5){f ft:Nat}(hf:i.fields[f]? =some (off,ft)):
  ∃fs fd,P.underlying t=some (.struct fs)/\fs[f]? =some fd/\fd.offset=off/\fd.type=ft:=by
 obtain⟨fs,W,I,_⟩:=h.i5 h5;rw[<-I]at hf;simp only[aS,Option.map_eq_some_iff]at hf;obtain⟨fd,Pb,G⟩:=hf;injection G with e1 e2;exact⟨fs,fd,W,by simpa using Pb,e1,e2⟩
theorem CD{t:Nat}{i:TI}(h:Db P t i)(h5:i.tag=5){f ft:Nat}{fi:TI}(hf:i.fields[f]? =some (off,ft))(VM:Db P ft fi)(Od:fi.size≠0)(ad:Addr)(w:World):
  (Instr.fieldAt t (.pointer (some ad)) f).run P w= .ok (.pointer (some (ad.add off))) w:=by
 obtain⟨fs,fd,W,I,rfl,rfl⟩:=xP h h5 hf;simp[Instr.fieldAt,run_underlying W,I,Instr.sureAddr,fieldPlace,VM.sizeOf,Od]
theorem so{x:SV}{Fn:SV->Prop}(h:wQ x m Fn)(E:x.sc nx):∃r ad,Fn r/\r.sc nx/\x.den O= .pointer (some ad)/\r.den O= .pointer (some (ad.add m)):=by
 unfold wQ at h;split at h
 .rename_i id off;exact⟨_,⟨(O id).g,off,none⟩,h,E,rfl,by simp[SV.den,At.den,cd]⟩
 .rename_i ad;exact⟨_,ad,h,trivial,rfl,rfl⟩
 .exact h.elim
theorem uA(rel:Rel H nx iv B w O J){Fn:Prop}(h:GG H id m Fn):Fn/\((O id).nil=true->m=0):=by
 unfold GG at h;split at h
 .rename_i t sz cs hH;split at h
  .exact h.elim
  .rename_i k;refine⟨h.2,fun U=>?_⟩;have W:=h.1;rcases rel.vec id t (k+1) cs hH with⟨_,rfl⟩|⟨I,_⟩
   .have h4:m*(k+1)=0:=by simpa using W.symm
    rcases Nat.mul_eq_zero.1 h4 with h5|h5
    .exact h5
    .omega
   .rw[U]at I;cases I
 .exact h.elim
theorem GJ(hτ:en P τ){t ty:Nat}{x:SV}(h:Kr τ H t x Fn)(rel:Rel H nx iv B w O J):
  ∃r,Fn r/\∀J,(Builtin.len_ #[t] ty #[x.den O]).run P J= .ok (.int .i64 r) J:=by
 unfold Kr at h;split at h
 .exact h.elim
 rename_i sz ag by_ ze tag ik e al fs QT;have ht:=hτ t _ QT;split at h
 .rename_i Oh;have hu:=ht.i4 (eJ Oh);split at h
  .exact⟨_,h,fun J=>by simp[Builtin.len_,run_underlying hu,SV.den,At.den,goInt]⟩
  .exact⟨_,h,fun J=>by simp[Builtin.len_,run_underlying hu,SV.den,At.den,goInt]⟩
  .rename_i id m;have W:=uA rel h;refine⟨_,W.1,fun J=>?_⟩
   cases U:(O id).nil
   .simp[Builtin.len_,run_underlying hu,SV.den,At.den,goInt,U]
   .have:=W.2 U;subst this;simp[Builtin.len_,run_underlying hu,SV.den,At.den,goInt,U]
  .exact h.elim
 .split at h
  .rename_i Oh;have hu:=ht.i3 (eJ Oh);split at h
   .exact⟨_,h,fun J=>by simp[Builtin.len_,run_underlying hu,SV.den,At.den,goInt]⟩
   .exact h.elim
  .split at h
   .rename_i Oh;have hu:=ht.i6 (eJ Oh);exact⟨_,h,fun J=>by simp[Builtin.len_,run_underlying hu,goInt]⟩
   .exact h.elim
theorem CE(hτ:en P τ){t:Nat}{x i:SV}{Fn:SV->Prop}(h:Df τ H t x i Fn)(E:x.sc nx)(rel:Rel H nx iv B w O J):
  ∃r,Fn r/\r.sc nx/\∀J,(Instr.indexAt t (x.den O) (i.den O)).run P J= .ok (r.den O) J:=by
 unfold Df at h;split at h
 .rename_i kd i;split at h
  .rename_i sz ag by_ ze tag ik e al fs QT;have ht:=hτ t _ QT;split at h
   .rename_i sz' ag' by' ze' tag' ik' e' al' fs' PI
    have PI:=hτ e _ PI;split at h
    .rename_i Oh;have hu:=ht.i4 (eJ Oh);simp only at hu;split at h
     .rename_i id off m c;obtain⟨N,h⟩:=h;exact⟨_,h,E,fun J=>by simp[Instr.indexAt,run_underlying hu,asIntOf,SV.den,At.den,N,PI.sizeOf,cd]⟩
     .rename_i id m;obtain⟨⟨N,W⟩,I⟩:=uA rel h;refine⟨_,W,E,fun J=>?_⟩
      cases U:(O id).nil
      .simp[Instr.indexAt,run_underlying hu,asIntOf,SV.den,At.den,N,PI.sizeOf,cd,U]
      .have:=I U;omega
     .rename_i a0 m c;obtain⟨ad,rfl,N,h⟩:=h;exact⟨_,h,trivial,fun J=>by simp[Instr.indexAt,run_underlying hu,asIntOf,SV.den,At.den,N,PI.sizeOf]⟩
     .exact h.elim
    .split at h
     .rename_i Oh;have hu:=ht.i6 (eJ Oh);simp only at hu;obtain⟨N,h⟩:=h;obtain⟨r,ad,W,I,h3,h4⟩:=so (O:=O) h E;refine⟨r,W,I,fun J=>?_⟩;rw[h3,h4];simp[Instr.indexAt,run_underlying hu,asIntOf,SV.den,At.den,Instr.sureAddr,N,PI.sizeOf]
     .exact h.elim
   .exact h.elim
  .exact h.elim
 .exact h.elim
theorem jN(sat:Sat n l H nx iv B w O a J){x:Option Operand}{d:Int}(h:H3 l x d Fn):∃i,Fn i/\((x=none/\i=d)\/∃o k,x=some o/\a.eval o= .int k i):=by
 unfold H3 at h;split at h
 .exact⟨d,h,.inl ⟨rfl,rfl⟩⟩
 .obtain⟨v,W,I,h3⟩:=dT sat h;clear h3;split at W
  .rename_i k i;exact⟨i,W,.inr ⟨_,k,rfl,I⟩⟩
  .exact W.elim
theorem oG{len cap:Nat}{i j:Int}(Rg:(lo=none/\i=0)\/∃o k,lo=some o/\a.eval o= .int k i)(Tj:(R=none/\j=len)\/∃o k,R=some o/\a.eval o= .int k j)
  (h0:0<=i) (W:i<=j) (I:j<=cap):(Instr.sliceBounds true len cap (lo.map a.eval) (R.map a.eval) none).run P J= .ok (i.toNat,j.toNat,cap) J:=by
 rcases Rg with⟨rfl,rfl⟩|⟨o,k,rfl,ho⟩<;>rcases Tj with⟨rfl,rfl⟩|⟨o',k',rfl,SY⟩
 .simp[Instr.sliceBounds]
 .have h1':0<=j:=by omega
  simp[Instr.sliceBounds,Instr.sliceBound,SY,asIntOf,h1',I]
 .have:i<=(len:Int):=W;simp[Instr.sliceBounds,Instr.sliceBound,ho,asIntOf,h0,this]
 .have h1':0<=j:=by omega
  have h3:i<=((j.toNat:Nat):Int):=by omega
  have h3':i<=max j 0:=by omega
  simp[Instr.sliceBounds,Instr.sliceBound,ho,SY,asIntOf,h1',I,h0,h3']
theorem CF{len cap:Nat}{i j:Int}(Rg:(lo=none/\i=0)\/∃o k,lo=some o/\a.eval o= .int k i)(Tj:(R=none/\j=len)\/∃o k,R=some o/\a.eval o= .int k j)
  (h0:0<=i) (W:i<=j) (I:j<=cap):(Instr.sliceBounds false len cap (lo.map a.eval) (R.map a.eval) none).run P J= .ok (i.toNat,j.toNat,cap) J:=by
 rcases Rg with⟨rfl,rfl⟩|⟨o,k,rfl,ho⟩<;>rcases Tj with⟨rfl,rfl⟩|⟨o',k',rfl,SY⟩
 .simp[Instr.sliceBounds]
 .have h1':0<=j:=by omega
  simp[Instr.sliceBounds,Instr.sliceBound,SY,asIntOf,h1',I]
 .have:i<=(len:Int):=W;simp[Instr.sliceBounds,Instr.sliceBound,ho,asIntOf,h0,this]
 .have h1':0<=j:=by omega
  have h3:i<=((j.toNat:Nat):Int):=by omega
  have h3':i<=max j 0:=by omega
  simp[Instr.sliceBounds,Instr.sliceBound,ho,SY,asIntOf,h1',I,h0,h3']
theorem Am(hτ:en P τ)(sat:Sat n l H nx iv B w O a J){t:Nat}{x:SV}{lo R mx:Operand}{Fn:SV->Prop}(h:Aj τ t x l lo R mx Fn):
  ∃r,Fn r/\r.sc nx/\∀J,(Instr.sliceAt t (x.den O) (some (a.eval lo)) (some (a.eval R)) (some (a.eval mx))).run P J= .ok (r.den O) J:=by
 unfold Aj at h;split at h
 .rename_i sz ag by_ ze tag ik e al fs QT;have ht:=hτ t _ QT;split at h
  .rename_i Oh;have hu:=ht.i4 (eJ Oh);simp only at hu;split at h
   .rename_i sz' ag' by' ze' tag' ik' e' al' fs' PI
    have PI:=hτ e _ PI;split at h
    .rename_i ad m c;obtain⟨i,W,Rg⟩:=jN sat h;obtain⟨j,I,Tj⟩:=jN sat W;obtain⟨k,h3,VN⟩:=jN sat I;obtain⟨o1,k1,e1,g1⟩:=Rg.resolve_left fun h=>by cases h.1
     obtain⟨o2,k2,e2,g2⟩:=Tj.resolve_left fun h=>by cases h.1
     obtain⟨o3,k3,e3,g3⟩:=VN.resolve_left fun h=>by cases h.1
     injection e1 with e1;injection e2 with e2;injection e3 with e3;subst e1 e2 e3;obtain⟨⟨b0,b1,b2,b3⟩,ad',n',c',e4,rfl,rfl,h4⟩:=h3;refine⟨_,h4,trivial,fun J=>?_⟩;subst e4;have q1:0<=k:=by omega
     have q2:0<=j:=by omega
     have q3:j<=((k.toNat:Nat):Int):=by omega
     have q4:i<=((j.toNat:Nat):Int):=by omega
     have N:(Instr.sliceBounds true m c (some (a.eval lo)) (some (a.eval R)) (some (a.eval mx))).run P J= .ok (i.toNat,j.toNat,k.toNat) J:=by
      simp only[Instr.sliceBounds,Instr.sliceBound,g1,g2,g3,asIntOf]
      have p1:(0<=k/\k<=(c:Int)):=⟨q1,b3⟩
      have p2:(0<=j/\j<=((k.toNat:Nat):Int)):=⟨q2,q3⟩
      have p3:(0<=i/\i<=((j.toNat:Nat):Int)):=⟨b0,q4⟩
      have p4:j<=max k 0:=by omega
      have p5:i<=max j 0:=by omega
      simp[p1.1,p1.2,p2.1,p3.1,p4,p5]
     simp[Instr.sliceAt,Instr.slice,run_underlying hu,SV.den,At.den,N,PI.sizeOf];by_cases hc:k=i
     .rw[aM hc,aM be]
     .rw[aK hc,aK be]
    .exact h.elim
   .exact h.elim
  .exact h.elim
 .exact h.elim
theorem CG(hτ:en P τ)(sat:Sat n l H nx iv B w O a J){t:Nat}{x:SV}{Fn:SV->Prop}(h:Dh τ H t x l lo R Fn)(E:x.sc nx):
  ∃r,Fn r/\r.sc nx/\∀J,(Instr.sliceAt t (x.den O) (lo.map a.eval) (R.map a.eval) none).run P J= .ok (r.den O) J:=by
 unfold Dh at h;split at h
 .rename_i sz ag by_ ze tag ik e al fs QT;have ht:=hτ t _ QT;split at h
  .rename_i Oh;have hu:=ht.i4 (eJ Oh);simp only at hu;split at h
   .rename_i sz' ag' by' ze' tag' ik' e' al' fs' PI
    have PI:=hτ e _ PI;split at h
    .rename_i id off m c;obtain⟨i,W,Rg⟩:=jN sat h;obtain⟨j,I,Tj⟩:=jN sat W;obtain⟨⟨b0,b1,b2⟩,off',n',c',e1,rfl,rfl,h3⟩:=I;refine⟨_,h3,E,fun J=>?_⟩;have N:=oG (P:=P) (J:=J) Rg Tj b0 b1 b2;subst e1;simp[Instr.sliceAt,Instr.slice,run_underlying hu,SV.den,At.den,N,PI.sizeOf];by_cases hc:c=i.toNat
     .rw[aM hc,aM be]
     .rw[aK hc,aK be];simp[cd]
    .rename_i ad m c;obtain⟨i,W,Rg⟩:=jN sat h;obtain⟨j,I,Tj⟩:=jN sat W;obtain⟨⟨b0,b1,b2⟩,off',n',c',e1,rfl,rfl,h3⟩:=I;refine⟨_,h3,trivial,fun J=>?_⟩;have N:=oG (P:=P) (J:=J) Rg Tj b0 b1 b2;subst e1;simp[Instr.sliceAt,Instr.slice,run_underlying hu,SV.den,At.den,N,PI.sizeOf];by_cases hc:c=i.toNat
     .rw[aM hc,aM be]
     .rw[aK hc,aK be]
    .rename_i id m;split at h
     .obtain⟨W,OW⟩:=uA sat.rel h;obtain⟨j,I,Tj⟩:=jN sat W;obtain⟨⟨b0,b1⟩,m',rfl,h3⟩:=I;refine⟨_,h3,E,fun J=>?_⟩;have Pu:(O id).nil=false->m<=(O id).cap:=fun U=>by
       unfold GG at h;split at h
       .rename_i t' sz' cs' hH;split at h
        .exact h.elim
        .rename_i k;rcases sat.rel.vec id t' (k+1) cs' hH with⟨h5,_⟩|⟨_,spare,_,h6,_⟩
         .rw[U]at h5;cases h5
         .have h7:=h.1;have h8:(cs'++spare).length=cs'.length+spare.length:=aU;have h9:m*(k+1)<=(O id).cap*(k+1):=by omega
          exact Nat.le_of_mul_le_mul_right h9 (Nat.succ_pos k)
       .exact h.elim
      cases U:(O id).nil with
      |true=>
       have hm:=OW U;subst hm;have N:=oG (P:=P) (J:=J) (len:=0) (cap:=0) (lo:=none) (i:=0) (.inl ⟨rfl,rfl⟩) Tj (Int.le_refl 0) b0 b1;have hj:j.toNat=0:=by omega
       rw[hj]at N ⊢;simp only[Option.map_none]at N;simp[Instr.sliceAt,Instr.slice,run_underlying hu,SV.den,At.den,U,N,PI.sizeOf]
      |false=>
       have hc:=Pu U;have N:=oG (P:=P) (J:=J) (len:=m) (cap:=(O id).cap) (lo:=none) (i:=0) (.inl ⟨rfl,rfl⟩) Tj (Int.le_refl 0) b0 be;simp only[Option.map_none]at N;simp[Instr.sliceAt,Instr.slice,run_underlying hu,SV.den,At.den,U,N,PI.sizeOf,cd]
     .exact h.elim
    .exact h.elim
   .exact h.elim
  .split at h
   .rename_i Oh;have hu:=ht.i6 (eJ Oh);simp only at hu;split at h
    .rename_i sz' ag' by' ze' tag' ik' e' al' fs' PI
     have PI:=hτ e _ PI;split at h
     .rename_i id off;split at h
      .split at h
       .rename_i h0;refine⟨_,h,E,fun J=>?_⟩;have h0:al≠0:=fun e=>by subst e;cases h0
        simp[Instr.sliceAt,Instr.sliceBounds,run_underlying hu,SV.den,At.den,PI.sizeOf,Instr.sureAddr,cd]
       .exact h.elim
      .exact h.elim
     .exact h.elim
    .exact h.elim
   .split at h
    .rename_i Oh;have hu:=ht.i3 (eJ Oh);split at h
     .rename_i s;obtain⟨i,W,Rg⟩:=jN sat h;obtain⟨j,I,Tj⟩:=jN sat W;obtain⟨⟨b0,b1,b2⟩,h3⟩:=I;refine⟨_,h3,trivial,fun J=>?_⟩;have N:=CF (P:=P) (J:=J) Rg Tj b0 b1 b2;simp[Instr.sliceAt,Instr.slice,run_underlying hu,SV.den,At.den,N]
     .exact h.elim
    .exact h.elim
 .exact h.elim
end
section
variable{P:Program}{τ:lO}{B n nx:Nat}{l:Env}{H:Hp}{iv:Iv}{w J:World}{O:Nat->dc}{a:Act}
theorem CH(z:Value)(c:Nat):(madeCells #[z] c)=(List.replicate c z).toArray:=by
 unfold madeCells;apply Array.ext';simp[List.map_const',Nat.mod_one]
theorem rJ(zs:List Value)(c:Nat):(madeCells zs.toArray (c*zs.length))=((List.replicate c zs).flatten).toArray:=by
 unfold madeCells;apply Array.ext';simp only[Array.toList_map,Array.toList_range,List.size_toArray]
 induction c with
 |zero=>simp
 |succ c ih=>
  rw[Nat.succ_mul,List.range_add,List.map_append,ih,List.replicate_succ',List.flatten_append];simp only[List.flatten_cons,List.flatten_nil,List.append_nil,List.map_map]
  congr 1;apply List.ext_getElem
  .simp
  .intro i W I;simp at W;simp[bT W,W]
theorem Dj(hτ:en P τ)(sat:Sat n l H nx iv B w O a J){t:Nat}{x y:SV}{Fn:SV->Hp->Nat->Prop}(h:FB τ t x y H nx Fn):
  ∃r H' OO G9 F,Fn r H' OO/\Rel H' OO iv B w G9 F/\r.sc OO/\nx<=OO/\(∀id,id<nx->O id=G9 id)/\(Instr.makeSlice t (x.den O) (y.den O)).run P J= .ok (r.den G9) F:=by
 unfold FB at h;split at h
 .rename_i k1 a1 k2 b1;split at h
  .rename_i sz ag by_ ze tag ik e al fs QT;have ht:=hτ t _ QT;split at h
   .rename_i Oh;have hu:=ht.i4 (eJ Oh);simp only at hu;split at h
    .rename_i sz' ag' by' ze' tag' ik' e' al' fs' PI
     have PI:=hτ e _ PI;obtain⟨inf,z,R,Od,Om,hz,Q6⟩:=PI.info;simp only at Od Om Q6;obtain⟨m,c,rfl,rfl,RL,hbytes,h63,h⟩:=h;have Qi:(inf.bytes:Int)*(c:Int)<=281474976710656:=by
      rw[Om];have PD:((by'*c:Nat):Int)<=281474976710656:=by omega
      rwa [Int.natCast_mul]at PD
     have OU:=run_make (P:=P) J t e inf z hu R hz k1 k2 (m:Int) (c:Int) be be Qi be;simp only[aN]at OU;have fin:∀cs:List Value,cs.toArray=madeCells z.cells (c*inf.size)->zH (.arr e cs) H nx (fun H' OO=>Fn (.o (.s nx 0 m c)) H' OO)->
       ∃r H' OO G9 F,Fn r H' OO/\Rel H' OO iv B w G9 F/\r.sc OO/\nx<=OO/\(∀id,id<nx->O id=G9 id)/\(Instr.makeSlice t (.int k1 m) (.int k2 c)).run P J= .ok (r.den G9) F:=by
      intro cs Oz hK;refine⟨_,_,_,gn O nx ⟨J.heap.size,0,false⟩,J.alloc (.cells cs.toArray e),hK,?_,?_,be,gN,?_⟩
      .refine sat.rel.push (.arr e cs) _ rfl rfl rfl ce (fun k Z=>heap_alloc_old _ _ Z) (fun _=>⟨ae _,ce⟩) ⟨rfl,heap_alloc_new _ _⟩ trivial
      .simp[SV.sc,At.sc]
      .rw[OU,<-Oz];simp[SV.den,At.den]
     have RC:=PI.Bw;simp only at RC;have RG:z.cells=ze'.toArray:=by apply Array.ext';simpa using Q6
     split at h
     .rename_i z0;refine fin _ ?_ h;have:inf.size=1:=by rw[Od,<-RC];rfl
      rw[this,bC,RG,CH]
     .refine fin _ ?_ h;rw[Od,<-RC,RG];rcases bB ze'.length with h0|h0
      .have:ze'=[]:=List.eq_nil_of_length_eq_zero h0;subst this;simp[madeCells]
      .rw[rJ]
    .exact h.elim
   .exact h.elim
  .exact h.elim
 .exact h.elim
theorem Dk(sat:Sat n l H nx iv B w O a J){x:SV}{Fn:Nat->List Value->Prop}(PW:0<size)(h:He B H nx iv w size x Fn):
  ∃m c ad news,Fn m news/\x.den O= .slice ad m c/\news.length=m*size/\(∀u∈news,u.oneCell'=true)/\
   ((ad=none/\m=0)\/∃ad',ad=some ad'/\∀j u,news[j]? =some u->J.cell? (ad'.add j)=some u):=by
 have rel:=sat.rel;unfold He at h;split at h
 .rename_i id off m c;split at h
  .rename_i bt cs hH;obtain⟨W,hd⟩:=oC h;obtain⟨I,ht⟩:=oD W;obtain⟨vs,h3,QF,Sp⟩:=lQ I;refine⟨m,c,_,vs,h3,rfl,?_,Sp,.inr ⟨_,rfl,fun j u hu=>?_⟩⟩
   .have:=congrArg List.length QF;simp at this ht;omega
   .rw[cd,cell_of (rel.box id bt cs hH)];have e:(vs.map At.v)[j]? =some (.v u):=by simp[hu]
    rw[<-QF]at e;simp only[List.getElem?_take,bo]at e;split at e
    .simp[e,At.den]
    .simp at e
  .rename_i bt cs hH;obtain⟨vs,W,I,h3,h4⟩:=h;refine⟨m,c,_,vs,h4,rfl,I,h3,.inr ⟨_,rfl,fun j u hu=>?_⟩⟩;rw[cd,cell_of (rel.arr id bt cs hH)];rw[<-W]at hu;simp only[List.getElem?_take,bo]at hu;split at hu
   .exact hu
   .simp at hu
  .exact h.elim
 .rename_i ad m c;obtain⟨vs,W,I,h3,h4⟩:=h;refine⟨m,c,ad,vs,h4,rfl,W,I,?_⟩;rcases bB m with h0|h0
  .subst h0;have:vs=[]:=List.eq_nil_of_length_eq_zero (by simpa using W);subst this
   cases ad with
   |none=>exact .inl ⟨rfl,rfl⟩
   |some ad=>exact .inr ⟨ad,rfl,fun j u hu=>by simp at hu⟩
  .exact .inr (h3 O J rel h0)
 .rename_i id m;split at h
  .rename_i bt sz cs hH;obtain⟨W,I,h3⟩:=h;rcases rel.vec id bt sz cs hH with⟨U,rfl⟩|⟨U,spare,N,_⟩
   .have h0:m=0:=by
     have h4:m*size=0:=by simpa using W.symm
     rcases Nat.mul_eq_zero.1 h4 with h5|h5<;>omega
    subst h0;exact⟨0,0,none,[],h3,by simp[SV.den,At.den,U],ce,ce,.inl ⟨rfl,rfl⟩⟩
   .refine⟨m,(O id).cap,_,cs,h3,by simp only[SV.den,At.den,U];rfl,W,I,.inr ⟨_,rfl,fun j u hu=>?_⟩⟩;rw[cd,cell_of N,aR,aQ (aH.1 hu).1];exact hu
  .exact h.elim
 .exact h.elim
theorem lX(w:World)(base:Nat)(t ty e:TypeId)(i:TypeInfo)(size:Nat)(ht:P.underlying t=some (.slice e))(R:P.info? e=some i)
  (v:Value) (m:Nat) (xs:List Value) (QD:w.ownsRow base e size v m xs) (c:Nat):(Builtin.append_ #[t,t] ty #[v,.slice none 0 c]).run P w= .ok v w:=by
 rcases QD.2 with⟨rfl,rfl⟩|⟨g,cap,cur,rfl,_,_,So,_⟩
 .simp[Builtin.append_,run_underlying ht,sizeOf,typeInfo,R,Builtin.lenOf,Builtin.firstCells]
 .simp[Builtin.append_,run_underlying ht,sizeOf,typeInfo,R,Builtin.lenOf,Builtin.firstCells,So,storeCells]
theorem pZ{w:World}{e:Nat}{v:Value}{base:Nat}(h:w.ownsRow base e size v m xs):
  ∃val:dc,(At.w 0 m).den (fun _=>val)=v/\(jL.vec e size xs).fits (fun _=>val) val w/\(val.nil=false->v.ownBlock=some val.g/\val.g<w.heap.size)/\(val.nil=true->v.ownBlock=none):=by
 rcases h.2 with⟨rfl,rfl⟩|⟨g,cap,cur,rfl,_,N,So,Pu,hcur,QJ⟩
 .have:xs=[]:=List.eq_nil_of_length_eq_zero (by simpa using h.1);exact⟨⟨0,0,true⟩,rfl,.inl ⟨rfl,this⟩,(fun h=>by cases h),fun _=>rfl⟩
 .refine⟨⟨g,cap,false⟩,rfl,.inr ⟨rfl,cur.toList.drop (m*size),?_,?_,Pu⟩,fun _=>⟨rfl,(aZ.1 N).1⟩,(fun h=>by cases h)⟩
  .rw[<-QJ,List.take_append_drop];simpa using N
  .rw[<-QJ,List.take_append_drop];simpa using hcur
theorem Hi(rel:Rel H nx iv B w O J){e sz:Nat}(hH:dF H id=some (.vec e sz cs))(hl:cs.length=m*sz)(PW:0<sz):
  J.ownsRow B e sz ((At.w id m).den O) m cs:=by
 rcases rel.vec id e sz cs hH with⟨U,rfl⟩|⟨U,spare,N,Sv,Pu⟩
 .have h0:m=0:=by
   have h4:m*sz=0:=by simpa using hl.symm
   rcases Nat.mul_eq_zero.1 h4 with h5|h5<;>omega
  subst h0;simp only[At.den,U]
  exact World.ownsRow_nil _ _ _ _
 .refine⟨hl,.inr ⟨(O id).g,(O id).cap,_,by simp only[At.den,U],(rel.low id _ hH U).1,N,?_,Pu,by simpa using Sv,by simp[<-hl]⟩⟩;have W:m*sz<=(O id).cap*sz:=by rw[<-Sv,<-hl];simp
  exact Nat.le_of_mul_le_mul_right W PW
theorem An(hτ:en P τ)(sat:Sat n l H nx iv B w O a J){t ty:Nat}{x y:SV}{Fn:SV->Hp->Nat->Prop}(h:Ak τ B t x y H nx iv w Fn):
  ∃r H' OO G9 F,Fn r H' OO/\Rel H' OO iv B w G9 F/\r.sc OO/\nx<=OO/\(∀id,id<nx->O id=G9 id)/\(Builtin.append_ #[t,t] ty #[x.den O,y.den O]).run P J= .ok (r.den G9) F:=by
 have rel:=sat.rel;unfold Ak at h;split at h
 .exact h.elim
 rename_i sz ag by_ ze tag ik e al fs QT;have ht:=hτ t _ QT;split at h
 .rename_i Oh;have hu:=ht.i4 (eJ Oh);simp only at hu;split at h
  .rename_i sz' ag' by' ze' tag' ik' e' al' fs' PI
   have PI:=hτ e _ PI;split at h
   .exact h.elim
   .rename_i z0 zr;obtain⟨inf,z,R,Od,Om,hz,Q6⟩:=PI.info;have RC:=PI.Bw;simp only at Od Om Q6 RC;have PW:0<sz':=by rw[<-RC];simp
    have Ut:z.cells.size=sz':=by rw[<-RC,<-Q6];simp
    have h0:=Dk sat PW h;clear h;obtain⟨m,c,ad,news,h,hy,SK,Ss,hsrc⟩:=h0;have happ:∀(v:Value) (k:Nat) (xs:List Value),J.ownsRow B e sz' v k xs->(k+m)*by'<=140737488355328->k+m<=maxLen->
      ∃v' F,(Builtin.append_ #[t,t] ty #[v,y.den O]).run P J= .ok v' F/\F.ownsRow B e sz' v' (k+m) (xs++news)/\J.grownBy F v.ownBlock/\(v'.ownBlock=v.ownBlock\/v'.ownBlock=some J.heap.size):=by
     intro v k xs QD N TS;rw[hy];rcases hsrc with⟨rfl,rfl⟩|⟨ad',rfl,Oy⟩
     .have:news=[]:=List.eq_nil_of_length_eq_zero (by simpa using SK);subst this;exact⟨v,J,lX J B t ty e inf sz' hu R v k xs QD c,by simpa using QD,⟨rfl,rfl,rfl,ae _,fun _ _ _=>rfl⟩,.inl rfl⟩
     .obtain⟨v',F,W,I,h3,_,h5⟩:=run_append_own_at (P:=P) J B t ty e inf z sz' by' hu R hz Od Om Ut PW v k xs QD ad' m c news SK Oy Ss TS N (by have:=rel.base;have:=rel.size;omega)
      exact⟨v',F,W,I,h3,h5⟩
    split at h
    .obtain⟨N,TS,hK⟩:=h;obtain⟨v',F,W,I,h3,h5⟩:=happ (.slice none 0 0) 0 [] (World.ownsRow_nil _ _ _ _) (by simpa using N) (by simpa using TS);simp only[aR,List.nil_append]at I;obtain⟨val,Sp,RD,XN,hv4⟩:=pZ I;refine⟨_,_,_,gn O nx val,F,hK,?_,by simp[SV.sc,At.sc],be,gN,?_⟩
     .refine rel.push (.vec e sz' news) val h3.os h3.tape h3.output h3.size (fun k Z=>h3.block k Z (by simp[Value.ownBlock])) (fun U=>?_) (by simpa [jL.fits]using RD) trivial;have:=XN U;rcases h5 with h6|h6
      .rw[this.1]at h6;simp[Value.ownBlock]at h6
      .rw[this.1]at h6;injection h6 with h6;exact⟨be,this.2⟩
     .rw[show SV.den O (.o (.v (.slice none 0 0)))= .slice none 0 0 from rfl,W,<-Sp];simp[SV.den,At.den]
    .rename_i id k;split at h
     .rename_i e1 sz1 cs hH;split at h
      .rename_i VO;have VO:=eJ VO;subst VO;split at h
       .rename_i Uu;have Uu:=eJ Uu;subst Uu;obtain⟨hl,N,TS,h⟩:=h;obtain⟨H1,hK,hH1,_⟩:=sL h;obtain⟨v',F,W,I,h3,h5⟩:=happ _ k cs (Hi rel hH hl PW) N TS;obtain⟨val,Sp,RD,XN,hv4⟩:=pZ I;have Qu:(O id).nil=false->((At.w id k).den O).ownBlock=some (O id).g:=fun U=>by simp[At.den,U,Value.ownBlock]
        have hob':(O id).nil=true->((At.w id k).den O).ownBlock=none:=fun U=>by simp[At.den,U,Value.ownBlock]
        refine⟨_,_,_,gn O nx val,F,hK,?_,by simp[SV.sc,At.sc],be,gN,?_⟩
        .refine rel.Hg hH ce hH1 (.vec e1 sz1 (cs++news)) val h3.os h3.tape h3.output h3.size (fun j hj OL=>?_) (fun U=>?_) (by simpa [jL.fits]using RD) trivial
         .refine h3.block j hj fun e=>?_
          cases OW:(O id).nil
          .rw[Qu OW]at e;injection e with e;exact OL OW e
          .rw[hob' OW]at e;cases e
         .have:=XN U;rcases h5 with h6|h6
          .rw[this.1]at h6
           cases OW:(O id).nil
           .rw[Qu OW]at h6;injection h6 with h6;exact .inr ⟨rfl,h6⟩
           .rw[hob' OW]at h6;cases h6
          .rw[this.1]at h6;injection h6 with h6;exact .inl ⟨be,this.2⟩
        .rw[show SV.den O (.o (.w id k))=(At.w id k).den O from rfl,W,<-Sp];simp[SV.den,At.den]
       .exact h.elim
      .exact h.elim
     .exact h.elim
    .rename_i id k c0;split at h
     .rename_i hkc;have hkc:=eJ hkc;subst hkc;split at h
      .rename_i e1 cs0 hH;split at h
       .rename_i VO;have VO:=eJ VO;subst VO;obtain⟨cs,⟨hl,N,TS,h9⟩,rfl,_⟩:=lQ h;obtain⟨H1,hK,hH1,_⟩:=sL h9;have OW:(O id).nil=false:=rel.nn id _ hH (by intros;simp) ce;have PS:=rel.box id _ _ hH;rw[fN]at PS;have QD:J.ownsRow B e1 sz' ((At.s id 0 k k).den O) k cs:=by
         refine⟨hl,.inr ⟨(O id).g,k,_,by simp only[At.den],(rel.low id _ hH OW).1,PS,ae _,be,by simp[hl],by simp[<-hl]⟩⟩
        obtain⟨v',F,W,I,h3,h5⟩:=happ _ k cs QD N TS;obtain⟨val,Sp,RD,XN,hv4⟩:=pZ I;have Qu:((At.s id 0 k k).den O).ownBlock=some (O id).g:=by simp[At.den,Value.ownBlock]
        refine⟨_,_,_,gn O nx val,F,hK,?_,by simp[SV.sc,At.sc],be,gN,?_⟩
        .refine rel.Hg hH ce hH1 (.vec e1 sz' (cs++news)) val h3.os h3.tape h3.output h3.size (fun j hj OL=>?_) (fun U=>?_) (by simpa [jL.fits]using RD) trivial
         .refine h3.block j hj fun e=>?_;rw[Qu]at e;injection e with e;exact OL OW e
         .have:=XN U;rcases h5 with h6|h6
          .rw[this.1]at h6;rw[Qu]at h6;injection h6 with h6;exact .inr ⟨OW,h6⟩
          .rw[this.1]at h6;injection h6 with h6;exact .inl ⟨be,this.2⟩
        .rw[show SV.den O (.o (.s id 0 k k))=(At.s id 0 k k).den O from rfl,W,<-Sp];simp[SV.den,At.den]
       .exact h.elim
      .exact h.elim
     .exact h.elim
    .exact h.elim
  .exact h.elim
 .exact h.elim
end
end Go.Sx
