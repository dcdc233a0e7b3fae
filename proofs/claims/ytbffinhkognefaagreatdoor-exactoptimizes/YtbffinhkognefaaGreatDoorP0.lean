/- Texts Sx1 to Sx6: lemmas, each with its conditions. -/
import Derived.WalkKit
import Derived.Maps.AppendAt
import Derived.Laws.IdiomCopy
import Derived.Great.BuildSlice
namespace Go
theorem be{p:Prop}(h:p:=by omega):p:=h
theorem bv{p:Prop}(h:p:=by decide):p:=h
theorem ce{p:Prop}(h:p:=by simp):p:=h
theorem d8{p:Prop}(h:p:=by rfl):p:=h
theorem d9{p:Prop}(h:p:=by kernel_rfl):p:=h
end Go
namespace Go
variable{i m n:Nat}{c:Prop}
theorem aD.{u_1}{α:Type u_1}(y:α){a:α}{l:List α}:a∈l->a∈y::l:=List.mem_cons_of_mem y
theorem aE.{u_1}{α:Type u_1}{l:List α}(h:i<l.length):l[i]? =some l[i]:=List.getElem?_eq_getElem h
theorem aF.{u_1}{α:Type u_1}{a:α}{l:List α}:a∈a::l:=List.mem_cons_self
theorem aG.{u_1}{α:Type u_1}{l:List α}{a:α}(e:l[i]? =some a):a∈l:=List.mem_of_getElem? e
theorem aH.{u_1}{α:Type u_1}{a:α}{l:List α}:l[i]? =some a↔∃h:i<l.length,l[i]=a:=List.getElem?_eq_some_iff
theorem aI.{u}{h:Decidable c}(hnc:¬c){α:Sort u}{t e:α}:(if c then t else e)=e:=if_neg hnc
theorem aJ{p:Prop} [inst:Decidable p]:decide p=true->p:=of_decide_eq_true
theorem aK(n:Nat):((n:Int)).toNat=n:=Int.toNat_natCast n
theorem aL{p:Prop} [inst:Decidable p]:decide p=false->¬p:=of_decide_eq_false
theorem aM.{u}{h:Decidable c}(hc:c){α:Sort u}{t e:α}:(if c then t else e)=t:=if_pos hc
theorem aN.{u_1}{α:Type u_1}{l₁ l₂:List α}(U:i<l₁.length):(l₁++l₂)[i]? =l₁[i]? :=List.getElem?_append_left U
theorem aO.{u_1,u_2}{α:Type u_1}{β:Type u_2}{as:List α}(f:α->β):(List.map f as).length=as.length:=List.length_map f
theorem aP.{u_1}{α:Type u_1}{l₁ l₂:List α}:l₁.length<=i->(l₁++l₂)[i]? =l₂[i-l₁.length]? :=List.getElem?_append_right
theorem aQ.{u_1}{α:Type u_1}{l:List α}{a:α}(h:i<l.length):(l.set i a)[i]? =some a:=List.getElem?_set_self h
theorem aR{k:Nat}:n<=m->m<=k->n<=k:=Nat.le_trans
theorem aS(n:Nat):0+n=n:=Nat.zero_add n
theorem aU.{u_1,u_2}{α:Type u_1}{β:Type u_2}{f:α->β}{l:List α}:(List.map f l)[i]? =Option.map f l[i]? :=List.getElem?_map
theorem aV.{u}{α:Type u}{as bs:List α}:(as++bs).length=as.length+bs.length:=List.length_append
theorem aW(n m:Nat):n<m\/n≥m:=Nat.lt_or_ge n m
theorem aX.{u_1}{α:Type u_1}{a b:α}:a∈[b]↔a=b:=List.mem_singleton
theorem aY.{u_1}{α:Type u_1}{a b:α}(h:b∈List.replicate n a):b=a:=List.eq_of_mem_replicate h
theorem aZ.{u_1}{α:Type u_1}{l:List α}{j:Nat}(h:i≠j){a:α}:(l.set i a)[j]? =l[j]? :=List.getElem?_set_ne h
theorem ae(n:Nat):0<=n:=Nat.zero_le n
theorem ah.{u}{α:Type u}{xs:Array α}:xs.toList[i]? =xs[i]? :=Array.getElem?_toList
theorem aj.{u}{α:Type u}{a:α}:(List.replicate n a).length=n:=List.length_replicate
theorem aq(n:Nat):n<=n:=Nat.le_refl n
theorem av(n:Nat):n*1=n:=Nat.mul_one n
theorem az.{u_1}{α:Type u_1}{a:α}{l:List α}(h:a∈l):∃i:Nat,l[i]? =some a:=List.getElem?_of_mem h
theorem bA.{u_1}{α:Type u_1}{l₁ l₂:List α}(h:∀(i:Nat),l₁[i]? =l₂[i]?):l₁=l₂:=List.ext_getElem? h
theorem bB.{u_1}{α:Type u_1}{a:α}{s t:List α}:a∈s++t↔a∈s\/a∈t:=List.mem_append
theorem bC(k:Nat)(h:n<=m):k*n<=k*m:=Nat.mul_le_mul_left k h
theorem bD.{u_1}{α:Type u_1}{b:α}{xs:Array α}:xs[i]? =some b↔∃h:i<xs.size,xs[i]=b:=Array.getElem?_eq_some_iff
theorem bE.{u_1,u_2}{α:Type u_1}{β:Type u_2}{b:β}{f:α->β}{l:List α}:b∈List.map f l↔∃a,a∈l/\f a=b:=List.mem_map
theorem bF(a b:Bool):((a&&b)=true)=(a=true/\b=true):=Bool.and_eq_true a b
theorem bG.{u_1}{α:Type u_1}{xs:Array α}{d:α}:xs.getD i d=xs[i]?.getD d:=Array.getD_eq_getD_getElem?
theorem bH(n:Nat):n=0\/n>0:=Nat.eq_zero_or_pos n
theorem bI{p:Prop} [Decidable p]:¬p->decide p=false:=decide_eq_false
theorem bJ.{u}{α:Type u}(as bs cs:List α):as++bs++cs=as++(bs++cs):=List.append_assoc as bs cs
theorem bK.{u_1}{α:Type u_1}{l:List α}:List.take l.length l=l:=List.take_length
theorem bL(a:Rat):a*0=0:=Rat.mul_zero a
theorem bM.{u_1}{α:Type u_1}{l:List α}:List.take (i+1) l=List.take i l++l[i]?.toList:=List.take_add_one
theorem bN.{u_1}{α:Type u_1}{l:List α}:(List.take i l).length=min i l.length:=List.length_take
theorem bO.{u_1}{α:Type u_1}{xs:Array α}{a:α}:(xs.setIfInBounds i a).size=xs.size:=Array.size_setIfInBounds
theorem bQ.{u_1}{α:Type u_1}{l:List α}{a b:α}:a∈l.set i b->a∈l\/a=b:=List.mem_or_eq_of_mem_set
theorem bT:n.beq m=true->n=m:=Nat.eq_of_beq_eq_true
theorem bU.{u_1,u_2}{α:Type u_1}{β:Type u_2}(a:α)(f:α->β):Option.map f (some a)=some (f a):=Option.map_some a f
theorem bV(a b:Rat):a / b=a*b⁻¹:=Rat.div_def a b
theorem bW.{u}{α:Type u}{as:List α}{a:α}:(as.set i a).length=as.length:=List.length_set
theorem bX.{u_1}{α:Type u_1}{l:List α}(h:l.length<=i):List.take i l=l:=List.take_of_length_le h
theorem bY(n:Nat):n-n=0:=Nat.sub_self n
theorem bZ(n m k:Nat):n*(m+k)=n*m+n*k:=Nat.mul_add n m k
theorem bc(n m:Nat):n*m=m*n:=Nat.mul_comm n m
theorem bg{p:Prop} [inst:Decidable p]:p->decide p=true:=decide_eq_true
theorem bh{a b:Nat}(h:a<b):a % b=a:=Nat.mod_eq_of_lt h
theorem bj(a:Rat):0*a=0:=Rat.zero_mul a
theorem bm.{u}{α:Type u}{a:α}{as:List α}:(a::as).length=as.length+1:=List.length_cons
theorem bo{a:Int}:a.sign=0↔a=0:=Int.sign_eq_zero_iff_zero
theorem bp.{u_1}{α:Type u_1}{l:List α}(h:n<l.length):l[n]∈l:=List.getElem_mem h
theorem bu(n m k:Nat):n*m*k=n*(m*k):=Nat.mul_assoc n m k
theorem bw.{u_1,u_2}{α:Type u_1}{β:Type u_2}{f:α->β}{l₁ l₂:List α}:List.map f (l₁++l₂)=List.map f l₁++List.map f l₂:=List.map_append
theorem bz:List.range n.succ=List.range n++[n]:=List.range_succ
theorem cD.{u_1}{α:Type u_1}{p:α->Bool}{l:List α}:l.all p=true↔∀(x:α),x∈l->p x=true:=List.all_eq_true
theorem cF.{u_1}{α:Type u_1}{xs:List α}{j:Nat}:(List.drop i xs)[j]? =xs[i+j]? :=List.getElem?_drop
theorem cG(n:Nat):n<n.succ:=Nat.lt_succ_self n
theorem cH{a:Int}(h:a<0):a.sign= -1:=Int.sign_eq_neg_one_of_neg h
theorem cI(a:Rat):a+0=a:=Rat.add_zero a
theorem cJ(w:Nat):0<2^w:=Nat.two_pow_pos w
theorem cK{a:Int}(h:0<a):a.sign=1:=Int.sign_eq_one_of_pos h
theorem cL(m:Nat)(npos:0<n):0<m.gcd n:=Nat.gcd_pos_of_pos_right m npos
theorem cM(x:Nat){y:Nat}(hy:0<y):x % y<y:=Nat.mod_lt x hy
theorem cN(n:Nat):n+0=n:=Nat.add_zero n
theorem cO(h:i<n):(List.range n)[i]? =some i:=List.getElem?_range h
theorem cP(a b:Nat):a<b\/a=b\/b<a:=Nat.lt_trichotomy a b
theorem cQ(a:Int):(-a).natAbs=a.natAbs:=Int.natAbs_neg a
theorem cR(a:Rat):1*a=a:=Rat.one_mul a
end Go
namespace Go.Sx
open Go
variable{next:Act->World->Prop}{ad:Addr}{cells:Array Value}{b:Bool}{Q:Exit->Act->World->Prop}{Fd:Int->Prop}{fs:List (Nat×Nat)}{rest:List (Nat×Value)}{cs new old xs:List Value}{B id m n nx off size:Nat}{place:Nat->Option (Nat×Nat)}{N lo:Option Operand}{Fn:Prop}{J F:World}
inductive At where
 |v (x:Value)
 |p (id off:Nat)
 |s (id off len cap:Nat)
 |w (id len:Nat)
 |fn (f:Nat) (caps:List Nat)
inductive SV where
 |o (x:At)
 |a (cs:List At)
structure eH where
 g:Nat
 cap:Nat
 nil:Bool
def At.den(O:Nat->eH):At->Value
 | .v x=>x
 | .p id off=>.pointer (some ⟨(O id).g,off,none⟩)
 | .s id off len cap=>.slice (some ⟨(O id).g,off,none⟩) len cap
 | .w id len=>match(O id).nil with
  |true=>.slice none 0 0
  |false=>.slice (some ⟨(O id).g,0,none⟩) len (O id).cap
 | .fn f caps=>.func (.func f) #[] (caps.map fun id=>Value.pointer (some ⟨(O id).g,0,none⟩)).toArray
def SV.den(O:Nat->eH):SV->Value
 | .o x=>x.den O
 | .a cs=>.agg (cs.map (At.den O)).toArray
def At.sc(n:Nat):At->Prop
 | .v _=>True
 | .p id _=>id<n
 | .s id _ _ _=>id<n
 | .w id _=>id<n
 | .fn _ caps=>∀id∈caps,id<n
def SV.sc(n:Nat):SV->Prop
 | .o x=>x.sc n
 | .a cs=>∀x∈cs,At.sc n x
inductive ja where
 |box (t:Nat) (cs:List At)
 |arr (t:Nat) (cs:List Value)
 |vec (t:Nat) (size:Nat) (cs:List Value)
 |dead
abbrev Env:=List (Nat×SV)
abbrev Hp:=List (Nat×ja)
abbrev Iv:=List (Nat×Nat)
def fZ:Env->Nat->Option SV
 |[],_=>none
 |(t,v)::r,u=>match Nat.beq t u with
  |true=>some v
  |false=>fZ r u
def dV:Hp->Nat->Option ja
 |[],_=>none
 |(t,v)::r,u=>match Nat.beq t u with
  |true=>some v
  |false=>dV r u
def Ct:Hp->Nat->(Hp->Prop)->Prop
 |[],_,_=>False
 |(t,v)::r,u,k=>match Nat.beq t u with
  |true=>k ((t,.dead)::r)
  |false=>Ct r u (fun r'=>k ((t,v)::r'))
def H0:Hp->Nat->ja->(Hp->Prop)->Prop
 |[],_,_,_=>False
 |(t,v)::r,u,b,k=>match Nat.beq t u with
  |true=>k ((t,b)::r)
  |false=>H0 r u b (fun r'=>k ((t,v)::r'))
structure TI where
 size:Nat
 agg:Bool
 bytes:Nat
 zero:List Value
 tag:Nat
 ik:IntKind:=.i64
 elem:Nat:=0
 CO:Nat:=0
 fields:List (Nat×Nat):=[]
def ev(l:Env):Operand->Option SV
 | .tmp t=>fZ l t
 | .const v=>some (.o (.v v))
 | .global g=>some (.o (.v (.pointer (some ⟨g,0,none⟩))))
 | .func f=>some (.o (.v (.func (.func f) #[] #[])))
def rU(l:Env)(x:Operand)(k:SV->Prop):Prop:=match ev l x with
 |some v=>k v
 |none=>False
def LV(l:Env):List Operand->(List SV->Prop)->Prop
 |[],k=>k []
 |x::r,k=>match ev l x with
  |some v=>LV l r (fun vs=>k (v::vs))
  |none=>False
def vU:List At->Nat->(List At->Prop)->Prop
 |l,0,k=>k l
 |[],_+1,_=>False
 |_::t,n+1,k=>vU t n k
def vV:List At->Nat->(List At->Prop)->Prop
 |_,0,k=>k []
 |[],_+1,_=>False
 |x::t,n+1,k=>vV t n (fun r=>k (x::r))
def Cu:List At->List At->(List At->Prop)->Prop
 |cs,[],k=>k cs
 |[],_::_,_=>False
 |_::t,x::r,k=>Cu t r (fun t'=>k (x::t'))
def tM:List At->Nat->List At->(List At->Prop)->Prop
 |cs,0,new,k=>Cu cs new k
 |[],_+1,_,_=>False
 |x::t,n+1,new,k=>tM t n new (fun t'=>k (x::t'))
def rW:List Value->(List At->Prop)->Prop
 |[],k=>k []
 |x::r,k=>rW r (fun r'=>k (.v x::r'))
def zj:SV->(List At->Prop)->Prop
 | .a cs,k=>k cs
 | .o (.v (.agg ⟨l⟩)),k=>rW l k
 | .o (.v (.tuple _)),_=>False
 | .o x,k=>k [x]
def At.one:At->Bool
 | .v (.agg _)=>false
 | .v (.tuple _)=>false
 |_=>true
def Ip:List At->Prop->Prop
 |[],k=>k
 |x::r,k=>match x.one with
  |true=>Ip r k
  |false=>False
def yp:List At->(List Value->Prop)->Prop
 |[],k=>k []
 | .v x::r,k=>match At.one (.v x)with
  |true=>yp r (fun r'=>k (x::r'))
  |false=>False
 |_::_,_=>False
def zk(b:Bool)(Fn B:Prop):Prop:=match b with
 |true=>Fn
 |false=>B
theorem zk.t{B:Prop}(h:zk b Fn B)(e:b=true):Fn:=by subst e;exact h
theorem zk.f{B:Prop}(h:zk b Fn B)(e:b=false):B:=by subst e;exact h
theorem zk.mk{B:Prop}(Y:b=true->Fn)(I:b=false->B):zk b Fn B:=by
 cases b
 .exact I rfl
 .exact Y rfl
theorem bS{B:Prop}(Y:b=true->Fn)(I:b=false->B):zk b Fn B:=.mk Y I
structure Rel(H:Hp)(nx:Nat)(iv:Iv)(B:Nat)(w:World)(O:Nat->eH)(J:World):Prop where
 os:J.os=w.os
 tape:J.tape=w.tape
 output:J.output=w.output
 size:w.heap.size<=J.heap.size
 base:B<=w.heap.size
 oc:∀lo N,(lo,N)∈iv->N<=w.heap.size
 keys:∀id b,dV H id=some b->id<nx
 box:∀id t cs,dV H id=some (.box t cs)->J.heap[(O id).g]? =some (.cells (cs.map (At.den O)).toArray t (0,0))
 arr:∀id t cs,dV H id=some (.arr t cs)->J.heap[(O id).g]? =some (.cells cs.toArray t (0,0))
 vec:∀id t size cs,dV H id=some (.vec t size cs)->((O id).nil=true/\cs=[])\/
  ((O id).nil=false/\∃spare:List Value,J.heap[(O id).g]? =some (.cells (cs++spare).toArray t (0,0))/\(cs++spare).length=(O id).cap*size/\(O id).cap<=maxLen)
 inj:∀id id' b b',dV H id=some b->dV H id'=some b'->b≠ .dead->b'≠ .dead->(O id).nil=false->(O id').nil=false->(O id).g=(O id').g->id=id'
 low:∀id b,dV H id=some b->(O id).nil=false->B<=(O id).g/\(O id).g<J.heap.size
 Dz:∀k,k<w.heap.size->(∀id b,dV H id=some b->(O id).nil=false->(O id).g≠k)->J.heap[k]? =w.heap[k]?
 jU:∀lo N,(lo,N)∈iv->∀id b,dV H id=some b->(O id).nil=false->¬(lo<=(O id).g/\(O id).g<N)
 Nh:∀id t cs,dV H id=some (.box t cs)->∀x∈cs,At.sc nx x
 nn:∀id b,dV H id=some b->(∀t size cs,b≠ .vec t size cs)->b≠ .dead->(O id).nil=false
structure La(P:Program)(g:Nat):Prop where
 h:∀(args:Array Value) (w:World),(callFunc g args).run P w= .ok (.enter g args) w
structure eL(P:Program)(g:Nat)(args:Array Value)(w:World)(F9:Ending->World->Prop):Prop where
 e:La P g
 c:Calls P g args w F9
def EC:List At->Nat->Option At
 |[],_=>none
 |x::_,0=>some x
 |_::t,n+1=>EC t n
def Js:List Value->Nat->Option Value
 |[],_=>none
 |x::_,0=>some x
 |_::t,n+1=>Js t n
def Jt:List (Nat×Nat)->Nat->Option (Nat×Nat)
 |[],_=>none
 |x::_,0=>some x
 |_::t,n+1=>Jt t n
def rZ:IntKind->IntKind->Bool
 | .i8,.i8=>true| .i16,.i16=>true| .i32,.i32=>true| .i64,.i64=>true
 | .u8,.u8=>true| .u16,.u16=>true| .u32,.u32=>true| .u64,.u64=>true
 |_,_=>false
abbrev mo:=Nat->Option TI
def Ju(op:BinOp)(k:IntKind)(a b:Int)(Fd:Value->Prop):Prop:=
 match op with
 | .add=>∃r,k.wrap (a+b)=r/\Fd (.int k r)
 | .sub=>∃r,k.wrap (a-b)=r/\Fd (.int k r)
 | .mul=>∃r,k.wrap (a*b)=r/\Fd (.int k r)
 | .quo=>b≠0/\∃r,k.wrap (a.tdiv b)=r/\Fd (.int k r)
 | .rem=>b≠0/\∃r,a.tmod b=r/\Fd (.int k r)
 | .and=>∃r,k.wrap ((BitVec.ofInt k.bits a &&& BitVec.ofInt k.bits b).toNat:Int)=r/\Fd (.int k r)
 | .or=>∃r,k.wrap ((BitVec.ofInt k.bits a ||| BitVec.ofInt k.bits b).toNat:Int)=r/\Fd (.int k r)
 | .xor=>∃r,k.wrap ((BitVec.ofInt k.bits a ^^^ BitVec.ofInt k.bits b).toNat:Int)=r/\Fd (.int k r)
 | .shl=>0<=b/\∃r,k.wrap (a*2^(min b.toNat k.bits))=r/\Fd (.int k r)
 | .shr=>0<=b/\∃r,a.fdiv (2^(min b.toNat k.bits))=r/\Fd (.int k r)
 | .eql=>Fd (.bool (a==b))
 | .neq=>Fd (.bool (a != b))
 | .lss=>Fd (.bool (decide (a<b)))
 | .leq=>Fd (.bool (decide (a<=b)))
 | .gtr=>Fd (.bool (decide (a>b)))
 | .geq=>Fd (.bool (decide (a≥b)))
 | .andNot=>∃r,k.wrap ((BitVec.ofInt k.bits a &&& ~~~BitVec.ofInt k.bits b).toNat:Int)=r/\Fd (.int k r)
def PS(P:Program)(τ:mo)(op:BinOp)(t:Nat)(x y:SV)(Fd:SV->Prop):Prop:=
 match x,y with
 | .o (.v (.int k a)),.o (.v (.int k' b))=>
  match op with
  | .shl=>Ju op k a b (fun r=>Fd (.o (.v r)))
  | .shr=>Ju op k a b (fun r=>Fd (.o (.v r)))
  |_=>match rZ k k' with
   |true=>Ju op k a b (fun r=>Fd (.o (.v r)))
   |false=>False
 | .o (.v (.bool a)),.o (.v (.bool b))=>
  match τ t with
  |some ti=>match Nat.beq ti.tag 2 with
   |true=>match op with
    | .eql=>Fd (.o (.v (.bool (a==b))))
    | .neq=>Fd (.o (.v (.bool (!(a==b)))))
    |_=>False
   |false=>False
  |none=>False
 | .o (.v (.string a)),.o (.v (.string b))=>
  match op with
  | .eql=>Fd (.o (.v (.bool (a.data.toList==b.data.toList))))
  | .neq=>Fd (.o (.v (.bool (!(a.data.toList==b.data.toList)))))
  | .add=>a.size+b.size<=maxLen/\Fd (.o (.v (.string (a++b))))
  |_=>False
 |_,_=>∃b:Bool,(∀(O:Nat->eH) (w:World) (o1 o2:Operand),(do eqGuard op t o1 o2 (x.den O) (y.den O);binOp op t (x.den O) (y.den O)).run P w= .ok (.bool b) w)/\Fd (.o (.v (.bool b)))
def zy(τ:mo)(B:Nat)(t:Nat)(addr:SV)(H:Hp)(nx:Nat)(iv:Iv)(w:World)(Fd:SV->Prop):Prop:=
 match τ t with
 |none=>False
 |some ⟨sz,ag,_,_,_,_,_,_,_⟩=>
  match addr with
  | .o (.p id off)=>
   match dV H id with
   |some (.box _ cs)=>
    match ag with
    |false=>match EC cs off with
     |some x=>Fd (.o x)
     |none=>False
    |true=>vU cs off (fun r=>vV r sz (fun l=>Fd (.a l)))
   |some (.arr _ cs)=>
    match ag with
    |false=>∃x,cs[off]? =some x/\Fd (.o (.v x))
    |true=>∃xs:List Value,(cs.drop off).take sz=xs/\xs.length=sz/\rW xs (fun l=>Fd (.a l))
   |some (.vec _ _ cs)=>
    match ag with
    |false=>∃x,cs[off]? =some x/\Fd (.o (.v x))
    |true=>∃xs:List Value,(cs.drop off).take sz=xs/\xs.length=sz/\rW xs (fun l=>Fd (.a l))
   |_=>False
  | .o (.v (.pointer (some ad)))=>
   match ag with
   |false=>∃x,(∀O J,Rel H nx iv B w O J->J.cell? ad=some x)/\Fd (.o (.v x))
   |true=>∃xs:List Value,xs.length=sz/\(∀O J,Rel H nx iv B w O J->∀j x,xs[j]? =some x->J.cell? (ad.add j)=some x)/\rW xs (fun l=>Fd (.a l))
  |_=>False
def setCells(w:World)(a:Addr):List Value->World
 |[]=>w
 |x::r=>setCells (w.setCell a x) (a.add 1) r
def H7(τ:mo)(B:Nat)(t:Nat)(addr x:SV)(H:Hp)(nx:Nat)(iv:Iv)(w:World)(Fd:Hp->World->Prop):Prop:=
 match τ t with
 |none=>False
 |some ⟨sz,_,_,_,_,_,_,_,_⟩=>
  zj x (fun new=>Ip new (match Nat.beq new.length sz with
   |false=>False
   |true=>match addr with
    | .o (.p id off)=>
     match dV H id with
     |some (.box bt cs)=>tM cs off new (fun cs'=>H0 H id (.box bt cs') (fun H'=>Fd H' w))
     |some (.arr bt cs)=>yp new (fun nv=>off+sz<=cs.length/\∃cs',cs.take off++nv++cs.drop (off+sz)=cs'/\H0 H id (.arr bt cs') (fun H'=>Fd H' w))
     |some (.vec bt ez cs)=>yp new (fun nv=>off+sz<=cs.length/\∃cs',cs.take off++nv++cs.drop (off+sz)=cs'/\H0 H id (.vec bt ez cs') (fun H'=>Fd H' w))
     |_=>False
    | .o (.v (.pointer (some ad)))=>yp new (fun nv=>∀O J,Rel H nx iv B w O J->
      ad.spot=none/\(∀j,j<sz->(J.cell? (ad.add j)).isSome=true/\J.frozen? (ad.add j)=false)/\
      (∀id b,dV H id=some b->(O id).nil=false->(O id).g≠ad.block)/\
      ∀F,F=setCells J ad nv->Fd H F)
    |_=>False))
def CQ(b:ja)(H:Hp)(nx:Nat)(Fd:Hp->Nat->Prop):Prop:=Fd ((nx,b)::H) (nx+1)
def r8(τ:mo)(fs:List (Nat×Nat))(f:Nat)(k:Nat->Nat->Bool->Prop):Prop:=
 match Jt fs f with
 |some (off,ft)=>match τ ft with
  |some ⟨sz,ag,_,_,_,_,_,_,_⟩=>match Nat.beq sz 0 with
   |true=>False
   |false=>k off sz ag
  |none=>False
 |none=>False
def zV(x:SV)(n:Nat)(Fd:SV->Prop):Prop:=
 match x with
 | .o (.p id off)=>Fd (.o (.p id (off+n)))
 | .o (.v (.pointer (some ad)))=>Fd (.o (.v (.pointer (some (ad.add n)))))
 |_=>False
def xO(l:Env)(place:Nat->(Nat->Nat->Prop)->Prop):List (Nat×Operand)->List At->(List At->Prop)->Prop
 |[],cs,k=>k cs
 |(i,x)::r,cs,k=>place i (fun off size=>rU l x (fun v=>zj v (fun new=>match Nat.beq new.length size with
   |true=>tM cs off new (fun cs'=>xO l place r cs' k)
   |false=>False)))
def Jv(H:Hp)(id m:Nat)(Fd:Prop):Prop:=
 match dV H id with
 |some (.vec _ sz cs)=>match sz with
  |0=>False
  |k+1=>cs.length=m*(k+1)/\Fd
 |_=>False
def PT(τ:mo)(H:Hp)(t:Nat)(x:SV)(Fd:Int->Prop):Prop:=
 match τ t with
 |none=>False
 |some ⟨_,_,_,_,tag,_,_,CO,_⟩=>match Nat.beq tag 4 with
  |true=>match x with
   | .o (.v (.slice _ n _))=>Fd n
   | .o (.s _ _ n _)=>Fd n
   | .o (.w id n)=>Jv H id n (Fd n)
   |_=>False
  |false=>match Nat.beq tag 3 with
   |true=>match x with
    | .o (.v (.string b))=>Fd b.size
    |_=>False
   |false=>match Nat.beq tag 6 with
    |true=>Fd CO
    |false=>False
def H8(τ:mo)(H:Hp)(t:Nat)(x i:SV)(Fd:SV->Prop):Prop:=
 match i with
 | .o (.v (.int _ i))=>match τ t with
  |some ⟨_,_,_,_,tag,_,e,CO,_⟩=>match τ e with
   |some ⟨sz,_,_,_,_,_,_,_,_⟩=>match Nat.beq tag 4 with
    |true=>match x with
     | .o (.s id off n _)=>(0<=i/\i<n)/\Fd (.o (.p id (off+i.toNat*sz)))
     | .o (.w id n)=>Jv H id n ((0<=i/\i<n)/\Fd (.o (.p id (i.toNat*sz))))
     | .o (.v (.slice a n _))=>∃ad,a=some ad/\(0<=i/\i<n)/\Fd (.o (.v (.pointer (some (ad.add (i.toNat*sz))))))
     |_=>False
    |false=>match Nat.beq tag 6 with
     |true=>(0<=i/\i<CO)/\zV x (i.toNat*sz) Fd
     |false=>False
   |none=>False
  |none=>False
 |_=>False
def LR(l:Env)(x:Option Operand)(dflt:Int)(Fd:Int->Prop):Prop:=
 match x with
 |none=>Fd dflt
 |some o=>rU l o (fun v=>match v with
  | .o (.v (.int _ n))=>Fd n
  |_=>False)
def H9(τ:mo)(H:Hp)(t:Nat)(x:SV)(l:Env)(lo N:Option Operand)(Fd:SV->Prop):Prop:=
 match τ t with
 |some ⟨_,_,_,_,tag,_,e,al,_⟩=>match Nat.beq tag 4 with
  |true=>match τ e with
   |some ⟨sz,_,_,_,_,_,_,_,_⟩=>match x with
    | .o (.s id off n c)=>LR l lo 0 (fun a=>LR l N n (fun b=>(0<=a/\a<=b/\b<=c)/\∃off' n' c':Nat,(if (c:Int)=a then off else off+a.toNat*sz)=off'/\b.toNat-a.toNat=n'/\c-a.toNat=c'/\Fd (.o (.s id off' n' c'))))
    | .o (.v (.slice ad n c))=>LR l lo 0 (fun a=>LR l N n (fun b=>(0<=a/\a<=b/\b<=c)/\∃ad' n' c',(if (c:Int)=a then ad else ad.map (·.add (a.toNat*sz)))=ad'/\b.toNat-a.toNat=n'/\c-a.toNat=c'/\Fd (.o (.v (.slice ad' n' c')))))
    | .o (.w id n)=>match lo with
     |none=>Jv H id n (LR l N n (fun b=>(0<=b/\b<=n)/\∃m:Nat,b.toNat=m/\Fd (.o (.w id m))))
     |some _=>False
    |_=>False
   |none=>False
  |false=>match Nat.beq tag 6 with
   |true=>match τ e with
    |some ⟨_,_,_,_,_,_,_,_,_⟩=>match x with
     | .o (.p id off)=>match lo,N with
      |none,none=>match Nat.beq al 0 with
       |false=>Fd (.o (.s id off al al))
       |true=>False
      |_,_=>False
     |_=>False
    |none=>False
   |false=>match Nat.beq tag 3 with
    |true=>match x with
     | .o (.v (.string s))=>LR l lo 0 (fun a=>LR l N s.size (fun b=>(0<=a/\a<=b/\b<=s.size)/\Fd (.o (.v (.string (s.extract a.toNat b.toNat))))))
     |_=>False
    |false=>False
 |none=>False
def ED(τ:mo)(t:Nat)(x:SV)(l:Env)(lo N mx:Operand)(Fd:SV->Prop):Prop:=
 match τ t with
 |some ⟨_,_,_,_,tag,_,e,_,_⟩=>match Nat.beq tag 4 with
  |true=>match τ e with
   |some ⟨sz,_,_,_,_,_,_,_,_⟩=>match x with
    | .o (.v (.slice ad n c))=>LR l (some lo) 0 (fun a=>LR l (some N) n (fun b=>LR l (some mx) c (fun m=>(0<=a/\a<=b/\b<=m/\m<=c)/\∃ad' n' c',(if m=a then ad else ad.map (·.add (a.toNat*sz)))=ad'/\b.toNat-a.toNat=n'/\m.toNat-a.toNat=c'/\Fd (.o (.v (.slice ad' n' c'))))))
    |_=>False
   |none=>False
  |false=>False
 |none=>False
def Iu(τ:mo)(t:Nat)(x y:SV)(H:Hp)(nx:Nat)(Fd:SV->Hp->Nat->Prop):Prop:=
 match x,y with
 | .o (.v (.int _ a)),.o (.v (.int _ b))=>match τ t with
  |some ⟨_,_,_,_,tag,_,e,_,_⟩=>match Nat.beq tag 4 with
   |true=>match τ e with
    |some ⟨_,_,by_,ze,_,_,_,_,_⟩=>∃n c:Nat,a=n/\b=c/\n<=c/\by_*c<=281474976710656/\c<=9223372036854775807/\
      match ze with
      |[z]=>CQ (.arr e (List.replicate c z)) H nx (fun H' Pr=>Fd (.o (.s nx 0 n c)) H' Pr)
      |zs=>CQ (.arr e (List.replicate c zs).flatten) H nx (fun H' Pr=>Fd (.o (.s nx 0 n c)) H' Pr)
    |none=>False
   |false=>False
  |none=>False
 |_,_=>False
def Ld(B:Nat)(H:Hp)(nx:Nat)(iv:Iv)(w:World)(size:Nat)(x:SV)(Fd:Nat->List Value->Prop):Prop:=
 match x with
 | .o (.s id off n _)=>match dV H id with
  |some (.box _ cs)=>vU cs off (fun r=>vV r (n*size) (fun l=>yp l (fun vs=>Fd n vs)))
  |some (.arr _ cs)=>∃vs:List Value,(cs.drop off).take (n*size)=vs/\vs.length=n*size/\(∀x∈vs,x.oneCell'=true)/\Fd n vs
  |_=>False
 | .o (.v (.slice a n _))=>∃vs:List Value,vs.length=n*size/\(∀x∈vs,x.oneCell'=true)/\
   (∀O J,Rel H nx iv B w O J->0<n->∃ad,a=some ad/\∀j u,vs[j]? =some u->J.cell? (ad.add j)=some u)/\Fd n vs
 | .o (.w id n)=>match dV H id with
  |some (.vec _ _ cs)=>cs.length=n*size/\(∀x∈cs,x.oneCell'=true)/\Fd n cs
  |_=>False
 |_=>False
def zW(τ:mo)(B:Nat)(t:Nat)(x y:SV)(H:Hp)(nx:Nat)(iv:Iv)(w:World)(Fd:SV->Hp->Nat->Prop):Prop:=
 match τ t with
 |none=>False
 |some ⟨_,_,_,_,tag,_,e,_,_⟩=>match Nat.beq tag 4 with
  |true=>match τ e with
   |some ⟨sz,_,by_,ze,_,_,_,_,_⟩=>match ze with
    |[]=>False
    |_::_=>Ld B H nx iv w sz y (fun m news=>
     match x with
     | .o (.v (.slice none 0 0))=>m*by_<=140737488355328/\m<=maxLen/\CQ (.vec e sz news) H nx (fun H' Pr=>Fd (.o (.w nx m)) H' Pr)
     | .o (.w id n)=>match dV H id with
      |some (.vec e' sz' cs)=>match Nat.beq e' e with
       |true=>match Nat.beq sz' sz with
        |true=>cs.length=n*sz/\(n+m)*by_<=140737488355328/\n+m<=maxLen/\Ct H id (fun H1=>CQ (.vec e sz (cs++news)) H1 nx (fun H' Pr=>Fd (.o (.w nx (n+m))) H' Pr))
        |false=>False
       |false=>False
      |_=>False
     | .o (.s id 0 n c)=>match Nat.beq n c with
      |true=>match dV H id with
       |some (.box e' cs)=>match Nat.beq e' e with
        |true=>yp cs (fun vs=>vs.length=n*sz/\(n+m)*by_<=140737488355328/\n+m<=maxLen/\Ct H id (fun H1=>CQ (.vec e sz (vs++news)) H1 nx (fun H' Pr=>Fd (.o (.w nx (n+m))) H' Pr)))
        |false=>False
       |_=>False
      |false=>False
     |_=>False)
   |none=>False
  |false=>False
def qB(O:Nat->eH)(xs:List SV):Array Value:=(xs.map (SV.den O)).toArray
abbrev Ext(w F:World):Prop:=RowKit.Below w.heap.size w F
structure Fe(P:Program)(B:Nat)(g:Nat)(args:(Nat->eH)->Array Value)(H:Hp)(nx:Nat)(iv:Iv)(w:World)(Fd:SV->Hp->Iv->World->Prop):Prop where
 h:∀O J,Rel H nx iv B w O J->eL P g (args O) J (fun e F=>∃v H' K,e= .returned v/\Rel H' nx K B F O F/\Fd (.o (.v v)) H' K F)
structure FX(P:Program)(B:Nat)(g:Nat)(args:(Nat->eH)->Array Value)(H:Hp)(nx:Nat)(iv:Iv)(w:World)(Fd:SV->Hp->Iv->World->Prop):Prop where
 h:∀O J,Rel H nx iv B w O J->eL P g (args O) J (fun e F=>∃v,e= .returned v/\Ext J F/\Fd (.o (.v v)) H ((J.heap.size,F.heap.size)::iv) F)
def Le(dr:Bool)(P:Program)(B:Nat)(g:Nat)(args:(Nat->eH)->Array Value)(H:Hp)(nx:Nat)(iv:Iv)(w:World)(Fd:SV->Hp->Iv->World->Prop):Prop:=
 match dr with
 |true=>FX P B g args H nx iv w Fd
 |false=>Fe P B g args H nx iv w Fd
structure zU(P:Program)(B:Nat)(o:Oper)(l:Env)(H:Hp)(nx:Nat)(iv:Iv)(w:World)(Fd:SV->Hp->Nat->Iv->World->Prop):Prop where
 h:∀(O:Nat->eH) J (e:Operand->Value),Rel H nx iv B w O J->(∀x v,ev l x=some v->e x=v.den O)->
  ∃v F K,((execOp e o).run P J= .ok (.value v) F\/((execOp e o).run P J= .ok .skip F/\v=undef))/\Rel H nx K B F O F/\Fd (.o (.v v)) H nx K F
def fbK(dr:Bool)(P:Program)(B:Nat)(o:Oper)(l:Env)(H:Hp)(nx:Nat)(iv:Iv)(w:World)(Fd:SV->Hp->Nat->Iv->World->Prop):Prop:=
 match dr with
 |true=>False
 |false=>zU P B o l H nx iv w Fd
structure OpG(P:Program)(B:Nat)(o:Oper)(l:Env)(H:Hp)(nx:Nat)(iv:Iv)(w:World)(Fd:SV->Hp->Nat->Iv->World->Prop):Prop where
 h:∀(O:Nat->eH) J (e:Operand->Value),Rel H nx iv B w O J->(∀x v,ev l x=some v->e x=v.den O)->
  ∃F w3 H' K,(execOp e o).run P J= .ok .skip w3/\Rel H' nx K B F O w3/\Fd (.o (.v undef)) H' nx K F
def gbK(dr:Bool)(P:Program)(B:Nat)(o:Oper)(l:Env)(H:Hp)(nx:Nat)(iv:Iv)(w:World)(Fd:SV->Hp->Nat->Iv->World->Prop):Prop:=
 match dr with
 |true=>False
 |false=>OpG P B o l H nx iv w Fd
structure OpA(P:Program)(B:Nat)(o:Oper)(l:Env)(H:Hp)(nx:Nat)(iv:Iv)(w:World)(Fd:SV->Hp->Nat->Iv->World->Prop):Prop where
 h:∀(O:Nat->eH) J (e:Operand->Value),Rel H nx iv B w O J->(∀x v,ev l x=some v->e x=v.den O)->
  ∃v H' Pr K F' F w3,(execOp e o).run P J= .ok (.value (SV.den F' v)) w3/\Rel H' Pr K B F F' w3/\v.sc Pr/\nx<=Pr/\(∀id,id<nx->O id=F' id)/\Fd v H' Pr K F
def gaK(dr:Bool)(P:Program)(B:Nat)(o:Oper)(l:Env)(H:Hp)(nx:Nat)(iv:Iv)(w:World)(Fd:SV->Hp->Nat->Iv->World->Prop):Prop:=
 match dr with
 |true=>False
 |false=>OpA P B o l H nx iv w Fd
def aAb(H:Hp):SV->Bool
 | .o (.s id _ _ _)=>match dV H id with
  |some (.box _ [.s _ _ _ _])=>true
  |some (.box _ [.w _ _])=>true
  |_=>false
 |_=>false
def Oq(H:Hp):SV->SV->Bool
 | .o (.p id _),.o (.s _ _ _ _)=>match dV H id with
  |some (.arr _ _)=>true
  |_=>false
 |_,_=>false
def qC:List SV->(List Nat->Prop)->Prop
 |[],k=>k []
 | .o (.p id 0)::r,k=>qC r (fun l=>k (id::l))
 |_::_,_=>False
def zl(dr:Bool)(P:Program)(τ:mo)(B:Nat)(o:Oper)(l:Env)(H:Hp)(nx:Nat)(iv:Iv)(w:World)(Fd:SV->Hp->Nat->Iv->World->Prop):Prop:=
 match o.op with
 | .move x=>rU l x (fun v=>Fd v H nx iv w)
 | .assign x=>rU l x (fun v=>Fd v H nx iv w)
 | .pick c a b=>rU l c (fun v=>match v with
  | .o (.v (.bool t))=>zk t (rU l a (fun v=>Fd v H nx iv w)) (rU l b (fun v=>Fd v H nx iv w))
  |_=>False)
 | .alloc t=>match τ t with
  |some ⟨_,_,_,ze,_,_,_,_,_⟩=>rW ze (fun cs=>CQ (.box t cs) H nx (fun H' Pr=>Fd (.o (.p nx 0)) H' Pr iv w))
  |none=>False
 | .box t x=>rU l x (fun v=>zj v (fun cs=>CQ (.box t cs) H nx (fun H' Pr=>Fd (.o (.p nx 0)) H' Pr iv w)))
 | .build t parts=>match τ t with
  |some ⟨_,_,_,ze,tag,_,e,_,fs⟩=>match Nat.beq tag 5 with
   |true=>rW ze (fun z=>xO l (fun i k=>r8 τ fs i (fun off sz _=>k off sz)) parts.toList z (fun cs=>Fd (.a cs) H nx iv w))
   |false=>match Nat.beq tag 6 with
    |true=>match τ e with
     |some ⟨sz,_,_,_,_,_,_,_,_⟩=>rW ze (fun z=>xO l (fun i k=>k (i*sz) sz) parts.toList z (fun cs=>Fd (.a cs) H nx iv w))
     |none=>False
    |false=>False
  |none=>False
 | .buildSlice t n parts=>match τ t with
  |some ⟨_,_,_,_,tag,_,e,_,_⟩=>match Nat.beq tag 4 with
   |true=>match τ e with
    |some ⟨sz,_,_,ze,_,_,_,_,_⟩=>match Nat.ble (n*sz) 16777216 with
     |true=>rW (List.replicate n ze).flatten (fun z=>xO l (fun i k=>k (i*sz) sz) parts.toList z (fun cs=>
       CQ (.box e cs) H nx (fun H' Pr=>Fd (.o (.s nx 0 n n)) H' Pr iv w)))
     |false=>False
    |none=>False
   |false=>False
  |none=>False
 | .load t a=>rU l a (fun v=>zy τ B t v H nx iv w (fun r=>Fd r H nx iv w))
 | .store t a x=>rU l a (fun va=>rU l x (fun vx=>match Oq H va vx with
  |true=>gbK dr P B o l H nx iv w Fd
  |false=>H7 τ B t va vx H nx iv w (fun H' J=>Fd (.o (.v undef)) H' nx iv J)))
 | .nilCheck x=>rU l x (fun v=>match v with
  | .o (.p id off)=>Fd (.o (.p id off)) H nx iv w
  | .o (.v (.pointer (some ad)))=>Fd (.o (.v (.pointer (some ad)))) H nx iv w
  | .o (.fn f ids)=>Fd (.o (.fn f ids)) H nx iv w
  | .o (.v (.func (.func f) fi ca))=>Fd (.o (.v (.func (.func f) fi ca))) H nx iv w
  |_=>False)
 | .binOp op t x y _=>rU l x (fun vx=>rU l y (fun vy=>PS P τ op t vx vy (fun r=>Fd r H nx iv w)))
 | .unOp op _ x=>rU l x (fun v=>match op,v with
  | .not,.o (.v (.bool b))=>Fd (.o (.v (.bool (!b)))) H nx iv w
  | .neg,.o (.v (.int k n))=>∃r,k.wrap (0-n)=r/\Fd (.o (.v (.int k r))) H nx iv w
  | .xor,.o (.v (.int k n))=>∃r,k.wrap ((BitVec.ofInt k.bits (if k.signed then -1 else k.max) ^^^ BitVec.ofInt k.bits n).toNat:Int)=r/\Fd (.o (.v (.int k r))) H nx iv w
  |_,_=>False)
 | .convert sr d x=>match τ sr with
  |some _=>rU l x (fun v=>match τ d with
   |some ⟨_,_,_,_,tag,ik,_,_,_⟩=>match Nat.beq tag 1 with
    |true=>match v with
     | .o (.v (.int _ n))=>∃r,ik.wrap n=r/\Fd (.o (.v (.int ik r))) H nx iv w
     |_=>False
    |false=>fbK dr P B o l H nx iv w Fd
   |none=>False)
  |none=>False
 | .makeFunc (.func f) ⟨first⟩ caps=>match first with
  |[]=>LV l caps.toList (fun vs=>qC vs (fun ids=>Fd (.o (.fn f ids)) H nx iv w))
  |_=>False
 | .makeSlice t x y=>rU l x (fun vx=>rU l y (fun vy=>Iu τ t vx vy H nx (fun v H' Pr=>Fd v H' Pr iv w)))
 | .slice t x lo N none=>rU l x (fun v=>H9 τ H t v l lo N (fun r=>Fd r H nx iv w))
 | .slice t x (some lo) (some N) (some mx)=>rU l x (fun v=>ED τ t v l lo N mx (fun r=>Fd r H nx iv w))
 | .fieldAddr t x f=>match τ t with
  |some ⟨_,_,_,_,tag,_,_,_,fs⟩=>match Nat.beq tag 5 with
   |true=>r8 τ fs f (fun off _ _=>rU l x (fun v=>zV v off (fun r=>Fd r H nx iv w)))
   |false=>False
  |none=>False
 | .field t x f=>match τ t with
  |some ⟨_,_,_,_,tag,_,_,_,fs⟩=>match Nat.beq tag 5 with
   |true=>r8 τ fs f (fun off sz ag=>rU l x (fun v=>match v with
    | .o (.v (.agg ⟨vs⟩))=>rW vs (fun cs=>match ag with
     |true=>vU cs off (fun r=>vV r sz (fun c=>Fd (.a c) H nx iv w))
     |false=>match EC cs off with
      |some c=>Fd (.o c) H nx iv w
      |none=>False)
    | .a cs=>match ag with
     |true=>vU cs off (fun r=>vV r sz (fun c=>Fd (.a c) H nx iv w))
     |false=>match EC cs off with
      |some c=>Fd (.o c) H nx iv w
      |none=>False
    |_=>False))
   |false=>False
  |none=>False
 | .indexAddr t x i=>rU l x (fun vx=>rU l i (fun vi=>H8 τ H t vx vi (fun r=>Fd r H nx iv w)))
 | .extract x i=>rU l x (fun v=>match v with
  | .o (.v (.tuple ⟨vs⟩))=>match Js vs i with
   |some u=>Fd (.o (.v u)) H nx iv w
   |none=>False
  |_=>False)
 | .call ⟨.builtin .len,⟨[x]⟩,⟨[t]⟩⟩=>rU l x (fun v=>PT τ H t v (fun n=>Fd (.o (.v (.int .i64 n))) H nx iv w))
 | .call ⟨.builtin .append,⟨[x,y]⟩,⟨[t,u]⟩⟩=>match Nat.beq t u with
  |true=>rU l x (fun vx=>rU l y (fun vy=>match aAb H vy with
   |true=>gaK dr P B o l H nx iv w Fd
   |false=>zW τ B t vx vy H nx iv w (fun v H' Pr=>Fd v H' Pr iv w)\/zU P B o l H nx iv w Fd))
  |false=>zU P B o l H nx iv w Fd
 | .call ⟨.builtin .max,⟨[x,y]⟩,_⟩=>rU l x (fun vx=>rU l y (fun vy=>match vx,vy with
  | .o (.v (.int k a)),.o (.v (.int k' b))=>match rZ k k' with
   |true=>Fd (.o (.v (.int k (max a b)))) H nx iv w
   |false=>False
  |_,_=>False))
 | .call ⟨.builtin .min,⟨[x,y]⟩,_⟩=>rU l x (fun vx=>rU l y (fun vy=>match vx,vy with
  | .o (.v (.int k a)),.o (.v (.int k' b))=>match rZ k k' with
   |true=>Fd (.o (.v (.int k (min a b)))) H nx iv w
   |false=>False
  |_,_=>False))
 | .call ⟨.builtin .copy,_,_⟩=>zU P B o l H nx iv w Fd
 | .call ⟨.builtin .clear,_,_⟩=>zU P B o l H nx iv w Fd
 | .call ⟨.builtin .cap,_,_⟩=>zU P B o l H nx iv w Fd
 | .index _ _ _=>zU P B o l H nx iv w Fd
 | .makeMap _ _=>zU P B o l H nx iv w Fd
 | .lookup _ _ _ _=>zU P B o l H nx iv w Fd
 | .mapUpdate _ _ _ _=>zU P B o l H nx iv w Fd
 | .call ⟨.value f,⟨args⟩,_⟩=>rU l f (fun vf=>LV l args (fun vs=>match vf with
   | .o (.v (.func (.func g) first caps))=>Le dr P B g (fun O=>first++qB O vs++caps) H nx iv w (fun v H' K J=>Fd v H' nx K J)
   | .o (.fn g ids)=>Le dr P B g (fun O=>qB O vs++(ids.map fun id=>Value.pointer (some ⟨(O id).g,0,none⟩)).toArray) H nx iv w (fun v H' K J=>Fd v H' nx K J)
   |_=>False))
 |_=>False
def DC:List Oper->Nat->Option Tmp
 |[],_=>none
 |o::_,0=>o.dst
 |_::r,n+1=>DC r n
def FW(d:Option Tmp)(v:SV)(l:Env)(k:Env->Prop):Prop:=match d with
 |some t=>k ((t,v)::l)
 |none=>k l
def tP(all:List Oper)(g:Option (Nat×Bool))(l:Env)(yes no:Env->Prop):Prop:=
 match g with
 |none=>yes l
 |some (j,want)=>match DC all j with
  |none=>no l
  |some d=>match fZ l d with
   |some (.o (.v (.bool b)))=>match want with
    |true=>zk b (yes ((d,.o (.v (.bool true)))::l)) (no ((d,.o (.v (.bool false)))::l))
    |false=>zk b (no ((d,.o (.v (.bool true)))::l)) (yes ((d,.o (.v (.bool false)))::l))
   |some (.o (.v (.tuple _)))=>no l
   |_=>False
def fA(dr:Bool)(P:Program)(τ:mo)(B:Nat)(all:List Oper)(o:Oper)(l:Env)(H:Hp)(nx:Nat)(iv:Iv)(w:World)(k:Env->Hp->Nat->Iv->World->Prop):Prop:=
 tP all o.guard l
  (fun l=>zl dr P τ B o l H nx iv w (fun v H' Pr K J=>FW o.dst v l (fun l'=>k l' H' Pr K J)))
  (fun l=>FW o.dst (.o (.v undef)) l (fun l'=>k l' H nx iv w))
def yG(P:Program)(τ:mo)(B:Nat)(all:List Oper):List Oper->Env->Hp->Nat->Iv->World->(Env->Hp->Nat->Iv->World->Prop)->Prop
 |[],l,H,nx,iv,w,Fd=>Fd l H nx iv w
 |o::r,l,H,nx,iv,w,Fd=>fA false P τ B all o l H nx iv w (fun l' H' Pr K J=>yG P τ B all r l' H' Pr K J Fd)
inductive Ex where
 |normal
 |exit (id:Nat)
 |ret
structure Sat(n:Nat)(l:Env)(H:Hp)(nx:Nat)(iv:Iv)(B:Nat)(w:World)(O:Nat->eH)(a:Act)(J:World):Prop where
 rel:Rel H nx iv B w O J
 size:a.tmps.size=n
 defers:a.defers=[]
 env:∀t v,fZ l t=some v->a.tmps[t]? =some (v.den O)
 sc:∀t v,fZ l t=some v->v.sc nx
abbrev KT:=Env->Hp->Nat->Iv->World->Prop
structure mO(P:Program)(B:Nat)(ops:Array Oper)(l:Env)(H:Hp)(nx:Nat)(iv:Iv)(w:World)(Fd:KT):Prop where
 h:∀n O a J,ops.toList.all (fun o=>match o.dst with
   |some d=>Nat.blt d n
   |none=>true)=true->Sat n l H nx iv B w O a J->
  ∀Q:Exit->Act->World->Prop,(∀l' H' Pr K F F' a' w'',Fd l' H' Pr K F->Sat n l' H' Pr K B F F' a' w''->Q .normal a' w'')->
  ∀id,(Code.region id ops true).wp P Q a J
structure Fg where
 l:Env
 H:Hp
 nx:Nat
 iv:Iv
 w:World
def Sub(B:Nat)(l:Env)(_nx:Nat)(O:Nat->eH)(J:World)(t:Fg):Prop:=
 ∃F',Rel t.H t.nx t.iv B t.w F' J/\(∀u v,fZ t.l u=some v->v.sc t.nx/\∃v0,fZ l u=some v0/\v0.den O=v.den F')
def kE(P:Program)(τ:mo)(B:Nat):Code->Env->Hp->Nat->Iv->World->(Ex->KT)->Prop
 | .skip,l,H,nx,iv,w,Q=>Q .normal l H nx iv w
 | .region _ ops false,l,H,nx,iv,w,Q=>yG P τ B ops.toList ops.toList l H nx iv w (Q .normal)
 | .region _ ops true,l,H,nx,iv,w,Q=>mO P B ops l H nx iv w (Q .normal)
 | .seq a b,l,H,nx,iv,w,Q=>kE P τ B a l H nx iv w (fun e l H nx iv w=>match e with
  | .normal=>kE P τ B b l H nx iv w Q
  | .exit id=>Q (.exit id) l H nx iv w
  | .ret=>Q .ret l H nx iv w)
 | .cond c a b,l,H,nx,iv,w,Q=>rU l c (fun v=>match v with
  | .o (.v (.bool t))=>zk t (kE P τ B a l H nx iv w Q) (kE P τ B b l H nx iv w Q)
  |_=>False)
 | .block id c,l,H,nx,iv,w,Q=>kE P τ B c l H nx iv w (fun e l H nx iv w=>match e with
  | .normal=>Q .normal l H nx iv w
  | .exit id'=>match Nat.beq id' id with
   |true=>Q .normal l H nx iv w
   |false=>Q (.exit id') l H nx iv w
  | .ret=>Q .ret l H nx iv w)
 | .loop c,l,H,nx,iv,w,Q=>∃(α:Type) (st:α->Fg) (μ:α->Nat) (E8:α->Prop),
   (∀O J,Rel H nx iv B w O J->∃x,E8 x/\Sub B l nx O J (st x))/\
   ∀x,E8 x->kE P τ B c (st x).l (st x).H (st x).nx (st x).iv (st x).w (fun e l H nx iv w=>match e with
    | .normal=>∀O J,Rel H nx iv B w O J->∃y,E8 y/\Sub B l nx O J (st y)/\μ y<μ x
    | .exit id=>Q (.exit id) l H nx iv w
    | .ret=>Q .ret l H nx iv w)
 | .exit id,l,H,nx,iv,w,Q=>Q (.exit id) l H nx iv w
 | .ret,l,H,nx,iv,w,Q=>Q .ret l H nx iv w
 |_,_,_,_,_,_,_=>False
structure H6(P:Program)(t:Nat)(i:TI):Prop where
 info:∃inf z,P.info? t=some inf/\inf.size=i.size/\inf.bytes=i.bytes/\inf.zero=some z/\z.cells.toList=i.zero
 Fa:i.zero.length=i.size
 aAa:∀x∈i.zero,x.oneCell'=true
 agg:∃d,P.underlying t=some d/\(match d with| .struct _| .array _ _=>true|_=>false)=i.agg
 i1:i.tag=1->P.underlying t=some (.int i.ik)
 i2:i.tag=2->P.underlying t=some .bool
 i3:i.tag=3->P.underlying t=some .string
 i4:i.tag=4->P.underlying t=some (.slice i.elem)
 i5:i.tag=5->∃fs,P.underlying t=some (.struct fs)/\fs.toList.map (fun f=>(f.offset,f.type))=i.fields/\∀f∈fs.toList,(P.info? f.type).isSome=true
 i6:i.tag=6->P.underlying t=some (.array i.CO i.elem)
def fG(P:Program)(τ:mo):Prop:=∀t i,τ t=some i->H6 P t i
theorem ee{a b:Nat}(h:Nat.beq a b=true):a=b:=bT h
theorem fy:∀{xs:List Value} {k:List At->Prop},rW xs k->k (xs.map At.v)
 |[],_,h=>h
 |x::r,k,h=>by
  have:=fy (xs:=r) (k:=fun r'=>k (.v x::r')) h;simpa using this
theorem qE:∀{cs:List At} {n:Nat} {k:List At->Prop},vU cs n k->k (cs.drop n)/\n<=cs.length
 |cs,0,k,h=>by cases cs<;>exact⟨by simpa [vU]using h,ce⟩
 |[],n+1,k,h=>by simp[vU]at h
 |x::t,n+1,k,h=>by
  have:=qE (cs:=t) (n:=n) (k:=k) h;exact⟨by simpa using this.1,by simp;omega⟩
theorem qF:∀{cs:List At} {n:Nat} {k:List At->Prop},vV cs n k->k (cs.take n)/\n<=cs.length
 |cs,0,k,h=>by cases cs<;>exact⟨by simpa [vV]using h,ce⟩
 |[],n+1,k,h=>by simp[vV]at h
 |x::t,n+1,k,h=>by
  have:=qF (cs:=t) (n:=n) (k:=fun r=>k (x::r)) h;exact⟨by simpa using this.1,by simp;omega⟩
theorem zz:∀{cs new:List At} {k:List At->Prop},Cu cs new k->k (new++cs.drop new.length)/\new.length<=cs.length
 |cs,[],k,h=>by cases cs<;>exact⟨by simpa [Cu]using h,ce⟩
 |[],x::r,k,h=>by simp[Cu]at h
 |_::t,x::r,k,h=>by
  have:=zz (cs:=t) (new:=r) (k:=fun t'=>k (x::t')) h;exact⟨by simpa using this.1,by simp;omega⟩
theorem qG:∀{cs:List At} {off:Nat} {new:List At} {k:List At->Prop},tM cs off new k->
  k (cs.take off++new++cs.drop (off+new.length))/\off+new.length<=cs.length
 |cs,0,new,k,h=>by
  have h':Cu cs new k:=by cases cs<;>simpa [tM]using h
  have:=zz h';exact⟨by simpa using this.1,be⟩
 |[],n+1,new,k,h=>by simp[tM]at h
 |x::t,n+1,new,k,h=>by
  have:=qG (cs:=t) (off:=n) (new:=new) (k:=fun t'=>k (x::t')) h;refine⟨?_,by simp;omega⟩;have I:=this.1;rw[show n+1+new.length=(n+new.length)+1 by omega];simpa using I
theorem one_den{x:At}(h:x.one=true)(O:Nat->eH):(x.den O).oneCell'=true:=by
 cases x with
 |v y=>cases y<;>simp_all [At.one,At.den,Value.oneCell']
 |w id n=>simp only[At.den];split<;>rfl
 |_=>rfl
theorem AA:∀{cs:List At} {k:Prop},Ip cs k->k/\∀c∈cs,At.one c=true
 |[],k,h=>⟨h,ce⟩
 |x::r,k,h=>by
  unfold Ip at h;split at h
  .rename_i E;have:=AA h;exact⟨this.1,by simp[E];exact this.2⟩
  .exact h.elim
theorem nH:∀{cs:List At} {k:List Value->Prop},yp cs k->∃vs,k vs/\cs=vs.map At.v/\∀v∈vs,v.oneCell'=true
 |[],k,h=>⟨[],h,rfl,ce⟩
 | .v x::r,k,h=>by
  unfold yp at h;split at h
  .rename_i E;obtain⟨vs,Y,I,h3⟩:=nH h;exact⟨x::vs,Y,by simp[I],by simp;exact⟨one_den E (fun _=>⟨0,0,false⟩),h3⟩⟩
  .exact h.elim
 | .p _ _::_,k,h=>by simp[yp]at h
 | .s _ _ _ _::_,k,h=>by simp[yp]at h
 | .w _ _::_,k,h=>by simp[yp]at h
 | .fn _ _::_,k,h=>by simp[yp]at h
theorem oI{x:SV}{k:List At->Prop}(h:zj x k):∃cs,k cs/\(∀O,(x.den O).cells=(cs.map (At.den O)).toArray)/\(∀n,x.sc n->∀c∈cs,c.sc n):=by
 cases x with
 |a cs=>exact⟨cs,h,fun O=>rfl,fun n U=>U⟩
 |o y=>
  cases y with
  |v z=>
   cases z with
   |agg arr=>
    obtain⟨l⟩:=arr;refine⟨_,fy h,fun O=>?_,fun n _ c hc=>?_⟩
    .simp[SV.den,At.den,Value.cells,Function.comp_def]
    .simp at hc;obtain⟨v,_,rfl⟩:=hc;trivial
   |tuple arr=>simp[zj]at h
   |_=>exact⟨_,h,fun O=>rfl,fun n _ c hc=>by simp at hc;subst hc;trivial⟩
  |w id n=>exact⟨_,h,fun O=>by simp only[SV.den,At.den,List.map];split<;>rfl,fun n U c hc=>by simp at hc;subst hc;exact U⟩
  |_=>exact⟨_,h,fun O=>rfl,fun n U c hc=>by simp at hc;subst hc;exact U⟩
theorem de(t:Nat)(b:ja)(r:Hp)(u:Nat):dV ((t,b)::r) u=if t=u then some b else dV r u:=by
 show(match Nat.beq t u with|true=>some b|false=>dV r u)=_;split
 .rename_i h;rw[aM (ee h)]
 .rename_i h;rw[aI (fun e=>by subst e;rw[Nat.beq_refl]at h;cases h)]
theorem fE(t:Nat)(b:SV)(r:Env)(u:Nat):fZ ((t,b)::r) u=if t=u then some b else fZ r u:=by
 show(match Nat.beq t u with|true=>some b|false=>fZ r u)=_;split
 .rename_i h;rw[aM (ee h)]
 .rename_i h;rw[aI (fun e=>by subst e;rw[Nat.beq_refl]at h;cases h)]
theorem tQ:∀{H:Hp} {id:Nat} {b:ja} {k:Hp->Prop},H0 H id b k->∃H',k H'/\(∀j,dV H' j=if j=id then some b else dV H j)/\(dV H id).isSome=true
 |[],id,b,k,h=>by simp[H0]at h
 |(t,v)::r,id,b,k,h=>by
  unfold H0 at h;split at h
  .rename_i ht;have:=ee ht;subst this;refine⟨_,h,fun j=>?_,by simp[de]⟩;simp only[de]
   by_cases e:t=j
   .simp[e]
   .simp[e,Ne.symm e]
  .rename_i ht;have Po:t≠id:=fun e=>by subst e;rw[Nat.beq_refl]at ht;cases ht
   obtain⟨H',Y,I,h3⟩:=tQ h;refine⟨_,Y,fun j=>?_,by simp[de,Po,h3]⟩;simp only[de,I]
   by_cases e:t=j
   .subst e;simp[Po]
   .simp[e]
theorem uZ:∀{H:Hp} {id:Nat} {k:Hp->Prop},Ct H id k->∃H',k H'/\(∀j,dV H' j=if j=id then some .dead else dV H j)/\(dV H id).isSome=true
 |[],id,k,h=>by simp[Ct]at h
 |(t,v)::r,id,k,h=>by
  unfold Ct at h;split at h
  .rename_i ht;have:=ee ht;subst this;refine⟨_,h,fun j=>?_,by simp[de]⟩;simp only[de]
   by_cases e:t=j
   .simp[e]
   .simp[e,Ne.symm e]
  .rename_i ht;have Po:t≠id:=fun e=>by subst e;rw[Nat.beq_refl]at ht;cases ht
   obtain⟨H',Y,I,h3⟩:=uZ h;refine⟨_,Y,fun j=>?_,by simp[de,Po,h3]⟩;simp only[de,I]
   by_cases e:t=j
   .subst e;simp[Po]
   .simp[e]
theorem At.nI{x:At}{O F':Nat->eH}(h:∀id,id<n->O id=F' id)(E:x.sc n):x.den O=x.den F':=by
 cases x with
 |v y=>rfl
 |p id off=>simp only[At.den,h id E]
 |s id off len cap=>simp only[At.den,h id E]
 |w id len=>simp only[At.den,h id E]
 |fn f caps=>
  simp only[At.den]
  congr 2;exact List.map_congr_left fun id RE=>by rw[h id (E id RE)]
theorem SV.nI{x:SV}{O F':Nat->eH}(h:∀id,id<n->O id=F' id)(E:x.sc n):x.den O=x.den F':=by
 cases x with
 |o y=>exact At.nI h E
 |a cs=>
  simp only[SV.den]
  congr 2;exact List.map_congr_left fun c hc=>At.nI h (E c hc)
theorem At.ve{x:At}(h:n<=m)(E:x.sc n):x.sc m:=by
 cases x with
 |v y=>trivial
 |fn f caps=>intro id RE;have:=E id RE;omega
 |_=>simp only[At.sc]at *;omega
theorem SV.ve{x:SV}(h:n<=m)(E:x.sc n):x.sc m:=by
 cases x with
 |o y=>exact At.ve h E
 |a cs=>exact fun c hc=>At.ve h (E c hc)
theorem Rel.drew{H:Hp}{iv:Iv}{w:World}{O:Nat->eH}(r:Rel H nx iv B w O J):Rel H nx iv B w O J.drew:=
 ⟨r.os,r.tape,r.output,r.size,r.base,r.oc,r.keys,r.box,r.arr,r.vec,r.inj,r.low,r.Dz,r.jU,r.Nh,r.nn⟩
def jG(O:Nat->eH)(nx:Nat)(v:eH):Nat->eH:=fun j=>if j=nx then v else O j
theorem iO{O:Nat->eH}{v:eH}:∀id,id<nx->O id=jG O nx v id:=fun id h=>by simp[jG,Nat.ne_of_lt h]
@[simp] theorem fj {O:Nat->eH} {nx:Nat} {v:eH}:jG O nx v nx=v:=by simp[jG]
def ja.fits(b:ja)(O:Nat->eH)(v:eH)(w:World):Prop:=
 match b with
 | .box t cs=>v.nil=false/\w.heap[v.g]? =some (.cells (cs.map (At.den O)).toArray t (0,0))
 | .arr t cs=>v.nil=false/\w.heap[v.g]? =some (.cells cs.toArray t (0,0))
 | .vec t size cs=>(v.nil=true/\cs=[])\/(v.nil=false/\∃spare:List Value,w.heap[v.g]? =some (.cells (cs++spare).toArray t (0,0))/\(cs++spare).length=v.cap*size/\v.cap<=maxLen)
 | .dead=>True
def ja.scopd(b:ja)(n:Nat):Prop:=match b with
 | .box _ cs=>∀x∈cs,At.sc n x
 |_=>True
theorem Rel.fits{H:Hp}{iv:Iv}{w:World}{O:Nat->eH}(r:Rel H nx iv B w O J){b:ja}(h:dV H id=some b):b.fits O (O id) J:=by
 cases b with
 |box t cs=>exact⟨r.nn id _ h (by intros;simp) ce,r.box id t cs h⟩
 |arr t cs=>exact⟨r.nn id _ h (by intros;simp) ce,r.arr id t cs h⟩
 |vec t size cs=>exact r.vec id t size cs h
 |dead=>trivial
theorem Rel.mk'{H:Hp}{iv:Iv}{w:World}{O:Nat->eH}(os:J.os=w.os)(tape:J.tape=w.tape)(output:J.output=w.output)
  (size:w.heap.size<=J.heap.size) (base:B<=w.heap.size) (oc:∀lo N,(lo,N)∈iv->N<=w.heap.size) (keys:∀id b,dV H id=some b->id<nx)
  (fits:∀id b,dV H id=some b->b.fits O (O id) J) (Nh:∀id b,dV H id=some b->b.scopd nx)
  (inj:∀id id' b b',dV H id=some b->dV H id'=some b'->b≠ .dead->b'≠ .dead->(O id).nil=false->(O id').nil=false->(O id).g=(O id').g->id=id')
  (low:∀id b,dV H id=some b->(O id).nil=false->B<=(O id).g/\(O id).g<J.heap.size)
  (Dz:∀k,k<w.heap.size->(∀id b,dV H id=some b->(O id).nil=false->(O id).g≠k)->J.heap[k]? =w.heap[k]?)
  (jU:∀lo N,(lo,N)∈iv->∀id b,dV H id=some b->(O id).nil=false->¬(lo<=(O id).g/\(O id).g<N)):Rel H nx iv B w O J where
 os:=os
 tape:=tape
 output:=output
 size:=size
 base:=base
 oc:=oc
 keys:=keys
 box:=fun id t cs h=>(fits id _ h).2
 arr:=fun id t cs h=>(fits id _ h).2
 vec:=fun id t size cs h=>fits id _ h
 inj:=inj
 low:=low
 Dz:=Dz
 jU:=jU
 Nh:=fun id t cs h=>Nh id _ h
 nn:=fun id b h Y I=>by
  have:=fits id b h
  cases b with
  |box t cs=>exact this.1
  |arr t cs=>exact this.1
  |vec t size cs=>exact absurd rfl (Y t size cs)
  |dead=>exact absurd rfl I
theorem ja.iY{b:ja}{O F':Nat->eH}{v:eH}{w:World}(h:b.fits O v w)(G8:∀id,id<n->O id=F' id)(hs:b.scopd n)
  (G:v.nil=false->b≠ .dead->J.heap[v.g]? =w.heap[v.g]?):b.fits F' v J:=by
 cases b with
 |box t cs=>
  obtain⟨Y,I⟩:=h;refine⟨Y,?_⟩;rw[G Y ce,I,List.map_congr_left fun c hc=>At.nI G8 (hs c hc)]
 |arr t cs=>exact⟨h.1,by rw[G h.1 ce];exact h.2⟩
 |vec t size cs=>
  rcases h with h|⟨Y,spare,I,h3⟩
  .exact .inl h
  .exact .inr ⟨Y,spare,by rw[G Y ce];exact I,h3⟩
 |dead=>trivial
theorem ja.kM{b:ja}(h:n<=m)(A:b.scopd n):b.scopd m:=by
 cases b with
 |box t cs=>exact fun c hc=>At.ve h (A c hc)
 |_=>trivial
theorem Rel.scopd{H:Hp}{iv:Iv}{w:World}{O:Nat->eH}(r:Rel H nx iv B w O J){b:ja}(h:dV H id=some b):b.scopd nx:=by
 cases b with
 |box t cs=>exact r.Nh id t cs h
 |_=>trivial
theorem Rel.push{H:Hp}{iv:Iv}{w:World}{O:Nat->eH}(r:Rel H nx iv B w O J)(b:ja)(v:eH)
  (os:F.os=J.os) (tape:F.tape=J.tape) (output:F.output=J.output) (size:J.heap.size<=F.heap.size) (old:∀k,k<J.heap.size->F.heap[k]? =J.heap[k]?)
  (hv:v.nil=false->J.heap.size<=v.g/\v.g<F.heap.size) (A:b.fits O v F) (hs:b.scopd nx):Rel ((nx,b)::H) (nx+1) iv B w (jG O nx v) F:=by
 have QZ:∀id b,dV H id=some b->id≠nx:=fun id b h=>Nat.ne_of_lt (r.keys id b h);have Rz:∀id b,dV H id=some b->jG O nx v id=O id:=fun id b h=>by simp[jG,QZ id b h]
 refine Rel.mk' (os.trans r.os) (tape.trans r.tape) (output.trans r.output) (aR r.size size) r.base r.oc ?_ ?_ ?_ ?_ ?_ ?_ ?_
 .intro id b' h;rw[de]at h;split at h
  .omega
  .have:=r.keys id b' h;omega
 .intro id b' h;rw[de]at h;split at h
  .rename_i e;subst e;injection h with h;subst h;rw[fj];exact ja.iY A iO hs (fun _ _=>rfl)
  .rw[Rz id b' h];exact ja.iY (r.fits h) iO (r.scopd h) (fun Y _=>old _ (r.low id b' h Y).2)
 .intro id b' h;rw[de]at h;split at h
  .injection h with h;subst h;exact ja.kM be hs
  .exact ja.kM be (r.scopd h)
 .intro id id' b1 b2 Y I d1 d2 n1 n2 e;rw[de]at Y I;split at Y<;>split at I
  .omega
  .rename_i e1 e2;subst e1;rw[fj]at e n1;rw[Rz id' b2 I]at e n2;have:=(r.low id' b2 I n2).2;have:=(hv n1).1;omega
  .rename_i e1 e2;subst e2;rw[fj]at e n2;rw[Rz id b1 Y]at e n1;have:=(r.low id b1 Y n1).2;have:=(hv n2).1;omega
  .rw[Rz id b1 Y]at e n1;rw[Rz id' b2 I]at e n2;exact r.inj id id' b1 b2 Y I d1 d2 n1 n2 e
 .intro id b' h n1;rw[de]at h;split at h
  .rename_i e;subst e;rw[fj]at n1 ⊢;have:=hv n1;have:=r.base;have:=r.size;omega
  .rw[Rz id b' h]at n1 ⊢;have:=r.low id b' h n1;omega
 .intro k R Po;rw[old k (by have:=r.size;omega)];refine r.Dz k R fun id b' h n1=>?_;have:=Po id b' (by rw[de,aI (Ne.symm (QZ id b' h))];exact h) (by rw[Rz id b' h];exact n1)
  rwa [Rz id b' h]at this
 .intro lo N hm id b' h n1;rw[de]at h;split at h
  .rename_i e;subst e;rw[fj]at n1 ⊢;have:=hv n1;have:=r.oc lo N hm;have:=r.size;omega
  .rw[Rz id b' h]at n1 ⊢;exact r.jU lo N hm id b' h n1
theorem Rel.store{H H':Hp}{iv:Iv}{w:World}{O:Nat->eH}(r:Rel H nx iv B w O J){b b':ja}(RE:dV H id=some b)(hd:b≠ .dead)(U:(O id).nil=false)
  (hH:∀j,dV H' j=if j=id then some b' else dV H j)
  (os:F.os=J.os) (tape:F.tape=J.tape) (output:F.output=J.output) (size:F.heap.size=J.heap.size) (old:∀k,k≠(O id).g->F.heap[k]? =J.heap[k]?)
  (A:b'.fits O (O id) F) (hs:b'.scopd nx):Rel H' nx iv B w O F:=by
 have key:∀j c,dV H' j=some c->∃c',dV H j=some c':=fun j c h=>by
  rw[hH]at h;split at h
  .rename_i e;subst e;exact⟨b,RE⟩
  .exact⟨c,h⟩
 refine Rel.mk' (os.trans r.os) (tape.trans r.tape) (output.trans r.output) (by rw[size];exact r.size) r.base r.oc ?_ ?_ ?_ ?_ ?_ ?_ ?_
 .intro j c h;obtain⟨c',h'⟩:=key j c h;exact r.keys j c' h'
 .intro j c h;rw[hH]at h;split at h
  .rename_i e;subst e;injection h with h;subst h;exact A
  .rename_i e;refine ja.iY (r.fits h) (fun _ _=>rfl) (r.scopd h) (fun Y I=>old _ fun e2=>e ?_);exact r.inj j id c b h RE I hd Y U e2
 .intro j c h;rw[hH]at h;split at h
  .injection h with h;subst h;exact hs
  .exact r.scopd h
 .intro j j' c c' Y I d1 d2 n1 n2 e;rw[hH]at Y I;have l1:∃c1,dV H j=some c1/\c1≠ .dead:=by
   split at Y
   .rename_i e1;subst e1;exact⟨b,RE,hd⟩
   .exact⟨c,Y,d1⟩
  have l2:∃c1,dV H j'=some c1/\c1≠ .dead:=by
   split at I
   .rename_i e1;subst e1;exact⟨b,RE,hd⟩
   .exact⟨c',I,d2⟩
  obtain⟨c1,g1,g2⟩:=l1;obtain⟨c2,g3,g4⟩:=l2;exact r.inj j j' c1 c2 g1 g3 g2 g4 n1 n2 e
 .intro j c h n1;obtain⟨c',h'⟩:=key j c h;rw[size];exact r.low j c' h' n1
 .intro k R Po;have hkg:k≠(O id).g:=fun e=>Po id b' (by rw[hH];simp) U e.symm;rw[old k hkg];refine r.Dz k R fun j c h n1=>?_;by_cases e:j=id
  .subst e;exact Ne.symm hkg
  .exact Po j c (by rw[hH,aI e];exact h) n1
 .intro lo N hm j c h n1;obtain⟨c',h'⟩:=key j c h;exact r.jU lo N hm j c' h' n1
theorem Rel.Lg{H H1:Hp}{iv:Iv}{w:World}{O:Nat->eH}(r:Rel H nx iv B w O J){b0:ja}(RE:dV H id=some b0)(hd:b0≠ .dead)
  (hH:∀j,dV H1 j=if j=id then some .dead else dV H j) (b:ja) (v:eH)
  (os:F.os=J.os) (tape:F.tape=J.tape) (output:F.output=J.output) (size:J.heap.size<=F.heap.size)
  (old:∀k,k<J.heap.size->((O id).nil=false->k≠(O id).g)->F.heap[k]? =J.heap[k]?)
  (hv:v.nil=false->(J.heap.size<=v.g/\v.g<F.heap.size)\/((O id).nil=false/\v.g=(O id).g)) (A:b.fits O v F) (hs:b.scopd nx):Rel ((nx,b)::H1) (nx+1) iv B w (jG O nx v) F:=by
 have key:∀j c,dV H1 j=some c->∃c',dV H j=some c'/\(c≠ .dead->c'=c/\j≠id):=fun j c h=>by
  rw[hH]at h;split at h
  .rename_i e;subst e;injection h with h;exact⟨b0,RE,fun I=>absurd h.symm I⟩
  .rename_i e;exact⟨c,h,fun _=>⟨rfl,e⟩⟩
 have QZ:∀j c,dV H1 j=some c->j≠nx:=fun j c h=>by obtain⟨c',h',_⟩:=key j c h;exact Nat.ne_of_lt (r.keys j c' h')
 have Rz:∀j c,dV H1 j=some c->jG O nx v j=O j:=fun j c h=>by simp[jG,QZ j c h]
 have hidlt:=r.keys id b0 RE;have hvlow:v.nil=false->B<=v.g/\v.g<F.heap.size:=fun U=>by
  rcases hv U with h|⟨Y,I⟩
  .have:=r.base;have:=r.size;omega
  .have:=r.low id b0 RE Y;omega
 refine Rel.mk' (os.trans r.os) (tape.trans r.tape) (output.trans r.output) (aR r.size size) r.base r.oc ?_ ?_ ?_ ?_ ?_ ?_ ?_
 .intro j b' h;rw[de]at h;split at h
  .omega
  .obtain⟨c',h',_⟩:=key j b' h;have:=r.keys j c' h';omega
 .intro j b' h;rw[de]at h;split at h
  .rename_i e;subst e;injection h with h;subst h;rw[fj];exact ja.iY A iO hs (fun _ _=>rfl)
  .rw[Rz j b' h];by_cases Ug:b'= .dead
   .subst Ug;trivial
   .obtain⟨c',h',I⟩:=key j b' h;obtain⟨rfl,Po⟩:=I Ug;exact ja.iY (r.fits h') iO (r.scopd h') (fun Y _=>old _ (r.low j c' h' Y).2 fun h3 e=>Po (r.inj j id c' b0 h' RE Ug hd Y h3 e))
 .intro j b' h;rw[de]at h;split at h
  .injection h with h;subst h;exact ja.kM be hs
  .by_cases Ug:b'= .dead
   .subst Ug;trivial
   .obtain⟨c',h',I⟩:=key j b' h;obtain⟨rfl,Po⟩:=I Ug;exact ja.kM be (r.scopd h')
 .have cross:∀j c,dV H1 j=some c->c≠ .dead->(O j).nil=false->v.nil=false->v.g≠(O j).g:=fun j c h dd nj nv e=>by
   obtain⟨c',h',I⟩:=key j c h;obtain⟨rfl,Po⟩:=I dd;rcases hv nv with h3|⟨h3,h4⟩
   .have:=(r.low j c' h' nj).2;omega
   .exact Po (r.inj j id c' b0 h' RE dd hd nj h3 be)
  intro j j' b1 b2 Y I d1 d2 n1 n2 e;rw[de]at Y I;split at Y<;>split at I
  .omega
  .rename_i e1 e2;subst e1;rw[fj]at e n1;rw[Rz j' b2 I]at e n2;exact absurd e (cross j' b2 I d2 n2 n1)
  .rename_i e1 e2;subst e2;rw[fj]at e n2;rw[Rz j b1 Y]at e n1;exact absurd e.symm (cross j b1 Y d1 n1 n2)
  .rw[Rz j b1 Y]at e n1;rw[Rz j' b2 I]at e n2;obtain⟨c1,g1,k1⟩:=key j b1 Y;obtain⟨c2,g2,k2⟩:=key j' b2 I;obtain⟨rfl,_⟩:=k1 d1;obtain⟨rfl,_⟩:=k2 d2;exact r.inj j j' c1 c2 g1 g2 d1 d2 n1 n2 e
 .intro j b' h n1;rw[de]at h;split at h
  .rename_i e;subst e;rw[fj]at n1 ⊢;exact hvlow n1
  .rw[Rz j b' h]at n1 ⊢;obtain⟨c',h',_⟩:=key j b' h;have:=r.low j c' h' n1;omega
 .intro k R Po;have hkey:∀j c,dV H j=some c->(O j).nil=false->(O j).g≠k:=fun j c h nj=>by
   have hj:dV H1 j=some (if j=id then .dead else c):=by rw[hH];split<;>simp[h]
   have:=Po j _ (by rw[de,aI (Ne.symm (QZ j _ hj))];exact hj) (by rw[Rz j _ hj];exact nj)
   rwa [Rz j _ hj]at this
  rw[old k (by have:=r.size;omega) (fun h e=>hkey id b0 RE h e.symm)];exact r.Dz k R hkey
 .intro lo N hm j b' h n1;rw[de]at h;split at h
  .rename_i e;subst e;rw[fj]at n1 ⊢;rcases hv n1 with h3|⟨h3,h4⟩
   .have:=r.oc lo N hm;have:=r.size;omega
   .rw[h4];exact r.jU lo N hm id b0 RE h3
  .rw[Rz j b' h]at n1 ⊢;obtain⟨c',h',_⟩:=key j b' h;exact r.jU lo N hm j c' h' n1
section
variable{P:Program}{τ:mo}{B n nx:Nat}{l:Env}{H:Hp}{iv:Iv}{w J:World}{O:Nat->eH}{a:Act}
theorem vg(sat:Sat n l H nx iv B w O a J){x:Operand}{v:SV}(h:ev l x=some v):a.eval x=v.den O/\v.sc nx:=by
 cases x with
 |tmp t=>
  have Y:=sat.env t v h;exact⟨by simp[Act.eval,Y],sat.sc t v h⟩
 |const c=>simp[ev]at h;subst h;exact⟨rfl,trivial⟩
 |global g=>simp[ev]at h;subst h;exact⟨rfl,trivial⟩
 |func f=>simp[ev]at h;subst h;exact⟨rfl,trivial⟩
theorem dy(sat:Sat n l H nx iv B w O a J){x:Operand}{k:SV->Prop}(h:rU l x k):∃v,k v/\a.eval x=v.den O/\v.sc nx:=by
 unfold rU at h;split at h
 .rename_i v hv;exact⟨v,h,vg sat hv⟩
 .exact h.elim
theorem tO(sat:Sat n l H nx iv B w O a J):∀{xs:List Operand} {k:List SV->Prop},LV l xs k->∃vs,k vs/\xs.map a.eval=vs.map (SV.den O)/\∀v∈vs,SV.sc nx v
 |[],k,h=>⟨[],h,rfl,ce⟩
 |x::r,k,h=>by
  unfold LV at h;split at h
  .rename_i v hv;obtain⟨vs,Y,I,h3⟩:=tO sat (xs:=r) h;have:=vg sat hv;exact⟨v::vs,Y,by simp[this.1,I],by simp;exact⟨this.2,h3⟩⟩
  .exact h.elim
theorem kf{o:Oper}{a:Act}{w:World}{v:Value}(h:(execOp a.eval o).run P w= .ok (.value v) F)(R:next (a.put o.dst v) F):o.wp P a w next Q:=by
 unfold Oper.wp;rw[h];exact R
theorem Lh{o:Oper}{a:Act}{w:World}(h:(execOp a.eval o).run P w= .ok .skip F)(R:next (a.put o.dst undef) F):o.wp P a w next Q:=by
 unfold Oper.wp;rw[h];exact R
theorem mX{s:Sem Value}{w:World}{v:Value}(h:s.run P w= .ok v F):((do pure (.value (<-s))):Sem Next).run P w= .ok (.value v) F:=by
 simp[h]
theorem H6.isAgg{t:Nat}{i:TI}(h:H6 P t i)(w:World):(isAgg t).run P w= .ok i.agg w:=by
 obtain⟨d,Y,I⟩:=h.agg;unfold Go.isAgg;rw[Sem.run_bind,run_underlying Y w,<-I]
 cases d<;>rfl
theorem H6.sizeOf{t:Nat}{i:TI}(h:H6 P t i)(w:World):(sizeOf t).run P w= .ok i.size w:=by
 obtain⟨inf,z,Y,I,_⟩:=h.info;simp[Go.sizeOf,typeInfo,Y,I]
theorem H6.zeroV{t:Nat}{i:TI}(h:H6 P t i)(w:World):∃z,(zeroValue t).run P w= .ok z w/\z.cells.toList=i.zero:=by
 obtain⟨inf,z,Y,I,_,h4,h5⟩:=h.info;exact⟨z,by simp[zeroValue,typeInfo,Y,h4],h5⟩
theorem mu{t:Nat}{i:TI}(ht:H6 P t i)(hagg:i.agg=false){w:World}{x:Value}(hc:w.cell? ad=some x):
  (Instr.loadAt t (.pointer (some ad))).run P w= .ok x w:=by
 simp[Instr.loadAt,Instr.sureAddr,loadVar,ht.isAgg,hagg,hc]
theorem kg{t:Nat}{i:TI}(ht:H6 P t i)(hagg:i.agg=true){w:World}(hl:xs.length=i.size)(hc:∀j v,xs[j]? =some v->w.cell? (ad.add j)=some v):
  (Instr.loadAt t (.pointer (some ad))).run P w= .ok (.agg xs.toArray) w:=by
 have:=run_loadCells_list (P:=P) w ad xs hc;rw[hl]at this;simp[Instr.loadAt,Instr.sureAddr,loadVar,ht.isAgg,hagg,ht.sizeOf,this]
theorem dF(g off j:Nat):(⟨g,off,none⟩:Addr).add j=⟨g,off+j,none⟩:=by
 unfold Addr.add;split<;>simp_all
theorem xP:∀{cs:List At} {i:Nat},EC cs i=cs[i]?
 |[],i=>by simp[EC]
 |x::r,0=>by simp[EC]
 |x::r,i+1=>by simp[EC,xP (cs:=r)]
theorem DE:∀{cs:List Value} {i:Nat},Js cs i=cs[i]?
 |[],i=>by simp[Js]
 |x::r,0=>by simp[Js]
 |x::r,i+1=>by simp[Js,DE (cs:=r)]
theorem DF:∀{cs:List (Nat×Nat)} {i:Nat},Jt cs i=cs[i]?
 |[],i=>by simp[Jt]
 |x::r,0=>by simp[Jt]
 |x::r,i+1=>by simp[Jt,DF (cs:=r)]
theorem cell_of{w:World}{g t:Nat}(h:w.heap[g]? =some (.cells cs.toArray t (0,0))):w.cell? ⟨g,off,none⟩=cs[off]? :=by
 rw[cell_of_row w g off _ t (0,0) h];simp
theorem fx{O:Nat->eH}:(xs.map At.v).map (At.den O)=xs:=by
 simp[Function.comp_def,At.den]
theorem nU(hτ:fG P τ)(rel0:Rel H nx iv B w O J){t:Nat}{addr:SV}(hs:addr.sc nx){Fd:SV->Prop}(h:zy τ B t addr H nx iv w Fd):
  ∃r,Fd r/\r.sc nx/\∀J,Rel H nx iv B w O J->(Instr.loadAt t (addr.den O)).run P J= .ok (r.den O) J:=by
 unfold zy at h;split at h
 .exact h.elim
 .rename_i sz ag by_ ze tag ik e al fs Rs;have ht:=hτ t _ Rs;split at h
  .rename_i id off;split at h
   .rename_i bt cs hH;split at h
    .split at h
     .rename_i x E;rw[xP]at E;refine⟨_,h,rel0.Nh id bt cs hH x (aG E),fun J rel=>?_⟩;have A:=rel.box id bt cs hH;exact mu ht rfl (by rw[cell_of A];simp[E,SV.den])
     .exact h.elim
    .have Y:=qE h;have I:=qF Y.1;refine⟨_,I.1,fun c hc=>rel0.Nh id bt cs hH c (List.mem_of_mem_drop (List.mem_of_mem_take hc)),fun J rel=>?_⟩;have A:=rel.box id bt cs hH;refine kg ht rfl (xs:=((cs.drop off).take sz).map (At.den O)) ?_ fun j v hv=>?_
     .have:=I.2;simp only[aO,bN];omega
     .rw[dF,cell_of A];simp only[aU,List.getElem?_take,cF]at hv ⊢;split at hv
      .exact hv
      .simp at hv
   .rename_i bt cs hH;split at h
    .obtain⟨x,E,h⟩:=h;exact⟨_,h,trivial,fun J rel=>mu ht rfl (by rw[cell_of (rel.arr id bt cs hH),E];rfl)⟩
    .obtain⟨xs,E,hl,h⟩:=h;refine⟨_,fy h,fun c hc=>by simp at hc;obtain⟨v,_,rfl⟩:=hc;trivial,fun J rel=>?_⟩;have A:=rel.arr id bt cs hH;simp only[SV.den,fx]
     refine kg ht rfl hl fun j v hv=>?_;rw[dF,cell_of A];rw[<-E]at hv;simp only[List.getElem?_take,cF]at hv;split at hv
     .exact hv
     .simp at hv
   .rename_i bt ez cs hH;split at h
    .obtain⟨x,E,h⟩:=h;refine⟨_,h,trivial,fun J rel=>?_⟩;have A:=rel.vec id bt ez cs hH;rcases A with⟨_,rfl⟩|⟨U,spare,A,_⟩
     .simp at E
     .refine mu ht rfl ?_;rw[cell_of A];have:off<cs.length:=(aH.1 E).1;rw[aN this,E];rfl
    .obtain⟨xs,E,hl,h⟩:=h;refine⟨_,fy h,fun c hc=>by simp at hc;obtain⟨v,_,rfl⟩:=hc;trivial,fun J rel=>?_⟩;have A:=rel.vec id bt ez cs hH;simp only[SV.den,fx]
     rcases A with⟨_,rfl⟩|⟨U,spare,A,_⟩
     .have:xs=[]:=by rw[<-E];simp
      subst this;refine kg ht rfl hl fun j v hv=>by simp at hv
     .refine kg ht rfl hl fun j v hv=>?_;rw[dF,cell_of A];rw[<-E]at hv;simp only[List.getElem?_take,cF]at hv;split at hv
      .rw[aN (aH.1 hv).1];exact hv
      .simp at hv
   .exact h.elim
  .rename_i ad;split at h
   .obtain⟨x,E,h⟩:=h;exact⟨_,h,trivial,fun J rel=>mu ht rfl (E O J rel)⟩
   .obtain⟨xs,hl,E,h⟩:=h;refine⟨_,fy h,fun c hc=>by simp at hc;obtain⟨v,_,rfl⟩:=hc;trivial,fun J rel=>?_⟩;simp only[SV.den,fx]
    exact kg ht rfl hl fun j v hv=>E O J rel j v hv
  .exact h.elim
theorem oe{t:Nat}{i:TI}(ht:H6 P t i){w:World}{g bt:Nat}(A:w.heap[g]? =some (.cells old.toArray bt (0,0))){v:Value}
  (hv:v.cells=new.toArray) (hl:new.length=i.size) (Y:∀x∈new,x.oneCell'=true) (RH:off+new.length<=old.length):
  (Instr.storeAt t (.pointer (some ⟨g,off,none⟩)) v).run P w= .ok () (w.setRow g (old.take off++new++old.drop (off+new.length)).toArray):=by
 have:=run_storeCells_at (P:=P) g off bt new 0 old.toArray w A (by simpa using RH) Y;simp only[cN]at this;simp[Instr.storeAt,Instr.sureAddr,storeVar,ht.sizeOf,hv,hl,this]
theorem jW:∀(vs:List Value) (w:World) (b off:Nat),setCells w ⟨b,off,none⟩ vs=w.setCells b off vs
 |[],_,_,_=>rfl
 |x::r,w,b,off=>by
  simp only[setCells,World.setCells,dF]
  exact jW r _ b (off+1)
theorem Fh(hτ:fG P τ)(sat:Sat n l H nx iv B w O a J){t:Nat}{addr x:SV}(hs:addr.sc nx)(E:x.sc nx){Fd:Hp->World->Prop}(h:H7 τ B t addr x H nx iv w Fd):
  ∃H' F w3,Fd H' F/\Rel H' nx iv B F O w3/\(Instr.storeAt t (addr.den O) (x.den O)).run P J= .ok () w3:=by
 unfold H7 at h;split at h
 .exact h.elim
 rename_i sz ag by_ ze tag ik e al fs Rs;have ht:=hτ t _ Rs;have rel:=sat.rel;have h0:=oI h;clear h;obtain⟨new,h00,Q8,UP⟩:=h0;have h0:=AA h00;clear h00;obtain⟨h,SG⟩:=h0;split at h
 .exact h.elim
 rename_i hlen;have hlen:=ee hlen;have QA:=Q8 O;have UP:=UP nx E;have Y:∀v∈new.map (At.den O),v.oneCell'=true:=by
  intro v hv;simp at hv;obtain⟨c,hc,rfl⟩:=hv;exact one_den (SG c hc) O
 have Qj:(new.map (At.den O)).length=sz:=by simpa using hlen
 split at h
 .rename_i id off;split at h
  .rename_i bt cs hH;have A:=rel.box id bt cs hH;obtain⟨hr,RH⟩:=qG h;obtain⟨H',hK,hH',_⟩:=tQ hr;refine⟨H',w,_,hK,?_,oe ht (old:=cs.map (At.den O)) A QA Qj Y (by simp;omega)⟩;refine rel.store hH ce (rel.nn id _ hH (by intros;simp) ce) hH' rfl rfl rfl ce (fun k R=>setRow_other _ _ _ _ R) ⟨rel.nn id _ hH (by intros;simp) ce,?_⟩ ?_
   .rw[setRow_heap _ _ _ _ _ _ A];simp[List.map_drop,List.map_take]
   .intro c hc;simp only[bB]at hc;rcases hc with(hc|hc)|hc
    .exact rel.Nh id bt cs hH c (List.mem_of_mem_take hc)
    .exact UP c hc
    .exact rel.Nh id bt cs hH c (List.mem_of_mem_drop hc)
  .rename_i bt cs hH;have A:=rel.arr id bt cs hH;obtain⟨nv,hr,TU,Wn⟩:=nH h;obtain⟨RH,cs',Xi,hr⟩:=hr;obtain⟨H',hK,hH',_⟩:=tQ hr;have Tu:nv.length=sz:=by rw[TU]at hlen;simpa using hlen
   have Rj:(x.den O).cells=nv.toArray:=by rw[QA,TU,fx]
   refine⟨H',w,_,hK,?_,oe ht A Rj Tu Wn be⟩;refine rel.store hH ce (rel.nn id _ hH (by intros;simp) ce) hH' rfl rfl rfl ce (fun k R=>setRow_other _ _ _ _ R) ⟨rel.nn id _ hH (by intros;simp) ce,?_⟩ trivial;rw[setRow_heap _ _ _ _ _ _ A,Tu,Xi]
  .rename_i bt ez cs hH;have A:=rel.vec id bt ez cs hH;obtain⟨nv,hr,TU,Wn⟩:=nH h;obtain⟨RH,cs',Xi,hr⟩:=hr;obtain⟨H',hK,hH',_⟩:=tQ hr;have Tu:nv.length=sz:=by rw[TU]at hlen;simpa using hlen
   have Rj:(x.den O).cells=nv.toArray:=by rw[QA,TU,fx]
   rcases A with⟨QF,rfl⟩|⟨U,spare,A,UQ,RO⟩
   ·
    have h0:sz=0:=by simp at RH;omega
    have hnv0:nv=[]:=by cases nv with|nil=>rfl|cons _ _=>simp at Tu;omega
    subst hnv0;have:cs'=[]:=by rw[<-Xi];simp
    subst this;refine⟨H',w,J,hK,?_,?_⟩
    .have Zi:∀j,dV H' j=dV H j:=fun j=>by rw[hH'];split<;>simp_all
     exact Rel.mk' rel.os rel.tape rel.output rel.size rel.base rel.oc (fun id b h=>rel.keys id b (by rw[<-Zi];exact h)) (fun id b h=>rel.fits (by rw[<-Zi];exact h)) (fun id b h=>rel.scopd (by rw[<-Zi];exact h))
      (fun i j b b' Y I=>rel.inj i j b b' (by rw[<-Zi];exact Y) (by rw[<-Zi];exact I)) (fun id b h=>rel.low id b (by rw[<-Zi];exact h))
      (fun k R Po=>rel.Dz k R fun id b h=>Po id b (by rw[Zi];exact h)) (fun lo N hm id b h=>rel.jU lo N hm id b (by rw[<-Zi];exact h))
    .subst h0;show(Instr.storeAt t (.pointer (some ⟨(O id).g,off,none⟩)) (x.den O)).run P J=_;generalize x.den O=xv at Rj ⊢;simp[Instr.storeAt,Instr.sureAddr,storeVar,ht.sizeOf,Rj,storeCells]
   .refine⟨H',w,_,hK,?_,oe ht A Rj Tu Wn (by simp;omega)⟩;refine rel.store hH ce U hH' rfl rfl rfl ce (fun k R=>setRow_other _ _ _ _ R) (.inr ⟨U,spare,?_,?_,RO⟩) trivial
    .rw[setRow_heap _ _ _ _ _ _ A,<-Xi,Tu];congr 2;rw[List.take_append_of_le_length be,List.drop_append_of_le_length be];simp
    .rw[<-UQ,<-Xi];simp;omega
  .exact h.elim
 .rename_i ad;obtain⟨nv,hr,TU,Wn⟩:=nH h;obtain⟨Zj,Py,Po,hK⟩:=hr O J rel;have Tu:nv.length=sz:=by rw[TU]at hlen;simpa using hlen
  have Rj:(x.den O).cells=nv.toArray:=by rw[QA,TU,fx]
  obtain⟨b,off,spot⟩:=ad;simp only at Zj Po;subst Zj;have RN:=run_storeCells_cells (P:=P) b off nv 0 J (fun j hj=>by have:=(Py j be).1;rwa [dF]at this) (fun j hj=>by have:=(Py j be).2;rwa [dF]at this) Wn;have RU:∀k,k≠b->(J.setCells b off nv).heap[k]? =J.heap[k]? :=by
   intro k R;clear RN Py h hr hK TU Wn Rj Tu
   induction nv generalizing J off with
   |nil=>rfl
   |cons v r ih=>
    simp only[World.setCells]
    rw[show (∀(w0:World) (o:Nat),(w0.setCells b o r).heap[k]? =w0.heap[k]?)from ?_]
    .simp[World.setCell,Array.getElem?_modify,Ne.symm R]
    .clear ih;intro w0 o
     induction r generalizing w0 o with
     |nil=>rfl
     |cons v r ih=>simp only[World.setCells];rw[ih];simp[World.setCell,Array.getElem?_modify,Ne.symm R]
  have hfrm:(J.setCells b off nv).os=J.os/\(J.setCells b off nv).tape=J.tape/\(J.setCells b off nv).output=J.output/\(J.setCells b off nv).heap.size=J.heap.size:=by
   have:∀(vs:List Value) (w0:World) (o:Nat),(w0.setCells b o vs).os=w0.os/\(w0.setCells b o vs).tape=w0.tape/\(w0.setCells b o vs).output=w0.output/\(w0.setCells b o vs).heap.size=w0.heap.size:=by
    intro vs
    induction vs with
    |nil=>intro w0 o;exact⟨rfl,rfl,rfl,rfl⟩
    |cons v r ih=>intro w0 o;simp only[World.setCells];obtain⟨Y,I,h3,h4⟩:=ih (w0.setCell ⟨b,o,none⟩ v) (o+1);exact⟨Y,I,h3,by rw[h4];simp⟩
   exact this nv J off
  refine⟨H,_,J.setCells b off nv,hK _ rfl,?_,?_⟩
  .rw[jW];refine Rel.mk' rfl rfl rfl (aq _) (by rw[hfrm.2.2.2];have:=rel.base;have:=rel.size;omega) (fun lo N hm=>by rw[hfrm.2.2.2];have:=rel.oc lo N hm;have:=rel.size;omega) rel.keys
    (fun id b' h=>ja.iY (rel.fits h) (fun _ _=>rfl) (rel.scopd h) (fun QF _=>RU _ (Po id b' h QF))) (fun id b' h=>rel.scopd h) rel.inj (fun id b' h QF=>by rw[hfrm.2.2.2];exact rel.low id b' h QF) (fun _ _ _=>rfl) rel.jU
  .show(Instr.storeAt t (.pointer (some ⟨b,off,none⟩)) (x.den O)).run P J=_;generalize x.den O=xv at Rj ⊢;simp at RN;simp[Instr.storeAt,Instr.sureAddr,storeVar,ht.sizeOf,Rj,Tu,RN]
 .exact h.elim
end
theorem Hb(new:List Value):∀(k off:Nat) (cs:Array Value),off+k+new.length<=cs.size->
  ((new.zipIdx k).foldl (fun cs (c,j)=>cs.setIfInBounds (off+j) c) cs).toList=cs.toList.take (off+k)++new++cs.toList.drop (off+k+new.length):=by
 induction new with
 |nil=>intro k off cs _;simp
 |cons x r ih=>
  intro k off cs h;simp only[bm]at h;rw[List.zipIdx_cons,List.foldl_cons,ih (k+1) off _ (by simp;omega)];have I:=list_seg_step cs.toList (off+k) x r (by simp;omega);simp only[Array.toList_setIfInBounds,bm]at I ⊢;rw[show off+(k+1)=off+k+1 by omega];exact I
theorem Jy{i:Nat}{v:Value}(hp:place i=some (off,size))
  (hv:v.cells=new.toArray) (hl:new.length=size) (RH:off+new.length<=cells.size):
  Instr.fill place cells ((i,v)::rest)=Instr.fill place (cells.toList.take off++new++cells.toList.drop (off+new.length)).toArray rest:=by
 have h:=Hb new 0 off cells be;have e:(v.cells.zipIdx.foldl (fun cs (x:Value×Nat)=>cs.setIfInBounds (off+x.2) x.1) cells)=(cells.toList.take off++new++cells.toList.drop (off+new.length)).toArray:=by
  rw[hv,<-Array.foldl_toList];apply Array.ext';simpa using h
 conv=>lhs;unfold Instr.fill
 simp only[hp,hv,List.size_toArray,hl]
 rw[aI (by simp;omega)];rw[hv]at e;rw[<-hl,<-e]
section
variable{P:Program}{τ:mo}{B n nx:Nat}{l:Env}{H:Hp}{iv:Iv}{w J:World}{O:Nat->eH}{a:Act}
theorem lj(sat:Sat n l H nx iv B w O a J){place:Nat->(Nat->Nat->Prop)->Prop}{placeF:Nat->Option (Nat×Nat)}
  (hp:∀i k,place i k->∃off size,k off size/\placeF i=some (off,size)):∀{parts:List (Nat×Operand)} {cs:List At} {k:List At->Prop},
  xO l place parts cs k->(∀c∈cs,At.sc nx c)->∃cs',k cs'/\(∀c∈cs',At.sc nx c)/\cs'.length=cs.length/\
   Instr.fill placeF (cs.map (At.den O)).toArray (parts.map fun p=>(p.1,a.eval p.2))=some (cs'.map (At.den O)).toArray
 |[],cs,k,h,hs=>⟨cs,h,hs,rfl,by simp[Instr.fill]⟩
 |(i,x)::r,cs,k,h,hs=>by
  unfold xO at h;obtain⟨off,size,Y,QQ⟩:=hp i _ h;obtain⟨v,I,hv,R1⟩:=dy sat Y;obtain⟨new,h3,Q8,UP⟩:=oI I;split at h3
  .rename_i hlen;have hlen:=ee hlen;obtain⟨h4,RH⟩:=qG h3
   obtain⟨cs',h5,h6,h7,h8⟩:=lj sat hp h4 (by
    intro c hc;simp only[bB]at hc;rcases hc with(hc|hc)|hc
    .exact hs c (List.mem_of_mem_take hc)
    .exact UP nx R1 c hc
    .exact hs c (List.mem_of_mem_drop hc))
   refine⟨cs',h5,h6,by rw[h7];simp;omega,?_⟩;have hc:=Q8 O;rw[List.map_cons,Jy (new:=new.map (At.den O)) QQ (by show(a.eval x).cells=_;rw[hv];exact hc) (by simpa using hlen) (by simpa using RH),<-h8];simp[List.map_drop,List.map_take]
  .exact h3.elim
theorem og(hτ:fG P τ){f:Nat}{k:Nat->Nat->Bool->Prop}(h:r8 τ fs f k):
  ∃off ft fi,k off fi.size fi.agg/\fs[f]? =some (off,ft)/\H6 P ft fi/\fi.size≠0:=by
 unfold r8 at h;split at h
 .rename_i off ft hf;rw[DF]at hf;split at h
  .rename_i sz ag by_ ze tag ik e al fs' Rs;split at h
   .exact h.elim
   .rename_i QK;exact⟨off,ft,_,h,hf,hτ ft _ Rs,fun e=>by simp at e;subst e;simp at QK⟩
  .exact h.elim
 .exact h.elim
theorem AB{t:Nat}{i:TI}(h:H6 P t i)(h5:i.tag=5){f ft:Nat}(hf:i.fields[f]? =some (off,ft)):
  ∃fs fd,P.underlying t=some (.struct fs)/\fs[f]? =some fd/\fd.offset=off/\fd.type=ft:=by
 obtain⟨fs,Y,I,_⟩:=h.i5 h5;rw[<-I]at hf;simp only[aU,Option.map_eq_some_iff]at hf;obtain⟨fd,RI,L⟩:=hf;injection L with e1 e2;exact⟨fs,fd,Y,by simpa using RI,e1,e2⟩
theorem Fi{t:Nat}{i:TI}(h:H6 P t i)(h5:i.tag=5){f ft:Nat}{fi:TI}(hf:i.fields[f]? =some (off,ft))(Xj:H6 P ft fi)(QK:fi.size≠0)(ad:Addr)(w:World):
  (Instr.fieldAt t (.pointer (some ad)) f).run P w= .ok (.pointer (some (ad.add off))) w:=by
 obtain⟨fs,fd,Y,I,rfl,rfl⟩:=AB h h5 hf;simp[Instr.fieldAt,run_underlying Y,I,Instr.sureAddr,fieldPlace,Xj.sizeOf,QK]
theorem vh{x:SV}{Fd:SV->Prop}(h:zV x m Fd)(E:x.sc nx):∃r ad,Fd r/\r.sc nx/\x.den O= .pointer (some ad)/\r.den O= .pointer (some (ad.add m)):=by
 unfold zV at h;split at h
 .rename_i id off;exact⟨_,⟨(O id).g,off,none⟩,h,E,rfl,by simp[SV.den,At.den,dF]⟩
 .rename_i ad;exact⟨_,ad,h,trivial,rfl,rfl⟩
 .exact h.elim
theorem xQ(rel:Rel H nx iv B w O J){Fd:Prop}(h:Jv H id m Fd):Fd/\((O id).nil=true->m=0):=by
 unfold Jv at h;split at h
 .rename_i t sz cs hH;split at h
  .exact h.elim
  .rename_i k;refine⟨h.2,fun U=>?_⟩;have Y:=h.1;rcases rel.vec id t (k+1) cs hH with⟨_,rfl⟩|⟨I,_⟩
   .have h4:m*(k+1)=0:=by simpa using Y.symm
    rcases Nat.mul_eq_zero.1 h4 with h5|h5
    .exact h5
    .omega
   .rw[U]at I;cases I
 .exact h.elim
theorem Jz(hτ:fG P τ){t ty:Nat}{x:SV}(h:PT τ H t x Fd)(rel:Rel H nx iv B w O J):
  ∃r,Fd r/\∀J,(Builtin.len_ #[t] ty #[x.den O]).run P J= .ok (.int .i64 r) J:=by
 unfold PT at h;split at h
 .exact h.elim
 rename_i sz ag by_ ze tag ik e al fs Rs;have ht:=hτ t _ Rs;split at h
 .rename_i QS;have hu:=ht.i4 (ee QS);split at h
  .exact⟨_,h,fun J=>by simp[Builtin.len_,run_underlying hu,SV.den,At.den,goInt]⟩
  .exact⟨_,h,fun J=>by simp[Builtin.len_,run_underlying hu,SV.den,At.den,goInt]⟩
  .rename_i id m;have Y:=xQ rel h;refine⟨_,Y.1,fun J=>?_⟩
   cases U:(O id).nil
   .simp[Builtin.len_,run_underlying hu,SV.den,At.den,goInt,U]
   .have:=Y.2 U;subst this;simp[Builtin.len_,run_underlying hu,SV.den,At.den,goInt,U]
  .exact h.elim
 .split at h
  .rename_i QS;have hu:=ht.i3 (ee QS);split at h
   .exact⟨_,h,fun J=>by simp[Builtin.len_,run_underlying hu,SV.den,At.den,goInt]⟩
   .exact h.elim
  .split at h
   .rename_i QS;have hu:=ht.i6 (ee QS);exact⟨_,h,fun J=>by simp[Builtin.len_,run_underlying hu,goInt]⟩
   .exact h.elim
theorem Fj(hτ:fG P τ){t:Nat}{x i:SV}{Fd:SV->Prop}(h:H8 τ H t x i Fd)(E:x.sc nx)(rel:Rel H nx iv B w O J):
  ∃r,Fd r/\r.sc nx/\∀J,(Instr.indexAt t (x.den O) (i.den O)).run P J= .ok (r.den O) J:=by
 unfold H8 at h;split at h
 .rename_i kd i;split at h
  .rename_i sz ag by_ ze tag ik e al fs Rs;have ht:=hτ t _ Rs;split at h
   .rename_i sz' ag' by' ze' tag' ik' e' al' fs' Qn
    have Qn:=hτ e _ Qn;split at h
    .rename_i QS;have hu:=ht.i4 (ee QS);simp only at hu;split at h
     .rename_i id off m c;obtain⟨A,h⟩:=h;exact⟨_,h,E,fun J=>by simp[Instr.indexAt,run_underlying hu,asIntOf,SV.den,At.den,A,Qn.sizeOf,dF]⟩
     .rename_i id m;obtain⟨⟨A,Y⟩,I⟩:=xQ rel h;refine⟨_,Y,E,fun J=>?_⟩
      cases U:(O id).nil
      .simp[Instr.indexAt,run_underlying hu,asIntOf,SV.den,At.den,A,Qn.sizeOf,dF,U]
      .have:=I U;omega
     .rename_i a0 m c;obtain⟨ad,rfl,A,h⟩:=h;exact⟨_,h,trivial,fun J=>by simp[Instr.indexAt,run_underlying hu,asIntOf,SV.den,At.den,A,Qn.sizeOf]⟩
     .exact h.elim
    .split at h
     .rename_i QS;have hu:=ht.i6 (ee QS);simp only at hu;obtain⟨A,h⟩:=h;obtain⟨r,ad,Y,I,h3,h4⟩:=vh (O:=O) h E;refine⟨r,Y,I,fun J=>?_⟩;rw[h3,h4];simp[Instr.indexAt,run_underlying hu,asIntOf,SV.den,At.den,Instr.sureAddr,A,Qn.sizeOf]
     .exact h.elim
   .exact h.elim
  .exact h.elim
 .exact h.elim
theorem jo(sat:Sat n l H nx iv B w O a J){x:Option Operand}{d:Int}(h:LR l x d Fd):∃i,Fd i/\((x=none/\i=d)\/∃o k,x=some o/\a.eval o= .int k i):=by
 unfold LR at h;split at h
 .exact⟨d,h,.inl ⟨rfl,rfl⟩⟩
 .obtain⟨v,Y,I,h3⟩:=dy sat h;clear h3;split at Y
  .rename_i k i;exact⟨i,Y,.inr ⟨_,k,rfl,I⟩⟩
  .exact Y.elim
theorem qH{len cap:Nat}{i j:Int}(Tv:(lo=none/\i=0)\/∃o k,lo=some o/\a.eval o= .int k i)(Vy:(N=none/\j=len)\/∃o k,N=some o/\a.eval o= .int k j)
  (h0:0<=i) (Y:i<=j) (I:j<=cap):(Instr.sliceBounds true len cap (lo.map a.eval) (N.map a.eval) none).run P J= .ok (i.toNat,j.toNat,cap) J:=by
 rcases Tv with⟨rfl,rfl⟩|⟨o,k,rfl,ho⟩<;>rcases Vy with⟨rfl,rfl⟩|⟨o',k',rfl,Uf⟩
 .simp[Instr.sliceBounds]
 .have h1':0<=j:=by omega
  simp[Instr.sliceBounds,Instr.sliceBound,Uf,asIntOf,h1',I]
 .have:i<=(len:Int):=Y;simp[Instr.sliceBounds,Instr.sliceBound,ho,asIntOf,h0,this]
 .have h1':0<=j:=by omega
  have h3:i<=((j.toNat:Nat):Int):=by omega
  have h3':i<=max j 0:=by omega
  simp[Instr.sliceBounds,Instr.sliceBound,ho,Uf,asIntOf,h1',I,h0,h3']
theorem Fk{len cap:Nat}{i j:Int}(Tv:(lo=none/\i=0)\/∃o k,lo=some o/\a.eval o= .int k i)(Vy:(N=none/\j=len)\/∃o k,N=some o/\a.eval o= .int k j)
  (h0:0<=i) (Y:i<=j) (I:j<=cap):(Instr.sliceBounds false len cap (lo.map a.eval) (N.map a.eval) none).run P J= .ok (i.toNat,j.toNat,cap) J:=by
 rcases Tv with⟨rfl,rfl⟩|⟨o,k,rfl,ho⟩<;>rcases Vy with⟨rfl,rfl⟩|⟨o',k',rfl,Uf⟩
 .simp[Instr.sliceBounds]
 .have h1':0<=j:=by omega
  simp[Instr.sliceBounds,Instr.sliceBound,Uf,asIntOf,h1',I]
 .have:i<=(len:Int):=Y;simp[Instr.sliceBounds,Instr.sliceBound,ho,asIntOf,h0,this]
 .have h1':0<=j:=by omega
  have h3:i<=((j.toNat:Nat):Int):=by omega
  have h3':i<=max j 0:=by omega
  simp[Instr.sliceBounds,Instr.sliceBound,ho,Uf,asIntOf,h1',I,h0,h3']
theorem EF(hτ:fG P τ)(sat:Sat n l H nx iv B w O a J){t:Nat}{x:SV}{lo N mx:Operand}{Fd:SV->Prop}(h:ED τ t x l lo N mx Fd):
  ∃r,Fd r/\r.sc nx/\∀J,(Instr.sliceAt t (x.den O) (some (a.eval lo)) (some (a.eval N)) (some (a.eval mx))).run P J= .ok (r.den O) J:=by
 unfold ED at h;split at h
 .rename_i sz ag by_ ze tag ik e al fs Rs;have ht:=hτ t _ Rs;split at h
  .rename_i QS;have hu:=ht.i4 (ee QS);simp only at hu;split at h
   .rename_i sz' ag' by' ze' tag' ik' e' al' fs' Qn
    have Qn:=hτ e _ Qn;split at h
    .rename_i ad m c;obtain⟨i,Y,Tv⟩:=jo sat h;obtain⟨j,I,Vy⟩:=jo sat Y;obtain⟨k,h3,Uy⟩:=jo sat I;obtain⟨o1,k1,e1,g1⟩:=Tv.resolve_left fun h=>by cases h.1
     obtain⟨o2,k2,e2,g2⟩:=Vy.resolve_left fun h=>by cases h.1
     obtain⟨o3,k3,e3,g3⟩:=Uy.resolve_left fun h=>by cases h.1
     injection e1 with e1;injection e2 with e2;injection e3 with e3;subst e1 e2 e3;obtain⟨⟨b0,b1,b2,b3⟩,ad',n',c',e4,rfl,rfl,h4⟩:=h3;refine⟨_,h4,trivial,fun J=>?_⟩;subst e4;have q1:0<=k:=by omega
     have q2:0<=j:=by omega
     have q3:j<=((k.toNat:Nat):Int):=by omega
     have q4:i<=((j.toNat:Nat):Int):=by omega
     have A:(Instr.sliceBounds true m c (some (a.eval lo)) (some (a.eval N)) (some (a.eval mx))).run P J= .ok (i.toNat,j.toNat,k.toNat) J:=by
      simp only[Instr.sliceBounds,Instr.sliceBound,g1,g2,g3,asIntOf]
      have p1:(0<=k/\k<=(c:Int)):=⟨q1,b3⟩
      have p2:(0<=j/\j<=((k.toNat:Nat):Int)):=⟨q2,q3⟩
      have p3:(0<=i/\i<=((j.toNat:Nat):Int)):=⟨b0,q4⟩
      have p4:j<=max k 0:=by omega
      have p5:i<=max j 0:=by omega
      simp[p1.1,p1.2,p2.1,p3.1,p4,p5]
     simp[Instr.sliceAt,Instr.slice,run_underlying hu,SV.den,At.den,A,Qn.sizeOf];by_cases hc:k=i
     .rw[aM hc,aM be]
     .rw[aI hc,aI be]
    .exact h.elim
   .exact h.elim
  .exact h.elim
 .exact h.elim
theorem Fl(hτ:fG P τ)(sat:Sat n l H nx iv B w O a J){t:Nat}{x:SV}{Fd:SV->Prop}(h:H9 τ H t x l lo N Fd)(E:x.sc nx):
  ∃r,Fd r/\r.sc nx/\∀J,(Instr.sliceAt t (x.den O) (lo.map a.eval) (N.map a.eval) none).run P J= .ok (r.den O) J:=by
 unfold H9 at h;split at h
 .rename_i sz ag by_ ze tag ik e al fs Rs;have ht:=hτ t _ Rs;split at h
  .rename_i QS;have hu:=ht.i4 (ee QS);simp only at hu;split at h
   .rename_i sz' ag' by' ze' tag' ik' e' al' fs' Qn
    have Qn:=hτ e _ Qn;split at h
    .rename_i id off m c;obtain⟨i,Y,Tv⟩:=jo sat h;obtain⟨j,I,Vy⟩:=jo sat Y;obtain⟨⟨b0,b1,b2⟩,off',n',c',e1,rfl,rfl,h3⟩:=I;refine⟨_,h3,E,fun J=>?_⟩;have A:=qH (P:=P) (J:=J) Tv Vy b0 b1 b2;subst e1;simp[Instr.sliceAt,Instr.slice,run_underlying hu,SV.den,At.den,A,Qn.sizeOf];by_cases hc:c=i.toNat
     .rw[aM hc,aM be]
     .rw[aI hc,aI be];simp[dF]
    .rename_i ad m c;obtain⟨i,Y,Tv⟩:=jo sat h;obtain⟨j,I,Vy⟩:=jo sat Y;obtain⟨⟨b0,b1,b2⟩,off',n',c',e1,rfl,rfl,h3⟩:=I;refine⟨_,h3,trivial,fun J=>?_⟩;have A:=qH (P:=P) (J:=J) Tv Vy b0 b1 b2;subst e1;simp[Instr.sliceAt,Instr.slice,run_underlying hu,SV.den,At.den,A,Qn.sizeOf];by_cases hc:c=i.toNat
     .rw[aM hc,aM be]
     .rw[aI hc,aI be]
    .rename_i id m;split at h
     .obtain⟨Y,QF⟩:=xQ sat.rel h;obtain⟨j,I,Vy⟩:=jo sat Y;obtain⟨⟨b0,b1⟩,m',rfl,h3⟩:=I;refine⟨_,h3,E,fun J=>?_⟩;have RO:(O id).nil=false->m<=(O id).cap:=fun U=>by
       unfold Jv at h;split at h
       .rename_i t' sz' cs' hH;split at h
        .exact h.elim
        .rename_i k;rcases sat.rel.vec id t' (k+1) cs' hH with⟨h5,_⟩|⟨_,spare,_,h6,_⟩
         .rw[U]at h5;cases h5
         .have h7:=h.1;have h8:(cs'++spare).length=cs'.length+spare.length:=aV;have h9:m*(k+1)<=(O id).cap*(k+1):=by omega
          exact Nat.le_of_mul_le_mul_right h9 (Nat.succ_pos k)
       .exact h.elim
      cases U:(O id).nil with
      |true=>
       have hm:=QF U;subst hm;have A:=qH (P:=P) (J:=J) (len:=0) (cap:=0) (lo:=none) (i:=0) (.inl ⟨rfl,rfl⟩) Vy (Int.le_refl 0) b0 b1;have hj:j.toNat=0:=by omega
       rw[hj]at A ⊢;simp only[Option.map_none]at A;simp[Instr.sliceAt,Instr.slice,run_underlying hu,SV.den,At.den,U,A,Qn.sizeOf]
      |false=>
       have hc:=RO U;have A:=qH (P:=P) (J:=J) (len:=m) (cap:=(O id).cap) (lo:=none) (i:=0) (.inl ⟨rfl,rfl⟩) Vy (Int.le_refl 0) b0 be;simp only[Option.map_none]at A;simp[Instr.sliceAt,Instr.slice,run_underlying hu,SV.den,At.den,U,A,Qn.sizeOf,dF]
     .exact h.elim
    .exact h.elim
   .exact h.elim
  .split at h
   .rename_i QS;have hu:=ht.i6 (ee QS);simp only at hu;split at h
    .rename_i sz' ag' by' ze' tag' ik' e' al' fs' Qn
     have Qn:=hτ e _ Qn;split at h
     .rename_i id off;split at h
      .split at h
       .rename_i h0;refine⟨_,h,E,fun J=>?_⟩;have h0:al≠0:=fun e=>by subst e;cases h0
        simp[Instr.sliceAt,Instr.sliceBounds,run_underlying hu,SV.den,At.den,Qn.sizeOf,Instr.sureAddr,dF]
       .exact h.elim
      .exact h.elim
     .exact h.elim
    .exact h.elim
   .split at h
    .rename_i QS;have hu:=ht.i3 (ee QS);split at h
     .rename_i s;obtain⟨i,Y,Tv⟩:=jo sat h;obtain⟨j,I,Vy⟩:=jo sat Y;obtain⟨⟨b0,b1,b2⟩,h3⟩:=I;refine⟨_,h3,trivial,fun J=>?_⟩;have A:=Fk (P:=P) (J:=J) Tv Vy b0 b1 b2;simp[Instr.sliceAt,Instr.slice,run_underlying hu,SV.den,At.den,A]
     .exact h.elim
    .exact h.elim
 .exact h.elim
end
section
variable{P:Program}{τ:mo}{B n nx:Nat}{l:Env}{H:Hp}{iv:Iv}{w J:World}{O:Nat->eH}{a:Act}
theorem Fm(z:Value)(c:Nat):(madeCells #[z] c)=(List.replicate c z).toArray:=by
 unfold madeCells;apply Array.ext';simp[List.map_const',Nat.mod_one]
theorem tR(zs:List Value)(c:Nat):(madeCells zs.toArray (c*zs.length))=((List.replicate c zs).flatten).toArray:=by
 unfold madeCells;apply Array.ext';simp only[Array.toList_map,Array.toList_range,List.size_toArray]
 induction c with
 |zero=>simp
 |succ c ih=>
  rw[Nat.succ_mul,List.range_add,bw,ih,List.replicate_succ',List.flatten_append];simp only[List.flatten_cons,List.flatten_nil,List.append_nil,List.map_map]
  congr 1;apply List.ext_getElem
  .simp
  .intro i Y I;simp at Y;simp[bh Y,Y]
theorem Hc(hτ:fG P τ)(sat:Sat n l H nx iv B w O a J){t:Nat}{x y:SV}{Fd:SV->Hp->Nat->Prop}(h:Iu τ t x y H nx Fd):
  ∃r H' Pr F' F,Fd r H' Pr/\Rel H' Pr iv B w F' F/\r.sc Pr/\nx<=Pr/\(∀id,id<nx->O id=F' id)/\(Instr.makeSlice t (x.den O) (y.den O)).run P J= .ok (r.den F') F:=by
 unfold Iu at h;split at h
 .rename_i k1 a1 k2 b1;split at h
  .rename_i sz ag by_ ze tag ik e al fs Rs;have ht:=hτ t _ Rs;split at h
   .rename_i QS;have hu:=ht.i4 (ee QS);simp only at hu;split at h
    .rename_i sz' ag' by' ze' tag' ik' e' al' fs' Qn
     have Qn:=hτ e _ Qn;obtain⟨inf,z,N,QK,QR,hz,SD⟩:=Qn.info;simp only at QK QR SD;obtain⟨m,c,rfl,rfl,SR,hbytes,h63,h⟩:=h;have S3:(inf.bytes:Int)*(c:Int)<=281474976710656:=by
      rw[QR];have Q2:((by'*c:Nat):Int)<=281474976710656:=by omega
      rwa [Int.natCast_mul]at Q2
     have Px:=run_make (P:=P) J t e inf z hu N hz k1 k2 (m:Int) (c:Int) be be S3 be;simp only[aK]at Px;have fin:∀cs:List Value,cs.toArray=madeCells z.cells (c*inf.size)->CQ (.arr e cs) H nx (fun H' Pr=>Fd (.o (.s nx 0 m c)) H' Pr)->
       ∃r H' Pr F' F,Fd r H' Pr/\Rel H' Pr iv B w F' F/\r.sc Pr/\nx<=Pr/\(∀id,id<nx->O id=F' id)/\(Instr.makeSlice t (.int k1 m) (.int k2 c)).run P J= .ok (r.den F') F:=by
      intro cs Q4 hK;refine⟨_,_,_,jG O nx ⟨J.heap.size,0,false⟩,J.alloc (.cells cs.toArray e),hK,?_,?_,be,iO,?_⟩
      .refine sat.rel.push (.arr e cs) _ rfl rfl rfl ce (fun k R=>heap_alloc_old _ _ R) (fun _=>⟨aq _,ce⟩) ⟨rfl,heap_alloc_new _ _⟩ trivial
      .simp[SV.sc,At.sc]
      .rw[Px,<-Q4];simp[SV.den,At.den]
     have Su:=Qn.Fa;simp only at Su;have TD:z.cells=ze'.toArray:=by apply Array.ext';simpa using SD
     split at h
     .rename_i z0;refine fin _ ?_ h;have:inf.size=1:=by rw[QK,<-Su];rfl
      rw[this,av,TD,Fm]
     .refine fin _ ?_ h;rw[QK,<-Su,TD];rcases bH ze'.length with h0|h0
      .have:ze'=[]:=List.eq_nil_of_length_eq_zero h0;subst this;simp[madeCells]
      .rw[tR]
    .exact h.elim
   .exact h.elim
  .exact h.elim
 .exact h.elim
theorem Hd(sat:Sat n l H nx iv B w O a J){x:SV}{Fd:Nat->List Value->Prop}(QU:0<size)(h:Ld B H nx iv w size x Fd):
  ∃m c ad news,Fd m news/\x.den O= .slice ad m c/\news.length=m*size/\(∀u∈news,u.oneCell'=true)/\
   ((ad=none/\m=0)\/∃ad',ad=some ad'/\∀j u,news[j]? =some u->J.cell? (ad'.add j)=some u):=by
 have rel:=sat.rel;unfold Ld at h;split at h
 .rename_i id off m c;split at h
  .rename_i bt cs hH;obtain⟨Y,hd⟩:=qE h;obtain⟨I,ht⟩:=qF Y;obtain⟨vs,h3,R1,Tc⟩:=nH I;refine⟨m,c,_,vs,h3,rfl,?_,Tc,.inr ⟨_,rfl,fun j u hu=>?_⟩⟩
   .have:=congrArg List.length R1;simp at this ht;omega
   .rw[dF,cell_of (rel.box id bt cs hH)];have e:(vs.map At.v)[j]? =some (.v u):=by simp[hu]
    rw[<-R1]at e;simp only[List.getElem?_take,cF]at e;split at e
    .simp[e,At.den]
    .simp at e
  .rename_i bt cs hH;obtain⟨vs,Y,I,h3,h4⟩:=h;refine⟨m,c,_,vs,h4,rfl,I,h3,.inr ⟨_,rfl,fun j u hu=>?_⟩⟩;rw[dF,cell_of (rel.arr id bt cs hH)];rw[<-Y]at hu;simp only[List.getElem?_take,cF]at hu;split at hu
   .exact hu
   .simp at hu
  .exact h.elim
 .rename_i ad m c;obtain⟨vs,Y,I,h3,h4⟩:=h;refine⟨m,c,ad,vs,h4,rfl,Y,I,?_⟩;rcases bH m with h0|h0
  .subst h0;have:vs=[]:=List.eq_nil_of_length_eq_zero (by simpa using Y);subst this
   cases ad with
   |none=>exact .inl ⟨rfl,rfl⟩
   |some ad=>exact .inr ⟨ad,rfl,fun j u hu=>by simp at hu⟩
  .exact .inr (h3 O J rel h0)
 .rename_i id m;split at h
  .rename_i bt sz cs hH;obtain⟨Y,I,h3⟩:=h;rcases rel.vec id bt sz cs hH with⟨U,rfl⟩|⟨U,spare,A,_⟩
   .have h0:m=0:=by
     have h4:m*size=0:=by simpa using Y.symm
     rcases Nat.mul_eq_zero.1 h4 with h5|h5<;>omega
    subst h0;exact⟨0,0,none,[],h3,by simp[SV.den,At.den,U],ce,ce,.inl ⟨rfl,rfl⟩⟩
   .refine⟨m,(O id).cap,_,cs,h3,by simp only[SV.den,At.den,U];rfl,Y,I,.inr ⟨_,rfl,fun j u hu=>?_⟩⟩;rw[dF,cell_of A,aS,aN (aH.1 hu).1];exact hu
  .exact h.elim
 .exact h.elim
theorem nQ(w:World)(base:Nat)(t ty e:TypeId)(i:TypeInfo)(size:Nat)(ht:P.underlying t=some (.slice e))(N:P.info? e=some i)
  (v:Value) (m:Nat) (xs:List Value) (R8:w.ownsRow base e size v m xs) (c:Nat):(Builtin.append_ #[t,t] ty #[v,.slice none 0 c]).run P w= .ok v w:=by
 rcases R8.2 with⟨rfl,rfl⟩|⟨g,cap,cur,rfl,_,_,VI,_⟩
 .simp[Builtin.append_,run_underlying ht,sizeOf,typeInfo,N,Builtin.lenOf,Builtin.firstCells]
 .simp[Builtin.append_,run_underlying ht,sizeOf,typeInfo,N,Builtin.lenOf,Builtin.firstCells,VI,storeCells]
theorem rf{w:World}{e:Nat}{v:Value}{base:Nat}(h:w.ownsRow base e size v m xs):
  ∃val:eH,(At.w 0 m).den (fun _=>val)=v/\(ja.vec e size xs).fits (fun _=>val) val w/\(val.nil=false->v.ownBlock=some val.g/\val.g<w.heap.size)/\(val.nil=true->v.ownBlock=none):=by
 rcases h.2 with⟨rfl,rfl⟩|⟨g,cap,cur,rfl,_,A,VI,RO,hcur,R7⟩
 .have:xs=[]:=List.eq_nil_of_length_eq_zero (by simpa using h.1);exact⟨⟨0,0,true⟩,rfl,.inl ⟨rfl,this⟩,(fun h=>by cases h),fun _=>rfl⟩
 .refine⟨⟨g,cap,false⟩,rfl,.inr ⟨rfl,cur.toList.drop (m*size),?_,?_,RO⟩,fun _=>⟨rfl,(bD.1 A).1⟩,(fun h=>by cases h)⟩
  .rw[<-R7,List.take_append_drop];simpa using A
  .rw[<-R7,List.take_append_drop];simpa using hcur
theorem AD(rel:Rel H nx iv B w O J){e sz:Nat}(hH:dV H id=some (.vec e sz cs))(hl:cs.length=m*sz)(QU:0<sz):
  J.ownsRow B e sz ((At.w id m).den O) m cs:=by
 rcases rel.vec id e sz cs hH with⟨U,rfl⟩|⟨U,spare,A,UQ,RO⟩
 .have h0:m=0:=by
   have h4:m*sz=0:=by simpa using hl.symm
   rcases Nat.mul_eq_zero.1 h4 with h5|h5<;>omega
  subst h0;simp only[At.den,U]
  exact World.ownsRow_nil _ _ _ _
 .refine⟨hl,.inr ⟨(O id).g,(O id).cap,_,by simp only[At.den,U],(rel.low id _ hH U).1,A,?_,RO,by simpa using UQ,by simp[<-hl]⟩⟩;have Y:m*sz<=(O id).cap*sz:=by rw[<-UQ,<-hl];simp
  exact Nat.le_of_mul_le_mul_right Y QU
theorem vZ(hτ:fG P τ)(sat:Sat n l H nx iv B w O a J){t ty:Nat}{x y:SV}{Fd:SV->Hp->Nat->Prop}(h:zW τ B t x y H nx iv w Fd):
  ∃r H' Pr F' F,Fd r H' Pr/\Rel H' Pr iv B w F' F/\r.sc Pr/\nx<=Pr/\(∀id,id<nx->O id=F' id)/\(Builtin.append_ #[t,t] ty #[x.den O,y.den O]).run P J= .ok (r.den F') F:=by
 have rel:=sat.rel;unfold zW at h;split at h
 .exact h.elim
 rename_i sz ag by_ ze tag ik e al fs Rs;have ht:=hτ t _ Rs;split at h
 .rename_i QS;have hu:=ht.i4 (ee QS);simp only at hu;split at h
  .rename_i sz' ag' by' ze' tag' ik' e' al' fs' Qn
   have Qn:=hτ e _ Qn;split at h
   .exact h.elim
   .rename_i z0 zr;obtain⟨inf,z,N,QK,QR,hz,SD⟩:=Qn.info;have Su:=Qn.Fa;simp only at QK QR SD Su;have QU:0<sz':=by rw[<-Su];simp
    have XR:z.cells.size=sz':=by rw[<-Su,<-SD];simp
    have h0:=Hd sat QU h;clear h;obtain⟨m,c,ad,news,h,hy,Tu,Ss,hsrc⟩:=h0;have happ:∀(v:Value) (k:Nat) (xs:List Value),J.ownsRow B e sz' v k xs->(k+m)*by'<=140737488355328->k+m<=maxLen->
      ∃v' F,(Builtin.append_ #[t,t] ty #[v,y.den O]).run P J= .ok v' F/\F.ownsRow B e sz' v' (k+m) (xs++news)/\J.grownBy F v.ownBlock/\(v'.ownBlock=v.ownBlock\/v'.ownBlock=some J.heap.size):=by
     intro v k xs R8 A VH;rw[hy];rcases hsrc with⟨rfl,rfl⟩|⟨ad',rfl,Q8⟩
     .have:news=[]:=List.eq_nil_of_length_eq_zero (by simpa using Tu);subst this;exact⟨v,J,nQ J B t ty e inf sz' hu N v k xs R8 c,by simpa using R8,⟨rfl,rfl,rfl,aq _,fun _ _ _=>rfl⟩,.inl rfl⟩
     .obtain⟨v',F,Y,I,h3,_,h5⟩:=run_append_own_at (P:=P) J B t ty e inf z sz' by' hu N hz QK QR XR QU v k xs R8 ad' m c news Tu Q8 Ss VH A (by have:=rel.base;have:=rel.size;omega)
      exact⟨v',F,Y,I,h3,h5⟩
    split at h
    .obtain⟨A,VH,hK⟩:=h;obtain⟨v',F,Y,I,h3,h5⟩:=happ (.slice none 0 0) 0 [] (World.ownsRow_nil _ _ _ _) (by simpa using A) (by simpa using VH);simp only[aS,List.nil_append]at I;obtain⟨val,Tc,Sh,Zk,hv4⟩:=rf I;refine⟨_,_,_,jG O nx val,F,hK,?_,by simp[SV.sc,At.sc],be,iO,?_⟩
     .refine rel.push (.vec e sz' news) val h3.os h3.tape h3.output h3.size (fun k R=>h3.block k R (by simp[Value.ownBlock])) (fun U=>?_) (by simpa [ja.fits]using Sh) trivial;have:=Zk U;rcases h5 with h6|h6
      .rw[this.1]at h6;simp[Value.ownBlock]at h6
      .rw[this.1]at h6;injection h6 with h6;exact⟨be,this.2⟩
     .rw[show SV.den O (.o (.v (.slice none 0 0)))= .slice none 0 0 from rfl,Y,<-Tc];simp[SV.den,At.den]
    .rename_i id k;split at h
     .rename_i e1 sz1 cs hH;split at h
      .rename_i TN;have TN:=ee TN;subst TN;split at h
       .rename_i XS;have XS:=ee XS;subst XS;obtain⟨hl,A,VH,h⟩:=h;obtain⟨H1,hK,hH1,_⟩:=uZ h;obtain⟨v',F,Y,I,h3,h5⟩:=happ _ k cs (AD rel hH hl QU) A VH;obtain⟨val,Tc,Sh,Zk,hv4⟩:=rf I;have S0:(O id).nil=false->((At.w id k).den O).ownBlock=some (O id).g:=fun U=>by simp[At.den,U,Value.ownBlock]
        have hob':(O id).nil=true->((At.w id k).den O).ownBlock=none:=fun U=>by simp[At.den,U,Value.ownBlock]
        refine⟨_,_,_,jG O nx val,F,hK,?_,by simp[SV.sc,At.sc],be,iO,?_⟩
        .refine rel.Lg hH ce hH1 (.vec e1 sz1 (cs++news)) val h3.os h3.tape h3.output h3.size (fun j hj Po=>?_) (fun U=>?_) (by simpa [ja.fits]using Sh) trivial
         .refine h3.block j hj fun e=>?_
          cases QF:(O id).nil
          .rw[S0 QF]at e;injection e with e;exact Po QF e
          .rw[hob' QF]at e;cases e
         .have:=Zk U;rcases h5 with h6|h6
          .rw[this.1]at h6
           cases QF:(O id).nil
           .rw[S0 QF]at h6;injection h6 with h6;exact .inr ⟨rfl,h6⟩
           .rw[hob' QF]at h6;cases h6
          .rw[this.1]at h6;injection h6 with h6;exact .inl ⟨be,this.2⟩
        .rw[show SV.den O (.o (.w id k))=(At.w id k).den O from rfl,Y,<-Tc];simp[SV.den,At.den]
       .exact h.elim
      .exact h.elim
     .exact h.elim
    .rename_i id k c0;split at h
     .rename_i hkc;have hkc:=ee hkc;subst hkc;split at h
      .rename_i e1 cs0 hH;split at h
       .rename_i TN;have TN:=ee TN;subst TN;obtain⟨cs,⟨hl,A,VH,h9⟩,rfl,_⟩:=nH h;obtain⟨H1,hK,hH1,_⟩:=uZ h9;have QF:(O id).nil=false:=rel.nn id _ hH (by intros;simp) ce;have RA:=rel.box id _ _ hH;rw[fx]at RA;have R8:J.ownsRow B e1 sz' ((At.s id 0 k k).den O) k cs:=by
         refine⟨hl,.inr ⟨(O id).g,k,_,by simp only[At.den],(rel.low id _ hH QF).1,RA,aq _,be,by simp[hl],by simp[<-hl]⟩⟩
        obtain⟨v',F,Y,I,h3,h5⟩:=happ _ k cs R8 A VH;obtain⟨val,Tc,Sh,Zk,hv4⟩:=rf I;have S0:((At.s id 0 k k).den O).ownBlock=some (O id).g:=by simp[At.den,Value.ownBlock]
        refine⟨_,_,_,jG O nx val,F,hK,?_,by simp[SV.sc,At.sc],be,iO,?_⟩
        .refine rel.Lg hH ce hH1 (.vec e1 sz' (cs++news)) val h3.os h3.tape h3.output h3.size (fun j hj Po=>?_) (fun U=>?_) (by simpa [ja.fits]using Sh) trivial
         .refine h3.block j hj fun e=>?_;rw[S0]at e;injection e with e;exact Po QF e
         .have:=Zk U;rcases h5 with h6|h6
          .rw[this.1]at h6;rw[S0]at h6;injection h6 with h6;exact .inr ⟨QF,h6⟩
          .rw[this.1]at h6;injection h6 with h6;exact .inl ⟨be,this.2⟩
        .rw[show SV.den O (.o (.s id 0 k k))=(At.s id 0 k k).den O from rfl,Y,<-Tc];simp[SV.den,At.den]
       .exact h.elim
      .exact h.elim
     .exact h.elim
    .exact h.elim
  .exact h.elim
 .exact h.elim
end
end Go.Sx
