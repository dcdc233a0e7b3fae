/- Texts Sx1 to Sx6: lemmas, each with its conditions. -/
import Derived.WalkKit
import Derived.Maps.AppendAt
import Derived.Laws.IdiomCopy
import Derived.Great.BuildSlice
namespace Go
theorem be{p:Prop}(h:p:=by omega):p:=h
theorem bi{p:Prop}(h:p:=by decide):p:=h
theorem bv{p:Prop}(h:p:=by simp):p:=h
theorem cs{p:Prop}(h:p:=by rfl):p:=h
theorem d4{p:Prop}(h:p:=by kernel_rfl):p:=h
end Go
namespace Go
variable{i m n:Nat}{c:Prop}
theorem aA.{u_1}{α:Type u_1}(y:α){a:α}{l:List α}:a∈l->a∈y::l:=List.mem_cons_of_mem y
theorem aB.{u_1}{α:Type u_1}{l:List α}(h:i<l.length):l[i]? =some l[i]:=List.getElem?_eq_getElem h
theorem aC{p:Prop} [inst:Decidable p]:decide p=false->¬p:=of_decide_eq_false
theorem aD.{u_1}{α:Type u_1}{a:α}{l:List α}:l[i]? =some a↔∃h:i<l.length,l[i]=a:=List.getElem?_eq_some_iff
theorem aE{p:Prop} [inst:Decidable p]:decide p=true->p:=of_decide_eq_true
theorem aF.{u}{h:Decidable c}(hnc:¬c){α:Sort u}{t e:α}:(if c then t else e)=e:=if_neg hnc
theorem aG.{u_1}{α:Type u_1}{l:List α}{a:α}(e:l[i]? =some a):a∈l:=List.mem_of_getElem? e
theorem aH.{u}{h:Decidable c}(hc:c){α:Sort u}{t e:α}:(if c then t else e)=t:=if_pos hc
theorem aI.{u_1}{α:Type u_1}{a:α}{l:List α}:a∈a::l:=List.mem_cons_self
theorem aJ(n:Nat):((n:Int)).toNat=n:=Int.toNat_natCast n
theorem aK.{u_1}{α:Type u_1}{l₁ l₂:List α}(Z:i<l₁.length):(l₁++l₂)[i]? =l₁[i]? :=List.getElem?_append_left Z
theorem aL.{u}{α:Type u}{as bs:List α}:(as++bs).length=as.length+bs.length:=List.length_append
theorem aM.{u_1,u_2}{α:Type u_1}{β:Type u_2}{as:List α}(f:α->β):(List.map f as).length=as.length:=List.length_map f
theorem aN(n:Nat):n<=n:=Nat.le_refl n
theorem aO.{u_1,u_2}{α:Type u_1}{β:Type u_2}{f:α->β}{l:List α}:(List.map f l)[i]? =Option.map f l[i]? :=List.getElem?_map
theorem aP(n:Nat):0<=n:=Nat.zero_le n
theorem aQ.{u_1}{α:Type u_1}{l₁ l₂:List α}:l₁.length<=i->(l₁++l₂)[i]? =l₂[i-l₁.length]? :=List.getElem?_append_right
theorem aR(n m:Nat):n<m\/n≥m:=Nat.lt_or_ge n m
theorem aS.{u}{α:Type u}{a:α}:[a].length=1:=List.length_singleton
theorem aT.{u_1}{α:Type u_1}{a:α}{l:List α}(h:a∈l):∃i:Nat,l[i]? =some a:=List.getElem?_of_mem h
theorem aU.{u_1,u_2}{α:Type u_1}{β:Type u_2}{f:α->β}{l₁ l₂:List α}:List.map f (l₁++l₂)=List.map f l₁++List.map f l₂:=List.map_append
theorem aV.{u_1,u_2}{α:Type u_1}{β:Type u_2}{b:β}{f:α->β}{l:List α}:b∈List.map f l↔∃a,a∈l/\f a=b:=List.mem_map
theorem aW.{u_1}{α:Type u_1}{l:List α}{a:α}(h:i<l.length):(l.set i a)[i]? =some a:=List.getElem?_set_self h
theorem aX(n:Nat):0+n=n:=Nat.zero_add n
theorem aY.{u_1}{α:Type u_1}{l:List α}:List.take (i+1) l=List.take i l++l[i]?.toList:=List.take_add_one
theorem aZ.{u_1}{α:Type u_1}{l:List α}:(List.take i l).length=min i l.length:=List.length_take
theorem a9.{u_1}{α:Type u_1}{l:List α}(h:n<l.length):l[n]∈l:=List.getElem_mem h
theorem ah.{u_1}{α:Type u_1}{xs:Array α}{d:α}:xs.getD i d=xs[i]?.getD d:=Array.getD_eq_getD_getElem?
theorem ai(a b:Bool):((a&&b)=true)=(a=true/\b=true):=Bool.and_eq_true a b
theorem aw(n:Nat):n*1=n:=Nat.mul_one n
theorem bA.{u_1}{α:Type u_1}{b:α}{xs:Array α}:xs[i]? =some b↔∃h:i<xs.size,xs[i]=b:=Array.getElem?_eq_some_iff
theorem bB{k:Nat}:n<=m->m<=k->n<=k:=Nat.le_trans
theorem bC.{u_1}{α:Type u_1}{l:List α}{j:Nat}(h:i≠j){a:α}:(l.set i a)[j]? =l[j]? :=List.getElem?_set_ne h
theorem bD(a:Rat):a*0=0:=Rat.mul_zero a
theorem bE.{u}{α:Type u}{xs:Array α}:xs.toList[i]? =xs[i]? :=Array.getElem?_toList
theorem bF.{u_1}{α:Type u_1}{l:List α}(h:l.length<=i):List.take i l=l:=List.take_of_length_le h
theorem bG.{u_1}{α:Type u_1}{l:List α}:List.take l.length l=l:=List.take_length
theorem bH(a:Rat):0*a=0:=Rat.zero_mul a
theorem bI.{u}{α:Type u}(as bs L:List α):as++bs++L=as++(bs++L):=List.append_assoc as bs L
theorem bJ.{u_1}{α:Type u_1}{a b:α}:a∈[b]↔a=b:=List.mem_singleton
theorem bK.{u}{α:Type u}{a:α}:(List.replicate n a).length=n:=List.length_replicate
theorem bL{p:Prop} [Decidable p]:¬p->decide p=false:=decide_eq_false
theorem bM{a b:Nat}(h:a<b):a % b=a:=Nat.mod_eq_of_lt h
theorem bN(n:Nat):n=0\/n>0:=Nat.eq_zero_or_pos n
theorem bO.{u}{α:Type u}{a:α}{as:List α}:(a::as).length=as.length+1:=List.length_cons
theorem bP(n:Nat):n-n=0:=Nat.sub_self n
theorem bQ:n.beq m=true->n=m:=Nat.eq_of_beq_eq_true
theorem bT.{u_1}{α:Type u_1}{l:List α}{j:Nat}(h:i<j):(List.take j l)[i]? =l[i]? :=List.getElem?_take_of_lt h
theorem bU(n m:Nat):n*m=m*n:=Nat.mul_comm n m
theorem bV.{u_1}{α:Type u_1}{a:α}{s t:List α}:a∈s++t↔a∈s\/a∈t:=List.mem_append
theorem bW(n m k:Nat):n*(m+k)=n*m+n*k:=Nat.mul_add n m k
theorem bX.{u_1}{α:Type u_1}{xs:Array α}{a:α}:(xs.setIfInBounds i a).size=xs.size:=Array.size_setIfInBounds
theorem bY.{u_1}{α:Type u_1}{l₁ l₂:List α}(h:∀(i:Nat),l₁[i]? =l₂[i]?):l₁=l₂:=List.ext_getElem? h
theorem bZ:List.range n.succ=List.range n++[n]:=List.range_succ
theorem b9.{u_1}{α:Type u_1}{l:List α}{a b:α}:a∈l.set i b->a∈l\/a=b:=List.mem_or_eq_of_mem_set
theorem bc{p:Prop} [inst:Decidable p]:p->decide p=true:=decide_eq_true
theorem bf(h:i<n):(List.range n)[i]? =some i:=List.getElem?_range h
theorem bg(a:Rat):a+0=a:=Rat.add_zero a
theorem bh(k:Nat)(h:n<=m):k*n<=k*m:=Nat.mul_le_mul_left k h
theorem bj{a:Int}(h:a<0):a.sign= -1:=Int.sign_eq_neg_one_of_neg h
theorem bl(n m k:Nat):n*m*k=n*(m*k):=Nat.mul_assoc n m k
theorem bm.{u}{α:Type u}{as:List α}{a:α}:(as.set i a).length=as.length:=List.length_set
theorem bo(a b:Rat):a / b=a*b⁻¹:=Rat.div_def a b
theorem bp{a:Int}(h:0<a):a.sign=1:=Int.sign_eq_one_of_pos h
theorem bq(m:Nat)(npos:0<n):0<m.gcd n:=Nat.gcd_pos_of_pos_right m npos
theorem bs(a b:Rat):a*b=b*a:=Rat.mul_comm a b
theorem bu(w:Nat):0<2^w:=Nat.two_pow_pos w
theorem bw(a b:Nat):a<b\/a=b\/b<a:=Nat.lt_trichotomy a b
theorem bz(x:Nat){y:Nat}(hy:0<y):x % y<y:=Nat.mod_lt x hy
theorem cA(a:Rat):1*a=a:=Rat.one_mul a
theorem cB(n:Nat):n<n.succ:=Nat.lt_succ_self n
theorem cC(n:Nat):n+0=n:=Nat.add_zero n
end Go
namespace Go.Sx
open Go
variable{next:Act->World->Prop}{ad:Addr}{cells:Array Value}{b:Bool}{Q:Exit->Act->World->Prop}{F':Int->Prop}{fs:List (Nat×Nat)}{rest:List (Nat×Value)}{L new old xs:List Value}{B id m n nx off size:Nat}{place:Nat->Option (Nat×Nat)}{D lo:Option Operand}{F8:Prop}{J I:World}
inductive At where
 |v (x:Value)
 |p (id off:Nat)
 |s (id off len cap:Nat)
 |w (id len:Nat)
 |fn (f:Nat) (caps:List Nat)
inductive SV where
 |o (x:At)
 |a (L:List At)
structure da where
 g:Nat
 cap:Nat
 nil:Bool
def At.den(O:Nat->da):At->Value
 | .v x=>x
 | .p id off=>.pointer (some ⟨(O id).g,off,none⟩)
 | .s id off len cap=>.slice (some ⟨(O id).g,off,none⟩) len cap
 | .w id len=>match(O id).nil with
  |true=>.slice none 0 0
  |false=>.slice (some ⟨(O id).g,0,none⟩) len (O id).cap
 | .fn f caps=>.func (.func f) #[] (caps.map fun id=>Value.pointer (some ⟨(O id).g,0,none⟩)).toArray
def SV.den(O:Nat->da):SV->Value
 | .o x=>x.den O
 | .a L=>.agg (L.map (At.den O)).toArray
def At.sc(n:Nat):At->Prop
 | .v _=>True
 | .p id _=>id<n
 | .s id _ _ _=>id<n
 | .w id _=>id<n
 | .fn _ caps=>∀id∈caps,id<n
def SV.sc(n:Nat):SV->Prop
 | .o x=>x.sc n
 | .a L=>∀x∈L,At.sc n x
inductive j1 where
 |box (t:Nat) (L:List At)
 |arr (t:Nat) (L:List Value)
 |vec (t:Nat) (size:Nat) (L:List Value)
 |dead
abbrev Env:=List (Nat×SV)
abbrev Hp:=List (Nat×j1)
abbrev Iv:=List (Nat×Nat)
def fO:Env->Nat->Option SV
 |[],_=>none
 |(t,v)::r,u=>match Nat.beq t u with
  |true=>some v
  |false=>fO r u
def cw:Hp->Nat->Option j1
 |[],_=>none
 |(t,v)::r,u=>match Nat.beq t u with
  |true=>some v
  |false=>cw r u
def AY:Hp->Nat->(Hp->Prop)->Prop
 |[],_,_=>False
 |(t,v)::r,u,k=>match Nat.beq t u with
  |true=>k ((t,.dead)::r)
  |false=>AY r u (fun r'=>k ((t,v)::r'))
def ET:Hp->Nat->j1->(Hp->Prop)->Prop
 |[],_,_,_=>False
 |(t,v)::r,u,b,k=>match Nat.beq t u with
  |true=>k ((t,b)::r)
  |false=>ET r u b (fun r'=>k ((t,v)::r'))
structure TI where
 size:Nat
 agg:Bool
 bytes:Nat
 zero:List Value
 tag:Nat
 ik:IntKind:=.i64
 elem:Nat:=0
 B9:Nat:=0
 fields:List (Nat×Nat):=[]
def ev(l:Env):Operand->Option SV
 | .tmp t=>fO l t
 | .const v=>some (.o (.v v))
 | .global g=>some (.o (.v (.pointer (some ⟨g,0,none⟩))))
 | .func f=>some (.o (.v (.func (.func f) #[] #[])))
def o7(l:Env)(x:Operand)(k:SV->Prop):Prop:=match ev l x with
 |some v=>k v
 |none=>False
def IE(l:Env):List Operand->(List SV->Prop)->Prop
 |[],k=>k []
 |x::r,k=>match ev l x with
  |some v=>IE l r (fun vs=>k (v::vs))
  |none=>False
def sO:List At->Nat->(List At->Prop)->Prop
 |l,0,k=>k l
 |[],_+1,_=>False
 |_::t,n+1,k=>sO t n k
def sP:List At->Nat->(List At->Prop)->Prop
 |_,0,k=>k []
 |[],_+1,_=>False
 |x::t,n+1,k=>sP t n (fun r=>k (x::r))
def AZ:List At->List At->(List At->Prop)->Prop
 |L,[],k=>k L
 |[],_::_,_=>False
 |_::t,x::r,k=>AZ t r (fun t'=>k (x::t'))
def qE:List At->Nat->List At->(List At->Prop)->Prop
 |L,0,new,k=>AZ L new k
 |[],_+1,_,_=>False
 |x::t,n+1,new,k=>qE t n new (fun t'=>k (x::t'))
def o8:List Value->(List At->Prop)->Prop
 |[],k=>k []
 |x::r,k=>o8 r (fun r'=>k (.v x::r'))
def xY:SV->(List At->Prop)->Prop
 | .a L,k=>k L
 | .o (.v (.agg ⟨l⟩)),k=>o8 l k
 | .o (.v (.tuple _)),_=>False
 | .o x,k=>k [x]
def At.one:At->Bool
 | .v (.agg _)=>false
 | .v (.tuple _)=>false
 |_=>true
def Fw:List At->Prop->Prop
 |[],k=>k
 |x::r,k=>match x.one with
  |true=>Fw r k
  |false=>False
def wM:List At->(List Value->Prop)->Prop
 |[],k=>k []
 | .v x::r,k=>match At.one (.v x)with
  |true=>wM r (fun r'=>k (x::r'))
  |false=>False
 |_::_,_=>False
def vF(b:Bool)(F8 B:Prop):Prop:=match b with
 |true=>F8
 |false=>B
theorem vF.t{B:Prop}(h:vF b F8 B)(e:b=true):F8:=by subst e;exact h
theorem vF.f{B:Prop}(h:vF b F8 B)(e:b=false):B:=by subst e;exact h
theorem vF.mk{B:Prop}(Y:b=true->F8)(X:b=false->B):vF b F8 B:=by
 cases b
 .exact X rfl
 .exact Y rfl
theorem bS{B:Prop}(Y:b=true->F8)(X:b=false->B):vF b F8 B:=.mk Y X
structure Rel(H:Hp)(nx:Nat)(iv:Iv)(B:Nat)(w:World)(O:Nat->da)(J:World):Prop where
 os:J.os=w.os
 tape:J.tape=w.tape
 output:J.output=w.output
 size:w.heap.size<=J.heap.size
 base:B<=w.heap.size
 sN:∀lo D,(lo,D)∈iv->D<=w.heap.size
 keys:∀id b,cw H id=some b->id<nx
 box:∀id t L,cw H id=some (.box t L)->J.heap[(O id).g]? =some (.cells (L.map (At.den O)).toArray t (0,0))
 arr:∀id t L,cw H id=some (.arr t L)->J.heap[(O id).g]? =some (.cells L.toArray t (0,0))
 vec:∀id t size L,cw H id=some (.vec t size L)->((O id).nil=true/\L=[])\/
  ((O id).nil=false/\∃spare:List Value,J.heap[(O id).g]? =some (.cells (L++spare).toArray t (0,0))/\(L++spare).length=(O id).cap*size/\(O id).cap<=maxLen)
 inj:∀id id' b b',cw H id=some b->cw H id'=some b'->b≠ .dead->b'≠ .dead->(O id).nil=false->(O id').nil=false->(O id).g=(O id').g->id=id'
 low:∀id b,cw H id=some b->(O id).nil=false->B<=(O id).g/\(O id).g<J.heap.size
 uC:∀k,k<w.heap.size->(∀id b,cw H id=some b->(O id).nil=false->(O id).g≠k)->J.heap[k]? =w.heap[k]?
 kI:∀lo D,(lo,D)∈iv->∀id b,cw H id=some b->(O id).nil=false->¬(lo<=(O id).g/\(O id).g<D)
 KQ:∀id t L,cw H id=some (.box t L)->∀x∈L,At.sc nx x
 nn:∀id b,cw H id=some b->(∀t size L,b≠ .vec t size L)->b≠ .dead->(O id).nil=false
structure IJ(P:Program)(g:Nat):Prop where
 h:∀(args:Array Value) (w:World),(callFunc g args).run P w= .ok (.enter g args) w
structure eC(P:Program)(g:Nat)(args:Array Value)(w:World)(E9:Ending->World->Prop):Prop where
 e:IJ P g
 c:Calls P g args w E9
def zo:List At->Nat->Option At
 |[],_=>none
 |x::_,0=>some x
 |_::t,n+1=>zo t n
def HG:List Value->Nat->Option Value
 |[],_=>none
 |x::_,0=>some x
 |_::t,n+1=>HG t n
def HH:List (Nat×Nat)->Nat->Option (Nat×Nat)
 |[],_=>none
 |x::_,0=>some x
 |_::t,n+1=>HH t n
def od:IntKind->IntKind->Bool
 | .i8,.i8=>true| .i16,.i16=>true| .i32,.i32=>true| .i64,.i64=>true
 | .u8,.u8=>true| .u16,.u16=>true| .u32,.u32=>true| .u64,.u64=>true
 |_,_=>false
abbrev mS:=Nat->Option TI
def HI(op:BinOp)(k:IntKind)(a b:Int)(F':Value->Prop):Prop:=
 match op with
 | .add=>∃r,k.wrap (a+b)=r/\F' (.int k r)
 | .sub=>∃r,k.wrap (a-b)=r/\F' (.int k r)
 | .mul=>∃r,k.wrap (a*b)=r/\F' (.int k r)
 | .quo=>b≠0/\∃r,k.wrap (a.tdiv b)=r/\F' (.int k r)
 | .rem=>b≠0/\∃r,a.tmod b=r/\F' (.int k r)
 | .and=>∃r,k.wrap ((BitVec.ofInt k.bits a &&& BitVec.ofInt k.bits b).toNat:Int)=r/\F' (.int k r)
 | .or=>∃r,k.wrap ((BitVec.ofInt k.bits a ||| BitVec.ofInt k.bits b).toNat:Int)=r/\F' (.int k r)
 | .xor=>∃r,k.wrap ((BitVec.ofInt k.bits a ^^^ BitVec.ofInt k.bits b).toNat:Int)=r/\F' (.int k r)
 | .shl=>0<=b/\∃r,k.wrap (a*2^(min b.toNat k.bits))=r/\F' (.int k r)
 | .shr=>0<=b/\∃r,a.fdiv (2^(min b.toNat k.bits))=r/\F' (.int k r)
 | .eql=>F' (.bool (a==b))
 | .neq=>F' (.bool (a != b))
 | .lss=>F' (.bool (decide (a<b)))
 | .leq=>F' (.bool (decide (a<=b)))
 | .gtr=>F' (.bool (decide (a>b)))
 | .geq=>F' (.bool (decide (a≥b)))
 | .andNot=>∃r,k.wrap ((BitVec.ofInt k.bits a &&& ~~~BitVec.ofInt k.bits b).toNat:Int)=r/\F' (.int k r)
def Lx(P:Program)(τ:mS)(op:BinOp)(t:Nat)(x y:SV)(F':SV->Prop):Prop:=
 match x,y with
 | .o (.v (.int k a)),.o (.v (.int k' b))=>
  match op with
  | .shl=>HI op k a b (fun r=>F' (.o (.v r)))
  | .shr=>HI op k a b (fun r=>F' (.o (.v r)))
  |_=>match od k k' with
   |true=>HI op k a b (fun r=>F' (.o (.v r)))
   |false=>False
 | .o (.v (.bool a)),.o (.v (.bool b))=>
  match τ t with
  |some ti=>match Nat.beq ti.tag 2 with
   |true=>match op with
    | .eql=>F' (.o (.v (.bool (a==b))))
    | .neq=>F' (.o (.v (.bool (!(a==b)))))
    |_=>False
   |false=>False
  |none=>False
 | .o (.v (.string a)),.o (.v (.string b))=>
  match op with
  | .eql=>F' (.o (.v (.bool (a.data.toList==b.data.toList))))
  | .neq=>F' (.o (.v (.bool (!(a.data.toList==b.data.toList)))))
  | .add=>a.size+b.size<=maxLen/\F' (.o (.v (.string (a++b))))
  |_=>False
 |_,_=>∃b:Bool,(∀(O:Nat->da) (w:World) (o1 o2:Operand),(do eqGuard op t o1 o2 (x.den O) (y.den O);binOp op t (x.den O) (y.den O)).run P w= .ok (.bool b) w)/\F' (.o (.v (.bool b)))
def Ag(τ:mS)(B:Nat)(t:Nat)(addr:SV)(H:Hp)(nx:Nat)(iv:Iv)(w:World)(F':SV->Prop):Prop:=
 match τ t with
 |none=>False
 |some ⟨sz,ag,_,_,_,_,_,_,_⟩=>
  match addr with
  | .o (.p id off)=>
   match cw H id with
   |some (.box _ L)=>
    match ag with
    |false=>match zo L off with
     |some x=>F' (.o x)
     |none=>False
    |true=>sO L off (fun r=>sP r sz (fun l=>F' (.a l)))
   |some (.arr _ L)=>
    match ag with
    |false=>∃x,L[off]? =some x/\F' (.o (.v x))
    |true=>∃xs:List Value,(L.drop off).take sz=xs/\xs.length=sz/\o8 xs (fun l=>F' (.a l))
   |some (.vec _ _ L)=>
    match ag with
    |false=>∃x,L[off]? =some x/\F' (.o (.v x))
    |true=>∃xs:List Value,(L.drop off).take sz=xs/\xs.length=sz/\o8 xs (fun l=>F' (.a l))
   |_=>False
  | .o (.v (.pointer (some ad)))=>
   match ag with
   |false=>∃x,(∀O J,Rel H nx iv B w O J->J.cell? ad=some x)/\F' (.o (.v x))
   |true=>∃xs:List Value,xs.length=sz/\(∀O J,Rel H nx iv B w O J->∀j x,xs[j]? =some x->J.cell? (ad.add j)=some x)/\o8 xs (fun l=>F' (.a l))
  |_=>False
def setCells(w:World)(a:Addr):List Value->World
 |[]=>w
 |x::r=>setCells (w.setCell a x) (a.add 1) r
def Bd(τ:mS)(B:Nat)(t:Nat)(addr x:SV)(H:Hp)(nx:Nat)(iv:Iv)(w:World)(F':Hp->World->Prop):Prop:=
 match τ t with
 |none=>False
 |some ⟨sz,_,_,_,_,_,_,_,_⟩=>
  xY x (fun new=>Fw new (match Nat.beq new.length sz with
   |false=>False
   |true=>match addr with
    | .o (.p id off)=>
     match cw H id with
     |some (.box bt L)=>qE L off new (fun cs'=>ET H id (.box bt cs') (fun H'=>F' H' w))
     |some (.arr bt L)=>wM new (fun nv=>off+sz<=L.length/\∃cs',L.take off++nv++L.drop (off+sz)=cs'/\ET H id (.arr bt cs') (fun H'=>F' H' w))
     |some (.vec bt ez L)=>wM new (fun nv=>off+sz<=L.length/\∃cs',L.take off++nv++L.drop (off+sz)=cs'/\ET H id (.vec bt ez cs') (fun H'=>F' H' w))
     |_=>False
    | .o (.v (.pointer (some ad)))=>wM new (fun nv=>∀O J,Rel H nx iv B w O J->
      ad.spot=none/\(∀j,j<sz->(J.cell? (ad.add j)).isSome=true/\J.frozen? (ad.add j)=false)/\
      (∀id b,cw H id=some b->(O id).nil=false->(O id).g≠ad.block)/\
      ∀I,I=setCells J ad nv->F' H I)
    |_=>False))
def zp(b:j1)(H:Hp)(nx:Nat)(F':Hp->Nat->Prop):Prop:=F' ((nx,b)::H) (nx+1)
def oe(τ:mS)(fs:List (Nat×Nat))(f:Nat)(k:Nat->Nat->Bool->Prop):Prop:=
 match HH fs f with
 |some (off,ft)=>match τ ft with
  |some ⟨sz,ag,_,_,_,_,_,_,_⟩=>match Nat.beq sz 0 with
   |true=>False
   |false=>k off sz ag
  |none=>False
 |none=>False
def xL(x:SV)(n:Nat)(F':SV->Prop):Prop:=
 match x with
 | .o (.p id off)=>F' (.o (.p id (off+n)))
 | .o (.v (.pointer (some ad)))=>F' (.o (.v (.pointer (some (ad.add n)))))
 |_=>False
def uH(l:Env)(place:Nat->(Nat->Nat->Prop)->Prop):List (Nat×Operand)->List At->(List At->Prop)->Prop
 |[],L,k=>k L
 |(i,x)::r,L,k=>place i (fun off size=>o7 l x (fun v=>xY v (fun new=>match Nat.beq new.length size with
   |true=>qE L off new (fun cs'=>uH l place r cs' k)
   |false=>False)))
def HJ(H:Hp)(id m:Nat)(F':Prop):Prop:=
 match cw H id with
 |some (.vec _ sz L)=>match sz with
  |0=>False
  |k+1=>L.length=m*(k+1)/\F'
 |_=>False
def Ly(τ:mS)(H:Hp)(t:Nat)(x:SV)(F':Int->Prop):Prop:=
 match τ t with
 |none=>False
 |some ⟨_,_,_,_,tag,_,_,B9,_⟩=>match Nat.beq tag 4 with
  |true=>match x with
   | .o (.v (.slice _ n _))=>F' n
   | .o (.s _ _ n _)=>F' n
   | .o (.w id n)=>HJ H id n (F' n)
   |_=>False
  |false=>match Nat.beq tag 3 with
   |true=>match x with
    | .o (.v (.string b))=>F' b.size
    |_=>False
   |false=>match Nat.beq tag 6 with
    |true=>F' B9
    |false=>False
def EZ(τ:mS)(H:Hp)(t:Nat)(x i:SV)(F':SV->Prop):Prop:=
 match i with
 | .o (.v (.int _ i))=>match τ t with
  |some ⟨_,_,_,_,tag,_,e,B9,_⟩=>match τ e with
   |some ⟨sz,_,_,_,_,_,_,_,_⟩=>match Nat.beq tag 4 with
    |true=>match x with
     | .o (.s id off n _)=>(0<=i/\i<n)/\F' (.o (.p id (off+i.toNat*sz)))
     | .o (.w id n)=>HJ H id n ((0<=i/\i<n)/\F' (.o (.p id (i.toNat*sz))))
     | .o (.v (.slice a n _))=>∃ad,a=some ad/\(0<=i/\i<n)/\F' (.o (.v (.pointer (some (ad.add (i.toNat*sz))))))
     |_=>False
    |false=>match Nat.beq tag 6 with
     |true=>(0<=i/\i<B9)/\xL x (i.toNat*sz) F'
     |false=>False
   |none=>False
  |none=>False
 |_=>False
def Kb(l:Env)(x:Option Operand)(dflt:Int)(F':Int->Prop):Prop:=
 match x with
 |none=>F' dflt
 |some o=>o7 l o (fun v=>match v with
  | .o (.v (.int _ n))=>F' n
  |_=>False)
def Ea(τ:mS)(H:Hp)(t:Nat)(x:SV)(l:Env)(lo D:Option Operand)(F':SV->Prop):Prop:=
 match τ t with
 |some ⟨_,_,_,_,tag,_,e,al,_⟩=>match Nat.beq tag 4 with
  |true=>match τ e with
   |some ⟨sz,_,_,_,_,_,_,_,_⟩=>match x with
    | .o (.s id off n c)=>Kb l lo 0 (fun a=>Kb l D n (fun b=>(0<=a/\a<=b/\b<=c)/\∃off' n' c':Nat,(if (c:Int)=a then off else off+a.toNat*sz)=off'/\b.toNat-a.toNat=n'/\c-a.toNat=c'/\F' (.o (.s id off' n' c'))))
    | .o (.v (.slice ad n c))=>Kb l lo 0 (fun a=>Kb l D n (fun b=>(0<=a/\a<=b/\b<=c)/\∃ad' n' c',(if (c:Int)=a then ad else ad.map (·.add (a.toNat*sz)))=ad'/\b.toNat-a.toNat=n'/\c-a.toNat=c'/\F' (.o (.v (.slice ad' n' c')))))
    | .o (.w id n)=>match lo with
     |none=>HJ H id n (Kb l D n (fun b=>(0<=b/\b<=n)/\∃m:Nat,b.toNat=m/\F' (.o (.w id m))))
     |some _=>False
    |_=>False
   |none=>False
  |false=>match Nat.beq tag 6 with
   |true=>match τ e with
    |some ⟨_,_,_,_,_,_,_,_,_⟩=>match x with
     | .o (.p id off)=>match lo,D with
      |none,none=>match Nat.beq al 0 with
       |false=>F' (.o (.s id off al al))
       |true=>False
      |_,_=>False
     |_=>False
    |none=>False
   |false=>match Nat.beq tag 3 with
    |true=>match x with
     | .o (.v (.string s))=>Kb l lo 0 (fun a=>Kb l D s.size (fun b=>(0<=a/\a<=b/\b<=s.size)/\F' (.o (.v (.string (s.extract a.toNat b.toNat))))))
     |_=>False
    |false=>False
 |none=>False
def GB(τ:mS)(t:Nat)(x y:SV)(H:Hp)(nx:Nat)(F':SV->Hp->Nat->Prop):Prop:=
 match x,y with
 | .o (.v (.int _ a)),.o (.v (.int _ b))=>match τ t with
  |some ⟨_,_,_,_,tag,_,e,_,_⟩=>match Nat.beq tag 4 with
   |true=>match τ e with
    |some ⟨_,_,by_,ze,_,_,_,_,_⟩=>∃n c:Nat,a=n/\b=c/\n<=c/\by_*c<=281474976710656/\c<=9223372036854775807/\
      match ze with
      |[z]=>zp (.arr e (List.replicate c z)) H nx (fun H' OF=>F' (.o (.s nx 0 n c)) H' OF)
      |zs=>zp (.arr e (List.replicate c zs).flatten) H nx (fun H' OF=>F' (.o (.s nx 0 n c)) H' OF)
    |none=>False
   |false=>False
  |none=>False
 |_,_=>False
def IN(B:Nat)(H:Hp)(nx:Nat)(iv:Iv)(w:World)(size:Nat)(x:SV)(F':Nat->List Value->Prop):Prop:=
 match x with
 | .o (.s id off n _)=>match cw H id with
  |some (.box _ L)=>sO L off (fun r=>sP r (n*size) (fun l=>wM l (fun vs=>F' n vs)))
  |some (.arr _ L)=>∃vs:List Value,(L.drop off).take (n*size)=vs/\vs.length=n*size/\(∀x∈vs,x.oneCell'=true)/\F' n vs
  |_=>False
 | .o (.v (.slice a n _))=>∃vs:List Value,vs.length=n*size/\(∀x∈vs,x.oneCell'=true)/\
   (∀O J,Rel H nx iv B w O J->0<n->∃ad,a=some ad/\∀j u,vs[j]? =some u->J.cell? (ad.add j)=some u)/\F' n vs
 | .o (.w id n)=>match cw H id with
  |some (.vec _ _ L)=>L.length=n*size/\(∀x∈L,x.oneCell'=true)/\F' n L
  |_=>False
 |_=>False
def xM(τ:mS)(B:Nat)(t:Nat)(x y:SV)(H:Hp)(nx:Nat)(iv:Iv)(w:World)(F':SV->Hp->Nat->Prop):Prop:=
 match τ t with
 |none=>False
 |some ⟨_,_,_,_,tag,_,e,_,_⟩=>match Nat.beq tag 4 with
  |true=>match τ e with
   |some ⟨sz,_,by_,ze,_,_,_,_,_⟩=>match ze with
    |[]=>False
    |_::_=>IN B H nx iv w sz y (fun m news=>
     match x with
     | .o (.v (.slice none 0 0))=>m*by_<=140737488355328/\m<=maxLen/\zp (.vec e sz news) H nx (fun H' OF=>F' (.o (.w nx m)) H' OF)
     | .o (.w id n)=>match cw H id with
      |some (.vec e' sz' L)=>match Nat.beq e' e with
       |true=>match Nat.beq sz' sz with
        |true=>L.length=n*sz/\(n+m)*by_<=140737488355328/\n+m<=maxLen/\AY H id (fun H1=>zp (.vec e sz (L++news)) H1 nx (fun H' OF=>F' (.o (.w nx (n+m))) H' OF))
        |false=>False
       |false=>False
      |_=>False
     | .o (.s id 0 n c)=>match Nat.beq n c with
      |true=>match cw H id with
       |some (.box e' L)=>match Nat.beq e' e with
        |true=>wM L (fun vs=>vs.length=n*sz/\(n+m)*by_<=140737488355328/\n+m<=maxLen/\AY H id (fun H1=>zp (.vec e sz (vs++news)) H1 nx (fun H' OF=>F' (.o (.w nx (n+m))) H' OF)))
        |false=>False
       |_=>False
      |false=>False
     |_=>False)
   |none=>False
  |false=>False
def mw(O:Nat->da)(xs:List SV):Array Value:=(xs.map (SV.den O)).toArray
abbrev Ext(w I:World):Prop:=RowKit.Below w.heap.size w I
structure DC(P:Program)(B:Nat)(g:Nat)(args:(Nat->da)->Array Value)(H:Hp)(nx:Nat)(iv:Iv)(w:World)(F':SV->Hp->Iv->World->Prop):Prop where
 h:∀O J,Rel H nx iv B w O J->eC P g (args O) J (fun e I=>∃v H' K,e= .returned v/\Rel H' nx K B I O I/\F' (.o (.v v)) H' K I)
structure Cw(P:Program)(B:Nat)(g:Nat)(args:(Nat->da)->Array Value)(H:Hp)(nx:Nat)(iv:Iv)(w:World)(F':SV->Hp->Iv->World->Prop):Prop where
 h:∀O J,Rel H nx iv B w O J->eC P g (args O) J (fun e I=>∃v,e= .returned v/\Ext J I/\F' (.o (.v v)) H ((J.heap.size,I.heap.size)::iv) I)
def IP(dr:Bool)(P:Program)(B:Nat)(g:Nat)(args:(Nat->da)->Array Value)(H:Hp)(nx:Nat)(iv:Iv)(w:World)(F':SV->Hp->Iv->World->Prop):Prop:=
 match dr with
 |true=>Cw P B g args H nx iv w F'
 |false=>DC P B g args H nx iv w F'
structure xK(P:Program)(B:Nat)(o:Oper)(l:Env)(H:Hp)(nx:Nat)(iv:Iv)(w:World)(F':SV->Hp->Nat->Iv->World->Prop):Prop where
 h:∀(O:Nat->da) J (e:Operand->Value),Rel H nx iv B w O J->(∀x v,ev l x=some v->e x=v.den O)->
  ∃v I K,((execOp e o).run P J= .ok (.value v) I\/((execOp e o).run P J= .ok .skip I/\v=undef))/\Rel H nx K B I O I/\F' (.o (.v v)) H nx K I
def Nu(dr:Bool)(P:Program)(B:Nat)(o:Oper)(l:Env)(H:Hp)(nx:Nat)(iv:Iv)(w:World)(F':SV->Hp->Nat->Iv->World->Prop):Prop:=
 match dr with
 |true=>False
 |false=>xK P B o l H nx iv w F'
structure NY(P:Program)(B:Nat)(o:Oper)(l:Env)(H:Hp)(nx:Nat)(iv:Iv)(w:World)(F':SV->Hp->Nat->Iv->World->Prop):Prop where
 h:∀(O:Nat->da) J (e:Operand->Value),Rel H nx iv B w O J->(∀x v,ev l x=some v->e x=v.den O)->
  ∃I w3 H' K,(execOp e o).run P J= .ok .skip w3/\Rel H' nx K B I O w3/\F' (.o (.v undef)) H' nx K I
def Nv(dr:Bool)(P:Program)(B:Nat)(o:Oper)(l:Env)(H:Hp)(nx:Nat)(iv:Iv)(w:World)(F':SV->Hp->Nat->Iv->World->Prop):Prop:=
 match dr with
 |true=>False
 |false=>NY P B o l H nx iv w F'
structure Np(P:Program)(B:Nat)(o:Oper)(l:Env)(H:Hp)(nx:Nat)(iv:Iv)(w:World)(F':SV->Hp->Nat->Iv->World->Prop):Prop where
 h:∀(O:Nat->da) J (e:Operand->Value),Rel H nx iv B w O J->(∀x v,ev l x=some v->e x=v.den O)->
  ∃v H' OF K G8 I w3,(execOp e o).run P J= .ok (.value (SV.den G8 v)) w3/\Rel H' OF K B I G8 w3/\v.sc OF/\nx<=OF/\(∀id,id<nx->O id=G8 id)/\F' v H' OF K I
def Nq(dr:Bool)(P:Program)(B:Nat)(o:Oper)(l:Env)(H:Hp)(nx:Nat)(iv:Iv)(w:World)(F':SV->Hp->Nat->Iv->World->Prop):Prop:=
 match dr with
 |true=>False
 |false=>Np P B o l H nx iv w F'
def Mn(H:Hp):SV->Bool
 | .o (.s id _ _ _)=>match cw H id with
  |some (.box _ [.s _ _ _ _])=>true
  |some (.box _ [.w _ _])=>true
  |_=>false
 |_=>false
def LW(H:Hp):SV->SV->Bool
 | .o (.p id _),.o (.s _ _ _ _)=>match cw H id with
  |some (.arr _ _)=>true
  |_=>false
 |_,_=>false
def nA:List SV->(List Nat->Prop)->Prop
 |[],k=>k []
 | .o (.p id 0)::r,k=>nA r (fun l=>k (id::l))
 |_::_,_=>False
def xZ(dr:Bool)(P:Program)(τ:mS)(B:Nat)(o:Oper)(l:Env)(H:Hp)(nx:Nat)(iv:Iv)(w:World)(F':SV->Hp->Nat->Iv->World->Prop):Prop:=
 match o.op with
 | .move x=>o7 l x (fun v=>F' v H nx iv w)
 | .assign x=>o7 l x (fun v=>F' v H nx iv w)
 | .pick c a b=>o7 l c (fun v=>match v with
  | .o (.v (.bool t))=>vF t (o7 l a (fun v=>F' v H nx iv w)) (o7 l b (fun v=>F' v H nx iv w))
  |_=>False)
 | .alloc t=>match τ t with
  |some ⟨_,_,_,ze,_,_,_,_,_⟩=>o8 ze (fun L=>zp (.box t L) H nx (fun H' OF=>F' (.o (.p nx 0)) H' OF iv w))
  |none=>False
 | .box t x=>o7 l x (fun v=>xY v (fun L=>zp (.box t L) H nx (fun H' OF=>F' (.o (.p nx 0)) H' OF iv w)))
 | .build t parts=>match τ t with
  |some ⟨_,_,_,ze,tag,_,e,_,fs⟩=>match Nat.beq tag 5 with
   |true=>o8 ze (fun z=>uH l (fun i k=>oe τ fs i (fun off sz _=>k off sz)) parts.toList z (fun L=>F' (.a L) H nx iv w))
   |false=>match Nat.beq tag 6 with
    |true=>match τ e with
     |some ⟨sz,_,_,_,_,_,_,_,_⟩=>o8 ze (fun z=>uH l (fun i k=>k (i*sz) sz) parts.toList z (fun L=>F' (.a L) H nx iv w))
     |none=>False
    |false=>False
  |none=>False
 | .buildSlice t n parts=>match τ t with
  |some ⟨_,_,_,_,tag,_,e,_,_⟩=>match Nat.beq tag 4 with
   |true=>match τ e with
    |some ⟨sz,_,_,ze,_,_,_,_,_⟩=>match Nat.ble (n*sz) 16777216 with
     |true=>o8 (List.replicate n ze).flatten (fun z=>uH l (fun i k=>k (i*sz) sz) parts.toList z (fun L=>
       zp (.box e L) H nx (fun H' OF=>F' (.o (.s nx 0 n n)) H' OF iv w)))
     |false=>False
    |none=>False
   |false=>False
  |none=>False
 | .load t a=>o7 l a (fun v=>Ag τ B t v H nx iv w (fun r=>F' r H nx iv w))
 | .store t a x=>o7 l a (fun va=>o7 l x (fun vx=>match LW H va vx with
  |true=>Nv dr P B o l H nx iv w F'
  |false=>Bd τ B t va vx H nx iv w (fun H' J=>F' (.o (.v undef)) H' nx iv J)))
 | .nilCheck x=>o7 l x (fun v=>match v with
  | .o (.p id off)=>F' (.o (.p id off)) H nx iv w
  | .o (.v (.pointer (some ad)))=>F' (.o (.v (.pointer (some ad)))) H nx iv w
  | .o (.fn f ids)=>F' (.o (.fn f ids)) H nx iv w
  | .o (.v (.func (.func f) fi ca))=>F' (.o (.v (.func (.func f) fi ca))) H nx iv w
  |_=>False)
 | .binOp op t x y _=>o7 l x (fun vx=>o7 l y (fun vy=>Lx P τ op t vx vy (fun r=>F' r H nx iv w)))
 | .unOp op _ x=>o7 l x (fun v=>match op,v with
  | .not,.o (.v (.bool b))=>F' (.o (.v (.bool (!b)))) H nx iv w
  | .neg,.o (.v (.int k n))=>∃r,k.wrap (0-n)=r/\F' (.o (.v (.int k r))) H nx iv w
  | .xor,.o (.v (.int k n))=>∃r,k.wrap ((BitVec.ofInt k.bits (if k.signed then -1 else k.max) ^^^ BitVec.ofInt k.bits n).toNat:Int)=r/\F' (.o (.v (.int k r))) H nx iv w
  |_,_=>False)
 | .convert sr d x=>match τ sr with
  |some _=>o7 l x (fun v=>match τ d with
   |some ⟨_,_,_,_,tag,ik,_,_,_⟩=>match Nat.beq tag 1 with
    |true=>match v with
     | .o (.v (.int _ n))=>∃r,ik.wrap n=r/\F' (.o (.v (.int ik r))) H nx iv w
     |_=>False
    |false=>Nu dr P B o l H nx iv w F'
   |none=>False)
  |none=>False
 | .makeFunc (.func f) ⟨first⟩ caps=>match first with
  |[]=>IE l caps.toList (fun vs=>nA vs (fun ids=>F' (.o (.fn f ids)) H nx iv w))
  |_=>False
 | .makeSlice t x y=>o7 l x (fun vx=>o7 l y (fun vy=>GB τ t vx vy H nx (fun v H' OF=>F' v H' OF iv w)))
 | .slice t x lo D none=>o7 l x (fun v=>Ea τ H t v l lo D (fun r=>F' r H nx iv w))
 | .fieldAddr t x f=>match τ t with
  |some ⟨_,_,_,_,tag,_,_,_,fs⟩=>match Nat.beq tag 5 with
   |true=>oe τ fs f (fun off _ _=>o7 l x (fun v=>xL v off (fun r=>F' r H nx iv w)))
   |false=>False
  |none=>False
 | .field t x f=>match τ t with
  |some ⟨_,_,_,_,tag,_,_,_,fs⟩=>match Nat.beq tag 5 with
   |true=>oe τ fs f (fun off sz ag=>o7 l x (fun v=>match v with
    | .o (.v (.agg ⟨vs⟩))=>o8 vs (fun L=>match ag with
     |true=>sO L off (fun r=>sP r sz (fun c=>F' (.a c) H nx iv w))
     |false=>match zo L off with
      |some c=>F' (.o c) H nx iv w
      |none=>False)
    | .a L=>match ag with
     |true=>sO L off (fun r=>sP r sz (fun c=>F' (.a c) H nx iv w))
     |false=>match zo L off with
      |some c=>F' (.o c) H nx iv w
      |none=>False
    |_=>False))
   |false=>False
  |none=>False
 | .indexAddr t x i=>o7 l x (fun vx=>o7 l i (fun vi=>EZ τ H t vx vi (fun r=>F' r H nx iv w)))
 | .extract x i=>o7 l x (fun v=>match v with
  | .o (.v (.tuple ⟨vs⟩))=>match HG vs i with
   |some u=>F' (.o (.v u)) H nx iv w
   |none=>False
  |_=>False)
 | .call ⟨.builtin .len,⟨[x]⟩,⟨[t]⟩⟩=>o7 l x (fun v=>Ly τ H t v (fun n=>F' (.o (.v (.int .i64 n))) H nx iv w))
 | .call ⟨.builtin .append,⟨[x,y]⟩,⟨[t,u]⟩⟩=>match Nat.beq t u with
  |true=>o7 l x (fun vx=>o7 l y (fun vy=>match Mn H vy with
   |true=>Nq dr P B o l H nx iv w F'
   |false=>xM τ B t vx vy H nx iv w (fun v H' OF=>F' v H' OF iv w)\/xK P B o l H nx iv w F'))
  |false=>xK P B o l H nx iv w F'
 | .call ⟨.builtin .max,⟨[x,y]⟩,_⟩=>o7 l x (fun vx=>o7 l y (fun vy=>match vx,vy with
  | .o (.v (.int k a)),.o (.v (.int k' b))=>match od k k' with
   |true=>F' (.o (.v (.int k (max a b)))) H nx iv w
   |false=>False
  |_,_=>False))
 | .call ⟨.builtin .min,⟨[x,y]⟩,_⟩=>o7 l x (fun vx=>o7 l y (fun vy=>match vx,vy with
  | .o (.v (.int k a)),.o (.v (.int k' b))=>match od k k' with
   |true=>F' (.o (.v (.int k (min a b)))) H nx iv w
   |false=>False
  |_,_=>False))
 | .call ⟨.builtin .copy,_,_⟩=>xK P B o l H nx iv w F'
 | .call ⟨.builtin .clear,_,_⟩=>xK P B o l H nx iv w F'
 | .call ⟨.builtin .cap,_,_⟩=>xK P B o l H nx iv w F'
 | .index _ _ _=>xK P B o l H nx iv w F'
 | .makeMap _ _=>xK P B o l H nx iv w F'
 | .lookup _ _ _ _=>xK P B o l H nx iv w F'
 | .mapUpdate _ _ _ _=>xK P B o l H nx iv w F'
 | .call ⟨.value f,⟨args⟩,_⟩=>o7 l f (fun vf=>IE l args (fun vs=>match vf with
   | .o (.v (.func (.func g) first caps))=>IP dr P B g (fun O=>first++mw O vs++caps) H nx iv w (fun v H' K J=>F' v H' nx K J)
   | .o (.fn g ids)=>IP dr P B g (fun O=>mw O vs++(ids.map fun id=>Value.pointer (some ⟨(O id).g,0,none⟩)).toArray) H nx iv w (fun v H' K J=>F' v H' nx K J)
   |_=>False))
 |_=>False
def Ah:List Oper->Nat->Option Tmp
 |[],_=>none
 |o::_,0=>o.dst
 |_::r,n+1=>Ah r n
def Ct(d:Option Tmp)(v:SV)(l:Env)(k:Env->Prop):Prop:=match d with
 |some t=>k ((t,v)::l)
 |none=>k l
def sR(all:List Oper)(g:Option (Nat×Bool))(l:Env)(yes no:Env->Prop):Prop:=
 match g with
 |none=>yes l
 |some (j,want)=>match Ah all j with
  |none=>no l
  |some d=>match fO l d with
   |some (.o (.v (.bool b)))=>match want with
    |true=>vF b (yes ((d,.o (.v (.bool true)))::l)) (no ((d,.o (.v (.bool false)))::l))
    |false=>vF b (no ((d,.o (.v (.bool true)))::l)) (yes ((d,.o (.v (.bool false)))::l))
   |some (.o (.v (.tuple _)))=>no l
   |_=>False
def ga(dr:Bool)(P:Program)(τ:mS)(B:Nat)(all:List Oper)(o:Oper)(l:Env)(H:Hp)(nx:Nat)(iv:Iv)(w:World)(k:Env->Hp->Nat->Iv->World->Prop):Prop:=
 sR all o.guard l
  (fun l=>xZ dr P τ B o l H nx iv w (fun v H' OF K J=>Ct o.dst v l (fun l'=>k l' H' OF K J)))
  (fun l=>Ct o.dst (.o (.v undef)) l (fun l'=>k l' H nx iv w))
def GC(P:Program)(τ:mS)(B:Nat)(all:List Oper):List Oper->Env->Hp->Nat->Iv->World->(Env->Hp->Nat->Iv->World->Prop)->Prop
 |[],l,H,nx,iv,w,F'=>F' l H nx iv w
 |o::r,l,H,nx,iv,w,F'=>ga false P τ B all o l H nx iv w (fun l' H' OF K J=>GC P τ B all r l' H' OF K J F')
inductive Ex where
 |normal
 |exit (id:Nat)
 |ret
structure Sat(n:Nat)(l:Env)(H:Hp)(nx:Nat)(iv:Iv)(B:Nat)(w:World)(O:Nat->da)(a:Act)(J:World):Prop where
 rel:Rel H nx iv B w O J
 size:a.tmps.size=n
 defers:a.defers=[]
 env:∀t v,fO l t=some v->a.tmps[t]? =some (v.den O)
 sc:∀t v,fO l t=some v->v.sc nx
abbrev KT:=Env->Hp->Nat->Iv->World->Prop
structure uF(P:Program)(B:Nat)(ops:Array Oper)(l:Env)(H:Hp)(nx:Nat)(iv:Iv)(w:World)(F':KT):Prop where
 h:∀n O a J,ops.toList.all (fun o=>match o.dst with
   |some d=>Nat.blt d n
   |none=>true)=true->Sat n l H nx iv B w O a J->
  ∀Q:Exit->Act->World->Prop,(∀l' H' OF K I G8 a' w'',F' l' H' OF K I->Sat n l' H' OF K B I G8 a' w''->Q .normal a' w'')->
  ∀id,(Code.region id ops true).wp P Q a J
structure Ai where
 l:Env
 H:Hp
 nx:Nat
 iv:Iv
 w:World
def Sub(B:Nat)(l:Env)(_nx:Nat)(O:Nat->da)(J:World)(t:Ai):Prop:=
 ∃G8,Rel t.H t.nx t.iv B t.w G8 J/\(∀u v,fO t.l u=some v->v.sc t.nx/\∃v0,fO l u=some v0/\v0.den O=v.den G8)
def mF(P:Program)(τ:mS)(B:Nat):Code->Env->Hp->Nat->Iv->World->(Ex->KT)->Prop
 | .skip,l,H,nx,iv,w,Q=>Q .normal l H nx iv w
 | .region _ ops false,l,H,nx,iv,w,Q=>GC P τ B ops.toList ops.toList l H nx iv w (Q .normal)
 | .region _ ops true,l,H,nx,iv,w,Q=>uF P B ops l H nx iv w (Q .normal)
 | .seq a b,l,H,nx,iv,w,Q=>mF P τ B a l H nx iv w (fun e l H nx iv w=>match e with
  | .normal=>mF P τ B b l H nx iv w Q
  | .exit id=>Q (.exit id) l H nx iv w
  | .ret=>Q .ret l H nx iv w)
 | .cond c a b,l,H,nx,iv,w,Q=>o7 l c (fun v=>match v with
  | .o (.v (.bool t))=>vF t (mF P τ B a l H nx iv w Q) (mF P τ B b l H nx iv w Q)
  |_=>False)
 | .block id c,l,H,nx,iv,w,Q=>mF P τ B c l H nx iv w (fun e l H nx iv w=>match e with
  | .normal=>Q .normal l H nx iv w
  | .exit id'=>match Nat.beq id' id with
   |true=>Q .normal l H nx iv w
   |false=>Q (.exit id') l H nx iv w
  | .ret=>Q .ret l H nx iv w)
 | .loop c,l,H,nx,iv,w,Q=>∃(α:Type) (st:α->Ai) (μ:α->Nat) (A':α->Prop),
   (∀O J,Rel H nx iv B w O J->∃x,A' x/\Sub B l nx O J (st x))/\
   ∀x,A' x->mF P τ B c (st x).l (st x).H (st x).nx (st x).iv (st x).w (fun e l H nx iv w=>match e with
    | .normal=>∀O J,Rel H nx iv B w O J->∃y,A' y/\Sub B l nx O J (st y)/\μ y<μ x
    | .exit id=>Q (.exit id) l H nx iv w
    | .ret=>Q .ret l H nx iv w)
 | .exit id,l,H,nx,iv,w,Q=>Q (.exit id) l H nx iv w
 | .ret,l,H,nx,iv,w,Q=>Q .ret l H nx iv w
 |_,_,_,_,_,_,_=>False
structure EY(P:Program)(t:Nat)(i:TI):Prop where
 info:∃inf z,P.info? t=some inf/\inf.size=i.size/\inf.bytes=i.bytes/\inf.zero=some z/\z.cells.toList=i.zero
 HE:i.zero.length=i.size
 NX:∀x∈i.zero,x.oneCell'=true
 agg:∃d,P.underlying t=some d/\(match d with| .struct _| .array _ _=>true|_=>false)=i.agg
 i1:i.tag=1->P.underlying t=some (.int i.ik)
 i2:i.tag=2->P.underlying t=some .bool
 i3:i.tag=3->P.underlying t=some .string
 i4:i.tag=4->P.underlying t=some (.slice i.elem)
 i5:i.tag=5->∃fs,P.underlying t=some (.struct fs)/\fs.toList.map (fun f=>(f.offset,f.type))=i.fields/\∀f∈fs.toList,(P.info? f.type).isSome=true
 i6:i.tag=6->P.underlying t=some (.array i.B9 i.elem)
def fQ(P:Program)(τ:mS):Prop:=∀t i,τ t=some i->EY P t i
theorem eG{a b:Nat}(h:Nat.beq a b=true):a=b:=bQ h
theorem fS:∀{xs:List Value} {k:List At->Prop},o8 xs k->k (xs.map At.v)
 |[],_,h=>h
 |x::r,k,h=>by
  have:=fS (xs:=r) (k:=fun r'=>k (.v x::r')) h;simpa using this
theorem nB:∀{L:List At} {n:Nat} {k:List At->Prop},sO L n k->k (L.drop n)/\n<=L.length
 |L,0,k,h=>by cases L<;>exact⟨by simpa [sO]using h,bv⟩
 |[],n+1,k,h=>by simp[sO]at h
 |x::t,n+1,k,h=>by
  have:=nB (L:=t) (n:=n) (k:=k) h;exact⟨by simpa using this.1,by simp;omega⟩
theorem nC:∀{L:List At} {n:Nat} {k:List At->Prop},sP L n k->k (L.take n)/\n<=L.length
 |L,0,k,h=>by cases L<;>exact⟨by simpa [sP]using h,bv⟩
 |[],n+1,k,h=>by simp[sP]at h
 |x::t,n+1,k,h=>by
  have:=nC (L:=t) (n:=n) (k:=fun r=>k (x::r)) h;exact⟨by simpa using this.1,by simp;omega⟩
theorem xf:∀{L new:List At} {k:List At->Prop},AZ L new k->k (new++L.drop new.length)/\new.length<=L.length
 |L,[],k,h=>by cases L<;>exact⟨by simpa [AZ]using h,bv⟩
 |[],x::r,k,h=>by simp[AZ]at h
 |_::t,x::r,k,h=>by
  have:=xf (L:=t) (new:=r) (k:=fun t'=>k (x::t')) h;exact⟨by simpa using this.1,by simp;omega⟩
theorem nD:∀{L:List At} {off:Nat} {new:List At} {k:List At->Prop},qE L off new k->
  k (L.take off++new++L.drop (off+new.length))/\off+new.length<=L.length
 |L,0,new,k,h=>by
  have h':AZ L new k:=by cases L<;>simpa [qE]using h
  have:=xf h';exact⟨by simpa using this.1,be⟩
 |[],n+1,new,k,h=>by simp[qE]at h
 |x::t,n+1,new,k,h=>by
  have:=nD (L:=t) (off:=n) (new:=new) (k:=fun t'=>k (x::t')) h;refine⟨?_,by simp;omega⟩;have X:=this.1;rw[show n+1+new.length=(n+new.length)+1 by omega];simpa using X
theorem one_den{x:At}(h:x.one=true)(O:Nat->da):(x.den O).oneCell'=true:=by
 cases x with
 |v y=>cases y<;>simp_all [At.one,At.den,Value.oneCell']
 |w id n=>simp only[At.den];split<;>rfl
 |_=>rfl
theorem xg:∀{L:List At} {k:Prop},Fw L k->k/\∀c∈L,At.one c=true
 |[],k,h=>⟨h,bv⟩
 |x::r,k,h=>by
  unfold Fw at h;split at h
  .rename_i G;have:=xg h;exact⟨this.1,by simp[G];exact this.2⟩
  .exact h.elim
theorem kX:∀{L:List At} {k:List Value->Prop},wM L k->∃vs,k vs/\L=vs.map At.v/\∀v∈vs,v.oneCell'=true
 |[],k,h=>⟨[],h,rfl,bv⟩
 | .v x::r,k,h=>by
  unfold wM at h;split at h
  .rename_i G;obtain⟨vs,Y,X,N⟩:=kX h;exact⟨x::vs,Y,by simp[X],by simp;exact⟨one_den G (fun _=>⟨0,0,false⟩),N⟩⟩
  .exact h.elim
 | .p _ _::_,k,h=>by simp[wM]at h
 | .s _ _ _ _::_,k,h=>by simp[wM]at h
 | .w _ _::_,k,h=>by simp[wM]at h
 | .fn _ _::_,k,h=>by simp[wM]at h
theorem lN{x:SV}{k:List At->Prop}(h:xY x k):∃L,k L/\(∀O,(x.den O).cells=(L.map (At.den O)).toArray)/\(∀n,x.sc n->∀c∈L,c.sc n):=by
 cases x with
 |a L=>exact⟨L,h,fun O=>rfl,fun n Z=>Z⟩
 |o y=>
  cases y with
  |v z=>
   cases z with
   |agg arr=>
    obtain⟨l⟩:=arr;refine⟨_,fS h,fun O=>?_,fun n _ c hc=>?_⟩
    .simp[SV.den,At.den,Value.cells,Function.comp_def]
    .simp at hc;obtain⟨v,_,rfl⟩:=hc;trivial
   |tuple arr=>simp[xY]at h
   |_=>exact⟨_,h,fun O=>rfl,fun n _ c hc=>by simp at hc;subst hc;trivial⟩
  |w id n=>exact⟨_,h,fun O=>by simp only[SV.den,At.den,List.map];split<;>rfl,fun n Z c hc=>by simp at hc;subst hc;exact Z⟩
  |_=>exact⟨_,h,fun O=>rfl,fun n Z c hc=>by simp at hc;subst hc;exact Z⟩
theorem dA(t:Nat)(b:j1)(r:Hp)(u:Nat):cw ((t,b)::r) u=if t=u then some b else cw r u:=by
 show(match Nat.beq t u with|true=>some b|false=>cw r u)=_;split
 .rename_i h;rw[aH (eG h)]
 .rename_i h;rw[aF (fun e=>by subst e;rw[Nat.beq_refl]at h;cases h)]
theorem eW(t:Nat)(b:SV)(r:Env)(u:Nat):fO ((t,b)::r) u=if t=u then some b else fO r u:=by
 show(match Nat.beq t u with|true=>some b|false=>fO r u)=_;split
 .rename_i h;rw[aH (eG h)]
 .rename_i h;rw[aF (fun e=>by subst e;rw[Nat.beq_refl]at h;cases h)]
theorem qI:∀{H:Hp} {id:Nat} {b:j1} {k:Hp->Prop},ET H id b k->∃H',k H'/\(∀j,cw H' j=if j=id then some b else cw H j)/\(cw H id).isSome=true
 |[],id,b,k,h=>by simp[ET]at h
 |(t,v)::r,id,b,k,h=>by
  unfold ET at h;split at h
  .rename_i ht;have:=eG ht;subst this;refine⟨_,h,fun j=>?_,by simp[dA]⟩;simp only[dA]
   by_cases e:t=j
   .simp[e]
   .simp[e,Ne.symm e]
  .rename_i ht;have OB:t≠id:=fun e=>by subst e;rw[Nat.beq_refl]at ht;cases ht
   obtain⟨H',Y,X,N⟩:=qI h;refine⟨_,Y,fun j=>?_,by simp[dA,OB,N]⟩;simp only[dA,X]
   by_cases e:t=j
   .subst e;simp[OB]
   .simp[e]
theorem rL:∀{H:Hp} {id:Nat} {k:Hp->Prop},AY H id k->∃H',k H'/\(∀j,cw H' j=if j=id then some .dead else cw H j)/\(cw H id).isSome=true
 |[],id,k,h=>by simp[AY]at h
 |(t,v)::r,id,k,h=>by
  unfold AY at h;split at h
  .rename_i ht;have:=eG ht;subst this;refine⟨_,h,fun j=>?_,by simp[dA]⟩;simp only[dA]
   by_cases e:t=j
   .simp[e]
   .simp[e,Ne.symm e]
  .rename_i ht;have OB:t≠id:=fun e=>by subst e;rw[Nat.beq_refl]at ht;cases ht
   obtain⟨H',Y,X,N⟩:=rL h;refine⟨_,Y,fun j=>?_,by simp[dA,OB,N]⟩;simp only[dA,X]
   by_cases e:t=j
   .subst e;simp[OB]
   .simp[e]
theorem At.j6{x:At}{O G8:Nat->da}(h:∀id,id<n->O id=G8 id)(G:x.sc n):x.den O=x.den G8:=by
 cases x with
 |v y=>rfl
 |p id off=>simp only[At.den,h id G]
 |s id off len cap=>simp only[At.den,h id G]
 |w id len=>simp only[At.den,h id G]
 |fn f caps=>
  simp only[At.den]
  congr 2;exact List.map_congr_left fun id Oh=>by rw[h id (G id Oh)]
theorem SV.j6{x:SV}{O G8:Nat->da}(h:∀id,id<n->O id=G8 id)(G:x.sc n):x.den O=x.den G8:=by
 cases x with
 |o y=>exact At.j6 h G
 |a L=>
  simp only[SV.den]
  congr 2;exact List.map_congr_left fun c hc=>At.j6 h (G c hc)
theorem At.sZ{x:At}(h:n<=m)(G:x.sc n):x.sc m:=by
 cases x with
 |v y=>trivial
 |fn f caps=>intro id Oh;have:=G id Oh;omega
 |_=>simp only[At.sc]at *;omega
theorem SV.sZ{x:SV}(h:n<=m)(G:x.sc n):x.sc m:=by
 cases x with
 |o y=>exact At.sZ h G
 |a L=>exact fun c hc=>At.sZ h (G c hc)
theorem Rel.drew{H:Hp}{iv:Iv}{w:World}{O:Nat->da}(r:Rel H nx iv B w O J):Rel H nx iv B w O J.drew:=
 ⟨r.os,r.tape,r.output,r.size,r.base,r.sN,r.keys,r.box,r.arr,r.vec,r.inj,r.low,r.uC,r.kI,r.KQ,r.nn⟩
def gR(O:Nat->da)(nx:Nat)(v:da):Nat->da:=fun j=>if j=nx then v else O j
theorem gS{O:Nat->da}{v:da}:∀id,id<nx->O id=gR O nx v id:=fun id h=>by simp[gR,Nat.ne_of_lt h]
@[simp] theorem eh {O:Nat->da} {nx:Nat} {v:da}:gR O nx v nx=v:=by simp[gR]
def j1.fits(b:j1)(O:Nat->da)(v:da)(w:World):Prop:=
 match b with
 | .box t L=>v.nil=false/\w.heap[v.g]? =some (.cells (L.map (At.den O)).toArray t (0,0))
 | .arr t L=>v.nil=false/\w.heap[v.g]? =some (.cells L.toArray t (0,0))
 | .vec t size L=>(v.nil=true/\L=[])\/(v.nil=false/\∃spare:List Value,w.heap[v.g]? =some (.cells (L++spare).toArray t (0,0))/\(L++spare).length=v.cap*size/\v.cap<=maxLen)
 | .dead=>True
def j1.scopd(b:j1)(n:Nat):Prop:=match b with
 | .box _ L=>∀x∈L,At.sc n x
 |_=>True
theorem Rel.fits{H:Hp}{iv:Iv}{w:World}{O:Nat->da}(r:Rel H nx iv B w O J){b:j1}(h:cw H id=some b):b.fits O (O id) J:=by
 cases b with
 |box t L=>exact⟨r.nn id _ h (by intros;simp) bv,r.box id t L h⟩
 |arr t L=>exact⟨r.nn id _ h (by intros;simp) bv,r.arr id t L h⟩
 |vec t size L=>exact r.vec id t size L h
 |dead=>trivial
theorem Rel.mk'{H:Hp}{iv:Iv}{w:World}{O:Nat->da}(os:J.os=w.os)(tape:J.tape=w.tape)(output:J.output=w.output)
  (size:w.heap.size<=J.heap.size) (base:B<=w.heap.size) (sN:∀lo D,(lo,D)∈iv->D<=w.heap.size) (keys:∀id b,cw H id=some b->id<nx)
  (fits:∀id b,cw H id=some b->b.fits O (O id) J) (KQ:∀id b,cw H id=some b->b.scopd nx)
  (inj:∀id id' b b',cw H id=some b->cw H id'=some b'->b≠ .dead->b'≠ .dead->(O id).nil=false->(O id').nil=false->(O id).g=(O id').g->id=id')
  (low:∀id b,cw H id=some b->(O id).nil=false->B<=(O id).g/\(O id).g<J.heap.size)
  (uC:∀k,k<w.heap.size->(∀id b,cw H id=some b->(O id).nil=false->(O id).g≠k)->J.heap[k]? =w.heap[k]?)
  (kI:∀lo D,(lo,D)∈iv->∀id b,cw H id=some b->(O id).nil=false->¬(lo<=(O id).g/\(O id).g<D)):Rel H nx iv B w O J where
 os:=os
 tape:=tape
 output:=output
 size:=size
 base:=base
 sN:=sN
 keys:=keys
 box:=fun id t L h=>(fits id _ h).2
 arr:=fun id t L h=>(fits id _ h).2
 vec:=fun id t size L h=>fits id _ h
 inj:=inj
 low:=low
 uC:=uC
 kI:=kI
 KQ:=fun id t L h=>KQ id _ h
 nn:=fun id b h Y X=>by
  have:=fits id b h
  cases b with
  |box t L=>exact this.1
  |arr t L=>exact this.1
  |vec t size L=>exact absurd rfl (Y t size L)
  |dead=>exact absurd rfl X
theorem j1.gu{b:j1}{O G8:Nat->da}{v:da}{w:World}(h:b.fits O v w)(G9:∀id,id<n->O id=G8 id)(hs:b.scopd n)
  (V:v.nil=false->b≠ .dead->J.heap[v.g]? =w.heap[v.g]?):b.fits G8 v J:=by
 cases b with
 |box t L=>
  obtain⟨Y,X⟩:=h;refine⟨Y,?_⟩;rw[V Y bv,X,List.map_congr_left fun c hc=>At.j6 G9 (hs c hc)]
 |arr t L=>exact⟨h.1,by rw[V h.1 bv];exact h.2⟩
 |vec t size L=>
  rcases h with h|⟨Y,spare,X,N⟩
  .exact .inl h
  .exact .inr ⟨Y,spare,by rw[V Y bv];exact X,N⟩
 |dead=>trivial
theorem j1.jJ{b:j1}(h:n<=m)(hb:b.scopd n):b.scopd m:=by
 cases b with
 |box t L=>exact fun c hc=>At.sZ h (hb c hc)
 |_=>trivial
theorem Rel.scopd{H:Hp}{iv:Iv}{w:World}{O:Nat->da}(r:Rel H nx iv B w O J){b:j1}(h:cw H id=some b):b.scopd nx:=by
 cases b with
 |box t L=>exact r.KQ id t L h
 |_=>trivial
theorem Rel.push{H:Hp}{iv:Iv}{w:World}{O:Nat->da}(r:Rel H nx iv B w O J)(b:j1)(v:da)
  (os:I.os=J.os) (tape:I.tape=J.tape) (output:I.output=J.output) (size:J.heap.size<=I.heap.size) (old:∀k,k<J.heap.size->I.heap[k]? =J.heap[k]?)
  (hv:v.nil=false->J.heap.size<=v.g/\v.g<I.heap.size) (hb:b.fits O v I) (hs:b.scopd nx):Rel ((nx,b)::H) (nx+1) iv B w (gR O nx v) I:=by
 have OT:∀id b,cw H id=some b->id≠nx:=fun id b h=>Nat.ne_of_lt (r.keys id b h);have PV:∀id b,cw H id=some b->gR O nx v id=O id:=fun id b h=>by simp[gR,OT id b h]
 refine Rel.mk' (os.trans r.os) (tape.trans r.tape) (output.trans r.output) (bB r.size size) r.base r.sN ?_ ?_ ?_ ?_ ?_ ?_ ?_
 .intro id b' h;rw[dA]at h;split at h
  .omega
  .have:=r.keys id b' h;omega
 .intro id b' h;rw[dA]at h;split at h
  .rename_i e;subst e;injection h with h;subst h;rw[eh];exact j1.gu hb gS hs (fun _ _=>rfl)
  .rw[PV id b' h];exact j1.gu (r.fits h) gS (r.scopd h) (fun Y _=>old _ (r.low id b' h Y).2)
 .intro id b' h;rw[dA]at h;split at h
  .injection h with h;subst h;exact j1.jJ be hs
  .exact j1.jJ be (r.scopd h)
 .intro id id' b1 b2 Y X d1 d2 n1 n2 e;rw[dA]at Y X;split at Y<;>split at X
  .omega
  .rename_i e1 e2;subst e1;rw[eh]at e n1;rw[PV id' b2 X]at e n2;have:=(r.low id' b2 X n2).2;have:=(hv n1).1;omega
  .rename_i e1 e2;subst e2;rw[eh]at e n2;rw[PV id b1 Y]at e n1;have:=(r.low id b1 Y n1).2;have:=(hv n2).1;omega
  .rw[PV id b1 Y]at e n1;rw[PV id' b2 X]at e n2;exact r.inj id id' b1 b2 Y X d1 d2 n1 n2 e
 .intro id b' h n1;rw[dA]at h;split at h
  .rename_i e;subst e;rw[eh]at n1 ⊢;have:=hv n1;have:=r.base;have:=r.size;omega
  .rw[PV id b' h]at n1 ⊢;have:=r.low id b' h n1;omega
 .intro k E OB;rw[old k (by have:=r.size;omega)];refine r.uC k E fun id b' h n1=>?_;have:=OB id b' (by rw[dA,aF (Ne.symm (OT id b' h))];exact h) (by rw[PV id b' h];exact n1)
  rwa [PV id b' h]at this
 .intro lo D hm id b' h n1;rw[dA]at h;split at h
  .rename_i e;subst e;rw[eh]at n1 ⊢;have:=hv n1;have:=r.sN lo D hm;have:=r.size;omega
  .rw[PV id b' h]at n1 ⊢;exact r.kI lo D hm id b' h n1
theorem Rel.store{H H':Hp}{iv:Iv}{w:World}{O:Nat->da}(r:Rel H nx iv B w O J){b b':j1}(Oh:cw H id=some b)(hd:b≠ .dead)(Z:(O id).nil=false)
  (hH:∀j,cw H' j=if j=id then some b' else cw H j)
  (os:I.os=J.os) (tape:I.tape=J.tape) (output:I.output=J.output) (size:I.heap.size=J.heap.size) (old:∀k,k≠(O id).g->I.heap[k]? =J.heap[k]?)
  (hb:b'.fits O (O id) I) (hs:b'.scopd nx):Rel H' nx iv B w O I:=by
 have key:∀j c,cw H' j=some c->∃c',cw H j=some c':=fun j c h=>by
  rw[hH]at h;split at h
  .rename_i e;subst e;exact⟨b,Oh⟩
  .exact⟨c,h⟩
 refine Rel.mk' (os.trans r.os) (tape.trans r.tape) (output.trans r.output) (by rw[size];exact r.size) r.base r.sN ?_ ?_ ?_ ?_ ?_ ?_ ?_
 .intro j c h;obtain⟨c',h'⟩:=key j c h;exact r.keys j c' h'
 .intro j c h;rw[hH]at h;split at h
  .rename_i e;subst e;injection h with h;subst h;exact hb
  .rename_i e;refine j1.gu (r.fits h) (fun _ _=>rfl) (r.scopd h) (fun Y X=>old _ fun e2=>e ?_);exact r.inj j id c b h Oh X hd Y Z e2
 .intro j c h;rw[hH]at h;split at h
  .injection h with h;subst h;exact hs
  .exact r.scopd h
 .intro j j' c c' Y X d1 d2 n1 n2 e;rw[hH]at Y X;have l1:∃c1,cw H j=some c1/\c1≠ .dead:=by
   split at Y
   .rename_i e1;subst e1;exact⟨b,Oh,hd⟩
   .exact⟨c,Y,d1⟩
  have l2:∃c1,cw H j'=some c1/\c1≠ .dead:=by
   split at X
   .rename_i e1;subst e1;exact⟨b,Oh,hd⟩
   .exact⟨c',X,d2⟩
  obtain⟨c1,g1,g2⟩:=l1;obtain⟨c2,g3,g4⟩:=l2;exact r.inj j j' c1 c2 g1 g3 g2 g4 n1 n2 e
 .intro j c h n1;obtain⟨c',h'⟩:=key j c h;rw[size];exact r.low j c' h' n1
 .intro k E OB;have hkg:k≠(O id).g:=fun e=>OB id b' (by rw[hH];simp) Z e.symm;rw[old k hkg];refine r.uC k E fun j c h n1=>?_;by_cases e:j=id
  .subst e;exact Ne.symm hkg
  .exact OB j c (by rw[hH,aF e];exact h) n1
 .intro lo D hm j c h n1;obtain⟨c',h'⟩:=key j c h;exact r.kI lo D hm j c' h' n1
theorem Rel.IT{H H1:Hp}{iv:Iv}{w:World}{O:Nat->da}(r:Rel H nx iv B w O J){b0:j1}(Oh:cw H id=some b0)(hd:b0≠ .dead)
  (hH:∀j,cw H1 j=if j=id then some .dead else cw H j) (b:j1) (v:da)
  (os:I.os=J.os) (tape:I.tape=J.tape) (output:I.output=J.output) (size:J.heap.size<=I.heap.size)
  (old:∀k,k<J.heap.size->((O id).nil=false->k≠(O id).g)->I.heap[k]? =J.heap[k]?)
  (hv:v.nil=false->(J.heap.size<=v.g/\v.g<I.heap.size)\/((O id).nil=false/\v.g=(O id).g)) (hb:b.fits O v I) (hs:b.scopd nx):Rel ((nx,b)::H1) (nx+1) iv B w (gR O nx v) I:=by
 have key:∀j c,cw H1 j=some c->∃c',cw H j=some c'/\(c≠ .dead->c'=c/\j≠id):=fun j c h=>by
  rw[hH]at h;split at h
  .rename_i e;subst e;injection h with h;exact⟨b0,Oh,fun X=>absurd h.symm X⟩
  .rename_i e;exact⟨c,h,fun _=>⟨rfl,e⟩⟩
 have OT:∀j c,cw H1 j=some c->j≠nx:=fun j c h=>by obtain⟨c',h',_⟩:=key j c h;exact Nat.ne_of_lt (r.keys j c' h')
 have PV:∀j c,cw H1 j=some c->gR O nx v j=O j:=fun j c h=>by simp[gR,OT j c h]
 have hidlt:=r.keys id b0 Oh;have hvlow:v.nil=false->B<=v.g/\v.g<I.heap.size:=fun Z=>by
  rcases hv Z with h|⟨Y,X⟩
  .have:=r.base;have:=r.size;omega
  .have:=r.low id b0 Oh Y;omega
 refine Rel.mk' (os.trans r.os) (tape.trans r.tape) (output.trans r.output) (bB r.size size) r.base r.sN ?_ ?_ ?_ ?_ ?_ ?_ ?_
 .intro j b' h;rw[dA]at h;split at h
  .omega
  .obtain⟨c',h',_⟩:=key j b' h;have:=r.keys j c' h';omega
 .intro j b' h;rw[dA]at h;split at h
  .rename_i e;subst e;injection h with h;subst h;rw[eh];exact j1.gu hb gS hs (fun _ _=>rfl)
  .rw[PV j b' h];by_cases RP:b'= .dead
   .subst RP;trivial
   .obtain⟨c',h',X⟩:=key j b' h;obtain⟨rfl,OB⟩:=X RP;exact j1.gu (r.fits h') gS (r.scopd h') (fun Y _=>old _ (r.low j c' h' Y).2 fun N e=>OB (r.inj j id c' b0 h' Oh RP hd Y N e))
 .intro j b' h;rw[dA]at h;split at h
  .injection h with h;subst h;exact j1.jJ be hs
  .by_cases RP:b'= .dead
   .subst RP;trivial
   .obtain⟨c',h',X⟩:=key j b' h;obtain⟨rfl,OB⟩:=X RP;exact j1.jJ be (r.scopd h')
 .have cross:∀j c,cw H1 j=some c->c≠ .dead->(O j).nil=false->v.nil=false->v.g≠(O j).g:=fun j c h dd nj nv e=>by
   obtain⟨c',h',X⟩:=key j c h;obtain⟨rfl,OB⟩:=X dd;rcases hv nv with N|⟨N,h4⟩
   .have:=(r.low j c' h' nj).2;omega
   .exact OB (r.inj j id c' b0 h' Oh dd hd nj N be)
  intro j j' b1 b2 Y X d1 d2 n1 n2 e;rw[dA]at Y X;split at Y<;>split at X
  .omega
  .rename_i e1 e2;subst e1;rw[eh]at e n1;rw[PV j' b2 X]at e n2;exact absurd e (cross j' b2 X d2 n2 n1)
  .rename_i e1 e2;subst e2;rw[eh]at e n2;rw[PV j b1 Y]at e n1;exact absurd e.symm (cross j b1 Y d1 n1 n2)
  .rw[PV j b1 Y]at e n1;rw[PV j' b2 X]at e n2;obtain⟨c1,g1,k1⟩:=key j b1 Y;obtain⟨c2,g2,k2⟩:=key j' b2 X;obtain⟨rfl,_⟩:=k1 d1;obtain⟨rfl,_⟩:=k2 d2;exact r.inj j j' c1 c2 g1 g2 d1 d2 n1 n2 e
 .intro j b' h n1;rw[dA]at h;split at h
  .rename_i e;subst e;rw[eh]at n1 ⊢;exact hvlow n1
  .rw[PV j b' h]at n1 ⊢;obtain⟨c',h',_⟩:=key j b' h;have:=r.low j c' h' n1;omega
 .intro k E OB;have Sn:∀j c,cw H j=some c->(O j).nil=false->(O j).g≠k:=fun j c h nj=>by
   have hj:cw H1 j=some (if j=id then .dead else c):=by rw[hH];split<;>simp[h]
   have:=OB j _ (by rw[dA,aF (Ne.symm (OT j _ hj))];exact hj) (by rw[PV j _ hj];exact nj)
   rwa [PV j _ hj]at this
  rw[old k (by have:=r.size;omega) (fun h e=>Sn id b0 Oh h e.symm)];exact r.uC k E Sn
 .intro lo D hm j b' h n1;rw[dA]at h;split at h
  .rename_i e;subst e;rw[eh]at n1 ⊢;rcases hv n1 with N|⟨N,h4⟩
   .have:=r.sN lo D hm;have:=r.size;omega
   .rw[h4];exact r.kI lo D hm id b0 Oh N
  .rw[PV j b' h]at n1 ⊢;obtain⟨c',h',_⟩:=key j b' h;exact r.kI lo D hm j c' h' n1
section
variable{P:Program}{τ:mS}{B n nx:Nat}{l:Env}{H:Hp}{iv:Iv}{w J:World}{O:Nat->da}{a:Act}
theorem s0(sat:Sat n l H nx iv B w O a J){x:Operand}{v:SV}(h:ev l x=some v):a.eval x=v.den O/\v.sc nx:=by
 cases x with
 |tmp t=>
  have Y:=sat.env t v h;exact⟨by simp[Act.eval,Y],sat.sc t v h⟩
 |const c=>simp[ev]at h;subst h;exact⟨rfl,trivial⟩
 |global g=>simp[ev]at h;subst h;exact⟨rfl,trivial⟩
 |func f=>simp[ev]at h;subst h;exact⟨rfl,trivial⟩
theorem dO(sat:Sat n l H nx iv B w O a J){x:Operand}{k:SV->Prop}(h:o7 l x k):∃v,k v/\a.eval x=v.den O/\v.sc nx:=by
 unfold o7 at h;split at h
 .rename_i v hv;exact⟨v,h,s0 sat hv⟩
 .exact h.elim
theorem qG(sat:Sat n l H nx iv B w O a J):∀{xs:List Operand} {k:List SV->Prop},IE l xs k->∃vs,k vs/\xs.map a.eval=vs.map (SV.den O)/\∀v∈vs,SV.sc nx v
 |[],k,h=>⟨[],h,rfl,bv⟩
 |x::r,k,h=>by
  unfold IE at h;split at h
  .rename_i v hv;obtain⟨vs,Y,X,N⟩:=qG sat (xs:=r) h;have:=s0 sat hv;exact⟨v::vs,Y,by simp[this.1,X],by simp;exact⟨this.2,N⟩⟩
  .exact h.elim
theorem mE{o:Oper}{a:Act}{w:World}{v:Value}(h:(execOp a.eval o).run P w= .ok (.value v) I)(E:next (a.put o.dst v) I):o.wp P a w next Q:=by
 unfold Oper.wp;rw[h];exact E
theorem IU{o:Oper}{a:Act}{w:World}(h:(execOp a.eval o).run P w= .ok .skip I)(E:next (a.put o.dst undef) I):o.wp P a w next Q:=by
 unfold Oper.wp;rw[h];exact E
theorem lO{s:Sem Value}{w:World}{v:Value}(h:s.run P w= .ok v I):((do pure (.value (<-s))):Sem Next).run P w= .ok (.value v) I:=by
 simp[h]
theorem EY.isAgg{t:Nat}{i:TI}(h:EY P t i)(w:World):(isAgg t).run P w= .ok i.agg w:=by
 obtain⟨d,Y,X⟩:=h.agg;unfold Go.isAgg;rw[Sem.run_bind,run_underlying Y w,<-X]
 cases d<;>rfl
theorem EY.sizeOf{t:Nat}{i:TI}(h:EY P t i)(w:World):(sizeOf t).run P w= .ok i.size w:=by
 obtain⟨inf,z,Y,X,_⟩:=h.info;simp[Go.sizeOf,typeInfo,Y,X]
theorem EY.zeroV{t:Nat}{i:TI}(h:EY P t i)(w:World):∃z,(zeroValue t).run P w= .ok z w/\z.cells.toList=i.zero:=by
 obtain⟨inf,z,Y,X,_,h4,h5⟩:=h.info;exact⟨z,by simp[zeroValue,typeInfo,Y,h4],h5⟩
theorem kM{t:Nat}{i:TI}(ht:EY P t i)(hagg:i.agg=false){w:World}{x:Value}(hc:w.cell? ad=some x):
  (Instr.loadAt t (.pointer (some ad))).run P w= .ok x w:=by
 simp[Instr.loadAt,Instr.sureAddr,loadVar,ht.isAgg,hagg,hc]
theorem jT{t:Nat}{i:TI}(ht:EY P t i)(hagg:i.agg=true){w:World}(hl:xs.length=i.size)(hc:∀j v,xs[j]? =some v->w.cell? (ad.add j)=some v):
  (Instr.loadAt t (.pointer (some ad))).run P w= .ok (.agg xs.toArray) w:=by
 have:=run_loadCells_list (P:=P) w ad xs hc;rw[hl]at this;simp[Instr.loadAt,Instr.sureAddr,loadVar,ht.isAgg,hagg,ht.sizeOf,this]
theorem dS(g off j:Nat):(⟨g,off,none⟩:Addr).add j=⟨g,off+j,none⟩:=by
 unfold Addr.add;split<;>simp_all
theorem uI:∀{L:List At} {i:Nat},zo L i=L[i]?
 |[],i=>by simp[zo]
 |x::r,0=>by simp[zo]
 |x::r,i+1=>by simp[zo,uI (L:=r)]
theorem Aj:∀{L:List Value} {i:Nat},HG L i=L[i]?
 |[],i=>by simp[HG]
 |x::r,0=>by simp[HG]
 |x::r,i+1=>by simp[HG,Aj (L:=r)]
theorem Ak:∀{L:List (Nat×Nat)} {i:Nat},HH L i=L[i]?
 |[],i=>by simp[HH]
 |x::r,0=>by simp[HH]
 |x::r,i+1=>by simp[HH,Ak (L:=r)]
theorem cell_of{w:World}{g t:Nat}(h:w.heap[g]? =some (.cells L.toArray t (0,0))):w.cell? ⟨g,off,none⟩=L[off]? :=by
 rw[cell_of_row w g off _ t (0,0) h];simp
theorem fR{O:Nat->da}:(xs.map At.v).map (At.den O)=xs:=by
 simp[Function.comp_def,At.den]
theorem nE(hτ:fQ P τ)(rel0:Rel H nx iv B w O J){t:Nat}{addr:SV}(hs:addr.sc nx){F':SV->Prop}(h:Ag τ B t addr H nx iv w F'):
  ∃r,F' r/\r.sc nx/\∀J,Rel H nx iv B w O J->(Instr.loadAt t (addr.den O)).run P J= .ok (r.den O) J:=by
 unfold Ag at h;split at h
 .exact h.elim
 .rename_i sz ag by_ ze tag ik e al fs Pt;have ht:=hτ t _ Pt;split at h
  .rename_i id off;split at h
   .rename_i bt L hH;split at h
    .split at h
     .rename_i x G;rw[uI]at G;refine⟨_,h,rel0.KQ id bt L hH x (aG G),fun J rel=>?_⟩;have hb:=rel.box id bt L hH;exact kM ht rfl (by rw[cell_of hb];simp[G,SV.den])
     .exact h.elim
    .have Y:=nB h;have X:=nC Y.1;refine⟨_,X.1,fun c hc=>rel0.KQ id bt L hH c (List.mem_of_mem_drop (List.mem_of_mem_take hc)),fun J rel=>?_⟩;have hb:=rel.box id bt L hH;refine jT ht rfl (xs:=((L.drop off).take sz).map (At.den O)) ?_ fun j v hv=>?_
     .have:=X.2;simp only[aM,aZ];omega
     .rw[dS,cell_of hb];simp only[aO,List.getElem?_take,List.getElem?_drop]at hv ⊢;split at hv
      .exact hv
      .simp at hv
   .rename_i bt L hH;split at h
    .obtain⟨x,G,h⟩:=h;exact⟨_,h,trivial,fun J rel=>kM ht rfl (by rw[cell_of (rel.arr id bt L hH),G];rfl)⟩
    .obtain⟨xs,G,hl,h⟩:=h;refine⟨_,fS h,fun c hc=>by simp at hc;obtain⟨v,_,rfl⟩:=hc;trivial,fun J rel=>?_⟩;have hb:=rel.arr id bt L hH;simp only[SV.den,fR]
     refine jT ht rfl hl fun j v hv=>?_;rw[dS,cell_of hb];rw[<-G]at hv;simp only[List.getElem?_take,List.getElem?_drop]at hv;split at hv
     .exact hv
     .simp at hv
   .rename_i bt ez L hH;split at h
    .obtain⟨x,G,h⟩:=h;refine⟨_,h,trivial,fun J rel=>?_⟩;have hb:=rel.vec id bt ez L hH;rcases hb with⟨_,rfl⟩|⟨Z,spare,hb,_⟩
     .simp at G
     .refine kM ht rfl ?_;rw[cell_of hb];have:off<L.length:=(aD.1 G).1;rw[aK this,G];rfl
    .obtain⟨xs,G,hl,h⟩:=h;refine⟨_,fS h,fun c hc=>by simp at hc;obtain⟨v,_,rfl⟩:=hc;trivial,fun J rel=>?_⟩;have hb:=rel.vec id bt ez L hH;simp only[SV.den,fR]
     rcases hb with⟨_,rfl⟩|⟨Z,spare,hb,_⟩
     .have:xs=[]:=by rw[<-G];simp
      subst this;refine jT ht rfl hl fun j v hv=>by simp at hv
     .refine jT ht rfl hl fun j v hv=>?_;rw[dS,cell_of hb];rw[<-G]at hv;simp only[List.getElem?_take,List.getElem?_drop]at hv;split at hv
      .rw[aK (aD.1 hv).1];exact hv
      .simp at hv
   .exact h.elim
  .rename_i ad;split at h
   .obtain⟨x,G,h⟩:=h;exact⟨_,h,trivial,fun J rel=>kM ht rfl (G O J rel)⟩
   .obtain⟨xs,hl,G,h⟩:=h;refine⟨_,fS h,fun c hc=>by simp at hc;obtain⟨v,_,rfl⟩:=hc;trivial,fun J rel=>?_⟩;simp only[SV.den,fR]
    exact jT ht rfl hl fun j v hv=>G O J rel j v hv
  .exact h.elim
theorem mG{t:Nat}{i:TI}(ht:EY P t i){w:World}{g bt:Nat}(hb:w.heap[g]? =some (.cells old.toArray bt (0,0))){v:Value}
  (hv:v.cells=new.toArray) (hl:new.length=i.size) (Y:∀x∈new,x.oneCell'=true) (PU:off+new.length<=old.length):
  (Instr.storeAt t (.pointer (some ⟨g,off,none⟩)) v).run P w= .ok () (w.setRow g (old.take off++new++old.drop (off+new.length)).toArray):=by
 have:=run_storeCells_at (P:=P) g off bt new 0 old.toArray w hb (by simpa using PU) Y;simp only[cC]at this;simp[Instr.storeAt,Instr.sureAddr,storeVar,ht.sizeOf,hv,hl,this]
theorem ji:∀(vs:List Value) (w:World) (b off:Nat),setCells w ⟨b,off,none⟩ vs=w.setCells b off vs
 |[],_,_,_=>rfl
 |x::r,w,b,off=>by
  simp only[setCells,World.setCells,dS]
  exact ji r _ b (off+1)
theorem vI(hτ:fQ P τ)(sat:Sat n l H nx iv B w O a J){t:Nat}{addr x:SV}(hs:addr.sc nx)(G:x.sc nx){F':Hp->World->Prop}(h:Bd τ B t addr x H nx iv w F'):
  ∃H' I w3,F' H' I/\Rel H' nx iv B I O w3/\(Instr.storeAt t (addr.den O) (x.den O)).run P J= .ok () w3:=by
 unfold Bd at h;split at h
 .exact h.elim
 rename_i sz ag by_ ze tag ik e al fs Pt;have ht:=hτ t _ Pt;have rel:=sat.rel;have h0:=lN h;clear h;obtain⟨new,h00,Oi,Re⟩:=h0;have h0:=xg h00;clear h00;obtain⟨h,Qd⟩:=h0;split at h
 .exact h.elim
 rename_i hlen;have hlen:=eG hlen;have Oz:=Oi O;have Re:=Re nx G;have Y:∀v∈new.map (At.den O),v.oneCell'=true:=by
  intro v hv;simp at hv;obtain⟨c,hc,rfl⟩:=hv;exact one_den (Qd c hc) O
 have Ou:(new.map (At.den O)).length=sz:=by simpa using hlen
 split at h
 .rename_i id off;split at h
  .rename_i bt L hH;have hb:=rel.box id bt L hH;obtain⟨hr,PU⟩:=nD h;obtain⟨H',hK,hH',_⟩:=qI hr;refine⟨H',w,_,hK,?_,mG ht (old:=L.map (At.den O)) hb Oz Ou Y (by simp;omega)⟩;refine rel.store hH bv (rel.nn id _ hH (by intros;simp) bv) hH' rfl rfl rfl bv (fun k E=>setRow_other _ _ _ _ E) ⟨rel.nn id _ hH (by intros;simp) bv,?_⟩ ?_
   .rw[setRow_heap _ _ _ _ _ _ hb];simp[List.map_drop,List.map_take]
   .intro c hc;simp only[bV]at hc;rcases hc with(hc|hc)|hc
    .exact rel.KQ id bt L hH c (List.mem_of_mem_take hc)
    .exact Re c hc
    .exact rel.KQ id bt L hH c (List.mem_of_mem_drop hc)
  .rename_i bt L hH;have hb:=rel.arr id bt L hH;obtain⟨nv,hr,Sc,Sq⟩:=kX h;obtain⟨PU,cs',TQ,hr⟩:=hr;obtain⟨H',hK,hH',_⟩:=qI hr;have Qn:nv.length=sz:=by rw[Sc]at hlen;simpa using hlen
   have Pb:(x.den O).cells=nv.toArray:=by rw[Oz,Sc,fR]
   refine⟨H',w,_,hK,?_,mG ht hb Pb Qn Sq be⟩;refine rel.store hH bv (rel.nn id _ hH (by intros;simp) bv) hH' rfl rfl rfl bv (fun k E=>setRow_other _ _ _ _ E) ⟨rel.nn id _ hH (by intros;simp) bv,?_⟩ trivial;rw[setRow_heap _ _ _ _ _ _ hb,Qn,TQ]
  .rename_i bt ez L hH;have hb:=rel.vec id bt ez L hH;obtain⟨nv,hr,Sc,Sq⟩:=kX h;obtain⟨PU,cs',TQ,hr⟩:=hr;obtain⟨H',hK,hH',_⟩:=qI hr;have Qn:nv.length=sz:=by rw[Sc]at hlen;simpa using hlen
   have Pb:(x.den O).cells=nv.toArray:=by rw[Oz,Sc,fR]
   rcases hb with⟨Ok,rfl⟩|⟨Z,spare,hb,RZ,QF⟩
   ·
    have h0:sz=0:=by simp at PU;omega
    have hnv0:nv=[]:=by cases nv with|nil=>rfl|cons _ _=>simp at Qn;omega
    subst hnv0;have:cs'=[]:=by rw[<-TQ];simp
    subst this;refine⟨H',w,J,hK,?_,?_⟩
    .have Ut:∀j,cw H' j=cw H j:=fun j=>by rw[hH'];split<;>simp_all
     exact Rel.mk' rel.os rel.tape rel.output rel.size rel.base rel.sN (fun id b h=>rel.keys id b (by rw[<-Ut];exact h)) (fun id b h=>rel.fits (by rw[<-Ut];exact h)) (fun id b h=>rel.scopd (by rw[<-Ut];exact h))
      (fun i j b b' Y X=>rel.inj i j b b' (by rw[<-Ut];exact Y) (by rw[<-Ut];exact X)) (fun id b h=>rel.low id b (by rw[<-Ut];exact h))
      (fun k E OB=>rel.uC k E fun id b h=>OB id b (by rw[Ut];exact h)) (fun lo D hm id b h=>rel.kI lo D hm id b (by rw[<-Ut];exact h))
    .subst h0;show(Instr.storeAt t (.pointer (some ⟨(O id).g,off,none⟩)) (x.den O)).run P J=_;generalize x.den O=xv at Pb ⊢;simp[Instr.storeAt,Instr.sureAddr,storeVar,ht.sizeOf,Pb,storeCells]
   .refine⟨H',w,_,hK,?_,mG ht hb Pb Qn Sq (by simp;omega)⟩;refine rel.store hH bv Z hH' rfl rfl rfl bv (fun k E=>setRow_other _ _ _ _ E) (.inr ⟨Z,spare,?_,?_,QF⟩) trivial
    .rw[setRow_heap _ _ _ _ _ _ hb,<-TQ,Qn];congr 2;rw[List.take_append_of_le_length be,List.drop_append_of_le_length be];simp
    .rw[<-RZ,<-TQ];simp;omega
  .exact h.elim
 .rename_i ad;obtain⟨nv,hr,Sc,Sq⟩:=kX h;obtain⟨Uu,OE,OB,hK⟩:=hr O J rel;have Qn:nv.length=sz:=by rw[Sc]at hlen;simpa using hlen
  have Pb:(x.den O).cells=nv.toArray:=by rw[Oz,Sc,fR]
  obtain⟨b,off,spot⟩:=ad;simp only at Uu OB;subst Uu;have QA:=run_storeCells_cells (P:=P) b off nv 0 J (fun j hj=>by have:=(OE j be).1;rwa [dS]at this) (fun j hj=>by have:=(OE j be).2;rwa [dS]at this) Sq;have hother:∀k,k≠b->(J.setCells b off nv).heap[k]? =J.heap[k]? :=by
   intro k E;clear QA OE h hr hK Sc Sq Pb Qn
   induction nv generalizing J off with
   |nil=>rfl
   |cons v r ih=>
    simp only[World.setCells]
    rw[show (∀(w0:World) (o:Nat),(w0.setCells b o r).heap[k]? =w0.heap[k]?)from ?_]
    .simp[World.setCell,Array.getElem?_modify,Ne.symm E]
    .clear ih;intro w0 o
     induction r generalizing w0 o with
     |nil=>rfl
     |cons v r ih=>simp only[World.setCells];rw[ih];simp[World.setCell,Array.getElem?_modify,Ne.symm E]
  have hfrm:(J.setCells b off nv).os=J.os/\(J.setCells b off nv).tape=J.tape/\(J.setCells b off nv).output=J.output/\(J.setCells b off nv).heap.size=J.heap.size:=by
   have:∀(vs:List Value) (w0:World) (o:Nat),(w0.setCells b o vs).os=w0.os/\(w0.setCells b o vs).tape=w0.tape/\(w0.setCells b o vs).output=w0.output/\(w0.setCells b o vs).heap.size=w0.heap.size:=by
    intro vs
    induction vs with
    |nil=>intro w0 o;exact⟨rfl,rfl,rfl,rfl⟩
    |cons v r ih=>intro w0 o;simp only[World.setCells];obtain⟨Y,X,N,h4⟩:=ih (w0.setCell ⟨b,o,none⟩ v) (o+1);exact⟨Y,X,N,by rw[h4];simp⟩
   exact this nv J off
  refine⟨H,_,J.setCells b off nv,hK _ rfl,?_,?_⟩
  .rw[ji];refine Rel.mk' rfl rfl rfl (aN _) (by rw[hfrm.2.2.2];have:=rel.base;have:=rel.size;omega) (fun lo D hm=>by rw[hfrm.2.2.2];have:=rel.sN lo D hm;have:=rel.size;omega) rel.keys
    (fun id b' h=>j1.gu (rel.fits h) (fun _ _=>rfl) (rel.scopd h) (fun Ok _=>hother _ (OB id b' h Ok))) (fun id b' h=>rel.scopd h) rel.inj (fun id b' h Ok=>by rw[hfrm.2.2.2];exact rel.low id b' h Ok) (fun _ _ _=>rfl) rel.kI
  .show(Instr.storeAt t (.pointer (some ⟨b,off,none⟩)) (x.den O)).run P J=_;generalize x.den O=xv at Pb ⊢;simp at QA;simp[Instr.storeAt,Instr.sureAddr,storeVar,ht.sizeOf,Pb,Qn,QA]
 .exact h.elim
end
theorem Ee(new:List Value):∀(k off:Nat) (L:Array Value),off+k+new.length<=L.size->
  ((new.zipIdx k).foldl (fun L (c,j)=>L.setIfInBounds (off+j) c) L).toList=L.toList.take (off+k)++new++L.toList.drop (off+k+new.length):=by
 induction new with
 |nil=>intro k off L _;simp
 |cons x r ih=>
  intro k off L h;simp only[bO]at h;rw[List.zipIdx_cons,List.foldl_cons,ih (k+1) off _ (by simp;omega)];have X:=list_seg_step L.toList (off+k) x r (by simp;omega);simp only[Array.toList_setIfInBounds,bO]at X ⊢;rw[show off+(k+1)=off+k+1 by omega];exact X
theorem HM{i:Nat}{v:Value}(hp:place i=some (off,size))
  (hv:v.cells=new.toArray) (hl:new.length=size) (PU:off+new.length<=cells.size):
  Instr.fill place cells ((i,v)::rest)=Instr.fill place (cells.toList.take off++new++cells.toList.drop (off+new.length)).toArray rest:=by
 have h:=Ee new 0 off cells be;have e:(v.cells.zipIdx.foldl (fun L (x:Value×Nat)=>L.setIfInBounds (off+x.2) x.1) cells)=(cells.toList.take off++new++cells.toList.drop (off+new.length)).toArray:=by
  rw[hv,<-Array.foldl_toList];apply Array.ext';simpa using h
 conv=>lhs;unfold Instr.fill
 simp only[hp,hv,List.size_toArray,hl]
 rw[aF (by simp;omega)];rw[hv]at e;rw[<-hl,<-e]
section
variable{P:Program}{τ:mS}{B n nx:Nat}{l:Env}{H:Hp}{iv:Iv}{w J:World}{O:Nat->da}{a:Act}
theorem jk(sat:Sat n l H nx iv B w O a J){place:Nat->(Nat->Nat->Prop)->Prop}{placeF:Nat->Option (Nat×Nat)}
  (hp:∀i k,place i k->∃off size,k off size/\placeF i=some (off,size)):∀{parts:List (Nat×Operand)} {L:List At} {k:List At->Prop},
  uH l place parts L k->(∀c∈L,At.sc nx c)->∃cs',k cs'/\(∀c∈cs',At.sc nx c)/\cs'.length=L.length/\
   Instr.fill placeF (L.map (At.den O)).toArray (parts.map fun p=>(p.1,a.eval p.2))=some (cs'.map (At.den O)).toArray
 |[],L,k,h,hs=>⟨L,h,hs,rfl,by simp[Instr.fill]⟩
 |(i,x)::r,L,k,h,hs=>by
  unfold uH at h;obtain⟨off,size,Y,Pc⟩:=hp i _ h;obtain⟨v,X,hv,QX⟩:=dO sat Y;obtain⟨new,N,Oi,Re⟩:=lN X;split at N
  .rename_i hlen;have hlen:=eG hlen;obtain⟨h4,PU⟩:=nD N
   obtain⟨cs',h5,h6,h7,h8⟩:=jk sat hp h4 (by
    intro c hc;simp only[bV]at hc;rcases hc with(hc|hc)|hc
    .exact hs c (List.mem_of_mem_take hc)
    .exact Re nx QX c hc
    .exact hs c (List.mem_of_mem_drop hc))
   refine⟨cs',h5,h6,by rw[h7];simp;omega,?_⟩;have hc:=Oi O;rw[List.map_cons,HM (new:=new.map (At.den O)) Pc (by show(a.eval x).cells=_;rw[hv];exact hc) (by simpa using hlen) (by simpa using PU),<-h8];simp[List.map_drop,List.map_take]
  .exact N.elim
theorem mH(hτ:fQ P τ){f:Nat}{k:Nat->Nat->Bool->Prop}(h:oe τ fs f k):
  ∃off ft fi,k off fi.size fi.agg/\fs[f]? =some (off,ft)/\EY P ft fi/\fi.size≠0:=by
 unfold oe at h;split at h
 .rename_i off ft hf;rw[Ak]at hf;split at h
  .rename_i sz ag by_ ze tag ik e al fs' Pt;split at h
   .exact h.elim
   .rename_i Oj;exact⟨off,ft,_,h,hf,hτ ft _ Pt,fun e=>by simp at e;subst e;simp at Oj⟩
  .exact h.elim
 .exact h.elim
theorem xh{t:Nat}{i:TI}(h:EY P t i)(h5:i.tag=5){f ft:Nat}(hf:i.fields[f]? =some (off,ft)):
  ∃fs fd,P.underlying t=some (.struct fs)/\fs[f]? =some fd/\fd.offset=off/\fd.type=ft:=by
 obtain⟨fs,Y,X,_⟩:=h.i5 h5;rw[<-X]at hf;simp only[aO,Option.map_eq_some_iff]at hf;obtain⟨fd,Pp,R⟩:=hf;injection R with e1 e2;exact⟨fs,fd,Y,by simpa using Pp,e1,e2⟩
theorem DE{t:Nat}{i:TI}(h:EY P t i)(h5:i.tag=5){f ft:Nat}{fi:TI}(hf:i.fields[f]? =some (off,ft))(TR:EY P ft fi)(Oj:fi.size≠0)(ad:Addr)(w:World):
  (Instr.fieldAt t (.pointer (some ad)) f).run P w= .ok (.pointer (some (ad.add off))) w:=by
 obtain⟨fs,fd,Y,X,rfl,rfl⟩:=xh h h5 hf;simp[Instr.fieldAt,run_underlying Y,X,Instr.sureAddr,fieldPlace,TR.sizeOf,Oj]
theorem s3{x:SV}{F':SV->Prop}(h:xL x m F')(G:x.sc nx):∃r ad,F' r/\r.sc nx/\x.den O= .pointer (some ad)/\r.den O= .pointer (some (ad.add m)):=by
 unfold xL at h;split at h
 .rename_i id off;exact⟨_,⟨(O id).g,off,none⟩,h,G,rfl,by simp[SV.den,At.den,dS]⟩
 .rename_i ad;exact⟨_,ad,h,trivial,rfl,rfl⟩
 .exact h.elim
theorem uJ(rel:Rel H nx iv B w O J){F':Prop}(h:HJ H id m F'):F'/\((O id).nil=true->m=0):=by
 unfold HJ at h;split at h
 .rename_i t sz L hH;split at h
  .exact h.elim
  .rename_i k;refine⟨h.2,fun Z=>?_⟩;have Y:=h.1;rcases rel.vec id t (k+1) L hH with⟨_,rfl⟩|⟨X,_⟩
   .have h4:m*(k+1)=0:=by simpa using Y.symm
    rcases Nat.mul_eq_zero.1 h4 with h5|h5
    .exact h5
    .omega
   .rw[Z]at X;cases X
 .exact h.elim
theorem HN(hτ:fQ P τ){t ty:Nat}{x:SV}(h:Ly τ H t x F')(rel:Rel H nx iv B w O J):
  ∃r,F' r/\∀J,(Builtin.len_ #[t] ty #[x.den O]).run P J= .ok (.int .i64 r) J:=by
 unfold Ly at h;split at h
 .exact h.elim
 rename_i sz ag by_ ze tag ik e al fs Pt;have ht:=hτ t _ Pt;split at h
 .rename_i OU;have hu:=ht.i4 (eG OU);split at h
  .exact⟨_,h,fun J=>by simp[Builtin.len_,run_underlying hu,SV.den,At.den,goInt]⟩
  .exact⟨_,h,fun J=>by simp[Builtin.len_,run_underlying hu,SV.den,At.den,goInt]⟩
  .rename_i id m;have Y:=uJ rel h;refine⟨_,Y.1,fun J=>?_⟩
   cases Z:(O id).nil
   .simp[Builtin.len_,run_underlying hu,SV.den,At.den,goInt,Z]
   .have:=Y.2 Z;subst this;simp[Builtin.len_,run_underlying hu,SV.den,At.den,goInt,Z]
  .exact h.elim
 .split at h
  .rename_i OU;have hu:=ht.i3 (eG OU);split at h
   .exact⟨_,h,fun J=>by simp[Builtin.len_,run_underlying hu,SV.den,At.den,goInt]⟩
   .exact h.elim
  .split at h
   .rename_i OU;have hu:=ht.i6 (eG OU);exact⟨_,h,fun J=>by simp[Builtin.len_,run_underlying hu,goInt]⟩
   .exact h.elim
theorem DF(hτ:fQ P τ){t:Nat}{x i:SV}{F':SV->Prop}(h:EZ τ H t x i F')(G:x.sc nx)(rel:Rel H nx iv B w O J):
  ∃r,F' r/\r.sc nx/\∀J,(Instr.indexAt t (x.den O) (i.den O)).run P J= .ok (r.den O) J:=by
 unfold EZ at h;split at h
 .rename_i kd i;split at h
  .rename_i sz ag by_ ze tag ik e al fs Pt;have ht:=hτ t _ Pt;split at h
   .rename_i sz' ag' by' ze' tag' ik' e' al' fs' Oq
    have Oq:=hτ e _ Oq;split at h
    .rename_i OU;have hu:=ht.i4 (eG OU);simp only at hu;split at h
     .rename_i id off m c;obtain⟨hb,h⟩:=h;exact⟨_,h,G,fun J=>by simp[Instr.indexAt,run_underlying hu,asIntOf,SV.den,At.den,hb,Oq.sizeOf,dS]⟩
     .rename_i id m;obtain⟨⟨hb,Y⟩,X⟩:=uJ rel h;refine⟨_,Y,G,fun J=>?_⟩
      cases Z:(O id).nil
      .simp[Instr.indexAt,run_underlying hu,asIntOf,SV.den,At.den,hb,Oq.sizeOf,dS,Z]
      .have:=X Z;omega
     .rename_i a0 m c;obtain⟨ad,rfl,hb,h⟩:=h;exact⟨_,h,trivial,fun J=>by simp[Instr.indexAt,run_underlying hu,asIntOf,SV.den,At.den,hb,Oq.sizeOf]⟩
     .exact h.elim
    .split at h
     .rename_i OU;have hu:=ht.i6 (eG OU);simp only at hu;obtain⟨hb,h⟩:=h;obtain⟨r,ad,Y,X,N,h4⟩:=s3 (O:=O) h G;refine⟨r,Y,X,fun J=>?_⟩;rw[N,h4];simp[Instr.indexAt,run_underlying hu,asIntOf,SV.den,At.den,Instr.sureAddr,hb,Oq.sizeOf]
     .exact h.elim
   .exact h.elim
  .exact h.elim
 .exact h.elim
theorem k7(sat:Sat n l H nx iv B w O a J){x:Option Operand}{d:Int}(h:Kb l x d F'):∃i,F' i/\((x=none/\i=d)\/∃o k,x=some o/\a.eval o= .int k i):=by
 unfold Kb at h;split at h
 .exact⟨d,h,.inl ⟨rfl,rfl⟩⟩
 .obtain⟨v,Y,X,N⟩:=dO sat h;clear N;split at Y
  .rename_i k i;exact⟨i,Y,.inr ⟨_,k,rfl,X⟩⟩
  .exact Y.elim
theorem nF{len cap:Nat}{i j:Int}(R0:(lo=none/\i=0)\/∃o k,lo=some o/\a.eval o= .int k i)(Rx:(D=none/\j=len)\/∃o k,D=some o/\a.eval o= .int k j)
  (h0:0<=i) (Y:i<=j) (X:j<=cap):(Instr.sliceBounds true len cap (lo.map a.eval) (D.map a.eval) none).run P J= .ok (i.toNat,j.toNat,cap) J:=by
 rcases R0 with⟨rfl,rfl⟩|⟨o,k,rfl,ho⟩<;>rcases Rx with⟨rfl,rfl⟩|⟨o',k',rfl,RO⟩
 .simp[Instr.sliceBounds]
 .have h1':0<=j:=by omega
  simp[Instr.sliceBounds,Instr.sliceBound,RO,asIntOf,h1',X]
 .have:i<=(len:Int):=Y;simp[Instr.sliceBounds,Instr.sliceBound,ho,asIntOf,h0,this]
 .have h1':0<=j:=by omega
  have N:i<=((j.toNat:Nat):Int):=by omega
  have h3':i<=max j 0:=by omega
  simp[Instr.sliceBounds,Instr.sliceBound,ho,RO,asIntOf,h1',X,h0,h3']
theorem DG{len cap:Nat}{i j:Int}(R0:(lo=none/\i=0)\/∃o k,lo=some o/\a.eval o= .int k i)(Rx:(D=none/\j=len)\/∃o k,D=some o/\a.eval o= .int k j)
  (h0:0<=i) (Y:i<=j) (X:j<=cap):(Instr.sliceBounds false len cap (lo.map a.eval) (D.map a.eval) none).run P J= .ok (i.toNat,j.toNat,cap) J:=by
 rcases R0 with⟨rfl,rfl⟩|⟨o,k,rfl,ho⟩<;>rcases Rx with⟨rfl,rfl⟩|⟨o',k',rfl,RO⟩
 .simp[Instr.sliceBounds]
 .have h1':0<=j:=by omega
  simp[Instr.sliceBounds,Instr.sliceBound,RO,asIntOf,h1',X]
 .have:i<=(len:Int):=Y;simp[Instr.sliceBounds,Instr.sliceBound,ho,asIntOf,h0,this]
 .have h1':0<=j:=by omega
  have N:i<=((j.toNat:Nat):Int):=by omega
  have h3':i<=max j 0:=by omega
  simp[Instr.sliceBounds,Instr.sliceBound,ho,RO,asIntOf,h1',X,h0,h3']
theorem DH(hτ:fQ P τ)(sat:Sat n l H nx iv B w O a J){t:Nat}{x:SV}{F':SV->Prop}(h:Ea τ H t x l lo D F')(G:x.sc nx):
  ∃r,F' r/\r.sc nx/\∀J,(Instr.sliceAt t (x.den O) (lo.map a.eval) (D.map a.eval) none).run P J= .ok (r.den O) J:=by
 unfold Ea at h;split at h
 .rename_i sz ag by_ ze tag ik e al fs Pt;have ht:=hτ t _ Pt;split at h
  .rename_i OU;have hu:=ht.i4 (eG OU);simp only at hu;split at h
   .rename_i sz' ag' by' ze' tag' ik' e' al' fs' Oq
    have Oq:=hτ e _ Oq;split at h
    .rename_i id off m c;obtain⟨i,Y,R0⟩:=k7 sat h;obtain⟨j,X,Rx⟩:=k7 sat Y;obtain⟨⟨b0,b1,b2⟩,off',n',c',e1,rfl,rfl,N⟩:=X;refine⟨_,N,G,fun J=>?_⟩;have hb:=nF (P:=P) (J:=J) R0 Rx b0 b1 b2;subst e1;simp[Instr.sliceAt,Instr.slice,run_underlying hu,SV.den,At.den,hb,Oq.sizeOf];by_cases hc:c=i.toNat
     .rw[aH hc,aH be]
     .rw[aF hc,aF be];simp[dS]
    .rename_i ad m c;obtain⟨i,Y,R0⟩:=k7 sat h;obtain⟨j,X,Rx⟩:=k7 sat Y;obtain⟨⟨b0,b1,b2⟩,off',n',c',e1,rfl,rfl,N⟩:=X;refine⟨_,N,trivial,fun J=>?_⟩;have hb:=nF (P:=P) (J:=J) R0 Rx b0 b1 b2;subst e1;simp[Instr.sliceAt,Instr.slice,run_underlying hu,SV.den,At.den,hb,Oq.sizeOf];by_cases hc:c=i.toNat
     .rw[aH hc,aH be]
     .rw[aF hc,aF be]
    .rename_i id m;split at h
     .obtain⟨Y,Ok⟩:=uJ sat.rel h;obtain⟨j,X,Rx⟩:=k7 sat Y;obtain⟨⟨b0,b1⟩,m',rfl,N⟩:=X;refine⟨_,N,G,fun J=>?_⟩;have QF:(O id).nil=false->m<=(O id).cap:=fun Z=>by
       unfold HJ at h;split at h
       .rename_i t' sz' cs' hH;split at h
        .exact h.elim
        .rename_i k;rcases sat.rel.vec id t' (k+1) cs' hH with⟨h5,_⟩|⟨_,spare,_,h6,_⟩
         .rw[Z]at h5;cases h5
         .have h7:=h.1;have h8:(cs'++spare).length=cs'.length+spare.length:=aL;have h9:m*(k+1)<=(O id).cap*(k+1):=by omega
          exact Nat.le_of_mul_le_mul_right h9 (Nat.succ_pos k)
       .exact h.elim
      cases Z:(O id).nil with
      |true=>
       have hm:=Ok Z;subst hm;have hb:=nF (P:=P) (J:=J) (len:=0) (cap:=0) (lo:=none) (i:=0) (.inl ⟨rfl,rfl⟩) Rx (Int.le_refl 0) b0 b1;have hj:j.toNat=0:=by omega
       rw[hj]at hb ⊢;simp only[Option.map_none]at hb;simp[Instr.sliceAt,Instr.slice,run_underlying hu,SV.den,At.den,Z,hb,Oq.sizeOf]
      |false=>
       have hc:=QF Z;have hb:=nF (P:=P) (J:=J) (len:=m) (cap:=(O id).cap) (lo:=none) (i:=0) (.inl ⟨rfl,rfl⟩) Rx (Int.le_refl 0) b0 be;simp only[Option.map_none]at hb;simp[Instr.sliceAt,Instr.slice,run_underlying hu,SV.den,At.den,Z,hb,Oq.sizeOf,dS]
     .exact h.elim
    .exact h.elim
   .exact h.elim
  .split at h
   .rename_i OU;have hu:=ht.i6 (eG OU);simp only at hu;split at h
    .rename_i sz' ag' by' ze' tag' ik' e' al' fs' Oq
     have Oq:=hτ e _ Oq;split at h
     .rename_i id off;split at h
      .split at h
       .rename_i h0;refine⟨_,h,G,fun J=>?_⟩;have h0:al≠0:=fun e=>by subst e;cases h0
        simp[Instr.sliceAt,Instr.sliceBounds,run_underlying hu,SV.den,At.den,Oq.sizeOf,Instr.sureAddr,dS]
       .exact h.elim
      .exact h.elim
     .exact h.elim
    .exact h.elim
   .split at h
    .rename_i OU;have hu:=ht.i3 (eG OU);split at h
     .rename_i s;obtain⟨i,Y,R0⟩:=k7 sat h;obtain⟨j,X,Rx⟩:=k7 sat Y;obtain⟨⟨b0,b1,b2⟩,N⟩:=X;refine⟨_,N,trivial,fun J=>?_⟩;have hb:=DG (P:=P) (J:=J) R0 Rx b0 b1 b2;simp[Instr.sliceAt,Instr.slice,run_underlying hu,SV.den,At.den,hb]
     .exact h.elim
    .exact h.elim
 .exact h.elim
end
section
variable{P:Program}{τ:mS}{B n nx:Nat}{l:Env}{H:Hp}{iv:Iv}{w J:World}{O:Nat->da}{a:Act}
theorem DI(z:Value)(c:Nat):(madeCells #[z] c)=(List.replicate c z).toArray:=by
 unfold madeCells;apply Array.ext';simp[List.map_const',Nat.mod_one]
theorem qJ(zs:List Value)(c:Nat):(madeCells zs.toArray (c*zs.length))=((List.replicate c zs).flatten).toArray:=by
 unfold madeCells;apply Array.ext';simp only[Array.toList_map,Array.toList_range,List.size_toArray]
 induction c with
 |zero=>simp
 |succ c ih=>
  rw[Nat.succ_mul,List.range_add,aU,ih,List.replicate_succ',List.flatten_append];simp only[List.flatten_cons,List.flatten_nil,List.append_nil,List.map_map]
  congr 1;apply List.ext_getElem
  .simp
  .intro i Y X;simp at Y;simp[bM Y,Y]
theorem Ef(hτ:fQ P τ)(sat:Sat n l H nx iv B w O a J){t:Nat}{x y:SV}{F':SV->Hp->Nat->Prop}(h:GB τ t x y H nx F'):
  ∃r H' OF G8 I,F' r H' OF/\Rel H' OF iv B w G8 I/\r.sc OF/\nx<=OF/\(∀id,id<nx->O id=G8 id)/\(Instr.makeSlice t (x.den O) (y.den O)).run P J= .ok (r.den G8) I:=by
 unfold GB at h;split at h
 .rename_i k1 a1 k2 b1;split at h
  .rename_i sz ag by_ ze tag ik e al fs Pt;have ht:=hτ t _ Pt;split at h
   .rename_i OU;have hu:=ht.i4 (eG OU);simp only at hu;split at h
    .rename_i sz' ag' by' ze' tag' ik' e' al' fs' Oq
     have Oq:=hτ e _ Oq;obtain⟨inf,z,D,Oj,Oy,hz,Qp⟩:=Oq.info;simp only at Oj Oy Qp;obtain⟨m,c,rfl,rfl,UP,hbytes,h63,h⟩:=h;have TS:(inf.bytes:Int)*(c:Int)<=281474976710656:=by
      rw[Oy];have QP:((by'*c:Nat):Int)<=281474976710656:=by omega
      rwa [Int.natCast_mul]at QP
     have OI:=run_make (P:=P) J t e inf z hu D hz k1 k2 (m:Int) (c:Int) be be TS be;simp only[aJ]at OI;have fin:∀L:List Value,L.toArray=madeCells z.cells (c*inf.size)->zp (.arr e L) H nx (fun H' OF=>F' (.o (.s nx 0 m c)) H' OF)->
       ∃r H' OF G8 I,F' r H' OF/\Rel H' OF iv B w G8 I/\r.sc OF/\nx<=OF/\(∀id,id<nx->O id=G8 id)/\(Instr.makeSlice t (.int k1 m) (.int k2 c)).run P J= .ok (r.den G8) I:=by
      intro L Of hK;refine⟨_,_,_,gR O nx ⟨J.heap.size,0,false⟩,J.alloc (.cells L.toArray e),hK,?_,?_,be,gS,?_⟩
      .refine sat.rel.push (.arr e L) _ rfl rfl rfl bv (fun k E=>heap_alloc_old _ _ E) (fun _=>⟨aN _,bv⟩) ⟨rfl,heap_alloc_new _ _⟩ trivial
      .simp[SV.sc,At.sc]
      .rw[OI,<-Of];simp[SV.den,At.den]
     have RD:=Oq.HE;simp only at RD;have QQ:z.cells=ze'.toArray:=by apply Array.ext';simpa using Qp
     split at h
     .rename_i z0;refine fin _ ?_ h;have:inf.size=1:=by rw[Oj,<-RD];rfl
      rw[this,aw,QQ,DI]
     .refine fin _ ?_ h;rw[Oj,<-RD,QQ];rcases bN ze'.length with h0|h0
      .have:ze'=[]:=List.eq_nil_of_length_eq_zero h0;subst this;simp[madeCells]
      .rw[qJ]
    .exact h.elim
   .exact h.elim
  .exact h.elim
 .exact h.elim
theorem Eg(sat:Sat n l H nx iv B w O a J){x:SV}{F':Nat->List Value->Prop}(PB:0<size)(h:IN B H nx iv w size x F'):
  ∃m c ad news,F' m news/\x.den O= .slice ad m c/\news.length=m*size/\(∀u∈news,u.oneCell'=true)/\
   ((ad=none/\m=0)\/∃ad',ad=some ad'/\∀j u,news[j]? =some u->J.cell? (ad'.add j)=some u):=by
 have rel:=sat.rel;unfold IN at h;split at h
 .rename_i id off m c;split at h
  .rename_i bt L hH;obtain⟨Y,hd⟩:=nB h;obtain⟨X,ht⟩:=nC Y;obtain⟨vs,N,QX,hv1⟩:=kX X;refine⟨m,c,_,vs,N,rfl,?_,hv1,.inr ⟨_,rfl,fun j u hu=>?_⟩⟩
   .have:=congrArg List.length QX;simp at this ht;omega
   .rw[dS,cell_of (rel.box id bt L hH)];have e:(vs.map At.v)[j]? =some (.v u):=by simp[hu]
    rw[<-QX]at e;simp only[List.getElem?_take,List.getElem?_drop]at e;split at e
    .simp[e,At.den]
    .simp at e
  .rename_i bt L hH;obtain⟨vs,Y,X,N,h4⟩:=h;refine⟨m,c,_,vs,h4,rfl,X,N,.inr ⟨_,rfl,fun j u hu=>?_⟩⟩;rw[dS,cell_of (rel.arr id bt L hH)];rw[<-Y]at hu;simp only[List.getElem?_take,List.getElem?_drop]at hu;split at hu
   .exact hu
   .simp at hu
  .exact h.elim
 .rename_i ad m c;obtain⟨vs,Y,X,N,h4⟩:=h;refine⟨m,c,ad,vs,h4,rfl,Y,X,?_⟩;rcases bN m with h0|h0
  .subst h0;have:vs=[]:=List.eq_nil_of_length_eq_zero (by simpa using Y);subst this
   cases ad with
   |none=>exact .inl ⟨rfl,rfl⟩
   |some ad=>exact .inr ⟨ad,rfl,fun j u hu=>by simp at hu⟩
  .exact .inr (N O J rel h0)
 .rename_i id m;split at h
  .rename_i bt sz L hH;obtain⟨Y,X,N⟩:=h;rcases rel.vec id bt sz L hH with⟨Z,rfl⟩|⟨Z,spare,hb,_⟩
   .have h0:m=0:=by
     have h4:m*size=0:=by simpa using Y.symm
     rcases Nat.mul_eq_zero.1 h4 with h5|h5<;>omega
    subst h0;exact⟨0,0,none,[],N,by simp[SV.den,At.den,Z],bv,bv,.inl ⟨rfl,rfl⟩⟩
   .refine⟨m,(O id).cap,_,L,N,by simp only[SV.den,At.den,Z];rfl,Y,X,.inr ⟨_,rfl,fun j u hu=>?_⟩⟩;rw[dS,cell_of hb,aX,aK (aD.1 hu).1];exact hu
  .exact h.elim
 .exact h.elim
theorem k6(w:World)(base:Nat)(t ty e:TypeId)(i:TypeInfo)(size:Nat)(ht:P.underlying t=some (.slice e))(D:P.info? e=some i)
  (v:Value) (m:Nat) (xs:List Value) (RY:w.ownsRow base e size v m xs) (c:Nat):(Builtin.append_ #[t,t] ty #[v,.slice none 0 c]).run P w= .ok v w:=by
 rcases RY.2 with⟨rfl,rfl⟩|⟨g,cap,cur,rfl,_,_,Sm,_⟩
 .simp[Builtin.append_,run_underlying ht,sizeOf,typeInfo,D,Builtin.lenOf,Builtin.firstCells]
 .simp[Builtin.append_,run_underlying ht,sizeOf,typeInfo,D,Builtin.lenOf,Builtin.firstCells,Sm,storeCells]
theorem oo{w:World}{e:Nat}{v:Value}{base:Nat}(h:w.ownsRow base e size v m xs):
  ∃val:da,(At.w 0 m).den (fun _=>val)=v/\(j1.vec e size xs).fits (fun _=>val) val w/\(val.nil=false->v.ownBlock=some val.g/\val.g<w.heap.size)/\(val.nil=true->v.ownBlock=none):=by
 rcases h.2 with⟨rfl,rfl⟩|⟨g,cap,cur,rfl,_,hb,Sm,QF,hcur,RQ⟩
 .have:xs=[]:=List.eq_nil_of_length_eq_zero (by simpa using h.1);exact⟨⟨0,0,true⟩,rfl,.inl ⟨rfl,this⟩,(fun h=>by cases h),fun _=>rfl⟩
 .refine⟨⟨g,cap,false⟩,rfl,.inr ⟨rfl,cur.toList.drop (m*size),?_,?_,QF⟩,fun _=>⟨rfl,(bA.1 hb).1⟩,(fun h=>by cases h)⟩
  .rw[<-RQ,List.take_append_drop];simpa using hb
  .rw[<-RQ,List.take_append_drop];simpa using hcur
theorem IV(rel:Rel H nx iv B w O J){e sz:Nat}(hH:cw H id=some (.vec e sz L))(hl:L.length=m*sz)(PB:0<sz):
  J.ownsRow B e sz ((At.w id m).den O) m L:=by
 rcases rel.vec id e sz L hH with⟨Z,rfl⟩|⟨Z,spare,hb,RZ,QF⟩
 .have h0:m=0:=by
   have h4:m*sz=0:=by simpa using hl.symm
   rcases Nat.mul_eq_zero.1 h4 with h5|h5<;>omega
  subst h0;simp only[At.den,Z]
  exact World.ownsRow_nil _ _ _ _
 .refine⟨hl,.inr ⟨(O id).g,(O id).cap,_,by simp only[At.den,Z],(rel.low id _ hH Z).1,hb,?_,QF,by simpa using RZ,by simp[<-hl]⟩⟩;have Y:m*sz<=(O id).cap*sz:=by rw[<-RZ,<-hl];simp
  exact Nat.le_of_mul_le_mul_right Y PB
theorem sY(hτ:fQ P τ)(sat:Sat n l H nx iv B w O a J){t ty:Nat}{x y:SV}{F':SV->Hp->Nat->Prop}(h:xM τ B t x y H nx iv w F'):
  ∃r H' OF G8 I,F' r H' OF/\Rel H' OF iv B w G8 I/\r.sc OF/\nx<=OF/\(∀id,id<nx->O id=G8 id)/\(Builtin.append_ #[t,t] ty #[x.den O,y.den O]).run P J= .ok (r.den G8) I:=by
 have rel:=sat.rel;unfold xM at h;split at h
 .exact h.elim
 rename_i sz ag by_ ze tag ik e al fs Pt;have ht:=hτ t _ Pt;split at h
 .rename_i OU;have hu:=ht.i4 (eG OU);simp only at hu;split at h
  .rename_i sz' ag' by' ze' tag' ik' e' al' fs' Oq
   have Oq:=hτ e _ Oq;split at h
   .exact h.elim
   .rename_i z0 zr;obtain⟨inf,z,D,Oj,Oy,hz,Qp⟩:=Oq.info;have RD:=Oq.HE;simp only at Oj Oy Qp RD;have PB:0<sz':=by rw[<-RD];simp
    have hzs:z.cells.size=sz':=by rw[<-RD,<-Qp];simp
    have h0:=Eg sat PB h;clear h;obtain⟨m,c,ad,news,h,hy,Qn,hn1,hsrc⟩:=h0;have happ:∀(v:Value) (k:Nat) (xs:List Value),J.ownsRow B e sz' v k xs->(k+m)*by'<=140737488355328->k+m<=maxLen->
      ∃v' I,(Builtin.append_ #[t,t] ty #[v,y.den O]).run P J= .ok v' I/\I.ownsRow B e sz' v' (k+m) (xs++news)/\J.grownBy I v.ownBlock/\(v'.ownBlock=v.ownBlock\/v'.ownBlock=some J.heap.size):=by
     intro v k xs RY hb Qo;rw[hy];rcases hsrc with⟨rfl,rfl⟩|⟨ad',rfl,Oi⟩
     .have:news=[]:=List.eq_nil_of_length_eq_zero (by simpa using Qn);subst this;exact⟨v,J,k6 J B t ty e inf sz' hu D v k xs RY c,by simpa using RY,⟨rfl,rfl,rfl,aN _,fun _ _ _=>rfl⟩,.inl rfl⟩
     .obtain⟨v',I,Y,X,N,_,h5⟩:=run_append_own_at (P:=P) J B t ty e inf z sz' by' hu D hz Oj Oy hzs PB v k xs RY ad' m c news Qn Oi hn1 Qo hb (by have:=rel.base;have:=rel.size;omega)
      exact⟨v',I,Y,X,N,h5⟩
    split at h
    .obtain⟨hb,Qo,hK⟩:=h;obtain⟨v',I,Y,X,N,h5⟩:=happ (.slice none 0 0) 0 [] (World.ownsRow_nil _ _ _ _) (by simpa using hb) (by simpa using Qo);simp only[aX,List.nil_append]at X;obtain⟨val,hv1,Qq,hv3,hv4⟩:=oo X;refine⟨_,_,_,gR O nx val,I,hK,?_,by simp[SV.sc,At.sc],be,gS,?_⟩
     .refine rel.push (.vec e sz' news) val N.os N.tape N.output N.size (fun k E=>N.block k E (by simp[Value.ownBlock])) (fun Z=>?_) (by simpa [j1.fits]using Qq) trivial;have:=hv3 Z;rcases h5 with h6|h6
      .rw[this.1]at h6;simp[Value.ownBlock]at h6
      .rw[this.1]at h6;injection h6 with h6;exact⟨be,this.2⟩
     .rw[show SV.den O (.o (.v (.slice none 0 0)))= .slice none 0 0 from rfl,Y,<-hv1];simp[SV.den,At.den]
    .rename_i id k;split at h
     .rename_i e1 sz1 L hH;split at h
      .rename_i Pw;have Pw:=eG Pw;subst Pw;split at h
       .rename_i On;have On:=eG On;subst On;obtain⟨hl,hb,Qo,h⟩:=h;obtain⟨H1,hK,hH1,_⟩:=rL h;obtain⟨v',I,Y,X,N,h5⟩:=happ _ k L (IV rel hH hl PB) hb Qo;obtain⟨val,hv1,Qq,hv3,hv4⟩:=oo X;have Qb:(O id).nil=false->((At.w id k).den O).ownBlock=some (O id).g:=fun Z=>by simp[At.den,Z,Value.ownBlock]
        have hob':(O id).nil=true->((At.w id k).den O).ownBlock=none:=fun Z=>by simp[At.den,Z,Value.ownBlock]
        refine⟨_,_,_,gR O nx val,I,hK,?_,by simp[SV.sc,At.sc],be,gS,?_⟩
        .refine rel.IT hH bv hH1 (.vec e1 sz1 (L++news)) val N.os N.tape N.output N.size (fun j hj OB=>?_) (fun Z=>?_) (by simpa [j1.fits]using Qq) trivial
         .refine N.block j hj fun e=>?_
          cases Ok:(O id).nil
          .rw[Qb Ok]at e;injection e with e;exact OB Ok e
          .rw[hob' Ok]at e;cases e
         .have:=hv3 Z;rcases h5 with h6|h6
          .rw[this.1]at h6
           cases Ok:(O id).nil
           .rw[Qb Ok]at h6;injection h6 with h6;exact .inr ⟨rfl,h6⟩
           .rw[hob' Ok]at h6;cases h6
          .rw[this.1]at h6;injection h6 with h6;exact .inl ⟨be,this.2⟩
        .rw[show SV.den O (.o (.w id k))=(At.w id k).den O from rfl,Y,<-hv1];simp[SV.den,At.den]
       .exact h.elim
      .exact h.elim
     .exact h.elim
    .rename_i id k c0;split at h
     .rename_i hkc;have hkc:=eG hkc;subst hkc;split at h
      .rename_i e1 cs0 hH;split at h
       .rename_i Pw;have Pw:=eG Pw;subst Pw;obtain⟨L,⟨hl,hb,Qo,h9⟩,rfl,_⟩:=kX h;obtain⟨H1,hK,hH1,_⟩:=rL h9;have Ok:(O id).nil=false:=rel.nn id _ hH (by intros;simp) bv;have Rk:=rel.box id _ _ hH;rw[fR]at Rk;have RY:J.ownsRow B e1 sz' ((At.s id 0 k k).den O) k L:=by
         refine⟨hl,.inr ⟨(O id).g,k,_,by simp only[At.den],(rel.low id _ hH Ok).1,Rk,aN _,be,by simp[hl],by simp[<-hl]⟩⟩
        obtain⟨v',I,Y,X,N,h5⟩:=happ _ k L RY hb Qo;obtain⟨val,hv1,Qq,hv3,hv4⟩:=oo X;have Qb:((At.s id 0 k k).den O).ownBlock=some (O id).g:=by simp[At.den,Value.ownBlock]
        refine⟨_,_,_,gR O nx val,I,hK,?_,by simp[SV.sc,At.sc],be,gS,?_⟩
        .refine rel.IT hH bv hH1 (.vec e1 sz' (L++news)) val N.os N.tape N.output N.size (fun j hj OB=>?_) (fun Z=>?_) (by simpa [j1.fits]using Qq) trivial
         .refine N.block j hj fun e=>?_;rw[Qb]at e;injection e with e;exact OB Ok e
         .have:=hv3 Z;rcases h5 with h6|h6
          .rw[this.1]at h6;rw[Qb]at h6;injection h6 with h6;exact .inr ⟨Ok,h6⟩
          .rw[this.1]at h6;injection h6 with h6;exact .inl ⟨be,this.2⟩
        .rw[show SV.den O (.o (.s id 0 k k))=(At.s id 0 k k).den O from rfl,Y,<-hv1];simp[SV.den,At.den]
       .exact h.elim
      .exact h.elim
     .exact h.elim
    .exact h.elim
  .exact h.elim
 .exact h.elim
end
end Go.Sx
