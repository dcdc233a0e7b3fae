/- Texts Sx1 to Sx6: lemmas, each with its conditions. -/
import Derived.WalkKit
import Derived.Maps.AppendAt
import Derived.Laws.IdiomCopy
import Derived.Great.BuildSlice
set_option linter.defProp false
namespace Go
def be{p:Prop}(h:p:=by omega):p:=h
def bv{p:Prop}(h:p:=by decide):p:=h
def ce{p:Prop}(h:p:=by simp):p:=h
def d8{p:Prop}(h:p:=by rfl):p:=h
def d9{p:Prop}(h:p:=by kernel_rfl):p:=h
end Go
namespace Go
variable{i m n:Nat}{c:Prop}
def aD.{u_1}{α:Type u_1}(y:α){a:α}{l:List α}:a∈l->a∈y::l:=List.mem_cons_of_mem y
def aE.{u_1}{α:Type u_1}{l:List α}(h:i<l.length):l[i]? =some l[i]:=List.getElem?_eq_getElem h
def aF.{u_1}{α:Type u_1}{a:α}{l:List α}:a∈a::l:=List.mem_cons_self
def aG.{u_1}{α:Type u_1}{l:List α}{a:α}(e:l[i]? =some a):a∈l:=List.mem_of_getElem? e
def aH.{u_1}{α:Type u_1}{a:α}{l:List α}:l[i]? =some a↔∃h:i<l.length,l[i]=a:=List.getElem?_eq_some_iff
def aI(n:Nat):((n:Int)).toNat=n:=Int.toNat_natCast n
def aJ.{u}{h:Decidable c}(hnc:¬c){α:Sort u}{t e:α}:(if c then t else e)=e:=if_neg hnc
def aK{p:Prop} [inst:Decidable p]:decide p=true->p:=of_decide_eq_true
def aL{p:Prop} [inst:Decidable p]:decide p=false->¬p:=of_decide_eq_false
def aM.{u}{h:Decidable c}(hc:c){α:Sort u}{t e:α}:(if c then t else e)=t:=if_pos hc
def aN.{u_1}{α:Type u_1}{l₁ l₂:List α}(E:i<l₁.length):(l₁++l₂)[i]? =l₁[i]? :=List.getElem?_append_left E
def aO.{u_1,u_2}{α:Type u_1}{β:Type u_2}{as:List α}(f:α->β):(List.map f as).length=as.length:=List.length_map f
def aP.{u_1}{α:Type u_1}{l₁ l₂:List α}:l₁.length<=i->(l₁++l₂)[i]? =l₂[i-l₁.length]? :=List.getElem?_append_right
def aQ.{u_1}{α:Type u_1}{l:List α}{a:α}(h:i<l.length):(l.set i a)[i]? =some a:=List.getElem?_set_self h
def aR{k:Nat}:n<=m->m<=k->n<=k:=Nat.le_trans
def aS.{u_1,u_2}{α:Type u_1}{β:Type u_2}{f:α->β}{l:List α}:(List.map f l)[i]? =Option.map f l[i]? :=List.getElem?_map
def aU.{u}{α:Type u}{as bs:List α}:(as++bs).length=as.length+bs.length:=List.length_append
def aV(n:Nat):0+n=n:=Nat.zero_add n
def aW(n m:Nat):n<m\/n≥m:=Nat.lt_or_ge n m
def aX.{u_1}{α:Type u_1}{l:List α}{j:Nat}(h:i≠j){a:α}:(l.set i a)[j]? =l[j]? :=List.getElem?_set_ne h
def aY.{u_1}{α:Type u_1}{a b:α}:a∈[b]↔a=b:=List.mem_singleton
def aZ(n:Nat):0<=n:=Nat.zero_le n
def ae(n:Nat):n<=n:=Nat.le_refl n
def ah(n:Nat):n*1=n:=Nat.mul_one n
def aj.{u_1}{α:Type u_1}{a:α}{l:List α}(h:a∈l):∃i:Nat,l[i]? =some a:=List.getElem?_of_mem h
def aq.{u}{α:Type u}{a:α}:(List.replicate n a).length=n:=List.length_replicate
def av.{u_1}{α:Type u_1}{l₁ l₂:List α}(h:∀(i:Nat),l₁[i]? =l₂[i]?):l₁=l₂:=List.ext_getElem? h
def az.{u_1}{α:Type u_1}{a:α}{s t:List α}:a∈s++t↔a∈s\/a∈t:=List.mem_append
def bA.{u_1,u_2}{α:Type u_1}{β:Type u_2}{b:β}{f:α->β}{l:List α}:b∈List.map f l↔∃a,a∈l/\f a=b:=List.mem_map
def bB(n:Nat):n=0\/n>0:=Nat.eq_zero_or_pos n
def bC(k:Nat)(h:n<=m):k*n<=k*m:=Nat.mul_le_mul_left k h
def bD{p:Prop} [Decidable p]:¬p->decide p=false:=decide_eq_false
def bE.{u_1}{α:Type u_1}{l:List α}:List.take l.length l=l:=List.take_length
def bF(a:Rat):a*0=0:=Rat.mul_zero a
def bG.{u_1}{α:Type u_1}{b:α}{xs:Array α}:xs[i]? =some b↔∃h:i<xs.size,xs[i]=b:=Array.getElem?_eq_some_iff
def bH.{u_1}{α:Type u_1}{l:List α}:List.take (i+1) l=List.take i l++l[i]?.toList:=List.take_add_one
def bI.{u_1}{α:Type u_1}{l:List α}:(List.take i l).length=min i l.length:=List.length_take
def bJ.{u_1}{α:Type u_1}{xs:Array α}{d:α}:xs.getD i d=xs[i]?.getD d:=Array.getD_eq_getD_getElem?
def bK.{u_1}{α:Type u_1}{a b:α}(h:b∈List.replicate n a):b=a:=List.eq_of_mem_replicate h
def bL.{u_1}{α:Type u_1}{l:List α}{a b:α}:a∈l.set i b->a∈l\/a=b:=List.mem_or_eq_of_mem_set
def bM(a b:Bool):((a&&b)=true)=(a=true/\b=true):=Bool.and_eq_true a b
def bN.{u_1,u_2}{α:Type u_1}{β:Type u_2}(a:α)(f:α->β):Option.map f (some a)=some (f a):=Option.map_some a f
def bO(a b:Rat):a / b=a*b⁻¹:=Rat.div_def a b
def bQ.{u}{α:Type u}{as:List α}{a:α}:(as.set i a).length=as.length:=List.length_set
def bT.{u}{α:Type u}{xs:Array α}:xs.toList[i]? =xs[i]? :=Array.getElem?_toList
def bU.{u_1}{α:Type u_1}{l:List α}(h:l.length<=i):List.take i l=l:=List.take_of_length_le h
def bV(n:Nat):n-n=0:=Nat.sub_self n
def bW(n m k:Nat):n*(m+k)=n*m+n*k:=Nat.mul_add n m k
def bX(n m:Nat):n*m=m*n:=Nat.mul_comm n m
def bY{p:Prop} [inst:Decidable p]:p->decide p=true:=decide_eq_true
def bZ{a b:Nat}(h:a<b):a % b=a:=Nat.mod_eq_of_lt h
def bc(a:Rat):0*a=0:=Rat.zero_mul a
def bg.{u}{α:Type u}(as bs cs:List α):as++bs++cs=as++(bs++cs):=List.append_assoc as bs cs
def bh.{u}{α:Type u}{a:α}{as:List α}:(a::as).length=as.length+1:=List.length_cons
def bj{a:Int}:a.sign=0↔a=0:=Int.sign_eq_zero_iff_zero
def bm.{u_1}{α:Type u_1}{l:List α}(h:n<l.length):l[n]∈l:=List.getElem_mem h
def bo(n m k:Nat):n*m*k=n*(m*k):=Nat.mul_assoc n m k
def bp.{u_1,u_2}{α:Type u_1}{β:Type u_2}{f:α->β}{l₁ l₂:List α}:List.map f (l₁++l₂)=List.map f l₁++List.map f l₂:=List.map_append
def bu:List.range n.succ=List.range n++[n]:=List.range_succ
def bw.{u_1}{α:Type u_1}{xs:Array α}{a:α}:(xs.setIfInBounds i a).size=xs.size:=Array.size_setIfInBounds
def bz:n.beq m=true->n=m:=Nat.eq_of_beq_eq_true
def cD.{u_1}{α:Type u_1}{xs:List α}{j:Nat}:(List.drop i xs)[j]? =xs[i+j]? :=List.getElem?_drop
def cF(n:Nat):n<n.succ:=Nat.lt_succ_self n
def cG{a:Int}(h:a<0):a.sign= -1:=Int.sign_eq_neg_one_of_neg h
def cH(a:Rat):a+0=a:=Rat.add_zero a
def cI(w:Nat):0<2^w:=Nat.two_pow_pos w
def cJ{a:Int}(h:0<a):a.sign=1:=Int.sign_eq_one_of_pos h
def cK(m:Nat)(npos:0<n):0<m.gcd n:=Nat.gcd_pos_of_pos_right m npos
def cL(x:Nat){y:Nat}(hy:0<y):x % y<y:=Nat.mod_lt x hy
def cM(n:Nat):n+0=n:=Nat.add_zero n
def cN(h:i<n):(List.range n)[i]? =some i:=List.getElem?_range h
def cO(a b:Nat):a<b\/a=b\/b<a:=Nat.lt_trichotomy a b
def cP(a:Int):(-a).natAbs=a.natAbs:=Int.natAbs_neg a
def cQ(a:Rat):1*a=a:=Rat.one_mul a
end Go
namespace Go.Sx
open Go
variable{next:Act->World->Prop}{ad:Addr}{cells:Array Value}{b:Bool}{Q:Exit->Act->World->Prop}{FS:Int->Prop}{fs:List (Nat×Nat)}{rest:List (Nat×Value)}{cs new old xs:List Value}{B m n nx off size:Nat}{place:Nat->Option (Nat×Nat)}{R lo:Option Operand}{Fn:Prop}{J F:World}
inductive At where
 |v (x:Value)
 |p (id off:Nat)
 |s (id off len cap:Nat)
 |w (id len:Nat)
 |fn (f:Nat) (caps:List Nat)
inductive SV where
 |o (x:At)
 |a (cs:List At)
structure eD where
 g:Nat
 cap:Nat
 nil:Bool
def At.den(O:Nat->eD):At->Value
 | .v x=>x
 | .p id off=>.pointer (some ⟨(O id).g,off,none⟩)
 | .s id off len cap=>.slice (some ⟨(O id).g,off,none⟩) len cap
 | .w id len=>match(O id).nil with
  |true=>.slice none 0 0
  |false=>.slice (some ⟨(O id).g,0,none⟩) len (O id).cap
 | .fn f caps=>.func (.func f) #[] (caps.map λid=>Value.pointer (some ⟨(O id).g,0,none⟩)).toArray
def SV.den(O:Nat->eD):SV->Value
 | .o x=>x.den O
 | .a cs=>.agg (cs.map (At.den O)).toArray
def At.sc(n:Nat):At->Prop
 | .v _=>True
 | .p id _=>id<n
 | .s id _ _ _=>id<n
 | .w id _=>id<n
 | .fn _ caps=>∀id∈caps,id<n
def SV.sc(n:Nat):SV->Prop
 | .o x=>x.sc n
 | .a cs=>∀x∈cs,At.sc n x
inductive jX where
 |box (t:Nat) (cs:List At)
 |arr (t:Nat) (cs:List Value)
 |vec (t:Nat) (size:Nat) (cs:List Value)
 |dead
abbrev Env:=List (Nat×SV)
abbrev Hp:=List (Nat×jX)
abbrev Iv:=List (Nat×Nat)
def fj:Env->Nat->Option SV
 |[],_=>none
 |(t,v)::r,u=>match Nat.beq t u with
  |true=>some v
  |false=>fj r u
def dT:Hp->Nat->Option jX
 |[],_=>none
 |(t,v)::r,u=>match Nat.beq t u with
  |true=>some v
  |false=>dT r u
def CY:Hp->Nat->(Hp->Prop)->Prop
 |[],_,_=>False
 |(t,v)::r,u,k=>match Nat.beq t u with
  |true=>k ((t,.dead)::r)
  |false=>CY r u (λr'=>k ((t,v)::r'))
def HD:Hp->Nat->jX->(Hp->Prop)->Prop
 |[],_,_,_=>False
 |(t,v)::r,u,b,k=>match Nat.beq t u with
  |true=>k ((t,b)::r)
  |false=>HD r u b (λr'=>k ((t,v)::r'))
structure TI where
 size:Nat
 agg:Bool
 bytes:Nat
 zero:List Value
 tag:Nat
 ik:IntKind:=.i64
 elem:Nat:=0
 HE:Nat:=0
 fields:List (Nat×Nat):=[]
def ev(l:Env):Operand->Option SV
 | .tmp t=>fj l t
 | .const v=>some (.o (.v v))
 | .global g=>some (.o (.v (.pointer (some ⟨g,0,none⟩))))
 | .func f=>some (.o (.v (.func (.func f) #[] #[])))
def qp(l:Env)(x:Operand)(k:SV->Prop):Prop:=match ev l x with
 |some v=>k v
 |none=>False
def LG(l:Env):List Operand->(List SV->Prop)->Prop
 |[],k=>k []
 |x::r,k=>match ev l x with
  |some v=>LG l r (λvs=>k (v::vs))
  |none=>False
def uo:List At->Nat->(List At->Prop)->Prop
 |l,0,k=>k l
 |[],_+1,_=>False
 |_::t,n+1,k=>uo t n k
def uq:List At->Nat->(List At->Prop)->Prop
 |_,0,k=>k []
 |[],_+1,_=>False
 |x::t,n+1,k=>uq t n (λr=>k (x::r))
def CZ:List At->List At->(List At->Prop)->Prop
 |cs,[],k=>k cs
 |[],_::_,_=>False
 |_::t,x::r,k=>CZ t r (λt'=>k (x::t'))
def sd:List At->Nat->List At->(List At->Prop)->Prop
 |cs,0,new,k=>CZ cs new k
 |[],_+1,_,_=>False
 |x::t,n+1,new,k=>sd t n new (λt'=>k (x::t'))
def qu:List Value->(List At->Prop)->Prop
 |[],k=>k []
 |x::r,k=>qu r (λr'=>k (.v x::r'))
def zT:SV->(List At->Prop)->Prop
 | .a cs,k=>k cs
 | .o (.v (.agg ⟨l⟩)),k=>qu l k
 | .o (.v (.tuple _)),_=>False
 | .o x,k=>k [x]
def At.one:At->Bool
 | .v (.agg _)=>false
 | .v (.tuple _)=>false
 |_=>true
def IS:List At->Prop->Prop
 |[],k=>k
 |x::r,k=>match x.one with
  |true=>IS r k
  |false=>False
def yT:List At->(List Value->Prop)->Prop
 |[],k=>k []
 | .v x::r,k=>match At.one (.v x)with
  |true=>yT r (λr'=>k (x::r'))
  |false=>False
 |_::_,_=>False
def wj(b:Bool)(Fn B:Prop):Prop:=match b with
 |true=>Fn
 |false=>B
def wj.t{B:Prop}(h:wj b Fn B)(e:b=true):Fn:=by subst e;exact h
def wj.f{B:Prop}(h:wj b Fn B)(e:b=false):B:=by subst e;exact h
def wj.mk{B:Prop}(Y:b=true->Fn)(I:b=false->B):wj b Fn B:=by
 cases b
 .exact I rfl
 .exact Y rfl
def bS{B:Prop}(Y:b=true->Fn)(I:b=false->B):wj b Fn B:=.mk Y I
structure Rel(H:Hp)(nx:Nat)(iv:Iv)(B:Nat)(w:World)(O:Nat->eD)(J:World):Prop where
 os:J.os=w.os
 tape:J.tape=w.tape
 output:J.output=w.output
 size:w.heap.size<=J.heap.size
 base:B<=w.heap.size
 oB:∀lo R,(lo,R)∈iv->R<=w.heap.size
 keys:∀id b,dT H id=some b->id<nx
 box:∀id t cs,dT H id=some (.box t cs)->J.heap[(O id).g]? =some (.cells (cs.map (At.den O)).toArray t (0,0))
 arr:∀id t cs,dT H id=some (.arr t cs)->J.heap[(O id).g]? =some (.cells cs.toArray t (0,0))
 vec:∀id t size cs,dT H id=some (.vec t size cs)->((O id).nil=true/\cs=[])\/
  ((O id).nil=false/\∃spare:List Value,J.heap[(O id).g]? =some (.cells (cs++spare).toArray t (0,0))/\(cs++spare).length=(O id).cap*size/\(O id).cap<=maxLen)
 inj:∀id id' b b',dT H id=some b->dT H id'=some b'->b≠ .dead->b'≠ .dead->(O id).nil=false->(O id').nil=false->(O id).g=(O id').g->id=id'
 low:∀id b,dT H id=some b->(O id).nil=false->B<=(O id).g/\(O id).g<J.heap.size
 D9:∀k,k<w.heap.size->(∀id b,dT H id=some b->(O id).nil=false->(O id).g≠k)->J.heap[k]? =w.heap[k]?
 jJ:∀lo R,(lo,R)∈iv->∀id b,dT H id=some b->(O id).nil=false->¬(lo<=(O id).g/\(O id).g<R)
 NP:∀id t cs,dT H id=some (.box t cs)->∀x∈cs,At.sc nx x
 nn:∀id b,dT H id=some b->(∀t size cs,b≠ .vec t size cs)->b≠ .dead->(O id).nil=false
structure LL(P:Program)(g:Nat):Prop where
 h:∀(args:Array Value) (w:World),(callFunc g args).run P w= .ok (.enter g args) w
structure eH(P:Program)(g:Nat)(args:Array Value)(w:World)(F9:Ending->World->Prop):Prop where
 e:LL P g
 c:Calls P g args w F9
def Db:List At->Nat->Option At
 |[],_=>none
 |x::_,0=>some x
 |_::t,n+1=>Db t n
def Jd:List Value->Nat->Option Value
 |[],_=>none
 |x::_,0=>some x
 |_::t,n+1=>Jd t n
def Je:List (Nat×Nat)->Nat->Option (Nat×Nat)
 |[],_=>none
 |x::_,0=>some x
 |_::t,n+1=>Je t n
def rB:IntKind->IntKind->Bool
 | .i8,.i8=>true| .i16,.i16=>true| .i32,.i32=>true| .i64,.i64=>true
 | .u8,.u8=>true| .u16,.u16=>true| .u32,.u32=>true| .u64,.u64=>true
 |_,_=>false
abbrev nO:=Nat->Option TI
def Jf(op:BinOp)(k:IntKind)(a b:Int)(FS:Value->Prop):Prop:=
 match op with
 | .add=>∃r,k.wrap (a+b)=r/\FS (.int k r)
 | .sub=>∃r,k.wrap (a-b)=r/\FS (.int k r)
 | .mul=>∃r,k.wrap (a*b)=r/\FS (.int k r)
 | .quo=>b≠0/\∃r,k.wrap (a.tdiv b)=r/\FS (.int k r)
 | .rem=>b≠0/\∃r,a.tmod b=r/\FS (.int k r)
 | .and=>∃r,k.wrap ((BitVec.ofInt k.bits a &&& BitVec.ofInt k.bits b).toNat:Int)=r/\FS (.int k r)
 | .or=>∃r,k.wrap ((BitVec.ofInt k.bits a ||| BitVec.ofInt k.bits b).toNat:Int)=r/\FS (.int k r)
 | .xor=>∃r,k.wrap ((BitVec.ofInt k.bits a ^^^ BitVec.ofInt k.bits b).toNat:Int)=r/\FS (.int k r)
 | .shl=>0<=b/\∃r,k.wrap (a*2^(min b.toNat k.bits))=r/\FS (.int k r)
 | .shr=>0<=b/\∃r,a.fdiv (2^(min b.toNat k.bits))=r/\FS (.int k r)
 | .eql=>FS (.bool (a==b))
 | .neq=>FS (.bool (a != b))
 | .lss=>FS (.bool (decide (a<b)))
 | .leq=>FS (.bool (decide (a<=b)))
 | .gtr=>FS (.bool (decide (a>b)))
 | .geq=>FS (.bool (decide (a≥b)))
 | .andNot=>∃r,k.wrap ((BitVec.ofInt k.bits a &&& ~~~BitVec.ofInt k.bits b).toNat:Int)=r/\FS (.int k r)
def PC(P:Program)(τ:nO)(op:BinOp)(t:Nat)(x y:SV)(FS:SV->Prop):Prop:=
 match x,y with
 | .o (.v (.int k a)),.o (.v (.int k' b))=>
  match op with
  | .shl=>Jf op k a b (λr=>FS (.o (.v r)))
  | .shr=>Jf op k a b (λr=>FS (.o (.v r)))
  |_=>match rB k k' with
   |true=>Jf op k a b (λr=>FS (.o (.v r)))
   |false=>False
 | .o (.v (.bool a)),.o (.v (.bool b))=>
  match τ t with
  |some ti=>match Nat.beq ti.tag 2 with
   |true=>match op with
    | .eql=>FS (.o (.v (.bool (a==b))))
    | .neq=>FS (.o (.v (.bool (!(a==b)))))
    |_=>False
   |false=>False
  |none=>False
 | .o (.v (.string a)),.o (.v (.string b))=>
  match op with
  | .eql=>FS (.o (.v (.bool (a.data.toList==b.data.toList))))
  | .neq=>FS (.o (.v (.bool (!(a.data.toList==b.data.toList)))))
  | .add=>a.size+b.size<=maxLen/\FS (.o (.v (.string (a++b))))
  |_=>False
 |_,_=>∃b:Bool,(∀(O:Nat->eD) (w:World) (o1 o2:Operand),(do eqGuard op t o1 o2 (x.den O) (y.den O);binOp op t (x.den O) (y.den O)).run P w= .ok (.bool b) w)/\FS (.o (.v (.bool b)))
def Cg(τ:nO)(B:Nat)(t:Nat)(addr:SV)(H:Hp)(nx:Nat)(iv:Iv)(w:World)(FS:SV->Prop):Prop:=
 match τ t with
 |none=>False
 |some ⟨sz,ag,_,_,_,_,_,_,_⟩=>
  match addr with
  | .o (.p id off)=>
   match dT H id with
   |some (.box _ cs)=>
    match ag with
    |false=>match Db cs off with
     |some x=>FS (.o x)
     |none=>False
    |true=>uo cs off (λr=>uq r sz (λl=>FS (.a l)))
   |some (.arr _ cs)=>
    match ag with
    |false=>∃x,cs[off]? =some x/\FS (.o (.v x))
    |true=>∃xs:List Value,(cs.drop off).take sz=xs/\xs.length=sz/\qu xs (λl=>FS (.a l))
   |some (.vec _ _ cs)=>
    match ag with
    |false=>∃x,cs[off]? =some x/\FS (.o (.v x))
    |true=>∃xs:List Value,(cs.drop off).take sz=xs/\xs.length=sz/\qu xs (λl=>FS (.a l))
   |_=>False
  | .o (.v (.pointer (some ad)))=>
   match ag with
   |false=>∃x,(∀O J,Rel H nx iv B w O J->J.cell? ad=some x)/\FS (.o (.v x))
   |true=>∃xs:List Value,xs.length=sz/\(∀O J,Rel H nx iv B w O J->∀j x,xs[j]? =some x->J.cell? (ad.add j)=some x)/\qu xs (λl=>FS (.a l))
  |_=>False
def setCells(w:World)(a:Addr):List Value->World
 |[]=>w
 |x::r=>setCells (w.setCell a x) (a.add 1) r
def HM(τ:nO)(B:Nat)(t:Nat)(addr x:SV)(H:Hp)(nx:Nat)(iv:Iv)(w:World)(FS:Hp->World->Prop):Prop:=
 match τ t with
 |none=>False
 |some ⟨sz,_,_,_,_,_,_,_,_⟩=>
  zT x (λnew=>IS new (match Nat.beq new.length sz with
   |false=>False
   |true=>match addr with
    | .o (.p id off)=>
     match dT H id with
     |some (.box bt cs)=>sd cs off new (λcs'=>HD H id (.box bt cs') (λH'=>FS H' w))
     |some (.arr bt cs)=>yT new (λnv=>off+sz<=cs.length/\∃cs',cs.take off++nv++cs.drop (off+sz)=cs'/\HD H id (.arr bt cs') (λH'=>FS H' w))
     |some (.vec bt ez cs)=>yT new (λnv=>off+sz<=cs.length/\∃cs',cs.take off++nv++cs.drop (off+sz)=cs'/\HD H id (.vec bt ez cs') (λH'=>FS H' w))
     |_=>False
    | .o (.v (.pointer (some ad)))=>yT new (λnv=>∀O J,Rel H nx iv B w O J->
      ad.spot=none/\(∀j,j<sz->(J.cell? (ad.add j)).isSome=true/\J.frozen? (ad.add j)=false)/\
      (∀id b,dT H id=some b->(O id).nil=false->(O id).g≠ad.block)/\
      ∀F,F=setCells J ad nv->FS H F)
    |_=>False))
def Bw(b:jX)(H:Hp)(nx:Nat)(FS:Hp->Nat->Prop):Prop:=FS ((nx,b)::H) (nx+1)
def rD(τ:nO)(fs:List (Nat×Nat))(f:Nat)(k:Nat->Nat->Bool->Prop):Prop:=
 match Je fs f with
 |some (off,ft)=>match τ ft with
  |some ⟨sz,ag,_,_,_,_,_,_,_⟩=>match Nat.beq sz 0 with
   |true=>False
   |false=>k off sz ag
  |none=>False
 |none=>False
def zA(x:SV)(n:Nat)(FS:SV->Prop):Prop:=
 match x with
 | .o (.p id off)=>FS (.o (.p id (off+n)))
 | .o (.v (.pointer (some ad)))=>FS (.o (.v (.pointer (some (ad.add n)))))
 |_=>False
def wm(l:Env)(place:Nat->(Nat->Nat->Prop)->Prop):List (Nat×Operand)->List At->(List At->Prop)->Prop
 |[],cs,k=>k cs
 |(i,x)::r,cs,k=>place i (λoff size=>qp l x (λv=>zT v (λnew=>match Nat.beq new.length size with
   |true=>sd cs off new (λcs'=>wm l place r cs' k)
   |false=>False)))
def Jg(H:Hp)(id m:Nat)(FS:Prop):Prop:=
 match dT H id with
 |some (.vec _ sz cs)=>match sz with
  |0=>False
  |k+1=>cs.length=m*(k+1)/\FS
 |_=>False
def PD(τ:nO)(H:Hp)(t:Nat)(x:SV)(FS:Int->Prop):Prop:=
 match τ t with
 |none=>False
 |some ⟨_,_,_,_,tag,_,_,HE,_⟩=>match Nat.beq tag 4 with
  |true=>match x with
   | .o (.v (.slice _ n _))=>FS n
   | .o (.s _ _ n _)=>FS n
   | .o (.w id n)=>Jg H id n (FS n)
   |_=>False
  |false=>match Nat.beq tag 3 with
   |true=>match x with
    | .o (.v (.string b))=>FS b.size
    |_=>False
   |false=>match Nat.beq tag 6 with
    |true=>FS HE
    |false=>False
def HN(τ:nO)(H:Hp)(t:Nat)(x i:SV)(FS:SV->Prop):Prop:=
 match i with
 | .o (.v (.int _ i))=>match τ t with
  |some ⟨_,_,_,_,tag,_,e,HE,_⟩=>match τ e with
   |some ⟨sz,_,_,_,_,_,_,_,_⟩=>match Nat.beq tag 4 with
    |true=>match x with
     | .o (.s id off n _)=>(0<=i/\i<n)/\FS (.o (.p id (off+i.toNat*sz)))
     | .o (.w id n)=>Jg H id n ((0<=i/\i<n)/\FS (.o (.p id (i.toNat*sz))))
     | .o (.v (.slice a n _))=>∃ad,a=some ad/\(0<=i/\i<n)/\FS (.o (.v (.pointer (some (ad.add (i.toNat*sz))))))
     |_=>False
    |false=>match Nat.beq tag 6 with
     |true=>(0<=i/\i<HE)/\zA x (i.toNat*sz) FS
     |false=>False
   |none=>False
  |none=>False
 |_=>False
def LC(l:Env)(x:Option Operand)(dflt:Int)(FS:Int->Prop):Prop:=
 match x with
 |none=>FS dflt
 |some o=>qp l o (λv=>match v with
  | .o (.v (.int _ n))=>FS n
  |_=>False)
def HO(τ:nO)(H:Hp)(t:Nat)(x:SV)(l:Env)(lo R:Option Operand)(FS:SV->Prop):Prop:=
 match τ t with
 |some ⟨_,_,_,_,tag,_,e,al,_⟩=>match Nat.beq tag 4 with
  |true=>match τ e with
   |some ⟨sz,_,_,_,_,_,_,_,_⟩=>match x with
    | .o (.s id off n c)=>LC l lo 0 (λa=>LC l R n (λb=>(0<=a/\a<=b/\b<=c)/\∃off' n' c':Nat,(if (c:Int)=a then off else off+a.toNat*sz)=off'/\b.toNat-a.toNat=n'/\c-a.toNat=c'/\FS (.o (.s id off' n' c'))))
    | .o (.v (.slice ad n c))=>LC l lo 0 (λa=>LC l R n (λb=>(0<=a/\a<=b/\b<=c)/\∃ad' n' c',(if (c:Int)=a then ad else ad.map (·.add (a.toNat*sz)))=ad'/\b.toNat-a.toNat=n'/\c-a.toNat=c'/\FS (.o (.v (.slice ad' n' c')))))
    | .o (.w id n)=>match lo with
     |none=>Jg H id n (LC l R n (λb=>(0<=b/\b<=n)/\∃m:Nat,b.toNat=m/\FS (.o (.w id m))))
     |some _=>False
    |_=>False
   |none=>False
  |false=>match Nat.beq tag 6 with
   |true=>match τ e with
    |some ⟨_,_,_,_,_,_,_,_,_⟩=>match x with
     | .o (.p id off)=>match lo,R with
      |none,none=>match Nat.beq al 0 with
       |false=>FS (.o (.s id off al al))
       |true=>False
      |_,_=>False
     |_=>False
    |none=>False
   |false=>match Nat.beq tag 3 with
    |true=>match x with
     | .o (.v (.string s))=>LC l lo 0 (λa=>LC l R s.size (λb=>(0<=a/\a<=b/\b<=s.size)/\FS (.o (.v (.string (s.extract a.toNat b.toNat))))))
     |_=>False
    |false=>False
 |none=>False
def Dd(τ:nO)(t:Nat)(x:SV)(l:Env)(lo R mx:Operand)(FS:SV->Prop):Prop:=
 match τ t with
 |some ⟨_,_,_,_,tag,_,e,_,_⟩=>match Nat.beq tag 4 with
  |true=>match τ e with
   |some ⟨sz,_,_,_,_,_,_,_,_⟩=>match x with
    | .o (.v (.slice ad n c))=>LC l (some lo) 0 (λa=>LC l (some R) n (λb=>LC l (some mx) c (λm=>(0<=a/\a<=b/\b<=m/\m<=c)/\∃ad' n' c',(if m=a then ad else ad.map (·.add (a.toNat*sz)))=ad'/\b.toNat-a.toNat=n'/\m.toNat-a.toNat=c'/\FS (.o (.v (.slice ad' n' c'))))))
    |_=>False
   |none=>False
  |false=>False
 |none=>False
def IX(τ:nO)(t:Nat)(x y:SV)(H:Hp)(nx:Nat)(FS:SV->Hp->Nat->Prop):Prop:=
 match x,y with
 | .o (.v (.int _ a)),.o (.v (.int _ b))=>match τ t with
  |some ⟨_,_,_,_,tag,_,e,_,_⟩=>match Nat.beq tag 4 with
   |true=>match τ e with
    |some ⟨_,_,by_,ze,_,_,_,_,_⟩=>∃n c:Nat,a=n/\b=c/\n<=c/\by_*c<=281474976710656/\c<=9223372036854775807/\
      match ze with
      |[z]=>Bw (.arr e (List.replicate c z)) H nx (λH' Pv=>FS (.o (.s nx 0 n c)) H' Pv)
      |zs=>Bw (.arr e (List.replicate c zs).flatten) H nx (λH' Pv=>FS (.o (.s nx 0 n c)) H' Pv)
    |none=>False
   |false=>False
  |none=>False
 |_,_=>False
def LN(B:Nat)(H:Hp)(nx:Nat)(iv:Iv)(w:World)(size:Nat)(x:SV)(FS:Nat->List Value->Prop):Prop:=
 match x with
 | .o (.s id off n _)=>match dT H id with
  |some (.box _ cs)=>uo cs off (λr=>uq r (n*size) (λl=>yT l (λvs=>FS n vs)))
  |some (.arr _ cs)=>∃vs:List Value,(cs.drop off).take (n*size)=vs/\vs.length=n*size/\(∀x∈vs,x.oneCell'=true)/\FS n vs
  |_=>False
 | .o (.v (.slice a n _))=>∃vs:List Value,vs.length=n*size/\(∀x∈vs,x.oneCell'=true)/\
   (∀O J,Rel H nx iv B w O J->0<n->∃ad,a=some ad/\∀j u,vs[j]? =some u->J.cell? (ad.add j)=some u)/\FS n vs
 | .o (.w id n)=>match dT H id with
  |some (.vec _ _ cs)=>cs.length=n*size/\(∀x∈cs,x.oneCell'=true)/\FS n cs
  |_=>False
 |_=>False
def zB(τ:nO)(B:Nat)(t:Nat)(x y:SV)(H:Hp)(nx:Nat)(iv:Iv)(w:World)(FS:SV->Hp->Nat->Prop):Prop:=
 match τ t with
 |none=>False
 |some ⟨_,_,_,_,tag,_,e,_,_⟩=>match Nat.beq tag 4 with
  |true=>match τ e with
   |some ⟨sz,_,by_,ze,_,_,_,_,_⟩=>match ze with
    |[]=>False
    |_::_=>LN B H nx iv w sz y (λm news=>
     match x with
     | .o (.v (.slice none 0 0))=>m*by_<=140737488355328/\m<=maxLen/\Bw (.vec e sz news) H nx (λH' Pv=>FS (.o (.w nx m)) H' Pv)
     | .o (.w id n)=>match dT H id with
      |some (.vec e' sz' cs)=>match Nat.beq e' e with
       |true=>match Nat.beq sz' sz with
        |true=>cs.length=n*sz/\(n+m)*by_<=140737488355328/\n+m<=maxLen/\CY H id (λH1=>Bw (.vec e sz (cs++news)) H1 nx (λH' Pv=>FS (.o (.w nx (n+m))) H' Pv))
        |false=>False
       |false=>False
      |_=>False
     | .o (.s id 0 n c)=>match Nat.beq n c with
      |true=>match dT H id with
       |some (.box e' cs)=>match Nat.beq e' e with
        |true=>yT cs (λvs=>vs.length=n*sz/\(n+m)*by_<=140737488355328/\n+m<=maxLen/\CY H id (λH1=>Bw (.vec e sz (vs++news)) H1 nx (λH' Pv=>FS (.o (.w nx (n+m))) H' Pv)))
        |false=>False
       |_=>False
      |false=>False
     |_=>False)
   |none=>False
  |false=>False
def pJ(O:Nat->eD)(xs:List SV):Array Value:=(xs.map (SV.den O)).toArray
abbrev Ext(w F:World):Prop:=RowKit.Below w.heap.size w F
structure FD(P:Program)(B:Nat)(g:Nat)(args:(Nat->eD)->Array Value)(H:Hp)(nx:Nat)(iv:Iv)(w:World)(FS:SV->Hp->Iv->World->Prop):Prop where
 h:∀O J,Rel H nx iv B w O J->eH P g (args O) J (λe F=>∃v H' A,e= .returned v/\Rel H' nx A B F O F/\FS (.o (.v v)) H' A F)
structure Ey(P:Program)(B:Nat)(g:Nat)(args:(Nat->eD)->Array Value)(H:Hp)(nx:Nat)(iv:Iv)(w:World)(FS:SV->Hp->Iv->World->Prop):Prop where
 h:∀O J,Rel H nx iv B w O J->eH P g (args O) J (λe F=>∃v,e= .returned v/\Ext J F/\FS (.o (.v v)) H ((J.heap.size,F.heap.size)::iv) F)
def LO(dr:Bool)(P:Program)(B:Nat)(g:Nat)(args:(Nat->eD)->Array Value)(H:Hp)(nx:Nat)(iv:Iv)(w:World)(FS:SV->Hp->Iv->World->Prop):Prop:=
 match dr with
 |true=>Ey P B g args H nx iv w FS
 |false=>FD P B g args H nx iv w FS
structure yz(P:Program)(B:Nat)(o:Oper)(l:Env)(H:Hp)(nx:Nat)(iv:Iv)(w:World)(FS:SV->Hp->Nat->Iv->World->Prop):Prop where
 h:∀(O:Nat->eD) J (e:Operand->Value),Rel H nx iv B w O J->(∀x v,ev l x=some v->e x=v.den O)->
  ∃v F A,((execOp e o).run P J= .ok (.value v) F\/((execOp e o).run P J= .ok .skip F/\v=undef))/\Rel H nx A B F O F/\FS (.o (.v v)) H nx A F
def fbK(dr:Bool)(P:Program)(B:Nat)(o:Oper)(l:Env)(H:Hp)(nx:Nat)(iv:Iv)(w:World)(FS:SV->Hp->Nat->Iv->World->Prop):Prop:=
 match dr with
 |true=>False
 |false=>yz P B o l H nx iv w FS
structure OpG(P:Program)(B:Nat)(o:Oper)(l:Env)(H:Hp)(nx:Nat)(iv:Iv)(w:World)(FS:SV->Hp->Nat->Iv->World->Prop):Prop where
 h:∀(O:Nat->eD) J (e:Operand->Value),Rel H nx iv B w O J->(∀x v,ev l x=some v->e x=v.den O)->
  ∃F w3 H' A,(execOp e o).run P J= .ok .skip w3/\Rel H' nx A B F O w3/\FS (.o (.v undef)) H' nx A F
def gbK(dr:Bool)(P:Program)(B:Nat)(o:Oper)(l:Env)(H:Hp)(nx:Nat)(iv:Iv)(w:World)(FS:SV->Hp->Nat->Iv->World->Prop):Prop:=
 match dr with
 |true=>False
 |false=>OpG P B o l H nx iv w FS
structure OpA(P:Program)(B:Nat)(o:Oper)(l:Env)(H:Hp)(nx:Nat)(iv:Iv)(w:World)(FS:SV->Hp->Nat->Iv->World->Prop):Prop where
 h:∀(O:Nat->eD) J (e:Operand->Value),Rel H nx iv B w O J->(∀x v,ev l x=some v->e x=v.den O)->
  ∃v H' Pv A F' F w3,(execOp e o).run P J= .ok (.value (SV.den F' v)) w3/\Rel H' Pv A B F F' w3/\v.sc Pv/\nx<=Pv/\(∀id,id<nx->O id=F' id)/\FS v H' Pv A F
def gaK(dr:Bool)(P:Program)(B:Nat)(o:Oper)(l:Env)(H:Hp)(nx:Nat)(iv:Iv)(w:World)(FS:SV->Hp->Nat->Iv->World->Prop):Prop:=
 match dr with
 |true=>False
 |false=>OpA P B o l H nx iv w FS
def aAZ(H:Hp):SV->Bool
 | .o (.s id _ _ _)=>match dT H id with
  |some (.box _ [.s _ _ _ _])=>true
  |some (.box _ [.w _ _])=>true
  |_=>false
 |_=>false
def OZ(H:Hp):SV->SV->Bool
 | .o (.p id _),.o (.s _ _ _ _)=>match dT H id with
  |some (.arr _ _)=>true
  |_=>false
 |_,_=>false
def pN:List SV->(List Nat->Prop)->Prop
 |[],k=>k []
 | .o (.p id 0)::r,k=>pN r (λl=>k (id::l))
 |_::_,_=>False
def zV(dr:Bool)(P:Program)(τ:nO)(B:Nat)(o:Oper)(l:Env)(H:Hp)(nx:Nat)(iv:Iv)(w:World)(FS:SV->Hp->Nat->Iv->World->Prop):Prop:=
 match o.op with
 | .move x=>qp l x (λv=>FS v H nx iv w)
 | .assign x=>qp l x (λv=>FS v H nx iv w)
 | .pick c a b=>qp l c (λv=>match v with
  | .o (.v (.bool t))=>wj t (qp l a (λv=>FS v H nx iv w)) (qp l b (λv=>FS v H nx iv w))
  |_=>False)
 | .alloc t=>match τ t with
  |some ⟨_,_,_,ze,_,_,_,_,_⟩=>qu ze (λcs=>Bw (.box t cs) H nx (λH' Pv=>FS (.o (.p nx 0)) H' Pv iv w))
  |none=>False
 | .box t x=>qp l x (λv=>zT v (λcs=>Bw (.box t cs) H nx (λH' Pv=>FS (.o (.p nx 0)) H' Pv iv w)))
 | .build t parts=>match τ t with
  |some ⟨_,_,_,ze,tag,_,e,_,fs⟩=>match Nat.beq tag 5 with
   |true=>qu ze (λz=>wm l (λi k=>rD τ fs i (λoff sz _=>k off sz)) parts.toList z (λcs=>FS (.a cs) H nx iv w))
   |false=>match Nat.beq tag 6 with
    |true=>match τ e with
     |some ⟨sz,_,_,_,_,_,_,_,_⟩=>qu ze (λz=>wm l (λi k=>k (i*sz) sz) parts.toList z (λcs=>FS (.a cs) H nx iv w))
     |none=>False
    |false=>False
  |none=>False
 | .buildSlice t n parts=>match τ t with
  |some ⟨_,_,_,_,tag,_,e,_,_⟩=>match Nat.beq tag 4 with
   |true=>match τ e with
    |some ⟨sz,_,_,ze,_,_,_,_,_⟩=>match Nat.ble (n*sz) 16777216 with
     |true=>qu (List.replicate n ze).flatten (λz=>wm l (λi k=>k (i*sz) sz) parts.toList z (λcs=>
       Bw (.box e cs) H nx (λH' Pv=>FS (.o (.s nx 0 n n)) H' Pv iv w)))
     |false=>False
    |none=>False
   |false=>False
  |none=>False
 | .load t a=>qp l a (λv=>Cg τ B t v H nx iv w (λr=>FS r H nx iv w))
 | .store t a x=>qp l a (λva=>qp l x (λvx=>match OZ H va vx with
  |true=>gbK dr P B o l H nx iv w FS
  |false=>HM τ B t va vx H nx iv w (λH' J=>FS (.o (.v undef)) H' nx iv J)))
 | .nilCheck x=>qp l x (λv=>match v with
  | .o (.p id off)=>FS (.o (.p id off)) H nx iv w
  | .o (.v (.pointer (some ad)))=>FS (.o (.v (.pointer (some ad)))) H nx iv w
  | .o (.fn f ids)=>FS (.o (.fn f ids)) H nx iv w
  | .o (.v (.func (.func f) fi ca))=>FS (.o (.v (.func (.func f) fi ca))) H nx iv w
  |_=>False)
 | .binOp op t x y _=>qp l x (λvx=>qp l y (λvy=>PC P τ op t vx vy (λr=>FS r H nx iv w)))
 | .unOp op _ x=>qp l x (λv=>match op,v with
  | .not,.o (.v (.bool b))=>FS (.o (.v (.bool (!b)))) H nx iv w
  | .neg,.o (.v (.int k n))=>∃r,k.wrap (0-n)=r/\FS (.o (.v (.int k r))) H nx iv w
  | .xor,.o (.v (.int k n))=>∃r,k.wrap ((BitVec.ofInt k.bits (if k.signed then -1 else k.max) ^^^ BitVec.ofInt k.bits n).toNat:Int)=r/\FS (.o (.v (.int k r))) H nx iv w
  |_,_=>False)
 | .convert sr d x=>match τ sr with
  |some _=>qp l x (λv=>match τ d with
   |some ⟨_,_,_,_,tag,ik,_,_,_⟩=>match Nat.beq tag 1 with
    |true=>match v with
     | .o (.v (.int _ n))=>∃r,ik.wrap n=r/\FS (.o (.v (.int ik r))) H nx iv w
     |_=>False
    |false=>fbK dr P B o l H nx iv w FS
   |none=>False)
  |none=>False
 | .makeFunc (.func f) ⟨first⟩ caps=>match first with
  |[]=>LG l caps.toList (λvs=>pN vs (λids=>FS (.o (.fn f ids)) H nx iv w))
  |_=>False
 | .makeSlice t x y=>qp l x (λvx=>qp l y (λvy=>IX τ t vx vy H nx (λv H' Pv=>FS v H' Pv iv w)))
 | .slice t x lo R none=>qp l x (λv=>HO τ H t v l lo R (λr=>FS r H nx iv w))
 | .slice t x (some lo) (some R) (some mx)=>qp l x (λv=>Dd τ t v l lo R mx (λr=>FS r H nx iv w))
 | .fieldAddr t x f=>match τ t with
  |some ⟨_,_,_,_,tag,_,_,_,fs⟩=>match Nat.beq tag 5 with
   |true=>rD τ fs f (λoff _ _=>qp l x (λv=>zA v off (λr=>FS r H nx iv w)))
   |false=>False
  |none=>False
 | .field t x f=>match τ t with
  |some ⟨_,_,_,_,tag,_,_,_,fs⟩=>match Nat.beq tag 5 with
   |true=>rD τ fs f (λoff sz ag=>qp l x (λv=>match v with
    | .o (.v (.agg ⟨vs⟩))=>qu vs (λcs=>match ag with
     |true=>uo cs off (λr=>uq r sz (λc=>FS (.a c) H nx iv w))
     |false=>match Db cs off with
      |some c=>FS (.o c) H nx iv w
      |none=>False)
    | .a cs=>match ag with
     |true=>uo cs off (λr=>uq r sz (λc=>FS (.a c) H nx iv w))
     |false=>match Db cs off with
      |some c=>FS (.o c) H nx iv w
      |none=>False
    |_=>False))
   |false=>False
  |none=>False
 | .indexAddr t x i=>qp l x (λvx=>qp l i (λvi=>HN τ H t vx vi (λr=>FS r H nx iv w)))
 | .extract x i=>qp l x (λv=>match v with
  | .o (.v (.tuple ⟨vs⟩))=>match Jd vs i with
   |some u=>FS (.o (.v u)) H nx iv w
   |none=>False
  |_=>False)
 | .call ⟨.builtin .len,⟨[x]⟩,⟨[t]⟩⟩=>qp l x (λv=>PD τ H t v (λn=>FS (.o (.v (.int .i64 n))) H nx iv w))
 | .call ⟨.builtin .append,⟨[x,y]⟩,⟨[t,u]⟩⟩=>match Nat.beq t u with
  |true=>qp l x (λvx=>qp l y (λvy=>match aAZ H vy with
   |true=>gaK dr P B o l H nx iv w FS
   |false=>zB τ B t vx vy H nx iv w (λv H' Pv=>FS v H' Pv iv w)\/yz P B o l H nx iv w FS))
  |false=>yz P B o l H nx iv w FS
 | .call ⟨.builtin .max,⟨[x,y]⟩,_⟩=>qp l x (λvx=>qp l y (λvy=>match vx,vy with
  | .o (.v (.int k a)),.o (.v (.int k' b))=>match rB k k' with
   |true=>FS (.o (.v (.int k (max a b)))) H nx iv w
   |false=>False
  |_,_=>False))
 | .call ⟨.builtin .min,⟨[x,y]⟩,_⟩=>qp l x (λvx=>qp l y (λvy=>match vx,vy with
  | .o (.v (.int k a)),.o (.v (.int k' b))=>match rB k k' with
   |true=>FS (.o (.v (.int k (min a b)))) H nx iv w
   |false=>False
  |_,_=>False))
 | .call ⟨.builtin .copy,_,_⟩=>yz P B o l H nx iv w FS
 | .call ⟨.builtin .clear,_,_⟩=>yz P B o l H nx iv w FS
 | .call ⟨.builtin .cap,_,_⟩=>yz P B o l H nx iv w FS
 | .index _ _ _=>yz P B o l H nx iv w FS
 | .makeMap _ _=>yz P B o l H nx iv w FS
 | .lookup _ _ _ _=>yz P B o l H nx iv w FS
 | .mapUpdate _ _ _ _=>yz P B o l H nx iv w FS
 | .call ⟨.value f,⟨args⟩,_⟩=>qp l f (λvf=>LG l args (λvs=>match vf with
   | .o (.v (.func (.func g) first caps))=>LO dr P B g (λO=>first++pJ O vs++caps) H nx iv w (λv H' A J=>FS v H' nx A J)
   | .o (.fn g ids)=>LO dr P B g (λO=>pJ O vs++(ids.map λid=>Value.pointer (some ⟨(O id).g,0,none⟩)).toArray) H nx iv w (λv H' A J=>FS v H' nx A J)
   |_=>False))
 |_=>False
def Ch:List Oper->Nat->Option Tmp
 |[],_=>none
 |o::_,0=>o.dst
 |_::r,n+1=>Ch r n
def Ev(d:Option Tmp)(v:SV)(l:Env)(k:Env->Prop):Prop:=match d with
 |some t=>k ((t,v)::l)
 |none=>k l
def uv(all:List Oper)(g:Option (Nat×Bool))(l:Env)(yes no:Env->Prop):Prop:=
 match g with
 |none=>yes l
 |some (j,want)=>match Ch all j with
  |none=>no l
  |some d=>match fj l d with
   |some (.o (.v (.bool b)))=>match want with
    |true=>wj b (yes ((d,.o (.v (.bool true)))::l)) (no ((d,.o (.v (.bool false)))::l))
    |false=>wj b (no ((d,.o (.v (.bool true)))::l)) (yes ((d,.o (.v (.bool false)))::l))
   |some (.o (.v (.tuple _)))=>no l
   |_=>False
def kO(dr:Bool)(P:Program)(τ:nO)(B:Nat)(all:List Oper)(o:Oper)(l:Env)(H:Hp)(nx:Nat)(iv:Iv)(w:World)(k:Env->Hp->Nat->Iv->World->Prop):Prop:=
 uv all o.guard l
  (λl=>zV dr P τ B o l H nx iv w (λv H' Pv A J=>Ev o.dst v l (λl'=>k l' H' Pv A J)))
  (λl=>Ev o.dst (.o (.v undef)) l (λl'=>k l' H nx iv w))
def xj(P:Program)(τ:nO)(B:Nat)(all:List Oper):List Oper->Env->Hp->Nat->Iv->World->(Env->Hp->Nat->Iv->World->Prop)->Prop
 |[],l,H,nx,iv,w,FS=>FS l H nx iv w
 |o::r,l,H,nx,iv,w,FS=>kO false P τ B all o l H nx iv w (λl' H' Pv A J=>xj P τ B all r l' H' Pv A J FS)
inductive Ex where
 |normal
 |exit (id:Nat)
 |ret
structure Sat(n:Nat)(l:Env)(H:Hp)(nx:Nat)(iv:Iv)(B:Nat)(w:World)(O:Nat->eD)(a:Act)(J:World):Prop where
 rel:Rel H nx iv B w O J
 size:a.tmps.size=n
 defers:a.defers=[]
 env:∀t v,fj l t=some v->a.tmps[t]? =some (v.den O)
 sc:∀t v,fj l t=some v->v.sc nx
abbrev KT:=Env->Hp->Nat->Iv->World->Prop
structure pM(P:Program)(B:Nat)(ops:Array Oper)(l:Env)(H:Hp)(nx:Nat)(iv:Iv)(w:World)(FS:KT):Prop where
 h:∀n O a J,ops.toList.all (λo=>match o.dst with
   |some d=>Nat.blt d n
   |none=>true)=true->Sat n l H nx iv B w O a J->
  ∀Q:Exit->Act->World->Prop,(∀l' H' Pv A F F' a' w'',FS l' H' Pv A F->Sat n l' H' Pv A B F F' a' w''->Q .normal a' w'')->
  ∀id,(Code.region id ops true).wp P Q a J
structure FG where
 l:Env
 H:Hp
 nx:Nat
 iv:Iv
 w:World
def Sub(B:Nat)(l:Env)(_nx:Nat)(O:Nat->eD)(J:World)(t:FG):Prop:=
 ∃F',Rel t.H t.nx t.iv B t.w F' J/\(∀u v,fj t.l u=some v->v.sc t.nx/\∃v0,fj l u=some v0/\v0.den O=v.den F')
def jn(P:Program)(τ:nO)(B:Nat):Code->Env->Hp->Nat->Iv->World->(Ex->KT)->Prop
 | .skip,l,H,nx,iv,w,Q=>Q .normal l H nx iv w
 | .region _ ops false,l,H,nx,iv,w,Q=>xj P τ B ops.toList ops.toList l H nx iv w (Q .normal)
 | .region _ ops true,l,H,nx,iv,w,Q=>pM P B ops l H nx iv w (Q .normal)
 | .seq a b,l,H,nx,iv,w,Q=>jn P τ B a l H nx iv w (λe l H nx iv w=>match e with
  | .normal=>jn P τ B b l H nx iv w Q
  | .exit id=>Q (.exit id) l H nx iv w
  | .ret=>Q .ret l H nx iv w)
 | .cond c a b,l,H,nx,iv,w,Q=>qp l c (λv=>match v with
  | .o (.v (.bool t))=>wj t (jn P τ B a l H nx iv w Q) (jn P τ B b l H nx iv w Q)
  |_=>False)
 | .block id c,l,H,nx,iv,w,Q=>jn P τ B c l H nx iv w (λe l H nx iv w=>match e with
  | .normal=>Q .normal l H nx iv w
  | .exit id'=>match Nat.beq id' id with
   |true=>Q .normal l H nx iv w
   |false=>Q (.exit id') l H nx iv w
  | .ret=>Q .ret l H nx iv w)
 | .loop c,l,H,nx,iv,w,Q=>∃(α:Type) (st:α->FG) (μ:α->Nat) (E8:α->Prop),
   (∀O J,Rel H nx iv B w O J->∃x,E8 x/\Sub B l nx O J (st x))/\
   ∀x,E8 x->jn P τ B c (st x).l (st x).H (st x).nx (st x).iv (st x).w (λe l H nx iv w=>match e with
    | .normal=>∀O J,Rel H nx iv B w O J->∃y,E8 y/\Sub B l nx O J (st y)/\μ y<μ x
    | .exit id=>Q (.exit id) l H nx iv w
    | .ret=>Q .ret l H nx iv w)
 | .exit id,l,H,nx,iv,w,Q=>Q (.exit id) l H nx iv w
 | .ret,l,H,nx,iv,w,Q=>Q .ret l H nx iv w
 |_,_,_,_,_,_,_=>False
structure HL(P:Program)(t:Nat)(i:TI):Prop where
 info:∃inf z,P.info? t=some inf/\inf.size=i.size/\inf.bytes=i.bytes/\inf.zero=some z/\z.cells.toList=i.zero
 FB:i.zero.length=i.size
 aAY:∀x∈i.zero,x.oneCell'=true
 agg:∃d,P.underlying t=some d/\(match d with| .struct _| .array _ _=>true|_=>false)=i.agg
 i1:i.tag=1->P.underlying t=some (.int i.ik)
 i2:i.tag=2->P.underlying t=some .bool
 i3:i.tag=3->P.underlying t=some .string
 i4:i.tag=4->P.underlying t=some (.slice i.elem)
 i5:i.tag=5->∃fs,P.underlying t=some (.struct fs)/\fs.toList.map (λf=>(f.offset,f.type))=i.fields/\∀f∈fs.toList,(P.info? f.type).isSome=true
 i6:i.tag=6->P.underlying t=some (.array i.HE i.elem)
def fk(P:Program)(τ:nO):Prop:=∀t i,τ t=some i->HL P t i
def ed{a b:Nat}(h:Nat.beq a b=true):a=b:=bz h
def fo:∀{xs:List Value} {k:List At->Prop},qu xs k->k (xs.map At.v)
 |[],_,h=>h
 |x::r,k,h=>by
  have:=fo (xs:=r) (k:=λr'=>k (.v x::r')) h;simpa using this
def pQ:∀{cs:List At} {n:Nat} {k:List At->Prop},uo cs n k->k (cs.drop n)/\n<=cs.length
 |cs,0,k,h=>by cases cs<;>exact⟨by simpa [uo]using h,ce⟩
 |[],n+1,k,h=>by simp[uo]at h
 |x::t,n+1,k,h=>by
  have:=pQ (cs:=t) (n:=n) (k:=k) h;exact⟨by simpa using this.1,by simp;omega⟩
def pS:∀{cs:List At} {n:Nat} {k:List At->Prop},uq cs n k->k (cs.take n)/\n<=cs.length
 |cs,0,k,h=>by cases cs<;>exact⟨by simpa [uq]using h,ce⟩
 |[],n+1,k,h=>by simp[uq]at h
 |x::t,n+1,k,h=>by
  have:=pS (cs:=t) (n:=n) (k:=λr=>k (x::r)) h;exact⟨by simpa using this.1,by simp;omega⟩
def z8:∀{cs new:List At} {k:List At->Prop},CZ cs new k->k (new++cs.drop new.length)/\new.length<=cs.length
 |cs,[],k,h=>by cases cs<;>exact⟨by simpa [CZ]using h,ce⟩
 |[],x::r,k,h=>by simp[CZ]at h
 |_::t,x::r,k,h=>by
  have:=z8 (cs:=t) (new:=r) (k:=λt'=>k (x::t')) h;exact⟨by simpa using this.1,by simp;omega⟩
def pU:∀{cs:List At} {off:Nat} {new:List At} {k:List At->Prop},sd cs off new k->
  k (cs.take off++new++cs.drop (off+new.length))/\off+new.length<=cs.length
 |cs,0,new,k,h=>by
  have h':CZ cs new k:=by cases cs<;>simpa [sd]using h
  have:=z8 h';exact⟨by simpa using this.1,be⟩
 |[],n+1,new,k,h=>by simp[sd]at h
 |x::t,n+1,new,k,h=>by
  have:=pU (cs:=t) (off:=n) (new:=new) (k:=λt'=>k (x::t')) h;refine⟨?_,by simp;omega⟩;have I:=this.1;rw[show n+1+new.length=(n+new.length)+1 by omega];simpa using I
def one_den{x:At}(h:x.one=true)(O:Nat->eD):(x.den O).oneCell'=true:=by
 cases x with
 |v y=>cases y<;>simp_all [At.one,At.den,Value.oneCell']
 |w id n=>simp only[At.den];split<;>rfl
 |_=>rfl
def za:∀{cs:List At} {k:Prop},IS cs k->k/\∀c∈cs,At.one c=true
 |[],k,h=>⟨h,ce⟩
 |x::r,k,h=>by
  unfold IS at h;split at h
  .rename_i Z;have:=za h;exact⟨this.1,by simp[Z];exact this.2⟩
  .exact h.elim
def mZ:∀{cs:List At} {k:List Value->Prop},yT cs k->∃vs,k vs/\cs=vs.map At.v/\∀v∈vs,v.oneCell'=true
 |[],k,h=>⟨[],h,rfl,ce⟩
 | .v x::r,k,h=>by
  unfold yT at h;split at h
  .rename_i Z;obtain⟨vs,Y,I,h3⟩:=mZ h;exact⟨x::vs,Y,by simp[I],by simp;exact⟨one_den Z (λ_=>⟨0,0,false⟩),h3⟩⟩
  .exact h.elim
 | .p _ _::_,k,h=>by simp[yT]at h
 | .s _ _ _ _::_,k,h=>by simp[yT]at h
 | .w _ _::_,k,h=>by simp[yT]at h
 | .fn _ _::_,k,h=>by simp[yT]at h
def nU{x:SV}{k:List At->Prop}(h:zT x k):∃cs,k cs/\(∀O,(x.den O).cells=(cs.map (At.den O)).toArray)/\(∀n,x.sc n->∀c∈cs,c.sc n):=by
 cases x with
 |a cs=>exact⟨cs,h,λO=>rfl,λn E=>E⟩
 |o y=>
  cases y with
  |v z=>
   cases z with
   |agg arr=>
    obtain⟨l⟩:=arr;refine⟨_,fo h,λO=>?_,λn _ c hc=>?_⟩
    .simp[SV.den,At.den,Value.cells,Function.comp_def]
    .simp at hc;obtain⟨v,_,rfl⟩:=hc;trivial
   |tuple arr=>simp[zT]at h
   |_=>exact⟨_,h,λO=>rfl,λn _ c hc=>by simp at hc;subst hc;trivial⟩
  |w id n=>exact⟨_,h,λO=>by simp only[SV.den,At.den,List.map];split<;>rfl,λn E c hc=>by simp at hc;subst hc;exact E⟩
  |_=>exact⟨_,h,λO=>rfl,λn E c hc=>by simp at hc;subst hc;exact E⟩
def db(t:Nat)(b:jX)(r:Hp)(u:Nat):dT ((t,b)::r) u=if t=u then some b else dT r u:=by
 show(match Nat.beq t u with|true=>some b|false=>dT r u)=_;split
 .rename_i h;rw[aM (ed h)]
 .rename_i h;rw[aJ (λe=>by subst e;rw[Nat.beq_refl]at h;cases h)]
def ep(t:Nat)(b:SV)(r:Env)(u:Nat):fj ((t,b)::r) u=if t=u then some b else fj r u:=by
 show(match Nat.beq t u with|true=>some b|false=>fj r u)=_;split
 .rename_i h;rw[aM (ed h)]
 .rename_i h;rw[aJ (λe=>by subst e;rw[Nat.beq_refl]at h;cases h)]
def sh:∀{H:Hp} {id:Nat} {b:jX} {k:Hp->Prop},HD H id b k->∃H',k H'/\(∀j,dT H' j=if j=id then some b else dT H j)/\(dT H id).isSome=true
 |[],id,b,k,h=>by simp[HD]at h
 |(t,v)::r,id,b,k,h=>by
  unfold HD at h;split at h
  .rename_i ht;have:=ed ht;subst this;refine⟨_,h,λj=>?_,by simp[db]⟩;simp only[db]
   by_cases e:t=j
   .simp[e]
   .simp[e,Ne.symm e]
  .rename_i ht;have Po:t≠id:=λe=>by subst e;rw[Nat.beq_refl]at ht;cases ht
   obtain⟨H',Y,I,h3⟩:=sh h;refine⟨_,Y,λj=>?_,by simp[db,Po,h3]⟩;simp only[db,I]
   by_cases e:t=j
   .subst e;simp[Po]
   .simp[e]
def uB:∀{H:Hp} {id:Nat} {k:Hp->Prop},CY H id k->∃H',k H'/\(∀j,dT H' j=if j=id then some .dead else dT H j)/\(dT H id).isSome=true
 |[],id,k,h=>by simp[CY]at h
 |(t,v)::r,id,k,h=>by
  unfold CY at h;split at h
  .rename_i ht;have:=ed ht;subst this;refine⟨_,h,λj=>?_,by simp[db]⟩;simp only[db]
   by_cases e:t=j
   .simp[e]
   .simp[e,Ne.symm e]
  .rename_i ht;have Po:t≠id:=λe=>by subst e;rw[Nat.beq_refl]at ht;cases ht
   obtain⟨H',Y,I,h3⟩:=uB h;refine⟨_,Y,λj=>?_,by simp[db,Po,h3]⟩;simp only[db,I]
   by_cases e:t=j
   .subst e;simp[Po]
   .simp[e]
def At.ma{x:At}{O F':Nat->eD}(h:∀id,id<n->O id=F' id)(Z:x.sc n):x.den O=x.den F':=by
 cases x with
 |v y=>rfl
 |p id off=>simp only[At.den,h id Z]
 |s id off len cap=>simp only[At.den,h id Z]
 |w id len=>simp only[At.den,h id Z]
 |fn f caps=>
  simp only[At.den]
  congr 2;exact List.map_congr_left λid RR=>by rw[h id (Z id RR)]
def SV.ma{x:SV}{O F':Nat->eD}(h:∀id,id<n->O id=F' id)(Z:x.sc n):x.den O=x.den F':=by
 cases x with
 |o y=>exact At.ma h Z
 |a cs=>
  simp only[SV.den]
  congr 2;exact List.map_congr_left λc hc=>At.ma h (Z c hc)
def At.vD{x:At}(h:n<=m)(Z:x.sc n):x.sc m:=by
 cases x with
 |v y=>trivial
 |fn f caps=>intro id RR;have:=Z id RR;omega
 |_=>simp only[At.sc]at *;omega
def SV.vD{x:SV}(h:n<=m)(Z:x.sc n):x.sc m:=by
 cases x with
 |o y=>exact At.vD h Z
 |a cs=>exact λc hc=>At.vD h (Z c hc)
def Rel.drew{H:Hp}{iv:Iv}{w:World}{O:Nat->eD}(r:Rel H nx iv B w O J):Rel H nx iv B w O J.drew:=
 ⟨r.os,r.tape,r.output,r.size,r.base,r.oB,r.keys,r.box,r.arr,r.vec,r.inj,r.low,r.D9,r.jJ,r.NP,r.nn⟩
def iy(O:Nat->eD)(nx:Nat)(v:eD):Nat->eD:=λj=>if j=nx then v else O j
def iU{O:Nat->eD}{v:eD}:∀id,id<nx->O id=iy O nx v id:=λid h=>by simp[iy,Nat.ne_of_lt h]
@[simp] theorem fX {O:Nat->eD} {nx:Nat} {v:eD}:iy O nx v nx=v:=by simp[iy]
def jX.fits(b:jX)(O:Nat->eD)(v:eD)(w:World):Prop:=
 match b with
 | .box t cs=>v.nil=false/\w.heap[v.g]? =some (.cells (cs.map (At.den O)).toArray t (0,0))
 | .arr t cs=>v.nil=false/\w.heap[v.g]? =some (.cells cs.toArray t (0,0))
 | .vec t size cs=>(v.nil=true/\cs=[])\/(v.nil=false/\∃spare:List Value,w.heap[v.g]? =some (.cells (cs++spare).toArray t (0,0))/\(cs++spare).length=v.cap*size/\v.cap<=maxLen)
 | .dead=>True
def jX.scopd(b:jX)(n:Nat):Prop:=match b with
 | .box _ cs=>∀x∈cs,At.sc n x
 |_=>True
def Rel.fits{H:Hp}{iv:Iv}{w:World}{O:Nat->eD}(r:Rel H nx iv B w O J){id:Nat}{b:jX}(h:dT H id=some b):b.fits O (O id) J:=by
 cases b with
 |box t cs=>exact⟨r.nn id _ h (by intros;simp) ce,r.box id t cs h⟩
 |arr t cs=>exact⟨r.nn id _ h (by intros;simp) ce,r.arr id t cs h⟩
 |vec t size cs=>exact r.vec id t size cs h
 |dead=>trivial
def Rel.mk'{H:Hp}{iv:Iv}{w:World}{O:Nat->eD}(os:J.os=w.os)(tape:J.tape=w.tape)(output:J.output=w.output)
  (size:w.heap.size<=J.heap.size) (base:B<=w.heap.size) (oB:∀lo R,(lo,R)∈iv->R<=w.heap.size) (keys:∀id b,dT H id=some b->id<nx)
  (fits:∀id b,dT H id=some b->b.fits O (O id) J) (NP:∀id b,dT H id=some b->b.scopd nx)
  (inj:∀id id' b b',dT H id=some b->dT H id'=some b'->b≠ .dead->b'≠ .dead->(O id).nil=false->(O id').nil=false->(O id).g=(O id').g->id=id')
  (low:∀id b,dT H id=some b->(O id).nil=false->B<=(O id).g/\(O id).g<J.heap.size)
  (D9:∀k,k<w.heap.size->(∀id b,dT H id=some b->(O id).nil=false->(O id).g≠k)->J.heap[k]? =w.heap[k]?)
  (jJ:∀lo R,(lo,R)∈iv->∀id b,dT H id=some b->(O id).nil=false->¬(lo<=(O id).g/\(O id).g<R)):Rel H nx iv B w O J where
 os:=os
 tape:=tape
 output:=output
 size:=size
 base:=base
 oB:=oB
 keys:=keys
 box:=λid t cs h=>(fits id _ h).2
 arr:=λid t cs h=>(fits id _ h).2
 vec:=λid t size cs h=>fits id _ h
 inj:=inj
 low:=low
 D9:=D9
 jJ:=jJ
 NP:=λid t cs h=>NP id _ h
 nn:=λid b h Y I=>by
  have:=fits id b h
  cases b with
  |box t cs=>exact this.1
  |arr t cs=>exact this.1
  |vec t size cs=>exact absurd rfl (Y t size cs)
  |dead=>exact absurd rfl I
def jX.iJ{b:jX}{O F':Nat->eD}{v:eD}{w:World}(h:b.fits O v w)(G8:∀id,id<n->O id=F' id)(hs:b.scopd n)
  (W:v.nil=false->b≠ .dead->J.heap[v.g]? =w.heap[v.g]?):b.fits F' v J:=by
 cases b with
 |box t cs=>
  obtain⟨Y,I⟩:=h;refine⟨Y,?_⟩;rw[W Y ce,I,List.map_congr_left λc hc=>At.ma G8 (hs c hc)]
 |arr t cs=>exact⟨h.1,by rw[W h.1 ce];exact h.2⟩
 |vec t size cs=>
  rcases h with h|⟨Y,spare,I,h3⟩
  .exact .inl h
  .exact .inr ⟨Y,spare,by rw[W Y ce];exact I,h3⟩
 |dead=>trivial
def jX.jx{b:jX}(h:n<=m)(N:b.scopd n):b.scopd m:=by
 cases b with
 |box t cs=>exact λc hc=>At.vD h (N c hc)
 |_=>trivial
def Rel.scopd{H:Hp}{iv:Iv}{w:World}{O:Nat->eD}(r:Rel H nx iv B w O J){id:Nat}{b:jX}(h:dT H id=some b):b.scopd nx:=by
 cases b with
 |box t cs=>exact r.NP id t cs h
 |_=>trivial
def Rel.push{H:Hp}{iv:Iv}{w:World}{O:Nat->eD}(r:Rel H nx iv B w O J)(b:jX)(v:eD)
  (os:F.os=J.os) (tape:F.tape=J.tape) (output:F.output=J.output) (size:J.heap.size<=F.heap.size) (old:∀k,k<J.heap.size->F.heap[k]? =J.heap[k]?)
  (hv:v.nil=false->J.heap.size<=v.g/\v.g<F.heap.size) (N:b.fits O v F) (hs:b.scopd nx):Rel ((nx,b)::H) (nx+1) iv B w (iy O nx v) F:=by
 have QU:∀id b,dT H id=some b->id≠nx:=λid b h=>Nat.ne_of_lt (r.keys id b h);have Ro:∀id b,dT H id=some b->iy O nx v id=O id:=λid b h=>by simp[iy,QU id b h]
 refine Rel.mk' (os.trans r.os) (tape.trans r.tape) (output.trans r.output) (aR r.size size) r.base r.oB ?_ ?_ ?_ ?_ ?_ ?_ ?_
 .intro id b' h;rw[db]at h;split at h
  .omega
  .have:=r.keys id b' h;omega
 .intro id b' h;rw[db]at h;split at h
  .rename_i e;subst e;injection h with h;subst h;rw[fX];exact jX.iJ N iU hs (λ_ _=>rfl)
  .rw[Ro id b' h];exact jX.iJ (r.fits h) iU (r.scopd h) (λY _=>old _ (r.low id b' h Y).2)
 .intro id b' h;rw[db]at h;split at h
  .injection h with h;subst h;exact jX.jx be hs
  .exact jX.jx be (r.scopd h)
 .intro id id' b1 b2 Y I d1 d2 n1 n2 e;rw[db]at Y I;split at Y<;>split at I
  .omega
  .rename_i e1 e2;subst e1;rw[fX]at e n1;rw[Ro id' b2 I]at e n2;have:=(r.low id' b2 I n2).2;have:=(hv n1).1;omega
  .rename_i e1 e2;subst e2;rw[fX]at e n2;rw[Ro id b1 Y]at e n1;have:=(r.low id b1 Y n1).2;have:=(hv n2).1;omega
  .rw[Ro id b1 Y]at e n1;rw[Ro id' b2 I]at e n2;exact r.inj id id' b1 b2 Y I d1 d2 n1 n2 e
 .intro id b' h n1;rw[db]at h;split at h
  .rename_i e;subst e;rw[fX]at n1 ⊢;have:=hv n1;have:=r.base;have:=r.size;omega
  .rw[Ro id b' h]at n1 ⊢;have:=r.low id b' h n1;omega
 .intro k K Po;rw[old k (by have:=r.size;omega)];refine r.D9 k K λid b' h n1=>?_;have:=Po id b' (by rw[db,aJ (Ne.symm (QU id b' h))];exact h) (by rw[Ro id b' h];exact n1)
  rwa [Ro id b' h]at this
 .intro lo R hm id b' h n1;rw[db]at h;split at h
  .rename_i e;subst e;rw[fX]at n1 ⊢;have:=hv n1;have:=r.oB lo R hm;have:=r.size;omega
  .rw[Ro id b' h]at n1 ⊢;exact r.jJ lo R hm id b' h n1
def Rel.store{H H':Hp}{iv:Iv}{w:World}{O:Nat->eD}(r:Rel H nx iv B w O J){id:Nat}{b b':jX}(RR:dT H id=some b)(hd:b≠ .dead)(E:(O id).nil=false)
  (hH:∀j,dT H' j=if j=id then some b' else dT H j)
  (os:F.os=J.os) (tape:F.tape=J.tape) (output:F.output=J.output) (size:F.heap.size=J.heap.size) (old:∀k,k≠(O id).g->F.heap[k]? =J.heap[k]?)
  (N:b'.fits O (O id) F) (hs:b'.scopd nx):Rel H' nx iv B w O F:=by
 have key:∀j c,dT H' j=some c->∃c',dT H j=some c':=λj c h=>by
  rw[hH]at h;split at h
  .rename_i e;subst e;exact⟨b,RR⟩
  .exact⟨c,h⟩
 refine Rel.mk' (os.trans r.os) (tape.trans r.tape) (output.trans r.output) (by rw[size];exact r.size) r.base r.oB ?_ ?_ ?_ ?_ ?_ ?_ ?_
 .intro j c h;obtain⟨c',h'⟩:=key j c h;exact r.keys j c' h'
 .intro j c h;rw[hH]at h;split at h
  .rename_i e;subst e;injection h with h;subst h;exact N
  .rename_i e;refine jX.iJ (r.fits h) (λ_ _=>rfl) (r.scopd h) (λY I=>old _ λe2=>e ?_);exact r.inj j id c b h RR I hd Y E e2
 .intro j c h;rw[hH]at h;split at h
  .injection h with h;subst h;exact hs
  .exact r.scopd h
 .intro j j' c c' Y I d1 d2 n1 n2 e;rw[hH]at Y I;have l1:∃c1,dT H j=some c1/\c1≠ .dead:=by
   split at Y
   .rename_i e1;subst e1;exact⟨b,RR,hd⟩
   .exact⟨c,Y,d1⟩
  have l2:∃c1,dT H j'=some c1/\c1≠ .dead:=by
   split at I
   .rename_i e1;subst e1;exact⟨b,RR,hd⟩
   .exact⟨c',I,d2⟩
  obtain⟨c1,g1,g2⟩:=l1;obtain⟨c2,g3,g4⟩:=l2;exact r.inj j j' c1 c2 g1 g3 g2 g4 n1 n2 e
 .intro j c h n1;obtain⟨c',h'⟩:=key j c h;rw[size];exact r.low j c' h' n1
 .intro k K Po;have hkg:k≠(O id).g:=λe=>Po id b' (by rw[hH];simp) E e.symm;rw[old k hkg];refine r.D9 k K λj c h n1=>?_;by_cases e:j=id
  .subst e;exact Ne.symm hkg
  .exact Po j c (by rw[hH,aJ e];exact h) n1
 .intro lo R hm j c h n1;obtain⟨c',h'⟩:=key j c h;exact r.jJ lo R hm j c' h' n1
def Rel.LQ{H H1:Hp}{iv:Iv}{w:World}{O:Nat->eD}(r:Rel H nx iv B w O J){id:Nat}{b0:jX}(RR:dT H id=some b0)(hd:b0≠ .dead)
  (hH:∀j,dT H1 j=if j=id then some .dead else dT H j) (b:jX) (v:eD)
  (os:F.os=J.os) (tape:F.tape=J.tape) (output:F.output=J.output) (size:J.heap.size<=F.heap.size)
  (old:∀k,k<J.heap.size->((O id).nil=false->k≠(O id).g)->F.heap[k]? =J.heap[k]?)
  (hv:v.nil=false->(J.heap.size<=v.g/\v.g<F.heap.size)\/((O id).nil=false/\v.g=(O id).g)) (N:b.fits O v F) (hs:b.scopd nx):Rel ((nx,b)::H1) (nx+1) iv B w (iy O nx v) F:=by
 have key:∀j c,dT H1 j=some c->∃c',dT H j=some c'/\(c≠ .dead->c'=c/\j≠id):=λj c h=>by
  rw[hH]at h;split at h
  .rename_i e;subst e;injection h with h;exact⟨b0,RR,λI=>absurd h.symm I⟩
  .rename_i e;exact⟨c,h,λ_=>⟨rfl,e⟩⟩
 have QU:∀j c,dT H1 j=some c->j≠nx:=λj c h=>by obtain⟨c',h',_⟩:=key j c h;exact Nat.ne_of_lt (r.keys j c' h')
 have Ro:∀j c,dT H1 j=some c->iy O nx v j=O j:=λj c h=>by simp[iy,QU j c h]
 have hidlt:=r.keys id b0 RR;have hvlow:v.nil=false->B<=v.g/\v.g<F.heap.size:=λE=>by
  rcases hv E with h|⟨Y,I⟩
  .have:=r.base;have:=r.size;omega
  .have:=r.low id b0 RR Y;omega
 refine Rel.mk' (os.trans r.os) (tape.trans r.tape) (output.trans r.output) (aR r.size size) r.base r.oB ?_ ?_ ?_ ?_ ?_ ?_ ?_
 .intro j b' h;rw[db]at h;split at h
  .omega
  .obtain⟨c',h',_⟩:=key j b' h;have:=r.keys j c' h';omega
 .intro j b' h;rw[db]at h;split at h
  .rename_i e;subst e;injection h with h;subst h;rw[fX];exact jX.iJ N iU hs (λ_ _=>rfl)
  .rw[Ro j b' h];by_cases UO:b'= .dead
   .subst UO;trivial
   .obtain⟨c',h',I⟩:=key j b' h;obtain⟨rfl,Po⟩:=I UO;exact jX.iJ (r.fits h') iU (r.scopd h') (λY _=>old _ (r.low j c' h' Y).2 λh3 e=>Po (r.inj j id c' b0 h' RR UO hd Y h3 e))
 .intro j b' h;rw[db]at h;split at h
  .injection h with h;subst h;exact jX.jx be hs
  .by_cases UO:b'= .dead
   .subst UO;trivial
   .obtain⟨c',h',I⟩:=key j b' h;obtain⟨rfl,Po⟩:=I UO;exact jX.jx be (r.scopd h')
 .have cross:∀j c,dT H1 j=some c->c≠ .dead->(O j).nil=false->v.nil=false->v.g≠(O j).g:=λj c h dd nj nv e=>by
   obtain⟨c',h',I⟩:=key j c h;obtain⟨rfl,Po⟩:=I dd;rcases hv nv with h3|⟨h3,h4⟩
   .have:=(r.low j c' h' nj).2;omega
   .exact Po (r.inj j id c' b0 h' RR dd hd nj h3 be)
  intro j j' b1 b2 Y I d1 d2 n1 n2 e;rw[db]at Y I;split at Y<;>split at I
  .omega
  .rename_i e1 e2;subst e1;rw[fX]at e n1;rw[Ro j' b2 I]at e n2;exact absurd e (cross j' b2 I d2 n2 n1)
  .rename_i e1 e2;subst e2;rw[fX]at e n2;rw[Ro j b1 Y]at e n1;exact absurd e.symm (cross j b1 Y d1 n1 n2)
  .rw[Ro j b1 Y]at e n1;rw[Ro j' b2 I]at e n2;obtain⟨c1,g1,k1⟩:=key j b1 Y;obtain⟨c2,g2,k2⟩:=key j' b2 I;obtain⟨rfl,_⟩:=k1 d1;obtain⟨rfl,_⟩:=k2 d2;exact r.inj j j' c1 c2 g1 g2 d1 d2 n1 n2 e
 .intro j b' h n1;rw[db]at h;split at h
  .rename_i e;subst e;rw[fX]at n1 ⊢;exact hvlow n1
  .rw[Ro j b' h]at n1 ⊢;obtain⟨c',h',_⟩:=key j b' h;have:=r.low j c' h' n1;omega
 .intro k K Po;have hkey:∀j c,dT H j=some c->(O j).nil=false->(O j).g≠k:=λj c h nj=>by
   have hj:dT H1 j=some (if j=id then .dead else c):=by rw[hH];split<;>simp[h]
   have:=Po j _ (by rw[db,aJ (Ne.symm (QU j _ hj))];exact hj) (by rw[Ro j _ hj];exact nj)
   rwa [Ro j _ hj]at this
  rw[old k (by have:=r.size;omega) (λh e=>hkey id b0 RR h e.symm)];exact r.D9 k K hkey
 .intro lo R hm j b' h n1;rw[db]at h;split at h
  .rename_i e;subst e;rw[fX]at n1 ⊢;rcases hv n1 with h3|⟨h3,h4⟩
   .have:=r.oB lo R hm;have:=r.size;omega
   .rw[h4];exact r.jJ lo R hm id b0 RR h3
  .rw[Ro j b' h]at n1 ⊢;obtain⟨c',h',_⟩:=key j b' h;exact r.jJ lo R hm j c' h' n1
section
variable{P:Program}{τ:nO}{B n nx:Nat}{l:Env}{H:Hp}{iv:Iv}{w J:World}{O:Nat->eD}{a:Act}
def vE(sat:Sat n l H nx iv B w O a J){x:Operand}{v:SV}(h:ev l x=some v):a.eval x=v.den O/\v.sc nx:=by
 cases x with
 |tmp t=>
  have Y:=sat.env t v h;exact⟨by simp[Act.eval,Y],sat.sc t v h⟩
 |const c=>simp[ev]at h;subst h;exact⟨rfl,trivial⟩
 |global g=>simp[ev]at h;subst h;exact⟨rfl,trivial⟩
 |func f=>simp[ev]at h;subst h;exact⟨rfl,trivial⟩
def dq(sat:Sat n l H nx iv B w O a J){x:Operand}{k:SV->Prop}(h:qp l x k):∃v,k v/\a.eval x=v.den O/\v.sc nx:=by
 unfold qp at h;split at h
 .rename_i v hv;exact⟨v,h,vE sat hv⟩
 .exact h.elim
def sf(sat:Sat n l H nx iv B w O a J):∀{xs:List Operand} {k:List SV->Prop},LG l xs k->∃vs,k vs/\xs.map a.eval=vs.map (SV.den O)/\∀v∈vs,SV.sc nx v
 |[],k,h=>⟨[],h,rfl,ce⟩
 |x::r,k,h=>by
  unfold LG at h;split at h
  .rename_i v hv;obtain⟨vs,Y,I,h3⟩:=sf sat (xs:=r) h;have:=vE sat hv;exact⟨v::vs,Y,by simp[this.1,I],by simp;exact⟨this.2,h3⟩⟩
  .exact h.elim
def oC{o:Oper}{a:Act}{w:World}{v:Value}(h:(execOp a.eval o).run P w= .ok (.value v) F)(K:next (a.put o.dst v) F):o.wp P a w next Q:=by
 unfold Oper.wp;rw[h];exact K
def LR{o:Oper}{a:Act}{w:World}(h:(execOp a.eval o).run P w= .ok .skip F)(K:next (a.put o.dst undef) F):o.wp P a w next Q:=by
 unfold Oper.wp;rw[h];exact K
def mm{s:Sem Value}{w:World}{v:Value}(h:s.run P w= .ok v F):((do pure (.value (<-s))):Sem Next).run P w= .ok (.value v) F:=by
 simp[h]
def HL.isAgg{t:Nat}{i:TI}(h:HL P t i)(w:World):(isAgg t).run P w= .ok i.agg w:=by
 obtain⟨d,Y,I⟩:=h.agg;unfold Go.isAgg;rw[Sem.run_bind,run_underlying Y w,<-I]
 cases d<;>rfl
def HL.sizeOf{t:Nat}{i:TI}(h:HL P t i)(w:World):(sizeOf t).run P w= .ok i.size w:=by
 obtain⟨inf,z,Y,I,_⟩:=h.info;simp[Go.sizeOf,typeInfo,Y,I]
def HL.zeroV{t:Nat}{i:TI}(h:HL P t i)(w:World):∃z,(zeroValue t).run P w= .ok z w/\z.cells.toList=i.zero:=by
 obtain⟨inf,z,Y,I,_,h4,h5⟩:=h.info;exact⟨z,by simp[zeroValue,typeInfo,Y,h4],h5⟩
def mP{t:Nat}{i:TI}(ht:HL P t i)(hagg:i.agg=false){w:World}{x:Value}(hc:w.cell? ad=some x):
  (Instr.loadAt t (.pointer (some ad))).run P w= .ok x w:=by
 simp[Instr.loadAt,Instr.sureAddr,loadVar,ht.isAgg,hagg,hc]
def kP{t:Nat}{i:TI}(ht:HL P t i)(hagg:i.agg=true){w:World}(hl:xs.length=i.size)(hc:∀j v,xs[j]? =some v->w.cell? (ad.add j)=some v):
  (Instr.loadAt t (.pointer (some ad))).run P w= .ok (.agg xs.toArray) w:=by
 have:=run_loadCells_list (P:=P) w ad xs hc;rw[hl]at this;simp[Instr.loadAt,Instr.sureAddr,loadVar,ht.isAgg,hagg,ht.sizeOf,this]
def dD(g off j:Nat):(⟨g,off,none⟩:Addr).add j=⟨g,off+j,none⟩:=by
 unfold Addr.add;split<;>simp_all
def wu:∀{cs:List At} {i:Nat},Db cs i=cs[i]?
 |[],i=>by simp[Db]
 |x::r,0=>by simp[Db]
 |x::r,i+1=>by simp[Db,wu (cs:=r)]
def Cj:∀{cs:List Value} {i:Nat},Jd cs i=cs[i]?
 |[],i=>by simp[Jd]
 |x::r,0=>by simp[Jd]
 |x::r,i+1=>by simp[Jd,Cj (cs:=r)]
def Ck:∀{cs:List (Nat×Nat)} {i:Nat},Je cs i=cs[i]?
 |[],i=>by simp[Je]
 |x::r,0=>by simp[Je]
 |x::r,i+1=>by simp[Je,Ck (cs:=r)]
def cell_of{w:World}{g t:Nat}(h:w.heap[g]? =some (.cells cs.toArray t (0,0))):w.cell? ⟨g,off,none⟩=cs[off]? :=by
 rw[cell_of_row w g off _ t (0,0) h];simp
def fm{O:Nat->eD}:(xs.map At.v).map (At.den O)=xs:=by
 simp[Function.comp_def,At.den]
def pV(hτ:fk P τ)(rel0:Rel H nx iv B w O J){t:Nat}{addr:SV}(hs:addr.sc nx){FS:SV->Prop}(h:Cg τ B t addr H nx iv w FS):
  ∃r,FS r/\r.sc nx/\∀J,Rel H nx iv B w O J->(Instr.loadAt t (addr.den O)).run P J= .ok (r.den O) J:=by
 unfold Cg at h;split at h
 .exact h.elim
 .rename_i sz ag by_ ze tag ik e al fs Rj;have ht:=hτ t _ Rj;split at h
  .rename_i id off;split at h
   .rename_i bt cs hH;split at h
    .split at h
     .rename_i x Z;rw[wu]at Z;refine⟨_,h,rel0.NP id bt cs hH x (aG Z),λJ rel=>?_⟩;have N:=rel.box id bt cs hH;exact mP ht rfl (by rw[cell_of N];simp[Z,SV.den])
     .exact h.elim
    .have Y:=pQ h;have I:=pS Y.1;refine⟨_,I.1,λc hc=>rel0.NP id bt cs hH c (List.mem_of_mem_drop (List.mem_of_mem_take hc)),λJ rel=>?_⟩;have N:=rel.box id bt cs hH;refine kP ht rfl (xs:=((cs.drop off).take sz).map (At.den O)) ?_ λj v hv=>?_
     .have:=I.2;simp only[aO,bI];omega
     .rw[dD,cell_of N];simp only[aS,List.getElem?_take,cD]at hv ⊢;split at hv
      .exact hv
      .simp at hv
   .rename_i bt cs hH;split at h
    .obtain⟨x,Z,h⟩:=h;exact⟨_,h,trivial,λJ rel=>mP ht rfl (by rw[cell_of (rel.arr id bt cs hH),Z];rfl)⟩
    .obtain⟨xs,Z,hl,h⟩:=h;refine⟨_,fo h,λc hc=>by simp at hc;obtain⟨v,_,rfl⟩:=hc;trivial,λJ rel=>?_⟩;have N:=rel.arr id bt cs hH;simp only[SV.den,fm]
     refine kP ht rfl hl λj v hv=>?_;rw[dD,cell_of N];rw[<-Z]at hv;simp only[List.getElem?_take,cD]at hv;split at hv
     .exact hv
     .simp at hv
   .rename_i bt ez cs hH;split at h
    .obtain⟨x,Z,h⟩:=h;refine⟨_,h,trivial,λJ rel=>?_⟩;have N:=rel.vec id bt ez cs hH;rcases N with⟨_,rfl⟩|⟨E,spare,N,_⟩
     .simp at Z
     .refine mP ht rfl ?_;rw[cell_of N];have:off<cs.length:=(aH.1 Z).1;rw[aN this,Z];rfl
    .obtain⟨xs,Z,hl,h⟩:=h;refine⟨_,fo h,λc hc=>by simp at hc;obtain⟨v,_,rfl⟩:=hc;trivial,λJ rel=>?_⟩;have N:=rel.vec id bt ez cs hH;simp only[SV.den,fm]
     rcases N with⟨_,rfl⟩|⟨E,spare,N,_⟩
     .have:xs=[]:=by rw[<-Z];simp
      subst this;refine kP ht rfl hl λj v hv=>by simp at hv
     .refine kP ht rfl hl λj v hv=>?_;rw[dD,cell_of N];rw[<-Z]at hv;simp only[List.getElem?_take,cD]at hv;split at hv
      .rw[aN (aH.1 hv).1];exact hv
      .simp at hv
   .exact h.elim
  .rename_i ad;split at h
   .obtain⟨x,Z,h⟩:=h;exact⟨_,h,trivial,λJ rel=>mP ht rfl (Z O J rel)⟩
   .obtain⟨xs,hl,Z,h⟩:=h;refine⟨_,fo h,λc hc=>by simp at hc;obtain⟨v,_,rfl⟩:=hc;trivial,λJ rel=>?_⟩;simp only[SV.den,fm]
    exact kP ht rfl hl λj v hv=>Z O J rel j v hv
  .exact h.elim
def oD{t:Nat}{i:TI}(ht:HL P t i){w:World}{g bt:Nat}(N:w.heap[g]? =some (.cells old.toArray bt (0,0))){v:Value}
  (hv:v.cells=new.toArray) (hl:new.length=i.size) (Y:∀x∈new,x.oneCell'=true) (RU:off+new.length<=old.length):
  (Instr.storeAt t (.pointer (some ⟨g,off,none⟩)) v).run P w= .ok () (w.setRow g (old.take off++new++old.drop (off+new.length)).toArray):=by
 have:=run_storeCells_at (P:=P) g off bt new 0 old.toArray w N (by simpa using RU) Y;simp only[cM]at this;simp[Instr.storeAt,Instr.sureAddr,storeVar,ht.sizeOf,hv,hl,this]
def jL:∀(vs:List Value) (w:World) (b off:Nat),setCells w ⟨b,off,none⟩ vs=w.setCells b off vs
 |[],_,_,_=>rfl
 |x::r,w,b,off=>by
  simp only[setCells,World.setCells,dD]
  exact jL r _ b (off+1)
def FH(hτ:fk P τ)(sat:Sat n l H nx iv B w O a J){t:Nat}{addr x:SV}(hs:addr.sc nx)(Z:x.sc nx){FS:Hp->World->Prop}(h:HM τ B t addr x H nx iv w FS):
  ∃H' F w3,FS H' F/\Rel H' nx iv B F O w3/\(Instr.storeAt t (addr.den O) (x.den O)).run P J= .ok () w3:=by
 unfold HM at h;split at h
 .exact h.elim
 rename_i sz ag by_ ze tag ik e al fs Rj;have ht:=hτ t _ Rj;have rel:=sat.rel;have h0:=nU h;clear h;obtain⟨new,h00,Q3,Tz⟩:=h0;have h0:=za h00;clear h00;obtain⟨h,Rx⟩:=h0;split at h
 .exact h.elim
 rename_i hlen;have hlen:=ed hlen;have Px:=Q3 O;have Tz:=Tz nx Z;have Y:∀v∈new.map (At.den O),v.oneCell'=true:=by
  intro v hv;simp at hv;obtain⟨c,hc,rfl⟩:=hv;exact one_den (Rx c hc) O
 have Qi:(new.map (At.den O)).length=sz:=by simpa using hlen
 split at h
 .rename_i id off;split at h
  .rename_i bt cs hH;have N:=rel.box id bt cs hH;obtain⟨hr,RU⟩:=pU h;obtain⟨H',hK,hH',_⟩:=sh hr;refine⟨H',w,_,hK,?_,oD ht (old:=cs.map (At.den O)) N Px Qi Y (by simp;omega)⟩;refine rel.store hH ce (rel.nn id _ hH (by intros;simp) ce) hH' rfl rfl rfl ce (λk K=>setRow_other _ _ _ _ K) ⟨rel.nn id _ hH (by intros;simp) ce,?_⟩ ?_
   .rw[setRow_heap _ _ _ _ _ _ N];simp[List.map_drop,List.map_take]
   .intro c hc;simp only[az]at hc;rcases hc with(hc|hc)|hc
    .exact rel.NP id bt cs hH c (List.mem_of_mem_take hc)
    .exact Tz c hc
    .exact rel.NP id bt cs hH c (List.mem_of_mem_drop hc)
  .rename_i bt cs hH;have N:=rel.arr id bt cs hH;obtain⟨nv,hr,TK,WS⟩:=mZ h;obtain⟨RU,cs',XO,hr⟩:=hr;obtain⟨H',hK,hH',_⟩:=sh hr;have Td:nv.length=sz:=by rw[TK]at hlen;simpa using hlen
   have Rc:(x.den O).cells=nv.toArray:=by rw[Px,TK,fm]
   refine⟨H',w,_,hK,?_,oD ht N Rc Td WS be⟩;refine rel.store hH ce (rel.nn id _ hH (by intros;simp) ce) hH' rfl rfl rfl ce (λk K=>setRow_other _ _ _ _ K) ⟨rel.nn id _ hH (by intros;simp) ce,?_⟩ trivial;rw[setRow_heap _ _ _ _ _ _ N,Td,XO]
  .rename_i bt ez cs hH;have N:=rel.vec id bt ez cs hH;obtain⟨nv,hr,TK,WS⟩:=mZ h;obtain⟨RU,cs',XO,hr⟩:=hr;obtain⟨H',hK,hH',_⟩:=sh hr;have Td:nv.length=sz:=by rw[TK]at hlen;simpa using hlen
   have Rc:(x.den O).cells=nv.toArray:=by rw[Px,TK,fm]
   rcases N with⟨QC,rfl⟩|⟨E,spare,N,UA,RE⟩
   ·
    have h0:sz=0:=by simp at RU;omega
    have hnv0:nv=[]:=by cases nv with|nil=>rfl|cons _ _=>simp at Td;omega
    subst hnv0;have:cs'=[]:=by rw[<-XO];simp
    subst this;refine⟨H',w,J,hK,?_,?_⟩
    .have ZU:∀j,dT H' j=dT H j:=λj=>by rw[hH'];split<;>simp_all
     exact Rel.mk' rel.os rel.tape rel.output rel.size rel.base rel.oB (λid b h=>rel.keys id b (by rw[<-ZU];exact h)) (λid b h=>rel.fits (by rw[<-ZU];exact h)) (λid b h=>rel.scopd (by rw[<-ZU];exact h))
      (λi j b b' Y I=>rel.inj i j b b' (by rw[<-ZU];exact Y) (by rw[<-ZU];exact I)) (λid b h=>rel.low id b (by rw[<-ZU];exact h))
      (λk K Po=>rel.D9 k K λid b h=>Po id b (by rw[ZU];exact h)) (λlo R hm id b h=>rel.jJ lo R hm id b (by rw[<-ZU];exact h))
    .subst h0;show(Instr.storeAt t (.pointer (some ⟨(O id).g,off,none⟩)) (x.den O)).run P J=_;generalize x.den O=xv at Rc ⊢;simp[Instr.storeAt,Instr.sureAddr,storeVar,ht.sizeOf,Rc,storeCells]
   .refine⟨H',w,_,hK,?_,oD ht N Rc Td WS (by simp;omega)⟩;refine rel.store hH ce E hH' rfl rfl rfl ce (λk K=>setRow_other _ _ _ _ K) (.inr ⟨E,spare,?_,?_,RE⟩) trivial
    .rw[setRow_heap _ _ _ _ _ _ N,<-XO,Td];congr 2;rw[List.take_append_of_le_length be,List.drop_append_of_le_length be];simp
    .rw[<-UA,<-XO];simp;omega
  .exact h.elim
 .rename_i ad;obtain⟨nv,hr,TK,WS⟩:=mZ h;obtain⟨ZV,QK,Po,hK⟩:=hr O J rel;have Td:nv.length=sz:=by rw[TK]at hlen;simpa using hlen
  have Rc:(x.den O).cells=nv.toArray:=by rw[Px,TK,fm]
  obtain⟨b,off,spot⟩:=ad;simp only at ZV Po;subst ZV;have RC:=run_storeCells_cells (P:=P) b off nv 0 J (λj hj=>by have:=(QK j be).1;rwa [dD]at this) (λj hj=>by have:=(QK j be).2;rwa [dD]at this) WS;have RM:∀k,k≠b->(J.setCells b off nv).heap[k]? =J.heap[k]? :=by
   intro k K;clear RC QK h hr hK TK WS Rc Td
   induction nv generalizing J off with
   |nil=>rfl
   |cons v r ih=>
    simp only[World.setCells]
    rw[show (∀(w0:World) (o:Nat),(w0.setCells b o r).heap[k]? =w0.heap[k]?)from ?_]
    .simp[World.setCell,Array.getElem?_modify,Ne.symm K]
    .clear ih;intro w0 o
     induction r generalizing w0 o with
     |nil=>rfl
     |cons v r ih=>simp only[World.setCells];rw[ih];simp[World.setCell,Array.getElem?_modify,Ne.symm K]
  have hfrm:(J.setCells b off nv).os=J.os/\(J.setCells b off nv).tape=J.tape/\(J.setCells b off nv).output=J.output/\(J.setCells b off nv).heap.size=J.heap.size:=by
   have:∀(vs:List Value) (w0:World) (o:Nat),(w0.setCells b o vs).os=w0.os/\(w0.setCells b o vs).tape=w0.tape/\(w0.setCells b o vs).output=w0.output/\(w0.setCells b o vs).heap.size=w0.heap.size:=by
    intro vs
    induction vs with
    |nil=>intro w0 o;exact⟨rfl,rfl,rfl,rfl⟩
    |cons v r ih=>intro w0 o;simp only[World.setCells];obtain⟨Y,I,h3,h4⟩:=ih (w0.setCell ⟨b,o,none⟩ v) (o+1);exact⟨Y,I,h3,by rw[h4];simp⟩
   exact this nv J off
  refine⟨H,_,J.setCells b off nv,hK _ rfl,?_,?_⟩
  .rw[jL];refine Rel.mk' rfl rfl rfl (ae _) (by rw[hfrm.2.2.2];have:=rel.base;have:=rel.size;omega) (λlo R hm=>by rw[hfrm.2.2.2];have:=rel.oB lo R hm;have:=rel.size;omega) rel.keys
    (λid b' h=>jX.iJ (rel.fits h) (λ_ _=>rfl) (rel.scopd h) (λQC _=>RM _ (Po id b' h QC))) (λid b' h=>rel.scopd h) rel.inj (λid b' h QC=>by rw[hfrm.2.2.2];exact rel.low id b' h QC) (λ_ _ _=>rfl) rel.jJ
  .show(Instr.storeAt t (.pointer (some ⟨b,off,none⟩)) (x.den O)).run P J=_;generalize x.den O=xv at Rc ⊢;simp at RC;simp[Instr.storeAt,Instr.sureAddr,storeVar,ht.sizeOf,Rc,Td,RC]
 .exact h.elim
end
def HQ(new:List Value):∀(k off:Nat) (cs:Array Value),off+k+new.length<=cs.size->
  ((new.zipIdx k).foldl (λcs (c,j)=>cs.setIfInBounds (off+j) c) cs).toList=cs.toList.take (off+k)++new++cs.toList.drop (off+k+new.length):=by
 induction new with
 |nil=>intro k off cs _;simp
 |cons x r ih=>
  intro k off cs h;simp only[bh]at h;rw[List.zipIdx_cons,List.foldl_cons,ih (k+1) off _ (by simp;omega)];have I:=list_seg_step cs.toList (off+k) x r (by simp;omega);simp only[Array.toList_setIfInBounds,bh]at I ⊢;rw[show off+(k+1)=off+k+1 by omega];exact I
def Jj{i:Nat}{v:Value}(hp:place i=some (off,size))
  (hv:v.cells=new.toArray) (hl:new.length=size) (RU:off+new.length<=cells.size):
  Instr.fill place cells ((i,v)::rest)=Instr.fill place (cells.toList.take off++new++cells.toList.drop (off+new.length)).toArray rest:=by
 have h:=HQ new 0 off cells be;have e:(v.cells.zipIdx.foldl (λcs (x:Value×Nat)=>cs.setIfInBounds (off+x.2) x.1) cells)=(cells.toList.take off++new++cells.toList.drop (off+new.length)).toArray:=by
  rw[hv,<-Array.foldl_toList];apply Array.ext';simpa using h
 conv=>lhs;unfold Instr.fill
 simp only[hp,hv,List.size_toArray,hl]
 rw[aJ (by simp;omega)];rw[hv]at e;rw[<-hl,<-e]
section
variable{P:Program}{τ:nO}{B n nx:Nat}{l:Env}{H:Hp}{iv:Iv}{w J:World}{O:Nat->eD}{a:Act}
def lI(sat:Sat n l H nx iv B w O a J){place:Nat->(Nat->Nat->Prop)->Prop}{placeF:Nat->Option (Nat×Nat)}
  (hp:∀i k,place i k->∃off size,k off size/\placeF i=some (off,size)):∀{parts:List (Nat×Operand)} {cs:List At} {k:List At->Prop},
  wm l place parts cs k->(∀c∈cs,At.sc nx c)->∃cs',k cs'/\(∀c∈cs',At.sc nx c)/\cs'.length=cs.length/\
   Instr.fill placeF (cs.map (At.den O)).toArray (parts.map λp=>(p.1,a.eval p.2))=some (cs'.map (At.den O)).toArray
 |[],cs,k,h,hs=>⟨cs,h,hs,rfl,by simp[Instr.fill]⟩
 |(i,x)::r,cs,k,h,hs=>by
  unfold wm at h;obtain⟨off,size,Y,QL⟩:=hp i _ h;obtain⟨v,I,hv,Rq⟩:=dq sat Y;obtain⟨new,h3,Q3,Tz⟩:=nU I;split at h3
  .rename_i hlen;have hlen:=ed hlen;obtain⟨h4,RU⟩:=pU h3
   obtain⟨cs',h5,h6,h7,h8⟩:=lI sat hp h4 (by
    intro c hc;simp only[az]at hc;rcases hc with(hc|hc)|hc
    .exact hs c (List.mem_of_mem_take hc)
    .exact Tz nx Rq c hc
    .exact hs c (List.mem_of_mem_drop hc))
   refine⟨cs',h5,h6,by rw[h7];simp;omega,?_⟩;have hc:=Q3 O;rw[List.map_cons,Jj (new:=new.map (At.den O)) QL (by show(a.eval x).cells=_;rw[hv];exact hc) (by simpa using hlen) (by simpa using RU),<-h8];simp[List.map_drop,List.map_take]
  .exact h3.elim
def oE(hτ:fk P τ){f:Nat}{k:Nat->Nat->Bool->Prop}(h:rD τ fs f k):
  ∃off ft fi,k off fi.size fi.agg/\fs[f]? =some (off,ft)/\HL P ft fi/\fi.size≠0:=by
 unfold rD at h;split at h
 .rename_i off ft hf;rw[Ck]at hf;split at h
  .rename_i sz ag by_ ze tag ik e al fs' Rj;split at h
   .exact h.elim
   .rename_i QG;exact⟨off,ft,_,h,hf,hτ ft _ Rj,λe=>by simp at e;subst e;simp at QG⟩
  .exact h.elim
 .exact h.elim
def zb{t:Nat}{i:TI}(h:HL P t i)(h5:i.tag=5){f ft:Nat}(hf:i.fields[f]? =some (off,ft)):
  ∃fs fd,P.underlying t=some (.struct fs)/\fs[f]? =some fd/\fd.offset=off/\fd.type=ft:=by
 obtain⟨fs,Y,I,_⟩:=h.i5 h5;rw[<-I]at hf;simp only[aS,Option.map_eq_some_iff]at hf;obtain⟨fd,Qx,L⟩:=hf;injection L with e1 e2;exact⟨fs,fd,Y,by simpa using Qx,e1,e2⟩
def FI{t:Nat}{i:TI}(h:HL P t i)(h5:i.tag=5){f ft:Nat}{fi:TI}(hf:i.fields[f]? =some (off,ft))(XP:HL P ft fi)(QG:fi.size≠0)(ad:Addr)(w:World):
  (Instr.fieldAt t (.pointer (some ad)) f).run P w= .ok (.pointer (some (ad.add off))) w:=by
 obtain⟨fs,fd,Y,I,rfl,rfl⟩:=zb h h5 hf;simp[Instr.fieldAt,run_underlying Y,I,Instr.sureAddr,fieldPlace,XP.sizeOf,QG]
def vF{x:SV}{FS:SV->Prop}(h:zA x m FS)(Z:x.sc nx):∃r ad,FS r/\r.sc nx/\x.den O= .pointer (some ad)/\r.den O= .pointer (some (ad.add m)):=by
 unfold zA at h;split at h
 .rename_i id off;exact⟨_,⟨(O id).g,off,none⟩,h,Z,rfl,by simp[SV.den,At.den,dD]⟩
 .rename_i ad;exact⟨_,ad,h,trivial,rfl,rfl⟩
 .exact h.elim
def wv(rel:Rel H nx iv B w O J){id m:Nat}{FS:Prop}(h:Jg H id m FS):FS/\((O id).nil=true->m=0):=by
 unfold Jg at h;split at h
 .rename_i t sz cs hH;split at h
  .exact h.elim
  .rename_i k;refine⟨h.2,λE=>?_⟩;have Y:=h.1;rcases rel.vec id t (k+1) cs hH with⟨_,rfl⟩|⟨I,_⟩
   .have h4:m*(k+1)=0:=by simpa using Y.symm
    rcases Nat.mul_eq_zero.1 h4 with h5|h5
    .exact h5
    .omega
   .rw[E]at I;cases I
 .exact h.elim
def Jk(hτ:fk P τ){t ty:Nat}{x:SV}(h:PD τ H t x FS)(rel:Rel H nx iv B w O J):
  ∃r,FS r/\∀J,(Builtin.len_ #[t] ty #[x.den O]).run P J= .ok (.int .i64 r) J:=by
 unfold PD at h;split at h
 .exact h.elim
 rename_i sz ag by_ ze tag ik e al fs Rj;have ht:=hτ t _ Rj;split at h
 .rename_i QO;have hu:=ht.i4 (ed QO);split at h
  .exact⟨_,h,λJ=>by simp[Builtin.len_,run_underlying hu,SV.den,At.den,goInt]⟩
  .exact⟨_,h,λJ=>by simp[Builtin.len_,run_underlying hu,SV.den,At.den,goInt]⟩
  .rename_i id m;have Y:=wv rel h;refine⟨_,Y.1,λJ=>?_⟩
   cases E:(O id).nil
   .simp[Builtin.len_,run_underlying hu,SV.den,At.den,goInt,E]
   .have:=Y.2 E;subst this;simp[Builtin.len_,run_underlying hu,SV.den,At.den,goInt,E]
  .exact h.elim
 .split at h
  .rename_i QO;have hu:=ht.i3 (ed QO);split at h
   .exact⟨_,h,λJ=>by simp[Builtin.len_,run_underlying hu,SV.den,At.den,goInt]⟩
   .exact h.elim
  .split at h
   .rename_i QO;have hu:=ht.i6 (ed QO);exact⟨_,h,λJ=>by simp[Builtin.len_,run_underlying hu,goInt]⟩
   .exact h.elim
def FJ(hτ:fk P τ){t:Nat}{x i:SV}{FS:SV->Prop}(h:HN τ H t x i FS)(Z:x.sc nx)(rel:Rel H nx iv B w O J):
  ∃r,FS r/\r.sc nx/\∀J,(Instr.indexAt t (x.den O) (i.den O)).run P J= .ok (r.den O) J:=by
 unfold HN at h;split at h
 .rename_i kd i;split at h
  .rename_i sz ag by_ ze tag ik e al fs Rj;have ht:=hτ t _ Rj;split at h
   .rename_i sz' ag' by' ze' tag' ik' e' al' fs' Qg
    have Qg:=hτ e _ Qg;split at h
    .rename_i QO;have hu:=ht.i4 (ed QO);simp only at hu;split at h
     .rename_i id off m c;obtain⟨N,h⟩:=h;exact⟨_,h,Z,λJ=>by simp[Instr.indexAt,run_underlying hu,asIntOf,SV.den,At.den,N,Qg.sizeOf,dD]⟩
     .rename_i id m;obtain⟨⟨N,Y⟩,I⟩:=wv rel h;refine⟨_,Y,Z,λJ=>?_⟩
      cases E:(O id).nil
      .simp[Instr.indexAt,run_underlying hu,asIntOf,SV.den,At.den,N,Qg.sizeOf,dD,E]
      .have:=I E;omega
     .rename_i a0 m c;obtain⟨ad,rfl,N,h⟩:=h;exact⟨_,h,trivial,λJ=>by simp[Instr.indexAt,run_underlying hu,asIntOf,SV.den,At.den,N,Qg.sizeOf]⟩
     .exact h.elim
    .split at h
     .rename_i QO;have hu:=ht.i6 (ed QO);simp only at hu;obtain⟨N,h⟩:=h;obtain⟨r,ad,Y,I,h3,h4⟩:=vF (O:=O) h Z;refine⟨r,Y,I,λJ=>?_⟩;rw[h3,h4];simp[Instr.indexAt,run_underlying hu,asIntOf,SV.den,At.den,Instr.sureAddr,N,Qg.sizeOf]
     .exact h.elim
   .exact h.elim
  .exact h.elim
 .exact h.elim
def j9(sat:Sat n l H nx iv B w O a J){x:Option Operand}{d:Int}(h:LC l x d FS):∃i,FS i/\((x=none/\i=d)\/∃o k,x=some o/\a.eval o= .int k i):=by
 unfold LC at h;split at h
 .exact⟨d,h,.inl ⟨rfl,rfl⟩⟩
 .obtain⟨v,Y,I,h3⟩:=dq sat h;clear h3;split at Y
  .rename_i k i;exact⟨i,Y,.inr ⟨_,k,rfl,I⟩⟩
  .exact Y.elim
def pW{len cap:Nat}{i j:Int}(Te:(lo=none/\i=0)\/∃o k,lo=some o/\a.eval o= .int k i)(Vg:(R=none/\j=len)\/∃o k,R=some o/\a.eval o= .int k j)
  (h0:0<=i) (Y:i<=j) (I:j<=cap):(Instr.sliceBounds true len cap (lo.map a.eval) (R.map a.eval) none).run P J= .ok (i.toNat,j.toNat,cap) J:=by
 rcases Te with⟨rfl,rfl⟩|⟨o,k,rfl,ho⟩<;>rcases Vg with⟨rfl,rfl⟩|⟨o',k',rfl,UN⟩
 .simp[Instr.sliceBounds]
 .have h1':0<=j:=by omega
  simp[Instr.sliceBounds,Instr.sliceBound,UN,asIntOf,h1',I]
 .have:i<=(len:Int):=Y;simp[Instr.sliceBounds,Instr.sliceBound,ho,asIntOf,h0,this]
 .have h1':0<=j:=by omega
  have h3:i<=((j.toNat:Nat):Int):=by omega
  have h3':i<=max j 0:=by omega
  simp[Instr.sliceBounds,Instr.sliceBound,ho,UN,asIntOf,h1',I,h0,h3']
def FK{len cap:Nat}{i j:Int}(Te:(lo=none/\i=0)\/∃o k,lo=some o/\a.eval o= .int k i)(Vg:(R=none/\j=len)\/∃o k,R=some o/\a.eval o= .int k j)
  (h0:0<=i) (Y:i<=j) (I:j<=cap):(Instr.sliceBounds false len cap (lo.map a.eval) (R.map a.eval) none).run P J= .ok (i.toNat,j.toNat,cap) J:=by
 rcases Te with⟨rfl,rfl⟩|⟨o,k,rfl,ho⟩<;>rcases Vg with⟨rfl,rfl⟩|⟨o',k',rfl,UN⟩
 .simp[Instr.sliceBounds]
 .have h1':0<=j:=by omega
  simp[Instr.sliceBounds,Instr.sliceBound,UN,asIntOf,h1',I]
 .have:i<=(len:Int):=Y;simp[Instr.sliceBounds,Instr.sliceBound,ho,asIntOf,h0,this]
 .have h1':0<=j:=by omega
  have h3:i<=((j.toNat:Nat):Int):=by omega
  have h3':i<=max j 0:=by omega
  simp[Instr.sliceBounds,Instr.sliceBound,ho,UN,asIntOf,h1',I,h0,h3']
def Df(hτ:fk P τ)(sat:Sat n l H nx iv B w O a J){t:Nat}{x:SV}{lo R mx:Operand}{FS:SV->Prop}(h:Dd τ t x l lo R mx FS):
  ∃r,FS r/\r.sc nx/\∀J,(Instr.sliceAt t (x.den O) (some (a.eval lo)) (some (a.eval R)) (some (a.eval mx))).run P J= .ok (r.den O) J:=by
 unfold Dd at h;split at h
 .rename_i sz ag by_ ze tag ik e al fs Rj;have ht:=hτ t _ Rj;split at h
  .rename_i QO;have hu:=ht.i4 (ed QO);simp only at hu;split at h
   .rename_i sz' ag' by' ze' tag' ik' e' al' fs' Qg
    have Qg:=hτ e _ Qg;split at h
    .rename_i ad m c;obtain⟨i,Y,Te⟩:=j9 sat h;obtain⟨j,I,Vg⟩:=j9 sat Y;obtain⟨k,h3,Ue⟩:=j9 sat I;obtain⟨o1,k1,e1,g1⟩:=Te.resolve_left λh=>by cases h.1
     obtain⟨o2,k2,e2,g2⟩:=Vg.resolve_left λh=>by cases h.1
     obtain⟨o3,k3,e3,g3⟩:=Ue.resolve_left λh=>by cases h.1
     injection e1 with e1;injection e2 with e2;injection e3 with e3;subst e1 e2 e3;obtain⟨⟨b0,b1,b2,b3⟩,ad',n',c',e4,rfl,rfl,h4⟩:=h3;refine⟨_,h4,trivial,λJ=>?_⟩;subst e4;have q1:0<=k:=by omega
     have q2:0<=j:=by omega
     have q3:j<=((k.toNat:Nat):Int):=by omega
     have q4:i<=((j.toNat:Nat):Int):=by omega
     have N:(Instr.sliceBounds true m c (some (a.eval lo)) (some (a.eval R)) (some (a.eval mx))).run P J= .ok (i.toNat,j.toNat,k.toNat) J:=by
      simp only[Instr.sliceBounds,Instr.sliceBound,g1,g2,g3,asIntOf]
      have p1:(0<=k/\k<=(c:Int)):=⟨q1,b3⟩
      have p2:(0<=j/\j<=((k.toNat:Nat):Int)):=⟨q2,q3⟩
      have p3:(0<=i/\i<=((j.toNat:Nat):Int)):=⟨b0,q4⟩
      have p4:j<=max k 0:=by omega
      have p5:i<=max j 0:=by omega
      simp[p1.1,p1.2,p2.1,p3.1,p4,p5]
     simp[Instr.sliceAt,Instr.slice,run_underlying hu,SV.den,At.den,N,Qg.sizeOf];by_cases hc:k=i
     .rw[aM hc,aM be]
     .rw[aJ hc,aJ be]
    .exact h.elim
   .exact h.elim
  .exact h.elim
 .exact h.elim
def FL(hτ:fk P τ)(sat:Sat n l H nx iv B w O a J){t:Nat}{x:SV}{FS:SV->Prop}(h:HO τ H t x l lo R FS)(Z:x.sc nx):
  ∃r,FS r/\r.sc nx/\∀J,(Instr.sliceAt t (x.den O) (lo.map a.eval) (R.map a.eval) none).run P J= .ok (r.den O) J:=by
 unfold HO at h;split at h
 .rename_i sz ag by_ ze tag ik e al fs Rj;have ht:=hτ t _ Rj;split at h
  .rename_i QO;have hu:=ht.i4 (ed QO);simp only at hu;split at h
   .rename_i sz' ag' by' ze' tag' ik' e' al' fs' Qg
    have Qg:=hτ e _ Qg;split at h
    .rename_i id off m c;obtain⟨i,Y,Te⟩:=j9 sat h;obtain⟨j,I,Vg⟩:=j9 sat Y;obtain⟨⟨b0,b1,b2⟩,off',n',c',e1,rfl,rfl,h3⟩:=I;refine⟨_,h3,Z,λJ=>?_⟩;have N:=pW (P:=P) (J:=J) Te Vg b0 b1 b2;subst e1;simp[Instr.sliceAt,Instr.slice,run_underlying hu,SV.den,At.den,N,Qg.sizeOf];by_cases hc:c=i.toNat
     .rw[aM hc,aM be]
     .rw[aJ hc,aJ be];simp[dD]
    .rename_i ad m c;obtain⟨i,Y,Te⟩:=j9 sat h;obtain⟨j,I,Vg⟩:=j9 sat Y;obtain⟨⟨b0,b1,b2⟩,off',n',c',e1,rfl,rfl,h3⟩:=I;refine⟨_,h3,trivial,λJ=>?_⟩;have N:=pW (P:=P) (J:=J) Te Vg b0 b1 b2;subst e1;simp[Instr.sliceAt,Instr.slice,run_underlying hu,SV.den,At.den,N,Qg.sizeOf];by_cases hc:c=i.toNat
     .rw[aM hc,aM be]
     .rw[aJ hc,aJ be]
    .rename_i id m;split at h
     .obtain⟨Y,QC⟩:=wv sat.rel h;obtain⟨j,I,Vg⟩:=j9 sat Y;obtain⟨⟨b0,b1⟩,m',rfl,h3⟩:=I;refine⟨_,h3,Z,λJ=>?_⟩;have RE:(O id).nil=false->m<=(O id).cap:=λE=>by
       unfold Jg at h;split at h
       .rename_i t' sz' cs' hH;split at h
        .exact h.elim
        .rename_i k;rcases sat.rel.vec id t' (k+1) cs' hH with⟨h5,_⟩|⟨_,spare,_,h6,_⟩
         .rw[E]at h5;cases h5
         .have h7:=h.1;have h8:(cs'++spare).length=cs'.length+spare.length:=aU;have h9:m*(k+1)<=(O id).cap*(k+1):=by omega
          exact Nat.le_of_mul_le_mul_right h9 (Nat.succ_pos k)
       .exact h.elim
      cases E:(O id).nil with
      |true=>
       have hm:=QC E;subst hm;have N:=pW (P:=P) (J:=J) (len:=0) (cap:=0) (lo:=none) (i:=0) (.inl ⟨rfl,rfl⟩) Vg (Int.le_refl 0) b0 b1;have hj:j.toNat=0:=by omega
       rw[hj]at N ⊢;simp only[Option.map_none]at N;simp[Instr.sliceAt,Instr.slice,run_underlying hu,SV.den,At.den,E,N,Qg.sizeOf]
      |false=>
       have hc:=RE E;have N:=pW (P:=P) (J:=J) (len:=m) (cap:=(O id).cap) (lo:=none) (i:=0) (.inl ⟨rfl,rfl⟩) Vg (Int.le_refl 0) b0 be;simp only[Option.map_none]at N;simp[Instr.sliceAt,Instr.slice,run_underlying hu,SV.den,At.den,E,N,Qg.sizeOf,dD]
     .exact h.elim
    .exact h.elim
   .exact h.elim
  .split at h
   .rename_i QO;have hu:=ht.i6 (ed QO);simp only at hu;split at h
    .rename_i sz' ag' by' ze' tag' ik' e' al' fs' Qg
     have Qg:=hτ e _ Qg;split at h
     .rename_i id off;split at h
      .split at h
       .rename_i h0;refine⟨_,h,Z,λJ=>?_⟩;have h0:al≠0:=λe=>by subst e;cases h0
        simp[Instr.sliceAt,Instr.sliceBounds,run_underlying hu,SV.den,At.den,Qg.sizeOf,Instr.sureAddr,dD]
       .exact h.elim
      .exact h.elim
     .exact h.elim
    .exact h.elim
   .split at h
    .rename_i QO;have hu:=ht.i3 (ed QO);split at h
     .rename_i s;obtain⟨i,Y,Te⟩:=j9 sat h;obtain⟨j,I,Vg⟩:=j9 sat Y;obtain⟨⟨b0,b1,b2⟩,h3⟩:=I;refine⟨_,h3,trivial,λJ=>?_⟩;have N:=FK (P:=P) (J:=J) Te Vg b0 b1 b2;simp[Instr.sliceAt,Instr.slice,run_underlying hu,SV.den,At.den,N]
     .exact h.elim
    .exact h.elim
 .exact h.elim
end
section
variable{P:Program}{τ:nO}{B n nx:Nat}{l:Env}{H:Hp}{iv:Iv}{w J:World}{O:Nat->eD}{a:Act}
def FM(z:Value)(c:Nat):(madeCells #[z] c)=(List.replicate c z).toArray:=by
 unfold madeCells;apply Array.ext';simp[List.map_const',Nat.mod_one]
def si(zs:List Value)(c:Nat):(madeCells zs.toArray (c*zs.length))=((List.replicate c zs).flatten).toArray:=by
 unfold madeCells;apply Array.ext';simp only[Array.toList_map,Array.toList_range,List.size_toArray]
 induction c with
 |zero=>simp
 |succ c ih=>
  rw[Nat.succ_mul,List.range_add,bp,ih,List.replicate_succ',List.flatten_append];simp only[List.flatten_cons,List.flatten_nil,List.append_nil,List.map_map]
  congr 1;apply List.ext_getElem
  .simp
  .intro i Y I;simp at Y;simp[bZ Y,Y]
def HR(hτ:fk P τ)(sat:Sat n l H nx iv B w O a J){t:Nat}{x y:SV}{FS:SV->Hp->Nat->Prop}(h:IX τ t x y H nx FS):
  ∃r H' Pv F' F,FS r H' Pv/\Rel H' Pv iv B w F' F/\r.sc Pv/\nx<=Pv/\(∀id,id<nx->O id=F' id)/\(Instr.makeSlice t (x.den O) (y.den O)).run P J= .ok (r.den F') F:=by
 unfold IX at h;split at h
 .rename_i k1 a1 k2 b1;split at h
  .rename_i sz ag by_ ze tag ik e al fs Rj;have ht:=hτ t _ Rj;split at h
   .rename_i QO;have hu:=ht.i4 (ed QO);simp only at hu;split at h
    .rename_i sz' ag' by' ze' tag' ik' e' al' fs' Qg
     have Qg:=hτ e _ Qg;obtain⟨inf,z,R,QG,QM,hz,Rt⟩:=Qg.info;simp only at QG QM Rt;obtain⟨m,c,rfl,rfl,SJ,hbytes,h63,h⟩:=h;have SR:(inf.bytes:Int)*(c:Int)<=281474976710656:=by
      rw[QM];have QZ:((by'*c:Nat):Int)<=281474976710656:=by omega
      rwa [Int.natCast_mul]at QZ
     have Py:=run_make (P:=P) J t e inf z hu R hz k1 k2 (m:Int) (c:Int) be be SR be;simp only[aI]at Py;have fin:∀cs:List Value,cs.toArray=madeCells z.cells (c*inf.size)->Bw (.arr e cs) H nx (λH' Pv=>FS (.o (.s nx 0 m c)) H' Pv)->
       ∃r H' Pv F' F,FS r H' Pv/\Rel H' Pv iv B w F' F/\r.sc Pv/\nx<=Pv/\(∀id,id<nx->O id=F' id)/\(Instr.makeSlice t (.int k1 m) (.int k2 c)).run P J= .ok (r.den F') F:=by
      intro cs QX hK;refine⟨_,_,_,iy O nx ⟨J.heap.size,0,false⟩,J.alloc (.cells cs.toArray e),hK,?_,?_,be,iU,?_⟩
      .refine sat.rel.push (.arr e cs) _ rfl rfl rfl ce (λk K=>heap_alloc_old _ _ K) (λ_=>⟨ae _,ce⟩) ⟨rfl,heap_alloc_new _ _⟩ trivial
      .simp[SV.sc,At.sc]
      .rw[Py,<-QX];simp[SV.den,At.den]
     have Sj:=Qg.FB;simp only at Sj;have So:z.cells=ze'.toArray:=by apply Array.ext';simpa using Rt
     split at h
     .rename_i z0;refine fin _ ?_ h;have:inf.size=1:=by rw[QG,<-Sj];rfl
      rw[this,ah,So,FM]
     .refine fin _ ?_ h;rw[QG,<-Sj,So];rcases bB ze'.length with h0|h0
      .have:ze'=[]:=List.eq_nil_of_length_eq_zero h0;subst this;simp[madeCells]
      .rw[si]
    .exact h.elim
   .exact h.elim
  .exact h.elim
 .exact h.elim
def HS(sat:Sat n l H nx iv B w O a J){x:SV}{FS:Nat->List Value->Prop}(QV:0<size)(h:LN B H nx iv w size x FS):
  ∃m c ad news,FS m news/\x.den O= .slice ad m c/\news.length=m*size/\(∀u∈news,u.oneCell'=true)/\
   ((ad=none/\m=0)\/∃ad',ad=some ad'/\∀j u,news[j]? =some u->J.cell? (ad'.add j)=some u):=by
 have rel:=sat.rel;unfold LN at h;split at h
 .rename_i id off m c;split at h
  .rename_i bt cs hH;obtain⟨Y,hd⟩:=pQ h;obtain⟨I,ht⟩:=pS Y;obtain⟨vs,h3,Rq,TQ⟩:=mZ I;refine⟨m,c,_,vs,h3,rfl,?_,TQ,.inr ⟨_,rfl,λj u hu=>?_⟩⟩
   .have:=congrArg List.length Rq;simp at this ht;omega
   .rw[dD,cell_of (rel.box id bt cs hH)];have e:(vs.map At.v)[j]? =some (.v u):=by simp[hu]
    rw[<-Rq]at e;simp only[List.getElem?_take,cD]at e;split at e
    .simp[e,At.den]
    .simp at e
  .rename_i bt cs hH;obtain⟨vs,Y,I,h3,h4⟩:=h;refine⟨m,c,_,vs,h4,rfl,I,h3,.inr ⟨_,rfl,λj u hu=>?_⟩⟩;rw[dD,cell_of (rel.arr id bt cs hH)];rw[<-Y]at hu;simp only[List.getElem?_take,cD]at hu;split at hu
   .exact hu
   .simp at hu
  .exact h.elim
 .rename_i ad m c;obtain⟨vs,Y,I,h3,h4⟩:=h;refine⟨m,c,ad,vs,h4,rfl,Y,I,?_⟩;rcases bB m with h0|h0
  .subst h0;have:vs=[]:=List.eq_nil_of_length_eq_zero (by simpa using Y);subst this
   cases ad with
   |none=>exact .inl ⟨rfl,rfl⟩
   |some ad=>exact .inr ⟨ad,rfl,λj u hu=>by simp at hu⟩
  .exact .inr (h3 O J rel h0)
 .rename_i id m;split at h
  .rename_i bt sz cs hH;obtain⟨Y,I,h3⟩:=h;rcases rel.vec id bt sz cs hH with⟨E,rfl⟩|⟨E,spare,N,_⟩
   .have h0:m=0:=by
     have h4:m*size=0:=by simpa using Y.symm
     rcases Nat.mul_eq_zero.1 h4 with h5|h5<;>omega
    subst h0;exact⟨0,0,none,[],h3,by simp[SV.den,At.den,E],ce,ce,.inl ⟨rfl,rfl⟩⟩
   .refine⟨m,(O id).cap,_,cs,h3,by simp only[SV.den,At.den,E];rfl,Y,I,.inr ⟨_,rfl,λj u hu=>?_⟩⟩;rw[dD,cell_of N,aV,aN (aH.1 hu).1];exact hu
  .exact h.elim
 .exact h.elim
def mh(w:World)(base:Nat)(t ty e:TypeId)(i:TypeInfo)(size:Nat)(ht:P.underlying t=some (.slice e))(R:P.info? e=some i)
  (v:Value) (m:Nat) (xs:List Value) (RY:w.ownsRow base e size v m xs) (c:Nat):(Builtin.append_ #[t,t] ty #[v,.slice none 0 c]).run P w= .ok v w:=by
 rcases RY.2 with⟨rfl,rfl⟩|⟨g,cap,cur,rfl,_,_,Uo,_⟩
 .simp[Builtin.append_,run_underlying ht,sizeOf,typeInfo,R,Builtin.lenOf,Builtin.firstCells]
 .simp[Builtin.append_,run_underlying ht,sizeOf,typeInfo,R,Builtin.lenOf,Builtin.firstCells,Uo,storeCells]
def rF{w:World}{e:Nat}{v:Value}{base:Nat}(h:w.ownsRow base e size v m xs):
  ∃val:eD,(At.w 0 m).den (λ_=>val)=v/\(jX.vec e size xs).fits (λ_=>val) val w/\(val.nil=false->v.ownBlock=some val.g/\val.g<w.heap.size)/\(val.nil=true->v.ownBlock=none):=by
 rcases h.2 with⟨rfl,rfl⟩|⟨g,cap,cur,rfl,_,N,Uo,RE,hcur,RX⟩
 .have:xs=[]:=List.eq_nil_of_length_eq_zero (by simpa using h.1);exact⟨⟨0,0,true⟩,rfl,.inl ⟨rfl,this⟩,(λh=>by cases h),λ_=>rfl⟩
 .refine⟨⟨g,cap,false⟩,rfl,.inr ⟨rfl,cur.toList.drop (m*size),?_,?_,RE⟩,λ_=>⟨rfl,(bG.1 N).1⟩,(λh=>by cases h)⟩
  .rw[<-RX,List.take_append_drop];simpa using N
  .rw[<-RX,List.take_append_drop];simpa using hcur
def zc(rel:Rel H nx iv B w O J){id m e sz:Nat}(hH:dT H id=some (.vec e sz cs))(hl:cs.length=m*sz)(QV:0<sz):
  J.ownsRow B e sz ((At.w id m).den O) m cs:=by
 rcases rel.vec id e sz cs hH with⟨E,rfl⟩|⟨E,spare,N,UA,RE⟩
 .have h0:m=0:=by
   have h4:m*sz=0:=by simpa using hl.symm
   rcases Nat.mul_eq_zero.1 h4 with h5|h5<;>omega
  subst h0;simp only[At.den,E]
  exact World.ownsRow_nil _ _ _ _
 .refine⟨hl,.inr ⟨(O id).g,(O id).cap,_,by simp only[At.den,E],(rel.low id _ hH E).1,N,?_,RE,by simpa using UA,by simp[<-hl]⟩⟩;have Y:m*sz<=(O id).cap*sz:=by rw[<-UA,<-hl];simp
  exact Nat.le_of_mul_le_mul_right Y QV
def vA(hτ:fk P τ)(sat:Sat n l H nx iv B w O a J){t ty:Nat}{x y:SV}{FS:SV->Hp->Nat->Prop}(h:zB τ B t x y H nx iv w FS):
  ∃r H' Pv F' F,FS r H' Pv/\Rel H' Pv iv B w F' F/\r.sc Pv/\nx<=Pv/\(∀id,id<nx->O id=F' id)/\(Builtin.append_ #[t,t] ty #[x.den O,y.den O]).run P J= .ok (r.den F') F:=by
 have rel:=sat.rel;unfold zB at h;split at h
 .exact h.elim
 rename_i sz ag by_ ze tag ik e al fs Rj;have ht:=hτ t _ Rj;split at h
 .rename_i QO;have hu:=ht.i4 (ed QO);simp only at hu;split at h
  .rename_i sz' ag' by' ze' tag' ik' e' al' fs' Qg
   have Qg:=hτ e _ Qg;split at h
   .exact h.elim
   .rename_i z0 zr;obtain⟨inf,z,R,QG,QM,hz,Rt⟩:=Qg.info;have Sj:=Qg.FB;simp only at QG QM Rt Sj;have QV:0<sz':=by rw[<-Sj];simp
    have Ww:z.cells.size=sz':=by rw[<-Sj,<-Rt];simp
    have h0:=HS sat QV h;clear h;obtain⟨m,c,ad,news,h,hy,Td,Si,hsrc⟩:=h0;have happ:∀(v:Value) (k:Nat) (xs:List Value),J.ownsRow B e sz' v k xs->(k+m)*by'<=140737488355328->k+m<=maxLen->
      ∃v' F,(Builtin.append_ #[t,t] ty #[v,y.den O]).run P J= .ok v' F/\F.ownsRow B e sz' v' (k+m) (xs++news)/\J.grownBy F v.ownBlock/\(v'.ownBlock=v.ownBlock\/v'.ownBlock=some J.heap.size):=by
     intro v k xs RY N Um;rw[hy];rcases hsrc with⟨rfl,rfl⟩|⟨ad',rfl,Q3⟩
     .have:news=[]:=List.eq_nil_of_length_eq_zero (by simpa using Td);subst this;exact⟨v,J,mh J B t ty e inf sz' hu R v k xs RY c,by simpa using RY,⟨rfl,rfl,rfl,ae _,λ_ _ _=>rfl⟩,.inl rfl⟩
     .obtain⟨v',F,Y,I,h3,_,h5⟩:=run_append_own_at (P:=P) J B t ty e inf z sz' by' hu R hz QG QM Ww QV v k xs RY ad' m c news Td Q3 Si Um N (by have:=rel.base;have:=rel.size;omega)
      exact⟨v',F,Y,I,h3,h5⟩
    split at h
    .obtain⟨N,Um,hK⟩:=h;obtain⟨v',F,Y,I,h3,h5⟩:=happ (.slice none 0 0) 0 [] (World.ownsRow_nil _ _ _ _) (by simpa using N) (by simpa using Um);simp only[aV,List.nil_append]at I;obtain⟨val,TQ,S5,ZW,hv4⟩:=rF I;refine⟨_,_,_,iy O nx val,F,hK,?_,by simp[SV.sc,At.sc],be,iU,?_⟩
     .refine rel.push (.vec e sz' news) val h3.os h3.tape h3.output h3.size (λk K=>h3.block k K (by simp[Value.ownBlock])) (λE=>?_) (by simpa [jX.fits]using S5) trivial;have:=ZW E;rcases h5 with h6|h6
      .rw[this.1]at h6;simp[Value.ownBlock]at h6
      .rw[this.1]at h6;injection h6 with h6;exact⟨be,this.2⟩
     .rw[show SV.den O (.o (.v (.slice none 0 0)))= .slice none 0 0 from rfl,Y,<-TQ];simp[SV.den,At.den]
    .rename_i id k;split at h
     .rename_i e1 sz1 cs hH;split at h
      .rename_i XQ;have XQ:=ed XQ;subst XQ;split at h
       .rename_i Wx;have Wx:=ed Wx;subst Wx;obtain⟨hl,N,Um,h⟩:=h;obtain⟨H1,hK,hH1,_⟩:=uB h;obtain⟨v',F,Y,I,h3,h5⟩:=happ _ k cs (zc rel hH hl QV) N Um;obtain⟨val,TQ,S5,ZW,hv4⟩:=rF I;have SQ:(O id).nil=false->((At.w id k).den O).ownBlock=some (O id).g:=λE=>by simp[At.den,E,Value.ownBlock]
        have hob':(O id).nil=true->((At.w id k).den O).ownBlock=none:=λE=>by simp[At.den,E,Value.ownBlock]
        refine⟨_,_,_,iy O nx val,F,hK,?_,by simp[SV.sc,At.sc],be,iU,?_⟩
        .refine rel.LQ hH ce hH1 (.vec e1 sz1 (cs++news)) val h3.os h3.tape h3.output h3.size (λj hj Po=>?_) (λE=>?_) (by simpa [jX.fits]using S5) trivial
         .refine h3.block j hj λe=>?_
          cases QC:(O id).nil
          .rw[SQ QC]at e;injection e with e;exact Po QC e
          .rw[hob' QC]at e;cases e
         .have:=ZW E;rcases h5 with h6|h6
          .rw[this.1]at h6
           cases QC:(O id).nil
           .rw[SQ QC]at h6;injection h6 with h6;exact .inr ⟨rfl,h6⟩
           .rw[hob' QC]at h6;cases h6
          .rw[this.1]at h6;injection h6 with h6;exact .inl ⟨be,this.2⟩
        .rw[show SV.den O (.o (.w id k))=(At.w id k).den O from rfl,Y,<-TQ];simp[SV.den,At.den]
       .exact h.elim
      .exact h.elim
     .exact h.elim
    .rename_i id k c0;split at h
     .rename_i hkc;have hkc:=ed hkc;subst hkc;split at h
      .rename_i e1 cs0 hH;split at h
       .rename_i XQ;have XQ:=ed XQ;subst XQ;obtain⟨cs,⟨hl,N,Um,h9⟩,rfl,_⟩:=mZ h;obtain⟨H1,hK,hH1,_⟩:=uB h9;have QC:(O id).nil=false:=rel.nn id _ hH (by intros;simp) ce;have Qt:=rel.box id _ _ hH;rw[fm]at Qt;have RY:J.ownsRow B e1 sz' ((At.s id 0 k k).den O) k cs:=by
         refine⟨hl,.inr ⟨(O id).g,k,_,by simp only[At.den],(rel.low id _ hH QC).1,Qt,ae _,be,by simp[hl],by simp[<-hl]⟩⟩
        obtain⟨v',F,Y,I,h3,h5⟩:=happ _ k cs RY N Um;obtain⟨val,TQ,S5,ZW,hv4⟩:=rF I;have SQ:((At.s id 0 k k).den O).ownBlock=some (O id).g:=by simp[At.den,Value.ownBlock]
        refine⟨_,_,_,iy O nx val,F,hK,?_,by simp[SV.sc,At.sc],be,iU,?_⟩
        .refine rel.LQ hH ce hH1 (.vec e1 sz' (cs++news)) val h3.os h3.tape h3.output h3.size (λj hj Po=>?_) (λE=>?_) (by simpa [jX.fits]using S5) trivial
         .refine h3.block j hj λe=>?_;rw[SQ]at e;injection e with e;exact Po QC e
         .have:=ZW E;rcases h5 with h6|h6
          .rw[this.1]at h6;rw[SQ]at h6;injection h6 with h6;exact .inr ⟨QC,h6⟩
          .rw[this.1]at h6;injection h6 with h6;exact .inl ⟨be,this.2⟩
        .rw[show SV.den O (.o (.s id 0 k k))=(At.s id 0 k k).den O from rfl,Y,<-TQ];simp[SV.den,At.den]
       .exact h.elim
      .exact h.elim
     .exact h.elim
    .exact h.elim
  .exact h.elim
 .exact h.elim
end
end Go.Sx
