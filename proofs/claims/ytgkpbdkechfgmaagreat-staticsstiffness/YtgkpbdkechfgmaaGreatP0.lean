/- Texts Sx1 to Sx6: lemmas, each with its conditions. -/
import Derived.WalkKit
import Derived.Maps.AppendAt
import Derived.Laws.IdiomCopy
import Derived.Great.BuildSlice
namespace Go
theorem be{p:Prop}(h:p:=by omega):p:=h
theorem bi{p:Prop}(h:p:=by decide):p:=h
theorem bv{p:Prop}(h:p:=by simp):p:=h
theorem cs{p:Prop}(h:p:=by rfl):p:=h
theorem d9{p:Prop}(h:p:=by kernel_rfl):p:=h
end Go
namespace Go
variable{i j m n:Nat}{c:Prop}
theorem aB.{u_1}{α:Type u_1}(y:α){a:α}{l:List α}:a∈l->a∈y::l:=List.mem_cons_of_mem y
theorem aC.{u_1}{α:Type u_1}{l:List α}{a:α}(e:l[i]? =some a):a∈l:=List.mem_of_getElem? e
theorem aD.{u_1}{α:Type u_1}{l:List α}(h:i<l.length):l[i]? =some l[i]:=List.getElem?_eq_getElem h
theorem aE.{u_1}{α:Type u_1}{a:α}{l:List α}:l[i]? =some a↔∃h:i<l.length,l[i]=a:=List.getElem?_eq_some_iff
theorem aF(n:Nat):((n:Int)).toNat=n:=Int.toNat_natCast n
theorem aG{p:Prop} [inst:Decidable p]:decide p=false->¬p:=of_decide_eq_false
theorem aH.{u_1}{α:Type u_1}{a:α}{l:List α}:a∈a::l:=List.mem_cons_self
theorem aI.{u_1}{α:Type u_1}{l₁ l₂:List α}(W:i<l₁.length):(l₁++l₂)[i]? =l₁[i]? :=List.getElem?_append_left W
theorem aJ.{u}{h:Decidable c}(hnc:¬c){α:Sort u}{t e:α}:(if c then t else e)=e:=if_neg hnc
theorem aK{p:Prop} [inst:Decidable p]:decide p=true->p:=of_decide_eq_true
theorem aL.{u_1,u_2}{α:Type u_1}{β:Type u_2}{as:List α}(f:α->β):(List.map f as).length=as.length:=List.length_map f
theorem aM.{u}{h:Decidable c}(hc:c){α:Sort u}{t e:α}:(if c then t else e)=t:=if_pos hc
theorem aN.{u_1}{α:Type u_1}{l₁ l₂:List α}:l₁.length<=i->(l₁++l₂)[i]? =l₂[i-l₁.length]? :=List.getElem?_append_right
theorem aO.{u_1,u_2}{α:Type u_1}{β:Type u_2}{f:α->β}{l:List α}:(List.map f l)[i]? =Option.map f l[i]? :=List.getElem?_map
theorem aP(n:Nat):n<=n:=Nat.le_refl n
theorem aQ.{u}{α:Type u}{as bs:List α}:(as++bs).length=as.length+bs.length:=List.length_append
theorem aR(n:Nat):0<=n:=Nat.zero_le n
theorem aS(n m:Nat):n<m\/n≥m:=Nat.lt_or_ge n m
theorem aT.{u_1}{α:Type u_1}{l:List α}{a:α}(h:i<l.length):(l.set i a)[i]? =some a:=List.getElem?_set_self h
theorem aU.{u_1}{α:Type u_1}{a:α}{l:List α}(h:a∈l):∃i:Nat,l[i]? =some a:=List.getElem?_of_mem h
theorem aV.{u_1,u_2}{α:Type u_1}{β:Type u_2}{b:β}{f:α->β}{l:List α}:b∈List.map f l↔∃a,a∈l/\f a=b:=List.mem_map
theorem aW(n:Nat):0+n=n:=Nat.zero_add n
theorem aX{k:Nat}:n<=m->m<=k->n<=k:=Nat.le_trans
theorem aY.{u_1}{α:Type u_1}{l:List α}(h:i≠j){a:α}:(l.set i a)[j]? =l[j]? :=List.getElem?_set_ne h
theorem aZ(n:Nat):n*1=n:=Nat.mul_one n
theorem a9.{u_1,u_2}{α:Type u_1}{β:Type u_2}{f:α->β}{l₁ l₂:List α}:List.map f (l₁++l₂)=List.map f l₁++List.map f l₂:=List.map_append
theorem ah.{u_1}{α:Type u_1}{l:List α}:(List.take i l).length=min i l.length:=List.length_take
theorem bA.{u_1}{α:Type u_1}{l:List α}(h:n<l.length):l[n]∈l:=List.getElem_mem h
theorem bB.{u_1}{α:Type u_1}{l:List α}:List.take (i+1) l=List.take i l++l[i]?.toList:=List.take_add_one
theorem bC.{u}{α:Type u}{a:α}:[a].length=1:=List.length_singleton
theorem bD.{u}{α:Type u}{a:α}:(List.replicate n a).length=n:=List.length_replicate
theorem bE.{u_1}{α:Type u_1}{l:List α}{a b:α}:a∈l.set i b->a∈l\/a=b:=List.mem_or_eq_of_mem_set
theorem bF(a:Rat):a*0=0:=Rat.mul_zero a
theorem bG.{u_1}{α:Type u_1}{a:α}{s t:List α}:a∈s++t↔a∈s\/a∈t:=List.mem_append
theorem bH.{u_1}{α:Type u_1}{l:List α}(h:l.length<=i):List.take i l=l:=List.take_of_length_le h
theorem bI(a:Rat):0*a=0:=Rat.zero_mul a
theorem bJ.{u_1}{α:Type u_1}{xs:Array α}{d:α}:xs.getD i d=xs[i]?.getD d:=Array.getD_eq_getD_getElem?
theorem bK.{u_1}{α:Type u_1}{a b:α}:a∈[b]↔a=b:=List.mem_singleton
theorem bL(a b:Bool):((a&&b)=true)=(a=true/\b=true):=Bool.and_eq_true a b
theorem bM.{u_1}{α:Type u_1}{b:α}{xs:Array α}:xs[i]? =some b↔∃h:i<xs.size,xs[i]=b:=Array.getElem?_eq_some_iff
theorem bN.{u_1}{α:Type u_1}{l:List α}:List.take l.length l=l:=List.take_length
theorem bO(n:Nat):n-n=0:=Nat.sub_self n
theorem bP{p:Prop} [Decidable p]:¬p->decide p=false:=decide_eq_false
theorem bQ.{u}{α:Type u}{xs:Array α}:xs.toList[i]? =xs[i]? :=Array.getElem?_toList
theorem bT.{u_1}{α:Type u_1}{l₁ l₂:List α}(h:∀(i:Nat),l₁[i]? =l₂[i]?):l₁=l₂:=List.ext_getElem? h
theorem bU:List.range n.succ=List.range n++[n]:=List.range_succ
theorem bV(a:Rat):a+0=a:=Rat.add_zero a
theorem bW.{u_1}{α:Type u_1}{a b:α}(h:b∈List.replicate n a):b=a:=List.eq_of_mem_replicate h
theorem bX(k:Nat)(h:n<=m):k*n<=k*m:=Nat.mul_le_mul_left k h
theorem bY(h:i<n):(List.range n)[i]? =some i:=List.getElem?_range h
theorem bZ(n:Nat):n=0\/n>0:=Nat.eq_zero_or_pos n
theorem b9{a b:Nat}(h:a<b):a % b=a:=Nat.mod_eq_of_lt h
theorem bc(n:Nat):n<n.succ:=Nat.lt_succ_self n
theorem bf{p:Prop} [inst:Decidable p]:p->decide p=true:=decide_eq_true
theorem bg.{u}{α:Type u}{a:α}{as:List α}:(a::as).length=as.length+1:=List.length_cons
theorem bh(a b:Rat):a / b=a*b⁻¹:=Rat.div_def a b
theorem bj.{u}{α:Type u}{as:List α}{a:α}:(as.set i a).length=as.length:=List.length_set
theorem bl(n m:Nat):n*m=m*n:=Nat.mul_comm n m
theorem bm:n.beq m=true->n=m:=Nat.eq_of_beq_eq_true
theorem bo.{u_1}{α:Type u_1}{l:List α}(h:i<j):(List.take j l)[i]? =l[i]? :=List.getElem?_take_of_lt h
theorem bp(n m k:Nat):n*(m+k)=n*m+n*k:=Nat.mul_add n m k
theorem bq.{u_1}{α:Type u_1}{a:α}{l:List α}(h:a∈List.take i l):a∈l:=List.mem_of_mem_take h
theorem bs(a:Rat):1*a=a:=Rat.one_mul a
theorem bu.{u_1}{α:Type u_1}{xs:Array α}{a:α}:(xs.setIfInBounds i a).size=xs.size:=Array.size_setIfInBounds
theorem bw.{u_1,u_2}{α:Type u_1}{β:Type u_2}(a:α)(f:α->β):Option.map f (some a)=some (f a):=Option.map_some a f
theorem bz(n m k:Nat):n*m*k=n*(m*k):=Nat.mul_assoc n m k
theorem cB(a b:Rat):a*b=b*a:=Rat.mul_comm a b
theorem cC.{u}{α:Type u}(as bs Z:List α):as++bs++Z=as++(bs++Z):=List.append_assoc as bs Z
theorem cD{a:Int}(h:a<0):a.sign= -1:=Int.sign_eq_neg_one_of_neg h
theorem cF.{u_1}{α:Type u_1}{xs:List α}:(List.drop i xs)[j]? =xs[i+j]? :=List.getElem?_drop
theorem cG{a:Int}(h:0<a):a.sign=1:=Int.sign_eq_one_of_pos h
theorem cH(a b:Nat):a<b\/a=b\/b<a:=Nat.lt_trichotomy a b
theorem cI(n:Nat):n+0=n:=Nat.add_zero n
theorem cJ(m:Nat)(npos:0<n):0<m.gcd n:=Nat.gcd_pos_of_pos_right m npos
theorem cK(w:Nat):0<2^w:=Nat.two_pow_pos w
theorem cL{a b c:Nat}(h:a*c<=b*c)(hc:0<c):a<=b:=Nat.le_of_mul_le_mul_right h hc
theorem cM{a:Int}:a.sign=0↔a=0:=Int.sign_eq_zero_iff_zero
theorem cN(x:Nat){y:Nat}(hy:0<y):x % y<y:=Nat.mod_lt x hy
theorem cO(a:Int):(-a).natAbs=a.natAbs:=Int.natAbs_neg a
end Go
namespace Go.Sx
open Go
variable{next:Act->World->Prop}{ad:Addr}{cells:Array Value}{b:Bool}{Q:Exit->Act->World->Prop}{GE:Int->Prop}{fs:List (Nat×Nat)}{rest:List (Nat×Value)}{Z new old xs:List Value}{B id m n nx off size:Nat}{place:Nat->Option (Nat×Nat)}{D lo:Option Operand}{FS:Prop}{J Y:World}
inductive At where
 |v (x:Value)
 |p (id off:Nat)
 |s (id off len cap:Nat)
 |w (id len:Nat)
 |fn (f:Nat) (caps:List Nat)
inductive SV where
 |o (x:At)
 |a (Z:List At)
structure eG where
 g:Nat
 cap:Nat
 nil:Bool
def At.den(O:Nat->eG):At->Value
 | .v x=>x
 | .p id off=>.pointer (some ⟨(O id).g,off,none⟩)
 | .s id off len cap=>.slice (some ⟨(O id).g,off,none⟩) len cap
 | .w id len=>match(O id).nil with
  |true=>.slice none 0 0
  |false=>.slice (some ⟨(O id).g,0,none⟩) len (O id).cap
 | .fn f caps=>.func (.func f) #[] (caps.map fun id=>Value.pointer (some ⟨(O id).g,0,none⟩)).toArray
def SV.den(O:Nat->eG):SV->Value
 | .o x=>x.den O
 | .a Z=>.agg (Z.map (At.den O)).toArray
def At.sc(n:Nat):At->Prop
 | .v _=>True
 | .p id _=>id<n
 | .s id _ _ _=>id<n
 | .w id _=>id<n
 | .fn _ caps=>∀id∈caps,id<n
def SV.sc(n:Nat):SV->Prop
 | .o x=>x.sc n
 | .a Z=>∀x∈Z,At.sc n x
inductive kp where
 |box (t:Nat) (Z:List At)
 |arr (t:Nat) (Z:List Value)
 |vec (t:Nat) (size:Nat) (Z:List Value)
 |dead
abbrev Env:=List (Nat×SV)
abbrev Hp:=List (Nat×kp)
abbrev Iv:=List (Nat×Nat)
def gK:Env->Nat->Option SV
 |[],_=>none
 |(t,v)::r,u=>match Nat.beq t u with
  |true=>some v
  |false=>gK r u
def dU:Hp->Nat->Option kp
 |[],_=>none
 |(t,v)::r,u=>match Nat.beq t u with
  |true=>some v
  |false=>dU r u
def EW:Hp->Nat->(Hp->Prop)->Prop
 |[],_,_=>False
 |(t,v)::r,u,k=>match Nat.beq t u with
  |true=>k ((t,.dead)::r)
  |false=>EW r u (fun r'=>k ((t,v)::r'))
def JW:Hp->Nat->kp->(Hp->Prop)->Prop
 |[],_,_,_=>False
 |(t,v)::r,u,b,k=>match Nat.beq t u with
  |true=>k ((t,b)::r)
  |false=>JW r u b (fun r'=>k ((t,v)::r'))
structure TI where
 size:Nat
 agg:Bool
 bytes:Nat
 zero:List Value
 tag:Nat
 ik:IntKind:=.i64
 elem:Nat:=0
 Fm:Nat:=0
 fields:List (Nat×Nat):=[]
def ev(l:Env):Operand->Option SV
 | .tmp t=>gK l t
 | .const v=>some (.o (.v v))
 | .global g=>some (.o (.v (.pointer (some ⟨g,0,none⟩))))
 | .func f=>some (.o (.v (.func (.func f) #[] #[])))
def rL(l:Env)(x:Operand)(k:SV->Prop):Prop:=match ev l x with
 |some v=>k v
 |none=>False
def Nx(l:Env):List Operand->(List SV->Prop)->Prop
 |[],k=>k []
 |x::r,k=>match ev l x with
  |some v=>Nx l r (fun vs=>k (v::vs))
  |none=>False
def wB:List At->Nat->(List At->Prop)->Prop
 |l,0,k=>k l
 |[],_+1,_=>False
 |_::t,n+1,k=>wB t n k
def wC:List At->Nat->(List At->Prop)->Prop
 |_,0,k=>k []
 |[],_+1,_=>False
 |x::t,n+1,k=>wC t n (fun r=>k (x::r))
def EX:List At->List At->(List At->Prop)->Prop
 |Z,[],k=>k Z
 |[],_::_,_=>False
 |_::t,x::r,k=>EX t r (fun t'=>k (x::t'))
def tF:List At->Nat->List At->(List At->Prop)->Prop
 |Z,0,new,k=>EX Z new k
 |[],_+1,_,_=>False
 |x::t,n+1,new,k=>tF t n new (fun t'=>k (x::t'))
def rM:List Value->(List At->Prop)->Prop
 |[],k=>k []
 |x::r,k=>rM r (fun r'=>k (.v x::r'))
def BR:SV->(List At->Prop)->Prop
 | .a Z,k=>k Z
 | .o (.v (.agg ⟨l⟩)),k=>rM l k
 | .o (.v (.tuple _)),_=>False
 | .o x,k=>k [x]
def At.one:At->Bool
 | .v (.agg _)=>false
 | .v (.tuple _)=>false
 |_=>true
def LG:List At->Prop->Prop
 |[],k=>k
 |x::r,k=>match x.one with
  |true=>LG r k
  |false=>False
def AK:List At->(List Value->Prop)->Prop
 |[],k=>k []
 | .v x::r,k=>match At.one (.v x)with
  |true=>AK r (fun r'=>k (x::r'))
  |false=>False
 |_::_,_=>False
def tG(b:Bool)(FS B:Prop):Prop:=match b with
 |true=>FS
 |false=>B
theorem tG.t{B:Prop}(h:tG b FS B)(e:b=true):FS:=by subst e;exact h
theorem tG.f{B:Prop}(h:tG b FS B)(e:b=false):B:=by subst e;exact h
theorem tG.mk{B:Prop}(I:b=true->FS)(G:b=false->B):tG b FS B:=by
 cases b
 .exact G rfl
 .exact I rfl
theorem bS{B:Prop}(I:b=true->FS)(G:b=false->B):tG b FS B:=.mk I G
structure Rel(H:Hp)(nx:Nat)(iv:Iv)(B:Nat)(w:World)(O:Nat->eG)(J:World):Prop where
 os:J.os=w.os
 tape:J.tape=w.tape
 output:J.output=w.output
 size:w.heap.size<=J.heap.size
 base:B<=w.heap.size
 tI:∀lo D,(lo,D)∈iv->D<=w.heap.size
 keys:∀id b,dU H id=some b->id<nx
 box:∀id t Z,dU H id=some (.box t Z)->J.heap[(O id).g]? =some (.cells (Z.map (At.den O)).toArray t (0,0))
 arr:∀id t Z,dU H id=some (.arr t Z)->J.heap[(O id).g]? =some (.cells Z.toArray t (0,0))
 vec:∀id t size Z,dU H id=some (.vec t size Z)->((O id).nil=true/\Z=[])\/
  ((O id).nil=false/\∃spare:List Value,J.heap[(O id).g]? =some (.cells (Z++spare).toArray t (0,0))/\(Z++spare).length=(O id).cap*size/\(O id).cap<=maxLen)
 inj:∀id id' b b',dU H id=some b->dU H id'=some b'->b≠ .dead->b'≠ .dead->(O id).nil=false->(O id').nil=false->(O id).g=(O id').g->id=id'
 low:∀id b,dU H id=some b->(O id).nil=false->B<=(O id).g/\(O id).g<J.heap.size
 yJ:∀k,k<w.heap.size->(∀id b,dU H id=some b->(O id).nil=false->(O id).g≠k)->J.heap[k]? =w.heap[k]?
 mA:∀lo D,(lo,D)∈iv->∀id b,dU H id=some b->(O id).nil=false->¬(lo<=(O id).g/\(O id).g<D)
 scH:∀id t Z,dU H id=some (.box t Z)->∀x∈Z,At.sc nx x
 nn:∀id b,dU H id=some b->(∀t size Z,b≠ .vec t size Z)->b≠ .dead->(O id).nil=false
structure OD(P:Program)(g:Nat):Prop where
 h:∀(args:Array Value) (w:World),(callFunc g args).run P w= .ok (.enter g args) w
structure eH(P:Program)(g:Nat)(args:Array Value)(w:World)(Fn:Ending->World->Prop):Prop where
 e:OD P g
 c:Calls P g args w Fn
def Fq:List At->Nat->Option At
 |[],_=>none
 |x::_,0=>some x
 |_::t,n+1=>Fq t n
def MS:List Value->Nat->Option Value
 |[],_=>none
 |x::_,0=>some x
 |_::t,n+1=>MS t n
def MT:List (Nat×Nat)->Nat->Option (Nat×Nat)
 |[],_=>none
 |x::_,0=>some x
 |_::t,n+1=>MT t n
def rR:IntKind->IntKind->Bool
 | .i8,.i8=>true| .i16,.i16=>true| .i32,.i32=>true| .i64,.i64=>true
 | .u8,.u8=>true| .u16,.u16=>true| .u32,.u32=>true| .u64,.u64=>true
 |_,_=>false
abbrev og:=Nat->Option TI
def MU(op:BinOp)(k:IntKind)(a b:Int)(GE:Value->Prop):Prop:=
 match op with
 | .add=>∃r,k.wrap (a+b)=r/\GE (.int k r)
 | .sub=>∃r,k.wrap (a-b)=r/\GE (.int k r)
 | .mul=>∃r,k.wrap (a*b)=r/\GE (.int k r)
 | .quo=>b≠0/\∃r,k.wrap (a.tdiv b)=r/\GE (.int k r)
 | .rem=>b≠0/\∃r,a.tmod b=r/\GE (.int k r)
 | .and=>∃r,k.wrap ((BitVec.ofInt k.bits a &&& BitVec.ofInt k.bits b).toNat:Int)=r/\GE (.int k r)
 | .or=>∃r,k.wrap ((BitVec.ofInt k.bits a ||| BitVec.ofInt k.bits b).toNat:Int)=r/\GE (.int k r)
 | .xor=>∃r,k.wrap ((BitVec.ofInt k.bits a ^^^ BitVec.ofInt k.bits b).toNat:Int)=r/\GE (.int k r)
 | .shl=>0<=b/\∃r,k.wrap (a*2^(min b.toNat k.bits))=r/\GE (.int k r)
 | .shr=>0<=b/\∃r,a.fdiv (2^(min b.toNat k.bits))=r/\GE (.int k r)
 | .eql=>GE (.bool (a==b))
 | .neq=>GE (.bool (a != b))
 | .lss=>GE (.bool (decide (a<b)))
 | .leq=>GE (.bool (decide (a<=b)))
 | .gtr=>GE (.bool (decide (a>b)))
 | .geq=>GE (.bool (decide (a≥b)))
 | .andNot=>∃r,k.wrap ((BitVec.ofInt k.bits a &&& ~~~BitVec.ofInt k.bits b).toNat:Int)=r/\GE (.int k r)
def aCg(P:Program)(τ:og)(op:BinOp)(t:Nat)(x y:SV)(GE:SV->Prop):Prop:=
 match x,y with
 | .o (.v (.int k a)),.o (.v (.int k' b))=>
  match op with
  | .shl=>MU op k a b (fun r=>GE (.o (.v r)))
  | .shr=>MU op k a b (fun r=>GE (.o (.v r)))
  |_=>match rR k k' with
   |true=>MU op k a b (fun r=>GE (.o (.v r)))
   |false=>False
 | .o (.v (.bool a)),.o (.v (.bool b))=>
  match τ t with
  |some ti=>match Nat.beq ti.tag 2 with
   |true=>match op with
    | .eql=>GE (.o (.v (.bool (a==b))))
    | .neq=>GE (.o (.v (.bool (!(a==b)))))
    |_=>False
   |false=>False
  |none=>False
 | .o (.v (.string a)),.o (.v (.string b))=>
  match op with
  | .eql=>GE (.o (.v (.bool (a.data.toList==b.data.toList))))
  | .neq=>GE (.o (.v (.bool (!(a.data.toList==b.data.toList)))))
  | .add=>a.size+b.size<=maxLen/\GE (.o (.v (.string (a++b))))
  |_=>False
 |_,_=>∃b:Bool,(∀(O:Nat->eG) (w:World) (o1 o2:Operand),(do eqGuard op t o1 o2 (x.den O) (y.den O);binOp op t (x.den O) (y.den O)).run P w= .ok (.bool b) w)/\GE (.o (.v (.bool b)))
def E5(τ:og)(B:Nat)(t:Nat)(addr:SV)(H:Hp)(nx:Nat)(iv:Iv)(w:World)(GE:SV->Prop):Prop:=
 match τ t with
 |none=>False
 |some ⟨sz,ag,_,_,_,_,_,_,_⟩=>
  match addr with
  | .o (.p id off)=>
   match dU H id with
   |some (.box _ Z)=>
    match ag with
    |false=>match Fq Z off with
     |some x=>GE (.o x)
     |none=>False
    |true=>wB Z off (fun r=>wC r sz (fun l=>GE (.a l)))
   |some (.arr _ Z)=>
    match ag with
    |false=>∃x,Z[off]? =some x/\GE (.o (.v x))
    |true=>∃xs:List Value,(Z.drop off).take sz=xs/\xs.length=sz/\rM xs (fun l=>GE (.a l))
   |some (.vec _ _ Z)=>
    match ag with
    |false=>∃x,Z[off]? =some x/\GE (.o (.v x))
    |true=>∃xs:List Value,(Z.drop off).take sz=xs/\xs.length=sz/\rM xs (fun l=>GE (.a l))
   |_=>False
  | .o (.v (.pointer (some ad)))=>
   match ag with
   |false=>∃x,(∀O J,Rel H nx iv B w O J->J.cell? ad=some x)/\GE (.o (.v x))
   |true=>∃xs:List Value,xs.length=sz/\(∀O J,Rel H nx iv B w O J->∀j x,xs[j]? =some x->J.cell? (ad.add j)=some x)/\rM xs (fun l=>GE (.a l))
  |_=>False
def setCells(w:World)(a:Addr):List Value->World
 |[]=>w
 |x::r=>setCells (w.setCell a x) (a.add 1) r
def Fs(τ:og)(B:Nat)(t:Nat)(addr x:SV)(H:Hp)(nx:Nat)(iv:Iv)(w:World)(GE:Hp->World->Prop):Prop:=
 match τ t with
 |none=>False
 |some ⟨sz,_,_,_,_,_,_,_,_⟩=>
  BR x (fun new=>LG new (match Nat.beq new.length sz with
   |false=>False
   |true=>match addr with
    | .o (.p id off)=>
     match dU H id with
     |some (.box bt Z)=>tF Z off new (fun cs'=>JW H id (.box bt cs') (fun H'=>GE H' w))
     |some (.arr bt Z)=>AK new (fun nv=>off+sz<=Z.length/\∃cs',Z.take off++nv++Z.drop (off+sz)=cs'/\JW H id (.arr bt cs') (fun H'=>GE H' w))
     |some (.vec bt ez Z)=>AK new (fun nv=>off+sz<=Z.length/\∃cs',Z.take off++nv++Z.drop (off+sz)=cs'/\JW H id (.vec bt ez cs') (fun H'=>GE H' w))
     |_=>False
    | .o (.v (.pointer (some ad)))=>AK new (fun nv=>∀O J,Rel H nx iv B w O J->
      ad.spot=none/\(∀j,j<sz->(J.cell? (ad.add j)).isSome=true/\J.frozen? (ad.add j)=false)/\
      (∀id b,dU H id=some b->(O id).nil=false->(O id).g≠ad.block)/\
      ∀Y,Y=setCells J ad nv->GE H Y)
    |_=>False))
def Dk(b:kp)(H:Hp)(nx:Nat)(GE:Hp->Nat->Prop):Prop:=GE ((nx,b)::H) (nx+1)
def rS(τ:og)(fs:List (Nat×Nat))(f:Nat)(k:Nat->Nat->Bool->Prop):Prop:=
 match MT fs f with
 |some (off,ft)=>match τ ft with
  |some ⟨sz,ag,_,_,_,_,_,_,_⟩=>match Nat.beq sz 0 with
   |true=>False
   |false=>k off sz ag
  |none=>False
 |none=>False
def Ax(x:SV)(n:Nat)(GE:SV->Prop):Prop:=
 match x with
 | .o (.p id off)=>GE (.o (.p id (off+n)))
 | .o (.v (.pointer (some ad)))=>GE (.o (.v (.pointer (some (ad.add n)))))
 |_=>False
def yN(l:Env)(place:Nat->(Nat->Nat->Prop)->Prop):List (Nat×Operand)->List At->(List At->Prop)->Prop
 |[],Z,k=>k Z
 |(i,x)::r,Z,k=>place i (fun off size=>rL l x (fun v=>BR v (fun new=>match Nat.beq new.length size with
   |true=>tF Z off new (fun cs'=>yN l place r cs' k)
   |false=>False)))
def MV(H:Hp)(id m:Nat)(GE:Prop):Prop:=
 match dU H id with
 |some (.vec _ sz Z)=>match sz with
  |0=>False
  |k+1=>Z.length=m*(k+1)/\GE
 |_=>False
def aCh(τ:og)(H:Hp)(t:Nat)(x:SV)(GE:Int->Prop):Prop:=
 match τ t with
 |none=>False
 |some ⟨_,_,_,_,tag,_,_,Fm,_⟩=>match Nat.beq tag 4 with
  |true=>match x with
   | .o (.v (.slice _ n _))=>GE n
   | .o (.s _ _ n _)=>GE n
   | .o (.w id n)=>MV H id n (GE n)
   |_=>False
  |false=>match Nat.beq tag 3 with
   |true=>match x with
    | .o (.v (.string b))=>GE b.size
    |_=>False
   |false=>match Nat.beq tag 6 with
    |true=>GE Fm
    |false=>False
def Jc(τ:og)(H:Hp)(t:Nat)(x i:SV)(GE:SV->Prop):Prop:=
 match i with
 | .o (.v (.int _ i))=>match τ t with
  |some ⟨_,_,_,_,tag,_,e,Fm,_⟩=>match τ e with
   |some ⟨sz,_,_,_,_,_,_,_,_⟩=>match Nat.beq tag 4 with
    |true=>match x with
     | .o (.s id off n _)=>(0<=i/\i<n)/\GE (.o (.p id (off+i.toNat*sz)))
     | .o (.w id n)=>MV H id n ((0<=i/\i<n)/\GE (.o (.p id (i.toNat*sz))))
     | .o (.v (.slice a n _))=>∃ad,a=some ad/\(0<=i/\i<n)/\GE (.o (.v (.pointer (some (ad.add (i.toNat*sz))))))
     |_=>False
    |false=>match Nat.beq tag 6 with
     |true=>(0<=i/\i<Fm)/\Ax x (i.toNat*sz) GE
     |false=>False
   |none=>False
  |none=>False
 |_=>False
def loK(l:Env)(x:Option Operand)(dflt:Int)(GE:Int->Prop):Prop:=
 match x with
 |none=>GE dflt
 |some o=>rL l o (fun v=>match v with
  | .o (.v (.int _ n))=>GE n
  |_=>False)
def Jd(τ:og)(H:Hp)(t:Nat)(x:SV)(l:Env)(lo D:Option Operand)(GE:SV->Prop):Prop:=
 match τ t with
 |some ⟨_,_,_,_,tag,_,e,al,_⟩=>match Nat.beq tag 4 with
  |true=>match τ e with
   |some ⟨sz,_,_,_,_,_,_,_,_⟩=>match x with
    | .o (.s id off n c)=>loK l lo 0 (fun a=>loK l D n (fun b=>(0<=a/\a<=b/\b<=c)/\∃off' n' c':Nat,(if (c:Int)=a then off else off+a.toNat*sz)=off'/\b.toNat-a.toNat=n'/\c-a.toNat=c'/\GE (.o (.s id off' n' c'))))
    | .o (.v (.slice ad n c))=>loK l lo 0 (fun a=>loK l D n (fun b=>(0<=a/\a<=b/\b<=c)/\∃ad' n' c',(if (c:Int)=a then ad else ad.map (·.add (a.toNat*sz)))=ad'/\b.toNat-a.toNat=n'/\c-a.toNat=c'/\GE (.o (.v (.slice ad' n' c')))))
    | .o (.w id n)=>match lo with
     |none=>MV H id n (loK l D n (fun b=>(0<=b/\b<=n)/\∃m:Nat,b.toNat=m/\GE (.o (.w id m))))
     |some _=>False
    |_=>False
   |none=>False
  |false=>match Nat.beq tag 6 with
   |true=>match τ e with
    |some ⟨_,_,_,_,_,_,_,_,_⟩=>match x with
     | .o (.p id off)=>match lo,D with
      |none,none=>match Nat.beq al 0 with
       |false=>GE (.o (.s id off al al))
       |true=>False
      |_,_=>False
     |_=>False
    |none=>False
   |false=>match Nat.beq tag 3 with
    |true=>match x with
     | .o (.v (.string s))=>loK l lo 0 (fun a=>loK l D s.size (fun b=>(0<=a/\a<=b/\b<=s.size)/\GE (.o (.v (.string (s.extract a.toNat b.toNat))))))
     |_=>False
    |false=>False
 |none=>False
def LL(τ:og)(t:Nat)(x y:SV)(H:Hp)(nx:Nat)(GE:SV->Hp->Nat->Prop):Prop:=
 match x,y with
 | .o (.v (.int _ a)),.o (.v (.int _ b))=>match τ t with
  |some ⟨_,_,_,_,tag,_,e,_,_⟩=>match Nat.beq tag 4 with
   |true=>match τ e with
    |some ⟨_,_,by_,ze,_,_,_,_,_⟩=>∃n c:Nat,a=n/\b=c/\n<=c/\by_*c<=281474976710656/\c<=9223372036854775807/\
      match ze with
      |[z]=>Dk (.arr e (List.replicate c z)) H nx (fun H' PC=>GE (.o (.s nx 0 n c)) H' PC)
      |zs=>Dk (.arr e (List.replicate c zs).flatten) H nx (fun H' PC=>GE (.o (.s nx 0 n c)) H' PC)
    |none=>False
   |false=>False
  |none=>False
 |_,_=>False
def OH(B:Nat)(H:Hp)(nx:Nat)(iv:Iv)(w:World)(size:Nat)(x:SV)(GE:Nat->List Value->Prop):Prop:=
 match x with
 | .o (.s id off n _)=>match dU H id with
  |some (.box _ Z)=>wB Z off (fun r=>wC r (n*size) (fun l=>AK l (fun vs=>GE n vs)))
  |some (.arr _ Z)=>∃vs:List Value,(Z.drop off).take (n*size)=vs/\vs.length=n*size/\(∀x∈vs,x.oneCell'=true)/\GE n vs
  |_=>False
 | .o (.v (.slice a n _))=>∃vs:List Value,vs.length=n*size/\(∀x∈vs,x.oneCell'=true)/\
   (∀O J,Rel H nx iv B w O J->0<n->∃ad,a=some ad/\∀j u,vs[j]? =some u->J.cell? (ad.add j)=some u)/\GE n vs
 | .o (.w id n)=>match dU H id with
  |some (.vec _ _ Z)=>Z.length=n*size/\(∀x∈Z,x.oneCell'=true)/\GE n Z
  |_=>False
 |_=>False
def Ay(τ:og)(B:Nat)(t:Nat)(x y:SV)(H:Hp)(nx:Nat)(iv:Iv)(w:World)(GE:SV->Hp->Nat->Prop):Prop:=
 match τ t with
 |none=>False
 |some ⟨_,_,_,_,tag,_,e,_,_⟩=>match Nat.beq tag 4 with
  |true=>match τ e with
   |some ⟨sz,_,by_,ze,_,_,_,_,_⟩=>match ze with
    |[]=>False
    |_::_=>OH B H nx iv w sz y (fun m news=>
     match x with
     | .o (.v (.slice none 0 0))=>m*by_<=140737488355328/\m<=maxLen/\Dk (.vec e sz news) H nx (fun H' PC=>GE (.o (.w nx m)) H' PC)
     | .o (.w id n)=>match dU H id with
      |some (.vec e' sz' Z)=>match Nat.beq e' e with
       |true=>match Nat.beq sz' sz with
        |true=>Z.length=n*sz/\(n+m)*by_<=140737488355328/\n+m<=maxLen/\EW H id (fun H1=>Dk (.vec e sz (Z++news)) H1 nx (fun H' PC=>GE (.o (.w nx (n+m))) H' PC))
        |false=>False
       |false=>False
      |_=>False
     | .o (.s id 0 n c)=>match Nat.beq n c with
      |true=>match dU H id with
       |some (.box e' Z)=>match Nat.beq e' e with
        |true=>AK Z (fun vs=>vs.length=n*sz/\(n+m)*by_<=140737488355328/\n+m<=maxLen/\EW H id (fun H1=>Dk (.vec e sz (vs++news)) H1 nx (fun H' PC=>GE (.o (.w nx (n+m))) H' PC)))
        |false=>False
       |_=>False
      |false=>False
     |_=>False)
   |none=>False
  |false=>False
def oQ(O:Nat->eG)(xs:List SV):Array Value:=(xs.map (SV.den O)).toArray
abbrev Ext(w Y:World):Prop:=RowKit.Below w.heap.size w Y
structure E4(P:Program)(B:Nat)(g:Nat)(args:(Nat->eG)->Array Value)(H:Hp)(nx:Nat)(iv:Iv)(w:World)(GE:SV->Hp->Iv->World->Prop):Prop where
 h:∀O J,Rel H nx iv B w O J->eH P g (args O) J (fun e Y=>∃v H' N,e= .returned v/\Rel H' nx N B Y O Y/\GE (.o (.v v)) H' N Y)
structure H3(P:Program)(B:Nat)(g:Nat)(args:(Nat->eG)->Array Value)(H:Hp)(nx:Nat)(iv:Iv)(w:World)(GE:SV->Hp->Iv->World->Prop):Prop where
 h:∀O J,Rel H nx iv B w O J->eH P g (args O) J (fun e Y=>∃v,e= .returned v/\Ext J Y/\GE (.o (.v v)) H ((J.heap.size,Y.heap.size)::iv) Y)
def OI(dr:Bool)(P:Program)(B:Nat)(g:Nat)(args:(Nat->eG)->Array Value)(H:Hp)(nx:Nat)(iv:Iv)(w:World)(GE:SV->Hp->Iv->World->Prop):Prop:=
 match dr with
 |true=>H3 P B g args H nx iv w GE
 |false=>E4 P B g args H nx iv w GE
structure B1(P:Program)(B:Nat)(o:Oper)(l:Env)(H:Hp)(nx:Nat)(iv:Iv)(w:World)(GE:SV->Hp->Nat->Iv->World->Prop):Prop where
 h:∀(O:Nat->eG) J (e:Operand->Value),Rel H nx iv B w O J->(∀x v,ev l x=some v->e x=v.den O)->
  ∃v Y N,((execOp e o).run P J= .ok (.value v) Y\/((execOp e o).run P J= .ok .skip Y/\v=undef))/\Rel H nx N B Y O Y/\GE (.o (.v v)) H nx N Y
def fbK(dr:Bool)(P:Program)(B:Nat)(o:Oper)(l:Env)(H:Hp)(nx:Nat)(iv:Iv)(w:World)(GE:SV->Hp->Nat->Iv->World->Prop):Prop:=
 match dr with
 |true=>False
 |false=>B1 P B o l H nx iv w GE
structure OpG(P:Program)(B:Nat)(o:Oper)(l:Env)(H:Hp)(nx:Nat)(iv:Iv)(w:World)(GE:SV->Hp->Nat->Iv->World->Prop):Prop where
 h:∀(O:Nat->eG) J (e:Operand->Value),Rel H nx iv B w O J->(∀x v,ev l x=some v->e x=v.den O)->
  ∃Y w3 H' N,(execOp e o).run P J= .ok .skip w3/\Rel H' nx N B Y O w3/\GE (.o (.v undef)) H' nx N Y
def gbK(dr:Bool)(P:Program)(B:Nat)(o:Oper)(l:Env)(H:Hp)(nx:Nat)(iv:Iv)(w:World)(GE:SV->Hp->Nat->Iv->World->Prop):Prop:=
 match dr with
 |true=>False
 |false=>OpG P B o l H nx iv w GE
structure OpA(P:Program)(B:Nat)(o:Oper)(l:Env)(H:Hp)(nx:Nat)(iv:Iv)(w:World)(GE:SV->Hp->Nat->Iv->World->Prop):Prop where
 h:∀(O:Nat->eG) J (e:Operand->Value),Rel H nx iv B w O J->(∀x v,ev l x=some v->e x=v.den O)->
  ∃v H' PC N IR Y w3,(execOp e o).run P J= .ok (.value (SV.den IR v)) w3/\Rel H' PC N B Y IR w3/\v.sc PC/\nx<=PC/\(∀id,id<nx->O id=IR id)/\GE v H' PC N Y
def gaK(dr:Bool)(P:Program)(B:Nat)(o:Oper)(l:Env)(H:Hp)(nx:Nat)(iv:Iv)(w:World)(GE:SV->Hp->Nat->Iv->World->Prop):Prop:=
 match dr with
 |true=>False
 |false=>OpA P B o l H nx iv w GE
def aDV(H:Hp):SV->Bool
 | .o (.s id _ _ _)=>match dU H id with
  |some (.box _ [.s _ _ _ _])=>true
  |some (.box _ [.w _ _])=>true
  |_=>false
 |_=>false
def aCW(H:Hp):SV->SV->Bool
 | .o (.p id _),.o (.s _ _ _ _)=>match dU H id with
  |some (.arr _ _)=>true
  |_=>false
 |_,_=>false
def p8:List SV->(List Nat->Prop)->Prop
 |[],k=>k []
 | .o (.p id 0)::r,k=>p8 r (fun l=>k (id::l))
 |_::_,_=>False
def BS(dr:Bool)(P:Program)(τ:og)(B:Nat)(o:Oper)(l:Env)(H:Hp)(nx:Nat)(iv:Iv)(w:World)(GE:SV->Hp->Nat->Iv->World->Prop):Prop:=
 match o.op with
 | .move x=>rL l x (fun v=>GE v H nx iv w)
 | .assign x=>rL l x (fun v=>GE v H nx iv w)
 | .pick c a b=>rL l c (fun v=>match v with
  | .o (.v (.bool t))=>tG t (rL l a (fun v=>GE v H nx iv w)) (rL l b (fun v=>GE v H nx iv w))
  |_=>False)
 | .alloc t=>match τ t with
  |some ⟨_,_,_,ze,_,_,_,_,_⟩=>rM ze (fun Z=>Dk (.box t Z) H nx (fun H' PC=>GE (.o (.p nx 0)) H' PC iv w))
  |none=>False
 | .box t x=>rL l x (fun v=>BR v (fun Z=>Dk (.box t Z) H nx (fun H' PC=>GE (.o (.p nx 0)) H' PC iv w)))
 | .build t parts=>match τ t with
  |some ⟨_,_,_,ze,tag,_,e,_,fs⟩=>match Nat.beq tag 5 with
   |true=>rM ze (fun z=>yN l (fun i k=>rS τ fs i (fun off sz _=>k off sz)) parts.toList z (fun Z=>GE (.a Z) H nx iv w))
   |false=>match Nat.beq tag 6 with
    |true=>match τ e with
     |some ⟨sz,_,_,_,_,_,_,_,_⟩=>rM ze (fun z=>yN l (fun i k=>k (i*sz) sz) parts.toList z (fun Z=>GE (.a Z) H nx iv w))
     |none=>False
    |false=>False
  |none=>False
 | .buildSlice t n parts=>match τ t with
  |some ⟨_,_,_,_,tag,_,e,_,_⟩=>match Nat.beq tag 4 with
   |true=>match τ e with
    |some ⟨sz,_,_,ze,_,_,_,_,_⟩=>match Nat.ble (n*sz) 16777216 with
     |true=>rM (List.replicate n ze).flatten (fun z=>yN l (fun i k=>k (i*sz) sz) parts.toList z (fun Z=>
       Dk (.box e Z) H nx (fun H' PC=>GE (.o (.s nx 0 n n)) H' PC iv w)))
     |false=>False
    |none=>False
   |false=>False
  |none=>False
 | .load t a=>rL l a (fun v=>E5 τ B t v H nx iv w (fun r=>GE r H nx iv w))
 | .store t a x=>rL l a (fun va=>rL l x (fun vx=>match aCW H va vx with
  |true=>gbK dr P B o l H nx iv w GE
  |false=>Fs τ B t va vx H nx iv w (fun H' J=>GE (.o (.v undef)) H' nx iv J)))
 | .nilCheck x=>rL l x (fun v=>match v with
  | .o (.p id off)=>GE (.o (.p id off)) H nx iv w
  | .o (.v (.pointer (some ad)))=>GE (.o (.v (.pointer (some ad)))) H nx iv w
  | .o (.fn f ids)=>GE (.o (.fn f ids)) H nx iv w
  | .o (.v (.func (.func f) fi ca))=>GE (.o (.v (.func (.func f) fi ca))) H nx iv w
  |_=>False)
 | .binOp op t x y _=>rL l x (fun vx=>rL l y (fun vy=>aCg P τ op t vx vy (fun r=>GE r H nx iv w)))
 | .unOp op _ x=>rL l x (fun v=>match op,v with
  | .not,.o (.v (.bool b))=>GE (.o (.v (.bool (!b)))) H nx iv w
  | .neg,.o (.v (.int k n))=>∃r,k.wrap (0-n)=r/\GE (.o (.v (.int k r))) H nx iv w
  | .xor,.o (.v (.int k n))=>∃r,k.wrap ((BitVec.ofInt k.bits (if k.signed then -1 else k.max) ^^^ BitVec.ofInt k.bits n).toNat:Int)=r/\GE (.o (.v (.int k r))) H nx iv w
  |_,_=>False)
 | .convert sr d x=>match τ sr with
  |some _=>rL l x (fun v=>match τ d with
   |some ⟨_,_,_,_,tag,ik,_,_,_⟩=>match Nat.beq tag 1 with
    |true=>match v with
     | .o (.v (.int _ n))=>∃r,ik.wrap n=r/\GE (.o (.v (.int ik r))) H nx iv w
     |_=>False
    |false=>fbK dr P B o l H nx iv w GE
   |none=>False)
  |none=>False
 | .makeFunc (.func f) ⟨first⟩ caps=>match first with
  |[]=>Nx l caps.toList (fun vs=>p8 vs (fun ids=>GE (.o (.fn f ids)) H nx iv w))
  |_=>False
 | .makeSlice t x y=>rL l x (fun vx=>rL l y (fun vy=>LL τ t vx vy H nx (fun v H' PC=>GE v H' PC iv w)))
 | .slice t x lo D none=>rL l x (fun v=>Jd τ H t v l lo D (fun r=>GE r H nx iv w))
 | .fieldAddr t x f=>match τ t with
  |some ⟨_,_,_,_,tag,_,_,_,fs⟩=>match Nat.beq tag 5 with
   |true=>rS τ fs f (fun off _ _=>rL l x (fun v=>Ax v off (fun r=>GE r H nx iv w)))
   |false=>False
  |none=>False
 | .field t x f=>match τ t with
  |some ⟨_,_,_,_,tag,_,_,_,fs⟩=>match Nat.beq tag 5 with
   |true=>rS τ fs f (fun off sz ag=>rL l x (fun v=>match v with
    | .o (.v (.agg ⟨vs⟩))=>rM vs (fun Z=>match ag with
     |true=>wB Z off (fun r=>wC r sz (fun c=>GE (.a c) H nx iv w))
     |false=>match Fq Z off with
      |some c=>GE (.o c) H nx iv w
      |none=>False)
    | .a Z=>match ag with
     |true=>wB Z off (fun r=>wC r sz (fun c=>GE (.a c) H nx iv w))
     |false=>match Fq Z off with
      |some c=>GE (.o c) H nx iv w
      |none=>False
    |_=>False))
   |false=>False
  |none=>False
 | .indexAddr t x i=>rL l x (fun vx=>rL l i (fun vi=>Jc τ H t vx vi (fun r=>GE r H nx iv w)))
 | .extract x i=>rL l x (fun v=>match v with
  | .o (.v (.tuple ⟨vs⟩))=>match MS vs i with
   |some u=>GE (.o (.v u)) H nx iv w
   |none=>False
  |_=>False)
 | .call ⟨.builtin .len,⟨[x]⟩,⟨[t]⟩⟩=>rL l x (fun v=>aCh τ H t v (fun n=>GE (.o (.v (.int .i64 n))) H nx iv w))
 | .call ⟨.builtin .append,⟨[x,y]⟩,⟨[t,u]⟩⟩=>match Nat.beq t u with
  |true=>rL l x (fun vx=>rL l y (fun vy=>match aDV H vy with
   |true=>gaK dr P B o l H nx iv w GE
   |false=>Ay τ B t vx vy H nx iv w (fun v H' PC=>GE v H' PC iv w)\/B1 P B o l H nx iv w GE))
  |false=>B1 P B o l H nx iv w GE
 | .call ⟨.builtin .max,⟨[x,y]⟩,_⟩=>rL l x (fun vx=>rL l y (fun vy=>match vx,vy with
  | .o (.v (.int k a)),.o (.v (.int k' b))=>match rR k k' with
   |true=>GE (.o (.v (.int k (max a b)))) H nx iv w
   |false=>False
  |_,_=>False))
 | .call ⟨.builtin .min,⟨[x,y]⟩,_⟩=>rL l x (fun vx=>rL l y (fun vy=>match vx,vy with
  | .o (.v (.int k a)),.o (.v (.int k' b))=>match rR k k' with
   |true=>GE (.o (.v (.int k (min a b)))) H nx iv w
   |false=>False
  |_,_=>False))
 | .call ⟨.builtin .copy,_,_⟩=>B1 P B o l H nx iv w GE
 | .call ⟨.builtin .clear,_,_⟩=>B1 P B o l H nx iv w GE
 | .call ⟨.builtin .cap,_,_⟩=>B1 P B o l H nx iv w GE
 | .index _ _ _=>B1 P B o l H nx iv w GE
 | .makeMap _ _=>B1 P B o l H nx iv w GE
 | .lookup _ _ _ _=>B1 P B o l H nx iv w GE
 | .mapUpdate _ _ _ _=>B1 P B o l H nx iv w GE
 | .call ⟨.value f,⟨args⟩,_⟩=>rL l f (fun vf=>Nx l args (fun vs=>match vf with
   | .o (.v (.func (.func g) first caps))=>OI dr P B g (fun O=>first++oQ O vs++caps) H nx iv w (fun v H' N J=>GE v H' nx N J)
   | .o (.fn g ids)=>OI dr P B g (fun O=>oQ O vs++(ids.map fun id=>Value.pointer (some ⟨(O id).g,0,none⟩)).toArray) H nx iv w (fun v H' N J=>GE v H' nx N J)
   |_=>False))
 |_=>False
def E6:List Oper->Nat->Option Tmp
 |[],_=>none
 |o::_,0=>o.dst
 |_::r,n+1=>E6 r n
def H0(d:Option Tmp)(v:SV)(l:Env)(k:Env->Prop):Prop:=match d with
 |some t=>k ((t,v)::l)
 |none=>k l
def wF(all:List Oper)(g:Option (Nat×Bool))(l:Env)(yes no:Env->Prop):Prop:=
 match g with
 |none=>yes l
 |some (j,want)=>match E6 all j with
  |none=>no l
  |some d=>match gK l d with
   |some (.o (.v (.bool b)))=>match want with
    |true=>tG b (yes ((d,.o (.v (.bool true)))::l)) (no ((d,.o (.v (.bool false)))::l))
    |false=>tG b (no ((d,.o (.v (.bool true)))::l)) (yes ((d,.o (.v (.bool false)))::l))
   |some (.o (.v (.tuple _)))=>no l
   |_=>False
def jA(dr:Bool)(P:Program)(τ:og)(B:Nat)(all:List Oper)(o:Oper)(l:Env)(H:Hp)(nx:Nat)(iv:Iv)(w:World)(k:Env->Hp->Nat->Iv->World->Prop):Prop:=
 wF all o.guard l
  (fun l=>BS dr P τ B o l H nx iv w (fun v H' PC N J=>H0 o.dst v l (fun l'=>k l' H' PC N J)))
  (fun l=>H0 o.dst (.o (.v undef)) l (fun l'=>k l' H nx iv w))
def LM(P:Program)(τ:og)(B:Nat)(all:List Oper):List Oper->Env->Hp->Nat->Iv->World->(Env->Hp->Nat->Iv->World->Prop)->Prop
 |[],l,H,nx,iv,w,GE=>GE l H nx iv w
 |o::r,l,H,nx,iv,w,GE=>jA false P τ B all o l H nx iv w (fun l' H' PC N J=>LM P τ B all r l' H' PC N J GE)
inductive Ex where
 |normal
 |exit (id:Nat)
 |ret
structure Sat(n:Nat)(l:Env)(H:Hp)(nx:Nat)(iv:Iv)(B:Nat)(w:World)(O:Nat->eG)(a:Act)(J:World):Prop where
 rel:Rel H nx iv B w O J
 size:a.tmps.size=n
 defers:a.defers=[]
 env:∀t v,gK l t=some v->a.tmps[t]? =some (v.den O)
 sc:∀t v,gK l t=some v->v.sc nx
abbrev KT:=Env->Hp->Nat->Iv->World->Prop
structure yM(P:Program)(B:Nat)(ops:Array Oper)(l:Env)(H:Hp)(nx:Nat)(iv:Iv)(w:World)(GE:KT):Prop where
 h:∀n O a J,ops.toList.all (fun o=>match o.dst with
   |some d=>Nat.blt d n
   |none=>true)=true->Sat n l H nx iv B w O a J->
  ∀Q:Exit->Act->World->Prop,(∀l' H' PC N Y IR a' w'',GE l' H' PC N Y->Sat n l' H' PC N B Y IR a' w''->Q .normal a' w'')->
  ∀id,(Code.region id ops true).wp P Q a J
structure B4 where
 l:Env
 H:Hp
 nx:Nat
 iv:Iv
 w:World
def Sub(B:Nat)(l:Env)(_nx:Nat)(O:Nat->eG)(J:World)(t:B4):Prop:=
 ∃IR,Rel t.H t.nx t.iv B t.w IR J/\(∀u v,gK t.l u=some v->v.sc t.nx/\∃v0,gK l u=some v0/\v0.den O=v.den IR)
def oT(P:Program)(τ:og)(B:Nat):Code->Env->Hp->Nat->Iv->World->(Ex->KT)->Prop
 | .skip,l,H,nx,iv,w,Q=>Q .normal l H nx iv w
 | .region _ ops false,l,H,nx,iv,w,Q=>LM P τ B ops.toList ops.toList l H nx iv w (Q .normal)
 | .region _ ops true,l,H,nx,iv,w,Q=>yM P B ops l H nx iv w (Q .normal)
 | .seq a b,l,H,nx,iv,w,Q=>oT P τ B a l H nx iv w (fun e l H nx iv w=>match e with
  | .normal=>oT P τ B b l H nx iv w Q
  | .exit id=>Q (.exit id) l H nx iv w
  | .ret=>Q .ret l H nx iv w)
 | .cond c a b,l,H,nx,iv,w,Q=>rL l c (fun v=>match v with
  | .o (.v (.bool t))=>tG t (oT P τ B a l H nx iv w Q) (oT P τ B b l H nx iv w Q)
  |_=>False)
 | .block id c,l,H,nx,iv,w,Q=>oT P τ B c l H nx iv w (fun e l H nx iv w=>match e with
  | .normal=>Q .normal l H nx iv w
  | .exit id'=>match Nat.beq id' id with
   |true=>Q .normal l H nx iv w
   |false=>Q (.exit id') l H nx iv w
  | .ret=>Q .ret l H nx iv w)
 | .loop c,l,H,nx,iv,w,Q=>∃(α:Type) (st:α->B4) (μ:α->Nat) (A':α->Prop),
   (∀O J,Rel H nx iv B w O J->∃x,A' x/\Sub B l nx O J (st x))/\
   ∀x,A' x->oT P τ B c (st x).l (st x).H (st x).nx (st x).iv (st x).w (fun e l H nx iv w=>match e with
    | .normal=>∀O J,Rel H nx iv B w O J->∃y,A' y/\Sub B l nx O J (st y)/\μ y<μ x
    | .exit id=>Q (.exit id) l H nx iv w
    | .ret=>Q .ret l H nx iv w)
 | .exit id,l,H,nx,iv,w,Q=>Q (.exit id) l H nx iv w
 | .ret,l,H,nx,iv,w,Q=>Q .ret l H nx iv w
 |_,_,_,_,_,_,_=>False
structure Jb(P:Program)(t:Nat)(i:TI):Prop where
 info:∃inf z,P.info? t=some inf/\inf.size=i.size/\inf.bytes=i.bytes/\inf.zero=some z/\z.cells.toList=i.zero
 MQ:i.zero.length=i.size
 aDr:∀x∈i.zero,x.oneCell'=true
 agg:∃d,P.underlying t=some d/\(match d with| .struct _| .array _ _=>true|_=>false)=i.agg
 i1:i.tag=1->P.underlying t=some (.int i.ik)
 i2:i.tag=2->P.underlying t=some .bool
 i3:i.tag=3->P.underlying t=some .string
 i4:i.tag=4->P.underlying t=some (.slice i.elem)
 i5:i.tag=5->∃fs,P.underlying t=some (.struct fs)/\fs.toList.map (fun f=>(f.offset,f.type))=i.fields/\∀f∈fs.toList,(P.info? f.type).isSome=true
 i6:i.tag=6->P.underlying t=some (.array i.Fm i.elem)
def gM(P:Program)(τ:og):Prop:=∀t i,τ t=some i->Jb P t i
theorem fA{a b:Nat}(h:Nat.beq a b=true):a=b:=bm h
theorem gP:∀{xs:List Value} {k:List At->Prop},rM xs k->k (xs.map At.v)
 |[],_,h=>h
 |x::r,k,h=>by
  have:=gP (xs:=r) (k:=fun r'=>k (.v x::r')) h;simpa using this
theorem p9:∀{Z:List At} {n:Nat} {k:List At->Prop},wB Z n k->k (Z.drop n)/\n<=Z.length
 |Z,0,k,h=>by cases Z<;>exact⟨by simpa [wB]using h,bv⟩
 |[],n+1,k,h=>by simp[wB]at h
 |x::t,n+1,k,h=>by
  have:=p9 (Z:=t) (n:=n) (k:=k) h;exact⟨by simpa using this.1,by simp;omega⟩
theorem pc:∀{Z:List At} {n:Nat} {k:List At->Prop},wC Z n k->k (Z.take n)/\n<=Z.length
 |Z,0,k,h=>by cases Z<;>exact⟨by simpa [wC]using h,bv⟩
 |[],n+1,k,h=>by simp[wC]at h
 |x::t,n+1,k,h=>by
  have:=pc (Z:=t) (n:=n) (k:=fun r=>k (x::r)) h;exact⟨by simpa using this.1,by simp;omega⟩
theorem B6:∀{Z new:List At} {k:List At->Prop},EX Z new k->k (new++Z.drop new.length)/\new.length<=Z.length
 |Z,[],k,h=>by cases Z<;>exact⟨by simpa [EX]using h,bv⟩
 |[],x::r,k,h=>by simp[EX]at h
 |_::t,x::r,k,h=>by
  have:=B6 (Z:=t) (new:=r) (k:=fun t'=>k (x::t')) h;exact⟨by simpa using this.1,by simp;omega⟩
theorem pe:∀{Z:List At} {off:Nat} {new:List At} {k:List At->Prop},tF Z off new k->
  k (Z.take off++new++Z.drop (off+new.length))/\off+new.length<=Z.length
 |Z,0,new,k,h=>by
  have h':EX Z new k:=by cases Z<;>simpa [tF]using h
  have:=B6 h';exact⟨by simpa using this.1,be⟩
 |[],n+1,new,k,h=>by simp[tF]at h
 |x::t,n+1,new,k,h=>by
  have:=pe (Z:=t) (off:=n) (new:=new) (k:=fun t'=>k (x::t')) h;refine⟨?_,by simp;omega⟩;have G:=this.1;rw[show n+1+new.length=(n+new.length)+1 by omega];simpa using G
theorem one_den{x:At}(h:x.one=true)(O:Nat->eG):(x.den O).oneCell'=true:=by
 cases x with
 |v y=>cases y<;>simp_all [At.one,At.den,Value.oneCell']
 |w id n=>simp only[At.den];split<;>rfl
 |_=>rfl
theorem B7:∀{Z:List At} {k:Prop},LG Z k->k/\∀c∈Z,At.one c=true
 |[],k,h=>⟨h,bv⟩
 |x::r,k,h=>by
  unfold LG at h;split at h
  .rename_i U;have:=B7 h;exact⟨this.1,by simp[U];exact this.2⟩
  .exact h.elim
theorem mf:∀{Z:List At} {k:List Value->Prop},AK Z k->∃vs,k vs/\Z=vs.map At.v/\∀v∈vs,v.oneCell'=true
 |[],k,h=>⟨[],h,rfl,bv⟩
 | .v x::r,k,h=>by
  unfold AK at h;split at h
  .rename_i U;obtain⟨vs,I,G,h3⟩:=mf h;exact⟨x::vs,I,by simp[G],by simp;exact⟨one_den U (fun _=>⟨0,0,false⟩),h3⟩⟩
  .exact h.elim
 | .p _ _::_,k,h=>by simp[AK]at h
 | .s _ _ _ _::_,k,h=>by simp[AK]at h
 | .w _ _::_,k,h=>by simp[AK]at h
 | .fn _ _::_,k,h=>by simp[AK]at h
theorem nc{x:SV}{k:List At->Prop}(h:BR x k):∃Z,k Z/\(∀O,(x.den O).cells=(Z.map (At.den O)).toArray)/\(∀n,x.sc n->∀c∈Z,c.sc n):=by
 cases x with
 |a Z=>exact⟨Z,h,fun O=>rfl,fun n W=>W⟩
 |o y=>
  cases y with
  |v z=>
   cases z with
   |agg arr=>
    obtain⟨l⟩:=arr;refine⟨_,gP h,fun O=>?_,fun n _ c hc=>?_⟩
    .simp[SV.den,At.den,Value.cells,Function.comp_def]
    .simp at hc;obtain⟨v,_,rfl⟩:=hc;trivial
   |tuple arr=>simp[BR]at h
   |_=>exact⟨_,h,fun O=>rfl,fun n _ c hc=>by simp at hc;subst hc;trivial⟩
  |w id n=>exact⟨_,h,fun O=>by simp only[SV.den,At.den,List.map];split<;>rfl,fun n W c hc=>by simp at hc;subst hc;exact W⟩
  |_=>exact⟨_,h,fun O=>rfl,fun n W c hc=>by simp at hc;subst hc;exact W⟩
theorem da(t:Nat)(b:kp)(r:Hp)(u:Nat):dU ((t,b)::r) u=if t=u then some b else dU r u:=by
 show(match Nat.beq t u with|true=>some b|false=>dU r u)=_;split
 .rename_i h;rw[aM (fA h)]
 .rename_i h;rw[aJ (fun e=>by subst e;rw[Nat.beq_refl]at h;cases h)]
theorem fQ(t:Nat)(b:SV)(r:Env)(u:Nat):gK ((t,b)::r) u=if t=u then some b else gK r u:=by
 show(match Nat.beq t u with|true=>some b|false=>gK r u)=_;split
 .rename_i h;rw[aM (fA h)]
 .rename_i h;rw[aJ (fun e=>by subst e;rw[Nat.beq_refl]at h;cases h)]
theorem tM:∀{H:Hp} {id:Nat} {b:kp} {k:Hp->Prop},JW H id b k->∃H',k H'/\(∀j,dU H' j=if j=id then some b else dU H j)/\(dU H id).isSome=true
 |[],id,b,k,h=>by simp[JW]at h
 |(t,v)::r,id,b,k,h=>by
  unfold JW at h;split at h
  .rename_i ht;have:=fA ht;subst this;refine⟨_,h,fun j=>?_,by simp[da]⟩;simp only[da]
   by_cases e:t=j
   .simp[e]
   .simp[e,Ne.symm e]
  .rename_i ht;have Ox:t≠id:=fun e=>by subst e;rw[Nat.beq_refl]at ht;cases ht
   obtain⟨H',I,G,h3⟩:=tM h;refine⟨_,I,fun j=>?_,by simp[da,Ox,h3]⟩;simp only[da,G]
   by_cases e:t=j
   .subst e;simp[Ox]
   .simp[e]
theorem ub:∀{H:Hp} {id:Nat} {k:Hp->Prop},EW H id k->∃H',k H'/\(∀j,dU H' j=if j=id then some .dead else dU H j)/\(dU H id).isSome=true
 |[],id,k,h=>by simp[EW]at h
 |(t,v)::r,id,k,h=>by
  unfold EW at h;split at h
  .rename_i ht;have:=fA ht;subst this;refine⟨_,h,fun j=>?_,by simp[da]⟩;simp only[da]
   by_cases e:t=j
   .simp[e]
   .simp[e,Ne.symm e]
  .rename_i ht;have Ox:t≠id:=fun e=>by subst e;rw[Nat.beq_refl]at ht;cases ht
   obtain⟨H',I,G,h3⟩:=ub h;refine⟨_,I,fun j=>?_,by simp[da,Ox,h3]⟩;simp only[da,G]
   by_cases e:t=j
   .subst e;simp[Ox]
   .simp[e]
theorem At.ky{x:At}{O IR:Nat->eG}(h:∀id,id<n->O id=IR id)(U:x.sc n):x.den O=x.den IR:=by
 cases x with
 |v y=>rfl
 |p id off=>simp only[At.den,h id U]
 |s id off len cap=>simp only[At.den,h id U]
 |w id len=>simp only[At.den,h id U]
 |fn f caps=>
  simp only[At.den]
  congr 2;exact List.map_congr_left fun id QF=>by rw[h id (U id QF)]
theorem SV.ky{x:SV}{O IR:Nat->eG}(h:∀id,id<n->O id=IR id)(U:x.sc n):x.den O=x.den IR:=by
 cases x with
 |o y=>exact At.ky h U
 |a Z=>
  simp only[SV.den]
  congr 2;exact List.map_congr_left fun c hc=>At.ky h (U c hc)
theorem At.wM{x:At}(h:n<=m)(U:x.sc n):x.sc m:=by
 cases x with
 |v y=>trivial
 |fn f caps=>intro id QF;have:=U id QF;omega
 |_=>simp only[At.sc]at *;omega
theorem SV.wM{x:SV}(h:n<=m)(U:x.sc n):x.sc m:=by
 cases x with
 |o y=>exact At.wM h U
 |a Z=>exact fun c hc=>At.wM h (U c hc)
theorem Rel.drew{H:Hp}{iv:Iv}{w:World}{O:Nat->eG}(r:Rel H nx iv B w O J):Rel H nx iv B w O J.drew:=
 ⟨r.os,r.tape,r.output,r.size,r.base,r.tI,r.keys,r.box,r.arr,r.vec,r.inj,r.low,r.yJ,r.mA,r.scH,r.nn⟩
def iL(O:Nat->eG)(nx:Nat)(v:eG):Nat->eG:=fun j=>if j=nx then v else O j
theorem iT{O:Nat->eG}{v:eG}:∀id,id<nx->O id=iL O nx v id:=fun id h=>by simp[iL,Nat.ne_of_lt h]
@[simp] theorem ff {O:Nat->eG} {nx:Nat} {v:eG}:iL O nx v nx=v:=by simp[iL]
def kp.fits(b:kp)(O:Nat->eG)(v:eG)(w:World):Prop:=
 match b with
 | .box t Z=>v.nil=false/\w.heap[v.g]? =some (.cells (Z.map (At.den O)).toArray t (0,0))
 | .arr t Z=>v.nil=false/\w.heap[v.g]? =some (.cells Z.toArray t (0,0))
 | .vec t size Z=>(v.nil=true/\Z=[])\/(v.nil=false/\∃spare:List Value,w.heap[v.g]? =some (.cells (Z++spare).toArray t (0,0))/\(Z++spare).length=v.cap*size/\v.cap<=maxLen)
 | .dead=>True
def kp.scopd(b:kp)(n:Nat):Prop:=match b with
 | .box _ Z=>∀x∈Z,At.sc n x
 |_=>True
theorem Rel.fits{H:Hp}{iv:Iv}{w:World}{O:Nat->eG}(r:Rel H nx iv B w O J){b:kp}(h:dU H id=some b):b.fits O (O id) J:=by
 cases b with
 |box t Z=>exact⟨r.nn id _ h (by intros;simp) bv,r.box id t Z h⟩
 |arr t Z=>exact⟨r.nn id _ h (by intros;simp) bv,r.arr id t Z h⟩
 |vec t size Z=>exact r.vec id t size Z h
 |dead=>trivial
theorem Rel.mk'{H:Hp}{iv:Iv}{w:World}{O:Nat->eG}(os:J.os=w.os)(tape:J.tape=w.tape)(output:J.output=w.output)
  (size:w.heap.size<=J.heap.size) (base:B<=w.heap.size) (tI:∀lo D,(lo,D)∈iv->D<=w.heap.size) (keys:∀id b,dU H id=some b->id<nx)
  (fits:∀id b,dU H id=some b->b.fits O (O id) J) (scH:∀id b,dU H id=some b->b.scopd nx)
  (inj:∀id id' b b',dU H id=some b->dU H id'=some b'->b≠ .dead->b'≠ .dead->(O id).nil=false->(O id').nil=false->(O id).g=(O id').g->id=id')
  (low:∀id b,dU H id=some b->(O id).nil=false->B<=(O id).g/\(O id).g<J.heap.size)
  (yJ:∀k,k<w.heap.size->(∀id b,dU H id=some b->(O id).nil=false->(O id).g≠k)->J.heap[k]? =w.heap[k]?)
  (mA:∀lo D,(lo,D)∈iv->∀id b,dU H id=some b->(O id).nil=false->¬(lo<=(O id).g/\(O id).g<D)):Rel H nx iv B w O J where
 os:=os
 tape:=tape
 output:=output
 size:=size
 base:=base
 tI:=tI
 keys:=keys
 box:=fun id t Z h=>(fits id _ h).2
 arr:=fun id t Z h=>(fits id _ h).2
 vec:=fun id t size Z h=>fits id _ h
 inj:=inj
 low:=low
 yJ:=yJ
 mA:=mA
 scH:=fun id t Z h=>scH id _ h
 nn:=fun id b h I G=>by
  have:=fits id b h
  cases b with
  |box t Z=>exact this.1
  |arr t Z=>exact this.1
  |vec t size Z=>exact absurd rfl (I t size Z)
  |dead=>exact absurd rfl G
theorem kp.jQ{b:kp}{O IR:Nat->eG}{v:eG}{w:World}(h:b.fits O v w)(Id:∀id,id<n->O id=IR id)(hs:b.scopd n)
  (V:v.nil=false->b≠ .dead->J.heap[v.g]? =w.heap[v.g]?):b.fits IR v J:=by
 cases b with
 |box t Z=>
  obtain⟨I,G⟩:=h;refine⟨I,?_⟩;rw[V I bv,G,List.map_congr_left fun c hc=>At.ky Id (hs c hc)]
 |arr t Z=>exact⟨h.1,by rw[V h.1 bv];exact h.2⟩
 |vec t size Z=>
  rcases h with h|⟨I,spare,G,h3⟩
  .exact .inl h
  .exact .inr ⟨I,spare,by rw[V I bv];exact G,h3⟩
 |dead=>trivial
theorem kp.kJ{b:kp}(h:n<=m)(hb:b.scopd n):b.scopd m:=by
 cases b with
 |box t Z=>exact fun c hc=>At.wM h (hb c hc)
 |_=>trivial
theorem Rel.scopd{H:Hp}{iv:Iv}{w:World}{O:Nat->eG}(r:Rel H nx iv B w O J){b:kp}(h:dU H id=some b):b.scopd nx:=by
 cases b with
 |box t Z=>exact r.scH id t Z h
 |_=>trivial
theorem Rel.push{H:Hp}{iv:Iv}{w:World}{O:Nat->eG}(r:Rel H nx iv B w O J)(b:kp)(v:eG)
  (os:Y.os=J.os) (tape:Y.tape=J.tape) (output:Y.output=J.output) (size:J.heap.size<=Y.heap.size) (old:∀k,k<J.heap.size->Y.heap[k]? =J.heap[k]?)
  (hv:v.nil=false->J.heap.size<=v.g/\v.g<Y.heap.size) (hb:b.fits O v Y) (hs:b.scopd nx):Rel ((nx,b)::H) (nx+1) iv B w (iL O nx v) Y:=by
 have PY:∀id b,dU H id=some b->id≠nx:=fun id b h=>Nat.ne_of_lt (r.keys id b h);have Qq:∀id b,dU H id=some b->iL O nx v id=O id:=fun id b h=>by simp[iL,PY id b h]
 refine Rel.mk' (os.trans r.os) (tape.trans r.tape) (output.trans r.output) (aX r.size size) r.base r.tI ?_ ?_ ?_ ?_ ?_ ?_ ?_
 .intro id b' h;rw[da]at h;split at h
  .omega
  .have:=r.keys id b' h;omega
 .intro id b' h;rw[da]at h;split at h
  .rename_i e;subst e;injection h with h;subst h;rw[ff];exact kp.jQ hb iT hs (fun _ _=>rfl)
  .rw[Qq id b' h];exact kp.jQ (r.fits h) iT (r.scopd h) (fun I _=>old _ (r.low id b' h I).2)
 .intro id b' h;rw[da]at h;split at h
  .injection h with h;subst h;exact kp.kJ be hs
  .exact kp.kJ be (r.scopd h)
 .intro id id' b1 b2 I G d1 d2 n1 n2 e;rw[da]at I G;split at I<;>split at G
  .omega
  .rename_i e1 e2;subst e1;rw[ff]at e n1;rw[Qq id' b2 G]at e n2;have:=(r.low id' b2 G n2).2;have:=(hv n1).1;omega
  .rename_i e1 e2;subst e2;rw[ff]at e n2;rw[Qq id b1 I]at e n1;have:=(r.low id b1 I n1).2;have:=(hv n2).1;omega
  .rw[Qq id b1 I]at e n1;rw[Qq id' b2 G]at e n2;exact r.inj id id' b1 b2 I G d1 d2 n1 n2 e
 .intro id b' h n1;rw[da]at h;split at h
  .rename_i e;subst e;rw[ff]at n1 ⊢;have:=hv n1;have:=r.base;have:=r.size;omega
  .rw[Qq id b' h]at n1 ⊢;have:=r.low id b' h n1;omega
 .intro k K Ox;rw[old k (by have:=r.size;omega)];refine r.yJ k K fun id b' h n1=>?_;have:=Ox id b' (by rw[da,aJ (Ne.symm (PY id b' h))];exact h) (by rw[Qq id b' h];exact n1)
  rwa [Qq id b' h]at this
 .intro lo D hm id b' h n1;rw[da]at h;split at h
  .rename_i e;subst e;rw[ff]at n1 ⊢;have:=hv n1;have:=r.tI lo D hm;have:=r.size;omega
  .rw[Qq id b' h]at n1 ⊢;exact r.mA lo D hm id b' h n1
theorem Rel.store{H H':Hp}{iv:Iv}{w:World}{O:Nat->eG}(r:Rel H nx iv B w O J){b b':kp}(QF:dU H id=some b)(hd:b≠ .dead)(W:(O id).nil=false)
  (hH:∀j,dU H' j=if j=id then some b' else dU H j)
  (os:Y.os=J.os) (tape:Y.tape=J.tape) (output:Y.output=J.output) (size:Y.heap.size=J.heap.size) (old:∀k,k≠(O id).g->Y.heap[k]? =J.heap[k]?)
  (hb:b'.fits O (O id) Y) (hs:b'.scopd nx):Rel H' nx iv B w O Y:=by
 have key:∀j c,dU H' j=some c->∃c',dU H j=some c':=fun j c h=>by
  rw[hH]at h;split at h
  .rename_i e;subst e;exact⟨b,QF⟩
  .exact⟨c,h⟩
 refine Rel.mk' (os.trans r.os) (tape.trans r.tape) (output.trans r.output) (by rw[size];exact r.size) r.base r.tI ?_ ?_ ?_ ?_ ?_ ?_ ?_
 .intro j c h;obtain⟨c',h'⟩:=key j c h;exact r.keys j c' h'
 .intro j c h;rw[hH]at h;split at h
  .rename_i e;subst e;injection h with h;subst h;exact hb
  .rename_i e;refine kp.jQ (r.fits h) (fun _ _=>rfl) (r.scopd h) (fun I G=>old _ fun e2=>e ?_);exact r.inj j id c b h QF G hd I W e2
 .intro j c h;rw[hH]at h;split at h
  .injection h with h;subst h;exact hs
  .exact r.scopd h
 .intro j j' c c' I G d1 d2 n1 n2 e;rw[hH]at I G;have l1:∃c1,dU H j=some c1/\c1≠ .dead:=by
   split at I
   .rename_i e1;subst e1;exact⟨b,QF,hd⟩
   .exact⟨c,I,d1⟩
  have l2:∃c1,dU H j'=some c1/\c1≠ .dead:=by
   split at G
   .rename_i e1;subst e1;exact⟨b,QF,hd⟩
   .exact⟨c',G,d2⟩
  obtain⟨c1,g1,g2⟩:=l1;obtain⟨c2,g3,g4⟩:=l2;exact r.inj j j' c1 c2 g1 g3 g2 g4 n1 n2 e
 .intro j c h n1;obtain⟨c',h'⟩:=key j c h;rw[size];exact r.low j c' h' n1
 .intro k K Ox;have hkg:k≠(O id).g:=fun e=>Ox id b' (by rw[hH];simp) W e.symm;rw[old k hkg];refine r.yJ k K fun j c h n1=>?_;by_cases e:j=id
  .subst e;exact Ne.symm hkg
  .exact Ox j c (by rw[hH,aJ e];exact h) n1
 .intro lo D hm j c h n1;obtain⟨c',h'⟩:=key j c h;exact r.mA lo D hm j c' h' n1
theorem Rel.OK{H H1:Hp}{iv:Iv}{w:World}{O:Nat->eG}(r:Rel H nx iv B w O J){b0:kp}(QF:dU H id=some b0)(hd:b0≠ .dead)
  (hH:∀j,dU H1 j=if j=id then some .dead else dU H j) (b:kp) (v:eG)
  (os:Y.os=J.os) (tape:Y.tape=J.tape) (output:Y.output=J.output) (size:J.heap.size<=Y.heap.size)
  (old:∀k,k<J.heap.size->((O id).nil=false->k≠(O id).g)->Y.heap[k]? =J.heap[k]?)
  (hv:v.nil=false->(J.heap.size<=v.g/\v.g<Y.heap.size)\/((O id).nil=false/\v.g=(O id).g)) (hb:b.fits O v Y) (hs:b.scopd nx):Rel ((nx,b)::H1) (nx+1) iv B w (iL O nx v) Y:=by
 have key:∀j c,dU H1 j=some c->∃c',dU H j=some c'/\(c≠ .dead->c'=c/\j≠id):=fun j c h=>by
  rw[hH]at h;split at h
  .rename_i e;subst e;injection h with h;exact⟨b0,QF,fun G=>absurd h.symm G⟩
  .rename_i e;exact⟨c,h,fun _=>⟨rfl,e⟩⟩
 have PY:∀j c,dU H1 j=some c->j≠nx:=fun j c h=>by obtain⟨c',h',_⟩:=key j c h;exact Nat.ne_of_lt (r.keys j c' h')
 have Qq:∀j c,dU H1 j=some c->iL O nx v j=O j:=fun j c h=>by simp[iL,PY j c h]
 have hidlt:=r.keys id b0 QF;have hvlow:v.nil=false->B<=v.g/\v.g<Y.heap.size:=fun W=>by
  rcases hv W with h|⟨I,G⟩
  .have:=r.base;have:=r.size;omega
  .have:=r.low id b0 QF I;omega
 refine Rel.mk' (os.trans r.os) (tape.trans r.tape) (output.trans r.output) (aX r.size size) r.base r.tI ?_ ?_ ?_ ?_ ?_ ?_ ?_
 .intro j b' h;rw[da]at h;split at h
  .omega
  .obtain⟨c',h',_⟩:=key j b' h;have:=r.keys j c' h';omega
 .intro j b' h;rw[da]at h;split at h
  .rename_i e;subst e;injection h with h;subst h;rw[ff];exact kp.jQ hb iT hs (fun _ _=>rfl)
  .rw[Qq j b' h];by_cases TC:b'= .dead
   .subst TC;trivial
   .obtain⟨c',h',G⟩:=key j b' h;obtain⟨rfl,Ox⟩:=G TC;exact kp.jQ (r.fits h') iT (r.scopd h') (fun I _=>old _ (r.low j c' h' I).2 fun h3 e=>Ox (r.inj j id c' b0 h' QF TC hd I h3 e))
 .intro j b' h;rw[da]at h;split at h
  .injection h with h;subst h;exact kp.kJ be hs
  .by_cases TC:b'= .dead
   .subst TC;trivial
   .obtain⟨c',h',G⟩:=key j b' h;obtain⟨rfl,Ox⟩:=G TC;exact kp.kJ be (r.scopd h')
 .have cross:∀j c,dU H1 j=some c->c≠ .dead->(O j).nil=false->v.nil=false->v.g≠(O j).g:=fun j c h dd nj nv e=>by
   obtain⟨c',h',G⟩:=key j c h;obtain⟨rfl,Ox⟩:=G dd;rcases hv nv with h3|⟨h3,h4⟩
   .have:=(r.low j c' h' nj).2;omega
   .exact Ox (r.inj j id c' b0 h' QF dd hd nj h3 be)
  intro j j' b1 b2 I G d1 d2 n1 n2 e;rw[da]at I G;split at I<;>split at G
  .omega
  .rename_i e1 e2;subst e1;rw[ff]at e n1;rw[Qq j' b2 G]at e n2;exact absurd e (cross j' b2 G d2 n2 n1)
  .rename_i e1 e2;subst e2;rw[ff]at e n2;rw[Qq j b1 I]at e n1;exact absurd e.symm (cross j b1 I d1 n1 n2)
  .rw[Qq j b1 I]at e n1;rw[Qq j' b2 G]at e n2;obtain⟨c1,g1,k1⟩:=key j b1 I;obtain⟨c2,g2,k2⟩:=key j' b2 G;obtain⟨rfl,_⟩:=k1 d1;obtain⟨rfl,_⟩:=k2 d2;exact r.inj j j' c1 c2 g1 g2 d1 d2 n1 n2 e
 .intro j b' h n1;rw[da]at h;split at h
  .rename_i e;subst e;rw[ff]at n1 ⊢;exact hvlow n1
  .rw[Qq j b' h]at n1 ⊢;obtain⟨c',h',_⟩:=key j b' h;have:=r.low j c' h' n1;omega
 .intro k K Ox;have VX:∀j c,dU H j=some c->(O j).nil=false->(O j).g≠k:=fun j c h nj=>by
   have hj:dU H1 j=some (if j=id then .dead else c):=by rw[hH];split<;>simp[h]
   have:=Ox j _ (by rw[da,aJ (Ne.symm (PY j _ hj))];exact hj) (by rw[Qq j _ hj];exact nj)
   rwa [Qq j _ hj]at this
  rw[old k (by have:=r.size;omega) (fun h e=>VX id b0 QF h e.symm)];exact r.yJ k K VX
 .intro lo D hm j b' h n1;rw[da]at h;split at h
  .rename_i e;subst e;rw[ff]at n1 ⊢;rcases hv n1 with h3|⟨h3,h4⟩
   .have:=r.tI lo D hm;have:=r.size;omega
   .rw[h4];exact r.mA lo D hm id b0 QF h3
  .rw[Qq j b' h]at n1 ⊢;obtain⟨c',h',_⟩:=key j b' h;exact r.mA lo D hm j c' h' n1
section
variable{P:Program}{τ:og}{B n nx:Nat}{l:Env}{H:Hp}{iv:Iv}{w J:World}{O:Nat->eG}{a:Act}
theorem wN(sat:Sat n l H nx iv B w O a J){x:Operand}{v:SV}(h:ev l x=some v):a.eval x=v.den O/\v.sc nx:=by
 cases x with
 |tmp t=>
  have I:=sat.env t v h;exact⟨by simp[Act.eval,I],sat.sc t v h⟩
 |const c=>simp[ev]at h;subst h;exact⟨rfl,trivial⟩
 |global g=>simp[ev]at h;subst h;exact⟨rfl,trivial⟩
 |func f=>simp[ev]at h;subst h;exact⟨rfl,trivial⟩
theorem du(sat:Sat n l H nx iv B w O a J){x:Operand}{k:SV->Prop}(h:rL l x k):∃v,k v/\a.eval x=v.den O/\v.sc nx:=by
 unfold rL at h;split at h
 .rename_i v hv;exact⟨v,h,wN sat hv⟩
 .exact h.elim
theorem tK(sat:Sat n l H nx iv B w O a J):∀{xs:List Operand} {k:List SV->Prop},Nx l xs k->∃vs,k vs/\xs.map a.eval=vs.map (SV.den O)/\∀v∈vs,SV.sc nx v
 |[],k,h=>⟨[],h,rfl,bv⟩
 |x::r,k,h=>by
  unfold Nx at h;split at h
  .rename_i v hv;obtain⟨vs,I,G,h3⟩:=tK sat (xs:=r) h;have:=wN sat hv;exact⟨v::vs,I,by simp[this.1,G],by simp;exact⟨this.2,h3⟩⟩
  .exact h.elim
theorem oR{o:Oper}{a:Act}{w:World}{v:Value}(h:(execOp a.eval o).run P w= .ok (.value v) Y)(K:next (a.put o.dst v) Y):o.wp P a w next Q:=by
 unfold Oper.wp;rw[h];exact K
theorem OL{o:Oper}{a:Act}{w:World}(h:(execOp a.eval o).run P w= .ok .skip Y)(K:next (a.put o.dst undef) Y):o.wp P a w next Q:=by
 unfold Oper.wp;rw[h];exact K
theorem nd{s:Sem Value}{w:World}{v:Value}(h:s.run P w= .ok v Y):((do pure (.value (<-s))):Sem Next).run P w= .ok (.value v) Y:=by
 simp[h]
theorem Jb.isAgg{t:Nat}{i:TI}(h:Jb P t i)(w:World):(isAgg t).run P w= .ok i.agg w:=by
 obtain⟨d,I,G⟩:=h.agg;unfold Go.isAgg;rw[Sem.run_bind,run_underlying I w,<-G]
 cases d<;>rfl
theorem Jb.sizeOf{t:Nat}{i:TI}(h:Jb P t i)(w:World):(sizeOf t).run P w= .ok i.size w:=by
 obtain⟨inf,z,I,G,_⟩:=h.info;simp[Go.sizeOf,typeInfo,I,G]
theorem Jb.zeroV{t:Nat}{i:TI}(h:Jb P t i)(w:World):∃z,(zeroValue t).run P w= .ok z w/\z.cells.toList=i.zero:=by
 obtain⟨inf,z,I,G,_,h4,h5⟩:=h.info;exact⟨z,by simp[zeroValue,typeInfo,I,h4],h5⟩
theorem mR{t:Nat}{i:TI}(ht:Jb P t i)(hagg:i.agg=false){w:World}{x:Value}(hc:w.cell? ad=some x):
  (Instr.loadAt t (.pointer (some ad))).run P w= .ok x w:=by
 simp[Instr.loadAt,Instr.sureAddr,loadVar,ht.isAgg,hagg,hc]
theorem kZ{t:Nat}{i:TI}(ht:Jb P t i)(hagg:i.agg=true){w:World}(hl:xs.length=i.size)(hc:∀j v,xs[j]? =some v->w.cell? (ad.add j)=some v):
  (Instr.loadAt t (.pointer (some ad))).run P w= .ok (.agg xs.toArray) w:=by
 have:=run_loadCells_list (P:=P) w ad xs hc;rw[hl]at this;simp[Instr.loadAt,Instr.sureAddr,loadVar,ht.isAgg,hagg,ht.sizeOf,this]
theorem dX(g off j:Nat):(⟨g,off,none⟩:Addr).add j=⟨g,off+j,none⟩:=by
 unfold Addr.add;split<;>simp_all
theorem yO:∀{Z:List At} {i:Nat},Fq Z i=Z[i]?
 |[],i=>by simp[Fq]
 |x::r,0=>by simp[Fq]
 |x::r,i+1=>by simp[Fq,yO (Z:=r)]
theorem E7:∀{Z:List Value} {i:Nat},MS Z i=Z[i]?
 |[],i=>by simp[MS]
 |x::r,0=>by simp[MS]
 |x::r,i+1=>by simp[MS,E7 (Z:=r)]
theorem E8:∀{Z:List (Nat×Nat)} {i:Nat},MT Z i=Z[i]?
 |[],i=>by simp[MT]
 |x::r,0=>by simp[MT]
 |x::r,i+1=>by simp[MT,E8 (Z:=r)]
theorem cell_of{w:World}{g t:Nat}(h:w.heap[g]? =some (.cells Z.toArray t (0,0))):w.cell? ⟨g,off,none⟩=Z[off]? :=by
 rw[cell_of_row w g off _ t (0,0) h];simp
theorem gN{O:Nat->eG}:(xs.map At.v).map (At.den O)=xs:=by
 simp[Function.comp_def,At.den]
theorem pf(hτ:gM P τ)(rel0:Rel H nx iv B w O J){t:Nat}{addr:SV}(hs:addr.sc nx){GE:SV->Prop}(h:E5 τ B t addr H nx iv w GE):
  ∃r,GE r/\r.sc nx/\∀J,Rel H nx iv B w O J->(Instr.loadAt t (addr.den O)).run P J= .ok (r.den O) J:=by
 unfold E5 at h;split at h
 .exact h.elim
 .rename_i sz ag by_ ze tag ik e al fs RN;have ht:=hτ t _ RN;split at h
  .rename_i id off;split at h
   .rename_i bt Z hH;split at h
    .split at h
     .rename_i x U;rw[yO]at U;refine⟨_,h,rel0.scH id bt Z hH x (aC U),fun J rel=>?_⟩;have hb:=rel.box id bt Z hH;exact mR ht rfl (by rw[cell_of hb];simp[U,SV.den])
     .exact h.elim
    .have I:=p9 h;have G:=pc I.1;refine⟨_,G.1,fun c hc=>rel0.scH id bt Z hH c (List.mem_of_mem_drop (bq hc)),fun J rel=>?_⟩;have hb:=rel.box id bt Z hH;refine kZ ht rfl (xs:=((Z.drop off).take sz).map (At.den O)) ?_ fun j v hv=>?_
     .have:=G.2;simp only[aL,ah];omega
     .rw[dX,cell_of hb];simp only[aO,List.getElem?_take,cF]at hv ⊢;split at hv
      .exact hv
      .simp at hv
   .rename_i bt Z hH;split at h
    .obtain⟨x,U,h⟩:=h;exact⟨_,h,trivial,fun J rel=>mR ht rfl (by rw[cell_of (rel.arr id bt Z hH),U];rfl)⟩
    .obtain⟨xs,U,hl,h⟩:=h;refine⟨_,gP h,fun c hc=>by simp at hc;obtain⟨v,_,rfl⟩:=hc;trivial,fun J rel=>?_⟩;have hb:=rel.arr id bt Z hH;simp only[SV.den,gN]
     refine kZ ht rfl hl fun j v hv=>?_;rw[dX,cell_of hb];rw[<-U]at hv;simp only[List.getElem?_take,cF]at hv;split at hv
     .exact hv
     .simp at hv
   .rename_i bt ez Z hH;split at h
    .obtain⟨x,U,h⟩:=h;refine⟨_,h,trivial,fun J rel=>?_⟩;have hb:=rel.vec id bt ez Z hH;rcases hb with⟨_,rfl⟩|⟨W,spare,hb,_⟩
     .simp at U
     .refine mR ht rfl ?_;rw[cell_of hb];have:off<Z.length:=(aE.1 U).1;rw[aI this,U];rfl
    .obtain⟨xs,U,hl,h⟩:=h;refine⟨_,gP h,fun c hc=>by simp at hc;obtain⟨v,_,rfl⟩:=hc;trivial,fun J rel=>?_⟩;have hb:=rel.vec id bt ez Z hH;simp only[SV.den,gN]
     rcases hb with⟨_,rfl⟩|⟨W,spare,hb,_⟩
     .have:xs=[]:=by rw[<-U];simp
      subst this;refine kZ ht rfl hl fun j v hv=>by simp at hv
     .refine kZ ht rfl hl fun j v hv=>?_;rw[dX,cell_of hb];rw[<-U]at hv;simp only[List.getElem?_take,cF]at hv;split at hv
      .rw[aI (aE.1 hv).1];exact hv
      .simp at hv
   .exact h.elim
  .rename_i ad;split at h
   .obtain⟨x,U,h⟩:=h;exact⟨_,h,trivial,fun J rel=>mR ht rfl (U O J rel)⟩
   .obtain⟨xs,hl,U,h⟩:=h;refine⟨_,gP h,fun c hc=>by simp at hc;obtain⟨v,_,rfl⟩:=hc;trivial,fun J rel=>?_⟩;simp only[SV.den,gN]
    exact kZ ht rfl hl fun j v hv=>U O J rel j v hv
  .exact h.elim
theorem oU{t:Nat}{i:TI}(ht:Jb P t i){w:World}{g bt:Nat}(hb:w.heap[g]? =some (.cells old.toArray bt (0,0))){v:Value}
  (hv:v.cells=new.toArray) (hl:new.length=i.size) (I:∀x∈new,x.oneCell'=true) (Qo:off+new.length<=old.length):
  (Instr.storeAt t (.pointer (some ⟨g,off,none⟩)) v).run P w= .ok () (w.setRow g (old.take off++new++old.drop (off+new.length)).toArray):=by
 have:=run_storeCells_at (P:=P) g off bt new 0 old.toArray w hb (by simpa using Qo) I;simp only[cI]at this;simp[Instr.storeAt,Instr.sureAddr,storeVar,ht.sizeOf,hv,hl,this]
theorem l0:∀(vs:List Value) (w:World) (b off:Nat),setCells w ⟨b,off,none⟩ vs=w.setCells b off vs
 |[],_,_,_=>rfl
 |x::r,w,b,off=>by
  simp only[setCells,World.setCells,dX]
  exact l0 r _ b (off+1)
theorem zV(hτ:gM P τ)(sat:Sat n l H nx iv B w O a J){t:Nat}{addr x:SV}(hs:addr.sc nx)(U:x.sc nx){GE:Hp->World->Prop}(h:Fs τ B t addr x H nx iv w GE):
  ∃H' Y w3,GE H' Y/\Rel H' nx iv B Y O w3/\(Instr.storeAt t (addr.den O) (x.den O)).run P J= .ok () w3:=by
 unfold Fs at h;split at h
 .exact h.elim
 rename_i sz ag by_ ze tag ik e al fs RN;have ht:=hτ t _ RN;have rel:=sat.rel;have h0:=nc h;clear h;obtain⟨new,h00,QG,TD⟩:=h0;have h0:=B7 h00;clear h00;obtain⟨h,PX⟩:=h0;split at h
 .exact h.elim
 rename_i hlen;have hlen:=fA hlen;have Pt:=QG O;have TD:=TD nx U;have I:∀v∈new.map (At.den O),v.oneCell'=true:=by
  intro v hv;simp at hv;obtain⟨c,hc,rfl⟩:=hv;exact one_den (PX c hc) O
 have QO:(new.map (At.den O)).length=sz:=by simpa using hlen
 split at h
 .rename_i id off;split at h
  .rename_i bt Z hH;have hb:=rel.box id bt Z hH;obtain⟨hr,Qo⟩:=pe h;obtain⟨H',hK,hH',_⟩:=tM hr;refine⟨H',w,_,hK,?_,oU ht (old:=Z.map (At.den O)) hb Pt QO I (by simp;omega)⟩;refine rel.store hH bv (rel.nn id _ hH (by intros;simp) bv) hH' rfl rfl rfl bv (fun k K=>setRow_other _ _ _ _ K) ⟨rel.nn id _ hH (by intros;simp) bv,?_⟩ ?_
   .rw[setRow_heap _ _ _ _ _ _ hb];simp[List.map_drop,List.map_take]
   .intro c hc;simp only[bG]at hc;rcases hc with(hc|hc)|hc
    .exact rel.scH id bt Z hH c (bq hc)
    .exact TD c hc
    .exact rel.scH id bt Z hH c (List.mem_of_mem_drop hc)
  .rename_i bt Z hH;have hb:=rel.arr id bt Z hH;obtain⟨nv,hr,VK,VZ⟩:=mf h;obtain⟨Qo,cs',WM,hr⟩:=hr;obtain⟨H',hK,hH',_⟩:=tM hr;have S4:nv.length=sz:=by rw[VK]at hlen;simpa using hlen
   have RC:(x.den O).cells=nv.toArray:=by rw[Pt,VK,gN]
   refine⟨H',w,_,hK,?_,oU ht hb RC S4 VZ be⟩;refine rel.store hH bv (rel.nn id _ hH (by intros;simp) bv) hH' rfl rfl rfl bv (fun k K=>setRow_other _ _ _ _ K) ⟨rel.nn id _ hH (by intros;simp) bv,?_⟩ trivial;rw[setRow_heap _ _ _ _ _ _ hb,S4,WM]
  .rename_i bt ez Z hH;have hb:=rel.vec id bt ez Z hH;obtain⟨nv,hr,VK,VZ⟩:=mf h;obtain⟨Qo,cs',WM,hr⟩:=hr;obtain⟨H',hK,hH',_⟩:=tM hr;have S4:nv.length=sz:=by rw[VK]at hlen;simpa using hlen
   have RC:(x.den O).cells=nv.toArray:=by rw[Pt,VK,gN]
   rcases hb with⟨PK,rfl⟩|⟨W,spare,hb,TE,Qt⟩
   ·
    have h0:sz=0:=by simp at Qo;omega
    have hnv0:nv=[]:=by cases nv with|nil=>rfl|cons _ _=>simp at S4;omega
    subst hnv0;have:cs'=[]:=by rw[<-WM];simp
    subst this;refine⟨H',w,J,hK,?_,?_⟩
    .have YM:∀j,dU H' j=dU H j:=fun j=>by rw[hH'];split<;>simp_all
     exact Rel.mk' rel.os rel.tape rel.output rel.size rel.base rel.tI (fun id b h=>rel.keys id b (by rw[<-YM];exact h)) (fun id b h=>rel.fits (by rw[<-YM];exact h)) (fun id b h=>rel.scopd (by rw[<-YM];exact h))
      (fun i j b b' I G=>rel.inj i j b b' (by rw[<-YM];exact I) (by rw[<-YM];exact G)) (fun id b h=>rel.low id b (by rw[<-YM];exact h))
      (fun k K Ox=>rel.yJ k K fun id b h=>Ox id b (by rw[YM];exact h)) (fun lo D hm id b h=>rel.mA lo D hm id b (by rw[<-YM];exact h))
    .subst h0;show(Instr.storeAt t (.pointer (some ⟨(O id).g,off,none⟩)) (x.den O)).run P J=_;generalize x.den O=xv at RC ⊢;simp[Instr.storeAt,Instr.sureAddr,storeVar,ht.sizeOf,RC,storeCells]
   .refine⟨H',w,_,hK,?_,oU ht hb RC S4 VZ (by simp;omega)⟩;refine rel.store hH bv W hH' rfl rfl rfl bv (fun k K=>setRow_other _ _ _ _ K) (.inr ⟨W,spare,?_,?_,Qt⟩) trivial
    .rw[setRow_heap _ _ _ _ _ _ hb,<-WM,S4];congr 2;rw[List.take_append_of_le_length be,List.drop_append_of_le_length be];simp
    .rw[<-TE,<-WM];simp;omega
  .exact h.elim
 .rename_i ad;obtain⟨nv,hr,VK,VZ⟩:=mf h;obtain⟨YN,Oz,Ox,hK⟩:=hr O J rel;have S4:nv.length=sz:=by rw[VK]at hlen;simpa using hlen
  have RC:(x.den O).cells=nv.toArray:=by rw[Pt,VK,gN]
  obtain⟨b,off,spot⟩:=ad;simp only at YN Ox;subst YN;have Qm:=run_storeCells_cells (P:=P) b off nv 0 J (fun j hj=>by have:=(Oz j be).1;rwa [dX]at this) (fun j hj=>by have:=(Oz j be).2;rwa [dX]at this) VZ;have RO:∀k,k≠b->(J.setCells b off nv).heap[k]? =J.heap[k]? :=by
   intro k K;clear Qm Oz h hr hK VK VZ RC S4
   induction nv generalizing J off with
   |nil=>rfl
   |cons v r ih=>
    simp only[World.setCells]
    rw[show (∀(w0:World) (o:Nat),(w0.setCells b o r).heap[k]? =w0.heap[k]?)from ?_]
    .simp[World.setCell,Array.getElem?_modify,Ne.symm K]
    .clear ih;intro w0 o
     induction r generalizing w0 o with
     |nil=>rfl
     |cons v r ih=>simp only[World.setCells];rw[ih];simp[World.setCell,Array.getElem?_modify,Ne.symm K]
  have hfrm:(J.setCells b off nv).os=J.os/\(J.setCells b off nv).tape=J.tape/\(J.setCells b off nv).output=J.output/\(J.setCells b off nv).heap.size=J.heap.size:=by
   have:∀(vs:List Value) (w0:World) (o:Nat),(w0.setCells b o vs).os=w0.os/\(w0.setCells b o vs).tape=w0.tape/\(w0.setCells b o vs).output=w0.output/\(w0.setCells b o vs).heap.size=w0.heap.size:=by
    intro vs
    induction vs with
    |nil=>intro w0 o;exact⟨rfl,rfl,rfl,rfl⟩
    |cons v r ih=>intro w0 o;simp only[World.setCells];obtain⟨I,G,h3,h4⟩:=ih (w0.setCell ⟨b,o,none⟩ v) (o+1);exact⟨I,G,h3,by rw[h4];simp⟩
   exact this nv J off
  refine⟨H,_,J.setCells b off nv,hK _ rfl,?_,?_⟩
  .rw[l0];refine Rel.mk' rfl rfl rfl (aP _) (by rw[hfrm.2.2.2];have:=rel.base;have:=rel.size;omega) (fun lo D hm=>by rw[hfrm.2.2.2];have:=rel.tI lo D hm;have:=rel.size;omega) rel.keys
    (fun id b' h=>kp.jQ (rel.fits h) (fun _ _=>rfl) (rel.scopd h) (fun PK _=>RO _ (Ox id b' h PK))) (fun id b' h=>rel.scopd h) rel.inj (fun id b' h PK=>by rw[hfrm.2.2.2];exact rel.low id b' h PK) (fun _ _ _=>rfl) rel.mA
  .show(Instr.storeAt t (.pointer (some ⟨b,off,none⟩)) (x.den O)).run P J=_;generalize x.den O=xv at RC ⊢;simp at Qm;simp[Instr.storeAt,Instr.sureAddr,storeVar,ht.sizeOf,RC,S4,Qm]
 .exact h.elim
end
theorem Jg(new:List Value):∀(k off:Nat) (Z:Array Value),off+k+new.length<=Z.size->
  ((new.zipIdx k).foldl (fun Z (c,j)=>Z.setIfInBounds (off+j) c) Z).toList=Z.toList.take (off+k)++new++Z.toList.drop (off+k+new.length):=by
 induction new with
 |nil=>intro k off Z _;simp
 |cons x r ih=>
  intro k off Z h;simp only[bg]at h;rw[List.zipIdx_cons,List.foldl_cons,ih (k+1) off _ (by simp;omega)];have G:=list_seg_step Z.toList (off+k) x r (by simp;omega);simp only[Array.toList_setIfInBounds,bg]at G ⊢;rw[show off+(k+1)=off+k+1 by omega];exact G
theorem MX{i:Nat}{v:Value}(hp:place i=some (off,size))
  (hv:v.cells=new.toArray) (hl:new.length=size) (Qo:off+new.length<=cells.size):
  Instr.fill place cells ((i,v)::rest)=Instr.fill place (cells.toList.take off++new++cells.toList.drop (off+new.length)).toArray rest:=by
 have h:=Jg new 0 off cells be;have e:(v.cells.zipIdx.foldl (fun Z (x:Value×Nat)=>Z.setIfInBounds (off+x.2) x.1) cells)=(cells.toList.take off++new++cells.toList.drop (off+new.length)).toArray:=by
  rw[hv,<-Array.foldl_toList];apply Array.ext';simpa using h
 conv=>lhs;unfold Instr.fill
 simp only[hp,hv,List.size_toArray,hl]
 rw[aJ (by simp;omega)];rw[hv]at e;rw[<-hl,<-e]
section
variable{P:Program}{τ:og}{B n nx:Nat}{l:Env}{H:Hp}{iv:Iv}{w J:World}{O:Nat->eG}{a:Act}
theorem l5(sat:Sat n l H nx iv B w O a J){place:Nat->(Nat->Nat->Prop)->Prop}{placeF:Nat->Option (Nat×Nat)}
  (hp:∀i k,place i k->∃off size,k off size/\placeF i=some (off,size)):∀{parts:List (Nat×Operand)} {Z:List At} {k:List At->Prop},
  yN l place parts Z k->(∀c∈Z,At.sc nx c)->∃cs',k cs'/\(∀c∈cs',At.sc nx c)/\cs'.length=Z.length/\
   Instr.fill placeF (Z.map (At.den O)).toArray (parts.map fun p=>(p.1,a.eval p.2))=some (cs'.map (At.den O)).toArray
 |[],Z,k,h,hs=>⟨Z,h,hs,rfl,by simp[Instr.fill]⟩
 |(i,x)::r,Z,k,h,hs=>by
  unfold yN at h;obtain⟨off,size,I,Q4⟩:=hp i _ h;obtain⟨v,G,hv,Rx⟩:=du sat I;obtain⟨new,h3,QG,TD⟩:=nc G;split at h3
  .rename_i hlen;have hlen:=fA hlen;obtain⟨h4,Qo⟩:=pe h3
   obtain⟨cs',h5,h6,h7,h8⟩:=l5 sat hp h4 (by
    intro c hc;simp only[bG]at hc;rcases hc with(hc|hc)|hc
    .exact hs c (bq hc)
    .exact TD nx Rx c hc
    .exact hs c (List.mem_of_mem_drop hc))
   refine⟨cs',h5,h6,by rw[h7];simp;omega,?_⟩;have hc:=QG O;rw[List.map_cons,MX (new:=new.map (At.den O)) Q4 (by show(a.eval x).cells=_;rw[hv];exact hc) (by simpa using hlen) (by simpa using Qo),<-h8];simp[List.map_drop,List.map_take]
  .exact h3.elim
theorem oV(hτ:gM P τ){f:Nat}{k:Nat->Nat->Bool->Prop}(h:rS τ fs f k):
  ∃off ft fi,k off fi.size fi.agg/\fs[f]? =some (off,ft)/\Jb P ft fi/\fi.size≠0:=by
 unfold rS at h;split at h
 .rename_i off ft hf;rw[E8]at hf;split at h
  .rename_i sz ag by_ ze tag ik e al fs' RN;split at h
   .exact h.elim
   .rename_i PR;exact⟨off,ft,_,h,hf,hτ ft _ RN,fun e=>by simp at e;subst e;simp at PR⟩
  .exact h.elim
 .exact h.elim
theorem B8{t:Nat}{i:TI}(h:Jb P t i)(h5:i.tag=5){f ft:Nat}(hf:i.fields[f]? =some (off,ft)):
  ∃fs fd,P.underlying t=some (.struct fs)/\fs[f]? =some fd/\fd.offset=off/\fd.type=ft:=by
 obtain⟨fs,I,G,_⟩:=h.i5 h5;rw[<-G]at hf;simp only[aO,Option.map_eq_some_iff]at hf;obtain⟨fd,RJ,L⟩:=hf;injection L with e1 e2;exact⟨fs,fd,I,by simpa using RJ,e1,e2⟩
theorem Hb{t:Nat}{i:TI}(h:Jb P t i)(h5:i.tag=5){f ft:Nat}{fi:TI}(hf:i.fields[f]? =some (off,ft))(Ul:Jb P ft fi)(PR:fi.size≠0)(ad:Addr)(w:World):
  (Instr.fieldAt t (.pointer (some ad)) f).run P w= .ok (.pointer (some (ad.add off))) w:=by
 obtain⟨fs,fd,I,G,rfl,rfl⟩:=B8 h h5 hf;simp[Instr.fieldAt,run_underlying I,G,Instr.sureAddr,fieldPlace,Ul.sizeOf,PR]
theorem wO{x:SV}{GE:SV->Prop}(h:Ax x m GE)(U:x.sc nx):∃r ad,GE r/\r.sc nx/\x.den O= .pointer (some ad)/\r.den O= .pointer (some (ad.add m)):=by
 unfold Ax at h;split at h
 .rename_i id off;exact⟨_,⟨(O id).g,off,none⟩,h,U,rfl,by simp[SV.den,At.den,dX]⟩
 .rename_i ad;exact⟨_,ad,h,trivial,rfl,rfl⟩
 .exact h.elim
theorem yP(rel:Rel H nx iv B w O J){GE:Prop}(h:MV H id m GE):GE/\((O id).nil=true->m=0):=by
 unfold MV at h;split at h
 .rename_i t sz Z hH;split at h
  .exact h.elim
  .rename_i k;refine⟨h.2,fun W=>?_⟩;have I:=h.1;rcases rel.vec id t (k+1) Z hH with⟨_,rfl⟩|⟨G,_⟩
   .have h4:m*(k+1)=0:=by simpa using I.symm
    rcases Nat.mul_eq_zero.1 h4 with h5|h5
    .exact h5
    .omega
   .rw[W]at G;cases G
 .exact h.elim
theorem MY(hτ:gM P τ){t ty:Nat}{x:SV}(h:aCh τ H t x GE)(rel:Rel H nx iv B w O J):
  ∃r,GE r/\∀J,(Builtin.len_ #[t] ty #[x.den O]).run P J= .ok (.int .i64 r) J:=by
 unfold aCh at h;split at h
 .exact h.elim
 rename_i sz ag by_ ze tag ik e al fs RN;have ht:=hτ t _ RN;split at h
 .rename_i Pe;have hu:=ht.i4 (fA Pe);split at h
  .exact⟨_,h,fun J=>by simp[Builtin.len_,run_underlying hu,SV.den,At.den,goInt]⟩
  .exact⟨_,h,fun J=>by simp[Builtin.len_,run_underlying hu,SV.den,At.den,goInt]⟩
  .rename_i id m;have I:=yP rel h;refine⟨_,I.1,fun J=>?_⟩
   cases W:(O id).nil
   .simp[Builtin.len_,run_underlying hu,SV.den,At.den,goInt,W]
   .have:=I.2 W;subst this;simp[Builtin.len_,run_underlying hu,SV.den,At.den,goInt,W]
  .exact h.elim
 .split at h
  .rename_i Pe;have hu:=ht.i3 (fA Pe);split at h
   .exact⟨_,h,fun J=>by simp[Builtin.len_,run_underlying hu,SV.den,At.den,goInt]⟩
   .exact h.elim
  .split at h
   .rename_i Pe;have hu:=ht.i6 (fA Pe);exact⟨_,h,fun J=>by simp[Builtin.len_,run_underlying hu,goInt]⟩
   .exact h.elim
theorem Hc(hτ:gM P τ){t:Nat}{x i:SV}{GE:SV->Prop}(h:Jc τ H t x i GE)(U:x.sc nx)(rel:Rel H nx iv B w O J):
  ∃r,GE r/\r.sc nx/\∀J,(Instr.indexAt t (x.den O) (i.den O)).run P J= .ok (r.den O) J:=by
 unfold Jc at h;split at h
 .rename_i kd i;split at h
  .rename_i sz ag by_ ze tag ik e al fs RN;have ht:=hτ t _ RN;split at h
   .rename_i sz' ag' by' ze' tag' ik' e' al' fs' QT
    have QT:=hτ e _ QT;split at h
    .rename_i Pe;have hu:=ht.i4 (fA Pe);simp only at hu;split at h
     .rename_i id off m c;obtain⟨hb,h⟩:=h;exact⟨_,h,U,fun J=>by simp[Instr.indexAt,run_underlying hu,asIntOf,SV.den,At.den,hb,QT.sizeOf,dX]⟩
     .rename_i id m;obtain⟨⟨hb,I⟩,G⟩:=yP rel h;refine⟨_,I,U,fun J=>?_⟩
      cases W:(O id).nil
      .simp[Instr.indexAt,run_underlying hu,asIntOf,SV.den,At.den,hb,QT.sizeOf,dX,W]
      .have:=G W;omega
     .rename_i a0 m c;obtain⟨ad,rfl,hb,h⟩:=h;exact⟨_,h,trivial,fun J=>by simp[Instr.indexAt,run_underlying hu,asIntOf,SV.den,At.den,hb,QT.sizeOf]⟩
     .exact h.elim
    .split at h
     .rename_i Pe;have hu:=ht.i6 (fA Pe);simp only at hu;obtain⟨hb,h⟩:=h;obtain⟨r,ad,I,G,h3,h4⟩:=wO (O:=O) h U;refine⟨r,I,G,fun J=>?_⟩;rw[h3,h4];simp[Instr.indexAt,run_underlying hu,asIntOf,SV.den,At.den,Instr.sureAddr,hb,QT.sizeOf]
     .exact h.elim
   .exact h.elim
  .exact h.elim
 .exact h.elim
theorem mj(sat:Sat n l H nx iv B w O a J){x:Option Operand}{d:Int}(h:loK l x d GE):∃i,GE i/\((x=none/\i=d)\/∃o k,x=some o/\a.eval o= .int k i):=by
 unfold loK at h;split at h
 .exact⟨d,h,.inl ⟨rfl,rfl⟩⟩
 .obtain⟨v,I,G,h3⟩:=du sat h;clear h3;split at I
  .rename_i k i;exact⟨i,I,.inr ⟨_,k,rfl,G⟩⟩
  .exact I.elim
theorem pg{len cap:Nat}{i j:Int}(Sm:(lo=none/\i=0)\/∃o k,lo=some o/\a.eval o= .int k i)(Ua:(D=none/\j=len)\/∃o k,D=some o/\a.eval o= .int k j)
  (h0:0<=i) (I:i<=j) (G:j<=cap):(Instr.sliceBounds true len cap (lo.map a.eval) (D.map a.eval) none).run P J= .ok (i.toNat,j.toNat,cap) J:=by
 rcases Sm with⟨rfl,rfl⟩|⟨o,k,rfl,ho⟩<;>rcases Ua with⟨rfl,rfl⟩|⟨o',k',rfl,Sz⟩
 .simp[Instr.sliceBounds]
 .have h1':0<=j:=by omega
  simp[Instr.sliceBounds,Instr.sliceBound,Sz,asIntOf,h1',G]
 .have:i<=(len:Int):=I;simp[Instr.sliceBounds,Instr.sliceBound,ho,asIntOf,h0,this]
 .have h1':0<=j:=by omega
  have h3:i<=((j.toNat:Nat):Int):=by omega
  have h3':i<=max j 0:=by omega
  simp[Instr.sliceBounds,Instr.sliceBound,ho,Sz,asIntOf,h1',G,h0,h3']
theorem Hd{len cap:Nat}{i j:Int}(Sm:(lo=none/\i=0)\/∃o k,lo=some o/\a.eval o= .int k i)(Ua:(D=none/\j=len)\/∃o k,D=some o/\a.eval o= .int k j)
  (h0:0<=i) (I:i<=j) (G:j<=cap):(Instr.sliceBounds false len cap (lo.map a.eval) (D.map a.eval) none).run P J= .ok (i.toNat,j.toNat,cap) J:=by
 rcases Sm with⟨rfl,rfl⟩|⟨o,k,rfl,ho⟩<;>rcases Ua with⟨rfl,rfl⟩|⟨o',k',rfl,Sz⟩
 .simp[Instr.sliceBounds]
 .have h1':0<=j:=by omega
  simp[Instr.sliceBounds,Instr.sliceBound,Sz,asIntOf,h1',G]
 .have:i<=(len:Int):=I;simp[Instr.sliceBounds,Instr.sliceBound,ho,asIntOf,h0,this]
 .have h1':0<=j:=by omega
  have h3:i<=((j.toNat:Nat):Int):=by omega
  have h3':i<=max j 0:=by omega
  simp[Instr.sliceBounds,Instr.sliceBound,ho,Sz,asIntOf,h1',G,h0,h3']
theorem He(hτ:gM P τ)(sat:Sat n l H nx iv B w O a J){t:Nat}{x:SV}{GE:SV->Prop}(h:Jd τ H t x l lo D GE)(U:x.sc nx):
  ∃r,GE r/\r.sc nx/\∀J,(Instr.sliceAt t (x.den O) (lo.map a.eval) (D.map a.eval) none).run P J= .ok (r.den O) J:=by
 unfold Jd at h;split at h
 .rename_i sz ag by_ ze tag ik e al fs RN;have ht:=hτ t _ RN;split at h
  .rename_i Pe;have hu:=ht.i4 (fA Pe);simp only at hu;split at h
   .rename_i sz' ag' by' ze' tag' ik' e' al' fs' QT
    have QT:=hτ e _ QT;split at h
    .rename_i id off m c;obtain⟨i,I,Sm⟩:=mj sat h;obtain⟨j,G,Ua⟩:=mj sat I;obtain⟨⟨b0,b1,b2⟩,off',n',c',e1,rfl,rfl,h3⟩:=G;refine⟨_,h3,U,fun J=>?_⟩;have hb:=pg (P:=P) (J:=J) Sm Ua b0 b1 b2;subst e1;simp[Instr.sliceAt,Instr.slice,run_underlying hu,SV.den,At.den,hb,QT.sizeOf];by_cases hc:c=i.toNat
     .rw[aM hc,aM be]
     .rw[aJ hc,aJ be];simp[dX]
    .rename_i ad m c;obtain⟨i,I,Sm⟩:=mj sat h;obtain⟨j,G,Ua⟩:=mj sat I;obtain⟨⟨b0,b1,b2⟩,off',n',c',e1,rfl,rfl,h3⟩:=G;refine⟨_,h3,trivial,fun J=>?_⟩;have hb:=pg (P:=P) (J:=J) Sm Ua b0 b1 b2;subst e1;simp[Instr.sliceAt,Instr.slice,run_underlying hu,SV.den,At.den,hb,QT.sizeOf];by_cases hc:c=i.toNat
     .rw[aM hc,aM be]
     .rw[aJ hc,aJ be]
    .rename_i id m;split at h
     .obtain⟨I,PK⟩:=yP sat.rel h;obtain⟨j,G,Ua⟩:=mj sat I;obtain⟨⟨b0,b1⟩,m',rfl,h3⟩:=G;refine⟨_,h3,U,fun J=>?_⟩;have Qt:(O id).nil=false->m<=(O id).cap:=fun W=>by
       unfold MV at h;split at h
       .rename_i t' sz' cs' hH;split at h
        .exact h.elim
        .rename_i k;rcases sat.rel.vec id t' (k+1) cs' hH with⟨h5,_⟩|⟨_,spare,_,h6,_⟩
         .rw[W]at h5;cases h5
         .have h7:=h.1;have h8:(cs'++spare).length=cs'.length+spare.length:=aQ;have h9:m*(k+1)<=(O id).cap*(k+1):=by omega
          exact cL h9 (Nat.succ_pos k)
       .exact h.elim
      cases W:(O id).nil with
      |true=>
       have hm:=PK W;subst hm;have hb:=pg (P:=P) (J:=J) (len:=0) (cap:=0) (lo:=none) (i:=0) (.inl ⟨rfl,rfl⟩) Ua (Int.le_refl 0) b0 b1;have hj:j.toNat=0:=by omega
       rw[hj]at hb ⊢;simp only[Option.map_none]at hb;simp[Instr.sliceAt,Instr.slice,run_underlying hu,SV.den,At.den,W,hb,QT.sizeOf]
      |false=>
       have hc:=Qt W;have hb:=pg (P:=P) (J:=J) (len:=m) (cap:=(O id).cap) (lo:=none) (i:=0) (.inl ⟨rfl,rfl⟩) Ua (Int.le_refl 0) b0 be;simp only[Option.map_none]at hb;simp[Instr.sliceAt,Instr.slice,run_underlying hu,SV.den,At.den,W,hb,QT.sizeOf,dX]
     .exact h.elim
    .exact h.elim
   .exact h.elim
  .split at h
   .rename_i Pe;have hu:=ht.i6 (fA Pe);simp only at hu;split at h
    .rename_i sz' ag' by' ze' tag' ik' e' al' fs' QT
     have QT:=hτ e _ QT;split at h
     .rename_i id off;split at h
      .split at h
       .rename_i h0;refine⟨_,h,U,fun J=>?_⟩;have h0:al≠0:=fun e=>by subst e;cases h0
        simp[Instr.sliceAt,Instr.sliceBounds,run_underlying hu,SV.den,At.den,QT.sizeOf,Instr.sureAddr,dX]
       .exact h.elim
      .exact h.elim
     .exact h.elim
    .exact h.elim
   .split at h
    .rename_i Pe;have hu:=ht.i3 (fA Pe);split at h
     .rename_i s;obtain⟨i,I,Sm⟩:=mj sat h;obtain⟨j,G,Ua⟩:=mj sat I;obtain⟨⟨b0,b1,b2⟩,h3⟩:=G;refine⟨_,h3,trivial,fun J=>?_⟩;have hb:=Hd (P:=P) (J:=J) Sm Ua b0 b1 b2;simp[Instr.sliceAt,Instr.slice,run_underlying hu,SV.den,At.den,hb]
     .exact h.elim
    .exact h.elim
 .exact h.elim
end
section
variable{P:Program}{τ:og}{B n nx:Nat}{l:Env}{H:Hp}{iv:Iv}{w J:World}{O:Nat->eG}{a:Act}
theorem Hf(z:Value)(c:Nat):(madeCells #[z] c)=(List.replicate c z).toArray:=by
 unfold madeCells;apply Array.ext';simp[List.map_const',Nat.mod_one]
theorem tN(zs:List Value)(c:Nat):(madeCells zs.toArray (c*zs.length))=((List.replicate c zs).flatten).toArray:=by
 unfold madeCells;apply Array.ext';simp only[Array.toList_map,Array.toList_range,List.size_toArray]
 induction c with
 |zero=>simp
 |succ c ih=>
  rw[Nat.succ_mul,List.range_add,a9,ih,List.replicate_succ',List.flatten_append];simp only[List.flatten_cons,List.flatten_nil,List.append_nil,List.map_map]
  congr 1;apply List.ext_getElem
  .simp
  .intro i I G;simp at I;simp[b9 I,I]
theorem Jh(hτ:gM P τ)(sat:Sat n l H nx iv B w O a J){t:Nat}{x y:SV}{GE:SV->Hp->Nat->Prop}(h:LL τ t x y H nx GE):
  ∃r H' PC IR Y,GE r H' PC/\Rel H' PC iv B w IR Y/\r.sc PC/\nx<=PC/\(∀id,id<nx->O id=IR id)/\(Instr.makeSlice t (x.den O) (y.den O)).run P J= .ok (r.den IR) Y:=by
 unfold LL at h;split at h
 .rename_i k1 a1 k2 b1;split at h
  .rename_i sz ag by_ ze tag ik e al fs RN;have ht:=hτ t _ RN;split at h
   .rename_i Pe;have hu:=ht.i4 (fA Pe);simp only at hu;split at h
    .rename_i sz' ag' by' ze' tag' ik' e' al' fs' QT
     have QT:=hτ e _ QT;obtain⟨inf,z,D,PR,PZ,hz,S5⟩:=QT.info;simp only at PR PZ S5;obtain⟨m,c,rfl,rfl,WN,hbytes,h63,h⟩:=h;have QX:(inf.bytes:Int)*(c:Int)<=281474976710656:=by
      rw[PZ];have RW:((by'*c:Nat):Int)<=281474976710656:=by omega
      rwa [Int.natCast_mul]at RW
     have PD:=run_make (P:=P) J t e inf z hu D hz k1 k2 (m:Int) (c:Int) be be QX be;simp only[aF]at PD;have fin:∀Z:List Value,Z.toArray=madeCells z.cells (c*inf.size)->Dk (.arr e Z) H nx (fun H' PC=>GE (.o (.s nx 0 m c)) H' PC)->
       ∃r H' PC IR Y,GE r H' PC/\Rel H' PC iv B w IR Y/\r.sc PC/\nx<=PC/\(∀id,id<nx->O id=IR id)/\(Instr.makeSlice t (.int k1 m) (.int k2 c)).run P J= .ok (r.den IR) Y:=by
      intro Z PT hK;refine⟨_,_,_,iL O nx ⟨J.heap.size,0,false⟩,J.alloc (.cells Z.toArray e),hK,?_,?_,be,iT,?_⟩
      .refine sat.rel.push (.arr e Z) _ rfl rfl rfl bv (fun k K=>heap_alloc_old _ _ K) (fun _=>⟨aP _,bv⟩) ⟨rfl,heap_alloc_new _ _⟩ trivial
      .simp[SV.sc,At.sc]
      .rw[PD,<-PT];simp[SV.den,At.den]
     have Sl:=QT.MQ;simp only at Sl;have Rp:z.cells=ze'.toArray:=by apply Array.ext';simpa using S5
     split at h
     .rename_i z0;refine fin _ ?_ h;have:inf.size=1:=by rw[PR,<-Sl];rfl
      rw[this,aZ,Rp,Hf]
     .refine fin _ ?_ h;rw[PR,<-Sl,Rp];rcases bZ ze'.length with h0|h0
      .have:ze'=[]:=List.eq_nil_of_length_eq_zero h0;subst this;simp[madeCells]
      .rw[tN]
    .exact h.elim
   .exact h.elim
  .exact h.elim
 .exact h.elim
theorem Ji(sat:Sat n l H nx iv B w O a J){x:SV}{GE:Nat->List Value->Prop}(Ph:0<size)(h:OH B H nx iv w size x GE):
  ∃m c ad news,GE m news/\x.den O= .slice ad m c/\news.length=m*size/\(∀u∈news,u.oneCell'=true)/\
   ((ad=none/\m=0)\/∃ad',ad=some ad'/\∀j u,news[j]? =some u->J.cell? (ad'.add j)=some u):=by
 have rel:=sat.rel;unfold OH at h;split at h
 .rename_i id off m c;split at h
  .rename_i bt Z hH;obtain⟨I,hd⟩:=p9 h;obtain⟨G,ht⟩:=pc I;obtain⟨vs,h3,Rx,Va⟩:=mf G;refine⟨m,c,_,vs,h3,rfl,?_,Va,.inr ⟨_,rfl,fun j u hu=>?_⟩⟩
   .have:=congrArg List.length Rx;simp at this ht;omega
   .rw[dX,cell_of (rel.box id bt Z hH)];have e:(vs.map At.v)[j]? =some (.v u):=by simp[hu]
    rw[<-Rx]at e;simp only[List.getElem?_take,cF]at e;split at e
    .simp[e,At.den]
    .simp at e
  .rename_i bt Z hH;obtain⟨vs,I,G,h3,h4⟩:=h;refine⟨m,c,_,vs,h4,rfl,G,h3,.inr ⟨_,rfl,fun j u hu=>?_⟩⟩;rw[dX,cell_of (rel.arr id bt Z hH)];rw[<-I]at hu;simp only[List.getElem?_take,cF]at hu;split at hu
   .exact hu
   .simp at hu
  .exact h.elim
 .rename_i ad m c;obtain⟨vs,I,G,h3,h4⟩:=h;refine⟨m,c,ad,vs,h4,rfl,I,G,?_⟩;rcases bZ m with h0|h0
  .subst h0;have:vs=[]:=List.eq_nil_of_length_eq_zero (by simpa using I);subst this
   cases ad with
   |none=>exact .inl ⟨rfl,rfl⟩
   |some ad=>exact .inr ⟨ad,rfl,fun j u hu=>by simp at hu⟩
  .exact .inr (h3 O J rel h0)
 .rename_i id m;split at h
  .rename_i bt sz Z hH;obtain⟨I,G,h3⟩:=h;rcases rel.vec id bt sz Z hH with⟨W,rfl⟩|⟨W,spare,hb,_⟩
   .have h0:m=0:=by
     have h4:m*size=0:=by simpa using I.symm
     rcases Nat.mul_eq_zero.1 h4 with h5|h5<;>omega
    subst h0;exact⟨0,0,none,[],h3,by simp[SV.den,At.den,W],bv,bv,.inl ⟨rfl,rfl⟩⟩
   .refine⟨m,(O id).cap,_,Z,h3,by simp only[SV.den,At.den,W];rfl,I,G,.inr ⟨_,rfl,fun j u hu=>?_⟩⟩;rw[dX,cell_of hb,aW,aI (aE.1 hu).1];exact hu
  .exact h.elim
 .exact h.elim
theorem mh(w:World)(base:Nat)(t ty e:TypeId)(i:TypeInfo)(size:Nat)(ht:P.underlying t=some (.slice e))(D:P.info? e=some i)
  (v:Value) (m:Nat) (xs:List Value) (SQ:w.ownsRow base e size v m xs) (c:Nat):(Builtin.append_ #[t,t] ty #[v,.slice none 0 c]).run P w= .ok v w:=by
 rcases SQ.2 with⟨rfl,rfl⟩|⟨g,cap,cur,rfl,_,_,VL,_⟩
 .simp[Builtin.append_,run_underlying ht,sizeOf,typeInfo,D,Builtin.lenOf,Builtin.firstCells]
 .simp[Builtin.append_,run_underlying ht,sizeOf,typeInfo,D,Builtin.lenOf,Builtin.firstCells,VL,storeCells]
theorem rV{w:World}{e:Nat}{v:Value}{base:Nat}(h:w.ownsRow base e size v m xs):
  ∃val:eG,(At.w 0 m).den (fun _=>val)=v/\(kp.vec e size xs).fits (fun _=>val) val w/\(val.nil=false->v.ownBlock=some val.g/\val.g<w.heap.size)/\(val.nil=true->v.ownBlock=none):=by
 rcases h.2 with⟨rfl,rfl⟩|⟨g,cap,cur,rfl,_,hb,VL,Qt,hcur,Rq⟩
 .have:xs=[]:=List.eq_nil_of_length_eq_zero (by simpa using h.1);exact⟨⟨0,0,true⟩,rfl,.inl ⟨rfl,this⟩,(fun h=>by cases h),fun _=>rfl⟩
 .refine⟨⟨g,cap,false⟩,rfl,.inr ⟨rfl,cur.toList.drop (m*size),?_,?_,Qt⟩,fun _=>⟨rfl,(bM.1 hb).1⟩,(fun h=>by cases h)⟩
  .rw[<-Rq,List.take_append_drop];simpa using hb
  .rw[<-Rq,List.take_append_drop];simpa using hcur
theorem B9(rel:Rel H nx iv B w O J){e sz:Nat}(hH:dU H id=some (.vec e sz Z))(hl:Z.length=m*sz)(Ph:0<sz):
  J.ownsRow B e sz ((At.w id m).den O) m Z:=by
 rcases rel.vec id e sz Z hH with⟨W,rfl⟩|⟨W,spare,hb,TE,Qt⟩
 .have h0:m=0:=by
   have h4:m*sz=0:=by simpa using hl.symm
   rcases Nat.mul_eq_zero.1 h4 with h5|h5<;>omega
  subst h0;simp only[At.den,W]
  exact World.ownsRow_nil _ _ _ _
 .refine⟨hl,.inr ⟨(O id).g,(O id).cap,_,by simp only[At.den,W],(rel.low id _ hH W).1,hb,?_,Qt,by simpa using TE,by simp[<-hl]⟩⟩;have I:m*sz<=(O id).cap*sz:=by rw[<-TE,<-hl];simp
  exact cL I Ph
theorem wL(hτ:gM P τ)(sat:Sat n l H nx iv B w O a J){t ty:Nat}{x y:SV}{GE:SV->Hp->Nat->Prop}(h:Ay τ B t x y H nx iv w GE):
  ∃r H' PC IR Y,GE r H' PC/\Rel H' PC iv B w IR Y/\r.sc PC/\nx<=PC/\(∀id,id<nx->O id=IR id)/\(Builtin.append_ #[t,t] ty #[x.den O,y.den O]).run P J= .ok (r.den IR) Y:=by
 have rel:=sat.rel;unfold Ay at h;split at h
 .exact h.elim
 rename_i sz ag by_ ze tag ik e al fs RN;have ht:=hτ t _ RN;split at h
 .rename_i Pe;have hu:=ht.i4 (fA Pe);simp only at hu;split at h
  .rename_i sz' ag' by' ze' tag' ik' e' al' fs' QT
   have QT:=hτ e _ QT;split at h
   .exact h.elim
   .rename_i z0 zr;obtain⟨inf,z,D,PR,PZ,hz,S5⟩:=QT.info;have Sl:=QT.MQ;simp only at PR PZ S5 Sl;have Ph:0<sz':=by rw[<-Sl];simp
    have hzs:z.cells.size=sz':=by rw[<-Sl,<-S5];simp
    have h0:=Ji sat Ph h;clear h;obtain⟨m,c,ad,news,h,hy,S4,UZ,hsrc⟩:=h0;have happ:∀(v:Value) (k:Nat) (xs:List Value),J.ownsRow B e sz' v k xs->(k+m)*by'<=140737488355328->k+m<=maxLen->
      ∃v' Y,(Builtin.append_ #[t,t] ty #[v,y.den O]).run P J= .ok v' Y/\Y.ownsRow B e sz' v' (k+m) (xs++news)/\J.grownBy Y v.ownBlock/\(v'.ownBlock=v.ownBlock\/v'.ownBlock=some J.heap.size):=by
     intro v k xs SQ hb SA;rw[hy];rcases hsrc with⟨rfl,rfl⟩|⟨ad',rfl,QG⟩
     .have:news=[]:=List.eq_nil_of_length_eq_zero (by simpa using S4);subst this;exact⟨v,J,mh J B t ty e inf sz' hu D v k xs SQ c,by simpa using SQ,⟨rfl,rfl,rfl,aP _,fun _ _ _=>rfl⟩,.inl rfl⟩
     .obtain⟨v',Y,I,G,h3,_,h5⟩:=run_append_own_at (P:=P) J B t ty e inf z sz' by' hu D hz PR PZ hzs Ph v k xs SQ ad' m c news S4 QG UZ SA hb (by have:=rel.base;have:=rel.size;omega)
      exact⟨v',Y,I,G,h3,h5⟩
    split at h
    .obtain⟨hb,SA,hK⟩:=h;obtain⟨v',Y,I,G,h3,h5⟩:=happ (.slice none 0 0) 0 [] (World.ownsRow_nil _ _ _ _) (by simpa using hb) (by simpa using SA);simp only[aW,List.nil_append]at G;obtain⟨val,Va,SN,hv3,hv4⟩:=rV G;refine⟨_,_,_,iL O nx val,Y,hK,?_,by simp[SV.sc,At.sc],be,iT,?_⟩
     .refine rel.push (.vec e sz' news) val h3.os h3.tape h3.output h3.size (fun k K=>h3.block k K (by simp[Value.ownBlock])) (fun W=>?_) (by simpa [kp.fits]using SN) trivial;have:=hv3 W;rcases h5 with h6|h6
      .rw[this.1]at h6;simp[Value.ownBlock]at h6
      .rw[this.1]at h6;injection h6 with h6;exact⟨be,this.2⟩
     .rw[show SV.den O (.o (.v (.slice none 0 0)))= .slice none 0 0 from rfl,I,<-Va];simp[SV.den,At.den]
    .rename_i id k;split at h
     .rename_i e1 sz1 Z hH;split at h
      .rename_i WO;have WO:=fA WO;subst WO;split at h
       .rename_i QQ;have QQ:=fA QQ;subst QQ;obtain⟨hl,hb,SA,h⟩:=h;obtain⟨H1,hK,hH1,_⟩:=ub h;obtain⟨v',Y,I,G,h3,h5⟩:=happ _ k Z (B9 rel hH hl Ph) hb SA;obtain⟨val,Va,SN,hv3,hv4⟩:=rV G;have Rg:(O id).nil=false->((At.w id k).den O).ownBlock=some (O id).g:=fun W=>by simp[At.den,W,Value.ownBlock]
        have hob':(O id).nil=true->((At.w id k).den O).ownBlock=none:=fun W=>by simp[At.den,W,Value.ownBlock]
        refine⟨_,_,_,iL O nx val,Y,hK,?_,by simp[SV.sc,At.sc],be,iT,?_⟩
        .refine rel.OK hH bv hH1 (.vec e1 sz1 (Z++news)) val h3.os h3.tape h3.output h3.size (fun j hj Ox=>?_) (fun W=>?_) (by simpa [kp.fits]using SN) trivial
         .refine h3.block j hj fun e=>?_
          cases PK:(O id).nil
          .rw[Rg PK]at e;injection e with e;exact Ox PK e
          .rw[hob' PK]at e;cases e
         .have:=hv3 W;rcases h5 with h6|h6
          .rw[this.1]at h6
           cases PK:(O id).nil
           .rw[Rg PK]at h6;injection h6 with h6;exact .inr ⟨rfl,h6⟩
           .rw[hob' PK]at h6;cases h6
          .rw[this.1]at h6;injection h6 with h6;exact .inl ⟨be,this.2⟩
        .rw[show SV.den O (.o (.w id k))=(At.w id k).den O from rfl,I,<-Va];simp[SV.den,At.den]
       .exact h.elim
      .exact h.elim
     .exact h.elim
    .rename_i id k c0;split at h
     .rename_i Vu;have Vu:=fA Vu;subst Vu;split at h
      .rename_i e1 cs0 hH;split at h
       .rename_i WO;have WO:=fA WO;subst WO;obtain⟨Z,⟨hl,hb,SA,h9⟩,rfl,_⟩:=mf h;obtain⟨H1,hK,hH1,_⟩:=ub h9;have PK:(O id).nil=false:=rel.nn id _ hH (by intros;simp) bv;have Tv:=rel.box id _ _ hH;rw[gN]at Tv;have SQ:J.ownsRow B e1 sz' ((At.s id 0 k k).den O) k Z:=by
         refine⟨hl,.inr ⟨(O id).g,k,_,by simp only[At.den],(rel.low id _ hH PK).1,Tv,aP _,be,by simp[hl],by simp[<-hl]⟩⟩
        obtain⟨v',Y,I,G,h3,h5⟩:=happ _ k Z SQ hb SA;obtain⟨val,Va,SN,hv3,hv4⟩:=rV G;have Rg:((At.s id 0 k k).den O).ownBlock=some (O id).g:=by simp[At.den,Value.ownBlock]
        refine⟨_,_,_,iL O nx val,Y,hK,?_,by simp[SV.sc,At.sc],be,iT,?_⟩
        .refine rel.OK hH bv hH1 (.vec e1 sz' (Z++news)) val h3.os h3.tape h3.output h3.size (fun j hj Ox=>?_) (fun W=>?_) (by simpa [kp.fits]using SN) trivial
         .refine h3.block j hj fun e=>?_;rw[Rg]at e;injection e with e;exact Ox PK e
         .have:=hv3 W;rcases h5 with h6|h6
          .rw[this.1]at h6;rw[Rg]at h6;injection h6 with h6;exact .inr ⟨PK,h6⟩
          .rw[this.1]at h6;injection h6 with h6;exact .inl ⟨be,this.2⟩
        .rw[show SV.den O (.o (.s id 0 k k))=(At.s id 0 k k).den O from rfl,I,<-Va];simp[SV.den,At.den]
       .exact h.elim
      .exact h.elim
     .exact h.elim
    .exact h.elim
  .exact h.elim
 .exact h.elim
end
end Go.Sx
