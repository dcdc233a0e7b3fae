/- Texts Sx1 to Sx6: lemmas, each with its conditions. -/
import Derived.WalkKit
import Derived.Maps.AppendAt
import Derived.Laws.IdiomCopy
import Derived.Great.BuildSlice
namespace Go
variable{i m n:Nat}
theorem aB.{u_1}{α:Type u_1}{l:List α}(h:i<l.length):l[i]? =some l[i]:=List.getElem?_eq_getElem h
theorem aC.{u_1}{α:Type u_1}(y:α){a:α}{l:List α}:a∈l->a∈y::l:=List.mem_cons_of_mem y
theorem aD.{u_1}{α:Type u_1}{a:α}{l:List α}:l[i]? =some a↔∃h:i<l.length,l[i]=a:=List.getElem?_eq_some_iff
theorem aE.{u_1}{α:Type u_1}{l:List α}{a:α}(e:l[i]? =some a):a∈l:=List.mem_of_getElem? e
theorem aF(n:Nat):((n:Int)).toNat=n:=Int.toNat_natCast n
theorem aG.{u_1}{α:Type u_1}{a:α}{l:List α}:a∈a::l:=List.mem_cons_self
theorem aH{p:Prop} [inst:Decidable p]:decide p=false->¬p:=of_decide_eq_false
theorem aI.{u}{c:Prop}{h:Decidable c}(hnc:¬c){α:Sort u}{t e:α}:(if c then t else e)=e:=if_neg hnc
theorem aJ.{u_1}{α:Type u_1}{l₁ l₂:List α}(Z:i<l₁.length):(l₁++l₂)[i]? =l₁[i]? :=List.getElem?_append_left Z
theorem aK{p:Prop} [inst:Decidable p]:decide p=true->p:=of_decide_eq_true
theorem aL.{u_1,u_2}{α:Type u_1}{β:Type u_2}{as:List α}(f:α->β):(List.map f as).length=as.length:=List.length_map f
theorem aM.{u_1,u_2}{α:Type u_1}{β:Type u_2}{f:α->β}{l:List α}:(List.map f l)[i]? =Option.map f l[i]? :=List.getElem?_map
theorem aN.{u_1}{α:Type u_1}{l₁ l₂:List α}:l₁.length<=i->(l₁++l₂)[i]? =l₂[i-l₁.length]? :=List.getElem?_append_right
theorem aO.{u_1}{α:Type u_1}{l:List α}{a:α}(h:i<l.length):(l.set i a)[i]? =some a:=List.getElem?_set_self h
theorem aP(n m:Nat):n<m\/n≥m:=Nat.lt_or_ge n m
theorem aQ.{u_1}{α:Type u_1}{a:α}{l:List α}(h:a∈l):∃i:Nat,l[i]? =some a:=List.getElem?_of_mem h
theorem aR.{u_1,u_2}{α:Type u_1}{β:Type u_2}{b:β}{f:α->β}{l:List α}:b∈List.map f l↔∃a,a∈l/\f a=b:=List.mem_map
theorem aS(n:Nat):0<=n:=Nat.zero_le n
theorem aT.{u_1}{α:Type u_1}{l:List α}{j:Nat}(h:i≠j){a:α}:(l.set i a)[j]? =l[j]? :=List.getElem?_set_ne h
theorem aU(h₁:n<=m)(h₂:m<=n):n=m:=Nat.le_antisymm h₁ h₂
theorem aV(n:Nat):0+n=n:=Nat.zero_add n
theorem aW{k:Nat}:n<=m->m<=k->n<=k:=Nat.le_trans
theorem aX.{u_1}{α:Type u_1}{l:List α}(h:n<l.length):l[n]∈l:=List.getElem_mem h
theorem aY(n:Nat):n*1=n:=Nat.mul_one n
theorem aZ.{u_1}{α:Type u_1}{l:List α}:(List.take i l).length=min i l.length:=List.length_take
theorem a9.{u_1}{α:Type u_1}{l:List α}{a b:α}:a∈l.set i b->a∈l\/a=b:=List.mem_or_eq_of_mem_set
theorem ah.{u_1}{α:Type u_1}{b:α}{xs:Array α}:xs[i]? =some b↔∃h:i<xs.size,xs[i]=b:=Array.getElem?_eq_some_iff
theorem au.{u_1}{α:Type u_1}{xs:Array α}{d:α}:xs.getD i d=xs[i]?.getD d:=Array.getD_eq_getD_getElem?
theorem aw(a b:Bool):((a&&b)=true)=(a=true/\b=true):=Bool.and_eq_true a b
theorem az(a:Rat):a*0=0:=Rat.mul_zero a
theorem bA.{u}{α:Type u}{xs:Array α}:xs.toList[i]? =xs[i]? :=Array.getElem?_toList
theorem bB(n:Nat):n-n=0:=Nat.sub_self n
theorem bC(a:Rat):0*a=0:=Rat.zero_mul a
theorem bD(a:Rat):a+0=a:=Rat.add_zero a
theorem bE{p:Prop} [Decidable p]:¬p->decide p=false:=decide_eq_false
theorem bF.{u_1}{α:Type u_1}{a b:α}:a∈[b]↔a=b:=List.mem_singleton
theorem bG.{u_1}{α:Type u_1}{l₁ l₂:List α}(h:∀(i:Nat),l₁[i]? =l₂[i]?):l₁=l₂:=List.ext_getElem? h
theorem bH.{u_1}{α:Type u_1}{l:List α}:List.take l.length l=l:=List.take_length
theorem bI{a b:Nat}(h:a<b):a % b=a:=Nat.mod_eq_of_lt h
theorem bJ(n:Nat):n=0\/n>0:=Nat.eq_zero_or_pos n
theorem bK(a b:Rat):a / b=a*b⁻¹:=Rat.div_def a b
theorem bL(n m:Nat):n*m=m*n:=Nat.mul_comm n m
theorem bM:n.beq m=true->n=m:=Nat.eq_of_beq_eq_true
theorem bN.{u}{α:Type u}{a:α}:(List.replicate n a).length=n:=List.length_replicate
theorem bO.{u_1}{α:Type u_1}{l:List α}{j:Nat}(h:i<j):(List.take j l)[i]? =l[i]? :=List.getElem?_take_of_lt h
theorem bP(k:Nat)(h:n<=m):k*n<=k*m:=Nat.mul_le_mul_left k h
theorem bQ(n m k:Nat):n*(m+k)=n*m+n*k:=Nat.mul_add n m k
theorem bS.{u_1}{α:Type u_1}{a:α}{l:List α}(h:a∈List.take i l):a∈l:=List.mem_of_mem_take h
theorem bT.{u_1}{α:Type u_1}{xs:Array α}{a:α}:(xs.setIfInBounds i a).size=xs.size:=Array.size_setIfInBounds
theorem bU{p:Prop} [inst:Decidable p]:p->decide p=true:=decide_eq_true
theorem bV(n:Nat):n<n.succ:=Nat.lt_succ_self n
theorem bW:List.range n.succ=List.range n++[n]:=List.range_succ
theorem bX.{u}{α:Type u}{as:List α}{a:α}:(as.set i a).length=as.length:=List.length_set
theorem bY.{u_1,u_2}{α:Type u_1}{β:Type u_2}(a:α)(f:α->β):Option.map f (some a)=some (f a):=Option.map_some a f
theorem bZ(h:i<n):(List.range n)[i]? =some i:=List.getElem?_range h
theorem b9.{u_1}{α:Type u_1}{a b:α}(h:b∈List.replicate n a):b=a:=List.eq_of_mem_replicate h
theorem bc(n m k:Nat):n*m*k=n*(m*k):=Nat.mul_assoc n m k
theorem bf.{u}{α:Type u}(as bs U:List α):as++bs++U=as++(bs++U):=List.append_assoc as bs U
theorem bg{a:Int}(h:a<0):a.sign= -1:=Int.sign_eq_neg_one_of_neg h
theorem bh{a:Int}(h:0<a):a.sign=1:=Int.sign_eq_one_of_pos h
theorem bj(n:Nat):n+0=n:=Nat.add_zero n
theorem bl(m:Nat)(npos:0<n):0<m.gcd n:=Nat.gcd_pos_of_pos_right m npos
theorem bm(a:Rat):1*a=a:=Rat.one_mul a
theorem bo(w:Nat):0<2^w:=Nat.two_pow_pos w
theorem bp(a b:Nat):a<b\/a=b\/b<a:=Nat.lt_trichotomy a b
theorem bq(x:Nat){y:Nat}(hy:0<y):x % y<y:=Nat.mod_lt x hy
theorem bs(a b:Rat):a*b=b*a:=Rat.mul_comm a b
theorem bu{a:Int}:a.sign=0↔a=0:=Int.sign_eq_zero_iff_zero
end Go
namespace Go.Sx
open Go
variable{next:Act->World->Prop}{ad:Addr}{cells:Array Value}{b:Bool}{Q:Exit->Act->World->Prop}{Fn:Int->Prop}{fs:List (Nat×Nat)}{rest:List (Nat×Value)}{U new old xs:List Value}{B id m n nx off size:Nat}{place:Nat->Option (Nat×Nat)}{D lo:Option Operand}{F8:Prop}{J V:World}
inductive At where
 |v (x:Value)
 |p (id off:Nat)
 |s (id off len cap:Nat)
 |w (id len:Nat)
 |fn (f:Nat) (caps:List Nat)
inductive SV where
 |o (x:At)
 |a (U:List At)
structure dL where
 g:Nat
 cap:Nat
 nil:Bool
def At.den(O:Nat->dL):At->Value
 | .v x=>x
 | .p id off=>.pointer (some ⟨(O id).g,off,none⟩)
 | .s id off len cap=>.slice (some ⟨(O id).g,off,none⟩) len cap
 | .w id len=>match(O id).nil with
  |true=>.slice none 0 0
  |false=>.slice (some ⟨(O id).g,0,none⟩) len (O id).cap
 | .fn f caps=>.func (.func f) #[] (caps.map fun id=>Value.pointer (some ⟨(O id).g,0,none⟩)).toArray
def SV.den(O:Nat->dL):SV->Value
 | .o x=>x.den O
 | .a U=>.agg (U.map (At.den O)).toArray
def At.sc(n:Nat):At->Prop
 | .v _=>True
 | .p id _=>id<n
 | .s id _ _ _=>id<n
 | .w id _=>id<n
 | .fn _ caps=>∀id∈caps,id<n
def SV.sc(n:Nat):SV->Prop
 | .o x=>x.sc n
 | .a U=>∀x∈U,At.sc n x
inductive jh where
 |box (t:Nat) (U:List At)
 |arr (t:Nat) (U:List Value)
 |vec (t:Nat) (size:Nat) (U:List Value)
 |dead
abbrev Env:=List (Nat×SV)
abbrev Hp:=List (Nat×jh)
abbrev Iv:=List (Nat×Nat)
def fR:Env->Nat->Option SV
 |[],_=>none
 |(t,v)::r,u=>match Nat.beq t u with
  |true=>some v
  |false=>fR r u
def cV:Hp->Nat->Option jh
 |[],_=>none
 |(t,v)::r,u=>match Nat.beq t u with
  |true=>some v
  |false=>cV r u
def Aw:Hp->Nat->(Hp->Prop)->Prop
 |[],_,_=>False
 |(t,v)::r,u,k=>match Nat.beq t u with
  |true=>k ((t,.dead)::r)
  |false=>Aw r u (fun r'=>k ((t,v)::r'))
def FJ:Hp->Nat->jh->(Hp->Prop)->Prop
 |[],_,_,_=>False
 |(t,v)::r,u,b,k=>match Nat.beq t u with
  |true=>k ((t,b)::r)
  |false=>FJ r u b (fun r'=>k ((t,v)::r'))
structure TI where
 size:Nat
 agg:Bool
 bytes:Nat
 zero:List Value
 tag:Nat
 ik:IntKind:=.i64
 elem:Nat:=0
 CA:Nat:=0
 fields:List (Nat×Nat):=[]
def ev(l:Env):Operand->Option SV
 | .tmp t=>fR l t
 | .const v=>some (.o (.v v))
 | .global g=>some (.o (.v (.pointer (some ⟨g,0,none⟩))))
 | .func f=>some (.o (.v (.func (.func f) #[] #[])))
def ow(l:Env)(x:Operand)(k:SV->Prop):Prop:=match ev l x with
 |some v=>k v
 |none=>False
def JI(l:Env):List Operand->(List SV->Prop)->Prop
 |[],k=>k []
 |x::r,k=>match ev l x with
  |some v=>JI l r (fun vs=>k (v::vs))
  |none=>False
def sj:List At->Nat->(List At->Prop)->Prop
 |l,0,k=>k l
 |[],_+1,_=>False
 |_::t,n+1,k=>sj t n k
def sk:List At->Nat->(List At->Prop)->Prop
 |_,0,k=>k []
 |[],_+1,_=>False
 |x::t,n+1,k=>sk t n (fun r=>k (x::r))
def Ax:List At->List At->(List At->Prop)->Prop
 |U,[],k=>k U
 |[],_::_,_=>False
 |_::t,x::r,k=>Ax t r (fun t'=>k (x::t'))
def qV:List At->Nat->List At->(List At->Prop)->Prop
 |U,0,new,k=>Ax U new k
 |[],_+1,_,_=>False
 |x::t,n+1,new,k=>qV t n new (fun t'=>k (x::t'))
def ox:List Value->(List At->Prop)->Prop
 |[],k=>k []
 |x::r,k=>ox r (fun r'=>k (.v x::r'))
def xt:SV->(List At->Prop)->Prop
 | .a U,k=>k U
 | .o (.v (.agg ⟨l⟩)),k=>ox l k
 | .o (.v (.tuple _)),_=>False
 | .o x,k=>k [x]
def At.one:At->Bool
 | .v (.agg _)=>false
 | .v (.tuple _)=>false
 |_=>true
def Gt:List At->Prop->Prop
 |[],k=>k
 |x::r,k=>match x.one with
  |true=>Gt r k
  |false=>False
def wj:List At->(List Value->Prop)->Prop
 |[],k=>k []
 | .v x::r,k=>match At.one (.v x)with
  |true=>wj r (fun r'=>k (x::r'))
  |false=>False
 |_::_,_=>False
def dB(b:Bool)(F8 B:Prop):Prop:=match b with
 |true=>F8
 |false=>B
theorem dB.t{B:Prop}(h:dB b F8 B)(e:b=true):F8:=by subst e;exact h
theorem dB.f{B:Prop}(h:dB b F8 B)(e:b=false):B:=by subst e;exact h
theorem dB.mk{B:Prop}(I:b=true->F8)(X:b=false->B):dB b F8 B:=by
 cases b
 ·exact X rfl
 ·exact I rfl
structure Rel(H:Hp)(nx:Nat)(iv:Iv)(B:Nat)(w:World)(O:Nat->dL)(J:World):Prop where
 os:J.os=w.os
 tape:J.tape=w.tape
 output:J.output=w.output
 size:w.heap.size<=J.heap.size
 base:B<=w.heap.size
 qW:∀lo D,(lo,D)∈iv->D<=w.heap.size
 keys:∀id b,cV H id=some b->id<nx
 box:∀id t U,cV H id=some (.box t U)->J.heap[(O id).g]? =some (.cells (U.map (At.den O)).toArray t (0,0))
 arr:∀id t U,cV H id=some (.arr t U)->J.heap[(O id).g]? =some (.cells U.toArray t (0,0))
 vec:∀id t size U,cV H id=some (.vec t size U)->((O id).nil=true/\U=[])\/
  ((O id).nil=false/\∃spare:List Value,J.heap[(O id).g]? =some (.cells (U++spare).toArray t (0,0))/\(U++spare).length=(O id).cap*size/\(O id).cap<=maxLen)
 inj:∀id id' b b',cV H id=some b->cV H id'=some b'->b≠ .dead->b'≠ .dead->(O id).nil=false->(O id').nil=false->(O id).g=(O id').g->id=id'
 low:∀id b,cV H id=some b->(O id).nil=false->B<=(O id).g/\(O id).g<J.heap.size
 ub:∀k,k<w.heap.size->(∀id b,cV H id=some b->(O id).nil=false->(O id).g≠k)->J.heap[k]? =w.heap[k]?
 ji:∀lo D,(lo,D)∈iv->∀id b,cV H id=some b->(O id).nil=false->¬(lo<=(O id).g/\(O id).g<D)
 JJ:∀id t U,cV H id=some (.box t U)->∀x∈U,At.sc nx x
 nn:∀id b,cV H id=some b->(∀t size U,b≠ .vec t size U)->b≠ .dead->(O id).nil=false
structure JQ(P:Program)(g:Nat):Prop where
 h:∀(args:Array Value) (w:World),(callFunc g args).run P w= .ok (.enter g args) w
structure dx(P:Program)(g:Nat)(args:Array Value)(w:World)(FS:Ending->World->Prop):Prop where
 e:JQ P g
 c:Calls P g args w FS
def CE:List At->Nat->Option At
 |[],_=>none
 |x::_,0=>some x
 |_::t,n+1=>CE t n
def Hs:List Value->Nat->Option Value
 |[],_=>none
 |x::_,0=>some x
 |_::t,n+1=>Hs t n
def Hu:List (Nat×Nat)->Nat->Option (Nat×Nat)
 |[],_=>none
 |x::_,0=>some x
 |_::t,n+1=>Hu t n
def pC:IntKind->IntKind->Bool
 | .i8,.i8=>true| .i16,.i16=>true| .i32,.i32=>true| .i64,.i64=>true
 | .u8,.u8=>true| .u16,.u16=>true| .u32,.u32=>true| .u64,.u64=>true
 |_,_=>false
abbrev mn:=Nat->Option TI
def Hv(op:BinOp)(k:IntKind)(a b:Int)(Fn:Value->Prop):Prop:=
 match op with
 | .add=>∃r,k.wrap (a+b)=r/\Fn (.int k r)
 | .sub=>∃r,k.wrap (a-b)=r/\Fn (.int k r)
 | .mul=>∃r,k.wrap (a*b)=r/\Fn (.int k r)
 | .quo=>b≠0/\∃r,k.wrap (a.tdiv b)=r/\Fn (.int k r)
 | .rem=>b≠0/\∃r,a.tmod b=r/\Fn (.int k r)
 | .and=>∃r,k.wrap ((BitVec.ofInt k.bits a &&& BitVec.ofInt k.bits b).toNat:Int)=r/\Fn (.int k r)
 | .or=>∃r,k.wrap ((BitVec.ofInt k.bits a ||| BitVec.ofInt k.bits b).toNat:Int)=r/\Fn (.int k r)
 | .xor=>∃r,k.wrap ((BitVec.ofInt k.bits a ^^^ BitVec.ofInt k.bits b).toNat:Int)=r/\Fn (.int k r)
 | .shl=>0<=b/\∃r,k.wrap (a*2^(min b.toNat k.bits))=r/\Fn (.int k r)
 | .shr=>0<=b/\∃r,a.fdiv (2^(min b.toNat k.bits))=r/\Fn (.int k r)
 | .eql=>Fn (.bool (a==b))
 | .neq=>Fn (.bool (a != b))
 | .lss=>Fn (.bool (decide (a<b)))
 | .leq=>Fn (.bool (decide (a<=b)))
 | .gtr=>Fn (.bool (decide (a>b)))
 | .geq=>Fn (.bool (decide (a≥b)))
 | .andNot=>∃r,k.wrap ((BitVec.ofInt k.bits a &&& ~~~BitVec.ofInt k.bits b).toNat:Int)=r/\Fn (.int k r)
def NG(P:Program)(τ:mn)(op:BinOp)(t:Nat)(x y:SV)(Fn:SV->Prop):Prop:=
 match x,y with
 | .o (.v (.int k a)),.o (.v (.int k' b))=>
  match op with
  | .shl=>Hv op k a b (fun r=>Fn (.o (.v r)))
  | .shr=>Hv op k a b (fun r=>Fn (.o (.v r)))
  |_=>match pC k k' with
   |true=>Hv op k a b (fun r=>Fn (.o (.v r)))
   |false=>False
 | .o (.v (.bool a)),.o (.v (.bool b))=>
  match τ t with
  |some ti=>match Nat.beq ti.tag 2 with
   |true=>match op with
    | .eql=>Fn (.o (.v (.bool (a==b))))
    | .neq=>Fn (.o (.v (.bool (!(a==b)))))
    |_=>False
   |false=>False
  |none=>False
 | .o (.v (.string a)),.o (.v (.string b))=>
  match op with
  | .eql=>Fn (.o (.v (.bool (a.data.toList==b.data.toList))))
  | .neq=>Fn (.o (.v (.bool (!(a.data.toList==b.data.toList)))))
  | .add=>a.size+b.size<=maxLen/\Fn (.o (.v (.string (a++b))))
  |_=>False
 |_,_=>∃b:Bool,(∀(O:Nat->dL) (w:World) (o1 o2:Operand),(do eqGuard op t o1 o2 (x.den O) (y.den O);binOp op t (x.den O) (y.den O)).run P w= .ok (.bool b) w)/\Fn (.o (.v (.bool b)))
def BE(τ:mn)(B:Nat)(t:Nat)(addr:SV)(H:Hp)(nx:Nat)(iv:Iv)(w:World)(Fn:SV->Prop):Prop:=
 match τ t with
 |none=>False
 |some ⟨sz,ag,_,_,_,_,_,_,_⟩=>
  match addr with
  | .o (.p id off)=>
   match cV H id with
   |some (.box _ U)=>
    match ag with
    |false=>match CE U off with
     |some x=>Fn (.o x)
     |none=>False
    |true=>sj U off (fun r=>sk r sz (fun l=>Fn (.a l)))
   |some (.arr _ U)=>
    match ag with
    |false=>∃x,U[off]? =some x/\Fn (.o (.v x))
    |true=>∃xs:List Value,(U.drop off).take sz=xs/\xs.length=sz/\ox xs (fun l=>Fn (.a l))
   |some (.vec _ _ U)=>
    match ag with
    |false=>∃x,U[off]? =some x/\Fn (.o (.v x))
    |true=>∃xs:List Value,(U.drop off).take sz=xs/\xs.length=sz/\ox xs (fun l=>Fn (.a l))
   |_=>False
  | .o (.v (.pointer (some ad)))=>
   match ag with
   |false=>∃x,(∀O J,Rel H nx iv B w O J->J.cell? ad=some x)/\Fn (.o (.v x))
   |true=>∃xs:List Value,xs.length=sz/\(∀O J,Rel H nx iv B w O J->∀j x,xs[j]? =some x->J.cell? (ad.add j)=some x)/\ox xs (fun l=>Fn (.a l))
  |_=>False
def setCells(w:World)(a:Addr):List Value->World
 |[]=>w
 |x::r=>setCells (w.setCell a x) (a.add 1) r
def CF(τ:mn)(B:Nat)(t:Nat)(addr x:SV)(H:Hp)(nx:Nat)(iv:Iv)(w:World)(Fn:Hp->World->Prop):Prop:=
 match τ t with
 |none=>False
 |some ⟨sz,_,_,_,_,_,_,_,_⟩=>
  xt x (fun new=>Gt new (match Nat.beq new.length sz with
   |false=>False
   |true=>match addr with
    | .o (.p id off)=>
     match cV H id with
     |some (.box bt U)=>qV U off new (fun cs'=>FJ H id (.box bt cs') (fun H'=>Fn H' w))
     |some (.arr bt U)=>wj new (fun nv=>off+sz<=U.length/\∃cs',U.take off++nv++U.drop (off+sz)=cs'/\FJ H id (.arr bt cs') (fun H'=>Fn H' w))
     |some (.vec bt ez U)=>wj new (fun nv=>off+sz<=U.length/\∃cs',U.take off++nv++U.drop (off+sz)=cs'/\FJ H id (.vec bt ez cs') (fun H'=>Fn H' w))
     |_=>False
    | .o (.v (.pointer (some ad)))=>wj new (fun nv=>∀O J,Rel H nx iv B w O J->
      ad.spot=none/\(∀j,j<sz->(J.cell? (ad.add j)).isSome=true/\J.frozen? (ad.add j)=false)/\
      (∀id b,cV H id=some b->(O id).nil=false->(O id).g≠ad.block)/\
      ∀V,V=setCells J ad nv->Fn H V)
    |_=>False))
def AU(b:jh)(H:Hp)(nx:Nat)(Fn:Hp->Nat->Prop):Prop:=Fn ((nx,b)::H) (nx+1)
def pD(τ:mn)(fs:List (Nat×Nat))(f:Nat)(k:Nat->Nat->Bool->Prop):Prop:=
 match Hu fs f with
 |some (off,ft)=>match τ ft with
  |some ⟨sz,ag,_,_,_,_,_,_,_⟩=>match Nat.beq sz 0 with
   |true=>False
   |false=>k off sz ag
  |none=>False
 |none=>False
def xY(x:SV)(n:Nat)(Fn:SV->Prop):Prop:=
 match x with
 | .o (.p id off)=>Fn (.o (.p id (off+n)))
 | .o (.v (.pointer (some ad)))=>Fn (.o (.v (.pointer (some (ad.add n)))))
 |_=>False
def uh(l:Env)(place:Nat->(Nat->Nat->Prop)->Prop):List (Nat×Operand)->List At->(List At->Prop)->Prop
 |[],U,k=>k U
 |(i,x)::r,U,k=>place i (fun off size=>ow l x (fun v=>xt v (fun new=>match Nat.beq new.length size with
   |true=>qV U off new (fun cs'=>uh l place r cs' k)
   |false=>False)))
def Hw(H:Hp)(id m:Nat)(Fn:Prop):Prop:=
 match cV H id with
 |some (.vec _ sz U)=>match sz with
  |0=>False
  |k+1=>U.length=m*(k+1)/\Fn
 |_=>False
def NH(τ:mn)(H:Hp)(t:Nat)(x:SV)(Fn:Int->Prop):Prop:=
 match τ t with
 |none=>False
 |some ⟨_,_,_,_,tag,_,_,CA,_⟩=>match Nat.beq tag 4 with
  |true=>match x with
   | .o (.v (.slice _ n _))=>Fn n
   | .o (.s _ _ n _)=>Fn n
   | .o (.w id n)=>Hw H id n (Fn n)
   |_=>False
  |false=>match Nat.beq tag 3 with
   |true=>match x with
    | .o (.v (.string b))=>Fn b.size
    |_=>False
   |false=>match Nat.beq tag 6 with
    |true=>Fn CA
    |false=>False
def FQ(τ:mn)(H:Hp)(t:Nat)(x i:SV)(Fn:SV->Prop):Prop:=
 match i with
 | .o (.v (.int _ i))=>match τ t with
  |some ⟨_,_,_,_,tag,_,e,CA,_⟩=>match τ e with
   |some ⟨sz,_,_,_,_,_,_,_,_⟩=>match Nat.beq tag 4 with
    |true=>match x with
     | .o (.s id off n _)=>(0<=i/\i<n)/\Fn (.o (.p id (off+i.toNat*sz)))
     | .o (.w id n)=>Hw H id n ((0<=i/\i<n)/\Fn (.o (.p id (i.toNat*sz))))
     | .o (.v (.slice a n _))=>∃ad,a=some ad/\(0<=i/\i<n)/\Fn (.o (.v (.pointer (some (ad.add (i.toNat*sz))))))
     |_=>False
    |false=>match Nat.beq tag 6 with
     |true=>(0<=i/\i<CA)/\xY x (i.toNat*sz) Fn
     |false=>False
   |none=>False
  |none=>False
 |_=>False
def Lj(l:Env)(x:Option Operand)(dflt:Int)(Fn:Int->Prop):Prop:=
 match x with
 |none=>Fn dflt
 |some o=>ow l o (fun v=>match v with
  | .o (.v (.int _ n))=>Fn n
  |_=>False)
def FR(τ:mn)(H:Hp)(t:Nat)(x:SV)(l:Env)(lo D:Option Operand)(Fn:SV->Prop):Prop:=
 match τ t with
 |some ⟨_,_,_,_,tag,_,e,al,_⟩=>match Nat.beq tag 4 with
  |true=>match τ e with
   |some ⟨sz,_,_,_,_,_,_,_,_⟩=>match x with
    | .o (.s id off n c)=>Lj l lo 0 (fun a=>Lj l D n (fun b=>(0<=a/\a<=b/\b<=c)/\∃off' n' c':Nat,(if (c:Int)=a then off else off+a.toNat*sz)=off'/\b.toNat-a.toNat=n'/\c-a.toNat=c'/\Fn (.o (.s id off' n' c'))))
    | .o (.v (.slice ad n c))=>Lj l lo 0 (fun a=>Lj l D n (fun b=>(0<=a/\a<=b/\b<=c)/\∃ad' n' c',(if (c:Int)=a then ad else ad.map (·.add (a.toNat*sz)))=ad'/\b.toNat-a.toNat=n'/\c-a.toNat=c'/\Fn (.o (.v (.slice ad' n' c')))))
    | .o (.w id n)=>match lo with
     |none=>Hw H id n (Lj l D n (fun b=>(0<=b/\b<=n)/\∃m:Nat,b.toNat=m/\Fn (.o (.w id m))))
     |some _=>False
    |_=>False
   |none=>False
  |false=>match Nat.beq tag 6 with
   |true=>match τ e with
    |some ⟨_,_,_,_,_,_,_,_,_⟩=>match x with
     | .o (.p id off)=>match lo,D with
      |none,none=>match Nat.beq al 0 with
       |false=>Fn (.o (.s id off al al))
       |true=>False
      |_,_=>False
     |_=>False
    |none=>False
   |false=>match Nat.beq tag 3 with
    |true=>match x with
     | .o (.v (.string s))=>Lj l lo 0 (fun a=>Lj l D s.size (fun b=>(0<=a/\a<=b/\b<=s.size)/\Fn (.o (.v (.string (s.extract a.toNat b.toNat))))))
     |_=>False
    |false=>False
 |none=>False
def Gy(τ:mn)(t:Nat)(x y:SV)(H:Hp)(nx:Nat)(Fn:SV->Hp->Nat->Prop):Prop:=
 match x,y with
 | .o (.v (.int _ a)),.o (.v (.int _ b))=>match τ t with
  |some ⟨_,_,_,_,tag,_,e,_,_⟩=>match Nat.beq tag 4 with
   |true=>match τ e with
    |some ⟨_,_,by_,ze,_,_,_,_,_⟩=>∃n c:Nat,a=n/\b=c/\n<=c/\by_*c<=281474976710656/\c<=9223372036854775807/\
      match ze with
      |[z]=>AU (.arr e (List.replicate c z)) H nx (fun H' OW=>Fn (.o (.s nx 0 n c)) H' OW)
      |zs=>AU (.arr e (List.replicate c zs).flatten) H nx (fun H' OW=>Fn (.o (.s nx 0 n c)) H' OW)
    |none=>False
   |false=>False
  |none=>False
 |_,_=>False
def JU(B:Nat)(H:Hp)(nx:Nat)(iv:Iv)(w:World)(size:Nat)(x:SV)(Fn:Nat->List Value->Prop):Prop:=
 match x with
 | .o (.s id off n _)=>match cV H id with
  |some (.box _ U)=>sj U off (fun r=>sk r (n*size) (fun l=>wj l (fun vs=>Fn n vs)))
  |some (.arr _ U)=>∃vs:List Value,(U.drop off).take (n*size)=vs/\vs.length=n*size/\(∀x∈vs,x.oneCell'=true)/\Fn n vs
  |_=>False
 | .o (.v (.slice a n _))=>∃vs:List Value,vs.length=n*size/\(∀x∈vs,x.oneCell'=true)/\
   (∀O J,Rel H nx iv B w O J->0<n->∃ad,a=some ad/\∀j u,vs[j]? =some u->J.cell? (ad.add j)=some u)/\Fn n vs
 | .o (.w id n)=>match cV H id with
  |some (.vec _ _ U)=>U.length=n*size/\(∀x∈U,x.oneCell'=true)/\Fn n U
  |_=>False
 |_=>False
def xZ(τ:mn)(B:Nat)(t:Nat)(x y:SV)(H:Hp)(nx:Nat)(iv:Iv)(w:World)(Fn:SV->Hp->Nat->Prop):Prop:=
 match τ t with
 |none=>False
 |some ⟨_,_,_,_,tag,_,e,_,_⟩=>match Nat.beq tag 4 with
  |true=>match τ e with
   |some ⟨sz,_,by_,ze,_,_,_,_,_⟩=>match ze with
    |[]=>False
    |_::_=>JU B H nx iv w sz y (fun m news=>
     match x with
     | .o (.v (.slice none 0 0))=>m*by_<=140737488355328/\m<=maxLen/\AU (.vec e sz news) H nx (fun H' OW=>Fn (.o (.w nx m)) H' OW)
     | .o (.w id n)=>match cV H id with
      |some (.vec e' sz' U)=>match Nat.beq e' e with
       |true=>match Nat.beq sz' sz with
        |true=>U.length=n*sz/\(n+m)*by_<=140737488355328/\n+m<=maxLen/\Aw H id (fun H1=>AU (.vec e sz (U++news)) H1 nx (fun H' OW=>Fn (.o (.w nx (n+m))) H' OW))
        |false=>False
       |false=>False
      |_=>False
     | .o (.s id 0 n c)=>match Nat.beq n c with
      |true=>match cV H id with
       |some (.box e' U)=>match Nat.beq e' e with
        |true=>wj U (fun vs=>vs.length=n*sz/\(n+m)*by_<=140737488355328/\n+m<=maxLen/\Aw H id (fun H1=>AU (.vec e sz (vs++news)) H1 nx (fun H' OW=>Fn (.o (.w nx (n+m))) H' OW)))
        |false=>False
       |_=>False
      |false=>False
     |_=>False)
   |none=>False
  |false=>False
def nP(O:Nat->dL)(xs:List SV):Array Value:=(xs.map (SV.den O)).toArray
abbrev Ext(w V:World):Prop:=RowKit.Below w.heap.size w V
structure BD(P:Program)(B:Nat)(g:Nat)(args:(Nat->dL)->Array Value)(H:Hp)(nx:Nat)(iv:Iv)(w:World)(Fn:SV->Hp->Iv->World->Prop):Prop where
 h:∀O J,Rel H nx iv B w O J->dx P g (args O) J (fun e V=>∃v H' E,e= .returned v/\Rel H' nx E B V O V/\Fn (.o (.v v)) H' E V)
structure D3(P:Program)(B:Nat)(g:Nat)(args:(Nat->dL)->Array Value)(H:Hp)(nx:Nat)(iv:Iv)(w:World)(Fn:SV->Hp->Iv->World->Prop):Prop where
 h:∀O J,Rel H nx iv B w O J->dx P g (args O) J (fun e V=>∃v,e= .returned v/\Ext J V/\Fn (.o (.v v)) H ((J.heap.size,V.heap.size)::iv) V)
def JV(dr:Bool)(P:Program)(B:Nat)(g:Nat)(args:(Nat->dL)->Array Value)(H:Hp)(nx:Nat)(iv:Iv)(w:World)(Fn:SV->Hp->Iv->World->Prop):Prop:=
 match dr with
 |true=>D3 P B g args H nx iv w Fn
 |false=>BD P B g args H nx iv w Fn
structure yF(P:Program)(B:Nat)(o:Oper)(l:Env)(H:Hp)(nx:Nat)(iv:Iv)(w:World)(Fn:SV->Hp->Nat->Iv->World->Prop):Prop where
 h:∀(O:Nat->dL) J (e:Operand->Value),Rel H nx iv B w O J->(∀x v,ev l x=some v->e x=v.den O)->
  ∃v V E,((execOp e o).run P J= .ok (.value v) V\/((execOp e o).run P J= .ok .skip V/\v=undef))/\Rel H nx E B V O V/\Fn (.o (.v v)) H nx E V
def fbK(dr:Bool)(P:Program)(B:Nat)(o:Oper)(l:Env)(H:Hp)(nx:Nat)(iv:Iv)(w:World)(Fn:SV->Hp->Nat->Iv->World->Prop):Prop:=
 match dr with
 |true=>False
 |false=>yF P B o l H nx iv w Fn
structure OpG(P:Program)(B:Nat)(o:Oper)(l:Env)(H:Hp)(nx:Nat)(iv:Iv)(w:World)(Fn:SV->Hp->Nat->Iv->World->Prop):Prop where
 h:∀(O:Nat->dL) J (e:Operand->Value),Rel H nx iv B w O J->(∀x v,ev l x=some v->e x=v.den O)->
  ∃V w3 H' E,(execOp e o).run P J= .ok .skip w3/\Rel H' nx E B V O w3/\Fn (.o (.v undef)) H' nx E V
def gbK(dr:Bool)(P:Program)(B:Nat)(o:Oper)(l:Env)(H:Hp)(nx:Nat)(iv:Iv)(w:World)(Fn:SV->Hp->Nat->Iv->World->Prop):Prop:=
 match dr with
 |true=>False
 |false=>OpG P B o l H nx iv w Fn
structure OpA(P:Program)(B:Nat)(o:Oper)(l:Env)(H:Hp)(nx:Nat)(iv:Iv)(w:World)(Fn:SV->Hp->Nat->Iv->World->Prop):Prop where
 h:∀(O:Nat->dL) J (e:Operand->Value),Rel H nx iv B w O J->(∀x v,ev l x=some v->e x=v.den O)->
  ∃v H' OW E G8 V w3,(execOp e o).run P J= .ok (.value (SV.den G8 v)) w3/\Rel H' OW E B V G8 w3/\v.sc OW/\nx<=OW/\(∀id,id<nx->O id=G8 id)/\Fn v H' OW E V
def gaK(dr:Bool)(P:Program)(B:Nat)(o:Oper)(l:Env)(H:Hp)(nx:Nat)(iv:Iv)(w:World)(Fn:SV->Hp->Nat->Iv->World->Prop):Prop:=
 match dr with
 |true=>False
 |false=>OpA P B o l H nx iv w Fn
def OB(H:Hp):SV->Bool
 | .o (.s id _ _ _)=>match cV H id with
  |some (.box _ [.s _ _ _ _])=>true
  |some (.box _ [.w _ _])=>true
  |_=>false
 |_=>false
def Mg(H:Hp):SV->SV->Bool
 | .o (.p id _),.o (.s _ _ _ _)=>match cV H id with
  |some (.arr _ _)=>true
  |_=>false
 |_,_=>false
def nS:List SV->(List Nat->Prop)->Prop
 |[],k=>k []
 | .o (.p id 0)::r,k=>nS r (fun l=>k (id::l))
 |_::_,_=>False
def xu(dr:Bool)(P:Program)(τ:mn)(B:Nat)(o:Oper)(l:Env)(H:Hp)(nx:Nat)(iv:Iv)(w:World)(Fn:SV->Hp->Nat->Iv->World->Prop):Prop:=
 match o.op with
 | .move x=>ow l x (fun v=>Fn v H nx iv w)
 | .assign x=>ow l x (fun v=>Fn v H nx iv w)
 | .pick c a b=>ow l c (fun v=>match v with
  | .o (.v (.bool t))=>dB t (ow l a (fun v=>Fn v H nx iv w)) (ow l b (fun v=>Fn v H nx iv w))
  |_=>False)
 | .alloc t=>match τ t with
  |some ⟨_,_,_,ze,_,_,_,_,_⟩=>ox ze (fun U=>AU (.box t U) H nx (fun H' OW=>Fn (.o (.p nx 0)) H' OW iv w))
  |none=>False
 | .box t x=>ow l x (fun v=>xt v (fun U=>AU (.box t U) H nx (fun H' OW=>Fn (.o (.p nx 0)) H' OW iv w)))
 | .build t parts=>match τ t with
  |some ⟨_,_,_,ze,tag,_,e,_,fs⟩=>match Nat.beq tag 5 with
   |true=>ox ze (fun z=>uh l (fun i k=>pD τ fs i (fun off sz _=>k off sz)) parts.toList z (fun U=>Fn (.a U) H nx iv w))
   |false=>match Nat.beq tag 6 with
    |true=>match τ e with
     |some ⟨sz,_,_,_,_,_,_,_,_⟩=>ox ze (fun z=>uh l (fun i k=>k (i*sz) sz) parts.toList z (fun U=>Fn (.a U) H nx iv w))
     |none=>False
    |false=>False
  |none=>False
 | .buildSlice t n parts=>match τ t with
  |some ⟨_,_,_,_,tag,_,e,_,_⟩=>match Nat.beq tag 4 with
   |true=>match τ e with
    |some ⟨sz,_,_,ze,_,_,_,_,_⟩=>match Nat.ble (n*sz) 16777216 with
     |true=>ox (List.replicate n ze).flatten (fun z=>uh l (fun i k=>k (i*sz) sz) parts.toList z (fun U=>
       AU (.box e U) H nx (fun H' OW=>Fn (.o (.s nx 0 n n)) H' OW iv w)))
     |false=>False
    |none=>False
   |false=>False
  |none=>False
 | .load t a=>ow l a (fun v=>BE τ B t v H nx iv w (fun r=>Fn r H nx iv w))
 | .store t a x=>ow l a (fun va=>ow l x (fun vx=>match Mg H va vx with
  |true=>gbK dr P B o l H nx iv w Fn
  |false=>CF τ B t va vx H nx iv w (fun H' J=>Fn (.o (.v undef)) H' nx iv J)))
 | .nilCheck x=>ow l x (fun v=>match v with
  | .o (.p id off)=>Fn (.o (.p id off)) H nx iv w
  | .o (.v (.pointer (some ad)))=>Fn (.o (.v (.pointer (some ad)))) H nx iv w
  | .o (.fn f ids)=>Fn (.o (.fn f ids)) H nx iv w
  | .o (.v (.func (.func f) fi ca))=>Fn (.o (.v (.func (.func f) fi ca))) H nx iv w
  |_=>False)
 | .binOp op t x y _=>ow l x (fun vx=>ow l y (fun vy=>NG P τ op t vx vy (fun r=>Fn r H nx iv w)))
 | .unOp op _ x=>ow l x (fun v=>match op,v with
  | .not,.o (.v (.bool b))=>Fn (.o (.v (.bool (!b)))) H nx iv w
  | .neg,.o (.v (.int k n))=>∃r,k.wrap (0-n)=r/\Fn (.o (.v (.int k r))) H nx iv w
  | .xor,.o (.v (.int k n))=>∃r,k.wrap ((BitVec.ofInt k.bits (if k.signed then -1 else k.max) ^^^ BitVec.ofInt k.bits n).toNat:Int)=r/\Fn (.o (.v (.int k r))) H nx iv w
  |_,_=>False)
 | .convert sr d x=>match τ sr with
  |some _=>ow l x (fun v=>match τ d with
   |some ⟨_,_,_,_,tag,ik,_,_,_⟩=>match Nat.beq tag 1 with
    |true=>match v with
     | .o (.v (.int _ n))=>∃r,ik.wrap n=r/\Fn (.o (.v (.int ik r))) H nx iv w
     |_=>False
    |false=>fbK dr P B o l H nx iv w Fn
   |none=>False)
  |none=>False
 | .makeFunc (.func f) ⟨first⟩ caps=>match first with
  |[]=>JI l caps.toList (fun vs=>nS vs (fun ids=>Fn (.o (.fn f ids)) H nx iv w))
  |_=>False
 | .makeSlice t x y=>ow l x (fun vx=>ow l y (fun vy=>Gy τ t vx vy H nx (fun v H' OW=>Fn v H' OW iv w)))
 | .slice t x lo D none=>ow l x (fun v=>FR τ H t v l lo D (fun r=>Fn r H nx iv w))
 | .fieldAddr t x f=>match τ t with
  |some ⟨_,_,_,_,tag,_,_,_,fs⟩=>match Nat.beq tag 5 with
   |true=>pD τ fs f (fun off _ _=>ow l x (fun v=>xY v off (fun r=>Fn r H nx iv w)))
   |false=>False
  |none=>False
 | .field t x f=>match τ t with
  |some ⟨_,_,_,_,tag,_,_,_,fs⟩=>match Nat.beq tag 5 with
   |true=>pD τ fs f (fun off sz ag=>ow l x (fun v=>match v with
    | .o (.v (.agg ⟨vs⟩))=>ox vs (fun U=>match ag with
     |true=>sj U off (fun r=>sk r sz (fun c=>Fn (.a c) H nx iv w))
     |false=>match CE U off with
      |some c=>Fn (.o c) H nx iv w
      |none=>False)
    | .a U=>match ag with
     |true=>sj U off (fun r=>sk r sz (fun c=>Fn (.a c) H nx iv w))
     |false=>match CE U off with
      |some c=>Fn (.o c) H nx iv w
      |none=>False
    |_=>False))
   |false=>False
  |none=>False
 | .indexAddr t x i=>ow l x (fun vx=>ow l i (fun vi=>FQ τ H t vx vi (fun r=>Fn r H nx iv w)))
 | .extract x i=>ow l x (fun v=>match v with
  | .o (.v (.tuple ⟨vs⟩))=>match Hs vs i with
   |some u=>Fn (.o (.v u)) H nx iv w
   |none=>False
  |_=>False)
 | .call ⟨.builtin .len,⟨[x]⟩,⟨[t]⟩⟩=>ow l x (fun v=>NH τ H t v (fun n=>Fn (.o (.v (.int .i64 n))) H nx iv w))
 | .call ⟨.builtin .append,⟨[x,y]⟩,⟨[t,u]⟩⟩=>match Nat.beq t u with
  |true=>ow l x (fun vx=>ow l y (fun vy=>match OB H vy with
   |true=>gaK dr P B o l H nx iv w Fn
   |false=>xZ τ B t vx vy H nx iv w (fun v H' OW=>Fn v H' OW iv w)\/yF P B o l H nx iv w Fn))
  |false=>yF P B o l H nx iv w Fn
 | .call ⟨.builtin .max,⟨[x,y]⟩,_⟩=>ow l x (fun vx=>ow l y (fun vy=>match vx,vy with
  | .o (.v (.int k a)),.o (.v (.int k' b))=>match pC k k' with
   |true=>Fn (.o (.v (.int k (max a b)))) H nx iv w
   |false=>False
  |_,_=>False))
 | .call ⟨.builtin .min,⟨[x,y]⟩,_⟩=>ow l x (fun vx=>ow l y (fun vy=>match vx,vy with
  | .o (.v (.int k a)),.o (.v (.int k' b))=>match pC k k' with
   |true=>Fn (.o (.v (.int k (min a b)))) H nx iv w
   |false=>False
  |_,_=>False))
 | .call ⟨.builtin .copy,_,_⟩=>yF P B o l H nx iv w Fn
 | .call ⟨.builtin .clear,_,_⟩=>yF P B o l H nx iv w Fn
 | .call ⟨.builtin .cap,_,_⟩=>yF P B o l H nx iv w Fn
 | .index _ _ _=>yF P B o l H nx iv w Fn
 | .makeMap _ _=>yF P B o l H nx iv w Fn
 | .lookup _ _ _ _=>yF P B o l H nx iv w Fn
 | .mapUpdate _ _ _ _=>yF P B o l H nx iv w Fn
 | .call ⟨.value f,⟨args⟩,_⟩=>ow l f (fun vf=>JI l args (fun vs=>match vf with
   | .o (.v (.func (.func g) first caps))=>JV dr P B g (fun O=>first++nP O vs++caps) H nx iv w (fun v H' E J=>Fn v H' nx E J)
   | .o (.fn g ids)=>JV dr P B g (fun O=>nP O vs++(ids.map fun id=>Value.pointer (some ⟨(O id).g,0,none⟩)).toArray) H nx iv w (fun v H' E J=>Fn v H' nx E J)
   |_=>False))
 |_=>False
def BF:List Oper->Nat->Option Tmp
 |[],_=>none
 |o::_,0=>o.dst
 |_::r,n+1=>BF r n
def DZ(d:Option Tmp)(v:SV)(l:Env)(k:Env->Prop):Prop:=match d with
 |some t=>k ((t,v)::l)
 |none=>k l
def so(all:List Oper)(g:Option (Nat×Bool))(l:Env)(yes no:Env->Prop):Prop:=
 match g with
 |none=>yes l
 |some (j,want)=>match BF all j with
  |none=>no l
  |some d=>match fR l d with
   |some (.o (.v (.bool b)))=>match want with
    |true=>dB b (yes ((d,.o (.v (.bool true)))::l)) (no ((d,.o (.v (.bool false)))::l))
    |false=>dB b (no ((d,.o (.v (.bool true)))::l)) (yes ((d,.o (.v (.bool false)))::l))
   |some (.o (.v (.tuple _)))=>no l
   |_=>False
def gv(dr:Bool)(P:Program)(τ:mn)(B:Nat)(all:List Oper)(o:Oper)(l:Env)(H:Hp)(nx:Nat)(iv:Iv)(w:World)(k:Env->Hp->Nat->Iv->World->Prop):Prop:=
 so all o.guard l
  (fun l=>xu dr P τ B o l H nx iv w (fun v H' OW E J=>DZ o.dst v l (fun l'=>k l' H' OW E J)))
  (fun l=>DZ o.dst (.o (.v undef)) l (fun l'=>k l' H nx iv w))
def Gz(P:Program)(τ:mn)(B:Nat)(all:List Oper):List Oper->Env->Hp->Nat->Iv->World->(Env->Hp->Nat->Iv->World->Prop)->Prop
 |[],l,H,nx,iv,w,Fn=>Fn l H nx iv w
 |o::r,l,H,nx,iv,w,Fn=>gv false P τ B all o l H nx iv w (fun l' H' OW E J=>Gz P τ B all r l' H' OW E J Fn)
inductive Ex where
 |normal
 |exit (id:Nat)
 |ret
structure Sat(n:Nat)(l:Env)(H:Hp)(nx:Nat)(iv:Iv)(B:Nat)(w:World)(O:Nat->dL)(a:Act)(J:World):Prop where
 rel:Rel H nx iv B w O J
 size:a.tmps.size=n
 defers:a.defers=[]
 env:∀t v,fR l t=some v->a.tmps[t]? =some (v.den O)
 sc:∀t v,fR l t=some v->v.sc nx
abbrev KT:=Env->Hp->Nat->Iv->World->Prop
structure yB(P:Program)(B:Nat)(ops:Array Oper)(l:Env)(H:Hp)(nx:Nat)(iv:Iv)(w:World)(Fn:KT):Prop where
 h:∀n O a J,ops.toList.all (fun o=>match o.dst with
   |some d=>Nat.blt d n
   |none=>true)=true->Sat n l H nx iv B w O a J->
  ∀Q:Exit->Act->World->Prop,(∀l' H' OW E V G8 a' w'',Fn l' H' OW E V->Sat n l' H' OW E B V G8 a' w''->Q .normal a' w'')->
  ∀id,(Code.region id ops true).wp P Q a J
structure vt where
 l:Env
 H:Hp
 nx:Nat
 iv:Iv
 w:World
def Sub(B:Nat)(l:Env)(_nx:Nat)(O:Nat->dL)(J:World)(t:vt):Prop:=
 ∃G8,Rel t.H t.nx t.iv B t.w G8 J/\(∀u v,fR t.l u=some v->v.sc t.nx/\∃v0,fR l u=some v0/\v0.den O=v.den G8)
def mV(P:Program)(τ:mn)(B:Nat):Code->Env->Hp->Nat->Iv->World->(Ex->KT)->Prop
 | .skip,l,H,nx,iv,w,Q=>Q .normal l H nx iv w
 | .region _ ops false,l,H,nx,iv,w,Q=>Gz P τ B ops.toList ops.toList l H nx iv w (Q .normal)
 | .region _ ops true,l,H,nx,iv,w,Q=>yB P B ops l H nx iv w (Q .normal)
 | .seq a b,l,H,nx,iv,w,Q=>mV P τ B a l H nx iv w (fun e l H nx iv w=>match e with
  | .normal=>mV P τ B b l H nx iv w Q
  | .exit id=>Q (.exit id) l H nx iv w
  | .ret=>Q .ret l H nx iv w)
 | .cond c a b,l,H,nx,iv,w,Q=>ow l c (fun v=>match v with
  | .o (.v (.bool t))=>dB t (mV P τ B a l H nx iv w Q) (mV P τ B b l H nx iv w Q)
  |_=>False)
 | .block id c,l,H,nx,iv,w,Q=>mV P τ B c l H nx iv w (fun e l H nx iv w=>match e with
  | .normal=>Q .normal l H nx iv w
  | .exit id'=>match Nat.beq id' id with
   |true=>Q .normal l H nx iv w
   |false=>Q (.exit id') l H nx iv w
  | .ret=>Q .ret l H nx iv w)
 | .loop c,l,H,nx,iv,w,Q=>∃(α:Type) (st:α->vt) (μ:α->Nat) (A':α->Prop),
   (∀O J,Rel H nx iv B w O J->∃x,A' x/\Sub B l nx O J (st x))/\
   ∀x,A' x->mV P τ B c (st x).l (st x).H (st x).nx (st x).iv (st x).w (fun e l H nx iv w=>match e with
    | .normal=>∀O J,Rel H nx iv B w O J->∃y,A' y/\Sub B l nx O J (st y)/\μ y<μ x
    | .exit id=>Q (.exit id) l H nx iv w
    | .ret=>Q .ret l H nx iv w)
 | .exit id,l,H,nx,iv,w,Q=>Q (.exit id) l H nx iv w
 | .ret,l,H,nx,iv,w,Q=>Q .ret l H nx iv w
 |_,_,_,_,_,_,_=>False
structure FP(P:Program)(t:Nat)(i:TI):Prop where
 info:∃inf z,P.info? t=some inf/\inf.size=i.size/\inf.bytes=i.bytes/\inf.zero=some z/\z.cells.toList=i.zero
 Hq:i.zero.length=i.size
 aAQ:∀x∈i.zero,x.oneCell'=true
 agg:∃d,P.underlying t=some d/\(match d with| .struct _| .array _ _=>true|_=>false)=i.agg
 i1:i.tag=1->P.underlying t=some (.int i.ik)
 i2:i.tag=2->P.underlying t=some .bool
 i3:i.tag=3->P.underlying t=some .string
 i4:i.tag=4->P.underlying t=some (.slice i.elem)
 i5:i.tag=5->∃fs,P.underlying t=some (.struct fs)/\fs.toList.map (fun f=>(f.offset,f.type))=i.fields/\∀f∈fs.toList,(P.info? f.type).isSome=true
 i6:i.tag=6->P.underlying t=some (.array i.CA i.elem)
def fT(P:Program)(τ:mn):Prop:=∀t i,τ t=some i->FP P t i
theorem eC{a b:Nat}(h:Nat.beq a b=true):a=b:=bM h
theorem fW:∀{xs:List Value} {k:List At->Prop},ox xs k->k (xs.map At.v)
 |[],_,h=>h
 |x::r,k,h=>by
  have:=fW (xs:=r) (k:=fun r'=>k (.v x::r')) h;simpa using this
theorem nT:∀{U:List At} {n:Nat} {k:List At->Prop},sj U n k->k (U.drop n)/\n<=U.length
 |U,0,k,h=>by cases U<;>exact⟨by simpa [sj]using h,by simp⟩
 |[],n+1,k,h=>by simp[sj]at h
 |x::t,n+1,k,h=>by
  have:=nT (U:=t) (n:=n) (k:=k) h;exact⟨by simpa using this.1,by simp;omega⟩
theorem nU:∀{U:List At} {n:Nat} {k:List At->Prop},sk U n k->k (U.take n)/\n<=U.length
 |U,0,k,h=>by cases U<;>exact⟨by simpa [sk]using h,by simp⟩
 |[],n+1,k,h=>by simp[sk]at h
 |x::t,n+1,k,h=>by
  have:=nU (U:=t) (n:=n) (k:=fun r=>k (x::r)) h;exact⟨by simpa using this.1,by simp;omega⟩
theorem yJ:∀{U new:List At} {k:List At->Prop},Ax U new k->k (new++U.drop new.length)/\new.length<=U.length
 |U,[],k,h=>by cases U<;>exact⟨by simpa [Ax]using h,by simp⟩
 |[],x::r,k,h=>by simp[Ax]at h
 |_::t,x::r,k,h=>by
  have:=yJ (U:=t) (new:=r) (k:=fun t'=>k (x::t')) h;exact⟨by simpa using this.1,by simp;omega⟩
theorem nV:∀{U:List At} {off:Nat} {new:List At} {k:List At->Prop},qV U off new k->
  k (U.take off++new++U.drop (off+new.length))/\off+new.length<=U.length
 |U,0,new,k,h=>by
  have h':Ax U new k:=by cases U<;>simpa [qV]using h
  have:=yJ h';exact⟨by simpa using this.1,by omega⟩
 |[],n+1,new,k,h=>by simp[qV]at h
 |x::t,n+1,new,k,h=>by
  have:=nV (U:=t) (off:=n) (new:=new) (k:=fun t'=>k (x::t')) h;refine⟨?_,by simp;omega⟩;have X:=this.1;rw[show n+1+new.length=(n+new.length)+1 by omega];simpa using X
theorem one_den{x:At}(h:x.one=true)(O:Nat->dL):(x.den O).oneCell'=true:=by
 cases x with
 |v y=>cases y<;>simp_all [At.one,At.den,Value.oneCell']
 |w id n=>simp only[At.den];split<;>rfl
 |_=>rfl
theorem yK:∀{U:List At} {k:Prop},Gt U k->k/\∀c∈U,At.one c=true
 |[],k,h=>⟨h,by simp⟩
 |x::r,k,h=>by
  unfold Gt at h;split at h
  ·rename_i L;have:=yK h;exact⟨this.1,by simp[L];exact this.2⟩
  ·exact h.elim
theorem kl:∀{U:List At} {k:List Value->Prop},wj U k->∃vs,k vs/\U=vs.map At.v/\∀v∈vs,v.oneCell'=true
 |[],k,h=>⟨[],h,rfl,by simp⟩
 | .v x::r,k,h=>by
  unfold wj at h;split at h
  ·rename_i L;obtain⟨vs,I,X,N⟩:=kl h;exact⟨x::vs,I,by simp[X],by simp;exact⟨one_den L (fun _=>⟨0,0,false⟩),N⟩⟩
  ·exact h.elim
 | .p _ _::_,k,h=>by simp[wj]at h
 | .s _ _ _ _::_,k,h=>by simp[wj]at h
 | .w _ _::_,k,h=>by simp[wj]at h
 | .fn _ _::_,k,h=>by simp[wj]at h
theorem lj{x:SV}{k:List At->Prop}(h:xt x k):∃U,k U/\(∀O,(x.den O).cells=(U.map (At.den O)).toArray)/\(∀n,x.sc n->∀c∈U,c.sc n):=by
 cases x with
 |a U=>exact⟨U,h,fun O=>rfl,fun n Z=>Z⟩
 |o y=>
  cases y with
  |v z=>
   cases z with
   |agg arr=>
    obtain⟨l⟩:=arr;refine⟨_,fW h,fun O=>?_,fun n _ c hc=>?_⟩
    ·simp[SV.den,At.den,Value.cells,Function.comp_def]
    ·simp at hc;obtain⟨v,_,rfl⟩:=hc;trivial
   |tuple arr=>simp[xt]at h
   |_=>exact⟨_,h,fun O=>rfl,fun n _ c hc=>by simp at hc;subst hc;trivial⟩
  |w id n=>exact⟨_,h,fun O=>by simp only[SV.den,At.den,List.map];split<;>rfl,fun n Z c hc=>by simp at hc;subst hc;exact Z⟩
  |_=>exact⟨_,h,fun O=>rfl,fun n Z c hc=>by simp at hc;subst hc;exact Z⟩
theorem cU(t:Nat)(b:jh)(r:Hp)(u:Nat):cV ((t,b)::r) u=if t=u then some b else cV r u:=by
 show(match Nat.beq t u with|true=>some b|false=>cV r u)=_;split
 ·rename_i h;rw[if_pos (eC h)]
 ·rename_i h;rw[aI (fun e=>by subst e;rw[Nat.beq_refl]at h;cases h)]
theorem eW(t:Nat)(b:SV)(r:Env)(u:Nat):fR ((t,b)::r) u=if t=u then some b else fR r u:=by
 show(match Nat.beq t u with|true=>some b|false=>fR r u)=_;split
 ·rename_i h;rw[if_pos (eC h)]
 ·rename_i h;rw[aI (fun e=>by subst e;rw[Nat.beq_refl]at h;cases h)]
theorem q8:∀{H:Hp} {id:Nat} {b:jh} {k:Hp->Prop},FJ H id b k->∃H',k H'/\(∀j,cV H' j=if j=id then some b else cV H j)/\(cV H id).isSome=true
 |[],id,b,k,h=>by simp[FJ]at h
 |(t,v)::r,id,b,k,h=>by
  unfold FJ at h;split at h
  ·rename_i ht;have:=eC ht;subst this;refine⟨_,h,fun j=>?_,by simp[cU]⟩;simp only[cU]
   by_cases e:t=j
   ·simp[e]
   ·simp[e,Ne.symm e]
  ·rename_i ht;have OS:t≠id:=fun e=>by subst e;rw[Nat.beq_refl]at ht;cases ht
   obtain⟨H',I,X,N⟩:=q8 h;refine⟨_,I,fun j=>?_,by simp[cU,OS,N]⟩;simp only[cU,X]
   by_cases e:t=j
   ·subst e;simp[OS]
   ·simp[e]
theorem ry:∀{H:Hp} {id:Nat} {k:Hp->Prop},Aw H id k->∃H',k H'/\(∀j,cV H' j=if j=id then some .dead else cV H j)/\(cV H id).isSome=true
 |[],id,k,h=>by simp[Aw]at h
 |(t,v)::r,id,k,h=>by
  unfold Aw at h;split at h
  ·rename_i ht;have:=eC ht;subst this;refine⟨_,h,fun j=>?_,by simp[cU]⟩;simp only[cU]
   by_cases e:t=j
   ·simp[e]
   ·simp[e,Ne.symm e]
  ·rename_i ht;have OS:t≠id:=fun e=>by subst e;rw[Nat.beq_refl]at ht;cases ht
   obtain⟨H',I,X,N⟩:=ry h;refine⟨_,I,fun j=>?_,by simp[cU,OS,N]⟩;simp only[cU,X]
   by_cases e:t=j
   ·subst e;simp[OS]
   ·simp[e]
theorem At.jU{x:At}{O G8:Nat->dL}(h:∀id,id<n->O id=G8 id)(L:x.sc n):x.den O=x.den G8:=by
 cases x with
 |v y=>rfl
 |p id off=>simp only[At.den,h id L]
 |s id off len cap=>simp only[At.den,h id L]
 |w id len=>simp only[At.den,h id L]
 |fn f caps=>
  simp only[At.den]
  congr 2;exact List.map_congr_left fun id Oy=>by rw[h id (L id Oy)]
theorem SV.jU{x:SV}{O G8:Nat->dL}(h:∀id,id<n->O id=G8 id)(L:x.sc n):x.den O=x.den G8:=by
 cases x with
 |o y=>exact At.jU h L
 |a U=>
  simp only[SV.den]
  congr 2;exact List.map_congr_left fun c hc=>At.jU h (L c hc)
theorem At.tD{x:At}(h:n<=m)(L:x.sc n):x.sc m:=by
 cases x with
 |v y=>trivial
 |fn f caps=>intro id Oy;have:=L id Oy;omega
 |_=>simp only[At.sc]at *;omega
theorem SV.tD{x:SV}(h:n<=m)(L:x.sc n):x.sc m:=by
 cases x with
 |o y=>exact At.tD h L
 |a U=>exact fun c hc=>At.tD h (L c hc)
theorem Rel.drew{H:Hp}{iv:Iv}{w:World}{O:Nat->dL}(r:Rel H nx iv B w O J):Rel H nx iv B w O J.drew:=
 ⟨r.os,r.tape,r.output,r.size,r.base,r.qW,r.keys,r.box,r.arr,r.vec,r.inj,r.low,r.ub,r.ji,r.JJ,r.nn⟩
def fh(O:Nat->dL)(nx:Nat)(v:dL):Nat->dL:=fun j=>if j=nx then v else O j
theorem fm{O:Nat->dL}{v:dL}:∀id,id<nx->O id=fh O nx v id:=fun id h=>by simp[fh,Nat.ne_of_lt h]
@[simp] theorem dw {O:Nat->dL} {nx:Nat} {v:dL}:fh O nx v nx=v:=by simp[fh]
def jh.fits(b:jh)(O:Nat->dL)(v:dL)(w:World):Prop:=
 match b with
 | .box t U=>v.nil=false/\w.heap[v.g]? =some (.cells (U.map (At.den O)).toArray t (0,0))
 | .arr t U=>v.nil=false/\w.heap[v.g]? =some (.cells U.toArray t (0,0))
 | .vec t size U=>(v.nil=true/\U=[])\/(v.nil=false/\∃spare:List Value,w.heap[v.g]? =some (.cells (U++spare).toArray t (0,0))/\(U++spare).length=v.cap*size/\v.cap<=maxLen)
 | .dead=>True
def jh.scopd(b:jh)(n:Nat):Prop:=match b with
 | .box _ U=>∀x∈U,At.sc n x
 |_=>True
theorem Rel.fits{H:Hp}{iv:Iv}{w:World}{O:Nat->dL}(r:Rel H nx iv B w O J){b:jh}(h:cV H id=some b):b.fits O (O id) J:=by
 cases b with
 |box t U=>exact⟨r.nn id _ h (by intros;simp) (by simp),r.box id t U h⟩
 |arr t U=>exact⟨r.nn id _ h (by intros;simp) (by simp),r.arr id t U h⟩
 |vec t size U=>exact r.vec id t size U h
 |dead=>trivial
theorem Rel.mk'{H:Hp}{iv:Iv}{w:World}{O:Nat->dL}(os:J.os=w.os)(tape:J.tape=w.tape)(output:J.output=w.output)
  (size:w.heap.size<=J.heap.size) (base:B<=w.heap.size) (qW:∀lo D,(lo,D)∈iv->D<=w.heap.size) (keys:∀id b,cV H id=some b->id<nx)
  (fits:∀id b,cV H id=some b->b.fits O (O id) J) (JJ:∀id b,cV H id=some b->b.scopd nx)
  (inj:∀id id' b b',cV H id=some b->cV H id'=some b'->b≠ .dead->b'≠ .dead->(O id).nil=false->(O id').nil=false->(O id).g=(O id').g->id=id')
  (low:∀id b,cV H id=some b->(O id).nil=false->B<=(O id).g/\(O id).g<J.heap.size)
  (ub:∀k,k<w.heap.size->(∀id b,cV H id=some b->(O id).nil=false->(O id).g≠k)->J.heap[k]? =w.heap[k]?)
  (ji:∀lo D,(lo,D)∈iv->∀id b,cV H id=some b->(O id).nil=false->¬(lo<=(O id).g/\(O id).g<D)):Rel H nx iv B w O J where
 os:=os
 tape:=tape
 output:=output
 size:=size
 base:=base
 qW:=qW
 keys:=keys
 box:=fun id t U h=>(fits id _ h).2
 arr:=fun id t U h=>(fits id _ h).2
 vec:=fun id t size U h=>fits id _ h
 inj:=inj
 low:=low
 ub:=ub
 ji:=ji
 JJ:=fun id t U h=>JJ id _ h
 nn:=fun id b h I X=>by
  have:=fits id b h
  cases b with
  |box t U=>exact this.1
  |arr t U=>exact this.1
  |vec t size U=>exact absurd rfl (I t size U)
  |dead=>exact absurd rfl X
theorem jh.gV{b:jh}{O G8:Nat->dL}{v:dL}{w:World}(h:b.fits O v w)(G9:∀id,id<n->O id=G8 id)(hs:b.scopd n)
  (Y:v.nil=false->b≠ .dead->J.heap[v.g]? =w.heap[v.g]?):b.fits G8 v J:=by
 cases b with
 |box t U=>
  obtain⟨I,X⟩:=h;refine⟨I,?_⟩;rw[Y I (by simp),X,List.map_congr_left fun c hc=>At.jU G9 (hs c hc)]
 |arr t U=>exact⟨h.1,by rw[Y h.1 (by simp)];exact h.2⟩
 |vec t size U=>
  rcases h with h|⟨I,spare,X,N⟩
  ·exact .inl h
  ·exact .inr ⟨I,spare,by rw[Y I (by simp)];exact X,N⟩
 |dead=>trivial
theorem jh.iV{b:jh}(h:n<=m)(hb:b.scopd n):b.scopd m:=by
 cases b with
 |box t U=>exact fun c hc=>At.tD h (hb c hc)
 |_=>trivial
theorem Rel.scopd{H:Hp}{iv:Iv}{w:World}{O:Nat->dL}(r:Rel H nx iv B w O J){b:jh}(h:cV H id=some b):b.scopd nx:=by
 cases b with
 |box t U=>exact r.JJ id t U h
 |_=>trivial
theorem Rel.push{H:Hp}{iv:Iv}{w:World}{O:Nat->dL}(r:Rel H nx iv B w O J)(b:jh)(v:dL)
  (os:V.os=J.os) (tape:V.tape=J.tape) (output:V.output=J.output) (size:J.heap.size<=V.heap.size) (old:∀k,k<J.heap.size->V.heap[k]? =J.heap[k]?)
  (hv:v.nil=false->J.heap.size<=v.g/\v.g<V.heap.size) (hb:b.fits O v V) (hs:b.scopd nx):Rel ((nx,b)::H) (nx+1) iv B w (fh O nx v) V:=by
 have Ou:∀id b,cV H id=some b->id≠nx:=fun id b h=>Nat.ne_of_lt (r.keys id b h);have Pp:∀id b,cV H id=some b->fh O nx v id=O id:=fun id b h=>by simp[fh,Ou id b h]
 refine Rel.mk' (os.trans r.os) (tape.trans r.tape) (output.trans r.output) (aW r.size size) r.base r.qW ?_ ?_ ?_ ?_ ?_ ?_ ?_
 ·intro id b' h;rw[cU]at h;split at h
  ·omega
  ·have:=r.keys id b' h;omega
 ·intro id b' h;rw[cU]at h;split at h
  ·rename_i e;subst e;injection h with h;subst h;rw[dw];exact jh.gV hb fm hs (fun _ _=>rfl)
  ·rw[Pp id b' h];exact jh.gV (r.fits h) fm (r.scopd h) (fun I _=>old _ (r.low id b' h I).2)
 ·intro id b' h;rw[cU]at h;split at h
  ·injection h with h;subst h;exact jh.iV (by omega) hs
  ·exact jh.iV (by omega) (r.scopd h)
 ·intro id id' b1 b2 I X d1 d2 n1 n2 e;rw[cU]at I X;split at I<;>split at X
  ·omega
  ·rename_i e1 e2;subst e1;rw[dw]at e n1;rw[Pp id' b2 X]at e n2;have:=(r.low id' b2 X n2).2;have:=(hv n1).1;omega
  ·rename_i e1 e2;subst e2;rw[dw]at e n2;rw[Pp id b1 I]at e n1;have:=(r.low id b1 I n1).2;have:=(hv n2).1;omega
  ·rw[Pp id b1 I]at e n1;rw[Pp id' b2 X]at e n2;exact r.inj id id' b1 b2 I X d1 d2 n1 n2 e
 ·intro id b' h n1;rw[cU]at h;split at h
  ·rename_i e;subst e;rw[dw]at n1 ⊢;have:=hv n1;have:=r.base;have:=r.size;omega
  ·rw[Pp id b' h]at n1 ⊢;have:=r.low id b' h n1;omega
 ·intro k R OS;rw[old k (by have:=r.size;omega)];refine r.ub k R fun id b' h n1=>?_;have:=OS id b' (by rw[cU,aI (Ne.symm (Ou id b' h))];exact h) (by rw[Pp id b' h];exact n1)
  rwa [Pp id b' h]at this
 ·intro lo D hm id b' h n1;rw[cU]at h;split at h
  ·rename_i e;subst e;rw[dw]at n1 ⊢;have:=hv n1;have:=r.qW lo D hm;have:=r.size;omega
  ·rw[Pp id b' h]at n1 ⊢;exact r.ji lo D hm id b' h n1
theorem Rel.store{H H':Hp}{iv:Iv}{w:World}{O:Nat->dL}(r:Rel H nx iv B w O J){b b':jh}(Oy:cV H id=some b)(hd:b≠ .dead)(Z:(O id).nil=false)
  (hH:∀j,cV H' j=if j=id then some b' else cV H j)
  (os:V.os=J.os) (tape:V.tape=J.tape) (output:V.output=J.output) (size:V.heap.size=J.heap.size) (old:∀k,k≠(O id).g->V.heap[k]? =J.heap[k]?)
  (hb:b'.fits O (O id) V) (hs:b'.scopd nx):Rel H' nx iv B w O V:=by
 have key:∀j c,cV H' j=some c->∃c',cV H j=some c':=fun j c h=>by
  rw[hH]at h;split at h
  ·rename_i e;subst e;exact⟨b,Oy⟩
  ·exact⟨c,h⟩
 refine Rel.mk' (os.trans r.os) (tape.trans r.tape) (output.trans r.output) (by rw[size];exact r.size) r.base r.qW ?_ ?_ ?_ ?_ ?_ ?_ ?_
 ·intro j c h;obtain⟨c',h'⟩:=key j c h;exact r.keys j c' h'
 ·intro j c h;rw[hH]at h;split at h
  ·rename_i e;subst e;injection h with h;subst h;exact hb
  ·rename_i e;refine jh.gV (r.fits h) (fun _ _=>rfl) (r.scopd h) (fun I X=>old _ fun e2=>e ?_);exact r.inj j id c b h Oy X hd I Z e2
 ·intro j c h;rw[hH]at h;split at h
  ·injection h with h;subst h;exact hs
  ·exact r.scopd h
 ·intro j j' c c' I X d1 d2 n1 n2 e;rw[hH]at I X;have l1:∃c1,cV H j=some c1/\c1≠ .dead:=by
   split at I
   ·rename_i e1;subst e1;exact⟨b,Oy,hd⟩
   ·exact⟨c,I,d1⟩
  have l2:∃c1,cV H j'=some c1/\c1≠ .dead:=by
   split at X
   ·rename_i e1;subst e1;exact⟨b,Oy,hd⟩
   ·exact⟨c',X,d2⟩
  obtain⟨c1,g1,g2⟩:=l1;obtain⟨c2,g3,g4⟩:=l2;exact r.inj j j' c1 c2 g1 g3 g2 g4 n1 n2 e
 ·intro j c h n1;obtain⟨c',h'⟩:=key j c h;rw[size];exact r.low j c' h' n1
 ·intro k R OS;have hkg:k≠(O id).g:=fun e=>OS id b' (by rw[hH];simp) Z e.symm;rw[old k hkg];refine r.ub k R fun j c h n1=>?_;by_cases e:j=id
  ·subst e;exact Ne.symm hkg
  ·exact OS j c (by rw[hH,aI e];exact h) n1
 ·intro lo D hm j c h n1;obtain⟨c',h'⟩:=key j c h;exact r.ji lo D hm j c' h' n1
theorem Rel.JY{H H1:Hp}{iv:Iv}{w:World}{O:Nat->dL}(r:Rel H nx iv B w O J){b0:jh}(Oy:cV H id=some b0)(hd:b0≠ .dead)
  (hH:∀j,cV H1 j=if j=id then some .dead else cV H j) (b:jh) (v:dL)
  (os:V.os=J.os) (tape:V.tape=J.tape) (output:V.output=J.output) (size:J.heap.size<=V.heap.size)
  (old:∀k,k<J.heap.size->((O id).nil=false->k≠(O id).g)->V.heap[k]? =J.heap[k]?)
  (hv:v.nil=false->(J.heap.size<=v.g/\v.g<V.heap.size)\/((O id).nil=false/\v.g=(O id).g)) (hb:b.fits O v V) (hs:b.scopd nx):Rel ((nx,b)::H1) (nx+1) iv B w (fh O nx v) V:=by
 have key:∀j c,cV H1 j=some c->∃c',cV H j=some c'/\(c≠ .dead->c'=c/\j≠id):=fun j c h=>by
  rw[hH]at h;split at h
  ·rename_i e;subst e;injection h with h;exact⟨b0,Oy,fun X=>absurd h.symm X⟩
  ·rename_i e;exact⟨c,h,fun _=>⟨rfl,e⟩⟩
 have Ou:∀j c,cV H1 j=some c->j≠nx:=fun j c h=>by obtain⟨c',h',_⟩:=key j c h;exact Nat.ne_of_lt (r.keys j c' h')
 have Pp:∀j c,cV H1 j=some c->fh O nx v j=O j:=fun j c h=>by simp[fh,Ou j c h]
 have hidlt:=r.keys id b0 Oy;have hvlow:v.nil=false->B<=v.g/\v.g<V.heap.size:=fun Z=>by
  rcases hv Z with h|⟨I,X⟩
  ·have:=r.base;have:=r.size;omega
  ·have:=r.low id b0 Oy I;omega
 refine Rel.mk' (os.trans r.os) (tape.trans r.tape) (output.trans r.output) (aW r.size size) r.base r.qW ?_ ?_ ?_ ?_ ?_ ?_ ?_
 ·intro j b' h;rw[cU]at h;split at h
  ·omega
  ·obtain⟨c',h',_⟩:=key j b' h;have:=r.keys j c' h';omega
 ·intro j b' h;rw[cU]at h;split at h
  ·rename_i e;subst e;injection h with h;subst h;rw[dw];exact jh.gV hb fm hs (fun _ _=>rfl)
  ·rw[Pp j b' h];by_cases Ry:b'= .dead
   ·subst Ry;trivial
   ·obtain⟨c',h',X⟩:=key j b' h;obtain⟨rfl,OS⟩:=X Ry;exact jh.gV (r.fits h') fm (r.scopd h') (fun I _=>old _ (r.low j c' h' I).2 fun N e=>OS (r.inj j id c' b0 h' Oy Ry hd I N e))
 ·intro j b' h;rw[cU]at h;split at h
  ·injection h with h;subst h;exact jh.iV (by omega) hs
  ·by_cases Ry:b'= .dead
   ·subst Ry;trivial
   ·obtain⟨c',h',X⟩:=key j b' h;obtain⟨rfl,OS⟩:=X Ry;exact jh.iV (by omega) (r.scopd h')
 ·have cross:∀j c,cV H1 j=some c->c≠ .dead->(O j).nil=false->v.nil=false->v.g≠(O j).g:=fun j c h dd nj nv e=>by
   obtain⟨c',h',X⟩:=key j c h;obtain⟨rfl,OS⟩:=X dd;rcases hv nv with N|⟨N,h4⟩
   ·have:=(r.low j c' h' nj).2;omega
   ·exact OS (r.inj j id c' b0 h' Oy dd hd nj N (by omega))
  intro j j' b1 b2 I X d1 d2 n1 n2 e;rw[cU]at I X;split at I<;>split at X
  ·omega
  ·rename_i e1 e2;subst e1;rw[dw]at e n1;rw[Pp j' b2 X]at e n2;exact absurd e (cross j' b2 X d2 n2 n1)
  ·rename_i e1 e2;subst e2;rw[dw]at e n2;rw[Pp j b1 I]at e n1;exact absurd e.symm (cross j b1 I d1 n1 n2)
  ·rw[Pp j b1 I]at e n1;rw[Pp j' b2 X]at e n2;obtain⟨c1,g1,k1⟩:=key j b1 I;obtain⟨c2,g2,k2⟩:=key j' b2 X;obtain⟨rfl,_⟩:=k1 d1;obtain⟨rfl,_⟩:=k2 d2;exact r.inj j j' c1 c2 g1 g2 d1 d2 n1 n2 e
 ·intro j b' h n1;rw[cU]at h;split at h
  ·rename_i e;subst e;rw[dw]at n1 ⊢;exact hvlow n1
  ·rw[Pp j b' h]at n1 ⊢;obtain⟨c',h',_⟩:=key j b' h;have:=r.low j c' h' n1;omega
 ·intro k R OS;have UA:∀j c,cV H j=some c->(O j).nil=false->(O j).g≠k:=fun j c h nj=>by
   have hj:cV H1 j=some (if j=id then .dead else c):=by rw[hH];split<;>simp[h]
   have:=OS j _ (by rw[cU,aI (Ne.symm (Ou j _ hj))];exact hj) (by rw[Pp j _ hj];exact nj)
   rwa [Pp j _ hj]at this
  rw[old k (by have:=r.size;omega) (fun h e=>UA id b0 Oy h e.symm)];exact r.ub k R UA
 ·intro lo D hm j b' h n1;rw[cU]at h;split at h
  ·rename_i e;subst e;rw[dw]at n1 ⊢;rcases hv n1 with N|⟨N,h4⟩
   ·have:=r.qW lo D hm;have:=r.size;omega
   ·rw[h4];exact r.ji lo D hm id b0 Oy N
  ·rw[Pp j b' h]at n1 ⊢;obtain⟨c',h',_⟩:=key j b' h;exact r.ji lo D hm j c' h' n1
section
variable{P:Program}{τ:mn}{B n nx:Nat}{l:Env}{H:Hp}{iv:Iv}{w J:World}{O:Nat->dL}{a:Act}
theorem tE(sat:Sat n l H nx iv B w O a J){x:Operand}{v:SV}(h:ev l x=some v):a.eval x=v.den O/\v.sc nx:=by
 cases x with
 |tmp t=>
  have I:=sat.env t v h;exact⟨by simp[Act.eval,I],sat.sc t v h⟩
 |const c=>simp[ev]at h;subst h;exact⟨rfl,trivial⟩
 |global g=>simp[ev]at h;subst h;exact⟨rfl,trivial⟩
 |func f=>simp[ev]at h;subst h;exact⟨rfl,trivial⟩
theorem dF(sat:Sat n l H nx iv B w O a J){x:Operand}{k:SV->Prop}(h:ow l x k):∃v,k v/\a.eval x=v.den O/\v.sc nx:=by
 unfold ow at h;split at h
 ·rename_i v hv;exact⟨v,h,tE sat hv⟩
 ·exact h.elim
theorem qY(sat:Sat n l H nx iv B w O a J):∀{xs:List Operand} {k:List SV->Prop},JI l xs k->∃vs,k vs/\xs.map a.eval=vs.map (SV.den O)/\∀v∈vs,SV.sc nx v
 |[],k,h=>⟨[],h,rfl,by simp⟩
 |x::r,k,h=>by
  unfold JI at h;split at h
  ·rename_i v hv;obtain⟨vs,I,X,N⟩:=qY sat (xs:=r) h;have:=tE sat hv;exact⟨v::vs,I,by simp[this.1,X],by simp;exact⟨this.2,N⟩⟩
  ·exact h.elim
theorem mU{o:Oper}{a:Act}{w:World}{v:Value}(h:(execOp a.eval o).run P w= .ok (.value v) V)(R:next (a.put o.dst v) V):o.wp P a w next Q:=by
 unfold Oper.wp;rw[h];exact R
theorem JZ{o:Oper}{a:Act}{w:World}(h:(execOp a.eval o).run P w= .ok .skip V)(R:next (a.put o.dst undef) V):o.wp P a w next Q:=by
 unfold Oper.wp;rw[h];exact R
theorem lk{s:Sem Value}{w:World}{v:Value}(h:s.run P w= .ok v V):((do pure (.value (<-s))):Sem Next).run P w= .ok (.value v) V:=by
 simp[h]
theorem FP.isAgg{t:Nat}{i:TI}(h:FP P t i)(w:World):(isAgg t).run P w= .ok i.agg w:=by
 obtain⟨d,I,X⟩:=h.agg;unfold Go.isAgg;rw[Sem.run_bind,run_underlying I w,<-X]
 cases d<;>rfl
theorem FP.sizeOf{t:Nat}{i:TI}(h:FP P t i)(w:World):(sizeOf t).run P w= .ok i.size w:=by
 obtain⟨inf,z,I,X,_⟩:=h.info;simp[Go.sizeOf,typeInfo,I,X]
theorem FP.zeroV{t:Nat}{i:TI}(h:FP P t i)(w:World):∃z,(zeroValue t).run P w= .ok z w/\z.cells.toList=i.zero:=by
 obtain⟨inf,z,I,X,_,h4,h5⟩:=h.info;exact⟨z,by simp[zeroValue,typeInfo,I,h4],h5⟩
theorem k8{t:Nat}{i:TI}(ht:FP P t i)(hagg:i.agg=false){w:World}{x:Value}(hc:w.cell? ad=some x):
  (Instr.loadAt t (.pointer (some ad))).run P w= .ok x w:=by
 simp[Instr.loadAt,Instr.sureAddr,loadVar,ht.isAgg,hagg,hc]
theorem j7{t:Nat}{i:TI}(ht:FP P t i)(hagg:i.agg=true){w:World}(hl:xs.length=i.size)(hc:∀j v,xs[j]? =some v->w.cell? (ad.add j)=some v):
  (Instr.loadAt t (.pointer (some ad))).run P w= .ok (.agg xs.toArray) w:=by
 have:=run_loadCells_list (P:=P) w ad xs hc;rw[hl]at this;simp[Instr.loadAt,Instr.sureAddr,loadVar,ht.isAgg,hagg,ht.sizeOf,this]
theorem dA(g off j:Nat):(⟨g,off,none⟩:Addr).add j=⟨g,off+j,none⟩:=by
 unfold Addr.add;split<;>simp_all
theorem ui:∀{U:List At} {i:Nat},CE U i=U[i]?
 |[],i=>by simp[CE]
 |x::r,0=>by simp[CE]
 |x::r,i+1=>by simp[CE,ui (U:=r)]
theorem BG:∀{U:List Value} {i:Nat},Hs U i=U[i]?
 |[],i=>by simp[Hs]
 |x::r,0=>by simp[Hs]
 |x::r,i+1=>by simp[Hs,BG (U:=r)]
theorem BH:∀{U:List (Nat×Nat)} {i:Nat},Hu U i=U[i]?
 |[],i=>by simp[Hu]
 |x::r,0=>by simp[Hu]
 |x::r,i+1=>by simp[Hu,BH (U:=r)]
theorem cell_of{w:World}{g t:Nat}(h:w.heap[g]? =some (.cells U.toArray t (0,0))):w.cell? ⟨g,off,none⟩=U[off]? :=by
 rw[cell_of_row w g off _ t (0,0) h];simp
theorem fU{O:Nat->dL}:(xs.map At.v).map (At.den O)=xs:=by
 simp[Function.comp_def,At.den]
theorem nW(hτ:fT P τ)(rel0:Rel H nx iv B w O J){t:Nat}{addr:SV}(hs:addr.sc nx){Fn:SV->Prop}(h:BE τ B t addr H nx iv w Fn):
  ∃r,Fn r/\r.sc nx/\∀J,Rel H nx iv B w O J->(Instr.loadAt t (addr.den O)).run P J= .ok (r.den O) J:=by
 unfold BE at h;split at h
 ·exact h.elim
 ·rename_i sz ag by_ ze tag ik e al fs QX;have ht:=hτ t _ QX;split at h
  ·rename_i id off;split at h
   ·rename_i bt U hH;split at h
    ·split at h
     ·rename_i x L;rw[ui]at L;refine⟨_,h,rel0.JJ id bt U hH x (aE L),fun J rel=>?_⟩;have hb:=rel.box id bt U hH;exact k8 ht rfl (by rw[cell_of hb];simp[L,SV.den])
     ·exact h.elim
    ·have I:=nT h;have X:=nU I.1;refine⟨_,X.1,fun c hc=>rel0.JJ id bt U hH c (List.mem_of_mem_drop (bS hc)),fun J rel=>?_⟩;have hb:=rel.box id bt U hH;refine j7 ht rfl (xs:=((U.drop off).take sz).map (At.den O)) ?_ fun j v hv=>?_
     ·have:=X.2;simp only[aL,aZ];omega
     ·rw[dA,cell_of hb];simp only[aM,List.getElem?_take,List.getElem?_drop]at hv ⊢;split at hv
      ·exact hv
      ·simp at hv
   ·rename_i bt U hH;split at h
    ·obtain⟨x,L,h⟩:=h;exact⟨_,h,trivial,fun J rel=>k8 ht rfl (by rw[cell_of (rel.arr id bt U hH),L];rfl)⟩
    ·obtain⟨xs,L,hl,h⟩:=h;refine⟨_,fW h,fun c hc=>by simp at hc;obtain⟨v,_,rfl⟩:=hc;trivial,fun J rel=>?_⟩;have hb:=rel.arr id bt U hH;simp only[SV.den,fU]
     refine j7 ht rfl hl fun j v hv=>?_;rw[dA,cell_of hb];rw[<-L]at hv;simp only[List.getElem?_take,List.getElem?_drop]at hv;split at hv
     ·exact hv
     ·simp at hv
   ·rename_i bt ez U hH;split at h
    ·obtain⟨x,L,h⟩:=h;refine⟨_,h,trivial,fun J rel=>?_⟩;have hb:=rel.vec id bt ez U hH;rcases hb with⟨_,rfl⟩|⟨Z,spare,hb,_⟩
     ·simp at L
     ·refine k8 ht rfl ?_;rw[cell_of hb];have:off<U.length:=(aD.1 L).1;rw[aJ this,L];rfl
    ·obtain⟨xs,L,hl,h⟩:=h;refine⟨_,fW h,fun c hc=>by simp at hc;obtain⟨v,_,rfl⟩:=hc;trivial,fun J rel=>?_⟩;have hb:=rel.vec id bt ez U hH;simp only[SV.den,fU]
     rcases hb with⟨_,rfl⟩|⟨Z,spare,hb,_⟩
     ·have:xs=[]:=by rw[<-L];simp
      subst this;refine j7 ht rfl hl fun j v hv=>by simp at hv
     ·refine j7 ht rfl hl fun j v hv=>?_;rw[dA,cell_of hb];rw[<-L]at hv;simp only[List.getElem?_take,List.getElem?_drop]at hv;split at hv
      ·rw[aJ (aD.1 hv).1];exact hv
      ·simp at hv
   ·exact h.elim
  ·rename_i ad;split at h
   ·obtain⟨x,L,h⟩:=h;exact⟨_,h,trivial,fun J rel=>k8 ht rfl (L O J rel)⟩
   ·obtain⟨xs,hl,L,h⟩:=h;refine⟨_,fW h,fun c hc=>by simp at hc;obtain⟨v,_,rfl⟩:=hc;trivial,fun J rel=>?_⟩;simp only[SV.den,fU]
    exact j7 ht rfl hl fun j v hv=>L O J rel j v hv
  ·exact h.elim
theorem mW{t:Nat}{i:TI}(ht:FP P t i){w:World}{g bt:Nat}(hb:w.heap[g]? =some (.cells old.toArray bt (0,0))){v:Value}
  (hv:v.cells=new.toArray) (hl:new.length=i.size) (I:∀x∈new,x.oneCell'=true) (QB:off+new.length<=old.length):
  (Instr.storeAt t (.pointer (some ⟨g,off,none⟩)) v).run P w= .ok () (w.setRow g (old.take off++new++old.drop (off+new.length)).toArray):=by
 have:=run_storeCells_at (P:=P) g off bt new 0 old.toArray w hb (by simpa using QB) I;simp only[bj]at this;simp[Instr.storeAt,Instr.sureAddr,storeVar,ht.sizeOf,hv,hl,this]
theorem kC:∀(vs:List Value) (w:World) (b off:Nat),setCells w ⟨b,off,none⟩ vs=w.setCells b off vs
 |[],_,_,_=>rfl
 |x::r,w,b,off=>by
  simp only[setCells,World.setCells,dA]
  exact kC r _ b (off+1)
theorem vv(hτ:fT P τ)(sat:Sat n l H nx iv B w O a J){t:Nat}{addr x:SV}(hs:addr.sc nx)(L:x.sc nx){Fn:Hp->World->Prop}(h:CF τ B t addr x H nx iv w Fn):
  ∃H' V w3,Fn H' V/\Rel H' nx iv B V O w3/\(Instr.storeAt t (addr.den O) (x.den O)).run P J= .ok () w3:=by
 unfold CF at h;split at h
 ·exact h.elim
 rename_i sz ag by_ ze tag ik e al fs QX;have ht:=hτ t _ QX;have rel:=sat.rel;have h0:=lj h;clear h;obtain⟨new,h00,PJ,Rg⟩:=h0;have h0:=yK h00;clear h00;obtain⟨h,PK⟩:=h0;split at h
 ·exact h.elim
 rename_i hlen;have hlen:=eC hlen;have Oz:=PJ O;have Rg:=Rg nx L;have I:∀v∈new.map (At.den O),v.oneCell'=true:=by
  intro v hv;simp at hv;obtain⟨c,hc,rfl⟩:=hv;exact one_den (PK c hc) O
 have PO:(new.map (At.den O)).length=sz:=by simpa using hlen
 split at h
 ·rename_i id off;split at h
  ·rename_i bt U hH;have hb:=rel.box id bt U hH;obtain⟨hr,QB⟩:=nV h;obtain⟨H',hK,hH',_⟩:=q8 hr;refine⟨H',w,_,hK,?_,mW ht (old:=U.map (At.den O)) hb Oz PO I (by simp;omega)⟩;refine rel.store hH (by simp) (rel.nn id _ hH (by intros;simp) (by simp)) hH' rfl rfl rfl (by simp) (fun k R=>setRow_other _ _ _ _ R) ⟨rel.nn id _ hH (by intros;simp) (by simp),?_⟩ ?_
   ·rw[setRow_heap _ _ _ _ _ _ hb];simp[List.map_drop,List.map_take]
   ·intro c hc;simp only[List.mem_append]at hc;rcases hc with(hc|hc)|hc
    ·exact rel.JJ id bt U hH c (bS hc)
    ·exact Rg c hc
    ·exact rel.JJ id bt U hH c (List.mem_of_mem_drop hc)
  ·rename_i bt U hH;have hb:=rel.arr id bt U hH;obtain⟨nv,hr,Th,UC⟩:=kl h;obtain⟨QB,cs',Ug,hr⟩:=hr;obtain⟨H',hK,hH',_⟩:=q8 hr;have RU:nv.length=sz:=by rw[Th]at hlen;simpa using hlen
   have QE:(x.den O).cells=nv.toArray:=by rw[Oz,Th,fU]
   refine⟨H',w,_,hK,?_,mW ht hb QE RU UC (by omega)⟩;refine rel.store hH (by simp) (rel.nn id _ hH (by intros;simp) (by simp)) hH' rfl rfl rfl (by simp) (fun k R=>setRow_other _ _ _ _ R) ⟨rel.nn id _ hH (by intros;simp) (by simp),?_⟩ trivial;rw[setRow_heap _ _ _ _ _ _ hb,RU,Ug]
  ·rename_i bt ez U hH;have hb:=rel.vec id bt ez U hH;obtain⟨nv,hr,Th,UC⟩:=kl h;obtain⟨QB,cs',Ug,hr⟩:=hr;obtain⟨H',hK,hH',_⟩:=q8 hr;have RU:nv.length=sz:=by rw[Th]at hlen;simpa using hlen
   have QE:(x.den O).cells=nv.toArray:=by rw[Oz,Th,fU]
   rcases hb with⟨Oe,rfl⟩|⟨Z,spare,hb,SJ,QF⟩
   ·
    have h0:sz=0:=by simp at QB;omega
    have hnv0:nv=[]:=by cases nv with|nil=>rfl|cons _ _=>simp at RU;omega
    subst hnv0;have:cs'=[]:=by rw[<-Ug];simp
    subst this;refine⟨H',w,J,hK,?_,?_⟩
    ·have WT:∀j,cV H' j=cV H j:=fun j=>by rw[hH'];split<;>simp_all
     exact Rel.mk' rel.os rel.tape rel.output rel.size rel.base rel.qW (fun id b h=>rel.keys id b (by rw[<-WT];exact h)) (fun id b h=>rel.fits (by rw[<-WT];exact h)) (fun id b h=>rel.scopd (by rw[<-WT];exact h))
      (fun i j b b' I X=>rel.inj i j b b' (by rw[<-WT];exact I) (by rw[<-WT];exact X)) (fun id b h=>rel.low id b (by rw[<-WT];exact h))
      (fun k R OS=>rel.ub k R fun id b h=>OS id b (by rw[WT];exact h)) (fun lo D hm id b h=>rel.ji lo D hm id b (by rw[<-WT];exact h))
    ·subst h0;show(Instr.storeAt t (.pointer (some ⟨(O id).g,off,none⟩)) (x.den O)).run P J=_;generalize x.den O=xv at QE ⊢;simp[Instr.storeAt,Instr.sureAddr,storeVar,ht.sizeOf,QE,storeCells]
   ·refine⟨H',w,_,hK,?_,mW ht hb QE RU UC (by simp;omega)⟩;refine rel.store hH (by simp) Z hH' rfl rfl rfl (by simp) (fun k R=>setRow_other _ _ _ _ R) (.inr ⟨Z,spare,?_,?_,QF⟩) trivial
    ·rw[setRow_heap _ _ _ _ _ _ hb,<-Ug,RU];congr 2;rw[List.take_append_of_le_length (by omega),List.drop_append_of_le_length (by omega)];simp
    ·rw[<-SJ,<-Ug];simp;omega
  ·exact h.elim
 ·rename_i ad;obtain⟨nv,hr,Th,UC⟩:=kl h;obtain⟨WU,OV,OS,hK⟩:=hr O J rel;have RU:nv.length=sz:=by rw[Th]at hlen;simpa using hlen
  have QE:(x.den O).cells=nv.toArray:=by rw[Oz,Th,fU]
  obtain⟨b,off,spot⟩:=ad;simp only at WU OS;subst WU;have QA:=run_storeCells_cells (P:=P) b off nv 0 J (fun j hj=>by have:=(OV j (by omega)).1;rwa [dA]at this) (fun j hj=>by have:=(OV j (by omega)).2;rwa [dA]at this) UC;have QY:∀k,k≠b->(J.setCells b off nv).heap[k]? =J.heap[k]? :=by
   intro k R;clear QA OV h hr hK Th UC QE RU
   induction nv generalizing J off with
   |nil=>rfl
   |cons v r ih=>
    simp only[World.setCells]
    rw[show (∀(w0:World) (o:Nat),(w0.setCells b o r).heap[k]? =w0.heap[k]?)from ?_]
    ·simp[World.setCell,Array.getElem?_modify,Ne.symm R]
    ·clear ih;intro w0 o
     induction r generalizing w0 o with
     |nil=>rfl
     |cons v r ih=>simp only[World.setCells];rw[ih];simp[World.setCell,Array.getElem?_modify,Ne.symm R]
  have hfrm:(J.setCells b off nv).os=J.os/\(J.setCells b off nv).tape=J.tape/\(J.setCells b off nv).output=J.output/\(J.setCells b off nv).heap.size=J.heap.size:=by
   have:∀(vs:List Value) (w0:World) (o:Nat),(w0.setCells b o vs).os=w0.os/\(w0.setCells b o vs).tape=w0.tape/\(w0.setCells b o vs).output=w0.output/\(w0.setCells b o vs).heap.size=w0.heap.size:=by
    intro vs
    induction vs with
    |nil=>intro w0 o;exact⟨rfl,rfl,rfl,rfl⟩
    |cons v r ih=>intro w0 o;simp only[World.setCells];obtain⟨I,X,N,h4⟩:=ih (w0.setCell ⟨b,o,none⟩ v) (o+1);exact⟨I,X,N,by rw[h4];simp⟩
   exact this nv J off
  refine⟨H,_,J.setCells b off nv,hK _ rfl,?_,?_⟩
  ·rw[kC];refine Rel.mk' rfl rfl rfl (Nat.le_refl _) (by rw[hfrm.2.2.2];have:=rel.base;have:=rel.size;omega) (fun lo D hm=>by rw[hfrm.2.2.2];have:=rel.qW lo D hm;have:=rel.size;omega) rel.keys
    (fun id b' h=>jh.gV (rel.fits h) (fun _ _=>rfl) (rel.scopd h) (fun Oe _=>QY _ (OS id b' h Oe))) (fun id b' h=>rel.scopd h) rel.inj (fun id b' h Oe=>by rw[hfrm.2.2.2];exact rel.low id b' h Oe) (fun _ _ _=>rfl) rel.ji
  ·show(Instr.storeAt t (.pointer (some ⟨b,off,none⟩)) (x.den O)).run P J=_;generalize x.den O=xv at QE ⊢;simp at QA;simp[Instr.storeAt,Instr.sureAddr,storeVar,ht.sizeOf,QE,RU,QA]
 ·exact h.elim
end
theorem FW(new:List Value):∀(k off:Nat) (U:Array Value),off+k+new.length<=U.size->
  ((new.zipIdx k).foldl (fun U (c,j)=>U.setIfInBounds (off+j) c) U).toList=U.toList.take (off+k)++new++U.toList.drop (off+k+new.length):=by
 induction new with
 |nil=>intro k off U _;simp
 |cons x r ih=>
  intro k off U h;simp only[List.length_cons]at h;rw[List.zipIdx_cons,List.foldl_cons,ih (k+1) off _ (by simp;omega)];have X:=list_seg_step U.toList (off+k) x r (by simp;omega);simp only[Array.toList_setIfInBounds,List.length_cons]at X ⊢;rw[show off+(k+1)=off+k+1 by omega];exact X
theorem Hz{i:Nat}{v:Value}(hp:place i=some (off,size))
  (hv:v.cells=new.toArray) (hl:new.length=size) (QB:off+new.length<=cells.size):
  Instr.fill place cells ((i,v)::rest)=Instr.fill place (cells.toList.take off++new++cells.toList.drop (off+new.length)).toArray rest:=by
 have h:=FW new 0 off cells (by omega);have e:(v.cells.zipIdx.foldl (fun U (x:Value×Nat)=>U.setIfInBounds (off+x.2) x.1) cells)=(cells.toList.take off++new++cells.toList.drop (off+new.length)).toArray:=by
  rw[hv,<-Array.foldl_toList];apply Array.ext';simpa using h
 conv=>lhs;unfold Instr.fill
 simp only[hp,hv,List.size_toArray,hl]
 rw[aI (by simp;omega)];rw[hv]at e;rw[<-hl,<-e]
section
variable{P:Program}{τ:mn}{B n nx:Nat}{l:Env}{H:Hp}{iv:Iv}{w J:World}{O:Nat->dL}{a:Act}
theorem kD(sat:Sat n l H nx iv B w O a J){place:Nat->(Nat->Nat->Prop)->Prop}{placeF:Nat->Option (Nat×Nat)}
  (hp:∀i k,place i k->∃off size,k off size/\placeF i=some (off,size)):∀{parts:List (Nat×Operand)} {U:List At} {k:List At->Prop},
  uh l place parts U k->(∀c∈U,At.sc nx c)->∃cs',k cs'/\(∀c∈cs',At.sc nx c)/\cs'.length=U.length/\
   Instr.fill placeF (U.map (At.den O)).toArray (parts.map fun p=>(p.1,a.eval p.2))=some (cs'.map (At.den O)).toArray
 |[],U,k,h,hs=>⟨U,h,hs,rfl,by simp[Instr.fill]⟩
 |(i,x)::r,U,k,h,hs=>by
  unfold uh at h;obtain⟨off,size,I,Pj⟩:=hp i _ h;obtain⟨v,X,hv,Qy⟩:=dF sat I;obtain⟨new,N,PJ,Rg⟩:=lj X;split at N
  ·rename_i hlen;have hlen:=eC hlen;obtain⟨h4,QB⟩:=nV N
   obtain⟨cs',h5,h6,h7,h8⟩:=kD sat hp h4 (by
    intro c hc;simp only[List.mem_append]at hc;rcases hc with(hc|hc)|hc
    ·exact hs c (bS hc)
    ·exact Rg nx Qy c hc
    ·exact hs c (List.mem_of_mem_drop hc))
   refine⟨cs',h5,h6,by rw[h7];simp;omega,?_⟩;have hc:=PJ O;rw[List.map_cons,Hz (new:=new.map (At.den O)) Pj (by show(a.eval x).cells=_;rw[hv];exact hc) (by simpa using hlen) (by simpa using QB),<-h8];simp[List.map_drop,List.map_take]
  ·exact N.elim
theorem mX(hτ:fT P τ){f:Nat}{k:Nat->Nat->Bool->Prop}(h:pD τ fs f k):
  ∃off ft fi,k off fi.size fi.agg/\fs[f]? =some (off,ft)/\FP P ft fi/\fi.size≠0:=by
 unfold pD at h;split at h
 ·rename_i off ft hf;rw[BH]at hf;split at h
  ·rename_i sz ag by_ ze tag ik e al fs' QX;split at h
   ·exact h.elim
   ·rename_i Oj;exact⟨off,ft,_,h,hf,hτ ft _ QX,fun e=>by simp at e;subst e;simp at Oj⟩
  ·exact h.elim
 ·exact h.elim
theorem yL{t:Nat}{i:TI}(h:FP P t i)(h5:i.tag=5){f ft:Nat}(hf:i.fields[f]? =some (off,ft)):
  ∃fs fd,P.underlying t=some (.struct fs)/\fs[f]? =some fd/\fd.offset=off/\fd.type=ft:=by
 obtain⟨fs,I,X,_⟩:=h.i5 h5;rw[<-X]at hf;simp only[aM,Option.map_eq_some_iff]at hf;obtain⟨fd,QV,W⟩:=hf;injection W with e1 e2;exact⟨fs,fd,I,by simpa using QV,e1,e2⟩
theorem D8{t:Nat}{i:TI}(h:FP P t i)(h5:i.tag=5){f ft:Nat}{fi:TI}(hf:i.fields[f]? =some (off,ft))(TG:FP P ft fi)(Oj:fi.size≠0)(ad:Addr)(w:World):
  (Instr.fieldAt t (.pointer (some ad)) f).run P w= .ok (.pointer (some (ad.add off))) w:=by
 obtain⟨fs,fd,I,X,rfl,rfl⟩:=yL h h5 hf;simp[Instr.fieldAt,run_underlying I,X,Instr.sureAddr,fieldPlace,TG.sizeOf,Oj]
theorem tF{x:SV}{Fn:SV->Prop}(h:xY x m Fn)(L:x.sc nx):∃r ad,Fn r/\r.sc nx/\x.den O= .pointer (some ad)/\r.den O= .pointer (some (ad.add m)):=by
 unfold xY at h;split at h
 ·rename_i id off;exact⟨_,⟨(O id).g,off,none⟩,h,L,rfl,by simp[SV.den,At.den,dA]⟩
 ·rename_i ad;exact⟨_,ad,h,trivial,rfl,rfl⟩
 ·exact h.elim
theorem uj(rel:Rel H nx iv B w O J){Fn:Prop}(h:Hw H id m Fn):Fn/\((O id).nil=true->m=0):=by
 unfold Hw at h;split at h
 ·rename_i t sz U hH;split at h
  ·exact h.elim
  ·rename_i k;refine⟨h.2,fun Z=>?_⟩;have I:=h.1;rcases rel.vec id t (k+1) U hH with⟨_,rfl⟩|⟨X,_⟩
   ·have h4:m*(k+1)=0:=by simpa using I.symm
    rcases Nat.mul_eq_zero.1 h4 with h5|h5
    ·exact h5
    ·omega
   ·rw[Z]at X;cases X
 ·exact h.elim
theorem IA(hτ:fT P τ){t ty:Nat}{x:SV}(h:NH τ H t x Fn)(rel:Rel H nx iv B w O J):
  ∃r,Fn r/\∀J,(Builtin.len_ #[t] ty #[x.den O]).run P J= .ok (.int .i64 r) J:=by
 unfold NH at h;split at h
 ·exact h.elim
 rename_i sz ag by_ ze tag ik e al fs QX;have ht:=hτ t _ QX;split at h
 ·rename_i On;have hu:=ht.i4 (eC On);split at h
  ·exact⟨_,h,fun J=>by simp[Builtin.len_,run_underlying hu,SV.den,At.den,goInt]⟩
  ·exact⟨_,h,fun J=>by simp[Builtin.len_,run_underlying hu,SV.den,At.den,goInt]⟩
  ·rename_i id m;have I:=uj rel h;refine⟨_,I.1,fun J=>?_⟩
   cases Z:(O id).nil
   ·simp[Builtin.len_,run_underlying hu,SV.den,At.den,goInt,Z]
   ·have:=I.2 Z;subst this;simp[Builtin.len_,run_underlying hu,SV.den,At.den,goInt,Z]
  ·exact h.elim
 ·split at h
  ·rename_i On;have hu:=ht.i3 (eC On);split at h
   ·exact⟨_,h,fun J=>by simp[Builtin.len_,run_underlying hu,SV.den,At.den,goInt]⟩
   ·exact h.elim
  ·split at h
   ·rename_i On;have hu:=ht.i6 (eC On);exact⟨_,h,fun J=>by simp[Builtin.len_,run_underlying hu,goInt]⟩
   ·exact h.elim
theorem D9(hτ:fT P τ){t:Nat}{x i:SV}{Fn:SV->Prop}(h:FQ τ H t x i Fn)(L:x.sc nx)(rel:Rel H nx iv B w O J):
  ∃r,Fn r/\r.sc nx/\∀J,(Instr.indexAt t (x.den O) (i.den O)).run P J= .ok (r.den O) J:=by
 unfold FQ at h;split at h
 ·rename_i kd i;split at h
  ·rename_i sz ag by_ ze tag ik e al fs QX;have ht:=hτ t _ QX;split at h
   ·rename_i sz' ag' by' ze' tag' ik' e' al' fs' PW
    have PW:=hτ e _ PW;split at h
    ·rename_i On;have hu:=ht.i4 (eC On);simp only at hu;split at h
     ·rename_i id off m c;obtain⟨hb,h⟩:=h;exact⟨_,h,L,fun J=>by simp[Instr.indexAt,run_underlying hu,asIntOf,SV.den,At.den,hb,PW.sizeOf,dA]⟩
     ·rename_i id m;obtain⟨⟨hb,I⟩,X⟩:=uj rel h;refine⟨_,I,L,fun J=>?_⟩
      cases Z:(O id).nil
      ·simp[Instr.indexAt,run_underlying hu,asIntOf,SV.den,At.den,hb,PW.sizeOf,dA,Z]
      ·have:=X Z;omega
     ·rename_i a0 m c;obtain⟨ad,rfl,hb,h⟩:=h;exact⟨_,h,trivial,fun J=>by simp[Instr.indexAt,run_underlying hu,asIntOf,SV.den,At.den,hb,PW.sizeOf]⟩
     ·exact h.elim
    ·split at h
     ·rename_i On;have hu:=ht.i6 (eC On);simp only at hu;obtain⟨hb,h⟩:=h;obtain⟨r,ad,I,X,N,h4⟩:=tF (O:=O) h L;refine⟨r,I,X,fun J=>?_⟩;rw[N,h4];simp[Instr.indexAt,run_underlying hu,asIntOf,SV.den,At.den,Instr.sureAddr,hb,PW.sizeOf]
     ·exact h.elim
   ·exact h.elim
  ·exact h.elim
 ·exact h.elim
theorem kr(sat:Sat n l H nx iv B w O a J){x:Option Operand}{d:Int}(h:Lj l x d Fn):∃i,Fn i/\((x=none/\i=d)\/∃o k,x=some o/\a.eval o= .int k i):=by
 unfold Lj at h;split at h
 ·exact⟨d,h,.inl ⟨rfl,rfl⟩⟩
 ·obtain⟨v,I,X,N⟩:=dF sat h;clear N;split at I
  ·rename_i k i;exact⟨i,I,.inr ⟨_,k,rfl,X⟩⟩
  ·exact I.elim
theorem nX{len cap:Nat}{i j:Int}(SW:(lo=none/\i=0)\/∃o k,lo=some o/\a.eval o= .int k i)(UD:(D=none/\j=len)\/∃o k,D=some o/\a.eval o= .int k j)
  (h0:0<=i) (I:i<=j) (X:j<=cap):(Instr.sliceBounds true len cap (lo.map a.eval) (D.map a.eval) none).run P J= .ok (i.toNat,j.toNat,cap) J:=by
 rcases SW with⟨rfl,rfl⟩|⟨o,k,rfl,ho⟩<;>rcases UD with⟨rfl,rfl⟩|⟨o',k',rfl,Rv⟩
 ·simp[Instr.sliceBounds]
 ·have h1':0<=j:=by omega
  simp[Instr.sliceBounds,Instr.sliceBound,Rv,asIntOf,h1',X]
 ·have:i<=(len:Int):=I;simp[Instr.sliceBounds,Instr.sliceBound,ho,asIntOf,h0,this]
 ·have h1':0<=j:=by omega
  have N:i<=((j.toNat:Nat):Int):=by omega
  have h3':i<=max j 0:=by omega
  simp[Instr.sliceBounds,Instr.sliceBound,ho,Rv,asIntOf,h1',X,h0,h3']
theorem Da{len cap:Nat}{i j:Int}(SW:(lo=none/\i=0)\/∃o k,lo=some o/\a.eval o= .int k i)(UD:(D=none/\j=len)\/∃o k,D=some o/\a.eval o= .int k j)
  (h0:0<=i) (I:i<=j) (X:j<=cap):(Instr.sliceBounds false len cap (lo.map a.eval) (D.map a.eval) none).run P J= .ok (i.toNat,j.toNat,cap) J:=by
 rcases SW with⟨rfl,rfl⟩|⟨o,k,rfl,ho⟩<;>rcases UD with⟨rfl,rfl⟩|⟨o',k',rfl,Rv⟩
 ·simp[Instr.sliceBounds]
 ·have h1':0<=j:=by omega
  simp[Instr.sliceBounds,Instr.sliceBound,Rv,asIntOf,h1',X]
 ·have:i<=(len:Int):=I;simp[Instr.sliceBounds,Instr.sliceBound,ho,asIntOf,h0,this]
 ·have h1':0<=j:=by omega
  have N:i<=((j.toNat:Nat):Int):=by omega
  have h3':i<=max j 0:=by omega
  simp[Instr.sliceBounds,Instr.sliceBound,ho,Rv,asIntOf,h1',X,h0,h3']
theorem Db(hτ:fT P τ)(sat:Sat n l H nx iv B w O a J){t:Nat}{x:SV}{Fn:SV->Prop}(h:FR τ H t x l lo D Fn)(L:x.sc nx):
  ∃r,Fn r/\r.sc nx/\∀J,(Instr.sliceAt t (x.den O) (lo.map a.eval) (D.map a.eval) none).run P J= .ok (r.den O) J:=by
 unfold FR at h;split at h
 ·rename_i sz ag by_ ze tag ik e al fs QX;have ht:=hτ t _ QX;split at h
  ·rename_i On;have hu:=ht.i4 (eC On);simp only at hu;split at h
   ·rename_i sz' ag' by' ze' tag' ik' e' al' fs' PW
    have PW:=hτ e _ PW;split at h
    ·rename_i id off m c;obtain⟨i,I,SW⟩:=kr sat h;obtain⟨j,X,UD⟩:=kr sat I;obtain⟨⟨b0,b1,b2⟩,off',n',c',e1,rfl,rfl,N⟩:=X;refine⟨_,N,L,fun J=>?_⟩;have hb:=nX (P:=P) (J:=J) SW UD b0 b1 b2;subst e1;simp[Instr.sliceAt,Instr.slice,run_underlying hu,SV.den,At.den,hb,PW.sizeOf];by_cases hc:c=i.toNat
     ·rw[if_pos hc,if_pos (by omega)]
     ·rw[aI hc,aI (by omega)];simp[dA]
    ·rename_i ad m c;obtain⟨i,I,SW⟩:=kr sat h;obtain⟨j,X,UD⟩:=kr sat I;obtain⟨⟨b0,b1,b2⟩,off',n',c',e1,rfl,rfl,N⟩:=X;refine⟨_,N,trivial,fun J=>?_⟩;have hb:=nX (P:=P) (J:=J) SW UD b0 b1 b2;subst e1;simp[Instr.sliceAt,Instr.slice,run_underlying hu,SV.den,At.den,hb,PW.sizeOf];by_cases hc:c=i.toNat
     ·rw[if_pos hc,if_pos (by omega)]
     ·rw[aI hc,aI (by omega)]
    ·rename_i id m;split at h
     ·obtain⟨I,Oe⟩:=uj sat.rel h;obtain⟨j,X,UD⟩:=kr sat I;obtain⟨⟨b0,b1⟩,m',rfl,N⟩:=X;refine⟨_,N,L,fun J=>?_⟩;have QF:(O id).nil=false->m<=(O id).cap:=fun Z=>by
       unfold Hw at h;split at h
       ·rename_i t' sz' cs' hH;split at h
        ·exact h.elim
        ·rename_i k;rcases sat.rel.vec id t' (k+1) cs' hH with⟨h5,_⟩|⟨_,spare,_,h6,_⟩
         ·rw[Z]at h5;cases h5
         ·have h7:=h.1;have h8:(cs'++spare).length=cs'.length+spare.length:=List.length_append;have h9:m*(k+1)<=(O id).cap*(k+1):=by omega
          exact Nat.le_of_mul_le_mul_right h9 (Nat.succ_pos k)
       ·exact h.elim
      cases Z:(O id).nil with
      |true=>
       have hm:=Oe Z;subst hm;have hb:=nX (P:=P) (J:=J) (len:=0) (cap:=0) (lo:=none) (i:=0) (.inl ⟨rfl,rfl⟩) UD (Int.le_refl 0) b0 b1;have hj:j.toNat=0:=by omega
       rw[hj]at hb ⊢;simp only[Option.map_none]at hb;simp[Instr.sliceAt,Instr.slice,run_underlying hu,SV.den,At.den,Z,hb,PW.sizeOf]
      |false=>
       have hc:=QF Z;have hb:=nX (P:=P) (J:=J) (len:=m) (cap:=(O id).cap) (lo:=none) (i:=0) (.inl ⟨rfl,rfl⟩) UD (Int.le_refl 0) b0 (by omega);simp only[Option.map_none]at hb;simp[Instr.sliceAt,Instr.slice,run_underlying hu,SV.den,At.den,Z,hb,PW.sizeOf,dA]
     ·exact h.elim
    ·exact h.elim
   ·exact h.elim
  ·split at h
   ·rename_i On;have hu:=ht.i6 (eC On);simp only at hu;split at h
    ·rename_i sz' ag' by' ze' tag' ik' e' al' fs' PW
     have PW:=hτ e _ PW;split at h
     ·rename_i id off;split at h
      ·split at h
       ·rename_i h0;refine⟨_,h,L,fun J=>?_⟩;have h0:al≠0:=fun e=>by subst e;cases h0
        simp[Instr.sliceAt,Instr.sliceBounds,run_underlying hu,SV.den,At.den,PW.sizeOf,Instr.sureAddr,dA]
       ·exact h.elim
      ·exact h.elim
     ·exact h.elim
    ·exact h.elim
   ·split at h
    ·rename_i On;have hu:=ht.i3 (eC On);split at h
     ·rename_i s;obtain⟨i,I,SW⟩:=kr sat h;obtain⟨j,X,UD⟩:=kr sat I;obtain⟨⟨b0,b1,b2⟩,N⟩:=X;refine⟨_,N,trivial,fun J=>?_⟩;have hb:=Da (P:=P) (J:=J) SW UD b0 b1 b2;simp[Instr.sliceAt,Instr.slice,run_underlying hu,SV.den,At.den,hb]
     ·exact h.elim
    ·exact h.elim
 ·exact h.elim
end
section
variable{P:Program}{τ:mn}{B n nx:Nat}{l:Env}{H:Hp}{iv:Iv}{w J:World}{O:Nat->dL}{a:Act}
theorem Dc(z:Value)(c:Nat):(madeCells #[z] c)=(List.replicate c z).toArray:=by
 unfold madeCells;apply Array.ext';simp[List.map_const',Nat.mod_one]
theorem q9(zs:List Value)(c:Nat):(madeCells zs.toArray (c*zs.length))=((List.replicate c zs).flatten).toArray:=by
 unfold madeCells;apply Array.ext';simp only[Array.toList_map,Array.toList_range,List.size_toArray]
 induction c with
 |zero=>simp
 |succ c ih=>
  rw[Nat.succ_mul,List.range_add,List.map_append,ih,List.replicate_succ',List.flatten_append];simp only[List.flatten_cons,List.flatten_nil,List.append_nil,List.map_map]
  congr 1;apply List.ext_getElem
  ·simp
  ·intro i I X;simp at I;simp[bI I,I]
theorem FX(hτ:fT P τ)(sat:Sat n l H nx iv B w O a J){t:Nat}{x y:SV}{Fn:SV->Hp->Nat->Prop}(h:Gy τ t x y H nx Fn):
  ∃r H' OW G8 V,Fn r H' OW/\Rel H' OW iv B w G8 V/\r.sc OW/\nx<=OW/\(∀id,id<nx->O id=G8 id)/\(Instr.makeSlice t (x.den O) (y.den O)).run P J= .ok (r.den G8) V:=by
 unfold Gy at h;split at h
 ·rename_i k1 a1 k2 b1;split at h
  ·rename_i sz ag by_ ze tag ik e al fs QX;have ht:=hτ t _ QX;split at h
   ·rename_i On;have hu:=ht.i4 (eC On);simp only at hu;split at h
    ·rename_i sz' ag' by' ze' tag' ik' e' al' fs' PW
     have PW:=hτ e _ PW;obtain⟨inf,z,D,Oj,Oq,hz,RV⟩:=PW.info;simp only at Oj Oq RV;obtain⟨m,c,rfl,rfl,Vl,hbytes,h63,h⟩:=h;have Pk:(inf.bytes:Int)*(c:Int)<=281474976710656:=by
      rw[Oq];have Qo:((by'*c:Nat):Int)<=281474976710656:=by omega
      rwa [Int.natCast_mul]at Qo
     have OY:=run_make (P:=P) J t e inf z hu D hz k1 k2 (m:Int) (c:Int) (by omega) (by omega) Pk (by omega);simp only[aF]at OY;have fin:∀U:List Value,U.toArray=madeCells z.cells (c*inf.size)->AU (.arr e U) H nx (fun H' OW=>Fn (.o (.s nx 0 m c)) H' OW)->
       ∃r H' OW G8 V,Fn r H' OW/\Rel H' OW iv B w G8 V/\r.sc OW/\nx<=OW/\(∀id,id<nx->O id=G8 id)/\(Instr.makeSlice t (.int k1 m) (.int k2 c)).run P J= .ok (r.den G8) V:=by
      intro U Ok hK;refine⟨_,_,_,fh O nx ⟨J.heap.size,0,false⟩,J.alloc (.cells U.toArray e),hK,?_,?_,by omega,fm,?_⟩
      ·refine sat.rel.push (.arr e U) _ rfl rfl rfl (by simp) (fun k R=>heap_alloc_old _ _ R) (fun _=>⟨Nat.le_refl _,by simp⟩) ⟨rfl,heap_alloc_new _ _⟩ trivial
      ·simp[SV.sc,At.sc]
      ·rw[OY,<-Ok];simp[SV.den,At.den]
     have Re:=PW.Hq;simp only at Re;have Qs:z.cells=ze'.toArray:=by apply Array.ext';simpa using RV
     split at h
     ·rename_i z0;refine fin _ ?_ h;have:inf.size=1:=by rw[Oj,<-Re];rfl
      rw[this,aY,Qs,Dc]
     ·refine fin _ ?_ h;rw[Oj,<-Re,Qs];rcases bJ ze'.length with h0|h0
      ·have:ze'=[]:=List.eq_nil_of_length_eq_zero h0;subst this;simp[madeCells]
      ·rw[q9]
    ·exact h.elim
   ·exact h.elim
  ·exact h.elim
 ·exact h.elim
theorem FY(sat:Sat n l H nx iv B w O a J){x:SV}{Fn:Nat->List Value->Prop}(PI:0<size)(h:JU B H nx iv w size x Fn):
  ∃m c ad news,Fn m news/\x.den O= .slice ad m c/\news.length=m*size/\(∀u∈news,u.oneCell'=true)/\
   ((ad=none/\m=0)\/∃ad',ad=some ad'/\∀j u,news[j]? =some u->J.cell? (ad'.add j)=some u):=by
 have rel:=sat.rel;unfold JU at h;split at h
 ·rename_i id off m c;split at h
  ·rename_i bt U hH;obtain⟨I,hd⟩:=nT h;obtain⟨X,ht⟩:=nU I;obtain⟨vs,N,Qy,UE⟩:=kl X;refine⟨m,c,_,vs,N,rfl,?_,UE,.inr ⟨_,rfl,fun j u hu=>?_⟩⟩
   ·have:=congrArg List.length Qy;simp at this ht;omega
   ·rw[dA,cell_of (rel.box id bt U hH)];have e:(vs.map At.v)[j]? =some (.v u):=by simp[hu]
    rw[<-Qy]at e;simp only[List.getElem?_take,List.getElem?_drop]at e;split at e
    ·simp[e,At.den]
    ·simp at e
  ·rename_i bt U hH;obtain⟨vs,I,X,N,h4⟩:=h;refine⟨m,c,_,vs,h4,rfl,X,N,.inr ⟨_,rfl,fun j u hu=>?_⟩⟩;rw[dA,cell_of (rel.arr id bt U hH)];rw[<-I]at hu;simp only[List.getElem?_take,List.getElem?_drop]at hu;split at hu
   ·exact hu
   ·simp at hu
  ·exact h.elim
 ·rename_i ad m c;obtain⟨vs,I,X,N,h4⟩:=h;refine⟨m,c,ad,vs,h4,rfl,I,X,?_⟩;rcases bJ m with h0|h0
  ·subst h0;have:vs=[]:=List.eq_nil_of_length_eq_zero (by simpa using I);subst this
   cases ad with
   |none=>exact .inl ⟨rfl,rfl⟩
   |some ad=>exact .inr ⟨ad,rfl,fun j u hu=>by simp at hu⟩
  ·exact .inr (N O J rel h0)
 ·rename_i id m;split at h
  ·rename_i bt sz U hH;obtain⟨I,X,N⟩:=h;rcases rel.vec id bt sz U hH with⟨Z,rfl⟩|⟨Z,spare,hb,_⟩
   ·have h0:m=0:=by
     have h4:m*size=0:=by simpa using I.symm
     rcases Nat.mul_eq_zero.1 h4 with h5|h5<;>omega
    subst h0;exact⟨0,0,none,[],N,by simp[SV.den,At.den,Z],by simp,by simp,.inl ⟨rfl,rfl⟩⟩
   ·refine⟨m,(O id).cap,_,U,N,by simp only[SV.den,At.den,Z];rfl,I,X,.inr ⟨_,rfl,fun j u hu=>?_⟩⟩;rw[dA,cell_of hb,aV,aJ (aD.1 hu).1];exact hu
  ·exact h.elim
 ·exact h.elim
theorem kp(w:World)(base:Nat)(t ty e:TypeId)(i:TypeInfo)(size:Nat)(ht:P.underlying t=some (.slice e))(D:P.info? e=some i)
  (v:Value) (m:Nat) (xs:List Value) (SI:w.ownsRow base e size v m xs) (c:Nat):(Builtin.append_ #[t,t] ty #[v,.slice none 0 c]).run P w= .ok v w:=by
 rcases SI.2 with⟨rfl,rfl⟩|⟨g,cap,cur,rfl,_,_,Ti,_⟩
 ·simp[Builtin.append_,run_underlying ht,sizeOf,typeInfo,D,Builtin.lenOf,Builtin.firstCells]
 ·simp[Builtin.append_,run_underlying ht,sizeOf,typeInfo,D,Builtin.lenOf,Builtin.firstCells,Ti,storeCells]
theorem pG{w:World}{e:Nat}{v:Value}{base:Nat}(h:w.ownsRow base e size v m xs):
  ∃val:dL,(At.w 0 m).den (fun _=>val)=v/\(jh.vec e size xs).fits (fun _=>val) val w/\(val.nil=false->v.ownBlock=some val.g/\val.g<w.heap.size)/\(val.nil=true->v.ownBlock=none):=by
 rcases h.2 with⟨rfl,rfl⟩|⟨g,cap,cur,rfl,_,hb,Ti,QF,hcur,RK⟩
 ·have:xs=[]:=List.eq_nil_of_length_eq_zero (by simpa using h.1);exact⟨⟨0,0,true⟩,rfl,.inl ⟨rfl,this⟩,(fun h=>by cases h),fun _=>rfl⟩
 ·refine⟨⟨g,cap,false⟩,rfl,.inr ⟨rfl,cur.toList.drop (m*size),?_,?_,QF⟩,fun _=>⟨rfl,(ah.1 hb).1⟩,(fun h=>by cases h)⟩
  ·rw[<-RK,List.take_append_drop];simpa using hb
  ·rw[<-RK,List.take_append_drop];simpa using hcur
theorem Dd(rel:Rel H nx iv B w O J){e sz:Nat}(hH:cV H id=some (.vec e sz U))(hl:U.length=m*sz)(PI:0<sz):
  J.ownsRow B e sz ((At.w id m).den O) m U:=by
 rcases rel.vec id e sz U hH with⟨Z,rfl⟩|⟨Z,spare,hb,SJ,QF⟩
 ·have h0:m=0:=by
   have h4:m*sz=0:=by simpa using hl.symm
   rcases Nat.mul_eq_zero.1 h4 with h5|h5<;>omega
  subst h0;simp only[At.den,Z]
  exact World.ownsRow_nil _ _ _ _
 ·refine⟨hl,.inr ⟨(O id).g,(O id).cap,_,by simp only[At.den,Z],(rel.low id _ hH Z).1,hb,?_,QF,by simpa using SJ,by simp[<-hl]⟩⟩;have I:m*sz<=(O id).cap*sz:=by rw[<-SJ,<-hl];simp
  exact Nat.le_of_mul_le_mul_right I PI
theorem tC(hτ:fT P τ)(sat:Sat n l H nx iv B w O a J){t ty:Nat}{x y:SV}{Fn:SV->Hp->Nat->Prop}(h:xZ τ B t x y H nx iv w Fn):
  ∃r H' OW G8 V,Fn r H' OW/\Rel H' OW iv B w G8 V/\r.sc OW/\nx<=OW/\(∀id,id<nx->O id=G8 id)/\(Builtin.append_ #[t,t] ty #[x.den O,y.den O]).run P J= .ok (r.den G8) V:=by
 have rel:=sat.rel;unfold xZ at h;split at h
 ·exact h.elim
 rename_i sz ag by_ ze tag ik e al fs QX;have ht:=hτ t _ QX;split at h
 ·rename_i On;have hu:=ht.i4 (eC On);simp only at hu;split at h
  ·rename_i sz' ag' by' ze' tag' ik' e' al' fs' PW
   have PW:=hτ e _ PW;split at h
   ·exact h.elim
   ·rename_i z0 zr;obtain⟨inf,z,D,Oj,Oq,hz,RV⟩:=PW.info;have Re:=PW.Hq;simp only at Oj Oq RV Re;have PI:0<sz':=by rw[<-Re];simp
    have hzs:z.cells.size=sz':=by rw[<-Re,<-RV];simp
    have h0:=FY sat PI h;clear h;obtain⟨m,c,ad,news,h,hy,RU,S2,hsrc⟩:=h0;have happ:∀(v:Value) (k:Nat) (xs:List Value),J.ownsRow B e sz' v k xs->(k+m)*by'<=140737488355328->k+m<=maxLen->
      ∃v' V,(Builtin.append_ #[t,t] ty #[v,y.den O]).run P J= .ok v' V/\V.ownsRow B e sz' v' (k+m) (xs++news)/\J.grownBy V v.ownBlock/\(v'.ownBlock=v.ownBlock\/v'.ownBlock=some J.heap.size):=by
     intro v k xs SI hb Qq;rw[hy];rcases hsrc with⟨rfl,rfl⟩|⟨ad',rfl,PJ⟩
     ·have:news=[]:=List.eq_nil_of_length_eq_zero (by simpa using RU);subst this;exact⟨v,J,kp J B t ty e inf sz' hu D v k xs SI c,by simpa using SI,⟨rfl,rfl,rfl,Nat.le_refl _,fun _ _ _=>rfl⟩,.inl rfl⟩
     ·obtain⟨v',V,I,X,N,_,h5⟩:=run_append_own_at (P:=P) J B t ty e inf z sz' by' hu D hz Oj Oq hzs PI v k xs SI ad' m c news RU PJ S2 Qq hb (by have:=rel.base;have:=rel.size;omega)
      exact⟨v',V,I,X,N,h5⟩
    split at h
    ·obtain⟨hb,Qq,hK⟩:=h;obtain⟨v',V,I,X,N,h5⟩:=happ (.slice none 0 0) 0 [] (World.ownsRow_nil _ _ _ _) (by simpa using hb) (by simpa using Qq);simp only[aV,List.nil_append]at X;obtain⟨val,UE,RJ,hv3,hv4⟩:=pG X;refine⟨_,_,_,fh O nx val,V,hK,?_,by simp[SV.sc,At.sc],by omega,fm,?_⟩
     ·refine rel.push (.vec e sz' news) val N.os N.tape N.output N.size (fun k R=>N.block k R (by simp[Value.ownBlock])) (fun Z=>?_) (by simpa [jh.fits]using RJ) trivial;have:=hv3 Z;rcases h5 with h6|h6
      ·rw[this.1]at h6;simp[Value.ownBlock]at h6
      ·rw[this.1]at h6;injection h6 with h6;exact⟨by omega,this.2⟩
     ·rw[show SV.den O (.o (.v (.slice none 0 0)))= .slice none 0 0 from rfl,I,<-UE];simp[SV.den,At.den]
    ·rename_i id k;split at h
     ·rename_i e1 sz1 U hH;split at h
      ·rename_i Uh;have Uh:=eC Uh;subst Uh;split at h
       ·rename_i PS;have PS:=eC PS;subst PS;obtain⟨hl,hb,Qq,h⟩:=h;obtain⟨H1,hK,hH1,_⟩:=ry h;obtain⟨v',V,I,X,N,h5⟩:=happ _ k U (Dd rel hH hl PI) hb Qq;obtain⟨val,UE,RJ,hv3,hv4⟩:=pG X;have RI:(O id).nil=false->((At.w id k).den O).ownBlock=some (O id).g:=fun Z=>by simp[At.den,Z,Value.ownBlock]
        have hob':(O id).nil=true->((At.w id k).den O).ownBlock=none:=fun Z=>by simp[At.den,Z,Value.ownBlock]
        refine⟨_,_,_,fh O nx val,V,hK,?_,by simp[SV.sc,At.sc],by omega,fm,?_⟩
        ·refine rel.JY hH (by simp) hH1 (.vec e1 sz1 (U++news)) val N.os N.tape N.output N.size (fun j hj OS=>?_) (fun Z=>?_) (by simpa [jh.fits]using RJ) trivial
         ·refine N.block j hj fun e=>?_
          cases Oe:(O id).nil
          ·rw[RI Oe]at e;injection e with e;exact OS Oe e
          ·rw[hob' Oe]at e;cases e
         ·have:=hv3 Z;rcases h5 with h6|h6
          ·rw[this.1]at h6
           cases Oe:(O id).nil
           ·rw[RI Oe]at h6;injection h6 with h6;exact .inr ⟨rfl,h6⟩
           ·rw[hob' Oe]at h6;cases h6
          ·rw[this.1]at h6;injection h6 with h6;exact .inl ⟨by omega,this.2⟩
        ·rw[show SV.den O (.o (.w id k))=(At.w id k).den O from rfl,I,<-UE];simp[SV.den,At.den]
       ·exact h.elim
      ·exact h.elim
     ·exact h.elim
    ·rename_i id k c0;split at h
     ·rename_i Ui;have Ui:=eC Ui;subst Ui;split at h
      ·rename_i e1 cs0 hH;split at h
       ·rename_i Uh;have Uh:=eC Uh;subst Uh;obtain⟨U,⟨hl,hb,Qq,h9⟩,rfl,_⟩:=kl h;obtain⟨H1,hK,hH1,_⟩:=ry h9;have Oe:(O id).nil=false:=rel.nn id _ hH (by intros;simp) (by simp);have S4:=rel.box id _ _ hH;rw[fU]at S4;have SI:J.ownsRow B e1 sz' ((At.s id 0 k k).den O) k U:=by
         refine⟨hl,.inr ⟨(O id).g,k,_,by simp only[At.den],(rel.low id _ hH Oe).1,S4,Nat.le_refl _,by omega,by simp[hl],by simp[<-hl]⟩⟩
        obtain⟨v',V,I,X,N,h5⟩:=happ _ k U SI hb Qq;obtain⟨val,UE,RJ,hv3,hv4⟩:=pG X;have RI:((At.s id 0 k k).den O).ownBlock=some (O id).g:=by simp[At.den,Value.ownBlock]
        refine⟨_,_,_,fh O nx val,V,hK,?_,by simp[SV.sc,At.sc],by omega,fm,?_⟩
        ·refine rel.JY hH (by simp) hH1 (.vec e1 sz' (U++news)) val N.os N.tape N.output N.size (fun j hj OS=>?_) (fun Z=>?_) (by simpa [jh.fits]using RJ) trivial
         ·refine N.block j hj fun e=>?_;rw[RI]at e;injection e with e;exact OS Oe e
         ·have:=hv3 Z;rcases h5 with h6|h6
          ·rw[this.1]at h6;rw[RI]at h6;injection h6 with h6;exact .inr ⟨Oe,h6⟩
          ·rw[this.1]at h6;injection h6 with h6;exact .inl ⟨by omega,this.2⟩
        ·rw[show SV.den O (.o (.s id 0 k k))=(At.s id 0 k k).den O from rfl,I,<-UE];simp[SV.den,At.den]
       ·exact h.elim
      ·exact h.elim
     ·exact h.elim
    ·exact h.elim
  ·exact h.elim
 ·exact h.elim
end
end Go.Sx
