/- Texts Sx1 to Sx6: lemmas, each with its conditions. -/
import Derived.WalkKit
import Derived.Maps.AppendAt
import Derived.Laws.IdiomCopy
import Derived.Great.BuildSlice
namespace Go
variable{i m n:Nat}
theorem aB.{u_1}{α:Type u_1}{l:List α}(h:i<l.length):l[i]? =some l[i]:=List.getElem?_eq_getElem h
theorem aC.{u_1}{α:Type u_1}(y:α){a:α}{l:List α}:a∈l->a∈y::l:=List.mem_cons_of_mem y
theorem aD.{u_1}{α:Type u_1}{a:α}{l:List α}:l[i]? =some a↔∃h:i<l.length,l[i]=a:=List.getElem?_eq_some_iff
theorem aE.{u_1}{α:Type u_1}{l:List α}{a:α}(e:l[i]? =some a):a∈l:=List.mem_of_getElem? e
theorem aF(n:Nat):((n:Int)).toNat=n:=Int.toNat_natCast n
theorem aG.{u_1}{α:Type u_1}{a:α}{l:List α}:a∈a::l:=List.mem_cons_self
theorem aH{p:Prop} [inst:Decidable p]:decide p=false->¬p:=of_decide_eq_false
theorem aI.{u}{c:Prop}{h:Decidable c}(hnc:¬c){α:Sort u}{t e:α}:(if c then t else e)=e:=if_neg hnc
theorem aJ.{u_1}{α:Type u_1}{l₁ l₂:List α}(hn:i<l₁.length):(l₁++l₂)[i]? =l₁[i]? :=List.getElem?_append_left hn
theorem aK{p:Prop} [inst:Decidable p]:decide p=true->p:=of_decide_eq_true
theorem aL.{u_1,u_2}{α:Type u_1}{β:Type u_2}{as:List α}(f:α->β):(List.map f as).length=as.length:=List.length_map f
theorem aM.{u_1,u_2}{α:Type u_1}{β:Type u_2}{f:α->β}{l:List α}:(List.map f l)[i]? =Option.map f l[i]? :=List.getElem?_map
theorem aN.{u_1}{α:Type u_1}{l₁ l₂:List α}:l₁.length<=i->(l₁++l₂)[i]? =l₂[i-l₁.length]? :=List.getElem?_append_right
theorem aO.{u_1}{α:Type u_1}{l:List α}{a:α}(h:i<l.length):(l.set i a)[i]? =some a:=List.getElem?_set_self h
theorem aP(n m:Nat):n<m∨n≥m:=Nat.lt_or_ge n m
theorem aQ.{u_1}{α:Type u_1}{a:α}{l:List α}(h:a∈l):∃i:Nat,l[i]? =some a:=List.getElem?_of_mem h
theorem aR.{u_1,u_2}{α:Type u_1}{β:Type u_2}{b:β}{f:α->β}{l:List α}:b∈List.map f l↔∃a,a∈l∧f a=b:=List.mem_map
theorem aS(n:Nat):0<=n:=Nat.zero_le n
theorem aT.{u_1}{α:Type u_1}{l:List α}{j:Nat}(h:i≠j){a:α}:(l.set i a)[j]? =l[j]? :=List.getElem?_set_ne h
theorem aU(h₁:n<=m)(h₂:m<=n):n=m:=Nat.le_antisymm h₁ h₂
theorem aV(n:Nat):0+n=n:=Nat.zero_add n
theorem aW{k:Nat}:n<=m->m<=k->n<=k:=Nat.le_trans
theorem aX.{u_1}{α:Type u_1}{l:List α}(h:n<l.length):l[n]∈l:=List.getElem_mem h
theorem aY(n:Nat):n*1=n:=Nat.mul_one n
theorem aZ.{u_1}{α:Type u_1}{l:List α}:(List.take i l).length=min i l.length:=List.length_take
theorem a9.{u_1}{α:Type u_1}{l:List α}{a b:α}:a∈l.set i b->a∈l∨a=b:=List.mem_or_eq_of_mem_set
theorem ah.{u_1}{α:Type u_1}{b:α}{xs:Array α}:xs[i]? =some b↔∃h:i<xs.size,xs[i]=b:=Array.getElem?_eq_some_iff
theorem au.{u_1}{α:Type u_1}{xs:Array α}{d:α}:xs.getD i d=xs[i]?.getD d:=Array.getD_eq_getD_getElem?
theorem aw(a b:Bool):((a&&b)=true)=(a=true∧b=true):=Bool.and_eq_true a b
theorem az(a:Rat):a*0=0:=Rat.mul_zero a
theorem bA.{u}{α:Type u}{xs:Array α}:xs.toList[i]? =xs[i]? :=Array.getElem?_toList
theorem bB(n:Nat):n-n=0:=Nat.sub_self n
theorem bC(a:Rat):0*a=0:=Rat.zero_mul a
theorem bD(a:Rat):a+0=a:=Rat.add_zero a
theorem bE{p:Prop} [Decidable p]:¬p->decide p=false:=decide_eq_false
theorem bF.{u_1}{α:Type u_1}{a b:α}:a∈[b]↔a=b:=List.mem_singleton
theorem bG.{u_1}{α:Type u_1}{l₁ l₂:List α}(h:∀(i:Nat),l₁[i]? =l₂[i]?):l₁=l₂:=List.ext_getElem? h
theorem bH.{u_1}{α:Type u_1}{l:List α}:List.take l.length l=l:=List.take_length
theorem bI{a b:Nat}(h:a<b):a % b=a:=Nat.mod_eq_of_lt h
theorem bJ(n:Nat):n=0∨n>0:=Nat.eq_zero_or_pos n
theorem bK(a b:Rat):a / b=a*b⁻¹:=Rat.div_def a b
theorem bL(n m:Nat):n*m=m*n:=Nat.mul_comm n m
theorem bM:n.beq m=true->n=m:=Nat.eq_of_beq_eq_true
theorem bN.{u}{α:Type u}{a:α}:(List.replicate n a).length=n:=List.length_replicate
theorem bO.{u_1}{α:Type u_1}{l:List α}{j:Nat}(h:i<j):(List.take j l)[i]? =l[i]? :=List.getElem?_take_of_lt h
theorem bP(k:Nat)(h:n<=m):k*n<=k*m:=Nat.mul_le_mul_left k h
theorem bQ(n m k:Nat):n*(m+k)=n*m+n*k:=Nat.mul_add n m k
theorem bS.{u_1}{α:Type u_1}{a:α}{l:List α}(h:a∈List.take i l):a∈l:=List.mem_of_mem_take h
theorem bT.{u_1}{α:Type u_1}{xs:Array α}{a:α}:(xs.setIfInBounds i a).size=xs.size:=Array.size_setIfInBounds
theorem bU{p:Prop} [inst:Decidable p]:p->decide p=true:=decide_eq_true
theorem bV(n:Nat):n<n.succ:=Nat.lt_succ_self n
theorem bW:List.range n.succ=List.range n++[n]:=List.range_succ
theorem bX.{u}{α:Type u}{as:List α}{a:α}:(as.set i a).length=as.length:=List.length_set
theorem bY.{u_1,u_2}{α:Type u_1}{β:Type u_2}(a:α)(f:α->β):Option.map f (some a)=some (f a):=Option.map_some a f
theorem bZ(h:i<n):(List.range n)[i]? =some i:=List.getElem?_range h
theorem b9.{u_1}{α:Type u_1}{a b:α}(h:b∈List.replicate n a):b=a:=List.eq_of_mem_replicate h
theorem bc(n m k:Nat):n*m*k=n*(m*k):=Nat.mul_assoc n m k
theorem bf.{u}{α:Type u}(as bs cs:List α):as++bs++cs=as++(bs++cs):=List.append_assoc as bs cs
theorem bg{a:Int}(h:a<0):a.sign= -1:=Int.sign_eq_neg_one_of_neg h
theorem bh{a:Int}(h:0<a):a.sign=1:=Int.sign_eq_one_of_pos h
theorem bj(n:Nat):n+0=n:=Nat.add_zero n
theorem bl(m:Nat)(npos:0<n):0<m.gcd n:=Nat.gcd_pos_of_pos_right m npos
theorem bm(a:Rat):1*a=a:=Rat.one_mul a
theorem bo(w:Nat):0<2^w:=Nat.two_pow_pos w
theorem bp(a b:Nat):a<b∨a=b∨b<a:=Nat.lt_trichotomy a b
theorem bq(x:Nat){y:Nat}(hy:0<y):x % y<y:=Nat.mod_lt x hy
theorem bs(a b:Rat):a*b=b*a:=Rat.mul_comm a b
theorem bu{a:Int}:a.sign=0↔a=0:=Int.sign_eq_zero_iff_zero
end Go
namespace Go.Sx
open Go
variable{next:Act->World->Prop}{ad:Addr}{cells:Array Value}{b:Bool}{Q:Exit->Act->World->Prop}{K:Int->Prop}{fs:List (Nat×Nat)}{rest:List (Nat×Value)}{cs new old xs:List Value}{B id m n nx off size:Nat}{place:Nat->Option (Nat×Nat)}{hi lo:Option Operand}{A:Prop}{w' w2:World}
inductive At where
 |v (x:Value)
 |p (id off:Nat)
 |s (id off len cap:Nat)
 |w (id len:Nat)
 |fn (f:Nat) (caps:List Nat)
inductive SV where
 |o (x:At)
 |a (cs:List At)
structure dL where
 g:Nat
 cap:Nat
 nil:Bool
def At.den(O:Nat->dL):At->Value
 | .v x=>x
 | .p id off=>.pointer (some ⟨(O id).g,off,none⟩)
 | .s id off len cap=>.slice (some ⟨(O id).g,off,none⟩) len cap
 | .w id len=>match(O id).nil with
  |true=>.slice none 0 0
  |false=>.slice (some ⟨(O id).g,0,none⟩) len (O id).cap
 | .fn f caps=>.func (.func f) #[] (caps.map fun id=>Value.pointer (some ⟨(O id).g,0,none⟩)).toArray
def SV.den(O:Nat->dL):SV->Value
 | .o x=>x.den O
 | .a cs=>.agg (cs.map (At.den O)).toArray
def At.sc(n:Nat):At->Prop
 | .v _=>True
 | .p id _=>id<n
 | .s id _ _ _=>id<n
 | .w id _=>id<n
 | .fn _ caps=>∀id∈caps,id<n
def SV.sc(n:Nat):SV->Prop
 | .o x=>x.sc n
 | .a cs=>∀x∈cs,At.sc n x
inductive jh where
 |box (t:Nat) (cs:List At)
 |arr (t:Nat) (cs:List Value)
 |vec (t:Nat) (size:Nat) (cs:List Value)
 |dead
abbrev Env:=List (Nat×SV)
abbrev Hp:=List (Nat×jh)
abbrev Iv:=List (Nat×Nat)
def fR:Env->Nat->Option SV
 |[],_=>none
 |(t,v)::r,u=>match Nat.beq t u with
  |true=>some v
  |false=>fR r u
def cV:Hp->Nat->Option jh
 |[],_=>none
 |(t,v)::r,u=>match Nat.beq t u with
  |true=>some v
  |false=>cV r u
def Aw:Hp->Nat->(Hp->Prop)->Prop
 |[],_,_=>False
 |(t,v)::r,u,k=>match Nat.beq t u with
  |true=>k ((t,.dead)::r)
  |false=>Aw r u (fun r'=>k ((t,v)::r'))
def FJ:Hp->Nat->jh->(Hp->Prop)->Prop
 |[],_,_,_=>False
 |(t,v)::r,u,b,k=>match Nat.beq t u with
  |true=>k ((t,b)::r)
  |false=>FJ r u b (fun r'=>k ((t,v)::r'))
structure TI where
 size:Nat
 agg:Bool
 bytes:Nat
 zero:List Value
 tag:Nat
 ik:IntKind:=.i64
 elem:Nat:=0
 CA:Nat:=0
 fields:List (Nat×Nat):=[]
def ev(l:Env):Operand->Option SV
 | .tmp t=>fR l t
 | .const v=>some (.o (.v v))
 | .global g=>some (.o (.v (.pointer (some ⟨g,0,none⟩))))
 | .func f=>some (.o (.v (.func (.func f) #[] #[])))
def ow(l:Env)(x:Operand)(k:SV->Prop):Prop:=match ev l x with
 |some v=>k v
 |none=>False
def JI(l:Env):List Operand->(List SV->Prop)->Prop
 |[],k=>k []
 |x::r,k=>match ev l x with
  |some v=>JI l r (fun vs=>k (v::vs))
  |none=>False
def sj:List At->Nat->(List At->Prop)->Prop
 |l,0,k=>k l
 |[],_+1,_=>False
 |_::t,n+1,k=>sj t n k
def sk:List At->Nat->(List At->Prop)->Prop
 |_,0,k=>k []
 |[],_+1,_=>False
 |x::t,n+1,k=>sk t n (fun r=>k (x::r))
def Ax:List At->List At->(List At->Prop)->Prop
 |cs,[],k=>k cs
 |[],_::_,_=>False
 |_::t,x::r,k=>Ax t r (fun t'=>k (x::t'))
def qV:List At->Nat->List At->(List At->Prop)->Prop
 |cs,0,new,k=>Ax cs new k
 |[],_+1,_,_=>False
 |x::t,n+1,new,k=>qV t n new (fun t'=>k (x::t'))
def ox:List Value->(List At->Prop)->Prop
 |[],k=>k []
 |x::r,k=>ox r (fun r'=>k (.v x::r'))
def xt:SV->(List At->Prop)->Prop
 | .a cs,k=>k cs
 | .o (.v (.agg ⟨l⟩)),k=>ox l k
 | .o (.v (.tuple _)),_=>False
 | .o x,k=>k [x]
def At.one:At->Bool
 | .v (.agg _)=>false
 | .v (.tuple _)=>false
 |_=>true
def Gt:List At->Prop->Prop
 |[],k=>k
 |x::r,k=>match x.one with
  |true=>Gt r k
  |false=>False
def wj:List At->(List Value->Prop)->Prop
 |[],k=>k []
 | .v x::r,k=>match At.one (.v x)with
  |true=>wj r (fun r'=>k (x::r'))
  |false=>False
 |_::_,_=>False
def dB(b:Bool)(A B:Prop):Prop:=match b with
 |true=>A
 |false=>B
theorem dB.t{B:Prop}(h:dB b A B)(e:b=true):A:=by subst e;exact h
theorem dB.f{B:Prop}(h:dB b A B)(e:b=false):B:=by subst e;exact h
theorem dB.mk{B:Prop}(h1:b=true->A)(h2:b=false->B):dB b A B:=by
 cases b
 ·exact h2 rfl
 ·exact h1 rfl
structure Rel(H:Hp)(nx:Nat)(iv:Iv)(B:Nat)(w:World)(O:Nat->dL)(w':World):Prop where
 os:w'.os=w.os
 tape:w'.tape=w.tape
 output:w'.output=w.output
 size:w.heap.size<=w'.heap.size
 base:B<=w.heap.size
 qW:∀lo hi,(lo,hi)∈iv->hi<=w.heap.size
 keys:∀id b,cV H id=some b->id<nx
 box:∀id t cs,cV H id=some (.box t cs)->w'.heap[(O id).g]? =some (.cells (cs.map (At.den O)).toArray t (0,0))
 arr:∀id t cs,cV H id=some (.arr t cs)->w'.heap[(O id).g]? =some (.cells cs.toArray t (0,0))
 vec:∀id t size cs,cV H id=some (.vec t size cs)->((O id).nil=true∧cs=[])∨
  ((O id).nil=false∧∃spare:List Value,w'.heap[(O id).g]? =some (.cells (cs++spare).toArray t (0,0))∧(cs++spare).length=(O id).cap*size∧(O id).cap<=maxLen)
 inj:∀id id' b b',cV H id=some b->cV H id'=some b'->b≠ .dead->b'≠ .dead->(O id).nil=false->(O id').nil=false->(O id).g=(O id').g->id=id'
 low:∀id b,cV H id=some b->(O id).nil=false->B<=(O id).g∧(O id).g<w'.heap.size
 ub:∀k,k<w.heap.size->(∀id b,cV H id=some b->(O id).nil=false->(O id).g≠k)->w'.heap[k]? =w.heap[k]?
 ji:∀lo hi,(lo,hi)∈iv->∀id b,cV H id=some b->(O id).nil=false->¬(lo<=(O id).g∧(O id).g<hi)
 JJ:∀id t cs,cV H id=some (.box t cs)->∀x∈cs,At.sc nx x
 nn:∀id b,cV H id=some b->(∀t size cs,b≠ .vec t size cs)->b≠ .dead->(O id).nil=false
structure JQ(P:Program)(g:Nat):Prop where
 h:∀(args:Array Value) (w:World),(callFunc g args).run P w= .ok (.enter g args) w
structure dx(P:Program)(g:Nat)(args:Array Value)(w:World)(R:Ending->World->Prop):Prop where
 e:JQ P g
 c:Calls P g args w R
def CE:List At->Nat->Option At
 |[],_=>none
 |x::_,0=>some x
 |_::t,n+1=>CE t n
def Hs:List Value->Nat->Option Value
 |[],_=>none
 |x::_,0=>some x
 |_::t,n+1=>Hs t n
def Hu:List (Nat×Nat)->Nat->Option (Nat×Nat)
 |[],_=>none
 |x::_,0=>some x
 |_::t,n+1=>Hu t n
def pC:IntKind->IntKind->Bool
 | .i8,.i8=>true| .i16,.i16=>true| .i32,.i32=>true| .i64,.i64=>true
 | .u8,.u8=>true| .u16,.u16=>true| .u32,.u32=>true| .u64,.u64=>true
 |_,_=>false
abbrev mo:=Nat->Option TI
def Hv(op:BinOp)(k:IntKind)(a b:Int)(K:Value->Prop):Prop:=
 match op with
 | .add=>∃r,k.wrap (a+b)=r∧K (.int k r)
 | .sub=>∃r,k.wrap (a-b)=r∧K (.int k r)
 | .mul=>∃r,k.wrap (a*b)=r∧K (.int k r)
 | .quo=>b≠0∧∃r,k.wrap (a.tdiv b)=r∧K (.int k r)
 | .rem=>b≠0∧∃r,a.tmod b=r∧K (.int k r)
 | .and=>∃r,k.wrap ((BitVec.ofInt k.bits a &&& BitVec.ofInt k.bits b).toNat:Int)=r∧K (.int k r)
 | .or=>∃r,k.wrap ((BitVec.ofInt k.bits a ||| BitVec.ofInt k.bits b).toNat:Int)=r∧K (.int k r)
 | .xor=>∃r,k.wrap ((BitVec.ofInt k.bits a ^^^ BitVec.ofInt k.bits b).toNat:Int)=r∧K (.int k r)
 | .shl=>0<=b∧∃r,k.wrap (a*2^(min b.toNat k.bits))=r∧K (.int k r)
 | .shr=>0<=b∧∃r,a.fdiv (2^(min b.toNat k.bits))=r∧K (.int k r)
 | .eql=>K (.bool (a==b))
 | .neq=>K (.bool (a != b))
 | .lss=>K (.bool (decide (a<b)))
 | .leq=>K (.bool (decide (a<=b)))
 | .gtr=>K (.bool (decide (a>b)))
 | .geq=>K (.bool (decide (a≥b)))
 | .andNot=>∃r,k.wrap ((BitVec.ofInt k.bits a &&& ~~~BitVec.ofInt k.bits b).toNat:Int)=r∧K (.int k r)
def NG(P:Program)(τ:mo)(op:BinOp)(t:Nat)(x y:SV)(K:SV->Prop):Prop:=
 match x,y with
 | .o (.v (.int k a)),.o (.v (.int k' b))=>
  match op with
  | .shl=>Hv op k a b (fun r=>K (.o (.v r)))
  | .shr=>Hv op k a b (fun r=>K (.o (.v r)))
  |_=>match pC k k' with
   |true=>Hv op k a b (fun r=>K (.o (.v r)))
   |false=>False
 | .o (.v (.bool a)),.o (.v (.bool b))=>
  match τ t with
  |some ti=>match Nat.beq ti.tag 2 with
   |true=>match op with
    | .eql=>K (.o (.v (.bool (a==b))))
    | .neq=>K (.o (.v (.bool (!(a==b)))))
    |_=>False
   |false=>False
  |none=>False
 | .o (.v (.string a)),.o (.v (.string b))=>
  match op with
  | .eql=>K (.o (.v (.bool (a.data.toList==b.data.toList))))
  | .neq=>K (.o (.v (.bool (!(a.data.toList==b.data.toList)))))
  | .add=>a.size+b.size<=maxLen∧K (.o (.v (.string (a++b))))
  |_=>False
 |_,_=>∃b:Bool,(∀(O:Nat->dL) (w:World) (o1 o2:Operand),(do eqGuard op t o1 o2 (x.den O) (y.den O);binOp op t (x.den O) (y.den O)).run P w= .ok (.bool b) w)∧K (.o (.v (.bool b)))
def BE(τ:mo)(B:Nat)(t:Nat)(addr:SV)(H:Hp)(nx:Nat)(iv:Iv)(w:World)(K:SV->Prop):Prop:=
 match τ t with
 |none=>False
 |some ⟨sz,ag,_,_,_,_,_,_,_⟩=>
  match addr with
  | .o (.p id off)=>
   match cV H id with
   |some (.box _ cs)=>
    match ag with
    |false=>match CE cs off with
     |some x=>K (.o x)
     |none=>False
    |true=>sj cs off (fun r=>sk r sz (fun l=>K (.a l)))
   |some (.arr _ cs)=>
    match ag with
    |false=>∃x,cs[off]? =some x∧K (.o (.v x))
    |true=>∃xs:List Value,(cs.drop off).take sz=xs∧xs.length=sz∧ox xs (fun l=>K (.a l))
   |some (.vec _ _ cs)=>
    match ag with
    |false=>∃x,cs[off]? =some x∧K (.o (.v x))
    |true=>∃xs:List Value,(cs.drop off).take sz=xs∧xs.length=sz∧ox xs (fun l=>K (.a l))
   |_=>False
  | .o (.v (.pointer (some ad)))=>
   match ag with
   |false=>∃x,(∀O w',Rel H nx iv B w O w'->w'.cell? ad=some x)∧K (.o (.v x))
   |true=>∃xs:List Value,xs.length=sz∧(∀O w',Rel H nx iv B w O w'->∀j x,xs[j]? =some x->w'.cell? (ad.add j)=some x)∧ox xs (fun l=>K (.a l))
  |_=>False
def setCells(w:World)(a:Addr):List Value->World
 |[]=>w
 |x::r=>setCells (w.setCell a x) (a.add 1) r
def CF(τ:mo)(B:Nat)(t:Nat)(addr x:SV)(H:Hp)(nx:Nat)(iv:Iv)(w:World)(K:Hp->World->Prop):Prop:=
 match τ t with
 |none=>False
 |some ⟨sz,_,_,_,_,_,_,_,_⟩=>
  xt x (fun new=>Gt new (match Nat.beq new.length sz with
   |false=>False
   |true=>match addr with
    | .o (.p id off)=>
     match cV H id with
     |some (.box bt cs)=>qV cs off new (fun cs'=>FJ H id (.box bt cs') (fun H'=>K H' w))
     |some (.arr bt cs)=>wj new (fun nv=>off+sz<=cs.length∧∃cs',cs.take off++nv++cs.drop (off+sz)=cs'∧FJ H id (.arr bt cs') (fun H'=>K H' w))
     |some (.vec bt ez cs)=>wj new (fun nv=>off+sz<=cs.length∧∃cs',cs.take off++nv++cs.drop (off+sz)=cs'∧FJ H id (.vec bt ez cs') (fun H'=>K H' w))
     |_=>False
    | .o (.v (.pointer (some ad)))=>wj new (fun nv=>∀O w',Rel H nx iv B w O w'->
      ad.spot=none∧(∀j,j<sz->(w'.cell? (ad.add j)).isSome=true∧w'.frozen? (ad.add j)=false)∧
      (∀id b,cV H id=some b->(O id).nil=false->(O id).g≠ad.block)∧
      ∀w2,w2=setCells w' ad nv->K H w2)
    |_=>False))
def AU(b:jh)(H:Hp)(nx:Nat)(K:Hp->Nat->Prop):Prop:=K ((nx,b)::H) (nx+1)
def pD(τ:mo)(fs:List (Nat×Nat))(f:Nat)(k:Nat->Nat->Bool->Prop):Prop:=
 match Hu fs f with
 |some (off,ft)=>match τ ft with
  |some ⟨sz,ag,_,_,_,_,_,_,_⟩=>match Nat.beq sz 0 with
   |true=>False
   |false=>k off sz ag
  |none=>False
 |none=>False
def xY(x:SV)(n:Nat)(K:SV->Prop):Prop:=
 match x with
 | .o (.p id off)=>K (.o (.p id (off+n)))
 | .o (.v (.pointer (some ad)))=>K (.o (.v (.pointer (some (ad.add n)))))
 |_=>False
def uh(l:Env)(place:Nat->(Nat->Nat->Prop)->Prop):List (Nat×Operand)->List At->(List At->Prop)->Prop
 |[],cs,k=>k cs
 |(i,x)::r,cs,k=>place i (fun off size=>ow l x (fun v=>xt v (fun new=>match Nat.beq new.length size with
   |true=>qV cs off new (fun cs'=>uh l place r cs' k)
   |false=>False)))
def Hw(H:Hp)(id m:Nat)(K:Prop):Prop:=
 match cV H id with
 |some (.vec _ sz cs)=>match sz with
  |0=>False
  |k+1=>cs.length=m*(k+1)∧K
 |_=>False
def NH(τ:mo)(H:Hp)(t:Nat)(x:SV)(K:Int->Prop):Prop:=
 match τ t with
 |none=>False
 |some ⟨_,_,_,_,tag,_,_,CA,_⟩=>match Nat.beq tag 4 with
  |true=>match x with
   | .o (.v (.slice _ n _))=>K n
   | .o (.s _ _ n _)=>K n
   | .o (.w id n)=>Hw H id n (K n)
   |_=>False
  |false=>match Nat.beq tag 3 with
   |true=>match x with
    | .o (.v (.string b))=>K b.size
    |_=>False
   |false=>match Nat.beq tag 6 with
    |true=>K CA
    |false=>False
def FQ(τ:mo)(H:Hp)(t:Nat)(x i:SV)(K:SV->Prop):Prop:=
 match i with
 | .o (.v (.int _ i))=>match τ t with
  |some ⟨_,_,_,_,tag,_,e,CA,_⟩=>match τ e with
   |some ⟨sz,_,_,_,_,_,_,_,_⟩=>match Nat.beq tag 4 with
    |true=>match x with
     | .o (.s id off n _)=>(0<=i∧i<n)∧K (.o (.p id (off+i.toNat*sz)))
     | .o (.w id n)=>Hw H id n ((0<=i∧i<n)∧K (.o (.p id (i.toNat*sz))))
     | .o (.v (.slice a n _))=>∃ad,a=some ad∧(0<=i∧i<n)∧K (.o (.v (.pointer (some (ad.add (i.toNat*sz))))))
     |_=>False
    |false=>match Nat.beq tag 6 with
     |true=>(0<=i∧i<CA)∧xY x (i.toNat*sz) K
     |false=>False
   |none=>False
  |none=>False
 |_=>False
def Lj(l:Env)(x:Option Operand)(dflt:Int)(K:Int->Prop):Prop:=
 match x with
 |none=>K dflt
 |some o=>ow l o (fun v=>match v with
  | .o (.v (.int _ n))=>K n
  |_=>False)
def FR(τ:mo)(H:Hp)(t:Nat)(x:SV)(l:Env)(lo hi:Option Operand)(K:SV->Prop):Prop:=
 match τ t with
 |some ⟨_,_,_,_,tag,_,e,al,_⟩=>match Nat.beq tag 4 with
  |true=>match τ e with
   |some ⟨sz,_,_,_,_,_,_,_,_⟩=>match x with
    | .o (.s id off n c)=>Lj l lo 0 (fun a=>Lj l hi n (fun b=>(0<=a∧a<=b∧b<=c)∧∃off' n' c':Nat,(if (c:Int)=a then off else off+a.toNat*sz)=off'∧b.toNat-a.toNat=n'∧c-a.toNat=c'∧K (.o (.s id off' n' c'))))
    | .o (.v (.slice ad n c))=>Lj l lo 0 (fun a=>Lj l hi n (fun b=>(0<=a∧a<=b∧b<=c)∧∃ad' n' c',(if (c:Int)=a then ad else ad.map (·.add (a.toNat*sz)))=ad'∧b.toNat-a.toNat=n'∧c-a.toNat=c'∧K (.o (.v (.slice ad' n' c')))))
    | .o (.w id n)=>match lo with
     |none=>Hw H id n (Lj l hi n (fun b=>(0<=b∧b<=n)∧∃m:Nat,b.toNat=m∧K (.o (.w id m))))
     |some _=>False
    |_=>False
   |none=>False
  |false=>match Nat.beq tag 6 with
   |true=>match τ e with
    |some ⟨_,_,_,_,_,_,_,_,_⟩=>match x with
     | .o (.p id off)=>match lo,hi with
      |none,none=>match Nat.beq al 0 with
       |false=>K (.o (.s id off al al))
       |true=>False
      |_,_=>False
     |_=>False
    |none=>False
   |false=>match Nat.beq tag 3 with
    |true=>match x with
     | .o (.v (.string s))=>Lj l lo 0 (fun a=>Lj l hi s.size (fun b=>(0<=a∧a<=b∧b<=s.size)∧K (.o (.v (.string (s.extract a.toNat b.toNat))))))
     |_=>False
    |false=>False
 |none=>False
def Gy(τ:mo)(t:Nat)(x y:SV)(H:Hp)(nx:Nat)(K:SV->Hp->Nat->Prop):Prop:=
 match x,y with
 | .o (.v (.int _ a)),.o (.v (.int _ b))=>match τ t with
  |some ⟨_,_,_,_,tag,_,e,_,_⟩=>match Nat.beq tag 4 with
   |true=>match τ e with
    |some ⟨_,_,by_,ze,_,_,_,_,_⟩=>∃n c:Nat,a=n∧b=c∧n<=c∧by_*c<=281474976710656∧c<=9223372036854775807∧
      match ze with
      |[z]=>AU (.arr e (List.replicate c z)) H nx (fun H' OW=>K (.o (.s nx 0 n c)) H' OW)
      |zs=>AU (.arr e (List.replicate c zs).flatten) H nx (fun H' OW=>K (.o (.s nx 0 n c)) H' OW)
    |none=>False
   |false=>False
  |none=>False
 |_,_=>False
def JU(B:Nat)(H:Hp)(nx:Nat)(iv:Iv)(w:World)(size:Nat)(x:SV)(K:Nat->List Value->Prop):Prop:=
 match x with
 | .o (.s id off n _)=>match cV H id with
  |some (.box _ cs)=>sj cs off (fun r=>sk r (n*size) (fun l=>wj l (fun vs=>K n vs)))
  |some (.arr _ cs)=>∃vs:List Value,(cs.drop off).take (n*size)=vs∧vs.length=n*size∧(∀x∈vs,x.oneCell'=true)∧K n vs
  |_=>False
 | .o (.v (.slice a n _))=>∃vs:List Value,vs.length=n*size∧(∀x∈vs,x.oneCell'=true)∧
   (∀O w',Rel H nx iv B w O w'->0<n->∃ad,a=some ad∧∀j u,vs[j]? =some u->w'.cell? (ad.add j)=some u)∧K n vs
 | .o (.w id n)=>match cV H id with
  |some (.vec _ _ cs)=>cs.length=n*size∧(∀x∈cs,x.oneCell'=true)∧K n cs
  |_=>False
 |_=>False
def xZ(τ:mo)(B:Nat)(t:Nat)(x y:SV)(H:Hp)(nx:Nat)(iv:Iv)(w:World)(K:SV->Hp->Nat->Prop):Prop:=
 match τ t with
 |none=>False
 |some ⟨_,_,_,_,tag,_,e,_,_⟩=>match Nat.beq tag 4 with
  |true=>match τ e with
   |some ⟨sz,_,by_,ze,_,_,_,_,_⟩=>match ze with
    |[]=>False
    |_::_=>JU B H nx iv w sz y (fun m news=>
     match x with
     | .o (.v (.slice none 0 0))=>m*by_<=140737488355328∧m<=maxLen∧AU (.vec e sz news) H nx (fun H' OW=>K (.o (.w nx m)) H' OW)
     | .o (.w id n)=>match cV H id with
      |some (.vec e' sz' cs)=>match Nat.beq e' e with
       |true=>match Nat.beq sz' sz with
        |true=>cs.length=n*sz∧(n+m)*by_<=140737488355328∧n+m<=maxLen∧Aw H id (fun H1=>AU (.vec e sz (cs++news)) H1 nx (fun H' OW=>K (.o (.w nx (n+m))) H' OW))
        |false=>False
       |false=>False
      |_=>False
     | .o (.s id 0 n c)=>match Nat.beq n c with
      |true=>match cV H id with
       |some (.box e' cs)=>match Nat.beq e' e with
        |true=>wj cs (fun vs=>vs.length=n*sz∧(n+m)*by_<=140737488355328∧n+m<=maxLen∧Aw H id (fun H1=>AU (.vec e sz (vs++news)) H1 nx (fun H' OW=>K (.o (.w nx (n+m))) H' OW)))
        |false=>False
       |_=>False
      |false=>False
     |_=>False)
   |none=>False
  |false=>False
def nP(O:Nat->dL)(xs:List SV):Array Value:=(xs.map (SV.den O)).toArray
abbrev Ext(w w2:World):Prop:=RowKit.Below w.heap.size w w2
structure BD(P:Program)(B:Nat)(g:Nat)(args:(Nat->dL)->Array Value)(H:Hp)(nx:Nat)(iv:Iv)(w:World)(K:SV->Hp->Iv->World->Prop):Prop where
 h:∀O w',Rel H nx iv B w O w'->dx P g (args O) w' (fun e w2=>∃v H' iv',e= .returned v∧Rel H' nx iv' B w2 O w2∧K (.o (.v v)) H' iv' w2)
structure D3(P:Program)(B:Nat)(g:Nat)(args:(Nat->dL)->Array Value)(H:Hp)(nx:Nat)(iv:Iv)(w:World)(K:SV->Hp->Iv->World->Prop):Prop where
 h:∀O w',Rel H nx iv B w O w'->dx P g (args O) w' (fun e w2=>∃v,e= .returned v∧Ext w' w2∧K (.o (.v v)) H ((w'.heap.size,w2.heap.size)::iv) w2)
def JV(dr:Bool)(P:Program)(B:Nat)(g:Nat)(args:(Nat->dL)->Array Value)(H:Hp)(nx:Nat)(iv:Iv)(w:World)(K:SV->Hp->Iv->World->Prop):Prop:=
 match dr with
 |true=>D3 P B g args H nx iv w K
 |false=>BD P B g args H nx iv w K
structure yF(P:Program)(B:Nat)(o:Oper)(l:Env)(H:Hp)(nx:Nat)(iv:Iv)(w:World)(K:SV->Hp->Nat->Iv->World->Prop):Prop where
 h:∀(O:Nat->dL) w' (e:Operand->Value),Rel H nx iv B w O w'->(∀x v,ev l x=some v->e x=v.den O)->
  ∃v w2 iv',((execOp e o).run P w'= .ok (.value v) w2∨((execOp e o).run P w'= .ok .skip w2∧v=undef))∧Rel H nx iv' B w2 O w2∧K (.o (.v v)) H nx iv' w2
def fbK(dr:Bool)(P:Program)(B:Nat)(o:Oper)(l:Env)(H:Hp)(nx:Nat)(iv:Iv)(w:World)(K:SV->Hp->Nat->Iv->World->Prop):Prop:=
 match dr with
 |true=>False
 |false=>yF P B o l H nx iv w K
structure OpG(P:Program)(B:Nat)(o:Oper)(l:Env)(H:Hp)(nx:Nat)(iv:Iv)(w:World)(K:SV->Hp->Nat->Iv->World->Prop):Prop where
 h:∀(O:Nat->dL) w' (e:Operand->Value),Rel H nx iv B w O w'->(∀x v,ev l x=some v->e x=v.den O)->
  ∃w2 w3 H' iv',(execOp e o).run P w'= .ok .skip w3∧Rel H' nx iv' B w2 O w3∧K (.o (.v undef)) H' nx iv' w2
def gbK(dr:Bool)(P:Program)(B:Nat)(o:Oper)(l:Env)(H:Hp)(nx:Nat)(iv:Iv)(w:World)(K:SV->Hp->Nat->Iv->World->Prop):Prop:=
 match dr with
 |true=>False
 |false=>OpG P B o l H nx iv w K
structure OpA(P:Program)(B:Nat)(o:Oper)(l:Env)(H:Hp)(nx:Nat)(iv:Iv)(w:World)(K:SV->Hp->Nat->Iv->World->Prop):Prop where
 h:∀(O:Nat->dL) w' (e:Operand->Value),Rel H nx iv B w O w'->(∀x v,ev l x=some v->e x=v.den O)->
  ∃v H' OW iv' ρ' w2 w3,(execOp e o).run P w'= .ok (.value (SV.den ρ' v)) w3∧Rel H' OW iv' B w2 ρ' w3∧v.sc OW∧nx<=OW∧(∀id,id<nx->O id=ρ' id)∧K v H' OW iv' w2
def gaK(dr:Bool)(P:Program)(B:Nat)(o:Oper)(l:Env)(H:Hp)(nx:Nat)(iv:Iv)(w:World)(K:SV->Hp->Nat->Iv->World->Prop):Prop:=
 match dr with
 |true=>False
 |false=>OpA P B o l H nx iv w K
def OB(H:Hp):SV->Bool
 | .o (.s id _ _ _)=>match cV H id with
  |some (.box _ [.s _ _ _ _])=>true
  |some (.box _ [.w _ _])=>true
  |_=>false
 |_=>false
def Mg(H:Hp):SV->SV->Bool
 | .o (.p id _),.o (.s _ _ _ _)=>match cV H id with
  |some (.arr _ _)=>true
  |_=>false
 |_,_=>false
def nS:List SV->(List Nat->Prop)->Prop
 |[],k=>k []
 | .o (.p id 0)::r,k=>nS r (fun l=>k (id::l))
 |_::_,_=>False
def xu(dr:Bool)(P:Program)(τ:mo)(B:Nat)(o:Oper)(l:Env)(H:Hp)(nx:Nat)(iv:Iv)(w:World)(K:SV->Hp->Nat->Iv->World->Prop):Prop:=
 match o.op with
 | .move x=>ow l x (fun v=>K v H nx iv w)
 | .assign x=>ow l x (fun v=>K v H nx iv w)
 | .pick c a b=>ow l c (fun v=>match v with
  | .o (.v (.bool t))=>dB t (ow l a (fun v=>K v H nx iv w)) (ow l b (fun v=>K v H nx iv w))
  |_=>False)
 | .alloc t=>match τ t with
  |some ⟨_,_,_,ze,_,_,_,_,_⟩=>ox ze (fun cs=>AU (.box t cs) H nx (fun H' OW=>K (.o (.p nx 0)) H' OW iv w))
  |none=>False
 | .box t x=>ow l x (fun v=>xt v (fun cs=>AU (.box t cs) H nx (fun H' OW=>K (.o (.p nx 0)) H' OW iv w)))
 | .build t parts=>match τ t with
  |some ⟨_,_,_,ze,tag,_,e,_,fs⟩=>match Nat.beq tag 5 with
   |true=>ox ze (fun z=>uh l (fun i k=>pD τ fs i (fun off sz _=>k off sz)) parts.toList z (fun cs=>K (.a cs) H nx iv w))
   |false=>match Nat.beq tag 6 with
    |true=>match τ e with
     |some ⟨sz,_,_,_,_,_,_,_,_⟩=>ox ze (fun z=>uh l (fun i k=>k (i*sz) sz) parts.toList z (fun cs=>K (.a cs) H nx iv w))
     |none=>False
    |false=>False
  |none=>False
 | .buildSlice t n parts=>match τ t with
  |some ⟨_,_,_,_,tag,_,e,_,_⟩=>match Nat.beq tag 4 with
   |true=>match τ e with
    |some ⟨sz,_,_,ze,_,_,_,_,_⟩=>match Nat.ble (n*sz) 16777216 with
     |true=>ox (List.replicate n ze).flatten (fun z=>uh l (fun i k=>k (i*sz) sz) parts.toList z (fun cs=>
       AU (.box e cs) H nx (fun H' OW=>K (.o (.s nx 0 n n)) H' OW iv w)))
     |false=>False
    |none=>False
   |false=>False
  |none=>False
 | .load t a=>ow l a (fun v=>BE τ B t v H nx iv w (fun r=>K r H nx iv w))
 | .store t a x=>ow l a (fun va=>ow l x (fun vx=>match Mg H va vx with
  |true=>gbK dr P B o l H nx iv w K
  |false=>CF τ B t va vx H nx iv w (fun H' w'=>K (.o (.v undef)) H' nx iv w')))
 | .nilCheck x=>ow l x (fun v=>match v with
  | .o (.p id off)=>K (.o (.p id off)) H nx iv w
  | .o (.v (.pointer (some ad)))=>K (.o (.v (.pointer (some ad)))) H nx iv w
  | .o (.fn f ids)=>K (.o (.fn f ids)) H nx iv w
  | .o (.v (.func (.func f) fi ca))=>K (.o (.v (.func (.func f) fi ca))) H nx iv w
  |_=>False)
 | .binOp op t x y _=>ow l x (fun vx=>ow l y (fun vy=>NG P τ op t vx vy (fun r=>K r H nx iv w)))
 | .unOp op _ x=>ow l x (fun v=>match op,v with
  | .not,.o (.v (.bool b))=>K (.o (.v (.bool (!b)))) H nx iv w
  | .neg,.o (.v (.int k n))=>∃r,k.wrap (0-n)=r∧K (.o (.v (.int k r))) H nx iv w
  | .xor,.o (.v (.int k n))=>∃r,k.wrap ((BitVec.ofInt k.bits (if k.signed then -1 else k.max) ^^^ BitVec.ofInt k.bits n).toNat:Int)=r∧K (.o (.v (.int k r))) H nx iv w
  |_,_=>False)
 | .convert sr d x=>match τ sr with
  |some _=>ow l x (fun v=>match τ d with
   |some ⟨_,_,_,_,tag,ik,_,_,_⟩=>match Nat.beq tag 1 with
    |true=>match v with
     | .o (.v (.int _ n))=>∃r,ik.wrap n=r∧K (.o (.v (.int ik r))) H nx iv w
     |_=>False
    |false=>fbK dr P B o l H nx iv w K
   |none=>False)
  |none=>False
 | .makeFunc (.func f) ⟨first⟩ caps=>match first with
  |[]=>JI l caps.toList (fun vs=>nS vs (fun ids=>K (.o (.fn f ids)) H nx iv w))
  |_=>False
 | .makeSlice t x y=>ow l x (fun vx=>ow l y (fun vy=>Gy τ t vx vy H nx (fun v H' OW=>K v H' OW iv w)))
 | .slice t x lo hi none=>ow l x (fun v=>FR τ H t v l lo hi (fun r=>K r H nx iv w))
 | .fieldAddr t x f=>match τ t with
  |some ⟨_,_,_,_,tag,_,_,_,fs⟩=>match Nat.beq tag 5 with
   |true=>pD τ fs f (fun off _ _=>ow l x (fun v=>xY v off (fun r=>K r H nx iv w)))
   |false=>False
  |none=>False
 | .field t x f=>match τ t with
  |some ⟨_,_,_,_,tag,_,_,_,fs⟩=>match Nat.beq tag 5 with
   |true=>pD τ fs f (fun off sz ag=>ow l x (fun v=>match v with
    | .o (.v (.agg ⟨vs⟩))=>ox vs (fun cs=>match ag with
     |true=>sj cs off (fun r=>sk r sz (fun c=>K (.a c) H nx iv w))
     |false=>match CE cs off with
      |some c=>K (.o c) H nx iv w
      |none=>False)
    | .a cs=>match ag with
     |true=>sj cs off (fun r=>sk r sz (fun c=>K (.a c) H nx iv w))
     |false=>match CE cs off with
      |some c=>K (.o c) H nx iv w
      |none=>False
    |_=>False))
   |false=>False
  |none=>False
 | .indexAddr t x i=>ow l x (fun vx=>ow l i (fun vi=>FQ τ H t vx vi (fun r=>K r H nx iv w)))
 | .extract x i=>ow l x (fun v=>match v with
  | .o (.v (.tuple ⟨vs⟩))=>match Hs vs i with
   |some u=>K (.o (.v u)) H nx iv w
   |none=>False
  |_=>False)
 | .call ⟨.builtin .len,⟨[x]⟩,⟨[t]⟩⟩=>ow l x (fun v=>NH τ H t v (fun n=>K (.o (.v (.int .i64 n))) H nx iv w))
 | .call ⟨.builtin .append,⟨[x,y]⟩,⟨[t,u]⟩⟩=>match Nat.beq t u with
  |true=>ow l x (fun vx=>ow l y (fun vy=>match OB H vy with
   |true=>gaK dr P B o l H nx iv w K
   |false=>xZ τ B t vx vy H nx iv w (fun v H' OW=>K v H' OW iv w)∨yF P B o l H nx iv w K))
  |false=>yF P B o l H nx iv w K
 | .call ⟨.builtin .max,⟨[x,y]⟩,_⟩=>ow l x (fun vx=>ow l y (fun vy=>match vx,vy with
  | .o (.v (.int k a)),.o (.v (.int k' b))=>match pC k k' with
   |true=>K (.o (.v (.int k (max a b)))) H nx iv w
   |false=>False
  |_,_=>False))
 | .call ⟨.builtin .min,⟨[x,y]⟩,_⟩=>ow l x (fun vx=>ow l y (fun vy=>match vx,vy with
  | .o (.v (.int k a)),.o (.v (.int k' b))=>match pC k k' with
   |true=>K (.o (.v (.int k (min a b)))) H nx iv w
   |false=>False
  |_,_=>False))
 | .call ⟨.builtin .copy,_,_⟩=>yF P B o l H nx iv w K
 | .call ⟨.builtin .clear,_,_⟩=>yF P B o l H nx iv w K
 | .call ⟨.builtin .cap,_,_⟩=>yF P B o l H nx iv w K
 | .index _ _ _=>yF P B o l H nx iv w K
 | .makeMap _ _=>yF P B o l H nx iv w K
 | .lookup _ _ _ _=>yF P B o l H nx iv w K
 | .mapUpdate _ _ _ _=>yF P B o l H nx iv w K
 | .call ⟨.value f,⟨args⟩,_⟩=>ow l f (fun vf=>JI l args (fun vs=>match vf with
   | .o (.v (.func (.func g) first caps))=>JV dr P B g (fun O=>first++nP O vs++caps) H nx iv w (fun v H' iv' w'=>K v H' nx iv' w')
   | .o (.fn g ids)=>JV dr P B g (fun O=>nP O vs++(ids.map fun id=>Value.pointer (some ⟨(O id).g,0,none⟩)).toArray) H nx iv w (fun v H' iv' w'=>K v H' nx iv' w')
   |_=>False))
 |_=>False
def BF:List Oper->Nat->Option Tmp
 |[],_=>none
 |o::_,0=>o.dst
 |_::r,n+1=>BF r n
def DZ(d:Option Tmp)(v:SV)(l:Env)(k:Env->Prop):Prop:=match d with
 |some t=>k ((t,v)::l)
 |none=>k l
def so(all:List Oper)(g:Option (Nat×Bool))(l:Env)(yes no:Env->Prop):Prop:=
 match g with
 |none=>yes l
 |some (j,want)=>match BF all j with
  |none=>no l
  |some d=>match fR l d with
   |some (.o (.v (.bool b)))=>match want with
    |true=>dB b (yes ((d,.o (.v (.bool true)))::l)) (no ((d,.o (.v (.bool false)))::l))
    |false=>dB b (no ((d,.o (.v (.bool true)))::l)) (yes ((d,.o (.v (.bool false)))::l))
   |some (.o (.v (.tuple _)))=>no l
   |_=>False
def gv(dr:Bool)(P:Program)(τ:mo)(B:Nat)(all:List Oper)(o:Oper)(l:Env)(H:Hp)(nx:Nat)(iv:Iv)(w:World)(k:Env->Hp->Nat->Iv->World->Prop):Prop:=
 so all o.guard l
  (fun l=>xu dr P τ B o l H nx iv w (fun v H' OW iv' w'=>DZ o.dst v l (fun l'=>k l' H' OW iv' w')))
  (fun l=>DZ o.dst (.o (.v undef)) l (fun l'=>k l' H nx iv w))
def Gz(P:Program)(τ:mo)(B:Nat)(all:List Oper):List Oper->Env->Hp->Nat->Iv->World->(Env->Hp->Nat->Iv->World->Prop)->Prop
 |[],l,H,nx,iv,w,K=>K l H nx iv w
 |o::r,l,H,nx,iv,w,K=>gv false P τ B all o l H nx iv w (fun l' H' OW iv' w'=>Gz P τ B all r l' H' OW iv' w' K)
inductive Ex where
 |normal
 |exit (id:Nat)
 |ret
structure Sat(n:Nat)(l:Env)(H:Hp)(nx:Nat)(iv:Iv)(B:Nat)(w:World)(O:Nat->dL)(a:Act)(w':World):Prop where
 rel:Rel H nx iv B w O w'
 size:a.tmps.size=n
 defers:a.defers=[]
 env:∀t v,fR l t=some v->a.tmps[t]? =some (v.den O)
 sc:∀t v,fR l t=some v->v.sc nx
abbrev KT:=Env->Hp->Nat->Iv->World->Prop
structure yB(P:Program)(B:Nat)(ops:Array Oper)(l:Env)(H:Hp)(nx:Nat)(iv:Iv)(w:World)(K:KT):Prop where
 h:∀n O a w',ops.toList.all (fun o=>match o.dst with
   |some d=>Nat.blt d n
   |none=>true)=true->Sat n l H nx iv B w O a w'->
  ∀Q:Exit->Act->World->Prop,(∀l' H' OW iv' w2 ρ' a' w'',K l' H' OW iv' w2->Sat n l' H' OW iv' B w2 ρ' a' w''->Q .normal a' w'')->
  ∀id,(Code.region id ops true).wp P Q a w'
structure vt where
 l:Env
 H:Hp
 nx:Nat
 iv:Iv
 w:World
def Sub(B:Nat)(l:Env)(_nx:Nat)(O:Nat->dL)(w':World)(t:vt):Prop:=
 ∃ρ',Rel t.H t.nx t.iv B t.w ρ' w'∧(∀u v,fR t.l u=some v->v.sc t.nx∧∃v0,fR l u=some v0∧v0.den O=v.den ρ')
def mW(P:Program)(τ:mo)(B:Nat):Code->Env->Hp->Nat->Iv->World->(Ex->KT)->Prop
 | .skip,l,H,nx,iv,w,Q=>Q .normal l H nx iv w
 | .region _ ops false,l,H,nx,iv,w,Q=>Gz P τ B ops.toList ops.toList l H nx iv w (Q .normal)
 | .region _ ops true,l,H,nx,iv,w,Q=>yB P B ops l H nx iv w (Q .normal)
 | .seq a b,l,H,nx,iv,w,Q=>mW P τ B a l H nx iv w (fun e l H nx iv w=>match e with
  | .normal=>mW P τ B b l H nx iv w Q
  | .exit id=>Q (.exit id) l H nx iv w
  | .ret=>Q .ret l H nx iv w)
 | .cond c a b,l,H,nx,iv,w,Q=>ow l c (fun v=>match v with
  | .o (.v (.bool t))=>dB t (mW P τ B a l H nx iv w Q) (mW P τ B b l H nx iv w Q)
  |_=>False)
 | .block id c,l,H,nx,iv,w,Q=>mW P τ B c l H nx iv w (fun e l H nx iv w=>match e with
  | .normal=>Q .normal l H nx iv w
  | .exit id'=>match Nat.beq id' id with
   |true=>Q .normal l H nx iv w
   |false=>Q (.exit id') l H nx iv w
  | .ret=>Q .ret l H nx iv w)
 | .loop c,l,H,nx,iv,w,Q=>∃(α:Type) (st:α->vt) (μ:α->Nat) (I:α->Prop),
   (∀O w',Rel H nx iv B w O w'->∃x,I x∧Sub B l nx O w' (st x))∧
   ∀x,I x->mW P τ B c (st x).l (st x).H (st x).nx (st x).iv (st x).w (fun e l H nx iv w=>match e with
    | .normal=>∀O w',Rel H nx iv B w O w'->∃y,I y∧Sub B l nx O w' (st y)∧μ y<μ x
    | .exit id=>Q (.exit id) l H nx iv w
    | .ret=>Q .ret l H nx iv w)
 | .exit id,l,H,nx,iv,w,Q=>Q (.exit id) l H nx iv w
 | .ret,l,H,nx,iv,w,Q=>Q .ret l H nx iv w
 |_,_,_,_,_,_,_=>False
structure FP(P:Program)(t:Nat)(i:TI):Prop where
 info:∃inf z,P.info? t=some inf∧inf.size=i.size∧inf.bytes=i.bytes∧inf.zero=some z∧z.cells.toList=i.zero
 Hq:i.zero.length=i.size
 aAQ:∀x∈i.zero,x.oneCell'=true
 agg:∃d,P.underlying t=some d∧(match d with| .struct _| .array _ _=>true|_=>false)=i.agg
 i1:i.tag=1->P.underlying t=some (.int i.ik)
 i2:i.tag=2->P.underlying t=some .bool
 i3:i.tag=3->P.underlying t=some .string
 i4:i.tag=4->P.underlying t=some (.slice i.elem)
 i5:i.tag=5->∃fs,P.underlying t=some (.struct fs)∧fs.toList.map (fun f=>(f.offset,f.type))=i.fields∧∀f∈fs.toList,(P.info? f.type).isSome=true
 i6:i.tag=6->P.underlying t=some (.array i.CA i.elem)
def fT(P:Program)(τ:mo):Prop:=∀t i,τ t=some i->FP P t i
theorem eC{a b:Nat}(h:Nat.beq a b=true):a=b:=bM h
theorem fW:∀{xs:List Value} {k:List At->Prop},ox xs k->k (xs.map At.v)
 |[],_,h=>h
 |x::r,k,h=>by
  have:=fW (xs:=r) (k:=fun r'=>k (.v x::r')) h;simpa using this
theorem nT:∀{cs:List At} {n:Nat} {k:List At->Prop},sj cs n k->k (cs.drop n)∧n<=cs.length
 |cs,0,k,h=>by cases cs<;>exact⟨by simpa [sj]using h,by simp⟩
 |[],n+1,k,h=>by simp[sj]at h
 |x::t,n+1,k,h=>by
  have:=nT (cs:=t) (n:=n) (k:=k) h;exact⟨by simpa using this.1,by simp;omega⟩
theorem nU:∀{cs:List At} {n:Nat} {k:List At->Prop},sk cs n k->k (cs.take n)∧n<=cs.length
 |cs,0,k,h=>by cases cs<;>exact⟨by simpa [sk]using h,by simp⟩
 |[],n+1,k,h=>by simp[sk]at h
 |x::t,n+1,k,h=>by
  have:=nU (cs:=t) (n:=n) (k:=fun r=>k (x::r)) h;exact⟨by simpa using this.1,by simp;omega⟩
theorem yJ:∀{cs new:List At} {k:List At->Prop},Ax cs new k->k (new++cs.drop new.length)∧new.length<=cs.length
 |cs,[],k,h=>by cases cs<;>exact⟨by simpa [Ax]using h,by simp⟩
 |[],x::r,k,h=>by simp[Ax]at h
 |_::t,x::r,k,h=>by
  have:=yJ (cs:=t) (new:=r) (k:=fun t'=>k (x::t')) h;exact⟨by simpa using this.1,by simp;omega⟩
theorem nV:∀{cs:List At} {off:Nat} {new:List At} {k:List At->Prop},qV cs off new k->
  k (cs.take off++new++cs.drop (off+new.length))∧off+new.length<=cs.length
 |cs,0,new,k,h=>by
  have h':Ax cs new k:=by cases cs<;>simpa [qV]using h
  have:=yJ h';exact⟨by simpa using this.1,by omega⟩
 |[],n+1,new,k,h=>by simp[qV]at h
 |x::t,n+1,new,k,h=>by
  have:=nV (cs:=t) (off:=n) (new:=new) (k:=fun t'=>k (x::t')) h;refine⟨?_,by simp;omega⟩;have h2:=this.1;rw[show n+1+new.length=(n+new.length)+1 by omega];simpa using h2
theorem one_den{x:At}(h:x.one=true)(O:Nat->dL):(x.den O).oneCell'=true:=by
 cases x with
 |v y=>cases y<;>simp_all [At.one,At.den,Value.oneCell']
 |w id n=>simp only[At.den];split<;>rfl
 |_=>rfl
theorem yK:∀{cs:List At} {k:Prop},Gt cs k->k∧∀c∈cs,At.one c=true
 |[],k,h=>⟨h,by simp⟩
 |x::r,k,h=>by
  unfold Gt at h;split at h
  ·rename_i hx;have:=yK h;exact⟨this.1,by simp[hx];exact this.2⟩
  ·exact h.elim
theorem km:∀{cs:List At} {k:List Value->Prop},wj cs k->∃vs,k vs∧cs=vs.map At.v∧∀v∈vs,v.oneCell'=true
 |[],k,h=>⟨[],h,rfl,by simp⟩
 | .v x::r,k,h=>by
  unfold wj at h;split at h
  ·rename_i hx;obtain⟨vs,h1,h2,h3⟩:=km h;exact⟨x::vs,h1,by simp[h2],by simp;exact⟨one_den hx (fun _=>⟨0,0,false⟩),h3⟩⟩
  ·exact h.elim
 | .p _ _::_,k,h=>by simp[wj]at h
 | .s _ _ _ _::_,k,h=>by simp[wj]at h
 | .w _ _::_,k,h=>by simp[wj]at h
 | .fn _ _::_,k,h=>by simp[wj]at h
theorem lk{x:SV}{k:List At->Prop}(h:xt x k):∃cs,k cs∧(∀O,(x.den O).cells=(cs.map (At.den O)).toArray)∧(∀n,x.sc n->∀c∈cs,c.sc n):=by
 cases x with
 |a cs=>exact⟨cs,h,fun O=>rfl,fun n hn=>hn⟩
 |o y=>
  cases y with
  |v z=>
   cases z with
   |agg arr=>
    obtain⟨l⟩:=arr;refine⟨_,fW h,fun O=>?_,fun n _ c hc=>?_⟩
    ·simp[SV.den,At.den,Value.cells,Function.comp_def]
    ·simp at hc;obtain⟨v,_,rfl⟩:=hc;trivial
   |tuple arr=>simp[xt]at h
   |_=>exact⟨_,h,fun O=>rfl,fun n _ c hc=>by simp at hc;subst hc;trivial⟩
  |w id n=>exact⟨_,h,fun O=>by simp only[SV.den,At.den,List.map];split<;>rfl,fun n hn c hc=>by simp at hc;subst hc;exact hn⟩
  |_=>exact⟨_,h,fun O=>rfl,fun n hn c hc=>by simp at hc;subst hc;exact hn⟩
theorem cU(t:Nat)(b:jh)(r:Hp)(u:Nat):cV ((t,b)::r) u=if t=u then some b else cV r u:=by
 show(match Nat.beq t u with|true=>some b|false=>cV r u)=_;split
 ·rename_i h;rw[if_pos (eC h)]
 ·rename_i h;rw[aI (fun e=>by subst e;rw[Nat.beq_refl]at h;cases h)]
theorem eW(t:Nat)(b:SV)(r:Env)(u:Nat):fR ((t,b)::r) u=if t=u then some b else fR r u:=by
 show(match Nat.beq t u with|true=>some b|false=>fR r u)=_;split
 ·rename_i h;rw[if_pos (eC h)]
 ·rename_i h;rw[aI (fun e=>by subst e;rw[Nat.beq_refl]at h;cases h)]
theorem q8:∀{H:Hp} {id:Nat} {b:jh} {k:Hp->Prop},FJ H id b k->∃H',k H'∧(∀j,cV H' j=if j=id then some b else cV H j)∧(cV H id).isSome=true
 |[],id,b,k,h=>by simp[FJ]at h
 |(t,v)::r,id,b,k,h=>by
  unfold FJ at h;split at h
  ·rename_i ht;have:=eC ht;subst this;refine⟨_,h,fun j=>?_,by simp[cU]⟩;simp only[cU]
   by_cases e:t=j
   ·simp[e]
   ·simp[e,Ne.symm e]
  ·rename_i ht;have OS:t≠id:=fun e=>by subst e;rw[Nat.beq_refl]at ht;cases ht
   obtain⟨H',h1,h2,h3⟩:=q8 h;refine⟨_,h1,fun j=>?_,by simp[cU,OS,h3]⟩;simp only[cU,h2]
   by_cases e:t=j
   ·subst e;simp[OS]
   ·simp[e]
theorem ry:∀{H:Hp} {id:Nat} {k:Hp->Prop},Aw H id k->∃H',k H'∧(∀j,cV H' j=if j=id then some .dead else cV H j)∧(cV H id).isSome=true
 |[],id,k,h=>by simp[Aw]at h
 |(t,v)::r,id,k,h=>by
  unfold Aw at h;split at h
  ·rename_i ht;have:=eC ht;subst this;refine⟨_,h,fun j=>?_,by simp[cU]⟩;simp only[cU]
   by_cases e:t=j
   ·simp[e]
   ·simp[e,Ne.symm e]
  ·rename_i ht;have OS:t≠id:=fun e=>by subst e;rw[Nat.beq_refl]at ht;cases ht
   obtain⟨H',h1,h2,h3⟩:=ry h;refine⟨_,h1,fun j=>?_,by simp[cU,OS,h3]⟩;simp only[cU,h2]
   by_cases e:t=j
   ·subst e;simp[OS]
   ·simp[e]
theorem At.jU{x:At}{O ρ':Nat->dL}(h:∀id,id<n->O id=ρ' id)(hx:x.sc n):x.den O=x.den ρ':=by
 cases x with
 |v y=>rfl
 |p id off=>simp only[At.den,h id hx]
 |s id off len cap=>simp only[At.den,h id hx]
 |w id len=>simp only[At.den,h id hx]
 |fn f caps=>
  simp only[At.den]
  congr 2;exact List.map_congr_left fun id Oy=>by rw[h id (hx id Oy)]
theorem SV.jU{x:SV}{O ρ':Nat->dL}(h:∀id,id<n->O id=ρ' id)(hx:x.sc n):x.den O=x.den ρ':=by
 cases x with
 |o y=>exact At.jU h hx
 |a cs=>
  simp only[SV.den]
  congr 2;exact List.map_congr_left fun c hc=>At.jU h (hx c hc)
theorem At.tD{x:At}(h:n<=m)(hx:x.sc n):x.sc m:=by
 cases x with
 |v y=>trivial
 |fn f caps=>intro id Oy;have:=hx id Oy;omega
 |_=>simp only[At.sc]at *;omega
theorem SV.tD{x:SV}(h:n<=m)(hx:x.sc n):x.sc m:=by
 cases x with
 |o y=>exact At.tD h hx
 |a cs=>exact fun c hc=>At.tD h (hx c hc)
theorem Rel.drew{H:Hp}{iv:Iv}{w:World}{O:Nat->dL}(r:Rel H nx iv B w O w'):Rel H nx iv B w O w'.drew:=
 ⟨r.os,r.tape,r.output,r.size,r.base,r.qW,r.keys,r.box,r.arr,r.vec,r.inj,r.low,r.ub,r.ji,r.JJ,r.nn⟩
def fh(O:Nat->dL)(nx:Nat)(v:dL):Nat->dL:=fun j=>if j=nx then v else O j
theorem fm{O:Nat->dL}{v:dL}:∀id,id<nx->O id=fh O nx v id:=fun id h=>by simp[fh,Nat.ne_of_lt h]
@[simp] theorem dw {O:Nat->dL} {nx:Nat} {v:dL}:fh O nx v nx=v:=by simp[fh]
def jh.fits(b:jh)(O:Nat->dL)(v:dL)(w:World):Prop:=
 match b with
 | .box t cs=>v.nil=false∧w.heap[v.g]? =some (.cells (cs.map (At.den O)).toArray t (0,0))
 | .arr t cs=>v.nil=false∧w.heap[v.g]? =some (.cells cs.toArray t (0,0))
 | .vec t size cs=>(v.nil=true∧cs=[])∨(v.nil=false∧∃spare:List Value,w.heap[v.g]? =some (.cells (cs++spare).toArray t (0,0))∧(cs++spare).length=v.cap*size∧v.cap<=maxLen)
 | .dead=>True
def jh.scopd(b:jh)(n:Nat):Prop:=match b with
 | .box _ cs=>∀x∈cs,At.sc n x
 |_=>True
theorem Rel.fits{H:Hp}{iv:Iv}{w:World}{O:Nat->dL}(r:Rel H nx iv B w O w'){b:jh}(h:cV H id=some b):b.fits O (O id) w':=by
 cases b with
 |box t cs=>exact⟨r.nn id _ h (by intros;simp) (by simp),r.box id t cs h⟩
 |arr t cs=>exact⟨r.nn id _ h (by intros;simp) (by simp),r.arr id t cs h⟩
 |vec t size cs=>exact r.vec id t size cs h
 |dead=>trivial
theorem Rel.mk'{H:Hp}{iv:Iv}{w:World}{O:Nat->dL}(os:w'.os=w.os)(tape:w'.tape=w.tape)(output:w'.output=w.output)
  (size:w.heap.size<=w'.heap.size) (base:B<=w.heap.size) (qW:∀lo hi,(lo,hi)∈iv->hi<=w.heap.size) (keys:∀id b,cV H id=some b->id<nx)
  (fits:∀id b,cV H id=some b->b.fits O (O id) w') (JJ:∀id b,cV H id=some b->b.scopd nx)
  (inj:∀id id' b b',cV H id=some b->cV H id'=some b'->b≠ .dead->b'≠ .dead->(O id).nil=false->(O id').nil=false->(O id).g=(O id').g->id=id')
  (low:∀id b,cV H id=some b->(O id).nil=false->B<=(O id).g∧(O id).g<w'.heap.size)
  (ub:∀k,k<w.heap.size->(∀id b,cV H id=some b->(O id).nil=false->(O id).g≠k)->w'.heap[k]? =w.heap[k]?)
  (ji:∀lo hi,(lo,hi)∈iv->∀id b,cV H id=some b->(O id).nil=false->¬(lo<=(O id).g∧(O id).g<hi)):Rel H nx iv B w O w' where
 os:=os
 tape:=tape
 output:=output
 size:=size
 base:=base
 qW:=qW
 keys:=keys
 box:=fun id t cs h=>(fits id _ h).2
 arr:=fun id t cs h=>(fits id _ h).2
 vec:=fun id t size cs h=>fits id _ h
 inj:=inj
 low:=low
 ub:=ub
 ji:=ji
 JJ:=fun id t cs h=>JJ id _ h
 nn:=fun id b h h1 h2=>by
  have:=fits id b h
  cases b with
  |box t cs=>exact this.1
  |arr t cs=>exact this.1
  |vec t size cs=>exact absurd rfl (h1 t size cs)
  |dead=>exact absurd rfl h2
theorem jh.gV{b:jh}{O ρ':Nat->dL}{v:dL}{w:World}(h:b.fits O v w)(hρ:∀id,id<n->O id=ρ' id)(hs:b.scopd n)
  (hw:v.nil=false->b≠ .dead->w'.heap[v.g]? =w.heap[v.g]?):b.fits ρ' v w':=by
 cases b with
 |box t cs=>
  obtain⟨h1,h2⟩:=h;refine⟨h1,?_⟩;rw[hw h1 (by simp),h2,List.map_congr_left fun c hc=>At.jU hρ (hs c hc)]
 |arr t cs=>exact⟨h.1,by rw[hw h.1 (by simp)];exact h.2⟩
 |vec t size cs=>
  rcases h with h|⟨h1,spare,h2,h3⟩
  ·exact .inl h
  ·exact .inr ⟨h1,spare,by rw[hw h1 (by simp)];exact h2,h3⟩
 |dead=>trivial
theorem jh.iV{b:jh}(h:n<=m)(hb:b.scopd n):b.scopd m:=by
 cases b with
 |box t cs=>exact fun c hc=>At.tD h (hb c hc)
 |_=>trivial
theorem Rel.scopd{H:Hp}{iv:Iv}{w:World}{O:Nat->dL}(r:Rel H nx iv B w O w'){b:jh}(h:cV H id=some b):b.scopd nx:=by
 cases b with
 |box t cs=>exact r.JJ id t cs h
 |_=>trivial
theorem Rel.push{H:Hp}{iv:Iv}{w:World}{O:Nat->dL}(r:Rel H nx iv B w O w')(b:jh)(v:dL)
  (os:w2.os=w'.os) (tape:w2.tape=w'.tape) (output:w2.output=w'.output) (size:w'.heap.size<=w2.heap.size) (old:∀k,k<w'.heap.size->w2.heap[k]? =w'.heap[k]?)
  (hv:v.nil=false->w'.heap.size<=v.g∧v.g<w2.heap.size) (hb:b.fits O v w2) (hs:b.scopd nx):Rel ((nx,b)::H) (nx+1) iv B w (fh O nx v) w2:=by
 have Ou:∀id b,cV H id=some b->id≠nx:=fun id b h=>Nat.ne_of_lt (r.keys id b h);have Pn:∀id b,cV H id=some b->fh O nx v id=O id:=fun id b h=>by simp[fh,Ou id b h]
 refine Rel.mk' (os.trans r.os) (tape.trans r.tape) (output.trans r.output) (aW r.size size) r.base r.qW ?_ ?_ ?_ ?_ ?_ ?_ ?_
 ·intro id b' h;rw[cU]at h;split at h
  ·omega
  ·have:=r.keys id b' h;omega
 ·intro id b' h;rw[cU]at h;split at h
  ·rename_i e;subst e;injection h with h;subst h;rw[dw];exact jh.gV hb fm hs (fun _ _=>rfl)
  ·rw[Pn id b' h];exact jh.gV (r.fits h) fm (r.scopd h) (fun h1 _=>old _ (r.low id b' h h1).2)
 ·intro id b' h;rw[cU]at h;split at h
  ·injection h with h;subst h;exact jh.iV (by omega) hs
  ·exact jh.iV (by omega) (r.scopd h)
 ·intro id id' b1 b2 h1 h2 d1 d2 n1 n2 e;rw[cU]at h1 h2;split at h1<;>split at h2
  ·omega
  ·rename_i e1 e2;subst e1;rw[dw]at e n1;rw[Pn id' b2 h2]at e n2;have:=(r.low id' b2 h2 n2).2;have:=(hv n1).1;omega
  ·rename_i e1 e2;subst e2;rw[dw]at e n2;rw[Pn id b1 h1]at e n1;have:=(r.low id b1 h1 n1).2;have:=(hv n2).1;omega
  ·rw[Pn id b1 h1]at e n1;rw[Pn id' b2 h2]at e n2;exact r.inj id id' b1 b2 h1 h2 d1 d2 n1 n2 e
 ·intro id b' h n1;rw[cU]at h;split at h
  ·rename_i e;subst e;rw[dw]at n1 ⊢;have:=hv n1;have:=r.base;have:=r.size;omega
  ·rw[Pn id b' h]at n1 ⊢;have:=r.low id b' h n1;omega
 ·intro k hk OS;rw[old k (by have:=r.size;omega)];refine r.ub k hk fun id b' h n1=>?_;have:=OS id b' (by rw[cU,aI (Ne.symm (Ou id b' h))];exact h) (by rw[Pn id b' h];exact n1)
  rwa [Pn id b' h]at this
 ·intro lo hi hm id b' h n1;rw[cU]at h;split at h
  ·rename_i e;subst e;rw[dw]at n1 ⊢;have:=hv n1;have:=r.qW lo hi hm;have:=r.size;omega
  ·rw[Pn id b' h]at n1 ⊢;exact r.ji lo hi hm id b' h n1
theorem Rel.store{H H':Hp}{iv:Iv}{w:World}{O:Nat->dL}(r:Rel H nx iv B w O w'){b b':jh}(Oy:cV H id=some b)(hd:b≠ .dead)(hn:(O id).nil=false)
  (hH:∀j,cV H' j=if j=id then some b' else cV H j)
  (os:w2.os=w'.os) (tape:w2.tape=w'.tape) (output:w2.output=w'.output) (size:w2.heap.size=w'.heap.size) (old:∀k,k≠(O id).g->w2.heap[k]? =w'.heap[k]?)
  (hb:b'.fits O (O id) w2) (hs:b'.scopd nx):Rel H' nx iv B w O w2:=by
 have key:∀j c,cV H' j=some c->∃c',cV H j=some c':=fun j c h=>by
  rw[hH]at h;split at h
  ·rename_i e;subst e;exact⟨b,Oy⟩
  ·exact⟨c,h⟩
 refine Rel.mk' (os.trans r.os) (tape.trans r.tape) (output.trans r.output) (by rw[size];exact r.size) r.base r.qW ?_ ?_ ?_ ?_ ?_ ?_ ?_
 ·intro j c h;obtain⟨c',h'⟩:=key j c h;exact r.keys j c' h'
 ·intro j c h;rw[hH]at h;split at h
  ·rename_i e;subst e;injection h with h;subst h;exact hb
  ·rename_i e;refine jh.gV (r.fits h) (fun _ _=>rfl) (r.scopd h) (fun h1 h2=>old _ fun e2=>e ?_);exact r.inj j id c b h Oy h2 hd h1 hn e2
 ·intro j c h;rw[hH]at h;split at h
  ·injection h with h;subst h;exact hs
  ·exact r.scopd h
 ·intro j j' c c' h1 h2 d1 d2 n1 n2 e;rw[hH]at h1 h2;have l1:∃c1,cV H j=some c1∧c1≠ .dead:=by
   split at h1
   ·rename_i e1;subst e1;exact⟨b,Oy,hd⟩
   ·exact⟨c,h1,d1⟩
  have l2:∃c1,cV H j'=some c1∧c1≠ .dead:=by
   split at h2
   ·rename_i e1;subst e1;exact⟨b,Oy,hd⟩
   ·exact⟨c',h2,d2⟩
  obtain⟨c1,g1,g2⟩:=l1;obtain⟨c2,g3,g4⟩:=l2;exact r.inj j j' c1 c2 g1 g3 g2 g4 n1 n2 e
 ·intro j c h n1;obtain⟨c',h'⟩:=key j c h;rw[size];exact r.low j c' h' n1
 ·intro k hk OS;have hkg:k≠(O id).g:=fun e=>OS id b' (by rw[hH];simp) hn e.symm;rw[old k hkg];refine r.ub k hk fun j c h n1=>?_;by_cases e:j=id
  ·subst e;exact Ne.symm hkg
  ·exact OS j c (by rw[hH,aI e];exact h) n1
 ·intro lo hi hm j c h n1;obtain⟨c',h'⟩:=key j c h;exact r.ji lo hi hm j c' h' n1
theorem Rel.JY{H H1:Hp}{iv:Iv}{w:World}{O:Nat->dL}(r:Rel H nx iv B w O w'){b0:jh}(Oy:cV H id=some b0)(hd:b0≠ .dead)
  (hH:∀j,cV H1 j=if j=id then some .dead else cV H j) (b:jh) (v:dL)
  (os:w2.os=w'.os) (tape:w2.tape=w'.tape) (output:w2.output=w'.output) (size:w'.heap.size<=w2.heap.size)
  (old:∀k,k<w'.heap.size->((O id).nil=false->k≠(O id).g)->w2.heap[k]? =w'.heap[k]?)
  (hv:v.nil=false->(w'.heap.size<=v.g∧v.g<w2.heap.size)∨((O id).nil=false∧v.g=(O id).g)) (hb:b.fits O v w2) (hs:b.scopd nx):Rel ((nx,b)::H1) (nx+1) iv B w (fh O nx v) w2:=by
 have key:∀j c,cV H1 j=some c->∃c',cV H j=some c'∧(c≠ .dead->c'=c∧j≠id):=fun j c h=>by
  rw[hH]at h;split at h
  ·rename_i e;subst e;injection h with h;exact⟨b0,Oy,fun h2=>absurd h.symm h2⟩
  ·rename_i e;exact⟨c,h,fun _=>⟨rfl,e⟩⟩
 have Ou:∀j c,cV H1 j=some c->j≠nx:=fun j c h=>by obtain⟨c',h',_⟩:=key j c h;exact Nat.ne_of_lt (r.keys j c' h')
 have Pn:∀j c,cV H1 j=some c->fh O nx v j=O j:=fun j c h=>by simp[fh,Ou j c h]
 have hidlt:=r.keys id b0 Oy;have hvlow:v.nil=false->B<=v.g∧v.g<w2.heap.size:=fun hn=>by
  rcases hv hn with h|⟨h1,h2⟩
  ·have:=r.base;have:=r.size;omega
  ·have:=r.low id b0 Oy h1;omega
 refine Rel.mk' (os.trans r.os) (tape.trans r.tape) (output.trans r.output) (aW r.size size) r.base r.qW ?_ ?_ ?_ ?_ ?_ ?_ ?_
 ·intro j b' h;rw[cU]at h;split at h
  ·omega
  ·obtain⟨c',h',_⟩:=key j b' h;have:=r.keys j c' h';omega
 ·intro j b' h;rw[cU]at h;split at h
  ·rename_i e;subst e;injection h with h;subst h;rw[dw];exact jh.gV hb fm hs (fun _ _=>rfl)
  ·rw[Pn j b' h];by_cases Rx:b'= .dead
   ·subst Rx;trivial
   ·obtain⟨c',h',h2⟩:=key j b' h;obtain⟨rfl,OS⟩:=h2 Rx;exact jh.gV (r.fits h') fm (r.scopd h') (fun h1 _=>old _ (r.low j c' h' h1).2 fun h3 e=>OS (r.inj j id c' b0 h' Oy Rx hd h1 h3 e))
 ·intro j b' h;rw[cU]at h;split at h
  ·injection h with h;subst h;exact jh.iV (by omega) hs
  ·by_cases Rx:b'= .dead
   ·subst Rx;trivial
   ·obtain⟨c',h',h2⟩:=key j b' h;obtain⟨rfl,OS⟩:=h2 Rx;exact jh.iV (by omega) (r.scopd h')
 ·have cross:∀j c,cV H1 j=some c->c≠ .dead->(O j).nil=false->v.nil=false->v.g≠(O j).g:=fun j c h dd nj nv e=>by
   obtain⟨c',h',h2⟩:=key j c h;obtain⟨rfl,OS⟩:=h2 dd;rcases hv nv with h3|⟨h3,h4⟩
   ·have:=(r.low j c' h' nj).2;omega
   ·exact OS (r.inj j id c' b0 h' Oy dd hd nj h3 (by omega))
  intro j j' b1 b2 h1 h2 d1 d2 n1 n2 e;rw[cU]at h1 h2;split at h1<;>split at h2
  ·omega
  ·rename_i e1 e2;subst e1;rw[dw]at e n1;rw[Pn j' b2 h2]at e n2;exact absurd e (cross j' b2 h2 d2 n2 n1)
  ·rename_i e1 e2;subst e2;rw[dw]at e n2;rw[Pn j b1 h1]at e n1;exact absurd e.symm (cross j b1 h1 d1 n1 n2)
  ·rw[Pn j b1 h1]at e n1;rw[Pn j' b2 h2]at e n2;obtain⟨c1,g1,k1⟩:=key j b1 h1;obtain⟨c2,g2,k2⟩:=key j' b2 h2;obtain⟨rfl,_⟩:=k1 d1;obtain⟨rfl,_⟩:=k2 d2;exact r.inj j j' c1 c2 g1 g2 d1 d2 n1 n2 e
 ·intro j b' h n1;rw[cU]at h;split at h
  ·rename_i e;subst e;rw[dw]at n1 ⊢;exact hvlow n1
  ·rw[Pn j b' h]at n1 ⊢;obtain⟨c',h',_⟩:=key j b' h;have:=r.low j c' h' n1;omega
 ·intro k hk OS;have Tn:∀j c,cV H j=some c->(O j).nil=false->(O j).g≠k:=fun j c h nj=>by
   have hj:cV H1 j=some (if j=id then .dead else c):=by rw[hH];split<;>simp[h]
   have:=OS j _ (by rw[cU,aI (Ne.symm (Ou j _ hj))];exact hj) (by rw[Pn j _ hj];exact nj)
   rwa [Pn j _ hj]at this
  rw[old k (by have:=r.size;omega) (fun h e=>Tn id b0 Oy h e.symm)];exact r.ub k hk Tn
 ·intro lo hi hm j b' h n1;rw[cU]at h;split at h
  ·rename_i e;subst e;rw[dw]at n1 ⊢;rcases hv n1 with h3|⟨h3,h4⟩
   ·have:=r.qW lo hi hm;have:=r.size;omega
   ·rw[h4];exact r.ji lo hi hm id b0 Oy h3
  ·rw[Pn j b' h]at n1 ⊢;obtain⟨c',h',_⟩:=key j b' h;exact r.ji lo hi hm j c' h' n1
section
variable{P:Program}{τ:mo}{B n nx:Nat}{l:Env}{H:Hp}{iv:Iv}{w w':World}{O:Nat->dL}{a:Act}
theorem tE(sat:Sat n l H nx iv B w O a w'){x:Operand}{v:SV}(h:ev l x=some v):a.eval x=v.den O∧v.sc nx:=by
 cases x with
 |tmp t=>
  have h1:=sat.env t v h;exact⟨by simp[Act.eval,h1],sat.sc t v h⟩
 |const c=>simp[ev]at h;subst h;exact⟨rfl,trivial⟩
 |global g=>simp[ev]at h;subst h;exact⟨rfl,trivial⟩
 |func f=>simp[ev]at h;subst h;exact⟨rfl,trivial⟩
theorem dF(sat:Sat n l H nx iv B w O a w'){x:Operand}{k:SV->Prop}(h:ow l x k):∃v,k v∧a.eval x=v.den O∧v.sc nx:=by
 unfold ow at h;split at h
 ·rename_i v hv;exact⟨v,h,tE sat hv⟩
 ·exact h.elim
theorem qY(sat:Sat n l H nx iv B w O a w'):∀{xs:List Operand} {k:List SV->Prop},JI l xs k->∃vs,k vs∧xs.map a.eval=vs.map (SV.den O)∧∀v∈vs,SV.sc nx v
 |[],k,h=>⟨[],h,rfl,by simp⟩
 |x::r,k,h=>by
  unfold JI at h;split at h
  ·rename_i v hv;obtain⟨vs,h1,h2,h3⟩:=qY sat (xs:=r) h;have:=tE sat hv;exact⟨v::vs,h1,by simp[this.1,h2],by simp;exact⟨this.2,h3⟩⟩
  ·exact h.elim
theorem mV{o:Oper}{a:Act}{w:World}{v:Value}(h:(execOp a.eval o).run P w= .ok (.value v) w2)(hk:next (a.put o.dst v) w2):o.wp P a w next Q:=by
 unfold Oper.wp;rw[h];exact hk
theorem JZ{o:Oper}{a:Act}{w:World}(h:(execOp a.eval o).run P w= .ok .skip w2)(hk:next (a.put o.dst undef) w2):o.wp P a w next Q:=by
 unfold Oper.wp;rw[h];exact hk
theorem ll{s:Sem Value}{w:World}{v:Value}(h:s.run P w= .ok v w2):((do pure (.value (<-s))):Sem Next).run P w= .ok (.value v) w2:=by
 simp[h]
theorem FP.isAgg{t:Nat}{i:TI}(h:FP P t i)(w:World):(isAgg t).run P w= .ok i.agg w:=by
 obtain⟨d,h1,h2⟩:=h.agg;unfold Go.isAgg;rw[Sem.run_bind,run_underlying h1 w,<-h2]
 cases d<;>rfl
theorem FP.sizeOf{t:Nat}{i:TI}(h:FP P t i)(w:World):(sizeOf t).run P w= .ok i.size w:=by
 obtain⟨inf,z,h1,h2,_⟩:=h.info;simp[Go.sizeOf,typeInfo,h1,h2]
theorem FP.zeroV{t:Nat}{i:TI}(h:FP P t i)(w:World):∃z,(zeroValue t).run P w= .ok z w∧z.cells.toList=i.zero:=by
 obtain⟨inf,z,h1,h2,_,h4,h5⟩:=h.info;exact⟨z,by simp[zeroValue,typeInfo,h1,h4],h5⟩
theorem k9{t:Nat}{i:TI}(ht:FP P t i)(hagg:i.agg=false){w:World}{x:Value}(hc:w.cell? ad=some x):
  (Instr.loadAt t (.pointer (some ad))).run P w= .ok x w:=by
 simp[Instr.loadAt,Instr.sureAddr,loadVar,ht.isAgg,hagg,hc]
theorem j7{t:Nat}{i:TI}(ht:FP P t i)(hagg:i.agg=true){w:World}(hl:xs.length=i.size)(hc:∀j v,xs[j]? =some v->w.cell? (ad.add j)=some v):
  (Instr.loadAt t (.pointer (some ad))).run P w= .ok (.agg xs.toArray) w:=by
 have:=run_loadCells_list (P:=P) w ad xs hc;rw[hl]at this;simp[Instr.loadAt,Instr.sureAddr,loadVar,ht.isAgg,hagg,ht.sizeOf,this]
theorem dA(g off j:Nat):(⟨g,off,none⟩:Addr).add j=⟨g,off+j,none⟩:=by
 unfold Addr.add;split<;>simp_all
theorem ui:∀{cs:List At} {i:Nat},CE cs i=cs[i]?
 |[],i=>by simp[CE]
 |x::r,0=>by simp[CE]
 |x::r,i+1=>by simp[CE,ui (cs:=r)]
theorem BG:∀{cs:List Value} {i:Nat},Hs cs i=cs[i]?
 |[],i=>by simp[Hs]
 |x::r,0=>by simp[Hs]
 |x::r,i+1=>by simp[Hs,BG (cs:=r)]
theorem BH:∀{cs:List (Nat×Nat)} {i:Nat},Hu cs i=cs[i]?
 |[],i=>by simp[Hu]
 |x::r,0=>by simp[Hu]
 |x::r,i+1=>by simp[Hu,BH (cs:=r)]
theorem cell_of{w:World}{g t:Nat}(h:w.heap[g]? =some (.cells cs.toArray t (0,0))):w.cell? ⟨g,off,none⟩=cs[off]? :=by
 rw[cell_of_row w g off _ t (0,0) h];simp
theorem fU{O:Nat->dL}:(xs.map At.v).map (At.den O)=xs:=by
 simp[Function.comp_def,At.den]
theorem nW(hτ:fT P τ)(rel0:Rel H nx iv B w O w'){t:Nat}{addr:SV}(hs:addr.sc nx){K:SV->Prop}(h:BE τ B t addr H nx iv w K):
  ∃r,K r∧r.sc nx∧∀w',Rel H nx iv B w O w'->(Instr.loadAt t (addr.den O)).run P w'= .ok (r.den O) w':=by
 unfold BE at h;split at h
 ·exact h.elim
 ·rename_i sz ag by_ ze tag ik e al fs QX;have ht:=hτ t _ QX;split at h
  ·rename_i id off;split at h
   ·rename_i bt cs hH;split at h
    ·split at h
     ·rename_i x hx;rw[ui]at hx;refine⟨_,h,rel0.JJ id bt cs hH x (aE hx),fun w' rel=>?_⟩;have hb:=rel.box id bt cs hH;exact k9 ht rfl (by rw[cell_of hb];simp[hx,SV.den])
     ·exact h.elim
    ·have h1:=nT h;have h2:=nU h1.1;refine⟨_,h2.1,fun c hc=>rel0.JJ id bt cs hH c (List.mem_of_mem_drop (bS hc)),fun w' rel=>?_⟩;have hb:=rel.box id bt cs hH;refine j7 ht rfl (xs:=((cs.drop off).take sz).map (At.den O)) ?_ fun j v hv=>?_
     ·have:=h2.2;simp only[aL,aZ];omega
     ·rw[dA,cell_of hb];simp only[aM,List.getElem?_take,List.getElem?_drop]at hv ⊢;split at hv
      ·exact hv
      ·simp at hv
   ·rename_i bt cs hH;split at h
    ·obtain⟨x,hx,h⟩:=h;exact⟨_,h,trivial,fun w' rel=>k9 ht rfl (by rw[cell_of (rel.arr id bt cs hH),hx];rfl)⟩
    ·obtain⟨xs,hx,hl,h⟩:=h;refine⟨_,fW h,fun c hc=>by simp at hc;obtain⟨v,_,rfl⟩:=hc;trivial,fun w' rel=>?_⟩;have hb:=rel.arr id bt cs hH;simp only[SV.den,fU]
     refine j7 ht rfl hl fun j v hv=>?_;rw[dA,cell_of hb];rw[<-hx]at hv;simp only[List.getElem?_take,List.getElem?_drop]at hv;split at hv
     ·exact hv
     ·simp at hv
   ·rename_i bt ez cs hH;split at h
    ·obtain⟨x,hx,h⟩:=h;refine⟨_,h,trivial,fun w' rel=>?_⟩;have hb:=rel.vec id bt ez cs hH;rcases hb with⟨_,rfl⟩|⟨hn,spare,hb,_⟩
     ·simp at hx
     ·refine k9 ht rfl ?_;rw[cell_of hb];have:off<cs.length:=(aD.1 hx).1;rw[aJ this,hx];rfl
    ·obtain⟨xs,hx,hl,h⟩:=h;refine⟨_,fW h,fun c hc=>by simp at hc;obtain⟨v,_,rfl⟩:=hc;trivial,fun w' rel=>?_⟩;have hb:=rel.vec id bt ez cs hH;simp only[SV.den,fU]
     rcases hb with⟨_,rfl⟩|⟨hn,spare,hb,_⟩
     ·have:xs=[]:=by rw[<-hx];simp
      subst this;refine j7 ht rfl hl fun j v hv=>by simp at hv
     ·refine j7 ht rfl hl fun j v hv=>?_;rw[dA,cell_of hb];rw[<-hx]at hv;simp only[List.getElem?_take,List.getElem?_drop]at hv;split at hv
      ·rw[aJ (aD.1 hv).1];exact hv
      ·simp at hv
   ·exact h.elim
  ·rename_i ad;split at h
   ·obtain⟨x,hx,h⟩:=h;exact⟨_,h,trivial,fun w' rel=>k9 ht rfl (hx O w' rel)⟩
   ·obtain⟨xs,hl,hx,h⟩:=h;refine⟨_,fW h,fun c hc=>by simp at hc;obtain⟨v,_,rfl⟩:=hc;trivial,fun w' rel=>?_⟩;simp only[SV.den,fU]
    exact j7 ht rfl hl fun j v hv=>hx O w' rel j v hv
  ·exact h.elim
theorem mX{t:Nat}{i:TI}(ht:FP P t i){w:World}{g bt:Nat}(hb:w.heap[g]? =some (.cells old.toArray bt (0,0))){v:Value}
  (hv:v.cells=new.toArray) (hl:new.length=i.size) (h1:∀x∈new,x.oneCell'=true) (QB:off+new.length<=old.length):
  (Instr.storeAt t (.pointer (some ⟨g,off,none⟩)) v).run P w= .ok () (w.setRow g (old.take off++new++old.drop (off+new.length)).toArray):=by
 have:=run_storeCells_at (P:=P) g off bt new 0 old.toArray w hb (by simpa using QB) h1;simp only[bj]at this;simp[Instr.storeAt,Instr.sureAddr,storeVar,ht.sizeOf,hv,hl,this]
theorem kD:∀(vs:List Value) (w:World) (b off:Nat),setCells w ⟨b,off,none⟩ vs=w.setCells b off vs
 |[],_,_,_=>rfl
 |x::r,w,b,off=>by
  simp only[setCells,World.setCells,dA]
  exact kD r _ b (off+1)
theorem vv(hτ:fT P τ)(sat:Sat n l H nx iv B w O a w'){t:Nat}{addr x:SV}(hs:addr.sc nx)(hx:x.sc nx){K:Hp->World->Prop}(h:CF τ B t addr x H nx iv w K):
  ∃H' w2 w3,K H' w2∧Rel H' nx iv B w2 O w3∧(Instr.storeAt t (addr.den O) (x.den O)).run P w'= .ok () w3:=by
 unfold CF at h;split at h
 ·exact h.elim
 rename_i sz ag by_ ze tag ik e al fs QX;have ht:=hτ t _ QX;have rel:=sat.rel;have h0:=lk h;clear h;obtain⟨new,h00,PH,Re⟩:=h0;have h0:=yK h00;clear h00;obtain⟨h,PI⟩:=h0;split at h
 ·exact h.elim
 rename_i hlen;have hlen:=eC hlen;have Oz:=PH O;have Re:=Re nx hx;have h1:∀v∈new.map (At.den O),v.oneCell'=true:=by
  intro v hv;simp at hv;obtain⟨c,hc,rfl⟩:=hv;exact one_den (PI c hc) O
 have PN:(new.map (At.den O)).length=sz:=by simpa using hlen
 split at h
 ·rename_i id off;split at h
  ·rename_i bt cs hH;have hb:=rel.box id bt cs hH;obtain⟨hr,QB⟩:=nV h;obtain⟨H',hK,hH',_⟩:=q8 hr;refine⟨H',w,_,hK,?_,mX ht (old:=cs.map (At.den O)) hb Oz PN h1 (by simp;omega)⟩;refine rel.store hH (by simp) (rel.nn id _ hH (by intros;simp) (by simp)) hH' rfl rfl rfl (by simp) (fun k hk=>setRow_other _ _ _ _ hk) ⟨rel.nn id _ hH (by intros;simp) (by simp),?_⟩ ?_
   ·rw[setRow_heap _ _ _ _ _ _ hb];simp[List.map_drop,List.map_take]
   ·intro c hc;simp only[List.mem_append]at hc;rcases hc with(hc|hc)|hc
    ·exact rel.JJ id bt cs hH c (bS hc)
    ·exact Re c hc
    ·exact rel.JJ id bt cs hH c (List.mem_of_mem_drop hc)
  ·rename_i bt cs hH;have hb:=rel.arr id bt cs hH;obtain⟨nv,hr,TX,Ts⟩:=km h;obtain⟨QB,cs',UT,hr⟩:=hr;obtain⟨H',hK,hH',_⟩:=q8 hr;have RS:nv.length=sz:=by rw[TX]at hlen;simpa using hlen
   have QE:(x.den O).cells=nv.toArray:=by rw[Oz,TX,fU]
   refine⟨H',w,_,hK,?_,mX ht hb QE RS Ts (by omega)⟩;refine rel.store hH (by simp) (rel.nn id _ hH (by intros;simp) (by simp)) hH' rfl rfl rfl (by simp) (fun k hk=>setRow_other _ _ _ _ hk) ⟨rel.nn id _ hH (by intros;simp) (by simp),?_⟩ trivial;rw[setRow_heap _ _ _ _ _ _ hb,RS,UT]
  ·rename_i bt ez cs hH;have hb:=rel.vec id bt ez cs hH;obtain⟨nv,hr,TX,Ts⟩:=km h;obtain⟨QB,cs',UT,hr⟩:=hr;obtain⟨H',hK,hH',_⟩:=q8 hr;have RS:nv.length=sz:=by rw[TX]at hlen;simpa using hlen
   have QE:(x.den O).cells=nv.toArray:=by rw[Oz,TX,fU]
   rcases hb with⟨Oe,rfl⟩|⟨hn,spare,hb,SI,QF⟩
   ·
    have h0:sz=0:=by simp at QB;omega
    have hnv0:nv=[]:=by cases nv with|nil=>rfl|cons _ _=>simp at RS;omega
    subst hnv0;have:cs'=[]:=by rw[<-UT];simp
    subst this;refine⟨H',w,w',hK,?_,?_⟩
    ·have WI:∀j,cV H' j=cV H j:=fun j=>by rw[hH'];split<;>simp_all
     exact Rel.mk' rel.os rel.tape rel.output rel.size rel.base rel.qW (fun id b h=>rel.keys id b (by rw[<-WI];exact h)) (fun id b h=>rel.fits (by rw[<-WI];exact h)) (fun id b h=>rel.scopd (by rw[<-WI];exact h))
      (fun i j b b' h1 h2=>rel.inj i j b b' (by rw[<-WI];exact h1) (by rw[<-WI];exact h2)) (fun id b h=>rel.low id b (by rw[<-WI];exact h))
      (fun k hk OS=>rel.ub k hk fun id b h=>OS id b (by rw[WI];exact h)) (fun lo hi hm id b h=>rel.ji lo hi hm id b (by rw[<-WI];exact h))
    ·subst h0;show(Instr.storeAt t (.pointer (some ⟨(O id).g,off,none⟩)) (x.den O)).run P w'=_;generalize x.den O=xv at QE ⊢;simp[Instr.storeAt,Instr.sureAddr,storeVar,ht.sizeOf,QE,storeCells]
   ·refine⟨H',w,_,hK,?_,mX ht hb QE RS Ts (by simp;omega)⟩;refine rel.store hH (by simp) hn hH' rfl rfl rfl (by simp) (fun k hk=>setRow_other _ _ _ _ hk) (.inr ⟨hn,spare,?_,?_,QF⟩) trivial
    ·rw[setRow_heap _ _ _ _ _ _ hb,<-UT,RS];congr 2;rw[List.take_append_of_le_length (by omega),List.drop_append_of_le_length (by omega)];simp
    ·rw[<-SI,<-UT];simp;omega
  ·exact h.elim
 ·rename_i ad;obtain⟨nv,hr,TX,Ts⟩:=km h;obtain⟨WJ,OV,OS,hK⟩:=hr O w' rel;have RS:nv.length=sz:=by rw[TX]at hlen;simpa using hlen
  have QE:(x.den O).cells=nv.toArray:=by rw[Oz,TX,fU]
  obtain⟨b,off,spot⟩:=ad;simp only at WJ OS;subst WJ;have QA:=run_storeCells_cells (P:=P) b off nv 0 w' (fun j hj=>by have:=(OV j (by omega)).1;rwa [dA]at this) (fun j hj=>by have:=(OV j (by omega)).2;rwa [dA]at this) Ts;have QY:∀k,k≠b->(w'.setCells b off nv).heap[k]? =w'.heap[k]? :=by
   intro k hk;clear QA OV h hr hK TX Ts QE RS
   induction nv generalizing w' off with
   |nil=>rfl
   |cons v r ih=>
    simp only[World.setCells]
    rw[show (∀(w0:World) (o:Nat),(w0.setCells b o r).heap[k]? =w0.heap[k]?)from ?_]
    ·simp[World.setCell,Array.getElem?_modify,Ne.symm hk]
    ·clear ih;intro w0 o
     induction r generalizing w0 o with
     |nil=>rfl
     |cons v r ih=>simp only[World.setCells];rw[ih];simp[World.setCell,Array.getElem?_modify,Ne.symm hk]
  have hfrm:(w'.setCells b off nv).os=w'.os∧(w'.setCells b off nv).tape=w'.tape∧(w'.setCells b off nv).output=w'.output∧(w'.setCells b off nv).heap.size=w'.heap.size:=by
   have:∀(vs:List Value) (w0:World) (o:Nat),(w0.setCells b o vs).os=w0.os∧(w0.setCells b o vs).tape=w0.tape∧(w0.setCells b o vs).output=w0.output∧(w0.setCells b o vs).heap.size=w0.heap.size:=by
    intro vs
    induction vs with
    |nil=>intro w0 o;exact⟨rfl,rfl,rfl,rfl⟩
    |cons v r ih=>intro w0 o;simp only[World.setCells];obtain⟨h1,h2,h3,h4⟩:=ih (w0.setCell ⟨b,o,none⟩ v) (o+1);exact⟨h1,h2,h3,by rw[h4];simp⟩
   exact this nv w' off
  refine⟨H,_,w'.setCells b off nv,hK _ rfl,?_,?_⟩
  ·rw[kD];refine Rel.mk' rfl rfl rfl (Nat.le_refl _) (by rw[hfrm.2.2.2];have:=rel.base;have:=rel.size;omega) (fun lo hi hm=>by rw[hfrm.2.2.2];have:=rel.qW lo hi hm;have:=rel.size;omega) rel.keys
    (fun id b' h=>jh.gV (rel.fits h) (fun _ _=>rfl) (rel.scopd h) (fun Oe _=>QY _ (OS id b' h Oe))) (fun id b' h=>rel.scopd h) rel.inj (fun id b' h Oe=>by rw[hfrm.2.2.2];exact rel.low id b' h Oe) (fun _ _ _=>rfl) rel.ji
  ·show(Instr.storeAt t (.pointer (some ⟨b,off,none⟩)) (x.den O)).run P w'=_;generalize x.den O=xv at QE ⊢;simp at QA;simp[Instr.storeAt,Instr.sureAddr,storeVar,ht.sizeOf,QE,RS,QA]
 ·exact h.elim
end
theorem FW(new:List Value):∀(k off:Nat) (cs:Array Value),off+k+new.length<=cs.size->
  ((new.zipIdx k).foldl (fun cs (c,j)=>cs.setIfInBounds (off+j) c) cs).toList=cs.toList.take (off+k)++new++cs.toList.drop (off+k+new.length):=by
 induction new with
 |nil=>intro k off cs _;simp
 |cons x r ih=>
  intro k off cs h;simp only[List.length_cons]at h;rw[List.zipIdx_cons,List.foldl_cons,ih (k+1) off _ (by simp;omega)];have h2:=list_seg_step cs.toList (off+k) x r (by simp;omega);simp only[Array.toList_setIfInBounds,List.length_cons]at h2 ⊢;rw[show off+(k+1)=off+k+1 by omega];exact h2
theorem Hz{i:Nat}{v:Value}(hp:place i=some (off,size))
  (hv:v.cells=new.toArray) (hl:new.length=size) (QB:off+new.length<=cells.size):
  Instr.fill place cells ((i,v)::rest)=Instr.fill place (cells.toList.take off++new++cells.toList.drop (off+new.length)).toArray rest:=by
 have h:=FW new 0 off cells (by omega);have e:(v.cells.zipIdx.foldl (fun cs (x:Value×Nat)=>cs.setIfInBounds (off+x.2) x.1) cells)=(cells.toList.take off++new++cells.toList.drop (off+new.length)).toArray:=by
  rw[hv,<-Array.foldl_toList];apply Array.ext';simpa using h
 conv=>lhs;unfold Instr.fill
 simp only[hp,hv,List.size_toArray,hl]
 rw[aI (by simp;omega)];rw[hv]at e;rw[<-hl,<-e]
section
variable{P:Program}{τ:mo}{B n nx:Nat}{l:Env}{H:Hp}{iv:Iv}{w w':World}{O:Nat->dL}{a:Act}
theorem kE(sat:Sat n l H nx iv B w O a w'){place:Nat->(Nat->Nat->Prop)->Prop}{placeF:Nat->Option (Nat×Nat)}
  (hp:∀i k,place i k->∃off size,k off size∧placeF i=some (off,size)):∀{parts:List (Nat×Operand)} {cs:List At} {k:List At->Prop},
  uh l place parts cs k->(∀c∈cs,At.sc nx c)->∃cs',k cs'∧(∀c∈cs',At.sc nx c)∧cs'.length=cs.length∧
   Instr.fill placeF (cs.map (At.den O)).toArray (parts.map fun p=>(p.1,a.eval p.2))=some (cs'.map (At.den O)).toArray
 |[],cs,k,h,hs=>⟨cs,h,hs,rfl,by simp[Instr.fill]⟩
 |(i,x)::r,cs,k,h,hs=>by
  unfold uh at h;obtain⟨off,size,h1,Ph⟩:=hp i _ h;obtain⟨v,h2,hv,Qw⟩:=dF sat h1;obtain⟨new,h3,PH,Re⟩:=lk h2;split at h3
  ·rename_i hlen;have hlen:=eC hlen;obtain⟨h4,QB⟩:=nV h3
   obtain⟨cs',h5,h6,h7,h8⟩:=kE sat hp h4 (by
    intro c hc;simp only[List.mem_append]at hc;rcases hc with(hc|hc)|hc
    ·exact hs c (bS hc)
    ·exact Re nx Qw c hc
    ·exact hs c (List.mem_of_mem_drop hc))
   refine⟨cs',h5,h6,by rw[h7];simp;omega,?_⟩;have hc:=PH O;rw[List.map_cons,Hz (new:=new.map (At.den O)) Ph (by show(a.eval x).cells=_;rw[hv];exact hc) (by simpa using hlen) (by simpa using QB),<-h8];simp[List.map_drop,List.map_take]
  ·exact h3.elim
theorem mY(hτ:fT P τ){f:Nat}{k:Nat->Nat->Bool->Prop}(h:pD τ fs f k):
  ∃off ft fi,k off fi.size fi.agg∧fs[f]? =some (off,ft)∧FP P ft fi∧fi.size≠0:=by
 unfold pD at h;split at h
 ·rename_i off ft hf;rw[BH]at hf;split at h
  ·rename_i sz ag by_ ze tag ik e al fs' QX;split at h
   ·exact h.elim
   ·rename_i Oj;exact⟨off,ft,_,h,hf,hτ ft _ QX,fun e=>by simp at e;subst e;simp at Oj⟩
  ·exact h.elim
 ·exact h.elim
theorem yL{t:Nat}{i:TI}(h:FP P t i)(h5:i.tag=5){f ft:Nat}(hf:i.fields[f]? =some (off,ft)):
  ∃fs fd,P.underlying t=some (.struct fs)∧fs[f]? =some fd∧fd.offset=off∧fd.type=ft:=by
 obtain⟨fs,h1,h2,_⟩:=h.i5 h5;rw[<-h2]at hf;simp only[aM,Option.map_eq_some_iff]at hf;obtain⟨fd,QV,he⟩:=hf;injection he with e1 e2;exact⟨fs,fd,h1,by simpa using QV,e1,e2⟩
theorem D8{t:Nat}{i:TI}(h:FP P t i)(h5:i.tag=5){f ft:Nat}{fi:TI}(hf:i.fields[f]? =some (off,ft))(TC:FP P ft fi)(Oj:fi.size≠0)(ad:Addr)(w:World):
  (Instr.fieldAt t (.pointer (some ad)) f).run P w= .ok (.pointer (some (ad.add off))) w:=by
 obtain⟨fs,fd,h1,h2,rfl,rfl⟩:=yL h h5 hf;simp[Instr.fieldAt,run_underlying h1,h2,Instr.sureAddr,fieldPlace,TC.sizeOf,Oj]
theorem tF{x:SV}{K:SV->Prop}(h:xY x m K)(hx:x.sc nx):∃r ad,K r∧r.sc nx∧x.den O= .pointer (some ad)∧r.den O= .pointer (some (ad.add m)):=by
 unfold xY at h;split at h
 ·rename_i id off;exact⟨_,⟨(O id).g,off,none⟩,h,hx,rfl,by simp[SV.den,At.den,dA]⟩
 ·rename_i ad;exact⟨_,ad,h,trivial,rfl,rfl⟩
 ·exact h.elim
theorem uj(rel:Rel H nx iv B w O w'){K:Prop}(h:Hw H id m K):K∧((O id).nil=true->m=0):=by
 unfold Hw at h;split at h
 ·rename_i t sz cs hH;split at h
  ·exact h.elim
  ·rename_i k;refine⟨h.2,fun hn=>?_⟩;have h1:=h.1;rcases rel.vec id t (k+1) cs hH with⟨_,rfl⟩|⟨h2,_⟩
   ·have h4:m*(k+1)=0:=by simpa using h1.symm
    rcases Nat.mul_eq_zero.1 h4 with h5|h5
    ·exact h5
    ·omega
   ·rw[hn]at h2;cases h2
 ·exact h.elim
theorem IA(hτ:fT P τ){t ty:Nat}{x:SV}(h:NH τ H t x K)(rel:Rel H nx iv B w O w'):
  ∃r,K r∧∀w',(Builtin.len_ #[t] ty #[x.den O]).run P w'= .ok (.int .i64 r) w':=by
 unfold NH at h;split at h
 ·exact h.elim
 rename_i sz ag by_ ze tag ik e al fs QX;have ht:=hτ t _ QX;split at h
 ·rename_i On;have hu:=ht.i4 (eC On);split at h
  ·exact⟨_,h,fun w'=>by simp[Builtin.len_,run_underlying hu,SV.den,At.den,goInt]⟩
  ·exact⟨_,h,fun w'=>by simp[Builtin.len_,run_underlying hu,SV.den,At.den,goInt]⟩
  ·rename_i id m;have h1:=uj rel h;refine⟨_,h1.1,fun w'=>?_⟩
   cases hn:(O id).nil
   ·simp[Builtin.len_,run_underlying hu,SV.den,At.den,goInt,hn]
   ·have:=h1.2 hn;subst this;simp[Builtin.len_,run_underlying hu,SV.den,At.den,goInt,hn]
  ·exact h.elim
 ·split at h
  ·rename_i On;have hu:=ht.i3 (eC On);split at h
   ·exact⟨_,h,fun w'=>by simp[Builtin.len_,run_underlying hu,SV.den,At.den,goInt]⟩
   ·exact h.elim
  ·split at h
   ·rename_i On;have hu:=ht.i6 (eC On);exact⟨_,h,fun w'=>by simp[Builtin.len_,run_underlying hu,goInt]⟩
   ·exact h.elim
theorem D9(hτ:fT P τ){t:Nat}{x i:SV}{K:SV->Prop}(h:FQ τ H t x i K)(hx:x.sc nx)(rel:Rel H nx iv B w O w'):
  ∃r,K r∧r.sc nx∧∀w',(Instr.indexAt t (x.den O) (i.den O)).run P w'= .ok (r.den O) w':=by
 unfold FQ at h;split at h
 ·rename_i kd i;split at h
  ·rename_i sz ag by_ ze tag ik e al fs QX;have ht:=hτ t _ QX;split at h
   ·rename_i sz' ag' by' ze' tag' ik' e' al' fs' PU
    have PU:=hτ e _ PU;split at h
    ·rename_i On;have hu:=ht.i4 (eC On);simp only at hu;split at h
     ·rename_i id off m c;obtain⟨hb,h⟩:=h;exact⟨_,h,hx,fun w'=>by simp[Instr.indexAt,run_underlying hu,asIntOf,SV.den,At.den,hb,PU.sizeOf,dA]⟩
     ·rename_i id m;obtain⟨⟨hb,h1⟩,h2⟩:=uj rel h;refine⟨_,h1,hx,fun w'=>?_⟩
      cases hn:(O id).nil
      ·simp[Instr.indexAt,run_underlying hu,asIntOf,SV.den,At.den,hb,PU.sizeOf,dA,hn]
      ·have:=h2 hn;omega
     ·rename_i a0 m c;obtain⟨ad,rfl,hb,h⟩:=h;exact⟨_,h,trivial,fun w'=>by simp[Instr.indexAt,run_underlying hu,asIntOf,SV.den,At.den,hb,PU.sizeOf]⟩
     ·exact h.elim
    ·split at h
     ·rename_i On;have hu:=ht.i6 (eC On);simp only at hu;obtain⟨hb,h⟩:=h;obtain⟨r,ad,h1,h2,h3,h4⟩:=tF (O:=O) h hx;refine⟨r,h1,h2,fun w'=>?_⟩;rw[h3,h4];simp[Instr.indexAt,run_underlying hu,asIntOf,SV.den,At.den,Instr.sureAddr,hb,PU.sizeOf]
     ·exact h.elim
   ·exact h.elim
  ·exact h.elim
 ·exact h.elim
theorem ku(sat:Sat n l H nx iv B w O a w'){x:Option Operand}{d:Int}(h:Lj l x d K):∃i,K i∧((x=none∧i=d)∨∃o k,x=some o∧a.eval o= .int k i):=by
 unfold Lj at h;split at h
 ·exact⟨d,h,.inl ⟨rfl,rfl⟩⟩
 ·obtain⟨v,h1,h2,h3⟩:=dF sat h;clear h3;split at h1
  ·rename_i k i;exact⟨i,h1,.inr ⟨_,k,rfl,h2⟩⟩
  ·exact h1.elim
theorem nX{len cap:Nat}{i j:Int}(SS:(lo=none∧i=0)∨∃o k,lo=some o∧a.eval o= .int k i)(Tt:(hi=none∧j=len)∨∃o k,hi=some o∧a.eval o= .int k j)
  (h0:0<=i) (h1:i<=j) (h2:j<=cap):(Instr.sliceBounds true len cap (lo.map a.eval) (hi.map a.eval) none).run P w'= .ok (i.toNat,j.toNat,cap) w':=by
 rcases SS with⟨rfl,rfl⟩|⟨o,k,rfl,ho⟩<;>rcases Tt with⟨rfl,rfl⟩|⟨o',k',rfl,Rt⟩
 ·simp[Instr.sliceBounds]
 ·have h1':0<=j:=by omega
  simp[Instr.sliceBounds,Instr.sliceBound,Rt,asIntOf,h1',h2]
 ·have:i<=(len:Int):=h1;simp[Instr.sliceBounds,Instr.sliceBound,ho,asIntOf,h0,this]
 ·have h1':0<=j:=by omega
  have h3:i<=((j.toNat:Nat):Int):=by omega
  have h3':i<=max j 0:=by omega
  simp[Instr.sliceBounds,Instr.sliceBound,ho,Rt,asIntOf,h1',h2,h0,h3']
theorem Da{len cap:Nat}{i j:Int}(SS:(lo=none∧i=0)∨∃o k,lo=some o∧a.eval o= .int k i)(Tt:(hi=none∧j=len)∨∃o k,hi=some o∧a.eval o= .int k j)
  (h0:0<=i) (h1:i<=j) (h2:j<=cap):(Instr.sliceBounds false len cap (lo.map a.eval) (hi.map a.eval) none).run P w'= .ok (i.toNat,j.toNat,cap) w':=by
 rcases SS with⟨rfl,rfl⟩|⟨o,k,rfl,ho⟩<;>rcases Tt with⟨rfl,rfl⟩|⟨o',k',rfl,Rt⟩
 ·simp[Instr.sliceBounds]
 ·have h1':0<=j:=by omega
  simp[Instr.sliceBounds,Instr.sliceBound,Rt,asIntOf,h1',h2]
 ·have:i<=(len:Int):=h1;simp[Instr.sliceBounds,Instr.sliceBound,ho,asIntOf,h0,this]
 ·have h1':0<=j:=by omega
  have h3:i<=((j.toNat:Nat):Int):=by omega
  have h3':i<=max j 0:=by omega
  simp[Instr.sliceBounds,Instr.sliceBound,ho,Rt,asIntOf,h1',h2,h0,h3']
theorem Db(hτ:fT P τ)(sat:Sat n l H nx iv B w O a w'){t:Nat}{x:SV}{K:SV->Prop}(h:FR τ H t x l lo hi K)(hx:x.sc nx):
  ∃r,K r∧r.sc nx∧∀w',(Instr.sliceAt t (x.den O) (lo.map a.eval) (hi.map a.eval) none).run P w'= .ok (r.den O) w':=by
 unfold FR at h;split at h
 ·rename_i sz ag by_ ze tag ik e al fs QX;have ht:=hτ t _ QX;split at h
  ·rename_i On;have hu:=ht.i4 (eC On);simp only at hu;split at h
   ·rename_i sz' ag' by' ze' tag' ik' e' al' fs' PU
    have PU:=hτ e _ PU;split at h
    ·rename_i id off m c;obtain⟨i,h1,SS⟩:=ku sat h;obtain⟨j,h2,Tt⟩:=ku sat h1;obtain⟨⟨b0,b1,b2⟩,off',n',c',e1,rfl,rfl,h3⟩:=h2;refine⟨_,h3,hx,fun w'=>?_⟩;have hb:=nX (P:=P) (w':=w') SS Tt b0 b1 b2;subst e1;simp[Instr.sliceAt,Instr.slice,run_underlying hu,SV.den,At.den,hb,PU.sizeOf];by_cases hc:c=i.toNat
     ·rw[if_pos hc,if_pos (by omega)]
     ·rw[aI hc,aI (by omega)];simp[dA]
    ·rename_i ad m c;obtain⟨i,h1,SS⟩:=ku sat h;obtain⟨j,h2,Tt⟩:=ku sat h1;obtain⟨⟨b0,b1,b2⟩,off',n',c',e1,rfl,rfl,h3⟩:=h2;refine⟨_,h3,trivial,fun w'=>?_⟩;have hb:=nX (P:=P) (w':=w') SS Tt b0 b1 b2;subst e1;simp[Instr.sliceAt,Instr.slice,run_underlying hu,SV.den,At.den,hb,PU.sizeOf];by_cases hc:c=i.toNat
     ·rw[if_pos hc,if_pos (by omega)]
     ·rw[aI hc,aI (by omega)]
    ·rename_i id m;split at h
     ·obtain⟨h1,Oe⟩:=uj sat.rel h;obtain⟨j,h2,Tt⟩:=ku sat h1;obtain⟨⟨b0,b1⟩,m',rfl,h3⟩:=h2;refine⟨_,h3,hx,fun w'=>?_⟩;have QF:(O id).nil=false->m<=(O id).cap:=fun hn=>by
       unfold Hw at h;split at h
       ·rename_i t' sz' cs' hH;split at h
        ·exact h.elim
        ·rename_i k;rcases sat.rel.vec id t' (k+1) cs' hH with⟨h5,_⟩|⟨_,spare,_,h6,_⟩
         ·rw[hn]at h5;cases h5
         ·have h7:=h.1;have h8:(cs'++spare).length=cs'.length+spare.length:=List.length_append;have h9:m*(k+1)<=(O id).cap*(k+1):=by omega
          exact Nat.le_of_mul_le_mul_right h9 (Nat.succ_pos k)
       ·exact h.elim
      cases hn:(O id).nil with
      |true=>
       have hm:=Oe hn;subst hm;have hb:=nX (P:=P) (w':=w') (len:=0) (cap:=0) (lo:=none) (i:=0) (.inl ⟨rfl,rfl⟩) Tt (Int.le_refl 0) b0 b1;have hj:j.toNat=0:=by omega
       rw[hj]at hb ⊢;simp only[Option.map_none]at hb;simp[Instr.sliceAt,Instr.slice,run_underlying hu,SV.den,At.den,hn,hb,PU.sizeOf]
      |false=>
       have hc:=QF hn;have hb:=nX (P:=P) (w':=w') (len:=m) (cap:=(O id).cap) (lo:=none) (i:=0) (.inl ⟨rfl,rfl⟩) Tt (Int.le_refl 0) b0 (by omega);simp only[Option.map_none]at hb;simp[Instr.sliceAt,Instr.slice,run_underlying hu,SV.den,At.den,hn,hb,PU.sizeOf,dA]
     ·exact h.elim
    ·exact h.elim
   ·exact h.elim
  ·split at h
   ·rename_i On;have hu:=ht.i6 (eC On);simp only at hu;split at h
    ·rename_i sz' ag' by' ze' tag' ik' e' al' fs' PU
     have PU:=hτ e _ PU;split at h
     ·rename_i id off;split at h
      ·split at h
       ·rename_i h0;refine⟨_,h,hx,fun w'=>?_⟩;have h0:al≠0:=fun e=>by subst e;cases h0
        simp[Instr.sliceAt,Instr.sliceBounds,run_underlying hu,SV.den,At.den,PU.sizeOf,Instr.sureAddr,dA]
       ·exact h.elim
      ·exact h.elim
     ·exact h.elim
    ·exact h.elim
   ·split at h
    ·rename_i On;have hu:=ht.i3 (eC On);split at h
     ·rename_i s;obtain⟨i,h1,SS⟩:=ku sat h;obtain⟨j,h2,Tt⟩:=ku sat h1;obtain⟨⟨b0,b1,b2⟩,h3⟩:=h2;refine⟨_,h3,trivial,fun w'=>?_⟩;have hb:=Da (P:=P) (w':=w') SS Tt b0 b1 b2;simp[Instr.sliceAt,Instr.slice,run_underlying hu,SV.den,At.den,hb]
     ·exact h.elim
    ·exact h.elim
 ·exact h.elim
end
section
variable{P:Program}{τ:mo}{B n nx:Nat}{l:Env}{H:Hp}{iv:Iv}{w w':World}{O:Nat->dL}{a:Act}
theorem Dc(z:Value)(c:Nat):(madeCells #[z] c)=(List.replicate c z).toArray:=by
 unfold madeCells;apply Array.ext';simp[List.map_const',Nat.mod_one]
theorem q9(zs:List Value)(c:Nat):(madeCells zs.toArray (c*zs.length))=((List.replicate c zs).flatten).toArray:=by
 unfold madeCells;apply Array.ext';simp only[Array.toList_map,Array.toList_range,List.size_toArray]
 induction c with
 |zero=>simp
 |succ c ih=>
  rw[Nat.succ_mul,List.range_add,List.map_append,ih,List.replicate_succ',List.flatten_append];simp only[List.flatten_cons,List.flatten_nil,List.append_nil,List.map_map]
  congr 1;apply List.ext_getElem
  ·simp
  ·intro i h1 h2;simp at h1;simp[bI h1,h1]
theorem FX(hτ:fT P τ)(sat:Sat n l H nx iv B w O a w'){t:Nat}{x y:SV}{K:SV->Hp->Nat->Prop}(h:Gy τ t x y H nx K):
  ∃r H' OW ρ' w2,K r H' OW∧Rel H' OW iv B w ρ' w2∧r.sc OW∧nx<=OW∧(∀id,id<nx->O id=ρ' id)∧(Instr.makeSlice t (x.den O) (y.den O)).run P w'= .ok (r.den ρ') w2:=by
 unfold Gy at h;split at h
 ·rename_i k1 a1 k2 b1;split at h
  ·rename_i sz ag by_ ze tag ik e al fs QX;have ht:=hτ t _ QX;split at h
   ·rename_i On;have hu:=ht.i4 (eC On);simp only at hu;split at h
    ·rename_i sz' ag' by' ze' tag' ik' e' al' fs' PU
     have PU:=hτ e _ PU;obtain⟨inf,z,hi,Oj,Oq,hz,RT⟩:=PU.info;simp only at Oj Oq RT;obtain⟨m,c,rfl,rfl,Vb,hbytes,h63,h⟩:=h;have Pj:(inf.bytes:Int)*(c:Int)<=281474976710656:=by
      rw[Oq];have Qn:((by'*c:Nat):Int)<=281474976710656:=by omega
      rwa [Int.natCast_mul]at Qn
     have OY:=run_make (P:=P) w' t e inf z hu hi hz k1 k2 (m:Int) (c:Int) (by omega) (by omega) Pj (by omega);simp only[aF]at OY;have fin:∀cs:List Value,cs.toArray=madeCells z.cells (c*inf.size)->AU (.arr e cs) H nx (fun H' OW=>K (.o (.s nx 0 m c)) H' OW)->
       ∃r H' OW ρ' w2,K r H' OW∧Rel H' OW iv B w ρ' w2∧r.sc OW∧nx<=OW∧(∀id,id<nx->O id=ρ' id)∧(Instr.makeSlice t (.int k1 m) (.int k2 c)).run P w'= .ok (r.den ρ') w2:=by
      intro cs Ok hK;refine⟨_,_,_,fh O nx ⟨w'.heap.size,0,false⟩,w'.alloc (.cells cs.toArray e),hK,?_,?_,by omega,fm,?_⟩
      ·refine sat.rel.push (.arr e cs) _ rfl rfl rfl (by simp) (fun k hk=>heap_alloc_old _ _ hk) (fun _=>⟨Nat.le_refl _,by simp⟩) ⟨rfl,heap_alloc_new _ _⟩ trivial
      ·simp[SV.sc,At.sc]
      ·rw[OY,<-Ok];simp[SV.den,At.den]
     have Rd:=PU.Hq;simp only at Rd;have Qr:z.cells=ze'.toArray:=by apply Array.ext';simpa using RT
     split at h
     ·rename_i z0;refine fin _ ?_ h;have:inf.size=1:=by rw[Oj,<-Rd];rfl
      rw[this,aY,Qr,Dc]
     ·refine fin _ ?_ h;rw[Oj,<-Rd,Qr];rcases bJ ze'.length with h0|h0
      ·have:ze'=[]:=List.eq_nil_of_length_eq_zero h0;subst this;simp[madeCells]
      ·rw[q9]
    ·exact h.elim
   ·exact h.elim
  ·exact h.elim
 ·exact h.elim
theorem FY(sat:Sat n l H nx iv B w O a w'){x:SV}{K:Nat->List Value->Prop}(PF:0<size)(h:JU B H nx iv w size x K):
  ∃m c ad news,K m news∧x.den O= .slice ad m c∧news.length=m*size∧(∀u∈news,u.oneCell'=true)∧
   ((ad=none∧m=0)∨∃ad',ad=some ad'∧∀j u,news[j]? =some u->w'.cell? (ad'.add j)=some u):=by
 have rel:=sat.rel;unfold JU at h;split at h
 ·rename_i id off m c;split at h
  ·rename_i bt cs hH;obtain⟨h1,hd⟩:=nT h;obtain⟨h2,ht⟩:=nU h1;obtain⟨vs,h3,Qw,Tu⟩:=km h2;refine⟨m,c,_,vs,h3,rfl,?_,Tu,.inr ⟨_,rfl,fun j u hu=>?_⟩⟩
   ·have:=congrArg List.length Qw;simp at this ht;omega
   ·rw[dA,cell_of (rel.box id bt cs hH)];have e:(vs.map At.v)[j]? =some (.v u):=by simp[hu]
    rw[<-Qw]at e;simp only[List.getElem?_take,List.getElem?_drop]at e;split at e
    ·simp[e,At.den]
    ·simp at e
  ·rename_i bt cs hH;obtain⟨vs,h1,h2,h3,h4⟩:=h;refine⟨m,c,_,vs,h4,rfl,h2,h3,.inr ⟨_,rfl,fun j u hu=>?_⟩⟩;rw[dA,cell_of (rel.arr id bt cs hH)];rw[<-h1]at hu;simp only[List.getElem?_take,List.getElem?_drop]at hu;split at hu
   ·exact hu
   ·simp at hu
  ·exact h.elim
 ·rename_i ad m c;obtain⟨vs,h1,h2,h3,h4⟩:=h;refine⟨m,c,ad,vs,h4,rfl,h1,h2,?_⟩;rcases bJ m with h0|h0
  ·subst h0;have:vs=[]:=List.eq_nil_of_length_eq_zero (by simpa using h1);subst this
   cases ad with
   |none=>exact .inl ⟨rfl,rfl⟩
   |some ad=>exact .inr ⟨ad,rfl,fun j u hu=>by simp at hu⟩
  ·exact .inr (h3 O w' rel h0)
 ·rename_i id m;split at h
  ·rename_i bt sz cs hH;obtain⟨h1,h2,h3⟩:=h;rcases rel.vec id bt sz cs hH with⟨hn,rfl⟩|⟨hn,spare,hb,_⟩
   ·have h0:m=0:=by
     have h4:m*size=0:=by simpa using h1.symm
     rcases Nat.mul_eq_zero.1 h4 with h5|h5<;>omega
    subst h0;exact⟨0,0,none,[],h3,by simp[SV.den,At.den,hn],by simp,by simp,.inl ⟨rfl,rfl⟩⟩
   ·refine⟨m,(O id).cap,_,cs,h3,by simp only[SV.den,At.den,hn];rfl,h1,h2,.inr ⟨_,rfl,fun j u hu=>?_⟩⟩;rw[dA,cell_of hb,aV,aJ (aD.1 hu).1];exact hu
  ·exact h.elim
 ·exact h.elim
theorem kr(w:World)(base:Nat)(t ty e:TypeId)(i:TypeInfo)(size:Nat)(ht:P.underlying t=some (.slice e))(hi:P.info? e=some i)
  (v:Value) (m:Nat) (xs:List Value) (SH:w.ownsRow base e size v m xs) (c:Nat):(Builtin.append_ #[t,t] ty #[v,.slice none 0 c]).run P w= .ok v w:=by
 rcases SH.2 with⟨rfl,rfl⟩|⟨g,cap,cur,rfl,_,_,TY,_⟩
 ·simp[Builtin.append_,run_underlying ht,sizeOf,typeInfo,hi,Builtin.lenOf,Builtin.firstCells]
 ·simp[Builtin.append_,run_underlying ht,sizeOf,typeInfo,hi,Builtin.lenOf,Builtin.firstCells,TY,storeCells]
theorem pG{w:World}{e:Nat}{v:Value}{base:Nat}(h:w.ownsRow base e size v m xs):
  ∃val:dL,(At.w 0 m).den (fun _=>val)=v∧(jh.vec e size xs).fits (fun _=>val) val w∧(val.nil=false->v.ownBlock=some val.g∧val.g<w.heap.size)∧(val.nil=true->v.ownBlock=none):=by
 rcases h.2 with⟨rfl,rfl⟩|⟨g,cap,cur,rfl,_,hb,TY,QF,hcur,RI⟩
 ·have:xs=[]:=List.eq_nil_of_length_eq_zero (by simpa using h.1);exact⟨⟨0,0,true⟩,rfl,.inl ⟨rfl,this⟩,(fun h=>by cases h),fun _=>rfl⟩
 ·refine⟨⟨g,cap,false⟩,rfl,.inr ⟨rfl,cur.toList.drop (m*size),?_,?_,QF⟩,fun _=>⟨rfl,(ah.1 hb).1⟩,(fun h=>by cases h)⟩
  ·rw[<-RI,List.take_append_drop];simpa using hb
  ·rw[<-RI,List.take_append_drop];simpa using hcur
theorem Dd(rel:Rel H nx iv B w O w'){e sz:Nat}(hH:cV H id=some (.vec e sz cs))(hl:cs.length=m*sz)(PF:0<sz):
  w'.ownsRow B e sz ((At.w id m).den O) m cs:=by
 rcases rel.vec id e sz cs hH with⟨hn,rfl⟩|⟨hn,spare,hb,SI,QF⟩
 ·have h0:m=0:=by
   have h4:m*sz=0:=by simpa using hl.symm
   rcases Nat.mul_eq_zero.1 h4 with h5|h5<;>omega
  subst h0;simp only[At.den,hn]
  exact World.ownsRow_nil _ _ _ _
 ·refine⟨hl,.inr ⟨(O id).g,(O id).cap,_,by simp only[At.den,hn],(rel.low id _ hH hn).1,hb,?_,QF,by simpa using SI,by simp[<-hl]⟩⟩;have h1:m*sz<=(O id).cap*sz:=by rw[<-SI,<-hl];simp
  exact Nat.le_of_mul_le_mul_right h1 PF
theorem tC(hτ:fT P τ)(sat:Sat n l H nx iv B w O a w'){t ty:Nat}{x y:SV}{K:SV->Hp->Nat->Prop}(h:xZ τ B t x y H nx iv w K):
  ∃r H' OW ρ' w2,K r H' OW∧Rel H' OW iv B w ρ' w2∧r.sc OW∧nx<=OW∧(∀id,id<nx->O id=ρ' id)∧(Builtin.append_ #[t,t] ty #[x.den O,y.den O]).run P w'= .ok (r.den ρ') w2:=by
 have rel:=sat.rel;unfold xZ at h;split at h
 ·exact h.elim
 rename_i sz ag by_ ze tag ik e al fs QX;have ht:=hτ t _ QX;split at h
 ·rename_i On;have hu:=ht.i4 (eC On);simp only at hu;split at h
  ·rename_i sz' ag' by' ze' tag' ik' e' al' fs' PU
   have PU:=hτ e _ PU;split at h
   ·exact h.elim
   ·rename_i z0 zr;obtain⟨inf,z,hi,Oj,Oq,hz,RT⟩:=PU.info;have Rd:=PU.Hq;simp only at Oj Oq RT Rd;have PF:0<sz':=by rw[<-Rd];simp
    have hzs:z.cells.size=sz':=by rw[<-Rd,<-RT];simp
    have h0:=FY sat PF h;clear h;obtain⟨m,c,ad,news,h,hy,RS,SZ,hsrc⟩:=h0;have happ:∀(v:Value) (k:Nat) (xs:List Value),w'.ownsRow B e sz' v k xs->(k+m)*by'<=140737488355328->k+m<=maxLen->
      ∃v' w2,(Builtin.append_ #[t,t] ty #[v,y.den O]).run P w'= .ok v' w2∧w2.ownsRow B e sz' v' (k+m) (xs++news)∧w'.grownBy w2 v.ownBlock∧(v'.ownBlock=v.ownBlock∨v'.ownBlock=some w'.heap.size):=by
     intro v k xs SH hb Qo;rw[hy];rcases hsrc with⟨rfl,rfl⟩|⟨ad',rfl,PH⟩
     ·have:news=[]:=List.eq_nil_of_length_eq_zero (by simpa using RS);subst this;exact⟨v,w',kr w' B t ty e inf sz' hu hi v k xs SH c,by simpa using SH,⟨rfl,rfl,rfl,Nat.le_refl _,fun _ _ _=>rfl⟩,.inl rfl⟩
     ·obtain⟨v',w2,h1,h2,h3,_,h5⟩:=run_append_own_at (P:=P) w' B t ty e inf z sz' by' hu hi hz Oj Oq hzs PF v k xs SH ad' m c news RS PH SZ Qo hb (by have:=rel.base;have:=rel.size;omega)
      exact⟨v',w2,h1,h2,h3,h5⟩
    split at h
    ·obtain⟨hb,Qo,hK⟩:=h;obtain⟨v',w2,h1,h2,h3,h5⟩:=happ (.slice none 0 0) 0 [] (World.ownsRow_nil _ _ _ _) (by simpa using hb) (by simpa using Qo);simp only[aV,List.nil_append]at h2;obtain⟨val,Tu,RH,hv3,hv4⟩:=pG h2;refine⟨_,_,_,fh O nx val,w2,hK,?_,by simp[SV.sc,At.sc],by omega,fm,?_⟩
     ·refine rel.push (.vec e sz' news) val h3.os h3.tape h3.output h3.size (fun k hk=>h3.block k hk (by simp[Value.ownBlock])) (fun hn=>?_) (by simpa [jh.fits]using RH) trivial;have:=hv3 hn;rcases h5 with h6|h6
      ·rw[this.1]at h6;simp[Value.ownBlock]at h6
      ·rw[this.1]at h6;injection h6 with h6;exact⟨by omega,this.2⟩
     ·rw[show SV.den O (.o (.v (.slice none 0 0)))= .slice none 0 0 from rfl,h1,<-Tu];simp[SV.den,At.den]
    ·rename_i id k;split at h
     ·rename_i e1 sz1 cs hH;split at h
      ·rename_i UU;have UU:=eC UU;subst UU;split at h
       ·rename_i PQ;have PQ:=eC PQ;subst PQ;obtain⟨hl,hb,Qo,h⟩:=h;obtain⟨H1,hK,hH1,_⟩:=ry h;obtain⟨v',w2,h1,h2,h3,h5⟩:=happ _ k cs (Dd rel hH hl PF) hb Qo;obtain⟨val,Tu,RH,hv3,hv4⟩:=pG h2;have RG:(O id).nil=false->((At.w id k).den O).ownBlock=some (O id).g:=fun hn=>by simp[At.den,hn,Value.ownBlock]
        have hob':(O id).nil=true->((At.w id k).den O).ownBlock=none:=fun hn=>by simp[At.den,hn,Value.ownBlock]
        refine⟨_,_,_,fh O nx val,w2,hK,?_,by simp[SV.sc,At.sc],by omega,fm,?_⟩
        ·refine rel.JY hH (by simp) hH1 (.vec e1 sz1 (cs++news)) val h3.os h3.tape h3.output h3.size (fun j hj OS=>?_) (fun hn=>?_) (by simpa [jh.fits]using RH) trivial
         ·refine h3.block j hj fun e=>?_
          cases Oe:(O id).nil
          ·rw[RG Oe]at e;injection e with e;exact OS Oe e
          ·rw[hob' Oe]at e;cases e
         ·have:=hv3 hn;rcases h5 with h6|h6
          ·rw[this.1]at h6
           cases Oe:(O id).nil
           ·rw[RG Oe]at h6;injection h6 with h6;exact .inr ⟨rfl,h6⟩
           ·rw[hob' Oe]at h6;cases h6
          ·rw[this.1]at h6;injection h6 with h6;exact .inl ⟨by omega,this.2⟩
        ·rw[show SV.den O (.o (.w id k))=(At.w id k).den O from rfl,h1,<-Tu];simp[SV.den,At.den]
       ·exact h.elim
      ·exact h.elim
     ·exact h.elim
    ·rename_i id k c0;split at h
     ·rename_i UW;have UW:=eC UW;subst UW;split at h
      ·rename_i e1 cs0 hH;split at h
       ·rename_i UU;have UU:=eC UU;subst UU;obtain⟨cs,⟨hl,hb,Qo,h9⟩,rfl,_⟩:=km h;obtain⟨H1,hK,hH1,_⟩:=ry h9;have Oe:(O id).nil=false:=rel.nn id _ hH (by intros;simp) (by simp);have S2:=rel.box id _ _ hH;rw[fU]at S2;have SH:w'.ownsRow B e1 sz' ((At.s id 0 k k).den O) k cs:=by
         refine⟨hl,.inr ⟨(O id).g,k,_,by simp only[At.den],(rel.low id _ hH Oe).1,S2,Nat.le_refl _,by omega,by simp[hl],by simp[<-hl]⟩⟩
        obtain⟨v',w2,h1,h2,h3,h5⟩:=happ _ k cs SH hb Qo;obtain⟨val,Tu,RH,hv3,hv4⟩:=pG h2;have RG:((At.s id 0 k k).den O).ownBlock=some (O id).g:=by simp[At.den,Value.ownBlock]
        refine⟨_,_,_,fh O nx val,w2,hK,?_,by simp[SV.sc,At.sc],by omega,fm,?_⟩
        ·refine rel.JY hH (by simp) hH1 (.vec e1 sz' (cs++news)) val h3.os h3.tape h3.output h3.size (fun j hj OS=>?_) (fun hn=>?_) (by simpa [jh.fits]using RH) trivial
         ·refine h3.block j hj fun e=>?_;rw[RG]at e;injection e with e;exact OS Oe e
         ·have:=hv3 hn;rcases h5 with h6|h6
          ·rw[this.1]at h6;rw[RG]at h6;injection h6 with h6;exact .inr ⟨Oe,h6⟩
          ·rw[this.1]at h6;injection h6 with h6;exact .inl ⟨by omega,this.2⟩
        ·rw[show SV.den O (.o (.s id 0 k k))=(At.s id 0 k k).den O from rfl,h1,<-Tu];simp[SV.den,At.den]
       ·exact h.elim
      ·exact h.elim
     ·exact h.elim
    ·exact h.elim
  ·exact h.elim
 ·exact h.elim
end
end Go.Sx
