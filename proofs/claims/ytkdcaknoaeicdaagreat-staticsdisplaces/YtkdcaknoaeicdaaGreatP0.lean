/- Texts Sx1 to Sx6: lemmas, each with its conditions. -/
import Derived.WalkKit
import Derived.Maps.AppendAt
import Derived.Laws.IdiomCopy
import Derived.Great.BuildSlice
namespace Go
variable{i m n:Nat}
theorem aB.{u_1}{α:Type u_1}{l:List α}(h:i<l.length):l[i]? =some l[i]:=List.getElem?_eq_getElem h
theorem aC.{u_1}{α:Type u_1}{l:List α}{a:α}(e:l[i]? =some a):a∈l:=List.mem_of_getElem? e
theorem aD.{u_1}{α:Type u_1}{a:α}{l:List α}:l[i]? =some a↔∃h:i<l.length,l[i]=a:=List.getElem?_eq_some_iff
theorem aE(n:Nat):((n:Int)).toNat=n:=Int.toNat_natCast n
theorem aF(n:Nat):n<=n:=Nat.le_refl n
theorem aG.{u_1}{α:Type u_1}{a:α}{l:List α}:a∈a::l:=List.mem_cons_self
theorem aH{p:Prop} [inst:Decidable p]:decide p=false->¬p:=of_decide_eq_false
theorem aI{p:Prop} [inst:Decidable p]:decide p=true->p:=of_decide_eq_true
theorem aJ.{u_1,u_2}{α:Type u_1}{β:Type u_2}{as:List α}(f:α->β):(List.map f as).length=as.length:=List.length_map f
theorem aK.{u}{c:Prop}{h:Decidable c}(hnc:¬c){α:Sort u}{t e:α}:(if c then t else e)=e:=if_neg hnc
theorem aL.{u_1}{α:Type u_1}{l₁ l₂:List α}(hn:i<l₁.length):(l₁++l₂)[i]? =l₁[i]? :=List.getElem?_append_left hn
theorem aM.{u_1}{α:Type u_1}{l₁ l₂:List α}:l₁.length<=i->(l₁++l₂)[i]? =l₂[i-l₁.length]? :=List.getElem?_append_right
theorem aN.{u_1,u_2}{α:Type u_1}{β:Type u_2}{f:α->β}{l:List α}:(List.map f l)[i]? =Option.map f l[i]? :=List.getElem?_map
theorem aO(n:Nat):0<=n:=Nat.zero_le n
theorem aP(n m:Nat):n<m∨n≥m:=Nat.lt_or_ge n m
theorem aQ(n:Nat):0+n=n:=Nat.zero_add n
theorem aR(h₁:n<=m)(h₂:m<=n):n=m:=Nat.le_antisymm h₁ h₂
theorem aS(n:Nat):n*1=n:=Nat.mul_one n
theorem aT.{u_1,u_2}{α:Type u_1}{β:Type u_2}{b:β}{f:α->β}{l:List α}:b∈List.map f l↔∃a,a∈l∧f a=b:=List.mem_map
theorem aU.{u_1}{α:Type u_1}{a:α}{l:List α}(h:a∈l):∃i:Nat,l[i]? =some a:=List.getElem?_of_mem h
theorem aV.{u_1}{α:Type u_1}{l:List α}:(List.take i l).length=min i l.length:=List.length_take
theorem aW.{u_1}{α:Type u_1}{l:List α}{a:α}(h:i<l.length):(l.set i a)[i]? =some a:=List.getElem?_set_self h
theorem aX.{u_1}{α:Type u_1}{l:List α}{j:Nat}(h:i≠j){a:α}:(l.set i a)[j]? =l[j]? :=List.getElem?_set_ne h
theorem aY.{u_1}{α:Type u_1}{l:List α}(h:n<l.length):l[n]∈l:=List.getElem_mem h
theorem aZ(a b:Bool):((a&&b)=true)=(a=true∧b=true):=Bool.and_eq_true a b
theorem ah{k:Nat}:n<=m->m<=k->n<=k:=Nat.le_trans
theorem ai.{u_1}{α:Type u_1}{b:α}{xs:Array α}:xs[i]? =some b↔∃h:i<xs.size,xs[i]=b:=Array.getElem?_eq_some_iff
theorem aw.{u_1}{α:Type u_1}{a b:α}:a∈[b]↔a=b:=List.mem_singleton
theorem bA.{u_1}{α:Type u_1}{xs:Array α}{d:α}:xs.getD i d=xs[i]?.getD d:=Array.getD_eq_getD_getElem?
theorem bB.{u}{α:Type u}{xs:Array α}:xs.toList[i]? =xs[i]? :=Array.getElem?_toList
theorem bC.{u}{α:Type u}{a:α}:(List.replicate n a).length=n:=List.length_replicate
theorem bD(a:Rat):a*0=0:=Rat.mul_zero a
theorem bE.{u}{α:Type u}{as:List α}{a:α}:(as.set i a).length=as.length:=List.length_set
theorem bF.{u_1}{α:Type u_1}{l:List α}:List.take l.length l=l:=List.take_length
theorem bG.{u_1}{α:Type u_1}{a:α}{s t:List α}:a∈s++t↔a∈s∨a∈t:=List.mem_append
theorem bH(a:Rat):0*a=0:=Rat.zero_mul a
theorem bI(n:Nat):n=0∨n>0:=Nat.eq_zero_or_pos n
theorem bJ.{u_1}{α:Type u_1}{l:List α}{a b:α}:a∈l.set i b->a∈l∨a=b:=List.mem_or_eq_of_mem_set
theorem bK(n:Nat):n-n=0:=Nat.sub_self n
theorem bL.{u_1}{α:Type u_1}{a b:α}(h:b∈List.replicate n a):b=a:=List.eq_of_mem_replicate h
theorem bM.{u_1}{α:Type u_1}{l₁ l₂:List α}(h:∀(i:Nat),l₁[i]? =l₂[i]?):l₁=l₂:=List.ext_getElem? h
theorem bN{p:Prop} [Decidable p]:¬p->decide p=false:=decide_eq_false
theorem bO:List.range n.succ=List.range n++[n]:=List.range_succ
theorem bP{a b:Nat}(h:a<b):a % b=a:=Nat.mod_eq_of_lt h
theorem bQ.{u_1}{α:Type u_1}{xs:Array α}{a:α}:(xs.setIfInBounds i a).size=xs.size:=Array.size_setIfInBounds
theorem bS:n.beq m=true->n=m:=Nat.eq_of_beq_eq_true
theorem bT{p:Prop} [inst:Decidable p]:p->decide p=true:=decide_eq_true
theorem bU.{u_1}{α:Type u_1}{l:List α}{j:Nat}(h:i<j):(List.take j l)[i]? =l[i]? :=List.getElem?_take_of_lt h
theorem bV(n m k:Nat):n*(m+k)=n*m+n*k:=Nat.mul_add n m k
theorem bW(n m:Nat):n*m=m*n:=Nat.mul_comm n m
theorem bX(a:Rat):a+0=a:=Rat.add_zero a
theorem bY(n:Nat):n<n.succ:=Nat.lt_succ_self n
theorem bZ.{u}{α:Type u}(as bs cs:List α):as++bs++cs=as++(bs++cs):=List.append_assoc as bs cs
theorem b9(k:Nat)(h:n<=m):k*n<=k*m:=Nat.mul_le_mul_left k h
theorem bc.{u_1}{α:Type u_1}{a:α}{l:List α}(h:a∈List.take i l):a∈l:=List.mem_of_mem_take h
theorem bf{a:Int}(h:a<0):a.sign= -1:=Int.sign_eq_neg_one_of_neg h
theorem bg(a b:Rat):a*b=b*a:=Rat.mul_comm a b
theorem bh(n m k:Nat):n*m*k=n*(m*k):=Nat.mul_assoc n m k
theorem bj(a b:Rat):a / b=a*b⁻¹:=Rat.div_def a b
theorem bl{a:Int}(h:0<a):a.sign=1:=Int.sign_eq_one_of_pos h
theorem bm(m:Nat)(npos:0<n):0<m.gcd n:=Nat.gcd_pos_of_pos_right m npos
theorem bo(w:Nat):0<2^w:=Nat.two_pow_pos w
theorem bp{a b c:Nat}(h:a*c<=b*c)(hc:0<c):a<=b:=Nat.le_of_mul_le_mul_right h hc
theorem bq(h:i<n):(List.range n)[i]? =some i:=List.getElem?_range h
theorem bs(a b:Nat):a<b∨a=b∨b<a:=Nat.lt_trichotomy a b
theorem bu(x:Nat){y:Nat}(hy:0<y):x % y<y:=Nat.mod_lt x hy
theorem bw(a:Rat):1*a=a:=Rat.one_mul a
theorem bz(n:Nat):n+0=n:=Nat.add_zero n
theorem cB(a:Int):(-a).natAbs=a.natAbs:=Int.natAbs_neg a
end Go
namespace Go.Sx
open Go
variable{next:Act->World->Prop}{ad:Addr}{cells:Array Value}{b:Bool}{Q:Exit->Act->World->Prop}{K:Int->Prop}{fs:List (Nat×Nat)}{rest:List (Nat×Value)}{cs new old xs:List Value}{B id m n nx off size:Nat}{place:Nat->Option (Nat×Nat)}{hi lo:Option Operand}{A:Prop}{w' w2:World}
inductive At where
 |v (x:Value)
 |p (id off:Nat)
 |s (id off len cap:Nat)
 |w (id len:Nat)
 |fn (f:Nat) (caps:List Nat)
inductive SV where
 |o (x:At)
 |a (cs:List At)
structure dg where
 g:Nat
 cap:Nat
 nil:Bool
def At.den(O:Nat->dg):At->Value
 | .v x=>x
 | .p id off=>.pointer (some ⟨(O id).g,off,none⟩)
 | .s id off len cap=>.slice (some ⟨(O id).g,off,none⟩) len cap
 | .w id len=>match(O id).nil with
  |true=>.slice none 0 0
  |false=>.slice (some ⟨(O id).g,0,none⟩) len (O id).cap
 | .fn f caps=>.func (.func f) #[] (caps.map fun id=>Value.pointer (some ⟨(O id).g,0,none⟩)).toArray
def SV.den(O:Nat->dg):SV->Value
 | .o x=>x.den O
 | .a cs=>.agg (cs.map (At.den O)).toArray
def At.sc(n:Nat):At->Prop
 | .v _=>True
 | .p id _=>id<n
 | .s id _ _ _=>id<n
 | .w id _=>id<n
 | .fn _ caps=>∀id∈caps,id<n
def SV.sc(n:Nat):SV->Prop
 | .o x=>x.sc n
 | .a cs=>∀x∈cs,At.sc n x
inductive ji where
 |box (t:Nat) (cs:List At)
 |arr (t:Nat) (cs:List Value)
 |vec (t:Nat) (size:Nat) (cs:List Value)
 |dead
abbrev Env:=List (Nat×SV)
abbrev Hp:=List (Nat×ji)
abbrev Iv:=List (Nat×Nat)
def fL:Env->Nat->Option SV
 |[],_=>none
 |(t,v)::r,u=>match Nat.beq t u with
  |true=>some v
  |false=>fL r u
def dB:Hp->Nat->Option ji
 |[],_=>none
 |(t,v)::r,u=>match Nat.beq t u with
  |true=>some v
  |false=>dB r u
def BA:Hp->Nat->(Hp->Prop)->Prop
 |[],_,_=>False
 |(t,v)::r,u,k=>match Nat.beq t u with
  |true=>k ((t,.dead)::r)
  |false=>BA r u (fun r'=>k ((t,v)::r'))
def FH:Hp->Nat->ji->(Hp->Prop)->Prop
 |[],_,_,_=>False
 |(t,v)::r,u,b,k=>match Nat.beq t u with
  |true=>k ((t,b)::r)
  |false=>FH r u b (fun r'=>k ((t,v)::r'))
structure TI where
 size:Nat
 agg:Bool
 bytes:Nat
 zero:List Value
 tag:Nat
 ik:IntKind:=.i64
 elem:Nat:=0
 AP:Nat:=0
 fields:List (Nat×Nat):=[]
def ev(l:Env):Operand->Option SV
 | .tmp t=>fL l t
 | .const v=>some (.o (.v v))
 | .global g=>some (.o (.v (.pointer (some ⟨g,0,none⟩))))
 | .func f=>some (.o (.v (.func (.func f) #[] #[])))
def og(l:Env)(x:Operand)(k:SV->Prop):Prop:=match ev l x with
 |some v=>k v
 |none=>False
def Ie(l:Env):List Operand->(List SV->Prop)->Prop
 |[],k=>k []
 |x::r,k=>match ev l x with
  |some v=>Ie l r (fun vs=>k (v::vs))
  |none=>False
def sW:List At->Nat->(List At->Prop)->Prop
 |l,0,k=>k l
 |[],_+1,_=>False
 |_::t,n+1,k=>sW t n k
def sX:List At->Nat->(List At->Prop)->Prop
 |_,0,k=>k []
 |[],_+1,_=>False
 |x::t,n+1,k=>sX t n (fun r=>k (x::r))
def BB:List At->List At->(List At->Prop)->Prop
 |cs,[],k=>k cs
 |[],_::_,_=>False
 |_::t,x::r,k=>BB t r (fun t'=>k (x::t'))
def qI:List At->Nat->List At->(List At->Prop)->Prop
 |cs,0,new,k=>BB cs new k
 |[],_+1,_,_=>False
 |x::t,n+1,new,k=>qI t n new (fun t'=>k (x::t'))
def oh:List Value->(List At->Prop)->Prop
 |[],k=>k []
 |x::r,k=>oh r (fun r'=>k (.v x::r'))
def xp:SV->(List At->Prop)->Prop
 | .a cs,k=>k cs
 | .o (.v (.agg ⟨l⟩)),k=>oh l k
 | .o (.v (.tuple _)),_=>False
 | .o x,k=>k [x]
def At.one:At->Bool
 | .v (.agg _)=>false
 | .v (.tuple _)=>false
 |_=>true
def Gc:List At->Prop->Prop
 |[],k=>k
 |x::r,k=>match x.one with
  |true=>Gc r k
  |false=>False
def wu:List At->(List Value->Prop)->Prop
 |[],k=>k []
 | .v x::r,k=>match At.one (.v x)with
  |true=>wu r (fun r'=>k (x::r'))
  |false=>False
 |_::_,_=>False
def dN(b:Bool)(A B:Prop):Prop:=match b with
 |true=>A
 |false=>B
theorem dN.t{B:Prop}(h:dN b A B)(e:b=true):A:=by subst e;exact h
theorem dN.f{B:Prop}(h:dN b A B)(e:b=false):B:=by subst e;exact h
theorem dN.mk{B:Prop}(h1:b=true->A)(h2:b=false->B):dN b A B:=by
 cases b
 ·exact h2 rfl
 ·exact h1 rfl
structure Rel(H:Hp)(nx:Nat)(iv:Iv)(B:Nat)(w:World)(O:Nat->dg)(w':World):Prop where
 os:w'.os=w.os
 tape:w'.tape=w.tape
 output:w'.output=w.output
 size:w.heap.size<=w'.heap.size
 base:B<=w.heap.size
 oe:∀lo hi,(lo,hi)∈iv->hi<=w.heap.size
 keys:∀id b,dB H id=some b->id<nx
 box:∀id t cs,dB H id=some (.box t cs)->w'.heap[(O id).g]? =some (.cells (cs.map (At.den O)).toArray t (0,0))
 arr:∀id t cs,dB H id=some (.arr t cs)->w'.heap[(O id).g]? =some (.cells cs.toArray t (0,0))
 vec:∀id t size cs,dB H id=some (.vec t size cs)->((O id).nil=true∧cs=[])∨
  ((O id).nil=false∧∃spare:List Value,w'.heap[(O id).g]? =some (.cells (cs++spare).toArray t (0,0))∧(cs++spare).length=(O id).cap*size∧(O id).cap<=maxLen)
 inj:∀id id' b b',dB H id=some b->dB H id'=some b'->b≠ .dead->b'≠ .dead->(O id).nil=false->(O id').nil=false->(O id).g=(O id').g->id=id'
 low:∀id b,dB H id=some b->(O id).nil=false->B<=(O id).g∧(O id).g<w'.heap.size
 uP:∀k,k<w.heap.size->(∀id b,dB H id=some b->(O id).nil=false->(O id).g≠k)->w'.heap[k]? =w.heap[k]?
 jo:∀lo hi,(lo,hi)∈iv->∀id b,dB H id=some b->(O id).nil=false->¬(lo<=(O id).g∧(O id).g<hi)
 LG:∀id t cs,dB H id=some (.box t cs)->∀x∈cs,At.sc nx x
 nn:∀id b,dB H id=some b->(∀t size cs,b≠ .vec t size cs)->b≠ .dead->(O id).nil=false
structure Im(P:Program)(g:Nat):Prop where
 h:∀(args:Array Value) (w:World),(callFunc g args).run P w= .ok (.enter g args) w
structure eD(P:Program)(g:Nat)(args:Array Value)(w:World)(R:Ending->World->Prop):Prop where
 e:Im P g
 c:Calls P g args w R
def CH:List At->Nat->Option At
 |[],_=>none
 |x::_,0=>some x
 |_::t,n+1=>CH t n
def H6:List Value->Nat->Option Value
 |[],_=>none
 |x::_,0=>some x
 |_::t,n+1=>H6 t n
def H7:List (Nat×Nat)->Nat->Option (Nat×Nat)
 |[],_=>none
 |x::_,0=>some x
 |_::t,n+1=>H7 t n
def oq:IntKind->IntKind->Bool
 | .i8,.i8=>true| .i16,.i16=>true| .i32,.i32=>true| .i64,.i64=>true
 | .u8,.u8=>true| .u16,.u16=>true| .u32,.u32=>true| .u64,.u64=>true
 |_,_=>false
abbrev mg:=Nat->Option TI
def H8(op:BinOp)(k:IntKind)(a b:Int)(K:Value->Prop):Prop:=
 match op with
 | .add=>∃r,k.wrap (a+b)=r∧K (.int k r)
 | .sub=>∃r,k.wrap (a-b)=r∧K (.int k r)
 | .mul=>∃r,k.wrap (a*b)=r∧K (.int k r)
 | .quo=>b≠0∧∃r,k.wrap (a.tdiv b)=r∧K (.int k r)
 | .rem=>b≠0∧∃r,a.tmod b=r∧K (.int k r)
 | .and=>∃r,k.wrap ((BitVec.ofInt k.bits a &&& BitVec.ofInt k.bits b).toNat:Int)=r∧K (.int k r)
 | .or=>∃r,k.wrap ((BitVec.ofInt k.bits a ||| BitVec.ofInt k.bits b).toNat:Int)=r∧K (.int k r)
 | .xor=>∃r,k.wrap ((BitVec.ofInt k.bits a ^^^ BitVec.ofInt k.bits b).toNat:Int)=r∧K (.int k r)
 | .shl=>0<=b∧∃r,k.wrap (a*2^(min b.toNat k.bits))=r∧K (.int k r)
 | .shr=>0<=b∧∃r,a.fdiv (2^(min b.toNat k.bits))=r∧K (.int k r)
 | .eql=>K (.bool (a==b))
 | .neq=>K (.bool (a != b))
 | .lss=>K (.bool (decide (a<b)))
 | .leq=>K (.bool (decide (a<=b)))
 | .gtr=>K (.bool (decide (a>b)))
 | .geq=>K (.bool (decide (a≥b)))
 | .andNot=>∃r,k.wrap ((BitVec.ofInt k.bits a &&& ~~~BitVec.ofInt k.bits b).toNat:Int)=r∧K (.int k r)
def M7(P:Program)(τ:mg)(op:BinOp)(t:Nat)(x y:SV)(K:SV->Prop):Prop:=
 match x,y with
 | .o (.v (.int k a)),.o (.v (.int k' b))=>
  match op with
  | .shl=>H8 op k a b (fun r=>K (.o (.v r)))
  | .shr=>H8 op k a b (fun r=>K (.o (.v r)))
  |_=>match oq k k' with
   |true=>H8 op k a b (fun r=>K (.o (.v r)))
   |false=>False
 | .o (.v (.bool a)),.o (.v (.bool b))=>
  match τ t with
  |some ti=>match Nat.beq ti.tag 2 with
   |true=>match op with
    | .eql=>K (.o (.v (.bool (a==b))))
    | .neq=>K (.o (.v (.bool (!(a==b)))))
    |_=>False
   |false=>False
  |none=>False
 | .o (.v (.string a)),.o (.v (.string b))=>
  match op with
  | .eql=>K (.o (.v (.bool (a.data.toList==b.data.toList))))
  | .neq=>K (.o (.v (.bool (!(a.data.toList==b.data.toList)))))
  | .add=>a.size+b.size<=maxLen∧K (.o (.v (.string (a++b))))
  |_=>False
 |_,_=>∃b:Bool,(∀(O:Nat->dg) (w:World) (o1 o2:Operand),(do eqGuard op t o1 o2 (x.den O) (y.den O);binOp op t (x.den O) (y.den O)).run P w= .ok (.bool b) w)∧K (.o (.v (.bool b)))
def BH(τ:mg)(B:Nat)(t:Nat)(addr:SV)(H:Hp)(nx:Nat)(iv:Iv)(w:World)(K:SV->Prop):Prop:=
 match τ t with
 |none=>False
 |some ⟨sz,ag,_,_,_,_,_,_,_⟩=>
  match addr with
  | .o (.p id off)=>
   match dB H id with
   |some (.box _ cs)=>
    match ag with
    |false=>match CH cs off with
     |some x=>K (.o x)
     |none=>False
    |true=>sW cs off (fun r=>sX r sz (fun l=>K (.a l)))
   |some (.arr _ cs)=>
    match ag with
    |false=>∃x,cs[off]? =some x∧K (.o (.v x))
    |true=>∃xs:List Value,(cs.drop off).take sz=xs∧xs.length=sz∧oh xs (fun l=>K (.a l))
   |some (.vec _ _ cs)=>
    match ag with
    |false=>∃x,cs[off]? =some x∧K (.o (.v x))
    |true=>∃xs:List Value,(cs.drop off).take sz=xs∧xs.length=sz∧oh xs (fun l=>K (.a l))
   |_=>False
  | .o (.v (.pointer (some ad)))=>
   match ag with
   |false=>∃x,(∀O w',Rel H nx iv B w O w'->w'.cell? ad=some x)∧K (.o (.v x))
   |true=>∃xs:List Value,xs.length=sz∧(∀O w',Rel H nx iv B w O w'->∀j x,xs[j]? =some x->w'.cell? (ad.add j)=some x)∧oh xs (fun l=>K (.a l))
  |_=>False
def setCells(w:World)(a:Addr):List Value->World
 |[]=>w
 |x::r=>setCells (w.setCell a x) (a.add 1) r
def CI(τ:mg)(B:Nat)(t:Nat)(addr x:SV)(H:Hp)(nx:Nat)(iv:Iv)(w:World)(K:Hp->World->Prop):Prop:=
 match τ t with
 |none=>False
 |some ⟨sz,_,_,_,_,_,_,_,_⟩=>
  xp x (fun new=>Gc new (match Nat.beq new.length sz with
   |false=>False
   |true=>match addr with
    | .o (.p id off)=>
     match dB H id with
     |some (.box bt cs)=>qI cs off new (fun cs'=>FH H id (.box bt cs') (fun H'=>K H' w))
     |some (.arr bt cs)=>wu new (fun nv=>off+sz<=cs.length∧∃cs',cs.take off++nv++cs.drop (off+sz)=cs'∧FH H id (.arr bt cs') (fun H'=>K H' w))
     |some (.vec bt ez cs)=>wu new (fun nv=>off+sz<=cs.length∧∃cs',cs.take off++nv++cs.drop (off+sz)=cs'∧FH H id (.vec bt ez cs') (fun H'=>K H' w))
     |_=>False
    | .o (.v (.pointer (some ad)))=>wu new (fun nv=>∀O w',Rel H nx iv B w O w'->
      ad.spot=none∧(∀j,j<sz->(w'.cell? (ad.add j)).isSome=true∧w'.frozen? (ad.add j)=false)∧
      (∀id b,dB H id=some b->(O id).nil=false->(O id).g≠ad.block)∧
      ∀w2,w2=setCells w' ad nv->K H w2)
    |_=>False))
def AS(b:ji)(H:Hp)(nx:Nat)(K:Hp->Nat->Prop):Prop:=K ((nx,b)::H) (nx+1)
def ot(τ:mg)(fs:List (Nat×Nat))(f:Nat)(k:Nat->Nat->Bool->Prop):Prop:=
 match H7 fs f with
 |some (off,ft)=>match τ ft with
  |some ⟨sz,ag,_,_,_,_,_,_,_⟩=>match Nat.beq sz 0 with
   |true=>False
   |false=>k off sz ag
  |none=>False
 |none=>False
def x8(x:SV)(n:Nat)(K:SV->Prop):Prop:=
 match x with
 | .o (.p id off)=>K (.o (.p id (off+n)))
 | .o (.v (.pointer (some ad)))=>K (.o (.v (.pointer (some (ad.add n)))))
 |_=>False
def uS(l:Env)(place:Nat->(Nat->Nat->Prop)->Prop):List (Nat×Operand)->List At->(List At->Prop)->Prop
 |[],cs,k=>k cs
 |(i,x)::r,cs,k=>place i (fun off size=>og l x (fun v=>xp v (fun new=>match Nat.beq new.length size with
   |true=>qI cs off new (fun cs'=>uS l place r cs' k)
   |false=>False)))
def H9(H:Hp)(id m:Nat)(K:Prop):Prop:=
 match dB H id with
 |some (.vec _ sz cs)=>match sz with
  |0=>False
  |k+1=>cs.length=m*(k+1)∧K
 |_=>False
def M8(τ:mg)(H:Hp)(t:Nat)(x:SV)(K:Int->Prop):Prop:=
 match τ t with
 |none=>False
 |some ⟨_,_,_,_,tag,_,_,AP,_⟩=>match Nat.beq tag 4 with
  |true=>match x with
   | .o (.v (.slice _ n _))=>K n
   | .o (.s _ _ n _)=>K n
   | .o (.w id n)=>H9 H id n (K n)
   |_=>False
  |false=>match Nat.beq tag 3 with
   |true=>match x with
    | .o (.v (.string b))=>K b.size
    |_=>False
   |false=>match Nat.beq tag 6 with
    |true=>K AP
    |false=>False
def FO(τ:mg)(H:Hp)(t:Nat)(x i:SV)(K:SV->Prop):Prop:=
 match i with
 | .o (.v (.int _ i))=>match τ t with
  |some ⟨_,_,_,_,tag,_,e,AP,_⟩=>match τ e with
   |some ⟨sz,_,_,_,_,_,_,_,_⟩=>match Nat.beq tag 4 with
    |true=>match x with
     | .o (.s id off n _)=>(0<=i∧i<n)∧K (.o (.p id (off+i.toNat*sz)))
     | .o (.w id n)=>H9 H id n ((0<=i∧i<n)∧K (.o (.p id (i.toNat*sz))))
     | .o (.v (.slice a n _))=>∃ad,a=some ad∧(0<=i∧i<n)∧K (.o (.v (.pointer (some (ad.add (i.toNat*sz))))))
     |_=>False
    |false=>match Nat.beq tag 6 with
     |true=>(0<=i∧i<AP)∧x8 x (i.toNat*sz) K
     |false=>False
   |none=>False
  |none=>False
 |_=>False
def LP(l:Env)(x:Option Operand)(dflt:Int)(K:Int->Prop):Prop:=
 match x with
 |none=>K dflt
 |some o=>og l o (fun v=>match v with
  | .o (.v (.int _ n))=>K n
  |_=>False)
def FP(τ:mg)(H:Hp)(t:Nat)(x:SV)(l:Env)(lo hi:Option Operand)(K:SV->Prop):Prop:=
 match τ t with
 |some ⟨_,_,_,_,tag,_,e,al,_⟩=>match Nat.beq tag 4 with
  |true=>match τ e with
   |some ⟨sz,_,_,_,_,_,_,_,_⟩=>match x with
    | .o (.s id off n c)=>LP l lo 0 (fun a=>LP l hi n (fun b=>(0<=a∧a<=b∧b<=c)∧∃off' n' c':Nat,(if (c:Int)=a then off else off+a.toNat*sz)=off'∧b.toNat-a.toNat=n'∧c-a.toNat=c'∧K (.o (.s id off' n' c'))))
    | .o (.v (.slice ad n c))=>LP l lo 0 (fun a=>LP l hi n (fun b=>(0<=a∧a<=b∧b<=c)∧∃ad' n' c',(if (c:Int)=a then ad else ad.map (·.add (a.toNat*sz)))=ad'∧b.toNat-a.toNat=n'∧c-a.toNat=c'∧K (.o (.v (.slice ad' n' c')))))
    | .o (.w id n)=>match lo with
     |none=>H9 H id n (LP l hi n (fun b=>(0<=b∧b<=n)∧∃m:Nat,b.toNat=m∧K (.o (.w id m))))
     |some _=>False
    |_=>False
   |none=>False
  |false=>match Nat.beq tag 6 with
   |true=>match τ e with
    |some ⟨_,_,_,_,_,_,_,_,_⟩=>match x with
     | .o (.p id off)=>match lo,hi with
      |none,none=>match Nat.beq al 0 with
       |false=>K (.o (.s id off al al))
       |true=>False
      |_,_=>False
     |_=>False
    |none=>False
   |false=>match Nat.beq tag 3 with
    |true=>match x with
     | .o (.v (.string s))=>LP l lo 0 (fun a=>LP l hi s.size (fun b=>(0<=a∧a<=b∧b<=s.size)∧K (.o (.v (.string (s.extract a.toNat b.toNat))))))
     |_=>False
    |false=>False
 |none=>False
def Gg(τ:mg)(t:Nat)(x y:SV)(H:Hp)(nx:Nat)(K:SV->Hp->Nat->Prop):Prop:=
 match x,y with
 | .o (.v (.int _ a)),.o (.v (.int _ b))=>match τ t with
  |some ⟨_,_,_,_,tag,_,e,_,_⟩=>match Nat.beq tag 4 with
   |true=>match τ e with
    |some ⟨_,_,by_,ze,_,_,_,_,_⟩=>∃n c:Nat,a=n∧b=c∧n<=c∧by_*c<=281474976710656∧c<=9223372036854775807∧
      match ze with
      |[z]=>AS (.arr e (List.replicate c z)) H nx (fun H' OL=>K (.o (.s nx 0 n c)) H' OL)
      |zs=>AS (.arr e (List.replicate c zs).flatten) H nx (fun H' OL=>K (.o (.s nx 0 n c)) H' OL)
    |none=>False
   |false=>False
  |none=>False
 |_,_=>False
def Ir(B:Nat)(H:Hp)(nx:Nat)(iv:Iv)(w:World)(size:Nat)(x:SV)(K:Nat->List Value->Prop):Prop:=
 match x with
 | .o (.s id off n _)=>match dB H id with
  |some (.box _ cs)=>sW cs off (fun r=>sX r (n*size) (fun l=>wu l (fun vs=>K n vs)))
  |some (.arr _ cs)=>∃vs:List Value,(cs.drop off).take (n*size)=vs∧vs.length=n*size∧(∀x∈vs,x.oneCell'=true)∧K n vs
  |_=>False
 | .o (.v (.slice a n _))=>∃vs:List Value,vs.length=n*size∧(∀x∈vs,x.oneCell'=true)∧
   (∀O w',Rel H nx iv B w O w'->0<n->∃ad,a=some ad∧∀j u,vs[j]? =some u->w'.cell? (ad.add j)=some u)∧K n vs
 | .o (.w id n)=>match dB H id with
  |some (.vec _ _ cs)=>cs.length=n*size∧(∀x∈cs,x.oneCell'=true)∧K n cs
  |_=>False
 |_=>False
def x9(τ:mg)(B:Nat)(t:Nat)(x y:SV)(H:Hp)(nx:Nat)(iv:Iv)(w:World)(K:SV->Hp->Nat->Prop):Prop:=
 match τ t with
 |none=>False
 |some ⟨_,_,_,_,tag,_,e,_,_⟩=>match Nat.beq tag 4 with
  |true=>match τ e with
   |some ⟨sz,_,by_,ze,_,_,_,_,_⟩=>match ze with
    |[]=>False
    |_::_=>Ir B H nx iv w sz y (fun m news=>
     match x with
     | .o (.v (.slice none 0 0))=>m*by_<=140737488355328∧m<=maxLen∧AS (.vec e sz news) H nx (fun H' OL=>K (.o (.w nx m)) H' OL)
     | .o (.w id n)=>match dB H id with
      |some (.vec e' sz' cs)=>match Nat.beq e' e with
       |true=>match Nat.beq sz' sz with
        |true=>cs.length=n*sz∧(n+m)*by_<=140737488355328∧n+m<=maxLen∧BA H id (fun H1=>AS (.vec e sz (cs++news)) H1 nx (fun H' OL=>K (.o (.w nx (n+m))) H' OL))
        |false=>False
       |false=>False
      |_=>False
     | .o (.s id 0 n c)=>match Nat.beq n c with
      |true=>match dB H id with
       |some (.box e' cs)=>match Nat.beq e' e with
        |true=>wu cs (fun vs=>vs.length=n*sz∧(n+m)*by_<=140737488355328∧n+m<=maxLen∧BA H id (fun H1=>AS (.vec e sz (vs++news)) H1 nx (fun H' OL=>K (.o (.w nx (n+m))) H' OL)))
        |false=>False
       |_=>False
      |false=>False
     |_=>False)
   |none=>False
  |false=>False
def mR(O:Nat->dg)(xs:List SV):Array Value:=(xs.map (SV.den O)).toArray
abbrev Ext(w w2:World):Prop:=RowKit.Below w.heap.size w w2
structure D6(P:Program)(B:Nat)(g:Nat)(args:(Nat->dg)->Array Value)(H:Hp)(nx:Nat)(iv:Iv)(w:World)(K:SV->Hp->Iv->World->Prop):Prop where
 h:∀O w',Rel H nx iv B w O w'->eD P g (args O) w' (fun e w2=>∃v H' iv',e= .returned v∧Rel H' nx iv' B w2 O w2∧K (.o (.v v)) H' iv' w2)
structure D2(P:Program)(B:Nat)(g:Nat)(args:(Nat->dg)->Array Value)(H:Hp)(nx:Nat)(iv:Iv)(w:World)(K:SV->Hp->Iv->World->Prop):Prop where
 h:∀O w',Rel H nx iv B w O w'->eD P g (args O) w' (fun e w2=>∃v,e= .returned v∧Ext w' w2∧K (.o (.v v)) H ((w'.heap.size,w2.heap.size)::iv) w2)
def Is(dr:Bool)(P:Program)(B:Nat)(g:Nat)(args:(Nat->dg)->Array Value)(H:Hp)(nx:Nat)(iv:Iv)(w:World)(K:SV->Hp->Iv->World->Prop):Prop:=
 match dr with
 |true=>D2 P B g args H nx iv w K
 |false=>D6 P B g args H nx iv w K
structure yB(P:Program)(B:Nat)(o:Oper)(l:Env)(H:Hp)(nx:Nat)(iv:Iv)(w:World)(K:SV->Hp->Nat->Iv->World->Prop):Prop where
 h:∀(O:Nat->dg) w' (e:Operand->Value),Rel H nx iv B w O w'->(∀x v,ev l x=some v->e x=v.den O)->
  ∃v w2 iv',((execOp e o).run P w'= .ok (.value v) w2∨((execOp e o).run P w'= .ok .skip w2∧v=undef))∧Rel H nx iv' B w2 O w2∧K (.o (.v v)) H nx iv' w2
def fbK(dr:Bool)(P:Program)(B:Nat)(o:Oper)(l:Env)(H:Hp)(nx:Nat)(iv:Iv)(w:World)(K:SV->Hp->Nat->Iv->World->Prop):Prop:=
 match dr with
 |true=>False
 |false=>yB P B o l H nx iv w K
structure OpG(P:Program)(B:Nat)(o:Oper)(l:Env)(H:Hp)(nx:Nat)(iv:Iv)(w:World)(K:SV->Hp->Nat->Iv->World->Prop):Prop where
 h:∀(O:Nat->dg) w' (e:Operand->Value),Rel H nx iv B w O w'->(∀x v,ev l x=some v->e x=v.den O)->
  ∃w2 w3 H' iv',(execOp e o).run P w'= .ok .skip w3∧Rel H' nx iv' B w2 O w3∧K (.o (.v undef)) H' nx iv' w2
def gbK(dr:Bool)(P:Program)(B:Nat)(o:Oper)(l:Env)(H:Hp)(nx:Nat)(iv:Iv)(w:World)(K:SV->Hp->Nat->Iv->World->Prop):Prop:=
 match dr with
 |true=>False
 |false=>OpG P B o l H nx iv w K
structure OpA(P:Program)(B:Nat)(o:Oper)(l:Env)(H:Hp)(nx:Nat)(iv:Iv)(w:World)(K:SV->Hp->Nat->Iv->World->Prop):Prop where
 h:∀(O:Nat->dg) w' (e:Operand->Value),Rel H nx iv B w O w'->(∀x v,ev l x=some v->e x=v.den O)->
  ∃v H' OL iv' ρ' w2 w3,(execOp e o).run P w'= .ok (.value (SV.den ρ' v)) w3∧Rel H' OL iv' B w2 ρ' w3∧v.sc OL∧nx<=OL∧(∀id,id<nx->O id=ρ' id)∧K v H' OL iv' w2
def gaK(dr:Bool)(P:Program)(B:Nat)(o:Oper)(l:Env)(H:Hp)(nx:Nat)(iv:Iv)(w:World)(K:SV->Hp->Nat->Iv->World->Prop):Prop:=
 match dr with
 |true=>False
 |false=>OpA P B o l H nx iv w K
def NX(H:Hp):SV->Bool
 | .o (.s id _ _ _)=>match dB H id with
  |some (.box _ [.s _ _ _ _])=>true
  |some (.box _ [.w _ _])=>true
  |_=>false
 |_=>false
def MK(H:Hp):SV->SV->Bool
 | .o (.p id _),.o (.s _ _ _ _)=>match dB H id with
  |some (.arr _ _)=>true
  |_=>false
 |_,_=>false
def nN:List SV->(List Nat->Prop)->Prop
 |[],k=>k []
 | .o (.p id 0)::r,k=>nN r (fun l=>k (id::l))
 |_::_,_=>False
def xq(dr:Bool)(P:Program)(τ:mg)(B:Nat)(o:Oper)(l:Env)(H:Hp)(nx:Nat)(iv:Iv)(w:World)(K:SV->Hp->Nat->Iv->World->Prop):Prop:=
 match o.op with
 | .move x=>og l x (fun v=>K v H nx iv w)
 | .assign x=>og l x (fun v=>K v H nx iv w)
 | .pick c a b=>og l c (fun v=>match v with
  | .o (.v (.bool t))=>dN t (og l a (fun v=>K v H nx iv w)) (og l b (fun v=>K v H nx iv w))
  |_=>False)
 | .alloc t=>match τ t with
  |some ⟨_,_,_,ze,_,_,_,_,_⟩=>oh ze (fun cs=>AS (.box t cs) H nx (fun H' OL=>K (.o (.p nx 0)) H' OL iv w))
  |none=>False
 | .box t x=>og l x (fun v=>xp v (fun cs=>AS (.box t cs) H nx (fun H' OL=>K (.o (.p nx 0)) H' OL iv w)))
 | .build t parts=>match τ t with
  |some ⟨_,_,_,ze,tag,_,e,_,fs⟩=>match Nat.beq tag 5 with
   |true=>oh ze (fun z=>uS l (fun i k=>ot τ fs i (fun off sz _=>k off sz)) parts.toList z (fun cs=>K (.a cs) H nx iv w))
   |false=>match Nat.beq tag 6 with
    |true=>match τ e with
     |some ⟨sz,_,_,_,_,_,_,_,_⟩=>oh ze (fun z=>uS l (fun i k=>k (i*sz) sz) parts.toList z (fun cs=>K (.a cs) H nx iv w))
     |none=>False
    |false=>False
  |none=>False
 | .buildSlice t n parts=>match τ t with
  |some ⟨_,_,_,_,tag,_,e,_,_⟩=>match Nat.beq tag 4 with
   |true=>match τ e with
    |some ⟨sz,_,_,ze,_,_,_,_,_⟩=>match Nat.ble (n*sz) 16777216 with
     |true=>oh (List.replicate n ze).flatten (fun z=>uS l (fun i k=>k (i*sz) sz) parts.toList z (fun cs=>
       AS (.box e cs) H nx (fun H' OL=>K (.o (.s nx 0 n n)) H' OL iv w)))
     |false=>False
    |none=>False
   |false=>False
  |none=>False
 | .load t a=>og l a (fun v=>BH τ B t v H nx iv w (fun r=>K r H nx iv w))
 | .store t a x=>og l a (fun va=>og l x (fun vx=>match MK H va vx with
  |true=>gbK dr P B o l H nx iv w K
  |false=>CI τ B t va vx H nx iv w (fun H' w'=>K (.o (.v undef)) H' nx iv w')))
 | .nilCheck x=>og l x (fun v=>match v with
  | .o (.p id off)=>K (.o (.p id off)) H nx iv w
  | .o (.v (.pointer (some ad)))=>K (.o (.v (.pointer (some ad)))) H nx iv w
  | .o (.fn f ids)=>K (.o (.fn f ids)) H nx iv w
  | .o (.v (.func (.func f) fi ca))=>K (.o (.v (.func (.func f) fi ca))) H nx iv w
  |_=>False)
 | .binOp op t x y _=>og l x (fun vx=>og l y (fun vy=>M7 P τ op t vx vy (fun r=>K r H nx iv w)))
 | .unOp op _ x=>og l x (fun v=>match op,v with
  | .not,.o (.v (.bool b))=>K (.o (.v (.bool (!b)))) H nx iv w
  | .neg,.o (.v (.int k n))=>∃r,k.wrap (0-n)=r∧K (.o (.v (.int k r))) H nx iv w
  | .xor,.o (.v (.int k n))=>∃r,k.wrap ((BitVec.ofInt k.bits (if k.signed then -1 else k.max) ^^^ BitVec.ofInt k.bits n).toNat:Int)=r∧K (.o (.v (.int k r))) H nx iv w
  |_,_=>False)
 | .convert sr d x=>match τ sr with
  |some _=>og l x (fun v=>match τ d with
   |some ⟨_,_,_,_,tag,ik,_,_,_⟩=>match Nat.beq tag 1 with
    |true=>match v with
     | .o (.v (.int _ n))=>∃r,ik.wrap n=r∧K (.o (.v (.int ik r))) H nx iv w
     |_=>False
    |false=>fbK dr P B o l H nx iv w K
   |none=>False)
  |none=>False
 | .makeFunc (.func f) ⟨first⟩ caps=>match first with
  |[]=>Ie l caps.toList (fun vs=>nN vs (fun ids=>K (.o (.fn f ids)) H nx iv w))
  |_=>False
 | .makeSlice t x y=>og l x (fun vx=>og l y (fun vy=>Gg τ t vx vy H nx (fun v H' OL=>K v H' OL iv w)))
 | .slice t x lo hi none=>og l x (fun v=>FP τ H t v l lo hi (fun r=>K r H nx iv w))
 | .fieldAddr t x f=>match τ t with
  |some ⟨_,_,_,_,tag,_,_,_,fs⟩=>match Nat.beq tag 5 with
   |true=>ot τ fs f (fun off _ _=>og l x (fun v=>x8 v off (fun r=>K r H nx iv w)))
   |false=>False
  |none=>False
 | .field t x f=>match τ t with
  |some ⟨_,_,_,_,tag,_,_,_,fs⟩=>match Nat.beq tag 5 with
   |true=>ot τ fs f (fun off sz ag=>og l x (fun v=>match v with
    | .o (.v (.agg ⟨vs⟩))=>oh vs (fun cs=>match ag with
     |true=>sW cs off (fun r=>sX r sz (fun c=>K (.a c) H nx iv w))
     |false=>match CH cs off with
      |some c=>K (.o c) H nx iv w
      |none=>False)
    | .a cs=>match ag with
     |true=>sW cs off (fun r=>sX r sz (fun c=>K (.a c) H nx iv w))
     |false=>match CH cs off with
      |some c=>K (.o c) H nx iv w
      |none=>False
    |_=>False))
   |false=>False
  |none=>False
 | .indexAddr t x i=>og l x (fun vx=>og l i (fun vi=>FO τ H t vx vi (fun r=>K r H nx iv w)))
 | .extract x i=>og l x (fun v=>match v with
  | .o (.v (.tuple ⟨vs⟩))=>match H6 vs i with
   |some u=>K (.o (.v u)) H nx iv w
   |none=>False
  |_=>False)
 | .call ⟨.builtin .len,⟨[x]⟩,⟨[t]⟩⟩=>og l x (fun v=>M8 τ H t v (fun n=>K (.o (.v (.int .i64 n))) H nx iv w))
 | .call ⟨.builtin .append,⟨[x,y]⟩,⟨[t,u]⟩⟩=>match Nat.beq t u with
  |true=>og l x (fun vx=>og l y (fun vy=>match NX H vy with
   |true=>gaK dr P B o l H nx iv w K
   |false=>x9 τ B t vx vy H nx iv w (fun v H' OL=>K v H' OL iv w)∨yB P B o l H nx iv w K))
  |false=>yB P B o l H nx iv w K
 | .call ⟨.builtin .max,⟨[x,y]⟩,_⟩=>og l x (fun vx=>og l y (fun vy=>match vx,vy with
  | .o (.v (.int k a)),.o (.v (.int k' b))=>match oq k k' with
   |true=>K (.o (.v (.int k (max a b)))) H nx iv w
   |false=>False
  |_,_=>False))
 | .call ⟨.builtin .min,⟨[x,y]⟩,_⟩=>og l x (fun vx=>og l y (fun vy=>match vx,vy with
  | .o (.v (.int k a)),.o (.v (.int k' b))=>match oq k k' with
   |true=>K (.o (.v (.int k (min a b)))) H nx iv w
   |false=>False
  |_,_=>False))
 | .call ⟨.builtin .copy,_,_⟩=>yB P B o l H nx iv w K
 | .call ⟨.builtin .clear,_,_⟩=>yB P B o l H nx iv w K
 | .call ⟨.builtin .cap,_,_⟩=>yB P B o l H nx iv w K
 | .index _ _ _=>yB P B o l H nx iv w K
 | .makeMap _ _=>yB P B o l H nx iv w K
 | .lookup _ _ _ _=>yB P B o l H nx iv w K
 | .mapUpdate _ _ _ _=>yB P B o l H nx iv w K
 | .call ⟨.value f,⟨args⟩,_⟩=>og l f (fun vf=>Ie l args (fun vs=>match vf with
   | .o (.v (.func (.func g) first caps))=>Is dr P B g (fun O=>first++mR O vs++caps) H nx iv w (fun v H' iv' w'=>K v H' nx iv' w')
   | .o (.fn g ids)=>Is dr P B g (fun O=>mR O vs++(ids.map fun id=>Value.pointer (some ⟨(O id).g,0,none⟩)).toArray) H nx iv w (fun v H' iv' w'=>K v H' nx iv' w')
   |_=>False))
 |_=>False
def BI:List Oper->Nat->Option Tmp
 |[],_=>none
 |o::_,0=>o.dst
 |_::r,n+1=>BI r n
def DZ(d:Option Tmp)(v:SV)(l:Env)(k:Env->Prop):Prop:=match d with
 |some t=>k ((t,v)::l)
 |none=>k l
def sZ(all:List Oper)(g:Option (Nat×Bool))(l:Env)(yes no:Env->Prop):Prop:=
 match g with
 |none=>yes l
 |some (j,want)=>match BI all j with
  |none=>no l
  |some d=>match fL l d with
   |some (.o (.v (.bool b)))=>match want with
    |true=>dN b (yes ((d,.o (.v (.bool true)))::l)) (no ((d,.o (.v (.bool false)))::l))
    |false=>dN b (no ((d,.o (.v (.bool true)))::l)) (yes ((d,.o (.v (.bool false)))::l))
   |some (.o (.v (.tuple _)))=>no l
   |_=>False
def fc(dr:Bool)(P:Program)(τ:mg)(B:Nat)(all:List Oper)(o:Oper)(l:Env)(H:Hp)(nx:Nat)(iv:Iv)(w:World)(k:Env->Hp->Nat->Iv->World->Prop):Prop:=
 sZ all o.guard l
  (fun l=>xq dr P τ B o l H nx iv w (fun v H' OL iv' w'=>DZ o.dst v l (fun l'=>k l' H' OL iv' w')))
  (fun l=>DZ o.dst (.o (.v undef)) l (fun l'=>k l' H nx iv w))
def Gi(P:Program)(τ:mg)(B:Nat)(all:List Oper):List Oper->Env->Hp->Nat->Iv->World->(Env->Hp->Nat->Iv->World->Prop)->Prop
 |[],l,H,nx,iv,w,K=>K l H nx iv w
 |o::r,l,H,nx,iv,w,K=>fc false P τ B all o l H nx iv w (fun l' H' OL iv' w'=>Gi P τ B all r l' H' OL iv' w' K)
inductive Ex where
 |normal
 |exit (id:Nat)
 |ret
structure Sat(n:Nat)(l:Env)(H:Hp)(nx:Nat)(iv:Iv)(B:Nat)(w:World)(O:Nat->dg)(a:Act)(w':World):Prop where
 rel:Rel H nx iv B w O w'
 size:a.tmps.size=n
 defers:a.defers=[]
 env:∀t v,fL l t=some v->a.tmps[t]? =some (v.den O)
 sc:∀t v,fL l t=some v->v.sc nx
abbrev KT:=Env->Hp->Nat->Iv->World->Prop
structure uQ(P:Program)(B:Nat)(ops:Array Oper)(l:Env)(H:Hp)(nx:Nat)(iv:Iv)(w:World)(K:KT):Prop where
 h:∀n O a w',ops.toList.all (fun o=>match o.dst with
   |some d=>Nat.blt d n
   |none=>true)=true->Sat n l H nx iv B w O a w'->
  ∀Q:Exit->Act->World->Prop,(∀l' H' OL iv' w2 ρ' a' w'',K l' H' OL iv' w2->Sat n l' H' OL iv' B w2 ρ' a' w''->Q .normal a' w'')->
  ∀id,(Code.region id ops true).wp P Q a w'
structure yE where
 l:Env
 H:Hp
 nx:Nat
 iv:Iv
 w:World
def Sub(B:Nat)(l:Env)(_nx:Nat)(O:Nat->dg)(w':World)(t:yE):Prop:=
 ∃ρ',Rel t.H t.nx t.iv B t.w ρ' w'∧(∀u v,fL t.l u=some v->v.sc t.nx∧∃v0,fL l u=some v0∧v0.den O=v.den ρ')
def mT(P:Program)(τ:mg)(B:Nat):Code->Env->Hp->Nat->Iv->World->(Ex->KT)->Prop
 | .skip,l,H,nx,iv,w,Q=>Q .normal l H nx iv w
 | .region _ ops false,l,H,nx,iv,w,Q=>Gi P τ B ops.toList ops.toList l H nx iv w (Q .normal)
 | .region _ ops true,l,H,nx,iv,w,Q=>uQ P B ops l H nx iv w (Q .normal)
 | .seq a b,l,H,nx,iv,w,Q=>mT P τ B a l H nx iv w (fun e l H nx iv w=>match e with
  | .normal=>mT P τ B b l H nx iv w Q
  | .exit id=>Q (.exit id) l H nx iv w
  | .ret=>Q .ret l H nx iv w)
 | .cond c a b,l,H,nx,iv,w,Q=>og l c (fun v=>match v with
  | .o (.v (.bool t))=>dN t (mT P τ B a l H nx iv w Q) (mT P τ B b l H nx iv w Q)
  |_=>False)
 | .block id c,l,H,nx,iv,w,Q=>mT P τ B c l H nx iv w (fun e l H nx iv w=>match e with
  | .normal=>Q .normal l H nx iv w
  | .exit id'=>match Nat.beq id' id with
   |true=>Q .normal l H nx iv w
   |false=>Q (.exit id') l H nx iv w
  | .ret=>Q .ret l H nx iv w)
 | .loop c,l,H,nx,iv,w,Q=>∃(α:Type) (st:α->yE) (μ:α->Nat) (I:α->Prop),
   (∀O w',Rel H nx iv B w O w'->∃x,I x∧Sub B l nx O w' (st x))∧
   ∀x,I x->mT P τ B c (st x).l (st x).H (st x).nx (st x).iv (st x).w (fun e l H nx iv w=>match e with
    | .normal=>∀O w',Rel H nx iv B w O w'->∃y,I y∧Sub B l nx O w' (st y)∧μ y<μ x
    | .exit id=>Q (.exit id) l H nx iv w
    | .ret=>Q .ret l H nx iv w)
 | .exit id,l,H,nx,iv,w,Q=>Q (.exit id) l H nx iv w
 | .ret,l,H,nx,iv,w,Q=>Q .ret l H nx iv w
 |_,_,_,_,_,_,_=>False
structure FN(P:Program)(t:Nat)(i:TI):Prop where
 info:∃inf z,P.info? t=some inf∧inf.size=i.size∧inf.bytes=i.bytes∧inf.zero=some z∧z.cells.toList=i.zero
 H4:i.zero.length=i.size
 aAF:∀x∈i.zero,x.oneCell'=true
 agg:∃d,P.underlying t=some d∧(match d with| .struct _| .array _ _=>true|_=>false)=i.agg
 i1:i.tag=1->P.underlying t=some (.int i.ik)
 i2:i.tag=2->P.underlying t=some .bool
 i3:i.tag=3->P.underlying t=some .string
 i4:i.tag=4->P.underlying t=some (.slice i.elem)
 i5:i.tag=5->∃fs,P.underlying t=some (.struct fs)∧fs.toList.map (fun f=>(f.offset,f.type))=i.fields∧∀f∈fs.toList,(P.info? f.type).isSome=true
 i6:i.tag=6->P.underlying t=some (.array i.AP i.elem)
def fH(P:Program)(τ:mg):Prop:=∀t i,τ t=some i->FN P t i
theorem eJ{a b:Nat}(h:Nat.beq a b=true):a=b:=bS h
theorem fe:∀{xs:List Value} {k:List At->Prop},oh xs k->k (xs.map At.v)
 |[],_,h=>h
 |x::r,k,h=>by
  have:=fe (xs:=r) (k:=fun r'=>k (.v x::r')) h;simpa using this
theorem nO:∀{cs:List At} {n:Nat} {k:List At->Prop},sW cs n k->k (cs.drop n)∧n<=cs.length
 |cs,0,k,h=>by cases cs<;>exact⟨by simpa [sW]using h,by simp⟩
 |[],n+1,k,h=>by simp[sW]at h
 |x::t,n+1,k,h=>by
  have:=nO (cs:=t) (n:=n) (k:=k) h;exact⟨by simpa using this.1,by simp;omega⟩
theorem nP:∀{cs:List At} {n:Nat} {k:List At->Prop},sX cs n k->k (cs.take n)∧n<=cs.length
 |cs,0,k,h=>by cases cs<;>exact⟨by simpa [sX]using h,by simp⟩
 |[],n+1,k,h=>by simp[sX]at h
 |x::t,n+1,k,h=>by
  have:=nP (cs:=t) (n:=n) (k:=fun r=>k (x::r)) h;exact⟨by simpa using this.1,by simp;omega⟩
theorem yG:∀{cs new:List At} {k:List At->Prop},BB cs new k->k (new++cs.drop new.length)∧new.length<=cs.length
 |cs,[],k,h=>by cases cs<;>exact⟨by simpa [BB]using h,by simp⟩
 |[],x::r,k,h=>by simp[BB]at h
 |_::t,x::r,k,h=>by
  have:=yG (cs:=t) (new:=r) (k:=fun t'=>k (x::t')) h;exact⟨by simpa using this.1,by simp;omega⟩
theorem nQ:∀{cs:List At} {off:Nat} {new:List At} {k:List At->Prop},qI cs off new k->
  k (cs.take off++new++cs.drop (off+new.length))∧off+new.length<=cs.length
 |cs,0,new,k,h=>by
  have h':BB cs new k:=by cases cs<;>simpa [qI]using h
  have:=yG h';exact⟨by simpa using this.1,by omega⟩
 |[],n+1,new,k,h=>by simp[qI]at h
 |x::t,n+1,new,k,h=>by
  have:=nQ (cs:=t) (off:=n) (new:=new) (k:=fun t'=>k (x::t')) h;refine⟨?_,by simp;omega⟩;have h2:=this.1;rw[show n+1+new.length=(n+new.length)+1 by omega];simpa using h2
theorem one_den{x:At}(h:x.one=true)(O:Nat->dg):(x.den O).oneCell'=true:=by
 cases x with
 |v y=>cases y<;>simp_all [At.one,At.den,Value.oneCell']
 |w id n=>simp only[At.den];split<;>rfl
 |_=>rfl
theorem yH:∀{cs:List At} {k:Prop},Gc cs k->k∧∀c∈cs,At.one c=true
 |[],k,h=>⟨h,by simp⟩
 |x::r,k,h=>by
  unfold Gc at h;split at h
  ·rename_i hx;have:=yH h;exact⟨this.1,by simp[hx];exact this.2⟩
  ·exact h.elim
theorem kj:∀{cs:List At} {k:List Value->Prop},wu cs k->∃vs,k vs∧cs=vs.map At.v∧∀v∈vs,v.oneCell'=true
 |[],k,h=>⟨[],h,rfl,by simp⟩
 | .v x::r,k,h=>by
  unfold wu at h;split at h
  ·rename_i hx;obtain⟨vs,h1,h2,h3⟩:=kj h;exact⟨x::vs,h1,by simp[h2],by simp;exact⟨one_den hx (fun _=>⟨0,0,false⟩),h3⟩⟩
  ·exact h.elim
 | .p _ _::_,k,h=>by simp[wu]at h
 | .s _ _ _ _::_,k,h=>by simp[wu]at h
 | .w _ _::_,k,h=>by simp[wu]at h
 | .fn _ _::_,k,h=>by simp[wu]at h
theorem lg{x:SV}{k:List At->Prop}(h:xp x k):∃cs,k cs∧(∀O,(x.den O).cells=(cs.map (At.den O)).toArray)∧(∀n,x.sc n->∀c∈cs,c.sc n):=by
 cases x with
 |a cs=>exact⟨cs,h,fun O=>rfl,fun n hn=>hn⟩
 |o y=>
  cases y with
  |v z=>
   cases z with
   |agg arr=>
    obtain⟨l⟩:=arr;refine⟨_,fe h,fun O=>?_,fun n _ c hc=>?_⟩
    ·simp[SV.den,At.den,Value.cells,Function.comp_def]
    ·simp at hc;obtain⟨v,_,rfl⟩:=hc;trivial
   |tuple arr=>simp[xp]at h
   |_=>exact⟨_,h,fun O=>rfl,fun n _ c hc=>by simp at hc;subst hc;trivial⟩
  |w id n=>exact⟨_,h,fun O=>by simp only[SV.den,At.den,List.map];split<;>rfl,fun n hn c hc=>by simp at hc;subst hc;exact hn⟩
  |_=>exact⟨_,h,fun O=>rfl,fun n hn c hc=>by simp at hc;subst hc;exact hn⟩
theorem dA(t:Nat)(b:ji)(r:Hp)(u:Nat):dB ((t,b)::r) u=if t=u then some b else dB r u:=by
 show(match Nat.beq t u with|true=>some b|false=>dB r u)=_;split
 ·rename_i h;rw[if_pos (eJ h)]
 ·rename_i h;rw[aK (fun e=>by subst e;rw[Nat.beq_refl]at h;cases h)]
theorem eS(t:Nat)(b:SV)(r:Env)(u:Nat):fL ((t,b)::r) u=if t=u then some b else fL r u:=by
 show(match Nat.beq t u with|true=>some b|false=>fL r u)=_;split
 ·rename_i h;rw[if_pos (eJ h)]
 ·rename_i h;rw[aK (fun e=>by subst e;rw[Nat.beq_refl]at h;cases h)]
theorem qM:∀{H:Hp} {id:Nat} {b:ji} {k:Hp->Prop},FH H id b k->∃H',k H'∧(∀j,dB H' j=if j=id then some b else dB H j)∧(dB H id).isSome=true
 |[],id,b,k,h=>by simp[FH]at h
 |(t,v)::r,id,b,k,h=>by
  unfold FH at h;split at h
  ·rename_i ht;have:=eJ ht;subst this;refine⟨_,h,fun j=>?_,by simp[dA]⟩;simp only[dA]
   by_cases e:t=j
   ·simp[e]
   ·simp[e,Ne.symm e]
  ·rename_i ht;have OG:t≠id:=fun e=>by subst e;rw[Nat.beq_refl]at ht;cases ht
   obtain⟨H',h1,h2,h3⟩:=qM h;refine⟨_,h1,fun j=>?_,by simp[dA,OG,h3]⟩;simp only[dA,h2]
   by_cases e:t=j
   ·subst e;simp[OG]
   ·simp[e]
theorem rP:∀{H:Hp} {id:Nat} {k:Hp->Prop},BA H id k->∃H',k H'∧(∀j,dB H' j=if j=id then some .dead else dB H j)∧(dB H id).isSome=true
 |[],id,k,h=>by simp[BA]at h
 |(t,v)::r,id,k,h=>by
  unfold BA at h;split at h
  ·rename_i ht;have:=eJ ht;subst this;refine⟨_,h,fun j=>?_,by simp[dA]⟩;simp only[dA]
   by_cases e:t=j
   ·simp[e]
   ·simp[e,Ne.symm e]
  ·rename_i ht;have OG:t≠id:=fun e=>by subst e;rw[Nat.beq_refl]at ht;cases ht
   obtain⟨H',h1,h2,h3⟩:=rP h;refine⟨_,h1,fun j=>?_,by simp[dA,OG,h3]⟩;simp only[dA,h2]
   by_cases e:t=j
   ·subst e;simp[OG]
   ·simp[e]
theorem At.jW{x:At}{O ρ':Nat->dg}(h:∀id,id<n->O id=ρ' id)(hx:x.sc n):x.den O=x.den ρ':=by
 cases x with
 |v y=>rfl
 |p id off=>simp only[At.den,h id hx]
 |s id off len cap=>simp only[At.den,h id hx]
 |w id len=>simp only[At.den,h id hx]
 |fn f caps=>
  simp only[At.den]
  congr 2;exact List.map_congr_left fun id Oj=>by rw[h id (hx id Oj)]
theorem SV.jW{x:SV}{O ρ':Nat->dg}(h:∀id,id<n->O id=ρ' id)(hx:x.sc n):x.den O=x.den ρ':=by
 cases x with
 |o y=>exact At.jW h hx
 |a cs=>
  simp only[SV.den]
  congr 2;exact List.map_congr_left fun c hc=>At.jW h (hx c hc)
theorem At.s8{x:At}(h:n<=m)(hx:x.sc n):x.sc m:=by
 cases x with
 |v y=>trivial
 |fn f caps=>intro id Oj;have:=hx id Oj;omega
 |_=>simp only[At.sc]at *;omega
theorem SV.s8{x:SV}(h:n<=m)(hx:x.sc n):x.sc m:=by
 cases x with
 |o y=>exact At.s8 h hx
 |a cs=>exact fun c hc=>At.s8 h (hx c hc)
theorem Rel.drew{H:Hp}{iv:Iv}{w:World}{O:Nat->dg}(r:Rel H nx iv B w O w'):Rel H nx iv B w O w'.drew:=
 ⟨r.os,r.tape,r.output,r.size,r.base,r.oe,r.keys,r.box,r.arr,r.vec,r.inj,r.low,r.uP,r.jo,r.LG,r.nn⟩
def gP(O:Nat->dg)(nx:Nat)(v:dg):Nat->dg:=fun j=>if j=nx then v else O j
theorem gA{O:Nat->dg}{v:dg}:∀id,id<nx->O id=gP O nx v id:=fun id h=>by simp[gP,Nat.ne_of_lt h]
@[simp] theorem eN {O:Nat->dg} {nx:Nat} {v:dg}:gP O nx v nx=v:=by simp[gP]
def ji.fits(b:ji)(O:Nat->dg)(v:dg)(w:World):Prop:=
 match b with
 | .box t cs=>v.nil=false∧w.heap[v.g]? =some (.cells (cs.map (At.den O)).toArray t (0,0))
 | .arr t cs=>v.nil=false∧w.heap[v.g]? =some (.cells cs.toArray t (0,0))
 | .vec t size cs=>(v.nil=true∧cs=[])∨(v.nil=false∧∃spare:List Value,w.heap[v.g]? =some (.cells (cs++spare).toArray t (0,0))∧(cs++spare).length=v.cap*size∧v.cap<=maxLen)
 | .dead=>True
def ji.scopd(b:ji)(n:Nat):Prop:=match b with
 | .box _ cs=>∀x∈cs,At.sc n x
 |_=>True
theorem Rel.fits{H:Hp}{iv:Iv}{w:World}{O:Nat->dg}(r:Rel H nx iv B w O w'){b:ji}(h:dB H id=some b):b.fits O (O id) w':=by
 cases b with
 |box t cs=>exact⟨r.nn id _ h (by intros;simp) (by simp),r.box id t cs h⟩
 |arr t cs=>exact⟨r.nn id _ h (by intros;simp) (by simp),r.arr id t cs h⟩
 |vec t size cs=>exact r.vec id t size cs h
 |dead=>trivial
theorem Rel.mk'{H:Hp}{iv:Iv}{w:World}{O:Nat->dg}(os:w'.os=w.os)(tape:w'.tape=w.tape)(output:w'.output=w.output)
  (size:w.heap.size<=w'.heap.size) (base:B<=w.heap.size) (oe:∀lo hi,(lo,hi)∈iv->hi<=w.heap.size) (keys:∀id b,dB H id=some b->id<nx)
  (fits:∀id b,dB H id=some b->b.fits O (O id) w') (LG:∀id b,dB H id=some b->b.scopd nx)
  (inj:∀id id' b b',dB H id=some b->dB H id'=some b'->b≠ .dead->b'≠ .dead->(O id).nil=false->(O id').nil=false->(O id).g=(O id').g->id=id')
  (low:∀id b,dB H id=some b->(O id).nil=false->B<=(O id).g∧(O id).g<w'.heap.size)
  (uP:∀k,k<w.heap.size->(∀id b,dB H id=some b->(O id).nil=false->(O id).g≠k)->w'.heap[k]? =w.heap[k]?)
  (jo:∀lo hi,(lo,hi)∈iv->∀id b,dB H id=some b->(O id).nil=false->¬(lo<=(O id).g∧(O id).g<hi)):Rel H nx iv B w O w' where
 os:=os
 tape:=tape
 output:=output
 size:=size
 base:=base
 oe:=oe
 keys:=keys
 box:=fun id t cs h=>(fits id _ h).2
 arr:=fun id t cs h=>(fits id _ h).2
 vec:=fun id t size cs h=>fits id _ h
 inj:=inj
 low:=low
 uP:=uP
 jo:=jo
 LG:=fun id t cs h=>LG id _ h
 nn:=fun id b h h1 h2=>by
  have:=fits id b h
  cases b with
  |box t cs=>exact this.1
  |arr t cs=>exact this.1
  |vec t size cs=>exact absurd rfl (h1 t size cs)
  |dead=>exact absurd rfl h2
theorem ji.gg{b:ji}{O ρ':Nat->dg}{v:dg}{w:World}(h:b.fits O v w)(hρ:∀id,id<n->O id=ρ' id)(hs:b.scopd n)
  (hw:v.nil=false->b≠ .dead->w'.heap[v.g]? =w.heap[v.g]?):b.fits ρ' v w':=by
 cases b with
 |box t cs=>
  obtain⟨h1,h2⟩:=h;refine⟨h1,?_⟩;rw[hw h1 (by simp),h2,List.map_congr_left fun c hc=>At.jW hρ (hs c hc)]
 |arr t cs=>exact⟨h.1,by rw[hw h.1 (by simp)];exact h.2⟩
 |vec t size cs=>
  rcases h with h|⟨h1,spare,h2,h3⟩
  ·exact .inl h
  ·exact .inr ⟨h1,spare,by rw[hw h1 (by simp)];exact h2,h3⟩
 |dead=>trivial
theorem ji.iR{b:ji}(h:n<=m)(hb:b.scopd n):b.scopd m:=by
 cases b with
 |box t cs=>exact fun c hc=>At.s8 h (hb c hc)
 |_=>trivial
theorem Rel.scopd{H:Hp}{iv:Iv}{w:World}{O:Nat->dg}(r:Rel H nx iv B w O w'){b:ji}(h:dB H id=some b):b.scopd nx:=by
 cases b with
 |box t cs=>exact r.LG id t cs h
 |_=>trivial
theorem Rel.push{H:Hp}{iv:Iv}{w:World}{O:Nat->dg}(r:Rel H nx iv B w O w')(b:ji)(v:dg)
  (os:w2.os=w'.os) (tape:w2.tape=w'.tape) (output:w2.output=w'.output) (size:w'.heap.size<=w2.heap.size) (old:∀k,k<w'.heap.size->w2.heap[k]? =w'.heap[k]?)
  (hv:v.nil=false->w'.heap.size<=v.g∧v.g<w2.heap.size) (hb:b.fits O v w2) (hs:b.scopd nx):Rel ((nx,b)::H) (nx+1) iv B w (gP O nx v) w2:=by
 have OU:∀id b,dB H id=some b->id≠nx:=fun id b h=>Nat.ne_of_lt (r.keys id b h);have PT:∀id b,dB H id=some b->gP O nx v id=O id:=fun id b h=>by simp[gP,OU id b h]
 refine Rel.mk' (os.trans r.os) (tape.trans r.tape) (output.trans r.output) (ah r.size size) r.base r.oe ?_ ?_ ?_ ?_ ?_ ?_ ?_
 ·intro id b' h;rw[dA]at h;split at h
  ·omega
  ·have:=r.keys id b' h;omega
 ·intro id b' h;rw[dA]at h;split at h
  ·rename_i e;subst e;injection h with h;subst h;rw[eN];exact ji.gg hb gA hs (fun _ _=>rfl)
  ·rw[PT id b' h];exact ji.gg (r.fits h) gA (r.scopd h) (fun h1 _=>old _ (r.low id b' h h1).2)
 ·intro id b' h;rw[dA]at h;split at h
  ·injection h with h;subst h;exact ji.iR (by omega) hs
  ·exact ji.iR (by omega) (r.scopd h)
 ·intro id id' b1 b2 h1 h2 d1 d2 n1 n2 e;rw[dA]at h1 h2;split at h1<;>split at h2
  ·omega
  ·rename_i e1 e2;subst e1;rw[eN]at e n1;rw[PT id' b2 h2]at e n2;have:=(r.low id' b2 h2 n2).2;have:=(hv n1).1;omega
  ·rename_i e1 e2;subst e2;rw[eN]at e n2;rw[PT id b1 h1]at e n1;have:=(r.low id b1 h1 n1).2;have:=(hv n2).1;omega
  ·rw[PT id b1 h1]at e n1;rw[PT id' b2 h2]at e n2;exact r.inj id id' b1 b2 h1 h2 d1 d2 n1 n2 e
 ·intro id b' h n1;rw[dA]at h;split at h
  ·rename_i e;subst e;rw[eN]at n1 ⊢;have:=hv n1;have:=r.base;have:=r.size;omega
  ·rw[PT id b' h]at n1 ⊢;have:=r.low id b' h n1;omega
 ·intro k hk OG;rw[old k (by have:=r.size;omega)];refine r.uP k hk fun id b' h n1=>?_;have:=OG id b' (by rw[dA,aK (Ne.symm (OU id b' h))];exact h) (by rw[PT id b' h];exact n1)
  rwa [PT id b' h]at this
 ·intro lo hi hm id b' h n1;rw[dA]at h;split at h
  ·rename_i e;subst e;rw[eN]at n1 ⊢;have:=hv n1;have:=r.oe lo hi hm;have:=r.size;omega
  ·rw[PT id b' h]at n1 ⊢;exact r.jo lo hi hm id b' h n1
theorem Rel.store{H H':Hp}{iv:Iv}{w:World}{O:Nat->dg}(r:Rel H nx iv B w O w'){b b':ji}(Oj:dB H id=some b)(hd:b≠ .dead)(hn:(O id).nil=false)
  (hH:∀j,dB H' j=if j=id then some b' else dB H j)
  (os:w2.os=w'.os) (tape:w2.tape=w'.tape) (output:w2.output=w'.output) (size:w2.heap.size=w'.heap.size) (old:∀k,k≠(O id).g->w2.heap[k]? =w'.heap[k]?)
  (hb:b'.fits O (O id) w2) (hs:b'.scopd nx):Rel H' nx iv B w O w2:=by
 have key:∀j c,dB H' j=some c->∃c',dB H j=some c':=fun j c h=>by
  rw[hH]at h;split at h
  ·rename_i e;subst e;exact⟨b,Oj⟩
  ·exact⟨c,h⟩
 refine Rel.mk' (os.trans r.os) (tape.trans r.tape) (output.trans r.output) (by rw[size];exact r.size) r.base r.oe ?_ ?_ ?_ ?_ ?_ ?_ ?_
 ·intro j c h;obtain⟨c',h'⟩:=key j c h;exact r.keys j c' h'
 ·intro j c h;rw[hH]at h;split at h
  ·rename_i e;subst e;injection h with h;subst h;exact hb
  ·rename_i e;refine ji.gg (r.fits h) (fun _ _=>rfl) (r.scopd h) (fun h1 h2=>old _ fun e2=>e ?_);exact r.inj j id c b h Oj h2 hd h1 hn e2
 ·intro j c h;rw[hH]at h;split at h
  ·injection h with h;subst h;exact hs
  ·exact r.scopd h
 ·intro j j' c c' h1 h2 d1 d2 n1 n2 e;rw[hH]at h1 h2;have l1:∃c1,dB H j=some c1∧c1≠ .dead:=by
   split at h1
   ·rename_i e1;subst e1;exact⟨b,Oj,hd⟩
   ·exact⟨c,h1,d1⟩
  have l2:∃c1,dB H j'=some c1∧c1≠ .dead:=by
   split at h2
   ·rename_i e1;subst e1;exact⟨b,Oj,hd⟩
   ·exact⟨c',h2,d2⟩
  obtain⟨c1,g1,g2⟩:=l1;obtain⟨c2,g3,g4⟩:=l2;exact r.inj j j' c1 c2 g1 g3 g2 g4 n1 n2 e
 ·intro j c h n1;obtain⟨c',h'⟩:=key j c h;rw[size];exact r.low j c' h' n1
 ·intro k hk OG;have hkg:k≠(O id).g:=fun e=>OG id b' (by rw[hH];simp) hn e.symm;rw[old k hkg];refine r.uP k hk fun j c h n1=>?_;by_cases e:j=id
  ·subst e;exact Ne.symm hkg
  ·exact OG j c (by rw[hH,aK e];exact h) n1
 ·intro lo hi hm j c h n1;obtain⟨c',h'⟩:=key j c h;exact r.jo lo hi hm j c' h' n1
theorem Rel.Iw{H H1:Hp}{iv:Iv}{w:World}{O:Nat->dg}(r:Rel H nx iv B w O w'){b0:ji}(Oj:dB H id=some b0)(hd:b0≠ .dead)
  (hH:∀j,dB H1 j=if j=id then some .dead else dB H j) (b:ji) (v:dg)
  (os:w2.os=w'.os) (tape:w2.tape=w'.tape) (output:w2.output=w'.output) (size:w'.heap.size<=w2.heap.size)
  (old:∀k,k<w'.heap.size->((O id).nil=false->k≠(O id).g)->w2.heap[k]? =w'.heap[k]?)
  (hv:v.nil=false->(w'.heap.size<=v.g∧v.g<w2.heap.size)∨((O id).nil=false∧v.g=(O id).g)) (hb:b.fits O v w2) (hs:b.scopd nx):Rel ((nx,b)::H1) (nx+1) iv B w (gP O nx v) w2:=by
 have key:∀j c,dB H1 j=some c->∃c',dB H j=some c'∧(c≠ .dead->c'=c∧j≠id):=fun j c h=>by
  rw[hH]at h;split at h
  ·rename_i e;subst e;injection h with h;exact⟨b0,Oj,fun h2=>absurd h.symm h2⟩
  ·rename_i e;exact⟨c,h,fun _=>⟨rfl,e⟩⟩
 have OU:∀j c,dB H1 j=some c->j≠nx:=fun j c h=>by obtain⟨c',h',_⟩:=key j c h;exact Nat.ne_of_lt (r.keys j c' h')
 have PT:∀j c,dB H1 j=some c->gP O nx v j=O j:=fun j c h=>by simp[gP,OU j c h]
 have hidlt:=r.keys id b0 Oj;have hvlow:v.nil=false->B<=v.g∧v.g<w2.heap.size:=fun hn=>by
  rcases hv hn with h|⟨h1,h2⟩
  ·have:=r.base;have:=r.size;omega
  ·have:=r.low id b0 Oj h1;omega
 refine Rel.mk' (os.trans r.os) (tape.trans r.tape) (output.trans r.output) (ah r.size size) r.base r.oe ?_ ?_ ?_ ?_ ?_ ?_ ?_
 ·intro j b' h;rw[dA]at h;split at h
  ·omega
  ·obtain⟨c',h',_⟩:=key j b' h;have:=r.keys j c' h';omega
 ·intro j b' h;rw[dA]at h;split at h
  ·rename_i e;subst e;injection h with h;subst h;rw[eN];exact ji.gg hb gA hs (fun _ _=>rfl)
  ·rw[PT j b' h];by_cases Rj:b'= .dead
   ·subst Rj;trivial
   ·obtain⟨c',h',h2⟩:=key j b' h;obtain⟨rfl,OG⟩:=h2 Rj;exact ji.gg (r.fits h') gA (r.scopd h') (fun h1 _=>old _ (r.low j c' h' h1).2 fun h3 e=>OG (r.inj j id c' b0 h' Oj Rj hd h1 h3 e))
 ·intro j b' h;rw[dA]at h;split at h
  ·injection h with h;subst h;exact ji.iR (by omega) hs
  ·by_cases Rj:b'= .dead
   ·subst Rj;trivial
   ·obtain⟨c',h',h2⟩:=key j b' h;obtain⟨rfl,OG⟩:=h2 Rj;exact ji.iR (by omega) (r.scopd h')
 ·have cross:∀j c,dB H1 j=some c->c≠ .dead->(O j).nil=false->v.nil=false->v.g≠(O j).g:=fun j c h dd nj nv e=>by
   obtain⟨c',h',h2⟩:=key j c h;obtain⟨rfl,OG⟩:=h2 dd;rcases hv nv with h3|⟨h3,h4⟩
   ·have:=(r.low j c' h' nj).2;omega
   ·exact OG (r.inj j id c' b0 h' Oj dd hd nj h3 (by omega))
  intro j j' b1 b2 h1 h2 d1 d2 n1 n2 e;rw[dA]at h1 h2;split at h1<;>split at h2
  ·omega
  ·rename_i e1 e2;subst e1;rw[eN]at e n1;rw[PT j' b2 h2]at e n2;exact absurd e (cross j' b2 h2 d2 n2 n1)
  ·rename_i e1 e2;subst e2;rw[eN]at e n2;rw[PT j b1 h1]at e n1;exact absurd e.symm (cross j b1 h1 d1 n1 n2)
  ·rw[PT j b1 h1]at e n1;rw[PT j' b2 h2]at e n2;obtain⟨c1,g1,k1⟩:=key j b1 h1;obtain⟨c2,g2,k2⟩:=key j' b2 h2;obtain⟨rfl,_⟩:=k1 d1;obtain⟨rfl,_⟩:=k2 d2;exact r.inj j j' c1 c2 g1 g2 d1 d2 n1 n2 e
 ·intro j b' h n1;rw[dA]at h;split at h
  ·rename_i e;subst e;rw[eN]at n1 ⊢;exact hvlow n1
  ·rw[PT j b' h]at n1 ⊢;obtain⟨c',h',_⟩:=key j b' h;have:=r.low j c' h' n1;omega
 ·intro k hk OG;have TQ:∀j c,dB H j=some c->(O j).nil=false->(O j).g≠k:=fun j c h nj=>by
   have hj:dB H1 j=some (if j=id then .dead else c):=by rw[hH];split<;>simp[h]
   have:=OG j _ (by rw[dA,aK (Ne.symm (OU j _ hj))];exact hj) (by rw[PT j _ hj];exact nj)
   rwa [PT j _ hj]at this
  rw[old k (by have:=r.size;omega) (fun h e=>TQ id b0 Oj h e.symm)];exact r.uP k hk TQ
 ·intro lo hi hm j b' h n1;rw[dA]at h;split at h
  ·rename_i e;subst e;rw[eN]at n1 ⊢;rcases hv n1 with h3|⟨h3,h4⟩
   ·have:=r.oe lo hi hm;have:=r.size;omega
   ·rw[h4];exact r.jo lo hi hm id b0 Oj h3
  ·rw[PT j b' h]at n1 ⊢;obtain⟨c',h',_⟩:=key j b' h;exact r.jo lo hi hm j c' h' n1
section
variable{P:Program}{τ:mg}{B n nx:Nat}{l:Env}{H:Hp}{iv:Iv}{w w':World}{O:Nat->dg}{a:Act}
theorem s9(sat:Sat n l H nx iv B w O a w'){x:Operand}{v:SV}(h:ev l x=some v):a.eval x=v.den O∧v.sc nx:=by
 cases x with
 |tmp t=>
  have h1:=sat.env t v h;exact⟨by simp[Act.eval,h1],sat.sc t v h⟩
 |const c=>simp[ev]at h;subst h;exact⟨rfl,trivial⟩
 |global g=>simp[ev]at h;subst h;exact⟨rfl,trivial⟩
 |func f=>simp[ev]at h;subst h;exact⟨rfl,trivial⟩
theorem dU(sat:Sat n l H nx iv B w O a w'){x:Operand}{k:SV->Prop}(h:og l x k):∃v,k v∧a.eval x=v.den O∧v.sc nx:=by
 unfold og at h;split at h
 ·rename_i v hv;exact⟨v,h,s9 sat hv⟩
 ·exact h.elim
theorem qK(sat:Sat n l H nx iv B w O a w'):∀{xs:List Operand} {k:List SV->Prop},Ie l xs k->∃vs,k vs∧xs.map a.eval=vs.map (SV.den O)∧∀v∈vs,SV.sc nx v
 |[],k,h=>⟨[],h,rfl,by simp⟩
 |x::r,k,h=>by
  unfold Ie at h;split at h
  ·rename_i v hv;obtain⟨vs,h1,h2,h3⟩:=qK sat (xs:=r) h;have:=s9 sat hv;exact⟨v::vs,h1,by simp[this.1,h2],by simp;exact⟨this.2,h3⟩⟩
  ·exact h.elim
theorem kQ{o:Oper}{a:Act}{w:World}{v:Value}(h:(execOp a.eval o).run P w= .ok (.value v) w2)(hk:next (a.put o.dst v) w2):o.wp P a w next Q:=by
 unfold Oper.wp;rw[h];exact hk
theorem Ix{o:Oper}{a:Act}{w:World}(h:(execOp a.eval o).run P w= .ok .skip w2)(hk:next (a.put o.dst undef) w2):o.wp P a w next Q:=by
 unfold Oper.wp;rw[h];exact hk
theorem lh{s:Sem Value}{w:World}{v:Value}(h:s.run P w= .ok v w2):((do pure (.value (<-s))):Sem Next).run P w= .ok (.value v) w2:=by
 simp[h]
theorem FN.isAgg{t:Nat}{i:TI}(h:FN P t i)(w:World):(isAgg t).run P w= .ok i.agg w:=by
 obtain⟨d,h1,h2⟩:=h.agg;unfold Go.isAgg;rw[Sem.run_bind,run_underlying h1 w,<-h2]
 cases d<;>rfl
theorem FN.sizeOf{t:Nat}{i:TI}(h:FN P t i)(w:World):(sizeOf t).run P w= .ok i.size w:=by
 obtain⟨inf,z,h1,h2,_⟩:=h.info;simp[Go.sizeOf,typeInfo,h1,h2]
theorem FN.zeroV{t:Nat}{i:TI}(h:FN P t i)(w:World):∃z,(zeroValue t).run P w= .ok z w∧z.cells.toList=i.zero:=by
 obtain⟨inf,z,h1,h2,_,h4,h5⟩:=h.info;exact⟨z,by simp[zeroValue,typeInfo,h1,h4],h5⟩
theorem k6{t:Nat}{i:TI}(ht:FN P t i)(hagg:i.agg=false){w:World}{x:Value}(hc:w.cell? ad=some x):
  (Instr.loadAt t (.pointer (some ad))).run P w= .ok x w:=by
 simp[Instr.loadAt,Instr.sureAddr,loadVar,ht.isAgg,hagg,hc]
theorem j7{t:Nat}{i:TI}(ht:FN P t i)(hagg:i.agg=true){w:World}(hl:xs.length=i.size)(hc:∀j v,xs[j]? =some v->w.cell? (ad.add j)=some v):
  (Instr.loadAt t (.pointer (some ad))).run P w= .ok (.agg xs.toArray) w:=by
 have:=run_loadCells_list (P:=P) w ad xs hc;rw[hl]at this;simp[Instr.loadAt,Instr.sureAddr,loadVar,ht.isAgg,hagg,ht.sizeOf,this]
theorem dQ(g off j:Nat):(⟨g,off,none⟩:Addr).add j=⟨g,off+j,none⟩:=by
 unfold Addr.add;split<;>simp_all
theorem uT:∀{cs:List At} {i:Nat},CH cs i=cs[i]?
 |[],i=>by simp[CH]
 |x::r,0=>by simp[CH]
 |x::r,i+1=>by simp[CH,uT (cs:=r)]
theorem BJ:∀{cs:List Value} {i:Nat},H6 cs i=cs[i]?
 |[],i=>by simp[H6]
 |x::r,0=>by simp[H6]
 |x::r,i+1=>by simp[H6,BJ (cs:=r)]
theorem BK:∀{cs:List (Nat×Nat)} {i:Nat},H7 cs i=cs[i]?
 |[],i=>by simp[H7]
 |x::r,0=>by simp[H7]
 |x::r,i+1=>by simp[H7,BK (cs:=r)]
theorem cell_of{w:World}{g t:Nat}(h:w.heap[g]? =some (.cells cs.toArray t (0,0))):w.cell? ⟨g,off,none⟩=cs[off]? :=by
 rw[cell_of_row w g off _ t (0,0) h];simp
theorem fb{O:Nat->dg}:(xs.map At.v).map (At.den O)=xs:=by
 simp[Function.comp_def,At.den]
theorem nR(hτ:fH P τ)(rel0:Rel H nx iv B w O w'){t:Nat}{addr:SV}(hs:addr.sc nx){K:SV->Prop}(h:BH τ B t addr H nx iv w K):
  ∃r,K r∧r.sc nx∧∀w',Rel H nx iv B w O w'->(Instr.loadAt t (addr.den O)).run P w'= .ok (r.den O) w':=by
 unfold BH at h;split at h
 ·exact h.elim
 ·rename_i sz ag by_ ze tag ik e al fs QD;have ht:=hτ t _ QD;split at h
  ·rename_i id off;split at h
   ·rename_i bt cs hH;split at h
    ·split at h
     ·rename_i x hx;rw[uT]at hx;refine⟨_,h,rel0.LG id bt cs hH x (aC hx),fun w' rel=>?_⟩;have hb:=rel.box id bt cs hH;exact k6 ht rfl (by rw[cell_of hb];simp[hx,SV.den])
     ·exact h.elim
    ·have h1:=nO h;have h2:=nP h1.1;refine⟨_,h2.1,fun c hc=>rel0.LG id bt cs hH c (List.mem_of_mem_drop (bc hc)),fun w' rel=>?_⟩;have hb:=rel.box id bt cs hH;refine j7 ht rfl (xs:=((cs.drop off).take sz).map (At.den O)) ?_ fun j v hv=>?_
     ·have:=h2.2;simp only[aJ,aV];omega
     ·rw[dQ,cell_of hb];simp only[aN,List.getElem?_take,List.getElem?_drop]at hv ⊢;split at hv
      ·exact hv
      ·simp at hv
   ·rename_i bt cs hH;split at h
    ·obtain⟨x,hx,h⟩:=h;exact⟨_,h,trivial,fun w' rel=>k6 ht rfl (by rw[cell_of (rel.arr id bt cs hH),hx];rfl)⟩
    ·obtain⟨xs,hx,hl,h⟩:=h;refine⟨_,fe h,fun c hc=>by simp at hc;obtain⟨v,_,rfl⟩:=hc;trivial,fun w' rel=>?_⟩;have hb:=rel.arr id bt cs hH;simp only[SV.den,fb]
     refine j7 ht rfl hl fun j v hv=>?_;rw[dQ,cell_of hb];rw[<-hx]at hv;simp only[List.getElem?_take,List.getElem?_drop]at hv;split at hv
     ·exact hv
     ·simp at hv
   ·rename_i bt ez cs hH;split at h
    ·obtain⟨x,hx,h⟩:=h;refine⟨_,h,trivial,fun w' rel=>?_⟩;have hb:=rel.vec id bt ez cs hH;rcases hb with⟨_,rfl⟩|⟨hn,spare,hb,_⟩
     ·simp at hx
     ·refine k6 ht rfl ?_;rw[cell_of hb];have:off<cs.length:=(aD.1 hx).1;rw[aL this,hx];rfl
    ·obtain⟨xs,hx,hl,h⟩:=h;refine⟨_,fe h,fun c hc=>by simp at hc;obtain⟨v,_,rfl⟩:=hc;trivial,fun w' rel=>?_⟩;have hb:=rel.vec id bt ez cs hH;simp only[SV.den,fb]
     rcases hb with⟨_,rfl⟩|⟨hn,spare,hb,_⟩
     ·have:xs=[]:=by rw[<-hx];simp
      subst this;refine j7 ht rfl hl fun j v hv=>by simp at hv
     ·refine j7 ht rfl hl fun j v hv=>?_;rw[dQ,cell_of hb];rw[<-hx]at hv;simp only[List.getElem?_take,List.getElem?_drop]at hv;split at hv
      ·rw[aL (aD.1 hv).1];exact hv
      ·simp at hv
   ·exact h.elim
  ·rename_i ad;split at h
   ·obtain⟨x,hx,h⟩:=h;exact⟨_,h,trivial,fun w' rel=>k6 ht rfl (hx O w' rel)⟩
   ·obtain⟨xs,hl,hx,h⟩:=h;refine⟨_,fe h,fun c hc=>by simp at hc;obtain⟨v,_,rfl⟩:=hc;trivial,fun w' rel=>?_⟩;simp only[SV.den,fb]
    exact j7 ht rfl hl fun j v hv=>hx O w' rel j v hv
  ·exact h.elim
theorem mU{t:Nat}{i:TI}(ht:FN P t i){w:World}{g bt:Nat}(hb:w.heap[g]? =some (.cells old.toArray bt (0,0))){v:Value}
  (hv:v.cells=new.toArray) (hl:new.length=i.size) (h1:∀x∈new,x.oneCell'=true) (Pc:off+new.length<=old.length):
  (Instr.storeAt t (.pointer (some ⟨g,off,none⟩)) v).run P w= .ok () (w.setRow g (old.take off++new++old.drop (off+new.length)).toArray):=by
 have:=run_storeCells_at (P:=P) g off bt new 0 old.toArray w hb (by simpa using Pc) h1;simp only[bz]at this;simp[Instr.storeAt,Instr.sureAddr,storeVar,ht.sizeOf,hv,hl,this]
theorem kH:∀(vs:List Value) (w:World) (b off:Nat),setCells w ⟨b,off,none⟩ vs=w.setCells b off vs
 |[],_,_,_=>rfl
 |x::r,w,b,off=>by
  simp only[setCells,World.setCells,dQ]
  exact kH r _ b (off+1)
theorem vY(hτ:fH P τ)(sat:Sat n l H nx iv B w O a w'){t:Nat}{addr x:SV}(hs:addr.sc nx)(hx:x.sc nx){K:Hp->World->Prop}(h:CI τ B t addr x H nx iv w K):
  ∃H' w2 w3,K H' w2∧Rel H' nx iv B w2 O w3∧(Instr.storeAt t (addr.den O) (x.den O)).run P w'= .ok () w3:=by
 unfold CI at h;split at h
 ·exact h.elim
 rename_i sz ag by_ ze tag ik e al fs QD;have ht:=hτ t _ QD;have rel:=sat.rel;have h0:=lg h;clear h;obtain⟨new,h00,Oy,Rk⟩:=h0;have h0:=yH h00;clear h00;obtain⟨h,PF⟩:=h0;split at h
 ·exact h.elim
 rename_i hlen;have hlen:=eJ hlen;have Oz:=Oy O;have Rk:=Rk nx hx;have h1:∀v∈new.map (At.den O),v.oneCell'=true:=by
  intro v hv;simp at hv;obtain⟨c,hc,rfl⟩:=hv;exact one_den (PF c hc) O
 have PM:(new.map (At.den O)).length=sz:=by simpa using hlen
 split at h
 ·rename_i id off;split at h
  ·rename_i bt cs hH;have hb:=rel.box id bt cs hH;obtain⟨hr,Pc⟩:=nQ h;obtain⟨H',hK,hH',_⟩:=qM hr;refine⟨H',w,_,hK,?_,mU ht (old:=cs.map (At.den O)) hb Oz PM h1 (by simp;omega)⟩;refine rel.store hH (by simp) (rel.nn id _ hH (by intros;simp) (by simp)) hH' rfl rfl rfl (by simp) (fun k hk=>setRow_other _ _ _ _ hk) ⟨rel.nn id _ hH (by intros;simp) (by simp),?_⟩ ?_
   ·rw[setRow_heap _ _ _ _ _ _ hb];simp[List.map_drop,List.map_take]
   ·intro c hc;simp only[bG]at hc;rcases hc with(hc|hc)|hc
    ·exact rel.LG id bt cs hH c (bc hc)
    ·exact Rk c hc
    ·exact rel.LG id bt cs hH c (List.mem_of_mem_drop hc)
  ·rename_i bt cs hH;have hb:=rel.arr id bt cs hH;obtain⟨nv,hr,TF,TS⟩:=kj h;obtain⟨Pc,cs',Tz,hr⟩:=hr;obtain⟨H',hK,hH',_⟩:=qM hr;have RQ:nv.length=sz:=by rw[TF]at hlen;simpa using hlen
   have Pw:(x.den O).cells=nv.toArray:=by rw[Oz,TF,fb]
   refine⟨H',w,_,hK,?_,mU ht hb Pw RQ TS (by omega)⟩;refine rel.store hH (by simp) (rel.nn id _ hH (by intros;simp) (by simp)) hH' rfl rfl rfl (by simp) (fun k hk=>setRow_other _ _ _ _ hk) ⟨rel.nn id _ hH (by intros;simp) (by simp),?_⟩ trivial;rw[setRow_heap _ _ _ _ _ _ hb,RQ,Tz]
  ·rename_i bt ez cs hH;have hb:=rel.vec id bt ez cs hH;obtain⟨nv,hr,TF,TS⟩:=kj h;obtain⟨Pc,cs',Tz,hr⟩:=hr;obtain⟨H',hK,hH',_⟩:=qM hr;have RQ:nv.length=sz:=by rw[TF]at hlen;simpa using hlen
   have Pw:(x.den O).cells=nv.toArray:=by rw[Oz,TF,fb]
   rcases hb with⟨PE,rfl⟩|⟨hn,spare,hb,Qd,Q5⟩
   ·
    have h0:sz=0:=by simp at Pc;omega
    have hnv0:nv=[]:=by cases nv with|nil=>rfl|cons _ _=>simp at RQ;omega
    subst hnv0;have:cs'=[]:=by rw[<-Tz];simp
    subst this;refine⟨H',w,w',hK,?_,?_⟩
    ·have Vb:∀j,dB H' j=dB H j:=fun j=>by rw[hH'];split<;>simp_all
     exact Rel.mk' rel.os rel.tape rel.output rel.size rel.base rel.oe (fun id b h=>rel.keys id b (by rw[<-Vb];exact h)) (fun id b h=>rel.fits (by rw[<-Vb];exact h)) (fun id b h=>rel.scopd (by rw[<-Vb];exact h))
      (fun i j b b' h1 h2=>rel.inj i j b b' (by rw[<-Vb];exact h1) (by rw[<-Vb];exact h2)) (fun id b h=>rel.low id b (by rw[<-Vb];exact h))
      (fun k hk OG=>rel.uP k hk fun id b h=>OG id b (by rw[Vb];exact h)) (fun lo hi hm id b h=>rel.jo lo hi hm id b (by rw[<-Vb];exact h))
    ·subst h0;show(Instr.storeAt t (.pointer (some ⟨(O id).g,off,none⟩)) (x.den O)).run P w'=_;generalize x.den O=xv at Pw ⊢;simp[Instr.storeAt,Instr.sureAddr,storeVar,ht.sizeOf,Pw,storeCells]
   ·refine⟨H',w,_,hK,?_,mU ht hb Pw RQ TS (by simp;omega)⟩;refine rel.store hH (by simp) hn hH' rfl rfl rfl (by simp) (fun k hk=>setRow_other _ _ _ _ hk) (.inr ⟨hn,spare,?_,?_,Q5⟩) trivial
    ·rw[setRow_heap _ _ _ _ _ _ hb,<-Tz,RQ];congr 2;rw[List.take_append_of_le_length (by omega),List.drop_append_of_le_length (by omega)];simp
    ·rw[<-Qd,<-Tz];simp;omega
  ·exact h.elim
 ·rename_i ad;obtain⟨nv,hr,TF,TS⟩:=kj h;obtain⟨Vc,OJ,OG,hK⟩:=hr O w' rel;have RQ:nv.length=sz:=by rw[TF]at hlen;simpa using hlen
  have Pw:(x.den O).cells=nv.toArray:=by rw[Oz,TF,fb]
  obtain⟨b,off,spot⟩:=ad;simp only at Vc OG;subst Vc;have QV:=run_storeCells_cells (P:=P) b off nv 0 w' (fun j hj=>by have:=(OJ j (by omega)).1;rwa [dQ]at this) (fun j hj=>by have:=(OJ j (by omega)).2;rwa [dQ]at this) TS;have hother:∀k,k≠b->(w'.setCells b off nv).heap[k]? =w'.heap[k]? :=by
   intro k hk;clear QV OJ h hr hK TF TS Pw RQ
   induction nv generalizing w' off with
   |nil=>rfl
   |cons v r ih=>
    simp only[World.setCells]
    rw[show (∀(w0:World) (o:Nat),(w0.setCells b o r).heap[k]? =w0.heap[k]?)from ?_]
    ·simp[World.setCell,Array.getElem?_modify,Ne.symm hk]
    ·clear ih;intro w0 o
     induction r generalizing w0 o with
     |nil=>rfl
     |cons v r ih=>simp only[World.setCells];rw[ih];simp[World.setCell,Array.getElem?_modify,Ne.symm hk]
  have hfrm:(w'.setCells b off nv).os=w'.os∧(w'.setCells b off nv).tape=w'.tape∧(w'.setCells b off nv).output=w'.output∧(w'.setCells b off nv).heap.size=w'.heap.size:=by
   have:∀(vs:List Value) (w0:World) (o:Nat),(w0.setCells b o vs).os=w0.os∧(w0.setCells b o vs).tape=w0.tape∧(w0.setCells b o vs).output=w0.output∧(w0.setCells b o vs).heap.size=w0.heap.size:=by
    intro vs
    induction vs with
    |nil=>intro w0 o;exact⟨rfl,rfl,rfl,rfl⟩
    |cons v r ih=>intro w0 o;simp only[World.setCells];obtain⟨h1,h2,h3,h4⟩:=ih (w0.setCell ⟨b,o,none⟩ v) (o+1);exact⟨h1,h2,h3,by rw[h4];simp⟩
   exact this nv w' off
  refine⟨H,_,w'.setCells b off nv,hK _ rfl,?_,?_⟩
  ·rw[kH];refine Rel.mk' rfl rfl rfl (aF _) (by rw[hfrm.2.2.2];have:=rel.base;have:=rel.size;omega) (fun lo hi hm=>by rw[hfrm.2.2.2];have:=rel.oe lo hi hm;have:=rel.size;omega) rel.keys
    (fun id b' h=>ji.gg (rel.fits h) (fun _ _=>rfl) (rel.scopd h) (fun PE _=>hother _ (OG id b' h PE))) (fun id b' h=>rel.scopd h) rel.inj (fun id b' h PE=>by rw[hfrm.2.2.2];exact rel.low id b' h PE) (fun _ _ _=>rfl) rel.jo
  ·show(Instr.storeAt t (.pointer (some ⟨b,off,none⟩)) (x.den O)).run P w'=_;generalize x.den O=xv at Pw ⊢;simp at QV;simp[Instr.storeAt,Instr.sureAddr,storeVar,ht.sizeOf,Pw,RQ,QV]
 ·exact h.elim
end
theorem FT(new:List Value):∀(k off:Nat) (cs:Array Value),off+k+new.length<=cs.size->
  ((new.zipIdx k).foldl (fun cs (c,j)=>cs.setIfInBounds (off+j) c) cs).toList=cs.toList.take (off+k)++new++cs.toList.drop (off+k+new.length):=by
 induction new with
 |nil=>intro k off cs _;simp
 |cons x r ih=>
  intro k off cs h;simp only[List.length_cons]at h;rw[List.zipIdx_cons,List.foldl_cons,ih (k+1) off _ (by simp;omega)];have h2:=list_seg_step cs.toList (off+k) x r (by simp;omega);simp only[Array.toList_setIfInBounds,List.length_cons]at h2 ⊢;rw[show off+(k+1)=off+k+1 by omega];exact h2
theorem Hb{i:Nat}{v:Value}(hp:place i=some (off,size))
  (hv:v.cells=new.toArray) (hl:new.length=size) (Pc:off+new.length<=cells.size):
  Instr.fill place cells ((i,v)::rest)=Instr.fill place (cells.toList.take off++new++cells.toList.drop (off+new.length)).toArray rest:=by
 have h:=FT new 0 off cells (by omega);have e:(v.cells.zipIdx.foldl (fun cs (x:Value×Nat)=>cs.setIfInBounds (off+x.2) x.1) cells)=(cells.toList.take off++new++cells.toList.drop (off+new.length)).toArray:=by
  rw[hv,<-Array.foldl_toList];apply Array.ext';simpa using h
 conv=>lhs;unfold Instr.fill
 simp only[hp,hv,List.size_toArray,hl]
 rw[aK (by simp;omega)];rw[hv]at e;rw[<-hl,<-e]
section
variable{P:Program}{τ:mg}{B n nx:Nat}{l:Env}{H:Hp}{iv:Iv}{w w':World}{O:Nat->dg}{a:Act}
theorem kI(sat:Sat n l H nx iv B w O a w'){place:Nat->(Nat->Nat->Prop)->Prop}{placeF:Nat->Option (Nat×Nat)}
  (hp:∀i k,place i k->∃off size,k off size∧placeF i=some (off,size)):∀{parts:List (Nat×Operand)} {cs:List At} {k:List At->Prop},
  uS l place parts cs k->(∀c∈cs,At.sc nx c)->∃cs',k cs'∧(∀c∈cs',At.sc nx c)∧cs'.length=cs.length∧
   Instr.fill placeF (cs.map (At.den O)).toArray (parts.map fun p=>(p.1,a.eval p.2))=some (cs'.map (At.den O)).toArray
 |[],cs,k,h,hs=>⟨cs,h,hs,rfl,by simp[Instr.fill]⟩
 |(i,x)::r,cs,k,h,hs=>by
  unfold uS at h;obtain⟨off,size,h1,PV⟩:=hp i _ h;obtain⟨v,h2,hv,QU⟩:=dU sat h1;obtain⟨new,h3,Oy,Rk⟩:=lg h2;split at h3
  ·rename_i hlen;have hlen:=eJ hlen;obtain⟨h4,Pc⟩:=nQ h3
   obtain⟨cs',h5,h6,h7,h8⟩:=kI sat hp h4 (by
    intro c hc;simp only[bG]at hc;rcases hc with(hc|hc)|hc
    ·exact hs c (bc hc)
    ·exact Rk nx QU c hc
    ·exact hs c (List.mem_of_mem_drop hc))
   refine⟨cs',h5,h6,by rw[h7];simp;omega,?_⟩;have hc:=Oy O;rw[List.map_cons,Hb (new:=new.map (At.den O)) PV (by show(a.eval x).cells=_;rw[hv];exact hc) (by simpa using hlen) (by simpa using Pc),<-h8];simp[List.map_drop,List.map_take]
  ·exact h3.elim
theorem mV(hτ:fH P τ){f:Nat}{k:Nat->Nat->Bool->Prop}(h:ot τ fs f k):
  ∃off ft fi,k off fi.size fi.agg∧fs[f]? =some (off,ft)∧FN P ft fi∧fi.size≠0:=by
 unfold ot at h;split at h
 ·rename_i off ft hf;rw[BK]at hf;split at h
  ·rename_i sz ag by_ ze tag ik e al fs' QD;split at h
   ·exact h.elim
   ·rename_i Oq;exact⟨off,ft,_,h,hf,hτ ft _ QD,fun e=>by simp at e;subst e;simp at Oq⟩
  ·exact h.elim
 ·exact h.elim
theorem yI{t:Nat}{i:TI}(h:FN P t i)(h5:i.tag=5){f ft:Nat}(hf:i.fields[f]? =some (off,ft)):
  ∃fs fd,P.underlying t=some (.struct fs)∧fs[f]? =some fd∧fd.offset=off∧fd.type=ft:=by
 obtain⟨fs,h1,h2,_⟩:=h.i5 h5;rw[<-h2]at hf;simp only[aN,Option.map_eq_some_iff]at hf;obtain⟨fd,QI,he⟩:=hf;injection he with e1 e2;exact⟨fs,fd,h1,by simpa using QI,e1,e2⟩
theorem D9{t:Nat}{i:TI}(h:FN P t i)(h5:i.tag=5){f ft:Nat}{fi:TI}(hf:i.fields[f]? =some (off,ft))(UA:FN P ft fi)(Oq:fi.size≠0)(ad:Addr)(w:World):
  (Instr.fieldAt t (.pointer (some ad)) f).run P w= .ok (.pointer (some (ad.add off))) w:=by
 obtain⟨fs,fd,h1,h2,rfl,rfl⟩:=yI h h5 hf;simp[Instr.fieldAt,run_underlying h1,h2,Instr.sureAddr,fieldPlace,UA.sizeOf,Oq]
theorem sd{x:SV}{K:SV->Prop}(h:x8 x m K)(hx:x.sc nx):∃r ad,K r∧r.sc nx∧x.den O= .pointer (some ad)∧r.den O= .pointer (some (ad.add m)):=by
 unfold x8 at h;split at h
 ·rename_i id off;exact⟨_,⟨(O id).g,off,none⟩,h,hx,rfl,by simp[SV.den,At.den,dQ]⟩
 ·rename_i ad;exact⟨_,ad,h,trivial,rfl,rfl⟩
 ·exact h.elim
theorem uU(rel:Rel H nx iv B w O w'){K:Prop}(h:H9 H id m K):K∧((O id).nil=true->m=0):=by
 unfold H9 at h;split at h
 ·rename_i t sz cs hH;split at h
  ·exact h.elim
  ·rename_i k;refine⟨h.2,fun hn=>?_⟩;have h1:=h.1;rcases rel.vec id t (k+1) cs hH with⟨_,rfl⟩|⟨h2,_⟩
   ·have h4:m*(k+1)=0:=by simpa using h1.symm
    rcases Nat.mul_eq_zero.1 h4 with h5|h5
    ·exact h5
    ·omega
   ·rw[hn]at h2;cases h2
 ·exact h.elim
theorem Hc(hτ:fH P τ){t ty:Nat}{x:SV}(h:M8 τ H t x K)(rel:Rel H nx iv B w O w'):
  ∃r,K r∧∀w',(Builtin.len_ #[t] ty #[x.den O]).run P w'= .ok (.int .i64 r) w':=by
 unfold M8 at h;split at h
 ·exact h.elim
 rename_i sz ag by_ ze tag ik e al fs QD;have ht:=hτ t _ QD;split at h
 ·rename_i OZ;have hu:=ht.i4 (eJ OZ);split at h
  ·exact⟨_,h,fun w'=>by simp[Builtin.len_,run_underlying hu,SV.den,At.den,goInt]⟩
  ·exact⟨_,h,fun w'=>by simp[Builtin.len_,run_underlying hu,SV.den,At.den,goInt]⟩
  ·rename_i id m;have h1:=uU rel h;refine⟨_,h1.1,fun w'=>?_⟩
   cases hn:(O id).nil
   ·simp[Builtin.len_,run_underlying hu,SV.den,At.den,goInt,hn]
   ·have:=h1.2 hn;subst this;simp[Builtin.len_,run_underlying hu,SV.den,At.den,goInt,hn]
  ·exact h.elim
 ·split at h
  ·rename_i OZ;have hu:=ht.i3 (eJ OZ);split at h
   ·exact⟨_,h,fun w'=>by simp[Builtin.len_,run_underlying hu,SV.den,At.den,goInt]⟩
   ·exact h.elim
  ·split at h
   ·rename_i OZ;have hu:=ht.i6 (eJ OZ);exact⟨_,h,fun w'=>by simp[Builtin.len_,run_underlying hu,goInt]⟩
   ·exact h.elim
theorem Da(hτ:fH P τ){t:Nat}{x i:SV}{K:SV->Prop}(h:FO τ H t x i K)(hx:x.sc nx)(rel:Rel H nx iv B w O w'):
  ∃r,K r∧r.sc nx∧∀w',(Instr.indexAt t (x.den O) (i.den O)).run P w'= .ok (r.den O) w':=by
 unfold FO at h;split at h
 ·rename_i kd i;split at h
  ·rename_i sz ag by_ ze tag ik e al fs QD;have ht:=hτ t _ QD;split at h
   ·rename_i sz' ag' by' ze' tag' ik' e' al' fs' PK
    have PK:=hτ e _ PK;split at h
    ·rename_i OZ;have hu:=ht.i4 (eJ OZ);simp only at hu;split at h
     ·rename_i id off m c;obtain⟨hb,h⟩:=h;exact⟨_,h,hx,fun w'=>by simp[Instr.indexAt,run_underlying hu,asIntOf,SV.den,At.den,hb,PK.sizeOf,dQ]⟩
     ·rename_i id m;obtain⟨⟨hb,h1⟩,h2⟩:=uU rel h;refine⟨_,h1,hx,fun w'=>?_⟩
      cases hn:(O id).nil
      ·simp[Instr.indexAt,run_underlying hu,asIntOf,SV.den,At.den,hb,PK.sizeOf,dQ,hn]
      ·have:=h2 hn;omega
     ·rename_i a0 m c;obtain⟨ad,rfl,hb,h⟩:=h;exact⟨_,h,trivial,fun w'=>by simp[Instr.indexAt,run_underlying hu,asIntOf,SV.den,At.den,hb,PK.sizeOf]⟩
     ·exact h.elim
    ·split at h
     ·rename_i OZ;have hu:=ht.i6 (eJ OZ);simp only at hu;obtain⟨hb,h⟩:=h;obtain⟨r,ad,h1,h2,h3,h4⟩:=sd (O:=O) h hx;refine⟨r,h1,h2,fun w'=>?_⟩;rw[h3,h4];simp[Instr.indexAt,run_underlying hu,asIntOf,SV.den,At.den,Instr.sureAddr,hb,PK.sizeOf]
     ·exact h.elim
   ·exact h.elim
  ·exact h.elim
 ·exact h.elim
theorem ky(sat:Sat n l H nx iv B w O a w'){x:Option Operand}{d:Int}(h:LP l x d K):∃i,K i∧((x=none∧i=d)∨∃o k,x=some o∧a.eval o= .int k i):=by
 unfold LP at h;split at h
 ·exact⟨d,h,.inl ⟨rfl,rfl⟩⟩
 ·obtain⟨v,h1,h2,h3⟩:=dU sat h;clear h3;split at h1
  ·rename_i k i;exact⟨i,h1,.inr ⟨_,k,rfl,h2⟩⟩
  ·exact h1.elim
theorem nS{len cap:Nat}{i j:Int}(Rz:(lo=none∧i=0)∨∃o k,lo=some o∧a.eval o= .int k i)(Sd:(hi=none∧j=len)∨∃o k,hi=some o∧a.eval o= .int k j)
  (h0:0<=i) (h1:i<=j) (h2:j<=cap):(Instr.sliceBounds true len cap (lo.map a.eval) (hi.map a.eval) none).run P w'= .ok (i.toNat,j.toNat,cap) w':=by
 rcases Rz with⟨rfl,rfl⟩|⟨o,k,rfl,ho⟩<;>rcases Sd with⟨rfl,rfl⟩|⟨o',k',rfl,Ri⟩
 ·simp[Instr.sliceBounds]
 ·have h1':0<=j:=by omega
  simp[Instr.sliceBounds,Instr.sliceBound,Ri,asIntOf,h1',h2]
 ·have:i<=(len:Int):=h1;simp[Instr.sliceBounds,Instr.sliceBound,ho,asIntOf,h0,this]
 ·have h1':0<=j:=by omega
  have h3:i<=((j.toNat:Nat):Int):=by omega
  have h3':i<=max j 0:=by omega
  simp[Instr.sliceBounds,Instr.sliceBound,ho,Ri,asIntOf,h1',h2,h0,h3']
theorem Db{len cap:Nat}{i j:Int}(Rz:(lo=none∧i=0)∨∃o k,lo=some o∧a.eval o= .int k i)(Sd:(hi=none∧j=len)∨∃o k,hi=some o∧a.eval o= .int k j)
  (h0:0<=i) (h1:i<=j) (h2:j<=cap):(Instr.sliceBounds false len cap (lo.map a.eval) (hi.map a.eval) none).run P w'= .ok (i.toNat,j.toNat,cap) w':=by
 rcases Rz with⟨rfl,rfl⟩|⟨o,k,rfl,ho⟩<;>rcases Sd with⟨rfl,rfl⟩|⟨o',k',rfl,Ri⟩
 ·simp[Instr.sliceBounds]
 ·have h1':0<=j:=by omega
  simp[Instr.sliceBounds,Instr.sliceBound,Ri,asIntOf,h1',h2]
 ·have:i<=(len:Int):=h1;simp[Instr.sliceBounds,Instr.sliceBound,ho,asIntOf,h0,this]
 ·have h1':0<=j:=by omega
  have h3:i<=((j.toNat:Nat):Int):=by omega
  have h3':i<=max j 0:=by omega
  simp[Instr.sliceBounds,Instr.sliceBound,ho,Ri,asIntOf,h1',h2,h0,h3']
theorem Dc(hτ:fH P τ)(sat:Sat n l H nx iv B w O a w'){t:Nat}{x:SV}{K:SV->Prop}(h:FP τ H t x l lo hi K)(hx:x.sc nx):
  ∃r,K r∧r.sc nx∧∀w',(Instr.sliceAt t (x.den O) (lo.map a.eval) (hi.map a.eval) none).run P w'= .ok (r.den O) w':=by
 unfold FP at h;split at h
 ·rename_i sz ag by_ ze tag ik e al fs QD;have ht:=hτ t _ QD;split at h
  ·rename_i OZ;have hu:=ht.i4 (eJ OZ);simp only at hu;split at h
   ·rename_i sz' ag' by' ze' tag' ik' e' al' fs' PK
    have PK:=hτ e _ PK;split at h
    ·rename_i id off m c;obtain⟨i,h1,Rz⟩:=ky sat h;obtain⟨j,h2,Sd⟩:=ky sat h1;obtain⟨⟨b0,b1,b2⟩,off',n',c',e1,rfl,rfl,h3⟩:=h2;refine⟨_,h3,hx,fun w'=>?_⟩;have hb:=nS (P:=P) (w':=w') Rz Sd b0 b1 b2;subst e1;simp[Instr.sliceAt,Instr.slice,run_underlying hu,SV.den,At.den,hb,PK.sizeOf];by_cases hc:c=i.toNat
     ·rw[if_pos hc,if_pos (by omega)]
     ·rw[aK hc,aK (by omega)];simp[dQ]
    ·rename_i ad m c;obtain⟨i,h1,Rz⟩:=ky sat h;obtain⟨j,h2,Sd⟩:=ky sat h1;obtain⟨⟨b0,b1,b2⟩,off',n',c',e1,rfl,rfl,h3⟩:=h2;refine⟨_,h3,trivial,fun w'=>?_⟩;have hb:=nS (P:=P) (w':=w') Rz Sd b0 b1 b2;subst e1;simp[Instr.sliceAt,Instr.slice,run_underlying hu,SV.den,At.den,hb,PK.sizeOf];by_cases hc:c=i.toNat
     ·rw[if_pos hc,if_pos (by omega)]
     ·rw[aK hc,aK (by omega)]
    ·rename_i id m;split at h
     ·obtain⟨h1,PE⟩:=uU sat.rel h;obtain⟨j,h2,Sd⟩:=ky sat h1;obtain⟨⟨b0,b1⟩,m',rfl,h3⟩:=h2;refine⟨_,h3,hx,fun w'=>?_⟩;have Q5:(O id).nil=false->m<=(O id).cap:=fun hn=>by
       unfold H9 at h;split at h
       ·rename_i t' sz' cs' hH;split at h
        ·exact h.elim
        ·rename_i k;rcases sat.rel.vec id t' (k+1) cs' hH with⟨h5,_⟩|⟨_,spare,_,h6,_⟩
         ·rw[hn]at h5;cases h5
         ·have h7:=h.1;have h8:(cs'++spare).length=cs'.length+spare.length:=List.length_append;have h9:m*(k+1)<=(O id).cap*(k+1):=by omega
          exact bp h9 (Nat.succ_pos k)
       ·exact h.elim
      cases hn:(O id).nil with
      |true=>
       have hm:=PE hn;subst hm;have hb:=nS (P:=P) (w':=w') (len:=0) (cap:=0) (lo:=none) (i:=0) (.inl ⟨rfl,rfl⟩) Sd (Int.le_refl 0) b0 b1;have hj:j.toNat=0:=by omega
       rw[hj]at hb ⊢;simp only[Option.map_none]at hb;simp[Instr.sliceAt,Instr.slice,run_underlying hu,SV.den,At.den,hn,hb,PK.sizeOf]
      |false=>
       have hc:=Q5 hn;have hb:=nS (P:=P) (w':=w') (len:=m) (cap:=(O id).cap) (lo:=none) (i:=0) (.inl ⟨rfl,rfl⟩) Sd (Int.le_refl 0) b0 (by omega);simp only[Option.map_none]at hb;simp[Instr.sliceAt,Instr.slice,run_underlying hu,SV.den,At.den,hn,hb,PK.sizeOf,dQ]
     ·exact h.elim
    ·exact h.elim
   ·exact h.elim
  ·split at h
   ·rename_i OZ;have hu:=ht.i6 (eJ OZ);simp only at hu;split at h
    ·rename_i sz' ag' by' ze' tag' ik' e' al' fs' PK
     have PK:=hτ e _ PK;split at h
     ·rename_i id off;split at h
      ·split at h
       ·rename_i h0;refine⟨_,h,hx,fun w'=>?_⟩;have h0:al≠0:=fun e=>by subst e;cases h0
        simp[Instr.sliceAt,Instr.sliceBounds,run_underlying hu,SV.den,At.den,PK.sizeOf,Instr.sureAddr,dQ]
       ·exact h.elim
      ·exact h.elim
     ·exact h.elim
    ·exact h.elim
   ·split at h
    ·rename_i OZ;have hu:=ht.i3 (eJ OZ);split at h
     ·rename_i s;obtain⟨i,h1,Rz⟩:=ky sat h;obtain⟨j,h2,Sd⟩:=ky sat h1;obtain⟨⟨b0,b1,b2⟩,h3⟩:=h2;refine⟨_,h3,trivial,fun w'=>?_⟩;have hb:=Db (P:=P) (w':=w') Rz Sd b0 b1 b2;simp[Instr.sliceAt,Instr.slice,run_underlying hu,SV.den,At.den,hb]
     ·exact h.elim
    ·exact h.elim
 ·exact h.elim
end
section
variable{P:Program}{τ:mg}{B n nx:Nat}{l:Env}{H:Hp}{iv:Iv}{w w':World}{O:Nat->dg}{a:Act}
theorem Dd(z:Value)(c:Nat):(madeCells #[z] c)=(List.replicate c z).toArray:=by
 unfold madeCells;apply Array.ext';simp[List.map_const',Nat.mod_one]
theorem qN(zs:List Value)(c:Nat):(madeCells zs.toArray (c*zs.length))=((List.replicate c zs).flatten).toArray:=by
 unfold madeCells;apply Array.ext';simp only[Array.toList_map,Array.toList_range,List.size_toArray]
 induction c with
 |zero=>simp
 |succ c ih=>
  rw[Nat.succ_mul,List.range_add,List.map_append,ih,List.replicate_succ',List.flatten_append];simp only[List.flatten_cons,List.flatten_nil,List.append_nil,List.map_map]
  congr 1;apply List.ext_getElem
  ·simp
  ·intro i h1 h2;simp at h1;simp[bP h1,h1]
theorem FU(hτ:fH P τ)(sat:Sat n l H nx iv B w O a w'){t:Nat}{x y:SV}{K:SV->Hp->Nat->Prop}(h:Gg τ t x y H nx K):
  ∃r H' OL ρ' w2,K r H' OL∧Rel H' OL iv B w ρ' w2∧r.sc OL∧nx<=OL∧(∀id,id<nx->O id=ρ' id)∧(Instr.makeSlice t (x.den O) (y.den O)).run P w'= .ok (r.den ρ') w2:=by
 unfold Gg at h;split at h
 ·rename_i k1 a1 k2 b1;split at h
  ·rename_i sz ag by_ ze tag ik e al fs QD;have ht:=hτ t _ QD;split at h
   ·rename_i OZ;have hu:=ht.i4 (eJ OZ);simp only at hu;split at h
    ·rename_i sz' ag' by' ze' tag' ik' e' al' fs' PK
     have PK:=hτ e _ PK;obtain⟨inf,z,hi,Oq,PL,hz,RR⟩:=PK.info;simp only at Oq PL RR;obtain⟨m,c,rfl,rfl,hmc,hbytes,h63,h⟩:=h;have QJ:(inf.bytes:Int)*(c:Int)<=281474976710656:=by
      rw[PL];have QH:((by'*c:Nat):Int)<=281474976710656:=by omega
      rwa [Int.natCast_mul]at QH
     have ON:=run_make (P:=P) w' t e inf z hu hi hz k1 k2 (m:Int) (c:Int) (by omega) (by omega) QJ (by omega);simp only[aE]at ON;have fin:∀cs:List Value,cs.toArray=madeCells z.cells (c*inf.size)->AS (.arr e cs) H nx (fun H' OL=>K (.o (.s nx 0 m c)) H' OL)->
       ∃r H' OL ρ' w2,K r H' OL∧Rel H' OL iv B w ρ' w2∧r.sc OL∧nx<=OL∧(∀id,id<nx->O id=ρ' id)∧(Instr.makeSlice t (.int k1 m) (.int k2 c)).run P w'= .ok (r.den ρ') w2:=by
      intro cs Om hK;refine⟨_,_,_,gP O nx ⟨w'.heap.size,0,false⟩,w'.alloc (.cells cs.toArray e),hK,?_,?_,by omega,gA,?_⟩
      ·refine sat.rel.push (.arr e cs) _ rfl rfl rfl (by simp) (fun k hk=>heap_alloc_old _ _ hk) (fun _=>⟨aF _,by simp⟩) ⟨rfl,heap_alloc_new _ _⟩ trivial
      ·simp[SV.sc,At.sc]
      ·rw[ON,<-Om];simp[SV.den,At.den]
     have RG:=PK.H4;simp only at RG;have Qi:z.cells=ze'.toArray:=by apply Array.ext';simpa using RR
     split at h
     ·rename_i z0;refine fin _ ?_ h;have:inf.size=1:=by rw[Oq,<-RG];rfl
      rw[this,aS,Qi,Dd]
     ·refine fin _ ?_ h;rw[Oq,<-RG,Qi];rcases bI ze'.length with h0|h0
      ·have:ze'=[]:=List.eq_nil_of_length_eq_zero h0;subst this;simp[madeCells]
      ·rw[qN]
    ·exact h.elim
   ·exact h.elim
  ·exact h.elim
 ·exact h.elim
theorem FV(sat:Sat n l H nx iv B w O a w'){x:SV}{K:Nat->List Value->Prop}(Oo:0<size)(h:Ir B H nx iv w size x K):
  ∃m c ad news,K m news∧x.den O= .slice ad m c∧news.length=m*size∧(∀u∈news,u.oneCell'=true)∧
   ((ad=none∧m=0)∨∃ad',ad=some ad'∧∀j u,news[j]? =some u->w'.cell? (ad'.add j)=some u):=by
 have rel:=sat.rel;unfold Ir at h;split at h
 ·rename_i id off m c;split at h
  ·rename_i bt cs hH;obtain⟨h1,hd⟩:=nO h;obtain⟨h2,ht⟩:=nP h1;obtain⟨vs,h3,QU,TT⟩:=kj h2;refine⟨m,c,_,vs,h3,rfl,?_,TT,.inr ⟨_,rfl,fun j u hu=>?_⟩⟩
   ·have:=congrArg List.length QU;simp at this ht;omega
   ·rw[dQ,cell_of (rel.box id bt cs hH)];have e:(vs.map At.v)[j]? =some (.v u):=by simp[hu]
    rw[<-QU]at e;simp only[List.getElem?_take,List.getElem?_drop]at e;split at e
    ·simp[e,At.den]
    ·simp at e
  ·rename_i bt cs hH;obtain⟨vs,h1,h2,h3,h4⟩:=h;refine⟨m,c,_,vs,h4,rfl,h2,h3,.inr ⟨_,rfl,fun j u hu=>?_⟩⟩;rw[dQ,cell_of (rel.arr id bt cs hH)];rw[<-h1]at hu;simp only[List.getElem?_take,List.getElem?_drop]at hu;split at hu
   ·exact hu
   ·simp at hu
  ·exact h.elim
 ·rename_i ad m c;obtain⟨vs,h1,h2,h3,h4⟩:=h;refine⟨m,c,ad,vs,h4,rfl,h1,h2,?_⟩;rcases bI m with h0|h0
  ·subst h0;have:vs=[]:=List.eq_nil_of_length_eq_zero (by simpa using h1);subst this
   cases ad with
   |none=>exact .inl ⟨rfl,rfl⟩
   |some ad=>exact .inr ⟨ad,rfl,fun j u hu=>by simp at hu⟩
  ·exact .inr (h3 O w' rel h0)
 ·rename_i id m;split at h
  ·rename_i bt sz cs hH;obtain⟨h1,h2,h3⟩:=h;rcases rel.vec id bt sz cs hH with⟨hn,rfl⟩|⟨hn,spare,hb,_⟩
   ·have h0:m=0:=by
     have h4:m*size=0:=by simpa using h1.symm
     rcases Nat.mul_eq_zero.1 h4 with h5|h5<;>omega
    subst h0;exact⟨0,0,none,[],h3,by simp[SV.den,At.den,hn],by simp,by simp,.inl ⟨rfl,rfl⟩⟩
   ·refine⟨m,(O id).cap,_,cs,h3,by simp only[SV.den,At.den,hn];rfl,h1,h2,.inr ⟨_,rfl,fun j u hu=>?_⟩⟩;rw[dQ,cell_of hb,aQ,aL (aD.1 hu).1];exact hu
  ·exact h.elim
 ·exact h.elim
theorem kv(w:World)(base:Nat)(t ty e:TypeId)(i:TypeInfo)(size:Nat)(ht:P.underlying t=some (.slice e))(hi:P.info? e=some i)
  (v:Value) (m:Nat) (xs:List Value) (Ry:w.ownsRow base e size v m xs) (c:Nat):(Builtin.append_ #[t,t] ty #[v,.slice none 0 c]).run P w= .ok v w:=by
 rcases Ry.2 with⟨rfl,rfl⟩|⟨g,cap,cur,rfl,_,_,Tn,_⟩
 ·simp[Builtin.append_,run_underlying ht,sizeOf,typeInfo,hi,Builtin.lenOf,Builtin.firstCells]
 ·simp[Builtin.append_,run_underlying ht,sizeOf,typeInfo,hi,Builtin.lenOf,Builtin.firstCells,Tn,storeCells]
theorem ox{w:World}{e:Nat}{v:Value}{base:Nat}(h:w.ownsRow base e size v m xs):
  ∃val:dg,(At.w 0 m).den (fun _=>val)=v∧(ji.vec e size xs).fits (fun _=>val) val w∧(val.nil=false->v.ownBlock=some val.g∧val.g<w.heap.size)∧(val.nil=true->v.ownBlock=none):=by
 rcases h.2 with⟨rfl,rfl⟩|⟨g,cap,cur,rfl,_,hb,Tn,Q5,hcur,Rl⟩
 ·have:xs=[]:=List.eq_nil_of_length_eq_zero (by simpa using h.1);exact⟨⟨0,0,true⟩,rfl,.inl ⟨rfl,this⟩,(fun h=>by cases h),fun _=>rfl⟩
 ·refine⟨⟨g,cap,false⟩,rfl,.inr ⟨rfl,cur.toList.drop (m*size),?_,?_,Q5⟩,fun _=>⟨rfl,(ai.1 hb).1⟩,(fun h=>by cases h)⟩
  ·rw[<-Rl,List.take_append_drop];simpa using hb
  ·rw[<-Rl,List.take_append_drop];simpa using hcur
theorem yJ(rel:Rel H nx iv B w O w'){e sz:Nat}(hH:dB H id=some (.vec e sz cs))(hl:cs.length=m*sz)(Oo:0<sz):
  w'.ownsRow B e sz ((At.w id m).den O) m cs:=by
 rcases rel.vec id e sz cs hH with⟨hn,rfl⟩|⟨hn,spare,hb,Qd,Q5⟩
 ·have h0:m=0:=by
   have h4:m*sz=0:=by simpa using hl.symm
   rcases Nat.mul_eq_zero.1 h4 with h5|h5<;>omega
  subst h0;simp only[At.den,hn]
  exact World.ownsRow_nil _ _ _ _
 ·refine⟨hl,.inr ⟨(O id).g,(O id).cap,_,by simp only[At.den,hn],(rel.low id _ hH hn).1,hb,?_,Q5,by simpa using Qd,by simp[<-hl]⟩⟩;have h1:m*sz<=(O id).cap*sz:=by rw[<-Qd,<-hl];simp
  exact bp h1 Oo
theorem s7(hτ:fH P τ)(sat:Sat n l H nx iv B w O a w'){t ty:Nat}{x y:SV}{K:SV->Hp->Nat->Prop}(h:x9 τ B t x y H nx iv w K):
  ∃r H' OL ρ' w2,K r H' OL∧Rel H' OL iv B w ρ' w2∧r.sc OL∧nx<=OL∧(∀id,id<nx->O id=ρ' id)∧(Builtin.append_ #[t,t] ty #[x.den O,y.den O]).run P w'= .ok (r.den ρ') w2:=by
 have rel:=sat.rel;unfold x9 at h;split at h
 ·exact h.elim
 rename_i sz ag by_ ze tag ik e al fs QD;have ht:=hτ t _ QD;split at h
 ·rename_i OZ;have hu:=ht.i4 (eJ OZ);simp only at hu;split at h
  ·rename_i sz' ag' by' ze' tag' ik' e' al' fs' PK
   have PK:=hτ e _ PK;split at h
   ·exact h.elim
   ·rename_i z0 zr;obtain⟨inf,z,hi,Oq,PL,hz,RR⟩:=PK.info;have RG:=PK.H4;simp only at Oq PL RR RG;have Oo:0<sz':=by rw[<-RG];simp
    have hzs:z.cells.size=sz':=by rw[<-RG,<-RR];simp
    have h0:=FV sat Oo h;clear h;obtain⟨m,c,ad,news,h,hy,RQ,hn1,Ux⟩:=h0;have happ:∀(v:Value) (k:Nat) (xs:List Value),w'.ownsRow B e sz' v k xs->(k+m)*by'<=140737488355328->k+m<=maxLen->
      ∃v' w2,(Builtin.append_ #[t,t] ty #[v,y.den O]).run P w'= .ok v' w2∧w2.ownsRow B e sz' v' (k+m) (xs++news)∧w'.grownBy w2 v.ownBlock∧(v'.ownBlock=v.ownBlock∨v'.ownBlock=some w'.heap.size):=by
     intro v k xs Ry hb Qu;rw[hy];rcases Ux with⟨rfl,rfl⟩|⟨ad',rfl,Oy⟩
     ·have:news=[]:=List.eq_nil_of_length_eq_zero (by simpa using RQ);subst this;exact⟨v,w',kv w' B t ty e inf sz' hu hi v k xs Ry c,by simpa using Ry,⟨rfl,rfl,rfl,aF _,fun _ _ _=>rfl⟩,.inl rfl⟩
     ·obtain⟨v',w2,h1,h2,h3,_,h5⟩:=run_append_own_at (P:=P) w' B t ty e inf z sz' by' hu hi hz Oq PL hzs Oo v k xs Ry ad' m c news RQ Oy hn1 Qu hb (by have:=rel.base;have:=rel.size;omega)
      exact⟨v',w2,h1,h2,h3,h5⟩
    split at h
    ·obtain⟨hb,Qu,hK⟩:=h;obtain⟨v',w2,h1,h2,h3,h5⟩:=happ (.slice none 0 0) 0 [] (World.ownsRow_nil _ _ _ _) (by simpa using hb) (by simpa using Qu);simp only[aQ,List.nil_append]at h2;obtain⟨val,TT,RS,hv3,hv4⟩:=ox h2;refine⟨_,_,_,gP O nx val,w2,hK,?_,by simp[SV.sc,At.sc],by omega,gA,?_⟩
     ·refine rel.push (.vec e sz' news) val h3.os h3.tape h3.output h3.size (fun k hk=>h3.block k hk (by simp[Value.ownBlock])) (fun hn=>?_) (by simpa [ji.fits]using RS) trivial;have:=hv3 hn;rcases h5 with h6|h6
      ·rw[this.1]at h6;simp[Value.ownBlock]at h6
      ·rw[this.1]at h6;injection h6 with h6;exact⟨by omega,this.2⟩
     ·rw[show SV.den O (.o (.v (.slice none 0 0)))= .slice none 0 0 from rfl,h1,<-TT];simp[SV.den,At.den]
    ·rename_i id k;split at h
     ·rename_i e1 sz1 cs hH;split at h
      ·rename_i he1;have he1:=eJ he1;subst he1;split at h
       ·rename_i Ou;have Ou:=eJ Ou;subst Ou;obtain⟨hl,hb,Qu,h⟩:=h;obtain⟨H1,hK,hH1,_⟩:=rP h;obtain⟨v',w2,h1,h2,h3,h5⟩:=happ _ k cs (yJ rel hH hl Oo) hb Qu;obtain⟨val,TT,RS,hv3,hv4⟩:=ox h2;have Qc:(O id).nil=false->((At.w id k).den O).ownBlock=some (O id).g:=fun hn=>by simp[At.den,hn,Value.ownBlock]
        have hob':(O id).nil=true->((At.w id k).den O).ownBlock=none:=fun hn=>by simp[At.den,hn,Value.ownBlock]
        refine⟨_,_,_,gP O nx val,w2,hK,?_,by simp[SV.sc,At.sc],by omega,gA,?_⟩
        ·refine rel.Iw hH (by simp) hH1 (.vec e1 sz1 (cs++news)) val h3.os h3.tape h3.output h3.size (fun j hj OG=>?_) (fun hn=>?_) (by simpa [ji.fits]using RS) trivial
         ·refine h3.block j hj fun e=>?_
          cases PE:(O id).nil
          ·rw[Qc PE]at e;injection e with e;exact OG PE e
          ·rw[hob' PE]at e;cases e
         ·have:=hv3 hn;rcases h5 with h6|h6
          ·rw[this.1]at h6
           cases PE:(O id).nil
           ·rw[Qc PE]at h6;injection h6 with h6;exact .inr ⟨rfl,h6⟩
           ·rw[hob' PE]at h6;cases h6
          ·rw[this.1]at h6;injection h6 with h6;exact .inl ⟨by omega,this.2⟩
        ·rw[show SV.den O (.o (.w id k))=(At.w id k).den O from rfl,h1,<-TT];simp[SV.den,At.den]
       ·exact h.elim
      ·exact h.elim
     ·exact h.elim
    ·rename_i id k c0;split at h
     ·rename_i hkc;have hkc:=eJ hkc;subst hkc;split at h
      ·rename_i e1 cs0 hH;split at h
       ·rename_i he1;have he1:=eJ he1;subst he1;obtain⟨cs,⟨hl,hb,Qu,h9⟩,rfl,_⟩:=kj h;obtain⟨H1,hK,hH1,_⟩:=rP h9;have PE:(O id).nil=false:=rel.nn id _ hH (by intros;simp) (by simp);have SS:=rel.box id _ _ hH;rw[fb]at SS;have Ry:w'.ownsRow B e1 sz' ((At.s id 0 k k).den O) k cs:=by
         refine⟨hl,.inr ⟨(O id).g,k,_,by simp only[At.den],(rel.low id _ hH PE).1,SS,aF _,by omega,by simp[hl],by simp[<-hl]⟩⟩
        obtain⟨v',w2,h1,h2,h3,h5⟩:=happ _ k cs Ry hb Qu;obtain⟨val,TT,RS,hv3,hv4⟩:=ox h2;have Qc:((At.s id 0 k k).den O).ownBlock=some (O id).g:=by simp[At.den,Value.ownBlock]
        refine⟨_,_,_,gP O nx val,w2,hK,?_,by simp[SV.sc,At.sc],by omega,gA,?_⟩
        ·refine rel.Iw hH (by simp) hH1 (.vec e1 sz' (cs++news)) val h3.os h3.tape h3.output h3.size (fun j hj OG=>?_) (fun hn=>?_) (by simpa [ji.fits]using RS) trivial
         ·refine h3.block j hj fun e=>?_;rw[Qc]at e;injection e with e;exact OG PE e
         ·have:=hv3 hn;rcases h5 with h6|h6
          ·rw[this.1]at h6;rw[Qc]at h6;injection h6 with h6;exact .inr ⟨PE,h6⟩
          ·rw[this.1]at h6;injection h6 with h6;exact .inl ⟨by omega,this.2⟩
        ·rw[show SV.den O (.o (.s id 0 k k))=(At.s id 0 k k).den O from rfl,h1,<-TT];simp[SV.den,At.den]
       ·exact h.elim
      ·exact h.elim
     ·exact h.elim
    ·exact h.elim
  ·exact h.elim
 ·exact h.elim
end
end Go.Sx
