/- Texts Sx1 to Sx6: lemmas, each with its conditions. -/
import Derived.WalkKit
import Derived.Maps.AppendAt
import Derived.Laws.IdiomCopy
import Derived.Great.BuildSlice
namespace Go
variable{i m n:Nat}
theorem aA.{u_1}{α:Type u_1}{l:List α}(h:i<l.length):l[i]? =some l[i]:=List.getElem?_eq_getElem h
theorem aC.{u_1}{α:Type u_1}(y:α){a:α}{l:List α}:a∈l->a∈y::l:=List.mem_cons_of_mem y
theorem aD.{u_1}{α:Type u_1}{l:List α}{a:α}(e:l[i]? =some a):a∈l:=List.mem_of_getElem? e
theorem aE.{u_1}{α:Type u_1}{a:α}{l:List α}:l[i]? =some a↔∃h:i<l.length,l[i]=a:=List.getElem?_eq_some_iff
theorem aF(n:Nat):((n:Int)).toNat=n:=Int.toNat_natCast n
theorem aG.{u_1}{α:Type u_1}{a:α}{l:List α}:a∈a::l:=List.mem_cons_self
theorem aH{p:Prop} [inst:Decidable p]:decide p=false->¬p:=of_decide_eq_false
theorem aI{p:Prop} [inst:Decidable p]:decide p=true->p:=of_decide_eq_true
theorem aJ.{u}{c:Prop}{h:Decidable c}(hnc:¬c){α:Sort u}{t e:α}:(if c then t else e)=e:=if_neg hnc
theorem aK.{u_1}{α:Type u_1}{l₁ l₂:List α}(hn:i<l₁.length):(l₁++l₂)[i]? =l₁[i]? :=List.getElem?_append_left hn
theorem aL.{u_1,u_2}{α:Type u_1}{β:Type u_2}{as:List α}(f:α->β):(List.map f as).length=as.length:=List.length_map f
theorem aM.{u_1,u_2}{α:Type u_1}{β:Type u_2}{f:α->β}{l:List α}:(List.map f l)[i]? =Option.map f l[i]? :=List.getElem?_map
theorem aN.{u_1}{α:Type u_1}{a:α}{l:List α}(h:a∈l):∃i:Nat,l[i]? =some a:=List.getElem?_of_mem h
theorem aO.{u_1}{α:Type u_1}{l₁ l₂:List α}:l₁.length<=i->(l₁++l₂)[i]? =l₂[i-l₁.length]? :=List.getElem?_append_right
theorem aQ.{u_1}{α:Type u_1}{l:List α}{a:α}(h:i<l.length):(l.set i a)[i]? =some a:=List.getElem?_set_self h
theorem aR(n:Nat):0<=n:=Nat.zero_le n
theorem aS(n m:Nat):n<m∨n≥m:=Nat.lt_or_ge n m
theorem aU(h₁:n<=m)(h₂:m<=n):n=m:=Nat.le_antisymm h₁ h₂
theorem aV.{u_1,u_2}{α:Type u_1}{β:Type u_2}{b:β}{f:α->β}{l:List α}:b∈List.map f l↔∃a,a∈l∧f a=b:=List.mem_map
theorem aW(n:Nat):0+n=n:=Nat.zero_add n
theorem aX{k:Nat}:n<=m->m<=k->n<=k:=Nat.le_trans
theorem aY.{u_1}{α:Type u_1}{l:List α}{j:Nat}(h:i≠j){a:α}:(l.set i a)[j]? =l[j]? :=List.getElem?_set_ne h
theorem aZ(n:Nat):n*1=n:=Nat.mul_one n
theorem ah.{u_1}{α:Type u_1}{l:List α}(h:n<l.length):l[n]∈l:=List.getElem_mem h
theorem ai.{u_1}{α:Type u_1}{l:List α}:(List.take i l).length=min i l.length:=List.length_take
theorem av.{u_1}{α:Type u_1}{l:List α}{a b:α}:a∈l.set i b->a∈l∨a=b:=List.mem_or_eq_of_mem_set
theorem bA.{u_1}{α:Type u_1}{b:α}{xs:Array α}:xs[i]? =some b↔∃h:i<xs.size,xs[i]=b:=Array.getElem?_eq_some_iff
theorem bB.{u_1}{α:Type u_1}{xs:Array α}{d:α}:xs.getD i d=xs[i]?.getD d:=Array.getD_eq_getD_getElem?
theorem bC(a b:Bool):((a&&b)=true)=(a=true∧b=true):=Bool.and_eq_true a b
theorem bD(a:Rat):a*0=0:=Rat.mul_zero a
theorem bE.{u_1}{α:Type u_1}{a:α}{s t:List α}:a∈s++t↔a∈s∨a∈t:=List.mem_append
theorem bF.{u_1}{α:Type u_1}{l:List α}:List.take l.length l=l:=List.take_length
theorem bG.{u}{α:Type u}{xs:Array α}:xs.toList[i]? =xs[i]? :=Array.getElem?_toList
theorem bH.{u_1}{α:Type u_1}{l₁ l₂:List α}(h:∀(i:Nat),l₁[i]? =l₂[i]?):l₁=l₂:=List.ext_getElem? h
theorem bI(a:Rat):0*a=0:=Rat.zero_mul a
theorem bJ.{u_1}{α:Type u_1}{a b:α}(h:b∈List.replicate n a):b=a:=List.eq_of_mem_replicate h
theorem bK(n:Nat):n-n=0:=Nat.sub_self n
theorem bL.{u_1}{α:Type u_1}{a b:α}:a∈[b]↔a=b:=List.mem_singleton
theorem bM.{u}{α:Type u}{as:List α}{a:α}:(as.set i a).length=as.length:=List.length_set
theorem bN(n:Nat):n=0∨n>0:=Nat.eq_zero_or_pos n
theorem bO{a b:Nat}(h:a<b):a % b=a:=Nat.mod_eq_of_lt h
theorem bP{p:Prop} [Decidable p]:¬p->decide p=false:=decide_eq_false
theorem bQ(a:Rat):a+0=a:=Rat.add_zero a
theorem bS:List.range n.succ=List.range n++[n]:=List.range_succ
theorem bT(n m:Nat):n*m=m*n:=Nat.mul_comm n m
theorem bU:n.beq m=true->n=m:=Nat.eq_of_beq_eq_true
theorem bV.{u_1}{α:Type u_1}{l:List α}{j:Nat}(h:i<j):(List.take j l)[i]? =l[i]? :=List.getElem?_take_of_lt h
theorem bW(k:Nat)(h:n<=m):k*n<=k*m:=Nat.mul_le_mul_left k h
theorem bX(n m k:Nat):n*(m+k)=n*m+n*k:=Nat.mul_add n m k
theorem bY(n:Nat):n<n.succ:=Nat.lt_succ_self n
theorem bZ.{u_1}{α:Type u_1}{xs:Array α}{a:α}:(xs.setIfInBounds i a).size=xs.size:=Array.size_setIfInBounds
theorem bc.{u}{α:Type u}{a:α}:(List.replicate n a).length=n:=List.length_replicate
theorem bf.{u_1,u_2}{α:Type u_1}{β:Type u_2}(a:α)(f:α->β):Option.map f (some a)=some (f a):=Option.map_some a f
theorem bg(n m k:Nat):n*m*k=n*(m*k):=Nat.mul_assoc n m k
theorem bh{p:Prop} [inst:Decidable p]:p->decide p=true:=decide_eq_true
theorem bj.{u}{α:Type u}(as bs cs:List α):as++bs++cs=as++(bs++cs):=List.append_assoc as bs cs
theorem bl{a:Int}(h:a<0):a.sign= -1:=Int.sign_eq_neg_one_of_neg h
theorem bm{a:Int}:a.sign=0↔a=0:=Int.sign_eq_zero_iff_zero
theorem bo(a b:Rat):a / b=a*b⁻¹:=Rat.div_def a b
theorem bp{a:Int}(h:0<a):a.sign=1:=Int.sign_eq_one_of_pos h
theorem bq(m:Nat)(npos:0<n):0<m.gcd n:=Nat.gcd_pos_of_pos_right m npos
theorem bs(a b:Rat):a*b=b*a:=Rat.mul_comm a b
theorem bu(w:Nat):0<2^w:=Nat.two_pow_pos w
theorem bw{a b c:Nat}(h:a*c<=b*c)(hc:0<c):a<=b:=Nat.le_of_mul_le_mul_right h hc
theorem bz(a:Rat):1*a=a:=Rat.one_mul a
theorem cA(a b:Nat):a<b∨a=b∨b<a:=Nat.lt_trichotomy a b
theorem cC(x:Nat){y:Nat}(hy:0<y):x % y<y:=Nat.mod_lt x hy
theorem cD(n:Nat):n+0=n:=Nat.add_zero n
end Go
namespace Go.Sx
open Go
variable{next:Act->World->Prop}{ad:Addr}{cells:Array Value}{b:Bool}{Q:Exit->Act->World->Prop}{K:Int->Prop}{fs:List (Nat×Nat)}{rest:List (Nat×Value)}{cs new old xs:List Value}{B id m n nx off size:Nat}{place:Nat->Option (Nat×Nat)}{hi lo:Option Operand}{A:Prop}{w' w2:World}
inductive At where
 |v (x:Value)
 |p (id off:Nat)
 |s (id off len cap:Nat)
 |w (id len:Nat)
 |fn (f:Nat) (caps:List Nat)
inductive SV where
 |o (x:At)
 |a (cs:List At)
structure dw where
 g:Nat
 cap:Nat
 nil:Bool
def At.den(O:Nat->dw):At->Value
 | .v x=>x
 | .p id off=>.pointer (some ⟨(O id).g,off,none⟩)
 | .s id off len cap=>.slice (some ⟨(O id).g,off,none⟩) len cap
 | .w id len=>match(O id).nil with
  |true=>.slice none 0 0
  |false=>.slice (some ⟨(O id).g,0,none⟩) len (O id).cap
 | .fn f caps=>.func (.func f) #[] (caps.map fun id=>Value.pointer (some ⟨(O id).g,0,none⟩)).toArray
def SV.den(O:Nat->dw):SV->Value
 | .o x=>x.den O
 | .a cs=>.agg (cs.map (At.den O)).toArray
def At.sc(n:Nat):At->Prop
 | .v _=>True
 | .p id _=>id<n
 | .s id _ _ _=>id<n
 | .w id _=>id<n
 | .fn _ caps=>∀id∈caps,id<n
def SV.sc(n:Nat):SV->Prop
 | .o x=>x.sc n
 | .a cs=>∀x∈cs,At.sc n x
inductive jq where
 |box (t:Nat) (cs:List At)
 |arr (t:Nat) (cs:List Value)
 |vec (t:Nat) (size:Nat) (cs:List Value)
 |dead
abbrev Env:=List (Nat×SV)
abbrev Hp:=List (Nat×jq)
abbrev Iv:=List (Nat×Nat)
def fu:Env->Nat->Option SV
 |[],_=>none
 |(t,v)::r,u=>match Nat.beq t u with
  |true=>some v
  |false=>fu r u
def dD:Hp->Nat->Option jq
 |[],_=>none
 |(t,v)::r,u=>match Nat.beq t u with
  |true=>some v
  |false=>dD r u
def Br:Hp->Nat->(Hp->Prop)->Prop
 |[],_,_=>False
 |(t,v)::r,u,k=>match Nat.beq t u with
  |true=>k ((t,.dead)::r)
  |false=>Br r u (fun r'=>k ((t,v)::r'))
def GR:Hp->Nat->jq->(Hp->Prop)->Prop
 |[],_,_,_=>False
 |(t,v)::r,u,b,k=>match Nat.beq t u with
  |true=>k ((t,b)::r)
  |false=>GR r u b (fun r'=>k ((t,v)::r'))
structure TI where
 size:Nat
 agg:Bool
 bytes:Nat
 zero:List Value
 tag:Nat
 ik:IntKind:=.i64
 elem:Nat:=0
 DB:Nat:=0
 fields:List (Nat×Nat):=[]
def ev(l:Env):Operand->Option SV
 | .tmp t=>fu l t
 | .const v=>some (.o (.v v))
 | .global g=>some (.o (.v (.pointer (some ⟨g,0,none⟩))))
 | .func f=>some (.o (.v (.func (.func f) #[] #[])))
def pX(l:Env)(x:Operand)(k:SV->Prop):Prop:=match ev l x with
 |some v=>k v
 |none=>False
def Jz(l:Env):List Operand->(List SV->Prop)->Prop
 |[],k=>k []
 |x::r,k=>match ev l x with
  |some v=>Jz l r (fun vs=>k (v::vs))
  |none=>False
def tL:List At->Nat->(List At->Prop)->Prop
 |l,0,k=>k l
 |[],_+1,_=>False
 |_::t,n+1,k=>tL t n k
def tM:List At->Nat->(List At->Prop)->Prop
 |_,0,k=>k []
 |[],_+1,_=>False
 |x::t,n+1,k=>tM t n (fun r=>k (x::r))
def Bt:List At->List At->(List At->Prop)->Prop
 |cs,[],k=>k cs
 |[],_::_,_=>False
 |_::t,x::r,k=>Bt t r (fun t'=>k (x::t'))
def qz:List At->Nat->List At->(List At->Prop)->Prop
 |cs,0,new,k=>Bt cs new k
 |[],_+1,_,_=>False
 |x::t,n+1,new,k=>qz t n new (fun t'=>k (x::t'))
def pY:List Value->(List At->Prop)->Prop
 |[],k=>k []
 |x::r,k=>pY r (fun r'=>k (.v x::r'))
def yg:SV->(List At->Prop)->Prop
 | .a cs,k=>k cs
 | .o (.v (.agg ⟨l⟩)),k=>pY l k
 | .o (.v (.tuple _)),_=>False
 | .o x,k=>k [x]
def At.one:At->Bool
 | .v (.agg _)=>false
 | .v (.tuple _)=>false
 |_=>true
def Hk:List At->Prop->Prop
 |[],k=>k
 |x::r,k=>match x.one with
  |true=>Hk r k
  |false=>False
def xc:List At->(List Value->Prop)->Prop
 |[],k=>k []
 | .v x::r,k=>match At.one (.v x)with
  |true=>xc r (fun r'=>k (x::r'))
  |false=>False
 |_::_,_=>False
def dN(b:Bool)(A B:Prop):Prop:=match b with
 |true=>A
 |false=>B
theorem dN.t{B:Prop}(h:dN b A B)(e:b=true):A:=by subst e;exact h
theorem dN.f{B:Prop}(h:dN b A B)(e:b=false):B:=by subst e;exact h
theorem dN.mk{B:Prop}(h1:b=true->A)(h2:b=false->B):dN b A B:=by
 cases b
 ·exact h2 rfl
 ·exact h1 rfl
structure Rel(H:Hp)(nx:Nat)(iv:Iv)(B:Nat)(w:World)(O:Nat->dw)(w':World):Prop where
 os:w'.os=w.os
 tape:w'.tape=w.tape
 output:w'.output=w.output
 size:w.heap.size<=w'.heap.size
 base:B<=w.heap.size
 pC:∀lo hi,(lo,hi)∈iv->hi<=w.heap.size
 keys:∀id b,dD H id=some b->id<nx
 box:∀id t cs,dD H id=some (.box t cs)->w'.heap[(O id).g]? =some (.cells (cs.map (At.den O)).toArray t (0,0))
 arr:∀id t cs,dD H id=some (.arr t cs)->w'.heap[(O id).g]? =some (.cells cs.toArray t (0,0))
 vec:∀id t size cs,dD H id=some (.vec t size cs)->((O id).nil=true∧cs=[])∨
  ((O id).nil=false∧∃spare:List Value,w'.heap[(O id).g]? =some (.cells (cs++spare).toArray t (0,0))∧(cs++spare).length=(O id).cap*size∧(O id).cap<=maxLen)
 inj:∀id id' b b',dD H id=some b->dD H id'=some b'->b≠ .dead->b'≠ .dead->(O id).nil=false->(O id').nil=false->(O id).g=(O id').g->id=id'
 low:∀id b,dD H id=some b->(O id).nil=false->B<=(O id).g∧(O id).g<w'.heap.size
 vF:∀k,k<w.heap.size->(∀id b,dD H id=some b->(O id).nil=false->(O id).g≠k)->w'.heap[k]? =w.heap[k]?
 jb:∀lo hi,(lo,hi)∈iv->∀id b,dD H id=some b->(O id).nil=false->¬(lo<=(O id).g∧(O id).g<hi)
 KA:∀id t cs,dD H id=some (.box t cs)->∀x∈cs,At.sc nx x
 nn:∀id b,dD H id=some b->(∀t size cs,b≠ .vec t size cs)->b≠ .dead->(O id).nil=false
structure KH(P:Program)(g:Nat):Prop where
 h:∀(args:Array Value) (w:World),(callFunc g args).run P w= .ok (.enter g args) w
structure eG(P:Program)(g:Nat)(args:Array Value)(w:World)(R:Ending->World->Prop):Prop where
 e:KH P g
 c:Calls P g args w R
def DF:List At->Nat->Option At
 |[],_=>none
 |x::_,0=>some x
 |_::t,n+1=>DF t n
def Ik:List Value->Nat->Option Value
 |[],_=>none
 |x::_,0=>some x
 |_::t,n+1=>Ik t n
def Il:List (Nat×Nat)->Nat->Option (Nat×Nat)
 |[],_=>none
 |x::_,0=>some x
 |_::t,n+1=>Il t n
def pc:IntKind->IntKind->Bool
 | .i8,.i8=>true| .i16,.i16=>true| .i32,.i32=>true| .i64,.i64=>true
 | .u8,.u8=>true| .u16,.u16=>true| .u32,.u32=>true| .u64,.u64=>true
 |_,_=>false
abbrev nF:=Nat->Option TI
def Im(op:BinOp)(k:IntKind)(a b:Int)(K:Value->Prop):Prop:=
 match op with
 | .add=>∃r,k.wrap (a+b)=r∧K (.int k r)
 | .sub=>∃r,k.wrap (a-b)=r∧K (.int k r)
 | .mul=>∃r,k.wrap (a*b)=r∧K (.int k r)
 | .quo=>b≠0∧∃r,k.wrap (a.tdiv b)=r∧K (.int k r)
 | .rem=>b≠0∧∃r,a.tmod b=r∧K (.int k r)
 | .and=>∃r,k.wrap ((BitVec.ofInt k.bits a &&& BitVec.ofInt k.bits b).toNat:Int)=r∧K (.int k r)
 | .or=>∃r,k.wrap ((BitVec.ofInt k.bits a ||| BitVec.ofInt k.bits b).toNat:Int)=r∧K (.int k r)
 | .xor=>∃r,k.wrap ((BitVec.ofInt k.bits a ^^^ BitVec.ofInt k.bits b).toNat:Int)=r∧K (.int k r)
 | .shl=>0<=b∧∃r,k.wrap (a*2^(min b.toNat k.bits))=r∧K (.int k r)
 | .shr=>0<=b∧∃r,a.fdiv (2^(min b.toNat k.bits))=r∧K (.int k r)
 | .eql=>K (.bool (a==b))
 | .neq=>K (.bool (a != b))
 | .lss=>K (.bool (decide (a<b)))
 | .leq=>K (.bool (decide (a<=b)))
 | .gtr=>K (.bool (decide (a>b)))
 | .geq=>K (.bool (decide (a≥b)))
 | .andNot=>∃r,k.wrap ((BitVec.ofInt k.bits a &&& ~~~BitVec.ofInt k.bits b).toNat:Int)=r∧K (.int k r)
def OO(P:Program)(τ:nF)(op:BinOp)(t:Nat)(x y:SV)(K:SV->Prop):Prop:=
 match x,y with
 | .o (.v (.int k a)),.o (.v (.int k' b))=>
  match op with
  | .shl=>Im op k a b (fun r=>K (.o (.v r)))
  | .shr=>Im op k a b (fun r=>K (.o (.v r)))
  |_=>match pc k k' with
   |true=>Im op k a b (fun r=>K (.o (.v r)))
   |false=>False
 | .o (.v (.bool a)),.o (.v (.bool b))=>
  match τ t with
  |some ti=>match Nat.beq ti.tag 2 with
   |true=>match op with
    | .eql=>K (.o (.v (.bool (a==b))))
    | .neq=>K (.o (.v (.bool (!(a==b)))))
    |_=>False
   |false=>False
  |none=>False
 | .o (.v (.string a)),.o (.v (.string b))=>
  match op with
  | .eql=>K (.o (.v (.bool (a.data.toList==b.data.toList))))
  | .neq=>K (.o (.v (.bool (!(a.data.toList==b.data.toList)))))
  | .add=>a.size+b.size<=maxLen∧K (.o (.v (.string (a++b))))
  |_=>False
 |_,_=>∃b:Bool,(∀(O:Nat->dw) (w:World) (o1 o2:Operand),(do eqGuard op t o1 o2 (x.den O) (y.den O);binOp op t (x.den O) (y.den O)).run P w= .ok (.bool b) w)∧K (.o (.v (.bool b)))
def By(τ:nF)(B:Nat)(t:Nat)(addr:SV)(H:Hp)(nx:Nat)(iv:Iv)(w:World)(K:SV->Prop):Prop:=
 match τ t with
 |none=>False
 |some ⟨sz,ag,_,_,_,_,_,_,_⟩=>
  match addr with
  | .o (.p id off)=>
   match dD H id with
   |some (.box _ cs)=>
    match ag with
    |false=>match DF cs off with
     |some x=>K (.o x)
     |none=>False
    |true=>tL cs off (fun r=>tM r sz (fun l=>K (.a l)))
   |some (.arr _ cs)=>
    match ag with
    |false=>∃x,cs[off]? =some x∧K (.o (.v x))
    |true=>∃xs:List Value,(cs.drop off).take sz=xs∧xs.length=sz∧pY xs (fun l=>K (.a l))
   |some (.vec _ _ cs)=>
    match ag with
    |false=>∃x,cs[off]? =some x∧K (.o (.v x))
    |true=>∃xs:List Value,(cs.drop off).take sz=xs∧xs.length=sz∧pY xs (fun l=>K (.a l))
   |_=>False
  | .o (.v (.pointer (some ad)))=>
   match ag with
   |false=>∃x,(∀O w',Rel H nx iv B w O w'->w'.cell? ad=some x)∧K (.o (.v x))
   |true=>∃xs:List Value,xs.length=sz∧(∀O w',Rel H nx iv B w O w'->∀j x,xs[j]? =some x->w'.cell? (ad.add j)=some x)∧pY xs (fun l=>K (.a l))
  |_=>False
def setCells(w:World)(a:Addr):List Value->World
 |[]=>w
 |x::r=>setCells (w.setCell a x) (a.add 1) r
def DG(τ:nF)(B:Nat)(t:Nat)(addr x:SV)(H:Hp)(nx:Nat)(iv:Iv)(w:World)(K:Hp->World->Prop):Prop:=
 match τ t with
 |none=>False
 |some ⟨sz,_,_,_,_,_,_,_,_⟩=>
  yg x (fun new=>Hk new (match Nat.beq new.length sz with
   |false=>False
   |true=>match addr with
    | .o (.p id off)=>
     match dD H id with
     |some (.box bt cs)=>qz cs off new (fun cs'=>GR H id (.box bt cs') (fun H'=>K H' w))
     |some (.arr bt cs)=>xc new (fun nv=>off+sz<=cs.length∧∃cs',cs.take off++nv++cs.drop (off+sz)=cs'∧GR H id (.arr bt cs') (fun H'=>K H' w))
     |some (.vec bt ez cs)=>xc new (fun nv=>off+sz<=cs.length∧∃cs',cs.take off++nv++cs.drop (off+sz)=cs'∧GR H id (.vec bt ez cs') (fun H'=>K H' w))
     |_=>False
    | .o (.v (.pointer (some ad)))=>xc new (fun nv=>∀O w',Rel H nx iv B w O w'->
      ad.spot=none∧(∀j,j<sz->(w'.cell? (ad.add j)).isSome=true∧w'.frozen? (ad.add j)=false)∧
      (∀id b,dD H id=some b->(O id).nil=false->(O id).g≠ad.block)∧
      ∀w2,w2=setCells w' ad nv->K H w2)
    |_=>False))
def BV(b:jq)(H:Hp)(nx:Nat)(K:Hp->Nat->Prop):Prop:=K ((nx,b)::H) (nx+1)
def pe(τ:nF)(fs:List (Nat×Nat))(f:Nat)(k:Nat->Nat->Bool->Prop):Prop:=
 match Il fs f with
 |some (off,ft)=>match τ ft with
  |some ⟨sz,ag,_,_,_,_,_,_,_⟩=>match Nat.beq sz 0 with
   |true=>False
   |false=>k off sz ag
  |none=>False
 |none=>False
def yQ(x:SV)(n:Nat)(K:SV->Prop):Prop:=
 match x with
 | .o (.p id off)=>K (.o (.p id (off+n)))
 | .o (.v (.pointer (some ad)))=>K (.o (.v (.pointer (some (ad.add n)))))
 |_=>False
def vK(l:Env)(place:Nat->(Nat->Nat->Prop)->Prop):List (Nat×Operand)->List At->(List At->Prop)->Prop
 |[],cs,k=>k cs
 |(i,x)::r,cs,k=>place i (fun off size=>pX l x (fun v=>yg v (fun new=>match Nat.beq new.length size with
   |true=>qz cs off new (fun cs'=>vK l place r cs' k)
   |false=>False)))
def Io(H:Hp)(id m:Nat)(K:Prop):Prop:=
 match dD H id with
 |some (.vec _ sz cs)=>match sz with
  |0=>False
  |k+1=>cs.length=m*(k+1)∧K
 |_=>False
def OP(τ:nF)(H:Hp)(t:Nat)(x:SV)(K:Int->Prop):Prop:=
 match τ t with
 |none=>False
 |some ⟨_,_,_,_,tag,_,_,DB,_⟩=>match Nat.beq tag 4 with
  |true=>match x with
   | .o (.v (.slice _ n _))=>K n
   | .o (.s _ _ n _)=>K n
   | .o (.w id n)=>Io H id n (K n)
   |_=>False
  |false=>match Nat.beq tag 3 with
   |true=>match x with
    | .o (.v (.string b))=>K b.size
    |_=>False
   |false=>match Nat.beq tag 6 with
    |true=>K DB
    |false=>False
def Ga(τ:nF)(H:Hp)(t:Nat)(x i:SV)(K:SV->Prop):Prop:=
 match i with
 | .o (.v (.int _ i))=>match τ t with
  |some ⟨_,_,_,_,tag,_,e,DB,_⟩=>match τ e with
   |some ⟨sz,_,_,_,_,_,_,_,_⟩=>match Nat.beq tag 4 with
    |true=>match x with
     | .o (.s id off n _)=>(0<=i∧i<n)∧K (.o (.p id (off+i.toNat*sz)))
     | .o (.w id n)=>Io H id n ((0<=i∧i<n)∧K (.o (.p id (i.toNat*sz))))
     | .o (.v (.slice a n _))=>∃ad,a=some ad∧(0<=i∧i<n)∧K (.o (.v (.pointer (some (ad.add (i.toNat*sz))))))
     |_=>False
    |false=>match Nat.beq tag 6 with
     |true=>(0<=i∧i<DB)∧yQ x (i.toNat*sz) K
     |false=>False
   |none=>False
  |none=>False
 |_=>False
def Mi(l:Env)(x:Option Operand)(dflt:Int)(K:Int->Prop):Prop:=
 match x with
 |none=>K dflt
 |some o=>pX l o (fun v=>match v with
  | .o (.v (.int _ n))=>K n
  |_=>False)
def Gb(τ:nF)(H:Hp)(t:Nat)(x:SV)(l:Env)(lo hi:Option Operand)(K:SV->Prop):Prop:=
 match τ t with
 |some ⟨_,_,_,_,tag,_,e,al,_⟩=>match Nat.beq tag 4 with
  |true=>match τ e with
   |some ⟨sz,_,_,_,_,_,_,_,_⟩=>match x with
    | .o (.s id off n c)=>Mi l lo 0 (fun a=>Mi l hi n (fun b=>(0<=a∧a<=b∧b<=c)∧∃off' n' c':Nat,(if (c:Int)=a then off else off+a.toNat*sz)=off'∧b.toNat-a.toNat=n'∧c-a.toNat=c'∧K (.o (.s id off' n' c'))))
    | .o (.v (.slice ad n c))=>Mi l lo 0 (fun a=>Mi l hi n (fun b=>(0<=a∧a<=b∧b<=c)∧∃ad' n' c',(if (c:Int)=a then ad else ad.map (·.add (a.toNat*sz)))=ad'∧b.toNat-a.toNat=n'∧c-a.toNat=c'∧K (.o (.v (.slice ad' n' c')))))
    | .o (.w id n)=>match lo with
     |none=>Io H id n (Mi l hi n (fun b=>(0<=b∧b<=n)∧∃m:Nat,b.toNat=m∧K (.o (.w id m))))
     |some _=>False
    |_=>False
   |none=>False
  |false=>match Nat.beq tag 6 with
   |true=>match τ e with
    |some ⟨_,_,_,_,_,_,_,_,_⟩=>match x with
     | .o (.p id off)=>match lo,hi with
      |none,none=>match Nat.beq al 0 with
       |false=>K (.o (.s id off al al))
       |true=>False
      |_,_=>False
     |_=>False
    |none=>False
   |false=>match Nat.beq tag 3 with
    |true=>match x with
     | .o (.v (.string s))=>Mi l lo 0 (fun a=>Mi l hi s.size (fun b=>(0<=a∧a<=b∧b<=s.size)∧K (.o (.v (.string (s.extract a.toNat b.toNat))))))
     |_=>False
    |false=>False
 |none=>False
def Hq(τ:nF)(t:Nat)(x y:SV)(H:Hp)(nx:Nat)(K:SV->Hp->Nat->Prop):Prop:=
 match x,y with
 | .o (.v (.int _ a)),.o (.v (.int _ b))=>match τ t with
  |some ⟨_,_,_,_,tag,_,e,_,_⟩=>match Nat.beq tag 4 with
   |true=>match τ e with
    |some ⟨_,_,by_,ze,_,_,_,_,_⟩=>∃n c:Nat,a=n∧b=c∧n<=c∧by_*c<=281474976710656∧c<=9223372036854775807∧
      match ze with
      |[z]=>BV (.arr e (List.replicate c z)) H nx (fun H' Oe=>K (.o (.s nx 0 n c)) H' Oe)
      |zs=>BV (.arr e (List.replicate c zs).flatten) H nx (fun H' Oe=>K (.o (.s nx 0 n c)) H' Oe)
    |none=>False
   |false=>False
  |none=>False
 |_,_=>False
def KK(B:Nat)(H:Hp)(nx:Nat)(iv:Iv)(w:World)(size:Nat)(x:SV)(K:Nat->List Value->Prop):Prop:=
 match x with
 | .o (.s id off n _)=>match dD H id with
  |some (.box _ cs)=>tL cs off (fun r=>tM r (n*size) (fun l=>xc l (fun vs=>K n vs)))
  |some (.arr _ cs)=>∃vs:List Value,(cs.drop off).take (n*size)=vs∧vs.length=n*size∧(∀x∈vs,x.oneCell'=true)∧K n vs
  |_=>False
 | .o (.v (.slice a n _))=>∃vs:List Value,vs.length=n*size∧(∀x∈vs,x.oneCell'=true)∧
   (∀O w',Rel H nx iv B w O w'->0<n->∃ad,a=some ad∧∀j u,vs[j]? =some u->w'.cell? (ad.add j)=some u)∧K n vs
 | .o (.w id n)=>match dD H id with
  |some (.vec _ _ cs)=>cs.length=n*size∧(∀x∈cs,x.oneCell'=true)∧K n cs
  |_=>False
 |_=>False
def yR(τ:nF)(B:Nat)(t:Nat)(x y:SV)(H:Hp)(nx:Nat)(iv:Iv)(w:World)(K:SV->Hp->Nat->Prop):Prop:=
 match τ t with
 |none=>False
 |some ⟨_,_,_,_,tag,_,e,_,_⟩=>match Nat.beq tag 4 with
  |true=>match τ e with
   |some ⟨sz,_,by_,ze,_,_,_,_,_⟩=>match ze with
    |[]=>False
    |_::_=>KK B H nx iv w sz y (fun m news=>
     match x with
     | .o (.v (.slice none 0 0))=>m*by_<=140737488355328∧m<=maxLen∧BV (.vec e sz news) H nx (fun H' Oe=>K (.o (.w nx m)) H' Oe)
     | .o (.w id n)=>match dD H id with
      |some (.vec e' sz' cs)=>match Nat.beq e' e with
       |true=>match Nat.beq sz' sz with
        |true=>cs.length=n*sz∧(n+m)*by_<=140737488355328∧n+m<=maxLen∧Br H id (fun H1=>BV (.vec e sz (cs++news)) H1 nx (fun H' Oe=>K (.o (.w nx (n+m))) H' Oe))
        |false=>False
       |false=>False
      |_=>False
     | .o (.s id 0 n c)=>match Nat.beq n c with
      |true=>match dD H id with
       |some (.box e' cs)=>match Nat.beq e' e with
        |true=>xc cs (fun vs=>vs.length=n*sz∧(n+m)*by_<=140737488355328∧n+m<=maxLen∧Br H id (fun H1=>BV (.vec e sz (vs++news)) H1 nx (fun H' Oe=>K (.o (.w nx (n+m))) H' Oe)))
        |false=>False
       |_=>False
      |false=>False
     |_=>False)
   |none=>False
  |false=>False
def oB(O:Nat->dw)(xs:List SV):Array Value:=(xs.map (SV.den O)).toArray
abbrev Ext(w w2:World):Prop:=RowKit.Below w.heap.size w w2
structure Ec(P:Program)(B:Nat)(g:Nat)(args:(Nat->dw)->Array Value)(H:Hp)(nx:Nat)(iv:Iv)(w:World)(K:SV->Hp->Iv->World->Prop):Prop where
 h:∀O w',Rel H nx iv B w O w'->eG P g (args O) w' (fun e w2=>∃v H' iv',e= .returned v∧Rel H' nx iv' B w2 O w2∧K (.o (.v v)) H' iv' w2)
structure EZ(P:Program)(B:Nat)(g:Nat)(args:(Nat->dw)->Array Value)(H:Hp)(nx:Nat)(iv:Iv)(w:World)(K:SV->Hp->Iv->World->Prop):Prop where
 h:∀O w',Rel H nx iv B w O w'->eG P g (args O) w' (fun e w2=>∃v,e= .returned v∧Ext w' w2∧K (.o (.v v)) H ((w'.heap.size,w2.heap.size)::iv) w2)
def KL(dr:Bool)(P:Program)(B:Nat)(g:Nat)(args:(Nat->dw)->Array Value)(H:Hp)(nx:Nat)(iv:Iv)(w:World)(K:SV->Hp->Iv->World->Prop):Prop:=
 match dr with
 |true=>EZ P B g args H nx iv w K
 |false=>Ec P B g args H nx iv w K
structure xd(P:Program)(B:Nat)(o:Oper)(l:Env)(H:Hp)(nx:Nat)(iv:Iv)(w:World)(K:SV->Hp->Nat->Iv->World->Prop):Prop where
 h:∀(O:Nat->dw) w' (e:Operand->Value),Rel H nx iv B w O w'->(∀x v,ev l x=some v->e x=v.den O)->
  ∃v w2 iv',((execOp e o).run P w'= .ok (.value v) w2∨((execOp e o).run P w'= .ok .skip w2∧v=undef))∧Rel H nx iv' B w2 O w2∧K (.o (.v v)) H nx iv' w2
def fbK(dr:Bool)(P:Program)(B:Nat)(o:Oper)(l:Env)(H:Hp)(nx:Nat)(iv:Iv)(w:World)(K:SV->Hp->Nat->Iv->World->Prop):Prop:=
 match dr with
 |true=>False
 |false=>xd P B o l H nx iv w K
structure OpG(P:Program)(B:Nat)(o:Oper)(l:Env)(H:Hp)(nx:Nat)(iv:Iv)(w:World)(K:SV->Hp->Nat->Iv->World->Prop):Prop where
 h:∀(O:Nat->dw) w' (e:Operand->Value),Rel H nx iv B w O w'->(∀x v,ev l x=some v->e x=v.den O)->
  ∃w2 w3 H' iv',(execOp e o).run P w'= .ok .skip w3∧Rel H' nx iv' B w2 O w3∧K (.o (.v undef)) H' nx iv' w2
def gbK(dr:Bool)(P:Program)(B:Nat)(o:Oper)(l:Env)(H:Hp)(nx:Nat)(iv:Iv)(w:World)(K:SV->Hp->Nat->Iv->World->Prop):Prop:=
 match dr with
 |true=>False
 |false=>OpG P B o l H nx iv w K
structure OpA(P:Program)(B:Nat)(o:Oper)(l:Env)(H:Hp)(nx:Nat)(iv:Iv)(w:World)(K:SV->Hp->Nat->Iv->World->Prop):Prop where
 h:∀(O:Nat->dw) w' (e:Operand->Value),Rel H nx iv B w O w'->(∀x v,ev l x=some v->e x=v.den O)->
  ∃v H' Oe iv' ρ' w2 w3,(execOp e o).run P w'= .ok (.value (SV.den ρ' v)) w3∧Rel H' Oe iv' B w2 ρ' w3∧v.sc Oe∧nx<=Oe∧(∀id,id<nx->O id=ρ' id)∧K v H' Oe iv' w2
def gaK(dr:Bool)(P:Program)(B:Nat)(o:Oper)(l:Env)(H:Hp)(nx:Nat)(iv:Iv)(w:World)(K:SV->Hp->Nat->Iv->World->Prop):Prop:=
 match dr with
 |true=>False
 |false=>OpA P B o l H nx iv w K
def aA1(H:Hp):SV->Bool
 | .o (.s id _ _ _)=>match dD H id with
  |some (.box _ [.s _ _ _ _])=>true
  |some (.box _ [.w _ _])=>true
  |_=>false
 |_=>false
def Nn(H:Hp):SV->SV->Bool
 | .o (.p id _),.o (.s _ _ _ _)=>match dD H id with
  |some (.arr _ _)=>true
  |_=>false
 |_,_=>false
def oE:List SV->(List Nat->Prop)->Prop
 |[],k=>k []
 | .o (.p id 0)::r,k=>oE r (fun l=>k (id::l))
 |_::_,_=>False
def yh(dr:Bool)(P:Program)(τ:nF)(B:Nat)(o:Oper)(l:Env)(H:Hp)(nx:Nat)(iv:Iv)(w:World)(K:SV->Hp->Nat->Iv->World->Prop):Prop:=
 match o.op with
 | .move x=>pX l x (fun v=>K v H nx iv w)
 | .assign x=>pX l x (fun v=>K v H nx iv w)
 | .pick c a b=>pX l c (fun v=>match v with
  | .o (.v (.bool t))=>dN t (pX l a (fun v=>K v H nx iv w)) (pX l b (fun v=>K v H nx iv w))
  |_=>False)
 | .alloc t=>match τ t with
  |some ⟨_,_,_,ze,_,_,_,_,_⟩=>pY ze (fun cs=>BV (.box t cs) H nx (fun H' Oe=>K (.o (.p nx 0)) H' Oe iv w))
  |none=>False
 | .box t x=>pX l x (fun v=>yg v (fun cs=>BV (.box t cs) H nx (fun H' Oe=>K (.o (.p nx 0)) H' Oe iv w)))
 | .build t parts=>match τ t with
  |some ⟨_,_,_,ze,tag,_,e,_,fs⟩=>match Nat.beq tag 5 with
   |true=>pY ze (fun z=>vK l (fun i k=>pe τ fs i (fun off sz _=>k off sz)) parts.toList z (fun cs=>K (.a cs) H nx iv w))
   |false=>match Nat.beq tag 6 with
    |true=>match τ e with
     |some ⟨sz,_,_,_,_,_,_,_,_⟩=>pY ze (fun z=>vK l (fun i k=>k (i*sz) sz) parts.toList z (fun cs=>K (.a cs) H nx iv w))
     |none=>False
    |false=>False
  |none=>False
 | .buildSlice t n parts=>match τ t with
  |some ⟨_,_,_,_,tag,_,e,_,_⟩=>match Nat.beq tag 4 with
   |true=>match τ e with
    |some ⟨sz,_,_,ze,_,_,_,_,_⟩=>match Nat.ble (n*sz) 16777216 with
     |true=>pY (List.replicate n ze).flatten (fun z=>vK l (fun i k=>k (i*sz) sz) parts.toList z (fun cs=>
       BV (.box e cs) H nx (fun H' Oe=>K (.o (.s nx 0 n n)) H' Oe iv w)))
     |false=>False
    |none=>False
   |false=>False
  |none=>False
 | .load t a=>pX l a (fun v=>By τ B t v H nx iv w (fun r=>K r H nx iv w))
 | .store t a x=>pX l a (fun va=>pX l x (fun vx=>match Nn H va vx with
  |true=>gbK dr P B o l H nx iv w K
  |false=>DG τ B t va vx H nx iv w (fun H' w'=>K (.o (.v undef)) H' nx iv w')))
 | .nilCheck x=>pX l x (fun v=>match v with
  | .o (.p id off)=>K (.o (.p id off)) H nx iv w
  | .o (.v (.pointer (some ad)))=>K (.o (.v (.pointer (some ad)))) H nx iv w
  | .o (.fn f ids)=>K (.o (.fn f ids)) H nx iv w
  | .o (.v (.func (.func f) fi ca))=>K (.o (.v (.func (.func f) fi ca))) H nx iv w
  |_=>False)
 | .binOp op t x y _=>pX l x (fun vx=>pX l y (fun vy=>OO P τ op t vx vy (fun r=>K r H nx iv w)))
 | .unOp op _ x=>pX l x (fun v=>match op,v with
  | .not,.o (.v (.bool b))=>K (.o (.v (.bool (!b)))) H nx iv w
  | .neg,.o (.v (.int k n))=>∃r,k.wrap (0-n)=r∧K (.o (.v (.int k r))) H nx iv w
  | .xor,.o (.v (.int k n))=>∃r,k.wrap ((BitVec.ofInt k.bits (if k.signed then -1 else k.max) ^^^ BitVec.ofInt k.bits n).toNat:Int)=r∧K (.o (.v (.int k r))) H nx iv w
  |_,_=>False)
 | .convert sr d x=>match τ sr with
  |some _=>pX l x (fun v=>match τ d with
   |some ⟨_,_,_,_,tag,ik,_,_,_⟩=>match Nat.beq tag 1 with
    |true=>match v with
     | .o (.v (.int _ n))=>∃r,ik.wrap n=r∧K (.o (.v (.int ik r))) H nx iv w
     |_=>False
    |false=>fbK dr P B o l H nx iv w K
   |none=>False)
  |none=>False
 | .makeFunc (.func f) ⟨first⟩ caps=>match first with
  |[]=>Jz l caps.toList (fun vs=>oE vs (fun ids=>K (.o (.fn f ids)) H nx iv w))
  |_=>False
 | .makeSlice t x y=>pX l x (fun vx=>pX l y (fun vy=>Hq τ t vx vy H nx (fun v H' Oe=>K v H' Oe iv w)))
 | .slice t x lo hi none=>pX l x (fun v=>Gb τ H t v l lo hi (fun r=>K r H nx iv w))
 | .fieldAddr t x f=>match τ t with
  |some ⟨_,_,_,_,tag,_,_,_,fs⟩=>match Nat.beq tag 5 with
   |true=>pe τ fs f (fun off _ _=>pX l x (fun v=>yQ v off (fun r=>K r H nx iv w)))
   |false=>False
  |none=>False
 | .field t x f=>match τ t with
  |some ⟨_,_,_,_,tag,_,_,_,fs⟩=>match Nat.beq tag 5 with
   |true=>pe τ fs f (fun off sz ag=>pX l x (fun v=>match v with
    | .o (.v (.agg ⟨vs⟩))=>pY vs (fun cs=>match ag with
     |true=>tL cs off (fun r=>tM r sz (fun c=>K (.a c) H nx iv w))
     |false=>match DF cs off with
      |some c=>K (.o c) H nx iv w
      |none=>False)
    | .a cs=>match ag with
     |true=>tL cs off (fun r=>tM r sz (fun c=>K (.a c) H nx iv w))
     |false=>match DF cs off with
      |some c=>K (.o c) H nx iv w
      |none=>False
    |_=>False))
   |false=>False
  |none=>False
 | .indexAddr t x i=>pX l x (fun vx=>pX l i (fun vi=>Ga τ H t vx vi (fun r=>K r H nx iv w)))
 | .extract x i=>pX l x (fun v=>match v with
  | .o (.v (.tuple ⟨vs⟩))=>match Ik vs i with
   |some u=>K (.o (.v u)) H nx iv w
   |none=>False
  |_=>False)
 | .call ⟨.builtin .len,⟨[x]⟩,⟨[t]⟩⟩=>pX l x (fun v=>OP τ H t v (fun n=>K (.o (.v (.int .i64 n))) H nx iv w))
 | .call ⟨.builtin .append,⟨[x,y]⟩,⟨[t,u]⟩⟩=>match Nat.beq t u with
  |true=>pX l x (fun vx=>pX l y (fun vy=>match aA1 H vy with
   |true=>gaK dr P B o l H nx iv w K
   |false=>yR τ B t vx vy H nx iv w (fun v H' Oe=>K v H' Oe iv w)∨xd P B o l H nx iv w K))
  |false=>xd P B o l H nx iv w K
 | .call ⟨.builtin .max,⟨[x,y]⟩,_⟩=>pX l x (fun vx=>pX l y (fun vy=>match vx,vy with
  | .o (.v (.int k a)),.o (.v (.int k' b))=>match pc k k' with
   |true=>K (.o (.v (.int k (max a b)))) H nx iv w
   |false=>False
  |_,_=>False))
 | .call ⟨.builtin .min,⟨[x,y]⟩,_⟩=>pX l x (fun vx=>pX l y (fun vy=>match vx,vy with
  | .o (.v (.int k a)),.o (.v (.int k' b))=>match pc k k' with
   |true=>K (.o (.v (.int k (min a b)))) H nx iv w
   |false=>False
  |_,_=>False))
 | .call ⟨.builtin .copy,_,_⟩=>xd P B o l H nx iv w K
 | .call ⟨.builtin .clear,_,_⟩=>xd P B o l H nx iv w K
 | .call ⟨.builtin .cap,_,_⟩=>xd P B o l H nx iv w K
 | .index _ _ _=>xd P B o l H nx iv w K
 | .makeMap _ _=>xd P B o l H nx iv w K
 | .lookup _ _ _ _=>xd P B o l H nx iv w K
 | .mapUpdate _ _ _ _=>xd P B o l H nx iv w K
 | .call ⟨.value f,⟨args⟩,_⟩=>pX l f (fun vf=>Jz l args (fun vs=>match vf with
   | .o (.v (.func (.func g) first caps))=>KL dr P B g (fun O=>first++oB O vs++caps) H nx iv w (fun v H' iv' w'=>K v H' nx iv' w')
   | .o (.fn g ids)=>KL dr P B g (fun O=>oB O vs++(ids.map fun id=>Value.pointer (some ⟨(O id).g,0,none⟩)).toArray) H nx iv w (fun v H' iv' w'=>K v H' nx iv' w')
   |_=>False))
 |_=>False
def Bz:List Oper->Nat->Option Tmp
 |[],_=>none
 |o::_,0=>o.dst
 |_::r,n+1=>Bz r n
def EX(d:Option Tmp)(v:SV)(l:Env)(k:Env->Prop):Prop:=match d with
 |some t=>k ((t,v)::l)
 |none=>k l
def tO(all:List Oper)(g:Option (Nat×Bool))(l:Env)(yes no:Env->Prop):Prop:=
 match g with
 |none=>yes l
 |some (j,want)=>match Bz all j with
  |none=>no l
  |some d=>match fu l d with
   |some (.o (.v (.bool b)))=>match want with
    |true=>dN b (yes ((d,.o (.v (.bool true)))::l)) (no ((d,.o (.v (.bool false)))::l))
    |false=>dN b (no ((d,.o (.v (.bool true)))::l)) (yes ((d,.o (.v (.bool false)))::l))
   |some (.o (.v (.tuple _)))=>no l
   |_=>False
def iW(dr:Bool)(P:Program)(τ:nF)(B:Nat)(all:List Oper)(o:Oper)(l:Env)(H:Hp)(nx:Nat)(iv:Iv)(w:World)(k:Env->Hp->Nat->Iv->World->Prop):Prop:=
 tO all o.guard l
  (fun l=>yh dr P τ B o l H nx iv w (fun v H' Oe iv' w'=>EX o.dst v l (fun l'=>k l' H' Oe iv' w')))
  (fun l=>EX o.dst (.o (.v undef)) l (fun l'=>k l' H nx iv w))
def Hr(P:Program)(τ:nF)(B:Nat)(all:List Oper):List Oper->Env->Hp->Nat->Iv->World->(Env->Hp->Nat->Iv->World->Prop)->Prop
 |[],l,H,nx,iv,w,K=>K l H nx iv w
 |o::r,l,H,nx,iv,w,K=>iW false P τ B all o l H nx iv w (fun l' H' Oe iv' w'=>Hr P τ B all r l' H' Oe iv' w' K)
inductive Ex where
 |normal
 |exit (id:Nat)
 |ret
structure Sat(n:Nat)(l:Env)(H:Hp)(nx:Nat)(iv:Iv)(B:Nat)(w:World)(O:Nat->dw)(a:Act)(w':World):Prop where
 rel:Rel H nx iv B w O w'
 size:a.tmps.size=n
 defers:a.defers=[]
 env:∀t v,fu l t=some v->a.tmps[t]? =some (v.den O)
 sc:∀t v,fu l t=some v->v.sc nx
abbrev KT:=Env->Hp->Nat->Iv->World->Prop
structure yo(P:Program)(B:Nat)(ops:Array Oper)(l:Env)(H:Hp)(nx:Nat)(iv:Iv)(w:World)(K:KT):Prop where
 h:∀n O a w',ops.toList.all (fun o=>match o.dst with
   |some d=>Nat.blt d n
   |none=>true)=true->Sat n l H nx iv B w O a w'->
  ∀Q:Exit->Act->World->Prop,(∀l' H' Oe iv' w2 ρ' a' w'',K l' H' Oe iv' w2->Sat n l' H' Oe iv' B w2 ρ' a' w''->Q .normal a' w'')->
  ∀id,(Code.region id ops true).wp P Q a w'
structure yv where
 l:Env
 H:Hp
 nx:Nat
 iv:Iv
 w:World
def Sub(B:Nat)(l:Env)(_nx:Nat)(O:Nat->dw)(w':World)(t:yv):Prop:=
 ∃ρ',Rel t.H t.nx t.iv B t.w ρ' w'∧(∀u v,fu t.l u=some v->v.sc t.nx∧∃v0,fu l u=some v0∧v0.den O=v.den ρ')
def mm(P:Program)(τ:nF)(B:Nat):Code->Env->Hp->Nat->Iv->World->(Ex->KT)->Prop
 | .skip,l,H,nx,iv,w,Q=>Q .normal l H nx iv w
 | .region _ ops false,l,H,nx,iv,w,Q=>Hr P τ B ops.toList ops.toList l H nx iv w (Q .normal)
 | .region _ ops true,l,H,nx,iv,w,Q=>yo P B ops l H nx iv w (Q .normal)
 | .seq a b,l,H,nx,iv,w,Q=>mm P τ B a l H nx iv w (fun e l H nx iv w=>match e with
  | .normal=>mm P τ B b l H nx iv w Q
  | .exit id=>Q (.exit id) l H nx iv w
  | .ret=>Q .ret l H nx iv w)
 | .cond c a b,l,H,nx,iv,w,Q=>pX l c (fun v=>match v with
  | .o (.v (.bool t))=>dN t (mm P τ B a l H nx iv w Q) (mm P τ B b l H nx iv w Q)
  |_=>False)
 | .block id c,l,H,nx,iv,w,Q=>mm P τ B c l H nx iv w (fun e l H nx iv w=>match e with
  | .normal=>Q .normal l H nx iv w
  | .exit id'=>match Nat.beq id' id with
   |true=>Q .normal l H nx iv w
   |false=>Q (.exit id') l H nx iv w
  | .ret=>Q .ret l H nx iv w)
 | .loop c,l,H,nx,iv,w,Q=>∃(α:Type) (st:α->yv) (μ:α->Nat) (I:α->Prop),
   (∀O w',Rel H nx iv B w O w'->∃x,I x∧Sub B l nx O w' (st x))∧
   ∀x,I x->mm P τ B c (st x).l (st x).H (st x).nx (st x).iv (st x).w (fun e l H nx iv w=>match e with
    | .normal=>∀O w',Rel H nx iv B w O w'->∃y,I y∧Sub B l nx O w' (st y)∧μ y<μ x
    | .exit id=>Q (.exit id) l H nx iv w
    | .ret=>Q .ret l H nx iv w)
 | .exit id,l,H,nx,iv,w,Q=>Q (.exit id) l H nx iv w
 | .ret,l,H,nx,iv,w,Q=>Q .ret l H nx iv w
 |_,_,_,_,_,_,_=>False
structure GY(P:Program)(t:Nat)(i:TI):Prop where
 info:∃inf z,P.info? t=some inf∧inf.size=i.size∧inf.bytes=i.bytes∧inf.zero=some z∧z.cells.toList=i.zero
 GZ:i.zero.length=i.size
 aAn:∀x∈i.zero,x.oneCell'=true
 agg:∃d,P.underlying t=some d∧(match d with| .struct _| .array _ _=>true|_=>false)=i.agg
 i1:i.tag=1->P.underlying t=some (.int i.ik)
 i2:i.tag=2->P.underlying t=some .bool
 i3:i.tag=3->P.underlying t=some .string
 i4:i.tag=4->P.underlying t=some (.slice i.elem)
 i5:i.tag=5->∃fs,P.underlying t=some (.struct fs)∧fs.toList.map (fun f=>(f.offset,f.type))=i.fields∧∀f∈fs.toList,(P.info? f.type).isSome=true
 i6:i.tag=6->P.underlying t=some (.array i.DB i.elem)
def fk(P:Program)(τ:nF):Prop:=∀t i,τ t=some i->GY P t i
theorem eW{a b:Nat}(h:Nat.beq a b=true):a=b:=bU h
theorem gA:∀{xs:List Value} {k:List At->Prop},pY xs k->k (xs.map At.v)
 |[],_,h=>h
 |x::r,k,h=>by
  have:=gA (xs:=r) (k:=fun r'=>k (.v x::r')) h;simpa using this
theorem oG:∀{cs:List At} {n:Nat} {k:List At->Prop},tL cs n k->k (cs.drop n)∧n<=cs.length
 |cs,0,k,h=>by cases cs<;>exact⟨by simpa [tL]using h,by simp⟩
 |[],n+1,k,h=>by simp[tL]at h
 |x::t,n+1,k,h=>by
  have:=oG (cs:=t) (n:=n) (k:=k) h;exact⟨by simpa using this.1,by simp;omega⟩
theorem oH:∀{cs:List At} {n:Nat} {k:List At->Prop},tM cs n k->k (cs.take n)∧n<=cs.length
 |cs,0,k,h=>by cases cs<;>exact⟨by simpa [tM]using h,by simp⟩
 |[],n+1,k,h=>by simp[tM]at h
 |x::t,n+1,k,h=>by
  have:=oH (cs:=t) (n:=n) (k:=fun r=>k (x::r)) h;exact⟨by simpa using this.1,by simp;omega⟩
theorem yx:∀{cs new:List At} {k:List At->Prop},Bt cs new k->k (new++cs.drop new.length)∧new.length<=cs.length
 |cs,[],k,h=>by cases cs<;>exact⟨by simpa [Bt]using h,by simp⟩
 |[],x::r,k,h=>by simp[Bt]at h
 |_::t,x::r,k,h=>by
  have:=yx (cs:=t) (new:=r) (k:=fun t'=>k (x::t')) h;exact⟨by simpa using this.1,by simp;omega⟩
theorem oI:∀{cs:List At} {off:Nat} {new:List At} {k:List At->Prop},qz cs off new k->
  k (cs.take off++new++cs.drop (off+new.length))∧off+new.length<=cs.length
 |cs,0,new,k,h=>by
  have h':Bt cs new k:=by cases cs<;>simpa [qz]using h
  have:=yx h';exact⟨by simpa using this.1,by omega⟩
 |[],n+1,new,k,h=>by simp[qz]at h
 |x::t,n+1,new,k,h=>by
  have:=oI (cs:=t) (off:=n) (new:=new) (k:=fun t'=>k (x::t')) h;refine⟨?_,by simp;omega⟩;have h2:=this.1;rw[show n+1+new.length=(n+new.length)+1 by omega];simpa using h2
theorem one_den{x:At}(h:x.one=true)(O:Nat->dw):(x.den O).oneCell'=true:=by
 cases x with
 |v y=>cases y<;>simp_all [At.one,At.den,Value.oneCell']
 |w id n=>simp only[At.den];split<;>rfl
 |_=>rfl
theorem yz:∀{cs:List At} {k:Prop},Hk cs k->k∧∀c∈cs,At.one c=true
 |[],k,h=>⟨h,by simp⟩
 |x::r,k,h=>by
  unfold Hk at h;split at h
  ·rename_i hx;have:=yz h;exact⟨this.1,by simp[hx];exact this.2⟩
  ·exact h.elim
theorem lL:∀{cs:List At} {k:List Value->Prop},xc cs k->∃vs,k vs∧cs=vs.map At.v∧∀v∈vs,v.oneCell'=true
 |[],k,h=>⟨[],h,rfl,by simp⟩
 | .v x::r,k,h=>by
  unfold xc at h;split at h
  ·rename_i hx;obtain⟨vs,h1,h2,h3⟩:=lL h;exact⟨x::vs,h1,by simp[h2],by simp;exact⟨one_den hx (fun _=>⟨0,0,false⟩),h3⟩⟩
  ·exact h.elim
 | .p _ _::_,k,h=>by simp[xc]at h
 | .s _ _ _ _::_,k,h=>by simp[xc]at h
 | .w _ _::_,k,h=>by simp[xc]at h
 | .fn _ _::_,k,h=>by simp[xc]at h
theorem mJ{x:SV}{k:List At->Prop}(h:yg x k):∃cs,k cs∧(∀O,(x.den O).cells=(cs.map (At.den O)).toArray)∧(∀n,x.sc n->∀c∈cs,c.sc n):=by
 cases x with
 |a cs=>exact⟨cs,h,fun O=>rfl,fun n hn=>hn⟩
 |o y=>
  cases y with
  |v z=>
   cases z with
   |agg arr=>
    obtain⟨l⟩:=arr;refine⟨_,gA h,fun O=>?_,fun n _ c hc=>?_⟩
    ·simp[SV.den,At.den,Value.cells,Function.comp_def]
    ·simp at hc;obtain⟨v,_,rfl⟩:=hc;trivial
   |tuple arr=>simp[yg]at h
   |_=>exact⟨_,h,fun O=>rfl,fun n _ c hc=>by simp at hc;subst hc;trivial⟩
  |w id n=>exact⟨_,h,fun O=>by simp only[SV.den,At.den,List.map];split<;>rfl,fun n hn c hc=>by simp at hc;subst hc;exact hn⟩
  |_=>exact⟨_,h,fun O=>rfl,fun n hn c hc=>by simp at hc;subst hc;exact hn⟩
theorem dB(t:Nat)(b:jq)(r:Hp)(u:Nat):dD ((t,b)::r) u=if t=u then some b else dD r u:=by
 show(match Nat.beq t u with|true=>some b|false=>dD r u)=_;split
 ·rename_i h;rw[if_pos (eW h)]
 ·rename_i h;rw[aJ (fun e=>by subst e;rw[Nat.beq_refl]at h;cases h)]
theorem fA(t:Nat)(b:SV)(r:Env)(u:Nat):fu ((t,b)::r) u=if t=u then some b else fu r u:=by
 show(match Nat.beq t u with|true=>some b|false=>fu r u)=_;split
 ·rename_i h;rw[if_pos (eW h)]
 ·rename_i h;rw[aJ (fun e=>by subst e;rw[Nat.beq_refl]at h;cases h)]
theorem rD:∀{H:Hp} {id:Nat} {b:jq} {k:Hp->Prop},GR H id b k->∃H',k H'∧(∀j,dD H' j=if j=id then some b else dD H j)∧(dD H id).isSome=true
 |[],id,b,k,h=>by simp[GR]at h
 |(t,v)::r,id,b,k,h=>by
  unfold GR at h;split at h
  ·rename_i ht;have:=eW ht;subst this;refine⟨_,h,fun j=>?_,by simp[dB]⟩;simp only[dB]
   by_cases e:t=j
   ·simp[e]
   ·simp[e,Ne.symm e]
  ·rename_i ht;have OY:t≠id:=fun e=>by subst e;rw[Nat.beq_refl]at ht;cases ht
   obtain⟨H',h1,h2,h3⟩:=rD h;refine⟨_,h1,fun j=>?_,by simp[dB,OY,h3]⟩;simp only[dB,h2]
   by_cases e:t=j
   ·subst e;simp[OY]
   ·simp[e]
theorem sS:∀{H:Hp} {id:Nat} {k:Hp->Prop},Br H id k->∃H',k H'∧(∀j,dD H' j=if j=id then some .dead else dD H j)∧(dD H id).isSome=true
 |[],id,k,h=>by simp[Br]at h
 |(t,v)::r,id,k,h=>by
  unfold Br at h;split at h
  ·rename_i ht;have:=eW ht;subst this;refine⟨_,h,fun j=>?_,by simp[dB]⟩;simp only[dB]
   by_cases e:t=j
   ·simp[e]
   ·simp[e,Ne.symm e]
  ·rename_i ht;have OY:t≠id:=fun e=>by subst e;rw[Nat.beq_refl]at ht;cases ht
   obtain⟨H',h1,h2,h3⟩:=sS h;refine⟨_,h1,fun j=>?_,by simp[dB,OY,h3]⟩;simp only[dB,h2]
   by_cases e:t=j
   ·subst e;simp[OY]
   ·simp[e]
theorem At.je{x:At}{O ρ':Nat->dw}(h:∀id,id<n->O id=ρ' id)(hx:x.sc n):x.den O=x.den ρ':=by
 cases x with
 |v y=>rfl
 |p id off=>simp only[At.den,h id hx]
 |s id off len cap=>simp only[At.den,h id hx]
 |w id len=>simp only[At.den,h id hx]
 |fn f caps=>
  simp only[At.den]
  congr 2;exact List.map_congr_left fun id PV=>by rw[h id (hx id PV)]
theorem SV.je{x:SV}{O ρ':Nat->dw}(h:∀id,id<n->O id=ρ' id)(hx:x.sc n):x.den O=x.den ρ':=by
 cases x with
 |o y=>exact At.je h hx
 |a cs=>
  simp only[SV.den]
  congr 2;exact List.map_congr_left fun c hc=>At.je h (hx c hc)
theorem At.tW{x:At}(h:n<=m)(hx:x.sc n):x.sc m:=by
 cases x with
 |v y=>trivial
 |fn f caps=>intro id PV;have:=hx id PV;omega
 |_=>simp only[At.sc]at *;omega
theorem SV.tW{x:SV}(h:n<=m)(hx:x.sc n):x.sc m:=by
 cases x with
 |o y=>exact At.tW h hx
 |a cs=>exact fun c hc=>At.tW h (hx c hc)
theorem Rel.drew{H:Hp}{iv:Iv}{w:World}{O:Nat->dw}(r:Rel H nx iv B w O w'):Rel H nx iv B w O w'.drew:=
 ⟨r.os,r.tape,r.output,r.size,r.base,r.pC,r.keys,r.box,r.arr,r.vec,r.inj,r.low,r.vF,r.jb,r.KA,r.nn⟩
def gS(O:Nat->dw)(nx:Nat)(v:dw):Nat->dw:=fun j=>if j=nx then v else O j
theorem gM{O:Nat->dw}{v:dw}:∀id,id<nx->O id=gS O nx v id:=fun id h=>by simp[gS,Nat.ne_of_lt h]
@[simp] theorem eS {O:Nat->dw} {nx:Nat} {v:dw}:gS O nx v nx=v:=by simp[gS]
def jq.fits(b:jq)(O:Nat->dw)(v:dw)(w:World):Prop:=
 match b with
 | .box t cs=>v.nil=false∧w.heap[v.g]? =some (.cells (cs.map (At.den O)).toArray t (0,0))
 | .arr t cs=>v.nil=false∧w.heap[v.g]? =some (.cells cs.toArray t (0,0))
 | .vec t size cs=>(v.nil=true∧cs=[])∨(v.nil=false∧∃spare:List Value,w.heap[v.g]? =some (.cells (cs++spare).toArray t (0,0))∧(cs++spare).length=v.cap*size∧v.cap<=maxLen)
 | .dead=>True
def jq.scopd(b:jq)(n:Nat):Prop:=match b with
 | .box _ cs=>∀x∈cs,At.sc n x
 |_=>True
theorem Rel.fits{H:Hp}{iv:Iv}{w:World}{O:Nat->dw}(r:Rel H nx iv B w O w'){b:jq}(h:dD H id=some b):b.fits O (O id) w':=by
 cases b with
 |box t cs=>exact⟨r.nn id _ h (by intros;simp) (by simp),r.box id t cs h⟩
 |arr t cs=>exact⟨r.nn id _ h (by intros;simp) (by simp),r.arr id t cs h⟩
 |vec t size cs=>exact r.vec id t size cs h
 |dead=>trivial
theorem Rel.mk'{H:Hp}{iv:Iv}{w:World}{O:Nat->dw}(os:w'.os=w.os)(tape:w'.tape=w.tape)(output:w'.output=w.output)
  (size:w.heap.size<=w'.heap.size) (base:B<=w.heap.size) (pC:∀lo hi,(lo,hi)∈iv->hi<=w.heap.size) (keys:∀id b,dD H id=some b->id<nx)
  (fits:∀id b,dD H id=some b->b.fits O (O id) w') (KA:∀id b,dD H id=some b->b.scopd nx)
  (inj:∀id id' b b',dD H id=some b->dD H id'=some b'->b≠ .dead->b'≠ .dead->(O id).nil=false->(O id').nil=false->(O id).g=(O id').g->id=id')
  (low:∀id b,dD H id=some b->(O id).nil=false->B<=(O id).g∧(O id).g<w'.heap.size)
  (vF:∀k,k<w.heap.size->(∀id b,dD H id=some b->(O id).nil=false->(O id).g≠k)->w'.heap[k]? =w.heap[k]?)
  (jb:∀lo hi,(lo,hi)∈iv->∀id b,dD H id=some b->(O id).nil=false->¬(lo<=(O id).g∧(O id).g<hi)):Rel H nx iv B w O w' where
 os:=os
 tape:=tape
 output:=output
 size:=size
 base:=base
 pC:=pC
 keys:=keys
 box:=fun id t cs h=>(fits id _ h).2
 arr:=fun id t cs h=>(fits id _ h).2
 vec:=fun id t size cs h=>fits id _ h
 inj:=inj
 low:=low
 vF:=vF
 jb:=jb
 KA:=fun id t cs h=>KA id _ h
 nn:=fun id b h h1 h2=>by
  have:=fits id b h
  cases b with
  |box t cs=>exact this.1
  |arr t cs=>exact this.1
  |vec t size cs=>exact absurd rfl (h1 t size cs)
  |dead=>exact absurd rfl h2
theorem jq.gf{b:jq}{O ρ':Nat->dw}{v:dw}{w:World}(h:b.fits O v w)(hρ:∀id,id<n->O id=ρ' id)(hs:b.scopd n)
  (hw:v.nil=false->b≠ .dead->w'.heap[v.g]? =w.heap[v.g]?):b.fits ρ' v w':=by
 cases b with
 |box t cs=>
  obtain⟨h1,h2⟩:=h;refine⟨h1,?_⟩;rw[hw h1 (by simp),h2,List.map_congr_left fun c hc=>At.je hρ (hs c hc)]
 |arr t cs=>exact⟨h.1,by rw[hw h.1 (by simp)];exact h.2⟩
 |vec t size cs=>
  rcases h with h|⟨h1,spare,h2,h3⟩
  ·exact .inl h
  ·exact .inr ⟨h1,spare,by rw[hw h1 (by simp)];exact h2,h3⟩
 |dead=>trivial
theorem jq.jC{b:jq}(h:n<=m)(hb:b.scopd n):b.scopd m:=by
 cases b with
 |box t cs=>exact fun c hc=>At.tW h (hb c hc)
 |_=>trivial
theorem Rel.scopd{H:Hp}{iv:Iv}{w:World}{O:Nat->dw}(r:Rel H nx iv B w O w'){b:jq}(h:dD H id=some b):b.scopd nx:=by
 cases b with
 |box t cs=>exact r.KA id t cs h
 |_=>trivial
theorem Rel.push{H:Hp}{iv:Iv}{w:World}{O:Nat->dw}(r:Rel H nx iv B w O w')(b:jq)(v:dw)
  (os:w2.os=w'.os) (tape:w2.tape=w'.tape) (output:w2.output=w'.output) (size:w'.heap.size<=w2.heap.size) (old:∀k,k<w'.heap.size->w2.heap[k]? =w'.heap[k]?)
  (hv:v.nil=false->w'.heap.size<=v.g∧v.g<w2.heap.size) (hb:b.fits O v w2) (hs:b.scopd nx):Rel ((nx,b)::H) (nx+1) iv B w (gS O nx v) w2:=by
 have PF:∀id b,dD H id=some b->id≠nx:=fun id b h=>Nat.ne_of_lt (r.keys id b h);have QC:∀id b,dD H id=some b->gS O nx v id=O id:=fun id b h=>by simp[gS,PF id b h]
 refine Rel.mk' (os.trans r.os) (tape.trans r.tape) (output.trans r.output) (aX r.size size) r.base r.pC ?_ ?_ ?_ ?_ ?_ ?_ ?_
 ·intro id b' h;rw[dB]at h;split at h
  ·omega
  ·have:=r.keys id b' h;omega
 ·intro id b' h;rw[dB]at h;split at h
  ·rename_i e;subst e;injection h with h;subst h;rw[eS];exact jq.gf hb gM hs (fun _ _=>rfl)
  ·rw[QC id b' h];exact jq.gf (r.fits h) gM (r.scopd h) (fun h1 _=>old _ (r.low id b' h h1).2)
 ·intro id b' h;rw[dB]at h;split at h
  ·injection h with h;subst h;exact jq.jC (by omega) hs
  ·exact jq.jC (by omega) (r.scopd h)
 ·intro id id' b1 b2 h1 h2 d1 d2 n1 n2 e;rw[dB]at h1 h2;split at h1<;>split at h2
  ·omega
  ·rename_i e1 e2;subst e1;rw[eS]at e n1;rw[QC id' b2 h2]at e n2;have:=(r.low id' b2 h2 n2).2;have:=(hv n1).1;omega
  ·rename_i e1 e2;subst e2;rw[eS]at e n2;rw[QC id b1 h1]at e n1;have:=(r.low id b1 h1 n1).2;have:=(hv n2).1;omega
  ·rw[QC id b1 h1]at e n1;rw[QC id' b2 h2]at e n2;exact r.inj id id' b1 b2 h1 h2 d1 d2 n1 n2 e
 ·intro id b' h n1;rw[dB]at h;split at h
  ·rename_i e;subst e;rw[eS]at n1 ⊢;have:=hv n1;have:=r.base;have:=r.size;omega
  ·rw[QC id b' h]at n1 ⊢;have:=r.low id b' h n1;omega
 ·intro k hk OY;rw[old k (by have:=r.size;omega)];refine r.vF k hk fun id b' h n1=>?_;have:=OY id b' (by rw[dB,aJ (Ne.symm (PF id b' h))];exact h) (by rw[QC id b' h];exact n1)
  rwa [QC id b' h]at this
 ·intro lo hi hm id b' h n1;rw[dB]at h;split at h
  ·rename_i e;subst e;rw[eS]at n1 ⊢;have:=hv n1;have:=r.pC lo hi hm;have:=r.size;omega
  ·rw[QC id b' h]at n1 ⊢;exact r.jb lo hi hm id b' h n1
theorem Rel.store{H H':Hp}{iv:Iv}{w:World}{O:Nat->dw}(r:Rel H nx iv B w O w'){b b':jq}(PV:dD H id=some b)(hd:b≠ .dead)(hn:(O id).nil=false)
  (hH:∀j,dD H' j=if j=id then some b' else dD H j)
  (os:w2.os=w'.os) (tape:w2.tape=w'.tape) (output:w2.output=w'.output) (size:w2.heap.size=w'.heap.size) (old:∀k,k≠(O id).g->w2.heap[k]? =w'.heap[k]?)
  (hb:b'.fits O (O id) w2) (hs:b'.scopd nx):Rel H' nx iv B w O w2:=by
 have key:∀j c,dD H' j=some c->∃c',dD H j=some c':=fun j c h=>by
  rw[hH]at h;split at h
  ·rename_i e;subst e;exact⟨b,PV⟩
  ·exact⟨c,h⟩
 refine Rel.mk' (os.trans r.os) (tape.trans r.tape) (output.trans r.output) (by rw[size];exact r.size) r.base r.pC ?_ ?_ ?_ ?_ ?_ ?_ ?_
 ·intro j c h;obtain⟨c',h'⟩:=key j c h;exact r.keys j c' h'
 ·intro j c h;rw[hH]at h;split at h
  ·rename_i e;subst e;injection h with h;subst h;exact hb
  ·rename_i e;refine jq.gf (r.fits h) (fun _ _=>rfl) (r.scopd h) (fun h1 h2=>old _ fun e2=>e ?_);exact r.inj j id c b h PV h2 hd h1 hn e2
 ·intro j c h;rw[hH]at h;split at h
  ·injection h with h;subst h;exact hs
  ·exact r.scopd h
 ·intro j j' c c' h1 h2 d1 d2 n1 n2 e;rw[hH]at h1 h2;have l1:∃c1,dD H j=some c1∧c1≠ .dead:=by
   split at h1
   ·rename_i e1;subst e1;exact⟨b,PV,hd⟩
   ·exact⟨c,h1,d1⟩
  have l2:∃c1,dD H j'=some c1∧c1≠ .dead:=by
   split at h2
   ·rename_i e1;subst e1;exact⟨b,PV,hd⟩
   ·exact⟨c',h2,d2⟩
  obtain⟨c1,g1,g2⟩:=l1;obtain⟨c2,g3,g4⟩:=l2;exact r.inj j j' c1 c2 g1 g3 g2 g4 n1 n2 e
 ·intro j c h n1;obtain⟨c',h'⟩:=key j c h;rw[size];exact r.low j c' h' n1
 ·intro k hk OY;have hkg:k≠(O id).g:=fun e=>OY id b' (by rw[hH];simp) hn e.symm;rw[old k hkg];refine r.vF k hk fun j c h n1=>?_;by_cases e:j=id
  ·subst e;exact Ne.symm hkg
  ·exact OY j c (by rw[hH,aJ e];exact h) n1
 ·intro lo hi hm j c h n1;obtain⟨c',h'⟩:=key j c h;exact r.jb lo hi hm j c' h' n1
theorem Rel.KN{H H1:Hp}{iv:Iv}{w:World}{O:Nat->dw}(r:Rel H nx iv B w O w'){b0:jq}(PV:dD H id=some b0)(hd:b0≠ .dead)
  (hH:∀j,dD H1 j=if j=id then some .dead else dD H j) (b:jq) (v:dw)
  (os:w2.os=w'.os) (tape:w2.tape=w'.tape) (output:w2.output=w'.output) (size:w'.heap.size<=w2.heap.size)
  (old:∀k,k<w'.heap.size->((O id).nil=false->k≠(O id).g)->w2.heap[k]? =w'.heap[k]?)
  (hv:v.nil=false->(w'.heap.size<=v.g∧v.g<w2.heap.size)∨((O id).nil=false∧v.g=(O id).g)) (hb:b.fits O v w2) (hs:b.scopd nx):Rel ((nx,b)::H1) (nx+1) iv B w (gS O nx v) w2:=by
 have key:∀j c,dD H1 j=some c->∃c',dD H j=some c'∧(c≠ .dead->c'=c∧j≠id):=fun j c h=>by
  rw[hH]at h;split at h
  ·rename_i e;subst e;injection h with h;exact⟨b0,PV,fun h2=>absurd h.symm h2⟩
  ·rename_i e;exact⟨c,h,fun _=>⟨rfl,e⟩⟩
 have PF:∀j c,dD H1 j=some c->j≠nx:=fun j c h=>by obtain⟨c',h',_⟩:=key j c h;exact Nat.ne_of_lt (r.keys j c' h')
 have QC:∀j c,dD H1 j=some c->gS O nx v j=O j:=fun j c h=>by simp[gS,PF j c h]
 have hidlt:=r.keys id b0 PV;have hvlow:v.nil=false->B<=v.g∧v.g<w2.heap.size:=fun hn=>by
  rcases hv hn with h|⟨h1,h2⟩
  ·have:=r.base;have:=r.size;omega
  ·have:=r.low id b0 PV h1;omega
 refine Rel.mk' (os.trans r.os) (tape.trans r.tape) (output.trans r.output) (aX r.size size) r.base r.pC ?_ ?_ ?_ ?_ ?_ ?_ ?_
 ·intro j b' h;rw[dB]at h;split at h
  ·omega
  ·obtain⟨c',h',_⟩:=key j b' h;have:=r.keys j c' h';omega
 ·intro j b' h;rw[dB]at h;split at h
  ·rename_i e;subst e;injection h with h;subst h;rw[eS];exact jq.gf hb gM hs (fun _ _=>rfl)
  ·rw[QC j b' h];by_cases S1:b'= .dead
   ·subst S1;trivial
   ·obtain⟨c',h',h2⟩:=key j b' h;obtain⟨rfl,OY⟩:=h2 S1;exact jq.gf (r.fits h') gM (r.scopd h') (fun h1 _=>old _ (r.low j c' h' h1).2 fun h3 e=>OY (r.inj j id c' b0 h' PV S1 hd h1 h3 e))
 ·intro j b' h;rw[dB]at h;split at h
  ·injection h with h;subst h;exact jq.jC (by omega) hs
  ·by_cases S1:b'= .dead
   ·subst S1;trivial
   ·obtain⟨c',h',h2⟩:=key j b' h;obtain⟨rfl,OY⟩:=h2 S1;exact jq.jC (by omega) (r.scopd h')
 ·have cross:∀j c,dD H1 j=some c->c≠ .dead->(O j).nil=false->v.nil=false->v.g≠(O j).g:=fun j c h dd nj nv e=>by
   obtain⟨c',h',h2⟩:=key j c h;obtain⟨rfl,OY⟩:=h2 dd;rcases hv nv with h3|⟨h3,h4⟩
   ·have:=(r.low j c' h' nj).2;omega
   ·exact OY (r.inj j id c' b0 h' PV dd hd nj h3 (by omega))
  intro j j' b1 b2 h1 h2 d1 d2 n1 n2 e;rw[dB]at h1 h2;split at h1<;>split at h2
  ·omega
  ·rename_i e1 e2;subst e1;rw[eS]at e n1;rw[QC j' b2 h2]at e n2;exact absurd e (cross j' b2 h2 d2 n2 n1)
  ·rename_i e1 e2;subst e2;rw[eS]at e n2;rw[QC j b1 h1]at e n1;exact absurd e.symm (cross j b1 h1 d1 n1 n2)
  ·rw[QC j b1 h1]at e n1;rw[QC j' b2 h2]at e n2;obtain⟨c1,g1,k1⟩:=key j b1 h1;obtain⟨c2,g2,k2⟩:=key j' b2 h2;obtain⟨rfl,_⟩:=k1 d1;obtain⟨rfl,_⟩:=k2 d2;exact r.inj j j' c1 c2 g1 g2 d1 d2 n1 n2 e
 ·intro j b' h n1;rw[dB]at h;split at h
  ·rename_i e;subst e;rw[eS]at n1 ⊢;exact hvlow n1
  ·rw[QC j b' h]at n1 ⊢;obtain⟨c',h',_⟩:=key j b' h;have:=r.low j c' h' n1;omega
 ·intro k hk OY;have UL:∀j c,dD H j=some c->(O j).nil=false->(O j).g≠k:=fun j c h nj=>by
   have hj:dD H1 j=some (if j=id then .dead else c):=by rw[hH];split<;>simp[h]
   have:=OY j _ (by rw[dB,aJ (Ne.symm (PF j _ hj))];exact hj) (by rw[QC j _ hj];exact nj)
   rwa [QC j _ hj]at this
  rw[old k (by have:=r.size;omega) (fun h e=>UL id b0 PV h e.symm)];exact r.vF k hk UL
 ·intro lo hi hm j b' h n1;rw[dB]at h;split at h
  ·rename_i e;subst e;rw[eS]at n1 ⊢;rcases hv n1 with h3|⟨h3,h4⟩
   ·have:=r.pC lo hi hm;have:=r.size;omega
   ·rw[h4];exact r.jb lo hi hm id b0 PV h3
  ·rw[QC j b' h]at n1 ⊢;obtain⟨c',h',_⟩:=key j b' h;exact r.jb lo hi hm j c' h' n1
section
variable{P:Program}{τ:nF}{B n nx:Nat}{l:Env}{H:Hp}{iv:Iv}{w w':World}{O:Nat->dw}{a:Act}
theorem tX(sat:Sat n l H nx iv B w O a w'){x:Operand}{v:SV}(h:ev l x=some v):a.eval x=v.den O∧v.sc nx:=by
 cases x with
 |tmp t=>
  have h1:=sat.env t v h;exact⟨by simp[Act.eval,h1],sat.sc t v h⟩
 |const c=>simp[ev]at h;subst h;exact⟨rfl,trivial⟩
 |global g=>simp[ev]at h;subst h;exact⟨rfl,trivial⟩
 |func f=>simp[ev]at h;subst h;exact⟨rfl,trivial⟩
theorem da(sat:Sat n l H nx iv B w O a w'){x:Operand}{k:SV->Prop}(h:pX l x k):∃v,k v∧a.eval x=v.den O∧v.sc nx:=by
 unfold pX at h;split at h
 ·rename_i v hv;exact⟨v,h,tX sat hv⟩
 ·exact h.elim
theorem rB(sat:Sat n l H nx iv B w O a w'):∀{xs:List Operand} {k:List SV->Prop},Jz l xs k->∃vs,k vs∧xs.map a.eval=vs.map (SV.den O)∧∀v∈vs,SV.sc nx v
 |[],k,h=>⟨[],h,rfl,by simp⟩
 |x::r,k,h=>by
  unfold Jz at h;split at h
  ·rename_i v hv;obtain⟨vs,h1,h2,h3⟩:=rB sat (xs:=r) h;have:=tX sat hv;exact⟨v::vs,h1,by simp[this.1,h2],by simp;exact⟨this.2,h3⟩⟩
  ·exact h.elim
theorem ml{o:Oper}{a:Act}{w:World}{v:Value}(h:(execOp a.eval o).run P w= .ok (.value v) w2)(hk:next (a.put o.dst v) w2):o.wp P a w next Q:=by
 unfold Oper.wp;rw[h];exact hk
theorem KO{o:Oper}{a:Act}{w:World}(h:(execOp a.eval o).run P w= .ok .skip w2)(hk:next (a.put o.dst undef) w2):o.wp P a w next Q:=by
 unfold Oper.wp;rw[h];exact hk
theorem mK{s:Sem Value}{w:World}{v:Value}(h:s.run P w= .ok v w2):((do pure (.value (<-s))):Sem Next).run P w= .ok (.value v) w2:=by
 simp[h]
theorem GY.isAgg{t:Nat}{i:TI}(h:GY P t i)(w:World):(isAgg t).run P w= .ok i.agg w:=by
 obtain⟨d,h1,h2⟩:=h.agg;unfold Go.isAgg;rw[Sem.run_bind,run_underlying h1 w,<-h2]
 cases d<;>rfl
theorem GY.sizeOf{t:Nat}{i:TI}(h:GY P t i)(w:World):(sizeOf t).run P w= .ok i.size w:=by
 obtain⟨inf,z,h1,h2,_⟩:=h.info;simp[Go.sizeOf,typeInfo,h1,h2]
theorem GY.zeroV{t:Nat}{i:TI}(h:GY P t i)(w:World):∃z,(zeroValue t).run P w= .ok z w∧z.cells.toList=i.zero:=by
 obtain⟨inf,z,h1,h2,_,h4,h5⟩:=h.info;exact⟨z,by simp[zeroValue,typeInfo,h1,h4],h5⟩
theorem kz{t:Nat}{i:TI}(ht:GY P t i)(hagg:i.agg=false){w:World}{x:Value}(hc:w.cell? ad=some x):
  (Instr.loadAt t (.pointer (some ad))).run P w= .ok x w:=by
 simp[Instr.loadAt,Instr.sureAddr,loadVar,ht.isAgg,hagg,hc]
theorem js{t:Nat}{i:TI}(ht:GY P t i)(hagg:i.agg=true){w:World}(hl:xs.length=i.size)(hc:∀j v,xs[j]? =some v->w.cell? (ad.add j)=some v):
  (Instr.loadAt t (.pointer (some ad))).run P w= .ok (.agg xs.toArray) w:=by
 have:=run_loadCells_list (P:=P) w ad xs hc;rw[hl]at this;simp[Instr.loadAt,Instr.sureAddr,loadVar,ht.isAgg,hagg,ht.sizeOf,this]
theorem dI(g off j:Nat):(⟨g,off,none⟩:Addr).add j=⟨g,off+j,none⟩:=by
 unfold Addr.add;split<;>simp_all
theorem vL:∀{cs:List At} {i:Nat},DF cs i=cs[i]?
 |[],i=>by simp[DF]
 |x::r,0=>by simp[DF]
 |x::r,i+1=>by simp[DF,vL (cs:=r)]
theorem CA:∀{cs:List Value} {i:Nat},Ik cs i=cs[i]?
 |[],i=>by simp[Ik]
 |x::r,0=>by simp[Ik]
 |x::r,i+1=>by simp[Ik,CA (cs:=r)]
theorem CB:∀{cs:List (Nat×Nat)} {i:Nat},Il cs i=cs[i]?
 |[],i=>by simp[Il]
 |x::r,0=>by simp[Il]
 |x::r,i+1=>by simp[Il,CB (cs:=r)]
theorem cell_of{w:World}{g t:Nat}(h:w.heap[g]? =some (.cells cs.toArray t (0,0))):w.cell? ⟨g,off,none⟩=cs[off]? :=by
 rw[cell_of_row w g off _ t (0,0) h];simp
theorem fw{O:Nat->dw}:(xs.map At.v).map (At.den O)=xs:=by
 simp[Function.comp_def,At.den]
theorem oJ(hτ:fk P τ)(rel0:Rel H nx iv B w O w'){t:Nat}{addr:SV}(hs:addr.sc nx){K:SV->Prop}(h:By τ B t addr H nx iv w K):
  ∃r,K r∧r.sc nx∧∀w',Rel H nx iv B w O w'->(Instr.loadAt t (addr.den O)).run P w'= .ok (r.den O) w':=by
 unfold By at h;split at h
 ·exact h.elim
 ·rename_i sz ag by_ ze tag ik e al fs Qe;have ht:=hτ t _ Qe;split at h
  ·rename_i id off;split at h
   ·rename_i bt cs hH;split at h
    ·split at h
     ·rename_i x hx;rw[vL]at hx;refine⟨_,h,rel0.KA id bt cs hH x (aD hx),fun w' rel=>?_⟩;have hb:=rel.box id bt cs hH;exact kz ht rfl (by rw[cell_of hb];simp[hx,SV.den])
     ·exact h.elim
    ·have h1:=oG h;have h2:=oH h1.1;refine⟨_,h2.1,fun c hc=>rel0.KA id bt cs hH c (List.mem_of_mem_drop (List.mem_of_mem_take hc)),fun w' rel=>?_⟩;have hb:=rel.box id bt cs hH;refine js ht rfl (xs:=((cs.drop off).take sz).map (At.den O)) ?_ fun j v hv=>?_
     ·have:=h2.2;simp only[aL,ai];omega
     ·rw[dI,cell_of hb];simp only[aM,List.getElem?_take,List.getElem?_drop]at hv ⊢;split at hv
      ·exact hv
      ·simp at hv
   ·rename_i bt cs hH;split at h
    ·obtain⟨x,hx,h⟩:=h;exact⟨_,h,trivial,fun w' rel=>kz ht rfl (by rw[cell_of (rel.arr id bt cs hH),hx];rfl)⟩
    ·obtain⟨xs,hx,hl,h⟩:=h;refine⟨_,gA h,fun c hc=>by simp at hc;obtain⟨v,_,rfl⟩:=hc;trivial,fun w' rel=>?_⟩;have hb:=rel.arr id bt cs hH;simp only[SV.den,fw]
     refine js ht rfl hl fun j v hv=>?_;rw[dI,cell_of hb];rw[<-hx]at hv;simp only[List.getElem?_take,List.getElem?_drop]at hv;split at hv
     ·exact hv
     ·simp at hv
   ·rename_i bt ez cs hH;split at h
    ·obtain⟨x,hx,h⟩:=h;refine⟨_,h,trivial,fun w' rel=>?_⟩;have hb:=rel.vec id bt ez cs hH;rcases hb with⟨_,rfl⟩|⟨hn,spare,hb,_⟩
     ·simp at hx
     ·refine kz ht rfl ?_;rw[cell_of hb];have:off<cs.length:=(aE.1 hx).1;rw[aK this,hx];rfl
    ·obtain⟨xs,hx,hl,h⟩:=h;refine⟨_,gA h,fun c hc=>by simp at hc;obtain⟨v,_,rfl⟩:=hc;trivial,fun w' rel=>?_⟩;have hb:=rel.vec id bt ez cs hH;simp only[SV.den,fw]
     rcases hb with⟨_,rfl⟩|⟨hn,spare,hb,_⟩
     ·have:xs=[]:=by rw[<-hx];simp
      subst this;refine js ht rfl hl fun j v hv=>by simp at hv
     ·refine js ht rfl hl fun j v hv=>?_;rw[dI,cell_of hb];rw[<-hx]at hv;simp only[List.getElem?_take,List.getElem?_drop]at hv;split at hv
      ·rw[aK (aE.1 hv).1];exact hv
      ·simp at hv
   ·exact h.elim
  ·rename_i ad;split at h
   ·obtain⟨x,hx,h⟩:=h;exact⟨_,h,trivial,fun w' rel=>kz ht rfl (hx O w' rel)⟩
   ·obtain⟨xs,hl,hx,h⟩:=h;refine⟨_,gA h,fun c hc=>by simp at hc;obtain⟨v,_,rfl⟩:=hc;trivial,fun w' rel=>?_⟩;simp only[SV.den,fw]
    exact js ht rfl hl fun j v hv=>hx O w' rel j v hv
  ·exact h.elim
theorem mn{t:Nat}{i:TI}(ht:GY P t i){w:World}{g bt:Nat}(hb:w.heap[g]? =some (.cells old.toArray bt (0,0))){v:Value}
  (hv:v.cells=new.toArray) (hl:new.length=i.size) (h1:∀x∈new,x.oneCell'=true) (QR:off+new.length<=old.length):
  (Instr.storeAt t (.pointer (some ⟨g,off,none⟩)) v).run P w= .ok () (w.setRow g (old.take off++new++old.drop (off+new.length)).toArray):=by
 have:=run_storeCells_at (P:=P) g off bt new 0 old.toArray w hb (by simpa using QR) h1;simp only[cD]at this;simp[Instr.storeAt,Instr.sureAddr,storeVar,ht.sizeOf,hv,hl,this]
theorem kW:∀(vs:List Value) (w:World) (b off:Nat),setCells w ⟨b,off,none⟩ vs=w.setCells b off vs
 |[],_,_,_=>rfl
 |x::r,w,b,off=>by
  simp only[setCells,World.setCells,dI]
  exact kW r _ b (off+1)
theorem wh(hτ:fk P τ)(sat:Sat n l H nx iv B w O a w'){t:Nat}{addr x:SV}(hs:addr.sc nx)(hx:x.sc nx){K:Hp->World->Prop}(h:DG τ B t addr x H nx iv w K):
  ∃H' w2 w3,K H' w2∧Rel H' nx iv B w2 O w3∧(Instr.storeAt t (addr.den O) (x.den O)).run P w'= .ok () w3:=by
 unfold DG at h;split at h
 ·exact h.elim
 rename_i sz ag by_ ze tag ik e al fs Qe;have ht:=hτ t _ Qe;have rel:=sat.rel;have h0:=mJ h;clear h;obtain⟨new,h00,Pe,R1⟩:=h0;have h0:=yz h00;clear h00;obtain⟨h,Po⟩:=h0;split at h
 ·exact h.elim
 rename_i hlen;have hlen:=eW hlen;have PC:=Pe O;have R1:=R1 nx hx;have h1:∀v∈new.map (At.den O),v.oneCell'=true:=by
  intro v hv;simp at hv;obtain⟨c,hc,rfl⟩:=hv;exact one_den (Po c hc) O
 have Pv:(new.map (At.den O)).length=sz:=by simpa using hlen
 split at h
 ·rename_i id off;split at h
  ·rename_i bt cs hH;have hb:=rel.box id bt cs hH;obtain⟨hr,QR⟩:=oI h;obtain⟨H',hK,hH',_⟩:=rD hr;refine⟨H',w,_,hK,?_,mn ht (old:=cs.map (At.den O)) hb PC Pv h1 (by simp;omega)⟩;refine rel.store hH (by simp) (rel.nn id _ hH (by intros;simp) (by simp)) hH' rfl rfl rfl (by simp) (fun k hk=>setRow_other _ _ _ _ hk) ⟨rel.nn id _ hH (by intros;simp) (by simp),?_⟩ ?_
   ·rw[setRow_heap _ _ _ _ _ _ hb];simp[List.map_drop,List.map_take]
   ·intro c hc;simp only[bE]at hc;rcases hc with(hc|hc)|hc
    ·exact rel.KA id bt cs hH c (List.mem_of_mem_take hc)
    ·exact R1 c hc
    ·exact rel.KA id bt cs hH c (List.mem_of_mem_drop hc)
  ·rename_i bt cs hH;have hb:=rel.arr id bt cs hH;obtain⟨nv,hr,Tu,UN⟩:=lL h;obtain⟨QR,cs',Ux,hr⟩:=hr;obtain⟨H',hK,hH',_⟩:=rD hr;have Rp:nv.length=sz:=by rw[Tu]at hlen;simpa using hlen
   have QY:(x.den O).cells=nv.toArray:=by rw[PC,Tu,fw]
   refine⟨H',w,_,hK,?_,mn ht hb QY Rp UN (by omega)⟩;refine rel.store hH (by simp) (rel.nn id _ hH (by intros;simp) (by simp)) hH' rfl rfl rfl (by simp) (fun k hk=>setRow_other _ _ _ _ hk) ⟨rel.nn id _ hH (by intros;simp) (by simp),?_⟩ trivial;rw[setRow_heap _ _ _ _ _ _ hb,Rp,Ux]
  ·rename_i bt ez cs hH;have hb:=rel.vec id bt ez cs hH;obtain⟨nv,hr,Tu,UN⟩:=lL h;obtain⟨QR,cs',Ux,hr⟩:=hr;obtain⟨H',hK,hH',_⟩:=rD hr;have Rp:nv.length=sz:=by rw[Tu]at hlen;simpa using hlen
   have QY:(x.den O).cells=nv.toArray:=by rw[PC,Tu,fw]
   rcases hb with⟨Oo,rfl⟩|⟨hn,spare,hb,Rc,QS⟩
   ·
    have h0:sz=0:=by simp at QR;omega
    have hnv0:nv=[]:=by cases nv with|nil=>rfl|cons _ _=>simp at Rp;omega
    subst hnv0;have:cs'=[]:=by rw[<-Ux];simp
    subst this;refine⟨H',w,w',hK,?_,?_⟩
    ·have XG:∀j,dD H' j=dD H j:=fun j=>by rw[hH'];split<;>simp_all
     exact Rel.mk' rel.os rel.tape rel.output rel.size rel.base rel.pC (fun id b h=>rel.keys id b (by rw[<-XG];exact h)) (fun id b h=>rel.fits (by rw[<-XG];exact h)) (fun id b h=>rel.scopd (by rw[<-XG];exact h))
      (fun i j b b' h1 h2=>rel.inj i j b b' (by rw[<-XG];exact h1) (by rw[<-XG];exact h2)) (fun id b h=>rel.low id b (by rw[<-XG];exact h))
      (fun k hk OY=>rel.vF k hk fun id b h=>OY id b (by rw[XG];exact h)) (fun lo hi hm id b h=>rel.jb lo hi hm id b (by rw[<-XG];exact h))
    ·subst h0;show(Instr.storeAt t (.pointer (some ⟨(O id).g,off,none⟩)) (x.den O)).run P w'=_;generalize x.den O=xv at QY ⊢;simp[Instr.storeAt,Instr.sureAddr,storeVar,ht.sizeOf,QY,storeCells]
   ·refine⟨H',w,_,hK,?_,mn ht hb QY Rp UN (by simp;omega)⟩;refine rel.store hH (by simp) hn hH' rfl rfl rfl (by simp) (fun k hk=>setRow_other _ _ _ _ hk) (.inr ⟨hn,spare,?_,?_,QS⟩) trivial
    ·rw[setRow_heap _ _ _ _ _ _ hb,<-Ux,Rp];congr 2;rw[List.take_append_of_le_length (by omega),List.drop_append_of_le_length (by omega)];simp
    ·rw[<-Rc,<-Ux];simp;omega
  ·exact h.elim
 ·rename_i ad;obtain⟨nv,hr,Tu,UN⟩:=lL h;obtain⟨XH,OZ,OY,hK⟩:=hr O w' rel;have Rp:nv.length=sz:=by rw[Tu]at hlen;simpa using hlen
  have QY:(x.den O).cells=nv.toArray:=by rw[PC,Tu,fw]
  obtain⟨b,off,spot⟩:=ad;simp only at XH OY;subst XH;have QB:=run_storeCells_cells (P:=P) b off nv 0 w' (fun j hj=>by have:=(OZ j (by omega)).1;rwa [dI]at this) (fun j hj=>by have:=(OZ j (by omega)).2;rwa [dI]at this) UN;have QE:∀k,k≠b->(w'.setCells b off nv).heap[k]? =w'.heap[k]? :=by
   intro k hk;clear QB OZ h hr hK Tu UN QY Rp
   induction nv generalizing w' off with
   |nil=>rfl
   |cons v r ih=>
    simp only[World.setCells]
    rw[show (∀(w0:World) (o:Nat),(w0.setCells b o r).heap[k]? =w0.heap[k]?)from ?_]
    ·simp[World.setCell,Array.getElem?_modify,Ne.symm hk]
    ·clear ih;intro w0 o
     induction r generalizing w0 o with
     |nil=>rfl
     |cons v r ih=>simp only[World.setCells];rw[ih];simp[World.setCell,Array.getElem?_modify,Ne.symm hk]
  have hfrm:(w'.setCells b off nv).os=w'.os∧(w'.setCells b off nv).tape=w'.tape∧(w'.setCells b off nv).output=w'.output∧(w'.setCells b off nv).heap.size=w'.heap.size:=by
   have:∀(vs:List Value) (w0:World) (o:Nat),(w0.setCells b o vs).os=w0.os∧(w0.setCells b o vs).tape=w0.tape∧(w0.setCells b o vs).output=w0.output∧(w0.setCells b o vs).heap.size=w0.heap.size:=by
    intro vs
    induction vs with
    |nil=>intro w0 o;exact⟨rfl,rfl,rfl,rfl⟩
    |cons v r ih=>intro w0 o;simp only[World.setCells];obtain⟨h1,h2,h3,h4⟩:=ih (w0.setCell ⟨b,o,none⟩ v) (o+1);exact⟨h1,h2,h3,by rw[h4];simp⟩
   exact this nv w' off
  refine⟨H,_,w'.setCells b off nv,hK _ rfl,?_,?_⟩
  ·rw[kW];refine Rel.mk' rfl rfl rfl (Nat.le_refl _) (by rw[hfrm.2.2.2];have:=rel.base;have:=rel.size;omega) (fun lo hi hm=>by rw[hfrm.2.2.2];have:=rel.pC lo hi hm;have:=rel.size;omega) rel.keys
    (fun id b' h=>jq.gf (rel.fits h) (fun _ _=>rfl) (rel.scopd h) (fun Oo _=>QE _ (OY id b' h Oo))) (fun id b' h=>rel.scopd h) rel.inj (fun id b' h Oo=>by rw[hfrm.2.2.2];exact rel.low id b' h Oo) (fun _ _ _=>rfl) rel.jb
  ·show(Instr.storeAt t (.pointer (some ⟨b,off,none⟩)) (x.den O)).run P w'=_;generalize x.den O=xv at QY ⊢;simp at QB;simp[Instr.storeAt,Instr.sureAddr,storeVar,ht.sizeOf,QY,Rp,QB]
 ·exact h.elim
end
theorem Ge(new:List Value):∀(k off:Nat) (cs:Array Value),off+k+new.length<=cs.size->
  ((new.zipIdx k).foldl (fun cs (c,j)=>cs.setIfInBounds (off+j) c) cs).toList=cs.toList.take (off+k)++new++cs.toList.drop (off+k+new.length):=by
 induction new with
 |nil=>intro k off cs _;simp
 |cons x r ih=>
  intro k off cs h;simp only[List.length_cons]at h;rw[List.zipIdx_cons,List.foldl_cons,ih (k+1) off _ (by simp;omega)];have h2:=list_seg_step cs.toList (off+k) x r (by simp;omega);simp only[Array.toList_setIfInBounds,List.length_cons]at h2 ⊢;rw[show off+(k+1)=off+k+1 by omega];exact h2
theorem Is{i:Nat}{v:Value}(hp:place i=some (off,size))
  (hv:v.cells=new.toArray) (hl:new.length=size) (QR:off+new.length<=cells.size):
  Instr.fill place cells ((i,v)::rest)=Instr.fill place (cells.toList.take off++new++cells.toList.drop (off+new.length)).toArray rest:=by
 have h:=Ge new 0 off cells (by omega);have e:(v.cells.zipIdx.foldl (fun cs (x:Value×Nat)=>cs.setIfInBounds (off+x.2) x.1) cells)=(cells.toList.take off++new++cells.toList.drop (off+new.length)).toArray:=by
  rw[hv,<-Array.foldl_toList];apply Array.ext';simpa using h
 conv=>lhs;unfold Instr.fill
 simp only[hp,hv,List.size_toArray,hl]
 rw[aJ (by simp;omega)];rw[hv]at e;rw[<-hl,<-e]
section
variable{P:Program}{τ:nF}{B n nx:Nat}{l:Env}{H:Hp}{iv:Iv}{w w':World}{O:Nat->dw}{a:Act}
theorem kX(sat:Sat n l H nx iv B w O a w'){place:Nat->(Nat->Nat->Prop)->Prop}{placeF:Nat->Option (Nat×Nat)}
  (hp:∀i k,place i k->∃off size,k off size∧placeF i=some (off,size)):∀{parts:List (Nat×Operand)} {cs:List At} {k:List At->Prop},
  vK l place parts cs k->(∀c∈cs,At.sc nx c)->∃cs',k cs'∧(∀c∈cs',At.sc nx c)∧cs'.length=cs.length∧
   Instr.fill placeF (cs.map (At.den O)).toArray (parts.map fun p=>(p.1,a.eval p.2))=some (cs'.map (At.den O)).toArray
 |[],cs,k,h,hs=>⟨cs,h,hs,rfl,by simp[Instr.fill]⟩
 |(i,x)::r,cs,k,h,hs=>by
  unfold vK at h;obtain⟨off,size,h1,Pb⟩:=hp i _ h;obtain⟨v,h2,hv,RV⟩:=da sat h1;obtain⟨new,h3,Pe,R1⟩:=mJ h2;split at h3
  ·rename_i hlen;have hlen:=eW hlen;obtain⟨h4,QR⟩:=oI h3
   obtain⟨cs',h5,h6,h7,h8⟩:=kX sat hp h4 (by
    intro c hc;simp only[bE]at hc;rcases hc with(hc|hc)|hc
    ·exact hs c (List.mem_of_mem_take hc)
    ·exact R1 nx RV c hc
    ·exact hs c (List.mem_of_mem_drop hc))
   refine⟨cs',h5,h6,by rw[h7];simp;omega,?_⟩;have hc:=Pe O;rw[List.map_cons,Is (new:=new.map (At.den O)) Pb (by show(a.eval x).cells=_;rw[hv];exact hc) (by simpa using hlen) (by simpa using QR),<-h8];simp[List.map_drop,List.map_take]
  ·exact h3.elim
theorem mo(hτ:fk P τ){f:Nat}{k:Nat->Nat->Bool->Prop}(h:pe τ fs f k):
  ∃off ft fi,k off fi.size fi.agg∧fs[f]? =some (off,ft)∧GY P ft fi∧fi.size≠0:=by
 unfold pe at h;split at h
 ·rename_i off ft hf;rw[CB]at hf;split at h
  ·rename_i sz ag by_ ze tag ik e al fs' Qe;split at h
   ·exact h.elim
   ·rename_i PH;exact⟨off,ft,_,h,hf,hτ ft _ Qe,fun e=>by simp at e;subst e;simp at PH⟩
  ·exact h.elim
 ·exact h.elim
theorem zA{t:Nat}{i:TI}(h:GY P t i)(h5:i.tag=5){f ft:Nat}(hf:i.fields[f]? =some (off,ft)):
  ∃fs fd,P.underlying t=some (.struct fs)∧fs[f]? =some fd∧fd.offset=off∧fd.type=ft:=by
 obtain⟨fs,h1,h2,_⟩:=h.i5 h5;rw[<-h2]at hf;simp only[aM,Option.map_eq_some_iff]at hf;obtain⟨fd,Q9,he⟩:=hf;injection he with e1 e2;exact⟨fs,fd,h1,by simpa using Q9,e1,e2⟩
theorem Ef{t:Nat}{i:TI}(h:GY P t i)(h5:i.tag=5){f ft:Nat}{fi:TI}(hf:i.fields[f]? =some (off,ft))(TS:GY P ft fi)(PH:fi.size≠0)(ad:Addr)(w:World):
  (Instr.fieldAt t (.pointer (some ad)) f).run P w= .ok (.pointer (some (ad.add off))) w:=by
 obtain⟨fs,fd,h1,h2,rfl,rfl⟩:=zA h h5 hf;simp[Instr.fieldAt,run_underlying h1,h2,Instr.sureAddr,fieldPlace,TS.sizeOf,PH]
theorem tY{x:SV}{K:SV->Prop}(h:yQ x m K)(hx:x.sc nx):∃r ad,K r∧r.sc nx∧x.den O= .pointer (some ad)∧r.den O= .pointer (some (ad.add m)):=by
 unfold yQ at h;split at h
 ·rename_i id off;exact⟨_,⟨(O id).g,off,none⟩,h,hx,rfl,by simp[SV.den,At.den,dI]⟩
 ·rename_i ad;exact⟨_,ad,h,trivial,rfl,rfl⟩
 ·exact h.elim
theorem vM(rel:Rel H nx iv B w O w'){K:Prop}(h:Io H id m K):K∧((O id).nil=true->m=0):=by
 unfold Io at h;split at h
 ·rename_i t sz cs hH;split at h
  ·exact h.elim
  ·rename_i k;refine⟨h.2,fun hn=>?_⟩;have h1:=h.1;rcases rel.vec id t (k+1) cs hH with⟨_,rfl⟩|⟨h2,_⟩
   ·have h4:m*(k+1)=0:=by simpa using h1.symm
    rcases Nat.mul_eq_zero.1 h4 with h5|h5
    ·exact h5
    ·omega
   ·rw[hn]at h2;cases h2
 ·exact h.elim
theorem Iu(hτ:fk P τ){t ty:Nat}{x:SV}(h:OP τ H t x K)(rel:Rel H nx iv B w O w'):
  ∃r,K r∧∀w',(Builtin.len_ #[t] ty #[x.den O]).run P w'= .ok (.int .i64 r) w':=by
 unfold OP at h;split at h
 ·exact h.elim
 rename_i sz ag by_ ze tag ik e al fs Qe;have ht:=hτ t _ Qe;split at h
 ·rename_i PJ;have hu:=ht.i4 (eW PJ);split at h
  ·exact⟨_,h,fun w'=>by simp[Builtin.len_,run_underlying hu,SV.den,At.den,goInt]⟩
  ·exact⟨_,h,fun w'=>by simp[Builtin.len_,run_underlying hu,SV.den,At.den,goInt]⟩
  ·rename_i id m;have h1:=vM rel h;refine⟨_,h1.1,fun w'=>?_⟩
   cases hn:(O id).nil
   ·simp[Builtin.len_,run_underlying hu,SV.den,At.den,goInt,hn]
   ·have:=h1.2 hn;subst this;simp[Builtin.len_,run_underlying hu,SV.den,At.den,goInt,hn]
  ·exact h.elim
 ·split at h
  ·rename_i PJ;have hu:=ht.i3 (eW PJ);split at h
   ·exact⟨_,h,fun w'=>by simp[Builtin.len_,run_underlying hu,SV.den,At.den,goInt]⟩
   ·exact h.elim
  ·split at h
   ·rename_i PJ;have hu:=ht.i6 (eW PJ);exact⟨_,h,fun w'=>by simp[Builtin.len_,run_underlying hu,goInt]⟩
   ·exact h.elim
theorem Eg(hτ:fk P τ){t:Nat}{x i:SV}{K:SV->Prop}(h:Ga τ H t x i K)(hx:x.sc nx)(rel:Rel H nx iv B w O w'):
  ∃r,K r∧r.sc nx∧∀w',(Instr.indexAt t (x.den O) (i.den O)).run P w'= .ok (r.den O) w':=by
 unfold Ga at h;split at h
 ·rename_i kd i;split at h
  ·rename_i sz ag by_ ze tag ik e al fs Qe;have ht:=hτ t _ Qe;split at h
   ·rename_i sz' ag' by' ze' tag' ik' e' al' fs' Pr
    have Pr:=hτ e _ Pr;split at h
    ·rename_i PJ;have hu:=ht.i4 (eW PJ);simp only at hu;split at h
     ·rename_i id off m c;obtain⟨hb,h⟩:=h;exact⟨_,h,hx,fun w'=>by simp[Instr.indexAt,run_underlying hu,asIntOf,SV.den,At.den,hb,Pr.sizeOf,dI]⟩
     ·rename_i id m;obtain⟨⟨hb,h1⟩,h2⟩:=vM rel h;refine⟨_,h1,hx,fun w'=>?_⟩
      cases hn:(O id).nil
      ·simp[Instr.indexAt,run_underlying hu,asIntOf,SV.den,At.den,hb,Pr.sizeOf,dI,hn]
      ·have:=h2 hn;omega
     ·rename_i a0 m c;obtain⟨ad,rfl,hb,h⟩:=h;exact⟨_,h,trivial,fun w'=>by simp[Instr.indexAt,run_underlying hu,asIntOf,SV.den,At.den,hb,Pr.sizeOf]⟩
     ·exact h.elim
    ·split at h
     ·rename_i PJ;have hu:=ht.i6 (eW PJ);simp only at hu;obtain⟨hb,h⟩:=h;obtain⟨r,ad,h1,h2,h3,h4⟩:=tY (O:=O) h hx;refine⟨r,h1,h2,fun w'=>?_⟩;rw[h3,h4];simp[Instr.indexAt,run_underlying hu,asIntOf,SV.den,At.den,Instr.sureAddr,hb,Pr.sizeOf]
     ·exact h.elim
   ·exact h.elim
  ·exact h.elim
 ·exact h.elim
theorem lP(sat:Sat n l H nx iv B w O a w'){x:Option Operand}{d:Int}(h:Mi l x d K):∃i,K i∧((x=none∧i=d)∨∃o k,x=some o∧a.eval o= .int k i):=by
 unfold Mi at h;split at h
 ·exact⟨d,h,.inl ⟨rfl,rfl⟩⟩
 ·obtain⟨v,h1,h2,h3⟩:=da sat h;clear h3;split at h1
  ·rename_i k i;exact⟨i,h1,.inr ⟨_,k,rfl,h2⟩⟩
  ·exact h1.elim
theorem oK{len cap:Nat}{i j:Int}(TT:(lo=none∧i=0)∨∃o k,lo=some o∧a.eval o= .int k i)(UO:(hi=none∧j=len)∨∃o k,hi=some o∧a.eval o= .int k j)
  (h0:0<=i) (h1:i<=j) (h2:j<=cap):(Instr.sliceBounds true len cap (lo.map a.eval) (hi.map a.eval) none).run P w'= .ok (i.toNat,j.toNat,cap) w':=by
 rcases TT with⟨rfl,rfl⟩|⟨o,k,rfl,ho⟩<;>rcases UO with⟨rfl,rfl⟩|⟨o',k',rfl,SY⟩
 ·simp[Instr.sliceBounds]
 ·have h1':0<=j:=by omega
  simp[Instr.sliceBounds,Instr.sliceBound,SY,asIntOf,h1',h2]
 ·have:i<=(len:Int):=h1;simp[Instr.sliceBounds,Instr.sliceBound,ho,asIntOf,h0,this]
 ·have h1':0<=j:=by omega
  have h3:i<=((j.toNat:Nat):Int):=by omega
  have h3':i<=max j 0:=by omega
  simp[Instr.sliceBounds,Instr.sliceBound,ho,SY,asIntOf,h1',h2,h0,h3']
theorem Eh{len cap:Nat}{i j:Int}(TT:(lo=none∧i=0)∨∃o k,lo=some o∧a.eval o= .int k i)(UO:(hi=none∧j=len)∨∃o k,hi=some o∧a.eval o= .int k j)
  (h0:0<=i) (h1:i<=j) (h2:j<=cap):(Instr.sliceBounds false len cap (lo.map a.eval) (hi.map a.eval) none).run P w'= .ok (i.toNat,j.toNat,cap) w':=by
 rcases TT with⟨rfl,rfl⟩|⟨o,k,rfl,ho⟩<;>rcases UO with⟨rfl,rfl⟩|⟨o',k',rfl,SY⟩
 ·simp[Instr.sliceBounds]
 ·have h1':0<=j:=by omega
  simp[Instr.sliceBounds,Instr.sliceBound,SY,asIntOf,h1',h2]
 ·have:i<=(len:Int):=h1;simp[Instr.sliceBounds,Instr.sliceBound,ho,asIntOf,h0,this]
 ·have h1':0<=j:=by omega
  have h3:i<=((j.toNat:Nat):Int):=by omega
  have h3':i<=max j 0:=by omega
  simp[Instr.sliceBounds,Instr.sliceBound,ho,SY,asIntOf,h1',h2,h0,h3']
theorem Ei(hτ:fk P τ)(sat:Sat n l H nx iv B w O a w'){t:Nat}{x:SV}{K:SV->Prop}(h:Gb τ H t x l lo hi K)(hx:x.sc nx):
  ∃r,K r∧r.sc nx∧∀w',(Instr.sliceAt t (x.den O) (lo.map a.eval) (hi.map a.eval) none).run P w'= .ok (r.den O) w':=by
 unfold Gb at h;split at h
 ·rename_i sz ag by_ ze tag ik e al fs Qe;have ht:=hτ t _ Qe;split at h
  ·rename_i PJ;have hu:=ht.i4 (eW PJ);simp only at hu;split at h
   ·rename_i sz' ag' by' ze' tag' ik' e' al' fs' Pr
    have Pr:=hτ e _ Pr;split at h
    ·rename_i id off m c;obtain⟨i,h1,TT⟩:=lP sat h;obtain⟨j,h2,UO⟩:=lP sat h1;obtain⟨⟨b0,b1,b2⟩,off',n',c',e1,rfl,rfl,h3⟩:=h2;refine⟨_,h3,hx,fun w'=>?_⟩;have hb:=oK (P:=P) (w':=w') TT UO b0 b1 b2;subst e1;simp[Instr.sliceAt,Instr.slice,run_underlying hu,SV.den,At.den,hb,Pr.sizeOf];by_cases hc:c=i.toNat
     ·rw[if_pos hc,if_pos (by omega)]
     ·rw[aJ hc,aJ (by omega)];simp[dI]
    ·rename_i ad m c;obtain⟨i,h1,TT⟩:=lP sat h;obtain⟨j,h2,UO⟩:=lP sat h1;obtain⟨⟨b0,b1,b2⟩,off',n',c',e1,rfl,rfl,h3⟩:=h2;refine⟨_,h3,trivial,fun w'=>?_⟩;have hb:=oK (P:=P) (w':=w') TT UO b0 b1 b2;subst e1;simp[Instr.sliceAt,Instr.slice,run_underlying hu,SV.den,At.den,hb,Pr.sizeOf];by_cases hc:c=i.toNat
     ·rw[if_pos hc,if_pos (by omega)]
     ·rw[aJ hc,aJ (by omega)]
    ·rename_i id m;split at h
     ·obtain⟨h1,Oo⟩:=vM sat.rel h;obtain⟨j,h2,UO⟩:=lP sat h1;obtain⟨⟨b0,b1⟩,m',rfl,h3⟩:=h2;refine⟨_,h3,hx,fun w'=>?_⟩;have QS:(O id).nil=false->m<=(O id).cap:=fun hn=>by
       unfold Io at h;split at h
       ·rename_i t' sz' cs' hH;split at h
        ·exact h.elim
        ·rename_i k;rcases sat.rel.vec id t' (k+1) cs' hH with⟨h5,_⟩|⟨_,spare,_,h6,_⟩
         ·rw[hn]at h5;cases h5
         ·have h7:=h.1;have h8:(cs'++spare).length=cs'.length+spare.length:=List.length_append;have h9:m*(k+1)<=(O id).cap*(k+1):=by omega
          exact bw h9 (Nat.succ_pos k)
       ·exact h.elim
      cases hn:(O id).nil with
      |true=>
       have hm:=Oo hn;subst hm;have hb:=oK (P:=P) (w':=w') (len:=0) (cap:=0) (lo:=none) (i:=0) (.inl ⟨rfl,rfl⟩) UO (Int.le_refl 0) b0 b1;have hj:j.toNat=0:=by omega
       rw[hj]at hb ⊢;simp only[Option.map_none]at hb;simp[Instr.sliceAt,Instr.slice,run_underlying hu,SV.den,At.den,hn,hb,Pr.sizeOf]
      |false=>
       have hc:=QS hn;have hb:=oK (P:=P) (w':=w') (len:=m) (cap:=(O id).cap) (lo:=none) (i:=0) (.inl ⟨rfl,rfl⟩) UO (Int.le_refl 0) b0 (by omega);simp only[Option.map_none]at hb;simp[Instr.sliceAt,Instr.slice,run_underlying hu,SV.den,At.den,hn,hb,Pr.sizeOf,dI]
     ·exact h.elim
    ·exact h.elim
   ·exact h.elim
  ·split at h
   ·rename_i PJ;have hu:=ht.i6 (eW PJ);simp only at hu;split at h
    ·rename_i sz' ag' by' ze' tag' ik' e' al' fs' Pr
     have Pr:=hτ e _ Pr;split at h
     ·rename_i id off;split at h
      ·split at h
       ·rename_i h0;refine⟨_,h,hx,fun w'=>?_⟩;have h0:al≠0:=fun e=>by subst e;cases h0
        simp[Instr.sliceAt,Instr.sliceBounds,run_underlying hu,SV.den,At.den,Pr.sizeOf,Instr.sureAddr,dI]
       ·exact h.elim
      ·exact h.elim
     ·exact h.elim
    ·exact h.elim
   ·split at h
    ·rename_i PJ;have hu:=ht.i3 (eW PJ);split at h
     ·rename_i s;obtain⟨i,h1,TT⟩:=lP sat h;obtain⟨j,h2,UO⟩:=lP sat h1;obtain⟨⟨b0,b1,b2⟩,h3⟩:=h2;refine⟨_,h3,trivial,fun w'=>?_⟩;have hb:=Eh (P:=P) (w':=w') TT UO b0 b1 b2;simp[Instr.sliceAt,Instr.slice,run_underlying hu,SV.den,At.den,hb]
     ·exact h.elim
    ·exact h.elim
 ·exact h.elim
end
section
variable{P:Program}{τ:nF}{B n nx:Nat}{l:Env}{H:Hp}{iv:Iv}{w w':World}{O:Nat->dw}{a:Act}
theorem Ej(z:Value)(c:Nat):(madeCells #[z] c)=(List.replicate c z).toArray:=by
 unfold madeCells;apply Array.ext';simp[List.map_const',Nat.mod_one]
theorem rE(zs:List Value)(c:Nat):(madeCells zs.toArray (c*zs.length))=((List.replicate c zs).flatten).toArray:=by
 unfold madeCells;apply Array.ext';simp only[Array.toList_map,Array.toList_range,List.size_toArray]
 induction c with
 |zero=>simp
 |succ c ih=>
  rw[Nat.succ_mul,List.range_add,List.map_append,ih,List.replicate_succ',List.flatten_append];simp only[List.flatten_cons,List.flatten_nil,List.append_nil,List.map_map]
  congr 1;apply List.ext_getElem
  ·simp
  ·intro i h1 h2;simp at h1;simp[bO h1,h1]
theorem Gf(hτ:fk P τ)(sat:Sat n l H nx iv B w O a w'){t:Nat}{x y:SV}{K:SV->Hp->Nat->Prop}(h:Hq τ t x y H nx K):
  ∃r H' Oe ρ' w2,K r H' Oe∧Rel H' Oe iv B w ρ' w2∧r.sc Oe∧nx<=Oe∧(∀id,id<nx->O id=ρ' id)∧(Instr.makeSlice t (x.den O) (y.den O)).run P w'= .ok (r.den ρ') w2:=by
 unfold Hq at h;split at h
 ·rename_i k1 a1 k2 b1;split at h
  ·rename_i sz ag by_ ze tag ik e al fs Qe;have ht:=hτ t _ Qe;split at h
   ·rename_i PJ;have hu:=ht.i4 (eW PJ);simp only at hu;split at h
    ·rename_i sz' ag' by' ze' tag' ik' e' al' fs' Pr
     have Pr:=hτ e _ Pr;obtain⟨inf,z,hi,PH,Oq,hz,R0⟩:=Pr.info;simp only at PH Oq R0;obtain⟨m,c,rfl,rfl,Uy,hbytes,h63,h⟩:=h;have Qf:(inf.bytes:Int)*(c:Int)<=281474976710656:=by
      rw[Oq];have QW:((by'*c:Nat):Int)<=281474976710656:=by omega
      rwa [Int.natCast_mul]at QW
     have Oj:=run_make (P:=P) w' t e inf z hu hi hz k1 k2 (m:Int) (c:Int) (by omega) (by omega) Qf (by omega);simp only[aF]at Oj;have fin:∀cs:List Value,cs.toArray=madeCells z.cells (c*inf.size)->BV (.arr e cs) H nx (fun H' Oe=>K (.o (.s nx 0 m c)) H' Oe)->
       ∃r H' Oe ρ' w2,K r H' Oe∧Rel H' Oe iv B w ρ' w2∧r.sc Oe∧nx<=Oe∧(∀id,id<nx->O id=ρ' id)∧(Instr.makeSlice t (.int k1 m) (.int k2 c)).run P w'= .ok (r.den ρ') w2:=by
      intro cs PI hK;refine⟨_,_,_,gS O nx ⟨w'.heap.size,0,false⟩,w'.alloc (.cells cs.toArray e),hK,?_,?_,by omega,gM,?_⟩
      ·refine sat.rel.push (.arr e cs) _ rfl rfl rfl (by simp) (fun k hk=>heap_alloc_old _ _ hk) (fun _=>⟨Nat.le_refl _,by simp⟩) ⟨rfl,heap_alloc_new _ _⟩ trivial
      ·simp[SV.sc,At.sc]
      ·rw[Oj,<-PI];simp[SV.den,At.den]
     have Rk:=Pr.GZ;simp only at Rk;have RL:z.cells=ze'.toArray:=by apply Array.ext';simpa using R0
     split at h
     ·rename_i z0;refine fin _ ?_ h;have:inf.size=1:=by rw[PH,<-Rk];rfl
      rw[this,aZ,RL,Ej]
     ·refine fin _ ?_ h;rw[PH,<-Rk,RL];rcases bN ze'.length with h0|h0
      ·have:ze'=[]:=List.eq_nil_of_length_eq_zero h0;subst this;simp[madeCells]
      ·rw[rE]
    ·exact h.elim
   ·exact h.elim
  ·exact h.elim
 ·exact h.elim
theorem Gg(sat:Sat n l H nx iv B w O a w'){x:SV}{K:Nat->List Value->Prop}(Py:0<size)(h:KK B H nx iv w size x K):
  ∃m c ad news,K m news∧x.den O= .slice ad m c∧news.length=m*size∧(∀u∈news,u.oneCell'=true)∧
   ((ad=none∧m=0)∨∃ad',ad=some ad'∧∀j u,news[j]? =some u->w'.cell? (ad'.add j)=some u):=by
 have rel:=sat.rel;unfold KK at h;split at h
 ·rename_i id off m c;split at h
  ·rename_i bt cs hH;obtain⟨h1,hd⟩:=oG h;obtain⟨h2,ht⟩:=oH h1;obtain⟨vs,h3,RV,UP⟩:=lL h2;refine⟨m,c,_,vs,h3,rfl,?_,UP,.inr ⟨_,rfl,fun j u hu=>?_⟩⟩
   ·have:=congrArg List.length RV;simp at this ht;omega
   ·rw[dI,cell_of (rel.box id bt cs hH)];have e:(vs.map At.v)[j]? =some (.v u):=by simp[hu]
    rw[<-RV]at e;simp only[List.getElem?_take,List.getElem?_drop]at e;split at e
    ·simp[e,At.den]
    ·simp at e
  ·rename_i bt cs hH;obtain⟨vs,h1,h2,h3,h4⟩:=h;refine⟨m,c,_,vs,h4,rfl,h2,h3,.inr ⟨_,rfl,fun j u hu=>?_⟩⟩;rw[dI,cell_of (rel.arr id bt cs hH)];rw[<-h1]at hu;simp only[List.getElem?_take,List.getElem?_drop]at hu;split at hu
   ·exact hu
   ·simp at hu
  ·exact h.elim
 ·rename_i ad m c;obtain⟨vs,h1,h2,h3,h4⟩:=h;refine⟨m,c,ad,vs,h4,rfl,h1,h2,?_⟩;rcases bN m with h0|h0
  ·subst h0;have:vs=[]:=List.eq_nil_of_length_eq_zero (by simpa using h1);subst this
   cases ad with
   |none=>exact .inl ⟨rfl,rfl⟩
   |some ad=>exact .inr ⟨ad,rfl,fun j u hu=>by simp at hu⟩
  ·exact .inr (h3 O w' rel h0)
 ·rename_i id m;split at h
  ·rename_i bt sz cs hH;obtain⟨h1,h2,h3⟩:=h;rcases rel.vec id bt sz cs hH with⟨hn,rfl⟩|⟨hn,spare,hb,_⟩
   ·have h0:m=0:=by
     have h4:m*size=0:=by simpa using h1.symm
     rcases Nat.mul_eq_zero.1 h4 with h5|h5<;>omega
    subst h0;exact⟨0,0,none,[],h3,by simp[SV.den,At.den,hn],by simp,by simp,.inl ⟨rfl,rfl⟩⟩
   ·refine⟨m,(O id).cap,_,cs,h3,by simp only[SV.den,At.den,hn];rfl,h1,h2,.inr ⟨_,rfl,fun j u hu=>?_⟩⟩;rw[dI,cell_of hb,aW,aK (aE.1 hu).1];exact hu
  ·exact h.elim
 ·exact h.elim
theorem lO(w:World)(base:Nat)(t ty e:TypeId)(i:TypeInfo)(size:Nat)(ht:P.underlying t=some (.slice e))(hi:P.info? e=some i)
  (v:Value) (m:Nat) (xs:List Value) (Sb:w.ownsRow base e size v m xs) (c:Nat):(Builtin.append_ #[t,t] ty #[v,.slice none 0 c]).run P w= .ok v w:=by
 rcases Sb.2 with⟨rfl,rfl⟩|⟨g,cap,cur,rfl,_,_,TF,_⟩
 ·simp[Builtin.append_,run_underlying ht,sizeOf,typeInfo,hi,Builtin.lenOf,Builtin.firstCells]
 ·simp[Builtin.append_,run_underlying ht,sizeOf,typeInfo,hi,Builtin.lenOf,Builtin.firstCells,TF,storeCells]
theorem pj{w:World}{e:Nat}{v:Value}{base:Nat}(h:w.ownsRow base e size v m xs):
  ∃val:dw,(At.w 0 m).den (fun _=>val)=v∧(jq.vec e size xs).fits (fun _=>val) val w∧(val.nil=false->v.ownBlock=some val.g∧val.g<w.heap.size)∧(val.nil=true->v.ownBlock=none):=by
 rcases h.2 with⟨rfl,rfl⟩|⟨g,cap,cur,rfl,_,hb,TF,QS,hcur,RM⟩
 ·have:xs=[]:=List.eq_nil_of_length_eq_zero (by simpa using h.1);exact⟨⟨0,0,true⟩,rfl,.inl ⟨rfl,this⟩,(fun h=>by cases h),fun _=>rfl⟩
 ·refine⟨⟨g,cap,false⟩,rfl,.inr ⟨rfl,cur.toList.drop (m*size),?_,?_,QS⟩,fun _=>⟨rfl,(bA.1 hb).1⟩,(fun h=>by cases h)⟩
  ·rw[<-RM,List.take_append_drop];simpa using hb
  ·rw[<-RM,List.take_append_drop];simpa using hcur
theorem Ek(rel:Rel H nx iv B w O w'){e sz:Nat}(hH:dD H id=some (.vec e sz cs))(hl:cs.length=m*sz)(Py:0<sz):
  w'.ownsRow B e sz ((At.w id m).den O) m cs:=by
 rcases rel.vec id e sz cs hH with⟨hn,rfl⟩|⟨hn,spare,hb,Rc,QS⟩
 ·have h0:m=0:=by
   have h4:m*sz=0:=by simpa using hl.symm
   rcases Nat.mul_eq_zero.1 h4 with h5|h5<;>omega
  subst h0;simp only[At.den,hn]
  exact World.ownsRow_nil _ _ _ _
 ·refine⟨hl,.inr ⟨(O id).g,(O id).cap,_,by simp only[At.den,hn],(rel.low id _ hH hn).1,hb,?_,QS,by simpa using Rc,by simp[<-hl]⟩⟩;have h1:m*sz<=(O id).cap*sz:=by rw[<-Rc,<-hl];simp
  exact bw h1 Py
theorem tV(hτ:fk P τ)(sat:Sat n l H nx iv B w O a w'){t ty:Nat}{x y:SV}{K:SV->Hp->Nat->Prop}(h:yR τ B t x y H nx iv w K):
  ∃r H' Oe ρ' w2,K r H' Oe∧Rel H' Oe iv B w ρ' w2∧r.sc Oe∧nx<=Oe∧(∀id,id<nx->O id=ρ' id)∧(Builtin.append_ #[t,t] ty #[x.den O,y.den O]).run P w'= .ok (r.den ρ') w2:=by
 have rel:=sat.rel;unfold yR at h;split at h
 ·exact h.elim
 rename_i sz ag by_ ze tag ik e al fs Qe;have ht:=hτ t _ Qe;split at h
 ·rename_i PJ;have hu:=ht.i4 (eW PJ);simp only at hu;split at h
  ·rename_i sz' ag' by' ze' tag' ik' e' al' fs' Pr
   have Pr:=hτ e _ Pr;split at h
   ·exact h.elim
   ·rename_i z0 zr;obtain⟨inf,z,hi,PH,Oq,hz,R0⟩:=Pr.info;have Rk:=Pr.GZ;simp only at PH Oq R0 Rk;have Py:0<sz':=by rw[<-Rk];simp
    have Vv:z.cells.size=sz':=by rw[<-Rk,<-R0];simp
    have h0:=Gg sat Py h;clear h;obtain⟨m,c,ad,news,h,hy,Rp,WK,hsrc⟩:=h0;have happ:∀(v:Value) (k:Nat) (xs:List Value),w'.ownsRow B e sz' v k xs->(k+m)*by'<=140737488355328->k+m<=maxLen->
      ∃v' w2,(Builtin.append_ #[t,t] ty #[v,y.den O]).run P w'= .ok v' w2∧w2.ownsRow B e sz' v' (k+m) (xs++news)∧w'.grownBy w2 v.ownBlock∧(v'.ownBlock=v.ownBlock∨v'.ownBlock=some w'.heap.size):=by
     intro v k xs Sb hb Qt;rw[hy];rcases hsrc with⟨rfl,rfl⟩|⟨ad',rfl,Pe⟩
     ·have:news=[]:=List.eq_nil_of_length_eq_zero (by simpa using Rp);subst this;exact⟨v,w',lO w' B t ty e inf sz' hu hi v k xs Sb c,by simpa using Sb,⟨rfl,rfl,rfl,Nat.le_refl _,fun _ _ _=>rfl⟩,.inl rfl⟩
     ·obtain⟨v',w2,h1,h2,h3,_,h5⟩:=run_append_own_at (P:=P) w' B t ty e inf z sz' by' hu hi hz PH Oq Vv Py v k xs Sb ad' m c news Rp Pe WK Qt hb (by have:=rel.base;have:=rel.size;omega)
      exact⟨v',w2,h1,h2,h3,h5⟩
    split at h
    ·obtain⟨hb,Qt,hK⟩:=h;obtain⟨v',w2,h1,h2,h3,h5⟩:=happ (.slice none 0 0) 0 [] (World.ownsRow_nil _ _ _ _) (by simpa using hb) (by simpa using Qt);simp only[aW,List.nil_append]at h2;obtain⟨val,UP,Rb,hv3,hv4⟩:=pj h2;refine⟨_,_,_,gS O nx val,w2,hK,?_,by simp[SV.sc,At.sc],by omega,gM,?_⟩
     ·refine rel.push (.vec e sz' news) val h3.os h3.tape h3.output h3.size (fun k hk=>h3.block k hk (by simp[Value.ownBlock])) (fun hn=>?_) (by simpa [jq.fits]using Rb) trivial;have:=hv3 hn;rcases h5 with h6|h6
      ·rw[this.1]at h6;simp[Value.ownBlock]at h6
      ·rw[this.1]at h6;injection h6 with h6;exact⟨by omega,this.2⟩
     ·rw[show SV.den O (.o (.v (.slice none 0 0)))= .slice none 0 0 from rfl,h1,<-UP];simp[SV.den,At.den]
    ·rename_i id k;split at h
     ·rename_i e1 sz1 cs hH;split at h
      ·rename_i Uz;have Uz:=eW Uz;subst Uz;split at h
       ·rename_i Pk;have Pk:=eW Pk;subst Pk;obtain⟨hl,hb,Qt,h⟩:=h;obtain⟨H1,hK,hH1,_⟩:=sS h;obtain⟨v',w2,h1,h2,h3,h5⟩:=happ _ k cs (Ek rel hH hl Py) hb Qt;obtain⟨val,UP,Rb,hv3,hv4⟩:=pj h2;have RE:(O id).nil=false->((At.w id k).den O).ownBlock=some (O id).g:=fun hn=>by simp[At.den,hn,Value.ownBlock]
        have hob':(O id).nil=true->((At.w id k).den O).ownBlock=none:=fun hn=>by simp[At.den,hn,Value.ownBlock]
        refine⟨_,_,_,gS O nx val,w2,hK,?_,by simp[SV.sc,At.sc],by omega,gM,?_⟩
        ·refine rel.KN hH (by simp) hH1 (.vec e1 sz1 (cs++news)) val h3.os h3.tape h3.output h3.size (fun j hj OY=>?_) (fun hn=>?_) (by simpa [jq.fits]using Rb) trivial
         ·refine h3.block j hj fun e=>?_
          cases Oo:(O id).nil
          ·rw[RE Oo]at e;injection e with e;exact OY Oo e
          ·rw[hob' Oo]at e;cases e
         ·have:=hv3 hn;rcases h5 with h6|h6
          ·rw[this.1]at h6
           cases Oo:(O id).nil
           ·rw[RE Oo]at h6;injection h6 with h6;exact .inr ⟨rfl,h6⟩
           ·rw[hob' Oo]at h6;cases h6
          ·rw[this.1]at h6;injection h6 with h6;exact .inl ⟨by omega,this.2⟩
        ·rw[show SV.den O (.o (.w id k))=(At.w id k).den O from rfl,h1,<-UP];simp[SV.den,At.den]
       ·exact h.elim
      ·exact h.elim
     ·exact h.elim
    ·rename_i id k c0;split at h
     ·rename_i hkc;have hkc:=eW hkc;subst hkc;split at h
      ·rename_i e1 cs0 hH;split at h
       ·rename_i Uz;have Uz:=eW Uz;subst Uz;obtain⟨cs,⟨hl,hb,Qt,h9⟩,rfl,_⟩:=lL h;obtain⟨H1,hK,hH1,_⟩:=sS h9;have Oo:(O id).nil=false:=rel.nn id _ hH (by intros;simp) (by simp);have QD:=rel.box id _ _ hH;rw[fw]at QD;have Sb:w'.ownsRow B e1 sz' ((At.s id 0 k k).den O) k cs:=by
         refine⟨hl,.inr ⟨(O id).g,k,_,by simp only[At.den],(rel.low id _ hH Oo).1,QD,Nat.le_refl _,by omega,by simp[hl],by simp[<-hl]⟩⟩
        obtain⟨v',w2,h1,h2,h3,h5⟩:=happ _ k cs Sb hb Qt;obtain⟨val,UP,Rb,hv3,hv4⟩:=pj h2;have RE:((At.s id 0 k k).den O).ownBlock=some (O id).g:=by simp[At.den,Value.ownBlock]
        refine⟨_,_,_,gS O nx val,w2,hK,?_,by simp[SV.sc,At.sc],by omega,gM,?_⟩
        ·refine rel.KN hH (by simp) hH1 (.vec e1 sz' (cs++news)) val h3.os h3.tape h3.output h3.size (fun j hj OY=>?_) (fun hn=>?_) (by simpa [jq.fits]using Rb) trivial
         ·refine h3.block j hj fun e=>?_;rw[RE]at e;injection e with e;exact OY Oo e
         ·have:=hv3 hn;rcases h5 with h6|h6
          ·rw[this.1]at h6;rw[RE]at h6;injection h6 with h6;exact .inr ⟨Oo,h6⟩
          ·rw[this.1]at h6;injection h6 with h6;exact .inl ⟨by omega,this.2⟩
        ·rw[show SV.den O (.o (.s id 0 k k))=(At.s id 0 k k).den O from rfl,h1,<-UP];simp[SV.den,At.den]
       ·exact h.elim
      ·exact h.elim
     ·exact h.elim
    ·exact h.elim
  ·exact h.elim
 ·exact h.elim
end
end Go.Sx
