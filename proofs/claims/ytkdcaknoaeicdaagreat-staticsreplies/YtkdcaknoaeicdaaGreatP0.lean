/- A part of the proof: texts Sx1 to Sx6. Each tells its conditions in its theorems. -/
import Derived.WalkKit
import Derived.Maps.AppendAt
import Derived.Laws.IdiomCopy
import Derived.Great.BuildSlice
namespace Go
theorem aA.{u_1}{α:Type u_1}{l:List α}{i:Nat}(h:i<l.length):l[i]? =some l[i]:=List.getElem?_eq_getElem h
theorem aB(n:Nat):((n:Int)).toNat=n:=Int.toNat_natCast n
theorem aC.{u_1}{α:Type u_1}(y:α){a:α}{l:List α}:a∈l->a∈y::l:=List.mem_cons_of_mem y
theorem aD.{u_1}{α:Type u_1}{l:List α}{i:Nat}{a:α}(e:l[i]? =some a):a∈l:=List.mem_of_getElem? e
theorem aE.{u_1}{α:Type u_1}{i:Nat}{a:α}{l:List α}:l[i]? =some a↔∃h:i<l.length,l[i]=a:=List.getElem?_eq_some_iff
theorem aF{p:Prop} [inst:Decidable p]:decide p=false->¬p:=of_decide_eq_false
theorem aG{p:Prop} [inst:Decidable p]:decide p=true->p:=of_decide_eq_true
theorem aH.{u_1}{α:Type u_1}{a:α}{l:List α}:a∈a::l:=List.mem_cons_self
theorem aI(n:Nat):n<=n:=Nat.le_refl n
theorem aJ.{u_1}{α:Type u_1}{l₁ l₂:List α}{i:Nat}(hn:i<l₁.length):(l₁++l₂)[i]? =l₁[i]? :=List.getElem?_append_left hn
theorem aK.{u_1,u_2}{α:Type u_1}{β:Type u_2}{as:List α}(f:α->β):(List.map f as).length=as.length:=List.length_map f
theorem aL.{u}{c:Prop}{h:Decidable c}(hnc:¬c){α:Sort u}{t e:α}:(if c then t else e)=e:=if_neg hnc
theorem aM{n m:Nat}(h₁:n<=m)(h₂:m<=n):n=m:=Nat.le_antisymm h₁ h₂
theorem aN.{u_1,u_2}{α:Type u_1}{β:Type u_2}{f:α->β}{l:List α}{i:Nat}:(List.map f l)[i]? =Option.map f l[i]? :=List.getElem?_map
theorem aO(n:Nat):0<=n:=Nat.zero_le n
theorem aP(n:Nat):0+n=n:=Nat.zero_add n
theorem aQ.{u}{c:Prop}{h:Decidable c}(hc:c){α:Sort u}{t e:α}:(if c then t else e)=t:=if_pos hc
theorem aR(n:Nat):n*1=n:=Nat.mul_one n
theorem aS.{u_1,u_2}{α:Type u_1}{β:Type u_2}{b:β}{f:α->β}{l:List α}:b∈List.map f l↔∃a,a∈l∧f a=b:=List.mem_map
theorem aT.{u_1}{α:Type u_1}{l₁ l₂:List α}{i:Nat}:l₁.length<=i->(l₁++l₂)[i]? =l₂[i-l₁.length]? :=List.getElem?_append_right
theorem aU.{u_1}{α:Type u_1}{a:α}{l:List α}(h:a∈l):∃i:Nat,l[i]? =some a:=List.getElem?_of_mem h
theorem aV.{u_1}{α:Type u_1}{xs:Array α}{i:Nat}{d:α}:xs.getD i d=xs[i]?.getD d:=Array.getD_eq_getD_getElem?
theorem aW.{u_1}{α:Type u_1}{i:Nat}{l:List α}:(List.take i l).length=min i l.length:=List.length_take
theorem aX(a b:Bool):((a&&b)=true)=(a=true∧b=true):=Bool.and_eq_true a b
theorem aY.{u_1}{α:Type u_1}{i:Nat}{b:α}{xs:Array α}:xs[i]? =some b↔∃h:i<xs.size,xs[i]=b:=Array.getElem?_eq_some_iff
theorem aZ.{u_1}{α:Type u_1}{l:List α}{i:Nat}{a:α}(h:i<l.length):(l.set i a)[i]? =some a:=List.getElem?_set_self h
theorem a9.{u}{α:Type u}{xs:Array α}{i:Nat}:xs.toList[i]? =xs[i]? :=Array.getElem?_toList
theorem ah.{u_1}{α:Type u_1}{l:List α}:List.take l.length l=l:=List.take_length
theorem ai.{u_1}{α:Type u_1}{l:List α}{i j:Nat}(h:i≠j){a:α}:(l.set i a)[j]? =l[j]? :=List.getElem?_set_ne h
theorem bA(n m:Nat):n<m∨n≥m:=Nat.lt_or_ge n m
theorem bB.{u_1}{α:Type u_1}{a b:α}:a∈[b]↔a=b:=List.mem_singleton
theorem bC.{u}{α:Type u}{as:List α}{i:Nat}{a:α}:(as.set i a).length=as.length:=List.length_set
theorem bD{a b:Nat}(h:a<b):a % b=a:=Nat.mod_eq_of_lt h
theorem bE{p:Prop} [Decidable p]:¬p->decide p=false:=decide_eq_false
theorem bF.{u_1}{α:Type u_1}{a b:α}{n:Nat}(h:b∈List.replicate n a):b=a:=List.eq_of_mem_replicate h
theorem bG(n:Nat):n=0∨n>0:=Nat.eq_zero_or_pos n
theorem bH{n m k:Nat}:n<=m->m<=k->n<=k:=Nat.le_trans
theorem bI{n m:Nat}:n.beq m=true->n=m:=Nat.eq_of_beq_eq_true
theorem bJ(n m k:Nat):n*(m+k)=n*m+n*k:=Nat.mul_add n m k
theorem bK.{u_1}{α:Type u_1}{xs:Array α}{i:Nat}{a:α}:(xs.setIfInBounds i a).size=xs.size:=Array.size_setIfInBounds
theorem bL(n m:Nat):n*m=m*n:=Nat.mul_comm n m
theorem bM{p:Prop} [inst:Decidable p]:p->decide p=true:=decide_eq_true
theorem bN.{u_1}{α:Type u_1}{l₁ l₂:List α}(h:∀(i:Nat),l₁[i]? =l₂[i]?):l₁=l₂:=List.ext_getElem? h
theorem bO{n m:Nat}(k:Nat)(h:n<=m):k*n<=k*m:=Nat.mul_le_mul_left k h
theorem bP(n:Nat):n-n=0:=Nat.sub_self n
theorem bQ.{u_1}{α:Type u_1}{l:List α}{i j:Nat}(h:i<j):(List.take j l)[i]? =l[i]? :=List.getElem?_take_of_lt h
theorem bR.{u}{α:Type u}{n:Nat}{a:α}:(List.replicate n a).length=n:=List.length_replicate
theorem bS.{u_1}{α:Type u_1}{l:List α}{i:Nat}{a b:α}:a∈l.set i b->a∈l∨a=b:=List.mem_or_eq_of_mem_set
theorem bT.{u_1}{α:Type u_1}{a:α}{s t:List α}:a∈s++t↔a∈s∨a∈t:=List.mem_append
theorem bU.{u}{α:Type u}(as bs cs:List α):as++bs++cs=as++(bs++cs):=List.append_assoc as bs cs
theorem bV{a:Int}(h:a<0):a.sign= -1:=Int.sign_eq_neg_one_of_neg h
theorem bW{a:Int}(h:0<a):a.sign=1:=Int.sign_eq_one_of_pos h
theorem bX(m:Nat){n:Nat}(npos:0<n):0<m.gcd n:=Nat.gcd_pos_of_pos_right m npos
theorem bY(w:Nat):0<2^w:=Nat.two_pow_pos w
theorem bZ(n:Nat):n<n.succ:=Nat.lt_succ_self n
theorem b9(n m k:Nat):n*m*k=n*(m*k):=Nat.mul_assoc n m k
theorem bc(x:Nat){y:Nat}(hy:0<y):x % y<y:=Nat.mod_lt x hy
theorem bf{n:Nat}:List.range n.succ=List.range n++[n]:=List.range_succ
theorem bg(n:Nat):n+0=n:=Nat.add_zero n
theorem bh(a:Int):(-a).natAbs=a.natAbs:=Int.natAbs_neg a
theorem bj(n:Nat):¬n<0:=Nat.not_lt_zero n
end Go
namespace Go.Sx
open Go
inductive At where
 |v (x:Value)
 |p (id off:Nat)
 |s (id off len cap:Nat)
 |w (id len:Nat)
 |fn (f:Nat) (caps:List Nat)
inductive SV where
 |o (x:At)
 |a (cs:List At)
structure dN where
 g:Nat
 cap:Nat
 nil:Bool
def At.den(ρ:Nat->dN):At->Value
 | .v x=>x
 | .p id off=>.pointer (some ⟨(ρ id).g,off,none⟩)
 | .s id off len cap=>.slice (some ⟨(ρ id).g,off,none⟩) len cap
 | .w id len=>match(ρ id).nil with
  |true=>.slice none 0 0
  |false=>.slice (some ⟨(ρ id).g,0,none⟩) len (ρ id).cap
 | .fn f caps=>.func (.func f) #[] (caps.map fun id=>Value.pointer (some ⟨(ρ id).g,0,none⟩)).toArray
def SV.den(ρ:Nat->dN):SV->Value
 | .o x=>x.den ρ
 | .a cs=>.agg (cs.map (At.den ρ)).toArray
def At.sc(n:Nat):At->Prop
 | .v _=>True
 | .p id _=>id<n
 | .s id _ _ _=>id<n
 | .w id _=>id<n
 | .fn _ caps=>∀id∈caps,id<n
def SV.sc(n:Nat):SV->Prop
 | .o x=>x.sc n
 | .a cs=>∀x∈cs,At.sc n x
inductive cN where
 |box (t:Nat) (cs:List At)
 |arr (t:Nat) (cs:List Value)
 |vec (t:Nat) (size:Nat) (cs:List Value)
 |dead
abbrev Env:=List (Nat×SV)
abbrev Hp:=List (Nat×cN)
abbrev Iv:=List (Nat×Nat)
def eR:Env->Nat->Option SV
 |[],_=>none
 |(t,v)::r,u=>match Nat.beq t u with
  |true=>some v
  |false=>eR r u
def cT:Hp->Nat->Option cN
 |[],_=>none
 |(t,v)::r,u=>match Nat.beq t u with
  |true=>some v
  |false=>cT r u
def wk:Hp->Nat->(Hp->Prop)->Prop
 |[],_,_=>False
 |(t,v)::r,u,k=>match Nat.beq t u with
  |true=>k ((t,.dead)::r)
  |false=>wk r u (fun r'=>k ((t,v)::r'))
def AY:Hp->Nat->cN->(Hp->Prop)->Prop
 |[],_,_,_=>False
 |(t,v)::r,u,b,k=>match Nat.beq t u with
  |true=>k ((t,b)::r)
  |false=>AY r u b (fun r'=>k ((t,v)::r'))
structure TI where
 size:Nat
 agg:Bool
 bytes:Nat
 zero:List Value
 tag:Nat
 ik:IntKind:=.i64
 elem:Nat:=0
 vz:Nat:=0
 fields:List (Nat×Nat):=[]
def ev(l:Env):Operand->Option SV
 | .tmp t=>eR l t
 | .const v=>some (.o (.v v))
 | .global g=>some (.o (.v (.pointer (some ⟨g,0,none⟩))))
 | .func f=>some (.o (.v (.func (.func f) #[] #[])))
def mB(l:Env)(x:Operand)(k:SV->Prop):Prop:=match ev l x with
 |some v=>k v
 |none=>False
def Cn(l:Env):List Operand->(List SV->Prop)->Prop
 |[],k=>k []
 |x::r,k=>match ev l x with
  |some v=>Cn l r (fun vs=>k (v::vs))
  |none=>False
def pG:List At->Nat->(List At->Prop)->Prop
 |l,0,k=>k l
 |[],_+1,_=>False
 |_::t,n+1,k=>pG t n k
def pH:List At->Nat->(List At->Prop)->Prop
 |_,0,k=>k []
 |[],_+1,_=>False
 |x::t,n+1,k=>pH t n (fun r=>k (x::r))
def wm:List At->List At->(List At->Prop)->Prop
 |cs,[],k=>k cs
 |[],_::_,_=>False
 |_::t,x::r,k=>wm t r (fun t'=>k (x::t'))
def nJ:List At->Nat->List At->(List At->Prop)->Prop
 |cs,0,new,k=>wm cs new k
 |[],_+1,_,_=>False
 |x::t,n+1,new,k=>nJ t n new (fun t'=>k (x::t'))
def mD:List Value->(List At->Prop)->Prop
 |[],k=>k []
 |x::r,k=>mD r (fun r'=>k (.v x::r'))
def th:SV->(List At->Prop)->Prop
 | .a cs,k=>k cs
 | .o (.v (.agg ⟨l⟩)),k=>mD l k
 | .o (.v (.tuple _)),_=>False
 | .o x,k=>k [x]
def At.one:At->Bool
 | .v (.agg _)=>false
 | .v (.tuple _)=>false
 |_=>true
def BW:List At->Prop->Prop
 |[],k=>k
 |x::r,k=>match x.one with
  |true=>BW r k
  |false=>False
def sW:List At->(List Value->Prop)->Prop
 |[],k=>k []
 | .v x::r,k=>match At.one (.v x)with
  |true=>sW r (fun r'=>k (x::r'))
  |false=>False
 |_::_,_=>False
def cW(b:Bool)(A B:Prop):Prop:=match b with
 |true=>A
 |false=>B
theorem cW.t{b:Bool}{A B:Prop}(h:cW b A B)(e:b=true):A:=by subst e;exact h
theorem cW.f{b:Bool}{A B:Prop}(h:cW b A B)(e:b=false):B:=by subst e;exact h
theorem cW.mk{b:Bool}{A B:Prop}(h1:b=true->A)(h2:b=false->B):cW b A B:=by
 cases b
 ·exact h2 rfl
 ·exact h1 rfl
structure Rel(H:Hp)(nx:Nat)(iv:Iv)(B:Nat)(w:World)(ρ:Nat->dN)(w':World):Prop where
 os:w'.os=w.os
 tape:w'.tape=w.tape
 output:w'.output=w.output
 size:w.heap.size<=w'.heap.size
 base:B<=w.heap.size
 oU:∀lo hi,(lo,hi)∈iv->hi<=w.heap.size
 keys:∀id b,cT H id=some b->id<nx
 box:∀id t cs,cT H id=some (.box t cs)->w'.heap[(ρ id).g]? =some (.cells (cs.map (At.den ρ)).toArray t (0,0))
 arr:∀id t cs,cT H id=some (.arr t cs)->w'.heap[(ρ id).g]? =some (.cells cs.toArray t (0,0))
 vec:∀id t size cs,cT H id=some (.vec t size cs)->((ρ id).nil=true∧cs=[])∨
  ((ρ id).nil=false∧∃spare:List Value,w'.heap[(ρ id).g]? =some (.cells (cs++spare).toArray t (0,0))∧(cs++spare).length=(ρ id).cap*size∧(ρ id).cap<=maxLen)
 inj:∀id id' b b',cT H id=some b->cT H id'=some b'->b≠ .dead->b'≠ .dead->(ρ id).nil=false->(ρ id').nil=false->(ρ id).g=(ρ id').g->id=id'
 low:∀id b,cT H id=some b->(ρ id).nil=false->B<=(ρ id).g∧(ρ id).g<w'.heap.size
 qh:∀k,k<w.heap.size->(∀id b,cT H id=some b->(ρ id).nil=false->(ρ id).g≠k)->w'.heap[k]? =w.heap[k]?
 im:∀lo hi,(lo,hi)∈iv->∀id b,cT H id=some b->(ρ id).nil=false->¬(lo<=(ρ id).g∧(ρ id).g<hi)
 EO:∀id t cs,cT H id=some (.box t cs)->∀x∈cs,At.sc nx x
 nn:∀id b,cT H id=some b->(∀t size cs,b≠ .vec t size cs)->b≠ .dead->(ρ id).nil=false
structure Ct(P:Program)(g:Nat):Prop where
 h:∀(args:Array Value) (w:World),(callFunc g args).run P w= .ok (.enter g args) w
structure dQ(P:Program)(g:Nat)(args:Array Value)(w:World)(R:Ending->World->Prop):Prop where
 e:Ct P g
 c:Calls P g args w R
def xo:List At->Nat->Option At
 |[],_=>none
 |x::_,0=>some x
 |_::t,n+1=>xo t n
def Bz:List Value->Nat->Option Value
 |[],_=>none
 |x::_,0=>some x
 |_::t,n+1=>Bz t n
def CA:List (Nat×Nat)->Nat->Option (Nat×Nat)
 |[],_=>none
 |x::_,0=>some x
 |_::t,n+1=>CA t n
def mH:IntKind->IntKind->Bool
 | .i8,.i8=>true| .i16,.i16=>true| .i32,.i32=>true| .i64,.i64=>true
 | .u8,.u8=>true| .u16,.u16=>true| .u32,.u32=>true| .u64,.u64=>true
 |_,_=>false
abbrev kI:=Nat->Option TI
def CB(op:BinOp)(k:IntKind)(a b:Int)(K:Value->Prop):Prop:=
 match op with
 | .add=>∃r,k.wrap (a+b)=r∧K (.int k r)
 | .sub=>∃r,k.wrap (a-b)=r∧K (.int k r)
 | .mul=>∃r,k.wrap (a*b)=r∧K (.int k r)
 | .quo=>b≠0∧∃r,k.wrap (a.tdiv b)=r∧K (.int k r)
 | .rem=>b≠0∧∃r,a.tmod b=r∧K (.int k r)
 | .and=>∃r,k.wrap ((BitVec.ofInt k.bits a &&& BitVec.ofInt k.bits b).toNat:Int)=r∧K (.int k r)
 | .or=>∃r,k.wrap ((BitVec.ofInt k.bits a ||| BitVec.ofInt k.bits b).toNat:Int)=r∧K (.int k r)
 | .xor=>∃r,k.wrap ((BitVec.ofInt k.bits a ^^^ BitVec.ofInt k.bits b).toNat:Int)=r∧K (.int k r)
 | .shl=>0<=b∧∃r,k.wrap (a*2^(min b.toNat k.bits))=r∧K (.int k r)
 | .shr=>0<=b∧∃r,a.fdiv (2^(min b.toNat k.bits))=r∧K (.int k r)
 | .eql=>K (.bool (a==b))
 | .neq=>K (.bool (a != b))
 | .lss=>K (.bool (decide (a<b)))
 | .leq=>K (.bool (decide (a<=b)))
 | .gtr=>K (.bool (decide (a>b)))
 | .geq=>K (.bool (decide (a≥b)))
 | .andNot=>∃r,k.wrap ((BitVec.ofInt k.bits a &&& ~~~BitVec.ofInt k.bits b).toNat:Int)=r∧K (.int k r)
def FW(P:Program)(τ:kI)(op:BinOp)(t:Nat)(x y:SV)(K:SV->Prop):Prop:=
 match x,y with
 | .o (.v (.int k a)),.o (.v (.int k' b))=>
  match op with
  | .shl=>CB op k a b (fun r=>K (.o (.v r)))
  | .shr=>CB op k a b (fun r=>K (.o (.v r)))
  |_=>match mH k k' with
   |true=>CB op k a b (fun r=>K (.o (.v r)))
   |false=>False
 | .o (.v (.bool a)),.o (.v (.bool b))=>
  match τ t with
  |some ti=>match Nat.beq ti.tag 2 with
   |true=>match op with
    | .eql=>K (.o (.v (.bool (a==b))))
    | .neq=>K (.o (.v (.bool (!(a==b)))))
    |_=>False
   |false=>False
  |none=>False
 | .o (.v (.string a)),.o (.v (.string b))=>
  match op with
  | .eql=>K (.o (.v (.bool (a.data.toList==b.data.toList))))
  | .neq=>K (.o (.v (.bool (!(a.data.toList==b.data.toList)))))
  | .add=>a.size+b.size<=maxLen∧K (.o (.v (.string (a++b))))
  |_=>False
 |_,_=>∃b:Bool,(∀(ρ:Nat->dN) (w:World) (o1 o2:Operand),(do eqGuard op t o1 o2 (x.den ρ) (y.den ρ);binOp op t (x.den ρ) (y.den ρ)).run P w= .ok (.bool b) w)∧K (.o (.v (.bool b)))
def wy(τ:kI)(B:Nat)(t:Nat)(addr:SV)(H:Hp)(nx:Nat)(iv:Iv)(w:World)(K:SV->Prop):Prop:=
 match τ t with
 |none=>False
 |some ⟨sz,ag,_,_,_,_,_,_,_⟩=>
  match addr with
  | .o (.p id off)=>
   match cT H id with
   |some (.box _ cs)=>
    match ag with
    |false=>match xo cs off with
     |some x=>K (.o x)
     |none=>False
    |true=>pG cs off (fun r=>pH r sz (fun l=>K (.a l)))
   |some (.arr _ cs)=>
    match ag with
    |false=>∃x,cs[off]? =some x∧K (.o (.v x))
    |true=>∃xs:List Value,(cs.drop off).take sz=xs∧xs.length=sz∧mD xs (fun l=>K (.a l))
   |some (.vec _ _ cs)=>
    match ag with
    |false=>∃x,cs[off]? =some x∧K (.o (.v x))
    |true=>∃xs:List Value,(cs.drop off).take sz=xs∧xs.length=sz∧mD xs (fun l=>K (.a l))
   |_=>False
  | .o (.v (.pointer (some ad)))=>
   match ag with
   |false=>∃x,(∀ρ w',Rel H nx iv B w ρ w'->w'.cell? ad=some x)∧K (.o (.v x))
   |true=>∃xs:List Value,xs.length=sz∧(∀ρ w',Rel H nx iv B w ρ w'->∀j x,xs[j]? =some x->w'.cell? (ad.add j)=some x)∧mD xs (fun l=>K (.a l))
  |_=>False
def setCells(w:World)(a:Addr):List Value->World
 |[]=>w
 |x::r=>setCells (w.setCell a x) (a.add 1) r
def xp(τ:kI)(B:Nat)(t:Nat)(addr x:SV)(H:Hp)(nx:Nat)(iv:Iv)(w:World)(K:Hp->World->Prop):Prop:=
 match τ t with
 |none=>False
 |some ⟨sz,_,_,_,_,_,_,_,_⟩=>
  th x (fun new=>BW new (match Nat.beq new.length sz with
   |false=>False
   |true=>match addr with
    | .o (.p id off)=>
     match cT H id with
     |some (.box bt cs)=>nJ cs off new (fun cs'=>AY H id (.box bt cs') (fun H'=>K H' w))
     |some (.arr bt cs)=>sW new (fun nv=>off+sz<=cs.length∧∃cs',cs.take off++nv++cs.drop (off+sz)=cs'∧AY H id (.arr bt cs') (fun H'=>K H' w))
     |some (.vec bt ez cs)=>sW new (fun nv=>off+sz<=cs.length∧∃cs',cs.take off++nv++cs.drop (off+sz)=cs'∧AY H id (.vec bt ez cs') (fun H'=>K H' w))
     |_=>False
    | .o (.v (.pointer (some ad)))=>sW new (fun nv=>∀ρ w',Rel H nx iv B w ρ w'->
      ad.spot=none∧(∀j,j<sz->(w'.cell? (ad.add j)).isSome=true∧w'.frozen? (ad.add j)=false)∧
      (∀id b,cT H id=some b->(ρ id).nil=false->(ρ id).g≠ad.block)∧
      ∀w2,w2=setCells w' ad nv->K H w2)
    |_=>False))
def wC(b:cN)(H:Hp)(nx:Nat)(K:Hp->Nat->Prop):Prop:=K ((nx,b)::H) (nx+1)
def mI(τ:kI)(fs:List (Nat×Nat))(f:Nat)(k:Nat->Nat->Bool->Prop):Prop:=
 match CA fs f with
 |some (off,ft)=>match τ ft with
  |some ⟨sz,ag,_,_,_,_,_,_,_⟩=>match Nat.beq sz 0 with
   |true=>False
   |false=>k off sz ag
  |none=>False
 |none=>False
def tQ(x:SV)(n:Nat)(K:SV->Prop):Prop:=
 match x with
 | .o (.p id off)=>K (.o (.p id (off+n)))
 | .o (.v (.pointer (some ad)))=>K (.o (.v (.pointer (some (ad.add n)))))
 |_=>False
def qk(l:Env)(place:Nat->(Nat->Nat->Prop)->Prop):List (Nat×Operand)->List At->(List At->Prop)->Prop
 |[],cs,k=>k cs
 |(i,x)::r,cs,k=>place i (fun off size=>mB l x (fun v=>th v (fun new=>match Nat.beq new.length size with
   |true=>nJ cs off new (fun cs'=>qk l place r cs' k)
   |false=>False)))
def CC(H:Hp)(id m:Nat)(K:Prop):Prop:=
 match cT H id with
 |some (.vec _ sz cs)=>match sz with
  |0=>False
  |k+1=>cs.length=m*(k+1)∧K
 |_=>False
def FX(τ:kI)(H:Hp)(t:Nat)(x:SV)(K:Int->Prop):Prop:=
 match τ t with
 |none=>False
 |some ⟨_,_,_,_,tag,_,_,vz,_⟩=>match Nat.beq tag 4 with
  |true=>match x with
   | .o (.v (.slice _ n _))=>K n
   | .o (.s _ _ n _)=>K n
   | .o (.w id n)=>CC H id n (K n)
   |_=>False
  |false=>match Nat.beq tag 3 with
   |true=>match x with
    | .o (.v (.string b))=>K b.size
    |_=>False
   |false=>match Nat.beq tag 6 with
    |true=>K vz
    |false=>False
def A5(τ:kI)(H:Hp)(t:Nat)(x i:SV)(K:SV->Prop):Prop:=
 match i with
 | .o (.v (.int _ i))=>match τ t with
  |some ⟨_,_,_,_,tag,_,e,vz,_⟩=>match τ e with
   |some ⟨sz,_,_,_,_,_,_,_,_⟩=>match Nat.beq tag 4 with
    |true=>match x with
     | .o (.s id off n _)=>(0<=i∧i<n)∧K (.o (.p id (off+i.toNat*sz)))
     | .o (.w id n)=>CC H id n ((0<=i∧i<n)∧K (.o (.p id (i.toNat*sz))))
     | .o (.v (.slice a n _))=>∃ad,a=some ad∧(0<=i∧i<n)∧K (.o (.v (.pointer (some (ad.add (i.toNat*sz))))))
     |_=>False
    |false=>match Nat.beq tag 6 with
     |true=>(0<=i∧i<vz)∧tQ x (i.toNat*sz) K
     |false=>False
   |none=>False
  |none=>False
 |_=>False
def E0(l:Env)(x:Option Operand)(dflt:Int)(K:Int->Prop):Prop:=
 match x with
 |none=>K dflt
 |some o=>mB l o (fun v=>match v with
  | .o (.v (.int _ n))=>K n
  |_=>False)
def A6(τ:kI)(H:Hp)(t:Nat)(x:SV)(l:Env)(lo hi:Option Operand)(K:SV->Prop):Prop:=
 match τ t with
 |some ⟨_,_,_,_,tag,_,e,al,_⟩=>match Nat.beq tag 4 with
  |true=>match τ e with
   |some ⟨sz,_,_,_,_,_,_,_,_⟩=>match x with
    | .o (.s id off n c)=>E0 l lo 0 (fun a=>E0 l hi n (fun b=>(0<=a∧a<=b∧b<=c)∧∃off' n' c':Nat,(if (c:Int)=a then off else off+a.toNat*sz)=off'∧b.toNat-a.toNat=n'∧c-a.toNat=c'∧K (.o (.s id off' n' c'))))
    | .o (.v (.slice ad n c))=>E0 l lo 0 (fun a=>E0 l hi n (fun b=>(0<=a∧a<=b∧b<=c)∧∃ad' n' c',(if (c:Int)=a then ad else ad.map (·.add (a.toNat*sz)))=ad'∧b.toNat-a.toNat=n'∧c-a.toNat=c'∧K (.o (.v (.slice ad' n' c')))))
    | .o (.w id n)=>match lo with
     |none=>CC H id n (E0 l hi n (fun b=>(0<=b∧b<=n)∧∃m:Nat,b.toNat=m∧K (.o (.w id m))))
     |some _=>False
    |_=>False
   |none=>False
  |false=>match Nat.beq tag 6 with
   |true=>match τ e with
    |some ⟨_,_,_,_,_,_,_,_,_⟩=>match x with
     | .o (.p id off)=>match lo,hi with
      |none,none=>match Nat.beq al 0 with
       |false=>K (.o (.s id off al al))
       |true=>False
      |_,_=>False
     |_=>False
    |none=>False
   |false=>match Nat.beq tag 3 with
    |true=>match x with
     | .o (.v (.string s))=>E0 l lo 0 (fun a=>E0 l hi s.size (fun b=>(0<=a∧a<=b∧b<=s.size)∧K (.o (.v (.string (s.extract a.toNat b.toNat))))))
     |_=>False
    |false=>False
 |none=>False
def B2(τ:kI)(t:Nat)(x y:SV)(H:Hp)(nx:Nat)(K:SV->Hp->Nat->Prop):Prop:=
 match x,y with
 | .o (.v (.int _ a)),.o (.v (.int _ b))=>match τ t with
  |some ⟨_,_,_,_,tag,_,e,_,_⟩=>match Nat.beq tag 4 with
   |true=>match τ e with
    |some ⟨_,_,by_,ze,_,_,_,_,_⟩=>∃n c:Nat,a=n∧b=c∧n<=c∧by_*c<=281474976710656∧c<=9223372036854775807∧
      match ze with
      |[z]=>wC (.arr e (List.replicate c z)) H nx (fun H' nx'=>K (.o (.s nx 0 n c)) H' nx')
      |zs=>wC (.arr e (List.replicate c zs).flatten) H nx (fun H' nx'=>K (.o (.s nx 0 n c)) H' nx')
    |none=>False
   |false=>False
  |none=>False
 |_,_=>False
def Cx(B:Nat)(H:Hp)(nx:Nat)(iv:Iv)(w:World)(size:Nat)(x:SV)(K:Nat->List Value->Prop):Prop:=
 match x with
 | .o (.s id off n _)=>match cT H id with
  |some (.box _ cs)=>pG cs off (fun r=>pH r (n*size) (fun l=>sW l (fun vs=>K n vs)))
  |some (.arr _ cs)=>∃vs:List Value,(cs.drop off).take (n*size)=vs∧vs.length=n*size∧(∀x∈vs,x.oneCell'=true)∧K n vs
  |_=>False
 | .o (.v (.slice a n _))=>∃vs:List Value,vs.length=n*size∧(∀x∈vs,x.oneCell'=true)∧
   (∀ρ w',Rel H nx iv B w ρ w'->0<n->∃ad,a=some ad∧∀j u,vs[j]? =some u->w'.cell? (ad.add j)=some u)∧K n vs
 | .o (.w id n)=>match cT H id with
  |some (.vec _ _ cs)=>cs.length=n*size∧(∀x∈cs,x.oneCell'=true)∧K n cs
  |_=>False
 |_=>False
def tR(τ:kI)(B:Nat)(t:Nat)(x y:SV)(H:Hp)(nx:Nat)(iv:Iv)(w:World)(K:SV->Hp->Nat->Prop):Prop:=
 match τ t with
 |none=>False
 |some ⟨_,_,_,_,tag,_,e,_,_⟩=>match Nat.beq tag 4 with
  |true=>match τ e with
   |some ⟨sz,_,by_,ze,_,_,_,_,_⟩=>match ze with
    |[]=>False
    |_::_=>Cx B H nx iv w sz y (fun m news=>
     match x with
     | .o (.v (.slice none 0 0))=>m*by_<=140737488355328∧m<=maxLen∧wC (.vec e sz news) H nx (fun H' nx'=>K (.o (.w nx m)) H' nx')
     | .o (.w id n)=>match cT H id with
      |some (.vec e' sz' cs)=>match Nat.beq e' e with
       |true=>match Nat.beq sz' sz with
        |true=>cs.length=n*sz∧(n+m)*by_<=140737488355328∧n+m<=maxLen∧wk H id (fun H1=>wC (.vec e sz (cs++news)) H1 nx (fun H' nx'=>K (.o (.w nx (n+m))) H' nx'))
        |false=>False
       |false=>False
      |_=>False
     | .o (.s id 0 n c)=>match Nat.beq n c with
      |true=>match cT H id with
       |some (.box e' cs)=>match Nat.beq e' e with
        |true=>sW cs (fun vs=>vs.length=n*sz∧(n+m)*by_<=140737488355328∧n+m<=maxLen∧wk H id (fun H1=>wC (.vec e sz (vs++news)) H1 nx (fun H' nx'=>K (.o (.w nx (n+m))) H' nx')))
        |false=>False
       |_=>False
      |false=>False
     |_=>False)
   |none=>False
  |false=>False
def ki(ρ:Nat->dN)(xs:List SV):Array Value:=(xs.map (SV.den ρ)).toArray
abbrev Ext(w w2:World):Prop:=RowKit.Below w.heap.size w w2
structure zJ(P:Program)(B:Nat)(g:Nat)(args:(Nat->dN)->Array Value)(H:Hp)(nx:Nat)(iv:Iv)(w:World)(K:SV->Hp->Iv->World->Prop):Prop where
 h:∀ρ w',Rel H nx iv B w ρ w'->dQ P g (args ρ) w' (fun e w2=>∃v H' iv',e= .returned v∧Rel H' nx iv' B w2 ρ w2∧K (.o (.v v)) H' iv' w2)
structure zB(P:Program)(B:Nat)(g:Nat)(args:(Nat->dN)->Array Value)(H:Hp)(nx:Nat)(iv:Iv)(w:World)(K:SV->Hp->Iv->World->Prop):Prop where
 h:∀ρ w',Rel H nx iv B w ρ w'->dQ P g (args ρ) w' (fun e w2=>∃v,e= .returned v∧Ext w' w2∧K (.o (.v v)) H ((w'.heap.size,w2.heap.size)::iv) w2)
def Cy(dr:Bool)(P:Program)(B:Nat)(g:Nat)(args:(Nat->dN)->Array Value)(H:Hp)(nx:Nat)(iv:Iv)(w:World)(K:SV->Hp->Iv->World->Prop):Prop:=
 match dr with
 |true=>zB P B g args H nx iv w K
 |false=>zJ P B g args H nx iv w K
structure tx(P:Program)(B:Nat)(o:Oper)(l:Env)(H:Hp)(nx:Nat)(iv:Iv)(w:World)(K:SV->Hp->Nat->Iv->World->Prop):Prop where
 h:∀(ρ:Nat->dN) w' (e:Operand->Value),Rel H nx iv B w ρ w'->(∀x v,ev l x=some v->e x=v.den ρ)->
  ∃v w2 iv',((execOp e o).run P w'= .ok (.value v) w2∨((execOp e o).run P w'= .ok .skip w2∧v=undef))∧Rel H nx iv' B w2 ρ w2∧K (.o (.v v)) H nx iv' w2
def Gz(dr:Bool)(P:Program)(B:Nat)(o:Oper)(l:Env)(H:Hp)(nx:Nat)(iv:Iv)(w:World)(K:SV->Hp->Nat->Iv->World->Prop):Prop:=
 match dr with
 |true=>False
 |false=>tx P B o l H nx iv w K
structure Gc(P:Program)(B:Nat)(o:Oper)(l:Env)(H:Hp)(nx:Nat)(iv:Iv)(w:World)(K:SV->Hp->Nat->Iv->World->Prop):Prop where
 h:∀(ρ:Nat->dN) w' (e:Operand->Value),Rel H nx iv B w ρ w'->(∀x v,ev l x=some v->e x=v.den ρ)->
  ∃w2 w3 H' iv',(execOp e o).run P w'= .ok .skip w3∧Rel H' nx iv' B w2 ρ w3∧K (.o (.v undef)) H' nx iv' w2
def HA(dr:Bool)(P:Program)(B:Nat)(o:Oper)(l:Env)(H:Hp)(nx:Nat)(iv:Iv)(w:World)(K:SV->Hp->Nat->Iv->World->Prop):Prop:=
 match dr with
 |true=>False
 |false=>Gc P B o l H nx iv w K
structure Gv(P:Program)(B:Nat)(o:Oper)(l:Env)(H:Hp)(nx:Nat)(iv:Iv)(w:World)(K:SV->Hp->Nat->Iv->World->Prop):Prop where
 h:∀(ρ:Nat->dN) w' (e:Operand->Value),Rel H nx iv B w ρ w'->(∀x v,ev l x=some v->e x=v.den ρ)->
  ∃v H' nx' iv' ρ' w2 w3,(execOp e o).run P w'= .ok (.value (SV.den ρ' v)) w3∧Rel H' nx' iv' B w2 ρ' w3∧v.sc nx'∧nx<=nx'∧(∀id,id<nx->ρ id=ρ' id)∧K v H' nx' iv' w2
def Gw(dr:Bool)(P:Program)(B:Nat)(o:Oper)(l:Env)(H:Hp)(nx:Nat)(iv:Iv)(w:World)(K:SV->Hp->Nat->Iv->World->Prop):Prop:=
 match dr with
 |true=>False
 |false=>Gv P B o l H nx iv w K
def GG(H:Hp):SV->Bool
 | .o (.s id _ _ _)=>match cT H id with
  |some (.box _ [.s _ _ _ _])=>true
  |some (.box _ [.w _ _])=>true
  |_=>false
 |_=>false
def FD(H:Hp):SV->SV->Bool
 | .o (.p id _),.o (.s _ _ _ _)=>match cT H id with
  |some (.arr _ _)=>true
  |_=>false
 |_,_=>false
def kl:List SV->(List Nat->Prop)->Prop
 |[],k=>k []
 | .o (.p id 0)::r,k=>kl r (fun l=>k (id::l))
 |_::_,_=>False
def tj(dr:Bool)(P:Program)(τ:kI)(B:Nat)(o:Oper)(l:Env)(H:Hp)(nx:Nat)(iv:Iv)(w:World)(K:SV->Hp->Nat->Iv->World->Prop):Prop:=
 match o.op with
 | .move x=>mB l x (fun v=>K v H nx iv w)
 | .assign x=>mB l x (fun v=>K v H nx iv w)
 | .pick c a b=>mB l c (fun v=>match v with
  | .o (.v (.bool t))=>cW t (mB l a (fun v=>K v H nx iv w)) (mB l b (fun v=>K v H nx iv w))
  |_=>False)
 | .alloc t=>match τ t with
  |some ⟨_,_,_,ze,_,_,_,_,_⟩=>mD ze (fun cs=>wC (.box t cs) H nx (fun H' nx'=>K (.o (.p nx 0)) H' nx' iv w))
  |none=>False
 | .box t x=>mB l x (fun v=>th v (fun cs=>wC (.box t cs) H nx (fun H' nx'=>K (.o (.p nx 0)) H' nx' iv w)))
 | .build t parts=>match τ t with
  |some ⟨_,_,_,ze,tag,_,e,_,fs⟩=>match Nat.beq tag 5 with
   |true=>mD ze (fun z=>qk l (fun i k=>mI τ fs i (fun off sz _=>k off sz)) parts.toList z (fun cs=>K (.a cs) H nx iv w))
   |false=>match Nat.beq tag 6 with
    |true=>match τ e with
     |some ⟨sz,_,_,_,_,_,_,_,_⟩=>mD ze (fun z=>qk l (fun i k=>k (i*sz) sz) parts.toList z (fun cs=>K (.a cs) H nx iv w))
     |none=>False
    |false=>False
  |none=>False
 | .buildSlice t n parts=>match τ t with
  |some ⟨_,_,_,_,tag,_,e,_,_⟩=>match Nat.beq tag 4 with
   |true=>match τ e with
    |some ⟨sz,_,_,ze,_,_,_,_,_⟩=>match Nat.ble (n*sz) 16777216 with
     |true=>mD (List.replicate n ze).flatten (fun z=>qk l (fun i k=>k (i*sz) sz) parts.toList z (fun cs=>
       wC (.box e cs) H nx (fun H' nx'=>K (.o (.s nx 0 n n)) H' nx' iv w)))
     |false=>False
    |none=>False
   |false=>False
  |none=>False
 | .load t a=>mB l a (fun v=>wy τ B t v H nx iv w (fun r=>K r H nx iv w))
 | .store t a x=>mB l a (fun va=>mB l x (fun vx=>match FD H va vx with
  |true=>HA dr P B o l H nx iv w K
  |false=>xp τ B t va vx H nx iv w (fun H' w'=>K (.o (.v undef)) H' nx iv w')))
 | .nilCheck x=>mB l x (fun v=>match v with
  | .o (.p id off)=>K (.o (.p id off)) H nx iv w
  | .o (.v (.pointer (some ad)))=>K (.o (.v (.pointer (some ad)))) H nx iv w
  | .o (.fn f ids)=>K (.o (.fn f ids)) H nx iv w
  | .o (.v (.func (.func f) fi ca))=>K (.o (.v (.func (.func f) fi ca))) H nx iv w
  |_=>False)
 | .binOp op t x y _=>mB l x (fun vx=>mB l y (fun vy=>FW P τ op t vx vy (fun r=>K r H nx iv w)))
 | .unOp op _ x=>mB l x (fun v=>match op,v with
  | .not,.o (.v (.bool b))=>K (.o (.v (.bool (!b)))) H nx iv w
  | .neg,.o (.v (.int k n))=>∃r,k.wrap (0-n)=r∧K (.o (.v (.int k r))) H nx iv w
  | .xor,.o (.v (.int k n))=>∃r,k.wrap ((BitVec.ofInt k.bits (if k.signed then -1 else k.max) ^^^ BitVec.ofInt k.bits n).toNat:Int)=r∧K (.o (.v (.int k r))) H nx iv w
  |_,_=>False)
 | .convert sr d x=>match τ sr with
  |some _=>mB l x (fun v=>match τ d with
   |some ⟨_,_,_,_,tag,ik,_,_,_⟩=>match Nat.beq tag 1 with
    |true=>match v with
     | .o (.v (.int _ n))=>∃r,ik.wrap n=r∧K (.o (.v (.int ik r))) H nx iv w
     |_=>False
    |false=>Gz dr P B o l H nx iv w K
   |none=>False)
  |none=>False
 | .makeFunc (.func f) ⟨first⟩ caps=>match first with
  |[]=>Cn l caps.toList (fun vs=>kl vs (fun ids=>K (.o (.fn f ids)) H nx iv w))
  |_=>False
 | .makeSlice t x y=>mB l x (fun vx=>mB l y (fun vy=>B2 τ t vx vy H nx (fun v H' nx'=>K v H' nx' iv w)))
 | .slice t x lo hi none=>mB l x (fun v=>A6 τ H t v l lo hi (fun r=>K r H nx iv w))
 | .fieldAddr t x f=>match τ t with
  |some ⟨_,_,_,_,tag,_,_,_,fs⟩=>match Nat.beq tag 5 with
   |true=>mI τ fs f (fun off _ _=>mB l x (fun v=>tQ v off (fun r=>K r H nx iv w)))
   |false=>False
  |none=>False
 | .field t x f=>match τ t with
  |some ⟨_,_,_,_,tag,_,_,_,fs⟩=>match Nat.beq tag 5 with
   |true=>mI τ fs f (fun off sz ag=>mB l x (fun v=>match v with
    | .o (.v (.agg ⟨vs⟩))=>mD vs (fun cs=>match ag with
     |true=>pG cs off (fun r=>pH r sz (fun c=>K (.a c) H nx iv w))
     |false=>match xo cs off with
      |some c=>K (.o c) H nx iv w
      |none=>False)
    | .a cs=>match ag with
     |true=>pG cs off (fun r=>pH r sz (fun c=>K (.a c) H nx iv w))
     |false=>match xo cs off with
      |some c=>K (.o c) H nx iv w
      |none=>False
    |_=>False))
   |false=>False
  |none=>False
 | .indexAddr t x i=>mB l x (fun vx=>mB l i (fun vi=>A5 τ H t vx vi (fun r=>K r H nx iv w)))
 | .extract x i=>mB l x (fun v=>match v with
  | .o (.v (.tuple ⟨vs⟩))=>match Bz vs i with
   |some u=>K (.o (.v u)) H nx iv w
   |none=>False
  |_=>False)
 | .call ⟨.builtin .len,⟨[x]⟩,⟨[t]⟩⟩=>mB l x (fun v=>FX τ H t v (fun n=>K (.o (.v (.int .i64 n))) H nx iv w))
 | .call ⟨.builtin .append,⟨[x,y]⟩,⟨[t,u]⟩⟩=>match Nat.beq t u with
  |true=>mB l x (fun vx=>mB l y (fun vy=>match GG H vy with
   |true=>Gw dr P B o l H nx iv w K
   |false=>tR τ B t vx vy H nx iv w (fun v H' nx'=>K v H' nx' iv w)∨tx P B o l H nx iv w K))
  |false=>tx P B o l H nx iv w K
 | .call ⟨.builtin .max,⟨[x,y]⟩,_⟩=>mB l x (fun vx=>mB l y (fun vy=>match vx,vy with
  | .o (.v (.int k a)),.o (.v (.int k' b))=>match mH k k' with
   |true=>K (.o (.v (.int k (max a b)))) H nx iv w
   |false=>False
  |_,_=>False))
 | .call ⟨.builtin .min,⟨[x,y]⟩,_⟩=>mB l x (fun vx=>mB l y (fun vy=>match vx,vy with
  | .o (.v (.int k a)),.o (.v (.int k' b))=>match mH k k' with
   |true=>K (.o (.v (.int k (min a b)))) H nx iv w
   |false=>False
  |_,_=>False))
 | .call ⟨.builtin .copy,_,_⟩=>tx P B o l H nx iv w K
 | .call ⟨.builtin .clear,_,_⟩=>tx P B o l H nx iv w K
 | .call ⟨.builtin .cap,_,_⟩=>tx P B o l H nx iv w K
 | .index _ _ _=>tx P B o l H nx iv w K
 | .makeMap _ _=>tx P B o l H nx iv w K
 | .lookup _ _ _ _=>tx P B o l H nx iv w K
 | .mapUpdate _ _ _ _=>tx P B o l H nx iv w K
 | .call ⟨.value f,⟨args⟩,_⟩=>mB l f (fun vf=>Cn l args (fun vs=>match vf with
   | .o (.v (.func (.func g) first caps))=>Cy dr P B g (fun ρ=>first++ki ρ vs++caps) H nx iv w (fun v H' iv' w'=>K v H' nx iv' w')
   | .o (.fn g ids)=>Cy dr P B g (fun ρ=>ki ρ vs++(ids.map fun id=>Value.pointer (some ⟨(ρ id).g,0,none⟩)).toArray) H nx iv w (fun v H' iv' w'=>K v H' nx iv' w')
   |_=>False))
 |_=>False
def wz:List Oper->Nat->Option Tmp
 |[],_=>none
 |o::_,0=>o.dst
 |_::r,n+1=>wz r n
def yz(d:Option Tmp)(v:SV)(l:Env)(k:Env->Prop):Prop:=match d with
 |some t=>k ((t,v)::l)
 |none=>k l
def pK(all:List Oper)(g:Option (Nat×Bool))(l:Env)(yes no:Env->Prop):Prop:=
 match g with
 |none=>yes l
 |some (j,want)=>match wz all j with
  |none=>no l
  |some d=>match eR l d with
   |some (.o (.v (.bool b)))=>match want with
    |true=>cW b (yes ((d,.o (.v (.bool true)))::l)) (no ((d,.o (.v (.bool false)))::l))
    |false=>cW b (no ((d,.o (.v (.bool true)))::l)) (yes ((d,.o (.v (.bool false)))::l))
   |some (.o (.v (.tuple _)))=>no l
   |_=>False
def fT(dr:Bool)(P:Program)(τ:kI)(B:Nat)(all:List Oper)(o:Oper)(l:Env)(H:Hp)(nx:Nat)(iv:Iv)(w:World)(k:Env->Hp->Nat->Iv->World->Prop):Prop:=
 pK all o.guard l
  (fun l=>tj dr P τ B o l H nx iv w (fun v H' nx' iv' w'=>yz o.dst v l (fun l'=>k l' H' nx' iv' w')))
  (fun l=>yz o.dst (.o (.v undef)) l (fun l'=>k l' H nx iv w))
def B3(P:Program)(τ:kI)(B:Nat)(all:List Oper):List Oper->Env->Hp->Nat->Iv->World->(Env->Hp->Nat->Iv->World->Prop)->Prop
 |[],l,H,nx,iv,w,K=>K l H nx iv w
 |o::r,l,H,nx,iv,w,K=>fT false P τ B all o l H nx iv w (fun l' H' nx' iv' w'=>B3 P τ B all r l' H' nx' iv' w' K)
inductive Ex where
 |normal
 |exit (id:Nat)
 |ret
structure Sat(n:Nat)(l:Env)(H:Hp)(nx:Nat)(iv:Iv)(B:Nat)(w:World)(ρ:Nat->dN)(a:Act)(w':World):Prop where
 rel:Rel H nx iv B w ρ w'
 size:a.tmps.size=n
 defers:a.defers=[]
 env:∀t v,eR l t=some v->a.tmps[t]? =some (v.den ρ)
 sc:∀t v,eR l t=some v->v.sc nx
abbrev KT:=Env->Hp->Nat->Iv->World->Prop
structure tt(P:Program)(B:Nat)(ops:Array Oper)(l:Env)(H:Hp)(nx:Nat)(iv:Iv)(w:World)(K:KT):Prop where
 h:∀n ρ a w',ops.toList.all (fun o=>match o.dst with
   |some d=>Nat.blt d n
   |none=>true)=true->Sat n l H nx iv B w ρ a w'->
  ∀Q:Exit->Act->World->Prop,(∀l' H' nx' iv' w2 ρ' a' w'',K l' H' nx' iv' w2->Sat n l' H' nx' iv' B w2 ρ' a' w''->Q .normal a' w'')->
  ∀id,(Code.region id ops true).wp P Q a w'
structure xA where
 l:Env
 H:Hp
 nx:Nat
 iv:Iv
 w:World
def Sub(B:Nat)(l:Env)(_nx:Nat)(ρ:Nat->dN)(w':World)(t:xA):Prop:=
 ∃ρ',Rel t.H t.nx t.iv B t.w ρ' w'∧(∀u v,eR t.l u=some v->v.sc t.nx∧∃v0,eR l u=some v0∧v0.den ρ=v.den ρ')
def jw(P:Program)(τ:kI)(B:Nat):Code->Env->Hp->Nat->Iv->World->(Ex->KT)->Prop
 | .skip,l,H,nx,iv,w,Q=>Q .normal l H nx iv w
 | .region _ ops false,l,H,nx,iv,w,Q=>B3 P τ B ops.toList ops.toList l H nx iv w (Q .normal)
 | .region _ ops true,l,H,nx,iv,w,Q=>tt P B ops l H nx iv w (Q .normal)
 | .seq a b,l,H,nx,iv,w,Q=>jw P τ B a l H nx iv w (fun e l H nx iv w=>match e with
  | .normal=>jw P τ B b l H nx iv w Q
  | .exit id=>Q (.exit id) l H nx iv w
  | .ret=>Q .ret l H nx iv w)
 | .cond c a b,l,H,nx,iv,w,Q=>mB l c (fun v=>match v with
  | .o (.v (.bool t))=>cW t (jw P τ B a l H nx iv w Q) (jw P τ B b l H nx iv w Q)
  |_=>False)
 | .block id c,l,H,nx,iv,w,Q=>jw P τ B c l H nx iv w (fun e l H nx iv w=>match e with
  | .normal=>Q .normal l H nx iv w
  | .exit id'=>match Nat.beq id' id with
   |true=>Q .normal l H nx iv w
   |false=>Q (.exit id') l H nx iv w
  | .ret=>Q .ret l H nx iv w)
 | .loop c,l,H,nx,iv,w,Q=>∃(α:Type) (st:α->xA) (μ:α->Nat) (I:α->Prop),
   (∀ρ w',Rel H nx iv B w ρ w'->∃x,I x∧Sub B l nx ρ w' (st x))∧
   ∀x,I x->jw P τ B c (st x).l (st x).H (st x).nx (st x).iv (st x).w (fun e l H nx iv w=>match e with
    | .normal=>∀ρ w',Rel H nx iv B w ρ w'->∃y,I y∧Sub B l nx ρ w' (st y)∧μ y<μ x
    | .exit id=>Q (.exit id) l H nx iv w
    | .ret=>Q .ret l H nx iv w)
 | .exit id,l,H,nx,iv,w,Q=>Q (.exit id) l H nx iv w
 | .ret,l,H,nx,iv,w,Q=>Q .ret l H nx iv w
 |_,_,_,_,_,_,_=>False
structure A4(P:Program)(t:Nat)(i:TI):Prop where
 info:∃inf z,P.info? t=some inf∧inf.size=i.size∧inf.bytes=i.bytes∧inf.zero=some z∧z.cells.toList=i.zero
 Bx:i.zero.length=i.size
 Gb:∀x∈i.zero,x.oneCell'=true
 agg:∃d,P.underlying t=some d∧(match d with| .struct _| .array _ _=>true|_=>false)=i.agg
 i1:i.tag=1->P.underlying t=some (.int i.ik)
 i2:i.tag=2->P.underlying t=some .bool
 i3:i.tag=3->P.underlying t=some .string
 i4:i.tag=4->P.underlying t=some (.slice i.elem)
 i5:i.tag=5->∃fs,P.underlying t=some (.struct fs)∧fs.toList.map (fun f=>(f.offset,f.type))=i.fields∧∀f∈fs.toList,(P.info? f.type).isSome=true
 i6:i.tag=6->P.underlying t=some (.array i.vz i.elem)
def eS(P:Program)(τ:kI):Prop:=∀t i,τ t=some i->A4 P t i
theorem dZ{a b:Nat}(h:Nat.beq a b=true):a=b:=bI h
theorem eV:∀{xs:List Value} {k:List At->Prop},mD xs k->k (xs.map At.v)
 |[],_,h=>h
 |x::r,k,h=>by
  have:=eV (xs:=r) (k:=fun r'=>k (.v x::r')) h;simpa using this
theorem km:∀{cs:List At} {n:Nat} {k:List At->Prop},pG cs n k->k (cs.drop n)∧n<=cs.length
 |cs,0,k,h=>by cases cs<;>exact⟨by simpa [pG]using h,by simp⟩
 |[],n+1,k,h=>by simp[pG]at h
 |x::t,n+1,k,h=>by
  have:=km (cs:=t) (n:=n) (k:=k) h;exact⟨by simpa using this.1,by simp;omega⟩
theorem ko:∀{cs:List At} {n:Nat} {k:List At->Prop},pH cs n k->k (cs.take n)∧n<=cs.length
 |cs,0,k,h=>by cases cs<;>exact⟨by simpa [pH]using h,by simp⟩
 |[],n+1,k,h=>by simp[pH]at h
 |x::t,n+1,k,h=>by
  have:=ko (cs:=t) (n:=n) (k:=fun r=>k (x::r)) h;exact⟨by simpa using this.1,by simp;omega⟩
theorem uB:∀{cs new:List At} {k:List At->Prop},wm cs new k->k (new++cs.drop new.length)∧new.length<=cs.length
 |cs,[],k,h=>by cases cs<;>exact⟨by simpa [wm]using h,by simp⟩
 |[],x::r,k,h=>by simp[wm]at h
 |_::t,x::r,k,h=>by
  have:=uB (cs:=t) (new:=r) (k:=fun t'=>k (x::t')) h;exact⟨by simpa using this.1,by simp;omega⟩
theorem kp:∀{cs:List At} {off:Nat} {new:List At} {k:List At->Prop},nJ cs off new k->
  k (cs.take off++new++cs.drop (off+new.length))∧off+new.length<=cs.length
 |cs,0,new,k,h=>by
  have h':wm cs new k:=by cases cs<;>simpa [nJ]using h
  have:=uB h';exact⟨by simpa using this.1,by omega⟩
 |[],n+1,new,k,h=>by simp[nJ]at h
 |x::t,n+1,new,k,h=>by
  have:=kp (cs:=t) (off:=n) (new:=new) (k:=fun t'=>k (x::t')) h;refine⟨?_,by simp;omega⟩;have h2:=this.1;rw[show n+1+new.length=(n+new.length)+1 by omega];simpa using h2
theorem one_den{x:At}(h:x.one=true)(ρ:Nat->dN):(x.den ρ).oneCell'=true:=by
 cases x with
 |v y=>cases y<;>simp_all [At.one,At.den,Value.oneCell']
 |w id n=>simp only[At.den];split<;>rfl
 |_=>rfl
theorem uC:∀{cs:List At} {k:Prop},BW cs k->k∧∀c∈cs,At.one c=true
 |[],k,h=>⟨h,by simp⟩
 |x::r,k,h=>by
  unfold BW at h;split at h
  ·rename_i hx;have:=uC h;exact⟨this.1,by simp[hx];exact this.2⟩
  ·exact h.elim
theorem jF:∀{cs:List At} {k:List Value->Prop},sW cs k->∃vs,k vs∧cs=vs.map At.v∧∀v∈vs,v.oneCell'=true
 |[],k,h=>⟨[],h,rfl,by simp⟩
 | .v x::r,k,h=>by
  unfold sW at h;split at h
  ·rename_i hx;obtain⟨vs,h1,h2,h3⟩:=jF h;exact⟨x::vs,h1,by simp[h2],by simp;exact⟨one_den hx (fun _=>⟨0,0,false⟩),h3⟩⟩
  ·exact h.elim
 | .p _ _::_,k,h=>by simp[sW]at h
 | .s _ _ _ _::_,k,h=>by simp[sW]at h
 | .w _ _::_,k,h=>by simp[sW]at h
 | .fn _ _::_,k,h=>by simp[sW]at h
theorem j9{x:SV}{k:List At->Prop}(h:th x k):∃cs,k cs∧(∀ρ,(x.den ρ).cells=(cs.map (At.den ρ)).toArray)∧(∀n,x.sc n->∀c∈cs,c.sc n):=by
 cases x with
 |a cs=>exact⟨cs,h,fun ρ=>rfl,fun n hn=>hn⟩
 |o y=>
  cases y with
  |v z=>
   cases z with
   |agg arr=>
    obtain⟨l⟩:=arr;refine⟨_,eV h,fun ρ=>?_,fun n _ c hc=>?_⟩
    ·simp[SV.den,At.den,Value.cells,Function.comp_def]
    ·simp at hc;obtain⟨v,_,rfl⟩:=hc;trivial
   |tuple arr=>simp[th]at h
   |_=>exact⟨_,h,fun ρ=>rfl,fun n _ c hc=>by simp at hc;subst hc;trivial⟩
  |w id n=>exact⟨_,h,fun ρ=>by simp only[SV.den,At.den,List.map];split<;>rfl,fun n hn c hc=>by simp at hc;subst hc;exact hn⟩
  |_=>exact⟨_,h,fun ρ=>rfl,fun n hn c hc=>by simp at hc;subst hc;exact hn⟩
theorem cR(t:Nat)(b:cN)(r:Hp)(u:Nat):cT ((t,b)::r) u=if t=u then some b else cT r u:=by
 show(match Nat.beq t u with|true=>some b|false=>cT r u)=_;split
 ·rename_i h;rw[aQ (dZ h)]
 ·rename_i h;rw[aL (fun e=>by subst e;rw[Nat.beq_refl]at h;cases h)]
theorem di(t:Nat)(b:SV)(r:Env)(u:Nat):eR ((t,b)::r) u=if t=u then some b else eR r u:=by
 show(match Nat.beq t u with|true=>some b|false=>eR r u)=_;split
 ·rename_i h;rw[aQ (dZ h)]
 ·rename_i h;rw[aL (fun e=>by subst e;rw[Nat.beq_refl]at h;cases h)]
theorem nO:∀{H:Hp} {id:Nat} {b:cN} {k:Hp->Prop},AY H id b k->∃H',k H'∧(∀j,cT H' j=if j=id then some b else cT H j)∧(cT H id).isSome=true
 |[],id,b,k,h=>by simp[AY]at h
 |(t,v)::r,id,b,k,h=>by
  unfold AY at h;split at h
  ·rename_i ht;have:=dZ ht;subst this;refine⟨_,h,fun j=>?_,by simp[cR]⟩;simp only[cR]
   by_cases e:t=j
   ·simp[e]
   ·simp[e,Ne.symm e]
  ·rename_i ht;have hne:t≠id:=fun e=>by subst e;rw[Nat.beq_refl]at ht;cases ht
   obtain⟨H',h1,h2,h3⟩:=nO h;refine⟨_,h1,fun j=>?_,by simp[cR,hne,h3]⟩;simp only[cR,h2]
   by_cases e:t=j
   ·subst e;simp[hne]
   ·simp[e]
theorem o6:∀{H:Hp} {id:Nat} {k:Hp->Prop},wk H id k->∃H',k H'∧(∀j,cT H' j=if j=id then some .dead else cT H j)∧(cT H id).isSome=true
 |[],id,k,h=>by simp[wk]at h
 |(t,v)::r,id,k,h=>by
  unfold wk at h;split at h
  ·rename_i ht;have:=dZ ht;subst this;refine⟨_,h,fun j=>?_,by simp[cR]⟩;simp only[cR]
   by_cases e:t=j
   ·simp[e]
   ·simp[e,Ne.symm e]
  ·rename_i ht;have hne:t≠id:=fun e=>by subst e;rw[Nat.beq_refl]at ht;cases ht
   obtain⟨H',h1,h2,h3⟩:=o6 h;refine⟨_,h1,fun j=>?_,by simp[cR,hne,h3]⟩;simp only[cR,h2]
   by_cases e:t=j
   ·subst e;simp[hne]
   ·simp[e]
theorem At.gz{x:At}{n:Nat}{ρ ρ':Nat->dN}(h:∀id,id<n->ρ id=ρ' id)(hx:x.sc n):x.den ρ=x.den ρ':=by
 cases x with
 |v y=>rfl
 |p id off=>simp only[At.den,h id hx]
 |s id off len cap=>simp only[At.den,h id hx]
 |w id len=>simp only[At.den,h id hx]
 |fn f caps=>
  simp only[At.den]
  congr 2;exact List.map_congr_left fun id hid=>by rw[h id (hx id hid)]
theorem SV.gz{x:SV}{n:Nat}{ρ ρ':Nat->dN}(h:∀id,id<n->ρ id=ρ' id)(hx:x.sc n):x.den ρ=x.den ρ':=by
 cases x with
 |o y=>exact At.gz h hx
 |a cs=>
  simp only[SV.den]
  congr 2;exact List.map_congr_left fun c hc=>At.gz h (hx c hc)
theorem At.pR{x:At}{n m:Nat}(h:n<=m)(hx:x.sc n):x.sc m:=by
 cases x with
 |v y=>trivial
 |fn f caps=>intro id hid;have:=hx id hid;omega
 |_=>simp only[At.sc]at *;omega
theorem SV.pR{x:SV}{n m:Nat}(h:n<=m)(hx:x.sc n):x.sc m:=by
 cases x with
 |o y=>exact At.pR h hx
 |a cs=>exact fun c hc=>At.pR h (hx c hc)
theorem Rel.drew{H:Hp}{nx:Nat}{iv:Iv}{B:Nat}{w w':World}{ρ:Nat->dN}(r:Rel H nx iv B w ρ w'):Rel H nx iv B w ρ w'.drew:=
 ⟨r.os,r.tape,r.output,r.size,r.base,r.oU,r.keys,r.box,r.arr,r.vec,r.inj,r.low,r.qh,r.im,r.EO,r.nn⟩
def pJ(ρ:Nat->dN)(nx:Nat)(v:dN):Nat->dN:=fun j=>if j=nx then v else ρ j
theorem fL{ρ:Nat->dN}{nx:Nat}{v:dN}:∀id,id<nx->ρ id=pJ ρ nx v id:=fun id h=>by simp[pJ,Nat.ne_of_lt h]
@[simp] theorem eB {ρ:Nat->dN} {nx:Nat} {v:dN}:pJ ρ nx v nx=v:=by simp[pJ]
def cN.fits(b:cN)(ρ:Nat->dN)(v:dN)(w:World):Prop:=
 match b with
 | .box t cs=>v.nil=false∧w.heap[v.g]? =some (.cells (cs.map (At.den ρ)).toArray t (0,0))
 | .arr t cs=>v.nil=false∧w.heap[v.g]? =some (.cells cs.toArray t (0,0))
 | .vec t size cs=>(v.nil=true∧cs=[])∨(v.nil=false∧∃spare:List Value,w.heap[v.g]? =some (.cells (cs++spare).toArray t (0,0))∧(cs++spare).length=v.cap*size∧v.cap<=maxLen)
 | .dead=>True
def cN.scopd(b:cN)(n:Nat):Prop:=match b with
 | .box _ cs=>∀x∈cs,At.sc n x
 |_=>True
theorem Rel.fits{H:Hp}{nx:Nat}{iv:Iv}{B:Nat}{w w':World}{ρ:Nat->dN}(r:Rel H nx iv B w ρ w'){id:Nat}{b:cN}(h:cT H id=some b):b.fits ρ (ρ id) w':=by
 cases b with
 |box t cs=>exact⟨r.nn id _ h (by intros;simp) (by simp),r.box id t cs h⟩
 |arr t cs=>exact⟨r.nn id _ h (by intros;simp) (by simp),r.arr id t cs h⟩
 |vec t size cs=>exact r.vec id t size cs h
 |dead=>trivial
theorem Rel.mk'{H:Hp}{nx:Nat}{iv:Iv}{B:Nat}{w w':World}{ρ:Nat->dN}(os:w'.os=w.os)(tape:w'.tape=w.tape)(output:w'.output=w.output)
  (size:w.heap.size<=w'.heap.size) (base:B<=w.heap.size) (oU:∀lo hi,(lo,hi)∈iv->hi<=w.heap.size) (keys:∀id b,cT H id=some b->id<nx)
  (fits:∀id b,cT H id=some b->b.fits ρ (ρ id) w') (EO:∀id b,cT H id=some b->b.scopd nx)
  (inj:∀id id' b b',cT H id=some b->cT H id'=some b'->b≠ .dead->b'≠ .dead->(ρ id).nil=false->(ρ id').nil=false->(ρ id).g=(ρ id').g->id=id')
  (low:∀id b,cT H id=some b->(ρ id).nil=false->B<=(ρ id).g∧(ρ id).g<w'.heap.size)
  (qh:∀k,k<w.heap.size->(∀id b,cT H id=some b->(ρ id).nil=false->(ρ id).g≠k)->w'.heap[k]? =w.heap[k]?)
  (im:∀lo hi,(lo,hi)∈iv->∀id b,cT H id=some b->(ρ id).nil=false->¬(lo<=(ρ id).g∧(ρ id).g<hi)):Rel H nx iv B w ρ w' where
 os:=os
 tape:=tape
 output:=output
 size:=size
 base:=base
 oU:=oU
 keys:=keys
 box:=fun id t cs h=>(fits id _ h).2
 arr:=fun id t cs h=>(fits id _ h).2
 vec:=fun id t size cs h=>fits id _ h
 inj:=inj
 low:=low
 qh:=qh
 im:=im
 EO:=fun id t cs h=>EO id _ h
 nn:=fun id b h h1 h2=>by
  have:=fits id b h
  cases b with
  |box t cs=>exact this.1
  |arr t cs=>exact this.1
  |vec t size cs=>exact absurd rfl (h1 t size cs)
  |dead=>exact absurd rfl h2
theorem cN.fc{b:cN}{ρ ρ':Nat->dN}{v:dN}{w w':World}{n:Nat}(h:b.fits ρ v w)(hρ:∀id,id<n->ρ id=ρ' id)(hs:b.scopd n)
  (hw:v.nil=false->b≠ .dead->w'.heap[v.g]? =w.heap[v.g]?):b.fits ρ' v w':=by
 cases b with
 |box t cs=>
  obtain⟨h1,h2⟩:=h;refine⟨h1,?_⟩;rw[hw h1 (by simp),h2,List.map_congr_left fun c hc=>At.gz hρ (hs c hc)]
 |arr t cs=>exact⟨h.1,by rw[hw h.1 (by simp)];exact h.2⟩
 |vec t size cs=>
  rcases h with h|⟨h1,spare,h2,h3⟩
  ·exact .inl h
  ·exact .inr ⟨h1,spare,by rw[hw h1 (by simp)];exact h2,h3⟩
 |dead=>trivial
theorem cN.gZ{b:cN}{n m:Nat}(h:n<=m)(hb:b.scopd n):b.scopd m:=by
 cases b with
 |box t cs=>exact fun c hc=>At.pR h (hb c hc)
 |_=>trivial
theorem Rel.scopd{H:Hp}{nx:Nat}{iv:Iv}{B:Nat}{w w':World}{ρ:Nat->dN}(r:Rel H nx iv B w ρ w'){id:Nat}{b:cN}(h:cT H id=some b):b.scopd nx:=by
 cases b with
 |box t cs=>exact r.EO id t cs h
 |_=>trivial
theorem Rel.push{H:Hp}{nx:Nat}{iv:Iv}{B:Nat}{w w' w2:World}{ρ:Nat->dN}(r:Rel H nx iv B w ρ w')(b:cN)(v:dN)
  (os:w2.os=w'.os) (tape:w2.tape=w'.tape) (output:w2.output=w'.output) (size:w'.heap.size<=w2.heap.size) (old:∀k,k<w'.heap.size->w2.heap[k]? =w'.heap[k]?)
  (hv:v.nil=false->w'.heap.size<=v.g∧v.g<w2.heap.size) (hb:b.fits ρ v w2) (hs:b.scopd nx):Rel ((nx,b)::H) (nx+1) iv B w (pJ ρ nx v) w2:=by
 have hlt:∀id b,cT H id=some b->id≠nx:=fun id b h=>Nat.ne_of_lt (r.keys id b h);have hup:∀id b,cT H id=some b->pJ ρ nx v id=ρ id:=fun id b h=>by simp[pJ,hlt id b h]
 refine Rel.mk' (os.trans r.os) (tape.trans r.tape) (output.trans r.output) (bH r.size size) r.base r.oU ?_ ?_ ?_ ?_ ?_ ?_ ?_
 ·intro id b' h;rw[cR]at h;split at h
  ·omega
  ·have:=r.keys id b' h;omega
 ·intro id b' h;rw[cR]at h;split at h
  ·rename_i e;subst e;injection h with h;subst h;rw[eB];exact cN.fc hb fL hs (fun _ _=>rfl)
  ·rw[hup id b' h];exact cN.fc (r.fits h) fL (r.scopd h) (fun h1 _=>old _ (r.low id b' h h1).2)
 ·intro id b' h;rw[cR]at h;split at h
  ·injection h with h;subst h;exact cN.gZ (by omega) hs
  ·exact cN.gZ (by omega) (r.scopd h)
 ·intro id id' b1 b2 h1 h2 d1 d2 n1 n2 e;rw[cR]at h1 h2;split at h1<;>split at h2
  ·omega
  ·rename_i e1 e2;subst e1;rw[eB]at e n1;rw[hup id' b2 h2]at e n2;have:=(r.low id' b2 h2 n2).2;have:=(hv n1).1;omega
  ·rename_i e1 e2;subst e2;rw[eB]at e n2;rw[hup id b1 h1]at e n1;have:=(r.low id b1 h1 n1).2;have:=(hv n2).1;omega
  ·rw[hup id b1 h1]at e n1;rw[hup id' b2 h2]at e n2;exact r.inj id id' b1 b2 h1 h2 d1 d2 n1 n2 e
 ·intro id b' h n1;rw[cR]at h;split at h
  ·rename_i e;subst e;rw[eB]at n1 ⊢;have:=hv n1;have:=r.base;have:=r.size;omega
  ·rw[hup id b' h]at n1 ⊢;have:=r.low id b' h n1;omega
 ·intro k hk hne;rw[old k (by have:=r.size;omega)];refine r.qh k hk fun id b' h n1=>?_;have:=hne id b' (by rw[cR,aL (Ne.symm (hlt id b' h))];exact h) (by rw[hup id b' h];exact n1)
  rwa [hup id b' h]at this
 ·intro lo hi hm id b' h n1;rw[cR]at h;split at h
  ·rename_i e;subst e;rw[eB]at n1 ⊢;have:=hv n1;have:=r.oU lo hi hm;have:=r.size;omega
  ·rw[hup id b' h]at n1 ⊢;exact r.im lo hi hm id b' h n1
theorem Rel.store{H H':Hp}{nx:Nat}{iv:Iv}{B:Nat}{w w' w2:World}{ρ:Nat->dN}(r:Rel H nx iv B w ρ w'){id:Nat}{b b':cN}(hid:cT H id=some b)(hd:b≠ .dead)(hn:(ρ id).nil=false)
  (hH:∀j,cT H' j=if j=id then some b' else cT H j)
  (os:w2.os=w'.os) (tape:w2.tape=w'.tape) (output:w2.output=w'.output) (size:w2.heap.size=w'.heap.size) (old:∀k,k≠(ρ id).g->w2.heap[k]? =w'.heap[k]?)
  (hb:b'.fits ρ (ρ id) w2) (hs:b'.scopd nx):Rel H' nx iv B w ρ w2:=by
 have key:∀j c,cT H' j=some c->∃c',cT H j=some c':=fun j c h=>by
  rw[hH]at h;split at h
  ·rename_i e;subst e;exact⟨b,hid⟩
  ·exact⟨c,h⟩
 refine Rel.mk' (os.trans r.os) (tape.trans r.tape) (output.trans r.output) (by rw[size];exact r.size) r.base r.oU ?_ ?_ ?_ ?_ ?_ ?_ ?_
 ·intro j c h;obtain⟨c',h'⟩:=key j c h;exact r.keys j c' h'
 ·intro j c h;rw[hH]at h;split at h
  ·rename_i e;subst e;injection h with h;subst h;exact hb
  ·rename_i e;refine cN.fc (r.fits h) (fun _ _=>rfl) (r.scopd h) (fun h1 h2=>old _ fun e2=>e ?_);exact r.inj j id c b h hid h2 hd h1 hn e2
 ·intro j c h;rw[hH]at h;split at h
  ·injection h with h;subst h;exact hs
  ·exact r.scopd h
 ·intro j j' c c' h1 h2 d1 d2 n1 n2 e;rw[hH]at h1 h2;have l1:∃c1,cT H j=some c1∧c1≠ .dead:=by
   split at h1
   ·rename_i e1;subst e1;exact⟨b,hid,hd⟩
   ·exact⟨c,h1,d1⟩
  have l2:∃c1,cT H j'=some c1∧c1≠ .dead:=by
   split at h2
   ·rename_i e1;subst e1;exact⟨b,hid,hd⟩
   ·exact⟨c',h2,d2⟩
  obtain⟨c1,g1,g2⟩:=l1;obtain⟨c2,g3,g4⟩:=l2;exact r.inj j j' c1 c2 g1 g3 g2 g4 n1 n2 e
 ·intro j c h n1;obtain⟨c',h'⟩:=key j c h;rw[size];exact r.low j c' h' n1
 ·intro k hk hne;have hkg:k≠(ρ id).g:=fun e=>hne id b' (by rw[hH];simp) hn e.symm;rw[old k hkg];refine r.qh k hk fun j c h n1=>?_;by_cases e:j=id
  ·subst e;exact Ne.symm hkg
  ·exact hne j c (by rw[hH,aL e];exact h) n1
 ·intro lo hi hm j c h n1;obtain⟨c',h'⟩:=key j c h;exact r.im lo hi hm j c' h' n1
theorem Rel.DB{H H1:Hp}{nx:Nat}{iv:Iv}{B:Nat}{w w' w2:World}{ρ:Nat->dN}(r:Rel H nx iv B w ρ w'){id:Nat}{b0:cN}(hid:cT H id=some b0)(hd:b0≠ .dead)
  (hH:∀j,cT H1 j=if j=id then some .dead else cT H j) (b:cN) (v:dN)
  (os:w2.os=w'.os) (tape:w2.tape=w'.tape) (output:w2.output=w'.output) (size:w'.heap.size<=w2.heap.size)
  (old:∀k,k<w'.heap.size->((ρ id).nil=false->k≠(ρ id).g)->w2.heap[k]? =w'.heap[k]?)
  (hv:v.nil=false->(w'.heap.size<=v.g∧v.g<w2.heap.size)∨((ρ id).nil=false∧v.g=(ρ id).g)) (hb:b.fits ρ v w2) (hs:b.scopd nx):Rel ((nx,b)::H1) (nx+1) iv B w (pJ ρ nx v) w2:=by
 have key:∀j c,cT H1 j=some c->∃c',cT H j=some c'∧(c≠ .dead->c'=c∧j≠id):=fun j c h=>by
  rw[hH]at h;split at h
  ·rename_i e;subst e;injection h with h;exact⟨b0,hid,fun h2=>absurd h.symm h2⟩
  ·rename_i e;exact⟨c,h,fun _=>⟨rfl,e⟩⟩
 have hlt:∀j c,cT H1 j=some c->j≠nx:=fun j c h=>by obtain⟨c',h',_⟩:=key j c h;exact Nat.ne_of_lt (r.keys j c' h')
 have hup:∀j c,cT H1 j=some c->pJ ρ nx v j=ρ j:=fun j c h=>by simp[pJ,hlt j c h]
 have hidlt:=r.keys id b0 hid;have hvlow:v.nil=false->B<=v.g∧v.g<w2.heap.size:=fun hn=>by
  rcases hv hn with h|⟨h1,h2⟩
  ·have:=r.base;have:=r.size;omega
  ·have:=r.low id b0 hid h1;omega
 refine Rel.mk' (os.trans r.os) (tape.trans r.tape) (output.trans r.output) (bH r.size size) r.base r.oU ?_ ?_ ?_ ?_ ?_ ?_ ?_
 ·intro j b' h;rw[cR]at h;split at h
  ·omega
  ·obtain⟨c',h',_⟩:=key j b' h;have:=r.keys j c' h';omega
 ·intro j b' h;rw[cR]at h;split at h
  ·rename_i e;subst e;injection h with h;subst h;rw[eB];exact cN.fc hb fL hs (fun _ _=>rfl)
  ·rw[hup j b' h];by_cases hdead:b'= .dead
   ·subst hdead;trivial
   ·obtain⟨c',h',h2⟩:=key j b' h;obtain⟨rfl,hne⟩:=h2 hdead;exact cN.fc (r.fits h') fL (r.scopd h') (fun h1 _=>old _ (r.low j c' h' h1).2 fun h3 e=>hne (r.inj j id c' b0 h' hid hdead hd h1 h3 e))
 ·intro j b' h;rw[cR]at h;split at h
  ·injection h with h;subst h;exact cN.gZ (by omega) hs
  ·by_cases hdead:b'= .dead
   ·subst hdead;trivial
   ·obtain⟨c',h',h2⟩:=key j b' h;obtain⟨rfl,hne⟩:=h2 hdead;exact cN.gZ (by omega) (r.scopd h')
 ·have cross:∀j c,cT H1 j=some c->c≠ .dead->(ρ j).nil=false->v.nil=false->v.g≠(ρ j).g:=fun j c h dd nj nv e=>by
   obtain⟨c',h',h2⟩:=key j c h;obtain⟨rfl,hne⟩:=h2 dd;rcases hv nv with h3|⟨h3,h4⟩
   ·have:=(r.low j c' h' nj).2;omega
   ·exact hne (r.inj j id c' b0 h' hid dd hd nj h3 (by omega))
  intro j j' b1 b2 h1 h2 d1 d2 n1 n2 e;rw[cR]at h1 h2;split at h1<;>split at h2
  ·omega
  ·rename_i e1 e2;subst e1;rw[eB]at e n1;rw[hup j' b2 h2]at e n2;exact absurd e (cross j' b2 h2 d2 n2 n1)
  ·rename_i e1 e2;subst e2;rw[eB]at e n2;rw[hup j b1 h1]at e n1;exact absurd e.symm (cross j b1 h1 d1 n1 n2)
  ·rw[hup j b1 h1]at e n1;rw[hup j' b2 h2]at e n2;obtain⟨c1,g1,k1⟩:=key j b1 h1;obtain⟨c2,g2,k2⟩:=key j' b2 h2;obtain⟨rfl,_⟩:=k1 d1;obtain⟨rfl,_⟩:=k2 d2;exact r.inj j j' c1 c2 g1 g2 d1 d2 n1 n2 e
 ·intro j b' h n1;rw[cR]at h;split at h
  ·rename_i e;subst e;rw[eB]at n1 ⊢;exact hvlow n1
  ·rw[hup j b' h]at n1 ⊢;obtain⟨c',h',_⟩:=key j b' h;have:=r.low j c' h' n1;omega
 ·intro k hk hne;have hkey:∀j c,cT H j=some c->(ρ j).nil=false->(ρ j).g≠k:=fun j c h nj=>by
   have hj:cT H1 j=some (if j=id then .dead else c):=by rw[hH];split<;>simp[h]
   have:=hne j _ (by rw[cR,aL (Ne.symm (hlt j _ hj))];exact hj) (by rw[hup j _ hj];exact nj)
   rwa [hup j _ hj]at this
  rw[old k (by have:=r.size;omega) (fun h e=>hkey id b0 hid h e.symm)];exact r.qh k hk hkey
 ·intro lo hi hm j b' h n1;rw[cR]at h;split at h
  ·rename_i e;subst e;rw[eB]at n1 ⊢;rcases hv n1 with h3|⟨h3,h4⟩
   ·have:=r.oU lo hi hm;have:=r.size;omega
   ·rw[h4];exact r.im lo hi hm id b0 hid h3
  ·rw[hup j b' h]at n1 ⊢;obtain⟨c',h',_⟩:=key j b' h;exact r.im lo hi hm j c' h' n1
section
variable{P:Program}{τ:kI}{B n nx:Nat}{l:Env}{H:Hp}{iv:Iv}{w w':World}{ρ:Nat->dN}{a:Act}
theorem pS(sat:Sat n l H nx iv B w ρ a w'){x:Operand}{v:SV}(h:ev l x=some v):a.eval x=v.den ρ∧v.sc nx:=by
 cases x with
 |tmp t=>
  have h1:=sat.env t v h;exact⟨by simp[Act.eval,h1],sat.sc t v h⟩
 |const c=>simp[ev]at h;subst h;exact⟨rfl,trivial⟩
 |global g=>simp[ev]at h;subst h;exact⟨rfl,trivial⟩
 |func f=>simp[ev]at h;subst h;exact⟨rfl,trivial⟩
theorem c9(sat:Sat n l H nx iv B w ρ a w'){x:Operand}{k:SV->Prop}(h:mB l x k):∃v,k v∧a.eval x=v.den ρ∧v.sc nx:=by
 unfold mB at h;split at h
 ·rename_i v hv;exact⟨v,h,pS sat hv⟩
 ·exact h.elim
theorem nL(sat:Sat n l H nx iv B w ρ a w'):∀{xs:List Operand} {k:List SV->Prop},Cn l xs k->∃vs,k vs∧xs.map a.eval=vs.map (SV.den ρ)∧∀v∈vs,SV.sc nx v
 |[],k,h=>⟨[],h,rfl,by simp⟩
 |x::r,k,h=>by
  unfold Cn at h;split at h
  ·rename_i v hv;obtain⟨vs,h1,h2,h3⟩:=nL sat (xs:=r) h;have:=pS sat hv;exact⟨v::vs,h1,by simp[this.1,h2],by simp;exact⟨this.2,h3⟩⟩
  ·exact h.elim
theorem jv{o:Oper}{a:Act}{w w2:World}{v:Value}{next:Act->World->Prop}{Q:Exit->Act->World->Prop}(h:(execOp a.eval o).run P w= .ok (.value v) w2)(hk:next (a.put o.dst v) w2):o.wp P a w next Q:=by
 unfold Oper.wp;rw[h];exact hk
theorem DC{o:Oper}{a:Act}{w w2:World}{next:Act->World->Prop}{Q:Exit->Act->World->Prop}(h:(execOp a.eval o).run P w= .ok .skip w2)(hk:next (a.put o.dst undef) w2):o.wp P a w next Q:=by
 unfold Oper.wp;rw[h];exact hk
theorem ja{s:Sem Value}{w w2:World}{v:Value}(h:s.run P w= .ok v w2):((do pure (.value (<-s))):Sem Next).run P w= .ok (.value v) w2:=by
 simp[h]
theorem A4.isAgg{t:Nat}{i:TI}(h:A4 P t i)(w:World):(isAgg t).run P w= .ok i.agg w:=by
 obtain⟨d,h1,h2⟩:=h.agg;unfold Go.isAgg;rw[Sem.run_bind,run_underlying h1 w,<-h2]
 cases d<;>rfl
theorem A4.sizeOf{t:Nat}{i:TI}(h:A4 P t i)(w:World):(sizeOf t).run P w= .ok i.size w:=by
 obtain⟨inf,z,h1,h2,_⟩:=h.info;simp[Go.sizeOf,typeInfo,h1,h2]
theorem A4.zeroV{t:Nat}{i:TI}(h:A4 P t i)(w:World):∃z,(zeroValue t).run P w= .ok z w∧z.cells.toList=i.zero:=by
 obtain⟨inf,z,h1,h2,_,h4,h5⟩:=h.info;exact⟨z,by simp[zeroValue,typeInfo,h1,h4],h5⟩
theorem iu{t:Nat}{i:TI}(ht:A4 P t i)(hagg:i.agg=false){w:World}{ad:Addr}{x:Value}(hc:w.cell? ad=some x):
  (Instr.loadAt t (.pointer (some ad))).run P w= .ok x w:=by
 simp[Instr.loadAt,Instr.sureAddr,loadVar,ht.isAgg,hagg,hc]
theorem gi{t:Nat}{i:TI}(ht:A4 P t i)(hagg:i.agg=true){w:World}{ad:Addr}{xs:List Value}(hl:xs.length=i.size)(hc:∀j v,xs[j]? =some v->w.cell? (ad.add j)=some v):
  (Instr.loadAt t (.pointer (some ad))).run P w= .ok (.agg xs.toArray) w:=by
 have:=run_loadCells_list (P:=P) w ad xs hc;rw[hl]at this;simp[Instr.loadAt,Instr.sureAddr,loadVar,ht.isAgg,hagg,ht.sizeOf,this]
theorem dA(g off j:Nat):(⟨g,off,none⟩:Addr).add j=⟨g,off+j,none⟩:=by
 unfold Addr.add;split<;>simp_all
theorem ql:∀{cs:List At} {i:Nat},xo cs i=cs[i]?
 |[],i=>by simp[xo]
 |x::r,0=>by simp[xo]
 |x::r,i+1=>by simp[xo,ql (cs:=r)]
theorem xB:∀{cs:List Value} {i:Nat},Bz cs i=cs[i]?
 |[],i=>by simp[Bz]
 |x::r,0=>by simp[Bz]
 |x::r,i+1=>by simp[Bz,xB (cs:=r)]
theorem xC:∀{cs:List (Nat×Nat)} {i:Nat},CA cs i=cs[i]?
 |[],i=>by simp[CA]
 |x::r,0=>by simp[CA]
 |x::r,i+1=>by simp[CA,xC (cs:=r)]
theorem cell_of{w:World}{g t off:Nat}{cs:List Value}(h:w.heap[g]? =some (.cells cs.toArray t (0,0))):w.cell? ⟨g,off,none⟩=cs[off]? :=by
 rw[cell_of_row w g off _ t (0,0) h];simp
theorem eU{xs:List Value}{ρ:Nat->dN}:(xs.map At.v).map (At.den ρ)=xs:=by
 simp[Function.comp_def,At.den]
theorem kr(hτ:eS P τ)(rel0:Rel H nx iv B w ρ w'){t:Nat}{addr:SV}(hs:addr.sc nx){K:SV->Prop}(h:wy τ B t addr H nx iv w K):
  ∃r,K r∧r.sc nx∧∀w',Rel H nx iv B w ρ w'->(Instr.loadAt t (addr.den ρ)).run P w'= .ok (r.den ρ) w':=by
 unfold wy at h;split at h
 ·exact h.elim
 ·rename_i sz ag by_ ze tag ik e al fs hti;have ht:=hτ t _ hti;split at h
  ·rename_i id off;split at h
   ·rename_i bt cs hH;split at h
    ·split at h
     ·rename_i x hx;rw[ql]at hx;refine⟨_,h,rel0.EO id bt cs hH x (aD hx),fun w' rel=>?_⟩;have hb:=rel.box id bt cs hH;exact iu ht rfl (by rw[cell_of hb];simp[hx,SV.den])
     ·exact h.elim
    ·have h1:=km h;have h2:=ko h1.1;refine⟨_,h2.1,fun c hc=>rel0.EO id bt cs hH c (List.mem_of_mem_drop (List.mem_of_mem_take hc)),fun w' rel=>?_⟩;have hb:=rel.box id bt cs hH;refine gi ht rfl (xs:=((cs.drop off).take sz).map (At.den ρ)) ?_ fun j v hv=>?_
     ·have:=h2.2;simp only[aK,aW];omega
     ·rw[dA,cell_of hb];simp only[aN,List.getElem?_take,List.getElem?_drop]at hv ⊢;split at hv
      ·exact hv
      ·simp at hv
   ·rename_i bt cs hH;split at h
    ·obtain⟨x,hx,h⟩:=h;exact⟨_,h,trivial,fun w' rel=>iu ht rfl (by rw[cell_of (rel.arr id bt cs hH),hx];rfl)⟩
    ·obtain⟨xs,hx,hl,h⟩:=h;refine⟨_,eV h,fun c hc=>by simp at hc;obtain⟨v,_,rfl⟩:=hc;trivial,fun w' rel=>?_⟩;have hb:=rel.arr id bt cs hH;simp only[SV.den,eU]
     refine gi ht rfl hl fun j v hv=>?_;rw[dA,cell_of hb];rw[<-hx]at hv;simp only[List.getElem?_take,List.getElem?_drop]at hv;split at hv
     ·exact hv
     ·simp at hv
   ·rename_i bt ez cs hH;split at h
    ·obtain⟨x,hx,h⟩:=h;refine⟨_,h,trivial,fun w' rel=>?_⟩;have hb:=rel.vec id bt ez cs hH;rcases hb with⟨_,rfl⟩|⟨hn,spare,hb,_⟩
     ·simp at hx
     ·refine iu ht rfl ?_;rw[cell_of hb];have:off<cs.length:=(aE.1 hx).1;rw[aJ this,hx];rfl
    ·obtain⟨xs,hx,hl,h⟩:=h;refine⟨_,eV h,fun c hc=>by simp at hc;obtain⟨v,_,rfl⟩:=hc;trivial,fun w' rel=>?_⟩;have hb:=rel.vec id bt ez cs hH;simp only[SV.den,eU]
     rcases hb with⟨_,rfl⟩|⟨hn,spare,hb,_⟩
     ·have:xs=[]:=by rw[<-hx];simp
      subst this;refine gi ht rfl hl fun j v hv=>by simp at hv
     ·refine gi ht rfl hl fun j v hv=>?_;rw[dA,cell_of hb];rw[<-hx]at hv;simp only[List.getElem?_take,List.getElem?_drop]at hv;split at hv
      ·rw[aJ (aE.1 hv).1];exact hv
      ·simp at hv
   ·exact h.elim
  ·rename_i ad;split at h
   ·obtain⟨x,hx,h⟩:=h;exact⟨_,h,trivial,fun w' rel=>iu ht rfl (hx ρ w' rel)⟩
   ·obtain⟨xs,hl,hx,h⟩:=h;refine⟨_,eV h,fun c hc=>by simp at hc;obtain⟨v,_,rfl⟩:=hc;trivial,fun w' rel=>?_⟩;simp only[SV.den,eU]
    exact gi ht rfl hl fun j v hv=>hx ρ w' rel j v hv
  ·exact h.elim
theorem jx{t:Nat}{i:TI}(ht:A4 P t i){w:World}{g off bt:Nat}{old:List Value}(hb:w.heap[g]? =some (.cells old.toArray bt (0,0))){v:Value}{new:List Value}
  (hv:v.cells=new.toArray) (hl:new.length=i.size) (h1:∀x∈new,x.oneCell'=true) (hfit:off+new.length<=old.length):
  (Instr.storeAt t (.pointer (some ⟨g,off,none⟩)) v).run P w= .ok () (w.setRow g (old.take off++new++old.drop (off+new.length)).toArray):=by
 have:=run_storeCells_at (P:=P) g off bt new 0 old.toArray w hb (by simpa using hfit) h1;simp only[bg]at this;simp[Instr.storeAt,Instr.sureAddr,storeVar,ht.sizeOf,hv,hl,this]
theorem iH:∀(vs:List Value) (w:World) (b off:Nat),setCells w ⟨b,off,none⟩ vs=w.setCells b off vs
 |[],_,_,_=>rfl
 |x::r,w,b,off=>by
  simp only[setCells,World.setCells,dA]
  exact iH r _ b (off+1)
theorem r9(hτ:eS P τ)(sat:Sat n l H nx iv B w ρ a w'){t:Nat}{addr x:SV}(hs:addr.sc nx)(hx:x.sc nx){K:Hp->World->Prop}(h:xp τ B t addr x H nx iv w K):
  ∃H' w2 w3,K H' w2∧Rel H' nx iv B w2 ρ w3∧(Instr.storeAt t (addr.den ρ) (x.den ρ)).run P w'= .ok () w3:=by
 unfold xp at h;split at h
 ·exact h.elim
 rename_i sz ag by_ ze tag ik e al fs hti;have ht:=hτ t _ hti;have rel:=sat.rel;have h0:=j9 h;clear h;obtain⟨new,h00,hcells,hsc⟩:=h0;have h0:=uC h00;clear h00;obtain⟨h,hone⟩:=h0;split at h
 ·exact h.elim
 rename_i hlen;have hlen:=dZ hlen;have hcell:=hcells ρ;have hsc:=hsc nx hx;have h1:∀v∈new.map (At.den ρ),v.oneCell'=true:=by
  intro v hv;simp at hv;obtain⟨c,hc,rfl⟩:=hv;exact one_den (hone c hc) ρ
 have hlm:(new.map (At.den ρ)).length=sz:=by simpa using hlen
 split at h
 ·rename_i id off;split at h
  ·rename_i bt cs hH;have hb:=rel.box id bt cs hH;obtain⟨hr,hfit⟩:=kp h;obtain⟨H',hK,hH',_⟩:=nO hr;refine⟨H',w,_,hK,?_,jx ht (old:=cs.map (At.den ρ)) hb hcell hlm h1 (by simp;omega)⟩;refine rel.store hH (by simp) (rel.nn id _ hH (by intros;simp) (by simp)) hH' rfl rfl rfl (by simp) (fun k hk=>setRow_other _ _ _ _ hk) ⟨rel.nn id _ hH (by intros;simp) (by simp),?_⟩ ?_
   ·rw[setRow_heap _ _ _ _ _ _ hb];simp[List.map_drop,List.map_take]
   ·intro c hc;simp only[bT]at hc;rcases hc with(hc|hc)|hc
    ·exact rel.EO id bt cs hH c (List.mem_of_mem_take hc)
    ·exact hsc c hc
    ·exact rel.EO id bt cs hH c (List.mem_of_mem_drop hc)
  ·rename_i bt cs hH;have hb:=rel.arr id bt cs hH;obtain⟨nv,hr,hnv,hnv1⟩:=jF h;obtain⟨hfit,cs',hcs',hr⟩:=hr;obtain⟨H',hK,hH',_⟩:=nO hr;have hnl:nv.length=sz:=by rw[hnv]at hlen;simpa using hlen
   have hcell':(x.den ρ).cells=nv.toArray:=by rw[hcell,hnv,eU]
   refine⟨H',w,_,hK,?_,jx ht hb hcell' hnl hnv1 (by omega)⟩;refine rel.store hH (by simp) (rel.nn id _ hH (by intros;simp) (by simp)) hH' rfl rfl rfl (by simp) (fun k hk=>setRow_other _ _ _ _ hk) ⟨rel.nn id _ hH (by intros;simp) (by simp),?_⟩ trivial;rw[setRow_heap _ _ _ _ _ _ hb,hnl,hcs']
  ·rename_i bt ez cs hH;have hb:=rel.vec id bt ez cs hH;obtain⟨nv,hr,hnv,hnv1⟩:=jF h;obtain⟨hfit,cs',hcs',hr⟩:=hr;obtain⟨H',hK,hH',_⟩:=nO hr;have hnl:nv.length=sz:=by rw[hnv]at hlen;simpa using hlen
   have hcell':(x.den ρ).cells=nv.toArray:=by rw[hcell,hnv,eU]
   rcases hb with⟨hnil,rfl⟩|⟨hn,spare,hb,hsl,hcap⟩
   ·
    have h0:sz=0:=by simp at hfit;omega
    have hnv0:nv=[]:=by cases nv with|nil=>rfl|cons _ _=>simp at hnl;omega
    subst hnv0;have:cs'=[]:=by rw[<-hcs'];simp
    subst this;refine⟨H',w,w',hK,?_,?_⟩
    ·have hHH:∀j,cT H' j=cT H j:=fun j=>by rw[hH'];split<;>simp_all
     exact Rel.mk' rel.os rel.tape rel.output rel.size rel.base rel.oU (fun id b h=>rel.keys id b (by rw[<-hHH];exact h)) (fun id b h=>rel.fits (by rw[<-hHH];exact h)) (fun id b h=>rel.scopd (by rw[<-hHH];exact h))
      (fun i j b b' h1 h2=>rel.inj i j b b' (by rw[<-hHH];exact h1) (by rw[<-hHH];exact h2)) (fun id b h=>rel.low id b (by rw[<-hHH];exact h))
      (fun k hk hne=>rel.qh k hk fun id b h=>hne id b (by rw[hHH];exact h)) (fun lo hi hm id b h=>rel.im lo hi hm id b (by rw[<-hHH];exact h))
    ·subst h0;show(Instr.storeAt t (.pointer (some ⟨(ρ id).g,off,none⟩)) (x.den ρ)).run P w'=_;generalize x.den ρ=xv at hcell' ⊢;simp[Instr.storeAt,Instr.sureAddr,storeVar,ht.sizeOf,hcell',storeCells]
   ·refine⟨H',w,_,hK,?_,jx ht hb hcell' hnl hnv1 (by simp;omega)⟩;refine rel.store hH (by simp) hn hH' rfl rfl rfl (by simp) (fun k hk=>setRow_other _ _ _ _ hk) (.inr ⟨hn,spare,?_,?_,hcap⟩) trivial
    ·rw[setRow_heap _ _ _ _ _ _ hb,<-hcs',hnl];congr 2;rw[List.take_append_of_le_length (by omega),List.drop_append_of_le_length (by omega)];simp
    ·rw[<-hsl,<-hcs'];simp;omega
  ·exact h.elim
 ·rename_i ad;obtain⟨nv,hr,hnv,hnv1⟩:=jF h;obtain⟨hspot,hok,hne,hK⟩:=hr ρ w' rel;have hnl:nv.length=sz:=by rw[hnv]at hlen;simpa using hlen
  have hcell':(x.den ρ).cells=nv.toArray:=by rw[hcell,hnv,eU]
  obtain⟨b,off,spot⟩:=ad;simp only at hspot hne;subst hspot;have hst:=run_storeCells_cells (P:=P) b off nv 0 w' (fun j hj=>by have:=(hok j (by omega)).1;rwa [dA]at this) (fun j hj=>by have:=(hok j (by omega)).2;rwa [dA]at this) hnv1;have hother:∀k,k≠b->(w'.setCells b off nv).heap[k]? =w'.heap[k]? :=by
   intro k hk;clear hst hok h hr hK hnv hnv1 hcell' hnl
   induction nv generalizing w' off with
   |nil=>rfl
   |cons v r ih=>
    simp only[World.setCells]
    rw[show (∀(w0:World) (o:Nat),(w0.setCells b o r).heap[k]? =w0.heap[k]?)from ?_]
    ·simp[World.setCell,Array.getElem?_modify,Ne.symm hk]
    ·clear ih;intro w0 o
     induction r generalizing w0 o with
     |nil=>rfl
     |cons v r ih=>simp only[World.setCells];rw[ih];simp[World.setCell,Array.getElem?_modify,Ne.symm hk]
  have hfrm:(w'.setCells b off nv).os=w'.os∧(w'.setCells b off nv).tape=w'.tape∧(w'.setCells b off nv).output=w'.output∧(w'.setCells b off nv).heap.size=w'.heap.size:=by
   have:∀(vs:List Value) (w0:World) (o:Nat),(w0.setCells b o vs).os=w0.os∧(w0.setCells b o vs).tape=w0.tape∧(w0.setCells b o vs).output=w0.output∧(w0.setCells b o vs).heap.size=w0.heap.size:=by
    intro vs
    induction vs with
    |nil=>intro w0 o;exact⟨rfl,rfl,rfl,rfl⟩
    |cons v r ih=>intro w0 o;simp only[World.setCells];obtain⟨h1,h2,h3,h4⟩:=ih (w0.setCell ⟨b,o,none⟩ v) (o+1);exact⟨h1,h2,h3,by rw[h4];simp⟩
   exact this nv w' off
  refine⟨H,_,w'.setCells b off nv,hK _ rfl,?_,?_⟩
  ·rw[iH];refine Rel.mk' rfl rfl rfl (aI _) (by rw[hfrm.2.2.2];have:=rel.base;have:=rel.size;omega) (fun lo hi hm=>by rw[hfrm.2.2.2];have:=rel.oU lo hi hm;have:=rel.size;omega) rel.keys
    (fun id b' h=>cN.fc (rel.fits h) (fun _ _=>rfl) (rel.scopd h) (fun hnil _=>hother _ (hne id b' h hnil))) (fun id b' h=>rel.scopd h) rel.inj (fun id b' h hnil=>by rw[hfrm.2.2.2];exact rel.low id b' h hnil) (fun _ _ _=>rfl) rel.im
  ·show(Instr.storeAt t (.pointer (some ⟨b,off,none⟩)) (x.den ρ)).run P w'=_;generalize x.den ρ=xv at hcell' ⊢;simp at hst;simp[Instr.storeAt,Instr.sureAddr,storeVar,ht.sizeOf,hcell',hnl,hst]
 ·exact h.elim
end
theorem A9(new:List Value):∀(k off:Nat) (cs:Array Value),off+k+new.length<=cs.size->
  ((new.zipIdx k).foldl (fun cs (c,j)=>cs.setIfInBounds (off+j) c) cs).toList=cs.toList.take (off+k)++new++cs.toList.drop (off+k+new.length):=by
 induction new with
 |nil=>intro k off cs _;simp
 |cons x r ih=>
  intro k off cs h;simp only[List.length_cons]at h;rw[List.zipIdx_cons,List.foldl_cons,ih (k+1) off _ (by simp;omega)];have h2:=list_seg_step cs.toList (off+k) x r (by simp;omega);simp only[Array.toList_setIfInBounds,List.length_cons]at h2 ⊢;rw[show off+(k+1)=off+k+1 by omega];exact h2
theorem CE{place:Nat->Option (Nat×Nat)}{cells:Array Value}{i off size:Nat}{v:Value}{rest:List (Nat×Value)}{new:List Value}(hp:place i=some (off,size))
  (hv:v.cells=new.toArray) (hl:new.length=size) (hfit:off+new.length<=cells.size):
  Instr.fill place cells ((i,v)::rest)=Instr.fill place (cells.toList.take off++new++cells.toList.drop (off+new.length)).toArray rest:=by
 have h:=A9 new 0 off cells (by omega);have e:(v.cells.zipIdx.foldl (fun cs (x:Value×Nat)=>cs.setIfInBounds (off+x.2) x.1) cells)=(cells.toList.take off++new++cells.toList.drop (off+new.length)).toArray:=by
  rw[hv,<-Array.foldl_toList];apply Array.ext';simpa using h
 conv=>lhs;unfold Instr.fill
 simp only[hp,hv,List.size_toArray,hl]
 rw[aL (by simp;omega)];rw[hv]at e;rw[<-hl,<-e]
section
variable{P:Program}{τ:kI}{B n nx:Nat}{l:Env}{H:Hp}{iv:Iv}{w w':World}{ρ:Nat->dN}{a:Act}
theorem iI(sat:Sat n l H nx iv B w ρ a w'){place:Nat->(Nat->Nat->Prop)->Prop}{placeF:Nat->Option (Nat×Nat)}
  (hp:∀i k,place i k->∃off size,k off size∧placeF i=some (off,size)):∀{parts:List (Nat×Operand)} {cs:List At} {k:List At->Prop},
  qk l place parts cs k->(∀c∈cs,At.sc nx c)->∃cs',k cs'∧(∀c∈cs',At.sc nx c)∧cs'.length=cs.length∧
   Instr.fill placeF (cs.map (At.den ρ)).toArray (parts.map fun p=>(p.1,a.eval p.2))=some (cs'.map (At.den ρ)).toArray
 |[],cs,k,h,hs=>⟨cs,h,hs,rfl,by simp[Instr.fill]⟩
 |(i,x)::r,cs,k,h,hs=>by
  unfold qk at h;obtain⟨off,size,h1,hpl⟩:=hp i _ h;obtain⟨v,h2,hv,hvs⟩:=c9 sat h1;obtain⟨new,h3,hcells,hsc⟩:=j9 h2;split at h3
  ·rename_i hlen;have hlen:=dZ hlen;obtain⟨h4,hfit⟩:=kp h3
   obtain⟨cs',h5,h6,h7,h8⟩:=iI sat hp h4 (by
    intro c hc;simp only[bT]at hc;rcases hc with(hc|hc)|hc
    ·exact hs c (List.mem_of_mem_take hc)
    ·exact hsc nx hvs c hc
    ·exact hs c (List.mem_of_mem_drop hc))
   refine⟨cs',h5,h6,by rw[h7];simp;omega,?_⟩;have hc:=hcells ρ;rw[List.map_cons,CE (new:=new.map (At.den ρ)) hpl (by show(a.eval x).cells=_;rw[hv];exact hc) (by simpa using hlen) (by simpa using hfit),<-h8];simp[List.map_drop,List.map_take]
  ·exact h3.elim
theorem jy(hτ:eS P τ){fs:List (Nat×Nat)}{f:Nat}{k:Nat->Nat->Bool->Prop}(h:mI τ fs f k):
  ∃off ft fi,k off fi.size fi.agg∧fs[f]? =some (off,ft)∧A4 P ft fi∧fi.size≠0:=by
 unfold mI at h;split at h
 ·rename_i off ft hf;rw[xC]at hf;split at h
  ·rename_i sz ag by_ ze tag ik e al fs' hti;split at h
   ·exact h.elim
   ·rename_i hsz;exact⟨off,ft,_,h,hf,hτ ft _ hti,fun e=>by simp at e;subst e;simp at hsz⟩
  ·exact h.elim
 ·exact h.elim
theorem uD{t:Nat}{i:TI}(h:A4 P t i)(h5:i.tag=5){f off ft:Nat}(hf:i.fields[f]? =some (off,ft)):
  ∃fs fd,P.underlying t=some (.struct fs)∧fs[f]? =some fd∧fd.offset=off∧fd.type=ft:=by
 obtain⟨fs,h1,h2,_⟩:=h.i5 h5;rw[<-h2]at hf;simp only[aN,Option.map_eq_some_iff]at hf;obtain⟨fd,hfd,he⟩:=hf;injection he with e1 e2;exact⟨fs,fd,h1,by simpa using hfd,e1,e2⟩
theorem zL{t:Nat}{i:TI}(h:A4 P t i)(h5:i.tag=5){f off ft:Nat}{fi:TI}(hf:i.fields[f]? =some (off,ft))(hfi:A4 P ft fi)(hsz:fi.size≠0)(ad:Addr)(w:World):
  (Instr.fieldAt t (.pointer (some ad)) f).run P w= .ok (.pointer (some (ad.add off))) w:=by
 obtain⟨fs,fd,h1,h2,rfl,rfl⟩:=uD h h5 hf;simp[Instr.fieldAt,run_underlying h1,h2,Instr.sureAddr,fieldPlace,hfi.sizeOf,hsz]
theorem pT{x:SV}{m:Nat}{K:SV->Prop}(h:tQ x m K)(hx:x.sc nx):∃r ad,K r∧r.sc nx∧x.den ρ= .pointer (some ad)∧r.den ρ= .pointer (some (ad.add m)):=by
 unfold tQ at h;split at h
 ·rename_i id off;exact⟨_,⟨(ρ id).g,off,none⟩,h,hx,rfl,by simp[SV.den,At.den,dA]⟩
 ·rename_i ad;exact⟨_,ad,h,trivial,rfl,rfl⟩
 ·exact h.elim
theorem qm(rel:Rel H nx iv B w ρ w'){id m:Nat}{K:Prop}(h:CC H id m K):K∧((ρ id).nil=true->m=0):=by
 unfold CC at h;split at h
 ·rename_i t sz cs hH;split at h
  ·exact h.elim
  ·rename_i k;refine⟨h.2,fun hn=>?_⟩;have h1:=h.1;rcases rel.vec id t (k+1) cs hH with⟨_,rfl⟩|⟨h2,_⟩
   ·have h4:m*(k+1)=0:=by simpa using h1.symm
    rcases Nat.mul_eq_zero.1 h4 with h5|h5
    ·exact h5
    ·omega
   ·rw[hn]at h2;cases h2
 ·exact h.elim
theorem CF(hτ:eS P τ){t ty:Nat}{x:SV}{K:Int->Prop}(h:FX τ H t x K)(rel:Rel H nx iv B w ρ w'):
  ∃r,K r∧∀w',(Builtin.len_ #[t] ty #[x.den ρ]).run P w'= .ok (.int .i64 r) w':=by
 unfold FX at h;split at h
 ·exact h.elim
 rename_i sz ag by_ ze tag ik e al fs hti;have ht:=hτ t _ hti;split at h
 ·rename_i htag;have hu:=ht.i4 (dZ htag);split at h
  ·exact⟨_,h,fun w'=>by simp[Builtin.len_,run_underlying hu,SV.den,At.den,goInt]⟩
  ·exact⟨_,h,fun w'=>by simp[Builtin.len_,run_underlying hu,SV.den,At.den,goInt]⟩
  ·rename_i id m;have h1:=qm rel h;refine⟨_,h1.1,fun w'=>?_⟩
   cases hn:(ρ id).nil
   ·simp[Builtin.len_,run_underlying hu,SV.den,At.den,goInt,hn]
   ·have:=h1.2 hn;subst this;simp[Builtin.len_,run_underlying hu,SV.den,At.den,goInt,hn]
  ·exact h.elim
 ·split at h
  ·rename_i htag;have hu:=ht.i3 (dZ htag);split at h
   ·exact⟨_,h,fun w'=>by simp[Builtin.len_,run_underlying hu,SV.den,At.den,goInt]⟩
   ·exact h.elim
  ·split at h
   ·rename_i htag;have hu:=ht.i6 (dZ htag);exact⟨_,h,fun w'=>by simp[Builtin.len_,run_underlying hu,goInt]⟩
   ·exact h.elim
theorem zM(hτ:eS P τ){t:Nat}{x i:SV}{K:SV->Prop}(h:A5 τ H t x i K)(hx:x.sc nx)(rel:Rel H nx iv B w ρ w'):
  ∃r,K r∧r.sc nx∧∀w',(Instr.indexAt t (x.den ρ) (i.den ρ)).run P w'= .ok (r.den ρ) w':=by
 unfold A5 at h;split at h
 ·rename_i kd i;split at h
  ·rename_i sz ag by_ ze tag ik e al fs hti;have ht:=hτ t _ hti;split at h
   ·rename_i sz' ag' by' ze' tag' ik' e' al' fs' hte
    have hte:=hτ e _ hte;split at h
    ·rename_i htag;have hu:=ht.i4 (dZ htag);simp only at hu;split at h
     ·rename_i id off m c;obtain⟨hb,h⟩:=h;exact⟨_,h,hx,fun w'=>by simp[Instr.indexAt,run_underlying hu,asIntOf,SV.den,At.den,hb,hte.sizeOf,dA]⟩
     ·rename_i id m;obtain⟨⟨hb,h1⟩,h2⟩:=qm rel h;refine⟨_,h1,hx,fun w'=>?_⟩
      cases hn:(ρ id).nil
      ·simp[Instr.indexAt,run_underlying hu,asIntOf,SV.den,At.den,hb,hte.sizeOf,dA,hn]
      ·have:=h2 hn;omega
     ·rename_i a0 m c;obtain⟨ad,rfl,hb,h⟩:=h;exact⟨_,h,trivial,fun w'=>by simp[Instr.indexAt,run_underlying hu,asIntOf,SV.den,At.den,hb,hte.sizeOf]⟩
     ·exact h.elim
    ·split at h
     ·rename_i htag;have hu:=ht.i6 (dZ htag);simp only at hu;obtain⟨hb,h⟩:=h;obtain⟨r,ad,h1,h2,h3,h4⟩:=pT (ρ:=ρ) h hx;refine⟨r,h1,h2,fun w'=>?_⟩;rw[h3,h4];simp[Instr.indexAt,run_underlying hu,asIntOf,SV.den,At.den,Instr.sureAddr,hb,hte.sizeOf]
     ·exact h.elim
   ·exact h.elim
  ·exact h.elim
 ·exact h.elim
theorem jJ(sat:Sat n l H nx iv B w ρ a w'){x:Option Operand}{d:Int}{K:Int->Prop}(h:E0 l x d K):∃i,K i∧((x=none∧i=d)∨∃o k,x=some o∧a.eval o= .int k i):=by
 unfold E0 at h;split at h
 ·exact⟨d,h,.inl ⟨rfl,rfl⟩⟩
 ·obtain⟨v,h1,h2,h3⟩:=c9 sat h;clear h3;split at h1
  ·rename_i k i;exact⟨i,h1,.inr ⟨_,k,rfl,h2⟩⟩
  ·exact h1.elim
theorem ku{len cap:Nat}{lo hi:Option Operand}{i j:Int}(hlo:(lo=none∧i=0)∨∃o k,lo=some o∧a.eval o= .int k i)(hhi:(hi=none∧j=len)∨∃o k,hi=some o∧a.eval o= .int k j)
  (h0:0<=i) (h1:i<=j) (h2:j<=cap):(Instr.sliceBounds true len cap (lo.map a.eval) (hi.map a.eval) none).run P w'= .ok (i.toNat,j.toNat,cap) w':=by
 rcases hlo with⟨rfl,rfl⟩|⟨o,k,rfl,ho⟩<;>rcases hhi with⟨rfl,rfl⟩|⟨o',k',rfl,ho'⟩
 ·simp[Instr.sliceBounds]
 ·have h1':0<=j:=by omega
  simp[Instr.sliceBounds,Instr.sliceBound,ho',asIntOf,h1',h2]
 ·have:i<=(len:Int):=h1;simp[Instr.sliceBounds,Instr.sliceBound,ho,asIntOf,h0,this]
 ·have h1':0<=j:=by omega
  have h3:i<=((j.toNat:Nat):Int):=by omega
  have h3':i<=max j 0:=by omega
  simp[Instr.sliceBounds,Instr.sliceBound,ho,ho',asIntOf,h1',h2,h0,h3']
theorem zN{len cap:Nat}{lo hi:Option Operand}{i j:Int}(hlo:(lo=none∧i=0)∨∃o k,lo=some o∧a.eval o= .int k i)(hhi:(hi=none∧j=len)∨∃o k,hi=some o∧a.eval o= .int k j)
  (h0:0<=i) (h1:i<=j) (h2:j<=cap):(Instr.sliceBounds false len cap (lo.map a.eval) (hi.map a.eval) none).run P w'= .ok (i.toNat,j.toNat,cap) w':=by
 rcases hlo with⟨rfl,rfl⟩|⟨o,k,rfl,ho⟩<;>rcases hhi with⟨rfl,rfl⟩|⟨o',k',rfl,ho'⟩
 ·simp[Instr.sliceBounds]
 ·have h1':0<=j:=by omega
  simp[Instr.sliceBounds,Instr.sliceBound,ho',asIntOf,h1',h2]
 ·have:i<=(len:Int):=h1;simp[Instr.sliceBounds,Instr.sliceBound,ho,asIntOf,h0,this]
 ·have h1':0<=j:=by omega
  have h3:i<=((j.toNat:Nat):Int):=by omega
  have h3':i<=max j 0:=by omega
  simp[Instr.sliceBounds,Instr.sliceBound,ho,ho',asIntOf,h1',h2,h0,h3']
theorem zO(hτ:eS P τ)(sat:Sat n l H nx iv B w ρ a w'){t:Nat}{x:SV}{lo hi:Option Operand}{K:SV->Prop}(h:A6 τ H t x l lo hi K)(hx:x.sc nx):
  ∃r,K r∧r.sc nx∧∀w',(Instr.sliceAt t (x.den ρ) (lo.map a.eval) (hi.map a.eval) none).run P w'= .ok (r.den ρ) w':=by
 unfold A6 at h;split at h
 ·rename_i sz ag by_ ze tag ik e al fs hti;have ht:=hτ t _ hti;split at h
  ·rename_i htag;have hu:=ht.i4 (dZ htag);simp only at hu;split at h
   ·rename_i sz' ag' by' ze' tag' ik' e' al' fs' hte
    have hte:=hτ e _ hte;split at h
    ·rename_i id off m c;obtain⟨i,h1,hlo⟩:=jJ sat h;obtain⟨j,h2,hhi⟩:=jJ sat h1;obtain⟨⟨b0,b1,b2⟩,off',n',c',e1,rfl,rfl,h3⟩:=h2;refine⟨_,h3,hx,fun w'=>?_⟩;have hb:=ku (P:=P) (w':=w') hlo hhi b0 b1 b2;subst e1;simp[Instr.sliceAt,Instr.slice,run_underlying hu,SV.den,At.den,hb,hte.sizeOf];by_cases hc:c=i.toNat
     ·rw[aQ hc,aQ (by omega)]
     ·rw[aL hc,aL (by omega)];simp[dA]
    ·rename_i ad m c;obtain⟨i,h1,hlo⟩:=jJ sat h;obtain⟨j,h2,hhi⟩:=jJ sat h1;obtain⟨⟨b0,b1,b2⟩,off',n',c',e1,rfl,rfl,h3⟩:=h2;refine⟨_,h3,trivial,fun w'=>?_⟩;have hb:=ku (P:=P) (w':=w') hlo hhi b0 b1 b2;subst e1;simp[Instr.sliceAt,Instr.slice,run_underlying hu,SV.den,At.den,hb,hte.sizeOf];by_cases hc:c=i.toNat
     ·rw[aQ hc,aQ (by omega)]
     ·rw[aL hc,aL (by omega)]
    ·rename_i id m;split at h
     ·obtain⟨h1,hnil⟩:=qm sat.rel h;obtain⟨j,h2,hhi⟩:=jJ sat h1;obtain⟨⟨b0,b1⟩,m',rfl,h3⟩:=h2;refine⟨_,h3,hx,fun w'=>?_⟩;have hcap:(ρ id).nil=false->m<=(ρ id).cap:=fun hn=>by
       unfold CC at h;split at h
       ·rename_i t' sz' cs' hH;split at h
        ·exact h.elim
        ·rename_i k;rcases sat.rel.vec id t' (k+1) cs' hH with⟨h5,_⟩|⟨_,spare,_,h6,_⟩
         ·rw[hn]at h5;cases h5
         ·have h7:=h.1;have h8:(cs'++spare).length=cs'.length+spare.length:=List.length_append;have h9:m*(k+1)<=(ρ id).cap*(k+1):=by omega
          exact Nat.le_of_mul_le_mul_right h9 (Nat.succ_pos k)
       ·exact h.elim
      cases hn:(ρ id).nil with
      |true=>
       have hm:=hnil hn;subst hm;have hb:=ku (P:=P) (w':=w') (len:=0) (cap:=0) (lo:=none) (i:=0) (.inl ⟨rfl,rfl⟩) hhi (Int.le_refl 0) b0 b1;have hj:j.toNat=0:=by omega
       rw[hj]at hb ⊢;simp only[Option.map_none]at hb;simp[Instr.sliceAt,Instr.slice,run_underlying hu,SV.den,At.den,hn,hb,hte.sizeOf]
      |false=>
       have hc:=hcap hn;have hb:=ku (P:=P) (w':=w') (len:=m) (cap:=(ρ id).cap) (lo:=none) (i:=0) (.inl ⟨rfl,rfl⟩) hhi (Int.le_refl 0) b0 (by omega);simp only[Option.map_none]at hb;simp[Instr.sliceAt,Instr.slice,run_underlying hu,SV.den,At.den,hn,hb,hte.sizeOf,dA]
     ·exact h.elim
    ·exact h.elim
   ·exact h.elim
  ·split at h
   ·rename_i htag;have hu:=ht.i6 (dZ htag);simp only at hu;split at h
    ·rename_i sz' ag' by' ze' tag' ik' e' al' fs' hte
     have hte:=hτ e _ hte;split at h
     ·rename_i id off;split at h
      ·split at h
       ·rename_i h0;refine⟨_,h,hx,fun w'=>?_⟩;have h0:al≠0:=fun e=>by subst e;cases h0
        simp[Instr.sliceAt,Instr.sliceBounds,run_underlying hu,SV.den,At.den,hte.sizeOf,Instr.sureAddr,dA]
       ·exact h.elim
      ·exact h.elim
     ·exact h.elim
    ·exact h.elim
   ·split at h
    ·rename_i htag;have hu:=ht.i3 (dZ htag);split at h
     ·rename_i s;obtain⟨i,h1,hlo⟩:=jJ sat h;obtain⟨j,h2,hhi⟩:=jJ sat h1;obtain⟨⟨b0,b1,b2⟩,h3⟩:=h2;refine⟨_,h3,trivial,fun w'=>?_⟩;have hb:=zN (P:=P) (w':=w') hlo hhi b0 b1 b2;simp[Instr.sliceAt,Instr.slice,run_underlying hu,SV.den,At.den,hb]
     ·exact h.elim
    ·exact h.elim
 ·exact h.elim
end
section
variable{P:Program}{τ:kI}{B n nx:Nat}{l:Env}{H:Hp}{iv:Iv}{w w':World}{ρ:Nat->dN}{a:Act}
theorem zP(z:Value)(c:Nat):(madeCells #[z] c)=(List.replicate c z).toArray:=by
 unfold madeCells;apply Array.ext';simp[List.map_const',Nat.mod_one]
theorem nP(zs:List Value)(c:Nat):(madeCells zs.toArray (c*zs.length))=((List.replicate c zs).flatten).toArray:=by
 unfold madeCells;apply Array.ext';simp only[Array.toList_map,Array.toList_range,List.size_toArray]
 induction c with
 |zero=>simp
 |succ c ih=>
  rw[Nat.succ_mul,List.range_add,List.map_append,ih,List.replicate_succ',List.flatten_append];simp only[List.flatten_cons,List.flatten_nil,List.append_nil,List.map_map]
  congr 1;apply List.ext_getElem
  ·simp
  ·intro i h1 h2;simp at h1;simp[bD h1,h1]
theorem Aa(hτ:eS P τ)(sat:Sat n l H nx iv B w ρ a w'){t:Nat}{x y:SV}{K:SV->Hp->Nat->Prop}(h:B2 τ t x y H nx K):
  ∃r H' nx' ρ' w2,K r H' nx'∧Rel H' nx' iv B w ρ' w2∧r.sc nx'∧nx<=nx'∧(∀id,id<nx->ρ id=ρ' id)∧(Instr.makeSlice t (x.den ρ) (y.den ρ)).run P w'= .ok (r.den ρ') w2:=by
 unfold B2 at h;split at h
 ·rename_i k1 a1 k2 b1;split at h
  ·rename_i sz ag by_ ze tag ik e al fs hti;have ht:=hτ t _ hti;split at h
   ·rename_i htag;have hu:=ht.i4 (dZ htag);simp only at hu;split at h
    ·rename_i sz' ag' by' ze' tag' ik' e' al' fs' hte
     have hte:=hτ e _ hte;obtain⟨inf,z,hi,hsz,hby,hz,hzc⟩:=hte.info;simp only at hsz hby hzc;obtain⟨m,c,rfl,rfl,hmc,hbytes,h63,h⟩:=h;have hb':(inf.bytes:Int)*(c:Int)<=281474976710656:=by
      rw[hby];have hb2:((by'*c:Nat):Int)<=281474976710656:=by omega
      rwa [Int.natCast_mul]at hb2
     have hrun:=run_make (P:=P) w' t e inf z hu hi hz k1 k2 (m:Int) (c:Int) (by omega) (by omega) hb' (by omega);simp only[aB]at hrun;have fin:∀cs:List Value,cs.toArray=madeCells z.cells (c*inf.size)->wC (.arr e cs) H nx (fun H' nx'=>K (.o (.s nx 0 m c)) H' nx')->
       ∃r H' nx' ρ' w2,K r H' nx'∧Rel H' nx' iv B w ρ' w2∧r.sc nx'∧nx<=nx'∧(∀id,id<nx->ρ id=ρ' id)∧(Instr.makeSlice t (.int k1 m) (.int k2 c)).run P w'= .ok (r.den ρ') w2:=by
      intro cs hcs hK;refine⟨_,_,_,pJ ρ nx ⟨w'.heap.size,0,false⟩,w'.alloc (.cells cs.toArray e),hK,?_,?_,by omega,fL,?_⟩
      ·refine sat.rel.push (.arr e cs) _ rfl rfl rfl (by simp) (fun k hk=>heap_alloc_old _ _ hk) (fun _=>⟨aI _,by simp⟩) ⟨rfl,heap_alloc_new _ _⟩ trivial
      ·simp[SV.sc,At.sc]
      ·rw[hrun,<-hcs];simp[SV.den,At.den]
     have hzl:=hte.Bx;simp only at hzl;have hzarr:z.cells=ze'.toArray:=by apply Array.ext';simpa using hzc
     split at h
     ·rename_i z0;refine fin _ ?_ h;have:inf.size=1:=by rw[hsz,<-hzl];rfl
      rw[this,aR,hzarr,zP]
     ·refine fin _ ?_ h;rw[hsz,<-hzl,hzarr];rcases bG ze'.length with h0|h0
      ·have:ze'=[]:=List.eq_nil_of_length_eq_zero h0;subst this;simp[madeCells]
      ·rw[nP]
    ·exact h.elim
   ·exact h.elim
  ·exact h.elim
 ·exact h.elim
theorem Ab(sat:Sat n l H nx iv B w ρ a w'){size:Nat}{x:SV}{K:Nat->List Value->Prop}(hpos:0<size)(h:Cx B H nx iv w size x K):
  ∃m c ad news,K m news∧x.den ρ= .slice ad m c∧news.length=m*size∧(∀u∈news,u.oneCell'=true)∧
   ((ad=none∧m=0)∨∃ad',ad=some ad'∧∀j u,news[j]? =some u->w'.cell? (ad'.add j)=some u):=by
 have rel:=sat.rel;unfold Cx at h;split at h
 ·rename_i id off m c;split at h
  ·rename_i bt cs hH;obtain⟨h1,hd⟩:=km h;obtain⟨h2,ht⟩:=ko h1;obtain⟨vs,h3,hvs,hv1⟩:=jF h2;refine⟨m,c,_,vs,h3,rfl,?_,hv1,.inr ⟨_,rfl,fun j u hu=>?_⟩⟩
   ·have:=congrArg List.length hvs;simp at this ht;omega
   ·rw[dA,cell_of (rel.box id bt cs hH)];have e:(vs.map At.v)[j]? =some (.v u):=by simp[hu]
    rw[<-hvs]at e;simp only[List.getElem?_take,List.getElem?_drop]at e;split at e
    ·simp[e,At.den]
    ·simp at e
  ·rename_i bt cs hH;obtain⟨vs,h1,h2,h3,h4⟩:=h;refine⟨m,c,_,vs,h4,rfl,h2,h3,.inr ⟨_,rfl,fun j u hu=>?_⟩⟩;rw[dA,cell_of (rel.arr id bt cs hH)];rw[<-h1]at hu;simp only[List.getElem?_take,List.getElem?_drop]at hu;split at hu
   ·exact hu
   ·simp at hu
  ·exact h.elim
 ·rename_i ad m c;obtain⟨vs,h1,h2,h3,h4⟩:=h;refine⟨m,c,ad,vs,h4,rfl,h1,h2,?_⟩;rcases bG m with h0|h0
  ·subst h0;have:vs=[]:=List.eq_nil_of_length_eq_zero (by simpa using h1);subst this
   cases ad with
   |none=>exact .inl ⟨rfl,rfl⟩
   |some ad=>exact .inr ⟨ad,rfl,fun j u hu=>by simp at hu⟩
  ·exact .inr (h3 ρ w' rel h0)
 ·rename_i id m;split at h
  ·rename_i bt sz cs hH;obtain⟨h1,h2,h3⟩:=h;rcases rel.vec id bt sz cs hH with⟨hn,rfl⟩|⟨hn,spare,hb,_⟩
   ·have h0:m=0:=by
     have h4:m*size=0:=by simpa using h1.symm
     rcases Nat.mul_eq_zero.1 h4 with h5|h5<;>omega
    subst h0;exact⟨0,0,none,[],h3,by simp[SV.den,At.den,hn],by simp,by simp,.inl ⟨rfl,rfl⟩⟩
   ·refine⟨m,(ρ id).cap,_,cs,h3,by simp only[SV.den,At.den,hn];rfl,h1,h2,.inr ⟨_,rfl,fun j u hu=>?_⟩⟩;rw[dA,cell_of hb,aP,aJ (aE.1 hu).1];exact hu
  ·exact h.elim
 ·exact h.elim
theorem jI(w:World)(base:Nat)(t ty e:TypeId)(i:TypeInfo)(size:Nat)(ht:P.underlying t=some (.slice e))(hi:P.info? e=some i)
  (v:Value) (m:Nat) (xs:List Value) (hown:w.ownsRow base e size v m xs) (c:Nat):(Builtin.append_ #[t,t] ty #[v,.slice none 0 c]).run P w= .ok v w:=by
 rcases hown.2 with⟨rfl,rfl⟩|⟨g,cap,cur,rfl,_,_,hnc,_⟩
 ·simp[Builtin.append_,run_underlying ht,sizeOf,typeInfo,hi,Builtin.lenOf,Builtin.firstCells]
 ·simp[Builtin.append_,run_underlying ht,sizeOf,typeInfo,hi,Builtin.lenOf,Builtin.firstCells,hnc,storeCells]
theorem mM{w:World}{e size m:Nat}{v:Value}{xs:List Value}{base:Nat}(h:w.ownsRow base e size v m xs):
  ∃val:dN,(At.w 0 m).den (fun _=>val)=v∧(cN.vec e size xs).fits (fun _=>val) val w∧(val.nil=false->v.ownBlock=some val.g∧val.g<w.heap.size)∧(val.nil=true->v.ownBlock=none):=by
 rcases h.2 with⟨rfl,rfl⟩|⟨g,cap,cur,rfl,_,hb,hnc,hcap,hcur,htake⟩
 ·have:xs=[]:=List.eq_nil_of_length_eq_zero (by simpa using h.1);exact⟨⟨0,0,true⟩,rfl,.inl ⟨rfl,this⟩,(fun h=>by cases h),fun _=>rfl⟩
 ·refine⟨⟨g,cap,false⟩,rfl,.inr ⟨rfl,cur.toList.drop (m*size),?_,?_,hcap⟩,fun _=>⟨rfl,(aY.1 hb).1⟩,(fun h=>by cases h)⟩
  ·rw[<-htake,List.take_append_drop];simpa using hb
  ·rw[<-htake,List.take_append_drop];simpa using hcur
theorem DD(rel:Rel H nx iv B w ρ w'){id m e sz:Nat}{cs:List Value}(hH:cT H id=some (.vec e sz cs))(hl:cs.length=m*sz)(hpos:0<sz):
  w'.ownsRow B e sz ((At.w id m).den ρ) m cs:=by
 rcases rel.vec id e sz cs hH with⟨hn,rfl⟩|⟨hn,spare,hb,hsl,hcap⟩
 ·have h0:m=0:=by
   have h4:m*sz=0:=by simpa using hl.symm
   rcases Nat.mul_eq_zero.1 h4 with h5|h5<;>omega
  subst h0;simp only[At.den,hn]
  exact World.ownsRow_nil _ _ _ _
 ·refine⟨hl,.inr ⟨(ρ id).g,(ρ id).cap,_,by simp only[At.den,hn],(rel.low id _ hH hn).1,hb,?_,hcap,by simpa using hsl,by simp[<-hl]⟩⟩;have h1:m*sz<=(ρ id).cap*sz:=by rw[<-hsl,<-hl];simp
  exact Nat.le_of_mul_le_mul_right h1 hpos
theorem pQ(hτ:eS P τ)(sat:Sat n l H nx iv B w ρ a w'){t ty:Nat}{x y:SV}{K:SV->Hp->Nat->Prop}(h:tR τ B t x y H nx iv w K):
  ∃r H' nx' ρ' w2,K r H' nx'∧Rel H' nx' iv B w ρ' w2∧r.sc nx'∧nx<=nx'∧(∀id,id<nx->ρ id=ρ' id)∧(Builtin.append_ #[t,t] ty #[x.den ρ,y.den ρ]).run P w'= .ok (r.den ρ') w2:=by
 have rel:=sat.rel;unfold tR at h;split at h
 ·exact h.elim
 rename_i sz ag by_ ze tag ik e al fs hti;have ht:=hτ t _ hti;split at h
 ·rename_i htag;have hu:=ht.i4 (dZ htag);simp only at hu;split at h
  ·rename_i sz' ag' by' ze' tag' ik' e' al' fs' hte
   have hte:=hτ e _ hte;split at h
   ·exact h.elim
   ·rename_i z0 zr;obtain⟨inf,z,hi,hsz,hby,hz,hzc⟩:=hte.info;have hzl:=hte.Bx;simp only at hsz hby hzc hzl;have hpos:0<sz':=by rw[<-hzl];simp
    have hzs:z.cells.size=sz':=by rw[<-hzl,<-hzc];simp
    have h0:=Ab sat hpos h;clear h;obtain⟨m,c,ad,news,h,hy,hnl,hn1,hsrc⟩:=h0;have happ:∀(v:Value) (k:Nat) (xs:List Value),w'.ownsRow B e sz' v k xs->(k+m)*by'<=140737488355328->k+m<=maxLen->
      ∃v' w2,(Builtin.append_ #[t,t] ty #[v,y.den ρ]).run P w'= .ok v' w2∧w2.ownsRow B e sz' v' (k+m) (xs++news)∧w'.grownBy w2 v.ownBlock∧(v'.ownBlock=v.ownBlock∨v'.ownBlock=some w'.heap.size):=by
     intro v k xs hown hb hml;rw[hy];rcases hsrc with⟨rfl,rfl⟩|⟨ad',rfl,hcells⟩
     ·have:news=[]:=List.eq_nil_of_length_eq_zero (by simpa using hnl);subst this;exact⟨v,w',jI w' B t ty e inf sz' hu hi v k xs hown c,by simpa using hown,⟨rfl,rfl,rfl,aI _,fun _ _ _=>rfl⟩,.inl rfl⟩
     ·obtain⟨v',w2,h1,h2,h3,_,h5⟩:=run_append_own_at (P:=P) w' B t ty e inf z sz' by' hu hi hz hsz hby hzs hpos v k xs hown ad' m c news hnl hcells hn1 hml hb (by have:=rel.base;have:=rel.size;omega)
      exact⟨v',w2,h1,h2,h3,h5⟩
    split at h
    ·obtain⟨hb,hml,hK⟩:=h;obtain⟨v',w2,h1,h2,h3,h5⟩:=happ (.slice none 0 0) 0 [] (World.ownsRow_nil _ _ _ _) (by simpa using hb) (by simpa using hml);simp only[aP,List.nil_append]at h2;obtain⟨val,hv1,hv2,hv3,hv4⟩:=mM h2;refine⟨_,_,_,pJ ρ nx val,w2,hK,?_,by simp[SV.sc,At.sc],by omega,fL,?_⟩
     ·refine rel.push (.vec e sz' news) val h3.os h3.tape h3.output h3.size (fun k hk=>h3.block k hk (by simp[Value.ownBlock])) (fun hn=>?_) (by simpa [cN.fits]using hv2) trivial;have:=hv3 hn;rcases h5 with h6|h6
      ·rw[this.1]at h6;simp[Value.ownBlock]at h6
      ·rw[this.1]at h6;injection h6 with h6;exact⟨by omega,this.2⟩
     ·rw[show SV.den ρ (.o (.v (.slice none 0 0)))= .slice none 0 0 from rfl,h1,<-hv1];simp[SV.den,At.den]
    ·rename_i id k;split at h
     ·rename_i e1 sz1 cs hH;split at h
      ·rename_i he1;have he1:=dZ he1;subst he1;split at h
       ·rename_i hs1;have hs1:=dZ hs1;subst hs1;obtain⟨hl,hb,hml,h⟩:=h;obtain⟨H1,hK,hH1,_⟩:=o6 h;obtain⟨v',w2,h1,h2,h3,h5⟩:=happ _ k cs (DD rel hH hl hpos) hb hml;obtain⟨val,hv1,hv2,hv3,hv4⟩:=mM h2;have hob:(ρ id).nil=false->((At.w id k).den ρ).ownBlock=some (ρ id).g:=fun hn=>by simp[At.den,hn,Value.ownBlock]
        have hob':(ρ id).nil=true->((At.w id k).den ρ).ownBlock=none:=fun hn=>by simp[At.den,hn,Value.ownBlock]
        refine⟨_,_,_,pJ ρ nx val,w2,hK,?_,by simp[SV.sc,At.sc],by omega,fL,?_⟩
        ·refine rel.DB hH (by simp) hH1 (.vec e1 sz1 (cs++news)) val h3.os h3.tape h3.output h3.size (fun j hj hne=>?_) (fun hn=>?_) (by simpa [cN.fits]using hv2) trivial
         ·refine h3.block j hj fun e=>?_
          cases hnil:(ρ id).nil
          ·rw[hob hnil]at e;injection e with e;exact hne hnil e
          ·rw[hob' hnil]at e;cases e
         ·have:=hv3 hn;rcases h5 with h6|h6
          ·rw[this.1]at h6
           cases hnil:(ρ id).nil
           ·rw[hob hnil]at h6;injection h6 with h6;exact .inr ⟨rfl,h6⟩
           ·rw[hob' hnil]at h6;cases h6
          ·rw[this.1]at h6;injection h6 with h6;exact .inl ⟨by omega,this.2⟩
        ·rw[show SV.den ρ (.o (.w id k))=(At.w id k).den ρ from rfl,h1,<-hv1];simp[SV.den,At.den]
       ·exact h.elim
      ·exact h.elim
     ·exact h.elim
    ·rename_i id k c0;split at h
     ·rename_i hkc;have hkc:=dZ hkc;subst hkc;split at h
      ·rename_i e1 cs0 hH;split at h
       ·rename_i he1;have he1:=dZ he1;subst he1;obtain⟨cs,⟨hl,hb,hml,h9⟩,rfl,_⟩:=jF h;obtain⟨H1,hK,hH1,_⟩:=o6 h9;have hnil:(ρ id).nil=false:=rel.nn id _ hH (by intros;simp) (by simp);have hblk:=rel.box id _ _ hH;rw[eU]at hblk;have hown:w'.ownsRow B e1 sz' ((At.s id 0 k k).den ρ) k cs:=by
         refine⟨hl,.inr ⟨(ρ id).g,k,_,by simp only[At.den],(rel.low id _ hH hnil).1,hblk,aI _,by omega,by simp[hl],by simp[<-hl]⟩⟩
        obtain⟨v',w2,h1,h2,h3,h5⟩:=happ _ k cs hown hb hml;obtain⟨val,hv1,hv2,hv3,hv4⟩:=mM h2;have hob:((At.s id 0 k k).den ρ).ownBlock=some (ρ id).g:=by simp[At.den,Value.ownBlock]
        refine⟨_,_,_,pJ ρ nx val,w2,hK,?_,by simp[SV.sc,At.sc],by omega,fL,?_⟩
        ·refine rel.DB hH (by simp) hH1 (.vec e1 sz' (cs++news)) val h3.os h3.tape h3.output h3.size (fun j hj hne=>?_) (fun hn=>?_) (by simpa [cN.fits]using hv2) trivial
         ·refine h3.block j hj fun e=>?_;rw[hob]at e;injection e with e;exact hne hnil e
         ·have:=hv3 hn;rcases h5 with h6|h6
          ·rw[this.1]at h6;rw[hob]at h6;injection h6 with h6;exact .inr ⟨hnil,h6⟩
          ·rw[this.1]at h6;injection h6 with h6;exact .inl ⟨by omega,this.2⟩
        ·rw[show SV.den ρ (.o (.s id 0 k k))=(At.s id 0 k k).den ρ from rfl,h1,<-hv1];simp[SV.den,At.den]
       ·exact h.elim
      ·exact h.elim
     ·exact h.elim
    ·exact h.elim
  ·exact h.elim
 ·exact h.elim
end
end Go.Sx
