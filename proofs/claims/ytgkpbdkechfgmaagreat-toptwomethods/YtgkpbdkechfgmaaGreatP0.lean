/- Texts Sx1 to Sx6: lemmas, each with its conditions. -/
import Derived.WalkKit
import Derived.Maps.AppendAt
import Derived.Laws.IdiomCopy
import Derived.Great.BuildSlice
namespace Go
variable{i j m n:Nat}
theorem aA.{u_1}{α:Type u_1}{l:List α}(h:i<l.length):l[i]? =some l[i]:=List.getElem?_eq_getElem h
theorem aB.{u_1}{α:Type u_1}(y:α){a:α}{l:List α}:a∈l->a∈y::l:=List.mem_cons_of_mem y
theorem aC.{u_1}{α:Type u_1}{l:List α}{a:α}(e:l[i]? =some a):a∈l:=List.mem_of_getElem? e
theorem aD.{u_1}{α:Type u_1}{a:α}{l:List α}:l[i]? =some a↔∃h:i<l.length,l[i]=a:=List.getElem?_eq_some_iff
theorem aE(n:Nat):((n:Int)).toNat=n:=Int.toNat_natCast n
theorem aF.{u_1}{α:Type u_1}{a:α}{l:List α}:a∈a::l:=List.mem_cons_self
theorem aG{p:Prop} [inst:Decidable p]:decide p=false->¬p:=of_decide_eq_false
theorem aH.{u}{c:Prop}{h:Decidable c}(hnc:¬c){α:Sort u}{t e:α}:(if c then t else e)=e:=if_neg hnc
theorem aI.{u_1}{α:Type u_1}{l₁ l₂:List α}(R:i<l₁.length):(l₁++l₂)[i]? =l₁[i]? :=List.getElem?_append_left R
theorem aJ.{u_1,u_2}{α:Type u_1}{β:Type u_2}{as:List α}(f:α->β):(List.map f as).length=as.length:=List.length_map f
theorem aK{p:Prop} [inst:Decidable p]:decide p=true->p:=of_decide_eq_true
theorem aL.{u_1,u_2}{α:Type u_1}{β:Type u_2}{f:α->β}{l:List α}:(List.map f l)[i]? =Option.map f l[i]? :=List.getElem?_map
theorem aM.{u_1}{α:Type u_1}{l₁ l₂:List α}:l₁.length<=i->(l₁++l₂)[i]? =l₂[i-l₁.length]? :=List.getElem?_append_right
theorem aN.{u_1}{α:Type u_1}{a:α}{l:List α}(h:a∈l):∃i:Nat,l[i]? =some a:=List.getElem?_of_mem h
theorem aO(n m:Nat):n<m\/n≥m:=Nat.lt_or_ge n m
theorem aP.{u_1}{α:Type u_1}{l:List α}{a:α}(h:i<l.length):(l.set i a)[i]? =some a:=List.getElem?_set_self h
theorem aQ(n:Nat):0<=n:=Nat.zero_le n
theorem aR(h₁:n<=m)(h₂:m<=n):n=m:=Nat.le_antisymm h₁ h₂
theorem aS.{u_1}{α:Type u_1}{l:List α}(h:i≠j){a:α}:(l.set i a)[j]? =l[j]? :=List.getElem?_set_ne h
theorem aT(n:Nat):0+n=n:=Nat.zero_add n
theorem aU.{u_1,u_2}{α:Type u_1}{β:Type u_2}{b:β}{f:α->β}{l:List α}:b∈List.map f l↔∃a,a∈l/\f a=b:=List.mem_map
theorem aV(n:Nat):n*1=n:=Nat.mul_one n
theorem aW{k:Nat}:n<=m->m<=k->n<=k:=Nat.le_trans
theorem aX.{u_1}{α:Type u_1}{l:List α}:(List.take i l).length=min i l.length:=List.length_take
theorem aY.{u_1}{α:Type u_1}{l:List α}(h:n<l.length):l[n]∈l:=List.getElem_mem h
theorem aZ.{u_1}{α:Type u_1}{b:α}{xs:Array α}:xs[i]? =some b↔∃h:i<xs.size,xs[i]=b:=Array.getElem?_eq_some_iff
theorem ah(a:Rat):a*0=0:=Rat.mul_zero a
theorem ai.{u_1}{α:Type u_1}{xs:Array α}{d:α}:xs.getD i d=xs[i]?.getD d:=Array.getD_eq_getD_getElem?
theorem av(a b:Bool):((a&&b)=true)=(a=true/\b=true):=Bool.and_eq_true a b
theorem bA.{u_1}{α:Type u_1}{l:List α}:List.take l.length l=l:=List.take_length
theorem bB.{u_1}{α:Type u_1}{a:α}{s t:List α}:a∈s++t↔a∈s\/a∈t:=List.mem_append
theorem bC.{u_1}{α:Type u_1}{l:List α}{a b:α}:a∈l.set i b->a∈l\/a=b:=List.mem_or_eq_of_mem_set
theorem bD.{u_1}{α:Type u_1}{a b:α}:a∈[b]↔a=b:=List.mem_singleton
theorem bE(a:Rat):0*a=0:=Rat.zero_mul a
theorem bF.{u_1}{α:Type u_1}{l₁ l₂:List α}(h:∀(i:Nat),l₁[i]? =l₂[i]?):l₁=l₂:=List.ext_getElem? h
theorem bG.{u}{α:Type u}{xs:Array α}:xs.toList[i]? =xs[i]? :=Array.getElem?_toList
theorem bH.{u}{α:Type u}{a:α}:(List.replicate n a).length=n:=List.length_replicate
theorem bI.{u_1}{α:Type u_1}{a b:α}(h:b∈List.replicate n a):b=a:=List.eq_of_mem_replicate h
theorem bJ(n:Nat):n-n=0:=Nat.sub_self n
theorem bK(n:Nat):n=0\/n>0:=Nat.eq_zero_or_pos n
theorem bL.{u}{α:Type u}{as:List α}{a:α}:(as.set i a).length=as.length:=List.length_set
theorem bM{p:Prop} [Decidable p]:¬p->decide p=false:=decide_eq_false
theorem bN{a b:Nat}(h:a<b):a % b=a:=Nat.mod_eq_of_lt h
theorem bO:List.range n.succ=List.range n++[n]:=List.range_succ
theorem bP:n.beq m=true->n=m:=Nat.eq_of_beq_eq_true
theorem bQ(n:Nat):n<n.succ:=Nat.lt_succ_self n
theorem bS.{u_1}{α:Type u_1}{l:List α}(h:i<j):(List.take j l)[i]? =l[i]? :=List.getElem?_take_of_lt h
theorem bT(n m:Nat):n*m=m*n:=Nat.mul_comm n m
theorem bU(a:Rat):a+0=a:=Rat.add_zero a
theorem bV(n m k:Nat):n*(m+k)=n*m+n*k:=Nat.mul_add n m k
theorem bW.{u_1}{α:Type u_1}{xs:Array α}{a:α}:(xs.setIfInBounds i a).size=xs.size:=Array.size_setIfInBounds
theorem bX{p:Prop} [inst:Decidable p]:p->decide p=true:=decide_eq_true
theorem bY(k:Nat)(h:n<=m):k*n<=k*m:=Nat.mul_le_mul_left k h
theorem bZ.{u}{α:Type u}(as bs W:List α):as++bs++W=as++(bs++W):=List.append_assoc as bs W
theorem bc.{u_1,u_2}{α:Type u_1}{β:Type u_2}(a:α)(f:α->β):Option.map f (some a)=some (f a):=Option.map_some a f
theorem bg(n m k:Nat):n*m*k=n*(m*k):=Nat.mul_assoc n m k
theorem bh{a:Int}(h:a<0):a.sign= -1:=Int.sign_eq_neg_one_of_neg h
theorem bj.{u_1}{α:Type u_1}{xs:List α}:(List.drop i xs)[j]? =xs[i+j]? :=List.getElem?_drop
theorem bm(h:i<n):(List.range n)[i]? =some i:=List.getElem?_range h
theorem bo{a:Int}:a.sign=0↔a=0:=Int.sign_eq_zero_iff_zero
theorem bp(a b:Rat):a / b=a*b⁻¹:=Rat.div_def a b
theorem bq{a:Int}(h:0<a):a.sign=1:=Int.sign_eq_one_of_pos h
theorem bu(a b:Rat):a*b=b*a:=Rat.mul_comm a b
theorem bw(m:Nat)(npos:0<n):0<m.gcd n:=Nat.gcd_pos_of_pos_right m npos
theorem bz(w:Nat):0<2^w:=Nat.two_pow_pos w
theorem cA{a b c:Nat}(h:a*c<=b*c)(hc:0<c):a<=b:=Nat.le_of_mul_le_mul_right h hc
theorem cB(a:Rat):1*a=a:=Rat.one_mul a
theorem cC(a b:Nat):a<b\/a=b\/b<a:=Nat.lt_trichotomy a b
theorem cD(x:Nat){y:Nat}(hy:0<y):x % y<y:=Nat.mod_lt x hy
theorem cF(n:Nat):n+0=n:=Nat.add_zero n
theorem cG(a:Int):(-a).natAbs=a.natAbs:=Int.natAbs_neg a
end Go
namespace Go.Sx
open Go
variable{next:Act->World->Prop}{ad:Addr}{cells:Array Value}{b:Bool}{Q:Exit->Act->World->Prop}{Fn:Int->Prop}{fs:List (Nat×Nat)}{rest:List (Nat×Value)}{W new old xs:List Value}{B id m n nx off size:Nat}{place:Nat->Option (Nat×Nat)}{A lo:Option Operand}{F9:Prop}{J V:World}
inductive At where
 |v (x:Value)
 |p (id off:Nat)
 |s (id off len cap:Nat)
 |w (id len:Nat)
 |fn (f:Nat) (caps:List Nat)
inductive SV where
 |o (x:At)
 |a (W:List At)
structure dq where
 g:Nat
 cap:Nat
 nil:Bool
def At.den(O:Nat->dq):At->Value
 | .v x=>x
 | .p id off=>.pointer (some ⟨(O id).g,off,none⟩)
 | .s id off len cap=>.slice (some ⟨(O id).g,off,none⟩) len cap
 | .w id len=>match(O id).nil with
  |true=>.slice none 0 0
  |false=>.slice (some ⟨(O id).g,0,none⟩) len (O id).cap
 | .fn f caps=>.func (.func f) #[] (caps.map fun id=>Value.pointer (some ⟨(O id).g,0,none⟩)).toArray
def SV.den(O:Nat->dq):SV->Value
 | .o x=>x.den O
 | .a W=>.agg (W.map (At.den O)).toArray
def At.sc(n:Nat):At->Prop
 | .v _=>True
 | .p id _=>id<n
 | .s id _ _ _=>id<n
 | .w id _=>id<n
 | .fn _ caps=>∀id∈caps,id<n
def SV.sc(n:Nat):SV->Prop
 | .o x=>x.sc n
 | .a W=>∀x∈W,At.sc n x
inductive jz where
 |box (t:Nat) (W:List At)
 |arr (t:Nat) (W:List Value)
 |vec (t:Nat) (size:Nat) (W:List Value)
 |dead
abbrev Env:=List (Nat×SV)
abbrev Hp:=List (Nat×jz)
abbrev Iv:=List (Nat×Nat)
def fm:Env->Nat->Option SV
 |[],_=>none
 |(t,v)::r,u=>match Nat.beq t u with
  |true=>some v
  |false=>fm r u
def dG:Hp->Nat->Option jz
 |[],_=>none
 |(t,v)::r,u=>match Nat.beq t u with
  |true=>some v
  |false=>dG r u
def CF:Hp->Nat->(Hp->Prop)->Prop
 |[],_,_=>False
 |(t,v)::r,u,k=>match Nat.beq t u with
  |true=>k ((t,.dead)::r)
  |false=>CF r u (fun r'=>k ((t,v)::r'))
def Gr:Hp->Nat->jz->(Hp->Prop)->Prop
 |[],_,_,_=>False
 |(t,v)::r,u,b,k=>match Nat.beq t u with
  |true=>k ((t,b)::r)
  |false=>Gr r u b (fun r'=>k ((t,v)::r'))
structure TI where
 size:Nat
 agg:Bool
 bytes:Nat
 zero:List Value
 tag:Nat
 ik:IntKind:=.i64
 elem:Nat:=0
 DX:Nat:=0
 fields:List (Nat×Nat):=[]
def ev(l:Env):Operand->Option SV
 | .tmp t=>fm l t
 | .const v=>some (.o (.v v))
 | .global g=>some (.o (.v (.pointer (some ⟨g,0,none⟩))))
 | .func f=>some (.o (.v (.func (.func f) #[] #[])))
def pe(l:Env)(x:Operand)(k:SV->Prop):Prop:=match ev l x with
 |some v=>k v
 |none=>False
def Kg(l:Env):List Operand->(List SV->Prop)->Prop
 |[],k=>k []
 |x::r,k=>match ev l x with
  |some v=>Kg l r (fun vs=>k (v::vs))
  |none=>False
def tR:List At->Nat->(List At->Prop)->Prop
 |l,0,k=>k l
 |[],_+1,_=>False
 |_::t,n+1,k=>tR t n k
def tS:List At->Nat->(List At->Prop)->Prop
 |_,0,k=>k []
 |[],_+1,_=>False
 |x::t,n+1,k=>tS t n (fun r=>k (x::r))
def CG:List At->List At->(List At->Prop)->Prop
 |W,[],k=>k W
 |[],_::_,_=>False
 |_::t,x::r,k=>CG t r (fun t'=>k (x::t'))
def rF:List At->Nat->List At->(List At->Prop)->Prop
 |W,0,new,k=>CG W new k
 |[],_+1,_,_=>False
 |x::t,n+1,new,k=>rF t n new (fun t'=>k (x::t'))
def pf:List Value->(List At->Prop)->Prop
 |[],k=>k []
 |x::r,k=>pf r (fun r'=>k (.v x::r'))
def yv:SV->(List At->Prop)->Prop
 | .a W,k=>k W
 | .o (.v (.agg ⟨l⟩)),k=>pf l k
 | .o (.v (.tuple _)),_=>False
 | .o x,k=>k [x]
def At.one:At->Bool
 | .v (.agg _)=>false
 | .v (.tuple _)=>false
 |_=>true
def IG:List At->Prop->Prop
 |[],k=>k
 |x::r,k=>match x.one with
  |true=>IG r k
  |false=>False
def xx:List At->(List Value->Prop)->Prop
 |[],k=>k []
 | .v x::r,k=>match At.one (.v x)with
  |true=>xx r (fun r'=>k (x::r'))
  |false=>False
 |_::_,_=>False
def dQ(b:Bool)(F9 B:Prop):Prop:=match b with
 |true=>F9
 |false=>B
theorem dQ.t{B:Prop}(h:dQ b F9 B)(e:b=true):F9:=by subst e;exact h
theorem dQ.f{B:Prop}(h:dQ b F9 B)(e:b=false):B:=by subst e;exact h
theorem dQ.mk{B:Prop}(L:b=true->F9)(G:b=false->B):dQ b F9 B:=by
 cases b
 ·exact G rfl
 ·exact L rfl
structure Rel(H:Hp)(nx:Nat)(iv:Iv)(B:Nat)(w:World)(O:Nat->dq)(J:World):Prop where
 os:J.os=w.os
 tape:J.tape=w.tape
 output:J.output=w.output
 size:w.heap.size<=J.heap.size
 base:B<=w.heap.size
 oJ:∀lo A,(lo,A)∈iv->A<=w.heap.size
 keys:∀id b,dG H id=some b->id<nx
 box:∀id t W,dG H id=some (.box t W)->J.heap[(O id).g]? =some (.cells (W.map (At.den O)).toArray t (0,0))
 arr:∀id t W,dG H id=some (.arr t W)->J.heap[(O id).g]? =some (.cells W.toArray t (0,0))
 vec:∀id t size W,dG H id=some (.vec t size W)->((O id).nil=true/\W=[])\/
  ((O id).nil=false/\∃spare:List Value,J.heap[(O id).g]? =some (.cells (W++spare).toArray t (0,0))/\(W++spare).length=(O id).cap*size/\(O id).cap<=maxLen)
 inj:∀id id' b b',dG H id=some b->dG H id'=some b'->b≠ .dead->b'≠ .dead->(O id).nil=false->(O id').nil=false->(O id).g=(O id').g->id=id'
 low:∀id b,dG H id=some b->(O id).nil=false->B<=(O id).g/\(O id).g<J.heap.size
 vP:∀k,k<w.heap.size->(∀id b,dG H id=some b->(O id).nil=false->(O id).g≠k)->J.heap[k]? =w.heap[k]?
 je:∀lo A,(lo,A)∈iv->∀id b,dG H id=some b->(O id).nil=false->¬(lo<=(O id).g/\(O id).g<A)
 Kh:∀id t W,dG H id=some (.box t W)->∀x∈W,At.sc nx x
 nn:∀id b,dG H id=some b->(∀t size W,b≠ .vec t size W)->b≠ .dead->(O id).nil=false
structure Kn(P:Program)(g:Nat):Prop where
 h:∀(args:Array Value) (w:World),(callFunc g args).run P w= .ok (.enter g args) w
structure eI(P:Program)(g:Nat)(args:Array Value)(w:World)(EQ:Ending->World->Prop):Prop where
 e:Kn P g
 c:Calls P g args w EQ
def D3:List At->Nat->Option At
 |[],_=>none
 |x::_,0=>some x
 |_::t,n+1=>D3 t n
def JP:List Value->Nat->Option Value
 |[],_=>none
 |x::_,0=>some x
 |_::t,n+1=>JP t n
def JQ:List (Nat×Nat)->Nat->Option (Nat×Nat)
 |[],_=>none
 |x::_,0=>some x
 |_::t,n+1=>JQ t n
def pn:IntKind->IntKind->Bool
 | .i8,.i8=>true| .i16,.i16=>true| .i32,.i32=>true| .i64,.i64=>true
 | .u8,.u8=>true| .u16,.u16=>true| .u32,.u32=>true| .u64,.u64=>true
 |_,_=>false
abbrev nR:=Nat->Option TI
def JR(op:BinOp)(k:IntKind)(a b:Int)(Fn:Value->Prop):Prop:=
 match op with
 | .add=>∃r,k.wrap (a+b)=r/\Fn (.int k r)
 | .sub=>∃r,k.wrap (a-b)=r/\Fn (.int k r)
 | .mul=>∃r,k.wrap (a*b)=r/\Fn (.int k r)
 | .quo=>b≠0/\∃r,k.wrap (a.tdiv b)=r/\Fn (.int k r)
 | .rem=>b≠0/\∃r,a.tmod b=r/\Fn (.int k r)
 | .and=>∃r,k.wrap ((BitVec.ofInt k.bits a &&& BitVec.ofInt k.bits b).toNat:Int)=r/\Fn (.int k r)
 | .or=>∃r,k.wrap ((BitVec.ofInt k.bits a ||| BitVec.ofInt k.bits b).toNat:Int)=r/\Fn (.int k r)
 | .xor=>∃r,k.wrap ((BitVec.ofInt k.bits a ^^^ BitVec.ofInt k.bits b).toNat:Int)=r/\Fn (.int k r)
 | .shl=>0<=b/\∃r,k.wrap (a*2^(min b.toNat k.bits))=r/\Fn (.int k r)
 | .shr=>0<=b/\∃r,a.fdiv (2^(min b.toNat k.bits))=r/\Fn (.int k r)
 | .eql=>Fn (.bool (a==b))
 | .neq=>Fn (.bool (a != b))
 | .lss=>Fn (.bool (decide (a<b)))
 | .leq=>Fn (.bool (decide (a<=b)))
 | .gtr=>Fn (.bool (decide (a>b)))
 | .geq=>Fn (.bool (decide (a≥b)))
 | .andNot=>∃r,k.wrap ((BitVec.ofInt k.bits a &&& ~~~BitVec.ofInt k.bits b).toNat:Int)=r/\Fn (.int k r)
def aAN(P:Program)(τ:nR)(op:BinOp)(t:Nat)(x y:SV)(Fn:SV->Prop):Prop:=
 match x,y with
 | .o (.v (.int k a)),.o (.v (.int k' b))=>
  match op with
  | .shl=>JR op k a b (fun r=>Fn (.o (.v r)))
  | .shr=>JR op k a b (fun r=>Fn (.o (.v r)))
  |_=>match pn k k' with
   |true=>JR op k a b (fun r=>Fn (.o (.v r)))
   |false=>False
 | .o (.v (.bool a)),.o (.v (.bool b))=>
  match τ t with
  |some ti=>match Nat.beq ti.tag 2 with
   |true=>match op with
    | .eql=>Fn (.o (.v (.bool (a==b))))
    | .neq=>Fn (.o (.v (.bool (!(a==b)))))
    |_=>False
   |false=>False
  |none=>False
 | .o (.v (.string a)),.o (.v (.string b))=>
  match op with
  | .eql=>Fn (.o (.v (.bool (a.data.toList==b.data.toList))))
  | .neq=>Fn (.o (.v (.bool (!(a.data.toList==b.data.toList)))))
  | .add=>a.size+b.size<=maxLen/\Fn (.o (.v (.string (a++b))))
  |_=>False
 |_,_=>∃b:Bool,(∀(O:Nat->dq) (w:World) (o1 o2:Operand),(do eqGuard op t o1 o2 (x.den O) (y.den O);binOp op t (x.den O) (y.den O)).run P w= .ok (.bool b) w)/\Fn (.o (.v (.bool b)))
def CL(τ:nR)(B:Nat)(t:Nat)(addr:SV)(H:Hp)(nx:Nat)(iv:Iv)(w:World)(Fn:SV->Prop):Prop:=
 match τ t with
 |none=>False
 |some ⟨sz,ag,_,_,_,_,_,_,_⟩=>
  match addr with
  | .o (.p id off)=>
   match dG H id with
   |some (.box _ W)=>
    match ag with
    |false=>match D3 W off with
     |some x=>Fn (.o x)
     |none=>False
    |true=>tR W off (fun r=>tS r sz (fun l=>Fn (.a l)))
   |some (.arr _ W)=>
    match ag with
    |false=>∃x,W[off]? =some x/\Fn (.o (.v x))
    |true=>∃xs:List Value,(W.drop off).take sz=xs/\xs.length=sz/\pf xs (fun l=>Fn (.a l))
   |some (.vec _ _ W)=>
    match ag with
    |false=>∃x,W[off]? =some x/\Fn (.o (.v x))
    |true=>∃xs:List Value,(W.drop off).take sz=xs/\xs.length=sz/\pf xs (fun l=>Fn (.a l))
   |_=>False
  | .o (.v (.pointer (some ad)))=>
   match ag with
   |false=>∃x,(∀O J,Rel H nx iv B w O J->J.cell? ad=some x)/\Fn (.o (.v x))
   |true=>∃xs:List Value,xs.length=sz/\(∀O J,Rel H nx iv B w O J->∀j x,xs[j]? =some x->J.cell? (ad.add j)=some x)/\pf xs (fun l=>Fn (.a l))
  |_=>False
def setCells(w:World)(a:Addr):List Value->World
 |[]=>w
 |x::r=>setCells (w.setCell a x) (a.add 1) r
def D4(τ:nR)(B:Nat)(t:Nat)(addr x:SV)(H:Hp)(nx:Nat)(iv:Iv)(w:World)(Fn:Hp->World->Prop):Prop:=
 match τ t with
 |none=>False
 |some ⟨sz,_,_,_,_,_,_,_,_⟩=>
  yv x (fun new=>IG new (match Nat.beq new.length sz with
   |false=>False
   |true=>match addr with
    | .o (.p id off)=>
     match dG H id with
     |some (.box bt W)=>rF W off new (fun cs'=>Gr H id (.box bt cs') (fun H'=>Fn H' w))
     |some (.arr bt W)=>xx new (fun nv=>off+sz<=W.length/\∃cs',W.take off++nv++W.drop (off+sz)=cs'/\Gr H id (.arr bt cs') (fun H'=>Fn H' w))
     |some (.vec bt ez W)=>xx new (fun nv=>off+sz<=W.length/\∃cs',W.take off++nv++W.drop (off+sz)=cs'/\Gr H id (.vec bt ez cs') (fun H'=>Fn H' w))
     |_=>False
    | .o (.v (.pointer (some ad)))=>xx new (fun nv=>∀O J,Rel H nx iv B w O J->
      ad.spot=none/\(∀j,j<sz->(J.cell? (ad.add j)).isSome=true/\J.frozen? (ad.add j)=false)/\
      (∀id b,dG H id=some b->(O id).nil=false->(O id).g≠ad.block)/\
      ∀V,V=setCells J ad nv->Fn H V)
    |_=>False))
def B7(b:jz)(H:Hp)(nx:Nat)(Fn:Hp->Nat->Prop):Prop:=Fn ((nx,b)::H) (nx+1)
def po(τ:nR)(fs:List (Nat×Nat))(f:Nat)(k:Nat->Nat->Bool->Prop):Prop:=
 match JQ fs f with
 |some (off,ft)=>match τ ft with
  |some ⟨sz,ag,_,_,_,_,_,_,_⟩=>match Nat.beq sz 0 with
   |true=>False
   |false=>k off sz ag
  |none=>False
 |none=>False
def yf(x:SV)(n:Nat)(Fn:SV->Prop):Prop:=
 match x with
 | .o (.p id off)=>Fn (.o (.p id (off+n)))
 | .o (.v (.pointer (some ad)))=>Fn (.o (.v (.pointer (some (ad.add n)))))
 |_=>False
def vU(l:Env)(place:Nat->(Nat->Nat->Prop)->Prop):List (Nat×Operand)->List At->(List At->Prop)->Prop
 |[],W,k=>k W
 |(i,x)::r,W,k=>place i (fun off size=>pe l x (fun v=>yv v (fun new=>match Nat.beq new.length size with
   |true=>rF W off new (fun cs'=>vU l place r cs' k)
   |false=>False)))
def JS(H:Hp)(id m:Nat)(Fn:Prop):Prop:=
 match dG H id with
 |some (.vec _ sz W)=>match sz with
  |0=>False
  |k+1=>W.length=m*(k+1)/\Fn
 |_=>False
def aAO(τ:nR)(H:Hp)(t:Nat)(x:SV)(Fn:Int->Prop):Prop:=
 match τ t with
 |none=>False
 |some ⟨_,_,_,_,tag,_,_,DX,_⟩=>match Nat.beq tag 4 with
  |true=>match x with
   | .o (.v (.slice _ n _))=>Fn n
   | .o (.s _ _ n _)=>Fn n
   | .o (.w id n)=>JS H id n (Fn n)
   |_=>False
  |false=>match Nat.beq tag 3 with
   |true=>match x with
    | .o (.v (.string b))=>Fn b.size
    |_=>False
   |false=>match Nat.beq tag 6 with
    |true=>Fn DX
    |false=>False
def Gz(τ:nR)(H:Hp)(t:Nat)(x i:SV)(Fn:SV->Prop):Prop:=
 match i with
 | .o (.v (.int _ i))=>match τ t with
  |some ⟨_,_,_,_,tag,_,e,DX,_⟩=>match τ e with
   |some ⟨sz,_,_,_,_,_,_,_,_⟩=>match Nat.beq tag 4 with
    |true=>match x with
     | .o (.s id off n _)=>(0<=i/\i<n)/\Fn (.o (.p id (off+i.toNat*sz)))
     | .o (.w id n)=>JS H id n ((0<=i/\i<n)/\Fn (.o (.p id (i.toNat*sz))))
     | .o (.v (.slice a n _))=>∃ad,a=some ad/\(0<=i/\i<n)/\Fn (.o (.v (.pointer (some (ad.add (i.toNat*sz))))))
     |_=>False
    |false=>match Nat.beq tag 6 with
     |true=>(0<=i/\i<DX)/\yf x (i.toNat*sz) Fn
     |false=>False
   |none=>False
  |none=>False
 |_=>False
def NS(l:Env)(x:Option Operand)(dflt:Int)(Fn:Int->Prop):Prop:=
 match x with
 |none=>Fn dflt
 |some o=>pe l o (fun v=>match v with
  | .o (.v (.int _ n))=>Fn n
  |_=>False)
def HA(τ:nR)(H:Hp)(t:Nat)(x:SV)(l:Env)(lo A:Option Operand)(Fn:SV->Prop):Prop:=
 match τ t with
 |some ⟨_,_,_,_,tag,_,e,al,_⟩=>match Nat.beq tag 4 with
  |true=>match τ e with
   |some ⟨sz,_,_,_,_,_,_,_,_⟩=>match x with
    | .o (.s id off n c)=>NS l lo 0 (fun a=>NS l A n (fun b=>(0<=a/\a<=b/\b<=c)/\∃off' n' c':Nat,(if (c:Int)=a then off else off+a.toNat*sz)=off'/\b.toNat-a.toNat=n'/\c-a.toNat=c'/\Fn (.o (.s id off' n' c'))))
    | .o (.v (.slice ad n c))=>NS l lo 0 (fun a=>NS l A n (fun b=>(0<=a/\a<=b/\b<=c)/\∃ad' n' c',(if (c:Int)=a then ad else ad.map (·.add (a.toNat*sz)))=ad'/\b.toNat-a.toNat=n'/\c-a.toNat=c'/\Fn (.o (.v (.slice ad' n' c')))))
    | .o (.w id n)=>match lo with
     |none=>JS H id n (NS l A n (fun b=>(0<=b/\b<=n)/\∃m:Nat,b.toNat=m/\Fn (.o (.w id m))))
     |some _=>False
    |_=>False
   |none=>False
  |false=>match Nat.beq tag 6 with
   |true=>match τ e with
    |some ⟨_,_,_,_,_,_,_,_,_⟩=>match x with
     | .o (.p id off)=>match lo,A with
      |none,none=>match Nat.beq al 0 with
       |false=>Fn (.o (.s id off al al))
       |true=>False
      |_,_=>False
     |_=>False
    |none=>False
   |false=>match Nat.beq tag 3 with
    |true=>match x with
     | .o (.v (.string s))=>NS l lo 0 (fun a=>NS l A s.size (fun b=>(0<=a/\a<=b/\b<=s.size)/\Fn (.o (.v (.string (s.extract a.toNat b.toNat))))))
     |_=>False
    |false=>False
 |none=>False
def IL(τ:nR)(t:Nat)(x y:SV)(H:Hp)(nx:Nat)(Fn:SV->Hp->Nat->Prop):Prop:=
 match x,y with
 | .o (.v (.int _ a)),.o (.v (.int _ b))=>match τ t with
  |some ⟨_,_,_,_,tag,_,e,_,_⟩=>match Nat.beq tag 4 with
   |true=>match τ e with
    |some ⟨_,_,by_,ze,_,_,_,_,_⟩=>∃n c:Nat,a=n/\b=c/\n<=c/\by_*c<=281474976710656/\c<=9223372036854775807/\
      match ze with
      |[z]=>B7 (.arr e (List.replicate c z)) H nx (fun H' On=>Fn (.o (.s nx 0 n c)) H' On)
      |zs=>B7 (.arr e (List.replicate c zs).flatten) H nx (fun H' On=>Fn (.o (.s nx 0 n c)) H' On)
    |none=>False
   |false=>False
  |none=>False
 |_,_=>False
def Kq(B:Nat)(H:Hp)(nx:Nat)(iv:Iv)(w:World)(size:Nat)(x:SV)(Fn:Nat->List Value->Prop):Prop:=
 match x with
 | .o (.s id off n _)=>match dG H id with
  |some (.box _ W)=>tR W off (fun r=>tS r (n*size) (fun l=>xx l (fun vs=>Fn n vs)))
  |some (.arr _ W)=>∃vs:List Value,(W.drop off).take (n*size)=vs/\vs.length=n*size/\(∀x∈vs,x.oneCell'=true)/\Fn n vs
  |_=>False
 | .o (.v (.slice a n _))=>∃vs:List Value,vs.length=n*size/\(∀x∈vs,x.oneCell'=true)/\
   (∀O J,Rel H nx iv B w O J->0<n->∃ad,a=some ad/\∀j u,vs[j]? =some u->J.cell? (ad.add j)=some u)/\Fn n vs
 | .o (.w id n)=>match dG H id with
  |some (.vec _ _ W)=>W.length=n*size/\(∀x∈W,x.oneCell'=true)/\Fn n W
  |_=>False
 |_=>False
def yg(τ:nR)(B:Nat)(t:Nat)(x y:SV)(H:Hp)(nx:Nat)(iv:Iv)(w:World)(Fn:SV->Hp->Nat->Prop):Prop:=
 match τ t with
 |none=>False
 |some ⟨_,_,_,_,tag,_,e,_,_⟩=>match Nat.beq tag 4 with
  |true=>match τ e with
   |some ⟨sz,_,by_,ze,_,_,_,_,_⟩=>match ze with
    |[]=>False
    |_::_=>Kq B H nx iv w sz y (fun m news=>
     match x with
     | .o (.v (.slice none 0 0))=>m*by_<=140737488355328/\m<=maxLen/\B7 (.vec e sz news) H nx (fun H' On=>Fn (.o (.w nx m)) H' On)
     | .o (.w id n)=>match dG H id with
      |some (.vec e' sz' W)=>match Nat.beq e' e with
       |true=>match Nat.beq sz' sz with
        |true=>W.length=n*sz/\(n+m)*by_<=140737488355328/\n+m<=maxLen/\CF H id (fun H1=>B7 (.vec e sz (W++news)) H1 nx (fun H' On=>Fn (.o (.w nx (n+m))) H' On))
        |false=>False
       |false=>False
      |_=>False
     | .o (.s id 0 n c)=>match Nat.beq n c with
      |true=>match dG H id with
       |some (.box e' W)=>match Nat.beq e' e with
        |true=>xx W (fun vs=>vs.length=n*sz/\(n+m)*by_<=140737488355328/\n+m<=maxLen/\CF H id (fun H1=>B7 (.vec e sz (vs++news)) H1 nx (fun H' On=>Fn (.o (.w nx (n+m))) H' On)))
        |false=>False
       |_=>False
      |false=>False
     |_=>False)
   |none=>False
  |false=>False
def oK(O:Nat->dq)(xs:List SV):Array Value:=(xs.map (SV.den O)).toArray
abbrev Ext(w V:World):Prop:=RowKit.Below w.heap.size w V
structure FE(P:Program)(B:Nat)(g:Nat)(args:(Nat->dq)->Array Value)(H:Hp)(nx:Nat)(iv:Iv)(w:World)(Fn:SV->Hp->Iv->World->Prop):Prop where
 h:∀O J,Rel H nx iv B w O J->eI P g (args O) J (fun e V=>∃v H' K,e= .returned v/\Rel H' nx K B V O V/\Fn (.o (.v v)) H' K V)
structure FB(P:Program)(B:Nat)(g:Nat)(args:(Nat->dq)->Array Value)(H:Hp)(nx:Nat)(iv:Iv)(w:World)(Fn:SV->Hp->Iv->World->Prop):Prop where
 h:∀O J,Rel H nx iv B w O J->eI P g (args O) J (fun e V=>∃v,e= .returned v/\Ext J V/\Fn (.o (.v v)) H ((J.heap.size,V.heap.size)::iv) V)
def Kr(dr:Bool)(P:Program)(B:Nat)(g:Nat)(args:(Nat->dq)->Array Value)(H:Hp)(nx:Nat)(iv:Iv)(w:World)(Fn:SV->Hp->Iv->World->Prop):Prop:=
 match dr with
 |true=>FB P B g args H nx iv w Fn
 |false=>FE P B g args H nx iv w Fn
structure xy(P:Program)(B:Nat)(o:Oper)(l:Env)(H:Hp)(nx:Nat)(iv:Iv)(w:World)(Fn:SV->Hp->Nat->Iv->World->Prop):Prop where
 h:∀(O:Nat->dq) J (e:Operand->Value),Rel H nx iv B w O J->(∀x v,ev l x=some v->e x=v.den O)->
  ∃v V K,((execOp e o).run P J= .ok (.value v) V\/((execOp e o).run P J= .ok .skip V/\v=undef))/\Rel H nx K B V O V/\Fn (.o (.v v)) H nx K V
def fbK(dr:Bool)(P:Program)(B:Nat)(o:Oper)(l:Env)(H:Hp)(nx:Nat)(iv:Iv)(w:World)(Fn:SV->Hp->Nat->Iv->World->Prop):Prop:=
 match dr with
 |true=>False
 |false=>xy P B o l H nx iv w Fn
structure OpG(P:Program)(B:Nat)(o:Oper)(l:Env)(H:Hp)(nx:Nat)(iv:Iv)(w:World)(Fn:SV->Hp->Nat->Iv->World->Prop):Prop where
 h:∀(O:Nat->dq) J (e:Operand->Value),Rel H nx iv B w O J->(∀x v,ev l x=some v->e x=v.den O)->
  ∃V w3 H' K,(execOp e o).run P J= .ok .skip w3/\Rel H' nx K B V O w3/\Fn (.o (.v undef)) H' nx K V
def gbK(dr:Bool)(P:Program)(B:Nat)(o:Oper)(l:Env)(H:Hp)(nx:Nat)(iv:Iv)(w:World)(Fn:SV->Hp->Nat->Iv->World->Prop):Prop:=
 match dr with
 |true=>False
 |false=>OpG P B o l H nx iv w Fn
structure OpA(P:Program)(B:Nat)(o:Oper)(l:Env)(H:Hp)(nx:Nat)(iv:Iv)(w:World)(Fn:SV->Hp->Nat->Iv->World->Prop):Prop where
 h:∀(O:Nat->dq) J (e:Operand->Value),Rel H nx iv B w O J->(∀x v,ev l x=some v->e x=v.den O)->
  ∃v H' On K G8 V w3,(execOp e o).run P J= .ok (.value (SV.den G8 v)) w3/\Rel H' On K B V G8 w3/\v.sc On/\nx<=On/\(∀id,id<nx->O id=G8 id)/\Fn v H' On K V
def gaK(dr:Bool)(P:Program)(B:Nat)(o:Oper)(l:Env)(H:Hp)(nx:Nat)(iv:Iv)(w:World)(Fn:SV->Hp->Nat->Iv->World->Prop):Prop:=
 match dr with
 |true=>False
 |false=>OpA P B o l H nx iv w Fn
def aAw(H:Hp):SV->Bool
 | .o (.s id _ _ _)=>match dG H id with
  |some (.box _ [.s _ _ _ _])=>true
  |some (.box _ [.w _ _])=>true
  |_=>false
 |_=>false
def OP(H:Hp):SV->SV->Bool
 | .o (.p id _),.o (.s _ _ _ _)=>match dG H id with
  |some (.arr _ _)=>true
  |_=>false
 |_,_=>false
def oN:List SV->(List Nat->Prop)->Prop
 |[],k=>k []
 | .o (.p id 0)::r,k=>oN r (fun l=>k (id::l))
 |_::_,_=>False
def yw(dr:Bool)(P:Program)(τ:nR)(B:Nat)(o:Oper)(l:Env)(H:Hp)(nx:Nat)(iv:Iv)(w:World)(Fn:SV->Hp->Nat->Iv->World->Prop):Prop:=
 match o.op with
 | .move x=>pe l x (fun v=>Fn v H nx iv w)
 | .assign x=>pe l x (fun v=>Fn v H nx iv w)
 | .pick c a b=>pe l c (fun v=>match v with
  | .o (.v (.bool t))=>dQ t (pe l a (fun v=>Fn v H nx iv w)) (pe l b (fun v=>Fn v H nx iv w))
  |_=>False)
 | .alloc t=>match τ t with
  |some ⟨_,_,_,ze,_,_,_,_,_⟩=>pf ze (fun W=>B7 (.box t W) H nx (fun H' On=>Fn (.o (.p nx 0)) H' On iv w))
  |none=>False
 | .box t x=>pe l x (fun v=>yv v (fun W=>B7 (.box t W) H nx (fun H' On=>Fn (.o (.p nx 0)) H' On iv w)))
 | .build t parts=>match τ t with
  |some ⟨_,_,_,ze,tag,_,e,_,fs⟩=>match Nat.beq tag 5 with
   |true=>pf ze (fun z=>vU l (fun i k=>po τ fs i (fun off sz _=>k off sz)) parts.toList z (fun W=>Fn (.a W) H nx iv w))
   |false=>match Nat.beq tag 6 with
    |true=>match τ e with
     |some ⟨sz,_,_,_,_,_,_,_,_⟩=>pf ze (fun z=>vU l (fun i k=>k (i*sz) sz) parts.toList z (fun W=>Fn (.a W) H nx iv w))
     |none=>False
    |false=>False
  |none=>False
 | .buildSlice t n parts=>match τ t with
  |some ⟨_,_,_,_,tag,_,e,_,_⟩=>match Nat.beq tag 4 with
   |true=>match τ e with
    |some ⟨sz,_,_,ze,_,_,_,_,_⟩=>match Nat.ble (n*sz) 16777216 with
     |true=>pf (List.replicate n ze).flatten (fun z=>vU l (fun i k=>k (i*sz) sz) parts.toList z (fun W=>
       B7 (.box e W) H nx (fun H' On=>Fn (.o (.s nx 0 n n)) H' On iv w)))
     |false=>False
    |none=>False
   |false=>False
  |none=>False
 | .load t a=>pe l a (fun v=>CL τ B t v H nx iv w (fun r=>Fn r H nx iv w))
 | .store t a x=>pe l a (fun va=>pe l x (fun vx=>match OP H va vx with
  |true=>gbK dr P B o l H nx iv w Fn
  |false=>D4 τ B t va vx H nx iv w (fun H' J=>Fn (.o (.v undef)) H' nx iv J)))
 | .nilCheck x=>pe l x (fun v=>match v with
  | .o (.p id off)=>Fn (.o (.p id off)) H nx iv w
  | .o (.v (.pointer (some ad)))=>Fn (.o (.v (.pointer (some ad)))) H nx iv w
  | .o (.fn f ids)=>Fn (.o (.fn f ids)) H nx iv w
  | .o (.v (.func (.func f) fi ca))=>Fn (.o (.v (.func (.func f) fi ca))) H nx iv w
  |_=>False)
 | .binOp op t x y _=>pe l x (fun vx=>pe l y (fun vy=>aAN P τ op t vx vy (fun r=>Fn r H nx iv w)))
 | .unOp op _ x=>pe l x (fun v=>match op,v with
  | .not,.o (.v (.bool b))=>Fn (.o (.v (.bool (!b)))) H nx iv w
  | .neg,.o (.v (.int k n))=>∃r,k.wrap (0-n)=r/\Fn (.o (.v (.int k r))) H nx iv w
  | .xor,.o (.v (.int k n))=>∃r,k.wrap ((BitVec.ofInt k.bits (if k.signed then -1 else k.max) ^^^ BitVec.ofInt k.bits n).toNat:Int)=r/\Fn (.o (.v (.int k r))) H nx iv w
  |_,_=>False)
 | .convert sr d x=>match τ sr with
  |some _=>pe l x (fun v=>match τ d with
   |some ⟨_,_,_,_,tag,ik,_,_,_⟩=>match Nat.beq tag 1 with
    |true=>match v with
     | .o (.v (.int _ n))=>∃r,ik.wrap n=r/\Fn (.o (.v (.int ik r))) H nx iv w
     |_=>False
    |false=>fbK dr P B o l H nx iv w Fn
   |none=>False)
  |none=>False
 | .makeFunc (.func f) ⟨first⟩ caps=>match first with
  |[]=>Kg l caps.toList (fun vs=>oN vs (fun ids=>Fn (.o (.fn f ids)) H nx iv w))
  |_=>False
 | .makeSlice t x y=>pe l x (fun vx=>pe l y (fun vy=>IL τ t vx vy H nx (fun v H' On=>Fn v H' On iv w)))
 | .slice t x lo A none=>pe l x (fun v=>HA τ H t v l lo A (fun r=>Fn r H nx iv w))
 | .fieldAddr t x f=>match τ t with
  |some ⟨_,_,_,_,tag,_,_,_,fs⟩=>match Nat.beq tag 5 with
   |true=>po τ fs f (fun off _ _=>pe l x (fun v=>yf v off (fun r=>Fn r H nx iv w)))
   |false=>False
  |none=>False
 | .field t x f=>match τ t with
  |some ⟨_,_,_,_,tag,_,_,_,fs⟩=>match Nat.beq tag 5 with
   |true=>po τ fs f (fun off sz ag=>pe l x (fun v=>match v with
    | .o (.v (.agg ⟨vs⟩))=>pf vs (fun W=>match ag with
     |true=>tR W off (fun r=>tS r sz (fun c=>Fn (.a c) H nx iv w))
     |false=>match D3 W off with
      |some c=>Fn (.o c) H nx iv w
      |none=>False)
    | .a W=>match ag with
     |true=>tR W off (fun r=>tS r sz (fun c=>Fn (.a c) H nx iv w))
     |false=>match D3 W off with
      |some c=>Fn (.o c) H nx iv w
      |none=>False
    |_=>False))
   |false=>False
  |none=>False
 | .indexAddr t x i=>pe l x (fun vx=>pe l i (fun vi=>Gz τ H t vx vi (fun r=>Fn r H nx iv w)))
 | .extract x i=>pe l x (fun v=>match v with
  | .o (.v (.tuple ⟨vs⟩))=>match JP vs i with
   |some u=>Fn (.o (.v u)) H nx iv w
   |none=>False
  |_=>False)
 | .call ⟨.builtin .len,⟨[x]⟩,⟨[t]⟩⟩=>pe l x (fun v=>aAO τ H t v (fun n=>Fn (.o (.v (.int .i64 n))) H nx iv w))
 | .call ⟨.builtin .append,⟨[x,y]⟩,⟨[t,u]⟩⟩=>match Nat.beq t u with
  |true=>pe l x (fun vx=>pe l y (fun vy=>match aAw H vy with
   |true=>gaK dr P B o l H nx iv w Fn
   |false=>yg τ B t vx vy H nx iv w (fun v H' On=>Fn v H' On iv w)\/xy P B o l H nx iv w Fn))
  |false=>xy P B o l H nx iv w Fn
 | .call ⟨.builtin .max,⟨[x,y]⟩,_⟩=>pe l x (fun vx=>pe l y (fun vy=>match vx,vy with
  | .o (.v (.int k a)),.o (.v (.int k' b))=>match pn k k' with
   |true=>Fn (.o (.v (.int k (max a b)))) H nx iv w
   |false=>False
  |_,_=>False))
 | .call ⟨.builtin .min,⟨[x,y]⟩,_⟩=>pe l x (fun vx=>pe l y (fun vy=>match vx,vy with
  | .o (.v (.int k a)),.o (.v (.int k' b))=>match pn k k' with
   |true=>Fn (.o (.v (.int k (min a b)))) H nx iv w
   |false=>False
  |_,_=>False))
 | .call ⟨.builtin .copy,_,_⟩=>xy P B o l H nx iv w Fn
 | .call ⟨.builtin .clear,_,_⟩=>xy P B o l H nx iv w Fn
 | .call ⟨.builtin .cap,_,_⟩=>xy P B o l H nx iv w Fn
 | .index _ _ _=>xy P B o l H nx iv w Fn
 | .makeMap _ _=>xy P B o l H nx iv w Fn
 | .lookup _ _ _ _=>xy P B o l H nx iv w Fn
 | .mapUpdate _ _ _ _=>xy P B o l H nx iv w Fn
 | .call ⟨.value f,⟨args⟩,_⟩=>pe l f (fun vf=>Kg l args (fun vs=>match vf with
   | .o (.v (.func (.func g) first caps))=>Kr dr P B g (fun O=>first++oK O vs++caps) H nx iv w (fun v H' K J=>Fn v H' nx K J)
   | .o (.fn g ids)=>Kr dr P B g (fun O=>oK O vs++(ids.map fun id=>Value.pointer (some ⟨(O id).g,0,none⟩)).toArray) H nx iv w (fun v H' K J=>Fn v H' nx K J)
   |_=>False))
 |_=>False
def CM:List Oper->Nat->Option Tmp
 |[],_=>none
 |o::_,0=>o.dst
 |_::r,n+1=>CM r n
def Ez(d:Option Tmp)(v:SV)(l:Env)(k:Env->Prop):Prop:=match d with
 |some t=>k ((t,v)::l)
 |none=>k l
def tU(all:List Oper)(g:Option (Nat×Bool))(l:Env)(yes no:Env->Prop):Prop:=
 match g with
 |none=>yes l
 |some (j,want)=>match CM all j with
  |none=>no l
  |some d=>match fm l d with
   |some (.o (.v (.bool b)))=>match want with
    |true=>dQ b (yes ((d,.o (.v (.bool true)))::l)) (no ((d,.o (.v (.bool false)))::l))
    |false=>dQ b (no ((d,.o (.v (.bool true)))::l)) (yes ((d,.o (.v (.bool false)))::l))
   |some (.o (.v (.tuple _)))=>no l
   |_=>False
def iR(dr:Bool)(P:Program)(τ:nR)(B:Nat)(all:List Oper)(o:Oper)(l:Env)(H:Hp)(nx:Nat)(iv:Iv)(w:World)(k:Env->Hp->Nat->Iv->World->Prop):Prop:=
 tU all o.guard l
  (fun l=>yw dr P τ B o l H nx iv w (fun v H' On K J=>Ez o.dst v l (fun l'=>k l' H' On K J)))
  (fun l=>Ez o.dst (.o (.v undef)) l (fun l'=>k l' H nx iv w))
def IM(P:Program)(τ:nR)(B:Nat)(all:List Oper):List Oper->Env->Hp->Nat->Iv->World->(Env->Hp->Nat->Iv->World->Prop)->Prop
 |[],l,H,nx,iv,w,Fn=>Fn l H nx iv w
 |o::r,l,H,nx,iv,w,Fn=>iR false P τ B all o l H nx iv w (fun l' H' On K J=>IM P τ B all r l' H' On K J Fn)
inductive Ex where
 |normal
 |exit (id:Nat)
 |ret
structure Sat(n:Nat)(l:Env)(H:Hp)(nx:Nat)(iv:Iv)(B:Nat)(w:World)(O:Nat->dq)(a:Act)(J:World):Prop where
 rel:Rel H nx iv B w O J
 size:a.tmps.size=n
 defers:a.defers=[]
 env:∀t v,fm l t=some v->a.tmps[t]? =some (v.den O)
 sc:∀t v,fm l t=some v->v.sc nx
abbrev KT:=Env->Hp->Nat->Iv->World->Prop
structure zE(P:Program)(B:Nat)(ops:Array Oper)(l:Env)(H:Hp)(nx:Nat)(iv:Iv)(w:World)(Fn:KT):Prop where
 h:∀n O a J,ops.toList.all (fun o=>match o.dst with
   |some d=>Nat.blt d n
   |none=>true)=true->Sat n l H nx iv B w O a J->
  ∀Q:Exit->Act->World->Prop,(∀l' H' On K V G8 a' w'',Fn l' H' On K V->Sat n l' H' On K B V G8 a' w''->Q .normal a' w'')->
  ∀id,(Code.region id ops true).wp P Q a J
structure xD where
 l:Env
 H:Hp
 nx:Nat
 iv:Iv
 w:World
def Sub(B:Nat)(l:Env)(_nx:Nat)(O:Nat->dq)(J:World)(t:xD):Prop:=
 ∃G8,Rel t.H t.nx t.iv B t.w G8 J/\(∀u v,fm t.l u=some v->v.sc t.nx/\∃v0,fm l u=some v0/\v0.den O=v.den G8)
def nD(P:Program)(τ:nR)(B:Nat):Code->Env->Hp->Nat->Iv->World->(Ex->KT)->Prop
 | .skip,l,H,nx,iv,w,Q=>Q .normal l H nx iv w
 | .region _ ops false,l,H,nx,iv,w,Q=>IM P τ B ops.toList ops.toList l H nx iv w (Q .normal)
 | .region _ ops true,l,H,nx,iv,w,Q=>zE P B ops l H nx iv w (Q .normal)
 | .seq a b,l,H,nx,iv,w,Q=>nD P τ B a l H nx iv w (fun e l H nx iv w=>match e with
  | .normal=>nD P τ B b l H nx iv w Q
  | .exit id=>Q (.exit id) l H nx iv w
  | .ret=>Q .ret l H nx iv w)
 | .cond c a b,l,H,nx,iv,w,Q=>pe l c (fun v=>match v with
  | .o (.v (.bool t))=>dQ t (nD P τ B a l H nx iv w Q) (nD P τ B b l H nx iv w Q)
  |_=>False)
 | .block id c,l,H,nx,iv,w,Q=>nD P τ B c l H nx iv w (fun e l H nx iv w=>match e with
  | .normal=>Q .normal l H nx iv w
  | .exit id'=>match Nat.beq id' id with
   |true=>Q .normal l H nx iv w
   |false=>Q (.exit id') l H nx iv w
  | .ret=>Q .ret l H nx iv w)
 | .loop c,l,H,nx,iv,w,Q=>∃(α:Type) (st:α->xD) (μ:α->Nat) (A':α->Prop),
   (∀O J,Rel H nx iv B w O J->∃x,A' x/\Sub B l nx O J (st x))/\
   ∀x,A' x->nD P τ B c (st x).l (st x).H (st x).nx (st x).iv (st x).w (fun e l H nx iv w=>match e with
    | .normal=>∀O J,Rel H nx iv B w O J->∃y,A' y/\Sub B l nx O J (st y)/\μ y<μ x
    | .exit id=>Q (.exit id) l H nx iv w
    | .ret=>Q .ret l H nx iv w)
 | .exit id,l,H,nx,iv,w,Q=>Q (.exit id) l H nx iv w
 | .ret,l,H,nx,iv,w,Q=>Q .ret l H nx iv w
 |_,_,_,_,_,_,_=>False
structure Gx(P:Program)(t:Nat)(i:TI):Prop where
 info:∃inf z,P.info? t=some inf/\inf.size=i.size/\inf.bytes=i.bytes/\inf.zero=some z/\z.cells.toList=i.zero
 Gy:i.zero.length=i.size
 aBT:∀x∈i.zero,x.oneCell'=true
 agg:∃d,P.underlying t=some d/\(match d with| .struct _| .array _ _=>true|_=>false)=i.agg
 i1:i.tag=1->P.underlying t=some (.int i.ik)
 i2:i.tag=2->P.underlying t=some .bool
 i3:i.tag=3->P.underlying t=some .string
 i4:i.tag=4->P.underlying t=some (.slice i.elem)
 i5:i.tag=5->∃fs,P.underlying t=some (.struct fs)/\fs.toList.map (fun f=>(f.offset,f.type))=i.fields/\∀f∈fs.toList,(P.info? f.type).isSome=true
 i6:i.tag=6->P.underlying t=some (.array i.DX i.elem)
def fo(P:Program)(τ:nR):Prop:=∀t i,τ t=some i->Gx P t i
theorem eX{a b:Nat}(h:Nat.beq a b=true):a=b:=bP h
theorem fy:∀{xs:List Value} {k:List At->Prop},pf xs k->k (xs.map At.v)
 |[],_,h=>h
 |x::r,k,h=>by
  have:=fy (xs:=r) (k:=fun r'=>k (.v x::r')) h;simpa using this
theorem oO:∀{W:List At} {n:Nat} {k:List At->Prop},tR W n k->k (W.drop n)/\n<=W.length
 |W,0,k,h=>by cases W<;>exact⟨by simpa [tR]using h,by simp⟩
 |[],n+1,k,h=>by simp[tR]at h
 |x::t,n+1,k,h=>by
  have:=oO (W:=t) (n:=n) (k:=k) h;exact⟨by simpa using this.1,by simp;omega⟩
theorem oP:∀{W:List At} {n:Nat} {k:List At->Prop},tS W n k->k (W.take n)/\n<=W.length
 |W,0,k,h=>by cases W<;>exact⟨by simpa [tS]using h,by simp⟩
 |[],n+1,k,h=>by simp[tS]at h
 |x::t,n+1,k,h=>by
  have:=oP (W:=t) (n:=n) (k:=fun r=>k (x::r)) h;exact⟨by simpa using this.1,by simp;omega⟩
theorem zL:∀{W new:List At} {k:List At->Prop},CG W new k->k (new++W.drop new.length)/\new.length<=W.length
 |W,[],k,h=>by cases W<;>exact⟨by simpa [CG]using h,by simp⟩
 |[],x::r,k,h=>by simp[CG]at h
 |_::t,x::r,k,h=>by
  have:=zL (W:=t) (new:=r) (k:=fun t'=>k (x::t')) h;exact⟨by simpa using this.1,by simp;omega⟩
theorem oQ:∀{W:List At} {off:Nat} {new:List At} {k:List At->Prop},rF W off new k->
  k (W.take off++new++W.drop (off+new.length))/\off+new.length<=W.length
 |W,0,new,k,h=>by
  have h':CG W new k:=by cases W<;>simpa [rF]using h
  have:=zL h';exact⟨by simpa using this.1,by omega⟩
 |[],n+1,new,k,h=>by simp[rF]at h
 |x::t,n+1,new,k,h=>by
  have:=oQ (W:=t) (off:=n) (new:=new) (k:=fun t'=>k (x::t')) h;refine⟨?_,by simp;omega⟩;have G:=this.1;rw[show n+1+new.length=(n+new.length)+1 by omega];simpa using G
theorem one_den{x:At}(h:x.one=true)(O:Nat->dq):(x.den O).oneCell'=true:=by
 cases x with
 |v y=>cases y<;>simp_all [At.one,At.den,Value.oneCell']
 |w id n=>simp only[At.den];split<;>rfl
 |_=>rfl
theorem zM:∀{W:List At} {k:Prop},IG W k->k/\∀c∈W,At.one c=true
 |[],k,h=>⟨h,by simp⟩
 |x::r,k,h=>by
  unfold IG at h;split at h
  ·rename_i F;have:=zM h;exact⟨this.1,by simp[F];exact this.2⟩
  ·exact h.elim
theorem lL:∀{W:List At} {k:List Value->Prop},xx W k->∃vs,k vs/\W=vs.map At.v/\∀v∈vs,v.oneCell'=true
 |[],k,h=>⟨[],h,rfl,by simp⟩
 | .v x::r,k,h=>by
  unfold xx at h;split at h
  ·rename_i F;obtain⟨vs,L,G,N⟩:=lL h;exact⟨x::vs,L,by simp[G],by simp;exact⟨one_den F (fun _=>⟨0,0,false⟩),N⟩⟩
  ·exact h.elim
 | .p _ _::_,k,h=>by simp[xx]at h
 | .s _ _ _ _::_,k,h=>by simp[xx]at h
 | .w _ _::_,k,h=>by simp[xx]at h
 | .fn _ _::_,k,h=>by simp[xx]at h
theorem mT{x:SV}{k:List At->Prop}(h:yv x k):∃W,k W/\(∀O,(x.den O).cells=(W.map (At.den O)).toArray)/\(∀n,x.sc n->∀c∈W,c.sc n):=by
 cases x with
 |a W=>exact⟨W,h,fun O=>rfl,fun n R=>R⟩
 |o y=>
  cases y with
  |v z=>
   cases z with
   |agg arr=>
    obtain⟨l⟩:=arr;refine⟨_,fy h,fun O=>?_,fun n _ c hc=>?_⟩
    ·simp[SV.den,At.den,Value.cells,Function.comp_def]
    ·simp at hc;obtain⟨v,_,rfl⟩:=hc;trivial
   |tuple arr=>simp[yv]at h
   |_=>exact⟨_,h,fun O=>rfl,fun n _ c hc=>by simp at hc;subst hc;trivial⟩
  |w id n=>exact⟨_,h,fun O=>by simp only[SV.den,At.den,List.map];split<;>rfl,fun n R c hc=>by simp at hc;subst hc;exact R⟩
  |_=>exact⟨_,h,fun O=>rfl,fun n R c hc=>by simp at hc;subst hc;exact R⟩
theorem dB(t:Nat)(b:jz)(r:Hp)(u:Nat):dG ((t,b)::r) u=if t=u then some b else dG r u:=by
 show(match Nat.beq t u with|true=>some b|false=>dG r u)=_;split
 ·rename_i h;rw[if_pos (eX h)]
 ·rename_i h;rw[aH (fun e=>by subst e;rw[Nat.beq_refl]at h;cases h)]
theorem eh(t:Nat)(b:SV)(r:Env)(u:Nat):fm ((t,b)::r) u=if t=u then some b else fm r u:=by
 show(match Nat.beq t u with|true=>some b|false=>fm r u)=_;split
 ·rename_i h;rw[if_pos (eX h)]
 ·rename_i h;rw[aH (fun e=>by subst e;rw[Nat.beq_refl]at h;cases h)]
theorem rJ:∀{H:Hp} {id:Nat} {b:jz} {k:Hp->Prop},Gr H id b k->∃H',k H'/\(∀j,dG H' j=if j=id then some b else dG H j)/\(dG H id).isSome=true
 |[],id,b,k,h=>by simp[Gr]at h
 |(t,v)::r,id,b,k,h=>by
  unfold Gr at h;split at h
  ·rename_i ht;have:=eX ht;subst this;refine⟨_,h,fun j=>?_,by simp[dB]⟩;simp only[dB]
   by_cases e:t=j
   ·simp[e]
   ·simp[e,Ne.symm e]
  ·rename_i ht;have Oe:t≠id:=fun e=>by subst e;rw[Nat.beq_refl]at ht;cases ht
   obtain⟨H',L,G,N⟩:=rJ h;refine⟨_,L,fun j=>?_,by simp[dB,Oe,N]⟩;simp only[dB,G]
   by_cases e:t=j
   ·subst e;simp[Oe]
   ·simp[e]
theorem s4:∀{H:Hp} {id:Nat} {k:Hp->Prop},CF H id k->∃H',k H'/\(∀j,dG H' j=if j=id then some .dead else dG H j)/\(dG H id).isSome=true
 |[],id,k,h=>by simp[CF]at h
 |(t,v)::r,id,k,h=>by
  unfold CF at h;split at h
  ·rename_i ht;have:=eX ht;subst this;refine⟨_,h,fun j=>?_,by simp[dB]⟩;simp only[dB]
   by_cases e:t=j
   ·simp[e]
   ·simp[e,Ne.symm e]
  ·rename_i ht;have Oe:t≠id:=fun e=>by subst e;rw[Nat.beq_refl]at ht;cases ht
   obtain⟨H',L,G,N⟩:=s4 h;refine⟨_,L,fun j=>?_,by simp[dB,Oe,N]⟩;simp only[dB,G]
   by_cases e:t=j
   ·subst e;simp[Oe]
   ·simp[e]
theorem At.jT{x:At}{O G8:Nat->dq}(h:∀id,id<n->O id=G8 id)(F:x.sc n):x.den O=x.den G8:=by
 cases x with
 |v y=>rfl
 |p id off=>simp only[At.den,h id F]
 |s id off len cap=>simp only[At.den,h id F]
 |w id len=>simp only[At.den,h id F]
 |fn f caps=>
  simp only[At.den]
  congr 2;exact List.map_congr_left fun id PY=>by rw[h id (F id PY)]
theorem SV.jT{x:SV}{O G8:Nat->dq}(h:∀id,id<n->O id=G8 id)(F:x.sc n):x.den O=x.den G8:=by
 cases x with
 |o y=>exact At.jT h F
 |a W=>
  simp only[SV.den]
  congr 2;exact List.map_congr_left fun c hc=>At.jT h (F c hc)
theorem At.td{x:At}(h:n<=m)(F:x.sc n):x.sc m:=by
 cases x with
 |v y=>trivial
 |fn f caps=>intro id PY;have:=F id PY;omega
 |_=>simp only[At.sc]at *;omega
theorem SV.td{x:SV}(h:n<=m)(F:x.sc n):x.sc m:=by
 cases x with
 |o y=>exact At.td h F
 |a W=>exact fun c hc=>At.td h (F c hc)
theorem Rel.drew{H:Hp}{iv:Iv}{w:World}{O:Nat->dq}(r:Rel H nx iv B w O J):Rel H nx iv B w O J.drew:=
 ⟨r.os,r.tape,r.output,r.size,r.base,r.oJ,r.keys,r.box,r.arr,r.vec,r.inj,r.low,r.vP,r.je,r.Kh,r.nn⟩
def gT(O:Nat->dq)(nx:Nat)(v:dq):Nat->dq:=fun j=>if j=nx then v else O j
theorem gD{O:Nat->dq}{v:dq}:∀id,id<nx->O id=gT O nx v id:=fun id h=>by simp[gT,Nat.ne_of_lt h]
@[simp] theorem eR {O:Nat->dq} {nx:Nat} {v:dq}:gT O nx v nx=v:=by simp[gT]
def jz.fits(b:jz)(O:Nat->dq)(v:dq)(w:World):Prop:=
 match b with
 | .box t W=>v.nil=false/\w.heap[v.g]? =some (.cells (W.map (At.den O)).toArray t (0,0))
 | .arr t W=>v.nil=false/\w.heap[v.g]? =some (.cells W.toArray t (0,0))
 | .vec t size W=>(v.nil=true/\W=[])\/(v.nil=false/\∃spare:List Value,w.heap[v.g]? =some (.cells (W++spare).toArray t (0,0))/\(W++spare).length=v.cap*size/\v.cap<=maxLen)
 | .dead=>True
def jz.scopd(b:jz)(n:Nat):Prop:=match b with
 | .box _ W=>∀x∈W,At.sc n x
 |_=>True
theorem Rel.fits{H:Hp}{iv:Iv}{w:World}{O:Nat->dq}(r:Rel H nx iv B w O J){b:jz}(h:dG H id=some b):b.fits O (O id) J:=by
 cases b with
 |box t W=>exact⟨r.nn id _ h (by intros;simp) (by simp),r.box id t W h⟩
 |arr t W=>exact⟨r.nn id _ h (by intros;simp) (by simp),r.arr id t W h⟩
 |vec t size W=>exact r.vec id t size W h
 |dead=>trivial
theorem Rel.mk'{H:Hp}{iv:Iv}{w:World}{O:Nat->dq}(os:J.os=w.os)(tape:J.tape=w.tape)(output:J.output=w.output)
  (size:w.heap.size<=J.heap.size) (base:B<=w.heap.size) (oJ:∀lo A,(lo,A)∈iv->A<=w.heap.size) (keys:∀id b,dG H id=some b->id<nx)
  (fits:∀id b,dG H id=some b->b.fits O (O id) J) (Kh:∀id b,dG H id=some b->b.scopd nx)
  (inj:∀id id' b b',dG H id=some b->dG H id'=some b'->b≠ .dead->b'≠ .dead->(O id).nil=false->(O id').nil=false->(O id).g=(O id').g->id=id')
  (low:∀id b,dG H id=some b->(O id).nil=false->B<=(O id).g/\(O id).g<J.heap.size)
  (vP:∀k,k<w.heap.size->(∀id b,dG H id=some b->(O id).nil=false->(O id).g≠k)->J.heap[k]? =w.heap[k]?)
  (je:∀lo A,(lo,A)∈iv->∀id b,dG H id=some b->(O id).nil=false->¬(lo<=(O id).g/\(O id).g<A)):Rel H nx iv B w O J where
 os:=os
 tape:=tape
 output:=output
 size:=size
 base:=base
 oJ:=oJ
 keys:=keys
 box:=fun id t W h=>(fits id _ h).2
 arr:=fun id t W h=>(fits id _ h).2
 vec:=fun id t size W h=>fits id _ h
 inj:=inj
 low:=low
 vP:=vP
 je:=je
 Kh:=fun id t W h=>Kh id _ h
 nn:=fun id b h L G=>by
  have:=fits id b h
  cases b with
  |box t W=>exact this.1
  |arr t W=>exact this.1
  |vec t size W=>exact absurd rfl (L t size W)
  |dead=>exact absurd rfl G
theorem jz.gg{b:jz}{O G8:Nat->dq}{v:dq}{w:World}(h:b.fits O v w)(G9:∀id,id<n->O id=G8 id)(hs:b.scopd n)
  (I:v.nil=false->b≠ .dead->J.heap[v.g]? =w.heap[v.g]?):b.fits G8 v J:=by
 cases b with
 |box t W=>
  obtain⟨L,G⟩:=h;refine⟨L,?_⟩;rw[I L (by simp),G,List.map_congr_left fun c hc=>At.jT G9 (hs c hc)]
 |arr t W=>exact⟨h.1,by rw[I h.1 (by simp)];exact h.2⟩
 |vec t size W=>
  rcases h with h|⟨L,spare,G,N⟩
  ·exact .inl h
  ·exact .inr ⟨L,spare,by rw[I L (by simp)];exact G,N⟩
 |dead=>trivial
theorem jz.jG{b:jz}(h:n<=m)(hb:b.scopd n):b.scopd m:=by
 cases b with
 |box t W=>exact fun c hc=>At.td h (hb c hc)
 |_=>trivial
theorem Rel.scopd{H:Hp}{iv:Iv}{w:World}{O:Nat->dq}(r:Rel H nx iv B w O J){b:jz}(h:dG H id=some b):b.scopd nx:=by
 cases b with
 |box t W=>exact r.Kh id t W h
 |_=>trivial
theorem Rel.push{H:Hp}{iv:Iv}{w:World}{O:Nat->dq}(r:Rel H nx iv B w O J)(b:jz)(v:dq)
  (os:V.os=J.os) (tape:V.tape=J.tape) (output:V.output=J.output) (size:J.heap.size<=V.heap.size) (old:∀k,k<J.heap.size->V.heap[k]? =J.heap[k]?)
  (hv:v.nil=false->J.heap.size<=v.g/\v.g<V.heap.size) (hb:b.fits O v V) (hs:b.scopd nx):Rel ((nx,b)::H) (nx+1) iv B w (gT O nx v) V:=by
 have Ow:∀id b,dG H id=some b->id≠nx:=fun id b h=>Nat.ne_of_lt (r.keys id b h);have QL:∀id b,dG H id=some b->gT O nx v id=O id:=fun id b h=>by simp[gT,Ow id b h]
 refine Rel.mk' (os.trans r.os) (tape.trans r.tape) (output.trans r.output) (aW r.size size) r.base r.oJ ?_ ?_ ?_ ?_ ?_ ?_ ?_
 ·intro id b' h;rw[dB]at h;split at h
  ·omega
  ·have:=r.keys id b' h;omega
 ·intro id b' h;rw[dB]at h;split at h
  ·rename_i e;subst e;injection h with h;subst h;rw[eR];exact jz.gg hb gD hs (fun _ _=>rfl)
  ·rw[QL id b' h];exact jz.gg (r.fits h) gD (r.scopd h) (fun L _=>old _ (r.low id b' h L).2)
 ·intro id b' h;rw[dB]at h;split at h
  ·injection h with h;subst h;exact jz.jG (by omega) hs
  ·exact jz.jG (by omega) (r.scopd h)
 ·intro id id' b1 b2 L G d1 d2 n1 n2 e;rw[dB]at L G;split at L<;>split at G
  ·omega
  ·rename_i e1 e2;subst e1;rw[eR]at e n1;rw[QL id' b2 G]at e n2;have:=(r.low id' b2 G n2).2;have:=(hv n1).1;omega
  ·rename_i e1 e2;subst e2;rw[eR]at e n2;rw[QL id b1 L]at e n1;have:=(r.low id b1 L n1).2;have:=(hv n2).1;omega
  ·rw[QL id b1 L]at e n1;rw[QL id' b2 G]at e n2;exact r.inj id id' b1 b2 L G d1 d2 n1 n2 e
 ·intro id b' h n1;rw[dB]at h;split at h
  ·rename_i e;subst e;rw[eR]at n1 ⊢;have:=hv n1;have:=r.base;have:=r.size;omega
  ·rw[QL id b' h]at n1 ⊢;have:=r.low id b' h n1;omega
 ·intro k D Oe;rw[old k (by have:=r.size;omega)];refine r.vP k D fun id b' h n1=>?_;have:=Oe id b' (by rw[dB,aH (Ne.symm (Ow id b' h))];exact h) (by rw[QL id b' h];exact n1)
  rwa [QL id b' h]at this
 ·intro lo A hm id b' h n1;rw[dB]at h;split at h
  ·rename_i e;subst e;rw[eR]at n1 ⊢;have:=hv n1;have:=r.oJ lo A hm;have:=r.size;omega
  ·rw[QL id b' h]at n1 ⊢;exact r.je lo A hm id b' h n1
theorem Rel.store{H H':Hp}{iv:Iv}{w:World}{O:Nat->dq}(r:Rel H nx iv B w O J){b b':jz}(PY:dG H id=some b)(hd:b≠ .dead)(R:(O id).nil=false)
  (hH:∀j,dG H' j=if j=id then some b' else dG H j)
  (os:V.os=J.os) (tape:V.tape=J.tape) (output:V.output=J.output) (size:V.heap.size=J.heap.size) (old:∀k,k≠(O id).g->V.heap[k]? =J.heap[k]?)
  (hb:b'.fits O (O id) V) (hs:b'.scopd nx):Rel H' nx iv B w O V:=by
 have key:∀j c,dG H' j=some c->∃c',dG H j=some c':=fun j c h=>by
  rw[hH]at h;split at h
  ·rename_i e;subst e;exact⟨b,PY⟩
  ·exact⟨c,h⟩
 refine Rel.mk' (os.trans r.os) (tape.trans r.tape) (output.trans r.output) (by rw[size];exact r.size) r.base r.oJ ?_ ?_ ?_ ?_ ?_ ?_ ?_
 ·intro j c h;obtain⟨c',h'⟩:=key j c h;exact r.keys j c' h'
 ·intro j c h;rw[hH]at h;split at h
  ·rename_i e;subst e;injection h with h;subst h;exact hb
  ·rename_i e;refine jz.gg (r.fits h) (fun _ _=>rfl) (r.scopd h) (fun L G=>old _ fun e2=>e ?_);exact r.inj j id c b h PY G hd L R e2
 ·intro j c h;rw[hH]at h;split at h
  ·injection h with h;subst h;exact hs
  ·exact r.scopd h
 ·intro j j' c c' L G d1 d2 n1 n2 e;rw[hH]at L G;have l1:∃c1,dG H j=some c1/\c1≠ .dead:=by
   split at L
   ·rename_i e1;subst e1;exact⟨b,PY,hd⟩
   ·exact⟨c,L,d1⟩
  have l2:∃c1,dG H j'=some c1/\c1≠ .dead:=by
   split at G
   ·rename_i e1;subst e1;exact⟨b,PY,hd⟩
   ·exact⟨c',G,d2⟩
  obtain⟨c1,g1,g2⟩:=l1;obtain⟨c2,g3,g4⟩:=l2;exact r.inj j j' c1 c2 g1 g3 g2 g4 n1 n2 e
 ·intro j c h n1;obtain⟨c',h'⟩:=key j c h;rw[size];exact r.low j c' h' n1
 ·intro k D Oe;have hkg:k≠(O id).g:=fun e=>Oe id b' (by rw[hH];simp) R e.symm;rw[old k hkg];refine r.vP k D fun j c h n1=>?_;by_cases e:j=id
  ·subst e;exact Ne.symm hkg
  ·exact Oe j c (by rw[hH,aH e];exact h) n1
 ·intro lo A hm j c h n1;obtain⟨c',h'⟩:=key j c h;exact r.je lo A hm j c' h' n1
theorem Rel.Kt{H H1:Hp}{iv:Iv}{w:World}{O:Nat->dq}(r:Rel H nx iv B w O J){b0:jz}(PY:dG H id=some b0)(hd:b0≠ .dead)
  (hH:∀j,dG H1 j=if j=id then some .dead else dG H j) (b:jz) (v:dq)
  (os:V.os=J.os) (tape:V.tape=J.tape) (output:V.output=J.output) (size:J.heap.size<=V.heap.size)
  (old:∀k,k<J.heap.size->((O id).nil=false->k≠(O id).g)->V.heap[k]? =J.heap[k]?)
  (hv:v.nil=false->(J.heap.size<=v.g/\v.g<V.heap.size)\/((O id).nil=false/\v.g=(O id).g)) (hb:b.fits O v V) (hs:b.scopd nx):Rel ((nx,b)::H1) (nx+1) iv B w (gT O nx v) V:=by
 have key:∀j c,dG H1 j=some c->∃c',dG H j=some c'/\(c≠ .dead->c'=c/\j≠id):=fun j c h=>by
  rw[hH]at h;split at h
  ·rename_i e;subst e;injection h with h;exact⟨b0,PY,fun G=>absurd h.symm G⟩
  ·rename_i e;exact⟨c,h,fun _=>⟨rfl,e⟩⟩
 have Ow:∀j c,dG H1 j=some c->j≠nx:=fun j c h=>by obtain⟨c',h',_⟩:=key j c h;exact Nat.ne_of_lt (r.keys j c' h')
 have QL:∀j c,dG H1 j=some c->gT O nx v j=O j:=fun j c h=>by simp[gT,Ow j c h]
 have hidlt:=r.keys id b0 PY;have hvlow:v.nil=false->B<=v.g/\v.g<V.heap.size:=fun R=>by
  rcases hv R with h|⟨L,G⟩
  ·have:=r.base;have:=r.size;omega
  ·have:=r.low id b0 PY L;omega
 refine Rel.mk' (os.trans r.os) (tape.trans r.tape) (output.trans r.output) (aW r.size size) r.base r.oJ ?_ ?_ ?_ ?_ ?_ ?_ ?_
 ·intro j b' h;rw[dB]at h;split at h
  ·omega
  ·obtain⟨c',h',_⟩:=key j b' h;have:=r.keys j c' h';omega
 ·intro j b' h;rw[dB]at h;split at h
  ·rename_i e;subst e;injection h with h;subst h;rw[eR];exact jz.gg hb gD hs (fun _ _=>rfl)
  ·rw[QL j b' h];by_cases Sa:b'= .dead
   ·subst Sa;trivial
   ·obtain⟨c',h',G⟩:=key j b' h;obtain⟨rfl,Oe⟩:=G Sa;exact jz.gg (r.fits h') gD (r.scopd h') (fun L _=>old _ (r.low j c' h' L).2 fun N e=>Oe (r.inj j id c' b0 h' PY Sa hd L N e))
 ·intro j b' h;rw[dB]at h;split at h
  ·injection h with h;subst h;exact jz.jG (by omega) hs
  ·by_cases Sa:b'= .dead
   ·subst Sa;trivial
   ·obtain⟨c',h',G⟩:=key j b' h;obtain⟨rfl,Oe⟩:=G Sa;exact jz.jG (by omega) (r.scopd h')
 ·have cross:∀j c,dG H1 j=some c->c≠ .dead->(O j).nil=false->v.nil=false->v.g≠(O j).g:=fun j c h dd nj nv e=>by
   obtain⟨c',h',G⟩:=key j c h;obtain⟨rfl,Oe⟩:=G dd;rcases hv nv with N|⟨N,h4⟩
   ·have:=(r.low j c' h' nj).2;omega
   ·exact Oe (r.inj j id c' b0 h' PY dd hd nj N (by omega))
  intro j j' b1 b2 L G d1 d2 n1 n2 e;rw[dB]at L G;split at L<;>split at G
  ·omega
  ·rename_i e1 e2;subst e1;rw[eR]at e n1;rw[QL j' b2 G]at e n2;exact absurd e (cross j' b2 G d2 n2 n1)
  ·rename_i e1 e2;subst e2;rw[eR]at e n2;rw[QL j b1 L]at e n1;exact absurd e.symm (cross j b1 L d1 n1 n2)
  ·rw[QL j b1 L]at e n1;rw[QL j' b2 G]at e n2;obtain⟨c1,g1,k1⟩:=key j b1 L;obtain⟨c2,g2,k2⟩:=key j' b2 G;obtain⟨rfl,_⟩:=k1 d1;obtain⟨rfl,_⟩:=k2 d2;exact r.inj j j' c1 c2 g1 g2 d1 d2 n1 n2 e
 ·intro j b' h n1;rw[dB]at h;split at h
  ·rename_i e;subst e;rw[eR]at n1 ⊢;exact hvlow n1
  ·rw[QL j b' h]at n1 ⊢;obtain⟨c',h',_⟩:=key j b' h;have:=r.low j c' h' n1;omega
 ·intro k D Oe;have UW:∀j c,dG H j=some c->(O j).nil=false->(O j).g≠k:=fun j c h nj=>by
   have hj:dG H1 j=some (if j=id then .dead else c):=by rw[hH];split<;>simp[h]
   have:=Oe j _ (by rw[dB,aH (Ne.symm (Ow j _ hj))];exact hj) (by rw[QL j _ hj];exact nj)
   rwa [QL j _ hj]at this
  rw[old k (by have:=r.size;omega) (fun h e=>UW id b0 PY h e.symm)];exact r.vP k D UW
 ·intro lo A hm j b' h n1;rw[dB]at h;split at h
  ·rename_i e;subst e;rw[eR]at n1 ⊢;rcases hv n1 with N|⟨N,h4⟩
   ·have:=r.oJ lo A hm;have:=r.size;omega
   ·rw[h4];exact r.je lo A hm id b0 PY N
  ·rw[QL j b' h]at n1 ⊢;obtain⟨c',h',_⟩:=key j b' h;exact r.je lo A hm j c' h' n1
section
variable{P:Program}{τ:nR}{B n nx:Nat}{l:Env}{H:Hp}{iv:Iv}{w J:World}{O:Nat->dq}{a:Act}
theorem te(sat:Sat n l H nx iv B w O a J){x:Operand}{v:SV}(h:ev l x=some v):a.eval x=v.den O/\v.sc nx:=by
 cases x with
 |tmp t=>
  have L:=sat.env t v h;exact⟨by simp[Act.eval,L],sat.sc t v h⟩
 |const c=>simp[ev]at h;subst h;exact⟨rfl,trivial⟩
 |global g=>simp[ev]at h;subst h;exact⟨rfl,trivial⟩
 |func f=>simp[ev]at h;subst h;exact⟨rfl,trivial⟩
theorem dZ(sat:Sat n l H nx iv B w O a J){x:Operand}{k:SV->Prop}(h:pe l x k):∃v,k v/\a.eval x=v.den O/\v.sc nx:=by
 unfold pe at h;split at h
 ·rename_i v hv;exact⟨v,h,te sat hv⟩
 ·exact h.elim
theorem rH(sat:Sat n l H nx iv B w O a J):∀{xs:List Operand} {k:List SV->Prop},Kg l xs k->∃vs,k vs/\xs.map a.eval=vs.map (SV.den O)/\∀v∈vs,SV.sc nx v
 |[],k,h=>⟨[],h,rfl,by simp⟩
 |x::r,k,h=>by
  unfold Kg at h;split at h
  ·rename_i v hv;obtain⟨vs,L,G,N⟩:=rH sat (xs:=r) h;have:=te sat hv;exact⟨v::vs,L,by simp[this.1,G],by simp;exact⟨this.2,N⟩⟩
  ·exact h.elim
theorem nC{o:Oper}{a:Act}{w:World}{v:Value}(h:(execOp a.eval o).run P w= .ok (.value v) V)(D:next (a.put o.dst v) V):o.wp P a w next Q:=by
 unfold Oper.wp;rw[h];exact D
theorem Ku{o:Oper}{a:Act}{w:World}(h:(execOp a.eval o).run P w= .ok .skip V)(D:next (a.put o.dst undef) V):o.wp P a w next Q:=by
 unfold Oper.wp;rw[h];exact D
theorem mU{s:Sem Value}{w:World}{v:Value}(h:s.run P w= .ok v V):((do pure (.value (<-s))):Sem Next).run P w= .ok (.value v) V:=by
 simp[h]
theorem Gx.isAgg{t:Nat}{i:TI}(h:Gx P t i)(w:World):(isAgg t).run P w= .ok i.agg w:=by
 obtain⟨d,L,G⟩:=h.agg;unfold Go.isAgg;rw[Sem.run_bind,run_underlying L w,<-G]
 cases d<;>rfl
theorem Gx.sizeOf{t:Nat}{i:TI}(h:Gx P t i)(w:World):(sizeOf t).run P w= .ok i.size w:=by
 obtain⟨inf,z,L,G,_⟩:=h.info;simp[Go.sizeOf,typeInfo,L,G]
theorem Gx.zeroV{t:Nat}{i:TI}(h:Gx P t i)(w:World):∃z,(zeroValue t).run P w= .ok z w/\z.cells.toList=i.zero:=by
 obtain⟨inf,z,L,G,_,h4,h5⟩:=h.info;exact⟨z,by simp[zeroValue,typeInfo,L,h4],h5⟩
theorem lC{t:Nat}{i:TI}(ht:Gx P t i)(hagg:i.agg=false){w:World}{x:Value}(hc:w.cell? ad=some x):
  (Instr.loadAt t (.pointer (some ad))).run P w= .ok x w:=by
 simp[Instr.loadAt,Instr.sureAddr,loadVar,ht.isAgg,hagg,hc]
theorem kB{t:Nat}{i:TI}(ht:Gx P t i)(hagg:i.agg=true){w:World}(hl:xs.length=i.size)(hc:∀j v,xs[j]? =some v->w.cell? (ad.add j)=some v):
  (Instr.loadAt t (.pointer (some ad))).run P w= .ok (.agg xs.toArray) w:=by
 have:=run_loadCells_list (P:=P) w ad xs hc;rw[hl]at this;simp[Instr.loadAt,Instr.sureAddr,loadVar,ht.isAgg,hagg,ht.sizeOf,this]
theorem dL(g off j:Nat):(⟨g,off,none⟩:Addr).add j=⟨g,off+j,none⟩:=by
 unfold Addr.add;split<;>simp_all
theorem vV:∀{W:List At} {i:Nat},D3 W i=W[i]?
 |[],i=>by simp[D3]
 |x::r,0=>by simp[D3]
 |x::r,i+1=>by simp[D3,vV (W:=r)]
theorem CN:∀{W:List Value} {i:Nat},JP W i=W[i]?
 |[],i=>by simp[JP]
 |x::r,0=>by simp[JP]
 |x::r,i+1=>by simp[JP,CN (W:=r)]
theorem CO:∀{W:List (Nat×Nat)} {i:Nat},JQ W i=W[i]?
 |[],i=>by simp[JQ]
 |x::r,0=>by simp[JQ]
 |x::r,i+1=>by simp[JQ,CO (W:=r)]
theorem cell_of{w:World}{g t:Nat}(h:w.heap[g]? =some (.cells W.toArray t (0,0))):w.cell? ⟨g,off,none⟩=W[off]? :=by
 rw[cell_of_row w g off _ t (0,0) h];simp
theorem fu{O:Nat->dq}:(xs.map At.v).map (At.den O)=xs:=by
 simp[Function.comp_def,At.den]
theorem oR(hτ:fo P τ)(rel0:Rel H nx iv B w O J){t:Nat}{addr:SV}(hs:addr.sc nx){Fn:SV->Prop}(h:CL τ B t addr H nx iv w Fn):
  ∃r,Fn r/\r.sc nx/\∀J,Rel H nx iv B w O J->(Instr.loadAt t (addr.den O)).run P J= .ok (r.den O) J:=by
 unfold CL at h;split at h
 ·exact h.elim
 ·rename_i sz ag by_ ze tag ik e al fs Qp;have ht:=hτ t _ Qp;split at h
  ·rename_i id off;split at h
   ·rename_i bt W hH;split at h
    ·split at h
     ·rename_i x F;rw[vV]at F;refine⟨_,h,rel0.Kh id bt W hH x (aC F),fun J rel=>?_⟩;have hb:=rel.box id bt W hH;exact lC ht rfl (by rw[cell_of hb];simp[F,SV.den])
     ·exact h.elim
    ·have L:=oO h;have G:=oP L.1;refine⟨_,G.1,fun c hc=>rel0.Kh id bt W hH c (List.mem_of_mem_drop (List.mem_of_mem_take hc)),fun J rel=>?_⟩;have hb:=rel.box id bt W hH;refine kB ht rfl (xs:=((W.drop off).take sz).map (At.den O)) ?_ fun j v hv=>?_
     ·have:=G.2;simp only[aJ,aX];omega
     ·rw[dL,cell_of hb];simp only[aL,List.getElem?_take,bj]at hv ⊢;split at hv
      ·exact hv
      ·simp at hv
   ·rename_i bt W hH;split at h
    ·obtain⟨x,F,h⟩:=h;exact⟨_,h,trivial,fun J rel=>lC ht rfl (by rw[cell_of (rel.arr id bt W hH),F];rfl)⟩
    ·obtain⟨xs,F,hl,h⟩:=h;refine⟨_,fy h,fun c hc=>by simp at hc;obtain⟨v,_,rfl⟩:=hc;trivial,fun J rel=>?_⟩;have hb:=rel.arr id bt W hH;simp only[SV.den,fu]
     refine kB ht rfl hl fun j v hv=>?_;rw[dL,cell_of hb];rw[<-F]at hv;simp only[List.getElem?_take,bj]at hv;split at hv
     ·exact hv
     ·simp at hv
   ·rename_i bt ez W hH;split at h
    ·obtain⟨x,F,h⟩:=h;refine⟨_,h,trivial,fun J rel=>?_⟩;have hb:=rel.vec id bt ez W hH;rcases hb with⟨_,rfl⟩|⟨R,spare,hb,_⟩
     ·simp at F
     ·refine lC ht rfl ?_;rw[cell_of hb];have:off<W.length:=(aD.1 F).1;rw[aI this,F];rfl
    ·obtain⟨xs,F,hl,h⟩:=h;refine⟨_,fy h,fun c hc=>by simp at hc;obtain⟨v,_,rfl⟩:=hc;trivial,fun J rel=>?_⟩;have hb:=rel.vec id bt ez W hH;simp only[SV.den,fu]
     rcases hb with⟨_,rfl⟩|⟨R,spare,hb,_⟩
     ·have:xs=[]:=by rw[<-F];simp
      subst this;refine kB ht rfl hl fun j v hv=>by simp at hv
     ·refine kB ht rfl hl fun j v hv=>?_;rw[dL,cell_of hb];rw[<-F]at hv;simp only[List.getElem?_take,bj]at hv;split at hv
      ·rw[aI (aD.1 hv).1];exact hv
      ·simp at hv
   ·exact h.elim
  ·rename_i ad;split at h
   ·obtain⟨x,F,h⟩:=h;exact⟨_,h,trivial,fun J rel=>lC ht rfl (F O J rel)⟩
   ·obtain⟨xs,hl,F,h⟩:=h;refine⟨_,fy h,fun c hc=>by simp at hc;obtain⟨v,_,rfl⟩:=hc;trivial,fun J rel=>?_⟩;simp only[SV.den,fu]
    exact kB ht rfl hl fun j v hv=>F O J rel j v hv
  ·exact h.elim
theorem nE{t:Nat}{i:TI}(ht:Gx P t i){w:World}{g bt:Nat}(hb:w.heap[g]? =some (.cells old.toArray bt (0,0))){v:Value}
  (hv:v.cells=new.toArray) (hl:new.length=i.size) (L:∀x∈new,x.oneCell'=true) (QZ:off+new.length<=old.length):
  (Instr.storeAt t (.pointer (some ⟨g,off,none⟩)) v).run P w= .ok () (w.setRow g (old.take off++new++old.drop (off+new.length)).toArray):=by
 have:=run_storeCells_at (P:=P) g off bt new 0 old.toArray w hb (by simpa using QZ) L;simp only[cF]at this;simp[Instr.storeAt,Instr.sureAddr,storeVar,ht.sizeOf,hv,hl,this]
theorem k7:∀(vs:List Value) (w:World) (b off:Nat),setCells w ⟨b,off,none⟩ vs=w.setCells b off vs
 |[],_,_,_=>rfl
 |x::r,w,b,off=>by
  simp only[setCells,World.setCells,dL]
  exact k7 r _ b (off+1)
theorem xF(hτ:fo P τ)(sat:Sat n l H nx iv B w O a J){t:Nat}{addr x:SV}(hs:addr.sc nx)(F:x.sc nx){Fn:Hp->World->Prop}(h:D4 τ B t addr x H nx iv w Fn):
  ∃H' V w3,Fn H' V/\Rel H' nx iv B V O w3/\(Instr.storeAt t (addr.den O) (x.den O)).run P J= .ok () w3:=by
 unfold D4 at h;split at h
 ·exact h.elim
 rename_i sz ag by_ ze tag ik e al fs Qp;have ht:=hτ t _ Qp;have rel:=sat.rel;have h0:=mT h;clear h;obtain⟨new,h00,Pm,RS⟩:=h0;have h0:=zM h00;clear h00;obtain⟨h,PZ⟩:=h0;split at h
 ·exact h.elim
 rename_i hlen;have hlen:=eX hlen;have PT:=Pm O;have RS:=RS nx F;have L:∀v∈new.map (At.den O),v.oneCell'=true:=by
  intro v hv;simp at hv;obtain⟨c,hc,rfl⟩:=hv;exact one_den (PZ c hc) O
 have QG:(new.map (At.den O)).length=sz:=by simpa using hlen
 split at h
 ·rename_i id off;split at h
  ·rename_i bt W hH;have hb:=rel.box id bt W hH;obtain⟨hr,QZ⟩:=oQ h;obtain⟨H',hK,hH',_⟩:=rJ hr;refine⟨H',w,_,hK,?_,nE ht (old:=W.map (At.den O)) hb PT QG L (by simp;omega)⟩;refine rel.store hH (by simp) (rel.nn id _ hH (by intros;simp) (by simp)) hH' rfl rfl rfl (by simp) (fun k D=>setRow_other _ _ _ _ D) ⟨rel.nn id _ hH (by intros;simp) (by simp),?_⟩ ?_
   ·rw[setRow_heap _ _ _ _ _ _ hb];simp[List.map_drop,List.map_take]
   ·intro c hc;simp only[bB]at hc;rcases hc with(hc|hc)|hc
    ·exact rel.Kh id bt W hH c (List.mem_of_mem_take hc)
    ·exact RS c hc
    ·exact rel.Kh id bt W hH c (List.mem_of_mem_drop hc)
  ·rename_i bt W hH;have hb:=rel.arr id bt W hH;obtain⟨nv,hr,UJ,UY⟩:=lL h;obtain⟨QZ,cs',VN,hr⟩:=hr;obtain⟨H',hK,hH',_⟩:=rJ hr;have Ry:nv.length=sz:=by rw[UJ]at hlen;simpa using hlen
   have Q9:(x.den O).cells=nv.toArray:=by rw[PT,UJ,fu]
   refine⟨H',w,_,hK,?_,nE ht hb Q9 Ry UY (by omega)⟩;refine rel.store hH (by simp) (rel.nn id _ hH (by intros;simp) (by simp)) hH' rfl rfl rfl (by simp) (fun k D=>setRow_other _ _ _ _ D) ⟨rel.nn id _ hH (by intros;simp) (by simp),?_⟩ trivial;rw[setRow_heap _ _ _ _ _ _ hb,Ry,VN]
  ·rename_i bt ez W hH;have hb:=rel.vec id bt ez W hH;obtain⟨nv,hr,UJ,UY⟩:=lL h;obtain⟨QZ,cs',VN,hr⟩:=hr;obtain⟨H',hK,hH',_⟩:=rJ hr;have Ry:nv.length=sz:=by rw[UJ]at hlen;simpa using hlen
   have Q9:(x.den O).cells=nv.toArray:=by rw[PT,UJ,fu]
   rcases hb with⟨PA,rfl⟩|⟨R,spare,hb,SE,Q2⟩
   ·
    have h0:sz=0:=by simp at QZ;omega
    have hnv0:nv=[]:=by cases nv with|nil=>rfl|cons _ _=>simp at Ry;omega
    subst hnv0;have:cs'=[]:=by rw[<-VN];simp
    subst this;refine⟨H',w,J,hK,?_,?_⟩
    ·have XM:∀j,dG H' j=dG H j:=fun j=>by rw[hH'];split<;>simp_all
     exact Rel.mk' rel.os rel.tape rel.output rel.size rel.base rel.oJ (fun id b h=>rel.keys id b (by rw[<-XM];exact h)) (fun id b h=>rel.fits (by rw[<-XM];exact h)) (fun id b h=>rel.scopd (by rw[<-XM];exact h))
      (fun i j b b' L G=>rel.inj i j b b' (by rw[<-XM];exact L) (by rw[<-XM];exact G)) (fun id b h=>rel.low id b (by rw[<-XM];exact h))
      (fun k D Oe=>rel.vP k D fun id b h=>Oe id b (by rw[XM];exact h)) (fun lo A hm id b h=>rel.je lo A hm id b (by rw[<-XM];exact h))
    ·subst h0;show(Instr.storeAt t (.pointer (some ⟨(O id).g,off,none⟩)) (x.den O)).run P J=_;generalize x.den O=xv at Q9 ⊢;simp[Instr.storeAt,Instr.sureAddr,storeVar,ht.sizeOf,Q9,storeCells]
   ·refine⟨H',w,_,hK,?_,nE ht hb Q9 Ry UY (by simp;omega)⟩;refine rel.store hH (by simp) R hH' rfl rfl rfl (by simp) (fun k D=>setRow_other _ _ _ _ D) (.inr ⟨R,spare,?_,?_,Q2⟩) trivial
    ·rw[setRow_heap _ _ _ _ _ _ hb,<-VN,Ry];congr 2;rw[List.take_append_of_le_length (by omega),List.drop_append_of_le_length (by omega)];simp
    ·rw[<-SE,<-VN];simp;omega
  ·exact h.elim
 ·rename_i ad;obtain⟨nv,hr,UJ,UY⟩:=lL h;obtain⟨XN,Of,Oe,hK⟩:=hr O J rel;have Ry:nv.length=sz:=by rw[UJ]at hlen;simpa using hlen
  have Q9:(x.den O).cells=nv.toArray:=by rw[PT,UJ,fu]
  obtain⟨b,off,spot⟩:=ad;simp only at XN Oe;subst XN;have QW:=run_storeCells_cells (P:=P) b off nv 0 J (fun j hj=>by have:=(Of j (by omega)).1;rwa [dL]at this) (fun j hj=>by have:=(Of j (by omega)).2;rwa [dL]at this) UY;have QO:∀k,k≠b->(J.setCells b off nv).heap[k]? =J.heap[k]? :=by
   intro k D;clear QW Of h hr hK UJ UY Q9 Ry
   induction nv generalizing J off with
   |nil=>rfl
   |cons v r ih=>
    simp only[World.setCells]
    rw[show (∀(w0:World) (o:Nat),(w0.setCells b o r).heap[k]? =w0.heap[k]?)from ?_]
    ·simp[World.setCell,Array.getElem?_modify,Ne.symm D]
    ·clear ih;intro w0 o
     induction r generalizing w0 o with
     |nil=>rfl
     |cons v r ih=>simp only[World.setCells];rw[ih];simp[World.setCell,Array.getElem?_modify,Ne.symm D]
  have hfrm:(J.setCells b off nv).os=J.os/\(J.setCells b off nv).tape=J.tape/\(J.setCells b off nv).output=J.output/\(J.setCells b off nv).heap.size=J.heap.size:=by
   have:∀(vs:List Value) (w0:World) (o:Nat),(w0.setCells b o vs).os=w0.os/\(w0.setCells b o vs).tape=w0.tape/\(w0.setCells b o vs).output=w0.output/\(w0.setCells b o vs).heap.size=w0.heap.size:=by
    intro vs
    induction vs with
    |nil=>intro w0 o;exact⟨rfl,rfl,rfl,rfl⟩
    |cons v r ih=>intro w0 o;simp only[World.setCells];obtain⟨L,G,N,h4⟩:=ih (w0.setCell ⟨b,o,none⟩ v) (o+1);exact⟨L,G,N,by rw[h4];simp⟩
   exact this nv J off
  refine⟨H,_,J.setCells b off nv,hK _ rfl,?_,?_⟩
  ·rw[k7];refine Rel.mk' rfl rfl rfl (Nat.le_refl _) (by rw[hfrm.2.2.2];have:=rel.base;have:=rel.size;omega) (fun lo A hm=>by rw[hfrm.2.2.2];have:=rel.oJ lo A hm;have:=rel.size;omega) rel.keys
    (fun id b' h=>jz.gg (rel.fits h) (fun _ _=>rfl) (rel.scopd h) (fun PA _=>QO _ (Oe id b' h PA))) (fun id b' h=>rel.scopd h) rel.inj (fun id b' h PA=>by rw[hfrm.2.2.2];exact rel.low id b' h PA) (fun _ _ _=>rfl) rel.je
  ·show(Instr.storeAt t (.pointer (some ⟨b,off,none⟩)) (x.den O)).run P J=_;generalize x.den O=xv at Q9 ⊢;simp at QW;simp[Instr.storeAt,Instr.sureAddr,storeVar,ht.sizeOf,Q9,Ry,QW]
 ·exact h.elim
end
theorem HD(new:List Value):∀(k off:Nat) (W:Array Value),off+k+new.length<=W.size->
  ((new.zipIdx k).foldl (fun W (c,j)=>W.setIfInBounds (off+j) c) W).toList=W.toList.take (off+k)++new++W.toList.drop (off+k+new.length):=by
 induction new with
 |nil=>intro k off W _;simp
 |cons x r ih=>
  intro k off W h;simp only[List.length_cons]at h;rw[List.zipIdx_cons,List.foldl_cons,ih (k+1) off _ (by simp;omega)];have G:=list_seg_step W.toList (off+k) x r (by simp;omega);simp only[Array.toList_setIfInBounds,List.length_cons]at G ⊢;rw[show off+(k+1)=off+k+1 by omega];exact G
theorem JW{i:Nat}{v:Value}(hp:place i=some (off,size))
  (hv:v.cells=new.toArray) (hl:new.length=size) (QZ:off+new.length<=cells.size):
  Instr.fill place cells ((i,v)::rest)=Instr.fill place (cells.toList.take off++new++cells.toList.drop (off+new.length)).toArray rest:=by
 have h:=HD new 0 off cells (by omega);have e:(v.cells.zipIdx.foldl (fun W (x:Value×Nat)=>W.setIfInBounds (off+x.2) x.1) cells)=(cells.toList.take off++new++cells.toList.drop (off+new.length)).toArray:=by
  rw[hv,<-Array.foldl_toList];apply Array.ext';simpa using h
 conv=>lhs;unfold Instr.fill
 simp only[hp,hv,List.size_toArray,hl]
 rw[aH (by simp;omega)];rw[hv]at e;rw[<-hl,<-e]
section
variable{P:Program}{τ:nR}{B n nx:Nat}{l:Env}{H:Hp}{iv:Iv}{w J:World}{O:Nat->dq}{a:Act}
theorem k8(sat:Sat n l H nx iv B w O a J){place:Nat->(Nat->Nat->Prop)->Prop}{placeF:Nat->Option (Nat×Nat)}
  (hp:∀i k,place i k->∃off size,k off size/\placeF i=some (off,size)):∀{parts:List (Nat×Operand)} {W:List At} {k:List At->Prop},
  vU l place parts W k->(∀c∈W,At.sc nx c)->∃cs',k cs'/\(∀c∈cs',At.sc nx c)/\cs'.length=W.length/\
   Instr.fill placeF (W.map (At.den O)).toArray (parts.map fun p=>(p.1,a.eval p.2))=some (cs'.map (At.den O)).toArray
 |[],W,k,h,hs=>⟨W,h,hs,rfl,by simp[Instr.fill]⟩
 |(i,x)::r,W,k,h,hs=>by
  unfold vU at h;obtain⟨off,size,L,Pv⟩:=hp i _ h;obtain⟨v,G,hv,R4⟩:=dZ sat L;obtain⟨new,N,Pm,RS⟩:=mT G;split at N
  ·rename_i hlen;have hlen:=eX hlen;obtain⟨h4,QZ⟩:=oQ N
   obtain⟨cs',h5,h6,h7,h8⟩:=k8 sat hp h4 (by
    intro c hc;simp only[bB]at hc;rcases hc with(hc|hc)|hc
    ·exact hs c (List.mem_of_mem_take hc)
    ·exact RS nx R4 c hc
    ·exact hs c (List.mem_of_mem_drop hc))
   refine⟨cs',h5,h6,by rw[h7];simp;omega,?_⟩;have hc:=Pm O;rw[List.map_cons,JW (new:=new.map (At.den O)) Pv (by show(a.eval x).cells=_;rw[hv];exact hc) (by simpa using hlen) (by simpa using QZ),<-h8];simp[List.map_drop,List.map_take]
  ·exact N.elim
theorem nF(hτ:fo P τ){f:Nat}{k:Nat->Nat->Bool->Prop}(h:po τ fs f k):
  ∃off ft fi,k off fi.size fi.agg/\fs[f]? =some (off,ft)/\Gx P ft fi/\fi.size≠0:=by
 unfold po at h;split at h
 ·rename_i off ft hf;rw[CO]at hf;split at h
  ·rename_i sz ag by_ ze tag ik e al fs' Qp;split at h
   ·exact h.elim
   ·rename_i PN;exact⟨off,ft,_,h,hf,hτ ft _ Qp,fun e=>by simp at e;subst e;simp at PN⟩
  ·exact h.elim
 ·exact h.elim
theorem zN{t:Nat}{i:TI}(h:Gx P t i)(h5:i.tag=5){f ft:Nat}(hf:i.fields[f]? =some (off,ft)):
  ∃fs fd,P.underlying t=some (.struct fs)/\fs[f]? =some fd/\fd.offset=off/\fd.type=ft:=by
 obtain⟨fs,L,G,_⟩:=h.i5 h5;rw[<-G]at hf;simp only[aL,Option.map_eq_some_iff]at hf;obtain⟨fd,Ql,U⟩:=hf;injection U with e1 e2;exact⟨fs,fd,L,by simpa using Ql,e1,e2⟩
theorem FI{t:Nat}{i:TI}(h:Gx P t i)(h5:i.tag=5){f ft:Nat}{fi:TI}(hf:i.fields[f]? =some (off,ft))(Tm:Gx P ft fi)(PN:fi.size≠0)(ad:Addr)(w:World):
  (Instr.fieldAt t (.pointer (some ad)) f).run P w= .ok (.pointer (some (ad.add off))) w:=by
 obtain⟨fs,fd,L,G,rfl,rfl⟩:=zN h h5 hf;simp[Instr.fieldAt,run_underlying L,G,Instr.sureAddr,fieldPlace,Tm.sizeOf,PN]
theorem tf{x:SV}{Fn:SV->Prop}(h:yf x m Fn)(F:x.sc nx):∃r ad,Fn r/\r.sc nx/\x.den O= .pointer (some ad)/\r.den O= .pointer (some (ad.add m)):=by
 unfold yf at h;split at h
 ·rename_i id off;exact⟨_,⟨(O id).g,off,none⟩,h,F,rfl,by simp[SV.den,At.den,dL]⟩
 ·rename_i ad;exact⟨_,ad,h,trivial,rfl,rfl⟩
 ·exact h.elim
theorem vW(rel:Rel H nx iv B w O J){Fn:Prop}(h:JS H id m Fn):Fn/\((O id).nil=true->m=0):=by
 unfold JS at h;split at h
 ·rename_i t sz W hH;split at h
  ·exact h.elim
  ·rename_i k;refine⟨h.2,fun R=>?_⟩;have L:=h.1;rcases rel.vec id t (k+1) W hH with⟨_,rfl⟩|⟨G,_⟩
   ·have h4:m*(k+1)=0:=by simpa using L.symm
    rcases Nat.mul_eq_zero.1 h4 with h5|h5
    ·exact h5
    ·omega
   ·rw[R]at G;cases G
 ·exact h.elim
theorem JX(hτ:fo P τ){t ty:Nat}{x:SV}(h:aAO τ H t x Fn)(rel:Rel H nx iv B w O J):
  ∃r,Fn r/\∀J,(Builtin.len_ #[t] ty #[x.den O]).run P J= .ok (.int .i64 r) J:=by
 unfold aAO at h;split at h
 ·exact h.elim
 rename_i sz ag by_ ze tag ik e al fs Qp;have ht:=hτ t _ Qp;split at h
 ·rename_i PO;have hu:=ht.i4 (eX PO);split at h
  ·exact⟨_,h,fun J=>by simp[Builtin.len_,run_underlying hu,SV.den,At.den,goInt]⟩
  ·exact⟨_,h,fun J=>by simp[Builtin.len_,run_underlying hu,SV.den,At.den,goInt]⟩
  ·rename_i id m;have L:=vW rel h;refine⟨_,L.1,fun J=>?_⟩
   cases R:(O id).nil
   ·simp[Builtin.len_,run_underlying hu,SV.den,At.den,goInt,R]
   ·have:=L.2 R;subst this;simp[Builtin.len_,run_underlying hu,SV.den,At.den,goInt,R]
  ·exact h.elim
 ·split at h
  ·rename_i PO;have hu:=ht.i3 (eX PO);split at h
   ·exact⟨_,h,fun J=>by simp[Builtin.len_,run_underlying hu,SV.den,At.den,goInt]⟩
   ·exact h.elim
  ·split at h
   ·rename_i PO;have hu:=ht.i6 (eX PO);exact⟨_,h,fun J=>by simp[Builtin.len_,run_underlying hu,goInt]⟩
   ·exact h.elim
theorem FJ(hτ:fo P τ){t:Nat}{x i:SV}{Fn:SV->Prop}(h:Gz τ H t x i Fn)(F:x.sc nx)(rel:Rel H nx iv B w O J):
  ∃r,Fn r/\r.sc nx/\∀J,(Instr.indexAt t (x.den O) (i.den O)).run P J= .ok (r.den O) J:=by
 unfold Gz at h;split at h
 ·rename_i kd i;split at h
  ·rename_i sz ag by_ ze tag ik e al fs Qp;have ht:=hτ t _ Qp;split at h
   ·rename_i sz' ag' by' ze' tag' ik' e' al' fs' Px
    have Px:=hτ e _ Px;split at h
    ·rename_i PO;have hu:=ht.i4 (eX PO);simp only at hu;split at h
     ·rename_i id off m c;obtain⟨hb,h⟩:=h;exact⟨_,h,F,fun J=>by simp[Instr.indexAt,run_underlying hu,asIntOf,SV.den,At.den,hb,Px.sizeOf,dL]⟩
     ·rename_i id m;obtain⟨⟨hb,L⟩,G⟩:=vW rel h;refine⟨_,L,F,fun J=>?_⟩
      cases R:(O id).nil
      ·simp[Instr.indexAt,run_underlying hu,asIntOf,SV.den,At.den,hb,Px.sizeOf,dL,R]
      ·have:=G R;omega
     ·rename_i a0 m c;obtain⟨ad,rfl,hb,h⟩:=h;exact⟨_,h,trivial,fun J=>by simp[Instr.indexAt,run_underlying hu,asIntOf,SV.den,At.den,hb,Px.sizeOf]⟩
     ·exact h.elim
    ·split at h
     ·rename_i PO;have hu:=ht.i6 (eX PO);simp only at hu;obtain⟨hb,h⟩:=h;obtain⟨r,ad,L,G,N,h4⟩:=tf (O:=O) h F;refine⟨r,L,G,fun J=>?_⟩;rw[N,h4];simp[Instr.indexAt,run_underlying hu,asIntOf,SV.den,At.den,Instr.sureAddr,hb,Px.sizeOf]
     ·exact h.elim
   ·exact h.elim
  ·exact h.elim
 ·exact h.elim
theorem lS(sat:Sat n l H nx iv B w O a J){x:Option Operand}{d:Int}(h:NS l x d Fn):∃i,Fn i/\((x=none/\i=d)\/∃o k,x=some o/\a.eval o= .int k i):=by
 unfold NS at h;split at h
 ·exact⟨d,h,.inl ⟨rfl,rfl⟩⟩
 ·obtain⟨v,L,G,N⟩:=dZ sat h;clear N;split at L
  ·rename_i k i;exact⟨i,L,.inr ⟨_,k,rfl,G⟩⟩
  ·exact L.elim
theorem oT{len cap:Nat}{i j:Int}(Tn:(lo=none/\i=0)\/∃o k,lo=some o/\a.eval o= .int k i)(UZ:(A=none/\j=len)\/∃o k,A=some o/\a.eval o= .int k j)
  (h0:0<=i) (L:i<=j) (G:j<=cap):(Instr.sliceBounds true len cap (lo.map a.eval) (A.map a.eval) none).run P J= .ok (i.toNat,j.toNat,cap) J:=by
 rcases Tn with⟨rfl,rfl⟩|⟨o,k,rfl,ho⟩<;>rcases UZ with⟨rfl,rfl⟩|⟨o',k',rfl,S8⟩
 ·simp[Instr.sliceBounds]
 ·have h1':0<=j:=by omega
  simp[Instr.sliceBounds,Instr.sliceBound,S8,asIntOf,h1',G]
 ·have:i<=(len:Int):=L;simp[Instr.sliceBounds,Instr.sliceBound,ho,asIntOf,h0,this]
 ·have h1':0<=j:=by omega
  have N:i<=((j.toNat:Nat):Int):=by omega
  have h3':i<=max j 0:=by omega
  simp[Instr.sliceBounds,Instr.sliceBound,ho,S8,asIntOf,h1',G,h0,h3']
theorem FK{len cap:Nat}{i j:Int}(Tn:(lo=none/\i=0)\/∃o k,lo=some o/\a.eval o= .int k i)(UZ:(A=none/\j=len)\/∃o k,A=some o/\a.eval o= .int k j)
  (h0:0<=i) (L:i<=j) (G:j<=cap):(Instr.sliceBounds false len cap (lo.map a.eval) (A.map a.eval) none).run P J= .ok (i.toNat,j.toNat,cap) J:=by
 rcases Tn with⟨rfl,rfl⟩|⟨o,k,rfl,ho⟩<;>rcases UZ with⟨rfl,rfl⟩|⟨o',k',rfl,S8⟩
 ·simp[Instr.sliceBounds]
 ·have h1':0<=j:=by omega
  simp[Instr.sliceBounds,Instr.sliceBound,S8,asIntOf,h1',G]
 ·have:i<=(len:Int):=L;simp[Instr.sliceBounds,Instr.sliceBound,ho,asIntOf,h0,this]
 ·have h1':0<=j:=by omega
  have N:i<=((j.toNat:Nat):Int):=by omega
  have h3':i<=max j 0:=by omega
  simp[Instr.sliceBounds,Instr.sliceBound,ho,S8,asIntOf,h1',G,h0,h3']
theorem FL(hτ:fo P τ)(sat:Sat n l H nx iv B w O a J){t:Nat}{x:SV}{Fn:SV->Prop}(h:HA τ H t x l lo A Fn)(F:x.sc nx):
  ∃r,Fn r/\r.sc nx/\∀J,(Instr.sliceAt t (x.den O) (lo.map a.eval) (A.map a.eval) none).run P J= .ok (r.den O) J:=by
 unfold HA at h;split at h
 ·rename_i sz ag by_ ze tag ik e al fs Qp;have ht:=hτ t _ Qp;split at h
  ·rename_i PO;have hu:=ht.i4 (eX PO);simp only at hu;split at h
   ·rename_i sz' ag' by' ze' tag' ik' e' al' fs' Px
    have Px:=hτ e _ Px;split at h
    ·rename_i id off m c;obtain⟨i,L,Tn⟩:=lS sat h;obtain⟨j,G,UZ⟩:=lS sat L;obtain⟨⟨b0,b1,b2⟩,off',n',c',e1,rfl,rfl,N⟩:=G;refine⟨_,N,F,fun J=>?_⟩;have hb:=oT (P:=P) (J:=J) Tn UZ b0 b1 b2;subst e1;simp[Instr.sliceAt,Instr.slice,run_underlying hu,SV.den,At.den,hb,Px.sizeOf];by_cases hc:c=i.toNat
     ·rw[if_pos hc,if_pos (by omega)]
     ·rw[aH hc,aH (by omega)];simp[dL]
    ·rename_i ad m c;obtain⟨i,L,Tn⟩:=lS sat h;obtain⟨j,G,UZ⟩:=lS sat L;obtain⟨⟨b0,b1,b2⟩,off',n',c',e1,rfl,rfl,N⟩:=G;refine⟨_,N,trivial,fun J=>?_⟩;have hb:=oT (P:=P) (J:=J) Tn UZ b0 b1 b2;subst e1;simp[Instr.sliceAt,Instr.slice,run_underlying hu,SV.den,At.den,hb,Px.sizeOf];by_cases hc:c=i.toNat
     ·rw[if_pos hc,if_pos (by omega)]
     ·rw[aH hc,aH (by omega)]
    ·rename_i id m;split at h
     ·obtain⟨L,PA⟩:=vW sat.rel h;obtain⟨j,G,UZ⟩:=lS sat L;obtain⟨⟨b0,b1⟩,m',rfl,N⟩:=G;refine⟨_,N,F,fun J=>?_⟩;have Q2:(O id).nil=false->m<=(O id).cap:=fun R=>by
       unfold JS at h;split at h
       ·rename_i t' sz' cs' hH;split at h
        ·exact h.elim
        ·rename_i k;rcases sat.rel.vec id t' (k+1) cs' hH with⟨h5,_⟩|⟨_,spare,_,h6,_⟩
         ·rw[R]at h5;cases h5
         ·have h7:=h.1;have h8:(cs'++spare).length=cs'.length+spare.length:=List.length_append;have h9:m*(k+1)<=(O id).cap*(k+1):=by omega
          exact cA h9 (Nat.succ_pos k)
       ·exact h.elim
      cases R:(O id).nil with
      |true=>
       have hm:=PA R;subst hm;have hb:=oT (P:=P) (J:=J) (len:=0) (cap:=0) (lo:=none) (i:=0) (.inl ⟨rfl,rfl⟩) UZ (Int.le_refl 0) b0 b1;have hj:j.toNat=0:=by omega
       rw[hj]at hb ⊢;simp only[Option.map_none]at hb;simp[Instr.sliceAt,Instr.slice,run_underlying hu,SV.den,At.den,R,hb,Px.sizeOf]
      |false=>
       have hc:=Q2 R;have hb:=oT (P:=P) (J:=J) (len:=m) (cap:=(O id).cap) (lo:=none) (i:=0) (.inl ⟨rfl,rfl⟩) UZ (Int.le_refl 0) b0 (by omega);simp only[Option.map_none]at hb;simp[Instr.sliceAt,Instr.slice,run_underlying hu,SV.den,At.den,R,hb,Px.sizeOf,dL]
     ·exact h.elim
    ·exact h.elim
   ·exact h.elim
  ·split at h
   ·rename_i PO;have hu:=ht.i6 (eX PO);simp only at hu;split at h
    ·rename_i sz' ag' by' ze' tag' ik' e' al' fs' Px
     have Px:=hτ e _ Px;split at h
     ·rename_i id off;split at h
      ·split at h
       ·rename_i h0;refine⟨_,h,F,fun J=>?_⟩;have h0:al≠0:=fun e=>by subst e;cases h0
        simp[Instr.sliceAt,Instr.sliceBounds,run_underlying hu,SV.den,At.den,Px.sizeOf,Instr.sureAddr,dL]
       ·exact h.elim
      ·exact h.elim
     ·exact h.elim
    ·exact h.elim
   ·split at h
    ·rename_i PO;have hu:=ht.i3 (eX PO);split at h
     ·rename_i s;obtain⟨i,L,Tn⟩:=lS sat h;obtain⟨j,G,UZ⟩:=lS sat L;obtain⟨⟨b0,b1,b2⟩,N⟩:=G;refine⟨_,N,trivial,fun J=>?_⟩;have hb:=FK (P:=P) (J:=J) Tn UZ b0 b1 b2;simp[Instr.sliceAt,Instr.slice,run_underlying hu,SV.den,At.den,hb]
     ·exact h.elim
    ·exact h.elim
 ·exact h.elim
end
section
variable{P:Program}{τ:nR}{B n nx:Nat}{l:Env}{H:Hp}{iv:Iv}{w J:World}{O:Nat->dq}{a:Act}
theorem FM(z:Value)(c:Nat):(madeCells #[z] c)=(List.replicate c z).toArray:=by
 unfold madeCells;apply Array.ext';simp[List.map_const',Nat.mod_one]
theorem rK(zs:List Value)(c:Nat):(madeCells zs.toArray (c*zs.length))=((List.replicate c zs).flatten).toArray:=by
 unfold madeCells;apply Array.ext';simp only[Array.toList_map,Array.toList_range,List.size_toArray]
 induction c with
 |zero=>simp
 |succ c ih=>
  rw[Nat.succ_mul,List.range_add,List.map_append,ih,List.replicate_succ',List.flatten_append];simp only[List.flatten_cons,List.flatten_nil,List.append_nil,List.map_map]
  congr 1;apply List.ext_getElem
  ·simp
  ·intro i L G;simp at L;simp[bN L,L]
theorem HE(hτ:fo P τ)(sat:Sat n l H nx iv B w O a J){t:Nat}{x y:SV}{Fn:SV->Hp->Nat->Prop}(h:IL τ t x y H nx Fn):
  ∃r H' On G8 V,Fn r H' On/\Rel H' On iv B w G8 V/\r.sc On/\nx<=On/\(∀id,id<nx->O id=G8 id)/\(Instr.makeSlice t (x.den O) (y.den O)).run P J= .ok (r.den G8) V:=by
 unfold IL at h;split at h
 ·rename_i k1 a1 k2 b1;split at h
  ·rename_i sz ag by_ ze tag ik e al fs Qp;have ht:=hτ t _ Qp;split at h
   ·rename_i PO;have hu:=ht.i4 (eX PO);simp only at hu;split at h
    ·rename_i sz' ag' by' ze' tag' ik' e' al' fs' Px
     have Px:=hτ e _ Px;obtain⟨inf,z,A,PN,PB,hz,R8⟩:=Px.info;simp only at PN PB R8;obtain⟨m,c,rfl,rfl,VO,hbytes,h63,h⟩:=h;have Qq:(inf.bytes:Int)*(c:Int)<=281474976710656:=by
      rw[PB];have Q5:((by'*c:Nat):Int)<=281474976710656:=by omega
      rwa [Int.natCast_mul]at Q5
     have Ot:=run_make (P:=P) J t e inf z hu A hz k1 k2 (m:Int) (c:Int) (by omega) (by omega) Qq (by omega);simp only[aE]at Ot;have fin:∀W:List Value,W.toArray=madeCells z.cells (c*inf.size)->B7 (.arr e W) H nx (fun H' On=>Fn (.o (.s nx 0 m c)) H' On)->
       ∃r H' On G8 V,Fn r H' On/\Rel H' On iv B w G8 V/\r.sc On/\nx<=On/\(∀id,id<nx->O id=G8 id)/\(Instr.makeSlice t (.int k1 m) (.int k2 c)).run P J= .ok (r.den G8) V:=by
      intro W PS hK;refine⟨_,_,_,gT O nx ⟨J.heap.size,0,false⟩,J.alloc (.cells W.toArray e),hK,?_,?_,by omega,gD,?_⟩
      ·refine sat.rel.push (.arr e W) _ rfl rfl rfl (by simp) (fun k D=>heap_alloc_old _ _ D) (fun _=>⟨Nat.le_refl _,by simp⟩) ⟨rfl,heap_alloc_new _ _⟩ trivial
      ·simp[SV.sc,At.sc]
      ·rw[Ot,<-PS];simp[SV.den,At.den]
     have R9:=Px.Gy;simp only at R9;have RT:z.cells=ze'.toArray:=by apply Array.ext';simpa using R8
     split at h
     ·rename_i z0;refine fin _ ?_ h;have:inf.size=1:=by rw[PN,<-R9];rfl
      rw[this,aV,RT,FM]
     ·refine fin _ ?_ h;rw[PN,<-R9,RT];rcases bK ze'.length with h0|h0
      ·have:ze'=[]:=List.eq_nil_of_length_eq_zero h0;subst this;simp[madeCells]
      ·rw[rK]
    ·exact h.elim
   ·exact h.elim
  ·exact h.elim
 ·exact h.elim
theorem HF(sat:Sat n l H nx iv B w O a J){x:SV}{Fn:Nat->List Value->Prop}(QI:0<size)(h:Kq B H nx iv w size x Fn):
  ∃m c ad news,Fn m news/\x.den O= .slice ad m c/\news.length=m*size/\(∀u∈news,u.oneCell'=true)/\
   ((ad=none/\m=0)\/∃ad',ad=some ad'/\∀j u,news[j]? =some u->J.cell? (ad'.add j)=some u):=by
 have rel:=sat.rel;unfold Kq at h;split at h
 ·rename_i id off m c;split at h
  ·rename_i bt W hH;obtain⟨L,hd⟩:=oO h;obtain⟨G,ht⟩:=oP L;obtain⟨vs,N,R4,Ua⟩:=lL G;refine⟨m,c,_,vs,N,rfl,?_,Ua,.inr ⟨_,rfl,fun j u hu=>?_⟩⟩
   ·have:=congrArg List.length R4;simp at this ht;omega
   ·rw[dL,cell_of (rel.box id bt W hH)];have e:(vs.map At.v)[j]? =some (.v u):=by simp[hu]
    rw[<-R4]at e;simp only[List.getElem?_take,bj]at e;split at e
    ·simp[e,At.den]
    ·simp at e
  ·rename_i bt W hH;obtain⟨vs,L,G,N,h4⟩:=h;refine⟨m,c,_,vs,h4,rfl,G,N,.inr ⟨_,rfl,fun j u hu=>?_⟩⟩;rw[dL,cell_of (rel.arr id bt W hH)];rw[<-L]at hu;simp only[List.getElem?_take,bj]at hu;split at hu
   ·exact hu
   ·simp at hu
  ·exact h.elim
 ·rename_i ad m c;obtain⟨vs,L,G,N,h4⟩:=h;refine⟨m,c,ad,vs,h4,rfl,L,G,?_⟩;rcases bK m with h0|h0
  ·subst h0;have:vs=[]:=List.eq_nil_of_length_eq_zero (by simpa using L);subst this
   cases ad with
   |none=>exact .inl ⟨rfl,rfl⟩
   |some ad=>exact .inr ⟨ad,rfl,fun j u hu=>by simp at hu⟩
  ·exact .inr (N O J rel h0)
 ·rename_i id m;split at h
  ·rename_i bt sz W hH;obtain⟨L,G,N⟩:=h;rcases rel.vec id bt sz W hH with⟨R,rfl⟩|⟨R,spare,hb,_⟩
   ·have h0:m=0:=by
     have h4:m*size=0:=by simpa using L.symm
     rcases Nat.mul_eq_zero.1 h4 with h5|h5<;>omega
    subst h0;exact⟨0,0,none,[],N,by simp[SV.den,At.den,R],by simp,by simp,.inl ⟨rfl,rfl⟩⟩
   ·refine⟨m,(O id).cap,_,W,N,by simp only[SV.den,At.den,R];rfl,L,G,.inr ⟨_,rfl,fun j u hu=>?_⟩⟩;rw[dL,cell_of hb,aT,aI (aD.1 hu).1];exact hu
  ·exact h.elim
 ·exact h.elim
theorem lP(w:World)(base:Nat)(t ty e:TypeId)(i:TypeInfo)(size:Nat)(ht:P.underlying t=some (.slice e))(A:P.info? e=some i)
  (v:Value) (m:Nat) (xs:List Value) (Sn:w.ownsRow base e size v m xs) (c:Nat):(Builtin.append_ #[t,t] ty #[v,.slice none 0 c]).run P w= .ok v w:=by
 rcases Sn.2 with⟨rfl,rfl⟩|⟨g,cap,cur,rfl,_,_,Tl,_⟩
 ·simp[Builtin.append_,run_underlying ht,sizeOf,typeInfo,A,Builtin.lenOf,Builtin.firstCells]
 ·simp[Builtin.append_,run_underlying ht,sizeOf,typeInfo,A,Builtin.lenOf,Builtin.firstCells,Tl,storeCells]
theorem pw{w:World}{e:Nat}{v:Value}{base:Nat}(h:w.ownsRow base e size v m xs):
  ∃val:dq,(At.w 0 m).den (fun _=>val)=v/\(jz.vec e size xs).fits (fun _=>val) val w/\(val.nil=false->v.ownBlock=some val.g/\val.g<w.heap.size)/\(val.nil=true->v.ownBlock=none):=by
 rcases h.2 with⟨rfl,rfl⟩|⟨g,cap,cur,rfl,_,hb,Tl,Q2,hcur,RU⟩
 ·have:xs=[]:=List.eq_nil_of_length_eq_zero (by simpa using h.1);exact⟨⟨0,0,true⟩,rfl,.inl ⟨rfl,this⟩,(fun h=>by cases h),fun _=>rfl⟩
 ·refine⟨⟨g,cap,false⟩,rfl,.inr ⟨rfl,cur.toList.drop (m*size),?_,?_,Q2⟩,fun _=>⟨rfl,(aZ.1 hb).1⟩,(fun h=>by cases h)⟩
  ·rw[<-RU,List.take_append_drop];simpa using hb
  ·rw[<-RU,List.take_append_drop];simpa using hcur
theorem zO(rel:Rel H nx iv B w O J){e sz:Nat}(hH:dG H id=some (.vec e sz W))(hl:W.length=m*sz)(QI:0<sz):
  J.ownsRow B e sz ((At.w id m).den O) m W:=by
 rcases rel.vec id e sz W hH with⟨R,rfl⟩|⟨R,spare,hb,SE,Q2⟩
 ·have h0:m=0:=by
   have h4:m*sz=0:=by simpa using hl.symm
   rcases Nat.mul_eq_zero.1 h4 with h5|h5<;>omega
  subst h0;simp only[At.den,R]
  exact World.ownsRow_nil _ _ _ _
 ·refine⟨hl,.inr ⟨(O id).g,(O id).cap,_,by simp only[At.den,R],(rel.low id _ hH R).1,hb,?_,Q2,by simpa using SE,by simp[<-hl]⟩⟩;have L:m*sz<=(O id).cap*sz:=by rw[<-SE,<-hl];simp
  exact cA L QI
theorem tc(hτ:fo P τ)(sat:Sat n l H nx iv B w O a J){t ty:Nat}{x y:SV}{Fn:SV->Hp->Nat->Prop}(h:yg τ B t x y H nx iv w Fn):
  ∃r H' On G8 V,Fn r H' On/\Rel H' On iv B w G8 V/\r.sc On/\nx<=On/\(∀id,id<nx->O id=G8 id)/\(Builtin.append_ #[t,t] ty #[x.den O,y.den O]).run P J= .ok (r.den G8) V:=by
 have rel:=sat.rel;unfold yg at h;split at h
 ·exact h.elim
 rename_i sz ag by_ ze tag ik e al fs Qp;have ht:=hτ t _ Qp;split at h
 ·rename_i PO;have hu:=ht.i4 (eX PO);simp only at hu;split at h
  ·rename_i sz' ag' by' ze' tag' ik' e' al' fs' Px
   have Px:=hτ e _ Px;split at h
   ·exact h.elim
   ·rename_i z0 zr;obtain⟨inf,z,A,PN,PB,hz,R8⟩:=Px.info;have R9:=Px.Gy;simp only at PN PB R8 R9;have QI:0<sz':=by rw[<-R9];simp
    have WG:z.cells.size=sz':=by rw[<-R9,<-R8];simp
    have h0:=HF sat QI h;clear h;obtain⟨m,c,ad,news,h,hy,Ry,WV,hsrc⟩:=h0;have happ:∀(v:Value) (k:Nat) (xs:List Value),J.ownsRow B e sz' v k xs->(k+m)*by'<=140737488355328->k+m<=maxLen->
      ∃v' V,(Builtin.append_ #[t,t] ty #[v,y.den O]).run P J= .ok v' V/\V.ownsRow B e sz' v' (k+m) (xs++news)/\J.grownBy V v.ownBlock/\(v'.ownBlock=v.ownBlock\/v'.ownBlock=some J.heap.size):=by
     intro v k xs Sn hb RM;rw[hy];rcases hsrc with⟨rfl,rfl⟩|⟨ad',rfl,Pm⟩
     ·have:news=[]:=List.eq_nil_of_length_eq_zero (by simpa using Ry);subst this;exact⟨v,J,lP J B t ty e inf sz' hu A v k xs Sn c,by simpa using Sn,⟨rfl,rfl,rfl,Nat.le_refl _,fun _ _ _=>rfl⟩,.inl rfl⟩
     ·obtain⟨v',V,L,G,N,_,h5⟩:=run_append_own_at (P:=P) J B t ty e inf z sz' by' hu A hz PN PB WG QI v k xs Sn ad' m c news Ry Pm WV RM hb (by have:=rel.base;have:=rel.size;omega)
      exact⟨v',V,L,G,N,h5⟩
    split at h
    ·obtain⟨hb,RM,hK⟩:=h;obtain⟨v',V,L,G,N,h5⟩:=happ (.slice none 0 0) 0 [] (World.ownsRow_nil _ _ _ _) (by simpa using hb) (by simpa using RM);simp only[aT,List.nil_append]at G;obtain⟨val,Ua,Rh,hv3,hv4⟩:=pw G;refine⟨_,_,_,gT O nx val,V,hK,?_,by simp[SV.sc,At.sc],by omega,gD,?_⟩
     ·refine rel.push (.vec e sz' news) val N.os N.tape N.output N.size (fun k D=>N.block k D (by simp[Value.ownBlock])) (fun R=>?_) (by simpa [jz.fits]using Rh) trivial;have:=hv3 R;rcases h5 with h6|h6
      ·rw[this.1]at h6;simp[Value.ownBlock]at h6
      ·rw[this.1]at h6;injection h6 with h6;exact⟨by omega,this.2⟩
     ·rw[show SV.den O (.o (.v (.slice none 0 0)))= .slice none 0 0 from rfl,L,<-Ua];simp[SV.den,At.den]
    ·rename_i id k;split at h
     ·rename_i e1 sz1 W hH;split at h
      ·rename_i he1;have he1:=eX he1;subst he1;split at h
       ·rename_i Ps;have Ps:=eX Ps;subst Ps;obtain⟨hl,hb,RM,h⟩:=h;obtain⟨H1,hK,hH1,_⟩:=s4 h;obtain⟨v',V,L,G,N,h5⟩:=happ _ k W (zO rel hH hl QI) hb RM;obtain⟨val,Ua,Rh,hv3,hv4⟩:=pw G;have RN:(O id).nil=false->((At.w id k).den O).ownBlock=some (O id).g:=fun R=>by simp[At.den,R,Value.ownBlock]
        have hob':(O id).nil=true->((At.w id k).den O).ownBlock=none:=fun R=>by simp[At.den,R,Value.ownBlock]
        refine⟨_,_,_,gT O nx val,V,hK,?_,by simp[SV.sc,At.sc],by omega,gD,?_⟩
        ·refine rel.Kt hH (by simp) hH1 (.vec e1 sz1 (W++news)) val N.os N.tape N.output N.size (fun j hj Oe=>?_) (fun R=>?_) (by simpa [jz.fits]using Rh) trivial
         ·refine N.block j hj fun e=>?_
          cases PA:(O id).nil
          ·rw[RN PA]at e;injection e with e;exact Oe PA e
          ·rw[hob' PA]at e;cases e
         ·have:=hv3 R;rcases h5 with h6|h6
          ·rw[this.1]at h6
           cases PA:(O id).nil
           ·rw[RN PA]at h6;injection h6 with h6;exact .inr ⟨rfl,h6⟩
           ·rw[hob' PA]at h6;cases h6
          ·rw[this.1]at h6;injection h6 with h6;exact .inl ⟨by omega,this.2⟩
        ·rw[show SV.den O (.o (.w id k))=(At.w id k).den O from rfl,L,<-Ua];simp[SV.den,At.den]
       ·exact h.elim
      ·exact h.elim
     ·exact h.elim
    ·rename_i id k c0;split at h
     ·rename_i hkc;have hkc:=eX hkc;subst hkc;split at h
      ·rename_i e1 cs0 hH;split at h
       ·rename_i he1;have he1:=eX he1;subst he1;obtain⟨W,⟨hl,hb,RM,h9⟩,rfl,_⟩:=lL h;obtain⟨H1,hK,hH1,_⟩:=s4 h9;have PA:(O id).nil=false:=rel.nn id _ hH (by intros;simp) (by simp);have QM:=rel.box id _ _ hH;rw[fu]at QM;have Sn:J.ownsRow B e1 sz' ((At.s id 0 k k).den O) k W:=by
         refine⟨hl,.inr ⟨(O id).g,k,_,by simp only[At.den],(rel.low id _ hH PA).1,QM,Nat.le_refl _,by omega,by simp[hl],by simp[<-hl]⟩⟩
        obtain⟨v',V,L,G,N,h5⟩:=happ _ k W Sn hb RM;obtain⟨val,Ua,Rh,hv3,hv4⟩:=pw G;have RN:((At.s id 0 k k).den O).ownBlock=some (O id).g:=by simp[At.den,Value.ownBlock]
        refine⟨_,_,_,gT O nx val,V,hK,?_,by simp[SV.sc,At.sc],by omega,gD,?_⟩
        ·refine rel.Kt hH (by simp) hH1 (.vec e1 sz' (W++news)) val N.os N.tape N.output N.size (fun j hj Oe=>?_) (fun R=>?_) (by simpa [jz.fits]using Rh) trivial
         ·refine N.block j hj fun e=>?_;rw[RN]at e;injection e with e;exact Oe PA e
         ·have:=hv3 R;rcases h5 with h6|h6
          ·rw[this.1]at h6;rw[RN]at h6;injection h6 with h6;exact .inr ⟨PA,h6⟩
          ·rw[this.1]at h6;injection h6 with h6;exact .inl ⟨by omega,this.2⟩
        ·rw[show SV.den O (.o (.s id 0 k k))=(At.s id 0 k k).den O from rfl,L,<-Ua];simp[SV.den,At.den]
       ·exact h.elim
      ·exact h.elim
     ·exact h.elim
    ·exact h.elim
  ·exact h.elim
 ·exact h.elim
end
end Go.Sx
