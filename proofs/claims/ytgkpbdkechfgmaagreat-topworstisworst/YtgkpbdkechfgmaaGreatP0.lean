/- Texts Sx1 to Sx6: lemmas, each with its conditions. -/
import Derived.WalkKit
import Derived.Maps.AppendAt
import Derived.Laws.IdiomCopy
import Derived.Great.BuildSlice
namespace Go
variable{i m n:Nat}
theorem aA.{u_1}{α:Type u_1}{l:List α}(h:i<l.length):l[i]? =some l[i]:=List.getElem?_eq_getElem h
theorem aB.{u_1}{α:Type u_1}(y:α){a:α}{l:List α}:a∈l->a∈y::l:=List.mem_cons_of_mem y
theorem aC.{u_1}{α:Type u_1}{a:α}{l:List α}:l[i]? =some a↔∃h:i<l.length,l[i]=a:=List.getElem?_eq_some_iff
theorem aD.{u_1}{α:Type u_1}{l:List α}{a:α}(e:l[i]? =some a):a∈l:=List.mem_of_getElem? e
theorem aE(n:Nat):n<=n:=Nat.le_refl n
theorem aF.{u}{c:Prop}{h:Decidable c}(hnc:¬c){α:Sort u}{t e:α}:(if c then t else e)=e:=if_neg hnc
theorem aG(n:Nat):((n:Int)).toNat=n:=Int.toNat_natCast n
theorem aH.{u_1}{α:Type u_1}{a:α}{l:List α}:a∈a::l:=List.mem_cons_self
theorem aI{p:Prop} [inst:Decidable p]:decide p=false->¬p:=of_decide_eq_false
theorem aJ.{u_1}{α:Type u_1}{l₁ l₂:List α}(A:i<l₁.length):(l₁++l₂)[i]? =l₁[i]? :=List.getElem?_append_left A
theorem aK.{u_1,u_2}{α:Type u_1}{β:Type u_2}{as:List α}(f:α->β):(List.map f as).length=as.length:=List.length_map f
theorem aL{p:Prop} [inst:Decidable p]:decide p=true->p:=of_decide_eq_true
theorem aM.{u_1,u_2}{α:Type u_1}{β:Type u_2}{f:α->β}{l:List α}:(List.map f l)[i]? =Option.map f l[i]? :=List.getElem?_map
theorem aN.{u_1}{α:Type u_1}{l₁ l₂:List α}:l₁.length<=i->(l₁++l₂)[i]? =l₂[i-l₁.length]? :=List.getElem?_append_right
theorem aO(n m:Nat):n<m\/n≥m:=Nat.lt_or_ge n m
theorem aP(n:Nat):0<=n:=Nat.zero_le n
theorem aQ.{u_1}{α:Type u_1}{a:α}{l:List α}(h:a∈l):∃i:Nat,l[i]? =some a:=List.getElem?_of_mem h
theorem aR.{u_1}{α:Type u_1}{l:List α}{a:α}(h:i<l.length):(l.set i a)[i]? =some a:=List.getElem?_set_self h
theorem aS(h₁:n<=m)(h₂:m<=n):n=m:=Nat.le_antisymm h₁ h₂
theorem aT.{u_1,u_2}{α:Type u_1}{β:Type u_2}{b:β}{f:α->β}{l:List α}:b∈List.map f l↔∃a,a∈l/\f a=b:=List.mem_map
theorem aU(n:Nat):0+n=n:=Nat.zero_add n
theorem aV.{u_1}{α:Type u_1}{l:List α}(h:n<l.length):l[n]∈l:=List.getElem_mem h
theorem aW.{u_1}{α:Type u_1}{b:α}{xs:Array α}:xs[i]? =some b↔∃h:i<xs.size,xs[i]=b:=Array.getElem?_eq_some_iff
theorem aX.{u_1}{α:Type u_1}{xs:Array α}{d:α}:xs.getD i d=xs[i]?.getD d:=Array.getD_eq_getD_getElem?
theorem aY.{u_1}{α:Type u_1}{l:List α}{j:Nat}(h:i≠j){a:α}:(l.set i a)[j]? =l[j]? :=List.getElem?_set_ne h
theorem aZ(a b:Bool):((a&&b)=true)=(a=true/\b=true):=Bool.and_eq_true a b
theorem a9{k:Nat}:n<=m->m<=k->n<=k:=Nat.le_trans
theorem aa.{u}{α:Type u}{a:α}:(List.replicate n a).length=n:=List.length_replicate
theorem ah.{u_1}{α:Type u_1}{l:List α}:(List.take i l).length=min i l.length:=List.length_take
theorem ai(a:Rat):a*0=0:=Rat.mul_zero a
theorem az(n:Nat):n*1=n:=Nat.mul_one n
theorem bA.{u}{α:Type u}{xs:Array α}:xs.toList[i]? =xs[i]? :=Array.getElem?_toList
theorem bB.{u_1}{α:Type u_1}{l:List α}{a b:α}:a∈l.set i b->a∈l\/a=b:=List.mem_or_eq_of_mem_set
theorem bC(n:Nat):n-n=0:=Nat.sub_self n
theorem bD(a:Rat):0*a=0:=Rat.zero_mul a
theorem bE{a b:Nat}(h:a<b):a % b=a:=Nat.mod_eq_of_lt h
theorem bF(n:Nat):n=0\/n>0:=Nat.eq_zero_or_pos n
theorem bG.{u_1}{α:Type u_1}{a:α}{s t:List α}:a∈s++t↔a∈s\/a∈t:=List.mem_append
theorem bH.{u}{α:Type u}{as:List α}{a:α}:(as.set i a).length=as.length:=List.length_set
theorem bI{p:Prop} [Decidable p]:¬p->decide p=false:=decide_eq_false
theorem bJ.{u_1}{α:Type u_1}{l₁ l₂:List α}(h:∀(i:Nat),l₁[i]? =l₂[i]?):l₁=l₂:=List.ext_getElem? h
theorem bK.{u_1}{α:Type u_1}{a b:α}:a∈[b]↔a=b:=List.mem_singleton
theorem bL.{u}{α:Type u}{a:α}{as:List α}:(a::as).length=as.length+1:=List.length_cons
theorem bM.{u_1}{α:Type u_1}{l:List α}{j:Nat}(h:i<j):(List.take j l)[i]? =l[i]? :=List.getElem?_take_of_lt h
theorem bN.{u_1}{α:Type u_1}{a b:α}(h:b∈List.replicate n a):b=a:=List.eq_of_mem_replicate h
theorem bO(n m:Nat):n*m=m*n:=Nat.mul_comm n m
theorem bP.{u}{α:Type u}(as bs G:List α):as++bs++G=as++(bs++G):=List.append_assoc as bs G
theorem bQ.{u_1}{α:Type u_1}{l:List α}:List.take l.length l=l:=List.take_length
theorem bS(n m k:Nat):n*(m+k)=n*m+n*k:=Nat.mul_add n m k
theorem bT.{u_1}{α:Type u_1}{xs:Array α}{a:α}:(xs.setIfInBounds i a).size=xs.size:=Array.size_setIfInBounds
theorem bU{a:Int}(h:a<0):a.sign= -1:=Int.sign_eq_neg_one_of_neg h
theorem bV(n:Nat):n<n.succ:=Nat.lt_succ_self n
theorem bW(a:Rat):a+0=a:=Rat.add_zero a
theorem bX:n.beq m=true->n=m:=Nat.eq_of_beq_eq_true
theorem bY{p:Prop} [inst:Decidable p]:p->decide p=true:=decide_eq_true
theorem bZ(k:Nat)(h:n<=m):k*n<=k*m:=Nat.mul_le_mul_left k h
theorem b9(h:i<n):(List.range n)[i]? =some i:=List.getElem?_range h
theorem ba{a:Int}(h:0<a):a.sign=1:=Int.sign_eq_one_of_pos h
theorem bb(n m k:Nat):n*m*k=n*(m*k):=Nat.mul_assoc n m k
theorem bc:List.range n.succ=List.range n++[n]:=List.range_succ
theorem bf(a b:Rat):a / b=a*b⁻¹:=Rat.div_def a b
theorem bg(a b:Rat):a*b=b*a:=Rat.mul_comm a b
theorem bh(w:Nat):0<2^w:=Nat.two_pow_pos w
theorem bj(n:Nat):n+0=n:=Nat.add_zero n
theorem bl(x:Nat){y:Nat}(hy:0<y):x % y<y:=Nat.mod_lt x hy
theorem bm(a:Rat):1*a=a:=Rat.one_mul a
end Go
namespace Go.Sx
open Go
variable{next:Act->World->Prop}{ad:Addr}{cells:Array Value}{b:Bool}{Q:Exit->Act->World->Prop}{G9:Int->Prop}{fs:List (Nat×Nat)}{rest:List (Nat×Value)}{G new old xs:List Value}{B id m n nx off size:Nat}{place:Nat->Option (Nat×Nat)}{N lo:Option Operand}{FS:Prop}{J Y:World}
inductive At where
 |v (x:Value)
 |p (id off:Nat)
 |s (id off len cap:Nat)
 |w (id len:Nat)
 |fn (f:Nat) (caps:List Nat)
inductive SV where
 |o (x:At)
 |a (G:List At)
structure cd where
 g:Nat
 cap:Nat
 nil:Bool
def At.den(O:Nat->cd):At->Value
 | .v x=>x
 | .p id off=>.pointer (some ⟨(O id).g,off,none⟩)
 | .s id off len cap=>.slice (some ⟨(O id).g,off,none⟩) len cap
 | .w id len=>match(O id).nil with
  |true=>.slice none 0 0
  |false=>.slice (some ⟨(O id).g,0,none⟩) len (O id).cap
 | .fn f caps=>.func (.func f) #[] (caps.map fun id=>Value.pointer (some ⟨(O id).g,0,none⟩)).toArray
def SV.den(O:Nat->cd):SV->Value
 | .o x=>x.den O
 | .a G=>.agg (G.map (At.den O)).toArray
def At.sc(n:Nat):At->Prop
 | .v _=>True
 | .p id _=>id<n
 | .s id _ _ _=>id<n
 | .w id _=>id<n
 | .fn _ caps=>∀id∈caps,id<n
def SV.sc(n:Nat):SV->Prop
 | .o x=>x.sc n
 | .a G=>∀x∈G,At.sc n x
inductive ix where
 |box (t:Nat) (G:List At)
 |arr (t:Nat) (G:List Value)
 |vec (t:Nat) (size:Nat) (G:List Value)
 |dead
abbrev Env:=List (Nat×SV)
abbrev Hp:=List (Nat×ix)
abbrev Iv:=List (Nat×Nat)
def eX:Env->Nat->Option SV
 |[],_=>none
 |(t,v)::r,u=>match Nat.beq t u with
  |true=>some v
  |false=>eX r u
def cO:Hp->Nat->Option ix
 |[],_=>none
 |(t,v)::r,u=>match Nat.beq t u with
  |true=>some v
  |false=>cO r u
def xm:Hp->Nat->(Hp->Prop)->Prop
 |[],_,_=>False
 |(t,v)::r,u,k=>match Nat.beq t u with
  |true=>k ((t,.dead)::r)
  |false=>xm r u (fun r'=>k ((t,v)::r'))
def Bg:Hp->Nat->ix->(Hp->Prop)->Prop
 |[],_,_,_=>False
 |(t,v)::r,u,b,k=>match Nat.beq t u with
  |true=>k ((t,b)::r)
  |false=>Bg r u b (fun r'=>k ((t,v)::r'))
structure TI where
 size:Nat
 agg:Bool
 bytes:Nat
 zero:List Value
 tag:Nat
 ik:IntKind:=.i64
 elem:Nat:=0
 yu:Nat:=0
 fields:List (Nat×Nat):=[]
def ev(l:Env):Operand->Option SV
 | .tmp t=>eX l t
 | .const v=>some (.o (.v v))
 | .global g=>some (.o (.v (.pointer (some ⟨g,0,none⟩))))
 | .func f=>some (.o (.v (.func (.func f) #[] #[])))
def nE(l:Env)(x:Operand)(k:SV->Prop):Prop:=match ev l x with
 |some v=>k v
 |none=>False
def Et(l:Env):List Operand->(List SV->Prop)->Prop
 |[],k=>k []
 |x::r,k=>match ev l x with
  |some v=>Et l r (fun vs=>k (v::vs))
  |none=>False
def qG:List At->Nat->(List At->Prop)->Prop
 |l,0,k=>k l
 |[],_+1,_=>False
 |_::t,n+1,k=>qG t n k
def qH:List At->Nat->(List At->Prop)->Prop
 |_,0,k=>k []
 |[],_+1,_=>False
 |x::t,n+1,k=>qH t n (fun r=>k (x::r))
def xn:List At->List At->(List At->Prop)->Prop
 |G,[],k=>k G
 |[],_::_,_=>False
 |_::t,x::r,k=>xn t r (fun t'=>k (x::t'))
def oQ:List At->Nat->List At->(List At->Prop)->Prop
 |G,0,new,k=>xn G new k
 |[],_+1,_,_=>False
 |x::t,n+1,new,k=>oQ t n new (fun t'=>k (x::t'))
def nF:List Value->(List At->Prop)->Prop
 |[],k=>k []
 |x::r,k=>nF r (fun r'=>k (.v x::r'))
def uM:SV->(List At->Prop)->Prop
 | .a G,k=>k G
 | .o (.v (.agg ⟨l⟩)),k=>nF l k
 | .o (.v (.tuple _)),_=>False
 | .o x,k=>k [x]
def At.one:At->Bool
 | .v (.agg _)=>false
 | .v (.tuple _)=>false
 |_=>true
def DB:List At->Prop->Prop
 |[],k=>k
 |x::r,k=>match x.one with
  |true=>DB r k
  |false=>False
def tQ:List At->(List Value->Prop)->Prop
 |[],k=>k []
 | .v x::r,k=>match At.one (.v x)with
  |true=>tQ r (fun r'=>k (x::r'))
  |false=>False
 |_::_,_=>False
def ct(b:Bool)(FS B:Prop):Prop:=match b with
 |true=>FS
 |false=>B
theorem ct.t{B:Prop}(h:ct b FS B)(e:b=true):FS:=by subst e;exact h
theorem ct.f{B:Prop}(h:ct b FS B)(e:b=false):B:=by subst e;exact h
theorem ct.mk{B:Prop}(V:b=true->FS)(I:b=false->B):ct b FS B:=by
 cases b
 ·exact I rfl
 ·exact V rfl
structure Rel(H:Hp)(nx:Nat)(iv:Iv)(B:Nat)(w:World)(O:Nat->cd)(J:World):Prop where
 os:J.os=w.os
 tape:J.tape=w.tape
 output:J.output=w.output
 size:w.heap.size<=J.heap.size
 base:B<=w.heap.size
 oR:∀lo N,(lo,N)∈iv->N<=w.heap.size
 keys:∀id b,cO H id=some b->id<nx
 box:∀id t G,cO H id=some (.box t G)->J.heap[(O id).g]? =some (.cells (G.map (At.den O)).toArray t (0,0))
 arr:∀id t G,cO H id=some (.arr t G)->J.heap[(O id).g]? =some (.cells G.toArray t (0,0))
 vec:∀id t size G,cO H id=some (.vec t size G)->((O id).nil=true/\G=[])\/
  ((O id).nil=false/\∃spare:List Value,J.heap[(O id).g]? =some (.cells (G++spare).toArray t (0,0))/\(G++spare).length=(O id).cap*size/\(O id).cap<=maxLen)
 inj:∀id id' b b',cO H id=some b->cO H id'=some b'->b≠ .dead->b'≠ .dead->(O id).nil=false->(O id').nil=false->(O id).g=(O id').g->id=id'
 low:∀id b,cO H id=some b->(O id).nil=false->B<=(O id).g/\(O id).g<J.heap.size
 rP:∀k,k<w.heap.size->(∀id b,cO H id=some b->(O id).nil=false->(O id).g≠k)->J.heap[k]? =w.heap[k]?
 ie:∀lo N,(lo,N)∈iv->∀id b,cO H id=some b->(O id).nil=false->¬(lo<=(O id).g/\(O id).g<N)
 Eu:∀id t G,cO H id=some (.box t G)->∀x∈G,At.sc nx x
 nn:∀id b,cO H id=some b->(∀t size G,b≠ .vec t size G)->b≠ .dead->(O id).nil=false
structure FD(P:Program)(g:Nat):Prop where
 h:∀(args:Array Value) (w:World),(callFunc g args).run P w= .ok (.enter g args) w
structure eF(P:Program)(g:Nat)(args:Array Value)(w:World)(Do:Ending->World->Prop):Prop where
 e:FD P g
 c:Calls P g args w Do
def yz:List At->Nat->Option At
 |[],_=>none
 |x::_,0=>some x
 |_::t,n+1=>yz t n
def Dy:List Value->Nat->Option Value
 |[],_=>none
 |x::_,0=>some x
 |_::t,n+1=>Dy t n
def Dz:List (Nat×Nat)->Nat->Option (Nat×Nat)
 |[],_=>none
 |x::_,0=>some x
 |_::t,n+1=>Dz t n
def nI:IntKind->IntKind->Bool
 | .i8,.i8=>true| .i16,.i16=>true| .i32,.i32=>true| .i64,.i64=>true
 | .u8,.u8=>true| .u16,.u16=>true| .u32,.u32=>true| .u64,.u64=>true
 |_,_=>false
abbrev l9:=Nat->Option TI
def EA(op:BinOp)(k:IntKind)(a b:Int)(G9:Value->Prop):Prop:=
 match op with
 | .add=>∃r,k.wrap (a+b)=r/\G9 (.int k r)
 | .sub=>∃r,k.wrap (a-b)=r/\G9 (.int k r)
 | .mul=>∃r,k.wrap (a*b)=r/\G9 (.int k r)
 | .quo=>b≠0/\∃r,k.wrap (a.tdiv b)=r/\G9 (.int k r)
 | .rem=>b≠0/\∃r,a.tmod b=r/\G9 (.int k r)
 | .and=>∃r,k.wrap ((BitVec.ofInt k.bits a &&& BitVec.ofInt k.bits b).toNat:Int)=r/\G9 (.int k r)
 | .or=>∃r,k.wrap ((BitVec.ofInt k.bits a ||| BitVec.ofInt k.bits b).toNat:Int)=r/\G9 (.int k r)
 | .xor=>∃r,k.wrap ((BitVec.ofInt k.bits a ^^^ BitVec.ofInt k.bits b).toNat:Int)=r/\G9 (.int k r)
 | .shl=>0<=b/\∃r,k.wrap (a*2^(min b.toNat k.bits))=r/\G9 (.int k r)
 | .shr=>0<=b/\∃r,a.fdiv (2^(min b.toNat k.bits))=r/\G9 (.int k r)
 | .eql=>G9 (.bool (a==b))
 | .neq=>G9 (.bool (a != b))
 | .lss=>G9 (.bool (decide (a<b)))
 | .leq=>G9 (.bool (decide (a<=b)))
 | .gtr=>G9 (.bool (decide (a>b)))
 | .geq=>G9 (.bool (decide (a≥b)))
 | .andNot=>∃r,k.wrap ((BitVec.ofInt k.bits a &&& ~~~BitVec.ofInt k.bits b).toNat:Int)=r/\G9 (.int k r)
def Ih(P:Program)(τ:l9)(op:BinOp)(t:Nat)(x y:SV)(G9:SV->Prop):Prop:=
 match x,y with
 | .o (.v (.int k a)),.o (.v (.int k' b))=>
  match op with
  | .shl=>EA op k a b (fun r=>G9 (.o (.v r)))
  | .shr=>EA op k a b (fun r=>G9 (.o (.v r)))
  |_=>match nI k k' with
   |true=>EA op k a b (fun r=>G9 (.o (.v r)))
   |false=>False
 | .o (.v (.bool a)),.o (.v (.bool b))=>
  match τ t with
  |some ti=>match Nat.beq ti.tag 2 with
   |true=>match op with
    | .eql=>G9 (.o (.v (.bool (a==b))))
    | .neq=>G9 (.o (.v (.bool (!(a==b)))))
    |_=>False
   |false=>False
  |none=>False
 | .o (.v (.string a)),.o (.v (.string b))=>
  match op with
  | .eql=>G9 (.o (.v (.bool (a.data.toList==b.data.toList))))
  | .neq=>G9 (.o (.v (.bool (!(a.data.toList==b.data.toList)))))
  | .add=>a.size+b.size<=maxLen/\G9 (.o (.v (.string (a++b))))
  |_=>False
 |_,_=>∃b:Bool,(∀(O:Nat->cd) (w:World) (o1 o2:Operand),(do eqGuard op t o1 o2 (x.den O) (y.den O);binOp op t (x.den O) (y.den O)).run P w= .ok (.bool b) w)/\G9 (.o (.v (.bool b)))
def xw(τ:l9)(B:Nat)(t:Nat)(addr:SV)(H:Hp)(nx:Nat)(iv:Iv)(w:World)(G9:SV->Prop):Prop:=
 match τ t with
 |none=>False
 |some ⟨sz,ag,_,_,_,_,_,_,_⟩=>
  match addr with
  | .o (.p id off)=>
   match cO H id with
   |some (.box _ G)=>
    match ag with
    |false=>match yz G off with
     |some x=>G9 (.o x)
     |none=>False
    |true=>qG G off (fun r=>qH r sz (fun l=>G9 (.a l)))
   |some (.arr _ G)=>
    match ag with
    |false=>∃x,G[off]? =some x/\G9 (.o (.v x))
    |true=>∃xs:List Value,(G.drop off).take sz=xs/\xs.length=sz/\nF xs (fun l=>G9 (.a l))
   |some (.vec _ _ G)=>
    match ag with
    |false=>∃x,G[off]? =some x/\G9 (.o (.v x))
    |true=>∃xs:List Value,(G.drop off).take sz=xs/\xs.length=sz/\nF xs (fun l=>G9 (.a l))
   |_=>False
  | .o (.v (.pointer (some ad)))=>
   match ag with
   |false=>∃x,(∀O J,Rel H nx iv B w O J->J.cell? ad=some x)/\G9 (.o (.v x))
   |true=>∃xs:List Value,xs.length=sz/\(∀O J,Rel H nx iv B w O J->∀j x,xs[j]? =some x->J.cell? (ad.add j)=some x)/\nF xs (fun l=>G9 (.a l))
  |_=>False
def setCells(w:World)(a:Addr):List Value->World
 |[]=>w
 |x::r=>setCells (w.setCell a x) (a.add 1) r
def zA(τ:l9)(B:Nat)(t:Nat)(addr x:SV)(H:Hp)(nx:Nat)(iv:Iv)(w:World)(G9:Hp->World->Prop):Prop:=
 match τ t with
 |none=>False
 |some ⟨sz,_,_,_,_,_,_,_,_⟩=>
  uM x (fun new=>DB new (match Nat.beq new.length sz with
   |false=>False
   |true=>match addr with
    | .o (.p id off)=>
     match cO H id with
     |some (.box bt G)=>oQ G off new (fun cs'=>Bg H id (.box bt cs') (fun H'=>G9 H' w))
     |some (.arr bt G)=>tQ new (fun nv=>off+sz<=G.length/\∃cs',G.take off++nv++G.drop (off+sz)=cs'/\Bg H id (.arr bt cs') (fun H'=>G9 H' w))
     |some (.vec bt ez G)=>tQ new (fun nv=>off+sz<=G.length/\∃cs',G.take off++nv++G.drop (off+sz)=cs'/\Bg H id (.vec bt ez cs') (fun H'=>G9 H' w))
     |_=>False
    | .o (.v (.pointer (some ad)))=>tQ new (fun nv=>∀O J,Rel H nx iv B w O J->
      ad.spot=none/\(∀j,j<sz->(J.cell? (ad.add j)).isSome=true/\J.frozen? (ad.add j)=false)/\
      (∀id b,cO H id=some b->(O id).nil=false->(O id).g≠ad.block)/\
      ∀Y,Y=setCells J ad nv->G9 H Y)
    |_=>False))
def xS(b:ix)(H:Hp)(nx:Nat)(G9:Hp->Nat->Prop):Prop:=G9 ((nx,b)::H) (nx+1)
def nJ(τ:l9)(fs:List (Nat×Nat))(f:Nat)(k:Nat->Nat->Bool->Prop):Prop:=
 match Dz fs f with
 |some (off,ft)=>match τ ft with
  |some ⟨sz,ag,_,_,_,_,_,_,_⟩=>match Nat.beq sz 0 with
   |true=>False
   |false=>k off sz ag
  |none=>False
 |none=>False
def tw(x:SV)(n:Nat)(G9:SV->Prop):Prop:=
 match x with
 | .o (.p id off)=>G9 (.o (.p id (off+n)))
 | .o (.v (.pointer (some ad)))=>G9 (.o (.v (.pointer (some (ad.add n)))))
 |_=>False
def rU(l:Env)(place:Nat->(Nat->Nat->Prop)->Prop):List (Nat×Operand)->List At->(List At->Prop)->Prop
 |[],G,k=>k G
 |(i,x)::r,G,k=>place i (fun off size=>nE l x (fun v=>uM v (fun new=>match Nat.beq new.length size with
   |true=>oQ G off new (fun cs'=>rU l place r cs' k)
   |false=>False)))
def EB(H:Hp)(id m:Nat)(G9:Prop):Prop:=
 match cO H id with
 |some (.vec _ sz G)=>match sz with
  |0=>False
  |k+1=>G.length=m*(k+1)/\G9
 |_=>False
def Ii(τ:l9)(H:Hp)(t:Nat)(x:SV)(G9:Int->Prop):Prop:=
 match τ t with
 |none=>False
 |some ⟨_,_,_,_,tag,_,_,yu,_⟩=>match Nat.beq tag 4 with
  |true=>match x with
   | .o (.v (.slice _ n _))=>G9 n
   | .o (.s _ _ n _)=>G9 n
   | .o (.w id n)=>EB H id n (G9 n)
   |_=>False
  |false=>match Nat.beq tag 3 with
   |true=>match x with
    | .o (.v (.string b))=>G9 b.size
    |_=>False
   |false=>match Nat.beq tag 6 with
    |true=>G9 yu
    |false=>False
def Bo(τ:l9)(H:Hp)(t:Nat)(x i:SV)(G9:SV->Prop):Prop:=
 match i with
 | .o (.v (.int _ i))=>match τ t with
  |some ⟨_,_,_,_,tag,_,e,yu,_⟩=>match τ e with
   |some ⟨sz,_,_,_,_,_,_,_,_⟩=>match Nat.beq tag 4 with
    |true=>match x with
     | .o (.s id off n _)=>(0<=i/\i<n)/\G9 (.o (.p id (off+i.toNat*sz)))
     | .o (.w id n)=>EB H id n ((0<=i/\i<n)/\G9 (.o (.p id (i.toNat*sz))))
     | .o (.v (.slice a n _))=>∃ad,a=some ad/\(0<=i/\i<n)/\G9 (.o (.v (.pointer (some (ad.add (i.toNat*sz))))))
     |_=>False
    |false=>match Nat.beq tag 6 with
     |true=>(0<=i/\i<yu)/\tw x (i.toNat*sz) G9
     |false=>False
   |none=>False
  |none=>False
 |_=>False
def HX(l:Env)(x:Option Operand)(dflt:Int)(G9:Int->Prop):Prop:=
 match x with
 |none=>G9 dflt
 |some o=>nE l o (fun v=>match v with
  | .o (.v (.int _ n))=>G9 n
  |_=>False)
def Bp(τ:l9)(H:Hp)(t:Nat)(x:SV)(l:Env)(lo N:Option Operand)(G9:SV->Prop):Prop:=
 match τ t with
 |some ⟨_,_,_,_,tag,_,e,al,_⟩=>match Nat.beq tag 4 with
  |true=>match τ e with
   |some ⟨sz,_,_,_,_,_,_,_,_⟩=>match x with
    | .o (.s id off n c)=>HX l lo 0 (fun a=>HX l N n (fun b=>(0<=a/\a<=b/\b<=c)/\∃off' n' c':Nat,(if (c:Int)=a then off else off+a.toNat*sz)=off'/\b.toNat-a.toNat=n'/\c-a.toNat=c'/\G9 (.o (.s id off' n' c'))))
    | .o (.v (.slice ad n c))=>HX l lo 0 (fun a=>HX l N n (fun b=>(0<=a/\a<=b/\b<=c)/\∃ad' n' c',(if (c:Int)=a then ad else ad.map (·.add (a.toNat*sz)))=ad'/\b.toNat-a.toNat=n'/\c-a.toNat=c'/\G9 (.o (.v (.slice ad' n' c')))))
    | .o (.w id n)=>match lo with
     |none=>EB H id n (HX l N n (fun b=>(0<=b/\b<=n)/\∃m:Nat,b.toNat=m/\G9 (.o (.w id m))))
     |some _=>False
    |_=>False
   |none=>False
  |false=>match Nat.beq tag 6 with
   |true=>match τ e with
    |some ⟨_,_,_,_,_,_,_,_,_⟩=>match x with
     | .o (.p id off)=>match lo,N with
      |none,none=>match Nat.beq al 0 with
       |false=>G9 (.o (.s id off al al))
       |true=>False
      |_,_=>False
     |_=>False
    |none=>False
   |false=>match Nat.beq tag 3 with
    |true=>match x with
     | .o (.v (.string s))=>HX l lo 0 (fun a=>HX l N s.size (fun b=>(0<=a/\a<=b/\b<=s.size)/\G9 (.o (.v (.string (s.extract a.toNat b.toNat))))))
     |_=>False
    |false=>False
 |none=>False
def DG(τ:l9)(t:Nat)(x y:SV)(H:Hp)(nx:Nat)(G9:SV->Hp->Nat->Prop):Prop:=
 match x,y with
 | .o (.v (.int _ a)),.o (.v (.int _ b))=>match τ t with
  |some ⟨_,_,_,_,tag,_,e,_,_⟩=>match Nat.beq tag 4 with
   |true=>match τ e with
    |some ⟨_,_,by_,ze,_,_,_,_,_⟩=>∃n c:Nat,a=n/\b=c/\n<=c/\by_*c<=281474976710656/\c<=9223372036854775807/\
      match ze with
      |[z]=>xS (.arr e (List.replicate c z)) H nx (fun H' Ku=>G9 (.o (.s nx 0 n c)) H' Ku)
      |zs=>xS (.arr e (List.replicate c zs).flatten) H nx (fun H' Ku=>G9 (.o (.s nx 0 n c)) H' Ku)
    |none=>False
   |false=>False
  |none=>False
 |_,_=>False
def FH(B:Nat)(H:Hp)(nx:Nat)(iv:Iv)(w:World)(size:Nat)(x:SV)(G9:Nat->List Value->Prop):Prop:=
 match x with
 | .o (.s id off n _)=>match cO H id with
  |some (.box _ G)=>qG G off (fun r=>qH r (n*size) (fun l=>tQ l (fun vs=>G9 n vs)))
  |some (.arr _ G)=>∃vs:List Value,(G.drop off).take (n*size)=vs/\vs.length=n*size/\(∀x∈vs,x.oneCell'=true)/\G9 n vs
  |_=>False
 | .o (.v (.slice a n _))=>∃vs:List Value,vs.length=n*size/\(∀x∈vs,x.oneCell'=true)/\
   (∀O J,Rel H nx iv B w O J->0<n->∃ad,a=some ad/\∀j u,vs[j]? =some u->J.cell? (ad.add j)=some u)/\G9 n vs
 | .o (.w id n)=>match cO H id with
  |some (.vec _ _ G)=>G.length=n*size/\(∀x∈G,x.oneCell'=true)/\G9 n G
  |_=>False
 |_=>False
def tx(τ:l9)(B:Nat)(t:Nat)(x y:SV)(H:Hp)(nx:Nat)(iv:Iv)(w:World)(G9:SV->Hp->Nat->Prop):Prop:=
 match τ t with
 |none=>False
 |some ⟨_,_,_,_,tag,_,e,_,_⟩=>match Nat.beq tag 4 with
  |true=>match τ e with
   |some ⟨sz,_,by_,ze,_,_,_,_,_⟩=>match ze with
    |[]=>False
    |_::_=>FH B H nx iv w sz y (fun m news=>
     match x with
     | .o (.v (.slice none 0 0))=>m*by_<=140737488355328/\m<=maxLen/\xS (.vec e sz news) H nx (fun H' Ku=>G9 (.o (.w nx m)) H' Ku)
     | .o (.w id n)=>match cO H id with
      |some (.vec e' sz' G)=>match Nat.beq e' e with
       |true=>match Nat.beq sz' sz with
        |true=>G.length=n*sz/\(n+m)*by_<=140737488355328/\n+m<=maxLen/\xm H id (fun H1=>xS (.vec e sz (G++news)) H1 nx (fun H' Ku=>G9 (.o (.w nx (n+m))) H' Ku))
        |false=>False
       |false=>False
      |_=>False
     | .o (.s id 0 n c)=>match Nat.beq n c with
      |true=>match cO H id with
       |some (.box e' G)=>match Nat.beq e' e with
        |true=>tQ G (fun vs=>vs.length=n*sz/\(n+m)*by_<=140737488355328/\n+m<=maxLen/\xm H id (fun H1=>xS (.vec e sz (vs++news)) H1 nx (fun H' Ku=>G9 (.o (.w nx (n+m))) H' Ku)))
        |false=>False
       |_=>False
      |false=>False
     |_=>False)
   |none=>False
  |false=>False
def lf(O:Nat->cd)(xs:List SV):Array Value:=(xs.map (SV.den O)).toArray
abbrev Ext(w Y:World):Prop:=RowKit.Below w.heap.size w Y
structure AN(P:Program)(B:Nat)(g:Nat)(args:(Nat->cd)->Array Value)(H:Hp)(nx:Nat)(iv:Iv)(w:World)(G9:SV->Hp->Iv->World->Prop):Prop where
 h:∀O J,Rel H nx iv B w O J->eF P g (args O) J (fun e Y=>∃v H' E,e= .returned v/\Rel H' nx E B Y O Y/\G9 (.o (.v v)) H' E Y)
structure AI(P:Program)(B:Nat)(g:Nat)(args:(Nat->cd)->Array Value)(H:Hp)(nx:Nat)(iv:Iv)(w:World)(G9:SV->Hp->Iv->World->Prop):Prop where
 h:∀O J,Rel H nx iv B w O J->eF P g (args O) J (fun e Y=>∃v,e= .returned v/\Ext J Y/\G9 (.o (.v v)) H ((J.heap.size,Y.heap.size)::iv) Y)
def FI(dr:Bool)(P:Program)(B:Nat)(g:Nat)(args:(Nat->cd)->Array Value)(H:Hp)(nx:Nat)(iv:Iv)(w:World)(G9:SV->Hp->Iv->World->Prop):Prop:=
 match dr with
 |true=>AI P B g args H nx iv w G9
 |false=>AN P B g args H nx iv w G9
structure tv(P:Program)(B:Nat)(o:Oper)(l:Env)(H:Hp)(nx:Nat)(iv:Iv)(w:World)(G9:SV->Hp->Nat->Iv->World->Prop):Prop where
 h:∀(O:Nat->cd) J (e:Operand->Value),Rel H nx iv B w O J->(∀x v,ev l x=some v->e x=v.den O)->
  ∃v Y E,((execOp e o).run P J= .ok (.value v) Y\/((execOp e o).run P J= .ok .skip Y/\v=undef))/\Rel H nx E B Y O Y/\G9 (.o (.v v)) H nx E Y
def Ki(dr:Bool)(P:Program)(B:Nat)(o:Oper)(l:Env)(H:Hp)(nx:Nat)(iv:Iv)(w:World)(G9:SV->Hp->Nat->Iv->World->Prop):Prop:=
 match dr with
 |true=>False
 |false=>tv P B o l H nx iv w G9
structure KE(P:Program)(B:Nat)(o:Oper)(l:Env)(H:Hp)(nx:Nat)(iv:Iv)(w:World)(G9:SV->Hp->Nat->Iv->World->Prop):Prop where
 h:∀(O:Nat->cd) J (e:Operand->Value),Rel H nx iv B w O J->(∀x v,ev l x=some v->e x=v.den O)->
  ∃Y w3 H' E,(execOp e o).run P J= .ok .skip w3/\Rel H' nx E B Y O w3/\G9 (.o (.v undef)) H' nx E Y
def Kj(dr:Bool)(P:Program)(B:Nat)(o:Oper)(l:Env)(H:Hp)(nx:Nat)(iv:Iv)(w:World)(G9:SV->Hp->Nat->Iv->World->Prop):Prop:=
 match dr with
 |true=>False
 |false=>KE P B o l H nx iv w G9
structure Kb(P:Program)(B:Nat)(o:Oper)(l:Env)(H:Hp)(nx:Nat)(iv:Iv)(w:World)(G9:SV->Hp->Nat->Iv->World->Prop):Prop where
 h:∀(O:Nat->cd) J (e:Operand->Value),Rel H nx iv B w O J->(∀x v,ev l x=some v->e x=v.den O)->
  ∃v H' Ku E GE Y w3,(execOp e o).run P J= .ok (.value (SV.den GE v)) w3/\Rel H' Ku E B Y GE w3/\v.sc Ku/\nx<=Ku/\(∀id,id<nx->O id=GE id)/\G9 v H' Ku E Y
def Kd(dr:Bool)(P:Program)(B:Nat)(o:Oper)(l:Env)(H:Hp)(nx:Nat)(iv:Iv)(w:World)(G9:SV->Hp->Nat->Iv->World->Prop):Prop:=
 match dr with
 |true=>False
 |false=>Kb P B o l H nx iv w G9
def Jc(H:Hp):SV->Bool
 | .o (.s id _ _ _)=>match cO H id with
  |some (.box _ [.s _ _ _ _])=>true
  |some (.box _ [.w _ _])=>true
  |_=>false
 |_=>false
def IN(H:Hp):SV->SV->Bool
 | .o (.p id _),.o (.s _ _ _ _)=>match cO H id with
  |some (.arr _ _)=>true
  |_=>false
 |_,_=>false
def ll:List SV->(List Nat->Prop)->Prop
 |[],k=>k []
 | .o (.p id 0)::r,k=>ll r (fun l=>k (id::l))
 |_::_,_=>False
def uO(dr:Bool)(P:Program)(τ:l9)(B:Nat)(o:Oper)(l:Env)(H:Hp)(nx:Nat)(iv:Iv)(w:World)(G9:SV->Hp->Nat->Iv->World->Prop):Prop:=
 match o.op with
 | .move x=>nE l x (fun v=>G9 v H nx iv w)
 | .assign x=>nE l x (fun v=>G9 v H nx iv w)
 | .pick c a b=>nE l c (fun v=>match v with
  | .o (.v (.bool t))=>ct t (nE l a (fun v=>G9 v H nx iv w)) (nE l b (fun v=>G9 v H nx iv w))
  |_=>False)
 | .alloc t=>match τ t with
  |some ⟨_,_,_,ze,_,_,_,_,_⟩=>nF ze (fun G=>xS (.box t G) H nx (fun H' Ku=>G9 (.o (.p nx 0)) H' Ku iv w))
  |none=>False
 | .box t x=>nE l x (fun v=>uM v (fun G=>xS (.box t G) H nx (fun H' Ku=>G9 (.o (.p nx 0)) H' Ku iv w)))
 | .build t parts=>match τ t with
  |some ⟨_,_,_,ze,tag,_,e,_,fs⟩=>match Nat.beq tag 5 with
   |true=>nF ze (fun z=>rU l (fun i k=>nJ τ fs i (fun off sz _=>k off sz)) parts.toList z (fun G=>G9 (.a G) H nx iv w))
   |false=>match Nat.beq tag 6 with
    |true=>match τ e with
     |some ⟨sz,_,_,_,_,_,_,_,_⟩=>nF ze (fun z=>rU l (fun i k=>k (i*sz) sz) parts.toList z (fun G=>G9 (.a G) H nx iv w))
     |none=>False
    |false=>False
  |none=>False
 | .buildSlice t n parts=>match τ t with
  |some ⟨_,_,_,_,tag,_,e,_,_⟩=>match Nat.beq tag 4 with
   |true=>match τ e with
    |some ⟨sz,_,_,ze,_,_,_,_,_⟩=>match Nat.ble (n*sz) 16777216 with
     |true=>nF (List.replicate n ze).flatten (fun z=>rU l (fun i k=>k (i*sz) sz) parts.toList z (fun G=>
       xS (.box e G) H nx (fun H' Ku=>G9 (.o (.s nx 0 n n)) H' Ku iv w)))
     |false=>False
    |none=>False
   |false=>False
  |none=>False
 | .load t a=>nE l a (fun v=>xw τ B t v H nx iv w (fun r=>G9 r H nx iv w))
 | .store t a x=>nE l a (fun va=>nE l x (fun vx=>match IN H va vx with
  |true=>Kj dr P B o l H nx iv w G9
  |false=>zA τ B t va vx H nx iv w (fun H' J=>G9 (.o (.v undef)) H' nx iv J)))
 | .nilCheck x=>nE l x (fun v=>match v with
  | .o (.p id off)=>G9 (.o (.p id off)) H nx iv w
  | .o (.v (.pointer (some ad)))=>G9 (.o (.v (.pointer (some ad)))) H nx iv w
  | .o (.fn f ids)=>G9 (.o (.fn f ids)) H nx iv w
  | .o (.v (.func (.func f) fi ca))=>G9 (.o (.v (.func (.func f) fi ca))) H nx iv w
  |_=>False)
 | .binOp op t x y _=>nE l x (fun vx=>nE l y (fun vy=>Ih P τ op t vx vy (fun r=>G9 r H nx iv w)))
 | .unOp op _ x=>nE l x (fun v=>match op,v with
  | .not,.o (.v (.bool b))=>G9 (.o (.v (.bool (!b)))) H nx iv w
  | .neg,.o (.v (.int k n))=>∃r,k.wrap (0-n)=r/\G9 (.o (.v (.int k r))) H nx iv w
  | .xor,.o (.v (.int k n))=>∃r,k.wrap ((BitVec.ofInt k.bits (if k.signed then -1 else k.max) ^^^ BitVec.ofInt k.bits n).toNat:Int)=r/\G9 (.o (.v (.int k r))) H nx iv w
  |_,_=>False)
 | .convert sr d x=>match τ sr with
  |some _=>nE l x (fun v=>match τ d with
   |some ⟨_,_,_,_,tag,ik,_,_,_⟩=>match Nat.beq tag 1 with
    |true=>match v with
     | .o (.v (.int _ n))=>∃r,ik.wrap n=r/\G9 (.o (.v (.int ik r))) H nx iv w
     |_=>False
    |false=>Ki dr P B o l H nx iv w G9
   |none=>False)
  |none=>False
 | .makeFunc (.func f) ⟨first⟩ caps=>match first with
  |[]=>Et l caps.toList (fun vs=>ll vs (fun ids=>G9 (.o (.fn f ids)) H nx iv w))
  |_=>False
 | .makeSlice t x y=>nE l x (fun vx=>nE l y (fun vy=>DG τ t vx vy H nx (fun v H' Ku=>G9 v H' Ku iv w)))
 | .slice t x lo N none=>nE l x (fun v=>Bp τ H t v l lo N (fun r=>G9 r H nx iv w))
 | .fieldAddr t x f=>match τ t with
  |some ⟨_,_,_,_,tag,_,_,_,fs⟩=>match Nat.beq tag 5 with
   |true=>nJ τ fs f (fun off _ _=>nE l x (fun v=>tw v off (fun r=>G9 r H nx iv w)))
   |false=>False
  |none=>False
 | .field t x f=>match τ t with
  |some ⟨_,_,_,_,tag,_,_,_,fs⟩=>match Nat.beq tag 5 with
   |true=>nJ τ fs f (fun off sz ag=>nE l x (fun v=>match v with
    | .o (.v (.agg ⟨vs⟩))=>nF vs (fun G=>match ag with
     |true=>qG G off (fun r=>qH r sz (fun c=>G9 (.a c) H nx iv w))
     |false=>match yz G off with
      |some c=>G9 (.o c) H nx iv w
      |none=>False)
    | .a G=>match ag with
     |true=>qG G off (fun r=>qH r sz (fun c=>G9 (.a c) H nx iv w))
     |false=>match yz G off with
      |some c=>G9 (.o c) H nx iv w
      |none=>False
    |_=>False))
   |false=>False
  |none=>False
 | .indexAddr t x i=>nE l x (fun vx=>nE l i (fun vi=>Bo τ H t vx vi (fun r=>G9 r H nx iv w)))
 | .extract x i=>nE l x (fun v=>match v with
  | .o (.v (.tuple ⟨vs⟩))=>match Dy vs i with
   |some u=>G9 (.o (.v u)) H nx iv w
   |none=>False
  |_=>False)
 | .call ⟨.builtin .len,⟨[x]⟩,⟨[t]⟩⟩=>nE l x (fun v=>Ii τ H t v (fun n=>G9 (.o (.v (.int .i64 n))) H nx iv w))
 | .call ⟨.builtin .append,⟨[x,y]⟩,⟨[t,u]⟩⟩=>match Nat.beq t u with
  |true=>nE l x (fun vx=>nE l y (fun vy=>match Jc H vy with
   |true=>Kd dr P B o l H nx iv w G9
   |false=>tx τ B t vx vy H nx iv w (fun v H' Ku=>G9 v H' Ku iv w)\/tv P B o l H nx iv w G9))
  |false=>tv P B o l H nx iv w G9
 | .call ⟨.builtin .max,⟨[x,y]⟩,_⟩=>nE l x (fun vx=>nE l y (fun vy=>match vx,vy with
  | .o (.v (.int k a)),.o (.v (.int k' b))=>match nI k k' with
   |true=>G9 (.o (.v (.int k (max a b)))) H nx iv w
   |false=>False
  |_,_=>False))
 | .call ⟨.builtin .min,⟨[x,y]⟩,_⟩=>nE l x (fun vx=>nE l y (fun vy=>match vx,vy with
  | .o (.v (.int k a)),.o (.v (.int k' b))=>match nI k k' with
   |true=>G9 (.o (.v (.int k (min a b)))) H nx iv w
   |false=>False
  |_,_=>False))
 | .call ⟨.builtin .copy,_,_⟩=>tv P B o l H nx iv w G9
 | .call ⟨.builtin .clear,_,_⟩=>tv P B o l H nx iv w G9
 | .call ⟨.builtin .cap,_,_⟩=>tv P B o l H nx iv w G9
 | .index _ _ _=>tv P B o l H nx iv w G9
 | .makeMap _ _=>tv P B o l H nx iv w G9
 | .lookup _ _ _ _=>tv P B o l H nx iv w G9
 | .mapUpdate _ _ _ _=>tv P B o l H nx iv w G9
 | .call ⟨.value f,⟨args⟩,_⟩=>nE l f (fun vf=>Et l args (fun vs=>match vf with
   | .o (.v (.func (.func g) first caps))=>FI dr P B g (fun O=>first++lf O vs++caps) H nx iv w (fun v H' E J=>G9 v H' nx E J)
   | .o (.fn g ids)=>FI dr P B g (fun O=>lf O vs++(ids.map fun id=>Value.pointer (some ⟨(O id).g,0,none⟩)).toArray) H nx iv w (fun v H' E J=>G9 v H' nx E J)
   |_=>False))
 |_=>False
def xx:List Oper->Nat->Option Tmp
 |[],_=>none
 |o::_,0=>o.dst
 |_::r,n+1=>xx r n
def AG(d:Option Tmp)(v:SV)(l:Env)(k:Env->Prop):Prop:=match d with
 |some t=>k ((t,v)::l)
 |none=>k l
def qJ(all:List Oper)(g:Option (Nat×Bool))(l:Env)(yes no:Env->Prop):Prop:=
 match g with
 |none=>yes l
 |some (j,want)=>match xx all j with
  |none=>no l
  |some d=>match eX l d with
   |some (.o (.v (.bool b)))=>match want with
    |true=>ct b (yes ((d,.o (.v (.bool true)))::l)) (no ((d,.o (.v (.bool false)))::l))
    |false=>ct b (no ((d,.o (.v (.bool true)))::l)) (yes ((d,.o (.v (.bool false)))::l))
   |some (.o (.v (.tuple _)))=>no l
   |_=>False
def ig(dr:Bool)(P:Program)(τ:l9)(B:Nat)(all:List Oper)(o:Oper)(l:Env)(H:Hp)(nx:Nat)(iv:Iv)(w:World)(k:Env->Hp->Nat->Iv->World->Prop):Prop:=
 qJ all o.guard l
  (fun l=>uO dr P τ B o l H nx iv w (fun v H' Ku E J=>AG o.dst v l (fun l'=>k l' H' Ku E J)))
  (fun l=>AG o.dst (.o (.v undef)) l (fun l'=>k l' H nx iv w))
def DH(P:Program)(τ:l9)(B:Nat)(all:List Oper):List Oper->Env->Hp->Nat->Iv->World->(Env->Hp->Nat->Iv->World->Prop)->Prop
 |[],l,H,nx,iv,w,G9=>G9 l H nx iv w
 |o::r,l,H,nx,iv,w,G9=>ig false P τ B all o l H nx iv w (fun l' H' Ku E J=>DH P τ B all r l' H' Ku E J G9)
inductive Ex where
 |normal
 |exit (id:Nat)
 |ret
structure Sat(n:Nat)(l:Env)(H:Hp)(nx:Nat)(iv:Iv)(B:Nat)(w:World)(O:Nat->cd)(a:Act)(J:World):Prop where
 rel:Rel H nx iv B w O J
 size:a.tmps.size=n
 defers:a.defers=[]
 env:∀t v,eX l t=some v->a.tmps[t]? =some (v.den O)
 sc:∀t v,eX l t=some v->v.sc nx
abbrev KT:=Env->Hp->Nat->Iv->World->Prop
structure yw(P:Program)(B:Nat)(ops:Array Oper)(l:Env)(H:Hp)(nx:Nat)(iv:Iv)(w:World)(G9:KT):Prop where
 h:∀n O a J,ops.toList.all (fun o=>match o.dst with
   |some d=>Nat.blt d n
   |none=>true)=true->Sat n l H nx iv B w O a J->
  ∀Q:Exit->Act->World->Prop,(∀l' H' Ku E Y GE a' w'',G9 l' H' Ku E Y->Sat n l' H' Ku E B Y GE a' w''->Q .normal a' w'')->
  ∀id,(Code.region id ops true).wp P Q a J
structure uY where
 l:Env
 H:Hp
 nx:Nat
 iv:Iv
 w:World
def Sub(B:Nat)(l:Env)(_nx:Nat)(O:Nat->cd)(J:World)(t:uY):Prop:=
 ∃GE,Rel t.H t.nx t.iv B t.w GE J/\(∀u v,eX t.l u=some v->v.sc t.nx/\∃v0,eX l u=some v0/\v0.den O=v.den GE)
def kp(P:Program)(τ:l9)(B:Nat):Code->Env->Hp->Nat->Iv->World->(Ex->KT)->Prop
 | .skip,l,H,nx,iv,w,Q=>Q .normal l H nx iv w
 | .region _ ops false,l,H,nx,iv,w,Q=>DH P τ B ops.toList ops.toList l H nx iv w (Q .normal)
 | .region _ ops true,l,H,nx,iv,w,Q=>yw P B ops l H nx iv w (Q .normal)
 | .seq a b,l,H,nx,iv,w,Q=>kp P τ B a l H nx iv w (fun e l H nx iv w=>match e with
  | .normal=>kp P τ B b l H nx iv w Q
  | .exit id=>Q (.exit id) l H nx iv w
  | .ret=>Q .ret l H nx iv w)
 | .cond c a b,l,H,nx,iv,w,Q=>nE l c (fun v=>match v with
  | .o (.v (.bool t))=>ct t (kp P τ B a l H nx iv w Q) (kp P τ B b l H nx iv w Q)
  |_=>False)
 | .block id c,l,H,nx,iv,w,Q=>kp P τ B c l H nx iv w (fun e l H nx iv w=>match e with
  | .normal=>Q .normal l H nx iv w
  | .exit id'=>match Nat.beq id' id with
   |true=>Q .normal l H nx iv w
   |false=>Q (.exit id') l H nx iv w
  | .ret=>Q .ret l H nx iv w)
 | .loop c,l,H,nx,iv,w,Q=>∃(α:Type) (st:α->uY) (μ:α->Nat) (A':α->Prop),
   (∀O J,Rel H nx iv B w O J->∃x,A' x/\Sub B l nx O J (st x))/\
   ∀x,A' x->kp P τ B c (st x).l (st x).H (st x).nx (st x).iv (st x).w (fun e l H nx iv w=>match e with
    | .normal=>∀O J,Rel H nx iv B w O J->∃y,A' y/\Sub B l nx O J (st y)/\μ y<μ x
    | .exit id=>Q (.exit id) l H nx iv w
    | .ret=>Q .ret l H nx iv w)
 | .exit id,l,H,nx,iv,w,Q=>Q (.exit id) l H nx iv w
 | .ret,l,H,nx,iv,w,Q=>Q .ret l H nx iv w
 |_,_,_,_,_,_,_=>False
structure Bn(P:Program)(t:Nat)(i:TI):Prop where
 info:∃inf z,P.info? t=some inf/\inf.size=i.size/\inf.bytes=i.bytes/\inf.zero=some z/\z.cells.toList=i.zero
 Dw:i.zero.length=i.size
 KD:∀x∈i.zero,x.oneCell'=true
 agg:∃d,P.underlying t=some d/\(match d with| .struct _| .array _ _=>true|_=>false)=i.agg
 i1:i.tag=1->P.underlying t=some (.int i.ik)
 i2:i.tag=2->P.underlying t=some .bool
 i3:i.tag=3->P.underlying t=some .string
 i4:i.tag=4->P.underlying t=some (.slice i.elem)
 i5:i.tag=5->∃fs,P.underlying t=some (.struct fs)/\fs.toList.map (fun f=>(f.offset,f.type))=i.fields/\∀f∈fs.toList,(P.info? f.type).isSome=true
 i6:i.tag=6->P.underlying t=some (.array i.yu i.elem)
def ey(P:Program)(τ:l9):Prop:=∀t i,τ t=some i->Bn P t i
theorem dS{a b:Nat}(h:Nat.beq a b=true):a=b:=bX h
theorem e8:∀{xs:List Value} {k:List At->Prop},nF xs k->k (xs.map At.v)
 |[],_,h=>h
 |x::r,k,h=>by
  have:=e8 (xs:=r) (k:=fun r'=>k (.v x::r')) h;simpa using this
theorem lq:∀{G:List At} {n:Nat} {k:List At->Prop},qG G n k->k (G.drop n)/\n<=G.length
 |G,0,k,h=>by cases G<;>exact⟨by simpa [qG]using h,by simp⟩
 |[],n+1,k,h=>by simp[qG]at h
 |x::t,n+1,k,h=>by
  have:=lq (G:=t) (n:=n) (k:=k) h;exact⟨by simpa using this.1,by simp;omega⟩
theorem lr:∀{G:List At} {n:Nat} {k:List At->Prop},qH G n k->k (G.take n)/\n<=G.length
 |G,0,k,h=>by cases G<;>exact⟨by simpa [qH]using h,by simp⟩
 |[],n+1,k,h=>by simp[qH]at h
 |x::t,n+1,k,h=>by
  have:=lr (G:=t) (n:=n) (k:=fun r=>k (x::r)) h;exact⟨by simpa using this.1,by simp;omega⟩
theorem u4:∀{G new:List At} {k:List At->Prop},xn G new k->k (new++G.drop new.length)/\new.length<=G.length
 |G,[],k,h=>by cases G<;>exact⟨by simpa [xn]using h,by simp⟩
 |[],x::r,k,h=>by simp[xn]at h
 |_::t,x::r,k,h=>by
  have:=u4 (G:=t) (new:=r) (k:=fun t'=>k (x::t')) h;exact⟨by simpa using this.1,by simp;omega⟩
theorem lu:∀{G:List At} {off:Nat} {new:List At} {k:List At->Prop},oQ G off new k->
  k (G.take off++new++G.drop (off+new.length))/\off+new.length<=G.length
 |G,0,new,k,h=>by
  have h':xn G new k:=by cases G<;>simpa [oQ]using h
  have:=u4 h';exact⟨by simpa using this.1,by omega⟩
 |[],n+1,new,k,h=>by simp[oQ]at h
 |x::t,n+1,new,k,h=>by
  have:=lu (G:=t) (off:=n) (new:=new) (k:=fun t'=>k (x::t')) h;refine⟨?_,by simp;omega⟩;have I:=this.1;rw[show n+1+new.length=(n+new.length)+1 by omega];simpa using I
theorem one_den{x:At}(h:x.one=true)(O:Nat->cd):(x.den O).oneCell'=true:=by
 cases x with
 |v y=>cases y<;>simp_all [At.one,At.den,Value.oneCell']
 |w id n=>simp only[At.den];split<;>rfl
 |_=>rfl
theorem u5:∀{G:List At} {k:Prop},DB G k->k/\∀c∈G,At.one c=true
 |[],k,h=>⟨h,by simp⟩
 |x::r,k,h=>by
  unfold DB at h;split at h
  ·rename_i F;have:=u5 h;exact⟨this.1,by simp[F];exact this.2⟩
  ·exact h.elim
theorem jo:∀{G:List At} {k:List Value->Prop},tQ G k->∃vs,k vs/\G=vs.map At.v/\∀v∈vs,v.oneCell'=true
 |[],k,h=>⟨[],h,rfl,by simp⟩
 | .v x::r,k,h=>by
  unfold tQ at h;split at h
  ·rename_i F;obtain⟨vs,V,I,K⟩:=jo h;exact⟨x::vs,V,by simp[I],by simp;exact⟨one_den F (fun _=>⟨0,0,false⟩),K⟩⟩
  ·exact h.elim
 | .p _ _::_,k,h=>by simp[tQ]at h
 | .s _ _ _ _::_,k,h=>by simp[tQ]at h
 | .w _ _::_,k,h=>by simp[tQ]at h
 | .fn _ _::_,k,h=>by simp[tQ]at h
theorem kW{x:SV}{k:List At->Prop}(h:uM x k):∃G,k G/\(∀O,(x.den O).cells=(G.map (At.den O)).toArray)/\(∀n,x.sc n->∀c∈G,c.sc n):=by
 cases x with
 |a G=>exact⟨G,h,fun O=>rfl,fun n A=>A⟩
 |o y=>
  cases y with
  |v z=>
   cases z with
   |agg arr=>
    obtain⟨l⟩:=arr;refine⟨_,e8 h,fun O=>?_,fun n _ c hc=>?_⟩
    ·simp[SV.den,At.den,Value.cells,Function.comp_def]
    ·simp at hc;obtain⟨v,_,rfl⟩:=hc;trivial
   |tuple arr=>simp[uM]at h
   |_=>exact⟨_,h,fun O=>rfl,fun n _ c hc=>by simp at hc;subst hc;trivial⟩
  |w id n=>exact⟨_,h,fun O=>by simp only[SV.den,At.den,List.map];split<;>rfl,fun n A c hc=>by simp at hc;subst hc;exact A⟩
  |_=>exact⟨_,h,fun O=>rfl,fun n A c hc=>by simp at hc;subst hc;exact A⟩
theorem cL(t:Nat)(b:ix)(r:Hp)(u:Nat):cO ((t,b)::r) u=if t=u then some b else cO r u:=by
 show(match Nat.beq t u with|true=>some b|false=>cO r u)=_;split
 ·rename_i h;rw[if_pos (dS h)]
 ·rename_i h;rw[aF (fun e=>by subst e;rw[Nat.beq_refl]at h;cases h)]
theorem dm(t:Nat)(b:SV)(r:Env)(u:Nat):eX ((t,b)::r) u=if t=u then some b else eX r u:=by
 show(match Nat.beq t u with|true=>some b|false=>eX r u)=_;split
 ·rename_i h;rw[if_pos (dS h)]
 ·rename_i h;rw[aF (fun e=>by subst e;rw[Nat.beq_refl]at h;cases h)]
theorem oW:∀{H:Hp} {id:Nat} {b:ix} {k:Hp->Prop},Bg H id b k->∃H',k H'/\(∀j,cO H' j=if j=id then some b else cO H j)/\(cO H id).isSome=true
 |[],id,b,k,h=>by simp[Bg]at h
 |(t,v)::r,id,b,k,h=>by
  unfold Bg at h;split at h
  ·rename_i ht;have:=dS ht;subst this;refine⟨_,h,fun j=>?_,by simp[cL]⟩;simp only[cL]
   by_cases e:t=j
   ·simp[e]
   ·simp[e,Ne.symm e]
  ·rename_i ht;have Kq:t≠id:=fun e=>by subst e;rw[Nat.beq_refl]at ht;cases ht
   obtain⟨H',V,I,K⟩:=oW h;refine⟨_,V,fun j=>?_,by simp[cL,Kq,K]⟩;simp only[cL,I]
   by_cases e:t=j
   ·subst e;simp[Kq]
   ·simp[e]
theorem pT:∀{H:Hp} {id:Nat} {k:Hp->Prop},xm H id k->∃H',k H'/\(∀j,cO H' j=if j=id then some .dead else cO H j)/\(cO H id).isSome=true
 |[],id,k,h=>by simp[xm]at h
 |(t,v)::r,id,k,h=>by
  unfold xm at h;split at h
  ·rename_i ht;have:=dS ht;subst this;refine⟨_,h,fun j=>?_,by simp[cL]⟩;simp only[cL]
   by_cases e:t=j
   ·simp[e]
   ·simp[e,Ne.symm e]
  ·rename_i ht;have Kq:t≠id:=fun e=>by subst e;rw[Nat.beq_refl]at ht;cases ht
   obtain⟨H',V,I,K⟩:=pT h;refine⟨_,V,fun j=>?_,by simp[cL,Kq,K]⟩;simp only[cL,I]
   by_cases e:t=j
   ·subst e;simp[Kq]
   ·simp[e]
theorem At.iQ{x:At}{O GE:Nat->cd}(h:∀id,id<n->O id=GE id)(F:x.sc n):x.den O=x.den GE:=by
 cases x with
 |v y=>rfl
 |p id off=>simp only[At.den,h id F]
 |s id off len cap=>simp only[At.den,h id F]
 |w id len=>simp only[At.den,h id F]
 |fn f caps=>
  simp only[At.den]
  congr 2;exact List.map_congr_left fun id LK=>by rw[h id (F id LK)]
theorem SV.iQ{x:SV}{O GE:Nat->cd}(h:∀id,id<n->O id=GE id)(F:x.sc n):x.den O=x.den GE:=by
 cases x with
 |o y=>exact At.iQ h F
 |a G=>
  simp only[SV.den]
  congr 2;exact List.map_congr_left fun c hc=>At.iQ h (F c hc)
theorem At.qP{x:At}(h:n<=m)(F:x.sc n):x.sc m:=by
 cases x with
 |v y=>trivial
 |fn f caps=>intro id LK;have:=F id LK;omega
 |_=>simp only[At.sc]at *;omega
theorem SV.qP{x:SV}(h:n<=m)(F:x.sc n):x.sc m:=by
 cases x with
 |o y=>exact At.qP h F
 |a G=>exact fun c hc=>At.qP h (F c hc)
theorem Rel.drew{H:Hp}{iv:Iv}{w:World}{O:Nat->cd}(r:Rel H nx iv B w O J):Rel H nx iv B w O J.drew:=
 ⟨r.os,r.tape,r.output,r.size,r.base,r.oR,r.keys,r.box,r.arr,r.vec,r.inj,r.low,r.rP,r.ie,r.Eu,r.nn⟩
def fI(O:Nat->cd)(nx:Nat)(v:cd):Nat->cd:=fun j=>if j=nx then v else O j
theorem ew{O:Nat->cd}{v:cd}:∀id,id<nx->O id=fI O nx v id:=fun id h=>by simp[fI,Nat.ne_of_lt h]
@[simp] theorem dM {O:Nat->cd} {nx:Nat} {v:cd}:fI O nx v nx=v:=by simp[fI]
def ix.fits(b:ix)(O:Nat->cd)(v:cd)(w:World):Prop:=
 match b with
 | .box t G=>v.nil=false/\w.heap[v.g]? =some (.cells (G.map (At.den O)).toArray t (0,0))
 | .arr t G=>v.nil=false/\w.heap[v.g]? =some (.cells G.toArray t (0,0))
 | .vec t size G=>(v.nil=true/\G=[])\/(v.nil=false/\∃spare:List Value,w.heap[v.g]? =some (.cells (G++spare).toArray t (0,0))/\(G++spare).length=v.cap*size/\v.cap<=maxLen)
 | .dead=>True
def ix.scopd(b:ix)(n:Nat):Prop:=match b with
 | .box _ G=>∀x∈G,At.sc n x
 |_=>True
theorem Rel.fits{H:Hp}{iv:Iv}{w:World}{O:Nat->cd}(r:Rel H nx iv B w O J){b:ix}(h:cO H id=some b):b.fits O (O id) J:=by
 cases b with
 |box t G=>exact⟨r.nn id _ h (by intros;simp) (by simp),r.box id t G h⟩
 |arr t G=>exact⟨r.nn id _ h (by intros;simp) (by simp),r.arr id t G h⟩
 |vec t size G=>exact r.vec id t size G h
 |dead=>trivial
theorem Rel.mk'{H:Hp}{iv:Iv}{w:World}{O:Nat->cd}(os:J.os=w.os)(tape:J.tape=w.tape)(output:J.output=w.output)
  (size:w.heap.size<=J.heap.size) (base:B<=w.heap.size) (oR:∀lo N,(lo,N)∈iv->N<=w.heap.size) (keys:∀id b,cO H id=some b->id<nx)
  (fits:∀id b,cO H id=some b->b.fits O (O id) J) (Eu:∀id b,cO H id=some b->b.scopd nx)
  (inj:∀id id' b b',cO H id=some b->cO H id'=some b'->b≠ .dead->b'≠ .dead->(O id).nil=false->(O id').nil=false->(O id).g=(O id').g->id=id')
  (low:∀id b,cO H id=some b->(O id).nil=false->B<=(O id).g/\(O id).g<J.heap.size)
  (rP:∀k,k<w.heap.size->(∀id b,cO H id=some b->(O id).nil=false->(O id).g≠k)->J.heap[k]? =w.heap[k]?)
  (ie:∀lo N,(lo,N)∈iv->∀id b,cO H id=some b->(O id).nil=false->¬(lo<=(O id).g/\(O id).g<N)):Rel H nx iv B w O J where
 os:=os
 tape:=tape
 output:=output
 size:=size
 base:=base
 oR:=oR
 keys:=keys
 box:=fun id t G h=>(fits id _ h).2
 arr:=fun id t G h=>(fits id _ h).2
 vec:=fun id t size G h=>fits id _ h
 inj:=inj
 low:=low
 rP:=rP
 ie:=ie
 Eu:=fun id t G h=>Eu id _ h
 nn:=fun id b h V I=>by
  have:=fits id b h
  cases b with
  |box t G=>exact this.1
  |arr t G=>exact this.1
  |vec t size G=>exact absurd rfl (V t size G)
  |dead=>exact absurd rfl I
theorem ix.fg{b:ix}{O GE:Nat->cd}{v:cd}{w:World}(h:b.fits O v w)(GT:∀id,id<n->O id=GE id)(hs:b.scopd n)
  (L:v.nil=false->b≠ .dead->J.heap[v.g]? =w.heap[v.g]?):b.fits GE v J:=by
 cases b with
 |box t G=>
  obtain⟨V,I⟩:=h;refine⟨V,?_⟩;rw[L V (by simp),I,List.map_congr_left fun c hc=>At.iQ GT (hs c hc)]
 |arr t G=>exact⟨h.1,by rw[L h.1 (by simp)];exact h.2⟩
 |vec t size G=>
  rcases h with h|⟨V,spare,I,K⟩
  ·exact .inl h
  ·exact .inr ⟨V,spare,by rw[L V (by simp)];exact I,K⟩
 |dead=>trivial
theorem ix.gT{b:ix}(h:n<=m)(hb:b.scopd n):b.scopd m:=by
 cases b with
 |box t G=>exact fun c hc=>At.qP h (hb c hc)
 |_=>trivial
theorem Rel.scopd{H:Hp}{iv:Iv}{w:World}{O:Nat->cd}(r:Rel H nx iv B w O J){b:ix}(h:cO H id=some b):b.scopd nx:=by
 cases b with
 |box t G=>exact r.Eu id t G h
 |_=>trivial
theorem Rel.push{H:Hp}{iv:Iv}{w:World}{O:Nat->cd}(r:Rel H nx iv B w O J)(b:ix)(v:cd)
  (os:Y.os=J.os) (tape:Y.tape=J.tape) (output:Y.output=J.output) (size:J.heap.size<=Y.heap.size) (old:∀k,k<J.heap.size->Y.heap[k]? =J.heap[k]?)
  (hv:v.nil=false->J.heap.size<=v.g/\v.g<Y.heap.size) (hb:b.fits O v Y) (hs:b.scopd nx):Rel ((nx,b)::H) (nx+1) iv B w (fI O nx v) Y:=by
 have LG:∀id b,cO H id=some b->id≠nx:=fun id b h=>Nat.ne_of_lt (r.keys id b h);have Lg:∀id b,cO H id=some b->fI O nx v id=O id:=fun id b h=>by simp[fI,LG id b h]
 refine Rel.mk' (os.trans r.os) (tape.trans r.tape) (output.trans r.output) (a9 r.size size) r.base r.oR ?_ ?_ ?_ ?_ ?_ ?_ ?_
 ·intro id b' h;rw[cL]at h;split at h
  ·omega
  ·have:=r.keys id b' h;omega
 ·intro id b' h;rw[cL]at h;split at h
  ·rename_i e;subst e;injection h with h;subst h;rw[dM];exact ix.fg hb ew hs (fun _ _=>rfl)
  ·rw[Lg id b' h];exact ix.fg (r.fits h) ew (r.scopd h) (fun V _=>old _ (r.low id b' h V).2)
 ·intro id b' h;rw[cL]at h;split at h
  ·injection h with h;subst h;exact ix.gT (by omega) hs
  ·exact ix.gT (by omega) (r.scopd h)
 ·intro id id' b1 b2 V I d1 d2 n1 n2 e;rw[cL]at V I;split at V<;>split at I
  ·omega
  ·rename_i e1 e2;subst e1;rw[dM]at e n1;rw[Lg id' b2 I]at e n2;have:=(r.low id' b2 I n2).2;have:=(hv n1).1;omega
  ·rename_i e1 e2;subst e2;rw[dM]at e n2;rw[Lg id b1 V]at e n1;have:=(r.low id b1 V n1).2;have:=(hv n2).1;omega
  ·rw[Lg id b1 V]at e n1;rw[Lg id' b2 I]at e n2;exact r.inj id id' b1 b2 V I d1 d2 n1 n2 e
 ·intro id b' h n1;rw[cL]at h;split at h
  ·rename_i e;subst e;rw[dM]at n1 ⊢;have:=hv n1;have:=r.base;have:=r.size;omega
  ·rw[Lg id b' h]at n1 ⊢;have:=r.low id b' h n1;omega
 ·intro k W Kq;rw[old k (by have:=r.size;omega)];refine r.rP k W fun id b' h n1=>?_;have:=Kq id b' (by rw[cL,aF (Ne.symm (LG id b' h))];exact h) (by rw[Lg id b' h];exact n1)
  rwa [Lg id b' h]at this
 ·intro lo N hm id b' h n1;rw[cL]at h;split at h
  ·rename_i e;subst e;rw[dM]at n1 ⊢;have:=hv n1;have:=r.oR lo N hm;have:=r.size;omega
  ·rw[Lg id b' h]at n1 ⊢;exact r.ie lo N hm id b' h n1
theorem Rel.store{H H':Hp}{iv:Iv}{w:World}{O:Nat->cd}(r:Rel H nx iv B w O J){b b':ix}(LK:cO H id=some b)(hd:b≠ .dead)(A:(O id).nil=false)
  (hH:∀j,cO H' j=if j=id then some b' else cO H j)
  (os:Y.os=J.os) (tape:Y.tape=J.tape) (output:Y.output=J.output) (size:Y.heap.size=J.heap.size) (old:∀k,k≠(O id).g->Y.heap[k]? =J.heap[k]?)
  (hb:b'.fits O (O id) Y) (hs:b'.scopd nx):Rel H' nx iv B w O Y:=by
 have key:∀j c,cO H' j=some c->∃c',cO H j=some c':=fun j c h=>by
  rw[hH]at h;split at h
  ·rename_i e;subst e;exact⟨b,LK⟩
  ·exact⟨c,h⟩
 refine Rel.mk' (os.trans r.os) (tape.trans r.tape) (output.trans r.output) (by rw[size];exact r.size) r.base r.oR ?_ ?_ ?_ ?_ ?_ ?_ ?_
 ·intro j c h;obtain⟨c',h'⟩:=key j c h;exact r.keys j c' h'
 ·intro j c h;rw[hH]at h;split at h
  ·rename_i e;subst e;injection h with h;subst h;exact hb
  ·rename_i e;refine ix.fg (r.fits h) (fun _ _=>rfl) (r.scopd h) (fun V I=>old _ fun e2=>e ?_);exact r.inj j id c b h LK I hd V A e2
 ·intro j c h;rw[hH]at h;split at h
  ·injection h with h;subst h;exact hs
  ·exact r.scopd h
 ·intro j j' c c' V I d1 d2 n1 n2 e;rw[hH]at V I;have l1:∃c1,cO H j=some c1/\c1≠ .dead:=by
   split at V
   ·rename_i e1;subst e1;exact⟨b,LK,hd⟩
   ·exact⟨c,V,d1⟩
  have l2:∃c1,cO H j'=some c1/\c1≠ .dead:=by
   split at I
   ·rename_i e1;subst e1;exact⟨b,LK,hd⟩
   ·exact⟨c',I,d2⟩
  obtain⟨c1,g1,g2⟩:=l1;obtain⟨c2,g3,g4⟩:=l2;exact r.inj j j' c1 c2 g1 g3 g2 g4 n1 n2 e
 ·intro j c h n1;obtain⟨c',h'⟩:=key j c h;rw[size];exact r.low j c' h' n1
 ·intro k W Kq;have hkg:k≠(O id).g:=fun e=>Kq id b' (by rw[hH];simp) A e.symm;rw[old k hkg];refine r.rP k W fun j c h n1=>?_;by_cases e:j=id
  ·subst e;exact Ne.symm hkg
  ·exact Kq j c (by rw[hH,aF e];exact h) n1
 ·intro lo N hm j c h n1;obtain⟨c',h'⟩:=key j c h;exact r.ie lo N hm j c' h' n1
theorem Rel.FL{H H1:Hp}{iv:Iv}{w:World}{O:Nat->cd}(r:Rel H nx iv B w O J){b0:ix}(LK:cO H id=some b0)(hd:b0≠ .dead)
  (hH:∀j,cO H1 j=if j=id then some .dead else cO H j) (b:ix) (v:cd)
  (os:Y.os=J.os) (tape:Y.tape=J.tape) (output:Y.output=J.output) (size:J.heap.size<=Y.heap.size)
  (old:∀k,k<J.heap.size->((O id).nil=false->k≠(O id).g)->Y.heap[k]? =J.heap[k]?)
  (hv:v.nil=false->(J.heap.size<=v.g/\v.g<Y.heap.size)\/((O id).nil=false/\v.g=(O id).g)) (hb:b.fits O v Y) (hs:b.scopd nx):Rel ((nx,b)::H1) (nx+1) iv B w (fI O nx v) Y:=by
 have key:∀j c,cO H1 j=some c->∃c',cO H j=some c'/\(c≠ .dead->c'=c/\j≠id):=fun j c h=>by
  rw[hH]at h;split at h
  ·rename_i e;subst e;injection h with h;exact⟨b0,LK,fun I=>absurd h.symm I⟩
  ·rename_i e;exact⟨c,h,fun _=>⟨rfl,e⟩⟩
 have LG:∀j c,cO H1 j=some c->j≠nx:=fun j c h=>by obtain⟨c',h',_⟩:=key j c h;exact Nat.ne_of_lt (r.keys j c' h')
 have Lg:∀j c,cO H1 j=some c->fI O nx v j=O j:=fun j c h=>by simp[fI,LG j c h]
 have hidlt:=r.keys id b0 LK;have hvlow:v.nil=false->B<=v.g/\v.g<Y.heap.size:=fun A=>by
  rcases hv A with h|⟨V,I⟩
  ·have:=r.base;have:=r.size;omega
  ·have:=r.low id b0 LK V;omega
 refine Rel.mk' (os.trans r.os) (tape.trans r.tape) (output.trans r.output) (a9 r.size size) r.base r.oR ?_ ?_ ?_ ?_ ?_ ?_ ?_
 ·intro j b' h;rw[cL]at h;split at h
  ·omega
  ·obtain⟨c',h',_⟩:=key j b' h;have:=r.keys j c' h';omega
 ·intro j b' h;rw[cL]at h;split at h
  ·rename_i e;subst e;injection h with h;subst h;rw[dM];exact ix.fg hb ew hs (fun _ _=>rfl)
  ·rw[Lg j b' h];by_cases Np:b'= .dead
   ·subst Np;trivial
   ·obtain⟨c',h',I⟩:=key j b' h;obtain⟨rfl,Kq⟩:=I Np;exact ix.fg (r.fits h') ew (r.scopd h') (fun V _=>old _ (r.low j c' h' V).2 fun K e=>Kq (r.inj j id c' b0 h' LK Np hd V K e))
 ·intro j b' h;rw[cL]at h;split at h
  ·injection h with h;subst h;exact ix.gT (by omega) hs
  ·by_cases Np:b'= .dead
   ·subst Np;trivial
   ·obtain⟨c',h',I⟩:=key j b' h;obtain⟨rfl,Kq⟩:=I Np;exact ix.gT (by omega) (r.scopd h')
 ·have cross:∀j c,cO H1 j=some c->c≠ .dead->(O j).nil=false->v.nil=false->v.g≠(O j).g:=fun j c h dd nj nv e=>by
   obtain⟨c',h',I⟩:=key j c h;obtain⟨rfl,Kq⟩:=I dd;rcases hv nv with K|⟨K,h4⟩
   ·have:=(r.low j c' h' nj).2;omega
   ·exact Kq (r.inj j id c' b0 h' LK dd hd nj K (by omega))
  intro j j' b1 b2 V I d1 d2 n1 n2 e;rw[cL]at V I;split at V<;>split at I
  ·omega
  ·rename_i e1 e2;subst e1;rw[dM]at e n1;rw[Lg j' b2 I]at e n2;exact absurd e (cross j' b2 I d2 n2 n1)
  ·rename_i e1 e2;subst e2;rw[dM]at e n2;rw[Lg j b1 V]at e n1;exact absurd e.symm (cross j b1 V d1 n1 n2)
  ·rw[Lg j b1 V]at e n1;rw[Lg j' b2 I]at e n2;obtain⟨c1,g1,k1⟩:=key j b1 V;obtain⟨c2,g2,k2⟩:=key j' b2 I;obtain⟨rfl,_⟩:=k1 d1;obtain⟨rfl,_⟩:=k2 d2;exact r.inj j j' c1 c2 g1 g2 d1 d2 n1 n2 e
 ·intro j b' h n1;rw[cL]at h;split at h
  ·rename_i e;subst e;rw[dM]at n1 ⊢;exact hvlow n1
  ·rw[Lg j b' h]at n1 ⊢;obtain⟨c',h',_⟩:=key j b' h;have:=r.low j c' h' n1;omega
 ·intro k W Kq;have Pa:∀j c,cO H j=some c->(O j).nil=false->(O j).g≠k:=fun j c h nj=>by
   have hj:cO H1 j=some (if j=id then .dead else c):=by rw[hH];split<;>simp[h]
   have:=Kq j _ (by rw[cL,aF (Ne.symm (LG j _ hj))];exact hj) (by rw[Lg j _ hj];exact nj)
   rwa [Lg j _ hj]at this
  rw[old k (by have:=r.size;omega) (fun h e=>Pa id b0 LK h e.symm)];exact r.rP k W Pa
 ·intro lo N hm j b' h n1;rw[cL]at h;split at h
  ·rename_i e;subst e;rw[dM]at n1 ⊢;rcases hv n1 with K|⟨K,h4⟩
   ·have:=r.oR lo N hm;have:=r.size;omega
   ·rw[h4];exact r.ie lo N hm id b0 LK K
  ·rw[Lg j b' h]at n1 ⊢;obtain⟨c',h',_⟩:=key j b' h;exact r.ie lo N hm j c' h' n1
section
variable{P:Program}{τ:l9}{B n nx:Nat}{l:Env}{H:Hp}{iv:Iv}{w J:World}{O:Nat->cd}{a:Act}
theorem qQ(sat:Sat n l H nx iv B w O a J){x:Operand}{v:SV}(h:ev l x=some v):a.eval x=v.den O/\v.sc nx:=by
 cases x with
 |tmp t=>
  have V:=sat.env t v h;exact⟨by simp[Act.eval,V],sat.sc t v h⟩
 |const c=>simp[ev]at h;subst h;exact⟨rfl,trivial⟩
 |global g=>simp[ev]at h;subst h;exact⟨rfl,trivial⟩
 |func f=>simp[ev]at h;subst h;exact⟨rfl,trivial⟩
theorem cW(sat:Sat n l H nx iv B w O a J){x:Operand}{k:SV->Prop}(h:nE l x k):∃v,k v/\a.eval x=v.den O/\v.sc nx:=by
 unfold nE at h;split at h
 ·rename_i v hv;exact⟨v,h,qQ sat hv⟩
 ·exact h.elim
theorem oU(sat:Sat n l H nx iv B w O a J):∀{xs:List Operand} {k:List SV->Prop},Et l xs k->∃vs,k vs/\xs.map a.eval=vs.map (SV.den O)/\∀v∈vs,SV.sc nx v
 |[],k,h=>⟨[],h,rfl,by simp⟩
 |x::r,k,h=>by
  unfold Et at h;split at h
  ·rename_i v hv;obtain⟨vs,V,I,K⟩:=oU sat (xs:=r) h;have:=qQ sat hv;exact⟨v::vs,V,by simp[this.1,I],by simp;exact⟨this.2,K⟩⟩
  ·exact h.elim
theorem ko{o:Oper}{a:Act}{w:World}{v:Value}(h:(execOp a.eval o).run P w= .ok (.value v) Y)(W:next (a.put o.dst v) Y):o.wp P a w next Q:=by
 unfold Oper.wp;rw[h];exact W
theorem FM{o:Oper}{a:Act}{w:World}(h:(execOp a.eval o).run P w= .ok .skip Y)(W:next (a.put o.dst undef) Y):o.wp P a w next Q:=by
 unfold Oper.wp;rw[h];exact W
theorem kX{s:Sem Value}{w:World}{v:Value}(h:s.run P w= .ok v Y):((do pure (.value (<-s))):Sem Next).run P w= .ok (.value v) Y:=by
 simp[h]
theorem Bn.isAgg{t:Nat}{i:TI}(h:Bn P t i)(w:World):(isAgg t).run P w= .ok i.agg w:=by
 obtain⟨d,V,I⟩:=h.agg;unfold Go.isAgg;rw[Sem.run_bind,run_underlying V w,<-I]
 cases d<;>rfl
theorem Bn.sizeOf{t:Nat}{i:TI}(h:Bn P t i)(w:World):(sizeOf t).run P w= .ok i.size w:=by
 obtain⟨inf,z,V,I,_⟩:=h.info;simp[Go.sizeOf,typeInfo,V,I]
theorem Bn.zeroV{t:Nat}{i:TI}(h:Bn P t i)(w:World):∃z,(zeroValue t).run P w= .ok z w/\z.cells.toList=i.zero:=by
 obtain⟨inf,z,V,I,_,h4,h5⟩:=h.info;exact⟨z,by simp[zeroValue,typeInfo,V,h4],h5⟩
theorem jd{t:Nat}{i:TI}(ht:Bn P t i)(hagg:i.agg=false){w:World}{x:Value}(hc:w.cell? ad=some x):
  (Instr.loadAt t (.pointer (some ad))).run P w= .ok x w:=by
 simp[Instr.loadAt,Instr.sureAddr,loadVar,ht.isAgg,hagg,hc]
theorem im{t:Nat}{i:TI}(ht:Bn P t i)(hagg:i.agg=true){w:World}(hl:xs.length=i.size)(hc:∀j v,xs[j]? =some v->w.cell? (ad.add j)=some v):
  (Instr.loadAt t (.pointer (some ad))).run P w= .ok (.agg xs.toArray) w:=by
 have:=run_loadCells_list (P:=P) w ad xs hc;rw[hl]at this;simp[Instr.loadAt,Instr.sureAddr,loadVar,ht.isAgg,hagg,ht.sizeOf,this]
theorem cZ(g off j:Nat):(⟨g,off,none⟩:Addr).add j=⟨g,off+j,none⟩:=by
 unfold Addr.add;split<;>simp_all
theorem rV:∀{G:List At} {i:Nat},yz G i=G[i]?
 |[],i=>by simp[yz]
 |x::r,0=>by simp[yz]
 |x::r,i+1=>by simp[yz,rV (G:=r)]
theorem xy:∀{G:List Value} {i:Nat},Dy G i=G[i]?
 |[],i=>by simp[Dy]
 |x::r,0=>by simp[Dy]
 |x::r,i+1=>by simp[Dy,xy (G:=r)]
theorem xz:∀{G:List (Nat×Nat)} {i:Nat},Dz G i=G[i]?
 |[],i=>by simp[Dz]
 |x::r,0=>by simp[Dz]
 |x::r,i+1=>by simp[Dz,xz (G:=r)]
theorem cell_of{w:World}{g t:Nat}(h:w.heap[g]? =some (.cells G.toArray t (0,0))):w.cell? ⟨g,off,none⟩=G[off]? :=by
 rw[cell_of_row w g off _ t (0,0) h];simp
theorem eY{O:Nat->cd}:(xs.map At.v).map (At.den O)=xs:=by
 simp[Function.comp_def,At.den]
theorem lz(hτ:ey P τ)(rel0:Rel H nx iv B w O J){t:Nat}{addr:SV}(hs:addr.sc nx){G9:SV->Prop}(h:xw τ B t addr H nx iv w G9):
  ∃r,G9 r/\r.sc nx/\∀J,Rel H nx iv B w O J->(Instr.loadAt t (addr.den O)).run P J= .ok (r.den O) J:=by
 unfold xw at h;split at h
 ·exact h.elim
 ·rename_i sz ag by_ ze tag ik e al fs MQ;have ht:=hτ t _ MQ;split at h
  ·rename_i id off;split at h
   ·rename_i bt G hH;split at h
    ·split at h
     ·rename_i x F;rw[rV]at F;refine⟨_,h,rel0.Eu id bt G hH x (aD F),fun J rel=>?_⟩;have hb:=rel.box id bt G hH;exact jd ht rfl (by rw[cell_of hb];simp[F,SV.den])
     ·exact h.elim
    ·have V:=lq h;have I:=lr V.1;refine⟨_,I.1,fun c hc=>rel0.Eu id bt G hH c (List.mem_of_mem_drop (List.mem_of_mem_take hc)),fun J rel=>?_⟩;have hb:=rel.box id bt G hH;refine im ht rfl (xs:=((G.drop off).take sz).map (At.den O)) ?_ fun j v hv=>?_
     ·have:=I.2;simp only[aK,ah];omega
     ·rw[cZ,cell_of hb];simp only[aM,List.getElem?_take,List.getElem?_drop]at hv ⊢;split at hv
      ·exact hv
      ·simp at hv
   ·rename_i bt G hH;split at h
    ·obtain⟨x,F,h⟩:=h;exact⟨_,h,trivial,fun J rel=>jd ht rfl (by rw[cell_of (rel.arr id bt G hH),F];rfl)⟩
    ·obtain⟨xs,F,hl,h⟩:=h;refine⟨_,e8 h,fun c hc=>by simp at hc;obtain⟨v,_,rfl⟩:=hc;trivial,fun J rel=>?_⟩;have hb:=rel.arr id bt G hH;simp only[SV.den,eY]
     refine im ht rfl hl fun j v hv=>?_;rw[cZ,cell_of hb];rw[<-F]at hv;simp only[List.getElem?_take,List.getElem?_drop]at hv;split at hv
     ·exact hv
     ·simp at hv
   ·rename_i bt ez G hH;split at h
    ·obtain⟨x,F,h⟩:=h;refine⟨_,h,trivial,fun J rel=>?_⟩;have hb:=rel.vec id bt ez G hH;rcases hb with⟨_,rfl⟩|⟨A,spare,hb,_⟩
     ·simp at F
     ·refine jd ht rfl ?_;rw[cell_of hb];have:off<G.length:=(aC.1 F).1;rw[aJ this,F];rfl
    ·obtain⟨xs,F,hl,h⟩:=h;refine⟨_,e8 h,fun c hc=>by simp at hc;obtain⟨v,_,rfl⟩:=hc;trivial,fun J rel=>?_⟩;have hb:=rel.vec id bt ez G hH;simp only[SV.den,eY]
     rcases hb with⟨_,rfl⟩|⟨A,spare,hb,_⟩
     ·have:xs=[]:=by rw[<-F];simp
      subst this;refine im ht rfl hl fun j v hv=>by simp at hv
     ·refine im ht rfl hl fun j v hv=>?_;rw[cZ,cell_of hb];rw[<-F]at hv;simp only[List.getElem?_take,List.getElem?_drop]at hv;split at hv
      ·rw[aJ (aC.1 hv).1];exact hv
      ·simp at hv
   ·exact h.elim
  ·rename_i ad;split at h
   ·obtain⟨x,F,h⟩:=h;exact⟨_,h,trivial,fun J rel=>jd ht rfl (F O J rel)⟩
   ·obtain⟨xs,hl,F,h⟩:=h;refine⟨_,e8 h,fun c hc=>by simp at hc;obtain⟨v,_,rfl⟩:=hc;trivial,fun J rel=>?_⟩;simp only[SV.den,eY]
    exact im ht rfl hl fun j v hv=>F O J rel j v hv
  ·exact h.elim
theorem kr{t:Nat}{i:TI}(ht:Bn P t i){w:World}{g bt:Nat}(hb:w.heap[g]? =some (.cells old.toArray bt (0,0))){v:Value}
  (hv:v.cells=new.toArray) (hl:new.length=i.size) (V:∀x∈new,x.oneCell'=true) (Lv:off+new.length<=old.length):
  (Instr.storeAt t (.pointer (some ⟨g,off,none⟩)) v).run P w= .ok () (w.setRow g (old.take off++new++old.drop (off+new.length)).toArray):=by
 have:=run_storeCells_at (P:=P) g off bt new 0 old.toArray w hb (by simpa using Lv) V;simp only[bj]at this;simp[Instr.storeAt,Instr.sureAddr,storeVar,ht.sizeOf,hv,hl,this]
theorem jM:∀(vs:List Value) (w:World) (b off:Nat),setCells w ⟨b,off,none⟩ vs=w.setCells b off vs
 |[],_,_,_=>rfl
 |x::r,w,b,off=>by
  simp only[setCells,World.setCells,cZ]
  exact jM r _ b (off+1)
theorem sd(hτ:ey P τ)(sat:Sat n l H nx iv B w O a J){t:Nat}{addr x:SV}(hs:addr.sc nx)(F:x.sc nx){G9:Hp->World->Prop}(h:zA τ B t addr x H nx iv w G9):
  ∃H' Y w3,G9 H' Y/\Rel H' nx iv B Y O w3/\(Instr.storeAt t (addr.den O) (x.den O)).run P J= .ok () w3:=by
 unfold zA at h;split at h
 ·exact h.elim
 rename_i sz ag by_ ze tag ik e al fs MQ;have ht:=hτ t _ MQ;have rel:=sat.rel;have h0:=kW h;clear h;obtain⟨new,h00,LS,Nq⟩:=h0;have h0:=u5 h00;clear h00;obtain⟨h,Mq⟩:=h0;split at h
 ·exact h.elim
 rename_i hlen;have hlen:=dS hlen;have La:=LS O;have Nq:=Nq nx F;have V:∀v∈new.map (At.den O),v.oneCell'=true:=by
  intro v hv;simp at hv;obtain⟨c,hc,rfl⟩:=hv;exact one_den (Mq c hc) O
 have Lp:(new.map (At.den O)).length=sz:=by simpa using hlen
 split at h
 ·rename_i id off;split at h
  ·rename_i bt G hH;have hb:=rel.box id bt G hH;obtain⟨hr,Lv⟩:=lu h;obtain⟨H',hK,hH',_⟩:=oW hr;refine⟨H',w,_,hK,?_,kr ht (old:=G.map (At.den O)) hb La Lp V (by simp;omega)⟩;refine rel.store hH (by simp) (rel.nn id _ hH (by intros;simp) (by simp)) hH' rfl rfl rfl (by simp) (fun k W=>setRow_other _ _ _ _ W) ⟨rel.nn id _ hH (by intros;simp) (by simp),?_⟩ ?_
   ·rw[setRow_heap _ _ _ _ _ _ hb];simp[List.map_drop,List.map_take]
   ·intro c hc;simp only[bG]at hc;rcases hc with(hc|hc)|hc
    ·exact rel.Eu id bt G hH c (List.mem_of_mem_take hc)
    ·exact Nq c hc
    ·exact rel.Eu id bt G hH c (List.mem_of_mem_drop hc)
  ·rename_i bt G hH;have hb:=rel.arr id bt G hH;obtain⟨nv,hr,PR,Pf⟩:=jo h;obtain⟨Lv,cs',QD,hr⟩:=hr;obtain⟨H',hK,hH',_⟩:=oW hr;have NO:nv.length=sz:=by rw[PR]at hlen;simpa using hlen
   have MB:(x.den O).cells=nv.toArray:=by rw[La,PR,eY]
   refine⟨H',w,_,hK,?_,kr ht hb MB NO Pf (by omega)⟩;refine rel.store hH (by simp) (rel.nn id _ hH (by intros;simp) (by simp)) hH' rfl rfl rfl (by simp) (fun k W=>setRow_other _ _ _ _ W) ⟨rel.nn id _ hH (by intros;simp) (by simp),?_⟩ trivial;rw[setRow_heap _ _ _ _ _ _ hb,NO,QD]
  ·rename_i bt ez G hH;have hb:=rel.vec id bt ez G hH;obtain⟨nv,hr,PR,Pf⟩:=jo h;obtain⟨Lv,cs',QD,hr⟩:=hr;obtain⟨H',hK,hH',_⟩:=oW hr;have NO:nv.length=sz:=by rw[PR]at hlen;simpa using hlen
   have MB:(x.den O).cells=nv.toArray:=by rw[La,PR,eY]
   rcases hb with⟨LD,rfl⟩|⟨A,spare,hb,NT,Md⟩
   ·
    have h0:sz=0:=by simp at Lv;omega
    have hnv0:nv=[]:=by cases nv with|nil=>rfl|cons _ _=>simp at NO;omega
    subst hnv0;have:cs'=[]:=by rw[<-QD];simp
    subst this;refine⟨H',w,J,hK,?_,?_⟩
    ·have Rg:∀j,cO H' j=cO H j:=fun j=>by rw[hH'];split<;>simp_all
     exact Rel.mk' rel.os rel.tape rel.output rel.size rel.base rel.oR (fun id b h=>rel.keys id b (by rw[<-Rg];exact h)) (fun id b h=>rel.fits (by rw[<-Rg];exact h)) (fun id b h=>rel.scopd (by rw[<-Rg];exact h))
      (fun i j b b' V I=>rel.inj i j b b' (by rw[<-Rg];exact V) (by rw[<-Rg];exact I)) (fun id b h=>rel.low id b (by rw[<-Rg];exact h))
      (fun k W Kq=>rel.rP k W fun id b h=>Kq id b (by rw[Rg];exact h)) (fun lo N hm id b h=>rel.ie lo N hm id b (by rw[<-Rg];exact h))
    ·subst h0;show(Instr.storeAt t (.pointer (some ⟨(O id).g,off,none⟩)) (x.den O)).run P J=_;generalize x.den O=xv at MB ⊢;simp[Instr.storeAt,Instr.sureAddr,storeVar,ht.sizeOf,MB,storeCells]
   ·refine⟨H',w,_,hK,?_,kr ht hb MB NO Pf (by simp;omega)⟩;refine rel.store hH (by simp) A hH' rfl rfl rfl (by simp) (fun k W=>setRow_other _ _ _ _ W) (.inr ⟨A,spare,?_,?_,Md⟩) trivial
    ·rw[setRow_heap _ _ _ _ _ _ hb,<-QD,NO];congr 2;rw[List.take_append_of_le_length (by omega),List.drop_append_of_le_length (by omega)];simp
    ·rw[<-NT,<-QD];simp;omega
  ·exact h.elim
 ·rename_i ad;obtain⟨nv,hr,PR,Pf⟩:=jo h;obtain⟨Rh,Kt,Kq,hK⟩:=hr O J rel;have NO:nv.length=sz:=by rw[PR]at hlen;simpa using hlen
  have MB:(x.den O).cells=nv.toArray:=by rw[La,PR,eY]
  obtain⟨b,off,spot⟩:=ad;simp only at Rh Kq;subst Rh;have MG:=run_storeCells_cells (P:=P) b off nv 0 J (fun j hj=>by have:=(Kt j (by omega)).1;rwa [cZ]at this) (fun j hj=>by have:=(Kt j (by omega)).2;rwa [cZ]at this) Pf;have hother:∀k,k≠b->(J.setCells b off nv).heap[k]? =J.heap[k]? :=by
   intro k W;clear MG Kt h hr hK PR Pf MB NO
   induction nv generalizing J off with
   |nil=>rfl
   |cons v r ih=>
    simp only[World.setCells]
    rw[show (∀(w0:World) (o:Nat),(w0.setCells b o r).heap[k]? =w0.heap[k]?)from ?_]
    ·simp[World.setCell,Array.getElem?_modify,Ne.symm W]
    ·clear ih;intro w0 o
     induction r generalizing w0 o with
     |nil=>rfl
     |cons v r ih=>simp only[World.setCells];rw[ih];simp[World.setCell,Array.getElem?_modify,Ne.symm W]
  have hfrm:(J.setCells b off nv).os=J.os/\(J.setCells b off nv).tape=J.tape/\(J.setCells b off nv).output=J.output/\(J.setCells b off nv).heap.size=J.heap.size:=by
   have:∀(vs:List Value) (w0:World) (o:Nat),(w0.setCells b o vs).os=w0.os/\(w0.setCells b o vs).tape=w0.tape/\(w0.setCells b o vs).output=w0.output/\(w0.setCells b o vs).heap.size=w0.heap.size:=by
    intro vs
    induction vs with
    |nil=>intro w0 o;exact⟨rfl,rfl,rfl,rfl⟩
    |cons v r ih=>intro w0 o;simp only[World.setCells];obtain⟨V,I,K,h4⟩:=ih (w0.setCell ⟨b,o,none⟩ v) (o+1);exact⟨V,I,K,by rw[h4];simp⟩
   exact this nv J off
  refine⟨H,_,J.setCells b off nv,hK _ rfl,?_,?_⟩
  ·rw[jM];refine Rel.mk' rfl rfl rfl (aE _) (by rw[hfrm.2.2.2];have:=rel.base;have:=rel.size;omega) (fun lo N hm=>by rw[hfrm.2.2.2];have:=rel.oR lo N hm;have:=rel.size;omega) rel.keys
    (fun id b' h=>ix.fg (rel.fits h) (fun _ _=>rfl) (rel.scopd h) (fun LD _=>hother _ (Kq id b' h LD))) (fun id b' h=>rel.scopd h) rel.inj (fun id b' h LD=>by rw[hfrm.2.2.2];exact rel.low id b' h LD) (fun _ _ _=>rfl) rel.ie
  ·show(Instr.storeAt t (.pointer (some ⟨b,off,none⟩)) (x.den O)).run P J=_;generalize x.den O=xv at MB ⊢;simp at MG;simp[Instr.storeAt,Instr.sureAddr,storeVar,ht.sizeOf,MB,NO,MG]
 ·exact h.elim
end
theorem Bu(new:List Value):∀(k off:Nat) (G:Array Value),off+k+new.length<=G.size->
  ((new.zipIdx k).foldl (fun G (c,j)=>G.setIfInBounds (off+j) c) G).toList=G.toList.take (off+k)++new++G.toList.drop (off+k+new.length):=by
 induction new with
 |nil=>intro k off G _;simp
 |cons x r ih=>
  intro k off G h;simp only[bL]at h;rw[List.zipIdx_cons,List.foldl_cons,ih (k+1) off _ (by simp;omega)];have I:=list_seg_step G.toList (off+k) x r (by simp;omega);simp only[Array.toList_setIfInBounds,bL]at I ⊢;rw[show off+(k+1)=off+k+1 by omega];exact I
theorem EF{i:Nat}{v:Value}(hp:place i=some (off,size))
  (hv:v.cells=new.toArray) (hl:new.length=size) (Lv:off+new.length<=cells.size):
  Instr.fill place cells ((i,v)::rest)=Instr.fill place (cells.toList.take off++new++cells.toList.drop (off+new.length)).toArray rest:=by
 have h:=Bu new 0 off cells (by omega);have e:(v.cells.zipIdx.foldl (fun G (x:Value×Nat)=>G.setIfInBounds (off+x.2) x.1) cells)=(cells.toList.take off++new++cells.toList.drop (off+new.length)).toArray:=by
  rw[hv,<-Array.foldl_toList];apply Array.ext';simpa using h
 conv=>lhs;unfold Instr.fill
 simp only[hp,hv,List.size_toArray,hl]
 rw[aF (by simp;omega)];rw[hv]at e;rw[<-hl,<-e]
section
variable{P:Program}{τ:l9}{B n nx:Nat}{l:Env}{H:Hp}{iv:Iv}{w J:World}{O:Nat->cd}{a:Act}
theorem jN(sat:Sat n l H nx iv B w O a J){place:Nat->(Nat->Nat->Prop)->Prop}{placeF:Nat->Option (Nat×Nat)}
  (hp:∀i k,place i k->∃off size,k off size/\placeF i=some (off,size)):∀{parts:List (Nat×Operand)} {G:List At} {k:List At->Prop},
  rU l place parts G k->(∀c∈G,At.sc nx c)->∃cs',k cs'/\(∀c∈cs',At.sc nx c)/\cs'.length=G.length/\
   Instr.fill placeF (G.map (At.den O)).toArray (parts.map fun p=>(p.1,a.eval p.2))=some (cs'.map (At.den O)).toArray
 |[],G,k,h,hs=>⟨G,h,hs,rfl,by simp[Instr.fill]⟩
 |(i,x)::r,G,k,h,hs=>by
  unfold rU at h;obtain⟨off,size,V,MC⟩:=hp i _ h;obtain⟨v,I,hv,Mw⟩:=cW sat V;obtain⟨new,K,LS,Nq⟩:=kW I;split at K
  ·rename_i hlen;have hlen:=dS hlen;obtain⟨h4,Lv⟩:=lu K
   obtain⟨cs',h5,h6,h7,h8⟩:=jN sat hp h4 (by
    intro c hc;simp only[bG]at hc;rcases hc with(hc|hc)|hc
    ·exact hs c (List.mem_of_mem_take hc)
    ·exact Nq nx Mw c hc
    ·exact hs c (List.mem_of_mem_drop hc))
   refine⟨cs',h5,h6,by rw[h7];simp;omega,?_⟩;have hc:=LS O;rw[List.map_cons,EF (new:=new.map (At.den O)) MC (by show(a.eval x).cells=_;rw[hv];exact hc) (by simpa using hlen) (by simpa using Lv),<-h8];simp[List.map_drop,List.map_take]
  ·exact K.elim
theorem ku(hτ:ey P τ){f:Nat}{k:Nat->Nat->Bool->Prop}(h:nJ τ fs f k):
  ∃off ft fi,k off fi.size fi.agg/\fs[f]? =some (off,ft)/\Bn P ft fi/\fi.size≠0:=by
 unfold nJ at h;split at h
 ·rename_i off ft hf;rw[xz]at hf;split at h
  ·rename_i sz ag by_ ze tag ik e al fs' MQ;split at h
   ·exact h.elim
   ·rename_i LL;exact⟨off,ft,_,h,hf,hτ ft _ MQ,fun e=>by simp at e;subst e;simp at LL⟩
  ·exact h.elim
 ·exact h.elim
theorem u6{t:Nat}{i:TI}(h:Bn P t i)(h5:i.tag=5){f ft:Nat}(hf:i.fields[f]? =some (off,ft)):
  ∃fs fd,P.underlying t=some (.struct fs)/\fs[f]? =some fd/\fd.offset=off/\fd.type=ft:=by
 obtain⟨fs,V,I,_⟩:=h.i5 h5;rw[<-I]at hf;simp only[aM,Option.map_eq_some_iff]at hf;obtain⟨fd,MM,Z⟩:=hf;injection Z with e1 e2;exact⟨fs,fd,V,by simpa using MM,e1,e2⟩
theorem AP{t:Nat}{i:TI}(h:Bn P t i)(h5:i.tag=5){f ft:Nat}{fi:TI}(hf:i.fields[f]? =some (off,ft))(QE:Bn P ft fi)(LL:fi.size≠0)(ad:Addr)(w:World):
  (Instr.fieldAt t (.pointer (some ad)) f).run P w= .ok (.pointer (some (ad.add off))) w:=by
 obtain⟨fs,fd,V,I,rfl,rfl⟩:=u6 h h5 hf;simp[Instr.fieldAt,run_underlying V,I,Instr.sureAddr,fieldPlace,QE.sizeOf,LL]
theorem qR{x:SV}{G9:SV->Prop}(h:tw x m G9)(F:x.sc nx):∃r ad,G9 r/\r.sc nx/\x.den O= .pointer (some ad)/\r.den O= .pointer (some (ad.add m)):=by
 unfold tw at h;split at h
 ·rename_i id off;exact⟨_,⟨(O id).g,off,none⟩,h,F,rfl,by simp[SV.den,At.den,cZ]⟩
 ·rename_i ad;exact⟨_,ad,h,trivial,rfl,rfl⟩
 ·exact h.elim
theorem rW(rel:Rel H nx iv B w O J){G9:Prop}(h:EB H id m G9):G9/\((O id).nil=true->m=0):=by
 unfold EB at h;split at h
 ·rename_i t sz G hH;split at h
  ·exact h.elim
  ·rename_i k;refine⟨h.2,fun A=>?_⟩;have V:=h.1;rcases rel.vec id t (k+1) G hH with⟨_,rfl⟩|⟨I,_⟩
   ·have h4:m*(k+1)=0:=by simpa using V.symm
    rcases Nat.mul_eq_zero.1 h4 with h5|h5
    ·exact h5
    ·omega
   ·rw[A]at I;cases I
 ·exact h.elim
theorem EH(hτ:ey P τ){t ty:Nat}{x:SV}(h:Ii τ H t x G9)(rel:Rel H nx iv B w O J):
  ∃r,G9 r/\∀J,(Builtin.len_ #[t] ty #[x.den O]).run P J= .ok (.int .i64 r) J:=by
 unfold Ii at h;split at h
 ·exact h.elim
 rename_i sz ag by_ ze tag ik e al fs MQ;have ht:=hτ t _ MQ;split at h
 ·rename_i LB;have hu:=ht.i4 (dS LB);split at h
  ·exact⟨_,h,fun J=>by simp[Builtin.len_,run_underlying hu,SV.den,At.den,goInt]⟩
  ·exact⟨_,h,fun J=>by simp[Builtin.len_,run_underlying hu,SV.den,At.den,goInt]⟩
  ·rename_i id m;have V:=rW rel h;refine⟨_,V.1,fun J=>?_⟩
   cases A:(O id).nil
   ·simp[Builtin.len_,run_underlying hu,SV.den,At.den,goInt,A]
   ·have:=V.2 A;subst this;simp[Builtin.len_,run_underlying hu,SV.den,At.den,goInt,A]
  ·exact h.elim
 ·split at h
  ·rename_i LB;have hu:=ht.i3 (dS LB);split at h
   ·exact⟨_,h,fun J=>by simp[Builtin.len_,run_underlying hu,SV.den,At.den,goInt]⟩
   ·exact h.elim
  ·split at h
   ·rename_i LB;have hu:=ht.i6 (dS LB);exact⟨_,h,fun J=>by simp[Builtin.len_,run_underlying hu,goInt]⟩
   ·exact h.elim
theorem AQ(hτ:ey P τ){t:Nat}{x i:SV}{G9:SV->Prop}(h:Bo τ H t x i G9)(F:x.sc nx)(rel:Rel H nx iv B w O J):
  ∃r,G9 r/\r.sc nx/\∀J,(Instr.indexAt t (x.den O) (i.den O)).run P J= .ok (r.den O) J:=by
 unfold Bo at h;split at h
 ·rename_i kd i;split at h
  ·rename_i sz ag by_ ze tag ik e al fs MQ;have ht:=hτ t _ MQ;split at h
   ·rename_i sz' ag' by' ze' tag' ik' e' al' fs' LY
    have LY:=hτ e _ LY;split at h
    ·rename_i LB;have hu:=ht.i4 (dS LB);simp only at hu;split at h
     ·rename_i id off m c;obtain⟨hb,h⟩:=h;exact⟨_,h,F,fun J=>by simp[Instr.indexAt,run_underlying hu,asIntOf,SV.den,At.den,hb,LY.sizeOf,cZ]⟩
     ·rename_i id m;obtain⟨⟨hb,V⟩,I⟩:=rW rel h;refine⟨_,V,F,fun J=>?_⟩
      cases A:(O id).nil
      ·simp[Instr.indexAt,run_underlying hu,asIntOf,SV.den,At.den,hb,LY.sizeOf,cZ,A]
      ·have:=I A;omega
     ·rename_i a0 m c;obtain⟨ad,rfl,hb,h⟩:=h;exact⟨_,h,trivial,fun J=>by simp[Instr.indexAt,run_underlying hu,asIntOf,SV.den,At.den,hb,LY.sizeOf]⟩
     ·exact h.elim
    ·split at h
     ·rename_i LB;have hu:=ht.i6 (dS LB);simp only at hu;obtain⟨hb,h⟩:=h;obtain⟨r,ad,V,I,K,h4⟩:=qR (O:=O) h F;refine⟨r,V,I,fun J=>?_⟩;rw[K,h4];simp[Instr.indexAt,run_underlying hu,asIntOf,SV.den,At.den,Instr.sureAddr,hb,LY.sizeOf]
     ·exact h.elim
   ·exact h.elim
  ·exact h.elim
 ·exact h.elim
theorem jt(sat:Sat n l H nx iv B w O a J){x:Option Operand}{d:Int}(h:HX l x d G9):∃i,G9 i/\((x=none/\i=d)\/∃o k,x=some o/\a.eval o= .int k i):=by
 unfold HX at h;split at h
 ·exact⟨d,h,.inl ⟨rfl,rfl⟩⟩
 ·obtain⟨v,V,I,K⟩:=cW sat h;clear K;split at V
  ·rename_i k i;exact⟨i,V,.inr ⟨_,k,rfl,I⟩⟩
  ·exact V.elim
theorem mA{len cap:Nat}{i j:Int}(Oo:(lo=none/\i=0)\/∃o k,lo=some o/\a.eval o= .int k i)(Pg:(N=none/\j=len)\/∃o k,N=some o/\a.eval o= .int k j)
  (h0:0<=i) (V:i<=j) (I:j<=cap):(Instr.sliceBounds true len cap (lo.map a.eval) (N.map a.eval) none).run P J= .ok (i.toNat,j.toNat,cap) J:=by
 rcases Oo with⟨rfl,rfl⟩|⟨o,k,rfl,ho⟩<;>rcases Pg with⟨rfl,rfl⟩|⟨o',k',rfl,No⟩
 ·simp[Instr.sliceBounds]
 ·have h1':0<=j:=by omega
  simp[Instr.sliceBounds,Instr.sliceBound,No,asIntOf,h1',I]
 ·have:i<=(len:Int):=V;simp[Instr.sliceBounds,Instr.sliceBound,ho,asIntOf,h0,this]
 ·have h1':0<=j:=by omega
  have K:i<=((j.toNat:Nat):Int):=by omega
  have h3':i<=max j 0:=by omega
  simp[Instr.sliceBounds,Instr.sliceBound,ho,No,asIntOf,h1',I,h0,h3']
theorem AR{len cap:Nat}{i j:Int}(Oo:(lo=none/\i=0)\/∃o k,lo=some o/\a.eval o= .int k i)(Pg:(N=none/\j=len)\/∃o k,N=some o/\a.eval o= .int k j)
  (h0:0<=i) (V:i<=j) (I:j<=cap):(Instr.sliceBounds false len cap (lo.map a.eval) (N.map a.eval) none).run P J= .ok (i.toNat,j.toNat,cap) J:=by
 rcases Oo with⟨rfl,rfl⟩|⟨o,k,rfl,ho⟩<;>rcases Pg with⟨rfl,rfl⟩|⟨o',k',rfl,No⟩
 ·simp[Instr.sliceBounds]
 ·have h1':0<=j:=by omega
  simp[Instr.sliceBounds,Instr.sliceBound,No,asIntOf,h1',I]
 ·have:i<=(len:Int):=V;simp[Instr.sliceBounds,Instr.sliceBound,ho,asIntOf,h0,this]
 ·have h1':0<=j:=by omega
  have K:i<=((j.toNat:Nat):Int):=by omega
  have h3':i<=max j 0:=by omega
  simp[Instr.sliceBounds,Instr.sliceBound,ho,No,asIntOf,h1',I,h0,h3']
theorem AS(hτ:ey P τ)(sat:Sat n l H nx iv B w O a J){t:Nat}{x:SV}{G9:SV->Prop}(h:Bp τ H t x l lo N G9)(F:x.sc nx):
  ∃r,G9 r/\r.sc nx/\∀J,(Instr.sliceAt t (x.den O) (lo.map a.eval) (N.map a.eval) none).run P J= .ok (r.den O) J:=by
 unfold Bp at h;split at h
 ·rename_i sz ag by_ ze tag ik e al fs MQ;have ht:=hτ t _ MQ;split at h
  ·rename_i LB;have hu:=ht.i4 (dS LB);simp only at hu;split at h
   ·rename_i sz' ag' by' ze' tag' ik' e' al' fs' LY
    have LY:=hτ e _ LY;split at h
    ·rename_i id off m c;obtain⟨i,V,Oo⟩:=jt sat h;obtain⟨j,I,Pg⟩:=jt sat V;obtain⟨⟨b0,b1,b2⟩,off',n',c',e1,rfl,rfl,K⟩:=I;refine⟨_,K,F,fun J=>?_⟩;have hb:=mA (P:=P) (J:=J) Oo Pg b0 b1 b2;subst e1;simp[Instr.sliceAt,Instr.slice,run_underlying hu,SV.den,At.den,hb,LY.sizeOf];by_cases hc:c=i.toNat
     ·rw[if_pos hc,if_pos (by omega)]
     ·rw[aF hc,aF (by omega)];simp[cZ]
    ·rename_i ad m c;obtain⟨i,V,Oo⟩:=jt sat h;obtain⟨j,I,Pg⟩:=jt sat V;obtain⟨⟨b0,b1,b2⟩,off',n',c',e1,rfl,rfl,K⟩:=I;refine⟨_,K,trivial,fun J=>?_⟩;have hb:=mA (P:=P) (J:=J) Oo Pg b0 b1 b2;subst e1;simp[Instr.sliceAt,Instr.slice,run_underlying hu,SV.den,At.den,hb,LY.sizeOf];by_cases hc:c=i.toNat
     ·rw[if_pos hc,if_pos (by omega)]
     ·rw[aF hc,aF (by omega)]
    ·rename_i id m;split at h
     ·obtain⟨V,LD⟩:=rW sat.rel h;obtain⟨j,I,Pg⟩:=jt sat V;obtain⟨⟨b0,b1⟩,m',rfl,K⟩:=I;refine⟨_,K,F,fun J=>?_⟩;have Md:(O id).nil=false->m<=(O id).cap:=fun A=>by
       unfold EB at h;split at h
       ·rename_i t' sz' cs' hH;split at h
        ·exact h.elim
        ·rename_i k;rcases sat.rel.vec id t' (k+1) cs' hH with⟨h5,_⟩|⟨_,spare,_,h6,_⟩
         ·rw[A]at h5;cases h5
         ·have h7:=h.1;have h8:(cs'++spare).length=cs'.length+spare.length:=List.length_append;have h9:m*(k+1)<=(O id).cap*(k+1):=by omega
          exact Nat.le_of_mul_le_mul_right h9 (Nat.succ_pos k)
       ·exact h.elim
      cases A:(O id).nil with
      |true=>
       have hm:=LD A;subst hm;have hb:=mA (P:=P) (J:=J) (len:=0) (cap:=0) (lo:=none) (i:=0) (.inl ⟨rfl,rfl⟩) Pg (Int.le_refl 0) b0 b1;have hj:j.toNat=0:=by omega
       rw[hj]at hb ⊢;simp only[Option.map_none]at hb;simp[Instr.sliceAt,Instr.slice,run_underlying hu,SV.den,At.den,A,hb,LY.sizeOf]
      |false=>
       have hc:=Md A;have hb:=mA (P:=P) (J:=J) (len:=m) (cap:=(O id).cap) (lo:=none) (i:=0) (.inl ⟨rfl,rfl⟩) Pg (Int.le_refl 0) b0 (by omega);simp only[Option.map_none]at hb;simp[Instr.sliceAt,Instr.slice,run_underlying hu,SV.den,At.den,A,hb,LY.sizeOf,cZ]
     ·exact h.elim
    ·exact h.elim
   ·exact h.elim
  ·split at h
   ·rename_i LB;have hu:=ht.i6 (dS LB);simp only at hu;split at h
    ·rename_i sz' ag' by' ze' tag' ik' e' al' fs' LY
     have LY:=hτ e _ LY;split at h
     ·rename_i id off;split at h
      ·split at h
       ·rename_i h0;refine⟨_,h,F,fun J=>?_⟩;have h0:al≠0:=fun e=>by subst e;cases h0
        simp[Instr.sliceAt,Instr.sliceBounds,run_underlying hu,SV.den,At.den,LY.sizeOf,Instr.sureAddr,cZ]
       ·exact h.elim
      ·exact h.elim
     ·exact h.elim
    ·exact h.elim
   ·split at h
    ·rename_i LB;have hu:=ht.i3 (dS LB);split at h
     ·rename_i s;obtain⟨i,V,Oo⟩:=jt sat h;obtain⟨j,I,Pg⟩:=jt sat V;obtain⟨⟨b0,b1,b2⟩,K⟩:=I;refine⟨_,K,trivial,fun J=>?_⟩;have hb:=AR (P:=P) (J:=J) Oo Pg b0 b1 b2;simp[Instr.sliceAt,Instr.slice,run_underlying hu,SV.den,At.den,hb]
     ·exact h.elim
    ·exact h.elim
 ·exact h.elim
end
section
variable{P:Program}{τ:l9}{B n nx:Nat}{l:Env}{H:Hp}{iv:Iv}{w J:World}{O:Nat->cd}{a:Act}
theorem AT(z:Value)(c:Nat):(madeCells #[z] c)=(List.replicate c z).toArray:=by
 unfold madeCells;apply Array.ext';simp[List.map_const',Nat.mod_one]
theorem oX(zs:List Value)(c:Nat):(madeCells zs.toArray (c*zs.length))=((List.replicate c zs).flatten).toArray:=by
 unfold madeCells;apply Array.ext';simp only[Array.toList_map,Array.toList_range,List.size_toArray]
 induction c with
 |zero=>simp
 |succ c ih=>
  rw[Nat.succ_mul,List.range_add,List.map_append,ih,List.replicate_succ',List.flatten_append];simp only[List.flatten_cons,List.flatten_nil,List.append_nil,List.map_map]
  congr 1;apply List.ext_getElem
  ·simp
  ·intro i V I;simp at V;simp[bE V,V]
theorem Bv(hτ:ey P τ)(sat:Sat n l H nx iv B w O a J){t:Nat}{x y:SV}{G9:SV->Hp->Nat->Prop}(h:DG τ t x y H nx G9):
  ∃r H' Ku GE Y,G9 r H' Ku/\Rel H' Ku iv B w GE Y/\r.sc Ku/\nx<=Ku/\(∀id,id<nx->O id=GE id)/\(Instr.makeSlice t (x.den O) (y.den O)).run P J= .ok (r.den GE) Y:=by
 unfold DG at h;split at h
 ·rename_i k1 a1 k2 b1;split at h
  ·rename_i sz ag by_ ze tag ik e al fs MQ;have ht:=hτ t _ MQ;split at h
   ·rename_i LB;have hu:=ht.i4 (dS LB);simp only at hu;split at h
    ·rename_i sz' ag' by' ze' tag' ik' e' al' fs' LY
     have LY:=hτ e _ LY;obtain⟨inf,z,N,LL,L0,hz,MW⟩:=LY.info;simp only at LL L0 MW;obtain⟨m,c,rfl,rfl,Ph,hbytes,h63,h⟩:=h;have Qe:(inf.bytes:Int)*(c:Int)<=281474976710656:=by
      rw[L0];have Mn:((by'*c:Nat):Int)<=281474976710656:=by omega
      rwa [Int.natCast_mul]at Mn
     have Kv:=run_make (P:=P) J t e inf z hu N hz k1 k2 (m:Int) (c:Int) (by omega) (by omega) Qe (by omega);simp only[aG]at Kv;have fin:∀G:List Value,G.toArray=madeCells z.cells (c*inf.size)->xS (.arr e G) H nx (fun H' Ku=>G9 (.o (.s nx 0 m c)) H' Ku)->
       ∃r H' Ku GE Y,G9 r H' Ku/\Rel H' Ku iv B w GE Y/\r.sc Ku/\nx<=Ku/\(∀id,id<nx->O id=GE id)/\(Instr.makeSlice t (.int k1 m) (.int k2 c)).run P J= .ok (r.den GE) Y:=by
      intro G Le hK;refine⟨_,_,_,fI O nx ⟨J.heap.size,0,false⟩,J.alloc (.cells G.toArray e),hK,?_,?_,by omega,ew,?_⟩
      ·refine sat.rel.push (.arr e G) _ rfl rfl rfl (by simp) (fun k W=>heap_alloc_old _ _ W) (fun _=>⟨aE _,by simp⟩) ⟨rfl,heap_alloc_new _ _⟩ trivial
      ·simp[SV.sc,At.sc]
      ·rw[Kv,<-Le];simp[SV.den,At.den]
     have Mp:=LY.Dw;simp only at Mp;have Mr:z.cells=ze'.toArray:=by apply Array.ext';simpa using MW
     split at h
     ·rename_i z0;refine fin _ ?_ h;have:inf.size=1:=by rw[LL,<-Mp];rfl
      rw[this,az,Mr,AT]
     ·refine fin _ ?_ h;rw[LL,<-Mp,Mr];rcases bF ze'.length with h0|h0
      ·have:ze'=[]:=List.eq_nil_of_length_eq_zero h0;subst this;simp[madeCells]
      ·rw[oX]
    ·exact h.elim
   ·exact h.elim
  ·exact h.elim
 ·exact h.elim
theorem Bw(sat:Sat n l H nx iv B w O a J){x:SV}{G9:Nat->List Value->Prop}(LU:0<size)(h:FH B H nx iv w size x G9):
  ∃m c ad news,G9 m news/\x.den O= .slice ad m c/\news.length=m*size/\(∀u∈news,u.oneCell'=true)/\
   ((ad=none/\m=0)\/∃ad',ad=some ad'/\∀j u,news[j]? =some u->J.cell? (ad'.add j)=some u):=by
 have rel:=sat.rel;unfold FH at h;split at h
 ·rename_i id off m c;split at h
  ·rename_i bt G hH;obtain⟨V,hd⟩:=lq h;obtain⟨I,ht⟩:=lr V;obtain⟨vs,K,Mw,hv1⟩:=jo I;refine⟨m,c,_,vs,K,rfl,?_,hv1,.inr ⟨_,rfl,fun j u hu=>?_⟩⟩
   ·have:=congrArg List.length Mw;simp at this ht;omega
   ·rw[cZ,cell_of (rel.box id bt G hH)];have e:(vs.map At.v)[j]? =some (.v u):=by simp[hu]
    rw[<-Mw]at e;simp only[List.getElem?_take,List.getElem?_drop]at e;split at e
    ·simp[e,At.den]
    ·simp at e
  ·rename_i bt G hH;obtain⟨vs,V,I,K,h4⟩:=h;refine⟨m,c,_,vs,h4,rfl,I,K,.inr ⟨_,rfl,fun j u hu=>?_⟩⟩;rw[cZ,cell_of (rel.arr id bt G hH)];rw[<-V]at hu;simp only[List.getElem?_take,List.getElem?_drop]at hu;split at hu
   ·exact hu
   ·simp at hu
  ·exact h.elim
 ·rename_i ad m c;obtain⟨vs,V,I,K,h4⟩:=h;refine⟨m,c,ad,vs,h4,rfl,V,I,?_⟩;rcases bF m with h0|h0
  ·subst h0;have:vs=[]:=List.eq_nil_of_length_eq_zero (by simpa using V);subst this
   cases ad with
   |none=>exact .inl ⟨rfl,rfl⟩
   |some ad=>exact .inr ⟨ad,rfl,fun j u hu=>by simp at hu⟩
  ·exact .inr (K O J rel h0)
 ·rename_i id m;split at h
  ·rename_i bt sz G hH;obtain⟨V,I,K⟩:=h;rcases rel.vec id bt sz G hH with⟨A,rfl⟩|⟨A,spare,hb,_⟩
   ·have h0:m=0:=by
     have h4:m*size=0:=by simpa using V.symm
     rcases Nat.mul_eq_zero.1 h4 with h5|h5<;>omega
    subst h0;exact⟨0,0,none,[],K,by simp[SV.den,At.den,A],by simp,by simp,.inl ⟨rfl,rfl⟩⟩
   ·refine⟨m,(O id).cap,_,G,K,by simp only[SV.den,At.den,A];rfl,V,I,.inr ⟨_,rfl,fun j u hu=>?_⟩⟩;rw[cZ,cell_of hb,aU,aJ (aC.1 hu).1];exact hu
  ·exact h.elim
 ·exact h.elim
theorem js(w:World)(base:Nat)(t ty e:TypeId)(i:TypeInfo)(size:Nat)(ht:P.underlying t=some (.slice e))(N:P.info? e=some i)
  (v:Value) (m:Nat) (xs:List Value) (OA:w.ownsRow base e size v m xs) (c:Nat):(Builtin.append_ #[t,t] ty #[v,.slice none 0 c]).run P w= .ok v w:=by
 rcases OA.2 with⟨rfl,rfl⟩|⟨g,cap,cur,rfl,_,_,PZ,_⟩
 ·simp[Builtin.append_,run_underlying ht,sizeOf,typeInfo,N,Builtin.lenOf,Builtin.firstCells]
 ·simp[Builtin.append_,run_underlying ht,sizeOf,typeInfo,N,Builtin.lenOf,Builtin.firstCells,PZ,storeCells]
theorem nN{w:World}{e:Nat}{v:Value}{base:Nat}(h:w.ownsRow base e size v m xs):
  ∃val:cd,(At.w 0 m).den (fun _=>val)=v/\(ix.vec e size xs).fits (fun _=>val) val w/\(val.nil=false->v.ownBlock=some val.g/\val.g<w.heap.size)/\(val.nil=true->v.ownBlock=none):=by
 rcases h.2 with⟨rfl,rfl⟩|⟨g,cap,cur,rfl,_,hb,PZ,Md,hcur,Nr⟩
 ·have:xs=[]:=List.eq_nil_of_length_eq_zero (by simpa using h.1);exact⟨⟨0,0,true⟩,rfl,.inl ⟨rfl,this⟩,(fun h=>by cases h),fun _=>rfl⟩
 ·refine⟨⟨g,cap,false⟩,rfl,.inr ⟨rfl,cur.toList.drop (m*size),?_,?_,Md⟩,fun _=>⟨rfl,(aW.1 hb).1⟩,(fun h=>by cases h)⟩
  ·rw[<-Nr,List.take_append_drop];simpa using hb
  ·rw[<-Nr,List.take_append_drop];simpa using hcur
theorem FN(rel:Rel H nx iv B w O J){e sz:Nat}(hH:cO H id=some (.vec e sz G))(hl:G.length=m*sz)(LU:0<sz):
  J.ownsRow B e sz ((At.w id m).den O) m G:=by
 rcases rel.vec id e sz G hH with⟨A,rfl⟩|⟨A,spare,hb,NT,Md⟩
 ·have h0:m=0:=by
   have h4:m*sz=0:=by simpa using hl.symm
   rcases Nat.mul_eq_zero.1 h4 with h5|h5<;>omega
  subst h0;simp only[At.den,A]
  exact World.ownsRow_nil _ _ _ _
 ·refine⟨hl,.inr ⟨(O id).g,(O id).cap,_,by simp only[At.den,A],(rel.low id _ hH A).1,hb,?_,Md,by simpa using NT,by simp[<-hl]⟩⟩;have V:m*sz<=(O id).cap*sz:=by rw[<-NT,<-hl];simp
  exact Nat.le_of_mul_le_mul_right V LU
theorem qO(hτ:ey P τ)(sat:Sat n l H nx iv B w O a J){t ty:Nat}{x y:SV}{G9:SV->Hp->Nat->Prop}(h:tx τ B t x y H nx iv w G9):
  ∃r H' Ku GE Y,G9 r H' Ku/\Rel H' Ku iv B w GE Y/\r.sc Ku/\nx<=Ku/\(∀id,id<nx->O id=GE id)/\(Builtin.append_ #[t,t] ty #[x.den O,y.den O]).run P J= .ok (r.den GE) Y:=by
 have rel:=sat.rel;unfold tx at h;split at h
 ·exact h.elim
 rename_i sz ag by_ ze tag ik e al fs MQ;have ht:=hτ t _ MQ;split at h
 ·rename_i LB;have hu:=ht.i4 (dS LB);simp only at hu;split at h
  ·rename_i sz' ag' by' ze' tag' ik' e' al' fs' LY
   have LY:=hτ e _ LY;split at h
   ·exact h.elim
   ·rename_i z0 zr;obtain⟨inf,z,N,LL,L0,hz,MW⟩:=LY.info;have Mp:=LY.Dw;simp only at LL L0 MW Mp;have LU:0<sz':=by rw[<-Mp];simp
    have hzs:z.cells.size=sz':=by rw[<-Mp,<-MW];simp
    have h0:=Bw sat LU h;clear h;obtain⟨m,c,ad,news,h,hy,NO,hn1,hsrc⟩:=h0;have happ:∀(v:Value) (k:Nat) (xs:List Value),J.ownsRow B e sz' v k xs->(k+m)*by'<=140737488355328->k+m<=maxLen->
      ∃v' Y,(Builtin.append_ #[t,t] ty #[v,y.den O]).run P J= .ok v' Y/\Y.ownsRow B e sz' v' (k+m) (xs++news)/\J.grownBy Y v.ownBlock/\(v'.ownBlock=v.ownBlock\/v'.ownBlock=some J.heap.size):=by
     intro v k xs OA hb ND;rw[hy];rcases hsrc with⟨rfl,rfl⟩|⟨ad',rfl,LS⟩
     ·have:news=[]:=List.eq_nil_of_length_eq_zero (by simpa using NO);subst this;exact⟨v,J,js J B t ty e inf sz' hu N v k xs OA c,by simpa using OA,⟨rfl,rfl,rfl,aE _,fun _ _ _=>rfl⟩,.inl rfl⟩
     ·obtain⟨v',Y,V,I,K,_,h5⟩:=run_append_own_at (P:=P) J B t ty e inf z sz' by' hu N hz LL L0 hzs LU v k xs OA ad' m c news NO LS hn1 ND hb (by have:=rel.base;have:=rel.size;omega)
      exact⟨v',Y,V,I,K,h5⟩
    split at h
    ·obtain⟨hb,ND,hK⟩:=h;obtain⟨v',Y,V,I,K,h5⟩:=happ (.slice none 0 0) 0 [] (World.ownsRow_nil _ _ _ _) (by simpa using hb) (by simpa using ND);simp only[aU,List.nil_append]at I;obtain⟨val,hv1,Nb,hv3,hv4⟩:=nN I;refine⟨_,_,_,fI O nx val,Y,hK,?_,by simp[SV.sc,At.sc],by omega,ew,?_⟩
     ·refine rel.push (.vec e sz' news) val K.os K.tape K.output K.size (fun k W=>K.block k W (by simp[Value.ownBlock])) (fun A=>?_) (by simpa [ix.fits]using Nb) trivial;have:=hv3 A;rcases h5 with h6|h6
      ·rw[this.1]at h6;simp[Value.ownBlock]at h6
      ·rw[this.1]at h6;injection h6 with h6;exact⟨by omega,this.2⟩
     ·rw[show SV.den O (.o (.v (.slice none 0 0)))= .slice none 0 0 from rfl,V,<-hv1];simp[SV.den,At.den]
    ·rename_i id k;split at h
     ·rename_i e1 sz1 G hH;split at h
      ·rename_i he1;have he1:=dS he1;subst he1;split at h
       ·rename_i LW;have LW:=dS LW;subst LW;obtain⟨hl,hb,ND,h⟩:=h;obtain⟨H1,hK,hH1,_⟩:=pT h;obtain⟨v',Y,V,I,K,h5⟩:=happ _ k G (FN rel hH hl LU) hb ND;obtain⟨val,hv1,Nb,hv3,hv4⟩:=nN I;have M7:(O id).nil=false->((At.w id k).den O).ownBlock=some (O id).g:=fun A=>by simp[At.den,A,Value.ownBlock]
        have hob':(O id).nil=true->((At.w id k).den O).ownBlock=none:=fun A=>by simp[At.den,A,Value.ownBlock]
        refine⟨_,_,_,fI O nx val,Y,hK,?_,by simp[SV.sc,At.sc],by omega,ew,?_⟩
        ·refine rel.FL hH (by simp) hH1 (.vec e1 sz1 (G++news)) val K.os K.tape K.output K.size (fun j hj Kq=>?_) (fun A=>?_) (by simpa [ix.fits]using Nb) trivial
         ·refine K.block j hj fun e=>?_
          cases LD:(O id).nil
          ·rw[M7 LD]at e;injection e with e;exact Kq LD e
          ·rw[hob' LD]at e;cases e
         ·have:=hv3 A;rcases h5 with h6|h6
          ·rw[this.1]at h6
           cases LD:(O id).nil
           ·rw[M7 LD]at h6;injection h6 with h6;exact .inr ⟨rfl,h6⟩
           ·rw[hob' LD]at h6;cases h6
          ·rw[this.1]at h6;injection h6 with h6;exact .inl ⟨by omega,this.2⟩
        ·rw[show SV.den O (.o (.w id k))=(At.w id k).den O from rfl,V,<-hv1];simp[SV.den,At.den]
       ·exact h.elim
      ·exact h.elim
     ·exact h.elim
    ·rename_i id k c0;split at h
     ·rename_i Oh;have Oh:=dS Oh;subst Oh;split at h
      ·rename_i e1 cs0 hH;split at h
       ·rename_i he1;have he1:=dS he1;subst he1;obtain⟨G,⟨hl,hb,ND,h9⟩,rfl,_⟩:=jo h;obtain⟨H1,hK,hH1,_⟩:=pT h9;have LD:(O id).nil=false:=rel.nn id _ hH (by intros;simp) (by simp);have OO:=rel.box id _ _ hH;rw[eY]at OO;have OA:J.ownsRow B e1 sz' ((At.s id 0 k k).den O) k G:=by
         refine⟨hl,.inr ⟨(O id).g,k,_,by simp only[At.den],(rel.low id _ hH LD).1,OO,aE _,by omega,by simp[hl],by simp[<-hl]⟩⟩
        obtain⟨v',Y,V,I,K,h5⟩:=happ _ k G OA hb ND;obtain⟨val,hv1,Nb,hv3,hv4⟩:=nN I;have M7:((At.s id 0 k k).den O).ownBlock=some (O id).g:=by simp[At.den,Value.ownBlock]
        refine⟨_,_,_,fI O nx val,Y,hK,?_,by simp[SV.sc,At.sc],by omega,ew,?_⟩
        ·refine rel.FL hH (by simp) hH1 (.vec e1 sz' (G++news)) val K.os K.tape K.output K.size (fun j hj Kq=>?_) (fun A=>?_) (by simpa [ix.fits]using Nb) trivial
         ·refine K.block j hj fun e=>?_;rw[M7]at e;injection e with e;exact Kq LD e
         ·have:=hv3 A;rcases h5 with h6|h6
          ·rw[this.1]at h6;rw[M7]at h6;injection h6 with h6;exact .inr ⟨LD,h6⟩
          ·rw[this.1]at h6;injection h6 with h6;exact .inl ⟨by omega,this.2⟩
        ·rw[show SV.den O (.o (.s id 0 k k))=(At.s id 0 k k).den O from rfl,V,<-hv1];simp[SV.den,At.den]
       ·exact h.elim
      ·exact h.elim
     ·exact h.elim
    ·exact h.elim
  ·exact h.elim
 ·exact h.elim
end
end Go.Sx
