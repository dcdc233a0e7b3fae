/- A part of the proof: texts L1 to X5. Each tells its conditions in its theorems. -/
import Derived.WalkKit
import Derived.KernelRfl
import Derived.Test.YtneljlhlncjkhaaGreatDoorProg
import Derived.Test.YtneljlhlncjkhaaGreatDoorP2
/- Natural numbers in limbs of 32 bits: plain laws. No condition. -/
namespace Go.Ex

/-- the number of a list of limbs, the least first -/
def val:List Nat→Nat
 |[]=>0
 |x::r=>x+4294967296*val r
/-- each limb fits -/
def Lm(ls:List Nat):Prop:=∀x∈ls,x<4294967296
/-- a weight -/
def wt(k:Nat):Nat:=4294967296^k
theorem wt_zero:wt 0=1:=rfl
theorem wt_succ(k:Nat):wt (k+1)=4294967296*wt k:=by rw[wt,Nat.pow_succ,Nat.mul_comm];rfl
theorem wt_add(a b:Nat):wt (a+b)=wt a*wt b:=by rw[wt,Nat.pow_add];rfl
theorem wt_pos(k:Nat):0<wt k:=Nat.pow_pos (by decide)
theorem val_append(a b:List Nat):val (a++b)=val a+wt a.length*val b:=by
 induction a with
 |nil=>simp[val,wt_zero]
 |cons x r ih=>
  rw[List.cons_append,val,val,ih,List.length_cons,wt_succ,Nat.mul_add,Nat.mul_assoc]
  omega
theorem val_lt{ls:List Nat}(h:Lm ls):val ls<wt ls.length:=by
 induction ls with
 |nil=>exact Nat.one_pos
 |cons x r ih=>
  have h1:=h x (by simp)
  have h2:=ih (fun y hy=>h y (by simp[hy]))
  rw[val,List.length_cons,wt_succ]
  have:4294967296*(val r+1)≤4294967296*wt r.length:=Nat.mul_le_mul_left _ h2
  omega
theorem val_take_drop(ls:List Nat)(k:Nat)(h:k≤ls.length):val ls=val (ls.take k)+wt k*val (ls.drop k):=by
 have:=val_append (ls.take k) (ls.drop k)
 rw[List.take_append_drop,List.length_take,Nat.min_eq_left h]at this
 exact this
theorem val_take_succ{ls:List Nat}{k x:Nat}(h:ls[k]? =some x):val (ls.take (k+1))=val (ls.take k)+wt k*x:=by
 have hk:=(List.getElem?_eq_some_iff.1 h).1
 rw[List.take_add_one,h,val_append,List.length_take,Nat.min_eq_left (by omega)]
 simp[val]
theorem val_drop{ls:List Nat}{k x:Nat}(h:ls[k]? =some x):val (ls.drop k)=x+4294967296*val (ls.drop (k+1)):=by
 obtain⟨hk,hx⟩:=List.getElem?_eq_some_iff.1 h
 rw[List.drop_eq_getElem_cons hk,hx,val]
theorem val_set{ls:List Nat}{k o x:Nat}(h:ls[k]? =some o):val (ls.set k x)+wt k*o=val ls+wt k*x:=by
 obtain⟨hk,ho⟩:=List.getElem?_eq_some_iff.1 h
 have h1:=val_take_drop ls k (by omega)
 have h2:=val_take_drop (ls.set k x) k (by simp;omega)
 rw[List.take_set_of_le (Nat.le_refl _)]at h2
 rw[val_drop h,Nat.mul_add]at h1
 have h3:(ls.set k x)[k]? =some x:=by rw[List.getElem?_set_self hk]
 rw[val_drop h3,List.drop_set_of_lt (by omega),Nat.mul_add]at h2
 omega
theorem val_replicate(n:Nat):val (List.replicate n 0)=0:=by
 induction n with
 |zero=>rfl
 |succ n ih=>rw[List.replicate_succ,val,ih]
theorem Lm.set{ls:List Nat}{k x:Nat}(h:Lm ls)(hx:x<4294967296):Lm (ls.set k x):=fun y hy=>by
 rcases List.mem_or_eq_of_mem_set hy with h1|rfl
 ·exact h y h1
 ·exact hx
theorem Lm.replicate(n:Nat):Lm (List.replicate n 0):=fun x hx=>by rw[List.mem_replicate]at hx;omega
theorem Lm.take{ls:List Nat}(h:Lm ls)(k:Nat):Lm (ls.take k):=fun x hx=>h x (List.mem_of_mem_take hx)
theorem Lm.drop{ls:List Nat}(h:Lm ls)(k:Nat):Lm (ls.drop k):=fun x hx=>h x (List.mem_of_mem_drop hx)
theorem Lm.append{a b:List Nat}(ha:Lm a)(hb:Lm b):Lm (a++b):=fun x hx=>by
 rcases List.mem_append.1 hx with h|h
 ·exact ha x h
 ·exact hb x h
theorem Lm.at{ls:List Nat}(h:Lm ls){k x:Nat}(hx:ls[k]? =some x):x<4294967296:=h x (List.mem_of_getElem? hx)

/-- limbs without zeros at the end -/
def trimL:List Nat→List Nat
 |[]=>[]
 |x::r=>match trimL r with
  |[]=>if x=0 then []else [x]
  |y::t=>x::y::t
/-- no zero at the end -/
def Nz(ls:List Nat):Prop:=∀x,ls.getLast? =some x→x≠0
theorem trimL_snoc_zero(ls:List Nat):trimL (ls++[0])=trimL ls:=by
 induction ls with
 |nil=>rfl
 |cons x r ih=>rw[List.cons_append,trimL,ih,trimL]
theorem trimL_snoc(ls:List Nat){x:Nat}(hx:x≠0):trimL (ls++[x])=ls++[x]:=by
 induction ls with
 |nil=>simp[trimL,hx]
 |cons y r ih=>
  rw[List.cons_append,trimL,ih]
  cases r<;>rfl
theorem snoc_cases(ls:List Nat):ls=[]∨∃a x,ls=a++[x]:=by
 rcases List.eq_nil_or_concat ls with h|⟨a,x,h⟩
 ·exact .inl h
 ·exact .inr ⟨a,x,by simpa using h⟩
theorem trimL_spec(ls:List Nat):val (trimL ls)=val ls∧Nz (trimL ls)∧∃k,k≤ls.length∧trimL ls=ls.take k:=by
 have key:∀(n:Nat) (ls:List Nat),ls.length=n→val (trimL ls)=val ls∧Nz (trimL ls)∧∃k,k≤ls.length∧trimL ls=ls.take k:=by
  intro n
  induction n with
  |zero=>intro ls h;have:ls=[]:=List.eq_nil_of_length_eq_zero h;subst this;exact⟨rfl,by simp[Nz,trimL],0,Nat.le_refl _,rfl⟩
  |succ n ih=>
   intro ls h
   rcases snoc_cases ls with rfl|⟨a,x,rfl⟩
   ·simp at h
   ·by_cases hx:x=0
    ·subst hx
     rw[trimL_snoc_zero]
     obtain⟨h1,h2,k,h3,h4⟩:=ih a (by simp at h;omega)
     refine⟨by rw[h1,val_append];simp[val],h2,k,by simp;omega,?_⟩
     rw[h4,List.take_append_of_le_length h3]
    ·rw[trimL_snoc a hx]
     refine⟨rfl,?_,_,Nat.le_refl _,by rw[List.take_length]⟩
     intro y hy
     simp at hy
     subst hy
     exact hx
 exact key _ ls rfl
theorem trimL_of_nz{ls:List Nat}(h:Nz ls):trimL ls=ls:=by
 rcases snoc_cases ls with rfl|⟨a,x,rfl⟩
 ·rfl
 ·exact trimL_snoc a (h x (by simp))
theorem val_pos_of_nz{ls:List Nat}(h:Nz ls)(hne:ls≠[]):wt (ls.length-1)≤val ls:=by
 rcases snoc_cases ls with rfl|⟨a,x,rfl⟩
 ·exact absurd rfl hne
 ·have hx:=h x (by simp)
  rw[val_append]
  simp only[val,List.length_append,List.length_singleton,Nat.add_sub_cancel]
  have:wt a.length*1≤wt a.length*(x+4294967296*0):=Nat.mul_le_mul_left _ (by omega)
  omega
theorem val_inj:∀{a b:List Nat},Lm a→Lm b→a.length=b.length→val a=val b→a=b
 |[],[],_,_,_,_=>rfl
 |x::r,y::s,ha,hb,hl,h=>by
  have h1:=ha x (by simp)
  have h2:=hb y (by simp)
  rw[val,val]at h
  have h3:x=y:=by omega
  have h4:val r=val s:=by omega
  rw[h3,val_inj (fun z hz=>ha z (by simp[hz])) (fun z hz=>hb z (by simp[hz])) (by simpa using hl) h4]
 |[],_::_,_,_,h,_=>by simp at h
 |_::_,[],_,_,h,_=>by simp at h
theorem wt_le{a b:Nat}(h:a≤b):wt a≤wt b:=Nat.pow_le_pow_right (by decide) h
/-- longer is greater -/
theorem val_lt_of_length{a b:List Nat}(ha:Lm a)(hb:Nz b)(h:a.length<b.length):val a<val b:=by
 have h1:=val_lt ha
 have h2:=val_pos_of_nz hb (by intro e;rw[e]at h;simp at h)
 have:=wt_le (show a.length≤b.length-1 by omega)
 omega
/-- how many limbs a number has -/
def ln(n:Nat):Nat:=if n=0 then 0 else n.log2 / 32+1
theorem wt_two(k:Nat):wt k=2^(32*k):=by rw[wt,show(4294967296:Nat)=2^32 from rfl,←Nat.pow_mul]
theorem ln_le{n k:Nat}:ln n≤k↔n<wt k:=by
 unfold ln
 by_cases h:n=0
 ·rw[if_pos h,h]
  exact⟨fun _=>wt_pos k,fun _=>Nat.zero_le _⟩
 ·rw[if_neg h,wt_two]
  constructor
  ·intro h1
   have:n.log2<32*k:=by omega
   exact(Nat.log2_lt h).1 this
  ·intro h1
   have:=(Nat.log2_lt h).2 h1
   omega
theorem lt_wt_ln(n:Nat):n<wt (ln n):=ln_le.1 (Nat.le_refl _)
theorem ln_mono{a b:Nat}(h:a≤b):ln a≤ln b:=ln_le.2 (Nat.lt_of_le_of_lt h (lt_wt_ln b))
theorem ln_add(a b:Nat):ln (a+b)≤max (ln a) (ln b)+1:=by
 rw[ln_le,wt_succ]
 have h1:=Nat.lt_of_lt_of_le (lt_wt_ln a) (wt_le (Nat.le_max_left (ln a) (ln b)))
 have h2:=Nat.lt_of_lt_of_le (lt_wt_ln b) (wt_le (Nat.le_max_right (ln a) (ln b)))
 omega
theorem ln_mul(a b:Nat):ln (a*b)≤ln a+ln b:=by
 rw[ln_le,wt_add]
 exact Nat.mul_lt_mul'' (lt_wt_ln a) (lt_wt_ln b)
theorem ln_div(a b:Nat):ln (a / b)≤ln a:=ln_mono (Nat.div_le_self a b)
theorem ln_zero:ln 0=0:=rfl
/-- the number of limbs that are in order -/
theorem length_ln{ls:List Nat}(h:Lm ls)(hz:Nz ls):ls.length=ln (val ls):=by
 by_cases hne:ls=[]
 ·subst hne;rfl
 ·have h1:=val_lt h
  have h2:=val_pos_of_nz hz hne
  have h3:=ln_le.2 h1
  have h4:¬ln (val ls)≤ls.length-1:=fun hh=>by have:=ln_le.1 hh;omega
  omega
end Go.Ex

/- Readings of lists of limbs that persist; where blocks lie. No condition. -/
namespace Go.Ex
open Go Go.Sx

/-- a block is one of those that are told (S), or lies in an interval of what calls have made -/
def Cv(S:Nat→Prop)(B:Nat)(iv:Iv)(g:Nat):Prop:=S g∨(B≤g∧∃lo hi,(lo,hi)∈iv∧lo≤g∧g<hi)
/-- .. or is new -/
def Nw(S:Nat→Prop)(w w2:World)(g:Nat):Prop:=S g∨(w.heap.size≤g∧g<w2.heap.size)
/-- blocks that were there -/
def Old(S:Nat→Prop)(w:World):Prop:=∀g,S g→g<w.heap.size
section
variable{S S':Nat→Prop}{H:Hp}{nx:Nat}{iv iv':Iv}{B:Nat}{w w' w2:World}{ρ:Nat→Val}
theorem Cv.mono{g:Nat}(h:Cv S B iv g)(k:∀p,p∈iv→p∈iv'):Cv S B iv' g:=by
 rcases h with h|⟨h0,lo,hi,h1,h2⟩
 ·exact .inl h
 ·exact .inr ⟨h0,lo,hi,k _ h1,h2⟩
theorem Cv.cons{g:Nat}{p:Nat×Nat}(h:Cv S B iv g):Cv S B (p::iv) g:=h.mono fun q hq=>by simp[hq]
/-- seen from a call: all that is told lies below the heap's end -/
theorem Rel.old(r:Rel H nx iv B w ρ w')(hS:∀g,S g→g<B):Old (Cv S B iv) w':=by
 intro g h
 rcases h with h|⟨_,lo,hi,h1,_,h3⟩
 ·have:=hS g h;have:=r.base;have:=r.size;omega
 ·have:=r.ivs lo hi h1;have:=r.size;omega
/-- what is told is no block of one's own, and as it was -/
theorem Rel.same(r:Rel H nx iv B w ρ w')(hS:∀g,S g→g<B){g:Nat}(h:Cv S B iv g):w'.heap[g]? =w.heap[g]? :=by
 rcases h with h|⟨_,lo,hi,h1,h2,h3⟩
 ·have:=hS g h
  exact r.frm g (by have:=r.base;omega) fun id b hb hn he=>by have:=(r.low id b hb hn).1;omega
 ·exact r.frm g (by have:=r.ivs lo hi h1;omega) fun id b hb hn he=>r.prot lo hi h1 id b hb hn ⟨by omega,by omega⟩
theorem Rel.not(r:Rel H nx iv B w ρ w')(hS:∀g,S g→g<B){g:Nat}(h:Cv S B iv g):∀id b,getH H id=some b→(ρ id).nil=false→(ρ id).g≠g:=by
 rcases h with h|⟨_,lo,hi,h1,h2,h3⟩
 ·have:=hS g h
  exact fun id b hb hn he=>by have:=(r.low id b hb hn).1;omega
 ·exact fun id b hb hn he=>r.prot lo hi h1 id b hb hn ⟨by omega,by omega⟩
/-- what a call hands back, seen by the caller -/
theorem Nw.cv{w1:World}{g:Nat}(h:Nw (Cv S B iv) w' w1 g)(hB:B≤w'.heap.size):Cv S B ((w'.heap.size,w1.heap.size)::iv) g:=by
 rcases h with h|h
 ·exact h.cons
 ·exact .inr ⟨by omega,_,_,List.mem_cons_self,h.1,h.2⟩
/-- what is handed back, seen by whoever calls -/
theorem Cv.nw{w0:World}{g:Nat}(h:Cv S w0.heap.size iv g)(r:Rel H nx iv w0.heap.size w ρ w'):Nw S w0 w' g:=by
 rcases h with h|⟨h0,lo,hi,h1,_,h3⟩
 ·exact .inl h
 ·exact .inr ⟨h0,by have:=r.ivs lo hi h1;have:=r.size;omega⟩
/-- a list of limbs is read -/
structure Limbs(w:World)(S:Nat→Prop)(v:Value)(ls:List Nat):Prop where
 lm:Lm ls
 le:ls.length≤9223372036854775807
 sl:∃a c,v= .slice a ls.length c∧ls.length≤c∧∀(j:Nat) x,ls[j]? =some x→∃ad,a=some ad∧S ad.block∧w.cell? (ad.add j)=some (.int .u32 x)
theorem addB(ad:Addr)(j:Nat):(ad.add j).block=ad.block:=by
 unfold Addr.add
 split<;>rfl
theorem Limbs.keep{v:Value}{ls:List Nat}(h:Limbs w S v ls)(hk:∀g,S g→w2.heap[g]? =w.heap[g]?):Limbs w2 S v ls:=by
 obtain⟨a,c,h1,hlc,h2⟩:=h.sl
 refine⟨h.lm,h.le,a,c,h1,hlc,fun j x hx=>?_⟩
 obtain⟨ad,h3,h4,h5⟩:=h2 j x hx
 exact⟨ad,h3,h4,by rw[cell_of_heap (hk _ (by rw[addB];exact h4))];exact h5⟩
theorem Limbs.weak{v:Value}{ls:List Nat}(h:Limbs w S v ls)(hk:∀g,S g→S' g):Limbs w S' v ls:=by
 obtain⟨a,c,h1,hlc,h2⟩:=h.sl
 refine⟨h.lm,h.le,a,c,h1,hlc,fun j x hx=>?_⟩
 obtain⟨ad,h3,h4,h5⟩:=h2 j x hx
 exact⟨ad,h3,hk _ h4,h5⟩
theorem Limbs.rel{v:Value}{ls:List Nat}(h:Limbs w (Cv S B iv) v ls)(r:Rel H nx iv B w ρ w')(hS:∀g,S g→g<B):Limbs w' (Cv S B iv) v ls:=h.keep fun _g hg=>Rel.same r hS hg
theorem Limbs.nil(w:World)(S:Nat→Prop):Limbs w S (.slice none 0 0) []:=⟨by simp[Lm],by simp,none,0,rfl,Nat.le_refl _,by simp⟩

/-- a natural number: its limbs, without zeros at the end -/
def NatR(w:World)(S:Nat→Prop)(v:Value)(n:Nat):Prop:=∃ls,Limbs w S v ls∧Nz ls∧val ls=n
theorem NatR.keep{v:Value}{n:Nat}(h:NatR w S v n)(hk:∀g,S g→w2.heap[g]? =w.heap[g]?):NatR w2 S v n:=by
 obtain⟨ls,h1,h2,h3⟩:=h;exact⟨ls,h1.keep hk,h2,h3⟩
theorem NatR.weak{v:Value}{n:Nat}(h:NatR w S v n)(hk:∀g,S g→S' g):NatR w S' v n:=by
 obtain⟨ls,h1,h2,h3⟩:=h;exact⟨ls,h1.weak hk,h2,h3⟩
theorem NatR.nil(w:World)(S:Nat→Prop):NatR w S (.slice none 0 0) 0:=⟨[],Limbs.nil w S,by simp[Nz],rfl⟩
end
end Go.Ex

/- The base of the proofs of a seat: the types, the functions by name, how each is entered. No condition. Written by program. -/
namespace Go.Ex
open Go Go.Sx Go.Proofs

noncomputable abbrev PG:Program:=Tryz.prog
def tabl:List (Nat×TI):=[
 (3,{size:=1,bytes:=8,zero:=[.int .i64 0],agg:=false,tag:=1,ik:=.i64}),
 (4,{size:=1,bytes:=1,zero:=[.bool false],agg:=false,tag:=2}),
 (23,{size:=1,bytes:=24,zero:=[.slice none 0 0],agg:=false,tag:=4,elem:=30}),
 (88,{size:=1,bytes:=24,zero:=[.slice none 0 0],agg:=false,tag:=4,elem:=94}),
 (30,{size:=4,bytes:=64,zero:=[.bool false,.slice none 0 0,.bool false,.slice none 0 0],agg:=true,tag:=5,fields:=[(0,28),(2,28)]}),
 (90,{size:=1,bytes:=24,zero:=[.slice none 0 0],agg:=false,tag:=4,elem:=124}),
 (9,{size:=1,bytes:=16,zero:=[.string ⟨#[]⟩],agg:=false,tag:=3}),
 (28,{size:=2,bytes:=32,zero:=[.bool false,.slice none 0 0],agg:=true,tag:=5,fields:=[(0,4),(1,26)]}),
 (94,{size:=4,bytes:=64,zero:=[.bool false,.slice none 0 0,.bool false,.slice none 0 0],agg:=true,tag:=5,fields:=[(0,92),(2,92)]}),
 (22,{size:=1,bytes:=24,zero:=[.slice none 0 0],agg:=false,tag:=4,elem:=23}),
 (116,{size:=1,bytes:=24,zero:=[.slice none 0 0],agg:=false,tag:=4,elem:=3}),
 (124,{size:=1,bytes:=4,zero:=[.int .u32 0],agg:=false,tag:=1,ik:=.u32}),
 (92,{size:=2,bytes:=32,zero:=[.bool false,.slice none 0 0],agg:=true,tag:=5,fields:=[(0,4),(1,90)]}),
 (85,{size:=1,bytes:=24,zero:=[.slice none 0 0],agg:=false,tag:=4,elem:=88}),
 (5,{size:=1,bytes:=1,zero:=[.int .u8 0],agg:=false,tag:=1,ik:=.u8}),
 (36,{size:=1,bytes:=8,zero:=[.int .i64 0],agg:=false,tag:=1,ik:=.i64}),
 (25,{size:=3,bytes:=72,zero:=[.slice none 0 0,.slice none 0 0,.slice none 0 0],agg:=true,tag:=5,fields:=[(0,22),(1,23),(2,23)]}),
 (181,{size:=1,bytes:=8,zero:=[.int .u64 0],agg:=false,tag:=1,ik:=.u64}),
 (21,{size:=1,bytes:=4,zero:=[.int .i32 0],agg:=false,tag:=1,ik:=.i32}),
 (131,{size:=1,bytes:=8,zero:=[.pointer none],agg:=false,tag:=7}),
 (32,{size:=8,bytes:=144,zero:=[.int .i64 0,.slice none 0 0,.slice none 0 0,.slice none 0 0,.bool false,.slice none 0 0,.bool false,.slice none 0 0],agg:=true,tag:=5,fields:=[(0,3),(1,23),(2,23),(3,23),(4,30)]}),
 (135,{size:=9,bytes:=184,zero:=[.slice none 0 0,.slice none 0 0,.slice none 0 0,.slice none 0 0,.slice none 0 0,.bool false,.slice none 0 0,.bool false,.slice none 0 0],agg:=true,tag:=5,fields:=[(0,116),(1,116),(2,85),(3,88),(4,88),(5,94)]}),
 (26,{size:=1,bytes:=24,zero:=[.slice none 0 0],agg:=false,tag:=4,elem:=124}),
 (97,{size:=10,bytes:=208,zero:=[.slice none 0 0,.slice none 0 0,.slice none 0 0,.slice none 0 0,.slice none 0 0,.slice none 0 0,.bool false,.slice none 0 0,.bool false,.slice none 0 0],agg:=true,tag:=5,fields:=[(0,85),(1,88),(2,88),(3,88),(4,88),(5,88),(6,94)]}),
 (203,{size:=1,bytes:=24,zero:=[.slice none 0 0],agg:=false,tag:=4,elem:=5}),
 (182,{size:=1,bytes:=8,zero:=[.int .u64 0],agg:=false,tag:=1,ik:=.u64}),
 (223,{size:=1,bytes:=8,zero:=[.pointer none],agg:=false,tag:=7}),
 (177,{size:=1,bytes:=24,zero:=[.slice none 0 0],agg:=false,tag:=4,elem:=116}),
 (201,{size:=1,bytes:=24,zero:=[.slice none 0 0],agg:=false,tag:=4,elem:=9}),
 (79,{size:=4,bytes:=80,zero:=[.int .i64 0,.slice none 0 0,.slice none 0 0,.slice none 0 0],agg:=true,tag:=5,fields:=[(0,3),(1,23),(2,22),(3,23)]}),
 (148,{size:=3,bytes:=72,zero:=[.slice none 0 0,.slice none 0 0,.slice none 0 0],agg:=true,tag:=5,fields:=[(0,88),(1,88),(2,85)]}),
 (246,{size:=2,bytes:=2,zero:=[.int .u8 0,.int .u8 0],agg:=true,tag:=5,fields:=[(0,5),(1,5)]}),
 (218,{size:=256,bytes:=256,zero:=[.bool false,.bool false,.bool false,.bool false,.bool false,.bool false,.bool false,.bool false,.bool false,.bool false,.bool false,.bool false,.bool false,.bool false,.bool false,.bool false,.bool false,.bool false,.bool false,.bool false,.bool false,.bool false,.bool false,.bool false,.bool false,.bool false,.bool false,.bool false,.bool false,.bool false,.bool false,.bool false,.bool false,.bool false,.bool false,.bool false,.bool false,.bool false,.bool false,.bool false,.bool false,.bool false,.bool false,.bool false,.bool false,.bool false,.bool false,.bool false,.bool false,.bool false,.bool false,.bool false,.bool false,.bool false,.bool false,.bool false,.bool false,.bool false,.bool false,.bool false,.bool false,.bool false,.bool false,.bool false,.bool false,.bool false,.bool false,.bool false,.bool false,.bool false,.bool false,.bool false,.bool false,.bool false,.bool false,.bool false,.bool false,.bool false,.bool false,.bool false,.bool false,.bool false,.bool false,.bool false,.bool false,.bool false,.bool false,.bool false,.bool false,.bool false,.bool false,.bool false,.bool false,.bool false,.bool false,.bool false,.bool false,.bool false,.bool false,.bool false,.bool false,.bool false,.bool false,.bool false,.bool false,.bool false,.bool false,.bool false,.bool false,.bool false,.bool false,.bool false,.bool false,.bool false,.bool false,.bool false,.bool false,.bool false,.bool false,.bool false,.bool false,.bool false,.bool false,.bool false,.bool false,.bool false,.bool false,.bool false,.bool false,.bool false,.bool false,.bool false,.bool false,.bool false,.bool false,.bool false,.bool false,.bool false,.bool false,.bool false,.bool false,.bool false,.bool false,.bool false,.bool false,.bool false,.bool false,.bool false,.bool false,.bool false,.bool false,.bool false,.bool false,.bool false,.bool false,.bool false,.bool false,.bool false,.bool false,.bool false,.bool false,.bool false,.bool false,.bool false,.bool false,.bool false,.bool false,.bool false,.bool false,.bool false,.bool false,.bool false,.bool false,.bool false,.bool false,.bool false,.bool false,.bool false,.bool false,.bool false,.bool false,.bool false,.bool false,.bool false,.bool false,.bool false,.bool false,.bool false,.bool false,.bool false,.bool false,.bool false,.bool false,.bool false,.bool false,.bool false,.bool false,.bool false,.bool false,.bool false,.bool false,.bool false,.bool false,.bool false,.bool false,.bool false,.bool false,.bool false,.bool false,.bool false,.bool false,.bool false,.bool false,.bool false,.bool false,.bool false,.bool false,.bool false,.bool false,.bool false,.bool false,.bool false,.bool false,.bool false,.bool false,.bool false,.bool false,.bool false,.bool false,.bool false,.bool false,.bool false,.bool false,.bool false,.bool false,.bool false,.bool false,.bool false,.bool false,.bool false,.bool false,.bool false,.bool false,.bool false,.bool false,.bool false,.bool false,.bool false,.bool false,.bool false,.bool false,.bool false,.bool false,.bool false,.bool false,.bool false],agg:=true,tag:=6,alen:=256,elem:=4}),
 (225,{size:=2,bytes:=32,zero:=[.pointer none,.slice none 0 0],agg:=true,tag:=5,fields:=[(0,223),(1,203)]}),
 (232,{size:=1,bytes:=24,zero:=[.slice none 0 0],agg:=false,tag:=4,elem:=90}),
 (110,{size:=1,bytes:=8,zero:=[.nilFunc],agg:=false,tag:=0}),
 (222,{size:=1,bytes:=8,zero:=[.pointer none],agg:=false,tag:=7}),
 (247,{size:=32,bytes:=32,zero:=[.int .u8 0,.int .u8 0,.int .u8 0,.int .u8 0,.int .u8 0,.int .u8 0,.int .u8 0,.int .u8 0,.int .u8 0,.int .u8 0,.int .u8 0,.int .u8 0,.int .u8 0,.int .u8 0,.int .u8 0,.int .u8 0,.int .u8 0,.int .u8 0,.int .u8 0,.int .u8 0,.int .u8 0,.int .u8 0,.int .u8 0,.int .u8 0,.int .u8 0,.int .u8 0,.int .u8 0,.int .u8 0,.int .u8 0,.int .u8 0,.int .u8 0,.int .u8 0],agg:=true,tag:=6,alen:=16,elem:=246}),
 (202,{size:=9,bytes:=9,zero:=[.int .u8 0,.int .u8 0,.int .u8 0,.int .u8 0,.int .u8 0,.int .u8 0,.int .u8 0,.int .u8 0,.int .u8 0],agg:=true,tag:=6,alen:=9,elem:=5}),
 (239,{size:=1,bytes:=8,zero:=[.pointer none],agg:=false,tag:=7}),
 (8,{size:=4,bytes:=24,zero:=[.int .i64 0,.int .i64 0,.bool false,.int .u8 0],agg:=true,tag:=5,fields:=[(0,2),(1,3),(2,4),(3,6)]}),
 (10,{size:=1,bytes:=16,zero:=[.string ⟨#[]⟩],agg:=false,tag:=3}),
 (11,{size:=1,bytes:=16,zero:=[.string ⟨#[]⟩],agg:=false,tag:=3}),
 (14,{size:=2,bytes:=24,zero:=[.string ⟨#[]⟩,.int .u64 0],agg:=true,tag:=5,fields:=[(0,9),(1,12)]}),
 (15,{size:=1,bytes:=8,zero:=[.pointer none],agg:=false,tag:=7}),
 (16,{size:=1,bytes:=8,zero:=[.pointer none],agg:=false,tag:=7}),
 (19,{size:=1,bytes:=8,zero:=[.pointer none],agg:=true,tag:=5,fields:=[(0,17)]}),
 (244,{size:=256,bytes:=256,zero:=[.int .u8 0,.int .u8 0,.int .u8 0,.int .u8 0,.int .u8 0,.int .u8 0,.int .u8 0,.int .u8 0,.int .u8 0,.int .u8 0,.int .u8 0,.int .u8 0,.int .u8 0,.int .u8 0,.int .u8 0,.int .u8 0,.int .u8 0,.int .u8 0,.int .u8 0,.int .u8 0,.int .u8 0,.int .u8 0,.int .u8 0,.int .u8 0,.int .u8 0,.int .u8 0,.int .u8 0,.int .u8 0,.int .u8 0,.int .u8 0,.int .u8 0,.int .u8 0,.int .u8 0,.int .u8 0,.int .u8 0,.int .u8 0,.int .u8 0,.int .u8 0,.int .u8 0,.int .u8 0,.int .u8 0,.int .u8 0,.int .u8 0,.int .u8 0,.int .u8 0,.int .u8 0,.int .u8 0,.int .u8 0,.int .u8 0,.int .u8 0,.int .u8 0,.int .u8 0,.int .u8 0,.int .u8 0,.int .u8 0,.int .u8 0,.int .u8 0,.int .u8 0,.int .u8 0,.int .u8 0,.int .u8 0,.int .u8 0,.int .u8 0,.int .u8 0,.int .u8 0,.int .u8 0,.int .u8 0,.int .u8 0,.int .u8 0,.int .u8 0,.int .u8 0,.int .u8 0,.int .u8 0,.int .u8 0,.int .u8 0,.int .u8 0,.int .u8 0,.int .u8 0,.int .u8 0,.int .u8 0,.int .u8 0,.int .u8 0,.int .u8 0,.int .u8 0,.int .u8 0,.int .u8 0,.int .u8 0,.int .u8 0,.int .u8 0,.int .u8 0,.int .u8 0,.int .u8 0,.int .u8 0,.int .u8 0,.int .u8 0,.int .u8 0,.int .u8 0,.int .u8 0,.int .u8 0,.int .u8 0,.int .u8 0,.int .u8 0,.int .u8 0,.int .u8 0,.int .u8 0,.int .u8 0,.int .u8 0,.int .u8 0,.int .u8 0,.int .u8 0,.int .u8 0,.int .u8 0,.int .u8 0,.int .u8 0,.int .u8 0,.int .u8 0,.int .u8 0,.int .u8 0,.int .u8 0,.int .u8 0,.int .u8 0,.int .u8 0,.int .u8 0,.int .u8 0,.int .u8 0,.int .u8 0,.int .u8 0,.int .u8 0,.int .u8 0,.int .u8 0,.int .u8 0,.int .u8 0,.int .u8 0,.int .u8 0,.int .u8 0,.int .u8 0,.int .u8 0,.int .u8 0,.int .u8 0,.int .u8 0,.int .u8 0,.int .u8 0,.int .u8 0,.int .u8 0,.int .u8 0,.int .u8 0,.int .u8 0,.int .u8 0,.int .u8 0,.int .u8 0,.int .u8 0,.int .u8 0,.int .u8 0,.int .u8 0,.int .u8 0,.int .u8 0,.int .u8 0,.int .u8 0,.int .u8 0,.int .u8 0,.int .u8 0,.int .u8 0,.int .u8 0,.int .u8 0,.int .u8 0,.int .u8 0,.int .u8 0,.int .u8 0,.int .u8 0,.int .u8 0,.int .u8 0,.int .u8 0,.int .u8 0,.int .u8 0,.int .u8 0,.int .u8 0,.int .u8 0,.int .u8 0,.int .u8 0,.int .u8 0,.int .u8 0,.int .u8 0,.int .u8 0,.int .u8 0,.int .u8 0,.int .u8 0,.int .u8 0,.int .u8 0,.int .u8 0,.int .u8 0,.int .u8 0,.int .u8 0,.int .u8 0,.int .u8 0,.int .u8 0,.int .u8 0,.int .u8 0,.int .u8 0,.int .u8 0,.int .u8 0,.int .u8 0,.int .u8 0,.int .u8 0,.int .u8 0,.int .u8 0,.int .u8 0,.int .u8 0,.int .u8 0,.int .u8 0,.int .u8 0,.int .u8 0,.int .u8 0,.int .u8 0,.int .u8 0,.int .u8 0,.int .u8 0,.int .u8 0,.int .u8 0,.int .u8 0,.int .u8 0,.int .u8 0,.int .u8 0,.int .u8 0,.int .u8 0,.int .u8 0,.int .u8 0,.int .u8 0,.int .u8 0,.int .u8 0,.int .u8 0,.int .u8 0,.int .u8 0,.int .u8 0,.int .u8 0,.int .u8 0,.int .u8 0,.int .u8 0,.int .u8 0,.int .u8 0,.int .u8 0,.int .u8 0,.int .u8 0,.int .u8 0,.int .u8 0,.int .u8 0,.int .u8 0,.int .u8 0,.int .u8 0,.int .u8 0,.int .u8 0,.int .u8 0,.int .u8 0,.int .u8 0,.int .u8 0,.int .u8 0,.int .u8 0],agg:=true,tag:=6,alen:=256,elem:=5}),
 (17,{size:=1,bytes:=8,zero:=[.pointer none],agg:=false,tag:=7}),
 (255,{size:=1,bytes:=1,zero:=[.int .u8 0],agg:=false,tag:=1,ik:=.u8}),
 (2,{size:=1,bytes:=8,zero:=[.int .i64 0],agg:=false,tag:=1,ik:=.i64}),
 (6,{size:=1,bytes:=1,zero:=[.int .u8 0],agg:=false,tag:=1,ik:=.u8}),
 (12,{size:=1,bytes:=8,zero:=[.int .u64 0],agg:=false,tag:=1,ik:=.u64})]
def τ:Tab:=tabLook tabl
theorem hτ:TabOK PG τ:=tab_of (l:=tabl) (by kernel_rfl)
theorem hmix:PG.follows .mixedOrders=true:=by rfl
noncomputable def bd (f:Func):Code:=match f.body with
 |some c=>c
 |none=>.skip
theorem in_f{f:FuncId}{fn:Func}{args:Array Value}{w:World}{R:Ending→World→Prop}(hf:PG.funcs[f]? =some fn)(hb:fn.body=some (bd fn))(hnm:(fn.name== "runtime.NumGoroutine")=false)
  (hn:args.size≤fn.ntmps) (hok:codeOk fn.ntmps (bd fn)=true) (h:sxCode PG τ w.heap.size (bd fn) (initE 0 args.toList) [] 0 [] w (retK τ w.heap.size fn.results.toList R)):Con PG f args w R:=
 ⟨enters_of hf hb hnm,calls_of_sx hτ hf hb hn hok h⟩
abbrev T.int:Nat:=3
abbrev T.bool:Nat:=4
abbrev T.uint8:Nat:=5
abbrev T.string:Nat:=9
abbrev T.LRat:Nat:=23
abbrev T.Program:Nat:=25
abbrev T.Int:Nat:=28
abbrev T.Rat:Nat:=30
abbrev T.row:Nat:=88
abbrev T.nat:Nat:=90
abbrev T.number:Nat:=92
abbrev T.fraction:Nat:=94
abbrev T.uint32:Nat:=124
abbrev T.table:Nat:=135
abbrev T.solved:Nat:=148
abbrev T._9_uint8:Nat:=202
abbrev T.Luint8:Nat:=203
abbrev T.error:Nat:=227
abbrev N.law01_ExactTexts:Nat:=6
abbrev N.law01_brief:Nat:=10
abbrev N.law01_awake:Nat:=11
abbrev N.ref01_SameList:Nat:=19
abbrev N.exact_Parse:Nat:=29
abbrev N.ref01_Parse:Nat:=30
abbrev N.exact_Format:Nat:=31
abbrev N.ref01_Format:Nat:=32
abbrev N.ref01_Same:Nat:=33
abbrev N.exact_Normal:Nat:=34
abbrev N.exact_Divide:Nat:=43
abbrev N.exact_Of:Nat:=44
abbrev N.exact_RootBelow:Nat:=45
abbrev N.exact_Solve:Nat:=46
abbrev N.ref01_Whole:Nat:=47
abbrev N.ref01_SameInt:Nat:=48
abbrev N.ref01_Of:Nat:=49
abbrev N.ref01_SameLists:Nat:=50
abbrev N.exact_matrix:Nat:=52
abbrev N.exact_values:Nat:=53
abbrev N.exact_value:Nat:=54
abbrev N.exact_fraction_sign:Nat:=59
abbrev N.exact_zeros:Nat:=60
abbrev N.exact_row_give:Nat:=68
abbrev N.exact_whole:Nat:=72
abbrev N.exact_fraction_give:Nat:=73
abbrev N.ref01_Sign:Nat:=74
abbrev N.exact_fraction_times:Nat:=75
abbrev N.exact_checkMatrix:Nat:=78
abbrev N.exact_reduce:Nat:=79
abbrev N.exact_columns:Nat:=80
abbrev N.strings_CutPrefix:Nat:=81
abbrev N.strings_Cut:Nat:=82
abbrev N.exact_read:Nat:=83
abbrev N.exact_over:Nat:=84
abbrev N.exact_fraction_text:Nat:=85
abbrev N.ref01_read:Nat:=86
abbrev N.ref01_Normal:Nat:=87
abbrev N.ref01_digits:Nat:=88
abbrev N.ref01_Size:Nat:=89
abbrev N.ref01_CmpInt:Nat:=90
abbrev N.ref01_Over:Nat:=98
abbrev N.ref01_Minus:Nat:=99
abbrev N.exact_of:Nat:=102
abbrev N.exact_number_sign:Nat:=103
abbrev N.exact_number_divide:Nat:=104
abbrev N.exact_number_give:Nat:=105
abbrev N.exact_small:Nat:=106
abbrev N.exact_number_times:Nat:=107
abbrev N.exact_nat_root:Nat:=108
abbrev N.exact_checkSystem:Nat:=109
abbrev N.exact_solve:Nat:=110
abbrev N.exact_lists:Nat:=111
abbrev N.ref01_settled:Nat:=112
abbrev N.exact_fraction_plus:Nat:=115
abbrev N.exact_number_cmp:Nat:=116
abbrev N.slices_Clone_of_exact_row_exact_fraction_of:Nat:=117
abbrev N.exact_row_add:Nat:=119
abbrev N.exact_fraction_by:Nat:=120
abbrev N.exact_fraction_minus:Nat:=121
abbrev N.ref01_lowest:Nat:=124
abbrev N.ref01_Sum:Nat:=125
abbrev N.ref01_Prod:Nat:=126
abbrev N.exact_row_scale:Nat:=127
abbrev N.stringslite_Cut:Nat:=129
abbrev N.exact_nat_times:Nat:=130
abbrev N.exact_nat_plus:Nat:=131
abbrev N.exact_nat_trimmed:Nat:=132
abbrev N.exact_number_minus:Nat:=133
abbrev N.exact_common:Nat:=134
abbrev N.exact_nat_divide:Nat:=135
abbrev N.exact_nat_digits:Nat:=136
abbrev N.ref01_Divide:Nat:=137
abbrev N.ref01_Small:Nat:=138
abbrev N.ref01_Int:Nat:=139
abbrev N.ref01_Diff:Nat:=140
abbrev N.ref01_short:Nat:=146
abbrev N.ref01_Common:Nat:=147
abbrev N.exact_nat_minus:Nat:=151
abbrev N.slices_Clone_of_exact_nat_uint32_of:Nat:=152
abbrev N.exact_nat_raised:Nat:=153
abbrev N.exact_nat_back:Nat:=154
abbrev N.exact_nat_cmp:Nat:=155
abbrev N.slices_Concat_of_exact_row_exact_fraction_of:Nat:=156
abbrev N.exact_kernel:Nat:=157
abbrev N.ref01_carried:Nat:=158
abbrev N.ref01_packed:Nat:=159
abbrev N.ref01_spread:Nat:=160
abbrev N.exact_number_plus:Nat:=161
abbrev N.ref01_columns:Nat:=162
abbrev N.ref01_at:Nat:=163
abbrev N.stringslite_Index:Nat:=165
abbrev N.bits_Add32:Nat:=166
abbrev N.exact_nat_short:Nat:=167
abbrev N.bits_LeadingZeros32:Nat:=168
abbrev N.exact_nat_shifted:Nat:=169
abbrev N.exact_nat_digit:Nat:=170
abbrev N.strings_TrimLeft:Nat:=171
abbrev N.strings_Join:Nat:=172
abbrev N.slices_Index_of_int_int_of:Nat:=173
abbrev N.bits_Sub32:Nat:=179
abbrev N.slices_Concat_of_exact_nat_uint32_of:Nat:=180
abbrev N.slices_Grow_of_exact_row_exact_fraction_of:Nat:=181
abbrev N.slices_Contains_of_int_int_of:Nat:=182
abbrev N.bits_Len32:Nat:=187
abbrev N.exact_nat_take:Nat:=188
abbrev N.strings_trimLeftByte:Nat:=189
abbrev N.slices_Grow_of_exact_nat_uint32_of:Nat:=198
theorem in_law01_ExactTexts{args:Array Value}{w:World}{R:Ending→World→Prop}(hn:args.size≤Tryz.f6.ntmps)(h:sxCode PG τ w.heap.size (bd Tryz.f6) (initE 0 args.toList) [] 0 [] w (retK τ w.heap.size Tryz.f6.results.toList R)):Con PG N.law01_ExactTexts args w R:=
 in_f Tryz.func6 (by rfl) (by rfl) hn (by rfl) h
theorem in_law01_brief{args:Array Value}{w:World}{R:Ending→World→Prop}(hn:args.size≤Tryz.f10.ntmps)(h:sxCode PG τ w.heap.size (bd Tryz.f10) (initE 0 args.toList) [] 0 [] w (retK τ w.heap.size Tryz.f10.results.toList R)):Con PG N.law01_brief args w R:=
 in_f Tryz.func10 (by rfl) (by rfl) hn (by rfl) h
theorem in_law01_awake{args:Array Value}{w:World}{R:Ending→World→Prop}(hn:args.size≤Tryz.f11.ntmps)(h:sxCode PG τ w.heap.size (bd Tryz.f11) (initE 0 args.toList) [] 0 [] w (retK τ w.heap.size Tryz.f11.results.toList R)):Con PG N.law01_awake args w R:=
 in_f Tryz.func11 (by rfl) (by rfl) hn (by rfl) h
theorem in_ref01_SameList{args:Array Value}{w:World}{R:Ending→World→Prop}(hn:args.size≤Tryz.f19.ntmps)(h:sxCode PG τ w.heap.size (bd Tryz.f19) (initE 0 args.toList) [] 0 [] w (retK τ w.heap.size Tryz.f19.results.toList R)):Con PG N.ref01_SameList args w R:=
 in_f Tryz.func19 (by rfl) (by rfl) hn (by rfl) h
theorem in_exact_Parse{args:Array Value}{w:World}{R:Ending→World→Prop}(hn:args.size≤Tryz.f29.ntmps)(h:sxCode PG τ w.heap.size (bd Tryz.f29) (initE 0 args.toList) [] 0 [] w (retK τ w.heap.size Tryz.f29.results.toList R)):Con PG N.exact_Parse args w R:=
 in_f Tryz.func29 (by rfl) (by rfl) hn (by rfl) h
theorem in_ref01_Parse{args:Array Value}{w:World}{R:Ending→World→Prop}(hn:args.size≤Tryz.f30.ntmps)(h:sxCode PG τ w.heap.size (bd Tryz.f30) (initE 0 args.toList) [] 0 [] w (retK τ w.heap.size Tryz.f30.results.toList R)):Con PG N.ref01_Parse args w R:=
 in_f Tryz.func30 (by rfl) (by rfl) hn (by rfl) h
theorem in_exact_Format{args:Array Value}{w:World}{R:Ending→World→Prop}(hn:args.size≤Tryz.f31.ntmps)(h:sxCode PG τ w.heap.size (bd Tryz.f31) (initE 0 args.toList) [] 0 [] w (retK τ w.heap.size Tryz.f31.results.toList R)):Con PG N.exact_Format args w R:=
 in_f Tryz.func31 (by rfl) (by rfl) hn (by rfl) h
theorem in_ref01_Format{args:Array Value}{w:World}{R:Ending→World→Prop}(hn:args.size≤Tryz.f32.ntmps)(h:sxCode PG τ w.heap.size (bd Tryz.f32) (initE 0 args.toList) [] 0 [] w (retK τ w.heap.size Tryz.f32.results.toList R)):Con PG N.ref01_Format args w R:=
 in_f Tryz.func32 (by rfl) (by rfl) hn (by rfl) h
theorem in_ref01_Same{args:Array Value}{w:World}{R:Ending→World→Prop}(hn:args.size≤Tryz.f33.ntmps)(h:sxCode PG τ w.heap.size (bd Tryz.f33) (initE 0 args.toList) [] 0 [] w (retK τ w.heap.size Tryz.f33.results.toList R)):Con PG N.ref01_Same args w R:=
 in_f Tryz.func33 (by rfl) (by rfl) hn (by rfl) h
theorem in_exact_Normal{args:Array Value}{w:World}{R:Ending→World→Prop}(hn:args.size≤Tryz.f34.ntmps)(h:sxCode PG τ w.heap.size (bd Tryz.f34) (initE 0 args.toList) [] 0 [] w (retK τ w.heap.size Tryz.f34.results.toList R)):Con PG N.exact_Normal args w R:=
 in_f Tryz.func34 (by rfl) (by rfl) hn (by rfl) h
theorem in_exact_Divide{args:Array Value}{w:World}{R:Ending→World→Prop}(hn:args.size≤Tryz.f43.ntmps)(h:sxCode PG τ w.heap.size (bd Tryz.f43) (initE 0 args.toList) [] 0 [] w (retK τ w.heap.size Tryz.f43.results.toList R)):Con PG N.exact_Divide args w R:=
 in_f Tryz.func43 (by rfl) (by rfl) hn (by rfl) h
theorem in_exact_Of{args:Array Value}{w:World}{R:Ending→World→Prop}(hn:args.size≤Tryz.f44.ntmps)(h:sxCode PG τ w.heap.size (bd Tryz.f44) (initE 0 args.toList) [] 0 [] w (retK τ w.heap.size Tryz.f44.results.toList R)):Con PG N.exact_Of args w R:=
 in_f Tryz.func44 (by rfl) (by rfl) hn (by rfl) h
theorem in_exact_RootBelow{args:Array Value}{w:World}{R:Ending→World→Prop}(hn:args.size≤Tryz.f45.ntmps)(h:sxCode PG τ w.heap.size (bd Tryz.f45) (initE 0 args.toList) [] 0 [] w (retK τ w.heap.size Tryz.f45.results.toList R)):Con PG N.exact_RootBelow args w R:=
 in_f Tryz.func45 (by rfl) (by rfl) hn (by rfl) h
theorem in_exact_Solve{args:Array Value}{w:World}{R:Ending→World→Prop}(hn:args.size≤Tryz.f46.ntmps)(h:sxCode PG τ w.heap.size (bd Tryz.f46) (initE 0 args.toList) [] 0 [] w (retK τ w.heap.size Tryz.f46.results.toList R)):Con PG N.exact_Solve args w R:=
 in_f Tryz.func46 (by rfl) (by rfl) hn (by rfl) h
theorem in_ref01_Whole{args:Array Value}{w:World}{R:Ending→World→Prop}(hn:args.size≤Tryz.f47.ntmps)(h:sxCode PG τ w.heap.size (bd Tryz.f47) (initE 0 args.toList) [] 0 [] w (retK τ w.heap.size Tryz.f47.results.toList R)):Con PG N.ref01_Whole args w R:=
 in_f Tryz.func47 (by rfl) (by rfl) hn (by rfl) h
theorem in_ref01_SameInt{args:Array Value}{w:World}{R:Ending→World→Prop}(hn:args.size≤Tryz.f48.ntmps)(h:sxCode PG τ w.heap.size (bd Tryz.f48) (initE 0 args.toList) [] 0 [] w (retK τ w.heap.size Tryz.f48.results.toList R)):Con PG N.ref01_SameInt args w R:=
 in_f Tryz.func48 (by rfl) (by rfl) hn (by rfl) h
theorem in_ref01_Of{args:Array Value}{w:World}{R:Ending→World→Prop}(hn:args.size≤Tryz.f49.ntmps)(h:sxCode PG τ w.heap.size (bd Tryz.f49) (initE 0 args.toList) [] 0 [] w (retK τ w.heap.size Tryz.f49.results.toList R)):Con PG N.ref01_Of args w R:=
 in_f Tryz.func49 (by rfl) (by rfl) hn (by rfl) h
theorem in_ref01_SameLists{args:Array Value}{w:World}{R:Ending→World→Prop}(hn:args.size≤Tryz.f50.ntmps)(h:sxCode PG τ w.heap.size (bd Tryz.f50) (initE 0 args.toList) [] 0 [] w (retK τ w.heap.size Tryz.f50.results.toList R)):Con PG N.ref01_SameLists args w R:=
 in_f Tryz.func50 (by rfl) (by rfl) hn (by rfl) h
theorem in_exact_matrix{args:Array Value}{w:World}{R:Ending→World→Prop}(hn:args.size≤Tryz.f52.ntmps)(h:sxCode PG τ w.heap.size (bd Tryz.f52) (initE 0 args.toList) [] 0 [] w (retK τ w.heap.size Tryz.f52.results.toList R)):Con PG N.exact_matrix args w R:=
 in_f Tryz.func52 (by rfl) (by rfl) hn (by rfl) h
theorem in_exact_values{args:Array Value}{w:World}{R:Ending→World→Prop}(hn:args.size≤Tryz.f53.ntmps)(h:sxCode PG τ w.heap.size (bd Tryz.f53) (initE 0 args.toList) [] 0 [] w (retK τ w.heap.size Tryz.f53.results.toList R)):Con PG N.exact_values args w R:=
 in_f Tryz.func53 (by rfl) (by rfl) hn (by rfl) h
theorem in_exact_value{args:Array Value}{w:World}{R:Ending→World→Prop}(hn:args.size≤Tryz.f54.ntmps)(h:sxCode PG τ w.heap.size (bd Tryz.f54) (initE 0 args.toList) [] 0 [] w (retK τ w.heap.size Tryz.f54.results.toList R)):Con PG N.exact_value args w R:=
 in_f Tryz.func54 (by rfl) (by rfl) hn (by rfl) h
theorem in_exact_fraction_sign{args:Array Value}{w:World}{R:Ending→World→Prop}(hn:args.size≤Tryz.f59.ntmps)(h:sxCode PG τ w.heap.size (bd Tryz.f59) (initE 0 args.toList) [] 0 [] w (retK τ w.heap.size Tryz.f59.results.toList R)):Con PG N.exact_fraction_sign args w R:=
 in_f Tryz.func59 (by rfl) (by rfl) hn (by rfl) h
theorem in_exact_zeros{args:Array Value}{w:World}{R:Ending→World→Prop}(hn:args.size≤Tryz.f60.ntmps)(h:sxCode PG τ w.heap.size (bd Tryz.f60) (initE 0 args.toList) [] 0 [] w (retK τ w.heap.size Tryz.f60.results.toList R)):Con PG N.exact_zeros args w R:=
 in_f Tryz.func60 (by rfl) (by rfl) hn (by rfl) h
theorem in_exact_row_give{args:Array Value}{w:World}{R:Ending→World→Prop}(hn:args.size≤Tryz.f68.ntmps)(h:sxCode PG τ w.heap.size (bd Tryz.f68) (initE 0 args.toList) [] 0 [] w (retK τ w.heap.size Tryz.f68.results.toList R)):Con PG N.exact_row_give args w R:=
 in_f Tryz.func68 (by rfl) (by rfl) hn (by rfl) h
theorem in_exact_whole{args:Array Value}{w:World}{R:Ending→World→Prop}(hn:args.size≤Tryz.f72.ntmps)(h:sxCode PG τ w.heap.size (bd Tryz.f72) (initE 0 args.toList) [] 0 [] w (retK τ w.heap.size Tryz.f72.results.toList R)):Con PG N.exact_whole args w R:=
 in_f Tryz.func72 (by rfl) (by rfl) hn (by rfl) h
theorem in_exact_fraction_give{args:Array Value}{w:World}{R:Ending→World→Prop}(hn:args.size≤Tryz.f73.ntmps)(h:sxCode PG τ w.heap.size (bd Tryz.f73) (initE 0 args.toList) [] 0 [] w (retK τ w.heap.size Tryz.f73.results.toList R)):Con PG N.exact_fraction_give args w R:=
 in_f Tryz.func73 (by rfl) (by rfl) hn (by rfl) h
theorem in_ref01_Sign{args:Array Value}{w:World}{R:Ending→World→Prop}(hn:args.size≤Tryz.f74.ntmps)(h:sxCode PG τ w.heap.size (bd Tryz.f74) (initE 0 args.toList) [] 0 [] w (retK τ w.heap.size Tryz.f74.results.toList R)):Con PG N.ref01_Sign args w R:=
 in_f Tryz.func74 (by rfl) (by rfl) hn (by rfl) h
theorem in_exact_fraction_times{args:Array Value}{w:World}{R:Ending→World→Prop}(hn:args.size≤Tryz.f75.ntmps)(h:sxCode PG τ w.heap.size (bd Tryz.f75) (initE 0 args.toList) [] 0 [] w (retK τ w.heap.size Tryz.f75.results.toList R)):Con PG N.exact_fraction_times args w R:=
 in_f Tryz.func75 (by rfl) (by rfl) hn (by rfl) h
theorem in_exact_checkMatrix{args:Array Value}{w:World}{R:Ending→World→Prop}(hn:args.size≤Tryz.f78.ntmps)(h:sxCode PG τ w.heap.size (bd Tryz.f78) (initE 0 args.toList) [] 0 [] w (retK τ w.heap.size Tryz.f78.results.toList R)):Con PG N.exact_checkMatrix args w R:=
 in_f Tryz.func78 (by rfl) (by rfl) hn (by rfl) h
theorem in_exact_reduce{args:Array Value}{w:World}{R:Ending→World→Prop}(hn:args.size≤Tryz.f79.ntmps)(h:sxCode PG τ w.heap.size (bd Tryz.f79) (initE 0 args.toList) [] 0 [] w (retK τ w.heap.size Tryz.f79.results.toList R)):Con PG N.exact_reduce args w R:=
 in_f Tryz.func79 (by rfl) (by rfl) hn (by rfl) h
theorem in_exact_columns{args:Array Value}{w:World}{R:Ending→World→Prop}(hn:args.size≤Tryz.f80.ntmps)(h:sxCode PG τ w.heap.size (bd Tryz.f80) (initE 0 args.toList) [] 0 [] w (retK τ w.heap.size Tryz.f80.results.toList R)):Con PG N.exact_columns args w R:=
 in_f Tryz.func80 (by rfl) (by rfl) hn (by rfl) h
theorem in_strings_Cut{args:Array Value}{w:World}{R:Ending→World→Prop}(hn:args.size≤Tryz.f82.ntmps)(h:sxCode PG τ w.heap.size (bd Tryz.f82) (initE 0 args.toList) [] 0 [] w (retK τ w.heap.size Tryz.f82.results.toList R)):Con PG N.strings_Cut args w R:=
 in_f Tryz.func82 (by rfl) (by rfl) hn (by rfl) h
theorem in_exact_read{args:Array Value}{w:World}{R:Ending→World→Prop}(hn:args.size≤Tryz.f83.ntmps)(h:sxCode PG τ w.heap.size (bd Tryz.f83) (initE 0 args.toList) [] 0 [] w (retK τ w.heap.size Tryz.f83.results.toList R)):Con PG N.exact_read args w R:=
 in_f Tryz.func83 (by rfl) (by rfl) hn (by rfl) h
theorem in_exact_over{args:Array Value}{w:World}{R:Ending→World→Prop}(hn:args.size≤Tryz.f84.ntmps)(h:sxCode PG τ w.heap.size (bd Tryz.f84) (initE 0 args.toList) [] 0 [] w (retK τ w.heap.size Tryz.f84.results.toList R)):Con PG N.exact_over args w R:=
 in_f Tryz.func84 (by rfl) (by rfl) hn (by rfl) h
theorem in_exact_fraction_text{args:Array Value}{w:World}{R:Ending→World→Prop}(hn:args.size≤Tryz.f85.ntmps)(h:sxCode PG τ w.heap.size (bd Tryz.f85) (initE 0 args.toList) [] 0 [] w (retK τ w.heap.size Tryz.f85.results.toList R)):Con PG N.exact_fraction_text args w R:=
 in_f Tryz.func85 (by rfl) (by rfl) hn (by rfl) h
theorem in_ref01_read{args:Array Value}{w:World}{R:Ending→World→Prop}(hn:args.size≤Tryz.f86.ntmps)(h:sxCode PG τ w.heap.size (bd Tryz.f86) (initE 0 args.toList) [] 0 [] w (retK τ w.heap.size Tryz.f86.results.toList R)):Con PG N.ref01_read args w R:=
 in_f Tryz.func86 (by rfl) (by rfl) hn (by rfl) h
theorem in_ref01_Normal{args:Array Value}{w:World}{R:Ending→World→Prop}(hn:args.size≤Tryz.f87.ntmps)(h:sxCode PG τ w.heap.size (bd Tryz.f87) (initE 0 args.toList) [] 0 [] w (retK τ w.heap.size Tryz.f87.results.toList R)):Con PG N.ref01_Normal args w R:=
 in_f Tryz.func87 (by rfl) (by rfl) hn (by rfl) h
theorem in_ref01_digits{args:Array Value}{w:World}{R:Ending→World→Prop}(hn:args.size≤Tryz.f88.ntmps)(h:sxCode PG τ w.heap.size (bd Tryz.f88) (initE 0 args.toList) [] 0 [] w (retK τ w.heap.size Tryz.f88.results.toList R)):Con PG N.ref01_digits args w R:=
 in_f Tryz.func88 (by rfl) (by rfl) hn (by rfl) h
theorem in_ref01_Size{args:Array Value}{w:World}{R:Ending→World→Prop}(hn:args.size≤Tryz.f89.ntmps)(h:sxCode PG τ w.heap.size (bd Tryz.f89) (initE 0 args.toList) [] 0 [] w (retK τ w.heap.size Tryz.f89.results.toList R)):Con PG N.ref01_Size args w R:=
 in_f Tryz.func89 (by rfl) (by rfl) hn (by rfl) h
theorem in_ref01_CmpInt{args:Array Value}{w:World}{R:Ending→World→Prop}(hn:args.size≤Tryz.f90.ntmps)(h:sxCode PG τ w.heap.size (bd Tryz.f90) (initE 0 args.toList) [] 0 [] w (retK τ w.heap.size Tryz.f90.results.toList R)):Con PG N.ref01_CmpInt args w R:=
 in_f Tryz.func90 (by rfl) (by rfl) hn (by rfl) h
theorem in_ref01_Over{args:Array Value}{w:World}{R:Ending→World→Prop}(hn:args.size≤Tryz.f98.ntmps)(h:sxCode PG τ w.heap.size (bd Tryz.f98) (initE 0 args.toList) [] 0 [] w (retK τ w.heap.size Tryz.f98.results.toList R)):Con PG N.ref01_Over args w R:=
 in_f Tryz.func98 (by rfl) (by rfl) hn (by rfl) h
theorem in_ref01_Minus{args:Array Value}{w:World}{R:Ending→World→Prop}(hn:args.size≤Tryz.f99.ntmps)(h:sxCode PG τ w.heap.size (bd Tryz.f99) (initE 0 args.toList) [] 0 [] w (retK τ w.heap.size Tryz.f99.results.toList R)):Con PG N.ref01_Minus args w R:=
 in_f Tryz.func99 (by rfl) (by rfl) hn (by rfl) h
theorem in_exact_of{args:Array Value}{w:World}{R:Ending→World→Prop}(hn:args.size≤Tryz.f102.ntmps)(h:sxCode PG τ w.heap.size (bd Tryz.f102) (initE 0 args.toList) [] 0 [] w (retK τ w.heap.size Tryz.f102.results.toList R)):Con PG N.exact_of args w R:=
 in_f Tryz.func102 (by rfl) (by rfl) hn (by rfl) h
theorem in_exact_number_sign{args:Array Value}{w:World}{R:Ending→World→Prop}(hn:args.size≤Tryz.f103.ntmps)(h:sxCode PG τ w.heap.size (bd Tryz.f103) (initE 0 args.toList) [] 0 [] w (retK τ w.heap.size Tryz.f103.results.toList R)):Con PG N.exact_number_sign args w R:=
 in_f Tryz.func103 (by rfl) (by rfl) hn (by rfl) h
theorem in_exact_number_divide{args:Array Value}{w:World}{R:Ending→World→Prop}(hn:args.size≤Tryz.f104.ntmps)(h:sxCode PG τ w.heap.size (bd Tryz.f104) (initE 0 args.toList) [] 0 [] w (retK τ w.heap.size Tryz.f104.results.toList R)):Con PG N.exact_number_divide args w R:=
 in_f Tryz.func104 (by rfl) (by rfl) hn (by rfl) h
theorem in_exact_number_give{args:Array Value}{w:World}{R:Ending→World→Prop}(hn:args.size≤Tryz.f105.ntmps)(h:sxCode PG τ w.heap.size (bd Tryz.f105) (initE 0 args.toList) [] 0 [] w (retK τ w.heap.size Tryz.f105.results.toList R)):Con PG N.exact_number_give args w R:=
 in_f Tryz.func105 (by rfl) (by rfl) hn (by rfl) h
theorem in_exact_small{args:Array Value}{w:World}{R:Ending→World→Prop}(hn:args.size≤Tryz.f106.ntmps)(h:sxCode PG τ w.heap.size (bd Tryz.f106) (initE 0 args.toList) [] 0 [] w (retK τ w.heap.size Tryz.f106.results.toList R)):Con PG N.exact_small args w R:=
 in_f Tryz.func106 (by rfl) (by rfl) hn (by rfl) h
theorem in_exact_number_times{args:Array Value}{w:World}{R:Ending→World→Prop}(hn:args.size≤Tryz.f107.ntmps)(h:sxCode PG τ w.heap.size (bd Tryz.f107) (initE 0 args.toList) [] 0 [] w (retK τ w.heap.size Tryz.f107.results.toList R)):Con PG N.exact_number_times args w R:=
 in_f Tryz.func107 (by rfl) (by rfl) hn (by rfl) h
theorem in_exact_nat_root{args:Array Value}{w:World}{R:Ending→World→Prop}(hn:args.size≤Tryz.f108.ntmps)(h:sxCode PG τ w.heap.size (bd Tryz.f108) (initE 0 args.toList) [] 0 [] w (retK τ w.heap.size Tryz.f108.results.toList R)):Con PG N.exact_nat_root args w R:=
 in_f Tryz.func108 (by rfl) (by rfl) hn (by rfl) h
theorem in_exact_checkSystem{args:Array Value}{w:World}{R:Ending→World→Prop}(hn:args.size≤Tryz.f109.ntmps)(h:sxCode PG τ w.heap.size (bd Tryz.f109) (initE 0 args.toList) [] 0 [] w (retK τ w.heap.size Tryz.f109.results.toList R)):Con PG N.exact_checkSystem args w R:=
 in_f Tryz.func109 (by rfl) (by rfl) hn (by rfl) h
theorem in_exact_solve{args:Array Value}{w:World}{R:Ending→World→Prop}(hn:args.size≤Tryz.f110.ntmps)(h:sxCode PG τ w.heap.size (bd Tryz.f110) (initE 0 args.toList) [] 0 [] w (retK τ w.heap.size Tryz.f110.results.toList R)):Con PG N.exact_solve args w R:=
 in_f Tryz.func110 (by rfl) (by rfl) hn (by rfl) h
theorem in_exact_lists{args:Array Value}{w:World}{R:Ending→World→Prop}(hn:args.size≤Tryz.f111.ntmps)(h:sxCode PG τ w.heap.size (bd Tryz.f111) (initE 0 args.toList) [] 0 [] w (retK τ w.heap.size Tryz.f111.results.toList R)):Con PG N.exact_lists args w R:=
 in_f Tryz.func111 (by rfl) (by rfl) hn (by rfl) h
theorem in_ref01_settled{args:Array Value}{w:World}{R:Ending→World→Prop}(hn:args.size≤Tryz.f112.ntmps)(h:sxCode PG τ w.heap.size (bd Tryz.f112) (initE 0 args.toList) [] 0 [] w (retK τ w.heap.size Tryz.f112.results.toList R)):Con PG N.ref01_settled args w R:=
 in_f Tryz.func112 (by rfl) (by rfl) hn (by rfl) h
theorem in_exact_fraction_plus{args:Array Value}{w:World}{R:Ending→World→Prop}(hn:args.size≤Tryz.f115.ntmps)(h:sxCode PG τ w.heap.size (bd Tryz.f115) (initE 0 args.toList) [] 0 [] w (retK τ w.heap.size Tryz.f115.results.toList R)):Con PG N.exact_fraction_plus args w R:=
 in_f Tryz.func115 (by rfl) (by rfl) hn (by rfl) h
theorem in_exact_number_cmp{args:Array Value}{w:World}{R:Ending→World→Prop}(hn:args.size≤Tryz.f116.ntmps)(h:sxCode PG τ w.heap.size (bd Tryz.f116) (initE 0 args.toList) [] 0 [] w (retK τ w.heap.size Tryz.f116.results.toList R)):Con PG N.exact_number_cmp args w R:=
 in_f Tryz.func116 (by rfl) (by rfl) hn (by rfl) h
theorem in_slices_Clone_of_exact_row_exact_fraction_of{args:Array Value}{w:World}{R:Ending→World→Prop}(hn:args.size≤Tryz.f117.ntmps)(h:sxCode PG τ w.heap.size (bd Tryz.f117) (initE 0 args.toList) [] 0 [] w (retK τ w.heap.size Tryz.f117.results.toList R)):Con PG N.slices_Clone_of_exact_row_exact_fraction_of args w R:=
 in_f Tryz.func117 (by rfl) (by rfl) hn (by rfl) h
theorem in_exact_row_add{args:Array Value}{w:World}{R:Ending→World→Prop}(hn:args.size≤Tryz.f119.ntmps)(h:sxCode PG τ w.heap.size (bd Tryz.f119) (initE 0 args.toList) [] 0 [] w (retK τ w.heap.size Tryz.f119.results.toList R)):Con PG N.exact_row_add args w R:=
 in_f Tryz.func119 (by rfl) (by rfl) hn (by rfl) h
theorem in_exact_fraction_by{args:Array Value}{w:World}{R:Ending→World→Prop}(hn:args.size≤Tryz.f120.ntmps)(h:sxCode PG τ w.heap.size (bd Tryz.f120) (initE 0 args.toList) [] 0 [] w (retK τ w.heap.size Tryz.f120.results.toList R)):Con PG N.exact_fraction_by args w R:=
 in_f Tryz.func120 (by rfl) (by rfl) hn (by rfl) h
theorem in_exact_fraction_minus{args:Array Value}{w:World}{R:Ending→World→Prop}(hn:args.size≤Tryz.f121.ntmps)(h:sxCode PG τ w.heap.size (bd Tryz.f121) (initE 0 args.toList) [] 0 [] w (retK τ w.heap.size Tryz.f121.results.toList R)):Con PG N.exact_fraction_minus args w R:=
 in_f Tryz.func121 (by rfl) (by rfl) hn (by rfl) h
theorem in_ref01_lowest{args:Array Value}{w:World}{R:Ending→World→Prop}(hn:args.size≤Tryz.f124.ntmps)(h:sxCode PG τ w.heap.size (bd Tryz.f124) (initE 0 args.toList) [] 0 [] w (retK τ w.heap.size Tryz.f124.results.toList R)):Con PG N.ref01_lowest args w R:=
 in_f Tryz.func124 (by rfl) (by rfl) hn (by rfl) h
theorem in_ref01_Sum{args:Array Value}{w:World}{R:Ending→World→Prop}(hn:args.size≤Tryz.f125.ntmps)(h:sxCode PG τ w.heap.size (bd Tryz.f125) (initE 0 args.toList) [] 0 [] w (retK τ w.heap.size Tryz.f125.results.toList R)):Con PG N.ref01_Sum args w R:=
 in_f Tryz.func125 (by rfl) (by rfl) hn (by rfl) h
theorem in_ref01_Prod{args:Array Value}{w:World}{R:Ending→World→Prop}(hn:args.size≤Tryz.f126.ntmps)(h:sxCode PG τ w.heap.size (bd Tryz.f126) (initE 0 args.toList) [] 0 [] w (retK τ w.heap.size Tryz.f126.results.toList R)):Con PG N.ref01_Prod args w R:=
 in_f Tryz.func126 (by rfl) (by rfl) hn (by rfl) h
theorem in_exact_row_scale{args:Array Value}{w:World}{R:Ending→World→Prop}(hn:args.size≤Tryz.f127.ntmps)(h:sxCode PG τ w.heap.size (bd Tryz.f127) (initE 0 args.toList) [] 0 [] w (retK τ w.heap.size Tryz.f127.results.toList R)):Con PG N.exact_row_scale args w R:=
 in_f Tryz.func127 (by rfl) (by rfl) hn (by rfl) h
theorem in_stringslite_Cut{args:Array Value}{w:World}{R:Ending→World→Prop}(hn:args.size≤Tryz.f129.ntmps)(h:sxCode PG τ w.heap.size (bd Tryz.f129) (initE 0 args.toList) [] 0 [] w (retK τ w.heap.size Tryz.f129.results.toList R)):Con PG N.stringslite_Cut args w R:=
 in_f Tryz.func129 (by rfl) (by rfl) hn (by rfl) h
theorem in_exact_nat_times{args:Array Value}{w:World}{R:Ending→World→Prop}(hn:args.size≤Tryz.f130.ntmps)(h:sxCode PG τ w.heap.size (bd Tryz.f130) (initE 0 args.toList) [] 0 [] w (retK τ w.heap.size Tryz.f130.results.toList R)):Con PG N.exact_nat_times args w R:=
 in_f Tryz.func130 (by rfl) (by rfl) hn (by rfl) h
theorem in_exact_nat_plus{args:Array Value}{w:World}{R:Ending→World→Prop}(hn:args.size≤Tryz.f131.ntmps)(h:sxCode PG τ w.heap.size (bd Tryz.f131) (initE 0 args.toList) [] 0 [] w (retK τ w.heap.size Tryz.f131.results.toList R)):Con PG N.exact_nat_plus args w R:=
 in_f Tryz.func131 (by rfl) (by rfl) hn (by rfl) h
theorem in_exact_nat_trimmed{args:Array Value}{w:World}{R:Ending→World→Prop}(hn:args.size≤Tryz.f132.ntmps)(h:sxCode PG τ w.heap.size (bd Tryz.f132) (initE 0 args.toList) [] 0 [] w (retK τ w.heap.size Tryz.f132.results.toList R)):Con PG N.exact_nat_trimmed args w R:=
 in_f Tryz.func132 (by rfl) (by rfl) hn (by rfl) h
theorem in_exact_number_minus{args:Array Value}{w:World}{R:Ending→World→Prop}(hn:args.size≤Tryz.f133.ntmps)(h:sxCode PG τ w.heap.size (bd Tryz.f133) (initE 0 args.toList) [] 0 [] w (retK τ w.heap.size Tryz.f133.results.toList R)):Con PG N.exact_number_minus args w R:=
 in_f Tryz.func133 (by rfl) (by rfl) hn (by rfl) h
theorem in_exact_common{args:Array Value}{w:World}{R:Ending→World→Prop}(hn:args.size≤Tryz.f134.ntmps)(h:sxCode PG τ w.heap.size (bd Tryz.f134) (initE 0 args.toList) [] 0 [] w (retK τ w.heap.size Tryz.f134.results.toList R)):Con PG N.exact_common args w R:=
 in_f Tryz.func134 (by rfl) (by rfl) hn (by rfl) h
theorem in_exact_nat_divide{args:Array Value}{w:World}{R:Ending→World→Prop}(hn:args.size≤Tryz.f135.ntmps)(h:sxCode PG τ w.heap.size (bd Tryz.f135) (initE 0 args.toList) [] 0 [] w (retK τ w.heap.size Tryz.f135.results.toList R)):Con PG N.exact_nat_divide args w R:=
 in_f Tryz.func135 (by rfl) (by rfl) hn (by rfl) h
theorem in_exact_nat_digits{args:Array Value}{w:World}{R:Ending→World→Prop}(hn:args.size≤Tryz.f136.ntmps)(h:sxCode PG τ w.heap.size (bd Tryz.f136) (initE 0 args.toList) [] 0 [] w (retK τ w.heap.size Tryz.f136.results.toList R)):Con PG N.exact_nat_digits args w R:=
 in_f Tryz.func136 (by rfl) (by rfl) hn (by rfl) h
theorem in_ref01_Divide{args:Array Value}{w:World}{R:Ending→World→Prop}(hn:args.size≤Tryz.f137.ntmps)(h:sxCode PG τ w.heap.size (bd Tryz.f137) (initE 0 args.toList) [] 0 [] w (retK τ w.heap.size Tryz.f137.results.toList R)):Con PG N.ref01_Divide args w R:=
 in_f Tryz.func137 (by rfl) (by rfl) hn (by rfl) h
theorem in_ref01_Small{args:Array Value}{w:World}{R:Ending→World→Prop}(hn:args.size≤Tryz.f138.ntmps)(h:sxCode PG τ w.heap.size (bd Tryz.f138) (initE 0 args.toList) [] 0 [] w (retK τ w.heap.size Tryz.f138.results.toList R)):Con PG N.ref01_Small args w R:=
 in_f Tryz.func138 (by rfl) (by rfl) hn (by rfl) h
theorem in_ref01_Int{args:Array Value}{w:World}{R:Ending→World→Prop}(hn:args.size≤Tryz.f139.ntmps)(h:sxCode PG τ w.heap.size (bd Tryz.f139) (initE 0 args.toList) [] 0 [] w (retK τ w.heap.size Tryz.f139.results.toList R)):Con PG N.ref01_Int args w R:=
 in_f Tryz.func139 (by rfl) (by rfl) hn (by rfl) h
theorem in_ref01_Diff{args:Array Value}{w:World}{R:Ending→World→Prop}(hn:args.size≤Tryz.f140.ntmps)(h:sxCode PG τ w.heap.size (bd Tryz.f140) (initE 0 args.toList) [] 0 [] w (retK τ w.heap.size Tryz.f140.results.toList R)):Con PG N.ref01_Diff args w R:=
 in_f Tryz.func140 (by rfl) (by rfl) hn (by rfl) h
theorem in_ref01_short{args:Array Value}{w:World}{R:Ending→World→Prop}(hn:args.size≤Tryz.f146.ntmps)(h:sxCode PG τ w.heap.size (bd Tryz.f146) (initE 0 args.toList) [] 0 [] w (retK τ w.heap.size Tryz.f146.results.toList R)):Con PG N.ref01_short args w R:=
 in_f Tryz.func146 (by rfl) (by rfl) hn (by rfl) h
theorem in_ref01_Common{args:Array Value}{w:World}{R:Ending→World→Prop}(hn:args.size≤Tryz.f147.ntmps)(h:sxCode PG τ w.heap.size (bd Tryz.f147) (initE 0 args.toList) [] 0 [] w (retK τ w.heap.size Tryz.f147.results.toList R)):Con PG N.ref01_Common args w R:=
 in_f Tryz.func147 (by rfl) (by rfl) hn (by rfl) h
theorem in_exact_nat_minus{args:Array Value}{w:World}{R:Ending→World→Prop}(hn:args.size≤Tryz.f151.ntmps)(h:sxCode PG τ w.heap.size (bd Tryz.f151) (initE 0 args.toList) [] 0 [] w (retK τ w.heap.size Tryz.f151.results.toList R)):Con PG N.exact_nat_minus args w R:=
 in_f Tryz.func151 (by rfl) (by rfl) hn (by rfl) h
theorem in_slices_Clone_of_exact_nat_uint32_of{args:Array Value}{w:World}{R:Ending→World→Prop}(hn:args.size≤Tryz.f152.ntmps)(h:sxCode PG τ w.heap.size (bd Tryz.f152) (initE 0 args.toList) [] 0 [] w (retK τ w.heap.size Tryz.f152.results.toList R)):Con PG N.slices_Clone_of_exact_nat_uint32_of args w R:=
 in_f Tryz.func152 (by rfl) (by rfl) hn (by rfl) h
theorem in_exact_nat_raised{args:Array Value}{w:World}{R:Ending→World→Prop}(hn:args.size≤Tryz.f153.ntmps)(h:sxCode PG τ w.heap.size (bd Tryz.f153) (initE 0 args.toList) [] 0 [] w (retK τ w.heap.size Tryz.f153.results.toList R)):Con PG N.exact_nat_raised args w R:=
 in_f Tryz.func153 (by rfl) (by rfl) hn (by rfl) h
theorem in_exact_nat_back{args:Array Value}{w:World}{R:Ending→World→Prop}(hn:args.size≤Tryz.f154.ntmps)(h:sxCode PG τ w.heap.size (bd Tryz.f154) (initE 0 args.toList) [] 0 [] w (retK τ w.heap.size Tryz.f154.results.toList R)):Con PG N.exact_nat_back args w R:=
 in_f Tryz.func154 (by rfl) (by rfl) hn (by rfl) h
theorem in_exact_nat_cmp{args:Array Value}{w:World}{R:Ending→World→Prop}(hn:args.size≤Tryz.f155.ntmps)(h:sxCode PG τ w.heap.size (bd Tryz.f155) (initE 0 args.toList) [] 0 [] w (retK τ w.heap.size Tryz.f155.results.toList R)):Con PG N.exact_nat_cmp args w R:=
 in_f Tryz.func155 (by rfl) (by rfl) hn (by rfl) h
theorem in_slices_Concat_of_exact_row_exact_fraction_of{args:Array Value}{w:World}{R:Ending→World→Prop}(hn:args.size≤Tryz.f156.ntmps)(h:sxCode PG τ w.heap.size (bd Tryz.f156) (initE 0 args.toList) [] 0 [] w (retK τ w.heap.size Tryz.f156.results.toList R)):Con PG N.slices_Concat_of_exact_row_exact_fraction_of args w R:=
 in_f Tryz.func156 (by rfl) (by rfl) hn (by rfl) h
theorem in_exact_kernel{args:Array Value}{w:World}{R:Ending→World→Prop}(hn:args.size≤Tryz.f157.ntmps)(h:sxCode PG τ w.heap.size (bd Tryz.f157) (initE 0 args.toList) [] 0 [] w (retK τ w.heap.size Tryz.f157.results.toList R)):Con PG N.exact_kernel args w R:=
 in_f Tryz.func157 (by rfl) (by rfl) hn (by rfl) h
theorem in_ref01_carried{args:Array Value}{w:World}{R:Ending→World→Prop}(hn:args.size≤Tryz.f158.ntmps)(h:sxCode PG τ w.heap.size (bd Tryz.f158) (initE 0 args.toList) [] 0 [] w (retK τ w.heap.size Tryz.f158.results.toList R)):Con PG N.ref01_carried args w R:=
 in_f Tryz.func158 (by rfl) (by rfl) hn (by rfl) h
theorem in_ref01_packed{args:Array Value}{w:World}{R:Ending→World→Prop}(hn:args.size≤Tryz.f159.ntmps)(h:sxCode PG τ w.heap.size (bd Tryz.f159) (initE 0 args.toList) [] 0 [] w (retK τ w.heap.size Tryz.f159.results.toList R)):Con PG N.ref01_packed args w R:=
 in_f Tryz.func159 (by rfl) (by rfl) hn (by rfl) h
theorem in_ref01_spread{args:Array Value}{w:World}{R:Ending→World→Prop}(hn:args.size≤Tryz.f160.ntmps)(h:sxCode PG τ w.heap.size (bd Tryz.f160) (initE 0 args.toList) [] 0 [] w (retK τ w.heap.size Tryz.f160.results.toList R)):Con PG N.ref01_spread args w R:=
 in_f Tryz.func160 (by rfl) (by rfl) hn (by rfl) h
theorem in_exact_number_plus{args:Array Value}{w:World}{R:Ending→World→Prop}(hn:args.size≤Tryz.f161.ntmps)(h:sxCode PG τ w.heap.size (bd Tryz.f161) (initE 0 args.toList) [] 0 [] w (retK τ w.heap.size Tryz.f161.results.toList R)):Con PG N.exact_number_plus args w R:=
 in_f Tryz.func161 (by rfl) (by rfl) hn (by rfl) h
theorem in_ref01_columns{args:Array Value}{w:World}{R:Ending→World→Prop}(hn:args.size≤Tryz.f162.ntmps)(h:sxCode PG τ w.heap.size (bd Tryz.f162) (initE 0 args.toList) [] 0 [] w (retK τ w.heap.size Tryz.f162.results.toList R)):Con PG N.ref01_columns args w R:=
 in_f Tryz.func162 (by rfl) (by rfl) hn (by rfl) h
theorem in_ref01_at{args:Array Value}{w:World}{R:Ending→World→Prop}(hn:args.size≤Tryz.f163.ntmps)(h:sxCode PG τ w.heap.size (bd Tryz.f163) (initE 0 args.toList) [] 0 [] w (retK τ w.heap.size Tryz.f163.results.toList R)):Con PG N.ref01_at args w R:=
 in_f Tryz.func163 (by rfl) (by rfl) hn (by rfl) h
theorem in_bits_Add32{args:Array Value}{w:World}{R:Ending→World→Prop}(hn:args.size≤Tryz.f166.ntmps)(h:sxCode PG τ w.heap.size (bd Tryz.f166) (initE 0 args.toList) [] 0 [] w (retK τ w.heap.size Tryz.f166.results.toList R)):Con PG N.bits_Add32 args w R:=
 in_f Tryz.func166 (by rfl) (by rfl) hn (by rfl) h
theorem in_exact_nat_short{args:Array Value}{w:World}{R:Ending→World→Prop}(hn:args.size≤Tryz.f167.ntmps)(h:sxCode PG τ w.heap.size (bd Tryz.f167) (initE 0 args.toList) [] 0 [] w (retK τ w.heap.size Tryz.f167.results.toList R)):Con PG N.exact_nat_short args w R:=
 in_f Tryz.func167 (by rfl) (by rfl) hn (by rfl) h
theorem in_bits_LeadingZeros32{args:Array Value}{w:World}{R:Ending→World→Prop}(hn:args.size≤Tryz.f168.ntmps)(h:sxCode PG τ w.heap.size (bd Tryz.f168) (initE 0 args.toList) [] 0 [] w (retK τ w.heap.size Tryz.f168.results.toList R)):Con PG N.bits_LeadingZeros32 args w R:=
 in_f Tryz.func168 (by rfl) (by rfl) hn (by rfl) h
theorem in_exact_nat_shifted{args:Array Value}{w:World}{R:Ending→World→Prop}(hn:args.size≤Tryz.f169.ntmps)(h:sxCode PG τ w.heap.size (bd Tryz.f169) (initE 0 args.toList) [] 0 [] w (retK τ w.heap.size Tryz.f169.results.toList R)):Con PG N.exact_nat_shifted args w R:=
 in_f Tryz.func169 (by rfl) (by rfl) hn (by rfl) h
theorem in_exact_nat_digit{args:Array Value}{w:World}{R:Ending→World→Prop}(hn:args.size≤Tryz.f170.ntmps)(h:sxCode PG τ w.heap.size (bd Tryz.f170) (initE 0 args.toList) [] 0 [] w (retK τ w.heap.size Tryz.f170.results.toList R)):Con PG N.exact_nat_digit args w R:=
 in_f Tryz.func170 (by rfl) (by rfl) hn (by rfl) h
theorem in_strings_TrimLeft{args:Array Value}{w:World}{R:Ending→World→Prop}(hn:args.size≤Tryz.f171.ntmps)(h:sxCode PG τ w.heap.size (bd Tryz.f171) (initE 0 args.toList) [] 0 [] w (retK τ w.heap.size Tryz.f171.results.toList R)):Con PG N.strings_TrimLeft args w R:=
 in_f Tryz.func171 (by rfl) (by rfl) hn (by rfl) h
theorem in_strings_Join{args:Array Value}{w:World}{R:Ending→World→Prop}(hn:args.size≤Tryz.f172.ntmps)(h:sxCode PG τ w.heap.size (bd Tryz.f172) (initE 0 args.toList) [] 0 [] w (retK τ w.heap.size Tryz.f172.results.toList R)):Con PG N.strings_Join args w R:=
 in_f Tryz.func172 (by rfl) (by rfl) hn (by rfl) h
theorem in_slices_Index_of_int_int_of{args:Array Value}{w:World}{R:Ending→World→Prop}(hn:args.size≤Tryz.f173.ntmps)(h:sxCode PG τ w.heap.size (bd Tryz.f173) (initE 0 args.toList) [] 0 [] w (retK τ w.heap.size Tryz.f173.results.toList R)):Con PG N.slices_Index_of_int_int_of args w R:=
 in_f Tryz.func173 (by rfl) (by rfl) hn (by rfl) h
theorem in_bits_Sub32{args:Array Value}{w:World}{R:Ending→World→Prop}(hn:args.size≤Tryz.f179.ntmps)(h:sxCode PG τ w.heap.size (bd Tryz.f179) (initE 0 args.toList) [] 0 [] w (retK τ w.heap.size Tryz.f179.results.toList R)):Con PG N.bits_Sub32 args w R:=
 in_f Tryz.func179 (by rfl) (by rfl) hn (by rfl) h
theorem in_slices_Concat_of_exact_nat_uint32_of{args:Array Value}{w:World}{R:Ending→World→Prop}(hn:args.size≤Tryz.f180.ntmps)(h:sxCode PG τ w.heap.size (bd Tryz.f180) (initE 0 args.toList) [] 0 [] w (retK τ w.heap.size Tryz.f180.results.toList R)):Con PG N.slices_Concat_of_exact_nat_uint32_of args w R:=
 in_f Tryz.func180 (by rfl) (by rfl) hn (by rfl) h
theorem in_slices_Grow_of_exact_row_exact_fraction_of{args:Array Value}{w:World}{R:Ending→World→Prop}(hn:args.size≤Tryz.f181.ntmps)(h:sxCode PG τ w.heap.size (bd Tryz.f181) (initE 0 args.toList) [] 0 [] w (retK τ w.heap.size Tryz.f181.results.toList R)):Con PG N.slices_Grow_of_exact_row_exact_fraction_of args w R:=
 in_f Tryz.func181 (by rfl) (by rfl) hn (by rfl) h
theorem in_slices_Contains_of_int_int_of{args:Array Value}{w:World}{R:Ending→World→Prop}(hn:args.size≤Tryz.f182.ntmps)(h:sxCode PG τ w.heap.size (bd Tryz.f182) (initE 0 args.toList) [] 0 [] w (retK τ w.heap.size Tryz.f182.results.toList R)):Con PG N.slices_Contains_of_int_int_of args w R:=
 in_f Tryz.func182 (by rfl) (by rfl) hn (by rfl) h
theorem in_bits_Len32{args:Array Value}{w:World}{R:Ending→World→Prop}(hn:args.size≤Tryz.f187.ntmps)(h:sxCode PG τ w.heap.size (bd Tryz.f187) (initE 0 args.toList) [] 0 [] w (retK τ w.heap.size Tryz.f187.results.toList R)):Con PG N.bits_Len32 args w R:=
 in_f Tryz.func187 (by rfl) (by rfl) hn (by rfl) h
theorem in_exact_nat_take{args:Array Value}{w:World}{R:Ending→World→Prop}(hn:args.size≤Tryz.f188.ntmps)(h:sxCode PG τ w.heap.size (bd Tryz.f188) (initE 0 args.toList) [] 0 [] w (retK τ w.heap.size Tryz.f188.results.toList R)):Con PG N.exact_nat_take args w R:=
 in_f Tryz.func188 (by rfl) (by rfl) hn (by rfl) h
theorem in_strings_trimLeftByte{args:Array Value}{w:World}{R:Ending→World→Prop}(hn:args.size≤Tryz.f189.ntmps)(h:sxCode PG τ w.heap.size (bd Tryz.f189) (initE 0 args.toList) [] 0 [] w (retK τ w.heap.size Tryz.f189.results.toList R)):Con PG N.strings_trimLeftByte args w R:=
 in_f Tryz.func189 (by rfl) (by rfl) hn (by rfl) h
theorem in_slices_Grow_of_exact_nat_uint32_of{args:Array Value}{w:World}{R:Ending→World→Prop}(hn:args.size≤Tryz.f198.ntmps)(h:sxCode PG τ w.heap.size (bd Tryz.f198) (initE 0 args.toList) [] 0 [] w (retK τ w.heap.size Tryz.f198.results.toList R)):Con PG N.slices_Grow_of_exact_nat_uint32_of args w R:=
 in_f Tryz.func198 (by rfl) (by rfl) hn (by rfl) h
end Go.Ex

/- Natural numbers of package exact: trimmed. No condition. -/
namespace Go.Ex
open Go Go.Sx Go.Proofs

/-- a cell of what is told, seen later -/
theorem cellS{S:Nat→Prop}{H:Hp}{nx:Nat}{iv:Iv}{w w1 w':World}{ρ:Nat→Sx.Val}(hS:Old S w)(hw:Bel w.heap.size w w1)(r:Rel H nx iv w.heap.size w1 ρ w'){ad:Addr}{j:Nat}{x:Value}(hs:S ad.block)(h:w.cell? (ad.add j)=some x):w'.cell? (ad.add j)=some x:=by
 rw[(hw.tr r.bel).cell (by rw[addB];exact hS _ hs)]
 exact h
theorem add_none(a:Option Addr)(c:Nat):(if (c:Int)=0 then a else a.map fun x=>x.add (Int.toNat 0*1))=a:=by
 split
 ·rfl
 ·cases a<;>rfl
theorem trimL_take_zero{ls:List Nat}{k:Nat}(h:ls[k]? =some 0):trimL (ls.take (k+1))=trimL (ls.take k):=by
 rw[List.take_add_one,h]
 exact trimL_snoc_zero _
theorem trimL_take_ne{ls:List Nat}{k x:Nat}(h:ls[k]? =some x)(hx:x≠0):trimL (ls.take (k+1))=ls.take (k+1):=by
 rw[List.take_add_one,h]
 exact trimL_snoc _ hx

theorem trimmed_c{S:Nat→Prop}{w:World}{v:Value}{ls:List Nat}(hS:Old S w)(h:Limbs w S v ls):Con PG N.exact_nat_trimmed #[v] w (Ret w fun v' w2=>Limbs w2 S v' (trimL ls)):=by
 obtain⟨a,c,rfl,hlc,hc⟩:=h.sl
 have hle:=h.le
 have hlm:=h.lm
 refine in_exact_nat_trimmed (by simp) ?_
 conv=>whnf
 refine⟨Nat×World,fun x=>⟨[(0,.o (.v (.slice a x.1 c)))],[],0,[],x.2⟩,fun x=>x.1,
  fun x=>x.1≤ls.length∧Bel w.heap.size w x.2∧trimL ls=trimL (ls.take x.1),?_,?_⟩
 ·intro ρ w' r
  exact⟨(ls.length,w'),⟨Nat.le_refl _,r.bel,by simp⟩,Sub.reset r ⟨rfl,trivial⟩ ⟨trivial,trivial⟩⟩
 ·rintro⟨k,w1⟩ ⟨hk,hw,hF⟩
  dsimp only at hk hw hF ⊢
  have hdone:Bel w.heap.size w w1→trimL ls=ls.take k→∀ρ w2,Rel [] 0 [] w.heap.size w1 ρ w2→Limbs w2 S (.slice a k c) (trimL ls):=fun hw he ρ w2 r=>by
   rw[he]
   refine⟨hlm.take k,by simp;omega,a,c,by simp;omega,by simp;omega,fun j x hx=>?_⟩
   have hjk:j<k:=by
    have:=(List.getElem?_eq_some_iff.1 hx).1
    simp at this;omega
   rw[List.getElem?_take_of_lt hjk]at hx
   obtain⟨ad,h1,h2,h3⟩:=hc j x hx
   exact⟨ad,h1,h2,cellS hS hw r h2 h3⟩
  conv=>whnf
  refine BrS.mk (fun h=>?_) (fun h=>?_)
  ·have h:0<k:=by simpa using h
   obtain⟨k,rfl⟩:∃q,k=q+1:=⟨k-1,by omega⟩
   obtain⟨x,hx⟩:∃x,ls[k]? =some x:=⟨_,List.getElem?_eq_getElem (by omega)⟩
   obtain⟨ad,ha,hs,hx1⟩:=hc k x hx
   conv=>whnf
   refine⟨(k:Int),by rw[wrap64]<;>omega,?_⟩
   conv=>whnf
   refine⟨ad,ha,⟨by omega,by omega⟩,?_⟩
   conv=>whnf
   refine⟨.int .u32 x,fun ρ w' r=>by rw[Int.toNat_natCast,Nat.mul_one];exact cellS hS hw r hs hx1,?_⟩
   conv=>whnf
   refine BrS.mk (fun h2=>?_) (fun h2=>?_)
   ·have h2:x=0:=by have:=eq_of_beq h2;omega
    subst h2
    conv=>whnf
    refine⟨(k:Int),by rw[wrap64]<;>omega,?_⟩
    conv=>whnf
    refine⟨⟨by omega,by omega,by omega⟩,a,k,c,add_none a c,by simp,by simp,?_⟩
    conv=>whnf
    intro ρ w2 r
    exact⟨(k,w2),⟨by dsimp only;omega,hw.tr r.bel,hF.trans (trimL_take_zero hx)⟩,Sub.reset r ⟨rfl,trivial⟩ ⟨trivial,trivial⟩,by dsimp only;omega⟩
   ·have h2:x≠0:=by intro e;subst e;simp at h2
    conv=>whnf
    intro ρ w2 r
    exact⟨_,rfl,hw.tr r.bel,hdone hw (by rw[hF,trimL_take_ne hx h2]) ρ w2 r⟩
  ·have h:k=0:=by
    have:¬0<k:=by simpa using h
    omega
   subst h
   conv=>whnf
   intro ρ w2 r
   exact⟨_,rfl,hw.tr r.bel,hdone hw (by rw[hF];simp[trimL]) ρ w2 r⟩
end Go.Ex

/- Carries and borrows; comparison, sum and difference of natural numbers of package exact. No condition. -/
namespace Go.Ex
open Go Go.Sx Go.Proofs

theorem wrapU64n{n:Nat}(h:n<18446744073709551616):IntKind.u64.wrap (n:Int)=(n:Int):=wrapU64 (by omega) (by omega)
theorem wrapU32n(n:Nat):IntKind.u32.wrap (n:Int)=((n % 4294967296:Nat):Int):=by
 show((n:Int) % 4294967296)=_
 omega
theorem ofInt32(x:Nat):BitVec.ofInt 32 (x:Int)=BitVec.ofNat 32 x:=by
 apply BitVec.eq_of_toNat_eq
 simp
theorem and_lt32{y:Nat}(x:Nat)(hy:y<4294967296):x &&& y<4294967296:=Nat.lt_of_le_of_lt Nat.and_le_right hy
theorem xor_lt32{x y:Nat}(hx:x<4294967296)(hy:y<4294967296):x ^^^ y<4294967296:=Nat.xor_lt_two_pow (n:=32) hx hy
theorem or_lt32{x y:Nat}(hx:x<4294967296)(hy:y<4294967296):x ||| y<4294967296:=Nat.or_lt_two_pow (n:=32) hx hy
theorem and32{x y:Nat}(hx:x<4294967296)(hy:y<4294967296):IntKind.u32.wrap ((BitVec.ofInt IntKind.u32.bits x &&& BitVec.ofInt IntKind.u32.bits y).toNat:Int)=((x &&& y:Nat):Int):=by
 show IntKind.u32.wrap ((BitVec.ofInt 32 x &&& BitVec.ofInt 32 y).toNat:Int)=_
 rw[ofInt32,ofInt32,BitVec.toNat_and,BitVec.toNat_ofNat,BitVec.toNat_ofNat,Nat.mod_eq_of_lt hx,Nat.mod_eq_of_lt hy,wrapU32n,Nat.mod_eq_of_lt (and_lt32 x hy)]
theorem or32{x y:Nat}(hx:x<4294967296)(hy:y<4294967296):IntKind.u32.wrap ((BitVec.ofInt IntKind.u32.bits x ||| BitVec.ofInt IntKind.u32.bits y).toNat:Int)=((x ||| y:Nat):Int):=by
 show IntKind.u32.wrap ((BitVec.ofInt 32 x ||| BitVec.ofInt 32 y).toNat:Int)=_
 rw[ofInt32,ofInt32,BitVec.toNat_or,BitVec.toNat_ofNat,BitVec.toNat_ofNat,Nat.mod_eq_of_lt hx,Nat.mod_eq_of_lt hy,wrapU32n,Nat.mod_eq_of_lt (or_lt32 hx hy)]
theorem xor32{x y:Nat}(hx:x<4294967296)(hy:y<4294967296):IntKind.u32.wrap ((BitVec.ofInt IntKind.u32.bits x ^^^ BitVec.ofInt IntKind.u32.bits y).toNat:Int)=((x ^^^ y:Nat):Int):=by
 show IntKind.u32.wrap ((BitVec.ofInt 32 x ^^^ BitVec.ofInt 32 y).toNat:Int)=_
 rw[ofInt32,ofInt32,BitVec.toNat_xor,BitVec.toNat_ofNat,BitVec.toNat_ofNat,Nat.mod_eq_of_lt hx,Nat.mod_eq_of_lt hy,wrapU32n,Nat.mod_eq_of_lt (xor_lt32 hx hy)]
theorem not32{x:Nat}(hx:x<4294967296):IntKind.u32.wrap ((BitVec.ofInt IntKind.u32.bits (if IntKind.u32.signed=true then -1 else IntKind.u32.max) ^^^ BitVec.ofInt IntKind.u32.bits x).toNat:Int)=((4294967295 ^^^ x:Nat):Int):=
 xor32 (x:=4294967295) (by decide) hx
theorem fdiv_shr{x:Nat}(k:Nat)(hk:k≤63):(x:Int).fdiv (2^min (Int.toNat (k:Int)) IntKind.u64.bits)=((x / 2^k:Nat):Int):=by
 have h1:min (Int.toNat (k:Int)) IntKind.u64.bits=k:=by show min (Int.toNat (k:Int)) 64=k;omega
 rw[h1,Int.fdiv_eq_ediv_of_nonneg _ (by exact Int.le_of_lt (Int.pow_pos (by decide)))]
 simp
theorem fdiv_shr32{x:Nat}(k:Nat)(hk:k≤31):(x:Int).fdiv (2^min (Int.toNat (k:Int)) IntKind.u32.bits)=((x / 2^k:Nat):Int):=by
 have h1:min (Int.toNat (k:Int)) IntKind.u32.bits=k:=by show min (Int.toNat (k:Int)) 32=k;omega
 rw[h1,Int.fdiv_eq_ediv_of_nonneg _ (by exact Int.le_of_lt (Int.pow_pos (by decide)))]
 simp
theorem tb31{z:Nat}(h:z<4294967296):z.testBit 31=decide (2147483648≤z):=by
 rw[Nat.testBit_eq_decide_div_mod_eq]
 apply decide_eq_decide.2
 show z / 2147483648 % 2=1↔_
 omega
theorem borrow{x y c d:Nat}(hx:x<4294967296)(hy:y<4294967296)(hc:c≤1)(hd:(x+4294967296-(y+c)) % 4294967296=d):
  (((4294967295 ^^^ x) &&& y) ||| ((4294967295 ^^^ (x ^^^ y)) &&& d)) / 2^31=if x<y+c then 1 else 0:=by
 have hd2:d<4294967296:=by omega
 have hz:=or_lt32 (and_lt32 (4294967295 ^^^ x) hy) (and_lt32 (4294967295 ^^^ (x ^^^ y)) hd2)
 have ht:=tb31 hz
 have hm:Nat.testBit 4294967295 31=true:=by decide
 rw[Nat.testBit_or,Nat.testBit_and,Nat.testBit_and,Nat.testBit_xor,Nat.testBit_xor,Nat.testBit_xor,hm,tb31 hx,tb31 hy,tb31 hd2]at ht
 generalize (((4294967295 ^^^ x) &&& y) ||| ((4294967295 ^^^ (x ^^^ y)) &&& d))=z at hz ht
 show z / 2147483648=_
 by_cases h1:2147483648≤x<;>by_cases h2:2147483648≤y<;>by_cases h3:2147483648≤d<;>simp[h1,h2,h3]at ht<;>split<;>omega
theorem add32_c(x y c:Nat)(w:World)(hx:x<4294967296)(hy:y<4294967296)(hc:c<4294967296):
  Con PG N.bits_Add32 #[.int .u32 x,.int .u32 y,.int .u32 c] w (Ret w fun v _=>v= .tuple #[.int .u32 ((x+y+c) % 4294967296:Nat),.int .u32 ((x+y+c) / 4294967296:Nat)]):=by
 refine in_bits_Add32 (by simp) ?_
 conv=>whnf
 refine⟨(x:Int),wrapU64n (by omega),?_⟩
 conv=>whnf
 refine⟨(y:Int),wrapU64n (by omega),?_⟩
 conv=>whnf
 refine⟨((x+y:Nat):Int),by rw[wrapU64]<;>omega,?_⟩
 conv=>whnf
 refine⟨(c:Int),wrapU64n (by omega),?_⟩
 conv=>whnf
 refine⟨((x+y+c:Nat):Int),by rw[wrapU64]<;>omega,?_⟩
 conv=>whnf
 refine⟨(((x+y+c) % 4294967296:Nat):Int),wrapU32n _,?_⟩
 conv=>whnf
 refine⟨by decide,(((x+y+c) / 4294967296:Nat):Int),?_,?_⟩
 ·exact fdiv_shr 32 (by decide)
 conv=>whnf
 refine⟨(((x+y+c) / 4294967296:Nat):Int),by rw[wrapU32n];omega,?_⟩
 conv=>whnf
 intro ρ w3 r
 exact⟨_,rfl,r.bel,rfl⟩
theorem sub32_c(x y c:Nat)(w:World)(hx:x<4294967296)(hy:y<4294967296)(hc:c≤1):
  Con PG N.bits_Sub32 #[.int .u32 x,.int .u32 y,.int .u32 c] w (Ret w fun v _=>v= .tuple #[.int .u32 ((x+4294967296-(y+c)) % 4294967296:Nat),.int .u32 ((if x<y+c then 1 else 0:Nat):Int)]):=by
 refine in_bits_Sub32 (by simp) ?_
 conv=>whnf
 refine⟨((x+4294967296-y) % 4294967296:Nat),?_,?_⟩
 ·show((x:Int)-y) % 4294967296=_
  omega
 conv=>whnf
 refine⟨((x+4294967296-(y+c)) % 4294967296:Nat),?_,?_⟩
 ·show((((x+4294967296-y) % 4294967296:Nat):Int)-c) % 4294967296=_
  omega
 conv=>whnf
 have h6:(x+4294967296-(y+c)) % 4294967296<4294967296:=Nat.mod_lt _ (by decide)
 generalize hd:(x+4294967296-(y+c)) % 4294967296=d at h6
 refine⟨((4294967295 ^^^ x:Nat):Int),not32 hx,?_⟩
 conv=>whnf
 refine⟨(((4294967295 ^^^ x) &&& y:Nat):Int),and32 (xor_lt32 (by decide) hx) hy,?_⟩
 conv=>whnf
 refine⟨((x ^^^ y:Nat):Int),xor32 hx hy,?_⟩
 conv=>whnf
 refine⟨((4294967295 ^^^ (x ^^^ y):Nat):Int),not32 (xor_lt32 hx hy),?_⟩
 conv=>whnf
 refine⟨(((4294967295 ^^^ (x ^^^ y)) &&& d:Nat):Int),and32 (xor_lt32 (by decide) (xor_lt32 hx hy)) h6,?_⟩
 conv=>whnf
 refine⟨((((4294967295 ^^^ x) &&& y) ||| ((4294967295 ^^^ (x ^^^ y)) &&& d):Nat):Int),or32 (and_lt32 _ hy) (and_lt32 _ h6),?_⟩
 conv=>whnf
 refine⟨by decide,((if x<y+c then 1 else 0:Nat):Int),?_,?_⟩
 ·rw[←borrow hx hy hc hd]
  exact fdiv_shr32 31 (by decide)
 conv=>whnf
 intro ρ w3 r
 exact⟨_,rfl,r.bel,rfl⟩
end Go.Ex

/- Comparison, sum and difference of natural numbers of package exact. No condition. -/
namespace Go.Ex
open Go Go.Sx Go.Proofs

def cmpN(n m:Nat):Int:=if n<m then -1 else if m<n then 1 else 0
theorem lt_at{a b:List Nat}{i x y:Nat}(ha:Lm a)(hl:a.length=b.length)(hx:a[i]? =some x)(hy:b[i]? =some y)(h:a.drop (i+1)=b.drop (i+1))(hlt:x<y):val a<val b:=by
 have hi:=(List.getElem?_eq_some_iff.1 hx).1
 have h1:=val_take_drop a i (by omega)
 have h2:=val_take_drop b i (by omega)
 rw[val_drop hx]at h1
 rw[val_drop hy,←h]at h2
 have h3:=val_lt (ha.take i)
 rw[List.length_take,Nat.min_eq_left (by omega)]at h3
 generalize val (a.drop (i+1))=q at h1 h2
 have h4:wt i*(x+4294967296*q+1)≤wt i*(y+4294967296*q):=Nat.mul_le_mul_left _ (by omega)
 rw[Nat.mul_add,Nat.mul_one]at h4
 omega

theorem cmp_c{S:Nat→Prop}{w:World}{v u:Value}{n m:Nat}(hS:Old S w)(hn:NatR w S v n)(hm:NatR w S u m):Con PG N.exact_nat_cmp #[v,u] w (Ret w fun v' _=>v'= .int .i64 (cmpN n m)):=by
 obtain⟨ls,h1,nz1,rfl⟩:=hn
 obtain⟨ms,h2,nz2,rfl⟩:=hm
 obtain⟨a,c,rfl,_,ha⟩:=h1.sl
 obtain⟨b,e,rfl,_,hb⟩:=h2.sl
 have hle1:=h1.le
 have hle2:=h2.le
 have lm1:=h1.lm
 have lm2:=h2.lm
 refine in_exact_nat_cmp (by simp) ?_
 conv=>whnf
 refine BrS.mk (fun h=>?_) (fun h=>?_)
 ·have h:ls.length≠ms.length:=by intro e;rw[e]at h;simp at h
  conv=>whnf
  refine BrS.mk (fun h3=>?_) (fun h3=>?_)
  ·have h3:ls.length<ms.length:=by simpa using h3
   conv=>whnf
   intro ρ w2 r
   exact⟨_,rfl,r.bel,by rw[cmpN,if_pos (val_lt_of_length lm1 nz2 h3)];rfl⟩
  ·have h3:ms.length<ls.length:=by
    have:¬ls.length<ms.length:=by simpa using h3
    omega
   have h4:=val_lt_of_length lm2 nz1 h3
   conv=>whnf
   intro ρ w2 r
   exact⟨_,rfl,r.bel,by rw[cmpN,if_neg (by omega),if_pos h4];rfl⟩
 ·have h:ls.length=ms.length:=by
   have:(ls.length:Int)=ms.length:=by simpa using h
   omega
  conv=>whnf
  refine⟨(ls.length:Int)-1,by rw[wrap64]<;>omega,?_⟩
  conv=>whnf
  refine⟨Nat×World,fun x=>⟨[(0,.o (.v (.slice a ls.length c))),(1,.o (.v (.slice b ms.length e))),(5,.o (.v (.int .i64 ((x.1:Int)-1))))],[],0,[],x.2⟩,fun x=>x.1,
   fun x=>x.1≤ls.length∧Bel w.heap.size w x.2∧ls.drop x.1=ms.drop x.1,?_,?_⟩
  ·intro ρ w' r
   exact⟨(ls.length,w'),⟨Nat.le_refl _,r.bel,by rw[List.drop_length,h,List.drop_length]⟩,Sub.reset r ⟨rfl,rfl,rfl,trivial⟩ ⟨trivial,trivial,trivial,trivial⟩⟩
  ·rintro⟨k,w1⟩ ⟨hk,hw,hd⟩
   dsimp only at hk hw hd ⊢
   conv=>whnf
   refine BrS.mk (fun h3=>?_) (fun h3=>?_)
   ·have h3:(k:Int)-1≥0:=of_decide_eq_true h3
    obtain⟨k,rfl⟩:∃q,k=q+1:=⟨k-1,by omega⟩
    rw[show ((k+1:Nat):Int)-1=(k:Int) by omega]
    obtain⟨x,hx⟩:∃x,ls[k]? =some x:=⟨_,List.getElem?_eq_getElem (by omega)⟩
    obtain⟨y,hy⟩:∃x,ms[k]? =some x:=⟨_,List.getElem?_eq_getElem (by omega)⟩
    obtain⟨ad,had,hs,hc1⟩:=ha k x hx
    obtain⟨ad2,had2,hs2,hc2⟩:=hb k y hy
    have hlx:∀ρ w',Rel [] 0 [] w.heap.size w1 ρ w'→w'.cell? (ad.add ((k:Int).toNat*1))=some (.int .u32 x):=fun ρ w' r=>by
     rw[Int.toNat_natCast,Nat.mul_one];exact cellS hS hw r hs hc1
    have hly:∀ρ w',Rel [] 0 [] w.heap.size w1 ρ w'→w'.cell? (ad2.add ((k:Int).toNat*1))=some (.int .u32 y):=fun ρ w' r=>by
     rw[Int.toNat_natCast,Nat.mul_one];exact cellS hS hw r hs2 hc2
    conv=>whnf
    refine drawn_of_pi hτ hmix [.x 0,.x 1,.x 2,.x 3,.x 4,.x 5,.x 6,.x 7,.x 8,.x 9] (by kernel_rfl) (by kernel_rfl) ?_
    conv=>whnf
    refine⟨ad,had,⟨by omega,by omega⟩,?_⟩
    conv=>whnf
    refine⟨_,hlx,?_⟩
    conv=>whnf
    refine⟨ad2,had2,⟨by omega,by omega⟩,?_⟩
    conv=>whnf
    refine⟨_,hly,?_⟩
    conv=>whnf
    refine BrS.mk (fun h4=>?_) (fun h4=>?_)
    ·have h4:x<y:=by simpa using h4
     conv=>whnf
     intro ρ w2 r
     exact⟨_,rfl,hw.tr r.bel,by rw[cmpN,if_pos (lt_at lm1 h hx hy hd h4)];rfl⟩
    ·have h4:¬x<y:=by simpa using h4
     conv=>whnf
     refine drawn_of_pi hτ hmix [.x 0,.x 1,.x 2,.x 3,.x 4,.x 5,.x 6,.x 7,.x 8,.x 9] (by kernel_rfl) (by kernel_rfl) ?_
     conv=>whnf
     refine⟨ad,had,⟨by omega,by omega⟩,?_⟩
     conv=>whnf
     refine⟨_,hlx,?_⟩
     conv=>whnf
     refine⟨ad2,had2,⟨by omega,by omega⟩,?_⟩
     conv=>whnf
     refine⟨_,hly,?_⟩
     conv=>whnf
     refine BrS.mk (fun h5=>?_) (fun h5=>?_)
     ·have h5:y<x:=by simpa using h5
      have h6:=lt_at lm2 h.symm hy hx hd.symm h5
      conv=>whnf
      intro ρ w2 r
      exact⟨_,rfl,hw.tr r.bel,by rw[cmpN,if_neg (by omega),if_pos h6];rfl⟩
     ·have h5:¬y<x:=by simpa using h5
      have hxy:x=y:=by omega
      subst hxy
      conv=>whnf
      refine⟨(k:Int)-1,by rw[wrap64]<;>omega,?_⟩
      conv=>whnf
      intro ρ w2 r
      have hd2:ls.drop k=ms.drop k:=by
       obtain⟨q1,e1⟩:=List.getElem?_eq_some_iff.1 hx
       obtain⟨q2,e2⟩:=List.getElem?_eq_some_iff.1 hy
       rw[List.drop_eq_getElem_cons q1,List.drop_eq_getElem_cons q2,e1,e2,hd]
      exact⟨(k,w2),⟨by dsimp only;omega,hw.tr r.bel,hd2⟩,Sub.reset r ⟨rfl,rfl,rfl,trivial⟩ ⟨trivial,trivial,trivial,trivial⟩,by simp⟩
   ·have hk0:k=0:=by
     have:¬(k:Int)-1≥0:=of_decide_eq_false h3
     omega
    subst hk0
    have he:ls=ms:=by simpa using hd
    conv=>whnf
    intro ρ w2 r
    exact⟨_,rfl,hw.tr r.bel,by rw[he,cmpN,if_neg (by omega),if_neg (by omega)];rfl⟩
end Go.Ex

/- Sum of natural numbers of package exact. No condition. -/
namespace Go.Ex
open Go Go.Sx Go.Proofs

end Go.Ex
namespace Go.Sx
open Go Go.Ex Go.Proofs
/-- an argument: limbs of what was there -/
theorem Rel.nilBy{nx:Nat}{iv:Iv}{B:Nat}{w w':World}{ρ:Nat→Sx.Val}(r:Rel [] nx iv B w ρ w'):w.grownBy w' none:=
 ⟨r.os,r.tape,r.output,r.size,fun k hk _=>r.frm k hk (fun id b h=>by cases h)⟩
end Go.Sx
namespace Go.Ex
open Go Go.Sx Go.Proofs
structure LA(S:Nat→Prop)(w:World) where
 a:Option Addr
 c:Nat
 ls:List Nat
 lm:Lm ls
 le:ls.length≤9223372036854775807
 cap:ls.length≤c
 cell:∀(j:Nat) x,ls[j]? =some x→∃ad,a=some ad∧S ad.block∧w.cell? (ad.add j)=some (.int .u32 x)
theorem Limbs.la{S:Nat→Prop}{w:World}{v:Value}{ls:List Nat}(h:Limbs w S v ls):∃p:LA S w,v= .slice p.a p.ls.length p.c∧p.ls=ls:=by
 obtain⟨a,c,h1,h2,h3⟩:=h.sl
 exact⟨⟨a,c,ls,h.lm,h.le,h2,h3⟩,h1,rfl⟩
theorem NatR.la{S:Nat→Prop}{w:World}{v:Value}{n:Nat}(h:NatR w S v n):∃p:LA S w,v= .slice p.a p.ls.length p.c∧val p.ls=n∧Nz p.ls:=by
 obtain⟨ls,h1,h2,h3⟩:=h
 obtain⟨p,h4,h5⟩:=h1.la
 exact⟨p,h4,by rw[h5];exact h3,by rw[h5];exact h2⟩
/-- a limb of an argument is read -/
theorem LA.load{S:Nat→Prop}{w w1:World}(p:LA S w)(hS:Old S w)(hw:Bel w.heap.size w w1){k x:Nat}(hx:p.ls[k]? =some x):
  ∃ad,p.a=some ad∧∀(H:Hp) (nx:Nat) (iv:Iv) (ρ:Nat→Sx.Val) w',Rel H nx iv w.heap.size w1 ρ w'→w'.cell? (ad.add ((k:Int).toNat*1))=some (.int .u32 x):=by
 obtain⟨ad,h1,h2,h3⟩:=p.cell k x hx
 refine⟨ad,h1,fun H nx iv ρ w' r=>?_⟩
 rw[Int.toNat_natCast,Nat.mul_one]
 exact cellS hS hw r h2 h3

def U(l:List Nat):List Value:=l.map fun(x:Nat)=>.int .u32 (x:Int)
theorem U_len(l:List Nat):(U l).length=l.length:=by simp[U]
theorem U_get{l:List Nat}{k x:Nat}(h:l[k]? =some x):(U l)[k]? =some (.int .u32 x):=by simp[U,h]
theorem U_set(l:List Nat)(k x:Nat)(h:k<l.length):(U l).take k++[.int .u32 x]++(U l).drop (k+1)=U (l.set k x):=by
 have h1:k<(U l).length:=by rw[U_len];exact h
 have:(U l).set k (.int .u32 x)=U (l.set k x):=by simp[U,List.map_set]
 rw[←this,List.set_eq_take_append_cons_drop,if_pos h1];simp
theorem U_store(l:List Nat)(k x:Nat)(h:k<l.length){e:Nat}(he:e=k):(U l).take e++[.int .u32 (x:Int)]++(U l).drop (e+1)=U (l.set k x):=by
 subst he;exact U_set l e x h
theorem U_zero(n:Nat):List.replicate n (Value.int .u32 0)=U (List.replicate n 0):=by simp[U]
end Go.Ex
namespace Go.Sx
open Go Go.Ex Go.Proofs
/-- a list of one's own that a call is handed: its limbs are read there -/
theorem Rel.ownLimbs{H:Hp}{nx:Nat}{iv:Iv}{B:Nat}{w w':World}{ρ:Nat→Sx.Val}(r:Rel H nx iv B w ρ w'){id t:Nat}{ls:List Nat}(h:getH H id=some (.arr t (U ls)))(hlm:Lm ls)(hle:ls.length≤9223372036854775807):
  Limbs w' (fun g=>g=(ρ id).g) (.slice (some ⟨(ρ id).g,0,none⟩) ls.length ls.length) ls:=by
 refine⟨hlm,hle,_,_,rfl,Nat.le_refl _,fun j x hx=>⟨_,rfl,rfl,?_⟩⟩
 have h0:(⟨(ρ id).g,0,none⟩:Addr).add j=⟨(ρ id).g,j,none⟩:=by
  cases j with
  |zero=>rfl
  |succ j=>simp[Addr.add]
 rw[h0,cell_of (r.arr id t _ h)]
 exact U_get hx
end Go.Sx
namespace Go.Ex
open Go Go.Sx Go.Proofs

theorem plus_step{out ls ms:List Nat}{i x o d:Nat}(hx:ls[i]? =some x)(ho:ms.getD i 0=o)(hd:out[i]? =some d){carry:Nat}(h:val (out.take i)+wt i*carry=val (ls.take i)+val (ms.take i)):
  val ((out.set i ((x+o+carry) % 4294967296)).take (i+1))+wt (i+1)*((x+o+carry) / 4294967296)=val (ls.take (i+1))+val (ms.take (i+1)):=by
 have hi:=(List.getElem?_eq_some_iff.1 hd).1
 have h1:(out.set i ((x+o+carry) % 4294967296))[i]? =some ((x+o+carry) % 4294967296):=by rw[List.getElem?_set_self hi]
 rw[val_take_succ h1,List.take_set_of_le (Nat.le_refl _),val_take_succ hx,wt_succ]
 have h2:val (ms.take (i+1))=val (ms.take i)+wt i*o:=by
  cases hm:ms[i]? with
  |some y=>
   have:y=o:=by rw[←ho];simp[List.getD,hm]
   rw[val_take_succ hm,this]
  |none=>
   have:o=0:=by rw[←ho];simp[List.getD,hm]
   rw[this,List.take_add_one,hm]
   simp
 rw[h2]
 have h3:=Nat.div_add_mod (x+o+carry) 4294967296
 generalize (x+o+carry) / 4294967296=q at h3 ⊢
 generalize (x+o+carry) % 4294967296=r at h3 ⊢
 have h4:wt i*(4294967296*q+r)=wt i*(x+o+carry):=by rw[h3]
 rw[Nat.mul_add,Nat.mul_add,Nat.mul_add,←Nat.mul_assoc,Nat.mul_comm (wt i) 4294967296]at h4
 omega

theorem plus_c{S:Nat→Prop}{w:World}{v u:Value}{n m:Nat}(hS:Old S w)(hn:NatR w S v n)(hm:NatR w S u m)(hln:ln n≤1000000000000)(hlm:ln m≤1000000000000):
  Con PG N.exact_nat_plus #[v,u] w (Ret w fun v' w2=>NatR w2 (Nw (fun _=>False) w w2) v' (n+m)):=by
 obtain⟨p,rfl,hp1,hp2⟩:=hn.la
 obtain⟨q,rfl,hq1,hq2⟩:=hm.la
 have hpl:=length_ln p.lm hp2
 have hql:=length_ln q.lm hq2
 rw[hp1]at hpl
 rw[hq1]at hql
 have hsum:n+m=val p.ls+val q.ls:=by rw[hp1,hq1]
 rw[hsum]
 refine in_exact_nat_plus (by simp) ?_
 conv=>whnf
 refine BrS.mk (fun h=>?_) (fun h=>?_)
 case' refine_1=>
  have h:p.ls.length<q.ls.length:=by simpa using h
  have hpx:p.ls.length≤q.ls.length:=by omega
  have hx12:q.ls.length≤1000000000000:=by omega
  rw[Nat.add_comm]
  clear hp1 hp2 hq1 hq2 hpl hql hsum hn hm h
  generalize hgx:q=x at*
  generalize hgy:p=y at*
  clear hgx hgy p q
 case' refine_2=>
  have h:¬p.ls.length<q.ls.length:=by simpa using h
  have hpx:q.ls.length≤p.ls.length:=by omega
  have hx12:p.ls.length≤1000000000000:=by omega
  clear hp1 hp2 hq1 hq2 hpl hql hsum hn hm h
  generalize hgx:p=x at*
  generalize hgy:q=y at*
  clear hgx hgy p q
 all_goals
  conv=>whnf
  refine⟨((x.ls.length+1:Nat):Int),by rw[wrap64]<;>omega,?_⟩
  conv=>whnf
  refine⟨x.ls.length+1,x.ls.length+1,rfl,rfl,Nat.le_refl _,by omega,by omega,?_⟩
  conv=>whnf
  refine⟨Nat×List Nat×Nat×World,fun z=>⟨[(0,.o (.v (.slice x.a x.ls.length x.c))),(1,.o (.v (.slice y.a y.ls.length y.c))),(5,.o (.s 0 0 (x.ls.length+1) (x.ls.length+1))),(6,.o (.v (.int .u32 z.2.2.1))),(21,.o (.v (.int .i64 x.ls.length))),(22,.o (.v (.int .i64 z.1)))],
    [(0,.arr T.uint32 (U z.2.1))],1,[],z.2.2.2⟩,fun z=>x.ls.length-z.1,
   fun z=>z.1≤x.ls.length∧Bel w.heap.size w z.2.2.2∧z.2.1.length=x.ls.length+1∧Lm z.2.1∧z.2.2.1<2∧val (z.2.1.take z.1)+wt z.1*z.2.2.1=val (x.ls.take z.1)+val (y.ls.take z.1),?_,?_⟩
  ·intro ρ w' r
   rw[U_zero]at r
   exact⟨(0,List.replicate (x.ls.length+1) 0,0,w'),⟨by simp,r.bel,by simp,Lm.replicate _,by simp,by simp[val]⟩,Sub.gen [] r ⟨rfl,trivial⟩ ⟨rfl,rfl,rfl,rfl,rfl,rfl,trivial⟩ (by simp[ScH,Blk.scopd]) (by simp[ScE,SV.sc,At.sc]) (by rfl) (by simp)⟩
  ·rintro⟨i,out,carry,w1⟩ ⟨hi,hw,hol,hlm1,hc,hv⟩
   dsimp only at hi hw hol hlm1 hc hv ⊢
   conv=>whnf
   refine BrS.mk (fun h=>?_) (fun h=>?_)
   ·have h:i<x.ls.length:=by simpa using h
    obtain⟨xi,hxi⟩:∃k,x.ls[i]? =some k:=⟨_,List.getElem?_eq_getElem h⟩
    obtain⟨d,hd⟩:∃k,out[i]? =some k:=⟨_,List.getElem?_eq_getElem (by omega)⟩
    obtain⟨ad,had,hload⟩:=x.load hS hw hxi
    have hx32:=x.lm.at hxi
    conv=>whnf
    refine BrS.mk (fun h2=>?_) (fun h2=>?_)
    ·have h2:i<y.ls.length:=by simpa using h2
     obtain⟨o,ho⟩:∃k,y.ls[i]? =some k:=⟨_,List.getElem?_eq_getElem h2⟩
     obtain⟨ad2,had2,hload2⟩:=y.load hS hw ho
     have ho32:=y.lm.at ho
     have hget:y.ls.getD i 0=o:=by simp[List.getD,ho]
     conv=>whnf
     refine⟨ad2,had2,⟨by omega,by omega⟩,?_⟩
     conv=>whnf
     refine⟨.int .u32 o,hload2 _ _ _,?_⟩
     conv=>whnf
     refine⟨ad,had,⟨by omega,by omega⟩,?_⟩
     conv=>whnf
     refine⟨.int .u32 xi,hload _ _ _,?_⟩
     conv=>whnf
     refine callE_S (callE_con (Φ:=fun _ _ v _=>v= .tuple #[.int .u32 ((xi+o+carry) % 4294967296:Nat),.int .u32 ((xi+o+carry) / 4294967296:Nat)]) (fun ρ w' r=>add32_c xi o carry w' hx32 ho32 (by omega)) ?_)
     rintro ρ w' v w2 r he hb rfl
     replace hw:=hw.tr hb
     have hstep:=plus_step hxi hget hd hv
     have hc2:(xi+o+carry) / 4294967296<2:=by omega
     clear r he hb
     conv=>whnf
     refine⟨⟨by omega,by omega⟩,?_⟩
     conv=>whnf
     refine⟨by rw[U_len];omega,U (out.set i ((xi+o+carry) % 4294967296)),U_store out i _ (by omega) (by simp),?_⟩
     conv=>whnf
     refine⟨((i+1:Nat):Int),by rw[wrap64]<;>omega,?_⟩
     conv=>whnf
     intro ρ3 w3 r3
     exact⟨(i+1,out.set i ((xi+o+carry) % 4294967296),(xi+o+carry) / 4294967296,w3),⟨by dsimp only;omega,hw.tr r3.bel,by simp[hol],hlm1.set (Nat.mod_lt _ (by decide)),hc2,hstep⟩,
      Sub.gen [] r3 ⟨rfl,trivial⟩ ⟨rfl,rfl,rfl,rfl,rfl,rfl,trivial⟩ (by simp[ScH,Blk.scopd]) (by simp[ScE,SV.sc,At.sc]) (by rfl) (by simp),by dsimp only;omega⟩
    ·have h2:¬i<y.ls.length:=by simpa using h2
     have hget:y.ls.getD i 0=0:=by simp[List.getD,List.getElem?_eq_none (show y.ls.length≤i by omega)]
     conv=>whnf
     refine⟨ad,had,⟨by omega,by omega⟩,?_⟩
     conv=>whnf
     refine⟨.int .u32 xi,hload _ _ _,?_⟩
     conv=>whnf
     refine callE_S (callE_con (Φ:=fun _ _ v _=>v= .tuple #[.int .u32 ((xi+0+carry) % 4294967296:Nat),.int .u32 ((xi+0+carry) / 4294967296:Nat)]) (fun ρ w' r=>add32_c xi 0 carry w' hx32 (by decide) (by omega)) ?_)
     rintro ρ w' v w2 r he hb rfl
     replace hw:=hw.tr hb
     have hstep:=plus_step hxi hget hd hv
     have hc2:(xi+0+carry) / 4294967296<2:=by omega
     clear r he hb
     conv=>whnf
     refine⟨⟨by omega,by omega⟩,?_⟩
     conv=>whnf
     refine⟨by rw[U_len];omega,U (out.set i ((xi+0+carry) % 4294967296)),U_store out i _ (by omega) (by simp),?_⟩
     conv=>whnf
     refine⟨((i+1:Nat):Int),by rw[wrap64]<;>omega,?_⟩
     conv=>whnf
     intro ρ3 w3 r3
     exact⟨(i+1,out.set i ((xi+0+carry) % 4294967296),(xi+0+carry) / 4294967296,w3),⟨by dsimp only;omega,hw.tr r3.bel,by simp[hol],hlm1.set (Nat.mod_lt _ (by decide)),hc2,hstep⟩,
      Sub.gen [] r3 ⟨rfl,trivial⟩ ⟨rfl,rfl,rfl,rfl,rfl,rfl,trivial⟩ (by simp[ScH,Blk.scopd]) (by simp[ScE,SV.sc,At.sc]) (by rfl) (by simp),by dsimp only;omega⟩
   ·have hin:i=x.ls.length:=by
     have:¬i<x.ls.length:=by simpa using h
     omega
    subst hin
    obtain⟨d,hd⟩:∃k,out[x.ls.length]? =some k:=⟨_,List.getElem?_eq_getElem (by omega)⟩
    have hfin:val (out.set x.ls.length carry)=val x.ls+val y.ls:=by
     have h1:(out.set x.ls.length carry)[x.ls.length]? =some carry:=by rw[List.getElem?_set_self (by omega)]
     have h2:=val_take_succ h1
     rw[List.take_of_length_le (by simp;omega),List.take_set_of_le (Nat.le_refl _)]at h2
     rw[List.take_length,List.take_of_length_le hpx]at hv
     omega
    have hlm2:Lm (out.set x.ls.length carry):=hlm1.set (by omega)
    conv=>whnf
    refine⟨⟨by omega,by omega⟩,?_⟩
    conv=>whnf
    refine⟨by rw[U_len];omega,U (out.set x.ls.length carry),U_store out x.ls.length carry (by omega) (by simp),?_⟩
    generalize hgo:out.set x.ls.length carry=fin at hfin hlm2
    have hfl:fin.length=x.ls.length+1:=by rw[←hgo];simp[hol]
    conv=>whnf
    refine callE_free (Φ:=fun ρ _ v w2=>Limbs w2 (fun g=>g=(ρ 0).g) v (trimL fin)) (H':=[]) 0 rfl (by simp) trivial rfl (fun ρ w' r=>r.nn 0 _ rfl (by intros;simp) (by simp)) (fun ρ w' r=>?_) ?_
    ·have hL:=r.ownLimbs (id:=0) rfl hlm2 (by omega)
     rw[hfl]at hL
     exact trimmed_c (fun g hg=>by rw[hg];exact(r.low 0 _ rfl (r.nn 0 _ rfl (by intros;simp) (by simp))).2) hL
    rintro ρ w' v w2 r he hb hL
    replace hw:=hw.tr hb
    have hlow:=r.low 0 _ rfl (r.nn 0 _ rfl (by intros;simp) (by simp))
    generalize (ρ 0).g=g at*
    have hs:=he.size
    clear r he hb
    conv=>whnf
    intro ρ3 w3 r3
    refine⟨_,rfl,hw.tr r3.bel,trimL fin,?_,(trimL_spec fin).2.1,?_⟩
    ·refine(hL.keep fun k hk=>?_).weak fun k hk=>.inr ?_
     ·rw[hk]
      exact r3.nilBy.block g (by omega) (by simp)
     ·rw[hk]
      have:=r3.size
      omega
    ·rw[(trimL_spec fin).1,hfin]
end Go.Ex

/- Difference of natural numbers of package exact. No condition. -/
namespace Go.Ex
open Go Go.Sx Go.Proofs

theorem take_getD{ms:List Nat}{i o:Nat}(ho:ms.getD i 0=o):val (ms.take (i+1))=val (ms.take i)+wt i*o:=by
 cases hm:ms[i]? with
 |some y=>
  have:y=o:=by rw[←ho];simp[List.getD,hm]
  rw[val_take_succ hm,this]
 |none=>
  have:o=0:=by rw[←ho];simp[List.getD,hm]
  rw[this,List.take_add_one,hm]
  simp
theorem minus_step{out ls ms:List Nat}{i x o d e:Nat}(hx:ls[i]? =some x)(ho:ms.getD i 0=o)(hd:out[i]? =some d){b b':Nat}(h:val (out.take i)+val (ms.take i)=val (ls.take i)+wt i*b)(he:e+(o+b)=x+4294967296*b'):
  val ((out.set i e).take (i+1))+val (ms.take (i+1))=val (ls.take (i+1))+wt (i+1)*b':=by
 have hi:=(List.getElem?_eq_some_iff.1 hd).1
 have h1:(out.set i e)[i]? =some e:=by rw[List.getElem?_set_self hi]
 rw[val_take_succ h1,List.take_set_of_le (Nat.le_refl _),val_take_succ hx,take_getD ho,wt_succ]
 have h4:wt i*(e+(o+b))=wt i*(x+4294967296*b'):=by rw[he]
 rw[Nat.mul_add,Nat.mul_add,Nat.mul_add,←Nat.mul_assoc,Nat.mul_comm (wt i) 4294967296]at h4
 omega

theorem minus_c{S:Nat→Prop}{w:World}{v u:Value}{n m:Nat}(hS:Old S w)(hn:NatR w S v n)(hm:NatR w S u m)(hle:m≤n)(hln:ln n≤1000000000000):
  Con PG N.exact_nat_minus #[v,u] w (Ret w fun v' w2=>NatR w2 (Nw (fun _=>False) w w2) v' (n-m)):=by
 obtain⟨x,rfl,hp1,hp2⟩:=hn.la
 obtain⟨y,rfl,hq1,hq2⟩:=hm.la
 have hpl:=length_ln x.lm hp2
 rw[hp1]at hpl
 have hyx:y.ls.length≤x.ls.length:=by
  rw[length_ln x.lm hp2,length_ln y.lm hq2,hp1,hq1]
  exact ln_mono hle
 refine in_exact_nat_minus (by simp) ?_
 conv=>whnf
 refine⟨x.ls.length,x.ls.length,rfl,rfl,Nat.le_refl _,by omega,by omega,?_⟩
 conv=>whnf
 refine⟨Nat×List Nat×Nat×World,fun z=>⟨[(0,.o (.v (.slice x.a x.ls.length x.c))),(1,.o (.v (.slice y.a y.ls.length y.c))),(5,.o (.s 0 0 x.ls.length x.ls.length)),(6,.o (.v (.int .u32 z.2.2.1))),(13,.o (.v (.int .i64 x.ls.length))),(14,.o (.v (.int .i64 z.1)))],
   [(0,.arr T.uint32 (U z.2.1))],1,[],z.2.2.2⟩,fun z=>x.ls.length-z.1,
  fun z=>z.1≤x.ls.length∧Bel w.heap.size w z.2.2.2∧z.2.1.length=x.ls.length∧Lm z.2.1∧z.2.2.1<2∧val (z.2.1.take z.1)+val (y.ls.take z.1)=val (x.ls.take z.1)+wt z.1*z.2.2.1,?_,?_⟩
 ·intro ρ w' r
  rw[U_zero]at r
  exact⟨(0,List.replicate x.ls.length 0,0,w'),⟨by simp,r.bel,by simp,Lm.replicate _,by simp,by simp[val]⟩,Sub.gen [] r ⟨rfl,trivial⟩ ⟨rfl,rfl,rfl,rfl,rfl,rfl,trivial⟩ (by simp[ScH,Blk.scopd]) (by simp[ScE,SV.sc,At.sc]) (by rfl) (by simp)⟩
 ·rintro⟨i,out,b,w1⟩ ⟨hi,hw,hol,hlm1,hc,hv⟩
  dsimp only at hi hw hol hlm1 hc hv ⊢
  conv=>whnf
  refine BrS.mk (fun h=>?_) (fun h=>?_)
  ·have h:i<x.ls.length:=by simpa using h
   obtain⟨xi,hxi⟩:∃k,x.ls[i]? =some k:=⟨_,List.getElem?_eq_getElem h⟩
   obtain⟨d,hd⟩:∃k,out[i]? =some k:=⟨_,List.getElem?_eq_getElem (by omega)⟩
   obtain⟨ad,had,hload⟩:=x.load hS hw hxi
   have hx32:=x.lm.at hxi
   conv=>whnf
   refine BrS.mk (fun h2=>?_) (fun h2=>?_)
   ·have h2:i<y.ls.length:=by simpa using h2
    obtain⟨o,ho⟩:∃k,y.ls[i]? =some k:=⟨_,List.getElem?_eq_getElem h2⟩
    obtain⟨ad2,had2,hload2⟩:=y.load hS hw ho
    have ho32:=y.lm.at ho
    have hget:y.ls.getD i 0=o:=by simp[List.getD,ho]
    conv=>whnf
    refine⟨ad2,had2,⟨by omega,by omega⟩,?_⟩
    conv=>whnf
    refine⟨.int .u32 o,hload2 _ _ _,?_⟩
    conv=>whnf
    refine⟨ad,had,⟨by omega,by omega⟩,?_⟩
    conv=>whnf
    refine⟨.int .u32 xi,hload _ _ _,?_⟩
    conv=>whnf
    refine callE_S (callE_con (Φ:=fun _ _ v _=>v= .tuple #[.int .u32 ((xi+4294967296-(o+b)) % 4294967296:Nat),.int .u32 ((if xi<o+b then 1 else 0:Nat):Int)]) (fun ρ w' r=>sub32_c xi o b w' hx32 ho32 (by omega)) ?_)
    rintro ρ w' v w2 r he hb rfl
    replace hw:=hw.tr hb
    have hst:(xi+4294967296-(o+b)) % 4294967296+(o+b)=xi+4294967296*(if xi<o+b then 1 else 0):=by split<;>omega
    have hlt:(xi+4294967296-(o+b)) % 4294967296<4294967296:=Nat.mod_lt _ (by decide)
    have hb2:(if xi<o+b then 1 else 0:Nat)<2:=by split<;>omega
    generalize (xi+4294967296-(o+b)) % 4294967296=e at hst hlt
    generalize (if xi<o+b then 1 else 0:Nat)=b' at hst hb2
    have hstep:=minus_step hxi hget hd hv hst
    clear r he hb
    conv=>whnf
    refine⟨⟨by omega,by omega⟩,?_⟩
    conv=>whnf
    refine⟨by rw[U_len];omega,U (out.set i e),U_store out i _ (by omega) (by simp),?_⟩
    conv=>whnf
    refine⟨((i+1:Nat):Int),by rw[wrap64]<;>omega,?_⟩
    conv=>whnf
    intro ρ3 w3 r3
    exact⟨(i+1,out.set i e,b',w3),⟨by dsimp only;omega,hw.tr r3.bel,by simp[hol],hlm1.set hlt,hb2,hstep⟩,
     Sub.gen [] r3 ⟨rfl,trivial⟩ ⟨rfl,rfl,rfl,rfl,rfl,rfl,trivial⟩ (by simp[ScH,Blk.scopd]) (by simp[ScE,SV.sc,At.sc]) (by rfl) (by simp),by dsimp only;omega⟩
   ·have h2:¬i<y.ls.length:=by simpa using h2
    have hget:y.ls.getD i 0=0:=by simp[List.getD,List.getElem?_eq_none (show y.ls.length≤i by omega)]
    conv=>whnf
    refine⟨ad,had,⟨by omega,by omega⟩,?_⟩
    conv=>whnf
    refine⟨.int .u32 xi,hload _ _ _,?_⟩
    conv=>whnf
    refine callE_S (callE_con (Φ:=fun _ _ v _=>v= .tuple #[.int .u32 ((xi+4294967296-(0+b)) % 4294967296:Nat),.int .u32 ((if xi<0+b then 1 else 0:Nat):Int)]) (fun ρ w' r=>sub32_c xi 0 b w' hx32 (by decide) (by omega)) ?_)
    rintro ρ w' v w2 r he hb rfl
    replace hw:=hw.tr hb
    have hst:(xi+4294967296-(0+b)) % 4294967296+(0+b)=xi+4294967296*(if xi<0+b then 1 else 0):=by split<;>omega
    have hlt:(xi+4294967296-(0+b)) % 4294967296<4294967296:=Nat.mod_lt _ (by decide)
    have hb2:(if xi<0+b then 1 else 0:Nat)<2:=by split<;>omega
    generalize (xi+4294967296-(0+b)) % 4294967296=e at hst hlt
    generalize (if xi<0+b then 1 else 0:Nat)=b' at hst hb2
    have hstep:=minus_step hxi hget hd hv hst
    clear r he hb
    conv=>whnf
    refine⟨⟨by omega,by omega⟩,?_⟩
    conv=>whnf
    refine⟨by rw[U_len];omega,U (out.set i e),U_store out i _ (by omega) (by simp),?_⟩
    conv=>whnf
    refine⟨((i+1:Nat):Int),by rw[wrap64]<;>omega,?_⟩
    conv=>whnf
    intro ρ3 w3 r3
    exact⟨(i+1,out.set i e,b',w3),⟨by dsimp only;omega,hw.tr r3.bel,by simp[hol],hlm1.set hlt,hb2,hstep⟩,
     Sub.gen [] r3 ⟨rfl,trivial⟩ ⟨rfl,rfl,rfl,rfl,rfl,rfl,trivial⟩ (by simp[ScH,Blk.scopd]) (by simp[ScE,SV.sc,At.sc]) (by rfl) (by simp),by dsimp only;omega⟩
  ·have hin:i=x.ls.length:=by
    have:¬i<x.ls.length:=by simpa using h
    omega
   subst hin
   have hfin:val out=n-m:=by
    rw[List.take_of_length_le (by omega),List.take_of_length_le hyx,List.take_length,hp1,hq1]at hv
    have h1:=val_lt hlm1
    rw[hol]at h1
    have:b=0∨b=1:=by omega
    rcases this with rfl|rfl
    ·omega
    ·omega
   conv=>whnf
   refine callE_free (Φ:=fun ρ _ v w2=>Limbs w2 (fun g=>g=(ρ 0).g) v (trimL out)) (H':=[]) 0 rfl (by simp) trivial rfl (fun ρ w' r=>r.nn 0 _ rfl (by intros;simp) (by simp)) (fun ρ w' r=>?_) ?_
   ·have hL:=r.ownLimbs (id:=0) rfl hlm1 (by omega)
    rw[hol]at hL
    exact trimmed_c (fun g hg=>by rw[hg];exact(r.low 0 _ rfl (r.nn 0 _ rfl (by intros;simp) (by simp))).2) hL
   rintro ρ w' v w2 r he hb hL
   replace hw:=hw.tr hb
   have hlow:=r.low 0 _ rfl (r.nn 0 _ rfl (by intros;simp) (by simp))
   generalize (ρ 0).g=g at*
   have hs:=he.size
   clear r he hb
   conv=>whnf
   intro ρ3 w3 r3
   refine⟨_,rfl,hw.tr r3.bel,trimL out,?_,(trimL_spec out).2.1,?_⟩
   ·refine(hL.keep fun k hk=>?_).weak fun k hk=>.inr ?_
    ·rw[hk]
     exact r3.nilBy.block g (by omega) (by simp)
    ·rw[hk]
     have:=r3.size
     omega
   ·rw[(trimL_spec out).1,hfin]
end Go.Ex
