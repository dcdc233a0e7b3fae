/- A part of the proof: texts L1 to X8. Each tells its conditions in its theorems. -/
import Derived.WalkKit
import Derived.KernelRfl
import Derived.Test.YtkdcaknoaeicdaaGreatProg
import Derived.Test.YtkdcaknoaeicdaaGreatP2
/- Natural numbers in limbs of 32 bits: plain laws. No condition. -/
namespace Go.Ex

/-- the number of a list of limbs, the least first -/
def val:List Nat→Nat
 |[]=>0
 |x::r=>x+4294967296*val r
/-- each limb fits -/
def Lm(ls:List Nat):Prop:=∀x∈ls,x<4294967296
/-- a weight -/
def wt(k:Nat):Nat:=4294967296^k
theorem wt_zero:wt 0=1:=rfl
theorem wt_succ(k:Nat):wt (k+1)=4294967296*wt k:=by rw[wt,Nat.pow_succ,Nat.mul_comm];rfl
theorem wt_add(a b:Nat):wt (a+b)=wt a*wt b:=by rw[wt,Nat.pow_add];rfl
theorem wt_pos(k:Nat):0<wt k:=Nat.pow_pos (by decide)
theorem val_append(a b:List Nat):val (a++b)=val a+wt a.length*val b:=by
 induction a with
 |nil=>simp[val,wt_zero]
 |cons x r ih=>
  rw[List.cons_append,val,val,ih,List.length_cons,wt_succ,Nat.mul_add,Nat.mul_assoc]
  omega
theorem val_lt{ls:List Nat}(h:Lm ls):val ls<wt ls.length:=by
 induction ls with
 |nil=>exact Nat.one_pos
 |cons x r ih=>
  have h1:=h x (by simp)
  have h2:=ih (fun y hy=>h y (by simp[hy]))
  rw[val,List.length_cons,wt_succ]
  have:4294967296*(val r+1)≤4294967296*wt r.length:=Nat.mul_le_mul_left _ h2
  omega
theorem val_take_drop(ls:List Nat)(k:Nat)(h:k≤ls.length):val ls=val (ls.take k)+wt k*val (ls.drop k):=by
 have:=val_append (ls.take k) (ls.drop k)
 rw[List.take_append_drop,List.length_take,Nat.min_eq_left h]at this
 exact this
theorem val_take_succ{ls:List Nat}{k x:Nat}(h:ls[k]? =some x):val (ls.take (k+1))=val (ls.take k)+wt k*x:=by
 have hk:=(List.getElem?_eq_some_iff.1 h).1
 rw[List.take_add_one,h,val_append,List.length_take,Nat.min_eq_left (by omega)]
 simp[val]
theorem val_drop{ls:List Nat}{k x:Nat}(h:ls[k]? =some x):val (ls.drop k)=x+4294967296*val (ls.drop (k+1)):=by
 obtain⟨hk,hx⟩:=List.getElem?_eq_some_iff.1 h
 rw[List.drop_eq_getElem_cons hk,hx,val]
theorem val_set{ls:List Nat}{k o x:Nat}(h:ls[k]? =some o):val (ls.set k x)+wt k*o=val ls+wt k*x:=by
 obtain⟨hk,ho⟩:=List.getElem?_eq_some_iff.1 h
 have h1:=val_take_drop ls k (by omega)
 have h2:=val_take_drop (ls.set k x) k (by simp;omega)
 rw[List.take_set_of_le (Nat.le_refl _)]at h2
 rw[val_drop h,Nat.mul_add]at h1
 have h3:(ls.set k x)[k]? =some x:=by rw[List.getElem?_set_self hk]
 rw[val_drop h3,List.drop_set_of_lt (by omega),Nat.mul_add]at h2
 omega
theorem val_replicate(n:Nat):val (List.replicate n 0)=0:=by
 induction n with
 |zero=>rfl
 |succ n ih=>rw[List.replicate_succ,val,ih]
theorem Lm.set{ls:List Nat}{k x:Nat}(h:Lm ls)(hx:x<4294967296):Lm (ls.set k x):=fun y hy=>by
 rcases List.mem_or_eq_of_mem_set hy with h1|rfl
 ·exact h y h1
 ·exact hx
theorem Lm.replicate(n:Nat):Lm (List.replicate n 0):=fun x hx=>by rw[List.mem_replicate]at hx;omega
theorem Lm.take{ls:List Nat}(h:Lm ls)(k:Nat):Lm (ls.take k):=fun x hx=>h x (List.mem_of_mem_take hx)
theorem Lm.drop{ls:List Nat}(h:Lm ls)(k:Nat):Lm (ls.drop k):=fun x hx=>h x (List.mem_of_mem_drop hx)
theorem Lm.append{a b:List Nat}(ha:Lm a)(hb:Lm b):Lm (a++b):=fun x hx=>by
 rcases List.mem_append.1 hx with h|h
 ·exact ha x h
 ·exact hb x h
theorem Lm.at{ls:List Nat}(h:Lm ls){k x:Nat}(hx:ls[k]? =some x):x<4294967296:=h x (List.mem_of_getElem? hx)

/-- limbs without zeros at the end -/
def trimL:List Nat→List Nat
 |[]=>[]
 |x::r=>match trimL r with
  |[]=>if x=0 then []else [x]
  |y::t=>x::y::t
/-- no zero at the end -/
def Nz(ls:List Nat):Prop:=∀x,ls.getLast? =some x→x≠0
theorem trimL_snoc_zero(ls:List Nat):trimL (ls++[0])=trimL ls:=by
 induction ls with
 |nil=>rfl
 |cons x r ih=>rw[List.cons_append,trimL,ih,trimL]
theorem trimL_snoc(ls:List Nat){x:Nat}(hx:x≠0):trimL (ls++[x])=ls++[x]:=by
 induction ls with
 |nil=>simp[trimL,hx]
 |cons y r ih=>
  rw[List.cons_append,trimL,ih]
  cases r<;>rfl
theorem snoc_cases(ls:List Nat):ls=[]∨∃a x,ls=a++[x]:=by
 rcases List.eq_nil_or_concat ls with h|⟨a,x,h⟩
 ·exact .inl h
 ·exact .inr ⟨a,x,by simpa using h⟩
theorem trimL_spec(ls:List Nat):val (trimL ls)=val ls∧Nz (trimL ls)∧∃k,k≤ls.length∧trimL ls=ls.take k:=by
 have key:∀(n:Nat) (ls:List Nat),ls.length=n→val (trimL ls)=val ls∧Nz (trimL ls)∧∃k,k≤ls.length∧trimL ls=ls.take k:=by
  intro n
  induction n with
  |zero=>intro ls h;have:ls=[]:=List.eq_nil_of_length_eq_zero h;subst this;exact⟨rfl,by simp[Nz,trimL],0,Nat.le_refl _,rfl⟩
  |succ n ih=>
   intro ls h
   rcases snoc_cases ls with rfl|⟨a,x,rfl⟩
   ·simp at h
   ·by_cases hx:x=0
    ·subst hx
     rw[trimL_snoc_zero]
     obtain⟨h1,h2,k,h3,h4⟩:=ih a (by simp at h;omega)
     refine⟨by rw[h1,val_append];simp[val],h2,k,by simp;omega,?_⟩
     rw[h4,List.take_append_of_le_length h3]
    ·rw[trimL_snoc a hx]
     refine⟨rfl,?_,_,Nat.le_refl _,by rw[List.take_length]⟩
     intro y hy
     simp at hy
     subst hy
     exact hx
 exact key _ ls rfl
theorem trimL_of_nz{ls:List Nat}(h:Nz ls):trimL ls=ls:=by
 rcases snoc_cases ls with rfl|⟨a,x,rfl⟩
 ·rfl
 ·exact trimL_snoc a (h x (by simp))
theorem val_pos_of_nz{ls:List Nat}(h:Nz ls)(hne:ls≠[]):wt (ls.length-1)≤val ls:=by
 rcases snoc_cases ls with rfl|⟨a,x,rfl⟩
 ·exact absurd rfl hne
 ·have hx:=h x (by simp)
  rw[val_append]
  simp only[val,List.length_append,List.length_singleton,Nat.add_sub_cancel]
  have:wt a.length*1≤wt a.length*(x+4294967296*0):=Nat.mul_le_mul_left _ (by omega)
  omega
theorem val_inj:∀{a b:List Nat},Lm a→Lm b→a.length=b.length→val a=val b→a=b
 |[],[],_,_,_,_=>rfl
 |x::r,y::s,ha,hb,hl,h=>by
  have h1:=ha x (by simp)
  have h2:=hb y (by simp)
  rw[val,val]at h
  have h3:x=y:=by omega
  have h4:val r=val s:=by omega
  rw[h3,val_inj (fun z hz=>ha z (by simp[hz])) (fun z hz=>hb z (by simp[hz])) (by simpa using hl) h4]
 |[],_::_,_,_,h,_=>by simp at h
 |_::_,[],_,_,h,_=>by simp at h
theorem wt_le{a b:Nat}(h:a≤b):wt a≤wt b:=Nat.pow_le_pow_right (by decide) h
/-- longer is greater -/
theorem val_lt_of_length{a b:List Nat}(ha:Lm a)(hb:Nz b)(h:a.length<b.length):val a<val b:=by
 have h1:=val_lt ha
 have h2:=val_pos_of_nz hb (by intro e;rw[e]at h;simp at h)
 have:=wt_le (show a.length≤b.length-1 by omega)
 omega
/-- how many limbs a number has -/
def ln(n:Nat):Nat:=if n=0 then 0 else n.log2 / 32+1
theorem wt_two(k:Nat):wt k=2^(32*k):=by rw[wt,show(4294967296:Nat)=2^32 from rfl,←Nat.pow_mul]
theorem ln_le{n k:Nat}:ln n≤k↔n<wt k:=by
 unfold ln
 by_cases h:n=0
 ·rw[if_pos h,h]
  exact⟨fun _=>wt_pos k,fun _=>Nat.zero_le _⟩
 ·rw[if_neg h,wt_two]
  constructor
  ·intro h1
   have:n.log2<32*k:=by omega
   exact(Nat.log2_lt h).1 this
  ·intro h1
   have:=(Nat.log2_lt h).2 h1
   omega
theorem lt_wt_ln(n:Nat):n<wt (ln n):=ln_le.1 (Nat.le_refl _)
theorem ln_mono{a b:Nat}(h:a≤b):ln a≤ln b:=ln_le.2 (Nat.lt_of_le_of_lt h (lt_wt_ln b))
theorem ln_add(a b:Nat):ln (a+b)≤max (ln a) (ln b)+1:=by
 rw[ln_le,wt_succ]
 have h1:=Nat.lt_of_lt_of_le (lt_wt_ln a) (wt_le (Nat.le_max_left (ln a) (ln b)))
 have h2:=Nat.lt_of_lt_of_le (lt_wt_ln b) (wt_le (Nat.le_max_right (ln a) (ln b)))
 omega
theorem ln_mul(a b:Nat):ln (a*b)≤ln a+ln b:=by
 rw[ln_le,wt_add]
 exact Nat.mul_lt_mul'' (lt_wt_ln a) (lt_wt_ln b)
theorem ln_zero:ln 0=0:=rfl
/-- the number of limbs that are in order -/
theorem length_ln{ls:List Nat}(h:Lm ls)(hz:Nz ls):ls.length=ln (val ls):=by
 by_cases hne:ls=[]
 ·subst hne;rfl
 ·have h1:=val_lt h
  have h2:=val_pos_of_nz hz hne
  have h3:=ln_le.2 h1
  have h4:¬ln (val ls)≤ls.length-1:=fun hh=>by have:=ln_le.1 hh;omega
  omega
end Go.Ex

/- Readings of lists of limbs that persist; where blocks lie. No condition. -/
namespace Go.Ex
open Go Go.Sx

/-- a block is one of those that are told (S), or lies in an interval of what calls have made -/
def Cv(S:Nat→Prop)(B:Nat)(iv:Iv)(g:Nat):Prop:=S g∨(B≤g∧∃lo hi,(lo,hi)∈iv∧lo≤g∧g<hi)
/-- .. or is new -/
def Nw(S:Nat→Prop)(w w2:World)(g:Nat):Prop:=S g∨(w.heap.size≤g∧g<w2.heap.size)
/-- blocks that were there -/
def Old(S:Nat→Prop)(w:World):Prop:=∀g,S g→g<w.heap.size
section
variable{S S':Nat→Prop}{H:Hp}{nx:Nat}{iv iv':Iv}{B:Nat}{w w' w2:World}{ρ:Nat→Val}
theorem Cv.mono{g:Nat}(h:Cv S B iv g)(k:∀p,p∈iv→p∈iv'):Cv S B iv' g:=by
 rcases h with h|⟨h0,lo,hi,h1,h2⟩
 ·exact .inl h
 ·exact .inr ⟨h0,lo,hi,k _ h1,h2⟩
theorem Cv.cons{g:Nat}{p:Nat×Nat}(h:Cv S B iv g):Cv S B (p::iv) g:=h.mono fun q hq=>by simp[hq]
/-- seen from a call: all that is told lies below the heap's end -/
theorem Rel.old(r:Rel H nx iv B w ρ w')(hS:∀g,S g→g<B):Old (Cv S B iv) w':=by
 intro g h
 rcases h with h|⟨_,lo,hi,h1,_,h3⟩
 ·have:=hS g h;have:=r.base;have:=r.size;omega
 ·have:=r.ivs lo hi h1;have:=r.size;omega
/-- what is told is no block of one's own, and as it was -/
theorem Rel.same(r:Rel H nx iv B w ρ w')(hS:∀g,S g→g<B){g:Nat}(h:Cv S B iv g):w'.heap[g]? =w.heap[g]? :=by
 rcases h with h|⟨_,lo,hi,h1,h2,h3⟩
 ·have:=hS g h
  exact r.frm g (by have:=r.base;omega) fun id b hb hn he=>by have:=(r.low id b hb hn).1;omega
 ·exact r.frm g (by have:=r.ivs lo hi h1;omega) fun id b hb hn he=>r.prot lo hi h1 id b hb hn ⟨by omega,by omega⟩
theorem Rel.not(r:Rel H nx iv B w ρ w')(hS:∀g,S g→g<B){g:Nat}(h:Cv S B iv g):∀id b,getH H id=some b→(ρ id).nil=false→(ρ id).g≠g:=by
 rcases h with h|⟨_,lo,hi,h1,h2,h3⟩
 ·have:=hS g h
  exact fun id b hb hn he=>by have:=(r.low id b hb hn).1;omega
 ·exact fun id b hb hn he=>r.prot lo hi h1 id b hb hn ⟨by omega,by omega⟩
/-- what a call hands back, seen by the caller -/
theorem Nw.cv{w1:World}{g:Nat}(h:Nw (Cv S B iv) w' w1 g)(hB:B≤w'.heap.size):Cv S B ((w'.heap.size,w1.heap.size)::iv) g:=by
 rcases h with h|h
 ·exact h.cons
 ·exact .inr ⟨by omega,_,_,List.mem_cons_self,h.1,h.2⟩
/-- what is handed back, seen by whoever calls -/
theorem Cv.nw{w0:World}{g:Nat}(h:Cv S w0.heap.size iv g)(r:Rel H nx iv w0.heap.size w ρ w'):Nw S w0 w' g:=by
 rcases h with h|⟨h0,lo,hi,h1,_,h3⟩
 ·exact .inl h
 ·exact .inr ⟨h0,by have:=r.ivs lo hi h1;have:=r.size;omega⟩
/-- a list of limbs is read -/
structure Limbs(w:World)(S:Nat→Prop)(v:Value)(ls:List Nat):Prop where
 lm:Lm ls
 le:ls.length≤9223372036854775807
 sl:∃a c,v= .slice a ls.length c∧ls.length≤c∧∀(j:Nat) x,ls[j]? =some x→∃ad,a=some ad∧S ad.block∧w.cell? (ad.add j)=some (.int .u32 x)
theorem addB(ad:Addr)(j:Nat):(ad.add j).block=ad.block:=by
 unfold Addr.add
 split<;>rfl
theorem Limbs.keep{v:Value}{ls:List Nat}(h:Limbs w S v ls)(hk:∀g,S g→w2.heap[g]? =w.heap[g]?):Limbs w2 S v ls:=by
 obtain⟨a,c,h1,hlc,h2⟩:=h.sl
 refine⟨h.lm,h.le,a,c,h1,hlc,fun j x hx=>?_⟩
 obtain⟨ad,h3,h4,h5⟩:=h2 j x hx
 exact⟨ad,h3,h4,by rw[cell_of_heap (hk _ (by rw[addB];exact h4))];exact h5⟩
theorem Limbs.weak{v:Value}{ls:List Nat}(h:Limbs w S v ls)(hk:∀g,S g→S' g):Limbs w S' v ls:=by
 obtain⟨a,c,h1,hlc,h2⟩:=h.sl
 refine⟨h.lm,h.le,a,c,h1,hlc,fun j x hx=>?_⟩
 obtain⟨ad,h3,h4,h5⟩:=h2 j x hx
 exact⟨ad,h3,hk _ h4,h5⟩
theorem Limbs.rel{v:Value}{ls:List Nat}(h:Limbs w (Cv S B iv) v ls)(r:Rel H nx iv B w ρ w')(hS:∀g,S g→g<B):Limbs w' (Cv S B iv) v ls:=h.keep fun _g hg=>Rel.same r hS hg
theorem Limbs.nil(w:World)(S:Nat→Prop):Limbs w S (.slice none 0 0) []:=⟨by simp[Lm],by simp,none,0,rfl,Nat.le_refl _,by simp⟩

/-- a natural number: its limbs, without zeros at the end -/
def NatR(w:World)(S:Nat→Prop)(v:Value)(n:Nat):Prop:=∃ls,Limbs w S v ls∧Nz ls∧val ls=n
theorem NatR.keep{v:Value}{n:Nat}(h:NatR w S v n)(hk:∀g,S g→w2.heap[g]? =w.heap[g]?):NatR w2 S v n:=by
 obtain⟨ls,h1,h2,h3⟩:=h;exact⟨ls,h1.keep hk,h2,h3⟩
theorem NatR.weak{v:Value}{n:Nat}(h:NatR w S v n)(hk:∀g,S g→S' g):NatR w S' v n:=by
 obtain⟨ls,h1,h2,h3⟩:=h;exact⟨ls,h1.weak hk,h2,h3⟩
theorem NatR.nil(w:World)(S:Nat→Prop):NatR w S (.slice none 0 0) 0:=⟨[],Limbs.nil w S,by simp[Nz],rfl⟩
end
end Go.Ex

/- The base of the proofs of a seat: the types, the functions by name, how each is entered. No condition. Written by program. -/
namespace Go.Ex
open Go Go.Sx Go.Proofs

noncomputable abbrev PG:Program:=Tryz.prog
def slT(e:Nat):TI:={size:=1,bytes:=24,zero:=[.slice none 0 0],agg:=false,tag:=4,elem:=e}
def tabl:List (Nat×TI):=[
 (3,{size:=1,bytes:=8,zero:=[.int .i64 0],agg:=false,tag:=1,ik:=.i64}),
 (4,{size:=1,bytes:=1,zero:=[.bool false],agg:=false,tag:=2}),
 (47,{size:=4,bytes:=64,zero:=[.bool false,.slice none 0 0,.bool false,.slice none 0 0],agg:=true,tag:=5,fields:=[(0,45),(2,45)]}),
 (31,slT 47),
 (26,{size:=3,bytes:=72,zero:=[.slice none 0 0,.slice none 0 0,.slice none 0 0],agg:=true,tag:=5,fields:=[(0,22),(1,23),(2,24)]}),
 (32,{size:=1,bytes:=8,zero:=[.int .i64 0],agg:=false,tag:=1,ik:=.i64}),
 (92,slT 3),
 (45,{size:=2,bytes:=32,zero:=[.bool false,.slice none 0 0],agg:=true,tag:=5,fields:=[(0,4),(1,43)]}),
 (226,slT 220),
 (53,slT 31),
 (220,{size:=1,bytes:=4,zero:=[.int .u32 0],agg:=false,tag:=1,ik:=.u32}),
 (27,slT 147),
 (228,{size:=2,bytes:=32,zero:=[.bool false,.slice none 0 0],agg:=true,tag:=5,fields:=[(0,4),(1,226)]}),
 (253,{size:=1,bytes:=8,zero:=[.int .u64 0],agg:=false,tag:=1,ik:=.u64}),
 (151,{size:=2,bytes:=32,zero:=[.slice none 0 0,.int .i64 0],agg:=true,tag:=5,fields:=[(0,53),(1,3)]}),
 (79,slT 84),
 (230,{size:=4,bytes:=64,zero:=[.bool false,.slice none 0 0,.bool false,.slice none 0 0],agg:=true,tag:=5,fields:=[(0,228),(2,228)]}),
 (23,slT 143),
 (98,slT 123),
 (147,{size:=4,bytes:=32,zero:=[.int .i64 0,.int .i64 0,.int .i64 0,.int .i64 0],agg:=true,tag:=5,fields:=[(0,3),(1,3),(2,3),(3,3)]}),
 (91,slT 27),
 (22,slT 169),
 (64,slT 92),
 (24,slT 145),
 (43,slT 220),
 (169,{size:=3,bytes:=24,zero:=[.int .i64 0,.int .i64 0,.int .i64 0],agg:=true,tag:=5,fields:=[(0,3),(1,3),(2,3)]}),
 (143,{size:=6,bytes:=80,zero:=[.int .i64 0,.int .i64 0,.bool false,.slice none 0 0,.bool false,.slice none 0 0],agg:=true,tag:=5,fields:=[(0,3),(1,3),(2,47)]}),
 (123,{size:=8,bytes:=128,zero:=[.bool false,.slice none 0 0,.bool false,.slice none 0 0,.bool false,.slice none 0 0,.bool false,.slice none 0 0],agg:=true,tag:=5,fields:=[(0,47),(4,47)]}),
 (84,{size:=8,bytes:=128,zero:=[.bool false,.slice none 0 0,.bool false,.slice none 0 0,.bool false,.slice none 0 0,.bool false,.slice none 0 0],agg:=true,tag:=5,fields:=[(0,47),(4,47)]}),
 (154,{size:=4,bytes:=80,zero:=[.slice none 0 0,.int .i64 0,.slice none 0 0,.slice none 0 0],agg:=true,tag:=5,fields:=[(0,151),(2,92),(3,92)]}),
 (68,{size:=3,bytes:=24,zero:=[.int .i64 0,.int .i64 0,.int .i64 0],agg:=true,tag:=5,fields:=[(0,3),(1,3),(2,3)]}),
 (145,{size:=6,bytes:=80,zero:=[.int .i64 0,.int .i64 0,.bool false,.slice none 0 0,.bool false,.slice none 0 0],agg:=true,tag:=5,fields:=[(0,3),(1,3),(2,47)]}),
 (189,{size:=3,bytes:=24,zero:=[.int .i64 0,.int .i64 0,.int .i64 0],agg:=true,tag:=6,alen:=3,elem:=3}),
 (125,{size:=10,bytes:=176,zero:=[.bool false,.slice none 0 0,.bool false,.slice none 0 0,.bool false,.slice none 0 0,.bool false,.slice none 0 0,.slice none 0 0,.slice none 0 0],agg:=true,tag:=5,fields:=[(0,123),(8,92),(9,92)]}),
 (115,slT 125),
 (106,{size:=3,bytes:=56,zero:=[.int .i64 0,.slice none 0 0,.slice none 0 0],agg:=true,tag:=5,fields:=[(0,3),(1,31),(2,31)]}),
 (254,{size:=1,bytes:=8,zero:=[.int .u64 0],agg:=false,tag:=1,ik:=.u64}),
 (187,{size:=2,bytes:=16,zero:=[.int .i64 0,.int .i64 0],agg:=true,tag:=5,fields:=[(0,3),(1,3)]}),
 (185,{size:=1,bytes:=8,zero:=[.map none],agg:=false,tag:=0}),
 (87,{size:=2,bytes:=48,zero:=[.slice none 0 0,.slice none 0 0],agg:=true,tag:=6,alen:=2,elem:=27}),
 (130,{size:=2,bytes:=48,zero:=[.slice none 0 0,.slice none 0 0],agg:=true,tag:=5,fields:=[(0,92),(1,79)]}),
 (9,{size:=1,bytes:=16,zero:=[.string ⟨#[]⟩],agg:=false,tag:=3}),
 (204,{size:=1,bytes:=8,zero:=[.pointer none],agg:=false,tag:=7}),
 (224,slT 4),
 (88,{size:=2,bytes:=16,zero:=[.int .i64 0,.int .i64 0],agg:=true,tag:=6,alen:=2,elem:=3}),
 (194,{size:=80,bytes:=640,zero:=[.int .i64 0,.int .i64 0,.int .i64 0,.int .i64 0,.int .i64 0,.int .i64 0,.int .i64 0,.int .i64 0,.int .i64 0,.int .i64 0,.int .i64 0,.int .i64 0,.int .i64 0,.int .i64 0,.int .i64 0,.int .i64 0,.int .i64 0,.int .i64 0,.int .i64 0,.int .i64 0,.int .i64 0,.int .i64 0,.int .i64 0,.int .i64 0,.int .i64 0,.int .i64 0,.int .i64 0,.int .i64 0,.int .i64 0,.int .i64 0,.int .i64 0,.int .i64 0,.int .i64 0,.int .i64 0,.int .i64 0,.int .i64 0,.int .i64 0,.int .i64 0,.int .i64 0,.int .i64 0,.int .i64 0,.int .i64 0,.int .i64 0,.int .i64 0,.int .i64 0,.int .i64 0,.int .i64 0,.int .i64 0,.int .i64 0,.int .i64 0,.int .i64 0,.int .i64 0,.int .i64 0,.int .i64 0,.int .i64 0,.int .i64 0,.int .i64 0,.int .i64 0,.int .i64 0,.int .i64 0,.int .i64 0,.int .i64 0,.int .i64 0,.int .i64 0,.int .i64 0,.int .i64 0,.int .i64 0,.int .i64 0,.int .i64 0,.int .i64 0,.int .i64 0,.int .i64 0,.int .i64 0,.int .i64 0,.int .i64 0,.int .i64 0,.int .i64 0,.int .i64 0,.int .i64 0,.int .i64 0],agg:=true,tag:=6,alen:=20,elem:=147}),
 (42,{size:=1,bytes:=8,zero:=[.nilFunc],agg:=false,tag:=0}),
 (195,{size:=1,bytes:=8,zero:=[.pointer none],agg:=false,tag:=7}),
 (199,{size:=1,bytes:=8,zero:=[.nilFunc],agg:=false,tag:=0}),
 (5,{size:=1,bytes:=1,zero:=[.int .u8 0],agg:=false,tag:=1,ik:=.u8}),
 (8,{size:=4,bytes:=24,zero:=[.int .i64 0,.int .i64 0,.bool false,.int .u8 0],agg:=true,tag:=5,fields:=[(0,2),(1,3),(2,4),(3,6)]}),
 (10,{size:=1,bytes:=16,zero:=[.string ⟨#[]⟩],agg:=false,tag:=3}),
 (11,{size:=1,bytes:=16,zero:=[.string ⟨#[]⟩],agg:=false,tag:=3}),
 (14,{size:=2,bytes:=24,zero:=[.string ⟨#[]⟩,.int .u64 0],agg:=true,tag:=5,fields:=[(0,9),(1,12)]}),
 (15,{size:=1,bytes:=8,zero:=[.pointer none],agg:=false,tag:=7}),
 (16,{size:=1,bytes:=8,zero:=[.pointer none],agg:=false,tag:=7}),
 (19,{size:=1,bytes:=8,zero:=[.pointer none],agg:=true,tag:=5,fields:=[(0,17)]}),
 (17,{size:=1,bytes:=8,zero:=[.pointer none],agg:=false,tag:=7}),
 (276,{size:=1,bytes:=1,zero:=[.int .u8 0],agg:=false,tag:=1,ik:=.u8}),
 (2,{size:=1,bytes:=8,zero:=[.int .i64 0],agg:=false,tag:=1,ik:=.i64}),
 (6,{size:=1,bytes:=1,zero:=[.int .u8 0],agg:=false,tag:=1,ik:=.u8}),
 (12,{size:=1,bytes:=8,zero:=[.int .u64 0],agg:=false,tag:=1,ik:=.u64})]
def τ:Tab:=tabLook tabl
theorem hτ:TabOK PG τ:=tab_of (l:=tabl) (by kernel_rfl)
theorem hmix:PG.follows .mixedOrders=true:=by rfl
noncomputable def bd (f:Func):Code:=match f.body with
 |some c=>c
 |none=>.skip
theorem in_f{f:FuncId}{fn:Func}{args:Array Value}{w:World}{R:Ending→World→Prop}(hf:PG.funcs[f]? =some fn)(hb:fn.body=some (bd fn))(hnm:(fn.name== "runtime.NumGoroutine")=false)
  (hn:args.size≤fn.ntmps) (hok:codeOk fn.ntmps (bd fn)=true) (h:sxCode PG τ w.heap.size (bd fn) (initE 0 args.toList) [] 0 [] w (retK τ w.heap.size fn.results.toList R)):Con PG f args w R:=
 ⟨enters_of hf hb hnm,calls_of_sx hτ hf hb hn hok h⟩
abbrev T.int:Nat:=3
abbrev T.bool:Nat:=4
abbrev T.string:Nat:=9
abbrev T.Frame:Nat:=26
abbrev T.LRat:Nat:=31
abbrev T.Int:Nat:=45
abbrev T.Rat:Nat:=47
abbrev T.Counting:Nat:=68
abbrev T.Lint:Nat:=92
abbrev T.Bar:Nat:=143
abbrev T.Support:Nat:=145
abbrev T.Load:Nat:=147
abbrev T.s_table:Nat:=151
abbrev T.s_echelon:Nat:=154
abbrev T.Node:Nat:=169
abbrev T.map_s_ends_bool:Nat:=185
abbrev T.s_ends:Nat:=187
abbrev T.uint32:Nat:=220
abbrev T.nat:Nat:=226
abbrev T.number:Nat:=228
abbrev T.fraction:Nat:=230
abbrev T.row:Nat:=0
abbrev N.law05_StaticsGathers:Nat:=9
abbrev N.law05_awake:Nat:=17
abbrev N.statics_Displace:Nat:=18
abbrev N.ref01_SameList:Nat:=21
abbrev N.statics_Forces:Nat:=22
abbrev N.ref01_Same:Nat:=26
abbrev N.ref01_Whole:Nat:=31
abbrev N.statics_Count:Nat:=39
abbrev N.statics_Check:Nat:=42
abbrev N.statics_CheckLoads:Nat:=43
abbrev N.statics_Gather:Nat:=53
abbrev N.ref05_Gather:Nat:=54
abbrev N.ref05_SameLoads:Nat:=55
abbrev N.base_Within:Nat:=69
abbrev N.statics_Limit:Nat:=72
abbrev N.ref01_Over:Nat:=75
abbrev N.ref01_Of:Nat:=76
abbrev N.law05_Bracket:Nat:=80
abbrev N.ref01_Ratio:Nat:=81
abbrev N.law05_wholes:Nat:=82
abbrev N.statics_tableOf:Nat:=83
abbrev N.statics_table_reduce:Nat:=84
abbrev N.statics_forces:Nat:=85
abbrev N.statics_vector:Nat:=86
abbrev N.statics_table_transposed:Nat:=87
abbrev N.statics_table_solve:Nat:=88
abbrev N.statics_scaled:Nat:=89
abbrev N.statics_each:Nat:=90
abbrev N.statics_flexes:Nat:=91
abbrev N.statics_whole:Nat:=92
abbrev N.statics_quo:Nat:=98
abbrev N.ref01_SameInt:Nat:=101
abbrev N.ref05_within:Nat:=103
abbrev N.ref01_Sign:Nat:=108
abbrev N.ref01_lowest:Nat:=110
abbrev N.ref01_Sum:Nat:=111
abbrev N.ref01_Prod:Nat:=112
abbrev N.statics_matrix:Nat:=113
abbrev N.statics_table_kernel:Nat:=114
abbrev N.statics_inSize:Nat:=115
abbrev N.slices_Contains_of_api_Node_api_Node_of:Nat:=116
abbrev N.statics_has:Nat:=117
abbrev N.exact_Cmp:Nat:=118
abbrev N.statics_checkLoads:Nat:=119
abbrev N.statics_zero:Nat:=132
abbrev N.statics_goodStrength:Nat:=140
abbrev N.statics_limit:Nat:=141
abbrev N.ref01_CmpInt:Nat:=142
abbrev N.ref01_short:Nat:=143
abbrev N.ref01_Common:Nat:=144
abbrev N.ref01_Minus:Nat:=145
abbrev N.ref01_Divide:Nat:=146
abbrev N.ref01_settled:Nat:=147
abbrev N.statics_difference:Nat:=148
abbrev N.statics_neg:Nat:=149
abbrev N.exact_Mul:Nat:=150
abbrev N.statics_take:Nat:=153
abbrev N.statics_zeros:Nat:=154
abbrev N.exact_Whole:Nat:=155
abbrev N.exact_Quo:Nat:=159
abbrev N.ref01_columns:Nat:=161
abbrev N.ref01_at:Nat:=162
abbrev N.slices_Index_of_api_Node_api_Node_of:Nat:=163
abbrev N.exact_value:Nat:=164
abbrev N.exact_fraction_cmp:Nat:=165
abbrev N.statics_checkLoad:Nat:=166
abbrev N.exact_Sub:Nat:=168
abbrev N.exact_fraction_plus:Nat:=174
abbrev N.exact_fraction_give:Nat:=175
abbrev N.exact_Ratio:Nat:=176
abbrev N.statics_root:Nat:=177
abbrev N.ref01_Diff:Nat:=178
abbrev N.ref01_Size:Nat:=179
abbrev N.ref01_Int:Nat:=180
abbrev N.ref01_carried:Nat:=181
abbrev N.ref01_packed:Nat:=182
abbrev N.ref01_spread:Nat:=183
abbrev N.exact_fraction_times:Nat:=184
abbrev N.exact_whole:Nat:=185
abbrev N.exact_fraction_sign:Nat:=186
abbrev N.exact_fraction_by:Nat:=187
abbrev N.exact_of:Nat:=188
abbrev N.exact_number_sign:Nat:=189
abbrev N.exact_small:Nat:=190
abbrev N.exact_over:Nat:=191
abbrev N.exact_number_times:Nat:=192
abbrev N.exact_number_cmp:Nat:=193
abbrev N.exact_fraction_minus:Nat:=194
abbrev N.exact_number_plus:Nat:=195
abbrev N.exact_number_give:Nat:=196
abbrev N.exact_nat_trimmed:Nat:=197
abbrev N.exact_number_minus:Nat:=198
abbrev N.exact_common:Nat:=199
abbrev N.exact_nat_divide:Nat:=200
abbrev N.exact_nat_times:Nat:=201
abbrev N.exact_nat_plus:Nat:=202
abbrev N.exact_nat_cmp:Nat:=203
abbrev N.exact_nat_minus:Nat:=204
abbrev N.slices_Clone_of_exact_nat_uint32_of:Nat:=205
abbrev N.exact_nat_short:Nat:=206
abbrev N.bits_LeadingZeros32:Nat:=207
abbrev N.exact_nat_shifted:Nat:=208
abbrev N.exact_nat_digit:Nat:=209
abbrev N.exact_nat_back:Nat:=210
abbrev N.bits_Add32:Nat:=211
abbrev N.bits_Sub32:Nat:=212
abbrev N.bits_Len32:Nat:=213
abbrev N.exact_nat_take:Nat:=214
abbrev Ent(g:Nat)(f:Func):Prop:=∀{args:Array Value} {w:World} {R:Ending→World→Prop},args.size≤f.ntmps→sxCode PG τ w.heap.size (bd f) (initE 0 args.toList) [] 0 [] w (retK τ w.heap.size f.results.toList R)→Con PG g args w R
theorem in_law05_StaticsGathers:Ent N.law05_StaticsGathers Tryz.f9:=fun hn h=>in_f Tryz.func9 (by rfl) (by rfl) hn (by rfl) h
theorem in_law05_awake:Ent N.law05_awake Tryz.f17:=fun hn h=>in_f Tryz.func17 (by rfl) (by rfl) hn (by rfl) h
theorem in_statics_Displace:Ent N.statics_Displace Tryz.f18:=fun hn h=>in_f Tryz.func18 (by rfl) (by rfl) hn (by rfl) h
theorem in_ref01_SameList:Ent N.ref01_SameList Tryz.f21:=fun hn h=>in_f Tryz.func21 (by rfl) (by rfl) hn (by rfl) h
theorem in_statics_Forces:Ent N.statics_Forces Tryz.f22:=fun hn h=>in_f Tryz.func22 (by rfl) (by rfl) hn (by rfl) h
theorem in_ref01_Same:Ent N.ref01_Same Tryz.f26:=fun hn h=>in_f Tryz.func26 (by rfl) (by rfl) hn (by rfl) h
theorem in_ref01_Whole:Ent N.ref01_Whole Tryz.f31:=fun hn h=>in_f Tryz.func31 (by rfl) (by rfl) hn (by rfl) h
theorem in_statics_Count:Ent N.statics_Count Tryz.f39:=fun hn h=>in_f Tryz.func39 (by rfl) (by rfl) hn (by rfl) h
theorem in_statics_Check:Ent N.statics_Check Tryz.f42:=fun hn h=>in_f Tryz.func42 (by rfl) (by rfl) hn (by rfl) h
theorem in_statics_CheckLoads:Ent N.statics_CheckLoads Tryz.f43:=fun hn h=>in_f Tryz.func43 (by rfl) (by rfl) hn (by rfl) h
theorem in_statics_Gather:Ent N.statics_Gather Tryz.f53:=fun hn h=>in_f Tryz.func53 (by rfl) (by rfl) hn (by rfl) h
theorem in_ref05_Gather:Ent N.ref05_Gather Tryz.f54:=fun hn h=>in_f Tryz.func54 (by rfl) (by rfl) hn (by rfl) h
theorem in_ref05_SameLoads:Ent N.ref05_SameLoads Tryz.f55:=fun hn h=>in_f Tryz.func55 (by rfl) (by rfl) hn (by rfl) h
theorem in_base_Within:Ent N.base_Within Tryz.f69:=fun hn h=>in_f Tryz.func69 (by rfl) (by rfl) hn (by rfl) h
theorem in_statics_Limit:Ent N.statics_Limit Tryz.f72:=fun hn h=>in_f Tryz.func72 (by rfl) (by rfl) hn (by rfl) h
theorem in_ref01_Over:Ent N.ref01_Over Tryz.f75:=fun hn h=>in_f Tryz.func75 (by rfl) (by rfl) hn (by rfl) h
theorem in_ref01_Of:Ent N.ref01_Of Tryz.f76:=fun hn h=>in_f Tryz.func76 (by rfl) (by rfl) hn (by rfl) h
theorem in_law05_Bracket:Ent N.law05_Bracket Tryz.f80:=fun hn h=>in_f Tryz.func80 (by rfl) (by rfl) hn (by rfl) h
theorem in_ref01_Ratio:Ent N.ref01_Ratio Tryz.f81:=fun hn h=>in_f Tryz.func81 (by rfl) (by rfl) hn (by rfl) h
theorem in_law05_wholes:Ent N.law05_wholes Tryz.f82:=fun hn h=>in_f Tryz.func82 (by rfl) (by rfl) hn (by rfl) h
theorem in_statics_tableOf:Ent N.statics_tableOf Tryz.f83:=fun hn h=>in_f Tryz.func83 (by rfl) (by rfl) hn (by rfl) h
theorem in_statics_table_reduce:Ent N.statics_table_reduce Tryz.f84:=fun hn h=>in_f Tryz.func84 (by rfl) (by rfl) hn (by rfl) h
theorem in_statics_forces:Ent N.statics_forces Tryz.f85:=fun hn h=>in_f Tryz.func85 (by rfl) (by rfl) hn (by rfl) h
theorem in_statics_vector:Ent N.statics_vector Tryz.f86:=fun hn h=>in_f Tryz.func86 (by rfl) (by rfl) hn (by rfl) h
theorem in_statics_table_transposed:Ent N.statics_table_transposed Tryz.f87:=fun hn h=>in_f Tryz.func87 (by rfl) (by rfl) hn (by rfl) h
theorem in_statics_table_solve:Ent N.statics_table_solve Tryz.f88:=fun hn h=>in_f Tryz.func88 (by rfl) (by rfl) hn (by rfl) h
theorem in_statics_scaled:Ent N.statics_scaled Tryz.f89:=fun hn h=>in_f Tryz.func89 (by rfl) (by rfl) hn (by rfl) h
theorem in_statics_each:Ent N.statics_each Tryz.f90:=fun hn h=>in_f Tryz.func90 (by rfl) (by rfl) hn (by rfl) h
theorem in_statics_flexes:Ent N.statics_flexes Tryz.f91:=fun hn h=>in_f Tryz.func91 (by rfl) (by rfl) hn (by rfl) h
theorem in_statics_whole:Ent N.statics_whole Tryz.f92:=fun hn h=>in_f Tryz.func92 (by rfl) (by rfl) hn (by rfl) h
theorem in_statics_quo:Ent N.statics_quo Tryz.f98:=fun hn h=>in_f Tryz.func98 (by rfl) (by rfl) hn (by rfl) h
theorem in_ref01_SameInt:Ent N.ref01_SameInt Tryz.f101:=fun hn h=>in_f Tryz.func101 (by rfl) (by rfl) hn (by rfl) h
theorem in_ref05_within:Ent N.ref05_within Tryz.f103:=fun hn h=>in_f Tryz.func103 (by rfl) (by rfl) hn (by rfl) h
theorem in_ref01_Sign:Ent N.ref01_Sign Tryz.f108:=fun hn h=>in_f Tryz.func108 (by rfl) (by rfl) hn (by rfl) h
theorem in_ref01_lowest:Ent N.ref01_lowest Tryz.f110:=fun hn h=>in_f Tryz.func110 (by rfl) (by rfl) hn (by rfl) h
theorem in_ref01_Sum:Ent N.ref01_Sum Tryz.f111:=fun hn h=>in_f Tryz.func111 (by rfl) (by rfl) hn (by rfl) h
theorem in_ref01_Prod:Ent N.ref01_Prod Tryz.f112:=fun hn h=>in_f Tryz.func112 (by rfl) (by rfl) hn (by rfl) h
theorem in_statics_matrix:Ent N.statics_matrix Tryz.f113:=fun hn h=>in_f Tryz.func113 (by rfl) (by rfl) hn (by rfl) h
theorem in_statics_table_kernel:Ent N.statics_table_kernel Tryz.f114:=fun hn h=>in_f Tryz.func114 (by rfl) (by rfl) hn (by rfl) h
theorem in_statics_inSize:Ent N.statics_inSize Tryz.f115:=fun hn h=>in_f Tryz.func115 (by rfl) (by rfl) hn (by rfl) h
theorem in_slices_Contains_of_api_Node_api_Node_of:Ent N.slices_Contains_of_api_Node_api_Node_of Tryz.f116:=fun hn h=>in_f Tryz.func116 (by rfl) (by rfl) hn (by rfl) h
theorem in_statics_has:Ent N.statics_has Tryz.f117:=fun hn h=>in_f Tryz.func117 (by rfl) (by rfl) hn (by rfl) h
theorem in_exact_Cmp:Ent N.exact_Cmp Tryz.f118:=fun hn h=>in_f Tryz.func118 (by rfl) (by rfl) hn (by rfl) h
theorem in_statics_checkLoads:Ent N.statics_checkLoads Tryz.f119:=fun hn h=>in_f Tryz.func119 (by rfl) (by rfl) hn (by rfl) h
theorem in_statics_zero:Ent N.statics_zero Tryz.f132:=fun hn h=>in_f Tryz.func132 (by rfl) (by rfl) hn (by rfl) h
theorem in_statics_goodStrength:Ent N.statics_goodStrength Tryz.f140:=fun hn h=>in_f Tryz.func140 (by rfl) (by rfl) hn (by rfl) h
theorem in_statics_limit:Ent N.statics_limit Tryz.f141:=fun hn h=>in_f Tryz.func141 (by rfl) (by rfl) hn (by rfl) h
theorem in_ref01_CmpInt:Ent N.ref01_CmpInt Tryz.f142:=fun hn h=>in_f Tryz.func142 (by rfl) (by rfl) hn (by rfl) h
theorem in_ref01_short:Ent N.ref01_short Tryz.f143:=fun hn h=>in_f Tryz.func143 (by rfl) (by rfl) hn (by rfl) h
theorem in_ref01_Common:Ent N.ref01_Common Tryz.f144:=fun hn h=>in_f Tryz.func144 (by rfl) (by rfl) hn (by rfl) h
theorem in_ref01_Minus:Ent N.ref01_Minus Tryz.f145:=fun hn h=>in_f Tryz.func145 (by rfl) (by rfl) hn (by rfl) h
theorem in_ref01_Divide:Ent N.ref01_Divide Tryz.f146:=fun hn h=>in_f Tryz.func146 (by rfl) (by rfl) hn (by rfl) h
theorem in_ref01_settled:Ent N.ref01_settled Tryz.f147:=fun hn h=>in_f Tryz.func147 (by rfl) (by rfl) hn (by rfl) h
theorem in_statics_difference:Ent N.statics_difference Tryz.f148:=fun hn h=>in_f Tryz.func148 (by rfl) (by rfl) hn (by rfl) h
theorem in_statics_neg:Ent N.statics_neg Tryz.f149:=fun hn h=>in_f Tryz.func149 (by rfl) (by rfl) hn (by rfl) h
theorem in_exact_Mul:Ent N.exact_Mul Tryz.f150:=fun hn h=>in_f Tryz.func150 (by rfl) (by rfl) hn (by rfl) h
theorem in_statics_take:Ent N.statics_take Tryz.f153:=fun hn h=>in_f Tryz.func153 (by rfl) (by rfl) hn (by rfl) h
theorem in_statics_zeros:Ent N.statics_zeros Tryz.f154:=fun hn h=>in_f Tryz.func154 (by rfl) (by rfl) hn (by rfl) h
theorem in_exact_Whole:Ent N.exact_Whole Tryz.f155:=fun hn h=>in_f Tryz.func155 (by rfl) (by rfl) hn (by rfl) h
theorem in_exact_Quo:Ent N.exact_Quo Tryz.f159:=fun hn h=>in_f Tryz.func159 (by rfl) (by rfl) hn (by rfl) h
theorem in_ref01_columns:Ent N.ref01_columns Tryz.f161:=fun hn h=>in_f Tryz.func161 (by rfl) (by rfl) hn (by rfl) h
theorem in_ref01_at:Ent N.ref01_at Tryz.f162:=fun hn h=>in_f Tryz.func162 (by rfl) (by rfl) hn (by rfl) h
theorem in_slices_Index_of_api_Node_api_Node_of:Ent N.slices_Index_of_api_Node_api_Node_of Tryz.f163:=fun hn h=>in_f Tryz.func163 (by rfl) (by rfl) hn (by rfl) h
theorem in_exact_value:Ent N.exact_value Tryz.f164:=fun hn h=>in_f Tryz.func164 (by rfl) (by rfl) hn (by rfl) h
theorem in_exact_fraction_cmp:Ent N.exact_fraction_cmp Tryz.f165:=fun hn h=>in_f Tryz.func165 (by rfl) (by rfl) hn (by rfl) h
theorem in_statics_checkLoad:Ent N.statics_checkLoad Tryz.f166:=fun hn h=>in_f Tryz.func166 (by rfl) (by rfl) hn (by rfl) h
theorem in_exact_Sub:Ent N.exact_Sub Tryz.f168:=fun hn h=>in_f Tryz.func168 (by rfl) (by rfl) hn (by rfl) h
theorem in_exact_fraction_plus:Ent N.exact_fraction_plus Tryz.f174:=fun hn h=>in_f Tryz.func174 (by rfl) (by rfl) hn (by rfl) h
theorem in_exact_fraction_give:Ent N.exact_fraction_give Tryz.f175:=fun hn h=>in_f Tryz.func175 (by rfl) (by rfl) hn (by rfl) h
theorem in_exact_Ratio:Ent N.exact_Ratio Tryz.f176:=fun hn h=>in_f Tryz.func176 (by rfl) (by rfl) hn (by rfl) h
theorem in_statics_root:Ent N.statics_root Tryz.f177:=fun hn h=>in_f Tryz.func177 (by rfl) (by rfl) hn (by rfl) h
theorem in_ref01_Diff:Ent N.ref01_Diff Tryz.f178:=fun hn h=>in_f Tryz.func178 (by rfl) (by rfl) hn (by rfl) h
theorem in_ref01_Size:Ent N.ref01_Size Tryz.f179:=fun hn h=>in_f Tryz.func179 (by rfl) (by rfl) hn (by rfl) h
theorem in_ref01_Int:Ent N.ref01_Int Tryz.f180:=fun hn h=>in_f Tryz.func180 (by rfl) (by rfl) hn (by rfl) h
theorem in_ref01_carried:Ent N.ref01_carried Tryz.f181:=fun hn h=>in_f Tryz.func181 (by rfl) (by rfl) hn (by rfl) h
theorem in_ref01_packed:Ent N.ref01_packed Tryz.f182:=fun hn h=>in_f Tryz.func182 (by rfl) (by rfl) hn (by rfl) h
theorem in_ref01_spread:Ent N.ref01_spread Tryz.f183:=fun hn h=>in_f Tryz.func183 (by rfl) (by rfl) hn (by rfl) h
theorem in_exact_fraction_times:Ent N.exact_fraction_times Tryz.f184:=fun hn h=>in_f Tryz.func184 (by rfl) (by rfl) hn (by rfl) h
theorem in_exact_whole:Ent N.exact_whole Tryz.f185:=fun hn h=>in_f Tryz.func185 (by rfl) (by rfl) hn (by rfl) h
theorem in_exact_fraction_sign:Ent N.exact_fraction_sign Tryz.f186:=fun hn h=>in_f Tryz.func186 (by rfl) (by rfl) hn (by rfl) h
theorem in_exact_fraction_by:Ent N.exact_fraction_by Tryz.f187:=fun hn h=>in_f Tryz.func187 (by rfl) (by rfl) hn (by rfl) h
theorem in_exact_of:Ent N.exact_of Tryz.f188:=fun hn h=>in_f Tryz.func188 (by rfl) (by rfl) hn (by rfl) h
theorem in_exact_number_sign:Ent N.exact_number_sign Tryz.f189:=fun hn h=>in_f Tryz.func189 (by rfl) (by rfl) hn (by rfl) h
theorem in_exact_small:Ent N.exact_small Tryz.f190:=fun hn h=>in_f Tryz.func190 (by rfl) (by rfl) hn (by rfl) h
theorem in_exact_over:Ent N.exact_over Tryz.f191:=fun hn h=>in_f Tryz.func191 (by rfl) (by rfl) hn (by rfl) h
theorem in_exact_number_times:Ent N.exact_number_times Tryz.f192:=fun hn h=>in_f Tryz.func192 (by rfl) (by rfl) hn (by rfl) h
theorem in_exact_number_cmp:Ent N.exact_number_cmp Tryz.f193:=fun hn h=>in_f Tryz.func193 (by rfl) (by rfl) hn (by rfl) h
theorem in_exact_fraction_minus:Ent N.exact_fraction_minus Tryz.f194:=fun hn h=>in_f Tryz.func194 (by rfl) (by rfl) hn (by rfl) h
theorem in_exact_number_plus:Ent N.exact_number_plus Tryz.f195:=fun hn h=>in_f Tryz.func195 (by rfl) (by rfl) hn (by rfl) h
theorem in_exact_number_give:Ent N.exact_number_give Tryz.f196:=fun hn h=>in_f Tryz.func196 (by rfl) (by rfl) hn (by rfl) h
theorem in_exact_nat_trimmed:Ent N.exact_nat_trimmed Tryz.f197:=fun hn h=>in_f Tryz.func197 (by rfl) (by rfl) hn (by rfl) h
theorem in_exact_number_minus:Ent N.exact_number_minus Tryz.f198:=fun hn h=>in_f Tryz.func198 (by rfl) (by rfl) hn (by rfl) h
theorem in_exact_common:Ent N.exact_common Tryz.f199:=fun hn h=>in_f Tryz.func199 (by rfl) (by rfl) hn (by rfl) h
theorem in_exact_nat_divide:Ent N.exact_nat_divide Tryz.f200:=fun hn h=>in_f Tryz.func200 (by rfl) (by rfl) hn (by rfl) h
theorem in_exact_nat_times:Ent N.exact_nat_times Tryz.f201:=fun hn h=>in_f Tryz.func201 (by rfl) (by rfl) hn (by rfl) h
theorem in_exact_nat_plus:Ent N.exact_nat_plus Tryz.f202:=fun hn h=>in_f Tryz.func202 (by rfl) (by rfl) hn (by rfl) h
theorem in_exact_nat_cmp:Ent N.exact_nat_cmp Tryz.f203:=fun hn h=>in_f Tryz.func203 (by rfl) (by rfl) hn (by rfl) h
theorem in_exact_nat_minus:Ent N.exact_nat_minus Tryz.f204:=fun hn h=>in_f Tryz.func204 (by rfl) (by rfl) hn (by rfl) h
theorem in_slices_Clone_of_exact_nat_uint32_of:Ent N.slices_Clone_of_exact_nat_uint32_of Tryz.f205:=fun hn h=>in_f Tryz.func205 (by rfl) (by rfl) hn (by rfl) h
theorem in_exact_nat_short:Ent N.exact_nat_short Tryz.f206:=fun hn h=>in_f Tryz.func206 (by rfl) (by rfl) hn (by rfl) h
theorem in_bits_LeadingZeros32:Ent N.bits_LeadingZeros32 Tryz.f207:=fun hn h=>in_f Tryz.func207 (by rfl) (by rfl) hn (by rfl) h
theorem in_exact_nat_shifted:Ent N.exact_nat_shifted Tryz.f208:=fun hn h=>in_f Tryz.func208 (by rfl) (by rfl) hn (by rfl) h
theorem in_exact_nat_digit:Ent N.exact_nat_digit Tryz.f209:=fun hn h=>in_f Tryz.func209 (by rfl) (by rfl) hn (by rfl) h
theorem in_exact_nat_back:Ent N.exact_nat_back Tryz.f210:=fun hn h=>in_f Tryz.func210 (by rfl) (by rfl) hn (by rfl) h
theorem in_bits_Add32:Ent N.bits_Add32 Tryz.f211:=fun hn h=>in_f Tryz.func211 (by rfl) (by rfl) hn (by rfl) h
theorem in_bits_Sub32:Ent N.bits_Sub32 Tryz.f212:=fun hn h=>in_f Tryz.func212 (by rfl) (by rfl) hn (by rfl) h
theorem in_bits_Len32:Ent N.bits_Len32 Tryz.f213:=fun hn h=>in_f Tryz.func213 (by rfl) (by rfl) hn (by rfl) h
theorem in_exact_nat_take:Ent N.exact_nat_take Tryz.f214:=fun hn h=>in_f Tryz.func214 (by rfl) (by rfl) hn (by rfl) h
end Go.Ex

/- Natural numbers of package exact: trimmed. No condition. -/
namespace Go.Ex
open Go Go.Sx Go.Proofs

/-- a cell of what is told, seen later -/
theorem cellS{S:Nat→Prop}{H:Hp}{nx:Nat}{iv:Iv}{w w1 w':World}{ρ:Nat→Sx.Val}(hS:Old S w)(hw:Bel w.heap.size w w1)(r:Rel H nx iv w.heap.size w1 ρ w'){ad:Addr}{j:Nat}{x:Value}(hs:S ad.block)(h:w.cell? (ad.add j)=some x):w'.cell? (ad.add j)=some x:=by
 rw[(hw.tr r.bel).cell (by rw[addB];exact hS _ hs)]
 exact h
theorem add_none(a:Option Addr)(c:Nat):(if (c:Int)=0 then a else a.map fun x=>x.add (Int.toNat 0*1))=a:=by
 split
 ·rfl
 ·cases a<;>rfl
theorem trimL_take_zero{ls:List Nat}{k:Nat}(h:ls[k]? =some 0):trimL (ls.take (k+1))=trimL (ls.take k):=by
 rw[List.take_add_one,h]
 exact trimL_snoc_zero _
theorem trimL_take_ne{ls:List Nat}{k x:Nat}(h:ls[k]? =some x)(hx:x≠0):trimL (ls.take (k+1))=ls.take (k+1):=by
 rw[List.take_add_one,h]
 exact trimL_snoc _ hx

theorem trimmed_c{S:Nat→Prop}{w:World}{v:Value}{ls:List Nat}(hS:Old S w)(h:Limbs w S v ls):Con PG N.exact_nat_trimmed #[v] w (Ret w fun v' w2=>Limbs w2 S v' (trimL ls)):=by
 obtain⟨a,c,rfl,hlc,hc⟩:=h.sl
 have hle:=h.le
 have hlm:=h.lm
 refine in_exact_nat_trimmed (by simp) ?_
 conv=>whnf
 refine⟨Nat×World,fun x=>⟨[(0,.o (.v (.slice a x.1 c)))],[],0,[],x.2⟩,fun x=>x.1,
  fun x=>x.1≤ls.length∧Bel w.heap.size w x.2∧trimL ls=trimL (ls.take x.1),?_,?_⟩
 ·intro ρ w' r
  exact⟨(ls.length,w'),⟨Nat.le_refl _,r.bel,by simp⟩,Sub.reset r ⟨rfl,trivial⟩ ⟨trivial,trivial⟩⟩
 ·rintro⟨k,w1⟩ ⟨hk,hw,hF⟩
  dsimp only at hk hw hF ⊢
  have hdone:Bel w.heap.size w w1→trimL ls=ls.take k→∀ρ w2,Rel [] 0 [] w.heap.size w1 ρ w2→Limbs w2 S (.slice a k c) (trimL ls):=fun hw he ρ w2 r=>by
   rw[he]
   refine⟨hlm.take k,by simp;omega,a,c,by simp;omega,by simp;omega,fun j x hx=>?_⟩
   have hjk:j<k:=by
    have:=(List.getElem?_eq_some_iff.1 hx).1
    simp at this;omega
   rw[List.getElem?_take_of_lt hjk]at hx
   obtain⟨ad,h1,h2,h3⟩:=hc j x hx
   exact⟨ad,h1,h2,cellS hS hw r h2 h3⟩
  conv=>whnf
  refine BrS.mk (fun h=>?_) (fun h=>?_)
  ·have h:0<k:=by simpa using h
   obtain⟨k,rfl⟩:∃q,k=q+1:=⟨k-1,by omega⟩
   obtain⟨x,hx⟩:∃x,ls[k]? =some x:=⟨_,List.getElem?_eq_getElem (by omega)⟩
   obtain⟨ad,ha,hs,hx1⟩:=hc k x hx
   conv=>whnf
   refine⟨(k:Int),by rw[wrap64]<;>omega,?_⟩
   conv=>whnf
   refine⟨ad,ha,⟨by omega,by omega⟩,?_⟩
   conv=>whnf
   refine⟨.int .u32 x,fun ρ w' r=>by rw[Int.toNat_natCast,Nat.mul_one];exact cellS hS hw r hs hx1,?_⟩
   conv=>whnf
   refine BrS.mk (fun h2=>?_) (fun h2=>?_)
   ·have h2:x=0:=by have:=eq_of_beq h2;omega
    subst h2
    conv=>whnf
    refine⟨(k:Int),by rw[wrap64]<;>omega,?_⟩
    conv=>whnf
    refine⟨⟨by omega,by omega,by omega⟩,a,k,c,add_none a c,by simp,by simp,?_⟩
    conv=>whnf
    intro ρ w2 r
    exact⟨(k,w2),⟨by dsimp only;omega,hw.tr r.bel,hF.trans (trimL_take_zero hx)⟩,Sub.reset r ⟨rfl,trivial⟩ ⟨trivial,trivial⟩,by dsimp only;omega⟩
   ·have h2:x≠0:=by intro e;subst e;simp at h2
    conv=>whnf
    intro ρ w2 r
    exact⟨_,rfl,hw.tr r.bel,hdone hw (by rw[hF,trimL_take_ne hx h2]) ρ w2 r⟩
  ·have h:k=0:=by
    have:¬0<k:=by simpa using h
    omega
   subst h
   conv=>whnf
   intro ρ w2 r
   exact⟨_,rfl,hw.tr r.bel,hdone hw (by rw[hF];simp[trimL]) ρ w2 r⟩
end Go.Ex

/- Carries and borrows; comparison, sum and difference of natural numbers of package exact. No condition. -/
namespace Go.Ex
open Go Go.Sx Go.Proofs

theorem wrapU64n{n:Nat}(h:n<18446744073709551616):IntKind.u64.wrap (n:Int)=(n:Int):=wrapU64 (by omega) (by omega)
theorem wrapU32n(n:Nat):IntKind.u32.wrap (n:Int)=((n % 4294967296:Nat):Int):=by
 show((n:Int) % 4294967296)=_
 omega
theorem ofInt32(x:Nat):BitVec.ofInt 32 (x:Int)=BitVec.ofNat 32 x:=by
 apply BitVec.eq_of_toNat_eq
 simp
theorem and_lt32{y:Nat}(x:Nat)(hy:y<4294967296):x &&& y<4294967296:=Nat.lt_of_le_of_lt Nat.and_le_right hy
theorem xor_lt32{x y:Nat}(hx:x<4294967296)(hy:y<4294967296):x ^^^ y<4294967296:=Nat.xor_lt_two_pow (n:=32) hx hy
theorem or_lt32{x y:Nat}(hx:x<4294967296)(hy:y<4294967296):x ||| y<4294967296:=Nat.or_lt_two_pow (n:=32) hx hy
theorem and32{x y:Nat}(hx:x<4294967296)(hy:y<4294967296):IntKind.u32.wrap ((BitVec.ofInt IntKind.u32.bits x &&& BitVec.ofInt IntKind.u32.bits y).toNat:Int)=((x &&& y:Nat):Int):=by
 show IntKind.u32.wrap ((BitVec.ofInt 32 x &&& BitVec.ofInt 32 y).toNat:Int)=_
 rw[ofInt32,ofInt32,BitVec.toNat_and,BitVec.toNat_ofNat,BitVec.toNat_ofNat,Nat.mod_eq_of_lt hx,Nat.mod_eq_of_lt hy,wrapU32n,Nat.mod_eq_of_lt (and_lt32 x hy)]
theorem or32{x y:Nat}(hx:x<4294967296)(hy:y<4294967296):IntKind.u32.wrap ((BitVec.ofInt IntKind.u32.bits x ||| BitVec.ofInt IntKind.u32.bits y).toNat:Int)=((x ||| y:Nat):Int):=by
 show IntKind.u32.wrap ((BitVec.ofInt 32 x ||| BitVec.ofInt 32 y).toNat:Int)=_
 rw[ofInt32,ofInt32,BitVec.toNat_or,BitVec.toNat_ofNat,BitVec.toNat_ofNat,Nat.mod_eq_of_lt hx,Nat.mod_eq_of_lt hy,wrapU32n,Nat.mod_eq_of_lt (or_lt32 hx hy)]
theorem xor32{x y:Nat}(hx:x<4294967296)(hy:y<4294967296):IntKind.u32.wrap ((BitVec.ofInt IntKind.u32.bits x ^^^ BitVec.ofInt IntKind.u32.bits y).toNat:Int)=((x ^^^ y:Nat):Int):=by
 show IntKind.u32.wrap ((BitVec.ofInt 32 x ^^^ BitVec.ofInt 32 y).toNat:Int)=_
 rw[ofInt32,ofInt32,BitVec.toNat_xor,BitVec.toNat_ofNat,BitVec.toNat_ofNat,Nat.mod_eq_of_lt hx,Nat.mod_eq_of_lt hy,wrapU32n,Nat.mod_eq_of_lt (xor_lt32 hx hy)]
theorem not32{x:Nat}(hx:x<4294967296):IntKind.u32.wrap ((BitVec.ofInt IntKind.u32.bits (if IntKind.u32.signed=true then -1 else IntKind.u32.max) ^^^ BitVec.ofInt IntKind.u32.bits x).toNat:Int)=((4294967295 ^^^ x:Nat):Int):=
 xor32 (x:=4294967295) (by decide) hx
theorem fdiv_shr{x:Nat}(k:Nat)(hk:k≤63):(x:Int).fdiv (2^min (Int.toNat (k:Int)) IntKind.u64.bits)=((x / 2^k:Nat):Int):=by
 have h1:min (Int.toNat (k:Int)) IntKind.u64.bits=k:=by show min (Int.toNat (k:Int)) 64=k;omega
 rw[h1,Int.fdiv_eq_ediv_of_nonneg _ (by exact Int.le_of_lt (Int.pow_pos (by decide)))]
 simp
theorem fdiv_shr32{x:Nat}(k:Nat)(hk:k≤31):(x:Int).fdiv (2^min (Int.toNat (k:Int)) IntKind.u32.bits)=((x / 2^k:Nat):Int):=by
 have h1:min (Int.toNat (k:Int)) IntKind.u32.bits=k:=by show min (Int.toNat (k:Int)) 32=k;omega
 rw[h1,Int.fdiv_eq_ediv_of_nonneg _ (by exact Int.le_of_lt (Int.pow_pos (by decide)))]
 simp
theorem tb31{z:Nat}(h:z<4294967296):z.testBit 31=decide (2147483648≤z):=by
 rw[Nat.testBit_eq_decide_div_mod_eq]
 apply decide_eq_decide.2
 show z / 2147483648 % 2=1↔_
 omega
theorem borrow{x y c d:Nat}(hx:x<4294967296)(hy:y<4294967296)(hc:c≤1)(hd:(x+4294967296-(y+c)) % 4294967296=d):
  (((4294967295 ^^^ x) &&& y) ||| ((4294967295 ^^^ (x ^^^ y)) &&& d)) / 2^31=if x<y+c then 1 else 0:=by
 have hd2:d<4294967296:=by omega
 have hz:=or_lt32 (and_lt32 (4294967295 ^^^ x) hy) (and_lt32 (4294967295 ^^^ (x ^^^ y)) hd2)
 have ht:=tb31 hz
 have hm:Nat.testBit 4294967295 31=true:=by decide
 rw[Nat.testBit_or,Nat.testBit_and,Nat.testBit_and,Nat.testBit_xor,Nat.testBit_xor,Nat.testBit_xor,hm,tb31 hx,tb31 hy,tb31 hd2]at ht
 generalize (((4294967295 ^^^ x) &&& y) ||| ((4294967295 ^^^ (x ^^^ y)) &&& d))=z at hz ht
 show z / 2147483648=_
 by_cases h1:2147483648≤x<;>by_cases h2:2147483648≤y<;>by_cases h3:2147483648≤d<;>simp[h1,h2,h3]at ht<;>split<;>omega
theorem add32_c(x y c:Nat)(w:World)(hx:x<4294967296)(hy:y<4294967296)(hc:c<4294967296):
  Con PG N.bits_Add32 #[.int .u32 x,.int .u32 y,.int .u32 c] w (Ret w fun v _=>v= .tuple #[.int .u32 ((x+y+c) % 4294967296:Nat),.int .u32 ((x+y+c) / 4294967296:Nat)]):=by
 refine in_bits_Add32 (by simp) ?_
 conv=>whnf
 refine⟨(x:Int),wrapU64n (by omega),?_⟩
 conv=>whnf
 refine⟨(y:Int),wrapU64n (by omega),?_⟩
 conv=>whnf
 refine⟨((x+y:Nat):Int),by rw[wrapU64]<;>omega,?_⟩
 conv=>whnf
 refine⟨(c:Int),wrapU64n (by omega),?_⟩
 conv=>whnf
 refine⟨((x+y+c:Nat):Int),by rw[wrapU64]<;>omega,?_⟩
 conv=>whnf
 refine⟨(((x+y+c) % 4294967296:Nat):Int),wrapU32n _,?_⟩
 conv=>whnf
 refine⟨by decide,(((x+y+c) / 4294967296:Nat):Int),?_,?_⟩
 ·exact fdiv_shr 32 (by decide)
 conv=>whnf
 refine⟨(((x+y+c) / 4294967296:Nat):Int),by rw[wrapU32n];omega,?_⟩
 conv=>whnf
 intro ρ w3 r
 exact⟨_,rfl,r.bel,rfl⟩
theorem sub32_c(x y c:Nat)(w:World)(hx:x<4294967296)(hy:y<4294967296)(hc:c≤1):
  Con PG N.bits_Sub32 #[.int .u32 x,.int .u32 y,.int .u32 c] w (Ret w fun v _=>v= .tuple #[.int .u32 ((x+4294967296-(y+c)) % 4294967296:Nat),.int .u32 ((if x<y+c then 1 else 0:Nat):Int)]):=by
 refine in_bits_Sub32 (by simp) ?_
 conv=>whnf
 refine⟨((x+4294967296-y) % 4294967296:Nat),?_,?_⟩
 ·show((x:Int)-y) % 4294967296=_
  omega
 conv=>whnf
 refine⟨((x+4294967296-(y+c)) % 4294967296:Nat),?_,?_⟩
 ·show((((x+4294967296-y) % 4294967296:Nat):Int)-c) % 4294967296=_
  omega
 conv=>whnf
 have h6:(x+4294967296-(y+c)) % 4294967296<4294967296:=Nat.mod_lt _ (by decide)
 generalize hd:(x+4294967296-(y+c)) % 4294967296=d at h6
 refine⟨((4294967295 ^^^ x:Nat):Int),not32 hx,?_⟩
 conv=>whnf
 refine⟨(((4294967295 ^^^ x) &&& y:Nat):Int),and32 (xor_lt32 (by decide) hx) hy,?_⟩
 conv=>whnf
 refine⟨((x ^^^ y:Nat):Int),xor32 hx hy,?_⟩
 conv=>whnf
 refine⟨((4294967295 ^^^ (x ^^^ y):Nat):Int),not32 (xor_lt32 hx hy),?_⟩
 conv=>whnf
 refine⟨(((4294967295 ^^^ (x ^^^ y)) &&& d:Nat):Int),and32 (xor_lt32 (by decide) (xor_lt32 hx hy)) h6,?_⟩
 conv=>whnf
 refine⟨((((4294967295 ^^^ x) &&& y) ||| ((4294967295 ^^^ (x ^^^ y)) &&& d):Nat):Int),or32 (and_lt32 _ hy) (and_lt32 _ h6),?_⟩
 conv=>whnf
 refine⟨by decide,((if x<y+c then 1 else 0:Nat):Int),?_,?_⟩
 ·rw[←borrow hx hy hc hd]
  exact fdiv_shr32 31 (by decide)
 conv=>whnf
 intro ρ w3 r
 exact⟨_,rfl,r.bel,rfl⟩
end Go.Ex

/- Comparison, sum and difference of natural numbers of package exact. No condition. -/
namespace Go.Ex
open Go Go.Sx Go.Proofs

def cmpN(n m:Nat):Int:=if n<m then -1 else if m<n then 1 else 0
theorem lt_at{a b:List Nat}{i x y:Nat}(ha:Lm a)(hl:a.length=b.length)(hx:a[i]? =some x)(hy:b[i]? =some y)(h:a.drop (i+1)=b.drop (i+1))(hlt:x<y):val a<val b:=by
 have hi:=(List.getElem?_eq_some_iff.1 hx).1
 have h1:=val_take_drop a i (by omega)
 have h2:=val_take_drop b i (by omega)
 rw[val_drop hx]at h1
 rw[val_drop hy,←h]at h2
 have h3:=val_lt (ha.take i)
 rw[List.length_take,Nat.min_eq_left (by omega)]at h3
 generalize val (a.drop (i+1))=q at h1 h2
 have h4:wt i*(x+4294967296*q+1)≤wt i*(y+4294967296*q):=Nat.mul_le_mul_left _ (by omega)
 rw[Nat.mul_add,Nat.mul_one]at h4
 omega

theorem cmp_c{S:Nat→Prop}{w:World}{v u:Value}{n m:Nat}(hS:Old S w)(hn:NatR w S v n)(hm:NatR w S u m):Con PG N.exact_nat_cmp #[v,u] w (Ret w fun v' _=>v'= .int .i64 (cmpN n m)):=by
 obtain⟨ls,h1,nz1,rfl⟩:=hn
 obtain⟨ms,h2,nz2,rfl⟩:=hm
 obtain⟨a,c,rfl,_,ha⟩:=h1.sl
 obtain⟨b,e,rfl,_,hb⟩:=h2.sl
 have hle1:=h1.le
 have hle2:=h2.le
 have lm1:=h1.lm
 have lm2:=h2.lm
 refine in_exact_nat_cmp (by simp) ?_
 conv=>whnf
 refine BrS.mk (fun h=>?_) (fun h=>?_)
 ·have h:ls.length≠ms.length:=by intro e;rw[e]at h;simp at h
  conv=>whnf
  refine BrS.mk (fun h3=>?_) (fun h3=>?_)
  ·have h3:ls.length<ms.length:=by simpa using h3
   conv=>whnf
   intro ρ w2 r
   exact⟨_,rfl,r.bel,by rw[cmpN,if_pos (val_lt_of_length lm1 nz2 h3)];rfl⟩
  ·have h3:ms.length<ls.length:=by
    have:¬ls.length<ms.length:=by simpa using h3
    omega
   have h4:=val_lt_of_length lm2 nz1 h3
   conv=>whnf
   intro ρ w2 r
   exact⟨_,rfl,r.bel,by rw[cmpN,if_neg (by omega),if_pos h4];rfl⟩
 ·have h:ls.length=ms.length:=by
   have:(ls.length:Int)=ms.length:=by simpa using h
   omega
  conv=>whnf
  refine⟨(ls.length:Int)-1,by rw[wrap64]<;>omega,?_⟩
  conv=>whnf
  refine⟨Nat×World,fun x=>⟨[(0,.o (.v (.slice a ls.length c))),(1,.o (.v (.slice b ms.length e))),(5,.o (.v (.int .i64 ((x.1:Int)-1))))],[],0,[],x.2⟩,fun x=>x.1,
   fun x=>x.1≤ls.length∧Bel w.heap.size w x.2∧ls.drop x.1=ms.drop x.1,?_,?_⟩
  ·intro ρ w' r
   exact⟨(ls.length,w'),⟨Nat.le_refl _,r.bel,by rw[List.drop_length,h,List.drop_length]⟩,Sub.reset r ⟨rfl,rfl,rfl,trivial⟩ ⟨trivial,trivial,trivial,trivial⟩⟩
  ·rintro⟨k,w1⟩ ⟨hk,hw,hd⟩
   dsimp only at hk hw hd ⊢
   conv=>whnf
   refine BrS.mk (fun h3=>?_) (fun h3=>?_)
   ·have h3:(k:Int)-1≥0:=of_decide_eq_true h3
    obtain⟨k,rfl⟩:∃q,k=q+1:=⟨k-1,by omega⟩
    rw[show ((k+1:Nat):Int)-1=(k:Int) by omega]
    obtain⟨x,hx⟩:∃x,ls[k]? =some x:=⟨_,List.getElem?_eq_getElem (by omega)⟩
    obtain⟨y,hy⟩:∃x,ms[k]? =some x:=⟨_,List.getElem?_eq_getElem (by omega)⟩
    obtain⟨ad,had,hs,hc1⟩:=ha k x hx
    obtain⟨ad2,had2,hs2,hc2⟩:=hb k y hy
    have hlx:∀ρ w',Rel [] 0 [] w.heap.size w1 ρ w'→w'.cell? (ad.add ((k:Int).toNat*1))=some (.int .u32 x):=fun ρ w' r=>by
     rw[Int.toNat_natCast,Nat.mul_one];exact cellS hS hw r hs hc1
    have hly:∀ρ w',Rel [] 0 [] w.heap.size w1 ρ w'→w'.cell? (ad2.add ((k:Int).toNat*1))=some (.int .u32 y):=fun ρ w' r=>by
     rw[Int.toNat_natCast,Nat.mul_one];exact cellS hS hw r hs2 hc2
    conv=>whnf
    refine drawn_of_pi hτ hmix [.x 0,.x 1,.x 2,.x 3,.x 4,.x 5,.x 6,.x 7,.x 8,.x 9] (by kernel_rfl) (by kernel_rfl) ?_
    conv=>whnf
    refine⟨ad,had,⟨by omega,by omega⟩,?_⟩
    conv=>whnf
    refine⟨_,hlx,?_⟩
    conv=>whnf
    refine⟨ad2,had2,⟨by omega,by omega⟩,?_⟩
    conv=>whnf
    refine⟨_,hly,?_⟩
    conv=>whnf
    refine BrS.mk (fun h4=>?_) (fun h4=>?_)
    ·have h4:x<y:=by simpa using h4
     conv=>whnf
     intro ρ w2 r
     exact⟨_,rfl,hw.tr r.bel,by rw[cmpN,if_pos (lt_at lm1 h hx hy hd h4)];rfl⟩
    ·have h4:¬x<y:=by simpa using h4
     conv=>whnf
     refine drawn_of_pi hτ hmix [.x 0,.x 1,.x 2,.x 3,.x 4,.x 5,.x 6,.x 7,.x 8,.x 9] (by kernel_rfl) (by kernel_rfl) ?_
     conv=>whnf
     refine⟨ad,had,⟨by omega,by omega⟩,?_⟩
     conv=>whnf
     refine⟨_,hlx,?_⟩
     conv=>whnf
     refine⟨ad2,had2,⟨by omega,by omega⟩,?_⟩
     conv=>whnf
     refine⟨_,hly,?_⟩
     conv=>whnf
     refine BrS.mk (fun h5=>?_) (fun h5=>?_)
     ·have h5:y<x:=by simpa using h5
      have h6:=lt_at lm2 h.symm hy hx hd.symm h5
      conv=>whnf
      intro ρ w2 r
      exact⟨_,rfl,hw.tr r.bel,by rw[cmpN,if_neg (by omega),if_pos h6];rfl⟩
     ·have h5:¬y<x:=by simpa using h5
      have hxy:x=y:=by omega
      subst hxy
      conv=>whnf
      refine⟨(k:Int)-1,by rw[wrap64]<;>omega,?_⟩
      conv=>whnf
      intro ρ w2 r
      have hd2:ls.drop k=ms.drop k:=by
       obtain⟨q1,e1⟩:=List.getElem?_eq_some_iff.1 hx
       obtain⟨q2,e2⟩:=List.getElem?_eq_some_iff.1 hy
       rw[List.drop_eq_getElem_cons q1,List.drop_eq_getElem_cons q2,e1,e2,hd]
      exact⟨(k,w2),⟨by dsimp only;omega,hw.tr r.bel,hd2⟩,Sub.reset r ⟨rfl,rfl,rfl,trivial⟩ ⟨trivial,trivial,trivial,trivial⟩,by simp⟩
   ·have hk0:k=0:=by
     have:¬(k:Int)-1≥0:=of_decide_eq_false h3
     omega
    subst hk0
    have he:ls=ms:=by simpa using hd
    conv=>whnf
    intro ρ w2 r
    exact⟨_,rfl,hw.tr r.bel,by rw[he,cmpN,if_neg (by omega),if_neg (by omega)];rfl⟩
end Go.Ex

/- Sum of natural numbers of package exact. No condition. -/
namespace Go.Ex
open Go Go.Sx Go.Proofs

end Go.Ex
namespace Go.Sx
open Go Go.Ex Go.Proofs
/-- an argument: limbs of what was there -/
theorem Rel.nilBy{nx:Nat}{iv:Iv}{B:Nat}{w w':World}{ρ:Nat→Sx.Val}(r:Rel [] nx iv B w ρ w'):w.grownBy w' none:=
 ⟨r.os,r.tape,r.output,r.size,fun k hk _=>r.frm k hk (fun id b h=>by cases h)⟩
end Go.Sx
namespace Go.Ex
open Go Go.Sx Go.Proofs
structure LA(S:Nat→Prop)(w:World) where
 a:Option Addr
 c:Nat
 ls:List Nat
 lm:Lm ls
 le:ls.length≤9223372036854775807
 cap:ls.length≤c
 cell:∀(j:Nat) x,ls[j]? =some x→∃ad,a=some ad∧S ad.block∧w.cell? (ad.add j)=some (.int .u32 x)
theorem Limbs.la{S:Nat→Prop}{w:World}{v:Value}{ls:List Nat}(h:Limbs w S v ls):∃p:LA S w,v= .slice p.a p.ls.length p.c∧p.ls=ls:=by
 obtain⟨a,c,h1,h2,h3⟩:=h.sl
 exact⟨⟨a,c,ls,h.lm,h.le,h2,h3⟩,h1,rfl⟩
theorem NatR.la{S:Nat→Prop}{w:World}{v:Value}{n:Nat}(h:NatR w S v n):∃p:LA S w,v= .slice p.a p.ls.length p.c∧val p.ls=n∧Nz p.ls:=by
 obtain⟨ls,h1,h2,h3⟩:=h
 obtain⟨p,h4,h5⟩:=h1.la
 exact⟨p,h4,by rw[h5];exact h3,by rw[h5];exact h2⟩
/-- a limb of an argument is read -/
theorem LA.load{S:Nat→Prop}{w w1:World}(p:LA S w)(hS:Old S w)(hw:Bel w.heap.size w w1){k x:Nat}(hx:p.ls[k]? =some x):
  ∃ad,p.a=some ad∧∀(H:Hp) (nx:Nat) (iv:Iv) (ρ:Nat→Sx.Val) w',Rel H nx iv w.heap.size w1 ρ w'→w'.cell? (ad.add ((k:Int).toNat*1))=some (.int .u32 x):=by
 obtain⟨ad,h1,h2,h3⟩:=p.cell k x hx
 refine⟨ad,h1,fun H nx iv ρ w' r=>?_⟩
 rw[Int.toNat_natCast,Nat.mul_one]
 exact cellS hS hw r h2 h3

def U(l:List Nat):List Value:=l.map fun(x:Nat)=>.int .u32 (x:Int)
theorem U_len(l:List Nat):(U l).length=l.length:=by simp[U]
theorem U_get{l:List Nat}{k x:Nat}(h:l[k]? =some x):(U l)[k]? =some (.int .u32 x):=by simp[U,h]
theorem U_set(l:List Nat)(k x:Nat)(h:k<l.length):(U l).take k++[.int .u32 x]++(U l).drop (k+1)=U (l.set k x):=by
 have h1:k<(U l).length:=by rw[U_len];exact h
 have:(U l).set k (.int .u32 x)=U (l.set k x):=by simp[U,List.map_set]
 rw[←this,List.set_eq_take_append_cons_drop,if_pos h1];simp
theorem U_store(l:List Nat)(k x:Nat)(h:k<l.length){e:Nat}(he:e=k):(U l).take e++[.int .u32 (x:Int)]++(U l).drop (e+1)=U (l.set k x):=by
 subst he;exact U_set l e x h
theorem U_zero(n:Nat):List.replicate n (Value.int .u32 0)=U (List.replicate n 0):=by simp[U]
end Go.Ex
namespace Go.Sx
open Go Go.Ex Go.Proofs
/-- a list of one's own that a call is handed: its limbs are read there -/
theorem Rel.ownLimbs{H:Hp}{nx:Nat}{iv:Iv}{B:Nat}{w w':World}{ρ:Nat→Sx.Val}(r:Rel H nx iv B w ρ w'){id t:Nat}{ls:List Nat}(h:getH H id=some (.arr t (U ls)))(hlm:Lm ls)(hle:ls.length≤9223372036854775807):
  Limbs w' (fun g=>g=(ρ id).g) (.slice (some ⟨(ρ id).g,0,none⟩) ls.length ls.length) ls:=by
 refine⟨hlm,hle,_,_,rfl,Nat.le_refl _,fun j x hx=>⟨_,rfl,rfl,?_⟩⟩
 have h0:(⟨(ρ id).g,0,none⟩:Addr).add j=⟨(ρ id).g,j,none⟩:=by
  cases j with
  |zero=>rfl
  |succ j=>simp[Addr.add]
 rw[h0,cell_of (r.arr id t _ h)]
 exact U_get hx
end Go.Sx
namespace Go.Ex
open Go Go.Sx Go.Proofs

theorem plus_step{out ls ms:List Nat}{i x o d:Nat}(hx:ls[i]? =some x)(ho:ms.getD i 0=o)(hd:out[i]? =some d){carry:Nat}(h:val (out.take i)+wt i*carry=val (ls.take i)+val (ms.take i)):
  val ((out.set i ((x+o+carry) % 4294967296)).take (i+1))+wt (i+1)*((x+o+carry) / 4294967296)=val (ls.take (i+1))+val (ms.take (i+1)):=by
 have hi:=(List.getElem?_eq_some_iff.1 hd).1
 have h1:(out.set i ((x+o+carry) % 4294967296))[i]? =some ((x+o+carry) % 4294967296):=by rw[List.getElem?_set_self hi]
 rw[val_take_succ h1,List.take_set_of_le (Nat.le_refl _),val_take_succ hx,wt_succ]
 have h2:val (ms.take (i+1))=val (ms.take i)+wt i*o:=by
  cases hm:ms[i]? with
  |some y=>
   have:y=o:=by rw[←ho];simp[List.getD,hm]
   rw[val_take_succ hm,this]
  |none=>
   have:o=0:=by rw[←ho];simp[List.getD,hm]
   rw[this,List.take_add_one,hm]
   simp
 rw[h2]
 have h3:=Nat.div_add_mod (x+o+carry) 4294967296
 generalize (x+o+carry) / 4294967296=q at h3 ⊢
 generalize (x+o+carry) % 4294967296=r at h3 ⊢
 have h4:wt i*(4294967296*q+r)=wt i*(x+o+carry):=by rw[h3]
 rw[Nat.mul_add,Nat.mul_add,Nat.mul_add,←Nat.mul_assoc,Nat.mul_comm (wt i) 4294967296]at h4
 omega

theorem plus_c{S:Nat→Prop}{w:World}{v u:Value}{n m:Nat}(hS:Old S w)(hn:NatR w S v n)(hm:NatR w S u m)(hln:ln n≤1000000000000)(hlm:ln m≤1000000000000):
  Con PG N.exact_nat_plus #[v,u] w (Ret w fun v' w2=>NatR w2 (Nw (fun _=>False) w w2) v' (n+m)):=by
 obtain⟨p,rfl,hp1,hp2⟩:=hn.la
 obtain⟨q,rfl,hq1,hq2⟩:=hm.la
 have hpl:=length_ln p.lm hp2
 have hql:=length_ln q.lm hq2
 rw[hp1]at hpl
 rw[hq1]at hql
 have hsum:n+m=val p.ls+val q.ls:=by rw[hp1,hq1]
 rw[hsum]
 refine in_exact_nat_plus (by simp) ?_
 conv=>whnf
 refine BrS.mk (fun h=>?_) (fun h=>?_)
 case' refine_1=>
  have h:p.ls.length<q.ls.length:=by simpa using h
  have hpx:p.ls.length≤q.ls.length:=by omega
  have hx12:q.ls.length≤1000000000000:=by omega
  rw[Nat.add_comm]
  clear hp1 hp2 hq1 hq2 hpl hql hsum hn hm h
  generalize hgx:q=x at*
  generalize hgy:p=y at*
  clear hgx hgy p q
 case' refine_2=>
  have h:¬p.ls.length<q.ls.length:=by simpa using h
  have hpx:q.ls.length≤p.ls.length:=by omega
  have hx12:p.ls.length≤1000000000000:=by omega
  clear hp1 hp2 hq1 hq2 hpl hql hsum hn hm h
  generalize hgx:p=x at*
  generalize hgy:q=y at*
  clear hgx hgy p q
 all_goals
  conv=>whnf
  refine⟨((x.ls.length+1:Nat):Int),by rw[wrap64]<;>omega,?_⟩
  conv=>whnf
  refine⟨x.ls.length+1,x.ls.length+1,rfl,rfl,Nat.le_refl _,by omega,by omega,?_⟩
  conv=>whnf
  refine⟨Nat×List Nat×Nat×World,fun z=>⟨[(0,.o (.v (.slice x.a x.ls.length x.c))),(1,.o (.v (.slice y.a y.ls.length y.c))),(5,.o (.s 0 0 (x.ls.length+1) (x.ls.length+1))),(6,.o (.v (.int .u32 z.2.2.1))),(21,.o (.v (.int .i64 x.ls.length))),(22,.o (.v (.int .i64 z.1)))],
    [(0,.arr T.uint32 (U z.2.1))],1,[],z.2.2.2⟩,fun z=>x.ls.length-z.1,
   fun z=>z.1≤x.ls.length∧Bel w.heap.size w z.2.2.2∧z.2.1.length=x.ls.length+1∧Lm z.2.1∧z.2.2.1<2∧val (z.2.1.take z.1)+wt z.1*z.2.2.1=val (x.ls.take z.1)+val (y.ls.take z.1),?_,?_⟩
  ·intro ρ w' r
   rw[U_zero]at r
   exact⟨(0,List.replicate (x.ls.length+1) 0,0,w'),⟨by simp,r.bel,by simp,Lm.replicate _,by simp,by simp[val]⟩,Sub.gen [] r ⟨rfl,trivial⟩ ⟨rfl,rfl,rfl,rfl,rfl,rfl,trivial⟩ (by simp[ScH,Blk.scopd]) (by simp[ScE,SV.sc,At.sc]) (by rfl) (by simp)⟩
  ·rintro⟨i,out,carry,w1⟩ ⟨hi,hw,hol,hlm1,hc,hv⟩
   dsimp only at hi hw hol hlm1 hc hv ⊢
   conv=>whnf
   refine BrS.mk (fun h=>?_) (fun h=>?_)
   ·have h:i<x.ls.length:=by simpa using h
    obtain⟨xi,hxi⟩:∃k,x.ls[i]? =some k:=⟨_,List.getElem?_eq_getElem h⟩
    obtain⟨d,hd⟩:∃k,out[i]? =some k:=⟨_,List.getElem?_eq_getElem (by omega)⟩
    obtain⟨ad,had,hload⟩:=x.load hS hw hxi
    have hx32:=x.lm.at hxi
    conv=>whnf
    refine BrS.mk (fun h2=>?_) (fun h2=>?_)
    ·have h2:i<y.ls.length:=by simpa using h2
     obtain⟨o,ho⟩:∃k,y.ls[i]? =some k:=⟨_,List.getElem?_eq_getElem h2⟩
     obtain⟨ad2,had2,hload2⟩:=y.load hS hw ho
     have ho32:=y.lm.at ho
     have hget:y.ls.getD i 0=o:=by simp[List.getD,ho]
     conv=>whnf
     refine⟨ad2,had2,⟨by omega,by omega⟩,?_⟩
     conv=>whnf
     refine⟨.int .u32 o,hload2 _ _ _,?_⟩
     conv=>whnf
     refine⟨ad,had,⟨by omega,by omega⟩,?_⟩
     conv=>whnf
     refine⟨.int .u32 xi,hload _ _ _,?_⟩
     conv=>whnf
     refine callE_S (callE_con (Φ:=fun _ _ v _=>v= .tuple #[.int .u32 ((xi+o+carry) % 4294967296:Nat),.int .u32 ((xi+o+carry) / 4294967296:Nat)]) (fun ρ w' r=>add32_c xi o carry w' hx32 ho32 (by omega)) ?_)
     rintro ρ w' v w2 r he hb rfl
     replace hw:=hw.tr hb
     have hstep:=plus_step hxi hget hd hv
     have hc2:(xi+o+carry) / 4294967296<2:=by omega
     clear r he hb
     conv=>whnf
     refine⟨⟨by omega,by omega⟩,?_⟩
     conv=>whnf
     refine⟨by rw[U_len];omega,U (out.set i ((xi+o+carry) % 4294967296)),U_store out i _ (by omega) (by simp),?_⟩
     conv=>whnf
     refine⟨((i+1:Nat):Int),by rw[wrap64]<;>omega,?_⟩
     conv=>whnf
     intro ρ3 w3 r3
     exact⟨(i+1,out.set i ((xi+o+carry) % 4294967296),(xi+o+carry) / 4294967296,w3),⟨by dsimp only;omega,hw.tr r3.bel,by simp[hol],hlm1.set (Nat.mod_lt _ (by decide)),hc2,hstep⟩,
      Sub.gen [] r3 ⟨rfl,trivial⟩ ⟨rfl,rfl,rfl,rfl,rfl,rfl,trivial⟩ (by simp[ScH,Blk.scopd]) (by simp[ScE,SV.sc,At.sc]) (by rfl) (by simp),by dsimp only;omega⟩
    ·have h2:¬i<y.ls.length:=by simpa using h2
     have hget:y.ls.getD i 0=0:=by simp[List.getD,List.getElem?_eq_none (show y.ls.length≤i by omega)]
     conv=>whnf
     refine⟨ad,had,⟨by omega,by omega⟩,?_⟩
     conv=>whnf
     refine⟨.int .u32 xi,hload _ _ _,?_⟩
     conv=>whnf
     refine callE_S (callE_con (Φ:=fun _ _ v _=>v= .tuple #[.int .u32 ((xi+0+carry) % 4294967296:Nat),.int .u32 ((xi+0+carry) / 4294967296:Nat)]) (fun ρ w' r=>add32_c xi 0 carry w' hx32 (by decide) (by omega)) ?_)
     rintro ρ w' v w2 r he hb rfl
     replace hw:=hw.tr hb
     have hstep:=plus_step hxi hget hd hv
     have hc2:(xi+0+carry) / 4294967296<2:=by omega
     clear r he hb
     conv=>whnf
     refine⟨⟨by omega,by omega⟩,?_⟩
     conv=>whnf
     refine⟨by rw[U_len];omega,U (out.set i ((xi+0+carry) % 4294967296)),U_store out i _ (by omega) (by simp),?_⟩
     conv=>whnf
     refine⟨((i+1:Nat):Int),by rw[wrap64]<;>omega,?_⟩
     conv=>whnf
     intro ρ3 w3 r3
     exact⟨(i+1,out.set i ((xi+0+carry) % 4294967296),(xi+0+carry) / 4294967296,w3),⟨by dsimp only;omega,hw.tr r3.bel,by simp[hol],hlm1.set (Nat.mod_lt _ (by decide)),hc2,hstep⟩,
      Sub.gen [] r3 ⟨rfl,trivial⟩ ⟨rfl,rfl,rfl,rfl,rfl,rfl,trivial⟩ (by simp[ScH,Blk.scopd]) (by simp[ScE,SV.sc,At.sc]) (by rfl) (by simp),by dsimp only;omega⟩
   ·have hin:i=x.ls.length:=by
     have:¬i<x.ls.length:=by simpa using h
     omega
    subst hin
    obtain⟨d,hd⟩:∃k,out[x.ls.length]? =some k:=⟨_,List.getElem?_eq_getElem (by omega)⟩
    have hfin:val (out.set x.ls.length carry)=val x.ls+val y.ls:=by
     have h1:(out.set x.ls.length carry)[x.ls.length]? =some carry:=by rw[List.getElem?_set_self (by omega)]
     have h2:=val_take_succ h1
     rw[List.take_of_length_le (by simp;omega),List.take_set_of_le (Nat.le_refl _)]at h2
     rw[List.take_length,List.take_of_length_le hpx]at hv
     omega
    have hlm2:Lm (out.set x.ls.length carry):=hlm1.set (by omega)
    conv=>whnf
    refine⟨⟨by omega,by omega⟩,?_⟩
    conv=>whnf
    refine⟨by rw[U_len];omega,U (out.set x.ls.length carry),U_store out x.ls.length carry (by omega) (by simp),?_⟩
    generalize hgo:out.set x.ls.length carry=fin at hfin hlm2
    have hfl:fin.length=x.ls.length+1:=by rw[←hgo];simp[hol]
    conv=>whnf
    refine callE_free (Φ:=fun ρ _ v w2=>Limbs w2 (fun g=>g=(ρ 0).g) v (trimL fin)) (H':=[]) 0 rfl (by simp) trivial rfl (fun ρ w' r=>r.nn 0 _ rfl (by intros;simp) (by simp)) (fun ρ w' r=>?_) ?_
    ·have hL:=r.ownLimbs (id:=0) rfl hlm2 (by omega)
     rw[hfl]at hL
     exact trimmed_c (fun g hg=>by rw[hg];exact(r.low 0 _ rfl (r.nn 0 _ rfl (by intros;simp) (by simp))).2) hL
    rintro ρ w' v w2 r he hb hL
    replace hw:=hw.tr hb
    have hlow:=r.low 0 _ rfl (r.nn 0 _ rfl (by intros;simp) (by simp))
    generalize (ρ 0).g=g at*
    have hs:=he.size
    clear r he hb
    conv=>whnf
    intro ρ3 w3 r3
    refine⟨_,rfl,hw.tr r3.bel,trimL fin,?_,(trimL_spec fin).2.1,?_⟩
    ·refine(hL.keep fun k hk=>?_).weak fun k hk=>.inr ?_
     ·rw[hk]
      exact r3.nilBy.block g (by omega) (by simp)
     ·rw[hk]
      have:=r3.size
      omega
    ·rw[(trimL_spec fin).1,hfin]
end Go.Ex

/- Difference of natural numbers of package exact. No condition. -/
namespace Go.Ex
open Go Go.Sx Go.Proofs

theorem take_getD{ms:List Nat}{i o:Nat}(ho:ms.getD i 0=o):val (ms.take (i+1))=val (ms.take i)+wt i*o:=by
 cases hm:ms[i]? with
 |some y=>
  have:y=o:=by rw[←ho];simp[List.getD,hm]
  rw[val_take_succ hm,this]
 |none=>
  have:o=0:=by rw[←ho];simp[List.getD,hm]
  rw[this,List.take_add_one,hm]
  simp
theorem minus_step{out ls ms:List Nat}{i x o d e:Nat}(hx:ls[i]? =some x)(ho:ms.getD i 0=o)(hd:out[i]? =some d){b b':Nat}(h:val (out.take i)+val (ms.take i)=val (ls.take i)+wt i*b)(he:e+(o+b)=x+4294967296*b'):
  val ((out.set i e).take (i+1))+val (ms.take (i+1))=val (ls.take (i+1))+wt (i+1)*b':=by
 have hi:=(List.getElem?_eq_some_iff.1 hd).1
 have h1:(out.set i e)[i]? =some e:=by rw[List.getElem?_set_self hi]
 rw[val_take_succ h1,List.take_set_of_le (Nat.le_refl _),val_take_succ hx,take_getD ho,wt_succ]
 have h4:wt i*(e+(o+b))=wt i*(x+4294967296*b'):=by rw[he]
 rw[Nat.mul_add,Nat.mul_add,Nat.mul_add,←Nat.mul_assoc,Nat.mul_comm (wt i) 4294967296]at h4
 omega

theorem minus_c{S:Nat→Prop}{w:World}{v u:Value}{n m:Nat}(hS:Old S w)(hn:NatR w S v n)(hm:NatR w S u m)(hle:m≤n)(hln:ln n≤1000000000000):
  Con PG N.exact_nat_minus #[v,u] w (Ret w fun v' w2=>NatR w2 (Nw (fun _=>False) w w2) v' (n-m)):=by
 obtain⟨x,rfl,hp1,hp2⟩:=hn.la
 obtain⟨y,rfl,hq1,hq2⟩:=hm.la
 have hpl:=length_ln x.lm hp2
 rw[hp1]at hpl
 have hyx:y.ls.length≤x.ls.length:=by
  rw[length_ln x.lm hp2,length_ln y.lm hq2,hp1,hq1]
  exact ln_mono hle
 refine in_exact_nat_minus (by simp) ?_
 conv=>whnf
 refine⟨x.ls.length,x.ls.length,rfl,rfl,Nat.le_refl _,by omega,by omega,?_⟩
 conv=>whnf
 refine⟨Nat×List Nat×Nat×World,fun z=>⟨[(0,.o (.v (.slice x.a x.ls.length x.c))),(1,.o (.v (.slice y.a y.ls.length y.c))),(5,.o (.s 0 0 x.ls.length x.ls.length)),(6,.o (.v (.int .u32 z.2.2.1))),(13,.o (.v (.int .i64 x.ls.length))),(14,.o (.v (.int .i64 z.1)))],
   [(0,.arr T.uint32 (U z.2.1))],1,[],z.2.2.2⟩,fun z=>x.ls.length-z.1,
  fun z=>z.1≤x.ls.length∧Bel w.heap.size w z.2.2.2∧z.2.1.length=x.ls.length∧Lm z.2.1∧z.2.2.1<2∧val (z.2.1.take z.1)+val (y.ls.take z.1)=val (x.ls.take z.1)+wt z.1*z.2.2.1,?_,?_⟩
 ·intro ρ w' r
  rw[U_zero]at r
  exact⟨(0,List.replicate x.ls.length 0,0,w'),⟨by simp,r.bel,by simp,Lm.replicate _,by simp,by simp[val]⟩,Sub.gen [] r ⟨rfl,trivial⟩ ⟨rfl,rfl,rfl,rfl,rfl,rfl,trivial⟩ (by simp[ScH,Blk.scopd]) (by simp[ScE,SV.sc,At.sc]) (by rfl) (by simp)⟩
 ·rintro⟨i,out,b,w1⟩ ⟨hi,hw,hol,hlm1,hc,hv⟩
  dsimp only at hi hw hol hlm1 hc hv ⊢
  conv=>whnf
  refine BrS.mk (fun h=>?_) (fun h=>?_)
  ·have h:i<x.ls.length:=by simpa using h
   obtain⟨xi,hxi⟩:∃k,x.ls[i]? =some k:=⟨_,List.getElem?_eq_getElem h⟩
   obtain⟨d,hd⟩:∃k,out[i]? =some k:=⟨_,List.getElem?_eq_getElem (by omega)⟩
   obtain⟨ad,had,hload⟩:=x.load hS hw hxi
   have hx32:=x.lm.at hxi
   conv=>whnf
   refine BrS.mk (fun h2=>?_) (fun h2=>?_)
   ·have h2:i<y.ls.length:=by simpa using h2
    obtain⟨o,ho⟩:∃k,y.ls[i]? =some k:=⟨_,List.getElem?_eq_getElem h2⟩
    obtain⟨ad2,had2,hload2⟩:=y.load hS hw ho
    have ho32:=y.lm.at ho
    have hget:y.ls.getD i 0=o:=by simp[List.getD,ho]
    conv=>whnf
    refine⟨ad2,had2,⟨by omega,by omega⟩,?_⟩
    conv=>whnf
    refine⟨.int .u32 o,hload2 _ _ _,?_⟩
    conv=>whnf
    refine⟨ad,had,⟨by omega,by omega⟩,?_⟩
    conv=>whnf
    refine⟨.int .u32 xi,hload _ _ _,?_⟩
    conv=>whnf
    refine callE_S (callE_con (Φ:=fun _ _ v _=>v= .tuple #[.int .u32 ((xi+4294967296-(o+b)) % 4294967296:Nat),.int .u32 ((if xi<o+b then 1 else 0:Nat):Int)]) (fun ρ w' r=>sub32_c xi o b w' hx32 ho32 (by omega)) ?_)
    rintro ρ w' v w2 r he hb rfl
    replace hw:=hw.tr hb
    have hst:(xi+4294967296-(o+b)) % 4294967296+(o+b)=xi+4294967296*(if xi<o+b then 1 else 0):=by split<;>omega
    have hlt:(xi+4294967296-(o+b)) % 4294967296<4294967296:=Nat.mod_lt _ (by decide)
    have hb2:(if xi<o+b then 1 else 0:Nat)<2:=by split<;>omega
    generalize (xi+4294967296-(o+b)) % 4294967296=e at hst hlt
    generalize (if xi<o+b then 1 else 0:Nat)=b' at hst hb2
    have hstep:=minus_step hxi hget hd hv hst
    clear r he hb
    conv=>whnf
    refine⟨⟨by omega,by omega⟩,?_⟩
    conv=>whnf
    refine⟨by rw[U_len];omega,U (out.set i e),U_store out i _ (by omega) (by simp),?_⟩
    conv=>whnf
    refine⟨((i+1:Nat):Int),by rw[wrap64]<;>omega,?_⟩
    conv=>whnf
    intro ρ3 w3 r3
    exact⟨(i+1,out.set i e,b',w3),⟨by dsimp only;omega,hw.tr r3.bel,by simp[hol],hlm1.set hlt,hb2,hstep⟩,
     Sub.gen [] r3 ⟨rfl,trivial⟩ ⟨rfl,rfl,rfl,rfl,rfl,rfl,trivial⟩ (by simp[ScH,Blk.scopd]) (by simp[ScE,SV.sc,At.sc]) (by rfl) (by simp),by dsimp only;omega⟩
   ·have h2:¬i<y.ls.length:=by simpa using h2
    have hget:y.ls.getD i 0=0:=by simp[List.getD,List.getElem?_eq_none (show y.ls.length≤i by omega)]
    conv=>whnf
    refine⟨ad,had,⟨by omega,by omega⟩,?_⟩
    conv=>whnf
    refine⟨.int .u32 xi,hload _ _ _,?_⟩
    conv=>whnf
    refine callE_S (callE_con (Φ:=fun _ _ v _=>v= .tuple #[.int .u32 ((xi+4294967296-(0+b)) % 4294967296:Nat),.int .u32 ((if xi<0+b then 1 else 0:Nat):Int)]) (fun ρ w' r=>sub32_c xi 0 b w' hx32 (by decide) (by omega)) ?_)
    rintro ρ w' v w2 r he hb rfl
    replace hw:=hw.tr hb
    have hst:(xi+4294967296-(0+b)) % 4294967296+(0+b)=xi+4294967296*(if xi<0+b then 1 else 0):=by split<;>omega
    have hlt:(xi+4294967296-(0+b)) % 4294967296<4294967296:=Nat.mod_lt _ (by decide)
    have hb2:(if xi<0+b then 1 else 0:Nat)<2:=by split<;>omega
    generalize (xi+4294967296-(0+b)) % 4294967296=e at hst hlt
    generalize (if xi<0+b then 1 else 0:Nat)=b' at hst hb2
    have hstep:=minus_step hxi hget hd hv hst
    clear r he hb
    conv=>whnf
    refine⟨⟨by omega,by omega⟩,?_⟩
    conv=>whnf
    refine⟨by rw[U_len];omega,U (out.set i e),U_store out i _ (by omega) (by simp),?_⟩
    conv=>whnf
    refine⟨((i+1:Nat):Int),by rw[wrap64]<;>omega,?_⟩
    conv=>whnf
    intro ρ3 w3 r3
    exact⟨(i+1,out.set i e,b',w3),⟨by dsimp only;omega,hw.tr r3.bel,by simp[hol],hlm1.set hlt,hb2,hstep⟩,
     Sub.gen [] r3 ⟨rfl,trivial⟩ ⟨rfl,rfl,rfl,rfl,rfl,rfl,trivial⟩ (by simp[ScH,Blk.scopd]) (by simp[ScE,SV.sc,At.sc]) (by rfl) (by simp),by dsimp only;omega⟩
  ·have hin:i=x.ls.length:=by
    have:¬i<x.ls.length:=by simpa using h
    omega
   subst hin
   have hfin:val out=n-m:=by
    rw[List.take_of_length_le (by omega),List.take_of_length_le hyx,List.take_length,hp1,hq1]at hv
    have h1:=val_lt hlm1
    rw[hol]at h1
    have:b=0∨b=1:=by omega
    rcases this with rfl|rfl
    ·omega
    ·omega
   conv=>whnf
   refine callE_free (Φ:=fun ρ _ v w2=>Limbs w2 (fun g=>g=(ρ 0).g) v (trimL out)) (H':=[]) 0 rfl (by simp) trivial rfl (fun ρ w' r=>r.nn 0 _ rfl (by intros;simp) (by simp)) (fun ρ w' r=>?_) ?_
   ·have hL:=r.ownLimbs (id:=0) rfl hlm1 (by omega)
    rw[hol]at hL
    exact trimmed_c (fun g hg=>by rw[hg];exact(r.low 0 _ rfl (r.nn 0 _ rfl (by intros;simp) (by simp))).2) hL
   rintro ρ w' v w2 r he hb hL
   replace hw:=hw.tr hb
   have hlow:=r.low 0 _ rfl (r.nn 0 _ rfl (by intros;simp) (by simp))
   generalize (ρ 0).g=g at*
   have hs:=he.size
   clear r he hb
   conv=>whnf
   intro ρ3 w3 r3
   refine⟨_,rfl,hw.tr r3.bel,trimL out,?_,(trimL_spec out).2.1,?_⟩
   ·refine(hL.keep fun k hk=>?_).weak fun k hk=>.inr ?_
    ·rw[hk]
     exact r3.nilBy.block g (by omega) (by simp)
    ·rw[hk]
     have:=r3.size
     omega
   ·rw[(trimL_spec out).1,hfin]
end Go.Ex

/- Product of natural numbers of package exact. No condition. -/
namespace Go.Ex
open Go Go.Sx Go.Proofs

theorem times_step{out:List Nat}{p o t c a:Nat}(ho:out[p]? =some o){V:Nat}(h:val out+wt p*c=V)(ht:t=a+o+c):
  val (out.set p (t % 4294967296))+wt (p+1)*(t / 4294967296)=V+wt p*a:=by
 have h1:=val_set (x:=t % 4294967296) ho
 rw[wt_succ]
 have h3:=Nat.div_add_mod t 4294967296
 generalize t / 4294967296=q at h3 ⊢
 generalize t % 4294967296=r at h3 h1 ⊢
 have h4:wt p*(4294967296*q+r)=wt p*(a+o+c):=by rw[h3,ht]
 rw[Nat.mul_add,Nat.mul_add,Nat.mul_add,←Nat.mul_assoc,Nat.mul_comm (wt p) 4294967296]at h4
 omega
/-- zeros from a place on -/
def Zf(out:List Nat)(p:Nat):Prop:=∀(j:Nat) z,p≤j→out[j]? =some z→z=0
theorem Zf.set{out:List Nat}{p k x:Nat}(h:Zf out p)(hk:k<p):Zf (out.set k x) p:=fun j z hj hz=>by
 rw[List.getElem?_set_ne (by omega)]at hz
 exact h j z hj hz
theorem mul_lt64{a b:Nat}(ha:a<4294967296)(hb:b<4294967296):a*b≤18446744065119617025:=by
 have:a*b≤4294967295*4294967295:=Nat.mul_le_mul (by omega) (by omega)
 omega

theorem times_c{S:Nat→Prop}{w:World}{v u:Value}{n m:Nat}(hS:Old S w)(hn:NatR w S v n)(hm:NatR w S u m)(hln:ln n≤1000000000000)(hlm:ln m≤1000000000000):
  Con PG N.exact_nat_times #[v,u] w (Ret w fun v' w2=>NatR w2 (Nw (fun _=>False) w w2) v' (n*m)):=by
 obtain⟨x,rfl,hp1,hp2⟩:=hn.la
 obtain⟨y,rfl,hq1,hq2⟩:=hm.la
 have hpl:=length_ln x.lm hp2
 rw[hp1]at hpl
 have hql:=length_ln y.lm hq2
 rw[hq1]at hql
 refine in_exact_nat_times (by simp) ?_
 conv=>whnf
 obtain⟨L,hL⟩:∃L,L=x.ls.length+y.ls.length:=⟨_,rfl⟩
 refine⟨(L:Int),by rw[wrap64]<;>omega,?_⟩
 conv=>whnf
 refine⟨L,L,rfl,rfl,Nat.le_refl _,by omega,by omega,?_⟩
 conv=>whnf
 refine⟨Nat×List Nat×World,fun z=>⟨[(1,.o (.v (.slice y.a y.ls.length y.c))),(5,.o (.s 0 0 L L)),(18,.o (.v (.slice x.a x.ls.length x.c))),(19,.o (.v (.int .i64 x.ls.length))),(20,.o (.v (.int .i64 z.1)))],
   [(0,.arr T.uint32 (U z.2.1))],1,[],z.2.2⟩,fun z=>x.ls.length-z.1,
  fun z=>z.1≤x.ls.length∧Bel w.heap.size w z.2.2∧z.2.1.length=L∧Lm z.2.1∧val z.2.1=val (x.ls.take z.1)*m∧Zf z.2.1 (z.1+y.ls.length),?_,?_⟩
 ·intro ρ w' r
  rw[U_zero]at r
  exact⟨(0,List.replicate L 0,w'),⟨by simp,r.bel,by simp,Lm.replicate _,by simp[val,val_replicate],fun j z _ hz=>by simp only[List.getElem?_replicate]at hz;split at hz<;>simp_all⟩,Sub.gen [] r ⟨rfl,trivial⟩ ⟨rfl,rfl,rfl,rfl,rfl,trivial⟩ (by simp[ScH,Blk.scopd]) (by simp[ScE,SV.sc,At.sc]) (by rfl) (by simp)⟩
 ·rintro⟨i,out,w1⟩ ⟨hi,hw,hol,hlm1,hv,hz⟩
  dsimp only at hi hw hol hlm1 hv hz ⊢
  conv=>whnf
  refine BrS.mk (fun h=>?_) (fun h=>?_)
  ·have h:i<x.ls.length:=by simpa using h
   obtain⟨xi,hxi⟩:∃k,x.ls[i]? =some k:=⟨_,List.getElem?_eq_getElem h⟩
   obtain⟨ad,had,hload⟩:=x.load hS hw hxi
   have hx32:=x.lm.at hxi
   conv=>whnf
   refine⟨ad,had,⟨by omega,by omega⟩,?_⟩
   conv=>whnf
   refine⟨.int .u32 xi,hload _ _ _,?_⟩
   conv=>whnf
   refine⟨Nat×List Nat×Nat×World,fun z=>⟨[(1,.o (.v (.slice y.a y.ls.length y.c))),(5,.o (.s 0 0 L L)),(18,.o (.v (.slice x.a x.ls.length x.c))),(19,.o (.v (.int .i64 x.ls.length))),(20,.o (.v (.int .i64 i))),
     (6,.o (.v (.int .i64 i))),(7,.o (.v (.int .u32 xi))),(8,.o (.v (.int .u64 z.2.2.1))),(25,.o (.v (.slice y.a y.ls.length y.c))),(26,.o (.v (.int .i64 y.ls.length))),(27,.o (.v (.int .i64 z.1)))],
     [(0,.arr T.uint32 (U z.2.1))],1,[],z.2.2.2⟩,fun z=>y.ls.length-z.1,
    fun z=>z.1≤y.ls.length∧Bel w.heap.size w z.2.2.2∧z.2.1.length=L∧Lm z.2.1∧z.2.2.1<4294967296∧val z.2.1+wt (i+z.1)*z.2.2.1=val (x.ls.take i)*m+wt i*xi*val (y.ls.take z.1)∧Zf z.2.1 (i+y.ls.length),?_,?_⟩
   ·intro ρ w' r
    exact⟨(0,out,0,w'),⟨by simp,hw.tr r.bel,hol,hlm1,by simp,by simp[val,hv],hz⟩,Sub.gen [] r ⟨rfl,trivial⟩ ⟨rfl,rfl,rfl,rfl,rfl,rfl,rfl,rfl,rfl,rfl,rfl,trivial⟩ (by simp[ScH,Blk.scopd]) (by simp[ScE,SV.sc,At.sc]) (by rfl) (by simp)⟩
   ·rintro⟨k,out,c,w1⟩ ⟨hk,hw,hol,hlm1,hc,hv,hz⟩
    dsimp only at hk hw hol hlm1 hc hv hz ⊢
    conv=>whnf
    refine BrS.mk (fun h2=>?_) (fun h2=>?_)
    ·have h2:k<y.ls.length:=by simpa using h2
     obtain⟨yk,hyk⟩:∃q,y.ls[k]? =some q:=⟨_,List.getElem?_eq_getElem h2⟩
     obtain⟨ad2,had2,hload2⟩:=y.load hS hw hyk
     have hy32:=y.lm.at hyk
     obtain⟨o,ho⟩:∃q,out[i+k]? =some q:=⟨_,List.getElem?_eq_getElem (by omega)⟩
     have ho32:=hlm1.at ho
     have hm64:=mul_lt64 hx32 hy32
     conv=>whnf
     refine⟨ad2,had2,⟨by omega,by omega⟩,?_⟩
     conv=>whnf
     refine⟨.int .u32 yk,hload2 _ _ _,?_⟩
     conv=>whnf
     refine⟨(xi:Int),wrapU64n (by omega),?_⟩
     conv=>whnf
     refine⟨(yk:Int),wrapU64n (by omega),?_⟩
     conv=>whnf
     refine⟨((xi*yk:Nat):Int),by rw[←Int.natCast_mul];exact wrapU64n (by omega),?_⟩
     conv=>whnf
     refine⟨((i+k:Nat):Int),by rw[wrap64]<;>omega,?_⟩
     conv=>whnf
     refine⟨⟨by omega,by omega⟩,?_⟩
     conv=>whnf
     refine⟨.int .u32 o,by rw[Int.toNat_natCast,Nat.zero_add,Nat.mul_one];exact U_get ho,?_⟩
     conv=>whnf
     refine⟨(o:Int),wrapU64n (by omega),?_⟩
     conv=>whnf
     refine⟨((xi*yk+o:Nat):Int),by rw[←Int.natCast_add];exact wrapU64n (by omega),?_⟩
     conv=>whnf
     obtain⟨t,ht⟩:∃t,t=xi*yk+o+c:=⟨_,rfl⟩
     refine⟨(t:Int),by rw[←Int.natCast_add,←ht];exact wrapU64n (by omega),?_⟩
     conv=>whnf
     refine⟨((i+k:Nat):Int),by rw[wrap64]<;>omega,?_⟩
     conv=>whnf
     refine⟨((t % 4294967296:Nat):Int),wrapU32n _,?_⟩
     conv=>whnf
     refine⟨by decide,((t / 4294967296:Nat):Int),fdiv_shr 32 (by decide),?_⟩
     conv=>whnf
     refine⟨⟨by omega,by omega⟩,?_⟩
     conv=>whnf
     refine⟨by rw[U_len];omega,U (out.set (i+k) (t % 4294967296)),U_store out (i+k) _ (by omega) (by simp only[Int.toNat_natCast];omega),?_⟩
     conv=>whnf
     refine⟨((k+1:Nat):Int),by rw[wrap64]<;>omega,?_⟩
     conv=>whnf
     intro ρ3 w3 r3
     refine⟨(k+1,out.set (i+k) (t % 4294967296),t / 4294967296,w3),⟨by dsimp only;omega,hw.tr r3.bel,by simp[hol],hlm1.set (Nat.mod_lt _ (by decide)),by dsimp only;omega,?_,hz.set (by omega)⟩,
      Sub.gen [] r3 ⟨rfl,trivial⟩ ⟨rfl,rfl,rfl,rfl,rfl,rfl,rfl,rfl,rfl,rfl,rfl,trivial⟩ (by simp[ScH,Blk.scopd]) (by simp[ScE,SV.sc,At.sc]) (by rfl) (by simp),by dsimp only;omega⟩
     have h5:=times_step (a:=xi*yk) ho hv ht
     dsimp only
     rw[show i+(k+1)=i+k+1 by omega,h5,val_take_succ hyk,wt_add,Nat.mul_add,Nat.add_assoc]
     congr 2
     simp only[Nat.mul_assoc,Nat.mul_left_comm,Nat.mul_comm]
    ·have hkn:k=y.ls.length:=by
      have:¬k<y.ls.length:=by simpa using h2
      omega
     subst hkn
     obtain⟨o,ho⟩:∃q,out[i+y.ls.length]? =some q:=⟨_,List.getElem?_eq_getElem (by omega)⟩
     have ho0:=hz _ _ (Nat.le_refl _) ho
     subst ho0
     conv=>whnf
     refine⟨((i+y.ls.length:Nat):Int),by rw[wrap64]<;>omega,?_⟩
     conv=>whnf
     refine⟨(c:Int),by rw[wrapU32n,Nat.mod_eq_of_lt hc],?_⟩
     conv=>whnf
     refine⟨⟨by omega,by omega⟩,?_⟩
     conv=>whnf
     refine⟨by rw[U_len];omega,U (out.set (i+y.ls.length) c),U_store out (i+y.ls.length) _ (by omega) (by simp only[Int.toNat_natCast];omega),?_⟩
     conv=>whnf
     refine⟨((i+1:Nat):Int),by rw[wrap64]<;>omega,?_⟩
     conv=>whnf
     intro ρ3 w3 r3
     refine⟨(i+1,out.set (i+y.ls.length) c,w3),⟨by dsimp only;omega,hw.tr r3.bel,by simp[hol],hlm1.set hc,?_,?_⟩,
      Sub.gen [] r3 ⟨rfl,trivial⟩ ⟨rfl,rfl,rfl,rfl,rfl,trivial⟩ (by simp[ScH,Blk.scopd]) (by simp[ScE,SV.sc,At.sc]) (by rfl) (by simp),by dsimp only;omega⟩
     ·have h5:=val_set (x:=c) ho
      dsimp only
      rw[List.take_length,hq1]at hv
      rw[val_take_succ hxi,Nat.add_mul]
      omega
     ·intro j z hj hjz
      dsimp only at hj
      rw[List.getElem?_set_ne (by omega)]at hjz
      exact hz j z (by omega) hjz
  ·have hin:i=x.ls.length:=by
    have:¬i<x.ls.length:=by simpa using h
    omega
   subst hin
   have hfin:val out=n*m:=by rw[hv,List.take_length,hp1]
   conv=>whnf
   refine callE_free (Φ:=fun ρ _ v w2=>Limbs w2 (fun g=>g=(ρ 0).g) v (trimL out)) (H':=[]) 0 rfl (by simp) trivial rfl (fun ρ w' r=>r.nn 0 _ rfl (by intros;simp) (by simp)) (fun ρ w' r=>?_) ?_
   ·have hL:=r.ownLimbs (id:=0) rfl hlm1 (by omega)
    rw[hol]at hL
    exact trimmed_c (fun g hg=>by rw[hg];exact(r.low 0 _ rfl (r.nn 0 _ rfl (by intros;simp) (by simp))).2) hL
   rintro ρ w' v w2 r he hb hL
   replace hw:=hw.tr hb
   have hlow:=r.low 0 _ rfl (r.nn 0 _ rfl (by intros;simp) (by simp))
   generalize (ρ 0).g=g at*
   have hs:=he.size
   clear r he hb
   conv=>whnf
   intro ρ3 w3 r3
   refine⟨_,rfl,hw.tr r3.bel,trimL out,?_,(trimL_spec out).2.1,?_⟩
   ·refine(hL.keep fun k hk=>?_).weak fun k hk=>.inr ?_
    ·rw[hk]
     exact r3.nilBy.block g (by omega) (by simp)
    ·rw[hk]
     have:=r3.size
     omega
   ·rw[(trimL_spec out).1,hfin]
end Go.Ex

/- Shifts and the division by one limb of package exact. No condition. -/
namespace Go.Ex
open Go Go.Sx Go.Proofs

theorem or_add{o q k:Nat}(ho:o<2^k):o ||| 2^k*q=o+2^k*q:=by
 rw[Nat.or_comm,←Nat.two_pow_add_eq_or_of_lt ho,Nat.add_comm]
theorem or64u{x y:Nat}(hx:x<18446744073709551616)(hy:y<18446744073709551616):IntKind.u64.wrap ((BitVec.ofInt IntKind.u64.bits x ||| BitVec.ofInt IntKind.u64.bits y).toNat:Int)=((x ||| y:Nat):Int):=by
 have e:∀z:Nat,BitVec.ofInt 64 (z:Int)=BitVec.ofNat 64 z:=fun z=>by
  apply BitVec.eq_of_toNat_eq
  simp
 show IntKind.u64.wrap ((BitVec.ofInt 64 x ||| BitVec.ofInt 64 y).toNat:Int)=_
 rw[e,e,BitVec.toNat_or,BitVec.toNat_ofNat,BitVec.toNat_ofNat,Nat.mod_eq_of_lt hx,Nat.mod_eq_of_lt hy]
 exact wrapU64n (Nat.or_lt_two_pow (n:=64) hx hy)
theorem shl64n{a k:Nat}(hk:k≤63)(h:a*2^k<18446744073709551616):IntKind.u64.wrap ((a:Int)*2^min ((k:Int)).toNat IntKind.u64.bits)=((a*2^k:Nat):Int):=by
 have h1:min ((k:Int)).toNat IntKind.u64.bits=k:=by show min ((k:Int)).toNat 64=k;omega
 rw[h1,show(a:Int)*2^k=((a*2^k:Nat):Int) by simp]
 exact wrapU64n h

theorem shift_step{out ls:List Nat}{i a o b:Nat}(ha:ls[i]? =some a)(ho:out[i]? =some o)(hz:out[i+1]? =some 0)(hv:val out=val (ls.take i)*2^b):
  val ((out.set i (o+a*2^b % 4294967296)).set (i+1) (a*2^b / 4294967296))=val (ls.take (i+1))*2^b:=by
 have h1:=val_set (x:=o+a*2^b % 4294967296) ho
 have h2:(out.set i (o+a*2^b % 4294967296))[i+1]? =some 0:=by rw[List.getElem?_set_ne (by omega)];exact hz
 have h3:=val_set (x:=a*2^b / 4294967296) h2
 rw[val_take_succ ha,Nat.add_mul,Nat.mul_assoc]
 rw[wt_succ]at h3
 generalize a*2^b=t at*
 have h4:=Nat.div_add_mod t 4294967296
 generalize t / 4294967296=q at*
 generalize t % 4294967296=r at*
 have h5:wt i*(o+r)=wt i*o+wt i*r:=Nat.mul_add _ _ _
 have h6:4294967296*wt i*q=wt i*(4294967296*q):=by rw[Nat.mul_comm 4294967296 (wt i),Nat.mul_assoc]
 rw[←h4,Nat.mul_add]
 omega

/-- a list of limbs in a new block of its own -/
def Fresh(w w2:World)(v:Value)(ls:List Nat):Prop:=∃g,v= .slice (some ⟨g,0,none⟩) ls.length ls.length∧w.heap.size≤g∧w2.heap[g]? =some (.cells (U ls).toArray T.uint32 (0,0))∧Lm ls

theorem shifted_c{S:Nat→Prop}{w:World}{v:Value}{ls:List Nat}{b:Nat}(hS:Old S w)(h:Limbs w S v ls)(hl:ls.length≤1000000000000)(hb:b<32):
  Con PG N.exact_nat_shifted #[v,.int .u64 b] w (Ret w fun v' w2=>∃out,Fresh w w2 v' out∧out.length=ls.length+1∧val out=val ls*2^b):=by
 obtain⟨x,rfl,rfl⟩:=h.la
 refine in_exact_nat_shifted (by simp) ?_
 have hp32:2^b≤2^31:=Nat.pow_le_pow_right (by decide) (by omega)
 conv=>whnf
 refine⟨((x.ls.length+1:Nat):Int),by rw[wrap64]<;>omega,?_⟩
 conv=>whnf
 refine⟨x.ls.length+1,x.ls.length+1,rfl,rfl,Nat.le_refl _,by omega,by omega,?_⟩
 conv=>whnf
 refine⟨Nat×List Nat×World,fun z=>⟨[(1,.o (.v (.int .u64 b))),(5,.o (.s 0 0 (x.ls.length+1) (x.ls.length+1))),(13,.o (.v (.slice x.a x.ls.length x.c))),(14,.o (.v (.int .i64 x.ls.length))),(15,.o (.v (.int .i64 z.1)))],
   [(0,.arr T.uint32 (U z.2.1))],1,[],z.2.2⟩,fun z=>x.ls.length-z.1,
  fun z=>z.1≤x.ls.length∧Bel w.heap.size w z.2.2∧z.2.1.length=x.ls.length+1∧Lm z.2.1∧val z.2.1=val (x.ls.take z.1)*2^b∧Zf z.2.1 (z.1+1)∧(∀o,z.2.1[z.1]? =some o→o<2^b),?_,?_⟩
 ·intro ρ w' r
  rw[U_zero]at r
  refine⟨(0,List.replicate (x.ls.length+1) 0,w'),⟨by simp,r.bel,by simp,Lm.replicate _,by simp[val,val_replicate],fun j z _ hz=>?_,fun o ho=>?_⟩,Sub.gen [] r ⟨rfl,trivial⟩ ⟨rfl,rfl,rfl,rfl,rfl,trivial⟩ (by simp[ScH,Blk.scopd]) (by simp[ScE,SV.sc,At.sc]) (by rfl) (by simp)⟩
  ·simp only[List.getElem?_replicate]at hz;split at hz<;>simp_all
  ·simp only[List.getElem?_replicate]at ho
   split at ho
   ·injection ho with ho;subst ho;exact Nat.two_pow_pos _
   ·cases ho
 ·rintro⟨i,out,w1⟩ ⟨hi,hw,hol,hlm1,hv,hz,hlow⟩
  dsimp only at hi hw hol hlm1 hv hz hlow ⊢
  conv=>whnf
  refine BrS.mk (fun h=>?_) (fun h=>?_)
  ·have h:i<x.ls.length:=by simpa using h
   obtain⟨a,hxi⟩:∃k,x.ls[i]? =some k:=⟨_,List.getElem?_eq_getElem h⟩
   obtain⟨ad,had,hload⟩:=x.load hS hw hxi
   have hx32:=x.lm.at hxi
   obtain⟨o,ho⟩:∃q,out[i]? =some q:=⟨_,List.getElem?_eq_getElem (by omega)⟩
   obtain⟨o1,ho1⟩:∃q,out[i+1]? =some q:=⟨_,List.getElem?_eq_getElem (by omega)⟩
   have e0:=hz _ _ (Nat.le_refl _) ho1
   subst e0
   have hlo:=hlow o ho
   have hstep:=shift_step hxi ho ho1 hv
   have hab:a*2^b≤4294967295*2^31:=Nat.mul_le_mul (by omega) hp32
   have hhi:a*2^b / 4294967296<2^b:=by
    rw[Nat.div_lt_iff_lt_mul (by decide),Nat.mul_comm (2^b)]
    exact Nat.mul_lt_mul_of_pos_right hx32 (Nat.two_pow_pos b)
   have hor:o ||| a*2^b % 4294967296=o+a*2^b % 4294967296:=by
    have:a*2^b % 4294967296=2^b*(a % 2^(32-b)):=by
     rw[show (4294967296:Nat)=2^(32-b)*2^b by rw[←Nat.pow_add,Nat.sub_add_cancel (by omega)],Nat.mul_mod_mul_right,Nat.mul_comm]
    rw[this]
    exact or_add hlo
   have hsm:o+a*2^b % 4294967296<4294967296:=by
    rw[←hor]
    exact or_lt32 (by omega) (Nat.mod_lt _ (by decide))
   conv=>whnf
   refine⟨ad,had,⟨by omega,by omega⟩,?_⟩
   conv=>whnf
   refine⟨.int .u32 a,hload _ _ _,?_⟩
   conv=>whnf
   refine⟨(a:Int),wrapU64n (by omega),?_⟩
   conv=>whnf
   refine⟨by omega,((a*2^b:Nat):Int),shl64n (by omega) (by omega),?_⟩
   generalize ht:a*2^b=t at*
   conv=>whnf
   refine⟨⟨by omega,by omega⟩,?_⟩
   conv=>whnf
   refine⟨.int .u32 o,by rw[Int.toNat_natCast,Nat.zero_add,Nat.mul_one];exact U_get ho,?_⟩
   conv=>whnf
   refine⟨((t % 4294967296:Nat):Int),wrapU32n _,?_⟩
   conv=>whnf
   refine⟨((o+t % 4294967296:Nat):Int),by rw[←hor];exact or32 (by omega) (Nat.mod_lt _ (by decide)),?_⟩
   conv=>whnf
   refine⟨⟨by omega,by omega⟩,?_⟩
   conv=>whnf
   refine⟨by rw[U_len];omega,U (out.set i (o+t % 4294967296)),U_store out i _ (by omega) (by simp),?_⟩
   conv=>whnf
   refine⟨((i+1:Nat):Int),by rw[wrap64]<;>omega,?_⟩
   conv=>whnf
   refine⟨by decide,((t / 4294967296:Nat):Int),fdiv_shr 32 (by decide),?_⟩
   conv=>whnf
   refine⟨((t / 4294967296:Nat):Int),by rw[wrapU32n];omega,?_⟩
   conv=>whnf
   refine⟨⟨by omega,by omega⟩,?_⟩
   conv=>whnf
   refine⟨by rw[U_len];simp;omega,U ((out.set i (o+t % 4294967296)).set (i+1) (t / 4294967296)),U_store _ (i+1) _ (by simp;omega) (by simp only[Int.toNat_natCast];omega),?_⟩
   conv=>whnf
   refine⟨((i+1:Nat):Int),by rw[wrap64]<;>omega,?_⟩
   conv=>whnf
   intro ρ3 w3 r3
   refine⟨(i+1,(out.set i (o+t % 4294967296)).set (i+1) (t / 4294967296),w3),⟨by dsimp only;omega,hw.tr r3.bel,by simp[hol],(hlm1.set hsm).set (by omega),hstep,fun j z hj hjz=>?_,fun o2 ho2=>?_⟩,
    Sub.gen [] r3 ⟨rfl,trivial⟩ ⟨rfl,rfl,rfl,rfl,rfl,trivial⟩ (by simp[ScH,Blk.scopd]) (by simp[ScE,SV.sc,At.sc]) (by rfl) (by simp),by dsimp only;omega⟩
   ·dsimp only at hj
    rw[List.getElem?_set_ne (by omega),List.getElem?_set_ne (by omega)]at hjz
    exact hz j z (by omega) hjz
   ·rw[List.getElem?_set_self (by simp;omega)]at ho2
    injection ho2 with ho2
    omega
  ·have hin:i=x.ls.length:=by
    have:¬i<x.ls.length:=by simpa using h
    omega
   subst hin
   rw[List.take_length]at hv
   conv=>whnf
   intro ρ3 w3 r3
   refine⟨_,rfl,hw.tr r3.bel,out,⟨(ρ3 0).g,by rw[hol];rfl,(r3.low 0 _ rfl (r3.nn 0 _ rfl (by intros;simp) (by simp))).1,r3.arr 0 _ _ rfl,hlm1⟩,hol,hv⟩
end Go.Ex

/- Shift back and the division by one limb of package exact. No condition. -/
namespace Go.Ex
open Go Go.Sx Go.Proofs

theorem back_step{out ls:List Nat}{i a d t b q:Nat}(ha32:a<4294967296)(ha:ls[i]? =some a)(hd:out[i]? =some d)(hb:b≤32)(ht:t=a+4294967296*ls.getD (i+1) 0)(hq:q=t / 2^b % 4294967296){V:Nat}(hv:val (out.take i)+wt i*(val (ls.drop i) / 2^b)=V):
  val ((out.set i q).take (i+1))+wt (i+1)*(val (ls.drop (i+1)) / 2^b)=V:=by
 have hi:=(List.getElem?_eq_some_iff.1 hd).1
 have h1:(out.set i q)[i]? =some q:=by rw[List.getElem?_set_self hi]
 rw[val_take_succ h1,List.take_set_of_le (Nat.le_refl _),wt_succ,←hv]
 have hN:=val_drop ha
 have h2:val (ls.drop i) / 2^b=q+4294967296*(val (ls.drop (i+1)) / 2^b):=by
  have e1:val (ls.drop i) / 2^b / 4294967296=val (ls.drop (i+1)) / 2^b:=by
   rw[Nat.div_div_eq_div_mul,Nat.mul_comm,←Nat.div_div_eq_div_mul]
   congr 1
   omega
  have e2:val (ls.drop i) / 2^b % 4294967296=q:=by
   have h3:∃z,val (ls.drop i)=t+2^b*(4294967296*z):=by
    cases hx:ls[i+1]? with
    |some y=>
     have:=val_drop hx
     refine⟨2^(32-b)*val (ls.drop (i+1+1)),?_⟩
     have h4:2^b*(4294967296*(2^(32-b)*val (ls.drop (i+1+1))))=18446744073709551616*val (ls.drop (i+1+1)):=by
      rw[Nat.mul_left_comm,←Nat.mul_assoc (2^b),←Nat.pow_add,Nat.add_sub_cancel' hb,←Nat.mul_assoc]
     rw[h4,hN,this,ht,List.getD,hx]
     simp only[Option.getD_some]
     omega
    |none=>
     refine⟨0,?_⟩
     have h5:ls.length≤i+1:=List.getElem?_eq_none_iff.1 hx
     rw[hN,List.drop_of_length_le h5,ht,List.getD,hx]
     simp[val]
   obtain⟨z,hz⟩:=h3
   rw[hz,Nat.add_mul_div_left _ _ (Nat.two_pow_pos b),Nat.add_mul_mod_self_left,hq]
  have:=Nat.div_add_mod (val (ls.drop i) / 2^b) 4294967296
  rw[e1,e2]at this
  omega
 rw[h2,Nat.mul_add,Nat.mul_comm 4294967296 (wt i),Nat.mul_assoc]
 omega

theorem back_c{S:Nat→Prop}{w:World}{v:Value}{ls:List Nat}{b:Nat}(hS:Old S w)(h:Limbs w S v ls)(hl:ls.length≤1000000000000)(hb:b<32):
  Con PG N.exact_nat_back #[v,.int .u64 b] w (Ret w fun v' w2=>NatR w2 (Nw (fun _=>False) w w2) v' (val ls / 2^b)):=by
 obtain⟨x,rfl,rfl⟩:=h.la
 refine in_exact_nat_back (by simp) ?_
 conv=>whnf
 refine⟨x.ls.length,x.ls.length,rfl,rfl,Nat.le_refl _,by omega,by omega,?_⟩
 conv=>whnf
 refine⟨Nat×List Nat×World,fun z=>⟨[(0,.o (.v (.slice x.a x.ls.length x.c))),(1,.o (.v (.int .u64 b))),(5,.o (.s 0 0 x.ls.length x.ls.length)),(12,.o (.v (.int .i64 x.ls.length))),(13,.o (.v (.int .i64 z.1)))],
   [(0,.arr T.uint32 (U z.2.1))],1,[],z.2.2⟩,fun z=>x.ls.length-z.1,
  fun z=>z.1≤x.ls.length∧Bel w.heap.size w z.2.2∧z.2.1.length=x.ls.length∧Lm z.2.1∧val (z.2.1.take z.1)+wt z.1*(val (x.ls.drop z.1) / 2^b)=val x.ls / 2^b,?_,?_⟩
 ·intro ρ w' r
  rw[U_zero]at r
  exact⟨(0,List.replicate x.ls.length 0,w'),⟨by simp,r.bel,by simp,Lm.replicate _,by simp[val,wt_zero]⟩,Sub.gen [] r ⟨rfl,trivial⟩ ⟨rfl,rfl,rfl,rfl,rfl,trivial⟩ (by simp[ScH,Blk.scopd]) (by simp[ScE,SV.sc,At.sc]) (by rfl) (by simp)⟩
 ·rintro⟨i,out,w1⟩ ⟨hi,hw,hol,hlm1,hv⟩
  dsimp only at hi hw hol hlm1 hv ⊢
  conv=>whnf
  refine BrS.mk (fun h=>?_) (fun h=>?_)
  ·have h:i<x.ls.length:=by simpa using h
   obtain⟨a,hxi⟩:∃k,x.ls[i]? =some k:=⟨_,List.getElem?_eq_getElem h⟩
   obtain⟨ad,had,hload⟩:=x.load hS hw hxi
   have hx32:=x.lm.at hxi
   obtain⟨d,hd⟩:∃q,out[i]? =some q:=⟨_,List.getElem?_eq_getElem (by omega)⟩
   conv=>whnf
   refine⟨ad,had,⟨by omega,by omega⟩,?_⟩
   conv=>whnf
   refine⟨.int .u32 a,hload _ _ _,?_⟩
   conv=>whnf
   refine⟨(a:Int),wrapU64n (by omega),?_⟩
   conv=>whnf
   refine⟨((i+1:Nat):Int),by rw[wrap64]<;>omega,?_⟩
   conv=>whnf
   refine BrS.mk (fun h2=>?_) (fun h2=>?_)
   ·have h2:i+1<x.ls.length:=by
     have:((i+1:Nat):Int)<x.ls.length:=of_decide_eq_true h2
     omega
    obtain⟨y,hy⟩:∃k,x.ls[i+1]? =some k:=⟨_,List.getElem?_eq_getElem h2⟩
    obtain⟨ad2,had2,hload2⟩:=x.load hS hw hy
    have hy32:=x.lm.at hy
    have hgd:x.ls.getD (i+1) 0=y:=by simp[List.getD,hy]
    have hor:a ||| y*2^32=a+4294967296*y:=by
     rw[Nat.mul_comm];exact or_add (k:=32) hx32
    conv=>whnf
    refine⟨((i+1:Nat):Int),by rw[wrap64]<;>omega,?_⟩
    conv=>whnf
    refine⟨ad2,had2,⟨by omega,by omega⟩,?_⟩
    conv=>whnf
    refine⟨.int .u32 y,hload2 _ _ _,?_⟩
    conv=>whnf
    refine⟨(y:Int),wrapU64n (by omega),?_⟩
    conv=>whnf
    refine⟨by decide,((y*2^32:Nat):Int),shl64n (k:=32) (by decide) (by omega),?_⟩
    conv=>whnf
    refine⟨((a+4294967296*y:Nat):Int),by rw[or64u (by omega) (by omega),hor],?_⟩
    conv=>whnf
    refine⟨by omega,(((a+4294967296*y) / 2^b:Nat):Int),fdiv_shr b (by omega),?_⟩
    conv=>whnf
    refine⟨(((a+4294967296*y) / 2^b % 4294967296:Nat):Int),wrapU32n _,?_⟩
    have hstep:=back_step (t:=a+4294967296*y) hx32 hxi hd (by omega) (by rw[hgd]) rfl hv
    generalize hq:(a+4294967296*y) / 2^b % 4294967296=q at*
    have hq32:q<4294967296:=by rw[←hq];exact Nat.mod_lt _ (by decide)
    conv=>whnf
    refine⟨⟨by omega,by omega⟩,?_⟩
    conv=>whnf
    refine⟨by rw[U_len];omega,U (out.set i q),U_store out i _ (by omega) (by simp),?_⟩
    conv=>whnf
    refine⟨((i+1:Nat):Int),by rw[wrap64]<;>omega,?_⟩
    conv=>whnf
    intro ρ3 w3 r3
    exact⟨(i+1,out.set i q,w3),⟨by dsimp only;omega,hw.tr r3.bel,by simp[hol],hlm1.set hq32,hstep⟩,
     Sub.gen [] r3 ⟨rfl,trivial⟩ ⟨rfl,rfl,rfl,rfl,rfl,trivial⟩ (by simp[ScH,Blk.scopd]) (by simp[ScE,SV.sc,At.sc]) (by rfl) (by simp),by dsimp only;omega⟩
   ·have h2:¬i+1<x.ls.length:=by
     have:¬((i+1:Nat):Int)<x.ls.length:=of_decide_eq_false h2
     omega
    have hgd:x.ls.getD (i+1) 0=0:=by simp[List.getD,List.getElem?_eq_none (show x.ls.length≤i+1 by omega)]
    conv=>whnf
    refine⟨by omega,((a / 2^b:Nat):Int),fdiv_shr b (by omega),?_⟩
    conv=>whnf
    refine⟨((a / 2^b % 4294967296:Nat):Int),wrapU32n _,?_⟩
    have hstep:=back_step (t:=a) hx32 hxi hd (by omega) (by rw[hgd];omega) rfl hv
    generalize hq:a / 2^b % 4294967296=q at*
    have hq32:q<4294967296:=by rw[←hq];exact Nat.mod_lt _ (by decide)
    conv=>whnf
    refine⟨⟨by omega,by omega⟩,?_⟩
    conv=>whnf
    refine⟨by rw[U_len];omega,U (out.set i q),U_store out i _ (by omega) (by simp),?_⟩
    conv=>whnf
    refine⟨((i+1:Nat):Int),by rw[wrap64]<;>omega,?_⟩
    conv=>whnf
    intro ρ3 w3 r3
    exact⟨(i+1,out.set i q,w3),⟨by dsimp only;omega,hw.tr r3.bel,by simp[hol],hlm1.set hq32,hstep⟩,
     Sub.gen [] r3 ⟨rfl,trivial⟩ ⟨rfl,rfl,rfl,rfl,rfl,trivial⟩ (by simp[ScH,Blk.scopd]) (by simp[ScE,SV.sc,At.sc]) (by rfl) (by simp),by dsimp only;omega⟩
  ·have hin:i=x.ls.length:=by
    have:¬i<x.ls.length:=by simpa using h
    omega
   subst hin
   have hfin:val out=val x.ls / 2^b:=by
    rw[List.drop_length,List.take_of_length_le (by omega)]at hv
    simpa [val]using hv
   conv=>whnf
   refine callE_free (Φ:=fun ρ _ v w2=>Limbs w2 (fun g=>g=(ρ 0).g) v (trimL out)) (H':=[]) 0 rfl (by simp) trivial rfl (fun ρ w' r=>r.nn 0 _ rfl (by intros;simp) (by simp)) (fun ρ w' r=>?_) ?_
   ·have hL:=r.ownLimbs (id:=0) rfl hlm1 (by omega)
    rw[hol]at hL
    exact trimmed_c (fun g hg=>by rw[hg];exact(r.low 0 _ rfl (r.nn 0 _ rfl (by intros;simp) (by simp))).2) hL
   rintro ρ w' v w2 r he hb hL
   replace hw:=hw.tr hb
   have hlow:=r.low 0 _ rfl (r.nn 0 _ rfl (by intros;simp) (by simp))
   generalize (ρ 0).g=g at*
   have hs:=he.size
   clear r he hb
   conv=>whnf
   intro ρ3 w3 r3
   refine⟨_,rfl,hw.tr r3.bel,trimL out,?_,(trimL_spec out).2.1,?_⟩
   ·refine(hL.keep fun k hk=>?_).weak fun k hk=>.inr ?_
    ·rw[hk]
     exact r3.nilBy.block g (by omega) (by simp)
    ·rw[hk]
     have:=r3.size
     omega
   ·rw[(trimL_spec out).1,hfin]
end Go.Ex
