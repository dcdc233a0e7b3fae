/- A part of the proof: texts L1 to X10. Each tells its conditions in its theorems. -/
import Derived.WalkKit
import Derived.KernelRfl
import Derived.Test.YtkdcaknoaeicdaaGreatProg
import Derived.Test.YtkdcaknoaeicdaaGreatP2
import Derived.Test.YtkdcaknoaeicdaaGreatP0
namespace Go.Ex
variable{a b ls:List Nat}{k:Nat}
def val:List Nat->Nat
 |[]=>0
 |x::r=>x+4294967296*val r
def Lm(ls:List Nat):Prop:=∀x∈ls,x<4294967296
def wt(k:Nat):Nat:=4294967296^k
theorem im:wt 0=1:=rfl
theorem iL(k:Nat):wt (k+1)=4294967296*wt k:=by rw[wt,Nat.pow_succ,bT];rfl
theorem BY(a b:Nat):wt (a+b)=wt a*wt b:=by rw[wt,Nat.pow_add];rfl
theorem xc(k:Nat):0<wt k:=Nat.pow_pos (by decide)
theorem kU(a b:List Nat):val (a++b)=val a+wt a.length*val b:=by
 induction a with
 |nil=>simp[val,im]
 |cons x r ih=>
  rw[List.cons_append,val,val,ih,List.length_cons,iL,bS,bh];omega
theorem nA(h:Lm ls):val ls<wt ls.length:=by
 induction ls with
 |nil=>exact Nat.one_pos
 |cons x r ih=>
  have h1:=h x (by simp);have h2:=ih (fun y hy=>h y (by simp[hy]));rw[val,List.length_cons,iL];have:4294967296*(val r+1)<=4294967296*wt r.length:=bW _ h2;omega
theorem eV(ls:List Nat)(k:Nat)(h:k<=ls.length):val ls=val (ls.take k)+wt k*val (ls.drop k):=by
 have:=kU (ls.take k) (ls.drop k);rw[List.take_append_drop,aY,Nat.min_eq_left h]at this;exact this
theorem dY{x:Nat}(h:ls[k]? =some x):val (ls.take (k+1))=val (ls.take k)+wt k*x:=by
 have hk:=(aE.1 h).1;rw[List.take_add_one,h,kU,aY,Nat.min_eq_left (by omega)];simp[val]
theorem iY{x:Nat}(h:ls[k]? =some x):val (ls.drop k)=x+4294967296*val (ls.drop (k+1)):=by
 obtain⟨hk,hx⟩:=aE.1 h;rw[List.drop_eq_getElem_cons hk,hx,val]
theorem wz{o x:Nat}(h:ls[k]? =some o):val (ls.set k x)+wt k*o=val ls+wt k*x:=by
 obtain⟨hk,ho⟩:=aE.1 h;have h1:=eV ls k (by omega);have h2:=eV (ls.set k x) k (by simp;omega);rw[List.take_set_of_le (aG _)]at h2;rw[iY h,bS]at h1;have h3:(ls.set k x)[k]? =some x:=by rw[aW hk]
 rw[iY h3,List.drop_set_of_lt (by omega),bS]at h2;omega
theorem mA(n:Nat):val (List.replicate n 0)=0:=by
 induction n with
 |zero=>rfl
 |succ n ih=>rw[List.replicate_succ,val,ih]
theorem Lm.set{x:Nat}(h:Lm ls)(hx:x<4294967296):Lm (ls.set k x):=fun y hy=>by
 rcases bI hy with h1|rfl
 ·exact h y h1
 ·exact hx
theorem Lm.replicate(n:Nat):Lm (List.replicate n 0):=fun x hx=>by rw[List.mem_replicate]at hx;omega
theorem Lm.take(h:Lm ls)(k:Nat):Lm (ls.take k):=fun x hx=>h x (List.mem_of_mem_take hx)
theorem Lm.drop(h:Lm ls)(k:Nat):Lm (ls.drop k):=fun x hx=>h x (List.mem_of_mem_drop hx)
theorem Lm.append(ha:Lm a)(hb:Lm b):Lm (a++b):=fun x hx=>by
 rcases bQ.1 hx with h|h
 ·exact ha x h
 ·exact hb x h
theorem Lm.at(h:Lm ls){x:Nat}(hx:ls[k]? =some x):x<4294967296:=h x (aD hx)
def dg:List Nat->List Nat
 |[]=>[]
 |x::r=>match dg r with
  |[]=>if x=0 then []else [x]
  |y::t=>x::y::t
def Nz(ls:List Nat):Prop:=∀x,ls.getLast? =some x->x≠0
theorem jo(ls:List Nat):dg (ls++[0])=dg ls:=by
 induction ls with
 |nil=>rfl
 |cons x r ih=>rw[List.cons_append,dg,ih,dg]
theorem nB(ls:List Nat){x:Nat}(hx:x≠0):dg (ls++[x])=ls++[x]:=by
 induction ls with
 |nil=>simp[dg,hx]
 |cons y r ih=>
  rw[List.cons_append,dg,ih]
  cases r<;>rfl
theorem rG(ls:List Nat):ls=[]∨∃a x,ls=a++[x]:=by
 rcases List.eq_nil_or_concat ls with h|⟨a,x,h⟩
 ·exact .inl h
 ·exact .inr ⟨a,x,by simpa using h⟩
theorem e8(ls:List Nat):val (dg ls)=val ls∧Nz (dg ls)∧∃k,k<=ls.length∧dg ls=ls.take k:=by
 have key:∀(n:Nat) (ls:List Nat),ls.length=n->val (dg ls)=val ls∧Nz (dg ls)∧∃k,k<=ls.length∧dg ls=ls.take k:=by
  intro n
  induction n with
  |zero=>intro ls h;have:ls=[]:=List.eq_nil_of_length_eq_zero h;subst this;exact⟨rfl,by simp[Nz,dg],0,aG _,rfl⟩
  |succ n ih=>
   intro ls h;rcases rG ls with rfl|⟨a,x,rfl⟩
   ·simp at h
   ·by_cases hx:x=0
    ·subst hx;rw[jo];obtain⟨h1,h2,k,h3,h4⟩:=ih a (by simp at h;omega);refine⟨by rw[h1,kU];simp[val],h2,k,by simp;omega,?_⟩;rw[h4,List.take_append_of_le_length h3]
    ·rw[nB a hx];refine⟨rfl,?_,_,aG _,by rw[bE]⟩;intro y hy;simp at hy;subst hy;exact hx
 exact key _ ls rfl
theorem Ct(h:Nz ls):dg ls=ls:=by
 rcases rG ls with rfl|⟨a,x,rfl⟩
 ·rfl
 ·exact nB a (h x (by simp))
theorem qY(h:Nz ls)(hne:ls≠[]):wt (ls.length-1)<=val ls:=by
 rcases rG ls with rfl|⟨a,x,rfl⟩
 ·exact absurd rfl hne
 ·have hx:=h x (by simp);rw[kU];simp only[val,List.length_append,List.length_singleton,Nat.add_sub_cancel]
  have:wt a.length*1<=wt a.length*(x+4294967296*0):=bW _ (by omega);omega
theorem val_inj:∀{a b:List Nat},Lm a->Lm b->a.length=b.length->val a=val b->a=b
 |[],[],_,_,_,_=>rfl
 |x::r,y::s,ha,hb,hl,h=>by
  have h1:=ha x (by simp);have h2:=hb y (by simp);rw[val,val]at h;have h3:x=y:=by omega
  have h4:val r=val s:=by omega
  rw[h3,val_inj (fun z hz=>ha z (by simp[hz])) (fun z hz=>hb z (by simp[hz])) (by simpa using hl) h4]
 |[],_::_,_,_,h,_=>by simp at h
 |_::_,[],_,_,h,_=>by simp at h
theorem A2{a b:Nat}(h:a<=b):wt a<=wt b:=Nat.pow_le_pow_right (by decide) h
theorem F6{a b:Nat}(h:a<b):wt a<wt b:=Nat.pow_lt_pow_right (by decide) h
theorem iM(ha:Lm a)(hb:Nz b)(h:a.length<b.length):val a<val b:=by
 have h1:=nA ha;have h2:=qY hb (by intro e;rw[e]at h;simp at h);have:=A2 (show a.length<=b.length-1 by omega);omega
def ln(n:Nat):Nat:=if n=0 then 0 else n.log2 / 32+1
theorem tw(k:Nat):wt k=2^(32*k):=by rw[wt,show(4294967296:Nat)=2^32 from rfl,<-Nat.pow_mul]
theorem fg{n k:Nat}:ln n<=k↔n<wt k:=by
 unfold ln;by_cases h:n=0
 ·rw[if_pos h,h];exact⟨fun _=>xc k,fun _=>aP _⟩
 ·rw[aK h,tw];constructor
  ·intro h1;have:n.log2<32*k:=by omega
   exact(Nat.log2_lt h).1 this
  ·intro h1;have:=(Nat.log2_lt h).2 h1;omega
theorem kV(n:Nat):n<wt (ln n):=fg.1 (aG _)
theorem eu{a b:Nat}(h:a<=b):ln a<=ln b:=fg.2 (Nat.lt_of_le_of_lt h (kV b))
theorem Kn(a b:Nat):ln (a+b)<=max (ln a) (ln b)+1:=by
 rw[fg,iL];have h1:=Nat.lt_of_lt_of_le (kV a) (A2 (Nat.le_max_left (ln a) (ln b)));have h2:=Nat.lt_of_lt_of_le (kV b) (A2 (Nat.le_max_right (ln a) (ln b)));omega
theorem Ko(a b:Nat):ln (a*b)<=ln a+ln b:=by
 rw[fg,BY];exact Nat.mul_lt_mul'' (kV a) (kV b)
theorem J5:ln 0=0:=rfl
theorem eE(h:Lm ls)(hz:Nz ls):ls.length=ln (val ls):=by
 by_cases hne:ls=[]
 ·subst hne;rfl
 ·have h1:=nA h;have h2:=qY hz hne;have h3:=fg.2 h1;have h4:¬ln (val ls)<=ls.length-1:=fun hh=>by have:=fg.1 hh;omega
  omega
end Go.Ex
namespace Go.Ex
open Go Go.Sx
variable{ls:List Nat}{g n:Nat}{p:Nat×Nat}{v:Value}
def Cv(S:Nat->Prop)(B:Nat)(iv:Iv)(g:Nat):Prop:=S g∨(B<=g∧∃lo hi,(lo,hi)∈iv∧lo<=g∧g<hi)
def Nw(S:Nat->Prop)(w w2:World)(g:Nat):Prop:=S g∨(w.heap.size<=g∧g<w2.heap.size)
def Old(S:Nat->Prop)(w:World):Prop:=∀g,S g->g<w.heap.size
section
variable{S S':Nat->Prop}{H:Hp}{nx:Nat}{iv iv':Iv}{B:Nat}{w w' w2:World}{O:Nat->df}
theorem Cv.mono(h:Cv S B iv g)(k:∀p,p∈iv->p∈iv'):Cv S B iv' g:=by
 rcases h with h|⟨h0,lo,hi,h1,h2⟩
 ·exact .inl h
 ·exact .inr ⟨h0,lo,hi,k _ h1,h2⟩
theorem Cv.cons(h:Cv S B iv g):Cv S B (p::iv) g:=h.mono fun q hq=>by simp[hq]
theorem Rel.old(r:Rel H nx iv B w O w')(hS:∀g,S g->g<B):Old (Cv S B iv) w':=by
 intro g h;rcases h with h|⟨_,lo,hi,h1,_,h3⟩
 ·have:=hS g h;have:=r.base;have:=r.size;omega
 ·have:=r.qV lo hi h1;have:=r.size;omega
theorem Rel.same(r:Rel H nx iv B w O w')(hS:∀g,S g->g<B)(h:Cv S B iv g):w'.heap[g]? =w.heap[g]? :=by
 rcases h with h|⟨_,lo,hi,h1,h2,h3⟩
 ·have:=hS g h;exact r.tk g (by have:=r.base;omega) fun id b hb hn he=>by have:=(r.low id b hb hn).1;omega
 ·exact r.tk g (by have:=r.qV lo hi h1;omega) fun id b hb hn he=>r.kC lo hi h1 id b hb hn ⟨by omega,by omega⟩
theorem Rel.not(r:Rel H nx iv B w O w')(hS:∀g,S g->g<B)(h:Cv S B iv g):∀id b,dA H id=some b->(O id).nil=false->(O id).g≠g:=by
 rcases h with h|⟨_,lo,hi,h1,h2,h3⟩
 ·have:=hS g h;exact fun id b hb hn he=>by have:=(r.low id b hb hn).1;omega
 ·exact fun id b hb hn he=>r.kC lo hi h1 id b hb hn ⟨by omega,by omega⟩
theorem Nw.cv{w1:World}(h:Nw (Cv S B iv) w' w1 g)(hB:B<=w'.heap.size):Cv S B ((w'.heap.size,w1.heap.size)::iv) g:=by
 rcases h with h|h
 ·exact h.cons
 ·exact .inr ⟨by omega,_,_,aJ,h.1,h.2⟩
theorem Cv.nw{w0:World}(h:Cv S w0.heap.size iv g)(r:Rel H nx iv w0.heap.size w O w'):Nw S w0 w' g:=by
 rcases h with h|⟨h0,lo,hi,h1,_,h3⟩
 ·exact .inl h
 ·exact .inr ⟨h0,by have:=r.qV lo hi h1;have:=r.size;omega⟩
structure dH(w:World)(S:Nat->Prop)(v:Value)(ls:List Nat):Prop where
 lm:Lm ls
 le:ls.length<=9223372036854775807
 sl:∃a c,v= .slice a ls.length c∧ls.length<=c∧∀(j:Nat) x,ls[j]? =some x->∃ad,a=some ad∧S ad.block∧w.cell? (ad.add j)=some (.int .u32 x)
theorem dQ(ad:Addr)(j:Nat):(ad.add j).block=ad.block:=by
 unfold Addr.add;split<;>rfl
theorem dH.cG(h:dH w S v ls)(hk:∀g,S g->w2.heap[g]? =w.heap[g]?):dH w2 S v ls:=by
 obtain⟨a,c,h1,hlc,h2⟩:=h.sl;refine⟨h.lm,h.le,a,c,h1,hlc,fun j x hx=>?_⟩;obtain⟨ad,h3,h4,h5⟩:=h2 j x hx;exact⟨ad,h3,h4,by rw[cH (hk _ (by rw[dQ];exact h4))];exact h5⟩
theorem dH.cI(h:dH w S v ls)(hk:∀g,S g->S' g):dH w S' v ls:=by
 obtain⟨a,c,h1,hlc,h2⟩:=h.sl;refine⟨h.lm,h.le,a,c,h1,hlc,fun j x hx=>?_⟩;obtain⟨ad,h3,h4,h5⟩:=h2 j x hx;exact⟨ad,h3,hk _ h4,h5⟩
theorem dH.rel(h:dH w (Cv S B iv) v ls)(r:Rel H nx iv B w O w')(hS:∀g,S g->g<B):dH w' (Cv S B iv) v ls:=h.cG fun _g hg=>Rel.same r hS hg
theorem dH.nil(w:World)(S:Nat->Prop):dH w S (.slice none 0 0) []:=⟨by simp[Lm],by simp,none,0,rfl,aG _,by simp⟩
def dh(w:World)(S:Nat->Prop)(v:Value)(n:Nat):Prop:=∃ls,dH w S v ls∧Nz ls∧val ls=n
theorem dh.cG(h:dh w S v n)(hk:∀g,S g->w2.heap[g]? =w.heap[g]?):dh w2 S v n:=by
 obtain⟨ls,h1,h2,h3⟩:=h;exact⟨ls,h1.cG hk,h2,h3⟩
theorem dh.cI(h:dh w S v n)(hk:∀g,S g->S' g):dh w S' v n:=by
 obtain⟨ls,h1,h2,h3⟩:=h;exact⟨ls,h1.cI hk,h2,h3⟩
theorem dh.nil(w:World)(S:Nat->Prop):dh w S (.slice none 0 0) 0:=⟨[],dH.nil w S,by simp[Nz],rfl⟩
end
abbrev Nf(w w2:World):Nat->Prop:=Nw (fun _=>False) w w2
abbrev Cf(w:World):Iv->Nat->Prop:=Cv (fun _=>False) w.heap.size
section
variable{S:Nat->Prop}{H:Hp}{nx:Nat}{iv:Iv}{B i n:Nat}{w w1 w':World}{O:Nat->Sx.df}{ad:Addr}{cs:List Value}{x:Value}
theorem kS(hw:cV B w w1)(r:Rel H nx iv B w1 O w')(hS:∀g,S g->g<B):∀g,S g->w'.heap[g]? =w.heap[g]? :=fun g hg=>(hw.tr r.cM).block g (hS g hg)
theorem oS(hS:∀g,S g->g<B)(r:Rel H nx iv B w O w'):∀g,S g->g<w'.heap.size:=fun g hg=>by have:=hS g hg;have:=r.base;have:=r.size;omega
theorem rdO(hl:∀(j:Nat) u,cs[j]? =some u->S ad.block∧w.cell? ((ad.add (i*n)).add j)=some u)(hw:cV B w w1)(hS:∀g,S g->g<B):∀O w',Rel H nx iv B w1 O w'->∀(j:Nat) u,cs[j]? =some u->w'.cell? ((ad.add ((i:Int).toNat*n)).add j)=some u:=fun O w' r j u hu=>by
 obtain⟨k1,k2⟩:=hl j u hu;rw[aF,cH (w:=w) (w2:=w') (by rw[dQ,dQ];exact(hw.tr r.cM).block _ (hS _ k1))];exact k2
theorem rd1(hl:w.cell? (ad.add (i*n))=some x)(hw:cV B w w1)(hb:ad.block<B):∀O w',Rel H nx iv B w1 O w'->w'.cell? (ad.add ((i:Int).toNat*n))=some x:=fun O w' r=>by
 rw[aF,cH (w:=w) (w2:=w') (by rw[dQ];exact(hw.tr r.cM).block _ hb)];exact hl
end
end Go.Ex
namespace Go.Ex
open Go Go.Sx Go.Proofs
variable{args:Array Value}{R:Ending->World->Prop}{ls:List Nat}{k n:Nat}{S:Nat->Prop}{O:Nat->Sx.df}{v:Value}{w:World}
noncomputable abbrev PG:Program:=Tryz.prog
def slT(e:Nat):TI:={size:=1,bytes:=24,zero:=[.slice none 0 0],agg:=false,tag:=4,elem:=e}
def MC:List (Nat×TI):=[
 (3,{size:=1,bytes:=8,zero:=[.int .i64 0],agg:=false,tag:=1,ik:=.i64}),
 (4,{size:=1,bytes:=1,zero:=[.bool false],agg:=false,tag:=2}),
 (47,{size:=4,bytes:=64,zero:=[.bool false,.slice none 0 0,.bool false,.slice none 0 0],agg:=true,tag:=5,fields:=[(0,45),(2,45)]}),
 (31,slT 47),
 (26,{size:=3,bytes:=72,zero:=[.slice none 0 0,.slice none 0 0,.slice none 0 0],agg:=true,tag:=5,fields:=[(0,22),(1,23),(2,24)]}),
 (32,{size:=1,bytes:=8,zero:=[.int .i64 0],agg:=false,tag:=1,ik:=.i64}),
 (92,slT 3),
 (45,{size:=2,bytes:=32,zero:=[.bool false,.slice none 0 0],agg:=true,tag:=5,fields:=[(0,4),(1,43)]}),
 (226,slT 220),
 (53,slT 31),
 (220,{size:=1,bytes:=4,zero:=[.int .u32 0],agg:=false,tag:=1,ik:=.u32}),
 (27,slT 147),
 (228,{size:=2,bytes:=32,zero:=[.bool false,.slice none 0 0],agg:=true,tag:=5,fields:=[(0,4),(1,226)]}),
 (253,{size:=1,bytes:=8,zero:=[.int .u64 0],agg:=false,tag:=1,ik:=.u64}),
 (151,{size:=2,bytes:=32,zero:=[.slice none 0 0,.int .i64 0],agg:=true,tag:=5,fields:=[(0,53),(1,3)]}),
 (79,slT 84),
 (230,{size:=4,bytes:=64,zero:=[.bool false,.slice none 0 0,.bool false,.slice none 0 0],agg:=true,tag:=5,fields:=[(0,228),(2,228)]}),
 (23,slT 143),
 (98,slT 123),
 (147,{size:=4,bytes:=32,zero:=[.int .i64 0,.int .i64 0,.int .i64 0,.int .i64 0],agg:=true,tag:=5,fields:=[(0,3),(1,3),(2,3),(3,3)]}),
 (91,slT 27),
 (22,slT 169),
 (64,slT 92),
 (24,slT 145),
 (43,slT 220),
 (169,{size:=3,bytes:=24,zero:=[.int .i64 0,.int .i64 0,.int .i64 0],agg:=true,tag:=5,fields:=[(0,3),(1,3),(2,3)]}),
 (143,{size:=6,bytes:=80,zero:=[.int .i64 0,.int .i64 0,.bool false,.slice none 0 0,.bool false,.slice none 0 0],agg:=true,tag:=5,fields:=[(0,3),(1,3),(2,47)]}),
 (123,{size:=8,bytes:=128,zero:=[.bool false,.slice none 0 0,.bool false,.slice none 0 0,.bool false,.slice none 0 0,.bool false,.slice none 0 0],agg:=true,tag:=5,fields:=[(0,47),(4,47)]}),
 (84,{size:=8,bytes:=128,zero:=[.bool false,.slice none 0 0,.bool false,.slice none 0 0,.bool false,.slice none 0 0,.bool false,.slice none 0 0],agg:=true,tag:=5,fields:=[(0,47),(4,47)]}),
 (154,{size:=4,bytes:=80,zero:=[.slice none 0 0,.int .i64 0,.slice none 0 0,.slice none 0 0],agg:=true,tag:=5,fields:=[(0,151),(2,92),(3,92)]}),
 (68,{size:=3,bytes:=24,zero:=[.int .i64 0,.int .i64 0,.int .i64 0],agg:=true,tag:=5,fields:=[(0,3),(1,3),(2,3)]}),
 (145,{size:=6,bytes:=80,zero:=[.int .i64 0,.int .i64 0,.bool false,.slice none 0 0,.bool false,.slice none 0 0],agg:=true,tag:=5,fields:=[(0,3),(1,3),(2,47)]}),
 (189,{size:=3,bytes:=24,zero:=[.int .i64 0,.int .i64 0,.int .i64 0],agg:=true,tag:=6,z8:=3,elem:=3}),
 (125,{size:=10,bytes:=176,zero:=[.bool false,.slice none 0 0,.bool false,.slice none 0 0,.bool false,.slice none 0 0,.bool false,.slice none 0 0,.slice none 0 0,.slice none 0 0],agg:=true,tag:=5,fields:=[(0,123),(8,92),(9,92)]}),
 (115,slT 125),
 (106,{size:=3,bytes:=56,zero:=[.int .i64 0,.slice none 0 0,.slice none 0 0],agg:=true,tag:=5,fields:=[(0,3),(1,31),(2,31)]}),
 (254,{size:=1,bytes:=8,zero:=[.int .u64 0],agg:=false,tag:=1,ik:=.u64}),
 (187,{size:=2,bytes:=16,zero:=[.int .i64 0,.int .i64 0],agg:=true,tag:=5,fields:=[(0,3),(1,3)]}),
 (185,{size:=1,bytes:=8,zero:=[.map none],agg:=false,tag:=0}),
 (87,{size:=2,bytes:=48,zero:=[.slice none 0 0,.slice none 0 0],agg:=true,tag:=6,z8:=2,elem:=27}),
 (130,{size:=2,bytes:=48,zero:=[.slice none 0 0,.slice none 0 0],agg:=true,tag:=5,fields:=[(0,92),(1,79)]}),
 (9,{size:=1,bytes:=16,zero:=[.string ⟨#[]⟩],agg:=false,tag:=3}),
 (204,{size:=1,bytes:=8,zero:=[.pointer none],agg:=false,tag:=7}),
 (224,slT 4),
 (88,{size:=2,bytes:=16,zero:=[.int .i64 0,.int .i64 0],agg:=true,tag:=6,z8:=2,elem:=3}),
 (194,{size:=80,bytes:=640,zero:=[.int .i64 0,.int .i64 0,.int .i64 0,.int .i64 0,.int .i64 0,.int .i64 0,.int .i64 0,.int .i64 0,.int .i64 0,.int .i64 0,.int .i64 0,.int .i64 0,.int .i64 0,.int .i64 0,.int .i64 0,.int .i64 0,.int .i64 0,.int .i64 0,.int .i64 0,.int .i64 0,.int .i64 0,.int .i64 0,.int .i64 0,.int .i64 0,.int .i64 0,.int .i64 0,.int .i64 0,.int .i64 0,.int .i64 0,.int .i64 0,.int .i64 0,.int .i64 0,.int .i64 0,.int .i64 0,.int .i64 0,.int .i64 0,.int .i64 0,.int .i64 0,.int .i64 0,.int .i64 0,.int .i64 0,.int .i64 0,.int .i64 0,.int .i64 0,.int .i64 0,.int .i64 0,.int .i64 0,.int .i64 0,.int .i64 0,.int .i64 0,.int .i64 0,.int .i64 0,.int .i64 0,.int .i64 0,.int .i64 0,.int .i64 0,.int .i64 0,.int .i64 0,.int .i64 0,.int .i64 0,.int .i64 0,.int .i64 0,.int .i64 0,.int .i64 0,.int .i64 0,.int .i64 0,.int .i64 0,.int .i64 0,.int .i64 0,.int .i64 0,.int .i64 0,.int .i64 0,.int .i64 0,.int .i64 0,.int .i64 0,.int .i64 0,.int .i64 0,.int .i64 0,.int .i64 0,.int .i64 0],agg:=true,tag:=6,z8:=20,elem:=147}),
 (42,{size:=1,bytes:=8,zero:=[.nilFunc],agg:=false,tag:=0}),
 (195,{size:=1,bytes:=8,zero:=[.pointer none],agg:=false,tag:=7}),
 (199,{size:=1,bytes:=8,zero:=[.nilFunc],agg:=false,tag:=0}),
 (5,{size:=1,bytes:=1,zero:=[.int .u8 0],agg:=false,tag:=1,ik:=.u8}),
 (8,{size:=4,bytes:=24,zero:=[.int .i64 0,.int .i64 0,.bool false,.int .u8 0],agg:=true,tag:=5,fields:=[(0,2),(1,3),(2,4),(3,6)]}),
 (10,{size:=1,bytes:=16,zero:=[.string ⟨#[]⟩],agg:=false,tag:=3}),
 (11,{size:=1,bytes:=16,zero:=[.string ⟨#[]⟩],agg:=false,tag:=3}),
 (14,{size:=2,bytes:=24,zero:=[.string ⟨#[]⟩,.int .u64 0],agg:=true,tag:=5,fields:=[(0,9),(1,12)]}),
 (15,{size:=1,bytes:=8,zero:=[.pointer none],agg:=false,tag:=7}),
 (16,{size:=1,bytes:=8,zero:=[.pointer none],agg:=false,tag:=7}),
 (19,{size:=1,bytes:=8,zero:=[.pointer none],agg:=true,tag:=5,fields:=[(0,17)]}),
 (17,{size:=1,bytes:=8,zero:=[.pointer none],agg:=false,tag:=7}),
 (276,{size:=1,bytes:=1,zero:=[.int .u8 0],agg:=false,tag:=1,ik:=.u8}),
 (2,{size:=1,bytes:=8,zero:=[.int .i64 0],agg:=false,tag:=1,ik:=.i64}),
 (6,{size:=1,bytes:=1,zero:=[.int .u8 0],agg:=false,tag:=1,ik:=.u8}),
 (12,{size:=1,bytes:=8,zero:=[.int .u64 0],agg:=false,tag:=1,ik:=.u64})]
def τ:mL:=wk MC
theorem hτ:fG PG τ:=Kh (l:=MC) (by kernel_rfl)
theorem db:PG.follows .mixedOrders=true:=by rfl
noncomputable def bd (f:Func):Code:=match f.body with
 |some c=>c
 |none=>.skip
theorem dD{f:FuncId}{fn:Func}(hf:PG.funcs[f]? =some fn)(hb:fn.body=some (bd fn))(hnm:(fn.name== "runtime.NumGoroutine")=false)
  (hn:args.size<=fn.ntmps) (hok:codeOk fn.ntmps (bd fn)=true) (h:lr PG τ w.heap.size (bd fn) (fW 0 args.toList) [] 0 [] w (Km τ w.heap.size fn.results.toList R)):dm PG f args w R:=
 ⟨GO hf hb hnm,Cs hτ hf hb hn hok h⟩
abbrev T.int:Nat:=3
abbrev T.bool:Nat:=4
abbrev T.string:Nat:=9
abbrev T.Frame:Nat:=26
abbrev T.gO:Nat:=31
abbrev T.Int:Nat:=45
abbrev T.Rat:Nat:=47
abbrev T.yY:Nat:=68
abbrev T.Lint:Nat:=92
abbrev T.MU:Nat:=143
abbrev T.xF:Nat:=145
abbrev T.M9:Nat:=147
abbrev T.dc:Nat:=151
abbrev T.dN:Nat:=154
abbrev T.Node:Nat:=169
abbrev T.wB:Nat:=185
abbrev T.Bd:Nat:=187
abbrev T.uint32:Nat:=220
abbrev T.nat:Nat:=226
abbrev T.number:Nat:=228
abbrev T.DV:Nat:=230
abbrev T.row:Nat:=0
abbrev N.jt:Nat:=4
abbrev N.oo:Nat:=15
abbrev N.Aj:Nat:=16
abbrev N.vI:Nat:=17
abbrev N.mX:Nat:=18
abbrev N.oq:Nat:=21
abbrev N.k7:Nat:=22
abbrev N.lO:Nat:=23
abbrev N.ot:Nat:=24
abbrev N.vJ:Nat:=25
abbrev N.rS:Nat:=26
abbrev N.ou:Nat:=27
abbrev N.s7:Nat:=28
abbrev N.mY:Nat:=29
abbrev N.ov:Nat:=30
abbrev N.ow:Nat:=31
abbrev N.rT:Nat:=32
abbrev N.Ak:Nat:=33
abbrev N.jJ:Nat:=34
abbrev N.Al:Nat:=36
abbrev N.Am:Nat:=37
abbrev N.q9:Nat:=39
abbrev N.qc:Nat:=42
abbrev N.k8:Nat:=43
abbrev N.s8:Nat:=45
abbrev N.vK:Nat:=69
abbrev N.qd:Nat:=72
abbrev N.An:Nat:=74
abbrev N.rU:Nat:=75
abbrev N.DW:Nat:=76
abbrev N.qe:Nat:=80
abbrev N.vL:Nat:=81
abbrev N.s9:Nat:=82
abbrev N.oB:Nat:=83
abbrev N.iG:Nat:=84
abbrev N.k9:Nat:=85
abbrev N.ox:Nat:=86
abbrev N.ic:Nat:=87
abbrev N.iW:Nat:=88
abbrev N.oy:Nat:=89
abbrev N.sd:Nat:=90
abbrev N.oz:Nat:=91
abbrev N.qf:Nat:=92
abbrev N.yZ:Nat:=95
abbrev N.lP:Nat:=97
abbrev N.vM:Nat:=98
abbrev N.vN:Nat:=99
abbrev N.se:Nat:=100
abbrev N.mD:Nat:=101
abbrev N.pA:Nat:=102
abbrev N.sf:Nat:=103
abbrev N.nM:Nat:=104
abbrev N.rV:Nat:=105
abbrev N.sh:Nat:=106
abbrev N.Ao:Nat:=107
abbrev N.y8:Nat:=108
abbrev N.vO:Nat:=109
abbrev N.si:Nat:=110
abbrev N.Ap:Nat:=111
abbrev N.y9:Nat:=112
abbrev N.pB:Nat:=113
abbrev N.fw:Nat:=114
abbrev N.pC:Nat:=115
abbrev N.fD:Nat:=116
abbrev N.vP:Nat:=117
abbrev N.uI:Nat:=118
abbrev N.kc:Nat:=119
abbrev N.mZ:Nat:=120
abbrev N.uJ:Nat:=125
abbrev N.sj:Nat:=132
abbrev N.uK:Nat:=139
abbrev N.jh:Nat:=140
abbrev N.qg:Nat:=141
abbrev N.sk:Nat:=142
abbrev N.vQ:Nat:=143
abbrev N.sn:Nat:=144
abbrev N.vR:Nat:=145
abbrev N.nN:Nat:=146
abbrev N.ja:Nat:=147
abbrev N.ke:Nat:=148
abbrev N.vS:Nat:=149
abbrev N.uL:Nat:=150
abbrev N.Aq:Nat:=152
abbrev N.nO:Nat:=153
abbrev N.qh:Nat:=154
abbrev N.vT:Nat:=155
abbrev N.qi:Nat:=156
abbrev N.qj:Nat:=157
abbrev N.uM:Nat:=159
abbrev N.Ar:Nat:=160
abbrev N.mE:Nat:=161
abbrev N.DX:Nat:=162
abbrev N.fR:Nat:=163
abbrev N.vU:Nat:=164
abbrev N.kf:Nat:=165
abbrev N.lQ:Nat:=166
abbrev N.uN:Nat:=168
abbrev N.ju:Nat:=174
abbrev N.jv:Nat:=175
abbrev N.vV:Nat:=176
abbrev N.so:Nat:=177
abbrev N.ya:Nat:=178
abbrev N.yb:Nat:=179
abbrev N.As:Nat:=180
abbrev N.qk:Nat:=181
abbrev N.ss:Nat:=182
abbrev N.sw:Nat:=183
abbrev N.ji:Nat:=184
abbrev N.vW:Nat:=185
abbrev N.jw:Nat:=186
abbrev N.lS:Nat:=187
abbrev N.yc:Nat:=188
abbrev N.lT:Nat:=189
abbrev N.vX:Nat:=190
abbrev N.yd:Nat:=191
abbrev N.kg:Nat:=192
abbrev N.ma:Nat:=193
abbrev N.jk:Nat:=194
abbrev N.lV:Nat:=195
abbrev N.lW:Nat:=196
abbrev N.lX:Nat:=197
abbrev N.kh:Nat:=198
abbrev N.tA:Nat:=199
abbrev N.mb:Nat:=200
abbrev N.oC:Nat:=201
abbrev N.pD:Nat:=202
abbrev N.ql:Nat:=203
abbrev N.oD:Nat:=204
abbrev N.fU:Nat:=205
abbrev N.oE:Nat:=206
abbrev N.jx:Nat:=207
abbrev N.lY:Nat:=208
abbrev N.oF:Nat:=209
abbrev N.pE:Nat:=210
abbrev N.ye:Nat:=211
abbrev N.yf:Nat:=212
abbrev N.yg:Nat:=213
abbrev N.pF:Nat:=214
abbrev Ent(g:Nat)(f:Func):Prop:=∀{args:Array Value} {w:World} {R:Ending->World->Prop},args.size<=f.ntmps->lr PG τ w.heap.size (bd f) (fW 0 args.toList) [] 0 [] w (Km τ w.heap.size f.results.toList R)->dm PG g args w R
theorem nP:Ent N.jt Tryz.f4:=fun hn h=>dD Tryz.func4 (by rfl) (by rfl) hn (by rfl) h
theorem yh:Ent N.oo Tryz.f15:=fun hn h=>dD Tryz.func15 (by rfl) (by rfl) hn (by rfl) h
theorem Be:Ent N.Aj Tryz.f16:=fun hn h=>dD Tryz.func16 (by rfl) (by rfl) hn (by rfl) h
theorem yi:Ent N.vI Tryz.f17:=fun hn h=>dD Tryz.func17 (by rfl) (by rfl) hn (by rfl) h
theorem qP:Ent N.mX Tryz.f18:=fun hn h=>dD Tryz.func18 (by rfl) (by rfl) hn (by rfl) h
theorem tB:Ent N.oq Tryz.f21:=fun hn h=>dD Tryz.func21 (by rfl) (by rfl) hn (by rfl) h
theorem lZ:Ent N.k7 Tryz.f22:=fun hn h=>dD Tryz.func22 (by rfl) (by rfl) hn (by rfl) h
theorem yj:Ent N.lO Tryz.f23:=fun hn h=>dD Tryz.func23 (by rfl) (by rfl) hn (by rfl) h
theorem tC:Ent N.ot Tryz.f24:=fun hn h=>dD Tryz.func24 (by rfl) (by rfl) hn (by rfl) h
theorem yl:Ent N.vJ Tryz.f25:=fun hn h=>dD Tryz.func25 (by rfl) (by rfl) hn (by rfl) h
theorem qm:Ent N.rS Tryz.f26:=fun hn h=>dD Tryz.func26 (by rfl) (by rfl) hn (by rfl) h
theorem tD:Ent N.ou Tryz.f27:=fun hn h=>dD Tryz.func27 (by rfl) (by rfl) hn (by rfl) h
theorem wC:Ent N.s7 Tryz.f28:=fun hn h=>dD Tryz.func28 (by rfl) (by rfl) hn (by rfl) h
theorem qQ:Ent N.mY Tryz.f29:=fun hn h=>dD Tryz.func29 (by rfl) (by rfl) hn (by rfl) h
theorem tE:Ent N.ov Tryz.f30:=fun hn h=>dD Tryz.func30 (by rfl) (by rfl) hn (by rfl) h
theorem pG:Ent N.ow Tryz.f31:=fun hn h=>dD Tryz.func31 (by rfl) (by rfl) hn (by rfl) h
theorem zi:Ent N.rT Tryz.f32:=fun hn h=>dD Tryz.func32 (by rfl) (by rfl) hn (by rfl) h
theorem Bf:Ent N.Ak Tryz.f33:=fun hn h=>dD Tryz.func33 (by rfl) (by rfl) hn (by rfl) h
theorem wD:Ent N.jJ Tryz.f34:=fun hn h=>dD Tryz.func34 (by rfl) (by rfl) hn (by rfl) h
theorem Bg:Ent N.Al Tryz.f36:=fun hn h=>dD Tryz.func36 (by rfl) (by rfl) hn (by rfl) h
theorem Bh:Ent N.Am Tryz.f37:=fun hn h=>dD Tryz.func37 (by rfl) (by rfl) hn (by rfl) h
theorem uO:Ent N.q9 Tryz.f39:=fun hn h=>dD Tryz.func39 (by rfl) (by rfl) hn (by rfl) h
theorem uP:Ent N.qc Tryz.f42:=fun hn h=>dD Tryz.func42 (by rfl) (by rfl) hn (by rfl) h
theorem oH:Ent N.k8 Tryz.f43:=fun hn h=>dD Tryz.func43 (by rfl) (by rfl) hn (by rfl) h
theorem wE:Ent N.s8 Tryz.f45:=fun hn h=>dD Tryz.func45 (by rfl) (by rfl) hn (by rfl) h
theorem ym:Ent N.vK Tryz.f69:=fun hn h=>dD Tryz.func69 (by rfl) (by rfl) hn (by rfl) h
theorem uQ:Ent N.qd Tryz.f72:=fun hn h=>dD Tryz.func72 (by rfl) (by rfl) hn (by rfl) h
theorem Bi:Ent N.An Tryz.f74:=fun hn h=>dD Tryz.func74 (by rfl) (by rfl) hn (by rfl) h
theorem qn:Ent N.rU Tryz.f75:=fun hn h=>dD Tryz.func75 (by rfl) (by rfl) hn (by rfl) h
theorem DY:Ent N.DW Tryz.f76:=fun hn h=>dD Tryz.func76 (by rfl) (by rfl) hn (by rfl) h
theorem uR:Ent N.qe Tryz.f80:=fun hn h=>dD Tryz.func80 (by rfl) (by rfl) hn (by rfl) h
theorem yn:Ent N.vL Tryz.f81:=fun hn h=>dD Tryz.func81 (by rfl) (by rfl) hn (by rfl) h
theorem wF:Ent N.s9 Tryz.f82:=fun hn h=>dD Tryz.func82 (by rfl) (by rfl) hn (by rfl) h
theorem rW:Ent N.oB Tryz.f83:=fun hn h=>dD Tryz.func83 (by rfl) (by rfl) hn (by rfl) h
theorem jB:Ent N.iG Tryz.f84:=fun hn h=>dD Tryz.func84 (by rfl) (by rfl) hn (by rfl) h
theorem l8:Ent N.k9 Tryz.f85:=fun hn h=>dD Tryz.func85 (by rfl) (by rfl) hn (by rfl) h
theorem tF:Ent N.ox Tryz.f86:=fun hn h=>dD Tryz.func86 (by rfl) (by rfl) hn (by rfl) h
theorem kJ:Ent N.ic Tryz.f87:=fun hn h=>dD Tryz.func87 (by rfl) (by rfl) hn (by rfl) h
theorem nQ:Ent N.iW Tryz.f88:=fun hn h=>dD Tryz.func88 (by rfl) (by rfl) hn (by rfl) h
theorem tG:Ent N.oy Tryz.f89:=fun hn h=>dD Tryz.func89 (by rfl) (by rfl) hn (by rfl) h
theorem wG:Ent N.sd Tryz.f90:=fun hn h=>dD Tryz.func90 (by rfl) (by rfl) hn (by rfl) h
theorem tI:Ent N.oz Tryz.f91:=fun hn h=>dD Tryz.func91 (by rfl) (by rfl) hn (by rfl) h
theorem uS:Ent N.qf Tryz.f92:=fun hn h=>dD Tryz.func92 (by rfl) (by rfl) hn (by rfl) h
theorem zj:Ent N.yZ Tryz.f95:=fun hn h=>dD Tryz.func95 (by rfl) (by rfl) hn (by rfl) h
theorem pH:Ent N.lP Tryz.f97:=fun hn h=>dD Tryz.func97 (by rfl) (by rfl) hn (by rfl) h
theorem yo:Ent N.vM Tryz.f98:=fun hn h=>dD Tryz.func98 (by rfl) (by rfl) hn (by rfl) h
theorem yp:Ent N.vN Tryz.f99:=fun hn h=>dD Tryz.func99 (by rfl) (by rfl) hn (by rfl) h
theorem wH:Ent N.se Tryz.f100:=fun hn h=>dD Tryz.func100 (by rfl) (by rfl) hn (by rfl) h
theorem uT:Ent N.mD Tryz.f101:=fun hn h=>dD Tryz.func101 (by rfl) (by rfl) hn (by rfl) h
theorem tJ:Ent N.pA Tryz.f102:=fun hn h=>dD Tryz.func102 (by rfl) (by rfl) hn (by rfl) h
theorem wI:Ent N.sf Tryz.f103:=fun hn h=>dD Tryz.func103 (by rfl) (by rfl) hn (by rfl) h
theorem wJ:Ent N.nM Tryz.f104:=fun hn h=>dD Tryz.func104 (by rfl) (by rfl) hn (by rfl) h
theorem zk:Ent N.rV Tryz.f105:=fun hn h=>dD Tryz.func105 (by rfl) (by rfl) hn (by rfl) h
theorem wK:Ent N.sh Tryz.f106:=fun hn h=>dD Tryz.func106 (by rfl) (by rfl) hn (by rfl) h
theorem Bj:Ent N.Ao Tryz.f107:=fun hn h=>dD Tryz.func107 (by rfl) (by rfl) hn (by rfl) h
theorem zl:Ent N.y8 Tryz.f108:=fun hn h=>dD Tryz.func108 (by rfl) (by rfl) hn (by rfl) h
theorem yq:Ent N.vO Tryz.f109:=fun hn h=>dD Tryz.func109 (by rfl) (by rfl) hn (by rfl) h
theorem wL:Ent N.si Tryz.f110:=fun hn h=>dD Tryz.func110 (by rfl) (by rfl) hn (by rfl) h
theorem Bk:Ent N.Ap Tryz.f111:=fun hn h=>dD Tryz.func111 (by rfl) (by rfl) hn (by rfl) h
theorem zm:Ent N.y9 Tryz.f112:=fun hn h=>dD Tryz.func112 (by rfl) (by rfl) hn (by rfl) h
theorem tK:Ent N.pB Tryz.f113:=fun hn h=>dD Tryz.func113 (by rfl) (by rfl) hn (by rfl) h
theorem jC:Ent N.fw Tryz.f114:=fun hn h=>dD Tryz.func114 (by rfl) (by rfl) hn (by rfl) h
theorem tL:Ent N.pC Tryz.f115:=fun hn h=>dD Tryz.func115 (by rfl) (by rfl) hn (by rfl) h
theorem gX:Ent N.fD Tryz.f116:=fun hn h=>dD Tryz.func116 (by rfl) (by rfl) hn (by rfl) h
theorem yr:Ent N.vP Tryz.f117:=fun hn h=>dD Tryz.func117 (by rfl) (by rfl) hn (by rfl) h
theorem Bm:Ent N.uI Tryz.f118:=fun hn h=>dD Tryz.func118 (by rfl) (by rfl) hn (by rfl) h
theorem oI:Ent N.kc Tryz.f119:=fun hn h=>dD Tryz.func119 (by rfl) (by rfl) hn (by rfl) h
theorem qR:Ent N.mZ Tryz.f120:=fun hn h=>dD Tryz.func120 (by rfl) (by rfl) hn (by rfl) h
theorem Bn:Ent N.uJ Tryz.f125:=fun hn h=>dD Tryz.func125 (by rfl) (by rfl) hn (by rfl) h
theorem wM:Ent N.sj Tryz.f132:=fun hn h=>dD Tryz.func132 (by rfl) (by rfl) hn (by rfl) h
theorem Bo:Ent N.uK Tryz.f139:=fun hn h=>dD Tryz.func139 (by rfl) (by rfl) hn (by rfl) h
theorem mc:Ent N.jh Tryz.f140:=fun hn h=>dD Tryz.func140 (by rfl) (by rfl) hn (by rfl) h
theorem uU:Ent N.qg Tryz.f141:=fun hn h=>dD Tryz.func141 (by rfl) (by rfl) hn (by rfl) h
theorem wN:Ent N.sk Tryz.f142:=fun hn h=>dD Tryz.func142 (by rfl) (by rfl) hn (by rfl) h
theorem yt:Ent N.vQ Tryz.f143:=fun hn h=>dD Tryz.func143 (by rfl) (by rfl) hn (by rfl) h
theorem wO:Ent N.sn Tryz.f144:=fun hn h=>dD Tryz.func144 (by rfl) (by rfl) hn (by rfl) h
theorem yu:Ent N.vR Tryz.f145:=fun hn h=>dD Tryz.func145 (by rfl) (by rfl) hn (by rfl) h
theorem wP:Ent N.nN Tryz.f146:=fun hn h=>dD Tryz.func146 (by rfl) (by rfl) hn (by rfl) h
theorem uV:Ent N.ja Tryz.f147:=fun hn h=>dD Tryz.func147 (by rfl) (by rfl) hn (by rfl) h
theorem oJ:Ent N.ke Tryz.f148:=fun hn h=>dD Tryz.func148 (by rfl) (by rfl) hn (by rfl) h
theorem yv:Ent N.vS Tryz.f149:=fun hn h=>dD Tryz.func149 (by rfl) (by rfl) hn (by rfl) h
theorem Bp:Ent N.uL Tryz.f150:=fun hn h=>dD Tryz.func150 (by rfl) (by rfl) hn (by rfl) h
theorem Bq:Ent N.Aq Tryz.f152:=fun hn h=>dD Tryz.func152 (by rfl) (by rfl) hn (by rfl) h
theorem wQ:Ent N.nO Tryz.f153:=fun hn h=>dD Tryz.func153 (by rfl) (by rfl) hn (by rfl) h
theorem uW:Ent N.qh Tryz.f154:=fun hn h=>dD Tryz.func154 (by rfl) (by rfl) hn (by rfl) h
theorem yw:Ent N.vT Tryz.f155:=fun hn h=>dD Tryz.func155 (by rfl) (by rfl) hn (by rfl) h
theorem uX:Ent N.qi Tryz.f156:=fun hn h=>dD Tryz.func156 (by rfl) (by rfl) hn (by rfl) h
theorem uY:Ent N.qj Tryz.f157:=fun hn h=>dD Tryz.func157 (by rfl) (by rfl) hn (by rfl) h
theorem Br:Ent N.uM Tryz.f159:=fun hn h=>dD Tryz.func159 (by rfl) (by rfl) hn (by rfl) h
theorem Bt:Ent N.Ar Tryz.f160:=fun hn h=>dD Tryz.func160 (by rfl) (by rfl) hn (by rfl) h
theorem uZ:Ent N.mE Tryz.f161:=fun hn h=>dD Tryz.func161 (by rfl) (by rfl) hn (by rfl) h
theorem DZ:Ent N.DX Tryz.f162:=fun hn h=>dD Tryz.func162 (by rfl) (by rfl) hn (by rfl) h
theorem gz:Ent N.fR Tryz.f163:=fun hn h=>dD Tryz.func163 (by rfl) (by rfl) hn (by rfl) h
theorem yx:Ent N.vU Tryz.f164:=fun hn h=>dD Tryz.func164 (by rfl) (by rfl) hn (by rfl) h
theorem oK:Ent N.kf Tryz.f165:=fun hn h=>dD Tryz.func165 (by rfl) (by rfl) hn (by rfl) h
theorem pI:Ent N.lQ Tryz.f166:=fun hn h=>dD Tryz.func166 (by rfl) (by rfl) hn (by rfl) h
theorem Bu:Ent N.uN Tryz.f168:=fun hn h=>dD Tryz.func168 (by rfl) (by rfl) hn (by rfl) h
theorem nR:Ent N.ju Tryz.f174:=fun hn h=>dD Tryz.func174 (by rfl) (by rfl) hn (by rfl) h
theorem nS:Ent N.jv Tryz.f175:=fun hn h=>dD Tryz.func175 (by rfl) (by rfl) hn (by rfl) h
theorem yz:Ent N.vV Tryz.f176:=fun hn h=>dD Tryz.func176 (by rfl) (by rfl) hn (by rfl) h
theorem wR:Ent N.so Tryz.f177:=fun hn h=>dD Tryz.func177 (by rfl) (by rfl) hn (by rfl) h
theorem zn:Ent N.ya Tryz.f178:=fun hn h=>dD Tryz.func178 (by rfl) (by rfl) hn (by rfl) h
theorem zo:Ent N.yb Tryz.f179:=fun hn h=>dD Tryz.func179 (by rfl) (by rfl) hn (by rfl) h
theorem Bv:Ent N.As Tryz.f180:=fun hn h=>dD Tryz.func180 (by rfl) (by rfl) hn (by rfl) h
theorem u9:Ent N.qk Tryz.f181:=fun hn h=>dD Tryz.func181 (by rfl) (by rfl) hn (by rfl) h
theorem wS:Ent N.ss Tryz.f182:=fun hn h=>dD Tryz.func182 (by rfl) (by rfl) hn (by rfl) h
theorem wT:Ent N.sw Tryz.f183:=fun hn h=>dD Tryz.func183 (by rfl) (by rfl) hn (by rfl) h
theorem me:Ent N.ji Tryz.f184:=fun hn h=>dD Tryz.func184 (by rfl) (by rfl) hn (by rfl) h
theorem zA:Ent N.vW Tryz.f185:=fun hn h=>dD Tryz.func185 (by rfl) (by rfl) hn (by rfl) h
theorem nT:Ent N.jw Tryz.f186:=fun hn h=>dD Tryz.func186 (by rfl) (by rfl) hn (by rfl) h
theorem pJ:Ent N.lS Tryz.f187:=fun hn h=>dD Tryz.func187 (by rfl) (by rfl) hn (by rfl) h
theorem D2:Ent N.yc Tryz.f188:=fun hn h=>dD Tryz.func188 (by rfl) (by rfl) hn (by rfl) h
theorem pK:Ent N.lT Tryz.f189:=fun hn h=>dD Tryz.func189 (by rfl) (by rfl) hn (by rfl) h
theorem zB:Ent N.vX Tryz.f190:=fun hn h=>dD Tryz.func190 (by rfl) (by rfl) hn (by rfl) h
theorem zp:Ent N.yd Tryz.f191:=fun hn h=>dD Tryz.func191 (by rfl) (by rfl) hn (by rfl) h
theorem oL:Ent N.kg Tryz.f192:=fun hn h=>dD Tryz.func192 (by rfl) (by rfl) hn (by rfl) h
theorem qS:Ent N.ma Tryz.f193:=fun hn h=>dD Tryz.func193 (by rfl) (by rfl) hn (by rfl) h
theorem mf:Ent N.jk Tryz.f194:=fun hn h=>dD Tryz.func194 (by rfl) (by rfl) hn (by rfl) h
theorem pL:Ent N.lV Tryz.f195:=fun hn h=>dD Tryz.func195 (by rfl) (by rfl) hn (by rfl) h
theorem pM:Ent N.lW Tryz.f196:=fun hn h=>dD Tryz.func196 (by rfl) (by rfl) hn (by rfl) h
theorem pN:Ent N.lX Tryz.f197:=fun hn h=>dD Tryz.func197 (by rfl) (by rfl) hn (by rfl) h
theorem oM:Ent N.kh Tryz.f198:=fun hn h=>dD Tryz.func198 (by rfl) (by rfl) hn (by rfl) h
theorem wU:Ent N.tA Tryz.f199:=fun hn h=>dD Tryz.func199 (by rfl) (by rfl) hn (by rfl) h
theorem qT:Ent N.mb Tryz.f200:=fun hn h=>dD Tryz.func200 (by rfl) (by rfl) hn (by rfl) h
theorem rX:Ent N.oC Tryz.f201:=fun hn h=>dD Tryz.func201 (by rfl) (by rfl) hn (by rfl) h
theorem tM:Ent N.pD Tryz.f202:=fun hn h=>dD Tryz.func202 (by rfl) (by rfl) hn (by rfl) h
theorem ua:Ent N.ql Tryz.f203:=fun hn h=>dD Tryz.func203 (by rfl) (by rfl) hn (by rfl) h
theorem rY:Ent N.oD Tryz.f204:=fun hn h=>dD Tryz.func204 (by rfl) (by rfl) hn (by rfl) h
theorem iH:Ent N.fU Tryz.f205:=fun hn h=>dD Tryz.func205 (by rfl) (by rfl) hn (by rfl) h
theorem rZ:Ent N.oE Tryz.f206:=fun hn h=>dD Tryz.func206 (by rfl) (by rfl) hn (by rfl) h
theorem nU:Ent N.jx Tryz.f207:=fun hn h=>dD Tryz.func207 (by rfl) (by rfl) hn (by rfl) h
theorem pO:Ent N.lY Tryz.f208:=fun hn h=>dD Tryz.func208 (by rfl) (by rfl) hn (by rfl) h
theorem r8:Ent N.oF Tryz.f209:=fun hn h=>dD Tryz.func209 (by rfl) (by rfl) hn (by rfl) h
theorem tN:Ent N.pE Tryz.f210:=fun hn h=>dD Tryz.func210 (by rfl) (by rfl) hn (by rfl) h
theorem zq:Ent N.ye Tryz.f211:=fun hn h=>dD Tryz.func211 (by rfl) (by rfl) hn (by rfl) h
theorem zt:Ent N.yf Tryz.f212:=fun hn h=>dD Tryz.func212 (by rfl) (by rfl) hn (by rfl) h
theorem zu:Ent N.yg Tryz.f213:=fun hn h=>dD Tryz.func213 (by rfl) (by rfl) hn (by rfl) h
theorem tO:Ent N.pF Tryz.f214:=fun hn h=>dD Tryz.func214 (by rfl) (by rfl) hn (by rfl) h
theorem jX{H:Hp}{nx:Nat}{iv:Iv}{w1 w':World}(hS:Old S w)(hw:cV w.heap.size w w1)(r:Rel H nx iv w.heap.size w1 O w'){ad:Addr}{j:Nat}{x:Value}(hs:S ad.block)(h:w.cell? (ad.add j)=some x):w'.cell? (ad.add j)=some x:=by
 rw[(hw.tr r.cM).cell (by rw[dQ];exact hS _ hs)];exact h
theorem D3(a:Option Addr)(c:Nat):(if (c:Int)=0 then a else a.map fun x=>x.add (Int.toNat 0*1))=a:=by
 split
 ·rfl
 ·cases a<;>rfl
theorem wV(h:ls[k]? =some 0):dg (ls.take (k+1))=dg (ls.take k):=by
 rw[List.take_add_one,h];exact jo _
theorem zw{x:Nat}(h:ls[k]? =some x)(hx:x≠0):dg (ls.take (k+1))=ls.take (k+1):=by
 rw[List.take_add_one,h];exact nB _ hx
theorem fA(hS:Old S w)(h:dH w S v ls):dm PG N.lX #[v] w (eB w fun v' w2=>dH w2 S v' (dg ls)):=by
 obtain⟨a,c,rfl,hlc,hc⟩:=h.sl;have hle:=h.le;have hlm:=h.lm;refine pN (by simp) ?_
 refine⟨Nat×World,fun x=>⟨[(0,.o (.v (.slice a x.1 c)))],[],0,[],x.2⟩,fun x=>x.1,
  fun x=>x.1<=ls.length∧cV w.heap.size w x.2∧dg ls=dg (ls.take x.1),?_,?_⟩
 ·intro O w' r;exact⟨(ls.length,w'),⟨aG _,r.cM,by simp⟩,Sub.reset r ⟨rfl,trivial⟩ ⟨trivial,trivial⟩⟩
 ·rintro⟨k,w1⟩ ⟨hk,hw,hF⟩;dsimp only at hk hw hF ⊢;have hdone:cV w.heap.size w w1->dg ls=ls.take k->∀O w2,Rel [] 0 [] w.heap.size w1 O w2->dH w2 S (.slice a k c) (dg ls):=fun hw he O w2 r=>by
   rw[he];refine⟨hlm.take k,by simp;omega,a,c,by simp;omega,by simp;omega,fun j x hx=>?_⟩;have hjk:j<k:=by
    have:=(aE.1 hx).1;simp at this;omega
   rw[bP hjk]at hx;obtain⟨ad,h1,h2,h3⟩:=hc j x hx;exact⟨ad,h1,h2,jX hS hw r h2 h3⟩
  refine dI.mk (fun h=>?_) (fun h=>?_)
  ·have h:0<k:=by simpa using h
   obtain⟨k,rfl⟩:∃q,k=q+1:=⟨k-1,by omega⟩
   obtain⟨x,hx⟩:∃x,ls[k]? =some x:=⟨_,aB (by omega)⟩
   obtain⟨ad,ha,hs,hx1⟩:=hc k x hx;refine⟨(k:Int),wo,ad,ha,by omega,.int .u32 x,fun O w' r=>by rw[aF,aU];exact jX hS hw r hs hx1,?_⟩;refine dI.mk (fun h2=>?_) (fun h2=>?_)
   ·have h2:x=0:=by have:=eq_of_beq h2;omega
    subst h2;refine⟨(k:Int),wo,⟨by omega,by omega,by omega⟩,a,k,c,D3 a c,by simp,by simp,?_⟩;intro O w2 r;exact⟨(k,w2),⟨by dsimp only;omega,hw.tr r.cM,hF.trans (wV hx)⟩,Sub.reset r ⟨rfl,trivial⟩ ⟨trivial,trivial⟩,by dsimp only;omega⟩
   ·have h2:x≠0:=by intro e;subst e;simp at h2
    intro O w2 r;exact⟨_,rfl,hw.tr r.cM,hdone hw (by rw[hF,zw hx h2]) O w2 r⟩
  ·have h:k=0:=by
    have:¬0<k:=by simpa using h
    omega
   subst h;intro O w2 r;exact⟨_,rfl,hw.tr r.cM,hdone hw (by rw[hF];simp[dg]) O w2 r⟩
theorem eO(h:n<18446744073709551616):IntKind.u64.wrap (n:Int)=(n:Int):=wu (by omega) (by omega)
theorem ek(n:Nat):IntKind.u32.wrap (n:Int)=((n % 4294967296:Nat):Int):=by
 show((n:Int) % 4294967296)=_;omega
theorem ofInt32(x:Nat):BitVec.ofInt 32 (x:Int)=BitVec.ofNat 32 x:=by
 apply BitVec.eq_of_toNat_eq;simp
theorem pY{y:Nat}(x:Nat)(hy:y<4294967296):x &&& y<4294967296:=Nat.lt_of_le_of_lt Nat.and_le_right hy
theorem pZ{x y:Nat}(hx:x<4294967296)(hy:y<4294967296):x ^^^ y<4294967296:=Nat.xor_lt_two_pow (n:=32) hx hy
theorem CU{x y:Nat}(hx:x<4294967296)(hy:y<4294967296):x ||| y<4294967296:=Nat.or_lt_two_pow (n:=32) hx hy
theorem K7{x y:Nat}(hx:x<4294967296)(hy:y<4294967296):IntKind.u32.wrap ((BitVec.ofInt IntKind.u32.bits x &&& BitVec.ofInt IntKind.u32.bits y).toNat:Int)=((x &&& y:Nat):Int):=by
 show IntKind.u32.wrap ((BitVec.ofInt 32 x &&& BitVec.ofInt 32 y).toNat:Int)=_;rw[ofInt32,ofInt32,BitVec.toNat_and,BitVec.toNat_ofNat,BitVec.toNat_ofNat,bL hx,bL hy,ek,bL (pY x hy)]
theorem MM{x y:Nat}(hx:x<4294967296)(hy:y<4294967296):IntKind.u32.wrap ((BitVec.ofInt IntKind.u32.bits x ||| BitVec.ofInt IntKind.u32.bits y).toNat:Int)=((x ||| y:Nat):Int):=by
 show IntKind.u32.wrap ((BitVec.ofInt 32 x ||| BitVec.ofInt 32 y).toNat:Int)=_;rw[ofInt32,ofInt32,BitVec.toNat_or,BitVec.toNat_ofNat,BitVec.toNat_ofNat,bL hx,bL hy,ek,bL (CU hx hy)]
theorem K8{x y:Nat}(hx:x<4294967296)(hy:y<4294967296):IntKind.u32.wrap ((BitVec.ofInt IntKind.u32.bits x ^^^ BitVec.ofInt IntKind.u32.bits y).toNat:Int)=((x ^^^ y:Nat):Int):=by
 show IntKind.u32.wrap ((BitVec.ofInt 32 x ^^^ BitVec.ofInt 32 y).toNat:Int)=_;rw[ofInt32,ofInt32,BitVec.toNat_xor,BitVec.toNat_ofNat,BitVec.toNat_ofNat,bL hx,bL hy,ek,bL (pZ hx hy)]
theorem K9{x:Nat}(hx:x<4294967296):IntKind.u32.wrap ((BitVec.ofInt IntKind.u32.bits (if IntKind.u32.signed=true then -1 else IntKind.u32.max) ^^^ BitVec.ofInt IntKind.u32.bits x).toNat:Int)=((4294967295 ^^^ x:Nat):Int):=
 K8 (x:=4294967295) (by decide) hx
theorem kz{x:Nat}(k:Nat)(hk:k<=63):(x:Int).fdiv (2^min (Int.toNat (k:Int)) IntKind.u64.bits)=((x / 2^k:Nat):Int):=by
 have h1:min (Int.toNat (k:Int)) IntKind.u64.bits=k:=by show min (Int.toNat (k:Int)) 64=k;omega
 rw[h1,Int.fdiv_eq_ediv_of_nonneg _ (by exact Int.le_of_lt (Int.pow_pos (by decide)))];simp
theorem nW{x:Nat}(k:Nat)(hk:k<=31):(x:Int).fdiv (2^min (Int.toNat (k:Int)) IntKind.u32.bits)=((x / 2^k:Nat):Int):=by
 have h1:min (Int.toNat (k:Int)) IntKind.u32.bits=k:=by show min (Int.toNat (k:Int)) 32=k;omega
 rw[h1,Int.fdiv_eq_ediv_of_nonneg _ (by exact Int.le_of_lt (Int.pow_pos (by decide)))];simp
theorem KF{z:Nat}(h:z<4294967296):z.testBit 31=decide (2147483648<=z):=by
 rw[Nat.testBit_eq_decide_div_mod_eq];apply decide_eq_decide.2;show z / 2147483648 % 2=1↔_;omega
theorem borrow{x y c d:Nat}(hx:x<4294967296)(hy:y<4294967296)(hc:c<=1)(hd:(x+4294967296-(y+c)) % 4294967296=d):
  (((4294967295 ^^^ x) &&& y) ||| ((4294967295 ^^^ (x ^^^ y)) &&& d)) / 2^31=if x<y+c then 1 else 0:=by
 have hd2:d<4294967296:=by omega
 have hz:=CU (pY (4294967295 ^^^ x) hy) (pY (4294967295 ^^^ (x ^^^ y)) hd2);have ht:=KF hz;have hm:Nat.testBit 4294967295 31=true:=by decide
 rw[Nat.testBit_or,Nat.testBit_and,Nat.testBit_and,Nat.testBit_xor,Nat.testBit_xor,Nat.testBit_xor,hm,KF hx,KF hy,KF hd2]at ht;generalize (((4294967295 ^^^ x) &&& y) ||| ((4294967295 ^^^ (x ^^^ y)) &&& d))=z at hz ht;show z / 2147483648=_;by_cases h1:2147483648<=x<;>by_cases h2:2147483648<=y<;>by_cases h3:2147483648<=d<;>simp[h1,h2,h3]at ht<;>split<;>omega
theorem GF(x y c:Nat)(w:World)(hx:x<4294967296)(hy:y<4294967296)(hc:c<4294967296):
  dm PG N.ye #[.int .u32 x,.int .u32 y,.int .u32 c] w (eB w fun v _=>v= .tuple #[.int .u32 ((x+y+c) % 4294967296:Nat),.int .u32 ((x+y+c) / 4294967296:Nat)]):=by
 refine zq (by simp) ?_;refine⟨(x:Int),eO (by omega),(y:Int),eO (by omega),((x+y:Nat):Int),by rw[wu]<;>omega,(c:Int),eO (by omega),((x+y+c:Nat):Int),by rw[wu]<;>omega,(((x+y+c) % 4294967296:Nat):Int),ek _,by decide,(((x+y+c) / 4294967296:Nat):Int),?_,?_⟩
 ·exact kz 32 (by decide)
 refine⟨(((x+y+c) / 4294967296:Nat):Int),by rw[ek];omega,?_⟩;intro O w3 r;exact⟨_,rfl,r.cM,rfl⟩
theorem GG(x y c:Nat)(w:World)(hx:x<4294967296)(hy:y<4294967296)(hc:c<=1):
  dm PG N.yf #[.int .u32 x,.int .u32 y,.int .u32 c] w (eB w fun v _=>v= .tuple #[.int .u32 ((x+4294967296-(y+c)) % 4294967296:Nat),.int .u32 ((if x<y+c then 1 else 0:Nat):Int)]):=by
 refine zt (by simp) ?_;refine⟨((x+4294967296-y) % 4294967296:Nat),?_,?_⟩
 ·show((x:Int)-y) % 4294967296=_;omega
 refine⟨((x+4294967296-(y+c)) % 4294967296:Nat),?_,?_⟩
 ·show((((x+4294967296-y) % 4294967296:Nat):Int)-c) % 4294967296=_;omega
 have h6:(x+4294967296-(y+c)) % 4294967296<4294967296:=bs _ (by decide);generalize hd:(x+4294967296-(y+c)) % 4294967296=d at h6;refine⟨((4294967295 ^^^ x:Nat):Int),K9 hx,(((4294967295 ^^^ x) &&& y:Nat):Int),K7 (pZ (by decide) hx) hy,((x ^^^ y:Nat):Int),K8 hx hy,((4294967295 ^^^ (x ^^^ y):Nat):Int),K9 (pZ hx hy),(((4294967295 ^^^ (x ^^^ y)) &&& d:Nat):Int),K7 (pZ (by decide) (pZ hx hy)) h6,((((4294967295 ^^^ x) &&& y) ||| ((4294967295 ^^^ (x ^^^ y)) &&& d):Nat):Int),MM (pY _ hy) (pY _ h6),by decide,((if x<y+c then 1 else 0:Nat):Int),?_,?_⟩
 ·rw[<-borrow hx hy hc hd];exact nW 31 (by decide)
 intro O w3 r;exact⟨_,rfl,r.cM,rfl⟩
def r9(n m:Nat):Int:=if n<m then -1 else if m<n then 1 else 0
theorem Kb{a b:List Nat}{i x y:Nat}(ha:Lm a)(hl:a.length=b.length)(hx:a[i]? =some x)(hy:b[i]? =some y)(h:a.drop (i+1)=b.drop (i+1))(hlt:x<y):val a<val b:=by
 have hi:=(aE.1 hx).1;have h1:=eV a i (by omega);have h2:=eV b i (by omega);rw[iY hx]at h1;rw[iY hy,<-h]at h2;have h3:=nA (ha.take i);rw[aY,Nat.min_eq_left (by omega)]at h3;generalize val (a.drop (i+1))=q at h1 h2;have h4:wt i*(x+4294967296*q+1)<=wt i*(y+4294967296*q):=bW _ (by omega);rw[bS,aU]at h4;omega
theorem IU{u:Value}{m:Nat}(hS:Old S w)(hn:dh w S v n)(hm:dh w S u m):dm PG N.ql #[v,u] w (eB w fun v' _=>v'= .int .i64 (r9 n m)):=by
 obtain⟨ls,h1,nz1,rfl⟩:=hn;obtain⟨ms,h2,nz2,rfl⟩:=hm;obtain⟨a,c,rfl,_,ha⟩:=h1.sl;obtain⟨b,e,rfl,_,hb⟩:=h2.sl;have hle1:=h1.le;have hle2:=h2.le;have lm1:=h1.lm;have lm2:=h2.lm;refine ua (by simp) ?_;refine dI.mk (fun h=>?_) (fun h=>?_)
 ·have h:ls.length≠ms.length:=by intro e;rw[e]at h;simp at h
  refine dI.mk (fun h3=>?_) (fun h3=>?_)
  ·have h3:ls.length<ms.length:=by simpa using h3
   intro O w2 r;exact⟨_,rfl,r.cM,by rw[r9,if_pos (iM lm1 nz2 h3)];rfl⟩
  ·have h3:ms.length<ls.length:=by
    have:¬ls.length<ms.length:=by simpa using h3
    omega
   have h4:=iM lm2 nz1 h3;intro O w2 r;exact⟨_,rfl,r.cM,by rw[r9,aK (by omega),if_pos h4];rfl⟩
 ·have h:ls.length=ms.length:=by
   have:(ls.length:Int)=ms.length:=by simpa using h
   omega
  refine⟨(ls.length:Int)-1,wo,Nat×World,fun x=>⟨[(0,.o (.v (.slice a ls.length c))),(1,.o (.v (.slice b ms.length e))),(5,.o (.v (.int .i64 ((x.1:Int)-1))))],[],0,[],x.2⟩,fun x=>x.1,
   fun x=>x.1<=ls.length∧cV w.heap.size w x.2∧ls.drop x.1=ms.drop x.1,?_,?_⟩
  ·intro O w' r;exact⟨(ls.length,w'),⟨aG _,r.cM,by rw[List.drop_length,h,List.drop_length]⟩,Sub.reset r ⟨rfl,rfl,rfl,trivial⟩ ⟨trivial,trivial,trivial,trivial⟩⟩
  ·rintro⟨k,w1⟩ ⟨hk,hw,hd⟩;dsimp only at hk hw hd ⊢;refine dI.mk (fun h3=>?_) (fun h3=>?_)
   ·have h3:(k:Int)-1≥0:=aI h3;obtain⟨k,rfl⟩:∃q,k=q+1:=⟨k-1,by omega⟩
    rw[show ((k+1:Nat):Int)-1=(k:Int) by omega];obtain⟨x,hx⟩:∃x,ls[k]? =some x:=⟨_,aB (by omega)⟩
    obtain⟨y,hy⟩:∃x,ms[k]? =some x:=⟨_,aB (by omega)⟩
    obtain⟨ad,had,hs,hc1⟩:=ha k x hx;obtain⟨ad2,had2,hs2,hc2⟩:=hb k y hy;have hlx:∀O w',Rel [] 0 [] w.heap.size w1 O w'->w'.cell? (ad.add ((k:Int).toNat*1))=some (.int .u32 x):=fun O w' r=>by
     rw[aF,aU];exact jX hS hw r hs hc1
    have hly:∀O w',Rel [] 0 [] w.heap.size w1 O w'->w'.cell? (ad2.add ((k:Int).toNat*1))=some (.int .u32 y):=fun O w' r=>by
     rw[aF,aU];exact jX hS hw r hs2 hc2
    refine cJ hτ db [.x 0,.x 1,.x 2,.x 3,.x 4,.x 5,.x 6,.x 7,.x 8,.x 9] (by kernel_rfl) (by kernel_rfl) ?_;refine⟨ad,had,by omega,_,hlx,ad2,had2,by omega,_,hly,?_⟩;refine dI.mk (fun h4=>?_) (fun h4=>?_)
    ·have h4:x<y:=by simpa using h4
     intro O w2 r;exact⟨_,rfl,hw.tr r.cM,by rw[r9,if_pos (Kb lm1 h hx hy hd h4)];rfl⟩
    ·have h4:¬x<y:=by simpa using h4
     refine cJ hτ db [.x 0,.x 1,.x 2,.x 3,.x 4,.x 5,.x 6,.x 7,.x 8,.x 9] (by kernel_rfl) (by kernel_rfl) ?_;refine⟨ad,had,by omega,_,hlx,ad2,had2,by omega,_,hly,?_⟩;refine dI.mk (fun h5=>?_) (fun h5=>?_)
     ·have h5:y<x:=by simpa using h5
      have h6:=Kb lm2 h.symm hy hx hd.symm h5;intro O w2 r;exact⟨_,rfl,hw.tr r.cM,by rw[r9,aK (by omega),if_pos h6];rfl⟩
     ·have h5:¬y<x:=by simpa using h5
      have hxy:x=y:=by omega
      subst hxy;refine⟨(k:Int)-1,wo,?_⟩;intro O w2 r;have hd2:ls.drop k=ms.drop k:=by
       obtain⟨q1,e1⟩:=aE.1 hx;obtain⟨q2,e2⟩:=aE.1 hy;rw[List.drop_eq_getElem_cons q1,List.drop_eq_getElem_cons q2,e1,e2,hd]
      exact⟨(k,w2),⟨by dsimp only;omega,hw.tr r.cM,hd2⟩,Sub.reset r ⟨rfl,rfl,rfl,trivial⟩ ⟨trivial,trivial,trivial,trivial⟩,by simp⟩
   ·have hk0:k=0:=by
     have:¬(k:Int)-1≥0:=aH h3;omega
    subst hk0;have he:ls=ms:=by simpa using hd
    intro O w2 r;exact⟨_,rfl,hw.tr r.cM,by rw[he,r9,aK (by omega),aK (by omega)];rfl⟩
end Go.Ex
namespace Go.Sx
open Go Go.Ex Go.Proofs
variable{O:Nat->Sx.df}
theorem Rel.pP{nx:Nat}{iv:Iv}{B:Nat}{w w':World}(r:Rel [] nx iv B w O w'):w.grownBy w' none:=
 ⟨r.os,r.tape,r.output,r.size,fun k hk _=>r.tk k hk (fun id b h=>by cases h)⟩
end Go.Sx
namespace Go.Ex
open Go Go.Sx Go.Proofs
variable{l ls:List Nat}{S:Nat->Prop}{v:Value}{w:World}
structure LA(S:Nat->Prop)(w:World) where
 a:Option Addr
 c:Nat
 ls:List Nat
 lm:Lm ls
 le:ls.length<=9223372036854775807
 cap:ls.length<=c
 cell:∀(j:Nat) x,ls[j]? =some x->∃ad,a=some ad∧S ad.block∧w.cell? (ad.add j)=some (.int .u32 x)
theorem dH.la(h:dH w S v ls):∃p:LA S w,v= .slice p.a p.ls.length p.c∧p.ls=ls:=by
 obtain⟨a,c,h1,h2,h3⟩:=h.sl;exact⟨⟨a,c,ls,h.lm,h.le,h2,h3⟩,h1,rfl⟩
theorem dh.la{n:Nat}(h:dh w S v n):∃p:LA S w,v= .slice p.a p.ls.length p.c∧val p.ls=n∧Nz p.ls:=by
 obtain⟨ls,h1,h2,h3⟩:=h;obtain⟨p,h4,h5⟩:=h1.la;exact⟨p,h4,by rw[h5];exact h3,by rw[h5];exact h2⟩
theorem LA.load{w1:World}(p:LA S w)(hS:Old S w)(hw:cV w.heap.size w w1){k x:Nat}(hx:p.ls[k]? =some x):
  ∃ad,p.a=some ad∧∀(H:Hp) (nx:Nat) (iv:Iv) (O:Nat->Sx.df) w',Rel H nx iv w.heap.size w1 O w'->w'.cell? (ad.add ((k:Int).toNat*1))=some (.int .u32 x):=by
 obtain⟨ad,h1,h2,h3⟩:=p.cell k x hx;refine⟨ad,h1,fun H nx iv O w' r=>?_⟩;rw[aF,aU];exact jX hS hw r h2 h3
def U(l:List Nat):List Value:=l.map fun(x:Nat)=>.int .u32 (x:Int)
theorem fk(l:List Nat):(U l).length=l.length:=by simp[U]
theorem tP{k x:Nat}(h:l[k]? =some x):(U l)[k]? =some (.int .u32 x):=by simp[U,h]
theorem MO(l:List Nat)(k x:Nat)(h:k<l.length):(U l).take k++[.int .u32 x]++(U l).drop (k+1)=U (l.set k x):=by
 have h1:k<(U l).length:=by rw[fk];exact h
 have:(U l).set k (.int .u32 x)=U (l.set k x):=by simp[U,List.map_set]
 rw[<-this,List.set_eq_take_append_cons_drop,if_pos h1];simp
theorem iP(l:List Nat)(k x:Nat)(h:k<l.length){e:Nat}(he:e=k):(U l).take e++[.int .u32 (x:Int)]++(U l).drop (e+1)=U (l.set k x):=by
 subst he;exact MO l e x h
theorem rb(n:Nat):List.replicate n (Value.int .u32 0)=U (List.replicate n 0):=by simp[U]
end Go.Ex
namespace Go.Sx
open Go Go.Ex Go.Proofs
variable{ls:List Nat}{O:Nat->Sx.df}
theorem Rel.mg{H:Hp}{nx:Nat}{iv:Iv}{B:Nat}{w w':World}(r:Rel H nx iv B w O w'){id t:Nat}(h:dA H id=some (.arr t (U ls)))(hlm:Lm ls)(hle:ls.length<=9223372036854775807):
  dH w' (fun g=>g=(O id).g) (.slice (some ⟨(O id).g,0,none⟩) ls.length ls.length) ls:=by
 refine⟨hlm,hle,_,_,rfl,aG _,fun j x hx=>⟨_,rfl,rfl,?_⟩⟩;have h0:(⟨(O id).g,0,none⟩:Addr).add j=⟨(O id).g,j,none⟩:=by
  cases j with
  |zero=>rfl
  |succ j=>simp[Addr.add]
 rw[h0,cell_of (r.arr id t _ h)];exact tP hx
end Go.Sx
namespace Go.Ex
open Go Go.Sx Go.Proofs
variable{S:Nat->Prop}
theorem BJ{out ls ms:List Nat}{i x o d:Nat}(hx:ls[i]? =some x)(ho:ms.getD i 0=o)(hd:out[i]? =some d){carry:Nat}(h:val (out.take i)+wt i*carry=val (ls.take i)+val (ms.take i)):
  val ((out.set i ((x+o+carry) % 4294967296)).take (i+1))+wt (i+1)*((x+o+carry) / 4294967296)=val (ls.take (i+1))+val (ms.take (i+1)):=by
 have hi:=(aE.1 hd).1;have h1:(out.set i ((x+o+carry) % 4294967296))[i]? =some ((x+o+carry) % 4294967296):=by rw[aW hi]
 rw[dY h1,List.take_set_of_le (aG _),dY hx,iL];have h2:val (ms.take (i+1))=val (ms.take i)+wt i*o:=by
  cases hm:ms[i]? with
  |some y=>
   have:y=o:=by rw[<-ho];simp[List.getD,hm]
   rw[dY hm,this]
  |none=>
   have:o=0:=by rw[<-ho];simp[List.getD,hm]
   rw[this,List.take_add_one,hm];simp
 rw[h2];have h3:=Nat.div_add_mod (x+o+carry) 4294967296;generalize (x+o+carry) / 4294967296=q at h3 ⊢;generalize (x+o+carry) % 4294967296=r at h3 ⊢;have h4:wt i*(4294967296*q+r)=wt i*(x+o+carry):=by rw[h3]
 rw[bS,bS,bS,<-bh,bT (wt i) 4294967296]at h4;omega
theorem LX{w:World}{v u:Value}{n m:Nat}(hS:Old S w)(hn:dh w S v n)(hm:dh w S u m)(hln:ln n<=1000000000000)(hlm:ln m<=1000000000000):
  dm PG N.pD #[v,u] w (eB w fun v' w2=>dh w2 (Nf w w2) v' (n+m)):=by
 obtain⟨p,rfl,hp1,hp2⟩:=hn.la;obtain⟨q,rfl,hq1,hq2⟩:=hm.la;have hpl:=eE p.lm hp2;have hql:=eE q.lm hq2;rw[hp1]at hpl;rw[hq1]at hql;have hsum:n+m=val p.ls+val q.ls:=by rw[hp1,hq1]
 rw[hsum];refine tM (by simp) ?_;refine dI.mk (fun h=>?_) (fun h=>?_)
 case' refine_1=>
  have h:p.ls.length<q.ls.length:=by simpa using h
  have hpx:p.ls.length<=q.ls.length:=by omega
  have hx12:q.ls.length<=1000000000000:=by omega
  rw[Nat.add_comm];generalize hgx:q=x at*
  generalize hgy:p=y at*
 case' refine_2=>
  have h:¬p.ls.length<q.ls.length:=by simpa using h
  have hpx:q.ls.length<=p.ls.length:=by omega
  have hx12:p.ls.length<=1000000000000:=by omega
  generalize hgx:p=x at*
  generalize hgy:q=y at*
 all_goals
  refine⟨((x.ls.length+1:Nat):Int),wo,x.ls.length+1,x.ls.length+1,rfl,rfl,aG _,by omega,by omega,Nat×List Nat×Nat×World,fun z=>⟨[(0,.o (.v (.slice x.a x.ls.length x.c))),(1,.o (.v (.slice y.a y.ls.length y.c))),(5,.o (.s 0 0 (x.ls.length+1) (x.ls.length+1))),(6,.o (.v (.int .u32 z.2.2.1))),(21,.o (.v (.int .i64 x.ls.length))),(22,.o (.v (.int .i64 z.1)))],
    [(0,.arr T.uint32 (U z.2.1))],1,[],z.2.2.2⟩,fun z=>x.ls.length-z.1,
   fun z=>z.1<=x.ls.length∧cV w.heap.size w z.2.2.2∧z.2.1.length=x.ls.length+1∧Lm z.2.1∧z.2.2.1<2∧val (z.2.1.take z.1)+wt z.1*z.2.2.1=val (x.ls.take z.1)+val (y.ls.take z.1),?_,?_⟩
  ·intro O w' r;rw[rb]at r;exact⟨(0,List.replicate (x.ls.length+1) 0,0,w'),⟨by simp,r.cM,by simp,Lm.replicate _,by simp,by simp[val]⟩,Sub.gn [] r⟩
  ·rintro⟨i,out,carry,w1⟩ ⟨hi,hw,hol,hlm1,hc,hv⟩;dsimp only at hi hw hol hlm1 hc hv ⊢;refine dI.mk (fun h=>?_) (fun h=>?_)
   ·have h:i<x.ls.length:=by simpa using h
    obtain⟨xi,hxi⟩:∃k,x.ls[i]? =some k:=⟨_,aB h⟩
    obtain⟨d,hd⟩:∃k,out[i]? =some k:=⟨_,aB (by omega)⟩
    obtain⟨ad,had,hload⟩:=x.load hS hw hxi;have hx32:=x.lm.at hxi;refine dI.mk (fun h2=>?_) (fun h2=>?_)
    ·have h2:i<y.ls.length:=by simpa using h2
     obtain⟨o,ho⟩:∃k,y.ls[i]? =some k:=⟨_,aB h2⟩
     obtain⟨ad2,had2,hload2⟩:=y.load hS hw ho;have ho32:=y.lm.at ho;have hget:y.ls.getD i 0=o:=by simp[List.getD,ho]
     refine⟨ad2,had2,by omega,.int .u32 o,hload2 _ _ _,ad,had,by omega,.int .u32 xi,hload _ _ _,?_⟩;refine cC (cL (Φ:=fun _ _ v _=>v= .tuple #[.int .u32 ((xi+o+carry) % 4294967296:Nat),.int .u32 ((xi+o+carry) / 4294967296:Nat)]) (fun O w' r=>GF xi o carry w' hx32 ho32 (by omega)) ?_);rintro O w' v w2 r he hb rfl;replace hw:=hw.tr hb;have hstep:=BJ hxi hget hd hv;have hc2:(xi+o+carry) / 4294967296<2:=by omega
     refine⟨by omega,by rw[fk];omega,U (out.set i ((xi+o+carry) % 4294967296)),iP out i _ (by omega) (by simp),((i+1:Nat):Int),wo,?_⟩;intro ρ3 w3 r3
     exact⟨(i+1,out.set i ((xi+o+carry) % 4294967296),(xi+o+carry) / 4294967296,w3),⟨by dsimp only;omega,hw.tr r3.cM,by simp[hol],hlm1.set (bs _ (by decide)),hc2,hstep⟩,
      Sub.gn [] r3,by dsimp only;omega⟩
    ·have h2:¬i<y.ls.length:=by simpa using h2
     have hget:y.ls.getD i 0=0:=by simp[List.getD,List.getElem?_eq_none (show y.ls.length<=i by omega)]
     refine⟨ad,had,by omega,.int .u32 xi,hload _ _ _,?_⟩;refine cC (cL (Φ:=fun _ _ v _=>v= .tuple #[.int .u32 ((xi+0+carry) % 4294967296:Nat),.int .u32 ((xi+0+carry) / 4294967296:Nat)]) (fun O w' r=>GF xi 0 carry w' hx32 (by decide) (by omega)) ?_);rintro O w' v w2 r he hb rfl;replace hw:=hw.tr hb;have hstep:=BJ hxi hget hd hv;have hc2:(xi+0+carry) / 4294967296<2:=by omega
     refine⟨by omega,by rw[fk];omega,U (out.set i ((xi+0+carry) % 4294967296)),iP out i _ (by omega) (by simp),((i+1:Nat):Int),wo,?_⟩;intro ρ3 w3 r3
     exact⟨(i+1,out.set i ((xi+0+carry) % 4294967296),(xi+0+carry) / 4294967296,w3),⟨by dsimp only;omega,hw.tr r3.cM,by simp[hol],hlm1.set (bs _ (by decide)),hc2,hstep⟩,
      Sub.gn [] r3,by dsimp only;omega⟩
   ·have hin:i=x.ls.length:=by
     have:¬i<x.ls.length:=by simpa using h
     omega
    subst hin;obtain⟨d,hd⟩:∃k,out[x.ls.length]? =some k:=⟨_,aB (by omega)⟩
    have hfin:val (out.set x.ls.length carry)=val x.ls+val y.ls:=by
     have h1:(out.set x.ls.length carry)[x.ls.length]? =some carry:=by rw[aW (by omega)]
     have h2:=dY h1;rw[List.take_of_length_le (by simp;omega),List.take_set_of_le (aG _)]at h2;rw[bE,List.take_of_length_le hpx]at hv;omega
    have hlm2:Lm (out.set x.ls.length carry):=hlm1.set (by omega);refine⟨by omega,by rw[fk];omega,U (out.set x.ls.length carry),iP out x.ls.length carry (by omega) (by simp),?_⟩;generalize hgo:out.set x.ls.length carry=fin at hfin hlm2;have hfl:fin.length=x.ls.length+1:=by rw[<-hgo];simp[hol]
    refine gC (Φ:=fun O _ v w2=>dH w2 (fun g=>g=(O 0).g) v (dg fin)) (H':=[]) 0 rfl (by simp) trivial rfl (fun O w' r=>r.nn 0 _ rfl (by intros;simp) (by simp)) (fun O w' r=>?_) ?_
    ·have hL:=r.mg (id:=0) rfl hlm2 (by omega);rw[hfl]at hL;exact fA (fun g hg=>by rw[hg];exact(r.low 0 _ rfl (r.nn 0 _ rfl (by intros;simp) (by simp))).2) hL
    rintro O w' v w2 r he hb hL;replace hw:=hw.tr hb;have hlow:=r.low 0 _ rfl (r.nn 0 _ rfl (by intros;simp) (by simp));generalize (O 0).g=g at*
    have hs:=he.size;intro ρ3 w3 r3;refine⟨_,rfl,hw.tr r3.cM,dg fin,?_,(e8 fin).2.1,?_⟩
    ·refine(hL.cG fun k hk=>?_).cI fun k hk=>.inr ?_
     ·rw[hk];exact r3.pP.block g (by omega) (by simp)
     ·rw[hk];have:=r3.size;omega
    ·rw[(e8 fin).1,hfin]
end Go.Ex
namespace Go.Ex
open Go Go.Sx Go.Proofs
variable{ls ms out:List Nat}{V a b i k n o t:Nat}{S:Nat->Prop}{v:Value}{w:World}
theorem HM(ho:ms.getD i 0=o):val (ms.take (i+1))=val (ms.take i)+wt i*o:=by
 cases hm:ms[i]? with
 |some y=>
  have:y=o:=by rw[<-ho];simp[List.getD,hm]
  rw[dY hm,this]
 |none=>
  have:o=0:=by rw[<-ho];simp[List.getD,hm]
  rw[this,List.take_add_one,hm];simp
theorem zV{x d e:Nat}(hx:ls[i]? =some x)(ho:ms.getD i 0=o)(hd:out[i]? =some d){b':Nat}(h:val (out.take i)+val (ms.take i)=val (ls.take i)+wt i*b)(he:e+(o+b)=x+4294967296*b'):
  val ((out.set i e).take (i+1))+val (ms.take (i+1))=val (ls.take (i+1))+wt (i+1)*b':=by
 have hi:=(aE.1 hd).1;have h1:(out.set i e)[i]? =some e:=by rw[aW hi]
 rw[dY h1,List.take_set_of_le (aG _),dY hx,HM ho,iL];have h4:wt i*(e+(o+b))=wt i*(x+4294967296*b'):=by rw[he]
 rw[bS,bS,bS,<-bh,bT (wt i) 4294967296]at h4;omega
theorem By{u:Value}{m:Nat}(hS:Old S w)(hn:dh w S v n)(hm:dh w S u m)(hle:m<=n)(hln:ln n<=1000000000000):
  dm PG N.oD #[v,u] w (eB w fun v' w2=>dh w2 (Nf w w2) v' (n-m)):=by
 obtain⟨x,rfl,hp1,hp2⟩:=hn.la;obtain⟨y,rfl,hq1,hq2⟩:=hm.la;have hpl:=eE x.lm hp2;rw[hp1]at hpl;have hyx:y.ls.length<=x.ls.length:=by
  rw[eE x.lm hp2,eE y.lm hq2,hp1,hq1];exact eu hle
 refine rY (by simp) ?_
 refine⟨x.ls.length,x.ls.length,rfl,rfl,aG _,by omega,by omega,Nat×List Nat×Nat×World,fun z=>⟨[(0,.o (.v (.slice x.a x.ls.length x.c))),(1,.o (.v (.slice y.a y.ls.length y.c))),(5,.o (.s 0 0 x.ls.length x.ls.length)),(6,.o (.v (.int .u32 z.2.2.1))),(13,.o (.v (.int .i64 x.ls.length))),(14,.o (.v (.int .i64 z.1)))],
   [(0,.arr T.uint32 (U z.2.1))],1,[],z.2.2.2⟩,fun z=>x.ls.length-z.1,
  fun z=>z.1<=x.ls.length∧cV w.heap.size w z.2.2.2∧z.2.1.length=x.ls.length∧Lm z.2.1∧z.2.2.1<2∧val (z.2.1.take z.1)+val (y.ls.take z.1)=val (x.ls.take z.1)+wt z.1*z.2.2.1,?_,?_⟩
 ·intro O w' r;rw[rb]at r;exact⟨(0,List.replicate x.ls.length 0,0,w'),⟨by simp,r.cM,by simp,Lm.replicate _,by simp,by simp[val]⟩,Sub.gn [] r⟩
 ·rintro⟨i,out,b,w1⟩ ⟨hi,hw,hol,hlm1,hc,hv⟩;dsimp only at hi hw hol hlm1 hc hv ⊢;refine dI.mk (fun h=>?_) (fun h=>?_)
  ·have h:i<x.ls.length:=by simpa using h
   obtain⟨xi,hxi⟩:∃k,x.ls[i]? =some k:=⟨_,aB h⟩
   obtain⟨d,hd⟩:∃k,out[i]? =some k:=⟨_,aB (by omega)⟩
   obtain⟨ad,had,hload⟩:=x.load hS hw hxi;have hx32:=x.lm.at hxi;refine dI.mk (fun h2=>?_) (fun h2=>?_)
   ·have h2:i<y.ls.length:=by simpa using h2
    obtain⟨o,ho⟩:∃k,y.ls[i]? =some k:=⟨_,aB h2⟩
    obtain⟨ad2,had2,hload2⟩:=y.load hS hw ho;have ho32:=y.lm.at ho;have hget:y.ls.getD i 0=o:=by simp[List.getD,ho]
    refine⟨ad2,had2,by omega,.int .u32 o,hload2 _ _ _,ad,had,by omega,.int .u32 xi,hload _ _ _,?_⟩;refine cC (cL (Φ:=fun _ _ v _=>v= .tuple #[.int .u32 ((xi+4294967296-(o+b)) % 4294967296:Nat),.int .u32 ((if xi<o+b then 1 else 0:Nat):Int)]) (fun O w' r=>GG xi o b w' hx32 ho32 (by omega)) ?_);rintro O w' v w2 r he hb rfl;replace hw:=hw.tr hb;have hst:(xi+4294967296-(o+b)) % 4294967296+(o+b)=xi+4294967296*(if xi<o+b then 1 else 0):=by split<;>omega
    have hlt:(xi+4294967296-(o+b)) % 4294967296<4294967296:=bs _ (by decide);have hb2:(if xi<o+b then 1 else 0:Nat)<2:=by split<;>omega
    generalize (xi+4294967296-(o+b)) % 4294967296=e at hst hlt;generalize (if xi<o+b then 1 else 0:Nat)=b' at hst hb2;have hstep:=zV hxi hget hd hv hst;refine⟨by omega,by rw[fk];omega,U (out.set i e),iP out i _ (by omega) (by simp),((i+1:Nat):Int),wo,?_⟩;intro ρ3 w3 r3
    exact⟨(i+1,out.set i e,b',w3),⟨by dsimp only;omega,hw.tr r3.cM,by simp[hol],hlm1.set hlt,hb2,hstep⟩,
     Sub.gn [] r3,by dsimp only;omega⟩
   ·have h2:¬i<y.ls.length:=by simpa using h2
    have hget:y.ls.getD i 0=0:=by simp[List.getD,List.getElem?_eq_none (show y.ls.length<=i by omega)]
    refine⟨ad,had,by omega,.int .u32 xi,hload _ _ _,?_⟩;refine cC (cL (Φ:=fun _ _ v _=>v= .tuple #[.int .u32 ((xi+4294967296-(0+b)) % 4294967296:Nat),.int .u32 ((if xi<0+b then 1 else 0:Nat):Int)]) (fun O w' r=>GG xi 0 b w' hx32 (by decide) (by omega)) ?_);rintro O w' v w2 r he hb rfl;replace hw:=hw.tr hb;have hst:(xi+4294967296-(0+b)) % 4294967296+(0+b)=xi+4294967296*(if xi<0+b then 1 else 0):=by split<;>omega
    have hlt:(xi+4294967296-(0+b)) % 4294967296<4294967296:=bs _ (by decide);have hb2:(if xi<0+b then 1 else 0:Nat)<2:=by split<;>omega
    generalize (xi+4294967296-(0+b)) % 4294967296=e at hst hlt;generalize (if xi<0+b then 1 else 0:Nat)=b' at hst hb2;have hstep:=zV hxi hget hd hv hst;refine⟨by omega,by rw[fk];omega,U (out.set i e),iP out i _ (by omega) (by simp),((i+1:Nat):Int),wo,?_⟩;intro ρ3 w3 r3
    exact⟨(i+1,out.set i e,b',w3),⟨by dsimp only;omega,hw.tr r3.cM,by simp[hol],hlm1.set hlt,hb2,hstep⟩,
     Sub.gn [] r3,by dsimp only;omega⟩
  ·have hin:i=x.ls.length:=by
    have:¬i<x.ls.length:=by simpa using h
    omega
   subst hin;have hfin:val out=n-m:=by
    rw[List.take_of_length_le (by omega),List.take_of_length_le hyx,bE,hp1,hq1]at hv;have h1:=nA hlm1;rw[hol]at h1;have:b=0∨b=1:=by omega
    rcases this with rfl|rfl
    ·omega
    ·omega
   refine gC (Φ:=fun O _ v w2=>dH w2 (fun g=>g=(O 0).g) v (dg out)) (H':=[]) 0 rfl (by simp) trivial rfl (fun O w' r=>r.nn 0 _ rfl (by intros;simp) (by simp)) (fun O w' r=>?_) ?_
   ·have hL:=r.mg (id:=0) rfl hlm1 (by omega);rw[hol]at hL;exact fA (fun g hg=>by rw[hg];exact(r.low 0 _ rfl (r.nn 0 _ rfl (by intros;simp) (by simp))).2) hL
   rintro O w' v w2 r he hb hL;replace hw:=hw.tr hb;have hlow:=r.low 0 _ rfl (r.nn 0 _ rfl (by intros;simp) (by simp));generalize (O 0).g=g at*
   have hs:=he.size;intro ρ3 w3 r3;refine⟨_,rfl,hw.tr r3.cM,dg out,?_,(e8 out).2.1,?_⟩
   ·refine(hL.cG fun k hk=>?_).cI fun k hk=>.inr ?_
    ·rw[hk];exact r3.pP.block g (by omega) (by simp)
    ·rw[hk];have:=r3.size;omega
   ·rw[(e8 out).1,hfin]
theorem FU{p c:Nat}(ho:out[p]? =some o)(h:val out+wt p*c=V)(ht:t=a+o+c):
  val (out.set p (t % 4294967296))+wt (p+1)*(t / 4294967296)=V+wt p*a:=by
 have h1:=wz (x:=t % 4294967296) ho;rw[iL];have h3:=Nat.div_add_mod t 4294967296;generalize t / 4294967296=q at h3 ⊢;generalize t % 4294967296=r at h3 h1 ⊢;have h4:wt p*(4294967296*q+r)=wt p*(a+o+c):=by rw[h3,ht]
 rw[bS,bS,bS,<-bh,bT (wt p) 4294967296]at h4;omega
def Zf(out:List Nat)(p:Nat):Prop:=∀(j:Nat) z,p<=j->out[j]? =some z->z=0
theorem Zf.set{p x:Nat}(h:Zf out p)(hk:k<p):Zf (out.set k x) p:=fun j z hj hz=>by
 rw[bA (by omega)]at hz;exact h j z hj hz
theorem JR(ha:a<4294967296)(hb:b<4294967296):a*b<=18446744065119617025:=by
 have:a*b<=4294967295*4294967295:=Nat.mul_le_mul (by omega) (by omega);omega
theorem Fy{u:Value}{m:Nat}(hS:Old S w)(hn:dh w S v n)(hm:dh w S u m)(hln:ln n<=1000000000000)(hlm:ln m<=1000000000000):
  dm PG N.oC #[v,u] w (eB w fun v' w2=>dh w2 (Nf w w2) v' (n*m)):=by
 obtain⟨x,rfl,hp1,hp2⟩:=hn.la;obtain⟨y,rfl,hq1,hq2⟩:=hm.la;have hpl:=eE x.lm hp2;rw[hp1]at hpl;have hql:=eE y.lm hq2;rw[hq1]at hql;refine rX (by simp) ?_;obtain⟨L,hL⟩:∃L,L=x.ls.length+y.ls.length:=⟨_,rfl⟩
 refine⟨(L:Int),wo,L,L,rfl,rfl,aG _,by omega,by omega,Nat×List Nat×World,fun z=>⟨[(1,.o (.v (.slice y.a y.ls.length y.c))),(5,.o (.s 0 0 L L)),(18,.o (.v (.slice x.a x.ls.length x.c))),(19,.o (.v (.int .i64 x.ls.length))),(20,.o (.v (.int .i64 z.1)))],
   [(0,.arr T.uint32 (U z.2.1))],1,[],z.2.2⟩,fun z=>x.ls.length-z.1,
  fun z=>z.1<=x.ls.length∧cV w.heap.size w z.2.2∧z.2.1.length=L∧Lm z.2.1∧val z.2.1=val (x.ls.take z.1)*m∧Zf z.2.1 (z.1+y.ls.length),?_,?_⟩
 ·intro O w' r;rw[rb]at r;exact⟨(0,List.replicate L 0,w'),⟨by simp,r.cM,by simp,Lm.replicate _,by simp[val,mA],fun j z _ hz=>by simp only[List.getElem?_replicate]at hz;split at hz<;>simp_all⟩,Sub.gn [] r⟩
 ·rintro⟨i,out,w1⟩ ⟨hi,hw,hol,hlm1,hv,hz⟩;dsimp only at hi hw hol hlm1 hv hz ⊢;refine dI.mk (fun h=>?_) (fun h=>?_)
  ·have h:i<x.ls.length:=by simpa using h
   obtain⟨xi,hxi⟩:∃k,x.ls[i]? =some k:=⟨_,aB h⟩
   obtain⟨ad,had,hload⟩:=x.load hS hw hxi;have hx32:=x.lm.at hxi
   refine⟨ad,had,by omega,.int .u32 xi,hload _ _ _,Nat×List Nat×Nat×World,fun z=>⟨[(1,.o (.v (.slice y.a y.ls.length y.c))),(5,.o (.s 0 0 L L)),(18,.o (.v (.slice x.a x.ls.length x.c))),(19,.o (.v (.int .i64 x.ls.length))),(20,.o (.v (.int .i64 i))),
     (6,.o (.v (.int .i64 i))),(7,.o (.v (.int .u32 xi))),(8,.o (.v (.int .u64 z.2.2.1))),(25,.o (.v (.slice y.a y.ls.length y.c))),(26,.o (.v (.int .i64 y.ls.length))),(27,.o (.v (.int .i64 z.1)))],
     [(0,.arr T.uint32 (U z.2.1))],1,[],z.2.2.2⟩,fun z=>y.ls.length-z.1,
    fun z=>z.1<=y.ls.length∧cV w.heap.size w z.2.2.2∧z.2.1.length=L∧Lm z.2.1∧z.2.2.1<4294967296∧val z.2.1+wt (i+z.1)*z.2.2.1=val (x.ls.take i)*m+wt i*xi*val (y.ls.take z.1)∧Zf z.2.1 (i+y.ls.length),?_,?_⟩
   ·intro O w' r;exact⟨(0,out,0,w'),⟨by simp,hw.tr r.cM,hol,hlm1,by simp,by simp[val,hv],hz⟩,Sub.gn [] r⟩
   ·rintro⟨k,out,c,w1⟩ ⟨hk,hw,hol,hlm1,hc,hv,hz⟩;dsimp only at hk hw hol hlm1 hc hv hz ⊢;refine dI.mk (fun h2=>?_) (fun h2=>?_)
    ·have h2:k<y.ls.length:=by simpa using h2
     obtain⟨yk,hyk⟩:∃q,y.ls[k]? =some q:=⟨_,aB h2⟩
     obtain⟨ad2,had2,hload2⟩:=y.load hS hw hyk;have hy32:=y.lm.at hyk;obtain⟨o,ho⟩:∃q,out[i+k]? =some q:=⟨_,aB (by omega)⟩
     have ho32:=hlm1.at ho;have hm64:=JR hx32 hy32;refine⟨ad2,had2,by omega,.int .u32 yk,hload2 _ _ _,(xi:Int),eO (by omega),(yk:Int),eO (by omega),((xi*yk:Nat):Int),by rw[<-Int.natCast_mul];exact eO (by omega),((i+k:Nat):Int),wo,by omega,.int .u32 o,by rw[aF,aV,aU];exact tP ho,(o:Int),eO (by omega),((xi*yk+o:Nat):Int),by rw[<-Int.natCast_add];exact eO (by omega),?_⟩;obtain⟨t,ht⟩:∃t,t=xi*yk+o+c:=⟨_,rfl⟩
     refine⟨(t:Int),by rw[<-Int.natCast_add,<-ht];exact eO (by omega),((i+k:Nat):Int),wo,((t % 4294967296:Nat):Int),ek _,by decide,((t / 4294967296:Nat):Int),kz 32 (by decide),by omega,by rw[fk];omega,U (out.set (i+k) (t % 4294967296)),iP out (i+k) _ (by omega) (by simp only[aF];omega),((k+1:Nat):Int),wo,?_⟩;intro ρ3 w3 r3
     refine⟨(k+1,out.set (i+k) (t % 4294967296),t / 4294967296,w3),⟨by dsimp only;omega,hw.tr r3.cM,by simp[hol],hlm1.set (bs _ (by decide)),by dsimp only;omega,?_,hz.set (by omega)⟩,
      Sub.gn [] r3,by dsimp only;omega⟩
     have h5:=FU (a:=xi*yk) ho hv ht;dsimp only
     rw[show i+(k+1)=i+k+1 by omega,h5,dY hyk,BY,bS,Nat.add_assoc];congr 2;simp only[bh,Nat.mul_left_comm,bT]
    ·have hkn:k=y.ls.length:=by
      have:¬k<y.ls.length:=by simpa using h2
      omega
     subst hkn;obtain⟨o,ho⟩:∃q,out[i+y.ls.length]? =some q:=⟨_,aB (by omega)⟩
     have ho0:=hz _ _ (aG _) ho;subst ho0;refine⟨((i+y.ls.length:Nat):Int),wo,(c:Int),by rw[ek,bL hc],by omega,by rw[fk];omega,U (out.set (i+y.ls.length) c),iP out (i+y.ls.length) _ (by omega) (by simp only[aF];omega),((i+1:Nat):Int),wo,?_⟩;intro ρ3 w3 r3
     refine⟨(i+1,out.set (i+y.ls.length) c,w3),⟨by dsimp only;omega,hw.tr r3.cM,by simp[hol],hlm1.set hc,?_,?_⟩,
      Sub.gn [] r3,by dsimp only;omega⟩
     ·have h5:=wz (x:=c) ho;dsimp only
      rw[bE,hq1]at hv;rw[dY hxi,Nat.add_mul];omega
     ·intro j z hj hjz;dsimp only at hj;rw[bA (by omega)]at hjz;exact hz j z (by omega) hjz
  ·have hin:i=x.ls.length:=by
    have:¬i<x.ls.length:=by simpa using h
    omega
   subst hin;have hfin:val out=n*m:=by rw[hv,bE,hp1]
   refine gC (Φ:=fun O _ v w2=>dH w2 (fun g=>g=(O 0).g) v (dg out)) (H':=[]) 0 rfl (by simp) trivial rfl (fun O w' r=>r.nn 0 _ rfl (by intros;simp) (by simp)) (fun O w' r=>?_) ?_
   ·have hL:=r.mg (id:=0) rfl hlm1 (by omega);rw[hol]at hL;exact fA (fun g hg=>by rw[hg];exact(r.low 0 _ rfl (r.nn 0 _ rfl (by intros;simp) (by simp))).2) hL
   rintro O w' v w2 r he hb hL;replace hw:=hw.tr hb;have hlow:=r.low 0 _ rfl (r.nn 0 _ rfl (by intros;simp) (by simp));generalize (O 0).g=g at*
   have hs:=he.size;intro ρ3 w3 r3;refine⟨_,rfl,hw.tr r3.cM,dg out,?_,(e8 out).2.1,?_⟩
   ·refine(hL.cG fun k hk=>?_).cI fun k hk=>.inr ?_
    ·rw[hk];exact r3.pP.block g (by omega) (by simp)
    ·rw[hk];have:=r3.size;omega
   ·rw[(e8 out).1,hfin]
theorem CA{q:Nat}(ho:o<2^k):o ||| 2^k*q=o+2^k*q:=by
 rw[Nat.or_comm,<-Nat.two_pow_add_eq_or_of_lt ho,Nat.add_comm]
theorem IW{x y:Nat}(hx:x<18446744073709551616)(hy:y<18446744073709551616):IntKind.u64.wrap ((BitVec.ofInt IntKind.u64.bits x ||| BitVec.ofInt IntKind.u64.bits y).toNat:Int)=((x ||| y:Nat):Int):=by
 have e:∀z:Nat,BitVec.ofInt 64 (z:Int)=BitVec.ofNat 64 z:=fun z=>by
  apply BitVec.eq_of_toNat_eq;simp
 show IntKind.u64.wrap ((BitVec.ofInt 64 x ||| BitVec.ofInt 64 y).toNat:Int)=_;rw[e,e,BitVec.toNat_or,BitVec.toNat_ofNat,BitVec.toNat_ofNat,bL hx,bL hy];exact eO (Nat.or_lt_two_pow (n:=64) hx hy)
theorem Bz(hk:k<=63)(h:a*2^k<18446744073709551616):IntKind.u64.wrap ((a:Int)*2^min ((k:Int)).toNat IntKind.u64.bits)=((a*2^k:Nat):Int):=by
 have h1:min ((k:Int)).toNat IntKind.u64.bits=k:=by show min ((k:Int)).toNat 64=k;omega
 rw[h1,show(a:Int)*2^k=((a*2^k:Nat):Int) by simp];exact eO h
theorem FX(ha:ls[i]? =some a)(ho:out[i]? =some o)(hz:out[i+1]? =some 0)(hv:val out=val (ls.take i)*2^b):
  val ((out.set i (o+a*2^b % 4294967296)).set (i+1) (a*2^b / 4294967296))=val (ls.take (i+1))*2^b:=by
 have h1:=wz (x:=o+a*2^b % 4294967296) ho;have h2:(out.set i (o+a*2^b % 4294967296))[i+1]? =some 0:=by rw[bA (by omega)];exact hz
 have h3:=wz (x:=a*2^b / 4294967296) h2;rw[dY ha,Nat.add_mul,bh];rw[iL]at h3;generalize a*2^b=t at*
 have h4:=Nat.div_add_mod t 4294967296;generalize t / 4294967296=q at*
 generalize t % 4294967296=r at*
 have h5:wt i*(o+r)=wt i*o+wt i*r:=bS _ _ _;have h6:4294967296*wt i*q=wt i*(4294967296*q):=by rw[bT 4294967296 (wt i),bh]
 rw[<-h4,bS];omega
def IY(w w2:World)(v:Value)(ls:List Nat):Prop:=∃g,v= .slice (some ⟨g,0,none⟩) ls.length ls.length∧w.heap.size<=g∧w2.heap[g]? =some (.cells (U ls).toArray T.uint32 (0,0))∧Lm ls
theorem Au(hS:Old S w)(h:dH w S v ls)(hl:ls.length<=1000000000000)(hb:b<32):
  dm PG N.lY #[v,.int .u64 b] w (eB w fun v' w2=>∃out,IY w w2 v' out∧out.length=ls.length+1∧val out=val ls*2^b):=by
 obtain⟨x,rfl,rfl⟩:=h.la;refine pO (by simp) ?_;have hp32:2^b<=2^31:=Nat.pow_le_pow_right (by decide) (by omega)
 refine⟨((x.ls.length+1:Nat):Int),wo,x.ls.length+1,x.ls.length+1,rfl,rfl,aG _,by omega,by omega,Nat×List Nat×World,fun z=>⟨[(1,.o (.v (.int .u64 b))),(5,.o (.s 0 0 (x.ls.length+1) (x.ls.length+1))),(13,.o (.v (.slice x.a x.ls.length x.c))),(14,.o (.v (.int .i64 x.ls.length))),(15,.o (.v (.int .i64 z.1)))],
   [(0,.arr T.uint32 (U z.2.1))],1,[],z.2.2⟩,fun z=>x.ls.length-z.1,
  fun z=>z.1<=x.ls.length∧cV w.heap.size w z.2.2∧z.2.1.length=x.ls.length+1∧Lm z.2.1∧val z.2.1=val (x.ls.take z.1)*2^b∧Zf z.2.1 (z.1+1)∧(∀o,z.2.1[z.1]? =some o->o<2^b),?_,?_⟩
 ·intro O w' r;rw[rb]at r;refine⟨(0,List.replicate (x.ls.length+1) 0,w'),⟨by simp,r.cM,by simp,Lm.replicate _,by simp[val,mA],fun j z _ hz=>?_,fun o ho=>?_⟩,Sub.gn [] r⟩
  ·simp only[List.getElem?_replicate]at hz;split at hz<;>simp_all
  ·simp only[List.getElem?_replicate]at ho;split at ho
   ·injection ho with ho;subst ho;exact bm _
   ·cases ho
 ·rintro⟨i,out,w1⟩ ⟨hi,hw,hol,hlm1,hv,hz,hlow⟩;dsimp only at hi hw hol hlm1 hv hz hlow ⊢;refine dI.mk (fun h=>?_) (fun h=>?_)
  ·have h:i<x.ls.length:=by simpa using h
   obtain⟨a,hxi⟩:∃k,x.ls[i]? =some k:=⟨_,aB h⟩
   obtain⟨ad,had,hload⟩:=x.load hS hw hxi;have hx32:=x.lm.at hxi;obtain⟨o,ho⟩:∃q,out[i]? =some q:=⟨_,aB (by omega)⟩
   obtain⟨o1,ho1⟩:∃q,out[i+1]? =some q:=⟨_,aB (by omega)⟩
   have e0:=hz _ _ (aG _) ho1;subst e0;have hlo:=hlow o ho;have hstep:=FX hxi ho ho1 hv;have hab:a*2^b<=4294967295*2^31:=Nat.mul_le_mul (by omega) hp32;have hhi:a*2^b / 4294967296<2^b:=by
    rw[Nat.div_lt_iff_lt_mul (by decide),bT (2^b)];exact Nat.mul_lt_mul_of_pos_right hx32 (bm b)
   have hor:o ||| a*2^b % 4294967296=o+a*2^b % 4294967296:=by
    have:a*2^b % 4294967296=2^b*(a % 2^(32-b)):=by
     rw[show (4294967296:Nat)=2^(32-b)*2^b by rw[<-Nat.pow_add,Nat.sub_add_cancel (by omega)],Nat.mul_mod_mul_right,bT]
    rw[this];exact CA hlo
   have hsm:o+a*2^b % 4294967296<4294967296:=by
    rw[<-hor];exact CU (by omega) (bs _ (by decide))
   refine⟨ad,had,by omega,.int .u32 a,hload _ _ _,(a:Int),eO (by omega),by omega,((a*2^b:Nat):Int),Bz (by omega) (by omega),?_⟩;generalize ht:a*2^b=t at*
   refine⟨by omega,.int .u32 o,by rw[aF,aV,aU];exact tP ho,((t % 4294967296:Nat):Int),ek _,((o+t % 4294967296:Nat):Int),by rw[<-hor];exact MM (by omega) (bs _ (by decide)),by omega,by rw[fk];omega,U (out.set i (o+t % 4294967296)),iP out i _ (by omega) (by simp),((i+1:Nat):Int),wo,by decide,((t / 4294967296:Nat):Int),kz 32 (by decide),((t / 4294967296:Nat):Int),by rw[ek];omega,by omega,by rw[fk];simp;omega,U ((out.set i (o+t % 4294967296)).set (i+1) (t / 4294967296)),iP _ (i+1) _ (by simp;omega) (by simp only[aF];omega),((i+1:Nat):Int),wo,?_⟩;intro ρ3 w3 r3
   refine⟨(i+1,(out.set i (o+t % 4294967296)).set (i+1) (t / 4294967296),w3),⟨by dsimp only;omega,hw.tr r3.cM,by simp[hol],(hlm1.set hsm).set (by omega),hstep,fun j z hj hjz=>?_,fun o2 ho2=>?_⟩,
    Sub.gn [] r3,by dsimp only;omega⟩
   ·dsimp only at hj;rw[bA (by omega),bA (by omega)]at hjz;exact hz j z (by omega) hjz
   ·rw[aW (by simp;omega)]at ho2;injection ho2 with ho2;omega
  ·have hin:i=x.ls.length:=by
    have:¬i<x.ls.length:=by simpa using h
    omega
   subst hin;rw[bE]at hv;intro ρ3 w3 r3;refine⟨_,rfl,hw.tr r3.cM,out,⟨(ρ3 0).g,by rw[hol];rfl,(r3.low 0 _ rfl (r3.nn 0 _ rfl (by intros;simp) (by simp))).1,r3.arr 0 _ _ rfl,hlm1⟩,hol,hv⟩
theorem BQ{d q:Nat}(ha32:a<4294967296)(ha:ls[i]? =some a)(hd:out[i]? =some d)(hb:b<=32)(ht:t=a+4294967296*ls.getD (i+1) 0)(hq:q=t / 2^b % 4294967296)(hv:val (out.take i)+wt i*(val (ls.drop i) / 2^b)=V):
  val ((out.set i q).take (i+1))+wt (i+1)*(val (ls.drop (i+1)) / 2^b)=V:=by
 have hi:=(aE.1 hd).1;have h1:(out.set i q)[i]? =some q:=by rw[aW hi]
 rw[dY h1,List.take_set_of_le (aG _),iL,<-hv];have hN:=iY ha;have h2:val (ls.drop i) / 2^b=q+4294967296*(val (ls.drop (i+1)) / 2^b):=by
  have e1:val (ls.drop i) / 2^b / 4294967296=val (ls.drop (i+1)) / 2^b:=by
   rw[Nat.div_div_eq_div_mul,bT,<-Nat.div_div_eq_div_mul];congr 1;omega
  have e2:val (ls.drop i) / 2^b % 4294967296=q:=by
   have h3:∃z,val (ls.drop i)=t+2^b*(4294967296*z):=by
    cases hx:ls[i+1]? with
    |some y=>
     have:=iY hx;refine⟨2^(32-b)*val (ls.drop (i+1+1)),?_⟩;have h4:2^b*(4294967296*(2^(32-b)*val (ls.drop (i+1+1))))=18446744073709551616*val (ls.drop (i+1+1)):=by
      rw[Nat.mul_left_comm,<-bh (2^b),<-Nat.pow_add,Nat.add_sub_cancel' hb,<-bh]
     rw[h4,hN,this,ht,List.getD,hx];simp only[Option.getD_some]
     omega
    |none=>
     refine⟨0,?_⟩;have h5:ls.length<=i+1:=List.getElem?_eq_none_iff.1 hx;rw[hN,List.drop_of_length_le h5,ht,List.getD,hx];simp[val]
   obtain⟨z,hz⟩:=h3;rw[hz,Nat.add_mul_div_left _ _ (bm b),Nat.add_mul_mod_self_left,hq]
  have:=Nat.div_add_mod (val (ls.drop i) / 2^b) 4294967296;rw[e1,e2]at this;omega
 rw[h2,bS,bT 4294967296 (wt i),bh];omega
theorem LJ(hS:Old S w)(h:dH w S v ls)(hl:ls.length<=1000000000000)(hb:b<32):
  dm PG N.pE #[v,.int .u64 b] w (eB w fun v' w2=>dh w2 (Nf w w2) v' (val ls / 2^b)):=by
 obtain⟨x,rfl,rfl⟩:=h.la;refine tN (by simp) ?_
 refine⟨x.ls.length,x.ls.length,rfl,rfl,aG _,by omega,by omega,Nat×List Nat×World,fun z=>⟨[(0,.o (.v (.slice x.a x.ls.length x.c))),(1,.o (.v (.int .u64 b))),(5,.o (.s 0 0 x.ls.length x.ls.length)),(12,.o (.v (.int .i64 x.ls.length))),(13,.o (.v (.int .i64 z.1)))],
   [(0,.arr T.uint32 (U z.2.1))],1,[],z.2.2⟩,fun z=>x.ls.length-z.1,
  fun z=>z.1<=x.ls.length∧cV w.heap.size w z.2.2∧z.2.1.length=x.ls.length∧Lm z.2.1∧val (z.2.1.take z.1)+wt z.1*(val (x.ls.drop z.1) / 2^b)=val x.ls / 2^b,?_,?_⟩
 ·intro O w' r;rw[rb]at r;exact⟨(0,List.replicate x.ls.length 0,w'),⟨by simp,r.cM,by simp,Lm.replicate _,by simp[val,im]⟩,Sub.gn [] r⟩
 ·rintro⟨i,out,w1⟩ ⟨hi,hw,hol,hlm1,hv⟩;dsimp only at hi hw hol hlm1 hv ⊢;refine dI.mk (fun h=>?_) (fun h=>?_)
  ·have h:i<x.ls.length:=by simpa using h
   obtain⟨a,hxi⟩:∃k,x.ls[i]? =some k:=⟨_,aB h⟩
   obtain⟨ad,had,hload⟩:=x.load hS hw hxi;have hx32:=x.lm.at hxi;obtain⟨d,hd⟩:∃q,out[i]? =some q:=⟨_,aB (by omega)⟩
   refine⟨ad,had,by omega,.int .u32 a,hload _ _ _,(a:Int),eO (by omega),((i+1:Nat):Int),wo,?_⟩;refine dI.mk (fun h2=>?_) (fun h2=>?_)
   ·have h2:i+1<x.ls.length:=by
     have:((i+1:Nat):Int)<x.ls.length:=aI h2;omega
    obtain⟨y,hy⟩:∃k,x.ls[i+1]? =some k:=⟨_,aB h2⟩
    obtain⟨ad2,had2,hload2⟩:=x.load hS hw hy;have hy32:=x.lm.at hy;have hgd:x.ls.getD (i+1) 0=y:=by simp[List.getD,hy]
    have hor:a ||| y*2^32=a+4294967296*y:=by
     rw[bT];exact CA (k:=32) hx32
    refine⟨((i+1:Nat):Int),wo,ad2,had2,by omega,.int .u32 y,hload2 _ _ _,(y:Int),eO (by omega),by decide,((y*2^32:Nat):Int),Bz (k:=32) (by decide) (by omega),((a+4294967296*y:Nat):Int),by rw[IW (by omega) (by omega),hor],by omega,(((a+4294967296*y) / 2^b:Nat):Int),kz b (by omega),(((a+4294967296*y) / 2^b % 4294967296:Nat):Int),ek _,?_⟩;have hstep:=BQ (t:=a+4294967296*y) hx32 hxi hd (by omega) (by rw[hgd]) rfl hv;generalize hq:(a+4294967296*y) / 2^b % 4294967296=q at*
    have hq32:q<4294967296:=by rw[<-hq];exact bs _ (by decide)
    refine⟨by omega,by rw[fk];omega,U (out.set i q),iP out i _ (by omega) (by simp),((i+1:Nat):Int),wo,?_⟩;intro ρ3 w3 r3
    exact⟨(i+1,out.set i q,w3),⟨by dsimp only;omega,hw.tr r3.cM,by simp[hol],hlm1.set hq32,hstep⟩,
     Sub.gn [] r3,by dsimp only;omega⟩
   ·have h2:¬i+1<x.ls.length:=by
     have:¬((i+1:Nat):Int)<x.ls.length:=aH h2;omega
    have hgd:x.ls.getD (i+1) 0=0:=by simp[List.getD,List.getElem?_eq_none (show x.ls.length<=i+1 by omega)]
    refine⟨by omega,((a / 2^b:Nat):Int),kz b (by omega),((a / 2^b % 4294967296:Nat):Int),ek _,?_⟩;have hstep:=BQ (t:=a) hx32 hxi hd (by omega) (by rw[hgd];omega) rfl hv;generalize hq:a / 2^b % 4294967296=q at*
    have hq32:q<4294967296:=by rw[<-hq];exact bs _ (by decide)
    refine⟨by omega,by rw[fk];omega,U (out.set i q),iP out i _ (by omega) (by simp),((i+1:Nat):Int),wo,?_⟩;intro ρ3 w3 r3
    exact⟨(i+1,out.set i q,w3),⟨by dsimp only;omega,hw.tr r3.cM,by simp[hol],hlm1.set hq32,hstep⟩,
     Sub.gn [] r3,by dsimp only;omega⟩
  ·have hin:i=x.ls.length:=by
    have:¬i<x.ls.length:=by simpa using h
    omega
   subst hin;have hfin:val out=val x.ls / 2^b:=by
    rw[List.drop_length,List.take_of_length_le (by omega)]at hv;simpa [val]using hv
   refine gC (Φ:=fun O _ v w2=>dH w2 (fun g=>g=(O 0).g) v (dg out)) (H':=[]) 0 rfl (by simp) trivial rfl (fun O w' r=>r.nn 0 _ rfl (by intros;simp) (by simp)) (fun O w' r=>?_) ?_
   ·have hL:=r.mg (id:=0) rfl hlm1 (by omega);rw[hol]at hL;exact fA (fun g hg=>by rw[hg];exact(r.low 0 _ rfl (r.nn 0 _ rfl (by intros;simp) (by simp))).2) hL
   rintro O w' v w2 r he hb hL;replace hw:=hw.tr hb;have hlow:=r.low 0 _ rfl (r.nn 0 _ rfl (by intros;simp) (by simp));generalize (O 0).g=g at*
   have hs:=he.size;intro ρ3 w3 r3;refine⟨_,rfl,hw.tr r3.cM,dg out,?_,(e8 out).2.1,?_⟩
   ·refine(hL.cG fun k hk=>?_).cI fun k hk=>.inr ?_
    ·rw[hk];exact r3.pP.block g (by omega) (by simp)
    ·rw[hk];have:=r3.size;omega
   ·rw[(e8 out).1,hfin]
theorem FY{by_ rest x d:Nat}(hx:ls[k]? =some x)(hd:out[k]? =some d)(ht:t=rest*4294967296+x)
  (hv:val (ls.drop (k+1))=by_*val (out.drop (k+1))+rest):val (ls.drop k)=by_*val ((out.set k (t / by_)).drop k)+t % by_:=by
 have hi:=(aE.1 hd).1;have h1:(out.set k (t / by_))[k]? =some (t / by_):=by rw[aW hi]
 rw[iY h1,List.drop_set_of_lt (show k<k+1 by omega),iY hx,hv,bS,bS];have h2:=Nat.div_add_mod t by_;rw[Nat.mul_left_comm by_];omega
theorem IX(h:t<18446744073709551616):IntKind.u64.wrap ((t:Int).tdiv (b:Int))=((t / b:Nat):Int):=by
 have h1:=Nat.div_le_self t b;rw[Int.tdiv_eq_ediv_of_nonneg (by omega),<-Int.natCast_ediv];exact eO (by omega)
theorem JH(t b:Nat):(t:Int).tmod (b:Int)=((t % b:Nat):Int):=by
 rw[Int.tmod_eq_emod_of_nonneg (by omega),<-Int.natCast_emod]
theorem Jq(hS:Old S w)(h:dH w S v ls)(hl:ls.length<=1000000000000)(hb:0<b)(hb2:b<4294967296):
  dm PG N.oE #[v,.int .u32 b] w (eB w fun v' w2=>∃q,v'= .tuple #[q,.int .u32 ((val ls % b:Nat):Int)]∧dh w2 (Nf w w2) q (val ls / b)):=by
 obtain⟨x,rfl,rfl⟩:=h.la;refine rZ (by simp) ?_
 refine⟨x.ls.length,x.ls.length,rfl,rfl,aG _,by omega,by omega,(x.ls.length:Int)-1,wo,Nat×Nat×List Nat×World,fun z=>⟨[(0,.o (.v (.slice x.a x.ls.length x.c))),(1,.o (.v (.int .u32 b))),(4,.o (.v (.slice none 0 0))),(5,.o (.v (.int .u32 0))),(6,.o (.s 0 0 x.ls.length x.ls.length)),(7,.o (.v (.int .u64 z.2.1))),(8,.o (.v (.int .i64 ((z.1:Int)-1))))],
   [(0,.arr T.uint32 (U z.2.2.1))],1,[],z.2.2.2⟩,fun z=>z.1,
  fun z=>z.1<=x.ls.length∧cV w.heap.size w z.2.2.2∧z.2.2.1.length=x.ls.length∧Lm z.2.2.1∧z.2.1<b∧val (x.ls.drop z.1)=b*val (z.2.2.1.drop z.1)+z.2.1,?_,?_⟩
 ·intro O w' r;rw[rb]at r;exact⟨(x.ls.length,0,List.replicate x.ls.length 0,w'),⟨by simp,r.cM,by simp,Lm.replicate _,by simpa using hb,by simp[val]⟩,Sub.gn [] r⟩
 ·rintro⟨k,rest,out,w1⟩ ⟨hi,hw,hol,hlm1,hr,hv⟩;dsimp only at hi hw hol hlm1 hr hv ⊢;refine dI.mk (fun h=>?_) (fun h=>?_)
  ·have h:(k:Int)-1≥0:=aI h;obtain⟨k,rfl⟩:∃q,k=q+1:=⟨k-1,by omega⟩
   rw[show ((k+1:Nat):Int)-1=(k:Int) by omega];obtain⟨a,hxi⟩:∃q,x.ls[k]? =some q:=⟨_,aB (by omega)⟩
   obtain⟨ad,had,hload⟩:=x.load hS hw hxi;have hx32:=x.lm.at hxi;obtain⟨d,hd⟩:∃q,out[k]? =some q:=⟨_,aB (by omega)⟩
   refine⟨by decide,((rest*2^32:Nat):Int),Bz (k:=32) (by decide) (by omega),ad,had,by omega,.int .u32 a,hload _ _ _,(a:Int),eO (by omega),?_⟩;have hor:rest*2^32 ||| a=rest*4294967296+a:=by
    rw[Nat.or_comm,bT,CA (k:=32) hx32];omega
   refine⟨((rest*4294967296+a:Nat):Int),by rw[IW (by omega) (by omega),hor],?_⟩;generalize ht:rest*4294967296+a=t;have ht64:t<18446744073709551616:=by omega
   refine cJ hτ db [.x 0,.x 1,.x 2,.x 3,.x 4,.x 5,.x 6,.x 7,.x 8,.x 9,.x 10,.x 11,.x 12,.x 13] (by kernel_rfl) (by kernel_rfl) ?_;refine⟨(b:Int),eO (by omega),by omega,((t / b:Nat):Int),IX ht64,?_⟩;have hq:t / b<4294967296:=by
    rw[Nat.div_lt_iff_lt_mul hb];have:=Nat.mul_le_mul_right 4294967296 hr;rw[Nat.succ_eq_add_one,Nat.add_mul]at this;omega
   have hm:t % b<b:=bs _ hb;have hstep:=FY hxi hd ht.symm hv;have hw32:IntKind.u32.wrap ((t / b:Nat):Int)=((t / b:Nat):Int):=by rw[ek,bL hq]
   have hrem:=JH t b;generalize t / b=q at*
   generalize t % b=m at*
   refine⟨(q:Int),hw32,(b:Int),eO (by omega),by omega,(m:Int),hrem,by omega,by rw[fk];omega,U (out.set k q),iP out k _ (by omega) (by simp),(k:Int)-1,wo,?_⟩;intro ρ3 w3 r3
   exact⟨(k,m,out.set k q,w3),⟨by dsimp only;omega,hw.tr r3.cM,by simp[hol],hlm1.set hq,hm,hstep⟩,
    Sub.gn [] r3,by dsimp only;omega⟩
  ·have hk0:k=0:=by
    have:¬(k:Int)-1≥0:=aH h;omega
   subst hk0;rw[List.drop_zero,List.drop_zero]at hv;have hdm:val x.ls / b=val out∧val x.ls % b=rest:=by
    rw[hv];exact⟨by rw[Nat.mul_add_div hb,Nat.div_eq_of_lt hr,bw],by rw[Nat.mul_add_mod,bL hr]⟩
   rw[hdm.1,hdm.2];refine gC (Φ:=fun O _ v w2=>dH w2 (fun g=>g=(O 0).g) v (dg out)) (H':=[]) 0 rfl (by simp) trivial rfl (fun O w' r=>r.nn 0 _ rfl (by intros;simp) (by simp)) (fun O w' r=>?_) ?_
   ·have hL:=r.mg (id:=0) rfl hlm1 (by omega);rw[hol]at hL;exact fA (fun g hg=>by rw[hg];exact(r.low 0 _ rfl (r.nn 0 _ rfl (by intros;simp) (by simp))).2) hL
   rintro O w' v w2 r he hb hL;replace hw:=hw.tr hb;have hlow:=r.low 0 _ rfl (r.nn 0 _ rfl (by intros;simp) (by simp));generalize (O 0).g=g at*
   have hs:=he.size;refine⟨(rest:Int),by rw[ek,bL (by omega)],?_⟩;intro ρ3 w3 r3;refine⟨_,rfl,hw.tr r3.cM,v,rfl,dg out,?_,(e8 out).2.1,(e8 out).1⟩;refine(hL.cG fun k hk=>?_).cI fun k hk=>.inr ?_
   ·rw[hk];exact r3.pP.block g (by omega) (by simp)
   ·rw[hk];have:=r3.size;omega
def gD(n:Nat):Nat:=if n=0 then 0 else n.log2+1
theorem IS{x:Nat}(h:2^k<=x):x.log2=(x / 2^k).log2+k:=by
 have hp:=bm k;have hy:x / 2^k≠0:=by have:=Nat.div_pos h hp;omega
 have h1:=Nat.log2_self_le hy;have h2:=@Nat.lt_log2_self (x / 2^k);rw[Nat.log2_eq_iff (by omega)];refine⟨?_,?_⟩
 ·rw[Nat.pow_add];exact(Nat.le_div_iff_mul_le hp).1 h1
 ·rw[show (x / 2^k).log2+k+1=(x / 2^k).log2+1+k by omega,Nat.pow_add];exact(Nat.div_lt_iff_lt_mul hp).1 h2
theorem zC{x:Nat}(h:2^k<=x):gD x=k+gD (x / 2^k):=by
 have hp:=bm k;have hy:x / 2^k≠0:=by have:=Nat.div_pos h hp;omega
 rw[gD,gD,aK hy,aK (by omega),IS h];omega
theorem xG(h:n<256):IntKind.u8.wrap (n:Int)=(n:Int):=by
 show((n:Int) % 256)=_;omega
theorem xH(h:n<256):(UInt8.ofNat (gD n)).toNat=gD n:=by
 have:∀n,n<256->(UInt8.ofNat (gD n)).toNat=gD n:=by decide +kernel
 exact this n h
theorem nV{x:Nat}(h:x<256):gD x<=8:=by
 have:∀n,n<256->gD n<=8:=by decide +kernel
 exact this x h
theorem Fv(n:Nat)(h:n<256):(⟨#[0,1,2,2,3,3,3,3,4,4,4,4,4,4,4,4,5,5,5,5,5,5,5,5,5,5,5,5,5,5,5,5,6,6,6,6,6,6,6,6,6,6,6,6,6,6,6,6,6,6,6,6,6,6,6,6,6,6,6,6,6,6,6,6,7,7,7,7,7,7,7,7,7,7,7,7,7,7,7,7,7,7,7,7,7,7,7,7,7,7,7,7,7,7,7,7,7,7,7,7,7,7,7,7,7,7,7,7,7,7,7,7,7,7,7,7,7,7,7,7,7,7,7,7,7,7,7,7,8,8,8,8,8,8,8,8,8,8,8,8,8,8,8,8,8,8,8,8,8,8,8,8,8,8,8,8,8,8,8,8,8,8,8,8,8,8,8,8,8,8,8,8,8,8,8,8,8,8,8,8,8,8,8,8,8,8,8,8,8,8,8,8,8,8,8,8,8,8,8,8,8,8,8,8,8,8,8,8,8,8,8,8,8,8,8,8,8,8,8,8,8,8,8,8,8,8,8,8,8,8,8,8,8,8,8,8,8,8,8,8,8,8,8,8,8,8,8,8,8,8,8,8,8,8,8,8]⟩:ByteArray)[((n:Nat):Int).toNat]? =some (UInt8.ofNat (gD n)):=by
 have:∀n,n<256->(⟨#[0,1,2,2,3,3,3,3,4,4,4,4,4,4,4,4,5,5,5,5,5,5,5,5,5,5,5,5,5,5,5,5,6,6,6,6,6,6,6,6,6,6,6,6,6,6,6,6,6,6,6,6,6,6,6,6,6,6,6,6,6,6,6,6,7,7,7,7,7,7,7,7,7,7,7,7,7,7,7,7,7,7,7,7,7,7,7,7,7,7,7,7,7,7,7,7,7,7,7,7,7,7,7,7,7,7,7,7,7,7,7,7,7,7,7,7,7,7,7,7,7,7,7,7,7,7,7,7,8,8,8,8,8,8,8,8,8,8,8,8,8,8,8,8,8,8,8,8,8,8,8,8,8,8,8,8,8,8,8,8,8,8,8,8,8,8,8,8,8,8,8,8,8,8,8,8,8,8,8,8,8,8,8,8,8,8,8,8,8,8,8,8,8,8,8,8,8,8,8,8,8,8,8,8,8,8,8,8,8,8,8,8,8,8,8,8,8,8,8,8,8,8,8,8,8,8,8,8,8,8,8,8,8,8,8,8,8,8,8,8,8,8,8,8,8,8,8,8,8,8,8,8,8,8,8,8]⟩:ByteArray)[n]? =some (UInt8.ofNat (gD n)):=by decide +kernel
 exact this n h
theorem Jm(x:Nat)(w:World)(hx:x<4294967296):dm PG N.yg #[.int .u32 x] w (eB w fun v _=>v= .int .i64 (gD x)):=by
 refine zu (by simp) ?_;refine dI.mk (fun h=>?_) (fun h=>?_)
 ·have h:65536<=x:=by have:=aI h;omega
  refine⟨by decide,((x / 2^16:Nat):Int),nW 16 (by decide),?_⟩;have hb:=zC (k:=16) h;have hy:x / 2^16<65536:=by omega
  rw[hb];generalize x / 2^16=y at*
  refine dI.mk (fun h2=>?_) (fun h2=>?_)
  ·have h2:256<=y:=by have:=aI h2;omega
   refine⟨by decide,((y / 2^8:Nat):Int),nW 8 (by decide),?_⟩;have hb2:=zC (k:=8) h2;have hz:y / 2^8<256:=by omega
   rw[hb2];generalize y / 2^8=z at*
   refine⟨24,by decide,(z:Int),xG hz,?_⟩;refine pj (b:=UInt8.ofNat (gD z)) ((hτ _ _ rfl).i3 rfl) rfl rfl (by omega) (Fv z hz) (fun ρ1 w1 r1=>?_);rw[xH hz];have ht:=nV hz;refine⟨(gD z:Int),wo,((24+gD z:Nat):Int),wo,?_⟩;intro ρ3 w3 r3;exact⟨_,rfl,r1.cM.tr r3.cM,by rw[<-Nat.add_assoc];rfl⟩
  ·have hy:y<256:=by have:=aH h2;omega
   refine⟨(y:Int),xG hy,?_⟩;refine pj (b:=UInt8.ofNat (gD y)) ((hτ _ _ rfl).i3 rfl) rfl rfl (by omega) (Fv y hy) (fun ρ1 w1 r1=>?_);rw[xH hy];have ht:=nV hy;refine⟨(gD y:Int),wo,((16+gD y:Nat):Int),wo,?_⟩;intro ρ3 w3 r3;exact⟨_,rfl,r1.cM.tr r3.cM,by rfl⟩
 ·have h:x<65536:=by have:=aH h;omega
  refine dI.mk (fun h2=>?_) (fun h2=>?_)
  ·have h2:256<=x:=by have:=aI h2;omega
   refine⟨by decide,((x / 2^8:Nat):Int),nW 8 (by decide),?_⟩;have hb2:=zC (k:=8) h2;have hz:x / 2^8<256:=by omega
   rw[hb2];generalize x / 2^8=z at*
   refine⟨8,by decide,(z:Int),xG hz,?_⟩;refine pj (b:=UInt8.ofNat (gD z)) ((hτ _ _ rfl).i3 rfl) rfl rfl (by omega) (Fv z hz) (fun ρ1 w1 r1=>?_);rw[xH hz];have ht:=nV hz;refine⟨(gD z:Int),wo,((8+gD z:Nat):Int),wo,?_⟩;intro ρ3 w3 r3;exact⟨_,rfl,r1.cM.tr r3.cM,by rfl⟩
  ·have hx:x<256:=by have:=aH h2;omega
   refine⟨(x:Int),xG hx,?_⟩;refine pj (b:=UInt8.ofNat (gD x)) ((hτ _ _ rfl).i3 rfl) rfl rfl (by omega) (Fv x hx) (fun ρ1 w1 r1=>?_);rw[xH hx];have ht:=nV hx;refine⟨(gD x:Int),wo,((0+gD x:Nat):Int),wo,?_⟩;intro ρ3 w3 r3;exact⟨_,rfl,r1.cM.tr r3.cM,by rw[aV];rfl⟩
theorem xA{x:Nat}:gD x<=k↔x<2^k:=by
 unfold gD;by_cases h:x=0
 ·rw[if_pos h,h];exact⟨fun _=>bm k,fun _=>aP _⟩
 ·rw[aK h];constructor
  ·intro h1;exact(Nat.log2_lt h).1 (by omega)
  ·intro h1;have:=(Nat.log2_lt h).2 h1;omega
theorem LH(x:Nat)(w:World)(hx:x<4294967296):dm PG N.jx #[.int .u32 x] w (eB w fun v _=>v= .int .i64 ((32-gD x:Nat):Int)):=by
 refine nU (by simp) ?_;refine cC (cL (Φ:=fun _ _ v _=>v= .int .i64 (gD x)) (fun O w' r=>Jm x w' hx) ?_);rintro O w' v w2 r he hb rfl;have h32:gD x<=32:=xA.2 hx;refine⟨((32-gD x:Nat):Int),wo,?_⟩;intro ρ3 w3 r3;exact⟨_,rfl,hb.tr r3.cM,rfl⟩
end Go.Ex
namespace Go.Sx
open Go Go.Ex Go.Proofs
variable{ls:List Nat}{O:Nat->Sx.df}
theorem Rel.IT{H:Hp}{nx:Nat}{iv:Iv}{B:Nat}{w w':World}(r:Rel H nx iv B w O w'){id t m:Nat}(h:dA H id=some (.vec t 1 (U ls)))(hm:m=ls.length)(hlm:Lm ls)(hle:ls.length<=9223372036854775807):
  dH w' (fun g=>B<=g∧g<w'.heap.size) ((At.w id m).den O) ls:=by
 subst hm;rcases r.vec id t 1 _ h with⟨hn,hu⟩|⟨hn,spare,hb,hc,hcap⟩
 ·have hl:ls=[]:=by cases ls with
   |nil=>rfl
   |cons a b=>simp[U]at hu
  subst hl;have:(At.w id ([]:List Nat).length).den O= .slice none 0 0:=by simp[At.den,hn]
  rw[this];exact dH.nil _ _
 ·refine⟨hlm,hle,some ⟨(O id).g,0,none⟩,(O id).cap,by simp[At.den,hn],?_,fun j x hx=>⟨_,rfl,r.low id _ h hn,?_⟩⟩
  ·have h1:(U ls++spare).length=ls.length+spare.length:=by rw[List.length_append,fk]
   omega
  ·rw[dP,cell_of hb,aV,aM (by rw[fk];exact(aE.1 hx).1)];exact tP hx
end Go.Sx
namespace Go.Ex
open Go Go.Sx Go.Proofs
variable{ls:List Nat}{S:Nat->Prop}
theorem Jn:PG.underlying T.nat=some (.slice T.uint32):=by
 have h:=(hτ T.nat _ rfl).i4 rfl;exact h
theorem Fw{w:World}{v:Value}(hS:Old S w)(h:dH w S v ls)(hl:ls.length<=1000000000000):
  dm PG N.fU #[v] w (eB w fun v' w2=>dH w2 (Nf w w2) v' ls):=by
 obtain⟨x,rfl,rfl⟩:=h.la;refine iH (by simp) ?_;refine⟨x.a.isNone,fun O w1 o1 o2=>by simp[eqGuard,SV.den,At.den,mQ (P:=PG) w1 T.nat T.uint32 x.a x.ls.length x.c 0 0 Jn],?_⟩;refine dI.mk (fun h=>?_) (fun h=>?_)
 ·intro ρ3 w3 r3;have hn:x.ls=[]:=by
   cases hx:x.ls with
   |nil=>rfl
   |cons u r=>
    obtain⟨ad,h1,_⟩:=x.cell 0 u (by rw[hx];rfl);rw[h1]at h;simp at h
  exact⟨_,rfl,r3.cM,by rw[hn];exact dH.nil _ _⟩
 ·refine .inl ?_;refine⟨U x.ls,by rw[fk,aU],fun u hu=>by simp only[U,aT]at hu;obtain⟨n,_,rfl⟩:=hu;rfl,fun O w1 r h0=>?_,?_⟩
  ·obtain⟨u,hu⟩:∃q,x.ls[0]? =some q:=⟨_,aB h0⟩
   obtain⟨ad,had,_⟩:=x.cell 0 u hu;refine⟨ad,had,fun j u hu=>?_⟩;simp only[U,aN,Option.map_eq_some_iff]at hu;obtain⟨n,hn,rfl⟩:=hu;obtain⟨ad2,had2,hs,hc⟩:=x.cell j n hn;rw[had]at had2;injection had2 with had2;subst had2;exact jX hS cV.refl r hs hc
  refine⟨rfl,by omega,by unfold maxLen;omega,?_⟩;intro ρ3 w3 r3;exact⟨_,rfl,r3.cM,(r3.IT (id:=1) rfl (aV _) x.lm x.le).cI fun g hg=>.inr hg⟩
end Go.Ex
