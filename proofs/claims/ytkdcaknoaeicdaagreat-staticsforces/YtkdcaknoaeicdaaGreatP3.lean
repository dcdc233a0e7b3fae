/- Texts L1 to X10: lemmas, each with its conditions. -/
import Derived.KernelRfl
import Derived.Test.YtkdcaknoaeicdaaGreatProg
import Derived.Test.YtkdcaknoaeicdaaGreatP2
namespace Go.Ex
variable{a b ls:List Nat}{k:Nat}
def val:List Nat->Nat
 |[]=>0
 |x::r=>x+4294967296*val r
def Lm(ls:List Nat):Prop:=∀x∈ls,x<4294967296
def wt(k:Nat):Nat:=4294967296^k
theorem jV:wt 0=1:=rfl
theorem iy(k:Nat):wt (k+1)=4294967296*wt k:=by rw[wt,Nat.pow_succ,bW];rfl
theorem Cr(a b:Nat):wt (a+b)=wt a*wt b:=by rw[wt,Nat.pow_add];rfl
theorem yn(k:Nat):0<wt k:=Nat.pow_pos (by decide)
theorem lP(a b:List Nat):val (a++b)=val a+wt a.length*val b:=by
 induction a with
 |nil=>simp[val,jV]
 |cons x r ih=>
  rw[List.cons_append,val,val,ih,List.length_cons,iy,bV,bf];omega
theorem oD(h:Lm ls):val ls<wt ls.length:=by
 induction ls with
 |nil=>exact Nat.one_pos
 |cons x r ih=>
  have h1:=h x (by simp);have h2:=ih (fun y hy=>h y (by simp[hy]));rw[val,List.length_cons,iy];have:4294967296*(val r+1)<=4294967296*wt r.length:=b9 _ h2;omega
theorem e9(ls:List Nat)(k:Nat)(h:k<=ls.length):val ls=val (ls.take k)+wt k*val (ls.drop k):=by
 have:=lP (ls.take k) (ls.drop k);rw[List.take_append_drop,aW,Nat.min_eq_left h]at this;exact this
theorem de{x:Nat}(h:ls[k]? =some x):val (ls.take (k+1))=val (ls.take k)+wt k*x:=by
 have hk:=(aD.1 h).1;rw[List.take_add_one,h,lP,aW,Nat.min_eq_left (by omega)];simp[val]
theorem jN{x:Nat}(h:ls[k]? =some x):val (ls.drop k)=x+4294967296*val (ls.drop (k+1)):=by
 obtain⟨hk,hx⟩:=aD.1 h;rw[List.drop_eq_getElem_cons hk,hx,val]
theorem yH{o x:Nat}(h:ls[k]? =some o):val (ls.set k x)+wt k*o=val ls+wt k*x:=by
 obtain⟨hk,ho⟩:=aD.1 h;have h1:=e9 ls k (by omega);have h2:=e9 (ls.set k x) k (by simp;omega);rw[List.take_set_of_le (aF _)]at h2;rw[jN h,bV]at h1;have h3:(ls.set k x)[k]? =some x:=by rw[aV hk]
 rw[jN h3,List.drop_set_of_lt (by omega),bV]at h2;omega
theorem my(n:Nat):val (List.replicate n 0)=0:=by
 induction n with
 |zero=>rfl
 |succ n ih=>rw[List.replicate_succ,val,ih]
theorem Lm.set{x:Nat}(h:Lm ls)(hx:x<4294967296):Lm (ls.set k x):=fun y hy=>by
 rcases bJ hy with h1|rfl
 ·exact h y h1
 ·exact hx
theorem Lm.replicate(n:Nat):Lm (List.replicate n 0):=fun x hx=>by rw[List.mem_replicate]at hx;omega
theorem Lm.take(h:Lm ls)(k:Nat):Lm (ls.take k):=fun x hx=>h x (List.mem_of_mem_take hx)
theorem Lm.drop(h:Lm ls)(k:Nat):Lm (ls.drop k):=fun x hx=>h x (List.mem_of_mem_drop hx)
theorem Lm.append(ha:Lm a)(hb:Lm b):Lm (a++b):=fun x hx=>by
 rcases bG.1 hx with h|h
 ·exact ha x h
 ·exact hb x h
theorem Lm.at(h:Lm ls){x:Nat}(hx:ls[k]? =some x):x<4294967296:=h x (aC hx)
def dh:List Nat->List Nat
 |[]=>[]
 |x::r=>match dh r with
  |[]=>if x=0 then []else [x]
  |y::t=>x::y::t
def Nz(ls:List Nat):Prop:=∀x,ls.getLast? =some x->x≠0
theorem kc(ls:List Nat):dh (ls++[0])=dh ls:=by
 induction ls with
 |nil=>rfl
 |cons x r ih=>rw[List.cons_append,dh,ih,dh]
theorem oE(ls:List Nat){x:Nat}(hx:x≠0):dh (ls++[x])=ls++[x]:=by
 induction ls with
 |nil=>simp[dh,hx]
 |cons y r ih=>
  rw[List.cons_append,dh,ih]
  cases r<;>rfl
theorem sI(ls:List Nat):ls=[]∨∃a x,ls=a++[x]:=by
 rcases List.eq_nil_or_concat ls with h|⟨a,x,h⟩
 ·exact .inl h
 ·exact .inr ⟨a,x,by simpa using h⟩
theorem ef(ls:List Nat):val (dh ls)=val ls∧Nz (dh ls)∧∃k,k<=ls.length∧dh ls=ls.take k:=by
 have key:∀(n:Nat) (ls:List Nat),ls.length=n->val (dh ls)=val ls∧Nz (dh ls)∧∃k,k<=ls.length∧dh ls=ls.take k:=by
  intro n
  induction n with
  |zero=>intro ls h;have:ls=[]:=List.eq_nil_of_length_eq_zero h;subst this;exact⟨rfl,by simp[Nz,dh],0,aF _,rfl⟩
  |succ n ih=>
   intro ls h;rcases sI ls with rfl|⟨a,x,rfl⟩
   ·simp at h
   ·by_cases hx:x=0
    ·subst hx;rw[kc];obtain⟨h1,h2,k,h3,h4⟩:=ih a (by simp at h;omega);refine⟨by rw[h1,lP];simp[val],h2,k,by simp;omega,?_⟩;rw[h4,List.take_append_of_le_length h3]
    ·rw[oE a hx];refine⟨rfl,?_,_,aF _,by rw[bC]⟩;intro y hy;simp at hy;subst hy;exact hx
 exact key _ ls rfl
theorem EY(h:Nz ls):dh ls=ls:=by
 rcases sI ls with rfl|⟨a,x,rfl⟩
 ·rfl
 ·exact oE a (h x (by simp))
theorem rL(h:Nz ls)(OH:ls≠[]):wt (ls.length-1)<=val ls:=by
 rcases sI ls with rfl|⟨a,x,rfl⟩
 ·exact absurd rfl OH
 ·have hx:=h x (by simp);rw[lP];simp only[val,List.length_append,List.length_singleton,Nat.add_sub_cancel]
  have:wt a.length*1<=wt a.length*(x+4294967296*0):=b9 _ (by omega);omega
theorem val_inj:∀{a b:List Nat},Lm a->Lm b->a.length=b.length->val a=val b->a=b
 |[],[],_,_,_,_=>rfl
 |x::r,y::s,ha,hb,hl,h=>by
  have h1:=ha x (by simp);have h2:=hb y (by simp);rw[val,val]at h;have h3:x=y:=by omega
  have h4:val r=val s:=by omega
  rw[h3,val_inj (fun z hz=>ha z (by simp[hz])) (fun z hz=>hb z (by simp[hz])) (by simpa using hl) h4]
 |[],_::_,_,_,h,_=>by simp at h
 |_::_,[],_,_,h,_=>by simp at h
theorem Be{a b:Nat}(h:a<=b):wt a<=wt b:=Nat.pow_le_pow_right (by decide) h
theorem Hf{a b:Nat}(h:a<b):wt a<wt b:=Nat.pow_lt_pow_right (by decide) h
theorem iz(ha:Lm a)(hb:Nz b)(h:a.length<b.length):val a<val b:=by
 have h1:=oD ha;have h2:=rL hb (by intro e;rw[e]at h;simp at h);have:=Be (show a.length<=b.length-1 by omega);omega
def ln(n:Nat):Nat:=if n=0 then 0 else n.log2 / 32+1
theorem uy(k:Nat):wt k=2^(32*k):=by rw[wt,show(4294967296:Nat)=2^32 from rfl,<-Nat.pow_mul]
theorem gI{n k:Nat}:ln n<=k↔n<wt k:=by
 unfold ln;by_cases h:n=0
 ·rw[if_pos h,h];exact⟨fun _=>yn k,fun _=>aP _⟩
 ·rw[aL h,uy];constructor
  ·intro h1;have:n.log2<32*k:=by omega
   exact(Nat.log2_lt h).1 this
  ·intro h1;have:=(Nat.log2_lt h).2 h1;omega
theorem lQ(n:Nat):n<wt (ln n):=gI.1 (aF _)
theorem fI{a b:Nat}(h:a<=b):ln a<=ln b:=gI.2 (Nat.lt_of_le_of_lt h (lQ b))
theorem NT(a b:Nat):ln (a+b)<=max (ln a) (ln b)+1:=by
 rw[gI,iy];have h1:=Nat.lt_of_lt_of_le (lQ a) (Be (Nat.le_max_left (ln a) (ln b)));have h2:=Nat.lt_of_lt_of_le (lQ b) (Be (Nat.le_max_right (ln a) (ln b)));omega
theorem NU(a b:Nat):ln (a*b)<=ln a+ln b:=by
 rw[gI,Cr];exact Nat.mul_lt_mul'' (lQ a) (lQ b)
theorem ME:ln 0=0:=rfl
theorem eJ(h:Lm ls)(hz:Nz ls):ls.length=ln (val ls):=by
 by_cases OH:ls=[]
 ·subst OH;rfl
 ·have h1:=oD h;have h2:=rL hz OH;have h3:=gI.2 h1;have h4:¬ln (val ls)<=ls.length-1:=fun hh=>by have:=gI.1 hh;omega
  omega
end Go.Ex
namespace Go.Ex
open Go Go.Sx
variable{f:(Nat->Sx.dg)->Value}{ls:List Nat}{g n:Nat}{p:Nat×Nat}{v:Value}{P:Value->World->Prop}{w1:World}
def Cv(S:Nat->Prop)(B:Nat)(iv:Iv)(g:Nat):Prop:=S g∨(B<=g∧∃lo hi,(lo,hi)∈iv∧lo<=g∧g<hi)
def Nw(S:Nat->Prop)(w w2:World)(g:Nat):Prop:=S g∨(w.heap.size<=g∧g<w2.heap.size)
def Old(S:Nat->Prop)(w:World):Prop:=∀g,S g->g<w.heap.size
section
variable{S S':Nat->Prop}{H:Hp}{nx:Nat}{iv iv':Iv}{B:Nat}{w w' w2:World}{O:Nat->dg}
theorem Cv.mono(h:Cv S B iv g)(k:∀p,p∈iv->p∈iv'):Cv S B iv' g:=by
 rcases h with h|⟨h0,lo,hi,h1,h2⟩
 ·exact .inl h
 ·exact .inr ⟨h0,lo,hi,k _ h1,h2⟩
theorem Cv.cons(h:Cv S B iv g):Cv S B (p::iv) g:=h.mono fun q hq=>by simp[hq]
theorem Rel.old(r:Rel H nx iv B w O w')(hS:∀g,S g->g<B):Old (Cv S B iv) w':=by
 intro g h;rcases h with h|⟨_,lo,hi,h1,_,h3⟩
 ·have:=hS g h;have:=r.base;have:=r.size;omega
 ·have:=r.qd lo hi h1;have:=r.size;omega
theorem Rel.same(r:Rel H nx iv B w O w')(hS:∀g,S g->g<B)(h:Cv S B iv g):w'.heap[g]? =w.heap[g]? :=by
 rcases h with h|⟨_,lo,hi,h1,h2,h3⟩
 ·have:=hS g h;exact r.uh g (by have:=r.base;omega) fun id b hb hn he=>by have:=(r.low id b hb hn).1;omega
 ·exact r.uh g (by have:=r.qd lo hi h1;omega) fun id b hb hn he=>r.kP lo hi h1 id b hb hn ⟨by omega,by omega⟩
theorem Rel.not(r:Rel H nx iv B w O w')(hS:∀g,S g->g<B)(h:Cv S B iv g):∀id b,dC H id=some b->(O id).nil=false->(O id).g≠g:=by
 rcases h with h|⟨_,lo,hi,h1,h2,h3⟩
 ·have:=hS g h;exact fun id b hb hn he=>by have:=(r.low id b hb hn).1;omega
 ·exact fun id b hb hn he=>r.kP lo hi h1 id b hb hn ⟨by omega,by omega⟩
theorem Nw.cv(h:Nw (Cv S B iv) w' w1 g)(hB:B<=w'.heap.size):Cv S B ((w'.heap.size,w1.heap.size)::iv) g:=by
 rcases h with h|h
 ·exact h.cons
 ·exact .inr ⟨by omega,_,_,aG,h.1,h.2⟩
theorem Cv.nw{w0:World}(h:Cv S w0.heap.size iv g)(r:Rel H nx iv w0.heap.size w O w'):Nw S w0 w' g:=by
 rcases h with h|⟨h0,lo,hi,h1,_,h3⟩
 ·exact .inl h
 ·exact .inr ⟨h0,by have:=r.qd lo hi h1;have:=r.size;omega⟩
structure dO(w:World)(S:Nat->Prop)(v:Value)(ls:List Nat):Prop where
 lm:Lm ls
 le:ls.length<=9223372036854775807
 sl:∃a c,v= .slice a ls.length c∧ls.length<=c∧∀(j:Nat) x,ls[j]? =some x->∃ad,a=some ad∧S ad.block∧w.cell? (ad.add j)=some (.int .u32 x)
theorem dE(ad:Addr)(j:Nat):(ad.add j).block=ad.block:=by
 unfold Addr.add;split<;>rfl
theorem dO.cH(h:dO w S v ls)(hk:∀g,S g->w2.heap[g]? =w.heap[g]?):dO w2 S v ls:=by
 obtain⟨a,c,h1,SY,h2⟩:=h.sl;refine⟨h.lm,h.le,a,c,h1,SY,fun j x hx=>?_⟩;obtain⟨ad,h3,h4,h5⟩:=h2 j x hx;exact⟨ad,h3,h4,by rw[cG (hk _ (by rw[dE];exact h4))];exact h5⟩
theorem dO.cI(h:dO w S v ls)(hk:∀g,S g->S' g):dO w S' v ls:=by
 obtain⟨a,c,h1,SY,h2⟩:=h.sl;refine⟨h.lm,h.le,a,c,h1,SY,fun j x hx=>?_⟩;obtain⟨ad,h3,h4,h5⟩:=h2 j x hx;exact⟨ad,h3,hk _ h4,h5⟩
theorem dO.rel(h:dO w (Cv S B iv) v ls)(r:Rel H nx iv B w O w')(hS:∀g,S g->g<B):dO w' (Cv S B iv) v ls:=h.cH fun _g hg=>Rel.same r hS hg
theorem dO.nil(w:World)(S:Nat->Prop):dO w S (.slice none 0 0) []:=⟨by simp[Lm],by simp,none,0,rfl,aF _,by simp⟩
def dq(w:World)(S:Nat->Prop)(v:Value)(n:Nat):Prop:=∃ls,dO w S v ls∧Nz ls∧val ls=n
theorem dq.cH(h:dq w S v n)(hk:∀g,S g->w2.heap[g]? =w.heap[g]?):dq w2 S v n:=by
 obtain⟨ls,h1,h2,h3⟩:=h;exact⟨ls,h1.cH hk,h2,h3⟩
theorem dq.cI(h:dq w S v n)(hk:∀g,S g->S' g):dq w S' v n:=by
 obtain⟨ls,h1,h2,h3⟩:=h;exact⟨ls,h1.cI hk,h2,h3⟩
theorem dq.nil(w:World)(S:Nat->Prop):dq w S (.slice none 0 0) 0:=⟨[],dO.nil w S,by simp[Nz],rfl⟩
end
abbrev iZ(z:Int):SV:=.o (.v (.int .i64 z))
abbrev iN(n:Nat):SV:=.o (.v (.int .i64 (n:Int)))
abbrev sV(a:Option Addr)(n c:Nat):SV:=.o (.v (.slice a n c))
abbrev pP(i j:Nat):SV:=.o (.p i j)
theorem rtn{H:Hp}{nx:Nat}{iv:Iv}{w:World}(hw:dm w.heap.size w w1)(h:∀O w',Rel H nx iv w.heap.size w1 O w'->P (f O) w'):∀O w',Rel H nx iv w.heap.size w1 O w'->dw w P (.returned (f O)) w':=fun O w' r=>⟨_,rfl,hw.tr r.cP,h O w' r⟩
abbrev FF:Nat->Prop:=fun _=>False
theorem bR(w:World):dm w.heap.size w w:=dm.refl
abbrev Nf(w w2:World):Nat->Prop:=Nw (fun _=>False) w w2
abbrev Cf(w:World):Iv->Nat->Prop:=Cv (fun _=>False) w.heap.size
section
variable{S:Nat->Prop}{H:Hp}{nx:Nat}{iv:Iv}{B i n:Nat}{w w1 w':World}{O:Nat->Sx.dg}{ad:Addr}{cs:List Value}{x:Value}
theorem kS(hw:dm B w w1)(r:Rel H nx iv B w1 O w')(hS:∀g,S g->g<B):∀g,S g->w'.heap[g]? =w.heap[g]? :=fun g hg=>(hw.tr r.cP).block g (hS g hg)
theorem oS(hS:∀g,S g->g<B)(r:Rel H nx iv B w O w'):∀g,S g->g<w'.heap.size:=fun g hg=>by have:=hS g hg;have:=r.base;have:=r.size;omega
theorem rdO(hl:∀(j:Nat) u,cs[j]? =some u->S ad.block∧w.cell? ((ad.add (i*n)).add j)=some u)(hw:dm B w w1)(hS:∀g,S g->g<B):∀O w',Rel H nx iv B w1 O w'->∀(j:Nat) u,cs[j]? =some u->w'.cell? ((ad.add ((i:Int).toNat*n)).add j)=some u:=fun O w' r j u hu=>by
 obtain⟨k1,k2⟩:=hl j u hu;rw[aE,cG (w:=w) (w2:=w') (by rw[dE,dE];exact(hw.tr r.cP).block _ (hS _ k1))];exact k2
theorem rd1(hl:w.cell? (ad.add (i*n))=some x)(hw:dm B w w1)(hb:ad.block<B):∀O w',Rel H nx iv B w1 O w'->w'.cell? (ad.add ((i:Int).toNat*n))=some x:=fun O w' r=>by
 rw[aE,cG (w:=w) (w2:=w') (by rw[dE];exact(hw.tr r.cP).block _ hb)];exact hl
end
end Go.Ex
namespace Go.Ex
open Go Go.Sx Go.Proofs
variable{args:Array Value}{R:Ending->World->Prop}{ls:List Nat}{k n:Nat}{S:Nat->Prop}{O:Nat->Sx.dg}{v:Value}{w:World}
noncomputable abbrev PG:Program:=Tryz.prog
def slT(e:Nat):TI:={size:=1,bytes:=24,zero:=[.slice none 0 0],agg:=false,tag:=4,elem:=e}
def aAY:List (Nat×TI):=[
 (3,{size:=1,bytes:=8,zero:=[.int .i64 0],agg:=false,tag:=1,ik:=.i64}),
 (4,{size:=1,bytes:=1,zero:=[.bool false],agg:=false,tag:=2}),
 (47,{size:=4,bytes:=64,zero:=[.bool false,.slice none 0 0,.bool false,.slice none 0 0],agg:=true,tag:=5,fields:=[(0,45),(2,45)]}),
 (31,slT 47),
 (26,{size:=3,bytes:=72,zero:=[.slice none 0 0,.slice none 0 0,.slice none 0 0],agg:=true,tag:=5,fields:=[(0,22),(1,23),(2,24)]}),
 (32,{size:=1,bytes:=8,zero:=[.int .i64 0],agg:=false,tag:=1,ik:=.i64}),
 (92,slT 3),
 (45,{size:=2,bytes:=32,zero:=[.bool false,.slice none 0 0],agg:=true,tag:=5,fields:=[(0,4),(1,43)]}),
 (226,slT 220),
 (53,slT 31),
 (220,{size:=1,bytes:=4,zero:=[.int .u32 0],agg:=false,tag:=1,ik:=.u32}),
 (27,slT 147),
 (228,{size:=2,bytes:=32,zero:=[.bool false,.slice none 0 0],agg:=true,tag:=5,fields:=[(0,4),(1,226)]}),
 (253,{size:=1,bytes:=8,zero:=[.int .u64 0],agg:=false,tag:=1,ik:=.u64}),
 (151,{size:=2,bytes:=32,zero:=[.slice none 0 0,.int .i64 0],agg:=true,tag:=5,fields:=[(0,53),(1,3)]}),
 (79,slT 84),
 (230,{size:=4,bytes:=64,zero:=[.bool false,.slice none 0 0,.bool false,.slice none 0 0],agg:=true,tag:=5,fields:=[(0,228),(2,228)]}),
 (23,slT 143),
 (98,slT 123),
 (147,{size:=4,bytes:=32,zero:=[.int .i64 0,.int .i64 0,.int .i64 0,.int .i64 0],agg:=true,tag:=5,fields:=[(0,3),(1,3),(2,3),(3,3)]}),
 (91,slT 27),
 (22,slT 169),
 (64,slT 92),
 (24,slT 145),
 (43,slT 220),
 (169,{size:=3,bytes:=24,zero:=[.int .i64 0,.int .i64 0,.int .i64 0],agg:=true,tag:=5,fields:=[(0,3),(1,3),(2,3)]}),
 (143,{size:=6,bytes:=80,zero:=[.int .i64 0,.int .i64 0,.bool false,.slice none 0 0,.bool false,.slice none 0 0],agg:=true,tag:=5,fields:=[(0,3),(1,3),(2,47)]}),
 (123,{size:=8,bytes:=128,zero:=[.bool false,.slice none 0 0,.bool false,.slice none 0 0,.bool false,.slice none 0 0,.bool false,.slice none 0 0],agg:=true,tag:=5,fields:=[(0,47),(4,47)]}),
 (84,{size:=8,bytes:=128,zero:=[.bool false,.slice none 0 0,.bool false,.slice none 0 0,.bool false,.slice none 0 0,.bool false,.slice none 0 0],agg:=true,tag:=5,fields:=[(0,47),(4,47)]}),
 (154,{size:=4,bytes:=80,zero:=[.slice none 0 0,.int .i64 0,.slice none 0 0,.slice none 0 0],agg:=true,tag:=5,fields:=[(0,151),(2,92),(3,92)]}),
 (68,{size:=3,bytes:=24,zero:=[.int .i64 0,.int .i64 0,.int .i64 0],agg:=true,tag:=5,fields:=[(0,3),(1,3),(2,3)]}),
 (145,{size:=6,bytes:=80,zero:=[.int .i64 0,.int .i64 0,.bool false,.slice none 0 0,.bool false,.slice none 0 0],agg:=true,tag:=5,fields:=[(0,3),(1,3),(2,47)]}),
 (189,{size:=3,bytes:=24,zero:=[.int .i64 0,.int .i64 0,.int .i64 0],agg:=true,tag:=6,Ar:=3,elem:=3}),
 (125,{size:=10,bytes:=176,zero:=[.bool false,.slice none 0 0,.bool false,.slice none 0 0,.bool false,.slice none 0 0,.bool false,.slice none 0 0,.slice none 0 0,.slice none 0 0],agg:=true,tag:=5,fields:=[(0,123),(8,92),(9,92)]}),
 (115,slT 125),
 (106,{size:=3,bytes:=56,zero:=[.int .i64 0,.slice none 0 0,.slice none 0 0],agg:=true,tag:=5,fields:=[(0,3),(1,31),(2,31)]}),
 (254,{size:=1,bytes:=8,zero:=[.int .u64 0],agg:=false,tag:=1,ik:=.u64}),
 (187,{size:=2,bytes:=16,zero:=[.int .i64 0,.int .i64 0],agg:=true,tag:=5,fields:=[(0,3),(1,3)]}),
 (185,{size:=1,bytes:=8,zero:=[.map none],agg:=false,tag:=0}),
 (87,{size:=2,bytes:=48,zero:=[.slice none 0 0,.slice none 0 0],agg:=true,tag:=6,Ar:=2,elem:=27}),
 (130,{size:=2,bytes:=48,zero:=[.slice none 0 0,.slice none 0 0],agg:=true,tag:=5,fields:=[(0,92),(1,79)]}),
 (9,{size:=1,bytes:=16,zero:=[.string ⟨#[]⟩],agg:=false,tag:=3}),
 (204,{size:=1,bytes:=8,zero:=[.pointer none],agg:=false,tag:=7}),
 (224,slT 4),
 (88,{size:=2,bytes:=16,zero:=[.int .i64 0,.int .i64 0],agg:=true,tag:=6,Ar:=2,elem:=3}),
 (194,{size:=80,bytes:=640,zero:=[.int .i64 0,.int .i64 0,.int .i64 0,.int .i64 0,.int .i64 0,.int .i64 0,.int .i64 0,.int .i64 0,.int .i64 0,.int .i64 0,.int .i64 0,.int .i64 0,.int .i64 0,.int .i64 0,.int .i64 0,.int .i64 0,.int .i64 0,.int .i64 0,.int .i64 0,.int .i64 0,.int .i64 0,.int .i64 0,.int .i64 0,.int .i64 0,.int .i64 0,.int .i64 0,.int .i64 0,.int .i64 0,.int .i64 0,.int .i64 0,.int .i64 0,.int .i64 0,.int .i64 0,.int .i64 0,.int .i64 0,.int .i64 0,.int .i64 0,.int .i64 0,.int .i64 0,.int .i64 0,.int .i64 0,.int .i64 0,.int .i64 0,.int .i64 0,.int .i64 0,.int .i64 0,.int .i64 0,.int .i64 0,.int .i64 0,.int .i64 0,.int .i64 0,.int .i64 0,.int .i64 0,.int .i64 0,.int .i64 0,.int .i64 0,.int .i64 0,.int .i64 0,.int .i64 0,.int .i64 0,.int .i64 0,.int .i64 0,.int .i64 0,.int .i64 0,.int .i64 0,.int .i64 0,.int .i64 0,.int .i64 0,.int .i64 0,.int .i64 0,.int .i64 0,.int .i64 0,.int .i64 0,.int .i64 0,.int .i64 0,.int .i64 0,.int .i64 0,.int .i64 0,.int .i64 0,.int .i64 0],agg:=true,tag:=6,Ar:=20,elem:=147}),
 (42,{size:=1,bytes:=8,zero:=[.nilFunc],agg:=false,tag:=0}),
 (195,{size:=1,bytes:=8,zero:=[.pointer none],agg:=false,tag:=7}),
 (199,{size:=1,bytes:=8,zero:=[.nilFunc],agg:=false,tag:=0}),
 (5,{size:=1,bytes:=1,zero:=[.int .u8 0],agg:=false,tag:=1,ik:=.u8}),
 (8,{size:=4,bytes:=24,zero:=[.int .i64 0,.int .i64 0,.bool false,.int .u8 0],agg:=true,tag:=5,fields:=[(0,2),(1,3),(2,4),(3,6)]}),
 (10,{size:=1,bytes:=16,zero:=[.string ⟨#[]⟩],agg:=false,tag:=3}),
 (11,{size:=1,bytes:=16,zero:=[.string ⟨#[]⟩],agg:=false,tag:=3}),
 (14,{size:=2,bytes:=24,zero:=[.string ⟨#[]⟩,.int .u64 0],agg:=true,tag:=5,fields:=[(0,9),(1,12)]}),
 (15,{size:=1,bytes:=8,zero:=[.pointer none],agg:=false,tag:=7}),
 (16,{size:=1,bytes:=8,zero:=[.pointer none],agg:=false,tag:=7}),
 (19,{size:=1,bytes:=8,zero:=[.pointer none],agg:=true,tag:=5,fields:=[(0,17)]}),
 (17,{size:=1,bytes:=8,zero:=[.pointer none],agg:=false,tag:=7}),
 (276,{size:=1,bytes:=1,zero:=[.int .u8 0],agg:=false,tag:=1,ik:=.u8}),
 (2,{size:=1,bytes:=8,zero:=[.int .i64 0],agg:=false,tag:=1,ik:=.i64}),
 (6,{size:=1,bytes:=1,zero:=[.int .u8 0],agg:=false,tag:=1,ik:=.u8}),
 (12,{size:=1,bytes:=8,zero:=[.int .u64 0],agg:=false,tag:=1,ik:=.u64})]
def τ:nH:=yB aAY
theorem hτ:fJ PG τ:=NN (l:=aAY) (by kernel_rfl)
theorem dZ:PG.follows .mixedOrders=true:=by rfl
noncomputable def bd (f:Func):Code:=match f.body with
 |some c=>c
 |none=>.skip
theorem dB{f:FuncId}{fn:Func}(hf:PG.funcs[f]? =some fn)(hb:fn.body=some (bd fn))(VP:(fn.name== "runtime.NumGoroutine")=false)
  (hn:args.size<=fn.ntmps) (OI:codeOk fn.ntmps (bd fn)=true) (h:mu PG τ w.heap.size (bd fn) (fT 0 args.toList) [] 0 [] w (NS τ w.heap.size fn.results.toList R)):di PG f args w R:=
 ⟨IU hf hb VP,EX hτ hf hb hn OI h⟩
abbrev T.int:Nat:=3
abbrev T.bool:Nat:=4
abbrev T.string:Nat:=9
abbrev T.Frame:Nat:=26
abbrev T.fU:Nat:=31
abbrev T.Int:Nat:=45
abbrev T.Rat:Nat:=47
abbrev T.zd:Nat:=68
abbrev T.Lint:Nat:=92
abbrev T.Bar:Nat:=143
abbrev T.yM:Nat:=145
abbrev T.aAh:Nat:=147
abbrev T.dc:Nat:=151
abbrev T.dU:Nat:=154
abbrev T.Node:Nat:=169
abbrev T.xY:Nat:=185
abbrev T.DE:Nat:=187
abbrev T.uint32:Nat:=220
abbrev T.nat:Nat:=226
abbrev T.number:Nat:=228
abbrev T.FD:Nat:=230
abbrev T.row:Nat:=0
abbrev N.kg:Nat:=12
abbrev N.ph:Nat:=15
abbrev N.Bz:Nat:=16
abbrev N.wm:Nat:=17
abbrev N.nS:Nat:=18
abbrev N.ox:Nat:=19
abbrev N.pj:Nat:=21
abbrev N.lX:Nat:=22
abbrev N.mV:Nat:=23
abbrev N.wu:Nat:=25
abbrev N.zf:Nat:=26
abbrev N.pn:Nat:=27
abbrev N.nT:Nat:=29
abbrev N.po:Nat:=30
abbrev N.pq:Nat:=31
abbrev N.sW:Nat:=32
abbrev N.CA:Nat:=33
abbrev N.ji:Nat:=34
abbrev N.te:Nat:=35
abbrev N.CB:Nat:=37
abbrev N.rP:Nat:=39
abbrev N.rQ:Nat:=42
abbrev N.lY:Nat:=43
abbrev N.tf:Nat:=45
abbrev N.kh:Nat:=62
abbrev N.th:Nat:=63
abbrev N.wv:Nat:=69
abbrev N.rR:Nat:=72
abbrev N.CC:Nat:=74
abbrev N.sX:Nat:=75
abbrev N.FE:Nat:=76
abbrev N.rS:Nat:=80
abbrev N.wx:Nat:=81
abbrev N.tj:Nat:=82
abbrev N.oy:Nat:=83
abbrev N.il:Nat:=84
abbrev N.lZ:Nat:=85
abbrev N.pr:Nat:=86
abbrev N.jQ:Nat:=87
abbrev N.jM:Nat:=88
abbrev N.pt:Nat:=89
abbrev N.tk:Nat:=90
abbrev N.pw:Nat:=91
abbrev N.rT:Nat:=92
abbrev N.l8:Nat:=93
abbrev N.zg:Nat:=95
abbrev N.pz:Nat:=96
abbrev N.mW:Nat:=97
abbrev N.wy:Nat:=98
abbrev N.wz:Nat:=99
abbrev N.tm:Nat:=100
abbrev N.nA:Nat:=101
abbrev N.qA:Nat:=102
abbrev N.tn:Nat:=103
abbrev N.oP:Nat:=104
abbrev N.sY:Nat:=105
abbrev N.tp:Nat:=106
abbrev N.CD:Nat:=107
abbrev N.zh:Nat:=108
abbrev N.xA:Nat:=109
abbrev N.tq:Nat:=110
abbrev N.CE:Nat:=111
abbrev N.zi:Nat:=112
abbrev N.qB:Nat:=113
abbrev N.gS:Nat:=114
abbrev N.qC:Nat:=115
abbrev N.fQ:Nat:=116
abbrev N.xB:Nat:=117
abbrev N.vJ:Nat:=118
abbrev N.l9:Nat:=119
abbrev N.nU:Nat:=120
abbrev N.vK:Nat:=125
abbrev N.nV:Nat:=128
abbrev N.ki:Nat:=130
abbrev N.tt:Nat:=132
abbrev N.eo:Nat:=135
abbrev N.fK:Nat:=136
abbrev N.rU:Nat:=137
abbrev N.vL:Nat:=139
abbrev N.kX:Nat:=140
abbrev N.rV:Nat:=141
abbrev N.tu:Nat:=142
abbrev N.xC:Nat:=143
abbrev N.tv:Nat:=144
abbrev N.xD:Nat:=145
abbrev N.oQ:Nat:=146
abbrev N.kL:Nat:=147
abbrev N.lf:Nat:=148
abbrev N.xE:Nat:=149
abbrev N.vM:Nat:=150
abbrev N.CF:Nat:=152
abbrev N.oR:Nat:=153
abbrev N.rW:Nat:=154
abbrev N.xF:Nat:=155
abbrev N.rX:Nat:=156
abbrev N.rY:Nat:=157
abbrev N.xG:Nat:=158
abbrev N.vN:Nat:=159
abbrev N.CG:Nat:=160
abbrev N.nB:Nat:=161
abbrev N.FG:Nat:=162
abbrev N.fm:Nat:=163
abbrev N.xH:Nat:=164
abbrev N.lg:Nat:=165
abbrev N.mX:Nat:=166
abbrev N.vO:Nat:=168
abbrev N.fG:Nat:=173
abbrev N.kj:Nat:=174
abbrev N.kk:Nat:=175
abbrev N.xI:Nat:=176
abbrev N.tw:Nat:=177
abbrev N.zj:Nat:=178
abbrev N.zk:Nat:=179
abbrev N.CH:Nat:=180
abbrev N.rZ:Nat:=181
abbrev N.tx:Nat:=182
abbrev N.tz:Nat:=183
abbrev N.kY:Nat:=184
abbrev N.xJ:Nat:=185
abbrev N.kl:Nat:=186
abbrev N.mY:Nat:=187
abbrev N.zl:Nat:=188
abbrev N.mZ:Nat:=189
abbrev N.xK:Nat:=190
abbrev N.zm:Nat:=191
abbrev N.lh:Nat:=192
abbrev N.nW:Nat:=193
abbrev N.kZ:Nat:=194
abbrev N.ma:Nat:=195
abbrev N.mb:Nat:=196
abbrev N.mc:Nat:=197
abbrev N.lj:Nat:=198
abbrev N.uA:Nat:=199
abbrev N.nX:Nat:=200
abbrev N.oz:Nat:=201
abbrev N.qD:Nat:=202
abbrev N.r8:Nat:=203
abbrev N.pA:Nat:=204
abbrev N.fy:Nat:=205
abbrev N.pB:Nat:=206
abbrev N.ko:Nat:=207
abbrev N.me:Nat:=208
abbrev N.pC:Nat:=209
abbrev N.qE:Nat:=210
abbrev N.zn:Nat:=211
abbrev N.zo:Nat:=212
abbrev N.zp:Nat:=213
abbrev N.qF:Nat:=214
abbrev Ent(g:Nat)(f:Func):Prop:=∀{args:Array Value} {w:World} {R:Ending->World->Prop},args.size<=f.ntmps->mu PG τ w.heap.size (bd f) (fT 0 args.toList) [] 0 [] w (NS τ w.heap.size f.results.toList R)->di PG g args w R
theorem oT:Ent N.kg Tryz.f12:=fun hn h=>dB Tryz.func12 (by rfl) (by rfl) hn (by rfl) h
theorem zq:Ent N.ph Tryz.f15:=fun hn h=>dB Tryz.func15 (by rfl) (by rfl) hn (by rfl) h
theorem DF:Ent N.Bz Tryz.f16:=fun hn h=>dB Tryz.func16 (by rfl) (by rfl) hn (by rfl) h
theorem zt:Ent N.wm Tryz.f17:=fun hn h=>dB Tryz.func17 (by rfl) (by rfl) hn (by rfl) h
theorem rE:Ent N.nS Tryz.f18:=fun hn h=>dB Tryz.func18 (by rfl) (by rfl) hn (by rfl) h
theorem sZ:Ent N.ox Tryz.f19:=fun hn h=>dB Tryz.func19 (by rfl) (by rfl) hn (by rfl) h
theorem uB:Ent N.pj Tryz.f21:=fun hn h=>dB Tryz.func21 (by rfl) (by rfl) hn (by rfl) h
theorem mf:Ent N.lX Tryz.f22:=fun hn h=>dB Tryz.func22 (by rfl) (by rfl) hn (by rfl) h
theorem zu:Ent N.mV Tryz.f23:=fun hn h=>dB Tryz.func23 (by rfl) (by rfl) hn (by rfl) h
theorem zw:Ent N.wu Tryz.f25:=fun hn h=>dB Tryz.func25 (by rfl) (by rfl) hn (by rfl) h
theorem Ax:Ent N.zf Tryz.f26:=fun hn h=>dB Tryz.func26 (by rfl) (by rfl) hn (by rfl) h
theorem uC:Ent N.pn Tryz.f27:=fun hn h=>dB Tryz.func27 (by rfl) (by rfl) hn (by rfl) h
theorem rF:Ent N.nT Tryz.f29:=fun hn h=>dB Tryz.func29 (by rfl) (by rfl) hn (by rfl) h
theorem uD:Ent N.po Tryz.f30:=fun hn h=>dB Tryz.func30 (by rfl) (by rfl) hn (by rfl) h
theorem qG:Ent N.pq Tryz.f31:=fun hn h=>dB Tryz.func31 (by rfl) (by rfl) hn (by rfl) h
theorem Ay:Ent N.sW Tryz.f32:=fun hn h=>dB Tryz.func32 (by rfl) (by rfl) hn (by rfl) h
theorem DG:Ent N.CA Tryz.f33:=fun hn h=>dB Tryz.func33 (by rfl) (by rfl) hn (by rfl) h
theorem xZ:Ent N.ji Tryz.f34:=fun hn h=>dB Tryz.func34 (by rfl) (by rfl) hn (by rfl) h
theorem x6:Ent N.te Tryz.f35:=fun hn h=>dB Tryz.func35 (by rfl) (by rfl) hn (by rfl) h
theorem DH:Ent N.CB Tryz.f37:=fun hn h=>dB Tryz.func37 (by rfl) (by rfl) hn (by rfl) h
theorem vP:Ent N.rP Tryz.f39:=fun hn h=>dB Tryz.func39 (by rfl) (by rfl) hn (by rfl) h
theorem vQ:Ent N.rQ Tryz.f42:=fun hn h=>dB Tryz.func42 (by rfl) (by rfl) hn (by rfl) h
theorem pF:Ent N.lY Tryz.f43:=fun hn h=>dB Tryz.func43 (by rfl) (by rfl) hn (by rfl) h
theorem x7:Ent N.tf Tryz.f45:=fun hn h=>dB Tryz.func45 (by rfl) (by rfl) hn (by rfl) h
theorem oU:Ent N.kh Tryz.f62:=fun hn h=>dB Tryz.func62 (by rfl) (by rfl) hn (by rfl) h
theorem x8:Ent N.th Tryz.f63:=fun hn h=>dB Tryz.func63 (by rfl) (by rfl) hn (by rfl) h
theorem zx:Ent N.wv Tryz.f69:=fun hn h=>dB Tryz.func69 (by rfl) (by rfl) hn (by rfl) h
theorem vR:Ent N.rR Tryz.f72:=fun hn h=>dB Tryz.func72 (by rfl) (by rfl) hn (by rfl) h
theorem DI:Ent N.CC Tryz.f74:=fun hn h=>dB Tryz.func74 (by rfl) (by rfl) hn (by rfl) h
theorem r9:Ent N.sX Tryz.f75:=fun hn h=>dB Tryz.func75 (by rfl) (by rfl) hn (by rfl) h
theorem FH:Ent N.FE Tryz.f76:=fun hn h=>dB Tryz.func76 (by rfl) (by rfl) hn (by rfl) h
theorem vS:Ent N.rS Tryz.f80:=fun hn h=>dB Tryz.func80 (by rfl) (by rfl) hn (by rfl) h
theorem zy:Ent N.wx Tryz.f81:=fun hn h=>dB Tryz.func81 (by rfl) (by rfl) hn (by rfl) h
theorem x9:Ent N.tj Tryz.f82:=fun hn h=>dB Tryz.func82 (by rfl) (by rfl) hn (by rfl) h
theorem s3:Ent N.oy Tryz.f83:=fun hn h=>dB Tryz.func83 (by rfl) (by rfl) hn (by rfl) h
theorem j7:Ent N.il Tryz.f84:=fun hn h=>dB Tryz.func84 (by rfl) (by rfl) hn (by rfl) h
theorem mg:Ent N.lZ Tryz.f85:=fun hn h=>dB Tryz.func85 (by rfl) (by rfl) hn (by rfl) h
theorem uE:Ent N.pr Tryz.f86:=fun hn h=>dB Tryz.func86 (by rfl) (by rfl) hn (by rfl) h
theorem lC:Ent N.jQ Tryz.f87:=fun hn h=>dB Tryz.func87 (by rfl) (by rfl) hn (by rfl) h
theorem oV:Ent N.jM Tryz.f88:=fun hn h=>dB Tryz.func88 (by rfl) (by rfl) hn (by rfl) h
theorem uF:Ent N.pt Tryz.f89:=fun hn h=>dB Tryz.func89 (by rfl) (by rfl) hn (by rfl) h
theorem xa:Ent N.tk Tryz.f90:=fun hn h=>dB Tryz.func90 (by rfl) (by rfl) hn (by rfl) h
theorem uG:Ent N.pw Tryz.f91:=fun hn h=>dB Tryz.func91 (by rfl) (by rfl) hn (by rfl) h
theorem vT:Ent N.rT Tryz.f92:=fun hn h=>dB Tryz.func92 (by rfl) (by rfl) hn (by rfl) h
theorem uH:Ent N.l8 Tryz.f93:=fun hn h=>dB Tryz.func93 (by rfl) (by rfl) hn (by rfl) h
theorem Az:Ent N.zg Tryz.f95:=fun hn h=>dB Tryz.func95 (by rfl) (by rfl) hn (by rfl) h
theorem zz:Ent N.pz Tryz.f96:=fun hn h=>dB Tryz.func96 (by rfl) (by rfl) hn (by rfl) h
theorem qH:Ent N.mW Tryz.f97:=fun hn h=>dB Tryz.func97 (by rfl) (by rfl) hn (by rfl) h
theorem AA:Ent N.wy Tryz.f98:=fun hn h=>dB Tryz.func98 (by rfl) (by rfl) hn (by rfl) h
theorem AB:Ent N.wz Tryz.f99:=fun hn h=>dB Tryz.func99 (by rfl) (by rfl) hn (by rfl) h
theorem xb:Ent N.tm Tryz.f100:=fun hn h=>dB Tryz.func100 (by rfl) (by rfl) hn (by rfl) h
theorem vU:Ent N.nA Tryz.f101:=fun hn h=>dB Tryz.func101 (by rfl) (by rfl) hn (by rfl) h
theorem uI:Ent N.qA Tryz.f102:=fun hn h=>dB Tryz.func102 (by rfl) (by rfl) hn (by rfl) h
theorem xc:Ent N.tn Tryz.f103:=fun hn h=>dB Tryz.func103 (by rfl) (by rfl) hn (by rfl) h
theorem xd:Ent N.oP Tryz.f104:=fun hn h=>dB Tryz.func104 (by rfl) (by rfl) hn (by rfl) h
theorem BA:Ent N.sY Tryz.f105:=fun hn h=>dB Tryz.func105 (by rfl) (by rfl) hn (by rfl) h
theorem xe:Ent N.tp Tryz.f106:=fun hn h=>dB Tryz.func106 (by rfl) (by rfl) hn (by rfl) h
theorem DJ:Ent N.CD Tryz.f107:=fun hn h=>dB Tryz.func107 (by rfl) (by rfl) hn (by rfl) h
theorem BB:Ent N.zh Tryz.f108:=fun hn h=>dB Tryz.func108 (by rfl) (by rfl) hn (by rfl) h
theorem AD:Ent N.xA Tryz.f109:=fun hn h=>dB Tryz.func109 (by rfl) (by rfl) hn (by rfl) h
theorem xf:Ent N.tq Tryz.f110:=fun hn h=>dB Tryz.func110 (by rfl) (by rfl) hn (by rfl) h
theorem DK:Ent N.CE Tryz.f111:=fun hn h=>dB Tryz.func111 (by rfl) (by rfl) hn (by rfl) h
theorem BC:Ent N.zi Tryz.f112:=fun hn h=>dB Tryz.func112 (by rfl) (by rfl) hn (by rfl) h
theorem uJ:Ent N.qB Tryz.f113:=fun hn h=>dB Tryz.func113 (by rfl) (by rfl) hn (by rfl) h
theorem j8:Ent N.gS Tryz.f114:=fun hn h=>dB Tryz.func114 (by rfl) (by rfl) hn (by rfl) h
theorem uK:Ent N.qC Tryz.f115:=fun hn h=>dB Tryz.func115 (by rfl) (by rfl) hn (by rfl) h
theorem iC:Ent N.fQ Tryz.f116:=fun hn h=>dB Tryz.func116 (by rfl) (by rfl) hn (by rfl) h
theorem AE:Ent N.xB Tryz.f117:=fun hn h=>dB Tryz.func117 (by rfl) (by rfl) hn (by rfl) h
theorem DL:Ent N.vJ Tryz.f118:=fun hn h=>dB Tryz.func118 (by rfl) (by rfl) hn (by rfl) h
theorem pG:Ent N.l9 Tryz.f119:=fun hn h=>dB Tryz.func119 (by rfl) (by rfl) hn (by rfl) h
theorem rG:Ent N.nU Tryz.f120:=fun hn h=>dB Tryz.func120 (by rfl) (by rfl) hn (by rfl) h
theorem DM:Ent N.vK Tryz.f125:=fun hn h=>dB Tryz.func125 (by rfl) (by rfl) hn (by rfl) h
theorem rH:Ent N.nV Tryz.f128:=fun hn h=>dB Tryz.func128 (by rfl) (by rfl) hn (by rfl) h
theorem oW:Ent N.ki Tryz.f130:=fun hn h=>dB Tryz.func130 (by rfl) (by rfl) hn (by rfl) h
theorem xg:Ent N.tt Tryz.f132:=fun hn h=>dB Tryz.func132 (by rfl) (by rfl) hn (by rfl) h
theorem gT:Ent N.eo Tryz.f135:=fun hn h=>dB Tryz.func135 (by rfl) (by rfl) hn (by rfl) h
theorem nC:Ent N.fK Tryz.f136:=fun hn h=>dB Tryz.func136 (by rfl) (by rfl) hn (by rfl) h
theorem vV:Ent N.rU Tryz.f137:=fun hn h=>dB Tryz.func137 (by rfl) (by rfl) hn (by rfl) h
theorem DN:Ent N.vL Tryz.f139:=fun hn h=>dB Tryz.func139 (by rfl) (by rfl) hn (by rfl) h
theorem nY:Ent N.kX Tryz.f140:=fun hn h=>dB Tryz.func140 (by rfl) (by rfl) hn (by rfl) h
theorem vW:Ent N.rV Tryz.f141:=fun hn h=>dB Tryz.func141 (by rfl) (by rfl) hn (by rfl) h
theorem xh:Ent N.tu Tryz.f142:=fun hn h=>dB Tryz.func142 (by rfl) (by rfl) hn (by rfl) h
theorem AF:Ent N.xC Tryz.f143:=fun hn h=>dB Tryz.func143 (by rfl) (by rfl) hn (by rfl) h
theorem xj:Ent N.tv Tryz.f144:=fun hn h=>dB Tryz.func144 (by rfl) (by rfl) hn (by rfl) h
theorem AG:Ent N.xD Tryz.f145:=fun hn h=>dB Tryz.func145 (by rfl) (by rfl) hn (by rfl) h
theorem xl:Ent N.oQ Tryz.f146:=fun hn h=>dB Tryz.func146 (by rfl) (by rfl) hn (by rfl) h
theorem vX:Ent N.kL Tryz.f147:=fun hn h=>dB Tryz.func147 (by rfl) (by rfl) hn (by rfl) h
theorem pH:Ent N.lf Tryz.f148:=fun hn h=>dB Tryz.func148 (by rfl) (by rfl) hn (by rfl) h
theorem AH:Ent N.xE Tryz.f149:=fun hn h=>dB Tryz.func149 (by rfl) (by rfl) hn (by rfl) h
theorem DO:Ent N.vM Tryz.f150:=fun hn h=>dB Tryz.func150 (by rfl) (by rfl) hn (by rfl) h
theorem DP:Ent N.CF Tryz.f152:=fun hn h=>dB Tryz.func152 (by rfl) (by rfl) hn (by rfl) h
theorem xm:Ent N.oR Tryz.f153:=fun hn h=>dB Tryz.func153 (by rfl) (by rfl) hn (by rfl) h
theorem vY:Ent N.rW Tryz.f154:=fun hn h=>dB Tryz.func154 (by rfl) (by rfl) hn (by rfl) h
theorem AI:Ent N.xF Tryz.f155:=fun hn h=>dB Tryz.func155 (by rfl) (by rfl) hn (by rfl) h
theorem vZ:Ent N.rX Tryz.f156:=fun hn h=>dB Tryz.func156 (by rfl) (by rfl) hn (by rfl) h
theorem ve:Ent N.rY Tryz.f157:=fun hn h=>dB Tryz.func157 (by rfl) (by rfl) hn (by rfl) h
theorem AJ:Ent N.xG Tryz.f158:=fun hn h=>dB Tryz.func158 (by rfl) (by rfl) hn (by rfl) h
theorem DQ:Ent N.vN Tryz.f159:=fun hn h=>dB Tryz.func159 (by rfl) (by rfl) hn (by rfl) h
theorem DR:Ent N.CG Tryz.f160:=fun hn h=>dB Tryz.func160 (by rfl) (by rfl) hn (by rfl) h
theorem vg:Ent N.nB Tryz.f161:=fun hn h=>dB Tryz.func161 (by rfl) (by rfl) hn (by rfl) h
theorem FI:Ent N.FG Tryz.f162:=fun hn h=>dB Tryz.func162 (by rfl) (by rfl) hn (by rfl) h
theorem iW:Ent N.fm Tryz.f163:=fun hn h=>dB Tryz.func163 (by rfl) (by rfl) hn (by rfl) h
theorem AK:Ent N.xH Tryz.f164:=fun hn h=>dB Tryz.func164 (by rfl) (by rfl) hn (by rfl) h
theorem pI:Ent N.lg Tryz.f165:=fun hn h=>dB Tryz.func165 (by rfl) (by rfl) hn (by rfl) h
theorem qI:Ent N.mX Tryz.f166:=fun hn h=>dB Tryz.func166 (by rfl) (by rfl) hn (by rfl) h
theorem DS:Ent N.vO Tryz.f168:=fun hn h=>dB Tryz.func168 (by rfl) (by rfl) hn (by rfl) h
theorem gq:Ent N.fG Tryz.f173:=fun hn h=>dB Tryz.func173 (by rfl) (by rfl) hn (by rfl) h
theorem oX:Ent N.kj Tryz.f174:=fun hn h=>dB Tryz.func174 (by rfl) (by rfl) hn (by rfl) h
theorem oY:Ent N.kk Tryz.f175:=fun hn h=>dB Tryz.func175 (by rfl) (by rfl) hn (by rfl) h
theorem AM:Ent N.xI Tryz.f176:=fun hn h=>dB Tryz.func176 (by rfl) (by rfl) hn (by rfl) h
theorem xn:Ent N.tw Tryz.f177:=fun hn h=>dB Tryz.func177 (by rfl) (by rfl) hn (by rfl) h
theorem BD:Ent N.zj Tryz.f178:=fun hn h=>dB Tryz.func178 (by rfl) (by rfl) hn (by rfl) h
theorem BE:Ent N.zk Tryz.f179:=fun hn h=>dB Tryz.func179 (by rfl) (by rfl) hn (by rfl) h
theorem DT:Ent N.CH Tryz.f180:=fun hn h=>dB Tryz.func180 (by rfl) (by rfl) hn (by rfl) h
theorem vh:Ent N.rZ Tryz.f181:=fun hn h=>dB Tryz.func181 (by rfl) (by rfl) hn (by rfl) h
theorem xo:Ent N.tx Tryz.f182:=fun hn h=>dB Tryz.func182 (by rfl) (by rfl) hn (by rfl) h
theorem xp:Ent N.tz Tryz.f183:=fun hn h=>dB Tryz.func183 (by rfl) (by rfl) hn (by rfl) h
theorem nZ:Ent N.kY Tryz.f184:=fun hn h=>dB Tryz.func184 (by rfl) (by rfl) hn (by rfl) h
theorem AN:Ent N.xJ Tryz.f185:=fun hn h=>dB Tryz.func185 (by rfl) (by rfl) hn (by rfl) h
theorem oZ:Ent N.kl Tryz.f186:=fun hn h=>dB Tryz.func186 (by rfl) (by rfl) hn (by rfl) h
theorem qJ:Ent N.mY Tryz.f187:=fun hn h=>dB Tryz.func187 (by rfl) (by rfl) hn (by rfl) h
theorem FJ:Ent N.zl Tryz.f188:=fun hn h=>dB Tryz.func188 (by rfl) (by rfl) hn (by rfl) h
theorem qK:Ent N.mZ Tryz.f189:=fun hn h=>dB Tryz.func189 (by rfl) (by rfl) hn (by rfl) h
theorem AO:Ent N.xK Tryz.f190:=fun hn h=>dB Tryz.func190 (by rfl) (by rfl) hn (by rfl) h
theorem BF:Ent N.zm Tryz.f191:=fun hn h=>dB Tryz.func191 (by rfl) (by rfl) hn (by rfl) h
theorem pJ:Ent N.lh Tryz.f192:=fun hn h=>dB Tryz.func192 (by rfl) (by rfl) hn (by rfl) h
theorem rI:Ent N.nW Tryz.f193:=fun hn h=>dB Tryz.func193 (by rfl) (by rfl) hn (by rfl) h
theorem n9:Ent N.kZ Tryz.f194:=fun hn h=>dB Tryz.func194 (by rfl) (by rfl) hn (by rfl) h
theorem qL:Ent N.ma Tryz.f195:=fun hn h=>dB Tryz.func195 (by rfl) (by rfl) hn (by rfl) h
theorem qM:Ent N.mb Tryz.f196:=fun hn h=>dB Tryz.func196 (by rfl) (by rfl) hn (by rfl) h
theorem qN:Ent N.mc Tryz.f197:=fun hn h=>dB Tryz.func197 (by rfl) (by rfl) hn (by rfl) h
theorem pK:Ent N.lj Tryz.f198:=fun hn h=>dB Tryz.func198 (by rfl) (by rfl) hn (by rfl) h
theorem xq:Ent N.uA Tryz.f199:=fun hn h=>dB Tryz.func199 (by rfl) (by rfl) hn (by rfl) h
theorem rJ:Ent N.nX Tryz.f200:=fun hn h=>dB Tryz.func200 (by rfl) (by rfl) hn (by rfl) h
theorem s4:Ent N.oz Tryz.f201:=fun hn h=>dB Tryz.func201 (by rfl) (by rfl) hn (by rfl) h
theorem uL:Ent N.qD Tryz.f202:=fun hn h=>dB Tryz.func202 (by rfl) (by rfl) hn (by rfl) h
theorem vo:Ent N.r8 Tryz.f203:=fun hn h=>dB Tryz.func203 (by rfl) (by rfl) hn (by rfl) h
theorem s5:Ent N.pA Tryz.f204:=fun hn h=>dB Tryz.func204 (by rfl) (by rfl) hn (by rfl) h
theorem im:Ent N.fy Tryz.f205:=fun hn h=>dB Tryz.func205 (by rfl) (by rfl) hn (by rfl) h
theorem s6:Ent N.pB Tryz.f206:=fun hn h=>dB Tryz.func206 (by rfl) (by rfl) hn (by rfl) h
theorem o0:Ent N.ko Tryz.f207:=fun hn h=>dB Tryz.func207 (by rfl) (by rfl) hn (by rfl) h
theorem qO:Ent N.me Tryz.f208:=fun hn h=>dB Tryz.func208 (by rfl) (by rfl) hn (by rfl) h
theorem s7:Ent N.pC Tryz.f209:=fun hn h=>dB Tryz.func209 (by rfl) (by rfl) hn (by rfl) h
theorem uM:Ent N.qE Tryz.f210:=fun hn h=>dB Tryz.func210 (by rfl) (by rfl) hn (by rfl) h
theorem BG:Ent N.zn Tryz.f211:=fun hn h=>dB Tryz.func211 (by rfl) (by rfl) hn (by rfl) h
theorem BH:Ent N.zo Tryz.f212:=fun hn h=>dB Tryz.func212 (by rfl) (by rfl) hn (by rfl) h
theorem BI:Ent N.zp Tryz.f213:=fun hn h=>dB Tryz.func213 (by rfl) (by rfl) hn (by rfl) h
theorem uN:Ent N.qF Tryz.f214:=fun hn h=>dB Tryz.func214 (by rfl) (by rfl) hn (by rfl) h
theorem jv{H:Hp}{nx:Nat}{iv:Iv}{w1 w':World}(hS:Old S w)(hw:dm w.heap.size w w1)(r:Rel H nx iv w.heap.size w1 O w'){ad:Addr}{j:Nat}{x:Value}(hs:S ad.block)(h:w.cell? (ad.add j)=some x):w'.cell? (ad.add j)=some x:=by
 rw[(hw.tr r.cP).cell (by rw[dE];exact hS _ hs)];exact h
theorem FK(a:Option Addr)(c:Nat):(if (c:Int)=0 then a else a.map fun x=>x.add (Int.toNat 0*1))=a:=by
 split
 ·rfl
 ·cases a<;>rfl
theorem xt(h:ls[k]? =some 0):dh (ls.take (k+1))=dh (ls.take k):=by
 rw[List.take_add_one,h];exact kc _
theorem BJ{x:Nat}(h:ls[k]? =some x)(hx:x≠0):dh (ls.take (k+1))=ls.take (k+1):=by
 rw[List.take_add_one,h];exact oE _ hx
theorem fN(hS:Old S w)(h:dO w S v ls):di PG N.mc #[v] w (dw w fun v' w2=>dO w2 S v' (dh ls)):=by
 obtain⟨a,c,rfl,SY,hc⟩:=h.sl;have hle:=h.le;have PR:=h.lm;refine qN (by simp) ?_
 refine⟨Nat×World,fun x=>⟨[(0,sV a x.1 c)],[],0,[],x.2⟩,fun x=>x.1,
  fun x=>x.1<=ls.length∧dm w.heap.size w x.2∧dh ls=dh (ls.take x.1),?_,?_⟩
 ·intro O w' r;exact⟨(ls.length,w'),⟨aF _,r.cP,by simp⟩,Sub.reset r ⟨rfl,trivial⟩ ⟨trivial,trivial⟩⟩
 ·rintro⟨k,w1⟩ ⟨hk,hw,hF⟩;dsimp only at hk hw hF ⊢;have WA:dm w.heap.size w w1->dh ls=ls.take k->∀O w2,Rel [] 0 [] w.heap.size w1 O w2->dO w2 S (.slice a k c) (dh ls):=fun hw he O w2 r=>by
   rw[he];refine⟨PR.take k,by simp;omega,a,c,by simp;omega,by simp;omega,fun j x hx=>?_⟩;have Rz:j<k:=by
    have:=(aD.1 hx).1;simp at this;omega
   rw[bU Rz]at hx;obtain⟨ad,h1,h2,h3⟩:=hc j x hx;exact⟨ad,h1,h2,jv hS hw r h2 h3⟩
  refine dM.mk ?_ ?_<;>intro h
  ·have h:0<k:=by simpa using h
   obtain⟨k,rfl⟩:∃q,k=q+1:=⟨k-1,by omega⟩
   obtain⟨x,hx⟩:∃x,ls[k]? =some x:=⟨_,aB (by omega)⟩
   obtain⟨ad,ha,hs,SR⟩:=hc k x hx;refine⟨(k:Int),wo,ad,ha,by omega,.int .u32 x,fun O w' r=>by rw[aE,aT];exact jv hS hw r hs SR,?_⟩;refine dM.mk ?_ ?_<;>intro h2
   ·have h2:x=0:=by have:=eq_of_beq h2;omega
    subst h2;refine⟨(k:Int),wo,⟨by omega,by omega,by omega⟩,a,k,c,FK a c,by simp,by simp,?_⟩;intro O w2 r;exact⟨(k,w2),⟨by dsimp only;omega,hw.tr r.cP,hF.trans (xt hx)⟩,Sub.reset r ⟨rfl,trivial⟩ ⟨trivial,trivial⟩,by dsimp only;omega⟩
   ·have h2:x≠0:=by intro e;subst e;simp at h2
    intro O w2 r;exact⟨_,rfl,hw.tr r.cP,WA hw (by rw[hF,BJ hx h2]) O w2 r⟩
  ·have h:k=0:=by
    have:¬0<k:=by simpa using h
    omega
   subst h;intro O w2 r;exact⟨_,rfl,hw.tr r.cP,WA hw (by rw[hF];simp[dh]) O w2 r⟩
theorem eW(h:n<18446744073709551616):IntKind.u64.wrap (n:Int)=(n:Int):=yD (by omega) (by omega)
theorem fE(n:Nat):IntKind.u32.wrap (n:Int)=((n % 4294967296:Nat):Int):=by
 show((n:Int) % 4294967296)=_;omega
theorem ofInt32(x:Nat):BitVec.ofInt 32 (x:Int)=BitVec.ofNat 32 x:=by
 apply BitVec.eq_of_toNat_eq;simp
theorem qW{y:Nat}(x:Nat)(hy:y<4294967296):x &&& y<4294967296:=Nat.lt_of_le_of_lt Nat.and_le_right hy
theorem qX{x y:Nat}(hx:x<4294967296)(hy:y<4294967296):x ^^^ y<4294967296:=Nat.xor_lt_two_pow (n:=32) hx hy
theorem Dp{x y:Nat}(hx:x<4294967296)(hy:y<4294967296):x ||| y<4294967296:=Nat.or_lt_two_pow (n:=32) hx hy
theorem NG{x y:Nat}(hx:x<4294967296)(hy:y<4294967296):IntKind.u32.wrap ((BitVec.ofInt IntKind.u32.bits x &&& BitVec.ofInt IntKind.u32.bits y).toNat:Int)=((x &&& y:Nat):Int):=by
 show IntKind.u32.wrap ((BitVec.ofInt 32 x &&& BitVec.ofInt 32 y).toNat:Int)=_;rw[ofInt32,ofInt32,BitVec.toNat_and,BitVec.toNat_ofNat,BitVec.toNat_ofNat,bN hx,bN hy,fE,bN (qW x hy)]
theorem aA7{x y:Nat}(hx:x<4294967296)(hy:y<4294967296):IntKind.u32.wrap ((BitVec.ofInt IntKind.u32.bits x ||| BitVec.ofInt IntKind.u32.bits y).toNat:Int)=((x ||| y:Nat):Int):=by
 show IntKind.u32.wrap ((BitVec.ofInt 32 x ||| BitVec.ofInt 32 y).toNat:Int)=_;rw[ofInt32,ofInt32,BitVec.toNat_or,BitVec.toNat_ofNat,BitVec.toNat_ofNat,bN hx,bN hy,fE,bN (Dp hx hy)]
theorem NH{x y:Nat}(hx:x<4294967296)(hy:y<4294967296):IntKind.u32.wrap ((BitVec.ofInt IntKind.u32.bits x ^^^ BitVec.ofInt IntKind.u32.bits y).toNat:Int)=((x ^^^ y:Nat):Int):=by
 show IntKind.u32.wrap ((BitVec.ofInt 32 x ^^^ BitVec.ofInt 32 y).toNat:Int)=_;rw[ofInt32,ofInt32,BitVec.toNat_xor,BitVec.toNat_ofNat,BitVec.toNat_ofNat,bN hx,bN hy,fE,bN (qX hx hy)]
theorem NI{x:Nat}(hx:x<4294967296):IntKind.u32.wrap ((BitVec.ofInt IntKind.u32.bits (if IntKind.u32.signed=true then -1 else IntKind.u32.max) ^^^ BitVec.ofInt IntKind.u32.bits x).toNat:Int)=((4294967295 ^^^ x:Nat):Int):=
 NH (x:=4294967295) (by decide) hx
theorem mE{x:Nat}(k:Nat)(hk:k<=63):(x:Int).fdiv (2^min (Int.toNat (k:Int)) IntKind.u64.bits)=((x / 2^k:Nat):Int):=by
 have h1:min (Int.toNat (k:Int)) IntKind.u64.bits=k:=by show min (Int.toNat (k:Int)) 64=k;omega
 rw[h1,Int.fdiv_eq_ediv_of_nonneg _ (by exact Int.le_of_lt (Int.pow_pos (by decide)))];simp
theorem o7{x:Nat}(k:Nat)(hk:k<=31):(x:Int).fdiv (2^min (Int.toNat (k:Int)) IntKind.u32.bits)=((x / 2^k:Nat):Int):=by
 have h1:min (Int.toNat (k:Int)) IntKind.u32.bits=k:=by show min (Int.toNat (k:Int)) 32=k;omega
 rw[h1,Int.fdiv_eq_ediv_of_nonneg _ (by exact Int.le_of_lt (Int.pow_pos (by decide)))];simp
theorem Mg{z:Nat}(h:z<4294967296):z.testBit 31=decide (2147483648<=z):=by
 rw[Nat.testBit_eq_decide_div_mod_eq];apply decide_eq_decide.2;show z / 2147483648 % 2=1↔_;omega
theorem borrow{x y c d:Nat}(hx:x<4294967296)(hy:y<4294967296)(hc:c<=1)(hd:(x+4294967296-(y+c)) % 4294967296=d):
  (((4294967295 ^^^ x) &&& y) ||| ((4294967295 ^^^ (x ^^^ y)) &&& d)) / 2^31=if x<y+c then 1 else 0:=by
 have PD:d<4294967296:=by omega
 have hz:=Dp (qW (4294967295 ^^^ x) hy) (qW (4294967295 ^^^ (x ^^^ y)) PD);have ht:=Mg hz;have hm:Nat.testBit 4294967295 31=true:=by decide
 rw[Nat.testBit_or,Nat.testBit_and,Nat.testBit_and,Nat.testBit_xor,Nat.testBit_xor,Nat.testBit_xor,hm,Mg hx,Mg hy,Mg PD]at ht;generalize (((4294967295 ^^^ x) &&& y) ||| ((4294967295 ^^^ (x ^^^ y)) &&& d))=z at hz ht;show z / 2147483648=_;by_cases h1:2147483648<=x<;>by_cases h2:2147483648<=y<;>by_cases h3:2147483648<=d<;>simp[h1,h2,h3]at ht<;>split<;>omega
theorem IL(x y c:Nat)(w:World)(hx:x<4294967296)(hy:y<4294967296)(hc:c<4294967296):
  di PG N.zn #[.int .u32 x,.int .u32 y,.int .u32 c] w (dw w fun v _=>v= .tuple #[.int .u32 ((x+y+c) % 4294967296:Nat),.int .u32 ((x+y+c) / 4294967296:Nat)]):=by
 refine BG (by simp) ?_;refine⟨(x:Int),eW (by omega),(y:Int),eW (by omega),((x+y:Nat):Int),by rw[yD]<;>omega,(c:Int),eW (by omega),((x+y+c:Nat):Int),by rw[yD]<;>omega,(((x+y+c) % 4294967296:Nat):Int),fE _,by decide,(((x+y+c) / 4294967296:Nat):Int),?_,?_⟩
 ·exact mE 32 (by decide)
 refine⟨(((x+y+c) / 4294967296:Nat):Int),by rw[fE];omega,?_⟩;intro O w3 r;exact⟨_,rfl,r.cP,rfl⟩
theorem IM(x y c:Nat)(w:World)(hx:x<4294967296)(hy:y<4294967296)(hc:c<=1):
  di PG N.zo #[.int .u32 x,.int .u32 y,.int .u32 c] w (dw w fun v _=>v= .tuple #[.int .u32 ((x+4294967296-(y+c)) % 4294967296:Nat),.int .u32 ((if x<y+c then 1 else 0:Nat):Int)]):=by
 refine BH (by simp) ?_;refine⟨((x+4294967296-y) % 4294967296:Nat),?_,?_⟩
 ·show((x:Int)-y) % 4294967296=_;omega
 refine⟨((x+4294967296-(y+c)) % 4294967296:Nat),?_,?_⟩
 ·show((((x+4294967296-y) % 4294967296:Nat):Int)-c) % 4294967296=_;omega
 have h6:(x+4294967296-(y+c)) % 4294967296<4294967296:=bs _ (by decide);generalize hd:(x+4294967296-(y+c)) % 4294967296=d at h6;refine⟨((4294967295 ^^^ x:Nat):Int),NI hx,(((4294967295 ^^^ x) &&& y:Nat):Int),NG (qX (by decide) hx) hy,((x ^^^ y:Nat):Int),NH hx hy,((4294967295 ^^^ (x ^^^ y):Nat):Int),NI (qX hx hy),(((4294967295 ^^^ (x ^^^ y)) &&& d:Nat):Int),NG (qX (by decide) (qX hx hy)) h6,((((4294967295 ^^^ x) &&& y) ||| ((4294967295 ^^^ (x ^^^ y)) &&& d):Nat):Int),aA7 (qW _ hy) (qW _ h6),by decide,((if x<y+c then 1 else 0:Nat):Int),?_,?_⟩
 ·rw[<-borrow hx hy hc hd];exact o7 31 (by decide)
 intro O w3 r;exact⟨_,rfl,r.cP,rfl⟩
def s8(n m:Nat):Int:=if n<m then -1 else if m<n then 1 else 0
theorem NJ{a b:List Nat}{i x y:Nat}(ha:Lm a)(hl:a.length=b.length)(hx:a[i]? =some x)(hy:b[i]? =some y)(h:a.drop (i+1)=b.drop (i+1))(Od:x<y):val a<val b:=by
 have hi:=(aD.1 hx).1;have h1:=e9 a i (by omega);have h2:=e9 b i (by omega);rw[jN hx]at h1;rw[jN hy,<-h]at h2;have h3:=oD (ha.take i);rw[aW,Nat.min_eq_left (by omega)]at h3;generalize val (a.drop (i+1))=q at h1 h2;have h4:wt i*(x+4294967296*q+1)<=wt i*(y+4294967296*q):=b9 _ (by omega);rw[bV,aT]at h4;omega
theorem Kn{u:Value}{m:Nat}(hS:Old S w)(hn:dq w S v n)(hm:dq w S u m):di PG N.r8 #[v,u] w (dw w fun v' _=>v'= .int .i64 (s8 n m)):=by
 obtain⟨ls,h1,nz1,rfl⟩:=hn;obtain⟨ms,h2,nz2,rfl⟩:=hm;obtain⟨a,c,rfl,_,ha⟩:=h1.sl;obtain⟨b,e,rfl,_,hb⟩:=h2.sl;have hle1:=h1.le;have Uo:=h2.le;have lm1:=h1.lm;have lm2:=h2.lm;refine vo (by simp) ?_;refine dM.mk ?_ ?_<;>intro h
 ·have h:ls.length≠ms.length:=by intro e;rw[e]at h;simp at h
  refine dM.mk ?_ ?_<;>intro h3
  ·have h3:ls.length<ms.length:=by simpa using h3
   intro O w2 r;exact⟨_,rfl,r.cP,by rw[s8,if_pos (iz lm1 nz2 h3)];rfl⟩
  ·have h3:ms.length<ls.length:=by
    have:¬ls.length<ms.length:=by simpa using h3
    omega
   have h4:=iz lm2 nz1 h3;intro O w2 r;exact⟨_,rfl,r.cP,by rw[s8,aL (by omega),if_pos h4];rfl⟩
 ·have h:ls.length=ms.length:=by
   have:(ls.length:Int)=ms.length:=by simpa using h
   omega
  refine⟨(ls.length:Int)-1,wo,Nat×World,fun x=>⟨[(0,sV a ls.length c),(1,sV b ms.length e),(5,.o (.v (.int .i64 ((x.1:Int)-1))))],[],0,[],x.2⟩,fun x=>x.1,
   fun x=>x.1<=ls.length∧dm w.heap.size w x.2∧ls.drop x.1=ms.drop x.1,?_,?_⟩
  ·intro O w' r;exact⟨(ls.length,w'),⟨aF _,r.cP,by rw[List.drop_length,h,List.drop_length]⟩,Sub.reset r ⟨rfl,rfl,rfl,trivial⟩ ⟨trivial,trivial,trivial,trivial⟩⟩
  ·rintro⟨k,w1⟩ ⟨hk,hw,hd⟩;dsimp only at hk hw hd ⊢;refine dM.mk ?_ ?_<;>intro h3
   ·have h3:(k:Int)-1≥0:=aI h3;obtain⟨k,rfl⟩:∃q,k=q+1:=⟨k-1,by omega⟩
    rw[show ((k+1:Nat):Int)-1=(k:Int) by omega];obtain⟨x,hx⟩:∃x,ls[k]? =some x:=⟨_,aB (by omega)⟩
    obtain⟨y,hy⟩:∃x,ms[k]? =some x:=⟨_,aB (by omega)⟩
    obtain⟨ad,OW,hs,hc1⟩:=ha k x hx;obtain⟨ad2,Po,Q9,WN⟩:=hb k y hy;have Oj:∀O w',Rel [] 0 [] w.heap.size w1 O w'->w'.cell? (ad.add ((k:Int).toNat*1))=some (.int .u32 x):=fun O w' r=>by
     rw[aE,aT];exact jv hS hw r hs hc1
    have Qa:∀O w',Rel [] 0 [] w.heap.size w1 O w'->w'.cell? (ad2.add ((k:Int).toNat*1))=some (.int .u32 y):=fun O w' r=>by
     rw[aE,aT];exact jv hS hw r Q9 WN
    refine cK hτ dZ [.x 0,.x 1,.x 2,.x 3,.x 4,.x 5,.x 6,.x 7,.x 8,.x 9] (by kernel_rfl) (by kernel_rfl) ?_;refine⟨ad,OW,by omega,_,Oj,ad2,Po,by omega,_,Qa,?_⟩;refine dM.mk ?_ ?_<;>intro h4
    ·have h4:x<y:=by simpa using h4
     intro O w2 r;exact⟨_,rfl,hw.tr r.cP,by rw[s8,if_pos (NJ lm1 h hx hy hd h4)];rfl⟩
    ·have h4:¬x<y:=by simpa using h4
     refine cK hτ dZ [.x 0,.x 1,.x 2,.x 3,.x 4,.x 5,.x 6,.x 7,.x 8,.x 9] (by kernel_rfl) (by kernel_rfl) ?_;refine⟨ad,OW,by omega,_,Oj,ad2,Po,by omega,_,Qa,?_⟩;refine dM.mk ?_ ?_<;>intro h5
     ·have h5:y<x:=by simpa using h5
      have h6:=NJ lm2 h.symm hy hx hd.symm h5;intro O w2 r;exact⟨_,rfl,hw.tr r.cP,by rw[s8,aL (by omega),if_pos h6];rfl⟩
     ·have h5:¬y<x:=by simpa using h5
      have hxy:x=y:=by omega
      subst hxy;refine⟨(k:Int)-1,wo,?_⟩;intro O w2 r;have PD:ls.drop k=ms.drop k:=by
       obtain⟨q1,e1⟩:=aD.1 hx;obtain⟨q2,e2⟩:=aD.1 hy;rw[List.drop_eq_getElem_cons q1,List.drop_eq_getElem_cons q2,e1,e2,hd]
      exact⟨(k,w2),⟨by dsimp only;omega,hw.tr r.cP,PD⟩,Sub.reset r ⟨rfl,rfl,rfl,trivial⟩ ⟨trivial,trivial,trivial,trivial⟩,by simp⟩
   ·have Sr:k=0:=by
     have:¬(k:Int)-1≥0:=aH h3;omega
    subst Sr;have he:ls=ms:=by simpa using hd
    intro O w2 r;exact⟨_,rfl,hw.tr r.cP,by rw[he,s8,aL (by omega),aL (by omega)];rfl⟩
end Go.Ex
namespace Go.Sx
open Go Go.Ex Go.Proofs
variable{O:Nat->Sx.dg}
theorem Rel.qP{nx:Nat}{iv:Iv}{B:Nat}{w w':World}(r:Rel [] nx iv B w O w'):w.grownBy w' none:=
 ⟨r.os,r.tape,r.output,r.size,fun k hk _=>r.uh k hk (fun id b h=>by cases h)⟩
end Go.Sx
namespace Go.Ex
open Go Go.Sx Go.Proofs
variable{l ls:List Nat}{S:Nat->Prop}{v:Value}{w:World}
structure LA(S:Nat->Prop)(w:World) where
 a:Option Addr
 c:Nat
 ls:List Nat
 lm:Lm ls
 le:ls.length<=9223372036854775807
 cap:ls.length<=c
 cell:∀(j:Nat) x,ls[j]? =some x->∃ad,a=some ad∧S ad.block∧w.cell? (ad.add j)=some (.int .u32 x)
theorem dO.la(h:dO w S v ls):∃p:LA S w,v= .slice p.a p.ls.length p.c∧p.ls=ls:=by
 obtain⟨a,c,h1,h2,h3⟩:=h.sl;exact⟨⟨a,c,ls,h.lm,h.le,h2,h3⟩,h1,rfl⟩
theorem dq.la{n:Nat}(h:dq w S v n):∃p:LA S w,v= .slice p.a p.ls.length p.c∧val p.ls=n∧Nz p.ls:=by
 obtain⟨ls,h1,h2,h3⟩:=h;obtain⟨p,h4,h5⟩:=h1.la;exact⟨p,h4,by rw[h5];exact h3,by rw[h5];exact h2⟩
theorem LA.load{w1:World}(p:LA S w)(hS:Old S w)(hw:dm w.heap.size w w1){k x:Nat}(hx:p.ls[k]? =some x):
  ∃ad,p.a=some ad∧∀(H:Hp) (nx:Nat) (iv:Iv) (O:Nat->Sx.dg) w',Rel H nx iv w.heap.size w1 O w'->w'.cell? (ad.add ((k:Int).toNat*1))=some (.int .u32 x):=by
 obtain⟨ad,h1,h2,h3⟩:=p.cell k x hx;refine⟨ad,h1,fun H nx iv O w' r=>?_⟩;rw[aE,aT];exact jv hS hw r h2 h3
def U(l:List Nat):List Value:=l.map fun(x:Nat)=>.int .u32 (x:Int)
theorem gK(l:List Nat):(U l).length=l.length:=by simp[U]
theorem uO{k x:Nat}(h:l[k]? =some x):(U l)[k]? =some (.int .u32 x):=by simp[U,h]
theorem aA9(l:List Nat)(k x:Nat)(h:k<l.length):(U l).take k++[.int .u32 x]++(U l).drop (k+1)=U (l.set k x):=by
 have h1:k<(U l).length:=by rw[gK];exact h
 have:(U l).set k (.int .u32 x)=U (l.set k x):=by simp[U,List.map_set]
 rw[<-this,List.set_eq_take_append_cons_drop,if_pos h1];simp
theorem jD(l:List Nat)(k x:Nat)(h:k<l.length){e:Nat}(he:e=k):(U l).take e++[.int .u32 (x:Int)]++(U l).drop (e+1)=U (l.set k x):=by
 subst he;exact aA9 l e x h
theorem s9(n:Nat):List.replicate n (Value.int .u32 0)=U (List.replicate n 0):=by simp[U]
end Go.Ex
namespace Go.Sx
open Go Go.Ex Go.Proofs
variable{ls:List Nat}{O:Nat->Sx.dg}
theorem Rel.nc{H:Hp}{nx:Nat}{iv:Iv}{B:Nat}{w w':World}(r:Rel H nx iv B w O w'){id t:Nat}(h:dC H id=some (.arr t (U ls)))(PR:Lm ls)(hle:ls.length<=9223372036854775807):
  dO w' (fun g=>g=(O id).g) (.slice (some ⟨(O id).g,0,none⟩) ls.length ls.length) ls:=by
 refine⟨PR,hle,_,_,rfl,aF _,fun j x hx=>⟨_,rfl,rfl,?_⟩⟩;have h0:(⟨(O id).g,0,none⟩:Addr).add j=⟨(O id).g,j,none⟩:=by
  cases j with
  |zero=>rfl
  |succ j=>simp[Addr.add]
 rw[h0,cell_of (r.arr id t _ h)];exact uO hx
end Go.Sx
namespace Go.Ex
open Go Go.Sx Go.Proofs
variable{S:Nat->Prop}
theorem Ca{out ls ms:List Nat}{i x o d:Nat}(hx:ls[i]? =some x)(ho:ms.getD i 0=o)(hd:out[i]? =some d){carry:Nat}(h:val (out.take i)+wt i*carry=val (ls.take i)+val (ms.take i)):
  val ((out.set i ((x+o+carry) % 4294967296)).take (i+1))+wt (i+1)*((x+o+carry) / 4294967296)=val (ls.take (i+1))+val (ms.take (i+1)):=by
 have hi:=(aD.1 hd).1;have h1:(out.set i ((x+o+carry) % 4294967296))[i]? =some ((x+o+carry) % 4294967296):=by rw[aV hi]
 rw[de h1,List.take_set_of_le (aF _),de hx,iy];have h2:val (ms.take (i+1))=val (ms.take i)+wt i*o:=by
  cases hm:ms[i]? with
  |some y=>
   have:y=o:=by rw[<-ho];simp[List.getD,hm]
   rw[de hm,this]
  |none=>
   have:o=0:=by rw[<-ho];simp[List.getD,hm]
   rw[this,List.take_add_one,hm];simp
 rw[h2];have h3:=Nat.div_add_mod (x+o+carry) 4294967296;generalize (x+o+carry) / 4294967296=q at h3 ⊢;generalize (x+o+carry) % 4294967296=r at h3 ⊢;have h4:wt i*(4294967296*q+r)=wt i*(x+o+carry):=by rw[h3]
 rw[bV,bV,bV,<-bf,bW (wt i) 4294967296]at h4;omega
theorem OA{w:World}{v u:Value}{n m:Nat}(hS:Old S w)(hn:dq w S v n)(hm:dq w S u m)(SA:ln n<=1000000000000)(PR:ln m<=1000000000000):
  di PG N.qD #[v,u] w (dw w fun v' w2=>dq w2 (Nf w w2) v' (n+m)):=by
 obtain⟨p,rfl,Qd,QF⟩:=hn.la;obtain⟨q,rfl,RK,QL⟩:=hm.la;have PN:=eJ p.lm QF;have UQ:=eJ q.lm QL;rw[Qd]at PN;rw[RK]at UQ;have hsum:n+m=val p.ls+val q.ls:=by rw[Qd,RK]
 rw[hsum];refine uL (by simp) ?_;refine dM.mk ?_ ?_<;>intro h
 case' refine_1=>
  have h:p.ls.length<q.ls.length:=by simpa using h
  have hpx:p.ls.length<=q.ls.length:=by omega
  have hx12:q.ls.length<=1000000000000:=by omega
  rw[Nat.add_comm];generalize SB:q=x at*
  generalize hgy:p=y at*
 case' refine_2=>
  have h:¬p.ls.length<q.ls.length:=by simpa using h
  have hpx:q.ls.length<=p.ls.length:=by omega
  have hx12:p.ls.length<=1000000000000:=by omega
  generalize SB:p=x at*
  generalize hgy:q=y at*
 all_goals
  refine⟨((x.ls.length+1:Nat):Int),wo,x.ls.length+1,x.ls.length+1,rfl,rfl,aF _,by omega,by omega,Nat×List Nat×Nat×World,fun z=>⟨[(0,sV x.a x.ls.length x.c),(1,sV y.a y.ls.length y.c),(5,.o (.s 0 0 (x.ls.length+1) (x.ls.length+1))),(6,.o (.v (.int .u32 z.2.2.1))),(21,iZ x.ls.length),(22,iZ z.1)],
    [(0,.arr T.uint32 (U z.2.1))],1,[],z.2.2.2⟩,fun z=>x.ls.length-z.1,
   fun z=>z.1<=x.ls.length∧dm w.heap.size w z.2.2.2∧z.2.1.length=x.ls.length+1∧Lm z.2.1∧z.2.2.1<2∧val (z.2.1.take z.1)+wt z.1*z.2.2.1=val (x.ls.take z.1)+val (y.ls.take z.1),?_,?_⟩
  ·intro O w' r;rw[s9]at r;exact⟨(0,List.replicate (x.ls.length+1) 0,0,w'),⟨by simp,r.cP,by simp,Lm.replicate _,by simp,by simp[val]⟩,Sub.gn [] r⟩
  ·rintro⟨i,out,carry,w1⟩ ⟨hi,hw,QM,Oo,hc,hv⟩;dsimp only at hi hw QM Oo hc hv ⊢;refine dM.mk ?_ ?_<;>intro h
   ·have h:i<x.ls.length:=by simpa using h
    obtain⟨xi,PZ⟩:∃k,x.ls[i]? =some k:=⟨_,aB h⟩
    obtain⟨d,hd⟩:∃k,out[i]? =some k:=⟨_,aB (by omega)⟩
    obtain⟨ad,OW,Ow⟩:=x.load hS hw PZ;have Py:=x.lm.at PZ;refine dM.mk ?_ ?_<;>intro h2
    ·have h2:i<y.ls.length:=by simpa using h2
     obtain⟨o,ho⟩:∃k,y.ls[i]? =some k:=⟨_,aB h2⟩
     obtain⟨ad2,Po,Qj⟩:=y.load hS hw ho;have Vo:=y.lm.at ho;have TH:y.ls.getD i 0=o:=by simp[List.getD,ho]
     refine⟨ad2,Po,by omega,.int .u32 o,Qj _ _ _,ad,OW,by omega,.int .u32 xi,Ow _ _ _,?_⟩;refine cC (cM (Φ:=fun _ _ v _=>v= .tuple #[.int .u32 ((xi+o+carry) % 4294967296:Nat),.int .u32 ((xi+o+carry) / 4294967296:Nat)]) (fun O w' r=>IL xi o carry w' Py Vo (by omega)) ?_);rintro O w' v w2 r he hb rfl;replace hw:=hw.tr hb;have On:=Ca PZ TH hd hv;have WN:(xi+o+carry) / 4294967296<2:=by omega
     refine⟨by omega,by rw[gK];omega,U (out.set i ((xi+o+carry) % 4294967296)),jD out i _ (by omega) (by simp),((i+1:Nat):Int),wo,?_⟩;intro ρ3 w3 r3
     exact⟨(i+1,out.set i ((xi+o+carry) % 4294967296),(xi+o+carry) / 4294967296,w3),⟨by dsimp only;omega,hw.tr r3.cP,by simp[QM],Oo.set (bs _ (by decide)),WN,On⟩,
      Sub.gn [] r3,by dsimp only;omega⟩
    ·have h2:¬i<y.ls.length:=by simpa using h2
     have TH:y.ls.getD i 0=0:=by simp[List.getD,List.getElem?_eq_none (show y.ls.length<=i by omega)]
     refine⟨ad,OW,by omega,.int .u32 xi,Ow _ _ _,?_⟩;refine cC (cM (Φ:=fun _ _ v _=>v= .tuple #[.int .u32 ((xi+0+carry) % 4294967296:Nat),.int .u32 ((xi+0+carry) / 4294967296:Nat)]) (fun O w' r=>IL xi 0 carry w' Py (by decide) (by omega)) ?_);rintro O w' v w2 r he hb rfl;replace hw:=hw.tr hb;have On:=Ca PZ TH hd hv;have WN:(xi+0+carry) / 4294967296<2:=by omega
     refine⟨by omega,by rw[gK];omega,U (out.set i ((xi+0+carry) % 4294967296)),jD out i _ (by omega) (by simp),((i+1:Nat):Int),wo,?_⟩;intro ρ3 w3 r3
     exact⟨(i+1,out.set i ((xi+0+carry) % 4294967296),(xi+0+carry) / 4294967296,w3),⟨by dsimp only;omega,hw.tr r3.cP,by simp[QM],Oo.set (bs _ (by decide)),WN,On⟩,
      Sub.gn [] r3,by dsimp only;omega⟩
   ·have Qz:i=x.ls.length:=by
     have:¬i<x.ls.length:=by simpa using h
     omega
    subst Qz;obtain⟨d,hd⟩:∃k,out[x.ls.length]? =some k:=⟨_,aB (by omega)⟩
    have Sd:val (out.set x.ls.length carry)=val x.ls+val y.ls:=by
     have h1:(out.set x.ls.length carry)[x.ls.length]? =some carry:=by rw[aV (by omega)]
     have h2:=de h1;rw[List.take_of_length_le (by simp;omega),List.take_set_of_le (aF _)]at h2;rw[bC,List.take_of_length_le hpx]at hv;omega
    have hlm2:Lm (out.set x.ls.length carry):=Oo.set (by omega);refine⟨by omega,by rw[gK];omega,U (out.set x.ls.length carry),jD out x.ls.length carry (by omega) (by simp),?_⟩;generalize hgo:out.set x.ls.length carry=fin at Sd hlm2;have OY:fin.length=x.ls.length+1:=by rw[<-hgo];simp[QM]
    refine gZ (Φ:=fun O _ v w2=>dO w2 (fun g=>g=(O 0).g) v (dh fin)) (H':=[]) 0 rfl (by simp) trivial rfl (fun O w' r=>r.nn 0 _ rfl (by intros;simp) (by simp)) (fun O w' r=>?_) ?_
    ·have hL:=r.nc (id:=0) rfl hlm2 (by omega);rw[OY]at hL;exact fN (fun g hg=>by rw[hg];exact(r.low 0 _ rfl (r.nn 0 _ rfl (by intros;simp) (by simp))).2) hL
    rintro O w' v w2 r he hb hL;replace hw:=hw.tr hb;have Og:=r.low 0 _ rfl (r.nn 0 _ rfl (by intros;simp) (by simp));generalize (O 0).g=g at*
    have hs:=he.size;intro ρ3 w3 r3;refine⟨_,rfl,hw.tr r3.cP,dh fin,?_,(ef fin).2.1,?_⟩
    ·refine(hL.cH fun k hk=>?_).cI fun k hk=>.inr ?_
     ·rw[hk];exact r3.qP.block g (by omega) (by simp)
     ·rw[hk];have:=r3.size;omega
    ·rw[(ef fin).1,Sd]
end Go.Ex
namespace Go.Ex
open Go Go.Sx Go.Proofs
variable{ls ms out:List Nat}{V a b i k n o t:Nat}{S:Nat->Prop}{v:Value}{w:World}
theorem JX(ho:ms.getD i 0=o):val (ms.take (i+1))=val (ms.take i)+wt i*o:=by
 cases hm:ms[i]? with
 |some y=>
  have:y=o:=by rw[<-ho];simp[List.getD,hm]
  rw[de hm,this]
 |none=>
  have:o=0:=by rw[<-ho];simp[List.getD,hm]
  rw[this,List.take_add_one,hm];simp
theorem Ai{x d e:Nat}(hx:ls[i]? =some x)(ho:ms.getD i 0=o)(hd:out[i]? =some d){b':Nat}(h:val (out.take i)+val (ms.take i)=val (ls.take i)+wt i*b)(he:e+(o+b)=x+4294967296*b'):
  val ((out.set i e).take (i+1))+val (ms.take (i+1))=val (ls.take (i+1))+wt (i+1)*b':=by
 have hi:=(aD.1 hd).1;have h1:(out.set i e)[i]? =some e:=by rw[aV hi]
 rw[de h1,List.take_set_of_le (aF _),de hx,JX ho,iy];have h4:wt i*(e+(o+b))=wt i*(x+4294967296*b'):=by rw[he]
 rw[bV,bV,bV,<-bf,bW (wt i) 4294967296]at h4;omega
theorem DW{u:Value}{m:Nat}(hS:Old S w)(hn:dq w S v n)(hm:dq w S u m)(hle:m<=n)(SA:ln n<=1000000000000):
  di PG N.pA #[v,u] w (dw w fun v' w2=>dq w2 (Nf w w2) v' (n-m)):=by
 obtain⟨x,rfl,Qd,QF⟩:=hn.la;obtain⟨y,rfl,RK,QL⟩:=hm.la;have PN:=eJ x.lm QF;rw[Qd]at PN;have hyx:y.ls.length<=x.ls.length:=by
  rw[eJ x.lm QF,eJ y.lm QL,Qd,RK];exact fI hle
 refine s5 (by simp) ?_
 refine⟨x.ls.length,x.ls.length,rfl,rfl,aF _,by omega,by omega,Nat×List Nat×Nat×World,fun z=>⟨[(0,sV x.a x.ls.length x.c),(1,sV y.a y.ls.length y.c),(5,.o (.s 0 0 x.ls.length x.ls.length)),(6,.o (.v (.int .u32 z.2.2.1))),(13,iZ x.ls.length),(14,iZ z.1)],
   [(0,.arr T.uint32 (U z.2.1))],1,[],z.2.2.2⟩,fun z=>x.ls.length-z.1,
  fun z=>z.1<=x.ls.length∧dm w.heap.size w z.2.2.2∧z.2.1.length=x.ls.length∧Lm z.2.1∧z.2.2.1<2∧val (z.2.1.take z.1)+val (y.ls.take z.1)=val (x.ls.take z.1)+wt z.1*z.2.2.1,?_,?_⟩
 ·intro O w' r;rw[s9]at r;exact⟨(0,List.replicate x.ls.length 0,0,w'),⟨by simp,r.cP,by simp,Lm.replicate _,by simp,by simp[val]⟩,Sub.gn [] r⟩
 ·rintro⟨i,out,b,w1⟩ ⟨hi,hw,QM,Oo,hc,hv⟩;dsimp only at hi hw QM Oo hc hv ⊢;refine dM.mk ?_ ?_<;>intro h
  ·have h:i<x.ls.length:=by simpa using h
   obtain⟨xi,PZ⟩:∃k,x.ls[i]? =some k:=⟨_,aB h⟩
   obtain⟨d,hd⟩:∃k,out[i]? =some k:=⟨_,aB (by omega)⟩
   obtain⟨ad,OW,Ow⟩:=x.load hS hw PZ;have Py:=x.lm.at PZ;refine dM.mk ?_ ?_<;>intro h2
   ·have h2:i<y.ls.length:=by simpa using h2
    obtain⟨o,ho⟩:∃k,y.ls[i]? =some k:=⟨_,aB h2⟩
    obtain⟨ad2,Po,Qj⟩:=y.load hS hw ho;have Vo:=y.lm.at ho;have TH:y.ls.getD i 0=o:=by simp[List.getD,ho]
    refine⟨ad2,Po,by omega,.int .u32 o,Qj _ _ _,ad,OW,by omega,.int .u32 xi,Ow _ _ _,?_⟩;refine cC (cM (Φ:=fun _ _ v _=>v= .tuple #[.int .u32 ((xi+4294967296-(o+b)) % 4294967296:Nat),.int .u32 ((if xi<o+b then 1 else 0:Nat):Int)]) (fun O w' r=>IM xi o b w' Py Vo (by omega)) ?_);rintro O w' v w2 r he hb rfl;replace hw:=hw.tr hb;have QD:(xi+4294967296-(o+b)) % 4294967296+(o+b)=xi+4294967296*(if xi<o+b then 1 else 0):=by split<;>omega
    have Od:(xi+4294967296-(o+b)) % 4294967296<4294967296:=bs _ (by decide);have QI:(if xi<o+b then 1 else 0:Nat)<2:=by split<;>omega
    generalize (xi+4294967296-(o+b)) % 4294967296=e at QD Od;generalize (if xi<o+b then 1 else 0:Nat)=b' at QD QI;have On:=Ai PZ TH hd hv QD;refine⟨by omega,by rw[gK];omega,U (out.set i e),jD out i _ (by omega) (by simp),((i+1:Nat):Int),wo,?_⟩;intro ρ3 w3 r3
    exact⟨(i+1,out.set i e,b',w3),⟨by dsimp only;omega,hw.tr r3.cP,by simp[QM],Oo.set Od,QI,On⟩,
     Sub.gn [] r3,by dsimp only;omega⟩
   ·have h2:¬i<y.ls.length:=by simpa using h2
    have TH:y.ls.getD i 0=0:=by simp[List.getD,List.getElem?_eq_none (show y.ls.length<=i by omega)]
    refine⟨ad,OW,by omega,.int .u32 xi,Ow _ _ _,?_⟩;refine cC (cM (Φ:=fun _ _ v _=>v= .tuple #[.int .u32 ((xi+4294967296-(0+b)) % 4294967296:Nat),.int .u32 ((if xi<0+b then 1 else 0:Nat):Int)]) (fun O w' r=>IM xi 0 b w' Py (by decide) (by omega)) ?_);rintro O w' v w2 r he hb rfl;replace hw:=hw.tr hb;have QD:(xi+4294967296-(0+b)) % 4294967296+(0+b)=xi+4294967296*(if xi<0+b then 1 else 0):=by split<;>omega
    have Od:(xi+4294967296-(0+b)) % 4294967296<4294967296:=bs _ (by decide);have QI:(if xi<0+b then 1 else 0:Nat)<2:=by split<;>omega
    generalize (xi+4294967296-(0+b)) % 4294967296=e at QD Od;generalize (if xi<0+b then 1 else 0:Nat)=b' at QD QI;have On:=Ai PZ TH hd hv QD;refine⟨by omega,by rw[gK];omega,U (out.set i e),jD out i _ (by omega) (by simp),((i+1:Nat):Int),wo,?_⟩;intro ρ3 w3 r3
    exact⟨(i+1,out.set i e,b',w3),⟨by dsimp only;omega,hw.tr r3.cP,by simp[QM],Oo.set Od,QI,On⟩,
     Sub.gn [] r3,by dsimp only;omega⟩
  ·have Qz:i=x.ls.length:=by
    have:¬i<x.ls.length:=by simpa using h
    omega
   subst Qz;have Sd:val out=n-m:=by
    rw[List.take_of_length_le (by omega),List.take_of_length_le hyx,bC,Qd,RK]at hv;have h1:=oD Oo;rw[QM]at h1;have:b=0∨b=1:=by omega
    rcases this with rfl|rfl
    ·omega
    ·omega
   refine gZ (Φ:=fun O _ v w2=>dO w2 (fun g=>g=(O 0).g) v (dh out)) (H':=[]) 0 rfl (by simp) trivial rfl (fun O w' r=>r.nn 0 _ rfl (by intros;simp) (by simp)) (fun O w' r=>?_) ?_
   ·have hL:=r.nc (id:=0) rfl Oo (by omega);rw[QM]at hL;exact fN (fun g hg=>by rw[hg];exact(r.low 0 _ rfl (r.nn 0 _ rfl (by intros;simp) (by simp))).2) hL
   rintro O w' v w2 r he hb hL;replace hw:=hw.tr hb;have Og:=r.low 0 _ rfl (r.nn 0 _ rfl (by intros;simp) (by simp));generalize (O 0).g=g at*
   have hs:=he.size;intro ρ3 w3 r3;refine⟨_,rfl,hw.tr r3.cP,dh out,?_,(ef out).2.1,?_⟩
   ·refine(hL.cH fun k hk=>?_).cI fun k hk=>.inr ?_
    ·rw[hk];exact r3.qP.block g (by omega) (by simp)
    ·rw[hk];have:=r3.size;omega
   ·rw[(ef out).1,Sd]
theorem H4{p c:Nat}(ho:out[p]? =some o)(h:val out+wt p*c=V)(ht:t=a+o+c):
  val (out.set p (t % 4294967296))+wt (p+1)*(t / 4294967296)=V+wt p*a:=by
 have h1:=yH (x:=t % 4294967296) ho;rw[iy];have h3:=Nat.div_add_mod t 4294967296;generalize t / 4294967296=q at h3 ⊢;generalize t % 4294967296=r at h3 h1 ⊢;have h4:wt p*(4294967296*q+r)=wt p*(a+o+c):=by rw[h3,ht]
 rw[bV,bV,bV,<-bf,bW (wt p) 4294967296]at h4;omega
def Zf(out:List Nat)(p:Nat):Prop:=∀(j:Nat) z,p<=j->out[j]? =some z->z=0
theorem Zf.set{p x:Nat}(h:Zf out p)(hk:k<p):Zf (out.set k x) p:=fun j z hj hz=>by
 rw[aY (by omega)]at hz;exact h j z hj hz
theorem Ll(ha:a<4294967296)(hb:b<4294967296):a*b<=18446744065119617025:=by
 have:a*b<=4294967295*4294967295:=Nat.mul_le_mul (by omega) (by omega);omega
theorem ID{u:Value}{m:Nat}(hS:Old S w)(hn:dq w S v n)(hm:dq w S u m)(SA:ln n<=1000000000000)(PR:ln m<=1000000000000):
  di PG N.oz #[v,u] w (dw w fun v' w2=>dq w2 (Nf w w2) v' (n*m)):=by
 obtain⟨x,rfl,Qd,QF⟩:=hn.la;obtain⟨y,rfl,RK,QL⟩:=hm.la;have PN:=eJ x.lm QF;rw[Qd]at PN;have UQ:=eJ y.lm QL;rw[RK]at UQ;refine s4 (by simp) ?_;obtain⟨L,hL⟩:∃L,L=x.ls.length+y.ls.length:=⟨_,rfl⟩
 refine⟨(L:Int),wo,L,L,rfl,rfl,aF _,by omega,by omega,Nat×List Nat×World,fun z=>⟨[(1,sV y.a y.ls.length y.c),(5,.o (.s 0 0 L L)),(18,sV x.a x.ls.length x.c),(19,iZ x.ls.length),(20,iZ z.1)],
   [(0,.arr T.uint32 (U z.2.1))],1,[],z.2.2⟩,fun z=>x.ls.length-z.1,
  fun z=>z.1<=x.ls.length∧dm w.heap.size w z.2.2∧z.2.1.length=L∧Lm z.2.1∧val z.2.1=val (x.ls.take z.1)*m∧Zf z.2.1 (z.1+y.ls.length),?_,?_⟩
 ·intro O w' r;rw[s9]at r;exact⟨(0,List.replicate L 0,w'),⟨by simp,r.cP,by simp,Lm.replicate _,by simp[val,my],fun j z _ hz=>by simp only[List.getElem?_replicate]at hz;split at hz<;>simp_all⟩,Sub.gn [] r⟩
 ·rintro⟨i,out,w1⟩ ⟨hi,hw,QM,Oo,hv,hz⟩;dsimp only at hi hw QM Oo hv hz ⊢;refine dM.mk ?_ ?_<;>intro h
  ·have h:i<x.ls.length:=by simpa using h
   obtain⟨xi,PZ⟩:∃k,x.ls[i]? =some k:=⟨_,aB h⟩
   obtain⟨ad,OW,Ow⟩:=x.load hS hw PZ;have Py:=x.lm.at PZ
   refine⟨ad,OW,by omega,.int .u32 xi,Ow _ _ _,Nat×List Nat×Nat×World,fun z=>⟨[(1,sV y.a y.ls.length y.c),(5,.o (.s 0 0 L L)),(18,sV x.a x.ls.length x.c),(19,iZ x.ls.length),(20,iZ i),
     (6,iZ i),(7,.o (.v (.int .u32 xi))),(8,.o (.v (.int .u64 z.2.2.1))),(25,sV y.a y.ls.length y.c),(26,iZ y.ls.length),(27,iZ z.1)],
     [(0,.arr T.uint32 (U z.2.1))],1,[],z.2.2.2⟩,fun z=>y.ls.length-z.1,
    fun z=>z.1<=y.ls.length∧dm w.heap.size w z.2.2.2∧z.2.1.length=L∧Lm z.2.1∧z.2.2.1<4294967296∧val z.2.1+wt (i+z.1)*z.2.2.1=val (x.ls.take i)*m+wt i*xi*val (y.ls.take z.1)∧Zf z.2.1 (i+y.ls.length),?_,?_⟩
   ·intro O w' r;exact⟨(0,out,0,w'),⟨by simp,hw.tr r.cP,QM,Oo,by simp,by simp[val,hv],hz⟩,Sub.gn [] r⟩
   ·rintro⟨k,out,c,w1⟩ ⟨hk,hw,QM,Oo,hc,hv,hz⟩;dsimp only at hk hw QM Oo hc hv hz ⊢;refine dM.mk ?_ ?_<;>intro h2
    ·have h2:k<y.ls.length:=by simpa using h2
     obtain⟨yk,hyk⟩:∃q,y.ls[k]? =some q:=⟨_,aB h2⟩
     obtain⟨ad2,Po,Qj⟩:=y.load hS hw hyk;have hy32:=y.lm.at hyk;obtain⟨o,ho⟩:∃q,out[i+k]? =some q:=⟨_,aB (by omega)⟩
     have Vo:=Oo.at ho;have hm64:=Ll Py hy32;refine⟨ad2,Po,by omega,.int .u32 yk,Qj _ _ _,(xi:Int),eW (by omega),(yk:Int),eW (by omega),((xi*yk:Nat):Int),by rw[<-Int.natCast_mul];exact eW (by omega),((i+k:Nat):Int),wo,by omega,.int .u32 o,by rw[aE,aR,aT];exact uO ho,(o:Int),eW (by omega),((xi*yk+o:Nat):Int),by rw[<-Int.natCast_add];exact eW (by omega),?_⟩;obtain⟨t,ht⟩:∃t,t=xi*yk+o+c:=⟨_,rfl⟩
     refine⟨(t:Int),by rw[<-Int.natCast_add,<-ht];exact eW (by omega),((i+k:Nat):Int),wo,((t % 4294967296:Nat):Int),fE _,by decide,((t / 4294967296:Nat):Int),mE 32 (by decide),by omega,by rw[gK];omega,U (out.set (i+k) (t % 4294967296)),jD out (i+k) _ (by omega) (by simp only[aE];omega),((k+1:Nat):Int),wo,?_⟩;intro ρ3 w3 r3
     refine⟨(k+1,out.set (i+k) (t % 4294967296),t / 4294967296,w3),⟨by dsimp only;omega,hw.tr r3.cP,by simp[QM],Oo.set (bs _ (by decide)),by dsimp only;omega,?_,hz.set (by omega)⟩,
      Sub.gn [] r3,by dsimp only;omega⟩
     have h5:=H4 (a:=xi*yk) ho hv ht;dsimp only
     rw[show i+(k+1)=i+k+1 by omega,h5,de hyk,Cr,bV,Nat.add_assoc];congr 2;simp only[bf,Nat.mul_left_comm,bW]
    ·have hkn:k=y.ls.length:=by
      have:¬k<y.ls.length:=by simpa using h2
      omega
     subst hkn;obtain⟨o,ho⟩:∃q,out[i+y.ls.length]? =some q:=⟨_,aB (by omega)⟩
     have ho0:=hz _ _ (aF _) ho;subst ho0;refine⟨((i+y.ls.length:Nat):Int),wo,(c:Int),by rw[fE,bN hc],by omega,by rw[gK];omega,U (out.set (i+y.ls.length) c),jD out (i+y.ls.length) _ (by omega) (by simp only[aE];omega),((i+1:Nat):Int),wo,?_⟩;intro ρ3 w3 r3
     refine⟨(i+1,out.set (i+y.ls.length) c,w3),⟨by dsimp only;omega,hw.tr r3.cP,by simp[QM],Oo.set hc,?_,?_⟩,
      Sub.gn [] r3,by dsimp only;omega⟩
     ·have h5:=yH (x:=c) ho;dsimp only
      rw[bC,RK]at hv;rw[de PZ,Nat.add_mul];omega
     ·intro j z hj hjz;dsimp only at hj;rw[aY (by omega)]at hjz;exact hz j z (by omega) hjz
  ·have Qz:i=x.ls.length:=by
    have:¬i<x.ls.length:=by simpa using h
    omega
   subst Qz;have Sd:val out=n*m:=by rw[hv,bC,Qd]
   refine gZ (Φ:=fun O _ v w2=>dO w2 (fun g=>g=(O 0).g) v (dh out)) (H':=[]) 0 rfl (by simp) trivial rfl (fun O w' r=>r.nn 0 _ rfl (by intros;simp) (by simp)) (fun O w' r=>?_) ?_
   ·have hL:=r.nc (id:=0) rfl Oo (by omega);rw[QM]at hL;exact fN (fun g hg=>by rw[hg];exact(r.low 0 _ rfl (r.nn 0 _ rfl (by intros;simp) (by simp))).2) hL
   rintro O w' v w2 r he hb hL;replace hw:=hw.tr hb;have Og:=r.low 0 _ rfl (r.nn 0 _ rfl (by intros;simp) (by simp));generalize (O 0).g=g at*
   have hs:=he.size;intro ρ3 w3 r3;refine⟨_,rfl,hw.tr r3.cP,dh out,?_,(ef out).2.1,?_⟩
   ·refine(hL.cH fun k hk=>?_).cI fun k hk=>.inr ?_
    ·rw[hk];exact r3.qP.block g (by omega) (by simp)
    ·rw[hk];have:=r3.size;omega
   ·rw[(ef out).1,Sd]
theorem DY{q:Nat}(ho:o<2^k):o ||| 2^k*q=o+2^k*q:=by
 rw[Nat.or_comm,<-Nat.two_pow_add_eq_or_of_lt ho,Nat.add_comm]
theorem Kp{x y:Nat}(hx:x<18446744073709551616)(hy:y<18446744073709551616):IntKind.u64.wrap ((BitVec.ofInt IntKind.u64.bits x ||| BitVec.ofInt IntKind.u64.bits y).toNat:Int)=((x ||| y:Nat):Int):=by
 have e:∀z:Nat,BitVec.ofInt 64 (z:Int)=BitVec.ofNat 64 z:=fun z=>by
  apply BitVec.eq_of_toNat_eq;simp
 show IntKind.u64.wrap ((BitVec.ofInt 64 x ||| BitVec.ofInt 64 y).toNat:Int)=_;rw[e,e,BitVec.toNat_or,BitVec.toNat_ofNat,BitVec.toNat_ofNat,bN hx,bN hy];exact eW (Nat.or_lt_two_pow (n:=64) hx hy)
theorem DX(hk:k<=63)(h:a*2^k<18446744073709551616):IntKind.u64.wrap ((a:Int)*2^min ((k:Int)).toNat IntKind.u64.bits)=((a*2^k:Nat):Int):=by
 have h1:min ((k:Int)).toNat IntKind.u64.bits=k:=by show min ((k:Int)).toNat 64=k;omega
 rw[h1,show(a:Int)*2^k=((a*2^k:Nat):Int) by simp];exact eW h
theorem H6(ha:ls[i]? =some a)(ho:out[i]? =some o)(hz:out[i+1]? =some 0)(hv:val out=val (ls.take i)*2^b):
  val ((out.set i (o+a*2^b % 4294967296)).set (i+1) (a*2^b / 4294967296))=val (ls.take (i+1))*2^b:=by
 have h1:=yH (x:=o+a*2^b % 4294967296) ho;have h2:(out.set i (o+a*2^b % 4294967296))[i+1]? =some 0:=by rw[aY (by omega)];exact hz
 have h3:=yH (x:=a*2^b / 4294967296) h2;rw[de ha,Nat.add_mul,bf];rw[iy]at h3;generalize a*2^b=t at*
 have h4:=Nat.div_add_mod t 4294967296;generalize t / 4294967296=q at*
 generalize t % 4294967296=r at*
 have h5:wt i*(o+r)=wt i*o+wt i*r:=bV _ _ _;have h6:4294967296*wt i*q=wt i*(4294967296*q):=by rw[bW 4294967296 (wt i),bf]
 rw[<-h4,bV];omega
def Kr(w w2:World)(v:Value)(ls:List Nat):Prop:=∃g,v= .slice (some ⟨g,0,none⟩) ls.length ls.length∧w.heap.size<=g∧w2.heap[g]? =some (.cells (U ls).toArray T.uint32 (0,0))∧Lm ls
theorem CI(hS:Old S w)(h:dO w S v ls)(hl:ls.length<=1000000000000)(hb:b<32):
  di PG N.me #[v,.int .u64 b] w (dw w fun v' w2=>∃out,Kr w w2 v' out∧out.length=ls.length+1∧val out=val ls*2^b):=by
 obtain⟨x,rfl,rfl⟩:=h.la;refine qO (by simp) ?_;have hp32:2^b<=2^31:=Nat.pow_le_pow_right (by decide) (by omega)
 refine⟨((x.ls.length+1:Nat):Int),wo,x.ls.length+1,x.ls.length+1,rfl,rfl,aF _,by omega,by omega,Nat×List Nat×World,fun z=>⟨[(1,.o (.v (.int .u64 b))),(5,.o (.s 0 0 (x.ls.length+1) (x.ls.length+1))),(13,sV x.a x.ls.length x.c),(14,iZ x.ls.length),(15,iZ z.1)],
   [(0,.arr T.uint32 (U z.2.1))],1,[],z.2.2⟩,fun z=>x.ls.length-z.1,
  fun z=>z.1<=x.ls.length∧dm w.heap.size w z.2.2∧z.2.1.length=x.ls.length+1∧Lm z.2.1∧val z.2.1=val (x.ls.take z.1)*2^b∧Zf z.2.1 (z.1+1)∧(∀o,z.2.1[z.1]? =some o->o<2^b),?_,?_⟩
 ·intro O w' r;rw[s9]at r;refine⟨(0,List.replicate (x.ls.length+1) 0,w'),⟨by simp,r.cP,by simp,Lm.replicate _,by simp[val,my],fun j z _ hz=>?_,fun o ho=>?_⟩,Sub.gn [] r⟩
  ·simp only[List.getElem?_replicate]at hz;split at hz<;>simp_all
  ·simp only[List.getElem?_replicate]at ho;split at ho
   ·injection ho with ho;subst ho;exact bl _
   ·cases ho
 ·rintro⟨i,out,w1⟩ ⟨hi,hw,QM,Oo,hv,hz,Og⟩;dsimp only at hi hw QM Oo hv hz Og ⊢;refine dM.mk ?_ ?_<;>intro h
  ·have h:i<x.ls.length:=by simpa using h
   obtain⟨a,PZ⟩:∃k,x.ls[i]? =some k:=⟨_,aB h⟩
   obtain⟨ad,OW,Ow⟩:=x.load hS hw PZ;have Py:=x.lm.at PZ;obtain⟨o,ho⟩:∃q,out[i]? =some q:=⟨_,aB (by omega)⟩
   obtain⟨o1,VE⟩:∃q,out[i+1]? =some q:=⟨_,aB (by omega)⟩
   have e0:=hz _ _ (aF _) VE;subst e0;have SK:=Og o ho;have On:=H6 PZ ho VE hv;have PY:a*2^b<=4294967295*2^31:=Nat.mul_le_mul (by omega) hp32;have Sg:a*2^b / 4294967296<2^b:=by
    rw[Nat.div_lt_iff_lt_mul (by decide),bW (2^b)];exact Nat.mul_lt_mul_of_pos_right Py (bl b)
   have Tv:o ||| a*2^b % 4294967296=o+a*2^b % 4294967296:=by
    have:a*2^b % 4294967296=2^b*(a % 2^(32-b)):=by
     rw[show (4294967296:Nat)=2^(32-b)*2^b by rw[<-Nat.pow_add,Nat.sub_add_cancel (by omega)],Nat.mul_mod_mul_right,bW]
    rw[this];exact DY SK
   have Rq:o+a*2^b % 4294967296<4294967296:=by
    rw[<-Tv];exact Dp (by omega) (bs _ (by decide))
   refine⟨ad,OW,by omega,.int .u32 a,Ow _ _ _,(a:Int),eW (by omega),by omega,((a*2^b:Nat):Int),DX (by omega) (by omega),?_⟩;generalize ht:a*2^b=t at*
   refine⟨by omega,.int .u32 o,by rw[aE,aR,aT];exact uO ho,((t % 4294967296:Nat):Int),fE _,((o+t % 4294967296:Nat):Int),by rw[<-Tv];exact aA7 (by omega) (bs _ (by decide)),by omega,by rw[gK];omega,U (out.set i (o+t % 4294967296)),jD out i _ (by omega) (by simp),((i+1:Nat):Int),wo,by decide,((t / 4294967296:Nat):Int),mE 32 (by decide),((t / 4294967296:Nat):Int),by rw[fE];omega,by omega,by rw[gK];simp;omega,U ((out.set i (o+t % 4294967296)).set (i+1) (t / 4294967296)),jD _ (i+1) _ (by simp;omega) (by simp only[aE];omega),((i+1:Nat):Int),wo,?_⟩;intro ρ3 w3 r3
   refine⟨(i+1,(out.set i (o+t % 4294967296)).set (i+1) (t / 4294967296),w3),⟨by dsimp only;omega,hw.tr r3.cP,by simp[QM],(Oo.set Rq).set (by omega),On,fun j z hj hjz=>?_,fun o2 TY=>?_⟩,
    Sub.gn [] r3,by dsimp only;omega⟩
   ·dsimp only at hj;rw[aY (by omega),aY (by omega)]at hjz;exact hz j z (by omega) hjz
   ·rw[aV (by simp;omega)]at TY;injection TY with TY;omega
  ·have Qz:i=x.ls.length:=by
    have:¬i<x.ls.length:=by simpa using h
    omega
   subst Qz;rw[bC]at hv;intro ρ3 w3 r3;refine⟨_,rfl,hw.tr r3.cP,out,⟨(ρ3 0).g,by rw[QM];rfl,(r3.low 0 _ rfl (r3.nn 0 _ rfl (by intros;simp) (by simp))).1,r3.arr 0 _ _ rfl,Oo⟩,QM,hv⟩
theorem Cj{d q:Nat}(ha32:a<4294967296)(ha:ls[i]? =some a)(hd:out[i]? =some d)(hb:b<=32)(ht:t=a+4294967296*ls.getD (i+1) 0)(hq:q=t / 2^b % 4294967296)(hv:val (out.take i)+wt i*(val (ls.drop i) / 2^b)=V):
  val ((out.set i q).take (i+1))+wt (i+1)*(val (ls.drop (i+1)) / 2^b)=V:=by
 have hi:=(aD.1 hd).1;have h1:(out.set i q)[i]? =some q:=by rw[aV hi]
 rw[de h1,List.take_set_of_le (aF _),iy,<-hv];have hN:=jN ha;have h2:val (ls.drop i) / 2^b=q+4294967296*(val (ls.drop (i+1)) / 2^b):=by
  have e1:val (ls.drop i) / 2^b / 4294967296=val (ls.drop (i+1)) / 2^b:=by
   rw[Nat.div_div_eq_div_mul,bW,<-Nat.div_div_eq_div_mul];congr 1;omega
  have e2:val (ls.drop i) / 2^b % 4294967296=q:=by
   have h3:∃z,val (ls.drop i)=t+2^b*(4294967296*z):=by
    cases hx:ls[i+1]? with
    |some y=>
     have:=jN hx;refine⟨2^(32-b)*val (ls.drop (i+1+1)),?_⟩;have h4:2^b*(4294967296*(2^(32-b)*val (ls.drop (i+1+1))))=18446744073709551616*val (ls.drop (i+1+1)):=by
      rw[Nat.mul_left_comm,<-bf (2^b),<-Nat.pow_add,Nat.add_sub_cancel' hb,<-bf]
     rw[h4,hN,this,ht,List.getD,hx];simp only[Option.getD_some]
     omega
    |none=>
     refine⟨0,?_⟩;have h5:ls.length<=i+1:=List.getElem?_eq_none_iff.1 hx;rw[hN,List.drop_of_length_le h5,ht,List.getD,hx];simp[val]
   obtain⟨z,hz⟩:=h3;rw[hz,Nat.add_mul_div_left _ _ (bl b),Nat.add_mul_mod_self_left,hq]
  have:=Nat.div_add_mod (val (ls.drop i) / 2^b) 4294967296;rw[e1,e2]at this;omega
 rw[h2,bV,bW 4294967296 (wt i),bf];omega
theorem Nm(hS:Old S w)(h:dO w S v ls)(hl:ls.length<=1000000000000)(hb:b<32):
  di PG N.qE #[v,.int .u64 b] w (dw w fun v' w2=>dq w2 (Nf w w2) v' (val ls / 2^b)):=by
 obtain⟨x,rfl,rfl⟩:=h.la;refine uM (by simp) ?_
 refine⟨x.ls.length,x.ls.length,rfl,rfl,aF _,by omega,by omega,Nat×List Nat×World,fun z=>⟨[(0,sV x.a x.ls.length x.c),(1,.o (.v (.int .u64 b))),(5,.o (.s 0 0 x.ls.length x.ls.length)),(12,iZ x.ls.length),(13,iZ z.1)],
   [(0,.arr T.uint32 (U z.2.1))],1,[],z.2.2⟩,fun z=>x.ls.length-z.1,
  fun z=>z.1<=x.ls.length∧dm w.heap.size w z.2.2∧z.2.1.length=x.ls.length∧Lm z.2.1∧val (z.2.1.take z.1)+wt z.1*(val (x.ls.drop z.1) / 2^b)=val x.ls / 2^b,?_,?_⟩
 ·intro O w' r;rw[s9]at r;exact⟨(0,List.replicate x.ls.length 0,w'),⟨by simp,r.cP,by simp,Lm.replicate _,by simp[val,jV]⟩,Sub.gn [] r⟩
 ·rintro⟨i,out,w1⟩ ⟨hi,hw,QM,Oo,hv⟩;dsimp only at hi hw QM Oo hv ⊢;refine dM.mk ?_ ?_<;>intro h
  ·have h:i<x.ls.length:=by simpa using h
   obtain⟨a,PZ⟩:∃k,x.ls[i]? =some k:=⟨_,aB h⟩
   obtain⟨ad,OW,Ow⟩:=x.load hS hw PZ;have Py:=x.lm.at PZ;obtain⟨d,hd⟩:∃q,out[i]? =some q:=⟨_,aB (by omega)⟩
   refine⟨ad,OW,by omega,.int .u32 a,Ow _ _ _,(a:Int),eW (by omega),((i+1:Nat):Int),wo,?_⟩;refine dM.mk ?_ ?_<;>intro h2
   ·have h2:i+1<x.ls.length:=by
     have:((i+1:Nat):Int)<x.ls.length:=aI h2;omega
    obtain⟨y,hy⟩:∃k,x.ls[i+1]? =some k:=⟨_,aB h2⟩
    obtain⟨ad2,Po,Qj⟩:=x.load hS hw hy;have hy32:=x.lm.at hy;have RG:x.ls.getD (i+1) 0=y:=by simp[List.getD,hy]
    have Tv:a ||| y*2^32=a+4294967296*y:=by
     rw[bW];exact DY (k:=32) Py
    refine⟨((i+1:Nat):Int),wo,ad2,Po,by omega,.int .u32 y,Qj _ _ _,(y:Int),eW (by omega),by decide,((y*2^32:Nat):Int),DX (k:=32) (by decide) (by omega),((a+4294967296*y:Nat):Int),by rw[Kp (by omega) (by omega),Tv],by omega,(((a+4294967296*y) / 2^b:Nat):Int),mE b (by omega),(((a+4294967296*y) / 2^b % 4294967296:Nat):Int),fE _,?_⟩;have On:=Cj (t:=a+4294967296*y) Py PZ hd (by omega) (by rw[RG]) rfl hv;generalize hq:(a+4294967296*y) / 2^b % 4294967296=q at*
    have hq32:q<4294967296:=by rw[<-hq];exact bs _ (by decide)
    refine⟨by omega,by rw[gK];omega,U (out.set i q),jD out i _ (by omega) (by simp),((i+1:Nat):Int),wo,?_⟩;intro ρ3 w3 r3
    exact⟨(i+1,out.set i q,w3),⟨by dsimp only;omega,hw.tr r3.cP,by simp[QM],Oo.set hq32,On⟩,
     Sub.gn [] r3,by dsimp only;omega⟩
   ·have h2:¬i+1<x.ls.length:=by
     have:¬((i+1:Nat):Int)<x.ls.length:=aH h2;omega
    have RG:x.ls.getD (i+1) 0=0:=by simp[List.getD,List.getElem?_eq_none (show x.ls.length<=i+1 by omega)]
    refine⟨by omega,((a / 2^b:Nat):Int),mE b (by omega),((a / 2^b % 4294967296:Nat):Int),fE _,?_⟩;have On:=Cj (t:=a) Py PZ hd (by omega) (by rw[RG];omega) rfl hv;generalize hq:a / 2^b % 4294967296=q at*
    have hq32:q<4294967296:=by rw[<-hq];exact bs _ (by decide)
    refine⟨by omega,by rw[gK];omega,U (out.set i q),jD out i _ (by omega) (by simp),((i+1:Nat):Int),wo,?_⟩;intro ρ3 w3 r3
    exact⟨(i+1,out.set i q,w3),⟨by dsimp only;omega,hw.tr r3.cP,by simp[QM],Oo.set hq32,On⟩,
     Sub.gn [] r3,by dsimp only;omega⟩
  ·have Qz:i=x.ls.length:=by
    have:¬i<x.ls.length:=by simpa using h
    omega
   subst Qz;have Sd:val out=val x.ls / 2^b:=by
    rw[List.drop_length,List.take_of_length_le (by omega)]at hv;simpa [val]using hv
   refine gZ (Φ:=fun O _ v w2=>dO w2 (fun g=>g=(O 0).g) v (dh out)) (H':=[]) 0 rfl (by simp) trivial rfl (fun O w' r=>r.nn 0 _ rfl (by intros;simp) (by simp)) (fun O w' r=>?_) ?_
   ·have hL:=r.nc (id:=0) rfl Oo (by omega);rw[QM]at hL;exact fN (fun g hg=>by rw[hg];exact(r.low 0 _ rfl (r.nn 0 _ rfl (by intros;simp) (by simp))).2) hL
   rintro O w' v w2 r he hb hL;replace hw:=hw.tr hb;have Og:=r.low 0 _ rfl (r.nn 0 _ rfl (by intros;simp) (by simp));generalize (O 0).g=g at*
   have hs:=he.size;intro ρ3 w3 r3;refine⟨_,rfl,hw.tr r3.cP,dh out,?_,(ef out).2.1,?_⟩
   ·refine(hL.cH fun k hk=>?_).cI fun k hk=>.inr ?_
    ·rw[hk];exact r3.qP.block g (by omega) (by simp)
    ·rw[hk];have:=r3.size;omega
   ·rw[(ef out).1,Sd]
theorem H8{by_ rest x d:Nat}(hx:ls[k]? =some x)(hd:out[k]? =some d)(ht:t=rest*4294967296+x)
  (hv:val (ls.drop (k+1))=by_*val (out.drop (k+1))+rest):val (ls.drop k)=by_*val ((out.set k (t / by_)).drop k)+t % by_:=by
 have hi:=(aD.1 hd).1;have h1:(out.set k (t / by_))[k]? =some (t / by_):=by rw[aV hi]
 rw[jN h1,List.drop_set_of_lt (show k<k+1 by omega),jN hx,hv,bV,bV];have h2:=Nat.div_add_mod t by_;rw[Nat.mul_left_comm by_];omega
theorem Kq(h:t<18446744073709551616):IntKind.u64.wrap ((t:Int).tdiv (b:Int))=((t / b:Nat):Int):=by
 have h1:=Nat.div_le_self t b;rw[Int.tdiv_eq_ediv_of_nonneg (by omega),<-Int.natCast_ediv];exact eW (by omega)
theorem La(t b:Nat):(t:Int).tmod (b:Int)=((t % b:Nat):Int):=by
 rw[Int.tmod_eq_emod_of_nonneg (by omega),<-Int.natCast_emod]
theorem MZ(hS:Old S w)(h:dO w S v ls)(hl:ls.length<=1000000000000)(hb:0<b)(QI:b<4294967296):
  di PG N.pB #[v,.int .u32 b] w (dw w fun v' w2=>∃q,v'= .tuple #[q,.int .u32 ((val ls % b:Nat):Int)]∧dq w2 (Nf w w2) q (val ls / b)):=by
 obtain⟨x,rfl,rfl⟩:=h.la;refine s6 (by simp) ?_
 refine⟨x.ls.length,x.ls.length,rfl,rfl,aF _,by omega,by omega,(x.ls.length:Int)-1,wo,Nat×Nat×List Nat×World,fun z=>⟨[(0,sV x.a x.ls.length x.c),(1,.o (.v (.int .u32 b))),(4,sV none 0 0),(5,.o (.v (.int .u32 0))),(6,.o (.s 0 0 x.ls.length x.ls.length)),(7,.o (.v (.int .u64 z.2.1))),(8,.o (.v (.int .i64 ((z.1:Int)-1))))],
   [(0,.arr T.uint32 (U z.2.2.1))],1,[],z.2.2.2⟩,fun z=>z.1,
  fun z=>z.1<=x.ls.length∧dm w.heap.size w z.2.2.2∧z.2.2.1.length=x.ls.length∧Lm z.2.2.1∧z.2.1<b∧val (x.ls.drop z.1)=b*val (z.2.2.1.drop z.1)+z.2.1,?_,?_⟩
 ·intro O w' r;rw[s9]at r;exact⟨(x.ls.length,0,List.replicate x.ls.length 0,w'),⟨by simp,r.cP,by simp,Lm.replicate _,by simpa using hb,by simp[val]⟩,Sub.gn [] r⟩
 ·rintro⟨k,rest,out,w1⟩ ⟨hi,hw,QM,Oo,hr,hv⟩;dsimp only at hi hw QM Oo hr hv ⊢;refine dM.mk ?_ ?_<;>intro h
  ·have h:(k:Int)-1≥0:=aI h;obtain⟨k,rfl⟩:∃q,k=q+1:=⟨k-1,by omega⟩
   rw[show ((k+1:Nat):Int)-1=(k:Int) by omega];obtain⟨a,PZ⟩:∃q,x.ls[k]? =some q:=⟨_,aB (by omega)⟩
   obtain⟨ad,OW,Ow⟩:=x.load hS hw PZ;have Py:=x.lm.at PZ;obtain⟨d,hd⟩:∃q,out[k]? =some q:=⟨_,aB (by omega)⟩
   refine⟨by decide,((rest*2^32:Nat):Int),DX (k:=32) (by decide) (by omega),ad,OW,by omega,.int .u32 a,Ow _ _ _,(a:Int),eW (by omega),?_⟩;have Tv:rest*2^32 ||| a=rest*4294967296+a:=by
    rw[Nat.or_comm,bW,DY (k:=32) Py];omega
   refine⟨((rest*4294967296+a:Nat):Int),by rw[Kp (by omega) (by omega),Tv],?_⟩;generalize ht:rest*4294967296+a=t;have ht64:t<18446744073709551616:=by omega
   refine cK hτ dZ [.x 0,.x 1,.x 2,.x 3,.x 4,.x 5,.x 6,.x 7,.x 8,.x 9,.x 10,.x 11,.x 12,.x 13] (by kernel_rfl) (by kernel_rfl) ?_;refine⟨(b:Int),eW (by omega),by omega,((t / b:Nat):Int),Kq ht64,?_⟩;have hq:t / b<4294967296:=by
    rw[Nat.div_lt_iff_lt_mul hb];have:=Nat.mul_le_mul_right 4294967296 hr;rw[Nat.succ_eq_add_one,Nat.add_mul]at this;omega
   have hm:t % b<b:=bs _ hb;have On:=H8 PZ hd ht.symm hv;have hw32:IntKind.u32.wrap ((t / b:Nat):Int)=((t / b:Nat):Int):=by rw[fE,bN hq]
   have hrem:=La t b;generalize t / b=q at*
   generalize t % b=m at*
   refine⟨(q:Int),hw32,(b:Int),eW (by omega),by omega,(m:Int),hrem,by omega,by rw[gK];omega,U (out.set k q),jD out k _ (by omega) (by simp),(k:Int)-1,wo,?_⟩;intro ρ3 w3 r3
   exact⟨(k,m,out.set k q,w3),⟨by dsimp only;omega,hw.tr r3.cP,by simp[QM],Oo.set hq,hm,On⟩,
    Sub.gn [] r3,by dsimp only;omega⟩
  ·have Sr:k=0:=by
    have:¬(k:Int)-1≥0:=aH h;omega
   subst Sr;rw[List.drop_zero,List.drop_zero]at hv;have hdm:val x.ls / b=val out∧val x.ls % b=rest:=by
    rw[hv];exact⟨by rw[Nat.mul_add_div hb,Nat.div_eq_of_lt hr,bw],by rw[Nat.mul_add_mod,bN hr]⟩
   rw[hdm.1,hdm.2];refine gZ (Φ:=fun O _ v w2=>dO w2 (fun g=>g=(O 0).g) v (dh out)) (H':=[]) 0 rfl (by simp) trivial rfl (fun O w' r=>r.nn 0 _ rfl (by intros;simp) (by simp)) (fun O w' r=>?_) ?_
   ·have hL:=r.nc (id:=0) rfl Oo (by omega);rw[QM]at hL;exact fN (fun g hg=>by rw[hg];exact(r.low 0 _ rfl (r.nn 0 _ rfl (by intros;simp) (by simp))).2) hL
   rintro O w' v w2 r he hb hL;replace hw:=hw.tr hb;have Og:=r.low 0 _ rfl (r.nn 0 _ rfl (by intros;simp) (by simp));generalize (O 0).g=g at*
   have hs:=he.size;refine⟨(rest:Int),by rw[fE,bN (by omega)],?_⟩;intro ρ3 w3 r3;refine⟨_,rfl,hw.tr r3.cP,v,rfl,dh out,?_,(ef out).2.1,(ef out).1⟩;refine(hL.cH fun k hk=>?_).cI fun k hk=>.inr ?_
   ·rw[hk];exact r3.qP.block g (by omega) (by simp)
   ·rw[hk];have:=r3.size;omega
def gb(n:Nat):Nat:=if n=0 then 0 else n.log2+1
theorem Kl{x:Nat}(h:2^k<=x):x.log2=(x / 2^k).log2+k:=by
 have hp:=bl k;have hy:x / 2^k≠0:=by have:=Nat.div_pos h hp;omega
 have h1:=Nat.log2_self_le hy;have h2:=@Nat.lt_log2_self (x / 2^k);rw[Nat.log2_eq_iff (by omega)];refine⟨?_,?_⟩
 ·rw[Nat.pow_add];exact(Nat.le_div_iff_mul_le hp).1 h1
 ·rw[show (x / 2^k).log2+k+1=(x / 2^k).log2+1+k by omega,Nat.pow_add];exact(Nat.div_lt_iff_lt_mul hp).1 h2
theorem AP{x:Nat}(h:2^k<=x):gb x=k+gb (x / 2^k):=by
 have hp:=bl k;have hy:x / 2^k≠0:=by have:=Nat.div_pos h hp;omega
 rw[gb,gb,aL hy,aL (by omega),Kl h];omega
theorem yN(h:n<256):IntKind.u8.wrap (n:Int)=(n:Int):=by
 show((n:Int) % 256)=_;omega
theorem yO(h:n<256):(UInt8.ofNat (gb n)).toNat=gb n:=by
 have:∀n,n<256->(UInt8.ofNat (gb n)).toNat=gb n:=by decide +kernel
 exact this n h
theorem o6{x:Nat}(h:x<256):gb x<=8:=by
 have:∀n,n<256->gb n<=8:=by decide +kernel
 exact this x h
theorem IA(n:Nat)(h:n<256):(⟨#[0,1,2,2,3,3,3,3,4,4,4,4,4,4,4,4,5,5,5,5,5,5,5,5,5,5,5,5,5,5,5,5,6,6,6,6,6,6,6,6,6,6,6,6,6,6,6,6,6,6,6,6,6,6,6,6,6,6,6,6,6,6,6,6,7,7,7,7,7,7,7,7,7,7,7,7,7,7,7,7,7,7,7,7,7,7,7,7,7,7,7,7,7,7,7,7,7,7,7,7,7,7,7,7,7,7,7,7,7,7,7,7,7,7,7,7,7,7,7,7,7,7,7,7,7,7,7,7,8,8,8,8,8,8,8,8,8,8,8,8,8,8,8,8,8,8,8,8,8,8,8,8,8,8,8,8,8,8,8,8,8,8,8,8,8,8,8,8,8,8,8,8,8,8,8,8,8,8,8,8,8,8,8,8,8,8,8,8,8,8,8,8,8,8,8,8,8,8,8,8,8,8,8,8,8,8,8,8,8,8,8,8,8,8,8,8,8,8,8,8,8,8,8,8,8,8,8,8,8,8,8,8,8,8,8,8,8,8,8,8,8,8,8,8,8,8,8,8,8,8,8,8,8,8,8,8]⟩:ByteArray)[((n:Nat):Int).toNat]? =some (UInt8.ofNat (gb n)):=by
 have:∀n,n<256->(⟨#[0,1,2,2,3,3,3,3,4,4,4,4,4,4,4,4,5,5,5,5,5,5,5,5,5,5,5,5,5,5,5,5,6,6,6,6,6,6,6,6,6,6,6,6,6,6,6,6,6,6,6,6,6,6,6,6,6,6,6,6,6,6,6,6,7,7,7,7,7,7,7,7,7,7,7,7,7,7,7,7,7,7,7,7,7,7,7,7,7,7,7,7,7,7,7,7,7,7,7,7,7,7,7,7,7,7,7,7,7,7,7,7,7,7,7,7,7,7,7,7,7,7,7,7,7,7,7,7,8,8,8,8,8,8,8,8,8,8,8,8,8,8,8,8,8,8,8,8,8,8,8,8,8,8,8,8,8,8,8,8,8,8,8,8,8,8,8,8,8,8,8,8,8,8,8,8,8,8,8,8,8,8,8,8,8,8,8,8,8,8,8,8,8,8,8,8,8,8,8,8,8,8,8,8,8,8,8,8,8,8,8,8,8,8,8,8,8,8,8,8,8,8,8,8,8,8,8,8,8,8,8,8,8,8,8,8,8,8,8,8,8,8,8,8,8,8,8,8,8,8,8,8,8,8,8,8]⟩:ByteArray)[n]? =some (UInt8.ofNat (gb n)):=by decide +kernel
 exact this n h
theorem MV(x:Nat)(w:World)(hx:x<4294967296):di PG N.zp #[.int .u32 x] w (dw w fun v _=>v= .int .i64 (gb x)):=by
 refine BI (by simp) ?_;refine dM.mk ?_ ?_<;>intro h
 ·have h:65536<=x:=by have:=aI h;omega
  refine⟨by decide,((x / 2^16:Nat):Int),o7 16 (by decide),?_⟩;have hb:=AP (k:=16) h;have hy:x / 2^16<65536:=by omega
  rw[hb];generalize x / 2^16=y at*
  refine dM.mk ?_ ?_<;>intro h2
  ·have h2:256<=y:=by have:=aI h2;omega
   refine⟨by decide,((y / 2^8:Nat):Int),o7 8 (by decide),?_⟩;have QI:=AP (k:=8) h2;have hz:y / 2^8<256:=by omega
   rw[QI];generalize y / 2^8=z at*
   refine⟨24,by decide,(z:Int),yN hz,?_⟩;refine qg (b:=UInt8.ofNat (gb z)) ((hτ _ _ rfl).i3 rfl) rfl rfl (by omega) (IA z hz) (fun ρ1 w1 r1=>?_);rw[yO hz];have ht:=o6 hz;refine⟨(gb z:Int),wo,((24+gb z:Nat):Int),wo,?_⟩;intro ρ3 w3 r3;exact⟨_,rfl,r1.cP.tr r3.cP,by rw[<-Nat.add_assoc];rfl⟩
  ·have hy:y<256:=by have:=aH h2;omega
   refine⟨(y:Int),yN hy,?_⟩;refine qg (b:=UInt8.ofNat (gb y)) ((hτ _ _ rfl).i3 rfl) rfl rfl (by omega) (IA y hy) (fun ρ1 w1 r1=>?_);rw[yO hy];have ht:=o6 hy;refine⟨(gb y:Int),wo,((16+gb y:Nat):Int),wo,?_⟩;intro ρ3 w3 r3;exact⟨_,rfl,r1.cP.tr r3.cP,by rfl⟩
 ·have h:x<65536:=by have:=aH h;omega
  refine dM.mk ?_ ?_<;>intro h2
  ·have h2:256<=x:=by have:=aI h2;omega
   refine⟨by decide,((x / 2^8:Nat):Int),o7 8 (by decide),?_⟩;have QI:=AP (k:=8) h2;have hz:x / 2^8<256:=by omega
   rw[QI];generalize x / 2^8=z at*
   refine⟨8,by decide,(z:Int),yN hz,?_⟩;refine qg (b:=UInt8.ofNat (gb z)) ((hτ _ _ rfl).i3 rfl) rfl rfl (by omega) (IA z hz) (fun ρ1 w1 r1=>?_);rw[yO hz];have ht:=o6 hz;refine⟨(gb z:Int),wo,((8+gb z:Nat):Int),wo,?_⟩;intro ρ3 w3 r3;exact⟨_,rfl,r1.cP.tr r3.cP,by rfl⟩
  ·have hx:x<256:=by have:=aH h2;omega
   refine⟨(x:Int),yN hx,?_⟩;refine qg (b:=UInt8.ofNat (gb x)) ((hτ _ _ rfl).i3 rfl) rfl rfl (by omega) (IA x hx) (fun ρ1 w1 r1=>?_);rw[yO hx];have ht:=o6 hx;refine⟨(gb x:Int),wo,((0+gb x:Nat):Int),wo,?_⟩;intro ρ3 w3 r3;exact⟨_,rfl,r1.cP.tr r3.cP,by rw[aR];rfl⟩
theorem yI{x:Nat}:gb x<=k↔x<2^k:=by
 unfold gb;by_cases h:x=0
 ·rw[if_pos h,h];exact⟨fun _=>bl k,fun _=>aP _⟩
 ·rw[aL h];constructor
  ·intro h1;exact(Nat.log2_lt h).1 (by omega)
  ·intro h1;have:=(Nat.log2_lt h).2 h1;omega
theorem Nk(x:Nat)(w:World)(hx:x<4294967296):di PG N.ko #[.int .u32 x] w (dw w fun v _=>v= .int .i64 ((32-gb x:Nat):Int)):=by
 refine o0 (by simp) ?_;refine cC (cM (Φ:=fun _ _ v _=>v= .int .i64 (gb x)) (fun O w' r=>MV x w' hx) ?_);rintro O w' v w2 r he hb rfl;have h32:gb x<=32:=yI.2 hx;refine⟨((32-gb x:Nat):Int),wo,?_⟩;intro ρ3 w3 r3;exact⟨_,rfl,hb.tr r3.cP,rfl⟩
end Go.Ex
namespace Go.Sx
open Go Go.Ex Go.Proofs
variable{ls:List Nat}{O:Nat->Sx.dg}
theorem Rel.Km{H:Hp}{nx:Nat}{iv:Iv}{B:Nat}{w w':World}(r:Rel H nx iv B w O w'){id t m:Nat}(h:dC H id=some (.vec t 1 (U ls)))(hm:m=ls.length)(PR:Lm ls)(hle:ls.length<=9223372036854775807):
  dO w' (fun g=>B<=g∧g<w'.heap.size) ((At.w id m).den O) ls:=by
 subst hm;rcases r.vec id t 1 _ h with⟨hn,hu⟩|⟨hn,spare,hb,hc,Qb⟩
 ·have hl:ls=[]:=by cases ls with
   |nil=>rfl
   |cons a b=>simp[U]at hu
  subst hl;have:(At.w id ([]:List Nat).length).den O= .slice none 0 0:=by simp[At.den,hn]
  rw[this];exact dO.nil _ _
 ·refine⟨PR,hle,some ⟨(O id).g,0,none⟩,(O id).cap,by simp[At.den,hn],?_,fun j x hx=>⟨_,rfl,r.low id _ h hn,?_⟩⟩
  ·have h1:(U ls++spare).length=ls.length+spare.length:=by rw[List.length_append,gK]
   omega
  ·rw[dW,cell_of hb,aR,aK (by rw[gK];exact(aD.1 hx).1)];exact uO hx
end Go.Sx
namespace Go.Ex
open Go Go.Sx Go.Proofs
variable{ls:List Nat}{S:Nat->Prop}
theorem MW:PG.underlying T.nat=some (.slice T.uint32):=by
 have h:=(hτ T.nat _ rfl).i4 rfl;exact h
theorem IB{w:World}{v:Value}(hS:Old S w)(h:dO w S v ls)(hl:ls.length<=1000000000000):
  di PG N.fy #[v] w (dw w fun v' w2=>dO w2 (Nf w w2) v' ls):=by
 obtain⟨x,rfl,rfl⟩:=h.la;refine im (by simp) ?_;refine⟨x.a.isNone,fun O w1 o1 o2=>by simp[eqGuard,SV.den,At.den,nM (P:=PG) w1 T.nat T.uint32 x.a x.ls.length x.c 0 0 MW],?_⟩;refine dM.mk ?_ ?_<;>intro h
 ·intro ρ3 w3 r3;have hn:x.ls=[]:=by
   cases hx:x.ls with
   |nil=>rfl
   |cons u r=>
    obtain⟨ad,h1,_⟩:=x.cell 0 u (by rw[hx];rfl);rw[h1]at h;simp at h
  exact⟨_,rfl,r3.cP,by rw[hn];exact dO.nil _ _⟩
 ·refine .inl ?_;refine⟨U x.ls,by rw[gK,aT],fun u hu=>by simp only[U,aU]at hu;obtain⟨n,_,rfl⟩:=hu;rfl,fun O w1 r h0=>?_,?_⟩
  ·obtain⟨u,hu⟩:∃q,x.ls[0]? =some q:=⟨_,aB h0⟩
   obtain⟨ad,OW,_⟩:=x.cell 0 u hu;refine⟨ad,OW,fun j u hu=>?_⟩;simp only[U,aM,Option.map_eq_some_iff]at hu;obtain⟨n,hn,rfl⟩:=hu;obtain⟨ad2,Po,hs,hc⟩:=x.cell j n hn;rw[OW]at Po;injection Po with Po;subst Po;exact jv hS dm.refl r hs hc
  refine⟨rfl,by omega,by unfold maxLen;omega,?_⟩;intro ρ3 w3 r3;exact⟨_,rfl,r3.cP,(r3.Km (id:=1) rfl (aR _) x.lm x.le).cI fun g hg=>.inr hg⟩
end Go.Ex
