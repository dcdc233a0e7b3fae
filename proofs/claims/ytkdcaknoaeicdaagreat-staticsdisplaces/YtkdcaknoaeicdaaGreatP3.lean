/- Texts L1 to X10: lemmas, each with its conditions. -/
import Derived.KernelRfl
import Derived.Test.YtkdcaknoaeicdaaGreatProg
import Derived.Test.YtkdcaknoaeicdaaGreatP2
namespace Go.Ex
variable{a b ls:List Nat}{k:Nat}
def val:List Nat->Nat
 |[]=>0
 |x::r=>x+4294967296*val r
def Lm(ls:List Nat):Prop:=∀x∈ls,x<4294967296
def wt(k:Nat):Nat:=4294967296^k
theorem jL:wt 0=1:=rfl
theorem ir(k:Nat):wt (k+1)=4294967296*wt k:=by rw[wt,Nat.pow_succ,bW];rfl
theorem CK(a b:Nat):wt (a+b)=wt a*wt b:=by rw[wt,Nat.pow_add];rfl
theorem yM(k:Nat):0<wt k:=Nat.pow_pos (by decide)
theorem kz(a b:List Nat):val (a++b)=val a+wt a.length*val b:=by
 induction a with
 |nil=>simp[val,jL]
 |cons x r ih=>
  rw[List.cons_append,val,val,ih,List.length_cons,ir,bV,bh];omega
theorem nT(h:Lm ls):val ls<wt ls.length:=by
 induction ls with
 |nil=>exact Nat.one_pos
 |cons x r ih=>
  have h1:=h x (by simp);have h2:=ih (fun y hy=>h y (by simp[hy]));rw[val,List.length_cons,ir];have:4294967296*(val r+1)<=4294967296*wt r.length:=b9 _ h2;omega
theorem e8(ls:List Nat)(k:Nat)(h:k<=ls.length):val ls=val (ls.take k)+wt k*val (ls.drop k):=by
 have:=kz (ls.take k) (ls.drop k);rw[List.take_append_drop,aV,Nat.min_eq_left h]at this;exact this
theorem de{x:Nat}(h:ls[k]? =some x):val (ls.take (k+1))=val (ls.take k)+wt k*x:=by
 have hk:=(aD.1 h).1;rw[List.take_add_one,h,kz,aV,Nat.min_eq_left (by omega)];simp[val]
theorem jC{x:Nat}(h:ls[k]? =some x):val (ls.drop k)=x+4294967296*val (ls.drop (k+1)):=by
 obtain⟨hk,hx⟩:=aD.1 h;rw[List.drop_eq_getElem_cons hk,hx,val]
theorem xa{o x:Nat}(h:ls[k]? =some o):val (ls.set k x)+wt k*o=val ls+wt k*x:=by
 obtain⟨hk,ho⟩:=aD.1 h;have h1:=e8 ls k (by omega);have h2:=e8 (ls.set k x) k (by simp;omega);rw[List.take_set_of_le (aF _)]at h2;rw[jC h,bV]at h1;have h3:(ls.set k x)[k]? =some x:=by rw[aW hk]
 rw[jC h3,List.drop_set_of_lt (by omega),bV]at h2;omega
theorem mW(n:Nat):val (List.replicate n 0)=0:=by
 induction n with
 |zero=>rfl
 |succ n ih=>rw[List.replicate_succ,val,ih]
theorem Lm.set{x:Nat}(h:Lm ls)(hx:x<4294967296):Lm (ls.set k x):=fun y hy=>by
 rcases bJ hy with h1|rfl
 ·exact h y h1
 ·exact hx
theorem Lm.replicate(n:Nat):Lm (List.replicate n 0):=fun x hx=>by rw[List.mem_replicate]at hx;omega
theorem Lm.take(h:Lm ls)(k:Nat):Lm (ls.take k):=fun x hx=>h x (bc hx)
theorem Lm.drop(h:Lm ls)(k:Nat):Lm (ls.drop k):=fun x hx=>h x (List.mem_of_mem_drop hx)
theorem Lm.append(ha:Lm a)(hb:Lm b):Lm (a++b):=fun x hx=>by
 rcases bG.1 hx with h|h
 ·exact ha x h
 ·exact hb x h
theorem Lm.at(h:Lm ls){x:Nat}(hx:ls[k]? =some x):x<4294967296:=h x (aC hx)
def dw:List Nat->List Nat
 |[]=>[]
 |x::r=>match dw r with
  |[]=>if x=0 then []else [x]
  |y::t=>x::y::t
def Nz(ls:List Nat):Prop:=∀x,ls.getLast? =some x->x≠0
theorem kR(ls:List Nat):dw (ls++[0])=dw ls:=by
 induction ls with
 |nil=>rfl
 |cons x r ih=>rw[List.cons_append,dw,ih,dw]
theorem nU(ls:List Nat){x:Nat}(hx:x≠0):dw (ls++[x])=ls++[x]:=by
 induction ls with
 |nil=>simp[dw,hx]
 |cons y r ih=>
  rw[List.cons_append,dw,ih]
  cases r<;>rfl
theorem rS(ls:List Nat):ls=[]∨∃a x,ls=a++[x]:=by
 rcases List.eq_nil_or_concat ls with h|⟨a,x,h⟩
 ·exact .inl h
 ·exact .inr ⟨a,x,by simpa using h⟩
theorem ef(ls:List Nat):val (dw ls)=val ls∧Nz (dw ls)∧∃k,k<=ls.length∧dw ls=ls.take k:=by
 have key:∀(n:Nat) (ls:List Nat),ls.length=n->val (dw ls)=val ls∧Nz (dw ls)∧∃k,k<=ls.length∧dw ls=ls.take k:=by
  intro n
  induction n with
  |zero=>intro ls h;have:ls=[]:=List.eq_nil_of_length_eq_zero h;subst this;exact⟨rfl,by simp[Nz,dw],0,aF _,rfl⟩
  |succ n ih=>
   intro ls h;rcases rS ls with rfl|⟨a,x,rfl⟩
   ·simp at h
   ·by_cases hx:x=0
    ·subst hx;rw[kR];obtain⟨h1,h2,k,h3,h4⟩:=ih a (by simp at h;omega);refine⟨by rw[h1,kz];simp[val],h2,k,by simp;omega,?_⟩;rw[h4,List.take_append_of_le_length h3]
    ·rw[nU a hx];refine⟨rfl,?_,_,aF _,by rw[bF]⟩;intro y hy;simp at hy;subst hy;exact hx
 exact key _ ls rfl
theorem Dh(h:Nz ls):dw ls=ls:=by
 rcases rS ls with rfl|⟨a,x,rfl⟩
 ·rfl
 ·exact nU a (h x (by simp))
theorem qj(h:Nz ls)(OG:ls≠[]):wt (ls.length-1)<=val ls:=by
 rcases rS ls with rfl|⟨a,x,rfl⟩
 ·exact absurd rfl OG
 ·have hx:=h x (by simp);rw[kz];simp only[val,List.length_append,List.length_singleton,Nat.add_sub_cancel]
  have:wt a.length*1<=wt a.length*(x+4294967296*0):=b9 _ (by omega);omega
theorem val_inj:∀{a b:List Nat},Lm a->Lm b->a.length=b.length->val a=val b->a=b
 |[],[],_,_,_,_=>rfl
 |x::r,y::s,ha,hb,hl,h=>by
  have h1:=ha x (by simp);have h2:=hb y (by simp);rw[val,val]at h;have h3:x=y:=by omega
  have h4:val r=val s:=by omega
  rw[h3,val_inj (fun z hz=>ha z (by simp[hz])) (fun z hz=>hb z (by simp[hz])) (by simpa using hl) h4]
 |[],_::_,_,_,h,_=>by simp at h
 |_::_,[],_,_,h,_=>by simp at h
theorem BL{a b:Nat}(h:a<=b):wt a<=wt b:=Nat.pow_le_pow_right (by decide) h
theorem JA{a b:Nat}(h:a<b):wt a<wt b:=Nat.pow_lt_pow_right (by decide) h
theorem iu(ha:Lm a)(hb:Nz b)(h:a.length<b.length):val a<val b:=by
 have h1:=nT ha;have h2:=qj hb (by intro e;rw[e]at h;simp at h);have:=BL (show a.length<=b.length-1 by omega);omega
def ln(n:Nat):Nat:=if n=0 then 0 else n.log2 / 32+1
theorem uW(k:Nat):wt k=2^(32*k):=by rw[wt,show(4294967296:Nat)=2^32 from rfl,<-Nat.pow_mul]
theorem gQ{n k:Nat}:ln n<=k↔n<wt k:=by
 unfold ln;by_cases h:n=0
 ·rw[if_pos h,h];exact⟨fun _=>yM k,fun _=>aO _⟩
 ·rw[aK h,uW];constructor
  ·intro h1;have:n.log2<32*k:=by omega
   exact(Nat.log2_lt h).1 this
  ·intro h1;have:=(Nat.log2_lt h).2 h1;omega
theorem lA(n:Nat):n<wt (ln n):=gQ.1 (aF _)
theorem fG{a b:Nat}(h:a<=b):ln a<=ln b:=gQ.2 (Nat.lt_of_le_of_lt h (lA b))
theorem Mc(a b:Nat):ln (a+b)<=max (ln a) (ln b)+1:=by
 rw[gQ,ir];have h1:=Nat.lt_of_lt_of_le (lA a) (BL (Nat.le_max_left (ln a) (ln b)));have h2:=Nat.lt_of_lt_of_le (lA b) (BL (Nat.le_max_right (ln a) (ln b)));omega
theorem Md(a b:Nat):ln (a*b)<=ln a+ln b:=by
 rw[gQ,CK];exact Nat.mul_lt_mul'' (lA a) (lA b)
theorem LQ:ln 0=0:=rfl
theorem eL(h:Lm ls)(hz:Nz ls):ls.length=ln (val ls):=by
 by_cases OG:ls=[]
 ·subst OG;rfl
 ·have h1:=nT h;have h2:=qj hz OG;have h3:=gQ.2 h1;have h4:¬ln (val ls)<=ls.length-1:=fun hh=>by have:=gQ.1 hh;omega
  omega
end Go.Ex
namespace Go.Ex
open Go Go.Sx
variable{f:(Nat->Sx.dg)->Value}{ls:List Nat}{g n:Nat}{p:Nat×Nat}{v:Value}{P:Value->World->Prop}{w1:World}
def Cv(S:Nat->Prop)(B:Nat)(iv:Iv)(g:Nat):Prop:=S g∨(B<=g∧∃lo hi,(lo,hi)∈iv∧lo<=g∧g<hi)
def Nw(S:Nat->Prop)(w w2:World)(g:Nat):Prop:=S g∨(w.heap.size<=g∧g<w2.heap.size)
def Old(S:Nat->Prop)(w:World):Prop:=∀g,S g->g<w.heap.size
section
variable{S S':Nat->Prop}{H:Hp}{nx:Nat}{iv iv':Iv}{B:Nat}{w w' w2:World}{O:Nat->dg}
theorem Cv.mono(h:Cv S B iv g)(k:∀p,p∈iv->p∈iv'):Cv S B iv' g:=by
 rcases h with h|⟨h0,lo,hi,h1,h2⟩
 ·exact .inl h
 ·exact .inr ⟨h0,lo,hi,k _ h1,h2⟩
theorem Cv.cons(h:Cv S B iv g):Cv S B (p::iv) g:=h.mono fun q hq=>by simp[hq]
theorem Rel.old(r:Rel H nx iv B w O w')(hS:∀g,S g->g<B):Old (Cv S B iv) w':=by
 intro g h;rcases h with h|⟨_,lo,hi,h1,_,h3⟩
 ·have:=hS g h;have:=r.base;have:=r.size;omega
 ·have:=r.oe lo hi h1;have:=r.size;omega
theorem Rel.same(r:Rel H nx iv B w O w')(hS:∀g,S g->g<B)(h:Cv S B iv g):w'.heap[g]? =w.heap[g]? :=by
 rcases h with h|⟨_,lo,hi,h1,h2,h3⟩
 ·have:=hS g h;exact r.uP g (by have:=r.base;omega) fun id b hb hn he=>by have:=(r.low id b hb hn).1;omega
 ·exact r.uP g (by have:=r.oe lo hi h1;omega) fun id b hb hn he=>r.jo lo hi h1 id b hb hn ⟨by omega,by omega⟩
theorem Rel.not(r:Rel H nx iv B w O w')(hS:∀g,S g->g<B)(h:Cv S B iv g):∀id b,dB H id=some b->(O id).nil=false->(O id).g≠g:=by
 rcases h with h|⟨_,lo,hi,h1,h2,h3⟩
 ·have:=hS g h;exact fun id b hb hn he=>by have:=(r.low id b hb hn).1;omega
 ·exact fun id b hb hn he=>r.jo lo hi h1 id b hb hn ⟨by omega,by omega⟩
theorem Nw.cv(h:Nw (Cv S B iv) w' w1 g)(hB:B<=w'.heap.size):Cv S B ((w'.heap.size,w1.heap.size)::iv) g:=by
 rcases h with h|h
 ·exact h.cons
 ·exact .inr ⟨by omega,_,_,aG,h.1,h.2⟩
theorem Cv.nw{w0:World}(h:Cv S w0.heap.size iv g)(r:Rel H nx iv w0.heap.size w O w'):Nw S w0 w' g:=by
 rcases h with h|⟨h0,lo,hi,h1,_,h3⟩
 ·exact .inl h
 ·exact .inr ⟨h0,by have:=r.oe lo hi h1;have:=r.size;omega⟩
structure dL(w:World)(S:Nat->Prop)(v:Value)(ls:List Nat):Prop where
 lm:Lm ls
 le:ls.length<=9223372036854775807
 sl:∃a c,v= .slice a ls.length c∧ls.length<=c∧∀(j:Nat) x,ls[j]? =some x->∃ad,a=some ad∧S ad.block∧w.cell? (ad.add j)=some (.int .u32 x)
theorem dH(ad:Addr)(j:Nat):(ad.add j).block=ad.block:=by
 unfold Addr.add;split<;>rfl
theorem dL.cI(h:dL w S v ls)(hk:∀g,S g->w2.heap[g]? =w.heap[g]?):dL w2 S v ls:=by
 obtain⟨a,c,h1,SX,h2⟩:=h.sl;refine⟨h.lm,h.le,a,c,h1,SX,fun j x hx=>?_⟩;obtain⟨ad,h3,h4,h5⟩:=h2 j x hx;exact⟨ad,h3,h4,by rw[cH (hk _ (by rw[dH];exact h4))];exact h5⟩
theorem dL.cJ(h:dL w S v ls)(hk:∀g,S g->S' g):dL w S' v ls:=by
 obtain⟨a,c,h1,SX,h2⟩:=h.sl;refine⟨h.lm,h.le,a,c,h1,SX,fun j x hx=>?_⟩;obtain⟨ad,h3,h4,h5⟩:=h2 j x hx;exact⟨ad,h3,hk _ h4,h5⟩
theorem dL.rel(h:dL w (Cv S B iv) v ls)(r:Rel H nx iv B w O w')(hS:∀g,S g->g<B):dL w' (Cv S B iv) v ls:=h.cI fun _g hg=>Rel.same r hS hg
theorem dL.nil(w:World)(S:Nat->Prop):dL w S (.slice none 0 0) []:=⟨by simp[Lm],by simp,none,0,rfl,aF _,by simp⟩
def dx(w:World)(S:Nat->Prop)(v:Value)(n:Nat):Prop:=∃ls,dL w S v ls∧Nz ls∧val ls=n
theorem dx.cI(h:dx w S v n)(hk:∀g,S g->w2.heap[g]? =w.heap[g]?):dx w2 S v n:=by
 obtain⟨ls,h1,h2,h3⟩:=h;exact⟨ls,h1.cI hk,h2,h3⟩
theorem dx.cJ(h:dx w S v n)(hk:∀g,S g->S' g):dx w S' v n:=by
 obtain⟨ls,h1,h2,h3⟩:=h;exact⟨ls,h1.cJ hk,h2,h3⟩
theorem dx.nil(w:World)(S:Nat->Prop):dx w S (.slice none 0 0) 0:=⟨[],dL.nil w S,by simp[Nz],rfl⟩
end
abbrev iZ(z:Int):SV:=.o (.v (.int .i64 z))
abbrev iN(n:Nat):SV:=.o (.v (.int .i64 (n:Int)))
abbrev sV(a:Option Addr)(n c:Nat):SV:=.o (.v (.slice a n c))
abbrev pP(i j:Nat):SV:=.o (.p i j)
theorem rtn{H:Hp}{nx:Nat}{iv:Iv}{w:World}(hw:eB w.heap.size w w1)(h:∀O w',Rel H nx iv w.heap.size w1 O w'->P (f O) w'):∀O w',Rel H nx iv w.heap.size w1 O w'->eG w P (.returned (f O)) w':=fun O w' r=>⟨_,rfl,hw.tr r.cQ,h O w' r⟩
abbrev FF:Nat->Prop:=fun _=>False
theorem bR(w:World):eB w.heap.size w w:=eB.refl
abbrev Nf(w w2:World):Nat->Prop:=Nw (fun _=>False) w w2
abbrev Cf(w:World):Iv->Nat->Prop:=Cv (fun _=>False) w.heap.size
section
variable{S:Nat->Prop}{H:Hp}{nx:Nat}{iv:Iv}{B i n:Nat}{w w1 w':World}{O:Nat->Sx.dg}{ad:Addr}{cs:List Value}{x:Value}
theorem kS(hw:eB B w w1)(r:Rel H nx iv B w1 O w')(hS:∀g,S g->g<B):∀g,S g->w'.heap[g]? =w.heap[g]? :=fun g hg=>(hw.tr r.cQ).block g (hS g hg)
theorem oS(hS:∀g,S g->g<B)(r:Rel H nx iv B w O w'):∀g,S g->g<w'.heap.size:=fun g hg=>by have:=hS g hg;have:=r.base;have:=r.size;omega
theorem rdO(hl:∀(j:Nat) u,cs[j]? =some u->S ad.block∧w.cell? ((ad.add (i*n)).add j)=some u)(hw:eB B w w1)(hS:∀g,S g->g<B):∀O w',Rel H nx iv B w1 O w'->∀(j:Nat) u,cs[j]? =some u->w'.cell? ((ad.add ((i:Int).toNat*n)).add j)=some u:=fun O w' r j u hu=>by
 obtain⟨k1,k2⟩:=hl j u hu;rw[aE,cH (w:=w) (w2:=w') (by rw[dH,dH];exact(hw.tr r.cQ).block _ (hS _ k1))];exact k2
theorem rd1(hl:w.cell? (ad.add (i*n))=some x)(hw:eB B w w1)(hb:ad.block<B):∀O w',Rel H nx iv B w1 O w'->w'.cell? (ad.add ((i:Int).toNat*n))=some x:=fun O w' r=>by
 rw[aE,cH (w:=w) (w2:=w') (by rw[dH];exact(hw.tr r.cQ).block _ hb)];exact hl
end
end Go.Ex
namespace Go.Ex
open Go Go.Sx Go.Proofs
variable{args:Array Value}{R:Ending->World->Prop}{ls:List Nat}{k n:Nat}{S:Nat->Prop}{O:Nat->Sx.dg}{v:Value}{w:World}
noncomputable abbrev PG:Program:=Tryz.prog
def slT(e:Nat):TI:={size:=1,bytes:=24,zero:=[.slice none 0 0],agg:=false,tag:=4,elem:=e}
def Nh:List (Nat×TI):=[
 (3,{size:=1,bytes:=8,zero:=[.int .i64 0],agg:=false,tag:=1,ik:=.i64}),
 (4,{size:=1,bytes:=1,zero:=[.bool false],agg:=false,tag:=2}),
 (47,{size:=4,bytes:=64,zero:=[.bool false,.slice none 0 0,.bool false,.slice none 0 0],agg:=true,tag:=5,fields:=[(0,45),(2,45)]}),
 (31,slT 47),
 (26,{size:=3,bytes:=72,zero:=[.slice none 0 0,.slice none 0 0,.slice none 0 0],agg:=true,tag:=5,fields:=[(0,22),(1,23),(2,24)]}),
 (32,{size:=1,bytes:=8,zero:=[.int .i64 0],agg:=false,tag:=1,ik:=.i64}),
 (92,slT 3),
 (45,{size:=2,bytes:=32,zero:=[.bool false,.slice none 0 0],agg:=true,tag:=5,fields:=[(0,4),(1,43)]}),
 (226,slT 220),
 (53,slT 31),
 (220,{size:=1,bytes:=4,zero:=[.int .u32 0],agg:=false,tag:=1,ik:=.u32}),
 (27,slT 147),
 (228,{size:=2,bytes:=32,zero:=[.bool false,.slice none 0 0],agg:=true,tag:=5,fields:=[(0,4),(1,226)]}),
 (253,{size:=1,bytes:=8,zero:=[.int .u64 0],agg:=false,tag:=1,ik:=.u64}),
 (151,{size:=2,bytes:=32,zero:=[.slice none 0 0,.int .i64 0],agg:=true,tag:=5,fields:=[(0,53),(1,3)]}),
 (79,slT 84),
 (230,{size:=4,bytes:=64,zero:=[.bool false,.slice none 0 0,.bool false,.slice none 0 0],agg:=true,tag:=5,fields:=[(0,228),(2,228)]}),
 (23,slT 143),
 (98,slT 123),
 (147,{size:=4,bytes:=32,zero:=[.int .i64 0,.int .i64 0,.int .i64 0,.int .i64 0],agg:=true,tag:=5,fields:=[(0,3),(1,3),(2,3),(3,3)]}),
 (91,slT 27),
 (22,slT 169),
 (64,slT 92),
 (24,slT 145),
 (43,slT 220),
 (169,{size:=3,bytes:=24,zero:=[.int .i64 0,.int .i64 0,.int .i64 0],agg:=true,tag:=5,fields:=[(0,3),(1,3),(2,3)]}),
 (143,{size:=6,bytes:=80,zero:=[.int .i64 0,.int .i64 0,.bool false,.slice none 0 0,.bool false,.slice none 0 0],agg:=true,tag:=5,fields:=[(0,3),(1,3),(2,47)]}),
 (123,{size:=8,bytes:=128,zero:=[.bool false,.slice none 0 0,.bool false,.slice none 0 0,.bool false,.slice none 0 0,.bool false,.slice none 0 0],agg:=true,tag:=5,fields:=[(0,47),(4,47)]}),
 (84,{size:=8,bytes:=128,zero:=[.bool false,.slice none 0 0,.bool false,.slice none 0 0,.bool false,.slice none 0 0,.bool false,.slice none 0 0],agg:=true,tag:=5,fields:=[(0,47),(4,47)]}),
 (154,{size:=4,bytes:=80,zero:=[.slice none 0 0,.int .i64 0,.slice none 0 0,.slice none 0 0],agg:=true,tag:=5,fields:=[(0,151),(2,92),(3,92)]}),
 (68,{size:=3,bytes:=24,zero:=[.int .i64 0,.int .i64 0,.int .i64 0],agg:=true,tag:=5,fields:=[(0,3),(1,3),(2,3)]}),
 (145,{size:=6,bytes:=80,zero:=[.int .i64 0,.int .i64 0,.bool false,.slice none 0 0,.bool false,.slice none 0 0],agg:=true,tag:=5,fields:=[(0,3),(1,3),(2,47)]}),
 (189,{size:=3,bytes:=24,zero:=[.int .i64 0,.int .i64 0,.int .i64 0],agg:=true,tag:=6,AP:=3,elem:=3}),
 (125,{size:=10,bytes:=176,zero:=[.bool false,.slice none 0 0,.bool false,.slice none 0 0,.bool false,.slice none 0 0,.bool false,.slice none 0 0,.slice none 0 0,.slice none 0 0],agg:=true,tag:=5,fields:=[(0,123),(8,92),(9,92)]}),
 (115,slT 125),
 (106,{size:=3,bytes:=56,zero:=[.int .i64 0,.slice none 0 0,.slice none 0 0],agg:=true,tag:=5,fields:=[(0,3),(1,31),(2,31)]}),
 (254,{size:=1,bytes:=8,zero:=[.int .u64 0],agg:=false,tag:=1,ik:=.u64}),
 (187,{size:=2,bytes:=16,zero:=[.int .i64 0,.int .i64 0],agg:=true,tag:=5,fields:=[(0,3),(1,3)]}),
 (185,{size:=1,bytes:=8,zero:=[.map none],agg:=false,tag:=0}),
 (87,{size:=2,bytes:=48,zero:=[.slice none 0 0,.slice none 0 0],agg:=true,tag:=6,AP:=2,elem:=27}),
 (130,{size:=2,bytes:=48,zero:=[.slice none 0 0,.slice none 0 0],agg:=true,tag:=5,fields:=[(0,92),(1,79)]}),
 (9,{size:=1,bytes:=16,zero:=[.string ⟨#[]⟩],agg:=false,tag:=3}),
 (204,{size:=1,bytes:=8,zero:=[.pointer none],agg:=false,tag:=7}),
 (224,slT 4),
 (88,{size:=2,bytes:=16,zero:=[.int .i64 0,.int .i64 0],agg:=true,tag:=6,AP:=2,elem:=3}),
 (194,{size:=80,bytes:=640,zero:=[.int .i64 0,.int .i64 0,.int .i64 0,.int .i64 0,.int .i64 0,.int .i64 0,.int .i64 0,.int .i64 0,.int .i64 0,.int .i64 0,.int .i64 0,.int .i64 0,.int .i64 0,.int .i64 0,.int .i64 0,.int .i64 0,.int .i64 0,.int .i64 0,.int .i64 0,.int .i64 0,.int .i64 0,.int .i64 0,.int .i64 0,.int .i64 0,.int .i64 0,.int .i64 0,.int .i64 0,.int .i64 0,.int .i64 0,.int .i64 0,.int .i64 0,.int .i64 0,.int .i64 0,.int .i64 0,.int .i64 0,.int .i64 0,.int .i64 0,.int .i64 0,.int .i64 0,.int .i64 0,.int .i64 0,.int .i64 0,.int .i64 0,.int .i64 0,.int .i64 0,.int .i64 0,.int .i64 0,.int .i64 0,.int .i64 0,.int .i64 0,.int .i64 0,.int .i64 0,.int .i64 0,.int .i64 0,.int .i64 0,.int .i64 0,.int .i64 0,.int .i64 0,.int .i64 0,.int .i64 0,.int .i64 0,.int .i64 0,.int .i64 0,.int .i64 0,.int .i64 0,.int .i64 0,.int .i64 0,.int .i64 0,.int .i64 0,.int .i64 0,.int .i64 0,.int .i64 0,.int .i64 0,.int .i64 0,.int .i64 0,.int .i64 0,.int .i64 0,.int .i64 0,.int .i64 0,.int .i64 0],agg:=true,tag:=6,AP:=20,elem:=147}),
 (42,{size:=1,bytes:=8,zero:=[.nilFunc],agg:=false,tag:=0}),
 (195,{size:=1,bytes:=8,zero:=[.pointer none],agg:=false,tag:=7}),
 (199,{size:=1,bytes:=8,zero:=[.nilFunc],agg:=false,tag:=0}),
 (5,{size:=1,bytes:=1,zero:=[.int .u8 0],agg:=false,tag:=1,ik:=.u8}),
 (8,{size:=4,bytes:=24,zero:=[.int .i64 0,.int .i64 0,.bool false,.int .u8 0],agg:=true,tag:=5,fields:=[(0,2),(1,3),(2,4),(3,6)]}),
 (10,{size:=1,bytes:=16,zero:=[.string ⟨#[]⟩],agg:=false,tag:=3}),
 (11,{size:=1,bytes:=16,zero:=[.string ⟨#[]⟩],agg:=false,tag:=3}),
 (14,{size:=2,bytes:=24,zero:=[.string ⟨#[]⟩,.int .u64 0],agg:=true,tag:=5,fields:=[(0,9),(1,12)]}),
 (15,{size:=1,bytes:=8,zero:=[.pointer none],agg:=false,tag:=7}),
 (16,{size:=1,bytes:=8,zero:=[.pointer none],agg:=false,tag:=7}),
 (19,{size:=1,bytes:=8,zero:=[.pointer none],agg:=true,tag:=5,fields:=[(0,17)]}),
 (17,{size:=1,bytes:=8,zero:=[.pointer none],agg:=false,tag:=7}),
 (276,{size:=1,bytes:=1,zero:=[.int .u8 0],agg:=false,tag:=1,ik:=.u8}),
 (2,{size:=1,bytes:=8,zero:=[.int .i64 0],agg:=false,tag:=1,ik:=.i64}),
 (6,{size:=1,bytes:=1,zero:=[.int .u8 0],agg:=false,tag:=1,ik:=.u8}),
 (12,{size:=1,bytes:=8,zero:=[.int .u64 0],agg:=false,tag:=1,ik:=.u64})]
def τ:mg:=xY Nh
theorem hτ:fH PG τ:=M5 (l:=Nh) (by kernel_rfl)
theorem dm:PG.follows .mixedOrders=true:=by rfl
noncomputable def bd (f:Func):Code:=match f.body with
 |some c=>c
 |none=>.skip
theorem dI{f:FuncId}{fn:Func}(hf:PG.funcs[f]? =some fn)(hb:fn.body=some (bd fn))(Vf:(fn.name== "runtime.NumGoroutine")=false)
  (hn:args.size<=fn.ntmps) (OJ:codeOk fn.ntmps (bd fn)=true) (h:mT PG τ w.heap.size (bd fn) (fW 0 args.toList) [] 0 [] w (Ma τ w.heap.size fn.results.toList R)):eD PG f args w R:=
 ⟨H3 hf hb Vf,Df hτ hf hb hn OJ h⟩
abbrev T.int:Nat:=3
abbrev T.bool:Nat:=4
abbrev T.string:Nat:=9
abbrev T.Frame:Nat:=26
abbrev T.fa:Nat:=31
abbrev T.Int:Nat:=45
abbrev T.Rat:Nat:=47
abbrev T.zE:Nat:=68
abbrev T.Lint:Nat:=92
abbrev T.OC:Nat:=143
abbrev T.xf:Nat:=145
abbrev T.aAH:Nat:=147
abbrev T.dq:Nat:=151
abbrev T.dT:Nat:=154
abbrev T.Node:Nat:=169
abbrev T.xA:Nat:=185
abbrev T.CY:Nat:=187
abbrev T.uint32:Nat:=220
abbrev T.nat:Nat:=226
abbrev T.number:Nat:=228
abbrev T.EN:Nat:=230
abbrev T.row:Nat:=0
abbrev N.ja:Nat:=3
abbrev N.pH:Nat:=15
abbrev N.B1:Nat:=16
abbrev N.wD:Nat:=17
abbrev N.mx:Nat:=18
abbrev N.oV:Nat:=19
abbrev N.pI:Nat:=20
abbrev N.pJ:Nat:=21
abbrev N.pK:Nat:=22
abbrev N.wE:Nat:=23
abbrev N.wF:Nat:=25
abbrev N.zF:Nat:=26
abbrev N.pL:Nat:=27
abbrev N.my:Nat:=29
abbrev N.pM:Nat:=31
abbrev N.rk:Nat:=32
abbrev N.jb:Nat:=34
abbrev N.tJ:Nat:=35
abbrev N.B2:Nat:=37
abbrev N.qn:Nat:=39
abbrev N.qo:Nat:=42
abbrev N.lI:Nat:=43
abbrev N.tK:Nat:=45
abbrev N.wG:Nat:=46
abbrev N.wH:Nat:=69
abbrev N.qp:Nat:=72
abbrev N.B3:Nat:=74
abbrev N.rn:Nat:=75
abbrev N.EO:Nat:=76
abbrev N.qq:Nat:=80
abbrev N.wI:Nat:=81
abbrev N.tL:Nat:=82
abbrev N.oW:Nat:=83
abbrev N.fZ:Nat:=84
abbrev N.pN:Nat:=85
abbrev N.pO:Nat:=86
abbrev N.jF:Nat:=87
abbrev N.jA:Nat:=88
abbrev N.pQ:Nat:=89
abbrev N.tM:Nat:=90
abbrev N.pR:Nat:=91
abbrev N.qt:Nat:=92
abbrev N.pS:Nat:=93
abbrev N.pT:Nat:=94
abbrev N.zG:Nat:=95
abbrev N.pU:Nat:=96
abbrev N.wJ:Nat:=98
abbrev N.wK:Nat:=99
abbrev N.tN:Nat:=100
abbrev N.mZ:Nat:=101
abbrev N.tO:Nat:=103
abbrev N.rp:Nat:=105
abbrev N.tP:Nat:=106
abbrev N.zH:Nat:=108
abbrev N.wL:Nat:=109
abbrev N.tQ:Nat:=110
abbrev N.B4:Nat:=111
abbrev N.zI:Nat:=112
abbrev N.pV:Nat:=113
abbrev N.gS:Nat:=114
abbrev N.pW:Nat:=115
abbrev N.fQ:Nat:=116
abbrev N.wM:Nat:=117
abbrev N.uh:Nat:=118
abbrev N.lJ:Nat:=119
abbrev N.mz:Nat:=120
abbrev N.ry:Nat:=121
abbrev N.ui:Nat:=125
abbrev N.tR:Nat:=132
abbrev N.uj:Nat:=139
abbrev N.kJ:Nat:=140
abbrev N.qu:Nat:=141
abbrev N.tS:Nat:=142
abbrev N.wN:Nat:=143
abbrev N.tT:Nat:=144
abbrev N.wO:Nat:=145
abbrev N.nk:Nat:=146
abbrev N.kD:Nat:=147
abbrev N.lK:Nat:=148
abbrev N.wP:Nat:=149
abbrev N.uo:Nat:=150
abbrev N.B5:Nat:=152
abbrev N.nm:Nat:=153
abbrev N.qv:Nat:=154
abbrev N.wQ:Nat:=155
abbrev N.qw:Nat:=156
abbrev N.qz:Nat:=157
abbrev N.wR:Nat:=158
abbrev N.uq:Nat:=159
abbrev N.ma:Nat:=161
abbrev N.EP:Nat:=162
abbrev N.fo:Nat:=163
abbrev N.wS:Nat:=164
abbrev N.lL:Nat:=165
abbrev N.mA:Nat:=166
abbrev N.uu:Nat:=168
abbrev N.kU:Nat:=174
abbrev N.kV:Nat:=175
abbrev N.wT:Nat:=176
abbrev N.tU:Nat:=177
abbrev N.zJ:Nat:=178
abbrev N.zK:Nat:=179
abbrev N.B6:Nat:=180
abbrev N.rA:Nat:=181
abbrev N.tV:Nat:=182
abbrev N.tW:Nat:=183
abbrev N.kK:Nat:=184
abbrev N.wU:Nat:=185
abbrev N.kW:Nat:=186
abbrev N.mB:Nat:=187
abbrev N.zL:Nat:=188
abbrev N.mD:Nat:=189
abbrev N.wV:Nat:=190
abbrev N.zM:Nat:=191
abbrev N.lM:Nat:=192
abbrev N.nA:Nat:=193
abbrev N.kL:Nat:=194
abbrev N.mE:Nat:=195
abbrev N.mF:Nat:=196
abbrev N.mG:Nat:=197
abbrev N.lN:Nat:=198
abbrev N.tX:Nat:=199
abbrev N.nB:Nat:=200
abbrev N.oX:Nat:=201
abbrev N.pX:Nat:=202
abbrev N.rB:Nat:=203
abbrev N.oY:Nat:=204
abbrev N.fw:Nat:=205
abbrev N.oZ:Nat:=206
abbrev N.kX:Nat:=207
abbrev N.mH:Nat:=208
abbrev N.o0:Nat:=209
abbrev N.pY:Nat:=210
abbrev N.zN:Nat:=211
abbrev N.zO:Nat:=212
abbrev N.zP:Nat:=213
abbrev N.pZ:Nat:=214
abbrev Ent(g:Nat)(f:Func):Prop:=∀{args:Array Value} {w:World} {R:Ending->World->Prop},args.size<=f.ntmps->mT PG τ w.heap.size (bd f) (fW 0 args.toList) [] 0 [] w (Ma τ w.heap.size f.results.toList R)->eD PG g args w R
theorem l9:Ent N.ja Tryz.f3:=fun hn h=>dI Tryz.func3 (by rfl) (by rfl) hn (by rfl) h
theorem zQ:Ent N.pH Tryz.f15:=fun hn h=>dI Tryz.func15 (by rfl) (by rfl) hn (by rfl) h
theorem CZ:Ent N.B1 Tryz.f16:=fun hn h=>dI Tryz.func16 (by rfl) (by rfl) hn (by rfl) h
theorem zR:Ent N.wD Tryz.f17:=fun hn h=>dI Tryz.func17 (by rfl) (by rfl) hn (by rfl) h
theorem qd:Ent N.mx Tryz.f18:=fun hn h=>dI Tryz.func18 (by rfl) (by rfl) hn (by rfl) h
theorem rz:Ent N.oV Tryz.f19:=fun hn h=>dI Tryz.func19 (by rfl) (by rfl) hn (by rfl) h
theorem tY:Ent N.pI Tryz.f20:=fun hn h=>dI Tryz.func20 (by rfl) (by rfl) hn (by rfl) h
theorem tZ:Ent N.pJ Tryz.f21:=fun hn h=>dI Tryz.func21 (by rfl) (by rfl) hn (by rfl) h
theorem ta:Ent N.pK Tryz.f22:=fun hn h=>dI Tryz.func22 (by rfl) (by rfl) hn (by rfl) h
theorem zS:Ent N.wE Tryz.f23:=fun hn h=>dI Tryz.func23 (by rfl) (by rfl) hn (by rfl) h
theorem zT:Ent N.wF Tryz.f25:=fun hn h=>dI Tryz.func25 (by rfl) (by rfl) hn (by rfl) h
theorem AV:Ent N.zF Tryz.f26:=fun hn h=>dI Tryz.func26 (by rfl) (by rfl) hn (by rfl) h
theorem tc:Ent N.pL Tryz.f27:=fun hn h=>dI Tryz.func27 (by rfl) (by rfl) hn (by rfl) h
theorem qe:Ent N.my Tryz.f29:=fun hn h=>dI Tryz.func29 (by rfl) (by rfl) hn (by rfl) h
theorem p8:Ent N.pM Tryz.f31:=fun hn h=>dI Tryz.func31 (by rfl) (by rfl) hn (by rfl) h
theorem AW:Ent N.rk Tryz.f32:=fun hn h=>dI Tryz.func32 (by rfl) (by rfl) hn (by rfl) h
theorem xB:Ent N.jb Tryz.f34:=fun hn h=>dI Tryz.func34 (by rfl) (by rfl) hn (by rfl) h
theorem xC:Ent N.tJ Tryz.f35:=fun hn h=>dI Tryz.func35 (by rfl) (by rfl) hn (by rfl) h
theorem Ca:Ent N.B2 Tryz.f37:=fun hn h=>dI Tryz.func37 (by rfl) (by rfl) hn (by rfl) h
theorem uv:Ent N.qn Tryz.f39:=fun hn h=>dI Tryz.func39 (by rfl) (by rfl) hn (by rfl) h
theorem uw:Ent N.qo Tryz.f42:=fun hn h=>dI Tryz.func42 (by rfl) (by rfl) hn (by rfl) h
theorem o7:Ent N.lI Tryz.f43:=fun hn h=>dI Tryz.func43 (by rfl) (by rfl) hn (by rfl) h
theorem xD:Ent N.tK Tryz.f45:=fun hn h=>dI Tryz.func45 (by rfl) (by rfl) hn (by rfl) h
theorem zU:Ent N.wG Tryz.f46:=fun hn h=>dI Tryz.func46 (by rfl) (by rfl) hn (by rfl) h
theorem zV:Ent N.wH Tryz.f69:=fun hn h=>dI Tryz.func69 (by rfl) (by rfl) hn (by rfl) h
theorem ux:Ent N.qp Tryz.f72:=fun hn h=>dI Tryz.func72 (by rfl) (by rfl) hn (by rfl) h
theorem Cb:Ent N.B3 Tryz.f74:=fun hn h=>dI Tryz.func74 (by rfl) (by rfl) hn (by rfl) h
theorem rC:Ent N.rn Tryz.f75:=fun hn h=>dI Tryz.func75 (by rfl) (by rfl) hn (by rfl) h
theorem ER:Ent N.EO Tryz.f76:=fun hn h=>dI Tryz.func76 (by rfl) (by rfl) hn (by rfl) h
theorem uy:Ent N.qq Tryz.f80:=fun hn h=>dI Tryz.func80 (by rfl) (by rfl) hn (by rfl) h
theorem zW:Ent N.wI Tryz.f81:=fun hn h=>dI Tryz.func81 (by rfl) (by rfl) hn (by rfl) h
theorem xE:Ent N.tL Tryz.f82:=fun hn h=>dI Tryz.func82 (by rfl) (by rfl) hn (by rfl) h
theorem sA:Ent N.oW Tryz.f83:=fun hn h=>dI Tryz.func83 (by rfl) (by rfl) hn (by rfl) h
theorem jZ:Ent N.fZ Tryz.f84:=fun hn h=>dI Tryz.func84 (by rfl) (by rfl) hn (by rfl) h
theorem td:Ent N.pN Tryz.f85:=fun hn h=>dI Tryz.func85 (by rfl) (by rfl) hn (by rfl) h
theorem te:Ent N.pO Tryz.f86:=fun hn h=>dI Tryz.func86 (by rfl) (by rfl) hn (by rfl) h
theorem kf:Ent N.jF Tryz.f87:=fun hn h=>dI Tryz.func87 (by rfl) (by rfl) hn (by rfl) h
theorem np:Ent N.jA Tryz.f88:=fun hn h=>dI Tryz.func88 (by rfl) (by rfl) hn (by rfl) h
theorem tf:Ent N.pQ Tryz.f89:=fun hn h=>dI Tryz.func89 (by rfl) (by rfl) hn (by rfl) h
theorem xF:Ent N.tM Tryz.f90:=fun hn h=>dI Tryz.func90 (by rfl) (by rfl) hn (by rfl) h
theorem th:Ent N.pR Tryz.f91:=fun hn h=>dI Tryz.func91 (by rfl) (by rfl) hn (by rfl) h
theorem uz:Ent N.qt Tryz.f92:=fun hn h=>dI Tryz.func92 (by rfl) (by rfl) hn (by rfl) h
theorem tj:Ent N.pS Tryz.f93:=fun hn h=>dI Tryz.func93 (by rfl) (by rfl) hn (by rfl) h
theorem p9:Ent N.pT Tryz.f94:=fun hn h=>dI Tryz.func94 (by rfl) (by rfl) hn (by rfl) h
theorem AX:Ent N.zG Tryz.f95:=fun hn h=>dI Tryz.func95 (by rfl) (by rfl) hn (by rfl) h
theorem zX:Ent N.pU Tryz.f96:=fun hn h=>dI Tryz.func96 (by rfl) (by rfl) hn (by rfl) h
theorem zY:Ent N.wJ Tryz.f98:=fun hn h=>dI Tryz.func98 (by rfl) (by rfl) hn (by rfl) h
theorem zZ:Ent N.wK Tryz.f99:=fun hn h=>dI Tryz.func99 (by rfl) (by rfl) hn (by rfl) h
theorem xG:Ent N.tN Tryz.f100:=fun hn h=>dI Tryz.func100 (by rfl) (by rfl) hn (by rfl) h
theorem vA:Ent N.mZ Tryz.f101:=fun hn h=>dI Tryz.func101 (by rfl) (by rfl) hn (by rfl) h
theorem xH:Ent N.tO Tryz.f103:=fun hn h=>dI Tryz.func103 (by rfl) (by rfl) hn (by rfl) h
theorem AY:Ent N.rp Tryz.f105:=fun hn h=>dI Tryz.func105 (by rfl) (by rfl) hn (by rfl) h
theorem xI:Ent N.tP Tryz.f106:=fun hn h=>dI Tryz.func106 (by rfl) (by rfl) hn (by rfl) h
theorem AZ:Ent N.zH Tryz.f108:=fun hn h=>dI Tryz.func108 (by rfl) (by rfl) hn (by rfl) h
theorem z6:Ent N.wL Tryz.f109:=fun hn h=>dI Tryz.func109 (by rfl) (by rfl) hn (by rfl) h
theorem xJ:Ent N.tQ Tryz.f110:=fun hn h=>dI Tryz.func110 (by rfl) (by rfl) hn (by rfl) h
theorem Cc:Ent N.B4 Tryz.f111:=fun hn h=>dI Tryz.func111 (by rfl) (by rfl) hn (by rfl) h
theorem Aa:Ent N.zI Tryz.f112:=fun hn h=>dI Tryz.func112 (by rfl) (by rfl) hn (by rfl) h
theorem tk:Ent N.pV Tryz.f113:=fun hn h=>dI Tryz.func113 (by rfl) (by rfl) hn (by rfl) h
theorem j0:Ent N.gS Tryz.f114:=fun hn h=>dI Tryz.func114 (by rfl) (by rfl) hn (by rfl) h
theorem tm:Ent N.pW Tryz.f115:=fun hn h=>dI Tryz.func115 (by rfl) (by rfl) hn (by rfl) h
theorem iA:Ent N.fQ Tryz.f116:=fun hn h=>dI Tryz.func116 (by rfl) (by rfl) hn (by rfl) h
theorem z7:Ent N.wM Tryz.f117:=fun hn h=>dI Tryz.func117 (by rfl) (by rfl) hn (by rfl) h
theorem Cd:Ent N.uh Tryz.f118:=fun hn h=>dI Tryz.func118 (by rfl) (by rfl) hn (by rfl) h
theorem o8:Ent N.lJ Tryz.f119:=fun hn h=>dI Tryz.func119 (by rfl) (by rfl) hn (by rfl) h
theorem qf:Ent N.mz Tryz.f120:=fun hn h=>dI Tryz.func120 (by rfl) (by rfl) hn (by rfl) h
theorem Ab:Ent N.ry Tryz.f121:=fun hn h=>dI Tryz.func121 (by rfl) (by rfl) hn (by rfl) h
theorem Ce:Ent N.ui Tryz.f125:=fun hn h=>dI Tryz.func125 (by rfl) (by rfl) hn (by rfl) h
theorem xK:Ent N.tR Tryz.f132:=fun hn h=>dI Tryz.func132 (by rfl) (by rfl) hn (by rfl) h
theorem Cg:Ent N.uj Tryz.f139:=fun hn h=>dI Tryz.func139 (by rfl) (by rfl) hn (by rfl) h
theorem nC:Ent N.kJ Tryz.f140:=fun hn h=>dI Tryz.func140 (by rfl) (by rfl) hn (by rfl) h
theorem vB:Ent N.qu Tryz.f141:=fun hn h=>dI Tryz.func141 (by rfl) (by rfl) hn (by rfl) h
theorem xL:Ent N.tS Tryz.f142:=fun hn h=>dI Tryz.func142 (by rfl) (by rfl) hn (by rfl) h
theorem z8:Ent N.wN Tryz.f143:=fun hn h=>dI Tryz.func143 (by rfl) (by rfl) hn (by rfl) h
theorem xM:Ent N.tT Tryz.f144:=fun hn h=>dI Tryz.func144 (by rfl) (by rfl) hn (by rfl) h
theorem zc:Ent N.wO Tryz.f145:=fun hn h=>dI Tryz.func145 (by rfl) (by rfl) hn (by rfl) h
theorem xN:Ent N.nk Tryz.f146:=fun hn h=>dI Tryz.func146 (by rfl) (by rfl) hn (by rfl) h
theorem vC:Ent N.kD Tryz.f147:=fun hn h=>dI Tryz.func147 (by rfl) (by rfl) hn (by rfl) h
theorem o9:Ent N.lK Tryz.f148:=fun hn h=>dI Tryz.func148 (by rfl) (by rfl) hn (by rfl) h
theorem zd:Ent N.wP Tryz.f149:=fun hn h=>dI Tryz.func149 (by rfl) (by rfl) hn (by rfl) h
theorem Ch:Ent N.uo Tryz.f150:=fun hn h=>dI Tryz.func150 (by rfl) (by rfl) hn (by rfl) h
theorem Ci:Ent N.B5 Tryz.f152:=fun hn h=>dI Tryz.func152 (by rfl) (by rfl) hn (by rfl) h
theorem xO:Ent N.nm Tryz.f153:=fun hn h=>dI Tryz.func153 (by rfl) (by rfl) hn (by rfl) h
theorem vD:Ent N.qv Tryz.f154:=fun hn h=>dI Tryz.func154 (by rfl) (by rfl) hn (by rfl) h
theorem zf:Ent N.wQ Tryz.f155:=fun hn h=>dI Tryz.func155 (by rfl) (by rfl) hn (by rfl) h
theorem vE:Ent N.qw Tryz.f156:=fun hn h=>dI Tryz.func156 (by rfl) (by rfl) hn (by rfl) h
theorem vF:Ent N.qz Tryz.f157:=fun hn h=>dI Tryz.func157 (by rfl) (by rfl) hn (by rfl) h
theorem zg:Ent N.wR Tryz.f158:=fun hn h=>dI Tryz.func158 (by rfl) (by rfl) hn (by rfl) h
theorem Cj:Ent N.uq Tryz.f159:=fun hn h=>dI Tryz.func159 (by rfl) (by rfl) hn (by rfl) h
theorem vG:Ent N.ma Tryz.f161:=fun hn h=>dI Tryz.func161 (by rfl) (by rfl) hn (by rfl) h
theorem ES:Ent N.EP Tryz.f162:=fun hn h=>dI Tryz.func162 (by rfl) (by rfl) hn (by rfl) h
theorem iQ:Ent N.fo Tryz.f163:=fun hn h=>dI Tryz.func163 (by rfl) (by rfl) hn (by rfl) h
theorem zh:Ent N.wS Tryz.f164:=fun hn h=>dI Tryz.func164 (by rfl) (by rfl) hn (by rfl) h
theorem oa:Ent N.lL Tryz.f165:=fun hn h=>dI Tryz.func165 (by rfl) (by rfl) hn (by rfl) h
theorem pc:Ent N.mA Tryz.f166:=fun hn h=>dI Tryz.func166 (by rfl) (by rfl) hn (by rfl) h
theorem Ck:Ent N.uu Tryz.f168:=fun hn h=>dI Tryz.func168 (by rfl) (by rfl) hn (by rfl) h
theorem ns:Ent N.kU Tryz.f174:=fun hn h=>dI Tryz.func174 (by rfl) (by rfl) hn (by rfl) h
theorem nt:Ent N.kV Tryz.f175:=fun hn h=>dI Tryz.func175 (by rfl) (by rfl) hn (by rfl) h
theorem zi:Ent N.wT Tryz.f176:=fun hn h=>dI Tryz.func176 (by rfl) (by rfl) hn (by rfl) h
theorem xP:Ent N.tU Tryz.f177:=fun hn h=>dI Tryz.func177 (by rfl) (by rfl) hn (by rfl) h
theorem Ac:Ent N.zJ Tryz.f178:=fun hn h=>dI Tryz.func178 (by rfl) (by rfl) hn (by rfl) h
theorem Ad:Ent N.zK Tryz.f179:=fun hn h=>dI Tryz.func179 (by rfl) (by rfl) hn (by rfl) h
theorem Cl:Ent N.B6 Tryz.f180:=fun hn h=>dI Tryz.func180 (by rfl) (by rfl) hn (by rfl) h
theorem vH:Ent N.rA Tryz.f181:=fun hn h=>dI Tryz.func181 (by rfl) (by rfl) hn (by rfl) h
theorem xQ:Ent N.tV Tryz.f182:=fun hn h=>dI Tryz.func182 (by rfl) (by rfl) hn (by rfl) h
theorem xR:Ent N.tW Tryz.f183:=fun hn h=>dI Tryz.func183 (by rfl) (by rfl) hn (by rfl) h
theorem nD:Ent N.kK Tryz.f184:=fun hn h=>dI Tryz.func184 (by rfl) (by rfl) hn (by rfl) h
theorem zj:Ent N.wU Tryz.f185:=fun hn h=>dI Tryz.func185 (by rfl) (by rfl) hn (by rfl) h
theorem nu:Ent N.kW Tryz.f186:=fun hn h=>dI Tryz.func186 (by rfl) (by rfl) hn (by rfl) h
theorem pe:Ent N.mB Tryz.f187:=fun hn h=>dI Tryz.func187 (by rfl) (by rfl) hn (by rfl) h
theorem ET:Ent N.zL Tryz.f188:=fun hn h=>dI Tryz.func188 (by rfl) (by rfl) hn (by rfl) h
theorem pf:Ent N.mD Tryz.f189:=fun hn h=>dI Tryz.func189 (by rfl) (by rfl) hn (by rfl) h
theorem zk:Ent N.wV Tryz.f190:=fun hn h=>dI Tryz.func190 (by rfl) (by rfl) hn (by rfl) h
theorem Ae:Ent N.zM Tryz.f191:=fun hn h=>dI Tryz.func191 (by rfl) (by rfl) hn (by rfl) h
theorem oc:Ent N.lM Tryz.f192:=fun hn h=>dI Tryz.func192 (by rfl) (by rfl) hn (by rfl) h
theorem qg:Ent N.nA Tryz.f193:=fun hn h=>dI Tryz.func193 (by rfl) (by rfl) hn (by rfl) h
theorem nE:Ent N.kL Tryz.f194:=fun hn h=>dI Tryz.func194 (by rfl) (by rfl) hn (by rfl) h
theorem pg:Ent N.mE Tryz.f195:=fun hn h=>dI Tryz.func195 (by rfl) (by rfl) hn (by rfl) h
theorem ph:Ent N.mF Tryz.f196:=fun hn h=>dI Tryz.func196 (by rfl) (by rfl) hn (by rfl) h
theorem pj:Ent N.mG Tryz.f197:=fun hn h=>dI Tryz.func197 (by rfl) (by rfl) hn (by rfl) h
theorem od:Ent N.lN Tryz.f198:=fun hn h=>dI Tryz.func198 (by rfl) (by rfl) hn (by rfl) h
theorem xS:Ent N.tX Tryz.f199:=fun hn h=>dI Tryz.func199 (by rfl) (by rfl) hn (by rfl) h
theorem qh:Ent N.nB Tryz.f200:=fun hn h=>dI Tryz.func200 (by rfl) (by rfl) hn (by rfl) h
theorem sB:Ent N.oX Tryz.f201:=fun hn h=>dI Tryz.func201 (by rfl) (by rfl) hn (by rfl) h
theorem tn:Ent N.pX Tryz.f202:=fun hn h=>dI Tryz.func202 (by rfl) (by rfl) hn (by rfl) h
theorem vI:Ent N.rB Tryz.f203:=fun hn h=>dI Tryz.func203 (by rfl) (by rfl) hn (by rfl) h
theorem sC:Ent N.oY Tryz.f204:=fun hn h=>dI Tryz.func204 (by rfl) (by rfl) hn (by rfl) h
theorem ia:Ent N.fw Tryz.f205:=fun hn h=>dI Tryz.func205 (by rfl) (by rfl) hn (by rfl) h
theorem sD:Ent N.oZ Tryz.f206:=fun hn h=>dI Tryz.func206 (by rfl) (by rfl) hn (by rfl) h
theorem oA:Ent N.kX Tryz.f207:=fun hn h=>dI Tryz.func207 (by rfl) (by rfl) hn (by rfl) h
theorem pn:Ent N.mH Tryz.f208:=fun hn h=>dI Tryz.func208 (by rfl) (by rfl) hn (by rfl) h
theorem sE:Ent N.o0 Tryz.f209:=fun hn h=>dI Tryz.func209 (by rfl) (by rfl) hn (by rfl) h
theorem tp:Ent N.pY Tryz.f210:=fun hn h=>dI Tryz.func210 (by rfl) (by rfl) hn (by rfl) h
theorem Af:Ent N.zN Tryz.f211:=fun hn h=>dI Tryz.func211 (by rfl) (by rfl) hn (by rfl) h
theorem Ag:Ent N.zO Tryz.f212:=fun hn h=>dI Tryz.func212 (by rfl) (by rfl) hn (by rfl) h
theorem Ah:Ent N.zP Tryz.f213:=fun hn h=>dI Tryz.func213 (by rfl) (by rfl) hn (by rfl) h
theorem tq:Ent N.pZ Tryz.f214:=fun hn h=>dI Tryz.func214 (by rfl) (by rfl) hn (by rfl) h
theorem kM{H:Hp}{nx:Nat}{iv:Iv}{w1 w':World}(hS:Old S w)(hw:eB w.heap.size w w1)(r:Rel H nx iv w.heap.size w1 O w'){ad:Addr}{j:Nat}{x:Value}(hs:S ad.block)(h:w.cell? (ad.add j)=some x):w'.cell? (ad.add j)=some x:=by
 rw[(hw.tr r.cQ).cell (by rw[dH];exact hS _ hs)];exact h
theorem EU(a:Option Addr)(c:Nat):(if (c:Int)=0 then a else a.map fun x=>x.add (Int.toNat 0*1))=a:=by
 split
 ·rfl
 ·cases a<;>rfl
theorem xT(h:ls[k]? =some 0):dw (ls.take (k+1))=dw (ls.take k):=by
 rw[List.take_add_one,h];exact kR _
theorem Ai{x:Nat}(h:ls[k]? =some x)(hx:x≠0):dw (ls.take (k+1))=ls.take (k+1):=by
 rw[List.take_add_one,h];exact nU _ hx
theorem fN(hS:Old S w)(h:dL w S v ls):eD PG N.mG #[v] w (eG w fun v' w2=>dL w2 S v' (dw ls)):=by
 obtain⟨a,c,rfl,SX,hc⟩:=h.sl;have hle:=h.le;have PM:=h.lm;refine pj (by simp) ?_
 refine⟨Nat×World,fun x=>⟨[(0,sV a x.1 c)],[],0,[],x.2⟩,fun x=>x.1,
  fun x=>x.1<=ls.length∧eB w.heap.size w x.2∧dw ls=dw (ls.take x.1),?_,?_⟩
 ·intro O w' r;exact⟨(ls.length,w'),⟨aF _,r.cQ,by simp⟩,Sub.reset r ⟨rfl,trivial⟩ ⟨trivial,trivial⟩⟩
 ·rintro⟨k,w1⟩ ⟨hk,hw,hF⟩;dsimp only at hk hw hF ⊢;have Vi:eB w.heap.size w w1->dw ls=ls.take k->∀O w2,Rel [] 0 [] w.heap.size w1 O w2->dL w2 S (.slice a k c) (dw ls):=fun hw he O w2 r=>by
   rw[he];refine⟨PM.take k,by simp;omega,a,c,by simp;omega,by simp;omega,fun j x hx=>?_⟩;have Rn:j<k:=by
    have:=(aD.1 hx).1;simp at this;omega
   rw[bU Rn]at hx;obtain⟨ad,h1,h2,h3⟩:=hc j x hx;exact⟨ad,h1,h2,kM hS hw r h2 h3⟩
  refine dN.mk ?_ ?_<;>intro h
  ·have h:0<k:=by simpa using h
   obtain⟨k,rfl⟩:∃q,k=q+1:=⟨k-1,by omega⟩
   obtain⟨x,hx⟩:∃x,ls[k]? =some x:=⟨_,aB (by omega)⟩
   obtain⟨ad,ha,hs,QK⟩:=hc k x hx;refine⟨(k:Int),wo,ad,ha,by omega,.int .u32 x,fun O w' r=>by rw[aE,aS];exact kM hS hw r hs QK,?_⟩;refine dN.mk ?_ ?_<;>intro h2
   ·have h2:x=0:=by have:=eq_of_beq h2;omega
    subst h2;refine⟨(k:Int),wo,⟨by omega,by omega,by omega⟩,a,k,c,EU a c,by simp,by simp,?_⟩;intro O w2 r;exact⟨(k,w2),⟨by dsimp only;omega,hw.tr r.cQ,hF.trans (xT hx)⟩,Sub.reset r ⟨rfl,trivial⟩ ⟨trivial,trivial⟩,by dsimp only;omega⟩
   ·have h2:x≠0:=by intro e;subst e;simp at h2
    intro O w2 r;exact⟨_,rfl,hw.tr r.cQ,Vi hw (by rw[hF,Ai hx h2]) O w2 r⟩
  ·have h:k=0:=by
    have:¬0<k:=by simpa using h
    omega
   subst h;intro O w2 r;exact⟨_,rfl,hw.tr r.cQ,Vi hw (by rw[hF];simp[dw]) O w2 r⟩
theorem eW(h:n<18446744073709551616):IntKind.u64.wrap (n:Int)=(n:Int):=x6 (by omega) (by omega)
theorem fC(n:Nat):IntKind.u32.wrap (n:Int)=((n % 4294967296:Nat):Int):=by
 show((n:Int) % 4294967296)=_;omega
theorem ofInt32(x:Nat):BitVec.ofInt 32 (x:Int)=BitVec.ofNat 32 x:=by
 apply BitVec.eq_of_toNat_eq;simp
theorem qC{y:Nat}(x:Nat)(hy:y<4294967296):x &&& y<4294967296:=Nat.lt_of_le_of_lt Nat.and_le_right hy
theorem qD{x y:Nat}(hx:x<4294967296)(hy:y<4294967296):x ^^^ y<4294967296:=Nat.xor_lt_two_pow (n:=32) hx hy
theorem DI{x y:Nat}(hx:x<4294967296)(hy:y<4294967296):x ||| y<4294967296:=Nat.or_lt_two_pow (n:=32) hx hy
theorem MV{x y:Nat}(hx:x<4294967296)(hy:y<4294967296):IntKind.u32.wrap ((BitVec.ofInt IntKind.u32.bits x &&& BitVec.ofInt IntKind.u32.bits y).toNat:Int)=((x &&& y:Nat):Int):=by
 show IntKind.u32.wrap ((BitVec.ofInt 32 x &&& BitVec.ofInt 32 y).toNat:Int)=_;rw[ofInt32,ofInt32,BitVec.toNat_and,BitVec.toNat_ofNat,BitVec.toNat_ofNat,bP hx,bP hy,fC,bP (qC x hy)]
theorem No{x y:Nat}(hx:x<4294967296)(hy:y<4294967296):IntKind.u32.wrap ((BitVec.ofInt IntKind.u32.bits x ||| BitVec.ofInt IntKind.u32.bits y).toNat:Int)=((x ||| y:Nat):Int):=by
 show IntKind.u32.wrap ((BitVec.ofInt 32 x ||| BitVec.ofInt 32 y).toNat:Int)=_;rw[ofInt32,ofInt32,BitVec.toNat_or,BitVec.toNat_ofNat,BitVec.toNat_ofNat,bP hx,bP hy,fC,bP (DI hx hy)]
theorem MW{x y:Nat}(hx:x<4294967296)(hy:y<4294967296):IntKind.u32.wrap ((BitVec.ofInt IntKind.u32.bits x ^^^ BitVec.ofInt IntKind.u32.bits y).toNat:Int)=((x ^^^ y:Nat):Int):=by
 show IntKind.u32.wrap ((BitVec.ofInt 32 x ^^^ BitVec.ofInt 32 y).toNat:Int)=_;rw[ofInt32,ofInt32,BitVec.toNat_xor,BitVec.toNat_ofNat,BitVec.toNat_ofNat,bP hx,bP hy,fC,bP (qD hx hy)]
theorem MX{x:Nat}(hx:x<4294967296):IntKind.u32.wrap ((BitVec.ofInt IntKind.u32.bits (if IntKind.u32.signed=true then -1 else IntKind.u32.max) ^^^ BitVec.ofInt IntKind.u32.bits x).toNat:Int)=((4294967295 ^^^ x:Nat):Int):=
 MW (x:=4294967295) (by decide) hx
theorem lX{x:Nat}(k:Nat)(hk:k<=63):(x:Int).fdiv (2^min (Int.toNat (k:Int)) IntKind.u64.bits)=((x / 2^k:Nat):Int):=by
 have h1:min (Int.toNat (k:Int)) IntKind.u64.bits=k:=by show min (Int.toNat (k:Int)) 64=k;omega
 rw[h1,Int.fdiv_eq_ediv_of_nonneg _ (by exact Int.le_of_lt (Int.pow_pos (by decide)))];simp
theorem oC{x:Nat}(k:Nat)(hk:k<=31):(x:Int).fdiv (2^min (Int.toNat (k:Int)) IntKind.u32.bits)=((x / 2^k:Nat):Int):=by
 have h1:min (Int.toNat (k:Int)) IntKind.u32.bits=k:=by show min (Int.toNat (k:Int)) 32=k;omega
 rw[h1,Int.fdiv_eq_ediv_of_nonneg _ (by exact Int.le_of_lt (Int.pow_pos (by decide)))];simp
theorem Lz{z:Nat}(h:z<4294967296):z.testBit 31=decide (2147483648<=z):=by
 rw[Nat.testBit_eq_decide_div_mod_eq];apply decide_eq_decide.2;show z / 2147483648 % 2=1↔_;omega
theorem borrow{x y c d:Nat}(hx:x<4294967296)(hy:y<4294967296)(hc:c<=1)(hd:(x+4294967296-(y+c)) % 4294967296=d):
  (((4294967295 ^^^ x) &&& y) ||| ((4294967295 ^^^ (x ^^^ y)) &&& d)) / 2^31=if x<y+c then 1 else 0:=by
 have PC:d<4294967296:=by omega
 have hz:=DI (qC (4294967295 ^^^ x) hy) (qC (4294967295 ^^^ (x ^^^ y)) PC);have ht:=Lz hz;have hm:Nat.testBit 4294967295 31=true:=by decide
 rw[Nat.testBit_or,Nat.testBit_and,Nat.testBit_and,Nat.testBit_xor,Nat.testBit_xor,Nat.testBit_xor,hm,Lz hx,Lz hy,Lz PC]at ht;generalize (((4294967295 ^^^ x) &&& y) ||| ((4294967295 ^^^ (x ^^^ y)) &&& d))=z at hz ht;show z / 2147483648=_;by_cases h1:2147483648<=x<;>by_cases h2:2147483648<=y<;>by_cases h3:2147483648<=d<;>simp[h1,h2,h3]at ht<;>split<;>omega
theorem HU(x y c:Nat)(w:World)(hx:x<4294967296)(hy:y<4294967296)(hc:c<4294967296):
  eD PG N.zN #[.int .u32 x,.int .u32 y,.int .u32 c] w (eG w fun v _=>v= .tuple #[.int .u32 ((x+y+c) % 4294967296:Nat),.int .u32 ((x+y+c) / 4294967296:Nat)]):=by
 refine Af (by simp) ?_;refine⟨(x:Int),eW (by omega),(y:Int),eW (by omega),((x+y:Nat):Int),by rw[x6]<;>omega,(c:Int),eW (by omega),((x+y+c:Nat):Int),by rw[x6]<;>omega,(((x+y+c) % 4294967296:Nat):Int),fC _,by decide,(((x+y+c) / 4294967296:Nat):Int),?_,?_⟩
 ·exact lX 32 (by decide)
 refine⟨(((x+y+c) / 4294967296:Nat):Int),by rw[fC];omega,?_⟩;intro O w3 r;exact⟨_,rfl,r.cQ,rfl⟩
theorem HV(x y c:Nat)(w:World)(hx:x<4294967296)(hy:y<4294967296)(hc:c<=1):
  eD PG N.zO #[.int .u32 x,.int .u32 y,.int .u32 c] w (eG w fun v _=>v= .tuple #[.int .u32 ((x+4294967296-(y+c)) % 4294967296:Nat),.int .u32 ((if x<y+c then 1 else 0:Nat):Int)]):=by
 refine Ag (by simp) ?_;refine⟨((x+4294967296-y) % 4294967296:Nat),?_,?_⟩
 ·show((x:Int)-y) % 4294967296=_;omega
 refine⟨((x+4294967296-(y+c)) % 4294967296:Nat),?_,?_⟩
 ·show((((x+4294967296-y) % 4294967296:Nat):Int)-c) % 4294967296=_;omega
 have h6:(x+4294967296-(y+c)) % 4294967296<4294967296:=bu _ (by decide);generalize hd:(x+4294967296-(y+c)) % 4294967296=d at h6;refine⟨((4294967295 ^^^ x:Nat):Int),MX hx,(((4294967295 ^^^ x) &&& y:Nat):Int),MV (qD (by decide) hx) hy,((x ^^^ y:Nat):Int),MW hx hy,((4294967295 ^^^ (x ^^^ y):Nat):Int),MX (qD hx hy),(((4294967295 ^^^ (x ^^^ y)) &&& d:Nat):Int),MV (qD (by decide) (qD hx hy)) h6,((((4294967295 ^^^ x) &&& y) ||| ((4294967295 ^^^ (x ^^^ y)) &&& d):Nat):Int),No (qC _ hy) (qC _ h6),by decide,((if x<y+c then 1 else 0:Nat):Int),?_,?_⟩
 ·rw[<-borrow hx hy hc hd];exact oC 31 (by decide)
 intro O w3 r;exact⟨_,rfl,r.cQ,rfl⟩
def sF(n m:Nat):Int:=if n<m then -1 else if m<n then 1 else 0
theorem MY{a b:List Nat}{i x y:Nat}(ha:Lm a)(hl:a.length=b.length)(hx:a[i]? =some x)(hy:b[i]? =some y)(h:a.drop (i+1)=b.drop (i+1))(OU:x<y):val a<val b:=by
 have hi:=(aD.1 hx).1;have h1:=e8 a i (by omega);have h2:=e8 b i (by omega);rw[jC hx]at h1;rw[jC hy,<-h]at h2;have h3:=nT (ha.take i);rw[aV,Nat.min_eq_left (by omega)]at h3;generalize val (a.drop (i+1))=q at h1 h2;have h4:wt i*(x+4294967296*q+1)<=wt i*(y+4294967296*q):=b9 _ (by omega);rw[bV,aS]at h4;omega
theorem Jt{u:Value}{m:Nat}(hS:Old S w)(hn:dx w S v n)(hm:dx w S u m):eD PG N.rB #[v,u] w (eG w fun v' _=>v'= .int .i64 (sF n m)):=by
 obtain⟨ls,h1,nz1,rfl⟩:=hn;obtain⟨ms,h2,nz2,rfl⟩:=hm;obtain⟨a,c,rfl,_,ha⟩:=h1.sl;obtain⟨b,e,rfl,_,hb⟩:=h2.sl;have hle1:=h1.le;have UU:=h2.le;have lm1:=h1.lm;have lm2:=h2.lm;refine vI (by simp) ?_;refine dN.mk ?_ ?_<;>intro h
 ·have h:ls.length≠ms.length:=by intro e;rw[e]at h;simp at h
  refine dN.mk ?_ ?_<;>intro h3
  ·have h3:ls.length<ms.length:=by simpa using h3
   intro O w2 r;exact⟨_,rfl,r.cQ,by rw[sF,if_pos (iu lm1 nz2 h3)];rfl⟩
  ·have h3:ms.length<ls.length:=by
    have:¬ls.length<ms.length:=by simpa using h3
    omega
   have h4:=iu lm2 nz1 h3;intro O w2 r;exact⟨_,rfl,r.cQ,by rw[sF,aK (by omega),if_pos h4];rfl⟩
 ·have h:ls.length=ms.length:=by
   have:(ls.length:Int)=ms.length:=by simpa using h
   omega
  refine⟨(ls.length:Int)-1,wo,Nat×World,fun x=>⟨[(0,sV a ls.length c),(1,sV b ms.length e),(5,.o (.v (.int .i64 ((x.1:Int)-1))))],[],0,[],x.2⟩,fun x=>x.1,
   fun x=>x.1<=ls.length∧eB w.heap.size w x.2∧ls.drop x.1=ms.drop x.1,?_,?_⟩
  ·intro O w' r;exact⟨(ls.length,w'),⟨aF _,r.cQ,by rw[List.drop_length,h,List.drop_length]⟩,Sub.reset r ⟨rfl,rfl,rfl,trivial⟩ ⟨trivial,trivial,trivial,trivial⟩⟩
  ·rintro⟨k,w1⟩ ⟨hk,hw,hd⟩;dsimp only at hk hw hd ⊢;refine dN.mk ?_ ?_<;>intro h3
   ·have h3:(k:Int)-1≥0:=aI h3;obtain⟨k,rfl⟩:∃q,k=q+1:=⟨k-1,by omega⟩
    rw[show ((k+1:Nat):Int)-1=(k:Int) by omega];obtain⟨x,hx⟩:∃x,ls[k]? =some x:=⟨_,aB (by omega)⟩
    obtain⟨y,hy⟩:∃x,ms[k]? =some x:=⟨_,aB (by omega)⟩
    obtain⟨ad,Od,hs,hc1⟩:=ha k x hx;obtain⟨ad2,PR,QW,Vs⟩:=hb k y hy;have Of:∀O w',Rel [] 0 [] w.heap.size w1 O w'->w'.cell? (ad.add ((k:Int).toNat*1))=some (.int .u32 x):=fun O w' r=>by
     rw[aE,aS];exact kM hS hw r hs hc1
    have QY:∀O w',Rel [] 0 [] w.heap.size w1 O w'->w'.cell? (ad2.add ((k:Int).toNat*1))=some (.int .u32 y):=fun O w' r=>by
     rw[aE,aS];exact kM hS hw r QW Vs
    refine cN hτ dm [.x 0,.x 1,.x 2,.x 3,.x 4,.x 5,.x 6,.x 7,.x 8,.x 9] (by kernel_rfl) (by kernel_rfl) ?_;refine⟨ad,Od,by omega,_,Of,ad2,PR,by omega,_,QY,?_⟩;refine dN.mk ?_ ?_<;>intro h4
    ·have h4:x<y:=by simpa using h4
     intro O w2 r;exact⟨_,rfl,hw.tr r.cQ,by rw[sF,if_pos (MY lm1 h hx hy hd h4)];rfl⟩
    ·have h4:¬x<y:=by simpa using h4
     refine cN hτ dm [.x 0,.x 1,.x 2,.x 3,.x 4,.x 5,.x 6,.x 7,.x 8,.x 9] (by kernel_rfl) (by kernel_rfl) ?_;refine⟨ad,Od,by omega,_,Of,ad2,PR,by omega,_,QY,?_⟩;refine dN.mk ?_ ?_<;>intro h5
     ·have h5:y<x:=by simpa using h5
      have h6:=MY lm2 h.symm hy hx hd.symm h5;intro O w2 r;exact⟨_,rfl,hw.tr r.cQ,by rw[sF,aK (by omega),if_pos h6];rfl⟩
     ·have h5:¬y<x:=by simpa using h5
      have hxy:x=y:=by omega
      subst hxy;refine⟨(k:Int)-1,wo,?_⟩;intro O w2 r;have PC:ls.drop k=ms.drop k:=by
       obtain⟨q1,e1⟩:=aD.1 hx;obtain⟨q2,e2⟩:=aD.1 hy;rw[List.drop_eq_getElem_cons q1,List.drop_eq_getElem_cons q2,e1,e2,hd]
      exact⟨(k,w2),⟨by dsimp only;omega,hw.tr r.cQ,PC⟩,Sub.reset r ⟨rfl,rfl,rfl,trivial⟩ ⟨trivial,trivial,trivial,trivial⟩,by simp⟩
   ·have SA:k=0:=by
     have:¬(k:Int)-1≥0:=aH h3;omega
    subst SA;have he:ls=ms:=by simpa using hd
    intro O w2 r;exact⟨_,rfl,hw.tr r.cQ,by rw[he,sF,aK (by omega),aK (by omega)];rfl⟩
end Go.Ex
namespace Go.Sx
open Go Go.Ex Go.Proofs
variable{O:Nat->Sx.dg}
theorem Rel.po{nx:Nat}{iv:Iv}{B:Nat}{w w':World}(r:Rel [] nx iv B w O w'):w.grownBy w' none:=
 ⟨r.os,r.tape,r.output,r.size,fun k hk _=>r.uP k hk (fun id b h=>by cases h)⟩
end Go.Sx
namespace Go.Ex
open Go Go.Sx Go.Proofs
variable{l ls:List Nat}{S:Nat->Prop}{v:Value}{w:World}
structure LA(S:Nat->Prop)(w:World) where
 a:Option Addr
 c:Nat
 ls:List Nat
 lm:Lm ls
 le:ls.length<=9223372036854775807
 cap:ls.length<=c
 cell:∀(j:Nat) x,ls[j]? =some x->∃ad,a=some ad∧S ad.block∧w.cell? (ad.add j)=some (.int .u32 x)
theorem dL.la(h:dL w S v ls):∃p:LA S w,v= .slice p.a p.ls.length p.c∧p.ls=ls:=by
 obtain⟨a,c,h1,h2,h3⟩:=h.sl;exact⟨⟨a,c,ls,h.lm,h.le,h2,h3⟩,h1,rfl⟩
theorem dx.la{n:Nat}(h:dx w S v n):∃p:LA S w,v= .slice p.a p.ls.length p.c∧val p.ls=n∧Nz p.ls:=by
 obtain⟨ls,h1,h2,h3⟩:=h;obtain⟨p,h4,h5⟩:=h1.la;exact⟨p,h4,by rw[h5];exact h3,by rw[h5];exact h2⟩
theorem LA.load{w1:World}(p:LA S w)(hS:Old S w)(hw:eB w.heap.size w w1){k x:Nat}(hx:p.ls[k]? =some x):
  ∃ad,p.a=some ad∧∀(H:Hp) (nx:Nat) (iv:Iv) (O:Nat->Sx.dg) w',Rel H nx iv w.heap.size w1 O w'->w'.cell? (ad.add ((k:Int).toNat*1))=some (.int .u32 x):=by
 obtain⟨ad,h1,h2,h3⟩:=p.cell k x hx;refine⟨ad,h1,fun H nx iv O w' r=>?_⟩;rw[aE,aS];exact kM hS hw r h2 h3
def U(l:List Nat):List Value:=l.map fun(x:Nat)=>.int .u32 (x:Int)
theorem gL(l:List Nat):(U l).length=l.length:=by simp[U]
theorem tt{k x:Nat}(h:l[k]? =some x):(U l)[k]? =some (.int .u32 x):=by simp[U,h]
theorem Nu(l:List Nat)(k x:Nat)(h:k<l.length):(U l).take k++[.int .u32 x]++(U l).drop (k+1)=U (l.set k x):=by
 have h1:k<(U l).length:=by rw[gL];exact h
 have:(U l).set k (.int .u32 x)=U (l.set k x):=by simp[U,List.map_set]
 rw[<-this,List.set_eq_take_append_cons_drop,if_pos h1];simp
theorem iw(l:List Nat)(k x:Nat)(h:k<l.length){e:Nat}(he:e=k):(U l).take e++[.int .u32 (x:Int)]++(U l).drop (e+1)=U (l.set k x):=by
 subst he;exact Nu l e x h
theorem sG(n:Nat):List.replicate n (Value.int .u32 0)=U (List.replicate n 0):=by simp[U]
end Go.Ex
namespace Go.Sx
open Go Go.Ex Go.Proofs
variable{ls:List Nat}{O:Nat->Sx.dg}
theorem Rel.nF{H:Hp}{nx:Nat}{iv:Iv}{B:Nat}{w w':World}(r:Rel H nx iv B w O w'){id t:Nat}(h:dB H id=some (.arr t (U ls)))(PM:Lm ls)(hle:ls.length<=9223372036854775807):
  dL w' (fun g=>g=(O id).g) (.slice (some ⟨(O id).g,0,none⟩) ls.length ls.length) ls:=by
 refine⟨PM,hle,_,_,rfl,aF _,fun j x hx=>⟨_,rfl,rfl,?_⟩⟩;have h0:(⟨(O id).g,0,none⟩:Addr).add j=⟨(O id).g,j,none⟩:=by
  cases j with
  |zero=>rfl
  |succ j=>simp[Addr.add]
 rw[h0,cell_of (r.arr id t _ h)];exact tt hx
end Go.Sx
namespace Go.Ex
open Go Go.Sx Go.Proofs
variable{S:Nat->Prop}
theorem Bv{out ls ms:List Nat}{i x o d:Nat}(hx:ls[i]? =some x)(ho:ms.getD i 0=o)(hd:out[i]? =some d){carry:Nat}(h:val (out.take i)+wt i*carry=val (ls.take i)+val (ms.take i)):
  val ((out.set i ((x+o+carry) % 4294967296)).take (i+1))+wt (i+1)*((x+o+carry) / 4294967296)=val (ls.take (i+1))+val (ms.take (i+1)):=by
 have hi:=(aD.1 hd).1;have h1:(out.set i ((x+o+carry) % 4294967296))[i]? =some ((x+o+carry) % 4294967296):=by rw[aW hi]
 rw[de h1,List.take_set_of_le (aF _),de hx,ir];have h2:val (ms.take (i+1))=val (ms.take i)+wt i*o:=by
  cases hm:ms[i]? with
  |some y=>
   have:y=o:=by rw[<-ho];simp[List.getD,hm]
   rw[de hm,this]
  |none=>
   have:o=0:=by rw[<-ho];simp[List.getD,hm]
   rw[this,List.take_add_one,hm];simp
 rw[h2];have h3:=Nat.div_add_mod (x+o+carry) 4294967296;generalize (x+o+carry) / 4294967296=q at h3 ⊢;generalize (x+o+carry) % 4294967296=r at h3 ⊢;have h4:wt i*(4294967296*q+r)=wt i*(x+o+carry):=by rw[h3]
 rw[bV,bV,bV,<-bh,bW (wt i) 4294967296]at h4;omega
theorem NC{w:World}{v u:Value}{n m:Nat}(hS:Old S w)(hn:dx w S v n)(hm:dx w S u m)(Ro:ln n<=1000000000000)(PM:ln m<=1000000000000):
  eD PG N.pX #[v,u] w (eG w fun v' w2=>dx w2 (Nf w w2) v' (n+m)):=by
 obtain⟨p,rfl,Q7,QF⟩:=hn.la;obtain⟨q,rfl,RK,QA⟩:=hm.la;have PV:=eL p.lm QF;have UI:=eL q.lm QA;rw[Q7]at PV;rw[RK]at UI;have hsum:n+m=val p.ls+val q.ls:=by rw[Q7,RK]
 rw[hsum];refine tn (by simp) ?_;refine dN.mk ?_ ?_<;>intro h
 case' refine_1=>
  have h:p.ls.length<q.ls.length:=by simpa using h
  have hpx:p.ls.length<=q.ls.length:=by omega
  have hx12:q.ls.length<=1000000000000:=by omega
  rw[Nat.add_comm];generalize TL:q=x at*
  generalize hgy:p=y at*
 case' refine_2=>
  have h:¬p.ls.length<q.ls.length:=by simpa using h
  have hpx:q.ls.length<=p.ls.length:=by omega
  have hx12:p.ls.length<=1000000000000:=by omega
  generalize TL:p=x at*
  generalize hgy:q=y at*
 all_goals
  refine⟨((x.ls.length+1:Nat):Int),wo,x.ls.length+1,x.ls.length+1,rfl,rfl,aF _,by omega,by omega,Nat×List Nat×Nat×World,fun z=>⟨[(0,sV x.a x.ls.length x.c),(1,sV y.a y.ls.length y.c),(5,.o (.s 0 0 (x.ls.length+1) (x.ls.length+1))),(6,.o (.v (.int .u32 z.2.2.1))),(21,iZ x.ls.length),(22,iZ z.1)],
    [(0,.arr T.uint32 (U z.2.1))],1,[],z.2.2.2⟩,fun z=>x.ls.length-z.1,
   fun z=>z.1<=x.ls.length∧eB w.heap.size w z.2.2.2∧z.2.1.length=x.ls.length+1∧Lm z.2.1∧z.2.2.1<2∧val (z.2.1.take z.1)+wt z.1*z.2.2.1=val (x.ls.take z.1)+val (y.ls.take z.1),?_,?_⟩
  ·intro O w' r;rw[sG]at r;exact⟨(0,List.replicate (x.ls.length+1) 0,0,w'),⟨by simp,r.cQ,by simp,Lm.replicate _,by simp,by simp[val]⟩,Sub.gn [] r⟩
  ·rintro⟨i,out,carry,w1⟩ ⟨hi,hw,QL,Ol,hc,hv⟩;dsimp only at hi hw QL Ol hc hv ⊢;refine dN.mk ?_ ?_<;>intro h
   ·have h:i<x.ls.length:=by simpa using h
    obtain⟨xi,PZ⟩:∃k,x.ls[i]? =some k:=⟨_,aB h⟩
    obtain⟨d,hd⟩:∃k,out[i]? =some k:=⟨_,aB (by omega)⟩
    obtain⟨ad,Od,Ot⟩:=x.load hS hw PZ;have Px:=x.lm.at PZ;refine dN.mk ?_ ?_<;>intro h2
    ·have h2:i<y.ls.length:=by simpa using h2
     obtain⟨o,ho⟩:∃k,y.ls[i]? =some k:=⟨_,aB h2⟩
     obtain⟨ad2,PR,Qa⟩:=y.load hS hw ho;have VW:=y.lm.at ho;have TB:y.ls.getD i 0=o:=by simp[List.getD,ho]
     refine⟨ad2,PR,by omega,.int .u32 o,Qa _ _ _,ad,Od,by omega,.int .u32 xi,Ot _ _ _,?_⟩;refine cD (cO (Φ:=fun _ _ v _=>v= .tuple #[.int .u32 ((xi+o+carry) % 4294967296:Nat),.int .u32 ((xi+o+carry) / 4294967296:Nat)]) (fun O w' r=>HU xi o carry w' Px VW (by omega)) ?_);rintro O w' v w2 r he hb rfl;replace hw:=hw.tr hb;have Ok:=Bv PZ TB hd hv;have Vs:(xi+o+carry) / 4294967296<2:=by omega
     refine⟨by omega,by rw[gL];omega,U (out.set i ((xi+o+carry) % 4294967296)),iw out i _ (by omega) (by simp),((i+1:Nat):Int),wo,?_⟩;intro ρ3 w3 r3
     exact⟨(i+1,out.set i ((xi+o+carry) % 4294967296),(xi+o+carry) / 4294967296,w3),⟨by dsimp only;omega,hw.tr r3.cQ,by simp[QL],Ol.set (bu _ (by decide)),Vs,Ok⟩,
      Sub.gn [] r3,by dsimp only;omega⟩
    ·have h2:¬i<y.ls.length:=by simpa using h2
     have TB:y.ls.getD i 0=0:=by simp[List.getD,List.getElem?_eq_none (show y.ls.length<=i by omega)]
     refine⟨ad,Od,by omega,.int .u32 xi,Ot _ _ _,?_⟩;refine cD (cO (Φ:=fun _ _ v _=>v= .tuple #[.int .u32 ((xi+0+carry) % 4294967296:Nat),.int .u32 ((xi+0+carry) / 4294967296:Nat)]) (fun O w' r=>HU xi 0 carry w' Px (by decide) (by omega)) ?_);rintro O w' v w2 r he hb rfl;replace hw:=hw.tr hb;have Ok:=Bv PZ TB hd hv;have Vs:(xi+0+carry) / 4294967296<2:=by omega
     refine⟨by omega,by rw[gL];omega,U (out.set i ((xi+0+carry) % 4294967296)),iw out i _ (by omega) (by simp),((i+1:Nat):Int),wo,?_⟩;intro ρ3 w3 r3
     exact⟨(i+1,out.set i ((xi+0+carry) % 4294967296),(xi+0+carry) / 4294967296,w3),⟨by dsimp only;omega,hw.tr r3.cQ,by simp[QL],Ol.set (bu _ (by decide)),Vs,Ok⟩,
      Sub.gn [] r3,by dsimp only;omega⟩
   ·have Qv:i=x.ls.length:=by
     have:¬i<x.ls.length:=by simpa using h
     omega
    subst Qv;obtain⟨d,hd⟩:∃k,out[x.ls.length]? =some k:=⟨_,aB (by omega)⟩
    have Sa:val (out.set x.ls.length carry)=val x.ls+val y.ls:=by
     have h1:(out.set x.ls.length carry)[x.ls.length]? =some carry:=by rw[aW (by omega)]
     have h2:=de h1;rw[List.take_of_length_le (by simp;omega),List.take_set_of_le (aF _)]at h2;rw[bF,List.take_of_length_le hpx]at hv;omega
    have hlm2:Lm (out.set x.ls.length carry):=Ol.set (by omega);refine⟨by omega,by rw[gL];omega,U (out.set x.ls.length carry),iw out x.ls.length carry (by omega) (by simp),?_⟩;generalize hgo:out.set x.ls.length carry=fin at Sa hlm2;have OX:fin.length=x.ls.length+1:=by rw[<-hgo];simp[QL]
    refine gW (Φ:=fun O _ v w2=>dL w2 (fun g=>g=(O 0).g) v (dw fin)) (H':=[]) 0 rfl (by simp) trivial rfl (fun O w' r=>r.nn 0 _ rfl (by intros;simp) (by simp)) (fun O w' r=>?_) ?_
    ·have hL:=r.nF (id:=0) rfl hlm2 (by omega);rw[OX]at hL;exact fN (fun g hg=>by rw[hg];exact(r.low 0 _ rfl (r.nn 0 _ rfl (by intros;simp) (by simp))).2) hL
    rintro O w' v w2 r he hb hL;replace hw:=hw.tr hb;have Og:=r.low 0 _ rfl (r.nn 0 _ rfl (by intros;simp) (by simp));generalize (O 0).g=g at*
    have hs:=he.size;intro ρ3 w3 r3;refine⟨_,rfl,hw.tr r3.cQ,dw fin,?_,(ef fin).2.1,?_⟩
    ·refine(hL.cI fun k hk=>?_).cJ fun k hk=>.inr ?_
     ·rw[hk];exact r3.po.block g (by omega) (by simp)
     ·rw[hk];have:=r3.size;omega
    ·rw[(ef fin).1,Sa]
end Go.Ex
namespace Go.Ex
open Go Go.Sx Go.Proofs
variable{ls ms out:List Nat}{V a b i k n o t:Nat}{S:Nat->Prop}{v:Value}{w:World}
theorem I2(ho:ms.getD i 0=o):val (ms.take (i+1))=val (ms.take i)+wt i*o:=by
 cases hm:ms[i]? with
 |some y=>
  have:y=o:=by rw[<-ho];simp[List.getD,hm]
  rw[de hm,this]
 |none=>
  have:o=0:=by rw[<-ho];simp[List.getD,hm]
  rw[this,List.take_add_one,hm];simp
theorem AF{x d e:Nat}(hx:ls[i]? =some x)(ho:ms.getD i 0=o)(hd:out[i]? =some d){b':Nat}(h:val (out.take i)+val (ms.take i)=val (ls.take i)+wt i*b)(he:e+(o+b)=x+4294967296*b'):
  val ((out.set i e).take (i+1))+val (ms.take (i+1))=val (ls.take (i+1))+wt (i+1)*b':=by
 have hi:=(aD.1 hd).1;have h1:(out.set i e)[i]? =some e:=by rw[aW hi]
 rw[de h1,List.take_set_of_le (aF _),de hx,I2 ho,ir];have h4:wt i*(e+(o+b))=wt i*(x+4294967296*b'):=by rw[he]
 rw[bV,bV,bV,<-bh,bW (wt i) 4294967296]at h4;omega
theorem Co{u:Value}{m:Nat}(hS:Old S w)(hn:dx w S v n)(hm:dx w S u m)(hle:m<=n)(Ro:ln n<=1000000000000):
  eD PG N.oY #[v,u] w (eG w fun v' w2=>dx w2 (Nf w w2) v' (n-m)):=by
 obtain⟨x,rfl,Q7,QF⟩:=hn.la;obtain⟨y,rfl,RK,QA⟩:=hm.la;have PV:=eL x.lm QF;rw[Q7]at PV;have hyx:y.ls.length<=x.ls.length:=by
  rw[eL x.lm QF,eL y.lm QA,Q7,RK];exact fG hle
 refine sC (by simp) ?_
 refine⟨x.ls.length,x.ls.length,rfl,rfl,aF _,by omega,by omega,Nat×List Nat×Nat×World,fun z=>⟨[(0,sV x.a x.ls.length x.c),(1,sV y.a y.ls.length y.c),(5,.o (.s 0 0 x.ls.length x.ls.length)),(6,.o (.v (.int .u32 z.2.2.1))),(13,iZ x.ls.length),(14,iZ z.1)],
   [(0,.arr T.uint32 (U z.2.1))],1,[],z.2.2.2⟩,fun z=>x.ls.length-z.1,
  fun z=>z.1<=x.ls.length∧eB w.heap.size w z.2.2.2∧z.2.1.length=x.ls.length∧Lm z.2.1∧z.2.2.1<2∧val (z.2.1.take z.1)+val (y.ls.take z.1)=val (x.ls.take z.1)+wt z.1*z.2.2.1,?_,?_⟩
 ·intro O w' r;rw[sG]at r;exact⟨(0,List.replicate x.ls.length 0,0,w'),⟨by simp,r.cQ,by simp,Lm.replicate _,by simp,by simp[val]⟩,Sub.gn [] r⟩
 ·rintro⟨i,out,b,w1⟩ ⟨hi,hw,QL,Ol,hc,hv⟩;dsimp only at hi hw QL Ol hc hv ⊢;refine dN.mk ?_ ?_<;>intro h
  ·have h:i<x.ls.length:=by simpa using h
   obtain⟨xi,PZ⟩:∃k,x.ls[i]? =some k:=⟨_,aB h⟩
   obtain⟨d,hd⟩:∃k,out[i]? =some k:=⟨_,aB (by omega)⟩
   obtain⟨ad,Od,Ot⟩:=x.load hS hw PZ;have Px:=x.lm.at PZ;refine dN.mk ?_ ?_<;>intro h2
   ·have h2:i<y.ls.length:=by simpa using h2
    obtain⟨o,ho⟩:∃k,y.ls[i]? =some k:=⟨_,aB h2⟩
    obtain⟨ad2,PR,Qa⟩:=y.load hS hw ho;have VW:=y.lm.at ho;have TB:y.ls.getD i 0=o:=by simp[List.getD,ho]
    refine⟨ad2,PR,by omega,.int .u32 o,Qa _ _ _,ad,Od,by omega,.int .u32 xi,Ot _ _ _,?_⟩;refine cD (cO (Φ:=fun _ _ v _=>v= .tuple #[.int .u32 ((xi+4294967296-(o+b)) % 4294967296:Nat),.int .u32 ((if xi<o+b then 1 else 0:Nat):Int)]) (fun O w' r=>HV xi o b w' Px VW (by omega)) ?_);rintro O w' v w2 r he hb rfl;replace hw:=hw.tr hb;have QV:(xi+4294967296-(o+b)) % 4294967296+(o+b)=xi+4294967296*(if xi<o+b then 1 else 0):=by split<;>omega
    have OU:(xi+4294967296-(o+b)) % 4294967296<4294967296:=bu _ (by decide);have QH:(if xi<o+b then 1 else 0:Nat)<2:=by split<;>omega
    generalize (xi+4294967296-(o+b)) % 4294967296=e at QV OU;generalize (if xi<o+b then 1 else 0:Nat)=b' at QV QH;have Ok:=AF PZ TB hd hv QV;refine⟨by omega,by rw[gL];omega,U (out.set i e),iw out i _ (by omega) (by simp),((i+1:Nat):Int),wo,?_⟩;intro ρ3 w3 r3
    exact⟨(i+1,out.set i e,b',w3),⟨by dsimp only;omega,hw.tr r3.cQ,by simp[QL],Ol.set OU,QH,Ok⟩,
     Sub.gn [] r3,by dsimp only;omega⟩
   ·have h2:¬i<y.ls.length:=by simpa using h2
    have TB:y.ls.getD i 0=0:=by simp[List.getD,List.getElem?_eq_none (show y.ls.length<=i by omega)]
    refine⟨ad,Od,by omega,.int .u32 xi,Ot _ _ _,?_⟩;refine cD (cO (Φ:=fun _ _ v _=>v= .tuple #[.int .u32 ((xi+4294967296-(0+b)) % 4294967296:Nat),.int .u32 ((if xi<0+b then 1 else 0:Nat):Int)]) (fun O w' r=>HV xi 0 b w' Px (by decide) (by omega)) ?_);rintro O w' v w2 r he hb rfl;replace hw:=hw.tr hb;have QV:(xi+4294967296-(0+b)) % 4294967296+(0+b)=xi+4294967296*(if xi<0+b then 1 else 0):=by split<;>omega
    have OU:(xi+4294967296-(0+b)) % 4294967296<4294967296:=bu _ (by decide);have QH:(if xi<0+b then 1 else 0:Nat)<2:=by split<;>omega
    generalize (xi+4294967296-(0+b)) % 4294967296=e at QV OU;generalize (if xi<0+b then 1 else 0:Nat)=b' at QV QH;have Ok:=AF PZ TB hd hv QV;refine⟨by omega,by rw[gL];omega,U (out.set i e),iw out i _ (by omega) (by simp),((i+1:Nat):Int),wo,?_⟩;intro ρ3 w3 r3
    exact⟨(i+1,out.set i e,b',w3),⟨by dsimp only;omega,hw.tr r3.cQ,by simp[QL],Ol.set OU,QH,Ok⟩,
     Sub.gn [] r3,by dsimp only;omega⟩
  ·have Qv:i=x.ls.length:=by
    have:¬i<x.ls.length:=by simpa using h
    omega
   subst Qv;have Sa:val out=n-m:=by
    rw[List.take_of_length_le (by omega),List.take_of_length_le hyx,bF,Q7,RK]at hv;have h1:=nT Ol;rw[QL]at h1;have:b=0∨b=1:=by omega
    rcases this with rfl|rfl
    ·omega
    ·omega
   refine gW (Φ:=fun O _ v w2=>dL w2 (fun g=>g=(O 0).g) v (dw out)) (H':=[]) 0 rfl (by simp) trivial rfl (fun O w' r=>r.nn 0 _ rfl (by intros;simp) (by simp)) (fun O w' r=>?_) ?_
   ·have hL:=r.nF (id:=0) rfl Ol (by omega);rw[QL]at hL;exact fN (fun g hg=>by rw[hg];exact(r.low 0 _ rfl (r.nn 0 _ rfl (by intros;simp) (by simp))).2) hL
   rintro O w' v w2 r he hb hL;replace hw:=hw.tr hb;have Og:=r.low 0 _ rfl (r.nn 0 _ rfl (by intros;simp) (by simp));generalize (O 0).g=g at*
   have hs:=he.size;intro ρ3 w3 r3;refine⟨_,rfl,hw.tr r3.cQ,dw out,?_,(ef out).2.1,?_⟩
   ·refine(hL.cI fun k hk=>?_).cJ fun k hk=>.inr ?_
    ·rw[hk];exact r3.po.block g (by omega) (by simp)
    ·rw[hk];have:=r3.size;omega
   ·rw[(ef out).1,Sa]
theorem GY{p c:Nat}(ho:out[p]? =some o)(h:val out+wt p*c=V)(ht:t=a+o+c):
  val (out.set p (t % 4294967296))+wt (p+1)*(t / 4294967296)=V+wt p*a:=by
 have h1:=xa (x:=t % 4294967296) ho;rw[ir];have h3:=Nat.div_add_mod t 4294967296;generalize t / 4294967296=q at h3 ⊢;generalize t % 4294967296=r at h3 h1 ⊢;have h4:wt p*(4294967296*q+r)=wt p*(a+o+c):=by rw[h3,ht]
 rw[bV,bV,bV,<-bh,bW (wt p) 4294967296]at h4;omega
def Zf(out:List Nat)(p:Nat):Prop:=∀(j:Nat) z,p<=j->out[j]? =some z->z=0
theorem Zf.set{p x:Nat}(h:Zf out p)(hk:k<p):Zf (out.set k x) p:=fun j z hj hz=>by
 rw[aX (by omega)]at hz;exact h j z hj hz
theorem Ky(ha:a<4294967296)(hb:b<4294967296):a*b<=18446744065119617025:=by
 have:a*b<=4294967295*4294967295:=Nat.mul_le_mul (by omega) (by omega);omega
theorem HJ{u:Value}{m:Nat}(hS:Old S w)(hn:dx w S v n)(hm:dx w S u m)(Ro:ln n<=1000000000000)(PM:ln m<=1000000000000):
  eD PG N.oX #[v,u] w (eG w fun v' w2=>dx w2 (Nf w w2) v' (n*m)):=by
 obtain⟨x,rfl,Q7,QF⟩:=hn.la;obtain⟨y,rfl,RK,QA⟩:=hm.la;have PV:=eL x.lm QF;rw[Q7]at PV;have UI:=eL y.lm QA;rw[RK]at UI;refine sB (by simp) ?_;obtain⟨L,hL⟩:∃L,L=x.ls.length+y.ls.length:=⟨_,rfl⟩
 refine⟨(L:Int),wo,L,L,rfl,rfl,aF _,by omega,by omega,Nat×List Nat×World,fun z=>⟨[(1,sV y.a y.ls.length y.c),(5,.o (.s 0 0 L L)),(18,sV x.a x.ls.length x.c),(19,iZ x.ls.length),(20,iZ z.1)],
   [(0,.arr T.uint32 (U z.2.1))],1,[],z.2.2⟩,fun z=>x.ls.length-z.1,
  fun z=>z.1<=x.ls.length∧eB w.heap.size w z.2.2∧z.2.1.length=L∧Lm z.2.1∧val z.2.1=val (x.ls.take z.1)*m∧Zf z.2.1 (z.1+y.ls.length),?_,?_⟩
 ·intro O w' r;rw[sG]at r;exact⟨(0,List.replicate L 0,w'),⟨by simp,r.cQ,by simp,Lm.replicate _,by simp[val,mW],fun j z _ hz=>by simp only[List.getElem?_replicate]at hz;split at hz<;>simp_all⟩,Sub.gn [] r⟩
 ·rintro⟨i,out,w1⟩ ⟨hi,hw,QL,Ol,hv,hz⟩;dsimp only at hi hw QL Ol hv hz ⊢;refine dN.mk ?_ ?_<;>intro h
  ·have h:i<x.ls.length:=by simpa using h
   obtain⟨xi,PZ⟩:∃k,x.ls[i]? =some k:=⟨_,aB h⟩
   obtain⟨ad,Od,Ot⟩:=x.load hS hw PZ;have Px:=x.lm.at PZ
   refine⟨ad,Od,by omega,.int .u32 xi,Ot _ _ _,Nat×List Nat×Nat×World,fun z=>⟨[(1,sV y.a y.ls.length y.c),(5,.o (.s 0 0 L L)),(18,sV x.a x.ls.length x.c),(19,iZ x.ls.length),(20,iZ i),
     (6,iZ i),(7,.o (.v (.int .u32 xi))),(8,.o (.v (.int .u64 z.2.2.1))),(25,sV y.a y.ls.length y.c),(26,iZ y.ls.length),(27,iZ z.1)],
     [(0,.arr T.uint32 (U z.2.1))],1,[],z.2.2.2⟩,fun z=>y.ls.length-z.1,
    fun z=>z.1<=y.ls.length∧eB w.heap.size w z.2.2.2∧z.2.1.length=L∧Lm z.2.1∧z.2.2.1<4294967296∧val z.2.1+wt (i+z.1)*z.2.2.1=val (x.ls.take i)*m+wt i*xi*val (y.ls.take z.1)∧Zf z.2.1 (i+y.ls.length),?_,?_⟩
   ·intro O w' r;exact⟨(0,out,0,w'),⟨by simp,hw.tr r.cQ,QL,Ol,by simp,by simp[val,hv],hz⟩,Sub.gn [] r⟩
   ·rintro⟨k,out,c,w1⟩ ⟨hk,hw,QL,Ol,hc,hv,hz⟩;dsimp only at hk hw QL Ol hc hv hz ⊢;refine dN.mk ?_ ?_<;>intro h2
    ·have h2:k<y.ls.length:=by simpa using h2
     obtain⟨yk,hyk⟩:∃q,y.ls[k]? =some q:=⟨_,aB h2⟩
     obtain⟨ad2,PR,Qa⟩:=y.load hS hw hyk;have hy32:=y.lm.at hyk;obtain⟨o,ho⟩:∃q,out[i+k]? =some q:=⟨_,aB (by omega)⟩
     have VW:=Ol.at ho;have hm64:=Ky Px hy32;refine⟨ad2,PR,by omega,.int .u32 yk,Qa _ _ _,(xi:Int),eW (by omega),(yk:Int),eW (by omega),((xi*yk:Nat):Int),by rw[<-Int.natCast_mul];exact eW (by omega),((i+k:Nat):Int),wo,by omega,.int .u32 o,by rw[aE,aQ,aS];exact tt ho,(o:Int),eW (by omega),((xi*yk+o:Nat):Int),by rw[<-Int.natCast_add];exact eW (by omega),?_⟩;obtain⟨t,ht⟩:∃t,t=xi*yk+o+c:=⟨_,rfl⟩
     refine⟨(t:Int),by rw[<-Int.natCast_add,<-ht];exact eW (by omega),((i+k:Nat):Int),wo,((t % 4294967296:Nat):Int),fC _,by decide,((t / 4294967296:Nat):Int),lX 32 (by decide),by omega,by rw[gL];omega,U (out.set (i+k) (t % 4294967296)),iw out (i+k) _ (by omega) (by simp only[aE];omega),((k+1:Nat):Int),wo,?_⟩;intro ρ3 w3 r3
     refine⟨(k+1,out.set (i+k) (t % 4294967296),t / 4294967296,w3),⟨by dsimp only;omega,hw.tr r3.cQ,by simp[QL],Ol.set (bu _ (by decide)),by dsimp only;omega,?_,hz.set (by omega)⟩,
      Sub.gn [] r3,by dsimp only;omega⟩
     have h5:=GY (a:=xi*yk) ho hv ht;dsimp only
     rw[show i+(k+1)=i+k+1 by omega,h5,de hyk,CK,bV,Nat.add_assoc];congr 2;simp only[bh,Nat.mul_left_comm,bW]
    ·have hkn:k=y.ls.length:=by
      have:¬k<y.ls.length:=by simpa using h2
      omega
     subst hkn;obtain⟨o,ho⟩:∃q,out[i+y.ls.length]? =some q:=⟨_,aB (by omega)⟩
     have ho0:=hz _ _ (aF _) ho;subst ho0;refine⟨((i+y.ls.length:Nat):Int),wo,(c:Int),by rw[fC,bP hc],by omega,by rw[gL];omega,U (out.set (i+y.ls.length) c),iw out (i+y.ls.length) _ (by omega) (by simp only[aE];omega),((i+1:Nat):Int),wo,?_⟩;intro ρ3 w3 r3
     refine⟨(i+1,out.set (i+y.ls.length) c,w3),⟨by dsimp only;omega,hw.tr r3.cQ,by simp[QL],Ol.set hc,?_,?_⟩,
      Sub.gn [] r3,by dsimp only;omega⟩
     ·have h5:=xa (x:=c) ho;dsimp only
      rw[bF,RK]at hv;rw[de PZ,Nat.add_mul];omega
     ·intro j z hj hjz;dsimp only at hj;rw[aX (by omega)]at hjz;exact hz j z (by omega) hjz
  ·have Qv:i=x.ls.length:=by
    have:¬i<x.ls.length:=by simpa using h
    omega
   subst Qv;have Sa:val out=n*m:=by rw[hv,bF,Q7]
   refine gW (Φ:=fun O _ v w2=>dL w2 (fun g=>g=(O 0).g) v (dw out)) (H':=[]) 0 rfl (by simp) trivial rfl (fun O w' r=>r.nn 0 _ rfl (by intros;simp) (by simp)) (fun O w' r=>?_) ?_
   ·have hL:=r.nF (id:=0) rfl Ol (by omega);rw[QL]at hL;exact fN (fun g hg=>by rw[hg];exact(r.low 0 _ rfl (r.nn 0 _ rfl (by intros;simp) (by simp))).2) hL
   rintro O w' v w2 r he hb hL;replace hw:=hw.tr hb;have Og:=r.low 0 _ rfl (r.nn 0 _ rfl (by intros;simp) (by simp));generalize (O 0).g=g at*
   have hs:=he.size;intro ρ3 w3 r3;refine⟨_,rfl,hw.tr r3.cQ,dw out,?_,(ef out).2.1,?_⟩
   ·refine(hL.cI fun k hk=>?_).cJ fun k hk=>.inr ?_
    ·rw[hk];exact r3.po.block g (by omega) (by simp)
    ·rw[hk];have:=r3.size;omega
   ·rw[(ef out).1,Sa]
theorem Cq{q:Nat}(ho:o<2^k):o ||| 2^k*q=o+2^k*q:=by
 rw[Nat.or_comm,<-Nat.two_pow_add_eq_or_of_lt ho,Nat.add_comm]
theorem Jv{x y:Nat}(hx:x<18446744073709551616)(hy:y<18446744073709551616):IntKind.u64.wrap ((BitVec.ofInt IntKind.u64.bits x ||| BitVec.ofInt IntKind.u64.bits y).toNat:Int)=((x ||| y:Nat):Int):=by
 have e:∀z:Nat,BitVec.ofInt 64 (z:Int)=BitVec.ofNat 64 z:=fun z=>by
  apply BitVec.eq_of_toNat_eq;simp
 show IntKind.u64.wrap ((BitVec.ofInt 64 x ||| BitVec.ofInt 64 y).toNat:Int)=_;rw[e,e,BitVec.toNat_or,BitVec.toNat_ofNat,BitVec.toNat_ofNat,bP hx,bP hy];exact eW (Nat.or_lt_two_pow (n:=64) hx hy)
theorem Cp(hk:k<=63)(h:a*2^k<18446744073709551616):IntKind.u64.wrap ((a:Int)*2^min ((k:Int)).toNat IntKind.u64.bits)=((a*2^k:Nat):Int):=by
 have h1:min ((k:Int)).toNat IntKind.u64.bits=k:=by show min ((k:Int)).toNat 64=k;omega
 rw[h1,show(a:Int)*2^k=((a*2^k:Nat):Int) by simp];exact eW h
theorem Ga(ha:ls[i]? =some a)(ho:out[i]? =some o)(hz:out[i+1]? =some 0)(hv:val out=val (ls.take i)*2^b):
  val ((out.set i (o+a*2^b % 4294967296)).set (i+1) (a*2^b / 4294967296))=val (ls.take (i+1))*2^b:=by
 have h1:=xa (x:=o+a*2^b % 4294967296) ho;have h2:(out.set i (o+a*2^b % 4294967296))[i+1]? =some 0:=by rw[aX (by omega)];exact hz
 have h3:=xa (x:=a*2^b / 4294967296) h2;rw[de ha,Nat.add_mul,bh];rw[ir]at h3;generalize a*2^b=t at*
 have h4:=Nat.div_add_mod t 4294967296;generalize t / 4294967296=q at*
 generalize t % 4294967296=r at*
 have h5:wt i*(o+r)=wt i*o+wt i*r:=bV _ _ _;have h6:4294967296*wt i*q=wt i*(4294967296*q):=by rw[bW 4294967296 (wt i),bh]
 rw[<-h4,bV];omega
def Jx(w w2:World)(v:Value)(ls:List Nat):Prop:=∃g,v= .slice (some ⟨g,0,none⟩) ls.length ls.length∧w.heap.size<=g∧w2.heap[g]? =some (.cells (U ls).toArray T.uint32 (0,0))∧Lm ls
theorem B7(hS:Old S w)(h:dL w S v ls)(hl:ls.length<=1000000000000)(hb:b<32):
  eD PG N.mH #[v,.int .u64 b] w (eG w fun v' w2=>∃out,Jx w w2 v' out∧out.length=ls.length+1∧val out=val ls*2^b):=by
 obtain⟨x,rfl,rfl⟩:=h.la;refine pn (by simp) ?_;have hp32:2^b<=2^31:=Nat.pow_le_pow_right (by decide) (by omega)
 refine⟨((x.ls.length+1:Nat):Int),wo,x.ls.length+1,x.ls.length+1,rfl,rfl,aF _,by omega,by omega,Nat×List Nat×World,fun z=>⟨[(1,.o (.v (.int .u64 b))),(5,.o (.s 0 0 (x.ls.length+1) (x.ls.length+1))),(13,sV x.a x.ls.length x.c),(14,iZ x.ls.length),(15,iZ z.1)],
   [(0,.arr T.uint32 (U z.2.1))],1,[],z.2.2⟩,fun z=>x.ls.length-z.1,
  fun z=>z.1<=x.ls.length∧eB w.heap.size w z.2.2∧z.2.1.length=x.ls.length+1∧Lm z.2.1∧val z.2.1=val (x.ls.take z.1)*2^b∧Zf z.2.1 (z.1+1)∧(∀o,z.2.1[z.1]? =some o->o<2^b),?_,?_⟩
 ·intro O w' r;rw[sG]at r;refine⟨(0,List.replicate (x.ls.length+1) 0,w'),⟨by simp,r.cQ,by simp,Lm.replicate _,by simp[val,mW],fun j z _ hz=>?_,fun o ho=>?_⟩,Sub.gn [] r⟩
  ·simp only[List.getElem?_replicate]at hz;split at hz<;>simp_all
  ·simp only[List.getElem?_replicate]at ho;split at ho
   ·injection ho with ho;subst ho;exact bo _
   ·cases ho
 ·rintro⟨i,out,w1⟩ ⟨hi,hw,QL,Ol,hv,hz,Og⟩;dsimp only at hi hw QL Ol hv hz Og ⊢;refine dN.mk ?_ ?_<;>intro h
  ·have h:i<x.ls.length:=by simpa using h
   obtain⟨a,PZ⟩:∃k,x.ls[i]? =some k:=⟨_,aB h⟩
   obtain⟨ad,Od,Ot⟩:=x.load hS hw PZ;have Px:=x.lm.at PZ;obtain⟨o,ho⟩:∃q,out[i]? =some q:=⟨_,aB (by omega)⟩
   obtain⟨o1,Up⟩:∃q,out[i+1]? =some q:=⟨_,aB (by omega)⟩
   have e0:=hz _ _ (aF _) Up;subst e0;have Rz:=Og o ho;have Ok:=Ga PZ ho Up hv;have Pg:a*2^b<=4294967295*2^31:=Nat.mul_le_mul (by omega) hp32;have Sd:a*2^b / 4294967296<2^b:=by
    rw[Nat.div_lt_iff_lt_mul (by decide),bW (2^b)];exact Nat.mul_lt_mul_of_pos_right Px (bo b)
   have To:o ||| a*2^b % 4294967296=o+a*2^b % 4294967296:=by
    have:a*2^b % 4294967296=2^b*(a % 2^(32-b)):=by
     rw[show (4294967296:Nat)=2^(32-b)*2^b by rw[<-Nat.pow_add,Nat.sub_add_cancel (by omega)],Nat.mul_mod_mul_right,bW]
    rw[this];exact Cq Rz
   have SN:o+a*2^b % 4294967296<4294967296:=by
    rw[<-To];exact DI (by omega) (bu _ (by decide))
   refine⟨ad,Od,by omega,.int .u32 a,Ot _ _ _,(a:Int),eW (by omega),by omega,((a*2^b:Nat):Int),Cp (by omega) (by omega),?_⟩;generalize ht:a*2^b=t at*
   refine⟨by omega,.int .u32 o,by rw[aE,aQ,aS];exact tt ho,((t % 4294967296:Nat):Int),fC _,((o+t % 4294967296:Nat):Int),by rw[<-To];exact No (by omega) (bu _ (by decide)),by omega,by rw[gL];omega,U (out.set i (o+t % 4294967296)),iw out i _ (by omega) (by simp),((i+1:Nat):Int),wo,by decide,((t / 4294967296:Nat):Int),lX 32 (by decide),((t / 4294967296:Nat):Int),by rw[fC];omega,by omega,by rw[gL];simp;omega,U ((out.set i (o+t % 4294967296)).set (i+1) (t / 4294967296)),iw _ (i+1) _ (by simp;omega) (by simp only[aE];omega),((i+1:Nat):Int),wo,?_⟩;intro ρ3 w3 r3
   refine⟨(i+1,(out.set i (o+t % 4294967296)).set (i+1) (t / 4294967296),w3),⟨by dsimp only;omega,hw.tr r3.cQ,by simp[QL],(Ol.set SN).set (by omega),Ok,fun j z hj hjz=>?_,fun o2 TR=>?_⟩,
    Sub.gn [] r3,by dsimp only;omega⟩
   ·dsimp only at hj;rw[aX (by omega),aX (by omega)]at hjz;exact hz j z (by omega) hjz
   ·rw[aW (by simp;omega)]at TR;injection TR with TR;omega
  ·have Qv:i=x.ls.length:=by
    have:¬i<x.ls.length:=by simpa using h
    omega
   subst Qv;rw[bF]at hv;intro ρ3 w3 r3;refine⟨_,rfl,hw.tr r3.cQ,out,⟨(ρ3 0).g,by rw[QL];rfl,(r3.low 0 _ rfl (r3.nn 0 _ rfl (by intros;simp) (by simp))).1,r3.arr 0 _ _ rfl,Ol⟩,QL,hv⟩
theorem CC{d q:Nat}(ha32:a<4294967296)(ha:ls[i]? =some a)(hd:out[i]? =some d)(hb:b<=32)(ht:t=a+4294967296*ls.getD (i+1) 0)(hq:q=t / 2^b % 4294967296)(hv:val (out.take i)+wt i*(val (ls.drop i) / 2^b)=V):
  val ((out.set i q).take (i+1))+wt (i+1)*(val (ls.drop (i+1)) / 2^b)=V:=by
 have hi:=(aD.1 hd).1;have h1:(out.set i q)[i]? =some q:=by rw[aW hi]
 rw[de h1,List.take_set_of_le (aF _),ir,<-hv];have hN:=jC ha;have h2:val (ls.drop i) / 2^b=q+4294967296*(val (ls.drop (i+1)) / 2^b):=by
  have e1:val (ls.drop i) / 2^b / 4294967296=val (ls.drop (i+1)) / 2^b:=by
   rw[Nat.div_div_eq_div_mul,bW,<-Nat.div_div_eq_div_mul];congr 1;omega
  have e2:val (ls.drop i) / 2^b % 4294967296=q:=by
   have h3:∃z,val (ls.drop i)=t+2^b*(4294967296*z):=by
    cases hx:ls[i+1]? with
    |some y=>
     have:=jC hx;refine⟨2^(32-b)*val (ls.drop (i+1+1)),?_⟩;have h4:2^b*(4294967296*(2^(32-b)*val (ls.drop (i+1+1))))=18446744073709551616*val (ls.drop (i+1+1)):=by
      rw[Nat.mul_left_comm,<-bh (2^b),<-Nat.pow_add,Nat.add_sub_cancel' hb,<-bh]
     rw[h4,hN,this,ht,List.getD,hx];simp only[Option.getD_some]
     omega
    |none=>
     refine⟨0,?_⟩;have h5:ls.length<=i+1:=List.getElem?_eq_none_iff.1 hx;rw[hN,List.drop_of_length_le h5,ht,List.getD,hx];simp[val]
   obtain⟨z,hz⟩:=h3;rw[hz,Nat.add_mul_div_left _ _ (bo b),Nat.add_mul_mod_self_left,hq]
  have:=Nat.div_add_mod (val (ls.drop i) / 2^b) 4294967296;rw[e1,e2]at this;omega
 rw[h2,bV,bW 4294967296 (wt i),bh];omega
theorem Mu(hS:Old S w)(h:dL w S v ls)(hl:ls.length<=1000000000000)(hb:b<32):
  eD PG N.pY #[v,.int .u64 b] w (eG w fun v' w2=>dx w2 (Nf w w2) v' (val ls / 2^b)):=by
 obtain⟨x,rfl,rfl⟩:=h.la;refine tp (by simp) ?_
 refine⟨x.ls.length,x.ls.length,rfl,rfl,aF _,by omega,by omega,Nat×List Nat×World,fun z=>⟨[(0,sV x.a x.ls.length x.c),(1,.o (.v (.int .u64 b))),(5,.o (.s 0 0 x.ls.length x.ls.length)),(12,iZ x.ls.length),(13,iZ z.1)],
   [(0,.arr T.uint32 (U z.2.1))],1,[],z.2.2⟩,fun z=>x.ls.length-z.1,
  fun z=>z.1<=x.ls.length∧eB w.heap.size w z.2.2∧z.2.1.length=x.ls.length∧Lm z.2.1∧val (z.2.1.take z.1)+wt z.1*(val (x.ls.drop z.1) / 2^b)=val x.ls / 2^b,?_,?_⟩
 ·intro O w' r;rw[sG]at r;exact⟨(0,List.replicate x.ls.length 0,w'),⟨by simp,r.cQ,by simp,Lm.replicate _,by simp[val,jL]⟩,Sub.gn [] r⟩
 ·rintro⟨i,out,w1⟩ ⟨hi,hw,QL,Ol,hv⟩;dsimp only at hi hw QL Ol hv ⊢;refine dN.mk ?_ ?_<;>intro h
  ·have h:i<x.ls.length:=by simpa using h
   obtain⟨a,PZ⟩:∃k,x.ls[i]? =some k:=⟨_,aB h⟩
   obtain⟨ad,Od,Ot⟩:=x.load hS hw PZ;have Px:=x.lm.at PZ;obtain⟨d,hd⟩:∃q,out[i]? =some q:=⟨_,aB (by omega)⟩
   refine⟨ad,Od,by omega,.int .u32 a,Ot _ _ _,(a:Int),eW (by omega),((i+1:Nat):Int),wo,?_⟩;refine dN.mk ?_ ?_<;>intro h2
   ·have h2:i+1<x.ls.length:=by
     have:((i+1:Nat):Int)<x.ls.length:=aI h2;omega
    obtain⟨y,hy⟩:∃k,x.ls[i+1]? =some k:=⟨_,aB h2⟩
    obtain⟨ad2,PR,Qa⟩:=x.load hS hw hy;have hy32:=x.lm.at hy;have RD:x.ls.getD (i+1) 0=y:=by simp[List.getD,hy]
    have To:a ||| y*2^32=a+4294967296*y:=by
     rw[bW];exact Cq (k:=32) Px
    refine⟨((i+1:Nat):Int),wo,ad2,PR,by omega,.int .u32 y,Qa _ _ _,(y:Int),eW (by omega),by decide,((y*2^32:Nat):Int),Cp (k:=32) (by decide) (by omega),((a+4294967296*y:Nat):Int),by rw[Jv (by omega) (by omega),To],by omega,(((a+4294967296*y) / 2^b:Nat):Int),lX b (by omega),(((a+4294967296*y) / 2^b % 4294967296:Nat):Int),fC _,?_⟩;have Ok:=CC (t:=a+4294967296*y) Px PZ hd (by omega) (by rw[RD]) rfl hv;generalize hq:(a+4294967296*y) / 2^b % 4294967296=q at*
    have hq32:q<4294967296:=by rw[<-hq];exact bu _ (by decide)
    refine⟨by omega,by rw[gL];omega,U (out.set i q),iw out i _ (by omega) (by simp),((i+1:Nat):Int),wo,?_⟩;intro ρ3 w3 r3
    exact⟨(i+1,out.set i q,w3),⟨by dsimp only;omega,hw.tr r3.cQ,by simp[QL],Ol.set hq32,Ok⟩,
     Sub.gn [] r3,by dsimp only;omega⟩
   ·have h2:¬i+1<x.ls.length:=by
     have:¬((i+1:Nat):Int)<x.ls.length:=aH h2;omega
    have RD:x.ls.getD (i+1) 0=0:=by simp[List.getD,List.getElem?_eq_none (show x.ls.length<=i+1 by omega)]
    refine⟨by omega,((a / 2^b:Nat):Int),lX b (by omega),((a / 2^b % 4294967296:Nat):Int),fC _,?_⟩;have Ok:=CC (t:=a) Px PZ hd (by omega) (by rw[RD];omega) rfl hv;generalize hq:a / 2^b % 4294967296=q at*
    have hq32:q<4294967296:=by rw[<-hq];exact bu _ (by decide)
    refine⟨by omega,by rw[gL];omega,U (out.set i q),iw out i _ (by omega) (by simp),((i+1:Nat):Int),wo,?_⟩;intro ρ3 w3 r3
    exact⟨(i+1,out.set i q,w3),⟨by dsimp only;omega,hw.tr r3.cQ,by simp[QL],Ol.set hq32,Ok⟩,
     Sub.gn [] r3,by dsimp only;omega⟩
  ·have Qv:i=x.ls.length:=by
    have:¬i<x.ls.length:=by simpa using h
    omega
   subst Qv;have Sa:val out=val x.ls / 2^b:=by
    rw[List.drop_length,List.take_of_length_le (by omega)]at hv;simpa [val]using hv
   refine gW (Φ:=fun O _ v w2=>dL w2 (fun g=>g=(O 0).g) v (dw out)) (H':=[]) 0 rfl (by simp) trivial rfl (fun O w' r=>r.nn 0 _ rfl (by intros;simp) (by simp)) (fun O w' r=>?_) ?_
   ·have hL:=r.nF (id:=0) rfl Ol (by omega);rw[QL]at hL;exact fN (fun g hg=>by rw[hg];exact(r.low 0 _ rfl (r.nn 0 _ rfl (by intros;simp) (by simp))).2) hL
   rintro O w' v w2 r he hb hL;replace hw:=hw.tr hb;have Og:=r.low 0 _ rfl (r.nn 0 _ rfl (by intros;simp) (by simp));generalize (O 0).g=g at*
   have hs:=he.size;intro ρ3 w3 r3;refine⟨_,rfl,hw.tr r3.cQ,dw out,?_,(ef out).2.1,?_⟩
   ·refine(hL.cI fun k hk=>?_).cJ fun k hk=>.inr ?_
    ·rw[hk];exact r3.po.block g (by omega) (by simp)
    ·rw[hk];have:=r3.size;omega
   ·rw[(ef out).1,Sa]
theorem Gb{by_ rest x d:Nat}(hx:ls[k]? =some x)(hd:out[k]? =some d)(ht:t=rest*4294967296+x)
  (hv:val (ls.drop (k+1))=by_*val (out.drop (k+1))+rest):val (ls.drop k)=by_*val ((out.set k (t / by_)).drop k)+t % by_:=by
 have hi:=(aD.1 hd).1;have h1:(out.set k (t / by_))[k]? =some (t / by_):=by rw[aW hi]
 rw[jC h1,List.drop_set_of_lt (show k<k+1 by omega),jC hx,hv,bV,bV];have h2:=Nat.div_add_mod t by_;rw[Nat.mul_left_comm by_];omega
theorem Jw(h:t<18446744073709551616):IntKind.u64.wrap ((t:Int).tdiv (b:Int))=((t / b:Nat):Int):=by
 have h1:=Nat.div_le_self t b;rw[Int.tdiv_eq_ediv_of_nonneg (by omega),<-Int.natCast_ediv];exact eW (by omega)
theorem Kn(t b:Nat):(t:Int).tmod (b:Int)=((t % b:Nat):Int):=by
 rw[Int.tmod_eq_emod_of_nonneg (by omega),<-Int.natCast_emod]
theorem Li(hS:Old S w)(h:dL w S v ls)(hl:ls.length<=1000000000000)(hb:0<b)(QH:b<4294967296):
  eD PG N.oZ #[v,.int .u32 b] w (eG w fun v' w2=>∃q,v'= .tuple #[q,.int .u32 ((val ls % b:Nat):Int)]∧dx w2 (Nf w w2) q (val ls / b)):=by
 obtain⟨x,rfl,rfl⟩:=h.la;refine sD (by simp) ?_
 refine⟨x.ls.length,x.ls.length,rfl,rfl,aF _,by omega,by omega,(x.ls.length:Int)-1,wo,Nat×Nat×List Nat×World,fun z=>⟨[(0,sV x.a x.ls.length x.c),(1,.o (.v (.int .u32 b))),(4,sV none 0 0),(5,.o (.v (.int .u32 0))),(6,.o (.s 0 0 x.ls.length x.ls.length)),(7,.o (.v (.int .u64 z.2.1))),(8,.o (.v (.int .i64 ((z.1:Int)-1))))],
   [(0,.arr T.uint32 (U z.2.2.1))],1,[],z.2.2.2⟩,fun z=>z.1,
  fun z=>z.1<=x.ls.length∧eB w.heap.size w z.2.2.2∧z.2.2.1.length=x.ls.length∧Lm z.2.2.1∧z.2.1<b∧val (x.ls.drop z.1)=b*val (z.2.2.1.drop z.1)+z.2.1,?_,?_⟩
 ·intro O w' r;rw[sG]at r;exact⟨(x.ls.length,0,List.replicate x.ls.length 0,w'),⟨by simp,r.cQ,by simp,Lm.replicate _,by simpa using hb,by simp[val]⟩,Sub.gn [] r⟩
 ·rintro⟨k,rest,out,w1⟩ ⟨hi,hw,QL,Ol,hr,hv⟩;dsimp only at hi hw QL Ol hr hv ⊢;refine dN.mk ?_ ?_<;>intro h
  ·have h:(k:Int)-1≥0:=aI h;obtain⟨k,rfl⟩:∃q,k=q+1:=⟨k-1,by omega⟩
   rw[show ((k+1:Nat):Int)-1=(k:Int) by omega];obtain⟨a,PZ⟩:∃q,x.ls[k]? =some q:=⟨_,aB (by omega)⟩
   obtain⟨ad,Od,Ot⟩:=x.load hS hw PZ;have Px:=x.lm.at PZ;obtain⟨d,hd⟩:∃q,out[k]? =some q:=⟨_,aB (by omega)⟩
   refine⟨by decide,((rest*2^32:Nat):Int),Cp (k:=32) (by decide) (by omega),ad,Od,by omega,.int .u32 a,Ot _ _ _,(a:Int),eW (by omega),?_⟩;have To:rest*2^32 ||| a=rest*4294967296+a:=by
    rw[Nat.or_comm,bW,Cq (k:=32) Px];omega
   refine⟨((rest*4294967296+a:Nat):Int),by rw[Jv (by omega) (by omega),To],?_⟩;generalize ht:rest*4294967296+a=t;have ht64:t<18446744073709551616:=by omega
   refine cN hτ dm [.x 0,.x 1,.x 2,.x 3,.x 4,.x 5,.x 6,.x 7,.x 8,.x 9,.x 10,.x 11,.x 12,.x 13] (by kernel_rfl) (by kernel_rfl) ?_;refine⟨(b:Int),eW (by omega),by omega,((t / b:Nat):Int),Jw ht64,?_⟩;have hq:t / b<4294967296:=by
    rw[Nat.div_lt_iff_lt_mul hb];have:=Nat.mul_le_mul_right 4294967296 hr;rw[Nat.succ_eq_add_one,Nat.add_mul]at this;omega
   have hm:t % b<b:=bu _ hb;have Ok:=Gb PZ hd ht.symm hv;have hw32:IntKind.u32.wrap ((t / b:Nat):Int)=((t / b:Nat):Int):=by rw[fC,bP hq]
   have hrem:=Kn t b;generalize t / b=q at*
   generalize t % b=m at*
   refine⟨(q:Int),hw32,(b:Int),eW (by omega),by omega,(m:Int),hrem,by omega,by rw[gL];omega,U (out.set k q),iw out k _ (by omega) (by simp),(k:Int)-1,wo,?_⟩;intro ρ3 w3 r3
   exact⟨(k,m,out.set k q,w3),⟨by dsimp only;omega,hw.tr r3.cQ,by simp[QL],Ol.set hq,hm,Ok⟩,
    Sub.gn [] r3,by dsimp only;omega⟩
  ·have SA:k=0:=by
    have:¬(k:Int)-1≥0:=aH h;omega
   subst SA;rw[List.drop_zero,List.drop_zero]at hv;have hdm:val x.ls / b=val out∧val x.ls % b=rest:=by
    rw[hv];exact⟨by rw[Nat.mul_add_div hb,Nat.div_eq_of_lt hr,bz],by rw[Nat.mul_add_mod,bP hr]⟩
   rw[hdm.1,hdm.2];refine gW (Φ:=fun O _ v w2=>dL w2 (fun g=>g=(O 0).g) v (dw out)) (H':=[]) 0 rfl (by simp) trivial rfl (fun O w' r=>r.nn 0 _ rfl (by intros;simp) (by simp)) (fun O w' r=>?_) ?_
   ·have hL:=r.nF (id:=0) rfl Ol (by omega);rw[QL]at hL;exact fN (fun g hg=>by rw[hg];exact(r.low 0 _ rfl (r.nn 0 _ rfl (by intros;simp) (by simp))).2) hL
   rintro O w' v w2 r he hb hL;replace hw:=hw.tr hb;have Og:=r.low 0 _ rfl (r.nn 0 _ rfl (by intros;simp) (by simp));generalize (O 0).g=g at*
   have hs:=he.size;refine⟨(rest:Int),by rw[fC,bP (by omega)],?_⟩;intro ρ3 w3 r3;refine⟨_,rfl,hw.tr r3.cQ,v,rfl,dw out,?_,(ef out).2.1,(ef out).1⟩;refine(hL.cI fun k hk=>?_).cJ fun k hk=>.inr ?_
   ·rw[hk];exact r3.po.block g (by omega) (by simp)
   ·rw[hk];have:=r3.size;omega
def gY(n:Nat):Nat:=if n=0 then 0 else n.log2+1
theorem Jr{x:Nat}(h:2^k<=x):x.log2=(x / 2^k).log2+k:=by
 have hp:=bo k;have hy:x / 2^k≠0:=by have:=Nat.div_pos h hp;omega
 have h1:=Nat.log2_self_le hy;have h2:=@Nat.lt_log2_self (x / 2^k);rw[Nat.log2_eq_iff (by omega)];refine⟨?_,?_⟩
 ·rw[Nat.pow_add];exact(Nat.le_div_iff_mul_le hp).1 h1
 ·rw[show (x / 2^k).log2+k+1=(x / 2^k).log2+1+k by omega,Nat.pow_add];exact(Nat.div_lt_iff_lt_mul hp).1 h2
theorem zl{x:Nat}(h:2^k<=x):gY x=k+gY (x / 2^k):=by
 have hp:=bo k;have hy:x / 2^k≠0:=by have:=Nat.div_pos h hp;omega
 rw[gY,gY,aK hy,aK (by omega),Jr h];omega
theorem xg(h:n<256):IntKind.u8.wrap (n:Int)=(n:Int):=by
 show((n:Int) % 256)=_;omega
theorem xh(h:n<256):(UInt8.ofNat (gY n)).toNat=gY n:=by
 have:∀n,n<256->(UInt8.ofNat (gY n)).toNat=gY n:=by decide +kernel
 exact this n h
theorem oB{x:Nat}(h:x<256):gY x<=8:=by
 have:∀n,n<256->gY n<=8:=by decide +kernel
 exact this x h
theorem HG(n:Nat)(h:n<256):(⟨#[0,1,2,2,3,3,3,3,4,4,4,4,4,4,4,4,5,5,5,5,5,5,5,5,5,5,5,5,5,5,5,5,6,6,6,6,6,6,6,6,6,6,6,6,6,6,6,6,6,6,6,6,6,6,6,6,6,6,6,6,6,6,6,6,7,7,7,7,7,7,7,7,7,7,7,7,7,7,7,7,7,7,7,7,7,7,7,7,7,7,7,7,7,7,7,7,7,7,7,7,7,7,7,7,7,7,7,7,7,7,7,7,7,7,7,7,7,7,7,7,7,7,7,7,7,7,7,7,8,8,8,8,8,8,8,8,8,8,8,8,8,8,8,8,8,8,8,8,8,8,8,8,8,8,8,8,8,8,8,8,8,8,8,8,8,8,8,8,8,8,8,8,8,8,8,8,8,8,8,8,8,8,8,8,8,8,8,8,8,8,8,8,8,8,8,8,8,8,8,8,8,8,8,8,8,8,8,8,8,8,8,8,8,8,8,8,8,8,8,8,8,8,8,8,8,8,8,8,8,8,8,8,8,8,8,8,8,8,8,8,8,8,8,8,8,8,8,8,8,8,8,8,8,8,8,8]⟩:ByteArray)[((n:Nat):Int).toNat]? =some (UInt8.ofNat (gY n)):=by
 have:∀n,n<256->(⟨#[0,1,2,2,3,3,3,3,4,4,4,4,4,4,4,4,5,5,5,5,5,5,5,5,5,5,5,5,5,5,5,5,6,6,6,6,6,6,6,6,6,6,6,6,6,6,6,6,6,6,6,6,6,6,6,6,6,6,6,6,6,6,6,6,7,7,7,7,7,7,7,7,7,7,7,7,7,7,7,7,7,7,7,7,7,7,7,7,7,7,7,7,7,7,7,7,7,7,7,7,7,7,7,7,7,7,7,7,7,7,7,7,7,7,7,7,7,7,7,7,7,7,7,7,7,7,7,7,8,8,8,8,8,8,8,8,8,8,8,8,8,8,8,8,8,8,8,8,8,8,8,8,8,8,8,8,8,8,8,8,8,8,8,8,8,8,8,8,8,8,8,8,8,8,8,8,8,8,8,8,8,8,8,8,8,8,8,8,8,8,8,8,8,8,8,8,8,8,8,8,8,8,8,8,8,8,8,8,8,8,8,8,8,8,8,8,8,8,8,8,8,8,8,8,8,8,8,8,8,8,8,8,8,8,8,8,8,8,8,8,8,8,8,8,8,8,8,8,8,8,8,8,8,8,8,8]⟩:ByteArray)[n]? =some (UInt8.ofNat (gY n)):=by decide +kernel
 exact this n h
theorem Le(x:Nat)(w:World)(hx:x<4294967296):eD PG N.zP #[.int .u32 x] w (eG w fun v _=>v= .int .i64 (gY x)):=by
 refine Ah (by simp) ?_;refine dN.mk ?_ ?_<;>intro h
 ·have h:65536<=x:=by have:=aI h;omega
  refine⟨by decide,((x / 2^16:Nat):Int),oC 16 (by decide),?_⟩;have hb:=zl (k:=16) h;have hy:x / 2^16<65536:=by omega
  rw[hb];generalize x / 2^16=y at*
  refine dN.mk ?_ ?_<;>intro h2
  ·have h2:256<=y:=by have:=aI h2;omega
   refine⟨by decide,((y / 2^8:Nat):Int),oC 8 (by decide),?_⟩;have QH:=zl (k:=8) h2;have hz:y / 2^8<256:=by omega
   rw[QH];generalize y / 2^8=z at*
   refine⟨24,by decide,(z:Int),xg hz,?_⟩;refine qL (b:=UInt8.ofNat (gY z)) ((hτ _ _ rfl).i3 rfl) rfl rfl (by omega) (HG z hz) (fun ρ1 w1 r1=>?_);rw[xh hz];have ht:=oB hz;refine⟨(gY z:Int),wo,((24+gY z:Nat):Int),wo,?_⟩;intro ρ3 w3 r3;exact⟨_,rfl,r1.cQ.tr r3.cQ,by rw[<-Nat.add_assoc];rfl⟩
  ·have hy:y<256:=by have:=aH h2;omega
   refine⟨(y:Int),xg hy,?_⟩;refine qL (b:=UInt8.ofNat (gY y)) ((hτ _ _ rfl).i3 rfl) rfl rfl (by omega) (HG y hy) (fun ρ1 w1 r1=>?_);rw[xh hy];have ht:=oB hy;refine⟨(gY y:Int),wo,((16+gY y:Nat):Int),wo,?_⟩;intro ρ3 w3 r3;exact⟨_,rfl,r1.cQ.tr r3.cQ,by rfl⟩
 ·have h:x<65536:=by have:=aH h;omega
  refine dN.mk ?_ ?_<;>intro h2
  ·have h2:256<=x:=by have:=aI h2;omega
   refine⟨by decide,((x / 2^8:Nat):Int),oC 8 (by decide),?_⟩;have QH:=zl (k:=8) h2;have hz:x / 2^8<256:=by omega
   rw[QH];generalize x / 2^8=z at*
   refine⟨8,by decide,(z:Int),xg hz,?_⟩;refine qL (b:=UInt8.ofNat (gY z)) ((hτ _ _ rfl).i3 rfl) rfl rfl (by omega) (HG z hz) (fun ρ1 w1 r1=>?_);rw[xh hz];have ht:=oB hz;refine⟨(gY z:Int),wo,((8+gY z:Nat):Int),wo,?_⟩;intro ρ3 w3 r3;exact⟨_,rfl,r1.cQ.tr r3.cQ,by rfl⟩
  ·have hx:x<256:=by have:=aH h2;omega
   refine⟨(x:Int),xg hx,?_⟩;refine qL (b:=UInt8.ofNat (gY x)) ((hτ _ _ rfl).i3 rfl) rfl rfl (by omega) (HG x hx) (fun ρ1 w1 r1=>?_);rw[xh hx];have ht:=oB hx;refine⟨(gY x:Int),wo,((0+gY x:Nat):Int),wo,?_⟩;intro ρ3 w3 r3;exact⟨_,rfl,r1.cQ.tr r3.cQ,by rw[aQ];rfl⟩
theorem xb{x:Nat}:gY x<=k↔x<2^k:=by
 unfold gY;by_cases h:x=0
 ·rw[if_pos h,h];exact⟨fun _=>bo k,fun _=>aO _⟩
 ·rw[aK h];constructor
  ·intro h1;exact(Nat.log2_lt h).1 (by omega)
  ·intro h1;have:=(Nat.log2_lt h).2 h1;omega
theorem Ms(x:Nat)(w:World)(hx:x<4294967296):eD PG N.kX #[.int .u32 x] w (eG w fun v _=>v= .int .i64 ((32-gY x:Nat):Int)):=by
 refine oA (by simp) ?_;refine cD (cO (Φ:=fun _ _ v _=>v= .int .i64 (gY x)) (fun O w' r=>Le x w' hx) ?_);rintro O w' v w2 r he hb rfl;have h32:gY x<=32:=xb.2 hx;refine⟨((32-gY x:Nat):Int),wo,?_⟩;intro ρ3 w3 r3;exact⟨_,rfl,hb.tr r3.cQ,rfl⟩
end Go.Ex
namespace Go.Sx
open Go Go.Ex Go.Proofs
variable{ls:List Nat}{O:Nat->Sx.dg}
theorem Rel.Js{H:Hp}{nx:Nat}{iv:Iv}{B:Nat}{w w':World}(r:Rel H nx iv B w O w'){id t m:Nat}(h:dB H id=some (.vec t 1 (U ls)))(hm:m=ls.length)(PM:Lm ls)(hle:ls.length<=9223372036854775807):
  dL w' (fun g=>B<=g∧g<w'.heap.size) ((At.w id m).den O) ls:=by
 subst hm;rcases r.vec id t 1 _ h with⟨hn,hu⟩|⟨hn,spare,hb,hc,Q5⟩
 ·have hl:ls=[]:=by cases ls with
   |nil=>rfl
   |cons a b=>simp[U]at hu
  subst hl;have:(At.w id ([]:List Nat).length).den O= .slice none 0 0:=by simp[At.den,hn]
  rw[this];exact dL.nil _ _
 ·refine⟨PM,hle,some ⟨(O id).g,0,none⟩,(O id).cap,by simp[At.den,hn],?_,fun j x hx=>⟨_,rfl,r.low id _ h hn,?_⟩⟩
  ·have h1:(U ls++spare).length=ls.length+spare.length:=by rw[List.length_append,gL]
   omega
  ·rw[dQ,cell_of hb,aQ,aL (by rw[gL];exact(aD.1 hx).1)];exact tt hx
end Go.Sx
namespace Go.Ex
open Go Go.Sx Go.Proofs
variable{ls:List Nat}{S:Nat->Prop}
theorem Lf:PG.underlying T.nat=some (.slice T.uint32):=by
 have h:=(hτ T.nat _ rfl).i4 rfl;exact h
theorem HH{w:World}{v:Value}(hS:Old S w)(h:dL w S v ls)(hl:ls.length<=1000000000000):
  eD PG N.fw #[v] w (eG w fun v' w2=>dL w2 (Nf w w2) v' ls):=by
 obtain⟨x,rfl,rfl⟩:=h.la;refine ia (by simp) ?_;refine⟨x.a.isNone,fun O w1 o1 o2=>by simp[eqGuard,SV.den,At.den,mm (P:=PG) w1 T.nat T.uint32 x.a x.ls.length x.c 0 0 Lf],?_⟩;refine dN.mk ?_ ?_<;>intro h
 ·intro ρ3 w3 r3;have hn:x.ls=[]:=by
   cases hx:x.ls with
   |nil=>rfl
   |cons u r=>
    obtain⟨ad,h1,_⟩:=x.cell 0 u (by rw[hx];rfl);rw[h1]at h;simp at h
  exact⟨_,rfl,r3.cQ,by rw[hn];exact dL.nil _ _⟩
 ·refine .inl ?_;refine⟨U x.ls,by rw[gL,aS],fun u hu=>by simp only[U,aT]at hu;obtain⟨n,_,rfl⟩:=hu;rfl,fun O w1 r h0=>?_,?_⟩
  ·obtain⟨u,hu⟩:∃q,x.ls[0]? =some q:=⟨_,aB h0⟩
   obtain⟨ad,Od,_⟩:=x.cell 0 u hu;refine⟨ad,Od,fun j u hu=>?_⟩;simp only[U,aN,Option.map_eq_some_iff]at hu;obtain⟨n,hn,rfl⟩:=hu;obtain⟨ad2,PR,hs,hc⟩:=x.cell j n hn;rw[Od]at PR;injection PR with PR;subst PR;exact kM hS eB.refl r hs hc
  refine⟨rfl,by omega,by unfold maxLen;omega,?_⟩;intro ρ3 w3 r3;exact⟨_,rfl,r3.cQ,(r3.Js (id:=1) rfl (aQ _) x.lm x.le).cJ fun g hg=>.inr hg⟩
end Go.Ex
