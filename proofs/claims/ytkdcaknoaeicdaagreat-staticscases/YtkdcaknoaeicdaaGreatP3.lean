/- Texts L1 to X10: lemmas, each with its conditions. -/
import Derived.KernelRfl
import Derived.Test.YtkdcaknoaeicdaaGreatProg
import Derived.Test.YtkdcaknoaeicdaaGreatP2
namespace Go.Ex
variable{a b ls:List Nat}{k:Nat}
def val:List Nat->Nat
 |[]=>0
 |x::r=>x+4294967296*val r
def Lm(ls:List Nat):Prop:=∀x∈ls,x<4294967296
def wt(k:Nat):Nat:=4294967296^k
theorem j3:wt 0=1:=rfl
theorem jG(k:Nat):wt (k+1)=4294967296*wt k:=by rw[wt,Nat.pow_succ,bX];rfl
theorem Dj(a b:Nat):wt (a+b)=wt a*wt b:=by rw[wt,Nat.pow_add];rfl
theorem zi(k:Nat):0<wt k:=Nat.pow_pos (by decide)
theorem mB(a b:List Nat):val (a++b)=val a+wt a.length*val b:=by
 induction a with
 |nil=>simp[val,j3]
 |cons x r ih=>
  rw[List.cons_append,val,val,ih,List.length_cons,jG,bW,bg];omega
theorem o6(h:Lm ls):val ls<wt ls.length:=by
 induction ls with
 |nil=>exact Nat.one_pos
 |cons x r ih=>
  have h1:=h x (by simp);have h2:=ih (fun y hy=>h y (by simp[hy]));rw[val,List.length_cons,jG];have:4294967296*(val r+1)<=4294967296*wt r.length:=bc _ h2;omega
theorem ek(ls:List Nat)(k:Nat)(h:k<=ls.length):val ls=val (ls.take k)+wt k*val (ls.drop k):=by
 have:=mB (ls.take k) (ls.drop k);rw[List.take_append_drop,aW,Nat.min_eq_left h]at this;exact this
theorem dg{x:Nat}(h:ls[k]? =some x):val (ls.take (k+1))=val (ls.take k)+wt k*x:=by
 have hk:=(aD.1 h).1;rw[List.take_add_one,h,mB,aW,Nat.min_eq_left (by omega)];simp[val]
theorem jT{x:Nat}(h:ls[k]? =some x):val (ls.drop k)=x+4294967296*val (ls.drop (k+1)):=by
 obtain⟨hk,hx⟩:=aD.1 h;rw[List.drop_eq_getElem_cons hk,hx,val]
theorem zD{o x:Nat}(h:ls[k]? =some o):val (ls.set k x)+wt k*o=val ls+wt k*x:=by
 obtain⟨hk,ho⟩:=aD.1 h;have h1:=ek ls k (by omega);have h2:=ek (ls.set k x) k (by simp;omega);rw[List.take_set_of_le (aF _)]at h2;rw[jT h,bW]at h1;have h3:(ls.set k x)[k]? =some x:=by rw[aV hk]
 rw[jT h3,List.drop_set_of_lt (by omega),bW]at h2;omega
theorem nN(n:Nat):val (List.replicate n 0)=0:=by
 induction n with
 |zero=>rfl
 |succ n ih=>rw[List.replicate_succ,val,ih]
theorem Lm.set{x:Nat}(h:Lm ls)(hx:x<4294967296):Lm (ls.set k x):=fun y hy=>by
 rcases bF hy with h1|rfl
 ·exact h y h1
 ·exact hx
theorem Lm.replicate(n:Nat):Lm (List.replicate n 0):=fun x hx=>by rw[List.mem_replicate]at hx;omega
theorem Lm.take(h:Lm ls)(k:Nat):Lm (ls.take k):=fun x hx=>h x (List.mem_of_mem_take hx)
theorem Lm.drop(h:Lm ls)(k:Nat):Lm (ls.drop k):=fun x hx=>h x (List.mem_of_mem_drop hx)
theorem Lm.append(ha:Lm a)(hb:Lm b):Lm (a++b):=fun x hx=>by
 rcases bK.1 hx with h|h
 ·exact ha x h
 ·exact hb x h
theorem Lm.at(h:Lm ls){x:Nat}(hx:ls[k]? =some x):x<4294967296:=h x (aC hx)
def eA:List Nat->List Nat
 |[]=>[]
 |x::r=>match eA r with
  |[]=>if x=0 then []else [x]
  |y::t=>x::y::t
def Nz(ls:List Nat):Prop:=∀x,ls.getLast? =some x->x≠0
theorem lC(ls:List Nat):eA (ls++[0])=eA ls:=by
 induction ls with
 |nil=>rfl
 |cons x r ih=>rw[List.cons_append,eA,ih,eA]
theorem o7(ls:List Nat){x:Nat}(hx:x≠0):eA (ls++[x])=ls++[x]:=by
 induction ls with
 |nil=>simp[eA,hx]
 |cons y r ih=>
  rw[List.cons_append,eA,ih]
  cases r<;>rfl
theorem so(ls:List Nat):ls=[]∨∃a x,ls=a++[x]:=by
 rcases List.eq_nil_or_concat ls with h|⟨a,x,h⟩
 ·exact .inl h
 ·exact .inr ⟨a,x,by simpa using h⟩
theorem fC(ls:List Nat):val (eA ls)=val ls∧Nz (eA ls)∧∃k,k<=ls.length∧eA ls=ls.take k:=by
 have key:∀(n:Nat) (ls:List Nat),ls.length=n->val (eA ls)=val ls∧Nz (eA ls)∧∃k,k<=ls.length∧eA ls=ls.take k:=by
  intro n
  induction n with
  |zero=>intro ls h;have:ls=[]:=List.eq_nil_of_length_eq_zero h;subst this;exact⟨rfl,by simp[Nz,eA],0,aF _,rfl⟩
  |succ n ih=>
   intro ls h;rcases so ls with rfl|⟨a,x,rfl⟩
   ·simp at h
   ·by_cases hx:x=0
    ·subst hx;rw[lC];obtain⟨h1,h2,k,h3,h4⟩:=ih a (by simp at h;omega);refine⟨by rw[h1,mB];simp[val],h2,k,by simp;omega,?_⟩;rw[h4,List.take_append_of_le_length h3]
    ·rw[o7 a hx];refine⟨rfl,?_,_,aF _,by rw[bG]⟩;intro y hy;simp at hy;subst hy;exact hx
 exact key _ ls rfl
theorem FQ(h:Nz ls):eA ls=ls:=by
 rcases so ls with rfl|⟨a,x,rfl⟩
 ·rfl
 ·exact o7 a (h x (by simp))
theorem sB(h:Nz ls)(OJ:ls≠[]):wt (ls.length-1)<=val ls:=by
 rcases so ls with rfl|⟨a,x,rfl⟩
 ·exact absurd rfl OJ
 ·have hx:=h x (by simp);rw[mB];simp only[val,List.length_append,List.length_singleton,Nat.add_sub_cancel]
  have:wt a.length*1<=wt a.length*(x+4294967296*0):=bc _ (by omega);omega
theorem val_inj:∀{a b:List Nat},Lm a->Lm b->a.length=b.length->val a=val b->a=b
 |[],[],_,_,_,_=>rfl
 |x::r,y::s,ha,hb,hl,h=>by
  have h1:=ha x (by simp);have h2:=hb y (by simp);rw[val,val]at h;have h3:x=y:=by omega
  have h4:val r=val s:=by omega
  rw[h3,val_inj (fun z hz=>ha z (by simp[hz])) (fun z hz=>hb z (by simp[hz])) (by simpa using hl) h4]
 |[],_::_,_,_,h,_=>by simp at h
 |_::_,[],_,_,h,_=>by simp at h
theorem Cd{a b:Nat}(h:a<=b):wt a<=wt b:=Nat.pow_le_pow_right (by decide) h
theorem IX{a b:Nat}(h:a<b):wt a<wt b:=Nat.pow_lt_pow_right (by decide) h
theorem jH(ha:Lm a)(hb:Nz b)(h:a.length<b.length):val a<val b:=by
 have h1:=o6 ha;have h2:=sB hb (by intro e;rw[e]at h;simp at h);have:=Cd (show a.length<=b.length-1 by omega);omega
def ln(n:Nat):Nat:=if n=0 then 0 else n.log2 / 32+1
theorem wD(k:Nat):wt k=2^(32*k):=by rw[wt,show(4294967296:Nat)=2^32 from rfl,<-Nat.pow_mul]
theorem gP{n k:Nat}:ln n<=k↔n<wt k:=by
 unfold ln;by_cases h:n=0
 ·rw[if_pos h,h];exact⟨fun _=>zi k,fun _=>aO _⟩
 ·rw[aK h,wD];constructor
  ·intro h1;have:n.log2<32*k:=by omega
   exact(Nat.log2_lt h).1 this
  ·intro h1;have:=(Nat.log2_lt h).2 h1;omega
theorem mD(n:Nat):n<wt (ln n):=gP.1 (aF _)
theorem fM{a b:Nat}(h:a<=b):ln a<=ln b:=gP.2 (Nat.lt_of_le_of_lt h (mD b))
theorem aAL(a b:Nat):ln (a+b)<=max (ln a) (ln b)+1:=by
 rw[gP,jG];have h1:=Nat.lt_of_lt_of_le (mD a) (Cd (Nat.le_max_left (ln a) (ln b)));have h2:=Nat.lt_of_lt_of_le (mD b) (Cd (Nat.le_max_right (ln a) (ln b)));omega
theorem aAM(a b:Nat):ln (a*b)<=ln a+ln b:=by
 rw[gP,Dj];exact Nat.mul_lt_mul'' (mD a) (mD b)
theorem Mu:ln 0=0:=rfl
theorem eP(h:Lm ls)(hz:Nz ls):ls.length=ln (val ls):=by
 by_cases OJ:ls=[]
 ·subst OJ;rfl
 ·have h1:=o6 h;have h2:=sB hz OJ;have h3:=gP.2 h1;have h4:¬ln (val ls)<=ls.length-1:=fun hh=>by have:=gP.1 hh;omega
  omega
end Go.Ex
namespace Go.Ex
open Go Go.Sx
variable{f:(Nat->Sx.di)->Value}{ls:List Nat}{g n:Nat}{p:Nat×Nat}{v:Value}{P:Value->World->Prop}{w1:World}
def Cv(S:Nat->Prop)(B:Nat)(iv:Iv)(g:Nat):Prop:=S g∨(B<=g∧∃lo hi,(lo,hi)∈iv∧lo<=g∧g<hi)
def Nw(S:Nat->Prop)(w w2:World)(g:Nat):Prop:=S g∨(w.heap.size<=g∧g<w2.heap.size)
def Old(S:Nat->Prop)(w:World):Prop:=∀g,S g->g<w.heap.size
section
variable{S S':Nat->Prop}{H:Hp}{nx:Nat}{iv iv':Iv}{B:Nat}{w w' w2:World}{O:Nat->di}
theorem Cv.mono(h:Cv S B iv g)(k:∀p,p∈iv->p∈iv'):Cv S B iv' g:=by
 rcases h with h|⟨h0,lo,hi,h1,h2⟩
 ·exact .inl h
 ·exact .inr ⟨h0,lo,hi,k _ h1,h2⟩
theorem Cv.cons(h:Cv S B iv g):Cv S B (p::iv) g:=h.mono fun q hq=>by simp[hq]
theorem Rel.old(r:Rel H nx iv B w O w')(hS:∀g,S g->g<B):Old (Cv S B iv) w':=by
 intro g h;rcases h with h|⟨_,lo,hi,h1,_,h3⟩
 ·have:=hS g h;have:=r.base;have:=r.size;omega
 ·have:=r.po lo hi h1;have:=r.size;omega
theorem Rel.same(r:Rel H nx iv B w O w')(hS:∀g,S g->g<B)(h:Cv S B iv g):w'.heap[g]? =w.heap[g]? :=by
 rcases h with h|⟨_,lo,hi,h1,h2,h3⟩
 ·have:=hS g h;exact r.vg g (by have:=r.base;omega) fun id b hb hn he=>by have:=(r.low id b hb hn).1;omega
 ·exact r.vg g (by have:=r.po lo hi h1;omega) fun id b hb hn he=>r.kT lo hi h1 id b hb hn ⟨by omega,by omega⟩
theorem Rel.not(r:Rel H nx iv B w O w')(hS:∀g,S g->g<B)(h:Cv S B iv g):∀id b,dE H id=some b->(O id).nil=false->(O id).g≠g:=by
 rcases h with h|⟨_,lo,hi,h1,h2,h3⟩
 ·have:=hS g h;exact fun id b hb hn he=>by have:=(r.low id b hb hn).1;omega
 ·exact fun id b hb hn he=>r.kT lo hi h1 id b hb hn ⟨by omega,by omega⟩
theorem Nw.cv(h:Nw (Cv S B iv) w' w1 g)(hB:B<=w'.heap.size):Cv S B ((w'.heap.size,w1.heap.size)::iv) g:=by
 rcases h with h|h
 ·exact h.cons
 ·exact .inr ⟨by omega,_,_,aG,h.1,h.2⟩
theorem Cv.nw{w0:World}(h:Cv S w0.heap.size iv g)(r:Rel H nx iv w0.heap.size w O w'):Nw S w0 w' g:=by
 rcases h with h|⟨h0,lo,hi,h1,_,h3⟩
 ·exact .inl h
 ·exact .inr ⟨h0,by have:=r.po lo hi h1;have:=r.size;omega⟩
structure dP(w:World)(S:Nat->Prop)(v:Value)(ls:List Nat):Prop where
 lm:Lm ls
 le:ls.length<=9223372036854775807
 sl:∃a c,v= .slice a ls.length c∧ls.length<=c∧∀(j:Nat) x,ls[j]? =some x->∃ad,a=some ad∧S ad.block∧w.cell? (ad.add j)=some (.int .u32 x)
theorem dD(ad:Addr)(j:Nat):(ad.add j).block=ad.block:=by
 unfold Addr.add;split<;>rfl
theorem dP.cI(h:dP w S v ls)(hk:∀g,S g->w2.heap[g]? =w.heap[g]?):dP w2 S v ls:=by
 obtain⟨a,c,h1,Se,h2⟩:=h.sl;refine⟨h.lm,h.le,a,c,h1,Se,fun j x hx=>?_⟩;obtain⟨ad,h3,h4,h5⟩:=h2 j x hx;exact⟨ad,h3,h4,by rw[cH (hk _ (by rw[dD];exact h4))];exact h5⟩
theorem dP.cJ(h:dP w S v ls)(hk:∀g,S g->S' g):dP w S' v ls:=by
 obtain⟨a,c,h1,Se,h2⟩:=h.sl;refine⟨h.lm,h.le,a,c,h1,Se,fun j x hx=>?_⟩;obtain⟨ad,h3,h4,h5⟩:=h2 j x hx;exact⟨ad,h3,hk _ h4,h5⟩
theorem dP.rel(h:dP w (Cv S B iv) v ls)(r:Rel H nx iv B w O w')(hS:∀g,S g->g<B):dP w' (Cv S B iv) v ls:=h.cI fun _g hg=>Rel.same r hS hg
theorem dP.nil(w:World)(S:Nat->Prop):dP w S (.slice none 0 0) []:=⟨by simp[Lm],by simp,none,0,rfl,aF _,by simp⟩
def eB(w:World)(S:Nat->Prop)(v:Value)(n:Nat):Prop:=∃ls,dP w S v ls∧Nz ls∧val ls=n
theorem eB.cI(h:eB w S v n)(hk:∀g,S g->w2.heap[g]? =w.heap[g]?):eB w2 S v n:=by
 obtain⟨ls,h1,h2,h3⟩:=h;exact⟨ls,h1.cI hk,h2,h3⟩
theorem eB.cJ(h:eB w S v n)(hk:∀g,S g->S' g):eB w S' v n:=by
 obtain⟨ls,h1,h2,h3⟩:=h;exact⟨ls,h1.cJ hk,h2,h3⟩
theorem eB.nil(w:World)(S:Nat->Prop):eB w S (.slice none 0 0) 0:=⟨[],dP.nil w S,by simp[Nz],rfl⟩
end
abbrev iZ(z:Int):SV:=.o (.v (.int .i64 z))
abbrev iN(n:Nat):SV:=.o (.v (.int .i64 (n:Int)))
abbrev sV(a:Option Addr)(n c:Nat):SV:=.o (.v (.slice a n c))
abbrev pP(i j:Nat):SV:=.o (.p i j)
theorem rtn{H:Hp}{nx:Nat}{iv:Iv}{w:World}(hw:dm w.heap.size w w1)(h:∀O w',Rel H nx iv w.heap.size w1 O w'->P (f O) w'):∀O w',Rel H nx iv w.heap.size w1 O w'->eG w P (.returned (f O)) w':=fun O w' r=>⟨_,rfl,hw.tr r.cQ,h O w' r⟩
abbrev FF:Nat->Prop:=fun _=>False
theorem bR(w:World):dm w.heap.size w w:=dm.refl
abbrev Nf(w w2:World):Nat->Prop:=Nw (fun _=>False) w w2
abbrev Cf(w:World):Iv->Nat->Prop:=Cv (fun _=>False) w.heap.size
section
variable{S:Nat->Prop}{H:Hp}{nx:Nat}{iv:Iv}{B i n:Nat}{w w1 w':World}{O:Nat->Sx.di}{ad:Addr}{cs:List Value}{x:Value}
theorem kS(hw:dm B w w1)(r:Rel H nx iv B w1 O w')(hS:∀g,S g->g<B):∀g,S g->w'.heap[g]? =w.heap[g]? :=fun g hg=>(hw.tr r.cQ).block g (hS g hg)
theorem oS(hS:∀g,S g->g<B)(r:Rel H nx iv B w O w'):∀g,S g->g<w'.heap.size:=fun g hg=>by have:=hS g hg;have:=r.base;have:=r.size;omega
theorem rdO(hl:∀(j:Nat) u,cs[j]? =some u->S ad.block∧w.cell? ((ad.add (i*n)).add j)=some u)(hw:dm B w w1)(hS:∀g,S g->g<B):∀O w',Rel H nx iv B w1 O w'->∀(j:Nat) u,cs[j]? =some u->w'.cell? ((ad.add ((i:Int).toNat*n)).add j)=some u:=fun O w' r j u hu=>by
 obtain⟨k1,k2⟩:=hl j u hu;rw[aE,cH (w:=w) (w2:=w') (by rw[dD,dD];exact(hw.tr r.cQ).block _ (hS _ k1))];exact k2
theorem rd1(hl:w.cell? (ad.add (i*n))=some x)(hw:dm B w w1)(hb:ad.block<B):∀O w',Rel H nx iv B w1 O w'->w'.cell? (ad.add ((i:Int).toNat*n))=some x:=fun O w' r=>by
 rw[aE,cH (w:=w) (w2:=w') (by rw[dD];exact(hw.tr r.cQ).block _ hb)];exact hl
end
end Go.Ex
namespace Go.Ex
open Go Go.Sx Go.Proofs
variable{args:Array Value}{R:Ending->World->Prop}{ls:List Nat}{k n:Nat}{S:Nat->Prop}{O:Nat->Sx.di}{v:Value}{w:World}
noncomputable abbrev PG:Program:=Tryz.prog
def slT(e:Nat):TI:={size:=1,bytes:=24,zero:=[.slice none 0 0],agg:=false,tag:=4,elem:=e}
def aAw:List (Nat×TI):=[
 (3,{size:=1,bytes:=8,zero:=[.int .i64 0],agg:=false,tag:=1,ik:=.i64}),
 (4,{size:=1,bytes:=1,zero:=[.bool false],agg:=false,tag:=2}),
 (47,{size:=4,bytes:=64,zero:=[.bool false,.slice none 0 0,.bool false,.slice none 0 0],agg:=true,tag:=5,fields:=[(0,45),(2,45)]}),
 (31,slT 47),
 (26,{size:=3,bytes:=72,zero:=[.slice none 0 0,.slice none 0 0,.slice none 0 0],agg:=true,tag:=5,fields:=[(0,22),(1,23),(2,24)]}),
 (32,{size:=1,bytes:=8,zero:=[.int .i64 0],agg:=false,tag:=1,ik:=.i64}),
 (92,slT 3),
 (45,{size:=2,bytes:=32,zero:=[.bool false,.slice none 0 0],agg:=true,tag:=5,fields:=[(0,4),(1,43)]}),
 (226,slT 220),
 (53,slT 31),
 (220,{size:=1,bytes:=4,zero:=[.int .u32 0],agg:=false,tag:=1,ik:=.u32}),
 (27,slT 147),
 (228,{size:=2,bytes:=32,zero:=[.bool false,.slice none 0 0],agg:=true,tag:=5,fields:=[(0,4),(1,226)]}),
 (253,{size:=1,bytes:=8,zero:=[.int .u64 0],agg:=false,tag:=1,ik:=.u64}),
 (151,{size:=2,bytes:=32,zero:=[.slice none 0 0,.int .i64 0],agg:=true,tag:=5,fields:=[(0,53),(1,3)]}),
 (79,slT 84),
 (230,{size:=4,bytes:=64,zero:=[.bool false,.slice none 0 0,.bool false,.slice none 0 0],agg:=true,tag:=5,fields:=[(0,228),(2,228)]}),
 (23,slT 143),
 (98,slT 123),
 (147,{size:=4,bytes:=32,zero:=[.int .i64 0,.int .i64 0,.int .i64 0,.int .i64 0],agg:=true,tag:=5,fields:=[(0,3),(1,3),(2,3),(3,3)]}),
 (91,slT 27),
 (22,slT 169),
 (64,slT 92),
 (24,slT 145),
 (43,slT 220),
 (169,{size:=3,bytes:=24,zero:=[.int .i64 0,.int .i64 0,.int .i64 0],agg:=true,tag:=5,fields:=[(0,3),(1,3),(2,3)]}),
 (143,{size:=6,bytes:=80,zero:=[.int .i64 0,.int .i64 0,.bool false,.slice none 0 0,.bool false,.slice none 0 0],agg:=true,tag:=5,fields:=[(0,3),(1,3),(2,47)]}),
 (123,{size:=8,bytes:=128,zero:=[.bool false,.slice none 0 0,.bool false,.slice none 0 0,.bool false,.slice none 0 0,.bool false,.slice none 0 0],agg:=true,tag:=5,fields:=[(0,47),(4,47)]}),
 (84,{size:=8,bytes:=128,zero:=[.bool false,.slice none 0 0,.bool false,.slice none 0 0,.bool false,.slice none 0 0,.bool false,.slice none 0 0],agg:=true,tag:=5,fields:=[(0,47),(4,47)]}),
 (154,{size:=4,bytes:=80,zero:=[.slice none 0 0,.int .i64 0,.slice none 0 0,.slice none 0 0],agg:=true,tag:=5,fields:=[(0,151),(2,92),(3,92)]}),
 (68,{size:=3,bytes:=24,zero:=[.int .i64 0,.int .i64 0,.int .i64 0],agg:=true,tag:=5,fields:=[(0,3),(1,3),(2,3)]}),
 (145,{size:=6,bytes:=80,zero:=[.int .i64 0,.int .i64 0,.bool false,.slice none 0 0,.bool false,.slice none 0 0],agg:=true,tag:=5,fields:=[(0,3),(1,3),(2,47)]}),
 (189,{size:=3,bytes:=24,zero:=[.int .i64 0,.int .i64 0,.int .i64 0],agg:=true,tag:=6,Bk:=3,elem:=3}),
 (125,{size:=10,bytes:=176,zero:=[.bool false,.slice none 0 0,.bool false,.slice none 0 0,.bool false,.slice none 0 0,.bool false,.slice none 0 0,.slice none 0 0,.slice none 0 0],agg:=true,tag:=5,fields:=[(0,123),(8,92),(9,92)]}),
 (115,slT 125),
 (106,{size:=3,bytes:=56,zero:=[.int .i64 0,.slice none 0 0,.slice none 0 0],agg:=true,tag:=5,fields:=[(0,3),(1,31),(2,31)]}),
 (254,{size:=1,bytes:=8,zero:=[.int .u64 0],agg:=false,tag:=1,ik:=.u64}),
 (187,{size:=2,bytes:=16,zero:=[.int .i64 0,.int .i64 0],agg:=true,tag:=5,fields:=[(0,3),(1,3)]}),
 (185,{size:=1,bytes:=8,zero:=[.map none],agg:=false,tag:=0}),
 (87,{size:=2,bytes:=48,zero:=[.slice none 0 0,.slice none 0 0],agg:=true,tag:=6,Bk:=2,elem:=27}),
 (130,{size:=2,bytes:=48,zero:=[.slice none 0 0,.slice none 0 0],agg:=true,tag:=5,fields:=[(0,92),(1,79)]}),
 (9,{size:=1,bytes:=16,zero:=[.string ⟨#[]⟩],agg:=false,tag:=3}),
 (204,{size:=1,bytes:=8,zero:=[.pointer none],agg:=false,tag:=7}),
 (224,slT 4),
 (88,{size:=2,bytes:=16,zero:=[.int .i64 0,.int .i64 0],agg:=true,tag:=6,Bk:=2,elem:=3}),
 (194,{size:=80,bytes:=640,zero:=[.int .i64 0,.int .i64 0,.int .i64 0,.int .i64 0,.int .i64 0,.int .i64 0,.int .i64 0,.int .i64 0,.int .i64 0,.int .i64 0,.int .i64 0,.int .i64 0,.int .i64 0,.int .i64 0,.int .i64 0,.int .i64 0,.int .i64 0,.int .i64 0,.int .i64 0,.int .i64 0,.int .i64 0,.int .i64 0,.int .i64 0,.int .i64 0,.int .i64 0,.int .i64 0,.int .i64 0,.int .i64 0,.int .i64 0,.int .i64 0,.int .i64 0,.int .i64 0,.int .i64 0,.int .i64 0,.int .i64 0,.int .i64 0,.int .i64 0,.int .i64 0,.int .i64 0,.int .i64 0,.int .i64 0,.int .i64 0,.int .i64 0,.int .i64 0,.int .i64 0,.int .i64 0,.int .i64 0,.int .i64 0,.int .i64 0,.int .i64 0,.int .i64 0,.int .i64 0,.int .i64 0,.int .i64 0,.int .i64 0,.int .i64 0,.int .i64 0,.int .i64 0,.int .i64 0,.int .i64 0,.int .i64 0,.int .i64 0,.int .i64 0,.int .i64 0,.int .i64 0,.int .i64 0,.int .i64 0,.int .i64 0,.int .i64 0,.int .i64 0,.int .i64 0,.int .i64 0,.int .i64 0,.int .i64 0,.int .i64 0,.int .i64 0,.int .i64 0,.int .i64 0,.int .i64 0,.int .i64 0],agg:=true,tag:=6,Bk:=20,elem:=147}),
 (42,{size:=1,bytes:=8,zero:=[.nilFunc],agg:=false,tag:=0}),
 (195,{size:=1,bytes:=8,zero:=[.pointer none],agg:=false,tag:=7}),
 (199,{size:=1,bytes:=8,zero:=[.nilFunc],agg:=false,tag:=0}),
 (5,{size:=1,bytes:=1,zero:=[.int .u8 0],agg:=false,tag:=1,ik:=.u8}),
 (8,{size:=4,bytes:=24,zero:=[.int .i64 0,.int .i64 0,.bool false,.int .u8 0],agg:=true,tag:=5,fields:=[(0,2),(1,3),(2,4),(3,6)]}),
 (10,{size:=1,bytes:=16,zero:=[.string ⟨#[]⟩],agg:=false,tag:=3}),
 (11,{size:=1,bytes:=16,zero:=[.string ⟨#[]⟩],agg:=false,tag:=3}),
 (14,{size:=2,bytes:=24,zero:=[.string ⟨#[]⟩,.int .u64 0],agg:=true,tag:=5,fields:=[(0,9),(1,12)]}),
 (15,{size:=1,bytes:=8,zero:=[.pointer none],agg:=false,tag:=7}),
 (16,{size:=1,bytes:=8,zero:=[.pointer none],agg:=false,tag:=7}),
 (19,{size:=1,bytes:=8,zero:=[.pointer none],agg:=true,tag:=5,fields:=[(0,17)]}),
 (17,{size:=1,bytes:=8,zero:=[.pointer none],agg:=false,tag:=7}),
 (276,{size:=1,bytes:=1,zero:=[.int .u8 0],agg:=false,tag:=1,ik:=.u8}),
 (2,{size:=1,bytes:=8,zero:=[.int .i64 0],agg:=false,tag:=1,ik:=.i64}),
 (6,{size:=1,bytes:=1,zero:=[.int .u8 0],agg:=false,tag:=1,ik:=.u8}),
 (12,{size:=1,bytes:=8,zero:=[.int .u64 0],agg:=false,tag:=1,ik:=.u64})]
def τ:nW:=yw aAw
theorem hτ:fO PG τ:=aAG (l:=aAw) (by kernel_rfl)
theorem da:PG.follows .mixedOrders=true:=by rfl
noncomputable def bd (f:Func):Code:=match f.body with
 |some c=>c
 |none=>.skip
theorem dG{f:FuncId}{fn:Func}(hf:PG.funcs[f]? =some fn)(hb:fn.body=some (bd fn))(Vy:(fn.name== "runtime.NumGoroutine")=false)
  (hn:args.size<=fn.ntmps) (OM:codeOk fn.ntmps (bd fn)=true) (h:nK PG τ w.heap.size (bd fn) (fP 0 args.toList) [] 0 [] w (aAK τ w.heap.size fn.results.toList R)):eD PG f args w R:=
 ⟨JM hf hb Vy,FP hτ hf hb hn OM h⟩
abbrev T.int:Nat:=3
abbrev T.bool:Nat:=4
abbrev T.string:Nat:=9
abbrev T.Frame:Nat:=26
abbrev T.fc:Nat:=31
abbrev T.Int:Nat:=45
abbrev T.Rat:Nat:=47
abbrev T.Ae:Nat:=68
abbrev T.Lint:Nat:=92
abbrev T.Envelope:Nat:=125
abbrev T.Bar:Nat:=143
abbrev T.zI:Nat:=145
abbrev T.aBS:Nat:=147
abbrev T.dx:Nat:=151
abbrev T.dX:Nat:=154
abbrev T.Node:Nat:=169
abbrev T.yT:Nat:=185
abbrev T.Dz:Nat:=187
abbrev T.uint32:Nat:=220
abbrev T.nat:Nat:=226
abbrev T.number:Nat:=228
abbrev T.Fx:Nat:=230
abbrev T.row:Nat:=0
abbrev N.mI:Nat:=13
abbrev N.qK:Nat:=15
abbrev N.Cx:Nat:=16
abbrev N.xg:Nat:=17
abbrev N.nt:Nat:=18
abbrev N.qL:Nat:=21
abbrev N.qM:Nat:=22
abbrev N.xh:Nat:=23
abbrev N.xj:Nat:=25
abbrev N.Af:Nat:=26
abbrev N.qN:Nat:=27
abbrev N.nu:Nat:=29
abbrev N.qO:Nat:=30
abbrev N.qP:Nat:=31
abbrev N.tM:Nat:=32
abbrev N.kB:Nat:=34
abbrev N.uW:Nat:=35
abbrev N.Cy:Nat:=37
abbrev N.sF:Nat:=39
abbrev N.sG:Nat:=42
abbrev N.mJ:Nat:=43
abbrev N.uX:Nat:=45
abbrev N.uY:Nat:=63
abbrev N.uZ:Nat:=64
abbrev N.mn:Nat:=65
abbrev N.sH:Nat:=66
abbrev N.oA:Nat:=67
abbrev N.Cz:Nat:=68
abbrev N.xl:Nat:=69
abbrev N.qQ:Nat:=70
abbrev N.DA:Nat:=71
abbrev N.sI:Nat:=72
abbrev N.DB:Nat:=74
abbrev N.tN:Nat:=75
abbrev N.Fy:Nat:=76
abbrev N.sJ:Nat:=80
abbrev N.xm:Nat:=81
abbrev N.u6:Nat:=82
abbrev N.pR:Nat:=83
abbrev N.fe:Nat:=84
abbrev N.qR:Nat:=85
abbrev N.qS:Nat:=86
abbrev N.jW:Nat:=87
abbrev N.jS:Nat:=88
abbrev N.qT:Nat:=89
abbrev N.u7:Nat:=90
abbrev N.qU:Nat:=91
abbrev N.sK:Nat:=92
abbrev N.mK:Nat:=93
abbrev N.Ag:Nat:=95
abbrev N.qV:Nat:=96
abbrev N.xn:Nat:=98
abbrev N.xo:Nat:=99
abbrev N.u9:Nat:=100
abbrev N.nQ:Nat:=101
abbrev N.qW:Nat:=102
abbrev N.ua:Nat:=103
abbrev N.oo:Nat:=104
abbrev N.tO:Nat:=105
abbrev N.ub:Nat:=106
abbrev N.Ah:Nat:=108
abbrev N.xp:Nat:=109
abbrev N.uc:Nat:=110
abbrev N.DC:Nat:=111
abbrev N.Ai:Nat:=112
abbrev N.qX:Nat:=113
abbrev N.gb:Nat:=114
abbrev N.qY:Nat:=115
abbrev N.fX:Nat:=116
abbrev N.xq:Nat:=117
abbrev N.wP:Nat:=118
abbrev N.mL:Nat:=119
abbrev N.oB:Nat:=120
abbrev N.wQ:Nat:=125
abbrev N.ud:Nat:=132
abbrev N.sL:Nat:=137
abbrev N.mM:Nat:=138
abbrev N.wR:Nat:=139
abbrev N.kp:Nat:=140
abbrev N.sM:Nat:=141
abbrev N.ue:Nat:=142
abbrev N.xt:Nat:=143
abbrev N.uf:Nat:=144
abbrev N.xu:Nat:=145
abbrev N.oq:Nat:=146
abbrev N.kf:Nat:=147
abbrev N.mO:Nat:=148
abbrev N.xw:Nat:=149
abbrev N.wS:Nat:=150
abbrev N.DD:Nat:=152
abbrev N.ot:Nat:=153
abbrev N.sN:Nat:=154
abbrev N.xx:Nat:=155
abbrev N.sO:Nat:=156
abbrev N.sP:Nat:=157
abbrev N.xy:Nat:=158
abbrev N.wT:Nat:=159
abbrev N.DE:Nat:=160
abbrev N.nR:Nat:=161
abbrev N.Fz:Nat:=162
abbrev N.fz:Nat:=163
abbrev N.xz:Nat:=164
abbrev N.mP:Nat:=165
abbrev N.mo:Nat:=166
abbrev N.wU:Nat:=168
abbrev N.lH:Nat:=174
abbrev N.lI:Nat:=175
abbrev N.yA:Nat:=176
abbrev N.ug:Nat:=177
abbrev N.Aj:Nat:=178
abbrev N.Ak:Nat:=179
abbrev N.DF:Nat:=180
abbrev N.sQ:Nat:=181
abbrev N.uh:Nat:=182
abbrev N.ui:Nat:=183
abbrev N.kr:Nat:=184
abbrev N.yB:Nat:=185
abbrev N.lJ:Nat:=186
abbrev N.mq:Nat:=187
abbrev N.Al:Nat:=188
abbrev N.mr:Nat:=189
abbrev N.yC:Nat:=190
abbrev N.Am:Nat:=191
abbrev N.mQ:Nat:=192
abbrev N.oC:Nat:=193
abbrev N.ku:Nat:=194
abbrev N.mu:Nat:=195
abbrev N.mw:Nat:=196
abbrev N.mx:Nat:=197
abbrev N.mR:Nat:=198
abbrev N.uj:Nat:=199
abbrev N.oD:Nat:=200
abbrev N.pS:Nat:=201
abbrev N.qZ:Nat:=202
abbrev N.sR:Nat:=203
abbrev N.pT:Nat:=204
abbrev N.gD:Nat:=205
abbrev N.pU:Nat:=206
abbrev N.lK:Nat:=207
abbrev N.my:Nat:=208
abbrev N.pV:Nat:=209
abbrev N.q8:Nat:=210
abbrev N.An:Nat:=211
abbrev N.Ao:Nat:=212
abbrev N.Ap:Nat:=213
abbrev N.q9:Nat:=214
abbrev Ent(g:Nat)(f:Func):Prop:=∀{args:Array Value} {w:World} {R:Ending->World->Prop},args.size<=f.ntmps->nK PG τ w.heap.size (bd f) (fP 0 args.toList) [] 0 [] w (aAK τ w.heap.size f.results.toList R)->eD PG g args w R
theorem pY:Ent N.mI Tryz.f13:=fun hn h=>dG Tryz.func13 (by rfl) (by rfl) hn (by rfl) h
theorem Aq:Ent N.qK Tryz.f15:=fun hn h=>dG Tryz.func15 (by rfl) (by rfl) hn (by rfl) h
theorem EA:Ent N.Cx Tryz.f16:=fun hn h=>dG Tryz.func16 (by rfl) (by rfl) hn (by rfl) h
theorem Ar:Ent N.xg Tryz.f17:=fun hn h=>dG Tryz.func17 (by rfl) (by rfl) hn (by rfl) h
theorem rh:Ent N.nt Tryz.f18:=fun hn h=>dG Tryz.func18 (by rfl) (by rfl) hn (by rfl) h
theorem uo:Ent N.qL Tryz.f21:=fun hn h=>dG Tryz.func21 (by rfl) (by rfl) hn (by rfl) h
theorem uq:Ent N.qM Tryz.f22:=fun hn h=>dG Tryz.func22 (by rfl) (by rfl) hn (by rfl) h
theorem As:Ent N.xh Tryz.f23:=fun hn h=>dG Tryz.func23 (by rfl) (by rfl) hn (by rfl) h
theorem Au:Ent N.xj Tryz.f25:=fun hn h=>dG Tryz.func25 (by rfl) (by rfl) hn (by rfl) h
theorem Br:Ent N.Af Tryz.f26:=fun hn h=>dG Tryz.func26 (by rfl) (by rfl) hn (by rfl) h
theorem uu:Ent N.qN Tryz.f27:=fun hn h=>dG Tryz.func27 (by rfl) (by rfl) hn (by rfl) h
theorem rk:Ent N.nu Tryz.f29:=fun hn h=>dG Tryz.func29 (by rfl) (by rfl) hn (by rfl) h
theorem uv:Ent N.qO Tryz.f30:=fun hn h=>dG Tryz.func30 (by rfl) (by rfl) hn (by rfl) h
theorem qc:Ent N.qP Tryz.f31:=fun hn h=>dG Tryz.func31 (by rfl) (by rfl) hn (by rfl) h
theorem Bt:Ent N.tM Tryz.f32:=fun hn h=>dG Tryz.func32 (by rfl) (by rfl) hn (by rfl) h
theorem yU:Ent N.kB Tryz.f34:=fun hn h=>dG Tryz.func34 (by rfl) (by rfl) hn (by rfl) h
theorem yV:Ent N.uW Tryz.f35:=fun hn h=>dG Tryz.func35 (by rfl) (by rfl) hn (by rfl) h
theorem EB:Ent N.Cy Tryz.f37:=fun hn h=>dG Tryz.func37 (by rfl) (by rfl) hn (by rfl) h
theorem wV:Ent N.sF Tryz.f39:=fun hn h=>dG Tryz.func39 (by rfl) (by rfl) hn (by rfl) h
theorem wW:Ent N.sG Tryz.f42:=fun hn h=>dG Tryz.func42 (by rfl) (by rfl) hn (by rfl) h
theorem pZ:Ent N.mJ Tryz.f43:=fun hn h=>dG Tryz.func43 (by rfl) (by rfl) hn (by rfl) h
theorem yW:Ent N.uX Tryz.f45:=fun hn h=>dG Tryz.func45 (by rfl) (by rfl) hn (by rfl) h
theorem yX:Ent N.uY Tryz.f63:=fun hn h=>dG Tryz.func63 (by rfl) (by rfl) hn (by rfl) h
theorem yY:Ent N.uZ Tryz.f64:=fun hn h=>dG Tryz.func64 (by rfl) (by rfl) hn (by rfl) h
theorem qd:Ent N.mn Tryz.f65:=fun hn h=>dG Tryz.func65 (by rfl) (by rfl) hn (by rfl) h
theorem wX:Ent N.sH Tryz.f66:=fun hn h=>dG Tryz.func66 (by rfl) (by rfl) hn (by rfl) h
theorem rn:Ent N.oA Tryz.f67:=fun hn h=>dG Tryz.func67 (by rfl) (by rfl) hn (by rfl) h
theorem EC:Ent N.Cz Tryz.f68:=fun hn h=>dG Tryz.func68 (by rfl) (by rfl) hn (by rfl) h
theorem Av:Ent N.xl Tryz.f69:=fun hn h=>dG Tryz.func69 (by rfl) (by rfl) hn (by rfl) h
theorem uw:Ent N.qQ Tryz.f70:=fun hn h=>dG Tryz.func70 (by rfl) (by rfl) hn (by rfl) h
theorem ED:Ent N.DA Tryz.f71:=fun hn h=>dG Tryz.func71 (by rfl) (by rfl) hn (by rfl) h
theorem wY:Ent N.sI Tryz.f72:=fun hn h=>dG Tryz.func72 (by rfl) (by rfl) hn (by rfl) h
theorem EG:Ent N.DB Tryz.f74:=fun hn h=>dG Tryz.func74 (by rfl) (by rfl) hn (by rfl) h
theorem sS:Ent N.tN Tryz.f75:=fun hn h=>dG Tryz.func75 (by rfl) (by rfl) hn (by rfl) h
theorem GA:Ent N.Fy Tryz.f76:=fun hn h=>dG Tryz.func76 (by rfl) (by rfl) hn (by rfl) h
theorem wZ:Ent N.sJ Tryz.f80:=fun hn h=>dG Tryz.func80 (by rfl) (by rfl) hn (by rfl) h
theorem Aw:Ent N.xm Tryz.f81:=fun hn h=>dG Tryz.func81 (by rfl) (by rfl) hn (by rfl) h
theorem yZ:Ent N.u6 Tryz.f82:=fun hn h=>dG Tryz.func82 (by rfl) (by rfl) hn (by rfl) h
theorem tP:Ent N.pR Tryz.f83:=fun hn h=>dG Tryz.func83 (by rfl) (by rfl) hn (by rfl) h
theorem jl:Ent N.fe Tryz.f84:=fun hn h=>dG Tryz.func84 (by rfl) (by rfl) hn (by rfl) h
theorem ux:Ent N.qR Tryz.f85:=fun hn h=>dG Tryz.func85 (by rfl) (by rfl) hn (by rfl) h
theorem uy:Ent N.qS Tryz.f86:=fun hn h=>dG Tryz.func86 (by rfl) (by rfl) hn (by rfl) h
theorem lX:Ent N.jW Tryz.f87:=fun hn h=>dG Tryz.func87 (by rfl) (by rfl) hn (by rfl) h
theorem ou:Ent N.jS Tryz.f88:=fun hn h=>dG Tryz.func88 (by rfl) (by rfl) hn (by rfl) h
theorem uz:Ent N.qT Tryz.f89:=fun hn h=>dG Tryz.func89 (by rfl) (by rfl) hn (by rfl) h
theorem y8:Ent N.u7 Tryz.f90:=fun hn h=>dG Tryz.func90 (by rfl) (by rfl) hn (by rfl) h
theorem vA:Ent N.qU Tryz.f91:=fun hn h=>dG Tryz.func91 (by rfl) (by rfl) hn (by rfl) h
theorem wh:Ent N.sK Tryz.f92:=fun hn h=>dG Tryz.func92 (by rfl) (by rfl) hn (by rfl) h
theorem vB:Ent N.mK Tryz.f93:=fun hn h=>dG Tryz.func93 (by rfl) (by rfl) hn (by rfl) h
theorem Bu:Ent N.Ag Tryz.f95:=fun hn h=>dG Tryz.func95 (by rfl) (by rfl) hn (by rfl) h
theorem Ax:Ent N.qV Tryz.f96:=fun hn h=>dG Tryz.func96 (by rfl) (by rfl) hn (by rfl) h
theorem Ay:Ent N.xn Tryz.f98:=fun hn h=>dG Tryz.func98 (by rfl) (by rfl) hn (by rfl) h
theorem Az:Ent N.xo Tryz.f99:=fun hn h=>dG Tryz.func99 (by rfl) (by rfl) hn (by rfl) h
theorem y9:Ent N.u9 Tryz.f100:=fun hn h=>dG Tryz.func100 (by rfl) (by rfl) hn (by rfl) h
theorem wi:Ent N.nQ Tryz.f101:=fun hn h=>dG Tryz.func101 (by rfl) (by rfl) hn (by rfl) h
theorem vC:Ent N.qW Tryz.f102:=fun hn h=>dG Tryz.func102 (by rfl) (by rfl) hn (by rfl) h
theorem ya:Ent N.ua Tryz.f103:=fun hn h=>dG Tryz.func103 (by rfl) (by rfl) hn (by rfl) h
theorem yb:Ent N.oo Tryz.f104:=fun hn h=>dG Tryz.func104 (by rfl) (by rfl) hn (by rfl) h
theorem Bv:Ent N.tO Tryz.f105:=fun hn h=>dG Tryz.func105 (by rfl) (by rfl) hn (by rfl) h
theorem yc:Ent N.ub Tryz.f106:=fun hn h=>dG Tryz.func106 (by rfl) (by rfl) hn (by rfl) h
theorem Bw:Ent N.Ah Tryz.f108:=fun hn h=>dG Tryz.func108 (by rfl) (by rfl) hn (by rfl) h
theorem BA:Ent N.xp Tryz.f109:=fun hn h=>dG Tryz.func109 (by rfl) (by rfl) hn (by rfl) h
theorem yd:Ent N.uc Tryz.f110:=fun hn h=>dG Tryz.func110 (by rfl) (by rfl) hn (by rfl) h
theorem EH:Ent N.DC Tryz.f111:=fun hn h=>dG Tryz.func111 (by rfl) (by rfl) hn (by rfl) h
theorem Bx:Ent N.Ai Tryz.f112:=fun hn h=>dG Tryz.func112 (by rfl) (by rfl) hn (by rfl) h
theorem vD:Ent N.qX Tryz.f113:=fun hn h=>dG Tryz.func113 (by rfl) (by rfl) hn (by rfl) h
theorem jm:Ent N.gb Tryz.f114:=fun hn h=>dG Tryz.func114 (by rfl) (by rfl) hn (by rfl) h
theorem vE:Ent N.qY Tryz.f115:=fun hn h=>dG Tryz.func115 (by rfl) (by rfl) hn (by rfl) h
theorem iO:Ent N.fX Tryz.f116:=fun hn h=>dG Tryz.func116 (by rfl) (by rfl) hn (by rfl) h
theorem BB:Ent N.xq Tryz.f117:=fun hn h=>dG Tryz.func117 (by rfl) (by rfl) hn (by rfl) h
theorem EI:Ent N.wP Tryz.f118:=fun hn h=>dG Tryz.func118 (by rfl) (by rfl) hn (by rfl) h
theorem p8:Ent N.mL Tryz.f119:=fun hn h=>dG Tryz.func119 (by rfl) (by rfl) hn (by rfl) h
theorem rp:Ent N.oB Tryz.f120:=fun hn h=>dG Tryz.func120 (by rfl) (by rfl) hn (by rfl) h
theorem EJ:Ent N.wQ Tryz.f125:=fun hn h=>dG Tryz.func125 (by rfl) (by rfl) hn (by rfl) h
theorem ye:Ent N.ud Tryz.f132:=fun hn h=>dG Tryz.func132 (by rfl) (by rfl) hn (by rfl) h
theorem wj:Ent N.sL Tryz.f137:=fun hn h=>dG Tryz.func137 (by rfl) (by rfl) hn (by rfl) h
theorem p9:Ent N.mM Tryz.f138:=fun hn h=>dG Tryz.func138 (by rfl) (by rfl) hn (by rfl) h
theorem EK:Ent N.wR Tryz.f139:=fun hn h=>dG Tryz.func139 (by rfl) (by rfl) hn (by rfl) h
theorem oE:Ent N.kp Tryz.f140:=fun hn h=>dG Tryz.func140 (by rfl) (by rfl) hn (by rfl) h
theorem wk:Ent N.sM Tryz.f141:=fun hn h=>dG Tryz.func141 (by rfl) (by rfl) hn (by rfl) h
theorem yf:Ent N.ue Tryz.f142:=fun hn h=>dG Tryz.func142 (by rfl) (by rfl) hn (by rfl) h
theorem BC:Ent N.xt Tryz.f143:=fun hn h=>dG Tryz.func143 (by rfl) (by rfl) hn (by rfl) h
theorem yg:Ent N.uf Tryz.f144:=fun hn h=>dG Tryz.func144 (by rfl) (by rfl) hn (by rfl) h
theorem BD:Ent N.xu Tryz.f145:=fun hn h=>dG Tryz.func145 (by rfl) (by rfl) hn (by rfl) h
theorem yh:Ent N.oq Tryz.f146:=fun hn h=>dG Tryz.func146 (by rfl) (by rfl) hn (by rfl) h
theorem wm:Ent N.kf Tryz.f147:=fun hn h=>dG Tryz.func147 (by rfl) (by rfl) hn (by rfl) h
theorem pc:Ent N.mO Tryz.f148:=fun hn h=>dG Tryz.func148 (by rfl) (by rfl) hn (by rfl) h
theorem BE:Ent N.xw Tryz.f149:=fun hn h=>dG Tryz.func149 (by rfl) (by rfl) hn (by rfl) h
theorem EL:Ent N.wS Tryz.f150:=fun hn h=>dG Tryz.func150 (by rfl) (by rfl) hn (by rfl) h
theorem EM:Ent N.DD Tryz.f152:=fun hn h=>dG Tryz.func152 (by rfl) (by rfl) hn (by rfl) h
theorem yi:Ent N.ot Tryz.f153:=fun hn h=>dG Tryz.func153 (by rfl) (by rfl) hn (by rfl) h
theorem wu:Ent N.sN Tryz.f154:=fun hn h=>dG Tryz.func154 (by rfl) (by rfl) hn (by rfl) h
theorem BF:Ent N.xx Tryz.f155:=fun hn h=>dG Tryz.func155 (by rfl) (by rfl) hn (by rfl) h
theorem wv:Ent N.sO Tryz.f156:=fun hn h=>dG Tryz.func156 (by rfl) (by rfl) hn (by rfl) h
theorem wx:Ent N.sP Tryz.f157:=fun hn h=>dG Tryz.func157 (by rfl) (by rfl) hn (by rfl) h
theorem BG:Ent N.xy Tryz.f158:=fun hn h=>dG Tryz.func158 (by rfl) (by rfl) hn (by rfl) h
theorem EN:Ent N.wT Tryz.f159:=fun hn h=>dG Tryz.func159 (by rfl) (by rfl) hn (by rfl) h
theorem EO:Ent N.DE Tryz.f160:=fun hn h=>dG Tryz.func160 (by rfl) (by rfl) hn (by rfl) h
theorem wy:Ent N.nR Tryz.f161:=fun hn h=>dG Tryz.func161 (by rfl) (by rfl) hn (by rfl) h
theorem GB:Ent N.Fz Tryz.f162:=fun hn h=>dG Tryz.func162 (by rfl) (by rfl) hn (by rfl) h
theorem ij:Ent N.fz Tryz.f163:=fun hn h=>dG Tryz.func163 (by rfl) (by rfl) hn (by rfl) h
theorem BH:Ent N.xz Tryz.f164:=fun hn h=>dG Tryz.func164 (by rfl) (by rfl) hn (by rfl) h
theorem pe:Ent N.mP Tryz.f165:=fun hn h=>dG Tryz.func165 (by rfl) (by rfl) hn (by rfl) h
theorem qe:Ent N.mo Tryz.f166:=fun hn h=>dG Tryz.func166 (by rfl) (by rfl) hn (by rfl) h
theorem EP:Ent N.wU Tryz.f168:=fun hn h=>dG Tryz.func168 (by rfl) (by rfl) hn (by rfl) h
theorem ov:Ent N.lH Tryz.f174:=fun hn h=>dG Tryz.func174 (by rfl) (by rfl) hn (by rfl) h
theorem ow:Ent N.lI Tryz.f175:=fun hn h=>dG Tryz.func175 (by rfl) (by rfl) hn (by rfl) h
theorem BI:Ent N.yA Tryz.f176:=fun hn h=>dG Tryz.func176 (by rfl) (by rfl) hn (by rfl) h
theorem yj:Ent N.ug Tryz.f177:=fun hn h=>dG Tryz.func177 (by rfl) (by rfl) hn (by rfl) h
theorem By:Ent N.Aj Tryz.f178:=fun hn h=>dG Tryz.func178 (by rfl) (by rfl) hn (by rfl) h
theorem Bz:Ent N.Ak Tryz.f179:=fun hn h=>dG Tryz.func179 (by rfl) (by rfl) hn (by rfl) h
theorem ER:Ent N.DF Tryz.f180:=fun hn h=>dG Tryz.func180 (by rfl) (by rfl) hn (by rfl) h
theorem wz:Ent N.sQ Tryz.f181:=fun hn h=>dG Tryz.func181 (by rfl) (by rfl) hn (by rfl) h
theorem yl:Ent N.uh Tryz.f182:=fun hn h=>dG Tryz.func182 (by rfl) (by rfl) hn (by rfl) h
theorem ym:Ent N.ui Tryz.f183:=fun hn h=>dG Tryz.func183 (by rfl) (by rfl) hn (by rfl) h
theorem oF:Ent N.kr Tryz.f184:=fun hn h=>dG Tryz.func184 (by rfl) (by rfl) hn (by rfl) h
theorem BJ:Ent N.yB Tryz.f185:=fun hn h=>dG Tryz.func185 (by rfl) (by rfl) hn (by rfl) h
theorem ox:Ent N.lJ Tryz.f186:=fun hn h=>dG Tryz.func186 (by rfl) (by rfl) hn (by rfl) h
theorem qf:Ent N.mq Tryz.f187:=fun hn h=>dG Tryz.func187 (by rfl) (by rfl) hn (by rfl) h
theorem GC:Ent N.Al Tryz.f188:=fun hn h=>dG Tryz.func188 (by rfl) (by rfl) hn (by rfl) h
theorem qg:Ent N.mr Tryz.f189:=fun hn h=>dG Tryz.func189 (by rfl) (by rfl) hn (by rfl) h
theorem BK:Ent N.yC Tryz.f190:=fun hn h=>dG Tryz.func190 (by rfl) (by rfl) hn (by rfl) h
theorem CA:Ent N.Am Tryz.f191:=fun hn h=>dG Tryz.func191 (by rfl) (by rfl) hn (by rfl) h
theorem pf:Ent N.mQ Tryz.f192:=fun hn h=>dG Tryz.func192 (by rfl) (by rfl) hn (by rfl) h
theorem ry:Ent N.oC Tryz.f193:=fun hn h=>dG Tryz.func193 (by rfl) (by rfl) hn (by rfl) h
theorem oG:Ent N.ku Tryz.f194:=fun hn h=>dG Tryz.func194 (by rfl) (by rfl) hn (by rfl) h
theorem qh:Ent N.mu Tryz.f195:=fun hn h=>dG Tryz.func195 (by rfl) (by rfl) hn (by rfl) h
theorem qi:Ent N.mw Tryz.f196:=fun hn h=>dG Tryz.func196 (by rfl) (by rfl) hn (by rfl) h
theorem qj:Ent N.mx Tryz.f197:=fun hn h=>dG Tryz.func197 (by rfl) (by rfl) hn (by rfl) h
theorem pg:Ent N.mR Tryz.f198:=fun hn h=>dG Tryz.func198 (by rfl) (by rfl) hn (by rfl) h
theorem yn:Ent N.uj Tryz.f199:=fun hn h=>dG Tryz.func199 (by rfl) (by rfl) hn (by rfl) h
theorem rz:Ent N.oD Tryz.f200:=fun hn h=>dG Tryz.func200 (by rfl) (by rfl) hn (by rfl) h
theorem tQ:Ent N.pS Tryz.f201:=fun hn h=>dG Tryz.func201 (by rfl) (by rfl) hn (by rfl) h
theorem vF:Ent N.qZ Tryz.f202:=fun hn h=>dG Tryz.func202 (by rfl) (by rfl) hn (by rfl) h
theorem xA:Ent N.sR Tryz.f203:=fun hn h=>dG Tryz.func203 (by rfl) (by rfl) hn (by rfl) h
theorem tR:Ent N.pT Tryz.f204:=fun hn h=>dG Tryz.func204 (by rfl) (by rfl) hn (by rfl) h
theorem ix:Ent N.gD Tryz.f205:=fun hn h=>dG Tryz.func205 (by rfl) (by rfl) hn (by rfl) h
theorem tS:Ent N.pU Tryz.f206:=fun hn h=>dG Tryz.func206 (by rfl) (by rfl) hn (by rfl) h
theorem oy:Ent N.lK Tryz.f207:=fun hn h=>dG Tryz.func207 (by rfl) (by rfl) hn (by rfl) h
theorem qk:Ent N.my Tryz.f208:=fun hn h=>dG Tryz.func208 (by rfl) (by rfl) hn (by rfl) h
theorem tT:Ent N.pV Tryz.f209:=fun hn h=>dG Tryz.func209 (by rfl) (by rfl) hn (by rfl) h
theorem vG:Ent N.q8 Tryz.f210:=fun hn h=>dG Tryz.func210 (by rfl) (by rfl) hn (by rfl) h
theorem CB:Ent N.An Tryz.f211:=fun hn h=>dG Tryz.func211 (by rfl) (by rfl) hn (by rfl) h
theorem CC:Ent N.Ao Tryz.f212:=fun hn h=>dG Tryz.func212 (by rfl) (by rfl) hn (by rfl) h
theorem CD:Ent N.Ap Tryz.f213:=fun hn h=>dG Tryz.func213 (by rfl) (by rfl) hn (by rfl) h
theorem vH:Ent N.q9 Tryz.f214:=fun hn h=>dG Tryz.func214 (by rfl) (by rfl) hn (by rfl) h
theorem kR{H:Hp}{nx:Nat}{iv:Iv}{w1 w':World}(hS:Old S w)(hw:dm w.heap.size w w1)(r:Rel H nx iv w.heap.size w1 O w'){ad:Addr}{j:Nat}{x:Value}(hs:S ad.block)(h:w.cell? (ad.add j)=some x):w'.cell? (ad.add j)=some x:=by
 rw[(hw.tr r.cQ).cell (by rw[dD];exact hS _ hs)];exact h
theorem GD(a:Option Addr)(c:Nat):(if (c:Int)=0 then a else a.map fun x=>x.add (Int.toNat 0*1))=a:=by
 split
 ·rfl
 ·cases a<;>rfl
theorem yo(h:ls[k]? =some 0):eA (ls.take (k+1))=eA (ls.take k):=by
 rw[List.take_add_one,h];exact lC _
theorem CE{x:Nat}(h:ls[k]? =some x)(hx:x≠0):eA (ls.take (k+1))=ls.take (k+1):=by
 rw[List.take_add_one,h];exact o7 _ hx
theorem fU(hS:Old S w)(h:dP w S v ls):eD PG N.mx #[v] w (eG w fun v' w2=>dP w2 S v' (eA ls)):=by
 obtain⟨a,c,rfl,Se,hc⟩:=h.sl;have hle:=h.le;have PZ:=h.lm;refine qj (by simp) ?_
 refine⟨Nat×World,fun x=>⟨[(0,sV a x.1 c)],[],0,[],x.2⟩,fun x=>x.1,
  fun x=>x.1<=ls.length∧dm w.heap.size w x.2∧eA ls=eA (ls.take x.1),?_,?_⟩
 ·intro O w' r;exact⟨(ls.length,w'),⟨aF _,r.cQ,by simp⟩,Sub.reset r ⟨rfl,trivial⟩ ⟨trivial,trivial⟩⟩
 ·rintro⟨k,w1⟩ ⟨hk,hw,hF⟩;dsimp only at hk hw hF ⊢;have Wk:dm w.heap.size w w1->eA ls=ls.take k->∀O w2,Rel [] 0 [] w.heap.size w1 O w2->dP w2 S (.slice a k c) (eA ls):=fun hw he O w2 r=>by
   rw[he];refine⟨PZ.take k,by simp;omega,a,c,by simp;omega,by simp;omega,fun j x hx=>?_⟩;have S2:j<k:=by
    have:=(aD.1 hx).1;simp at this;omega
   rw[bV S2]at hx;obtain⟨ad,h1,h2,h3⟩:=hc j x hx;exact⟨ad,h1,h2,kR hS hw r h2 h3⟩
  refine dI.mk ?_ ?_<;>intro h
  ·have h:0<k:=by simpa using h
   obtain⟨k,rfl⟩:∃q,k=q+1:=⟨k-1,by omega⟩
   obtain⟨x,hx⟩:∃x,ls[k]? =some x:=⟨_,aB (by omega)⟩
   obtain⟨ad,ha,hs,Sm⟩:=hc k x hx;refine⟨(k:Int),wo,ad,ha,by omega,.int .u32 x,fun O w' r=>by rw[aE,aU];exact kR hS hw r hs Sm,?_⟩;refine dI.mk ?_ ?_<;>intro h2
   ·have h2:x=0:=by have:=eq_of_beq h2;omega
    subst h2;refine⟨(k:Int),wo,⟨by omega,by omega,by omega⟩,a,k,c,GD a c,by simp,by simp,?_⟩;intro O w2 r;exact⟨(k,w2),⟨by dsimp only;omega,hw.tr r.cQ,hF.trans (yo hx)⟩,Sub.reset r ⟨rfl,trivial⟩ ⟨trivial,trivial⟩,by dsimp only;omega⟩
   ·have h2:x≠0:=by intro e;subst e;simp at h2
    intro O w2 r;exact⟨_,rfl,hw.tr r.cQ,Wk hw (by rw[hF,CE hx h2]) O w2 r⟩
  ·have h:k=0:=by
    have:¬0<k:=by simpa using h
    omega
   subst h;intro O w2 r;exact⟨_,rfl,hw.tr r.cQ,Wk hw (by rw[hF];simp[eA]) O w2 r⟩
theorem ed(h:n<18446744073709551616):IntKind.u64.wrap (n:Int)=(n:Int):=yz (by omega) (by omega)
theorem fI(n:Nat):IntKind.u32.wrap (n:Int)=((n % 4294967296:Nat):Int):=by
 show((n:Int) % 4294967296)=_;omega
theorem ofInt32(x:Nat):BitVec.ofInt 32 (x:Int)=BitVec.ofNat 32 x:=by
 apply BitVec.eq_of_toNat_eq;simp
theorem qq{y:Nat}(x:Nat)(hy:y<4294967296):x &&& y<4294967296:=Nat.lt_of_le_of_lt Nat.and_le_right hy
theorem qt{x y:Nat}(hx:x<4294967296)(hy:y<4294967296):x ^^^ y<4294967296:=Nat.xor_lt_two_pow (n:=32) hx hy
theorem Ec{x y:Nat}(hx:x<4294967296)(hy:y<4294967296):x ||| y<4294967296:=Nat.or_lt_two_pow (n:=32) hx hy
theorem OD{x y:Nat}(hx:x<4294967296)(hy:y<4294967296):IntKind.u32.wrap ((BitVec.ofInt IntKind.u32.bits x &&& BitVec.ofInt IntKind.u32.bits y).toNat:Int)=((x &&& y:Nat):Int):=by
 show IntKind.u32.wrap ((BitVec.ofInt 32 x &&& BitVec.ofInt 32 y).toNat:Int)=_;rw[ofInt32,ofInt32,BitVec.toNat_and,BitVec.toNat_ofNat,BitVec.toNat_ofNat,bO hx,bO hy,fI,bO (qq x hy)]
theorem aBE{x y:Nat}(hx:x<4294967296)(hy:y<4294967296):IntKind.u32.wrap ((BitVec.ofInt IntKind.u32.bits x ||| BitVec.ofInt IntKind.u32.bits y).toNat:Int)=((x ||| y:Nat):Int):=by
 show IntKind.u32.wrap ((BitVec.ofInt 32 x ||| BitVec.ofInt 32 y).toNat:Int)=_;rw[ofInt32,ofInt32,BitVec.toNat_or,BitVec.toNat_ofNat,BitVec.toNat_ofNat,bO hx,bO hy,fI,bO (Ec hx hy)]
theorem OE{x y:Nat}(hx:x<4294967296)(hy:y<4294967296):IntKind.u32.wrap ((BitVec.ofInt IntKind.u32.bits x ^^^ BitVec.ofInt IntKind.u32.bits y).toNat:Int)=((x ^^^ y:Nat):Int):=by
 show IntKind.u32.wrap ((BitVec.ofInt 32 x ^^^ BitVec.ofInt 32 y).toNat:Int)=_;rw[ofInt32,ofInt32,BitVec.toNat_xor,BitVec.toNat_ofNat,BitVec.toNat_ofNat,bO hx,bO hy,fI,bO (qt hx hy)]
theorem OF{x:Nat}(hx:x<4294967296):IntKind.u32.wrap ((BitVec.ofInt IntKind.u32.bits (if IntKind.u32.signed=true then -1 else IntKind.u32.max) ^^^ BitVec.ofInt IntKind.u32.bits x).toNat:Int)=((4294967295 ^^^ x:Nat):Int):=
 OE (x:=4294967295) (by decide) hx
theorem mW{x:Nat}(k:Nat)(hk:k<=63):(x:Int).fdiv (2^min (Int.toNat (k:Int)) IntKind.u64.bits)=((x / 2^k:Nat):Int):=by
 have h1:min (Int.toNat (k:Int)) IntKind.u64.bits=k:=by show min (Int.toNat (k:Int)) 64=k;omega
 rw[h1,Int.fdiv_eq_ediv_of_nonneg _ (by exact Int.le_of_lt (Int.pow_pos (by decide)))];simp
theorem pA{x:Nat}(k:Nat)(hk:k<=31):(x:Int).fdiv (2^min (Int.toNat (k:Int)) IntKind.u32.bits)=((x / 2^k:Nat):Int):=by
 have h1:min (Int.toNat (k:Int)) IntKind.u32.bits=k:=by show min (Int.toNat (k:Int)) 32=k;omega
 rw[h1,Int.fdiv_eq_ediv_of_nonneg _ (by exact Int.le_of_lt (Int.pow_pos (by decide)))];simp
theorem Na{z:Nat}(h:z<4294967296):z.testBit 31=decide (2147483648<=z):=by
 rw[Nat.testBit_eq_decide_div_mod_eq];apply decide_eq_decide.2;show z / 2147483648 % 2=1↔_;omega
theorem borrow{x y c d:Nat}(hx:x<4294967296)(hy:y<4294967296)(hc:c<=1)(hd:(x+4294967296-(y+c)) % 4294967296=d):
  (((4294967295 ^^^ x) &&& y) ||| ((4294967295 ^^^ (x ^^^ y)) &&& d)) / 2^31=if x<y+c then 1 else 0:=by
 have PM:d<4294967296:=by omega
 have hz:=Ec (qq (4294967295 ^^^ x) hy) (qq (4294967295 ^^^ (x ^^^ y)) PM);have ht:=Na hz;have hm:Nat.testBit 4294967295 31=true:=by decide
 rw[Nat.testBit_or,Nat.testBit_and,Nat.testBit_and,Nat.testBit_xor,Nat.testBit_xor,Nat.testBit_xor,hm,Na hx,Na hy,Na PM]at ht;generalize (((4294967295 ^^^ x) &&& y) ||| ((4294967295 ^^^ (x ^^^ y)) &&& d))=z at hz ht;show z / 2147483648=_;by_cases h1:2147483648<=x<;>by_cases h2:2147483648<=y<;>by_cases h3:2147483648<=d<;>simp[h1,h2,h3]at ht<;>split<;>omega
theorem JF(x y c:Nat)(w:World)(hx:x<4294967296)(hy:y<4294967296)(hc:c<4294967296):
  eD PG N.An #[.int .u32 x,.int .u32 y,.int .u32 c] w (eG w fun v _=>v= .tuple #[.int .u32 ((x+y+c) % 4294967296:Nat),.int .u32 ((x+y+c) / 4294967296:Nat)]):=by
 refine CB (by simp) ?_;refine⟨(x:Int),ed (by omega),(y:Int),ed (by omega),((x+y:Nat):Int),by rw[yz]<;>omega,(c:Int),ed (by omega),((x+y+c:Nat):Int),by rw[yz]<;>omega,(((x+y+c) % 4294967296:Nat):Int),fI _,by decide,(((x+y+c) / 4294967296:Nat):Int),?_,?_⟩
 ·exact mW 32 (by decide)
 refine⟨(((x+y+c) / 4294967296:Nat):Int),by rw[fI];omega,?_⟩;intro O w3 r;exact⟨_,rfl,r.cQ,rfl⟩
theorem JG(x y c:Nat)(w:World)(hx:x<4294967296)(hy:y<4294967296)(hc:c<=1):
  eD PG N.Ao #[.int .u32 x,.int .u32 y,.int .u32 c] w (eG w fun v _=>v= .tuple #[.int .u32 ((x+4294967296-(y+c)) % 4294967296:Nat),.int .u32 ((if x<y+c then 1 else 0:Nat):Int)]):=by
 refine CC (by simp) ?_;refine⟨((x+4294967296-y) % 4294967296:Nat),?_,?_⟩
 ·show((x:Int)-y) % 4294967296=_;omega
 refine⟨((x+4294967296-(y+c)) % 4294967296:Nat),?_,?_⟩
 ·show((((x+4294967296-y) % 4294967296:Nat):Int)-c) % 4294967296=_;omega
 have h6:(x+4294967296-(y+c)) % 4294967296<4294967296:=bw _ (by decide);generalize hd:(x+4294967296-(y+c)) % 4294967296=d at h6;refine⟨((4294967295 ^^^ x:Nat):Int),OF hx,(((4294967295 ^^^ x) &&& y:Nat):Int),OD (qt (by decide) hx) hy,((x ^^^ y:Nat):Int),OE hx hy,((4294967295 ^^^ (x ^^^ y):Nat):Int),OF (qt hx hy),(((4294967295 ^^^ (x ^^^ y)) &&& d:Nat):Int),OD (qt (by decide) (qt hx hy)) h6,((((4294967295 ^^^ x) &&& y) ||| ((4294967295 ^^^ (x ^^^ y)) &&& d):Nat):Int),aBE (qq _ hy) (qq _ h6),by decide,((if x<y+c then 1 else 0:Nat):Int),?_,?_⟩
 ·rw[<-borrow hx hy hc hd];exact pA 31 (by decide)
 intro O w3 r;exact⟨_,rfl,r.cQ,rfl⟩
def tU(n m:Nat):Int:=if n<m then -1 else if m<n then 1 else 0
theorem OG{a b:List Nat}{i x y:Nat}(ha:Lm a)(hl:a.length=b.length)(hx:a[i]? =some x)(hy:b[i]? =some y)(h:a.drop (i+1)=b.drop (i+1))(Oc:x<y):val a<val b:=by
 have hi:=(aD.1 hx).1;have h1:=ek a i (by omega);have h2:=ek b i (by omega);rw[jT hx]at h1;rw[jT hy,<-h]at h2;have h3:=o6 (ha.take i);rw[aW,Nat.min_eq_left (by omega)]at h3;generalize val (a.drop (i+1))=q at h1 h2;have h4:wt i*(x+4294967296*q+1)<=wt i*(y+4294967296*q):=bc _ (by omega);rw[bW,aU]at h4;omega
theorem Lo{u:Value}{m:Nat}(hS:Old S w)(hn:eB w S v n)(hm:eB w S u m):eD PG N.sR #[v,u] w (eG w fun v' _=>v'= .int .i64 (tU n m)):=by
 obtain⟨ls,h1,nz1,rfl⟩:=hn;obtain⟨ms,h2,nz2,rfl⟩:=hm;obtain⟨a,c,rfl,_,ha⟩:=h1.sl;obtain⟨b,e,rfl,_,hb⟩:=h2.sl;have hle1:=h1.le;have VU:=h2.le;have lm1:=h1.lm;have lm2:=h2.lm;refine xA (by simp) ?_;refine dI.mk ?_ ?_<;>intro h
 ·have h:ls.length≠ms.length:=by intro e;rw[e]at h;simp at h
  refine dI.mk ?_ ?_<;>intro h3
  ·have h3:ls.length<ms.length:=by simpa using h3
   intro O w2 r;exact⟨_,rfl,r.cQ,by rw[tU,if_pos (jH lm1 nz2 h3)];rfl⟩
  ·have h3:ms.length<ls.length:=by
    have:¬ls.length<ms.length:=by simpa using h3
    omega
   have h4:=jH lm2 nz1 h3;intro O w2 r;exact⟨_,rfl,r.cQ,by rw[tU,aK (by omega),if_pos h4];rfl⟩
 ·have h:ls.length=ms.length:=by
   have:(ls.length:Int)=ms.length:=by simpa using h
   omega
  refine⟨(ls.length:Int)-1,wo,Nat×World,fun x=>⟨[(0,sV a ls.length c),(1,sV b ms.length e),(5,.o (.v (.int .i64 ((x.1:Int)-1))))],[],0,[],x.2⟩,fun x=>x.1,
   fun x=>x.1<=ls.length∧dm w.heap.size w x.2∧ls.drop x.1=ms.drop x.1,?_,?_⟩
  ·intro O w' r;exact⟨(ls.length,w'),⟨aF _,r.cQ,by rw[List.drop_length,h,List.drop_length]⟩,Sub.reset r ⟨rfl,rfl,rfl,trivial⟩ ⟨trivial,trivial,trivial,trivial⟩⟩
  ·rintro⟨k,w1⟩ ⟨hk,hw,hd⟩;dsimp only at hk hw hd ⊢;refine dI.mk ?_ ?_<;>intro h3
   ·have h3:(k:Int)-1≥0:=aI h3;obtain⟨k,rfl⟩:∃q,k=q+1:=⟨k-1,by omega⟩
    rw[show ((k+1:Nat):Int)-1=(k:Int) by omega];obtain⟨x,hx⟩:∃x,ls[k]? =some x:=⟨_,aB (by omega)⟩
    obtain⟨y,hy⟩:∃x,ms[k]? =some x:=⟨_,aB (by omega)⟩
    obtain⟨ad,Ol,hs,hc1⟩:=ha k x hx;obtain⟨ad2,Pv,Qq,XB⟩:=hb k y hy;have Oo:∀O w',Rel [] 0 [] w.heap.size w1 O w'->w'.cell? (ad.add ((k:Int).toNat*1))=some (.int .u32 x):=fun O w' r=>by
     rw[aE,aU];exact kR hS hw r hs hc1
    have Qb:∀O w',Rel [] 0 [] w.heap.size w1 O w'->w'.cell? (ad2.add ((k:Int).toNat*1))=some (.int .u32 y):=fun O w' r=>by
     rw[aE,aU];exact kR hS hw r Qq XB
    refine cK hτ da [.x 0,.x 1,.x 2,.x 3,.x 4,.x 5,.x 6,.x 7,.x 8,.x 9] (by kernel_rfl) (by kernel_rfl) ?_;refine⟨ad,Ol,by omega,_,Oo,ad2,Pv,by omega,_,Qb,?_⟩;refine dI.mk ?_ ?_<;>intro h4
    ·have h4:x<y:=by simpa using h4
     intro O w2 r;exact⟨_,rfl,hw.tr r.cQ,by rw[tU,if_pos (OG lm1 h hx hy hd h4)];rfl⟩
    ·have h4:¬x<y:=by simpa using h4
     refine cK hτ da [.x 0,.x 1,.x 2,.x 3,.x 4,.x 5,.x 6,.x 7,.x 8,.x 9] (by kernel_rfl) (by kernel_rfl) ?_;refine⟨ad,Ol,by omega,_,Oo,ad2,Pv,by omega,_,Qb,?_⟩;refine dI.mk ?_ ?_<;>intro h5
     ·have h5:y<x:=by simpa using h5
      have h6:=OG lm2 h.symm hy hx hd.symm h5;intro O w2 r;exact⟨_,rfl,hw.tr r.cQ,by rw[tU,aK (by omega),if_pos h6];rfl⟩
     ·have h5:¬y<x:=by simpa using h5
      have hxy:x=y:=by omega
      subst hxy;refine⟨(k:Int)-1,wo,?_⟩;intro O w2 r;have PM:ls.drop k=ms.drop k:=by
       obtain⟨q1,e1⟩:=aD.1 hx;obtain⟨q2,e2⟩:=aD.1 hy;rw[List.drop_eq_getElem_cons q1,List.drop_eq_getElem_cons q2,e1,e2,hd]
      exact⟨(k,w2),⟨by dsimp only;omega,hw.tr r.cQ,PM⟩,Sub.reset r ⟨rfl,rfl,rfl,trivial⟩ ⟨trivial,trivial,trivial,trivial⟩,by simp⟩
   ·have Sd:k=0:=by
     have:¬(k:Int)-1≥0:=aH h3;omega
    subst Sd;have he:ls=ms:=by simpa using hd
    intro O w2 r;exact⟨_,rfl,hw.tr r.cQ,by rw[he,tU,aK (by omega),aK (by omega)];rfl⟩
end Go.Ex
namespace Go.Sx
open Go Go.Ex Go.Proofs
variable{O:Nat->Sx.di}
theorem Rel.ql{nx:Nat}{iv:Iv}{B:Nat}{w w':World}(r:Rel [] nx iv B w O w'):w.grownBy w' none:=
 ⟨r.os,r.tape,r.output,r.size,fun k hk _=>r.vg k hk (fun id b h=>by cases h)⟩
end Go.Sx
namespace Go.Ex
open Go Go.Sx Go.Proofs
variable{l ls:List Nat}{S:Nat->Prop}{v:Value}{w:World}
structure LA(S:Nat->Prop)(w:World) where
 a:Option Addr
 c:Nat
 ls:List Nat
 lm:Lm ls
 le:ls.length<=9223372036854775807
 cap:ls.length<=c
 cell:∀(j:Nat) x,ls[j]? =some x->∃ad,a=some ad∧S ad.block∧w.cell? (ad.add j)=some (.int .u32 x)
theorem dP.la(h:dP w S v ls):∃p:LA S w,v= .slice p.a p.ls.length p.c∧p.ls=ls:=by
 obtain⟨a,c,h1,h2,h3⟩:=h.sl;exact⟨⟨a,c,ls,h.lm,h.le,h2,h3⟩,h1,rfl⟩
theorem eB.la{n:Nat}(h:eB w S v n):∃p:LA S w,v= .slice p.a p.ls.length p.c∧val p.ls=n∧Nz p.ls:=by
 obtain⟨ls,h1,h2,h3⟩:=h;obtain⟨p,h4,h5⟩:=h1.la;exact⟨p,h4,by rw[h5];exact h3,by rw[h5];exact h2⟩
theorem LA.load{w1:World}(p:LA S w)(hS:Old S w)(hw:dm w.heap.size w w1){k x:Nat}(hx:p.ls[k]? =some x):
  ∃ad,p.a=some ad∧∀(H:Hp) (nx:Nat) (iv:Iv) (O:Nat->Sx.di) w',Rel H nx iv w.heap.size w1 O w'->w'.cell? (ad.add ((k:Int).toNat*1))=some (.int .u32 x):=by
 obtain⟨ad,h1,h2,h3⟩:=p.cell k x hx;refine⟨ad,h1,fun H nx iv O w' r=>?_⟩;rw[aE,aU];exact kR hS hw r h2 h3
def U(l:List Nat):List Value:=l.map fun(x:Nat)=>.int .u32 (x:Int)
theorem gR(l:List Nat):(U l).length=l.length:=by simp[U]
theorem vI{k x:Nat}(h:l[k]? =some x):(U l)[k]? =some (.int .u32 x):=by simp[U,h]
theorem aBL(l:List Nat)(k x:Nat)(h:k<l.length):(U l).take k++[.int .u32 x]++(U l).drop (k+1)=U (l.set k x):=by
 have h1:k<(U l).length:=by rw[gR];exact h
 have:(U l).set k (.int .u32 x)=U (l.set k x):=by simp[U,List.map_set]
 rw[<-this,List.set_eq_take_append_cons_drop,if_pos h1];simp
theorem jL(l:List Nat)(k x:Nat)(h:k<l.length){e:Nat}(he:e=k):(U l).take e++[.int .u32 (x:Int)]++(U l).drop (e+1)=U (l.set k x):=by
 subst he;exact aBL l e x h
theorem tV(n:Nat):List.replicate n (Value.int .u32 0)=U (List.replicate n 0):=by simp[U]
end Go.Ex
namespace Go.Sx
open Go Go.Ex Go.Proofs
variable{ls:List Nat}{O:Nat->Sx.di}
theorem Rel.oH{H:Hp}{nx:Nat}{iv:Iv}{B:Nat}{w w':World}(r:Rel H nx iv B w O w'){id t:Nat}(h:dE H id=some (.arr t (U ls)))(PZ:Lm ls)(hle:ls.length<=9223372036854775807):
  dP w' (fun g=>g=(O id).g) (.slice (some ⟨(O id).g,0,none⟩) ls.length ls.length) ls:=by
 refine⟨PZ,hle,_,_,rfl,aF _,fun j x hx=>⟨_,rfl,rfl,?_⟩⟩;have h0:(⟨(O id).g,0,none⟩:Addr).add j=⟨(O id).g,j,none⟩:=by
  cases j with
  |zero=>rfl
  |succ j=>simp[Addr.add]
 rw[h0,cell_of (r.arr id t _ h)];exact vI hx
end Go.Sx
namespace Go.Ex
open Go Go.Sx Go.Proofs
variable{S:Nat->Prop}
theorem D3{out ls ms:List Nat}{i x o d:Nat}(hx:ls[i]? =some x)(ho:ms.getD i 0=o)(hd:out[i]? =some d){carry:Nat}(h:val (out.take i)+wt i*carry=val (ls.take i)+val (ms.take i)):
  val ((out.set i ((x+o+carry) % 4294967296)).take (i+1))+wt (i+1)*((x+o+carry) / 4294967296)=val (ls.take (i+1))+val (ms.take (i+1)):=by
 have hi:=(aD.1 hd).1;have h1:(out.set i ((x+o+carry) % 4294967296))[i]? =some ((x+o+carry) % 4294967296):=by rw[aV hi]
 rw[dg h1,List.take_set_of_le (aF _),dg hx,jG];have h2:val (ms.take (i+1))=val (ms.take i)+wt i*o:=by
  cases hm:ms[i]? with
  |some y=>
   have:y=o:=by rw[<-ho];simp[List.getD,hm]
   rw[dg hm,this]
  |none=>
   have:o=0:=by rw[<-ho];simp[List.getD,hm]
   rw[this,List.take_add_one,hm];simp
 rw[h2];have h3:=Nat.div_add_mod (x+o+carry) 4294967296;generalize (x+o+carry) / 4294967296=q at h3 ⊢;generalize (x+o+carry) % 4294967296=r at h3 ⊢;have h4:wt i*(4294967296*q+r)=wt i*(x+o+carry):=by rw[h3]
 rw[bW,bW,bW,<-bg,bX (wt i) 4294967296]at h4;omega
theorem aA6{w:World}{v u:Value}{n m:Nat}(hS:Old S w)(hn:eB w S v n)(hm:eB w S u m)(S3:ln n<=1000000000000)(PZ:ln m<=1000000000000):
  eD PG N.qZ #[v,u] w (eG w fun v' w2=>eB w2 (Nf w w2) v' (n+m)):=by
 obtain⟨p,rfl,Qu,QU⟩:=hn.la;obtain⟨q,rfl,R5,QO⟩:=hm.la;have Pe:=eP p.lm QU;have Uq:=eP q.lm QO;rw[Qu]at Pe;rw[R5]at Uq;have hsum:n+m=val p.ls+val q.ls:=by rw[Qu,R5]
 rw[hsum];refine vF (by simp) ?_;refine dI.mk ?_ ?_<;>intro h
 case' refine_1=>
  have h:p.ls.length<q.ls.length:=by simpa using h
  have hpx:p.ls.length<=q.ls.length:=by omega
  have hx12:q.ls.length<=1000000000000:=by omega
  rw[Nat.add_comm];generalize S4:q=x at*
  generalize hgy:p=y at*
 case' refine_2=>
  have h:¬p.ls.length<q.ls.length:=by simpa using h
  have hpx:q.ls.length<=p.ls.length:=by omega
  have hx12:p.ls.length<=1000000000000:=by omega
  generalize S4:p=x at*
  generalize hgy:q=y at*
 all_goals
  refine⟨((x.ls.length+1:Nat):Int),wo,x.ls.length+1,x.ls.length+1,rfl,rfl,aF _,by omega,by omega,Nat×List Nat×Nat×World,fun z=>⟨[(0,sV x.a x.ls.length x.c),(1,sV y.a y.ls.length y.c),(5,.o (.s 0 0 (x.ls.length+1) (x.ls.length+1))),(6,.o (.v (.int .u32 z.2.2.1))),(21,iZ x.ls.length),(22,iZ z.1)],
    [(0,.arr T.uint32 (U z.2.1))],1,[],z.2.2.2⟩,fun z=>x.ls.length-z.1,
   fun z=>z.1<=x.ls.length∧dm w.heap.size w z.2.2.2∧z.2.1.length=x.ls.length+1∧Lm z.2.1∧z.2.2.1<2∧val (z.2.1.take z.1)+wt z.1*z.2.2.1=val (x.ls.take z.1)+val (y.ls.take z.1),?_,?_⟩
  ·intro O w' r;rw[tV]at r;exact⟨(0,List.replicate (x.ls.length+1) 0,0,w'),⟨by simp,r.cQ,by simp,Lm.replicate _,by simp,by simp[val]⟩,Sub.gn [] r⟩
  ·rintro⟨i,out,carry,w1⟩ ⟨hi,hw,Q4,PB,hc,hv⟩;dsimp only at hi hw Q4 PB hc hv ⊢;refine dI.mk ?_ ?_<;>intro h
   ·have h:i<x.ls.length:=by simpa using h
    obtain⟨xi,Ps⟩:∃k,x.ls[i]? =some k:=⟨_,aB h⟩
    obtain⟨d,hd⟩:∃k,out[i]? =some k:=⟨_,aB (by omega)⟩
    obtain⟨ad,Ol,PF⟩:=x.load hS hw Ps;have QK:=x.lm.at Ps;refine dI.mk ?_ ?_<;>intro h2
    ·have h2:i<y.ls.length:=by simpa using h2
     obtain⟨o,ho⟩:∃k,y.ls[i]? =some k:=⟨_,aB h2⟩
     obtain⟨ad2,Pv,RC⟩:=y.load hS hw ho;have WX:=y.lm.at ho;have Tf:y.ls.getD i 0=o:=by simp[List.getD,ho]
     refine⟨ad2,Pv,by omega,.int .u32 o,RC _ _ _,ad,Ol,by omega,.int .u32 xi,PF _ _ _,?_⟩;refine cD (cO (Φ:=fun _ _ v _=>v= .tuple #[.int .u32 ((xi+o+carry) % 4294967296:Nat),.int .u32 ((xi+o+carry) / 4294967296:Nat)]) (fun O w' r=>JF xi o carry w' QK WX (by omega)) ?_);rintro O w' v w2 r he hb rfl;replace hw:=hw.tr hb;have Oz:=D3 Ps Tf hd hv;have XB:(xi+o+carry) / 4294967296<2:=by omega
     refine⟨by omega,by rw[gR];omega,U (out.set i ((xi+o+carry) % 4294967296)),jL out i _ (by omega) (by simp),((i+1:Nat):Int),wo,?_⟩;intro ρ3 w3 r3
     exact⟨(i+1,out.set i ((xi+o+carry) % 4294967296),(xi+o+carry) / 4294967296,w3),⟨by dsimp only;omega,hw.tr r3.cQ,by simp[Q4],PB.set (bw _ (by decide)),XB,Oz⟩,
      Sub.gn [] r3,by dsimp only;omega⟩
    ·have h2:¬i<y.ls.length:=by simpa using h2
     have Tf:y.ls.getD i 0=0:=by simp[List.getD,List.getElem?_eq_none (show y.ls.length<=i by omega)]
     refine⟨ad,Ol,by omega,.int .u32 xi,PF _ _ _,?_⟩;refine cD (cO (Φ:=fun _ _ v _=>v= .tuple #[.int .u32 ((xi+0+carry) % 4294967296:Nat),.int .u32 ((xi+0+carry) / 4294967296:Nat)]) (fun O w' r=>JF xi 0 carry w' QK (by decide) (by omega)) ?_);rintro O w' v w2 r he hb rfl;replace hw:=hw.tr hb;have Oz:=D3 Ps Tf hd hv;have XB:(xi+0+carry) / 4294967296<2:=by omega
     refine⟨by omega,by rw[gR];omega,U (out.set i ((xi+0+carry) % 4294967296)),jL out i _ (by omega) (by simp),((i+1:Nat):Int),wo,?_⟩;intro ρ3 w3 r3
     exact⟨(i+1,out.set i ((xi+0+carry) % 4294967296),(xi+0+carry) / 4294967296,w3),⟨by dsimp only;omega,hw.tr r3.cQ,by simp[Q4],PB.set (bw _ (by decide)),XB,Oz⟩,
      Sub.gn [] r3,by dsimp only;omega⟩
   ·have QS:i=x.ls.length:=by
     have:¬i<x.ls.length:=by simpa using h
     omega
    subst QS;obtain⟨d,hd⟩:∃k,out[x.ls.length]? =some k:=⟨_,aB (by omega)⟩
    have TH:val (out.set x.ls.length carry)=val x.ls+val y.ls:=by
     have h1:(out.set x.ls.length carry)[x.ls.length]? =some carry:=by rw[aV (by omega)]
     have h2:=dg h1;rw[List.take_of_length_le (by simp;omega),List.take_set_of_le (aF _)]at h2;rw[bG,List.take_of_length_le hpx]at hv;omega
    have hlm2:Lm (out.set x.ls.length carry):=PB.set (by omega);refine⟨by omega,by rw[gR];omega,U (out.set x.ls.length carry),jL out x.ls.length carry (by omega) (by simp),?_⟩;generalize hgo:out.set x.ls.length carry=fin at TH hlm2;have OY:fin.length=x.ls.length+1:=by rw[<-hgo];simp[Q4]
    refine gj (Φ:=fun O _ v w2=>dP w2 (fun g=>g=(O 0).g) v (eA fin)) (H':=[]) 0 rfl (by simp) trivial rfl (fun O w' r=>r.nn 0 _ rfl (by intros;simp) (by simp)) (fun O w' r=>?_) ?_
    ·have hL:=r.oH (id:=0) rfl hlm2 (by omega);rw[OY]at hL;exact fU (fun g hg=>by rw[hg];exact(r.low 0 _ rfl (r.nn 0 _ rfl (by intros;simp) (by simp))).2) hL
    rintro O w' v w2 r he hb hL;replace hw:=hw.tr hb;have On:=r.low 0 _ rfl (r.nn 0 _ rfl (by intros;simp) (by simp));generalize (O 0).g=g at*
    have hs:=he.size;intro ρ3 w3 r3;refine⟨_,rfl,hw.tr r3.cQ,eA fin,?_,(fC fin).2.1,?_⟩
    ·refine(hL.cI fun k hk=>?_).cJ fun k hk=>.inr ?_
     ·rw[hk];exact r3.ql.block g (by omega) (by simp)
     ·rw[hk];have:=r3.size;omega
    ·rw[(fC fin).1,TH]
end Go.Ex
namespace Go.Ex
open Go Go.Sx Go.Proofs
variable{ls ms out:List Nat}{V a b i k n o t:Nat}{S:Nat->Prop}{v:Value}{w:World}
theorem KP(ho:ms.getD i 0=o):val (ms.take (i+1))=val (ms.take i)+wt i*o:=by
 cases hm:ms[i]? with
 |some y=>
  have:y=o:=by rw[<-ho];simp[List.getD,hm]
  rw[dg hm,this]
 |none=>
  have:o=0:=by rw[<-ho];simp[List.getD,hm]
  rw[this,List.take_add_one,hm];simp
theorem B9{x d e:Nat}(hx:ls[i]? =some x)(ho:ms.getD i 0=o)(hd:out[i]? =some d){b':Nat}(h:val (out.take i)+val (ms.take i)=val (ls.take i)+wt i*b)(he:e+(o+b)=x+4294967296*b'):
  val ((out.set i e).take (i+1))+val (ms.take (i+1))=val (ls.take (i+1))+wt (i+1)*b':=by
 have hi:=(aD.1 hd).1;have h1:(out.set i e)[i]? =some e:=by rw[aV hi]
 rw[dg h1,List.take_set_of_le (aF _),dg hx,KP ho,jG];have h4:wt i*(e+(o+b))=wt i*(x+4294967296*b'):=by rw[he]
 rw[bW,bW,bW,<-bg,bX (wt i) 4294967296]at h4;omega
theorem EU{u:Value}{m:Nat}(hS:Old S w)(hn:eB w S v n)(hm:eB w S u m)(hle:m<=n)(S3:ln n<=1000000000000):
  eD PG N.pT #[v,u] w (eG w fun v' w2=>eB w2 (Nf w w2) v' (n-m)):=by
 obtain⟨x,rfl,Qu,QU⟩:=hn.la;obtain⟨y,rfl,R5,QO⟩:=hm.la;have Pe:=eP x.lm QU;rw[Qu]at Pe;have hyx:y.ls.length<=x.ls.length:=by
  rw[eP x.lm QU,eP y.lm QO,Qu,R5];exact fM hle
 refine tR (by simp) ?_
 refine⟨x.ls.length,x.ls.length,rfl,rfl,aF _,by omega,by omega,Nat×List Nat×Nat×World,fun z=>⟨[(0,sV x.a x.ls.length x.c),(1,sV y.a y.ls.length y.c),(5,.o (.s 0 0 x.ls.length x.ls.length)),(6,.o (.v (.int .u32 z.2.2.1))),(13,iZ x.ls.length),(14,iZ z.1)],
   [(0,.arr T.uint32 (U z.2.1))],1,[],z.2.2.2⟩,fun z=>x.ls.length-z.1,
  fun z=>z.1<=x.ls.length∧dm w.heap.size w z.2.2.2∧z.2.1.length=x.ls.length∧Lm z.2.1∧z.2.2.1<2∧val (z.2.1.take z.1)+val (y.ls.take z.1)=val (x.ls.take z.1)+wt z.1*z.2.2.1,?_,?_⟩
 ·intro O w' r;rw[tV]at r;exact⟨(0,List.replicate x.ls.length 0,0,w'),⟨by simp,r.cQ,by simp,Lm.replicate _,by simp,by simp[val]⟩,Sub.gn [] r⟩
 ·rintro⟨i,out,b,w1⟩ ⟨hi,hw,Q4,PB,hc,hv⟩;dsimp only at hi hw Q4 PB hc hv ⊢;refine dI.mk ?_ ?_<;>intro h
  ·have h:i<x.ls.length:=by simpa using h
   obtain⟨xi,Ps⟩:∃k,x.ls[i]? =some k:=⟨_,aB h⟩
   obtain⟨d,hd⟩:∃k,out[i]? =some k:=⟨_,aB (by omega)⟩
   obtain⟨ad,Ol,PF⟩:=x.load hS hw Ps;have QK:=x.lm.at Ps;refine dI.mk ?_ ?_<;>intro h2
   ·have h2:i<y.ls.length:=by simpa using h2
    obtain⟨o,ho⟩:∃k,y.ls[i]? =some k:=⟨_,aB h2⟩
    obtain⟨ad2,Pv,RC⟩:=y.load hS hw ho;have WX:=y.lm.at ho;have Tf:y.ls.getD i 0=o:=by simp[List.getD,ho]
    refine⟨ad2,Pv,by omega,.int .u32 o,RC _ _ _,ad,Ol,by omega,.int .u32 xi,PF _ _ _,?_⟩;refine cD (cO (Φ:=fun _ _ v _=>v= .tuple #[.int .u32 ((xi+4294967296-(o+b)) % 4294967296:Nat),.int .u32 ((if xi<o+b then 1 else 0:Nat):Int)]) (fun O w' r=>JG xi o b w' QK WX (by omega)) ?_);rintro O w' v w2 r he hb rfl;replace hw:=hw.tr hb;have Px:(xi+4294967296-(o+b)) % 4294967296+(o+b)=xi+4294967296*(if xi<o+b then 1 else 0):=by split<;>omega
    have Oc:(xi+4294967296-(o+b)) % 4294967296<4294967296:=bw _ (by decide);have QY:(if xi<o+b then 1 else 0:Nat)<2:=by split<;>omega
    generalize (xi+4294967296-(o+b)) % 4294967296=e at Px Oc;generalize (if xi<o+b then 1 else 0:Nat)=b' at Px QY;have Oz:=B9 Ps Tf hd hv Px;refine⟨by omega,by rw[gR];omega,U (out.set i e),jL out i _ (by omega) (by simp),((i+1:Nat):Int),wo,?_⟩;intro ρ3 w3 r3
    exact⟨(i+1,out.set i e,b',w3),⟨by dsimp only;omega,hw.tr r3.cQ,by simp[Q4],PB.set Oc,QY,Oz⟩,
     Sub.gn [] r3,by dsimp only;omega⟩
   ·have h2:¬i<y.ls.length:=by simpa using h2
    have Tf:y.ls.getD i 0=0:=by simp[List.getD,List.getElem?_eq_none (show y.ls.length<=i by omega)]
    refine⟨ad,Ol,by omega,.int .u32 xi,PF _ _ _,?_⟩;refine cD (cO (Φ:=fun _ _ v _=>v= .tuple #[.int .u32 ((xi+4294967296-(0+b)) % 4294967296:Nat),.int .u32 ((if xi<0+b then 1 else 0:Nat):Int)]) (fun O w' r=>JG xi 0 b w' QK (by decide) (by omega)) ?_);rintro O w' v w2 r he hb rfl;replace hw:=hw.tr hb;have Px:(xi+4294967296-(0+b)) % 4294967296+(0+b)=xi+4294967296*(if xi<0+b then 1 else 0):=by split<;>omega
    have Oc:(xi+4294967296-(0+b)) % 4294967296<4294967296:=bw _ (by decide);have QY:(if xi<0+b then 1 else 0:Nat)<2:=by split<;>omega
    generalize (xi+4294967296-(0+b)) % 4294967296=e at Px Oc;generalize (if xi<0+b then 1 else 0:Nat)=b' at Px QY;have Oz:=B9 Ps Tf hd hv Px;refine⟨by omega,by rw[gR];omega,U (out.set i e),jL out i _ (by omega) (by simp),((i+1:Nat):Int),wo,?_⟩;intro ρ3 w3 r3
    exact⟨(i+1,out.set i e,b',w3),⟨by dsimp only;omega,hw.tr r3.cQ,by simp[Q4],PB.set Oc,QY,Oz⟩,
     Sub.gn [] r3,by dsimp only;omega⟩
  ·have QS:i=x.ls.length:=by
    have:¬i<x.ls.length:=by simpa using h
    omega
   subst QS;have TH:val out=n-m:=by
    rw[List.take_of_length_le (by omega),List.take_of_length_le hyx,bG,Qu,R5]at hv;have h1:=o6 PB;rw[Q4]at h1;have:b=0∨b=1:=by omega
    rcases this with rfl|rfl
    ·omega
    ·omega
   refine gj (Φ:=fun O _ v w2=>dP w2 (fun g=>g=(O 0).g) v (eA out)) (H':=[]) 0 rfl (by simp) trivial rfl (fun O w' r=>r.nn 0 _ rfl (by intros;simp) (by simp)) (fun O w' r=>?_) ?_
   ·have hL:=r.oH (id:=0) rfl PB (by omega);rw[Q4]at hL;exact fU (fun g hg=>by rw[hg];exact(r.low 0 _ rfl (r.nn 0 _ rfl (by intros;simp) (by simp))).2) hL
   rintro O w' v w2 r he hb hL;replace hw:=hw.tr hb;have On:=r.low 0 _ rfl (r.nn 0 _ rfl (by intros;simp) (by simp));generalize (O 0).g=g at*
   have hs:=he.size;intro ρ3 w3 r3;refine⟨_,rfl,hw.tr r3.cQ,eA out,?_,(fC out).2.1,?_⟩
   ·refine(hL.cI fun k hk=>?_).cJ fun k hk=>.inr ?_
    ·rw[hk];exact r3.ql.block g (by omega) (by simp)
    ·rw[hk];have:=r3.size;omega
   ·rw[(fC out).1,TH]
theorem IL{p c:Nat}(ho:out[p]? =some o)(h:val out+wt p*c=V)(ht:t=a+o+c):
  val (out.set p (t % 4294967296))+wt (p+1)*(t / 4294967296)=V+wt p*a:=by
 have h1:=zD (x:=t % 4294967296) ho;rw[jG];have h3:=Nat.div_add_mod t 4294967296;generalize t / 4294967296=q at h3 ⊢;generalize t % 4294967296=r at h3 h1 ⊢;have h4:wt p*(4294967296*q+r)=wt p*(a+o+c):=by rw[h3,ht]
 rw[bW,bW,bW,<-bg,bX (wt p) 4294967296]at h4;omega
def Zf(out:List Nat)(p:Nat):Prop:=∀(j:Nat) z,p<=j->out[j]? =some z->z=0
theorem Zf.set{p x:Nat}(h:Zf out p)(hk:k<p):Zf (out.set k x) p:=fun j z hj hz=>by
 rw[aZ (by omega)]at hz;exact h j z hj hz
theorem Mf(ha:a<4294967296)(hb:b<4294967296):a*b<=18446744065119617025:=by
 have:a*b<=4294967295*4294967295:=Nat.mul_le_mul (by omega) (by omega);omega
theorem Is{u:Value}{m:Nat}(hS:Old S w)(hn:eB w S v n)(hm:eB w S u m)(S3:ln n<=1000000000000)(PZ:ln m<=1000000000000):
  eD PG N.pS #[v,u] w (eG w fun v' w2=>eB w2 (Nf w w2) v' (n*m)):=by
 obtain⟨x,rfl,Qu,QU⟩:=hn.la;obtain⟨y,rfl,R5,QO⟩:=hm.la;have Pe:=eP x.lm QU;rw[Qu]at Pe;have Uq:=eP y.lm QO;rw[R5]at Uq;refine tQ (by simp) ?_;obtain⟨L,hL⟩:∃L,L=x.ls.length+y.ls.length:=⟨_,rfl⟩
 refine⟨(L:Int),wo,L,L,rfl,rfl,aF _,by omega,by omega,Nat×List Nat×World,fun z=>⟨[(1,sV y.a y.ls.length y.c),(5,.o (.s 0 0 L L)),(18,sV x.a x.ls.length x.c),(19,iZ x.ls.length),(20,iZ z.1)],
   [(0,.arr T.uint32 (U z.2.1))],1,[],z.2.2⟩,fun z=>x.ls.length-z.1,
  fun z=>z.1<=x.ls.length∧dm w.heap.size w z.2.2∧z.2.1.length=L∧Lm z.2.1∧val z.2.1=val (x.ls.take z.1)*m∧Zf z.2.1 (z.1+y.ls.length),?_,?_⟩
 ·intro O w' r;rw[tV]at r;exact⟨(0,List.replicate L 0,w'),⟨by simp,r.cQ,by simp,Lm.replicate _,by simp[val,nN],fun j z _ hz=>by simp only[List.getElem?_replicate]at hz;split at hz<;>simp_all⟩,Sub.gn [] r⟩
 ·rintro⟨i,out,w1⟩ ⟨hi,hw,Q4,PB,hv,hz⟩;dsimp only at hi hw Q4 PB hv hz ⊢;refine dI.mk ?_ ?_<;>intro h
  ·have h:i<x.ls.length:=by simpa using h
   obtain⟨xi,Ps⟩:∃k,x.ls[i]? =some k:=⟨_,aB h⟩
   obtain⟨ad,Ol,PF⟩:=x.load hS hw Ps;have QK:=x.lm.at Ps
   refine⟨ad,Ol,by omega,.int .u32 xi,PF _ _ _,Nat×List Nat×Nat×World,fun z=>⟨[(1,sV y.a y.ls.length y.c),(5,.o (.s 0 0 L L)),(18,sV x.a x.ls.length x.c),(19,iZ x.ls.length),(20,iZ i),
     (6,iZ i),(7,.o (.v (.int .u32 xi))),(8,.o (.v (.int .u64 z.2.2.1))),(25,sV y.a y.ls.length y.c),(26,iZ y.ls.length),(27,iZ z.1)],
     [(0,.arr T.uint32 (U z.2.1))],1,[],z.2.2.2⟩,fun z=>y.ls.length-z.1,
    fun z=>z.1<=y.ls.length∧dm w.heap.size w z.2.2.2∧z.2.1.length=L∧Lm z.2.1∧z.2.2.1<4294967296∧val z.2.1+wt (i+z.1)*z.2.2.1=val (x.ls.take i)*m+wt i*xi*val (y.ls.take z.1)∧Zf z.2.1 (i+y.ls.length),?_,?_⟩
   ·intro O w' r;exact⟨(0,out,0,w'),⟨by simp,hw.tr r.cQ,Q4,PB,by simp,by simp[val,hv],hz⟩,Sub.gn [] r⟩
   ·rintro⟨k,out,c,w1⟩ ⟨hk,hw,Q4,PB,hc,hv,hz⟩;dsimp only at hk hw Q4 PB hc hv hz ⊢;refine dI.mk ?_ ?_<;>intro h2
    ·have h2:k<y.ls.length:=by simpa using h2
     obtain⟨yk,hyk⟩:∃q,y.ls[k]? =some q:=⟨_,aB h2⟩
     obtain⟨ad2,Pv,RC⟩:=y.load hS hw hyk;have hy32:=y.lm.at hyk;obtain⟨o,ho⟩:∃q,out[i+k]? =some q:=⟨_,aB (by omega)⟩
     have WX:=PB.at ho;have hm64:=Mf QK hy32;refine⟨ad2,Pv,by omega,.int .u32 yk,RC _ _ _,(xi:Int),ed (by omega),(yk:Int),ed (by omega),((xi*yk:Nat):Int),by rw[<-Int.natCast_mul];exact ed (by omega),((i+k:Nat):Int),wo,by omega,.int .u32 o,by rw[aE,aS,aU];exact vI ho,(o:Int),ed (by omega),((xi*yk+o:Nat):Int),by rw[<-Int.natCast_add];exact ed (by omega),?_⟩;obtain⟨t,ht⟩:∃t,t=xi*yk+o+c:=⟨_,rfl⟩
     refine⟨(t:Int),by rw[<-Int.natCast_add,<-ht];exact ed (by omega),((i+k:Nat):Int),wo,((t % 4294967296:Nat):Int),fI _,by decide,((t / 4294967296:Nat):Int),mW 32 (by decide),by omega,by rw[gR];omega,U (out.set (i+k) (t % 4294967296)),jL out (i+k) _ (by omega) (by simp only[aE];omega),((k+1:Nat):Int),wo,?_⟩;intro ρ3 w3 r3
     refine⟨(k+1,out.set (i+k) (t % 4294967296),t / 4294967296,w3),⟨by dsimp only;omega,hw.tr r3.cQ,by simp[Q4],PB.set (bw _ (by decide)),by dsimp only;omega,?_,hz.set (by omega)⟩,
      Sub.gn [] r3,by dsimp only;omega⟩
     have h5:=IL (a:=xi*yk) ho hv ht;dsimp only
     rw[show i+(k+1)=i+k+1 by omega,h5,dg hyk,Dj,bW,Nat.add_assoc];congr 2;simp only[bg,Nat.mul_left_comm,bX]
    ·have hkn:k=y.ls.length:=by
      have:¬k<y.ls.length:=by simpa using h2
      omega
     subst hkn;obtain⟨o,ho⟩:∃q,out[i+y.ls.length]? =some q:=⟨_,aB (by omega)⟩
     have ho0:=hz _ _ (aF _) ho;subst ho0;refine⟨((i+y.ls.length:Nat):Int),wo,(c:Int),by rw[fI,bO hc],by omega,by rw[gR];omega,U (out.set (i+y.ls.length) c),jL out (i+y.ls.length) _ (by omega) (by simp only[aE];omega),((i+1:Nat):Int),wo,?_⟩;intro ρ3 w3 r3
     refine⟨(i+1,out.set (i+y.ls.length) c,w3),⟨by dsimp only;omega,hw.tr r3.cQ,by simp[Q4],PB.set hc,?_,?_⟩,
      Sub.gn [] r3,by dsimp only;omega⟩
     ·have h5:=zD (x:=c) ho;dsimp only
      rw[bG,R5]at hv;rw[dg Ps,Nat.add_mul];omega
     ·intro j z hj hjz;dsimp only at hj;rw[aZ (by omega)]at hjz;exact hz j z (by omega) hjz
  ·have QS:i=x.ls.length:=by
    have:¬i<x.ls.length:=by simpa using h
    omega
   subst QS;have TH:val out=n*m:=by rw[hv,bG,Qu]
   refine gj (Φ:=fun O _ v w2=>dP w2 (fun g=>g=(O 0).g) v (eA out)) (H':=[]) 0 rfl (by simp) trivial rfl (fun O w' r=>r.nn 0 _ rfl (by intros;simp) (by simp)) (fun O w' r=>?_) ?_
   ·have hL:=r.oH (id:=0) rfl PB (by omega);rw[Q4]at hL;exact fU (fun g hg=>by rw[hg];exact(r.low 0 _ rfl (r.nn 0 _ rfl (by intros;simp) (by simp))).2) hL
   rintro O w' v w2 r he hb hL;replace hw:=hw.tr hb;have On:=r.low 0 _ rfl (r.nn 0 _ rfl (by intros;simp) (by simp));generalize (O 0).g=g at*
   have hs:=he.size;intro ρ3 w3 r3;refine⟨_,rfl,hw.tr r3.cQ,eA out,?_,(fC out).2.1,?_⟩
   ·refine(hL.cI fun k hk=>?_).cJ fun k hk=>.inr ?_
    ·rw[hk];exact r3.ql.block g (by omega) (by simp)
    ·rw[hk];have:=r3.size;omega
   ·rw[(fC out).1,TH]
theorem EW{q:Nat}(ho:o<2^k):o ||| 2^k*q=o+2^k*q:=by
 rw[Nat.or_comm,<-Nat.two_pow_add_eq_or_of_lt ho,Nat.add_comm]
theorem Lq{x y:Nat}(hx:x<18446744073709551616)(hy:y<18446744073709551616):IntKind.u64.wrap ((BitVec.ofInt IntKind.u64.bits x ||| BitVec.ofInt IntKind.u64.bits y).toNat:Int)=((x ||| y:Nat):Int):=by
 have e:∀z:Nat,BitVec.ofInt 64 (z:Int)=BitVec.ofNat 64 z:=fun z=>by
  apply BitVec.eq_of_toNat_eq;simp
 show IntKind.u64.wrap ((BitVec.ofInt 64 x ||| BitVec.ofInt 64 y).toNat:Int)=_;rw[e,e,BitVec.toNat_or,BitVec.toNat_ofNat,BitVec.toNat_ofNat,bO hx,bO hy];exact ed (Nat.or_lt_two_pow (n:=64) hx hy)
theorem EV(hk:k<=63)(h:a*2^k<18446744073709551616):IntKind.u64.wrap ((a:Int)*2^min ((k:Int)).toNat IntKind.u64.bits)=((a*2^k:Nat):Int):=by
 have h1:min ((k:Int)).toNat IntKind.u64.bits=k:=by show min ((k:Int)).toNat 64=k;omega
 rw[h1,show(a:Int)*2^k=((a*2^k:Nat):Int) by simp];exact ed h
theorem IN(ha:ls[i]? =some a)(ho:out[i]? =some o)(hz:out[i+1]? =some 0)(hv:val out=val (ls.take i)*2^b):
  val ((out.set i (o+a*2^b % 4294967296)).set (i+1) (a*2^b / 4294967296))=val (ls.take (i+1))*2^b:=by
 have h1:=zD (x:=o+a*2^b % 4294967296) ho;have h2:(out.set i (o+a*2^b % 4294967296))[i+1]? =some 0:=by rw[aZ (by omega)];exact hz
 have h3:=zD (x:=a*2^b / 4294967296) h2;rw[dg ha,Nat.add_mul,bg];rw[jG]at h3;generalize a*2^b=t at*
 have h4:=Nat.div_add_mod t 4294967296;generalize t / 4294967296=q at*
 generalize t % 4294967296=r at*
 have h5:wt i*(o+r)=wt i*o+wt i*r:=bW _ _ _;have h6:4294967296*wt i*q=wt i*(4294967296*q):=by rw[bX 4294967296 (wt i),bg]
 rw[<-h4,bW];omega
def Lt(w w2:World)(v:Value)(ls:List Nat):Prop:=∃g,v= .slice (some ⟨g,0,none⟩) ls.length ls.length∧w.heap.size<=g∧w2.heap[g]? =some (.cells (U ls).toArray T.uint32 (0,0))∧Lm ls
theorem DG(hS:Old S w)(h:dP w S v ls)(hl:ls.length<=1000000000000)(hb:b<32):
  eD PG N.my #[v,.int .u64 b] w (eG w fun v' w2=>∃out,Lt w w2 v' out∧out.length=ls.length+1∧val out=val ls*2^b):=by
 obtain⟨x,rfl,rfl⟩:=h.la;refine qk (by simp) ?_;have hp32:2^b<=2^31:=Nat.pow_le_pow_right (by decide) (by omega)
 refine⟨((x.ls.length+1:Nat):Int),wo,x.ls.length+1,x.ls.length+1,rfl,rfl,aF _,by omega,by omega,Nat×List Nat×World,fun z=>⟨[(1,.o (.v (.int .u64 b))),(5,.o (.s 0 0 (x.ls.length+1) (x.ls.length+1))),(13,sV x.a x.ls.length x.c),(14,iZ x.ls.length),(15,iZ z.1)],
   [(0,.arr T.uint32 (U z.2.1))],1,[],z.2.2⟩,fun z=>x.ls.length-z.1,
  fun z=>z.1<=x.ls.length∧dm w.heap.size w z.2.2∧z.2.1.length=x.ls.length+1∧Lm z.2.1∧val z.2.1=val (x.ls.take z.1)*2^b∧Zf z.2.1 (z.1+1)∧(∀o,z.2.1[z.1]? =some o->o<2^b),?_,?_⟩
 ·intro O w' r;rw[tV]at r;refine⟨(0,List.replicate (x.ls.length+1) 0,w'),⟨by simp,r.cQ,by simp,Lm.replicate _,by simp[val,nN],fun j z _ hz=>?_,fun o ho=>?_⟩,Sub.gn [] r⟩
  ·simp only[List.getElem?_replicate]at hz;split at hz<;>simp_all
  ·simp only[List.getElem?_replicate]at ho;split at ho
   ·injection ho with ho;subst ho;exact bo _
   ·cases ho
 ·rintro⟨i,out,w1⟩ ⟨hi,hw,Q4,PB,hv,hz,On⟩;dsimp only at hi hw Q4 PB hv hz On ⊢;refine dI.mk ?_ ?_<;>intro h
  ·have h:i<x.ls.length:=by simpa using h
   obtain⟨a,Ps⟩:∃k,x.ls[i]? =some k:=⟨_,aB h⟩
   obtain⟨ad,Ol,PF⟩:=x.load hS hw Ps;have QK:=x.lm.at Ps;obtain⟨o,ho⟩:∃q,out[i]? =some q:=⟨_,aB (by omega)⟩
   obtain⟨o1,Vm⟩:∃q,out[i+1]? =some q:=⟨_,aB (by omega)⟩
   have e0:=hz _ _ (aF _) Vm;subst e0;have R4:=On o ho;have Oz:=IN Ps ho Vm hv;have Py:a*2^b<=4294967295*2^31:=Nat.mul_le_mul (by omega) hp32;have RX:a*2^b / 4294967296<2^b:=by
    rw[Nat.div_lt_iff_lt_mul (by decide),bX (2^b)];exact Nat.mul_lt_mul_of_pos_right QK (bo b)
   have UT:o ||| a*2^b % 4294967296=o+a*2^b % 4294967296:=by
    have:a*2^b % 4294967296=2^b*(a % 2^(32-b)):=by
     rw[show (4294967296:Nat)=2^(32-b)*2^b by rw[<-Nat.pow_add,Nat.sub_add_cancel (by omega)],Nat.mul_mod_mul_right,bX]
    rw[this];exact EW R4
   have RS:o+a*2^b % 4294967296<4294967296:=by
    rw[<-UT];exact Ec (by omega) (bw _ (by decide))
   refine⟨ad,Ol,by omega,.int .u32 a,PF _ _ _,(a:Int),ed (by omega),by omega,((a*2^b:Nat):Int),EV (by omega) (by omega),?_⟩;generalize ht:a*2^b=t at*
   refine⟨by omega,.int .u32 o,by rw[aE,aS,aU];exact vI ho,((t % 4294967296:Nat):Int),fI _,((o+t % 4294967296:Nat):Int),by rw[<-UT];exact aBE (by omega) (bw _ (by decide)),by omega,by rw[gR];omega,U (out.set i (o+t % 4294967296)),jL out i _ (by omega) (by simp),((i+1:Nat):Int),wo,by decide,((t / 4294967296:Nat):Int),mW 32 (by decide),((t / 4294967296:Nat):Int),by rw[fI];omega,by omega,by rw[gR];simp;omega,U ((out.set i (o+t % 4294967296)).set (i+1) (t / 4294967296)),jL _ (i+1) _ (by simp;omega) (by simp only[aE];omega),((i+1:Nat):Int),wo,?_⟩;intro ρ3 w3 r3
   refine⟨(i+1,(out.set i (o+t % 4294967296)).set (i+1) (t / 4294967296),w3),⟨by dsimp only;omega,hw.tr r3.cQ,by simp[Q4],(PB.set RS).set (by omega),Oz,fun j z hj hjz=>?_,fun o2 Tw=>?_⟩,
    Sub.gn [] r3,by dsimp only;omega⟩
   ·dsimp only at hj;rw[aZ (by omega),aZ (by omega)]at hjz;exact hz j z (by omega) hjz
   ·rw[aV (by simp;omega)]at Tw;injection Tw with Tw;omega
  ·have QS:i=x.ls.length:=by
    have:¬i<x.ls.length:=by simpa using h
    omega
   subst QS;rw[bG]at hv;intro ρ3 w3 r3;refine⟨_,rfl,hw.tr r3.cQ,out,⟨(ρ3 0).g,by rw[Q4];rfl,(r3.low 0 _ rfl (r3.nn 0 _ rfl (by intros;simp) (by simp))).1,r3.arr 0 _ _ rfl,PB⟩,Q4,hv⟩
theorem Da{d q:Nat}(ha32:a<4294967296)(ha:ls[i]? =some a)(hd:out[i]? =some d)(hb:b<=32)(ht:t=a+4294967296*ls.getD (i+1) 0)(hq:q=t / 2^b % 4294967296)(hv:val (out.take i)+wt i*(val (ls.drop i) / 2^b)=V):
  val ((out.set i q).take (i+1))+wt (i+1)*(val (ls.drop (i+1)) / 2^b)=V:=by
 have hi:=(aD.1 hd).1;have h1:(out.set i q)[i]? =some q:=by rw[aV hi]
 rw[dg h1,List.take_set_of_le (aF _),jG,<-hv];have hN:=jT ha;have h2:val (ls.drop i) / 2^b=q+4294967296*(val (ls.drop (i+1)) / 2^b):=by
  have e1:val (ls.drop i) / 2^b / 4294967296=val (ls.drop (i+1)) / 2^b:=by
   rw[Nat.div_div_eq_div_mul,bX,<-Nat.div_div_eq_div_mul];congr 1;omega
  have e2:val (ls.drop i) / 2^b % 4294967296=q:=by
   have h3:∃z,val (ls.drop i)=t+2^b*(4294967296*z):=by
    cases hx:ls[i+1]? with
    |some y=>
     have:=jT hx;refine⟨2^(32-b)*val (ls.drop (i+1+1)),?_⟩;have h4:2^b*(4294967296*(2^(32-b)*val (ls.drop (i+1+1))))=18446744073709551616*val (ls.drop (i+1+1)):=by
      rw[Nat.mul_left_comm,<-bg (2^b),<-Nat.pow_add,Nat.add_sub_cancel' hb,<-bg]
     rw[h4,hN,this,ht,List.getD,hx];simp only[Option.getD_some]
     omega
    |none=>
     refine⟨0,?_⟩;have h5:ls.length<=i+1:=List.getElem?_eq_none_iff.1 hx;rw[hN,List.drop_of_length_le h5,ht,List.getD,hx];simp[val]
   obtain⟨z,hz⟩:=h3;rw[hz,Nat.add_mul_div_left _ _ (bo b),Nat.add_mul_mod_self_left,hq]
  have:=Nat.div_add_mod (val (ls.drop i) / 2^b) 4294967296;rw[e1,e2]at this;omega
 rw[h2,bW,bX 4294967296 (wt i),bg];omega
theorem aA0(hS:Old S w)(h:dP w S v ls)(hl:ls.length<=1000000000000)(hb:b<32):
  eD PG N.q8 #[v,.int .u64 b] w (eG w fun v' w2=>eB w2 (Nf w w2) v' (val ls / 2^b)):=by
 obtain⟨x,rfl,rfl⟩:=h.la;refine vG (by simp) ?_
 refine⟨x.ls.length,x.ls.length,rfl,rfl,aF _,by omega,by omega,Nat×List Nat×World,fun z=>⟨[(0,sV x.a x.ls.length x.c),(1,.o (.v (.int .u64 b))),(5,.o (.s 0 0 x.ls.length x.ls.length)),(12,iZ x.ls.length),(13,iZ z.1)],
   [(0,.arr T.uint32 (U z.2.1))],1,[],z.2.2⟩,fun z=>x.ls.length-z.1,
  fun z=>z.1<=x.ls.length∧dm w.heap.size w z.2.2∧z.2.1.length=x.ls.length∧Lm z.2.1∧val (z.2.1.take z.1)+wt z.1*(val (x.ls.drop z.1) / 2^b)=val x.ls / 2^b,?_,?_⟩
 ·intro O w' r;rw[tV]at r;exact⟨(0,List.replicate x.ls.length 0,w'),⟨by simp,r.cQ,by simp,Lm.replicate _,by simp[val,j3]⟩,Sub.gn [] r⟩
 ·rintro⟨i,out,w1⟩ ⟨hi,hw,Q4,PB,hv⟩;dsimp only at hi hw Q4 PB hv ⊢;refine dI.mk ?_ ?_<;>intro h
  ·have h:i<x.ls.length:=by simpa using h
   obtain⟨a,Ps⟩:∃k,x.ls[i]? =some k:=⟨_,aB h⟩
   obtain⟨ad,Ol,PF⟩:=x.load hS hw Ps;have QK:=x.lm.at Ps;obtain⟨d,hd⟩:∃q,out[i]? =some q:=⟨_,aB (by omega)⟩
   refine⟨ad,Ol,by omega,.int .u32 a,PF _ _ _,(a:Int),ed (by omega),((i+1:Nat):Int),wo,?_⟩;refine dI.mk ?_ ?_<;>intro h2
   ·have h2:i+1<x.ls.length:=by
     have:((i+1:Nat):Int)<x.ls.length:=aI h2;omega
    obtain⟨y,hy⟩:∃k,x.ls[i+1]? =some k:=⟨_,aB h2⟩
    obtain⟨ad2,Pv,RC⟩:=x.load hS hw hy;have hy32:=x.lm.at hy;have RY:x.ls.getD (i+1) 0=y:=by simp[List.getD,hy]
    have UT:a ||| y*2^32=a+4294967296*y:=by
     rw[bX];exact EW (k:=32) QK
    refine⟨((i+1:Nat):Int),wo,ad2,Pv,by omega,.int .u32 y,RC _ _ _,(y:Int),ed (by omega),by decide,((y*2^32:Nat):Int),EV (k:=32) (by decide) (by omega),((a+4294967296*y:Nat):Int),by rw[Lq (by omega) (by omega),UT],by omega,(((a+4294967296*y) / 2^b:Nat):Int),mW b (by omega),(((a+4294967296*y) / 2^b % 4294967296:Nat):Int),fI _,?_⟩;have Oz:=Da (t:=a+4294967296*y) QK Ps hd (by omega) (by rw[RY]) rfl hv;generalize hq:(a+4294967296*y) / 2^b % 4294967296=q at*
    have hq32:q<4294967296:=by rw[<-hq];exact bw _ (by decide)
    refine⟨by omega,by rw[gR];omega,U (out.set i q),jL out i _ (by omega) (by simp),((i+1:Nat):Int),wo,?_⟩;intro ρ3 w3 r3
    exact⟨(i+1,out.set i q,w3),⟨by dsimp only;omega,hw.tr r3.cQ,by simp[Q4],PB.set hq32,Oz⟩,
     Sub.gn [] r3,by dsimp only;omega⟩
   ·have h2:¬i+1<x.ls.length:=by
     have:¬((i+1:Nat):Int)<x.ls.length:=aH h2;omega
    have RY:x.ls.getD (i+1) 0=0:=by simp[List.getD,List.getElem?_eq_none (show x.ls.length<=i+1 by omega)]
    refine⟨by omega,((a / 2^b:Nat):Int),mW b (by omega),((a / 2^b % 4294967296:Nat):Int),fI _,?_⟩;have Oz:=Da (t:=a) QK Ps hd (by omega) (by rw[RY];omega) rfl hv;generalize hq:a / 2^b % 4294967296=q at*
    have hq32:q<4294967296:=by rw[<-hq];exact bw _ (by decide)
    refine⟨by omega,by rw[gR];omega,U (out.set i q),jL out i _ (by omega) (by simp),((i+1:Nat):Int),wo,?_⟩;intro ρ3 w3 r3
    exact⟨(i+1,out.set i q,w3),⟨by dsimp only;omega,hw.tr r3.cQ,by simp[Q4],PB.set hq32,Oz⟩,
     Sub.gn [] r3,by dsimp only;omega⟩
  ·have QS:i=x.ls.length:=by
    have:¬i<x.ls.length:=by simpa using h
    omega
   subst QS;have TH:val out=val x.ls / 2^b:=by
    rw[List.drop_length,List.take_of_length_le (by omega)]at hv;simpa [val]using hv
   refine gj (Φ:=fun O _ v w2=>dP w2 (fun g=>g=(O 0).g) v (eA out)) (H':=[]) 0 rfl (by simp) trivial rfl (fun O w' r=>r.nn 0 _ rfl (by intros;simp) (by simp)) (fun O w' r=>?_) ?_
   ·have hL:=r.oH (id:=0) rfl PB (by omega);rw[Q4]at hL;exact fU (fun g hg=>by rw[hg];exact(r.low 0 _ rfl (r.nn 0 _ rfl (by intros;simp) (by simp))).2) hL
   rintro O w' v w2 r he hb hL;replace hw:=hw.tr hb;have On:=r.low 0 _ rfl (r.nn 0 _ rfl (by intros;simp) (by simp));generalize (O 0).g=g at*
   have hs:=he.size;intro ρ3 w3 r3;refine⟨_,rfl,hw.tr r3.cQ,eA out,?_,(fC out).2.1,?_⟩
   ·refine(hL.cI fun k hk=>?_).cJ fun k hk=>.inr ?_
    ·rw[hk];exact r3.ql.block g (by omega) (by simp)
    ·rw[hk];have:=r3.size;omega
   ·rw[(fC out).1,TH]
theorem IP{by_ rest x d:Nat}(hx:ls[k]? =some x)(hd:out[k]? =some d)(ht:t=rest*4294967296+x)
  (hv:val (ls.drop (k+1))=by_*val (out.drop (k+1))+rest):val (ls.drop k)=by_*val ((out.set k (t / by_)).drop k)+t % by_:=by
 have hi:=(aD.1 hd).1;have h1:(out.set k (t / by_))[k]? =some (t / by_):=by rw[aV hi]
 rw[jT h1,List.drop_set_of_lt (show k<k+1 by omega),jT hx,hv,bW,bW];have h2:=Nat.div_add_mod t by_;rw[Nat.mul_left_comm by_];omega
theorem Ls(h:t<18446744073709551616):IntKind.u64.wrap ((t:Int).tdiv (b:Int))=((t / b:Nat):Int):=by
 have h1:=Nat.div_le_self t b;rw[Int.tdiv_eq_ediv_of_nonneg (by omega),<-Int.natCast_ediv];exact ed (by omega)
theorem M4(t b:Nat):(t:Int).tmod (b:Int)=((t % b:Nat):Int):=by
 rw[Int.tmod_eq_emod_of_nonneg (by omega),<-Int.natCast_emod]
theorem NP(hS:Old S w)(h:dP w S v ls)(hl:ls.length<=1000000000000)(hb:0<b)(QY:b<4294967296):
  eD PG N.pU #[v,.int .u32 b] w (eG w fun v' w2=>∃q,v'= .tuple #[q,.int .u32 ((val ls % b:Nat):Int)]∧eB w2 (Nf w w2) q (val ls / b)):=by
 obtain⟨x,rfl,rfl⟩:=h.la;refine tS (by simp) ?_
 refine⟨x.ls.length,x.ls.length,rfl,rfl,aF _,by omega,by omega,(x.ls.length:Int)-1,wo,Nat×Nat×List Nat×World,fun z=>⟨[(0,sV x.a x.ls.length x.c),(1,.o (.v (.int .u32 b))),(4,sV none 0 0),(5,.o (.v (.int .u32 0))),(6,.o (.s 0 0 x.ls.length x.ls.length)),(7,.o (.v (.int .u64 z.2.1))),(8,.o (.v (.int .i64 ((z.1:Int)-1))))],
   [(0,.arr T.uint32 (U z.2.2.1))],1,[],z.2.2.2⟩,fun z=>z.1,
  fun z=>z.1<=x.ls.length∧dm w.heap.size w z.2.2.2∧z.2.2.1.length=x.ls.length∧Lm z.2.2.1∧z.2.1<b∧val (x.ls.drop z.1)=b*val (z.2.2.1.drop z.1)+z.2.1,?_,?_⟩
 ·intro O w' r;rw[tV]at r;exact⟨(x.ls.length,0,List.replicate x.ls.length 0,w'),⟨by simp,r.cQ,by simp,Lm.replicate _,by simpa using hb,by simp[val]⟩,Sub.gn [] r⟩
 ·rintro⟨k,rest,out,w1⟩ ⟨hi,hw,Q4,PB,hr,hv⟩;dsimp only at hi hw Q4 PB hr hv ⊢;refine dI.mk ?_ ?_<;>intro h
  ·have h:(k:Int)-1≥0:=aI h;obtain⟨k,rfl⟩:∃q,k=q+1:=⟨k-1,by omega⟩
   rw[show ((k+1:Nat):Int)-1=(k:Int) by omega];obtain⟨a,Ps⟩:∃q,x.ls[k]? =some q:=⟨_,aB (by omega)⟩
   obtain⟨ad,Ol,PF⟩:=x.load hS hw Ps;have QK:=x.lm.at Ps;obtain⟨d,hd⟩:∃q,out[k]? =some q:=⟨_,aB (by omega)⟩
   refine⟨by decide,((rest*2^32:Nat):Int),EV (k:=32) (by decide) (by omega),ad,Ol,by omega,.int .u32 a,PF _ _ _,(a:Int),ed (by omega),?_⟩;have UT:rest*2^32 ||| a=rest*4294967296+a:=by
    rw[Nat.or_comm,bX,EW (k:=32) QK];omega
   refine⟨((rest*4294967296+a:Nat):Int),by rw[Lq (by omega) (by omega),UT],?_⟩;generalize ht:rest*4294967296+a=t;have ht64:t<18446744073709551616:=by omega
   refine cK hτ da [.x 0,.x 1,.x 2,.x 3,.x 4,.x 5,.x 6,.x 7,.x 8,.x 9,.x 10,.x 11,.x 12,.x 13] (by kernel_rfl) (by kernel_rfl) ?_;refine⟨(b:Int),ed (by omega),by omega,((t / b:Nat):Int),Ls ht64,?_⟩;have hq:t / b<4294967296:=by
    rw[Nat.div_lt_iff_lt_mul hb];have:=Nat.mul_le_mul_right 4294967296 hr;rw[Nat.succ_eq_add_one,Nat.add_mul]at this;omega
   have hm:t % b<b:=bw _ hb;have Oz:=IP Ps hd ht.symm hv;have hw32:IntKind.u32.wrap ((t / b:Nat):Int)=((t / b:Nat):Int):=by rw[fI,bO hq]
   have hrem:=M4 t b;generalize t / b=q at*
   generalize t % b=m at*
   refine⟨(q:Int),hw32,(b:Int),ed (by omega),by omega,(m:Int),hrem,by omega,by rw[gR];omega,U (out.set k q),jL out k _ (by omega) (by simp),(k:Int)-1,wo,?_⟩;intro ρ3 w3 r3
   exact⟨(k,m,out.set k q,w3),⟨by dsimp only;omega,hw.tr r3.cQ,by simp[Q4],PB.set hq,hm,Oz⟩,
    Sub.gn [] r3,by dsimp only;omega⟩
  ·have Sd:k=0:=by
    have:¬(k:Int)-1≥0:=aH h;omega
   subst Sd;rw[List.drop_zero,List.drop_zero]at hv;have hdm:val x.ls / b=val out∧val x.ls % b=rest:=by
    rw[hv];exact⟨by rw[Nat.mul_add_div hb,Nat.div_eq_of_lt hr,bz],by rw[Nat.mul_add_mod,bO hr]⟩
   rw[hdm.1,hdm.2];refine gj (Φ:=fun O _ v w2=>dP w2 (fun g=>g=(O 0).g) v (eA out)) (H':=[]) 0 rfl (by simp) trivial rfl (fun O w' r=>r.nn 0 _ rfl (by intros;simp) (by simp)) (fun O w' r=>?_) ?_
   ·have hL:=r.oH (id:=0) rfl PB (by omega);rw[Q4]at hL;exact fU (fun g hg=>by rw[hg];exact(r.low 0 _ rfl (r.nn 0 _ rfl (by intros;simp) (by simp))).2) hL
   rintro O w' v w2 r he hb hL;replace hw:=hw.tr hb;have On:=r.low 0 _ rfl (r.nn 0 _ rfl (by intros;simp) (by simp));generalize (O 0).g=g at*
   have hs:=he.size;refine⟨(rest:Int),by rw[fI,bO (by omega)],?_⟩;intro ρ3 w3 r3;refine⟨_,rfl,hw.tr r3.cQ,v,rfl,eA out,?_,(fC out).2.1,(fC out).1⟩;refine(hL.cI fun k hk=>?_).cJ fun k hk=>.inr ?_
   ·rw[hk];exact r3.ql.block g (by omega) (by simp)
   ·rw[hk];have:=r3.size;omega
def gk(n:Nat):Nat:=if n=0 then 0 else n.log2+1
theorem Ll{x:Nat}(h:2^k<=x):x.log2=(x / 2^k).log2+k:=by
 have hp:=bo k;have hy:x / 2^k≠0:=by have:=Nat.div_pos h hp;omega
 have h1:=Nat.log2_self_le hy;have h2:=@Nat.lt_log2_self (x / 2^k);rw[Nat.log2_eq_iff (by omega)];refine⟨?_,?_⟩
 ·rw[Nat.pow_add];exact(Nat.le_div_iff_mul_le hp).1 h1
 ·rw[show (x / 2^k).log2+k+1=(x / 2^k).log2+1+k by omega,Nat.pow_add];exact(Nat.div_lt_iff_lt_mul hp).1 h2
theorem BL{x:Nat}(h:2^k<=x):gk x=k+gk (x / 2^k):=by
 have hp:=bo k;have hy:x / 2^k≠0:=by have:=Nat.div_pos h hp;omega
 rw[gk,gk,aK hy,aK (by omega),Ll h];omega
theorem zJ(h:n<256):IntKind.u8.wrap (n:Int)=(n:Int):=by
 show((n:Int) % 256)=_;omega
theorem zK(h:n<256):(UInt8.ofNat (gk n)).toNat=gk n:=by
 have:∀n,n<256->(UInt8.ofNat (gk n)).toNat=gk n:=by decide +kernel
 exact this n h
theorem oz{x:Nat}(h:x<256):gk x<=8:=by
 have:∀n,n<256->gk n<=8:=by decide +kernel
 exact this x h
theorem Ip(n:Nat)(h:n<256):(⟨#[0,1,2,2,3,3,3,3,4,4,4,4,4,4,4,4,5,5,5,5,5,5,5,5,5,5,5,5,5,5,5,5,6,6,6,6,6,6,6,6,6,6,6,6,6,6,6,6,6,6,6,6,6,6,6,6,6,6,6,6,6,6,6,6,7,7,7,7,7,7,7,7,7,7,7,7,7,7,7,7,7,7,7,7,7,7,7,7,7,7,7,7,7,7,7,7,7,7,7,7,7,7,7,7,7,7,7,7,7,7,7,7,7,7,7,7,7,7,7,7,7,7,7,7,7,7,7,7,8,8,8,8,8,8,8,8,8,8,8,8,8,8,8,8,8,8,8,8,8,8,8,8,8,8,8,8,8,8,8,8,8,8,8,8,8,8,8,8,8,8,8,8,8,8,8,8,8,8,8,8,8,8,8,8,8,8,8,8,8,8,8,8,8,8,8,8,8,8,8,8,8,8,8,8,8,8,8,8,8,8,8,8,8,8,8,8,8,8,8,8,8,8,8,8,8,8,8,8,8,8,8,8,8,8,8,8,8,8,8,8,8,8,8,8,8,8,8,8,8,8,8,8,8,8,8,8]⟩:ByteArray)[((n:Nat):Int).toNat]? =some (UInt8.ofNat (gk n)):=by
 have:∀n,n<256->(⟨#[0,1,2,2,3,3,3,3,4,4,4,4,4,4,4,4,5,5,5,5,5,5,5,5,5,5,5,5,5,5,5,5,6,6,6,6,6,6,6,6,6,6,6,6,6,6,6,6,6,6,6,6,6,6,6,6,6,6,6,6,6,6,6,6,7,7,7,7,7,7,7,7,7,7,7,7,7,7,7,7,7,7,7,7,7,7,7,7,7,7,7,7,7,7,7,7,7,7,7,7,7,7,7,7,7,7,7,7,7,7,7,7,7,7,7,7,7,7,7,7,7,7,7,7,7,7,7,7,8,8,8,8,8,8,8,8,8,8,8,8,8,8,8,8,8,8,8,8,8,8,8,8,8,8,8,8,8,8,8,8,8,8,8,8,8,8,8,8,8,8,8,8,8,8,8,8,8,8,8,8,8,8,8,8,8,8,8,8,8,8,8,8,8,8,8,8,8,8,8,8,8,8,8,8,8,8,8,8,8,8,8,8,8,8,8,8,8,8,8,8,8,8,8,8,8,8,8,8,8,8,8,8,8,8,8,8,8,8,8,8,8,8,8,8,8,8,8,8,8,8,8,8,8,8,8,8]⟩:ByteArray)[n]? =some (UInt8.ofNat (gk n)):=by decide +kernel
 exact this n h
theorem NL(x:Nat)(w:World)(hx:x<4294967296):eD PG N.Ap #[.int .u32 x] w (eG w fun v _=>v= .int .i64 (gk x)):=by
 refine CD (by simp) ?_;refine dI.mk ?_ ?_<;>intro h
 ·have h:65536<=x:=by have:=aI h;omega
  refine⟨by decide,((x / 2^16:Nat):Int),pA 16 (by decide),?_⟩;have hb:=BL (k:=16) h;have hy:x / 2^16<65536:=by omega
  rw[hb];generalize x / 2^16=y at*
  refine dI.mk ?_ ?_<;>intro h2
  ·have h2:256<=y:=by have:=aI h2;omega
   refine⟨by decide,((y / 2^8:Nat):Int),pA 8 (by decide),?_⟩;have QY:=BL (k:=8) h2;have hz:y / 2^8<256:=by omega
   rw[QY];generalize y / 2^8=z at*
   refine⟨24,by decide,(z:Int),zJ hz,?_⟩;refine rH (b:=UInt8.ofNat (gk z)) ((hτ _ _ rfl).i3 rfl) rfl rfl (by omega) (Ip z hz) (fun ρ1 w1 r1=>?_);rw[zK hz];have ht:=oz hz;refine⟨(gk z:Int),wo,((24+gk z:Nat):Int),wo,?_⟩;intro ρ3 w3 r3;exact⟨_,rfl,r1.cQ.tr r3.cQ,by rw[<-Nat.add_assoc];rfl⟩
  ·have hy:y<256:=by have:=aH h2;omega
   refine⟨(y:Int),zJ hy,?_⟩;refine rH (b:=UInt8.ofNat (gk y)) ((hτ _ _ rfl).i3 rfl) rfl rfl (by omega) (Ip y hy) (fun ρ1 w1 r1=>?_);rw[zK hy];have ht:=oz hy;refine⟨(gk y:Int),wo,((16+gk y:Nat):Int),wo,?_⟩;intro ρ3 w3 r3;exact⟨_,rfl,r1.cQ.tr r3.cQ,by rfl⟩
 ·have h:x<65536:=by have:=aH h;omega
  refine dI.mk ?_ ?_<;>intro h2
  ·have h2:256<=x:=by have:=aI h2;omega
   refine⟨by decide,((x / 2^8:Nat):Int),pA 8 (by decide),?_⟩;have QY:=BL (k:=8) h2;have hz:x / 2^8<256:=by omega
   rw[QY];generalize x / 2^8=z at*
   refine⟨8,by decide,(z:Int),zJ hz,?_⟩;refine rH (b:=UInt8.ofNat (gk z)) ((hτ _ _ rfl).i3 rfl) rfl rfl (by omega) (Ip z hz) (fun ρ1 w1 r1=>?_);rw[zK hz];have ht:=oz hz;refine⟨(gk z:Int),wo,((8+gk z:Nat):Int),wo,?_⟩;intro ρ3 w3 r3;exact⟨_,rfl,r1.cQ.tr r3.cQ,by rfl⟩
  ·have hx:x<256:=by have:=aH h2;omega
   refine⟨(x:Int),zJ hx,?_⟩;refine rH (b:=UInt8.ofNat (gk x)) ((hτ _ _ rfl).i3 rfl) rfl rfl (by omega) (Ip x hx) (fun ρ1 w1 r1=>?_);rw[zK hx];have ht:=oz hx;refine⟨(gk x:Int),wo,((0+gk x:Nat):Int),wo,?_⟩;intro ρ3 w3 r3;exact⟨_,rfl,r1.cQ.tr r3.cQ,by rw[aS];rfl⟩
theorem zE{x:Nat}:gk x<=k↔x<2^k:=by
 unfold gk;by_cases h:x=0
 ·rw[if_pos h,h];exact⟨fun _=>bo k,fun _=>aO _⟩
 ·rw[aK h];constructor
  ·intro h1;exact(Nat.log2_lt h).1 (by omega)
  ·intro h1;have:=(Nat.log2_lt h).2 h1;omega
theorem aAY(x:Nat)(w:World)(hx:x<4294967296):eD PG N.lK #[.int .u32 x] w (eG w fun v _=>v= .int .i64 ((32-gk x:Nat):Int)):=by
 refine oy (by simp) ?_;refine cD (cO (Φ:=fun _ _ v _=>v= .int .i64 (gk x)) (fun O w' r=>NL x w' hx) ?_);rintro O w' v w2 r he hb rfl;have h32:gk x<=32:=zE.2 hx;refine⟨((32-gk x:Nat):Int),wo,?_⟩;intro ρ3 w3 r3;exact⟨_,rfl,hb.tr r3.cQ,rfl⟩
end Go.Ex
namespace Go.Sx
open Go Go.Ex Go.Proofs
variable{ls:List Nat}{O:Nat->Sx.di}
theorem Rel.Ln{H:Hp}{nx:Nat}{iv:Iv}{B:Nat}{w w':World}(r:Rel H nx iv B w O w'){id t m:Nat}(h:dE H id=some (.vec t 1 (U ls)))(hm:m=ls.length)(PZ:Lm ls)(hle:ls.length<=9223372036854775807):
  dP w' (fun g=>B<=g∧g<w'.heap.size) ((At.w id m).den O) ls:=by
 subst hm;rcases r.vec id t 1 _ h with⟨hn,hu⟩|⟨hn,spare,hb,hc,Qs⟩
 ·have hl:ls=[]:=by cases ls with
   |nil=>rfl
   |cons a b=>simp[U]at hu
  subst hl;have:(At.w id ([]:List Nat).length).den O= .slice none 0 0:=by simp[At.den,hn]
  rw[this];exact dP.nil _ _
 ·refine⟨PZ,hle,some ⟨(O id).g,0,none⟩,(O id).cap,by simp[At.den,hn],?_,fun j x hx=>⟨_,rfl,r.low id _ h hn,?_⟩⟩
  ·have h1:(U ls++spare).length=ls.length+spare.length:=by rw[List.length_append,gR]
   omega
  ·rw[dZ,cell_of hb,aS,aL (by rw[gR];exact(aD.1 hx).1)];exact vI hx
end Go.Sx
namespace Go.Ex
open Go Go.Sx Go.Proofs
variable{ls:List Nat}{S:Nat->Prop}
theorem NM:PG.underlying T.nat=some (.slice T.uint32):=by
 have h:=(hτ T.nat _ rfl).i4 rfl;exact h
theorem Iq{w:World}{v:Value}(hS:Old S w)(h:dP w S v ls)(hl:ls.length<=1000000000000):
  eD PG N.gD #[v] w (eG w fun v' w2=>dP w2 (Nf w w2) v' ls):=by
 obtain⟨x,rfl,rfl⟩:=h.la;refine ix (by simp) ?_;refine⟨x.a.isNone,fun O w1 o1 o2=>by simp[eqGuard,SV.den,At.den,nd (P:=PG) w1 T.nat T.uint32 x.a x.ls.length x.c 0 0 NM],?_⟩;refine dI.mk ?_ ?_<;>intro h
 ·intro ρ3 w3 r3;have hn:x.ls=[]:=by
   cases hx:x.ls with
   |nil=>rfl
   |cons u r=>
    obtain⟨ad,h1,_⟩:=x.cell 0 u (by rw[hx];rfl);rw[h1]at h;simp at h
  exact⟨_,rfl,r3.cQ,by rw[hn];exact dP.nil _ _⟩
 ·refine .inl ?_;refine⟨U x.ls,by rw[gR,aU],fun u hu=>by simp only[U,aT]at hu;obtain⟨n,_,rfl⟩:=hu;rfl,fun O w1 r h0=>?_,?_⟩
  ·obtain⟨u,hu⟩:∃q,x.ls[0]? =some q:=⟨_,aB h0⟩
   obtain⟨ad,Ol,_⟩:=x.cell 0 u hu;refine⟨ad,Ol,fun j u hu=>?_⟩;simp only[U,aM,Option.map_eq_some_iff]at hu;obtain⟨n,hn,rfl⟩:=hu;obtain⟨ad2,Pv,hs,hc⟩:=x.cell j n hn;rw[Ol]at Pv;injection Pv with Pv;subst Pv;exact kR hS dm.refl r hs hc
  refine⟨rfl,by omega,by unfold maxLen;omega,?_⟩;intro ρ3 w3 r3;exact⟨_,rfl,r3.cQ,(r3.Ln (id:=1) rfl (aS _) x.lm x.le).cJ fun g hg=>.inr hg⟩
end Go.Ex
