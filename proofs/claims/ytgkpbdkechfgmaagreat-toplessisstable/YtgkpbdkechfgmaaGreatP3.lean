/- Texts L1 to X10: lemmas, each with its conditions. -/
import Derived.KernelRfl
import Derived.Test.YtgkpbdkechfgmaaGreatProg
import Derived.Test.YtgkpbdkechfgmaaGreatP2
namespace Go.Ex
variable{a b ls:List Nat}{k:Nat}
def val:List Nat->Nat
 |[]=>0
 |x::r=>x+4294967296*val r
def Lm(ls:List Nat):Prop:=∀x∈ls,x<4294967296
def wt(k:Nat):Nat:=4294967296^k
theorem jM:wt 0=1:=rfl
theorem il(k:Nat):wt (k+1)=4294967296*wt k:=by rw[wt,Nat.pow_succ,bL];rfl
theorem CH(a b:Nat):wt (a+b)=wt a*wt b:=by rw[wt,Nat.pow_add];rfl
theorem uo(k:Nat):0<wt k:=Nat.pow_pos (by decide)
theorem kv(a b:List Nat):val (a++b)=val a+wt a.length*val b:=by
 induction a with
 |nil=>simp[val,jM]
 |cons x r ih=>
  rw[List.cons_append,val,val,ih,List.length_cons,il,bQ,bc];omega
theorem nY(h:Lm ls):val ls<wt ls.length:=by
 induction ls with
 |nil=>exact Nat.one_pos
 |cons x r ih=>
  have h1:=h x (by simp);have h2:=ih (fun y hy=>h y (by simp[hy]));rw[val,List.length_cons,il];have:4294967296*(val r+1)<=4294967296*wt r.length:=bP _ h2;omega
theorem eX(ls:List Nat)(k:Nat)(h:k<=ls.length):val ls=val (ls.take k)+wt k*val (ls.drop k):=by
 have:=kv (ls.take k) (ls.drop k);rw[List.take_append_drop,aZ,Nat.min_eq_left h]at this;exact this
theorem dJ{x:Nat}(h:ls[k]? =some x):val (ls.take (k+1))=val (ls.take k)+wt k*x:=by
 have hk:=(aD.1 h).1;rw[List.take_add_one,h,kv,aZ,Nat.min_eq_left (by omega)];simp[val]
theorem jE{x:Nat}(h:ls[k]? =some x):val (ls.drop k)=x+4294967296*val (ls.drop (k+1)):=by
 obtain⟨hk,hx⟩:=aD.1 h;rw[List.drop_eq_getElem_cons hk,hx,val]
theorem x8{o x:Nat}(h:ls[k]? =some o):val (ls.set k x)+wt k*o=val ls+wt k*x:=by
 obtain⟨hk,ho⟩:=aD.1 h;have h1:=eX ls k (by omega);have h2:=eX (ls.set k x) k (by simp;omega);rw[List.take_set_of_le (Nat.le_refl _)]at h2;rw[jE h,bQ]at h1;have h3:(ls.set k x)[k]? =some x:=by rw[aO hk]
 rw[jE h3,List.drop_set_of_lt (by omega),bQ]at h2;omega
theorem mZ(n:Nat):val (List.replicate n 0)=0:=by
 induction n with
 |zero=>rfl
 |succ n ih=>rw[List.replicate_succ,val,ih]
theorem Lm.set{x:Nat}(h:Lm ls)(hx:x<4294967296):Lm (ls.set k x):=fun y hy=>by
 rcases a9 hy with h1|rfl
 ·exact h y h1
 ·exact hx
theorem Lm.replicate(n:Nat):Lm (List.replicate n 0):=fun x hx=>by rw[List.mem_replicate]at hx;omega
theorem Lm.take(h:Lm ls)(k:Nat):Lm (ls.take k):=fun x hx=>h x (bS hx)
theorem Lm.drop(h:Lm ls)(k:Nat):Lm (ls.drop k):=fun x hx=>h x (List.mem_of_mem_drop hx)
theorem Lm.append(ha:Lm a)(hb:Lm b):Lm (a++b):=fun x hx=>by
 rcases List.mem_append.1 hx with h|h
 ·exact ha x h
 ·exact hb x h
theorem Lm.at(h:Lm ls){x:Nat}(hx:ls[k]? =some x):x<4294967296:=h x (aE hx)
def dO:List Nat->List Nat
 |[]=>[]
 |x::r=>match dO r with
  |[]=>if x=0 then []else [x]
  |y::t=>x::y::t
def Nz(ls:List Nat):Prop:=∀x,ls.getLast? =some x->x≠0
theorem kP(ls:List Nat):dO (ls++[0])=dO ls:=by
 induction ls with
 |nil=>rfl
 |cons x r ih=>rw[List.cons_append,dO,ih,dO]
theorem nZ(ls:List Nat){x:Nat}(hx:x≠0):dO (ls++[x])=ls++[x]:=by
 induction ls with
 |nil=>simp[dO,hx]
 |cons y r ih=>
  rw[List.cons_append,dO,ih]
  cases r<;>rfl
theorem sB(ls:List Nat):ls=[]∨∃a x,ls=a++[x]:=by
 rcases List.eq_nil_or_concat ls with h|⟨a,x,h⟩
 ·exact .inl h
 ·exact .inr ⟨a,x,by simpa using h⟩
theorem ef(ls:List Nat):val (dO ls)=val ls∧Nz (dO ls)∧∃k,k<=ls.length∧dO ls=ls.take k:=by
 have key:∀(n:Nat) (ls:List Nat),ls.length=n->val (dO ls)=val ls∧Nz (dO ls)∧∃k,k<=ls.length∧dO ls=ls.take k:=by
  intro n
  induction n with
  |zero=>intro ls h;have:ls=[]:=List.eq_nil_of_length_eq_zero h;subst this;exact⟨rfl,by simp[Nz,dO],0,Nat.le_refl _,rfl⟩
  |succ n ih=>
   intro ls h;rcases sB ls with rfl|⟨a,x,rfl⟩
   ·simp at h
   ·by_cases hx:x=0
    ·subst hx;rw[kP];obtain⟨h1,h2,k,h3,h4⟩:=ih a (by simp at h;omega);refine⟨by rw[h1,kv];simp[val],h2,k,by simp;omega,?_⟩;rw[h4,List.take_append_of_le_length h3]
    ·rw[nZ a hx];refine⟨rfl,?_,_,Nat.le_refl _,by rw[bH]⟩;intro y hy;simp at hy;subst hy;exact hx
 exact key _ ls rfl
theorem Dh(h:Nz ls):dO ls=ls:=by
 rcases sB ls with rfl|⟨a,x,rfl⟩
 ·rfl
 ·exact nZ a (h x (by simp))
theorem rN(h:Nz ls)(OS:ls≠[]):wt (ls.length-1)<=val ls:=by
 rcases sB ls with rfl|⟨a,x,rfl⟩
 ·exact absurd rfl OS
 ·have hx:=h x (by simp);rw[kv];simp only[val,List.length_append,List.length_singleton,Nat.add_sub_cancel]
  have:wt a.length*1<=wt a.length*(x+4294967296*0):=bP _ (by omega);omega
theorem val_inj:∀{a b:List Nat},Lm a->Lm b->a.length=b.length->val a=val b->a=b
 |[],[],_,_,_,_=>rfl
 |x::r,y::s,ha,hb,hl,h=>by
  have h1:=ha x (by simp);have h2:=hb y (by simp);rw[val,val]at h;have h3:x=y:=by omega
  have h4:val r=val s:=by omega
  rw[h3,val_inj (fun z hz=>ha z (by simp[hz])) (fun z hz=>hb z (by simp[hz])) (by simpa using hl) h4]
 |[],_::_,_,_,h,_=>by simp at h
 |_::_,[],_,_,h,_=>by simp at h
theorem BI{a b:Nat}(h:a<=b):wt a<=wt b:=Nat.pow_le_pow_right (by decide) h
theorem Jc{a b:Nat}(h:a<b):wt a<wt b:=Nat.pow_lt_pow_right (by decide) h
theorem im(ha:Lm a)(hb:Nz b)(h:a.length<b.length):val a<val b:=by
 have h1:=nY ha;have h2:=rN hb (by intro e;rw[e]at h;simp at h);have:=BI (show a.length<=b.length-1 by omega);omega
def ln(n:Nat):Nat:=if n=0 then 0 else n.log2 / 32+1
theorem uq(k:Nat):wt k=2^(32*k):=by rw[wt,show(4294967296:Nat)=2^32 from rfl,<-Nat.pow_mul]
theorem gD{n k:Nat}:ln n<=k↔n<wt k:=by
 unfold ln;by_cases h:n=0
 ·rw[if_pos h,h];exact⟨fun _=>uo k,fun _=>aS _⟩
 ·rw[aI h,uq];constructor
  ·intro h1;have:n.log2<32*k:=by omega
   exact(Nat.log2_lt h).1 this
  ·intro h1;have:=(Nat.log2_lt h).2 h1;omega
theorem kx(n:Nat):n<wt (ln n):=gD.1 (Nat.le_refl _)
theorem fI{a b:Nat}(h:a<=b):ln a<=ln b:=gD.2 (Nat.lt_of_le_of_lt h (kx b))
theorem NK(a b:Nat):ln (a+b)<=max (ln a) (ln b)+1:=by
 rw[gD,il];have h1:=Nat.lt_of_lt_of_le (kx a) (BI (Nat.le_max_left (ln a) (ln b)));have h2:=Nat.lt_of_lt_of_le (kx b) (BI (Nat.le_max_right (ln a) (ln b)));omega
theorem NL(a b:Nat):ln (a*b)<=ln a+ln b:=by
 rw[gD,CH];exact Nat.mul_lt_mul'' (kx a) (kx b)
theorem Lk:ln 0=0:=rfl
theorem eA(h:Lm ls)(hz:Nz ls):ls.length=ln (val ls):=by
 by_cases OS:ls=[]
 ·subst OS;rfl
 ·have h1:=nY h;have h2:=rN hz OS;have h3:=gD.2 h1;have h4:¬ln (val ls)<=ls.length-1:=fun hh=>by have:=gD.1 hh;omega
  omega
end Go.Ex
namespace Go.Ex
open Go Go.Sx
variable{f:(Nat->Sx.dL)->Value}{ls:List Nat}{g n:Nat}{p:Nat×Nat}{v:Value}{P:Value->World->Prop}{w1:World}
def Cv(S:Nat->Prop)(B:Nat)(iv:Iv)(g:Nat):Prop:=S g∨(B<=g∧∃lo hi,(lo,hi)∈iv∧lo<=g∧g<hi)
def Nw(S:Nat->Prop)(w w2:World)(g:Nat):Prop:=S g∨(w.heap.size<=g∧g<w2.heap.size)
def Old(S:Nat->Prop)(w:World):Prop:=∀g,S g->g<w.heap.size
section
variable{S S':Nat->Prop}{H:Hp}{nx:Nat}{iv iv':Iv}{B:Nat}{w w' w2:World}{O:Nat->dL}
theorem Cv.mono(h:Cv S B iv g)(k:∀p,p∈iv->p∈iv'):Cv S B iv' g:=by
 rcases h with h|⟨h0,lo,hi,h1,h2⟩
 ·exact .inl h
 ·exact .inr ⟨h0,lo,hi,k _ h1,h2⟩
theorem Cv.cons(h:Cv S B iv g):Cv S B (p::iv) g:=h.mono fun q hq=>by simp[hq]
theorem Rel.old(r:Rel H nx iv B w O w')(hS:∀g,S g->g<B):Old (Cv S B iv) w':=by
 intro g h;rcases h with h|⟨_,lo,hi,h1,_,h3⟩
 ·have:=hS g h;have:=r.base;have:=r.size;omega
 ·have:=r.qW lo hi h1;have:=r.size;omega
theorem Rel.same(r:Rel H nx iv B w O w')(hS:∀g,S g->g<B)(h:Cv S B iv g):w'.heap[g]? =w.heap[g]? :=by
 rcases h with h|⟨_,lo,hi,h1,h2,h3⟩
 ·have:=hS g h;exact r.ub g (by have:=r.base;omega) fun id b hb hn he=>by have:=(r.low id b hb hn).1;omega
 ·exact r.ub g (by have:=r.qW lo hi h1;omega) fun id b hb hn he=>r.ji lo hi h1 id b hb hn ⟨by omega,by omega⟩
theorem Rel.not(r:Rel H nx iv B w O w')(hS:∀g,S g->g<B)(h:Cv S B iv g):∀id b,cV H id=some b->(O id).nil=false->(O id).g≠g:=by
 rcases h with h|⟨_,lo,hi,h1,h2,h3⟩
 ·have:=hS g h;exact fun id b hb hn he=>by have:=(r.low id b hb hn).1;omega
 ·exact fun id b hb hn he=>r.ji lo hi h1 id b hb hn ⟨by omega,by omega⟩
theorem Nw.cv(h:Nw (Cv S B iv) w' w1 g)(hB:B<=w'.heap.size):Cv S B ((w'.heap.size,w1.heap.size)::iv) g:=by
 rcases h with h|h
 ·exact h.cons
 ·exact .inr ⟨by omega,_,_,aG,h.1,h.2⟩
theorem Cv.nw{w0:World}(h:Cv S w0.heap.size iv g)(r:Rel H nx iv w0.heap.size w O w'):Nw S w0 w' g:=by
 rcases h with h|⟨h0,lo,hi,h1,_,h3⟩
 ·exact .inl h
 ·exact .inr ⟨h0,by have:=r.qW lo hi h1;have:=r.size;omega⟩
structure cz(w:World)(S:Nat->Prop)(v:Value)(ls:List Nat):Prop where
 lm:Lm ls
 le:ls.length<=9223372036854775807
 sl:∃a c,v= .slice a ls.length c∧ls.length<=c∧∀(j:Nat) x,ls[j]? =some x->∃ad,a=some ad∧S ad.block∧w.cell? (ad.add j)=some (.int .u32 x)
theorem c9(ad:Addr)(j:Nat):(ad.add j).block=ad.block:=by
 unfold Addr.add;split<;>rfl
theorem cz.cC(h:cz w S v ls)(hk:∀g,S g->w2.heap[g]? =w.heap[g]?):cz w2 S v ls:=by
 obtain⟨a,c,h1,TE,h2⟩:=h.sl;refine⟨h.lm,h.le,a,c,h1,TE,fun j x hx=>?_⟩;obtain⟨ad,h3,h4,h5⟩:=h2 j x hx;exact⟨ad,h3,h4,by rw[cJ (hk _ (by rw[c9];exact h4))];exact h5⟩
theorem cz.cF(h:cz w S v ls)(hk:∀g,S g->S' g):cz w S' v ls:=by
 obtain⟨a,c,h1,TE,h2⟩:=h.sl;refine⟨h.lm,h.le,a,c,h1,TE,fun j x hx=>?_⟩;obtain⟨ad,h3,h4,h5⟩:=h2 j x hx;exact⟨ad,h3,hk _ h4,h5⟩
theorem cz.rel(h:cz w (Cv S B iv) v ls)(r:Rel H nx iv B w O w')(hS:∀g,S g->g<B):cz w' (Cv S B iv) v ls:=h.cC fun _g hg=>Rel.same r hS hg
theorem cz.nil(w:World)(S:Nat->Prop):cz w S (.slice none 0 0) []:=⟨by simp[Lm],by simp,none,0,rfl,Nat.le_refl _,by simp⟩
def dQ(w:World)(S:Nat->Prop)(v:Value)(n:Nat):Prop:=∃ls,cz w S v ls∧Nz ls∧val ls=n
theorem dQ.cC(h:dQ w S v n)(hk:∀g,S g->w2.heap[g]? =w.heap[g]?):dQ w2 S v n:=by
 obtain⟨ls,h1,h2,h3⟩:=h;exact⟨ls,h1.cC hk,h2,h3⟩
theorem dQ.cF(h:dQ w S v n)(hk:∀g,S g->S' g):dQ w S' v n:=by
 obtain⟨ls,h1,h2,h3⟩:=h;exact⟨ls,h1.cF hk,h2,h3⟩
theorem dQ.nil(w:World)(S:Nat->Prop):dQ w S (.slice none 0 0) 0:=⟨[],cz.nil w S,by simp[Nz],rfl⟩
end
abbrev iZ(z:Int):SV:=.o (.v (.int .i64 z))
abbrev iN(n:Nat):SV:=.o (.v (.int .i64 (n:Int)))
abbrev sV(a:Option Addr)(n c:Nat):SV:=.o (.v (.slice a n c))
abbrev pP(i j:Nat):SV:=.o (.p i j)
theorem rtn{H:Hp}{nx:Nat}{iv:Iv}{w:World}(hw:dT w.heap.size w w1)(h:∀O w',Rel H nx iv w.heap.size w1 O w'->P (f O) w'):∀O w',Rel H nx iv w.heap.size w1 O w'->eH w P (.returned (f O)) w':=fun O w' r=>⟨_,rfl,hw.tr r.cL,h O w' r⟩
abbrev FF:Nat->Prop:=fun _=>False
theorem bR(w:World):dT w.heap.size w w:=dT.refl
abbrev Nf(w w2:World):Nat->Prop:=Nw (fun _=>False) w w2
abbrev Cf(w:World):Iv->Nat->Prop:=Cv (fun _=>False) w.heap.size
section
variable{S:Nat->Prop}{H:Hp}{nx:Nat}{iv:Iv}{B i n:Nat}{w w1 w':World}{O:Nat->Sx.dL}{ad:Addr}{cs:List Value}{x:Value}
theorem kS(hw:dT B w w1)(r:Rel H nx iv B w1 O w')(hS:∀g,S g->g<B):∀g,S g->w'.heap[g]? =w.heap[g]? :=fun g hg=>(hw.tr r.cL).block g (hS g hg)
theorem oS(hS:∀g,S g->g<B)(r:Rel H nx iv B w O w'):∀g,S g->g<w'.heap.size:=fun g hg=>by have:=hS g hg;have:=r.base;have:=r.size;omega
theorem rdO(hl:∀(j:Nat) u,cs[j]? =some u->S ad.block∧w.cell? ((ad.add (i*n)).add j)=some u)(hw:dT B w w1)(hS:∀g,S g->g<B):∀O w',Rel H nx iv B w1 O w'->∀(j:Nat) u,cs[j]? =some u->w'.cell? ((ad.add ((i:Int).toNat*n)).add j)=some u:=fun O w' r j u hu=>by
 obtain⟨k1,k2⟩:=hl j u hu;rw[aF,cJ (w:=w) (w2:=w') (by rw[c9,c9];exact(hw.tr r.cL).block _ (hS _ k1))];exact k2
theorem rd1(hl:w.cell? (ad.add (i*n))=some x)(hw:dT B w w1)(hb:ad.block<B):∀O w',Rel H nx iv B w1 O w'->w'.cell? (ad.add ((i:Int).toNat*n))=some x:=fun O w' r=>by
 rw[aF,cJ (w:=w) (w2:=w') (by rw[c9];exact(hw.tr r.cL).block _ hb)];exact hl
end
end Go.Ex
namespace Go.Ex
open Go Go.Sx Go.Proofs
variable{args:Array Value}{R:Ending->World->Prop}{ls:List Nat}{k n:Nat}{S:Nat->Prop}{O:Nat->Sx.dL}{v:Value}{w:World}
noncomputable abbrev PG:Program:=Tryz.prog
def slT(e:Nat):TI:={size:=1,bytes:=24,zero:=[.slice none 0 0],agg:=false,tag:=4,elem:=e}
def ON:List (Nat×TI):=[
 (3,{size:=1,bytes:=8,zero:=[.int .i64 0],agg:=false,tag:=1,ik:=.i64}),
 (4,{size:=1,bytes:=1,zero:=[.bool false],agg:=false,tag:=2}),
 (40,slT 48),
 (48,{size:=4,bytes:=64,zero:=[.bool false,.slice none 0 0,.bool false,.slice none 0 0],agg:=true,tag:=5,fields:=[(0,46),(2,46)]}),
 (37,slT 3),
 (32,{size:=1,bytes:=8,zero:=[.int .i64 0],agg:=false,tag:=1,ik:=.i64}),
 (26,{size:=3,bytes:=72,zero:=[.slice none 0 0,.slice none 0 0,.slice none 0 0],agg:=true,tag:=5,fields:=[(0,22),(1,23),(2,24)]}),
 (87,slT 40),
 (46,{size:=2,bytes:=32,zero:=[.bool false,.slice none 0 0],agg:=true,tag:=5,fields:=[(0,4),(1,44)]}),
 (155,slT 292),
 (30,slT 141),
 (209,slT 159),
 (292,{size:=1,bytes:=4,zero:=[.int .u32 0],agg:=false,tag:=1,ik:=.u32}),
 (159,{size:=4,bytes:=64,zero:=[.bool false,.slice none 0 0,.bool false,.slice none 0 0],agg:=true,tag:=5,fields:=[(0,157),(2,157)]}),
 (157,{size:=2,bytes:=32,zero:=[.bool false,.slice none 0 0],agg:=true,tag:=5,fields:=[(0,4),(1,155)]}),
 (206,slT 209),
 (291,{size:=1,bytes:=8,zero:=[.int .u64 0],agg:=false,tag:=1,ik:=.u64}),
 (24,slT 146),
 (168,{size:=2,bytes:=32,zero:=[.slice none 0 0,.int .i64 0],agg:=true,tag:=5,fields:=[(0,87),(1,3)]}),
 (23,slT 144),
 (141,{size:=4,bytes:=32,zero:=[.int .i64 0,.int .i64 0,.int .i64 0,.int .i64 0],agg:=true,tag:=5,fields:=[(0,3),(1,3),(2,3),(3,3)]}),
 (22,slT 195),
 (100,{size:=3,bytes:=56,zero:=[.int .i64 0,.slice none 0 0,.slice none 0 0],agg:=true,tag:=5,fields:=[(0,3),(1,37),(2,37)]}),
 (44,slT 292),
 (144,{size:=6,bytes:=80,zero:=[.int .i64 0,.int .i64 0,.bool false,.slice none 0 0,.bool false,.slice none 0 0],agg:=true,tag:=5,fields:=[(0,3),(1,3),(2,48)]}),
 (195,{size:=3,bytes:=24,zero:=[.int .i64 0,.int .i64 0,.int .i64 0],agg:=true,tag:=5,fields:=[(0,3),(1,3),(2,3)]}),
 (146,{size:=6,bytes:=80,zero:=[.int .i64 0,.int .i64 0,.bool false,.slice none 0 0,.bool false,.slice none 0 0],agg:=true,tag:=5,fields:=[(0,3),(1,3),(2,48)]}),
 (177,slT 37),
 (101,slT 117),
 (27,slT 30),
 (58,{size:=3,bytes:=56,zero:=[.int .i64 0,.slice none 0 0,.slice none 0 0],agg:=true,tag:=5,fields:=[(0,3),(1,40),(2,40)]}),
 (255,{size:=4,bytes:=80,zero:=[.slice none 0 0,.int .i64 0,.slice none 0 0,.slice none 0 0],agg:=true,tag:=5,fields:=[(0,168),(2,37),(3,37)]}),
 (117,{size:=4,bytes:=32,zero:=[.int .i64 0,.int .i64 0,.int .i64 0,.int .i64 0],agg:=true,tag:=5,fields:=[(0,3),(1,3),(2,3),(3,3)]}),
 (31,slT 52),
 (70,slT 193),
 (120,{size:=2,bytes:=16,zero:=[.int .i64 0,.int .i64 0],agg:=true,tag:=5,fields:=[(0,3),(1,3)]}),
 (102,slT 120),
 (191,{size:=8,bytes:=64,zero:=[.int .i64 0,.int .i64 0,.int .i64 0,.int .i64 0,.int .i64 0,.int .i64 0,.int .i64 0,.int .i64 0],agg:=true,tag:=5,fields:=[(0,184),(4,3),(5,3),(6,3),(7,3)]}),
 (225,{size:=5,bytes:=40,zero:=[.int .i64 0,.int .i64 0,.int .i64 0,.int .i64 0,.int .i64 0],agg:=true,tag:=5,fields:=[(0,3),(1,3),(2,3),(3,3),(4,3)]}),
 (229,slT 228),
 (267,{size:=3,bytes:=24,zero:=[.int .i64 0,.int .i64 0,.int .i64 0],agg:=true,tag:=6,CA:=3,elem:=3}),
 (97,{size:=3,bytes:=24,zero:=[.int .i64 0,.int .i64 0,.int .i64 0],agg:=true,tag:=5,fields:=[(0,3),(1,3),(2,3)]}),
 (228,{size:=2,bytes:=16,zero:=[.int .i64 0,.int .i64 0],agg:=true,tag:=5,fields:=[(0,3),(1,3)]}),
 (36,slT 4),
 (129,{size:=4,bytes:=80,zero:=[.int .i64 0,.slice none 0 0,.slice none 0 0,.slice none 0 0],agg:=true,tag:=5,fields:=[(0,3),(1,40),(2,87),(3,40)]}),
 (220,{size:=3,bytes:=40,zero:=[.int .i64 0,.int .i64 0,.slice none 0 0],agg:=true,tag:=5,fields:=[(0,3),(1,3),(2,37)]}),
 (293,{size:=1,bytes:=8,zero:=[.int .u64 0],agg:=false,tag:=1,ik:=.u64}),
 (68,slT 186),
 (69,slT 191),
 (184,{size:=4,bytes:=32,zero:=[.int .i64 0,.int .i64 0,.int .i64 0,.int .i64 0],agg:=true,tag:=6,CA:=4,elem:=3}),
 (193,{size:=2,bytes:=16,zero:=[.int .i64 0,.int .i64 0],agg:=true,tag:=5,fields:=[(0,3),(1,3)]}),
 (186,{size:=5,bytes:=40,zero:=[.int .i64 0,.int .i64 0,.int .i64 0,.int .i64 0,.int .i64 0],agg:=true,tag:=5,fields:=[(0,184),(4,3)]}),
 (249,{size:=3,bytes:=72,zero:=[.slice none 0 0,.slice none 0 0,.slice none 0 0],agg:=true,tag:=5,fields:=[(0,209),(1,209),(2,206)]}),
 (281,{size:=2,bytes:=16,zero:=[.int .i64 0,.int .i64 0],agg:=true,tag:=5,fields:=[(0,3),(1,3)]}),
 (52,{size:=10,bytes:=176,zero:=[.bool false,.slice none 0 0,.bool false,.slice none 0 0,.bool false,.slice none 0 0,.bool false,.slice none 0 0,.slice none 0 0,.slice none 0 0],agg:=true,tag:=5,fields:=[(0,50),(8,37),(9,37)]}),
 (279,{size:=1,bytes:=8,zero:=[.map none],agg:=false,tag:=0}),
 (72,{size:=4,bytes:=80,zero:=[.slice none 0 0,.int .i64 0,.slice none 0 0,.slice none 0 0],agg:=true,tag:=5,fields:=[(0,68),(1,3),(2,69),(3,70)]}),
 (104,{size:=2,bytes:=48,zero:=[.slice none 0 0,.slice none 0 0],agg:=true,tag:=5,fields:=[(0,37),(1,102)]}),
 (108,{size:=3,bytes:=24,zero:=[.int .i64 0,.int .i64 0,.int .i64 0],agg:=true,tag:=5,fields:=[(0,3),(1,3),(2,3)]}),
 (9,{size:=1,bytes:=16,zero:=[.string ⟨#[]⟩],agg:=false,tag:=3}),
 (50,{size:=8,bytes:=128,zero:=[.bool false,.slice none 0 0,.bool false,.slice none 0 0,.bool false,.slice none 0 0,.bool false,.slice none 0 0],agg:=true,tag:=5,fields:=[(0,48),(4,48)]}),
 (149,{size:=1,bytes:=8,zero:=[.pointer none],agg:=false,tag:=7}),
 (308,{size:=1,bytes:=8,zero:=[.nilFunc],agg:=false,tag:=0}),
 (296,{size:=1,bytes:=8,zero:=[.nilFunc],agg:=false,tag:=0}),
 (152,{size:=80,bytes:=640,zero:=[.int .i64 0,.int .i64 0,.int .i64 0,.int .i64 0,.int .i64 0,.int .i64 0,.int .i64 0,.int .i64 0,.int .i64 0,.int .i64 0,.int .i64 0,.int .i64 0,.int .i64 0,.int .i64 0,.int .i64 0,.int .i64 0,.int .i64 0,.int .i64 0,.int .i64 0,.int .i64 0,.int .i64 0,.int .i64 0,.int .i64 0,.int .i64 0,.int .i64 0,.int .i64 0,.int .i64 0,.int .i64 0,.int .i64 0,.int .i64 0,.int .i64 0,.int .i64 0,.int .i64 0,.int .i64 0,.int .i64 0,.int .i64 0,.int .i64 0,.int .i64 0,.int .i64 0,.int .i64 0,.int .i64 0,.int .i64 0,.int .i64 0,.int .i64 0,.int .i64 0,.int .i64 0,.int .i64 0,.int .i64 0,.int .i64 0,.int .i64 0,.int .i64 0,.int .i64 0,.int .i64 0,.int .i64 0,.int .i64 0,.int .i64 0,.int .i64 0,.int .i64 0,.int .i64 0,.int .i64 0,.int .i64 0,.int .i64 0,.int .i64 0,.int .i64 0,.int .i64 0,.int .i64 0,.int .i64 0,.int .i64 0,.int .i64 0,.int .i64 0,.int .i64 0,.int .i64 0,.int .i64 0,.int .i64 0,.int .i64 0,.int .i64 0,.int .i64 0,.int .i64 0,.int .i64 0,.int .i64 0],agg:=true,tag:=6,CA:=20,elem:=141}),
 (239,{size:=1,bytes:=8,zero:=[.nilFunc],agg:=false,tag:=0}),
 (242,{size:=1,bytes:=8,zero:=[.nilFunc],agg:=false,tag:=0}),
 (153,{size:=1,bytes:=8,zero:=[.pointer none],agg:=false,tag:=7}),
 (174,{size:=1,bytes:=8,zero:=[.nilFunc],agg:=false,tag:=0}),
 (213,{size:=1,bytes:=8,zero:=[.nilFunc],agg:=false,tag:=0}),
 (5,{size:=1,bytes:=1,zero:=[.int .u8 0],agg:=false,tag:=1,ik:=.u8}),
 (310,{size:=1,bytes:=8,zero:=[.nilFunc],agg:=false,tag:=0}),
 (315,{size:=1,bytes:=8,zero:=[.nilFunc],agg:=false,tag:=0}),
 (8,{size:=4,bytes:=24,zero:=[.int .i64 0,.int .i64 0,.bool false,.int .u8 0],agg:=true,tag:=5,fields:=[(0,2),(1,3),(2,4),(3,6)]}),
 (10,{size:=1,bytes:=16,zero:=[.string ⟨#[]⟩],agg:=false,tag:=3}),
 (11,{size:=1,bytes:=16,zero:=[.string ⟨#[]⟩],agg:=false,tag:=3}),
 (14,{size:=2,bytes:=24,zero:=[.string ⟨#[]⟩,.int .u64 0],agg:=true,tag:=5,fields:=[(0,9),(1,12)]}),
 (15,{size:=1,bytes:=8,zero:=[.pointer none],agg:=false,tag:=7}),
 (16,{size:=1,bytes:=8,zero:=[.pointer none],agg:=false,tag:=7}),
 (19,{size:=1,bytes:=8,zero:=[.pointer none],agg:=true,tag:=5,fields:=[(0,17)]}),
 (17,{size:=1,bytes:=8,zero:=[.pointer none],agg:=false,tag:=7}),
 (353,{size:=1,bytes:=1,zero:=[.int .u8 0],agg:=false,tag:=1,ik:=.u8}),
 (2,{size:=1,bytes:=8,zero:=[.int .i64 0],agg:=false,tag:=1,ik:=.i64}),
 (6,{size:=1,bytes:=1,zero:=[.int .u8 0],agg:=false,tag:=1,ik:=.u8}),
 (12,{size:=1,bytes:=8,zero:=[.int .u64 0],agg:=false,tag:=1,ik:=.u64})]
def τ:mo:=xU ON
theorem hτ:fT PG τ:=ND (l:=ON) (by kernel_rfl)
theorem dN:PG.follows .mixedOrders=true:=by rfl
noncomputable def bd (f:Func):Code:=match f.body with
 |some c=>c
 |none=>.skip
theorem cw{f:FuncId}{fn:Func}(hf:PG.funcs[f]? =some fn)(hb:fn.body=some (bd fn))(UM:(fn.name== "runtime.NumGoroutine")=false)
  (hn:args.size<=fn.ntmps) (OV:codeOk fn.ntmps (bd fn)=true) (h:mW PG τ w.heap.size (bd fn) (iW 0 args.toList) [] 0 [] w (NJ τ w.heap.size fn.results.toList R)):dx PG f args w R:=
 ⟨Ho hf hb UM,Df hτ hf hb hn OV h⟩
abbrev T.int:Nat:=3
abbrev T.bool:Nat:=4
abbrev T.string:Nat:=9
abbrev T.Frame:Nat:=26
abbrev T.Lint:Nat:=37
abbrev T.jC:Nat:=40
abbrev T.Int:Nat:=46
abbrev T.Rat:Nat:=48
abbrev T.BZ:Nat:=87
abbrev T.aAS:Nat:=141
abbrev T.Nx:Nat:=144
abbrev T.CS:Nat:=146
abbrev T.nat:Nat:=155
abbrev T.number:Nat:=157
abbrev T.dK:Nat:=159
abbrev T.di:Nat:=168
abbrev T.Node:Nat:=195
abbrev T.row:Nat:=209
abbrev T.solved:Nat:=249
abbrev T.dE:Nat:=255
abbrev T.KW:Nat:=267
abbrev T.wy:Nat:=279
abbrev T.CT:Nat:=281
abbrev T.uint32:Nat:=292
abbrev N.top_TopLessIsStable:Nat:=6
abbrev N.top_bears:Nat:=11
abbrev N.top_slight:Nat:=12
abbrev N.pU:Nat:=14
abbrev N.pV:Nat:=16
abbrev N.vE:Nat:=17
abbrev N.o7:Nat:=23
abbrev N.wJ:Nat:=30
abbrev N.pW:Nat:=35
abbrev N.sQ:Nat:=36
abbrev N.wK:Nat:=37
abbrev N.wL:Nat:=38
abbrev N.mD:Nat:=39
abbrev N.pX:Nat:=40
abbrev N.wM:Nat:=49
abbrev N.wN:Nat:=51
abbrev N.vF:Nat:=58
abbrev N.kj:Nat:=61
abbrev N.B1:Nat:=66
abbrev N.top_bracket:Nat:=68
abbrev N.zI:Nat:=69
abbrev N.rP:Nat:=71
abbrev N.pY:Nat:=72
abbrev N.pZ:Nat:=73
abbrev N.vG:Nat:=74
abbrev N.p8:Nat:=75
abbrev N.lH:Nat:=76
abbrev N.lI:Nat:=77
abbrev N.wO:Nat:=78
abbrev N.lJ:Nat:=79
abbrev N.o8:Nat:=85
abbrev N.jD:Nat:=86
abbrev N.p9:Nat:=87
abbrev N.gJ:Nat:=89
abbrev N.wP:Nat:=90
abbrev N.tV:Nat:=91
abbrev N.wQ:Nat:=92
abbrev N.nB:Nat:=93
abbrev N.rQ:Nat:=104
abbrev N.tW:Nat:=108
abbrev N.tX:Nat:=111
abbrev N.tY:Nat:=112
abbrev N.B2:Nat:=113
abbrev N.sR:Nat:=114
abbrev N.EV:Nat:=115
abbrev N.zJ:Nat:=116
abbrev N.wR:Nat:=117
abbrev N.kU:Nat:=118
abbrev N.mE:Nat:=119
abbrev N.mF:Nat:=120
abbrev N.mG:Nat:=121
abbrev N.tZ:Nat:=122
abbrev N.eM:Nat:=123
abbrev N.ta:Nat:=124
abbrev N.ga:Nat:=125
abbrev N.kV:Nat:=126
abbrev N.wS:Nat:=139
abbrev N.kJ:Nat:=152
abbrev N.zK:Nat:=157
abbrev N.ic:Nat:=158
abbrev N.tc:Nat:=159
abbrev N.pc:Nat:=160
abbrev N.wT:Nat:=164
abbrev N.wU:Nat:=165
abbrev N.td:Nat:=166
abbrev N.zL:Nat:=167
abbrev N.me:Nat:=168
abbrev N.wV:Nat:=169
abbrev N.kW:Nat:=170
abbrev N.mH:Nat:=171
abbrev N.zM:Nat:=172
abbrev N.mI:Nat:=173
abbrev N.lK:Nat:=174
abbrev N.nC:Nat:=175
abbrev N.pe:Nat:=178
abbrev N.rR:Nat:=179
abbrev N.vH:Nat:=180
abbrev N.fN:Nat:=187
abbrev N.wW:Nat:=188
abbrev N.B3:Nat:=190
abbrev N.wX:Nat:=191
abbrev N.te:Nat:=192
abbrev N.oC:Nat:=193
abbrev N.kA:Nat:=194
abbrev N.lL:Nat:=195
abbrev N.tf:Nat:=196
abbrev N.nD:Nat:=197
abbrev N.mJ:Nat:=198
abbrev N.mK:Nat:=199
abbrev N.eR:Nat:=200
abbrev N.lM:Nat:=201
abbrev N.mL:Nat:=202
abbrev N.rS:Nat:=203
abbrev N.th:Nat:=204
abbrev N.eU:Nat:=205
abbrev N.fC:Nat:=206
abbrev N.B4:Nat:=207
abbrev N.mf:Nat:=208
abbrev N.mM:Nat:=209
abbrev N.kK:Nat:=210
abbrev N.oD:Nat:=232
abbrev N.B5:Nat:=233
abbrev N.mg:Nat:=234
abbrev N.vI:Nat:=235
abbrev N.mO:Nat:=236
abbrev N.o9:Nat:=237
abbrev N.fb:Nat:=239
abbrev N.EW:Nat:=240
abbrev N.zN:Nat:=241
abbrev N.tj:Nat:=242
abbrev N.zO:Nat:=243
abbrev N.rT:Nat:=244
abbrev N.tm:Nat:=245
abbrev N.tn:Nat:=246
abbrev N.rU:Nat:=247
abbrev N.oa:Nat:=248
abbrev N.kX:Nat:=249
abbrev N.mP:Nat:=250
abbrev N.oc:Nat:=251
abbrev N.pf:Nat:=252
abbrev N.ff:Nat:=253
abbrev N.pg:Nat:=260
abbrev N.od:Nat:=261
abbrev N.zP:Nat:=262
abbrev N.ph:Nat:=263
abbrev N.zQ:Nat:=266
abbrev N.zR:Nat:=267
abbrev Ent(g:Nat)(f:Func):Prop:=∀{args:Array Value} {w:World} {R:Ending->World->Prop},args.size<=f.ntmps->mW PG τ w.heap.size (bd f) (iW 0 args.toList) [] 0 [] w (NJ τ w.heap.size f.results.toList R)->dx PG g args w R
theorem oE:Ent N.top_TopLessIsStable Tryz.f6:=fun hn h=>cw Tryz.func6 (by rfl) (by rfl) hn (by rfl) h
theorem CU:Ent N.top_bears Tryz.f11:=fun hn h=>cw Tryz.func11 (by rfl) (by rfl) hn (by rfl) h
theorem AX:Ent N.top_slight Tryz.f12:=fun hn h=>cw Tryz.func12 (by rfl) (by rfl) hn (by rfl) h
theorem tp:Ent N.pU Tryz.f14:=fun hn h=>cw Tryz.func14 (by rfl) (by rfl) hn (by rfl) h
theorem tq:Ent N.pV Tryz.f16:=fun hn h=>cw Tryz.func16 (by rfl) (by rfl) hn (by rfl) h
theorem CV:Ent N.vE Tryz.f17:=fun hn h=>cw Tryz.func17 (by rfl) (by rfl) hn (by rfl) h
theorem sS:Ent N.o7 Tryz.f23:=fun hn h=>cw Tryz.func23 (by rfl) (by rfl) hn (by rfl) h
theorem zS:Ent N.wJ Tryz.f30:=fun hn h=>cw Tryz.func30 (by rfl) (by rfl) hn (by rfl) h
theorem tt:Ent N.pW Tryz.f35:=fun hn h=>cw Tryz.func35 (by rfl) (by rfl) hn (by rfl) h
theorem AY:Ent N.sQ Tryz.f36:=fun hn h=>cw Tryz.func36 (by rfl) (by rfl) hn (by rfl) h
theorem zT:Ent N.wK Tryz.f37:=fun hn h=>cw Tryz.func37 (by rfl) (by rfl) hn (by rfl) h
theorem zU:Ent N.wL Tryz.f38:=fun hn h=>cw Tryz.func38 (by rfl) (by rfl) hn (by rfl) h
theorem pj:Ent N.mD Tryz.f39:=fun hn h=>cw Tryz.func39 (by rfl) (by rfl) hn (by rfl) h
theorem tu:Ent N.pX Tryz.f40:=fun hn h=>cw Tryz.func40 (by rfl) (by rfl) hn (by rfl) h
theorem zV:Ent N.wM Tryz.f49:=fun hn h=>cw Tryz.func49 (by rfl) (by rfl) hn (by rfl) h
theorem zW:Ent N.wN Tryz.f51:=fun hn h=>cw Tryz.func51 (by rfl) (by rfl) hn (by rfl) h
theorem CW:Ent N.vF Tryz.f58:=fun hn h=>cw Tryz.func58 (by rfl) (by rfl) hn (by rfl) h
theorem wz:Ent N.kj Tryz.f61:=fun hn h=>cw Tryz.func61 (by rfl) (by rfl) hn (by rfl) h
theorem CX:Ent N.B1 Tryz.f66:=fun hn h=>cw Tryz.func66 (by rfl) (by rfl) hn (by rfl) h
theorem zX:Ent N.top_bracket Tryz.f68:=fun hn h=>cw Tryz.func68 (by rfl) (by rfl) hn (by rfl) h
theorem AZ:Ent N.zI Tryz.f69:=fun hn h=>cw Tryz.func69 (by rfl) (by rfl) hn (by rfl) h
theorem vJ:Ent N.rP Tryz.f71:=fun hn h=>cw Tryz.func71 (by rfl) (by rfl) hn (by rfl) h
theorem tv:Ent N.pY Tryz.f72:=fun hn h=>cw Tryz.func72 (by rfl) (by rfl) hn (by rfl) h
theorem tw:Ent N.pZ Tryz.f73:=fun hn h=>cw Tryz.func73 (by rfl) (by rfl) hn (by rfl) h
theorem CY:Ent N.vG Tryz.f74:=fun hn h=>cw Tryz.func74 (by rfl) (by rfl) hn (by rfl) h
theorem tx:Ent N.p8 Tryz.f75:=fun hn h=>cw Tryz.func75 (by rfl) (by rfl) hn (by rfl) h
theorem oh:Ent N.lH Tryz.f76:=fun hn h=>cw Tryz.func76 (by rfl) (by rfl) hn (by rfl) h
theorem om:Ent N.lI Tryz.f77:=fun hn h=>cw Tryz.func77 (by rfl) (by rfl) hn (by rfl) h
theorem zY:Ent N.wO Tryz.f78:=fun hn h=>cw Tryz.func78 (by rfl) (by rfl) hn (by rfl) h
theorem oo:Ent N.lJ Tryz.f79:=fun hn h=>cw Tryz.func79 (by rfl) (by rfl) hn (by rfl) h
theorem sT:Ent N.o8 Tryz.f85:=fun hn h=>cw Tryz.func85 (by rfl) (by rfl) hn (by rfl) h
theorem oF:Ent N.jD Tryz.f86:=fun hn h=>cw Tryz.func86 (by rfl) (by rfl) hn (by rfl) h
theorem tz:Ent N.p9 Tryz.f87:=fun hn h=>cw Tryz.func87 (by rfl) (by rfl) hn (by rfl) h
theorem jZ:Ent N.gJ Tryz.f89:=fun hn h=>cw Tryz.func89 (by rfl) (by rfl) hn (by rfl) h
theorem zZ:Ent N.wP Tryz.f90:=fun hn h=>cw Tryz.func90 (by rfl) (by rfl) hn (by rfl) h
theorem xA:Ent N.tV Tryz.f91:=fun hn h=>cw Tryz.func91 (by rfl) (by rfl) hn (by rfl) h
theorem z3:Ent N.wQ Tryz.f92:=fun hn h=>cw Tryz.func92 (by rfl) (by rfl) hn (by rfl) h
theorem rG:Ent N.nB Tryz.f93:=fun hn h=>cw Tryz.func93 (by rfl) (by rfl) hn (by rfl) h
theorem vK:Ent N.rQ Tryz.f104:=fun hn h=>cw Tryz.func104 (by rfl) (by rfl) hn (by rfl) h
theorem xB:Ent N.tW Tryz.f108:=fun hn h=>cw Tryz.func108 (by rfl) (by rfl) hn (by rfl) h
theorem xC:Ent N.tX Tryz.f111:=fun hn h=>cw Tryz.func111 (by rfl) (by rfl) hn (by rfl) h
theorem xD:Ent N.tY Tryz.f112:=fun hn h=>cw Tryz.func112 (by rfl) (by rfl) hn (by rfl) h
theorem CZ:Ent N.B2 Tryz.f113:=fun hn h=>cw Tryz.func113 (by rfl) (by rfl) hn (by rfl) h
theorem rV:Ent N.sR Tryz.f114:=fun hn h=>cw Tryz.func114 (by rfl) (by rfl) hn (by rfl) h
theorem EX:Ent N.EV Tryz.f115:=fun hn h=>cw Tryz.func115 (by rfl) (by rfl) hn (by rfl) h
theorem Aa:Ent N.zJ Tryz.f116:=fun hn h=>cw Tryz.func116 (by rfl) (by rfl) hn (by rfl) h
theorem z4:Ent N.wR Tryz.f117:=fun hn h=>cw Tryz.func117 (by rfl) (by rfl) hn (by rfl) h
theorem oG:Ent N.kU Tryz.f118:=fun hn h=>cw Tryz.func118 (by rfl) (by rfl) hn (by rfl) h
theorem pn:Ent N.mE Tryz.f119:=fun hn h=>cw Tryz.func119 (by rfl) (by rfl) hn (by rfl) h
theorem po:Ent N.mF Tryz.f120:=fun hn h=>cw Tryz.func120 (by rfl) (by rfl) hn (by rfl) h
theorem pq:Ent N.mG Tryz.f121:=fun hn h=>cw Tryz.func121 (by rfl) (by rfl) hn (by rfl) h
theorem xE:Ent N.tZ Tryz.f122:=fun hn h=>cw Tryz.func122 (by rfl) (by rfl) hn (by rfl) h
theorem fc:Ent N.eM Tryz.f123:=fun hn h=>cw Tryz.func123 (by rfl) (by rfl) hn (by rfl) h
theorem xF:Ent N.ta Tryz.f124:=fun hn h=>cw Tryz.func124 (by rfl) (by rfl) hn (by rfl) h
theorem rH:Ent N.ga Tryz.f125:=fun hn h=>cw Tryz.func125 (by rfl) (by rfl) hn (by rfl) h
theorem oH:Ent N.kV Tryz.f126:=fun hn h=>cw Tryz.func126 (by rfl) (by rfl) hn (by rfl) h
theorem z5:Ent N.wS Tryz.f139:=fun hn h=>cw Tryz.func139 (by rfl) (by rfl) hn (by rfl) h
theorem nE:Ent N.kJ Tryz.f152:=fun hn h=>cw Tryz.func152 (by rfl) (by rfl) hn (by rfl) h
theorem Ab:Ent N.zK Tryz.f157:=fun hn h=>cw Tryz.func157 (by rfl) (by rfl) hn (by rfl) h
theorem j0:Ent N.ic Tryz.f158:=fun hn h=>cw Tryz.func158 (by rfl) (by rfl) hn (by rfl) h
theorem xG:Ent N.tc Tryz.f159:=fun hn h=>cw Tryz.func159 (by rfl) (by rfl) hn (by rfl) h
theorem uA:Ent N.pc Tryz.f160:=fun hn h=>cw Tryz.func160 (by rfl) (by rfl) hn (by rfl) h
theorem z6:Ent N.wT Tryz.f164:=fun hn h=>cw Tryz.func164 (by rfl) (by rfl) hn (by rfl) h
theorem z7:Ent N.wU Tryz.f165:=fun hn h=>cw Tryz.func165 (by rfl) (by rfl) hn (by rfl) h
theorem xH:Ent N.td Tryz.f166:=fun hn h=>cw Tryz.func166 (by rfl) (by rfl) hn (by rfl) h
theorem Ac:Ent N.zL Tryz.f167:=fun hn h=>cw Tryz.func167 (by rfl) (by rfl) hn (by rfl) h
theorem vL:Ent N.me Tryz.f168:=fun hn h=>cw Tryz.func168 (by rfl) (by rfl) hn (by rfl) h
theorem z8:Ent N.wV Tryz.f169:=fun hn h=>cw Tryz.func169 (by rfl) (by rfl) hn (by rfl) h
theorem oI:Ent N.kW Tryz.f170:=fun hn h=>cw Tryz.func170 (by rfl) (by rfl) hn (by rfl) h
theorem pr:Ent N.mH Tryz.f171:=fun hn h=>cw Tryz.func171 (by rfl) (by rfl) hn (by rfl) h
theorem EY:Ent N.zM Tryz.f172:=fun hn h=>cw Tryz.func172 (by rfl) (by rfl) hn (by rfl) h
theorem pt:Ent N.mI Tryz.f173:=fun hn h=>cw Tryz.func173 (by rfl) (by rfl) hn (by rfl) h
theorem oq:Ent N.lK Tryz.f174:=fun hn h=>cw Tryz.func174 (by rfl) (by rfl) hn (by rfl) h
theorem rI:Ent N.nC Tryz.f175:=fun hn h=>cw Tryz.func175 (by rfl) (by rfl) hn (by rfl) h
theorem uB:Ent N.pe Tryz.f178:=fun hn h=>cw Tryz.func178 (by rfl) (by rfl) hn (by rfl) h
theorem vM:Ent N.rR Tryz.f179:=fun hn h=>cw Tryz.func179 (by rfl) (by rfl) hn (by rfl) h
theorem Ca:Ent N.vH Tryz.f180:=fun hn h=>cw Tryz.func180 (by rfl) (by rfl) hn (by rfl) h
theorem iB:Ent N.fN Tryz.f187:=fun hn h=>cw Tryz.func187 (by rfl) (by rfl) hn (by rfl) h
theorem zc:Ent N.wW Tryz.f188:=fun hn h=>cw Tryz.func188 (by rfl) (by rfl) hn (by rfl) h
theorem Cb:Ent N.B3 Tryz.f190:=fun hn h=>cw Tryz.func190 (by rfl) (by rfl) hn (by rfl) h
theorem zd:Ent N.wX Tryz.f191:=fun hn h=>cw Tryz.func191 (by rfl) (by rfl) hn (by rfl) h
theorem xI:Ent N.te Tryz.f192:=fun hn h=>cw Tryz.func192 (by rfl) (by rfl) hn (by rfl) h
theorem xJ:Ent N.oC Tryz.f193:=fun hn h=>cw Tryz.func193 (by rfl) (by rfl) hn (by rfl) h
theorem vN:Ent N.kA Tryz.f194:=fun hn h=>cw Tryz.func194 (by rfl) (by rfl) hn (by rfl) h
theorem ot:Ent N.lL Tryz.f195:=fun hn h=>cw Tryz.func195 (by rfl) (by rfl) hn (by rfl) h
theorem xK:Ent N.tf Tryz.f196:=fun hn h=>cw Tryz.func196 (by rfl) (by rfl) hn (by rfl) h
theorem rJ:Ent N.nD Tryz.f197:=fun hn h=>cw Tryz.func197 (by rfl) (by rfl) hn (by rfl) h
theorem pw:Ent N.mJ Tryz.f198:=fun hn h=>cw Tryz.func198 (by rfl) (by rfl) hn (by rfl) h
theorem pz:Ent N.mK Tryz.f199:=fun hn h=>cw Tryz.func199 (by rfl) (by rfl) hn (by rfl) h
theorem oJ:Ent N.eR Tryz.f200:=fun hn h=>cw Tryz.func200 (by rfl) (by rfl) hn (by rfl) h
theorem ou:Ent N.lM Tryz.f201:=fun hn h=>cw Tryz.func201 (by rfl) (by rfl) hn (by rfl) h
theorem qA:Ent N.mL Tryz.f202:=fun hn h=>cw Tryz.func202 (by rfl) (by rfl) hn (by rfl) h
theorem vO:Ent N.rS Tryz.f203:=fun hn h=>cw Tryz.func203 (by rfl) (by rfl) hn (by rfl) h
theorem xL:Ent N.th Tryz.f204:=fun hn h=>cw Tryz.func204 (by rfl) (by rfl) hn (by rfl) h
theorem fy:Ent N.eU Tryz.f205:=fun hn h=>cw Tryz.func205 (by rfl) (by rfl) hn (by rfl) h
theorem gS:Ent N.fC Tryz.f206:=fun hn h=>cw Tryz.func206 (by rfl) (by rfl) hn (by rfl) h
theorem Cc:Ent N.B4 Tryz.f207:=fun hn h=>cw Tryz.func207 (by rfl) (by rfl) hn (by rfl) h
theorem vP:Ent N.mf Tryz.f208:=fun hn h=>cw Tryz.func208 (by rfl) (by rfl) hn (by rfl) h
theorem qB:Ent N.mM Tryz.f209:=fun hn h=>cw Tryz.func209 (by rfl) (by rfl) hn (by rfl) h
theorem nF:Ent N.kK Tryz.f210:=fun hn h=>cw Tryz.func210 (by rfl) (by rfl) hn (by rfl) h
theorem xM:Ent N.oD Tryz.f232:=fun hn h=>cw Tryz.func232 (by rfl) (by rfl) hn (by rfl) h
theorem Cd:Ent N.B5 Tryz.f233:=fun hn h=>cw Tryz.func233 (by rfl) (by rfl) hn (by rfl) h
theorem vQ:Ent N.mg Tryz.f234:=fun hn h=>cw Tryz.func234 (by rfl) (by rfl) hn (by rfl) h
theorem Ce:Ent N.vI Tryz.f235:=fun hn h=>cw Tryz.func235 (by rfl) (by rfl) hn (by rfl) h
theorem qC:Ent N.mO Tryz.f236:=fun hn h=>cw Tryz.func236 (by rfl) (by rfl) hn (by rfl) h
theorem sU:Ent N.o9 Tryz.f237:=fun hn h=>cw Tryz.func237 (by rfl) (by rfl) hn (by rfl) h
theorem iT:Ent N.fb Tryz.f239:=fun hn h=>cw Tryz.func239 (by rfl) (by rfl) hn (by rfl) h
theorem EZ:Ent N.EW Tryz.f240:=fun hn h=>cw Tryz.func240 (by rfl) (by rfl) hn (by rfl) h
theorem Ad:Ent N.zN Tryz.f241:=fun hn h=>cw Tryz.func241 (by rfl) (by rfl) hn (by rfl) h
theorem xN:Ent N.tj Tryz.f242:=fun hn h=>cw Tryz.func242 (by rfl) (by rfl) hn (by rfl) h
theorem Ae:Ent N.zO Tryz.f243:=fun hn h=>cw Tryz.func243 (by rfl) (by rfl) hn (by rfl) h
theorem vR:Ent N.rT Tryz.f244:=fun hn h=>cw Tryz.func244 (by rfl) (by rfl) hn (by rfl) h
theorem xO:Ent N.tm Tryz.f245:=fun hn h=>cw Tryz.func245 (by rfl) (by rfl) hn (by rfl) h
theorem xP:Ent N.tn Tryz.f246:=fun hn h=>cw Tryz.func246 (by rfl) (by rfl) hn (by rfl) h
theorem vS:Ent N.rU Tryz.f247:=fun hn h=>cw Tryz.func247 (by rfl) (by rfl) hn (by rfl) h
theorem sW:Ent N.oa Tryz.f248:=fun hn h=>cw Tryz.func248 (by rfl) (by rfl) hn (by rfl) h
theorem oK:Ent N.kX Tryz.f249:=fun hn h=>cw Tryz.func249 (by rfl) (by rfl) hn (by rfl) h
theorem qD:Ent N.mP Tryz.f250:=fun hn h=>cw Tryz.func250 (by rfl) (by rfl) hn (by rfl) h
theorem sX:Ent N.oc Tryz.f251:=fun hn h=>cw Tryz.func251 (by rfl) (by rfl) hn (by rfl) h
theorem uC:Ent N.pf Tryz.f252:=fun hn h=>cw Tryz.func252 (by rfl) (by rfl) hn (by rfl) h
theorem ie:Ent N.ff Tryz.f253:=fun hn h=>cw Tryz.func253 (by rfl) (by rfl) hn (by rfl) h
theorem uD:Ent N.pg Tryz.f260:=fun hn h=>cw Tryz.func260 (by rfl) (by rfl) hn (by rfl) h
theorem sY:Ent N.od Tryz.f261:=fun hn h=>cw Tryz.func261 (by rfl) (by rfl) hn (by rfl) h
theorem Af:Ent N.zP Tryz.f262:=fun hn h=>cw Tryz.func262 (by rfl) (by rfl) hn (by rfl) h
theorem uE:Ent N.ph Tryz.f263:=fun hn h=>cw Tryz.func263 (by rfl) (by rfl) hn (by rfl) h
theorem Ag:Ent N.zQ Tryz.f266:=fun hn h=>cw Tryz.func266 (by rfl) (by rfl) hn (by rfl) h
theorem Ah:Ent N.zR Tryz.f267:=fun hn h=>cw Tryz.func267 (by rfl) (by rfl) hn (by rfl) h
theorem jl{H:Hp}{nx:Nat}{iv:Iv}{w1 w':World}(hS:Old S w)(hw:dT w.heap.size w w1)(r:Rel H nx iv w.heap.size w1 O w'){ad:Addr}{j:Nat}{x:Value}(hs:S ad.block)(h:w.cell? (ad.add j)=some x):w'.cell? (ad.add j)=some x:=by
 rw[(hw.tr r.cL).cell (by rw[c9];exact hS _ hs)];exact h
theorem Ea(a:Option Addr)(c:Nat):(if (c:Int)=0 then a else a.map fun x=>x.add (Int.toNat 0*1))=a:=by
 split
 ·rfl
 ·cases a<;>rfl
theorem xQ(h:ls[k]? =some 0):dO (ls.take (k+1))=dO (ls.take k):=by
 rw[List.take_add_one,h];exact kP _
theorem Ai{x:Nat}(h:ls[k]? =some x)(hx:x≠0):dO (ls.take (k+1))=ls.take (k+1):=by
 rw[List.take_add_one,h];exact nZ _ hx
theorem fM(hS:Old S w)(h:cz w S v ls):dx PG N.mJ #[v] w (eH w fun v' w2=>cz w2 S v' (dO ls)):=by
 obtain⟨a,c,rfl,TE,hc⟩:=h.sl;have hle:=h.le;have PN:=h.lm;refine pw (by simp) ?_
 refine⟨Nat×World,fun x=>⟨[(0,sV a x.1 c)],[],0,[],x.2⟩,fun x=>x.1,
  fun x=>x.1<=ls.length∧dT w.heap.size w x.2∧dO ls=dO (ls.take x.1),?_,?_⟩
 ·intro O w' r;exact⟨(ls.length,w'),⟨Nat.le_refl _,r.cL,by simp⟩,Sub.reset r ⟨rfl,trivial⟩ ⟨trivial,trivial⟩⟩
 ·rintro⟨k,w1⟩ ⟨hk,hw,hF⟩;dsimp only at hk hw hF ⊢;have WQ:dT w.heap.size w w1->dO ls=ls.take k->∀O w2,Rel [] 0 [] w.heap.size w1 O w2->cz w2 S (.slice a k c) (dO ls):=fun hw he O w2 r=>by
   rw[he];refine⟨PN.take k,by simp;omega,a,c,by simp;omega,by simp;omega,fun j x hx=>?_⟩;have Ry:j<k:=by
    have:=(aD.1 hx).1;simp at this;omega
   rw[bO Ry]at hx;obtain⟨ad,h1,h2,h3⟩:=hc j x hx;exact⟨ad,h1,h2,jl hS hw r h2 h3⟩
  refine dB.mk ?_ ?_<;>intro h
  ·have h:0<k:=by simpa using h
   obtain⟨k,rfl⟩:∃q,k=q+1:=⟨k-1,by omega⟩
   obtain⟨x,hx⟩:∃x,ls[k]? =some x:=⟨_,aB (by omega)⟩
   obtain⟨ad,ha,hs,Rn⟩:=hc k x hx;refine⟨(k:Int),wo,ad,ha,by omega,.int .u32 x,fun O w' r=>by rw[aF,aY];exact jl hS hw r hs Rn,?_⟩;refine dB.mk ?_ ?_<;>intro h2
   ·have h2:x=0:=by have:=eq_of_beq h2;omega
    subst h2;refine⟨(k:Int),wo,⟨by omega,by omega,by omega⟩,a,k,c,Ea a c,by simp,by simp,?_⟩;intro O w2 r;exact⟨(k,w2),⟨by dsimp only;omega,hw.tr r.cL,hF.trans (xQ hx)⟩,Sub.reset r ⟨rfl,trivial⟩ ⟨trivial,trivial⟩,by dsimp only;omega⟩
   ·have h2:x≠0:=by intro e;subst e;simp at h2
    intro O w2 r;exact⟨_,rfl,hw.tr r.cL,WQ hw (by rw[hF,Ai hx h2]) O w2 r⟩
  ·have h:k=0:=by
    have:¬0<k:=by simpa using h
    omega
   subst h;intro O w2 r;exact⟨_,rfl,hw.tr r.cL,WQ hw (by rw[hF];simp[dO]) O w2 r⟩
theorem eP(h:n<18446744073709551616):IntKind.u64.wrap (n:Int)=(n:Int):=xW (by omega) (by omega)
theorem fF(n:Nat):IntKind.u32.wrap (n:Int)=((n % 4294967296:Nat):Int):=by
 show((n:Int) % 4294967296)=_;omega
theorem ofInt32(x:Nat):BitVec.ofInt 32 (x:Int)=BitVec.ofNat 32 x:=by
 apply BitVec.eq_of_toNat_eq;simp
theorem qM{y:Nat}(x:Nat)(hy:y<4294967296):x &&& y<4294967296:=Nat.lt_of_le_of_lt Nat.and_le_right hy
theorem qN{x y:Nat}(hx:x<4294967296)(hy:y<4294967296):x ^^^ y<4294967296:=Nat.xor_lt_two_pow (n:=32) hx hy
theorem DC{x y:Nat}(hx:x<4294967296)(hy:y<4294967296):x ||| y<4294967296:=Nat.or_lt_two_pow (n:=32) hx hy
theorem Ms{x y:Nat}(hx:x<4294967296)(hy:y<4294967296):IntKind.u32.wrap ((BitVec.ofInt IntKind.u32.bits x &&& BitVec.ofInt IntKind.u32.bits y).toNat:Int)=((x &&& y:Nat):Int):=by
 show IntKind.u32.wrap ((BitVec.ofInt 32 x &&& BitVec.ofInt 32 y).toNat:Int)=_;rw[ofInt32,ofInt32,BitVec.toNat_and,BitVec.toNat_ofNat,BitVec.toNat_ofNat,bI hx,bI hy,fF,bI (qM x hy)]
theorem aAI{x y:Nat}(hx:x<4294967296)(hy:y<4294967296):IntKind.u32.wrap ((BitVec.ofInt IntKind.u32.bits x ||| BitVec.ofInt IntKind.u32.bits y).toNat:Int)=((x ||| y:Nat):Int):=by
 show IntKind.u32.wrap ((BitVec.ofInt 32 x ||| BitVec.ofInt 32 y).toNat:Int)=_;rw[ofInt32,ofInt32,BitVec.toNat_or,BitVec.toNat_ofNat,BitVec.toNat_ofNat,bI hx,bI hy,fF,bI (DC hx hy)]
theorem Mt{x y:Nat}(hx:x<4294967296)(hy:y<4294967296):IntKind.u32.wrap ((BitVec.ofInt IntKind.u32.bits x ^^^ BitVec.ofInt IntKind.u32.bits y).toNat:Int)=((x ^^^ y:Nat):Int):=by
 show IntKind.u32.wrap ((BitVec.ofInt 32 x ^^^ BitVec.ofInt 32 y).toNat:Int)=_;rw[ofInt32,ofInt32,BitVec.toNat_xor,BitVec.toNat_ofNat,BitVec.toNat_ofNat,bI hx,bI hy,fF,bI (qN hx hy)]
theorem Mu{x:Nat}(hx:x<4294967296):IntKind.u32.wrap ((BitVec.ofInt IntKind.u32.bits (if IntKind.u32.signed=true then -1 else IntKind.u32.max) ^^^ BitVec.ofInt IntKind.u32.bits x).toNat:Int)=((4294967295 ^^^ x:Nat):Int):=
 Mt (x:=4294967295) (by decide) hx
theorem lW{x:Nat}(k:Nat)(hk:k<=63):(x:Int).fdiv (2^min (Int.toNat (k:Int)) IntKind.u64.bits)=((x / 2^k:Nat):Int):=by
 have h1:min (Int.toNat (k:Int)) IntKind.u64.bits=k:=by show min (Int.toNat (k:Int)) 64=k;omega
 rw[h1,Int.fdiv_eq_ediv_of_nonneg _ (by exact Int.le_of_lt (Int.pow_pos (by decide)))];simp
theorem oM{x:Nat}(k:Nat)(hk:k<=31):(x:Int).fdiv (2^min (Int.toNat (k:Int)) IntKind.u32.bits)=((x / 2^k:Nat):Int):=by
 have h1:min (Int.toNat (k:Int)) IntKind.u32.bits=k:=by show min (Int.toNat (k:Int)) 32=k;omega
 rw[h1,Int.fdiv_eq_ediv_of_nonneg _ (by exact Int.le_of_lt (Int.pow_pos (by decide)))];simp
theorem MY{z:Nat}(h:z<4294967296):z.testBit 31=decide (2147483648<=z):=by
 rw[Nat.testBit_eq_decide_div_mod_eq];apply decide_eq_decide.2;show z / 2147483648 % 2=1↔_;omega
theorem borrow{x y c d:Nat}(hx:x<4294967296)(hy:y<4294967296)(hc:c<=1)(hd:(x+4294967296-(y+c)) % 4294967296=d):
  (((4294967295 ^^^ x) &&& y) ||| ((4294967295 ^^^ (x ^^^ y)) &&& d)) / 2^31=if x<y+c then 1 else 0:=by
 have PM:d<4294967296:=by omega
 have hz:=DC (qM (4294967295 ^^^ x) hy) (qM (4294967295 ^^^ (x ^^^ y)) PM);have ht:=MY hz;have hm:Nat.testBit 4294967295 31=true:=by decide
 rw[Nat.testBit_or,Nat.testBit_and,Nat.testBit_and,Nat.testBit_xor,Nat.testBit_xor,Nat.testBit_xor,hm,MY hx,MY hy,MY PM]at ht;generalize (((4294967295 ^^^ x) &&& y) ||| ((4294967295 ^^^ (x ^^^ y)) &&& d))=z at hz ht;show z / 2147483648=_;by_cases h1:2147483648<=x<;>by_cases h2:2147483648<=y<;>by_cases h3:2147483648<=d<;>simp[h1,h2,h3]at ht<;>split<;>omega
theorem Hb(x y c:Nat)(w:World)(hx:x<4294967296)(hy:y<4294967296)(hc:c<4294967296):
  dx PG N.zQ #[.int .u32 x,.int .u32 y,.int .u32 c] w (eH w fun v _=>v= .tuple #[.int .u32 ((x+y+c) % 4294967296:Nat),.int .u32 ((x+y+c) / 4294967296:Nat)]):=by
 refine Ag (by simp) ?_;refine⟨(x:Int),eP (by omega),(y:Int),eP (by omega),((x+y:Nat):Int),by rw[xW]<;>omega,(c:Int),eP (by omega),((x+y+c:Nat):Int),by rw[xW]<;>omega,(((x+y+c) % 4294967296:Nat):Int),fF _,by decide,(((x+y+c) / 4294967296:Nat):Int),?_,?_⟩
 ·exact lW 32 (by decide)
 refine⟨(((x+y+c) / 4294967296:Nat):Int),by rw[fF];omega,?_⟩;intro O w3 r;exact⟨_,rfl,r.cL,rfl⟩
theorem Hc(x y c:Nat)(w:World)(hx:x<4294967296)(hy:y<4294967296)(hc:c<=1):
  dx PG N.zR #[.int .u32 x,.int .u32 y,.int .u32 c] w (eH w fun v _=>v= .tuple #[.int .u32 ((x+4294967296-(y+c)) % 4294967296:Nat),.int .u32 ((if x<y+c then 1 else 0:Nat):Int)]):=by
 refine Ah (by simp) ?_;refine⟨((x+4294967296-y) % 4294967296:Nat),?_,?_⟩
 ·show((x:Int)-y) % 4294967296=_;omega
 refine⟨((x+4294967296-(y+c)) % 4294967296:Nat),?_,?_⟩
 ·show((((x+4294967296-y) % 4294967296:Nat):Int)-c) % 4294967296=_;omega
 have h6:(x+4294967296-(y+c)) % 4294967296<4294967296:=bq _ (by decide);generalize hd:(x+4294967296-(y+c)) % 4294967296=d at h6;refine⟨((4294967295 ^^^ x:Nat):Int),Mu hx,(((4294967295 ^^^ x) &&& y:Nat):Int),Ms (qN (by decide) hx) hy,((x ^^^ y:Nat):Int),Mt hx hy,((4294967295 ^^^ (x ^^^ y):Nat):Int),Mu (qN hx hy),(((4294967295 ^^^ (x ^^^ y)) &&& d:Nat):Int),Ms (qN (by decide) (qN hx hy)) h6,((((4294967295 ^^^ x) &&& y) ||| ((4294967295 ^^^ (x ^^^ y)) &&& d):Nat):Int),aAI (qM _ hy) (qM _ h6),by decide,((if x<y+c then 1 else 0:Nat):Int),?_,?_⟩
 ·rw[<-borrow hx hy hc hd];exact oM 31 (by decide)
 intro O w3 r;exact⟨_,rfl,r.cL,rfl⟩
def s3(n m:Nat):Int:=if n<m then -1 else if m<n then 1 else 0
theorem My{a b:List Nat}{i x y:Nat}(ha:Lm a)(hl:a.length=b.length)(hx:a[i]? =some x)(hy:b[i]? =some y)(h:a.drop (i+1)=b.drop (i+1))(Ou:x<y):val a<val b:=by
 have hi:=(aD.1 hx).1;have h1:=eX a i (by omega);have h2:=eX b i (by omega);rw[jE hx]at h1;rw[jE hy,<-h]at h2;have h3:=nY (ha.take i);rw[aZ,Nat.min_eq_left (by omega)]at h3;generalize val (a.drop (i+1))=q at h1 h2;have h4:wt i*(x+4294967296*q+1)<=wt i*(y+4294967296*q):=bP _ (by omega);rw[bQ,aY]at h4;omega
theorem Kd{u:Value}{m:Nat}(hS:Old S w)(hn:dQ w S v n)(hm:dQ w S u m):dx PG N.rU #[v,u] w (eH w fun v' _=>v'= .int .i64 (s3 n m)):=by
 obtain⟨ls,h1,nz1,rfl⟩:=hn;obtain⟨ms,h2,nz2,rfl⟩:=hm;obtain⟨a,c,rfl,_,ha⟩:=h1.sl;obtain⟨b,e,rfl,_,hb⟩:=h2.sl;have hle1:=h1.le;have VA:=h2.le;have lm1:=h1.lm;have lm2:=h2.lm;refine vS (by simp) ?_;refine dB.mk ?_ ?_<;>intro h
 ·have h:ls.length≠ms.length:=by intro e;rw[e]at h;simp at h
  refine dB.mk ?_ ?_<;>intro h3
  ·have h3:ls.length<ms.length:=by simpa using h3
   intro O w2 r;exact⟨_,rfl,r.cL,by rw[s3,if_pos (im lm1 nz2 h3)];rfl⟩
  ·have h3:ms.length<ls.length:=by
    have:¬ls.length<ms.length:=by simpa using h3
    omega
   have h4:=im lm2 nz1 h3;intro O w2 r;exact⟨_,rfl,r.cL,by rw[s3,aI (by omega),if_pos h4];rfl⟩
 ·have h:ls.length=ms.length:=by
   have:(ls.length:Int)=ms.length:=by simpa using h
   omega
  refine⟨(ls.length:Int)-1,wo,Nat×World,fun x=>⟨[(0,sV a ls.length c),(1,sV b ms.length e),(5,.o (.v (.int .i64 ((x.1:Int)-1))))],[],0,[],x.2⟩,fun x=>x.1,
   fun x=>x.1<=ls.length∧dT w.heap.size w x.2∧ls.drop x.1=ms.drop x.1,?_,?_⟩
  ·intro O w' r;exact⟨(ls.length,w'),⟨Nat.le_refl _,r.cL,by rw[List.drop_length,h,List.drop_length]⟩,Sub.reset r ⟨rfl,rfl,rfl,trivial⟩ ⟨trivial,trivial,trivial,trivial⟩⟩
  ·rintro⟨k,w1⟩ ⟨hk,hw,hd⟩;dsimp only at hk hw hd ⊢;refine dB.mk ?_ ?_<;>intro h3
   ·have h3:(k:Int)-1≥0:=aK h3;obtain⟨k,rfl⟩:∃q,k=q+1:=⟨k-1,by omega⟩
    rw[show ((k+1:Nat):Int)-1=(k:Int) by omega];obtain⟨x,hx⟩:∃x,ls[k]? =some x:=⟨_,aB (by omega)⟩
    obtain⟨y,hy⟩:∃x,ms[k]? =some x:=⟨_,aB (by omega)⟩
    obtain⟨ad,Om,hs,hc1⟩:=ha k x hx;obtain⟨ad2,PZ,Q6,UH⟩:=hb k y hy;have Pt:∀O w',Rel [] 0 [] w.heap.size w1 O w'->w'.cell? (ad.add ((k:Int).toNat*1))=some (.int .u32 x):=fun O w' r=>by
     rw[aF,aY];exact jl hS hw r hs hc1
    have Q3:∀O w',Rel [] 0 [] w.heap.size w1 O w'->w'.cell? (ad2.add ((k:Int).toNat*1))=some (.int .u32 y):=fun O w' r=>by
     rw[aF,aY];exact jl hS hw r Q6 UH
    refine cH hτ dN [.x 0,.x 1,.x 2,.x 3,.x 4,.x 5,.x 6,.x 7,.x 8,.x 9] (by kernel_rfl) (by kernel_rfl) ?_;refine⟨ad,Om,by omega,_,Pt,ad2,PZ,by omega,_,Q3,?_⟩;refine dB.mk ?_ ?_<;>intro h4
    ·have h4:x<y:=by simpa using h4
     intro O w2 r;exact⟨_,rfl,hw.tr r.cL,by rw[s3,if_pos (My lm1 h hx hy hd h4)];rfl⟩
    ·have h4:¬x<y:=by simpa using h4
     refine cH hτ dN [.x 0,.x 1,.x 2,.x 3,.x 4,.x 5,.x 6,.x 7,.x 8,.x 9] (by kernel_rfl) (by kernel_rfl) ?_;refine⟨ad,Om,by omega,_,Pt,ad2,PZ,by omega,_,Q3,?_⟩;refine dB.mk ?_ ?_<;>intro h5
     ·have h5:y<x:=by simpa using h5
      have h6:=My lm2 h.symm hy hx hd.symm h5;intro O w2 r;exact⟨_,rfl,hw.tr r.cL,by rw[s3,aI (by omega),if_pos h6];rfl⟩
     ·have h5:¬y<x:=by simpa using h5
      have hxy:x=y:=by omega
      subst hxy;refine⟨(k:Int)-1,wo,?_⟩;intro O w2 r;have PM:ls.drop k=ms.drop k:=by
       obtain⟨q1,e1⟩:=aD.1 hx;obtain⟨q2,e2⟩:=aD.1 hy;rw[List.drop_eq_getElem_cons q1,List.drop_eq_getElem_cons q2,e1,e2,hd]
      exact⟨(k,w2),⟨by dsimp only;omega,hw.tr r.cL,PM⟩,Sub.reset r ⟨rfl,rfl,rfl,trivial⟩ ⟨trivial,trivial,trivial,trivial⟩,by simp⟩
   ·have Ua:k=0:=by
     have:¬(k:Int)-1≥0:=aH h3;omega
    subst Ua;have he:ls=ms:=by simpa using hd
    intro O w2 r;exact⟨_,rfl,hw.tr r.cL,by rw[he,s3,aI (by omega),aI (by omega)];rfl⟩
end Go.Ex
namespace Go.Sx
open Go Go.Ex Go.Proofs
variable{O:Nat->Sx.dL}
theorem Rel.qH{nx:Nat}{iv:Iv}{B:Nat}{w w':World}(r:Rel [] nx iv B w O w'):w.grownBy w' none:=
 ⟨r.os,r.tape,r.output,r.size,fun k hk _=>r.ub k hk (fun id b h=>by cases h)⟩
end Go.Sx
namespace Go.Ex
open Go Go.Sx Go.Proofs
variable{l ls:List Nat}{S:Nat->Prop}{v:Value}{w:World}
structure LA(S:Nat->Prop)(w:World) where
 a:Option Addr
 c:Nat
 ls:List Nat
 lm:Lm ls
 le:ls.length<=9223372036854775807
 cap:ls.length<=c
 cell:∀(j:Nat) x,ls[j]? =some x->∃ad,a=some ad∧S ad.block∧w.cell? (ad.add j)=some (.int .u32 x)
theorem cz.la(h:cz w S v ls):∃p:LA S w,v= .slice p.a p.ls.length p.c∧p.ls=ls:=by
 obtain⟨a,c,h1,h2,h3⟩:=h.sl;exact⟨⟨a,c,ls,h.lm,h.le,h2,h3⟩,h1,rfl⟩
theorem dQ.la{n:Nat}(h:dQ w S v n):∃p:LA S w,v= .slice p.a p.ls.length p.c∧val p.ls=n∧Nz p.ls:=by
 obtain⟨ls,h1,h2,h3⟩:=h;obtain⟨p,h4,h5⟩:=h1.la;exact⟨p,h4,by rw[h5];exact h3,by rw[h5];exact h2⟩
theorem LA.load{w1:World}(p:LA S w)(hS:Old S w)(hw:dT w.heap.size w w1){k x:Nat}(hx:p.ls[k]? =some x):
  ∃ad,p.a=some ad∧∀(H:Hp) (nx:Nat) (iv:Iv) (O:Nat->Sx.dL) w',Rel H nx iv w.heap.size w1 O w'->w'.cell? (ad.add ((k:Int).toNat*1))=some (.int .u32 x):=by
 obtain⟨ad,h1,h2,h3⟩:=p.cell k x hx;refine⟨ad,h1,fun H nx iv O w' r=>?_⟩;rw[aF,aY];exact jl hS hw r h2 h3
def U(l:List Nat):List Value:=l.map fun(x:Nat)=>.int .u32 (x:Int)
theorem gF(l:List Nat):(U l).length=l.length:=by simp[U]
theorem uF{k x:Nat}(h:l[k]? =some x):(U l)[k]? =some (.int .u32 x):=by simp[U,h]
theorem aAK(l:List Nat)(k x:Nat)(h:k<l.length):(U l).take k++[.int .u32 x]++(U l).drop (k+1)=U (l.set k x):=by
 have h1:k<(U l).length:=by rw[gF];exact h
 have:(U l).set k (.int .u32 x)=U (l.set k x):=by simp[U,List.map_set]
 rw[<-this,List.set_eq_take_append_cons_drop,if_pos h1];simp
theorem ir(l:List Nat)(k x:Nat)(h:k<l.length){e:Nat}(he:e=k):(U l).take e++[.int .u32 (x:Int)]++(U l).drop (e+1)=U (l.set k x):=by
 subst he;exact aAK l e x h
theorem s4(n:Nat):List.replicate n (Value.int .u32 0)=U (List.replicate n 0):=by simp[U]
end Go.Ex
namespace Go.Sx
open Go Go.Ex Go.Proofs
variable{ls:List Nat}{O:Nat->Sx.dL}
theorem Rel.nK{H:Hp}{nx:Nat}{iv:Iv}{B:Nat}{w w':World}(r:Rel H nx iv B w O w'){id t:Nat}(h:cV H id=some (.arr t (U ls)))(PN:Lm ls)(hle:ls.length<=9223372036854775807):
  cz w' (fun g=>g=(O id).g) (.slice (some ⟨(O id).g,0,none⟩) ls.length ls.length) ls:=by
 refine⟨PN,hle,_,_,rfl,Nat.le_refl _,fun j x hx=>⟨_,rfl,rfl,?_⟩⟩;have h0:(⟨(O id).g,0,none⟩:Addr).add j=⟨(O id).g,j,none⟩:=by
  cases j with
  |zero=>rfl
  |succ j=>simp[Addr.add]
 rw[h0,cell_of (r.arr id t _ h)];exact uF hx
end Go.Sx
namespace Go.Ex
open Go Go.Sx Go.Proofs
variable{S:Nat->Prop}
theorem Bo{out ls ms:List Nat}{i x o d:Nat}(hx:ls[i]? =some x)(ho:ms.getD i 0=o)(hd:out[i]? =some d){carry:Nat}(h:val (out.take i)+wt i*carry=val (ls.take i)+val (ms.take i)):
  val ((out.set i ((x+o+carry) % 4294967296)).take (i+1))+wt (i+1)*((x+o+carry) / 4294967296)=val (ls.take (i+1))+val (ms.take (i+1)):=by
 have hi:=(aD.1 hd).1;have h1:(out.set i ((x+o+carry) % 4294967296))[i]? =some ((x+o+carry) % 4294967296):=by rw[aO hi]
 rw[dJ h1,List.take_set_of_le (Nat.le_refl _),dJ hx,il];have h2:val (ms.take (i+1))=val (ms.take i)+wt i*o:=by
  cases hm:ms[i]? with
  |some y=>
   have:y=o:=by rw[<-ho];simp[List.getD,hm]
   rw[dJ hm,this]
  |none=>
   have:o=0:=by rw[<-ho];simp[List.getD,hm]
   rw[this,List.take_add_one,hm];simp
 rw[h2];have h3:=Nat.div_add_mod (x+o+carry) 4294967296;generalize (x+o+carry) / 4294967296=q at h3 ⊢;generalize (x+o+carry) % 4294967296=r at h3 ⊢;have h4:wt i*(4294967296*q+r)=wt i*(x+o+carry):=by rw[h3]
 rw[bQ,bQ,bQ,<-bc,bL (wt i) 4294967296]at h4;omega
theorem Nk{w:World}{v u:Value}{n m:Nat}(hS:Old S w)(hn:dQ w S v n)(hm:dQ w S u m)(SJ:ln n<=1000000000000)(PN:ln m<=1000000000000):
  dx PG N.pg #[v,u] w (eH w fun v' w2=>dQ w2 (Nf w w2) v' (n+m)):=by
 obtain⟨p,rfl,Qh,QR⟩:=hn.la;obtain⟨q,rfl,RO,Q2⟩:=hm.la;have Ph:=eA p.lm QR;have SA:=eA q.lm Q2;rw[Qh]at Ph;rw[RO]at SA;have hsum:n+m=val p.ls+val q.ls:=by rw[Qh,RO]
 rw[hsum];refine uD (by simp) ?_;refine dB.mk ?_ ?_<;>intro h
 case' refine_1=>
  have h:p.ls.length<q.ls.length:=by simpa using h
  have hpx:p.ls.length<=q.ls.length:=by omega
  have hx12:q.ls.length<=1000000000000:=by omega
  rw[Nat.add_comm];generalize WW:q=x at*
  generalize hgy:p=y at*
 case' refine_2=>
  have h:¬p.ls.length<q.ls.length:=by simpa using h
  have hpx:q.ls.length<=p.ls.length:=by omega
  have hx12:p.ls.length<=1000000000000:=by omega
  generalize WW:p=x at*
  generalize hgy:q=y at*
 all_goals
  refine⟨((x.ls.length+1:Nat):Int),wo,x.ls.length+1,x.ls.length+1,rfl,rfl,Nat.le_refl _,by omega,by omega,Nat×List Nat×Nat×World,fun z=>⟨[(0,sV x.a x.ls.length x.c),(1,sV y.a y.ls.length y.c),(5,.o (.s 0 0 (x.ls.length+1) (x.ls.length+1))),(6,.o (.v (.int .u32 z.2.2.1))),(21,iZ x.ls.length),(22,iZ z.1)],
    [(0,.arr T.uint32 (U z.2.1))],1,[],z.2.2.2⟩,fun z=>x.ls.length-z.1,
   fun z=>z.1<=x.ls.length∧dT w.heap.size w z.2.2.2∧z.2.1.length=x.ls.length+1∧Lm z.2.1∧z.2.2.1<2∧val (z.2.1.take z.1)+wt z.1*z.2.2.1=val (x.ls.take z.1)+val (y.ls.take z.1),?_,?_⟩
  ·intro O w' r;rw[s4]at r;exact⟨(0,List.replicate (x.ls.length+1) 0,0,w'),⟨by simp,r.cL,by simp,Lm.replicate _,by simp,by simp[val]⟩,Sub.gn [] r⟩
  ·rintro⟨i,out,carry,w1⟩ ⟨hi,hw,QW,PA,hc,hv⟩;dsimp only at hi hw QW PA hc hv ⊢;refine dB.mk ?_ ?_<;>intro h
   ·have h:i<x.ls.length:=by simpa using h
    obtain⟨xi,Pz⟩:∃k,x.ls[i]? =some k:=⟨_,aB h⟩
    obtain⟨d,hd⟩:∃k,out[i]? =some k:=⟨_,aB (by omega)⟩
    obtain⟨ad,Om,Oo⟩:=x.load hS hw Pz;have QG:=x.lm.at Pz;refine dB.mk ?_ ?_<;>intro h2
    ·have h2:i<y.ls.length:=by simpa using h2
     obtain⟨o,ho⟩:∃k,y.ls[i]? =some k:=⟨_,aB h2⟩
     obtain⟨ad2,PZ,Qj⟩:=y.load hS hw ho;have WA:=y.lm.at ho;have TT:y.ls.getD i 0=o:=by simp[List.getD,ho]
     refine⟨ad2,PZ,by omega,.int .u32 o,Qj _ _ _,ad,Om,by omega,.int .u32 xi,Oo _ _ _,?_⟩;refine cB (cI (Φ:=fun _ _ v _=>v= .tuple #[.int .u32 ((xi+o+carry) % 4294967296:Nat),.int .u32 ((xi+o+carry) / 4294967296:Nat)]) (fun O w' r=>Hb xi o carry w' QG WA (by omega)) ?_);rintro O w' v w2 r he hb rfl;replace hw:=hw.tr hb;have Pr:=Bo Pz TT hd hv;have UH:(xi+o+carry) / 4294967296<2:=by omega
     refine⟨by omega,by rw[gF];omega,U (out.set i ((xi+o+carry) % 4294967296)),ir out i _ (by omega) (by simp),((i+1:Nat):Int),wo,?_⟩;intro ρ3 w3 r3
     exact⟨(i+1,out.set i ((xi+o+carry) % 4294967296),(xi+o+carry) / 4294967296,w3),⟨by dsimp only;omega,hw.tr r3.cL,by simp[QW],PA.set (bq _ (by decide)),UH,Pr⟩,
      Sub.gn [] r3,by dsimp only;omega⟩
    ·have h2:¬i<y.ls.length:=by simpa using h2
     have TT:y.ls.getD i 0=0:=by simp[List.getD,List.getElem?_eq_none (show y.ls.length<=i by omega)]
     refine⟨ad,Om,by omega,.int .u32 xi,Oo _ _ _,?_⟩;refine cB (cI (Φ:=fun _ _ v _=>v= .tuple #[.int .u32 ((xi+0+carry) % 4294967296:Nat),.int .u32 ((xi+0+carry) / 4294967296:Nat)]) (fun O w' r=>Hb xi 0 carry w' QG (by decide) (by omega)) ?_);rintro O w' v w2 r he hb rfl;replace hw:=hw.tr hb;have Pr:=Bo Pz TT hd hv;have UH:(xi+0+carry) / 4294967296<2:=by omega
     refine⟨by omega,by rw[gF];omega,U (out.set i ((xi+0+carry) % 4294967296)),ir out i _ (by omega) (by simp),((i+1:Nat):Int),wo,?_⟩;intro ρ3 w3 r3
     exact⟨(i+1,out.set i ((xi+0+carry) % 4294967296),(xi+0+carry) / 4294967296,w3),⟨by dsimp only;omega,hw.tr r3.cL,by simp[QW],PA.set (bq _ (by decide)),UH,Pr⟩,
      Sub.gn [] r3,by dsimp only;omega⟩
   ·have Qy:i=x.ls.length:=by
     have:¬i<x.ls.length:=by simpa using h
     omega
    subst Qy;obtain⟨d,hd⟩:∃k,out[x.ls.length]? =some k:=⟨_,aB (by omega)⟩
    have Sk:val (out.set x.ls.length carry)=val x.ls+val y.ls:=by
     have h1:(out.set x.ls.length carry)[x.ls.length]? =some carry:=by rw[aO (by omega)]
     have h2:=dJ h1;rw[List.take_of_length_le (by simp;omega),List.take_set_of_le (Nat.le_refl _)]at h2;rw[bH,List.take_of_length_le hpx]at hv;omega
    have hlm2:Lm (out.set x.ls.length carry):=PA.set (by omega);refine⟨by omega,by rw[gF];omega,U (out.set x.ls.length carry),ir out x.ls.length carry (by omega) (by simp),?_⟩;generalize hgo:out.set x.ls.length carry=fin at Sk hlm2;have Ot:fin.length=x.ls.length+1:=by rw[<-hgo];simp[QW]
    refine gO (Φ:=fun O _ v w2=>cz w2 (fun g=>g=(O 0).g) v (dO fin)) (H':=[]) 0 rfl (by simp) trivial rfl (fun O w' r=>r.nn 0 _ rfl (by intros;simp) (by simp)) (fun O w' r=>?_) ?_
    ·have hL:=r.nK (id:=0) rfl hlm2 (by omega);rw[Ot]at hL;exact fM (fun g hg=>by rw[hg];exact(r.low 0 _ rfl (r.nn 0 _ rfl (by intros;simp) (by simp))).2) hL
    rintro O w' v w2 r he hb hL;replace hw:=hw.tr hb;have Od:=r.low 0 _ rfl (r.nn 0 _ rfl (by intros;simp) (by simp));generalize (O 0).g=g at*
    have hs:=he.size;intro ρ3 w3 r3;refine⟨_,rfl,hw.tr r3.cL,dO fin,?_,(ef fin).2.1,?_⟩
    ·refine(hL.cC fun k hk=>?_).cF fun k hk=>.inr ?_
     ·rw[hk];exact r3.qH.block g (by omega) (by simp)
     ·rw[hk];have:=r3.size;omega
    ·rw[(ef fin).1,Sk]
end Go.Ex
namespace Go.Ex
open Go Go.Sx Go.Proofs
variable{ls ms out:List Nat}{V a b i k n o t:Nat}{S:Nat->Prop}{v:Value}{w:World}
theorem JB(ho:ms.getD i 0=o):val (ms.take (i+1))=val (ms.take i)+wt i*o:=by
 cases hm:ms[i]? with
 |some y=>
  have:y=o:=by rw[<-ho];simp[List.getD,hm]
  rw[dJ hm,this]
 |none=>
  have:o=0:=by rw[<-ho];simp[List.getD,hm]
  rw[this,List.take_add_one,hm];simp
theorem AJ{x d e:Nat}(hx:ls[i]? =some x)(ho:ms.getD i 0=o)(hd:out[i]? =some d){b':Nat}(h:val (out.take i)+val (ms.take i)=val (ls.take i)+wt i*b)(he:e+(o+b)=x+4294967296*b'):
  val ((out.set i e).take (i+1))+val (ms.take (i+1))=val (ls.take (i+1))+wt (i+1)*b':=by
 have hi:=(aD.1 hd).1;have h1:(out.set i e)[i]? =some e:=by rw[aO hi]
 rw[dJ h1,List.take_set_of_le (Nat.le_refl _),dJ hx,JB ho,il];have h4:wt i*(e+(o+b))=wt i*(x+4294967296*b'):=by rw[he]
 rw[bQ,bQ,bQ,<-bc,bL (wt i) 4294967296]at h4;omega
theorem Ck{u:Value}{m:Nat}(hS:Old S w)(hn:dQ w S v n)(hm:dQ w S u m)(hle:m<=n)(SJ:ln n<=1000000000000):
  dx PG N.od #[v,u] w (eH w fun v' w2=>dQ w2 (Nf w w2) v' (n-m)):=by
 obtain⟨x,rfl,Qh,QR⟩:=hn.la;obtain⟨y,rfl,RO,Q2⟩:=hm.la;have Ph:=eA x.lm QR;rw[Qh]at Ph;have hyx:y.ls.length<=x.ls.length:=by
  rw[eA x.lm QR,eA y.lm Q2,Qh,RO];exact fI hle
 refine sY (by simp) ?_
 refine⟨x.ls.length,x.ls.length,rfl,rfl,Nat.le_refl _,by omega,by omega,Nat×List Nat×Nat×World,fun z=>⟨[(0,sV x.a x.ls.length x.c),(1,sV y.a y.ls.length y.c),(5,.o (.s 0 0 x.ls.length x.ls.length)),(6,.o (.v (.int .u32 z.2.2.1))),(13,iZ x.ls.length),(14,iZ z.1)],
   [(0,.arr T.uint32 (U z.2.1))],1,[],z.2.2.2⟩,fun z=>x.ls.length-z.1,
  fun z=>z.1<=x.ls.length∧dT w.heap.size w z.2.2.2∧z.2.1.length=x.ls.length∧Lm z.2.1∧z.2.2.1<2∧val (z.2.1.take z.1)+val (y.ls.take z.1)=val (x.ls.take z.1)+wt z.1*z.2.2.1,?_,?_⟩
 ·intro O w' r;rw[s4]at r;exact⟨(0,List.replicate x.ls.length 0,0,w'),⟨by simp,r.cL,by simp,Lm.replicate _,by simp,by simp[val]⟩,Sub.gn [] r⟩
 ·rintro⟨i,out,b,w1⟩ ⟨hi,hw,QW,PA,hc,hv⟩;dsimp only at hi hw QW PA hc hv ⊢;refine dB.mk ?_ ?_<;>intro h
  ·have h:i<x.ls.length:=by simpa using h
   obtain⟨xi,Pz⟩:∃k,x.ls[i]? =some k:=⟨_,aB h⟩
   obtain⟨d,hd⟩:∃k,out[i]? =some k:=⟨_,aB (by omega)⟩
   obtain⟨ad,Om,Oo⟩:=x.load hS hw Pz;have QG:=x.lm.at Pz;refine dB.mk ?_ ?_<;>intro h2
   ·have h2:i<y.ls.length:=by simpa using h2
    obtain⟨o,ho⟩:∃k,y.ls[i]? =some k:=⟨_,aB h2⟩
    obtain⟨ad2,PZ,Qj⟩:=y.load hS hw ho;have WA:=y.lm.at ho;have TT:y.ls.getD i 0=o:=by simp[List.getD,ho]
    refine⟨ad2,PZ,by omega,.int .u32 o,Qj _ _ _,ad,Om,by omega,.int .u32 xi,Oo _ _ _,?_⟩;refine cB (cI (Φ:=fun _ _ v _=>v= .tuple #[.int .u32 ((xi+4294967296-(o+b)) % 4294967296:Nat),.int .u32 ((if xi<o+b then 1 else 0:Nat):Int)]) (fun O w' r=>Hc xi o b w' QG WA (by omega)) ?_);rintro O w' v w2 r he hb rfl;replace hw:=hw.tr hb;have QA:(xi+4294967296-(o+b)) % 4294967296+(o+b)=xi+4294967296*(if xi<o+b then 1 else 0):=by split<;>omega
    have Ou:(xi+4294967296-(o+b)) % 4294967296<4294967296:=bq _ (by decide);have Qn:(if xi<o+b then 1 else 0:Nat)<2:=by split<;>omega
    generalize (xi+4294967296-(o+b)) % 4294967296=e at QA Ou;generalize (if xi<o+b then 1 else 0:Nat)=b' at QA Qn;have Pr:=AJ Pz TT hd hv QA;refine⟨by omega,by rw[gF];omega,U (out.set i e),ir out i _ (by omega) (by simp),((i+1:Nat):Int),wo,?_⟩;intro ρ3 w3 r3
    exact⟨(i+1,out.set i e,b',w3),⟨by dsimp only;omega,hw.tr r3.cL,by simp[QW],PA.set Ou,Qn,Pr⟩,
     Sub.gn [] r3,by dsimp only;omega⟩
   ·have h2:¬i<y.ls.length:=by simpa using h2
    have TT:y.ls.getD i 0=0:=by simp[List.getD,List.getElem?_eq_none (show y.ls.length<=i by omega)]
    refine⟨ad,Om,by omega,.int .u32 xi,Oo _ _ _,?_⟩;refine cB (cI (Φ:=fun _ _ v _=>v= .tuple #[.int .u32 ((xi+4294967296-(0+b)) % 4294967296:Nat),.int .u32 ((if xi<0+b then 1 else 0:Nat):Int)]) (fun O w' r=>Hc xi 0 b w' QG (by decide) (by omega)) ?_);rintro O w' v w2 r he hb rfl;replace hw:=hw.tr hb;have QA:(xi+4294967296-(0+b)) % 4294967296+(0+b)=xi+4294967296*(if xi<0+b then 1 else 0):=by split<;>omega
    have Ou:(xi+4294967296-(0+b)) % 4294967296<4294967296:=bq _ (by decide);have Qn:(if xi<0+b then 1 else 0:Nat)<2:=by split<;>omega
    generalize (xi+4294967296-(0+b)) % 4294967296=e at QA Ou;generalize (if xi<0+b then 1 else 0:Nat)=b' at QA Qn;have Pr:=AJ Pz TT hd hv QA;refine⟨by omega,by rw[gF];omega,U (out.set i e),ir out i _ (by omega) (by simp),((i+1:Nat):Int),wo,?_⟩;intro ρ3 w3 r3
    exact⟨(i+1,out.set i e,b',w3),⟨by dsimp only;omega,hw.tr r3.cL,by simp[QW],PA.set Ou,Qn,Pr⟩,
     Sub.gn [] r3,by dsimp only;omega⟩
  ·have Qy:i=x.ls.length:=by
    have:¬i<x.ls.length:=by simpa using h
    omega
   subst Qy;have Sk:val out=n-m:=by
    rw[List.take_of_length_le (by omega),List.take_of_length_le hyx,bH,Qh,RO]at hv;have h1:=nY PA;rw[QW]at h1;have:b=0∨b=1:=by omega
    rcases this with rfl|rfl
    ·omega
    ·omega
   refine gO (Φ:=fun O _ v w2=>cz w2 (fun g=>g=(O 0).g) v (dO out)) (H':=[]) 0 rfl (by simp) trivial rfl (fun O w' r=>r.nn 0 _ rfl (by intros;simp) (by simp)) (fun O w' r=>?_) ?_
   ·have hL:=r.nK (id:=0) rfl PA (by omega);rw[QW]at hL;exact fM (fun g hg=>by rw[hg];exact(r.low 0 _ rfl (r.nn 0 _ rfl (by intros;simp) (by simp))).2) hL
   rintro O w' v w2 r he hb hL;replace hw:=hw.tr hb;have Od:=r.low 0 _ rfl (r.nn 0 _ rfl (by intros;simp) (by simp));generalize (O 0).g=g at*
   have hs:=he.size;intro ρ3 w3 r3;refine⟨_,rfl,hw.tr r3.cL,dO out,?_,(ef out).2.1,?_⟩
   ·refine(hL.cC fun k hk=>?_).cF fun k hk=>.inr ?_
    ·rw[hk];exact r3.qH.block g (by omega) (by simp)
    ·rw[hk];have:=r3.size;omega
   ·rw[(ef out).1,Sk]
theorem Gm{p c:Nat}(ho:out[p]? =some o)(h:val out+wt p*c=V)(ht:t=a+o+c):
  val (out.set p (t % 4294967296))+wt (p+1)*(t / 4294967296)=V+wt p*a:=by
 have h1:=x8 (x:=t % 4294967296) ho;rw[il];have h3:=Nat.div_add_mod t 4294967296;generalize t / 4294967296=q at h3 ⊢;generalize t % 4294967296=r at h3 h1 ⊢;have h4:wt p*(4294967296*q+r)=wt p*(a+o+c):=by rw[h3,ht]
 rw[bQ,bQ,bQ,<-bc,bL (wt p) 4294967296]at h4;omega
def Zf(out:List Nat)(p:Nat):Prop:=∀(j:Nat) z,p<=j->out[j]? =some z->z=0
theorem Zf.set{p x:Nat}(h:Zf out p)(hk:k<p):Zf (out.set k x) p:=fun j z hj hz=>by
 rw[aT (by omega)]at hz;exact h j z hj hz
theorem LV(ha:a<4294967296)(hb:b<4294967296):a*b<=18446744065119617025:=by
 have:a*b<=4294967295*4294967295:=Nat.mul_le_mul (by omega) (by omega);omega
theorem H6{u:Value}{m:Nat}(hS:Old S w)(hn:dQ w S v n)(hm:dQ w S u m)(SJ:ln n<=1000000000000)(PN:ln m<=1000000000000):
  dx PG N.o9 #[v,u] w (eH w fun v' w2=>dQ w2 (Nf w w2) v' (n*m)):=by
 obtain⟨x,rfl,Qh,QR⟩:=hn.la;obtain⟨y,rfl,RO,Q2⟩:=hm.la;have Ph:=eA x.lm QR;rw[Qh]at Ph;have SA:=eA y.lm Q2;rw[RO]at SA;refine sU (by simp) ?_;obtain⟨L,hL⟩:∃L,L=x.ls.length+y.ls.length:=⟨_,rfl⟩
 refine⟨(L:Int),wo,L,L,rfl,rfl,Nat.le_refl _,by omega,by omega,Nat×List Nat×World,fun z=>⟨[(1,sV y.a y.ls.length y.c),(5,.o (.s 0 0 L L)),(18,sV x.a x.ls.length x.c),(19,iZ x.ls.length),(20,iZ z.1)],
   [(0,.arr T.uint32 (U z.2.1))],1,[],z.2.2⟩,fun z=>x.ls.length-z.1,
  fun z=>z.1<=x.ls.length∧dT w.heap.size w z.2.2∧z.2.1.length=L∧Lm z.2.1∧val z.2.1=val (x.ls.take z.1)*m∧Zf z.2.1 (z.1+y.ls.length),?_,?_⟩
 ·intro O w' r;rw[s4]at r;exact⟨(0,List.replicate L 0,w'),⟨by simp,r.cL,by simp,Lm.replicate _,by simp[val,mZ],fun j z _ hz=>by simp only[List.getElem?_replicate]at hz;split at hz<;>simp_all⟩,Sub.gn [] r⟩
 ·rintro⟨i,out,w1⟩ ⟨hi,hw,QW,PA,hv,hz⟩;dsimp only at hi hw QW PA hv hz ⊢;refine dB.mk ?_ ?_<;>intro h
  ·have h:i<x.ls.length:=by simpa using h
   obtain⟨xi,Pz⟩:∃k,x.ls[i]? =some k:=⟨_,aB h⟩
   obtain⟨ad,Om,Oo⟩:=x.load hS hw Pz;have QG:=x.lm.at Pz
   refine⟨ad,Om,by omega,.int .u32 xi,Oo _ _ _,Nat×List Nat×Nat×World,fun z=>⟨[(1,sV y.a y.ls.length y.c),(5,.o (.s 0 0 L L)),(18,sV x.a x.ls.length x.c),(19,iZ x.ls.length),(20,iZ i),
     (6,iZ i),(7,.o (.v (.int .u32 xi))),(8,.o (.v (.int .u64 z.2.2.1))),(25,sV y.a y.ls.length y.c),(26,iZ y.ls.length),(27,iZ z.1)],
     [(0,.arr T.uint32 (U z.2.1))],1,[],z.2.2.2⟩,fun z=>y.ls.length-z.1,
    fun z=>z.1<=y.ls.length∧dT w.heap.size w z.2.2.2∧z.2.1.length=L∧Lm z.2.1∧z.2.2.1<4294967296∧val z.2.1+wt (i+z.1)*z.2.2.1=val (x.ls.take i)*m+wt i*xi*val (y.ls.take z.1)∧Zf z.2.1 (i+y.ls.length),?_,?_⟩
   ·intro O w' r;exact⟨(0,out,0,w'),⟨by simp,hw.tr r.cL,QW,PA,by simp,by simp[val,hv],hz⟩,Sub.gn [] r⟩
   ·rintro⟨k,out,c,w1⟩ ⟨hk,hw,QW,PA,hc,hv,hz⟩;dsimp only at hk hw QW PA hc hv hz ⊢;refine dB.mk ?_ ?_<;>intro h2
    ·have h2:k<y.ls.length:=by simpa using h2
     obtain⟨yk,hyk⟩:∃q,y.ls[k]? =some q:=⟨_,aB h2⟩
     obtain⟨ad2,PZ,Qj⟩:=y.load hS hw hyk;have hy32:=y.lm.at hyk;obtain⟨o,ho⟩:∃q,out[i+k]? =some q:=⟨_,aB (by omega)⟩
     have WA:=PA.at ho;have hm64:=LV QG hy32;refine⟨ad2,PZ,by omega,.int .u32 yk,Qj _ _ _,(xi:Int),eP (by omega),(yk:Int),eP (by omega),((xi*yk:Nat):Int),by rw[<-Int.natCast_mul];exact eP (by omega),((i+k:Nat):Int),wo,by omega,.int .u32 o,by rw[aF,aV,aY];exact uF ho,(o:Int),eP (by omega),((xi*yk+o:Nat):Int),by rw[<-Int.natCast_add];exact eP (by omega),?_⟩;obtain⟨t,ht⟩:∃t,t=xi*yk+o+c:=⟨_,rfl⟩
     refine⟨(t:Int),by rw[<-Int.natCast_add,<-ht];exact eP (by omega),((i+k:Nat):Int),wo,((t % 4294967296:Nat):Int),fF _,by decide,((t / 4294967296:Nat):Int),lW 32 (by decide),by omega,by rw[gF];omega,U (out.set (i+k) (t % 4294967296)),ir out (i+k) _ (by omega) (by simp only[aF];omega),((k+1:Nat):Int),wo,?_⟩;intro ρ3 w3 r3
     refine⟨(k+1,out.set (i+k) (t % 4294967296),t / 4294967296,w3),⟨by dsimp only;omega,hw.tr r3.cL,by simp[QW],PA.set (bq _ (by decide)),by dsimp only;omega,?_,hz.set (by omega)⟩,
      Sub.gn [] r3,by dsimp only;omega⟩
     have h5:=Gm (a:=xi*yk) ho hv ht;dsimp only
     rw[show i+(k+1)=i+k+1 by omega,h5,dJ hyk,CH,bQ,Nat.add_assoc];congr 2;simp only[bc,Nat.mul_left_comm,bL]
    ·have UN:k=y.ls.length:=by
      have:¬k<y.ls.length:=by simpa using h2
      omega
     subst UN;obtain⟨o,ho⟩:∃q,out[i+y.ls.length]? =some q:=⟨_,aB (by omega)⟩
     have ho0:=hz _ _ (Nat.le_refl _) ho;subst ho0;refine⟨((i+y.ls.length:Nat):Int),wo,(c:Int),by rw[fF,bI hc],by omega,by rw[gF];omega,U (out.set (i+y.ls.length) c),ir out (i+y.ls.length) _ (by omega) (by simp only[aF];omega),((i+1:Nat):Int),wo,?_⟩;intro ρ3 w3 r3
     refine⟨(i+1,out.set (i+y.ls.length) c,w3),⟨by dsimp only;omega,hw.tr r3.cL,by simp[QW],PA.set hc,?_,?_⟩,
      Sub.gn [] r3,by dsimp only;omega⟩
     ·have h5:=x8 (x:=c) ho;dsimp only
      rw[bH,RO]at hv;rw[dJ Pz,Nat.add_mul];omega
     ·intro j z hj hjz;dsimp only at hj;rw[aT (by omega)]at hjz;exact hz j z (by omega) hjz
  ·have Qy:i=x.ls.length:=by
    have:¬i<x.ls.length:=by simpa using h
    omega
   subst Qy;have Sk:val out=n*m:=by rw[hv,bH,Qh]
   refine gO (Φ:=fun O _ v w2=>cz w2 (fun g=>g=(O 0).g) v (dO out)) (H':=[]) 0 rfl (by simp) trivial rfl (fun O w' r=>r.nn 0 _ rfl (by intros;simp) (by simp)) (fun O w' r=>?_) ?_
   ·have hL:=r.nK (id:=0) rfl PA (by omega);rw[QW]at hL;exact fM (fun g hg=>by rw[hg];exact(r.low 0 _ rfl (r.nn 0 _ rfl (by intros;simp) (by simp))).2) hL
   rintro O w' v w2 r he hb hL;replace hw:=hw.tr hb;have Od:=r.low 0 _ rfl (r.nn 0 _ rfl (by intros;simp) (by simp));generalize (O 0).g=g at*
   have hs:=he.size;intro ρ3 w3 r3;refine⟨_,rfl,hw.tr r3.cL,dO out,?_,(ef out).2.1,?_⟩
   ·refine(hL.cC fun k hk=>?_).cF fun k hk=>.inr ?_
    ·rw[hk];exact r3.qH.block g (by omega) (by simp)
    ·rw[hk];have:=r3.size;omega
   ·rw[(ef out).1,Sk]
theorem Cm{q:Nat}(ho:o<2^k):o ||| 2^k*q=o+2^k*q:=by
 rw[Nat.or_comm,<-Nat.two_pow_add_eq_or_of_lt ho,Nat.add_comm]
theorem Kf{x y:Nat}(hx:x<18446744073709551616)(hy:y<18446744073709551616):IntKind.u64.wrap ((BitVec.ofInt IntKind.u64.bits x ||| BitVec.ofInt IntKind.u64.bits y).toNat:Int)=((x ||| y:Nat):Int):=by
 have e:∀z:Nat,BitVec.ofInt 64 (z:Int)=BitVec.ofNat 64 z:=fun z=>by
  apply BitVec.eq_of_toNat_eq;simp
 show IntKind.u64.wrap ((BitVec.ofInt 64 x ||| BitVec.ofInt 64 y).toNat:Int)=_;rw[e,e,BitVec.toNat_or,BitVec.toNat_ofNat,BitVec.toNat_ofNat,bI hx,bI hy];exact eP (Nat.or_lt_two_pow (n:=64) hx hy)
theorem Cl(hk:k<=63)(h:a*2^k<18446744073709551616):IntKind.u64.wrap ((a:Int)*2^min ((k:Int)).toNat IntKind.u64.bits)=((a*2^k:Nat):Int):=by
 have h1:min ((k:Int)).toNat IntKind.u64.bits=k:=by show min ((k:Int)).toNat 64=k;omega
 rw[h1,show(a:Int)*2^k=((a*2^k:Nat):Int) by simp];exact eP h
theorem Gq(ha:ls[i]? =some a)(ho:out[i]? =some o)(hz:out[i+1]? =some 0)(hv:val out=val (ls.take i)*2^b):
  val ((out.set i (o+a*2^b % 4294967296)).set (i+1) (a*2^b / 4294967296))=val (ls.take (i+1))*2^b:=by
 have h1:=x8 (x:=o+a*2^b % 4294967296) ho;have h2:(out.set i (o+a*2^b % 4294967296))[i+1]? =some 0:=by rw[aT (by omega)];exact hz
 have h3:=x8 (x:=a*2^b / 4294967296) h2;rw[dJ ha,Nat.add_mul,bc];rw[il]at h3;generalize a*2^b=t at*
 have h4:=Nat.div_add_mod t 4294967296;generalize t / 4294967296=q at*
 generalize t % 4294967296=r at*
 have h5:wt i*(o+r)=wt i*o+wt i*r:=bQ _ _ _;have h6:4294967296*wt i*q=wt i*(4294967296*q):=by rw[bL 4294967296 (wt i),bc]
 rw[<-h4,bQ];omega
def Kh(w w2:World)(v:Value)(ls:List Nat):Prop:=∃g,v= .slice (some ⟨g,0,none⟩) ls.length ls.length∧w.heap.size<=g∧w2.heap[g]? =some (.cells (U ls).toArray T.uint32 (0,0))∧Lm ls
theorem B6(hS:Old S w)(h:cz w S v ls)(hl:ls.length<=1000000000000)(hb:b<32):
  dx PG N.mP #[v,.int .u64 b] w (eH w fun v' w2=>∃out,Kh w w2 v' out∧out.length=ls.length+1∧val out=val ls*2^b):=by
 obtain⟨x,rfl,rfl⟩:=h.la;refine qD (by simp) ?_;have hp32:2^b<=2^31:=Nat.pow_le_pow_right (by decide) (by omega)
 refine⟨((x.ls.length+1:Nat):Int),wo,x.ls.length+1,x.ls.length+1,rfl,rfl,Nat.le_refl _,by omega,by omega,Nat×List Nat×World,fun z=>⟨[(1,.o (.v (.int .u64 b))),(5,.o (.s 0 0 (x.ls.length+1) (x.ls.length+1))),(13,sV x.a x.ls.length x.c),(14,iZ x.ls.length),(15,iZ z.1)],
   [(0,.arr T.uint32 (U z.2.1))],1,[],z.2.2⟩,fun z=>x.ls.length-z.1,
  fun z=>z.1<=x.ls.length∧dT w.heap.size w z.2.2∧z.2.1.length=x.ls.length+1∧Lm z.2.1∧val z.2.1=val (x.ls.take z.1)*2^b∧Zf z.2.1 (z.1+1)∧(∀o,z.2.1[z.1]? =some o->o<2^b),?_,?_⟩
 ·intro O w' r;rw[s4]at r;refine⟨(0,List.replicate (x.ls.length+1) 0,w'),⟨by simp,r.cL,by simp,Lm.replicate _,by simp[val,mZ],fun j z _ hz=>?_,fun o ho=>?_⟩,Sub.gn [] r⟩
  ·simp only[List.getElem?_replicate]at hz;split at hz<;>simp_all
  ·simp only[List.getElem?_replicate]at ho;split at ho
   ·injection ho with ho;subst ho;exact bo _
   ·cases ho
 ·rintro⟨i,out,w1⟩ ⟨hi,hw,QW,PA,hv,hz,Od⟩;dsimp only at hi hw QW PA hv hz Od ⊢;refine dB.mk ?_ ?_<;>intro h
  ·have h:i<x.ls.length:=by simpa using h
   obtain⟨a,Pz⟩:∃k,x.ls[i]? =some k:=⟨_,aB h⟩
   obtain⟨ad,Om,Oo⟩:=x.load hS hw Pz;have QG:=x.lm.at Pz;obtain⟨o,ho⟩:∃q,out[i]? =some q:=⟨_,aB (by omega)⟩
   obtain⟨o1,VS⟩:∃q,out[i+1]? =some q:=⟨_,aB (by omega)⟩
   have e0:=hz _ _ (Nat.le_refl _) VS;subst e0;have SS:=Od o ho;have Pr:=Gq Pz ho VS hv;have QM:a*2^b<=4294967295*2^31:=Nat.mul_le_mul (by omega) hp32;have Tt:a*2^b / 4294967296<2^b:=by
    rw[Nat.div_lt_iff_lt_mul (by decide),bL (2^b)];exact Nat.mul_lt_mul_of_pos_right QG (bo b)
   have UL:o ||| a*2^b % 4294967296=o+a*2^b % 4294967296:=by
    have:a*2^b % 4294967296=2^b*(a % 2^(32-b)):=by
     rw[show (4294967296:Nat)=2^(32-b)*2^b by rw[<-Nat.pow_add,Nat.sub_add_cancel (by omega)],Nat.mul_mod_mul_right,bL]
    rw[this];exact Cm SS
   have Su:o+a*2^b % 4294967296<4294967296:=by
    rw[<-UL];exact DC (by omega) (bq _ (by decide))
   refine⟨ad,Om,by omega,.int .u32 a,Oo _ _ _,(a:Int),eP (by omega),by omega,((a*2^b:Nat):Int),Cl (by omega) (by omega),?_⟩;generalize ht:a*2^b=t at*
   refine⟨by omega,.int .u32 o,by rw[aF,aV,aY];exact uF ho,((t % 4294967296:Nat):Int),fF _,((o+t % 4294967296:Nat):Int),by rw[<-UL];exact aAI (by omega) (bq _ (by decide)),by omega,by rw[gF];omega,U (out.set i (o+t % 4294967296)),ir out i _ (by omega) (by simp),((i+1:Nat):Int),wo,by decide,((t / 4294967296:Nat):Int),lW 32 (by decide),((t / 4294967296:Nat):Int),by rw[fF];omega,by omega,by rw[gF];simp;omega,U ((out.set i (o+t % 4294967296)).set (i+1) (t / 4294967296)),ir _ (i+1) _ (by simp;omega) (by simp only[aF];omega),((i+1:Nat):Int),wo,?_⟩;intro ρ3 w3 r3
   refine⟨(i+1,(out.set i (o+t % 4294967296)).set (i+1) (t / 4294967296),w3),⟨by dsimp only;omega,hw.tr r3.cL,by simp[QW],(PA.set Su).set (by omega),Pr,fun j z hj hjz=>?_,fun o2 To=>?_⟩,
    Sub.gn [] r3,by dsimp only;omega⟩
   ·dsimp only at hj;rw[aT (by omega),aT (by omega)]at hjz;exact hz j z (by omega) hjz
   ·rw[aO (by simp;omega)]at To;injection To with To;omega
  ·have Qy:i=x.ls.length:=by
    have:¬i<x.ls.length:=by simpa using h
    omega
   subst Qy;rw[bH]at hv;intro ρ3 w3 r3;refine⟨_,rfl,hw.tr r3.cL,out,⟨(ρ3 0).g,by rw[QW];rfl,(r3.low 0 _ rfl (r3.nn 0 _ rfl (by intros;simp) (by simp))).1,r3.arr 0 _ _ rfl,PA⟩,QW,hv⟩
theorem Bx{d q:Nat}(ha32:a<4294967296)(ha:ls[i]? =some a)(hd:out[i]? =some d)(hb:b<=32)(ht:t=a+4294967296*ls.getD (i+1) 0)(hq:q=t / 2^b % 4294967296)(hv:val (out.take i)+wt i*(val (ls.drop i) / 2^b)=V):
  val ((out.set i q).take (i+1))+wt (i+1)*(val (ls.drop (i+1)) / 2^b)=V:=by
 have hi:=(aD.1 hd).1;have h1:(out.set i q)[i]? =some q:=by rw[aO hi]
 rw[dJ h1,List.take_set_of_le (Nat.le_refl _),il,<-hv];have hN:=jE ha;have h2:val (ls.drop i) / 2^b=q+4294967296*(val (ls.drop (i+1)) / 2^b):=by
  have e1:val (ls.drop i) / 2^b / 4294967296=val (ls.drop (i+1)) / 2^b:=by
   rw[Nat.div_div_eq_div_mul,bL,<-Nat.div_div_eq_div_mul];congr 1;omega
  have e2:val (ls.drop i) / 2^b % 4294967296=q:=by
   have h3:∃z,val (ls.drop i)=t+2^b*(4294967296*z):=by
    cases hx:ls[i+1]? with
    |some y=>
     have:=jE hx;refine⟨2^(32-b)*val (ls.drop (i+1+1)),?_⟩;have h4:2^b*(4294967296*(2^(32-b)*val (ls.drop (i+1+1))))=18446744073709551616*val (ls.drop (i+1+1)):=by
      rw[Nat.mul_left_comm,<-bc (2^b),<-Nat.pow_add,Nat.add_sub_cancel' hb,<-bc]
     rw[h4,hN,this,ht,List.getD,hx];simp only[Option.getD_some]
     omega
    |none=>
     refine⟨0,?_⟩;have h5:ls.length<=i+1:=List.getElem?_eq_none_iff.1 hx;rw[hN,List.drop_of_length_le h5,ht,List.getD,hx];simp[val]
   obtain⟨z,hz⟩:=h3;rw[hz,Nat.add_mul_div_left _ _ (bo b),Nat.add_mul_mod_self_left,hq]
  have:=Nat.div_add_mod (val (ls.drop i) / 2^b) 4294967296;rw[e1,e2]at this;omega
 rw[h2,bQ,bL 4294967296 (wt i),bc];omega
theorem Ng(hS:Old S w)(h:cz w S v ls)(hl:ls.length<=1000000000000)(hb:b<32):
  dx PG N.pf #[v,.int .u64 b] w (eH w fun v' w2=>dQ w2 (Nf w w2) v' (val ls / 2^b)):=by
 obtain⟨x,rfl,rfl⟩:=h.la;refine uC (by simp) ?_
 refine⟨x.ls.length,x.ls.length,rfl,rfl,Nat.le_refl _,by omega,by omega,Nat×List Nat×World,fun z=>⟨[(0,sV x.a x.ls.length x.c),(1,.o (.v (.int .u64 b))),(5,.o (.s 0 0 x.ls.length x.ls.length)),(12,iZ x.ls.length),(13,iZ z.1)],
   [(0,.arr T.uint32 (U z.2.1))],1,[],z.2.2⟩,fun z=>x.ls.length-z.1,
  fun z=>z.1<=x.ls.length∧dT w.heap.size w z.2.2∧z.2.1.length=x.ls.length∧Lm z.2.1∧val (z.2.1.take z.1)+wt z.1*(val (x.ls.drop z.1) / 2^b)=val x.ls / 2^b,?_,?_⟩
 ·intro O w' r;rw[s4]at r;exact⟨(0,List.replicate x.ls.length 0,w'),⟨by simp,r.cL,by simp,Lm.replicate _,by simp[val,jM]⟩,Sub.gn [] r⟩
 ·rintro⟨i,out,w1⟩ ⟨hi,hw,QW,PA,hv⟩;dsimp only at hi hw QW PA hv ⊢;refine dB.mk ?_ ?_<;>intro h
  ·have h:i<x.ls.length:=by simpa using h
   obtain⟨a,Pz⟩:∃k,x.ls[i]? =some k:=⟨_,aB h⟩
   obtain⟨ad,Om,Oo⟩:=x.load hS hw Pz;have QG:=x.lm.at Pz;obtain⟨d,hd⟩:∃q,out[i]? =some q:=⟨_,aB (by omega)⟩
   refine⟨ad,Om,by omega,.int .u32 a,Oo _ _ _,(a:Int),eP (by omega),((i+1:Nat):Int),wo,?_⟩;refine dB.mk ?_ ?_<;>intro h2
   ·have h2:i+1<x.ls.length:=by
     have:((i+1:Nat):Int)<x.ls.length:=aK h2;omega
    obtain⟨y,hy⟩:∃k,x.ls[i+1]? =some k:=⟨_,aB h2⟩
    obtain⟨ad2,PZ,Qj⟩:=x.load hS hw hy;have hy32:=x.lm.at hy;have QD:x.ls.getD (i+1) 0=y:=by simp[List.getD,hy]
    have UL:a ||| y*2^32=a+4294967296*y:=by
     rw[bL];exact Cm (k:=32) QG
    refine⟨((i+1:Nat):Int),wo,ad2,PZ,by omega,.int .u32 y,Qj _ _ _,(y:Int),eP (by omega),by decide,((y*2^32:Nat):Int),Cl (k:=32) (by decide) (by omega),((a+4294967296*y:Nat):Int),by rw[Kf (by omega) (by omega),UL],by omega,(((a+4294967296*y) / 2^b:Nat):Int),lW b (by omega),(((a+4294967296*y) / 2^b % 4294967296:Nat):Int),fF _,?_⟩;have Pr:=Bx (t:=a+4294967296*y) QG Pz hd (by omega) (by rw[QD]) rfl hv;generalize hq:(a+4294967296*y) / 2^b % 4294967296=q at*
    have hq32:q<4294967296:=by rw[<-hq];exact bq _ (by decide)
    refine⟨by omega,by rw[gF];omega,U (out.set i q),ir out i _ (by omega) (by simp),((i+1:Nat):Int),wo,?_⟩;intro ρ3 w3 r3
    exact⟨(i+1,out.set i q,w3),⟨by dsimp only;omega,hw.tr r3.cL,by simp[QW],PA.set hq32,Pr⟩,
     Sub.gn [] r3,by dsimp only;omega⟩
   ·have h2:¬i+1<x.ls.length:=by
     have:¬((i+1:Nat):Int)<x.ls.length:=aH h2;omega
    have QD:x.ls.getD (i+1) 0=0:=by simp[List.getD,List.getElem?_eq_none (show x.ls.length<=i+1 by omega)]
    refine⟨by omega,((a / 2^b:Nat):Int),lW b (by omega),((a / 2^b % 4294967296:Nat):Int),fF _,?_⟩;have Pr:=Bx (t:=a) QG Pz hd (by omega) (by rw[QD];omega) rfl hv;generalize hq:a / 2^b % 4294967296=q at*
    have hq32:q<4294967296:=by rw[<-hq];exact bq _ (by decide)
    refine⟨by omega,by rw[gF];omega,U (out.set i q),ir out i _ (by omega) (by simp),((i+1:Nat):Int),wo,?_⟩;intro ρ3 w3 r3
    exact⟨(i+1,out.set i q,w3),⟨by dsimp only;omega,hw.tr r3.cL,by simp[QW],PA.set hq32,Pr⟩,
     Sub.gn [] r3,by dsimp only;omega⟩
  ·have Qy:i=x.ls.length:=by
    have:¬i<x.ls.length:=by simpa using h
    omega
   subst Qy;have Sk:val out=val x.ls / 2^b:=by
    rw[List.drop_length,List.take_of_length_le (by omega)]at hv;simpa [val]using hv
   refine gO (Φ:=fun O _ v w2=>cz w2 (fun g=>g=(O 0).g) v (dO out)) (H':=[]) 0 rfl (by simp) trivial rfl (fun O w' r=>r.nn 0 _ rfl (by intros;simp) (by simp)) (fun O w' r=>?_) ?_
   ·have hL:=r.nK (id:=0) rfl PA (by omega);rw[QW]at hL;exact fM (fun g hg=>by rw[hg];exact(r.low 0 _ rfl (r.nn 0 _ rfl (by intros;simp) (by simp))).2) hL
   rintro O w' v w2 r he hb hL;replace hw:=hw.tr hb;have Od:=r.low 0 _ rfl (r.nn 0 _ rfl (by intros;simp) (by simp));generalize (O 0).g=g at*
   have hs:=he.size;intro ρ3 w3 r3;refine⟨_,rfl,hw.tr r3.cL,dO out,?_,(ef out).2.1,?_⟩
   ·refine(hL.cC fun k hk=>?_).cF fun k hk=>.inr ?_
    ·rw[hk];exact r3.qH.block g (by omega) (by simp)
    ·rw[hk];have:=r3.size;omega
   ·rw[(ef out).1,Sk]
theorem Gs{by_ rest x d:Nat}(hx:ls[k]? =some x)(hd:out[k]? =some d)(ht:t=rest*4294967296+x)
  (hv:val (ls.drop (k+1))=by_*val (out.drop (k+1))+rest):val (ls.drop k)=by_*val ((out.set k (t / by_)).drop k)+t % by_:=by
 have hi:=(aD.1 hd).1;have h1:(out.set k (t / by_))[k]? =some (t / by_):=by rw[aO hi]
 rw[jE h1,List.drop_set_of_lt (show k<k+1 by omega),jE hx,hv,bQ,bQ];have h2:=Nat.div_add_mod t by_;rw[Nat.mul_left_comm by_];omega
theorem Kg(h:t<18446744073709551616):IntKind.u64.wrap ((t:Int).tdiv (b:Int))=((t / b:Nat):Int):=by
 have h1:=Nat.div_le_self t b;rw[Int.tdiv_eq_ediv_of_nonneg (by omega),<-Int.natCast_ediv];exact eP (by omega)
theorem LK(t b:Nat):(t:Int).tmod (b:Int)=((t % b:Nat):Int):=by
 rw[Int.tmod_eq_emod_of_nonneg (by omega),<-Int.natCast_emod]
theorem MO(hS:Old S w)(h:cz w S v ls)(hl:ls.length<=1000000000000)(hb:0<b)(Qn:b<4294967296):
  dx PG N.oa #[v,.int .u32 b] w (eH w fun v' w2=>∃q,v'= .tuple #[q,.int .u32 ((val ls % b:Nat):Int)]∧dQ w2 (Nf w w2) q (val ls / b)):=by
 obtain⟨x,rfl,rfl⟩:=h.la;refine sW (by simp) ?_
 refine⟨x.ls.length,x.ls.length,rfl,rfl,Nat.le_refl _,by omega,by omega,(x.ls.length:Int)-1,wo,Nat×Nat×List Nat×World,fun z=>⟨[(0,sV x.a x.ls.length x.c),(1,.o (.v (.int .u32 b))),(4,sV none 0 0),(5,.o (.v (.int .u32 0))),(6,.o (.s 0 0 x.ls.length x.ls.length)),(7,.o (.v (.int .u64 z.2.1))),(8,.o (.v (.int .i64 ((z.1:Int)-1))))],
   [(0,.arr T.uint32 (U z.2.2.1))],1,[],z.2.2.2⟩,fun z=>z.1,
  fun z=>z.1<=x.ls.length∧dT w.heap.size w z.2.2.2∧z.2.2.1.length=x.ls.length∧Lm z.2.2.1∧z.2.1<b∧val (x.ls.drop z.1)=b*val (z.2.2.1.drop z.1)+z.2.1,?_,?_⟩
 ·intro O w' r;rw[s4]at r;exact⟨(x.ls.length,0,List.replicate x.ls.length 0,w'),⟨by simp,r.cL,by simp,Lm.replicate _,by simpa using hb,by simp[val]⟩,Sub.gn [] r⟩
 ·rintro⟨k,rest,out,w1⟩ ⟨hi,hw,QW,PA,hr,hv⟩;dsimp only at hi hw QW PA hr hv ⊢;refine dB.mk ?_ ?_<;>intro h
  ·have h:(k:Int)-1≥0:=aK h;obtain⟨k,rfl⟩:∃q,k=q+1:=⟨k-1,by omega⟩
   rw[show ((k+1:Nat):Int)-1=(k:Int) by omega];obtain⟨a,Pz⟩:∃q,x.ls[k]? =some q:=⟨_,aB (by omega)⟩
   obtain⟨ad,Om,Oo⟩:=x.load hS hw Pz;have QG:=x.lm.at Pz;obtain⟨d,hd⟩:∃q,out[k]? =some q:=⟨_,aB (by omega)⟩
   refine⟨by decide,((rest*2^32:Nat):Int),Cl (k:=32) (by decide) (by omega),ad,Om,by omega,.int .u32 a,Oo _ _ _,(a:Int),eP (by omega),?_⟩;have UL:rest*2^32 ||| a=rest*4294967296+a:=by
    rw[Nat.or_comm,bL,Cm (k:=32) QG];omega
   refine⟨((rest*4294967296+a:Nat):Int),by rw[Kf (by omega) (by omega),UL],?_⟩;generalize ht:rest*4294967296+a=t;have ht64:t<18446744073709551616:=by omega
   refine cH hτ dN [.x 0,.x 1,.x 2,.x 3,.x 4,.x 5,.x 6,.x 7,.x 8,.x 9,.x 10,.x 11,.x 12,.x 13] (by kernel_rfl) (by kernel_rfl) ?_;refine⟨(b:Int),eP (by omega),by omega,((t / b:Nat):Int),Kg ht64,?_⟩;have hq:t / b<4294967296:=by
    rw[Nat.div_lt_iff_lt_mul hb];have:=Nat.mul_le_mul_right 4294967296 hr;rw[Nat.succ_eq_add_one,Nat.add_mul]at this;omega
   have hm:t % b<b:=bq _ hb;have Pr:=Gs Pz hd ht.symm hv;have hw32:IntKind.u32.wrap ((t / b:Nat):Int)=((t / b:Nat):Int):=by rw[fF,bI hq]
   have hrem:=LK t b;generalize t / b=q at*
   generalize t % b=m at*
   refine⟨(q:Int),hw32,(b:Int),eP (by omega),by omega,(m:Int),hrem,by omega,by rw[gF];omega,U (out.set k q),ir out k _ (by omega) (by simp),(k:Int)-1,wo,?_⟩;intro ρ3 w3 r3
   exact⟨(k,m,out.set k q,w3),⟨by dsimp only;omega,hw.tr r3.cL,by simp[QW],PA.set hq,hm,Pr⟩,
    Sub.gn [] r3,by dsimp only;omega⟩
  ·have Ua:k=0:=by
    have:¬(k:Int)-1≥0:=aH h;omega
   subst Ua;rw[List.drop_zero,List.drop_zero]at hv;have hdm:val x.ls / b=val out∧val x.ls % b=rest:=by
    rw[hv];exact⟨by rw[Nat.mul_add_div hb,Nat.div_eq_of_lt hr,bj],by rw[Nat.mul_add_mod,bI hr]⟩
   rw[hdm.1,hdm.2];refine gO (Φ:=fun O _ v w2=>cz w2 (fun g=>g=(O 0).g) v (dO out)) (H':=[]) 0 rfl (by simp) trivial rfl (fun O w' r=>r.nn 0 _ rfl (by intros;simp) (by simp)) (fun O w' r=>?_) ?_
   ·have hL:=r.nK (id:=0) rfl PA (by omega);rw[QW]at hL;exact fM (fun g hg=>by rw[hg];exact(r.low 0 _ rfl (r.nn 0 _ rfl (by intros;simp) (by simp))).2) hL
   rintro O w' v w2 r he hb hL;replace hw:=hw.tr hb;have Od:=r.low 0 _ rfl (r.nn 0 _ rfl (by intros;simp) (by simp));generalize (O 0).g=g at*
   have hs:=he.size;refine⟨(rest:Int),by rw[fF,bI (by omega)],?_⟩;intro ρ3 w3 r3;refine⟨_,rfl,hw.tr r3.cL,v,rfl,dO out,?_,(ef out).2.1,(ef out).1⟩;refine(hL.cC fun k hk=>?_).cF fun k hk=>.inr ?_
   ·rw[hk];exact r3.qH.block g (by omega) (by simp)
   ·rw[hk];have:=r3.size;omega
def gP(n:Nat):Nat:=if n=0 then 0 else n.log2+1
theorem KX{x:Nat}(h:2^k<=x):x.log2=(x / 2^k).log2+k:=by
 have hp:=bo k;have hy:x / 2^k≠0:=by have:=Nat.div_pos h hp;omega
 have h1:=Nat.log2_self_le hy;have h2:=@Nat.lt_log2_self (x / 2^k);rw[Nat.log2_eq_iff (by omega)];refine⟨?_,?_⟩
 ·rw[Nat.pow_add];exact(Nat.le_div_iff_mul_le hp).1 h1
 ·rw[show (x / 2^k).log2+k+1=(x / 2^k).log2+1+k by omega,Nat.pow_add];exact(Nat.div_lt_iff_lt_mul hp).1 h2
theorem zf{x:Nat}(h:2^k<=x):gP x=k+gP (x / 2^k):=by
 have hp:=bo k;have hy:x / 2^k≠0:=by have:=Nat.div_pos h hp;omega
 rw[gP,gP,aI hy,aI (by omega),KX h];omega
theorem xl(h:n<256):IntKind.u8.wrap (n:Int)=(n:Int):=by
 show((n:Int) % 256)=_;omega
theorem xm(h:n<256):(UInt8.ofNat (gP n)).toNat=gP n:=by
 have:∀n,n<256->(UInt8.ofNat (gP n)).toNat=gP n:=by decide +kernel
 exact this n h
theorem oL{x:Nat}(h:x<256):gP x<=8:=by
 have:∀n,n<256->gP n<=8:=by decide +kernel
 exact this x h
theorem H2(n:Nat)(h:n<256):(⟨#[0,1,2,2,3,3,3,3,4,4,4,4,4,4,4,4,5,5,5,5,5,5,5,5,5,5,5,5,5,5,5,5,6,6,6,6,6,6,6,6,6,6,6,6,6,6,6,6,6,6,6,6,6,6,6,6,6,6,6,6,6,6,6,6,7,7,7,7,7,7,7,7,7,7,7,7,7,7,7,7,7,7,7,7,7,7,7,7,7,7,7,7,7,7,7,7,7,7,7,7,7,7,7,7,7,7,7,7,7,7,7,7,7,7,7,7,7,7,7,7,7,7,7,7,7,7,7,7,8,8,8,8,8,8,8,8,8,8,8,8,8,8,8,8,8,8,8,8,8,8,8,8,8,8,8,8,8,8,8,8,8,8,8,8,8,8,8,8,8,8,8,8,8,8,8,8,8,8,8,8,8,8,8,8,8,8,8,8,8,8,8,8,8,8,8,8,8,8,8,8,8,8,8,8,8,8,8,8,8,8,8,8,8,8,8,8,8,8,8,8,8,8,8,8,8,8,8,8,8,8,8,8,8,8,8,8,8,8,8,8,8,8,8,8,8,8,8,8,8,8,8,8,8,8,8,8]⟩:ByteArray)[((n:Nat):Int).toNat]? =some (UInt8.ofNat (gP n)):=by
 have:∀n,n<256->(⟨#[0,1,2,2,3,3,3,3,4,4,4,4,4,4,4,4,5,5,5,5,5,5,5,5,5,5,5,5,5,5,5,5,6,6,6,6,6,6,6,6,6,6,6,6,6,6,6,6,6,6,6,6,6,6,6,6,6,6,6,6,6,6,6,6,7,7,7,7,7,7,7,7,7,7,7,7,7,7,7,7,7,7,7,7,7,7,7,7,7,7,7,7,7,7,7,7,7,7,7,7,7,7,7,7,7,7,7,7,7,7,7,7,7,7,7,7,7,7,7,7,7,7,7,7,7,7,7,7,8,8,8,8,8,8,8,8,8,8,8,8,8,8,8,8,8,8,8,8,8,8,8,8,8,8,8,8,8,8,8,8,8,8,8,8,8,8,8,8,8,8,8,8,8,8,8,8,8,8,8,8,8,8,8,8,8,8,8,8,8,8,8,8,8,8,8,8,8,8,8,8,8,8,8,8,8,8,8,8,8,8,8,8,8,8,8,8,8,8,8,8,8,8,8,8,8,8,8,8,8,8,8,8,8,8,8,8,8,8,8,8,8,8,8,8,8,8,8,8,8,8,8,8,8,8,8,8]⟩:ByteArray)[n]? =some (UInt8.ofNat (gP n)):=by decide +kernel
 exact this n h
theorem MK(x:Nat)(w:World)(hx:x<4294967296):dx PG N.zP #[.int .u32 x] w (eH w fun v _=>v= .int .i64 (gP x)):=by
 refine Af (by simp) ?_;refine dB.mk ?_ ?_<;>intro h
 ·have h:65536<=x:=by have:=aK h;omega
  refine⟨by decide,((x / 2^16:Nat):Int),oM 16 (by decide),?_⟩;have hb:=zf (k:=16) h;have hy:x / 2^16<65536:=by omega
  rw[hb];generalize x / 2^16=y at*
  refine dB.mk ?_ ?_<;>intro h2
  ·have h2:256<=y:=by have:=aK h2;omega
   refine⟨by decide,((y / 2^8:Nat):Int),oM 8 (by decide),?_⟩;have Qn:=zf (k:=8) h2;have hz:y / 2^8<256:=by omega
   rw[Qn];generalize y / 2^8=z at*
   refine⟨24,by decide,(z:Int),xl hz,?_⟩;refine qZ (b:=UInt8.ofNat (gP z)) ((hτ _ _ rfl).i3 rfl) rfl rfl (by omega) (H2 z hz) (fun ρ1 w1 r1=>?_);rw[xm hz];have ht:=oL hz;refine⟨(gP z:Int),wo,((24+gP z:Nat):Int),wo,?_⟩;intro ρ3 w3 r3;exact⟨_,rfl,r1.cL.tr r3.cL,by rw[<-Nat.add_assoc];rfl⟩
  ·have hy:y<256:=by have:=aH h2;omega
   refine⟨(y:Int),xl hy,?_⟩;refine qZ (b:=UInt8.ofNat (gP y)) ((hτ _ _ rfl).i3 rfl) rfl rfl (by omega) (H2 y hy) (fun ρ1 w1 r1=>?_);rw[xm hy];have ht:=oL hy;refine⟨(gP y:Int),wo,((16+gP y:Nat):Int),wo,?_⟩;intro ρ3 w3 r3;exact⟨_,rfl,r1.cL.tr r3.cL,by rfl⟩
 ·have h:x<65536:=by have:=aH h;omega
  refine dB.mk ?_ ?_<;>intro h2
  ·have h2:256<=x:=by have:=aK h2;omega
   refine⟨by decide,((x / 2^8:Nat):Int),oM 8 (by decide),?_⟩;have Qn:=zf (k:=8) h2;have hz:x / 2^8<256:=by omega
   rw[Qn];generalize x / 2^8=z at*
   refine⟨8,by decide,(z:Int),xl hz,?_⟩;refine qZ (b:=UInt8.ofNat (gP z)) ((hτ _ _ rfl).i3 rfl) rfl rfl (by omega) (H2 z hz) (fun ρ1 w1 r1=>?_);rw[xm hz];have ht:=oL hz;refine⟨(gP z:Int),wo,((8+gP z:Nat):Int),wo,?_⟩;intro ρ3 w3 r3;exact⟨_,rfl,r1.cL.tr r3.cL,by rfl⟩
  ·have hx:x<256:=by have:=aH h2;omega
   refine⟨(x:Int),xl hx,?_⟩;refine qZ (b:=UInt8.ofNat (gP x)) ((hτ _ _ rfl).i3 rfl) rfl rfl (by omega) (H2 x hx) (fun ρ1 w1 r1=>?_);rw[xm hx];have ht:=oL hx;refine⟨(gP x:Int),wo,((0+gP x:Nat):Int),wo,?_⟩;intro ρ3 w3 r3;exact⟨_,rfl,r1.cL.tr r3.cL,by rw[aV];rfl⟩
theorem x9{x:Nat}:gP x<=k↔x<2^k:=by
 unfold gP;by_cases h:x=0
 ·rw[if_pos h,h];exact⟨fun _=>bo k,fun _=>aS _⟩
 ·rw[aI h];constructor
  ·intro h1;exact(Nat.log2_lt h).1 (by omega)
  ·intro h1;have:=(Nat.log2_lt h).2 h1;omega
theorem Nb(x:Nat)(w:World)(hx:x<4294967296):dx PG N.kX #[.int .u32 x] w (eH w fun v _=>v= .int .i64 ((32-gP x:Nat):Int)):=by
 refine oK (by simp) ?_;refine cB (cI (Φ:=fun _ _ v _=>v= .int .i64 (gP x)) (fun O w' r=>MK x w' hx) ?_);rintro O w' v w2 r he hb rfl;have h32:gP x<=32:=x9.2 hx;refine⟨((32-gP x:Nat):Int),wo,?_⟩;intro ρ3 w3 r3;exact⟨_,rfl,hb.tr r3.cL,rfl⟩
end Go.Ex
namespace Go.Sx
open Go Go.Ex Go.Proofs
variable{ls:List Nat}{O:Nat->Sx.dL}
theorem Rel.KY{H:Hp}{nx:Nat}{iv:Iv}{B:Nat}{w w':World}(r:Rel H nx iv B w O w'){id t m:Nat}(h:cV H id=some (.vec t 1 (U ls)))(hm:m=ls.length)(PN:Lm ls)(hle:ls.length<=9223372036854775807):
  cz w' (fun g=>B<=g∧g<w'.heap.size) ((At.w id m).den O) ls:=by
 subst hm;rcases r.vec id t 1 _ h with⟨hn,hu⟩|⟨hn,spare,hb,hc,QF⟩
 ·have hl:ls=[]:=by cases ls with
   |nil=>rfl
   |cons a b=>simp[U]at hu
  subst hl;have:(At.w id ([]:List Nat).length).den O= .slice none 0 0:=by simp[At.den,hn]
  rw[this];exact cz.nil _ _
 ·refine⟨PN,hle,some ⟨(O id).g,0,none⟩,(O id).cap,by simp[At.den,hn],?_,fun j x hx=>⟨_,rfl,r.low id _ h hn,?_⟩⟩
  ·have h1:(U ls++spare).length=ls.length+spare.length:=by rw[List.length_append,gF]
   omega
  ·rw[dA,cell_of hb,aV,aJ (by rw[gF];exact(aD.1 hx).1)];exact uF hx
end Go.Sx
namespace Go.Ex
open Go Go.Sx Go.Proofs
variable{ls:List Nat}{S:Nat->Prop}
theorem ML:PG.underlying T.nat=some (.slice T.uint32):=by
 have h:=(hτ T.nat _ rfl).i4 rfl;exact h
theorem H3{w:World}{v:Value}(hS:Old S w)(h:cz w S v ls)(hl:ls.length<=1000000000000):
  dx PG N.ff #[v] w (eH w fun v' w2=>cz w2 (Nf w w2) v' ls):=by
 obtain⟨x,rfl,rfl⟩:=h.la;refine ie (by simp) ?_;refine⟨x.a.isNone,fun O w1 o1 o2=>by simp[eqGuard,SV.den,At.den,jm (P:=PG) w1 T.nat T.uint32 x.a x.ls.length x.c 0 0 ML],?_⟩;refine dB.mk ?_ ?_<;>intro h
 ·intro ρ3 w3 r3;have hn:x.ls=[]:=by
   cases hx:x.ls with
   |nil=>rfl
   |cons u r=>
    obtain⟨ad,h1,_⟩:=x.cell 0 u (by rw[hx];rfl);rw[h1]at h;simp at h
  exact⟨_,rfl,r3.cL,by rw[hn];exact cz.nil _ _⟩
 ·refine .inl ?_;refine⟨U x.ls,by rw[gF,aY],fun u hu=>by simp only[U,aR]at hu;obtain⟨n,_,rfl⟩:=hu;rfl,fun O w1 r h0=>?_,?_⟩
  ·obtain⟨u,hu⟩:∃q,x.ls[0]? =some q:=⟨_,aB h0⟩
   obtain⟨ad,Om,_⟩:=x.cell 0 u hu;refine⟨ad,Om,fun j u hu=>?_⟩;simp only[U,aM,Option.map_eq_some_iff]at hu;obtain⟨n,hn,rfl⟩:=hu;obtain⟨ad2,PZ,hs,hc⟩:=x.cell j n hn;rw[Om]at PZ;injection PZ with PZ;subst PZ;exact jl hS dT.refl r hs hc
  refine⟨rfl,by omega,by unfold maxLen;omega,?_⟩;intro ρ3 w3 r3;exact⟨_,rfl,r3.cL,(r3.KY (id:=1) rfl (aV _) x.lm x.le).cF fun g hg=>.inr hg⟩
end Go.Ex
