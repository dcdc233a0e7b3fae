/- A part of the proof: texts L1 to X10. Each tells its conditions in its theorems. -/
import Derived.WalkKit
import Derived.KernelRfl
import Derived.Test.YtkdcaknoaeicdaaGreatProg
import Derived.Test.YtkdcaknoaeicdaaGreatP2
import Derived.Test.YtkdcaknoaeicdaaGreatP0
namespace Go.Ex
variable{a b ls:List Nat}{k:Nat}
def val:List Nat->Nat
 |[]=>0
 |x::r=>x+4294967296*val r
def Lm(ls:List Nat):Prop:=∀x∈ls,x<4294967296
def wt(k:Nat):Nat:=4294967296^k
theorem ij:wt 0=1:=rfl
theorem iI(k:Nat):wt (k+1)=4294967296*wt k:=by rw[wt,Nat.pow_succ,bN];rfl
theorem Ai(a b:Nat):wt (a+b)=wt a*wt b:=by rw[wt,Nat.pow_add];rfl
theorem wx(k:Nat):0<wt k:=Nat.pow_pos (by decide)
theorem kR(a b:List Nat):val (a++b)=val a+wt a.length*val b:=by
 induction a with
 |nil=>simp[val,ij]
 |cons x r ih=>
  rw[List.cons_append,val,val,ih,List.length_cons,iI,bP,bZ];omega
theorem mj(h:Lm ls):val ls<wt ls.length:=by
 induction ls with
 |nil=>exact Nat.one_pos
 |cons x r ih=>
  have h1:=h x (by simp);have h2:=ih (fun y hy=>h y (by simp[hy]));rw[val,List.length_cons,iI];have:4294967296*(val r+1)<=4294967296*wt r.length:=bW _ h2;omega
theorem eR(ls:List Nat)(k:Nat)(h:k<=ls.length):val ls=val (ls.take k)+wt k*val (ls.drop k):=by
 have:=kR (ls.take k) (ls.drop k);rw[List.take_append_drop,aW,Nat.min_eq_left h]at this;exact this
theorem dP{x:Nat}(h:ls[k]? =some x):val (ls.take (k+1))=val (ls.take k)+wt k*x:=by
 have hk:=(aC.1 h).1;rw[List.take_add_one,h,kR,aW,Nat.min_eq_left (by omega)];simp[val]
theorem iW{x:Nat}(h:ls[k]? =some x):val (ls.drop k)=x+4294967296*val (ls.drop (k+1)):=by
 obtain⟨hk,hx⟩:=aC.1 h;rw[List.drop_eq_getElem_cons hk,hx,val]
theorem wC{o x:Nat}(h:ls[k]? =some o):val (ls.set k x)+wt k*o=val ls+wt k*x:=by
 obtain⟨hk,ho⟩:=aC.1 h;have h1:=eR ls k (by omega);have h2:=eR (ls.set k x) k (by simp;omega);rw[List.take_set_of_le (aE _)]at h2;rw[iW h,bP]at h1;have h3:(ls.set k x)[k]? =some x:=by rw[aT hk]
 rw[iW h3,List.drop_set_of_lt (by omega),bP]at h2;omega
theorem l8(n:Nat):val (List.replicate n 0)=0:=by
 induction n with
 |zero=>rfl
 |succ n ih=>rw[List.replicate_succ,val,ih]
theorem Lm.set{x:Nat}(h:Lm ls)(hx:x<4294967296):Lm (ls.set k x):=fun y hy=>by
 rcases bU hy with h1|rfl
 ·exact h y h1
 ·exact hx
theorem Lm.replicate(n:Nat):Lm (List.replicate n 0):=fun x hx=>by rw[List.mem_replicate]at hx;omega
theorem Lm.take(h:Lm ls)(k:Nat):Lm (ls.take k):=fun x hx=>h x (List.mem_of_mem_take hx)
theorem Lm.drop(h:Lm ls)(k:Nat):Lm (ls.drop k):=fun x hx=>h x (List.mem_of_mem_drop hx)
theorem Lm.append(ha:Lm a)(hb:Lm b):Lm (a++b):=fun x hx=>by
 rcases bK.1 hx with h|h
 ·exact ha x h
 ·exact hb x h
theorem Lm.at(h:Lm ls){x:Nat}(hx:ls[k]? =some x):x<4294967296:=h x (aD hx)
def dT:List Nat->List Nat
 |[]=>[]
 |x::r=>match dT r with
  |[]=>if x=0 then []else [x]
  |y::t=>x::y::t
def Nz(ls:List Nat):Prop:=∀x,ls.getLast? =some x->x≠0
theorem jm(ls:List Nat):dT (ls++[0])=dT ls:=by
 induction ls with
 |nil=>rfl
 |cons x r ih=>rw[List.cons_append,dT,ih,dT]
theorem ml(ls:List Nat){x:Nat}(hx:x≠0):dT (ls++[x])=ls++[x]:=by
 induction ls with
 |nil=>simp[dT,hx]
 |cons y r ih=>
  rw[List.cons_append,dT,ih]
  cases r<;>rfl
theorem qY(ls:List Nat):ls=[]∨∃a x,ls=a++[x]:=by
 rcases List.eq_nil_or_concat ls with h|⟨a,x,h⟩
 ·exact .inl h
 ·exact .inr ⟨a,x,by simpa using h⟩
theorem eW(ls:List Nat):val (dT ls)=val ls∧Nz (dT ls)∧∃k,k<=ls.length∧dT ls=ls.take k:=by
 have key:∀(n:Nat) (ls:List Nat),ls.length=n->val (dT ls)=val ls∧Nz (dT ls)∧∃k,k<=ls.length∧dT ls=ls.take k:=by
  intro n
  induction n with
  |zero=>intro ls h;have:ls=[]:=List.eq_nil_of_length_eq_zero h;subst this;exact⟨rfl,by simp[Nz,dT],0,aE _,rfl⟩
  |succ n ih=>
   intro ls h;rcases qY ls with rfl|⟨a,x,rfl⟩
   ·simp at h
   ·by_cases hx:x=0
    ·subst hx;rw[jm];obtain⟨h1,h2,k,h3,h4⟩:=ih a (by simp at h;omega);refine⟨by rw[h1,kR];simp[val],h2,k,by simp;omega,?_⟩;rw[h4,List.take_append_of_le_length h3]
    ·rw[ml a hx];refine⟨rfl,?_,_,aE _,by rw[bF]⟩;intro y hy;simp at hy;subst hy;exact hx
 exact key _ ls rfl
theorem By(h:Nz ls):dT ls=ls:=by
 rcases qY ls with rfl|⟨a,x,rfl⟩
 ·rfl
 ·exact ml a (h x (by simp))
theorem pr(h:Nz ls)(hne:ls≠[]):wt (ls.length-1)<=val ls:=by
 rcases qY ls with rfl|⟨a,x,rfl⟩
 ·exact absurd rfl hne
 ·have hx:=h x (by simp);rw[kR];simp only[val,List.length_append,List.length_singleton,Nat.add_sub_cancel]
  have:wt a.length*1<=wt a.length*(x+4294967296*0):=bW _ (by omega);omega
theorem val_inj:∀{a b:List Nat},Lm a->Lm b->a.length=b.length->val a=val b->a=b
 |[],[],_,_,_,_=>rfl
 |x::r,y::s,ha,hb,hl,h=>by
  have h1:=ha x (by simp);have h2:=hb y (by simp);rw[val,val]at h;have h3:x=y:=by omega
  have h4:val r=val s:=by omega
  rw[h3,val_inj (fun z hz=>ha z (by simp[hz])) (fun z hz=>hb z (by simp[hz])) (by simpa using hl) h4]
 |[],_::_,_,_,h,_=>by simp at h
 |_::_,[],_,_,h,_=>by simp at h
theorem zo{a b:Nat}(h:a<=b):wt a<=wt b:=Nat.pow_le_pow_right (by decide) h
theorem Gi{a b:Nat}(h:a<b):wt a<wt b:=Nat.pow_lt_pow_right (by decide) h
theorem iJ(ha:Lm a)(hb:Nz b)(h:a.length<b.length):val a<val b:=by
 have h1:=mj ha;have h2:=pr hb (by intro e;rw[e]at h;simp at h);have:=zo (show a.length<=b.length-1 by omega);omega
def ln(n:Nat):Nat:=if n=0 then 0 else n.log2 / 32+1
theorem tI(k:Nat):wt k=2^(32*k):=by rw[wt,show(4294967296:Nat)=2^32 from rfl,<-Nat.pow_mul]
theorem fo{n k:Nat}:ln n<=k↔n<wt k:=by
 unfold ln;by_cases h:n=0
 ·rw[if_pos h,h];exact⟨fun _=>wx k,fun _=>aP _⟩
 ·rw[aF h,tI];constructor
  ·intro h1;have:n.log2<32*k:=by omega
   exact(Nat.log2_lt h).1 this
  ·intro h1;have:=(Nat.log2_lt h).2 h1;omega
theorem kT(n:Nat):n<wt (ln n):=fo.1 (aE _)
theorem ee{a b:Nat}(h:a<=b):ln a<=ln b:=fo.2 (Nat.lt_of_le_of_lt h (kT b))
theorem Ju(a b:Nat):ln (a+b)<=max (ln a) (ln b)+1:=by
 rw[fo,iI];have h1:=Nat.lt_of_lt_of_le (kT a) (zo (Nat.le_max_left (ln a) (ln b)));have h2:=Nat.lt_of_lt_of_le (kT b) (zo (Nat.le_max_right (ln a) (ln b)));omega
theorem Jv(a b:Nat):ln (a*b)<=ln a+ln b:=by
 rw[fo,Ai];exact Nat.mul_lt_mul'' (kT a) (kT b)
theorem Ij:ln 0=0:=rfl
theorem dy(h:Lm ls)(hz:Nz ls):ls.length=ln (val ls):=by
 by_cases hne:ls=[]
 ·subst hne;rfl
 ·have h1:=mj h;have h2:=pr hz hne;have h3:=fo.2 h1;have h4:¬ln (val ls)<=ls.length-1:=fun hh=>by have:=fo.1 hh;omega
  omega
end Go.Ex
namespace Go.Ex
open Go Go.Sx
variable{ls:List Nat}{g n:Nat}{p:Nat×Nat}{v:Value}
def Cv(S:Nat->Prop)(B:Nat)(iv:Iv)(g:Nat):Prop:=S g∨(B<=g∧∃lo hi,(lo,hi)∈iv∧lo<=g∧g<hi)
def Nw(S:Nat->Prop)(w w2:World)(g:Nat):Prop:=S g∨(w.heap.size<=g∧g<w2.heap.size)
def Old(S:Nat->Prop)(w:World):Prop:=∀g,S g->g<w.heap.size
section
variable{S S':Nat->Prop}{H:Hp}{nx:Nat}{iv iv':Iv}{B:Nat}{w w' w2:World}{O:Nat->dU}
theorem Cv.mono(h:Cv S B iv g)(k:∀p,p∈iv->p∈iv'):Cv S B iv' g:=by
 rcases h with h|⟨h0,lo,hi,h1,h2⟩
 ·exact .inl h
 ·exact .inr ⟨h0,lo,hi,k _ h1,h2⟩
theorem Cv.cons(h:Cv S B iv g):Cv S B (p::iv) g:=h.mono fun q hq=>by simp[hq]
theorem Rel.old(r:Rel H nx iv B w O w')(hS:∀g,S g->g<B):Old (Cv S B iv) w':=by
 intro g h;rcases h with h|⟨_,lo,hi,h1,_,h3⟩
 ·have:=hS g h;have:=r.base;have:=r.size;omega
 ·have:=r.rG lo hi h1;have:=r.size;omega
theorem Rel.same(r:Rel H nx iv B w O w')(hS:∀g,S g->g<B)(h:Cv S B iv g):w'.heap[g]? =w.heap[g]? :=by
 rcases h with h|⟨_,lo,hi,h1,h2,h3⟩
 ·have:=hS g h;exact r.sw g (by have:=r.base;omega) fun id b hb hn he=>by have:=(r.low id b hb hn).1;omega
 ·exact r.sw g (by have:=r.rG lo hi h1;omega) fun id b hb hn he=>r.jy lo hi h1 id b hb hn ⟨by omega,by omega⟩
theorem Rel.not(r:Rel H nx iv B w O w')(hS:∀g,S g->g<B)(h:Cv S B iv g):∀id b,cY H id=some b->(O id).nil=false->(O id).g≠g:=by
 rcases h with h|⟨_,lo,hi,h1,h2,h3⟩
 ·have:=hS g h;exact fun id b hb hn he=>by have:=(r.low id b hb hn).1;omega
 ·exact fun id b hb hn he=>r.jy lo hi h1 id b hb hn ⟨by omega,by omega⟩
theorem Nw.cv{w1:World}(h:Nw (Cv S B iv) w' w1 g)(hB:B<=w'.heap.size):Cv S B ((w'.heap.size,w1.heap.size)::iv) g:=by
 rcases h with h|h
 ·exact h.cons
 ·exact .inr ⟨by omega,_,_,aI,h.1,h.2⟩
theorem Cv.nw{w0:World}(h:Cv S w0.heap.size iv g)(r:Rel H nx iv w0.heap.size w O w'):Nw S w0 w' g:=by
 rcases h with h|⟨h0,lo,hi,h1,_,h3⟩
 ·exact .inl h
 ·exact .inr ⟨h0,by have:=r.rG lo hi h1;have:=r.size;omega⟩
structure dA(w:World)(S:Nat->Prop)(v:Value)(ls:List Nat):Prop where
 lm:Lm ls
 le:ls.length<=9223372036854775807
 sl:∃a c,v= .slice a ls.length c∧ls.length<=c∧∀(j:Nat) x,ls[j]? =some x->∃ad,a=some ad∧S ad.block∧w.cell? (ad.add j)=some (.int .u32 x)
theorem dq(ad:Addr)(j:Nat):(ad.add j).block=ad.block:=by
 unfold Addr.add;split<;>rfl
theorem dA.cB(h:dA w S v ls)(hk:∀g,S g->w2.heap[g]? =w.heap[g]?):dA w2 S v ls:=by
 obtain⟨a,c,h1,hlc,h2⟩:=h.sl;refine⟨h.lm,h.le,a,c,h1,hlc,fun j x hx=>?_⟩;obtain⟨ad,h3,h4,h5⟩:=h2 j x hx;exact⟨ad,h3,h4,by rw[cJ (hk _ (by rw[dq];exact h4))];exact h5⟩
theorem dA.cC(h:dA w S v ls)(hk:∀g,S g->S' g):dA w S' v ls:=by
 obtain⟨a,c,h1,hlc,h2⟩:=h.sl;refine⟨h.lm,h.le,a,c,h1,hlc,fun j x hx=>?_⟩;obtain⟨ad,h3,h4,h5⟩:=h2 j x hx;exact⟨ad,h3,hk _ h4,h5⟩
theorem dA.rel(h:dA w (Cv S B iv) v ls)(r:Rel H nx iv B w O w')(hS:∀g,S g->g<B):dA w' (Cv S B iv) v ls:=h.cB fun _g hg=>Rel.same r hS hg
theorem dA.nil(w:World)(S:Nat->Prop):dA w S (.slice none 0 0) []:=⟨by simp[Lm],by simp,none,0,rfl,aE _,by simp⟩
def dV(w:World)(S:Nat->Prop)(v:Value)(n:Nat):Prop:=∃ls,dA w S v ls∧Nz ls∧val ls=n
theorem dV.cB(h:dV w S v n)(hk:∀g,S g->w2.heap[g]? =w.heap[g]?):dV w2 S v n:=by
 obtain⟨ls,h1,h2,h3⟩:=h;exact⟨ls,h1.cB hk,h2,h3⟩
theorem dV.cC(h:dV w S v n)(hk:∀g,S g->S' g):dV w S' v n:=by
 obtain⟨ls,h1,h2,h3⟩:=h;exact⟨ls,h1.cC hk,h2,h3⟩
theorem dV.nil(w:World)(S:Nat->Prop):dV w S (.slice none 0 0) 0:=⟨[],dA.nil w S,by simp[Nz],rfl⟩
end
abbrev Nf(w w2:World):Nat->Prop:=Nw (fun _=>False) w w2
abbrev Cf(w:World):Iv->Nat->Prop:=Cv (fun _=>False) w.heap.size
section
variable{S:Nat->Prop}{H:Hp}{nx:Nat}{iv:Iv}{B i n:Nat}{w w1 w':World}{O:Nat->Sx.dU}{ad:Addr}{cs:List Value}{x:Value}
theorem kS(hw:cQ B w w1)(r:Rel H nx iv B w1 O w')(hS:∀g,S g->g<B):∀g,S g->w'.heap[g]? =w.heap[g]? :=fun g hg=>(hw.tr r.cI).block g (hS g hg)
theorem oS(hS:∀g,S g->g<B)(r:Rel H nx iv B w O w'):∀g,S g->g<w'.heap.size:=fun g hg=>by have:=hS g hg;have:=r.base;have:=r.size;omega
theorem rdO(hl:∀(j:Nat) u,cs[j]? =some u->S ad.block∧w.cell? ((ad.add (i*n)).add j)=some u)(hw:cQ B w w1)(hS:∀g,S g->g<B):∀O w',Rel H nx iv B w1 O w'->∀(j:Nat) u,cs[j]? =some u->w'.cell? ((ad.add ((i:Int).toNat*n)).add j)=some u:=fun O w' r j u hu=>by
 obtain⟨k1,k2⟩:=hl j u hu;rw[aJ,cJ (w:=w) (w2:=w') (by rw[dq,dq];exact(hw.tr r.cI).block _ (hS _ k1))];exact k2
theorem rd1(hl:w.cell? (ad.add (i*n))=some x)(hw:cQ B w w1)(hb:ad.block<B):∀O w',Rel H nx iv B w1 O w'->w'.cell? (ad.add ((i:Int).toNat*n))=some x:=fun O w' r=>by
 rw[aJ,cJ (w:=w) (w2:=w') (by rw[dq];exact(hw.tr r.cI).block _ hb)];exact hl
end
end Go.Ex
namespace Go.Ex
open Go Go.Sx Go.Proofs
variable{args:Array Value}{R:Ending->World->Prop}{ls:List Nat}{k n:Nat}{S:Nat->Prop}{O:Nat->Sx.dU}{v:Value}{w:World}
noncomputable abbrev PG:Program:=Tryz.prog
def slT(e:Nat):TI:={size:=1,bytes:=24,zero:=[.slice none 0 0],agg:=false,tag:=4,elem:=e}
def Ko:List (Nat×TI):=[
 (3,{size:=1,bytes:=8,zero:=[.int .i64 0],agg:=false,tag:=1,ik:=.i64}),
 (4,{size:=1,bytes:=1,zero:=[.bool false],agg:=false,tag:=2}),
 (47,{size:=4,bytes:=64,zero:=[.bool false,.slice none 0 0,.bool false,.slice none 0 0],agg:=true,tag:=5,fields:=[(0,45),(2,45)]}),
 (31,slT 47),
 (26,{size:=3,bytes:=72,zero:=[.slice none 0 0,.slice none 0 0,.slice none 0 0],agg:=true,tag:=5,fields:=[(0,22),(1,23),(2,24)]}),
 (32,{size:=1,bytes:=8,zero:=[.int .i64 0],agg:=false,tag:=1,ik:=.i64}),
 (92,slT 3),
 (45,{size:=2,bytes:=32,zero:=[.bool false,.slice none 0 0],agg:=true,tag:=5,fields:=[(0,4),(1,43)]}),
 (226,slT 220),
 (53,slT 31),
 (220,{size:=1,bytes:=4,zero:=[.int .u32 0],agg:=false,tag:=1,ik:=.u32}),
 (27,slT 147),
 (228,{size:=2,bytes:=32,zero:=[.bool false,.slice none 0 0],agg:=true,tag:=5,fields:=[(0,4),(1,226)]}),
 (253,{size:=1,bytes:=8,zero:=[.int .u64 0],agg:=false,tag:=1,ik:=.u64}),
 (151,{size:=2,bytes:=32,zero:=[.slice none 0 0,.int .i64 0],agg:=true,tag:=5,fields:=[(0,53),(1,3)]}),
 (79,slT 84),
 (230,{size:=4,bytes:=64,zero:=[.bool false,.slice none 0 0,.bool false,.slice none 0 0],agg:=true,tag:=5,fields:=[(0,228),(2,228)]}),
 (23,slT 143),
 (98,slT 123),
 (147,{size:=4,bytes:=32,zero:=[.int .i64 0,.int .i64 0,.int .i64 0,.int .i64 0],agg:=true,tag:=5,fields:=[(0,3),(1,3),(2,3),(3,3)]}),
 (91,slT 27),
 (22,slT 169),
 (64,slT 92),
 (24,slT 145),
 (43,slT 220),
 (169,{size:=3,bytes:=24,zero:=[.int .i64 0,.int .i64 0,.int .i64 0],agg:=true,tag:=5,fields:=[(0,3),(1,3),(2,3)]}),
 (143,{size:=6,bytes:=80,zero:=[.int .i64 0,.int .i64 0,.bool false,.slice none 0 0,.bool false,.slice none 0 0],agg:=true,tag:=5,fields:=[(0,3),(1,3),(2,47)]}),
 (123,{size:=8,bytes:=128,zero:=[.bool false,.slice none 0 0,.bool false,.slice none 0 0,.bool false,.slice none 0 0,.bool false,.slice none 0 0],agg:=true,tag:=5,fields:=[(0,47),(4,47)]}),
 (84,{size:=8,bytes:=128,zero:=[.bool false,.slice none 0 0,.bool false,.slice none 0 0,.bool false,.slice none 0 0,.bool false,.slice none 0 0],agg:=true,tag:=5,fields:=[(0,47),(4,47)]}),
 (154,{size:=4,bytes:=80,zero:=[.slice none 0 0,.int .i64 0,.slice none 0 0,.slice none 0 0],agg:=true,tag:=5,fields:=[(0,151),(2,92),(3,92)]}),
 (68,{size:=3,bytes:=24,zero:=[.int .i64 0,.int .i64 0,.int .i64 0],agg:=true,tag:=5,fields:=[(0,3),(1,3),(2,3)]}),
 (145,{size:=6,bytes:=80,zero:=[.int .i64 0,.int .i64 0,.bool false,.slice none 0 0,.bool false,.slice none 0 0],agg:=true,tag:=5,fields:=[(0,3),(1,3),(2,47)]}),
 (189,{size:=3,bytes:=24,zero:=[.int .i64 0,.int .i64 0,.int .i64 0],agg:=true,tag:=6,yw:=3,elem:=3}),
 (125,{size:=10,bytes:=176,zero:=[.bool false,.slice none 0 0,.bool false,.slice none 0 0,.bool false,.slice none 0 0,.bool false,.slice none 0 0,.slice none 0 0,.slice none 0 0],agg:=true,tag:=5,fields:=[(0,123),(8,92),(9,92)]}),
 (115,slT 125),
 (106,{size:=3,bytes:=56,zero:=[.int .i64 0,.slice none 0 0,.slice none 0 0],agg:=true,tag:=5,fields:=[(0,3),(1,31),(2,31)]}),
 (254,{size:=1,bytes:=8,zero:=[.int .u64 0],agg:=false,tag:=1,ik:=.u64}),
 (187,{size:=2,bytes:=16,zero:=[.int .i64 0,.int .i64 0],agg:=true,tag:=5,fields:=[(0,3),(1,3)]}),
 (185,{size:=1,bytes:=8,zero:=[.map none],agg:=false,tag:=0}),
 (87,{size:=2,bytes:=48,zero:=[.slice none 0 0,.slice none 0 0],agg:=true,tag:=6,yw:=2,elem:=27}),
 (130,{size:=2,bytes:=48,zero:=[.slice none 0 0,.slice none 0 0],agg:=true,tag:=5,fields:=[(0,92),(1,79)]}),
 (9,{size:=1,bytes:=16,zero:=[.string ⟨#[]⟩],agg:=false,tag:=3}),
 (204,{size:=1,bytes:=8,zero:=[.pointer none],agg:=false,tag:=7}),
 (224,slT 4),
 (88,{size:=2,bytes:=16,zero:=[.int .i64 0,.int .i64 0],agg:=true,tag:=6,yw:=2,elem:=3}),
 (194,{size:=80,bytes:=640,zero:=[.int .i64 0,.int .i64 0,.int .i64 0,.int .i64 0,.int .i64 0,.int .i64 0,.int .i64 0,.int .i64 0,.int .i64 0,.int .i64 0,.int .i64 0,.int .i64 0,.int .i64 0,.int .i64 0,.int .i64 0,.int .i64 0,.int .i64 0,.int .i64 0,.int .i64 0,.int .i64 0,.int .i64 0,.int .i64 0,.int .i64 0,.int .i64 0,.int .i64 0,.int .i64 0,.int .i64 0,.int .i64 0,.int .i64 0,.int .i64 0,.int .i64 0,.int .i64 0,.int .i64 0,.int .i64 0,.int .i64 0,.int .i64 0,.int .i64 0,.int .i64 0,.int .i64 0,.int .i64 0,.int .i64 0,.int .i64 0,.int .i64 0,.int .i64 0,.int .i64 0,.int .i64 0,.int .i64 0,.int .i64 0,.int .i64 0,.int .i64 0,.int .i64 0,.int .i64 0,.int .i64 0,.int .i64 0,.int .i64 0,.int .i64 0,.int .i64 0,.int .i64 0,.int .i64 0,.int .i64 0,.int .i64 0,.int .i64 0,.int .i64 0,.int .i64 0,.int .i64 0,.int .i64 0,.int .i64 0,.int .i64 0,.int .i64 0,.int .i64 0,.int .i64 0,.int .i64 0,.int .i64 0,.int .i64 0,.int .i64 0,.int .i64 0,.int .i64 0,.int .i64 0,.int .i64 0,.int .i64 0],agg:=true,tag:=6,yw:=20,elem:=147}),
 (42,{size:=1,bytes:=8,zero:=[.nilFunc],agg:=false,tag:=0}),
 (195,{size:=1,bytes:=8,zero:=[.pointer none],agg:=false,tag:=7}),
 (199,{size:=1,bytes:=8,zero:=[.nilFunc],agg:=false,tag:=0}),
 (5,{size:=1,bytes:=1,zero:=[.int .u8 0],agg:=false,tag:=1,ik:=.u8}),
 (8,{size:=4,bytes:=24,zero:=[.int .i64 0,.int .i64 0,.bool false,.int .u8 0],agg:=true,tag:=5,fields:=[(0,2),(1,3),(2,4),(3,6)]}),
 (10,{size:=1,bytes:=16,zero:=[.string ⟨#[]⟩],agg:=false,tag:=3}),
 (11,{size:=1,bytes:=16,zero:=[.string ⟨#[]⟩],agg:=false,tag:=3}),
 (14,{size:=2,bytes:=24,zero:=[.string ⟨#[]⟩,.int .u64 0],agg:=true,tag:=5,fields:=[(0,9),(1,12)]}),
 (15,{size:=1,bytes:=8,zero:=[.pointer none],agg:=false,tag:=7}),
 (16,{size:=1,bytes:=8,zero:=[.pointer none],agg:=false,tag:=7}),
 (19,{size:=1,bytes:=8,zero:=[.pointer none],agg:=true,tag:=5,fields:=[(0,17)]}),
 (17,{size:=1,bytes:=8,zero:=[.pointer none],agg:=false,tag:=7}),
 (276,{size:=1,bytes:=1,zero:=[.int .u8 0],agg:=false,tag:=1,ik:=.u8}),
 (2,{size:=1,bytes:=8,zero:=[.int .i64 0],agg:=false,tag:=1,ik:=.i64}),
 (6,{size:=1,bytes:=1,zero:=[.int .u8 0],agg:=false,tag:=1,ik:=.u8}),
 (12,{size:=1,bytes:=8,zero:=[.int .u64 0],agg:=false,tag:=1,ik:=.u64})]
def τ:lu:=vo Ko
theorem hτ:fG PG τ:=Jo (l:=Ko) (by kernel_rfl)
theorem df:PG.follows .mixedOrders=true:=by rfl
noncomputable def bd (f:Func):Code:=match f.body with
 |some c=>c
 |none=>.skip
theorem dE{f:FuncId}{fn:Func}(hf:PG.funcs[f]? =some fn)(hb:fn.body=some (bd fn))(hnm:(fn.name== "runtime.NumGoroutine")=false)
  (hn:args.size<=fn.ntmps) (hok:codeOk fn.ntmps (bd fn)=true) (h:l5 PG τ w.heap.size (bd fn) (gM 0 args.toList) [] 0 [] w (Jt τ w.heap.size fn.results.toList R)):du PG f args w R:=
 ⟨FV hf hb hnm,Bx hτ hf hb hn hok h⟩
abbrev T.int:Nat:=3
abbrev T.bool:Nat:=4
abbrev T.string:Nat:=9
abbrev T.Frame:Nat:=26
abbrev T.jG:Nat:=31
abbrev T.Int:Nat:=45
abbrev T.Rat:Nat:=47
abbrev T.xt:Nat:=68
abbrev T.Lint:Nat:=92
abbrev T.LI:Nat:=143
abbrev T.wH:Nat:=145
abbrev T.xu:Nat:=147
abbrev T.dR:Nat:=151
abbrev T.dK:Nat:=154
abbrev T.Node:Nat:=169
abbrev T.vF:Nat:=185
abbrev T.As:Nat:=187
abbrev T.uint32:Nat:=220
abbrev T.nat:Nat:=226
abbrev T.number:Nat:=228
abbrev T.C3:Nat:=230
abbrev T.row:Nat:=0
abbrev N.lH:Nat:=8
abbrev N.oU:Nat:=15
abbrev N.AG:Nat:=16
abbrev N.uW:Nat:=17
abbrev N.mK:Nat:=18
abbrev N.nY:Nat:=19
abbrev N.oV:Nat:=21
abbrev N.oW:Nat:=22
abbrev N.uX:Nat:=23
abbrev N.uY:Nat:=25
abbrev N.xw:Nat:=26
abbrev N.oX:Nat:=27
abbrev N.mL:Nat:=29
abbrev N.uZ:Nat:=31
abbrev N.qi:Nat:=32
abbrev N.kH:Nat:=34
abbrev N.AH:Nat:=37
abbrev N.qA:Nat:=39
abbrev N.qB:Nat:=42
abbrev N.kZ:Nat:=43
abbrev N.oY:Nat:=53
abbrev N.u5:Nat:=69
abbrev N.qC:Nat:=72
abbrev N.AI:Nat:=74
abbrev N.qj:Nat:=75
abbrev N.C4:Nat:=76
abbrev N.qD:Nat:=80
abbrev N.u6:Nat:=81
abbrev N.sB:Nat:=82
abbrev N.nZ:Nat:=83
abbrev N.fE:Nat:=84
abbrev N.oZ:Nat:=85
abbrev N.o0:Nat:=86
abbrev N.ic:Nat:=87
abbrev N.iV:Nat:=88
abbrev N.o6:Nat:=89
abbrev N.sC:Nat:=90
abbrev N.o7:Nat:=91
abbrev N.qE:Nat:=92
abbrev N.u7:Nat:=98
abbrev N.u9:Nat:=99
abbrev N.sD:Nat:=100
abbrev N.lf:Nat:=101
abbrev N.sE:Nat:=103
abbrev N.sF:Nat:=106
abbrev N.xx:Nat:=108
abbrev N.ua:Nat:=109
abbrev N.sG:Nat:=110
abbrev N.AJ:Nat:=111
abbrev N.xy:Nat:=112
abbrev N.o8:Nat:=113
abbrev N.fq:Nat:=114
abbrev N.k5:Nat:=115
abbrev N.ew:Nat:=116
abbrev N.ub:Nat:=117
abbrev N.tZ:Nat:=118
abbrev N.k6:Nat:=119
abbrev N.sH:Nat:=132
abbrev N.ta:Nat:=139
abbrev N.jd:Nat:=140
abbrev N.qF:Nat:=141
abbrev N.sI:Nat:=142
abbrev N.uc:Nat:=143
abbrev N.sJ:Nat:=144
abbrev N.ud:Nat:=145
abbrev N.nD:Nat:=146
abbrev N.j8:Nat:=147
abbrev N.k7:Nat:=148
abbrev N.ue:Nat:=149
abbrev N.tc:Nat:=150
abbrev N.nE:Nat:=153
abbrev N.qG:Nat:=154
abbrev N.uf:Nat:=155
abbrev N.td:Nat:=159
abbrev N.lg:Nat:=161
abbrev N.C5:Nat:=162
abbrev N.fR:Nat:=163
abbrev N.ug:Nat:=164
abbrev N.k8:Nat:=165
abbrev N.lI:Nat:=166
abbrev N.te:Nat:=168
abbrev N.js:Nat:=174
abbrev N.jt:Nat:=175
abbrev N.uh:Nat:=176
abbrev N.sK:Nat:=177
abbrev N.xz:Nat:=178
abbrev N.yA:Nat:=179
abbrev N.AK:Nat:=180
abbrev N.qH:Nat:=181
abbrev N.sL:Nat:=182
abbrev N.sM:Nat:=183
abbrev N.je:Nat:=184
abbrev N.ui:Nat:=185
abbrev N.ju:Nat:=186
abbrev N.lJ:Nat:=187
abbrev N.yB:Nat:=188
abbrev N.lK:Nat:=189
abbrev N.uj:Nat:=190
abbrev N.yC:Nat:=191
abbrev N.k9:Nat:=192
abbrev N.mM:Nat:=193
abbrev N.jf:Nat:=194
abbrev N.lL:Nat:=195
abbrev N.lM:Nat:=196
abbrev N.lN:Nat:=197
abbrev N.kc:Nat:=198
abbrev N.sN:Nat:=199
abbrev N.mO:Nat:=200
abbrev N.n9:Nat:=201
abbrev N.o9:Nat:=202
abbrev N.qI:Nat:=203
abbrev N.nc:Nat:=204
abbrev N.fW:Nat:=205
abbrev N.nd:Nat:=206
abbrev N.jv:Nat:=207
abbrev N.lO:Nat:=208
abbrev N.nf:Nat:=209
abbrev N.oa:Nat:=210
abbrev N.yD:Nat:=211
abbrev N.yE:Nat:=212
abbrev N.yF:Nat:=213
abbrev N.oc:Nat:=214
abbrev Ent(g:Nat)(f:Func):Prop:=∀{args:Array Value} {w:World} {R:Ending->World->Prop},args.size<=f.ntmps->l5 PG τ w.heap.size (bd f) (gM 0 args.toList) [] 0 [] w (Jt τ w.heap.size f.results.toList R)->du PG g args w R
theorem od:Ent N.lH Tryz.f8:=fun hn h=>dE Tryz.func8 (by rfl) (by rfl) hn (by rfl) h
theorem yG:Ent N.oU Tryz.f15:=fun hn h=>dE Tryz.func15 (by rfl) (by rfl) hn (by rfl) h
theorem Au:Ent N.AG Tryz.f16:=fun hn h=>dE Tryz.func16 (by rfl) (by rfl) hn (by rfl) h
theorem yH:Ent N.uW Tryz.f17:=fun hn h=>dE Tryz.func17 (by rfl) (by rfl) hn (by rfl) h
theorem pg:Ent N.mK Tryz.f18:=fun hn h=>dE Tryz.func18 (by rfl) (by rfl) hn (by rfl) h
theorem qk:Ent N.nY Tryz.f19:=fun hn h=>dE Tryz.func19 (by rfl) (by rfl) hn (by rfl) h
theorem sO:Ent N.oV Tryz.f21:=fun hn h=>dE Tryz.func21 (by rfl) (by rfl) hn (by rfl) h
theorem sP:Ent N.oW Tryz.f22:=fun hn h=>dE Tryz.func22 (by rfl) (by rfl) hn (by rfl) h
theorem yI:Ent N.uX Tryz.f23:=fun hn h=>dE Tryz.func23 (by rfl) (by rfl) hn (by rfl) h
theorem yJ:Ent N.uY Tryz.f25:=fun hn h=>dE Tryz.func25 (by rfl) (by rfl) hn (by rfl) h
theorem zC:Ent N.xw Tryz.f26:=fun hn h=>dE Tryz.func26 (by rfl) (by rfl) hn (by rfl) h
theorem sQ:Ent N.oX Tryz.f27:=fun hn h=>dE Tryz.func27 (by rfl) (by rfl) hn (by rfl) h
theorem ph:Ent N.mL Tryz.f29:=fun hn h=>dE Tryz.func29 (by rfl) (by rfl) hn (by rfl) h
theorem yK:Ent N.uZ Tryz.f31:=fun hn h=>dE Tryz.func31 (by rfl) (by rfl) hn (by rfl) h
theorem zD:Ent N.qi Tryz.f32:=fun hn h=>dE Tryz.func32 (by rfl) (by rfl) hn (by rfl) h
theorem vG:Ent N.kH Tryz.f34:=fun hn h=>dE Tryz.func34 (by rfl) (by rfl) hn (by rfl) h
theorem Av:Ent N.AH Tryz.f37:=fun hn h=>dE Tryz.func37 (by rfl) (by rfl) hn (by rfl) h
theorem tf:Ent N.qA Tryz.f39:=fun hn h=>dE Tryz.func39 (by rfl) (by rfl) hn (by rfl) h
theorem th:Ent N.qB Tryz.f42:=fun hn h=>dE Tryz.func42 (by rfl) (by rfl) hn (by rfl) h
theorem ni:Ent N.kZ Tryz.f43:=fun hn h=>dE Tryz.func43 (by rfl) (by rfl) hn (by rfl) h
theorem sR:Ent N.oY Tryz.f53:=fun hn h=>dE Tryz.func53 (by rfl) (by rfl) hn (by rfl) h
theorem yL:Ent N.u5 Tryz.f69:=fun hn h=>dE Tryz.func69 (by rfl) (by rfl) hn (by rfl) h
theorem tj:Ent N.qC Tryz.f72:=fun hn h=>dE Tryz.func72 (by rfl) (by rfl) hn (by rfl) h
theorem Aw:Ent N.AI Tryz.f74:=fun hn h=>dE Tryz.func74 (by rfl) (by rfl) hn (by rfl) h
theorem qJ:Ent N.qj Tryz.f75:=fun hn h=>dE Tryz.func75 (by rfl) (by rfl) hn (by rfl) h
theorem C6:Ent N.C4 Tryz.f76:=fun hn h=>dE Tryz.func76 (by rfl) (by rfl) hn (by rfl) h
theorem tk:Ent N.qD Tryz.f80:=fun hn h=>dE Tryz.func80 (by rfl) (by rfl) hn (by rfl) h
theorem yM:Ent N.u6 Tryz.f81:=fun hn h=>dE Tryz.func81 (by rfl) (by rfl) hn (by rfl) h
theorem vH:Ent N.sB Tryz.f82:=fun hn h=>dE Tryz.func82 (by rfl) (by rfl) hn (by rfl) h
theorem ql:Ent N.nZ Tryz.f83:=fun hn h=>dE Tryz.func83 (by rfl) (by rfl) hn (by rfl) h
theorem jB:Ent N.fE Tryz.f84:=fun hn h=>dE Tryz.func84 (by rfl) (by rfl) hn (by rfl) h
theorem sS:Ent N.oZ Tryz.f85:=fun hn h=>dE Tryz.func85 (by rfl) (by rfl) hn (by rfl) h
theorem sT:Ent N.o0 Tryz.f86:=fun hn h=>dE Tryz.func86 (by rfl) (by rfl) hn (by rfl) h
theorem kI:Ent N.ic Tryz.f87:=fun hn h=>dE Tryz.func87 (by rfl) (by rfl) hn (by rfl) h
theorem nF:Ent N.iV Tryz.f88:=fun hn h=>dE Tryz.func88 (by rfl) (by rfl) hn (by rfl) h
theorem sU:Ent N.o6 Tryz.f89:=fun hn h=>dE Tryz.func89 (by rfl) (by rfl) hn (by rfl) h
theorem vI:Ent N.sC Tryz.f90:=fun hn h=>dE Tryz.func90 (by rfl) (by rfl) hn (by rfl) h
theorem sV:Ent N.o7 Tryz.f91:=fun hn h=>dE Tryz.func91 (by rfl) (by rfl) hn (by rfl) h
theorem tm:Ent N.qE Tryz.f92:=fun hn h=>dE Tryz.func92 (by rfl) (by rfl) hn (by rfl) h
theorem yN:Ent N.u7 Tryz.f98:=fun hn h=>dE Tryz.func98 (by rfl) (by rfl) hn (by rfl) h
theorem yO:Ent N.u9 Tryz.f99:=fun hn h=>dE Tryz.func99 (by rfl) (by rfl) hn (by rfl) h
theorem vJ:Ent N.sD Tryz.f100:=fun hn h=>dE Tryz.func100 (by rfl) (by rfl) hn (by rfl) h
theorem tn:Ent N.lf Tryz.f101:=fun hn h=>dE Tryz.func101 (by rfl) (by rfl) hn (by rfl) h
theorem vK:Ent N.sE Tryz.f103:=fun hn h=>dE Tryz.func103 (by rfl) (by rfl) hn (by rfl) h
theorem vL:Ent N.sF Tryz.f106:=fun hn h=>dE Tryz.func106 (by rfl) (by rfl) hn (by rfl) h
theorem zE:Ent N.xx Tryz.f108:=fun hn h=>dE Tryz.func108 (by rfl) (by rfl) hn (by rfl) h
theorem yP:Ent N.ua Tryz.f109:=fun hn h=>dE Tryz.func109 (by rfl) (by rfl) hn (by rfl) h
theorem vM:Ent N.sG Tryz.f110:=fun hn h=>dE Tryz.func110 (by rfl) (by rfl) hn (by rfl) h
theorem Ax:Ent N.AJ Tryz.f111:=fun hn h=>dE Tryz.func111 (by rfl) (by rfl) hn (by rfl) h
theorem zF:Ent N.xy Tryz.f112:=fun hn h=>dE Tryz.func112 (by rfl) (by rfl) hn (by rfl) h
theorem sW:Ent N.o8 Tryz.f113:=fun hn h=>dE Tryz.func113 (by rfl) (by rfl) hn (by rfl) h
theorem jC:Ent N.fq Tryz.f114:=fun hn h=>dE Tryz.func114 (by rfl) (by rfl) hn (by rfl) h
theorem lP:Ent N.k5 Tryz.f115:=fun hn h=>dE Tryz.func115 (by rfl) (by rfl) hn (by rfl) h
theorem gW:Ent N.ew Tryz.f116:=fun hn h=>dE Tryz.func116 (by rfl) (by rfl) hn (by rfl) h
theorem yQ:Ent N.ub Tryz.f117:=fun hn h=>dE Tryz.func117 (by rfl) (by rfl) hn (by rfl) h
theorem Ay:Ent N.tZ Tryz.f118:=fun hn h=>dE Tryz.func118 (by rfl) (by rfl) hn (by rfl) h
theorem nk:Ent N.k6 Tryz.f119:=fun hn h=>dE Tryz.func119 (by rfl) (by rfl) hn (by rfl) h
theorem vN:Ent N.sH Tryz.f132:=fun hn h=>dE Tryz.func132 (by rfl) (by rfl) hn (by rfl) h
theorem Az:Ent N.ta Tryz.f139:=fun hn h=>dE Tryz.func139 (by rfl) (by rfl) hn (by rfl) h
theorem mP:Ent N.jd Tryz.f140:=fun hn h=>dE Tryz.func140 (by rfl) (by rfl) hn (by rfl) h
theorem tp:Ent N.qF Tryz.f141:=fun hn h=>dE Tryz.func141 (by rfl) (by rfl) hn (by rfl) h
theorem vO:Ent N.sI Tryz.f142:=fun hn h=>dE Tryz.func142 (by rfl) (by rfl) hn (by rfl) h
theorem yR:Ent N.uc Tryz.f143:=fun hn h=>dE Tryz.func143 (by rfl) (by rfl) hn (by rfl) h
theorem vP:Ent N.sJ Tryz.f144:=fun hn h=>dE Tryz.func144 (by rfl) (by rfl) hn (by rfl) h
theorem yS:Ent N.ud Tryz.f145:=fun hn h=>dE Tryz.func145 (by rfl) (by rfl) hn (by rfl) h
theorem vQ:Ent N.nD Tryz.f146:=fun hn h=>dE Tryz.func146 (by rfl) (by rfl) hn (by rfl) h
theorem tq:Ent N.j8 Tryz.f147:=fun hn h=>dE Tryz.func147 (by rfl) (by rfl) hn (by rfl) h
theorem nm:Ent N.k7 Tryz.f148:=fun hn h=>dE Tryz.func148 (by rfl) (by rfl) hn (by rfl) h
theorem yT:Ent N.ue Tryz.f149:=fun hn h=>dE Tryz.func149 (by rfl) (by rfl) hn (by rfl) h
theorem BA:Ent N.tc Tryz.f150:=fun hn h=>dE Tryz.func150 (by rfl) (by rfl) hn (by rfl) h
theorem vR:Ent N.nE Tryz.f153:=fun hn h=>dE Tryz.func153 (by rfl) (by rfl) hn (by rfl) h
theorem tt:Ent N.qG Tryz.f154:=fun hn h=>dE Tryz.func154 (by rfl) (by rfl) hn (by rfl) h
theorem yU:Ent N.uf Tryz.f155:=fun hn h=>dE Tryz.func155 (by rfl) (by rfl) hn (by rfl) h
theorem BB:Ent N.td Tryz.f159:=fun hn h=>dE Tryz.func159 (by rfl) (by rfl) hn (by rfl) h
theorem tu:Ent N.lg Tryz.f161:=fun hn h=>dE Tryz.func161 (by rfl) (by rfl) hn (by rfl) h
theorem C7:Ent N.C5 Tryz.f162:=fun hn h=>dE Tryz.func162 (by rfl) (by rfl) hn (by rfl) h
theorem gv:Ent N.fR Tryz.f163:=fun hn h=>dE Tryz.func163 (by rfl) (by rfl) hn (by rfl) h
theorem yV:Ent N.ug Tryz.f164:=fun hn h=>dE Tryz.func164 (by rfl) (by rfl) hn (by rfl) h
theorem np:Ent N.k8 Tryz.f165:=fun hn h=>dE Tryz.func165 (by rfl) (by rfl) hn (by rfl) h
theorem oe:Ent N.lI Tryz.f166:=fun hn h=>dE Tryz.func166 (by rfl) (by rfl) hn (by rfl) h
theorem BC:Ent N.te Tryz.f168:=fun hn h=>dE Tryz.func168 (by rfl) (by rfl) hn (by rfl) h
theorem nG:Ent N.js Tryz.f174:=fun hn h=>dE Tryz.func174 (by rfl) (by rfl) hn (by rfl) h
theorem nH:Ent N.jt Tryz.f175:=fun hn h=>dE Tryz.func175 (by rfl) (by rfl) hn (by rfl) h
theorem yW:Ent N.uh Tryz.f176:=fun hn h=>dE Tryz.func176 (by rfl) (by rfl) hn (by rfl) h
theorem vS:Ent N.sK Tryz.f177:=fun hn h=>dE Tryz.func177 (by rfl) (by rfl) hn (by rfl) h
theorem zG:Ent N.xz Tryz.f178:=fun hn h=>dE Tryz.func178 (by rfl) (by rfl) hn (by rfl) h
theorem zH:Ent N.yA Tryz.f179:=fun hn h=>dE Tryz.func179 (by rfl) (by rfl) hn (by rfl) h
theorem BD:Ent N.AK Tryz.f180:=fun hn h=>dE Tryz.func180 (by rfl) (by rfl) hn (by rfl) h
theorem tv:Ent N.qH Tryz.f181:=fun hn h=>dE Tryz.func181 (by rfl) (by rfl) hn (by rfl) h
theorem vT:Ent N.sL Tryz.f182:=fun hn h=>dE Tryz.func182 (by rfl) (by rfl) hn (by rfl) h
theorem vU:Ent N.sM Tryz.f183:=fun hn h=>dE Tryz.func183 (by rfl) (by rfl) hn (by rfl) h
theorem mQ:Ent N.je Tryz.f184:=fun hn h=>dE Tryz.func184 (by rfl) (by rfl) hn (by rfl) h
theorem yX:Ent N.ui Tryz.f185:=fun hn h=>dE Tryz.func185 (by rfl) (by rfl) hn (by rfl) h
theorem nI:Ent N.ju Tryz.f186:=fun hn h=>dE Tryz.func186 (by rfl) (by rfl) hn (by rfl) h
theorem og:Ent N.lJ Tryz.f187:=fun hn h=>dE Tryz.func187 (by rfl) (by rfl) hn (by rfl) h
theorem C8:Ent N.yB Tryz.f188:=fun hn h=>dE Tryz.func188 (by rfl) (by rfl) hn (by rfl) h
theorem oh:Ent N.lK Tryz.f189:=fun hn h=>dE Tryz.func189 (by rfl) (by rfl) hn (by rfl) h
theorem yY:Ent N.uj Tryz.f190:=fun hn h=>dE Tryz.func190 (by rfl) (by rfl) hn (by rfl) h
theorem zI:Ent N.yC Tryz.f191:=fun hn h=>dE Tryz.func191 (by rfl) (by rfl) hn (by rfl) h
theorem ns:Ent N.k9 Tryz.f192:=fun hn h=>dE Tryz.func192 (by rfl) (by rfl) hn (by rfl) h
theorem pj:Ent N.mM Tryz.f193:=fun hn h=>dE Tryz.func193 (by rfl) (by rfl) hn (by rfl) h
theorem mR:Ent N.jf Tryz.f194:=fun hn h=>dE Tryz.func194 (by rfl) (by rfl) hn (by rfl) h
theorem om:Ent N.lL Tryz.f195:=fun hn h=>dE Tryz.func195 (by rfl) (by rfl) hn (by rfl) h
theorem oo:Ent N.lM Tryz.f196:=fun hn h=>dE Tryz.func196 (by rfl) (by rfl) hn (by rfl) h
theorem oq:Ent N.lN Tryz.f197:=fun hn h=>dE Tryz.func197 (by rfl) (by rfl) hn (by rfl) h
theorem nt:Ent N.kc Tryz.f198:=fun hn h=>dE Tryz.func198 (by rfl) (by rfl) hn (by rfl) h
theorem vV:Ent N.sN Tryz.f199:=fun hn h=>dE Tryz.func199 (by rfl) (by rfl) hn (by rfl) h
theorem pn:Ent N.mO Tryz.f200:=fun hn h=>dE Tryz.func200 (by rfl) (by rfl) hn (by rfl) h
theorem qm:Ent N.n9 Tryz.f201:=fun hn h=>dE Tryz.func201 (by rfl) (by rfl) hn (by rfl) h
theorem sX:Ent N.o9 Tryz.f202:=fun hn h=>dE Tryz.func202 (by rfl) (by rfl) hn (by rfl) h
theorem tw:Ent N.qI Tryz.f203:=fun hn h=>dE Tryz.func203 (by rfl) (by rfl) hn (by rfl) h
theorem qn:Ent N.nc Tryz.f204:=fun hn h=>dE Tryz.func204 (by rfl) (by rfl) hn (by rfl) h
theorem iE:Ent N.fW Tryz.f205:=fun hn h=>dE Tryz.func205 (by rfl) (by rfl) hn (by rfl) h
theorem qo:Ent N.nd Tryz.f206:=fun hn h=>dE Tryz.func206 (by rfl) (by rfl) hn (by rfl) h
theorem nJ:Ent N.jv Tryz.f207:=fun hn h=>dE Tryz.func207 (by rfl) (by rfl) hn (by rfl) h
theorem ot:Ent N.lO Tryz.f208:=fun hn h=>dE Tryz.func208 (by rfl) (by rfl) hn (by rfl) h
theorem qp:Ent N.nf Tryz.f209:=fun hn h=>dE Tryz.func209 (by rfl) (by rfl) hn (by rfl) h
theorem sY:Ent N.oa Tryz.f210:=fun hn h=>dE Tryz.func210 (by rfl) (by rfl) hn (by rfl) h
theorem zJ:Ent N.yD Tryz.f211:=fun hn h=>dE Tryz.func211 (by rfl) (by rfl) hn (by rfl) h
theorem zK:Ent N.yE Tryz.f212:=fun hn h=>dE Tryz.func212 (by rfl) (by rfl) hn (by rfl) h
theorem zL:Ent N.yF Tryz.f213:=fun hn h=>dE Tryz.func213 (by rfl) (by rfl) hn (by rfl) h
theorem sZ:Ent N.oc Tryz.f214:=fun hn h=>dE Tryz.func214 (by rfl) (by rfl) hn (by rfl) h
theorem jw{H:Hp}{nx:Nat}{iv:Iv}{w1 w':World}(hS:Old S w)(hw:cQ w.heap.size w w1)(r:Rel H nx iv w.heap.size w1 O w'){ad:Addr}{j:Nat}{x:Value}(hs:S ad.block)(h:w.cell? (ad.add j)=some x):w'.cell? (ad.add j)=some x:=by
 rw[(hw.tr r.cI).cell (by rw[dq];exact hS _ hs)];exact h
theorem C9(a:Option Addr)(c:Nat):(if (c:Int)=0 then a else a.map fun x=>x.add (Int.toNat 0*1))=a:=by
 split
 ·rfl
 ·cases a<;>rfl
theorem vW(h:ls[k]? =some 0):dT (ls.take (k+1))=dT (ls.take k):=by
 rw[List.take_add_one,h];exact jm _
theorem zM{x:Nat}(h:ls[k]? =some x)(hx:x≠0):dT (ls.take (k+1))=ls.take (k+1):=by
 rw[List.take_add_one,h];exact ml _ hx
theorem eo(hS:Old S w)(h:dA w S v ls):du PG N.lN #[v] w (eD w fun v' w2=>dA w2 S v' (dT ls)):=by
 obtain⟨a,c,rfl,hlc,hc⟩:=h.sl;have hle:=h.le;have hlm:=h.lm;refine oq (by simp) ?_
 refine⟨Nat×World,fun x=>⟨[(0,.o (.v (.slice a x.1 c)))],[],0,[],x.2⟩,fun x=>x.1,
  fun x=>x.1<=ls.length∧cQ w.heap.size w x.2∧dT ls=dT (ls.take x.1),?_,?_⟩
 ·intro O w' r;exact⟨(ls.length,w'),⟨aE _,r.cI,by simp⟩,Sub.reset r ⟨rfl,trivial⟩ ⟨trivial,trivial⟩⟩
 ·rintro⟨k,w1⟩ ⟨hk,hw,hF⟩;dsimp only at hk hw hF ⊢;have hdone:cQ w.heap.size w w1->dT ls=ls.take k->∀O w2,Rel [] 0 [] w.heap.size w1 O w2->dA w2 S (.slice a k c) (dT ls):=fun hw he O w2 r=>by
   rw[he];refine⟨hlm.take k,by simp;omega,a,c,by simp;omega,by simp;omega,fun j x hx=>?_⟩;have hjk:j<k:=by
    have:=(aC.1 hx).1;simp at this;omega
   rw[bM hjk]at hx;obtain⟨ad,h1,h2,h3⟩:=hc j x hx;exact⟨ad,h1,h2,jw hS hw r h2 h3⟩
  refine dH.mk (fun h=>?_) (fun h=>?_)
  ·have h:0<k:=by simpa using h
   obtain⟨k,rfl⟩:∃q,k=q+1:=⟨k-1,by omega⟩
   obtain⟨x,hx⟩:∃x,ls[k]? =some x:=⟨_,aA (by omega)⟩
   obtain⟨ad,ha,hs,hx1⟩:=hc k x hx;refine⟨(k:Int),wo,ad,ha,by omega,.int .u32 x,fun O w' r=>by rw[aJ,ai];exact jw hS hw r hs hx1,?_⟩;refine dH.mk (fun h2=>?_) (fun h2=>?_)
   ·have h2:x=0:=by have:=eq_of_beq h2;omega
    subst h2;refine⟨(k:Int),wo,⟨by omega,by omega,by omega⟩,a,k,c,C9 a c,by simp,by simp,?_⟩;intro O w2 r;exact⟨(k,w2),⟨by dsimp only;omega,hw.tr r.cI,hF.trans (vW hx)⟩,Sub.reset r ⟨rfl,trivial⟩ ⟨trivial,trivial⟩,by dsimp only;omega⟩
   ·have h2:x≠0:=by intro e;subst e;simp at h2
    intro O w2 r;exact⟨_,rfl,hw.tr r.cI,hdone hw (by rw[hF,zM hx h2]) O w2 r⟩
  ·have h:k=0:=by
    have:¬0<k:=by simpa using h
    omega
   subst h;intro O w2 r;exact⟨_,rfl,hw.tr r.cI,hdone hw (by rw[hF];simp[dT]) O w2 r⟩
theorem eL(h:n<18446744073709551616):IntKind.u64.wrap (n:Int)=(n:Int):=vv (by omega) (by omega)
theorem e9(n:Nat):IntKind.u32.wrap (n:Int)=((n % 4294967296:Nat):Int):=by
 show((n:Int) % 4294967296)=_;omega
theorem ofInt32(x:Nat):BitVec.ofInt 32 (x:Int)=BitVec.ofNat 32 x:=by
 apply BitVec.eq_of_toNat_eq;simp
theorem pB{y:Nat}(x:Nat)(hy:y<4294967296):x &&& y<4294967296:=Nat.lt_of_le_of_lt Nat.and_le_right hy
theorem pC{x y:Nat}(hx:x<4294967296)(hy:y<4294967296):x ^^^ y<4294967296:=Nat.xor_lt_two_pow (n:=32) hx hy
theorem BX{x y:Nat}(hx:x<4294967296)(hy:y<4294967296):x ||| y<4294967296:=Nat.or_lt_two_pow (n:=32) hx hy
theorem Jf{x y:Nat}(hx:x<4294967296)(hy:y<4294967296):IntKind.u32.wrap ((BitVec.ofInt IntKind.u32.bits x &&& BitVec.ofInt IntKind.u32.bits y).toNat:Int)=((x &&& y:Nat):Int):=by
 show IntKind.u32.wrap ((BitVec.ofInt 32 x &&& BitVec.ofInt 32 y).toNat:Int)=_;rw[ofInt32,ofInt32,BitVec.toNat_and,BitVec.toNat_ofNat,BitVec.toNat_ofNat,bI hx,bI hy,e9,bI (pB x hy)]
theorem Kv{x y:Nat}(hx:x<4294967296)(hy:y<4294967296):IntKind.u32.wrap ((BitVec.ofInt IntKind.u32.bits x ||| BitVec.ofInt IntKind.u32.bits y).toNat:Int)=((x ||| y:Nat):Int):=by
 show IntKind.u32.wrap ((BitVec.ofInt 32 x ||| BitVec.ofInt 32 y).toNat:Int)=_;rw[ofInt32,ofInt32,BitVec.toNat_or,BitVec.toNat_ofNat,BitVec.toNat_ofNat,bI hx,bI hy,e9,bI (BX hx hy)]
theorem Jg{x y:Nat}(hx:x<4294967296)(hy:y<4294967296):IntKind.u32.wrap ((BitVec.ofInt IntKind.u32.bits x ^^^ BitVec.ofInt IntKind.u32.bits y).toNat:Int)=((x ^^^ y:Nat):Int):=by
 show IntKind.u32.wrap ((BitVec.ofInt 32 x ^^^ BitVec.ofInt 32 y).toNat:Int)=_;rw[ofInt32,ofInt32,BitVec.toNat_xor,BitVec.toNat_ofNat,BitVec.toNat_ofNat,bI hx,bI hy,e9,bI (pC hx hy)]
theorem Jh{x:Nat}(hx:x<4294967296):IntKind.u32.wrap ((BitVec.ofInt IntKind.u32.bits (if IntKind.u32.signed=true then -1 else IntKind.u32.max) ^^^ BitVec.ofInt IntKind.u32.bits x).toNat:Int)=((4294967295 ^^^ x:Nat):Int):=
 Jg (x:=4294967295) (by decide) hx
theorem kj{x:Nat}(k:Nat)(hk:k<=63):(x:Int).fdiv (2^min (Int.toNat (k:Int)) IntKind.u64.bits)=((x / 2^k:Nat):Int):=by
 have h1:min (Int.toNat (k:Int)) IntKind.u64.bits=k:=by show min (Int.toNat (k:Int)) 64=k;omega
 rw[h1,Int.fdiv_eq_ediv_of_nonneg _ (by exact Int.le_of_lt (Int.pow_pos (by decide)))];simp
theorem nL{x:Nat}(k:Nat)(hk:k<=31):(x:Int).fdiv (2^min (Int.toNat (k:Int)) IntKind.u32.bits)=((x / 2^k:Nat):Int):=by
 have h1:min (Int.toNat (k:Int)) IntKind.u32.bits=k:=by show min (Int.toNat (k:Int)) 32=k;omega
 rw[h1,Int.fdiv_eq_ediv_of_nonneg _ (by exact Int.le_of_lt (Int.pow_pos (by decide)))];simp
theorem JR{z:Nat}(h:z<4294967296):z.testBit 31=decide (2147483648<=z):=by
 rw[Nat.testBit_eq_decide_div_mod_eq];apply decide_eq_decide.2;show z / 2147483648 % 2=1↔_;omega
theorem borrow{x y c d:Nat}(hx:x<4294967296)(hy:y<4294967296)(hc:c<=1)(hd:(x+4294967296-(y+c)) % 4294967296=d):
  (((4294967295 ^^^ x) &&& y) ||| ((4294967295 ^^^ (x ^^^ y)) &&& d)) / 2^31=if x<y+c then 1 else 0:=by
 have hd2:d<4294967296:=by omega
 have hz:=BX (pB (4294967295 ^^^ x) hy) (pB (4294967295 ^^^ (x ^^^ y)) hd2);have ht:=JR hz;have hm:Nat.testBit 4294967295 31=true:=by decide
 rw[Nat.testBit_or,Nat.testBit_and,Nat.testBit_and,Nat.testBit_xor,Nat.testBit_xor,Nat.testBit_xor,hm,JR hx,JR hy,JR hd2]at ht;generalize (((4294967295 ^^^ x) &&& y) ||| ((4294967295 ^^^ (x ^^^ y)) &&& d))=z at hz ht;show z / 2147483648=_;by_cases h1:2147483648<=x<;>by_cases h2:2147483648<=y<;>by_cases h3:2147483648<=d<;>simp[h1,h2,h3]at ht<;>split<;>omega
theorem FK(x y c:Nat)(w:World)(hx:x<4294967296)(hy:y<4294967296)(hc:c<4294967296):
  du PG N.yD #[.int .u32 x,.int .u32 y,.int .u32 c] w (eD w fun v _=>v= .tuple #[.int .u32 ((x+y+c) % 4294967296:Nat),.int .u32 ((x+y+c) / 4294967296:Nat)]):=by
 refine zJ (by simp) ?_;refine⟨(x:Int),eL (by omega),(y:Int),eL (by omega),((x+y:Nat):Int),by rw[vv]<;>omega,(c:Int),eL (by omega),((x+y+c:Nat):Int),by rw[vv]<;>omega,(((x+y+c) % 4294967296:Nat):Int),e9 _,by decide,(((x+y+c) / 4294967296:Nat):Int),?_,?_⟩
 ·exact kj 32 (by decide)
 refine⟨(((x+y+c) / 4294967296:Nat):Int),by rw[e9];omega,?_⟩;intro O w3 r;exact⟨_,rfl,r.cI,rfl⟩
theorem FL(x y c:Nat)(w:World)(hx:x<4294967296)(hy:y<4294967296)(hc:c<=1):
  du PG N.yE #[.int .u32 x,.int .u32 y,.int .u32 c] w (eD w fun v _=>v= .tuple #[.int .u32 ((x+4294967296-(y+c)) % 4294967296:Nat),.int .u32 ((if x<y+c then 1 else 0:Nat):Int)]):=by
 refine zK (by simp) ?_;refine⟨((x+4294967296-y) % 4294967296:Nat),?_,?_⟩
 ·show((x:Int)-y) % 4294967296=_;omega
 refine⟨((x+4294967296-(y+c)) % 4294967296:Nat),?_,?_⟩
 ·show((((x+4294967296-y) % 4294967296:Nat):Int)-c) % 4294967296=_;omega
 have h6:(x+4294967296-(y+c)) % 4294967296<4294967296:=bo _ (by decide);generalize hd:(x+4294967296-(y+c)) % 4294967296=d at h6;refine⟨((4294967295 ^^^ x:Nat):Int),Jh hx,(((4294967295 ^^^ x) &&& y:Nat):Int),Jf (pC (by decide) hx) hy,((x ^^^ y:Nat):Int),Jg hx hy,((4294967295 ^^^ (x ^^^ y):Nat):Int),Jh (pC hx hy),(((4294967295 ^^^ (x ^^^ y)) &&& d:Nat):Int),Jf (pC (by decide) (pC hx hy)) h6,((((4294967295 ^^^ x) &&& y) ||| ((4294967295 ^^^ (x ^^^ y)) &&& d):Nat):Int),Kv (pB _ hy) (pB _ h6),by decide,((if x<y+c then 1 else 0:Nat):Int),?_,?_⟩
 ·rw[<-borrow hx hy hc hd];exact nL 31 (by decide)
 intro O w3 r;exact⟨_,rfl,r.cI,rfl⟩
def qq(n m:Nat):Int:=if n<m then -1 else if m<n then 1 else 0
theorem Ji{a b:List Nat}{i x y:Nat}(ha:Lm a)(hl:a.length=b.length)(hx:a[i]? =some x)(hy:b[i]? =some y)(h:a.drop (i+1)=b.drop (i+1))(hlt:x<y):val a<val b:=by
 have hi:=(aC.1 hx).1;have h1:=eR a i (by omega);have h2:=eR b i (by omega);rw[iW hx]at h1;rw[iW hy,<-h]at h2;have h3:=mj (ha.take i);rw[aW,Nat.min_eq_left (by omega)]at h3;generalize val (a.drop (i+1))=q at h1 h2;have h4:wt i*(x+4294967296*q+1)<=wt i*(y+4294967296*q):=bW _ (by omega);rw[bP,ai]at h4;omega
theorem H6{u:Value}{m:Nat}(hS:Old S w)(hn:dV w S v n)(hm:dV w S u m):du PG N.qI #[v,u] w (eD w fun v' _=>v'= .int .i64 (qq n m)):=by
 obtain⟨ls,h1,nz1,rfl⟩:=hn;obtain⟨ms,h2,nz2,rfl⟩:=hm;obtain⟨a,c,rfl,_,ha⟩:=h1.sl;obtain⟨b,e,rfl,_,hb⟩:=h2.sl;have hle1:=h1.le;have hle2:=h2.le;have lm1:=h1.lm;have lm2:=h2.lm;refine tw (by simp) ?_;refine dH.mk (fun h=>?_) (fun h=>?_)
 ·have h:ls.length≠ms.length:=by intro e;rw[e]at h;simp at h
  refine dH.mk (fun h3=>?_) (fun h3=>?_)
  ·have h3:ls.length<ms.length:=by simpa using h3
   intro O w2 r;exact⟨_,rfl,r.cI,by rw[qq,if_pos (iJ lm1 nz2 h3)];rfl⟩
  ·have h3:ms.length<ls.length:=by
    have:¬ls.length<ms.length:=by simpa using h3
    omega
   have h4:=iJ lm2 nz1 h3;intro O w2 r;exact⟨_,rfl,r.cI,by rw[qq,aF (by omega),if_pos h4];rfl⟩
 ·have h:ls.length=ms.length:=by
   have:(ls.length:Int)=ms.length:=by simpa using h
   omega
  refine⟨(ls.length:Int)-1,wo,Nat×World,fun x=>⟨[(0,.o (.v (.slice a ls.length c))),(1,.o (.v (.slice b ms.length e))),(5,.o (.v (.int .i64 ((x.1:Int)-1))))],[],0,[],x.2⟩,fun x=>x.1,
   fun x=>x.1<=ls.length∧cQ w.heap.size w x.2∧ls.drop x.1=ms.drop x.1,?_,?_⟩
  ·intro O w' r;exact⟨(ls.length,w'),⟨aE _,r.cI,by rw[List.drop_length,h,List.drop_length]⟩,Sub.reset r ⟨rfl,rfl,rfl,trivial⟩ ⟨trivial,trivial,trivial,trivial⟩⟩
  ·rintro⟨k,w1⟩ ⟨hk,hw,hd⟩;dsimp only at hk hw hd ⊢;refine dH.mk (fun h3=>?_) (fun h3=>?_)
   ·have h3:(k:Int)-1≥0:=aH h3;obtain⟨k,rfl⟩:∃q,k=q+1:=⟨k-1,by omega⟩
    rw[show ((k+1:Nat):Int)-1=(k:Int) by omega];obtain⟨x,hx⟩:∃x,ls[k]? =some x:=⟨_,aA (by omega)⟩
    obtain⟨y,hy⟩:∃x,ms[k]? =some x:=⟨_,aA (by omega)⟩
    obtain⟨ad,had,hs,hc1⟩:=ha k x hx;obtain⟨ad2,had2,hs2,hc2⟩:=hb k y hy;have hlx:∀O w',Rel [] 0 [] w.heap.size w1 O w'->w'.cell? (ad.add ((k:Int).toNat*1))=some (.int .u32 x):=fun O w' r=>by
     rw[aJ,ai];exact jw hS hw r hs hc1
    have hly:∀O w',Rel [] 0 [] w.heap.size w1 O w'->w'.cell? (ad2.add ((k:Int).toNat*1))=some (.int .u32 y):=fun O w' r=>by
     rw[aJ,ai];exact jw hS hw r hs2 hc2
    refine cD hτ df [.x 0,.x 1,.x 2,.x 3,.x 4,.x 5,.x 6,.x 7,.x 8,.x 9] (by kernel_rfl) (by kernel_rfl) ?_;refine⟨ad,had,by omega,_,hlx,ad2,had2,by omega,_,hly,?_⟩;refine dH.mk (fun h4=>?_) (fun h4=>?_)
    ·have h4:x<y:=by simpa using h4
     intro O w2 r;exact⟨_,rfl,hw.tr r.cI,by rw[qq,if_pos (Ji lm1 h hx hy hd h4)];rfl⟩
    ·have h4:¬x<y:=by simpa using h4
     refine cD hτ df [.x 0,.x 1,.x 2,.x 3,.x 4,.x 5,.x 6,.x 7,.x 8,.x 9] (by kernel_rfl) (by kernel_rfl) ?_;refine⟨ad,had,by omega,_,hlx,ad2,had2,by omega,_,hly,?_⟩;refine dH.mk (fun h5=>?_) (fun h5=>?_)
     ·have h5:y<x:=by simpa using h5
      have h6:=Ji lm2 h.symm hy hx hd.symm h5;intro O w2 r;exact⟨_,rfl,hw.tr r.cI,by rw[qq,aF (by omega),if_pos h6];rfl⟩
     ·have h5:¬y<x:=by simpa using h5
      have hxy:x=y:=by omega
      subst hxy;refine⟨(k:Int)-1,wo,?_⟩;intro O w2 r;have hd2:ls.drop k=ms.drop k:=by
       obtain⟨q1,e1⟩:=aC.1 hx;obtain⟨q2,e2⟩:=aC.1 hy;rw[List.drop_eq_getElem_cons q1,List.drop_eq_getElem_cons q2,e1,e2,hd]
      exact⟨(k,w2),⟨by dsimp only;omega,hw.tr r.cI,hd2⟩,Sub.reset r ⟨rfl,rfl,rfl,trivial⟩ ⟨trivial,trivial,trivial,trivial⟩,by simp⟩
   ·have hk0:k=0:=by
     have:¬(k:Int)-1≥0:=aG h3;omega
    subst hk0;have he:ls=ms:=by simpa using hd
    intro O w2 r;exact⟨_,rfl,hw.tr r.cI,by rw[he,qq,aF (by omega),aF (by omega)];rfl⟩
end Go.Ex
namespace Go.Sx
open Go Go.Ex Go.Proofs
variable{O:Nat->Sx.dU}
theorem Rel.ou{nx:Nat}{iv:Iv}{B:Nat}{w w':World}(r:Rel [] nx iv B w O w'):w.grownBy w' none:=
 ⟨r.os,r.tape,r.output,r.size,fun k hk _=>r.sw k hk (fun id b h=>by cases h)⟩
end Go.Sx
namespace Go.Ex
open Go Go.Sx Go.Proofs
variable{l ls:List Nat}{S:Nat->Prop}{v:Value}{w:World}
structure LA(S:Nat->Prop)(w:World) where
 a:Option Addr
 c:Nat
 ls:List Nat
 lm:Lm ls
 le:ls.length<=9223372036854775807
 cap:ls.length<=c
 cell:∀(j:Nat) x,ls[j]? =some x->∃ad,a=some ad∧S ad.block∧w.cell? (ad.add j)=some (.int .u32 x)
theorem dA.la(h:dA w S v ls):∃p:LA S w,v= .slice p.a p.ls.length p.c∧p.ls=ls:=by
 obtain⟨a,c,h1,h2,h3⟩:=h.sl;exact⟨⟨a,c,ls,h.lm,h.le,h2,h3⟩,h1,rfl⟩
theorem dV.la{n:Nat}(h:dV w S v n):∃p:LA S w,v= .slice p.a p.ls.length p.c∧val p.ls=n∧Nz p.ls:=by
 obtain⟨ls,h1,h2,h3⟩:=h;obtain⟨p,h4,h5⟩:=h1.la;exact⟨p,h4,by rw[h5];exact h3,by rw[h5];exact h2⟩
theorem LA.load{w1:World}(p:LA S w)(hS:Old S w)(hw:cQ w.heap.size w w1){k x:Nat}(hx:p.ls[k]? =some x):
  ∃ad,p.a=some ad∧∀(H:Hp) (nx:Nat) (iv:Iv) (O:Nat->Sx.dU) w',Rel H nx iv w.heap.size w1 O w'->w'.cell? (ad.add ((k:Int).toNat*1))=some (.int .u32 x):=by
 obtain⟨ad,h1,h2,h3⟩:=p.cell k x hx;refine⟨ad,h1,fun H nx iv O w' r=>?_⟩;rw[aJ,ai];exact jw hS hw r h2 h3
def U(l:List Nat):List Value:=l.map fun(x:Nat)=>.int .u32 (x:Int)
theorem fg(l:List Nat):(U l).length=l.length:=by simp[U]
theorem s0{k x:Nat}(h:l[k]? =some x):(U l)[k]? =some (.int .u32 x):=by simp[U,h]
theorem LB(l:List Nat)(k x:Nat)(h:k<l.length):(U l).take k++[.int .u32 x]++(U l).drop (k+1)=U (l.set k x):=by
 have h1:k<(U l).length:=by rw[fg];exact h
 have:(U l).set k (.int .u32 x)=U (l.set k x):=by simp[U,List.map_set]
 rw[<-this,List.set_eq_take_append_cons_drop,if_pos h1];simp
theorem iM(l:List Nat)(k x:Nat)(h:k<l.length){e:Nat}(he:e=k):(U l).take e++[.int .u32 (x:Int)]++(U l).drop (e+1)=U (l.set k x):=by
 subst he;exact LB l e x h
theorem qt(n:Nat):List.replicate n (Value.int .u32 0)=U (List.replicate n 0):=by simp[U]
end Go.Ex
namespace Go.Sx
open Go Go.Ex Go.Proofs
variable{ls:List Nat}{O:Nat->Sx.dU}
theorem Rel.mS{H:Hp}{nx:Nat}{iv:Iv}{B:Nat}{w w':World}(r:Rel H nx iv B w O w'){id t:Nat}(h:cY H id=some (.arr t (U ls)))(hlm:Lm ls)(hle:ls.length<=9223372036854775807):
  dA w' (fun g=>g=(O id).g) (.slice (some ⟨(O id).g,0,none⟩) ls.length ls.length) ls:=by
 refine⟨hlm,hle,_,_,rfl,aE _,fun j x hx=>⟨_,rfl,rfl,?_⟩⟩;have h0:(⟨(O id).g,0,none⟩:Addr).add j=⟨(O id).g,j,none⟩:=by
  cases j with
  |zero=>rfl
  |succ j=>simp[Addr.add]
 rw[h0,cell_of (r.arr id t _ h)];exact s0 hx
end Go.Sx
namespace Go.Ex
open Go Go.Sx Go.Proofs
variable{S:Nat->Prop}
theorem A3{out ls ms:List Nat}{i x o d:Nat}(hx:ls[i]? =some x)(ho:ms.getD i 0=o)(hd:out[i]? =some d){carry:Nat}(h:val (out.take i)+wt i*carry=val (ls.take i)+val (ms.take i)):
  val ((out.set i ((x+o+carry) % 4294967296)).take (i+1))+wt (i+1)*((x+o+carry) / 4294967296)=val (ls.take (i+1))+val (ms.take (i+1)):=by
 have hi:=(aC.1 hd).1;have h1:(out.set i ((x+o+carry) % 4294967296))[i]? =some ((x+o+carry) % 4294967296):=by rw[aT hi]
 rw[dP h1,List.take_set_of_le (aE _),dP hx,iI];have h2:val (ms.take (i+1))=val (ms.take i)+wt i*o:=by
  cases hm:ms[i]? with
  |some y=>
   have:y=o:=by rw[<-ho];simp[List.getD,hm]
   rw[dP hm,this]
  |none=>
   have:o=0:=by rw[<-ho];simp[List.getD,hm]
   rw[this,List.take_add_one,hm];simp
 rw[h2];have h3:=Nat.div_add_mod (x+o+carry) 4294967296;generalize (x+o+carry) / 4294967296=q at h3 ⊢;generalize (x+o+carry) % 4294967296=r at h3 ⊢;have h4:wt i*(4294967296*q+r)=wt i*(x+o+carry):=by rw[h3]
 rw[bP,bP,bP,<-bZ,bN (wt i) 4294967296]at h4;omega
theorem KW{w:World}{v u:Value}{n m:Nat}(hS:Old S w)(hn:dV w S v n)(hm:dV w S u m)(hln:ln n<=1000000000000)(hlm:ln m<=1000000000000):
  du PG N.o9 #[v,u] w (eD w fun v' w2=>dV w2 (Nf w w2) v' (n+m)):=by
 obtain⟨p,rfl,hp1,hp2⟩:=hn.la;obtain⟨q,rfl,hq1,hq2⟩:=hm.la;have hpl:=dy p.lm hp2;have hql:=dy q.lm hq2;rw[hp1]at hpl;rw[hq1]at hql;have hsum:n+m=val p.ls+val q.ls:=by rw[hp1,hq1]
 rw[hsum];refine sX (by simp) ?_;refine dH.mk (fun h=>?_) (fun h=>?_)
 case' refine_1=>
  have h:p.ls.length<q.ls.length:=by simpa using h
  have hpx:p.ls.length<=q.ls.length:=by omega
  have hx12:q.ls.length<=1000000000000:=by omega
  rw[Nat.add_comm];generalize hgx:q=x at*
  generalize hgy:p=y at*
 case' refine_2=>
  have h:¬p.ls.length<q.ls.length:=by simpa using h
  have hpx:q.ls.length<=p.ls.length:=by omega
  have hx12:p.ls.length<=1000000000000:=by omega
  generalize hgx:p=x at*
  generalize hgy:q=y at*
 all_goals
  refine⟨((x.ls.length+1:Nat):Int),wo,x.ls.length+1,x.ls.length+1,rfl,rfl,aE _,by omega,by omega,Nat×List Nat×Nat×World,fun z=>⟨[(0,.o (.v (.slice x.a x.ls.length x.c))),(1,.o (.v (.slice y.a y.ls.length y.c))),(5,.o (.s 0 0 (x.ls.length+1) (x.ls.length+1))),(6,.o (.v (.int .u32 z.2.2.1))),(21,.o (.v (.int .i64 x.ls.length))),(22,.o (.v (.int .i64 z.1)))],
    [(0,.arr T.uint32 (U z.2.1))],1,[],z.2.2.2⟩,fun z=>x.ls.length-z.1,
   fun z=>z.1<=x.ls.length∧cQ w.heap.size w z.2.2.2∧z.2.1.length=x.ls.length+1∧Lm z.2.1∧z.2.2.1<2∧val (z.2.1.take z.1)+wt z.1*z.2.2.1=val (x.ls.take z.1)+val (y.ls.take z.1),?_,?_⟩
  ·intro O w' r;rw[qt]at r;exact⟨(0,List.replicate (x.ls.length+1) 0,0,w'),⟨by simp,r.cI,by simp,Lm.replicate _,by simp,by simp[val]⟩,Sub.gn [] r⟩
  ·rintro⟨i,out,carry,w1⟩ ⟨hi,hw,hol,hlm1,hc,hv⟩;dsimp only at hi hw hol hlm1 hc hv ⊢;refine dH.mk (fun h=>?_) (fun h=>?_)
   ·have h:i<x.ls.length:=by simpa using h
    obtain⟨xi,hxi⟩:∃k,x.ls[i]? =some k:=⟨_,aA h⟩
    obtain⟨d,hd⟩:∃k,out[i]? =some k:=⟨_,aA (by omega)⟩
    obtain⟨ad,had,hload⟩:=x.load hS hw hxi;have hx32:=x.lm.at hxi;refine dH.mk (fun h2=>?_) (fun h2=>?_)
    ·have h2:i<y.ls.length:=by simpa using h2
     obtain⟨o,ho⟩:∃k,y.ls[i]? =some k:=⟨_,aA h2⟩
     obtain⟨ad2,had2,hload2⟩:=y.load hS hw ho;have ho32:=y.lm.at ho;have hget:y.ls.getD i 0=o:=by simp[List.getD,ho]
     refine⟨ad2,had2,by omega,.int .u32 o,hload2 _ _ _,ad,had,by omega,.int .u32 xi,hload _ _ _,?_⟩;refine bu (cH (Φ:=fun _ _ v _=>v= .tuple #[.int .u32 ((xi+o+carry) % 4294967296:Nat),.int .u32 ((xi+o+carry) / 4294967296:Nat)]) (fun O w' r=>FK xi o carry w' hx32 ho32 (by omega)) ?_);rintro O w' v w2 r he hb rfl;replace hw:=hw.tr hb;have hstep:=A3 hxi hget hd hv;have hc2:(xi+o+carry) / 4294967296<2:=by omega
     refine⟨by omega,by rw[fg];omega,U (out.set i ((xi+o+carry) % 4294967296)),iM out i _ (by omega) (by simp),((i+1:Nat):Int),wo,?_⟩;intro ρ3 w3 r3
     exact⟨(i+1,out.set i ((xi+o+carry) % 4294967296),(xi+o+carry) / 4294967296,w3),⟨by dsimp only;omega,hw.tr r3.cI,by simp[hol],hlm1.set (bo _ (by decide)),hc2,hstep⟩,
      Sub.gn [] r3,by dsimp only;omega⟩
    ·have h2:¬i<y.ls.length:=by simpa using h2
     have hget:y.ls.getD i 0=0:=by simp[List.getD,List.getElem?_eq_none (show y.ls.length<=i by omega)]
     refine⟨ad,had,by omega,.int .u32 xi,hload _ _ _,?_⟩;refine bu (cH (Φ:=fun _ _ v _=>v= .tuple #[.int .u32 ((xi+0+carry) % 4294967296:Nat),.int .u32 ((xi+0+carry) / 4294967296:Nat)]) (fun O w' r=>FK xi 0 carry w' hx32 (by decide) (by omega)) ?_);rintro O w' v w2 r he hb rfl;replace hw:=hw.tr hb;have hstep:=A3 hxi hget hd hv;have hc2:(xi+0+carry) / 4294967296<2:=by omega
     refine⟨by omega,by rw[fg];omega,U (out.set i ((xi+0+carry) % 4294967296)),iM out i _ (by omega) (by simp),((i+1:Nat):Int),wo,?_⟩;intro ρ3 w3 r3
     exact⟨(i+1,out.set i ((xi+0+carry) % 4294967296),(xi+0+carry) / 4294967296,w3),⟨by dsimp only;omega,hw.tr r3.cI,by simp[hol],hlm1.set (bo _ (by decide)),hc2,hstep⟩,
      Sub.gn [] r3,by dsimp only;omega⟩
   ·have hin:i=x.ls.length:=by
     have:¬i<x.ls.length:=by simpa using h
     omega
    subst hin;obtain⟨d,hd⟩:∃k,out[x.ls.length]? =some k:=⟨_,aA (by omega)⟩
    have hfin:val (out.set x.ls.length carry)=val x.ls+val y.ls:=by
     have h1:(out.set x.ls.length carry)[x.ls.length]? =some carry:=by rw[aT (by omega)]
     have h2:=dP h1;rw[List.take_of_length_le (by simp;omega),List.take_set_of_le (aE _)]at h2;rw[bF,List.take_of_length_le hpx]at hv;omega
    have hlm2:Lm (out.set x.ls.length carry):=hlm1.set (by omega);refine⟨by omega,by rw[fg];omega,U (out.set x.ls.length carry),iM out x.ls.length carry (by omega) (by simp),?_⟩;generalize hgo:out.set x.ls.length carry=fin at hfin hlm2;have hfl:fin.length=x.ls.length+1:=by rw[<-hgo];simp[hol]
    refine fz (Φ:=fun O _ v w2=>dA w2 (fun g=>g=(O 0).g) v (dT fin)) (H':=[]) 0 rfl (by simp) trivial rfl (fun O w' r=>r.nn 0 _ rfl (by intros;simp) (by simp)) (fun O w' r=>?_) ?_
    ·have hL:=r.mS (id:=0) rfl hlm2 (by omega);rw[hfl]at hL;exact eo (fun g hg=>by rw[hg];exact(r.low 0 _ rfl (r.nn 0 _ rfl (by intros;simp) (by simp))).2) hL
    rintro O w' v w2 r he hb hL;replace hw:=hw.tr hb;have hlow:=r.low 0 _ rfl (r.nn 0 _ rfl (by intros;simp) (by simp));generalize (O 0).g=g at*
    have hs:=he.size;intro ρ3 w3 r3;refine⟨_,rfl,hw.tr r3.cI,dT fin,?_,(eW fin).2.1,?_⟩
    ·refine(hL.cB fun k hk=>?_).cC fun k hk=>.inr ?_
     ·rw[hk];exact r3.ou.block g (by omega) (by simp)
     ·rw[hk];have:=r3.size;omega
    ·rw[(eW fin).1,hfin]
end Go.Ex
namespace Go.Ex
open Go Go.Sx Go.Proofs
variable{ls ms out:List Nat}{V a b i k n o t:Nat}{S:Nat->Prop}{v:Value}{w:World}
theorem GR(ho:ms.getD i 0=o):val (ms.take (i+1))=val (ms.take i)+wt i*o:=by
 cases hm:ms[i]? with
 |some y=>
  have:y=o:=by rw[<-ho];simp[List.getD,hm]
  rw[dP hm,this]
 |none=>
  have:o=0:=by rw[<-ho];simp[List.getD,hm]
  rw[this,List.take_add_one,hm];simp
theorem ym{x d e:Nat}(hx:ls[i]? =some x)(ho:ms.getD i 0=o)(hd:out[i]? =some d){b':Nat}(h:val (out.take i)+val (ms.take i)=val (ls.take i)+wt i*b)(he:e+(o+b)=x+4294967296*b'):
  val ((out.set i e).take (i+1))+val (ms.take (i+1))=val (ls.take (i+1))+wt (i+1)*b':=by
 have hi:=(aC.1 hd).1;have h1:(out.set i e)[i]? =some e:=by rw[aT hi]
 rw[dP h1,List.take_set_of_le (aE _),dP hx,GR ho,iI];have h4:wt i*(e+(o+b))=wt i*(x+4294967296*b'):=by rw[he]
 rw[bP,bP,bP,<-bZ,bN (wt i) 4294967296]at h4;omega
theorem BG{u:Value}{m:Nat}(hS:Old S w)(hn:dV w S v n)(hm:dV w S u m)(hle:m<=n)(hln:ln n<=1000000000000):
  du PG N.nc #[v,u] w (eD w fun v' w2=>dV w2 (Nf w w2) v' (n-m)):=by
 obtain⟨x,rfl,hp1,hp2⟩:=hn.la;obtain⟨y,rfl,hq1,hq2⟩:=hm.la;have hpl:=dy x.lm hp2;rw[hp1]at hpl;have hyx:y.ls.length<=x.ls.length:=by
  rw[dy x.lm hp2,dy y.lm hq2,hp1,hq1];exact ee hle
 refine qn (by simp) ?_
 refine⟨x.ls.length,x.ls.length,rfl,rfl,aE _,by omega,by omega,Nat×List Nat×Nat×World,fun z=>⟨[(0,.o (.v (.slice x.a x.ls.length x.c))),(1,.o (.v (.slice y.a y.ls.length y.c))),(5,.o (.s 0 0 x.ls.length x.ls.length)),(6,.o (.v (.int .u32 z.2.2.1))),(13,.o (.v (.int .i64 x.ls.length))),(14,.o (.v (.int .i64 z.1)))],
   [(0,.arr T.uint32 (U z.2.1))],1,[],z.2.2.2⟩,fun z=>x.ls.length-z.1,
  fun z=>z.1<=x.ls.length∧cQ w.heap.size w z.2.2.2∧z.2.1.length=x.ls.length∧Lm z.2.1∧z.2.2.1<2∧val (z.2.1.take z.1)+val (y.ls.take z.1)=val (x.ls.take z.1)+wt z.1*z.2.2.1,?_,?_⟩
 ·intro O w' r;rw[qt]at r;exact⟨(0,List.replicate x.ls.length 0,0,w'),⟨by simp,r.cI,by simp,Lm.replicate _,by simp,by simp[val]⟩,Sub.gn [] r⟩
 ·rintro⟨i,out,b,w1⟩ ⟨hi,hw,hol,hlm1,hc,hv⟩;dsimp only at hi hw hol hlm1 hc hv ⊢;refine dH.mk (fun h=>?_) (fun h=>?_)
  ·have h:i<x.ls.length:=by simpa using h
   obtain⟨xi,hxi⟩:∃k,x.ls[i]? =some k:=⟨_,aA h⟩
   obtain⟨d,hd⟩:∃k,out[i]? =some k:=⟨_,aA (by omega)⟩
   obtain⟨ad,had,hload⟩:=x.load hS hw hxi;have hx32:=x.lm.at hxi;refine dH.mk (fun h2=>?_) (fun h2=>?_)
   ·have h2:i<y.ls.length:=by simpa using h2
    obtain⟨o,ho⟩:∃k,y.ls[i]? =some k:=⟨_,aA h2⟩
    obtain⟨ad2,had2,hload2⟩:=y.load hS hw ho;have ho32:=y.lm.at ho;have hget:y.ls.getD i 0=o:=by simp[List.getD,ho]
    refine⟨ad2,had2,by omega,.int .u32 o,hload2 _ _ _,ad,had,by omega,.int .u32 xi,hload _ _ _,?_⟩;refine bu (cH (Φ:=fun _ _ v _=>v= .tuple #[.int .u32 ((xi+4294967296-(o+b)) % 4294967296:Nat),.int .u32 ((if xi<o+b then 1 else 0:Nat):Int)]) (fun O w' r=>FL xi o b w' hx32 ho32 (by omega)) ?_);rintro O w' v w2 r he hb rfl;replace hw:=hw.tr hb;have hst:(xi+4294967296-(o+b)) % 4294967296+(o+b)=xi+4294967296*(if xi<o+b then 1 else 0):=by split<;>omega
    have hlt:(xi+4294967296-(o+b)) % 4294967296<4294967296:=bo _ (by decide);have hb2:(if xi<o+b then 1 else 0:Nat)<2:=by split<;>omega
    generalize (xi+4294967296-(o+b)) % 4294967296=e at hst hlt;generalize (if xi<o+b then 1 else 0:Nat)=b' at hst hb2;have hstep:=ym hxi hget hd hv hst;refine⟨by omega,by rw[fg];omega,U (out.set i e),iM out i _ (by omega) (by simp),((i+1:Nat):Int),wo,?_⟩;intro ρ3 w3 r3
    exact⟨(i+1,out.set i e,b',w3),⟨by dsimp only;omega,hw.tr r3.cI,by simp[hol],hlm1.set hlt,hb2,hstep⟩,
     Sub.gn [] r3,by dsimp only;omega⟩
   ·have h2:¬i<y.ls.length:=by simpa using h2
    have hget:y.ls.getD i 0=0:=by simp[List.getD,List.getElem?_eq_none (show y.ls.length<=i by omega)]
    refine⟨ad,had,by omega,.int .u32 xi,hload _ _ _,?_⟩;refine bu (cH (Φ:=fun _ _ v _=>v= .tuple #[.int .u32 ((xi+4294967296-(0+b)) % 4294967296:Nat),.int .u32 ((if xi<0+b then 1 else 0:Nat):Int)]) (fun O w' r=>FL xi 0 b w' hx32 (by decide) (by omega)) ?_);rintro O w' v w2 r he hb rfl;replace hw:=hw.tr hb;have hst:(xi+4294967296-(0+b)) % 4294967296+(0+b)=xi+4294967296*(if xi<0+b then 1 else 0):=by split<;>omega
    have hlt:(xi+4294967296-(0+b)) % 4294967296<4294967296:=bo _ (by decide);have hb2:(if xi<0+b then 1 else 0:Nat)<2:=by split<;>omega
    generalize (xi+4294967296-(0+b)) % 4294967296=e at hst hlt;generalize (if xi<0+b then 1 else 0:Nat)=b' at hst hb2;have hstep:=ym hxi hget hd hv hst;refine⟨by omega,by rw[fg];omega,U (out.set i e),iM out i _ (by omega) (by simp),((i+1:Nat):Int),wo,?_⟩;intro ρ3 w3 r3
    exact⟨(i+1,out.set i e,b',w3),⟨by dsimp only;omega,hw.tr r3.cI,by simp[hol],hlm1.set hlt,hb2,hstep⟩,
     Sub.gn [] r3,by dsimp only;omega⟩
  ·have hin:i=x.ls.length:=by
    have:¬i<x.ls.length:=by simpa using h
    omega
   subst hin;have hfin:val out=n-m:=by
    rw[List.take_of_length_le (by omega),List.take_of_length_le hyx,bF,hp1,hq1]at hv;have h1:=mj hlm1;rw[hol]at h1;have:b=0∨b=1:=by omega
    rcases this with rfl|rfl
    ·omega
    ·omega
   refine fz (Φ:=fun O _ v w2=>dA w2 (fun g=>g=(O 0).g) v (dT out)) (H':=[]) 0 rfl (by simp) trivial rfl (fun O w' r=>r.nn 0 _ rfl (by intros;simp) (by simp)) (fun O w' r=>?_) ?_
   ·have hL:=r.mS (id:=0) rfl hlm1 (by omega);rw[hol]at hL;exact eo (fun g hg=>by rw[hg];exact(r.low 0 _ rfl (r.nn 0 _ rfl (by intros;simp) (by simp))).2) hL
   rintro O w' v w2 r he hb hL;replace hw:=hw.tr hb;have hlow:=r.low 0 _ rfl (r.nn 0 _ rfl (by intros;simp) (by simp));generalize (O 0).g=g at*
   have hs:=he.size;intro ρ3 w3 r3;refine⟨_,rfl,hw.tr r3.cI,dT out,?_,(eW out).2.1,?_⟩
   ·refine(hL.cB fun k hk=>?_).cC fun k hk=>.inr ?_
    ·rw[hk];exact r3.ou.block g (by omega) (by simp)
    ·rw[hk];have:=r3.size;omega
   ·rw[(eW out).1,hfin]
theorem EU{p c:Nat}(ho:out[p]? =some o)(h:val out+wt p*c=V)(ht:t=a+o+c):
  val (out.set p (t % 4294967296))+wt (p+1)*(t / 4294967296)=V+wt p*a:=by
 have h1:=wC (x:=t % 4294967296) ho;rw[iI];have h3:=Nat.div_add_mod t 4294967296;generalize t / 4294967296=q at h3 ⊢;generalize t % 4294967296=r at h3 h1 ⊢;have h4:wt p*(4294967296*q+r)=wt p*(a+o+c):=by rw[h3,ht]
 rw[bP,bP,bP,<-bZ,bN (wt p) 4294967296]at h4;omega
def Zf(out:List Nat)(p:Nat):Prop:=∀(j:Nat) z,p<=j->out[j]? =some z->z=0
theorem Zf.set{p x:Nat}(h:Zf out p)(hk:k<p):Zf (out.set k x) p:=fun j z hj hz=>by
 rw[aw (by omega)]at hz;exact h j z hj hz
theorem IX(ha:a<4294967296)(hb:b<4294967296):a*b<=18446744065119617025:=by
 have:a*b<=4294967295*4294967295:=Nat.mul_le_mul (by omega) (by omega);omega
theorem FB{u:Value}{m:Nat}(hS:Old S w)(hn:dV w S v n)(hm:dV w S u m)(hln:ln n<=1000000000000)(hlm:ln m<=1000000000000):
  du PG N.n9 #[v,u] w (eD w fun v' w2=>dV w2 (Nf w w2) v' (n*m)):=by
 obtain⟨x,rfl,hp1,hp2⟩:=hn.la;obtain⟨y,rfl,hq1,hq2⟩:=hm.la;have hpl:=dy x.lm hp2;rw[hp1]at hpl;have hql:=dy y.lm hq2;rw[hq1]at hql;refine qm (by simp) ?_;obtain⟨L,hL⟩:∃L,L=x.ls.length+y.ls.length:=⟨_,rfl⟩
 refine⟨(L:Int),wo,L,L,rfl,rfl,aE _,by omega,by omega,Nat×List Nat×World,fun z=>⟨[(1,.o (.v (.slice y.a y.ls.length y.c))),(5,.o (.s 0 0 L L)),(18,.o (.v (.slice x.a x.ls.length x.c))),(19,.o (.v (.int .i64 x.ls.length))),(20,.o (.v (.int .i64 z.1)))],
   [(0,.arr T.uint32 (U z.2.1))],1,[],z.2.2⟩,fun z=>x.ls.length-z.1,
  fun z=>z.1<=x.ls.length∧cQ w.heap.size w z.2.2∧z.2.1.length=L∧Lm z.2.1∧val z.2.1=val (x.ls.take z.1)*m∧Zf z.2.1 (z.1+y.ls.length),?_,?_⟩
 ·intro O w' r;rw[qt]at r;exact⟨(0,List.replicate L 0,w'),⟨by simp,r.cI,by simp,Lm.replicate _,by simp[val,l8],fun j z _ hz=>by simp only[List.getElem?_replicate]at hz;split at hz<;>simp_all⟩,Sub.gn [] r⟩
 ·rintro⟨i,out,w1⟩ ⟨hi,hw,hol,hlm1,hv,hz⟩;dsimp only at hi hw hol hlm1 hv hz ⊢;refine dH.mk (fun h=>?_) (fun h=>?_)
  ·have h:i<x.ls.length:=by simpa using h
   obtain⟨xi,hxi⟩:∃k,x.ls[i]? =some k:=⟨_,aA h⟩
   obtain⟨ad,had,hload⟩:=x.load hS hw hxi;have hx32:=x.lm.at hxi
   refine⟨ad,had,by omega,.int .u32 xi,hload _ _ _,Nat×List Nat×Nat×World,fun z=>⟨[(1,.o (.v (.slice y.a y.ls.length y.c))),(5,.o (.s 0 0 L L)),(18,.o (.v (.slice x.a x.ls.length x.c))),(19,.o (.v (.int .i64 x.ls.length))),(20,.o (.v (.int .i64 i))),
     (6,.o (.v (.int .i64 i))),(7,.o (.v (.int .u32 xi))),(8,.o (.v (.int .u64 z.2.2.1))),(25,.o (.v (.slice y.a y.ls.length y.c))),(26,.o (.v (.int .i64 y.ls.length))),(27,.o (.v (.int .i64 z.1)))],
     [(0,.arr T.uint32 (U z.2.1))],1,[],z.2.2.2⟩,fun z=>y.ls.length-z.1,
    fun z=>z.1<=y.ls.length∧cQ w.heap.size w z.2.2.2∧z.2.1.length=L∧Lm z.2.1∧z.2.2.1<4294967296∧val z.2.1+wt (i+z.1)*z.2.2.1=val (x.ls.take i)*m+wt i*xi*val (y.ls.take z.1)∧Zf z.2.1 (i+y.ls.length),?_,?_⟩
   ·intro O w' r;exact⟨(0,out,0,w'),⟨by simp,hw.tr r.cI,hol,hlm1,by simp,by simp[val,hv],hz⟩,Sub.gn [] r⟩
   ·rintro⟨k,out,c,w1⟩ ⟨hk,hw,hol,hlm1,hc,hv,hz⟩;dsimp only at hk hw hol hlm1 hc hv hz ⊢;refine dH.mk (fun h2=>?_) (fun h2=>?_)
    ·have h2:k<y.ls.length:=by simpa using h2
     obtain⟨yk,hyk⟩:∃q,y.ls[k]? =some q:=⟨_,aA h2⟩
     obtain⟨ad2,had2,hload2⟩:=y.load hS hw hyk;have hy32:=y.lm.at hyk;obtain⟨o,ho⟩:∃q,out[i+k]? =some q:=⟨_,aA (by omega)⟩
     have ho32:=hlm1.at ho;have hm64:=IX hx32 hy32;refine⟨ad2,had2,by omega,.int .u32 yk,hload2 _ _ _,(xi:Int),eL (by omega),(yk:Int),eL (by omega),((xi*yk:Nat):Int),by rw[<-Int.natCast_mul];exact eL (by omega),((i+k:Nat):Int),wo,by omega,.int .u32 o,by rw[aJ,aU,ai];exact s0 ho,(o:Int),eL (by omega),((xi*yk+o:Nat):Int),by rw[<-Int.natCast_add];exact eL (by omega),?_⟩;obtain⟨t,ht⟩:∃t,t=xi*yk+o+c:=⟨_,rfl⟩
     refine⟨(t:Int),by rw[<-Int.natCast_add,<-ht];exact eL (by omega),((i+k:Nat):Int),wo,((t % 4294967296:Nat):Int),e9 _,by decide,((t / 4294967296:Nat):Int),kj 32 (by decide),by omega,by rw[fg];omega,U (out.set (i+k) (t % 4294967296)),iM out (i+k) _ (by omega) (by simp only[aJ];omega),((k+1:Nat):Int),wo,?_⟩;intro ρ3 w3 r3
     refine⟨(k+1,out.set (i+k) (t % 4294967296),t / 4294967296,w3),⟨by dsimp only;omega,hw.tr r3.cI,by simp[hol],hlm1.set (bo _ (by decide)),by dsimp only;omega,?_,hz.set (by omega)⟩,
      Sub.gn [] r3,by dsimp only;omega⟩
     have h5:=EU (a:=xi*yk) ho hv ht;dsimp only
     rw[show i+(k+1)=i+k+1 by omega,h5,dP hyk,Ai,bP,Nat.add_assoc];congr 2;simp only[bZ,Nat.mul_left_comm,bN]
    ·have hkn:k=y.ls.length:=by
      have:¬k<y.ls.length:=by simpa using h2
      omega
     subst hkn;obtain⟨o,ho⟩:∃q,out[i+y.ls.length]? =some q:=⟨_,aA (by omega)⟩
     have ho0:=hz _ _ (aE _) ho;subst ho0;refine⟨((i+y.ls.length:Nat):Int),wo,(c:Int),by rw[e9,bI hc],by omega,by rw[fg];omega,U (out.set (i+y.ls.length) c),iM out (i+y.ls.length) _ (by omega) (by simp only[aJ];omega),((i+1:Nat):Int),wo,?_⟩;intro ρ3 w3 r3
     refine⟨(i+1,out.set (i+y.ls.length) c,w3),⟨by dsimp only;omega,hw.tr r3.cI,by simp[hol],hlm1.set hc,?_,?_⟩,
      Sub.gn [] r3,by dsimp only;omega⟩
     ·have h5:=wC (x:=c) ho;dsimp only
      rw[bF,hq1]at hv;rw[dP hxi,Nat.add_mul];omega
     ·intro j z hj hjz;dsimp only at hj;rw[aw (by omega)]at hjz;exact hz j z (by omega) hjz
  ·have hin:i=x.ls.length:=by
    have:¬i<x.ls.length:=by simpa using h
    omega
   subst hin;have hfin:val out=n*m:=by rw[hv,bF,hp1]
   refine fz (Φ:=fun O _ v w2=>dA w2 (fun g=>g=(O 0).g) v (dT out)) (H':=[]) 0 rfl (by simp) trivial rfl (fun O w' r=>r.nn 0 _ rfl (by intros;simp) (by simp)) (fun O w' r=>?_) ?_
   ·have hL:=r.mS (id:=0) rfl hlm1 (by omega);rw[hol]at hL;exact eo (fun g hg=>by rw[hg];exact(r.low 0 _ rfl (r.nn 0 _ rfl (by intros;simp) (by simp))).2) hL
   rintro O w' v w2 r he hb hL;replace hw:=hw.tr hb;have hlow:=r.low 0 _ rfl (r.nn 0 _ rfl (by intros;simp) (by simp));generalize (O 0).g=g at*
   have hs:=he.size;intro ρ3 w3 r3;refine⟨_,rfl,hw.tr r3.cI,dT out,?_,(eW out).2.1,?_⟩
   ·refine(hL.cB fun k hk=>?_).cC fun k hk=>.inr ?_
    ·rw[hk];exact r3.ou.block g (by omega) (by simp)
    ·rw[hk];have:=r3.size;omega
   ·rw[(eW out).1,hfin]
theorem BI{q:Nat}(ho:o<2^k):o ||| 2^k*q=o+2^k*q:=by
 rw[Nat.or_comm,<-Nat.two_pow_add_eq_or_of_lt ho,Nat.add_comm]
theorem H8{x y:Nat}(hx:x<18446744073709551616)(hy:y<18446744073709551616):IntKind.u64.wrap ((BitVec.ofInt IntKind.u64.bits x ||| BitVec.ofInt IntKind.u64.bits y).toNat:Int)=((x ||| y:Nat):Int):=by
 have e:∀z:Nat,BitVec.ofInt 64 (z:Int)=BitVec.ofNat 64 z:=fun z=>by
  apply BitVec.eq_of_toNat_eq;simp
 show IntKind.u64.wrap ((BitVec.ofInt 64 x ||| BitVec.ofInt 64 y).toNat:Int)=_;rw[e,e,BitVec.toNat_or,BitVec.toNat_ofNat,BitVec.toNat_ofNat,bI hx,bI hy];exact eL (Nat.or_lt_two_pow (n:=64) hx hy)
theorem BH(hk:k<=63)(h:a*2^k<18446744073709551616):IntKind.u64.wrap ((a:Int)*2^min ((k:Int)).toNat IntKind.u64.bits)=((a*2^k:Nat):Int):=by
 have h1:min ((k:Int)).toNat IntKind.u64.bits=k:=by show min ((k:Int)).toNat 64=k;omega
 rw[h1,show(a:Int)*2^k=((a*2^k:Nat):Int) by simp];exact eL h
theorem EX(ha:ls[i]? =some a)(ho:out[i]? =some o)(hz:out[i+1]? =some 0)(hv:val out=val (ls.take i)*2^b):
  val ((out.set i (o+a*2^b % 4294967296)).set (i+1) (a*2^b / 4294967296))=val (ls.take (i+1))*2^b:=by
 have h1:=wC (x:=o+a*2^b % 4294967296) ho;have h2:(out.set i (o+a*2^b % 4294967296))[i+1]? =some 0:=by rw[aw (by omega)];exact hz
 have h3:=wC (x:=a*2^b / 4294967296) h2;rw[dP ha,Nat.add_mul,bZ];rw[iI]at h3;generalize a*2^b=t at*
 have h4:=Nat.div_add_mod t 4294967296;generalize t / 4294967296=q at*
 generalize t % 4294967296=r at*
 have h5:wt i*(o+r)=wt i*o+wt i*r:=bP _ _ _;have h6:4294967296*wt i*q=wt i*(4294967296*q):=by rw[bN 4294967296 (wt i),bZ]
 rw[<-h4,bP];omega
def Ha(w w2:World)(v:Value)(ls:List Nat):Prop:=∃g,v= .slice (some ⟨g,0,none⟩) ls.length ls.length∧w.heap.size<=g∧w2.heap[g]? =some (.cells (U ls).toArray T.uint32 (0,0))∧Lm ls
theorem AM(hS:Old S w)(h:dA w S v ls)(hl:ls.length<=1000000000000)(hb:b<32):
  du PG N.lO #[v,.int .u64 b] w (eD w fun v' w2=>∃out,Ha w w2 v' out∧out.length=ls.length+1∧val out=val ls*2^b):=by
 obtain⟨x,rfl,rfl⟩:=h.la;refine ot (by simp) ?_;have hp32:2^b<=2^31:=Nat.pow_le_pow_right (by decide) (by omega)
 refine⟨((x.ls.length+1:Nat):Int),wo,x.ls.length+1,x.ls.length+1,rfl,rfl,aE _,by omega,by omega,Nat×List Nat×World,fun z=>⟨[(1,.o (.v (.int .u64 b))),(5,.o (.s 0 0 (x.ls.length+1) (x.ls.length+1))),(13,.o (.v (.slice x.a x.ls.length x.c))),(14,.o (.v (.int .i64 x.ls.length))),(15,.o (.v (.int .i64 z.1)))],
   [(0,.arr T.uint32 (U z.2.1))],1,[],z.2.2⟩,fun z=>x.ls.length-z.1,
  fun z=>z.1<=x.ls.length∧cQ w.heap.size w z.2.2∧z.2.1.length=x.ls.length+1∧Lm z.2.1∧val z.2.1=val (x.ls.take z.1)*2^b∧Zf z.2.1 (z.1+1)∧(∀o,z.2.1[z.1]? =some o->o<2^b),?_,?_⟩
 ·intro O w' r;rw[qt]at r;refine⟨(0,List.replicate (x.ls.length+1) 0,w'),⟨by simp,r.cI,by simp,Lm.replicate _,by simp[val,l8],fun j z _ hz=>?_,fun o ho=>?_⟩,Sub.gn [] r⟩
  ·simp only[List.getElem?_replicate]at hz;split at hz<;>simp_all
  ·simp only[List.getElem?_replicate]at ho;split at ho
   ·injection ho with ho;subst ho;exact bj _
   ·cases ho
 ·rintro⟨i,out,w1⟩ ⟨hi,hw,hol,hlm1,hv,hz,hlow⟩;dsimp only at hi hw hol hlm1 hv hz hlow ⊢;refine dH.mk (fun h=>?_) (fun h=>?_)
  ·have h:i<x.ls.length:=by simpa using h
   obtain⟨a,hxi⟩:∃k,x.ls[i]? =some k:=⟨_,aA h⟩
   obtain⟨ad,had,hload⟩:=x.load hS hw hxi;have hx32:=x.lm.at hxi;obtain⟨o,ho⟩:∃q,out[i]? =some q:=⟨_,aA (by omega)⟩
   obtain⟨o1,ho1⟩:∃q,out[i+1]? =some q:=⟨_,aA (by omega)⟩
   have e0:=hz _ _ (aE _) ho1;subst e0;have hlo:=hlow o ho;have hstep:=EX hxi ho ho1 hv;have hab:a*2^b<=4294967295*2^31:=Nat.mul_le_mul (by omega) hp32;have hhi:a*2^b / 4294967296<2^b:=by
    rw[Nat.div_lt_iff_lt_mul (by decide),bN (2^b)];exact Nat.mul_lt_mul_of_pos_right hx32 (bj b)
   have hor:o ||| a*2^b % 4294967296=o+a*2^b % 4294967296:=by
    have:a*2^b % 4294967296=2^b*(a % 2^(32-b)):=by
     rw[show (4294967296:Nat)=2^(32-b)*2^b by rw[<-Nat.pow_add,Nat.sub_add_cancel (by omega)],Nat.mul_mod_mul_right,bN]
    rw[this];exact BI hlo
   have hsm:o+a*2^b % 4294967296<4294967296:=by
    rw[<-hor];exact BX (by omega) (bo _ (by decide))
   refine⟨ad,had,by omega,.int .u32 a,hload _ _ _,(a:Int),eL (by omega),by omega,((a*2^b:Nat):Int),BH (by omega) (by omega),?_⟩;generalize ht:a*2^b=t at*
   refine⟨by omega,.int .u32 o,by rw[aJ,aU,ai];exact s0 ho,((t % 4294967296:Nat):Int),e9 _,((o+t % 4294967296:Nat):Int),by rw[<-hor];exact Kv (by omega) (bo _ (by decide)),by omega,by rw[fg];omega,U (out.set i (o+t % 4294967296)),iM out i _ (by omega) (by simp),((i+1:Nat):Int),wo,by decide,((t / 4294967296:Nat):Int),kj 32 (by decide),((t / 4294967296:Nat):Int),by rw[e9];omega,by omega,by rw[fg];simp;omega,U ((out.set i (o+t % 4294967296)).set (i+1) (t / 4294967296)),iM _ (i+1) _ (by simp;omega) (by simp only[aJ];omega),((i+1:Nat):Int),wo,?_⟩;intro ρ3 w3 r3
   refine⟨(i+1,(out.set i (o+t % 4294967296)).set (i+1) (t / 4294967296),w3),⟨by dsimp only;omega,hw.tr r3.cI,by simp[hol],(hlm1.set hsm).set (by omega),hstep,fun j z hj hjz=>?_,fun o2 ho2=>?_⟩,
    Sub.gn [] r3,by dsimp only;omega⟩
   ·dsimp only at hj;rw[aw (by omega),aw (by omega)]at hjz;exact hz j z (by omega) hjz
   ·rw[aT (by simp;omega)]at ho2;injection ho2 with ho2;omega
  ·have hin:i=x.ls.length:=by
    have:¬i<x.ls.length:=by simpa using h
    omega
   subst hin;rw[bF]at hv;intro ρ3 w3 r3;refine⟨_,rfl,hw.tr r3.cI,out,⟨(ρ3 0).g,by rw[hol];rfl,(r3.low 0 _ rfl (r3.nn 0 _ rfl (by intros;simp) (by simp))).1,r3.arr 0 _ _ rfl,hlm1⟩,hol,hv⟩
theorem Aa{d q:Nat}(ha32:a<4294967296)(ha:ls[i]? =some a)(hd:out[i]? =some d)(hb:b<=32)(ht:t=a+4294967296*ls.getD (i+1) 0)(hq:q=t / 2^b % 4294967296)(hv:val (out.take i)+wt i*(val (ls.drop i) / 2^b)=V):
  val ((out.set i q).take (i+1))+wt (i+1)*(val (ls.drop (i+1)) / 2^b)=V:=by
 have hi:=(aC.1 hd).1;have h1:(out.set i q)[i]? =some q:=by rw[aT hi]
 rw[dP h1,List.take_set_of_le (aE _),iI,<-hv];have hN:=iW ha;have h2:val (ls.drop i) / 2^b=q+4294967296*(val (ls.drop (i+1)) / 2^b):=by
  have e1:val (ls.drop i) / 2^b / 4294967296=val (ls.drop (i+1)) / 2^b:=by
   rw[Nat.div_div_eq_div_mul,bN,<-Nat.div_div_eq_div_mul];congr 1;omega
  have e2:val (ls.drop i) / 2^b % 4294967296=q:=by
   have h3:∃z,val (ls.drop i)=t+2^b*(4294967296*z):=by
    cases hx:ls[i+1]? with
    |some y=>
     have:=iW hx;refine⟨2^(32-b)*val (ls.drop (i+1+1)),?_⟩;have h4:2^b*(4294967296*(2^(32-b)*val (ls.drop (i+1+1))))=18446744073709551616*val (ls.drop (i+1+1)):=by
      rw[Nat.mul_left_comm,<-bZ (2^b),<-Nat.pow_add,Nat.add_sub_cancel' hb,<-bZ]
     rw[h4,hN,this,ht,List.getD,hx];simp only[Option.getD_some]
     omega
    |none=>
     refine⟨0,?_⟩;have h5:ls.length<=i+1:=List.getElem?_eq_none_iff.1 hx;rw[hN,List.drop_of_length_le h5,ht,List.getD,hx];simp[val]
   obtain⟨z,hz⟩:=h3;rw[hz,Nat.add_mul_div_left _ _ (bj b),Nat.add_mul_mod_self_left,hq]
  have:=Nat.div_add_mod (val (ls.drop i) / 2^b) 4294967296;rw[e1,e2]at this;omega
 rw[h2,bP,bN 4294967296 (wt i),bZ];omega
theorem KM(hS:Old S w)(h:dA w S v ls)(hl:ls.length<=1000000000000)(hb:b<32):
  du PG N.oa #[v,.int .u64 b] w (eD w fun v' w2=>dV w2 (Nf w w2) v' (val ls / 2^b)):=by
 obtain⟨x,rfl,rfl⟩:=h.la;refine sY (by simp) ?_
 refine⟨x.ls.length,x.ls.length,rfl,rfl,aE _,by omega,by omega,Nat×List Nat×World,fun z=>⟨[(0,.o (.v (.slice x.a x.ls.length x.c))),(1,.o (.v (.int .u64 b))),(5,.o (.s 0 0 x.ls.length x.ls.length)),(12,.o (.v (.int .i64 x.ls.length))),(13,.o (.v (.int .i64 z.1)))],
   [(0,.arr T.uint32 (U z.2.1))],1,[],z.2.2⟩,fun z=>x.ls.length-z.1,
  fun z=>z.1<=x.ls.length∧cQ w.heap.size w z.2.2∧z.2.1.length=x.ls.length∧Lm z.2.1∧val (z.2.1.take z.1)+wt z.1*(val (x.ls.drop z.1) / 2^b)=val x.ls / 2^b,?_,?_⟩
 ·intro O w' r;rw[qt]at r;exact⟨(0,List.replicate x.ls.length 0,w'),⟨by simp,r.cI,by simp,Lm.replicate _,by simp[val,ij]⟩,Sub.gn [] r⟩
 ·rintro⟨i,out,w1⟩ ⟨hi,hw,hol,hlm1,hv⟩;dsimp only at hi hw hol hlm1 hv ⊢;refine dH.mk (fun h=>?_) (fun h=>?_)
  ·have h:i<x.ls.length:=by simpa using h
   obtain⟨a,hxi⟩:∃k,x.ls[i]? =some k:=⟨_,aA h⟩
   obtain⟨ad,had,hload⟩:=x.load hS hw hxi;have hx32:=x.lm.at hxi;obtain⟨d,hd⟩:∃q,out[i]? =some q:=⟨_,aA (by omega)⟩
   refine⟨ad,had,by omega,.int .u32 a,hload _ _ _,(a:Int),eL (by omega),((i+1:Nat):Int),wo,?_⟩;refine dH.mk (fun h2=>?_) (fun h2=>?_)
   ·have h2:i+1<x.ls.length:=by
     have:((i+1:Nat):Int)<x.ls.length:=aH h2;omega
    obtain⟨y,hy⟩:∃k,x.ls[i+1]? =some k:=⟨_,aA h2⟩
    obtain⟨ad2,had2,hload2⟩:=x.load hS hw hy;have hy32:=x.lm.at hy;have hgd:x.ls.getD (i+1) 0=y:=by simp[List.getD,hy]
    have hor:a ||| y*2^32=a+4294967296*y:=by
     rw[bN];exact BI (k:=32) hx32
    refine⟨((i+1:Nat):Int),wo,ad2,had2,by omega,.int .u32 y,hload2 _ _ _,(y:Int),eL (by omega),by decide,((y*2^32:Nat):Int),BH (k:=32) (by decide) (by omega),((a+4294967296*y:Nat):Int),by rw[H8 (by omega) (by omega),hor],by omega,(((a+4294967296*y) / 2^b:Nat):Int),kj b (by omega),(((a+4294967296*y) / 2^b % 4294967296:Nat):Int),e9 _,?_⟩;have hstep:=Aa (t:=a+4294967296*y) hx32 hxi hd (by omega) (by rw[hgd]) rfl hv;generalize hq:(a+4294967296*y) / 2^b % 4294967296=q at*
    have hq32:q<4294967296:=by rw[<-hq];exact bo _ (by decide)
    refine⟨by omega,by rw[fg];omega,U (out.set i q),iM out i _ (by omega) (by simp),((i+1:Nat):Int),wo,?_⟩;intro ρ3 w3 r3
    exact⟨(i+1,out.set i q,w3),⟨by dsimp only;omega,hw.tr r3.cI,by simp[hol],hlm1.set hq32,hstep⟩,
     Sub.gn [] r3,by dsimp only;omega⟩
   ·have h2:¬i+1<x.ls.length:=by
     have:¬((i+1:Nat):Int)<x.ls.length:=aG h2;omega
    have hgd:x.ls.getD (i+1) 0=0:=by simp[List.getD,List.getElem?_eq_none (show x.ls.length<=i+1 by omega)]
    refine⟨by omega,((a / 2^b:Nat):Int),kj b (by omega),((a / 2^b % 4294967296:Nat):Int),e9 _,?_⟩;have hstep:=Aa (t:=a) hx32 hxi hd (by omega) (by rw[hgd];omega) rfl hv;generalize hq:a / 2^b % 4294967296=q at*
    have hq32:q<4294967296:=by rw[<-hq];exact bo _ (by decide)
    refine⟨by omega,by rw[fg];omega,U (out.set i q),iM out i _ (by omega) (by simp),((i+1:Nat):Int),wo,?_⟩;intro ρ3 w3 r3
    exact⟨(i+1,out.set i q,w3),⟨by dsimp only;omega,hw.tr r3.cI,by simp[hol],hlm1.set hq32,hstep⟩,
     Sub.gn [] r3,by dsimp only;omega⟩
  ·have hin:i=x.ls.length:=by
    have:¬i<x.ls.length:=by simpa using h
    omega
   subst hin;have hfin:val out=val x.ls / 2^b:=by
    rw[List.drop_length,List.take_of_length_le (by omega)]at hv;simpa [val]using hv
   refine fz (Φ:=fun O _ v w2=>dA w2 (fun g=>g=(O 0).g) v (dT out)) (H':=[]) 0 rfl (by simp) trivial rfl (fun O w' r=>r.nn 0 _ rfl (by intros;simp) (by simp)) (fun O w' r=>?_) ?_
   ·have hL:=r.mS (id:=0) rfl hlm1 (by omega);rw[hol]at hL;exact eo (fun g hg=>by rw[hg];exact(r.low 0 _ rfl (r.nn 0 _ rfl (by intros;simp) (by simp))).2) hL
   rintro O w' v w2 r he hb hL;replace hw:=hw.tr hb;have hlow:=r.low 0 _ rfl (r.nn 0 _ rfl (by intros;simp) (by simp));generalize (O 0).g=g at*
   have hs:=he.size;intro ρ3 w3 r3;refine⟨_,rfl,hw.tr r3.cI,dT out,?_,(eW out).2.1,?_⟩
   ·refine(hL.cB fun k hk=>?_).cC fun k hk=>.inr ?_
    ·rw[hk];exact r3.ou.block g (by omega) (by simp)
    ·rw[hk];have:=r3.size;omega
   ·rw[(eW out).1,hfin]
theorem EY{by_ rest x d:Nat}(hx:ls[k]? =some x)(hd:out[k]? =some d)(ht:t=rest*4294967296+x)
  (hv:val (ls.drop (k+1))=by_*val (out.drop (k+1))+rest):val (ls.drop k)=by_*val ((out.set k (t / by_)).drop k)+t % by_:=by
 have hi:=(aC.1 hd).1;have h1:(out.set k (t / by_))[k]? =some (t / by_):=by rw[aT hi]
 rw[iW h1,List.drop_set_of_lt (show k<k+1 by omega),iW hx,hv,bP,bP];have h2:=Nat.div_add_mod t by_;rw[Nat.mul_left_comm by_];omega
theorem H9(h:t<18446744073709551616):IntKind.u64.wrap ((t:Int).tdiv (b:Int))=((t / b:Nat):Int):=by
 have h1:=Nat.div_le_self t b;rw[Int.tdiv_eq_ediv_of_nonneg (by omega),<-Int.natCast_ediv];exact eL (by omega)
theorem IK(t b:Nat):(t:Int).tmod (b:Int)=((t % b:Nat):Int):=by
 rw[Int.tmod_eq_emod_of_nonneg (by omega),<-Int.natCast_emod]
theorem JF(hS:Old S w)(h:dA w S v ls)(hl:ls.length<=1000000000000)(hb:0<b)(hb2:b<4294967296):
  du PG N.nd #[v,.int .u32 b] w (eD w fun v' w2=>∃q,v'= .tuple #[q,.int .u32 ((val ls % b:Nat):Int)]∧dV w2 (Nf w w2) q (val ls / b)):=by
 obtain⟨x,rfl,rfl⟩:=h.la;refine qo (by simp) ?_
 refine⟨x.ls.length,x.ls.length,rfl,rfl,aE _,by omega,by omega,(x.ls.length:Int)-1,wo,Nat×Nat×List Nat×World,fun z=>⟨[(0,.o (.v (.slice x.a x.ls.length x.c))),(1,.o (.v (.int .u32 b))),(4,.o (.v (.slice none 0 0))),(5,.o (.v (.int .u32 0))),(6,.o (.s 0 0 x.ls.length x.ls.length)),(7,.o (.v (.int .u64 z.2.1))),(8,.o (.v (.int .i64 ((z.1:Int)-1))))],
   [(0,.arr T.uint32 (U z.2.2.1))],1,[],z.2.2.2⟩,fun z=>z.1,
  fun z=>z.1<=x.ls.length∧cQ w.heap.size w z.2.2.2∧z.2.2.1.length=x.ls.length∧Lm z.2.2.1∧z.2.1<b∧val (x.ls.drop z.1)=b*val (z.2.2.1.drop z.1)+z.2.1,?_,?_⟩
 ·intro O w' r;rw[qt]at r;exact⟨(x.ls.length,0,List.replicate x.ls.length 0,w'),⟨by simp,r.cI,by simp,Lm.replicate _,by simpa using hb,by simp[val]⟩,Sub.gn [] r⟩
 ·rintro⟨k,rest,out,w1⟩ ⟨hi,hw,hol,hlm1,hr,hv⟩;dsimp only at hi hw hol hlm1 hr hv ⊢;refine dH.mk (fun h=>?_) (fun h=>?_)
  ·have h:(k:Int)-1≥0:=aH h;obtain⟨k,rfl⟩:∃q,k=q+1:=⟨k-1,by omega⟩
   rw[show ((k+1:Nat):Int)-1=(k:Int) by omega];obtain⟨a,hxi⟩:∃q,x.ls[k]? =some q:=⟨_,aA (by omega)⟩
   obtain⟨ad,had,hload⟩:=x.load hS hw hxi;have hx32:=x.lm.at hxi;obtain⟨d,hd⟩:∃q,out[k]? =some q:=⟨_,aA (by omega)⟩
   refine⟨by decide,((rest*2^32:Nat):Int),BH (k:=32) (by decide) (by omega),ad,had,by omega,.int .u32 a,hload _ _ _,(a:Int),eL (by omega),?_⟩;have hor:rest*2^32 ||| a=rest*4294967296+a:=by
    rw[Nat.or_comm,bN,BI (k:=32) hx32];omega
   refine⟨((rest*4294967296+a:Nat):Int),by rw[H8 (by omega) (by omega),hor],?_⟩;generalize ht:rest*4294967296+a=t;have ht64:t<18446744073709551616:=by omega
   refine cD hτ df [.x 0,.x 1,.x 2,.x 3,.x 4,.x 5,.x 6,.x 7,.x 8,.x 9,.x 10,.x 11,.x 12,.x 13] (by kernel_rfl) (by kernel_rfl) ?_;refine⟨(b:Int),eL (by omega),by omega,((t / b:Nat):Int),H9 ht64,?_⟩;have hq:t / b<4294967296:=by
    rw[Nat.div_lt_iff_lt_mul hb];have:=Nat.mul_le_mul_right 4294967296 hr;rw[Nat.succ_eq_add_one,Nat.add_mul]at this;omega
   have hm:t % b<b:=bo _ hb;have hstep:=EY hxi hd ht.symm hv;have hw32:IntKind.u32.wrap ((t / b:Nat):Int)=((t / b:Nat):Int):=by rw[e9,bI hq]
   have hrem:=IK t b;generalize t / b=q at*
   generalize t % b=m at*
   refine⟨(q:Int),hw32,(b:Int),eL (by omega),by omega,(m:Int),hrem,by omega,by rw[fg];omega,U (out.set k q),iM out k _ (by omega) (by simp),(k:Int)-1,wo,?_⟩;intro ρ3 w3 r3
   exact⟨(k,m,out.set k q,w3),⟨by dsimp only;omega,hw.tr r3.cI,by simp[hol],hlm1.set hq,hm,hstep⟩,
    Sub.gn [] r3,by dsimp only;omega⟩
  ·have hk0:k=0:=by
    have:¬(k:Int)-1≥0:=aG h;omega
   subst hk0;rw[List.drop_zero,List.drop_zero]at hv;have hdm:val x.ls / b=val out∧val x.ls % b=rest:=by
    rw[hv];exact⟨by rw[Nat.mul_add_div hb,Nat.div_eq_of_lt hr,bq],by rw[Nat.mul_add_mod,bI hr]⟩
   rw[hdm.1,hdm.2];refine fz (Φ:=fun O _ v w2=>dA w2 (fun g=>g=(O 0).g) v (dT out)) (H':=[]) 0 rfl (by simp) trivial rfl (fun O w' r=>r.nn 0 _ rfl (by intros;simp) (by simp)) (fun O w' r=>?_) ?_
   ·have hL:=r.mS (id:=0) rfl hlm1 (by omega);rw[hol]at hL;exact eo (fun g hg=>by rw[hg];exact(r.low 0 _ rfl (r.nn 0 _ rfl (by intros;simp) (by simp))).2) hL
   rintro O w' v w2 r he hb hL;replace hw:=hw.tr hb;have hlow:=r.low 0 _ rfl (r.nn 0 _ rfl (by intros;simp) (by simp));generalize (O 0).g=g at*
   have hs:=he.size;refine⟨(rest:Int),by rw[e9,bI (by omega)],?_⟩;intro ρ3 w3 r3;refine⟨_,rfl,hw.tr r3.cI,v,rfl,dT out,?_,(eW out).2.1,(eW out).1⟩;refine(hL.cB fun k hk=>?_).cC fun k hk=>.inr ?_
   ·rw[hk];exact r3.ou.block g (by omega) (by simp)
   ·rw[hk];have:=r3.size;omega
def gA(n:Nat):Nat:=if n=0 then 0 else n.log2+1
theorem H4{x:Nat}(h:2^k<=x):x.log2=(x / 2^k).log2+k:=by
 have hp:=bj k;have hy:x / 2^k≠0:=by have:=Nat.div_pos h hp;omega
 have h1:=Nat.log2_self_le hy;have h2:=@Nat.lt_log2_self (x / 2^k);rw[Nat.log2_eq_iff (by omega)];refine⟨?_,?_⟩
 ·rw[Nat.pow_add];exact(Nat.le_div_iff_mul_le hp).1 h1
 ·rw[show (x / 2^k).log2+k+1=(x / 2^k).log2+1+k by omega,Nat.pow_add];exact(Nat.div_lt_iff_lt_mul hp).1 h2
theorem yZ{x:Nat}(h:2^k<=x):gA x=k+gA (x / 2^k):=by
 have hp:=bj k;have hy:x / 2^k≠0:=by have:=Nat.div_pos h hp;omega
 rw[gA,gA,aF hy,aF (by omega),H4 h];omega
theorem wI(h:n<256):IntKind.u8.wrap (n:Int)=(n:Int):=by
 show((n:Int) % 256)=_;omega
theorem wJ(h:n<256):(UInt8.ofNat (gA n)).toNat=gA n:=by
 have:∀n,n<256->(UInt8.ofNat (gA n)).toNat=gA n:=by decide +kernel
 exact this n h
theorem nK{x:Nat}(h:x<256):gA x<=8:=by
 have:∀n,n<256->gA n<=8:=by decide +kernel
 exact this x h
theorem Ey(n:Nat)(h:n<256):(⟨#[0,1,2,2,3,3,3,3,4,4,4,4,4,4,4,4,5,5,5,5,5,5,5,5,5,5,5,5,5,5,5,5,6,6,6,6,6,6,6,6,6,6,6,6,6,6,6,6,6,6,6,6,6,6,6,6,6,6,6,6,6,6,6,6,7,7,7,7,7,7,7,7,7,7,7,7,7,7,7,7,7,7,7,7,7,7,7,7,7,7,7,7,7,7,7,7,7,7,7,7,7,7,7,7,7,7,7,7,7,7,7,7,7,7,7,7,7,7,7,7,7,7,7,7,7,7,7,7,8,8,8,8,8,8,8,8,8,8,8,8,8,8,8,8,8,8,8,8,8,8,8,8,8,8,8,8,8,8,8,8,8,8,8,8,8,8,8,8,8,8,8,8,8,8,8,8,8,8,8,8,8,8,8,8,8,8,8,8,8,8,8,8,8,8,8,8,8,8,8,8,8,8,8,8,8,8,8,8,8,8,8,8,8,8,8,8,8,8,8,8,8,8,8,8,8,8,8,8,8,8,8,8,8,8,8,8,8,8,8,8,8,8,8,8,8,8,8,8,8,8,8,8,8,8,8,8]⟩:ByteArray)[((n:Nat):Int).toNat]? =some (UInt8.ofNat (gA n)):=by
 have:∀n,n<256->(⟨#[0,1,2,2,3,3,3,3,4,4,4,4,4,4,4,4,5,5,5,5,5,5,5,5,5,5,5,5,5,5,5,5,6,6,6,6,6,6,6,6,6,6,6,6,6,6,6,6,6,6,6,6,6,6,6,6,6,6,6,6,6,6,6,6,7,7,7,7,7,7,7,7,7,7,7,7,7,7,7,7,7,7,7,7,7,7,7,7,7,7,7,7,7,7,7,7,7,7,7,7,7,7,7,7,7,7,7,7,7,7,7,7,7,7,7,7,7,7,7,7,7,7,7,7,7,7,7,7,8,8,8,8,8,8,8,8,8,8,8,8,8,8,8,8,8,8,8,8,8,8,8,8,8,8,8,8,8,8,8,8,8,8,8,8,8,8,8,8,8,8,8,8,8,8,8,8,8,8,8,8,8,8,8,8,8,8,8,8,8,8,8,8,8,8,8,8,8,8,8,8,8,8,8,8,8,8,8,8,8,8,8,8,8,8,8,8,8,8,8,8,8,8,8,8,8,8,8,8,8,8,8,8,8,8,8,8,8,8,8,8,8,8,8,8,8,8,8,8,8,8,8,8,8,8,8,8]⟩:ByteArray)[n]? =some (UInt8.ofNat (gA n)):=by decide +kernel
 exact this n h
theorem JB(x:Nat)(w:World)(hx:x<4294967296):du PG N.yF #[.int .u32 x] w (eD w fun v _=>v= .int .i64 (gA x)):=by
 refine zL (by simp) ?_;refine dH.mk (fun h=>?_) (fun h=>?_)
 ·have h:65536<=x:=by have:=aH h;omega
  refine⟨by decide,((x / 2^16:Nat):Int),nL 16 (by decide),?_⟩;have hb:=yZ (k:=16) h;have hy:x / 2^16<65536:=by omega
  rw[hb];generalize x / 2^16=y at*
  refine dH.mk (fun h2=>?_) (fun h2=>?_)
  ·have h2:256<=y:=by have:=aH h2;omega
   refine⟨by decide,((y / 2^8:Nat):Int),nL 8 (by decide),?_⟩;have hb2:=yZ (k:=8) h2;have hz:y / 2^8<256:=by omega
   rw[hb2];generalize y / 2^8=z at*
   refine⟨24,by decide,(z:Int),wI hz,?_⟩;refine pJ (b:=UInt8.ofNat (gA z)) ((hτ _ _ rfl).i3 rfl) rfl rfl (by omega) (Ey z hz) (fun ρ1 w1 r1=>?_);rw[wJ hz];have ht:=nK hz;refine⟨(gA z:Int),wo,((24+gA z:Nat):Int),wo,?_⟩;intro ρ3 w3 r3;exact⟨_,rfl,r1.cI.tr r3.cI,by rw[<-Nat.add_assoc];rfl⟩
  ·have hy:y<256:=by have:=aG h2;omega
   refine⟨(y:Int),wI hy,?_⟩;refine pJ (b:=UInt8.ofNat (gA y)) ((hτ _ _ rfl).i3 rfl) rfl rfl (by omega) (Ey y hy) (fun ρ1 w1 r1=>?_);rw[wJ hy];have ht:=nK hy;refine⟨(gA y:Int),wo,((16+gA y:Nat):Int),wo,?_⟩;intro ρ3 w3 r3;exact⟨_,rfl,r1.cI.tr r3.cI,by rfl⟩
 ·have h:x<65536:=by have:=aG h;omega
  refine dH.mk (fun h2=>?_) (fun h2=>?_)
  ·have h2:256<=x:=by have:=aH h2;omega
   refine⟨by decide,((x / 2^8:Nat):Int),nL 8 (by decide),?_⟩;have hb2:=yZ (k:=8) h2;have hz:x / 2^8<256:=by omega
   rw[hb2];generalize x / 2^8=z at*
   refine⟨8,by decide,(z:Int),wI hz,?_⟩;refine pJ (b:=UInt8.ofNat (gA z)) ((hτ _ _ rfl).i3 rfl) rfl rfl (by omega) (Ey z hz) (fun ρ1 w1 r1=>?_);rw[wJ hz];have ht:=nK hz;refine⟨(gA z:Int),wo,((8+gA z:Nat):Int),wo,?_⟩;intro ρ3 w3 r3;exact⟨_,rfl,r1.cI.tr r3.cI,by rfl⟩
  ·have hx:x<256:=by have:=aG h2;omega
   refine⟨(x:Int),wI hx,?_⟩;refine pJ (b:=UInt8.ofNat (gA x)) ((hτ _ _ rfl).i3 rfl) rfl rfl (by omega) (Ey x hx) (fun ρ1 w1 r1=>?_);rw[wJ hx];have ht:=nK hx;refine⟨(gA x:Int),wo,((0+gA x:Nat):Int),wo,?_⟩;intro ρ3 w3 r3;exact⟨_,rfl,r1.cI.tr r3.cI,by rw[aU];rfl⟩
theorem wD{x:Nat}:gA x<=k↔x<2^k:=by
 unfold gA;by_cases h:x=0
 ·rw[if_pos h,h];exact⟨fun _=>bj k,fun _=>aP _⟩
 ·rw[aF h];constructor
  ·intro h1;exact(Nat.log2_lt h).1 (by omega)
  ·intro h1;have:=(Nat.log2_lt h).2 h1;omega
theorem KK(x:Nat)(w:World)(hx:x<4294967296):du PG N.jv #[.int .u32 x] w (eD w fun v _=>v= .int .i64 ((32-gA x:Nat):Int)):=by
 refine nJ (by simp) ?_;refine bu (cH (Φ:=fun _ _ v _=>v= .int .i64 (gA x)) (fun O w' r=>JB x w' hx) ?_);rintro O w' v w2 r he hb rfl;have h32:gA x<=32:=wD.2 hx;refine⟨((32-gA x:Nat):Int),wo,?_⟩;intro ρ3 w3 r3;exact⟨_,rfl,hb.tr r3.cI,rfl⟩
end Go.Ex
namespace Go.Sx
open Go Go.Ex Go.Proofs
variable{ls:List Nat}{O:Nat->Sx.dU}
theorem Rel.H5{H:Hp}{nx:Nat}{iv:Iv}{B:Nat}{w w':World}(r:Rel H nx iv B w O w'){id t m:Nat}(h:cY H id=some (.vec t 1 (U ls)))(hm:m=ls.length)(hlm:Lm ls)(hle:ls.length<=9223372036854775807):
  dA w' (fun g=>B<=g∧g<w'.heap.size) ((At.w id m).den O) ls:=by
 subst hm;rcases r.vec id t 1 _ h with⟨hn,hu⟩|⟨hn,spare,hb,hc,hcap⟩
 ·have hl:ls=[]:=by cases ls with
   |nil=>rfl
   |cons a b=>simp[U]at hu
  subst hl;have:(At.w id ([]:List Nat).length).den O= .slice none 0 0:=by simp[At.den,hn]
  rw[this];exact dA.nil _ _
 ·refine⟨hlm,hle,some ⟨(O id).g,0,none⟩,(O id).cap,by simp[At.den,hn],?_,fun j x hx=>⟨_,rfl,r.low id _ h hn,?_⟩⟩
  ·have h1:(U ls++spare).length=ls.length+spare.length:=by rw[List.length_append,fg]
   omega
  ·rw[dN,cell_of hb,aU,aK (by rw[fg];exact(aC.1 hx).1)];exact s0 hx
end Go.Sx
namespace Go.Ex
open Go Go.Sx Go.Proofs
variable{ls:List Nat}{S:Nat->Prop}
theorem JC:PG.underlying T.nat=some (.slice T.uint32):=by
 have h:=(hτ T.nat _ rfl).i4 rfl;exact h
theorem Ez{w:World}{v:Value}(hS:Old S w)(h:dA w S v ls)(hl:ls.length<=1000000000000):
  du PG N.fW #[v] w (eD w fun v' w2=>dA w2 (Nf w w2) v' ls):=by
 obtain⟨x,rfl,rfl⟩:=h.la;refine iE (by simp) ?_;refine⟨x.a.isNone,fun O w1 o1 o2=>by simp[eqGuard,SV.den,At.den,mD (P:=PG) w1 T.nat T.uint32 x.a x.ls.length x.c 0 0 JC],?_⟩;refine dH.mk (fun h=>?_) (fun h=>?_)
 ·intro ρ3 w3 r3;have hn:x.ls=[]:=by
   cases hx:x.ls with
   |nil=>rfl
   |cons u r=>
    obtain⟨ad,h1,_⟩:=x.cell 0 u (by rw[hx];rfl);rw[h1]at h;simp at h
  exact⟨_,rfl,r3.cI,by rw[hn];exact dA.nil _ _⟩
 ·refine .inl ?_;refine⟨U x.ls,by rw[fg,ai],fun u hu=>by simp only[U,aS]at hu;obtain⟨n,_,rfl⟩:=hu;rfl,fun O w1 r h0=>?_,?_⟩
  ·obtain⟨u,hu⟩:∃q,x.ls[0]? =some q:=⟨_,aA h0⟩
   obtain⟨ad,had,_⟩:=x.cell 0 u hu;refine⟨ad,had,fun j u hu=>?_⟩;simp only[U,aM,Option.map_eq_some_iff]at hu;obtain⟨n,hn,rfl⟩:=hu;obtain⟨ad2,had2,hs,hc⟩:=x.cell j n hn;rw[had]at had2;injection had2 with had2;subst had2;exact jw hS cQ.refl r hs hc
  refine⟨rfl,by omega,by unfold maxLen;omega,?_⟩;intro ρ3 w3 r3;exact⟨_,rfl,r3.cI,(r3.H5 (id:=1) rfl (aU _) x.lm x.le).cC fun g hg=>.inr hg⟩
end Go.Ex
