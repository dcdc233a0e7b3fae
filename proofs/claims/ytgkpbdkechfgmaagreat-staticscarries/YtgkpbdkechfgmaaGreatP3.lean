/- Texts L1 to X9: lemmas, each with its conditions. -/
import Derived.KernelRfl
import Derived.Test.YtgkpbdkechfgmaaGreatProg
import Derived.Test.YtgkpbdkechfgmaaGreatP2
namespace Go.Ex
variable{a b ls:List Nat}{k:Nat}
def val:List Nat->Nat
 |[]=>0
 |x::r=>x+4294967296*val r
def Lm(ls:List Nat):Prop:=∀x∈ls,x<4294967296
def wt(k:Nat):Nat:=4294967296^k
theorem jR:wt 0=1:=rfl
theorem iw(k:Nat):wt (k+1)=4294967296*wt k:=by rw[wt,Nat.pow_succ,bV];rfl
theorem Cr(a b:Nat):wt (a+b)=wt a*wt b:=by rw[wt,Nat.pow_add];rfl
theorem yp(k:Nat):0<wt k:=Nat.pow_pos (by decide)
theorem lL(a b:List Nat):val (a++b)=val a+wt a.length*val b:=by
 induction a with
 |nil=>simp[val,jR]
 |cons x r ih=>
  rw[List.cons_append,val,val,ih,List.length_cons,iw,bU,bh];omega
theorem oB(h:Lm ls):val ls<wt ls.length:=by
 induction ls with
 |nil=>exact Nat.one_pos
 |cons x r ih=>
  have h1:=h x (by simp);have h2:=ih (fun y hy=>h y (by simp[hy]));rw[val,List.length_cons,iw];have:4294967296*(val r+1)<=4294967296*wt r.length:=bY _ h2;omega
theorem ef(ls:List Nat)(k:Nat)(h:k<=ls.length):val ls=val (ls.take k)+wt k*val (ls.drop k):=by
 have:=lL (ls.take k) (ls.drop k);rw[List.take_append_drop,aW,Nat.min_eq_left h]at this;exact this
theorem dq{x:Nat}(h:ls[k]? =some x):val (ls.take (k+1))=val (ls.take k)+wt k*x:=by
 have hk:=(aD.1 h).1;rw[List.take_add_one,h,lL,aW,Nat.min_eq_left (by omega)];simp[val]
theorem jG{x:Nat}(h:ls[k]? =some x):val (ls.drop k)=x+4294967296*val (ls.drop (k+1)):=by
 obtain⟨hk,hx⟩:=aD.1 h;rw[List.drop_eq_getElem_cons hk,hx,val]
theorem yI{o x:Nat}(h:ls[k]? =some o):val (ls.set k x)+wt k*o=val ls+wt k*x:=by
 obtain⟨hk,ho⟩:=aD.1 h;have h1:=ef ls k (by omega);have h2:=ef (ls.set k x) k (by simp;omega);rw[List.take_set_of_le (aF _)]at h2;rw[jG h,bU]at h1;have h3:(ls.set k x)[k]? =some x:=by rw[aV hk]
 rw[jG h3,List.drop_set_of_lt (by omega),bU]at h2;omega
theorem mn(n:Nat):val (List.replicate n 0)=0:=by
 induction n with
 |zero=>rfl
 |succ n ih=>rw[List.replicate_succ,val,ih]
theorem Lm.set{x:Nat}(h:Lm ls)(hx:x<4294967296):Lm (ls.set k x):=fun y hy=>by
 rcases bJ hy with h1|rfl
 ·exact h y h1
 ·exact hx
theorem Lm.replicate(n:Nat):Lm (List.replicate n 0):=fun x hx=>by rw[List.mem_replicate]at hx;omega
theorem Lm.take(h:Lm ls)(k:Nat):Lm (ls.take k):=fun x hx=>h x (List.mem_of_mem_take hx)
theorem Lm.drop(h:Lm ls)(k:Nat):Lm (ls.drop k):=fun x hx=>h x (List.mem_of_mem_drop hx)
theorem Lm.append(ha:Lm a)(hb:Lm b):Lm (a++b):=fun x hx=>by
 rcases bS.1 hx with h|h
 ·exact ha x h
 ·exact hb x h
theorem Lm.at(h:Lm ls){x:Nat}(hx:ls[k]? =some x):x<4294967296:=h x (aC hx)
def dy:List Nat->List Nat
 |[]=>[]
 |x::r=>match dy r with
  |[]=>if x=0 then []else [x]
  |y::t=>x::y::t
def Nz(ls:List Nat):Prop:=∀x,ls.getLast? =some x->x≠0
theorem k6(ls:List Nat):dy (ls++[0])=dy ls:=by
 induction ls with
 |nil=>rfl
 |cons x r ih=>rw[List.cons_append,dy,ih,dy]
theorem oC(ls:List Nat){x:Nat}(hx:x≠0):dy (ls++[x])=ls++[x]:=by
 induction ls with
 |nil=>simp[dy,hx]
 |cons y r ih=>
  rw[List.cons_append,dy,ih]
  cases r<;>rfl
theorem sL(ls:List Nat):ls=[]∨∃a x,ls=a++[x]:=by
 rcases List.eq_nil_or_concat ls with h|⟨a,x,h⟩
 ·exact .inl h
 ·exact .inr ⟨a,x,by simpa using h⟩
theorem eu(ls:List Nat):val (dy ls)=val ls∧Nz (dy ls)∧∃k,k<=ls.length∧dy ls=ls.take k:=by
 have key:∀(n:Nat) (ls:List Nat),ls.length=n->val (dy ls)=val ls∧Nz (dy ls)∧∃k,k<=ls.length∧dy ls=ls.take k:=by
  intro n
  induction n with
  |zero=>intro ls h;have:ls=[]:=List.eq_nil_of_length_eq_zero h;subst this;exact⟨rfl,by simp[Nz,dy],0,aF _,rfl⟩
  |succ n ih=>
   intro ls h;rcases sL ls with rfl|⟨a,x,rfl⟩
   ·simp at h
   ·by_cases hx:x=0
    ·subst hx;rw[k6];obtain⟨h1,h2,k,h3,h4⟩:=ih a (by simp at h;omega);refine⟨by rw[h1,lL];simp[val],h2,k,by simp;omega,?_⟩;rw[h4,List.take_append_of_le_length h3]
    ·rw[oC a hx];refine⟨rfl,?_,_,aF _,by rw[bD]⟩;intro y hy;simp at hy;subst hy;exact hx
 exact key _ ls rfl
theorem Eb(h:Nz ls):dy ls=ls:=by
 rcases sL ls with rfl|⟨a,x,rfl⟩
 ·rfl
 ·exact oC a (h x (by simp))
theorem rO(h:Nz ls)(OD:ls≠[]):wt (ls.length-1)<=val ls:=by
 rcases sL ls with rfl|⟨a,x,rfl⟩
 ·exact absurd rfl OD
 ·have hx:=h x (by simp);rw[lL];simp only[val,List.length_append,List.length_singleton,Nat.add_sub_cancel]
  have:wt a.length*1<=wt a.length*(x+4294967296*0):=bY _ (by omega);omega
theorem val_inj:∀{a b:List Nat},Lm a->Lm b->a.length=b.length->val a=val b->a=b
 |[],[],_,_,_,_=>rfl
 |x::r,y::s,ha,hb,hl,h=>by
  have h1:=ha x (by simp);have h2:=hb y (by simp);rw[val,val]at h;have h3:x=y:=by omega
  have h4:val r=val s:=by omega
  rw[h3,val_inj (fun z hz=>ha z (by simp[hz])) (fun z hz=>hb z (by simp[hz])) (by simpa using hl) h4]
 |[],_::_,_,_,h,_=>by simp at h
 |_::_,[],_,_,h,_=>by simp at h
theorem yq{a b:Nat}(h:a<=b):wt a<=wt b:=Nat.pow_le_pow_right (by decide) h
theorem Ec{a b:Nat}(h:a<b):wt a<wt b:=Nat.pow_lt_pow_right (by decide) h
theorem ix(ha:Lm a)(hb:Nz b)(h:a.length<b.length):val a<val b:=by
 have h1:=oB ha;have h2:=rO hb (by intro e;rw[e]at h;simp at h);have:=yq (show a.length<=b.length-1 by omega);omega
def ln(n:Nat):Nat:=if n=0 then 0 else n.log2 / 32+1
theorem uw(k:Nat):wt k=2^(32*k):=by rw[wt,show(4294967296:Nat)=2^32 from rfl,<-Nat.pow_mul]
theorem gB{n k:Nat}:ln n<=k↔n<wt k:=by
 unfold ln;by_cases h:n=0
 ·rw[if_pos h,h];exact⟨fun _=>yp k,fun _=>aQ _⟩
 ·rw[aJ h,uw];constructor
  ·intro h1;have:n.log2<32*k:=by omega
   exact(Nat.log2_lt h).1 this
  ·intro h1;have:=(Nat.log2_lt h).2 h1;omega
theorem lM(n:Nat):n<wt (ln n):=gB.1 (aF _)
theorem fP{a b:Nat}(h:a<=b):ln a<=ln b:=gB.2 (Nat.lt_of_le_of_lt h (lM b))
theorem Ni(a b:Nat):ln (a+b)<=max (ln a) (ln b)+1:=by
 rw[gB,iw];have h1:=Nat.lt_of_lt_of_le (lM a) (yq (Nat.le_max_left (ln a) (ln b)));have h2:=Nat.lt_of_lt_of_le (lM b) (yq (Nat.le_max_right (ln a) (ln b)));omega
theorem Nj(a b:Nat):ln (a*b)<=ln a+ln b:=by
 rw[gB,Cr];exact Nat.mul_lt_mul'' (lM a) (lM b)
theorem MX:ln 0=0:=rfl
theorem eO(h:Lm ls)(hz:Nz ls):ls.length=ln (val ls):=by
 by_cases OD:ls=[]
 ·subst OD;rfl
 ·have h1:=oB h;have h2:=rO hz OD;have h3:=gB.2 h1;have h4:¬ln (val ls)<=ls.length-1:=fun hh=>by have:=gB.1 hh;omega
  omega
end Go.Ex
namespace Go.Ex
open Go Go.Sx
variable{f:(Nat->Sx.dx)->Value}{ls:List Nat}{g n:Nat}{p:Nat×Nat}{v:Value}{P:Value->World->Prop}{w1:World}
def Cv(S:Nat->Prop)(B:Nat)(iv:Iv)(g:Nat):Prop:=S g∨(B<=g∧∃lo hi,(lo,hi)∈iv∧lo<=g∧g<hi)
def Nw(S:Nat->Prop)(w w2:World)(g:Nat):Prop:=S g∨(w.heap.size<=g∧g<w2.heap.size)
def Old(S:Nat->Prop)(w:World):Prop:=∀g,S g->g<w.heap.size
section
variable{S S':Nat->Prop}{H:Hp}{nx:Nat}{iv iv':Iv}{B:Nat}{w w' w2:World}{O:Nat->dx}
theorem Cv.mono(h:Cv S B iv g)(k:∀p,p∈iv->p∈iv'):Cv S B iv' g:=by
 rcases h with h|⟨h0,lo,hi,h1,h2⟩
 ·exact .inl h
 ·exact .inr ⟨h0,lo,hi,k _ h1,h2⟩
theorem Cv.cons(h:Cv S B iv g):Cv S B (p::iv) g:=h.mono fun q hq=>by simp[hq]
theorem Rel.old(r:Rel H nx iv B w O w')(hS:∀g,S g->g<B):Old (Cv S B iv) w':=by
 intro g h;rcases h with h|⟨_,lo,hi,h1,_,h3⟩
 ·have:=hS g h;have:=r.base;have:=r.size;omega
 ·have:=r.rM lo hi h1;have:=r.size;omega
theorem Rel.same(r:Rel H nx iv B w O w')(hS:∀g,S g->g<B)(h:Cv S B iv g):w'.heap[g]? =w.heap[g]? :=by
 rcases h with h|⟨_,lo,hi,h1,h2,h3⟩
 ·have:=hS g h;exact r.ug g (by have:=r.base;omega) fun id b hb hn he=>by have:=(r.low id b hb hn).1;omega
 ·exact r.ug g (by have:=r.rM lo hi h1;omega) fun id b hb hn he=>r.kk lo hi h1 id b hb hn ⟨by omega,by omega⟩
theorem Rel.not(r:Rel H nx iv B w O w')(hS:∀g,S g->g<B)(h:Cv S B iv g):∀id b,dF H id=some b->(O id).nil=false->(O id).g≠g:=by
 rcases h with h|⟨_,lo,hi,h1,h2,h3⟩
 ·have:=hS g h;exact fun id b hb hn he=>by have:=(r.low id b hb hn).1;omega
 ·exact fun id b hb hn he=>r.kk lo hi h1 id b hb hn ⟨by omega,by omega⟩
theorem Nw.cv(h:Nw (Cv S B iv) w' w1 g)(hB:B<=w'.heap.size):Cv S B ((w'.heap.size,w1.heap.size)::iv) g:=by
 rcases h with h|h
 ·exact h.cons
 ·exact .inr ⟨by omega,_,_,aG,h.1,h.2⟩
theorem Cv.nw{w0:World}(h:Cv S w0.heap.size iv g)(r:Rel H nx iv w0.heap.size w O w'):Nw S w0 w' g:=by
 rcases h with h|⟨h0,lo,hi,h1,_,h3⟩
 ·exact .inl h
 ·exact .inr ⟨h0,by have:=r.rM lo hi h1;have:=r.size;omega⟩
structure dQ(w:World)(S:Nat->Prop)(v:Value)(ls:List Nat):Prop where
 lm:Lm ls
 le:ls.length<=9223372036854775807
 sl:∃a c,v= .slice a ls.length c∧ls.length<=c∧∀(j:Nat) x,ls[j]? =some x->∃ad,a=some ad∧S ad.block∧w.cell? (ad.add j)=some (.int .u32 x)
theorem dN(ad:Addr)(j:Nat):(ad.add j).block=ad.block:=by
 unfold Addr.add;split<;>rfl
theorem dQ.cJ(h:dQ w S v ls)(hk:∀g,S g->w2.heap[g]? =w.heap[g]?):dQ w2 S v ls:=by
 obtain⟨a,c,h1,SR,h2⟩:=h.sl;refine⟨h.lm,h.le,a,c,h1,SR,fun j x hx=>?_⟩;obtain⟨ad,h3,h4,h5⟩:=h2 j x hx;exact⟨ad,h3,h4,by rw[cH (hk _ (by rw[dN];exact h4))];exact h5⟩
theorem dQ.cK(h:dQ w S v ls)(hk:∀g,S g->S' g):dQ w S' v ls:=by
 obtain⟨a,c,h1,SR,h2⟩:=h.sl;refine⟨h.lm,h.le,a,c,h1,SR,fun j x hx=>?_⟩;obtain⟨ad,h3,h4,h5⟩:=h2 j x hx;exact⟨ad,h3,hk _ h4,h5⟩
theorem dQ.rel(h:dQ w (Cv S B iv) v ls)(r:Rel H nx iv B w O w')(hS:∀g,S g->g<B):dQ w' (Cv S B iv) v ls:=h.cJ fun _g hg=>Rel.same r hS hg
theorem dQ.nil(w:World)(S:Nat->Prop):dQ w S (.slice none 0 0) []:=⟨by simp[Lm],by simp,none,0,rfl,aF _,by simp⟩
def eC(w:World)(S:Nat->Prop)(v:Value)(n:Nat):Prop:=∃ls,dQ w S v ls∧Nz ls∧val ls=n
theorem eC.cJ(h:eC w S v n)(hk:∀g,S g->w2.heap[g]? =w.heap[g]?):eC w2 S v n:=by
 obtain⟨ls,h1,h2,h3⟩:=h;exact⟨ls,h1.cJ hk,h2,h3⟩
theorem eC.cK(h:eC w S v n)(hk:∀g,S g->S' g):eC w S' v n:=by
 obtain⟨ls,h1,h2,h3⟩:=h;exact⟨ls,h1.cK hk,h2,h3⟩
theorem eC.nil(w:World)(S:Nat->Prop):eC w S (.slice none 0 0) 0:=⟨[],dQ.nil w S,by simp[Nz],rfl⟩
end
abbrev iZ(z:Int):SV:=.o (.v (.int .i64 z))
abbrev iN(n:Nat):SV:=.o (.v (.int .i64 (n:Int)))
abbrev sV(a:Option Addr)(n c:Nat):SV:=.o (.v (.slice a n c))
abbrev pP(i j:Nat):SV:=.o (.p i j)
theorem rtn{H:Hp}{nx:Nat}{iv:Iv}{w:World}(hw:eE w.heap.size w w1)(h:∀O w',Rel H nx iv w.heap.size w1 O w'->P (f O) w'):∀O w',Rel H nx iv w.heap.size w1 O w'->eF w P (.returned (f O)) w':=fun O w' r=>⟨_,rfl,hw.tr r.cQ,h O w' r⟩
abbrev FF:Nat->Prop:=fun _=>False
theorem bR(w:World):eE w.heap.size w w:=eE.refl
abbrev Nf(w w2:World):Nat->Prop:=Nw (fun _=>False) w w2
abbrev Cf(w:World):Iv->Nat->Prop:=Cv (fun _=>False) w.heap.size
section
variable{S:Nat->Prop}{H:Hp}{nx:Nat}{iv:Iv}{B i n:Nat}{w w1 w':World}{O:Nat->Sx.dx}{ad:Addr}{cs:List Value}{x:Value}
theorem kS(hw:eE B w w1)(r:Rel H nx iv B w1 O w')(hS:∀g,S g->g<B):∀g,S g->w'.heap[g]? =w.heap[g]? :=fun g hg=>(hw.tr r.cQ).block g (hS g hg)
theorem oS(hS:∀g,S g->g<B)(r:Rel H nx iv B w O w'):∀g,S g->g<w'.heap.size:=fun g hg=>by have:=hS g hg;have:=r.base;have:=r.size;omega
theorem rdO(hl:∀(j:Nat) u,cs[j]? =some u->S ad.block∧w.cell? ((ad.add (i*n)).add j)=some u)(hw:eE B w w1)(hS:∀g,S g->g<B):∀O w',Rel H nx iv B w1 O w'->∀(j:Nat) u,cs[j]? =some u->w'.cell? ((ad.add ((i:Int).toNat*n)).add j)=some u:=fun O w' r j u hu=>by
 obtain⟨k1,k2⟩:=hl j u hu;rw[aE,cH (w:=w) (w2:=w') (by rw[dN,dN];exact(hw.tr r.cQ).block _ (hS _ k1))];exact k2
theorem rd1(hl:w.cell? (ad.add (i*n))=some x)(hw:eE B w w1)(hb:ad.block<B):∀O w',Rel H nx iv B w1 O w'->w'.cell? (ad.add ((i:Int).toNat*n))=some x:=fun O w' r=>by
 rw[aE,cH (w:=w) (w2:=w') (by rw[dN];exact(hw.tr r.cQ).block _ hb)];exact hl
end
end Go.Ex
namespace Go.Ex
open Go Go.Sx Go.Proofs
variable{args:Array Value}{R:Ending->World->Prop}{ls:List Nat}{k n:Nat}{S:Nat->Prop}{O:Nat->Sx.dx}{v:Value}{w:World}
noncomputable abbrev PG:Program:=Tryz.prog
def slT(e:Nat):TI:={size:=1,bytes:=24,zero:=[.slice none 0 0],agg:=false,tag:=4,elem:=e}
def aA1:List (Nat×TI):=[
 (3,{size:=1,bytes:=8,zero:=[.int .i64 0],agg:=false,tag:=1,ik:=.i64}),
 (4,{size:=1,bytes:=1,zero:=[.bool false],agg:=false,tag:=2}),
 (40,slT 48),
 (48,{size:=4,bytes:=64,zero:=[.bool false,.slice none 0 0,.bool false,.slice none 0 0],agg:=true,tag:=5,fields:=[(0,46),(2,46)]}),
 (37,slT 3),
 (32,{size:=1,bytes:=8,zero:=[.int .i64 0],agg:=false,tag:=1,ik:=.i64}),
 (26,{size:=3,bytes:=72,zero:=[.slice none 0 0,.slice none 0 0,.slice none 0 0],agg:=true,tag:=5,fields:=[(0,22),(1,23),(2,24)]}),
 (87,slT 40),
 (46,{size:=2,bytes:=32,zero:=[.bool false,.slice none 0 0],agg:=true,tag:=5,fields:=[(0,4),(1,44)]}),
 (155,slT 292),
 (30,slT 141),
 (209,slT 159),
 (292,{size:=1,bytes:=4,zero:=[.int .u32 0],agg:=false,tag:=1,ik:=.u32}),
 (159,{size:=4,bytes:=64,zero:=[.bool false,.slice none 0 0,.bool false,.slice none 0 0],agg:=true,tag:=5,fields:=[(0,157),(2,157)]}),
 (157,{size:=2,bytes:=32,zero:=[.bool false,.slice none 0 0],agg:=true,tag:=5,fields:=[(0,4),(1,155)]}),
 (206,slT 209),
 (291,{size:=1,bytes:=8,zero:=[.int .u64 0],agg:=false,tag:=1,ik:=.u64}),
 (24,slT 146),
 (168,{size:=2,bytes:=32,zero:=[.slice none 0 0,.int .i64 0],agg:=true,tag:=5,fields:=[(0,87),(1,3)]}),
 (23,slT 144),
 (141,{size:=4,bytes:=32,zero:=[.int .i64 0,.int .i64 0,.int .i64 0,.int .i64 0],agg:=true,tag:=5,fields:=[(0,3),(1,3),(2,3),(3,3)]}),
 (22,slT 195),
 (100,{size:=3,bytes:=56,zero:=[.int .i64 0,.slice none 0 0,.slice none 0 0],agg:=true,tag:=5,fields:=[(0,3),(1,37),(2,37)]}),
 (44,slT 292),
 (144,{size:=6,bytes:=80,zero:=[.int .i64 0,.int .i64 0,.bool false,.slice none 0 0,.bool false,.slice none 0 0],agg:=true,tag:=5,fields:=[(0,3),(1,3),(2,48)]}),
 (195,{size:=3,bytes:=24,zero:=[.int .i64 0,.int .i64 0,.int .i64 0],agg:=true,tag:=5,fields:=[(0,3),(1,3),(2,3)]}),
 (146,{size:=6,bytes:=80,zero:=[.int .i64 0,.int .i64 0,.bool false,.slice none 0 0,.bool false,.slice none 0 0],agg:=true,tag:=5,fields:=[(0,3),(1,3),(2,48)]}),
 (177,slT 37),
 (101,slT 117),
 (27,slT 30),
 (58,{size:=3,bytes:=56,zero:=[.int .i64 0,.slice none 0 0,.slice none 0 0],agg:=true,tag:=5,fields:=[(0,3),(1,40),(2,40)]}),
 (255,{size:=4,bytes:=80,zero:=[.slice none 0 0,.int .i64 0,.slice none 0 0,.slice none 0 0],agg:=true,tag:=5,fields:=[(0,168),(2,37),(3,37)]}),
 (117,{size:=4,bytes:=32,zero:=[.int .i64 0,.int .i64 0,.int .i64 0,.int .i64 0],agg:=true,tag:=5,fields:=[(0,3),(1,3),(2,3),(3,3)]}),
 (31,slT 52),
 (70,slT 193),
 (120,{size:=2,bytes:=16,zero:=[.int .i64 0,.int .i64 0],agg:=true,tag:=5,fields:=[(0,3),(1,3)]}),
 (102,slT 120),
 (191,{size:=8,bytes:=64,zero:=[.int .i64 0,.int .i64 0,.int .i64 0,.int .i64 0,.int .i64 0,.int .i64 0,.int .i64 0,.int .i64 0],agg:=true,tag:=5,fields:=[(0,184),(4,3),(5,3),(6,3),(7,3)]}),
 (225,{size:=5,bytes:=40,zero:=[.int .i64 0,.int .i64 0,.int .i64 0,.int .i64 0,.int .i64 0],agg:=true,tag:=5,fields:=[(0,3),(1,3),(2,3),(3,3),(4,3)]}),
 (229,slT 228),
 (267,{size:=3,bytes:=24,zero:=[.int .i64 0,.int .i64 0,.int .i64 0],agg:=true,tag:=6,Cl:=3,elem:=3}),
 (97,{size:=3,bytes:=24,zero:=[.int .i64 0,.int .i64 0,.int .i64 0],agg:=true,tag:=5,fields:=[(0,3),(1,3),(2,3)]}),
 (228,{size:=2,bytes:=16,zero:=[.int .i64 0,.int .i64 0],agg:=true,tag:=5,fields:=[(0,3),(1,3)]}),
 (36,slT 4),
 (129,{size:=4,bytes:=80,zero:=[.int .i64 0,.slice none 0 0,.slice none 0 0,.slice none 0 0],agg:=true,tag:=5,fields:=[(0,3),(1,40),(2,87),(3,40)]}),
 (220,{size:=3,bytes:=40,zero:=[.int .i64 0,.int .i64 0,.slice none 0 0],agg:=true,tag:=5,fields:=[(0,3),(1,3),(2,37)]}),
 (293,{size:=1,bytes:=8,zero:=[.int .u64 0],agg:=false,tag:=1,ik:=.u64}),
 (68,slT 186),
 (69,slT 191),
 (184,{size:=4,bytes:=32,zero:=[.int .i64 0,.int .i64 0,.int .i64 0,.int .i64 0],agg:=true,tag:=6,Cl:=4,elem:=3}),
 (193,{size:=2,bytes:=16,zero:=[.int .i64 0,.int .i64 0],agg:=true,tag:=5,fields:=[(0,3),(1,3)]}),
 (186,{size:=5,bytes:=40,zero:=[.int .i64 0,.int .i64 0,.int .i64 0,.int .i64 0,.int .i64 0],agg:=true,tag:=5,fields:=[(0,184),(4,3)]}),
 (249,{size:=3,bytes:=72,zero:=[.slice none 0 0,.slice none 0 0,.slice none 0 0],agg:=true,tag:=5,fields:=[(0,209),(1,209),(2,206)]}),
 (281,{size:=2,bytes:=16,zero:=[.int .i64 0,.int .i64 0],agg:=true,tag:=5,fields:=[(0,3),(1,3)]}),
 (52,{size:=10,bytes:=176,zero:=[.bool false,.slice none 0 0,.bool false,.slice none 0 0,.bool false,.slice none 0 0,.bool false,.slice none 0 0,.slice none 0 0,.slice none 0 0],agg:=true,tag:=5,fields:=[(0,50),(8,37),(9,37)]}),
 (279,{size:=1,bytes:=8,zero:=[.map none],agg:=false,tag:=0}),
 (72,{size:=4,bytes:=80,zero:=[.slice none 0 0,.int .i64 0,.slice none 0 0,.slice none 0 0],agg:=true,tag:=5,fields:=[(0,68),(1,3),(2,69),(3,70)]}),
 (104,{size:=2,bytes:=48,zero:=[.slice none 0 0,.slice none 0 0],agg:=true,tag:=5,fields:=[(0,37),(1,102)]}),
 (108,{size:=3,bytes:=24,zero:=[.int .i64 0,.int .i64 0,.int .i64 0],agg:=true,tag:=5,fields:=[(0,3),(1,3),(2,3)]}),
 (9,{size:=1,bytes:=16,zero:=[.string ⟨#[]⟩],agg:=false,tag:=3}),
 (50,{size:=8,bytes:=128,zero:=[.bool false,.slice none 0 0,.bool false,.slice none 0 0,.bool false,.slice none 0 0,.bool false,.slice none 0 0],agg:=true,tag:=5,fields:=[(0,48),(4,48)]}),
 (149,{size:=1,bytes:=8,zero:=[.pointer none],agg:=false,tag:=7}),
 (308,{size:=1,bytes:=8,zero:=[.nilFunc],agg:=false,tag:=0}),
 (296,{size:=1,bytes:=8,zero:=[.nilFunc],agg:=false,tag:=0}),
 (152,{size:=80,bytes:=640,zero:=[.int .i64 0,.int .i64 0,.int .i64 0,.int .i64 0,.int .i64 0,.int .i64 0,.int .i64 0,.int .i64 0,.int .i64 0,.int .i64 0,.int .i64 0,.int .i64 0,.int .i64 0,.int .i64 0,.int .i64 0,.int .i64 0,.int .i64 0,.int .i64 0,.int .i64 0,.int .i64 0,.int .i64 0,.int .i64 0,.int .i64 0,.int .i64 0,.int .i64 0,.int .i64 0,.int .i64 0,.int .i64 0,.int .i64 0,.int .i64 0,.int .i64 0,.int .i64 0,.int .i64 0,.int .i64 0,.int .i64 0,.int .i64 0,.int .i64 0,.int .i64 0,.int .i64 0,.int .i64 0,.int .i64 0,.int .i64 0,.int .i64 0,.int .i64 0,.int .i64 0,.int .i64 0,.int .i64 0,.int .i64 0,.int .i64 0,.int .i64 0,.int .i64 0,.int .i64 0,.int .i64 0,.int .i64 0,.int .i64 0,.int .i64 0,.int .i64 0,.int .i64 0,.int .i64 0,.int .i64 0,.int .i64 0,.int .i64 0,.int .i64 0,.int .i64 0,.int .i64 0,.int .i64 0,.int .i64 0,.int .i64 0,.int .i64 0,.int .i64 0,.int .i64 0,.int .i64 0,.int .i64 0,.int .i64 0,.int .i64 0,.int .i64 0,.int .i64 0,.int .i64 0,.int .i64 0,.int .i64 0],agg:=true,tag:=6,Cl:=20,elem:=141}),
 (239,{size:=1,bytes:=8,zero:=[.nilFunc],agg:=false,tag:=0}),
 (242,{size:=1,bytes:=8,zero:=[.nilFunc],agg:=false,tag:=0}),
 (153,{size:=1,bytes:=8,zero:=[.pointer none],agg:=false,tag:=7}),
 (174,{size:=1,bytes:=8,zero:=[.nilFunc],agg:=false,tag:=0}),
 (213,{size:=1,bytes:=8,zero:=[.nilFunc],agg:=false,tag:=0}),
 (5,{size:=1,bytes:=1,zero:=[.int .u8 0],agg:=false,tag:=1,ik:=.u8}),
 (310,{size:=1,bytes:=8,zero:=[.nilFunc],agg:=false,tag:=0}),
 (315,{size:=1,bytes:=8,zero:=[.nilFunc],agg:=false,tag:=0}),
 (8,{size:=4,bytes:=24,zero:=[.int .i64 0,.int .i64 0,.bool false,.int .u8 0],agg:=true,tag:=5,fields:=[(0,2),(1,3),(2,4),(3,6)]}),
 (10,{size:=1,bytes:=16,zero:=[.string ⟨#[]⟩],agg:=false,tag:=3}),
 (11,{size:=1,bytes:=16,zero:=[.string ⟨#[]⟩],agg:=false,tag:=3}),
 (14,{size:=2,bytes:=24,zero:=[.string ⟨#[]⟩,.int .u64 0],agg:=true,tag:=5,fields:=[(0,9),(1,12)]}),
 (15,{size:=1,bytes:=8,zero:=[.pointer none],agg:=false,tag:=7}),
 (16,{size:=1,bytes:=8,zero:=[.pointer none],agg:=false,tag:=7}),
 (19,{size:=1,bytes:=8,zero:=[.pointer none],agg:=true,tag:=5,fields:=[(0,17)]}),
 (17,{size:=1,bytes:=8,zero:=[.pointer none],agg:=false,tag:=7}),
 (353,{size:=1,bytes:=1,zero:=[.int .u8 0],agg:=false,tag:=1,ik:=.u8}),
 (2,{size:=1,bytes:=8,zero:=[.int .i64 0],agg:=false,tag:=1,ik:=.i64}),
 (6,{size:=1,bytes:=1,zero:=[.int .u8 0],agg:=false,tag:=1,ik:=.u8}),
 (12,{size:=1,bytes:=8,zero:=[.int .u64 0],agg:=false,tag:=1,ik:=.u64})]
def τ:mz:=yC aA1
theorem hτ:fQ PG τ:=Na (l:=aA1) (by kernel_rfl)
theorem df:PG.follows .mixedOrders=true:=by rfl
noncomputable def bd (f:Func):Code:=match f.body with
 |some c=>c
 |none=>.skip
theorem dC{f:FuncId}{fn:Func}(hf:PG.funcs[f]? =some fn)(hb:fn.body=some (bd fn))(Vh:(fn.name== "runtime.NumGoroutine")=false)
  (hn:args.size<=fn.ntmps) (OF:codeOk fn.ntmps (bd fn)=true) (h:mj PG τ w.heap.size (bd fn) (fa 0 args.toList) [] 0 [] w (Nh τ w.heap.size fn.results.toList R)):eA PG f args w R:=
 ⟨IW hf hb Vh,Ea hτ hf hb hn OF h⟩
abbrev T.int:Nat:=3
abbrev T.bool:Nat:=4
abbrev T.string:Nat:=9
abbrev T.Frame:Nat:=26
abbrev T.Lint:Nat:=37
abbrev T.gA:Nat:=40
abbrev T.Int:Nat:=46
abbrev T.Rat:Nat:=48
abbrev T.aA2:Nat:=58
abbrev T.zk:Nat:=97
abbrev T.aAn:Nat:=141
abbrev T.Bar:Nat:=144
abbrev T.yN:Nat:=146
abbrev T.nat:Nat:=155
abbrev T.number:Nat:=157
abbrev T.FH:Nat:=159
abbrev T.dw:Nat:=168
abbrev T.Node:Nat:=195
abbrev T.row:Nat:=209
abbrev T.solved:Nat:=249
abbrev T.dX:Nat:=255
abbrev T.x7:Nat:=279
abbrev T.DJ:Nat:=281
abbrev T.uint32:Nat:=292
abbrev N.kQ:Nat:=4
abbrev N.pj:Nat:=14
abbrev N.pn:Nat:=16
abbrev N.vI:Nat:=17
abbrev N.po:Nat:=19
abbrev N.CB:Nat:=20
abbrev N.wm:Nat:=21
abbrev N.rS:Nat:=22
abbrev N.ow:Nat:=23
abbrev N.rT:Nat:=24
abbrev N.lZ:Nat:=25
abbrev N.nM:Nat:=26
abbrev N.pq:Nat:=27
abbrev N.wu:Nat:=30
abbrev N.sY:Nat:=36
abbrev N.pr:Nat:=37
abbrev N.wv:Nat:=38
abbrev N.wx:Nat:=41
abbrev N.wy:Nat:=49
abbrev N.wz:Nat:=51
abbrev N.tf:Nat:=57
abbrev N.vJ:Nat:=58
abbrev N.jd:Nat:=61
abbrev N.nN:Nat:=62
abbrev N.xA:Nat:=63
abbrev N.CC:Nat:=64
abbrev N.CD:Nat:=65
abbrev N.CE:Nat:=66
abbrev N.CF:Nat:=67
abbrev N.zl:Nat:=69
abbrev N.rU:Nat:=71
abbrev N.pt:Nat:=72
abbrev N.pw:Nat:=73
abbrev N.vK:Nat:=74
abbrev N.pz:Nat:=75
abbrev N.l0:Nat:=76
abbrev N.l5:Nat:=77
abbrev N.xB:Nat:=78
abbrev N.l6:Nat:=79
abbrev N.rV:Nat:=80
abbrev N.rW:Nat:=81
abbrev N.rX:Nat:=82
abbrev N.xC:Nat:=83
abbrev N.th:Nat:=84
abbrev N.ox:Nat:=85
abbrev N.jF:Nat:=86
abbrev N.qA:Nat:=87
abbrev N.jK:Nat:=88
abbrev N.gW:Nat:=89
abbrev N.xD:Nat:=90
abbrev N.tj:Nat:=91
abbrev N.xE:Nat:=92
abbrev N.nO:Nat:=93
abbrev N.qB:Nat:=94
abbrev N.sZ:Nat:=95
abbrev N.tk:Nat:=96
abbrev N.l7:Nat:=97
abbrev N.nP:Nat:=98
abbrev N.fN:Nat:=99
abbrev N.k9:Nat:=100
abbrev N.fc:Nat:=101
abbrev N.kc:Nat:=102
abbrev N.tm:Nat:=103
abbrev N.rY:Nat:=104
abbrev N.tn:Nat:=108
abbrev N.tp:Nat:=111
abbrev N.tq:Nat:=112
abbrev N.CG:Nat:=113
abbrev N.s3:Nat:=114
abbrev N.FI:Nat:=115
abbrev N.zm:Nat:=116
abbrev N.xF:Nat:=117
abbrev N.ke:Nat:=118
abbrev N.kf:Nat:=126
abbrev N.xG:Nat:=128
abbrev N.xH:Nat:=139
abbrev N.kR:Nat:=152
abbrev N.zn:Nat:=157
abbrev N.fe:Nat:=158
abbrev N.tt:Nat:=159
abbrev N.qC:Nat:=160
abbrev N.xI:Nat:=161
abbrev N.tu:Nat:=162
abbrev N.CH:Nat:=163
abbrev N.xJ:Nat:=164
abbrev N.xK:Nat:=165
abbrev N.tv:Nat:=166
abbrev N.zo:Nat:=167
abbrev N.mo:Nat:=168
abbrev N.xL:Nat:=169
abbrev N.kg:Nat:=170
abbrev N.mS:Nat:=171
abbrev N.zp:Nat:=172
abbrev N.mT:Nat:=173
abbrev N.l8:Nat:=174
abbrev N.nQ:Nat:=175
abbrev N.kT:Nat:=176
abbrev N.rZ:Nat:=177
abbrev N.qD:Nat:=178
abbrev N.r8:Nat:=179
abbrev N.vL:Nat:=180
abbrev N.r9:Nat:=181
abbrev N.rb:Nat:=182
abbrev N.xM:Nat:=183
abbrev N.nR:Nat:=184
abbrev N.ff:Nat:=185
abbrev N.xN:Nat:=186
abbrev N.fW:Nat:=187
abbrev N.xO:Nat:=188
abbrev N.CI:Nat:=190
abbrev N.xP:Nat:=191
abbrev N.tw:Nat:=192
abbrev N.oO:Nat:=193
abbrev N.kH:Nat:=194
abbrev N.l9:Nat:=195
abbrev N.tx:Nat:=196
abbrev N.nS:Nat:=197
abbrev N.mU:Nat:=198
abbrev N.mV:Nat:=199
abbrev N.lf:Nat:=201
abbrev N.mW:Nat:=209
abbrev N.kU:Nat:=210
abbrev N.vM:Nat:=211
abbrev N.oP:Nat:=232
abbrev N.CJ:Nat:=233
abbrev N.mq:Nat:=234
abbrev N.vN:Nat:=235
abbrev N.mX:Nat:=236
abbrev N.oy:Nat:=237
abbrev N.tz:Nat:=238
abbrev N.fu:Nat:=239
abbrev N.FJ:Nat:=240
abbrev N.zq:Nat:=241
abbrev N.uA:Nat:=242
abbrev N.zt:Nat:=243
abbrev N.rf:Nat:=244
abbrev N.uB:Nat:=245
abbrev N.uC:Nat:=246
abbrev N.rh:Nat:=247
abbrev N.oz:Nat:=248
abbrev N.kh:Nat:=249
abbrev N.mY:Nat:=250
abbrev N.pA:Nat:=251
abbrev N.qE:Nat:=252
abbrev N.gD:Nat:=253
abbrev N.qF:Nat:=260
abbrev N.pB:Nat:=261
abbrev N.zu:Nat:=262
abbrev N.qG:Nat:=263
abbrev N.zw:Nat:=266
abbrev N.zx:Nat:=267
abbrev Ent(g:Nat)(f:Func):Prop:=∀{args:Array Value} {w:World} {R:Ending->World->Prop},args.size<=f.ntmps->mj PG τ w.heap.size (bd f) (fa 0 args.toList) [] 0 [] w (Nh τ w.heap.size f.results.toList R)->eA PG g args w R
theorem nT:Ent N.kQ Tryz.f4:=fun hn h=>dC Tryz.func4 (by rfl) (by rfl) hn (by rfl) h
theorem uD:Ent N.pj Tryz.f14:=fun hn h=>dC Tryz.func14 (by rfl) (by rfl) hn (by rfl) h
theorem uE:Ent N.pn Tryz.f16:=fun hn h=>dC Tryz.func16 (by rfl) (by rfl) hn (by rfl) h
theorem DK:Ent N.vI Tryz.f17:=fun hn h=>dC Tryz.func17 (by rfl) (by rfl) hn (by rfl) h
theorem zy:Ent N.po Tryz.f19:=fun hn h=>dC Tryz.func19 (by rfl) (by rfl) hn (by rfl) h
theorem DL:Ent N.CB Tryz.f20:=fun hn h=>dC Tryz.func20 (by rfl) (by rfl) hn (by rfl) h
theorem zz:Ent N.wm Tryz.f21:=fun hn h=>dC Tryz.func21 (by rfl) (by rfl) hn (by rfl) h
theorem vO:Ent N.rS Tryz.f22:=fun hn h=>dC Tryz.func22 (by rfl) (by rfl) hn (by rfl) h
theorem s4:Ent N.ow Tryz.f23:=fun hn h=>dC Tryz.func23 (by rfl) (by rfl) hn (by rfl) h
theorem vP:Ent N.rT Tryz.f24:=fun hn h=>dC Tryz.func24 (by rfl) (by rfl) hn (by rfl) h
theorem pD:Ent N.lZ Tryz.f25:=fun hn h=>dC Tryz.func25 (by rfl) (by rfl) hn (by rfl) h
theorem rF:Ent N.nM Tryz.f26:=fun hn h=>dC Tryz.func26 (by rfl) (by rfl) hn (by rfl) h
theorem uF:Ent N.pq Tryz.f27:=fun hn h=>dC Tryz.func27 (by rfl) (by rfl) hn (by rfl) h
theorem AA:Ent N.wu Tryz.f30:=fun hn h=>dC Tryz.func30 (by rfl) (by rfl) hn (by rfl) h
theorem BH:Ent N.sY Tryz.f36:=fun hn h=>dC Tryz.func36 (by rfl) (by rfl) hn (by rfl) h
theorem qH:Ent N.pr Tryz.f37:=fun hn h=>dC Tryz.func37 (by rfl) (by rfl) hn (by rfl) h
theorem AB:Ent N.wv Tryz.f38:=fun hn h=>dC Tryz.func38 (by rfl) (by rfl) hn (by rfl) h
theorem AD:Ent N.wx Tryz.f41:=fun hn h=>dC Tryz.func41 (by rfl) (by rfl) hn (by rfl) h
theorem AE:Ent N.wy Tryz.f49:=fun hn h=>dC Tryz.func49 (by rfl) (by rfl) hn (by rfl) h
theorem AF:Ent N.wz Tryz.f51:=fun hn h=>dC Tryz.func51 (by rfl) (by rfl) hn (by rfl) h
theorem x8:Ent N.tf Tryz.f57:=fun hn h=>dC Tryz.func57 (by rfl) (by rfl) hn (by rfl) h
theorem DM:Ent N.vJ Tryz.f58:=fun hn h=>dC Tryz.func58 (by rfl) (by rfl) hn (by rfl) h
theorem x9:Ent N.jd Tryz.f61:=fun hn h=>dC Tryz.func61 (by rfl) (by rfl) hn (by rfl) h
theorem rG:Ent N.nN Tryz.f62:=fun hn h=>dC Tryz.func62 (by rfl) (by rfl) hn (by rfl) h
theorem AG:Ent N.xA Tryz.f63:=fun hn h=>dC Tryz.func63 (by rfl) (by rfl) hn (by rfl) h
theorem DN:Ent N.CC Tryz.f64:=fun hn h=>dC Tryz.func64 (by rfl) (by rfl) hn (by rfl) h
theorem DO:Ent N.CD Tryz.f65:=fun hn h=>dC Tryz.func65 (by rfl) (by rfl) hn (by rfl) h
theorem DP:Ent N.CE Tryz.f66:=fun hn h=>dC Tryz.func66 (by rfl) (by rfl) hn (by rfl) h
theorem DQ:Ent N.CF Tryz.f67:=fun hn h=>dC Tryz.func67 (by rfl) (by rfl) hn (by rfl) h
theorem BI:Ent N.zl Tryz.f69:=fun hn h=>dC Tryz.func69 (by rfl) (by rfl) hn (by rfl) h
theorem vQ:Ent N.rU Tryz.f71:=fun hn h=>dC Tryz.func71 (by rfl) (by rfl) hn (by rfl) h
theorem uG:Ent N.pt Tryz.f72:=fun hn h=>dC Tryz.func72 (by rfl) (by rfl) hn (by rfl) h
theorem uH:Ent N.pw Tryz.f73:=fun hn h=>dC Tryz.func73 (by rfl) (by rfl) hn (by rfl) h
theorem DR:Ent N.vK Tryz.f74:=fun hn h=>dC Tryz.func74 (by rfl) (by rfl) hn (by rfl) h
theorem uI:Ent N.pz Tryz.f75:=fun hn h=>dC Tryz.func75 (by rfl) (by rfl) hn (by rfl) h
theorem pE:Ent N.l0 Tryz.f76:=fun hn h=>dC Tryz.func76 (by rfl) (by rfl) hn (by rfl) h
theorem pF:Ent N.l5 Tryz.f77:=fun hn h=>dC Tryz.func77 (by rfl) (by rfl) hn (by rfl) h
theorem AH:Ent N.xB Tryz.f78:=fun hn h=>dC Tryz.func78 (by rfl) (by rfl) hn (by rfl) h
theorem pG:Ent N.l6 Tryz.f79:=fun hn h=>dC Tryz.func79 (by rfl) (by rfl) hn (by rfl) h
theorem vR:Ent N.rV Tryz.f80:=fun hn h=>dC Tryz.func80 (by rfl) (by rfl) hn (by rfl) h
theorem vS:Ent N.rW Tryz.f81:=fun hn h=>dC Tryz.func81 (by rfl) (by rfl) hn (by rfl) h
theorem vT:Ent N.rX Tryz.f82:=fun hn h=>dC Tryz.func82 (by rfl) (by rfl) hn (by rfl) h
theorem AI:Ent N.xC Tryz.f83:=fun hn h=>dC Tryz.func83 (by rfl) (by rfl) hn (by rfl) h
theorem xa:Ent N.th Tryz.f84:=fun hn h=>dC Tryz.func84 (by rfl) (by rfl) hn (by rfl) h
theorem s5:Ent N.ox Tryz.f85:=fun hn h=>dC Tryz.func85 (by rfl) (by rfl) hn (by rfl) h
theorem oQ:Ent N.jF Tryz.f86:=fun hn h=>dC Tryz.func86 (by rfl) (by rfl) hn (by rfl) h
theorem uJ:Ent N.qA Tryz.f87:=fun hn h=>dC Tryz.func87 (by rfl) (by rfl) hn (by rfl) h
theorem kv:Ent N.jK Tryz.f88:=fun hn h=>dC Tryz.func88 (by rfl) (by rfl) hn (by rfl) h
theorem j3:Ent N.gW Tryz.f89:=fun hn h=>dC Tryz.func89 (by rfl) (by rfl) hn (by rfl) h
theorem AJ:Ent N.xD Tryz.f90:=fun hn h=>dC Tryz.func90 (by rfl) (by rfl) hn (by rfl) h
theorem xb:Ent N.tj Tryz.f91:=fun hn h=>dC Tryz.func91 (by rfl) (by rfl) hn (by rfl) h
theorem AK:Ent N.xE Tryz.f92:=fun hn h=>dC Tryz.func92 (by rfl) (by rfl) hn (by rfl) h
theorem rH:Ent N.nO Tryz.f93:=fun hn h=>dC Tryz.func93 (by rfl) (by rfl) hn (by rfl) h
theorem AM:Ent N.qB Tryz.f94:=fun hn h=>dC Tryz.func94 (by rfl) (by rfl) hn (by rfl) h
theorem BJ:Ent N.sZ Tryz.f95:=fun hn h=>dC Tryz.func95 (by rfl) (by rfl) hn (by rfl) h
theorem xc:Ent N.tk Tryz.f96:=fun hn h=>dC Tryz.func96 (by rfl) (by rfl) hn (by rfl) h
theorem uK:Ent N.l7 Tryz.f97:=fun hn h=>dC Tryz.func97 (by rfl) (by rfl) hn (by rfl) h
theorem rI:Ent N.nP Tryz.f98:=fun hn h=>dC Tryz.func98 (by rfl) (by rfl) hn (by rfl) h
theorem gv:Ent N.fN Tryz.f99:=fun hn h=>dC Tryz.func99 (by rfl) (by rfl) hn (by rfl) h
theorem oR:Ent N.k9 Tryz.f100:=fun hn h=>dC Tryz.func100 (by rfl) (by rfl) hn (by rfl) h
theorem nU:Ent N.fc Tryz.f101:=fun hn h=>dC Tryz.func101 (by rfl) (by rfl) hn (by rfl) h
theorem oT:Ent N.kc Tryz.f102:=fun hn h=>dC Tryz.func102 (by rfl) (by rfl) hn (by rfl) h
theorem xd:Ent N.tm Tryz.f103:=fun hn h=>dC Tryz.func103 (by rfl) (by rfl) hn (by rfl) h
theorem vU:Ent N.rY Tryz.f104:=fun hn h=>dC Tryz.func104 (by rfl) (by rfl) hn (by rfl) h
theorem xe:Ent N.tn Tryz.f108:=fun hn h=>dC Tryz.func108 (by rfl) (by rfl) hn (by rfl) h
theorem xf:Ent N.tp Tryz.f111:=fun hn h=>dC Tryz.func111 (by rfl) (by rfl) hn (by rfl) h
theorem xg:Ent N.tq Tryz.f112:=fun hn h=>dC Tryz.func112 (by rfl) (by rfl) hn (by rfl) h
theorem DS:Ent N.CG Tryz.f113:=fun hn h=>dC Tryz.func113 (by rfl) (by rfl) hn (by rfl) h
theorem rk:Ent N.s3 Tryz.f114:=fun hn h=>dC Tryz.func114 (by rfl) (by rfl) hn (by rfl) h
theorem FK:Ent N.FI Tryz.f115:=fun hn h=>dC Tryz.func115 (by rfl) (by rfl) hn (by rfl) h
theorem BK:Ent N.zm Tryz.f116:=fun hn h=>dC Tryz.func116 (by rfl) (by rfl) hn (by rfl) h
theorem AN:Ent N.xF Tryz.f117:=fun hn h=>dC Tryz.func117 (by rfl) (by rfl) hn (by rfl) h
theorem oU:Ent N.ke Tryz.f118:=fun hn h=>dC Tryz.func118 (by rfl) (by rfl) hn (by rfl) h
theorem oV:Ent N.kf Tryz.f126:=fun hn h=>dC Tryz.func126 (by rfl) (by rfl) hn (by rfl) h
theorem AO:Ent N.xG Tryz.f128:=fun hn h=>dC Tryz.func128 (by rfl) (by rfl) hn (by rfl) h
theorem AP:Ent N.xH Tryz.f139:=fun hn h=>dC Tryz.func139 (by rfl) (by rfl) hn (by rfl) h
theorem nV:Ent N.kR Tryz.f152:=fun hn h=>dC Tryz.func152 (by rfl) (by rfl) hn (by rfl) h
theorem BL:Ent N.zn Tryz.f157:=fun hn h=>dC Tryz.func157 (by rfl) (by rfl) hn (by rfl) h
theorem j4:Ent N.fe Tryz.f158:=fun hn h=>dC Tryz.func158 (by rfl) (by rfl) hn (by rfl) h
theorem xh:Ent N.tt Tryz.f159:=fun hn h=>dC Tryz.func159 (by rfl) (by rfl) hn (by rfl) h
theorem uL:Ent N.qC Tryz.f160:=fun hn h=>dC Tryz.func160 (by rfl) (by rfl) hn (by rfl) h
theorem AQ:Ent N.xI Tryz.f161:=fun hn h=>dC Tryz.func161 (by rfl) (by rfl) hn (by rfl) h
theorem xj:Ent N.tu Tryz.f162:=fun hn h=>dC Tryz.func162 (by rfl) (by rfl) hn (by rfl) h
theorem DT:Ent N.CH Tryz.f163:=fun hn h=>dC Tryz.func163 (by rfl) (by rfl) hn (by rfl) h
theorem AR:Ent N.xJ Tryz.f164:=fun hn h=>dC Tryz.func164 (by rfl) (by rfl) hn (by rfl) h
theorem AS:Ent N.xK Tryz.f165:=fun hn h=>dC Tryz.func165 (by rfl) (by rfl) hn (by rfl) h
theorem xl:Ent N.tv Tryz.f166:=fun hn h=>dC Tryz.func166 (by rfl) (by rfl) hn (by rfl) h
theorem BM:Ent N.zo Tryz.f167:=fun hn h=>dC Tryz.func167 (by rfl) (by rfl) hn (by rfl) h
theorem vV:Ent N.mo Tryz.f168:=fun hn h=>dC Tryz.func168 (by rfl) (by rfl) hn (by rfl) h
theorem AT:Ent N.xL Tryz.f169:=fun hn h=>dC Tryz.func169 (by rfl) (by rfl) hn (by rfl) h
theorem oW:Ent N.kg Tryz.f170:=fun hn h=>dC Tryz.func170 (by rfl) (by rfl) hn (by rfl) h
theorem qI:Ent N.mS Tryz.f171:=fun hn h=>dC Tryz.func171 (by rfl) (by rfl) hn (by rfl) h
theorem FL:Ent N.zp Tryz.f172:=fun hn h=>dC Tryz.func172 (by rfl) (by rfl) hn (by rfl) h
theorem qJ:Ent N.mT Tryz.f173:=fun hn h=>dC Tryz.func173 (by rfl) (by rfl) hn (by rfl) h
theorem pH:Ent N.l8 Tryz.f174:=fun hn h=>dC Tryz.func174 (by rfl) (by rfl) hn (by rfl) h
theorem rJ:Ent N.nQ Tryz.f175:=fun hn h=>dC Tryz.func175 (by rfl) (by rfl) hn (by rfl) h
theorem nW:Ent N.kT Tryz.f176:=fun hn h=>dC Tryz.func176 (by rfl) (by rfl) hn (by rfl) h
theorem vW:Ent N.rZ Tryz.f177:=fun hn h=>dC Tryz.func177 (by rfl) (by rfl) hn (by rfl) h
theorem uM:Ent N.qD Tryz.f178:=fun hn h=>dC Tryz.func178 (by rfl) (by rfl) hn (by rfl) h
theorem vX:Ent N.r8 Tryz.f179:=fun hn h=>dC Tryz.func179 (by rfl) (by rfl) hn (by rfl) h
theorem DU:Ent N.vL Tryz.f180:=fun hn h=>dC Tryz.func180 (by rfl) (by rfl) hn (by rfl) h
theorem vY:Ent N.r9 Tryz.f181:=fun hn h=>dC Tryz.func181 (by rfl) (by rfl) hn (by rfl) h
theorem vZ:Ent N.rb Tryz.f182:=fun hn h=>dC Tryz.func182 (by rfl) (by rfl) hn (by rfl) h
theorem AU:Ent N.xM Tryz.f183:=fun hn h=>dC Tryz.func183 (by rfl) (by rfl) hn (by rfl) h
theorem rK:Ent N.nR Tryz.f184:=fun hn h=>dC Tryz.func184 (by rfl) (by rfl) hn (by rfl) h
theorem iM:Ent N.ff Tryz.f185:=fun hn h=>dC Tryz.func185 (by rfl) (by rfl) hn (by rfl) h
theorem AV:Ent N.xN Tryz.f186:=fun hn h=>dC Tryz.func186 (by rfl) (by rfl) hn (by rfl) h
theorem iF:Ent N.fW Tryz.f187:=fun hn h=>dC Tryz.func187 (by rfl) (by rfl) hn (by rfl) h
theorem AW:Ent N.xO Tryz.f188:=fun hn h=>dC Tryz.func188 (by rfl) (by rfl) hn (by rfl) h
theorem DV:Ent N.CI Tryz.f190:=fun hn h=>dC Tryz.func190 (by rfl) (by rfl) hn (by rfl) h
theorem AX:Ent N.xP Tryz.f191:=fun hn h=>dC Tryz.func191 (by rfl) (by rfl) hn (by rfl) h
theorem xm:Ent N.tw Tryz.f192:=fun hn h=>dC Tryz.func192 (by rfl) (by rfl) hn (by rfl) h
theorem xn:Ent N.oO Tryz.f193:=fun hn h=>dC Tryz.func193 (by rfl) (by rfl) hn (by rfl) h
theorem ve:Ent N.kH Tryz.f194:=fun hn h=>dC Tryz.func194 (by rfl) (by rfl) hn (by rfl) h
theorem pI:Ent N.l9 Tryz.f195:=fun hn h=>dC Tryz.func195 (by rfl) (by rfl) hn (by rfl) h
theorem xo:Ent N.tx Tryz.f196:=fun hn h=>dC Tryz.func196 (by rfl) (by rfl) hn (by rfl) h
theorem rL:Ent N.nS Tryz.f197:=fun hn h=>dC Tryz.func197 (by rfl) (by rfl) hn (by rfl) h
theorem qK:Ent N.mU Tryz.f198:=fun hn h=>dC Tryz.func198 (by rfl) (by rfl) hn (by rfl) h
theorem qL:Ent N.mV Tryz.f199:=fun hn h=>dC Tryz.func199 (by rfl) (by rfl) hn (by rfl) h
theorem pJ:Ent N.lf Tryz.f201:=fun hn h=>dC Tryz.func201 (by rfl) (by rfl) hn (by rfl) h
theorem qM:Ent N.mW Tryz.f209:=fun hn h=>dC Tryz.func209 (by rfl) (by rfl) hn (by rfl) h
theorem nX:Ent N.kU Tryz.f210:=fun hn h=>dC Tryz.func210 (by rfl) (by rfl) hn (by rfl) h
theorem DW:Ent N.vM Tryz.f211:=fun hn h=>dC Tryz.func211 (by rfl) (by rfl) hn (by rfl) h
theorem xp:Ent N.oP Tryz.f232:=fun hn h=>dC Tryz.func232 (by rfl) (by rfl) hn (by rfl) h
theorem DX:Ent N.CJ Tryz.f233:=fun hn h=>dC Tryz.func233 (by rfl) (by rfl) hn (by rfl) h
theorem vg:Ent N.mq Tryz.f234:=fun hn h=>dC Tryz.func234 (by rfl) (by rfl) hn (by rfl) h
theorem DY:Ent N.vN Tryz.f235:=fun hn h=>dC Tryz.func235 (by rfl) (by rfl) hn (by rfl) h
theorem qN:Ent N.mX Tryz.f236:=fun hn h=>dC Tryz.func236 (by rfl) (by rfl) hn (by rfl) h
theorem s6:Ent N.oy Tryz.f237:=fun hn h=>dC Tryz.func237 (by rfl) (by rfl) hn (by rfl) h
theorem xq:Ent N.tz Tryz.f238:=fun hn h=>dC Tryz.func238 (by rfl) (by rfl) hn (by rfl) h
theorem iW:Ent N.fu Tryz.f239:=fun hn h=>dC Tryz.func239 (by rfl) (by rfl) hn (by rfl) h
theorem FM:Ent N.FJ Tryz.f240:=fun hn h=>dC Tryz.func240 (by rfl) (by rfl) hn (by rfl) h
theorem BN:Ent N.zq Tryz.f241:=fun hn h=>dC Tryz.func241 (by rfl) (by rfl) hn (by rfl) h
theorem xt:Ent N.uA Tryz.f242:=fun hn h=>dC Tryz.func242 (by rfl) (by rfl) hn (by rfl) h
theorem BO:Ent N.zt Tryz.f243:=fun hn h=>dC Tryz.func243 (by rfl) (by rfl) hn (by rfl) h
theorem vh:Ent N.rf Tryz.f244:=fun hn h=>dC Tryz.func244 (by rfl) (by rfl) hn (by rfl) h
theorem xu:Ent N.uB Tryz.f245:=fun hn h=>dC Tryz.func245 (by rfl) (by rfl) hn (by rfl) h
theorem xw:Ent N.uC Tryz.f246:=fun hn h=>dC Tryz.func246 (by rfl) (by rfl) hn (by rfl) h
theorem vo:Ent N.rh Tryz.f247:=fun hn h=>dC Tryz.func247 (by rfl) (by rfl) hn (by rfl) h
theorem s7:Ent N.oz Tryz.f248:=fun hn h=>dC Tryz.func248 (by rfl) (by rfl) hn (by rfl) h
theorem oX:Ent N.kh Tryz.f249:=fun hn h=>dC Tryz.func249 (by rfl) (by rfl) hn (by rfl) h
theorem qO:Ent N.mY Tryz.f250:=fun hn h=>dC Tryz.func250 (by rfl) (by rfl) hn (by rfl) h
theorem s8:Ent N.pA Tryz.f251:=fun hn h=>dC Tryz.func251 (by rfl) (by rfl) hn (by rfl) h
theorem uN:Ent N.qE Tryz.f252:=fun hn h=>dC Tryz.func252 (by rfl) (by rfl) hn (by rfl) h
theorem ig:Ent N.gD Tryz.f253:=fun hn h=>dC Tryz.func253 (by rfl) (by rfl) hn (by rfl) h
theorem uO:Ent N.qF Tryz.f260:=fun hn h=>dC Tryz.func260 (by rfl) (by rfl) hn (by rfl) h
theorem s9:Ent N.pB Tryz.f261:=fun hn h=>dC Tryz.func261 (by rfl) (by rfl) hn (by rfl) h
theorem BP:Ent N.zu Tryz.f262:=fun hn h=>dC Tryz.func262 (by rfl) (by rfl) hn (by rfl) h
theorem uP:Ent N.qG Tryz.f263:=fun hn h=>dC Tryz.func263 (by rfl) (by rfl) hn (by rfl) h
theorem BQ:Ent N.zw Tryz.f266:=fun hn h=>dC Tryz.func266 (by rfl) (by rfl) hn (by rfl) h
theorem BR:Ent N.zx Tryz.f267:=fun hn h=>dC Tryz.func267 (by rfl) (by rfl) hn (by rfl) h
theorem kV{H:Hp}{nx:Nat}{iv:Iv}{w1 w':World}(hS:Old S w)(hw:eE w.heap.size w w1)(r:Rel H nx iv w.heap.size w1 O w'){ad:Addr}{j:Nat}{x:Value}(hs:S ad.block)(h:w.cell? (ad.add j)=some x):w'.cell? (ad.add j)=some x:=by
 rw[(hw.tr r.cQ).cell (by rw[dN];exact hS _ hs)];exact h
theorem FN(a:Option Addr)(c:Nat):(if (c:Int)=0 then a else a.map fun x=>x.add (Int.toNat 0*1))=a:=by
 split
 ·rfl
 ·cases a<;>rfl
theorem xx(h:ls[k]? =some 0):dy (ls.take (k+1))=dy (ls.take k):=by
 rw[List.take_add_one,h];exact k6 _
theorem BS{x:Nat}(h:ls[k]? =some x)(hx:x≠0):dy (ls.take (k+1))=ls.take (k+1):=by
 rw[List.take_add_one,h];exact oC _ hx
theorem fT(hS:Old S w)(h:dQ w S v ls):eA PG N.mU #[v] w (eF w fun v' w2=>dQ w2 S v' (dy ls)):=by
 obtain⟨a,c,rfl,SR,hc⟩:=h.sl;have hle:=h.le;have PO:=h.lm;refine qK (by simp) ?_
 refine⟨Nat×World,fun x=>⟨[(0,sV a x.1 c)],[],0,[],x.2⟩,fun x=>x.1,
  fun x=>x.1<=ls.length∧eE w.heap.size w x.2∧dy ls=dy (ls.take x.1),?_,?_⟩
 ·intro O w' r;exact⟨(ls.length,w'),⟨aF _,r.cQ,by simp⟩,Sub.reset r ⟨rfl,trivial⟩ ⟨trivial,trivial⟩⟩
 ·rintro⟨k,w1⟩ ⟨hk,hw,hF⟩;dsimp only at hk hw hF ⊢;have Vj:eE w.heap.size w w1->dy ls=ls.take k->∀O w2,Rel [] 0 [] w.heap.size w1 O w2->dQ w2 S (.slice a k c) (dy ls):=fun hw he O w2 r=>by
   rw[he];refine⟨PO.take k,by simp;omega,a,c,by simp;omega,by simp;omega,fun j x hx=>?_⟩;have Ro:j<k:=by
    have:=(aD.1 hx).1;simp at this;omega
   rw[bT Ro]at hx;obtain⟨ad,h1,h2,h3⟩:=hc j x hx;exact⟨ad,h1,h2,kV hS hw r h2 h3⟩
  refine dK.mk ?_ ?_<;>intro h
  ·have h:0<k:=by simpa using h
   obtain⟨k,rfl⟩:∃q,k=q+1:=⟨k-1,by omega⟩
   obtain⟨x,hx⟩:∃x,ls[k]? =some x:=⟨_,aB (by omega)⟩
   obtain⟨ad,ha,hs,SH⟩:=hc k x hx;refine⟨(k:Int),wo,ad,ha,by omega,.int .u32 x,fun O w' r=>by rw[aE,aT];exact kV hS hw r hs SH,?_⟩;refine dK.mk ?_ ?_<;>intro h2
   ·have h2:x=0:=by have:=eq_of_beq h2;omega
    subst h2;refine⟨(k:Int),wo,⟨by omega,by omega,by omega⟩,a,k,c,FN a c,by simp,by simp,?_⟩;intro O w2 r;exact⟨(k,w2),⟨by dsimp only;omega,hw.tr r.cQ,hF.trans (xx hx)⟩,Sub.reset r ⟨rfl,trivial⟩ ⟨trivial,trivial⟩,by dsimp only;omega⟩
   ·have h2:x≠0:=by intro e;subst e;simp at h2
    intro O w2 r;exact⟨_,rfl,hw.tr r.cQ,Vj hw (by rw[hF,BS hx h2]) O w2 r⟩
  ·have h:k=0:=by
    have:¬0<k:=by simpa using h
    omega
   subst h;intro O w2 r;exact⟨_,rfl,hw.tr r.cQ,Vj hw (by rw[hF];simp[dy]) O w2 r⟩
theorem eX(h:n<18446744073709551616):IntKind.u64.wrap (n:Int)=(n:Int):=yE (by omega) (by omega)
theorem fK(n:Nat):IntKind.u32.wrap (n:Int)=((n % 4294967296:Nat):Int):=by
 show((n:Int) % 4294967296)=_;omega
theorem ofInt32(x:Nat):BitVec.ofInt 32 (x:Int)=BitVec.ofNat 32 x:=by
 apply BitVec.eq_of_toNat_eq;simp
theorem qX{y:Nat}(x:Nat)(hy:y<4294967296):x &&& y<4294967296:=Nat.lt_of_le_of_lt Nat.and_le_right hy
theorem qY{x y:Nat}(hx:x<4294967296)(hy:y<4294967296):x ^^^ y<4294967296:=Nat.xor_lt_two_pow (n:=32) hx hy
theorem Dr{x y:Nat}(hx:x<4294967296)(hy:y<4294967296):x ||| y<4294967296:=Nat.or_lt_two_pow (n:=32) hx hy
theorem NT{x y:Nat}(hx:x<4294967296)(hy:y<4294967296):IntKind.u32.wrap ((BitVec.ofInt IntKind.u32.bits x &&& BitVec.ofInt IntKind.u32.bits y).toNat:Int)=((x &&& y:Nat):Int):=by
 show IntKind.u32.wrap ((BitVec.ofInt 32 x &&& BitVec.ofInt 32 y).toNat:Int)=_;rw[ofInt32,ofInt32,BitVec.toNat_and,BitVec.toNat_ofNat,BitVec.toNat_ofNat,bN hx,bN hy,fK,bN (qX x hy)]
theorem aAa{x y:Nat}(hx:x<4294967296)(hy:y<4294967296):IntKind.u32.wrap ((BitVec.ofInt IntKind.u32.bits x ||| BitVec.ofInt IntKind.u32.bits y).toNat:Int)=((x ||| y:Nat):Int):=by
 show IntKind.u32.wrap ((BitVec.ofInt 32 x ||| BitVec.ofInt 32 y).toNat:Int)=_;rw[ofInt32,ofInt32,BitVec.toNat_or,BitVec.toNat_ofNat,BitVec.toNat_ofNat,bN hx,bN hy,fK,bN (Dr hx hy)]
theorem NU{x y:Nat}(hx:x<4294967296)(hy:y<4294967296):IntKind.u32.wrap ((BitVec.ofInt IntKind.u32.bits x ^^^ BitVec.ofInt IntKind.u32.bits y).toNat:Int)=((x ^^^ y:Nat):Int):=by
 show IntKind.u32.wrap ((BitVec.ofInt 32 x ^^^ BitVec.ofInt 32 y).toNat:Int)=_;rw[ofInt32,ofInt32,BitVec.toNat_xor,BitVec.toNat_ofNat,BitVec.toNat_ofNat,bN hx,bN hy,fK,bN (qY hx hy)]
theorem NV{x:Nat}(hx:x<4294967296):IntKind.u32.wrap ((BitVec.ofInt IntKind.u32.bits (if IntKind.u32.signed=true then -1 else IntKind.u32.max) ^^^ BitVec.ofInt IntKind.u32.bits x).toNat:Int)=((4294967295 ^^^ x:Nat):Int):=
 NU (x:=4294967295) (by decide) hx
theorem lu{x:Nat}(k:Nat)(hk:k<=63):(x:Int).fdiv (2^min (Int.toNat (k:Int)) IntKind.u64.bits)=((x / 2^k:Nat):Int):=by
 have h1:min (Int.toNat (k:Int)) IntKind.u64.bits=k:=by show min (Int.toNat (k:Int)) 64=k;omega
 rw[h1,Int.fdiv_eq_ediv_of_nonneg _ (by exact Int.le_of_lt (Int.pow_pos (by decide)))];simp
theorem oZ{x:Nat}(k:Nat)(hk:k<=31):(x:Int).fdiv (2^min (Int.toNat (k:Int)) IntKind.u32.bits)=((x / 2^k:Nat):Int):=by
 have h1:min (Int.toNat (k:Int)) IntKind.u32.bits=k:=by show min (Int.toNat (k:Int)) 32=k;omega
 rw[h1,Int.fdiv_eq_ediv_of_nonneg _ (by exact Int.le_of_lt (Int.pow_pos (by decide)))];simp
theorem Mt{z:Nat}(h:z<4294967296):z.testBit 31=decide (2147483648<=z):=by
 rw[Nat.testBit_eq_decide_div_mod_eq];apply decide_eq_decide.2;show z / 2147483648 % 2=1↔_;omega
theorem borrow{x y c d:Nat}(hx:x<4294967296)(hy:y<4294967296)(hc:c<=1)(hd:(x+4294967296-(y+c)) % 4294967296=d):
  (((4294967295 ^^^ x) &&& y) ||| ((4294967295 ^^^ (x ^^^ y)) &&& d)) / 2^31=if x<y+c then 1 else 0:=by
 have Oc:d<4294967296:=by omega
 have hz:=Dr (qX (4294967295 ^^^ x) hy) (qX (4294967295 ^^^ (x ^^^ y)) Oc);have ht:=Mt hz;have hm:Nat.testBit 4294967295 31=true:=by decide
 rw[Nat.testBit_or,Nat.testBit_and,Nat.testBit_and,Nat.testBit_xor,Nat.testBit_xor,Nat.testBit_xor,hm,Mt hx,Mt hy,Mt Oc]at ht;generalize (((4294967295 ^^^ x) &&& y) ||| ((4294967295 ^^^ (x ^^^ y)) &&& d))=z at hz ht;show z / 2147483648=_;by_cases h1:2147483648<=x<;>by_cases h2:2147483648<=y<;>by_cases h3:2147483648<=d<;>simp[h1,h2,h3]at ht<;>split<;>omega
theorem IM(x y c:Nat)(w:World)(hx:x<4294967296)(hy:y<4294967296)(hc:c<4294967296):
  eA PG N.zw #[.int .u32 x,.int .u32 y,.int .u32 c] w (eF w fun v _=>v= .tuple #[.int .u32 ((x+y+c) % 4294967296:Nat),.int .u32 ((x+y+c) / 4294967296:Nat)]):=by
 refine BQ (by simp) ?_;refine⟨(x:Int),eX (by omega),(y:Int),eX (by omega),((x+y:Nat):Int),by rw[yE]<;>omega,(c:Int),eX (by omega),((x+y+c:Nat):Int),by rw[yE]<;>omega,(((x+y+c) % 4294967296:Nat):Int),fK _,by decide,(((x+y+c) / 4294967296:Nat):Int),?_,?_⟩
 ·exact lu 32 (by decide)
 refine⟨(((x+y+c) / 4294967296:Nat):Int),by rw[fK];omega,?_⟩;intro O w3 r;exact⟨_,rfl,r.cQ,rfl⟩
theorem IN(x y c:Nat)(w:World)(hx:x<4294967296)(hy:y<4294967296)(hc:c<=1):
  eA PG N.zx #[.int .u32 x,.int .u32 y,.int .u32 c] w (eF w fun v _=>v= .tuple #[.int .u32 ((x+4294967296-(y+c)) % 4294967296:Nat),.int .u32 ((if x<y+c then 1 else 0:Nat):Int)]):=by
 refine BR (by simp) ?_;refine⟨((x+4294967296-y) % 4294967296:Nat),?_,?_⟩
 ·show((x:Int)-y) % 4294967296=_;omega
 refine⟨((x+4294967296-(y+c)) % 4294967296:Nat),?_,?_⟩
 ·show((((x+4294967296-y) % 4294967296:Nat):Int)-c) % 4294967296=_;omega
 have h6:(x+4294967296-(y+c)) % 4294967296<4294967296:=bu _ (by decide);generalize hd:(x+4294967296-(y+c)) % 4294967296=d at h6;refine⟨((4294967295 ^^^ x:Nat):Int),NV hx,(((4294967295 ^^^ x) &&& y:Nat):Int),NT (qY (by decide) hx) hy,((x ^^^ y:Nat):Int),NU hx hy,((4294967295 ^^^ (x ^^^ y):Nat):Int),NV (qY hx hy),(((4294967295 ^^^ (x ^^^ y)) &&& d:Nat):Int),NT (qY (by decide) (qY hx hy)) h6,((((4294967295 ^^^ x) &&& y) ||| ((4294967295 ^^^ (x ^^^ y)) &&& d):Nat):Int),aAa (qX _ hy) (qX _ h6),by decide,((if x<y+c then 1 else 0:Nat):Int),?_,?_⟩
 ·rw[<-borrow hx hy hc hd];exact oZ 31 (by decide)
 intro O w3 r;exact⟨_,rfl,r.cQ,rfl⟩
def sd(n m:Nat):Int:=if n<m then -1 else if m<n then 1 else 0
theorem NW{a b:List Nat}{i x y:Nat}(ha:Lm a)(hl:a.length=b.length)(hx:a[i]? =some x)(hy:b[i]? =some y)(h:a.drop (i+1)=b.drop (i+1))(OU:x<y):val a<val b:=by
 have hi:=(aD.1 hx).1;have h1:=ef a i (by omega);have h2:=ef b i (by omega);rw[jG hx]at h1;rw[jG hy,<-h]at h2;have h3:=oB (ha.take i);rw[aW,Nat.min_eq_left (by omega)]at h3;generalize val (a.drop (i+1))=q at h1 h2;have h4:wt i*(x+4294967296*q+1)<=wt i*(y+4294967296*q):=bY _ (by omega);rw[bU,aT]at h4;omega
theorem Kx{u:Value}{m:Nat}(hS:Old S w)(hn:eC w S v n)(hm:eC w S u m):eA PG N.rh #[v,u] w (eF w fun v' _=>v'= .int .i64 (sd n m)):=by
 obtain⟨ls,h1,nz1,rfl⟩:=hn;obtain⟨ms,h2,nz2,rfl⟩:=hm;obtain⟨a,c,rfl,_,ha⟩:=h1.sl;obtain⟨b,e,rfl,_,hb⟩:=h2.sl;have hle1:=h1.le;have Ub:=h2.le;have lm1:=h1.lm;have lm2:=h2.lm;refine vo (by simp) ?_;refine dK.mk ?_ ?_<;>intro h
 ·have h:ls.length≠ms.length:=by intro e;rw[e]at h;simp at h
  refine dK.mk ?_ ?_<;>intro h3
  ·have h3:ls.length<ms.length:=by simpa using h3
   intro O w2 r;exact⟨_,rfl,r.cQ,by rw[sd,if_pos (ix lm1 nz2 h3)];rfl⟩
  ·have h3:ms.length<ls.length:=by
    have:¬ls.length<ms.length:=by simpa using h3
    omega
   have h4:=ix lm2 nz1 h3;intro O w2 r;exact⟨_,rfl,r.cQ,by rw[sd,aJ (by omega),if_pos h4];rfl⟩
 ·have h:ls.length=ms.length:=by
   have:(ls.length:Int)=ms.length:=by simpa using h
   omega
  refine⟨(ls.length:Int)-1,wo,Nat×World,fun x=>⟨[(0,sV a ls.length c),(1,sV b ms.length e),(5,.o (.v (.int .i64 ((x.1:Int)-1))))],[],0,[],x.2⟩,fun x=>x.1,
   fun x=>x.1<=ls.length∧eE w.heap.size w x.2∧ls.drop x.1=ms.drop x.1,?_,?_⟩
  ·intro O w' r;exact⟨(ls.length,w'),⟨aF _,r.cQ,by rw[List.drop_length,h,List.drop_length]⟩,Sub.reset r ⟨rfl,rfl,rfl,trivial⟩ ⟨trivial,trivial,trivial,trivial⟩⟩
  ·rintro⟨k,w1⟩ ⟨hk,hw,hd⟩;dsimp only at hk hw hd ⊢;refine dK.mk ?_ ?_<;>intro h3
   ·have h3:(k:Int)-1≥0:=aI h3;obtain⟨k,rfl⟩:∃q,k=q+1:=⟨k-1,by omega⟩
    rw[show ((k+1:Nat):Int)-1=(k:Int) by omega];obtain⟨x,hx⟩:∃x,ls[k]? =some x:=⟨_,aB (by omega)⟩
    obtain⟨y,hy⟩:∃x,ms[k]? =some x:=⟨_,aB (by omega)⟩
    obtain⟨ad,OY,hs,hc1⟩:=ha k x hx;obtain⟨ad2,Pc,QS,Vw⟩:=hb k y hy;have Oa:∀O w',Rel [] 0 [] w.heap.size w1 O w'->w'.cell? (ad.add ((k:Int).toNat*1))=some (.int .u32 x):=fun O w' r=>by
     rw[aE,aT];exact kV hS hw r hs hc1
    have QP:∀O w',Rel [] 0 [] w.heap.size w1 O w'->w'.cell? (ad2.add ((k:Int).toNat*1))=some (.int .u32 y):=fun O w' r=>by
     rw[aE,aT];exact kV hS hw r QS Vw
    refine cM hτ df [.x 0,.x 1,.x 2,.x 3,.x 4,.x 5,.x 6,.x 7,.x 8,.x 9] (by kernel_rfl) (by kernel_rfl) ?_;refine⟨ad,OY,by omega,_,Oa,ad2,Pc,by omega,_,QP,?_⟩;refine dK.mk ?_ ?_<;>intro h4
    ·have h4:x<y:=by simpa using h4
     intro O w2 r;exact⟨_,rfl,hw.tr r.cQ,by rw[sd,if_pos (NW lm1 h hx hy hd h4)];rfl⟩
    ·have h4:¬x<y:=by simpa using h4
     refine cM hτ df [.x 0,.x 1,.x 2,.x 3,.x 4,.x 5,.x 6,.x 7,.x 8,.x 9] (by kernel_rfl) (by kernel_rfl) ?_;refine⟨ad,OY,by omega,_,Oa,ad2,Pc,by omega,_,QP,?_⟩;refine dK.mk ?_ ?_<;>intro h5
     ·have h5:y<x:=by simpa using h5
      have h6:=NW lm2 h.symm hy hx hd.symm h5;intro O w2 r;exact⟨_,rfl,hw.tr r.cQ,by rw[sd,aJ (by omega),if_pos h6];rfl⟩
     ·have h5:¬y<x:=by simpa using h5
      have hxy:x=y:=by omega
      subst hxy;refine⟨(k:Int)-1,wo,?_⟩;intro O w2 r;have Oc:ls.drop k=ms.drop k:=by
       obtain⟨q1,e1⟩:=aD.1 hx;obtain⟨q2,e2⟩:=aD.1 hy;rw[List.drop_eq_getElem_cons q1,List.drop_eq_getElem_cons q2,e1,e2,hd]
      exact⟨(k,w2),⟨by dsimp only;omega,hw.tr r.cQ,Oc⟩,Sub.reset r ⟨rfl,rfl,rfl,trivial⟩ ⟨trivial,trivial,trivial,trivial⟩,by simp⟩
   ·have RA:k=0:=by
     have:¬(k:Int)-1≥0:=aH h3;omega
    subst RA;have he:ls=ms:=by simpa using hd
    intro O w2 r;exact⟨_,rfl,hw.tr r.cQ,by rw[he,sd,aJ (by omega),aJ (by omega)];rfl⟩
end Go.Ex
namespace Go.Sx
open Go Go.Ex Go.Proofs
variable{O:Nat->Sx.dx}
theorem Rel.qP{nx:Nat}{iv:Iv}{B:Nat}{w w':World}(r:Rel [] nx iv B w O w'):w.grownBy w' none:=
 ⟨r.os,r.tape,r.output,r.size,fun k hk _=>r.ug k hk (fun id b h=>by cases h)⟩
end Go.Sx
namespace Go.Ex
open Go Go.Sx Go.Proofs
variable{l ls:List Nat}{S:Nat->Prop}{v:Value}{w:World}
structure LA(S:Nat->Prop)(w:World) where
 a:Option Addr
 c:Nat
 ls:List Nat
 lm:Lm ls
 le:ls.length<=9223372036854775807
 cap:ls.length<=c
 cell:∀(j:Nat) x,ls[j]? =some x->∃ad,a=some ad∧S ad.block∧w.cell? (ad.add j)=some (.int .u32 x)
theorem dQ.la(h:dQ w S v ls):∃p:LA S w,v= .slice p.a p.ls.length p.c∧p.ls=ls:=by
 obtain⟨a,c,h1,h2,h3⟩:=h.sl;exact⟨⟨a,c,ls,h.lm,h.le,h2,h3⟩,h1,rfl⟩
theorem eC.la{n:Nat}(h:eC w S v n):∃p:LA S w,v= .slice p.a p.ls.length p.c∧val p.ls=n∧Nz p.ls:=by
 obtain⟨ls,h1,h2,h3⟩:=h;obtain⟨p,h4,h5⟩:=h1.la;exact⟨p,h4,by rw[h5];exact h3,by rw[h5];exact h2⟩
theorem LA.load{w1:World}(p:LA S w)(hS:Old S w)(hw:eE w.heap.size w w1){k x:Nat}(hx:p.ls[k]? =some x):
  ∃ad,p.a=some ad∧∀(H:Hp) (nx:Nat) (iv:Iv) (O:Nat->Sx.dx) w',Rel H nx iv w.heap.size w1 O w'->w'.cell? (ad.add ((k:Int).toNat*1))=some (.int .u32 x):=by
 obtain⟨ad,h1,h2,h3⟩:=p.cell k x hx;refine⟨ad,h1,fun H nx iv O w' r=>?_⟩;rw[aE,aT];exact kV hS hw r h2 h3
def U(l:List Nat):List Value:=l.map fun(x:Nat)=>.int .u32 (x:Int)
theorem gO(l:List Nat):(U l).length=l.length:=by simp[U]
theorem uQ{k x:Nat}(h:l[k]? =some x):(U l)[k]? =some (.int .u32 x):=by simp[U,h]
theorem aAf(l:List Nat)(k x:Nat)(h:k<l.length):(U l).take k++[.int .u32 x]++(U l).drop (k+1)=U (l.set k x):=by
 have h1:k<(U l).length:=by rw[gO];exact h
 have:(U l).set k (.int .u32 x)=U (l.set k x):=by simp[U,List.map_set]
 rw[<-this,List.set_eq_take_append_cons_drop,if_pos h1];simp
theorem jA(l:List Nat)(k x:Nat)(h:k<l.length){e:Nat}(he:e=k):(U l).take e++[.int .u32 (x:Int)]++(U l).drop (e+1)=U (l.set k x):=by
 subst he;exact aAf l e x h
theorem se(n:Nat):List.replicate n (Value.int .u32 0)=U (List.replicate n 0):=by simp[U]
end Go.Ex
namespace Go.Sx
open Go Go.Ex Go.Proofs
variable{ls:List Nat}{O:Nat->Sx.dx}
theorem Rel.nY{H:Hp}{nx:Nat}{iv:Iv}{B:Nat}{w w':World}(r:Rel H nx iv B w O w'){id t:Nat}(h:dF H id=some (.arr t (U ls)))(PO:Lm ls)(hle:ls.length<=9223372036854775807):
  dQ w' (fun g=>g=(O id).g) (.slice (some ⟨(O id).g,0,none⟩) ls.length ls.length) ls:=by
 refine⟨PO,hle,_,_,rfl,aF _,fun j x hx=>⟨_,rfl,rfl,?_⟩⟩;have h0:(⟨(O id).g,0,none⟩:Addr).add j=⟨(O id).g,j,none⟩:=by
  cases j with
  |zero=>rfl
  |succ j=>simp[Addr.add]
 rw[h0,cell_of (r.arr id t _ h)];exact uQ hx
end Go.Sx
namespace Go.Ex
open Go Go.Sx Go.Proofs
variable{S:Nat->Prop}
theorem CZ{out ls ms:List Nat}{i x o d:Nat}(hx:ls[i]? =some x)(ho:ms.getD i 0=o)(hd:out[i]? =some d){carry:Nat}(h:val (out.take i)+wt i*carry=val (ls.take i)+val (ms.take i)):
  val ((out.set i ((x+o+carry) % 4294967296)).take (i+1))+wt (i+1)*((x+o+carry) / 4294967296)=val (ls.take (i+1))+val (ms.take (i+1)):=by
 have hi:=(aD.1 hd).1;have h1:(out.set i ((x+o+carry) % 4294967296))[i]? =some ((x+o+carry) % 4294967296):=by rw[aV hi]
 rw[dq h1,List.take_set_of_le (aF _),dq hx,iw];have h2:val (ms.take (i+1))=val (ms.take i)+wt i*o:=by
  cases hm:ms[i]? with
  |some y=>
   have:y=o:=by rw[<-ho];simp[List.getD,hm]
   rw[dq hm,this]
  |none=>
   have:o=0:=by rw[<-ho];simp[List.getD,hm]
   rw[this,List.take_add_one,hm];simp
 rw[h2];have h3:=Nat.div_add_mod (x+o+carry) 4294967296;generalize (x+o+carry) / 4294967296=q at h3 ⊢;generalize (x+o+carry) % 4294967296=r at h3 ⊢;have h4:wt i*(4294967296*q+r)=wt i*(x+o+carry):=by rw[h3]
 rw[bU,bU,bU,<-bh,bV (wt i) 4294967296]at h4;omega
theorem aAG{w:World}{v u:Value}{n m:Nat}(hS:Old S w)(hn:eC w S v n)(hm:eC w S u m)(Rq:ln n<=1000000000000)(PO:ln m<=1000000000000):
  eA PG N.qF #[v,u] w (eF w fun v' w2=>eC w2 (Nf w w2) v' (n+m)):=by
 obtain⟨p,rfl,Q5,QB⟩:=hn.la;obtain⟨q,rfl,RC,Pv⟩:=hm.la;have PR:=eO p.lm QB;have UM:=eO q.lm Pv;rw[Q5]at PR;rw[RC]at UM;have hsum:n+m=val p.ls+val q.ls:=by rw[Q5,RC]
 rw[hsum];refine uO (by simp) ?_;refine dK.mk ?_ ?_<;>intro h
 case' refine_1=>
  have h:p.ls.length<q.ls.length:=by simpa using h
  have hpx:p.ls.length<=q.ls.length:=by omega
  have hx12:q.ls.length<=1000000000000:=by omega
  rw[Nat.add_comm];generalize TF:q=x at*
  generalize hgy:p=y at*
 case' refine_2=>
  have h:¬p.ls.length<q.ls.length:=by simpa using h
  have hpx:q.ls.length<=p.ls.length:=by omega
  have hx12:p.ls.length<=1000000000000:=by omega
  generalize TF:p=x at*
  generalize hgy:q=y at*
 all_goals
  refine⟨((x.ls.length+1:Nat):Int),wo,x.ls.length+1,x.ls.length+1,rfl,rfl,aF _,by omega,by omega,Nat×List Nat×Nat×World,fun z=>⟨[(0,sV x.a x.ls.length x.c),(1,sV y.a y.ls.length y.c),(5,.o (.s 0 0 (x.ls.length+1) (x.ls.length+1))),(6,.o (.v (.int .u32 z.2.2.1))),(21,iZ x.ls.length),(22,iZ z.1)],
    [(0,.arr T.uint32 (U z.2.1))],1,[],z.2.2.2⟩,fun z=>x.ls.length-z.1,
   fun z=>z.1<=x.ls.length∧eE w.heap.size w z.2.2.2∧z.2.1.length=x.ls.length+1∧Lm z.2.1∧z.2.2.1<2∧val (z.2.1.take z.1)+wt z.1*z.2.2.1=val (x.ls.take z.1)+val (y.ls.take z.1),?_,?_⟩
  ·intro O w' r;rw[se]at r;exact⟨(0,List.replicate (x.ls.length+1) 0,0,w'),⟨by simp,r.cQ,by simp,Lm.replicate _,by simp,by simp[val]⟩,Sub.gn [] r⟩
  ·rintro⟨i,out,carry,w1⟩ ⟨hi,hw,QH,Oj,hc,hv⟩;dsimp only at hi hw QH Oj hc hv ⊢;refine dK.mk ?_ ?_<;>intro h
   ·have h:i<x.ls.length:=by simpa using h
    obtain⟨xi,PL⟩:∃k,x.ls[i]? =some k:=⟨_,aB h⟩
    obtain⟨d,hd⟩:∃k,out[i]? =some k:=⟨_,aB (by omega)⟩
    obtain⟨ad,OY,Oo⟩:=x.load hS hw PL;have Ps:=x.lm.at PL;refine dK.mk ?_ ?_<;>intro h2
    ·have h2:i<y.ls.length:=by simpa using h2
     obtain⟨o,ho⟩:∃k,y.ls[i]? =some k:=⟨_,aB h2⟩
     obtain⟨ad2,Pc,Q7⟩:=y.load hS hw ho;have VY:=y.lm.at ho;have Sv:y.ls.getD i 0=o:=by simp[List.getD,ho]
     refine⟨ad2,Pc,by omega,.int .u32 o,Q7 _ _ _,ad,OY,by omega,.int .u32 xi,Oo _ _ _,?_⟩;refine cF (cO (Φ:=fun _ _ v _=>v= .tuple #[.int .u32 ((xi+o+carry) % 4294967296:Nat),.int .u32 ((xi+o+carry) / 4294967296:Nat)]) (fun O w' r=>IM xi o carry w' Ps VY (by omega)) ?_);rintro O w' v w2 r he hb rfl;replace hw:=hw.tr hb;have Oi:=CZ PL Sv hd hv;have Vw:(xi+o+carry) / 4294967296<2:=by omega
     refine⟨by omega,by rw[gO];omega,U (out.set i ((xi+o+carry) % 4294967296)),jA out i _ (by omega) (by simp),((i+1:Nat):Int),wo,?_⟩;intro ρ3 w3 r3
     exact⟨(i+1,out.set i ((xi+o+carry) % 4294967296),(xi+o+carry) / 4294967296,w3),⟨by dsimp only;omega,hw.tr r3.cQ,by simp[QH],Oj.set (bu _ (by decide)),Vw,Oi⟩,
      Sub.gn [] r3,by dsimp only;omega⟩
    ·have h2:¬i<y.ls.length:=by simpa using h2
     have Sv:y.ls.getD i 0=0:=by simp[List.getD,List.getElem?_eq_none (show y.ls.length<=i by omega)]
     refine⟨ad,OY,by omega,.int .u32 xi,Oo _ _ _,?_⟩;refine cF (cO (Φ:=fun _ _ v _=>v= .tuple #[.int .u32 ((xi+0+carry) % 4294967296:Nat),.int .u32 ((xi+0+carry) / 4294967296:Nat)]) (fun O w' r=>IM xi 0 carry w' Ps (by decide) (by omega)) ?_);rintro O w' v w2 r he hb rfl;replace hw:=hw.tr hb;have Oi:=CZ PL Sv hd hv;have Vw:(xi+0+carry) / 4294967296<2:=by omega
     refine⟨by omega,by rw[gO];omega,U (out.set i ((xi+0+carry) % 4294967296)),jA out i _ (by omega) (by simp),((i+1:Nat):Int),wo,?_⟩;intro ρ3 w3 r3
     exact⟨(i+1,out.set i ((xi+0+carry) % 4294967296),(xi+0+carry) / 4294967296,w3),⟨by dsimp only;omega,hw.tr r3.cQ,by simp[QH],Oj.set (bu _ (by decide)),Vw,Oi⟩,
      Sub.gn [] r3,by dsimp only;omega⟩
   ·have Qm:i=x.ls.length:=by
     have:¬i<x.ls.length:=by simpa using h
     omega
    subst Qm;obtain⟨d,hd⟩:∃k,out[x.ls.length]? =some k:=⟨_,aB (by omega)⟩
    have S7:val (out.set x.ls.length carry)=val x.ls+val y.ls:=by
     have h1:(out.set x.ls.length carry)[x.ls.length]? =some carry:=by rw[aV (by omega)]
     have h2:=dq h1;rw[List.take_of_length_le (by simp;omega),List.take_set_of_le (aF _)]at h2;rw[bD,List.take_of_length_le hpx]at hv;omega
    have hlm2:Lm (out.set x.ls.length carry):=Oj.set (by omega);refine⟨by omega,by rw[gO];omega,U (out.set x.ls.length carry),jA out x.ls.length carry (by omega) (by simp),?_⟩;generalize hgo:out.set x.ls.length carry=fin at S7 hlm2;have OX:fin.length=x.ls.length+1:=by rw[<-hgo];simp[QH]
    refine gf (Φ:=fun O _ v w2=>dQ w2 (fun g=>g=(O 0).g) v (dy fin)) (H':=[]) 0 rfl (by simp) trivial rfl (fun O w' r=>r.nn 0 _ rfl (by intros;simp) (by simp)) (fun O w' r=>?_) ?_
    ·have hL:=r.nY (id:=0) rfl hlm2 (by omega);rw[OX]at hL;exact fT (fun g hg=>by rw[hg];exact(r.low 0 _ rfl (r.nn 0 _ rfl (by intros;simp) (by simp))).2) hL
    rintro O w' v w2 r he hb hL;replace hw:=hw.tr hb;have PB:=r.low 0 _ rfl (r.nn 0 _ rfl (by intros;simp) (by simp));generalize (O 0).g=g at*
    have hs:=he.size;intro ρ3 w3 r3;refine⟨_,rfl,hw.tr r3.cQ,dy fin,?_,(eu fin).2.1,?_⟩
    ·refine(hL.cJ fun k hk=>?_).cK fun k hk=>.inr ?_
     ·rw[hk];exact r3.qP.block g (by omega) (by simp)
     ·rw[hk];have:=r3.size;omega
    ·rw[(eu fin).1,S7]
end Go.Ex
namespace Go.Ex
open Go Go.Sx Go.Proofs
variable{ls ms out:List Nat}{V a b i k o t:Nat}{S:Nat->Prop}{v:Value}{w:World}
theorem JY(ho:ms.getD i 0=o):val (ms.take (i+1))=val (ms.take i)+wt i*o:=by
 cases hm:ms[i]? with
 |some y=>
  have:y=o:=by rw[<-ho];simp[List.getD,hm]
  rw[dq hm,this]
 |none=>
  have:o=0:=by rw[<-ho];simp[List.getD,hm]
  rw[this,List.take_add_one,hm];simp
theorem As{x d e:Nat}(hx:ls[i]? =some x)(ho:ms.getD i 0=o)(hd:out[i]? =some d){b':Nat}(h:val (out.take i)+val (ms.take i)=val (ls.take i)+wt i*b)(he:e+(o+b)=x+4294967296*b'):
  val ((out.set i e).take (i+1))+val (ms.take (i+1))=val (ls.take (i+1))+wt (i+1)*b':=by
 have hi:=(aD.1 hd).1;have h1:(out.set i e)[i]? =some e:=by rw[aV hi]
 rw[dq h1,List.take_set_of_le (aF _),dq hx,JY ho,iw];have h4:wt i*(e+(o+b))=wt i*(x+4294967296*b'):=by rw[he]
 rw[bU,bU,bU,<-bh,bV (wt i) 4294967296]at h4;omega
theorem D3{u:Value}{n m:Nat}(hS:Old S w)(hn:eC w S v n)(hm:eC w S u m)(hle:m<=n)(Rq:ln n<=1000000000000):
  eA PG N.pB #[v,u] w (eF w fun v' w2=>eC w2 (Nf w w2) v' (n-m)):=by
 obtain⟨x,rfl,Q5,QB⟩:=hn.la;obtain⟨y,rfl,RC,Pv⟩:=hm.la;have PR:=eO x.lm QB;rw[Q5]at PR;have hyx:y.ls.length<=x.ls.length:=by
  rw[eO x.lm QB,eO y.lm Pv,Q5,RC];exact fP hle
 refine s9 (by simp) ?_
 refine⟨x.ls.length,x.ls.length,rfl,rfl,aF _,by omega,by omega,Nat×List Nat×Nat×World,fun z=>⟨[(0,sV x.a x.ls.length x.c),(1,sV y.a y.ls.length y.c),(5,.o (.s 0 0 x.ls.length x.ls.length)),(6,.o (.v (.int .u32 z.2.2.1))),(13,iZ x.ls.length),(14,iZ z.1)],
   [(0,.arr T.uint32 (U z.2.1))],1,[],z.2.2.2⟩,fun z=>x.ls.length-z.1,
  fun z=>z.1<=x.ls.length∧eE w.heap.size w z.2.2.2∧z.2.1.length=x.ls.length∧Lm z.2.1∧z.2.2.1<2∧val (z.2.1.take z.1)+val (y.ls.take z.1)=val (x.ls.take z.1)+wt z.1*z.2.2.1,?_,?_⟩
 ·intro O w' r;rw[se]at r;exact⟨(0,List.replicate x.ls.length 0,0,w'),⟨by simp,r.cQ,by simp,Lm.replicate _,by simp,by simp[val]⟩,Sub.gn [] r⟩
 ·rintro⟨i,out,b,w1⟩ ⟨hi,hw,QH,Oj,hc,hv⟩;dsimp only at hi hw QH Oj hc hv ⊢;refine dK.mk ?_ ?_<;>intro h
  ·have h:i<x.ls.length:=by simpa using h
   obtain⟨xi,PL⟩:∃k,x.ls[i]? =some k:=⟨_,aB h⟩
   obtain⟨d,hd⟩:∃k,out[i]? =some k:=⟨_,aB (by omega)⟩
   obtain⟨ad,OY,Oo⟩:=x.load hS hw PL;have Ps:=x.lm.at PL;refine dK.mk ?_ ?_<;>intro h2
   ·have h2:i<y.ls.length:=by simpa using h2
    obtain⟨o,ho⟩:∃k,y.ls[i]? =some k:=⟨_,aB h2⟩
    obtain⟨ad2,Pc,Q7⟩:=y.load hS hw ho;have VY:=y.lm.at ho;have Sv:y.ls.getD i 0=o:=by simp[List.getD,ho]
    refine⟨ad2,Pc,by omega,.int .u32 o,Q7 _ _ _,ad,OY,by omega,.int .u32 xi,Oo _ _ _,?_⟩;refine cF (cO (Φ:=fun _ _ v _=>v= .tuple #[.int .u32 ((xi+4294967296-(o+b)) % 4294967296:Nat),.int .u32 ((if xi<o+b then 1 else 0:Nat):Int)]) (fun O w' r=>IN xi o b w' Ps VY (by omega)) ?_);rintro O w' v w2 r he hb rfl;replace hw:=hw.tr hb;have QX:(xi+4294967296-(o+b)) % 4294967296+(o+b)=xi+4294967296*(if xi<o+b then 1 else 0):=by split<;>omega
    have OU:(xi+4294967296-(o+b)) % 4294967296<4294967296:=bu _ (by decide);have QE:(if xi<o+b then 1 else 0:Nat)<2:=by split<;>omega
    generalize (xi+4294967296-(o+b)) % 4294967296=e at QX OU;generalize (if xi<o+b then 1 else 0:Nat)=b' at QX QE;have Oi:=As PL Sv hd hv QX;refine⟨by omega,by rw[gO];omega,U (out.set i e),jA out i _ (by omega) (by simp),((i+1:Nat):Int),wo,?_⟩;intro ρ3 w3 r3
    exact⟨(i+1,out.set i e,b',w3),⟨by dsimp only;omega,hw.tr r3.cQ,by simp[QH],Oj.set OU,QE,Oi⟩,
     Sub.gn [] r3,by dsimp only;omega⟩
   ·have h2:¬i<y.ls.length:=by simpa using h2
    have Sv:y.ls.getD i 0=0:=by simp[List.getD,List.getElem?_eq_none (show y.ls.length<=i by omega)]
    refine⟨ad,OY,by omega,.int .u32 xi,Oo _ _ _,?_⟩;refine cF (cO (Φ:=fun _ _ v _=>v= .tuple #[.int .u32 ((xi+4294967296-(0+b)) % 4294967296:Nat),.int .u32 ((if xi<0+b then 1 else 0:Nat):Int)]) (fun O w' r=>IN xi 0 b w' Ps (by decide) (by omega)) ?_);rintro O w' v w2 r he hb rfl;replace hw:=hw.tr hb;have QX:(xi+4294967296-(0+b)) % 4294967296+(0+b)=xi+4294967296*(if xi<0+b then 1 else 0):=by split<;>omega
    have OU:(xi+4294967296-(0+b)) % 4294967296<4294967296:=bu _ (by decide);have QE:(if xi<0+b then 1 else 0:Nat)<2:=by split<;>omega
    generalize (xi+4294967296-(0+b)) % 4294967296=e at QX OU;generalize (if xi<0+b then 1 else 0:Nat)=b' at QX QE;have Oi:=As PL Sv hd hv QX;refine⟨by omega,by rw[gO];omega,U (out.set i e),jA out i _ (by omega) (by simp),((i+1:Nat):Int),wo,?_⟩;intro ρ3 w3 r3
    exact⟨(i+1,out.set i e,b',w3),⟨by dsimp only;omega,hw.tr r3.cQ,by simp[QH],Oj.set OU,QE,Oi⟩,
     Sub.gn [] r3,by dsimp only;omega⟩
  ·have Qm:i=x.ls.length:=by
    have:¬i<x.ls.length:=by simpa using h
    omega
   subst Qm;have S7:val out=n-m:=by
    rw[List.take_of_length_le (by omega),List.take_of_length_le hyx,bD,Q5,RC]at hv;have h1:=oB Oj;rw[QH]at h1;have:b=0∨b=1:=by omega
    rcases this with rfl|rfl
    ·omega
    ·omega
   refine gf (Φ:=fun O _ v w2=>dQ w2 (fun g=>g=(O 0).g) v (dy out)) (H':=[]) 0 rfl (by simp) trivial rfl (fun O w' r=>r.nn 0 _ rfl (by intros;simp) (by simp)) (fun O w' r=>?_) ?_
   ·have hL:=r.nY (id:=0) rfl Oj (by omega);rw[QH]at hL;exact fT (fun g hg=>by rw[hg];exact(r.low 0 _ rfl (r.nn 0 _ rfl (by intros;simp) (by simp))).2) hL
   rintro O w' v w2 r he hb hL;replace hw:=hw.tr hb;have PB:=r.low 0 _ rfl (r.nn 0 _ rfl (by intros;simp) (by simp));generalize (O 0).g=g at*
   have hs:=he.size;intro ρ3 w3 r3;refine⟨_,rfl,hw.tr r3.cQ,dy out,?_,(eu out).2.1,?_⟩
   ·refine(hL.cJ fun k hk=>?_).cK fun k hk=>.inr ?_
    ·rw[hk];exact r3.qP.block g (by omega) (by simp)
    ·rw[hk];have:=r3.size;omega
   ·rw[(eu out).1,S7]
theorem HX{p c:Nat}(ho:out[p]? =some o)(h:val out+wt p*c=V)(ht:t=a+o+c):
  val (out.set p (t % 4294967296))+wt (p+1)*(t / 4294967296)=V+wt p*a:=by
 have h1:=yI (x:=t % 4294967296) ho;rw[iw];have h3:=Nat.div_add_mod t 4294967296;generalize t / 4294967296=q at h3 ⊢;generalize t % 4294967296=r at h3 h1 ⊢;have h4:wt p*(4294967296*q+r)=wt p*(a+o+c):=by rw[h3,ht]
 rw[bU,bU,bU,<-bh,bV (wt p) 4294967296]at h4;omega
def Zf(out:List Nat)(p:Nat):Prop:=∀(j:Nat) z,p<=j->out[j]? =some z->z=0
theorem Zf.set{p x:Nat}(h:Zf out p)(hk:k<p):Zf (out.set k x) p:=fun j z hj hz=>by
 rw[aZ (by omega)]at hz;exact h j z hj hz
theorem MI(ha:a<4294967296)(hb:b<4294967296):a*b<=18446744065119617025:=by
 have:a*b<=4294967295*4294967295:=Nat.mul_le_mul (by omega) (by omega);omega
theorem IC{u:Value}{n m:Nat}(hS:Old S w)(hn:eC w S v n)(hm:eC w S u m)(Rq:ln n<=1000000000000)(PO:ln m<=1000000000000):
  eA PG N.oy #[v,u] w (eF w fun v' w2=>eC w2 (Nf w w2) v' (n*m)):=by
 obtain⟨x,rfl,Q5,QB⟩:=hn.la;obtain⟨y,rfl,RC,Pv⟩:=hm.la;have PR:=eO x.lm QB;rw[Q5]at PR;have UM:=eO y.lm Pv;rw[RC]at UM;refine s6 (by simp) ?_;obtain⟨L,hL⟩:∃L,L=x.ls.length+y.ls.length:=⟨_,rfl⟩
 refine⟨(L:Int),wo,L,L,rfl,rfl,aF _,by omega,by omega,Nat×List Nat×World,fun z=>⟨[(1,sV y.a y.ls.length y.c),(5,.o (.s 0 0 L L)),(18,sV x.a x.ls.length x.c),(19,iZ x.ls.length),(20,iZ z.1)],
   [(0,.arr T.uint32 (U z.2.1))],1,[],z.2.2⟩,fun z=>x.ls.length-z.1,
  fun z=>z.1<=x.ls.length∧eE w.heap.size w z.2.2∧z.2.1.length=L∧Lm z.2.1∧val z.2.1=val (x.ls.take z.1)*m∧Zf z.2.1 (z.1+y.ls.length),?_,?_⟩
 ·intro O w' r;rw[se]at r;exact⟨(0,List.replicate L 0,w'),⟨by simp,r.cQ,by simp,Lm.replicate _,by simp[val,mn],fun j z _ hz=>by simp only[List.getElem?_replicate]at hz;split at hz<;>simp_all⟩,Sub.gn [] r⟩
 ·rintro⟨i,out,w1⟩ ⟨hi,hw,QH,Oj,hv,hz⟩;dsimp only at hi hw QH Oj hv hz ⊢;refine dK.mk ?_ ?_<;>intro h
  ·have h:i<x.ls.length:=by simpa using h
   obtain⟨xi,PL⟩:∃k,x.ls[i]? =some k:=⟨_,aB h⟩
   obtain⟨ad,OY,Oo⟩:=x.load hS hw PL;have Ps:=x.lm.at PL
   refine⟨ad,OY,by omega,.int .u32 xi,Oo _ _ _,Nat×List Nat×Nat×World,fun z=>⟨[(1,sV y.a y.ls.length y.c),(5,.o (.s 0 0 L L)),(18,sV x.a x.ls.length x.c),(19,iZ x.ls.length),(20,iZ i),
     (6,iZ i),(7,.o (.v (.int .u32 xi))),(8,.o (.v (.int .u64 z.2.2.1))),(25,sV y.a y.ls.length y.c),(26,iZ y.ls.length),(27,iZ z.1)],
     [(0,.arr T.uint32 (U z.2.1))],1,[],z.2.2.2⟩,fun z=>y.ls.length-z.1,
    fun z=>z.1<=y.ls.length∧eE w.heap.size w z.2.2.2∧z.2.1.length=L∧Lm z.2.1∧z.2.2.1<4294967296∧val z.2.1+wt (i+z.1)*z.2.2.1=val (x.ls.take i)*m+wt i*xi*val (y.ls.take z.1)∧Zf z.2.1 (i+y.ls.length),?_,?_⟩
   ·intro O w' r;exact⟨(0,out,0,w'),⟨by simp,hw.tr r.cQ,QH,Oj,by simp,by simp[val,hv],hz⟩,Sub.gn [] r⟩
   ·rintro⟨k,out,c,w1⟩ ⟨hk,hw,QH,Oj,hc,hv,hz⟩;dsimp only at hk hw QH Oj hc hv hz ⊢;refine dK.mk ?_ ?_<;>intro h2
    ·have h2:k<y.ls.length:=by simpa using h2
     obtain⟨yk,hyk⟩:∃q,y.ls[k]? =some q:=⟨_,aB h2⟩
     obtain⟨ad2,Pc,Q7⟩:=y.load hS hw hyk;have hy32:=y.lm.at hyk;obtain⟨o,ho⟩:∃q,out[i+k]? =some q:=⟨_,aB (by omega)⟩
     have VY:=Oj.at ho;have hm64:=MI Ps hy32;refine⟨ad2,Pc,by omega,.int .u32 yk,Q7 _ _ _,(xi:Int),eX (by omega),(yk:Int),eX (by omega),((xi*yk:Nat):Int),by rw[<-Int.natCast_mul];exact eX (by omega),((i+k:Nat):Int),wo,by omega,.int .u32 o,by rw[aE,aR,aT];exact uQ ho,(o:Int),eX (by omega),((xi*yk+o:Nat):Int),by rw[<-Int.natCast_add];exact eX (by omega),?_⟩;obtain⟨t,ht⟩:∃t,t=xi*yk+o+c:=⟨_,rfl⟩
     refine⟨(t:Int),by rw[<-Int.natCast_add,<-ht];exact eX (by omega),((i+k:Nat):Int),wo,((t % 4294967296:Nat):Int),fK _,by decide,((t / 4294967296:Nat):Int),lu 32 (by decide),by omega,by rw[gO];omega,U (out.set (i+k) (t % 4294967296)),jA out (i+k) _ (by omega) (by simp only[aE];omega),((k+1:Nat):Int),wo,?_⟩;intro ρ3 w3 r3
     refine⟨(k+1,out.set (i+k) (t % 4294967296),t / 4294967296,w3),⟨by dsimp only;omega,hw.tr r3.cQ,by simp[QH],Oj.set (bu _ (by decide)),by dsimp only;omega,?_,hz.set (by omega)⟩,
      Sub.gn [] r3,by dsimp only;omega⟩
     have h5:=HX (a:=xi*yk) ho hv ht;dsimp only
     rw[show i+(k+1)=i+k+1 by omega,h5,dq hyk,Cr,bU,Nat.add_assoc];congr 2;simp only[bh,Nat.mul_left_comm,bV]
    ·have hkn:k=y.ls.length:=by
      have:¬k<y.ls.length:=by simpa using h2
      omega
     subst hkn;obtain⟨o,ho⟩:∃q,out[i+y.ls.length]? =some q:=⟨_,aB (by omega)⟩
     have ho0:=hz _ _ (aF _) ho;subst ho0;refine⟨((i+y.ls.length:Nat):Int),wo,(c:Int),by rw[fK,bN hc],by omega,by rw[gO];omega,U (out.set (i+y.ls.length) c),jA out (i+y.ls.length) _ (by omega) (by simp only[aE];omega),((i+1:Nat):Int),wo,?_⟩;intro ρ3 w3 r3
     refine⟨(i+1,out.set (i+y.ls.length) c,w3),⟨by dsimp only;omega,hw.tr r3.cQ,by simp[QH],Oj.set hc,?_,?_⟩,
      Sub.gn [] r3,by dsimp only;omega⟩
     ·have h5:=yI (x:=c) ho;dsimp only
      rw[bD,RC]at hv;rw[dq PL,Nat.add_mul];omega
     ·intro j z hj hjz;dsimp only at hj;rw[aZ (by omega)]at hjz;exact hz j z (by omega) hjz
  ·have Qm:i=x.ls.length:=by
    have:¬i<x.ls.length:=by simpa using h
    omega
   subst Qm;have S7:val out=n*m:=by rw[hv,bD,Q5]
   refine gf (Φ:=fun O _ v w2=>dQ w2 (fun g=>g=(O 0).g) v (dy out)) (H':=[]) 0 rfl (by simp) trivial rfl (fun O w' r=>r.nn 0 _ rfl (by intros;simp) (by simp)) (fun O w' r=>?_) ?_
   ·have hL:=r.nY (id:=0) rfl Oj (by omega);rw[QH]at hL;exact fT (fun g hg=>by rw[hg];exact(r.low 0 _ rfl (r.nn 0 _ rfl (by intros;simp) (by simp))).2) hL
   rintro O w' v w2 r he hb hL;replace hw:=hw.tr hb;have PB:=r.low 0 _ rfl (r.nn 0 _ rfl (by intros;simp) (by simp));generalize (O 0).g=g at*
   have hs:=he.size;intro ρ3 w3 r3;refine⟨_,rfl,hw.tr r3.cQ,dy out,?_,(eu out).2.1,?_⟩
   ·refine(hL.cJ fun k hk=>?_).cK fun k hk=>.inr ?_
    ·rw[hk];exact r3.qP.block g (by omega) (by simp)
    ·rw[hk];have:=r3.size;omega
   ·rw[(eu out).1,S7]
theorem D5{q:Nat}(ho:o<2^k):o ||| 2^k*q=o+2^k*q:=by
 rw[Nat.or_comm,<-Nat.two_pow_add_eq_or_of_lt ho,Nat.add_comm]
theorem Kz{x y:Nat}(hx:x<18446744073709551616)(hy:y<18446744073709551616):IntKind.u64.wrap ((BitVec.ofInt IntKind.u64.bits x ||| BitVec.ofInt IntKind.u64.bits y).toNat:Int)=((x ||| y:Nat):Int):=by
 have e:∀z:Nat,BitVec.ofInt 64 (z:Int)=BitVec.ofNat 64 z:=fun z=>by
  apply BitVec.eq_of_toNat_eq;simp
 show IntKind.u64.wrap ((BitVec.ofInt 64 x ||| BitVec.ofInt 64 y).toNat:Int)=_;rw[e,e,BitVec.toNat_or,BitVec.toNat_ofNat,BitVec.toNat_ofNat,bN hx,bN hy];exact eX (Nat.or_lt_two_pow (n:=64) hx hy)
theorem D4(hk:k<=63)(h:a*2^k<18446744073709551616):IntKind.u64.wrap ((a:Int)*2^min ((k:Int)).toNat IntKind.u64.bits)=((a*2^k:Nat):Int):=by
 have h1:min ((k:Int)).toNat IntKind.u64.bits=k:=by show min ((k:Int)).toNat 64=k;omega
 rw[h1,show(a:Int)*2^k=((a*2^k:Nat):Int) by simp];exact eX h
theorem H2(ha:ls[i]? =some a)(ho:out[i]? =some o)(hz:out[i+1]? =some 0)(hv:val out=val (ls.take i)*2^b):
  val ((out.set i (o+a*2^b % 4294967296)).set (i+1) (a*2^b / 4294967296))=val (ls.take (i+1))*2^b:=by
 have h1:=yI (x:=o+a*2^b % 4294967296) ho;have h2:(out.set i (o+a*2^b % 4294967296))[i+1]? =some 0:=by rw[aZ (by omega)];exact hz
 have h3:=yI (x:=a*2^b / 4294967296) h2;rw[dq ha,Nat.add_mul,bh];rw[iw]at h3;generalize a*2^b=t at*
 have h4:=Nat.div_add_mod t 4294967296;generalize t / 4294967296=q at*
 generalize t % 4294967296=r at*
 have h5:wt i*(o+r)=wt i*o+wt i*r:=bU _ _ _;have h6:4294967296*wt i*q=wt i*(4294967296*q):=by rw[bV 4294967296 (wt i),bh]
 rw[<-h4,bU];omega
def LC(w w2:World)(v:Value)(ls:List Nat):Prop:=∃g,v= .slice (some ⟨g,0,none⟩) ls.length ls.length∧w.heap.size<=g∧w2.heap[g]? =some (.cells (U ls).toArray T.uint32 (0,0))∧Lm ls
theorem CK(hS:Old S w)(h:dQ w S v ls)(hl:ls.length<=1000000000000)(hb:b<32):
  eA PG N.mY #[v,.int .u64 b] w (eF w fun v' w2=>∃out,LC w w2 v' out∧out.length=ls.length+1∧val out=val ls*2^b):=by
 obtain⟨x,rfl,rfl⟩:=h.la;refine qO (by simp) ?_;have hp32:2^b<=2^31:=Nat.pow_le_pow_right (by decide) (by omega)
 refine⟨((x.ls.length+1:Nat):Int),wo,x.ls.length+1,x.ls.length+1,rfl,rfl,aF _,by omega,by omega,Nat×List Nat×World,fun z=>⟨[(1,.o (.v (.int .u64 b))),(5,.o (.s 0 0 (x.ls.length+1) (x.ls.length+1))),(13,sV x.a x.ls.length x.c),(14,iZ x.ls.length),(15,iZ z.1)],
   [(0,.arr T.uint32 (U z.2.1))],1,[],z.2.2⟩,fun z=>x.ls.length-z.1,
  fun z=>z.1<=x.ls.length∧eE w.heap.size w z.2.2∧z.2.1.length=x.ls.length+1∧Lm z.2.1∧val z.2.1=val (x.ls.take z.1)*2^b∧Zf z.2.1 (z.1+1)∧(∀o,z.2.1[z.1]? =some o->o<2^b),?_,?_⟩
 ·intro O w' r;rw[se]at r;refine⟨(0,List.replicate (x.ls.length+1) 0,w'),⟨by simp,r.cQ,by simp,Lm.replicate _,by simp[val,mn],fun j z _ hz=>?_,fun o ho=>?_⟩,Sub.gn [] r⟩
  ·simp only[List.getElem?_replicate]at hz;split at hz<;>simp_all
  ·simp only[List.getElem?_replicate]at ho;split at ho
   ·injection ho with ho;subst ho;exact bm _
   ·cases ho
 ·rintro⟨i,out,w1⟩ ⟨hi,hw,QH,Oj,hv,hz,PB⟩;dsimp only at hi hw QH Oj hv hz PB ⊢;refine dK.mk ?_ ?_<;>intro h
  ·have h:i<x.ls.length:=by simpa using h
   obtain⟨a,PL⟩:∃k,x.ls[i]? =some k:=⟨_,aB h⟩
   obtain⟨ad,OY,Oo⟩:=x.load hS hw PL;have Ps:=x.lm.at PL;obtain⟨o,ho⟩:∃q,out[i]? =some q:=⟨_,aB (by omega)⟩
   obtain⟨o1,Up⟩:∃q,out[i+1]? =some q:=⟨_,aB (by omega)⟩
   have e0:=hz _ _ (aF _) Up;subst e0;have SC:=PB o ho;have Oi:=H2 PL ho Up hv;have Pf:a*2^b<=4294967295*2^31:=Nat.mul_le_mul (by omega) hp32;have S9:a*2^b / 4294967296<2^b:=by
    rw[Nat.div_lt_iff_lt_mul (by decide),bV (2^b)];exact Nat.mul_lt_mul_of_pos_right Ps (bm b)
   have Tl:o ||| a*2^b % 4294967296=o+a*2^b % 4294967296:=by
    have:a*2^b % 4294967296=2^b*(a % 2^(32-b)):=by
     rw[show (4294967296:Nat)=2^(32-b)*2^b by rw[<-Nat.pow_add,Nat.sub_add_cancel (by omega)],Nat.mul_mod_mul_right,bV]
    rw[this];exact D5 SC
   have R7:o+a*2^b % 4294967296<4294967296:=by
    rw[<-Tl];exact Dr (by omega) (bu _ (by decide))
   refine⟨ad,OY,by omega,.int .u32 a,Oo _ _ _,(a:Int),eX (by omega),by omega,((a*2^b:Nat):Int),D4 (by omega) (by omega),?_⟩;generalize ht:a*2^b=t at*
   refine⟨by omega,.int .u32 o,by rw[aE,aR,aT];exact uQ ho,((t % 4294967296:Nat):Int),fK _,((o+t % 4294967296:Nat):Int),by rw[<-Tl];exact aAa (by omega) (bu _ (by decide)),by omega,by rw[gO];omega,U (out.set i (o+t % 4294967296)),jA out i _ (by omega) (by simp),((i+1:Nat):Int),wo,by decide,((t / 4294967296:Nat):Int),lu 32 (by decide),((t / 4294967296:Nat):Int),by rw[fK];omega,by omega,by rw[gO];simp;omega,U ((out.set i (o+t % 4294967296)).set (i+1) (t / 4294967296)),jA _ (i+1) _ (by simp;omega) (by simp only[aE];omega),((i+1:Nat):Int),wo,?_⟩;intro ρ3 w3 r3
   refine⟨(i+1,(out.set i (o+t % 4294967296)).set (i+1) (t / 4294967296),w3),⟨by dsimp only;omega,hw.tr r3.cQ,by simp[QH],(Oj.set R7).set (by omega),Oi,fun j z hj hjz=>?_,fun o2 TK=>?_⟩,
    Sub.gn [] r3,by dsimp only;omega⟩
   ·dsimp only at hj;rw[aZ (by omega),aZ (by omega)]at hjz;exact hz j z (by omega) hjz
   ·rw[aV (by simp;omega)]at TK;injection TK with TK;omega
  ·have Qm:i=x.ls.length:=by
    have:¬i<x.ls.length:=by simpa using h
    omega
   subst Qm;rw[bD]at hv;intro ρ3 w3 r3;refine⟨_,rfl,hw.tr r3.cQ,out,⟨(ρ3 0).g,by rw[QH];rfl,(r3.low 0 _ rfl (r3.nn 0 _ rfl (by intros;simp) (by simp))).1,r3.arr 0 _ _ rfl,Oj⟩,QH,hv⟩
theorem Ci{d q:Nat}(ha32:a<4294967296)(ha:ls[i]? =some a)(hd:out[i]? =some d)(hb:b<=32)(ht:t=a+4294967296*ls.getD (i+1) 0)(hq:q=t / 2^b % 4294967296)(hv:val (out.take i)+wt i*(val (ls.drop i) / 2^b)=V):
  val ((out.set i q).take (i+1))+wt (i+1)*(val (ls.drop (i+1)) / 2^b)=V:=by
 have hi:=(aD.1 hd).1;have h1:(out.set i q)[i]? =some q:=by rw[aV hi]
 rw[dq h1,List.take_set_of_le (aF _),iw,<-hv];have hN:=jG ha;have h2:val (ls.drop i) / 2^b=q+4294967296*(val (ls.drop (i+1)) / 2^b):=by
  have e1:val (ls.drop i) / 2^b / 4294967296=val (ls.drop (i+1)) / 2^b:=by
   rw[Nat.div_div_eq_div_mul,bV,<-Nat.div_div_eq_div_mul];congr 1;omega
  have e2:val (ls.drop i) / 2^b % 4294967296=q:=by
   have h3:∃z,val (ls.drop i)=t+2^b*(4294967296*z):=by
    cases hx:ls[i+1]? with
    |some y=>
     have:=jG hx;refine⟨2^(32-b)*val (ls.drop (i+1+1)),?_⟩;have h4:2^b*(4294967296*(2^(32-b)*val (ls.drop (i+1+1))))=18446744073709551616*val (ls.drop (i+1+1)):=by
      rw[Nat.mul_left_comm,<-bh (2^b),<-Nat.pow_add,Nat.add_sub_cancel' hb,<-bh]
     rw[h4,hN,this,ht,List.getD,hx];simp only[Option.getD_some]
     omega
    |none=>
     refine⟨0,?_⟩;have h5:ls.length<=i+1:=List.getElem?_eq_none_iff.1 hx;rw[hN,List.drop_of_length_le h5,ht,List.getD,hx];simp[val]
   obtain⟨z,hz⟩:=h3;rw[hz,Nat.add_mul_div_left _ _ (bm b),Nat.add_mul_mod_self_left,hq]
  have:=Nat.div_add_mod (val (ls.drop i) / 2^b) 4294967296;rw[e1,e2]at this;omega
 rw[h2,bU,bV 4294967296 (wt i),bh];omega
theorem Ny(hS:Old S w)(h:dQ w S v ls)(hl:ls.length<=1000000000000)(hb:b<32):
  eA PG N.qE #[v,.int .u64 b] w (eF w fun v' w2=>eC w2 (Nf w w2) v' (val ls / 2^b)):=by
 obtain⟨x,rfl,rfl⟩:=h.la;refine uN (by simp) ?_
 refine⟨x.ls.length,x.ls.length,rfl,rfl,aF _,by omega,by omega,Nat×List Nat×World,fun z=>⟨[(0,sV x.a x.ls.length x.c),(1,.o (.v (.int .u64 b))),(5,.o (.s 0 0 x.ls.length x.ls.length)),(12,iZ x.ls.length),(13,iZ z.1)],
   [(0,.arr T.uint32 (U z.2.1))],1,[],z.2.2⟩,fun z=>x.ls.length-z.1,
  fun z=>z.1<=x.ls.length∧eE w.heap.size w z.2.2∧z.2.1.length=x.ls.length∧Lm z.2.1∧val (z.2.1.take z.1)+wt z.1*(val (x.ls.drop z.1) / 2^b)=val x.ls / 2^b,?_,?_⟩
 ·intro O w' r;rw[se]at r;exact⟨(0,List.replicate x.ls.length 0,w'),⟨by simp,r.cQ,by simp,Lm.replicate _,by simp[val,jR]⟩,Sub.gn [] r⟩
 ·rintro⟨i,out,w1⟩ ⟨hi,hw,QH,Oj,hv⟩;dsimp only at hi hw QH Oj hv ⊢;refine dK.mk ?_ ?_<;>intro h
  ·have h:i<x.ls.length:=by simpa using h
   obtain⟨a,PL⟩:∃k,x.ls[i]? =some k:=⟨_,aB h⟩
   obtain⟨ad,OY,Oo⟩:=x.load hS hw PL;have Ps:=x.lm.at PL;obtain⟨d,hd⟩:∃q,out[i]? =some q:=⟨_,aB (by omega)⟩
   refine⟨ad,OY,by omega,.int .u32 a,Oo _ _ _,(a:Int),eX (by omega),((i+1:Nat):Int),wo,?_⟩;refine dK.mk ?_ ?_<;>intro h2
   ·have h2:i+1<x.ls.length:=by
     have:((i+1:Nat):Int)<x.ls.length:=aI h2;omega
    obtain⟨y,hy⟩:∃k,x.ls[i+1]? =some k:=⟨_,aB h2⟩
    obtain⟨ad2,Pc,Q7⟩:=x.load hS hw hy;have hy32:=x.lm.at hy;have Qu:x.ls.getD (i+1) 0=y:=by simp[List.getD,hy]
    have Tl:a ||| y*2^32=a+4294967296*y:=by
     rw[bV];exact D5 (k:=32) Ps
    refine⟨((i+1:Nat):Int),wo,ad2,Pc,by omega,.int .u32 y,Q7 _ _ _,(y:Int),eX (by omega),by decide,((y*2^32:Nat):Int),D4 (k:=32) (by decide) (by omega),((a+4294967296*y:Nat):Int),by rw[Kz (by omega) (by omega),Tl],by omega,(((a+4294967296*y) / 2^b:Nat):Int),lu b (by omega),(((a+4294967296*y) / 2^b % 4294967296:Nat):Int),fK _,?_⟩;have Oi:=Ci (t:=a+4294967296*y) Ps PL hd (by omega) (by rw[Qu]) rfl hv;generalize hq:(a+4294967296*y) / 2^b % 4294967296=q at*
    have hq32:q<4294967296:=by rw[<-hq];exact bu _ (by decide)
    refine⟨by omega,by rw[gO];omega,U (out.set i q),jA out i _ (by omega) (by simp),((i+1:Nat):Int),wo,?_⟩;intro ρ3 w3 r3
    exact⟨(i+1,out.set i q,w3),⟨by dsimp only;omega,hw.tr r3.cQ,by simp[QH],Oj.set hq32,Oi⟩,
     Sub.gn [] r3,by dsimp only;omega⟩
   ·have h2:¬i+1<x.ls.length:=by
     have:¬((i+1:Nat):Int)<x.ls.length:=aH h2;omega
    have Qu:x.ls.getD (i+1) 0=0:=by simp[List.getD,List.getElem?_eq_none (show x.ls.length<=i+1 by omega)]
    refine⟨by omega,((a / 2^b:Nat):Int),lu b (by omega),((a / 2^b % 4294967296:Nat):Int),fK _,?_⟩;have Oi:=Ci (t:=a) Ps PL hd (by omega) (by rw[Qu];omega) rfl hv;generalize hq:a / 2^b % 4294967296=q at*
    have hq32:q<4294967296:=by rw[<-hq];exact bu _ (by decide)
    refine⟨by omega,by rw[gO];omega,U (out.set i q),jA out i _ (by omega) (by simp),((i+1:Nat):Int),wo,?_⟩;intro ρ3 w3 r3
    exact⟨(i+1,out.set i q,w3),⟨by dsimp only;omega,hw.tr r3.cQ,by simp[QH],Oj.set hq32,Oi⟩,
     Sub.gn [] r3,by dsimp only;omega⟩
  ·have Qm:i=x.ls.length:=by
    have:¬i<x.ls.length:=by simpa using h
    omega
   subst Qm;have S7:val out=val x.ls / 2^b:=by
    rw[List.drop_length,List.take_of_length_le (by omega)]at hv;simpa [val]using hv
   refine gf (Φ:=fun O _ v w2=>dQ w2 (fun g=>g=(O 0).g) v (dy out)) (H':=[]) 0 rfl (by simp) trivial rfl (fun O w' r=>r.nn 0 _ rfl (by intros;simp) (by simp)) (fun O w' r=>?_) ?_
   ·have hL:=r.nY (id:=0) rfl Oj (by omega);rw[QH]at hL;exact fT (fun g hg=>by rw[hg];exact(r.low 0 _ rfl (r.nn 0 _ rfl (by intros;simp) (by simp))).2) hL
   rintro O w' v w2 r he hb hL;replace hw:=hw.tr hb;have PB:=r.low 0 _ rfl (r.nn 0 _ rfl (by intros;simp) (by simp));generalize (O 0).g=g at*
   have hs:=he.size;intro ρ3 w3 r3;refine⟨_,rfl,hw.tr r3.cQ,dy out,?_,(eu out).2.1,?_⟩
   ·refine(hL.cJ fun k hk=>?_).cK fun k hk=>.inr ?_
    ·rw[hk];exact r3.qP.block g (by omega) (by simp)
    ·rw[hk];have:=r3.size;omega
   ·rw[(eu out).1,S7]
theorem H4{by_ rest x d:Nat}(hx:ls[k]? =some x)(hd:out[k]? =some d)(ht:t=rest*4294967296+x)
  (hv:val (ls.drop (k+1))=by_*val (out.drop (k+1))+rest):val (ls.drop k)=by_*val ((out.set k (t / by_)).drop k)+t % by_:=by
 have hi:=(aD.1 hd).1;have h1:(out.set k (t / by_))[k]? =some (t / by_):=by rw[aV hi]
 rw[jG h1,List.drop_set_of_lt (show k<k+1 by omega),jG hx,hv,bU,bU];have h2:=Nat.div_add_mod t by_;rw[Nat.mul_left_comm by_];omega
theorem LB(h:t<18446744073709551616):IntKind.u64.wrap ((t:Int).tdiv (b:Int))=((t / b:Nat):Int):=by
 have h1:=Nat.div_le_self t b;rw[Int.tdiv_eq_ediv_of_nonneg (by omega),<-Int.natCast_ediv];exact eX (by omega)
theorem Lx(t b:Nat):(t:Int).tmod (b:Int)=((t % b:Nat):Int):=by
 rw[Int.tmod_eq_emod_of_nonneg (by omega),<-Int.natCast_emod]
theorem Mj(hS:Old S w)(h:dQ w S v ls)(hl:ls.length<=1000000000000)(hb:0<b)(QE:b<4294967296):
  eA PG N.oz #[v,.int .u32 b] w (eF w fun v' w2=>∃q,v'= .tuple #[q,.int .u32 ((val ls % b:Nat):Int)]∧eC w2 (Nf w w2) q (val ls / b)):=by
 obtain⟨x,rfl,rfl⟩:=h.la;refine s7 (by simp) ?_
 refine⟨x.ls.length,x.ls.length,rfl,rfl,aF _,by omega,by omega,(x.ls.length:Int)-1,wo,Nat×Nat×List Nat×World,fun z=>⟨[(0,sV x.a x.ls.length x.c),(1,.o (.v (.int .u32 b))),(4,sV none 0 0),(5,.o (.v (.int .u32 0))),(6,.o (.s 0 0 x.ls.length x.ls.length)),(7,.o (.v (.int .u64 z.2.1))),(8,.o (.v (.int .i64 ((z.1:Int)-1))))],
   [(0,.arr T.uint32 (U z.2.2.1))],1,[],z.2.2.2⟩,fun z=>z.1,
  fun z=>z.1<=x.ls.length∧eE w.heap.size w z.2.2.2∧z.2.2.1.length=x.ls.length∧Lm z.2.2.1∧z.2.1<b∧val (x.ls.drop z.1)=b*val (z.2.2.1.drop z.1)+z.2.1,?_,?_⟩
 ·intro O w' r;rw[se]at r;exact⟨(x.ls.length,0,List.replicate x.ls.length 0,w'),⟨by simp,r.cQ,by simp,Lm.replicate _,by simpa using hb,by simp[val]⟩,Sub.gn [] r⟩
 ·rintro⟨k,rest,out,w1⟩ ⟨hi,hw,QH,Oj,hr,hv⟩;dsimp only at hi hw QH Oj hr hv ⊢;refine dK.mk ?_ ?_<;>intro h
  ·have h:(k:Int)-1≥0:=aI h;obtain⟨k,rfl⟩:∃q,k=q+1:=⟨k-1,by omega⟩
   rw[show ((k+1:Nat):Int)-1=(k:Int) by omega];obtain⟨a,PL⟩:∃q,x.ls[k]? =some q:=⟨_,aB (by omega)⟩
   obtain⟨ad,OY,Oo⟩:=x.load hS hw PL;have Ps:=x.lm.at PL;obtain⟨d,hd⟩:∃q,out[k]? =some q:=⟨_,aB (by omega)⟩
   refine⟨by decide,((rest*2^32:Nat):Int),D4 (k:=32) (by decide) (by omega),ad,OY,by omega,.int .u32 a,Oo _ _ _,(a:Int),eX (by omega),?_⟩;have Tl:rest*2^32 ||| a=rest*4294967296+a:=by
    rw[Nat.or_comm,bV,D5 (k:=32) Ps];omega
   refine⟨((rest*4294967296+a:Nat):Int),by rw[Kz (by omega) (by omega),Tl],?_⟩;generalize ht:rest*4294967296+a=t;have ht64:t<18446744073709551616:=by omega
   refine cM hτ df [.x 0,.x 1,.x 2,.x 3,.x 4,.x 5,.x 6,.x 7,.x 8,.x 9,.x 10,.x 11,.x 12,.x 13] (by kernel_rfl) (by kernel_rfl) ?_;refine⟨(b:Int),eX (by omega),by omega,((t / b:Nat):Int),LB ht64,?_⟩;have hq:t / b<4294967296:=by
    rw[Nat.div_lt_iff_lt_mul hb];have:=Nat.mul_le_mul_right 4294967296 hr;rw[Nat.succ_eq_add_one,Nat.add_mul]at this;omega
   have hm:t % b<b:=bu _ hb;have Oi:=H4 PL hd ht.symm hv;have hw32:IntKind.u32.wrap ((t / b:Nat):Int)=((t / b:Nat):Int):=by rw[fK,bN hq]
   have hrem:=Lx t b;generalize t / b=q at*
   generalize t % b=m at*
   refine⟨(q:Int),hw32,(b:Int),eX (by omega),by omega,(m:Int),hrem,by omega,by rw[gO];omega,U (out.set k q),jA out k _ (by omega) (by simp),(k:Int)-1,wo,?_⟩;intro ρ3 w3 r3
   exact⟨(k,m,out.set k q,w3),⟨by dsimp only;omega,hw.tr r3.cQ,by simp[QH],Oj.set hq,hm,Oi⟩,
    Sub.gn [] r3,by dsimp only;omega⟩
  ·have RA:k=0:=by
    have:¬(k:Int)-1≥0:=aH h;omega
   subst RA;rw[List.drop_zero,List.drop_zero]at hv;have hdm:val x.ls / b=val out∧val x.ls % b=rest:=by
    rw[hv];exact⟨by rw[Nat.mul_add_div hb,Nat.div_eq_of_lt hr,bw],by rw[Nat.mul_add_mod,bN hr]⟩
   rw[hdm.1,hdm.2];refine gf (Φ:=fun O _ v w2=>dQ w2 (fun g=>g=(O 0).g) v (dy out)) (H':=[]) 0 rfl (by simp) trivial rfl (fun O w' r=>r.nn 0 _ rfl (by intros;simp) (by simp)) (fun O w' r=>?_) ?_
   ·have hL:=r.nY (id:=0) rfl Oj (by omega);rw[QH]at hL;exact fT (fun g hg=>by rw[hg];exact(r.low 0 _ rfl (r.nn 0 _ rfl (by intros;simp) (by simp))).2) hL
   rintro O w' v w2 r he hb hL;replace hw:=hw.tr hb;have PB:=r.low 0 _ rfl (r.nn 0 _ rfl (by intros;simp) (by simp));generalize (O 0).g=g at*
   have hs:=he.size;refine⟨(rest:Int),by rw[fK,bN (by omega)],?_⟩;intro ρ3 w3 r3;refine⟨_,rfl,hw.tr r3.cQ,v,rfl,dy out,?_,(eu out).2.1,(eu out).1⟩;refine(hL.cJ fun k hk=>?_).cK fun k hk=>.inr ?_
   ·rw[hk];exact r3.qP.block g (by omega) (by simp)
   ·rw[hk];have:=r3.size;omega
end Go.Ex
