/- Texts L1 to X9: lemmas, each with its conditions. -/
import Derived.KernelRfl
import Derived.Test.YtgkpbdkechfgmaaGreatProg
import Derived.Test.YtgkpbdkechfgmaaGreatP2
namespace Go.Ex
variable{a b ls:List Nat}{k:Nat}
def val:List Nat->Nat
 |[]=>0
 |x::r=>x+4294967296*val r
def Lm(ls:List Nat):Prop:=∀x∈ls,x<4294967296
def wt(k:Nat):Nat:=4294967296^k
theorem jc:wt 0=1:=rfl
theorem jU(k:Nat):wt (k+1)=4294967296*wt k:=by rw[wt,Nat.pow_succ,bT];rfl
theorem D7(a b:Nat):wt (a+b)=wt a*wt b:=by rw[wt,Nat.pow_add];rfl
theorem zR(k:Nat):0<wt k:=Nat.pow_pos (by decide)
theorem lT(a b:List Nat):val (a++b)=val a+wt a.length*val b:=by
 induction a with
 |nil=>simp[val,jc]
 |cons x r ih=>
  rw[List.cons_append,val,val,ih,List.length_cons,jU,bV,bg];omega
theorem oU(h:Lm ls):val ls<wt ls.length:=by
 induction ls with
 |nil=>exact Nat.one_pos
 |cons x r ih=>
  have L:=h x (by simp);have G:=ih (fun y hy=>h y (by simp[hy]));rw[val,List.length_cons,jU];have:4294967296*(val r+1)<=4294967296*wt r.length:=bY _ G;omega
theorem fD(ls:List Nat)(k:Nat)(h:k<=ls.length):val ls=val (ls.take k)+wt k*val (ls.drop k):=by
 have:=lT (ls.take k) (ls.drop k);rw[List.take_append_drop,aX,Nat.min_eq_left h]at this;exact this
theorem dh{x:Nat}(h:ls[k]? =some x):val (ls.take (k+1))=val (ls.take k)+wt k*x:=by
 have D:=(aD.1 h).1;rw[List.take_add_one,h,lT,aX,Nat.min_eq_left (by omega)];simp[val]
theorem j4{x:Nat}(h:ls[k]? =some x):val (ls.drop k)=x+4294967296*val (ls.drop (k+1)):=by
 obtain⟨D,F⟩:=aD.1 h;rw[List.drop_eq_getElem_cons D,F,val]
theorem yh{o x:Nat}(h:ls[k]? =some o):val (ls.set k x)+wt k*o=val ls+wt k*x:=by
 obtain⟨D,ho⟩:=aD.1 h;have L:=fD ls k (by omega);have G:=fD (ls.set k x) k (by simp;omega);rw[List.take_set_of_le (Nat.le_refl _)]at G;rw[j4 h,bV]at L;have N:(ls.set k x)[k]? =some x:=by rw[aP D]
 rw[j4 N,List.drop_set_of_lt (by omega),bV]at G;omega
theorem nG(n:Nat):val (List.replicate n 0)=0:=by
 induction n with
 |zero=>rfl
 |succ n ih=>rw[List.replicate_succ,val,ih]
theorem Lm.set{x:Nat}(h:Lm ls)(F:x<4294967296):Lm (ls.set k x):=fun y hy=>by
 rcases bC hy with L|rfl
 ·exact h y L
 ·exact F
theorem Lm.replicate(n:Nat):Lm (List.replicate n 0):=fun x F=>by rw[List.mem_replicate]at F;omega
theorem Lm.take(h:Lm ls)(k:Nat):Lm (ls.take k):=fun x F=>h x (List.mem_of_mem_take F)
theorem Lm.drop(h:Lm ls)(k:Nat):Lm (ls.drop k):=fun x F=>h x (List.mem_of_mem_drop F)
theorem Lm.append(ha:Lm a)(hb:Lm b):Lm (a++b):=fun x F=>by
 rcases bB.1 F with h|h
 ·exact ha x h
 ·exact hb x h
theorem Lm.at(h:Lm ls){x:Nat}(F:ls[k]? =some x):x<4294967296:=h x (aC F)
def eC:List Nat->List Nat
 |[]=>[]
 |x::r=>match eC r with
  |[]=>if x=0 then []else [x]
  |y::t=>x::y::t
def Nz(ls:List Nat):Prop:=∀x,ls.getLast? =some x->x≠0
theorem kk(ls:List Nat):eC (ls++[0])=eC ls:=by
 induction ls with
 |nil=>rfl
 |cons x r ih=>rw[List.cons_append,eC,ih,eC]
theorem oV(ls:List Nat){x:Nat}(F:x≠0):eC (ls++[x])=ls++[x]:=by
 induction ls with
 |nil=>simp[eC,F]
 |cons y r ih=>
  rw[List.cons_append,eC,ih]
  cases r<;>rfl
theorem s7(ls:List Nat):ls=[]\/∃a x,ls=a++[x]:=by
 rcases List.eq_nil_or_concat ls with h|⟨a,x,h⟩
 ·exact .inl h
 ·exact .inr ⟨a,x,by simpa using h⟩
theorem fK(ls:List Nat):val (eC ls)=val ls/\Nz (eC ls)/\∃k,k<=ls.length/\eC ls=ls.take k:=by
 have key:∀(n:Nat) (ls:List Nat),ls.length=n->val (eC ls)=val ls/\Nz (eC ls)/\∃k,k<=ls.length/\eC ls=ls.take k:=by
  intro n
  induction n with
  |zero=>intro ls h;have:ls=[]:=List.eq_nil_of_length_eq_zero h;subst this;exact⟨rfl,by simp[Nz,eC],0,Nat.le_refl _,rfl⟩
  |succ n ih=>
   intro ls h;rcases s7 ls with rfl|⟨a,x,rfl⟩
   ·simp at h
   ·by_cases F:x=0
    ·subst F;rw[kk];obtain⟨L,G,k,N,h4⟩:=ih a (by simp at h;omega);refine⟨by rw[L,lT];simp[val],G,k,by simp;omega,?_⟩;rw[h4,List.take_append_of_le_length N]
    ·rw[oV a F];refine⟨rfl,?_,_,Nat.le_refl _,by rw[bA]⟩;intro y hy;simp at hy;subst hy;exact F
 exact key _ ls rfl
theorem FP(h:Nz ls):eC ls=ls:=by
 rcases s7 ls with rfl|⟨a,x,rfl⟩
 ·rfl
 ·exact oV a (h x (by simp))
theorem sE(h:Nz ls)(Oe:ls≠[]):wt (ls.length-1)<=val ls:=by
 rcases s7 ls with rfl|⟨a,x,rfl⟩
 ·exact absurd rfl Oe
 ·have F:=h x (by simp);rw[lT];simp only[val,List.length_append,List.length_singleton,Nat.add_sub_cancel]
  have:wt a.length*1<=wt a.length*(x+4294967296*0):=bY _ (by omega);omega
theorem val_inj:∀{a b:List Nat},Lm a->Lm b->a.length=b.length->val a=val b->a=b
 |[],[],_,_,_,_=>rfl
 |x::r,y::s,ha,hb,hl,h=>by
  have L:=ha x (by simp);have G:=hb y (by simp);rw[val,val]at h;have N:x=y:=by omega
  have h4:val r=val s:=by omega
  rw[N,val_inj (fun z hz=>ha z (by simp[hz])) (fun z hz=>hb z (by simp[hz])) (by simpa using hl) h4]
 |[],_::_,_,_,h,_=>by simp at h
 |_::_,[],_,_,h,_=>by simp at h
theorem CP{a b:Nat}(h:a<=b):wt a<=wt b:=Nat.pow_le_pow_right (by decide) h
theorem IP{a b:Nat}(h:a<b):wt a<wt b:=Nat.pow_lt_pow_right (by decide) h
theorem jV(ha:Lm a)(hb:Nz b)(h:a.length<b.length):val a<val b:=by
 have L:=oU ha;have G:=sE hb (by intro e;rw[e]at h;simp at h);have:=CP (show a.length<=b.length-1 by omega);omega
def ln(n:Nat):Nat:=if n=0 then 0 else n.log2 / 32+1
theorem vY(k:Nat):wt k=2^(32*k):=by rw[wt,show(4294967296:Nat)=2^32 from rfl,<-Nat.pow_mul]
theorem gU{n k:Nat}:ln n<=k↔n<wt k:=by
 unfold ln;by_cases h:n=0
 ·rw[if_pos h,h];exact⟨fun _=>zR k,fun _=>aQ _⟩
 ·rw[aH h,vY];constructor
  ·intro L;have:n.log2<32*k:=by omega
   exact(Nat.log2_lt h).1 this
  ·intro L;have:=(Nat.log2_lt h).2 L;omega
theorem lV(n:Nat):n<wt (ln n):=gU.1 (Nat.le_refl _)
theorem fY{a b:Nat}(h:a<=b):ln a<=ln b:=gU.2 (Nat.lt_of_le_of_lt h (lV b))
theorem aAR(a b:Nat):ln (a+b)<=max (ln a) (ln b)+1:=by
 rw[gU,jU];have L:=Nat.lt_of_lt_of_le (lV a) (CP (Nat.le_max_left (ln a) (ln b)));have G:=Nat.lt_of_lt_of_le (lV b) (CP (Nat.le_max_right (ln a) (ln b)));omega
theorem aAS(a b:Nat):ln (a*b)<=ln a+ln b:=by
 rw[gU,D7];exact Nat.mul_lt_mul'' (lV a) (lV b)
theorem NT:ln 0=0:=rfl
theorem eW(h:Lm ls)(hz:Nz ls):ls.length=ln (val ls):=by
 by_cases Oe:ls=[]
 ·subst Oe;rfl
 ·have L:=oU h;have G:=sE hz Oe;have N:=gU.2 L;have h4:¬ln (val ls)<=ls.length-1:=fun hh=>by have:=gU.1 hh;omega
  omega
end Go.Ex
namespace Go.Ex
open Go Go.Sx
variable{f:(Nat->Sx.dq)->Value}{ls:List Nat}{g n:Nat}{p:Nat×Nat}{v:Value}{P:Value->World->Prop}{w1:World}
def Cv(S:Nat->Prop)(B:Nat)(iv:Iv)(g:Nat):Prop:=S g\/(B<=g/\∃lo A,(lo,A)∈iv/\lo<=g/\g<A)
def Nw(S:Nat->Prop)(w V:World)(g:Nat):Prop:=S g\/(w.heap.size<=g/\g<V.heap.size)
def Old(S:Nat->Prop)(w:World):Prop:=∀g,S g->g<w.heap.size
section
variable{S S':Nat->Prop}{H:Hp}{nx:Nat}{iv K:Iv}{B:Nat}{w J V:World}{O:Nat->dq}
theorem Cv.mono(h:Cv S B iv g)(k:∀p,p∈iv->p∈K):Cv S B K g:=by
 rcases h with h|⟨h0,lo,A,L,G⟩
 ·exact .inl h
 ·exact .inr ⟨h0,lo,A,k _ L,G⟩
theorem Cv.cons(h:Cv S B iv g):Cv S B (p::iv) g:=h.mono fun q hq=>by simp[hq]
theorem Rel.old(r:Rel H nx iv B w O J)(X:∀g,S g->g<B):Old (Cv S B iv) J:=by
 intro g h;rcases h with h|⟨_,lo,A,L,_,N⟩
 ·have:=X g h;have:=r.base;have:=r.size;omega
 ·have:=r.oJ lo A L;have:=r.size;omega
theorem Rel.same(r:Rel H nx iv B w O J)(X:∀g,S g->g<B)(h:Cv S B iv g):J.heap[g]? =w.heap[g]? :=by
 rcases h with h|⟨_,lo,A,L,G,N⟩
 ·have:=X g h;exact r.vP g (by have:=r.base;omega) fun id b hb R U=>by have:=(r.low id b hb R).1;omega
 ·exact r.vP g (by have:=r.oJ lo A L;omega) fun id b hb R U=>r.je lo A L id b hb R ⟨by omega,by omega⟩
theorem Rel.not(r:Rel H nx iv B w O J)(X:∀g,S g->g<B)(h:Cv S B iv g):∀id b,dG H id=some b->(O id).nil=false->(O id).g≠g:=by
 rcases h with h|⟨_,lo,A,L,G,N⟩
 ·have:=X g h;exact fun id b hb R U=>by have:=(r.low id b hb R).1;omega
 ·exact fun id b hb R U=>r.je lo A L id b hb R ⟨by omega,by omega⟩
theorem Nw.cv(h:Nw (Cv S B iv) J w1 g)(hB:B<=J.heap.size):Cv S B ((J.heap.size,w1.heap.size)::iv) g:=by
 rcases h with h|h
 ·exact h.cons
 ·exact .inr ⟨by omega,_,_,aF,h.1,h.2⟩
theorem Cv.nw{w0:World}(h:Cv S w0.heap.size iv g)(r:Rel H nx iv w0.heap.size w O J):Nw S w0 J g:=by
 rcases h with h|⟨h0,lo,A,L,_,N⟩
 ·exact .inl h
 ·exact .inr ⟨h0,by have:=r.oJ lo A L;have:=r.size;omega⟩
structure dT(w:World)(S:Nat->Prop)(v:Value)(ls:List Nat):Prop where
 lm:Lm ls
 le:ls.length<=9223372036854775807
 sl:∃a c,v= .slice a ls.length c/\ls.length<=c/\∀(j:Nat) x,ls[j]? =some x->∃ad,a=some ad/\S ad.block/\w.cell? (ad.add j)=some (.int .u32 x)
theorem dF(ad:Addr)(j:Nat):(ad.add j).block=ad.block:=by
 unfold Addr.add;split<;>rfl
theorem dT.cK(h:dT w S v ls)(D:∀g,S g->V.heap[g]? =w.heap[g]?):dT V S v ls:=by
 obtain⟨a,c,L,Tt,G⟩:=h.sl;refine⟨h.lm,h.le,a,c,L,Tt,fun j x F=>?_⟩;obtain⟨ad,N,h4,h5⟩:=G j x F;exact⟨ad,N,h4,by rw[cL (D _ (by rw[dF];exact h4))];exact h5⟩
theorem dT.cN(h:dT w S v ls)(D:∀g,S g->S' g):dT w S' v ls:=by
 obtain⟨a,c,L,Tt,G⟩:=h.sl;refine⟨h.lm,h.le,a,c,L,Tt,fun j x F=>?_⟩;obtain⟨ad,N,h4,h5⟩:=G j x F;exact⟨ad,N,D _ h4,h5⟩
theorem dT.rel(h:dT w (Cv S B iv) v ls)(r:Rel H nx iv B w O J)(X:∀g,S g->g<B):dT J (Cv S B iv) v ls:=h.cK fun _g Y=>Rel.same r X Y
theorem dT.nil(w:World)(S:Nat->Prop):dT w S (.slice none 0 0) []:=⟨by simp[Lm],by simp,none,0,rfl,Nat.le_refl _,by simp⟩
def eE(w:World)(S:Nat->Prop)(v:Value)(n:Nat):Prop:=∃ls,dT w S v ls/\Nz ls/\val ls=n
theorem eE.cK(h:eE w S v n)(D:∀g,S g->V.heap[g]? =w.heap[g]?):eE V S v n:=by
 obtain⟨ls,L,G,N⟩:=h;exact⟨ls,L.cK D,G,N⟩
theorem eE.cN(h:eE w S v n)(D:∀g,S g->S' g):eE w S' v n:=by
 obtain⟨ls,L,G,N⟩:=h;exact⟨ls,L.cN D,G,N⟩
theorem eE.nil(w:World)(S:Nat->Prop):eE w S (.slice none 0 0) 0:=⟨[],dT.nil w S,by simp[Nz],rfl⟩
end
abbrev iZ(z:Int):SV:=.o (.v (.int .i64 z))
abbrev iN(n:Nat):SV:=.o (.v (.int .i64 (n:Int)))
abbrev sV(a:Option Addr)(n c:Nat):SV:=.o (.v (.slice a n c))
abbrev pP(i j:Nat):SV:=.o (.p i j)
theorem rtn{H:Hp}{nx:Nat}{iv:Iv}{w:World}(I:dw w.heap.size w w1)(h:∀O J,Rel H nx iv w.heap.size w1 O J->P (f O) J):∀O J,Rel H nx iv w.heap.size w1 O J->eO w P (.returned (f O)) J:=fun O J r=>⟨_,rfl,I.tr r.cU,h O J r⟩
abbrev FF:Nat->Prop:=fun _=>False
theorem bR(w:World):dw w.heap.size w w:=dw.refl
abbrev Nf(w V:World):Nat->Prop:=Nw (fun _=>False) w V
abbrev Cf(w:World):Iv->Nat->Prop:=Cv (fun _=>False) w.heap.size
section
variable{S:Nat->Prop}{H:Hp}{nx:Nat}{iv:Iv}{B i n:Nat}{w w1 J:World}{O:Nat->Sx.dq}{ad:Addr}{W:List Value}{x:Value}
theorem kS(I:dw B w w1)(r:Rel H nx iv B w1 O J)(X:∀g,S g->g<B):∀g,S g->J.heap[g]? =w.heap[g]? :=fun g Y=>(I.tr r.cU).block g (X g Y)
theorem oS(X:∀g,S g->g<B)(r:Rel H nx iv B w O J):∀g,S g->g<J.heap.size:=fun g Y=>by have:=X g Y;have:=r.base;have:=r.size;omega
theorem rdO(hl:∀(j:Nat) u,W[j]? =some u->S ad.block/\w.cell? ((ad.add (i*n)).add j)=some u)(I:dw B w w1)(X:∀g,S g->g<B):∀O J,Rel H nx iv B w1 O J->∀(j:Nat) u,W[j]? =some u->J.cell? ((ad.add ((i:Int).toNat*n)).add j)=some u:=fun O J r j u hu=>by
 obtain⟨k1,k2⟩:=hl j u hu;rw[aE,cL (w:=w) (V:=J) (by rw[dF,dF];exact(I.tr r.cU).block _ (X _ k1))];exact k2
theorem rd1(hl:w.cell? (ad.add (i*n))=some x)(I:dw B w w1)(hb:ad.block<B):∀O J,Rel H nx iv B w1 O J->J.cell? (ad.add ((i:Int).toNat*n))=some x:=fun O J r=>by
 rw[aE,cL (w:=w) (V:=J) (by rw[dF];exact(I.tr r.cU).block _ hb)];exact hl
end
end Go.Ex
namespace Go.Ex
open Go Go.Sx Go.Proofs
variable{args:Array Value}{EQ:Ending->World->Prop}{ls:List Nat}{k n:Nat}{S:Nat->Prop}{O:Nat->Sx.dq}{v:Value}{w:World}
noncomputable abbrev PG:Program:=Tryz.prog
def slT(e:Nat):TI:={size:=1,bytes:=24,zero:=[.slice none 0 0],agg:=false,tag:=4,elem:=e}
def aBE:List (Nat×TI):=[
 (3,{size:=1,bytes:=8,zero:=[.int .i64 0],agg:=false,tag:=1,ik:=.i64}),
 (4,{size:=1,bytes:=1,zero:=[.bool false],agg:=false,tag:=2}),
 (40,slT 48),
 (48,{size:=4,bytes:=64,zero:=[.bool false,.slice none 0 0,.bool false,.slice none 0 0],agg:=true,tag:=5,fields:=[(0,46),(2,46)]}),
 (37,slT 3),
 (32,{size:=1,bytes:=8,zero:=[.int .i64 0],agg:=false,tag:=1,ik:=.i64}),
 (26,{size:=3,bytes:=72,zero:=[.slice none 0 0,.slice none 0 0,.slice none 0 0],agg:=true,tag:=5,fields:=[(0,22),(1,23),(2,24)]}),
 (87,slT 40),
 (46,{size:=2,bytes:=32,zero:=[.bool false,.slice none 0 0],agg:=true,tag:=5,fields:=[(0,4),(1,44)]}),
 (155,slT 292),
 (30,slT 141),
 (209,slT 159),
 (292,{size:=1,bytes:=4,zero:=[.int .u32 0],agg:=false,tag:=1,ik:=.u32}),
 (159,{size:=4,bytes:=64,zero:=[.bool false,.slice none 0 0,.bool false,.slice none 0 0],agg:=true,tag:=5,fields:=[(0,157),(2,157)]}),
 (157,{size:=2,bytes:=32,zero:=[.bool false,.slice none 0 0],agg:=true,tag:=5,fields:=[(0,4),(1,155)]}),
 (206,slT 209),
 (291,{size:=1,bytes:=8,zero:=[.int .u64 0],agg:=false,tag:=1,ik:=.u64}),
 (24,slT 146),
 (168,{size:=2,bytes:=32,zero:=[.slice none 0 0,.int .i64 0],agg:=true,tag:=5,fields:=[(0,87),(1,3)]}),
 (23,slT 144),
 (141,{size:=4,bytes:=32,zero:=[.int .i64 0,.int .i64 0,.int .i64 0,.int .i64 0],agg:=true,tag:=5,fields:=[(0,3),(1,3),(2,3),(3,3)]}),
 (22,slT 195),
 (100,{size:=3,bytes:=56,zero:=[.int .i64 0,.slice none 0 0,.slice none 0 0],agg:=true,tag:=5,fields:=[(0,3),(1,37),(2,37)]}),
 (44,slT 292),
 (144,{size:=6,bytes:=80,zero:=[.int .i64 0,.int .i64 0,.bool false,.slice none 0 0,.bool false,.slice none 0 0],agg:=true,tag:=5,fields:=[(0,3),(1,3),(2,48)]}),
 (195,{size:=3,bytes:=24,zero:=[.int .i64 0,.int .i64 0,.int .i64 0],agg:=true,tag:=5,fields:=[(0,3),(1,3),(2,3)]}),
 (146,{size:=6,bytes:=80,zero:=[.int .i64 0,.int .i64 0,.bool false,.slice none 0 0,.bool false,.slice none 0 0],agg:=true,tag:=5,fields:=[(0,3),(1,3),(2,48)]}),
 (177,slT 37),
 (101,slT 117),
 (27,slT 30),
 (58,{size:=3,bytes:=56,zero:=[.int .i64 0,.slice none 0 0,.slice none 0 0],agg:=true,tag:=5,fields:=[(0,3),(1,40),(2,40)]}),
 (255,{size:=4,bytes:=80,zero:=[.slice none 0 0,.int .i64 0,.slice none 0 0,.slice none 0 0],agg:=true,tag:=5,fields:=[(0,168),(2,37),(3,37)]}),
 (117,{size:=4,bytes:=32,zero:=[.int .i64 0,.int .i64 0,.int .i64 0,.int .i64 0],agg:=true,tag:=5,fields:=[(0,3),(1,3),(2,3),(3,3)]}),
 (31,slT 52),
 (70,slT 193),
 (120,{size:=2,bytes:=16,zero:=[.int .i64 0,.int .i64 0],agg:=true,tag:=5,fields:=[(0,3),(1,3)]}),
 (102,slT 120),
 (191,{size:=8,bytes:=64,zero:=[.int .i64 0,.int .i64 0,.int .i64 0,.int .i64 0,.int .i64 0,.int .i64 0,.int .i64 0,.int .i64 0],agg:=true,tag:=5,fields:=[(0,184),(4,3),(5,3),(6,3),(7,3)]}),
 (225,{size:=5,bytes:=40,zero:=[.int .i64 0,.int .i64 0,.int .i64 0,.int .i64 0,.int .i64 0],agg:=true,tag:=5,fields:=[(0,3),(1,3),(2,3),(3,3),(4,3)]}),
 (229,slT 228),
 (267,{size:=3,bytes:=24,zero:=[.int .i64 0,.int .i64 0,.int .i64 0],agg:=true,tag:=6,DX:=3,elem:=3}),
 (97,{size:=3,bytes:=24,zero:=[.int .i64 0,.int .i64 0,.int .i64 0],agg:=true,tag:=5,fields:=[(0,3),(1,3),(2,3)]}),
 (228,{size:=2,bytes:=16,zero:=[.int .i64 0,.int .i64 0],agg:=true,tag:=5,fields:=[(0,3),(1,3)]}),
 (36,slT 4),
 (129,{size:=4,bytes:=80,zero:=[.int .i64 0,.slice none 0 0,.slice none 0 0,.slice none 0 0],agg:=true,tag:=5,fields:=[(0,3),(1,40),(2,87),(3,40)]}),
 (220,{size:=3,bytes:=40,zero:=[.int .i64 0,.int .i64 0,.slice none 0 0],agg:=true,tag:=5,fields:=[(0,3),(1,3),(2,37)]}),
 (293,{size:=1,bytes:=8,zero:=[.int .u64 0],agg:=false,tag:=1,ik:=.u64}),
 (68,slT 186),
 (69,slT 191),
 (184,{size:=4,bytes:=32,zero:=[.int .i64 0,.int .i64 0,.int .i64 0,.int .i64 0],agg:=true,tag:=6,DX:=4,elem:=3}),
 (193,{size:=2,bytes:=16,zero:=[.int .i64 0,.int .i64 0],agg:=true,tag:=5,fields:=[(0,3),(1,3)]}),
 (186,{size:=5,bytes:=40,zero:=[.int .i64 0,.int .i64 0,.int .i64 0,.int .i64 0,.int .i64 0],agg:=true,tag:=5,fields:=[(0,184),(4,3)]}),
 (249,{size:=3,bytes:=72,zero:=[.slice none 0 0,.slice none 0 0,.slice none 0 0],agg:=true,tag:=5,fields:=[(0,209),(1,209),(2,206)]}),
 (281,{size:=2,bytes:=16,zero:=[.int .i64 0,.int .i64 0],agg:=true,tag:=5,fields:=[(0,3),(1,3)]}),
 (52,{size:=10,bytes:=176,zero:=[.bool false,.slice none 0 0,.bool false,.slice none 0 0,.bool false,.slice none 0 0,.bool false,.slice none 0 0,.slice none 0 0,.slice none 0 0],agg:=true,tag:=5,fields:=[(0,50),(8,37),(9,37)]}),
 (279,{size:=1,bytes:=8,zero:=[.map none],agg:=false,tag:=0}),
 (72,{size:=4,bytes:=80,zero:=[.slice none 0 0,.int .i64 0,.slice none 0 0,.slice none 0 0],agg:=true,tag:=5,fields:=[(0,68),(1,3),(2,69),(3,70)]}),
 (104,{size:=2,bytes:=48,zero:=[.slice none 0 0,.slice none 0 0],agg:=true,tag:=5,fields:=[(0,37),(1,102)]}),
 (108,{size:=3,bytes:=24,zero:=[.int .i64 0,.int .i64 0,.int .i64 0],agg:=true,tag:=5,fields:=[(0,3),(1,3),(2,3)]}),
 (9,{size:=1,bytes:=16,zero:=[.string ⟨#[]⟩],agg:=false,tag:=3}),
 (50,{size:=8,bytes:=128,zero:=[.bool false,.slice none 0 0,.bool false,.slice none 0 0,.bool false,.slice none 0 0,.bool false,.slice none 0 0],agg:=true,tag:=5,fields:=[(0,48),(4,48)]}),
 (149,{size:=1,bytes:=8,zero:=[.pointer none],agg:=false,tag:=7}),
 (308,{size:=1,bytes:=8,zero:=[.nilFunc],agg:=false,tag:=0}),
 (296,{size:=1,bytes:=8,zero:=[.nilFunc],agg:=false,tag:=0}),
 (152,{size:=80,bytes:=640,zero:=[.int .i64 0,.int .i64 0,.int .i64 0,.int .i64 0,.int .i64 0,.int .i64 0,.int .i64 0,.int .i64 0,.int .i64 0,.int .i64 0,.int .i64 0,.int .i64 0,.int .i64 0,.int .i64 0,.int .i64 0,.int .i64 0,.int .i64 0,.int .i64 0,.int .i64 0,.int .i64 0,.int .i64 0,.int .i64 0,.int .i64 0,.int .i64 0,.int .i64 0,.int .i64 0,.int .i64 0,.int .i64 0,.int .i64 0,.int .i64 0,.int .i64 0,.int .i64 0,.int .i64 0,.int .i64 0,.int .i64 0,.int .i64 0,.int .i64 0,.int .i64 0,.int .i64 0,.int .i64 0,.int .i64 0,.int .i64 0,.int .i64 0,.int .i64 0,.int .i64 0,.int .i64 0,.int .i64 0,.int .i64 0,.int .i64 0,.int .i64 0,.int .i64 0,.int .i64 0,.int .i64 0,.int .i64 0,.int .i64 0,.int .i64 0,.int .i64 0,.int .i64 0,.int .i64 0,.int .i64 0,.int .i64 0,.int .i64 0,.int .i64 0,.int .i64 0,.int .i64 0,.int .i64 0,.int .i64 0,.int .i64 0,.int .i64 0,.int .i64 0,.int .i64 0,.int .i64 0,.int .i64 0,.int .i64 0,.int .i64 0,.int .i64 0,.int .i64 0,.int .i64 0,.int .i64 0,.int .i64 0],agg:=true,tag:=6,DX:=20,elem:=141}),
 (239,{size:=1,bytes:=8,zero:=[.nilFunc],agg:=false,tag:=0}),
 (242,{size:=1,bytes:=8,zero:=[.nilFunc],agg:=false,tag:=0}),
 (153,{size:=1,bytes:=8,zero:=[.pointer none],agg:=false,tag:=7}),
 (174,{size:=1,bytes:=8,zero:=[.nilFunc],agg:=false,tag:=0}),
 (213,{size:=1,bytes:=8,zero:=[.nilFunc],agg:=false,tag:=0}),
 (5,{size:=1,bytes:=1,zero:=[.int .u8 0],agg:=false,tag:=1,ik:=.u8}),
 (310,{size:=1,bytes:=8,zero:=[.nilFunc],agg:=false,tag:=0}),
 (315,{size:=1,bytes:=8,zero:=[.nilFunc],agg:=false,tag:=0}),
 (8,{size:=4,bytes:=24,zero:=[.int .i64 0,.int .i64 0,.bool false,.int .u8 0],agg:=true,tag:=5,fields:=[(0,2),(1,3),(2,4),(3,6)]}),
 (10,{size:=1,bytes:=16,zero:=[.string ⟨#[]⟩],agg:=false,tag:=3}),
 (11,{size:=1,bytes:=16,zero:=[.string ⟨#[]⟩],agg:=false,tag:=3}),
 (14,{size:=2,bytes:=24,zero:=[.string ⟨#[]⟩,.int .u64 0],agg:=true,tag:=5,fields:=[(0,9),(1,12)]}),
 (15,{size:=1,bytes:=8,zero:=[.pointer none],agg:=false,tag:=7}),
 (16,{size:=1,bytes:=8,zero:=[.pointer none],agg:=false,tag:=7}),
 (19,{size:=1,bytes:=8,zero:=[.pointer none],agg:=true,tag:=5,fields:=[(0,17)]}),
 (17,{size:=1,bytes:=8,zero:=[.pointer none],agg:=false,tag:=7}),
 (353,{size:=1,bytes:=1,zero:=[.int .u8 0],agg:=false,tag:=1,ik:=.u8}),
 (2,{size:=1,bytes:=8,zero:=[.int .i64 0],agg:=false,tag:=1,ik:=.i64}),
 (6,{size:=1,bytes:=1,zero:=[.int .u8 0],agg:=false,tag:=1,ik:=.u8}),
 (12,{size:=1,bytes:=8,zero:=[.int .u64 0],agg:=false,tag:=1,ik:=.u64})]
def τ:nR:=yb aBE
theorem hτ:fo PG τ:=aAM (l:=aBE) (by kernel_rfl)
theorem dx:PG.follows .mixedOrders=true:=by rfl
noncomputable def bd (f:Func):Code:=match f.body with
 |some c=>c
 |none=>.skip
theorem dJ{f:FuncId}{fn:Func}(hf:PG.funcs[f]? =some fn)(hb:fn.body=some (bd fn))(Uc:(fn.name== "runtime.NumGoroutine")=false)
  (R:args.size<=fn.ntmps) (Of:codeOk fn.ntmps (bd fn)=true) (h:nD PG τ w.heap.size (bd fn) (fW 0 args.toList) [] 0 [] w (aAQ τ w.heap.size fn.results.toList EQ)):eI PG f args w EQ:=
 ⟨JM hf hb Uc,FO hτ hf hb R Of h⟩
abbrev T.int:Nat:=3
abbrev T.bool:Nat:=4
abbrev T.string:Nat:=9
abbrev T.Frame:Nat:=26
abbrev T.Lint:Nat:=37
abbrev T.iB:Nat:=40
abbrev T.Int:Nat:=46
abbrev T.Rat:Nat:=48
abbrev T.aBW:Nat:=141
abbrev T.Bar:Nat:=144
abbrev T.Dp:Nat:=146
abbrev T.nat:Nat:=155
abbrev T.number:Nat:=157
abbrev T.eB:Nat:=159
abbrev T.dy:Nat:=168
abbrev T.Node:Nat:=195
abbrev T.row:Nat:=209
abbrev T.solved:Nat:=249
abbrev T.dX:Nat:=255
abbrev T.yD:Nat:=279
abbrev T.Dq:Nat:=281
abbrev T.uint32:Nat:=292
abbrev F'.top_TopTwoMethods:Nat:=9
abbrev F'.top_bears:Nat:=11
abbrev F'.top_slight:Nat:=12
abbrev F'.qH:Nat:=14
abbrev F'.qI:Nat:=16
abbrev F'.wG:Nat:=17
abbrev F'.pQ:Nat:=23
abbrev F'.qJ:Nat:=27
abbrev F'.xT:Nat:=30
abbrev F'.AO:Nat:=36
abbrev F'.qK:Nat:=37
abbrev F'.xU:Nat:=49
abbrev F'.xV:Nat:=51
abbrev F'.top_table:Nat:=55
abbrev F'.nf:Nat:=56
abbrev F'.uJ:Nat:=57
abbrev F'.wH:Nat:=58
abbrev F'.AP:Nat:=59
abbrev F'.qL:Nat:=60
abbrev F'.kC:Nat:=61
abbrev F'.nh:Nat:=62
abbrev F'.xW:Nat:=63
abbrev F'.Ck:Nat:=64
abbrev F'.Cl:Nat:=65
abbrev F'.Cm:Nat:=66
abbrev F'.Cn:Nat:=67
abbrev F'.top_bracket:Nat:=68
abbrev F'.AQ:Nat:=69
abbrev F'.sJ:Nat:=71
abbrev F'.qM:Nat:=72
abbrev F'.qN:Nat:=73
abbrev F'.wI:Nat:=74
abbrev F'.qO:Nat:=75
abbrev F'.lk:Nat:=76
abbrev F'.ll:Nat:=77
abbrev F'.xX:Nat:=78
abbrev F'.lr:Nat:=79
abbrev F'.pR:Nat:=85
abbrev F'.j2:Nat:=86
abbrev F'.qP:Nat:=87
abbrev F'.ja:Nat:=88
abbrev F'.gk:Nat:=89
abbrev F'.xY:Nat:=90
abbrev F'.uK:Nat:=91
abbrev F'.xZ:Nat:=92
abbrev F'.nk:Nat:=93
abbrev F'.uL:Nat:=96
abbrev F'.sK:Nat:=104
abbrev F'.uM:Nat:=108
abbrev F'.uN:Nat:=111
abbrev F'.uO:Nat:=112
abbrev F'.Co:Nat:=113
abbrev F'.sn:Nat:=114
abbrev F'.GB:Nat:=115
abbrev F'.AR:Nat:=116
abbrev F'.x8:Nat:=117
abbrev F'.kr:Nat:=118
abbrev F'.uP:Nat:=122
abbrev F'.ku:Nat:=126
abbrev F'.x9:Nat:=139
abbrev F'.qQ:Nat:=151
abbrev F'.ke:Nat:=152
abbrev F'.me:Nat:=153
abbrev F'.xa:Nat:=154
abbrev F'.qR:Nat:=155
abbrev F'.xb:Nat:=156
abbrev F'.AS:Nat:=157
abbrev F'.fq:Nat:=158
abbrev F'.uQ:Nat:=159
abbrev F'.qS:Nat:=160
abbrev F'.xc:Nat:=161
abbrev F'.uR:Nat:=162
abbrev F'.Cp:Nat:=163
abbrev F'.xd:Nat:=164
abbrev F'.xe:Nat:=165
abbrev F'.uS:Nat:=166
abbrev F'.AT:Nat:=167
abbrev F'.nH:Nat:=168
abbrev F'.xf:Nat:=169
abbrev F'.kv:Nat:=170
abbrev F'.mf:Nat:=171
abbrev F'.AU:Nat:=172
abbrev F'.mg:Nat:=173
abbrev F'.lu:Nat:=174
abbrev F'.nm:Nat:=175
abbrev F'.qT:Nat:=178
abbrev F'.sL:Nat:=179
abbrev F'.wJ:Nat:=180
abbrev F'.ns:Nat:=184
abbrev F'.ff:Nat:=187
abbrev F'.xg:Nat:=188
abbrev F'.Cq:Nat:=190
abbrev F'.xh:Nat:=191
abbrev F'.uT:Nat:=192
abbrev F'.om:Nat:=193
abbrev F'.kZ:Nat:=194
abbrev F'.lz:Nat:=195
abbrev F'.uU:Nat:=196
abbrev F'.nt:Nat:=197
abbrev F'.mh:Nat:=198
abbrev F'.mi:Nat:=199
abbrev F'.mA:Nat:=201
abbrev F'.mj:Nat:=202
abbrev F'.sM:Nat:=203
abbrev F'.uV:Nat:=204
abbrev F'.fP:Nat:=206
abbrev F'.sN:Nat:=208
abbrev F'.ml:Nat:=209
abbrev F'.kf:Nat:=210
abbrev F'.xj:Nat:=227
abbrev F'.eQ:Nat:=228
abbrev F'.uW:Nat:=229
abbrev F'.pS:Nat:=230
abbrev F'.uX:Nat:=231
abbrev F'.oo:Nat:=232
abbrev F'.Cr:Nat:=233
abbrev F'.nI:Nat:=234
abbrev F'.wK:Nat:=235
abbrev F'.mm:Nat:=236
abbrev F'.pT:Nat:=237
abbrev F'.gC:Nat:=239
abbrev F'.GC:Nat:=240
abbrev F'.AV:Nat:=241
abbrev F'.uY:Nat:=242
abbrev F'.AW:Nat:=243
abbrev F'.sO:Nat:=244
abbrev F'.uZ:Nat:=245
abbrev F'.u5:Nat:=246
abbrev F'.sP:Nat:=247
abbrev F'.pU:Nat:=248
abbrev F'.kx:Nat:=249
abbrev F'.mn:Nat:=250
abbrev F'.pV:Nat:=251
abbrev F'.qU:Nat:=252
abbrev F'.gK:Nat:=253
abbrev F'.fS:Nat:=258
abbrev F'.iP:Nat:=259
abbrev F'.qV:Nat:=260
abbrev F'.pW:Nat:=261
abbrev F'.AX:Nat:=262
abbrev F'.qW:Nat:=263
abbrev F'.jO:Nat:=265
abbrev F'.AY:Nat:=266
abbrev F'.AZ:Nat:=267
abbrev Ent(g:Nat)(f:Func):Prop:=∀{args:Array Value} {w:World} {EQ:Ending->World->Prop},args.size<=f.ntmps->nD PG τ w.heap.size (bd f) (fW 0 args.toList) [] 0 [] w (aAQ τ w.heap.size f.results.toList EQ)->eI PG g args w EQ
theorem qX:Ent F'.top_TopTwoMethods Tryz.f9:=fun R h=>dJ Tryz.func9 (by rfl) (by rfl) R (by rfl) h
theorem Dr:Ent F'.top_bears Tryz.f11:=fun R h=>dJ Tryz.func11 (by rfl) (by rfl) R (by rfl) h
theorem Ba:Ent F'.top_slight Tryz.f12:=fun R h=>dJ Tryz.func12 (by rfl) (by rfl) R (by rfl) h
theorem u6:Ent F'.qH Tryz.f14:=fun R h=>dJ Tryz.func14 (by rfl) (by rfl) R (by rfl) h
theorem u7:Ent F'.qI Tryz.f16:=fun R h=>dJ Tryz.func16 (by rfl) (by rfl) R (by rfl) h
theorem Ds:Ent F'.wG Tryz.f17:=fun R h=>dJ Tryz.func17 (by rfl) (by rfl) R (by rfl) h
theorem so:Ent F'.pQ Tryz.f23:=fun R h=>dJ Tryz.func23 (by rfl) (by rfl) R (by rfl) h
theorem u9:Ent F'.qJ Tryz.f27:=fun R h=>dJ Tryz.func27 (by rfl) (by rfl) R (by rfl) h
theorem Aa:Ent F'.xT Tryz.f30:=fun R h=>dJ Tryz.func30 (by rfl) (by rfl) R (by rfl) h
theorem Bb:Ent F'.AO Tryz.f36:=fun R h=>dJ Tryz.func36 (by rfl) (by rfl) R (by rfl) h
theorem qY:Ent F'.qK Tryz.f37:=fun R h=>dJ Tryz.func37 (by rfl) (by rfl) R (by rfl) h
theorem Ab:Ent F'.xU Tryz.f49:=fun R h=>dJ Tryz.func49 (by rfl) (by rfl) R (by rfl) h
theorem Ac:Ent F'.xV Tryz.f51:=fun R h=>dJ Tryz.func51 (by rfl) (by rfl) R (by rfl) h
theorem Dt:Ent F'.top_table Tryz.f55:=fun R h=>dJ Tryz.func55 (by rfl) (by rfl) R (by rfl) h
theorem rk:Ent F'.nf Tryz.f56:=fun R h=>dJ Tryz.func56 (by rfl) (by rfl) R (by rfl) h
theorem yE:Ent F'.uJ Tryz.f57:=fun R h=>dJ Tryz.func57 (by rfl) (by rfl) R (by rfl) h
theorem Du:Ent F'.wH Tryz.f58:=fun R h=>dJ Tryz.func58 (by rfl) (by rfl) R (by rfl) h
theorem Bd:Ent F'.AP Tryz.f59:=fun R h=>dJ Tryz.func59 (by rfl) (by rfl) R (by rfl) h
theorem Ad:Ent F'.qL Tryz.f60:=fun R h=>dJ Tryz.func60 (by rfl) (by rfl) R (by rfl) h
theorem yF:Ent F'.kC Tryz.f61:=fun R h=>dJ Tryz.func61 (by rfl) (by rfl) R (by rfl) h
theorem rn:Ent F'.nh Tryz.f62:=fun R h=>dJ Tryz.func62 (by rfl) (by rfl) R (by rfl) h
theorem Ae:Ent F'.xW Tryz.f63:=fun R h=>dJ Tryz.func63 (by rfl) (by rfl) R (by rfl) h
theorem Dv:Ent F'.Ck Tryz.f64:=fun R h=>dJ Tryz.func64 (by rfl) (by rfl) R (by rfl) h
theorem Dw:Ent F'.Cl Tryz.f65:=fun R h=>dJ Tryz.func65 (by rfl) (by rfl) R (by rfl) h
theorem Dx:Ent F'.Cm Tryz.f66:=fun R h=>dJ Tryz.func66 (by rfl) (by rfl) R (by rfl) h
theorem Dy:Ent F'.Cn Tryz.f67:=fun R h=>dJ Tryz.func67 (by rfl) (by rfl) R (by rfl) h
theorem Af:Ent F'.top_bracket Tryz.f68:=fun R h=>dJ Tryz.func68 (by rfl) (by rfl) R (by rfl) h
theorem Be:Ent F'.AQ Tryz.f69:=fun R h=>dJ Tryz.func69 (by rfl) (by rfl) R (by rfl) h
theorem wL:Ent F'.sJ Tryz.f71:=fun R h=>dJ Tryz.func71 (by rfl) (by rfl) R (by rfl) h
theorem ua:Ent F'.qM Tryz.f72:=fun R h=>dJ Tryz.func72 (by rfl) (by rfl) R (by rfl) h
theorem ub:Ent F'.qN Tryz.f73:=fun R h=>dJ Tryz.func73 (by rfl) (by rfl) R (by rfl) h
theorem Dz:Ent F'.wI Tryz.f74:=fun R h=>dJ Tryz.func74 (by rfl) (by rfl) R (by rfl) h
theorem uc:Ent F'.qO Tryz.f75:=fun R h=>dJ Tryz.func75 (by rfl) (by rfl) R (by rfl) h
theorem pX:Ent F'.lk Tryz.f76:=fun R h=>dJ Tryz.func76 (by rfl) (by rfl) R (by rfl) h
theorem pY:Ent F'.ll Tryz.f77:=fun R h=>dJ Tryz.func77 (by rfl) (by rfl) R (by rfl) h
theorem Ag:Ent F'.xX Tryz.f78:=fun R h=>dJ Tryz.func78 (by rfl) (by rfl) R (by rfl) h
theorem pZ:Ent F'.lr Tryz.f79:=fun R h=>dJ Tryz.func79 (by rfl) (by rfl) R (by rfl) h
theorem sq:Ent F'.pR Tryz.f85:=fun R h=>dJ Tryz.func85 (by rfl) (by rfl) R (by rfl) h
theorem oq:Ent F'.j2 Tryz.f86:=fun R h=>dJ Tryz.func86 (by rfl) (by rfl) R (by rfl) h
theorem ud:Ent F'.qP Tryz.f87:=fun R h=>dJ Tryz.func87 (by rfl) (by rfl) R (by rfl) h
theorem lH:Ent F'.ja Tryz.f88:=fun R h=>dJ Tryz.func88 (by rfl) (by rfl) R (by rfl) h
theorem jr:Ent F'.gk Tryz.f89:=fun R h=>dJ Tryz.func89 (by rfl) (by rfl) R (by rfl) h
theorem Ah:Ent F'.xY Tryz.f90:=fun R h=>dJ Tryz.func90 (by rfl) (by rfl) R (by rfl) h
theorem yG:Ent F'.uK Tryz.f91:=fun R h=>dJ Tryz.func91 (by rfl) (by rfl) R (by rfl) h
theorem Ai:Ent F'.xZ Tryz.f92:=fun R h=>dJ Tryz.func92 (by rfl) (by rfl) R (by rfl) h
theorem rp:Ent F'.nk Tryz.f93:=fun R h=>dJ Tryz.func93 (by rfl) (by rfl) R (by rfl) h
theorem yH:Ent F'.uL Tryz.f96:=fun R h=>dJ Tryz.func96 (by rfl) (by rfl) R (by rfl) h
theorem wM:Ent F'.sK Tryz.f104:=fun R h=>dJ Tryz.func104 (by rfl) (by rfl) R (by rfl) h
theorem yI:Ent F'.uM Tryz.f108:=fun R h=>dJ Tryz.func108 (by rfl) (by rfl) R (by rfl) h
theorem yJ:Ent F'.uN Tryz.f111:=fun R h=>dJ Tryz.func111 (by rfl) (by rfl) R (by rfl) h
theorem yK:Ent F'.uO Tryz.f112:=fun R h=>dJ Tryz.func112 (by rfl) (by rfl) R (by rfl) h
theorem EA:Ent F'.Co Tryz.f113:=fun R h=>dJ Tryz.func113 (by rfl) (by rfl) R (by rfl) h
theorem sQ:Ent F'.sn Tryz.f114:=fun R h=>dJ Tryz.func114 (by rfl) (by rfl) R (by rfl) h
theorem GD:Ent F'.GB Tryz.f115:=fun R h=>dJ Tryz.func115 (by rfl) (by rfl) R (by rfl) h
theorem Bf:Ent F'.AR Tryz.f116:=fun R h=>dJ Tryz.func116 (by rfl) (by rfl) R (by rfl) h
theorem Aj:Ent F'.x8 Tryz.f117:=fun R h=>dJ Tryz.func117 (by rfl) (by rfl) R (by rfl) h
theorem ot:Ent F'.kr Tryz.f118:=fun R h=>dJ Tryz.func118 (by rfl) (by rfl) R (by rfl) h
theorem yL:Ent F'.uP Tryz.f122:=fun R h=>dJ Tryz.func122 (by rfl) (by rfl) R (by rfl) h
theorem ou:Ent F'.ku Tryz.f126:=fun R h=>dJ Tryz.func126 (by rfl) (by rfl) R (by rfl) h
theorem Ak:Ent F'.x9 Tryz.f139:=fun R h=>dJ Tryz.func139 (by rfl) (by rfl) R (by rfl) h
theorem ue:Ent F'.qQ Tryz.f151:=fun R h=>dJ Tryz.func151 (by rfl) (by rfl) R (by rfl) h
theorem nu:Ent F'.ke Tryz.f152:=fun R h=>dJ Tryz.func152 (by rfl) (by rfl) R (by rfl) h
theorem qZ:Ent F'.me Tryz.f153:=fun R h=>dJ Tryz.func153 (by rfl) (by rfl) R (by rfl) h
theorem Al:Ent F'.xa Tryz.f154:=fun R h=>dJ Tryz.func154 (by rfl) (by rfl) R (by rfl) h
theorem uf:Ent F'.qR Tryz.f155:=fun R h=>dJ Tryz.func155 (by rfl) (by rfl) R (by rfl) h
theorem Am:Ent F'.xb Tryz.f156:=fun R h=>dJ Tryz.func156 (by rfl) (by rfl) R (by rfl) h
theorem Bg:Ent F'.AS Tryz.f157:=fun R h=>dJ Tryz.func157 (by rfl) (by rfl) R (by rfl) h
theorem js:Ent F'.fq Tryz.f158:=fun R h=>dJ Tryz.func158 (by rfl) (by rfl) R (by rfl) h
theorem yM:Ent F'.uQ Tryz.f159:=fun R h=>dJ Tryz.func159 (by rfl) (by rfl) R (by rfl) h
theorem ug:Ent F'.qS Tryz.f160:=fun R h=>dJ Tryz.func160 (by rfl) (by rfl) R (by rfl) h
theorem An:Ent F'.xc Tryz.f161:=fun R h=>dJ Tryz.func161 (by rfl) (by rfl) R (by rfl) h
theorem yN:Ent F'.uR Tryz.f162:=fun R h=>dJ Tryz.func162 (by rfl) (by rfl) R (by rfl) h
theorem EB:Ent F'.Cp Tryz.f163:=fun R h=>dJ Tryz.func163 (by rfl) (by rfl) R (by rfl) h
theorem Ao:Ent F'.xd Tryz.f164:=fun R h=>dJ Tryz.func164 (by rfl) (by rfl) R (by rfl) h
theorem Ap:Ent F'.xe Tryz.f165:=fun R h=>dJ Tryz.func165 (by rfl) (by rfl) R (by rfl) h
theorem yO:Ent F'.uS Tryz.f166:=fun R h=>dJ Tryz.func166 (by rfl) (by rfl) R (by rfl) h
theorem Bh:Ent F'.AT Tryz.f167:=fun R h=>dJ Tryz.func167 (by rfl) (by rfl) R (by rfl) h
theorem wN:Ent F'.nH Tryz.f168:=fun R h=>dJ Tryz.func168 (by rfl) (by rfl) R (by rfl) h
theorem Aq:Ent F'.xf Tryz.f169:=fun R h=>dJ Tryz.func169 (by rfl) (by rfl) R (by rfl) h
theorem ov:Ent F'.kv Tryz.f170:=fun R h=>dJ Tryz.func170 (by rfl) (by rfl) R (by rfl) h
theorem q8:Ent F'.mf Tryz.f171:=fun R h=>dJ Tryz.func171 (by rfl) (by rfl) R (by rfl) h
theorem GF:Ent F'.AU Tryz.f172:=fun R h=>dJ Tryz.func172 (by rfl) (by rfl) R (by rfl) h
theorem q9:Ent F'.mg Tryz.f173:=fun R h=>dJ Tryz.func173 (by rfl) (by rfl) R (by rfl) h
theorem p8:Ent F'.lu Tryz.f174:=fun R h=>dJ Tryz.func174 (by rfl) (by rfl) R (by rfl) h
theorem ry:Ent F'.nm Tryz.f175:=fun R h=>dJ Tryz.func175 (by rfl) (by rfl) R (by rfl) h
theorem uh:Ent F'.qT Tryz.f178:=fun R h=>dJ Tryz.func178 (by rfl) (by rfl) R (by rfl) h
theorem wO:Ent F'.sL Tryz.f179:=fun R h=>dJ Tryz.func179 (by rfl) (by rfl) R (by rfl) h
theorem EC:Ent F'.wJ Tryz.f180:=fun R h=>dJ Tryz.func180 (by rfl) (by rfl) R (by rfl) h
theorem rz:Ent F'.ns Tryz.f184:=fun R h=>dJ Tryz.func184 (by rfl) (by rfl) R (by rfl) h
theorem iY:Ent F'.ff Tryz.f187:=fun R h=>dJ Tryz.func187 (by rfl) (by rfl) R (by rfl) h
theorem Ar:Ent F'.xg Tryz.f188:=fun R h=>dJ Tryz.func188 (by rfl) (by rfl) R (by rfl) h
theorem ED:Ent F'.Cq Tryz.f190:=fun R h=>dJ Tryz.func190 (by rfl) (by rfl) R (by rfl) h
theorem As:Ent F'.xh Tryz.f191:=fun R h=>dJ Tryz.func191 (by rfl) (by rfl) R (by rfl) h
theorem yP:Ent F'.uT Tryz.f192:=fun R h=>dJ Tryz.func192 (by rfl) (by rfl) R (by rfl) h
theorem yQ:Ent F'.om Tryz.f193:=fun R h=>dJ Tryz.func193 (by rfl) (by rfl) R (by rfl) h
theorem wP:Ent F'.kZ Tryz.f194:=fun R h=>dJ Tryz.func194 (by rfl) (by rfl) R (by rfl) h
theorem p9:Ent F'.lz Tryz.f195:=fun R h=>dJ Tryz.func195 (by rfl) (by rfl) R (by rfl) h
theorem yR:Ent F'.uU Tryz.f196:=fun R h=>dJ Tryz.func196 (by rfl) (by rfl) R (by rfl) h
theorem sA:Ent F'.nt Tryz.f197:=fun R h=>dJ Tryz.func197 (by rfl) (by rfl) R (by rfl) h
theorem qc:Ent F'.mh Tryz.f198:=fun R h=>dJ Tryz.func198 (by rfl) (by rfl) R (by rfl) h
theorem qd:Ent F'.mi Tryz.f199:=fun R h=>dJ Tryz.func199 (by rfl) (by rfl) R (by rfl) h
theorem pc:Ent F'.mA Tryz.f201:=fun R h=>dJ Tryz.func201 (by rfl) (by rfl) R (by rfl) h
theorem qe:Ent F'.mj Tryz.f202:=fun R h=>dJ Tryz.func202 (by rfl) (by rfl) R (by rfl) h
theorem wQ:Ent F'.sM Tryz.f203:=fun R h=>dJ Tryz.func203 (by rfl) (by rfl) R (by rfl) h
theorem yS:Ent F'.uV Tryz.f204:=fun R h=>dJ Tryz.func204 (by rfl) (by rfl) R (by rfl) h
theorem iC:Ent F'.fP Tryz.f206:=fun R h=>dJ Tryz.func206 (by rfl) (by rfl) R (by rfl) h
theorem wR:Ent F'.sN Tryz.f208:=fun R h=>dJ Tryz.func208 (by rfl) (by rfl) R (by rfl) h
theorem qf:Ent F'.ml Tryz.f209:=fun R h=>dJ Tryz.func209 (by rfl) (by rfl) R (by rfl) h
theorem oA:Ent F'.kf Tryz.f210:=fun R h=>dJ Tryz.func210 (by rfl) (by rfl) R (by rfl) h
theorem Au:Ent F'.xj Tryz.f227:=fun R h=>dJ Tryz.func227 (by rfl) (by rfl) R (by rfl) h
theorem gl:Ent F'.eQ Tryz.f228:=fun R h=>dJ Tryz.func228 (by rfl) (by rfl) R (by rfl) h
theorem yT:Ent F'.uW Tryz.f229:=fun R h=>dJ Tryz.func229 (by rfl) (by rfl) R (by rfl) h
theorem ss:Ent F'.pS Tryz.f230:=fun R h=>dJ Tryz.func230 (by rfl) (by rfl) R (by rfl) h
theorem yU:Ent F'.uX Tryz.f231:=fun R h=>dJ Tryz.func231 (by rfl) (by rfl) R (by rfl) h
theorem yV:Ent F'.oo Tryz.f232:=fun R h=>dJ Tryz.func232 (by rfl) (by rfl) R (by rfl) h
theorem EF:Ent F'.Cr Tryz.f233:=fun R h=>dJ Tryz.func233 (by rfl) (by rfl) R (by rfl) h
theorem wS:Ent F'.nI Tryz.f234:=fun R h=>dJ Tryz.func234 (by rfl) (by rfl) R (by rfl) h
theorem EG:Ent F'.wK Tryz.f235:=fun R h=>dJ Tryz.func235 (by rfl) (by rfl) R (by rfl) h
theorem qg:Ent F'.mm Tryz.f236:=fun R h=>dJ Tryz.func236 (by rfl) (by rfl) R (by rfl) h
theorem sw:Ent F'.pT Tryz.f237:=fun R h=>dJ Tryz.func237 (by rfl) (by rfl) R (by rfl) h
theorem jE:Ent F'.gC Tryz.f239:=fun R h=>dJ Tryz.func239 (by rfl) (by rfl) R (by rfl) h
theorem GG:Ent F'.GC Tryz.f240:=fun R h=>dJ Tryz.func240 (by rfl) (by rfl) R (by rfl) h
theorem Bi:Ent F'.AV Tryz.f241:=fun R h=>dJ Tryz.func241 (by rfl) (by rfl) R (by rfl) h
theorem yW:Ent F'.uY Tryz.f242:=fun R h=>dJ Tryz.func242 (by rfl) (by rfl) R (by rfl) h
theorem Bj:Ent F'.AW Tryz.f243:=fun R h=>dJ Tryz.func243 (by rfl) (by rfl) R (by rfl) h
theorem wT:Ent F'.sO Tryz.f244:=fun R h=>dJ Tryz.func244 (by rfl) (by rfl) R (by rfl) h
theorem yX:Ent F'.uZ Tryz.f245:=fun R h=>dJ Tryz.func245 (by rfl) (by rfl) R (by rfl) h
theorem yY:Ent F'.u5 Tryz.f246:=fun R h=>dJ Tryz.func246 (by rfl) (by rfl) R (by rfl) h
theorem wU:Ent F'.sP Tryz.f247:=fun R h=>dJ Tryz.func247 (by rfl) (by rfl) R (by rfl) h
theorem tA:Ent F'.pU Tryz.f248:=fun R h=>dJ Tryz.func248 (by rfl) (by rfl) R (by rfl) h
theorem ow:Ent F'.kx Tryz.f249:=fun R h=>dJ Tryz.func249 (by rfl) (by rfl) R (by rfl) h
theorem qh:Ent F'.mn Tryz.f250:=fun R h=>dJ Tryz.func250 (by rfl) (by rfl) R (by rfl) h
theorem tB:Ent F'.pV Tryz.f251:=fun R h=>dJ Tryz.func251 (by rfl) (by rfl) R (by rfl) h
theorem ui:Ent F'.qU Tryz.f252:=fun R h=>dJ Tryz.func252 (by rfl) (by rfl) R (by rfl) h
theorem jP:Ent F'.gK Tryz.f253:=fun R h=>dJ Tryz.func253 (by rfl) (by rfl) R (by rfl) h
theorem iE:Ent F'.fS Tryz.f258:=fun R h=>dJ Tryz.func258 (by rfl) (by rfl) R (by rfl) h
theorem kD:Ent F'.iP Tryz.f259:=fun R h=>dJ Tryz.func259 (by rfl) (by rfl) R (by rfl) h
theorem uj:Ent F'.qV Tryz.f260:=fun R h=>dJ Tryz.func260 (by rfl) (by rfl) R (by rfl) h
theorem tC:Ent F'.pW Tryz.f261:=fun R h=>dJ Tryz.func261 (by rfl) (by rfl) R (by rfl) h
theorem Bk:Ent F'.AX Tryz.f262:=fun R h=>dJ Tryz.func262 (by rfl) (by rfl) R (by rfl) h
theorem uk:Ent F'.qW Tryz.f263:=fun R h=>dJ Tryz.func263 (by rfl) (by rfl) R (by rfl) h
theorem kg:Ent F'.jO Tryz.f265:=fun R h=>dJ Tryz.func265 (by rfl) (by rfl) R (by rfl) h
theorem Bm:Ent F'.AY Tryz.f266:=fun R h=>dJ Tryz.func266 (by rfl) (by rfl) R (by rfl) h
theorem Bn:Ent F'.AZ Tryz.f267:=fun R h=>dJ Tryz.func267 (by rfl) (by rfl) R (by rfl) h
theorem j0{H:Hp}{nx:Nat}{iv:Iv}{w1 J:World}(X:Old S w)(I:dw w.heap.size w w1)(r:Rel H nx iv w.heap.size w1 O J){ad:Addr}{j:Nat}{x:Value}(hs:S ad.block)(h:w.cell? (ad.add j)=some x):J.cell? (ad.add j)=some x:=by
 rw[(I.tr r.cU).cell (by rw[dF];exact X _ hs)];exact h
theorem GH(a:Option Addr)(c:Nat):(if (c:Int)=0 then a else a.map fun x=>x.add (Int.toNat 0*1))=a:=by
 split
 ·rfl
 ·cases a<;>rfl
theorem yZ(h:ls[k]? =some 0):eC (ls.take (k+1))=eC (ls.take k):=by
 rw[List.take_add_one,h];exact kk _
theorem Bo{x:Nat}(h:ls[k]? =some x)(F:x≠0):eC (ls.take (k+1))=ls.take (k+1):=by
 rw[List.take_add_one,h];exact oV _ F
theorem fb(X:Old S w)(h:dT w S v ls):eI PG F'.mh #[v] w (eO w fun v' V=>dT V S v' (eC ls)):=by
 obtain⟨a,c,rfl,Tt,hc⟩:=h.sl;have hle:=h.le;have QG:=h.lm;refine qc (by simp) ?_
 refine⟨Nat×World,fun x=>⟨[(0,sV a x.1 c)],[],0,[],x.2⟩,fun x=>x.1,
  fun x=>x.1<=ls.length/\dw w.heap.size w x.2/\eC ls=eC (ls.take x.1),?_,?_⟩
 ·intro O J r;exact⟨(ls.length,J),⟨Nat.le_refl _,r.cU,by simp⟩,Sub.reset r ⟨rfl,trivial⟩ ⟨trivial,trivial⟩⟩
 ·rintro⟨k,w1⟩ ⟨D,I,hF⟩;dsimp only at D I hF ⊢;have XT:dw w.heap.size w w1->eC ls=ls.take k->∀O V,Rel [] 0 [] w.heap.size w1 O V->dT V S (.slice a k c) (eC ls):=fun I U O V r=>by
   rw[U];refine⟨QG.take k,by simp;omega,a,c,by simp;omega,by simp;omega,fun j x F=>?_⟩;have Sb:j<k:=by
    have:=(aD.1 F).1;simp at this;omega
   rw[bS Sb]at F;obtain⟨ad,L,G,N⟩:=hc j x F;exact⟨ad,L,G,j0 X I r G N⟩
  refine dQ.mk ?_ ?_<;>intro h
  ·have h:0<k:=by simpa using h
   obtain⟨k,rfl⟩:∃q,k=q+1:=⟨k-1,by omega⟩
   obtain⟨x,F⟩:∃x,ls[k]? =some x:=⟨_,aA (by omega)⟩
   obtain⟨ad,ha,hs,SS⟩:=hc k x F;refine⟨(k:Int),wo,ad,ha,by omega,.int .u32 x,fun O J r=>by rw[aE,aV];exact j0 X I r hs SS,?_⟩;refine dQ.mk ?_ ?_<;>intro G
   ·have G:x=0:=by have:=eq_of_beq G;omega
    subst G;refine⟨(k:Int),wo,⟨by omega,by omega,by omega⟩,a,k,c,GH a c,by simp,by simp,?_⟩;intro O V r;exact⟨(k,V),⟨by dsimp only;omega,I.tr r.cU,hF.trans (yZ F)⟩,Sub.reset r ⟨rfl,trivial⟩ ⟨trivial,trivial⟩,by dsimp only;omega⟩
   ·have G:x≠0:=by intro e;subst e;simp at G
    intro O V r;exact⟨_,rfl,I.tr r.cU,XT I (by rw[hF,Bo F G]) O V r⟩
  ·have h:k=0:=by
    have:¬0<k:=by simpa using h
    omega
   subst h;intro O V r;exact⟨_,rfl,I.tr r.cU,XT I (by rw[hF];simp[eC]) O V r⟩
theorem eu(h:n<18446744073709551616):IntKind.u64.wrap (n:Int)=(n:Int):=yd (by omega) (by omega)
theorem fT(n:Nat):IntKind.u32.wrap (n:Int)=((n % 4294967296:Nat):Int):=by
 show((n:Int) % 4294967296)=_;omega
theorem ofInt32(x:Nat):BitVec.ofInt 32 (x:Int)=BitVec.ofNat 32 x:=by
 apply BitVec.eq_of_toNat_eq;simp
theorem qw{y:Nat}(x:Nat)(hy:y<4294967296):x &&& y<4294967296:=Nat.lt_of_le_of_lt Nat.and_le_right hy
theorem qz{x y:Nat}(F:x<4294967296)(hy:y<4294967296):x ^^^ y<4294967296:=Nat.xor_lt_two_pow (n:=32) F hy
theorem Ed{x y:Nat}(F:x<4294967296)(hy:y<4294967296):x ||| y<4294967296:=Nat.or_lt_two_pow (n:=32) F hy
theorem aAF{x y:Nat}(F:x<4294967296)(hy:y<4294967296):IntKind.u32.wrap ((BitVec.ofInt IntKind.u32.bits x &&& BitVec.ofInt IntKind.u32.bits y).toNat:Int)=((x &&& y:Nat):Int):=by
 show IntKind.u32.wrap ((BitVec.ofInt 32 x &&& BitVec.ofInt 32 y).toNat:Int)=_;rw[ofInt32,ofInt32,BitVec.toNat_and,BitVec.toNat_ofNat,BitVec.toNat_ofNat,bN F,bN hy,fT,bN (qw x hy)]
theorem aBI{x y:Nat}(F:x<4294967296)(hy:y<4294967296):IntKind.u32.wrap ((BitVec.ofInt IntKind.u32.bits x ||| BitVec.ofInt IntKind.u32.bits y).toNat:Int)=((x ||| y:Nat):Int):=by
 show IntKind.u32.wrap ((BitVec.ofInt 32 x ||| BitVec.ofInt 32 y).toNat:Int)=_;rw[ofInt32,ofInt32,BitVec.toNat_or,BitVec.toNat_ofNat,BitVec.toNat_ofNat,bN F,bN hy,fT,bN (Ed F hy)]
theorem aAG{x y:Nat}(F:x<4294967296)(hy:y<4294967296):IntKind.u32.wrap ((BitVec.ofInt IntKind.u32.bits x ^^^ BitVec.ofInt IntKind.u32.bits y).toNat:Int)=((x ^^^ y:Nat):Int):=by
 show IntKind.u32.wrap ((BitVec.ofInt 32 x ^^^ BitVec.ofInt 32 y).toNat:Int)=_;rw[ofInt32,ofInt32,BitVec.toNat_xor,BitVec.toNat_ofNat,BitVec.toNat_ofNat,bN F,bN hy,fT,bN (qz F hy)]
theorem aAH{x:Nat}(F:x<4294967296):IntKind.u32.wrap ((BitVec.ofInt IntKind.u32.bits (if IntKind.u32.signed=true then -1 else IntKind.u32.max) ^^^ BitVec.ofInt IntKind.u32.bits x).toNat:Int)=((4294967295 ^^^ x:Nat):Int):=
 aAG (x:=4294967295) (by decide) F
theorem mI{x:Nat}(k:Nat)(D:k<=63):(x:Int).fdiv (2^min (Int.toNat (k:Int)) IntKind.u64.bits)=((x / 2^k:Nat):Int):=by
 have L:min (Int.toNat (k:Int)) IntKind.u64.bits=k:=by show min (Int.toNat (k:Int)) 64=k;omega
 rw[L,Int.fdiv_eq_ediv_of_nonneg _ (by exact Int.le_of_lt (Int.pow_pos (by decide)))];simp
theorem oy{x:Nat}(k:Nat)(D:k<=31):(x:Int).fdiv (2^min (Int.toNat (k:Int)) IntKind.u32.bits)=((x / 2^k:Nat):Int):=by
 have L:min (Int.toNat (k:Int)) IntKind.u32.bits=k:=by show min (Int.toNat (k:Int)) 32=k;omega
 rw[L,Int.fdiv_eq_ediv_of_nonneg _ (by exact Int.le_of_lt (Int.pow_pos (by decide)))];simp
theorem OA{z:Nat}(h:z<4294967296):z.testBit 31=decide (2147483648<=z):=by
 rw[Nat.testBit_eq_decide_div_mod_eq];apply decide_eq_decide.2;show z / 2147483648 % 2=1↔_;omega
theorem borrow{x y c d:Nat}(F:x<4294967296)(hy:y<4294967296)(hc:c<=1)(hd:(x+4294967296-(y+c)) % 4294967296=d):
  (((4294967295 ^^^ x) &&& y) ||| ((4294967295 ^^^ (x ^^^ y)) &&& d)) / 2^31=if x<y+c then 1 else 0:=by
 have Pn:d<4294967296:=by omega
 have hz:=Ed (qw (4294967295 ^^^ x) hy) (qw (4294967295 ^^^ (x ^^^ y)) Pn);have ht:=OA hz;have hm:Nat.testBit 4294967295 31=true:=by decide
 rw[Nat.testBit_or,Nat.testBit_and,Nat.testBit_and,Nat.testBit_xor,Nat.testBit_xor,Nat.testBit_xor,hm,OA F,OA hy,OA Pn]at ht;generalize (((4294967295 ^^^ x) &&& y) ||| ((4294967295 ^^^ (x ^^^ y)) &&& d))=z at hz ht;show z / 2147483648=_;by_cases L:2147483648<=x<;>by_cases G:2147483648<=y<;>by_cases N:2147483648<=d<;>simp[L,G,N]at ht<;>split<;>omega
theorem JA(x y c:Nat)(w:World)(F:x<4294967296)(hy:y<4294967296)(hc:c<4294967296):
  eI PG F'.AY #[.int .u32 x,.int .u32 y,.int .u32 c] w (eO w fun v _=>v= .tuple #[.int .u32 ((x+y+c) % 4294967296:Nat),.int .u32 ((x+y+c) / 4294967296:Nat)]):=by
 refine Bm (by simp) ?_;refine⟨(x:Int),eu (by omega),(y:Int),eu (by omega),((x+y:Nat):Int),by rw[yd]<;>omega,(c:Int),eu (by omega),((x+y+c:Nat):Int),by rw[yd]<;>omega,(((x+y+c) % 4294967296:Nat):Int),fT _,by decide,(((x+y+c) / 4294967296:Nat):Int),?_,?_⟩
 ·exact mI 32 (by decide)
 refine⟨(((x+y+c) / 4294967296:Nat):Int),by rw[fT];omega,?_⟩;intro O w3 r;exact⟨_,rfl,r.cU,rfl⟩
theorem JB(x y c:Nat)(w:World)(F:x<4294967296)(hy:y<4294967296)(hc:c<=1):
  eI PG F'.AZ #[.int .u32 x,.int .u32 y,.int .u32 c] w (eO w fun v _=>v= .tuple #[.int .u32 ((x+4294967296-(y+c)) % 4294967296:Nat),.int .u32 ((if x<y+c then 1 else 0:Nat):Int)]):=by
 refine Bn (by simp) ?_;refine⟨((x+4294967296-y) % 4294967296:Nat),?_,?_⟩
 ·show((x:Int)-y) % 4294967296=_;omega
 refine⟨((x+4294967296-(y+c)) % 4294967296:Nat),?_,?_⟩
 ·show((((x+4294967296-y) % 4294967296:Nat):Int)-c) % 4294967296=_;omega
 have h6:(x+4294967296-(y+c)) % 4294967296<4294967296:=cD _ (by decide);generalize hd:(x+4294967296-(y+c)) % 4294967296=d at h6;refine⟨((4294967295 ^^^ x:Nat):Int),aAH F,(((4294967295 ^^^ x) &&& y:Nat):Int),aAF (qz (by decide) F) hy,((x ^^^ y:Nat):Int),aAG F hy,((4294967295 ^^^ (x ^^^ y):Nat):Int),aAH (qz F hy),(((4294967295 ^^^ (x ^^^ y)) &&& d:Nat):Int),aAF (qz (by decide) (qz F hy)) h6,((((4294967295 ^^^ x) &&& y) ||| ((4294967295 ^^^ (x ^^^ y)) &&& d):Nat):Int),aBI (qw _ hy) (qw _ h6),by decide,((if x<y+c then 1 else 0:Nat):Int),?_,?_⟩
 ·rw[<-borrow F hy hc hd];exact oy 31 (by decide)
 intro O w3 r;exact⟨_,rfl,r.cU,rfl⟩
def tD(n m:Nat):Int:=if n<m then -1 else if m<n then 1 else 0
theorem aAJ{a b:List Nat}{i x y:Nat}(ha:Lm a)(hl:a.length=b.length)(F:a[i]? =some x)(hy:b[i]? =some y)(h:a.drop (i+1)=b.drop (i+1))(Ow:x<y):val a<val b:=by
 have A:=(aD.1 F).1;have L:=fD a i (by omega);have G:=fD b i (by omega);rw[j4 F]at L;rw[j4 hy,<-h]at G;have N:=oU (ha.take i);rw[aX,Nat.min_eq_left (by omega)]at N;generalize val (a.drop (i+1))=q at L G;have h4:wt i*(x+4294967296*q+1)<=wt i*(y+4294967296*q):=bY _ (by omega);rw[bV,aV]at h4;omega
theorem MG{u:Value}{m:Nat}(X:Old S w)(R:eE w S v n)(hm:eE w S u m):eI PG F'.sP #[v,u] w (eO w fun v' _=>v'= .int .i64 (tD n m)):=by
 obtain⟨ls,L,nz1,rfl⟩:=R;obtain⟨ms,G,nz2,rfl⟩:=hm;obtain⟨a,c,rfl,_,ha⟩:=L.sl;obtain⟨b,e,rfl,_,hb⟩:=G.sl;have hle1:=L.le;have Vx:=G.le;have lm1:=L.lm;have lm2:=G.lm;refine wU (by simp) ?_;refine dQ.mk ?_ ?_<;>intro h
 ·have h:ls.length≠ms.length:=by intro e;rw[e]at h;simp at h
  refine dQ.mk ?_ ?_<;>intro N
  ·have N:ls.length<ms.length:=by simpa using N
   intro O V r;exact⟨_,rfl,r.cU,by rw[tD,if_pos (jV lm1 nz2 N)];rfl⟩
  ·have N:ms.length<ls.length:=by
    have:¬ls.length<ms.length:=by simpa using N
    omega
   have h4:=jV lm2 nz1 N;intro O V r;exact⟨_,rfl,r.cU,by rw[tD,aH (by omega),if_pos h4];rfl⟩
 ·have h:ls.length=ms.length:=by
   have:(ls.length:Int)=ms.length:=by simpa using h
   omega
  refine⟨(ls.length:Int)-1,wo,Nat×World,fun x=>⟨[(0,sV a ls.length c),(1,sV b ms.length e),(5,.o (.v (.int .i64 ((x.1:Int)-1))))],[],0,[],x.2⟩,fun x=>x.1,
   fun x=>x.1<=ls.length/\dw w.heap.size w x.2/\ls.drop x.1=ms.drop x.1,?_,?_⟩
  ·intro O J r;exact⟨(ls.length,J),⟨Nat.le_refl _,r.cU,by rw[List.drop_length,h,List.drop_length]⟩,Sub.reset r ⟨rfl,rfl,rfl,trivial⟩ ⟨trivial,trivial,trivial,trivial⟩⟩
  ·rintro⟨k,w1⟩ ⟨D,I,hd⟩;dsimp only at D I hd ⊢;refine dQ.mk ?_ ?_<;>intro N
   ·have N:(k:Int)-1≥0:=aK N;obtain⟨k,rfl⟩:∃q,k=q+1:=⟨k-1,by omega⟩
    rw[show ((k+1:Nat):Int)-1=(k:Int) by omega];obtain⟨x,F⟩:∃x,ls[k]? =some x:=⟨_,aA (by omega)⟩
    obtain⟨y,hy⟩:∃x,ms[k]? =some x:=⟨_,aA (by omega)⟩
    obtain⟨ad,PI,hs,hc1⟩:=ha k x F;obtain⟨ad2,Pg,Qm,XE⟩:=hb k y hy;have PU:∀O J,Rel [] 0 [] w.heap.size w1 O J->J.cell? (ad.add ((k:Int).toNat*1))=some (.int .u32 x):=fun O J r=>by
     rw[aE,aV];exact j0 X I r hs hc1
    have Qu:∀O J,Rel [] 0 [] w.heap.size w1 O J->J.cell? (ad2.add ((k:Int).toNat*1))=some (.int .u32 y):=fun O J r=>by
     rw[aE,aV];exact j0 X I r Qm XE
    refine cR hτ dx [.x 0,.x 1,.x 2,.x 3,.x 4,.x 5,.x 6,.x 7,.x 8,.x 9] (by kernel_rfl) (by kernel_rfl) ?_;refine⟨ad,PI,by omega,_,PU,ad2,Pg,by omega,_,Qu,?_⟩;refine dQ.mk ?_ ?_<;>intro h4
    ·have h4:x<y:=by simpa using h4
     intro O V r;exact⟨_,rfl,I.tr r.cU,by rw[tD,if_pos (aAJ lm1 h F hy hd h4)];rfl⟩
    ·have h4:¬x<y:=by simpa using h4
     refine cR hτ dx [.x 0,.x 1,.x 2,.x 3,.x 4,.x 5,.x 6,.x 7,.x 8,.x 9] (by kernel_rfl) (by kernel_rfl) ?_;refine⟨ad,PI,by omega,_,PU,ad2,Pg,by omega,_,Qu,?_⟩;refine dQ.mk ?_ ?_<;>intro h5
     ·have h5:y<x:=by simpa using h5
      have h6:=aAJ lm2 h.symm hy F hd.symm h5;intro O V r;exact⟨_,rfl,I.tr r.cU,by rw[tD,aH (by omega),if_pos h6];rfl⟩
     ·have h5:¬y<x:=by simpa using h5
      have hxy:x=y:=by omega
      subst hxy;refine⟨(k:Int)-1,wo,?_⟩;intro O V r;have Pn:ls.drop k=ms.drop k:=by
       obtain⟨q1,e1⟩:=aD.1 F;obtain⟨q2,e2⟩:=aD.1 hy;rw[List.drop_eq_getElem_cons q1,List.drop_eq_getElem_cons q2,e1,e2,hd]
      exact⟨(k,V),⟨by dsimp only;omega,I.tr r.cU,Pn⟩,Sub.reset r ⟨rfl,rfl,rfl,trivial⟩ ⟨trivial,trivial,trivial,trivial⟩,by simp⟩
   ·have Ts:k=0:=by
     have:¬(k:Int)-1≥0:=aG N;omega
    subst Ts;have U:ls=ms:=by simpa using hd
    intro O V r;exact⟨_,rfl,I.tr r.cU,by rw[U,tD,aH (by omega),aH (by omega)];rfl⟩
end Go.Ex
namespace Go.Sx
open Go Go.Ex Go.Proofs
variable{O:Nat->Sx.dq}
theorem Rel.qj{nx:Nat}{iv:Iv}{B:Nat}{w J:World}(r:Rel [] nx iv B w O J):w.grownBy J none:=
 ⟨r.os,r.tape,r.output,r.size,fun k D _=>r.vP k D (fun id b h=>by cases h)⟩
end Go.Sx
namespace Go.Ex
open Go Go.Sx Go.Proofs
variable{l ls:List Nat}{S:Nat->Prop}{v:Value}{w:World}
structure LA(S:Nat->Prop)(w:World) where
 a:Option Addr
 c:Nat
 ls:List Nat
 lm:Lm ls
 le:ls.length<=9223372036854775807
 cap:ls.length<=c
 cell:∀(j:Nat) x,ls[j]? =some x->∃ad,a=some ad/\S ad.block/\w.cell? (ad.add j)=some (.int .u32 x)
theorem dT.la(h:dT w S v ls):∃p:LA S w,v= .slice p.a p.ls.length p.c/\p.ls=ls:=by
 obtain⟨a,c,L,G,N⟩:=h.sl;exact⟨⟨a,c,ls,h.lm,h.le,G,N⟩,L,rfl⟩
theorem eE.la{n:Nat}(h:eE w S v n):∃p:LA S w,v= .slice p.a p.ls.length p.c/\val p.ls=n/\Nz p.ls:=by
 obtain⟨ls,L,G,N⟩:=h;obtain⟨p,h4,h5⟩:=L.la;exact⟨p,h4,by rw[h5];exact N,by rw[h5];exact G⟩
theorem LA.load{w1:World}(p:LA S w)(X:Old S w)(I:dw w.heap.size w w1){k x:Nat}(F:p.ls[k]? =some x):
  ∃ad,p.a=some ad/\∀(H:Hp) (nx:Nat) (iv:Iv) (O:Nat->Sx.dq) J,Rel H nx iv w.heap.size w1 O J->J.cell? (ad.add ((k:Int).toNat*1))=some (.int .u32 x):=by
 obtain⟨ad,L,G,N⟩:=p.cell k x F;refine⟨ad,L,fun H nx iv O J r=>?_⟩;rw[aE,aV];exact j0 X I r G N
def E8(l:List Nat):List Value:=l.map fun(x:Nat)=>.int .u32 (x:Int)
theorem gW(l:List Nat):(E8 l).length=l.length:=by simp[E8]
theorem uo{k x:Nat}(h:l[k]? =some x):(E8 l)[k]? =some (.int .u32 x):=by simp[E8,h]
theorem aBN(l:List Nat)(k x:Nat)(h:k<l.length):(E8 l).take k++[.int .u32 x]++(E8 l).drop (k+1)=E8 (l.set k x):=by
 have L:k<(E8 l).length:=by rw[gW];exact h
 have:(E8 l).set k (.int .u32 x)=E8 (l.set k x):=by simp[E8,List.map_set]
 rw[<-this,List.set_eq_take_append_cons_drop,if_pos L];simp
theorem jW(l:List Nat)(k x:Nat)(h:k<l.length){e:Nat}(U:e=k):(E8 l).take e++[.int .u32 (x:Int)]++(E8 l).drop (e+1)=E8 (l.set k x):=by
 subst U;exact aBN l e x h
theorem tE(n:Nat):List.replicate n (Value.int .u32 0)=E8 (List.replicate n 0):=by simp[E8]
end Go.Ex
namespace Go.Sx
open Go Go.Ex Go.Proofs
variable{ls:List Nat}{O:Nat->Sx.dq}
theorem Rel.oB{H:Hp}{nx:Nat}{iv:Iv}{B:Nat}{w J:World}(r:Rel H nx iv B w O J){id t:Nat}(h:dG H id=some (.arr t (E8 ls)))(QG:Lm ls)(hle:ls.length<=9223372036854775807):
  dT J (fun g=>g=(O id).g) (.slice (some ⟨(O id).g,0,none⟩) ls.length ls.length) ls:=by
 refine⟨QG,hle,_,_,rfl,Nat.le_refl _,fun j x F=>⟨_,rfl,rfl,?_⟩⟩;have h0:(⟨(O id).g,0,none⟩:Addr).add j=⟨(O id).g,j,none⟩:=by
  cases j with
  |zero=>rfl
  |succ j=>simp[Addr.add]
 rw[h0,cell_of (r.arr id t _ h)];exact uo F
end Go.Sx
namespace Go.Ex
open Go Go.Sx Go.Proofs
variable{S:Nat->Prop}
theorem DM{out ls ms:List Nat}{i x o d:Nat}(F:ls[i]? =some x)(ho:ms.getD i 0=o)(hd:out[i]? =some d){carry:Nat}(h:val (out.take i)+wt i*carry=val (ls.take i)+val (ms.take i)):
  val ((out.set i ((x+o+carry) % 4294967296)).take (i+1))+wt (i+1)*((x+o+carry) / 4294967296)=val (ls.take (i+1))+val (ms.take (i+1)):=by
 have A:=(aD.1 hd).1;have L:(out.set i ((x+o+carry) % 4294967296))[i]? =some ((x+o+carry) % 4294967296):=by rw[aP A]
 rw[dh L,List.take_set_of_le (Nat.le_refl _),dh F,jU];have G:val (ms.take (i+1))=val (ms.take i)+wt i*o:=by
  cases hm:ms[i]? with
  |some y=>
   have:y=o:=by rw[<-ho];simp[List.getD,hm]
   rw[dh hm,this]
  |none=>
   have:o=0:=by rw[<-ho];simp[List.getD,hm]
   rw[this,List.take_add_one,hm];simp
 rw[G];have N:=Nat.div_add_mod (x+o+carry) 4294967296;generalize (x+o+carry) / 4294967296=q at N ⊢;generalize (x+o+carry) % 4294967296=r at N ⊢;have h4:wt i*(4294967296*q+r)=wt i*(x+o+carry):=by rw[N]
 rw[bV,bV,bV,<-bg,bT (wt i) 4294967296]at h4;omega
theorem aAe{w:World}{v u:Value}{n m:Nat}(X:Old S w)(R:eE w S v n)(hm:eE w S u m)(Sr:ln n<=1000000000000)(QG:ln m<=1000000000000):
  eI PG F'.qV #[v,u] w (eO w fun v' V=>eE V (Nf w V) v' (n+m)):=by
 obtain⟨p,rfl,RE,Qg⟩:=R.la;obtain⟨q,rfl,Rr,Qd⟩:=hm.la;have Pv:=eW p.lm Qg;have SZ:=eW q.lm Qd;rw[RE]at Pv;rw[Rr]at SZ;have hsum:n+m=val p.ls+val q.ls:=by rw[RE,Rr]
 rw[hsum];refine uj (by simp) ?_;refine dQ.mk ?_ ?_<;>intro h
 case' refine_1=>
  have h:p.ls.length<q.ls.length:=by simpa using h
  have hpx:p.ls.length<=q.ls.length:=by omega
  have hx12:q.ls.length<=1000000000000:=by omega
  rw[Nat.add_comm];generalize Qe:q=x at*
  generalize hgy:p=y at*
 case' refine_2=>
  have h:¬p.ls.length<q.ls.length:=by simpa using h
  have hpx:q.ls.length<=p.ls.length:=by omega
  have hx12:p.ls.length<=1000000000000:=by omega
  generalize Qe:p=x at*
  generalize hgy:q=y at*
 all_goals
  refine⟨((x.ls.length+1:Nat):Int),wo,x.ls.length+1,x.ls.length+1,rfl,rfl,Nat.le_refl _,by omega,by omega,Nat×List Nat×Nat×World,fun z=>⟨[(0,sV x.a x.ls.length x.c),(1,sV y.a y.ls.length y.c),(5,.o (.s 0 0 (x.ls.length+1) (x.ls.length+1))),(6,.o (.v (.int .u32 z.2.2.1))),(21,iZ x.ls.length),(22,iZ z.1)],
    [(0,.arr T.uint32 (E8 z.2.1))],1,[],z.2.2.2⟩,fun z=>x.ls.length-z.1,
   fun z=>z.1<=x.ls.length/\dw w.heap.size w z.2.2.2/\z.2.1.length=x.ls.length+1/\Lm z.2.1/\z.2.2.1<2/\val (z.2.1.take z.1)+wt z.1*z.2.2.1=val (x.ls.take z.1)+val (y.ls.take z.1),?_,?_⟩
  ·intro O J r;rw[tE]at r;exact⟨(0,List.replicate (x.ls.length+1) 0,0,J),⟨by simp,r.cU,by simp,Lm.replicate _,by simp,by simp[val]⟩,Sub.gn [] r⟩
  ·rintro⟨i,out,carry,w1⟩ ⟨A,I,Qn,Pe,hc,hv⟩;dsimp only at A I Qn Pe hc hv ⊢;refine dQ.mk ?_ ?_<;>intro h
   ·have h:i<x.ls.length:=by simpa using h
    obtain⟨xi,QK⟩:∃k,x.ls[i]? =some k:=⟨_,aA h⟩
    obtain⟨d,hd⟩:∃k,out[i]? =some k:=⟨_,aA (by omega)⟩
    obtain⟨ad,PI,PK⟩:=x.load X I QK;have Qa:=x.lm.at QK;refine dQ.mk ?_ ?_<;>intro G
    ·have G:i<y.ls.length:=by simpa using G
     obtain⟨o,ho⟩:∃k,y.ls[i]? =some k:=⟨_,aA G⟩
     obtain⟨ad2,Pg,RJ⟩:=y.load X I ho;have XF:=y.lm.at ho;have UF:y.ls.getD i 0=o:=by simp[List.getD,ho]
     refine⟨ad2,Pg,by omega,.int .u32 o,RJ _ _ _,ad,PI,by omega,.int .u32 xi,PK _ _ _,?_⟩;refine cJ (cO (If:=fun _ _ v _=>v= .tuple #[.int .u32 ((xi+o+carry) % 4294967296:Nat),.int .u32 ((xi+o+carry) / 4294967296:Nat)]) (fun O J r=>JA xi o carry J Qa XF (by omega)) ?_);rintro O J v V r U hb rfl;replace I:=I.tr hb;have Om:=DM QK UF hd hv;have XE:(xi+o+carry) / 4294967296<2:=by omega
     refine⟨by omega,by rw[gW];omega,E8 (out.set i ((xi+o+carry) % 4294967296)),jW out i _ (by omega) (by simp),((i+1:Nat):Int),wo,?_⟩;intro GT w3 E
     exact⟨(i+1,out.set i ((xi+o+carry) % 4294967296),(xi+o+carry) / 4294967296,w3),⟨by dsimp only;omega,I.tr E.cU,by simp[Qn],Pe.set (cD _ (by decide)),XE,Om⟩,
      Sub.gn [] E,by dsimp only;omega⟩
    ·have G:¬i<y.ls.length:=by simpa using G
     have UF:y.ls.getD i 0=0:=by simp[List.getD,List.getElem?_eq_none (show y.ls.length<=i by omega)]
     refine⟨ad,PI,by omega,.int .u32 xi,PK _ _ _,?_⟩;refine cJ (cO (If:=fun _ _ v _=>v= .tuple #[.int .u32 ((xi+0+carry) % 4294967296:Nat),.int .u32 ((xi+0+carry) / 4294967296:Nat)]) (fun O J r=>JA xi 0 carry J Qa (by decide) (by omega)) ?_);rintro O J v V r U hb rfl;replace I:=I.tr hb;have Om:=DM QK UF hd hv;have XE:(xi+0+carry) / 4294967296<2:=by omega
     refine⟨by omega,by rw[gW];omega,E8 (out.set i ((xi+0+carry) % 4294967296)),jW out i _ (by omega) (by simp),((i+1:Nat):Int),wo,?_⟩;intro GT w3 E
     exact⟨(i+1,out.set i ((xi+0+carry) % 4294967296),(xi+0+carry) / 4294967296,w3),⟨by dsimp only;omega,I.tr E.cU,by simp[Qn],Pe.set (cD _ (by decide)),XE,Om⟩,
      Sub.gn [] E,by dsimp only;omega⟩
   ·have RO:i=x.ls.length:=by
     have:¬i<x.ls.length:=by simpa using h
     omega
    subst RO;obtain⟨d,hd⟩:∃k,out[x.ls.length]? =some k:=⟨_,aA (by omega)⟩
    have S4:val (out.set x.ls.length carry)=val x.ls+val y.ls:=by
     have L:(out.set x.ls.length carry)[x.ls.length]? =some carry:=by rw[aP (by omega)]
     have G:=dh L;rw[List.take_of_length_le (by simp;omega),List.take_set_of_le (Nat.le_refl _)]at G;rw[bA,List.take_of_length_le hpx]at hv;omega
    have hlm2:Lm (out.set x.ls.length carry):=Pe.set (by omega);refine⟨by omega,by rw[gW];omega,E8 (out.set x.ls.length carry),jW out x.ls.length carry (by omega) (by simp),?_⟩;generalize WN:out.set x.ls.length carry=fin at S4 hlm2;have PL:fin.length=x.ls.length+1:=by rw[<-WN];simp[Qn]
    refine gM (If:=fun O _ v V=>dT V (fun g=>g=(O 0).g) v (eC fin)) (H':=[]) 0 rfl (by simp) trivial rfl (fun O J r=>r.nn 0 _ rfl (by intros;simp) (by simp)) (fun O J r=>?_) ?_
    ·have hL:=r.oB (id:=0) rfl hlm2 (by omega);rw[PL]at hL;exact fb (fun g Y=>by rw[Y];exact(r.low 0 _ rfl (r.nn 0 _ rfl (by intros;simp) (by simp))).2) hL
    rintro O J v V r U hb hL;replace I:=I.tr hb;have Og:=r.low 0 _ rfl (r.nn 0 _ rfl (by intros;simp) (by simp));generalize (O 0).g=g at*
    have hs:=U.size;intro GT w3 E;refine⟨_,rfl,I.tr E.cU,eC fin,?_,(fK fin).2.1,?_⟩
    ·refine(hL.cK fun k D=>?_).cN fun k D=>.inr ?_
     ·rw[D];exact E.qj.block g (by omega) (by simp)
     ·rw[D];have:=E.size;omega
    ·rw[(fK fin).1,S4]
end Go.Ex
namespace Go.Ex
open Go Go.Sx Go.Proofs
variable{ls ms out:List Nat}{A9 a b i k o t:Nat}{S:Nat->Prop}{v:Value}{w:World}
theorem KY(ho:ms.getD i 0=o):val (ms.take (i+1))=val (ms.take i)+wt i*o:=by
 cases hm:ms[i]? with
 |some y=>
  have:y=o:=by rw[<-ho];simp[List.getD,hm]
  rw[dh hm,this]
 |none=>
  have:o=0:=by rw[<-ho];simp[List.getD,hm]
  rw[this,List.take_add_one,hm];simp
theorem BU{x d e:Nat}(F:ls[i]? =some x)(ho:ms.getD i 0=o)(hd:out[i]? =some d){b':Nat}(h:val (out.take i)+val (ms.take i)=val (ls.take i)+wt i*b)(U:e+(o+b)=x+4294967296*b'):
  val ((out.set i e).take (i+1))+val (ms.take (i+1))=val (ls.take (i+1))+wt (i+1)*b':=by
 have A:=(aD.1 hd).1;have L:(out.set i e)[i]? =some e:=by rw[aP A]
 rw[dh L,List.take_set_of_le (Nat.le_refl _),dh F,KY ho,jU];have h4:wt i*(e+(o+b))=wt i*(x+4294967296*b'):=by rw[U]
 rw[bV,bV,bV,<-bg,bT (wt i) 4294967296]at h4;omega
theorem EJ{u:Value}{n m:Nat}(X:Old S w)(R:eE w S v n)(hm:eE w S u m)(hle:m<=n)(Sr:ln n<=1000000000000):
  eI PG F'.pW #[v,u] w (eO w fun v' V=>eE V (Nf w V) v' (n-m)):=by
 obtain⟨x,rfl,RE,Qg⟩:=R.la;obtain⟨y,rfl,Rr,Qd⟩:=hm.la;have Pv:=eW x.lm Qg;rw[RE]at Pv;have hyx:y.ls.length<=x.ls.length:=by
  rw[eW x.lm Qg,eW y.lm Qd,RE,Rr];exact fY hle
 refine tC (by simp) ?_
 refine⟨x.ls.length,x.ls.length,rfl,rfl,Nat.le_refl _,by omega,by omega,Nat×List Nat×Nat×World,fun z=>⟨[(0,sV x.a x.ls.length x.c),(1,sV y.a y.ls.length y.c),(5,.o (.s 0 0 x.ls.length x.ls.length)),(6,.o (.v (.int .u32 z.2.2.1))),(13,iZ x.ls.length),(14,iZ z.1)],
   [(0,.arr T.uint32 (E8 z.2.1))],1,[],z.2.2.2⟩,fun z=>x.ls.length-z.1,
  fun z=>z.1<=x.ls.length/\dw w.heap.size w z.2.2.2/\z.2.1.length=x.ls.length/\Lm z.2.1/\z.2.2.1<2/\val (z.2.1.take z.1)+val (y.ls.take z.1)=val (x.ls.take z.1)+wt z.1*z.2.2.1,?_,?_⟩
 ·intro O J r;rw[tE]at r;exact⟨(0,List.replicate x.ls.length 0,0,J),⟨by simp,r.cU,by simp,Lm.replicate _,by simp,by simp[val]⟩,Sub.gn [] r⟩
 ·rintro⟨i,out,b,w1⟩ ⟨A,I,Qn,Pe,hc,hv⟩;dsimp only at A I Qn Pe hc hv ⊢;refine dQ.mk ?_ ?_<;>intro h
  ·have h:i<x.ls.length:=by simpa using h
   obtain⟨xi,QK⟩:∃k,x.ls[i]? =some k:=⟨_,aA h⟩
   obtain⟨d,hd⟩:∃k,out[i]? =some k:=⟨_,aA (by omega)⟩
   obtain⟨ad,PI,PK⟩:=x.load X I QK;have Qa:=x.lm.at QK;refine dQ.mk ?_ ?_<;>intro G
   ·have G:i<y.ls.length:=by simpa using G
    obtain⟨o,ho⟩:∃k,y.ls[i]? =some k:=⟨_,aA G⟩
    obtain⟨ad2,Pg,RJ⟩:=y.load X I ho;have XF:=y.lm.at ho;have UF:y.ls.getD i 0=o:=by simp[List.getD,ho]
    refine⟨ad2,Pg,by omega,.int .u32 o,RJ _ _ _,ad,PI,by omega,.int .u32 xi,PK _ _ _,?_⟩;refine cJ (cO (If:=fun _ _ v _=>v= .tuple #[.int .u32 ((xi+4294967296-(o+b)) % 4294967296:Nat),.int .u32 ((if xi<o+b then 1 else 0:Nat):Int)]) (fun O J r=>JB xi o b J Qa XF (by omega)) ?_);rintro O J v V r U hb rfl;replace I:=I.tr hb;have QW:(xi+4294967296-(o+b)) % 4294967296+(o+b)=xi+4294967296*(if xi<o+b then 1 else 0):=by split<;>omega
    have Ow:(xi+4294967296-(o+b)) % 4294967296<4294967296:=cD _ (by decide);have Q5:(if xi<o+b then 1 else 0:Nat)<2:=by split<;>omega
    generalize (xi+4294967296-(o+b)) % 4294967296=e at QW Ow;generalize (if xi<o+b then 1 else 0:Nat)=b' at QW Q5;have Om:=BU QK UF hd hv QW;refine⟨by omega,by rw[gW];omega,E8 (out.set i e),jW out i _ (by omega) (by simp),((i+1:Nat):Int),wo,?_⟩;intro GT w3 E
    exact⟨(i+1,out.set i e,b',w3),⟨by dsimp only;omega,I.tr E.cU,by simp[Qn],Pe.set Ow,Q5,Om⟩,
     Sub.gn [] E,by dsimp only;omega⟩
   ·have G:¬i<y.ls.length:=by simpa using G
    have UF:y.ls.getD i 0=0:=by simp[List.getD,List.getElem?_eq_none (show y.ls.length<=i by omega)]
    refine⟨ad,PI,by omega,.int .u32 xi,PK _ _ _,?_⟩;refine cJ (cO (If:=fun _ _ v _=>v= .tuple #[.int .u32 ((xi+4294967296-(0+b)) % 4294967296:Nat),.int .u32 ((if xi<0+b then 1 else 0:Nat):Int)]) (fun O J r=>JB xi 0 b J Qa (by decide) (by omega)) ?_);rintro O J v V r U hb rfl;replace I:=I.tr hb;have QW:(xi+4294967296-(0+b)) % 4294967296+(0+b)=xi+4294967296*(if xi<0+b then 1 else 0):=by split<;>omega
    have Ow:(xi+4294967296-(0+b)) % 4294967296<4294967296:=cD _ (by decide);have Q5:(if xi<0+b then 1 else 0:Nat)<2:=by split<;>omega
    generalize (xi+4294967296-(0+b)) % 4294967296=e at QW Ow;generalize (if xi<0+b then 1 else 0:Nat)=b' at QW Q5;have Om:=BU QK UF hd hv QW;refine⟨by omega,by rw[gW];omega,E8 (out.set i e),jW out i _ (by omega) (by simp),((i+1:Nat):Int),wo,?_⟩;intro GT w3 E
    exact⟨(i+1,out.set i e,b',w3),⟨by dsimp only;omega,I.tr E.cU,by simp[Qn],Pe.set Ow,Q5,Om⟩,
     Sub.gn [] E,by dsimp only;omega⟩
  ·have RO:i=x.ls.length:=by
    have:¬i<x.ls.length:=by simpa using h
    omega
   subst RO;have S4:val out=n-m:=by
    rw[List.take_of_length_le (by omega),List.take_of_length_le hyx,bA,RE,Rr]at hv;have L:=oU Pe;rw[Qn]at L;have:b=0\/b=1:=by omega
    rcases this with rfl|rfl
    ·omega
    ·omega
   refine gM (If:=fun O _ v V=>dT V (fun g=>g=(O 0).g) v (eC out)) (H':=[]) 0 rfl (by simp) trivial rfl (fun O J r=>r.nn 0 _ rfl (by intros;simp) (by simp)) (fun O J r=>?_) ?_
   ·have hL:=r.oB (id:=0) rfl Pe (by omega);rw[Qn]at hL;exact fb (fun g Y=>by rw[Y];exact(r.low 0 _ rfl (r.nn 0 _ rfl (by intros;simp) (by simp))).2) hL
   rintro O J v V r U hb hL;replace I:=I.tr hb;have Og:=r.low 0 _ rfl (r.nn 0 _ rfl (by intros;simp) (by simp));generalize (O 0).g=g at*
   have hs:=U.size;intro GT w3 E;refine⟨_,rfl,I.tr E.cU,eC out,?_,(fK out).2.1,?_⟩
   ·refine(hL.cK fun k D=>?_).cN fun k D=>.inr ?_
    ·rw[D];exact E.qj.block g (by omega) (by simp)
    ·rw[D];have:=E.size;omega
   ·rw[(fK out).1,S4]
theorem IA{p c:Nat}(ho:out[p]? =some o)(h:val out+wt p*c=A9)(ht:t=a+o+c):
  val (out.set p (t % 4294967296))+wt (p+1)*(t / 4294967296)=A9+wt p*a:=by
 have L:=yh (x:=t % 4294967296) ho;rw[jU];have N:=Nat.div_add_mod t 4294967296;generalize t / 4294967296=q at N ⊢;generalize t % 4294967296=r at N L ⊢;have h4:wt p*(4294967296*q+r)=wt p*(a+o+c):=by rw[N,ht]
 rw[bV,bV,bV,<-bg,bT (wt p) 4294967296]at h4;omega
def Zf(out:List Nat)(p:Nat):Prop:=∀(j:Nat) z,p<=j->out[j]? =some z->z=0
theorem Zf.set{p x:Nat}(h:Zf out p)(D:k<p):Zf (out.set k x) p:=fun j z hj hz=>by
 rw[aS (by omega)]at hz;exact h j z hj hz
theorem NF(ha:a<4294967296)(hb:b<4294967296):a*b<=18446744065119617025:=by
 have:a*b<=4294967295*4294967295:=Nat.mul_le_mul (by omega) (by omega);omega
theorem Im{u:Value}{n m:Nat}(X:Old S w)(R:eE w S v n)(hm:eE w S u m)(Sr:ln n<=1000000000000)(QG:ln m<=1000000000000):
  eI PG F'.pT #[v,u] w (eO w fun v' V=>eE V (Nf w V) v' (n*m)):=by
 obtain⟨x,rfl,RE,Qg⟩:=R.la;obtain⟨y,rfl,Rr,Qd⟩:=hm.la;have Pv:=eW x.lm Qg;rw[RE]at Pv;have SZ:=eW y.lm Qd;rw[Rr]at SZ;refine sw (by simp) ?_;obtain⟨C8,hL⟩:∃C8,C8=x.ls.length+y.ls.length:=⟨_,rfl⟩
 refine⟨(C8:Int),wo,C8,C8,rfl,rfl,Nat.le_refl _,by omega,by omega,Nat×List Nat×World,fun z=>⟨[(1,sV y.a y.ls.length y.c),(5,.o (.s 0 0 C8 C8)),(18,sV x.a x.ls.length x.c),(19,iZ x.ls.length),(20,iZ z.1)],
   [(0,.arr T.uint32 (E8 z.2.1))],1,[],z.2.2⟩,fun z=>x.ls.length-z.1,
  fun z=>z.1<=x.ls.length/\dw w.heap.size w z.2.2/\z.2.1.length=C8/\Lm z.2.1/\val z.2.1=val (x.ls.take z.1)*m/\Zf z.2.1 (z.1+y.ls.length),?_,?_⟩
 ·intro O J r;rw[tE]at r;exact⟨(0,List.replicate C8 0,J),⟨by simp,r.cU,by simp,Lm.replicate _,by simp[val,nG],fun j z _ hz=>by simp only[List.getElem?_replicate]at hz;split at hz<;>simp_all⟩,Sub.gn [] r⟩
 ·rintro⟨i,out,w1⟩ ⟨A,I,Qn,Pe,hv,hz⟩;dsimp only at A I Qn Pe hv hz ⊢;refine dQ.mk ?_ ?_<;>intro h
  ·have h:i<x.ls.length:=by simpa using h
   obtain⟨xi,QK⟩:∃k,x.ls[i]? =some k:=⟨_,aA h⟩
   obtain⟨ad,PI,PK⟩:=x.load X I QK;have Qa:=x.lm.at QK
   refine⟨ad,PI,by omega,.int .u32 xi,PK _ _ _,Nat×List Nat×Nat×World,fun z=>⟨[(1,sV y.a y.ls.length y.c),(5,.o (.s 0 0 C8 C8)),(18,sV x.a x.ls.length x.c),(19,iZ x.ls.length),(20,iZ i),
     (6,iZ i),(7,.o (.v (.int .u32 xi))),(8,.o (.v (.int .u64 z.2.2.1))),(25,sV y.a y.ls.length y.c),(26,iZ y.ls.length),(27,iZ z.1)],
     [(0,.arr T.uint32 (E8 z.2.1))],1,[],z.2.2.2⟩,fun z=>y.ls.length-z.1,
    fun z=>z.1<=y.ls.length/\dw w.heap.size w z.2.2.2/\z.2.1.length=C8/\Lm z.2.1/\z.2.2.1<4294967296/\val z.2.1+wt (i+z.1)*z.2.2.1=val (x.ls.take i)*m+wt i*xi*val (y.ls.take z.1)/\Zf z.2.1 (i+y.ls.length),?_,?_⟩
   ·intro O J r;exact⟨(0,out,0,J),⟨by simp,I.tr r.cU,Qn,Pe,by simp,by simp[val,hv],hz⟩,Sub.gn [] r⟩
   ·rintro⟨k,out,c,w1⟩ ⟨D,I,Qn,Pe,hc,hv,hz⟩;dsimp only at D I Qn Pe hc hv hz ⊢;refine dQ.mk ?_ ?_<;>intro G
    ·have G:k<y.ls.length:=by simpa using G
     obtain⟨yk,hyk⟩:∃q,y.ls[k]? =some q:=⟨_,aA G⟩
     obtain⟨ad2,Pg,RJ⟩:=y.load X I hyk;have hy32:=y.lm.at hyk;obtain⟨o,ho⟩:∃q,out[i+k]? =some q:=⟨_,aA (by omega)⟩
     have XF:=Pe.at ho;have hm64:=NF Qa hy32;refine⟨ad2,Pg,by omega,.int .u32 yk,RJ _ _ _,(xi:Int),eu (by omega),(yk:Int),eu (by omega),((xi*yk:Nat):Int),by rw[<-Int.natCast_mul];exact eu (by omega),((i+k:Nat):Int),wo,by omega,.int .u32 o,by rw[aE,aT,aV];exact uo ho,(o:Int),eu (by omega),((xi*yk+o:Nat):Int),by rw[<-Int.natCast_add];exact eu (by omega),?_⟩;obtain⟨t,ht⟩:∃t,t=xi*yk+o+c:=⟨_,rfl⟩
     refine⟨(t:Int),by rw[<-Int.natCast_add,<-ht];exact eu (by omega),((i+k:Nat):Int),wo,((t % 4294967296:Nat):Int),fT _,by decide,((t / 4294967296:Nat):Int),mI 32 (by decide),by omega,by rw[gW];omega,E8 (out.set (i+k) (t % 4294967296)),jW out (i+k) _ (by omega) (by simp only[aE];omega),((k+1:Nat):Int),wo,?_⟩;intro GT w3 E
     refine⟨(k+1,out.set (i+k) (t % 4294967296),t / 4294967296,w3),⟨by dsimp only;omega,I.tr E.cU,by simp[Qn],Pe.set (cD _ (by decide)),by dsimp only;omega,?_,hz.set (by omega)⟩,
      Sub.gn [] E,by dsimp only;omega⟩
     have h5:=IA (a:=xi*yk) ho hv ht;dsimp only
     rw[show i+(k+1)=i+k+1 by omega,h5,dh hyk,D7,bV,Nat.add_assoc];congr 2;simp only[bg,Nat.mul_left_comm,bT]
    ·have Wc:k=y.ls.length:=by
      have:¬k<y.ls.length:=by simpa using G
      omega
     subst Wc;obtain⟨o,ho⟩:∃q,out[i+y.ls.length]? =some q:=⟨_,aA (by omega)⟩
     have ho0:=hz _ _ (Nat.le_refl _) ho;subst ho0;refine⟨((i+y.ls.length:Nat):Int),wo,(c:Int),by rw[fT,bN hc],by omega,by rw[gW];omega,E8 (out.set (i+y.ls.length) c),jW out (i+y.ls.length) _ (by omega) (by simp only[aE];omega),((i+1:Nat):Int),wo,?_⟩;intro GT w3 E
     refine⟨(i+1,out.set (i+y.ls.length) c,w3),⟨by dsimp only;omega,I.tr E.cU,by simp[Qn],Pe.set hc,?_,?_⟩,
      Sub.gn [] E,by dsimp only;omega⟩
     ·have h5:=yh (x:=c) ho;dsimp only
      rw[bA,Rr]at hv;rw[dh QK,Nat.add_mul];omega
     ·intro j z hj hjz;dsimp only at hj;rw[aS (by omega)]at hjz;exact hz j z (by omega) hjz
  ·have RO:i=x.ls.length:=by
    have:¬i<x.ls.length:=by simpa using h
    omega
   subst RO;have S4:val out=n*m:=by rw[hv,bA,RE]
   refine gM (If:=fun O _ v V=>dT V (fun g=>g=(O 0).g) v (eC out)) (H':=[]) 0 rfl (by simp) trivial rfl (fun O J r=>r.nn 0 _ rfl (by intros;simp) (by simp)) (fun O J r=>?_) ?_
   ·have hL:=r.oB (id:=0) rfl Pe (by omega);rw[Qn]at hL;exact fb (fun g Y=>by rw[Y];exact(r.low 0 _ rfl (r.nn 0 _ rfl (by intros;simp) (by simp))).2) hL
   rintro O J v V r U hb hL;replace I:=I.tr hb;have Og:=r.low 0 _ rfl (r.nn 0 _ rfl (by intros;simp) (by simp));generalize (O 0).g=g at*
   have hs:=U.size;intro GT w3 E;refine⟨_,rfl,I.tr E.cU,eC out,?_,(fK out).2.1,?_⟩
   ·refine(hL.cK fun k D=>?_).cN fun k D=>.inr ?_
    ·rw[D];exact E.qj.block g (by omega) (by simp)
    ·rw[D];have:=E.size;omega
   ·rw[(fK out).1,S4]
theorem EL{q:Nat}(ho:o<2^k):o ||| 2^k*q=o+2^k*q:=by
 rw[Nat.or_comm,<-Nat.two_pow_add_eq_or_of_lt ho,Nat.add_comm]
theorem MI{x y:Nat}(F:x<18446744073709551616)(hy:y<18446744073709551616):IntKind.u64.wrap ((BitVec.ofInt IntKind.u64.bits x ||| BitVec.ofInt IntKind.u64.bits y).toNat:Int)=((x ||| y:Nat):Int):=by
 have e:∀z:Nat,BitVec.ofInt 64 (z:Int)=BitVec.ofNat 64 z:=fun z=>by
  apply BitVec.eq_of_toNat_eq;simp
 show IntKind.u64.wrap ((BitVec.ofInt 64 x ||| BitVec.ofInt 64 y).toNat:Int)=_;rw[e,e,BitVec.toNat_or,BitVec.toNat_ofNat,BitVec.toNat_ofNat,bN F,bN hy];exact eu (Nat.or_lt_two_pow (n:=64) F hy)
theorem EK(D:k<=63)(h:a*2^k<18446744073709551616):IntKind.u64.wrap ((a:Int)*2^min ((k:Int)).toNat IntKind.u64.bits)=((a*2^k:Nat):Int):=by
 have L:min ((k:Int)).toNat IntKind.u64.bits=k:=by show min ((k:Int)).toNat 64=k;omega
 rw[L,show(a:Int)*2^k=((a*2^k:Nat):Int) by simp];exact eu h
theorem IE(ha:ls[i]? =some a)(ho:out[i]? =some o)(hz:out[i+1]? =some 0)(hv:val out=val (ls.take i)*2^b):
  val ((out.set i (o+a*2^b % 4294967296)).set (i+1) (a*2^b / 4294967296))=val (ls.take (i+1))*2^b:=by
 have L:=yh (x:=o+a*2^b % 4294967296) ho;have G:(out.set i (o+a*2^b % 4294967296))[i+1]? =some 0:=by rw[aS (by omega)];exact hz
 have N:=yh (x:=a*2^b / 4294967296) G;rw[dh ha,Nat.add_mul,bg];rw[jU]at N;generalize a*2^b=t at*
 have h4:=Nat.div_add_mod t 4294967296;generalize t / 4294967296=q at*
 generalize t % 4294967296=r at*
 have h5:wt i*(o+r)=wt i*o+wt i*r:=bV _ _ _;have h6:4294967296*wt i*q=wt i*(4294967296*q):=by rw[bT 4294967296 (wt i),bg]
 rw[<-h4,bV];omega
def MK(w V:World)(v:Value)(ls:List Nat):Prop:=∃g,v= .slice (some ⟨g,0,none⟩) ls.length ls.length/\w.heap.size<=g/\V.heap[g]? =some (.cells (E8 ls).toArray T.uint32 (0,0))/\Lm ls
theorem Cs(X:Old S w)(h:dT w S v ls)(hl:ls.length<=1000000000000)(hb:b<32):
  eI PG F'.mn #[v,.int .u64 b] w (eO w fun v' V=>∃out,MK w V v' out/\out.length=ls.length+1/\val out=val ls*2^b):=by
 obtain⟨x,rfl,rfl⟩:=h.la;refine qh (by simp) ?_;have hp32:2^b<=2^31:=Nat.pow_le_pow_right (by decide) (by omega)
 refine⟨((x.ls.length+1:Nat):Int),wo,x.ls.length+1,x.ls.length+1,rfl,rfl,Nat.le_refl _,by omega,by omega,Nat×List Nat×World,fun z=>⟨[(1,.o (.v (.int .u64 b))),(5,.o (.s 0 0 (x.ls.length+1) (x.ls.length+1))),(13,sV x.a x.ls.length x.c),(14,iZ x.ls.length),(15,iZ z.1)],
   [(0,.arr T.uint32 (E8 z.2.1))],1,[],z.2.2⟩,fun z=>x.ls.length-z.1,
  fun z=>z.1<=x.ls.length/\dw w.heap.size w z.2.2/\z.2.1.length=x.ls.length+1/\Lm z.2.1/\val z.2.1=val (x.ls.take z.1)*2^b/\Zf z.2.1 (z.1+1)/\(∀o,z.2.1[z.1]? =some o->o<2^b),?_,?_⟩
 ·intro O J r;rw[tE]at r;refine⟨(0,List.replicate (x.ls.length+1) 0,J),⟨by simp,r.cU,by simp,Lm.replicate _,by simp[val,nG],fun j z _ hz=>?_,fun o ho=>?_⟩,Sub.gn [] r⟩
  ·simp only[List.getElem?_replicate]at hz;split at hz<;>simp_all
  ·simp only[List.getElem?_replicate]at ho;split at ho
   ·injection ho with ho;subst ho;exact bz _
   ·cases ho
 ·rintro⟨i,out,w1⟩ ⟨A,I,Qn,Pe,hv,hz,Og⟩;dsimp only at A I Qn Pe hv hz Og ⊢;refine dQ.mk ?_ ?_<;>intro h
  ·have h:i<x.ls.length:=by simpa using h
   obtain⟨a,QK⟩:∃k,x.ls[i]? =some k:=⟨_,aA h⟩
   obtain⟨ad,PI,PK⟩:=x.load X I QK;have Qa:=x.lm.at QK;obtain⟨o,ho⟩:∃q,out[i]? =some q:=⟨_,aA (by omega)⟩
   obtain⟨o1,WR⟩:∃q,out[i+1]? =some q:=⟨_,aA (by omega)⟩
   have e0:=hz _ _ (Nat.le_refl _) WR;subst e0;have Tn:=Og o ho;have Om:=IE QK ho WR hv;have QS:a*2^b<=4294967295*2^31:=Nat.mul_le_mul (by omega) hp32;have UZ:a*2^b / 4294967296<2^b:=by
    rw[Nat.div_lt_iff_lt_mul (by decide),bT (2^b)];exact Nat.mul_lt_mul_of_pos_right Qa (bz b)
   have VB:o ||| a*2^b % 4294967296=o+a*2^b % 4294967296:=by
    have:a*2^b % 4294967296=2^b*(a % 2^(32-b)):=by
     rw[show (4294967296:Nat)=2^(32-b)*2^b by rw[<-Nat.pow_add,Nat.sub_add_cancel (by omega)],Nat.mul_mod_mul_right,bT]
    rw[this];exact EL Tn
   have Tf:o+a*2^b % 4294967296<4294967296:=by
    rw[<-VB];exact Ed (by omega) (cD _ (by decide))
   refine⟨ad,PI,by omega,.int .u32 a,PK _ _ _,(a:Int),eu (by omega),by omega,((a*2^b:Nat):Int),EK (by omega) (by omega),?_⟩;generalize ht:a*2^b=t at*
   refine⟨by omega,.int .u32 o,by rw[aE,aT,aV];exact uo ho,((t % 4294967296:Nat):Int),fT _,((o+t % 4294967296:Nat):Int),by rw[<-VB];exact aBI (by omega) (cD _ (by decide)),by omega,by rw[gW];omega,E8 (out.set i (o+t % 4294967296)),jW out i _ (by omega) (by simp),((i+1:Nat):Int),wo,by decide,((t / 4294967296:Nat):Int),mI 32 (by decide),((t / 4294967296:Nat):Int),by rw[fT];omega,by omega,by rw[gW];simp;omega,E8 ((out.set i (o+t % 4294967296)).set (i+1) (t / 4294967296)),jW _ (i+1) _ (by simp;omega) (by simp only[aE];omega),((i+1:Nat):Int),wo,?_⟩;intro GT w3 E
   refine⟨(i+1,(out.set i (o+t % 4294967296)).set (i+1) (t / 4294967296),w3),⟨by dsimp only;omega,I.tr E.cU,by simp[Qn],(Pe.set Tf).set (by omega),Om,fun j z hj hjz=>?_,fun o2 UX=>?_⟩,
    Sub.gn [] E,by dsimp only;omega⟩
   ·dsimp only at hj;rw[aS (by omega),aS (by omega)]at hjz;exact hz j z (by omega) hjz
   ·rw[aP (by simp;omega)]at UX;injection UX with UX;omega
  ·have RO:i=x.ls.length:=by
    have:¬i<x.ls.length:=by simpa using h
    omega
   subst RO;rw[bA]at hv;intro GT w3 E;refine⟨_,rfl,I.tr E.cU,out,⟨(GT 0).g,by rw[Qn];rfl,(E.low 0 _ rfl (E.nn 0 _ rfl (by intros;simp) (by simp))).1,E.arr 0 _ _ rfl,Pe⟩,Qn,hv⟩
theorem DU{d q:Nat}(ha32:a<4294967296)(ha:ls[i]? =some a)(hd:out[i]? =some d)(hb:b<=32)(ht:t=a+4294967296*ls.getD (i+1) 0)(hq:q=t / 2^b % 4294967296)(hv:val (out.take i)+wt i*(val (ls.drop i) / 2^b)=A9):
  val ((out.set i q).take (i+1))+wt (i+1)*(val (ls.drop (i+1)) / 2^b)=A9:=by
 have A:=(aD.1 hd).1;have L:(out.set i q)[i]? =some q:=by rw[aP A]
 rw[dh L,List.take_set_of_le (Nat.le_refl _),jU,<-hv];have hN:=j4 ha;have G:val (ls.drop i) / 2^b=q+4294967296*(val (ls.drop (i+1)) / 2^b):=by
  have e1:val (ls.drop i) / 2^b / 4294967296=val (ls.drop (i+1)) / 2^b:=by
   rw[Nat.div_div_eq_div_mul,bT,<-Nat.div_div_eq_div_mul];congr 1;omega
  have e2:val (ls.drop i) / 2^b % 4294967296=q:=by
   have N:∃z,val (ls.drop i)=t+2^b*(4294967296*z):=by
    cases F:ls[i+1]? with
    |some y=>
     have:=j4 F;refine⟨2^(32-b)*val (ls.drop (i+1+1)),?_⟩;have h4:2^b*(4294967296*(2^(32-b)*val (ls.drop (i+1+1))))=18446744073709551616*val (ls.drop (i+1+1)):=by
      rw[Nat.mul_left_comm,<-bg (2^b),<-Nat.pow_add,Nat.add_sub_cancel' hb,<-bg]
     rw[h4,hN,this,ht,List.getD,F];simp only[Option.getD_some]
     omega
    |none=>
     refine⟨0,?_⟩;have h5:ls.length<=i+1:=List.getElem?_eq_none_iff.1 F;rw[hN,List.drop_of_length_le h5,ht,List.getD,F];simp[val]
   obtain⟨z,hz⟩:=N;rw[hz,Nat.add_mul_div_left _ _ (bz b),Nat.add_mul_mod_self_left,hq]
  have:=Nat.div_add_mod (val (ls.drop i) / 2^b) 4294967296;rw[e1,e2]at this;omega
 rw[G,bV,bT 4294967296 (wt i),bg];omega
theorem aAa(X:Old S w)(h:dT w S v ls)(hl:ls.length<=1000000000000)(hb:b<32):
  eI PG F'.qU #[v,.int .u64 b] w (eO w fun v' V=>eE V (Nf w V) v' (val ls / 2^b)):=by
 obtain⟨x,rfl,rfl⟩:=h.la;refine ui (by simp) ?_
 refine⟨x.ls.length,x.ls.length,rfl,rfl,Nat.le_refl _,by omega,by omega,Nat×List Nat×World,fun z=>⟨[(0,sV x.a x.ls.length x.c),(1,.o (.v (.int .u64 b))),(5,.o (.s 0 0 x.ls.length x.ls.length)),(12,iZ x.ls.length),(13,iZ z.1)],
   [(0,.arr T.uint32 (E8 z.2.1))],1,[],z.2.2⟩,fun z=>x.ls.length-z.1,
  fun z=>z.1<=x.ls.length/\dw w.heap.size w z.2.2/\z.2.1.length=x.ls.length/\Lm z.2.1/\val (z.2.1.take z.1)+wt z.1*(val (x.ls.drop z.1) / 2^b)=val x.ls / 2^b,?_,?_⟩
 ·intro O J r;rw[tE]at r;exact⟨(0,List.replicate x.ls.length 0,J),⟨by simp,r.cU,by simp,Lm.replicate _,by simp[val,jc]⟩,Sub.gn [] r⟩
 ·rintro⟨i,out,w1⟩ ⟨A,I,Qn,Pe,hv⟩;dsimp only at A I Qn Pe hv ⊢;refine dQ.mk ?_ ?_<;>intro h
  ·have h:i<x.ls.length:=by simpa using h
   obtain⟨a,QK⟩:∃k,x.ls[i]? =some k:=⟨_,aA h⟩
   obtain⟨ad,PI,PK⟩:=x.load X I QK;have Qa:=x.lm.at QK;obtain⟨d,hd⟩:∃q,out[i]? =some q:=⟨_,aA (by omega)⟩
   refine⟨ad,PI,by omega,.int .u32 a,PK _ _ _,(a:Int),eu (by omega),((i+1:Nat):Int),wo,?_⟩;refine dQ.mk ?_ ?_<;>intro G
   ·have G:i+1<x.ls.length:=by
     have:((i+1:Nat):Int)<x.ls.length:=aK G;omega
    obtain⟨y,hy⟩:∃k,x.ls[i+1]? =some k:=⟨_,aA G⟩
    obtain⟨ad2,Pg,RJ⟩:=x.load X I hy;have hy32:=x.lm.at hy;have Ra:x.ls.getD (i+1) 0=y:=by simp[List.getD,hy]
    have VB:a ||| y*2^32=a+4294967296*y:=by
     rw[bT];exact EL (k:=32) Qa
    refine⟨((i+1:Nat):Int),wo,ad2,Pg,by omega,.int .u32 y,RJ _ _ _,(y:Int),eu (by omega),by decide,((y*2^32:Nat):Int),EK (k:=32) (by decide) (by omega),((a+4294967296*y:Nat):Int),by rw[MI (by omega) (by omega),VB],by omega,(((a+4294967296*y) / 2^b:Nat):Int),mI b (by omega),(((a+4294967296*y) / 2^b % 4294967296:Nat):Int),fT _,?_⟩;have Om:=DU (t:=a+4294967296*y) Qa QK hd (by omega) (by rw[Ra]) rfl hv;generalize hq:(a+4294967296*y) / 2^b % 4294967296=q at*
    have hq32:q<4294967296:=by rw[<-hq];exact cD _ (by decide)
    refine⟨by omega,by rw[gW];omega,E8 (out.set i q),jW out i _ (by omega) (by simp),((i+1:Nat):Int),wo,?_⟩;intro GT w3 E
    exact⟨(i+1,out.set i q,w3),⟨by dsimp only;omega,I.tr E.cU,by simp[Qn],Pe.set hq32,Om⟩,
     Sub.gn [] E,by dsimp only;omega⟩
   ·have G:¬i+1<x.ls.length:=by
     have:¬((i+1:Nat):Int)<x.ls.length:=aG G;omega
    have Ra:x.ls.getD (i+1) 0=0:=by simp[List.getD,List.getElem?_eq_none (show x.ls.length<=i+1 by omega)]
    refine⟨by omega,((a / 2^b:Nat):Int),mI b (by omega),((a / 2^b % 4294967296:Nat):Int),fT _,?_⟩;have Om:=DU (t:=a) Qa QK hd (by omega) (by rw[Ra];omega) rfl hv;generalize hq:a / 2^b % 4294967296=q at*
    have hq32:q<4294967296:=by rw[<-hq];exact cD _ (by decide)
    refine⟨by omega,by rw[gW];omega,E8 (out.set i q),jW out i _ (by omega) (by simp),((i+1:Nat):Int),wo,?_⟩;intro GT w3 E
    exact⟨(i+1,out.set i q,w3),⟨by dsimp only;omega,I.tr E.cU,by simp[Qn],Pe.set hq32,Om⟩,
     Sub.gn [] E,by dsimp only;omega⟩
  ·have RO:i=x.ls.length:=by
    have:¬i<x.ls.length:=by simpa using h
    omega
   subst RO;have S4:val out=val x.ls / 2^b:=by
    rw[List.drop_length,List.take_of_length_le (by omega)]at hv;simpa [val]using hv
   refine gM (If:=fun O _ v V=>dT V (fun g=>g=(O 0).g) v (eC out)) (H':=[]) 0 rfl (by simp) trivial rfl (fun O J r=>r.nn 0 _ rfl (by intros;simp) (by simp)) (fun O J r=>?_) ?_
   ·have hL:=r.oB (id:=0) rfl Pe (by omega);rw[Qn]at hL;exact fb (fun g Y=>by rw[Y];exact(r.low 0 _ rfl (r.nn 0 _ rfl (by intros;simp) (by simp))).2) hL
   rintro O J v V r U hb hL;replace I:=I.tr hb;have Og:=r.low 0 _ rfl (r.nn 0 _ rfl (by intros;simp) (by simp));generalize (O 0).g=g at*
   have hs:=U.size;intro GT w3 E;refine⟨_,rfl,I.tr E.cU,eC out,?_,(fK out).2.1,?_⟩
   ·refine(hL.cK fun k D=>?_).cN fun k D=>.inr ?_
    ·rw[D];exact E.qj.block g (by omega) (by simp)
    ·rw[D];have:=E.size;omega
   ·rw[(fK out).1,S4]
theorem IF{by_ rest x d:Nat}(F:ls[k]? =some x)(hd:out[k]? =some d)(ht:t=rest*4294967296+x)
  (hv:val (ls.drop (k+1))=by_*val (out.drop (k+1))+rest):val (ls.drop k)=by_*val ((out.set k (t / by_)).drop k)+t % by_:=by
 have A:=(aD.1 hd).1;have L:(out.set k (t / by_))[k]? =some (t / by_):=by rw[aP A]
 rw[j4 L,List.drop_set_of_lt (show k<k+1 by omega),j4 F,hv,bV,bV];have G:=Nat.div_add_mod t by_;rw[Nat.mul_left_comm by_];omega
theorem MJ(h:t<18446744073709551616):IntKind.u64.wrap ((t:Int).tdiv (b:Int))=((t / b:Nat):Int):=by
 have L:=Nat.div_le_self t b;rw[Int.tdiv_eq_ediv_of_nonneg (by omega),<-Int.natCast_ediv];exact eu (by omega)
theorem Ms(t b:Nat):(t:Int).tmod (b:Int)=((t % b:Nat):Int):=by
 rw[Int.tmod_eq_emod_of_nonneg (by omega),<-Int.natCast_emod]
theorem Nr(X:Old S w)(h:dT w S v ls)(hl:ls.length<=1000000000000)(hb:0<b)(Q5:b<4294967296):
  eI PG F'.pU #[v,.int .u32 b] w (eO w fun v' V=>∃q,v'= .tuple #[q,.int .u32 ((val ls % b:Nat):Int)]/\eE V (Nf w V) q (val ls / b)):=by
 obtain⟨x,rfl,rfl⟩:=h.la;refine tA (by simp) ?_
 refine⟨x.ls.length,x.ls.length,rfl,rfl,Nat.le_refl _,by omega,by omega,(x.ls.length:Int)-1,wo,Nat×Nat×List Nat×World,fun z=>⟨[(0,sV x.a x.ls.length x.c),(1,.o (.v (.int .u32 b))),(4,sV none 0 0),(5,.o (.v (.int .u32 0))),(6,.o (.s 0 0 x.ls.length x.ls.length)),(7,.o (.v (.int .u64 z.2.1))),(8,.o (.v (.int .i64 ((z.1:Int)-1))))],
   [(0,.arr T.uint32 (E8 z.2.2.1))],1,[],z.2.2.2⟩,fun z=>z.1,
  fun z=>z.1<=x.ls.length/\dw w.heap.size w z.2.2.2/\z.2.2.1.length=x.ls.length/\Lm z.2.2.1/\z.2.1<b/\val (x.ls.drop z.1)=b*val (z.2.2.1.drop z.1)+z.2.1,?_,?_⟩
 ·intro O J r;rw[tE]at r;exact⟨(x.ls.length,0,List.replicate x.ls.length 0,J),⟨by simp,r.cU,by simp,Lm.replicate _,by simpa using hb,by simp[val]⟩,Sub.gn [] r⟩
 ·rintro⟨k,rest,out,w1⟩ ⟨A,I,Qn,Pe,hr,hv⟩;dsimp only at A I Qn Pe hr hv ⊢;refine dQ.mk ?_ ?_<;>intro h
  ·have h:(k:Int)-1≥0:=aK h;obtain⟨k,rfl⟩:∃q,k=q+1:=⟨k-1,by omega⟩
   rw[show ((k+1:Nat):Int)-1=(k:Int) by omega];obtain⟨a,QK⟩:∃q,x.ls[k]? =some q:=⟨_,aA (by omega)⟩
   obtain⟨ad,PI,PK⟩:=x.load X I QK;have Qa:=x.lm.at QK;obtain⟨d,hd⟩:∃q,out[k]? =some q:=⟨_,aA (by omega)⟩
   refine⟨by decide,((rest*2^32:Nat):Int),EK (k:=32) (by decide) (by omega),ad,PI,by omega,.int .u32 a,PK _ _ _,(a:Int),eu (by omega),?_⟩;have VB:rest*2^32 ||| a=rest*4294967296+a:=by
    rw[Nat.or_comm,bT,EL (k:=32) Qa];omega
   refine⟨((rest*4294967296+a:Nat):Int),by rw[MI (by omega) (by omega),VB],?_⟩;generalize ht:rest*4294967296+a=t;have ht64:t<18446744073709551616:=by omega
   refine cR hτ dx [.x 0,.x 1,.x 2,.x 3,.x 4,.x 5,.x 6,.x 7,.x 8,.x 9,.x 10,.x 11,.x 12,.x 13] (by kernel_rfl) (by kernel_rfl) ?_;refine⟨(b:Int),eu (by omega),by omega,((t / b:Nat):Int),MJ ht64,?_⟩;have hq:t / b<4294967296:=by
    rw[Nat.div_lt_iff_lt_mul hb];have:=Nat.mul_le_mul_right 4294967296 hr;rw[Nat.succ_eq_add_one,Nat.add_mul]at this;omega
   have hm:t % b<b:=cD _ hb;have Om:=IF QK hd ht.symm hv;have hw32:IntKind.u32.wrap ((t / b:Nat):Int)=((t / b:Nat):Int):=by rw[fT,bN hq]
   have hrem:=Ms t b;generalize t / b=q at*
   generalize t % b=m at*
   refine⟨(q:Int),hw32,(b:Int),eu (by omega),by omega,(m:Int),hrem,by omega,by rw[gW];omega,E8 (out.set k q),jW out k _ (by omega) (by simp),(k:Int)-1,wo,?_⟩;intro GT w3 E
   exact⟨(k,m,out.set k q,w3),⟨by dsimp only;omega,I.tr E.cU,by simp[Qn],Pe.set hq,hm,Om⟩,
    Sub.gn [] E,by dsimp only;omega⟩
  ·have Ts:k=0:=by
    have:¬(k:Int)-1≥0:=aG h;omega
   subst Ts;rw[List.drop_zero,List.drop_zero]at hv;have hdm:val x.ls / b=val out/\val x.ls % b=rest:=by
    rw[hv];exact⟨by rw[Nat.mul_add_div hb,Nat.div_eq_of_lt hr,cF],by rw[Nat.mul_add_mod,bN hr]⟩
   rw[hdm.1,hdm.2];refine gM (If:=fun O _ v V=>dT V (fun g=>g=(O 0).g) v (eC out)) (H':=[]) 0 rfl (by simp) trivial rfl (fun O J r=>r.nn 0 _ rfl (by intros;simp) (by simp)) (fun O J r=>?_) ?_
   ·have hL:=r.oB (id:=0) rfl Pe (by omega);rw[Qn]at hL;exact fb (fun g Y=>by rw[Y];exact(r.low 0 _ rfl (r.nn 0 _ rfl (by intros;simp) (by simp))).2) hL
   rintro O J v V r U hb hL;replace I:=I.tr hb;have Og:=r.low 0 _ rfl (r.nn 0 _ rfl (by intros;simp) (by simp));generalize (O 0).g=g at*
   have hs:=U.size;refine⟨(rest:Int),by rw[fT,bN (by omega)],?_⟩;intro GT w3 E;refine⟨_,rfl,I.tr E.cU,v,rfl,eC out,?_,(fK out).2.1,(fK out).1⟩;refine(hL.cK fun k D=>?_).cN fun k D=>.inr ?_
   ·rw[D];exact E.qj.block g (by omega) (by simp)
   ·rw[D];have:=E.size;omega
end Go.Ex
