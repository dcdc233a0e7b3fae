/- Texts L1 to X10: lemmas, each with its conditions. -/
import Derived.KernelRfl
import Derived.Test.YtgkpbdkechfgmaaGreatProg
import Derived.Test.YtgkpbdkechfgmaaGreatP2
namespace Go.Ex
variable{a b ls:List Nat}{k:Nat}
def val:List Nat->Nat
 |[]=>0
 |x::r=>x+4294967296*val r
def Lm(ls:List Nat):Prop:=∀x∈ls,x<4294967296
def wt(k:Nat):Nat:=4294967296^k
theorem jM:wt 0=1:=rfl
theorem il(k:Nat):wt (k+1)=4294967296*wt k:=by rw[wt,Nat.pow_succ,bL];rfl
theorem CH(a b:Nat):wt (a+b)=wt a*wt b:=by rw[wt,Nat.pow_add];rfl
theorem uo(k:Nat):0<wt k:=Nat.pow_pos (by decide)
theorem ku(a b:List Nat):val (a++b)=val a+wt a.length*val b:=by
 induction a with
 |nil=>simp[val,jM]
 |cons x r ih=>
  rw[List.cons_append,val,val,ih,List.length_cons,il,bQ,bc];omega
theorem nY(h:Lm ls):val ls<wt ls.length:=by
 induction ls with
 |nil=>exact Nat.one_pos
 |cons x r ih=>
  have I:=h x (by simp);have X:=ih (fun y hy=>h y (by simp[hy]));rw[val,List.length_cons,il];have:4294967296*(val r+1)<=4294967296*wt r.length:=bP _ X;omega
theorem eX(ls:List Nat)(k:Nat)(h:k<=ls.length):val ls=val (ls.take k)+wt k*val (ls.drop k):=by
 have:=ku (ls.take k) (ls.drop k);rw[List.take_append_drop,aZ,Nat.min_eq_left h]at this;exact this
theorem dJ{x:Nat}(h:ls[k]? =some x):val (ls.take (k+1))=val (ls.take k)+wt k*x:=by
 have R:=(aD.1 h).1;rw[List.take_add_one,h,ku,aZ,Nat.min_eq_left (by omega)];simp[val]
theorem jE{x:Nat}(h:ls[k]? =some x):val (ls.drop k)=x+4294967296*val (ls.drop (k+1)):=by
 obtain⟨R,L⟩:=aD.1 h;rw[List.drop_eq_getElem_cons R,L,val]
theorem x8{o x:Nat}(h:ls[k]? =some o):val (ls.set k x)+wt k*o=val ls+wt k*x:=by
 obtain⟨R,ho⟩:=aD.1 h;have I:=eX ls k (by omega);have X:=eX (ls.set k x) k (by simp;omega);rw[List.take_set_of_le (Nat.le_refl _)]at X;rw[jE h,bQ]at I;have N:(ls.set k x)[k]? =some x:=by rw[aO R]
 rw[jE N,List.drop_set_of_lt (by omega),bQ]at X;omega
theorem mY(n:Nat):val (List.replicate n 0)=0:=by
 induction n with
 |zero=>rfl
 |succ n ih=>rw[List.replicate_succ,val,ih]
theorem Lm.set{x:Nat}(h:Lm ls)(L:x<4294967296):Lm (ls.set k x):=fun y hy=>by
 rcases a9 hy with I|rfl
 ·exact h y I
 ·exact L
theorem Lm.replicate(n:Nat):Lm (List.replicate n 0):=fun x L=>by rw[List.mem_replicate]at L;omega
theorem Lm.take(h:Lm ls)(k:Nat):Lm (ls.take k):=fun x L=>h x (bS L)
theorem Lm.drop(h:Lm ls)(k:Nat):Lm (ls.drop k):=fun x L=>h x (List.mem_of_mem_drop L)
theorem Lm.append(ha:Lm a)(hb:Lm b):Lm (a++b):=fun x L=>by
 rcases List.mem_append.1 L with h|h
 ·exact ha x h
 ·exact hb x h
theorem Lm.at(h:Lm ls){x:Nat}(L:ls[k]? =some x):x<4294967296:=h x (aE L)
def dO:List Nat->List Nat
 |[]=>[]
 |x::r=>match dO r with
  |[]=>if x=0 then []else [x]
  |y::t=>x::y::t
def Nz(ls:List Nat):Prop:=∀x,ls.getLast? =some x->x≠0
theorem kO(ls:List Nat):dO (ls++[0])=dO ls:=by
 induction ls with
 |nil=>rfl
 |cons x r ih=>rw[List.cons_append,dO,ih,dO]
theorem nZ(ls:List Nat){x:Nat}(L:x≠0):dO (ls++[x])=ls++[x]:=by
 induction ls with
 |nil=>simp[dO,L]
 |cons y r ih=>
  rw[List.cons_append,dO,ih]
  cases r<;>rfl
theorem sB(ls:List Nat):ls=[]\/∃a x,ls=a++[x]:=by
 rcases List.eq_nil_or_concat ls with h|⟨a,x,h⟩
 ·exact .inl h
 ·exact .inr ⟨a,x,by simpa using h⟩
theorem ef(ls:List Nat):val (dO ls)=val ls/\Nz (dO ls)/\∃k,k<=ls.length/\dO ls=ls.take k:=by
 have key:∀(n:Nat) (ls:List Nat),ls.length=n->val (dO ls)=val ls/\Nz (dO ls)/\∃k,k<=ls.length/\dO ls=ls.take k:=by
  intro n
  induction n with
  |zero=>intro ls h;have:ls=[]:=List.eq_nil_of_length_eq_zero h;subst this;exact⟨rfl,by simp[Nz,dO],0,Nat.le_refl _,rfl⟩
  |succ n ih=>
   intro ls h;rcases sB ls with rfl|⟨a,x,rfl⟩
   ·simp at h
   ·by_cases L:x=0
    ·subst L;rw[kO];obtain⟨I,X,k,N,h4⟩:=ih a (by simp at h;omega);refine⟨by rw[I,ku];simp[val],X,k,by simp;omega,?_⟩;rw[h4,List.take_append_of_le_length N]
    ·rw[nZ a L];refine⟨rfl,?_,_,Nat.le_refl _,by rw[bH]⟩;intro y hy;simp at hy;subst hy;exact L
 exact key _ ls rfl
theorem Dh(h:Nz ls):dO ls=ls:=by
 rcases sB ls with rfl|⟨a,x,rfl⟩
 ·rfl
 ·exact nZ a (h x (by simp))
theorem rN(h:Nz ls)(OS:ls≠[]):wt (ls.length-1)<=val ls:=by
 rcases sB ls with rfl|⟨a,x,rfl⟩
 ·exact absurd rfl OS
 ·have L:=h x (by simp);rw[ku];simp only[val,List.length_append,List.length_singleton,Nat.add_sub_cancel]
  have:wt a.length*1<=wt a.length*(x+4294967296*0):=bP _ (by omega);omega
theorem val_inj:∀{a b:List Nat},Lm a->Lm b->a.length=b.length->val a=val b->a=b
 |[],[],_,_,_,_=>rfl
 |x::r,y::s,ha,hb,hl,h=>by
  have I:=ha x (by simp);have X:=hb y (by simp);rw[val,val]at h;have N:x=y:=by omega
  have h4:val r=val s:=by omega
  rw[N,val_inj (fun z hz=>ha z (by simp[hz])) (fun z hz=>hb z (by simp[hz])) (by simpa using hl) h4]
 |[],_::_,_,_,h,_=>by simp at h
 |_::_,[],_,_,h,_=>by simp at h
theorem BI{a b:Nat}(h:a<=b):wt a<=wt b:=Nat.pow_le_pow_right (by decide) h
theorem Jc{a b:Nat}(h:a<b):wt a<wt b:=Nat.pow_lt_pow_right (by decide) h
theorem im(ha:Lm a)(hb:Nz b)(h:a.length<b.length):val a<val b:=by
 have I:=nY ha;have X:=rN hb (by intro e;rw[e]at h;simp at h);have:=BI (show a.length<=b.length-1 by omega);omega
def ln(n:Nat):Nat:=if n=0 then 0 else n.log2 / 32+1
theorem uq(k:Nat):wt k=2^(32*k):=by rw[wt,show(4294967296:Nat)=2^32 from rfl,<-Nat.pow_mul]
theorem gD{n k:Nat}:ln n<=k↔n<wt k:=by
 unfold ln;by_cases h:n=0
 ·rw[if_pos h,h];exact⟨fun _=>uo k,fun _=>aS _⟩
 ·rw[aI h,uq];constructor
  ·intro I;have:n.log2<32*k:=by omega
   exact(Nat.log2_lt h).1 this
  ·intro I;have:=(Nat.log2_lt h).2 I;omega
theorem kv(n:Nat):n<wt (ln n):=gD.1 (Nat.le_refl _)
theorem fI{a b:Nat}(h:a<=b):ln a<=ln b:=gD.2 (Nat.lt_of_le_of_lt h (kv b))
theorem NK(a b:Nat):ln (a+b)<=max (ln a) (ln b)+1:=by
 rw[gD,il];have I:=Nat.lt_of_lt_of_le (kv a) (BI (Nat.le_max_left (ln a) (ln b)));have X:=Nat.lt_of_lt_of_le (kv b) (BI (Nat.le_max_right (ln a) (ln b)));omega
theorem NL(a b:Nat):ln (a*b)<=ln a+ln b:=by
 rw[gD,CH];exact Nat.mul_lt_mul'' (kv a) (kv b)
theorem Lk:ln 0=0:=rfl
theorem eA(h:Lm ls)(hz:Nz ls):ls.length=ln (val ls):=by
 by_cases OS:ls=[]
 ·subst OS;rfl
 ·have I:=nY h;have X:=rN hz OS;have N:=gD.2 I;have h4:¬ln (val ls)<=ls.length-1:=fun hh=>by have:=gD.1 hh;omega
  omega
end Go.Ex
namespace Go.Ex
open Go Go.Sx
variable{f:(Nat->Sx.dL)->Value}{ls:List Nat}{g n:Nat}{p:Nat×Nat}{v:Value}{P:Value->World->Prop}{w1:World}
def Cv(S:Nat->Prop)(B:Nat)(iv:Iv)(g:Nat):Prop:=S g\/(B<=g/\∃lo D,(lo,D)∈iv/\lo<=g/\g<D)
def Nw(S:Nat->Prop)(w V:World)(g:Nat):Prop:=S g\/(w.heap.size<=g/\g<V.heap.size)
def Old(S:Nat->Prop)(w:World):Prop:=∀g,S g->g<w.heap.size
section
variable{S S':Nat->Prop}{H:Hp}{nx:Nat}{iv E:Iv}{B:Nat}{w J V:World}{O:Nat->dL}
theorem Cv.mono(h:Cv S B iv g)(k:∀p,p∈iv->p∈E):Cv S B E g:=by
 rcases h with h|⟨h0,lo,D,I,X⟩
 ·exact .inl h
 ·exact .inr ⟨h0,lo,D,k _ I,X⟩
theorem Cv.cons(h:Cv S B iv g):Cv S B (p::iv) g:=h.mono fun q hq=>by simp[hq]
theorem Rel.old(r:Rel H nx iv B w O J)(F:∀g,S g->g<B):Old (Cv S B iv) J:=by
 intro g h;rcases h with h|⟨_,lo,D,I,_,N⟩
 ·have:=F g h;have:=r.base;have:=r.size;omega
 ·have:=r.qW lo D I;have:=r.size;omega
theorem Rel.same(r:Rel H nx iv B w O J)(F:∀g,S g->g<B)(h:Cv S B iv g):J.heap[g]? =w.heap[g]? :=by
 rcases h with h|⟨_,lo,D,I,X,N⟩
 ·have:=F g h;exact r.ub g (by have:=r.base;omega) fun id b hb Z W=>by have:=(r.low id b hb Z).1;omega
 ·exact r.ub g (by have:=r.qW lo D I;omega) fun id b hb Z W=>r.ji lo D I id b hb Z ⟨by omega,by omega⟩
theorem Rel.not(r:Rel H nx iv B w O J)(F:∀g,S g->g<B)(h:Cv S B iv g):∀id b,cV H id=some b->(O id).nil=false->(O id).g≠g:=by
 rcases h with h|⟨_,lo,D,I,X,N⟩
 ·have:=F g h;exact fun id b hb Z W=>by have:=(r.low id b hb Z).1;omega
 ·exact fun id b hb Z W=>r.ji lo D I id b hb Z ⟨by omega,by omega⟩
theorem Nw.cv(h:Nw (Cv S B iv) J w1 g)(hB:B<=J.heap.size):Cv S B ((J.heap.size,w1.heap.size)::iv) g:=by
 rcases h with h|h
 ·exact h.cons
 ·exact .inr ⟨by omega,_,_,aG,h.1,h.2⟩
theorem Cv.nw{w0:World}(h:Cv S w0.heap.size iv g)(r:Rel H nx iv w0.heap.size w O J):Nw S w0 J g:=by
 rcases h with h|⟨h0,lo,D,I,_,N⟩
 ·exact .inl h
 ·exact .inr ⟨h0,by have:=r.qW lo D I;have:=r.size;omega⟩
structure cz(w:World)(S:Nat->Prop)(v:Value)(ls:List Nat):Prop where
 lm:Lm ls
 le:ls.length<=9223372036854775807
 sl:∃a c,v= .slice a ls.length c/\ls.length<=c/\∀(j:Nat) x,ls[j]? =some x->∃ad,a=some ad/\S ad.block/\w.cell? (ad.add j)=some (.int .u32 x)
theorem c9(ad:Addr)(j:Nat):(ad.add j).block=ad.block:=by
 unfold Addr.add;split<;>rfl
theorem cz.cC(h:cz w S v ls)(R:∀g,S g->V.heap[g]? =w.heap[g]?):cz V S v ls:=by
 obtain⟨a,c,I,TJ,X⟩:=h.sl;refine⟨h.lm,h.le,a,c,I,TJ,fun j x L=>?_⟩;obtain⟨ad,N,h4,h5⟩:=X j x L;exact⟨ad,N,h4,by rw[cJ (R _ (by rw[c9];exact h4))];exact h5⟩
theorem cz.cF(h:cz w S v ls)(R:∀g,S g->S' g):cz w S' v ls:=by
 obtain⟨a,c,I,TJ,X⟩:=h.sl;refine⟨h.lm,h.le,a,c,I,TJ,fun j x L=>?_⟩;obtain⟨ad,N,h4,h5⟩:=X j x L;exact⟨ad,N,R _ h4,h5⟩
theorem cz.rel(h:cz w (Cv S B iv) v ls)(r:Rel H nx iv B w O J)(F:∀g,S g->g<B):cz J (Cv S B iv) v ls:=h.cC fun _g G=>Rel.same r F G
theorem cz.nil(w:World)(S:Nat->Prop):cz w S (.slice none 0 0) []:=⟨by simp[Lm],by simp,none,0,rfl,Nat.le_refl _,by simp⟩
def dQ(w:World)(S:Nat->Prop)(v:Value)(n:Nat):Prop:=∃ls,cz w S v ls/\Nz ls/\val ls=n
theorem dQ.cC(h:dQ w S v n)(R:∀g,S g->V.heap[g]? =w.heap[g]?):dQ V S v n:=by
 obtain⟨ls,I,X,N⟩:=h;exact⟨ls,I.cC R,X,N⟩
theorem dQ.cF(h:dQ w S v n)(R:∀g,S g->S' g):dQ w S' v n:=by
 obtain⟨ls,I,X,N⟩:=h;exact⟨ls,I.cF R,X,N⟩
theorem dQ.nil(w:World)(S:Nat->Prop):dQ w S (.slice none 0 0) 0:=⟨[],cz.nil w S,by simp[Nz],rfl⟩
end
abbrev iZ(z:Int):SV:=.o (.v (.int .i64 z))
abbrev iN(n:Nat):SV:=.o (.v (.int .i64 (n:Int)))
abbrev sV(a:Option Addr)(n c:Nat):SV:=.o (.v (.slice a n c))
abbrev pP(i j:Nat):SV:=.o (.p i j)
theorem rtn{H:Hp}{nx:Nat}{iv:Iv}{w:World}(Y:dT w.heap.size w w1)(h:∀O J,Rel H nx iv w.heap.size w1 O J->P (f O) J):∀O J,Rel H nx iv w.heap.size w1 O J->eH w P (.returned (f O)) J:=fun O J r=>⟨_,rfl,Y.tr r.cL,h O J r⟩
abbrev FF:Nat->Prop:=fun _=>False
theorem bR(w:World):dT w.heap.size w w:=dT.refl
abbrev Nf(w V:World):Nat->Prop:=Nw (fun _=>False) w V
abbrev Cf(w:World):Iv->Nat->Prop:=Cv (fun _=>False) w.heap.size
section
variable{S:Nat->Prop}{H:Hp}{nx:Nat}{iv:Iv}{B i n:Nat}{w w1 J:World}{O:Nat->Sx.dL}{ad:Addr}{U:List Value}{x:Value}
theorem kS(Y:dT B w w1)(r:Rel H nx iv B w1 O J)(F:∀g,S g->g<B):∀g,S g->J.heap[g]? =w.heap[g]? :=fun g G=>(Y.tr r.cL).block g (F g G)
theorem oS(F:∀g,S g->g<B)(r:Rel H nx iv B w O J):∀g,S g->g<J.heap.size:=fun g G=>by have:=F g G;have:=r.base;have:=r.size;omega
theorem rdO(hl:∀(j:Nat) u,U[j]? =some u->S ad.block/\w.cell? ((ad.add (i*n)).add j)=some u)(Y:dT B w w1)(F:∀g,S g->g<B):∀O J,Rel H nx iv B w1 O J->∀(j:Nat) u,U[j]? =some u->J.cell? ((ad.add ((i:Int).toNat*n)).add j)=some u:=fun O J r j u hu=>by
 obtain⟨k1,k2⟩:=hl j u hu;rw[aF,cJ (w:=w) (V:=J) (by rw[c9,c9];exact(Y.tr r.cL).block _ (F _ k1))];exact k2
theorem rd1(hl:w.cell? (ad.add (i*n))=some x)(Y:dT B w w1)(hb:ad.block<B):∀O J,Rel H nx iv B w1 O J->J.cell? (ad.add ((i:Int).toNat*n))=some x:=fun O J r=>by
 rw[aF,cJ (w:=w) (V:=J) (by rw[c9];exact(Y.tr r.cL).block _ hb)];exact hl
end
end Go.Ex
namespace Go.Ex
open Go Go.Sx Go.Proofs
variable{args:Array Value}{FS:Ending->World->Prop}{ls:List Nat}{k n:Nat}{S:Nat->Prop}{O:Nat->Sx.dL}{v:Value}{w:World}
noncomputable abbrev PG:Program:=Tryz.prog
def slT(e:Nat):TI:={size:=1,bytes:=24,zero:=[.slice none 0 0],agg:=false,tag:=4,elem:=e}
def ON:List (Nat×TI):=[
 (3,{size:=1,bytes:=8,zero:=[.int .i64 0],agg:=false,tag:=1,ik:=.i64}),
 (4,{size:=1,bytes:=1,zero:=[.bool false],agg:=false,tag:=2}),
 (40,slT 48),
 (48,{size:=4,bytes:=64,zero:=[.bool false,.slice none 0 0,.bool false,.slice none 0 0],agg:=true,tag:=5,fields:=[(0,46),(2,46)]}),
 (37,slT 3),
 (32,{size:=1,bytes:=8,zero:=[.int .i64 0],agg:=false,tag:=1,ik:=.i64}),
 (26,{size:=3,bytes:=72,zero:=[.slice none 0 0,.slice none 0 0,.slice none 0 0],agg:=true,tag:=5,fields:=[(0,22),(1,23),(2,24)]}),
 (87,slT 40),
 (46,{size:=2,bytes:=32,zero:=[.bool false,.slice none 0 0],agg:=true,tag:=5,fields:=[(0,4),(1,44)]}),
 (155,slT 292),
 (30,slT 141),
 (209,slT 159),
 (292,{size:=1,bytes:=4,zero:=[.int .u32 0],agg:=false,tag:=1,ik:=.u32}),
 (159,{size:=4,bytes:=64,zero:=[.bool false,.slice none 0 0,.bool false,.slice none 0 0],agg:=true,tag:=5,fields:=[(0,157),(2,157)]}),
 (157,{size:=2,bytes:=32,zero:=[.bool false,.slice none 0 0],agg:=true,tag:=5,fields:=[(0,4),(1,155)]}),
 (206,slT 209),
 (291,{size:=1,bytes:=8,zero:=[.int .u64 0],agg:=false,tag:=1,ik:=.u64}),
 (24,slT 146),
 (168,{size:=2,bytes:=32,zero:=[.slice none 0 0,.int .i64 0],agg:=true,tag:=5,fields:=[(0,87),(1,3)]}),
 (23,slT 144),
 (141,{size:=4,bytes:=32,zero:=[.int .i64 0,.int .i64 0,.int .i64 0,.int .i64 0],agg:=true,tag:=5,fields:=[(0,3),(1,3),(2,3),(3,3)]}),
 (22,slT 195),
 (100,{size:=3,bytes:=56,zero:=[.int .i64 0,.slice none 0 0,.slice none 0 0],agg:=true,tag:=5,fields:=[(0,3),(1,37),(2,37)]}),
 (44,slT 292),
 (144,{size:=6,bytes:=80,zero:=[.int .i64 0,.int .i64 0,.bool false,.slice none 0 0,.bool false,.slice none 0 0],agg:=true,tag:=5,fields:=[(0,3),(1,3),(2,48)]}),
 (195,{size:=3,bytes:=24,zero:=[.int .i64 0,.int .i64 0,.int .i64 0],agg:=true,tag:=5,fields:=[(0,3),(1,3),(2,3)]}),
 (146,{size:=6,bytes:=80,zero:=[.int .i64 0,.int .i64 0,.bool false,.slice none 0 0,.bool false,.slice none 0 0],agg:=true,tag:=5,fields:=[(0,3),(1,3),(2,48)]}),
 (177,slT 37),
 (101,slT 117),
 (27,slT 30),
 (58,{size:=3,bytes:=56,zero:=[.int .i64 0,.slice none 0 0,.slice none 0 0],agg:=true,tag:=5,fields:=[(0,3),(1,40),(2,40)]}),
 (255,{size:=4,bytes:=80,zero:=[.slice none 0 0,.int .i64 0,.slice none 0 0,.slice none 0 0],agg:=true,tag:=5,fields:=[(0,168),(2,37),(3,37)]}),
 (117,{size:=4,bytes:=32,zero:=[.int .i64 0,.int .i64 0,.int .i64 0,.int .i64 0],agg:=true,tag:=5,fields:=[(0,3),(1,3),(2,3),(3,3)]}),
 (31,slT 52),
 (70,slT 193),
 (120,{size:=2,bytes:=16,zero:=[.int .i64 0,.int .i64 0],agg:=true,tag:=5,fields:=[(0,3),(1,3)]}),
 (102,slT 120),
 (191,{size:=8,bytes:=64,zero:=[.int .i64 0,.int .i64 0,.int .i64 0,.int .i64 0,.int .i64 0,.int .i64 0,.int .i64 0,.int .i64 0],agg:=true,tag:=5,fields:=[(0,184),(4,3),(5,3),(6,3),(7,3)]}),
 (225,{size:=5,bytes:=40,zero:=[.int .i64 0,.int .i64 0,.int .i64 0,.int .i64 0,.int .i64 0],agg:=true,tag:=5,fields:=[(0,3),(1,3),(2,3),(3,3),(4,3)]}),
 (229,slT 228),
 (267,{size:=3,bytes:=24,zero:=[.int .i64 0,.int .i64 0,.int .i64 0],agg:=true,tag:=6,CA:=3,elem:=3}),
 (97,{size:=3,bytes:=24,zero:=[.int .i64 0,.int .i64 0,.int .i64 0],agg:=true,tag:=5,fields:=[(0,3),(1,3),(2,3)]}),
 (228,{size:=2,bytes:=16,zero:=[.int .i64 0,.int .i64 0],agg:=true,tag:=5,fields:=[(0,3),(1,3)]}),
 (36,slT 4),
 (129,{size:=4,bytes:=80,zero:=[.int .i64 0,.slice none 0 0,.slice none 0 0,.slice none 0 0],agg:=true,tag:=5,fields:=[(0,3),(1,40),(2,87),(3,40)]}),
 (220,{size:=3,bytes:=40,zero:=[.int .i64 0,.int .i64 0,.slice none 0 0],agg:=true,tag:=5,fields:=[(0,3),(1,3),(2,37)]}),
 (293,{size:=1,bytes:=8,zero:=[.int .u64 0],agg:=false,tag:=1,ik:=.u64}),
 (68,slT 186),
 (69,slT 191),
 (184,{size:=4,bytes:=32,zero:=[.int .i64 0,.int .i64 0,.int .i64 0,.int .i64 0],agg:=true,tag:=6,CA:=4,elem:=3}),
 (193,{size:=2,bytes:=16,zero:=[.int .i64 0,.int .i64 0],agg:=true,tag:=5,fields:=[(0,3),(1,3)]}),
 (186,{size:=5,bytes:=40,zero:=[.int .i64 0,.int .i64 0,.int .i64 0,.int .i64 0,.int .i64 0],agg:=true,tag:=5,fields:=[(0,184),(4,3)]}),
 (249,{size:=3,bytes:=72,zero:=[.slice none 0 0,.slice none 0 0,.slice none 0 0],agg:=true,tag:=5,fields:=[(0,209),(1,209),(2,206)]}),
 (281,{size:=2,bytes:=16,zero:=[.int .i64 0,.int .i64 0],agg:=true,tag:=5,fields:=[(0,3),(1,3)]}),
 (52,{size:=10,bytes:=176,zero:=[.bool false,.slice none 0 0,.bool false,.slice none 0 0,.bool false,.slice none 0 0,.bool false,.slice none 0 0,.slice none 0 0,.slice none 0 0],agg:=true,tag:=5,fields:=[(0,50),(8,37),(9,37)]}),
 (279,{size:=1,bytes:=8,zero:=[.map none],agg:=false,tag:=0}),
 (72,{size:=4,bytes:=80,zero:=[.slice none 0 0,.int .i64 0,.slice none 0 0,.slice none 0 0],agg:=true,tag:=5,fields:=[(0,68),(1,3),(2,69),(3,70)]}),
 (104,{size:=2,bytes:=48,zero:=[.slice none 0 0,.slice none 0 0],agg:=true,tag:=5,fields:=[(0,37),(1,102)]}),
 (108,{size:=3,bytes:=24,zero:=[.int .i64 0,.int .i64 0,.int .i64 0],agg:=true,tag:=5,fields:=[(0,3),(1,3),(2,3)]}),
 (9,{size:=1,bytes:=16,zero:=[.string ⟨#[]⟩],agg:=false,tag:=3}),
 (50,{size:=8,bytes:=128,zero:=[.bool false,.slice none 0 0,.bool false,.slice none 0 0,.bool false,.slice none 0 0,.bool false,.slice none 0 0],agg:=true,tag:=5,fields:=[(0,48),(4,48)]}),
 (149,{size:=1,bytes:=8,zero:=[.pointer none],agg:=false,tag:=7}),
 (308,{size:=1,bytes:=8,zero:=[.nilFunc],agg:=false,tag:=0}),
 (296,{size:=1,bytes:=8,zero:=[.nilFunc],agg:=false,tag:=0}),
 (152,{size:=80,bytes:=640,zero:=[.int .i64 0,.int .i64 0,.int .i64 0,.int .i64 0,.int .i64 0,.int .i64 0,.int .i64 0,.int .i64 0,.int .i64 0,.int .i64 0,.int .i64 0,.int .i64 0,.int .i64 0,.int .i64 0,.int .i64 0,.int .i64 0,.int .i64 0,.int .i64 0,.int .i64 0,.int .i64 0,.int .i64 0,.int .i64 0,.int .i64 0,.int .i64 0,.int .i64 0,.int .i64 0,.int .i64 0,.int .i64 0,.int .i64 0,.int .i64 0,.int .i64 0,.int .i64 0,.int .i64 0,.int .i64 0,.int .i64 0,.int .i64 0,.int .i64 0,.int .i64 0,.int .i64 0,.int .i64 0,.int .i64 0,.int .i64 0,.int .i64 0,.int .i64 0,.int .i64 0,.int .i64 0,.int .i64 0,.int .i64 0,.int .i64 0,.int .i64 0,.int .i64 0,.int .i64 0,.int .i64 0,.int .i64 0,.int .i64 0,.int .i64 0,.int .i64 0,.int .i64 0,.int .i64 0,.int .i64 0,.int .i64 0,.int .i64 0,.int .i64 0,.int .i64 0,.int .i64 0,.int .i64 0,.int .i64 0,.int .i64 0,.int .i64 0,.int .i64 0,.int .i64 0,.int .i64 0,.int .i64 0,.int .i64 0,.int .i64 0,.int .i64 0,.int .i64 0,.int .i64 0,.int .i64 0,.int .i64 0],agg:=true,tag:=6,CA:=20,elem:=141}),
 (239,{size:=1,bytes:=8,zero:=[.nilFunc],agg:=false,tag:=0}),
 (242,{size:=1,bytes:=8,zero:=[.nilFunc],agg:=false,tag:=0}),
 (153,{size:=1,bytes:=8,zero:=[.pointer none],agg:=false,tag:=7}),
 (174,{size:=1,bytes:=8,zero:=[.nilFunc],agg:=false,tag:=0}),
 (213,{size:=1,bytes:=8,zero:=[.nilFunc],agg:=false,tag:=0}),
 (5,{size:=1,bytes:=1,zero:=[.int .u8 0],agg:=false,tag:=1,ik:=.u8}),
 (310,{size:=1,bytes:=8,zero:=[.nilFunc],agg:=false,tag:=0}),
 (315,{size:=1,bytes:=8,zero:=[.nilFunc],agg:=false,tag:=0}),
 (8,{size:=4,bytes:=24,zero:=[.int .i64 0,.int .i64 0,.bool false,.int .u8 0],agg:=true,tag:=5,fields:=[(0,2),(1,3),(2,4),(3,6)]}),
 (10,{size:=1,bytes:=16,zero:=[.string ⟨#[]⟩],agg:=false,tag:=3}),
 (11,{size:=1,bytes:=16,zero:=[.string ⟨#[]⟩],agg:=false,tag:=3}),
 (14,{size:=2,bytes:=24,zero:=[.string ⟨#[]⟩,.int .u64 0],agg:=true,tag:=5,fields:=[(0,9),(1,12)]}),
 (15,{size:=1,bytes:=8,zero:=[.pointer none],agg:=false,tag:=7}),
 (16,{size:=1,bytes:=8,zero:=[.pointer none],agg:=false,tag:=7}),
 (19,{size:=1,bytes:=8,zero:=[.pointer none],agg:=true,tag:=5,fields:=[(0,17)]}),
 (17,{size:=1,bytes:=8,zero:=[.pointer none],agg:=false,tag:=7}),
 (353,{size:=1,bytes:=1,zero:=[.int .u8 0],agg:=false,tag:=1,ik:=.u8}),
 (2,{size:=1,bytes:=8,zero:=[.int .i64 0],agg:=false,tag:=1,ik:=.i64}),
 (6,{size:=1,bytes:=1,zero:=[.int .u8 0],agg:=false,tag:=1,ik:=.u8}),
 (12,{size:=1,bytes:=8,zero:=[.int .u64 0],agg:=false,tag:=1,ik:=.u64})]
def τ:mn:=xU ON
theorem hτ:fT PG τ:=ND (l:=ON) (by kernel_rfl)
theorem dN:PG.follows .mixedOrders=true:=by rfl
noncomputable def bd (f:Func):Code:=match f.body with
 |some c=>c
 |none=>.skip
theorem cw{f:FuncId}{fn:Func}(hf:PG.funcs[f]? =some fn)(hb:fn.body=some (bd fn))(UZ:(fn.name== "runtime.NumGoroutine")=false)
  (Z:args.size<=fn.ntmps) (OV:codeOk fn.ntmps (bd fn)=true) (h:mV PG τ w.heap.size (bd fn) (iW 0 args.toList) [] 0 [] w (NJ τ w.heap.size fn.results.toList FS)):dx PG f args w FS:=
 ⟨Ho hf hb UZ,Df hτ hf hb Z OV h⟩
abbrev T.int:Nat:=3
abbrev T.bool:Nat:=4
abbrev T.string:Nat:=9
abbrev T.Frame:Nat:=26
abbrev T.Lint:Nat:=37
abbrev T.jC:Nat:=40
abbrev T.Int:Nat:=46
abbrev T.Rat:Nat:=48
abbrev T.BZ:Nat:=87
abbrev T.aAS:Nat:=141
abbrev T.Nx:Nat:=144
abbrev T.CS:Nat:=146
abbrev T.nat:Nat:=155
abbrev T.number:Nat:=157
abbrev T.dK:Nat:=159
abbrev T.di:Nat:=168
abbrev T.Node:Nat:=195
abbrev T.row:Nat:=209
abbrev T.solved:Nat:=249
abbrev T.dE:Nat:=255
abbrev T.KW:Nat:=267
abbrev T.wy:Nat:=279
abbrev T.CT:Nat:=281
abbrev T.uint32:Nat:=292
abbrev F'.top_TopLessIsStable:Nat:=6
abbrev F'.top_bears:Nat:=11
abbrev F'.top_slight:Nat:=12
abbrev F'.pU:Nat:=14
abbrev F'.pV:Nat:=16
abbrev F'.vE:Nat:=17
abbrev F'.o7:Nat:=23
abbrev F'.wJ:Nat:=30
abbrev F'.pW:Nat:=35
abbrev F'.sQ:Nat:=36
abbrev F'.wK:Nat:=37
abbrev F'.wL:Nat:=38
abbrev F'.mB:Nat:=39
abbrev F'.pX:Nat:=40
abbrev F'.wM:Nat:=49
abbrev F'.wN:Nat:=51
abbrev F'.vF:Nat:=58
abbrev F'.ki:Nat:=61
abbrev F'.B1:Nat:=66
abbrev F'.top_bracket:Nat:=68
abbrev F'.zI:Nat:=69
abbrev F'.rP:Nat:=71
abbrev F'.pY:Nat:=72
abbrev F'.pZ:Nat:=73
abbrev F'.vG:Nat:=74
abbrev F'.p8:Nat:=75
abbrev F'.lG:Nat:=76
abbrev F'.lH:Nat:=77
abbrev F'.wO:Nat:=78
abbrev F'.lI:Nat:=79
abbrev F'.o8:Nat:=85
abbrev F'.jD:Nat:=86
abbrev F'.p9:Nat:=87
abbrev F'.gJ:Nat:=89
abbrev F'.wP:Nat:=90
abbrev F'.tV:Nat:=91
abbrev F'.wQ:Nat:=92
abbrev F'.nB:Nat:=93
abbrev F'.rQ:Nat:=104
abbrev F'.tW:Nat:=108
abbrev F'.tX:Nat:=111
abbrev F'.tY:Nat:=112
abbrev F'.B2:Nat:=113
abbrev F'.sR:Nat:=114
abbrev F'.EV:Nat:=115
abbrev F'.zJ:Nat:=116
abbrev F'.wR:Nat:=117
abbrev F'.kT:Nat:=118
abbrev F'.mD:Nat:=119
abbrev F'.mE:Nat:=120
abbrev F'.mF:Nat:=121
abbrev F'.tZ:Nat:=122
abbrev F'.eM:Nat:=123
abbrev F'.ta:Nat:=124
abbrev F'.ga:Nat:=125
abbrev F'.kU:Nat:=126
abbrev F'.wS:Nat:=139
abbrev F'.kI:Nat:=152
abbrev F'.zK:Nat:=157
abbrev F'.ic:Nat:=158
abbrev F'.tc:Nat:=159
abbrev F'.pc:Nat:=160
abbrev F'.wT:Nat:=164
abbrev F'.wU:Nat:=165
abbrev F'.td:Nat:=166
abbrev F'.zL:Nat:=167
abbrev F'.mc:Nat:=168
abbrev F'.wV:Nat:=169
abbrev F'.kV:Nat:=170
abbrev F'.mG:Nat:=171
abbrev F'.zM:Nat:=172
abbrev F'.mH:Nat:=173
abbrev F'.lJ:Nat:=174
abbrev F'.nC:Nat:=175
abbrev F'.pe:Nat:=178
abbrev F'.rR:Nat:=179
abbrev F'.vH:Nat:=180
abbrev F'.fN:Nat:=187
abbrev F'.wW:Nat:=188
abbrev F'.B3:Nat:=190
abbrev F'.wX:Nat:=191
abbrev F'.te:Nat:=192
abbrev F'.oC:Nat:=193
abbrev F'.jz:Nat:=194
abbrev F'.lK:Nat:=195
abbrev F'.tf:Nat:=196
abbrev F'.nD:Nat:=197
abbrev F'.mI:Nat:=198
abbrev F'.mJ:Nat:=199
abbrev F'.eR:Nat:=200
abbrev F'.lL:Nat:=201
abbrev F'.mK:Nat:=202
abbrev F'.rS:Nat:=203
abbrev F'.th:Nat:=204
abbrev F'.eU:Nat:=205
abbrev F'.fC:Nat:=206
abbrev F'.B4:Nat:=207
abbrev F'.me:Nat:=208
abbrev F'.mL:Nat:=209
abbrev F'.kJ:Nat:=210
abbrev F'.oD:Nat:=232
abbrev F'.B5:Nat:=233
abbrev F'.mf:Nat:=234
abbrev F'.vI:Nat:=235
abbrev F'.mM:Nat:=236
abbrev F'.o9:Nat:=237
abbrev F'.fb:Nat:=239
abbrev F'.EW:Nat:=240
abbrev F'.zN:Nat:=241
abbrev F'.tj:Nat:=242
abbrev F'.zO:Nat:=243
abbrev F'.rT:Nat:=244
abbrev F'.tm:Nat:=245
abbrev F'.tn:Nat:=246
abbrev F'.rU:Nat:=247
abbrev F'.oa:Nat:=248
abbrev F'.kW:Nat:=249
abbrev F'.mO:Nat:=250
abbrev F'.oc:Nat:=251
abbrev F'.pf:Nat:=252
abbrev F'.ff:Nat:=253
abbrev F'.pg:Nat:=260
abbrev F'.od:Nat:=261
abbrev F'.zP:Nat:=262
abbrev F'.ph:Nat:=263
abbrev F'.zQ:Nat:=266
abbrev F'.zR:Nat:=267
abbrev Ent(g:Nat)(f:Func):Prop:=∀{args:Array Value} {w:World} {FS:Ending->World->Prop},args.size<=f.ntmps->mV PG τ w.heap.size (bd f) (iW 0 args.toList) [] 0 [] w (NJ τ w.heap.size f.results.toList FS)->dx PG g args w FS
theorem oE:Ent F'.top_TopLessIsStable Tryz.f6:=fun Z h=>cw Tryz.func6 (by rfl) (by rfl) Z (by rfl) h
theorem CU:Ent F'.top_bears Tryz.f11:=fun Z h=>cw Tryz.func11 (by rfl) (by rfl) Z (by rfl) h
theorem AX:Ent F'.top_slight Tryz.f12:=fun Z h=>cw Tryz.func12 (by rfl) (by rfl) Z (by rfl) h
theorem tp:Ent F'.pU Tryz.f14:=fun Z h=>cw Tryz.func14 (by rfl) (by rfl) Z (by rfl) h
theorem tq:Ent F'.pV Tryz.f16:=fun Z h=>cw Tryz.func16 (by rfl) (by rfl) Z (by rfl) h
theorem CV:Ent F'.vE Tryz.f17:=fun Z h=>cw Tryz.func17 (by rfl) (by rfl) Z (by rfl) h
theorem sS:Ent F'.o7 Tryz.f23:=fun Z h=>cw Tryz.func23 (by rfl) (by rfl) Z (by rfl) h
theorem zS:Ent F'.wJ Tryz.f30:=fun Z h=>cw Tryz.func30 (by rfl) (by rfl) Z (by rfl) h
theorem tt:Ent F'.pW Tryz.f35:=fun Z h=>cw Tryz.func35 (by rfl) (by rfl) Z (by rfl) h
theorem AY:Ent F'.sQ Tryz.f36:=fun Z h=>cw Tryz.func36 (by rfl) (by rfl) Z (by rfl) h
theorem zT:Ent F'.wK Tryz.f37:=fun Z h=>cw Tryz.func37 (by rfl) (by rfl) Z (by rfl) h
theorem zU:Ent F'.wL Tryz.f38:=fun Z h=>cw Tryz.func38 (by rfl) (by rfl) Z (by rfl) h
theorem pj:Ent F'.mB Tryz.f39:=fun Z h=>cw Tryz.func39 (by rfl) (by rfl) Z (by rfl) h
theorem tu:Ent F'.pX Tryz.f40:=fun Z h=>cw Tryz.func40 (by rfl) (by rfl) Z (by rfl) h
theorem zV:Ent F'.wM Tryz.f49:=fun Z h=>cw Tryz.func49 (by rfl) (by rfl) Z (by rfl) h
theorem zW:Ent F'.wN Tryz.f51:=fun Z h=>cw Tryz.func51 (by rfl) (by rfl) Z (by rfl) h
theorem CW:Ent F'.vF Tryz.f58:=fun Z h=>cw Tryz.func58 (by rfl) (by rfl) Z (by rfl) h
theorem wz:Ent F'.ki Tryz.f61:=fun Z h=>cw Tryz.func61 (by rfl) (by rfl) Z (by rfl) h
theorem CX:Ent F'.B1 Tryz.f66:=fun Z h=>cw Tryz.func66 (by rfl) (by rfl) Z (by rfl) h
theorem zX:Ent F'.top_bracket Tryz.f68:=fun Z h=>cw Tryz.func68 (by rfl) (by rfl) Z (by rfl) h
theorem AZ:Ent F'.zI Tryz.f69:=fun Z h=>cw Tryz.func69 (by rfl) (by rfl) Z (by rfl) h
theorem vJ:Ent F'.rP Tryz.f71:=fun Z h=>cw Tryz.func71 (by rfl) (by rfl) Z (by rfl) h
theorem tv:Ent F'.pY Tryz.f72:=fun Z h=>cw Tryz.func72 (by rfl) (by rfl) Z (by rfl) h
theorem tw:Ent F'.pZ Tryz.f73:=fun Z h=>cw Tryz.func73 (by rfl) (by rfl) Z (by rfl) h
theorem CY:Ent F'.vG Tryz.f74:=fun Z h=>cw Tryz.func74 (by rfl) (by rfl) Z (by rfl) h
theorem tx:Ent F'.p8 Tryz.f75:=fun Z h=>cw Tryz.func75 (by rfl) (by rfl) Z (by rfl) h
theorem oh:Ent F'.lG Tryz.f76:=fun Z h=>cw Tryz.func76 (by rfl) (by rfl) Z (by rfl) h
theorem om:Ent F'.lH Tryz.f77:=fun Z h=>cw Tryz.func77 (by rfl) (by rfl) Z (by rfl) h
theorem zY:Ent F'.wO Tryz.f78:=fun Z h=>cw Tryz.func78 (by rfl) (by rfl) Z (by rfl) h
theorem oo:Ent F'.lI Tryz.f79:=fun Z h=>cw Tryz.func79 (by rfl) (by rfl) Z (by rfl) h
theorem sT:Ent F'.o8 Tryz.f85:=fun Z h=>cw Tryz.func85 (by rfl) (by rfl) Z (by rfl) h
theorem oF:Ent F'.jD Tryz.f86:=fun Z h=>cw Tryz.func86 (by rfl) (by rfl) Z (by rfl) h
theorem tz:Ent F'.p9 Tryz.f87:=fun Z h=>cw Tryz.func87 (by rfl) (by rfl) Z (by rfl) h
theorem jZ:Ent F'.gJ Tryz.f89:=fun Z h=>cw Tryz.func89 (by rfl) (by rfl) Z (by rfl) h
theorem zZ:Ent F'.wP Tryz.f90:=fun Z h=>cw Tryz.func90 (by rfl) (by rfl) Z (by rfl) h
theorem xA:Ent F'.tV Tryz.f91:=fun Z h=>cw Tryz.func91 (by rfl) (by rfl) Z (by rfl) h
theorem z3:Ent F'.wQ Tryz.f92:=fun Z h=>cw Tryz.func92 (by rfl) (by rfl) Z (by rfl) h
theorem rG:Ent F'.nB Tryz.f93:=fun Z h=>cw Tryz.func93 (by rfl) (by rfl) Z (by rfl) h
theorem vK:Ent F'.rQ Tryz.f104:=fun Z h=>cw Tryz.func104 (by rfl) (by rfl) Z (by rfl) h
theorem xB:Ent F'.tW Tryz.f108:=fun Z h=>cw Tryz.func108 (by rfl) (by rfl) Z (by rfl) h
theorem xC:Ent F'.tX Tryz.f111:=fun Z h=>cw Tryz.func111 (by rfl) (by rfl) Z (by rfl) h
theorem xD:Ent F'.tY Tryz.f112:=fun Z h=>cw Tryz.func112 (by rfl) (by rfl) Z (by rfl) h
theorem CZ:Ent F'.B2 Tryz.f113:=fun Z h=>cw Tryz.func113 (by rfl) (by rfl) Z (by rfl) h
theorem rV:Ent F'.sR Tryz.f114:=fun Z h=>cw Tryz.func114 (by rfl) (by rfl) Z (by rfl) h
theorem EX:Ent F'.EV Tryz.f115:=fun Z h=>cw Tryz.func115 (by rfl) (by rfl) Z (by rfl) h
theorem Aa:Ent F'.zJ Tryz.f116:=fun Z h=>cw Tryz.func116 (by rfl) (by rfl) Z (by rfl) h
theorem z4:Ent F'.wR Tryz.f117:=fun Z h=>cw Tryz.func117 (by rfl) (by rfl) Z (by rfl) h
theorem oG:Ent F'.kT Tryz.f118:=fun Z h=>cw Tryz.func118 (by rfl) (by rfl) Z (by rfl) h
theorem pn:Ent F'.mD Tryz.f119:=fun Z h=>cw Tryz.func119 (by rfl) (by rfl) Z (by rfl) h
theorem po:Ent F'.mE Tryz.f120:=fun Z h=>cw Tryz.func120 (by rfl) (by rfl) Z (by rfl) h
theorem pq:Ent F'.mF Tryz.f121:=fun Z h=>cw Tryz.func121 (by rfl) (by rfl) Z (by rfl) h
theorem xE:Ent F'.tZ Tryz.f122:=fun Z h=>cw Tryz.func122 (by rfl) (by rfl) Z (by rfl) h
theorem fc:Ent F'.eM Tryz.f123:=fun Z h=>cw Tryz.func123 (by rfl) (by rfl) Z (by rfl) h
theorem xF:Ent F'.ta Tryz.f124:=fun Z h=>cw Tryz.func124 (by rfl) (by rfl) Z (by rfl) h
theorem rH:Ent F'.ga Tryz.f125:=fun Z h=>cw Tryz.func125 (by rfl) (by rfl) Z (by rfl) h
theorem oH:Ent F'.kU Tryz.f126:=fun Z h=>cw Tryz.func126 (by rfl) (by rfl) Z (by rfl) h
theorem z5:Ent F'.wS Tryz.f139:=fun Z h=>cw Tryz.func139 (by rfl) (by rfl) Z (by rfl) h
theorem nE:Ent F'.kI Tryz.f152:=fun Z h=>cw Tryz.func152 (by rfl) (by rfl) Z (by rfl) h
theorem Ab:Ent F'.zK Tryz.f157:=fun Z h=>cw Tryz.func157 (by rfl) (by rfl) Z (by rfl) h
theorem j0:Ent F'.ic Tryz.f158:=fun Z h=>cw Tryz.func158 (by rfl) (by rfl) Z (by rfl) h
theorem xG:Ent F'.tc Tryz.f159:=fun Z h=>cw Tryz.func159 (by rfl) (by rfl) Z (by rfl) h
theorem uA:Ent F'.pc Tryz.f160:=fun Z h=>cw Tryz.func160 (by rfl) (by rfl) Z (by rfl) h
theorem z6:Ent F'.wT Tryz.f164:=fun Z h=>cw Tryz.func164 (by rfl) (by rfl) Z (by rfl) h
theorem z7:Ent F'.wU Tryz.f165:=fun Z h=>cw Tryz.func165 (by rfl) (by rfl) Z (by rfl) h
theorem xH:Ent F'.td Tryz.f166:=fun Z h=>cw Tryz.func166 (by rfl) (by rfl) Z (by rfl) h
theorem Ac:Ent F'.zL Tryz.f167:=fun Z h=>cw Tryz.func167 (by rfl) (by rfl) Z (by rfl) h
theorem vL:Ent F'.mc Tryz.f168:=fun Z h=>cw Tryz.func168 (by rfl) (by rfl) Z (by rfl) h
theorem z8:Ent F'.wV Tryz.f169:=fun Z h=>cw Tryz.func169 (by rfl) (by rfl) Z (by rfl) h
theorem oI:Ent F'.kV Tryz.f170:=fun Z h=>cw Tryz.func170 (by rfl) (by rfl) Z (by rfl) h
theorem pr:Ent F'.mG Tryz.f171:=fun Z h=>cw Tryz.func171 (by rfl) (by rfl) Z (by rfl) h
theorem EY:Ent F'.zM Tryz.f172:=fun Z h=>cw Tryz.func172 (by rfl) (by rfl) Z (by rfl) h
theorem pt:Ent F'.mH Tryz.f173:=fun Z h=>cw Tryz.func173 (by rfl) (by rfl) Z (by rfl) h
theorem oq:Ent F'.lJ Tryz.f174:=fun Z h=>cw Tryz.func174 (by rfl) (by rfl) Z (by rfl) h
theorem rI:Ent F'.nC Tryz.f175:=fun Z h=>cw Tryz.func175 (by rfl) (by rfl) Z (by rfl) h
theorem uB:Ent F'.pe Tryz.f178:=fun Z h=>cw Tryz.func178 (by rfl) (by rfl) Z (by rfl) h
theorem vM:Ent F'.rR Tryz.f179:=fun Z h=>cw Tryz.func179 (by rfl) (by rfl) Z (by rfl) h
theorem Ca:Ent F'.vH Tryz.f180:=fun Z h=>cw Tryz.func180 (by rfl) (by rfl) Z (by rfl) h
theorem iB:Ent F'.fN Tryz.f187:=fun Z h=>cw Tryz.func187 (by rfl) (by rfl) Z (by rfl) h
theorem zc:Ent F'.wW Tryz.f188:=fun Z h=>cw Tryz.func188 (by rfl) (by rfl) Z (by rfl) h
theorem Cb:Ent F'.B3 Tryz.f190:=fun Z h=>cw Tryz.func190 (by rfl) (by rfl) Z (by rfl) h
theorem zd:Ent F'.wX Tryz.f191:=fun Z h=>cw Tryz.func191 (by rfl) (by rfl) Z (by rfl) h
theorem xI:Ent F'.te Tryz.f192:=fun Z h=>cw Tryz.func192 (by rfl) (by rfl) Z (by rfl) h
theorem xJ:Ent F'.oC Tryz.f193:=fun Z h=>cw Tryz.func193 (by rfl) (by rfl) Z (by rfl) h
theorem vN:Ent F'.jz Tryz.f194:=fun Z h=>cw Tryz.func194 (by rfl) (by rfl) Z (by rfl) h
theorem ot:Ent F'.lK Tryz.f195:=fun Z h=>cw Tryz.func195 (by rfl) (by rfl) Z (by rfl) h
theorem xK:Ent F'.tf Tryz.f196:=fun Z h=>cw Tryz.func196 (by rfl) (by rfl) Z (by rfl) h
theorem rJ:Ent F'.nD Tryz.f197:=fun Z h=>cw Tryz.func197 (by rfl) (by rfl) Z (by rfl) h
theorem pw:Ent F'.mI Tryz.f198:=fun Z h=>cw Tryz.func198 (by rfl) (by rfl) Z (by rfl) h
theorem pz:Ent F'.mJ Tryz.f199:=fun Z h=>cw Tryz.func199 (by rfl) (by rfl) Z (by rfl) h
theorem oJ:Ent F'.eR Tryz.f200:=fun Z h=>cw Tryz.func200 (by rfl) (by rfl) Z (by rfl) h
theorem ou:Ent F'.lL Tryz.f201:=fun Z h=>cw Tryz.func201 (by rfl) (by rfl) Z (by rfl) h
theorem qA:Ent F'.mK Tryz.f202:=fun Z h=>cw Tryz.func202 (by rfl) (by rfl) Z (by rfl) h
theorem vO:Ent F'.rS Tryz.f203:=fun Z h=>cw Tryz.func203 (by rfl) (by rfl) Z (by rfl) h
theorem xL:Ent F'.th Tryz.f204:=fun Z h=>cw Tryz.func204 (by rfl) (by rfl) Z (by rfl) h
theorem fy:Ent F'.eU Tryz.f205:=fun Z h=>cw Tryz.func205 (by rfl) (by rfl) Z (by rfl) h
theorem gS:Ent F'.fC Tryz.f206:=fun Z h=>cw Tryz.func206 (by rfl) (by rfl) Z (by rfl) h
theorem Cc:Ent F'.B4 Tryz.f207:=fun Z h=>cw Tryz.func207 (by rfl) (by rfl) Z (by rfl) h
theorem vP:Ent F'.me Tryz.f208:=fun Z h=>cw Tryz.func208 (by rfl) (by rfl) Z (by rfl) h
theorem qB:Ent F'.mL Tryz.f209:=fun Z h=>cw Tryz.func209 (by rfl) (by rfl) Z (by rfl) h
theorem nF:Ent F'.kJ Tryz.f210:=fun Z h=>cw Tryz.func210 (by rfl) (by rfl) Z (by rfl) h
theorem xM:Ent F'.oD Tryz.f232:=fun Z h=>cw Tryz.func232 (by rfl) (by rfl) Z (by rfl) h
theorem Cd:Ent F'.B5 Tryz.f233:=fun Z h=>cw Tryz.func233 (by rfl) (by rfl) Z (by rfl) h
theorem vQ:Ent F'.mf Tryz.f234:=fun Z h=>cw Tryz.func234 (by rfl) (by rfl) Z (by rfl) h
theorem Ce:Ent F'.vI Tryz.f235:=fun Z h=>cw Tryz.func235 (by rfl) (by rfl) Z (by rfl) h
theorem qC:Ent F'.mM Tryz.f236:=fun Z h=>cw Tryz.func236 (by rfl) (by rfl) Z (by rfl) h
theorem sU:Ent F'.o9 Tryz.f237:=fun Z h=>cw Tryz.func237 (by rfl) (by rfl) Z (by rfl) h
theorem iT:Ent F'.fb Tryz.f239:=fun Z h=>cw Tryz.func239 (by rfl) (by rfl) Z (by rfl) h
theorem EZ:Ent F'.EW Tryz.f240:=fun Z h=>cw Tryz.func240 (by rfl) (by rfl) Z (by rfl) h
theorem Ad:Ent F'.zN Tryz.f241:=fun Z h=>cw Tryz.func241 (by rfl) (by rfl) Z (by rfl) h
theorem xN:Ent F'.tj Tryz.f242:=fun Z h=>cw Tryz.func242 (by rfl) (by rfl) Z (by rfl) h
theorem Ae:Ent F'.zO Tryz.f243:=fun Z h=>cw Tryz.func243 (by rfl) (by rfl) Z (by rfl) h
theorem vR:Ent F'.rT Tryz.f244:=fun Z h=>cw Tryz.func244 (by rfl) (by rfl) Z (by rfl) h
theorem xO:Ent F'.tm Tryz.f245:=fun Z h=>cw Tryz.func245 (by rfl) (by rfl) Z (by rfl) h
theorem xP:Ent F'.tn Tryz.f246:=fun Z h=>cw Tryz.func246 (by rfl) (by rfl) Z (by rfl) h
theorem vS:Ent F'.rU Tryz.f247:=fun Z h=>cw Tryz.func247 (by rfl) (by rfl) Z (by rfl) h
theorem sW:Ent F'.oa Tryz.f248:=fun Z h=>cw Tryz.func248 (by rfl) (by rfl) Z (by rfl) h
theorem oK:Ent F'.kW Tryz.f249:=fun Z h=>cw Tryz.func249 (by rfl) (by rfl) Z (by rfl) h
theorem qD:Ent F'.mO Tryz.f250:=fun Z h=>cw Tryz.func250 (by rfl) (by rfl) Z (by rfl) h
theorem sX:Ent F'.oc Tryz.f251:=fun Z h=>cw Tryz.func251 (by rfl) (by rfl) Z (by rfl) h
theorem uC:Ent F'.pf Tryz.f252:=fun Z h=>cw Tryz.func252 (by rfl) (by rfl) Z (by rfl) h
theorem ie:Ent F'.ff Tryz.f253:=fun Z h=>cw Tryz.func253 (by rfl) (by rfl) Z (by rfl) h
theorem uD:Ent F'.pg Tryz.f260:=fun Z h=>cw Tryz.func260 (by rfl) (by rfl) Z (by rfl) h
theorem sY:Ent F'.od Tryz.f261:=fun Z h=>cw Tryz.func261 (by rfl) (by rfl) Z (by rfl) h
theorem Af:Ent F'.zP Tryz.f262:=fun Z h=>cw Tryz.func262 (by rfl) (by rfl) Z (by rfl) h
theorem uE:Ent F'.ph Tryz.f263:=fun Z h=>cw Tryz.func263 (by rfl) (by rfl) Z (by rfl) h
theorem Ag:Ent F'.zQ Tryz.f266:=fun Z h=>cw Tryz.func266 (by rfl) (by rfl) Z (by rfl) h
theorem Ah:Ent F'.zR Tryz.f267:=fun Z h=>cw Tryz.func267 (by rfl) (by rfl) Z (by rfl) h
theorem jl{H:Hp}{nx:Nat}{iv:Iv}{w1 J:World}(F:Old S w)(Y:dT w.heap.size w w1)(r:Rel H nx iv w.heap.size w1 O J){ad:Addr}{j:Nat}{x:Value}(hs:S ad.block)(h:w.cell? (ad.add j)=some x):J.cell? (ad.add j)=some x:=by
 rw[(Y.tr r.cL).cell (by rw[c9];exact F _ hs)];exact h
theorem Ea(a:Option Addr)(c:Nat):(if (c:Int)=0 then a else a.map fun x=>x.add (Int.toNat 0*1))=a:=by
 split
 ·rfl
 ·cases a<;>rfl
theorem xQ(h:ls[k]? =some 0):dO (ls.take (k+1))=dO (ls.take k):=by
 rw[List.take_add_one,h];exact kO _
theorem Ai{x:Nat}(h:ls[k]? =some x)(L:x≠0):dO (ls.take (k+1))=ls.take (k+1):=by
 rw[List.take_add_one,h];exact nZ _ L
theorem fM(F:Old S w)(h:cz w S v ls):dx PG F'.mI #[v] w (eH w fun v' V=>cz V S v' (dO ls)):=by
 obtain⟨a,c,rfl,TJ,hc⟩:=h.sl;have hle:=h.le;have PO:=h.lm;refine pw (by simp) ?_
 refine⟨Nat×World,fun x=>⟨[(0,sV a x.1 c)],[],0,[],x.2⟩,fun x=>x.1,
  fun x=>x.1<=ls.length/\dT w.heap.size w x.2/\dO ls=dO (ls.take x.1),?_,?_⟩
 ·intro O J r;exact⟨(ls.length,J),⟨Nat.le_refl _,r.cL,by simp⟩,Sub.reset r ⟨rfl,trivial⟩ ⟨trivial,trivial⟩⟩
 ·rintro⟨k,w1⟩ ⟨R,Y,hF⟩;dsimp only at R Y hF ⊢;have Wa:dT w.heap.size w w1->dO ls=ls.take k->∀O V,Rel [] 0 [] w.heap.size w1 O V->cz V S (.slice a k c) (dO ls):=fun Y W O V r=>by
   rw[W];refine⟨PO.take k,by simp;omega,a,c,by simp;omega,by simp;omega,fun j x L=>?_⟩;have Rz:j<k:=by
    have:=(aD.1 L).1;simp at this;omega
   rw[bO Rz]at L;obtain⟨ad,I,X,N⟩:=hc j x L;exact⟨ad,I,X,jl F Y r X N⟩
  refine dB.mk ?_ ?_<;>intro h
  ·have h:0<k:=by simpa using h
   obtain⟨k,rfl⟩:∃q,k=q+1:=⟨k-1,by omega⟩
   obtain⟨x,L⟩:∃x,ls[k]? =some x:=⟨_,aB (by omega)⟩
   obtain⟨ad,ha,hs,Ro⟩:=hc k x L;refine⟨(k:Int),wo,ad,ha,by omega,.int .u32 x,fun O J r=>by rw[aF,aY];exact jl F Y r hs Ro,?_⟩;refine dB.mk ?_ ?_<;>intro X
   ·have X:x=0:=by have:=eq_of_beq X;omega
    subst X;refine⟨(k:Int),wo,⟨by omega,by omega,by omega⟩,a,k,c,Ea a c,by simp,by simp,?_⟩;intro O V r;exact⟨(k,V),⟨by dsimp only;omega,Y.tr r.cL,hF.trans (xQ L)⟩,Sub.reset r ⟨rfl,trivial⟩ ⟨trivial,trivial⟩,by dsimp only;omega⟩
   ·have X:x≠0:=by intro e;subst e;simp at X
    intro O V r;exact⟨_,rfl,Y.tr r.cL,Wa Y (by rw[hF,Ai L X]) O V r⟩
  ·have h:k=0:=by
    have:¬0<k:=by simpa using h
    omega
   subst h;intro O V r;exact⟨_,rfl,Y.tr r.cL,Wa Y (by rw[hF];simp[dO]) O V r⟩
theorem eP(h:n<18446744073709551616):IntKind.u64.wrap (n:Int)=(n:Int):=xW (by omega) (by omega)
theorem fF(n:Nat):IntKind.u32.wrap (n:Int)=((n % 4294967296:Nat):Int):=by
 show((n:Int) % 4294967296)=_;omega
theorem ofInt32(x:Nat):BitVec.ofInt 32 (x:Int)=BitVec.ofNat 32 x:=by
 apply BitVec.eq_of_toNat_eq;simp
theorem qM{y:Nat}(x:Nat)(hy:y<4294967296):x &&& y<4294967296:=Nat.lt_of_le_of_lt Nat.and_le_right hy
theorem qN{x y:Nat}(L:x<4294967296)(hy:y<4294967296):x ^^^ y<4294967296:=Nat.xor_lt_two_pow (n:=32) L hy
theorem DC{x y:Nat}(L:x<4294967296)(hy:y<4294967296):x ||| y<4294967296:=Nat.or_lt_two_pow (n:=32) L hy
theorem Ms{x y:Nat}(L:x<4294967296)(hy:y<4294967296):IntKind.u32.wrap ((BitVec.ofInt IntKind.u32.bits x &&& BitVec.ofInt IntKind.u32.bits y).toNat:Int)=((x &&& y:Nat):Int):=by
 show IntKind.u32.wrap ((BitVec.ofInt 32 x &&& BitVec.ofInt 32 y).toNat:Int)=_;rw[ofInt32,ofInt32,BitVec.toNat_and,BitVec.toNat_ofNat,BitVec.toNat_ofNat,bI L,bI hy,fF,bI (qM x hy)]
theorem aAI{x y:Nat}(L:x<4294967296)(hy:y<4294967296):IntKind.u32.wrap ((BitVec.ofInt IntKind.u32.bits x ||| BitVec.ofInt IntKind.u32.bits y).toNat:Int)=((x ||| y:Nat):Int):=by
 show IntKind.u32.wrap ((BitVec.ofInt 32 x ||| BitVec.ofInt 32 y).toNat:Int)=_;rw[ofInt32,ofInt32,BitVec.toNat_or,BitVec.toNat_ofNat,BitVec.toNat_ofNat,bI L,bI hy,fF,bI (DC L hy)]
theorem Mt{x y:Nat}(L:x<4294967296)(hy:y<4294967296):IntKind.u32.wrap ((BitVec.ofInt IntKind.u32.bits x ^^^ BitVec.ofInt IntKind.u32.bits y).toNat:Int)=((x ^^^ y:Nat):Int):=by
 show IntKind.u32.wrap ((BitVec.ofInt 32 x ^^^ BitVec.ofInt 32 y).toNat:Int)=_;rw[ofInt32,ofInt32,BitVec.toNat_xor,BitVec.toNat_ofNat,BitVec.toNat_ofNat,bI L,bI hy,fF,bI (qN L hy)]
theorem Mu{x:Nat}(L:x<4294967296):IntKind.u32.wrap ((BitVec.ofInt IntKind.u32.bits (if IntKind.u32.signed=true then -1 else IntKind.u32.max) ^^^ BitVec.ofInt IntKind.u32.bits x).toNat:Int)=((4294967295 ^^^ x:Nat):Int):=
 Mt (x:=4294967295) (by decide) L
theorem lV{x:Nat}(k:Nat)(R:k<=63):(x:Int).fdiv (2^min (Int.toNat (k:Int)) IntKind.u64.bits)=((x / 2^k:Nat):Int):=by
 have I:min (Int.toNat (k:Int)) IntKind.u64.bits=k:=by show min (Int.toNat (k:Int)) 64=k;omega
 rw[I,Int.fdiv_eq_ediv_of_nonneg _ (by exact Int.le_of_lt (Int.pow_pos (by decide)))];simp
theorem oM{x:Nat}(k:Nat)(R:k<=31):(x:Int).fdiv (2^min (Int.toNat (k:Int)) IntKind.u32.bits)=((x / 2^k:Nat):Int):=by
 have I:min (Int.toNat (k:Int)) IntKind.u32.bits=k:=by show min (Int.toNat (k:Int)) 32=k;omega
 rw[I,Int.fdiv_eq_ediv_of_nonneg _ (by exact Int.le_of_lt (Int.pow_pos (by decide)))];simp
theorem MY{z:Nat}(h:z<4294967296):z.testBit 31=decide (2147483648<=z):=by
 rw[Nat.testBit_eq_decide_div_mod_eq];apply decide_eq_decide.2;show z / 2147483648 % 2=1↔_;omega
theorem borrow{x y c d:Nat}(L:x<4294967296)(hy:y<4294967296)(hc:c<=1)(hd:(x+4294967296-(y+c)) % 4294967296=d):
  (((4294967295 ^^^ x) &&& y) ||| ((4294967295 ^^^ (x ^^^ y)) &&& d)) / 2^31=if x<y+c then 1 else 0:=by
 have PN:d<4294967296:=by omega
 have hz:=DC (qM (4294967295 ^^^ x) hy) (qM (4294967295 ^^^ (x ^^^ y)) PN);have ht:=MY hz;have hm:Nat.testBit 4294967295 31=true:=by decide
 rw[Nat.testBit_or,Nat.testBit_and,Nat.testBit_and,Nat.testBit_xor,Nat.testBit_xor,Nat.testBit_xor,hm,MY L,MY hy,MY PN]at ht;generalize (((4294967295 ^^^ x) &&& y) ||| ((4294967295 ^^^ (x ^^^ y)) &&& d))=z at hz ht;show z / 2147483648=_;by_cases I:2147483648<=x<;>by_cases X:2147483648<=y<;>by_cases N:2147483648<=d<;>simp[I,X,N]at ht<;>split<;>omega
theorem Hb(x y c:Nat)(w:World)(L:x<4294967296)(hy:y<4294967296)(hc:c<4294967296):
  dx PG F'.zQ #[.int .u32 x,.int .u32 y,.int .u32 c] w (eH w fun v _=>v= .tuple #[.int .u32 ((x+y+c) % 4294967296:Nat),.int .u32 ((x+y+c) / 4294967296:Nat)]):=by
 refine Ag (by simp) ?_;refine⟨(x:Int),eP (by omega),(y:Int),eP (by omega),((x+y:Nat):Int),by rw[xW]<;>omega,(c:Int),eP (by omega),((x+y+c:Nat):Int),by rw[xW]<;>omega,(((x+y+c) % 4294967296:Nat):Int),fF _,by decide,(((x+y+c) / 4294967296:Nat):Int),?_,?_⟩
 ·exact lV 32 (by decide)
 refine⟨(((x+y+c) / 4294967296:Nat):Int),by rw[fF];omega,?_⟩;intro O w3 r;exact⟨_,rfl,r.cL,rfl⟩
theorem Hc(x y c:Nat)(w:World)(L:x<4294967296)(hy:y<4294967296)(hc:c<=1):
  dx PG F'.zR #[.int .u32 x,.int .u32 y,.int .u32 c] w (eH w fun v _=>v= .tuple #[.int .u32 ((x+4294967296-(y+c)) % 4294967296:Nat),.int .u32 ((if x<y+c then 1 else 0:Nat):Int)]):=by
 refine Ah (by simp) ?_;refine⟨((x+4294967296-y) % 4294967296:Nat),?_,?_⟩
 ·show((x:Int)-y) % 4294967296=_;omega
 refine⟨((x+4294967296-(y+c)) % 4294967296:Nat),?_,?_⟩
 ·show((((x+4294967296-y) % 4294967296:Nat):Int)-c) % 4294967296=_;omega
 have h6:(x+4294967296-(y+c)) % 4294967296<4294967296:=bq _ (by decide);generalize hd:(x+4294967296-(y+c)) % 4294967296=d at h6;refine⟨((4294967295 ^^^ x:Nat):Int),Mu L,(((4294967295 ^^^ x) &&& y:Nat):Int),Ms (qN (by decide) L) hy,((x ^^^ y:Nat):Int),Mt L hy,((4294967295 ^^^ (x ^^^ y):Nat):Int),Mu (qN L hy),(((4294967295 ^^^ (x ^^^ y)) &&& d:Nat):Int),Ms (qN (by decide) (qN L hy)) h6,((((4294967295 ^^^ x) &&& y) ||| ((4294967295 ^^^ (x ^^^ y)) &&& d):Nat):Int),aAI (qM _ hy) (qM _ h6),by decide,((if x<y+c then 1 else 0:Nat):Int),?_,?_⟩
 ·rw[<-borrow L hy hc hd];exact oM 31 (by decide)
 intro O w3 r;exact⟨_,rfl,r.cL,rfl⟩
def s3(n m:Nat):Int:=if n<m then -1 else if m<n then 1 else 0
theorem My{a b:List Nat}{i x y:Nat}(ha:Lm a)(hl:a.length=b.length)(L:a[i]? =some x)(hy:b[i]? =some y)(h:a.drop (i+1)=b.drop (i+1))(Ou:x<y):val a<val b:=by
 have D:=(aD.1 L).1;have I:=eX a i (by omega);have X:=eX b i (by omega);rw[jE L]at I;rw[jE hy,<-h]at X;have N:=nY (ha.take i);rw[aZ,Nat.min_eq_left (by omega)]at N;generalize val (a.drop (i+1))=q at I X;have h4:wt i*(x+4294967296*q+1)<=wt i*(y+4294967296*q):=bP _ (by omega);rw[bQ,aY]at h4;omega
theorem Kd{u:Value}{m:Nat}(F:Old S w)(Z:dQ w S v n)(hm:dQ w S u m):dx PG F'.rU #[v,u] w (eH w fun v' _=>v'= .int .i64 (s3 n m)):=by
 obtain⟨ls,I,nz1,rfl⟩:=Z;obtain⟨ms,X,nz2,rfl⟩:=hm;obtain⟨a,c,rfl,_,ha⟩:=I.sl;obtain⟨b,e,rfl,_,hb⟩:=X.sl;have hle1:=I.le;have VK:=X.le;have lm1:=I.lm;have lm2:=X.lm;refine vS (by simp) ?_;refine dB.mk ?_ ?_<;>intro h
 ·have h:ls.length≠ms.length:=by intro e;rw[e]at h;simp at h
  refine dB.mk ?_ ?_<;>intro N
  ·have N:ls.length<ms.length:=by simpa using N
   intro O V r;exact⟨_,rfl,r.cL,by rw[s3,if_pos (im lm1 nz2 N)];rfl⟩
  ·have N:ms.length<ls.length:=by
    have:¬ls.length<ms.length:=by simpa using N
    omega
   have h4:=im lm2 nz1 N;intro O V r;exact⟨_,rfl,r.cL,by rw[s3,aI (by omega),if_pos h4];rfl⟩
 ·have h:ls.length=ms.length:=by
   have:(ls.length:Int)=ms.length:=by simpa using h
   omega
  refine⟨(ls.length:Int)-1,wo,Nat×World,fun x=>⟨[(0,sV a ls.length c),(1,sV b ms.length e),(5,.o (.v (.int .i64 ((x.1:Int)-1))))],[],0,[],x.2⟩,fun x=>x.1,
   fun x=>x.1<=ls.length/\dT w.heap.size w x.2/\ls.drop x.1=ms.drop x.1,?_,?_⟩
  ·intro O J r;exact⟨(ls.length,J),⟨Nat.le_refl _,r.cL,by rw[List.drop_length,h,List.drop_length]⟩,Sub.reset r ⟨rfl,rfl,rfl,trivial⟩ ⟨trivial,trivial,trivial,trivial⟩⟩
  ·rintro⟨k,w1⟩ ⟨R,Y,hd⟩;dsimp only at R Y hd ⊢;refine dB.mk ?_ ?_<;>intro N
   ·have N:(k:Int)-1≥0:=aK N;obtain⟨k,rfl⟩:∃q,k=q+1:=⟨k-1,by omega⟩
    rw[show ((k+1:Nat):Int)-1=(k:Int) by omega];obtain⟨x,L⟩:∃x,ls[k]? =some x:=⟨_,aB (by omega)⟩
    obtain⟨y,hy⟩:∃x,ms[k]? =some x:=⟨_,aB (by omega)⟩
    obtain⟨ad,Om,hs,hc1⟩:=ha k x L;obtain⟨ad2,Pa,Q6,UT⟩:=hb k y hy;have Pt:∀O J,Rel [] 0 [] w.heap.size w1 O J->J.cell? (ad.add ((k:Int).toNat*1))=some (.int .u32 x):=fun O J r=>by
     rw[aF,aY];exact jl F Y r hs hc1
    have Q3:∀O J,Rel [] 0 [] w.heap.size w1 O J->J.cell? (ad2.add ((k:Int).toNat*1))=some (.int .u32 y):=fun O J r=>by
     rw[aF,aY];exact jl F Y r Q6 UT
    refine cI hτ dN [.x 0,.x 1,.x 2,.x 3,.x 4,.x 5,.x 6,.x 7,.x 8,.x 9] (by kernel_rfl) (by kernel_rfl) ?_;refine⟨ad,Om,by omega,_,Pt,ad2,Pa,by omega,_,Q3,?_⟩;refine dB.mk ?_ ?_<;>intro h4
    ·have h4:x<y:=by simpa using h4
     intro O V r;exact⟨_,rfl,Y.tr r.cL,by rw[s3,if_pos (My lm1 h L hy hd h4)];rfl⟩
    ·have h4:¬x<y:=by simpa using h4
     refine cI hτ dN [.x 0,.x 1,.x 2,.x 3,.x 4,.x 5,.x 6,.x 7,.x 8,.x 9] (by kernel_rfl) (by kernel_rfl) ?_;refine⟨ad,Om,by omega,_,Pt,ad2,Pa,by omega,_,Q3,?_⟩;refine dB.mk ?_ ?_<;>intro h5
     ·have h5:y<x:=by simpa using h5
      have h6:=My lm2 h.symm hy L hd.symm h5;intro O V r;exact⟨_,rfl,Y.tr r.cL,by rw[s3,aI (by omega),if_pos h6];rfl⟩
     ·have h5:¬y<x:=by simpa using h5
      have hxy:x=y:=by omega
      subst hxy;refine⟨(k:Int)-1,wo,?_⟩;intro O V r;have PN:ls.drop k=ms.drop k:=by
       obtain⟨q1,e1⟩:=aD.1 L;obtain⟨q2,e2⟩:=aD.1 hy;rw[List.drop_eq_getElem_cons q1,List.drop_eq_getElem_cons q2,e1,e2,hd]
      exact⟨(k,V),⟨by dsimp only;omega,Y.tr r.cL,PN⟩,Sub.reset r ⟨rfl,rfl,rfl,trivial⟩ ⟨trivial,trivial,trivial,trivial⟩,by simp⟩
   ·have Um:k=0:=by
     have:¬(k:Int)-1≥0:=aH N;omega
    subst Um;have W:ls=ms:=by simpa using hd
    intro O V r;exact⟨_,rfl,Y.tr r.cL,by rw[W,s3,aI (by omega),aI (by omega)];rfl⟩
end Go.Ex
namespace Go.Sx
open Go Go.Ex Go.Proofs
variable{O:Nat->Sx.dL}
theorem Rel.qH{nx:Nat}{iv:Iv}{B:Nat}{w J:World}(r:Rel [] nx iv B w O J):w.grownBy J none:=
 ⟨r.os,r.tape,r.output,r.size,fun k R _=>r.ub k R (fun id b h=>by cases h)⟩
end Go.Sx
namespace Go.Ex
open Go Go.Sx Go.Proofs
variable{l ls:List Nat}{S:Nat->Prop}{v:Value}{w:World}
structure LA(S:Nat->Prop)(w:World) where
 a:Option Addr
 c:Nat
 ls:List Nat
 lm:Lm ls
 le:ls.length<=9223372036854775807
 cap:ls.length<=c
 cell:∀(j:Nat) x,ls[j]? =some x->∃ad,a=some ad/\S ad.block/\w.cell? (ad.add j)=some (.int .u32 x)
theorem cz.la(h:cz w S v ls):∃p:LA S w,v= .slice p.a p.ls.length p.c/\p.ls=ls:=by
 obtain⟨a,c,I,X,N⟩:=h.sl;exact⟨⟨a,c,ls,h.lm,h.le,X,N⟩,I,rfl⟩
theorem dQ.la{n:Nat}(h:dQ w S v n):∃p:LA S w,v= .slice p.a p.ls.length p.c/\val p.ls=n/\Nz p.ls:=by
 obtain⟨ls,I,X,N⟩:=h;obtain⟨p,h4,h5⟩:=I.la;exact⟨p,h4,by rw[h5];exact N,by rw[h5];exact X⟩
theorem LA.load{w1:World}(p:LA S w)(F:Old S w)(Y:dT w.heap.size w w1){k x:Nat}(L:p.ls[k]? =some x):
  ∃ad,p.a=some ad/\∀(H:Hp) (nx:Nat) (iv:Iv) (O:Nat->Sx.dL) J,Rel H nx iv w.heap.size w1 O J->J.cell? (ad.add ((k:Int).toNat*1))=some (.int .u32 x):=by
 obtain⟨ad,I,X,N⟩:=p.cell k x L;refine⟨ad,I,fun H nx iv O J r=>?_⟩;rw[aF,aY];exact jl F Y r X N
def E8(l:List Nat):List Value:=l.map fun(x:Nat)=>.int .u32 (x:Int)
theorem gF(l:List Nat):(E8 l).length=l.length:=by simp[E8]
theorem uF{k x:Nat}(h:l[k]? =some x):(E8 l)[k]? =some (.int .u32 x):=by simp[E8,h]
theorem aAK(l:List Nat)(k x:Nat)(h:k<l.length):(E8 l).take k++[.int .u32 x]++(E8 l).drop (k+1)=E8 (l.set k x):=by
 have I:k<(E8 l).length:=by rw[gF];exact h
 have:(E8 l).set k (.int .u32 x)=E8 (l.set k x):=by simp[E8,List.map_set]
 rw[<-this,List.set_eq_take_append_cons_drop,if_pos I];simp
theorem ir(l:List Nat)(k x:Nat)(h:k<l.length){e:Nat}(W:e=k):(E8 l).take e++[.int .u32 (x:Int)]++(E8 l).drop (e+1)=E8 (l.set k x):=by
 subst W;exact aAK l e x h
theorem s4(n:Nat):List.replicate n (Value.int .u32 0)=E8 (List.replicate n 0):=by simp[E8]
end Go.Ex
namespace Go.Sx
open Go Go.Ex Go.Proofs
variable{ls:List Nat}{O:Nat->Sx.dL}
theorem Rel.nK{H:Hp}{nx:Nat}{iv:Iv}{B:Nat}{w J:World}(r:Rel H nx iv B w O J){id t:Nat}(h:cV H id=some (.arr t (E8 ls)))(PO:Lm ls)(hle:ls.length<=9223372036854775807):
  cz J (fun g=>g=(O id).g) (.slice (some ⟨(O id).g,0,none⟩) ls.length ls.length) ls:=by
 refine⟨PO,hle,_,_,rfl,Nat.le_refl _,fun j x L=>⟨_,rfl,rfl,?_⟩⟩;have h0:(⟨(O id).g,0,none⟩:Addr).add j=⟨(O id).g,j,none⟩:=by
  cases j with
  |zero=>rfl
  |succ j=>simp[Addr.add]
 rw[h0,cell_of (r.arr id t _ h)];exact uF L
end Go.Sx
namespace Go.Ex
open Go Go.Sx Go.Proofs
variable{S:Nat->Prop}
theorem Bo{out ls ms:List Nat}{i x o d:Nat}(L:ls[i]? =some x)(ho:ms.getD i 0=o)(hd:out[i]? =some d){carry:Nat}(h:val (out.take i)+wt i*carry=val (ls.take i)+val (ms.take i)):
  val ((out.set i ((x+o+carry) % 4294967296)).take (i+1))+wt (i+1)*((x+o+carry) / 4294967296)=val (ls.take (i+1))+val (ms.take (i+1)):=by
 have D:=(aD.1 hd).1;have I:(out.set i ((x+o+carry) % 4294967296))[i]? =some ((x+o+carry) % 4294967296):=by rw[aO D]
 rw[dJ I,List.take_set_of_le (Nat.le_refl _),dJ L,il];have X:val (ms.take (i+1))=val (ms.take i)+wt i*o:=by
  cases hm:ms[i]? with
  |some y=>
   have:y=o:=by rw[<-ho];simp[List.getD,hm]
   rw[dJ hm,this]
  |none=>
   have:o=0:=by rw[<-ho];simp[List.getD,hm]
   rw[this,List.take_add_one,hm];simp
 rw[X];have N:=Nat.div_add_mod (x+o+carry) 4294967296;generalize (x+o+carry) / 4294967296=q at N ⊢;generalize (x+o+carry) % 4294967296=r at N ⊢;have h4:wt i*(4294967296*q+r)=wt i*(x+o+carry):=by rw[N]
 rw[bQ,bQ,bQ,<-bc,bL (wt i) 4294967296]at h4;omega
theorem Nk{w:World}{v u:Value}{n m:Nat}(F:Old S w)(Z:dQ w S v n)(hm:dQ w S u m)(SL:ln n<=1000000000000)(PO:ln m<=1000000000000):
  dx PG F'.pg #[v,u] w (eH w fun v' V=>dQ V (Nf w V) v' (n+m)):=by
 obtain⟨p,rfl,Qi,QR⟩:=Z.la;obtain⟨q,rfl,RQ,Q2⟩:=hm.la;have Pj:=eA p.lm QR;have SB:=eA q.lm Q2;rw[Qi]at Pj;rw[RQ]at SB;have hsum:n+m=val p.ls+val q.ls:=by rw[Qi,RQ]
 rw[hsum];refine uD (by simp) ?_;refine dB.mk ?_ ?_<;>intro h
 case' refine_1=>
  have h:p.ls.length<q.ls.length:=by simpa using h
  have hpx:p.ls.length<=q.ls.length:=by omega
  have hx12:q.ls.length<=1000000000000:=by omega
  rw[Nat.add_comm];generalize Wg:q=x at*
  generalize hgy:p=y at*
 case' refine_2=>
  have h:¬p.ls.length<q.ls.length:=by simpa using h
  have hpx:q.ls.length<=p.ls.length:=by omega
  have hx12:p.ls.length<=1000000000000:=by omega
  generalize Wg:p=x at*
  generalize hgy:q=y at*
 all_goals
  refine⟨((x.ls.length+1:Nat):Int),wo,x.ls.length+1,x.ls.length+1,rfl,rfl,Nat.le_refl _,by omega,by omega,Nat×List Nat×Nat×World,fun z=>⟨[(0,sV x.a x.ls.length x.c),(1,sV y.a y.ls.length y.c),(5,.o (.s 0 0 (x.ls.length+1) (x.ls.length+1))),(6,.o (.v (.int .u32 z.2.2.1))),(21,iZ x.ls.length),(22,iZ z.1)],
    [(0,.arr T.uint32 (E8 z.2.1))],1,[],z.2.2.2⟩,fun z=>x.ls.length-z.1,
   fun z=>z.1<=x.ls.length/\dT w.heap.size w z.2.2.2/\z.2.1.length=x.ls.length+1/\Lm z.2.1/\z.2.2.1<2/\val (z.2.1.take z.1)+wt z.1*z.2.2.1=val (x.ls.take z.1)+val (y.ls.take z.1),?_,?_⟩
  ·intro O J r;rw[s4]at r;exact⟨(0,List.replicate (x.ls.length+1) 0,0,J),⟨by simp,r.cL,by simp,Lm.replicate _,by simp,by simp[val]⟩,Sub.gn [] r⟩
  ·rintro⟨i,out,carry,w1⟩ ⟨D,Y,QW,PA,hc,hv⟩;dsimp only at D Y QW PA hc hv ⊢;refine dB.mk ?_ ?_<;>intro h
   ·have h:i<x.ls.length:=by simpa using h
    obtain⟨xi,Pz⟩:∃k,x.ls[i]? =some k:=⟨_,aB h⟩
    obtain⟨d,hd⟩:∃k,out[i]? =some k:=⟨_,aB (by omega)⟩
    obtain⟨ad,Om,Oo⟩:=x.load F Y Pz;have QG:=x.lm.at Pz;refine dB.mk ?_ ?_<;>intro X
    ·have X:i<y.ls.length:=by simpa using X
     obtain⟨o,ho⟩:∃k,y.ls[i]? =some k:=⟨_,aB X⟩
     obtain⟨ad2,Pa,Qk⟩:=y.load F Y ho;have WL:=y.lm.at ho;have Tc:y.ls.getD i 0=o:=by simp[List.getD,ho]
     refine⟨ad2,Pa,by omega,.int .u32 o,Qk _ _ _,ad,Om,by omega,.int .u32 xi,Oo _ _ _,?_⟩;refine cB (cG (Id:=fun _ _ v _=>v= .tuple #[.int .u32 ((xi+o+carry) % 4294967296:Nat),.int .u32 ((xi+o+carry) / 4294967296:Nat)]) (fun O J r=>Hb xi o carry J QG WL (by omega)) ?_);rintro O J v V r W hb rfl;replace Y:=Y.tr hb;have Pr:=Bo Pz Tc hd hv;have UT:(xi+o+carry) / 4294967296<2:=by omega
     refine⟨by omega,by rw[gF];omega,E8 (out.set i ((xi+o+carry) % 4294967296)),ir out i _ (by omega) (by simp),((i+1:Nat):Int),wo,?_⟩;intro IR w3 K
     exact⟨(i+1,out.set i ((xi+o+carry) % 4294967296),(xi+o+carry) / 4294967296,w3),⟨by dsimp only;omega,Y.tr K.cL,by simp[QW],PA.set (bq _ (by decide)),UT,Pr⟩,
      Sub.gn [] K,by dsimp only;omega⟩
    ·have X:¬i<y.ls.length:=by simpa using X
     have Tc:y.ls.getD i 0=0:=by simp[List.getD,List.getElem?_eq_none (show y.ls.length<=i by omega)]
     refine⟨ad,Om,by omega,.int .u32 xi,Oo _ _ _,?_⟩;refine cB (cG (Id:=fun _ _ v _=>v= .tuple #[.int .u32 ((xi+0+carry) % 4294967296:Nat),.int .u32 ((xi+0+carry) / 4294967296:Nat)]) (fun O J r=>Hb xi 0 carry J QG (by decide) (by omega)) ?_);rintro O J v V r W hb rfl;replace Y:=Y.tr hb;have Pr:=Bo Pz Tc hd hv;have UT:(xi+0+carry) / 4294967296<2:=by omega
     refine⟨by omega,by rw[gF];omega,E8 (out.set i ((xi+0+carry) % 4294967296)),ir out i _ (by omega) (by simp),((i+1:Nat):Int),wo,?_⟩;intro IR w3 K
     exact⟨(i+1,out.set i ((xi+0+carry) % 4294967296),(xi+0+carry) / 4294967296,w3),⟨by dsimp only;omega,Y.tr K.cL,by simp[QW],PA.set (bq _ (by decide)),UT,Pr⟩,
      Sub.gn [] K,by dsimp only;omega⟩
   ·have RA:i=x.ls.length:=by
     have:¬i<x.ls.length:=by simpa using h
     omega
    subst RA;obtain⟨d,hd⟩:∃k,out[x.ls.length]? =some k:=⟨_,aB (by omega)⟩
    have So:val (out.set x.ls.length carry)=val x.ls+val y.ls:=by
     have I:(out.set x.ls.length carry)[x.ls.length]? =some carry:=by rw[aO (by omega)]
     have X:=dJ I;rw[List.take_of_length_le (by simp;omega),List.take_set_of_le (Nat.le_refl _)]at X;rw[bH,List.take_of_length_le hpx]at hv;omega
    have hlm2:Lm (out.set x.ls.length carry):=PA.set (by omega);refine⟨by omega,by rw[gF];omega,E8 (out.set x.ls.length carry),ir out x.ls.length carry (by omega) (by simp),?_⟩;generalize hgo:out.set x.ls.length carry=fin at So hlm2;have Ot:fin.length=x.ls.length+1:=by rw[<-hgo];simp[QW]
    refine gO (Id:=fun O _ v V=>cz V (fun g=>g=(O 0).g) v (dO fin)) (H':=[]) 0 rfl (by simp) trivial rfl (fun O J r=>r.nn 0 _ rfl (by intros;simp) (by simp)) (fun O J r=>?_) ?_
    ·have hL:=r.nK (id:=0) rfl hlm2 (by omega);rw[Ot]at hL;exact fM (fun g G=>by rw[G];exact(r.low 0 _ rfl (r.nn 0 _ rfl (by intros;simp) (by simp))).2) hL
    rintro O J v V r W hb hL;replace Y:=Y.tr hb;have Od:=r.low 0 _ rfl (r.nn 0 _ rfl (by intros;simp) (by simp));generalize (O 0).g=g at*
    have hs:=W.size;intro IR w3 K;refine⟨_,rfl,Y.tr K.cL,dO fin,?_,(ef fin).2.1,?_⟩
    ·refine(hL.cC fun k R=>?_).cF fun k R=>.inr ?_
     ·rw[R];exact K.qH.block g (by omega) (by simp)
     ·rw[R];have:=K.size;omega
    ·rw[(ef fin).1,So]
end Go.Ex
namespace Go.Ex
open Go Go.Sx Go.Proofs
variable{ls ms out:List Nat}{A9 a b i k n o t:Nat}{S:Nat->Prop}{v:Value}{w:World}
theorem JB(ho:ms.getD i 0=o):val (ms.take (i+1))=val (ms.take i)+wt i*o:=by
 cases hm:ms[i]? with
 |some y=>
  have:y=o:=by rw[<-ho];simp[List.getD,hm]
  rw[dJ hm,this]
 |none=>
  have:o=0:=by rw[<-ho];simp[List.getD,hm]
  rw[this,List.take_add_one,hm];simp
theorem AJ{x d e:Nat}(L:ls[i]? =some x)(ho:ms.getD i 0=o)(hd:out[i]? =some d){b':Nat}(h:val (out.take i)+val (ms.take i)=val (ls.take i)+wt i*b)(W:e+(o+b)=x+4294967296*b'):
  val ((out.set i e).take (i+1))+val (ms.take (i+1))=val (ls.take (i+1))+wt (i+1)*b':=by
 have D:=(aD.1 hd).1;have I:(out.set i e)[i]? =some e:=by rw[aO D]
 rw[dJ I,List.take_set_of_le (Nat.le_refl _),dJ L,JB ho,il];have h4:wt i*(e+(o+b))=wt i*(x+4294967296*b'):=by rw[W]
 rw[bQ,bQ,bQ,<-bc,bL (wt i) 4294967296]at h4;omega
theorem Ck{u:Value}{m:Nat}(F:Old S w)(Z:dQ w S v n)(hm:dQ w S u m)(hle:m<=n)(SL:ln n<=1000000000000):
  dx PG F'.od #[v,u] w (eH w fun v' V=>dQ V (Nf w V) v' (n-m)):=by
 obtain⟨x,rfl,Qi,QR⟩:=Z.la;obtain⟨y,rfl,RQ,Q2⟩:=hm.la;have Pj:=eA x.lm QR;rw[Qi]at Pj;have hyx:y.ls.length<=x.ls.length:=by
  rw[eA x.lm QR,eA y.lm Q2,Qi,RQ];exact fI hle
 refine sY (by simp) ?_
 refine⟨x.ls.length,x.ls.length,rfl,rfl,Nat.le_refl _,by omega,by omega,Nat×List Nat×Nat×World,fun z=>⟨[(0,sV x.a x.ls.length x.c),(1,sV y.a y.ls.length y.c),(5,.o (.s 0 0 x.ls.length x.ls.length)),(6,.o (.v (.int .u32 z.2.2.1))),(13,iZ x.ls.length),(14,iZ z.1)],
   [(0,.arr T.uint32 (E8 z.2.1))],1,[],z.2.2.2⟩,fun z=>x.ls.length-z.1,
  fun z=>z.1<=x.ls.length/\dT w.heap.size w z.2.2.2/\z.2.1.length=x.ls.length/\Lm z.2.1/\z.2.2.1<2/\val (z.2.1.take z.1)+val (y.ls.take z.1)=val (x.ls.take z.1)+wt z.1*z.2.2.1,?_,?_⟩
 ·intro O J r;rw[s4]at r;exact⟨(0,List.replicate x.ls.length 0,0,J),⟨by simp,r.cL,by simp,Lm.replicate _,by simp,by simp[val]⟩,Sub.gn [] r⟩
 ·rintro⟨i,out,b,w1⟩ ⟨D,Y,QW,PA,hc,hv⟩;dsimp only at D Y QW PA hc hv ⊢;refine dB.mk ?_ ?_<;>intro h
  ·have h:i<x.ls.length:=by simpa using h
   obtain⟨xi,Pz⟩:∃k,x.ls[i]? =some k:=⟨_,aB h⟩
   obtain⟨d,hd⟩:∃k,out[i]? =some k:=⟨_,aB (by omega)⟩
   obtain⟨ad,Om,Oo⟩:=x.load F Y Pz;have QG:=x.lm.at Pz;refine dB.mk ?_ ?_<;>intro X
   ·have X:i<y.ls.length:=by simpa using X
    obtain⟨o,ho⟩:∃k,y.ls[i]? =some k:=⟨_,aB X⟩
    obtain⟨ad2,Pa,Qk⟩:=y.load F Y ho;have WL:=y.lm.at ho;have Tc:y.ls.getD i 0=o:=by simp[List.getD,ho]
    refine⟨ad2,Pa,by omega,.int .u32 o,Qk _ _ _,ad,Om,by omega,.int .u32 xi,Oo _ _ _,?_⟩;refine cB (cG (Id:=fun _ _ v _=>v= .tuple #[.int .u32 ((xi+4294967296-(o+b)) % 4294967296:Nat),.int .u32 ((if xi<o+b then 1 else 0:Nat):Int)]) (fun O J r=>Hc xi o b J QG WL (by omega)) ?_);rintro O J v V r W hb rfl;replace Y:=Y.tr hb;have QA:(xi+4294967296-(o+b)) % 4294967296+(o+b)=xi+4294967296*(if xi<o+b then 1 else 0):=by split<;>omega
    have Ou:(xi+4294967296-(o+b)) % 4294967296<4294967296:=bq _ (by decide);have Qo:(if xi<o+b then 1 else 0:Nat)<2:=by split<;>omega
    generalize (xi+4294967296-(o+b)) % 4294967296=e at QA Ou;generalize (if xi<o+b then 1 else 0:Nat)=b' at QA Qo;have Pr:=AJ Pz Tc hd hv QA;refine⟨by omega,by rw[gF];omega,E8 (out.set i e),ir out i _ (by omega) (by simp),((i+1:Nat):Int),wo,?_⟩;intro IR w3 K
    exact⟨(i+1,out.set i e,b',w3),⟨by dsimp only;omega,Y.tr K.cL,by simp[QW],PA.set Ou,Qo,Pr⟩,
     Sub.gn [] K,by dsimp only;omega⟩
   ·have X:¬i<y.ls.length:=by simpa using X
    have Tc:y.ls.getD i 0=0:=by simp[List.getD,List.getElem?_eq_none (show y.ls.length<=i by omega)]
    refine⟨ad,Om,by omega,.int .u32 xi,Oo _ _ _,?_⟩;refine cB (cG (Id:=fun _ _ v _=>v= .tuple #[.int .u32 ((xi+4294967296-(0+b)) % 4294967296:Nat),.int .u32 ((if xi<0+b then 1 else 0:Nat):Int)]) (fun O J r=>Hc xi 0 b J QG (by decide) (by omega)) ?_);rintro O J v V r W hb rfl;replace Y:=Y.tr hb;have QA:(xi+4294967296-(0+b)) % 4294967296+(0+b)=xi+4294967296*(if xi<0+b then 1 else 0):=by split<;>omega
    have Ou:(xi+4294967296-(0+b)) % 4294967296<4294967296:=bq _ (by decide);have Qo:(if xi<0+b then 1 else 0:Nat)<2:=by split<;>omega
    generalize (xi+4294967296-(0+b)) % 4294967296=e at QA Ou;generalize (if xi<0+b then 1 else 0:Nat)=b' at QA Qo;have Pr:=AJ Pz Tc hd hv QA;refine⟨by omega,by rw[gF];omega,E8 (out.set i e),ir out i _ (by omega) (by simp),((i+1:Nat):Int),wo,?_⟩;intro IR w3 K
    exact⟨(i+1,out.set i e,b',w3),⟨by dsimp only;omega,Y.tr K.cL,by simp[QW],PA.set Ou,Qo,Pr⟩,
     Sub.gn [] K,by dsimp only;omega⟩
  ·have RA:i=x.ls.length:=by
    have:¬i<x.ls.length:=by simpa using h
    omega
   subst RA;have So:val out=n-m:=by
    rw[List.take_of_length_le (by omega),List.take_of_length_le hyx,bH,Qi,RQ]at hv;have I:=nY PA;rw[QW]at I;have:b=0\/b=1:=by omega
    rcases this with rfl|rfl
    ·omega
    ·omega
   refine gO (Id:=fun O _ v V=>cz V (fun g=>g=(O 0).g) v (dO out)) (H':=[]) 0 rfl (by simp) trivial rfl (fun O J r=>r.nn 0 _ rfl (by intros;simp) (by simp)) (fun O J r=>?_) ?_
   ·have hL:=r.nK (id:=0) rfl PA (by omega);rw[QW]at hL;exact fM (fun g G=>by rw[G];exact(r.low 0 _ rfl (r.nn 0 _ rfl (by intros;simp) (by simp))).2) hL
   rintro O J v V r W hb hL;replace Y:=Y.tr hb;have Od:=r.low 0 _ rfl (r.nn 0 _ rfl (by intros;simp) (by simp));generalize (O 0).g=g at*
   have hs:=W.size;intro IR w3 K;refine⟨_,rfl,Y.tr K.cL,dO out,?_,(ef out).2.1,?_⟩
   ·refine(hL.cC fun k R=>?_).cF fun k R=>.inr ?_
    ·rw[R];exact K.qH.block g (by omega) (by simp)
    ·rw[R];have:=K.size;omega
   ·rw[(ef out).1,So]
theorem Gm{p c:Nat}(ho:out[p]? =some o)(h:val out+wt p*c=A9)(ht:t=a+o+c):
  val (out.set p (t % 4294967296))+wt (p+1)*(t / 4294967296)=A9+wt p*a:=by
 have I:=x8 (x:=t % 4294967296) ho;rw[il];have N:=Nat.div_add_mod t 4294967296;generalize t / 4294967296=q at N ⊢;generalize t % 4294967296=r at N I ⊢;have h4:wt p*(4294967296*q+r)=wt p*(a+o+c):=by rw[N,ht]
 rw[bQ,bQ,bQ,<-bc,bL (wt p) 4294967296]at h4;omega
def Zf(out:List Nat)(p:Nat):Prop:=∀(j:Nat) z,p<=j->out[j]? =some z->z=0
theorem Zf.set{p x:Nat}(h:Zf out p)(R:k<p):Zf (out.set k x) p:=fun j z hj hz=>by
 rw[aT (by omega)]at hz;exact h j z hj hz
theorem LV(ha:a<4294967296)(hb:b<4294967296):a*b<=18446744065119617025:=by
 have:a*b<=4294967295*4294967295:=Nat.mul_le_mul (by omega) (by omega);omega
theorem H6{u:Value}{m:Nat}(F:Old S w)(Z:dQ w S v n)(hm:dQ w S u m)(SL:ln n<=1000000000000)(PO:ln m<=1000000000000):
  dx PG F'.o9 #[v,u] w (eH w fun v' V=>dQ V (Nf w V) v' (n*m)):=by
 obtain⟨x,rfl,Qi,QR⟩:=Z.la;obtain⟨y,rfl,RQ,Q2⟩:=hm.la;have Pj:=eA x.lm QR;rw[Qi]at Pj;have SB:=eA y.lm Q2;rw[RQ]at SB;refine sU (by simp) ?_;obtain⟨Do,hL⟩:∃Do,Do=x.ls.length+y.ls.length:=⟨_,rfl⟩
 refine⟨(Do:Int),wo,Do,Do,rfl,rfl,Nat.le_refl _,by omega,by omega,Nat×List Nat×World,fun z=>⟨[(1,sV y.a y.ls.length y.c),(5,.o (.s 0 0 Do Do)),(18,sV x.a x.ls.length x.c),(19,iZ x.ls.length),(20,iZ z.1)],
   [(0,.arr T.uint32 (E8 z.2.1))],1,[],z.2.2⟩,fun z=>x.ls.length-z.1,
  fun z=>z.1<=x.ls.length/\dT w.heap.size w z.2.2/\z.2.1.length=Do/\Lm z.2.1/\val z.2.1=val (x.ls.take z.1)*m/\Zf z.2.1 (z.1+y.ls.length),?_,?_⟩
 ·intro O J r;rw[s4]at r;exact⟨(0,List.replicate Do 0,J),⟨by simp,r.cL,by simp,Lm.replicate _,by simp[val,mY],fun j z _ hz=>by simp only[List.getElem?_replicate]at hz;split at hz<;>simp_all⟩,Sub.gn [] r⟩
 ·rintro⟨i,out,w1⟩ ⟨D,Y,QW,PA,hv,hz⟩;dsimp only at D Y QW PA hv hz ⊢;refine dB.mk ?_ ?_<;>intro h
  ·have h:i<x.ls.length:=by simpa using h
   obtain⟨xi,Pz⟩:∃k,x.ls[i]? =some k:=⟨_,aB h⟩
   obtain⟨ad,Om,Oo⟩:=x.load F Y Pz;have QG:=x.lm.at Pz
   refine⟨ad,Om,by omega,.int .u32 xi,Oo _ _ _,Nat×List Nat×Nat×World,fun z=>⟨[(1,sV y.a y.ls.length y.c),(5,.o (.s 0 0 Do Do)),(18,sV x.a x.ls.length x.c),(19,iZ x.ls.length),(20,iZ i),
     (6,iZ i),(7,.o (.v (.int .u32 xi))),(8,.o (.v (.int .u64 z.2.2.1))),(25,sV y.a y.ls.length y.c),(26,iZ y.ls.length),(27,iZ z.1)],
     [(0,.arr T.uint32 (E8 z.2.1))],1,[],z.2.2.2⟩,fun z=>y.ls.length-z.1,
    fun z=>z.1<=y.ls.length/\dT w.heap.size w z.2.2.2/\z.2.1.length=Do/\Lm z.2.1/\z.2.2.1<4294967296/\val z.2.1+wt (i+z.1)*z.2.2.1=val (x.ls.take i)*m+wt i*xi*val (y.ls.take z.1)/\Zf z.2.1 (i+y.ls.length),?_,?_⟩
   ·intro O J r;exact⟨(0,out,0,J),⟨by simp,Y.tr r.cL,QW,PA,by simp,by simp[val,hv],hz⟩,Sub.gn [] r⟩
   ·rintro⟨k,out,c,w1⟩ ⟨R,Y,QW,PA,hc,hv,hz⟩;dsimp only at R Y QW PA hc hv hz ⊢;refine dB.mk ?_ ?_<;>intro X
    ·have X:k<y.ls.length:=by simpa using X
     obtain⟨yk,hyk⟩:∃q,y.ls[k]? =some q:=⟨_,aB X⟩
     obtain⟨ad2,Pa,Qk⟩:=y.load F Y hyk;have hy32:=y.lm.at hyk;obtain⟨o,ho⟩:∃q,out[i+k]? =some q:=⟨_,aB (by omega)⟩
     have WL:=PA.at ho;have hm64:=LV QG hy32;refine⟨ad2,Pa,by omega,.int .u32 yk,Qk _ _ _,(xi:Int),eP (by omega),(yk:Int),eP (by omega),((xi*yk:Nat):Int),by rw[<-Int.natCast_mul];exact eP (by omega),((i+k:Nat):Int),wo,by omega,.int .u32 o,by rw[aF,aV,aY];exact uF ho,(o:Int),eP (by omega),((xi*yk+o:Nat):Int),by rw[<-Int.natCast_add];exact eP (by omega),?_⟩;obtain⟨t,ht⟩:∃t,t=xi*yk+o+c:=⟨_,rfl⟩
     refine⟨(t:Int),by rw[<-Int.natCast_add,<-ht];exact eP (by omega),((i+k:Nat):Int),wo,((t % 4294967296:Nat):Int),fF _,by decide,((t / 4294967296:Nat):Int),lV 32 (by decide),by omega,by rw[gF];omega,E8 (out.set (i+k) (t % 4294967296)),ir out (i+k) _ (by omega) (by simp only[aF];omega),((k+1:Nat):Int),wo,?_⟩;intro IR w3 K
     refine⟨(k+1,out.set (i+k) (t % 4294967296),t / 4294967296,w3),⟨by dsimp only;omega,Y.tr K.cL,by simp[QW],PA.set (bq _ (by decide)),by dsimp only;omega,?_,hz.set (by omega)⟩,
      Sub.gn [] K,by dsimp only;omega⟩
     have h5:=Gm (a:=xi*yk) ho hv ht;dsimp only
     rw[show i+(k+1)=i+k+1 by omega,h5,dJ hyk,CH,bQ,Nat.add_assoc];congr 2;simp only[bc,Nat.mul_left_comm,bL]
    ·have Ua:k=y.ls.length:=by
      have:¬k<y.ls.length:=by simpa using X
      omega
     subst Ua;obtain⟨o,ho⟩:∃q,out[i+y.ls.length]? =some q:=⟨_,aB (by omega)⟩
     have ho0:=hz _ _ (Nat.le_refl _) ho;subst ho0;refine⟨((i+y.ls.length:Nat):Int),wo,(c:Int),by rw[fF,bI hc],by omega,by rw[gF];omega,E8 (out.set (i+y.ls.length) c),ir out (i+y.ls.length) _ (by omega) (by simp only[aF];omega),((i+1:Nat):Int),wo,?_⟩;intro IR w3 K
     refine⟨(i+1,out.set (i+y.ls.length) c,w3),⟨by dsimp only;omega,Y.tr K.cL,by simp[QW],PA.set hc,?_,?_⟩,
      Sub.gn [] K,by dsimp only;omega⟩
     ·have h5:=x8 (x:=c) ho;dsimp only
      rw[bH,RQ]at hv;rw[dJ Pz,Nat.add_mul];omega
     ·intro j z hj hjz;dsimp only at hj;rw[aT (by omega)]at hjz;exact hz j z (by omega) hjz
  ·have RA:i=x.ls.length:=by
    have:¬i<x.ls.length:=by simpa using h
    omega
   subst RA;have So:val out=n*m:=by rw[hv,bH,Qi]
   refine gO (Id:=fun O _ v V=>cz V (fun g=>g=(O 0).g) v (dO out)) (H':=[]) 0 rfl (by simp) trivial rfl (fun O J r=>r.nn 0 _ rfl (by intros;simp) (by simp)) (fun O J r=>?_) ?_
   ·have hL:=r.nK (id:=0) rfl PA (by omega);rw[QW]at hL;exact fM (fun g G=>by rw[G];exact(r.low 0 _ rfl (r.nn 0 _ rfl (by intros;simp) (by simp))).2) hL
   rintro O J v V r W hb hL;replace Y:=Y.tr hb;have Od:=r.low 0 _ rfl (r.nn 0 _ rfl (by intros;simp) (by simp));generalize (O 0).g=g at*
   have hs:=W.size;intro IR w3 K;refine⟨_,rfl,Y.tr K.cL,dO out,?_,(ef out).2.1,?_⟩
   ·refine(hL.cC fun k R=>?_).cF fun k R=>.inr ?_
    ·rw[R];exact K.qH.block g (by omega) (by simp)
    ·rw[R];have:=K.size;omega
   ·rw[(ef out).1,So]
theorem Cm{q:Nat}(ho:o<2^k):o ||| 2^k*q=o+2^k*q:=by
 rw[Nat.or_comm,<-Nat.two_pow_add_eq_or_of_lt ho,Nat.add_comm]
theorem Kf{x y:Nat}(L:x<18446744073709551616)(hy:y<18446744073709551616):IntKind.u64.wrap ((BitVec.ofInt IntKind.u64.bits x ||| BitVec.ofInt IntKind.u64.bits y).toNat:Int)=((x ||| y:Nat):Int):=by
 have e:∀z:Nat,BitVec.ofInt 64 (z:Int)=BitVec.ofNat 64 z:=fun z=>by
  apply BitVec.eq_of_toNat_eq;simp
 show IntKind.u64.wrap ((BitVec.ofInt 64 x ||| BitVec.ofInt 64 y).toNat:Int)=_;rw[e,e,BitVec.toNat_or,BitVec.toNat_ofNat,BitVec.toNat_ofNat,bI L,bI hy];exact eP (Nat.or_lt_two_pow (n:=64) L hy)
theorem Cl(R:k<=63)(h:a*2^k<18446744073709551616):IntKind.u64.wrap ((a:Int)*2^min ((k:Int)).toNat IntKind.u64.bits)=((a*2^k:Nat):Int):=by
 have I:min ((k:Int)).toNat IntKind.u64.bits=k:=by show min ((k:Int)).toNat 64=k;omega
 rw[I,show(a:Int)*2^k=((a*2^k:Nat):Int) by simp];exact eP h
theorem Gq(ha:ls[i]? =some a)(ho:out[i]? =some o)(hz:out[i+1]? =some 0)(hv:val out=val (ls.take i)*2^b):
  val ((out.set i (o+a*2^b % 4294967296)).set (i+1) (a*2^b / 4294967296))=val (ls.take (i+1))*2^b:=by
 have I:=x8 (x:=o+a*2^b % 4294967296) ho;have X:(out.set i (o+a*2^b % 4294967296))[i+1]? =some 0:=by rw[aT (by omega)];exact hz
 have N:=x8 (x:=a*2^b / 4294967296) X;rw[dJ ha,Nat.add_mul,bc];rw[il]at N;generalize a*2^b=t at*
 have h4:=Nat.div_add_mod t 4294967296;generalize t / 4294967296=q at*
 generalize t % 4294967296=r at*
 have h5:wt i*(o+r)=wt i*o+wt i*r:=bQ _ _ _;have h6:4294967296*wt i*q=wt i*(4294967296*q):=by rw[bL 4294967296 (wt i),bc]
 rw[<-h4,bQ];omega
def Kh(w V:World)(v:Value)(ls:List Nat):Prop:=∃g,v= .slice (some ⟨g,0,none⟩) ls.length ls.length/\w.heap.size<=g/\V.heap[g]? =some (.cells (E8 ls).toArray T.uint32 (0,0))/\Lm ls
theorem B6(F:Old S w)(h:cz w S v ls)(hl:ls.length<=1000000000000)(hb:b<32):
  dx PG F'.mO #[v,.int .u64 b] w (eH w fun v' V=>∃out,Kh w V v' out/\out.length=ls.length+1/\val out=val ls*2^b):=by
 obtain⟨x,rfl,rfl⟩:=h.la;refine qD (by simp) ?_;have hp32:2^b<=2^31:=Nat.pow_le_pow_right (by decide) (by omega)
 refine⟨((x.ls.length+1:Nat):Int),wo,x.ls.length+1,x.ls.length+1,rfl,rfl,Nat.le_refl _,by omega,by omega,Nat×List Nat×World,fun z=>⟨[(1,.o (.v (.int .u64 b))),(5,.o (.s 0 0 (x.ls.length+1) (x.ls.length+1))),(13,sV x.a x.ls.length x.c),(14,iZ x.ls.length),(15,iZ z.1)],
   [(0,.arr T.uint32 (E8 z.2.1))],1,[],z.2.2⟩,fun z=>x.ls.length-z.1,
  fun z=>z.1<=x.ls.length/\dT w.heap.size w z.2.2/\z.2.1.length=x.ls.length+1/\Lm z.2.1/\val z.2.1=val (x.ls.take z.1)*2^b/\Zf z.2.1 (z.1+1)/\(∀o,z.2.1[z.1]? =some o->o<2^b),?_,?_⟩
 ·intro O J r;rw[s4]at r;refine⟨(0,List.replicate (x.ls.length+1) 0,J),⟨by simp,r.cL,by simp,Lm.replicate _,by simp[val,mY],fun j z _ hz=>?_,fun o ho=>?_⟩,Sub.gn [] r⟩
  ·simp only[List.getElem?_replicate]at hz;split at hz<;>simp_all
  ·simp only[List.getElem?_replicate]at ho;split at ho
   ·injection ho with ho;subst ho;exact bo _
   ·cases ho
 ·rintro⟨i,out,w1⟩ ⟨D,Y,QW,PA,hv,hz,Od⟩;dsimp only at D Y QW PA hv hz Od ⊢;refine dB.mk ?_ ?_<;>intro h
  ·have h:i<x.ls.length:=by simpa using h
   obtain⟨a,Pz⟩:∃k,x.ls[i]? =some k:=⟨_,aB h⟩
   obtain⟨ad,Om,Oo⟩:=x.load F Y Pz;have QG:=x.lm.at Pz;obtain⟨o,ho⟩:∃q,out[i]? =some q:=⟨_,aB (by omega)⟩
   obtain⟨o1,Vc⟩:∃q,out[i+1]? =some q:=⟨_,aB (by omega)⟩
   have e0:=hz _ _ (Nat.le_refl _) Vc;subst e0;have SW:=Od o ho;have Pr:=Gq Pz ho Vc hv;have QM:a*2^b<=4294967295*2^31:=Nat.mul_le_mul (by omega) hp32;have UD:a*2^b / 4294967296<2^b:=by
    rw[Nat.div_lt_iff_lt_mul (by decide),bL (2^b)];exact Nat.mul_lt_mul_of_pos_right QG (bo b)
   have UY:o ||| a*2^b % 4294967296=o+a*2^b % 4294967296:=by
    have:a*2^b % 4294967296=2^b*(a % 2^(32-b)):=by
     rw[show (4294967296:Nat)=2^(32-b)*2^b by rw[<-Nat.pow_add,Nat.sub_add_cancel (by omega)],Nat.mul_mod_mul_right,bL]
    rw[this];exact Cm SW
   have TA:o+a*2^b % 4294967296<4294967296:=by
    rw[<-UY];exact DC (by omega) (bq _ (by decide))
   refine⟨ad,Om,by omega,.int .u32 a,Oo _ _ _,(a:Int),eP (by omega),by omega,((a*2^b:Nat):Int),Cl (by omega) (by omega),?_⟩;generalize ht:a*2^b=t at*
   refine⟨by omega,.int .u32 o,by rw[aF,aV,aY];exact uF ho,((t % 4294967296:Nat):Int),fF _,((o+t % 4294967296:Nat):Int),by rw[<-UY];exact aAI (by omega) (bq _ (by decide)),by omega,by rw[gF];omega,E8 (out.set i (o+t % 4294967296)),ir out i _ (by omega) (by simp),((i+1:Nat):Int),wo,by decide,((t / 4294967296:Nat):Int),lV 32 (by decide),((t / 4294967296:Nat):Int),by rw[fF];omega,by omega,by rw[gF];simp;omega,E8 ((out.set i (o+t % 4294967296)).set (i+1) (t / 4294967296)),ir _ (i+1) _ (by simp;omega) (by simp only[aF];omega),((i+1:Nat):Int),wo,?_⟩;intro IR w3 K
   refine⟨(i+1,(out.set i (o+t % 4294967296)).set (i+1) (t / 4294967296),w3),⟨by dsimp only;omega,Y.tr K.cL,by simp[QW],(PA.set TA).set (by omega),Pr,fun j z hj hjz=>?_,fun o2 UB=>?_⟩,
    Sub.gn [] K,by dsimp only;omega⟩
   ·dsimp only at hj;rw[aT (by omega),aT (by omega)]at hjz;exact hz j z (by omega) hjz
   ·rw[aO (by simp;omega)]at UB;injection UB with UB;omega
  ·have RA:i=x.ls.length:=by
    have:¬i<x.ls.length:=by simpa using h
    omega
   subst RA;rw[bH]at hv;intro IR w3 K;refine⟨_,rfl,Y.tr K.cL,out,⟨(IR 0).g,by rw[QW];rfl,(K.low 0 _ rfl (K.nn 0 _ rfl (by intros;simp) (by simp))).1,K.arr 0 _ _ rfl,PA⟩,QW,hv⟩
theorem Bx{d q:Nat}(ha32:a<4294967296)(ha:ls[i]? =some a)(hd:out[i]? =some d)(hb:b<=32)(ht:t=a+4294967296*ls.getD (i+1) 0)(hq:q=t / 2^b % 4294967296)(hv:val (out.take i)+wt i*(val (ls.drop i) / 2^b)=A9):
  val ((out.set i q).take (i+1))+wt (i+1)*(val (ls.drop (i+1)) / 2^b)=A9:=by
 have D:=(aD.1 hd).1;have I:(out.set i q)[i]? =some q:=by rw[aO D]
 rw[dJ I,List.take_set_of_le (Nat.le_refl _),il,<-hv];have hN:=jE ha;have X:val (ls.drop i) / 2^b=q+4294967296*(val (ls.drop (i+1)) / 2^b):=by
  have e1:val (ls.drop i) / 2^b / 4294967296=val (ls.drop (i+1)) / 2^b:=by
   rw[Nat.div_div_eq_div_mul,bL,<-Nat.div_div_eq_div_mul];congr 1;omega
  have e2:val (ls.drop i) / 2^b % 4294967296=q:=by
   have N:∃z,val (ls.drop i)=t+2^b*(4294967296*z):=by
    cases L:ls[i+1]? with
    |some y=>
     have:=jE L;refine⟨2^(32-b)*val (ls.drop (i+1+1)),?_⟩;have h4:2^b*(4294967296*(2^(32-b)*val (ls.drop (i+1+1))))=18446744073709551616*val (ls.drop (i+1+1)):=by
      rw[Nat.mul_left_comm,<-bc (2^b),<-Nat.pow_add,Nat.add_sub_cancel' hb,<-bc]
     rw[h4,hN,this,ht,List.getD,L];simp only[Option.getD_some]
     omega
    |none=>
     refine⟨0,?_⟩;have h5:ls.length<=i+1:=List.getElem?_eq_none_iff.1 L;rw[hN,List.drop_of_length_le h5,ht,List.getD,L];simp[val]
   obtain⟨z,hz⟩:=N;rw[hz,Nat.add_mul_div_left _ _ (bo b),Nat.add_mul_mod_self_left,hq]
  have:=Nat.div_add_mod (val (ls.drop i) / 2^b) 4294967296;rw[e1,e2]at this;omega
 rw[X,bQ,bL 4294967296 (wt i),bc];omega
theorem Ng(F:Old S w)(h:cz w S v ls)(hl:ls.length<=1000000000000)(hb:b<32):
  dx PG F'.pf #[v,.int .u64 b] w (eH w fun v' V=>dQ V (Nf w V) v' (val ls / 2^b)):=by
 obtain⟨x,rfl,rfl⟩:=h.la;refine uC (by simp) ?_
 refine⟨x.ls.length,x.ls.length,rfl,rfl,Nat.le_refl _,by omega,by omega,Nat×List Nat×World,fun z=>⟨[(0,sV x.a x.ls.length x.c),(1,.o (.v (.int .u64 b))),(5,.o (.s 0 0 x.ls.length x.ls.length)),(12,iZ x.ls.length),(13,iZ z.1)],
   [(0,.arr T.uint32 (E8 z.2.1))],1,[],z.2.2⟩,fun z=>x.ls.length-z.1,
  fun z=>z.1<=x.ls.length/\dT w.heap.size w z.2.2/\z.2.1.length=x.ls.length/\Lm z.2.1/\val (z.2.1.take z.1)+wt z.1*(val (x.ls.drop z.1) / 2^b)=val x.ls / 2^b,?_,?_⟩
 ·intro O J r;rw[s4]at r;exact⟨(0,List.replicate x.ls.length 0,J),⟨by simp,r.cL,by simp,Lm.replicate _,by simp[val,jM]⟩,Sub.gn [] r⟩
 ·rintro⟨i,out,w1⟩ ⟨D,Y,QW,PA,hv⟩;dsimp only at D Y QW PA hv ⊢;refine dB.mk ?_ ?_<;>intro h
  ·have h:i<x.ls.length:=by simpa using h
   obtain⟨a,Pz⟩:∃k,x.ls[i]? =some k:=⟨_,aB h⟩
   obtain⟨ad,Om,Oo⟩:=x.load F Y Pz;have QG:=x.lm.at Pz;obtain⟨d,hd⟩:∃q,out[i]? =some q:=⟨_,aB (by omega)⟩
   refine⟨ad,Om,by omega,.int .u32 a,Oo _ _ _,(a:Int),eP (by omega),((i+1:Nat):Int),wo,?_⟩;refine dB.mk ?_ ?_<;>intro X
   ·have X:i+1<x.ls.length:=by
     have:((i+1:Nat):Int)<x.ls.length:=aK X;omega
    obtain⟨y,hy⟩:∃k,x.ls[i+1]? =some k:=⟨_,aB X⟩
    obtain⟨ad2,Pa,Qk⟩:=x.load F Y hy;have hy32:=x.lm.at hy;have QD:x.ls.getD (i+1) 0=y:=by simp[List.getD,hy]
    have UY:a ||| y*2^32=a+4294967296*y:=by
     rw[bL];exact Cm (k:=32) QG
    refine⟨((i+1:Nat):Int),wo,ad2,Pa,by omega,.int .u32 y,Qk _ _ _,(y:Int),eP (by omega),by decide,((y*2^32:Nat):Int),Cl (k:=32) (by decide) (by omega),((a+4294967296*y:Nat):Int),by rw[Kf (by omega) (by omega),UY],by omega,(((a+4294967296*y) / 2^b:Nat):Int),lV b (by omega),(((a+4294967296*y) / 2^b % 4294967296:Nat):Int),fF _,?_⟩;have Pr:=Bx (t:=a+4294967296*y) QG Pz hd (by omega) (by rw[QD]) rfl hv;generalize hq:(a+4294967296*y) / 2^b % 4294967296=q at*
    have hq32:q<4294967296:=by rw[<-hq];exact bq _ (by decide)
    refine⟨by omega,by rw[gF];omega,E8 (out.set i q),ir out i _ (by omega) (by simp),((i+1:Nat):Int),wo,?_⟩;intro IR w3 K
    exact⟨(i+1,out.set i q,w3),⟨by dsimp only;omega,Y.tr K.cL,by simp[QW],PA.set hq32,Pr⟩,
     Sub.gn [] K,by dsimp only;omega⟩
   ·have X:¬i+1<x.ls.length:=by
     have:¬((i+1:Nat):Int)<x.ls.length:=aH X;omega
    have QD:x.ls.getD (i+1) 0=0:=by simp[List.getD,List.getElem?_eq_none (show x.ls.length<=i+1 by omega)]
    refine⟨by omega,((a / 2^b:Nat):Int),lV b (by omega),((a / 2^b % 4294967296:Nat):Int),fF _,?_⟩;have Pr:=Bx (t:=a) QG Pz hd (by omega) (by rw[QD];omega) rfl hv;generalize hq:a / 2^b % 4294967296=q at*
    have hq32:q<4294967296:=by rw[<-hq];exact bq _ (by decide)
    refine⟨by omega,by rw[gF];omega,E8 (out.set i q),ir out i _ (by omega) (by simp),((i+1:Nat):Int),wo,?_⟩;intro IR w3 K
    exact⟨(i+1,out.set i q,w3),⟨by dsimp only;omega,Y.tr K.cL,by simp[QW],PA.set hq32,Pr⟩,
     Sub.gn [] K,by dsimp only;omega⟩
  ·have RA:i=x.ls.length:=by
    have:¬i<x.ls.length:=by simpa using h
    omega
   subst RA;have So:val out=val x.ls / 2^b:=by
    rw[List.drop_length,List.take_of_length_le (by omega)]at hv;simpa [val]using hv
   refine gO (Id:=fun O _ v V=>cz V (fun g=>g=(O 0).g) v (dO out)) (H':=[]) 0 rfl (by simp) trivial rfl (fun O J r=>r.nn 0 _ rfl (by intros;simp) (by simp)) (fun O J r=>?_) ?_
   ·have hL:=r.nK (id:=0) rfl PA (by omega);rw[QW]at hL;exact fM (fun g G=>by rw[G];exact(r.low 0 _ rfl (r.nn 0 _ rfl (by intros;simp) (by simp))).2) hL
   rintro O J v V r W hb hL;replace Y:=Y.tr hb;have Od:=r.low 0 _ rfl (r.nn 0 _ rfl (by intros;simp) (by simp));generalize (O 0).g=g at*
   have hs:=W.size;intro IR w3 K;refine⟨_,rfl,Y.tr K.cL,dO out,?_,(ef out).2.1,?_⟩
   ·refine(hL.cC fun k R=>?_).cF fun k R=>.inr ?_
    ·rw[R];exact K.qH.block g (by omega) (by simp)
    ·rw[R];have:=K.size;omega
   ·rw[(ef out).1,So]
theorem Gs{by_ rest x d:Nat}(L:ls[k]? =some x)(hd:out[k]? =some d)(ht:t=rest*4294967296+x)
  (hv:val (ls.drop (k+1))=by_*val (out.drop (k+1))+rest):val (ls.drop k)=by_*val ((out.set k (t / by_)).drop k)+t % by_:=by
 have D:=(aD.1 hd).1;have I:(out.set k (t / by_))[k]? =some (t / by_):=by rw[aO D]
 rw[jE I,List.drop_set_of_lt (show k<k+1 by omega),jE L,hv,bQ,bQ];have X:=Nat.div_add_mod t by_;rw[Nat.mul_left_comm by_];omega
theorem Kg(h:t<18446744073709551616):IntKind.u64.wrap ((t:Int).tdiv (b:Int))=((t / b:Nat):Int):=by
 have I:=Nat.div_le_self t b;rw[Int.tdiv_eq_ediv_of_nonneg (by omega),<-Int.natCast_ediv];exact eP (by omega)
theorem LK(t b:Nat):(t:Int).tmod (b:Int)=((t % b:Nat):Int):=by
 rw[Int.tmod_eq_emod_of_nonneg (by omega),<-Int.natCast_emod]
theorem MO(F:Old S w)(h:cz w S v ls)(hl:ls.length<=1000000000000)(hb:0<b)(Qo:b<4294967296):
  dx PG F'.oa #[v,.int .u32 b] w (eH w fun v' V=>∃q,v'= .tuple #[q,.int .u32 ((val ls % b:Nat):Int)]/\dQ V (Nf w V) q (val ls / b)):=by
 obtain⟨x,rfl,rfl⟩:=h.la;refine sW (by simp) ?_
 refine⟨x.ls.length,x.ls.length,rfl,rfl,Nat.le_refl _,by omega,by omega,(x.ls.length:Int)-1,wo,Nat×Nat×List Nat×World,fun z=>⟨[(0,sV x.a x.ls.length x.c),(1,.o (.v (.int .u32 b))),(4,sV none 0 0),(5,.o (.v (.int .u32 0))),(6,.o (.s 0 0 x.ls.length x.ls.length)),(7,.o (.v (.int .u64 z.2.1))),(8,.o (.v (.int .i64 ((z.1:Int)-1))))],
   [(0,.arr T.uint32 (E8 z.2.2.1))],1,[],z.2.2.2⟩,fun z=>z.1,
  fun z=>z.1<=x.ls.length/\dT w.heap.size w z.2.2.2/\z.2.2.1.length=x.ls.length/\Lm z.2.2.1/\z.2.1<b/\val (x.ls.drop z.1)=b*val (z.2.2.1.drop z.1)+z.2.1,?_,?_⟩
 ·intro O J r;rw[s4]at r;exact⟨(x.ls.length,0,List.replicate x.ls.length 0,J),⟨by simp,r.cL,by simp,Lm.replicate _,by simpa using hb,by simp[val]⟩,Sub.gn [] r⟩
 ·rintro⟨k,rest,out,w1⟩ ⟨D,Y,QW,PA,hr,hv⟩;dsimp only at D Y QW PA hr hv ⊢;refine dB.mk ?_ ?_<;>intro h
  ·have h:(k:Int)-1≥0:=aK h;obtain⟨k,rfl⟩:∃q,k=q+1:=⟨k-1,by omega⟩
   rw[show ((k+1:Nat):Int)-1=(k:Int) by omega];obtain⟨a,Pz⟩:∃q,x.ls[k]? =some q:=⟨_,aB (by omega)⟩
   obtain⟨ad,Om,Oo⟩:=x.load F Y Pz;have QG:=x.lm.at Pz;obtain⟨d,hd⟩:∃q,out[k]? =some q:=⟨_,aB (by omega)⟩
   refine⟨by decide,((rest*2^32:Nat):Int),Cl (k:=32) (by decide) (by omega),ad,Om,by omega,.int .u32 a,Oo _ _ _,(a:Int),eP (by omega),?_⟩;have UY:rest*2^32 ||| a=rest*4294967296+a:=by
    rw[Nat.or_comm,bL,Cm (k:=32) QG];omega
   refine⟨((rest*4294967296+a:Nat):Int),by rw[Kf (by omega) (by omega),UY],?_⟩;generalize ht:rest*4294967296+a=t;have ht64:t<18446744073709551616:=by omega
   refine cI hτ dN [.x 0,.x 1,.x 2,.x 3,.x 4,.x 5,.x 6,.x 7,.x 8,.x 9,.x 10,.x 11,.x 12,.x 13] (by kernel_rfl) (by kernel_rfl) ?_;refine⟨(b:Int),eP (by omega),by omega,((t / b:Nat):Int),Kg ht64,?_⟩;have hq:t / b<4294967296:=by
    rw[Nat.div_lt_iff_lt_mul hb];have:=Nat.mul_le_mul_right 4294967296 hr;rw[Nat.succ_eq_add_one,Nat.add_mul]at this;omega
   have hm:t % b<b:=bq _ hb;have Pr:=Gs Pz hd ht.symm hv;have hw32:IntKind.u32.wrap ((t / b:Nat):Int)=((t / b:Nat):Int):=by rw[fF,bI hq]
   have hrem:=LK t b;generalize t / b=q at*
   generalize t % b=m at*
   refine⟨(q:Int),hw32,(b:Int),eP (by omega),by omega,(m:Int),hrem,by omega,by rw[gF];omega,E8 (out.set k q),ir out k _ (by omega) (by simp),(k:Int)-1,wo,?_⟩;intro IR w3 K
   exact⟨(k,m,out.set k q,w3),⟨by dsimp only;omega,Y.tr K.cL,by simp[QW],PA.set hq,hm,Pr⟩,
    Sub.gn [] K,by dsimp only;omega⟩
  ·have Um:k=0:=by
    have:¬(k:Int)-1≥0:=aH h;omega
   subst Um;rw[List.drop_zero,List.drop_zero]at hv;have hdm:val x.ls / b=val out/\val x.ls % b=rest:=by
    rw[hv];exact⟨by rw[Nat.mul_add_div hb,Nat.div_eq_of_lt hr,bj],by rw[Nat.mul_add_mod,bI hr]⟩
   rw[hdm.1,hdm.2];refine gO (Id:=fun O _ v V=>cz V (fun g=>g=(O 0).g) v (dO out)) (H':=[]) 0 rfl (by simp) trivial rfl (fun O J r=>r.nn 0 _ rfl (by intros;simp) (by simp)) (fun O J r=>?_) ?_
   ·have hL:=r.nK (id:=0) rfl PA (by omega);rw[QW]at hL;exact fM (fun g G=>by rw[G];exact(r.low 0 _ rfl (r.nn 0 _ rfl (by intros;simp) (by simp))).2) hL
   rintro O J v V r W hb hL;replace Y:=Y.tr hb;have Od:=r.low 0 _ rfl (r.nn 0 _ rfl (by intros;simp) (by simp));generalize (O 0).g=g at*
   have hs:=W.size;refine⟨(rest:Int),by rw[fF,bI (by omega)],?_⟩;intro IR w3 K;refine⟨_,rfl,Y.tr K.cL,v,rfl,dO out,?_,(ef out).2.1,(ef out).1⟩;refine(hL.cC fun k R=>?_).cF fun k R=>.inr ?_
   ·rw[R];exact K.qH.block g (by omega) (by simp)
   ·rw[R];have:=K.size;omega
def gP(n:Nat):Nat:=if n=0 then 0 else n.log2+1
theorem KX{x:Nat}(h:2^k<=x):x.log2=(x / 2^k).log2+k:=by
 have hp:=bo k;have hy:x / 2^k≠0:=by have:=Nat.div_pos h hp;omega
 have I:=Nat.log2_self_le hy;have X:=@Nat.lt_log2_self (x / 2^k);rw[Nat.log2_eq_iff (by omega)];refine⟨?_,?_⟩
 ·rw[Nat.pow_add];exact(Nat.le_div_iff_mul_le hp).1 I
 ·rw[show (x / 2^k).log2+k+1=(x / 2^k).log2+1+k by omega,Nat.pow_add];exact(Nat.div_lt_iff_lt_mul hp).1 X
theorem zf{x:Nat}(h:2^k<=x):gP x=k+gP (x / 2^k):=by
 have hp:=bo k;have hy:x / 2^k≠0:=by have:=Nat.div_pos h hp;omega
 rw[gP,gP,aI hy,aI (by omega),KX h];omega
theorem xl(h:n<256):IntKind.u8.wrap (n:Int)=(n:Int):=by
 show((n:Int) % 256)=_;omega
theorem xm(h:n<256):(UInt8.ofNat (gP n)).toNat=gP n:=by
 have:∀n,n<256->(UInt8.ofNat (gP n)).toNat=gP n:=by decide +kernel
 exact this n h
theorem oL{x:Nat}(h:x<256):gP x<=8:=by
 have:∀n,n<256->gP n<=8:=by decide +kernel
 exact this x h
theorem H2(n:Nat)(h:n<256):(⟨#[0,1,2,2,3,3,3,3,4,4,4,4,4,4,4,4,5,5,5,5,5,5,5,5,5,5,5,5,5,5,5,5,6,6,6,6,6,6,6,6,6,6,6,6,6,6,6,6,6,6,6,6,6,6,6,6,6,6,6,6,6,6,6,6,7,7,7,7,7,7,7,7,7,7,7,7,7,7,7,7,7,7,7,7,7,7,7,7,7,7,7,7,7,7,7,7,7,7,7,7,7,7,7,7,7,7,7,7,7,7,7,7,7,7,7,7,7,7,7,7,7,7,7,7,7,7,7,7,8,8,8,8,8,8,8,8,8,8,8,8,8,8,8,8,8,8,8,8,8,8,8,8,8,8,8,8,8,8,8,8,8,8,8,8,8,8,8,8,8,8,8,8,8,8,8,8,8,8,8,8,8,8,8,8,8,8,8,8,8,8,8,8,8,8,8,8,8,8,8,8,8,8,8,8,8,8,8,8,8,8,8,8,8,8,8,8,8,8,8,8,8,8,8,8,8,8,8,8,8,8,8,8,8,8,8,8,8,8,8,8,8,8,8,8,8,8,8,8,8,8,8,8,8,8,8,8]⟩:ByteArray)[((n:Nat):Int).toNat]? =some (UInt8.ofNat (gP n)):=by
 have:∀n,n<256->(⟨#[0,1,2,2,3,3,3,3,4,4,4,4,4,4,4,4,5,5,5,5,5,5,5,5,5,5,5,5,5,5,5,5,6,6,6,6,6,6,6,6,6,6,6,6,6,6,6,6,6,6,6,6,6,6,6,6,6,6,6,6,6,6,6,6,7,7,7,7,7,7,7,7,7,7,7,7,7,7,7,7,7,7,7,7,7,7,7,7,7,7,7,7,7,7,7,7,7,7,7,7,7,7,7,7,7,7,7,7,7,7,7,7,7,7,7,7,7,7,7,7,7,7,7,7,7,7,7,7,8,8,8,8,8,8,8,8,8,8,8,8,8,8,8,8,8,8,8,8,8,8,8,8,8,8,8,8,8,8,8,8,8,8,8,8,8,8,8,8,8,8,8,8,8,8,8,8,8,8,8,8,8,8,8,8,8,8,8,8,8,8,8,8,8,8,8,8,8,8,8,8,8,8,8,8,8,8,8,8,8,8,8,8,8,8,8,8,8,8,8,8,8,8,8,8,8,8,8,8,8,8,8,8,8,8,8,8,8,8,8,8,8,8,8,8,8,8,8,8,8,8,8,8,8,8,8,8]⟩:ByteArray)[n]? =some (UInt8.ofNat (gP n)):=by decide +kernel
 exact this n h
theorem MK(x:Nat)(w:World)(L:x<4294967296):dx PG F'.zP #[.int .u32 x] w (eH w fun v _=>v= .int .i64 (gP x)):=by
 refine Af (by simp) ?_;refine dB.mk ?_ ?_<;>intro h
 ·have h:65536<=x:=by have:=aK h;omega
  refine⟨by decide,((x / 2^16:Nat):Int),oM 16 (by decide),?_⟩;have hb:=zf (k:=16) h;have hy:x / 2^16<65536:=by omega
  rw[hb];generalize x / 2^16=y at*
  refine dB.mk ?_ ?_<;>intro X
  ·have X:256<=y:=by have:=aK X;omega
   refine⟨by decide,((y / 2^8:Nat):Int),oM 8 (by decide),?_⟩;have Qo:=zf (k:=8) X;have hz:y / 2^8<256:=by omega
   rw[Qo];generalize y / 2^8=z at*
   refine⟨24,by decide,(z:Int),xl hz,?_⟩;refine qZ (b:=UInt8.ofNat (gP z)) ((hτ _ _ rfl).i3 rfl) rfl rfl (by omega) (H2 z hz) (fun In w1 r1=>?_);rw[xm hz];have ht:=oL hz;refine⟨(gP z:Int),wo,((24+gP z:Nat):Int),wo,?_⟩;intro IR w3 K;exact⟨_,rfl,r1.cL.tr K.cL,by rw[<-Nat.add_assoc];rfl⟩
  ·have hy:y<256:=by have:=aH X;omega
   refine⟨(y:Int),xl hy,?_⟩;refine qZ (b:=UInt8.ofNat (gP y)) ((hτ _ _ rfl).i3 rfl) rfl rfl (by omega) (H2 y hy) (fun In w1 r1=>?_);rw[xm hy];have ht:=oL hy;refine⟨(gP y:Int),wo,((16+gP y:Nat):Int),wo,?_⟩;intro IR w3 K;exact⟨_,rfl,r1.cL.tr K.cL,by rfl⟩
 ·have h:x<65536:=by have:=aH h;omega
  refine dB.mk ?_ ?_<;>intro X
  ·have X:256<=x:=by have:=aK X;omega
   refine⟨by decide,((x / 2^8:Nat):Int),oM 8 (by decide),?_⟩;have Qo:=zf (k:=8) X;have hz:x / 2^8<256:=by omega
   rw[Qo];generalize x / 2^8=z at*
   refine⟨8,by decide,(z:Int),xl hz,?_⟩;refine qZ (b:=UInt8.ofNat (gP z)) ((hτ _ _ rfl).i3 rfl) rfl rfl (by omega) (H2 z hz) (fun In w1 r1=>?_);rw[xm hz];have ht:=oL hz;refine⟨(gP z:Int),wo,((8+gP z:Nat):Int),wo,?_⟩;intro IR w3 K;exact⟨_,rfl,r1.cL.tr K.cL,by rfl⟩
  ·have L:x<256:=by have:=aH X;omega
   refine⟨(x:Int),xl L,?_⟩;refine qZ (b:=UInt8.ofNat (gP x)) ((hτ _ _ rfl).i3 rfl) rfl rfl (by omega) (H2 x L) (fun In w1 r1=>?_);rw[xm L];have ht:=oL L;refine⟨(gP x:Int),wo,((0+gP x:Nat):Int),wo,?_⟩;intro IR w3 K;exact⟨_,rfl,r1.cL.tr K.cL,by rw[aV];rfl⟩
theorem x9{x:Nat}:gP x<=k↔x<2^k:=by
 unfold gP;by_cases h:x=0
 ·rw[if_pos h,h];exact⟨fun _=>bo k,fun _=>aS _⟩
 ·rw[aI h];constructor
  ·intro I;exact(Nat.log2_lt h).1 (by omega)
  ·intro I;have:=(Nat.log2_lt h).2 I;omega
theorem Nb(x:Nat)(w:World)(L:x<4294967296):dx PG F'.kW #[.int .u32 x] w (eH w fun v _=>v= .int .i64 ((32-gP x:Nat):Int)):=by
 refine oK (by simp) ?_;refine cB (cG (Id:=fun _ _ v _=>v= .int .i64 (gP x)) (fun O J r=>MK x J L) ?_);rintro O J v V r W hb rfl;have h32:gP x<=32:=x9.2 L;refine⟨((32-gP x:Nat):Int),wo,?_⟩;intro IR w3 K;exact⟨_,rfl,hb.tr K.cL,rfl⟩
end Go.Ex
namespace Go.Sx
open Go Go.Ex Go.Proofs
variable{ls:List Nat}{O:Nat->Sx.dL}
theorem Rel.KY{H:Hp}{nx:Nat}{iv:Iv}{B:Nat}{w J:World}(r:Rel H nx iv B w O J){id t m:Nat}(h:cV H id=some (.vec t 1 (E8 ls)))(hm:m=ls.length)(PO:Lm ls)(hle:ls.length<=9223372036854775807):
  cz J (fun g=>B<=g/\g<J.heap.size) ((At.w id m).den O) ls:=by
 subst hm;rcases r.vec id t 1 _ h with⟨Z,hu⟩|⟨Z,spare,hb,hc,QF⟩
 ·have hl:ls=[]:=by cases ls with
   |nil=>rfl
   |cons a b=>simp[E8]at hu
  subst hl;have:(At.w id ([]:List Nat).length).den O= .slice none 0 0:=by simp[At.den,Z]
  rw[this];exact cz.nil _ _
 ·refine⟨PO,hle,some ⟨(O id).g,0,none⟩,(O id).cap,by simp[At.den,Z],?_,fun j x L=>⟨_,rfl,r.low id _ h Z,?_⟩⟩
  ·have I:(E8 ls++spare).length=ls.length+spare.length:=by rw[List.length_append,gF]
   omega
  ·rw[dA,cell_of hb,aV,aJ (by rw[gF];exact(aD.1 L).1)];exact uF L
end Go.Sx
namespace Go.Ex
open Go Go.Sx Go.Proofs
variable{ls:List Nat}{S:Nat->Prop}
theorem ML:PG.underlying T.nat=some (.slice T.uint32):=by
 have h:=(hτ T.nat _ rfl).i4 rfl;exact h
theorem H3{w:World}{v:Value}(F:Old S w)(h:cz w S v ls)(hl:ls.length<=1000000000000):
  dx PG F'.ff #[v] w (eH w fun v' V=>cz V (Nf w V) v' ls):=by
 obtain⟨x,rfl,rfl⟩:=h.la;refine ie (by simp) ?_;refine⟨x.a.isNone,fun O w1 o1 o2=>by simp[eqGuard,SV.den,At.den,mu (P:=PG) w1 T.nat T.uint32 x.a x.ls.length x.c 0 0 ML],?_⟩;refine dB.mk ?_ ?_<;>intro h
 ·intro IR w3 K;have Z:x.ls=[]:=by
   cases L:x.ls with
   |nil=>rfl
   |cons u r=>
    obtain⟨ad,I,_⟩:=x.cell 0 u (by rw[L];rfl);rw[I]at h;simp at h
  exact⟨_,rfl,K.cL,by rw[Z];exact cz.nil _ _⟩
 ·refine .inl ?_;refine⟨E8 x.ls,by rw[gF,aY],fun u hu=>by simp only[E8,aR]at hu;obtain⟨n,_,rfl⟩:=hu;rfl,fun O w1 r h0=>?_,?_⟩
  ·obtain⟨u,hu⟩:∃q,x.ls[0]? =some q:=⟨_,aB h0⟩
   obtain⟨ad,Om,_⟩:=x.cell 0 u hu;refine⟨ad,Om,fun j u hu=>?_⟩;simp only[E8,aM,Option.map_eq_some_iff]at hu;obtain⟨n,Z,rfl⟩:=hu;obtain⟨ad2,Pa,hs,hc⟩:=x.cell j n Z;rw[Om]at Pa;injection Pa with Pa;subst Pa;exact jl F dT.refl r hs hc
  refine⟨rfl,by omega,by unfold maxLen;omega,?_⟩;intro IR w3 K;exact⟨_,rfl,K.cL,(K.KY (id:=1) rfl (aV _) x.lm x.le).cF fun g G=>.inr G⟩
end Go.Ex
