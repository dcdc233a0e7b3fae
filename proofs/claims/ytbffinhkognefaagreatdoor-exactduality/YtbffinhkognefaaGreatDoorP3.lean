/- Texts L1 to X9: lemmas, each with its conditions. -/
import Derived.KernelRfl
import Derived.Test.YtbffinhkognefaaGreatDoorProg
import Derived.Test.YtbffinhkognefaaGreatDoorP2
namespace Go.Ex
variable{a b ls:List Nat}{k:Nat}
def val:List Nat->Nat
 |[]=>0
 |x::r=>x+4294967296*val r
def Lm(ls:List Nat):Prop:=∀x∈ls,x<4294967296
def wt(k:Nat):Nat:=4294967296^k
theorem jV:wt 0=1:=rfl
theorem iy(k:Nat):wt (k+1)=4294967296*wt k:=by rw[wt,Nat.pow_succ,bV];rfl
theorem Ap(a b:Nat):wt (a+b)=wt a*wt b:=by rw[wt,Nat.pow_add];rfl
theorem xS(k:Nat):0<wt k:=Nat.pow_pos bv
theorem jt(a b:List Nat):val (a++b)=val a+wt a.length*val b:=by
 induction a with
 |nil=>simp[val,jV]
 |cons x r ih=>
  rw[List.cons_append,val,val,ih,bZ,iy,bN,bc];omega
theorem oH(h:Lm ls):val ls<wt ls.length:=by
 induction ls with
 |nil=>exact Nat.one_pos
 |cons x r ih=>
  have W:=h x ce;have I:=ih (fun y hy=>h y (by simp[hy]));rw[val,bZ,iy];have:4294967296*(val r+1)<=4294967296*wt r.length:=bh _ I;omega
theorem eW(ls:List Nat)(k:Nat)(h:k<=ls.length):val ls=val (ls.take k)+wt k*val (ls.drop k):=by
 have:=jt (ls.take k) (ls.drop k);rw[List.take_append_drop,bL,Nat.min_eq_left h]at this;exact this
theorem dY{x:Nat}(h:ls[k]? =some x):val (ls.take (k+1))=val (ls.take k)+wt k*x:=by
 have Z:=(aH.1 h).1;rw[bE,h,jt,bL,Nat.min_eq_left be];simp[val]
theorem jO{x:Nat}(h:ls[k]? =some x):val (ls.drop k)=x+4294967296*val (ls.drop (k+1)):=by
 obtain⟨Z,E⟩:=aH.1 h;rw[List.drop_eq_getElem_cons Z,E,val]
theorem wS{o x:Nat}(h:ls[k]? =some o):val (ls.set k x)+wt k*o=val ls+wt k*x:=by
 obtain⟨Z,ho⟩:=aH.1 h;have W:=eW ls k be;have I:=eW (ls.set k x) k (by simp;omega);rw[List.take_set_of_le (ae _)]at I;rw[jO h,bN]at W;have h3:(ls.set k x)[k]? =some x:=by rw[aO Z]
 rw[jO h3,List.drop_set_of_lt be,bN]at I;omega
theorem kD(n:Nat):val (List.replicate n 0)=0:=by
 induction n with
 |zero=>rfl
 |succ n ih=>rw[List.replicate_succ,val,ih]
theorem Lm.set{x:Nat}(h:Lm ls)(E:x<4294967296):Lm (ls.set k x):=fun y hy=>by
 rcases bH hy with W|rfl
 .exact h y W
 .exact E
theorem Lm.replicate(n:Nat):Lm (List.replicate n 0):=fun x E=>by rw[List.mem_replicate]at E;omega
theorem Lm.take(h:Lm ls)(k:Nat):Lm (ls.take k):=fun x E=>h x (List.mem_of_mem_take E)
theorem Lm.drop(h:Lm ls)(k:Nat):Lm (ls.drop k):=fun x E=>h x (List.mem_of_mem_drop E)
theorem Lm.append(ha:Lm a)(N:Lm b):Lm (a++b):=fun x E=>by
 rcases bY.1 E with h|h
 .exact ha x h
 .exact N x h
theorem Lm.at(h:Lm ls){x:Nat}(E:ls[k]? =some x):x<4294967296:=h x (aG E)
def dh:List Nat->List Nat
 |[]=>[]
 |x::r=>match dh r with
  |[]=>if x=0 then []else [x]
  |y::t=>x::y::t
def Nz(ls:List Nat):Prop:=∀x,ls.getLast? =some x->x≠0
theorem kb(ls:List Nat):dh (ls++[0])=dh ls:=by
 induction ls with
 |nil=>rfl
 |cons x r ih=>rw[List.cons_append,dh,ih,dh]
theorem oI(ls:List Nat){x:Nat}(E:x≠0):dh (ls++[x])=ls++[x]:=by
 induction ls with
 |nil=>simp[dh,E]
 |cons y r ih=>
  rw[List.cons_append,dh,ih]
  cases r<;>rfl
theorem sO(ls:List Nat):ls=[]\/∃a x,ls=a++[x]:=by
 rcases List.eq_nil_or_concat ls with h|⟨a,x,h⟩
 .exact .inl h
 .exact .inr ⟨a,x,by simpa using h⟩
theorem e7(ls:List Nat):val (dh ls)=val ls/\Nz (dh ls)/\∃k,k<=ls.length/\dh ls=ls.take k:=by
 have key:∀(n:Nat) (ls:List Nat),ls.length=n->val (dh ls)=val ls/\Nz (dh ls)/\∃k,k<=ls.length/\dh ls=ls.take k:=by
  intro n
  induction n with
  |zero=>intro ls h;have:ls=[]:=List.eq_nil_of_length_eq_zero h;subst this;exact⟨rfl,by simp[Nz,dh],0,ae _,rfl⟩
  |succ n ih=>
   intro ls h;rcases sO ls with rfl|⟨a,x,rfl⟩
   .simp at h
   .by_cases E:x=0
    .subst E;rw[kb];obtain⟨W,I,k,h3,h4⟩:=ih a (by simp at h;omega);refine⟨by rw[W,jt];simp[val],I,k,by simp;omega,?_⟩;rw[h4,List.take_append_of_le_length h3]
    .rw[oI a E];refine⟨rfl,?_,_,ae _,by rw[bF]⟩;intro y hy;simp at hy;subst hy;exact E
 exact key _ ls rfl
theorem CK(h:Nz ls):dh ls=ls:=by
 rcases sO ls with rfl|⟨a,x,rfl⟩
 .rfl
 .exact oI a (h x ce)
theorem ry(h:Nz ls)(OL:ls≠[]):wt (ls.length-1)<=val ls:=by
 rcases sO ls with rfl|⟨a,x,rfl⟩
 .exact absurd rfl OL
 .have E:=h x ce;rw[jt];simp only[val,aU,List.length_singleton,Nat.add_sub_cancel]
  have:wt a.length*1<=wt a.length*(x+4294967296*0):=bh _ be;omega
theorem val_inj:∀{a b:List Nat},Lm a->Lm b->a.length=b.length->val a=val b->a=b
 |[],[],_,_,_,_=>rfl
 |x::r,y::s,ha,N,hl,h=>by
  have W:=ha x ce;have I:=N y ce;rw[val,val]at h;have h3:x=y:=by omega
  have h4:val r=val s:=by omega
  rw[h3,val_inj (fun z hz=>ha z (by simp[hz])) (fun z hz=>N z (by simp[hz])) (by simpa using hl) h4]
 |[],_::_,_,_,h,_=>by simp at h
 |_::_,[],_,_,h,_=>by simp at h
theorem CL{a b:Nat}(h:a<=b):wt a<=wt b:=Nat.pow_le_pow_right bv h
theorem iz(ha:Lm a)(N:Nz b)(h:a.length<b.length):val a<val b:=by
 have W:=oH ha;have I:=ry N (by intro e;rw[e]at h;simp at h);have:=CL (show a.length<=b.length-1 by omega);omega
def ln(n:Nat):Nat:=if n=0 then 0 else n.log2 / 32+1
theorem pe(k:Nat):wt k=2^(32*k):=by rw[wt,show(4294967296:Nat)=2^32 from rfl,<-Nat.pow_mul]
theorem gF{n k:Nat}:ln n<=k↔n<wt k:=by
 unfold ln;by_cases h:n=0
 .rw[aM h,h];exact⟨fun _=>xS k,fun _=>bA _⟩
 .rw[aK h,pe];constructor
  .intro W;have:n.log2<32*k:=by omega
   exact(Nat.log2_lt h).1 this
  .intro W;have:=(Nat.log2_lt h).2 W;omega
theorem kN(n:Nat):n<wt (ln n):=gF.1 (ae _)
theorem e9{a b:Nat}(h:a<=b):ln a<=ln b:=gF.2 (Nat.lt_of_le_of_lt h (kN b))
theorem Dl(a b:Nat):ln (a+b)<=max (ln a) (ln b)+1:=by
 rw[gF,iy];have W:=Nat.lt_of_lt_of_le (kN a) (CL (Nat.le_max_left (ln a) (ln b)));have I:=Nat.lt_of_lt_of_le (kN b) (CL (Nat.le_max_right (ln a) (ln b)));omega
theorem Ku(a b:Nat):ln (a*b)<=ln a+ln b:=by
 rw[gF,Ap];exact Nat.mul_lt_mul'' (kN a) (kN b)
theorem Kv(a b:Nat):ln (a / b)<=ln a:=e9 (Nat.div_le_self a b)
theorem Jb:ln 0=0:=rfl
theorem dX(h:Lm ls)(hz:Nz ls):ls.length=ln (val ls):=by
 by_cases OL:ls=[]
 .subst OL;rfl
 .have W:=oH h;have I:=ry hz OL;have h3:=gF.2 W;have h4:¬ln (val ls)<=ls.length-1:=fun hh=>by have:=gF.1 hh;omega
  omega
end Go.Ex
namespace Go.Ex
open Go Go.Sx
variable{f:(Nat->Sx.dc)->Value}{ls:List Nat}{g:Nat}{p:Nat×Nat}{v:Value}{P:Value->World->Prop}{w1:World}
def Cv(S:Nat->Prop)(B:Nat)(iv:Iv)(g:Nat):Prop:=S g\/(B<=g/\∃lo R,(lo,R)∈iv/\lo<=g/\g<R)
def Nw(S:Nat->Prop)(w F:World)(g:Nat):Prop:=S g\/(w.heap.size<=g/\g<F.heap.size)
def Old(S:Nat->Prop)(w:World):Prop:=∀g,S g->g<w.heap.size
section
variable{S S':Nat->Prop}{H:Hp}{nx:Nat}{iv K:Iv}{B:Nat}{w J F:World}{O:Nat->dc}
theorem Cv.mono(h:Cv S B iv g)(k:∀p,p∈iv->p∈K):Cv S B K g:=by
 rcases h with h|⟨h0,lo,R,W,I⟩
 .exact .inl h
 .exact .inr ⟨h0,lo,R,k _ W,I⟩
theorem Cv.cons(h:Cv S B iv g):Cv S B (p::iv) g:=h.mono fun q hq=>by simp[hq]
theorem rlo(r:Rel H nx iv B w O J)(L:∀g,S g->g<B):Old (Cv S B iv) J:=by
 intro g h;rcases h with h|⟨_,lo,R,W,_,h3⟩
 .have:=L g h;have:=r.base;have:=r.size;omega
 .have:=r.nG lo R W;have:=r.size;omega
theorem rls(r:Rel H nx iv B w O J)(L:∀g,S g->g<B)(h:Cv S B iv g):J.heap[g]? =w.heap[g]? :=by
 rcases h with h|⟨_,lo,R,W,I,h3⟩
 .have:=L g h;exact r.Ad g (by have:=r.base;omega) fun id b N U G=>by have:=(r.low id b N U).1;omega
 .exact r.Ad g (by have:=r.nG lo R W;omega) fun id b N U G=>r.ix lo R W id b N U ⟨be,be⟩
theorem Rel.not(r:Rel H nx iv B w O J)(L:∀g,S g->g<B)(h:Cv S B iv g):∀id b,dF H id=some b->(O id).nil=false->(O id).g≠g:=by
 rcases h with h|⟨_,lo,R,W,I,h3⟩
 .have:=L g h;exact fun id b N U G=>by have:=(r.low id b N U).1;omega
 .exact fun id b N U G=>r.ix lo R W id b N U ⟨be,be⟩
theorem Nw.cv(h:Nw (Cv S B iv) J w1 g)(hB:B<=J.heap.size):Cv S B ((J.heap.size,w1.heap.size)::iv) g:=by
 rcases h with h|h
 .exact h.cons
 .exact .inr ⟨be,_,_,aF,h.1,h.2⟩
theorem Cv.nw{w0:World}(h:Cv S w0.heap.size iv g)(r:Rel H nx iv w0.heap.size w O J):Nw S w0 J g:=by
 rcases h with h|⟨h0,lo,R,W,_,h3⟩
 .exact .inl h
 .exact .inr ⟨h0,by have:=r.nG lo R W;have:=r.size;omega⟩
structure dI(w:World)(S:Nat->Prop)(v:Value)(ls:List Nat):Prop where
 lm:Lm ls
 le:ls.length<=9223372036854775807
 sl:∃a c,v= .slice a ls.length c/\ls.length<=c/\∀(j:Nat) x,ls[j]? =some x->∃ad,a=some ad/\S ad.block/\w.cell? (ad.add j)=some (.int .u32 x)
theorem eQ(ad:Addr)(j:Nat):(ad.add j).block=ad.block:=by
 unfold Addr.add;split<;>rfl
theorem dI.cP(h:dI w S v ls)(Z:∀g,S g->F.heap[g]? =w.heap[g]?):dI F S v ls:=by
 obtain⟨a,c,W,UZ,I⟩:=h.sl;refine⟨h.lm,h.le,a,c,W,UZ,fun j x E=>?_⟩;obtain⟨ad,h3,h4,h5⟩:=I j x E;exact⟨ad,h3,h4,by rw[cg (Z _ (by rw[eQ];exact h4))];exact h5⟩
theorem dI.cO(h:dI w S v ls)(Z:∀g,S g->S' g):dI w S' v ls:=by
 obtain⟨a,c,W,UZ,I⟩:=h.sl;refine⟨h.lm,h.le,a,c,W,UZ,fun j x E=>?_⟩;obtain⟨ad,h3,h4,h5⟩:=I j x E;exact⟨ad,h3,Z _ h4,h5⟩
theorem dI.rel(h:dI w (Cv S B iv) v ls)(r:Rel H nx iv B w O J)(L:∀g,S g->g<B):dI J (Cv S B iv) v ls:=h.cP fun _g V=>rls r L V
theorem dI.nil(w:World)(S:Nat->Prop):dI w S (.slice none 0 0) []:=⟨by simp[Lm],ce,none,0,rfl,ae _,ce⟩
def dQ(w:World)(S:Nat->Prop)(v:Value)(n:Nat):Prop:=∃ls,dI w S v ls/\Nz ls/\val ls=n
theorem dQ.cP{n:Nat}(h:dQ w S v n)(Z:∀g,S g->F.heap[g]? =w.heap[g]?):dQ F S v n:=by
 obtain⟨ls,W,I,h3⟩:=h;exact⟨ls,W.cP Z,I,h3⟩
theorem dQ.cO{n:Nat}(h:dQ w S v n)(Z:∀g,S g->S' g):dQ w S' v n:=by
 obtain⟨ls,W,I,h3⟩:=h;exact⟨ls,W.cO Z,I,h3⟩
theorem dQ.nil(w:World)(S:Nat->Prop):dQ w S (.slice none 0 0) 0:=⟨[],dI.nil w S,by simp[Nz],rfl⟩
end
abbrev iZ(z:Int):SV:=.o (.v (.int .i64 z))
abbrev iN(n:Nat):SV:=.o (.v (.int .i64 (n:Int)))
abbrev sV(a:Option Addr)(n c:Nat):SV:=.o (.v (.slice a n c))
abbrev pP(i j:Nat):SV:=.o (.p i j)
theorem rtn{H:Hp}{nx:Nat}{iv:Iv}{w:World}(Y:Bel w.heap.size w w1)(h:∀O J,Rel H nx iv w.heap.size w1 O J->P (f O) J):∀O J,Rel H nx iv w.heap.size w1 O J->eL w P (.returned (f O)) J:=fun O J r=>⟨_,rfl,Y.tr r.cV,h O J r⟩
abbrev FF:Nat->Prop:=fun _=>False
theorem bR(w:World):Bel w.heap.size w w:=Bel.refl
abbrev Nf(w F:World):Nat->Prop:=Nw (fun _=>False) w F
abbrev Cf(w:World):Iv->Nat->Prop:=Cv (fun _=>False) w.heap.size
section
variable{S:Nat->Prop}{H:Hp}{nx:Nat}{iv:Iv}{B i n:Nat}{w w1 J:World}{O:Nat->Sx.dc}{ad:Addr}{cs:List Value}{x:Value}
theorem kS(Y:Bel B w w1)(r:Rel H nx iv B w1 O J)(L:∀g,S g->g<B):∀g,S g->J.heap[g]? =w.heap[g]? :=fun g V=>(Y.tr r.cV).block g (L g V)
theorem oS(L:∀g,S g->g<B)(r:Rel H nx iv B w O J):∀g,S g->g<J.heap.size:=fun g V=>by have:=L g V;have:=r.base;have:=r.size;omega
theorem rdO(hl:∀(j:Nat) u,cs[j]? =some u->S ad.block/\w.cell? ((ad.add (i*n)).add j)=some u)(Y:Bel B w w1)(L:∀g,S g->g<B):∀O J,Rel H nx iv B w1 O J->∀(j:Nat) u,cs[j]? =some u->J.cell? ((ad.add ((i:Int).toNat*n)).add j)=some u:=fun O J r j u hu=>by
 obtain⟨k1,k2⟩:=hl j u hu;rw[aN,cg (w:=w) (F:=J) (by rw[eQ,eQ];exact(Y.tr r.cV).block _ (L _ k1))];exact k2
theorem rd1(hl:w.cell? (ad.add (i*n))=some x)(Y:Bel B w w1)(N:ad.block<B):∀O J,Rel H nx iv B w1 O J->J.cell? (ad.add ((i:Int).toNat*n))=some x:=fun O J r=>by
 rw[aN,cg (w:=w) (F:=J) (by rw[eQ];exact(Y.tr r.cV).block _ N)];exact hl
end
def xsF:Nat->Nat->List It
 |0,_=>[]
 |n+1,k=>.x k::xsF n (k+1)
abbrev idO(n:Nat):List It:=xsF n 0
abbrev Bq(w x:World):Prop:=Bel w.heap.size w x
abbrev nls:Value:=.slice none 0 0
abbrev iV(z:Int):Value:=.int .i64 z
abbrev rC(a:Bool)(b:Option Addr)(c d:Nat)(e:Bool)(f:Option Addr)(g h:Nat):List Value:=[.bool a,.slice b c d,.bool e,.slice f g h]
abbrev pR{α:Type}(P:World->(Nat->Prop)->Value->α->Prop)(q:α):(Nat->Sx.dc)->World->Value->World->Prop:=fun _ J v F=>P F (Nf J F) v q
abbrev pE(x:Value):(Nat->Sx.dc)->World->Value->World->Prop:=fun _ _ v _=>v=x
end Go.Ex
namespace Go.Ex
open Go Go.Sx Go.Proofs
variable{ops:Array Oper}{args:Array Value}{FS:Ending->World->Prop}{H:Hp}{iv:Iv}{ls:List Nat}{k nx:Nat}{S:Nat->Prop}{O:Nat->Sx.dc}{v:Value}{w:World}
noncomputable abbrev PG:Program:=Tryz.prog
def slT(e:Nat):TI:={size:=1,bytes:=24,zero:=[.slice none 0 0],agg:=false,tag:=4,elem:=e}
def MQ:List (Nat×TI):=[
 (3,{size:=1,bytes:=8,zero:=[.int .i64 0],agg:=false,tag:=1,ik:=.i64}),
 (4,{size:=1,bytes:=1,zero:=[.bool false],agg:=false,tag:=2}),
 (23,slT 35),
 (78,slT 118),
 (71,slT 82),
 (33,{size:=2,bytes:=32,zero:=[.bool false,.slice none 0 0],agg:=true,tag:=5,fields:=[(0,4),(1,31)]}),
 (35,{size:=4,bytes:=64,zero:=[.bool false,.slice none 0 0,.bool false,.slice none 0 0],agg:=true,tag:=5,fields:=[(0,33),(2,33)]}),
 (82,{size:=4,bytes:=64,zero:=[.bool false,.slice none 0 0,.bool false,.slice none 0 0],agg:=true,tag:=5,fields:=[(0,80),(2,80)]}),
 (76,slT 3),
 (22,slT 23),
 (118,{size:=1,bytes:=4,zero:=[.int .u32 0],agg:=false,tag:=1,ik:=.u32}),
 (9,{size:=1,bytes:=16,zero:=[.string ⟨#[]⟩],agg:=false,tag:=3}),
 (80,{size:=2,bytes:=32,zero:=[.bool false,.slice none 0 0],agg:=true,tag:=5,fields:=[(0,4),(1,78)]}),
 (25,{size:=3,bytes:=72,zero:=[.slice none 0 0,.slice none 0 0,.slice none 0 0],agg:=true,tag:=5,fields:=[(0,22),(1,23),(2,23)]}),
 (77,slT 71),
 (5,{size:=1,bytes:=1,zero:=[.int .u8 0],agg:=false,tag:=1,ik:=.u8}),
 (147,{size:=1,bytes:=8,zero:=[.int .u64 0],agg:=false,tag:=1,ik:=.u64}),
 (21,{size:=1,bytes:=4,zero:=[.int .i32 0],agg:=false,tag:=1,ik:=.i32}),
 (68,{size:=1,bytes:=8,zero:=[.pointer none],agg:=false,tag:=7}),
 (38,{size:=1,bytes:=8,zero:=[.int .i64 0],agg:=false,tag:=1,ik:=.i64}),
 (84,{size:=9,bytes:=184,zero:=[.slice none 0 0,.slice none 0 0,.slice none 0 0,.slice none 0 0,.slice none 0 0,.bool false,.slice none 0 0,.bool false,.slice none 0 0],agg:=true,tag:=5,fields:=[(0,76),(1,76),(2,77),(3,71),(4,71),(5,82)]}),
 (37,{size:=8,bytes:=144,zero:=[.int .i64 0,.slice none 0 0,.slice none 0 0,.slice none 0 0,.bool false,.slice none 0 0,.bool false,.slice none 0 0],agg:=true,tag:=5,fields:=[(0,3),(1,23),(2,23),(3,23),(4,35)]}),
 (31,slT 118),
 (100,{size:=10,bytes:=208,zero:=[.slice none 0 0,.slice none 0 0,.slice none 0 0,.slice none 0 0,.slice none 0 0,.slice none 0 0,.bool false,.slice none 0 0,.bool false,.slice none 0 0],agg:=true,tag:=5,fields:=[(0,77),(1,71),(2,71),(3,71),(4,71),(5,71),(6,82)]}),
 (184,slT 5),
 (200,{size:=1,bytes:=8,zero:=[.pointer none],agg:=false,tag:=7}),
 (148,{size:=1,bytes:=8,zero:=[.int .u64 0],agg:=false,tag:=1,ik:=.u64}),
 (137,slT 76),
 (182,slT 9),
 (59,{size:=4,bytes:=80,zero:=[.int .i64 0,.slice none 0 0,.slice none 0 0,.slice none 0 0],agg:=true,tag:=5,fields:=[(0,3),(1,23),(2,22),(3,23)]}),
 (115,{size:=3,bytes:=72,zero:=[.slice none 0 0,.slice none 0 0,.slice none 0 0],agg:=true,tag:=5,fields:=[(0,71),(1,71),(2,77)]}),
 (218,{size:=2,bytes:=2,zero:=[.int .u8 0,.int .u8 0],agg:=true,tag:=5,fields:=[(0,5),(1,5)]}),
 (195,{size:=256,bytes:=256,zero:=[.bool false,.bool false,.bool false,.bool false,.bool false,.bool false,.bool false,.bool false,.bool false,.bool false,.bool false,.bool false,.bool false,.bool false,.bool false,.bool false,.bool false,.bool false,.bool false,.bool false,.bool false,.bool false,.bool false,.bool false,.bool false,.bool false,.bool false,.bool false,.bool false,.bool false,.bool false,.bool false,.bool false,.bool false,.bool false,.bool false,.bool false,.bool false,.bool false,.bool false,.bool false,.bool false,.bool false,.bool false,.bool false,.bool false,.bool false,.bool false,.bool false,.bool false,.bool false,.bool false,.bool false,.bool false,.bool false,.bool false,.bool false,.bool false,.bool false,.bool false,.bool false,.bool false,.bool false,.bool false,.bool false,.bool false,.bool false,.bool false,.bool false,.bool false,.bool false,.bool false,.bool false,.bool false,.bool false,.bool false,.bool false,.bool false,.bool false,.bool false,.bool false,.bool false,.bool false,.bool false,.bool false,.bool false,.bool false,.bool false,.bool false,.bool false,.bool false,.bool false,.bool false,.bool false,.bool false,.bool false,.bool false,.bool false,.bool false,.bool false,.bool false,.bool false,.bool false,.bool false,.bool false,.bool false,.bool false,.bool false,.bool false,.bool false,.bool false,.bool false,.bool false,.bool false,.bool false,.bool false,.bool false,.bool false,.bool false,.bool false,.bool false,.bool false,.bool false,.bool false,.bool false,.bool false,.bool false,.bool false,.bool false,.bool false,.bool false,.bool false,.bool false,.bool false,.bool false,.bool false,.bool false,.bool false,.bool false,.bool false,.bool false,.bool false,.bool false,.bool false,.bool false,.bool false,.bool false,.bool false,.bool false,.bool false,.bool false,.bool false,.bool false,.bool false,.bool false,.bool false,.bool false,.bool false,.bool false,.bool false,.bool false,.bool false,.bool false,.bool false,.bool false,.bool false,.bool false,.bool false,.bool false,.bool false,.bool false,.bool false,.bool false,.bool false,.bool false,.bool false,.bool false,.bool false,.bool false,.bool false,.bool false,.bool false,.bool false,.bool false,.bool false,.bool false,.bool false,.bool false,.bool false,.bool false,.bool false,.bool false,.bool false,.bool false,.bool false,.bool false,.bool false,.bool false,.bool false,.bool false,.bool false,.bool false,.bool false,.bool false,.bool false,.bool false,.bool false,.bool false,.bool false,.bool false,.bool false,.bool false,.bool false,.bool false,.bool false,.bool false,.bool false,.bool false,.bool false,.bool false,.bool false,.bool false,.bool false,.bool false,.bool false,.bool false,.bool false,.bool false,.bool false,.bool false,.bool false,.bool false,.bool false,.bool false,.bool false,.bool false,.bool false,.bool false,.bool false,.bool false,.bool false,.bool false,.bool false,.bool false,.bool false,.bool false,.bool false,.bool false,.bool false,.bool false,.bool false,.bool false,.bool false,.bool false,.bool false,.bool false],agg:=true,tag:=6,zE:=256,elem:=4}),
 (202,{size:=2,bytes:=32,zero:=[.pointer none,.slice none 0 0],agg:=true,tag:=5,fields:=[(0,200),(1,184)]}),
 (191,slT 78),
 (199,{size:=1,bytes:=8,zero:=[.pointer none],agg:=false,tag:=7}),
 (219,{size:=32,bytes:=32,zero:=[.int .u8 0,.int .u8 0,.int .u8 0,.int .u8 0,.int .u8 0,.int .u8 0,.int .u8 0,.int .u8 0,.int .u8 0,.int .u8 0,.int .u8 0,.int .u8 0,.int .u8 0,.int .u8 0,.int .u8 0,.int .u8 0,.int .u8 0,.int .u8 0,.int .u8 0,.int .u8 0,.int .u8 0,.int .u8 0,.int .u8 0,.int .u8 0,.int .u8 0,.int .u8 0,.int .u8 0,.int .u8 0,.int .u8 0,.int .u8 0,.int .u8 0,.int .u8 0],agg:=true,tag:=6,zE:=16,elem:=218}),
 (183,{size:=9,bytes:=9,zero:=[.int .u8 0,.int .u8 0,.int .u8 0,.int .u8 0,.int .u8 0,.int .u8 0,.int .u8 0,.int .u8 0,.int .u8 0],agg:=true,tag:=6,zE:=9,elem:=5}),
 (165,{size:=1,bytes:=8,zero:=[.nilFunc],agg:=false,tag:=0}),
 (211,{size:=1,bytes:=8,zero:=[.pointer none],agg:=false,tag:=7}),
 (8,{size:=4,bytes:=24,zero:=[.int .i64 0,.int .i64 0,.bool false,.int .u8 0],agg:=true,tag:=5,fields:=[(0,2),(1,3),(2,4),(3,6)]}),
 (10,{size:=1,bytes:=16,zero:=[.string ⟨#[]⟩],agg:=false,tag:=3}),
 (11,{size:=1,bytes:=16,zero:=[.string ⟨#[]⟩],agg:=false,tag:=3}),
 (14,{size:=2,bytes:=24,zero:=[.string ⟨#[]⟩,.int .u64 0],agg:=true,tag:=5,fields:=[(0,9),(1,12)]}),
 (15,{size:=1,bytes:=8,zero:=[.pointer none],agg:=false,tag:=7}),
 (16,{size:=1,bytes:=8,zero:=[.pointer none],agg:=false,tag:=7}),
 (19,{size:=1,bytes:=8,zero:=[.pointer none],agg:=true,tag:=5,fields:=[(0,17)]}),
 (216,{size:=256,bytes:=256,zero:=[.int .u8 0,.int .u8 0,.int .u8 0,.int .u8 0,.int .u8 0,.int .u8 0,.int .u8 0,.int .u8 0,.int .u8 0,.int .u8 0,.int .u8 0,.int .u8 0,.int .u8 0,.int .u8 0,.int .u8 0,.int .u8 0,.int .u8 0,.int .u8 0,.int .u8 0,.int .u8 0,.int .u8 0,.int .u8 0,.int .u8 0,.int .u8 0,.int .u8 0,.int .u8 0,.int .u8 0,.int .u8 0,.int .u8 0,.int .u8 0,.int .u8 0,.int .u8 0,.int .u8 0,.int .u8 0,.int .u8 0,.int .u8 0,.int .u8 0,.int .u8 0,.int .u8 0,.int .u8 0,.int .u8 0,.int .u8 0,.int .u8 0,.int .u8 0,.int .u8 0,.int .u8 0,.int .u8 0,.int .u8 0,.int .u8 0,.int .u8 0,.int .u8 0,.int .u8 0,.int .u8 0,.int .u8 0,.int .u8 0,.int .u8 0,.int .u8 0,.int .u8 0,.int .u8 0,.int .u8 0,.int .u8 0,.int .u8 0,.int .u8 0,.int .u8 0,.int .u8 0,.int .u8 0,.int .u8 0,.int .u8 0,.int .u8 0,.int .u8 0,.int .u8 0,.int .u8 0,.int .u8 0,.int .u8 0,.int .u8 0,.int .u8 0,.int .u8 0,.int .u8 0,.int .u8 0,.int .u8 0,.int .u8 0,.int .u8 0,.int .u8 0,.int .u8 0,.int .u8 0,.int .u8 0,.int .u8 0,.int .u8 0,.int .u8 0,.int .u8 0,.int .u8 0,.int .u8 0,.int .u8 0,.int .u8 0,.int .u8 0,.int .u8 0,.int .u8 0,.int .u8 0,.int .u8 0,.int .u8 0,.int .u8 0,.int .u8 0,.int .u8 0,.int .u8 0,.int .u8 0,.int .u8 0,.int .u8 0,.int .u8 0,.int .u8 0,.int .u8 0,.int .u8 0,.int .u8 0,.int .u8 0,.int .u8 0,.int .u8 0,.int .u8 0,.int .u8 0,.int .u8 0,.int .u8 0,.int .u8 0,.int .u8 0,.int .u8 0,.int .u8 0,.int .u8 0,.int .u8 0,.int .u8 0,.int .u8 0,.int .u8 0,.int .u8 0,.int .u8 0,.int .u8 0,.int .u8 0,.int .u8 0,.int .u8 0,.int .u8 0,.int .u8 0,.int .u8 0,.int .u8 0,.int .u8 0,.int .u8 0,.int .u8 0,.int .u8 0,.int .u8 0,.int .u8 0,.int .u8 0,.int .u8 0,.int .u8 0,.int .u8 0,.int .u8 0,.int .u8 0,.int .u8 0,.int .u8 0,.int .u8 0,.int .u8 0,.int .u8 0,.int .u8 0,.int .u8 0,.int .u8 0,.int .u8 0,.int .u8 0,.int .u8 0,.int .u8 0,.int .u8 0,.int .u8 0,.int .u8 0,.int .u8 0,.int .u8 0,.int .u8 0,.int .u8 0,.int .u8 0,.int .u8 0,.int .u8 0,.int .u8 0,.int .u8 0,.int .u8 0,.int .u8 0,.int .u8 0,.int .u8 0,.int .u8 0,.int .u8 0,.int .u8 0,.int .u8 0,.int .u8 0,.int .u8 0,.int .u8 0,.int .u8 0,.int .u8 0,.int .u8 0,.int .u8 0,.int .u8 0,.int .u8 0,.int .u8 0,.int .u8 0,.int .u8 0,.int .u8 0,.int .u8 0,.int .u8 0,.int .u8 0,.int .u8 0,.int .u8 0,.int .u8 0,.int .u8 0,.int .u8 0,.int .u8 0,.int .u8 0,.int .u8 0,.int .u8 0,.int .u8 0,.int .u8 0,.int .u8 0,.int .u8 0,.int .u8 0,.int .u8 0,.int .u8 0,.int .u8 0,.int .u8 0,.int .u8 0,.int .u8 0,.int .u8 0,.int .u8 0,.int .u8 0,.int .u8 0,.int .u8 0,.int .u8 0,.int .u8 0,.int .u8 0,.int .u8 0,.int .u8 0,.int .u8 0,.int .u8 0,.int .u8 0,.int .u8 0,.int .u8 0,.int .u8 0,.int .u8 0,.int .u8 0,.int .u8 0,.int .u8 0,.int .u8 0,.int .u8 0,.int .u8 0,.int .u8 0,.int .u8 0,.int .u8 0,.int .u8 0,.int .u8 0,.int .u8 0,.int .u8 0,.int .u8 0,.int .u8 0,.int .u8 0,.int .u8 0,.int .u8 0,.int .u8 0,.int .u8 0,.int .u8 0],agg:=true,tag:=6,zE:=256,elem:=5}),
 (17,{size:=1,bytes:=8,zero:=[.pointer none],agg:=false,tag:=7}),
 (229,{size:=1,bytes:=1,zero:=[.int .u8 0],agg:=false,tag:=1,ik:=.u8}),
 (2,{size:=1,bytes:=8,zero:=[.int .i64 0],agg:=false,tag:=1,ik:=.i64}),
 (6,{size:=1,bytes:=1,zero:=[.int .u8 0],agg:=false,tag:=1,ik:=.u8}),
 (12,{size:=1,bytes:=8,zero:=[.int .u64 0],agg:=false,tag:=1,ik:=.u64})]
def τ:lO:=wN MQ
theorem hτ:en PG τ:=Kp (l:=MQ) d6
theorem uJ:PG.follows .mixedOrders=true:=by rfl
noncomputable def bd (f:Func):Code:=match f.body with
 |some c=>c
 |none=>.skip
theorem dO{f:FuncId}{fn:Func}(hf:PG.funcs[f]? =some fn)(N:fn.body=some (bd fn))(VT:(fn.name== "runtime.NumGoroutine")=false)
  (U:args.size<=fn.ntmps) (OV:codeOk fn.ntmps (bd fn)=true) (h:jW PG τ w.heap.size (bd fn) (gW 0 args.toList) [] 0 [] w (Kt τ w.heap.size fn.results.toList FS)):eD PG f args w FS:=
 ⟨Fz hf N VT,CJ hτ hf N U OV h⟩
abbrev T.int:Nat:=3
abbrev T.bool:Nat:=4
abbrev T.uint8:Nat:=5
abbrev T.string:Nat:=9
abbrev T.BF:Nat:=23
abbrev T.Program:Nat:=25
abbrev T.Int:Nat:=33
abbrev T.Rat:Nat:=35
abbrev T.row:Nat:=71
abbrev T.nat:Nat:=78
abbrev T.number:Nat:=80
abbrev T.cw:Nat:=82
abbrev T.table:Nat:=84
abbrev T.solved:Nat:=115
abbrev T.uint32:Nat:=118
abbrev T.IK:Nat:=183
abbrev T.LJ:Nat:=184
abbrev Fd.lj:Nat:=3
abbrev Fd.qD:Nat:=5
abbrev Fd.lk:Nat:=6
abbrev Fd.qE:Nat:=7
abbrev Fd.ux:Nat:=8
abbrev Fd.xh:Nat:=9
abbrev Fd.jg:Nat:=10
abbrev Fd.uy:Nat:=11
abbrev Fd.zz:Nat:=12
abbrev Fd.AA:Nat:=13
abbrev Fd.qF:Nat:=14
abbrev Fd.AB:Nat:=15
abbrev Fd.qG:Nat:=20
abbrev Fd.mT:Nat:=21
abbrev Fd.sA:Nat:=22
abbrev Fd.oN:Nat:=23
abbrev Fd.Ck:Nat:=24
abbrev Fd.kf:Nat:=25
abbrev Fd.qH:Nat:=26
abbrev Fd.qI:Nat:=27
abbrev Fd.mq:Nat:=28
abbrev Fd.Cl:Nat:=29
abbrev Fd.oO:Nat:=30
abbrev Fd.qJ:Nat:=31
abbrev Fd.ow:Nat:=32
abbrev Fd.ll:Nat:=33
abbrev Fd.uz:Nat:=34
abbrev Fd.iY:Nat:=35
abbrev Fd.qK:Nat:=36
abbrev Fd.vA:Nat:=37
abbrev Fd.mU:Nat:=38
abbrev Fd.mV:Nat:=39
abbrev Fd.jm:Nat:=40
abbrev Fd.lu:Nat:=41
abbrev Fd.kq:Nat:=42
abbrev Fd.oP:Nat:=43
abbrev Fd.AD:Nat:=44
abbrev Fd.tC:Nat:=45
abbrev Fd.sS:Nat:=46
abbrev Fd.vD:Nat:=47
abbrev Fd.sB:Nat:=48
abbrev Fd.vE:Nat:=49
abbrev Fd.vF:Nat:=50
abbrev Fd.AE:Nat:=51
abbrev Fd.AF:Nat:=52
abbrev Fd.xj:Nat:=53
abbrev Fd.tD:Nat:=57
abbrev Fd.tE:Nat:=58
abbrev Fd.vG:Nat:=59
abbrev Fd.lz:Nat:=63
abbrev Fd.kr:Nat:=64
abbrev Fd.vH:Nat:=65
abbrev Fd.xk:Nat:=66
abbrev Fd.mW:Nat:=67
abbrev Fd.ku:Nat:=68
abbrev Fd.mX:Nat:=69
abbrev Fd.vI:Nat:=70
abbrev Fd.mA:Nat:=71
abbrev Fd.qL:Nat:=72
abbrev Fd.xl:Nat:=73
abbrev Fd.mY:Nat:=74
abbrev Fd.vJ:Nat:=75
abbrev Fd.vK:Nat:=76
abbrev Fd.kF:Nat:=77
abbrev Fd.kv:Nat:=78
abbrev Fd.mZ:Nat:=79
abbrev Fd.sC:Nat:=80
abbrev Fd.vL:Nat:=81
abbrev Fd.ma:Nat:=82
abbrev Fd.kx:Nat:=83
abbrev Fd.ky:Nat:=84
abbrev Fd.kP:Nat:=85
abbrev Fd.kz:Nat:=86
abbrev Fd.kQ:Nat:=87
abbrev Fd.xm:Nat:=88
abbrev Fd.vM:Nat:=89
abbrev Fd.tF:Nat:=90
abbrev Fd.tG:Nat:=91
abbrev Fd.oQ:Nat:=92
abbrev Fd.AG:Nat:=93
abbrev Fd.vN:Nat:=94
abbrev Fd.AH:Nat:=95
abbrev Fd.xn:Nat:=96
abbrev Fd.lA:Nat:=102
abbrev Fd.kR:Nat:=103
abbrev Fd.nP:Nat:=104
abbrev Fd.mb:Nat:=105
abbrev Fd.nQ:Nat:=106
abbrev Fd.qM:Nat:=107
abbrev Fd.ox:Nat:=108
abbrev Fd.fX:Nat:=109
abbrev Fd.oy:Nat:=110
abbrev Fd.nR:Nat:=111
abbrev Fd.qN:Nat:=112
abbrev Fd.sD:Nat:=113
abbrev Fd.mB:Nat:=114
abbrev Fd.tI:Nat:=115
abbrev Fd.eH:Nat:=116
abbrev Fd.tJ:Nat:=117
abbrev Fd.ee:Nat:=118
abbrev Fd.kg:Nat:=119
abbrev Fd.mc:Nat:=120
abbrev Fd.tK:Nat:=121
abbrev Fd.sE:Nat:=122
abbrev Fd.tL:Nat:=123
abbrev Fd.tM:Nat:=124
abbrev Fd.nS:Nat:=125
abbrev Fd.kG:Nat:=126
abbrev Fd.fm:Nat:=127
abbrev Fd.dz:Nat:=128
abbrev Fd.fE:Nat:=129
abbrev Fd.fT:Nat:=130
abbrev Fd.dR:Nat:=131
abbrev Fd.xo:Nat:=132
abbrev Fd.mu:Nat:=133
abbrev Fd.tN:Nat:=134
abbrev Fd.xp:Nat:=135
abbrev Fd.Cm:Nat:=136
abbrev Fd.me:Nat:=139
abbrev Fd.oz:Nat:=140
abbrev Fd.lC:Nat:=141
abbrev Fd.mf:Nat:=142
abbrev Fd.pA:Nat:=143
abbrev Fd.xq:Nat:=144
abbrev Fd.xt:Nat:=145
abbrev Fd.fS:Nat:=146
abbrev Fd.ep:Nat:=147
abbrev Fd.gh:Nat:=148
abbrev Fd.nT:Nat:=149
abbrev Fd.oR:Nat:=150
abbrev Fd.xu:Nat:=153
abbrev Fd.qO:Nat:=154
abbrev Fd.fo:Nat:=155
abbrev Fd.kT:Nat:=156
abbrev Ent(g:Nat)(f:Func):Prop:=∀{args:Array Value} {w:World} {FS:Ending->World->Prop},args.size<=f.ntmps->jW PG τ w.heap.size (bd f) (gW 0 args.toList) [] 0 [] w (Kt τ w.heap.size f.results.toList FS)->eD PG g args w FS
theorem pG:Ent Fd.lj Tryz.f3:=fun U h=>dO Tryz.func3 d5 d5 U d5 h
theorem xw:Ent Fd.qD Tryz.f5:=fun U h=>dO Tryz.func5 d5 d5 U d5 h
theorem pH:Ent Fd.lk Tryz.f6:=fun U h=>dO Tryz.func6 d5 d5 U d5 h
theorem xx:Ent Fd.qE Tryz.f7:=fun U h=>dO Tryz.func7 d5 d5 U d5 h
theorem xy:Ent Fd.ux Tryz.f8:=fun U h=>dO Tryz.func8 d5 d5 U d5 h
theorem zJ:Ent Fd.xh Tryz.f9:=fun U h=>dO Tryz.func9 d5 d5 U d5 h
theorem tO:Ent Fd.jg Tryz.f10:=fun U h=>dO Tryz.func10 d5 d5 U d5 h
theorem xz:Ent Fd.uy Tryz.f11:=fun U h=>dO Tryz.func11 d5 d5 U d5 h
theorem BG:Ent Fd.zz Tryz.f12:=fun U h=>dO Tryz.func12 d5 d5 U d5 h
theorem BH:Ent Fd.AA Tryz.f13:=fun U h=>dO Tryz.func13 d5 d5 U d5 h
theorem tP:Ent Fd.qF Tryz.f14:=fun U h=>dO Tryz.func14 d5 d5 U d5 h
theorem BI:Ent Fd.AB Tryz.f15:=fun U h=>dO Tryz.func15 d5 d5 U d5 h
theorem yA:Ent Fd.qG Tryz.f20:=fun U h=>dO Tryz.func20 d5 d5 U d5 h
theorem qP:Ent Fd.mT Tryz.f21:=fun U h=>dO Tryz.func21 d5 d5 U d5 h
theorem uK:Ent Fd.sA Tryz.f22:=fun U h=>dO Tryz.func22 d5 d5 U d5 h
theorem vt:Ent Fd.oN Tryz.f23:=fun U h=>dO Tryz.func23 d5 d5 U d5 h
theorem Cn:Ent Fd.Ck Tryz.f24:=fun U h=>dO Tryz.func24 d5 d5 U d5 h
theorem sT:Ent Fd.kf Tryz.f25:=fun U h=>dO Tryz.func25 d5 d5 U d5 h
theorem yB:Ent Fd.qH Tryz.f26:=fun U h=>dO Tryz.func26 d5 d5 U d5 h
theorem qQ:Ent Fd.qI Tryz.f27:=fun U h=>dO Tryz.func27 d5 d5 U d5 h
theorem uL:Ent Fd.mq Tryz.f28:=fun U h=>dO Tryz.func28 d5 d5 U d5 h
theorem Co:Ent Fd.Cl Tryz.f29:=fun U h=>dO Tryz.func29 d5 d5 U d5 h
theorem vu:Ent Fd.oO Tryz.f30:=fun U h=>dO Tryz.func30 d5 d5 U d5 h
theorem tQ:Ent Fd.qJ Tryz.f31:=fun U h=>dO Tryz.func31 d5 d5 U d5 h
theorem sU:Ent Fd.ow Tryz.f32:=fun U h=>dO Tryz.func32 d5 d5 U d5 h
theorem pI:Ent Fd.ll Tryz.f33:=fun U h=>dO Tryz.func33 d5 d5 U d5 h
theorem yC:Ent Fd.uz Tryz.f34:=fun U h=>dO Tryz.func34 d5 d5 U d5 h
theorem nU:Ent Fd.iY Tryz.f35:=fun U h=>dO Tryz.func35 d5 d5 U d5 h
theorem tR:Ent Fd.qK Tryz.f36:=fun U h=>dO Tryz.func36 d5 d5 U d5 h
theorem yD:Ent Fd.vA Tryz.f37:=fun U h=>dO Tryz.func37 d5 d5 U d5 h
theorem qR:Ent Fd.mU Tryz.f38:=fun U h=>dO Tryz.func38 d5 d5 U d5 h
theorem qS:Ent Fd.mV Tryz.f39:=fun U h=>dO Tryz.func39 d5 d5 U d5 h
theorem mw:Ent Fd.jm Tryz.f40:=fun U h=>dO Tryz.func40 d5 d5 U d5 h
theorem pJ:Ent Fd.lu Tryz.f41:=fun U h=>dO Tryz.func41 d5 d5 U d5 h
theorem oT:Ent Fd.kq Tryz.f42:=fun U h=>dO Tryz.func42 d5 d5 U d5 h
theorem vw:Ent Fd.oP Tryz.f43:=fun U h=>dO Tryz.func43 d5 d5 U d5 h
theorem BJ:Ent Fd.AD Tryz.f44:=fun U h=>dO Tryz.func44 d5 d5 U d5 h
theorem vz:Ent Fd.tC Tryz.f45:=fun U h=>dO Tryz.func45 d5 d5 U d5 h
theorem sF:Ent Fd.sS Tryz.f46:=fun U h=>dO Tryz.func46 d5 d5 U d5 h
theorem yE:Ent Fd.vD Tryz.f47:=fun U h=>dO Tryz.func47 d5 d5 U d5 h
theorem uM:Ent Fd.sB Tryz.f48:=fun U h=>dO Tryz.func48 d5 d5 U d5 h
theorem yF:Ent Fd.vE Tryz.f49:=fun U h=>dO Tryz.func49 d5 d5 U d5 h
theorem yG:Ent Fd.vF Tryz.f50:=fun U h=>dO Tryz.func50 d5 d5 U d5 h
theorem BK:Ent Fd.AE Tryz.f51:=fun U h=>dO Tryz.func51 d5 d5 U d5 h
theorem BL:Ent Fd.AF Tryz.f52:=fun U h=>dO Tryz.func52 d5 d5 U d5 h
theorem zK:Ent Fd.xj Tryz.f53:=fun U h=>dO Tryz.func53 d5 d5 U d5 h
theorem wA:Ent Fd.tD Tryz.f57:=fun U h=>dO Tryz.func57 d5 d5 U d5 h
theorem wB:Ent Fd.tE Tryz.f58:=fun U h=>dO Tryz.func58 d5 d5 U d5 h
theorem yH:Ent Fd.vG Tryz.f59:=fun U h=>dO Tryz.func59 d5 d5 U d5 h
theorem pK:Ent Fd.lz Tryz.f63:=fun U h=>dO Tryz.func63 d5 d5 U d5 h
theorem oU:Ent Fd.kr Tryz.f64:=fun U h=>dO Tryz.func64 d5 d5 U d5 h
theorem yI:Ent Fd.vH Tryz.f65:=fun U h=>dO Tryz.func65 d5 d5 U d5 h
theorem Cp:Ent Fd.xk Tryz.f66:=fun U h=>dO Tryz.func66 d5 d5 U d5 h
theorem qT:Ent Fd.mW Tryz.f67:=fun U h=>dO Tryz.func67 d5 d5 U d5 h
theorem oV:Ent Fd.ku Tryz.f68:=fun U h=>dO Tryz.func68 d5 d5 U d5 h
theorem qU:Ent Fd.mX Tryz.f69:=fun U h=>dO Tryz.func69 d5 d5 U d5 h
theorem yJ:Ent Fd.vI Tryz.f70:=fun U h=>dO Tryz.func70 d5 d5 U d5 h
theorem pL:Ent Fd.mA Tryz.f71:=fun U h=>dO Tryz.func71 d5 d5 U d5 h
theorem tS:Ent Fd.qL Tryz.f72:=fun U h=>dO Tryz.func72 d5 d5 U d5 h
theorem zL:Ent Fd.xl Tryz.f73:=fun U h=>dO Tryz.func73 d5 d5 U d5 h
theorem qV:Ent Fd.mY Tryz.f74:=fun U h=>dO Tryz.func74 d5 d5 U d5 h
theorem yK:Ent Fd.vJ Tryz.f75:=fun U h=>dO Tryz.func75 d5 d5 U d5 h
theorem yL:Ent Fd.vK Tryz.f76:=fun U h=>dO Tryz.func76 d5 d5 U d5 h
theorem uN:Ent Fd.kF Tryz.f77:=fun U h=>dO Tryz.func77 d5 d5 U d5 h
theorem oW:Ent Fd.kv Tryz.f78:=fun U h=>dO Tryz.func78 d5 d5 U d5 h
theorem qW:Ent Fd.mZ Tryz.f79:=fun U h=>dO Tryz.func79 d5 d5 U d5 h
theorem uO:Ent Fd.sC Tryz.f80:=fun U h=>dO Tryz.func80 d5 d5 U d5 h
theorem yM:Ent Fd.vL Tryz.f81:=fun U h=>dO Tryz.func81 d5 d5 U d5 h
theorem qX:Ent Fd.ma Tryz.f82:=fun U h=>dO Tryz.func82 d5 d5 U d5 h
theorem oX:Ent Fd.kx Tryz.f83:=fun U h=>dO Tryz.func83 d5 d5 U d5 h
theorem oY:Ent Fd.ky Tryz.f84:=fun U h=>dO Tryz.func84 d5 d5 U d5 h
theorem nV:Ent Fd.kP Tryz.f85:=fun U h=>dO Tryz.func85 d5 d5 U d5 h
theorem oZ:Ent Fd.kz Tryz.f86:=fun U h=>dO Tryz.func86 d5 d5 U d5 h
theorem nW:Ent Fd.kQ Tryz.f87:=fun U h=>dO Tryz.func87 d5 d5 U d5 h
theorem zM:Ent Fd.xm Tryz.f88:=fun U h=>dO Tryz.func88 d5 d5 U d5 h
theorem yN:Ent Fd.vM Tryz.f89:=fun U h=>dO Tryz.func89 d5 d5 U d5 h
theorem wC:Ent Fd.tF Tryz.f90:=fun U h=>dO Tryz.func90 d5 d5 U d5 h
theorem wD:Ent Fd.tG Tryz.f91:=fun U h=>dO Tryz.func91 d5 d5 U d5 h
theorem wE:Ent Fd.oQ Tryz.f92:=fun U h=>dO Tryz.func92 d5 d5 U d5 h
theorem BM:Ent Fd.AG Tryz.f93:=fun U h=>dO Tryz.func93 d5 d5 U d5 h
theorem yO:Ent Fd.vN Tryz.f94:=fun U h=>dO Tryz.func94 d5 d5 U d5 h
theorem BN:Ent Fd.AH Tryz.f95:=fun U h=>dO Tryz.func95 d5 d5 U d5 h
theorem zN:Ent Fd.xn Tryz.f96:=fun U h=>dO Tryz.func96 d5 d5 U d5 h
theorem o9:Ent Fd.lA Tryz.f102:=fun U h=>dO Tryz.func102 d5 d5 U d5 h
theorem nX:Ent Fd.kR Tryz.f103:=fun U h=>dO Tryz.func103 d5 d5 U d5 h
theorem rZ:Ent Fd.nP Tryz.f104:=fun U h=>dO Tryz.func104 d5 d5 U d5 h
theorem qY:Ent Fd.mb Tryz.f105:=fun U h=>dO Tryz.func105 d5 d5 U d5 h
theorem r8:Ent Fd.nQ Tryz.f106:=fun U h=>dO Tryz.func106 d5 d5 U d5 h
theorem tT:Ent Fd.qM Tryz.f107:=fun U h=>dO Tryz.func107 d5 d5 U d5 h
theorem sW:Ent Fd.ox Tryz.f108:=fun U h=>dO Tryz.func108 d5 d5 U d5 h
theorem ie:Ent Fd.fX Tryz.f109:=fun U h=>dO Tryz.func109 d5 d5 U d5 h
theorem sX:Ent Fd.oy Tryz.f110:=fun U h=>dO Tryz.func110 d5 d5 U d5 h
theorem r9:Ent Fd.nR Tryz.f111:=fun U h=>dO Tryz.func111 d5 d5 U d5 h
theorem tU:Ent Fd.qN Tryz.f112:=fun U h=>dO Tryz.func112 d5 d5 U d5 h
theorem uP:Ent Fd.sD Tryz.f113:=fun U h=>dO Tryz.func113 d5 d5 U d5 h
theorem pM:Ent Fd.mB Tryz.f114:=fun U h=>dO Tryz.func114 d5 d5 U d5 h
theorem wF:Ent Fd.tI Tryz.f115:=fun U h=>dO Tryz.func115 d5 d5 U d5 h
theorem gJ:Ent Fd.eH Tryz.f116:=fun U h=>dO Tryz.func116 d5 d5 U d5 h
theorem wG:Ent Fd.tJ Tryz.f117:=fun U h=>dO Tryz.func117 d5 d5 U d5 h
theorem gQ:Ent Fd.ee Tryz.f118:=fun U h=>dO Tryz.func118 d5 d5 U d5 h
theorem sY:Ent Fd.kg Tryz.f119:=fun U h=>dO Tryz.func119 d5 d5 U d5 h
theorem qZ:Ent Fd.mc Tryz.f120:=fun U h=>dO Tryz.func120 d5 d5 U d5 h
theorem wH:Ent Fd.tK Tryz.f121:=fun U h=>dO Tryz.func121 d5 d5 U d5 h
theorem uQ:Ent Fd.sE Tryz.f122:=fun U h=>dO Tryz.func122 d5 d5 U d5 h
theorem wI:Ent Fd.tL Tryz.f123:=fun U h=>dO Tryz.func123 d5 d5 U d5 h
theorem wJ:Ent Fd.tM Tryz.f124:=fun U h=>dO Tryz.func124 d5 d5 U d5 h
theorem rf:Ent Fd.nS Tryz.f125:=fun U h=>dO Tryz.func125 d5 d5 U d5 h
theorem uR:Ent Fd.kG Tryz.f126:=fun U h=>dO Tryz.func126 d5 d5 U d5 h
theorem gj:Ent Fd.fm Tryz.f127:=fun U h=>dO Tryz.func127 d5 d5 U d5 h
theorem fp:Ent Fd.dz Tryz.f128:=fun U h=>dO Tryz.func128 d5 d5 U d5 h
theorem my:Ent Fd.fE Tryz.f129:=fun U h=>dO Tryz.func129 d5 d5 U d5 h
theorem jy:Ent Fd.fT Tryz.f130:=fun U h=>dO Tryz.func130 d5 d5 U d5 h
theorem gK:Ent Fd.dR Tryz.f131:=fun U h=>dO Tryz.func131 d5 d5 U d5 h
theorem zO:Ent Fd.xo Tryz.f132:=fun U h=>dO Tryz.func132 d5 d5 U d5 h
theorem uS:Ent Fd.mu Tryz.f133:=fun U h=>dO Tryz.func133 d5 d5 U d5 h
theorem wK:Ent Fd.tN Tryz.f134:=fun U h=>dO Tryz.func134 d5 d5 U d5 h
theorem zP:Ent Fd.xp Tryz.f135:=fun U h=>dO Tryz.func135 d5 d5 U d5 h
theorem Cq:Ent Fd.Cm Tryz.f136:=fun U h=>dO Tryz.func136 d5 d5 U d5 h
theorem q9:Ent Fd.me Tryz.f139:=fun U h=>dO Tryz.func139 d5 d5 U d5 h
theorem sZ:Ent Fd.oz Tryz.f140:=fun U h=>dO Tryz.func140 d5 d5 U d5 h
theorem oa:Ent Fd.lC Tryz.f141:=fun U h=>dO Tryz.func141 d5 d5 U d5 h
theorem qc:Ent Fd.mf Tryz.f142:=fun U h=>dO Tryz.func142 d5 d5 U d5 h
theorem s0:Ent Fd.pA Tryz.f143:=fun U h=>dO Tryz.func143 d5 d5 U d5 h
theorem zQ:Ent Fd.xq Tryz.f144:=fun U h=>dO Tryz.func144 d5 d5 U d5 h
theorem zR:Ent Fd.xt Tryz.f145:=fun U h=>dO Tryz.func145 d5 d5 U d5 h
theorem iP:Ent Fd.fS Tryz.f146:=fun U h=>dO Tryz.func146 d5 d5 U d5 h
theorem gR:Ent Fd.ep Tryz.f147:=fun U h=>dO Tryz.func147 d5 d5 U d5 h
theorem jh:Ent Fd.gh Tryz.f148:=fun U h=>dO Tryz.func148 d5 d5 U d5 h
theorem rh:Ent Fd.nT Tryz.f149:=fun U h=>dO Tryz.func149 d5 d5 U d5 h
theorem pB:Ent Fd.oR Tryz.f150:=fun U h=>dO Tryz.func150 d5 d5 U d5 h
theorem zS:Ent Fd.xu Tryz.f153:=fun U h=>dO Tryz.func153 d5 d5 U d5 h
theorem tV:Ent Fd.qO Tryz.f154:=fun U h=>dO Tryz.func154 d5 d5 U d5 h
theorem jB:Ent Fd.fo Tryz.f155:=fun U h=>dO Tryz.func155 d5 d5 U d5 h
theorem nY:Ent Fd.kT Tryz.f156:=fun U h=>dO Tryz.func156 d5 d5 U d5 h
theorem dP{l:Env}{B:Nat}{Fn:KT}(π:List It)(h:Fw PG τ B ops.toList π l H nx iv w Fn)(hs:Region.noSelect ops=true:=by kernel_rfl)(hc:Bo ops ops.size π 0 []=true:=by kernel_rfl):nu PG B ops l H nx iv w Fn:=Bu hτ uJ π hs hc h
theorem fY{w1 J:World}(L:Old S w)(Y:Bq w w1)(r:Rel H nx iv w.heap.size w1 O J){ad:Addr}{j:Nat}{x:Value}(hs:S ad.block)(h:w.cell? (ad.add j)=some x):J.cell? (ad.add j)=some x:=by
 rw[(Y.tr r.cV).cell (by rw[eQ];exact L _ hs)];exact h
theorem Cr(a:Option Addr)(c:Nat):(if (c:Int)=0 then a else a.map fun x=>x.add (Int.toNat 0*1))=a:=by
 split
 .rfl
 .cases a<;>rfl
theorem wL(h:ls[k]? =some 0):dh (ls.take (k+1))=dh (ls.take k):=by
 rw[bE,h];exact kb _
theorem zT{x:Nat}(h:ls[k]? =some x)(E:x≠0):dh (ls.take (k+1))=ls.take (k+1):=by
 rw[bE,h];exact oI _ E
theorem ew(L:Old S w)(h:dI w S v ls):eD PG Fd.mb #[v] w (eL w fun v' F=>dI F S v' (dh ls)):=by
 obtain⟨a,c,rfl,UZ,hc⟩:=h.sl;have hle:=h.le;have PE:=h.lm;refine qY ce ?_
 refine⟨Nat×World,fun x=>⟨[(0,sV a x.1 c)],[],0,[],x.2⟩,fun x=>x.1,
  fun x=>x.1<=ls.length/\Bq w x.2/\dh ls=dh (ls.take x.1),?_,?_⟩
 .intro O J r;exact⟨(ls.length,J),⟨lr,r.cV,ce⟩,Sub.reset r ⟨rfl,trivial⟩ ⟨trivial,trivial⟩⟩
 .rintro⟨k,w1⟩ ⟨Z,Y,hF⟩;dsimp only at Z Y hF ⊢;have UK:Bq w w1->dh ls=ls.take k->∀O F,Rel [] 0 [] w.heap.size w1 O F->dI F S (.slice a k c) (dh ls):=fun Y G O F r=>by
   rw[G];refine⟨PE.take k,by simp;omega,a,c,by simp;omega,by simp;omega,fun j x E=>?_⟩;have VS:j<k:=by
    have:=(aH.1 E).1;simp at this;omega
   rw[List.getElem?_take_of_lt VS]at E;obtain⟨ad,W,I,h3⟩:=hc j x E;exact⟨ad,W,I,fY L Y r I h3⟩
  apply bS<;>intro h
  .have h:0<k:=by simpa using h
   obtain⟨k,rfl⟩:∃q,k=q+1:=⟨k-1,be⟩
   obtain⟨x,E⟩:=gO ls k;obtain⟨ad,ha,hs,Rl⟩:=hc k x E;refine⟨(k:Int),wo,ad,ha,be,.int .u32 x,fun O J r=>by rw[aN,bC];exact fY L Y r hs Rl,?_⟩;apply bS<;>intro I
   .have I:x=0:=by have:=eq_of_beq I;omega
    subst I;refine⟨(k:Int),wo,⟨be,be,be⟩,a,k,c,Cr a c,ce,ce,?_⟩;intro O F r;exact⟨(k,F),⟨by dsimp only;omega,Y.tr r.cV,hF.trans (wL E)⟩,Sub.reset r ⟨rfl,trivial⟩ ⟨trivial,trivial⟩,by dsimp only;omega⟩
   .have I:x≠0:=by intro e;subst e;simp at I
    intro O F r;exact⟨_,rfl,Y.tr r.cV,UK Y (by rw[hF,zT E I]) O F r⟩
  .have h:k=0:=by
    have:¬0<k:=by simpa using h
    omega
   subst h;intro O F r;exact⟨_,rfl,Y.tr r.cV,UK Y (by rw[hF];simp[dh]) O F r⟩
theorem eO{n:Nat}(h:n<18446744073709551616):IntKind.u64.wrap (n:Int)=(n:Int):=wP be be
theorem eu(n:Nat):IntKind.u32.wrap (n:Int)=((n % 4294967296:Nat):Int):=by
 show((n:Int) % 4294967296)=_;omega
theorem ofInt32(x:Nat):BitVec.ofInt 32 (x:Int)=BitVec.ofNat 32 x:=by
 apply BitVec.eq_of_toNat_eq;simp
theorem qg{y:Nat}(x:Nat)(hy:y<4294967296):x &&& y<4294967296:=Nat.lt_of_le_of_lt Nat.and_le_right hy
theorem qh{x y:Nat}(E:x<4294967296)(hy:y<4294967296):x ^^^ y<4294967296:=Nat.xor_lt_two_pow (n:=32) E hy
theorem BS{x y:Nat}(E:x<4294967296)(hy:y<4294967296):x ||| y<4294967296:=Nat.or_lt_two_pow (n:=32) E hy
theorem Kh{x y:Nat}(E:x<4294967296)(hy:y<4294967296):IntKind.u32.wrap ((BitVec.ofInt IntKind.u32.bits x &&& BitVec.ofInt IntKind.u32.bits y).toNat:Int)=((x &&& y:Nat):Int):=by
 show IntKind.u32.wrap ((BitVec.ofInt 32 x &&& BitVec.ofInt 32 y).toNat:Int)=_;rw[ofInt32,ofInt32,BitVec.toNat_and,BitVec.toNat_ofNat,BitVec.toNat_ofNat,bT E,bT hy,eu,bT (qg x hy)]
theorem MR{x y:Nat}(E:x<4294967296)(hy:y<4294967296):IntKind.u32.wrap ((BitVec.ofInt IntKind.u32.bits x ||| BitVec.ofInt IntKind.u32.bits y).toNat:Int)=((x ||| y:Nat):Int):=by
 show IntKind.u32.wrap ((BitVec.ofInt 32 x ||| BitVec.ofInt 32 y).toNat:Int)=_;rw[ofInt32,ofInt32,BitVec.toNat_or,BitVec.toNat_ofNat,BitVec.toNat_ofNat,bT E,bT hy,eu,bT (BS E hy)]
theorem Ki{x y:Nat}(E:x<4294967296)(hy:y<4294967296):IntKind.u32.wrap ((BitVec.ofInt IntKind.u32.bits x ^^^ BitVec.ofInt IntKind.u32.bits y).toNat:Int)=((x ^^^ y:Nat):Int):=by
 show IntKind.u32.wrap ((BitVec.ofInt 32 x ^^^ BitVec.ofInt 32 y).toNat:Int)=_;rw[ofInt32,ofInt32,BitVec.toNat_xor,BitVec.toNat_ofNat,BitVec.toNat_ofNat,bT E,bT hy,eu,bT (qh E hy)]
theorem Kj{x:Nat}(E:x<4294967296):IntKind.u32.wrap ((BitVec.ofInt IntKind.u32.bits (if IntKind.u32.signed=true then -1 else IntKind.u32.max) ^^^ BitVec.ofInt IntKind.u32.bits x).toNat:Int)=((4294967295 ^^^ x:Nat):Int):=
 Ki (x:=4294967295) bv E
theorem mG{x:Nat}(k:Nat)(Z:k<=63):(x:Int).fdiv (2^min (Int.toNat (k:Int)) IntKind.u64.bits)=((x / 2^k:Nat):Int):=by
 have W:min (Int.toNat (k:Int)) IntKind.u64.bits=k:=by show min (Int.toNat (k:Int)) 64=k;omega
 rw[W,Int.fdiv_eq_ediv_of_nonneg _ (by exact Int.le_of_lt (Int.pow_pos bv))];simp
theorem oc{x:Nat}(k:Nat)(Z:k<=31):(x:Int).fdiv (2^min (Int.toNat (k:Int)) IntKind.u32.bits)=((x / 2^k:Nat):Int):=by
 have W:min (Int.toNat (k:Int)) IntKind.u32.bits=k:=by show min (Int.toNat (k:Int)) 32=k;omega
 rw[W,Int.fdiv_eq_ediv_of_nonneg _ (by exact Int.le_of_lt (Int.pow_pos bv))];simp
theorem Jy{z:Nat}(h:z<4294967296):z.testBit 31=decide (2147483648<=z):=by
 rw[Nat.testBit_eq_decide_div_mod_eq];apply decide_eq_decide.2;show z / 2147483648 % 2=1↔_;omega
theorem borrow{x y c d:Nat}(E:x<4294967296)(hy:y<4294967296)(hc:c<=1)(hd:(x+4294967296-(y+c)) % 4294967296=d):
  (((4294967295 ^^^ x) &&& y) ||| ((4294967295 ^^^ (x ^^^ y)) &&& d)) / 2^31=if x<y+c then 1 else 0:=by
 have RZ:d<4294967296:=by omega
 have hz:=BS (qg (4294967295 ^^^ x) hy) (qg (4294967295 ^^^ (x ^^^ y)) RZ);have ht:=Jy hz;have hm:Nat.testBit 4294967295 31=true:=by decide
 rw[Nat.testBit_or,Nat.testBit_and,Nat.testBit_and,Nat.testBit_xor,Nat.testBit_xor,Nat.testBit_xor,hm,Jy E,Jy hy,Jy RZ]at ht;generalize (((4294967295 ^^^ x) &&& y) ||| ((4294967295 ^^^ (x ^^^ y)) &&& d))=z at hz ht;show z / 2147483648=_;by_cases W:2147483648<=x<;>by_cases I:2147483648<=y<;>by_cases h3:2147483648<=d<;>simp[W,I,h3]at ht<;>split<;>omega
theorem Fe(x y c:Nat)(w:World)(E:x<4294967296)(hy:y<4294967296)(hc:c<4294967296):
  eD PG Fd.xq #[.int .u32 x,.int .u32 y,.int .u32 c] w (eL w fun v _=>v= .tuple #[.int .u32 ((x+y+c) % 4294967296:Nat),.int .u32 ((x+y+c) / 4294967296:Nat)]):=by
 refine zQ ce ?_;refine⟨(x:Int),eO be,(y:Int),eO be,((x+y:Nat):Int),by rw[wP]<;>omega,(c:Int),eO be,((x+y+c:Nat):Int),by rw[wP]<;>omega,(((x+y+c) % 4294967296:Nat):Int),eu _,bv,(((x+y+c) / 4294967296:Nat):Int),?_,?_⟩
 .exact mG 32 bv
 refine⟨(((x+y+c) / 4294967296:Nat):Int),by rw[eu];omega,?_⟩;intro O w3 r;exact⟨_,rfl,r.cV,rfl⟩
theorem Ff(x y c:Nat)(w:World)(E:x<4294967296)(hy:y<4294967296)(hc:c<=1):
  eD PG Fd.xt #[.int .u32 x,.int .u32 y,.int .u32 c] w (eL w fun v _=>v= .tuple #[.int .u32 ((x+4294967296-(y+c)) % 4294967296:Nat),.int .u32 ((if x<y+c then 1 else 0:Nat):Int)]):=by
 refine zR ce ?_;refine⟨((x+4294967296-y) % 4294967296:Nat),?_,?_⟩
 .show((x:Int)-y) % 4294967296=_;omega
 refine⟨((x+4294967296-(y+c)) % 4294967296:Nat),?_,?_⟩
 .show((((x+4294967296-y) % 4294967296:Nat):Int)-c) % 4294967296=_;omega
 have h6:(x+4294967296-(y+c)) % 4294967296<4294967296:=cG _ bv;generalize hd:(x+4294967296-(y+c)) % 4294967296=d at h6;refine⟨((4294967295 ^^^ x:Nat):Int),Kj E,(((4294967295 ^^^ x) &&& y:Nat):Int),Kh (qh bv E) hy,((x ^^^ y:Nat):Int),Ki E hy,((4294967295 ^^^ (x ^^^ y):Nat):Int),Kj (qh E hy),(((4294967295 ^^^ (x ^^^ y)) &&& d:Nat):Int),Kh (qh bv (qh E hy)) h6,((((4294967295 ^^^ x) &&& y) ||| ((4294967295 ^^^ (x ^^^ y)) &&& d):Nat):Int),MR (qg _ hy) (qg _ h6),bv,((if x<y+c then 1 else 0:Nat):Int),?_,?_⟩
 .rw[<-borrow E hy hc hd];exact oc 31 bv
 intro O w3 r;exact⟨_,rfl,r.cV,rfl⟩
def od(n m:Nat):Int:=if n<m then -1 else if m<n then 1 else 0
theorem Kl{a b:List Nat}{i x y:Nat}(ha:Lm a)(hl:a.length=b.length)(E:a[i]? =some x)(hy:b[i]? =some y)(h:a.drop (i+1)=b.drop (i+1))(Oo:x<y):val a<val b:=by
 have R:=(aH.1 E).1;have W:=eW a i be;have I:=eW b i be;rw[jO E]at W;rw[jO hy,<-h]at I;have h3:=oH (ha.take i);rw[bL,Nat.min_eq_left be]at h3;generalize val (a.drop (i+1))=q at W I;have h4:wt i*(x+4294967296*q+1)<=wt i*(y+4294967296*q):=bh _ be;rw[bN,bC]at h4;omega
theorem FY{u:Value}{n m:Nat}(L:Old S w)(U:dQ w S v n)(hm:dQ w S u m):eD PG Fd.sD #[v,u] w (eL w fun v' _=>v'=iV (od n m)):=by
 obtain⟨ls,W,nz1,rfl⟩:=U;obtain⟨ms,I,nz2,rfl⟩:=hm;obtain⟨a,c,rfl,_,ha⟩:=W.sl;obtain⟨b,e,rfl,_,N⟩:=I.sl;have hle1:=W.le;have Vv:=I.le;have lm1:=W.lm;have lm2:=I.lm;refine uP ce ?_;apply bS<;>intro h
 .have h:ls.length≠ms.length:=by intro e;rw[e]at h;simp at h
  apply bS<;>intro h3
  .have h3:ls.length<ms.length:=by simpa using h3
   intro O F r;exact⟨_,rfl,r.cV,by rw[od,aM (iz lm1 nz2 h3)];rfl⟩
  .have h3:ms.length<ls.length:=by
    have:¬ls.length<ms.length:=by simpa using h3
    omega
   have h4:=iz lm2 nz1 h3;intro O F r;exact⟨_,rfl,r.cV,by rw[od,aK be,aM h4];rfl⟩
 .have h:ls.length=ms.length:=by
   have:(ls.length:Int)=ms.length:=by simpa using h
   omega
  refine⟨(ls.length:Int)-1,wo,Nat×World,fun x=>⟨[(0,sV a ls.length c),(1,sV b ms.length e),(5,.o (.v (iV ((x.1:Int)-1))))],[],0,[],x.2⟩,fun x=>x.1,
   fun x=>x.1<=ls.length/\Bq w x.2/\ls.drop x.1=ms.drop x.1,?_,?_⟩
  .intro O J r;exact⟨(ls.length,J),⟨lr,r.cV,by rw[List.drop_length,h,List.drop_length]⟩,Sub.reset r ⟨rfl,rfl,rfl,trivial⟩ ⟨trivial,trivial,trivial,trivial⟩⟩
  .rintro⟨k,w1⟩ ⟨Z,Y,hd⟩;dsimp only at Z Y hd ⊢;apply bS<;>intro h3
   .have h3:(k:Int)-1≥0:=aI h3;obtain⟨k,rfl⟩:∃q,k=q+1:=⟨k-1,be⟩
    rw[show ((k+1:Nat):Int)-1=(k:Int) by omega];obtain⟨x,E⟩:=gO ls k;obtain⟨y,hy⟩:=gO ms k;obtain⟨ad,Ou,hs,hc1⟩:=ha k x E;obtain⟨ad2,PH,R9,Qf⟩:=N k y hy;have QI:∀O J,Rel [] 0 [] w.heap.size w1 O J->J.cell? (ad.add ((k:Int).toNat*1))=some (.int .u32 x):=fun O J r=>by
     rw[aN,bC];exact fY L Y r hs hc1
    have RM:∀O J,Rel [] 0 [] w.heap.size w1 O J->J.cell? (ad2.add ((k:Int).toNat*1))=some (.int .u32 y):=fun O J r=>by
     rw[aN,bC];exact fY L Y r R9 Qf
    refine dP (idO 10) ?_;refine⟨ad,Ou,be,_,QI,ad2,PH,be,_,RM,?_⟩;apply bS<;>intro h4
    .have h4:=dL h4;intro O F r;exact⟨_,rfl,Y.tr r.cV,by rw[od,aM (Kl lm1 h E hy hd h4)];rfl⟩
    .have h4:¬x<y:=by simpa using h4
     refine dP (idO 10) ?_;refine⟨ad,Ou,be,_,QI,ad2,PH,be,_,RM,?_⟩;apply bS<;>intro h5
     .have h5:=dL h5;have h6:=Kl lm2 h.symm hy E hd.symm h5;intro O F r;exact⟨_,rfl,Y.tr r.cV,by rw[od,aK be,aM h6];rfl⟩
     .have h5:¬y<x:=by simpa using h5
      have hxy:x=y:=by omega
      subst hxy;refine⟨(k:Int)-1,wo,?_⟩;intro O F r;have RZ:ls.drop k=ms.drop k:=by
       obtain⟨q1,e1⟩:=aH.1 E;obtain⟨q2,e2⟩:=aH.1 hy;rw[List.drop_eq_getElem_cons q1,List.drop_eq_getElem_cons q2,e1,e2,hd]
      exact⟨(k,F),⟨by dsimp only;omega,Y.tr r.cV,RZ⟩,Sub.reset r ⟨rfl,rfl,rfl,trivial⟩ ⟨trivial,trivial,trivial,trivial⟩,ce⟩
   .have Ui:k=0:=by
     have:¬(k:Int)-1≥0:=aL h3;omega
    subst Ui;have G:ls=ms:=by simpa using hd
    intro O F r;exact⟨_,rfl,Y.tr r.cV,by rw[G,od,aK be,aK be];rfl⟩
end Go.Ex
namespace Go.Sx
open Go Go.Ex Go.Proofs
variable{O:Nat->Sx.dc}
theorem Rel.qe{nx:Nat}{iv:Iv}{B:Nat}{w J:World}(r:Rel [] nx iv B w O J):w.grownBy J none:=
 ⟨r.os,r.tape,r.output,r.size,fun k Z _=>r.Ad k Z (fun id b h=>by cases h)⟩
end Go.Sx
namespace Go.Ex
open Go Go.Sx Go.Proofs
variable{l ls:List Nat}{S:Nat->Prop}{v:Value}{w:World}
structure LA(S:Nat->Prop)(w:World) where
 a:Option Addr
 c:Nat
 ls:List Nat
 lm:Lm ls
 le:ls.length<=9223372036854775807
 cap:ls.length<=c
 cell:∀(j:Nat) x,ls[j]? =some x->∃ad,a=some ad/\S ad.block/\w.cell? (ad.add j)=some (.int .u32 x)
theorem dI.la(h:dI w S v ls):∃p:LA S w,v= .slice p.a p.ls.length p.c/\p.ls=ls:=by
 obtain⟨a,c,W,I,h3⟩:=h.sl;exact⟨⟨a,c,ls,h.lm,h.le,I,h3⟩,W,rfl⟩
theorem dQ.la{n:Nat}(h:dQ w S v n):∃p:LA S w,v= .slice p.a p.ls.length p.c/\val p.ls=n/\Nz p.ls:=by
 obtain⟨ls,W,I,h3⟩:=h;obtain⟨p,h4,h5⟩:=W.la;exact⟨p,h4,by rw[h5];exact h3,by rw[h5];exact I⟩
theorem LA.load{w1:World}(p:LA S w)(L:Old S w)(Y:Bq w w1){k x:Nat}(E:p.ls[k]? =some x):
  ∃ad,p.a=some ad/\∀(H:Hp) (nx:Nat) (iv:Iv) (O:Nat->Sx.dc) J,Rel H nx iv w.heap.size w1 O J->J.cell? (ad.add ((k:Int).toNat*1))=some (.int .u32 x):=by
 obtain⟨ad,W,I,h3⟩:=p.cell k x E;refine⟨ad,W,fun H nx iv O J r=>?_⟩;rw[aN,bC];exact fY L Y r I h3
def F8(l:List Nat):List Value:=l.map fun(x:Nat)=>.int .u32 (x:Int)
theorem fZ(l:List Nat):(F8 l).length=l.length:=by simp[F8]
theorem sG{k x:Nat}(h:l[k]? =some x):(F8 l)[k]? =some (.int .u32 x):=by simp[F8,h]
theorem Mj(l:List Nat)(k x:Nat)(h:k<l.length):(F8 l).take k++[.int .u32 x]++(F8 l).drop (k+1)=F8 (l.set k x):=by
 have W:k<(F8 l).length:=by rw[fZ];exact h
 have:(F8 l).set k (.int .u32 x)=F8 (l.set k x):=by simp[F8,List.map_set]
 rw[<-this,List.set_eq_take_append_cons_drop,aM W];simp
theorem jD(l:List Nat)(k x:Nat)(h:k<l.length){e:Nat}(G:e=k):(F8 l).take e++[.int .u32 (x:Int)]++(F8 l).drop (e+1)=F8 (l.set k x):=by
 subst G;exact Mj l e x h
theorem qf(n:Nat):List.replicate n (Value.int .u32 0)=F8 (List.replicate n 0):=by simp[F8]
end Go.Ex
namespace Go.Sx
open Go Go.Ex Go.Proofs
variable{ls:List Nat}{O:Nat->Sx.dc}
theorem Rel.nc{H:Hp}{nx:Nat}{iv:Iv}{B:Nat}{w J:World}(r:Rel H nx iv B w O J){id t:Nat}(h:dF H id=some (.arr t (F8 ls)))(PE:Lm ls)(hle:ls.length<=9223372036854775807):
  dI J (fun g=>g=(O id).g) (.slice (some ⟨(O id).g,0,none⟩) ls.length ls.length) ls:=by
 refine⟨PE,hle,_,_,rfl,lr,fun j x E=>⟨_,rfl,rfl,?_⟩⟩;have h0:(⟨(O id).g,0,none⟩:Addr).add j=⟨(O id).g,j,none⟩:=by
  cases j with
  |zero=>rfl
  |succ j=>simp[Addr.add]
 rw[h0,cell_of (r.arr id t _ h)];exact sG E
end Go.Sx
namespace Go.Ex
open Go Go.Sx Go.Proofs
section
variable{S:Nat->Prop}
theorem AQ{out ls ms:List Nat}{i x o d:Nat}(E:ls[i]? =some x)(ho:ms.getD i 0=o)(hd:out[i]? =some d){carry:Nat}(h:val (out.take i)+wt i*carry=val (ls.take i)+val (ms.take i)):
  val ((out.set i ((x+o+carry) % 4294967296)).take (i+1))+wt (i+1)*((x+o+carry) / 4294967296)=val (ls.take (i+1))+val (ms.take (i+1)):=by
 have R:=(aH.1 hd).1;have W:(out.set i ((x+o+carry) % 4294967296))[i]? =some ((x+o+carry) % 4294967296):=by rw[aO R]
 rw[dY W,List.take_set_of_le lr,dY E,iy];have I:val (ms.take (i+1))=val (ms.take i)+wt i*o:=by
  cases hm:ms[i]? with
  |some y=>
   have:y=o:=by rw[<-ho];simp[List.getD,hm]
   rw[dY hm,this]
  |none=>
   have:o=0:=by rw[<-ho];simp[List.getD,hm]
   rw[this,bE,hm];simp
 rw[I];have h3:=Nat.div_add_mod (x+o+carry) 4294967296;generalize (x+o+carry) / 4294967296=q at h3 ⊢;generalize (x+o+carry) % 4294967296=r at h3 ⊢;have h4:wt i*(4294967296*q+r)=wt i*(x+o+carry):=by rw[h3]
 rw[bN,bN,bN,<-bc,bV (wt i) 4294967296]at h4;omega
theorem EK{w:World}{v u:Value}{n m:Nat}(L:Old S w)(U:dQ w S v n)(hm:dQ w S u m)(Rn:ln n<=1000000000000)(PE:ln m<=1000000000000):
  eD PG Fd.qM #[v,u] w (eL w fun v' F=>dQ F (Nf w F) v' (n+m)):=by
 obtain⟨p,rfl,QV,Q8⟩:=U.la;obtain⟨q,rfl,RF,QW⟩:=hm.la;have Oq:=dX p.lm Q8;have To:=dX q.lm QW;rw[QV]at Oq;rw[RF]at To;have Ua:n+m=val p.ls+val q.ls:=by rw[QV,RF]
 rw[Ua];refine tT ce ?_;refine zF.mk ?_ ?_<;>intro h
 case' refine_1=>
  have h:p.ls.length<q.ls.length:=by simpa using h
  have hpx:p.ls.length<=q.ls.length:=by omega
  have hx12:q.ls.length<=1000000000000:=by omega
  rw[Nat.add_comm];generalize PC:q=x at*
  generalize hgy:p=y at*
 case' refine_2=>
  have h:¬p.ls.length<q.ls.length:=by simpa using h
  have hpx:q.ls.length<=p.ls.length:=by omega
  have hx12:p.ls.length<=1000000000000:=by omega
  generalize PC:p=x at*
  generalize hgy:q=y at*
 all_goals
  refine⟨((x.ls.length+1:Nat):Int),wo,x.ls.length+1,x.ls.length+1,rfl,rfl,lr,be,be,Nat×List Nat×Nat×World,fun z=>⟨[(0,sV x.a x.ls.length x.c),(1,sV y.a y.ls.length y.c),(5,.o (.s 0 0 (x.ls.length+1) (x.ls.length+1))),(6,.o (.v (.int .u32 z.2.2.1))),(21,iZ x.ls.length),(22,iZ z.1)],
    [(0,.arr T.uint32 (F8 z.2.1))],1,[],z.2.2.2⟩,fun z=>x.ls.length-z.1,
   fun z=>z.1<=x.ls.length/\Bq w z.2.2.2/\z.2.1.length=x.ls.length+1/\Lm z.2.1/\z.2.2.1<2/\val (z.2.1.take z.1)+wt z.1*z.2.2.1=val (x.ls.take z.1)+val (y.ls.take z.1),?_,?_⟩
  .intro O J r;rw[qf]at r;exact⟨(0,List.replicate (x.ls.length+1) 0,0,J),⟨ce,r.cV,ce,Lm.replicate _,ce,by simp[val]⟩,sbgn [] r⟩
  .rintro⟨i,out,carry,w1⟩ ⟨R,Y,Q2,PA,hc,hv⟩;dsimp only at R Y Q2 PA hc hv ⊢;refine zF.mk ?_ ?_<;>intro h
   .have h:=dL h;obtain⟨xi,Pf⟩:=gO x.ls i;obtain⟨d,hd⟩:=gO out i;obtain⟨ad,Ou,Oj⟩:=x.load L Y Pf;have QQ:=x.lm.at Pf;refine zF.mk ?_ ?_<;>intro I
    .have I:=dL I;obtain⟨o,ho⟩:=gO y.ls i;obtain⟨ad2,PH,Qz⟩:=y.load L Y ho;have XA:=y.lm.at ho;have UD:y.ls.getD i 0=o:=by simp[List.getD,ho]
     refine⟨ad2,PH,be,.int .u32 o,Qz _ _ _,ad,Ou,be,.int .u32 xi,Oj _ _ _,?_⟩;refine cM (cN (I9:=fun _ _ v _=>v= .tuple #[.int .u32 ((xi+o+carry) % 4294967296:Nat),.int .u32 ((xi+o+carry) / 4294967296:Nat)]) (fun O J r=>Fe xi o carry J QQ XA be) ?_);rintro O J v F r G N rfl;replace Y:=Y.tr N;have OP:=AQ Pf UD hd hv;have Qf:(xi+o+carry) / 4294967296<2:=by omega
     refine⟨be,by rw[fZ];omega,F8 (out.set i ((xi+o+carry) % 4294967296)),jD out i _ be ce,((i+1:Nat):Int),wo,?_⟩;intro IR w3 r3
     exact⟨(i+1,out.set i ((xi+o+carry) % 4294967296),(xi+o+carry) / 4294967296,w3),⟨by dsimp only;omega,Y.tr r3.cV,by simp[Q2],PA.set (cG _ bv),Qf,OP⟩,
      sbgn [] r3,by dsimp only;omega⟩
    .have I:¬i<y.ls.length:=by simpa using I
     have UD:y.ls.getD i 0=0:=by simp[List.getD,List.getElem?_eq_none (show y.ls.length<=i by omega)]
     refine⟨ad,Ou,be,.int .u32 xi,Oj _ _ _,?_⟩;refine cM (cN (I9:=fun _ _ v _=>v= .tuple #[.int .u32 ((xi+0+carry) % 4294967296:Nat),.int .u32 ((xi+0+carry) / 4294967296:Nat)]) (fun O J r=>Fe xi 0 carry J QQ bv be) ?_);rintro O J v F r G N rfl;replace Y:=Y.tr N;have OP:=AQ Pf UD hd hv;have Qf:(xi+0+carry) / 4294967296<2:=by omega
     refine⟨be,by rw[fZ];omega,F8 (out.set i ((xi+0+carry) % 4294967296)),jD out i _ be ce,((i+1:Nat):Int),wo,?_⟩;intro IR w3 r3
     exact⟨(i+1,out.set i ((xi+0+carry) % 4294967296),(xi+0+carry) / 4294967296,w3),⟨by dsimp only;omega,Y.tr r3.cV,by simp[Q2],PA.set (cG _ bv),Qf,OP⟩,
      sbgn [] r3,by dsimp only;omega⟩
   .have UI:i=x.ls.length:=by
     have:¬i<x.ls.length:=by simpa using h
     omega
    subst UI;obtain⟨d,hd⟩:=gO out x.ls.length;have SS:val (out.set x.ls.length carry)=val x.ls+val y.ls:=by
     have W:(out.set x.ls.length carry)[x.ls.length]? =some carry:=by rw[aO be]
     have I:=dY W;rw[bU (by simp;omega),List.take_set_of_le lr]at I;rw[bF,bU hpx]at hv;omega
    have hlm2:Lm (out.set x.ls.length carry):=PA.set be;refine⟨be,by rw[fZ];omega,F8 (out.set x.ls.length carry),jD out x.ls.length carry be ce,?_⟩;generalize WV:out.set x.ls.length carry=fin at SS hlm2;have Pt:fin.length=x.ls.length+1:=by rw[<-WV];simp[Q2]
    refine fg (I9:=fun O _ v F=>dI F (fun g=>g=(O 0).g) v (dh fin)) (H':=[]) 0 rfl ce trivial rfl (fun O J r=>r.nn 0 _ rfl (by intros;simp) ce) (fun O J r=>?_) ?_
    .have hL:=r.nc (id:=0) rfl hlm2 be;rw[Pt]at hL;exact ew (fun g V=>by rw[V];exact(r.low 0 _ rfl (r.nn 0 _ rfl (by intros;simp) ce)).2) hL
    rintro O J v F r G N hL;replace Y:=Y.tr N;have ON:=r.low 0 _ rfl (r.nn 0 _ rfl (by intros;simp) ce);generalize (O 0).g=g at*
    have hs:=G.size;intro IR w3 r3;refine⟨_,rfl,Y.tr r3.cV,dh fin,?_,(e7 fin).2.1,?_⟩
    .refine(hL.cP fun k Z=>?_).cO fun k Z=>.inr ?_
     .rw[Z];exact r3.qe.block g be ce
     .rw[Z];have:=r3.size;omega
    .rw[(e7 fin).1,SS]
end
variable{ls ms out:List Nat}{A9 a b i k o t:Nat}{S:Nat->Prop}{v:Value}{w:World}
theorem HR(ho:ms.getD i 0=o):val (ms.take (i+1))=val (ms.take i)+wt i*o:=by
 cases hm:ms[i]? with
 |some y=>
  have:y=o:=by rw[<-ho];simp[List.getD,hm]
  rw[dY hm,this]
 |none=>
  have:o=0:=by rw[<-ho];simp[List.getD,hm]
  rw[this,bE,hm];simp
theorem yt{x d e:Nat}(E:ls[i]? =some x)(ho:ms.getD i 0=o)(hd:out[i]? =some d){b':Nat}(h:val (out.take i)+val (ms.take i)=val (ls.take i)+wt i*b)(G:e+(o+b)=x+4294967296*b'):
  val ((out.set i e).take (i+1))+val (ms.take (i+1))=val (ls.take (i+1))+wt (i+1)*b':=by
 have R:=(aH.1 hd).1;have W:(out.set i e)[i]? =some e:=by rw[aO R]
 rw[dY W,List.take_set_of_le lr,dY E,HR ho,iy];have h4:wt i*(e+(o+b))=wt i*(x+4294967296*b'):=by rw[G]
 rw[bN,bN,bN,<-bc,bV (wt i) 4294967296]at h4;omega
theorem wi{u:Value}{n m:Nat}(L:Old S w)(U:dQ w S v n)(hm:dQ w S u m)(hle:m<=n)(Rn:ln n<=1000000000000):
  eD PG Fd.ox #[v,u] w (eL w fun v' F=>dQ F (Nf w F) v' (n-m)):=by
 obtain⟨x,rfl,QV,Q8⟩:=U.la;obtain⟨y,rfl,RF,QW⟩:=hm.la;have Oq:=dX x.lm Q8;rw[QV]at Oq;have hyx:y.ls.length<=x.ls.length:=by
  rw[dX x.lm Q8,dX y.lm QW,QV,RF];exact e9 hle
 refine sW ce ?_
 refine⟨x.ls.length,x.ls.length,rfl,rfl,lr,be,be,Nat×List Nat×Nat×World,fun z=>⟨[(0,sV x.a x.ls.length x.c),(1,sV y.a y.ls.length y.c),(5,.o (.s 0 0 x.ls.length x.ls.length)),(6,.o (.v (.int .u32 z.2.2.1))),(13,iZ x.ls.length),(14,iZ z.1)],
   [(0,.arr T.uint32 (F8 z.2.1))],1,[],z.2.2.2⟩,fun z=>x.ls.length-z.1,
  fun z=>z.1<=x.ls.length/\Bq w z.2.2.2/\z.2.1.length=x.ls.length/\Lm z.2.1/\z.2.2.1<2/\val (z.2.1.take z.1)+val (y.ls.take z.1)=val (x.ls.take z.1)+wt z.1*z.2.2.1,?_,?_⟩
 .intro O J r;rw[qf]at r;exact⟨(0,List.replicate x.ls.length 0,0,J),⟨ce,r.cV,ce,Lm.replicate _,ce,by simp[val]⟩,sbgn [] r⟩
 .rintro⟨i,out,b,w1⟩ ⟨R,Y,Q2,PA,hc,hv⟩;dsimp only at R Y Q2 PA hc hv ⊢;apply bS<;>intro h
  .have h:=dL h;obtain⟨xi,Pf⟩:=gO x.ls i;obtain⟨d,hd⟩:=gO out i;obtain⟨ad,Ou,Oj⟩:=x.load L Y Pf;have QQ:=x.lm.at Pf;apply bS<;>intro I
   .have I:=dL I;obtain⟨o,ho⟩:=gO y.ls i;obtain⟨ad2,PH,Qz⟩:=y.load L Y ho;have XA:=y.lm.at ho;have UD:y.ls.getD i 0=o:=by simp[List.getD,ho]
    refine⟨ad2,PH,be,.int .u32 o,Qz _ _ _,ad,Ou,be,.int .u32 xi,Oj _ _ _,?_⟩;refine cM (cN (I9:=fun _ _ v _=>v= .tuple #[.int .u32 ((xi+4294967296-(o+b)) % 4294967296:Nat),.int .u32 ((if xi<o+b then 1 else 0:Nat):Int)]) (fun O J r=>Ff xi o b J QQ XA be) ?_);rintro O J v F r G N rfl;replace Y:=Y.tr N;have Pr:(xi+4294967296-(o+b)) % 4294967296+(o+b)=xi+4294967296*(if xi<o+b then 1 else 0):=by split<;>omega
    have Oo:(xi+4294967296-(o+b)) % 4294967296<4294967296:=cG _ bv;have PD:(if xi<o+b then 1 else 0:Nat)<2:=by split<;>omega
    generalize (xi+4294967296-(o+b)) % 4294967296=e at Pr Oo;generalize (if xi<o+b then 1 else 0:Nat)=b' at Pr PD;have OP:=yt Pf UD hd hv Pr;refine⟨be,by rw[fZ];omega,F8 (out.set i e),jD out i _ be ce,((i+1:Nat):Int),wo,?_⟩;intro IR w3 r3
    exact⟨(i+1,out.set i e,b',w3),⟨by dsimp only;omega,Y.tr r3.cV,by simp[Q2],PA.set Oo,PD,OP⟩,
     sbgn [] r3,by dsimp only;omega⟩
   .have I:¬i<y.ls.length:=by simpa using I
    have UD:y.ls.getD i 0=0:=by simp[List.getD,List.getElem?_eq_none (show y.ls.length<=i by omega)]
    refine⟨ad,Ou,be,.int .u32 xi,Oj _ _ _,?_⟩;refine cM (cN (I9:=fun _ _ v _=>v= .tuple #[.int .u32 ((xi+4294967296-(0+b)) % 4294967296:Nat),.int .u32 ((if xi<0+b then 1 else 0:Nat):Int)]) (fun O J r=>Ff xi 0 b J QQ bv be) ?_);rintro O J v F r G N rfl;replace Y:=Y.tr N;have Pr:(xi+4294967296-(0+b)) % 4294967296+(0+b)=xi+4294967296*(if xi<0+b then 1 else 0):=by split<;>omega
    have Oo:(xi+4294967296-(0+b)) % 4294967296<4294967296:=cG _ bv;have PD:(if xi<0+b then 1 else 0:Nat)<2:=by split<;>omega
    generalize (xi+4294967296-(0+b)) % 4294967296=e at Pr Oo;generalize (if xi<0+b then 1 else 0:Nat)=b' at Pr PD;have OP:=yt Pf UD hd hv Pr;refine⟨be,by rw[fZ];omega,F8 (out.set i e),jD out i _ be ce,((i+1:Nat):Int),wo,?_⟩;intro IR w3 r3
    exact⟨(i+1,out.set i e,b',w3),⟨by dsimp only;omega,Y.tr r3.cV,by simp[Q2],PA.set Oo,PD,OP⟩,
     sbgn [] r3,by dsimp only;omega⟩
  .have UI:i=x.ls.length:=by
    have:¬i<x.ls.length:=by simpa using h
    omega
   subst UI;have SS:val out=n-m:=by
    rw[bU be,bU hyx,bF,QV,RF]at hv;have W:=oH PA;rw[Q2]at W;have:b=0\/b=1:=by omega
    rcases this with rfl|rfl
    .omega
    .omega
   refine fg (I9:=fun O _ v F=>dI F (fun g=>g=(O 0).g) v (dh out)) (H':=[]) 0 rfl ce trivial rfl (fun O J r=>r.nn 0 _ rfl (by intros;simp) ce) (fun O J r=>?_) ?_
   .have hL:=r.nc (id:=0) rfl PA be;rw[Q2]at hL;exact ew (fun g V=>by rw[V];exact(r.low 0 _ rfl (r.nn 0 _ rfl (by intros;simp) ce)).2) hL
   rintro O J v F r G N hL;replace Y:=Y.tr N;have ON:=r.low 0 _ rfl (r.nn 0 _ rfl (by intros;simp) ce);generalize (O 0).g=g at*
   have hs:=G.size;intro IR w3 r3;refine⟨_,rfl,Y.tr r3.cV,dh out,?_,(e7 out).2.1,?_⟩
   .refine(hL.cP fun k Z=>?_).cO fun k Z=>.inr ?_
    .rw[Z];exact r3.qe.block g be ce
    .rw[Z];have:=r3.size;omega
   .rw[(e7 out).1,SS]
theorem En{p c:Nat}(ho:out[p]? =some o)(h:val out+wt p*c=A9)(ht:t=a+o+c):
  val (out.set p (t % 4294967296))+wt (p+1)*(t / 4294967296)=A9+wt p*a:=by
 have W:=wS (x:=t % 4294967296) ho;rw[iy];have h3:=Nat.div_add_mod t 4294967296;generalize t / 4294967296=q at h3 ⊢;generalize t % 4294967296=r at h3 W ⊢;have h4:wt p*(4294967296*q+r)=wt p*(a+o+c):=by rw[h3,ht]
 rw[bN,bN,bN,<-bc,bV (wt p) 4294967296]at h4;omega
def Zf(out:List Nat)(p:Nat):Prop:=∀(j:Nat) z,p<=j->out[j]? =some z->z=0
theorem Zf.set{p x:Nat}(h:Zf out p)(Z:k<p):Zf (out.set k x) p:=fun j z hj hz=>by
 rw[aV be]at hz;exact h j z hj hz
theorem JJ(ha:a<4294967296)(N:b<4294967296):a*b<=18446744065119617025:=by
 have:a*b<=4294967295*4294967295:=Nat.mul_le_mul be be;omega
theorem FX{u:Value}{n m:Nat}(L:Old S w)(U:dQ w S v n)(hm:dQ w S u m)(Rn:ln n<=1000000000000)(PE:ln m<=1000000000000):
  eD PG Fd.oy #[v,u] w (eL w fun v' F=>dQ F (Nf w F) v' (n*m)):=by
 obtain⟨x,rfl,QV,Q8⟩:=U.la;obtain⟨y,rfl,RF,QW⟩:=hm.la;have Oq:=dX x.lm Q8;rw[QV]at Oq;have To:=dX y.lm QW;rw[RF]at To;refine sX ce ?_;obtain⟨C8,hL⟩:∃C8,C8=x.ls.length+y.ls.length:=⟨_,rfl⟩
 refine⟨(C8:Int),wo,C8,C8,rfl,rfl,lr,be,be,Nat×List Nat×World,fun z=>⟨[(1,sV y.a y.ls.length y.c),(5,.o (.s 0 0 C8 C8)),(18,sV x.a x.ls.length x.c),(19,iZ x.ls.length),(20,iZ z.1)],
   [(0,.arr T.uint32 (F8 z.2.1))],1,[],z.2.2⟩,fun z=>x.ls.length-z.1,
  fun z=>z.1<=x.ls.length/\Bq w z.2.2/\z.2.1.length=C8/\Lm z.2.1/\val z.2.1=val (x.ls.take z.1)*m/\Zf z.2.1 (z.1+y.ls.length),?_,?_⟩
 .intro O J r;rw[qf]at r;exact⟨(0,List.replicate C8 0,J),⟨ce,r.cV,ce,Lm.replicate _,by simp[val,kD],fun j z _ hz=>by simp only[List.getElem?_replicate]at hz;split at hz<;>simp_all⟩,sbgn [] r⟩
 .rintro⟨i,out,w1⟩ ⟨R,Y,Q2,PA,hv,hz⟩;dsimp only at R Y Q2 PA hv hz ⊢;apply bS<;>intro h
  .have h:=dL h;obtain⟨xi,Pf⟩:=gO x.ls i;obtain⟨ad,Ou,Oj⟩:=x.load L Y Pf;have QQ:=x.lm.at Pf
   refine⟨ad,Ou,be,.int .u32 xi,Oj _ _ _,Nat×List Nat×Nat×World,fun z=>⟨[(1,sV y.a y.ls.length y.c),(5,.o (.s 0 0 C8 C8)),(18,sV x.a x.ls.length x.c),(19,iZ x.ls.length),(20,iZ i),
     (6,iZ i),(7,.o (.v (.int .u32 xi))),(8,.o (.v (.int .u64 z.2.2.1))),(25,sV y.a y.ls.length y.c),(26,iZ y.ls.length),(27,iZ z.1)],
     [(0,.arr T.uint32 (F8 z.2.1))],1,[],z.2.2.2⟩,fun z=>y.ls.length-z.1,
    fun z=>z.1<=y.ls.length/\Bq w z.2.2.2/\z.2.1.length=C8/\Lm z.2.1/\z.2.2.1<4294967296/\val z.2.1+wt (i+z.1)*z.2.2.1=val (x.ls.take i)*m+wt i*xi*val (y.ls.take z.1)/\Zf z.2.1 (i+y.ls.length),?_,?_⟩
   .intro O J r;exact⟨(0,out,0,J),⟨ce,Y.tr r.cV,Q2,PA,ce,by simp[val,hv],hz⟩,sbgn [] r⟩
   .rintro⟨k,out,c,w1⟩ ⟨Z,Y,Q2,PA,hc,hv,hz⟩;dsimp only at Z Y Q2 PA hc hv hz ⊢;apply bS<;>intro I
    .have I:=dL I;obtain⟨yk,hyk⟩:=gO y.ls k;obtain⟨ad2,PH,Qz⟩:=y.load L Y hyk;have hy32:=y.lm.at hyk;obtain⟨o,ho⟩:=gO out (i+k);have XA:=PA.at ho;have hm64:=JJ QQ hy32;refine⟨ad2,PH,be,.int .u32 yk,Qz _ _ _,(xi:Int),eO be,(yk:Int),eO be,((xi*yk:Nat):Int),by rw[<-Int.natCast_mul];exact eO be,((i+k:Nat):Int),wo,be,.int .u32 o,by rw[aN,aR,bC];exact sG ho,(o:Int),eO be,((xi*yk+o:Nat):Int),by rw[<-Int.natCast_add];exact eO be,?_⟩;obtain⟨t,ht⟩:∃t,t=xi*yk+o+c:=⟨_,rfl⟩
     refine⟨(t:Int),by rw[<-Int.natCast_add,<-ht];exact eO be,((i+k:Nat):Int),wo,((t % 4294967296:Nat):Int),eu _,bv,((t / 4294967296:Nat):Int),mG 32 bv,be,by rw[fZ];omega,F8 (out.set (i+k) (t % 4294967296)),jD out (i+k) _ be (by simp only[aN];omega),((k+1:Nat):Int),wo,?_⟩;intro IR w3 r3
     refine⟨(k+1,out.set (i+k) (t % 4294967296),t / 4294967296,w3),⟨by dsimp only;omega,Y.tr r3.cV,by simp[Q2],PA.set (cG _ bv),by dsimp only;omega,?_,hz.set be⟩,
      sbgn [] r3,by dsimp only;omega⟩
     have h5:=En (a:=xi*yk) ho hv ht;dsimp only
     rw[show i+(k+1)=i+k+1 by omega,h5,dY hyk,Ap,bN,Nat.add_assoc];congr 2;simp only[bc,Nat.mul_left_comm,bV]
    .have hkn:k=y.ls.length:=by
      have:¬k<y.ls.length:=by simpa using I
      omega
     subst hkn;obtain⟨o,ho⟩:=gO out (i+y.ls.length);have ho0:=hz _ _ lr ho;subst ho0;refine⟨((i+y.ls.length:Nat):Int),wo,(c:Int),by rw[eu,bT hc],be,by rw[fZ];omega,F8 (out.set (i+y.ls.length) c),jD out (i+y.ls.length) _ be (by simp only[aN];omega),((i+1:Nat):Int),wo,?_⟩;intro IR w3 r3
     refine⟨(i+1,out.set (i+y.ls.length) c,w3),⟨by dsimp only;omega,Y.tr r3.cV,by simp[Q2],PA.set hc,?_,?_⟩,
      sbgn [] r3,by dsimp only;omega⟩
     .have h5:=wS (x:=c) ho;dsimp only
      rw[bF,RF]at hv;rw[dY Pf,Nat.add_mul];omega
     .intro j z hj hjz;dsimp only at hj;rw[aV be]at hjz;exact hz j z be hjz
  .have UI:i=x.ls.length:=by
    have:¬i<x.ls.length:=by simpa using h
    omega
   subst UI;have SS:val out=n*m:=by rw[hv,bF,QV]
   refine fg (I9:=fun O _ v F=>dI F (fun g=>g=(O 0).g) v (dh out)) (H':=[]) 0 rfl ce trivial rfl (fun O J r=>r.nn 0 _ rfl (by intros;simp) ce) (fun O J r=>?_) ?_
   .have hL:=r.nc (id:=0) rfl PA be;rw[Q2]at hL;exact ew (fun g V=>by rw[V];exact(r.low 0 _ rfl (r.nn 0 _ rfl (by intros;simp) ce)).2) hL
   rintro O J v F r G N hL;replace Y:=Y.tr N;have ON:=r.low 0 _ rfl (r.nn 0 _ rfl (by intros;simp) ce);generalize (O 0).g=g at*
   have hs:=G.size;intro IR w3 r3;refine⟨_,rfl,Y.tr r3.cV,dh out,?_,(e7 out).2.1,?_⟩
   .refine(hL.cP fun k Z=>?_).cO fun k Z=>.inr ?_
    .rw[Z];exact r3.qe.block g be ce
    .rw[Z];have:=r3.size;omega
   .rw[(e7 out).1,SS]
theorem BQ{q:Nat}(ho:o<2^k):o ||| 2^k*q=o+2^k*q:=by
 rw[Nat.or_comm,<-Nat.two_pow_add_eq_or_of_lt ho,Nat.add_comm]
theorem IS{x y:Nat}(E:x<18446744073709551616)(hy:y<18446744073709551616):IntKind.u64.wrap ((BitVec.ofInt IntKind.u64.bits x ||| BitVec.ofInt IntKind.u64.bits y).toNat:Int)=((x ||| y:Nat):Int):=by
 have e:∀z:Nat,BitVec.ofInt 64 (z:Int)=BitVec.ofNat 64 z:=fun z=>by
  apply BitVec.eq_of_toNat_eq;simp
 show IntKind.u64.wrap ((BitVec.ofInt 64 x ||| BitVec.ofInt 64 y).toNat:Int)=_;rw[e,e,BitVec.toNat_or,BitVec.toNat_ofNat,BitVec.toNat_ofNat,bT E,bT hy];exact eO (Nat.or_lt_two_pow (n:=64) E hy)
theorem BP(Z:k<=63)(h:a*2^k<18446744073709551616):IntKind.u64.wrap ((a:Int)*2^min ((k:Int)).toNat IntKind.u64.bits)=((a*2^k:Nat):Int):=by
 have W:min ((k:Int)).toNat IntKind.u64.bits=k:=by show min ((k:Int)).toNat 64=k;omega
 rw[W,show(a:Int)*2^k=((a*2^k:Nat):Int) by simp];exact eO h
theorem Er(ha:ls[i]? =some a)(ho:out[i]? =some o)(hz:out[i+1]? =some 0)(hv:val out=val (ls.take i)*2^b):
  val ((out.set i (o+a*2^b % 4294967296)).set (i+1) (a*2^b / 4294967296))=val (ls.take (i+1))*2^b:=by
 have W:=wS (x:=o+a*2^b % 4294967296) ho;have I:(out.set i (o+a*2^b % 4294967296))[i+1]? =some 0:=by rw[aV be];exact hz
 have h3:=wS (x:=a*2^b / 4294967296) I;rw[dY ha,Nat.add_mul,bc];rw[iy]at h3;generalize a*2^b=t at*
 have h4:=Nat.div_add_mod t 4294967296;generalize t / 4294967296=q at*
 generalize t % 4294967296=r at*
 have h5:wt i*(o+r)=wt i*o+wt i*r:=bN _ _ _;have h6:4294967296*wt i*q=wt i*(4294967296*q):=by rw[bV 4294967296 (wt i),bc]
 rw[<-h4,bN];omega
def IU(w F:World)(v:Value)(ls:List Nat):Prop:=∃g,v= .slice (some ⟨g,0,none⟩) ls.length ls.length/\w.heap.size<=g/\F.heap[g]? =some (.cells (F8 ls).toArray T.uint32 (0,0))/\Lm ls
theorem uT(L:Old S w)(h:dI w S v ls)(hl:ls.length<=1000000000000)(N:b<32):
  eD PG Fd.mf #[v,.int .u64 b] w (eL w fun v' F=>∃out,IU w F v' out/\out.length=ls.length+1/\val out=val ls*2^b):=by
 obtain⟨x,rfl,rfl⟩:=h.la;refine qc ce ?_;have hp32:2^b<=2^31:=Nat.pow_le_pow_right bv be
 refine⟨((x.ls.length+1:Nat):Int),wo,x.ls.length+1,x.ls.length+1,rfl,rfl,lr,be,be,Nat×List Nat×World,fun z=>⟨[(1,.o (.v (.int .u64 b))),(5,.o (.s 0 0 (x.ls.length+1) (x.ls.length+1))),(13,sV x.a x.ls.length x.c),(14,iZ x.ls.length),(15,iZ z.1)],
   [(0,.arr T.uint32 (F8 z.2.1))],1,[],z.2.2⟩,fun z=>x.ls.length-z.1,
  fun z=>z.1<=x.ls.length/\Bq w z.2.2/\z.2.1.length=x.ls.length+1/\Lm z.2.1/\val z.2.1=val (x.ls.take z.1)*2^b/\Zf z.2.1 (z.1+1)/\(∀o,z.2.1[z.1]? =some o->o<2^b),?_,?_⟩
 .intro O J r;rw[qf]at r;refine⟨(0,List.replicate (x.ls.length+1) 0,J),⟨ce,r.cV,ce,Lm.replicate _,by simp[val,kD],fun j z _ hz=>?_,fun o ho=>?_⟩,sbgn [] r⟩
  .simp only[List.getElem?_replicate]at hz;split at hz<;>simp_all
  .simp only[List.getElem?_replicate]at ho;split at ho
   .injection ho with ho;subst ho;exact bz _
   .cases ho
 .rintro⟨i,out,w1⟩ ⟨R,Y,Q2,PA,hv,hz,ON⟩;dsimp only at R Y Q2 PA hv hz ON ⊢;apply bS<;>intro h
  .have h:=dL h;obtain⟨a,Pf⟩:=gO x.ls i;obtain⟨ad,Ou,Oj⟩:=x.load L Y Pf;have QQ:=x.lm.at Pf;obtain⟨o,ho⟩:=gO out i;obtain⟨o1,RN⟩:=gO out (i+1);have e0:=hz _ _ lr RN;subst e0;have Rg:=ON o ho;have OP:=Er Pf ho RN hv;have Rj:a*2^b<=4294967295*2^31:=Nat.mul_le_mul be hp32;have Tj:a*2^b / 4294967296<2^b:=by
    rw[Nat.div_lt_iff_lt_mul bv,bV (2^b)];exact Nat.mul_lt_mul_of_pos_right QQ (bz b)
   have Uv:o ||| a*2^b % 4294967296=o+a*2^b % 4294967296:=by
    have:a*2^b % 4294967296=2^b*(a % 2^(32-b)):=by
     rw[show (4294967296:Nat)=2^(32-b)*2^b by rw[<-Nat.pow_add,Nat.sub_add_cancel be],Nat.mul_mod_mul_right,bV]
    rw[this];exact BQ Rg
   have Xm:o+a*2^b % 4294967296<4294967296:=by
    rw[<-Uv];exact BS be (cG _ bv)
   refine⟨ad,Ou,be,.int .u32 a,Oj _ _ _,(a:Int),eO be,be,((a*2^b:Nat):Int),BP be be,?_⟩;generalize ht:a*2^b=t at*
   refine⟨be,.int .u32 o,by rw[aN,aR,bC];exact sG ho,((t % 4294967296:Nat):Int),eu _,((o+t % 4294967296:Nat):Int),by rw[<-Uv];exact MR be (cG _ bv),be,by rw[fZ];omega,F8 (out.set i (o+t % 4294967296)),jD out i _ be ce,((i+1:Nat):Int),wo,bv,((t / 4294967296:Nat):Int),mG 32 bv,((t / 4294967296:Nat):Int),by rw[eu];omega,be,by rw[fZ];simp;omega,F8 ((out.set i (o+t % 4294967296)).set (i+1) (t / 4294967296)),jD _ (i+1) _ (by simp;omega) (by simp only[aN];omega),((i+1:Nat):Int),wo,?_⟩;intro IR w3 r3
   refine⟨(i+1,(out.set i (o+t % 4294967296)).set (i+1) (t / 4294967296),w3),⟨by dsimp only;omega,Y.tr r3.cV,by simp[Q2],(PA.set Xm).set be,OP,fun j z hj hjz=>?_,fun o2 PZ=>?_⟩,
    sbgn [] r3,by dsimp only;omega⟩
   .dsimp only at hj;rw[aV be,aV be]at hjz;exact hz j z be hjz
   .rw[aO (by simp;omega)]at PZ;injection PZ with PZ;omega
  .have UI:i=x.ls.length:=by
    have:¬i<x.ls.length:=by simpa using h
    omega
   subst UI;rw[bF]at hv;intro IR w3 r3;refine⟨_,rfl,Y.tr r3.cV,out,⟨(IR 0).g,by rw[Q2];rfl,(r3.low 0 _ rfl (r3.nn 0 _ rfl (by intros;simp) ce)).1,r3.arr 0 _ _ rfl,PA⟩,Q2,hv⟩
theorem AY{d q:Nat}(ha32:a<4294967296)(ha:ls[i]? =some a)(hd:out[i]? =some d)(N:b<=32)(ht:t=a+4294967296*ls.getD (i+1) 0)(hq:q=t / 2^b % 4294967296)(hv:val (out.take i)+wt i*(val (ls.drop i) / 2^b)=A9):
  val ((out.set i q).take (i+1))+wt (i+1)*(val (ls.drop (i+1)) / 2^b)=A9:=by
 have R:=(aH.1 hd).1;have W:(out.set i q)[i]? =some q:=by rw[aO R]
 rw[dY W,List.take_set_of_le lr,iy,<-hv];have hN:=jO ha;have I:val (ls.drop i) / 2^b=q+4294967296*(val (ls.drop (i+1)) / 2^b):=by
  have e1:val (ls.drop i) / 2^b / 4294967296=val (ls.drop (i+1)) / 2^b:=by
   rw[Nat.div_div_eq_div_mul,bV,<-Nat.div_div_eq_div_mul];congr 1;omega
  have e2:val (ls.drop i) / 2^b % 4294967296=q:=by
   have h3:∃z,val (ls.drop i)=t+2^b*(4294967296*z):=by
    cases E:ls[i+1]? with
    |some y=>
     have:=jO E;refine⟨2^(32-b)*val (ls.drop (i+1+1)),?_⟩;have h4:2^b*(4294967296*(2^(32-b)*val (ls.drop (i+1+1))))=18446744073709551616*val (ls.drop (i+1+1)):=by
      rw[Nat.mul_left_comm,<-bc (2^b),<-Nat.pow_add,Nat.add_sub_cancel' N,<-bc]
     rw[h4,hN,this,ht,List.getD,E];simp only[Option.getD_some]
     omega
    |none=>
     refine⟨0,?_⟩;have h5:ls.length<=i+1:=List.getElem?_eq_none_iff.1 E;rw[hN,List.drop_of_length_le h5,ht,List.getD,E];simp[val]
   obtain⟨z,hz⟩:=h3;rw[hz,Nat.add_mul_div_left _ _ (bz b),Nat.add_mul_mod_self_left,hq]
  have:=Nat.div_add_mod (val (ls.drop i) / 2^b) 4294967296;rw[e1,e2]at this;omega
 rw[I,bN,bV 4294967296 (wt i),bc];omega
theorem IV(L:Old S w)(h:dI w S v ls)(hl:ls.length<=1000000000000)(N:b<32):
  eD PG Fd.qN #[v,.int .u64 b] w (eL w fun v' F=>dQ F (Nf w F) v' (val ls / 2^b)):=by
 obtain⟨x,rfl,rfl⟩:=h.la;refine tU ce ?_
 refine⟨x.ls.length,x.ls.length,rfl,rfl,lr,be,be,Nat×List Nat×World,fun z=>⟨[(0,sV x.a x.ls.length x.c),(1,.o (.v (.int .u64 b))),(5,.o (.s 0 0 x.ls.length x.ls.length)),(12,iZ x.ls.length),(13,iZ z.1)],
   [(0,.arr T.uint32 (F8 z.2.1))],1,[],z.2.2⟩,fun z=>x.ls.length-z.1,
  fun z=>z.1<=x.ls.length/\Bq w z.2.2/\z.2.1.length=x.ls.length/\Lm z.2.1/\val (z.2.1.take z.1)+wt z.1*(val (x.ls.drop z.1) / 2^b)=val x.ls / 2^b,?_,?_⟩
 .intro O J r;rw[qf]at r;exact⟨(0,List.replicate x.ls.length 0,J),⟨ce,r.cV,ce,Lm.replicate _,by simp[val,jV]⟩,sbgn [] r⟩
 .rintro⟨i,out,w1⟩ ⟨R,Y,Q2,PA,hv⟩;dsimp only at R Y Q2 PA hv ⊢;apply bS<;>intro h
  .have h:=dL h;obtain⟨a,Pf⟩:=gO x.ls i;obtain⟨ad,Ou,Oj⟩:=x.load L Y Pf;have QQ:=x.lm.at Pf;obtain⟨d,hd⟩:=gO out i;refine⟨ad,Ou,be,.int .u32 a,Oj _ _ _,(a:Int),eO be,((i+1:Nat):Int),wo,?_⟩;apply bS<;>intro I
   .have I:i+1<x.ls.length:=by
     have:((i+1:Nat):Int)<x.ls.length:=aI I;omega
    obtain⟨y,hy⟩:=gO x.ls (i+1);obtain⟨ad2,PH,Qz⟩:=x.load L Y hy;have hy32:=x.lm.at hy;have RI:x.ls.getD (i+1) 0=y:=by simp[List.getD,hy]
    have Uv:a ||| y*2^32=a+4294967296*y:=by
     rw[bV];exact BQ (k:=32) QQ
    refine⟨((i+1:Nat):Int),wo,ad2,PH,be,.int .u32 y,Qz _ _ _,(y:Int),eO be,bv,((y*2^32:Nat):Int),BP (k:=32) bv be,((a+4294967296*y:Nat):Int),by rw[IS be be,Uv],be,(((a+4294967296*y) / 2^b:Nat):Int),mG b be,(((a+4294967296*y) / 2^b % 4294967296:Nat):Int),eu _,?_⟩;have OP:=AY (t:=a+4294967296*y) QQ Pf hd be (by rw[RI]) rfl hv;generalize hq:(a+4294967296*y) / 2^b % 4294967296=q at*
    have hq32:q<4294967296:=by rw[<-hq];exact cG _ bv
    refine⟨be,by rw[fZ];omega,F8 (out.set i q),jD out i _ be ce,((i+1:Nat):Int),wo,?_⟩;intro IR w3 r3
    exact⟨(i+1,out.set i q,w3),⟨by dsimp only;omega,Y.tr r3.cV,by simp[Q2],PA.set hq32,OP⟩,
     sbgn [] r3,by dsimp only;omega⟩
   .have I:¬i+1<x.ls.length:=by
     have:¬((i+1:Nat):Int)<x.ls.length:=aL I;omega
    have RI:x.ls.getD (i+1) 0=0:=by simp[List.getD,List.getElem?_eq_none (show x.ls.length<=i+1 by omega)]
    refine⟨be,((a / 2^b:Nat):Int),mG b be,((a / 2^b % 4294967296:Nat):Int),eu _,?_⟩;have OP:=AY (t:=a) QQ Pf hd be (by rw[RI];omega) rfl hv;generalize hq:a / 2^b % 4294967296=q at*
    have hq32:q<4294967296:=by rw[<-hq];exact cG _ bv
    refine⟨be,by rw[fZ];omega,F8 (out.set i q),jD out i _ be ce,((i+1:Nat):Int),wo,?_⟩;intro IR w3 r3
    exact⟨(i+1,out.set i q,w3),⟨by dsimp only;omega,Y.tr r3.cV,by simp[Q2],PA.set hq32,OP⟩,
     sbgn [] r3,by dsimp only;omega⟩
  .have UI:i=x.ls.length:=by
    have:¬i<x.ls.length:=by simpa using h
    omega
   subst UI;have SS:val out=val x.ls / 2^b:=by
    rw[List.drop_length,bU be]at hv;simpa [val]using hv
   refine fg (I9:=fun O _ v F=>dI F (fun g=>g=(O 0).g) v (dh out)) (H':=[]) 0 rfl ce trivial rfl (fun O J r=>r.nn 0 _ rfl (by intros;simp) ce) (fun O J r=>?_) ?_
   .have hL:=r.nc (id:=0) rfl PA be;rw[Q2]at hL;exact ew (fun g V=>by rw[V];exact(r.low 0 _ rfl (r.nn 0 _ rfl (by intros;simp) ce)).2) hL
   rintro O J v F r G N hL;replace Y:=Y.tr N;have ON:=r.low 0 _ rfl (r.nn 0 _ rfl (by intros;simp) ce);generalize (O 0).g=g at*
   have hs:=G.size;intro IR w3 r3;refine⟨_,rfl,Y.tr r3.cV,dh out,?_,(e7 out).2.1,?_⟩
   .refine(hL.cP fun k Z=>?_).cO fun k Z=>.inr ?_
    .rw[Z];exact r3.qe.block g be ce
    .rw[Z];have:=r3.size;omega
   .rw[(e7 out).1,SS]
theorem Es{by_ rest x d:Nat}(E:ls[k]? =some x)(hd:out[k]? =some d)(ht:t=rest*4294967296+x)
  (hv:val (ls.drop (k+1))=by_*val (out.drop (k+1))+rest):val (ls.drop k)=by_*val ((out.set k (t / by_)).drop k)+t % by_:=by
 have R:=(aH.1 hd).1;have W:(out.set k (t / by_))[k]? =some (t / by_):=by rw[aO R]
 rw[jO W,List.drop_set_of_lt (show k<k+1 by omega),jO E,hv,bN,bN];have I:=Nat.div_add_mod t by_;rw[Nat.mul_left_comm by_];omega
theorem IT(h:t<18446744073709551616):IntKind.u64.wrap ((t:Int).tdiv (b:Int))=((t / b:Nat):Int):=by
 have W:=Nat.div_le_self t b;rw[Int.tdiv_eq_ediv_of_nonneg be,<-Int.natCast_ediv];exact eO be
theorem ki(t b:Nat):(t:Int).tmod (b:Int)=((t % b:Nat):Int):=by
 rw[Int.tmod_eq_emod_of_nonneg be,<-Int.natCast_emod]
theorem Fa(L:Old S w)(h:dI w S v ls)(hl:ls.length<=1000000000000)(N:0<b)(PD:b<4294967296):
  eD PG Fd.oz #[v,.int .u32 b] w (eL w fun v' F=>∃q,v'= .tuple #[q,.int .u32 ((val ls % b:Nat):Int)]/\dQ F (Nf w F) q (val ls / b)):=by
 obtain⟨x,rfl,rfl⟩:=h.la;refine sZ ce ?_
 refine⟨x.ls.length,x.ls.length,rfl,rfl,lr,be,be,(x.ls.length:Int)-1,wo,Nat×Nat×List Nat×World,fun z=>⟨[(0,sV x.a x.ls.length x.c),(1,.o (.v (.int .u32 b))),(4,sV none 0 0),(5,.o (.v (.int .u32 0))),(6,.o (.s 0 0 x.ls.length x.ls.length)),(7,.o (.v (.int .u64 z.2.1))),(8,.o (.v (iV ((z.1:Int)-1))))],
   [(0,.arr T.uint32 (F8 z.2.2.1))],1,[],z.2.2.2⟩,fun z=>z.1,
  fun z=>z.1<=x.ls.length/\Bq w z.2.2.2/\z.2.2.1.length=x.ls.length/\Lm z.2.2.1/\z.2.1<b/\val (x.ls.drop z.1)=b*val (z.2.2.1.drop z.1)+z.2.1,?_,?_⟩
 .intro O J r;rw[qf]at r;exact⟨(x.ls.length,0,List.replicate x.ls.length 0,J),⟨ce,r.cV,ce,Lm.replicate _,by simpa using N,by simp[val]⟩,sbgn [] r⟩
 .rintro⟨k,rest,out,w1⟩ ⟨R,Y,Q2,PA,hr,hv⟩;dsimp only at R Y Q2 PA hr hv ⊢;apply bS<;>intro h
  .have h:(k:Int)-1≥0:=aI h;obtain⟨k,rfl⟩:∃q,k=q+1:=⟨k-1,be⟩
   rw[show ((k+1:Nat):Int)-1=(k:Int) by omega];obtain⟨a,Pf⟩:=gO x.ls k;obtain⟨ad,Ou,Oj⟩:=x.load L Y Pf;have QQ:=x.lm.at Pf;obtain⟨d,hd⟩:=gO out k;refine⟨bv,((rest*2^32:Nat):Int),BP (k:=32) bv be,ad,Ou,be,.int .u32 a,Oj _ _ _,(a:Int),eO be,?_⟩;have Uv:rest*2^32 ||| a=rest*4294967296+a:=by
    rw[Nat.or_comm,bV,BQ (k:=32) QQ];omega
   refine⟨((rest*4294967296+a:Nat):Int),by rw[IS be be,Uv],?_⟩;generalize ht:rest*4294967296+a=t;have ht64:t<18446744073709551616:=by omega
   refine dP (idO 14) ?_;refine⟨(b:Int),eO be,be,((t / b:Nat):Int),IT ht64,?_⟩;have hq:t / b<4294967296:=by
    rw[Nat.div_lt_iff_lt_mul N];have:=Nat.mul_le_mul_right 4294967296 hr;rw[Nat.succ_eq_add_one,Nat.add_mul]at this;omega
   have hm:t % b<b:=cG _ N;have OP:=Es Pf hd ht.symm hv;have hw32:IntKind.u32.wrap ((t / b:Nat):Int)=((t / b:Nat):Int):=by rw[eu,bT hq]
   have hrem:=ki t b;generalize t / b=q at*
   generalize t % b=m at*
   refine⟨(q:Int),hw32,(b:Int),eO be,be,(m:Int),hrem,be,by rw[fZ];omega,F8 (out.set k q),jD out k _ be ce,(k:Int)-1,wo,?_⟩;intro IR w3 r3
   exact⟨(k,m,out.set k q,w3),⟨by dsimp only;omega,Y.tr r3.cV,by simp[Q2],PA.set hq,hm,OP⟩,
    sbgn [] r3,by dsimp only;omega⟩
  .have Ui:k=0:=by
    have:¬(k:Int)-1≥0:=aL h;omega
   subst Ui;rw[List.drop_zero,List.drop_zero]at hv;have hdm:val x.ls / b=val out/\val x.ls % b=rest:=by
    rw[hv];exact⟨by rw[Nat.mul_add_div N,Nat.div_eq_of_lt hr,cH],by rw[Nat.mul_add_mod,bT hr]⟩
   rw[hdm.1,hdm.2];refine fg (I9:=fun O _ v F=>dI F (fun g=>g=(O 0).g) v (dh out)) (H':=[]) 0 rfl ce trivial rfl (fun O J r=>r.nn 0 _ rfl (by intros;simp) ce) (fun O J r=>?_) ?_
   .have hL:=r.nc (id:=0) rfl PA be;rw[Q2]at hL;exact ew (fun g V=>by rw[V];exact(r.low 0 _ rfl (r.nn 0 _ rfl (by intros;simp) ce)).2) hL
   rintro O J v F r G N hL;replace Y:=Y.tr N;have ON:=r.low 0 _ rfl (r.nn 0 _ rfl (by intros;simp) ce);generalize (O 0).g=g at*
   have hs:=G.size;refine⟨(rest:Int),by rw[eu,bT be],?_⟩;intro IR w3 r3;refine⟨_,rfl,Y.tr r3.cV,v,rfl,dh out,?_,(e7 out).2.1,(e7 out).1⟩;refine(hL.cP fun k Z=>?_).cO fun k Z=>.inr ?_
   .rw[Z];exact r3.qe.block g be ce
   .rw[Z];have:=r3.size;omega
end Go.Ex
