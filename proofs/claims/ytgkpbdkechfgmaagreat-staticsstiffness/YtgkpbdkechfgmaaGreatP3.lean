/- Texts L1 to X9: lemmas, each with its conditions. -/
import Derived.KernelRfl
import Derived.Test.YtgkpbdkechfgmaaGreatProg
import Derived.Test.YtgkpbdkechfgmaaGreatP2
namespace Go.Ex
variable{a b ls:List Nat}{k:Nat}
def val:List Nat->Nat
 |[]=>0
 |x::r=>x+4294967296*val r
def Lm(ls:List Nat):Prop:=∀x∈ls,x<4294967296
def wt(k:Nat):Nat:=4294967296^k
theorem kA:wt 0=1:=rfl
theorem ji(k:Nat):wt (k+1)=4294967296*wt k:=by rw[wt,Nat.pow_succ,bl];rfl
theorem Fu(a b:Nat):wt (a+b)=wt a*wt b:=by rw[wt,Nat.pow_add];rfl
theorem yR(k:Nat):0<wt k:=Nat.pow_pos bi
theorem ml(a b:List Nat):val (a++b)=val a+wt a.length*val b:=by
 induction a with
 |nil=>simp[val,kA]
 |cons x r ih=>
  rw[List.cons_append,val,val,ih,bg,ji,bp,bz];omega
theorem ph(h:Lm ls):val ls<wt ls.length:=by
 induction ls with
 |nil=>exact Nat.one_pos
 |cons x r ih=>
  have I:=h x bv;have G:=ih (fun y hy=>h y (by simp[hy]));rw[val,bg,ji];have:4294967296*(val r+1)<=4294967296*wt r.length:=bX _ G;omega
theorem fR(ls:List Nat)(k:Nat)(h:k<=ls.length):val ls=val (ls.take k)+wt k*val (ls.drop k):=by
 have:=ml (ls.take k) (ls.drop k);rw[List.take_append_drop,ah,Nat.min_eq_left h]at this;exact this
theorem eF{x:Nat}(h:ls[k]? =some x):val (ls.take (k+1))=val (ls.take k)+wt k*x:=by
 have K:=(aE.1 h).1;rw[bB,h,ml,ah,Nat.min_eq_left be];simp[val]
theorem jv{x:Nat}(h:ls[k]? =some x):val (ls.drop k)=x+4294967296*val (ls.drop (k+1)):=by
 obtain⟨K,U⟩:=aE.1 h;rw[List.drop_eq_getElem_cons K,U,val]
theorem Az{o x:Nat}(h:ls[k]? =some o):val (ls.set k x)+wt k*o=val ls+wt k*x:=by
 obtain⟨K,ho⟩:=aE.1 h;have I:=fR ls k be;have G:=fR (ls.set k x) k (by simp;omega);rw[List.take_set_of_le (aP _)]at G;rw[jv h,bp]at I;have h3:(ls.set k x)[k]? =some x:=by rw[aT K]
 rw[jv h3,List.drop_set_of_lt be,bp]at G;omega
theorem oW(n:Nat):val (List.replicate n 0)=0:=by
 induction n with
 |zero=>rfl
 |succ n ih=>rw[List.replicate_succ,val,ih]
theorem Lm.set{x:Nat}(h:Lm ls)(U:x<4294967296):Lm (ls.set k x):=fun y hy=>by
 rcases bE hy with I|rfl
 .exact h y I
 .exact U
theorem Lm.replicate(n:Nat):Lm (List.replicate n 0):=fun x U=>by rw[List.mem_replicate]at U;omega
theorem Lm.take(h:Lm ls)(k:Nat):Lm (ls.take k):=fun x U=>h x (bq U)
theorem Lm.drop(h:Lm ls)(k:Nat):Lm (ls.drop k):=fun x U=>h x (List.mem_of_mem_drop U)
theorem Lm.append(ha:Lm a)(hb:Lm b):Lm (a++b):=fun x U=>by
 rcases bG.1 U with h|h
 .exact ha x h
 .exact hb x h
theorem Lm.at(h:Lm ls){x:Nat}(U:ls[k]? =some x):x<4294967296:=h x (aC U)
def eM:List Nat->List Nat
 |[]=>[]
 |x::r=>match eM r with
  |[]=>if x=0 then []else [x]
  |y::t=>x::y::t
def Nz(ls:List Nat):Prop:=∀x,ls.getLast? =some x->x≠0
theorem mB(ls:List Nat):eM (ls++[0])=eM ls:=by
 induction ls with
 |nil=>rfl
 |cons x r ih=>rw[List.cons_append,eM,ih,eM]
theorem pj(ls:List Nat){x:Nat}(U:x≠0):eM (ls++[x])=ls++[x]:=by
 induction ls with
 |nil=>simp[eM,U]
 |cons y r ih=>
  rw[List.cons_append,eM,ih]
  cases r<;>rfl
theorem ug(ls:List Nat):ls=[]\/∃a x,ls=a++[x]:=by
 rcases List.eq_nil_or_concat ls with h|⟨a,x,h⟩
 .exact .inl h
 .exact .inr ⟨a,x,by simpa using h⟩
theorem fX(ls:List Nat):val (eM ls)=val ls/\Nz (eM ls)/\∃k,k<=ls.length/\eM ls=ls.take k:=by
 have key:∀(n:Nat) (ls:List Nat),ls.length=n->val (eM ls)=val ls/\Nz (eM ls)/\∃k,k<=ls.length/\eM ls=ls.take k:=by
  intro n
  induction n with
  |zero=>intro ls h;have:ls=[]:=List.eq_nil_of_length_eq_zero h;subst this;exact⟨rfl,by simp[Nz,eM],0,aP _,rfl⟩
  |succ n ih=>
   intro ls h;rcases ug ls with rfl|⟨a,x,rfl⟩
   .simp at h
   .by_cases U:x=0
    .subst U;rw[mB];obtain⟨I,G,k,h3,h4⟩:=ih a (by simp at h;omega);refine⟨by rw[I,ml];simp[val],G,k,by simp;omega,?_⟩;rw[h4,List.take_append_of_le_length h3]
    .rw[pj a U];refine⟨rfl,?_,_,aP _,by rw[bN]⟩;intro y hy;simp at hy;subst hy;exact U
 exact key _ ls rfl
theorem Hi(h:Nz ls):eM ls=ls:=by
 rcases ug ls with rfl|⟨a,x,rfl⟩
 .rfl
 .exact pj a (h x bv)
theorem tx(h:Nz ls)(Ox:ls≠[]):wt (ls.length-1)<=val ls:=by
 rcases ug ls with rfl|⟨a,x,rfl⟩
 .exact absurd rfl Ox
 .have U:=h x bv;rw[ml];simp only[val,aQ,bC,Nat.add_sub_cancel]
  have:wt a.length*1<=wt a.length*(x+4294967296*0):=bX _ be;omega
theorem val_inj:∀{a b:List Nat},Lm a->Lm b->a.length=b.length->val a=val b->a=b
 |[],[],_,_,_,_=>rfl
 |x::r,y::s,ha,hb,hl,h=>by
  have I:=ha x bv;have G:=hb y bv;rw[val,val]at h;have h3:x=y:=by omega
  have h4:val r=val s:=by omega
  rw[h3,val_inj (fun z hz=>ha z (by simp[hz])) (fun z hz=>hb z (by simp[hz])) (by simpa using hl) h4]
 |[],_::_,_,_,h,_=>by simp at h
 |_::_,[],_,_,h,_=>by simp at h
theorem Bd{a b:Nat}(h:a<=b):wt a<=wt b:=Nat.pow_le_pow_right bi h
theorem LN{a b:Nat}(h:a<b):wt a<wt b:=Nat.pow_lt_pow_right bi h
theorem jk(ha:Lm a)(hb:Nz b)(h:a.length<b.length):val a<val b:=by
 have I:=ph ha;have G:=tx hb (by intro e;rw[e]at h;simp at h);have:=Bd (show a.length<=b.length-1 by omega);omega
def ln(n:Nat):Nat:=if n=0 then 0 else n.log2 / 32+1
theorem yS(k:Nat):wt k=2^(32*k):=by rw[wt,show(4294967296:Nat)=2^32 from rfl,<-Nat.pow_mul]
theorem gg{n k:Nat}:ln n<=k↔n<wt k:=by
 unfold ln;by_cases h:n=0
 .rw[aM h,h];exact⟨fun _=>yR k,fun _=>aR _⟩
 .rw[aJ h,yS];constructor
  .intro I;have:n.log2<32*k:=by omega
   exact(Nat.log2_lt h).1 this
  .intro I;have:=(Nat.log2_lt h).2 I;omega
theorem mm(n:Nat):n<wt (ln n):=gg.1 (aP _)
theorem fq{a b:Nat}(h:a<=b):ln a<=ln b:=gg.2 (Nat.lt_of_le_of_lt h (mm b))
theorem aCk(a b:Nat):ln (a+b)<=max (ln a) (ln b)+1:=by
 rw[gg,ji];have I:=Nat.lt_of_lt_of_le (mm a) (Bd (Nat.le_max_left (ln a) (ln b)));have G:=Nat.lt_of_lt_of_le (mm b) (Bd (Nat.le_max_right (ln a) (ln b)));omega
theorem aCl(a b:Nat):ln (a*b)<=ln a+ln b:=by
 rw[gg,Fu];exact Nat.mul_lt_mul'' (mm a) (mm b)
theorem aB7:ln 0=0:=rfl
theorem eu(h:Lm ls)(hz:Nz ls):ls.length=ln (val ls):=by
 by_cases Ox:ls=[]
 .subst Ox;rfl
 .have I:=ph h;have G:=tx hz Ox;have h3:=gg.2 I;have h4:¬ln (val ls)<=ls.length-1:=fun hh=>by have:=gg.1 hh;omega
  omega
end Go.Ex
namespace Go.Ex
open Go Go.Sx
variable{f:(Nat->Sx.eG)->Value}{ls:List Nat}{g:Nat}{p:Nat×Nat}{v:Value}{P:Value->World->Prop}{w1:World}
def Cv(S:Nat->Prop)(B:Nat)(iv:Iv)(g:Nat):Prop:=S g\/(B<=g/\∃lo D,(lo,D)∈iv/\lo<=g/\g<D)
def Nw(S:Nat->Prop)(w Y:World)(g:Nat):Prop:=S g\/(w.heap.size<=g/\g<Y.heap.size)
def Old(S:Nat->Prop)(w:World):Prop:=∀g,S g->g<w.heap.size
section
variable{S S':Nat->Prop}{H:Hp}{nx:Nat}{iv N:Iv}{B:Nat}{w J Y:World}{O:Nat->eG}
theorem Cv.mono(h:Cv S B iv g)(k:∀p,p∈iv->p∈N):Cv S B N g:=by
 rcases h with h|⟨h0,lo,D,I,G⟩
 .exact .inl h
 .exact .inr ⟨h0,lo,D,k _ I,G⟩
theorem Cv.cons(h:Cv S B iv g):Cv S B (p::iv) g:=h.mono fun q hq=>by simp[hq]
theorem rlo(r:Rel H nx iv B w O J)(F:∀g,S g->g<B):Old (Cv S B iv) J:=by
 intro g h;rcases h with h|⟨_,lo,D,I,_,h3⟩
 .have:=F g h;have:=r.base;have:=r.size;omega
 .have:=r.tI lo D I;have:=r.size;omega
theorem rls(r:Rel H nx iv B w O J)(F:∀g,S g->g<B)(h:Cv S B iv g):J.heap[g]? =w.heap[g]? :=by
 rcases h with h|⟨_,lo,D,I,G,h3⟩
 .have:=F g h;exact r.yJ g (by have:=r.base;omega) fun id b hb W L=>by have:=(r.low id b hb W).1;omega
 .exact r.yJ g (by have:=r.tI lo D I;omega) fun id b hb W L=>r.mA lo D I id b hb W ⟨be,be⟩
theorem Rel.not(r:Rel H nx iv B w O J)(F:∀g,S g->g<B)(h:Cv S B iv g):∀id b,dU H id=some b->(O id).nil=false->(O id).g≠g:=by
 rcases h with h|⟨_,lo,D,I,G,h3⟩
 .have:=F g h;exact fun id b hb W L=>by have:=(r.low id b hb W).1;omega
 .exact fun id b hb W L=>r.mA lo D I id b hb W ⟨be,be⟩
theorem Nw.cv(h:Nw (Cv S B iv) J w1 g)(hB:B<=J.heap.size):Cv S B ((J.heap.size,w1.heap.size)::iv) g:=by
 rcases h with h|h
 .exact h.cons
 .exact .inr ⟨be,_,_,aH,h.1,h.2⟩
theorem Cv.nw{w0:World}(h:Cv S w0.heap.size iv g)(r:Rel H nx iv w0.heap.size w O J):Nw S w0 J g:=by
 rcases h with h|⟨h0,lo,D,I,_,h3⟩
 .exact .inl h
 .exact .inr ⟨h0,by have:=r.tI lo D I;have:=r.size;omega⟩
structure dc(w:World)(S:Nat->Prop)(v:Value)(ls:List Nat):Prop where
 lm:Lm ls
 le:ls.length<=9223372036854775807
 sl:∃a c,v= .slice a ls.length c/\ls.length<=c/\∀(j:Nat) x,ls[j]? =some x->∃ad,a=some ad/\S ad.block/\w.cell? (ad.add j)=some (.int .u32 x)
theorem dO(ad:Addr)(j:Nat):(ad.add j).block=ad.block:=by
 unfold Addr.add;split<;>rfl
theorem dc.cR(h:dc w S v ls)(K:∀g,S g->Y.heap[g]? =w.heap[g]?):dc Y S v ls:=by
 obtain⟨a,c,I,Ty,G⟩:=h.sl;refine⟨h.lm,h.le,a,c,I,Ty,fun j x U=>?_⟩;obtain⟨ad,h3,h4,h5⟩:=G j x U;exact⟨ad,h3,h4,by rw[cV (K _ (by rw[dO];exact h4))];exact h5⟩
theorem dc.cP(h:dc w S v ls)(K:∀g,S g->S' g):dc w S' v ls:=by
 obtain⟨a,c,I,Ty,G⟩:=h.sl;refine⟨h.lm,h.le,a,c,I,Ty,fun j x U=>?_⟩;obtain⟨ad,h3,h4,h5⟩:=G j x U;exact⟨ad,h3,K _ h4,h5⟩
theorem dc.rel(h:dc w (Cv S B iv) v ls)(r:Rel H nx iv B w O J)(F:∀g,S g->g<B):dc J (Cv S B iv) v ls:=h.cR fun _g X=>rls r F X
theorem dc.nil(w:World)(S:Nat->Prop):dc w S (.slice none 0 0) []:=⟨by simp[Lm],bv,none,0,rfl,aP _,bv⟩
def eQ(w:World)(S:Nat->Prop)(v:Value)(n:Nat):Prop:=∃ls,dc w S v ls/\Nz ls/\val ls=n
theorem eQ.cR{n:Nat}(h:eQ w S v n)(K:∀g,S g->Y.heap[g]? =w.heap[g]?):eQ Y S v n:=by
 obtain⟨ls,I,G,h3⟩:=h;exact⟨ls,I.cR K,G,h3⟩
theorem eQ.cP{n:Nat}(h:eQ w S v n)(K:∀g,S g->S' g):eQ w S' v n:=by
 obtain⟨ls,I,G,h3⟩:=h;exact⟨ls,I.cP K,G,h3⟩
theorem eQ.nil(w:World)(S:Nat->Prop):eQ w S (.slice none 0 0) 0:=⟨[],dc.nil w S,by simp[Nz],rfl⟩
end
abbrev iZ(z:Int):SV:=.o (.v (.int .i64 z))
abbrev iN(n:Nat):SV:=.o (.v (.int .i64 (n:Int)))
abbrev sV(a:Option Addr)(n c:Nat):SV:=.o (.v (.slice a n c))
abbrev pP(i j:Nat):SV:=.o (.p i j)
theorem rtn{H:Hp}{nx:Nat}{iv:Iv}{w:World}(V:ju w.heap.size w w1)(h:∀O J,Rel H nx iv w.heap.size w1 O J->P (f O) J):∀O J,Rel H nx iv w.heap.size w1 O J->eR w P (.returned (f O)) J:=fun O J r=>⟨_,rfl,V.tr r.cZ,h O J r⟩
abbrev FF:Nat->Prop:=fun _=>False
theorem bR(w:World):ju w.heap.size w w:=ju.refl
abbrev Nf(w Y:World):Nat->Prop:=Nw (fun _=>False) w Y
abbrev Cf(w:World):Iv->Nat->Prop:=Cv (fun _=>False) w.heap.size
section
variable{S:Nat->Prop}{H:Hp}{nx:Nat}{iv:Iv}{B i n:Nat}{w w1 J:World}{O:Nat->Sx.eG}{ad:Addr}{Z:List Value}{x:Value}
theorem kS(V:ju B w w1)(r:Rel H nx iv B w1 O J)(F:∀g,S g->g<B):∀g,S g->J.heap[g]? =w.heap[g]? :=fun g X=>(V.tr r.cZ).block g (F g X)
theorem oS(F:∀g,S g->g<B)(r:Rel H nx iv B w O J):∀g,S g->g<J.heap.size:=fun g X=>by have:=F g X;have:=r.base;have:=r.size;omega
theorem rdO(hl:∀(j:Nat) u,Z[j]? =some u->S ad.block/\w.cell? ((ad.add (i*n)).add j)=some u)(V:ju B w w1)(F:∀g,S g->g<B):∀O J,Rel H nx iv B w1 O J->∀(j:Nat) u,Z[j]? =some u->J.cell? ((ad.add ((i:Int).toNat*n)).add j)=some u:=fun O J r j u hu=>by
 obtain⟨k1,k2⟩:=hl j u hu;rw[aF,cV (w:=w) (Y:=J) (by rw[dO,dO];exact(V.tr r.cZ).block _ (F _ k1))];exact k2
theorem rd1(hl:w.cell? (ad.add (i*n))=some x)(V:ju B w w1)(hb:ad.block<B):∀O J,Rel H nx iv B w1 O J->J.cell? (ad.add ((i:Int).toNat*n))=some x:=fun O J r=>by
 rw[aF,cV (w:=w) (Y:=J) (by rw[dO];exact(V.tr r.cZ).block _ hb)];exact hl
end
def xsF:Nat->Nat->List It
 |0,_=>[]
 |n+1,k=>.x k::xsF n (k+1)
abbrev idO(n:Nat):List It:=xsF n 0
abbrev Bq(w x:World):Prop:=ju w.heap.size w x
abbrev nls:Value:=.slice none 0 0
abbrev iV(z:Int):Value:=.int .i64 z
abbrev rC(a:Bool)(b:Option Addr)(c d:Nat)(e:Bool)(f:Option Addr)(g h:Nat):List Value:=[.bool a,.slice b c d,.bool e,.slice f g h]
abbrev pR{α:Type}(P:World->(Nat->Prop)->Value->α->Prop)(q:α):(Nat->Sx.eG)->World->Value->World->Prop:=fun _ J v Y=>P Y (Nf J Y) v q
abbrev pE(x:Value):(Nat->Sx.eG)->World->Value->World->Prop:=fun _ _ v _=>v=x
end Go.Ex
namespace Go.Ex
open Go Go.Sx Go.Proofs
variable{ops:Array Oper}{args:Array Value}{Fn:Ending->World->Prop}{H:Hp}{iv:Iv}{ls:List Nat}{k nx:Nat}{S:Nat->Prop}{O:Nat->Sx.eG}{v:Value}{w:World}
noncomputable abbrev PG:Program:=Tryz.prog
def slT(e:Nat):TI:={size:=1,bytes:=24,zero:=[.slice none 0 0],agg:=false,tag:=4,elem:=e}
def aD7:List (Nat×TI):=[
 (3,{size:=1,bytes:=8,zero:=[.int .i64 0],agg:=false,tag:=1,ik:=.i64}),
 (4,{size:=1,bytes:=1,zero:=[.bool false],agg:=false,tag:=2}),
 (40,slT 48),
 (48,{size:=4,bytes:=64,zero:=[.bool false,.slice none 0 0,.bool false,.slice none 0 0],agg:=true,tag:=5,fields:=[(0,46),(2,46)]}),
 (37,slT 3),
 (32,{size:=1,bytes:=8,zero:=[.int .i64 0],agg:=false,tag:=1,ik:=.i64}),
 (26,{size:=3,bytes:=72,zero:=[.slice none 0 0,.slice none 0 0,.slice none 0 0],agg:=true,tag:=5,fields:=[(0,22),(1,23),(2,24)]}),
 (87,slT 40),
 (46,{size:=2,bytes:=32,zero:=[.bool false,.slice none 0 0],agg:=true,tag:=5,fields:=[(0,4),(1,44)]}),
 (155,slT 292),
 (30,slT 141),
 (209,slT 159),
 (292,{size:=1,bytes:=4,zero:=[.int .u32 0],agg:=false,tag:=1,ik:=.u32}),
 (159,{size:=4,bytes:=64,zero:=[.bool false,.slice none 0 0,.bool false,.slice none 0 0],agg:=true,tag:=5,fields:=[(0,157),(2,157)]}),
 (157,{size:=2,bytes:=32,zero:=[.bool false,.slice none 0 0],agg:=true,tag:=5,fields:=[(0,4),(1,155)]}),
 (206,slT 209),
 (291,{size:=1,bytes:=8,zero:=[.int .u64 0],agg:=false,tag:=1,ik:=.u64}),
 (24,slT 146),
 (168,{size:=2,bytes:=32,zero:=[.slice none 0 0,.int .i64 0],agg:=true,tag:=5,fields:=[(0,87),(1,3)]}),
 (23,slT 144),
 (141,{size:=4,bytes:=32,zero:=[.int .i64 0,.int .i64 0,.int .i64 0,.int .i64 0],agg:=true,tag:=5,fields:=[(0,3),(1,3),(2,3),(3,3)]}),
 (22,slT 195),
 (100,{size:=3,bytes:=56,zero:=[.int .i64 0,.slice none 0 0,.slice none 0 0],agg:=true,tag:=5,fields:=[(0,3),(1,37),(2,37)]}),
 (44,slT 292),
 (144,{size:=6,bytes:=80,zero:=[.int .i64 0,.int .i64 0,.bool false,.slice none 0 0,.bool false,.slice none 0 0],agg:=true,tag:=5,fields:=[(0,3),(1,3),(2,48)]}),
 (195,{size:=3,bytes:=24,zero:=[.int .i64 0,.int .i64 0,.int .i64 0],agg:=true,tag:=5,fields:=[(0,3),(1,3),(2,3)]}),
 (146,{size:=6,bytes:=80,zero:=[.int .i64 0,.int .i64 0,.bool false,.slice none 0 0,.bool false,.slice none 0 0],agg:=true,tag:=5,fields:=[(0,3),(1,3),(2,48)]}),
 (177,slT 37),
 (101,slT 117),
 (27,slT 30),
 (58,{size:=3,bytes:=56,zero:=[.int .i64 0,.slice none 0 0,.slice none 0 0],agg:=true,tag:=5,fields:=[(0,3),(1,40),(2,40)]}),
 (255,{size:=4,bytes:=80,zero:=[.slice none 0 0,.int .i64 0,.slice none 0 0,.slice none 0 0],agg:=true,tag:=5,fields:=[(0,168),(2,37),(3,37)]}),
 (117,{size:=4,bytes:=32,zero:=[.int .i64 0,.int .i64 0,.int .i64 0,.int .i64 0],agg:=true,tag:=5,fields:=[(0,3),(1,3),(2,3),(3,3)]}),
 (31,slT 52),
 (70,slT 193),
 (120,{size:=2,bytes:=16,zero:=[.int .i64 0,.int .i64 0],agg:=true,tag:=5,fields:=[(0,3),(1,3)]}),
 (102,slT 120),
 (191,{size:=8,bytes:=64,zero:=[.int .i64 0,.int .i64 0,.int .i64 0,.int .i64 0,.int .i64 0,.int .i64 0,.int .i64 0,.int .i64 0],agg:=true,tag:=5,fields:=[(0,184),(4,3),(5,3),(6,3),(7,3)]}),
 (225,{size:=5,bytes:=40,zero:=[.int .i64 0,.int .i64 0,.int .i64 0,.int .i64 0,.int .i64 0],agg:=true,tag:=5,fields:=[(0,3),(1,3),(2,3),(3,3),(4,3)]}),
 (229,slT 228),
 (267,{size:=3,bytes:=24,zero:=[.int .i64 0,.int .i64 0,.int .i64 0],agg:=true,tag:=6,Fm:=3,elem:=3}),
 (97,{size:=3,bytes:=24,zero:=[.int .i64 0,.int .i64 0,.int .i64 0],agg:=true,tag:=5,fields:=[(0,3),(1,3),(2,3)]}),
 (228,{size:=2,bytes:=16,zero:=[.int .i64 0,.int .i64 0],agg:=true,tag:=5,fields:=[(0,3),(1,3)]}),
 (36,slT 4),
 (129,{size:=4,bytes:=80,zero:=[.int .i64 0,.slice none 0 0,.slice none 0 0,.slice none 0 0],agg:=true,tag:=5,fields:=[(0,3),(1,40),(2,87),(3,40)]}),
 (220,{size:=3,bytes:=40,zero:=[.int .i64 0,.int .i64 0,.slice none 0 0],agg:=true,tag:=5,fields:=[(0,3),(1,3),(2,37)]}),
 (293,{size:=1,bytes:=8,zero:=[.int .u64 0],agg:=false,tag:=1,ik:=.u64}),
 (68,slT 186),
 (69,slT 191),
 (184,{size:=4,bytes:=32,zero:=[.int .i64 0,.int .i64 0,.int .i64 0,.int .i64 0],agg:=true,tag:=6,Fm:=4,elem:=3}),
 (193,{size:=2,bytes:=16,zero:=[.int .i64 0,.int .i64 0],agg:=true,tag:=5,fields:=[(0,3),(1,3)]}),
 (186,{size:=5,bytes:=40,zero:=[.int .i64 0,.int .i64 0,.int .i64 0,.int .i64 0,.int .i64 0],agg:=true,tag:=5,fields:=[(0,184),(4,3)]}),
 (249,{size:=3,bytes:=72,zero:=[.slice none 0 0,.slice none 0 0,.slice none 0 0],agg:=true,tag:=5,fields:=[(0,209),(1,209),(2,206)]}),
 (281,{size:=2,bytes:=16,zero:=[.int .i64 0,.int .i64 0],agg:=true,tag:=5,fields:=[(0,3),(1,3)]}),
 (52,{size:=10,bytes:=176,zero:=[.bool false,.slice none 0 0,.bool false,.slice none 0 0,.bool false,.slice none 0 0,.bool false,.slice none 0 0,.slice none 0 0,.slice none 0 0],agg:=true,tag:=5,fields:=[(0,50),(8,37),(9,37)]}),
 (279,{size:=1,bytes:=8,zero:=[.map none],agg:=false,tag:=0}),
 (72,{size:=4,bytes:=80,zero:=[.slice none 0 0,.int .i64 0,.slice none 0 0,.slice none 0 0],agg:=true,tag:=5,fields:=[(0,68),(1,3),(2,69),(3,70)]}),
 (104,{size:=2,bytes:=48,zero:=[.slice none 0 0,.slice none 0 0],agg:=true,tag:=5,fields:=[(0,37),(1,102)]}),
 (108,{size:=3,bytes:=24,zero:=[.int .i64 0,.int .i64 0,.int .i64 0],agg:=true,tag:=5,fields:=[(0,3),(1,3),(2,3)]}),
 (9,{size:=1,bytes:=16,zero:=[.string ⟨#[]⟩],agg:=false,tag:=3}),
 (50,{size:=8,bytes:=128,zero:=[.bool false,.slice none 0 0,.bool false,.slice none 0 0,.bool false,.slice none 0 0,.bool false,.slice none 0 0],agg:=true,tag:=5,fields:=[(0,48),(4,48)]}),
 (149,{size:=1,bytes:=8,zero:=[.pointer none],agg:=false,tag:=7}),
 (308,{size:=1,bytes:=8,zero:=[.nilFunc],agg:=false,tag:=0}),
 (296,{size:=1,bytes:=8,zero:=[.nilFunc],agg:=false,tag:=0}),
 (152,{size:=80,bytes:=640,zero:=[.int .i64 0,.int .i64 0,.int .i64 0,.int .i64 0,.int .i64 0,.int .i64 0,.int .i64 0,.int .i64 0,.int .i64 0,.int .i64 0,.int .i64 0,.int .i64 0,.int .i64 0,.int .i64 0,.int .i64 0,.int .i64 0,.int .i64 0,.int .i64 0,.int .i64 0,.int .i64 0,.int .i64 0,.int .i64 0,.int .i64 0,.int .i64 0,.int .i64 0,.int .i64 0,.int .i64 0,.int .i64 0,.int .i64 0,.int .i64 0,.int .i64 0,.int .i64 0,.int .i64 0,.int .i64 0,.int .i64 0,.int .i64 0,.int .i64 0,.int .i64 0,.int .i64 0,.int .i64 0,.int .i64 0,.int .i64 0,.int .i64 0,.int .i64 0,.int .i64 0,.int .i64 0,.int .i64 0,.int .i64 0,.int .i64 0,.int .i64 0,.int .i64 0,.int .i64 0,.int .i64 0,.int .i64 0,.int .i64 0,.int .i64 0,.int .i64 0,.int .i64 0,.int .i64 0,.int .i64 0,.int .i64 0,.int .i64 0,.int .i64 0,.int .i64 0,.int .i64 0,.int .i64 0,.int .i64 0,.int .i64 0,.int .i64 0,.int .i64 0,.int .i64 0,.int .i64 0,.int .i64 0,.int .i64 0,.int .i64 0,.int .i64 0,.int .i64 0,.int .i64 0,.int .i64 0,.int .i64 0],agg:=true,tag:=6,Fm:=20,elem:=141}),
 (239,{size:=1,bytes:=8,zero:=[.nilFunc],agg:=false,tag:=0}),
 (242,{size:=1,bytes:=8,zero:=[.nilFunc],agg:=false,tag:=0}),
 (153,{size:=1,bytes:=8,zero:=[.pointer none],agg:=false,tag:=7}),
 (174,{size:=1,bytes:=8,zero:=[.nilFunc],agg:=false,tag:=0}),
 (213,{size:=1,bytes:=8,zero:=[.nilFunc],agg:=false,tag:=0}),
 (5,{size:=1,bytes:=1,zero:=[.int .u8 0],agg:=false,tag:=1,ik:=.u8}),
 (310,{size:=1,bytes:=8,zero:=[.nilFunc],agg:=false,tag:=0}),
 (315,{size:=1,bytes:=8,zero:=[.nilFunc],agg:=false,tag:=0}),
 (8,{size:=4,bytes:=24,zero:=[.int .i64 0,.int .i64 0,.bool false,.int .u8 0],agg:=true,tag:=5,fields:=[(0,2),(1,3),(2,4),(3,6)]}),
 (10,{size:=1,bytes:=16,zero:=[.string ⟨#[]⟩],agg:=false,tag:=3}),
 (11,{size:=1,bytes:=16,zero:=[.string ⟨#[]⟩],agg:=false,tag:=3}),
 (14,{size:=2,bytes:=24,zero:=[.string ⟨#[]⟩,.int .u64 0],agg:=true,tag:=5,fields:=[(0,9),(1,12)]}),
 (15,{size:=1,bytes:=8,zero:=[.pointer none],agg:=false,tag:=7}),
 (16,{size:=1,bytes:=8,zero:=[.pointer none],agg:=false,tag:=7}),
 (19,{size:=1,bytes:=8,zero:=[.pointer none],agg:=true,tag:=5,fields:=[(0,17)]}),
 (17,{size:=1,bytes:=8,zero:=[.pointer none],agg:=false,tag:=7}),
 (353,{size:=1,bytes:=1,zero:=[.int .u8 0],agg:=false,tag:=1,ik:=.u8}),
 (2,{size:=1,bytes:=8,zero:=[.int .i64 0],agg:=false,tag:=1,ik:=.i64}),
 (6,{size:=1,bytes:=1,zero:=[.int .u8 0],agg:=false,tag:=1,ik:=.u8}),
 (12,{size:=1,bytes:=8,zero:=[.int .u64 0],agg:=false,tag:=1,ik:=.u64})]
def τ:og:=As aD7
theorem hτ:gM PG τ:=aCf (l:=aD7) d9
theorem vC:PG.follows .mixedOrders=true:=by rfl
noncomputable def bd (f:Func):Code:=match f.body with
 |some c=>c
 |none=>.skip
theorem dS{f:FuncId}{fn:Func}(hf:PG.funcs[f]? =some fn)(hb:fn.body=some (bd fn))(Vx:(fn.name== "runtime.NumGoroutine")=false)
  (W:args.size<=fn.ntmps) (Oz:codeOk fn.ntmps (bd fn)=true) (h:oT PG τ w.heap.size (bd fn) (fc 0 args.toList) [] 0 [] w (aCj τ w.heap.size fn.results.toList Fn)):eH PG f args w Fn:=
 ⟨MP hf hb Vx,Hh hτ hf hb W Oz h⟩
abbrev T.int:Nat:=3
abbrev T.bool:Nat:=4
abbrev T.string:Nat:=9
abbrev T.Frame:Nat:=26
abbrev T.Lint:Nat:=37
abbrev T.gF:Nat:=40
abbrev T.Int:Nat:=46
abbrev T.Rat:Nat:=48
abbrev T.Es:Nat:=87
abbrev T.Cb:Nat:=97
abbrev T.aDt:Nat:=141
abbrev T.Bar:Nat:=144
abbrev T.BI:Nat:=146
abbrev T.nat:Nat:=155
abbrev T.number:Nat:=157
abbrev T.eJ:Nat:=159
abbrev T.eL:Nat:=168
abbrev T.Node:Nat:=195
abbrev T.row:Nat:=209
abbrev T.solved:Nat:=249
abbrev T.dm:Nat:=255
abbrev T.aAV:Nat:=267
abbrev T.AR:Nat:=279
abbrev T.GW:Nat:=281
abbrev T.uint32:Nat:=292
abbrev GT.ke:Nat:=7
abbrev GT.rz:Nat:=14
abbrev GT.sA:Nat:=16
abbrev GT.yf:Nat:=17
abbrev GT.sB:Nat:=19
abbrev GT.zf:Nat:=21
abbrev GT.sC:Nat:=27
abbrev GT.zg:Nat:=30
abbrev GT.sD:Nat:=35
abbrev GT.vD:Nat:=36
abbrev GT.sE:Nat:=37
abbrev GT.zh:Nat:=38
abbrev GT.nm:Nat:=39
abbrev GT.sF:Nat:=40
abbrev GT.np:Nat:=41
abbrev GT.qq:Nat:=42
abbrev GT.qt:Nat:=43
abbrev GT.sG:Nat:=44
abbrev GT.zj:Nat:=45
abbrev GT.zl:Nat:=49
abbrev GT.zm:Nat:=51
abbrev GT.yg:Nat:=58
abbrev GT.Cc:Nat:=59
abbrev GT.kf:Nat:=61
abbrev GT.pA:Nat:=62
abbrev GT.zn:Nat:=63
abbrev GT.Et:Nat:=64
abbrev GT.Eu:Nat:=65
abbrev GT.Ev:Nat:=66
abbrev GT.Ew:Nat:=67
abbrev GT.Cd:Nat:=69
abbrev GT.uC:Nat:=71
abbrev GT.sH:Nat:=72
abbrev GT.sI:Nat:=73
abbrev GT.yh:Nat:=74
abbrev GT.sJ:Nat:=75
abbrev GT.nC:Nat:=76
abbrev GT.nD:Nat:=77
abbrev GT.zo:Nat:=78
abbrev GT.nE:Nat:=79
abbrev GT.uD:Nat:=80
abbrev GT.uE:Nat:=81
abbrev GT.uF:Nat:=82
abbrev GT.zp:Nat:=83
abbrev GT.wz:Nat:=84
abbrev GT.qu:Nat:=85
abbrev GT.jt:Nat:=86
abbrev GT.sK:Nat:=87
abbrev GT.jx:Nat:=88
abbrev GT.iI:Nat:=89
abbrev GT.zq:Nat:=90
abbrev GT.xA:Nat:=91
abbrev GT.zt:Nat:=92
abbrev GT.vE:Nat:=95
abbrev GT.xB:Nat:=96
abbrev GT.uG:Nat:=104
abbrev GT.xC:Nat:=108
abbrev GT.xD:Nat:=112
abbrev GT.Ey:Nat:=113
abbrev GT.vF:Nat:=114
abbrev GT.I2:Nat:=115
abbrev GT.Ce:Nat:=116
abbrev GT.zu:Nat:=117
abbrev GT.mE:Nat:=118
abbrev GT.ns:Nat:=119
abbrev GT.nt:Nat:=120
abbrev GT.nu:Nat:=121
abbrev GT.xE:Nat:=122
abbrev GT.fG:Nat:=123
abbrev GT.xF:Nat:=124
abbrev GT.ic:Nat:=125
abbrev GT.mF:Nat:=126
abbrev GT.pB:Nat:=127
abbrev GT.zw:Nat:=128
abbrev GT.Cg:Nat:=129
abbrev GT.xG:Nat:=130
abbrev GT.vG:Nat:=131
abbrev GT.zx:Nat:=139
abbrev GT.lh:Nat:=152
abbrev GT.Ch:Nat:=157
abbrev GT.gJ:Nat:=158
abbrev GT.xH:Nat:=159
abbrev GT.sL:Nat:=160
abbrev GT.zy:Nat:=161
abbrev GT.xI:Nat:=162
abbrev GT.Ez:Nat:=163
abbrev GT.zz:Nat:=164
abbrev GT.AA:Nat:=165
abbrev GT.xJ:Nat:=166
abbrev GT.Ci:Nat:=167
abbrev GT.oZ:Nat:=168
abbrev GT.AB:Nat:=169
abbrev GT.mG:Nat:=170
abbrev GT.oA:Nat:=171
abbrev GT.Cj:Nat:=172
abbrev GT.oB:Nat:=173
abbrev GT.nF:Nat:=174
abbrev GT.pC:Nat:=175
abbrev GT.lj:Nat:=176
abbrev GT.uH:Nat:=177
abbrev GT.sM:Nat:=178
abbrev GT.uI:Nat:=179
abbrev GT.yi:Nat:=180
abbrev GT.uJ:Nat:=181
abbrev GT.uK:Nat:=182
abbrev GT.pD:Nat:=184
abbrev GT.gD:Nat:=187
abbrev GT.AD:Nat:=188
abbrev GT.FA:Nat:=190
abbrev GT.AE:Nat:=191
abbrev GT.xK:Nat:=192
abbrev GT.qK:Nat:=193
abbrev GT.lT:Nat:=194
abbrev GT.nG:Nat:=195
abbrev GT.xL:Nat:=196
abbrev GT.pF:Nat:=197
abbrev GT.oC:Nat:=198
abbrev GT.oD:Nat:=199
abbrev GT.fN:Nat:=200
abbrev GT.nH:Nat:=201
abbrev GT.oE:Nat:=202
abbrev GT.uL:Nat:=203
abbrev GT.xM:Nat:=204
abbrev GT.fP:Nat:=205
abbrev GT.fe:Nat:=206
abbrev GT.FB:Nat:=207
abbrev GT.o0:Nat:=208
abbrev GT.oG:Nat:=209
abbrev GT.lk:Nat:=210
abbrev GT.yj:Nat:=211
abbrev GT.FC:Nat:=212
abbrev GT.qL:Nat:=232
abbrev GT.FD:Nat:=233
abbrev GT.o6:Nat:=234
abbrev GT.yl:Nat:=235
abbrev GT.oH:Nat:=236
abbrev GT.qv:Nat:=237
abbrev GT.xN:Nat:=238
abbrev GT.gS:Nat:=239
abbrev GT.I4:Nat:=240
abbrev GT.Ck:Nat:=241
abbrev GT.xO:Nat:=242
abbrev GT.Cl:Nat:=243
abbrev GT.uM:Nat:=244
abbrev GT.xP:Nat:=245
abbrev GT.xQ:Nat:=246
abbrev GT.uN:Nat:=247
abbrev GT.qw:Nat:=248
abbrev GT.mH:Nat:=249
abbrev GT.oI:Nat:=250
abbrev GT.qz:Nat:=251
abbrev GT.sN:Nat:=252
abbrev GT.gX:Nat:=253
abbrev GT.sO:Nat:=260
abbrev GT.rA:Nat:=261
abbrev GT.Cm:Nat:=262
abbrev GT.sP:Nat:=263
abbrev GT.Cn:Nat:=266
abbrev GT.Co:Nat:=267
abbrev Ent(g:Nat)(f:Func):Prop:=∀{args:Array Value} {w:World} {Fn:Ending->World->Prop},args.size<=f.ntmps->oT PG τ w.heap.size (bd f) (fc 0 args.toList) [] 0 [] w (aCj τ w.heap.size f.results.toList Fn)->eH PG g args w Fn
theorem nX:Ent GT.ke Tryz.f7:=fun W h=>dS Tryz.func7 cs cs W cs h
theorem xR:Ent GT.rz Tryz.f14:=fun W h=>dS Tryz.func14 cs cs W cs h
theorem xS:Ent GT.sA Tryz.f16:=fun W h=>dS Tryz.func16 cs cs W cs h
theorem GX:Ent GT.yf Tryz.f17:=fun W h=>dS Tryz.func17 cs cs W cs h
theorem Cp:Ent GT.sB Tryz.f19:=fun W h=>dS Tryz.func19 cs cs W cs h
theorem Cq:Ent GT.zf Tryz.f21:=fun W h=>dS Tryz.func21 cs cs W cs h
theorem xT:Ent GT.sC Tryz.f27:=fun W h=>dS Tryz.func27 cs cs W cs h
theorem Cr:Ent GT.zg Tryz.f30:=fun W h=>dS Tryz.func30 cs cs W cs h
theorem xU:Ent GT.sD Tryz.f35:=fun W h=>dS Tryz.func35 cs cs W cs h
theorem Dn:Ent GT.vD Tryz.f36:=fun W h=>dS Tryz.func36 cs cs W cs h
theorem sQ:Ent GT.sE Tryz.f37:=fun W h=>dS Tryz.func37 cs cs W cs h
theorem Cs:Ent GT.zh Tryz.f38:=fun W h=>dS Tryz.func38 cs cs W cs h
theorem sR:Ent GT.nm Tryz.f39:=fun W h=>dS Tryz.func39 cs cs W cs h
theorem xV:Ent GT.sF Tryz.f40:=fun W h=>dS Tryz.func40 cs cs W cs h
theorem Ct:Ent GT.np Tryz.f41:=fun W h=>dS Tryz.func41 cs cs W cs h
theorem vH:Ent GT.qq Tryz.f42:=fun W h=>dS Tryz.func42 cs cs W cs h
theorem vI:Ent GT.qt Tryz.f43:=fun W h=>dS Tryz.func43 cs cs W cs h
theorem xW:Ent GT.sG Tryz.f44:=fun W h=>dS Tryz.func44 cs cs W cs h
theorem Cu:Ent GT.zj Tryz.f45:=fun W h=>dS Tryz.func45 cs cs W cs h
theorem Cw:Ent GT.zl Tryz.f49:=fun W h=>dS Tryz.func49 cs cs W cs h
theorem Cx:Ent GT.zm Tryz.f51:=fun W h=>dS Tryz.func51 cs cs W cs h
theorem GY:Ent GT.yg Tryz.f58:=fun W h=>dS Tryz.func58 cs cs W cs h
theorem Dp:Ent GT.Cc Tryz.f59:=fun W h=>dS Tryz.func59 cs cs W cs h
theorem AS:Ent GT.kf Tryz.f61:=fun W h=>dS Tryz.func61 cs cs W cs h
theorem tm:Ent GT.pA Tryz.f62:=fun W h=>dS Tryz.func62 cs cs W cs h
theorem Cy:Ent GT.zn Tryz.f63:=fun W h=>dS Tryz.func63 cs cs W cs h
theorem GZ:Ent GT.Et Tryz.f64:=fun W h=>dS Tryz.func64 cs cs W cs h
theorem G0:Ent GT.Eu Tryz.f65:=fun W h=>dS Tryz.func65 cs cs W cs h
theorem G2:Ent GT.Ev Tryz.f66:=fun W h=>dS Tryz.func66 cs cs W cs h
theorem G3:Ent GT.Ew Tryz.f67:=fun W h=>dS Tryz.func67 cs cs W cs h
theorem Dq:Ent GT.Cd Tryz.f69:=fun W h=>dS Tryz.func69 cs cs W cs h
theorem ym:Ent GT.uC Tryz.f71:=fun W h=>dS Tryz.func71 cs cs W cs h
theorem xX:Ent GT.sH Tryz.f72:=fun W h=>dS Tryz.func72 cs cs W cs h
theorem xY:Ent GT.sI Tryz.f73:=fun W h=>dS Tryz.func73 cs cs W cs h
theorem G4:Ent GT.yh Tryz.f74:=fun W h=>dS Tryz.func74 cs cs W cs h
theorem xZ:Ent GT.sJ Tryz.f75:=fun W h=>dS Tryz.func75 cs cs W cs h
theorem rE:Ent GT.nC Tryz.f76:=fun W h=>dS Tryz.func76 cs cs W cs h
theorem rF:Ent GT.nD Tryz.f77:=fun W h=>dS Tryz.func77 cs cs W cs h
theorem Cz:Ent GT.zo Tryz.f78:=fun W h=>dS Tryz.func78 cs cs W cs h
theorem rG:Ent GT.nE Tryz.f79:=fun W h=>dS Tryz.func79 cs cs W cs h
theorem yn:Ent GT.uD Tryz.f80:=fun W h=>dS Tryz.func80 cs cs W cs h
theorem yo:Ent GT.uE Tryz.f81:=fun W h=>dS Tryz.func81 cs cs W cs h
theorem yp:Ent GT.uF Tryz.f82:=fun W h=>dS Tryz.func82 cs cs W cs h
theorem DA:Ent GT.zp Tryz.f83:=fun W h=>dS Tryz.func83 cs cs W cs h
theorem AT:Ent GT.wz Tryz.f84:=fun W h=>dS Tryz.func84 cs cs W cs h
theorem vJ:Ent GT.qu Tryz.f85:=fun W h=>dS Tryz.func85 cs cs W cs h
theorem qM:Ent GT.jt Tryz.f86:=fun W h=>dS Tryz.func86 cs cs W cs h
theorem x8:Ent GT.sK Tryz.f87:=fun W h=>dS Tryz.func87 cs cs W cs h
theorem mZ:Ent GT.jx Tryz.f88:=fun W h=>dS Tryz.func88 cs cs W cs h
theorem kP:Ent GT.iI Tryz.f89:=fun W h=>dS Tryz.func89 cs cs W cs h
theorem DB:Ent GT.zq Tryz.f90:=fun W h=>dS Tryz.func90 cs cs W cs h
theorem AU:Ent GT.xA Tryz.f91:=fun W h=>dS Tryz.func91 cs cs W cs h
theorem DC:Ent GT.zt Tryz.f92:=fun W h=>dS Tryz.func92 cs cs W cs h
theorem Dr:Ent GT.vE Tryz.f95:=fun W h=>dS Tryz.func95 cs cs W cs h
theorem AV:Ent GT.xB Tryz.f96:=fun W h=>dS Tryz.func96 cs cs W cs h
theorem yq:Ent GT.uG Tryz.f104:=fun W h=>dS Tryz.func104 cs cs W cs h
theorem AW:Ent GT.xC Tryz.f108:=fun W h=>dS Tryz.func108 cs cs W cs h
theorem AX:Ent GT.xD Tryz.f112:=fun W h=>dS Tryz.func112 cs cs W cs h
theorem G5:Ent GT.Ey Tryz.f113:=fun W h=>dS Tryz.func113 cs cs W cs h
theorem uO:Ent GT.vF Tryz.f114:=fun W h=>dS Tryz.func114 cs cs W cs h
theorem I5:Ent GT.I2 Tryz.f115:=fun W h=>dS Tryz.func115 cs cs W cs h
theorem Ds:Ent GT.Ce Tryz.f116:=fun W h=>dS Tryz.func116 cs cs W cs h
theorem DD:Ent GT.zu Tryz.f117:=fun W h=>dS Tryz.func117 cs cs W cs h
theorem qN:Ent GT.mE Tryz.f118:=fun W h=>dS Tryz.func118 cs cs W cs h
theorem sS:Ent GT.ns Tryz.f119:=fun W h=>dS Tryz.func119 cs cs W cs h
theorem sT:Ent GT.nt Tryz.f120:=fun W h=>dS Tryz.func120 cs cs W cs h
theorem sU:Ent GT.nu Tryz.f121:=fun W h=>dS Tryz.func121 cs cs W cs h
theorem AY:Ent GT.xE Tryz.f122:=fun W h=>dS Tryz.func122 cs cs W cs h
theorem gT:Ent GT.fG Tryz.f123:=fun W h=>dS Tryz.func123 cs cs W cs h
theorem AZ:Ent GT.xF Tryz.f124:=fun W h=>dS Tryz.func124 cs cs W cs h
theorem tn:Ent GT.ic Tryz.f125:=fun W h=>dS Tryz.func125 cs cs W cs h
theorem qO:Ent GT.mF Tryz.f126:=fun W h=>dS Tryz.func126 cs cs W cs h
theorem tp:Ent GT.pB Tryz.f127:=fun W h=>dS Tryz.func127 cs cs W cs h
theorem DE:Ent GT.zw Tryz.f128:=fun W h=>dS Tryz.func128 cs cs W cs h
theorem Dt:Ent GT.Cg Tryz.f129:=fun W h=>dS Tryz.func129 cs cs W cs h
theorem Aa:Ent GT.xG Tryz.f130:=fun W h=>dS Tryz.func130 cs cs W cs h
theorem Du:Ent GT.vG Tryz.f131:=fun W h=>dS Tryz.func131 cs cs W cs h
theorem DF:Ent GT.zx Tryz.f139:=fun W h=>dS Tryz.func139 cs cs W cs h
theorem pG:Ent GT.lh Tryz.f152:=fun W h=>dS Tryz.func152 cs cs W cs h
theorem Dv:Ent GT.Ch Tryz.f157:=fun W h=>dS Tryz.func157 cs cs W cs h
theorem kQ:Ent GT.gJ Tryz.f158:=fun W h=>dS Tryz.func158 cs cs W cs h
theorem Ab:Ent GT.xH Tryz.f159:=fun W h=>dS Tryz.func159 cs cs W cs h
theorem x9:Ent GT.sL Tryz.f160:=fun W h=>dS Tryz.func160 cs cs W cs h
theorem DG:Ent GT.zy Tryz.f161:=fun W h=>dS Tryz.func161 cs cs W cs h
theorem Ac:Ent GT.xI Tryz.f162:=fun W h=>dS Tryz.func162 cs cs W cs h
theorem G6:Ent GT.Ez Tryz.f163:=fun W h=>dS Tryz.func163 cs cs W cs h
theorem DH:Ent GT.zz Tryz.f164:=fun W h=>dS Tryz.func164 cs cs W cs h
theorem DI:Ent GT.AA Tryz.f165:=fun W h=>dS Tryz.func165 cs cs W cs h
theorem Ad:Ent GT.xJ Tryz.f166:=fun W h=>dS Tryz.func166 cs cs W cs h
theorem Dw:Ent GT.Ci Tryz.f167:=fun W h=>dS Tryz.func167 cs cs W cs h
theorem yr:Ent GT.oZ Tryz.f168:=fun W h=>dS Tryz.func168 cs cs W cs h
theorem DJ:Ent GT.AB Tryz.f169:=fun W h=>dS Tryz.func169 cs cs W cs h
theorem qP:Ent GT.mG Tryz.f170:=fun W h=>dS Tryz.func170 cs cs W cs h
theorem sW:Ent GT.oA Tryz.f171:=fun W h=>dS Tryz.func171 cs cs W cs h
theorem I6:Ent GT.Cj Tryz.f172:=fun W h=>dS Tryz.func172 cs cs W cs h
theorem sX:Ent GT.oB Tryz.f173:=fun W h=>dS Tryz.func173 cs cs W cs h
theorem rH:Ent GT.nF Tryz.f174:=fun W h=>dS Tryz.func174 cs cs W cs h
theorem tq:Ent GT.pC Tryz.f175:=fun W h=>dS Tryz.func175 cs cs W cs h
theorem pH:Ent GT.lj Tryz.f176:=fun W h=>dS Tryz.func176 cs cs W cs h
theorem yt:Ent GT.uH Tryz.f177:=fun W h=>dS Tryz.func177 cs cs W cs h
theorem xa:Ent GT.sM Tryz.f178:=fun W h=>dS Tryz.func178 cs cs W cs h
theorem yu:Ent GT.uI Tryz.f179:=fun W h=>dS Tryz.func179 cs cs W cs h
theorem G7:Ent GT.yi Tryz.f180:=fun W h=>dS Tryz.func180 cs cs W cs h
theorem yv:Ent GT.uJ Tryz.f181:=fun W h=>dS Tryz.func181 cs cs W cs h
theorem yw:Ent GT.uK Tryz.f182:=fun W h=>dS Tryz.func182 cs cs W cs h
theorem tt:Ent GT.pD Tryz.f184:=fun W h=>dS Tryz.func184 cs cs W cs h
theorem jG:Ent GT.gD Tryz.f187:=fun W h=>dS Tryz.func187 cs cs W cs h
theorem DK:Ent GT.AD Tryz.f188:=fun W h=>dS Tryz.func188 cs cs W cs h
theorem G8:Ent GT.FA Tryz.f190:=fun W h=>dS Tryz.func190 cs cs W cs h
theorem DL:Ent GT.AE Tryz.f191:=fun W h=>dS Tryz.func191 cs cs W cs h
theorem Ae:Ent GT.xK Tryz.f192:=fun W h=>dS Tryz.func192 cs cs W cs h
theorem Af:Ent GT.qK Tryz.f193:=fun W h=>dS Tryz.func193 cs cs W cs h
theorem yx:Ent GT.lT Tryz.f194:=fun W h=>dS Tryz.func194 cs cs W cs h
theorem rI:Ent GT.nG Tryz.f195:=fun W h=>dS Tryz.func195 cs cs W cs h
theorem Ag:Ent GT.xL Tryz.f196:=fun W h=>dS Tryz.func196 cs cs W cs h
theorem tu:Ent GT.pF Tryz.f197:=fun W h=>dS Tryz.func197 cs cs W cs h
theorem sY:Ent GT.oC Tryz.f198:=fun W h=>dS Tryz.func198 cs cs W cs h
theorem sZ:Ent GT.oD Tryz.f199:=fun W h=>dS Tryz.func199 cs cs W cs h
theorem qQ:Ent GT.fN Tryz.f200:=fun W h=>dS Tryz.func200 cs cs W cs h
theorem rJ:Ent GT.nH Tryz.f201:=fun W h=>dS Tryz.func201 cs cs W cs h
theorem s3:Ent GT.oE Tryz.f202:=fun W h=>dS Tryz.func202 cs cs W cs h
theorem yz:Ent GT.uL Tryz.f203:=fun W h=>dS Tryz.func203 cs cs W cs h
theorem Ah:Ent GT.xM Tryz.f204:=fun W h=>dS Tryz.func204 cs cs W cs h
theorem gq:Ent GT.fP Tryz.f205:=fun W h=>dS Tryz.func205 cs cs W cs h
theorem iQ:Ent GT.fe Tryz.f206:=fun W h=>dS Tryz.func206 cs cs W cs h
theorem G9:Ent GT.FB Tryz.f207:=fun W h=>dS Tryz.func207 cs cs W cs h
theorem zA:Ent GT.o0 Tryz.f208:=fun W h=>dS Tryz.func208 cs cs W cs h
theorem s4:Ent GT.oG Tryz.f209:=fun W h=>dS Tryz.func209 cs cs W cs h
theorem pI:Ent GT.lk Tryz.f210:=fun W h=>dS Tryz.func210 cs cs W cs h
theorem Ga:Ent GT.yj Tryz.f211:=fun W h=>dS Tryz.func211 cs cs W cs h
theorem xb:Ent GT.FC Tryz.f212:=fun W h=>dS Tryz.func212 cs cs W cs h
theorem Ai:Ent GT.qL Tryz.f232:=fun W h=>dS Tryz.func232 cs cs W cs h
theorem Gb:Ent GT.FD Tryz.f233:=fun W h=>dS Tryz.func233 cs cs W cs h
theorem zB:Ent GT.o6 Tryz.f234:=fun W h=>dS Tryz.func234 cs cs W cs h
theorem Gc:Ent GT.yl Tryz.f235:=fun W h=>dS Tryz.func235 cs cs W cs h
theorem s5:Ent GT.oH Tryz.f236:=fun W h=>dS Tryz.func236 cs cs W cs h
theorem vK:Ent GT.qv Tryz.f237:=fun W h=>dS Tryz.func237 cs cs W cs h
theorem Aj:Ent GT.xN Tryz.f238:=fun W h=>dS Tryz.func238 cs cs W cs h
theorem j0:Ent GT.gS Tryz.f239:=fun W h=>dS Tryz.func239 cs cs W cs h
theorem I7:Ent GT.I4 Tryz.f240:=fun W h=>dS Tryz.func240 cs cs W cs h
theorem Dx:Ent GT.Ck Tryz.f241:=fun W h=>dS Tryz.func241 cs cs W cs h
theorem Ak:Ent GT.xO Tryz.f242:=fun W h=>dS Tryz.func242 cs cs W cs h
theorem Dy:Ent GT.Cl Tryz.f243:=fun W h=>dS Tryz.func243 cs cs W cs h
theorem zC:Ent GT.uM Tryz.f244:=fun W h=>dS Tryz.func244 cs cs W cs h
theorem Al:Ent GT.xP Tryz.f245:=fun W h=>dS Tryz.func245 cs cs W cs h
theorem Am:Ent GT.xQ Tryz.f246:=fun W h=>dS Tryz.func246 cs cs W cs h
theorem zD:Ent GT.uN Tryz.f247:=fun W h=>dS Tryz.func247 cs cs W cs h
theorem vL:Ent GT.qw Tryz.f248:=fun W h=>dS Tryz.func248 cs cs W cs h
theorem qR:Ent GT.mH Tryz.f249:=fun W h=>dS Tryz.func249 cs cs W cs h
theorem s6:Ent GT.oI Tryz.f250:=fun W h=>dS Tryz.func250 cs cs W cs h
theorem vM:Ent GT.qz Tryz.f251:=fun W h=>dS Tryz.func251 cs cs W cs h
theorem xc:Ent GT.sN Tryz.f252:=fun W h=>dS Tryz.func252 cs cs W cs h
theorem ja:Ent GT.gX Tryz.f253:=fun W h=>dS Tryz.func253 cs cs W cs h
theorem xd:Ent GT.sO Tryz.f260:=fun W h=>dS Tryz.func260 cs cs W cs h
theorem vN:Ent GT.rA Tryz.f261:=fun W h=>dS Tryz.func261 cs cs W cs h
theorem Dz:Ent GT.Cm Tryz.f262:=fun W h=>dS Tryz.func262 cs cs W cs h
theorem xe:Ent GT.sP Tryz.f263:=fun W h=>dS Tryz.func263 cs cs W cs h
theorem EA:Ent GT.Cn Tryz.f266:=fun W h=>dS Tryz.func266 cs cs W cs h
theorem EB:Ent GT.Co Tryz.f267:=fun W h=>dS Tryz.func267 cs cs W cs h
theorem dP{l:Env}{B:Nat}{GE:KT}(π:List It)(h:ML PG τ B ops.toList π l H nx iv w GE)(hs:Region.noSelect ops=true:=by kernel_rfl)(hc:HY ops ops.size π 0 []=true:=by kernel_rfl):yM PG B ops l H nx iv w GE:=H4 hτ vC π hs hc h
theorem kg{w1 J:World}(F:Old S w)(V:Bq w w1)(r:Rel H nx iv w.heap.size w1 O J){ad:Addr}{j:Nat}{x:Value}(hs:S ad.block)(h:w.cell? (ad.add j)=some x):J.cell? (ad.add j)=some x:=by
 rw[(V.tr r.cZ).cell (by rw[dO];exact F _ hs)];exact h
theorem I8(a:Option Addr)(c:Nat):(if (c:Int)=0 then a else a.map fun x=>x.add (Int.toNat 0*1))=a:=by
 split
 .rfl
 .cases a<;>rfl
theorem An(h:ls[k]? =some 0):eM (ls.take (k+1))=eM (ls.take k):=by
 rw[bB,h];exact mB _
theorem EC{x:Nat}(h:ls[k]? =some x)(U:x≠0):eM (ls.take (k+1))=ls.take (k+1):=by
 rw[bB,h];exact pj _ U
theorem gC(F:Old S w)(h:dc w S v ls):eH PG GT.oC #[v] w (eR w fun v' Y=>dc Y S v' (eM ls)):=by
 obtain⟨a,c,rfl,Ty,hc⟩:=h.sl;have hle:=h.le;have QO:=h.lm;refine sY bv ?_
 refine⟨Nat×World,fun x=>⟨[(0,sV a x.1 c)],[],0,[],x.2⟩,fun x=>x.1,
  fun x=>x.1<=ls.length/\Bq w x.2/\eM ls=eM (ls.take x.1),?_,?_⟩
 .intro O J r;exact⟨(ls.length,J),⟨lr,r.cZ,bv⟩,Sub.reset r ⟨rfl,trivial⟩ ⟨trivial,trivial⟩⟩
 .rintro⟨k,w1⟩ ⟨K,V,hF⟩;dsimp only at K V hF ⊢;have YU:Bq w w1->eM ls=ls.take k->∀O Y,Rel [] 0 [] w.heap.size w1 O Y->dc Y S (.slice a k c) (eM ls):=fun V L O Y r=>by
   rw[L];refine⟨QO.take k,by simp;omega,a,c,by simp;omega,by simp;omega,fun j x U=>?_⟩;have TF:j<k:=by
    have:=(aE.1 U).1;simp at this;omega
   rw[bo TF]at U;obtain⟨ad,I,G,h3⟩:=hc j x U;exact⟨ad,I,G,kg F V r G h3⟩
  apply bS<;>intro h
  .have h:0<k:=by simpa using h
   obtain⟨k,rfl⟩:∃q,k=q+1:=⟨k-1,be⟩
   obtain⟨x,U⟩:=gO ls k;obtain⟨ad,ha,hs,Sq⟩:=hc k x U;refine⟨(k:Int),wo,ad,ha,be,.int .u32 x,fun O J r=>by rw[aF,aZ];exact kg F V r hs Sq,?_⟩;apply bS<;>intro G
   .have G:x=0:=by have:=eq_of_beq G;omega
    subst G;refine⟨(k:Int),wo,⟨be,be,be⟩,a,k,c,I8 a c,bv,bv,?_⟩;intro O Y r;exact⟨(k,Y),⟨by dsimp only;omega,V.tr r.cZ,hF.trans (An U)⟩,Sub.reset r ⟨rfl,trivial⟩ ⟨trivial,trivial⟩,by dsimp only;omega⟩
   .have G:x≠0:=by intro e;subst e;simp at G
    intro O Y r;exact⟨_,rfl,V.tr r.cZ,YU V (by rw[hF,EC U G]) O Y r⟩
  .have h:k=0:=by
    have:¬0<k:=by simpa using h
    omega
   subst h;intro O Y r;exact⟨_,rfl,V.tr r.cZ,YU V (by rw[hF];simp[eM]) O Y r⟩
theorem fK{n:Nat}(h:n<18446744073709551616):IntKind.u64.wrap (n:Int)=(n:Int):=Av be be
theorem fm(n:Nat):IntKind.u32.wrap (n:Int)=((n % 4294967296:Nat):Int):=by
 show((n:Int) % 4294967296)=_;omega
theorem ofInt32(x:Nat):BitVec.ofInt 32 (x:Int)=BitVec.ofNat 32 x:=by
 apply BitVec.eq_of_toNat_eq;simp
theorem so{y:Nat}(x:Nat)(hy:y<4294967296):x &&& y<4294967296:=Nat.lt_of_le_of_lt Nat.and_le_right hy
theorem ss{x y:Nat}(U:x<4294967296)(hy:y<4294967296):x ^^^ y<4294967296:=Nat.xor_lt_two_pow (n:=32) U hy
theorem HD{x y:Nat}(U:x<4294967296)(hy:y<4294967296):x ||| y<4294967296:=Nat.or_lt_two_pow (n:=32) U hy
theorem aC8{x y:Nat}(U:x<4294967296)(hy:y<4294967296):IntKind.u32.wrap ((BitVec.ofInt IntKind.u32.bits x &&& BitVec.ofInt IntKind.u32.bits y).toNat:Int)=((x &&& y:Nat):Int):=by
 show IntKind.u32.wrap ((BitVec.ofInt 32 x &&& BitVec.ofInt 32 y).toNat:Int)=_;rw[ofInt32,ofInt32,BitVec.toNat_and,BitVec.toNat_ofNat,BitVec.toNat_ofNat,b9 U,b9 hy,fm,b9 (so x hy)]
theorem aDh{x y:Nat}(U:x<4294967296)(hy:y<4294967296):IntKind.u32.wrap ((BitVec.ofInt IntKind.u32.bits x ||| BitVec.ofInt IntKind.u32.bits y).toNat:Int)=((x ||| y:Nat):Int):=by
 show IntKind.u32.wrap ((BitVec.ofInt 32 x ||| BitVec.ofInt 32 y).toNat:Int)=_;rw[ofInt32,ofInt32,BitVec.toNat_or,BitVec.toNat_ofNat,BitVec.toNat_ofNat,b9 U,b9 hy,fm,b9 (HD U hy)]
theorem aC9{x y:Nat}(U:x<4294967296)(hy:y<4294967296):IntKind.u32.wrap ((BitVec.ofInt IntKind.u32.bits x ^^^ BitVec.ofInt IntKind.u32.bits y).toNat:Int)=((x ^^^ y:Nat):Int):=by
 show IntKind.u32.wrap ((BitVec.ofInt 32 x ^^^ BitVec.ofInt 32 y).toNat:Int)=_;rw[ofInt32,ofInt32,BitVec.toNat_xor,BitVec.toNat_ofNat,BitVec.toNat_ofNat,b9 U,b9 hy,fm,b9 (ss U hy)]
theorem aCa{x:Nat}(U:x<4294967296):IntKind.u32.wrap ((BitVec.ofInt IntKind.u32.bits (if IntKind.u32.signed=true then -1 else IntKind.u32.max) ^^^ BitVec.ofInt IntKind.u32.bits x).toNat:Int)=((4294967295 ^^^ x:Nat):Int):=
 aC9 (x:=4294967295) bi U
theorem nO{x:Nat}(k:Nat)(K:k<=63):(x:Int).fdiv (2^min (Int.toNat (k:Int)) IntKind.u64.bits)=((x / 2^k:Nat):Int):=by
 have I:min (Int.toNat (k:Int)) IntKind.u64.bits=k:=by show min (Int.toNat (k:Int)) 64=k;omega
 rw[I,Int.fdiv_eq_ediv_of_nonneg _ (by exact Int.le_of_lt (Int.pow_pos bi))];simp
theorem qT{x:Nat}(k:Nat)(K:k<=31):(x:Int).fdiv (2^min (Int.toNat (k:Int)) IntKind.u32.bits)=((x / 2^k:Nat):Int):=by
 have I:min (Int.toNat (k:Int)) IntKind.u32.bits=k:=by show min (Int.toNat (k:Int)) 32=k;omega
 rw[I,Int.fdiv_eq_ediv_of_nonneg _ (by exact Int.le_of_lt (Int.pow_pos bi))];simp
theorem aCI{z:Nat}(h:z<4294967296):z.testBit 31=decide (2147483648<=z):=by
 rw[Nat.testBit_eq_decide_div_mod_eq];apply decide_eq_decide.2;show z / 2147483648 % 2=1↔_;omega
theorem borrow{x y c d:Nat}(U:x<4294967296)(hy:y<4294967296)(hc:c<=1)(hd:(x+4294967296-(y+c)) % 4294967296=d):
  (((4294967295 ^^^ x) &&& y) ||| ((4294967295 ^^^ (x ^^^ y)) &&& d)) / 2^31=if x<y+c then 1 else 0:=by
 have Pc:d<4294967296:=by omega
 have hz:=HD (so (4294967295 ^^^ x) hy) (so (4294967295 ^^^ (x ^^^ y)) Pc);have ht:=aCI hz;have hm:Nat.testBit 4294967295 31=true:=by decide
 rw[Nat.testBit_or,Nat.testBit_and,Nat.testBit_and,Nat.testBit_xor,Nat.testBit_xor,Nat.testBit_xor,hm,aCI U,aCI hy,aCI Pc]at ht;generalize (((4294967295 ^^^ x) &&& y) ||| ((4294967295 ^^^ (x ^^^ y)) &&& d))=z at hz ht;show z / 2147483648=_;by_cases I:2147483648<=x<;>by_cases G:2147483648<=y<;>by_cases h3:2147483648<=d<;>simp[I,G,h3]at ht<;>split<;>omega
theorem MH(x y c:Nat)(w:World)(U:x<4294967296)(hy:y<4294967296)(hc:c<4294967296):
  eH PG GT.Cn #[.int .u32 x,.int .u32 y,.int .u32 c] w (eR w fun v _=>v= .tuple #[.int .u32 ((x+y+c) % 4294967296:Nat),.int .u32 ((x+y+c) / 4294967296:Nat)]):=by
 refine EA bv ?_;refine⟨(x:Int),fK be,(y:Int),fK be,((x+y:Nat):Int),by rw[Av]<;>omega,(c:Int),fK be,((x+y+c:Nat):Int),by rw[Av]<;>omega,(((x+y+c) % 4294967296:Nat):Int),fm _,bi,(((x+y+c) / 4294967296:Nat):Int),?_,?_⟩
 .exact nO 32 bi
 refine⟨(((x+y+c) / 4294967296:Nat):Int),by rw[fm];omega,?_⟩;intro O w3 r;exact⟨_,rfl,r.cZ,rfl⟩
theorem MI(x y c:Nat)(w:World)(U:x<4294967296)(hy:y<4294967296)(hc:c<=1):
  eH PG GT.Co #[.int .u32 x,.int .u32 y,.int .u32 c] w (eR w fun v _=>v= .tuple #[.int .u32 ((x+4294967296-(y+c)) % 4294967296:Nat),.int .u32 ((if x<y+c then 1 else 0:Nat):Int)]):=by
 refine EB bv ?_;refine⟨((x+4294967296-y) % 4294967296:Nat),?_,?_⟩
 .show((x:Int)-y) % 4294967296=_;omega
 refine⟨((x+4294967296-(y+c)) % 4294967296:Nat),?_,?_⟩
 .show((((x+4294967296-y) % 4294967296:Nat):Int)-c) % 4294967296=_;omega
 have h6:(x+4294967296-(y+c)) % 4294967296<4294967296:=cN _ bi;generalize hd:(x+4294967296-(y+c)) % 4294967296=d at h6;refine⟨((4294967295 ^^^ x:Nat):Int),aCa U,(((4294967295 ^^^ x) &&& y:Nat):Int),aC8 (ss bi U) hy,((x ^^^ y:Nat):Int),aC9 U hy,((4294967295 ^^^ (x ^^^ y):Nat):Int),aCa (ss U hy),(((4294967295 ^^^ (x ^^^ y)) &&& d:Nat):Int),aC8 (ss bi (ss U hy)) h6,((((4294967295 ^^^ x) &&& y) ||| ((4294967295 ^^^ (x ^^^ y)) &&& d):Nat):Int),aDh (so _ hy) (so _ h6),bi,((if x<y+c then 1 else 0:Nat):Int),?_,?_⟩
 .rw[<-borrow U hy hc hd];exact qT 31 bi
 intro O w3 r;exact⟨_,rfl,r.cZ,rfl⟩
def vT(n m:Nat):Int:=if n<m then -1 else if m<n then 1 else 0
theorem aCc{a b:List Nat}{i x y:Nat}(ha:Lm a)(hl:a.length=b.length)(U:a[i]? =some x)(hy:b[i]? =some y)(h:a.drop (i+1)=b.drop (i+1))(PY:x<y):val a<val b:=by
 have D:=(aE.1 U).1;have I:=fR a i be;have G:=fR b i be;rw[jv U]at I;rw[jv hy,<-h]at G;have h3:=ph (ha.take i);rw[ah,Nat.min_eq_left be]at h3;generalize val (a.drop (i+1))=q at I G;have h4:wt i*(x+4294967296*q+1)<=wt i*(y+4294967296*q):=bX _ be;rw[bp,aZ]at h4;omega
theorem aA3{u:Value}{n m:Nat}(F:Old S w)(W:eQ w S v n)(hm:eQ w S u m):eH PG GT.uN #[v,u] w (eR w fun v' _=>v'=iV (vT n m)):=by
 obtain⟨ls,I,nz1,rfl⟩:=W;obtain⟨ms,G,nz2,rfl⟩:=hm;obtain⟨a,c,rfl,_,ha⟩:=I.sl;obtain⟨b,e,rfl,_,hb⟩:=G.sl;have hle1:=I.le;have Wy:=G.le;have lm1:=I.lm;have lm2:=G.lm;refine zD bv ?_;apply bS<;>intro h
 .have h:ls.length≠ms.length:=by intro e;rw[e]at h;simp at h
  apply bS<;>intro h3
  .have h3:ls.length<ms.length:=by simpa using h3
   intro O Y r;exact⟨_,rfl,r.cZ,by rw[vT,aM (jk lm1 nz2 h3)];rfl⟩
  .have h3:ms.length<ls.length:=by
    have:¬ls.length<ms.length:=by simpa using h3
    omega
   have h4:=jk lm2 nz1 h3;intro O Y r;exact⟨_,rfl,r.cZ,by rw[vT,aJ be,aM h4];rfl⟩
 .have h:ls.length=ms.length:=by
   have:(ls.length:Int)=ms.length:=by simpa using h
   omega
  refine⟨(ls.length:Int)-1,wo,Nat×World,fun x=>⟨[(0,sV a ls.length c),(1,sV b ms.length e),(5,.o (.v (iV ((x.1:Int)-1))))],[],0,[],x.2⟩,fun x=>x.1,
   fun x=>x.1<=ls.length/\Bq w x.2/\ls.drop x.1=ms.drop x.1,?_,?_⟩
  .intro O J r;exact⟨(ls.length,J),⟨lr,r.cZ,by rw[List.drop_length,h,List.drop_length]⟩,Sub.reset r ⟨rfl,rfl,rfl,trivial⟩ ⟨trivial,trivial,trivial,trivial⟩⟩
  .rintro⟨k,w1⟩ ⟨K,V,hd⟩;dsimp only at K V hd ⊢;apply bS<;>intro h3
   .have h3:(k:Int)-1≥0:=aK h3;obtain⟨k,rfl⟩:∃q,k=q+1:=⟨k-1,be⟩
    rw[show ((k+1:Nat):Int)-1=(k:Int) by omega];obtain⟨x,U⟩:=gO ls k;obtain⟨y,hy⟩:=gO ms k;obtain⟨ad,PU,hs,Wr⟩:=ha k x U;obtain⟨ad2,QR,Qy,Tn⟩:=hb k y hy;have Pq:∀O J,Rel [] 0 [] w.heap.size w1 O J->J.cell? (ad.add ((k:Int).toNat*1))=some (.int .u32 x):=fun O J r=>by
     rw[aF,aZ];exact kg F V r hs Wr
    have RL:∀O J,Rel [] 0 [] w.heap.size w1 O J->J.cell? (ad2.add ((k:Int).toNat*1))=some (.int .u32 y):=fun O J r=>by
     rw[aF,aZ];exact kg F V r Qy Tn
    refine dP (idO 10) ?_;refine⟨ad,PU,be,_,Pq,ad2,QR,be,_,RL,?_⟩;apply bS<;>intro h4
    .have h4:=dL h4;intro O Y r;exact⟨_,rfl,V.tr r.cZ,by rw[vT,aM (aCc lm1 h U hy hd h4)];rfl⟩
    .have h4:¬x<y:=by simpa using h4
     refine dP (idO 10) ?_;refine⟨ad,PU,be,_,Pq,ad2,QR,be,_,RL,?_⟩;apply bS<;>intro h5
     .have h5:=dL h5;have h6:=aCc lm2 h.symm hy U hd.symm h5;intro O Y r;exact⟨_,rfl,V.tr r.cZ,by rw[vT,aJ be,aM h6];rfl⟩
     .have h5:¬y<x:=by simpa using h5
      have hxy:x=y:=by omega
      subst hxy;refine⟨(k:Int)-1,wo,?_⟩;intro O Y r;have Pc:ls.drop k=ms.drop k:=by
       obtain⟨q1,e1⟩:=aE.1 U;obtain⟨q2,e2⟩:=aE.1 hy;rw[List.drop_eq_getElem_cons q1,List.drop_eq_getElem_cons q2,e1,e2,hd]
      exact⟨(k,Y),⟨by dsimp only;omega,V.tr r.cZ,Pc⟩,Sub.reset r ⟨rfl,rfl,rfl,trivial⟩ ⟨trivial,trivial,trivial,trivial⟩,bv⟩
   .have Sc:k=0:=by
     have:¬(k:Int)-1≥0:=aG h3;omega
    subst Sc;have L:ls=ms:=by simpa using hd
    intro O Y r;exact⟨_,rfl,V.tr r.cZ,by rw[L,vT,aJ be,aJ be];rfl⟩
end Go.Ex
namespace Go.Sx
open Go Go.Ex Go.Proofs
variable{O:Nat->Sx.eG}
theorem Rel.sf{nx:Nat}{iv:Iv}{B:Nat}{w J:World}(r:Rel [] nx iv B w O J):w.grownBy J none:=
 ⟨r.os,r.tape,r.output,r.size,fun k K _=>r.yJ k K (fun id b h=>by cases h)⟩
end Go.Sx
namespace Go.Ex
open Go Go.Sx Go.Proofs
variable{l ls:List Nat}{S:Nat->Prop}{v:Value}{w:World}
structure LA(S:Nat->Prop)(w:World) where
 a:Option Addr
 c:Nat
 ls:List Nat
 lm:Lm ls
 le:ls.length<=9223372036854775807
 cap:ls.length<=c
 cell:∀(j:Nat) x,ls[j]? =some x->∃ad,a=some ad/\S ad.block/\w.cell? (ad.add j)=some (.int .u32 x)
theorem dc.la(h:dc w S v ls):∃p:LA S w,v= .slice p.a p.ls.length p.c/\p.ls=ls:=by
 obtain⟨a,c,I,G,h3⟩:=h.sl;exact⟨⟨a,c,ls,h.lm,h.le,G,h3⟩,I,rfl⟩
theorem eQ.la{n:Nat}(h:eQ w S v n):∃p:LA S w,v= .slice p.a p.ls.length p.c/\val p.ls=n/\Nz p.ls:=by
 obtain⟨ls,I,G,h3⟩:=h;obtain⟨p,h4,h5⟩:=I.la;exact⟨p,h4,by rw[h5];exact h3,by rw[h5];exact G⟩
theorem LA.load{w1:World}(p:LA S w)(F:Old S w)(V:Bq w w1){k x:Nat}(U:p.ls[k]? =some x):
  ∃ad,p.a=some ad/\∀(H:Hp) (nx:Nat) (iv:Iv) (O:Nat->Sx.eG) J,Rel H nx iv w.heap.size w1 O J->J.cell? (ad.add ((k:Int).toNat*1))=some (.int .u32 x):=by
 obtain⟨ad,I,G,h3⟩:=p.cell k x U;refine⟨ad,I,fun H nx iv O J r=>?_⟩;rw[aF,aZ];exact kg F V r G h3
def EQ(l:List Nat):List Value:=l.map fun(x:Nat)=>.int .u32 (x:Int)
theorem iC(l:List Nat):(EQ l).length=l.length:=by simp[EQ]
theorem xf{k x:Nat}(h:l[k]? =some x):(EQ l)[k]? =some (.int .u32 x):=by simp[EQ,h]
theorem aDl(l:List Nat)(k x:Nat)(h:k<l.length):(EQ l).take k++[.int .u32 x]++(EQ l).drop (k+1)=EQ (l.set k x):=by
 have I:k<(EQ l).length:=by rw[iC];exact h
 have:(EQ l).set k (.int .u32 x)=EQ (l.set k x):=by simp[EQ,List.map_set]
 rw[<-this,List.set_eq_take_append_cons_drop,aM I];simp
theorem jo(l:List Nat)(k x:Nat)(h:k<l.length){e:Nat}(L:e=k):(EQ l).take e++[.int .u32 (x:Int)]++(EQ l).drop (e+1)=EQ (l.set k x):=by
 subst L;exact aDl l e x h
theorem vU(n:Nat):List.replicate n (Value.int .u32 0)=EQ (List.replicate n 0):=by simp[EQ]
end Go.Ex
namespace Go.Sx
open Go Go.Ex Go.Proofs
variable{ls:List Nat}{O:Nat->Sx.eG}
theorem Rel.pN{H:Hp}{nx:Nat}{iv:Iv}{B:Nat}{w J:World}(r:Rel H nx iv B w O J){id t:Nat}(h:dU H id=some (.arr t (EQ ls)))(QO:Lm ls)(hle:ls.length<=9223372036854775807):
  dc J (fun g=>g=(O id).g) (.slice (some ⟨(O id).g,0,none⟩) ls.length ls.length) ls:=by
 refine⟨QO,hle,_,_,rfl,lr,fun j x U=>⟨_,rfl,rfl,?_⟩⟩;have h0:(⟨(O id).g,0,none⟩:Addr).add j=⟨(O id).g,j,none⟩:=by
  cases j with
  |zero=>rfl
  |succ j=>simp[Addr.add]
 rw[h0,cell_of (r.arr id t _ h)];exact xf U
end Go.Sx
namespace Go.Ex
open Go Go.Sx Go.Proofs
section
variable{S:Nat->Prop}
theorem Fa{out ls ms:List Nat}{i x o d:Nat}(U:ls[i]? =some x)(ho:ms.getD i 0=o)(hd:out[i]? =some d){carry:Nat}(h:val (out.take i)+wt i*carry=val (ls.take i)+val (ms.take i)):
  val ((out.set i ((x+o+carry) % 4294967296)).take (i+1))+wt (i+1)*((x+o+carry) / 4294967296)=val (ls.take (i+1))+val (ms.take (i+1)):=by
 have D:=(aE.1 hd).1;have I:(out.set i ((x+o+carry) % 4294967296))[i]? =some ((x+o+carry) % 4294967296):=by rw[aT D]
 rw[eF I,List.take_set_of_le lr,eF U,ji];have G:val (ms.take (i+1))=val (ms.take i)+wt i*o:=by
  cases hm:ms[i]? with
  |some y=>
   have:y=o:=by rw[<-ho];simp[List.getD,hm]
   rw[eF hm,this]
  |none=>
   have:o=0:=by rw[<-ho];simp[List.getD,hm]
   rw[this,bB,hm];simp
 rw[G];have h3:=Nat.div_add_mod (x+o+carry) 4294967296;generalize (x+o+carry) / 4294967296=q at h3 ⊢;generalize (x+o+carry) % 4294967296=r at h3 ⊢;have h4:wt i*(4294967296*q+r)=wt i*(x+o+carry):=by rw[h3]
 rw[bp,bp,bp,<-bz,bl (wt i) 4294967296]at h4;omega
theorem aDJ{w:World}{v u:Value}{n m:Nat}(F:Old S w)(W:eQ w S v n)(hm:eQ w S u m)(TK:ln n<=1000000000000)(QO:ln m<=1000000000000):
  eH PG GT.sO #[v,u] w (eR w fun v' Y=>eQ Y (Nf w Y) v' (n+m)):=by
 obtain⟨p,rfl,Ra,Qa⟩:=W.la;obtain⟨q,rfl,SW,Qn⟩:=hm.la;have Q4:=eu p.lm Qa;have Ss:=eu q.lm Qn;rw[Ra]at Q4;rw[SW]at Ss;have hsum:n+m=val p.ls+val q.ls:=by rw[Ra,SW]
 rw[hsum];refine xd bv ?_;refine tG.mk ?_ ?_<;>intro h
 case' refine_1=>
  have h:p.ls.length<q.ls.length:=by simpa using h
  have hpx:p.ls.length<=q.ls.length:=by omega
  have hx12:q.ls.length<=1000000000000:=by omega
  rw[Nat.add_comm];generalize Yc:q=x at*
  generalize hgy:p=y at*
 case' refine_2=>
  have h:¬p.ls.length<q.ls.length:=by simpa using h
  have hpx:q.ls.length<=p.ls.length:=by omega
  have hx12:p.ls.length<=1000000000000:=by omega
  generalize Yc:p=x at*
  generalize hgy:q=y at*
 all_goals
  refine⟨((x.ls.length+1:Nat):Int),wo,x.ls.length+1,x.ls.length+1,rfl,rfl,lr,be,be,Nat×List Nat×Nat×World,fun z=>⟨[(0,sV x.a x.ls.length x.c),(1,sV y.a y.ls.length y.c),(5,.o (.s 0 0 (x.ls.length+1) (x.ls.length+1))),(6,.o (.v (.int .u32 z.2.2.1))),(21,iZ x.ls.length),(22,iZ z.1)],
    [(0,.arr T.uint32 (EQ z.2.1))],1,[],z.2.2.2⟩,fun z=>x.ls.length-z.1,
   fun z=>z.1<=x.ls.length/\Bq w z.2.2.2/\z.2.1.length=x.ls.length+1/\Lm z.2.1/\z.2.2.1<2/\val (z.2.1.take z.1)+wt z.1*z.2.2.1=val (x.ls.take z.1)+val (y.ls.take z.1),?_,?_⟩
  .intro O J r;rw[vU]at r;exact⟨(0,List.replicate (x.ls.length+1) 0,0,J),⟨bv,r.cZ,bv,Lm.replicate _,bv,by simp[val]⟩,sbgn [] r⟩
  .rintro⟨i,out,carry,w1⟩ ⟨D,V,RK,Pv,hc,hv⟩;dsimp only at D V RK Pv hc hv ⊢;refine tG.mk ?_ ?_<;>intro h
   .have h:=dL h;obtain⟨xi,QB⟩:=gO x.ls i;obtain⟨d,hd⟩:=gO out i;obtain⟨ad,PU,Pg⟩:=x.load F V QB;have RD:=x.lm.at QB;refine tG.mk ?_ ?_<;>intro G
    .have G:=dL G;obtain⟨o,ho⟩:=gO y.ls i;obtain⟨ad2,QR,Rd⟩:=y.load F V ho;have YH:=y.lm.at ho;have VG:y.ls.getD i 0=o:=by simp[List.getD,ho]
     refine⟨ad2,QR,be,.int .u32 o,Rd _ _ _,ad,PU,be,.int .u32 xi,Pg _ _ _,?_⟩;refine cQ (cU (J9:=fun _ _ v _=>v= .tuple #[.int .u32 ((xi+o+carry) % 4294967296:Nat),.int .u32 ((xi+o+carry) / 4294967296:Nat)]) (fun O J r=>MH xi o carry J RD YH be) ?_);rintro O J v Y r L hb rfl;replace V:=V.tr hb;have Pu:=Fa QB VG hd hv;have Tn:(xi+o+carry) / 4294967296<2:=by omega
     refine⟨be,by rw[iC];omega,EQ (out.set i ((xi+o+carry) % 4294967296)),jo out i _ be bv,((i+1:Nat):Int),wo,?_⟩;intro I' w3 R
     exact⟨(i+1,out.set i ((xi+o+carry) % 4294967296),(xi+o+carry) / 4294967296,w3),⟨by dsimp only;omega,V.tr R.cZ,by simp[RK],Pv.set (cN _ bi),Tn,Pu⟩,
      sbgn [] R,by dsimp only;omega⟩
    .have G:¬i<y.ls.length:=by simpa using G
     have VG:y.ls.getD i 0=0:=by simp[List.getD,List.getElem?_eq_none (show y.ls.length<=i by omega)]
     refine⟨ad,PU,be,.int .u32 xi,Pg _ _ _,?_⟩;refine cQ (cU (J9:=fun _ _ v _=>v= .tuple #[.int .u32 ((xi+0+carry) % 4294967296:Nat),.int .u32 ((xi+0+carry) / 4294967296:Nat)]) (fun O J r=>MH xi 0 carry J RD bi be) ?_);rintro O J v Y r L hb rfl;replace V:=V.tr hb;have Pu:=Fa QB VG hd hv;have Tn:(xi+0+carry) / 4294967296<2:=by omega
     refine⟨be,by rw[iC];omega,EQ (out.set i ((xi+0+carry) % 4294967296)),jo out i _ be bv,((i+1:Nat):Int),wo,?_⟩;intro I' w3 R
     exact⟨(i+1,out.set i ((xi+0+carry) % 4294967296),(xi+0+carry) / 4294967296,w3),⟨by dsimp only;omega,V.tr R.cZ,by simp[RK],Pv.set (cN _ bi),Tn,Pu⟩,
      sbgn [] R,by dsimp only;omega⟩
   .have SC:i=x.ls.length:=by
     have:¬i<x.ls.length:=by simpa using h
     omega
    subst SC;obtain⟨d,hd⟩:=gO out x.ls.length;have UW:val (out.set x.ls.length carry)=val x.ls+val y.ls:=by
     have I:(out.set x.ls.length carry)[x.ls.length]? =some carry:=by rw[aT be]
     have G:=eF I;rw[bH (by simp;omega),List.take_set_of_le lr]at G;rw[bN,bH hpx]at hv;omega
    have hlm2:Lm (out.set x.ls.length carry):=Pv.set be;refine⟨be,by rw[iC];omega,EQ (out.set x.ls.length carry),jo out x.ls.length carry be bv,?_⟩;generalize hgo:out.set x.ls.length carry=fin at UW hlm2;have PM:fin.length=x.ls.length+1:=by rw[<-hgo];simp[RK]
    refine iM (J9:=fun O _ v Y=>dc Y (fun g=>g=(O 0).g) v (eM fin)) (H':=[]) 0 rfl bv trivial rfl (fun O J r=>r.nn 0 _ rfl (by intros;simp) bv) (fun O J r=>?_) ?_
    .have hL:=r.pN (id:=0) rfl hlm2 be;rw[PM]at hL;exact gC (fun g X=>by rw[X];exact(r.low 0 _ rfl (r.nn 0 _ rfl (by intros;simp) bv)).2) hL
    rintro O J v Y r L hb hL;replace V:=V.tr hb;have PI:=r.low 0 _ rfl (r.nn 0 _ rfl (by intros;simp) bv);generalize (O 0).g=g at*
    have hs:=L.size;intro I' w3 R;refine⟨_,rfl,V.tr R.cZ,eM fin,?_,(fX fin).2.1,?_⟩
    .refine(hL.cR fun k K=>?_).cP fun k K=>.inr ?_
     .rw[K];exact R.sf.block g be bv
     .rw[K];have:=R.size;omega
    .rw[(fX fin).1,UW]
end
variable{ls ms out:List Nat}{A9 a b i k o t:Nat}{S:Nat->Prop}{v:Value}{w:World}
theorem Nq(ho:ms.getD i 0=o):val (ms.take (i+1))=val (ms.take i)+wt i*o:=by
 cases hm:ms[i]? with
 |some y=>
  have:y=o:=by rw[<-ho];simp[List.getD,hm]
  rw[eF hm,this]
 |none=>
  have:o=0:=by rw[<-ho];simp[List.getD,hm]
  rw[this,bB,hm];simp
theorem D8{x d e:Nat}(U:ls[i]? =some x)(ho:ms.getD i 0=o)(hd:out[i]? =some d){b':Nat}(h:val (out.take i)+val (ms.take i)=val (ls.take i)+wt i*b)(L:e+(o+b)=x+4294967296*b'):
  val ((out.set i e).take (i+1))+val (ms.take (i+1))=val (ls.take (i+1))+wt (i+1)*b':=by
 have D:=(aE.1 hd).1;have I:(out.set i e)[i]? =some e:=by rw[aT D]
 rw[eF I,List.take_set_of_le lr,eF U,Nq ho,ji];have h4:wt i*(e+(o+b))=wt i*(x+4294967296*b'):=by rw[L]
 rw[bp,bp,bp,<-bz,bl (wt i) 4294967296]at h4;omega
theorem Gj{u:Value}{n m:Nat}(F:Old S w)(W:eQ w S v n)(hm:eQ w S u m)(hle:m<=n)(TK:ln n<=1000000000000):
  eH PG GT.rA #[v,u] w (eR w fun v' Y=>eQ Y (Nf w Y) v' (n-m)):=by
 obtain⟨x,rfl,Ra,Qa⟩:=W.la;obtain⟨y,rfl,SW,Qn⟩:=hm.la;have Q4:=eu x.lm Qa;rw[Ra]at Q4;have hyx:y.ls.length<=x.ls.length:=by
  rw[eu x.lm Qa,eu y.lm Qn,Ra,SW];exact fq hle
 refine vN bv ?_
 refine⟨x.ls.length,x.ls.length,rfl,rfl,lr,be,be,Nat×List Nat×Nat×World,fun z=>⟨[(0,sV x.a x.ls.length x.c),(1,sV y.a y.ls.length y.c),(5,.o (.s 0 0 x.ls.length x.ls.length)),(6,.o (.v (.int .u32 z.2.2.1))),(13,iZ x.ls.length),(14,iZ z.1)],
   [(0,.arr T.uint32 (EQ z.2.1))],1,[],z.2.2.2⟩,fun z=>x.ls.length-z.1,
  fun z=>z.1<=x.ls.length/\Bq w z.2.2.2/\z.2.1.length=x.ls.length/\Lm z.2.1/\z.2.2.1<2/\val (z.2.1.take z.1)+val (y.ls.take z.1)=val (x.ls.take z.1)+wt z.1*z.2.2.1,?_,?_⟩
 .intro O J r;rw[vU]at r;exact⟨(0,List.replicate x.ls.length 0,0,J),⟨bv,r.cZ,bv,Lm.replicate _,bv,by simp[val]⟩,sbgn [] r⟩
 .rintro⟨i,out,b,w1⟩ ⟨D,V,RK,Pv,hc,hv⟩;dsimp only at D V RK Pv hc hv ⊢;apply bS<;>intro h
  .have h:=dL h;obtain⟨xi,QB⟩:=gO x.ls i;obtain⟨d,hd⟩:=gO out i;obtain⟨ad,PU,Pg⟩:=x.load F V QB;have RD:=x.lm.at QB;apply bS<;>intro G
   .have G:=dL G;obtain⟨o,ho⟩:=gO y.ls i;obtain⟨ad2,QR,Rd⟩:=y.load F V ho;have YH:=y.lm.at ho;have VG:y.ls.getD i 0=o:=by simp[List.getD,ho]
    refine⟨ad2,QR,be,.int .u32 o,Rd _ _ _,ad,PU,be,.int .u32 xi,Pg _ _ _,?_⟩;refine cQ (cU (J9:=fun _ _ v _=>v= .tuple #[.int .u32 ((xi+4294967296-(o+b)) % 4294967296:Nat),.int .u32 ((if xi<o+b then 1 else 0:Nat):Int)]) (fun O J r=>MI xi o b J RD YH be) ?_);rintro O J v Y r L hb rfl;replace V:=V.tr hb;have Qm:(xi+4294967296-(o+b)) % 4294967296+(o+b)=xi+4294967296*(if xi<o+b then 1 else 0):=by split<;>omega
    have PY:(xi+4294967296-(o+b)) % 4294967296<4294967296:=cN _ bi;have RW:(if xi<o+b then 1 else 0:Nat)<2:=by split<;>omega
    generalize (xi+4294967296-(o+b)) % 4294967296=e at Qm PY;generalize (if xi<o+b then 1 else 0:Nat)=b' at Qm RW;have Pu:=D8 QB VG hd hv Qm;refine⟨be,by rw[iC];omega,EQ (out.set i e),jo out i _ be bv,((i+1:Nat):Int),wo,?_⟩;intro I' w3 R
    exact⟨(i+1,out.set i e,b',w3),⟨by dsimp only;omega,V.tr R.cZ,by simp[RK],Pv.set PY,RW,Pu⟩,
     sbgn [] R,by dsimp only;omega⟩
   .have G:¬i<y.ls.length:=by simpa using G
    have VG:y.ls.getD i 0=0:=by simp[List.getD,List.getElem?_eq_none (show y.ls.length<=i by omega)]
    refine⟨ad,PU,be,.int .u32 xi,Pg _ _ _,?_⟩;refine cQ (cU (J9:=fun _ _ v _=>v= .tuple #[.int .u32 ((xi+4294967296-(0+b)) % 4294967296:Nat),.int .u32 ((if xi<0+b then 1 else 0:Nat):Int)]) (fun O J r=>MI xi 0 b J RD bi be) ?_);rintro O J v Y r L hb rfl;replace V:=V.tr hb;have Qm:(xi+4294967296-(0+b)) % 4294967296+(0+b)=xi+4294967296*(if xi<0+b then 1 else 0):=by split<;>omega
    have PY:(xi+4294967296-(0+b)) % 4294967296<4294967296:=cN _ bi;have RW:(if xi<0+b then 1 else 0:Nat)<2:=by split<;>omega
    generalize (xi+4294967296-(0+b)) % 4294967296=e at Qm PY;generalize (if xi<0+b then 1 else 0:Nat)=b' at Qm RW;have Pu:=D8 QB VG hd hv Qm;refine⟨be,by rw[iC];omega,EQ (out.set i e),jo out i _ be bv,((i+1:Nat):Int),wo,?_⟩;intro I' w3 R
    exact⟨(i+1,out.set i e,b',w3),⟨by dsimp only;omega,V.tr R.cZ,by simp[RK],Pv.set PY,RW,Pu⟩,
     sbgn [] R,by dsimp only;omega⟩
  .have SC:i=x.ls.length:=by
    have:¬i<x.ls.length:=by simpa using h
    omega
   subst SC;have UW:val out=n-m:=by
    rw[bH be,bH hyx,bN,Ra,SW]at hv;have I:=ph Pv;rw[RK]at I;have:b=0\/b=1:=by omega
    rcases this with rfl|rfl
    .omega
    .omega
   refine iM (J9:=fun O _ v Y=>dc Y (fun g=>g=(O 0).g) v (eM out)) (H':=[]) 0 rfl bv trivial rfl (fun O J r=>r.nn 0 _ rfl (by intros;simp) bv) (fun O J r=>?_) ?_
   .have hL:=r.pN (id:=0) rfl Pv be;rw[RK]at hL;exact gC (fun g X=>by rw[X];exact(r.low 0 _ rfl (r.nn 0 _ rfl (by intros;simp) bv)).2) hL
   rintro O J v Y r L hb hL;replace V:=V.tr hb;have PI:=r.low 0 _ rfl (r.nn 0 _ rfl (by intros;simp) bv);generalize (O 0).g=g at*
   have hs:=L.size;intro I' w3 R;refine⟨_,rfl,V.tr R.cZ,eM out,?_,(fX out).2.1,?_⟩
   .refine(hL.cR fun k K=>?_).cP fun k K=>.inr ?_
    .rw[K];exact R.sf.block g be bv
    .rw[K];have:=R.size;omega
   .rw[(fX out).1,UW]
theorem Kz{p c:Nat}(ho:out[p]? =some o)(h:val out+wt p*c=A9)(ht:t=a+o+c):
  val (out.set p (t % 4294967296))+wt (p+1)*(t / 4294967296)=A9+wt p*a:=by
 have I:=Az (x:=t % 4294967296) ho;rw[ji];have h3:=Nat.div_add_mod t 4294967296;generalize t / 4294967296=q at h3 ⊢;generalize t % 4294967296=r at h3 I ⊢;have h4:wt p*(4294967296*q+r)=wt p*(a+o+c):=by rw[h3,ht]
 rw[bp,bp,bp,<-bz,bl (wt p) 4294967296]at h4;omega
def Zf(out:List Nat)(p:Nat):Prop:=∀(j:Nat) z,p<=j->out[j]? =some z->z=0
theorem Zf.set{p x:Nat}(h:Zf out p)(K:k<p):Zf (out.set k x) p:=fun j z hj hz=>by
 rw[aY be]at hz;exact h j z hj hz
theorem aBZ(ha:a<4294967296)(hb:b<4294967296):a*b<=18446744065119617025:=by
 have:a*b<=4294967295*4294967295:=Nat.mul_le_mul be be;omega
theorem Lx{u:Value}{n m:Nat}(F:Old S w)(W:eQ w S v n)(hm:eQ w S u m)(TK:ln n<=1000000000000)(QO:ln m<=1000000000000):
  eH PG GT.qv #[v,u] w (eR w fun v' Y=>eQ Y (Nf w Y) v' (n*m)):=by
 obtain⟨x,rfl,Ra,Qa⟩:=W.la;obtain⟨y,rfl,SW,Qn⟩:=hm.la;have Q4:=eu x.lm Qa;rw[Ra]at Q4;have Ss:=eu y.lm Qn;rw[SW]at Ss;refine vK bv ?_;obtain⟨D',hL⟩:∃D',D'=x.ls.length+y.ls.length:=⟨_,rfl⟩
 refine⟨(D':Int),wo,D',D',rfl,rfl,lr,be,be,Nat×List Nat×World,fun z=>⟨[(1,sV y.a y.ls.length y.c),(5,.o (.s 0 0 D' D')),(18,sV x.a x.ls.length x.c),(19,iZ x.ls.length),(20,iZ z.1)],
   [(0,.arr T.uint32 (EQ z.2.1))],1,[],z.2.2⟩,fun z=>x.ls.length-z.1,
  fun z=>z.1<=x.ls.length/\Bq w z.2.2/\z.2.1.length=D'/\Lm z.2.1/\val z.2.1=val (x.ls.take z.1)*m/\Zf z.2.1 (z.1+y.ls.length),?_,?_⟩
 .intro O J r;rw[vU]at r;exact⟨(0,List.replicate D' 0,J),⟨bv,r.cZ,bv,Lm.replicate _,by simp[val,oW],fun j z _ hz=>by simp only[List.getElem?_replicate]at hz;split at hz<;>simp_all⟩,sbgn [] r⟩
 .rintro⟨i,out,w1⟩ ⟨D,V,RK,Pv,hv,hz⟩;dsimp only at D V RK Pv hv hz ⊢;apply bS<;>intro h
  .have h:=dL h;obtain⟨xi,QB⟩:=gO x.ls i;obtain⟨ad,PU,Pg⟩:=x.load F V QB;have RD:=x.lm.at QB
   refine⟨ad,PU,be,.int .u32 xi,Pg _ _ _,Nat×List Nat×Nat×World,fun z=>⟨[(1,sV y.a y.ls.length y.c),(5,.o (.s 0 0 D' D')),(18,sV x.a x.ls.length x.c),(19,iZ x.ls.length),(20,iZ i),
     (6,iZ i),(7,.o (.v (.int .u32 xi))),(8,.o (.v (.int .u64 z.2.2.1))),(25,sV y.a y.ls.length y.c),(26,iZ y.ls.length),(27,iZ z.1)],
     [(0,.arr T.uint32 (EQ z.2.1))],1,[],z.2.2.2⟩,fun z=>y.ls.length-z.1,
    fun z=>z.1<=y.ls.length/\Bq w z.2.2.2/\z.2.1.length=D'/\Lm z.2.1/\z.2.2.1<4294967296/\val z.2.1+wt (i+z.1)*z.2.2.1=val (x.ls.take i)*m+wt i*xi*val (y.ls.take z.1)/\Zf z.2.1 (i+y.ls.length),?_,?_⟩
   .intro O J r;exact⟨(0,out,0,J),⟨bv,V.tr r.cZ,RK,Pv,bv,by simp[val,hv],hz⟩,sbgn [] r⟩
   .rintro⟨k,out,c,w1⟩ ⟨K,V,RK,Pv,hc,hv,hz⟩;dsimp only at K V RK Pv hc hv hz ⊢;apply bS<;>intro G
    .have G:=dL G;obtain⟨yk,hyk⟩:=gO y.ls k;obtain⟨ad2,QR,Rd⟩:=y.load F V hyk;have hy32:=y.lm.at hyk;obtain⟨o,ho⟩:=gO out (i+k);have YH:=Pv.at ho;have hm64:=aBZ RD hy32;refine⟨ad2,QR,be,.int .u32 yk,Rd _ _ _,(xi:Int),fK be,(yk:Int),fK be,((xi*yk:Nat):Int),by rw[<-Int.natCast_mul];exact fK be,((i+k:Nat):Int),wo,be,.int .u32 o,by rw[aF,aW,aZ];exact xf ho,(o:Int),fK be,((xi*yk+o:Nat):Int),by rw[<-Int.natCast_add];exact fK be,?_⟩;obtain⟨t,ht⟩:∃t,t=xi*yk+o+c:=⟨_,rfl⟩
     refine⟨(t:Int),by rw[<-Int.natCast_add,<-ht];exact fK be,((i+k:Nat):Int),wo,((t % 4294967296:Nat):Int),fm _,bi,((t / 4294967296:Nat):Int),nO 32 bi,be,by rw[iC];omega,EQ (out.set (i+k) (t % 4294967296)),jo out (i+k) _ be (by simp only[aF];omega),((k+1:Nat):Int),wo,?_⟩;intro I' w3 R
     refine⟨(k+1,out.set (i+k) (t % 4294967296),t / 4294967296,w3),⟨by dsimp only;omega,V.tr R.cZ,by simp[RK],Pv.set (cN _ bi),by dsimp only;omega,?_,hz.set be⟩,
      sbgn [] R,by dsimp only;omega⟩
     have h5:=Kz (a:=xi*yk) ho hv ht;dsimp only
     rw[show i+(k+1)=i+k+1 by omega,h5,eF hyk,Fu,bp,Nat.add_assoc];congr 2;simp only[bz,Nat.mul_left_comm,bl]
    .have Vy:k=y.ls.length:=by
      have:¬k<y.ls.length:=by simpa using G
      omega
     subst Vy;obtain⟨o,ho⟩:=gO out (i+y.ls.length);have ho0:=hz _ _ lr ho;subst ho0;refine⟨((i+y.ls.length:Nat):Int),wo,(c:Int),by rw[fm,b9 hc],be,by rw[iC];omega,EQ (out.set (i+y.ls.length) c),jo out (i+y.ls.length) _ be (by simp only[aF];omega),((i+1:Nat):Int),wo,?_⟩;intro I' w3 R
     refine⟨(i+1,out.set (i+y.ls.length) c,w3),⟨by dsimp only;omega,V.tr R.cZ,by simp[RK],Pv.set hc,?_,?_⟩,
      sbgn [] R,by dsimp only;omega⟩
     .have h5:=Az (x:=c) ho;dsimp only
      rw[bN,SW]at hv;rw[eF QB,Nat.add_mul];omega
     .intro j z hj hjz;dsimp only at hj;rw[aY be]at hjz;exact hz j z be hjz
  .have SC:i=x.ls.length:=by
    have:¬i<x.ls.length:=by simpa using h
    omega
   subst SC;have UW:val out=n*m:=by rw[hv,bN,Ra]
   refine iM (J9:=fun O _ v Y=>dc Y (fun g=>g=(O 0).g) v (eM out)) (H':=[]) 0 rfl bv trivial rfl (fun O J r=>r.nn 0 _ rfl (by intros;simp) bv) (fun O J r=>?_) ?_
   .have hL:=r.pN (id:=0) rfl Pv be;rw[RK]at hL;exact gC (fun g X=>by rw[X];exact(r.low 0 _ rfl (r.nn 0 _ rfl (by intros;simp) bv)).2) hL
   rintro O J v Y r L hb hL;replace V:=V.tr hb;have PI:=r.low 0 _ rfl (r.nn 0 _ rfl (by intros;simp) bv);generalize (O 0).g=g at*
   have hs:=L.size;intro I' w3 R;refine⟨_,rfl,V.tr R.cZ,eM out,?_,(fX out).2.1,?_⟩
   .refine(hL.cR fun k K=>?_).cP fun k K=>.inr ?_
    .rw[K];exact R.sf.block g be bv
    .rw[K];have:=R.size;omega
   .rw[(fX out).1,UW]
theorem Gl{q:Nat}(ho:o<2^k):o ||| 2^k*q=o+2^k*q:=by
 rw[Nat.or_comm,<-Nat.two_pow_add_eq_or_of_lt ho,Nat.add_comm]
theorem aA5{x y:Nat}(U:x<18446744073709551616)(hy:y<18446744073709551616):IntKind.u64.wrap ((BitVec.ofInt IntKind.u64.bits x ||| BitVec.ofInt IntKind.u64.bits y).toNat:Int)=((x ||| y:Nat):Int):=by
 have e:∀z:Nat,BitVec.ofInt 64 (z:Int)=BitVec.ofNat 64 z:=fun z=>by
  apply BitVec.eq_of_toNat_eq;simp
 show IntKind.u64.wrap ((BitVec.ofInt 64 x ||| BitVec.ofInt 64 y).toNat:Int)=_;rw[e,e,BitVec.toNat_or,BitVec.toNat_ofNat,BitVec.toNat_ofNat,b9 U,b9 hy];exact fK (Nat.or_lt_two_pow (n:=64) U hy)
theorem Gk(K:k<=63)(h:a*2^k<18446744073709551616):IntKind.u64.wrap ((a:Int)*2^min ((k:Int)).toNat IntKind.u64.bits)=((a*2^k:Nat):Int):=by
 have I:min ((k:Int)).toNat IntKind.u64.bits=k:=by show min ((k:Int)).toNat 64=k;omega
 rw[I,show(a:Int)*2^k=((a*2^k:Nat):Int) by simp];exact fK h
theorem LC(ha:ls[i]? =some a)(ho:out[i]? =some o)(hz:out[i+1]? =some 0)(hv:val out=val (ls.take i)*2^b):
  val ((out.set i (o+a*2^b % 4294967296)).set (i+1) (a*2^b / 4294967296))=val (ls.take (i+1))*2^b:=by
 have I:=Az (x:=o+a*2^b % 4294967296) ho;have G:(out.set i (o+a*2^b % 4294967296))[i+1]? =some 0:=by rw[aY be];exact hz
 have h3:=Az (x:=a*2^b / 4294967296) G;rw[eF ha,Nat.add_mul,bz];rw[ji]at h3;generalize a*2^b=t at*
 have h4:=Nat.div_add_mod t 4294967296;generalize t / 4294967296=q at*
 generalize t % 4294967296=r at*
 have h5:wt i*(o+r)=wt i*o+wt i*r:=bp _ _ _;have h6:4294967296*wt i*q=wt i*(4294967296*q):=by rw[bl 4294967296 (wt i),bz]
 rw[<-h4,bp];omega
def aA7(w Y:World)(v:Value)(ls:List Nat):Prop:=∃g,v= .slice (some ⟨g,0,none⟩) ls.length ls.length/\w.heap.size<=g/\Y.heap[g]? =some (.cells (EQ ls).toArray T.uint32 (0,0))/\Lm ls
theorem FE(F:Old S w)(h:dc w S v ls)(hl:ls.length<=1000000000000)(hb:b<32):
  eH PG GT.oI #[v,.int .u64 b] w (eR w fun v' Y=>∃out,aA7 w Y v' out/\out.length=ls.length+1/\val out=val ls*2^b):=by
 obtain⟨x,rfl,rfl⟩:=h.la;refine s6 bv ?_;have hp32:2^b<=2^31:=Nat.pow_le_pow_right bi be
 refine⟨((x.ls.length+1:Nat):Int),wo,x.ls.length+1,x.ls.length+1,rfl,rfl,lr,be,be,Nat×List Nat×World,fun z=>⟨[(1,.o (.v (.int .u64 b))),(5,.o (.s 0 0 (x.ls.length+1) (x.ls.length+1))),(13,sV x.a x.ls.length x.c),(14,iZ x.ls.length),(15,iZ z.1)],
   [(0,.arr T.uint32 (EQ z.2.1))],1,[],z.2.2⟩,fun z=>x.ls.length-z.1,
  fun z=>z.1<=x.ls.length/\Bq w z.2.2/\z.2.1.length=x.ls.length+1/\Lm z.2.1/\val z.2.1=val (x.ls.take z.1)*2^b/\Zf z.2.1 (z.1+1)/\(∀o,z.2.1[z.1]? =some o->o<2^b),?_,?_⟩
 .intro O J r;rw[vU]at r;refine⟨(0,List.replicate (x.ls.length+1) 0,J),⟨bv,r.cZ,bv,Lm.replicate _,by simp[val,oW],fun j z _ hz=>?_,fun o ho=>?_⟩,sbgn [] r⟩
  .simp only[List.getElem?_replicate]at hz;split at hz<;>simp_all
  .simp only[List.getElem?_replicate]at ho;split at ho
   .injection ho with ho;subst ho;exact cK _
   .cases ho
 .rintro⟨i,out,w1⟩ ⟨D,V,RK,Pv,hv,hz,PI⟩;dsimp only at D V RK Pv hv hz PI ⊢;apply bS<;>intro h
  .have h:=dL h;obtain⟨a,QB⟩:=gO x.ls i;obtain⟨ad,PU,Pg⟩:=x.load F V QB;have RD:=x.lm.at QB;obtain⟨o,ho⟩:=gO out i;obtain⟨o1,XM⟩:=gO out (i+1);have e0:=hz _ _ lr XM;subst e0;have Sm:=PI o ho;have Pu:=LC QB ho XM hv;have QV:a*2^b<=4294967295*2^31:=Nat.mul_le_mul be hp32;have Ua:a*2^b / 4294967296<2^b:=by
    rw[Nat.div_lt_iff_lt_mul bi,bl (2^b)];exact Nat.mul_lt_mul_of_pos_right RD (cK b)
   have Vw:o ||| a*2^b % 4294967296=o+a*2^b % 4294967296:=by
    have:a*2^b % 4294967296=2^b*(a % 2^(32-b)):=by
     rw[show (4294967296:Nat)=2^(32-b)*2^b by rw[<-Nat.pow_add,Nat.sub_add_cancel be],Nat.mul_mod_mul_right,bl]
    rw[this];exact Gl Sm
   have Si:o+a*2^b % 4294967296<4294967296:=by
    rw[<-Vw];exact HD be (cN _ bi)
   refine⟨ad,PU,be,.int .u32 a,Pg _ _ _,(a:Int),fK be,be,((a*2^b:Nat):Int),Gk be be,?_⟩;generalize ht:a*2^b=t at*
   refine⟨be,.int .u32 o,by rw[aF,aW,aZ];exact xf ho,((t % 4294967296:Nat):Int),fm _,((o+t % 4294967296:Nat):Int),by rw[<-Vw];exact aDh be (cN _ bi),be,by rw[iC];omega,EQ (out.set i (o+t % 4294967296)),jo out i _ be bv,((i+1:Nat):Int),wo,bi,((t / 4294967296:Nat):Int),nO 32 bi,((t / 4294967296:Nat):Int),by rw[fm];omega,be,by rw[iC];simp;omega,EQ ((out.set i (o+t % 4294967296)).set (i+1) (t / 4294967296)),jo _ (i+1) _ (by simp;omega) (by simp only[aF];omega),((i+1:Nat):Int),wo,?_⟩;intro I' w3 R
   refine⟨(i+1,(out.set i (o+t % 4294967296)).set (i+1) (t / 4294967296),w3),⟨by dsimp only;omega,V.tr R.cZ,by simp[RK],(Pv.set Si).set be,Pu,fun j z hj hjz=>?_,fun o2 VY=>?_⟩,
    sbgn [] R,by dsimp only;omega⟩
   .dsimp only at hj;rw[aY be,aY be]at hjz;exact hz j z be hjz
   .rw[aT (by simp;omega)]at VY;injection VY with VY;omega
  .have SC:i=x.ls.length:=by
    have:¬i<x.ls.length:=by simpa using h
    omega
   subst SC;rw[bN]at hv;intro I' w3 R;refine⟨_,rfl,V.tr R.cZ,out,⟨(I' 0).g,by rw[RK];rfl,(R.low 0 _ rfl (R.nn 0 _ rfl (by intros;simp) bv)).1,R.arr 0 _ _ rfl,Pv⟩,RK,hv⟩
theorem Fj{d q:Nat}(ha32:a<4294967296)(ha:ls[i]? =some a)(hd:out[i]? =some d)(hb:b<=32)(ht:t=a+4294967296*ls.getD (i+1) 0)(hq:q=t / 2^b % 4294967296)(hv:val (out.take i)+wt i*(val (ls.drop i) / 2^b)=A9):
  val ((out.set i q).take (i+1))+wt (i+1)*(val (ls.drop (i+1)) / 2^b)=A9:=by
 have D:=(aE.1 hd).1;have I:(out.set i q)[i]? =some q:=by rw[aT D]
 rw[eF I,List.take_set_of_le lr,ji,<-hv];have hN:=jv ha;have G:val (ls.drop i) / 2^b=q+4294967296*(val (ls.drop (i+1)) / 2^b):=by
  have e1:val (ls.drop i) / 2^b / 4294967296=val (ls.drop (i+1)) / 2^b:=by
   rw[Nat.div_div_eq_div_mul,bl,<-Nat.div_div_eq_div_mul];congr 1;omega
  have e2:val (ls.drop i) / 2^b % 4294967296=q:=by
   have h3:∃z,val (ls.drop i)=t+2^b*(4294967296*z):=by
    cases U:ls[i+1]? with
    |some y=>
     have:=jv U;refine⟨2^(32-b)*val (ls.drop (i+1+1)),?_⟩;have h4:2^b*(4294967296*(2^(32-b)*val (ls.drop (i+1+1))))=18446744073709551616*val (ls.drop (i+1+1)):=by
      rw[Nat.mul_left_comm,<-bz (2^b),<-Nat.pow_add,Nat.add_sub_cancel' hb,<-bz]
     rw[h4,hN,this,ht,List.getD,U];simp only[Option.getD_some]
     omega
    |none=>
     refine⟨0,?_⟩;have h5:ls.length<=i+1:=List.getElem?_eq_none_iff.1 U;rw[hN,List.drop_of_length_le h5,ht,List.getD,U];simp[val]
   obtain⟨z,hz⟩:=h3;rw[hz,Nat.add_mul_div_left _ _ (cK b),Nat.add_mul_mod_self_left,hq]
  have:=Nat.div_add_mod (val (ls.drop i) / 2^b) 4294967296;rw[e1,e2]at this;omega
 rw[G,bp,bl 4294967296 (wt i),bz];omega
theorem aDE(F:Old S w)(h:dc w S v ls)(hl:ls.length<=1000000000000)(hb:b<32):
  eH PG GT.sN #[v,.int .u64 b] w (eR w fun v' Y=>eQ Y (Nf w Y) v' (val ls / 2^b)):=by
 obtain⟨x,rfl,rfl⟩:=h.la;refine xc bv ?_
 refine⟨x.ls.length,x.ls.length,rfl,rfl,lr,be,be,Nat×List Nat×World,fun z=>⟨[(0,sV x.a x.ls.length x.c),(1,.o (.v (.int .u64 b))),(5,.o (.s 0 0 x.ls.length x.ls.length)),(12,iZ x.ls.length),(13,iZ z.1)],
   [(0,.arr T.uint32 (EQ z.2.1))],1,[],z.2.2⟩,fun z=>x.ls.length-z.1,
  fun z=>z.1<=x.ls.length/\Bq w z.2.2/\z.2.1.length=x.ls.length/\Lm z.2.1/\val (z.2.1.take z.1)+wt z.1*(val (x.ls.drop z.1) / 2^b)=val x.ls / 2^b,?_,?_⟩
 .intro O J r;rw[vU]at r;exact⟨(0,List.replicate x.ls.length 0,J),⟨bv,r.cZ,bv,Lm.replicate _,by simp[val,kA]⟩,sbgn [] r⟩
 .rintro⟨i,out,w1⟩ ⟨D,V,RK,Pv,hv⟩;dsimp only at D V RK Pv hv ⊢;apply bS<;>intro h
  .have h:=dL h;obtain⟨a,QB⟩:=gO x.ls i;obtain⟨ad,PU,Pg⟩:=x.load F V QB;have RD:=x.lm.at QB;obtain⟨d,hd⟩:=gO out i;refine⟨ad,PU,be,.int .u32 a,Pg _ _ _,(a:Int),fK be,((i+1:Nat):Int),wo,?_⟩;apply bS<;>intro G
   .have G:i+1<x.ls.length:=by
     have:((i+1:Nat):Int)<x.ls.length:=aK G;omega
    obtain⟨y,hy⟩:=gO x.ls (i+1);obtain⟨ad2,QR,Rd⟩:=x.load F V hy;have hy32:=x.lm.at hy;have Qh:x.ls.getD (i+1) 0=y:=by simp[List.getD,hy]
    have Vw:a ||| y*2^32=a+4294967296*y:=by
     rw[bl];exact Gl (k:=32) RD
    refine⟨((i+1:Nat):Int),wo,ad2,QR,be,.int .u32 y,Rd _ _ _,(y:Int),fK be,bi,((y*2^32:Nat):Int),Gk (k:=32) bi be,((a+4294967296*y:Nat):Int),by rw[aA5 be be,Vw],be,(((a+4294967296*y) / 2^b:Nat):Int),nO b be,(((a+4294967296*y) / 2^b % 4294967296:Nat):Int),fm _,?_⟩;have Pu:=Fj (t:=a+4294967296*y) RD QB hd be (by rw[Qh]) rfl hv;generalize hq:(a+4294967296*y) / 2^b % 4294967296=q at*
    have hq32:q<4294967296:=by rw[<-hq];exact cN _ bi
    refine⟨be,by rw[iC];omega,EQ (out.set i q),jo out i _ be bv,((i+1:Nat):Int),wo,?_⟩;intro I' w3 R
    exact⟨(i+1,out.set i q,w3),⟨by dsimp only;omega,V.tr R.cZ,by simp[RK],Pv.set hq32,Pu⟩,
     sbgn [] R,by dsimp only;omega⟩
   .have G:¬i+1<x.ls.length:=by
     have:¬((i+1:Nat):Int)<x.ls.length:=aG G;omega
    have Qh:x.ls.getD (i+1) 0=0:=by simp[List.getD,List.getElem?_eq_none (show x.ls.length<=i+1 by omega)]
    refine⟨be,((a / 2^b:Nat):Int),nO b be,((a / 2^b % 4294967296:Nat):Int),fm _,?_⟩;have Pu:=Fj (t:=a) RD QB hd be (by rw[Qh];omega) rfl hv;generalize hq:a / 2^b % 4294967296=q at*
    have hq32:q<4294967296:=by rw[<-hq];exact cN _ bi
    refine⟨be,by rw[iC];omega,EQ (out.set i q),jo out i _ be bv,((i+1:Nat):Int),wo,?_⟩;intro I' w3 R
    exact⟨(i+1,out.set i q,w3),⟨by dsimp only;omega,V.tr R.cZ,by simp[RK],Pv.set hq32,Pu⟩,
     sbgn [] R,by dsimp only;omega⟩
  .have SC:i=x.ls.length:=by
    have:¬i<x.ls.length:=by simpa using h
    omega
   subst SC;have UW:val out=val x.ls / 2^b:=by
    rw[List.drop_length,bH be]at hv;simpa [val]using hv
   refine iM (J9:=fun O _ v Y=>dc Y (fun g=>g=(O 0).g) v (eM out)) (H':=[]) 0 rfl bv trivial rfl (fun O J r=>r.nn 0 _ rfl (by intros;simp) bv) (fun O J r=>?_) ?_
   .have hL:=r.pN (id:=0) rfl Pv be;rw[RK]at hL;exact gC (fun g X=>by rw[X];exact(r.low 0 _ rfl (r.nn 0 _ rfl (by intros;simp) bv)).2) hL
   rintro O J v Y r L hb hL;replace V:=V.tr hb;have PI:=r.low 0 _ rfl (r.nn 0 _ rfl (by intros;simp) bv);generalize (O 0).g=g at*
   have hs:=L.size;intro I' w3 R;refine⟨_,rfl,V.tr R.cZ,eM out,?_,(fX out).2.1,?_⟩
   .refine(hL.cR fun k K=>?_).cP fun k K=>.inr ?_
    .rw[K];exact R.sf.block g be bv
    .rw[K];have:=R.size;omega
   .rw[(fX out).1,UW]
theorem LF{by_ rest x d:Nat}(U:ls[k]? =some x)(hd:out[k]? =some d)(ht:t=rest*4294967296+x)
  (hv:val (ls.drop (k+1))=by_*val (out.drop (k+1))+rest):val (ls.drop k)=by_*val ((out.set k (t / by_)).drop k)+t % by_:=by
 have D:=(aE.1 hd).1;have I:(out.set k (t / by_))[k]? =some (t / by_):=by rw[aT D]
 rw[jv I,List.drop_set_of_lt (show k<k+1 by omega),jv U,hv,bp,bp];have G:=Nat.div_add_mod t by_;rw[Nat.mul_left_comm by_];omega
theorem aA6(h:t<18446744073709551616):IntKind.u64.wrap ((t:Int).tdiv (b:Int))=((t / b:Nat):Int):=by
 have I:=Nat.div_le_self t b;rw[Int.tdiv_eq_ediv_of_nonneg be,<-Int.natCast_ediv];exact fK be
theorem aBP(t b:Nat):(t:Int).tmod (b:Int)=((t % b:Nat):Int):=by
 rw[Int.tmod_eq_emod_of_nonneg be,<-Int.natCast_emod]
theorem aBv(F:Old S w)(h:dc w S v ls)(hl:ls.length<=1000000000000)(hb:0<b)(RW:b<4294967296):
  eH PG GT.qw #[v,.int .u32 b] w (eR w fun v' Y=>∃q,v'= .tuple #[q,.int .u32 ((val ls % b:Nat):Int)]/\eQ Y (Nf w Y) q (val ls / b)):=by
 obtain⟨x,rfl,rfl⟩:=h.la;refine vL bv ?_
 refine⟨x.ls.length,x.ls.length,rfl,rfl,lr,be,be,(x.ls.length:Int)-1,wo,Nat×Nat×List Nat×World,fun z=>⟨[(0,sV x.a x.ls.length x.c),(1,.o (.v (.int .u32 b))),(4,sV none 0 0),(5,.o (.v (.int .u32 0))),(6,.o (.s 0 0 x.ls.length x.ls.length)),(7,.o (.v (.int .u64 z.2.1))),(8,.o (.v (iV ((z.1:Int)-1))))],
   [(0,.arr T.uint32 (EQ z.2.2.1))],1,[],z.2.2.2⟩,fun z=>z.1,
  fun z=>z.1<=x.ls.length/\Bq w z.2.2.2/\z.2.2.1.length=x.ls.length/\Lm z.2.2.1/\z.2.1<b/\val (x.ls.drop z.1)=b*val (z.2.2.1.drop z.1)+z.2.1,?_,?_⟩
 .intro O J r;rw[vU]at r;exact⟨(x.ls.length,0,List.replicate x.ls.length 0,J),⟨bv,r.cZ,bv,Lm.replicate _,by simpa using hb,by simp[val]⟩,sbgn [] r⟩
 .rintro⟨k,rest,out,w1⟩ ⟨D,V,RK,Pv,hr,hv⟩;dsimp only at D V RK Pv hr hv ⊢;apply bS<;>intro h
  .have h:(k:Int)-1≥0:=aK h;obtain⟨k,rfl⟩:∃q,k=q+1:=⟨k-1,be⟩
   rw[show ((k+1:Nat):Int)-1=(k:Int) by omega];obtain⟨a,QB⟩:=gO x.ls k;obtain⟨ad,PU,Pg⟩:=x.load F V QB;have RD:=x.lm.at QB;obtain⟨d,hd⟩:=gO out k;refine⟨bi,((rest*2^32:Nat):Int),Gk (k:=32) bi be,ad,PU,be,.int .u32 a,Pg _ _ _,(a:Int),fK be,?_⟩;have Vw:rest*2^32 ||| a=rest*4294967296+a:=by
    rw[Nat.or_comm,bl,Gl (k:=32) RD];omega
   refine⟨((rest*4294967296+a:Nat):Int),by rw[aA5 be be,Vw],?_⟩;generalize ht:rest*4294967296+a=t;have ht64:t<18446744073709551616:=by omega
   refine dP (idO 14) ?_;refine⟨(b:Int),fK be,be,((t / b:Nat):Int),aA6 ht64,?_⟩;have hq:t / b<4294967296:=by
    rw[Nat.div_lt_iff_lt_mul hb];have:=Nat.mul_le_mul_right 4294967296 hr;rw[Nat.succ_eq_add_one,Nat.add_mul]at this;omega
   have hm:t % b<b:=cN _ hb;have Pu:=LF QB hd ht.symm hv;have hw32:IntKind.u32.wrap ((t / b:Nat):Int)=((t / b:Nat):Int):=by rw[fm,b9 hq]
   have hrem:=aBP t b;generalize t / b=q at*
   generalize t % b=m at*
   refine⟨(q:Int),hw32,(b:Int),fK be,be,(m:Int),hrem,be,by rw[iC];omega,EQ (out.set k q),jo out k _ be bv,(k:Int)-1,wo,?_⟩;intro I' w3 R
   exact⟨(k,m,out.set k q,w3),⟨by dsimp only;omega,V.tr R.cZ,by simp[RK],Pv.set hq,hm,Pu⟩,
    sbgn [] R,by dsimp only;omega⟩
  .have Sc:k=0:=by
    have:¬(k:Int)-1≥0:=aG h;omega
   subst Sc;rw[List.drop_zero,List.drop_zero]at hv;have YE:val x.ls / b=val out/\val x.ls % b=rest:=by
    rw[hv];exact⟨by rw[Nat.mul_add_div hb,Nat.div_eq_of_lt hr,cI],by rw[Nat.mul_add_mod,b9 hr]⟩
   rw[YE.1,YE.2];refine iM (J9:=fun O _ v Y=>dc Y (fun g=>g=(O 0).g) v (eM out)) (H':=[]) 0 rfl bv trivial rfl (fun O J r=>r.nn 0 _ rfl (by intros;simp) bv) (fun O J r=>?_) ?_
   .have hL:=r.pN (id:=0) rfl Pv be;rw[RK]at hL;exact gC (fun g X=>by rw[X];exact(r.low 0 _ rfl (r.nn 0 _ rfl (by intros;simp) bv)).2) hL
   rintro O J v Y r L hb hL;replace V:=V.tr hb;have PI:=r.low 0 _ rfl (r.nn 0 _ rfl (by intros;simp) bv);generalize (O 0).g=g at*
   have hs:=L.size;refine⟨(rest:Int),by rw[fm,b9 be],?_⟩;intro I' w3 R;refine⟨_,rfl,V.tr R.cZ,v,rfl,eM out,?_,(fX out).2.1,(fX out).1⟩;refine(hL.cR fun k K=>?_).cP fun k K=>.inr ?_
   .rw[K];exact R.sf.block g be bv
   .rw[K];have:=R.size;omega
end Go.Ex
