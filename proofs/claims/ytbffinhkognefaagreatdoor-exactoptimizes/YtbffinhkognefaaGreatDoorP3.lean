/- Texts L1 to X9: lemmas, each with its conditions. -/
import Derived.KernelRfl
import Derived.Test.YtbffinhkognefaaGreatDoorProg
import Derived.Test.YtbffinhkognefaaGreatDoorP2
namespace Go.Ex
variable{a b ls:List Nat}{k:Nat}
def val:List Nat->Nat
 |[]=>0
 |x::r=>x+4294967296*val r
def Lm(ls:List Nat):Prop:=∀x∈ls,x<4294967296
def wt(k:Nat):Nat:=4294967296^k
theorem kD:wt 0=1:=rfl
theorem jb(k:Nat):wt (k+1)=4294967296*wt k:=by rw[wt,Nat.pow_succ,bc];rfl
theorem EH(a b:Nat):wt (a+b)=wt a*wt b:=by rw[wt,Nat.pow_add];rfl
theorem AG(k:Nat):0<wt k:=Nat.pow_pos bv
theorem lJ(a b:List Nat):val (a++b)=val a+wt a.length*val b:=by
 induction a with
 |nil=>simp[val,kD]
 |cons x r ih=>
  rw[List.cons_append,val,val,ih,bm,jb,bZ,bu];omega
theorem qI(h:Lm ls):val ls<wt ls.length:=by
 induction ls with
 |nil=>exact Nat.one_pos
 |cons x r ih=>
  have Y:=h x ce;have I:=ih (fun y hy=>h y (by simp[hy]));rw[val,bm,jb];have:4294967296*(val r+1)<=4294967296*wt r.length:=bC _ I;omega
theorem fH(ls:List Nat)(k:Nat)(h:k<=ls.length):val ls=val (ls.take k)+wt k*val (ls.drop k):=by
 have:=lJ (ls.take k) (ls.drop k);rw[List.take_append_drop,bN,Nat.min_eq_left h]at this;exact this
theorem eK{x:Nat}(h:ls[k]? =some x):val (ls.take (k+1))=val (ls.take k)+wt k*x:=by
 have R:=(aH.1 h).1;rw[bM,h,lJ,bN,Nat.min_eq_left be];simp[val]
theorem jq{x:Nat}(h:ls[k]? =some x):val (ls.drop k)=x+4294967296*val (ls.drop (k+1)):=by
 obtain⟨R,E⟩:=aH.1 h;rw[List.drop_eq_getElem_cons R,E,val]
theorem zY{o x:Nat}(h:ls[k]? =some o):val (ls.set k x)+wt k*o=val ls+wt k*x:=by
 obtain⟨R,ho⟩:=aH.1 h;have Y:=fH ls k be;have I:=fH (ls.set k x) k (by simp;omega);rw[List.take_set_of_le (aq _)]at I;rw[jq h,bZ]at Y;have h3:(ls.set k x)[k]? =some x:=by rw[aQ R]
 rw[jq h3,List.drop_set_of_lt be,bZ]at I;omega
theorem lS(n:Nat):val (List.replicate n 0)=0:=by
 induction n with
 |zero=>rfl
 |succ n ih=>rw[List.replicate_succ,val,ih]
theorem Lm.set{x:Nat}(h:Lm ls)(E:x<4294967296):Lm (ls.set k x):=fun y hy=>by
 rcases bQ hy with Y|rfl
 .exact h y Y
 .exact E
theorem Lm.replicate(n:Nat):Lm (List.replicate n 0):=fun x E=>by rw[List.mem_replicate]at E;omega
theorem Lm.take(h:Lm ls)(k:Nat):Lm (ls.take k):=fun x E=>h x (List.mem_of_mem_take E)
theorem Lm.drop(h:Lm ls)(k:Nat):Lm (ls.drop k):=fun x E=>h x (List.mem_of_mem_drop E)
theorem Lm.append(ha:Lm a)(A:Lm b):Lm (a++b):=fun x E=>by
 rcases bB.1 E with h|h
 .exact ha x h
 .exact A x h
theorem Lm.at(h:Lm ls){x:Nat}(E:ls[k]? =some x):x<4294967296:=h x (aG E)
def eO:List Nat->List Nat
 |[]=>[]
 |x::r=>match eO r with
  |[]=>if x=0 then []else [x]
  |y::t=>x::y::t
def Nz(ls:List Nat):Prop:=∀x,ls.getLast? =some x->x≠0
theorem mP(ls:List Nat):eO (ls++[0])=eO ls:=by
 induction ls with
 |nil=>rfl
 |cons x r ih=>rw[List.cons_append,eO,ih,eO]
theorem qJ(ls:List Nat){x:Nat}(E:x≠0):eO (ls++[x])=ls++[x]:=by
 induction ls with
 |nil=>simp[eO,E]
 |cons y r ih=>
  rw[List.cons_append,eO,ih]
  cases r<;>rfl
theorem ub(ls:List Nat):ls=[]\/∃a x,ls=a++[x]:=by
 rcases List.eq_nil_or_concat ls with h|⟨a,x,h⟩
 .exact .inl h
 .exact .inr ⟨a,x,by simpa using h⟩
theorem fL(ls:List Nat):val (eO ls)=val ls/\Nz (eO ls)/\∃k,k<=ls.length/\eO ls=ls.take k:=by
 have key:∀(n:Nat) (ls:List Nat),ls.length=n->val (eO ls)=val ls/\Nz (eO ls)/\∃k,k<=ls.length/\eO ls=ls.take k:=by
  intro n
  induction n with
  |zero=>intro ls h;have:ls=[]:=List.eq_nil_of_length_eq_zero h;subst this;exact⟨rfl,by simp[Nz,eO],0,aq _,rfl⟩
  |succ n ih=>
   intro ls h;rcases ub ls with rfl|⟨a,x,rfl⟩
   .simp at h
   .by_cases E:x=0
    .subst E;rw[mP];obtain⟨Y,I,k,h3,h4⟩:=ih a (by simp at h;omega);refine⟨by rw[Y,lJ];simp[val],I,k,by simp;omega,?_⟩;rw[h4,List.take_append_of_le_length h3]
    .rw[qJ a E];refine⟨rfl,?_,_,aq _,by rw[bK]⟩;intro y hy;simp at hy;subst hy;exact E
 exact key _ ls rfl
theorem Fq(h:Nz ls):eO ls=ls:=by
 rcases ub ls with rfl|⟨a,x,rfl⟩
 .rfl
 .exact qJ a (h x ce)
theorem uD(h:Nz ls)(Po:ls≠[]):wt (ls.length-1)<=val ls:=by
 rcases ub ls with rfl|⟨a,x,rfl⟩
 .exact absurd rfl Po
 .have E:=h x ce;rw[lJ];simp only[val,aV,List.length_singleton,Nat.add_sub_cancel]
  have:wt a.length*1<=wt a.length*(x+4294967296*0):=bC _ be;omega
theorem val_inj:∀{a b:List Nat},Lm a->Lm b->a.length=b.length->val a=val b->a=b
 |[],[],_,_,_,_=>rfl
 |x::r,y::s,ha,A,hl,h=>by
  have Y:=ha x ce;have I:=A y ce;rw[val,val]at h;have h3:x=y:=by omega
  have h4:val r=val s:=by omega
  rw[h3,val_inj (fun z hz=>ha z (by simp[hz])) (fun z hz=>A z (by simp[hz])) (by simpa using hl) h4]
 |[],_::_,_,_,h,_=>by simp at h
 |_::_,[],_,_,h,_=>by simp at h
theorem Fs{a b:Nat}(h:a<=b):wt a<=wt b:=Nat.pow_le_pow_right bv h
theorem jc(ha:Lm a)(A:Nz b)(h:a.length<b.length):val a<val b:=by
 have Y:=qI ha;have I:=uD A (by intro e;rw[e]at h;simp at h);have:=Fs (show a.length<=b.length-1 by omega);omega
def ln(n:Nat):Nat:=if n=0 then 0 else n.log2 / 32+1
theorem rk(k:Nat):wt k=2^(32*k):=by rw[wt,show(4294967296:Nat)=2^32 from rfl,<-Nat.pow_mul]
theorem iH{n k:Nat}:ln n<=k↔n<wt k:=by
 unfold ln;by_cases h:n=0
 .rw[aM h,h];exact⟨fun _=>AG k,fun _=>ae _⟩
 .rw[aI h,rk];constructor
  .intro Y;have:n.log2<32*k:=by omega
   exact(Nat.log2_lt h).1 this
  .intro Y;have:=(Nat.log2_lt h).2 Y;omega
theorem lk(n:Nat):n<wt (ln n):=iH.1 (aq _)
theorem fP{a b:Nat}(h:a<=b):ln a<=ln b:=iH.2 (Nat.lt_of_le_of_lt h (lk b))
theorem He(a b:Nat):ln (a+b)<=max (ln a) (ln b)+1:=by
 rw[iH,jb];have Y:=Nat.lt_of_lt_of_le (lk a) (Fs (Nat.le_max_left (ln a) (ln b)));have I:=Nat.lt_of_lt_of_le (lk b) (Fs (Nat.le_max_right (ln a) (ln b)));omega
theorem PW(a b:Nat):ln (a*b)<=ln a+ln b:=by
 rw[iH,EH];exact Nat.mul_lt_mul'' (lk a) (lk b)
theorem PX(a b:Nat):ln (a / b)<=ln a:=fP (Nat.div_le_self a b)
theorem Nm:ln 0=0:=rfl
theorem eJ(h:Lm ls)(hz:Nz ls):ls.length=ln (val ls):=by
 by_cases Po:ls=[]
 .subst Po;rfl
 .have Y:=qI h;have I:=uD hz Po;have h3:=iH.2 Y;have h4:¬ln (val ls)<=ls.length-1:=fun hh=>by have:=iH.1 hh;omega
  omega
end Go.Ex
namespace Go.Ex
open Go Go.Sx
variable{f:(Nat->Sx.eH)->Value}{ls:List Nat}{g:Nat}{p:Nat×Nat}{v:Value}{P:Value->World->Prop}{w1:World}
def Cv(S:Nat->Prop)(B:Nat)(iv:Iv)(g:Nat):Prop:=S g\/(B<=g/\∃lo N,(lo,N)∈iv/\lo<=g/\g<N)
def Nw(S:Nat->Prop)(w F:World)(g:Nat):Prop:=S g\/(w.heap.size<=g/\g<F.heap.size)
def Old(S:Nat->Prop)(w:World):Prop:=∀g,S g->g<w.heap.size
section
variable{S S':Nat->Prop}{H:Hp}{nx:Nat}{iv K:Iv}{B:Nat}{w J F:World}{O:Nat->eH}
theorem Cv.mono(h:Cv S B iv g)(k:∀p,p∈iv->p∈K):Cv S B K g:=by
 rcases h with h|⟨h0,lo,N,Y,I⟩
 .exact .inl h
 .exact .inr ⟨h0,lo,N,k _ Y,I⟩
theorem Cv.cons(h:Cv S B iv g):Cv S B (p::iv) g:=h.mono fun q hq=>by simp[hq]
theorem rlo(r:Rel H nx iv B w O J)(W:∀g,S g->g<B):Old (Cv S B iv) J:=by
 intro g h;rcases h with h|⟨_,lo,N,Y,_,h3⟩
 .have:=W g h;have:=r.base;have:=r.size;omega
 .have:=r.oc lo N Y;have:=r.size;omega
theorem rls(r:Rel H nx iv B w O J)(W:∀g,S g->g<B)(h:Cv S B iv g):J.heap[g]? =w.heap[g]? :=by
 rcases h with h|⟨_,lo,N,Y,I,h3⟩
 .have:=W g h;exact r.Dz g (by have:=r.base;omega) fun id b A U L=>by have:=(r.low id b A U).1;omega
 .exact r.Dz g (by have:=r.oc lo N Y;omega) fun id b A U L=>r.jU lo N Y id b A U ⟨be,be⟩
theorem Rel.not(r:Rel H nx iv B w O J)(W:∀g,S g->g<B)(h:Cv S B iv g):∀id b,dV H id=some b->(O id).nil=false->(O id).g≠g:=by
 rcases h with h|⟨_,lo,N,Y,I,h3⟩
 .have:=W g h;exact fun id b A U L=>by have:=(r.low id b A U).1;omega
 .exact fun id b A U L=>r.jU lo N Y id b A U ⟨be,be⟩
theorem Nw.cv(h:Nw (Cv S B iv) J w1 g)(hB:B<=J.heap.size):Cv S B ((J.heap.size,w1.heap.size)::iv) g:=by
 rcases h with h|h
 .exact h.cons
 .exact .inr ⟨be,_,_,aF,h.1,h.2⟩
theorem Cv.nw{w0:World}(h:Cv S w0.heap.size iv g)(r:Rel H nx iv w0.heap.size w O J):Nw S w0 J g:=by
 rcases h with h|⟨h0,lo,N,Y,_,h3⟩
 .exact .inl h
 .exact .inr ⟨h0,by have:=r.oc lo N Y;have:=r.size;omega⟩
structure dZ(w:World)(S:Nat->Prop)(v:Value)(ls:List Nat):Prop where
 lm:Lm ls
 le:ls.length<=9223372036854775807
 sl:∃a c,v= .slice a ls.length c/\ls.length<=c/\∀(j:Nat) x,ls[j]? =some x->∃ad,a=some ad/\S ad.block/\w.cell? (ad.add j)=some (.int .u32 x)
theorem df(ad:Addr)(j:Nat):(ad.add j).block=ad.block:=by
 unfold Addr.add;split<;>rfl
theorem dZ.cX(h:dZ w S v ls)(R:∀g,S g->F.heap[g]? =w.heap[g]?):dZ F S v ls:=by
 obtain⟨a,c,Y,Zn,I⟩:=h.sl;refine⟨h.lm,h.le,a,c,Y,Zn,fun j x E=>?_⟩;obtain⟨ad,h3,h4,h5⟩:=I j x E;exact⟨ad,h3,h4,by rw[cd (R _ (by rw[df];exact h4))];exact h5⟩
theorem dZ.cV(h:dZ w S v ls)(R:∀g,S g->S' g):dZ w S' v ls:=by
 obtain⟨a,c,Y,Zn,I⟩:=h.sl;refine⟨h.lm,h.le,a,c,Y,Zn,fun j x E=>?_⟩;obtain⟨ad,h3,h4,h5⟩:=I j x E;exact⟨ad,h3,R _ h4,h5⟩
theorem dZ.rel(h:dZ w (Cv S B iv) v ls)(r:Rel H nx iv B w O J)(W:∀g,S g->g<B):dZ J (Cv S B iv) v ls:=h.cX fun _g V=>rls r W V
theorem dZ.nil(w:World)(S:Nat->Prop):dZ w S (.slice none 0 0) []:=⟨by simp[Lm],ce,none,0,rfl,aq _,ce⟩
def dm(w:World)(S:Nat->Prop)(v:Value)(n:Nat):Prop:=∃ls,dZ w S v ls/\Nz ls/\val ls=n
theorem dm.cX{n:Nat}(h:dm w S v n)(R:∀g,S g->F.heap[g]? =w.heap[g]?):dm F S v n:=by
 obtain⟨ls,Y,I,h3⟩:=h;exact⟨ls,Y.cX R,I,h3⟩
theorem dm.cV{n:Nat}(h:dm w S v n)(R:∀g,S g->S' g):dm w S' v n:=by
 obtain⟨ls,Y,I,h3⟩:=h;exact⟨ls,Y.cV R,I,h3⟩
theorem dm.nil(w:World)(S:Nat->Prop):dm w S (.slice none 0 0) 0:=⟨[],dZ.nil w S,by simp[Nz],rfl⟩
end
abbrev iZ(z:Int):SV:=.o (.v (.int .i64 z))
abbrev iN(n:Nat):SV:=.o (.v (.int .i64 (n:Int)))
abbrev sV(a:Option Addr)(n c:Nat):SV:=.o (.v (.slice a n c))
abbrev pP(i j:Nat):SV:=.o (.p i j)
theorem rtn{H:Hp}{nx:Nat}{iv:Iv}{w:World}(G:Bel w.heap.size w w1)(h:∀O J,Rel H nx iv w.heap.size w1 O J->P (f O) J):∀O J,Rel H nx iv w.heap.size w1 O J->eY w P (.returned (f O)) J:=fun O J r=>⟨_,rfl,G.tr r.cj,h O J r⟩
abbrev FF:Nat->Prop:=fun _=>False
theorem bR(w:World):Bel w.heap.size w w:=Bel.refl
abbrev Nf(w F:World):Nat->Prop:=Nw (fun _=>False) w F
abbrev Cf(w:World):Iv->Nat->Prop:=Cv (fun _=>False) w.heap.size
section
variable{S:Nat->Prop}{H:Hp}{nx:Nat}{iv:Iv}{B i n:Nat}{w w1 J:World}{O:Nat->Sx.eH}{ad:Addr}{cs:List Value}{x:Value}
theorem kS(G:Bel B w w1)(r:Rel H nx iv B w1 O J)(W:∀g,S g->g<B):∀g,S g->J.heap[g]? =w.heap[g]? :=fun g V=>(G.tr r.cj).block g (W g V)
theorem oS(W:∀g,S g->g<B)(r:Rel H nx iv B w O J):∀g,S g->g<J.heap.size:=fun g V=>by have:=W g V;have:=r.base;have:=r.size;omega
theorem rdO(hl:∀(j:Nat) u,cs[j]? =some u->S ad.block/\w.cell? ((ad.add (i*n)).add j)=some u)(G:Bel B w w1)(W:∀g,S g->g<B):∀O J,Rel H nx iv B w1 O J->∀(j:Nat) u,cs[j]? =some u->J.cell? ((ad.add ((i:Int).toNat*n)).add j)=some u:=fun O J r j u hu=>by
 obtain⟨k1,k2⟩:=hl j u hu;rw[aK,cd (w:=w) (F:=J) (by rw[df,df];exact(G.tr r.cj).block _ (W _ k1))];exact k2
theorem rd1(hl:w.cell? (ad.add (i*n))=some x)(G:Bel B w w1)(A:ad.block<B):∀O J,Rel H nx iv B w1 O J->J.cell? (ad.add ((i:Int).toNat*n))=some x:=fun O J r=>by
 rw[aK,cd (w:=w) (F:=J) (by rw[df];exact(G.tr r.cj).block _ A)];exact hl
end
def xsF:Nat->Nat->List It
 |0,_=>[]
 |n+1,k=>.x k::xsF n (k+1)
abbrev idO(n:Nat):List It:=xsF n 0
abbrev Bq(w x:World):Prop:=Bel w.heap.size w x
abbrev nls:Value:=.slice none 0 0
abbrev iV(z:Int):Value:=.int .i64 z
abbrev rC(a:Bool)(b:Option Addr)(c d:Nat)(e:Bool)(f:Option Addr)(g h:Nat):List Value:=[.bool a,.slice b c d,.bool e,.slice f g h]
abbrev pR{α:Type}(P:World->(Nat->Prop)->Value->α->Prop)(q:α):(Nat->Sx.eH)->World->Value->World->Prop:=fun _ J v F=>P F (Nf J F) v q
abbrev pE(x:Value):(Nat->Sx.eH)->World->Value->World->Prop:=fun _ _ v _=>v=x
end Go.Ex
namespace Go.Ex
open Go Go.Sx Go.Proofs
variable{ops:Array Oper}{args:Array Value}{F9:Ending->World->Prop}{H:Hp}{iv:Iv}{ls:List Nat}{k nx:Nat}{S:Nat->Prop}{O:Nat->Sx.eH}{v:Value}{w:World}
noncomputable abbrev PG:Program:=Tryz.prog
def slT(e:Nat):TI:={size:=1,bytes:=24,zero:=[.slice none 0 0],agg:=false,tag:=4,elem:=e}
def aAo:List (Nat×TI):=[
 (3,{size:=1,bytes:=8,zero:=[.int .i64 0],agg:=false,tag:=1,ik:=.i64}),
 (4,{size:=1,bytes:=1,zero:=[.bool false],agg:=false,tag:=2}),
 (23,slT 35),
 (78,slT 118),
 (71,slT 82),
 (33,{size:=2,bytes:=32,zero:=[.bool false,.slice none 0 0],agg:=true,tag:=5,fields:=[(0,4),(1,31)]}),
 (35,{size:=4,bytes:=64,zero:=[.bool false,.slice none 0 0,.bool false,.slice none 0 0],agg:=true,tag:=5,fields:=[(0,33),(2,33)]}),
 (82,{size:=4,bytes:=64,zero:=[.bool false,.slice none 0 0,.bool false,.slice none 0 0],agg:=true,tag:=5,fields:=[(0,80),(2,80)]}),
 (76,slT 3),
 (22,slT 23),
 (118,{size:=1,bytes:=4,zero:=[.int .u32 0],agg:=false,tag:=1,ik:=.u32}),
 (9,{size:=1,bytes:=16,zero:=[.string ⟨#[]⟩],agg:=false,tag:=3}),
 (80,{size:=2,bytes:=32,zero:=[.bool false,.slice none 0 0],agg:=true,tag:=5,fields:=[(0,4),(1,78)]}),
 (25,{size:=3,bytes:=72,zero:=[.slice none 0 0,.slice none 0 0,.slice none 0 0],agg:=true,tag:=5,fields:=[(0,22),(1,23),(2,23)]}),
 (77,slT 71),
 (5,{size:=1,bytes:=1,zero:=[.int .u8 0],agg:=false,tag:=1,ik:=.u8}),
 (147,{size:=1,bytes:=8,zero:=[.int .u64 0],agg:=false,tag:=1,ik:=.u64}),
 (21,{size:=1,bytes:=4,zero:=[.int .i32 0],agg:=false,tag:=1,ik:=.i32}),
 (68,{size:=1,bytes:=8,zero:=[.pointer none],agg:=false,tag:=7}),
 (38,{size:=1,bytes:=8,zero:=[.int .i64 0],agg:=false,tag:=1,ik:=.i64}),
 (84,{size:=9,bytes:=184,zero:=[.slice none 0 0,.slice none 0 0,.slice none 0 0,.slice none 0 0,.slice none 0 0,.bool false,.slice none 0 0,.bool false,.slice none 0 0],agg:=true,tag:=5,fields:=[(0,76),(1,76),(2,77),(3,71),(4,71),(5,82)]}),
 (37,{size:=8,bytes:=144,zero:=[.int .i64 0,.slice none 0 0,.slice none 0 0,.slice none 0 0,.bool false,.slice none 0 0,.bool false,.slice none 0 0],agg:=true,tag:=5,fields:=[(0,3),(1,23),(2,23),(3,23),(4,35)]}),
 (31,slT 118),
 (100,{size:=10,bytes:=208,zero:=[.slice none 0 0,.slice none 0 0,.slice none 0 0,.slice none 0 0,.slice none 0 0,.slice none 0 0,.bool false,.slice none 0 0,.bool false,.slice none 0 0],agg:=true,tag:=5,fields:=[(0,77),(1,71),(2,71),(3,71),(4,71),(5,71),(6,82)]}),
 (184,slT 5),
 (200,{size:=1,bytes:=8,zero:=[.pointer none],agg:=false,tag:=7}),
 (148,{size:=1,bytes:=8,zero:=[.int .u64 0],agg:=false,tag:=1,ik:=.u64}),
 (137,slT 76),
 (182,slT 9),
 (59,{size:=4,bytes:=80,zero:=[.int .i64 0,.slice none 0 0,.slice none 0 0,.slice none 0 0],agg:=true,tag:=5,fields:=[(0,3),(1,23),(2,22),(3,23)]}),
 (115,{size:=3,bytes:=72,zero:=[.slice none 0 0,.slice none 0 0,.slice none 0 0],agg:=true,tag:=5,fields:=[(0,71),(1,71),(2,77)]}),
 (218,{size:=2,bytes:=2,zero:=[.int .u8 0,.int .u8 0],agg:=true,tag:=5,fields:=[(0,5),(1,5)]}),
 (195,{size:=256,bytes:=256,zero:=[.bool false,.bool false,.bool false,.bool false,.bool false,.bool false,.bool false,.bool false,.bool false,.bool false,.bool false,.bool false,.bool false,.bool false,.bool false,.bool false,.bool false,.bool false,.bool false,.bool false,.bool false,.bool false,.bool false,.bool false,.bool false,.bool false,.bool false,.bool false,.bool false,.bool false,.bool false,.bool false,.bool false,.bool false,.bool false,.bool false,.bool false,.bool false,.bool false,.bool false,.bool false,.bool false,.bool false,.bool false,.bool false,.bool false,.bool false,.bool false,.bool false,.bool false,.bool false,.bool false,.bool false,.bool false,.bool false,.bool false,.bool false,.bool false,.bool false,.bool false,.bool false,.bool false,.bool false,.bool false,.bool false,.bool false,.bool false,.bool false,.bool false,.bool false,.bool false,.bool false,.bool false,.bool false,.bool false,.bool false,.bool false,.bool false,.bool false,.bool false,.bool false,.bool false,.bool false,.bool false,.bool false,.bool false,.bool false,.bool false,.bool false,.bool false,.bool false,.bool false,.bool false,.bool false,.bool false,.bool false,.bool false,.bool false,.bool false,.bool false,.bool false,.bool false,.bool false,.bool false,.bool false,.bool false,.bool false,.bool false,.bool false,.bool false,.bool false,.bool false,.bool false,.bool false,.bool false,.bool false,.bool false,.bool false,.bool false,.bool false,.bool false,.bool false,.bool false,.bool false,.bool false,.bool false,.bool false,.bool false,.bool false,.bool false,.bool false,.bool false,.bool false,.bool false,.bool false,.bool false,.bool false,.bool false,.bool false,.bool false,.bool false,.bool false,.bool false,.bool false,.bool false,.bool false,.bool false,.bool false,.bool false,.bool false,.bool false,.bool false,.bool false,.bool false,.bool false,.bool false,.bool false,.bool false,.bool false,.bool false,.bool false,.bool false,.bool false,.bool false,.bool false,.bool false,.bool false,.bool false,.bool false,.bool false,.bool false,.bool false,.bool false,.bool false,.bool false,.bool false,.bool false,.bool false,.bool false,.bool false,.bool false,.bool false,.bool false,.bool false,.bool false,.bool false,.bool false,.bool false,.bool false,.bool false,.bool false,.bool false,.bool false,.bool false,.bool false,.bool false,.bool false,.bool false,.bool false,.bool false,.bool false,.bool false,.bool false,.bool false,.bool false,.bool false,.bool false,.bool false,.bool false,.bool false,.bool false,.bool false,.bool false,.bool false,.bool false,.bool false,.bool false,.bool false,.bool false,.bool false,.bool false,.bool false,.bool false,.bool false,.bool false,.bool false,.bool false,.bool false,.bool false,.bool false,.bool false,.bool false,.bool false,.bool false,.bool false,.bool false,.bool false,.bool false,.bool false,.bool false,.bool false,.bool false,.bool false,.bool false,.bool false,.bool false,.bool false,.bool false,.bool false,.bool false,.bool false,.bool false,.bool false,.bool false,.bool false,.bool false],agg:=true,tag:=6,CO:=256,elem:=4}),
 (202,{size:=2,bytes:=32,zero:=[.pointer none,.slice none 0 0],agg:=true,tag:=5,fields:=[(0,200),(1,184)]}),
 (191,slT 78),
 (199,{size:=1,bytes:=8,zero:=[.pointer none],agg:=false,tag:=7}),
 (219,{size:=32,bytes:=32,zero:=[.int .u8 0,.int .u8 0,.int .u8 0,.int .u8 0,.int .u8 0,.int .u8 0,.int .u8 0,.int .u8 0,.int .u8 0,.int .u8 0,.int .u8 0,.int .u8 0,.int .u8 0,.int .u8 0,.int .u8 0,.int .u8 0,.int .u8 0,.int .u8 0,.int .u8 0,.int .u8 0,.int .u8 0,.int .u8 0,.int .u8 0,.int .u8 0,.int .u8 0,.int .u8 0,.int .u8 0,.int .u8 0,.int .u8 0,.int .u8 0,.int .u8 0,.int .u8 0],agg:=true,tag:=6,CO:=16,elem:=218}),
 (183,{size:=9,bytes:=9,zero:=[.int .u8 0,.int .u8 0,.int .u8 0,.int .u8 0,.int .u8 0,.int .u8 0,.int .u8 0,.int .u8 0,.int .u8 0],agg:=true,tag:=6,CO:=9,elem:=5}),
 (165,{size:=1,bytes:=8,zero:=[.nilFunc],agg:=false,tag:=0}),
 (211,{size:=1,bytes:=8,zero:=[.pointer none],agg:=false,tag:=7}),
 (8,{size:=4,bytes:=24,zero:=[.int .i64 0,.int .i64 0,.bool false,.int .u8 0],agg:=true,tag:=5,fields:=[(0,2),(1,3),(2,4),(3,6)]}),
 (10,{size:=1,bytes:=16,zero:=[.string ⟨#[]⟩],agg:=false,tag:=3}),
 (11,{size:=1,bytes:=16,zero:=[.string ⟨#[]⟩],agg:=false,tag:=3}),
 (14,{size:=2,bytes:=24,zero:=[.string ⟨#[]⟩,.int .u64 0],agg:=true,tag:=5,fields:=[(0,9),(1,12)]}),
 (15,{size:=1,bytes:=8,zero:=[.pointer none],agg:=false,tag:=7}),
 (16,{size:=1,bytes:=8,zero:=[.pointer none],agg:=false,tag:=7}),
 (19,{size:=1,bytes:=8,zero:=[.pointer none],agg:=true,tag:=5,fields:=[(0,17)]}),
 (216,{size:=256,bytes:=256,zero:=[.int .u8 0,.int .u8 0,.int .u8 0,.int .u8 0,.int .u8 0,.int .u8 0,.int .u8 0,.int .u8 0,.int .u8 0,.int .u8 0,.int .u8 0,.int .u8 0,.int .u8 0,.int .u8 0,.int .u8 0,.int .u8 0,.int .u8 0,.int .u8 0,.int .u8 0,.int .u8 0,.int .u8 0,.int .u8 0,.int .u8 0,.int .u8 0,.int .u8 0,.int .u8 0,.int .u8 0,.int .u8 0,.int .u8 0,.int .u8 0,.int .u8 0,.int .u8 0,.int .u8 0,.int .u8 0,.int .u8 0,.int .u8 0,.int .u8 0,.int .u8 0,.int .u8 0,.int .u8 0,.int .u8 0,.int .u8 0,.int .u8 0,.int .u8 0,.int .u8 0,.int .u8 0,.int .u8 0,.int .u8 0,.int .u8 0,.int .u8 0,.int .u8 0,.int .u8 0,.int .u8 0,.int .u8 0,.int .u8 0,.int .u8 0,.int .u8 0,.int .u8 0,.int .u8 0,.int .u8 0,.int .u8 0,.int .u8 0,.int .u8 0,.int .u8 0,.int .u8 0,.int .u8 0,.int .u8 0,.int .u8 0,.int .u8 0,.int .u8 0,.int .u8 0,.int .u8 0,.int .u8 0,.int .u8 0,.int .u8 0,.int .u8 0,.int .u8 0,.int .u8 0,.int .u8 0,.int .u8 0,.int .u8 0,.int .u8 0,.int .u8 0,.int .u8 0,.int .u8 0,.int .u8 0,.int .u8 0,.int .u8 0,.int .u8 0,.int .u8 0,.int .u8 0,.int .u8 0,.int .u8 0,.int .u8 0,.int .u8 0,.int .u8 0,.int .u8 0,.int .u8 0,.int .u8 0,.int .u8 0,.int .u8 0,.int .u8 0,.int .u8 0,.int .u8 0,.int .u8 0,.int .u8 0,.int .u8 0,.int .u8 0,.int .u8 0,.int .u8 0,.int .u8 0,.int .u8 0,.int .u8 0,.int .u8 0,.int .u8 0,.int .u8 0,.int .u8 0,.int .u8 0,.int .u8 0,.int .u8 0,.int .u8 0,.int .u8 0,.int .u8 0,.int .u8 0,.int .u8 0,.int .u8 0,.int .u8 0,.int .u8 0,.int .u8 0,.int .u8 0,.int .u8 0,.int .u8 0,.int .u8 0,.int .u8 0,.int .u8 0,.int .u8 0,.int .u8 0,.int .u8 0,.int .u8 0,.int .u8 0,.int .u8 0,.int .u8 0,.int .u8 0,.int .u8 0,.int .u8 0,.int .u8 0,.int .u8 0,.int .u8 0,.int .u8 0,.int .u8 0,.int .u8 0,.int .u8 0,.int .u8 0,.int .u8 0,.int .u8 0,.int .u8 0,.int .u8 0,.int .u8 0,.int .u8 0,.int .u8 0,.int .u8 0,.int .u8 0,.int .u8 0,.int .u8 0,.int .u8 0,.int .u8 0,.int .u8 0,.int .u8 0,.int .u8 0,.int .u8 0,.int .u8 0,.int .u8 0,.int .u8 0,.int .u8 0,.int .u8 0,.int .u8 0,.int .u8 0,.int .u8 0,.int .u8 0,.int .u8 0,.int .u8 0,.int .u8 0,.int .u8 0,.int .u8 0,.int .u8 0,.int .u8 0,.int .u8 0,.int .u8 0,.int .u8 0,.int .u8 0,.int .u8 0,.int .u8 0,.int .u8 0,.int .u8 0,.int .u8 0,.int .u8 0,.int .u8 0,.int .u8 0,.int .u8 0,.int .u8 0,.int .u8 0,.int .u8 0,.int .u8 0,.int .u8 0,.int .u8 0,.int .u8 0,.int .u8 0,.int .u8 0,.int .u8 0,.int .u8 0,.int .u8 0,.int .u8 0,.int .u8 0,.int .u8 0,.int .u8 0,.int .u8 0,.int .u8 0,.int .u8 0,.int .u8 0,.int .u8 0,.int .u8 0,.int .u8 0,.int .u8 0,.int .u8 0,.int .u8 0,.int .u8 0,.int .u8 0,.int .u8 0,.int .u8 0,.int .u8 0,.int .u8 0,.int .u8 0,.int .u8 0,.int .u8 0,.int .u8 0,.int .u8 0,.int .u8 0,.int .u8 0,.int .u8 0,.int .u8 0,.int .u8 0,.int .u8 0,.int .u8 0,.int .u8 0,.int .u8 0,.int .u8 0,.int .u8 0,.int .u8 0,.int .u8 0,.int .u8 0,.int .u8 0,.int .u8 0,.int .u8 0,.int .u8 0,.int .u8 0,.int .u8 0],agg:=true,tag:=6,CO:=256,elem:=5}),
 (17,{size:=1,bytes:=8,zero:=[.pointer none],agg:=false,tag:=7}),
 (229,{size:=1,bytes:=1,zero:=[.int .u8 0],agg:=false,tag:=1,ik:=.u8}),
 (2,{size:=1,bytes:=8,zero:=[.int .i64 0],agg:=false,tag:=1,ik:=.i64}),
 (6,{size:=1,bytes:=1,zero:=[.int .u8 0],agg:=false,tag:=1,ik:=.u8}),
 (12,{size:=1,bytes:=8,zero:=[.int .u64 0],agg:=false,tag:=1,ik:=.u64})]
def τ:mo:=zR aAo
theorem hτ:fG PG τ:=PR (l:=aAo) d9
theorem uw:PG.follows .mixedOrders=true:=by rfl
noncomputable def bd (f:Func):Code:=match f.body with
 |some c=>c
 |none=>.skip
theorem dW{f:FuncId}{fn:Func}(hf:PG.funcs[f]? =some fn)(A:fn.body=some (bd fn))(Xo:(fn.name== "runtime.NumGoroutine")=false)
  (U:args.size<=fn.ntmps) (Py:codeOk fn.ntmps (bd fn)=true) (h:kE PG τ w.heap.size (bd fn) (fu 0 args.toList) [] 0 [] w (PV τ w.heap.size fn.results.toList F9)):eL PG f args w F9:=
 ⟨Jp hf A Xo,Fp hτ hf A U Py h⟩
abbrev T.int:Nat:=3
abbrev T.bool:Nat:=4
abbrev T.uint8:Nat:=5
abbrev T.string:Nat:=9
abbrev T.lM:Nat:=23
abbrev T.Program:Nat:=25
abbrev T.Int:Nat:=33
abbrev T.Rat:Nat:=35
abbrev T.row:Nat:=71
abbrev T.Lint:Nat:=76
abbrev T.nat:Nat:=78
abbrev T.number:Nat:=80
abbrev T.dO:Nat:=82
abbrev T.table:Nat:=84
abbrev T.solved:Nat:=115
abbrev T.uint32:Nat:=118
abbrev T.M4:Nat:=183
abbrev T.aAA:Nat:=184
abbrev FS.mA:Nat:=4
abbrev FS.sI:Nat:=5
abbrev FS.nW:Nat:=6
abbrev FS.sJ:Nat:=7
abbrev FS.yQ:Nat:=8
abbrev FS.nX:Nat:=10
abbrev FS.DX:Nat:=12
abbrev FS.DY:Nat:=13
abbrev FS.sK:Nat:=14
abbrev FS.DZ:Nat:=15
abbrev FS.Av:Nat:=16
abbrev FS.wN:Nat:=17
abbrev FS.nY:Nat:=18
abbrev FS.nZ:Nat:=19
abbrev FS.sL:Nat:=20
abbrev FS.oL:Nat:=21
abbrev FS.uG:Nat:=22
abbrev FS.qO:Nat:=23
abbrev FS.GU:Nat:=24
abbrev FS.mR:Nat:=25
abbrev FS.sM:Nat:=26
abbrev FS.sN:Nat:=27
abbrev FS.oq:Nat:=28
abbrev FS.GV:Nat:=29
abbrev FS.qP:Nat:=30
abbrev FS.sO:Nat:=31
abbrev FS.qu:Nat:=32
abbrev FS.n0:Nat:=33
abbrev FS.yR:Nat:=34
abbrev FS.j2:Nat:=35
abbrev FS.sP:Nat:=36
abbrev FS.yS:Nat:=37
abbrev FS.oM:Nat:=38
abbrev FS.oN:Nat:=39
abbrev FS.lA:Nat:=40
abbrev FS.nc:Nat:=41
abbrev FS.ma:Nat:=42
abbrev FS.nC:Nat:=43
abbrev FS.D3:Nat:=44
abbrev FS.wO:Nat:=45
abbrev FS.uy:Nat:=46
abbrev FS.yT:Nat:=47
abbrev FS.uH:Nat:=48
abbrev FS.sQ:Nat:=49
abbrev FS.yU:Nat:=50
abbrev FS.D4:Nat:=51
abbrev FS.D5:Nat:=52
abbrev FS.uz:Nat:=53
abbrev FS.uI:Nat:=54
abbrev FS.Aw:Nat:=55
abbrev FS.wP:Nat:=56
abbrev FS.qQ:Nat:=57
abbrev FS.wQ:Nat:=58
abbrev FS.yV:Nat:=59
abbrev FS.mB:Nat:=60
abbrev FS.nd:Nat:=61
abbrev FS.uJ:Nat:=62
abbrev FS.nf:Nat:=63
abbrev FS.mb:Nat:=64
abbrev FS.yW:Nat:=65
abbrev FS.Ax:Nat:=66
abbrev FS.oO:Nat:=67
abbrev FS.mc:Nat:=68
abbrev FS.oP:Nat:=69
abbrev FS.yX:Nat:=70
abbrev FS.ng:Nat:=71
abbrev FS.sR:Nat:=72
abbrev FS.Ay:Nat:=73
abbrev FS.oQ:Nat:=74
abbrev FS.yY:Nat:=75
abbrev FS.yZ:Nat:=76
abbrev FS.lW:Nat:=77
abbrev FS.me:Nat:=78
abbrev FS.oR:Nat:=79
abbrev FS.uK:Nat:=80
abbrev FS.ya:Nat:=81
abbrev FS.oT:Nat:=82
abbrev FS.mf:Nat:=83
abbrev FS.mg:Nat:=84
abbrev FS.mD:Nat:=85
abbrev FS.mh:Nat:=86
abbrev FS.mE:Nat:=87
abbrev FS.Az:Nat:=88
abbrev FS.yb:Nat:=89
abbrev FS.wR:Nat:=90
abbrev FS.wS:Nat:=91
abbrev FS.qR:Nat:=92
abbrev FS.D6:Nat:=93
abbrev FS.yc:Nat:=94
abbrev FS.D7:Nat:=95
abbrev FS.BA:Nat:=96
abbrev FS.jw:Nat:=97
abbrev FS.vA:Nat:=98
abbrev FS.sS:Nat:=99
abbrev FS.oU:Nat:=100
abbrev FS.uL:Nat:=101
abbrev FS.mi:Nat:=102
abbrev FS.mF:Nat:=103
abbrev FS.pM:Nat:=104
abbrev FS.oV:Nat:=105
abbrev FS.pN:Nat:=106
abbrev FS.sT:Nat:=107
abbrev FS.qw:Nat:=108
abbrev FS.gM:Nat:=109
abbrev FS.qz:Nat:=110
abbrev FS.pO:Nat:=111
abbrev FS.sU:Nat:=112
abbrev FS.uM:Nat:=113
abbrev FS.nh:Nat:=114
abbrev FS.wT:Nat:=115
abbrev FS.e8:Nat:=116
abbrev FS.wU:Nat:=117
abbrev FS.fS:Nat:=118
abbrev FS.mS:Nat:=119
abbrev FS.oW:Nat:=120
abbrev FS.wV:Nat:=121
abbrev FS.uN:Nat:=122
abbrev FS.wW:Nat:=123
abbrev FS.wX:Nat:=124
abbrev FS.pQ:Nat:=125
abbrev FS.lX:Nat:=126
abbrev FS.gk:Nat:=127
abbrev FS.eX:Nat:=128
abbrev FS.fk:Nat:=129
abbrev FS.gI:Nat:=130
abbrev FS.dq:Nat:=131
abbrev FS.BB:Nat:=132
abbrev FS.ot:Nat:=133
abbrev FS.wY:Nat:=134
abbrev FS.BC:Nat:=135
abbrev FS.GW:Nat:=136
abbrev FS.uO:Nat:=137
abbrev FS.yd:Nat:=138
abbrev FS.oX:Nat:=139
abbrev FS.rB:Nat:=140
abbrev FS.mj:Nat:=141
abbrev FS.oY:Nat:=142
abbrev FS.rD:Nat:=143
abbrev FS.BD:Nat:=144
abbrev FS.BE:Nat:=145
abbrev FS.gE:Nat:=146
abbrev FS.fW:Nat:=147
abbrev FS.ir:Nat:=148
abbrev FS.pS:Nat:=149
abbrev FS.qS:Nat:=150
abbrev FS.xX:Nat:=151
abbrev FS.vD:Nat:=152
abbrev FS.BF:Nat:=153
abbrev FS.sW:Nat:=154
abbrev FS.gl:Nat:=155
abbrev FS.mG:Nat:=156
abbrev Ent(g:Nat)(f:Func):Prop:=∀{args:Array Value} {w:World} {F9:Ending->World->Prop},args.size<=f.ntmps->kE PG τ w.heap.size (bd f) (fu 0 args.toList) [] 0 [] w (PV τ w.heap.size f.results.toList F9)->eL PG g args w F9
theorem pU:Ent FS.mA Tryz.f4:=fun U h=>dW Tryz.func4 d8 d8 U d8 h
theorem BG:Ent FS.sI Tryz.f5:=fun U h=>dW Tryz.func5 d8 d8 U d8 h
theorem rK:Ent FS.nW Tryz.f6:=fun U h=>dW Tryz.func6 d8 d8 U d8 h
theorem BH:Ent FS.sJ Tryz.f7:=fun U h=>dW Tryz.func7 d8 d8 U d8 h
theorem BI:Ent FS.yQ Tryz.f8:=fun U h=>dW Tryz.func8 d8 d8 U d8 h
theorem wZ:Ent FS.nX Tryz.f10:=fun U h=>dW Tryz.func10 d8 d8 U d8 h
theorem EY:Ent FS.DX Tryz.f12:=fun U h=>dW Tryz.func12 d8 d8 U d8 h
theorem EZ:Ent FS.DY Tryz.f13:=fun U h=>dW Tryz.func13 d8 d8 U d8 h
theorem wg:Ent FS.sK Tryz.f14:=fun U h=>dW Tryz.func14 d8 d8 U d8 h
theorem Ea:Ent FS.DZ Tryz.f15:=fun U h=>dW Tryz.func15 d8 d8 U d8 h
theorem CV:Ent FS.Av Tryz.f16:=fun U h=>dW Tryz.func16 d8 d8 U d8 h
theorem yw:Ent FS.wN Tryz.f17:=fun U h=>dW Tryz.func17 d8 d8 U d8 h
theorem rL:Ent FS.nY Tryz.f18:=fun U h=>dW Tryz.func18 d8 d8 U d8 h
theorem rM:Ent FS.nZ Tryz.f19:=fun U h=>dW Tryz.func19 d8 d8 U d8 h
theorem BJ:Ent FS.sL Tryz.f20:=fun U h=>dW Tryz.func20 d8 d8 U d8 h
theorem sX:Ent FS.oL Tryz.f21:=fun U h=>dW Tryz.func21 d8 d8 U d8 h
theorem xY:Ent FS.uG Tryz.f22:=fun U h=>dW Tryz.func22 d8 d8 U d8 h
theorem yx:Ent FS.qO Tryz.f23:=fun U h=>dW Tryz.func23 d8 d8 U d8 h
theorem GX:Ent FS.GU Tryz.f24:=fun U h=>dW Tryz.func24 d8 d8 U d8 h
theorem vE:Ent FS.mR Tryz.f25:=fun U h=>dW Tryz.func25 d8 d8 U d8 h
theorem BK:Ent FS.sM Tryz.f26:=fun U h=>dW Tryz.func26 d8 d8 U d8 h
theorem sY:Ent FS.sN Tryz.f27:=fun U h=>dW Tryz.func27 d8 d8 U d8 h
theorem xZ:Ent FS.oq Tryz.f28:=fun U h=>dW Tryz.func28 d8 d8 U d8 h
theorem GY:Ent FS.GV Tryz.f29:=fun U h=>dW Tryz.func29 d8 d8 U d8 h
theorem yz:Ent FS.qP Tryz.f30:=fun U h=>dW Tryz.func30 d8 d8 U d8 h
theorem wh:Ent FS.sO Tryz.f31:=fun U h=>dW Tryz.func31 d8 d8 U d8 h
theorem vF:Ent FS.qu Tryz.f32:=fun U h=>dW Tryz.func32 d8 d8 U d8 h
theorem rN:Ent FS.n0 Tryz.f33:=fun U h=>dW Tryz.func33 d8 d8 U d8 h
theorem BL:Ent FS.yR Tryz.f34:=fun U h=>dW Tryz.func34 d8 d8 U d8 h
theorem pV:Ent FS.j2 Tryz.f35:=fun U h=>dW Tryz.func35 d8 d8 U d8 h
theorem wi:Ent FS.sP Tryz.f36:=fun U h=>dW Tryz.func36 d8 d8 U d8 h
theorem BM:Ent FS.yS Tryz.f37:=fun U h=>dW Tryz.func37 d8 d8 U d8 h
theorem sZ:Ent FS.oM Tryz.f38:=fun U h=>dW Tryz.func38 d8 d8 U d8 h
theorem s0:Ent FS.oN Tryz.f39:=fun U h=>dW Tryz.func39 d8 d8 U d8 h
theorem ou:Ent FS.lA Tryz.f40:=fun U h=>dW Tryz.func40 d8 d8 U d8 h
theorem rO:Ent FS.nc Tryz.f41:=fun U h=>dW Tryz.func41 d8 d8 U d8 h
theorem qT:Ent FS.ma Tryz.f42:=fun U h=>dW Tryz.func42 d8 d8 U d8 h
theorem zA:Ent FS.nC Tryz.f43:=fun U h=>dW Tryz.func43 d8 d8 U d8 h
theorem Eb:Ent FS.D3 Tryz.f44:=fun U h=>dW Tryz.func44 d8 d8 U d8 h
theorem zB:Ent FS.wO Tryz.f45:=fun U h=>dW Tryz.func45 d8 d8 U d8 h
theorem uP:Ent FS.uy Tryz.f46:=fun U h=>dW Tryz.func46 d8 d8 U d8 h
theorem BN:Ent FS.yT Tryz.f47:=fun U h=>dW Tryz.func47 d8 d8 U d8 h
theorem x6:Ent FS.uH Tryz.f48:=fun U h=>dW Tryz.func48 d8 d8 U d8 h
theorem s5:Ent FS.sQ Tryz.f49:=fun U h=>dW Tryz.func49 d8 d8 U d8 h
theorem BO:Ent FS.yU Tryz.f50:=fun U h=>dW Tryz.func50 d8 d8 U d8 h
theorem Ec:Ent FS.D4 Tryz.f51:=fun U h=>dW Tryz.func51 d8 d8 U d8 h
theorem Ed:Ent FS.D5 Tryz.f52:=fun U h=>dW Tryz.func52 d8 d8 U d8 h
theorem uQ:Ent FS.uz Tryz.f53:=fun U h=>dW Tryz.func53 d8 d8 U d8 h
theorem x7:Ent FS.uI Tryz.f54:=fun U h=>dW Tryz.func54 d8 d8 U d8 h
theorem CW:Ent FS.Aw Tryz.f55:=fun U h=>dW Tryz.func55 d8 d8 U d8 h
theorem zC:Ent FS.wP Tryz.f56:=fun U h=>dW Tryz.func56 d8 d8 U d8 h
theorem rE:Ent FS.qQ Tryz.f57:=fun U h=>dW Tryz.func57 d8 d8 U d8 h
theorem zD:Ent FS.wQ Tryz.f58:=fun U h=>dW Tryz.func58 d8 d8 U d8 h
theorem BP:Ent FS.yV Tryz.f59:=fun U h=>dW Tryz.func59 d8 d8 U d8 h
theorem pW:Ent FS.mB Tryz.f60:=fun U h=>dW Tryz.func60 d8 d8 U d8 h
theorem rP:Ent FS.nd Tryz.f61:=fun U h=>dW Tryz.func61 d8 d8 U d8 h
theorem x8:Ent FS.uJ Tryz.f62:=fun U h=>dW Tryz.func62 d8 d8 U d8 h
theorem rQ:Ent FS.nf Tryz.f63:=fun U h=>dW Tryz.func63 d8 d8 U d8 h
theorem qU:Ent FS.mb Tryz.f64:=fun U h=>dW Tryz.func64 d8 d8 U d8 h
theorem BQ:Ent FS.yW Tryz.f65:=fun U h=>dW Tryz.func65 d8 d8 U d8 h
theorem GZ:Ent FS.Ax Tryz.f66:=fun U h=>dW Tryz.func66 d8 d8 U d8 h
theorem s6:Ent FS.oO Tryz.f67:=fun U h=>dW Tryz.func67 d8 d8 U d8 h
theorem qV:Ent FS.mc Tryz.f68:=fun U h=>dW Tryz.func68 d8 d8 U d8 h
theorem s7:Ent FS.oP Tryz.f69:=fun U h=>dW Tryz.func69 d8 d8 U d8 h
theorem BR:Ent FS.yX Tryz.f70:=fun U h=>dW Tryz.func70 d8 d8 U d8 h
theorem rR:Ent FS.ng Tryz.f71:=fun U h=>dW Tryz.func71 d8 d8 U d8 h
theorem wj:Ent FS.sR Tryz.f72:=fun U h=>dW Tryz.func72 d8 d8 U d8 h
theorem CX:Ent FS.Ay Tryz.f73:=fun U h=>dW Tryz.func73 d8 d8 U d8 h
theorem s8:Ent FS.oQ Tryz.f74:=fun U h=>dW Tryz.func74 d8 d8 U d8 h
theorem BS:Ent FS.yY Tryz.f75:=fun U h=>dW Tryz.func75 d8 d8 U d8 h
theorem BT:Ent FS.yZ Tryz.f76:=fun U h=>dW Tryz.func76 d8 d8 U d8 h
theorem xa:Ent FS.lW Tryz.f77:=fun U h=>dW Tryz.func77 d8 d8 U d8 h
theorem qW:Ent FS.me Tryz.f78:=fun U h=>dW Tryz.func78 d8 d8 U d8 h
theorem s9:Ent FS.oR Tryz.f79:=fun U h=>dW Tryz.func79 d8 d8 U d8 h
theorem xc:Ent FS.uK Tryz.f80:=fun U h=>dW Tryz.func80 d8 d8 U d8 h
theorem BU:Ent FS.ya Tryz.f81:=fun U h=>dW Tryz.func81 d8 d8 U d8 h
theorem sd:Ent FS.oT Tryz.f82:=fun U h=>dW Tryz.func82 d8 d8 U d8 h
theorem qX:Ent FS.mf Tryz.f83:=fun U h=>dW Tryz.func83 d8 d8 U d8 h
theorem qY:Ent FS.mg Tryz.f84:=fun U h=>dW Tryz.func84 d8 d8 U d8 h
theorem pX:Ent FS.mD Tryz.f85:=fun U h=>dW Tryz.func85 d8 d8 U d8 h
theorem qZ:Ent FS.mh Tryz.f86:=fun U h=>dW Tryz.func86 d8 d8 U d8 h
theorem pY:Ent FS.mE Tryz.f87:=fun U h=>dW Tryz.func87 d8 d8 U d8 h
theorem CY:Ent FS.Az Tryz.f88:=fun U h=>dW Tryz.func88 d8 d8 U d8 h
theorem BV:Ent FS.yb Tryz.f89:=fun U h=>dW Tryz.func89 d8 d8 U d8 h
theorem zE:Ent FS.wR Tryz.f90:=fun U h=>dW Tryz.func90 d8 d8 U d8 h
theorem zF:Ent FS.wS Tryz.f91:=fun U h=>dW Tryz.func91 d8 d8 U d8 h
theorem zG:Ent FS.qR Tryz.f92:=fun U h=>dW Tryz.func92 d8 d8 U d8 h
theorem Ee:Ent FS.D6 Tryz.f93:=fun U h=>dW Tryz.func93 d8 d8 U d8 h
theorem BW:Ent FS.yc Tryz.f94:=fun U h=>dW Tryz.func94 d8 d8 U d8 h
theorem Ef:Ent FS.D7 Tryz.f95:=fun U h=>dW Tryz.func95 d8 d8 U d8 h
theorem CZ:Ent FS.BA Tryz.f96:=fun U h=>dW Tryz.func96 d8 d8 U d8 h
theorem pZ:Ent FS.jw Tryz.f97:=fun U h=>dW Tryz.func97 d8 d8 U d8 h
theorem Ca:Ent FS.vA Tryz.f98:=fun U h=>dW Tryz.func98 d8 d8 U d8 h
theorem BX:Ent FS.sS Tryz.f99:=fun U h=>dW Tryz.func99 d8 d8 U d8 h
theorem se:Ent FS.oU Tryz.f100:=fun U h=>dW Tryz.func100 d8 d8 U d8 h
theorem xd:Ent FS.uL Tryz.f101:=fun U h=>dW Tryz.func101 d8 d8 U d8 h
theorem q9:Ent FS.mi Tryz.f102:=fun U h=>dW Tryz.func102 d8 d8 U d8 h
theorem p9:Ent FS.mF Tryz.f103:=fun U h=>dW Tryz.func103 d8 d8 U d8 h
theorem tw:Ent FS.pM Tryz.f104:=fun U h=>dW Tryz.func104 d8 d8 U d8 h
theorem sf:Ent FS.oV Tryz.f105:=fun U h=>dW Tryz.func105 d8 d8 U d8 h
theorem tx:Ent FS.pN Tryz.f106:=fun U h=>dW Tryz.func106 d8 d8 U d8 h
theorem wk:Ent FS.sT Tryz.f107:=fun U h=>dW Tryz.func107 d8 d8 U d8 h
theorem vG:Ent FS.qw Tryz.f108:=fun U h=>dW Tryz.func108 d8 d8 U d8 h
theorem j3:Ent FS.gM Tryz.f109:=fun U h=>dW Tryz.func109 d8 d8 U d8 h
theorem vH:Ent FS.qz Tryz.f110:=fun U h=>dW Tryz.func110 d8 d8 U d8 h
theorem tz:Ent FS.pO Tryz.f111:=fun U h=>dW Tryz.func111 d8 d8 U d8 h
theorem wm:Ent FS.sU Tryz.f112:=fun U h=>dW Tryz.func112 d8 d8 U d8 h
theorem xe:Ent FS.uM Tryz.f113:=fun U h=>dW Tryz.func113 d8 d8 U d8 h
theorem rS:Ent FS.nh Tryz.f114:=fun U h=>dW Tryz.func114 d8 d8 U d8 h
theorem zH:Ent FS.wT Tryz.f115:=fun U h=>dW Tryz.func115 d8 d8 U d8 h
theorem iJ:Ent FS.e8 Tryz.f116:=fun U h=>dW Tryz.func116 d8 d8 U d8 h
theorem zI:Ent FS.wU Tryz.f117:=fun U h=>dW Tryz.func117 d8 d8 U d8 h
theorem iR:Ent FS.fS Tryz.f118:=fun U h=>dW Tryz.func118 d8 d8 U d8 h
theorem vI:Ent FS.mS Tryz.f119:=fun U h=>dW Tryz.func119 d8 d8 U d8 h
theorem sh:Ent FS.oW Tryz.f120:=fun U h=>dW Tryz.func120 d8 d8 U d8 h
theorem zJ:Ent FS.wV Tryz.f121:=fun U h=>dW Tryz.func121 d8 d8 U d8 h
theorem xf:Ent FS.uN Tryz.f122:=fun U h=>dW Tryz.func122 d8 d8 U d8 h
theorem zK:Ent FS.wW Tryz.f123:=fun U h=>dW Tryz.func123 d8 d8 U d8 h
theorem zL:Ent FS.wX Tryz.f124:=fun U h=>dW Tryz.func124 d8 d8 U d8 h
theorem uA:Ent FS.pQ Tryz.f125:=fun U h=>dW Tryz.func125 d8 d8 U d8 h
theorem xg:Ent FS.lX Tryz.f126:=fun U h=>dW Tryz.func126 d8 d8 U d8 h
theorem iu:Ent FS.gk Tryz.f127:=fun U h=>dW Tryz.func127 d8 d8 U d8 h
theorem gn:Ent FS.eX Tryz.f128:=fun U h=>dW Tryz.func128 d8 d8 U d8 h
theorem ov:Ent FS.fk Tryz.f129:=fun U h=>dW Tryz.func129 d8 d8 U d8 h
theorem lN:Ent FS.gI Tryz.f130:=fun U h=>dW Tryz.func130 d8 d8 U d8 h
theorem iK:Ent FS.dq Tryz.f131:=fun U h=>dW Tryz.func131 d8 d8 U d8 h
theorem Cb:Ent FS.BB Tryz.f132:=fun U h=>dW Tryz.func132 d8 d8 U d8 h
theorem xh:Ent FS.ot Tryz.f133:=fun U h=>dW Tryz.func133 d8 d8 U d8 h
theorem zM:Ent FS.wY Tryz.f134:=fun U h=>dW Tryz.func134 d8 d8 U d8 h
theorem Cc:Ent FS.BC Tryz.f135:=fun U h=>dW Tryz.func135 d8 d8 U d8 h
theorem Ga:Ent FS.GW Tryz.f136:=fun U h=>dW Tryz.func136 d8 d8 U d8 h
theorem xj:Ent FS.uO Tryz.f137:=fun U h=>dW Tryz.func137 d8 d8 U d8 h
theorem BY:Ent FS.yd Tryz.f138:=fun U h=>dW Tryz.func138 d8 d8 U d8 h
theorem si:Ent FS.oX Tryz.f139:=fun U h=>dW Tryz.func139 d8 d8 U d8 h
theorem vJ:Ent FS.rB Tryz.f140:=fun U h=>dW Tryz.func140 d8 d8 U d8 h
theorem qc:Ent FS.mj Tryz.f141:=fun U h=>dW Tryz.func141 d8 d8 U d8 h
theorem sj:Ent FS.oY Tryz.f142:=fun U h=>dW Tryz.func142 d8 d8 U d8 h
theorem vK:Ent FS.rD Tryz.f143:=fun U h=>dW Tryz.func143 d8 d8 U d8 h
theorem Cd:Ent FS.BD Tryz.f144:=fun U h=>dW Tryz.func144 d8 d8 U d8 h
theorem Ce:Ent FS.BE Tryz.f145:=fun U h=>dW Tryz.func145 d8 d8 U d8 h
theorem jS:Ent FS.gE Tryz.f146:=fun U h=>dW Tryz.func146 d8 d8 U d8 h
theorem iW:Ent FS.fW Tryz.f147:=fun U h=>dW Tryz.func147 d8 d8 U d8 h
theorem ko:Ent FS.ir Tryz.f148:=fun U h=>dW Tryz.func148 d8 d8 U d8 h
theorem uB:Ent FS.pS Tryz.f149:=fun U h=>dW Tryz.func149 d8 d8 U d8 h
theorem rF:Ent FS.qS Tryz.f150:=fun U h=>dW Tryz.func150 d8 d8 U d8 h
theorem Eg:Ent FS.xX Tryz.f151:=fun U h=>dW Tryz.func151 d8 d8 U d8 h
theorem Cg:Ent FS.vD Tryz.f152:=fun U h=>dW Tryz.func152 d8 d8 U d8 h
theorem Ch:Ent FS.BF Tryz.f153:=fun U h=>dW Tryz.func153 d8 d8 U d8 h
theorem wu:Ent FS.sW Tryz.f154:=fun U h=>dW Tryz.func154 d8 d8 U d8 h
theorem jd:Ent FS.gl Tryz.f155:=fun U h=>dW Tryz.func155 d8 d8 U d8 h
theorem pc:Ent FS.mG Tryz.f156:=fun U h=>dW Tryz.func156 d8 d8 U d8 h
theorem dP{l:Env}{B:Nat}{Fd:KT}(π:List It)(h:Jm PG τ B ops.toList π l H nx iv w Fd)(hs:Region.noSelect ops=true:=by kernel_rfl)(hc:FU ops ops.size π 0 []=true:=by kernel_rfl):mO PG B ops l H nx iv w Fd:=FY hτ uw π hs hc h
theorem gN{w1 J:World}(W:Old S w)(G:Bq w w1)(r:Rel H nx iv w.heap.size w1 O J){ad:Addr}{j:Nat}{x:Value}(hs:S ad.block)(h:w.cell? (ad.add j)=some x):J.cell? (ad.add j)=some x:=by
 rw[(G.tr r.cj).cell (by rw[df];exact W _ hs)];exact h
theorem Gb(a:Option Addr)(c:Nat):(if (c:Int)=0 then a else a.map fun x=>x.add (Int.toNat 0*1))=a:=by
 split
 .rfl
 .cases a<;>rfl
theorem zN(h:ls[k]? =some 0):eO (ls.take (k+1))=eO (ls.take k):=by
 rw[bM,h];exact mP _
theorem Ci{x:Nat}(h:ls[k]? =some x)(E:x≠0):eO (ls.take (k+1))=ls.take (k+1):=by
 rw[bM,h];exact qJ _ E
theorem fY(W:Old S w)(h:dZ w S v ls):eL PG FS.oV #[v] w (eY w fun v' F=>dZ F S v' (eO ls)):=by
 obtain⟨a,c,rfl,Zn,hc⟩:=h.sl;have hle:=h.le;have Qj:=h.lm;refine sf ce ?_
 refine⟨Nat×World,fun x=>⟨[(0,sV a x.1 c)],[],0,[],x.2⟩,fun x=>x.1,
  fun x=>x.1<=ls.length/\Bq w x.2/\eO ls=eO (ls.take x.1),?_,?_⟩
 .intro O J r;exact⟨(ls.length,J),⟨lr,r.cj,ce⟩,Sub.reset r ⟨rfl,trivial⟩ ⟨trivial,trivial⟩⟩
 .rintro⟨k,w1⟩ ⟨R,G,hF⟩;dsimp only at R G hF ⊢;have Wa:Bq w w1->eO ls=ls.take k->∀O F,Rel [] 0 [] w.heap.size w1 O F->dZ F S (.slice a k c) (eO ls):=fun G L O F r=>by
   rw[L];refine⟨Qj.take k,by simp;omega,a,c,by simp;omega,by simp;omega,fun j x E=>?_⟩;have VK:j<k:=by
    have:=(aH.1 E).1;simp at this;omega
   rw[List.getElem?_take_of_lt VK]at E;obtain⟨ad,Y,I,h3⟩:=hc j x E;exact⟨ad,Y,I,gN W G r I h3⟩
  apply bS<;>intro h
  .have h:0<k:=by simpa using h
   obtain⟨k,rfl⟩:∃q,k=q+1:=⟨k-1,be⟩
   obtain⟨x,E⟩:=gO ls k;obtain⟨ad,ha,hs,S4⟩:=hc k x E;refine⟨(k:Int),wo,ad,ha,be,.int .u32 x,fun O J r=>by rw[aK,av];exact gN W G r hs S4,?_⟩;apply bS<;>intro I
   .have I:x=0:=by have:=eq_of_beq I;omega
    subst I;refine⟨(k:Int),wo,⟨be,be,be⟩,a,k,c,Gb a c,ce,ce,?_⟩;intro O F r;exact⟨(k,F),⟨by dsimp only;omega,G.tr r.cj,hF.trans (zN E)⟩,Sub.reset r ⟨rfl,trivial⟩ ⟨trivial,trivial⟩,by dsimp only;omega⟩
   .have I:x≠0:=by intro e;subst e;simp at I
    intro O F r;exact⟨_,rfl,G.tr r.cj,Wa G (by rw[hF,Ci E I]) O F r⟩
  .have h:k=0:=by
    have:¬0<k:=by simpa using h
    omega
   subst h;intro O F r;exact⟨_,rfl,G.tr r.cj,Wa G (by rw[hF];simp[eO]) O F r⟩
theorem fC{n:Nat}(h:n<18446744073709551616):IntKind.u64.wrap (n:Int)=(n:Int):=zT be be
theorem fX(n:Nat):IntKind.u32.wrap (n:Int)=((n % 4294967296:Nat):Int):=by
 show((n:Int) % 4294967296)=_;omega
theorem ofInt32(x:Nat):BitVec.ofInt 32 (x:Int)=BitVec.ofNat 32 x:=by
 apply BitVec.eq_of_toNat_eq;simp
theorem so{y:Nat}(x:Nat)(hy:y<4294967296):x &&& y<4294967296:=Nat.lt_of_le_of_lt Nat.and_le_right hy
theorem sq{x y:Nat}(E:x<4294967296)(hy:y<4294967296):x ^^^ y<4294967296:=Nat.xor_lt_two_pow (n:=32) E hy
theorem El{x y:Nat}(E:x<4294967296)(hy:y<4294967296):x ||| y<4294967296:=Nat.or_lt_two_pow (n:=32) E hy
theorem PH{x y:Nat}(E:x<4294967296)(hy:y<4294967296):IntKind.u32.wrap ((BitVec.ofInt IntKind.u32.bits x &&& BitVec.ofInt IntKind.u32.bits y).toNat:Int)=((x &&& y:Nat):Int):=by
 show IntKind.u32.wrap ((BitVec.ofInt 32 x &&& BitVec.ofInt 32 y).toNat:Int)=_;rw[ofInt32,ofInt32,BitVec.toNat_and,BitVec.toNat_ofNat,BitVec.toNat_ofNat,bh E,bh hy,fX,bh (so x hy)]
theorem aAp{x y:Nat}(E:x<4294967296)(hy:y<4294967296):IntKind.u32.wrap ((BitVec.ofInt IntKind.u32.bits x ||| BitVec.ofInt IntKind.u32.bits y).toNat:Int)=((x ||| y:Nat):Int):=by
 show IntKind.u32.wrap ((BitVec.ofInt 32 x ||| BitVec.ofInt 32 y).toNat:Int)=_;rw[ofInt32,ofInt32,BitVec.toNat_or,BitVec.toNat_ofNat,BitVec.toNat_ofNat,bh E,bh hy,fX,bh (El E hy)]
theorem PI{x y:Nat}(E:x<4294967296)(hy:y<4294967296):IntKind.u32.wrap ((BitVec.ofInt IntKind.u32.bits x ^^^ BitVec.ofInt IntKind.u32.bits y).toNat:Int)=((x ^^^ y:Nat):Int):=by
 show IntKind.u32.wrap ((BitVec.ofInt 32 x ^^^ BitVec.ofInt 32 y).toNat:Int)=_;rw[ofInt32,ofInt32,BitVec.toNat_xor,BitVec.toNat_ofNat,BitVec.toNat_ofNat,bh E,bh hy,fX,bh (sq E hy)]
theorem PJ{x:Nat}(E:x<4294967296):IntKind.u32.wrap ((BitVec.ofInt IntKind.u32.bits (if IntKind.u32.signed=true then -1 else IntKind.u32.max) ^^^ BitVec.ofInt IntKind.u32.bits x).toNat:Int)=((4294967295 ^^^ x:Nat):Int):=
 PI (x:=4294967295) bv E
theorem nq{x:Nat}(k:Nat)(R:k<=63):(x:Int).fdiv (2^min (Int.toNat (k:Int)) IntKind.u64.bits)=((x / 2^k:Nat):Int):=by
 have Y:min (Int.toNat (k:Int)) IntKind.u64.bits=k:=by show min (Int.toNat (k:Int)) 64=k;omega
 rw[Y,Int.fdiv_eq_ediv_of_nonneg _ (by exact Int.le_of_lt (Int.pow_pos bv))];simp
theorem qe{x:Nat}(k:Nat)(R:k<=31):(x:Int).fdiv (2^min (Int.toNat (k:Int)) IntKind.u32.bits)=((x / 2^k:Nat):Int):=by
 have Y:min (Int.toNat (k:Int)) IntKind.u32.bits=k:=by show min (Int.toNat (k:Int)) 32=k;omega
 rw[Y,Int.fdiv_eq_ediv_of_nonneg _ (by exact Int.le_of_lt (Int.pow_pos bv))];simp
theorem OL{z:Nat}(h:z<4294967296):z.testBit 31=decide (2147483648<=z):=by
 rw[Nat.testBit_eq_decide_div_mod_eq];apply decide_eq_decide.2;show z / 2147483648 % 2=1↔_;omega
theorem borrow{x y c d:Nat}(E:x<4294967296)(hy:y<4294967296)(hc:c<=1)(hd:(x+4294967296-(y+c)) % 4294967296=d):
  (((4294967295 ^^^ x) &&& y) ||| ((4294967295 ^^^ (x ^^^ y)) &&& d)) / 2^31=if x<y+c then 1 else 0:=by
 have QJ:d<4294967296:=by omega
 have hz:=El (so (4294967295 ^^^ x) hy) (so (4294967295 ^^^ (x ^^^ y)) QJ);have ht:=OL hz;have hm:Nat.testBit 4294967295 31=true:=by decide
 rw[Nat.testBit_or,Nat.testBit_and,Nat.testBit_and,Nat.testBit_xor,Nat.testBit_xor,Nat.testBit_xor,hm,OL E,OL hy,OL QJ]at ht;generalize (((4294967295 ^^^ x) &&& y) ||| ((4294967295 ^^^ (x ^^^ y)) &&& d))=z at hz ht;show z / 2147483648=_;by_cases Y:2147483648<=x<;>by_cases I:2147483648<=y<;>by_cases h3:2147483648<=d<;>simp[Y,I,h3]at ht<;>split<;>omega
theorem JV(x y c:Nat)(w:World)(E:x<4294967296)(hy:y<4294967296)(hc:c<4294967296):
  eL PG FS.BD #[.int .u32 x,.int .u32 y,.int .u32 c] w (eY w fun v _=>v= .tuple #[.int .u32 ((x+y+c) % 4294967296:Nat),.int .u32 ((x+y+c) / 4294967296:Nat)]):=by
 refine Cd ce ?_;refine⟨(x:Int),fC be,(y:Int),fC be,((x+y:Nat):Int),by rw[zT]<;>omega,(c:Int),fC be,((x+y+c:Nat):Int),by rw[zT]<;>omega,(((x+y+c) % 4294967296:Nat):Int),fX _,bv,(((x+y+c) / 4294967296:Nat):Int),?_,?_⟩
 .exact nq 32 bv
 refine⟨(((x+y+c) / 4294967296:Nat):Int),by rw[fX];omega,?_⟩;intro O w3 r;exact⟨_,rfl,r.cj,rfl⟩
theorem JW(x y c:Nat)(w:World)(E:x<4294967296)(hy:y<4294967296)(hc:c<=1):
  eL PG FS.BE #[.int .u32 x,.int .u32 y,.int .u32 c] w (eY w fun v _=>v= .tuple #[.int .u32 ((x+4294967296-(y+c)) % 4294967296:Nat),.int .u32 ((if x<y+c then 1 else 0:Nat):Int)]):=by
 refine Ce ce ?_;refine⟨((x+4294967296-y) % 4294967296:Nat),?_,?_⟩
 .show((x:Int)-y) % 4294967296=_;omega
 refine⟨((x+4294967296-(y+c)) % 4294967296:Nat),?_,?_⟩
 .show((((x+4294967296-y) % 4294967296:Nat):Int)-c) % 4294967296=_;omega
 have h6:(x+4294967296-(y+c)) % 4294967296<4294967296:=cM _ bv;generalize hd:(x+4294967296-(y+c)) % 4294967296=d at h6;refine⟨((4294967295 ^^^ x:Nat):Int),PJ E,(((4294967295 ^^^ x) &&& y:Nat):Int),PH (sq bv E) hy,((x ^^^ y:Nat):Int),PI E hy,((4294967295 ^^^ (x ^^^ y):Nat):Int),PJ (sq E hy),(((4294967295 ^^^ (x ^^^ y)) &&& d:Nat):Int),PH (sq bv (sq E hy)) h6,((((4294967295 ^^^ x) &&& y) ||| ((4294967295 ^^^ (x ^^^ y)) &&& d):Nat):Int),aAp (so _ hy) (so _ h6),bv,((if x<y+c then 1 else 0:Nat):Int),?_,?_⟩
 .rw[<-borrow E hy hc hd];exact qe 31 bv
 intro O w3 r;exact⟨_,rfl,r.cj,rfl⟩
def qg(n m:Nat):Int:=if n<m then -1 else if m<n then 1 else 0
theorem PM{a b:List Nat}{i x y:Nat}(ha:Lm a)(hl:a.length=b.length)(E:a[i]? =some x)(hy:b[i]? =some y)(h:a.drop (i+1)=b.drop (i+1))(QZ:x<y):val a<val b:=by
 have N:=(aH.1 E).1;have Y:=fH a i be;have I:=fH b i be;rw[jq E]at Y;rw[jq hy,<-h]at I;have h3:=qI (ha.take i);rw[bN,Nat.min_eq_left be]at h3;generalize val (a.drop (i+1))=q at Y I;have h4:wt i*(x+4294967296*q+1)<=wt i*(y+4294967296*q):=bC _ be;rw[bZ,av]at h4;omega
theorem JR{u:Value}{n m:Nat}(W:Old S w)(U:dm w S v n)(hm:dm w S u m):eL PG FS.uM #[v,u] w (eY w fun v' _=>v'=iV (qg n m)):=by
 obtain⟨ls,Y,nz1,rfl⟩:=U;obtain⟨ms,I,nz2,rfl⟩:=hm;obtain⟨a,c,rfl,_,ha⟩:=Y.sl;obtain⟨b,e,rfl,_,A⟩:=I.sl;have hle1:=Y.le;have YO:=I.le;have lm1:=Y.lm;have lm2:=I.lm;refine xe ce ?_;apply bS<;>intro h
 .have h:ls.length≠ms.length:=by intro e;rw[e]at h;simp at h
  apply bS<;>intro h3
  .have h3:ls.length<ms.length:=by simpa using h3
   intro O F r;exact⟨_,rfl,r.cj,by rw[qg,aM (jc lm1 nz2 h3)];rfl⟩
  .have h3:ms.length<ls.length:=by
    have:¬ls.length<ms.length:=by simpa using h3
    omega
   have h4:=jc lm2 nz1 h3;intro O F r;exact⟨_,rfl,r.cj,by rw[qg,aI be,aM h4];rfl⟩
 .have h:ls.length=ms.length:=by
   have:(ls.length:Int)=ms.length:=by simpa using h
   omega
  refine⟨(ls.length:Int)-1,wo,Nat×World,fun x=>⟨[(0,sV a ls.length c),(1,sV b ms.length e),(5,.o (.v (iV ((x.1:Int)-1))))],[],0,[],x.2⟩,fun x=>x.1,
   fun x=>x.1<=ls.length/\Bq w x.2/\ls.drop x.1=ms.drop x.1,?_,?_⟩
  .intro O J r;exact⟨(ls.length,J),⟨lr,r.cj,by rw[List.drop_length,h,List.drop_length]⟩,Sub.reset r ⟨rfl,rfl,rfl,trivial⟩ ⟨trivial,trivial,trivial,trivial⟩⟩
  .rintro⟨k,w1⟩ ⟨R,G,hd⟩;dsimp only at R G hd ⊢;apply bS<;>intro h3
   .have h3:(k:Int)-1≥0:=aJ h3;obtain⟨k,rfl⟩:∃q,k=q+1:=⟨k-1,be⟩
    rw[show ((k+1:Nat):Int)-1=(k:Int) by omega];obtain⟨x,E⟩:=gO ls k;obtain⟨y,hy⟩:=gO ms k;obtain⟨ad,QV,hs,hc1⟩:=ha k x E;obtain⟨ad2,Q9,TO,SX⟩:=A k y hy;have RL:∀O J,Rel [] 0 [] w.heap.size w1 O J->J.cell? (ad.add ((k:Int).toNat*1))=some (.int .u32 x):=fun O J r=>by
     rw[aK,av];exact gN W G r hs hc1
    have R9:∀O J,Rel [] 0 [] w.heap.size w1 O J->J.cell? (ad2.add ((k:Int).toNat*1))=some (.int .u32 y):=fun O J r=>by
     rw[aK,av];exact gN W G r TO SX
    refine dP (idO 10) ?_;refine⟨ad,QV,be,_,RL,ad2,Q9,be,_,R9,?_⟩;apply bS<;>intro h4
    .have h4:=dL h4;intro O F r;exact⟨_,rfl,G.tr r.cj,by rw[qg,aM (PM lm1 h E hy hd h4)];rfl⟩
    .have h4:¬x<y:=by simpa using h4
     refine dP (idO 10) ?_;refine⟨ad,QV,be,_,RL,ad2,Q9,be,_,R9,?_⟩;apply bS<;>intro h5
     .have h5:=dL h5;have h6:=PM lm2 h.symm hy E hd.symm h5;intro O F r;exact⟨_,rfl,G.tr r.cj,by rw[qg,aI be,aM h6];rfl⟩
     .have h5:¬y<x:=by simpa using h5
      have hxy:x=y:=by omega
      subst hxy;refine⟨(k:Int)-1,wo,?_⟩;intro O F r;have QJ:ls.drop k=ms.drop k:=by
       obtain⟨q1,e1⟩:=aH.1 E;obtain⟨q2,e2⟩:=aH.1 hy;rw[List.drop_eq_getElem_cons q1,List.drop_eq_getElem_cons q2,e1,e2,hd]
      exact⟨(k,F),⟨by dsimp only;omega,G.tr r.cj,QJ⟩,Sub.reset r ⟨rfl,rfl,rfl,trivial⟩ ⟨trivial,trivial,trivial,trivial⟩,ce⟩
   .have TE:k=0:=by
     have:¬(k:Int)-1≥0:=aL h3;omega
    subst TE;have L:ls=ms:=by simpa using hd
    intro O F r;exact⟨_,rfl,G.tr r.cj,by rw[L,qg,aI be,aI be];rfl⟩
end Go.Ex
namespace Go.Sx
open Go Go.Ex Go.Proofs
variable{O:Nat->Sx.eH}
theorem Rel.sk{nx:Nat}{iv:Iv}{B:Nat}{w J:World}(r:Rel [] nx iv B w O J):w.grownBy J none:=
 ⟨r.os,r.tape,r.output,r.size,fun k R _=>r.Dz k R (fun id b h=>by cases h)⟩
end Go.Sx
namespace Go.Ex
open Go Go.Sx Go.Proofs
variable{l ls:List Nat}{S:Nat->Prop}{v:Value}{w:World}
structure LA(S:Nat->Prop)(w:World) where
 a:Option Addr
 c:Nat
 ls:List Nat
 lm:Lm ls
 le:ls.length<=9223372036854775807
 cap:ls.length<=c
 cell:∀(j:Nat) x,ls[j]? =some x->∃ad,a=some ad/\S ad.block/\w.cell? (ad.add j)=some (.int .u32 x)
theorem dZ.la(h:dZ w S v ls):∃p:LA S w,v= .slice p.a p.ls.length p.c/\p.ls=ls:=by
 obtain⟨a,c,Y,I,h3⟩:=h.sl;exact⟨⟨a,c,ls,h.lm,h.le,I,h3⟩,Y,rfl⟩
theorem dm.la{n:Nat}(h:dm w S v n):∃p:LA S w,v= .slice p.a p.ls.length p.c/\val p.ls=n/\Nz p.ls:=by
 obtain⟨ls,Y,I,h3⟩:=h;obtain⟨p,h4,h5⟩:=Y.la;exact⟨p,h4,by rw[h5];exact h3,by rw[h5];exact I⟩
theorem LA.load{w1:World}(p:LA S w)(W:Old S w)(G:Bq w w1){k x:Nat}(E:p.ls[k]? =some x):
  ∃ad,p.a=some ad/\∀(H:Hp) (nx:Nat) (iv:Iv) (O:Nat->Sx.eH) J,Rel H nx iv w.heap.size w1 O J->J.cell? (ad.add ((k:Int).toNat*1))=some (.int .u32 x):=by
 obtain⟨ad,Y,I,h3⟩:=p.cell k x E;refine⟨ad,Y,fun H nx iv O J r=>?_⟩;rw[aK,av];exact gN W G r I h3
def EQ(l:List Nat):List Value:=l.map fun(x:Nat)=>.int .u32 (x:Int)
theorem gP(l:List Nat):(EQ l).length=l.length:=by simp[EQ]
theorem uR{k x:Nat}(h:l[k]? =some x):(EQ l)[k]? =some (.int .u32 x):=by simp[EQ,h]
theorem aBO(l:List Nat)(k x:Nat)(h:k<l.length):(EQ l).take k++[.int .u32 x]++(EQ l).drop (k+1)=EQ (l.set k x):=by
 have Y:k<(EQ l).length:=by rw[gP];exact h
 have:(EQ l).set k (.int .u32 x)=EQ (l.set k x):=by simp[EQ,List.map_set]
 rw[<-this,List.set_eq_take_append_cons_drop,aM Y];simp
theorem jf(l:List Nat)(k x:Nat)(h:k<l.length){e:Nat}(L:e=k):(EQ l).take e++[.int .u32 (x:Int)]++(EQ l).drop (e+1)=EQ (l.set k x):=by
 subst L;exact aBO l e x h
theorem sn(n:Nat):List.replicate n (Value.int .u32 0)=EQ (List.replicate n 0):=by simp[EQ]
end Go.Ex
namespace Go.Sx
open Go Go.Ex Go.Proofs
variable{ls:List Nat}{O:Nat->Sx.eH}
theorem Rel.pf{H:Hp}{nx:Nat}{iv:Iv}{B:Nat}{w J:World}(r:Rel H nx iv B w O J){id t:Nat}(h:dV H id=some (.arr t (EQ ls)))(Qj:Lm ls)(hle:ls.length<=9223372036854775807):
  dZ J (fun g=>g=(O id).g) (.slice (some ⟨(O id).g,0,none⟩) ls.length ls.length) ls:=by
 refine⟨Qj,hle,_,_,rfl,lr,fun j x E=>⟨_,rfl,rfl,?_⟩⟩;have h0:(⟨(O id).g,0,none⟩:Addr).add j=⟨(O id).g,j,none⟩:=by
  cases j with
  |zero=>rfl
  |succ j=>simp[Addr.add]
 rw[h0,cell_of (r.arr id t _ h)];exact uR E
end Go.Sx
namespace Go.Ex
open Go Go.Sx Go.Proofs
section
variable{S:Nat->Prop}
theorem Dl{out ls ms:List Nat}{i x o d:Nat}(E:ls[i]? =some x)(ho:ms.getD i 0=o)(hd:out[i]? =some d){carry:Nat}(h:val (out.take i)+wt i*carry=val (ls.take i)+val (ms.take i)):
  val ((out.set i ((x+o+carry) % 4294967296)).take (i+1))+wt (i+1)*((x+o+carry) / 4294967296)=val (ls.take (i+1))+val (ms.take (i+1)):=by
 have N:=(aH.1 hd).1;have Y:(out.set i ((x+o+carry) % 4294967296))[i]? =some ((x+o+carry) % 4294967296):=by rw[aQ N]
 rw[eK Y,List.take_set_of_le lr,eK E,jb];have I:val (ms.take (i+1))=val (ms.take i)+wt i*o:=by
  cases hm:ms[i]? with
  |some y=>
   have:y=o:=by rw[<-ho];simp[List.getD,hm]
   rw[eK hm,this]
  |none=>
   have:o=0:=by rw[<-ho];simp[List.getD,hm]
   rw[this,bM,hm];simp
 rw[I];have h3:=Nat.div_add_mod (x+o+carry) 4294967296;generalize (x+o+carry) / 4294967296=q at h3 ⊢;generalize (x+o+carry) % 4294967296=r at h3 ⊢;have h4:wt i*(4294967296*q+r)=wt i*(x+o+carry):=by rw[h3]
 rw[bZ,bZ,bZ,<-bu,bc (wt i) 4294967296]at h4;omega
theorem Hz{w:World}{v u:Value}{n m:Nat}(W:Old S w)(U:dm w S v n)(hm:dm w S u m)(Tn:ln n<=1000000000000)(Qj:ln m<=1000000000000):
  eL PG FS.sT #[v,u] w (eY w fun v' F=>dm F (Nf w F) v' (n+m)):=by
 obtain⟨p,rfl,Rv,SI⟩:=U.la;obtain⟨q,rfl,Sk,Rq⟩:=hm.la;have QQ:=eJ p.lm SI;have VC:=eJ q.lm Rq;rw[Rv]at QQ;rw[Sk]at VC;have Wp:n+m=val p.ls+val q.ls:=by rw[Rv,Sk]
 rw[Wp];refine wk ce ?_;refine zk.mk ?_ ?_<;>intro h
 case' refine_1=>
  have h:p.ls.length<q.ls.length:=by simpa using h
  have hpx:p.ls.length<=q.ls.length:=by omega
  have hx12:q.ls.length<=1000000000000:=by omega
  rw[Nat.add_comm];generalize QY:q=x at*
  generalize hgy:p=y at*
 case' refine_2=>
  have h:¬p.ls.length<q.ls.length:=by simpa using h
  have hpx:q.ls.length<=p.ls.length:=by omega
  have hx12:p.ls.length<=1000000000000:=by omega
  generalize QY:p=x at*
  generalize hgy:q=y at*
 all_goals
  refine⟨((x.ls.length+1:Nat):Int),wo,x.ls.length+1,x.ls.length+1,rfl,rfl,lr,be,be,Nat×List Nat×Nat×World,fun z=>⟨[(0,sV x.a x.ls.length x.c),(1,sV y.a y.ls.length y.c),(5,.o (.s 0 0 (x.ls.length+1) (x.ls.length+1))),(6,.o (.v (.int .u32 z.2.2.1))),(21,iZ x.ls.length),(22,iZ z.1)],
    [(0,.arr T.uint32 (EQ z.2.1))],1,[],z.2.2.2⟩,fun z=>x.ls.length-z.1,
   fun z=>z.1<=x.ls.length/\Bq w z.2.2.2/\z.2.1.length=x.ls.length+1/\Lm z.2.1/\z.2.2.1<2/\val (z.2.1.take z.1)+wt z.1*z.2.2.1=val (x.ls.take z.1)+val (y.ls.take z.1),?_,?_⟩
  .intro O J r;rw[sn]at r;exact⟨(0,List.replicate (x.ls.length+1) 0,0,J),⟨ce,r.cj,ce,Lm.replicate _,ce,by simp[val]⟩,sbgn [] r⟩
  .rintro⟨i,out,carry,w1⟩ ⟨N,G,Rw,Qf,hc,hv⟩;dsimp only at N G Rw Qf hc hv ⊢;refine zk.mk ?_ ?_<;>intro h
   .have h:=dL h;obtain⟨xi,Q5⟩:=gO x.ls i;obtain⟨d,hd⟩:=gO out i;obtain⟨ad,QV,QX⟩:=x.load W G Q5;have Rk:=x.lm.at Q5;refine zk.mk ?_ ?_<;>intro I
    .have I:=dL I;obtain⟨o,ho⟩:=gO y.ls i;obtain⟨ad2,Q9,So⟩:=y.load W G ho;have ZR:=y.lm.at ho;have WJ:y.ls.getD i 0=o:=by simp[List.getD,ho]
     refine⟨ad2,Q9,be,.int .u32 o,So _ _ _,ad,QV,be,.int .u32 xi,QX _ _ _,?_⟩;refine cW (cU (GT:=fun _ _ v _=>v= .tuple #[.int .u32 ((xi+o+carry) % 4294967296:Nat),.int .u32 ((xi+o+carry) / 4294967296:Nat)]) (fun O J r=>JV xi o carry J Rk ZR be) ?_);rintro O J v F r L A rfl;replace G:=G.tr A;have Pt:=Dl Q5 WJ hd hv;have SX:(xi+o+carry) / 4294967296<2:=by omega
     refine⟨be,by rw[gP];omega,EQ (out.set i ((xi+o+carry) % 4294967296)),jf out i _ be ce,((i+1:Nat):Int),wo,?_⟩;intro I8 w3 r3
     exact⟨(i+1,out.set i ((xi+o+carry) % 4294967296),(xi+o+carry) / 4294967296,w3),⟨by dsimp only;omega,G.tr r3.cj,by simp[Rw],Qf.set (cM _ bv),SX,Pt⟩,
      sbgn [] r3,by dsimp only;omega⟩
    .have I:¬i<y.ls.length:=by simpa using I
     have WJ:y.ls.getD i 0=0:=by simp[List.getD,List.getElem?_eq_none (show y.ls.length<=i by omega)]
     refine⟨ad,QV,be,.int .u32 xi,QX _ _ _,?_⟩;refine cW (cU (GT:=fun _ _ v _=>v= .tuple #[.int .u32 ((xi+0+carry) % 4294967296:Nat),.int .u32 ((xi+0+carry) / 4294967296:Nat)]) (fun O J r=>JV xi 0 carry J Rk bv be) ?_);rintro O J v F r L A rfl;replace G:=G.tr A;have Pt:=Dl Q5 WJ hd hv;have SX:(xi+0+carry) / 4294967296<2:=by omega
     refine⟨be,by rw[gP];omega,EQ (out.set i ((xi+0+carry) % 4294967296)),jf out i _ be ce,((i+1:Nat):Int),wo,?_⟩;intro I8 w3 r3
     exact⟨(i+1,out.set i ((xi+0+carry) % 4294967296),(xi+0+carry) / 4294967296,w3),⟨by dsimp only;omega,G.tr r3.cj,by simp[Rw],Qf.set (cM _ bv),SX,Pt⟩,
      sbgn [] r3,by dsimp only;omega⟩
   .have VL:i=x.ls.length:=by
     have:¬i<x.ls.length:=by simpa using h
     omega
    subst VL;obtain⟨d,hd⟩:=gO out x.ls.length;have UZ:val (out.set x.ls.length carry)=val x.ls+val y.ls:=by
     have Y:(out.set x.ls.length carry)[x.ls.length]? =some carry:=by rw[aQ be]
     have I:=eK Y;rw[bX (by simp;omega),List.take_set_of_le lr]at I;rw[bK,bX hpx]at hv;omega
    have hlm2:Lm (out.set x.ls.length carry):=Qf.set be;refine⟨be,by rw[gP];omega,EQ (out.set x.ls.length carry),jf out x.ls.length carry be ce,?_⟩;generalize Yn:out.set x.ls.length carry=fin at UZ hlm2;have Qp:fin.length=x.ls.length+1:=by rw[<-Yn];simp[Rw]
    refine gU (GT:=fun O _ v F=>dZ F (fun g=>g=(O 0).g) v (eO fin)) (H':=[]) 0 rfl ce trivial rfl (fun O J r=>r.nn 0 _ rfl (by intros;simp) ce) (fun O J r=>?_) ?_
    .have hL:=r.pf (id:=0) rfl hlm2 be;rw[Qp]at hL;exact fY (fun g V=>by rw[V];exact(r.low 0 _ rfl (r.nn 0 _ rfl (by intros;simp) ce)).2) hL
    rintro O J v F r L A hL;replace G:=G.tr A;have Pq:=r.low 0 _ rfl (r.nn 0 _ rfl (by intros;simp) ce);generalize (O 0).g=g at*
    have hs:=L.size;intro I8 w3 r3;refine⟨_,rfl,G.tr r3.cj,eO fin,?_,(fL fin).2.1,?_⟩
    .refine(hL.cX fun k R=>?_).cV fun k R=>.inr ?_
     .rw[R];exact r3.sk.block g be ce
     .rw[R];have:=r3.size;omega
    .rw[(fL fin).1,UZ]
end
variable{ls ms out:List Nat}{A9 a b i k o t:Nat}{S:Nat->Prop}{v:Value}{w:World}
theorem LD(ho:ms.getD i 0=o):val (ms.take (i+1))=val (ms.take i)+wt i*o:=by
 cases hm:ms[i]? with
 |some y=>
  have:y=o:=by rw[<-ho];simp[List.getD,hm]
  rw[eK hm,this]
 |none=>
  have:o=0:=by rw[<-ho];simp[List.getD,hm]
  rw[this,bM,hm];simp
theorem CB{x d e:Nat}(E:ls[i]? =some x)(ho:ms.getD i 0=o)(hd:out[i]? =some d){b':Nat}(h:val (out.take i)+val (ms.take i)=val (ls.take i)+wt i*b)(L:e+(o+b)=x+4294967296*b'):
  val ((out.set i e).take (i+1))+val (ms.take (i+1))=val (ls.take (i+1))+wt (i+1)*b':=by
 have N:=(aH.1 hd).1;have Y:(out.set i e)[i]? =some e:=by rw[aQ N]
 rw[eK Y,List.take_set_of_le lr,eK E,LD ho,jb];have h4:wt i*(e+(o+b))=wt i*(x+4294967296*b'):=by rw[L]
 rw[bZ,bZ,bZ,<-bu,bc (wt i) 4294967296]at h4;omega
theorem zb{u:Value}{n m:Nat}(W:Old S w)(U:dm w S v n)(hm:dm w S u m)(hle:m<=n)(Tn:ln n<=1000000000000):
  eL PG FS.qw #[v,u] w (eY w fun v' F=>dm F (Nf w F) v' (n-m)):=by
 obtain⟨x,rfl,Rv,SI⟩:=U.la;obtain⟨y,rfl,Sk,Rq⟩:=hm.la;have QQ:=eJ x.lm SI;rw[Rv]at QQ;have hyx:y.ls.length<=x.ls.length:=by
  rw[eJ x.lm SI,eJ y.lm Rq,Rv,Sk];exact fP hle
 refine vG ce ?_
 refine⟨x.ls.length,x.ls.length,rfl,rfl,lr,be,be,Nat×List Nat×Nat×World,fun z=>⟨[(0,sV x.a x.ls.length x.c),(1,sV y.a y.ls.length y.c),(5,.o (.s 0 0 x.ls.length x.ls.length)),(6,.o (.v (.int .u32 z.2.2.1))),(13,iZ x.ls.length),(14,iZ z.1)],
   [(0,.arr T.uint32 (EQ z.2.1))],1,[],z.2.2.2⟩,fun z=>x.ls.length-z.1,
  fun z=>z.1<=x.ls.length/\Bq w z.2.2.2/\z.2.1.length=x.ls.length/\Lm z.2.1/\z.2.2.1<2/\val (z.2.1.take z.1)+val (y.ls.take z.1)=val (x.ls.take z.1)+wt z.1*z.2.2.1,?_,?_⟩
 .intro O J r;rw[sn]at r;exact⟨(0,List.replicate x.ls.length 0,0,J),⟨ce,r.cj,ce,Lm.replicate _,ce,by simp[val]⟩,sbgn [] r⟩
 .rintro⟨i,out,b,w1⟩ ⟨N,G,Rw,Qf,hc,hv⟩;dsimp only at N G Rw Qf hc hv ⊢;apply bS<;>intro h
  .have h:=dL h;obtain⟨xi,Q5⟩:=gO x.ls i;obtain⟨d,hd⟩:=gO out i;obtain⟨ad,QV,QX⟩:=x.load W G Q5;have Rk:=x.lm.at Q5;apply bS<;>intro I
   .have I:=dL I;obtain⟨o,ho⟩:=gO y.ls i;obtain⟨ad2,Q9,So⟩:=y.load W G ho;have ZR:=y.lm.at ho;have WJ:y.ls.getD i 0=o:=by simp[List.getD,ho]
    refine⟨ad2,Q9,be,.int .u32 o,So _ _ _,ad,QV,be,.int .u32 xi,QX _ _ _,?_⟩;refine cW (cU (GT:=fun _ _ v _=>v= .tuple #[.int .u32 ((xi+4294967296-(o+b)) % 4294967296:Nat),.int .u32 ((if xi<o+b then 1 else 0:Nat):Int)]) (fun O J r=>JW xi o b J Rk ZR be) ?_);rintro O J v F r L A rfl;replace G:=G.tr A;have RN:(xi+4294967296-(o+b)) % 4294967296+(o+b)=xi+4294967296*(if xi<o+b then 1 else 0):=by split<;>omega
    have QZ:(xi+4294967296-(o+b)) % 4294967296<4294967296:=cM _ bv;have Q2:(if xi<o+b then 1 else 0:Nat)<2:=by split<;>omega
    generalize (xi+4294967296-(o+b)) % 4294967296=e at RN QZ;generalize (if xi<o+b then 1 else 0:Nat)=b' at RN Q2;have Pt:=CB Q5 WJ hd hv RN;refine⟨be,by rw[gP];omega,EQ (out.set i e),jf out i _ be ce,((i+1:Nat):Int),wo,?_⟩;intro I8 w3 r3
    exact⟨(i+1,out.set i e,b',w3),⟨by dsimp only;omega,G.tr r3.cj,by simp[Rw],Qf.set QZ,Q2,Pt⟩,
     sbgn [] r3,by dsimp only;omega⟩
   .have I:¬i<y.ls.length:=by simpa using I
    have WJ:y.ls.getD i 0=0:=by simp[List.getD,List.getElem?_eq_none (show y.ls.length<=i by omega)]
    refine⟨ad,QV,be,.int .u32 xi,QX _ _ _,?_⟩;refine cW (cU (GT:=fun _ _ v _=>v= .tuple #[.int .u32 ((xi+4294967296-(0+b)) % 4294967296:Nat),.int .u32 ((if xi<0+b then 1 else 0:Nat):Int)]) (fun O J r=>JW xi 0 b J Rk bv be) ?_);rintro O J v F r L A rfl;replace G:=G.tr A;have RN:(xi+4294967296-(0+b)) % 4294967296+(0+b)=xi+4294967296*(if xi<0+b then 1 else 0):=by split<;>omega
    have QZ:(xi+4294967296-(0+b)) % 4294967296<4294967296:=cM _ bv;have Q2:(if xi<0+b then 1 else 0:Nat)<2:=by split<;>omega
    generalize (xi+4294967296-(0+b)) % 4294967296=e at RN QZ;generalize (if xi<0+b then 1 else 0:Nat)=b' at RN Q2;have Pt:=CB Q5 WJ hd hv RN;refine⟨be,by rw[gP];omega,EQ (out.set i e),jf out i _ be ce,((i+1:Nat):Int),wo,?_⟩;intro I8 w3 r3
    exact⟨(i+1,out.set i e,b',w3),⟨by dsimp only;omega,G.tr r3.cj,by simp[Rw],Qf.set QZ,Q2,Pt⟩,
     sbgn [] r3,by dsimp only;omega⟩
  .have VL:i=x.ls.length:=by
    have:¬i<x.ls.length:=by simpa using h
    omega
   subst VL;have UZ:val out=n-m:=by
    rw[bX be,bX hyx,bK,Rv,Sk]at hv;have Y:=qI Qf;rw[Rw]at Y;have:b=0\/b=1:=by omega
    rcases this with rfl|rfl
    .omega
    .omega
   refine gU (GT:=fun O _ v F=>dZ F (fun g=>g=(O 0).g) v (eO out)) (H':=[]) 0 rfl ce trivial rfl (fun O J r=>r.nn 0 _ rfl (by intros;simp) ce) (fun O J r=>?_) ?_
   .have hL:=r.pf (id:=0) rfl Qf be;rw[Rw]at hL;exact fY (fun g V=>by rw[V];exact(r.low 0 _ rfl (r.nn 0 _ rfl (by intros;simp) ce)).2) hL
   rintro O J v F r L A hL;replace G:=G.tr A;have Pq:=r.low 0 _ rfl (r.nn 0 _ rfl (by intros;simp) ce);generalize (O 0).g=g at*
   have hs:=L.size;intro I8 w3 r3;refine⟨_,rfl,G.tr r3.cj,eO out,?_,(fL out).2.1,?_⟩
   .refine(hL.cX fun k R=>?_).cV fun k R=>.inr ?_
    .rw[R];exact r3.sk.block g be ce
    .rw[R];have:=r3.size;omega
   .rw[(fL out).1,UZ]
theorem Ih{p c:Nat}(ho:out[p]? =some o)(h:val out+wt p*c=A9)(ht:t=a+o+c):
  val (out.set p (t % 4294967296))+wt (p+1)*(t / 4294967296)=A9+wt p*a:=by
 have Y:=zY (x:=t % 4294967296) ho;rw[jb];have h3:=Nat.div_add_mod t 4294967296;generalize t / 4294967296=q at h3 ⊢;generalize t % 4294967296=r at h3 Y ⊢;have h4:wt p*(4294967296*q+r)=wt p*(a+o+c):=by rw[h3,ht]
 rw[bZ,bZ,bZ,<-bu,bc (wt p) 4294967296]at h4;omega
def Zf(out:List Nat)(p:Nat):Prop:=∀(j:Nat) z,p<=j->out[j]? =some z->z=0
theorem Zf.set{p x:Nat}(h:Zf out p)(R:k<p):Zf (out.set k x) p:=fun j z hj hz=>by
 rw[aZ be]at hz;exact h j z hj hz
theorem NQ(ha:a<4294967296)(A:b<4294967296):a*b<=18446744065119617025:=by
 have:a*b<=4294967295*4294967295:=Nat.mul_le_mul be be;omega
theorem JQ{u:Value}{n m:Nat}(W:Old S w)(U:dm w S v n)(hm:dm w S u m)(Tn:ln n<=1000000000000)(Qj:ln m<=1000000000000):
  eL PG FS.qz #[v,u] w (eY w fun v' F=>dm F (Nf w F) v' (n*m)):=by
 obtain⟨x,rfl,Rv,SI⟩:=U.la;obtain⟨y,rfl,Sk,Rq⟩:=hm.la;have QQ:=eJ x.lm SI;rw[Rv]at QQ;have VC:=eJ y.lm Rq;rw[Sk]at VC;refine vH ce ?_;obtain⟨Do,hL⟩:∃Do,Do=x.ls.length+y.ls.length:=⟨_,rfl⟩
 refine⟨(Do:Int),wo,Do,Do,rfl,rfl,lr,be,be,Nat×List Nat×World,fun z=>⟨[(1,sV y.a y.ls.length y.c),(5,.o (.s 0 0 Do Do)),(18,sV x.a x.ls.length x.c),(19,iZ x.ls.length),(20,iZ z.1)],
   [(0,.arr T.uint32 (EQ z.2.1))],1,[],z.2.2⟩,fun z=>x.ls.length-z.1,
  fun z=>z.1<=x.ls.length/\Bq w z.2.2/\z.2.1.length=Do/\Lm z.2.1/\val z.2.1=val (x.ls.take z.1)*m/\Zf z.2.1 (z.1+y.ls.length),?_,?_⟩
 .intro O J r;rw[sn]at r;exact⟨(0,List.replicate Do 0,J),⟨ce,r.cj,ce,Lm.replicate _,by simp[val,lS],fun j z _ hz=>by simp only[List.getElem?_replicate]at hz;split at hz<;>simp_all⟩,sbgn [] r⟩
 .rintro⟨i,out,w1⟩ ⟨N,G,Rw,Qf,hv,hz⟩;dsimp only at N G Rw Qf hv hz ⊢;apply bS<;>intro h
  .have h:=dL h;obtain⟨xi,Q5⟩:=gO x.ls i;obtain⟨ad,QV,QX⟩:=x.load W G Q5;have Rk:=x.lm.at Q5
   refine⟨ad,QV,be,.int .u32 xi,QX _ _ _,Nat×List Nat×Nat×World,fun z=>⟨[(1,sV y.a y.ls.length y.c),(5,.o (.s 0 0 Do Do)),(18,sV x.a x.ls.length x.c),(19,iZ x.ls.length),(20,iZ i),
     (6,iZ i),(7,.o (.v (.int .u32 xi))),(8,.o (.v (.int .u64 z.2.2.1))),(25,sV y.a y.ls.length y.c),(26,iZ y.ls.length),(27,iZ z.1)],
     [(0,.arr T.uint32 (EQ z.2.1))],1,[],z.2.2.2⟩,fun z=>y.ls.length-z.1,
    fun z=>z.1<=y.ls.length/\Bq w z.2.2.2/\z.2.1.length=Do/\Lm z.2.1/\z.2.2.1<4294967296/\val z.2.1+wt (i+z.1)*z.2.2.1=val (x.ls.take i)*m+wt i*xi*val (y.ls.take z.1)/\Zf z.2.1 (i+y.ls.length),?_,?_⟩
   .intro O J r;exact⟨(0,out,0,J),⟨ce,G.tr r.cj,Rw,Qf,ce,by simp[val,hv],hz⟩,sbgn [] r⟩
   .rintro⟨k,out,c,w1⟩ ⟨R,G,Rw,Qf,hc,hv,hz⟩;dsimp only at R G Rw Qf hc hv hz ⊢;apply bS<;>intro I
    .have I:=dL I;obtain⟨yk,hyk⟩:=gO y.ls k;obtain⟨ad2,Q9,So⟩:=y.load W G hyk;have hy32:=y.lm.at hyk;obtain⟨o,ho⟩:=gO out (i+k);have ZR:=Qf.at ho;have hm64:=NQ Rk hy32;refine⟨ad2,Q9,be,.int .u32 yk,So _ _ _,(xi:Int),fC be,(yk:Int),fC be,((xi*yk:Nat):Int),by rw[<-Int.natCast_mul];exact fC be,((i+k:Nat):Int),wo,be,.int .u32 o,by rw[aK,aS,av];exact uR ho,(o:Int),fC be,((xi*yk+o:Nat):Int),by rw[<-Int.natCast_add];exact fC be,?_⟩;obtain⟨t,ht⟩:∃t,t=xi*yk+o+c:=⟨_,rfl⟩
     refine⟨(t:Int),by rw[<-Int.natCast_add,<-ht];exact fC be,((i+k:Nat):Int),wo,((t % 4294967296:Nat):Int),fX _,bv,((t / 4294967296:Nat):Int),nq 32 bv,be,by rw[gP];omega,EQ (out.set (i+k) (t % 4294967296)),jf out (i+k) _ be (by simp only[aK];omega),((k+1:Nat):Int),wo,?_⟩;intro I8 w3 r3
     refine⟨(k+1,out.set (i+k) (t % 4294967296),t / 4294967296,w3),⟨by dsimp only;omega,G.tr r3.cj,by simp[Rw],Qf.set (cM _ bv),by dsimp only;omega,?_,hz.set be⟩,
      sbgn [] r3,by dsimp only;omega⟩
     have h5:=Ih (a:=xi*yk) ho hv ht;dsimp only
     rw[show i+(k+1)=i+k+1 by omega,h5,eK hyk,EH,bZ,Nat.add_assoc];congr 2;simp only[bu,Nat.mul_left_comm,bc]
    .have hkn:k=y.ls.length:=by
      have:¬k<y.ls.length:=by simpa using I
      omega
     subst hkn;obtain⟨o,ho⟩:=gO out (i+y.ls.length);have ho0:=hz _ _ lr ho;subst ho0;refine⟨((i+y.ls.length:Nat):Int),wo,(c:Int),by rw[fX,bh hc],be,by rw[gP];omega,EQ (out.set (i+y.ls.length) c),jf out (i+y.ls.length) _ be (by simp only[aK];omega),((i+1:Nat):Int),wo,?_⟩;intro I8 w3 r3
     refine⟨(i+1,out.set (i+y.ls.length) c,w3),⟨by dsimp only;omega,G.tr r3.cj,by simp[Rw],Qf.set hc,?_,?_⟩,
      sbgn [] r3,by dsimp only;omega⟩
     .have h5:=zY (x:=c) ho;dsimp only
      rw[bK,Sk]at hv;rw[eK Q5,Nat.add_mul];omega
     .intro j z hj hjz;dsimp only at hj;rw[aZ be]at hjz;exact hz j z be hjz
  .have VL:i=x.ls.length:=by
    have:¬i<x.ls.length:=by simpa using h
    omega
   subst VL;have UZ:val out=n*m:=by rw[hv,bK,Rv]
   refine gU (GT:=fun O _ v F=>dZ F (fun g=>g=(O 0).g) v (eO out)) (H':=[]) 0 rfl ce trivial rfl (fun O J r=>r.nn 0 _ rfl (by intros;simp) ce) (fun O J r=>?_) ?_
   .have hL:=r.pf (id:=0) rfl Qf be;rw[Rw]at hL;exact fY (fun g V=>by rw[V];exact(r.low 0 _ rfl (r.nn 0 _ rfl (by intros;simp) ce)).2) hL
   rintro O J v F r L A hL;replace G:=G.tr A;have Pq:=r.low 0 _ rfl (r.nn 0 _ rfl (by intros;simp) ce);generalize (O 0).g=g at*
   have hs:=L.size;intro I8 w3 r3;refine⟨_,rfl,G.tr r3.cj,eO out,?_,(fL out).2.1,?_⟩
   .refine(hL.cX fun k R=>?_).cV fun k R=>.inr ?_
    .rw[R];exact r3.sk.block g be ce
    .rw[R];have:=r3.size;omega
   .rw[(fL out).1,UZ]
theorem Ej{q:Nat}(ho:o<2^k):o ||| 2^k*q=o+2^k*q:=by
 rw[Nat.or_comm,<-Nat.two_pow_add_eq_or_of_lt ho,Nat.add_comm]
theorem Ma{x y:Nat}(E:x<18446744073709551616)(hy:y<18446744073709551616):IntKind.u64.wrap ((BitVec.ofInt IntKind.u64.bits x ||| BitVec.ofInt IntKind.u64.bits y).toNat:Int)=((x ||| y:Nat):Int):=by
 have e:∀z:Nat,BitVec.ofInt 64 (z:Int)=BitVec.ofNat 64 z:=fun z=>by
  apply BitVec.eq_of_toNat_eq;simp
 show IntKind.u64.wrap ((BitVec.ofInt 64 x ||| BitVec.ofInt 64 y).toNat:Int)=_;rw[e,e,BitVec.toNat_or,BitVec.toNat_ofNat,BitVec.toNat_ofNat,bh E,bh hy];exact fC (Nat.or_lt_two_pow (n:=64) E hy)
theorem Ei(R:k<=63)(h:a*2^k<18446744073709551616):IntKind.u64.wrap ((a:Int)*2^min ((k:Int)).toNat IntKind.u64.bits)=((a*2^k:Nat):Int):=by
 have Y:min ((k:Int)).toNat IntKind.u64.bits=k:=by show min ((k:Int)).toNat 64=k;omega
 rw[Y,show(a:Int)*2^k=((a*2^k:Nat):Int) by simp];exact fC h
theorem Ij(ha:ls[i]? =some a)(ho:out[i]? =some o)(hz:out[i+1]? =some 0)(hv:val out=val (ls.take i)*2^b):
  val ((out.set i (o+a*2^b % 4294967296)).set (i+1) (a*2^b / 4294967296))=val (ls.take (i+1))*2^b:=by
 have Y:=zY (x:=o+a*2^b % 4294967296) ho;have I:(out.set i (o+a*2^b % 4294967296))[i+1]? =some 0:=by rw[aZ be];exact hz
 have h3:=zY (x:=a*2^b / 4294967296) I;rw[eK ha,Nat.add_mul,bu];rw[jb]at h3;generalize a*2^b=t at*
 have h4:=Nat.div_add_mod t 4294967296;generalize t / 4294967296=q at*
 generalize t % 4294967296=r at*
 have h5:wt i*(o+r)=wt i*o+wt i*r:=bZ _ _ _;have h6:4294967296*wt i*q=wt i*(4294967296*q):=by rw[bc 4294967296 (wt i),bu]
 rw[<-h4,bZ];omega
def Md(w F:World)(v:Value)(ls:List Nat):Prop:=∃g,v= .slice (some ⟨g,0,none⟩) ls.length ls.length/\w.heap.size<=g/\F.heap[g]? =some (.cells (EQ ls).toArray T.uint32 (0,0))/\Lm ls
theorem xl(W:Old S w)(h:dZ w S v ls)(hl:ls.length<=1000000000000)(A:b<32):
  eL PG FS.oY #[v,.int .u64 b] w (eY w fun v' F=>∃out,Md w F v' out/\out.length=ls.length+1/\val out=val ls*2^b):=by
 obtain⟨x,rfl,rfl⟩:=h.la;refine sj ce ?_;have hp32:2^b<=2^31:=Nat.pow_le_pow_right bv be
 refine⟨((x.ls.length+1:Nat):Int),wo,x.ls.length+1,x.ls.length+1,rfl,rfl,lr,be,be,Nat×List Nat×World,fun z=>⟨[(1,.o (.v (.int .u64 b))),(5,.o (.s 0 0 (x.ls.length+1) (x.ls.length+1))),(13,sV x.a x.ls.length x.c),(14,iZ x.ls.length),(15,iZ z.1)],
   [(0,.arr T.uint32 (EQ z.2.1))],1,[],z.2.2⟩,fun z=>x.ls.length-z.1,
  fun z=>z.1<=x.ls.length/\Bq w z.2.2/\z.2.1.length=x.ls.length+1/\Lm z.2.1/\val z.2.1=val (x.ls.take z.1)*2^b/\Zf z.2.1 (z.1+1)/\(∀o,z.2.1[z.1]? =some o->o<2^b),?_,?_⟩
 .intro O J r;rw[sn]at r;refine⟨(0,List.replicate (x.ls.length+1) 0,J),⟨ce,r.cj,ce,Lm.replicate _,by simp[val,lS],fun j z _ hz=>?_,fun o ho=>?_⟩,sbgn [] r⟩
  .simp only[List.getElem?_replicate]at hz;split at hz<;>simp_all
  .simp only[List.getElem?_replicate]at ho;split at ho
   .injection ho with ho;subst ho;exact cJ _
   .cases ho
 .rintro⟨i,out,w1⟩ ⟨N,G,Rw,Qf,hv,hz,Pq⟩;dsimp only at N G Rw Qf hv hz Pq ⊢;apply bS<;>intro h
  .have h:=dL h;obtain⟨a,Q5⟩:=gO x.ls i;obtain⟨ad,QV,QX⟩:=x.load W G Q5;have Rk:=x.lm.at Q5;obtain⟨o,ho⟩:=gO out i;obtain⟨o1,TJ⟩:=gO out (i+1);have e0:=hz _ _ lr TJ;subst e0;have Tv:=Pq o ho;have Pt:=Ij Q5 ho TJ hv;have Td:a*2^b<=4294967295*2^31:=Nat.mul_le_mul be hp32;have Vy:a*2^b / 4294967296<2^b:=by
    rw[Nat.div_lt_iff_lt_mul bv,bc (2^b)];exact Nat.mul_lt_mul_of_pos_right Rk (cJ b)
   have XT:o ||| a*2^b % 4294967296=o+a*2^b % 4294967296:=by
    have:a*2^b % 4294967296=2^b*(a % 2^(32-b)):=by
     rw[show (4294967296:Nat)=2^(32-b)*2^b by rw[<-Nat.pow_add,Nat.sub_add_cancel be],Nat.mul_mod_mul_right,bc]
    rw[this];exact Ej Tv
   have Vu:o+a*2^b % 4294967296<4294967296:=by
    rw[<-XT];exact El be (cM _ bv)
   refine⟨ad,QV,be,.int .u32 a,QX _ _ _,(a:Int),fC be,be,((a*2^b:Nat):Int),Ei be be,?_⟩;generalize ht:a*2^b=t at*
   refine⟨be,.int .u32 o,by rw[aK,aS,av];exact uR ho,((t % 4294967296:Nat):Int),fX _,((o+t % 4294967296:Nat):Int),by rw[<-XT];exact aAp be (cM _ bv),be,by rw[gP];omega,EQ (out.set i (o+t % 4294967296)),jf out i _ be ce,((i+1:Nat):Int),wo,bv,((t / 4294967296:Nat):Int),nq 32 bv,((t / 4294967296:Nat):Int),by rw[fX];omega,be,by rw[gP];simp;omega,EQ ((out.set i (o+t % 4294967296)).set (i+1) (t / 4294967296)),jf _ (i+1) _ (by simp;omega) (by simp only[aK];omega),((i+1:Nat):Int),wo,?_⟩;intro I8 w3 r3
   refine⟨(i+1,(out.set i (o+t % 4294967296)).set (i+1) (t / 4294967296),w3),⟨by dsimp only;omega,G.tr r3.cj,by simp[Rw],(Qf.set Vu).set be,Pt,fun j z hj hjz=>?_,fun o2 RB=>?_⟩,
    sbgn [] r3,by dsimp only;omega⟩
   .dsimp only at hj;rw[aZ be,aZ be]at hjz;exact hz j z be hjz
   .rw[aQ (by simp;omega)]at RB;injection RB with RB;omega
  .have VL:i=x.ls.length:=by
    have:¬i<x.ls.length:=by simpa using h
    omega
   subst VL;rw[bK]at hv;intro I8 w3 r3;refine⟨_,rfl,G.tr r3.cj,out,⟨(I8 0).g,by rw[Rw];rfl,(r3.low 0 _ rfl (r3.nn 0 _ rfl (by intros;simp) ce)).1,r3.arr 0 _ _ rfl,Qf⟩,Rw,hv⟩
theorem Du{d q:Nat}(ha32:a<4294967296)(ha:ls[i]? =some a)(hd:out[i]? =some d)(A:b<=32)(ht:t=a+4294967296*ls.getD (i+1) 0)(hq:q=t / 2^b % 4294967296)(hv:val (out.take i)+wt i*(val (ls.drop i) / 2^b)=A9):
  val ((out.set i q).take (i+1))+wt (i+1)*(val (ls.drop (i+1)) / 2^b)=A9:=by
 have N:=(aH.1 hd).1;have Y:(out.set i q)[i]? =some q:=by rw[aQ N]
 rw[eK Y,List.take_set_of_le lr,jb,<-hv];have hN:=jq ha;have I:val (ls.drop i) / 2^b=q+4294967296*(val (ls.drop (i+1)) / 2^b):=by
  have e1:val (ls.drop i) / 2^b / 4294967296=val (ls.drop (i+1)) / 2^b:=by
   rw[Nat.div_div_eq_div_mul,bc,<-Nat.div_div_eq_div_mul];congr 1;omega
  have e2:val (ls.drop i) / 2^b % 4294967296=q:=by
   have h3:∃z,val (ls.drop i)=t+2^b*(4294967296*z):=by
    cases E:ls[i+1]? with
    |some y=>
     have:=jq E;refine⟨2^(32-b)*val (ls.drop (i+1+1)),?_⟩;have h4:2^b*(4294967296*(2^(32-b)*val (ls.drop (i+1+1))))=18446744073709551616*val (ls.drop (i+1+1)):=by
      rw[Nat.mul_left_comm,<-bu (2^b),<-Nat.pow_add,Nat.add_sub_cancel' A,<-bu]
     rw[h4,hN,this,ht,List.getD,E];simp only[Option.getD_some]
     omega
    |none=>
     refine⟨0,?_⟩;have h5:ls.length<=i+1:=List.getElem?_eq_none_iff.1 E;rw[hN,List.drop_of_length_le h5,ht,List.getD,E];simp[val]
   obtain⟨z,hz⟩:=h3;rw[hz,Nat.add_mul_div_left _ _ (cJ b),Nat.add_mul_mod_self_left,hq]
  have:=Nat.div_add_mod (val (ls.drop i) / 2^b) 4294967296;rw[e1,e2]at this;omega
 rw[I,bZ,bc 4294967296 (wt i),bu];omega
theorem Me(W:Old S w)(h:dZ w S v ls)(hl:ls.length<=1000000000000)(A:b<32):
  eL PG FS.sU #[v,.int .u64 b] w (eY w fun v' F=>dm F (Nf w F) v' (val ls / 2^b)):=by
 obtain⟨x,rfl,rfl⟩:=h.la;refine wm ce ?_
 refine⟨x.ls.length,x.ls.length,rfl,rfl,lr,be,be,Nat×List Nat×World,fun z=>⟨[(0,sV x.a x.ls.length x.c),(1,.o (.v (.int .u64 b))),(5,.o (.s 0 0 x.ls.length x.ls.length)),(12,iZ x.ls.length),(13,iZ z.1)],
   [(0,.arr T.uint32 (EQ z.2.1))],1,[],z.2.2⟩,fun z=>x.ls.length-z.1,
  fun z=>z.1<=x.ls.length/\Bq w z.2.2/\z.2.1.length=x.ls.length/\Lm z.2.1/\val (z.2.1.take z.1)+wt z.1*(val (x.ls.drop z.1) / 2^b)=val x.ls / 2^b,?_,?_⟩
 .intro O J r;rw[sn]at r;exact⟨(0,List.replicate x.ls.length 0,J),⟨ce,r.cj,ce,Lm.replicate _,by simp[val,kD]⟩,sbgn [] r⟩
 .rintro⟨i,out,w1⟩ ⟨N,G,Rw,Qf,hv⟩;dsimp only at N G Rw Qf hv ⊢;apply bS<;>intro h
  .have h:=dL h;obtain⟨a,Q5⟩:=gO x.ls i;obtain⟨ad,QV,QX⟩:=x.load W G Q5;have Rk:=x.lm.at Q5;obtain⟨d,hd⟩:=gO out i;refine⟨ad,QV,be,.int .u32 a,QX _ _ _,(a:Int),fC be,((i+1:Nat):Int),wo,?_⟩;apply bS<;>intro I
   .have I:i+1<x.ls.length:=by
     have:((i+1:Nat):Int)<x.ls.length:=aJ I;omega
    obtain⟨y,hy⟩:=gO x.ls (i+1);obtain⟨ad2,Q9,So⟩:=x.load W G hy;have hy32:=x.lm.at hy;have Sj:x.ls.getD (i+1) 0=y:=by simp[List.getD,hy]
    have XT:a ||| y*2^32=a+4294967296*y:=by
     rw[bc];exact Ej (k:=32) Rk
    refine⟨((i+1:Nat):Int),wo,ad2,Q9,be,.int .u32 y,So _ _ _,(y:Int),fC be,bv,((y*2^32:Nat):Int),Ei (k:=32) bv be,((a+4294967296*y:Nat):Int),by rw[Ma be be,XT],be,(((a+4294967296*y) / 2^b:Nat):Int),nq b be,(((a+4294967296*y) / 2^b % 4294967296:Nat):Int),fX _,?_⟩;have Pt:=Du (t:=a+4294967296*y) Rk Q5 hd be (by rw[Sj]) rfl hv;generalize hq:(a+4294967296*y) / 2^b % 4294967296=q at*
    have hq32:q<4294967296:=by rw[<-hq];exact cM _ bv
    refine⟨be,by rw[gP];omega,EQ (out.set i q),jf out i _ be ce,((i+1:Nat):Int),wo,?_⟩;intro I8 w3 r3
    exact⟨(i+1,out.set i q,w3),⟨by dsimp only;omega,G.tr r3.cj,by simp[Rw],Qf.set hq32,Pt⟩,
     sbgn [] r3,by dsimp only;omega⟩
   .have I:¬i+1<x.ls.length:=by
     have:¬((i+1:Nat):Int)<x.ls.length:=aL I;omega
    have Sj:x.ls.getD (i+1) 0=0:=by simp[List.getD,List.getElem?_eq_none (show x.ls.length<=i+1 by omega)]
    refine⟨be,((a / 2^b:Nat):Int),nq b be,((a / 2^b % 4294967296:Nat):Int),fX _,?_⟩;have Pt:=Du (t:=a) Rk Q5 hd be (by rw[Sj];omega) rfl hv;generalize hq:a / 2^b % 4294967296=q at*
    have hq32:q<4294967296:=by rw[<-hq];exact cM _ bv
    refine⟨be,by rw[gP];omega,EQ (out.set i q),jf out i _ be ce,((i+1:Nat):Int),wo,?_⟩;intro I8 w3 r3
    exact⟨(i+1,out.set i q,w3),⟨by dsimp only;omega,G.tr r3.cj,by simp[Rw],Qf.set hq32,Pt⟩,
     sbgn [] r3,by dsimp only;omega⟩
  .have VL:i=x.ls.length:=by
    have:¬i<x.ls.length:=by simpa using h
    omega
   subst VL;have UZ:val out=val x.ls / 2^b:=by
    rw[List.drop_length,bX be]at hv;simpa [val]using hv
   refine gU (GT:=fun O _ v F=>dZ F (fun g=>g=(O 0).g) v (eO out)) (H':=[]) 0 rfl ce trivial rfl (fun O J r=>r.nn 0 _ rfl (by intros;simp) ce) (fun O J r=>?_) ?_
   .have hL:=r.pf (id:=0) rfl Qf be;rw[Rw]at hL;exact fY (fun g V=>by rw[V];exact(r.low 0 _ rfl (r.nn 0 _ rfl (by intros;simp) ce)).2) hL
   rintro O J v F r L A hL;replace G:=G.tr A;have Pq:=r.low 0 _ rfl (r.nn 0 _ rfl (by intros;simp) ce);generalize (O 0).g=g at*
   have hs:=L.size;intro I8 w3 r3;refine⟨_,rfl,G.tr r3.cj,eO out,?_,(fL out).2.1,?_⟩
   .refine(hL.cX fun k R=>?_).cV fun k R=>.inr ?_
    .rw[R];exact r3.sk.block g be ce
    .rw[R];have:=r3.size;omega
   .rw[(fL out).1,UZ]
theorem Im{by_ rest x d:Nat}(E:ls[k]? =some x)(hd:out[k]? =some d)(ht:t=rest*4294967296+x)
  (hv:val (ls.drop (k+1))=by_*val (out.drop (k+1))+rest):val (ls.drop k)=by_*val ((out.set k (t / by_)).drop k)+t % by_:=by
 have N:=(aH.1 hd).1;have Y:(out.set k (t / by_))[k]? =some (t / by_):=by rw[aQ N]
 rw[jq Y,List.drop_set_of_lt (show k<k+1 by omega),jq E,hv,bZ,bZ];have I:=Nat.div_add_mod t by_;rw[Nat.mul_left_comm by_];omega
theorem Mc(h:t<18446744073709551616):IntKind.u64.wrap ((t:Int).tdiv (b:Int))=((t / b:Nat):Int):=by
 have Y:=Nat.div_le_self t b;rw[Int.tdiv_eq_ediv_of_nonneg be,<-Int.natCast_ediv];exact fC be
theorem mT(t b:Nat):(t:Int).tmod (b:Int)=((t % b:Nat):Int):=by
 rw[Int.tmod_eq_emod_of_nonneg be,<-Int.natCast_emod]
theorem JT(W:Old S w)(h:dZ w S v ls)(hl:ls.length<=1000000000000)(A:0<b)(Q2:b<4294967296):
  eL PG FS.rB #[v,.int .u32 b] w (eY w fun v' F=>∃q,v'= .tuple #[q,.int .u32 ((val ls % b:Nat):Int)]/\dm F (Nf w F) q (val ls / b)):=by
 obtain⟨x,rfl,rfl⟩:=h.la;refine vJ ce ?_
 refine⟨x.ls.length,x.ls.length,rfl,rfl,lr,be,be,(x.ls.length:Int)-1,wo,Nat×Nat×List Nat×World,fun z=>⟨[(0,sV x.a x.ls.length x.c),(1,.o (.v (.int .u32 b))),(4,sV none 0 0),(5,.o (.v (.int .u32 0))),(6,.o (.s 0 0 x.ls.length x.ls.length)),(7,.o (.v (.int .u64 z.2.1))),(8,.o (.v (iV ((z.1:Int)-1))))],
   [(0,.arr T.uint32 (EQ z.2.2.1))],1,[],z.2.2.2⟩,fun z=>z.1,
  fun z=>z.1<=x.ls.length/\Bq w z.2.2.2/\z.2.2.1.length=x.ls.length/\Lm z.2.2.1/\z.2.1<b/\val (x.ls.drop z.1)=b*val (z.2.2.1.drop z.1)+z.2.1,?_,?_⟩
 .intro O J r;rw[sn]at r;exact⟨(x.ls.length,0,List.replicate x.ls.length 0,J),⟨ce,r.cj,ce,Lm.replicate _,by simpa using A,by simp[val]⟩,sbgn [] r⟩
 .rintro⟨k,rest,out,w1⟩ ⟨N,G,Rw,Qf,hr,hv⟩;dsimp only at N G Rw Qf hr hv ⊢;apply bS<;>intro h
  .have h:(k:Int)-1≥0:=aJ h;obtain⟨k,rfl⟩:∃q,k=q+1:=⟨k-1,be⟩
   rw[show ((k+1:Nat):Int)-1=(k:Int) by omega];obtain⟨a,Q5⟩:=gO x.ls k;obtain⟨ad,QV,QX⟩:=x.load W G Q5;have Rk:=x.lm.at Q5;obtain⟨d,hd⟩:=gO out k;refine⟨bv,((rest*2^32:Nat):Int),Ei (k:=32) bv be,ad,QV,be,.int .u32 a,QX _ _ _,(a:Int),fC be,?_⟩;have XT:rest*2^32 ||| a=rest*4294967296+a:=by
    rw[Nat.or_comm,bc,Ej (k:=32) Rk];omega
   refine⟨((rest*4294967296+a:Nat):Int),by rw[Ma be be,XT],?_⟩;generalize ht:rest*4294967296+a=t;have ht64:t<18446744073709551616:=by omega
   refine dP (idO 14) ?_;refine⟨(b:Int),fC be,be,((t / b:Nat):Int),Mc ht64,?_⟩;have hq:t / b<4294967296:=by
    rw[Nat.div_lt_iff_lt_mul A];have:=Nat.mul_le_mul_right 4294967296 hr;rw[Nat.succ_eq_add_one,Nat.add_mul]at this;omega
   have hm:t % b<b:=cM _ A;have Pt:=Im Q5 hd ht.symm hv;have hw32:IntKind.u32.wrap ((t / b:Nat):Int)=((t / b:Nat):Int):=by rw[fX,bh hq]
   have hrem:=mT t b;generalize t / b=q at*
   generalize t % b=m at*
   refine⟨(q:Int),hw32,(b:Int),fC be,be,(m:Int),hrem,be,by rw[gP];omega,EQ (out.set k q),jf out k _ be ce,(k:Int)-1,wo,?_⟩;intro I8 w3 r3
   exact⟨(k,m,out.set k q,w3),⟨by dsimp only;omega,G.tr r3.cj,by simp[Rw],Qf.set hq,hm,Pt⟩,
    sbgn [] r3,by dsimp only;omega⟩
  .have TE:k=0:=by
    have:¬(k:Int)-1≥0:=aL h;omega
   subst TE;rw[List.drop_zero,List.drop_zero]at hv;have Wb:val x.ls / b=val out/\val x.ls % b=rest:=by
    rw[hv];exact⟨by rw[Nat.mul_add_div A,Nat.div_eq_of_lt hr,cN],by rw[Nat.mul_add_mod,bh hr]⟩
   rw[Wb.1,Wb.2];refine gU (GT:=fun O _ v F=>dZ F (fun g=>g=(O 0).g) v (eO out)) (H':=[]) 0 rfl ce trivial rfl (fun O J r=>r.nn 0 _ rfl (by intros;simp) ce) (fun O J r=>?_) ?_
   .have hL:=r.pf (id:=0) rfl Qf be;rw[Rw]at hL;exact fY (fun g V=>by rw[V];exact(r.low 0 _ rfl (r.nn 0 _ rfl (by intros;simp) ce)).2) hL
   rintro O J v F r L A hL;replace G:=G.tr A;have Pq:=r.low 0 _ rfl (r.nn 0 _ rfl (by intros;simp) ce);generalize (O 0).g=g at*
   have hs:=L.size;refine⟨(rest:Int),by rw[fX,bh be],?_⟩;intro I8 w3 r3;refine⟨_,rfl,G.tr r3.cj,v,rfl,eO out,?_,(fL out).2.1,(fL out).1⟩;refine(hL.cX fun k R=>?_).cV fun k R=>.inr ?_
   .rw[R];exact r3.sk.block g be ce
   .rw[R];have:=r3.size;omega
end Go.Ex
