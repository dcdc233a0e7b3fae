/- Texts L1 to X10: lemmas, each with its conditions. -/
import Derived.KernelRfl
import Derived.Test.YtgkpbdkechfgmaaGreatProg
import Derived.Test.YtgkpbdkechfgmaaGreatP2
namespace Go.Ex
variable{a b ls:List Nat}{k:Nat}
def val:List Nat->Nat
 |[]=>0
 |x::r=>x+4294967296*val r
def Lm(ls:List Nat):Prop:=∀x∈ls,x<4294967296
def wt(k:Nat):Nat:=4294967296^k
theorem jC:wt 0=1:=rfl
theorem iW(k:Nat):wt (k+1)=4294967296*wt k:=by rw[wt,Nat.pow_succ,bU];rfl
theorem Bf(a b:Nat):wt (a+b)=wt a*wt b:=by rw[wt,Nat.pow_add];rfl
theorem xm(k:Nat):0<wt k:=Nat.pow_pos bi
theorem k8(a b:List Nat):val (a++b)=val a+wt a.length*val b:=by
 induction a with
 |nil=>simp[val,jC]
 |cons x r ih=>
  rw[List.cons_append,val,val,ih,bO,iW,bW,bl];omega
theorem nG(h:Lm ls):val ls<wt ls.length:=by
 induction ls with
 |nil=>exact Nat.one_pos
 |cons x r ih=>
  have Y:=h x bv;have X:=ih (fun y hy=>h y (by simp[hy]));rw[val,bO,iW];have:4294967296*(val r+1)<=4294967296*wt r.length:=bh _ X;omega
theorem eX(ls:List Nat)(k:Nat)(h:k<=ls.length):val ls=val (ls.take k)+wt k*val (ls.drop k):=by
 have:=k8 (ls.take k) (ls.drop k);rw[List.take_append_drop,aZ,Nat.min_eq_left h]at this;exact this
theorem dU{x:Nat}(h:ls[k]? =some x):val (ls.take (k+1))=val (ls.take k)+wt k*x:=by
 have E:=(aD.1 h).1;rw[aY,h,k8,aZ,Nat.min_eq_left be];simp[val]
theorem ir{x:Nat}(h:ls[k]? =some x):val (ls.drop k)=x+4294967296*val (ls.drop (k+1)):=by
 obtain⟨E,G⟩:=aD.1 h;rw[List.drop_eq_getElem_cons E,G,val]
theorem xN{o x:Nat}(h:ls[k]? =some o):val (ls.set k x)+wt k*o=val ls+wt k*x:=by
 obtain⟨E,ho⟩:=aD.1 h;have Y:=eX ls k be;have X:=eX (ls.set k x) k (by simp;omega);rw[List.take_set_of_le (aN _)]at X;rw[ir h,bW]at Y;have N:(ls.set k x)[k]? =some x:=by rw[aW E]
 rw[ir N,List.drop_set_of_lt be,bW]at X;omega
theorem mI(n:Nat):val (List.replicate n 0)=0:=by
 induction n with
 |zero=>rfl
 |succ n ih=>rw[List.replicate_succ,val,ih]
theorem Lm.set{x:Nat}(h:Lm ls)(G:x<4294967296):Lm (ls.set k x):=fun y hy=>by
 rcases b9 hy with Y|rfl
 .exact h y Y
 .exact G
theorem Lm.replicate(n:Nat):Lm (List.replicate n 0):=fun x G=>by rw[List.mem_replicate]at G;omega
theorem Lm.take(h:Lm ls)(k:Nat):Lm (ls.take k):=fun x G=>h x (List.mem_of_mem_take G)
theorem Lm.drop(h:Lm ls)(k:Nat):Lm (ls.drop k):=fun x G=>h x (List.mem_of_mem_drop G)
theorem Lm.append(ha:Lm a)(hb:Lm b):Lm (a++b):=fun x G=>by
 rcases bV.1 G with h|h
 .exact ha x h
 .exact hb x h
theorem Lm.at(h:Lm ls){x:Nat}(G:ls[k]? =some x):x<4294967296:=h x (aG G)
def db:List Nat->List Nat
 |[]=>[]
 |x::r=>match db r with
  |[]=>if x=0 then []else [x]
  |y::t=>x::y::t
def Nz(ls:List Nat):Prop:=∀x,ls.getLast? =some x->x≠0
theorem jw(ls:List Nat):db (ls++[0])=db ls:=by
 induction ls with
 |nil=>rfl
 |cons x r ih=>rw[List.cons_append,db,ih,db]
theorem nH(ls:List Nat){x:Nat}(G:x≠0):db (ls++[x])=ls++[x]:=by
 induction ls with
 |nil=>simp[db,G]
 |cons y r ih=>
  rw[List.cons_append,db,ih]
  cases r<;>rfl
theorem rO(ls:List Nat):ls=[]\/∃a x,ls=a++[x]:=by
 rcases List.eq_nil_or_concat ls with h|⟨a,x,h⟩
 .exact .inl h
 .exact .inr ⟨a,x,by simpa using h⟩
theorem ec(ls:List Nat):val (db ls)=val ls/\Nz (db ls)/\∃k,k<=ls.length/\db ls=ls.take k:=by
 have key:∀(n:Nat) (ls:List Nat),ls.length=n->val (db ls)=val ls/\Nz (db ls)/\∃k,k<=ls.length/\db ls=ls.take k:=by
  intro n
  induction n with
  |zero=>intro ls h;have:ls=[]:=List.eq_nil_of_length_eq_zero h;subst this;exact⟨rfl,by simp[Nz,db],0,aN _,rfl⟩
  |succ n ih=>
   intro ls h;rcases rO ls with rfl|⟨a,x,rfl⟩
   .simp at h
   .by_cases G:x=0
    .subst G;rw[jw];obtain⟨Y,X,k,N,h4⟩:=ih a (by simp at h;omega);refine⟨by rw[Y,k8];simp[val],X,k,by simp;omega,?_⟩;rw[h4,List.take_append_of_le_length N]
    .rw[nH a G];refine⟨rfl,?_,_,aN _,by rw[bG]⟩;intro y hy;simp at hy;subst hy;exact G
 exact key _ ls rfl
theorem DL(h:Nz ls):db ls=ls:=by
 rcases rO ls with rfl|⟨a,x,rfl⟩
 .rfl
 .exact nH a (h x bv)
theorem qe(h:Nz ls)(OB:ls≠[]):wt (ls.length-1)<=val ls:=by
 rcases rO ls with rfl|⟨a,x,rfl⟩
 .exact absurd rfl OB
 .have G:=h x bv;rw[k8];simp only[val,aL,aS,Nat.add_sub_cancel]
  have:wt a.length*1<=wt a.length*(x+4294967296*0):=bh _ be;omega
theorem val_inj:∀{a b:List Nat},Lm a->Lm b->a.length=b.length->val a=val b->a=b
 |[],[],_,_,_,_=>rfl
 |x::r,y::s,ha,hb,hl,h=>by
  have Y:=ha x bv;have X:=hb y bv;rw[val,val]at h;have N:x=y:=by omega
  have h4:val r=val s:=by omega
  rw[N,val_inj (fun z hz=>ha z (by simp[hz])) (fun z hz=>hb z (by simp[hz])) (by simpa using hl) h4]
 |[],_::_,_,_,h,_=>by simp at h
 |_::_,[],_,_,h,_=>by simp at h
theorem Al{a b:Nat}(h:a<=b):wt a<=wt b:=Nat.pow_le_pow_right bi h
theorem IY{a b:Nat}(h:a<b):wt a<wt b:=Nat.pow_lt_pow_right bi h
theorem iX(ha:Lm a)(hb:Nz b)(h:a.length<b.length):val a<val b:=by
 have Y:=nG ha;have X:=qe hb (by intro e;rw[e]at h;simp at h);have:=Al (show a.length<=b.length-1 by omega);omega
def ln(n:Nat):Nat:=if n=0 then 0 else n.log2 / 32+1
theorem uL(k:Nat):wt k=2^(32*k):=by rw[wt,show(4294967296:Nat)=2^32 from rfl,<-Nat.pow_mul]
theorem gC{n k:Nat}:ln n<=k↔n<wt k:=by
 unfold ln;by_cases h:n=0
 .rw[aH h,h];exact⟨fun _=>xm k,fun _=>aP _⟩
 .rw[aF h,uL];constructor
  .intro Y;have:n.log2<32*k:=by omega
   exact(Nat.log2_lt h).1 this
  .intro Y;have:=(Nat.log2_lt h).2 Y;omega
theorem k9(n:Nat):n<wt (ln n):=gC.1 (aN _)
theorem fA{a b:Nat}(h:a<=b):ln a<=ln b:=gC.2 (Nat.lt_of_le_of_lt h (k9 b))
theorem MB(a b:Nat):ln (a+b)<=max (ln a) (ln b)+1:=by
 rw[gC,iW];have Y:=Nat.lt_of_lt_of_le (k9 a) (Al (Nat.le_max_left (ln a) (ln b)));have X:=Nat.lt_of_lt_of_le (k9 b) (Al (Nat.le_max_right (ln a) (ln b)));omega
theorem MC(a b:Nat):ln (a*b)<=ln a+ln b:=by
 rw[gC,Bf];exact Nat.mul_lt_mul'' (k9 a) (k9 b)
theorem Kd:ln 0=0:=rfl
theorem eE(h:Lm ls)(hz:Nz ls):ls.length=ln (val ls):=by
 by_cases OB:ls=[]
 .subst OB;rfl
 .have Y:=nG h;have X:=qe hz OB;have N:=gC.2 Y;have h4:¬ln (val ls)<=ls.length-1:=fun hh=>by have:=gC.1 hh;omega
  omega
end Go.Ex
namespace Go.Ex
open Go Go.Sx
variable{f:(Nat->Sx.da)->Value}{ls:List Nat}{g:Nat}{p:Nat×Nat}{v:Value}{P:Value->World->Prop}{w1:World}
def Cv(S:Nat->Prop)(B:Nat)(iv:Iv)(g:Nat):Prop:=S g\/(B<=g/\∃lo D,(lo,D)∈iv/\lo<=g/\g<D)
def Nw(S:Nat->Prop)(w I:World)(g:Nat):Prop:=S g\/(w.heap.size<=g/\g<I.heap.size)
def Old(S:Nat->Prop)(w:World):Prop:=∀g,S g->g<w.heap.size
section
variable{S S':Nat->Prop}{H:Hp}{nx:Nat}{iv K:Iv}{B:Nat}{w J I:World}{O:Nat->da}
theorem Cv.mono(h:Cv S B iv g)(k:∀p,p∈iv->p∈K):Cv S B K g:=by
 rcases h with h|⟨h0,lo,D,Y,X⟩
 .exact .inl h
 .exact .inr ⟨h0,lo,D,k _ Y,X⟩
theorem Cv.cons(h:Cv S B iv g):Cv S B (p::iv) g:=h.mono fun q hq=>by simp[hq]
theorem rlo(r:Rel H nx iv B w O J)(U:∀g,S g->g<B):Old (Cv S B iv) J:=by
 intro g h;rcases h with h|⟨_,lo,D,Y,_,N⟩
 .have:=U g h;have:=r.base;have:=r.size;omega
 .have:=r.sN lo D Y;have:=r.size;omega
theorem rls(r:Rel H nx iv B w O J)(U:∀g,S g->g<B)(h:Cv S B iv g):J.heap[g]? =w.heap[g]? :=by
 rcases h with h|⟨_,lo,D,Y,X,N⟩
 .have:=U g h;exact r.uC g (by have:=r.base;omega) fun id b hb Z R=>by have:=(r.low id b hb Z).1;omega
 .exact r.uC g (by have:=r.sN lo D Y;omega) fun id b hb Z R=>r.kI lo D Y id b hb Z ⟨be,be⟩
theorem Rel.not(r:Rel H nx iv B w O J)(U:∀g,S g->g<B)(h:Cv S B iv g):∀id b,cw H id=some b->(O id).nil=false->(O id).g≠g:=by
 rcases h with h|⟨_,lo,D,Y,X,N⟩
 .have:=U g h;exact fun id b hb Z R=>by have:=(r.low id b hb Z).1;omega
 .exact fun id b hb Z R=>r.kI lo D Y id b hb Z ⟨be,be⟩
theorem Nw.cv(h:Nw (Cv S B iv) J w1 g)(hB:B<=J.heap.size):Cv S B ((J.heap.size,w1.heap.size)::iv) g:=by
 rcases h with h|h
 .exact h.cons
 .exact .inr ⟨be,_,_,aI,h.1,h.2⟩
theorem Cv.nw{w0:World}(h:Cv S w0.heap.size iv g)(r:Rel H nx iv w0.heap.size w O J):Nw S w0 J g:=by
 rcases h with h|⟨h0,lo,D,Y,_,N⟩
 .exact .inl h
 .exact .inr ⟨h0,by have:=r.sN lo D Y;have:=r.size;omega⟩
structure dF(w:World)(S:Nat->Prop)(v:Value)(ls:List Nat):Prop where
 lm:Lm ls
 le:ls.length<=9223372036854775807
 sl:∃a c,v= .slice a ls.length c/\ls.length<=c/\∀(j:Nat) x,ls[j]? =some x->∃ad,a=some ad/\S ad.block/\w.cell? (ad.add j)=some (.int .u32 x)
theorem eV(ad:Addr)(j:Nat):(ad.add j).block=ad.block:=by
 unfold Addr.add;split<;>rfl
theorem dF.cK(h:dF w S v ls)(E:∀g,S g->I.heap[g]? =w.heap[g]?):dF I S v ls:=by
 obtain⟨a,c,Y,SN,X⟩:=h.sl;refine⟨h.lm,h.le,a,c,Y,SN,fun j x G=>?_⟩;obtain⟨ad,N,h4,h5⟩:=X j x G;exact⟨ad,N,h4,by rw[cO (E _ (by rw[eV];exact h4))];exact h5⟩
theorem dF.cF(h:dF w S v ls)(E:∀g,S g->S' g):dF w S' v ls:=by
 obtain⟨a,c,Y,SN,X⟩:=h.sl;refine⟨h.lm,h.le,a,c,Y,SN,fun j x G=>?_⟩;obtain⟨ad,N,h4,h5⟩:=X j x G;exact⟨ad,N,E _ h4,h5⟩
theorem dF.rel(h:dF w (Cv S B iv) v ls)(r:Rel H nx iv B w O J)(U:∀g,S g->g<B):dF J (Cv S B iv) v ls:=h.cK fun _g F=>rls r U F
theorem dF.nil(w:World)(S:Nat->Prop):dF w S (.slice none 0 0) []:=⟨by simp[Lm],bv,none,0,rfl,aN _,bv⟩
def dc(w:World)(S:Nat->Prop)(v:Value)(n:Nat):Prop:=∃ls,dF w S v ls/\Nz ls/\val ls=n
theorem dc.cK{n:Nat}(h:dc w S v n)(E:∀g,S g->I.heap[g]? =w.heap[g]?):dc I S v n:=by
 obtain⟨ls,Y,X,N⟩:=h;exact⟨ls,Y.cK E,X,N⟩
theorem dc.cF{n:Nat}(h:dc w S v n)(E:∀g,S g->S' g):dc w S' v n:=by
 obtain⟨ls,Y,X,N⟩:=h;exact⟨ls,Y.cF E,X,N⟩
theorem dc.nil(w:World)(S:Nat->Prop):dc w S (.slice none 0 0) 0:=⟨[],dF.nil w S,by simp[Nz],rfl⟩
end
abbrev iZ(z:Int):SV:=.o (.v (.int .i64 z))
abbrev iN(n:Nat):SV:=.o (.v (.int .i64 (n:Int)))
abbrev sV(a:Option Addr)(n c:Nat):SV:=.o (.v (.slice a n c))
abbrev pP(i j:Nat):SV:=.o (.p i j)
theorem rtn{H:Hp}{nx:Nat}{iv:Iv}{w:World}(V:jv w.heap.size w w1)(h:∀O J,Rel H nx iv w.heap.size w1 O J->P (f O) J):∀O J,Rel H nx iv w.heap.size w1 O J->eI w P (.returned (f O)) J:=fun O J r=>⟨_,rfl,V.tr r.cN,h O J r⟩
abbrev FF:Nat->Prop:=fun _=>False
theorem bR(w:World):jv w.heap.size w w:=jv.refl
abbrev Nf(w I:World):Nat->Prop:=Nw (fun _=>False) w I
abbrev Cf(w:World):Iv->Nat->Prop:=Cv (fun _=>False) w.heap.size
section
variable{S:Nat->Prop}{H:Hp}{nx:Nat}{iv:Iv}{B i n:Nat}{w w1 J:World}{O:Nat->Sx.da}{ad:Addr}{L:List Value}{x:Value}
theorem kS(V:jv B w w1)(r:Rel H nx iv B w1 O J)(U:∀g,S g->g<B):∀g,S g->J.heap[g]? =w.heap[g]? :=fun g F=>(V.tr r.cN).block g (U g F)
theorem oS(U:∀g,S g->g<B)(r:Rel H nx iv B w O J):∀g,S g->g<J.heap.size:=fun g F=>by have:=U g F;have:=r.base;have:=r.size;omega
theorem rdO(hl:∀(j:Nat) u,L[j]? =some u->S ad.block/\w.cell? ((ad.add (i*n)).add j)=some u)(V:jv B w w1)(U:∀g,S g->g<B):∀O J,Rel H nx iv B w1 O J->∀(j:Nat) u,L[j]? =some u->J.cell? ((ad.add ((i:Int).toNat*n)).add j)=some u:=fun O J r j u hu=>by
 obtain⟨k1,k2⟩:=hl j u hu;rw[aJ,cO (w:=w) (I:=J) (by rw[eV,eV];exact(V.tr r.cN).block _ (U _ k1))];exact k2
theorem rd1(hl:w.cell? (ad.add (i*n))=some x)(V:jv B w w1)(hb:ad.block<B):∀O J,Rel H nx iv B w1 O J->J.cell? (ad.add ((i:Int).toNat*n))=some x:=fun O J r=>by
 rw[aJ,cO (w:=w) (I:=J) (by rw[eV];exact(V.tr r.cN).block _ hb)];exact hl
end
def xsF:Nat->Nat->List It
 |0,_=>[]
 |n+1,k=>.x k::xsF n (k+1)
abbrev idO(n:Nat):List It:=xsF n 0
abbrev Bq(w x:World):Prop:=jv w.heap.size w x
abbrev nls:Value:=.slice none 0 0
abbrev iV(z:Int):Value:=.int .i64 z
abbrev rC(a:Bool)(b:Option Addr)(c d:Nat)(e:Bool)(f:Option Addr)(g h:Nat):List Value:=[.bool a,.slice b c d,.bool e,.slice f g h]
abbrev pR{α:Type}(P:World->(Nat->Prop)->Value->α->Prop)(q:α):(Nat->Sx.da)->World->Value->World->Prop:=fun _ J v I=>P I (Nf J I) v q
abbrev pE(x:Value):(Nat->Sx.da)->World->Value->World->Prop:=fun _ _ v _=>v=x
end Go.Ex
namespace Go.Ex
open Go Go.Sx Go.Proofs
variable{ops:Array Oper}{args:Array Value}{E9:Ending->World->Prop}{H:Hp}{iv:Iv}{ls:List Nat}{k nx:Nat}{S:Nat->Prop}{O:Nat->Sx.da}{v:Value}{w:World}
noncomputable abbrev PG:Program:=Tryz.prog
def slT(e:Nat):TI:={size:=1,bytes:=24,zero:=[.slice none 0 0],agg:=false,tag:=4,elem:=e}
def My:List (Nat×TI):=[
 (3,{size:=1,bytes:=8,zero:=[.int .i64 0],agg:=false,tag:=1,ik:=.i64}),
 (4,{size:=1,bytes:=1,zero:=[.bool false],agg:=false,tag:=2}),
 (40,slT 48),
 (48,{size:=4,bytes:=64,zero:=[.bool false,.slice none 0 0,.bool false,.slice none 0 0],agg:=true,tag:=5,fields:=[(0,46),(2,46)]}),
 (37,slT 3),
 (32,{size:=1,bytes:=8,zero:=[.int .i64 0],agg:=false,tag:=1,ik:=.i64}),
 (26,{size:=3,bytes:=72,zero:=[.slice none 0 0,.slice none 0 0,.slice none 0 0],agg:=true,tag:=5,fields:=[(0,22),(1,23),(2,24)]}),
 (87,slT 40),
 (46,{size:=2,bytes:=32,zero:=[.bool false,.slice none 0 0],agg:=true,tag:=5,fields:=[(0,4),(1,44)]}),
 (155,slT 292),
 (30,slT 141),
 (209,slT 159),
 (292,{size:=1,bytes:=4,zero:=[.int .u32 0],agg:=false,tag:=1,ik:=.u32}),
 (159,{size:=4,bytes:=64,zero:=[.bool false,.slice none 0 0,.bool false,.slice none 0 0],agg:=true,tag:=5,fields:=[(0,157),(2,157)]}),
 (157,{size:=2,bytes:=32,zero:=[.bool false,.slice none 0 0],agg:=true,tag:=5,fields:=[(0,4),(1,155)]}),
 (206,slT 209),
 (291,{size:=1,bytes:=8,zero:=[.int .u64 0],agg:=false,tag:=1,ik:=.u64}),
 (24,slT 146),
 (168,{size:=2,bytes:=32,zero:=[.slice none 0 0,.int .i64 0],agg:=true,tag:=5,fields:=[(0,87),(1,3)]}),
 (23,slT 144),
 (141,{size:=4,bytes:=32,zero:=[.int .i64 0,.int .i64 0,.int .i64 0,.int .i64 0],agg:=true,tag:=5,fields:=[(0,3),(1,3),(2,3),(3,3)]}),
 (22,slT 195),
 (100,{size:=3,bytes:=56,zero:=[.int .i64 0,.slice none 0 0,.slice none 0 0],agg:=true,tag:=5,fields:=[(0,3),(1,37),(2,37)]}),
 (44,slT 292),
 (144,{size:=6,bytes:=80,zero:=[.int .i64 0,.int .i64 0,.bool false,.slice none 0 0,.bool false,.slice none 0 0],agg:=true,tag:=5,fields:=[(0,3),(1,3),(2,48)]}),
 (195,{size:=3,bytes:=24,zero:=[.int .i64 0,.int .i64 0,.int .i64 0],agg:=true,tag:=5,fields:=[(0,3),(1,3),(2,3)]}),
 (146,{size:=6,bytes:=80,zero:=[.int .i64 0,.int .i64 0,.bool false,.slice none 0 0,.bool false,.slice none 0 0],agg:=true,tag:=5,fields:=[(0,3),(1,3),(2,48)]}),
 (177,slT 37),
 (101,slT 117),
 (27,slT 30),
 (58,{size:=3,bytes:=56,zero:=[.int .i64 0,.slice none 0 0,.slice none 0 0],agg:=true,tag:=5,fields:=[(0,3),(1,40),(2,40)]}),
 (255,{size:=4,bytes:=80,zero:=[.slice none 0 0,.int .i64 0,.slice none 0 0,.slice none 0 0],agg:=true,tag:=5,fields:=[(0,168),(2,37),(3,37)]}),
 (117,{size:=4,bytes:=32,zero:=[.int .i64 0,.int .i64 0,.int .i64 0,.int .i64 0],agg:=true,tag:=5,fields:=[(0,3),(1,3),(2,3),(3,3)]}),
 (31,slT 52),
 (70,slT 193),
 (120,{size:=2,bytes:=16,zero:=[.int .i64 0,.int .i64 0],agg:=true,tag:=5,fields:=[(0,3),(1,3)]}),
 (102,slT 120),
 (191,{size:=8,bytes:=64,zero:=[.int .i64 0,.int .i64 0,.int .i64 0,.int .i64 0,.int .i64 0,.int .i64 0,.int .i64 0,.int .i64 0],agg:=true,tag:=5,fields:=[(0,184),(4,3),(5,3),(6,3),(7,3)]}),
 (225,{size:=5,bytes:=40,zero:=[.int .i64 0,.int .i64 0,.int .i64 0,.int .i64 0,.int .i64 0],agg:=true,tag:=5,fields:=[(0,3),(1,3),(2,3),(3,3),(4,3)]}),
 (229,slT 228),
 (267,{size:=3,bytes:=24,zero:=[.int .i64 0,.int .i64 0,.int .i64 0],agg:=true,tag:=6,B9:=3,elem:=3}),
 (97,{size:=3,bytes:=24,zero:=[.int .i64 0,.int .i64 0,.int .i64 0],agg:=true,tag:=5,fields:=[(0,3),(1,3),(2,3)]}),
 (228,{size:=2,bytes:=16,zero:=[.int .i64 0,.int .i64 0],agg:=true,tag:=5,fields:=[(0,3),(1,3)]}),
 (36,slT 4),
 (129,{size:=4,bytes:=80,zero:=[.int .i64 0,.slice none 0 0,.slice none 0 0,.slice none 0 0],agg:=true,tag:=5,fields:=[(0,3),(1,40),(2,87),(3,40)]}),
 (220,{size:=3,bytes:=40,zero:=[.int .i64 0,.int .i64 0,.slice none 0 0],agg:=true,tag:=5,fields:=[(0,3),(1,3),(2,37)]}),
 (293,{size:=1,bytes:=8,zero:=[.int .u64 0],agg:=false,tag:=1,ik:=.u64}),
 (68,slT 186),
 (69,slT 191),
 (184,{size:=4,bytes:=32,zero:=[.int .i64 0,.int .i64 0,.int .i64 0,.int .i64 0],agg:=true,tag:=6,B9:=4,elem:=3}),
 (193,{size:=2,bytes:=16,zero:=[.int .i64 0,.int .i64 0],agg:=true,tag:=5,fields:=[(0,3),(1,3)]}),
 (186,{size:=5,bytes:=40,zero:=[.int .i64 0,.int .i64 0,.int .i64 0,.int .i64 0,.int .i64 0],agg:=true,tag:=5,fields:=[(0,184),(4,3)]}),
 (249,{size:=3,bytes:=72,zero:=[.slice none 0 0,.slice none 0 0,.slice none 0 0],agg:=true,tag:=5,fields:=[(0,209),(1,209),(2,206)]}),
 (281,{size:=2,bytes:=16,zero:=[.int .i64 0,.int .i64 0],agg:=true,tag:=5,fields:=[(0,3),(1,3)]}),
 (52,{size:=10,bytes:=176,zero:=[.bool false,.slice none 0 0,.bool false,.slice none 0 0,.bool false,.slice none 0 0,.bool false,.slice none 0 0,.slice none 0 0,.slice none 0 0],agg:=true,tag:=5,fields:=[(0,50),(8,37),(9,37)]}),
 (279,{size:=1,bytes:=8,zero:=[.map none],agg:=false,tag:=0}),
 (72,{size:=4,bytes:=80,zero:=[.slice none 0 0,.int .i64 0,.slice none 0 0,.slice none 0 0],agg:=true,tag:=5,fields:=[(0,68),(1,3),(2,69),(3,70)]}),
 (104,{size:=2,bytes:=48,zero:=[.slice none 0 0,.slice none 0 0],agg:=true,tag:=5,fields:=[(0,37),(1,102)]}),
 (108,{size:=3,bytes:=24,zero:=[.int .i64 0,.int .i64 0,.int .i64 0],agg:=true,tag:=5,fields:=[(0,3),(1,3),(2,3)]}),
 (9,{size:=1,bytes:=16,zero:=[.string ⟨#[]⟩],agg:=false,tag:=3}),
 (50,{size:=8,bytes:=128,zero:=[.bool false,.slice none 0 0,.bool false,.slice none 0 0,.bool false,.slice none 0 0,.bool false,.slice none 0 0],agg:=true,tag:=5,fields:=[(0,48),(4,48)]}),
 (149,{size:=1,bytes:=8,zero:=[.pointer none],agg:=false,tag:=7}),
 (308,{size:=1,bytes:=8,zero:=[.nilFunc],agg:=false,tag:=0}),
 (296,{size:=1,bytes:=8,zero:=[.nilFunc],agg:=false,tag:=0}),
 (152,{size:=80,bytes:=640,zero:=[.int .i64 0,.int .i64 0,.int .i64 0,.int .i64 0,.int .i64 0,.int .i64 0,.int .i64 0,.int .i64 0,.int .i64 0,.int .i64 0,.int .i64 0,.int .i64 0,.int .i64 0,.int .i64 0,.int .i64 0,.int .i64 0,.int .i64 0,.int .i64 0,.int .i64 0,.int .i64 0,.int .i64 0,.int .i64 0,.int .i64 0,.int .i64 0,.int .i64 0,.int .i64 0,.int .i64 0,.int .i64 0,.int .i64 0,.int .i64 0,.int .i64 0,.int .i64 0,.int .i64 0,.int .i64 0,.int .i64 0,.int .i64 0,.int .i64 0,.int .i64 0,.int .i64 0,.int .i64 0,.int .i64 0,.int .i64 0,.int .i64 0,.int .i64 0,.int .i64 0,.int .i64 0,.int .i64 0,.int .i64 0,.int .i64 0,.int .i64 0,.int .i64 0,.int .i64 0,.int .i64 0,.int .i64 0,.int .i64 0,.int .i64 0,.int .i64 0,.int .i64 0,.int .i64 0,.int .i64 0,.int .i64 0,.int .i64 0,.int .i64 0,.int .i64 0,.int .i64 0,.int .i64 0,.int .i64 0,.int .i64 0,.int .i64 0,.int .i64 0,.int .i64 0,.int .i64 0,.int .i64 0,.int .i64 0,.int .i64 0,.int .i64 0,.int .i64 0,.int .i64 0,.int .i64 0,.int .i64 0],agg:=true,tag:=6,B9:=20,elem:=141}),
 (239,{size:=1,bytes:=8,zero:=[.nilFunc],agg:=false,tag:=0}),
 (242,{size:=1,bytes:=8,zero:=[.nilFunc],agg:=false,tag:=0}),
 (153,{size:=1,bytes:=8,zero:=[.pointer none],agg:=false,tag:=7}),
 (174,{size:=1,bytes:=8,zero:=[.nilFunc],agg:=false,tag:=0}),
 (213,{size:=1,bytes:=8,zero:=[.nilFunc],agg:=false,tag:=0}),
 (5,{size:=1,bytes:=1,zero:=[.int .u8 0],agg:=false,tag:=1,ik:=.u8}),
 (310,{size:=1,bytes:=8,zero:=[.nilFunc],agg:=false,tag:=0}),
 (315,{size:=1,bytes:=8,zero:=[.nilFunc],agg:=false,tag:=0}),
 (8,{size:=4,bytes:=24,zero:=[.int .i64 0,.int .i64 0,.bool false,.int .u8 0],agg:=true,tag:=5,fields:=[(0,2),(1,3),(2,4),(3,6)]}),
 (10,{size:=1,bytes:=16,zero:=[.string ⟨#[]⟩],agg:=false,tag:=3}),
 (11,{size:=1,bytes:=16,zero:=[.string ⟨#[]⟩],agg:=false,tag:=3}),
 (14,{size:=2,bytes:=24,zero:=[.string ⟨#[]⟩,.int .u64 0],agg:=true,tag:=5,fields:=[(0,9),(1,12)]}),
 (15,{size:=1,bytes:=8,zero:=[.pointer none],agg:=false,tag:=7}),
 (16,{size:=1,bytes:=8,zero:=[.pointer none],agg:=false,tag:=7}),
 (19,{size:=1,bytes:=8,zero:=[.pointer none],agg:=true,tag:=5,fields:=[(0,17)]}),
 (17,{size:=1,bytes:=8,zero:=[.pointer none],agg:=false,tag:=7}),
 (353,{size:=1,bytes:=1,zero:=[.int .u8 0],agg:=false,tag:=1,ik:=.u8}),
 (2,{size:=1,bytes:=8,zero:=[.int .i64 0],agg:=false,tag:=1,ik:=.i64}),
 (6,{size:=1,bytes:=1,zero:=[.int .u8 0],agg:=false,tag:=1,ik:=.u8}),
 (12,{size:=1,bytes:=8,zero:=[.int .u64 0],agg:=false,tag:=1,ik:=.u64})]
def τ:mS:=xG My
theorem hτ:fQ PG τ:=Lv (l:=My) d4
theorem pB:PG.follows .mixedOrders=true:=by rfl
noncomputable def bd (f:Func):Code:=match f.body with
 |some c=>c
 |none=>.skip
theorem dG{f:FuncId}{fn:Func}(hf:PG.funcs[f]? =some fn)(hb:fn.body=some (bd fn))(UT:(fn.name== "runtime.NumGoroutine")=false)
  (Z:args.size<=fn.ntmps) (OE:codeOk fn.ntmps (bd fn)=true) (h:mF PG τ w.heap.size (bd fn) (fp 0 args.toList) [] 0 [] w (MA τ w.heap.size fn.results.toList E9)):eC PG f args w E9:=
 ⟨HD hf hb UT,DK hτ hf hb Z OE h⟩
abbrev T.int:Nat:=3
abbrev T.bool:Nat:=4
abbrev T.string:Nat:=9
abbrev T.Frame:Nat:=26
abbrev T.Lint:Nat:=37
abbrev T.jQ:Nat:=40
abbrev T.Int:Nat:=46
abbrev T.Rat:Nat:=48
abbrev T.yf:Nat:=97
abbrev T.gV:Nat:=141
abbrev T.NS:Nat:=144
abbrev T.xR:Nat:=146
abbrev T.nat:Nat:=155
abbrev T.number:Nat:=157
abbrev T.De:Nat:=159
abbrev T.dY:Nat:=168
abbrev T.Mz:Nat:=186
abbrev T.uZ:Nat:=191
abbrev T.Node:Nat:=195
abbrev T.row:Nat:=209
abbrev T.solved:Nat:=249
abbrev T.dN:Nat:=255
abbrev T.wT:Nat:=279
abbrev T.Bv:Nat:=281
abbrev T.uint32:Nat:=292
abbrev Fn.km:Nat:=5
abbrev Fn.pC:Nat:=15
abbrev Fn.pD:Nat:=16
abbrev Fn.u4:Nat:=17
abbrev Fn.pF:Nat:=19
abbrev Fn.vV:Nat:=21
abbrev Fn.pG:Nat:=27
abbrev Fn.l0:Nat:=28
abbrev Fn.l5:Nat:=29
abbrev Fn.vW:Nat:=30
abbrev Fn.oJ:Nat:=31
abbrev Fn.oK:Nat:=32
abbrev Fn.oL:Nat:=33
abbrev Fn.tB:Nat:=34
abbrev Fn.vX:Nat:=37
abbrev Fn.vY:Nat:=38
abbrev Fn.vZ:Nat:=41
abbrev Fn.ve:Nat:=49
abbrev Fn.vg:Nat:=51
abbrev Fn.u5:Nat:=58
abbrev Fn.nV:Nat:=61
abbrev Fn.me:Nat:=62
abbrev Fn.yg:Nat:=69
abbrev Fn.qi:Nat:=71
abbrev Fn.pH:Nat:=72
abbrev Fn.pI:Nat:=73
abbrev Fn.u6:Nat:=74
abbrev Fn.ko:Nat:=75
abbrev Fn.kp:Nat:=76
abbrev Fn.kr:Nat:=77
abbrev Fn.vh:Nat:=78
abbrev Fn.ku:Nat:=79
abbrev Fn.qj:Nat:=80
abbrev Fn.qk:Nat:=81
abbrev Fn.ql:Nat:=82
abbrev Fn.vo:Nat:=83
abbrev Fn.tC:Nat:=84
abbrev Fn.oM:Nat:=85
abbrev Fn.im:Nat:=86
abbrev Fn.pJ:Nat:=87
abbrev Fn.iz:Nat:=88
abbrev Fn.gF:Nat:=89
abbrev Fn.vq:Nat:=90
abbrev Fn.tD:Nat:=91
abbrev Fn.vv:Nat:=92
abbrev Fn.qm:Nat:=104
abbrev Fn.kv:Nat:=105
abbrev Fn.oN:Nat:=106
abbrev Fn.l6:Nat:=107
abbrev Fn.tE:Nat:=108
abbrev Fn.qn:Nat:=109
abbrev Fn.oO:Nat:=110
abbrev Fn.tF:Nat:=111
abbrev Fn.rY:Nat:=114
abbrev Fn.Df:Nat:=115
abbrev Fn.yh:Nat:=116
abbrev Fn.vw:Nat:=117
abbrev Fn.kB:Nat:=118
abbrev Fn.kC:Nat:=126
abbrev Fn.wA:Nat:=139
abbrev Fn.jn:Nat:=152
abbrev Fn.yi:Nat:=157
abbrev Fn.fN:Nat:=158
abbrev Fn.tG:Nat:=159
abbrev Fn.pK:Nat:=160
abbrev Fn.wB:Nat:=164
abbrev Fn.tI:Nat:=166
abbrev Fn.yj:Nat:=167
abbrev Fn.mK:Nat:=168
abbrev Fn.wC:Nat:=169
abbrev Fn.kD:Nat:=170
abbrev Fn.l7:Nat:=171
abbrev Fn.yl:Nat:=172
abbrev Fn.l8:Nat:=173
abbrev Fn.kx:Nat:=174
abbrev Fn.mf:Nat:=175
abbrev Fn.jo:Nat:=176
abbrev Fn.qo:Nat:=177
abbrev Fn.pL:Nat:=178
abbrev Fn.qp:Nat:=179
abbrev Fn.u7:Nat:=180
abbrev Fn.fH:Nat:=187
abbrev Fn.wD:Nat:=188
abbrev Fn.ym:Nat:=189
abbrev Fn.BC:Nat:=190
abbrev Fn.wE:Nat:=191
abbrev Fn.tJ:Nat:=192
abbrev Fn.nW:Nat:=193
abbrev Fn.jg:Nat:=194
abbrev Fn.ky:Nat:=195
abbrev Fn.tK:Nat:=196
abbrev Fn.mg:Nat:=197
abbrev Fn.l9:Nat:=198
abbrev Fn.lf:Nat:=199
abbrev Fn.kz:Nat:=201
abbrev Fn.lh:Nat:=209
abbrev Fn.jq:Nat:=210
abbrev Fn.nX:Nat:=232
abbrev Fn.BD:Nat:=233
abbrev Fn.mL:Nat:=234
abbrev Fn.u9:Nat:=235
abbrev Fn.lj:Nat:=236
abbrev Fn.oP:Nat:=237
abbrev Fn.tL:Nat:=238
abbrev Fn.fY:Nat:=239
abbrev Fn.Dh:Nat:=240
abbrev Fn.yn:Nat:=241
abbrev Fn.tM:Nat:=242
abbrev Fn.yo:Nat:=243
abbrev Fn.qq:Nat:=244
abbrev Fn.tN:Nat:=245
abbrev Fn.tO:Nat:=246
abbrev Fn.qt:Nat:=247
abbrev Fn.oQ:Nat:=248
abbrev Fn.kE:Nat:=249
abbrev Fn.lk:Nat:=250
abbrev Fn.oR:Nat:=251
abbrev Fn.pM:Nat:=252
abbrev Fn.fb:Nat:=253
abbrev Fn.pN:Nat:=260
abbrev Fn.oT:Nat:=261
abbrev Fn.yp:Nat:=262
abbrev Fn.pO:Nat:=263
abbrev Fn.yq:Nat:=266
abbrev Fn.yr:Nat:=267
abbrev Ent(g:Nat)(f:Func):Prop:=∀{args:Array Value} {w:World} {E9:Ending->World->Prop},args.size<=f.ntmps->mF PG τ w.heap.size (bd f) (fp 0 args.toList) [] 0 [] w (MA τ w.heap.size f.results.toList E9)->eC PG g args w E9
theorem oU:Ent Fn.km Tryz.f5:=fun Z h=>dG Tryz.func5 cs cs Z cs h
theorem tP:Ent Fn.pC Tryz.f15:=fun Z h=>dG Tryz.func15 cs cs Z cs h
theorem tQ:Ent Fn.pD Tryz.f16:=fun Z h=>dG Tryz.func16 cs cs Z cs h
theorem Bw:Ent Fn.u4 Tryz.f17:=fun Z h=>dG Tryz.func17 cs cs Z cs h
theorem yt:Ent Fn.pF Tryz.f19:=fun Z h=>dG Tryz.func19 cs cs Z cs h
theorem yu:Ent Fn.vV Tryz.f21:=fun Z h=>dG Tryz.func21 cs cs Z cs h
theorem tR:Ent Fn.pG Tryz.f27:=fun Z h=>dG Tryz.func27 cs cs Z cs h
theorem pQ:Ent Fn.l0 Tryz.f28:=fun Z h=>dG Tryz.func28 cs cs Z cs h
theorem pS:Ent Fn.l5 Tryz.f29:=fun Z h=>dG Tryz.func29 cs cs Z cs h
theorem yv:Ent Fn.vW Tryz.f30:=fun Z h=>dG Tryz.func30 cs cs Z cs h
theorem rZ:Ent Fn.oJ Tryz.f31:=fun Z h=>dG Tryz.func31 cs cs Z cs h
theorem r8:Ent Fn.oK Tryz.f32:=fun Z h=>dG Tryz.func32 cs cs Z cs h
theorem r9:Ent Fn.oL Tryz.f33:=fun Z h=>dG Tryz.func33 cs cs Z cs h
theorem wU:Ent Fn.tB Tryz.f34:=fun Z h=>dG Tryz.func34 cs cs Z cs h
theorem yw:Ent Fn.vX Tryz.f37:=fun Z h=>dG Tryz.func37 cs cs Z cs h
theorem yx:Ent Fn.vY Tryz.f38:=fun Z h=>dG Tryz.func38 cs cs Z cs h
theorem yz:Ent Fn.vZ Tryz.f41:=fun Z h=>dG Tryz.func41 cs cs Z cs h
theorem zA:Ent Fn.ve Tryz.f49:=fun Z h=>dG Tryz.func49 cs cs Z cs h
theorem zB:Ent Fn.vg Tryz.f51:=fun Z h=>dG Tryz.func51 cs cs Z cs h
theorem Bx:Ent Fn.u5 Tryz.f58:=fun Z h=>dG Tryz.func58 cs cs Z cs h
theorem wV:Ent Fn.nV Tryz.f61:=fun Z h=>dG Tryz.func61 cs cs Z cs h
theorem q9:Ent Fn.me Tryz.f62:=fun Z h=>dG Tryz.func62 cs cs Z cs h
theorem zy:Ent Fn.yg Tryz.f69:=fun Z h=>dG Tryz.func69 cs cs Z cs h
theorem ua:Ent Fn.qi Tryz.f71:=fun Z h=>dG Tryz.func71 cs cs Z cs h
theorem tS:Ent Fn.pH Tryz.f72:=fun Z h=>dG Tryz.func72 cs cs Z cs h
theorem tT:Ent Fn.pI Tryz.f73:=fun Z h=>dG Tryz.func73 cs cs Z cs h
theorem By:Ent Fn.u6 Tryz.f74:=fun Z h=>dG Tryz.func74 cs cs Z cs h
theorem ll:Ent Fn.ko Tryz.f75:=fun Z h=>dG Tryz.func75 cs cs Z cs h
theorem oV:Ent Fn.kp Tryz.f76:=fun Z h=>dG Tryz.func76 cs cs Z cs h
theorem oW:Ent Fn.kr Tryz.f77:=fun Z h=>dG Tryz.func77 cs cs Z cs h
theorem zC:Ent Fn.vh Tryz.f78:=fun Z h=>dG Tryz.func78 cs cs Z cs h
theorem oX:Ent Fn.ku Tryz.f79:=fun Z h=>dG Tryz.func79 cs cs Z cs h
theorem ub:Ent Fn.qj Tryz.f80:=fun Z h=>dG Tryz.func80 cs cs Z cs h
theorem uc:Ent Fn.qk Tryz.f81:=fun Z h=>dG Tryz.func81 cs cs Z cs h
theorem ud:Ent Fn.ql Tryz.f82:=fun Z h=>dG Tryz.func82 cs cs Z cs h
theorem zD:Ent Fn.vo Tryz.f83:=fun Z h=>dG Tryz.func83 cs cs Z cs h
theorem wW:Ent Fn.tC Tryz.f84:=fun Z h=>dG Tryz.func84 cs cs Z cs h
theorem ra:Ent Fn.oM Tryz.f85:=fun Z h=>dG Tryz.func85 cs cs Z cs h
theorem nY:Ent Fn.im Tryz.f86:=fun Z h=>dG Tryz.func86 cs cs Z cs h
theorem tU:Ent Fn.pJ Tryz.f87:=fun Z h=>dG Tryz.func87 cs cs Z cs h
theorem kT:Ent Fn.iz Tryz.f88:=fun Z h=>dG Tryz.func88 cs cs Z cs h
theorem jM:Ent Fn.gF Tryz.f89:=fun Z h=>dG Tryz.func89 cs cs Z cs h
theorem zE:Ent Fn.vq Tryz.f90:=fun Z h=>dG Tryz.func90 cs cs Z cs h
theorem wX:Ent Fn.tD Tryz.f91:=fun Z h=>dG Tryz.func91 cs cs Z cs h
theorem zF:Ent Fn.vv Tryz.f92:=fun Z h=>dG Tryz.func92 cs cs Z cs h
theorem ue:Ent Fn.qm Tryz.f104:=fun Z h=>dG Tryz.func104 cs cs Z cs h
theorem oY:Ent Fn.kv Tryz.f105:=fun Z h=>dG Tryz.func105 cs cs Z cs h
theorem rb:Ent Fn.oN Tryz.f106:=fun Z h=>dG Tryz.func106 cs cs Z cs h
theorem pT:Ent Fn.l6 Tryz.f107:=fun Z h=>dG Tryz.func107 cs cs Z cs h
theorem wY:Ent Fn.tE Tryz.f108:=fun Z h=>dG Tryz.func108 cs cs Z cs h
theorem uf:Ent Fn.qn Tryz.f109:=fun Z h=>dG Tryz.func109 cs cs Z cs h
theorem rf:Ent Fn.oO Tryz.f110:=fun Z h=>dG Tryz.func110 cs cs Z cs h
theorem wZ:Ent Fn.tF Tryz.f111:=fun Z h=>dG Tryz.func111 cs cs Z cs h
theorem qu:Ent Fn.rY Tryz.f114:=fun Z h=>dG Tryz.func114 cs cs Z cs h
theorem Di:Ent Fn.Df Tryz.f115:=fun Z h=>dG Tryz.func115 cs cs Z cs h
theorem zz:Ent Fn.yh Tryz.f116:=fun Z h=>dG Tryz.func116 cs cs Z cs h
theorem zG:Ent Fn.vw Tryz.f117:=fun Z h=>dG Tryz.func117 cs cs Z cs h
theorem nZ:Ent Fn.kB Tryz.f118:=fun Z h=>dG Tryz.func118 cs cs Z cs h
theorem n9:Ent Fn.kC Tryz.f126:=fun Z h=>dG Tryz.func126 cs cs Z cs h
theorem zH:Ent Fn.wA Tryz.f139:=fun Z h=>dG Tryz.func139 cs cs Z cs h
theorem mh:Ent Fn.jn Tryz.f152:=fun Z h=>dG Tryz.func152 cs cs Z cs h
theorem AA:Ent Fn.yi Tryz.f157:=fun Z h=>dG Tryz.func157 cs cs Z cs h
theorem jN:Ent Fn.fN Tryz.f158:=fun Z h=>dG Tryz.func158 cs cs Z cs h
theorem wh:Ent Fn.tG Tryz.f159:=fun Z h=>dG Tryz.func159 cs cs Z cs h
theorem tV:Ent Fn.pK Tryz.f160:=fun Z h=>dG Tryz.func160 cs cs Z cs h
theorem zI:Ent Fn.wB Tryz.f164:=fun Z h=>dG Tryz.func164 cs cs Z cs h
theorem wi:Ent Fn.tI Tryz.f166:=fun Z h=>dG Tryz.func166 cs cs Z cs h
theorem AB:Ent Fn.yj Tryz.f167:=fun Z h=>dG Tryz.func167 cs cs Z cs h
theorem ug:Ent Fn.mK Tryz.f168:=fun Z h=>dG Tryz.func168 cs cs Z cs h
theorem zJ:Ent Fn.wC Tryz.f169:=fun Z h=>dG Tryz.func169 cs cs Z cs h
theorem nc:Ent Fn.kD Tryz.f170:=fun Z h=>dG Tryz.func170 cs cs Z cs h
theorem pU:Ent Fn.l7 Tryz.f171:=fun Z h=>dG Tryz.func171 cs cs Z cs h
theorem Dj:Ent Fn.yl Tryz.f172:=fun Z h=>dG Tryz.func172 cs cs Z cs h
theorem pV:Ent Fn.l8 Tryz.f173:=fun Z h=>dG Tryz.func173 cs cs Z cs h
theorem oZ:Ent Fn.kx Tryz.f174:=fun Z h=>dG Tryz.func174 cs cs Z cs h
theorem qa:Ent Fn.mf Tryz.f175:=fun Z h=>dG Tryz.func175 cs cs Z cs h
theorem mi:Ent Fn.jo Tryz.f176:=fun Z h=>dG Tryz.func176 cs cs Z cs h
theorem uh:Ent Fn.qo Tryz.f177:=fun Z h=>dG Tryz.func177 cs cs Z cs h
theorem tW:Ent Fn.pL Tryz.f178:=fun Z h=>dG Tryz.func178 cs cs Z cs h
theorem ui:Ent Fn.qp Tryz.f179:=fun Z h=>dG Tryz.func179 cs cs Z cs h
theorem Bz:Ent Fn.u7 Tryz.f180:=fun Z h=>dG Tryz.func180 cs cs Z cs h
theorem gj:Ent Fn.fH Tryz.f187:=fun Z h=>dG Tryz.func187 cs cs Z cs h
theorem zK:Ent Fn.wD Tryz.f188:=fun Z h=>dG Tryz.func188 cs cs Z cs h
theorem AD:Ent Fn.ym Tryz.f189:=fun Z h=>dG Tryz.func189 cs cs Z cs h
theorem CA:Ent Fn.BC Tryz.f190:=fun Z h=>dG Tryz.func190 cs cs Z cs h
theorem zL:Ent Fn.wE Tryz.f191:=fun Z h=>dG Tryz.func191 cs cs Z cs h
theorem wj:Ent Fn.tJ Tryz.f192:=fun Z h=>dG Tryz.func192 cs cs Z cs h
theorem wk:Ent Fn.nW Tryz.f193:=fun Z h=>dG Tryz.func193 cs cs Z cs h
theorem uj:Ent Fn.jg Tryz.f194:=fun Z h=>dG Tryz.func194 cs cs Z cs h
theorem o0:Ent Fn.ky Tryz.f195:=fun Z h=>dG Tryz.func195 cs cs Z cs h
theorem wm:Ent Fn.tK Tryz.f196:=fun Z h=>dG Tryz.func196 cs cs Z cs h
theorem qb:Ent Fn.mg Tryz.f197:=fun Z h=>dG Tryz.func197 cs cs Z cs h
theorem pW:Ent Fn.l9 Tryz.f198:=fun Z h=>dG Tryz.func198 cs cs Z cs h
theorem pX:Ent Fn.lf Tryz.f199:=fun Z h=>dG Tryz.func199 cs cs Z cs h
theorem o6:Ent Fn.kz Tryz.f201:=fun Z h=>dG Tryz.func201 cs cs Z cs h
theorem pY:Ent Fn.lh Tryz.f209:=fun Z h=>dG Tryz.func209 cs cs Z cs h
theorem mj:Ent Fn.jq Tryz.f210:=fun Z h=>dG Tryz.func210 cs cs Z cs h
theorem wu:Ent Fn.nX Tryz.f232:=fun Z h=>dG Tryz.func232 cs cs Z cs h
theorem CB:Ent Fn.BD Tryz.f233:=fun Z h=>dG Tryz.func233 cs cs Z cs h
theorem uk:Ent Fn.mL Tryz.f234:=fun Z h=>dG Tryz.func234 cs cs Z cs h
theorem CC:Ent Fn.u9 Tryz.f235:=fun Z h=>dG Tryz.func235 cs cs Z cs h
theorem pZ:Ent Fn.lj Tryz.f236:=fun Z h=>dG Tryz.func236 cs cs Z cs h
theorem rh:Ent Fn.oP Tryz.f237:=fun Z h=>dG Tryz.func237 cs cs Z cs h
theorem wv:Ent Fn.tL Tryz.f238:=fun Z h=>dG Tryz.func238 cs cs Z cs h
theorem iI:Ent Fn.fY Tryz.f239:=fun Z h=>dG Tryz.func239 cs cs Z cs h
theorem Dl:Ent Fn.Dh Tryz.f240:=fun Z h=>dG Tryz.func240 cs cs Z cs h
theorem AE:Ent Fn.yn Tryz.f241:=fun Z h=>dG Tryz.func241 cs cs Z cs h
theorem wx:Ent Fn.tM Tryz.f242:=fun Z h=>dG Tryz.func242 cs cs Z cs h
theorem AF:Ent Fn.yo Tryz.f243:=fun Z h=>dG Tryz.func243 cs cs Z cs h
theorem uo:Ent Fn.qq Tryz.f244:=fun Z h=>dG Tryz.func244 cs cs Z cs h
theorem wy:Ent Fn.tN Tryz.f245:=fun Z h=>dG Tryz.func245 cs cs Z cs h
theorem wz:Ent Fn.tO Tryz.f246:=fun Z h=>dG Tryz.func246 cs cs Z cs h
theorem uq:Ent Fn.qt Tryz.f247:=fun Z h=>dG Tryz.func247 cs cs Z cs h
theorem rk:Ent Fn.oQ Tryz.f248:=fun Z h=>dG Tryz.func248 cs cs Z cs h
theorem nd:Ent Fn.kE Tryz.f249:=fun Z h=>dG Tryz.func249 cs cs Z cs h
theorem p8:Ent Fn.lk Tryz.f250:=fun Z h=>dG Tryz.func250 cs cs Z cs h
theorem rn:Ent Fn.oR Tryz.f251:=fun Z h=>dG Tryz.func251 cs cs Z cs h
theorem tX:Ent Fn.pM Tryz.f252:=fun Z h=>dG Tryz.func252 cs cs Z cs h
theorem iQ:Ent Fn.fb Tryz.f253:=fun Z h=>dG Tryz.func253 cs cs Z cs h
theorem tY:Ent Fn.pN Tryz.f260:=fun Z h=>dG Tryz.func260 cs cs Z cs h
theorem rp:Ent Fn.oT Tryz.f261:=fun Z h=>dG Tryz.func261 cs cs Z cs h
theorem AG:Ent Fn.yp Tryz.f262:=fun Z h=>dG Tryz.func262 cs cs Z cs h
theorem tZ:Ent Fn.pO Tryz.f263:=fun Z h=>dG Tryz.func263 cs cs Z cs h
theorem AH:Ent Fn.yq Tryz.f266:=fun Z h=>dG Tryz.func266 cs cs Z cs h
theorem AI:Ent Fn.yr Tryz.f267:=fun Z h=>dG Tryz.func267 cs cs Z cs h
theorem dP{l:Env}{B:Nat}{F':KT}(π:List It)(h:Gz PG τ B ops.toList π l H nx iv w F')(hs:Region.noSelect ops=true:=by kernel_rfl)(hc:Cr ops ops.size π 0 []=true:=by kernel_rfl):uF PG B ops l H nx iv w F':=Cx hτ pB π hs hc h
theorem kF{w1 J:World}(U:Old S w)(V:Bq w w1)(r:Rel H nx iv w.heap.size w1 O J){ad:Addr}{j:Nat}{x:Value}(hs:S ad.block)(h:w.cell? (ad.add j)=some x):J.cell? (ad.add j)=some x:=by
 rw[(V.tr r.cN).cell (by rw[eV];exact U _ hs)];exact h
theorem Dm(a:Option Addr)(c:Nat):(if (c:Int)=0 then a else a.map fun x=>x.add (Int.toNat 0*1))=a:=by
 split
 .rfl
 .cases a<;>rfl
theorem xA(h:ls[k]? =some 0):db (ls.take (k+1))=db (ls.take k):=by
 rw[aY,h];exact jw _
theorem AJ{x:Nat}(h:ls[k]? =some x)(G:x≠0):db (ls.take (k+1))=ls.take (k+1):=by
 rw[aY,h];exact nH _ G
theorem fG(U:Old S w)(h:dF w S v ls):eC PG Fn.l9 #[v] w (eI w fun v' I=>dF I S v' (db ls)):=by
 obtain⟨a,c,rfl,SN,hc⟩:=h.sl;have hle:=h.le;have Ou:=h.lm;refine pW bv ?_
 refine⟨Nat×World,fun x=>⟨[(0,sV a x.1 c)],[],0,[],x.2⟩,fun x=>x.1,
  fun x=>x.1<=ls.length/\Bq w x.2/\db ls=db (ls.take x.1),?_,?_⟩
 .intro O J r;exact⟨(ls.length,J),⟨lr,r.cN,bv⟩,Sub.reset r ⟨rfl,trivial⟩ ⟨trivial,trivial⟩⟩
 .rintro⟨k,w1⟩ ⟨E,V,hF⟩;dsimp only at E V hF ⊢;have VB:Bq w w1->db ls=ls.take k->∀O I,Rel [] 0 [] w.heap.size w1 O I->dF I S (.slice a k c) (db ls):=fun V R O I r=>by
   rw[R];refine⟨Ou.take k,by simp;omega,a,c,by simp;omega,by simp;omega,fun j x G=>?_⟩;have RR:j<k:=by
    have:=(aD.1 G).1;simp at this;omega
   rw[bT RR]at G;obtain⟨ad,Y,X,N⟩:=hc j x G;exact⟨ad,Y,X,kF U V r X N⟩
  apply bS<;>intro h
  .have h:0<k:=by simpa using h
   obtain⟨k,rfl⟩:∃q,k=q+1:=⟨k-1,be⟩
   obtain⟨x,G⟩:=gO ls k;obtain⟨ad,ha,hs,Qe⟩:=hc k x G;refine⟨(k:Int),wo,ad,ha,be,.int .u32 x,fun O J r=>by rw[aJ,aw];exact kF U V r hs Qe,?_⟩;apply bS<;>intro X
   .have X:x=0:=by have:=eq_of_beq X;omega
    subst X;refine⟨(k:Int),wo,⟨be,be,be⟩,a,k,c,Dm a c,bv,bv,?_⟩;intro O I r;exact⟨(k,I),⟨by dsimp only;omega,V.tr r.cN,hF.trans (xA G)⟩,Sub.reset r ⟨rfl,trivial⟩ ⟨trivial,trivial⟩,by dsimp only;omega⟩
   .have X:x≠0:=by intro e;subst e;simp at X
    intro O I r;exact⟨_,rfl,V.tr r.cN,VB V (by rw[hF,AJ G X]) O I r⟩
  .have h:k=0:=by
    have:¬0<k:=by simpa using h
    omega
   subst h;intro O I r;exact⟨_,rfl,V.tr r.cN,VB V (by rw[hF];simp[db]) O I r⟩
theorem eQ{n:Nat}(h:n<18446744073709551616):IntKind.u64.wrap (n:Int)=(n:Int):=xI be be
theorem ei(n:Nat):IntKind.u32.wrap (n:Int)=((n % 4294967296:Nat):Int):=by
 show((n:Int) % 4294967296)=_;omega
theorem ofInt32(x:Nat):BitVec.ofInt 32 (x:Int)=BitVec.ofNat 32 x:=by
 apply BitVec.eq_of_toNat_eq;simp
theorem po{y:Nat}(x:Nat)(hy:y<4294967296):x &&& y<4294967296:=Nat.lt_of_le_of_lt Nat.and_le_right hy
theorem pq{x y:Nat}(G:x<4294967296)(hy:y<4294967296):x ^^^ y<4294967296:=Nat.xor_lt_two_pow (n:=32) G hy
theorem CV{x y:Nat}(G:x<4294967296)(hy:y<4294967296):x ||| y<4294967296:=Nat.or_lt_two_pow (n:=32) G hy
theorem Lk{x y:Nat}(G:x<4294967296)(hy:y<4294967296):IntKind.u32.wrap ((BitVec.ofInt IntKind.u32.bits x &&& BitVec.ofInt IntKind.u32.bits y).toNat:Int)=((x &&& y:Nat):Int):=by
 show IntKind.u32.wrap ((BitVec.ofInt 32 x &&& BitVec.ofInt 32 y).toNat:Int)=_;rw[ofInt32,ofInt32,BitVec.toNat_and,BitVec.toNat_ofNat,BitVec.toNat_ofNat,bM G,bM hy,ei,bM (po x hy)]
theorem NH{x y:Nat}(G:x<4294967296)(hy:y<4294967296):IntKind.u32.wrap ((BitVec.ofInt IntKind.u32.bits x ||| BitVec.ofInt IntKind.u32.bits y).toNat:Int)=((x ||| y:Nat):Int):=by
 show IntKind.u32.wrap ((BitVec.ofInt 32 x ||| BitVec.ofInt 32 y).toNat:Int)=_;rw[ofInt32,ofInt32,BitVec.toNat_or,BitVec.toNat_ofNat,BitVec.toNat_ofNat,bM G,bM hy,ei,bM (CV G hy)]
theorem Ll{x y:Nat}(G:x<4294967296)(hy:y<4294967296):IntKind.u32.wrap ((BitVec.ofInt IntKind.u32.bits x ^^^ BitVec.ofInt IntKind.u32.bits y).toNat:Int)=((x ^^^ y:Nat):Int):=by
 show IntKind.u32.wrap ((BitVec.ofInt 32 x ^^^ BitVec.ofInt 32 y).toNat:Int)=_;rw[ofInt32,ofInt32,BitVec.toNat_xor,BitVec.toNat_ofNat,BitVec.toNat_ofNat,bM G,bM hy,ei,bM (pq G hy)]
theorem Ln{x:Nat}(G:x<4294967296):IntKind.u32.wrap ((BitVec.ofInt IntKind.u32.bits (if IntKind.u32.signed=true then -1 else IntKind.u32.max) ^^^ BitVec.ofInt IntKind.u32.bits x).toNat:Int)=((4294967295 ^^^ x:Nat):Int):=
 Ll (x:=4294967295) bi G
theorem lF{x:Nat}(k:Nat)(E:k<=63):(x:Int).fdiv (2^min (Int.toNat (k:Int)) IntKind.u64.bits)=((x / 2^k:Nat):Int):=by
 have Y:min (Int.toNat (k:Int)) IntKind.u64.bits=k:=by show min (Int.toNat (k:Int)) 64=k;omega
 rw[Y,Int.fdiv_eq_ediv_of_nonneg _ (by exact Int.le_of_lt (Int.pow_pos bi))];simp
theorem nh{x:Nat}(k:Nat)(E:k<=31):(x:Int).fdiv (2^min (Int.toNat (k:Int)) IntKind.u32.bits)=((x / 2^k:Nat):Int):=by
 have Y:min (Int.toNat (k:Int)) IntKind.u32.bits=k:=by show min (Int.toNat (k:Int)) 32=k;omega
 rw[Y,Int.fdiv_eq_ediv_of_nonneg _ (by exact Int.le_of_lt (Int.pow_pos bi))];simp
theorem LJ{z:Nat}(h:z<4294967296):z.testBit 31=decide (2147483648<=z):=by
 rw[Nat.testBit_eq_decide_div_mod_eq];apply decide_eq_decide.2;show z / 2147483648 % 2=1↔_;omega
theorem borrow{x y c d:Nat}(G:x<4294967296)(hy:y<4294967296)(hc:c<=1)(hd:(x+4294967296-(y+c)) % 4294967296=d):
  (((4294967295 ^^^ x) &&& y) ||| ((4294967295 ^^^ (x ^^^ y)) &&& d)) / 2^31=if x<y+c then 1 else 0:=by
 have Ot:d<4294967296:=by omega
 have hz:=CV (po (4294967295 ^^^ x) hy) (po (4294967295 ^^^ (x ^^^ y)) Ot);have ht:=LJ hz;have hm:Nat.testBit 4294967295 31=true:=by decide
 rw[Nat.testBit_or,Nat.testBit_and,Nat.testBit_and,Nat.testBit_xor,Nat.testBit_xor,Nat.testBit_xor,hm,LJ G,LJ hy,LJ Ot]at ht;generalize (((4294967295 ^^^ x) &&& y) ||| ((4294967295 ^^^ (x ^^^ y)) &&& d))=z at hz ht;show z / 2147483648=_;by_cases Y:2147483648<=x<;>by_cases X:2147483648<=y<;>by_cases N:2147483648<=d<;>simp[Y,X,N]at ht<;>split<;>omega
theorem Gr(x y c:Nat)(w:World)(G:x<4294967296)(hy:y<4294967296)(hc:c<4294967296):
  eC PG Fn.yq #[.int .u32 x,.int .u32 y,.int .u32 c] w (eI w fun v _=>v= .tuple #[.int .u32 ((x+y+c) % 4294967296:Nat),.int .u32 ((x+y+c) / 4294967296:Nat)]):=by
 refine AH bv ?_;refine⟨(x:Int),eQ be,(y:Int),eQ be,((x+y:Nat):Int),by rw[xI]<;>omega,(c:Int),eQ be,((x+y+c:Nat):Int),by rw[xI]<;>omega,(((x+y+c) % 4294967296:Nat):Int),ei _,bi,(((x+y+c) / 4294967296:Nat):Int),?_,?_⟩
 .exact lF 32 bi
 refine⟨(((x+y+c) / 4294967296:Nat):Int),by rw[ei];omega,?_⟩;intro O w3 r;exact⟨_,rfl,r.cN,rfl⟩
theorem Gs(x y c:Nat)(w:World)(G:x<4294967296)(hy:y<4294967296)(hc:c<=1):
  eC PG Fn.yr #[.int .u32 x,.int .u32 y,.int .u32 c] w (eI w fun v _=>v= .tuple #[.int .u32 ((x+4294967296-(y+c)) % 4294967296:Nat),.int .u32 ((if x<y+c then 1 else 0:Nat):Int)]):=by
 refine AI bv ?_;refine⟨((x+4294967296-y) % 4294967296:Nat),?_,?_⟩
 .show((x:Int)-y) % 4294967296=_;omega
 refine⟨((x+4294967296-(y+c)) % 4294967296:Nat),?_,?_⟩
 .show((((x+4294967296-y) % 4294967296:Nat):Int)-c) % 4294967296=_;omega
 have h6:(x+4294967296-(y+c)) % 4294967296<4294967296:=bz _ bi;generalize hd:(x+4294967296-(y+c)) % 4294967296=d at h6;refine⟨((4294967295 ^^^ x:Nat):Int),Ln G,(((4294967295 ^^^ x) &&& y:Nat):Int),Lk (pq bi G) hy,((x ^^^ y:Nat):Int),Ll G hy,((4294967295 ^^^ (x ^^^ y):Nat):Int),Ln (pq G hy),(((4294967295 ^^^ (x ^^^ y)) &&& d:Nat):Int),Lk (pq bi (pq G hy)) h6,((((4294967295 ^^^ x) &&& y) ||| ((4294967295 ^^^ (x ^^^ y)) &&& d):Nat):Int),NH (po _ hy) (po _ h6),bi,((if x<y+c then 1 else 0:Nat):Int),?_,?_⟩
 .rw[<-borrow G hy hc hd];exact nh 31 bi
 intro O w3 r;exact⟨_,rfl,r.cN,rfl⟩
def ry(n m:Nat):Int:=if n<m then -1 else if m<n then 1 else 0
theorem Lp{a b:List Nat}{i x y:Nat}(ha:Lm a)(hl:a.length=b.length)(G:a[i]? =some x)(hy:b[i]? =some y)(h:a.drop (i+1)=b.drop (i+1))(OT:x<y):val a<val b:=by
 have D:=(aD.1 G).1;have Y:=eX a i be;have X:=eX b i be;rw[ir G]at Y;rw[ir hy,<-h]at X;have N:=nG (ha.take i);rw[aZ,Nat.min_eq_left be]at N;generalize val (a.drop (i+1))=q at Y X;have h4:wt i*(x+4294967296*q+1)<=wt i*(y+4294967296*q):=bh _ be;rw[bW,aw]at h4;omega
theorem JQ{u:Value}{n m:Nat}(U:Old S w)(Z:dc w S v n)(hm:dc w S u m):eC PG Fn.qt #[v,u] w (eI w fun v' _=>v'=iV (ry n m)):=by
 obtain⟨ls,Y,nz1,rfl⟩:=Z;obtain⟨ms,X,nz2,rfl⟩:=hm;obtain⟨a,c,rfl,_,ha⟩:=Y.sl;obtain⟨b,e,rfl,_,hb⟩:=X.sl;have hle1:=Y.le;have To:=X.le;have lm1:=Y.lm;have lm2:=X.lm;refine uq bv ?_;apply bS<;>intro h
 .have h:ls.length≠ms.length:=by intro e;rw[e]at h;simp at h
  apply bS<;>intro N
  .have N:ls.length<ms.length:=by simpa using N
   intro O I r;exact⟨_,rfl,r.cN,by rw[ry,aH (iX lm1 nz2 N)];rfl⟩
  .have N:ms.length<ls.length:=by
    have:¬ls.length<ms.length:=by simpa using N
    omega
   have h4:=iX lm2 nz1 N;intro O I r;exact⟨_,rfl,r.cN,by rw[ry,aF be,aH h4];rfl⟩
 .have h:ls.length=ms.length:=by
   have:(ls.length:Int)=ms.length:=by simpa using h
   omega
  refine⟨(ls.length:Int)-1,wo,Nat×World,fun x=>⟨[(0,sV a ls.length c),(1,sV b ms.length e),(5,.o (.v (iV ((x.1:Int)-1))))],[],0,[],x.2⟩,fun x=>x.1,
   fun x=>x.1<=ls.length/\Bq w x.2/\ls.drop x.1=ms.drop x.1,?_,?_⟩
  .intro O J r;exact⟨(ls.length,J),⟨lr,r.cN,by rw[List.drop_length,h,List.drop_length]⟩,Sub.reset r ⟨rfl,rfl,rfl,trivial⟩ ⟨trivial,trivial,trivial,trivial⟩⟩
  .rintro⟨k,w1⟩ ⟨E,V,hd⟩;dsimp only at E V hd ⊢;apply bS<;>intro N
   .have N:(k:Int)-1≥0:=aE N;obtain⟨k,rfl⟩:∃q,k=q+1:=⟨k-1,be⟩
    rw[show ((k+1:Nat):Int)-1=(k:Int) by omega];obtain⟨x,G⟩:=gO ls k;obtain⟨y,hy⟩:=gO ms k;obtain⟨ad,OX,hs,hc1⟩:=ha k x G;obtain⟨ad2,PW,PY,RU⟩:=hb k y hy;have OZ:∀O J,Rel [] 0 [] w.heap.size w1 O J->J.cell? (ad.add ((k:Int).toNat*1))=some (.int .u32 x):=fun O J r=>by
     rw[aJ,aw];exact kF U V r hs hc1
    have PS:∀O J,Rel [] 0 [] w.heap.size w1 O J->J.cell? (ad2.add ((k:Int).toNat*1))=some (.int .u32 y):=fun O J r=>by
     rw[aJ,aw];exact kF U V r PY RU
    refine dP (idO 10) ?_;refine⟨ad,OX,be,_,OZ,ad2,PW,be,_,PS,?_⟩;apply bS<;>intro h4
    .have h4:=dL h4;intro O I r;exact⟨_,rfl,V.tr r.cN,by rw[ry,aH (Lp lm1 h G hy hd h4)];rfl⟩
    .have h4:¬x<y:=by simpa using h4
     refine dP (idO 10) ?_;refine⟨ad,OX,be,_,OZ,ad2,PW,be,_,PS,?_⟩;apply bS<;>intro h5
     .have h5:=dL h5;have h6:=Lp lm2 h.symm hy G hd.symm h5;intro O I r;exact⟨_,rfl,V.tr r.cN,by rw[ry,aF be,aH h6];rfl⟩
     .have h5:¬y<x:=by simpa using h5
      have hxy:x=y:=by omega
      subst hxy;refine⟨(k:Int)-1,wo,?_⟩;intro O I r;have Ot:ls.drop k=ms.drop k:=by
       obtain⟨q1,e1⟩:=aD.1 G;obtain⟨q2,e2⟩:=aD.1 hy;rw[List.drop_eq_getElem_cons q1,List.drop_eq_getElem_cons q2,e1,e2,hd]
      exact⟨(k,I),⟨by dsimp only;omega,V.tr r.cN,Ot⟩,Sub.reset r ⟨rfl,rfl,rfl,trivial⟩ ⟨trivial,trivial,trivial,trivial⟩,bv⟩
   .have SM:k=0:=by
     have:¬(k:Int)-1≥0:=aC N;omega
    subst SM;have R:ls=ms:=by simpa using hd
    intro O I r;exact⟨_,rfl,V.tr r.cN,by rw[R,ry,aF be,aF be];rfl⟩
end Go.Ex
namespace Go.Sx
open Go Go.Ex Go.Proofs
variable{O:Nat->Sx.da}
theorem Rel.p9{nx:Nat}{iv:Iv}{B:Nat}{w J:World}(r:Rel [] nx iv B w O J):w.grownBy J none:=
 ⟨r.os,r.tape,r.output,r.size,fun k E _=>r.uC k E (fun id b h=>by cases h)⟩
end Go.Sx
namespace Go.Ex
open Go Go.Sx Go.Proofs
variable{l ls:List Nat}{S:Nat->Prop}{v:Value}{w:World}
structure LA(S:Nat->Prop)(w:World) where
 a:Option Addr
 c:Nat
 ls:List Nat
 lm:Lm ls
 le:ls.length<=9223372036854775807
 cap:ls.length<=c
 cell:∀(j:Nat) x,ls[j]? =some x->∃ad,a=some ad/\S ad.block/\w.cell? (ad.add j)=some (.int .u32 x)
theorem dF.la(h:dF w S v ls):∃p:LA S w,v= .slice p.a p.ls.length p.c/\p.ls=ls:=by
 obtain⟨a,c,Y,X,N⟩:=h.sl;exact⟨⟨a,c,ls,h.lm,h.le,X,N⟩,Y,rfl⟩
theorem dc.la{n:Nat}(h:dc w S v n):∃p:LA S w,v= .slice p.a p.ls.length p.c/\val p.ls=n/\Nz p.ls:=by
 obtain⟨ls,Y,X,N⟩:=h;obtain⟨p,h4,h5⟩:=Y.la;exact⟨p,h4,by rw[h5];exact N,by rw[h5];exact X⟩
theorem LA.load{w1:World}(p:LA S w)(U:Old S w)(V:Bq w w1){k x:Nat}(G:p.ls[k]? =some x):
  ∃ad,p.a=some ad/\∀(H:Hp) (nx:Nat) (iv:Iv) (O:Nat->Sx.da) J,Rel H nx iv w.heap.size w1 O J->J.cell? (ad.add ((k:Int).toNat*1))=some (.int .u32 x):=by
 obtain⟨ad,Y,X,N⟩:=p.cell k x G;refine⟨ad,Y,fun H nx iv O J r=>?_⟩;rw[aJ,aw];exact kF U V r X N
def E8(l:List Nat):List Value:=l.map fun(x:Nat)=>.int .u32 (x:Int)
theorem fy(l:List Nat):(E8 l).length=l.length:=by simp[E8]
theorem ta{k x:Nat}(h:l[k]? =some x):(E8 l)[k]? =some (.int .u32 x):=by simp[E8,h]
theorem NM(l:List Nat)(k x:Nat)(h:k<l.length):(E8 l).take k++[.int .u32 x]++(E8 l).drop (k+1)=E8 (l.set k x):=by
 have Y:k<(E8 l).length:=by rw[fy];exact h
 have:(E8 l).set k (.int .u32 x)=E8 (l.set k x):=by simp[E8,List.map_set]
 rw[<-this,List.set_eq_take_append_cons_drop,aH Y];simp
theorem ie(l:List Nat)(k x:Nat)(h:k<l.length){e:Nat}(R:e=k):(E8 l).take e++[.int .u32 (x:Int)]++(E8 l).drop (e+1)=E8 (l.set k x):=by
 subst R;exact NM l e x h
theorem rz(n:Nat):List.replicate n (Value.int .u32 0)=E8 (List.replicate n 0):=by simp[E8]
end Go.Ex
namespace Go.Sx
open Go Go.Ex Go.Proofs
variable{ls:List Nat}{O:Nat->Sx.da}
theorem Rel.ml{H:Hp}{nx:Nat}{iv:Iv}{B:Nat}{w J:World}(r:Rel H nx iv B w O J){id t:Nat}(h:cw H id=some (.arr t (E8 ls)))(Ou:Lm ls)(hle:ls.length<=9223372036854775807):
  dF J (fun g=>g=(O id).g) (.slice (some ⟨(O id).g,0,none⟩) ls.length ls.length) ls:=by
 refine⟨Ou,hle,_,_,rfl,lr,fun j x G=>⟨_,rfl,rfl,?_⟩⟩;have h0:(⟨(O id).g,0,none⟩:Addr).add j=⟨(O id).g,j,none⟩:=by
  cases j with
  |zero=>rfl
  |succ j=>simp[Addr.add]
 rw[h0,cell_of (r.arr id t _ h)];exact ta G
end Go.Sx
namespace Go.Ex
open Go Go.Sx Go.Proofs
section
variable{S:Nat->Prop}
theorem BX{out ls ms:List Nat}{i x o d:Nat}(G:ls[i]? =some x)(ho:ms.getD i 0=o)(hd:out[i]? =some d){carry:Nat}(h:val (out.take i)+wt i*carry=val (ls.take i)+val (ms.take i)):
  val ((out.set i ((x+o+carry) % 4294967296)).take (i+1))+wt (i+1)*((x+o+carry) / 4294967296)=val (ls.take (i+1))+val (ms.take (i+1)):=by
 have D:=(aD.1 hd).1;have Y:(out.set i ((x+o+carry) % 4294967296))[i]? =some ((x+o+carry) % 4294967296):=by rw[aW D]
 rw[dU Y,List.take_set_of_le lr,dU G,iW];have X:val (ms.take (i+1))=val (ms.take i)+wt i*o:=by
  cases hm:ms[i]? with
  |some y=>
   have:y=o:=by rw[<-ho];simp[List.getD,hm]
   rw[dU hm,this]
  |none=>
   have:o=0:=by rw[<-ho];simp[List.getD,hm]
   rw[this,aY,hm];simp
 rw[X];have N:=Nat.div_add_mod (x+o+carry) 4294967296;generalize (x+o+carry) / 4294967296=q at N ⊢;generalize (x+o+carry) % 4294967296=r at N ⊢;have h4:wt i*(4294967296*q+r)=wt i*(x+o+carry):=by rw[N]
 rw[bW,bW,bW,<-bl,bU (wt i) 4294967296]at h4;omega
theorem M6{w:World}{v u:Value}{n m:Nat}(U:Old S w)(Z:dc w S v n)(hm:dc w S u m)(R4:ln n<=1000000000000)(Ou:ln m<=1000000000000):
  eC PG Fn.pN #[v,u] w (eI w fun v' I=>dc I (Nf w I) v' (n+m)):=by
 obtain⟨p,rfl,QC,Pk⟩:=Z.la;obtain⟨q,rfl,Qf,Pq⟩:=hm.la;have Pc:=eE p.lm Pk;have Ta:=eE q.lm Pq;rw[QC]at Pc;rw[Qf]at Ta;have hsum:n+m=val p.ls+val q.ls:=by rw[QC,Qf]
 rw[hsum];refine tY bv ?_;refine vF.mk ?_ ?_<;>intro h
 case' refine_1=>
  have h:p.ls.length<q.ls.length:=by simpa using h
  have hpx:p.ls.length<=q.ls.length:=by omega
  have hx12:q.ls.length<=1000000000000:=by omega
  rw[Nat.add_comm];generalize VD:q=x at*
  generalize hgy:p=y at*
 case' refine_2=>
  have h:¬p.ls.length<q.ls.length:=by simpa using h
  have hpx:q.ls.length<=p.ls.length:=by omega
  have hx12:p.ls.length<=1000000000000:=by omega
  generalize VD:p=x at*
  generalize hgy:q=y at*
 all_goals
  refine⟨((x.ls.length+1:Nat):Int),wo,x.ls.length+1,x.ls.length+1,rfl,rfl,lr,be,be,Nat×List Nat×Nat×World,fun z=>⟨[(0,sV x.a x.ls.length x.c),(1,sV y.a y.ls.length y.c),(5,.o (.s 0 0 (x.ls.length+1) (x.ls.length+1))),(6,.o (.v (.int .u32 z.2.2.1))),(21,iZ x.ls.length),(22,iZ z.1)],
    [(0,.arr T.uint32 (E8 z.2.1))],1,[],z.2.2.2⟩,fun z=>x.ls.length-z.1,
   fun z=>z.1<=x.ls.length/\Bq w z.2.2.2/\z.2.1.length=x.ls.length+1/\Lm z.2.1/\z.2.2.1<2/\val (z.2.1.take z.1)+wt z.1*z.2.2.1=val (x.ls.take z.1)+val (y.ls.take z.1),?_,?_⟩
  .intro O J r;rw[rz]at r;exact⟨(0,List.replicate (x.ls.length+1) 0,0,J),⟨bv,r.cN,bv,Lm.replicate _,bv,by simp[val]⟩,sbgn [] r⟩
  .rintro⟨i,out,carry,w1⟩ ⟨D,V,Pr,Oa,hc,hv⟩;dsimp only at D V Pr Oa hc hv ⊢;refine vF.mk ?_ ?_<;>intro h
   .have h:=dL h;obtain⟨xi,PN⟩:=gO x.ls i;obtain⟨d,hd⟩:=gO out i;obtain⟨ad,OX,Oc⟩:=x.load U V PN;have Pe:=x.lm.at PN;refine vF.mk ?_ ?_<;>intro X
    .have X:=dL X;obtain⟨o,ho⟩:=gO y.ls i;obtain⟨ad2,PW,QM⟩:=y.load U V ho;have Un:=y.lm.at ho;have S7:y.ls.getD i 0=o:=by simp[List.getD,ho]
     refine⟨ad2,PW,be,.int .u32 o,QM _ _ _,ad,OX,be,.int .u32 xi,Oc _ _ _,?_⟩;refine cD (cM (If:=fun _ _ v _=>v= .tuple #[.int .u32 ((xi+o+carry) % 4294967296:Nat),.int .u32 ((xi+o+carry) / 4294967296:Nat)]) (fun O J r=>Gr xi o carry J Pe Un be) ?_);rintro O J v I r R hb rfl;replace V:=V.tr hb;have PH:=BX PN S7 hd hv;have RU:(xi+o+carry) / 4294967296<2:=by omega
     refine⟨be,by rw[fy];omega,E8 (out.set i ((xi+o+carry) % 4294967296)),ie out i _ be bv,((i+1:Nat):Int),wo,?_⟩;intro IR w3 A
     exact⟨(i+1,out.set i ((xi+o+carry) % 4294967296),(xi+o+carry) / 4294967296,w3),⟨by dsimp only;omega,V.tr A.cN,by simp[Pr],Oa.set (bz _ bi),RU,PH⟩,
      sbgn [] A,by dsimp only;omega⟩
    .have X:¬i<y.ls.length:=by simpa using X
     have S7:y.ls.getD i 0=0:=by simp[List.getD,List.getElem?_eq_none (show y.ls.length<=i by omega)]
     refine⟨ad,OX,be,.int .u32 xi,Oc _ _ _,?_⟩;refine cD (cM (If:=fun _ _ v _=>v= .tuple #[.int .u32 ((xi+0+carry) % 4294967296:Nat),.int .u32 ((xi+0+carry) / 4294967296:Nat)]) (fun O J r=>Gr xi 0 carry J Pe bi be) ?_);rintro O J v I r R hb rfl;replace V:=V.tr hb;have PH:=BX PN S7 hd hv;have RU:(xi+0+carry) / 4294967296<2:=by omega
     refine⟨be,by rw[fy];omega,E8 (out.set i ((xi+0+carry) % 4294967296)),ie out i _ be bv,((i+1:Nat):Int),wo,?_⟩;intro IR w3 A
     exact⟨(i+1,out.set i ((xi+0+carry) % 4294967296),(xi+0+carry) / 4294967296,w3),⟨by dsimp only;omega,V.tr A.cN,by simp[Pr],Oa.set (bz _ bi),RU,PH⟩,
      sbgn [] A,by dsimp only;omega⟩
   .have Q2:i=x.ls.length:=by
     have:¬i<x.ls.length:=by simpa using h
     omega
    subst Q2;obtain⟨d,hd⟩:=gO out x.ls.length;have Rv:val (out.set x.ls.length carry)=val x.ls+val y.ls:=by
     have Y:(out.set x.ls.length carry)[x.ls.length]? =some carry:=by rw[aW be]
     have X:=dU Y;rw[bF (by simp;omega),List.take_set_of_le lr]at X;rw[bG,bF hpx]at hv;omega
    have hlm2:Lm (out.set x.ls.length carry):=Oa.set be;refine⟨be,by rw[fy];omega,E8 (out.set x.ls.length carry),ie out x.ls.length carry be bv,?_⟩;generalize hgo:out.set x.ls.length carry=fin at Rv hlm2;have OL:fin.length=x.ls.length+1:=by rw[<-hgo];simp[Pr]
    refine gI (If:=fun O _ v I=>dF I (fun g=>g=(O 0).g) v (db fin)) (H':=[]) 0 rfl bv trivial rfl (fun O J r=>r.nn 0 _ rfl (by intros;simp) bv) (fun O J r=>?_) ?_
    .have hL:=r.ml (id:=0) rfl hlm2 be;rw[OL]at hL;exact fG (fun g F=>by rw[F];exact(r.low 0 _ rfl (r.nn 0 _ rfl (by intros;simp) bv)).2) hL
    rintro O J v I r R hb hL;replace V:=V.tr hb;have Ov:=r.low 0 _ rfl (r.nn 0 _ rfl (by intros;simp) bv);generalize (O 0).g=g at*
    have hs:=R.size;intro IR w3 A;refine⟨_,rfl,V.tr A.cN,db fin,?_,(ec fin).2.1,?_⟩
    .refine(hL.cK fun k E=>?_).cF fun k E=>.inr ?_
     .rw[E];exact A.p9.block g be bv
     .rw[E];have:=A.size;omega
    .rw[(ec fin).1,Rv]
end
variable{ls ms out:List Nat}{A9 a b i k o t:Nat}{S:Nat->Prop}{v:Value}{w:World}
theorem Hy(ho:ms.getD i 0=o):val (ms.take (i+1))=val (ms.take i)+wt i*o:=by
 cases hm:ms[i]? with
 |some y=>
  have:y=o:=by rw[<-ho];simp[List.getD,hm]
  rw[dU hm,this]
 |none=>
  have:o=0:=by rw[<-ho];simp[List.getD,hm]
  rw[this,aY,hm];simp
theorem zd{x d e:Nat}(G:ls[i]? =some x)(ho:ms.getD i 0=o)(hd:out[i]? =some d){b':Nat}(h:val (out.take i)+val (ms.take i)=val (ls.take i)+wt i*b)(R:e+(o+b)=x+4294967296*b'):
  val ((out.set i e).take (i+1))+val (ms.take (i+1))=val (ls.take (i+1))+wt (i+1)*b':=by
 have D:=(aD.1 hd).1;have Y:(out.set i e)[i]? =some e:=by rw[aW D]
 rw[dU Y,List.take_set_of_le lr,dU G,Hy ho,iW];have h4:wt i*(e+(o+b))=wt i*(x+4294967296*b'):=by rw[R]
 rw[bW,bW,bW,<-bl,bU (wt i) 4294967296]at h4;omega
theorem CF{u:Value}{n m:Nat}(U:Old S w)(Z:dc w S v n)(hm:dc w S u m)(hle:m<=n)(R4:ln n<=1000000000000):
  eC PG Fn.oT #[v,u] w (eI w fun v' I=>dc I (Nf w I) v' (n-m)):=by
 obtain⟨x,rfl,QC,Pk⟩:=Z.la;obtain⟨y,rfl,Qf,Pq⟩:=hm.la;have Pc:=eE x.lm Pk;rw[QC]at Pc;have hyx:y.ls.length<=x.ls.length:=by
  rw[eE x.lm Pk,eE y.lm Pq,QC,Qf];exact fA hle
 refine rp bv ?_
 refine⟨x.ls.length,x.ls.length,rfl,rfl,lr,be,be,Nat×List Nat×Nat×World,fun z=>⟨[(0,sV x.a x.ls.length x.c),(1,sV y.a y.ls.length y.c),(5,.o (.s 0 0 x.ls.length x.ls.length)),(6,.o (.v (.int .u32 z.2.2.1))),(13,iZ x.ls.length),(14,iZ z.1)],
   [(0,.arr T.uint32 (E8 z.2.1))],1,[],z.2.2.2⟩,fun z=>x.ls.length-z.1,
  fun z=>z.1<=x.ls.length/\Bq w z.2.2.2/\z.2.1.length=x.ls.length/\Lm z.2.1/\z.2.2.1<2/\val (z.2.1.take z.1)+val (y.ls.take z.1)=val (x.ls.take z.1)+wt z.1*z.2.2.1,?_,?_⟩
 .intro O J r;rw[rz]at r;exact⟨(0,List.replicate x.ls.length 0,0,J),⟨bv,r.cN,bv,Lm.replicate _,bv,by simp[val]⟩,sbgn [] r⟩
 .rintro⟨i,out,b,w1⟩ ⟨D,V,Pr,Oa,hc,hv⟩;dsimp only at D V Pr Oa hc hv ⊢;apply bS<;>intro h
  .have h:=dL h;obtain⟨xi,PN⟩:=gO x.ls i;obtain⟨d,hd⟩:=gO out i;obtain⟨ad,OX,Oc⟩:=x.load U V PN;have Pe:=x.lm.at PN;apply bS<;>intro X
   .have X:=dL X;obtain⟨o,ho⟩:=gO y.ls i;obtain⟨ad2,PW,QM⟩:=y.load U V ho;have Un:=y.lm.at ho;have S7:y.ls.getD i 0=o:=by simp[List.getD,ho]
    refine⟨ad2,PW,be,.int .u32 o,QM _ _ _,ad,OX,be,.int .u32 xi,Oc _ _ _,?_⟩;refine cD (cM (If:=fun _ _ v _=>v= .tuple #[.int .u32 ((xi+4294967296-(o+b)) % 4294967296:Nat),.int .u32 ((if xi<o+b then 1 else 0:Nat):Int)]) (fun O J r=>Gs xi o b J Pe Un be) ?_);rintro O J v I r R hb rfl;replace V:=V.tr hb;have QA:(xi+4294967296-(o+b)) % 4294967296+(o+b)=xi+4294967296*(if xi<o+b then 1 else 0):=by split<;>omega
    have OT:(xi+4294967296-(o+b)) % 4294967296<4294967296:=bz _ bi;have QP:(if xi<o+b then 1 else 0:Nat)<2:=by split<;>omega
    generalize (xi+4294967296-(o+b)) % 4294967296=e at QA OT;generalize (if xi<o+b then 1 else 0:Nat)=b' at QA QP;have PH:=zd PN S7 hd hv QA;refine⟨be,by rw[fy];omega,E8 (out.set i e),ie out i _ be bv,((i+1:Nat):Int),wo,?_⟩;intro IR w3 A
    exact⟨(i+1,out.set i e,b',w3),⟨by dsimp only;omega,V.tr A.cN,by simp[Pr],Oa.set OT,QP,PH⟩,
     sbgn [] A,by dsimp only;omega⟩
   .have X:¬i<y.ls.length:=by simpa using X
    have S7:y.ls.getD i 0=0:=by simp[List.getD,List.getElem?_eq_none (show y.ls.length<=i by omega)]
    refine⟨ad,OX,be,.int .u32 xi,Oc _ _ _,?_⟩;refine cD (cM (If:=fun _ _ v _=>v= .tuple #[.int .u32 ((xi+4294967296-(0+b)) % 4294967296:Nat),.int .u32 ((if xi<0+b then 1 else 0:Nat):Int)]) (fun O J r=>Gs xi 0 b J Pe bi be) ?_);rintro O J v I r R hb rfl;replace V:=V.tr hb;have QA:(xi+4294967296-(0+b)) % 4294967296+(0+b)=xi+4294967296*(if xi<0+b then 1 else 0):=by split<;>omega
    have OT:(xi+4294967296-(0+b)) % 4294967296<4294967296:=bz _ bi;have QP:(if xi<0+b then 1 else 0:Nat)<2:=by split<;>omega
    generalize (xi+4294967296-(0+b)) % 4294967296=e at QA OT;generalize (if xi<0+b then 1 else 0:Nat)=b' at QA QP;have PH:=zd PN S7 hd hv QA;refine⟨be,by rw[fy];omega,E8 (out.set i e),ie out i _ be bv,((i+1:Nat):Int),wo,?_⟩;intro IR w3 A
    exact⟨(i+1,out.set i e,b',w3),⟨by dsimp only;omega,V.tr A.cN,by simp[Pr],Oa.set OT,QP,PH⟩,
     sbgn [] A,by dsimp only;omega⟩
  .have Q2:i=x.ls.length:=by
    have:¬i<x.ls.length:=by simpa using h
    omega
   subst Q2;have Rv:val out=n-m:=by
    rw[bF be,bF hyx,bG,QC,Qf]at hv;have Y:=nG Oa;rw[Pr]at Y;have:b=0\/b=1:=by omega
    rcases this with rfl|rfl
    .omega
    .omega
   refine gI (If:=fun O _ v I=>dF I (fun g=>g=(O 0).g) v (db out)) (H':=[]) 0 rfl bv trivial rfl (fun O J r=>r.nn 0 _ rfl (by intros;simp) bv) (fun O J r=>?_) ?_
   .have hL:=r.ml (id:=0) rfl Oa be;rw[Pr]at hL;exact fG (fun g F=>by rw[F];exact(r.low 0 _ rfl (r.nn 0 _ rfl (by intros;simp) bv)).2) hL
   rintro O J v I r R hb hL;replace V:=V.tr hb;have Ov:=r.low 0 _ rfl (r.nn 0 _ rfl (by intros;simp) bv);generalize (O 0).g=g at*
   have hs:=R.size;intro IR w3 A;refine⟨_,rfl,V.tr A.cN,db out,?_,(ec out).2.1,?_⟩
   .refine(hL.cK fun k E=>?_).cF fun k E=>.inr ?_
    .rw[E];exact A.p9.block g be bv
    .rw[E];have:=A.size;omega
   .rw[(ec out).1,Rv]
theorem Fs{p c:Nat}(ho:out[p]? =some o)(h:val out+wt p*c=A9)(ht:t=a+o+c):
  val (out.set p (t % 4294967296))+wt (p+1)*(t / 4294967296)=A9+wt p*a:=by
 have Y:=xN (x:=t % 4294967296) ho;rw[iW];have N:=Nat.div_add_mod t 4294967296;generalize t / 4294967296=q at N ⊢;generalize t % 4294967296=r at N Y ⊢;have h4:wt p*(4294967296*q+r)=wt p*(a+o+c):=by rw[N,ht]
 rw[bW,bW,bW,<-bl,bU (wt p) 4294967296]at h4;omega
def Zf(out:List Nat)(p:Nat):Prop:=∀(j:Nat) z,p<=j->out[j]? =some z->z=0
theorem Zf.set{p x:Nat}(h:Zf out p)(E:k<p):Zf (out.set k x) p:=fun j z hj hz=>by
 rw[bC be]at hz;exact h j z hj hz
theorem KM(ha:a<4294967296)(hb:b<4294967296):a*b<=18446744065119617025:=by
 have:a*b<=4294967295*4294967295:=Nat.mul_le_mul be be;omega
theorem Gi{u:Value}{n m:Nat}(U:Old S w)(Z:dc w S v n)(hm:dc w S u m)(R4:ln n<=1000000000000)(Ou:ln m<=1000000000000):
  eC PG Fn.oP #[v,u] w (eI w fun v' I=>dc I (Nf w I) v' (n*m)):=by
 obtain⟨x,rfl,QC,Pk⟩:=Z.la;obtain⟨y,rfl,Qf,Pq⟩:=hm.la;have Pc:=eE x.lm Pk;rw[QC]at Pc;have Ta:=eE y.lm Pq;rw[Qf]at Ta;refine rh bv ?_;obtain⟨C9,hL⟩:∃C9,C9=x.ls.length+y.ls.length:=⟨_,rfl⟩
 refine⟨(C9:Int),wo,C9,C9,rfl,rfl,lr,be,be,Nat×List Nat×World,fun z=>⟨[(1,sV y.a y.ls.length y.c),(5,.o (.s 0 0 C9 C9)),(18,sV x.a x.ls.length x.c),(19,iZ x.ls.length),(20,iZ z.1)],
   [(0,.arr T.uint32 (E8 z.2.1))],1,[],z.2.2⟩,fun z=>x.ls.length-z.1,
  fun z=>z.1<=x.ls.length/\Bq w z.2.2/\z.2.1.length=C9/\Lm z.2.1/\val z.2.1=val (x.ls.take z.1)*m/\Zf z.2.1 (z.1+y.ls.length),?_,?_⟩
 .intro O J r;rw[rz]at r;exact⟨(0,List.replicate C9 0,J),⟨bv,r.cN,bv,Lm.replicate _,by simp[val,mI],fun j z _ hz=>by simp only[List.getElem?_replicate]at hz;split at hz<;>simp_all⟩,sbgn [] r⟩
 .rintro⟨i,out,w1⟩ ⟨D,V,Pr,Oa,hv,hz⟩;dsimp only at D V Pr Oa hv hz ⊢;apply bS<;>intro h
  .have h:=dL h;obtain⟨xi,PN⟩:=gO x.ls i;obtain⟨ad,OX,Oc⟩:=x.load U V PN;have Pe:=x.lm.at PN
   refine⟨ad,OX,be,.int .u32 xi,Oc _ _ _,Nat×List Nat×Nat×World,fun z=>⟨[(1,sV y.a y.ls.length y.c),(5,.o (.s 0 0 C9 C9)),(18,sV x.a x.ls.length x.c),(19,iZ x.ls.length),(20,iZ i),
     (6,iZ i),(7,.o (.v (.int .u32 xi))),(8,.o (.v (.int .u64 z.2.2.1))),(25,sV y.a y.ls.length y.c),(26,iZ y.ls.length),(27,iZ z.1)],
     [(0,.arr T.uint32 (E8 z.2.1))],1,[],z.2.2.2⟩,fun z=>y.ls.length-z.1,
    fun z=>z.1<=y.ls.length/\Bq w z.2.2.2/\z.2.1.length=C9/\Lm z.2.1/\z.2.2.1<4294967296/\val z.2.1+wt (i+z.1)*z.2.2.1=val (x.ls.take i)*m+wt i*xi*val (y.ls.take z.1)/\Zf z.2.1 (i+y.ls.length),?_,?_⟩
   .intro O J r;exact⟨(0,out,0,J),⟨bv,V.tr r.cN,Pr,Oa,bv,by simp[val,hv],hz⟩,sbgn [] r⟩
   .rintro⟨k,out,c,w1⟩ ⟨E,V,Pr,Oa,hc,hv,hz⟩;dsimp only at E V Pr Oa hc hv hz ⊢;apply bS<;>intro X
    .have X:=dL X;obtain⟨yk,hyk⟩:=gO y.ls k;obtain⟨ad2,PW,QM⟩:=y.load U V hyk;have hy32:=y.lm.at hyk;obtain⟨o,ho⟩:=gO out (i+k);have Un:=Oa.at ho;have hm64:=KM Pe hy32;refine⟨ad2,PW,be,.int .u32 yk,QM _ _ _,(xi:Int),eQ be,(yk:Int),eQ be,((xi*yk:Nat):Int),by rw[<-Int.natCast_mul];exact eQ be,((i+k:Nat):Int),wo,be,.int .u32 o,by rw[aJ,aX,aw];exact ta ho,(o:Int),eQ be,((xi*yk+o:Nat):Int),by rw[<-Int.natCast_add];exact eQ be,?_⟩;obtain⟨t,ht⟩:∃t,t=xi*yk+o+c:=⟨_,rfl⟩
     refine⟨(t:Int),by rw[<-Int.natCast_add,<-ht];exact eQ be,((i+k:Nat):Int),wo,((t % 4294967296:Nat):Int),ei _,bi,((t / 4294967296:Nat):Int),lF 32 bi,be,by rw[fy];omega,E8 (out.set (i+k) (t % 4294967296)),ie out (i+k) _ be (by simp only[aJ];omega),((k+1:Nat):Int),wo,?_⟩;intro IR w3 A
     refine⟨(k+1,out.set (i+k) (t % 4294967296),t / 4294967296,w3),⟨by dsimp only;omega,V.tr A.cN,by simp[Pr],Oa.set (bz _ bi),by dsimp only;omega,?_,hz.set be⟩,
      sbgn [] A,by dsimp only;omega⟩
     have h5:=Fs (a:=xi*yk) ho hv ht;dsimp only
     rw[show i+(k+1)=i+k+1 by omega,h5,dU hyk,Bf,bW,Nat.add_assoc];congr 2;simp only[bl,Nat.mul_left_comm,bU]
    .have hkn:k=y.ls.length:=by
      have:¬k<y.ls.length:=by simpa using X
      omega
     subst hkn;obtain⟨o,ho⟩:=gO out (i+y.ls.length);have ho0:=hz _ _ lr ho;subst ho0;refine⟨((i+y.ls.length:Nat):Int),wo,(c:Int),by rw[ei,bM hc],be,by rw[fy];omega,E8 (out.set (i+y.ls.length) c),ie out (i+y.ls.length) _ be (by simp only[aJ];omega),((i+1:Nat):Int),wo,?_⟩;intro IR w3 A
     refine⟨(i+1,out.set (i+y.ls.length) c,w3),⟨by dsimp only;omega,V.tr A.cN,by simp[Pr],Oa.set hc,?_,?_⟩,
      sbgn [] A,by dsimp only;omega⟩
     .have h5:=xN (x:=c) ho;dsimp only
      rw[bG,Qf]at hv;rw[dU PN,Nat.add_mul];omega
     .intro j z hj hjz;dsimp only at hj;rw[bC be]at hjz;exact hz j z be hjz
  .have Q2:i=x.ls.length:=by
    have:¬i<x.ls.length:=by simpa using h
    omega
   subst Q2;have Rv:val out=n*m:=by rw[hv,bG,QC]
   refine gI (If:=fun O _ v I=>dF I (fun g=>g=(O 0).g) v (db out)) (H':=[]) 0 rfl bv trivial rfl (fun O J r=>r.nn 0 _ rfl (by intros;simp) bv) (fun O J r=>?_) ?_
   .have hL:=r.ml (id:=0) rfl Oa be;rw[Pr]at hL;exact fG (fun g F=>by rw[F];exact(r.low 0 _ rfl (r.nn 0 _ rfl (by intros;simp) bv)).2) hL
   rintro O J v I r R hb hL;replace V:=V.tr hb;have Ov:=r.low 0 _ rfl (r.nn 0 _ rfl (by intros;simp) bv);generalize (O 0).g=g at*
   have hs:=R.size;intro IR w3 A;refine⟨_,rfl,V.tr A.cN,db out,?_,(ec out).2.1,?_⟩
   .refine(hL.cK fun k E=>?_).cF fun k E=>.inr ?_
    .rw[E];exact A.p9.block g be bv
    .rw[E];have:=A.size;omega
   .rw[(ec out).1,Rv]
theorem CH{q:Nat}(ho:o<2^k):o ||| 2^k*q=o+2^k*q:=by
 rw[Nat.or_comm,<-Nat.two_pow_add_eq_or_of_lt ho,Nat.add_comm]
theorem JS{x y:Nat}(G:x<18446744073709551616)(hy:y<18446744073709551616):IntKind.u64.wrap ((BitVec.ofInt IntKind.u64.bits x ||| BitVec.ofInt IntKind.u64.bits y).toNat:Int)=((x ||| y:Nat):Int):=by
 have e:∀z:Nat,BitVec.ofInt 64 (z:Int)=BitVec.ofNat 64 z:=fun z=>by
  apply BitVec.eq_of_toNat_eq;simp
 show IntKind.u64.wrap ((BitVec.ofInt 64 x ||| BitVec.ofInt 64 y).toNat:Int)=_;rw[e,e,BitVec.toNat_or,BitVec.toNat_ofNat,BitVec.toNat_ofNat,bM G,bM hy];exact eQ (Nat.or_lt_two_pow (n:=64) G hy)
theorem CG(E:k<=63)(h:a*2^k<18446744073709551616):IntKind.u64.wrap ((a:Int)*2^min ((k:Int)).toNat IntKind.u64.bits)=((a*2^k:Nat):Int):=by
 have Y:min ((k:Int)).toNat IntKind.u64.bits=k:=by show min ((k:Int)).toNat 64=k;omega
 rw[Y,show(a:Int)*2^k=((a*2^k:Nat):Int) by simp];exact eQ h
theorem Fu(ha:ls[i]? =some a)(ho:out[i]? =some o)(hz:out[i+1]? =some 0)(hv:val out=val (ls.take i)*2^b):
  val ((out.set i (o+a*2^b % 4294967296)).set (i+1) (a*2^b / 4294967296))=val (ls.take (i+1))*2^b:=by
 have Y:=xN (x:=o+a*2^b % 4294967296) ho;have X:(out.set i (o+a*2^b % 4294967296))[i+1]? =some 0:=by rw[bC be];exact hz
 have N:=xN (x:=a*2^b / 4294967296) X;rw[dU ha,Nat.add_mul,bl];rw[iW]at N;generalize a*2^b=t at*
 have h4:=Nat.div_add_mod t 4294967296;generalize t / 4294967296=q at*
 generalize t % 4294967296=r at*
 have h5:wt i*(o+r)=wt i*o+wt i*r:=bW _ _ _;have h6:4294967296*wt i*q=wt i*(4294967296*q):=by rw[bU 4294967296 (wt i),bl]
 rw[<-h4,bW];omega
def JU(w I:World)(v:Value)(ls:List Nat):Prop:=∃g,v= .slice (some ⟨g,0,none⟩) ls.length ls.length/\w.heap.size<=g/\I.heap[g]? =some (.cells (E8 ls).toArray T.uint32 (0,0))/\Lm ls
theorem BE(U:Old S w)(h:dF w S v ls)(hl:ls.length<=1000000000000)(hb:b<32):
  eC PG Fn.lk #[v,.int .u64 b] w (eI w fun v' I=>∃out,JU w I v' out/\out.length=ls.length+1/\val out=val ls*2^b):=by
 obtain⟨x,rfl,rfl⟩:=h.la;refine p8 bv ?_;have hp32:2^b<=2^31:=Nat.pow_le_pow_right bi be
 refine⟨((x.ls.length+1:Nat):Int),wo,x.ls.length+1,x.ls.length+1,rfl,rfl,lr,be,be,Nat×List Nat×World,fun z=>⟨[(1,.o (.v (.int .u64 b))),(5,.o (.s 0 0 (x.ls.length+1) (x.ls.length+1))),(13,sV x.a x.ls.length x.c),(14,iZ x.ls.length),(15,iZ z.1)],
   [(0,.arr T.uint32 (E8 z.2.1))],1,[],z.2.2⟩,fun z=>x.ls.length-z.1,
  fun z=>z.1<=x.ls.length/\Bq w z.2.2/\z.2.1.length=x.ls.length+1/\Lm z.2.1/\val z.2.1=val (x.ls.take z.1)*2^b/\Zf z.2.1 (z.1+1)/\(∀o,z.2.1[z.1]? =some o->o<2^b),?_,?_⟩
 .intro O J r;rw[rz]at r;refine⟨(0,List.replicate (x.ls.length+1) 0,J),⟨bv,r.cN,bv,Lm.replicate _,by simp[val,mI],fun j z _ hz=>?_,fun o ho=>?_⟩,sbgn [] r⟩
  .simp only[List.getElem?_replicate]at hz;split at hz<;>simp_all
  .simp only[List.getElem?_replicate]at ho;split at ho
   .injection ho with ho;subst ho;exact bu _
   .cases ho
 .rintro⟨i,out,w1⟩ ⟨D,V,Pr,Oa,hv,hz,Ov⟩;dsimp only at D V Pr Oa hv hz Ov ⊢;apply bS<;>intro h
  .have h:=dL h;obtain⟨a,PN⟩:=gO x.ls i;obtain⟨ad,OX,Oc⟩:=x.load U V PN;have Pe:=x.lm.at PN;obtain⟨o,ho⟩:=gO out i;obtain⟨o1,UH⟩:=gO out (i+1);have e0:=hz _ _ lr UH;subst e0;have R0:=Ov o ho;have PH:=Fu PN ho UH hv;have QB:a*2^b<=4294967295*2^31:=Nat.mul_le_mul be hp32;have Rx:a*2^b / 4294967296<2^b:=by
    rw[Nat.div_lt_iff_lt_mul bi,bU (2^b)];exact Nat.mul_lt_mul_of_pos_right Pe (bu b)
   have TG:o ||| a*2^b % 4294967296=o+a*2^b % 4294967296:=by
    have:a*2^b % 4294967296=2^b*(a % 2^(32-b)):=by
     rw[show (4294967296:Nat)=2^(32-b)*2^b by rw[<-Nat.pow_add,Nat.sub_add_cancel be],Nat.mul_mod_mul_right,bU]
    rw[this];exact CH R0
   have UF:o+a*2^b % 4294967296<4294967296:=by
    rw[<-TG];exact CV be (bz _ bi)
   refine⟨ad,OX,be,.int .u32 a,Oc _ _ _,(a:Int),eQ be,be,((a*2^b:Nat):Int),CG be be,?_⟩;generalize ht:a*2^b=t at*
   refine⟨be,.int .u32 o,by rw[aJ,aX,aw];exact ta ho,((t % 4294967296:Nat):Int),ei _,((o+t % 4294967296:Nat):Int),by rw[<-TG];exact NH be (bz _ bi),be,by rw[fy];omega,E8 (out.set i (o+t % 4294967296)),ie out i _ be bv,((i+1:Nat):Int),wo,bi,((t / 4294967296:Nat):Int),lF 32 bi,((t / 4294967296:Nat):Int),by rw[ei];omega,be,by rw[fy];simp;omega,E8 ((out.set i (o+t % 4294967296)).set (i+1) (t / 4294967296)),ie _ (i+1) _ (by simp;omega) (by simp only[aJ];omega),((i+1:Nat):Int),wo,?_⟩;intro IR w3 A
   refine⟨(i+1,(out.set i (o+t % 4294967296)).set (i+1) (t / 4294967296),w3),⟨by dsimp only;omega,V.tr A.cN,by simp[Pr],(Oa.set UF).set be,PH,fun j z hj hjz=>?_,fun o2 Sp=>?_⟩,
    sbgn [] A,by dsimp only;omega⟩
   .dsimp only at hj;rw[bC be,bC be]at hjz;exact hz j z be hjz
   .rw[aW (by simp;omega)]at Sp;injection Sp with Sp;omega
  .have Q2:i=x.ls.length:=by
    have:¬i<x.ls.length:=by simpa using h
    omega
   subst Q2;rw[bG]at hv;intro IR w3 A;refine⟨_,rfl,V.tr A.cN,out,⟨(IR 0).g,by rw[Pr];rfl,(A.low 0 _ rfl (A.nn 0 _ rfl (by intros;simp) bv)).1,A.arr 0 _ _ rfl,Oa⟩,Pr,hv⟩
theorem B6{d q:Nat}(ha32:a<4294967296)(ha:ls[i]? =some a)(hd:out[i]? =some d)(hb:b<=32)(ht:t=a+4294967296*ls.getD (i+1) 0)(hq:q=t / 2^b % 4294967296)(hv:val (out.take i)+wt i*(val (ls.drop i) / 2^b)=A9):
  val ((out.set i q).take (i+1))+wt (i+1)*(val (ls.drop (i+1)) / 2^b)=A9:=by
 have D:=(aD.1 hd).1;have Y:(out.set i q)[i]? =some q:=by rw[aW D]
 rw[dU Y,List.take_set_of_le lr,iW,<-hv];have hN:=ir ha;have X:val (ls.drop i) / 2^b=q+4294967296*(val (ls.drop (i+1)) / 2^b):=by
  have e1:val (ls.drop i) / 2^b / 4294967296=val (ls.drop (i+1)) / 2^b:=by
   rw[Nat.div_div_eq_div_mul,bU,<-Nat.div_div_eq_div_mul];congr 1;omega
  have e2:val (ls.drop i) / 2^b % 4294967296=q:=by
   have N:∃z,val (ls.drop i)=t+2^b*(4294967296*z):=by
    cases G:ls[i+1]? with
    |some y=>
     have:=ir G;refine⟨2^(32-b)*val (ls.drop (i+1+1)),?_⟩;have h4:2^b*(4294967296*(2^(32-b)*val (ls.drop (i+1+1))))=18446744073709551616*val (ls.drop (i+1+1)):=by
      rw[Nat.mul_left_comm,<-bl (2^b),<-Nat.pow_add,Nat.add_sub_cancel' hb,<-bl]
     rw[h4,hN,this,ht,List.getD,G];simp only[Option.getD_some]
     omega
    |none=>
     refine⟨0,?_⟩;have h5:ls.length<=i+1:=List.getElem?_eq_none_iff.1 G;rw[hN,List.drop_of_length_le h5,ht,List.getD,G];simp[val]
   obtain⟨z,hz⟩:=N;rw[hz,Nat.add_mul_div_left _ _ (bu b),Nat.add_mul_mod_self_left,hq]
  have:=Nat.div_add_mod (val (ls.drop i) / 2^b) 4294967296;rw[e1,e2]at this;omega
 rw[X,bW,bU 4294967296 (wt i),bl];omega
theorem MT(U:Old S w)(h:dF w S v ls)(hl:ls.length<=1000000000000)(hb:b<32):
  eC PG Fn.pM #[v,.int .u64 b] w (eI w fun v' I=>dc I (Nf w I) v' (val ls / 2^b)):=by
 obtain⟨x,rfl,rfl⟩:=h.la;refine tX bv ?_
 refine⟨x.ls.length,x.ls.length,rfl,rfl,lr,be,be,Nat×List Nat×World,fun z=>⟨[(0,sV x.a x.ls.length x.c),(1,.o (.v (.int .u64 b))),(5,.o (.s 0 0 x.ls.length x.ls.length)),(12,iZ x.ls.length),(13,iZ z.1)],
   [(0,.arr T.uint32 (E8 z.2.1))],1,[],z.2.2⟩,fun z=>x.ls.length-z.1,
  fun z=>z.1<=x.ls.length/\Bq w z.2.2/\z.2.1.length=x.ls.length/\Lm z.2.1/\val (z.2.1.take z.1)+wt z.1*(val (x.ls.drop z.1) / 2^b)=val x.ls / 2^b,?_,?_⟩
 .intro O J r;rw[rz]at r;exact⟨(0,List.replicate x.ls.length 0,J),⟨bv,r.cN,bv,Lm.replicate _,by simp[val,jC]⟩,sbgn [] r⟩
 .rintro⟨i,out,w1⟩ ⟨D,V,Pr,Oa,hv⟩;dsimp only at D V Pr Oa hv ⊢;apply bS<;>intro h
  .have h:=dL h;obtain⟨a,PN⟩:=gO x.ls i;obtain⟨ad,OX,Oc⟩:=x.load U V PN;have Pe:=x.lm.at PN;obtain⟨d,hd⟩:=gO out i;refine⟨ad,OX,be,.int .u32 a,Oc _ _ _,(a:Int),eQ be,((i+1:Nat):Int),wo,?_⟩;apply bS<;>intro X
   .have X:i+1<x.ls.length:=by
     have:((i+1:Nat):Int)<x.ls.length:=aE X;omega
    obtain⟨y,hy⟩:=gO x.ls (i+1);obtain⟨ad2,PW,QM⟩:=x.load U V hy;have hy32:=x.lm.at hy;have Qr:x.ls.getD (i+1) 0=y:=by simp[List.getD,hy]
    have TG:a ||| y*2^32=a+4294967296*y:=by
     rw[bU];exact CH (k:=32) Pe
    refine⟨((i+1:Nat):Int),wo,ad2,PW,be,.int .u32 y,QM _ _ _,(y:Int),eQ be,bi,((y*2^32:Nat):Int),CG (k:=32) bi be,((a+4294967296*y:Nat):Int),by rw[JS be be,TG],be,(((a+4294967296*y) / 2^b:Nat):Int),lF b be,(((a+4294967296*y) / 2^b % 4294967296:Nat):Int),ei _,?_⟩;have PH:=B6 (t:=a+4294967296*y) Pe PN hd be (by rw[Qr]) rfl hv;generalize hq:(a+4294967296*y) / 2^b % 4294967296=q at*
    have hq32:q<4294967296:=by rw[<-hq];exact bz _ bi
    refine⟨be,by rw[fy];omega,E8 (out.set i q),ie out i _ be bv,((i+1:Nat):Int),wo,?_⟩;intro IR w3 A
    exact⟨(i+1,out.set i q,w3),⟨by dsimp only;omega,V.tr A.cN,by simp[Pr],Oa.set hq32,PH⟩,
     sbgn [] A,by dsimp only;omega⟩
   .have X:¬i+1<x.ls.length:=by
     have:¬((i+1:Nat):Int)<x.ls.length:=aC X;omega
    have Qr:x.ls.getD (i+1) 0=0:=by simp[List.getD,List.getElem?_eq_none (show x.ls.length<=i+1 by omega)]
    refine⟨be,((a / 2^b:Nat):Int),lF b be,((a / 2^b % 4294967296:Nat):Int),ei _,?_⟩;have PH:=B6 (t:=a) Pe PN hd be (by rw[Qr];omega) rfl hv;generalize hq:a / 2^b % 4294967296=q at*
    have hq32:q<4294967296:=by rw[<-hq];exact bz _ bi
    refine⟨be,by rw[fy];omega,E8 (out.set i q),ie out i _ be bv,((i+1:Nat):Int),wo,?_⟩;intro IR w3 A
    exact⟨(i+1,out.set i q,w3),⟨by dsimp only;omega,V.tr A.cN,by simp[Pr],Oa.set hq32,PH⟩,
     sbgn [] A,by dsimp only;omega⟩
  .have Q2:i=x.ls.length:=by
    have:¬i<x.ls.length:=by simpa using h
    omega
   subst Q2;have Rv:val out=val x.ls / 2^b:=by
    rw[List.drop_length,bF be]at hv;simpa [val]using hv
   refine gI (If:=fun O _ v I=>dF I (fun g=>g=(O 0).g) v (db out)) (H':=[]) 0 rfl bv trivial rfl (fun O J r=>r.nn 0 _ rfl (by intros;simp) bv) (fun O J r=>?_) ?_
   .have hL:=r.ml (id:=0) rfl Oa be;rw[Pr]at hL;exact fG (fun g F=>by rw[F];exact(r.low 0 _ rfl (r.nn 0 _ rfl (by intros;simp) bv)).2) hL
   rintro O J v I r R hb hL;replace V:=V.tr hb;have Ov:=r.low 0 _ rfl (r.nn 0 _ rfl (by intros;simp) bv);generalize (O 0).g=g at*
   have hs:=R.size;intro IR w3 A;refine⟨_,rfl,V.tr A.cN,db out,?_,(ec out).2.1,?_⟩
   .refine(hL.cK fun k E=>?_).cF fun k E=>.inr ?_
    .rw[E];exact A.p9.block g be bv
    .rw[E];have:=A.size;omega
   .rw[(ec out).1,Rv]
theorem Fv{by_ rest x d:Nat}(G:ls[k]? =some x)(hd:out[k]? =some d)(ht:t=rest*4294967296+x)
  (hv:val (ls.drop (k+1))=by_*val (out.drop (k+1))+rest):val (ls.drop k)=by_*val ((out.set k (t / by_)).drop k)+t % by_:=by
 have D:=(aD.1 hd).1;have Y:(out.set k (t / by_))[k]? =some (t / by_):=by rw[aW D]
 rw[ir Y,List.drop_set_of_lt (show k<k+1 by omega),ir G,hv,bW,bW];have X:=Nat.div_add_mod t by_;rw[Nat.mul_left_comm by_];omega
theorem JT(h:t<18446744073709551616):IntKind.u64.wrap ((t:Int).tdiv (b:Int))=((t / b:Nat):Int):=by
 have Y:=Nat.div_le_self t b;rw[Int.tdiv_eq_ediv_of_nonneg be,<-Int.natCast_ediv];exact eQ be
theorem KB(t b:Nat):(t:Int).tmod (b:Int)=((t % b:Nat):Int):=by
 rw[Int.tmod_eq_emod_of_nonneg be,<-Int.natCast_emod]
theorem Kv(U:Old S w)(h:dF w S v ls)(hl:ls.length<=1000000000000)(hb:0<b)(QP:b<4294967296):
  eC PG Fn.oQ #[v,.int .u32 b] w (eI w fun v' I=>∃q,v'= .tuple #[q,.int .u32 ((val ls % b:Nat):Int)]/\dc I (Nf w I) q (val ls / b)):=by
 obtain⟨x,rfl,rfl⟩:=h.la;refine rk bv ?_
 refine⟨x.ls.length,x.ls.length,rfl,rfl,lr,be,be,(x.ls.length:Int)-1,wo,Nat×Nat×List Nat×World,fun z=>⟨[(0,sV x.a x.ls.length x.c),(1,.o (.v (.int .u32 b))),(4,sV none 0 0),(5,.o (.v (.int .u32 0))),(6,.o (.s 0 0 x.ls.length x.ls.length)),(7,.o (.v (.int .u64 z.2.1))),(8,.o (.v (iV ((z.1:Int)-1))))],
   [(0,.arr T.uint32 (E8 z.2.2.1))],1,[],z.2.2.2⟩,fun z=>z.1,
  fun z=>z.1<=x.ls.length/\Bq w z.2.2.2/\z.2.2.1.length=x.ls.length/\Lm z.2.2.1/\z.2.1<b/\val (x.ls.drop z.1)=b*val (z.2.2.1.drop z.1)+z.2.1,?_,?_⟩
 .intro O J r;rw[rz]at r;exact⟨(x.ls.length,0,List.replicate x.ls.length 0,J),⟨bv,r.cN,bv,Lm.replicate _,by simpa using hb,by simp[val]⟩,sbgn [] r⟩
 .rintro⟨k,rest,out,w1⟩ ⟨D,V,Pr,Oa,hr,hv⟩;dsimp only at D V Pr Oa hr hv ⊢;apply bS<;>intro h
  .have h:(k:Int)-1≥0:=aE h;obtain⟨k,rfl⟩:∃q,k=q+1:=⟨k-1,be⟩
   rw[show ((k+1:Nat):Int)-1=(k:Int) by omega];obtain⟨a,PN⟩:=gO x.ls k;obtain⟨ad,OX,Oc⟩:=x.load U V PN;have Pe:=x.lm.at PN;obtain⟨d,hd⟩:=gO out k;refine⟨bi,((rest*2^32:Nat):Int),CG (k:=32) bi be,ad,OX,be,.int .u32 a,Oc _ _ _,(a:Int),eQ be,?_⟩;have TG:rest*2^32 ||| a=rest*4294967296+a:=by
    rw[Nat.or_comm,bU,CH (k:=32) Pe];omega
   refine⟨((rest*4294967296+a:Nat):Int),by rw[JS be be,TG],?_⟩;generalize ht:rest*4294967296+a=t;have ht64:t<18446744073709551616:=by omega
   refine dP (idO 14) ?_;refine⟨(b:Int),eQ be,be,((t / b:Nat):Int),JT ht64,?_⟩;have hq:t / b<4294967296:=by
    rw[Nat.div_lt_iff_lt_mul hb];have:=Nat.mul_le_mul_right 4294967296 hr;rw[Nat.succ_eq_add_one,Nat.add_mul]at this;omega
   have hm:t % b<b:=bz _ hb;have PH:=Fv PN hd ht.symm hv;have hw32:IntKind.u32.wrap ((t / b:Nat):Int)=((t / b:Nat):Int):=by rw[ei,bM hq]
   have hrem:=KB t b;generalize t / b=q at*
   generalize t % b=m at*
   refine⟨(q:Int),hw32,(b:Int),eQ be,be,(m:Int),hrem,be,by rw[fy];omega,E8 (out.set k q),ie out k _ be bv,(k:Int)-1,wo,?_⟩;intro IR w3 A
   exact⟨(k,m,out.set k q,w3),⟨by dsimp only;omega,V.tr A.cN,by simp[Pr],Oa.set hq,hm,PH⟩,
    sbgn [] A,by dsimp only;omega⟩
  .have SM:k=0:=by
    have:¬(k:Int)-1≥0:=aC h;omega
   subst SM;rw[List.drop_zero,List.drop_zero]at hv;have hdm:val x.ls / b=val out/\val x.ls % b=rest:=by
    rw[hv];exact⟨by rw[Nat.mul_add_div hb,Nat.div_eq_of_lt hr,cC],by rw[Nat.mul_add_mod,bM hr]⟩
   rw[hdm.1,hdm.2];refine gI (If:=fun O _ v I=>dF I (fun g=>g=(O 0).g) v (db out)) (H':=[]) 0 rfl bv trivial rfl (fun O J r=>r.nn 0 _ rfl (by intros;simp) bv) (fun O J r=>?_) ?_
   .have hL:=r.ml (id:=0) rfl Oa be;rw[Pr]at hL;exact fG (fun g F=>by rw[F];exact(r.low 0 _ rfl (r.nn 0 _ rfl (by intros;simp) bv)).2) hL
   rintro O J v I r R hb hL;replace V:=V.tr hb;have Ov:=r.low 0 _ rfl (r.nn 0 _ rfl (by intros;simp) bv);generalize (O 0).g=g at*
   have hs:=R.size;refine⟨(rest:Int),by rw[ei,bM be],?_⟩;intro IR w3 A;refine⟨_,rfl,V.tr A.cN,v,rfl,db out,?_,(ec out).2.1,(ec out).1⟩;refine(hL.cK fun k E=>?_).cF fun k E=>.inr ?_
   .rw[E];exact A.p9.block g be bv
   .rw[E];have:=A.size;omega
def gK(n:Nat):Nat:=if n=0 then 0 else n.log2+1
theorem JO{x:Nat}(h:2^k<=x):x.log2=(x / 2^k).log2+k:=by
 have hp:=bu k;have hy:x / 2^k≠0:=by have:=Nat.div_pos h hp;omega
 have Y:=Nat.log2_self_le hy;have X:=@Nat.lt_log2_self (x / 2^k);rw[Nat.log2_eq_iff be];refine⟨?_,?_⟩
 .rw[Nat.pow_add];exact(Nat.le_div_iff_mul_le hp).1 Y
 .rw[show (x / 2^k).log2+k+1=(x / 2^k).log2+1+k by omega,Nat.pow_add];exact(Nat.div_lt_iff_lt_mul hp).1 X
theorem zM{x:Nat}(h:2^k<=x):gK x=k+gK (x / 2^k):=by
 have hp:=bu k;have hy:x / 2^k≠0:=by have:=Nat.div_pos h hp;omega
 rw[gK,gK,aF hy,aF be,JO h];omega
theorem xS{n:Nat}(h:n<256):IntKind.u8.wrap (n:Int)=(n:Int):=by
 show((n:Int) % 256)=_;omega
theorem xT{n:Nat}(h:n<256):(UInt8.ofNat (gK n)).toNat=gK n:=by
 have:∀n,n<256->(UInt8.ofNat (gK n)).toNat=gK n:=by decide +kernel
 exact this n h
theorem nf{x:Nat}(h:x<256):gK x<=8:=by
 have:∀n,n<256->gK n<=8:=by decide +kernel
 exact this x h
theorem Ge(n:Nat)(h:n<256):(⟨#[0,1,2,2,3,3,3,3,4,4,4,4,4,4,4,4,5,5,5,5,5,5,5,5,5,5,5,5,5,5,5,5,6,6,6,6,6,6,6,6,6,6,6,6,6,6,6,6,6,6,6,6,6,6,6,6,6,6,6,6,6,6,6,6,7,7,7,7,7,7,7,7,7,7,7,7,7,7,7,7,7,7,7,7,7,7,7,7,7,7,7,7,7,7,7,7,7,7,7,7,7,7,7,7,7,7,7,7,7,7,7,7,7,7,7,7,7,7,7,7,7,7,7,7,7,7,7,7,8,8,8,8,8,8,8,8,8,8,8,8,8,8,8,8,8,8,8,8,8,8,8,8,8,8,8,8,8,8,8,8,8,8,8,8,8,8,8,8,8,8,8,8,8,8,8,8,8,8,8,8,8,8,8,8,8,8,8,8,8,8,8,8,8,8,8,8,8,8,8,8,8,8,8,8,8,8,8,8,8,8,8,8,8,8,8,8,8,8,8,8,8,8,8,8,8,8,8,8,8,8,8,8,8,8,8,8,8,8,8,8,8,8,8,8,8,8,8,8,8,8,8,8,8,8,8,8]⟩:ByteArray)[((n:Nat):Int).toNat]? =some (UInt8.ofNat (gK n)):=by
 have:∀n,n<256->(⟨#[0,1,2,2,3,3,3,3,4,4,4,4,4,4,4,4,5,5,5,5,5,5,5,5,5,5,5,5,5,5,5,5,6,6,6,6,6,6,6,6,6,6,6,6,6,6,6,6,6,6,6,6,6,6,6,6,6,6,6,6,6,6,6,6,7,7,7,7,7,7,7,7,7,7,7,7,7,7,7,7,7,7,7,7,7,7,7,7,7,7,7,7,7,7,7,7,7,7,7,7,7,7,7,7,7,7,7,7,7,7,7,7,7,7,7,7,7,7,7,7,7,7,7,7,7,7,7,7,8,8,8,8,8,8,8,8,8,8,8,8,8,8,8,8,8,8,8,8,8,8,8,8,8,8,8,8,8,8,8,8,8,8,8,8,8,8,8,8,8,8,8,8,8,8,8,8,8,8,8,8,8,8,8,8,8,8,8,8,8,8,8,8,8,8,8,8,8,8,8,8,8,8,8,8,8,8,8,8,8,8,8,8,8,8,8,8,8,8,8,8,8,8,8,8,8,8,8,8,8,8,8,8,8,8,8,8,8,8,8,8,8,8,8,8,8,8,8,8,8,8,8,8,8,8,8,8]⟩:ByteArray)[n]? =some (UInt8.ofNat (gK n)):=by decide +kernel
 exact this n h
theorem Kr(x:Nat)(w:World)(G:x<4294967296):eC PG Fn.yp #[.int .u32 x] w (eI w fun v _=>v=iV (gK x)):=by
 refine AG bv ?_;apply bS<;>intro h
 .have h:65536<=x:=by have:=aE h;omega
  refine⟨bi,((x / 2^16:Nat):Int),nh 16 bi,?_⟩;have hb:=zM (k:=16) h;have hy:x / 2^16<65536:=by omega
  rw[hb];generalize x / 2^16=y at*
  apply bS<;>intro X
  .have X:256<=y:=by have:=aE X;omega
   refine⟨bi,((y / 2^8:Nat):Int),nh 8 bi,?_⟩;have QP:=zM (k:=8) X;have hz:y / 2^8<256:=by omega
   rw[QP];generalize y / 2^8=z at*
   refine⟨24,bi,(z:Int),xS hz,?_⟩;refine qH (b:=UInt8.ofNat (gK z)) ((hτ _ _ rfl).i3 rfl) rfl rfl be (Ge z hz) (fun Id w1 r1=>?_);rw[xT hz];have ht:=nf hz;refine⟨(gK z:Int),wo,((24+gK z:Nat):Int),wo,?_⟩;intro IR w3 A;exact⟨_,rfl,r1.cN.tr A.cN,by rw[<-Nat.add_assoc];rfl⟩
  .have hy:y<256:=by have:=aC X;omega
   refine⟨(y:Int),xS hy,?_⟩;refine qH (b:=UInt8.ofNat (gK y)) ((hτ _ _ rfl).i3 rfl) rfl rfl be (Ge y hy) (fun Id w1 r1=>?_);rw[xT hy];have ht:=nf hy;refine⟨(gK y:Int),wo,((16+gK y:Nat):Int),wo,?_⟩;intro IR w3 A;exact⟨_,rfl,r1.cN.tr A.cN,cs⟩
 .have h:x<65536:=by have:=aC h;omega
  apply bS<;>intro X
  .have X:256<=x:=by have:=aE X;omega
   refine⟨bi,((x / 2^8:Nat):Int),nh 8 bi,?_⟩;have QP:=zM (k:=8) X;have hz:x / 2^8<256:=by omega
   rw[QP];generalize x / 2^8=z at*
   refine⟨8,bi,(z:Int),xS hz,?_⟩;refine qH (b:=UInt8.ofNat (gK z)) ((hτ _ _ rfl).i3 rfl) rfl rfl be (Ge z hz) (fun Id w1 r1=>?_);rw[xT hz];have ht:=nf hz;refine⟨(gK z:Int),wo,((8+gK z:Nat):Int),wo,?_⟩;intro IR w3 A;exact⟨_,rfl,r1.cN.tr A.cN,cs⟩
  .have G:x<256:=by have:=aC X;omega
   refine⟨(x:Int),xS G,?_⟩;refine qH (b:=UInt8.ofNat (gK x)) ((hτ _ _ rfl).i3 rfl) rfl rfl be (Ge x G) (fun Id w1 r1=>?_);rw[xT G];have ht:=nf G;refine⟨(gK x:Int),wo,((0+gK x:Nat):Int),wo,?_⟩;intro IR w3 A;exact⟨_,rfl,r1.cN.tr A.cN,by rw[aX];rfl⟩
theorem xO{x:Nat}:gK x<=k↔x<2^k:=by
 unfold gK;by_cases h:x=0
 .rw[aH h,h];exact⟨fun _=>bu k,fun _=>aP _⟩
 .rw[aF h];constructor
  .intro Y;exact(Nat.log2_lt h).1 be
  .intro Y;have:=(Nat.log2_lt h).2 Y;omega
theorem MR(x:Nat)(w:World)(G:x<4294967296):eC PG Fn.kE #[.int .u32 x] w (eI w fun v _=>v=iV ((32-gK x:Nat):Int)):=by
 refine nd bv ?_;refine cD (cM (If:=fun _ _ v _=>v=iV (gK x)) (fun O J r=>Kr x J G) ?_);rintro O J v I r R hb rfl;have h32:gK x<=32:=xO.2 G;refine⟨((32-gK x:Nat):Int),wo,?_⟩;intro IR w3 A;exact⟨_,rfl,hb.tr A.cN,rfl⟩
end Go.Ex
namespace Go.Sx
open Go Go.Ex Go.Proofs
variable{ls:List Nat}{O:Nat->Sx.da}
theorem Rel.JP{H:Hp}{nx:Nat}{iv:Iv}{B:Nat}{w J:World}(r:Rel H nx iv B w O J){id t m:Nat}(h:cw H id=some (.vec t 1 (E8 ls)))(hm:m=ls.length)(Ou:Lm ls)(hle:ls.length<=9223372036854775807):
  dF J (fun g=>B<=g/\g<J.heap.size) ((At.w id m).den O) ls:=by
 subst hm;rcases r.vec id t 1 _ h with⟨Z,hu⟩|⟨Z,spare,hb,hc,QF⟩
 .have hl:ls=[]:=by cases ls with
   |nil=>rfl
   |cons a b=>simp[E8]at hu
  subst hl;have:(At.w id ([]:List Nat).length).den O=nls:=by simp[At.den,Z]
  rw[this];exact dF.nil _ _
 .refine⟨Ou,hle,some ⟨(O id).g,0,none⟩,(O id).cap,by simp[At.den,Z],?_,fun j x G=>⟨_,rfl,r.low id _ h Z,?_⟩⟩
  .have Y:(E8 ls++spare).length=ls.length+spare.length:=by rw[aL,fy]
   omega
  .rw[dS,cell_of hb,aX,aK (by rw[fy];exact(aD.1 G).1)];exact ta G
end Go.Sx
namespace Go.Ex
open Go Go.Sx Go.Proofs
variable{ls:List Nat}{S:Nat->Prop}
theorem Ks:PG.underlying T.nat=some (.slice T.uint32):=by
 have h:=(hτ T.nat _ rfl).i4 rfl;exact h
theorem Gf{w:World}{v:Value}(U:Old S w)(h:dF w S v ls)(hl:ls.length<=1000000000000):
  eC PG Fn.fb #[v] w (eI w fun v' I=>dF I (Nf w I) v' ls):=by
 obtain⟨x,rfl,rfl⟩:=h.la;refine iQ bv ?_;refine⟨x.a.isNone,fun O w1 o1 o2=>by simp[eqGuard,SV.den,At.den,uG (P:=PG) w1 T.nat T.uint32 x.a x.ls.length x.c 0 0 Ks],?_⟩;apply bS<;>intro h
 .intro IR w3 A;have Z:x.ls=[]:=by
   cases G:x.ls with
   |nil=>rfl
   |cons u r=>
    obtain⟨ad,Y,_⟩:=x.cell 0 u (by rw[G];rfl);rw[Y]at h;simp at h
  exact⟨_,rfl,A.cN,by rw[Z];exact dF.nil _ _⟩
 .refine .inl ?_;refine⟨E8 x.ls,by rw[fy,aw],fun u hu=>by simp only[E8,aV]at hu;obtain⟨n,_,rfl⟩:=hu;rfl,fun O w1 r h0=>?_,?_⟩
  .obtain⟨u,hu⟩:=gO x.ls 0;obtain⟨ad,OX,_⟩:=x.cell 0 u hu;refine⟨ad,OX,fun j u hu=>?_⟩;simp only[E8,aO,Option.map_eq_some_iff]at hu;obtain⟨n,Z,rfl⟩:=hu;obtain⟨ad2,PW,hs,hc⟩:=x.cell j n Z;rw[OX]at PW;injection PW with PW;subst PW;exact kF U jv.refl r hs hc
  refine⟨rfl,be,mx,?_⟩;intro IR w3 A;exact⟨_,rfl,A.cN,(A.JP (id:=1) rfl (aX _) x.lm x.le).cF fun g F=>.inr F⟩
end Go.Ex
