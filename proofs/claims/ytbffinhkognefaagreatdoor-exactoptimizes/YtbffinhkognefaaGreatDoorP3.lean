/- Texts L1 to X10: lemmas, each with its conditions. -/
import Derived.KernelRfl
import Derived.Test.YtbffinhkognefaaGreatDoorProg
import Derived.Test.YtbffinhkognefaaGreatDoorP2
set_option linter.defProp false
namespace Go.Ex
variable{a b ls:List Nat}{k:Nat}
def val:List Nat->Nat
 |[]=>0
 |x::r=>x+4294967296*val r
def Lm(ls:List Nat):Prop:=∀x∈ls,x<4294967296
def wt(k:Nat):Nat:=4294967296^k
def jm:wt 0=1:=rfl
def jY(k:Nat):wt (k+1)=4294967296*wt k:=by rw[wt,Nat.pow_succ,bX];rfl
def Di(a b:Nat):wt (a+b)=wt a*wt b:=by rw[wt,Nat.pow_add];rfl
def zg(k:Nat):0<wt k:=Nat.pow_pos bv
def kl(a b:List Nat):val (a++b)=val a+wt a.length*val b:=by
 induction a with
 |nil=>simp[val,jm]
 |cons x r ih=>
  rw[List.cons_append,val,val,ih,bh,jY,bW,bo];omega
def pX(h:Lm ls):val ls<wt ls.length:=by
 induction ls with
 |nil=>exact Nat.one_pos
 |cons x r ih=>
  have Y:=h x ce;have I:=ih (λy hy=>h y (by simp[hy]));rw[val,bh,jY];have:4294967296*(val r+1)<=4294967296*wt r.length:=bC _ I;omega
def fC(ls:List Nat)(k:Nat)(h:k<=ls.length):val ls=val (ls.take k)+wt k*val (ls.drop k):=by
 have:=kl (ls.take k) (ls.drop k);rw[List.take_append_drop,bI,Nat.min_eq_left h]at this;exact this
def eF{x:Nat}(h:ls[k]? =some x):val (ls.take (k+1))=val (ls.take k)+wt k*x:=by
 have K:=(aH.1 h).1;rw[bH,h,kl,bI,Nat.min_eq_left be];simp[val]
def ja{x:Nat}(h:ls[k]? =some x):val (ls.drop k)=x+4294967296*val (ls.drop (k+1)):=by
 obtain⟨K,Z⟩:=aH.1 h;rw[List.drop_eq_getElem_cons K,Z,val]
def zD{o x:Nat}(h:ls[k]? =some o):val (ls.set k x)+wt k*o=val ls+wt k*x:=by
 obtain⟨K,ho⟩:=aH.1 h;have Y:=fC ls k be;have I:=fC (ls.set k x) k (by simp;omega);rw[List.take_set_of_le (ae _)]at I;rw[ja h,bW]at Y;have h3:(ls.set k x)[k]? =some x:=by rw[aQ K]
 rw[ja h3,List.drop_set_of_lt be,bW]at I;omega
def kx(n:Nat):val (List.replicate n 0)=0:=by
 induction n with
 |zero=>rfl
 |succ n ih=>rw[List.replicate_succ,val,ih]
def Lm.set{x:Nat}(h:Lm ls)(Z:x<4294967296):Lm (ls.set k x):=λy hy=>by
 rcases bL hy with Y|rfl
 .exact h y Y
 .exact Z
def Lm.replicate(n:Nat):Lm (List.replicate n 0):=λx Z=>by rw[List.mem_replicate]at Z;omega
def Lm.take(h:Lm ls)(k:Nat):Lm (ls.take k):=λx Z=>h x (List.mem_of_mem_take Z)
def Lm.drop(h:Lm ls)(k:Nat):Lm (ls.drop k):=λx Z=>h x (List.mem_of_mem_drop Z)
def Lm.append(ha:Lm a)(N:Lm b):Lm (a++b):=λx Z=>by
 rcases az.1 Z with h|h
 .exact ha x h
 .exact N x h
def Lm.at(h:Lm ls){x:Nat}(Z:ls[k]? =some x):x<4294967296:=h x (aG Z)
def eK:List Nat->List Nat
 |[]=>[]
 |x::r=>match eK r with
  |[]=>if x=0 then []else [x]
  |y::t=>x::y::t
def Nz(ls:List Nat):Prop:=∀x,ls.getLast? =some x->x≠0
def lZ(ls:List Nat):eK (ls++[0])=eK ls:=by
 induction ls with
 |nil=>rfl
 |cons x r ih=>rw[List.cons_append,eK,ih,eK]
def pY(ls:List Nat){x:Nat}(Z:x≠0):eK (ls++[x])=ls++[x]:=by
 induction ls with
 |nil=>simp[eK,Z]
 |cons y r ih=>
  rw[List.cons_append,eK,ih]
  cases r<;>rfl
def uE(ls:List Nat):ls=[]\/∃a x,ls=a++[x]:=by
 rcases List.eq_nil_or_concat ls with h|⟨a,x,h⟩
 .exact .inl h
 .exact .inr ⟨a,x,by simpa using h⟩
def fH(ls:List Nat):val (eK ls)=val ls/\Nz (eK ls)/\∃k,k<=ls.length/\eK ls=ls.take k:=by
 have key:∀(n:Nat) (ls:List Nat),ls.length=n->val (eK ls)=val ls/\Nz (eK ls)/\∃k,k<=ls.length/\eK ls=ls.take k:=by
  intro n
  induction n with
  |zero=>intro ls h;have:ls=[]:=List.eq_nil_of_length_eq_zero h;subst this;exact⟨rfl,by simp[Nz,eK],0,ae _,rfl⟩
  |succ n ih=>
   intro ls h;rcases uE ls with rfl|⟨a,x,rfl⟩
   .simp at h
   .by_cases Z:x=0
    .subst Z;rw[lZ];obtain⟨Y,I,k,h3,h4⟩:=ih a (by simp at h;omega);refine⟨by rw[Y,kl];simp[val],I,k,by simp;omega,?_⟩;rw[h4,List.take_append_of_le_length h3]
    .rw[pY a Z];refine⟨rfl,?_,_,ae _,by rw[bE]⟩;intro y hy;simp at hy;subst hy;exact Z
 exact key _ ls rfl
def FP(h:Nz ls):eK ls=ls:=by
 rcases uE ls with rfl|⟨a,x,rfl⟩
 .rfl
 .exact pY a (h x ce)
def tV(h:Nz ls)(Po:ls≠[]):wt (ls.length-1)<=val ls:=by
 rcases uE ls with rfl|⟨a,x,rfl⟩
 .exact absurd rfl Po
 .have Z:=h x ce;rw[kl];simp only[val,aU,List.length_singleton,Nat.add_sub_cancel]
  have:wt a.length*1<=wt a.length*(x+4294967296*0):=bC _ be;omega
def val_inj:∀{a b:List Nat},Lm a->Lm b->a.length=b.length->val a=val b->a=b
 |[],[],_,_,_,_=>rfl
 |x::r,y::s,ha,N,hl,h=>by
  have Y:=ha x ce;have I:=N y ce;rw[val,val]at h;have h3:x=y:=by omega
  have h4:val r=val s:=by omega
  rw[h3,val_inj (λz hz=>ha z (by simp[hz])) (λz hz=>N z (by simp[hz])) (by simpa using hl) h4]
 |[],_::_,_,_,h,_=>by simp at h
 |_::_,[],_,_,h,_=>by simp at h
def FQ{a b:Nat}(h:a<=b):wt a<=wt b:=Nat.pow_le_pow_right bv h
def jZ(ha:Lm a)(N:Nz b)(h:a.length<b.length):val a<val b:=by
 have Y:=pX ha;have I:=tV N (by intro e;rw[e]at h;simp at h);have:=FQ (show a.length<=b.length-1 by omega);omega
def ln(n:Nat):Nat:=if n=0 then 0 else n.log2 / 32+1
def rI(k:Nat):wt k=2^(32*k):=by rw[wt,show(4294967296:Nat)=2^32 from rfl,<-Nat.pow_mul]
def gn{n k:Nat}:ln n<=k↔n<wt k:=by
 unfold ln;by_cases h:n=0
 .rw[aM h,h];exact⟨λ_=>zg k,λ_=>aZ _⟩
 .rw[aJ h,rI];constructor
  .intro Y;have:n.log2<32*k:=by omega
   exact(Nat.log2_lt h).1 this
  .intro Y;have:=(Nat.log2_lt h).2 Y;omega
def lJ(n:Nat):n<wt (ln n):=gn.1 (ae _)
def fK{a b:Nat}(h:a<=b):ln a<=ln b:=gn.2 (Nat.lt_of_le_of_lt h (lJ b))
def HT(a b:Nat):ln (a+b)<=max (ln a) (ln b)+1:=by
 rw[gn,jY];have Y:=Nat.lt_of_lt_of_le (lJ a) (FQ (Nat.le_max_left (ln a) (ln b)));have I:=Nat.lt_of_lt_of_le (lJ b) (FQ (Nat.le_max_right (ln a) (ln b)));omega
def PH(a b:Nat):ln (a*b)<=ln a+ln b:=by
 rw[gn,Di];exact Nat.mul_lt_mul'' (lJ a) (lJ b)
def PI(a b:Nat):ln (a / b)<=ln a:=fK (Nat.div_le_self a b)
def NU:ln 0=0:=rfl
def eE(h:Lm ls)(hz:Nz ls):ls.length=ln (val ls):=by
 by_cases Po:ls=[]
 .subst Po;rfl
 .have Y:=pX h;have I:=tV hz Po;have h3:=gn.2 Y;have h4:¬ln (val ls)<=ls.length-1:=λhh=>by have:=gn.1 hh;omega
  omega
end Go.Ex
namespace Go.Ex
open Go Go.Sx
variable{f:(Nat->Sx.eD)->Value}{ls:List Nat}{g:Nat}{p:Nat×Nat}{v:Value}{P:Value->World->Prop}{w1:World}
def Cv(S:Nat->Prop)(B:Nat)(iv:Iv)(g:Nat):Prop:=S g\/(B<=g/\∃lo R,(lo,R)∈iv/\lo<=g/\g<R)
def Nw(S:Nat->Prop)(w F:World)(g:Nat):Prop:=S g\/(w.heap.size<=g/\g<F.heap.size)
def Old(S:Nat->Prop)(w:World):Prop:=∀g,S g->g<w.heap.size
section
variable{S S':Nat->Prop}{H:Hp}{nx:Nat}{iv A:Iv}{B:Nat}{w J F:World}{O:Nat->eD}
def Cv.mono(h:Cv S B iv g)(k:∀p,p∈iv->p∈A):Cv S B A g:=by
 rcases h with h|⟨h0,lo,R,Y,I⟩
 .exact .inl h
 .exact .inr ⟨h0,lo,R,k _ Y,I⟩
def Cv.cons(h:Cv S B iv g):Cv S B (p::iv) g:=h.mono λq hq=>by simp[hq]
def rlo(r:Rel H nx iv B w O J)(G:∀g,S g->g<B):Old (Cv S B iv) J:=by
 intro g h;rcases h with h|⟨_,lo,R,Y,_,h3⟩
 .have:=G g h;have:=r.base;have:=r.size;omega
 .have:=r.oB lo R Y;have:=r.size;omega
def rls(r:Rel H nx iv B w O J)(G:∀g,S g->g<B)(h:Cv S B iv g):J.heap[g]? =w.heap[g]? :=by
 rcases h with h|⟨_,lo,R,Y,I,h3⟩
 .have:=G g h;exact r.D9 g (by have:=r.base;omega) λid b N E L=>by have:=(r.low id b N E).1;omega
 .exact r.D9 g (by have:=r.oB lo R Y;omega) λid b N E L=>r.jJ lo R Y id b N E ⟨be,be⟩
def Rel.not(r:Rel H nx iv B w O J)(G:∀g,S g->g<B)(h:Cv S B iv g):∀id b,dT H id=some b->(O id).nil=false->(O id).g≠g:=by
 rcases h with h|⟨_,lo,R,Y,I,h3⟩
 .have:=G g h;exact λid b N E L=>by have:=(r.low id b N E).1;omega
 .exact λid b N E L=>r.jJ lo R Y id b N E ⟨be,be⟩
def Nw.cv(h:Nw (Cv S B iv) J w1 g)(hB:B<=J.heap.size):Cv S B ((J.heap.size,w1.heap.size)::iv) g:=by
 rcases h with h|h
 .exact h.cons
 .exact .inr ⟨be,_,_,aF,h.1,h.2⟩
def Cv.nw{w0:World}(h:Cv S w0.heap.size iv g)(r:Rel H nx iv w0.heap.size w O J):Nw S w0 J g:=by
 rcases h with h|⟨h0,lo,R,Y,_,h3⟩
 .exact .inl h
 .exact .inr ⟨h0,by have:=r.oB lo R Y;have:=r.size;omega⟩
structure dW(w:World)(S:Nat->Prop)(v:Value)(ls:List Nat):Prop where
 lm:Lm ls
 le:ls.length<=9223372036854775807
 sl:∃a c,v= .slice a ls.length c/\ls.length<=c/\∀(j:Nat) x,ls[j]? =some x->∃ad,a=some ad/\S ad.block/\w.cell? (ad.add j)=some (.int .u32 x)
def da(ad:Addr)(j:Nat):(ad.add j).block=ad.block:=by
 unfold Addr.add;split<;>rfl
def dW.cW(h:dW w S v ls)(K:∀g,S g->F.heap[g]? =w.heap[g]?):dW F S v ls:=by
 obtain⟨a,c,Y,ZZ,I⟩:=h.sl;refine⟨h.lm,h.le,a,c,Y,ZZ,λj x Z=>?_⟩;obtain⟨ad,h3,h4,h5⟩:=I j x Z;exact⟨ad,h3,h4,by rw[cZ (K _ (by rw[da];exact h4))];exact h5⟩
def dW.cU(h:dW w S v ls)(K:∀g,S g->S' g):dW w S' v ls:=by
 obtain⟨a,c,Y,ZZ,I⟩:=h.sl;refine⟨h.lm,h.le,a,c,Y,ZZ,λj x Z=>?_⟩;obtain⟨ad,h3,h4,h5⟩:=I j x Z;exact⟨ad,h3,K _ h4,h5⟩
def dW.rel(h:dW w (Cv S B iv) v ls)(r:Rel H nx iv B w O J)(G:∀g,S g->g<B):dW J (Cv S B iv) v ls:=h.cW λ_g V=>rls r G V
def dW.nil(w:World)(S:Nat->Prop):dW w S (.slice none 0 0) []:=⟨by simp[Lm],ce,none,0,rfl,ae _,ce⟩
def de(w:World)(S:Nat->Prop)(v:Value)(n:Nat):Prop:=∃ls,dW w S v ls/\Nz ls/\val ls=n
def de.cW{n:Nat}(h:de w S v n)(K:∀g,S g->F.heap[g]? =w.heap[g]?):de F S v n:=by
 obtain⟨ls,Y,I,h3⟩:=h;exact⟨ls,Y.cW K,I,h3⟩
def de.cU{n:Nat}(h:de w S v n)(K:∀g,S g->S' g):de w S' v n:=by
 obtain⟨ls,Y,I,h3⟩:=h;exact⟨ls,Y.cU K,I,h3⟩
def de.nil(w:World)(S:Nat->Prop):de w S (.slice none 0 0) 0:=⟨[],dW.nil w S,by simp[Nz],rfl⟩
end
abbrev iZ(z:Int):SV:=.o (.v (.int .i64 z))
abbrev iN(n:Nat):SV:=.o (.v (.int .i64 (n:Int)))
abbrev sV(a:Option Addr)(n c:Nat):SV:=.o (.v (.slice a n c))
abbrev pP(i j:Nat):SV:=.o (.p i j)
def rtn{H:Hp}{nx:Nat}{iv:Iv}{w:World}(W:Bel w.heap.size w w1)(h:∀O J,Rel H nx iv w.heap.size w1 O J->P (f O) J):∀O J,Rel H nx iv w.heap.size w1 O J->eV w P (.returned (f O)) J:=λO J r=>⟨_,rfl,W.tr r.cg,h O J r⟩
abbrev FF:Nat->Prop:=λ_=>False
def bR(w:World):Bel w.heap.size w w:=Bel.refl
abbrev Nf(w F:World):Nat->Prop:=Nw (λ_=>False) w F
abbrev Cf(w:World):Iv->Nat->Prop:=Cv (λ_=>False) w.heap.size
section
variable{S:Nat->Prop}{H:Hp}{nx:Nat}{iv:Iv}{B i n:Nat}{w w1 J:World}{O:Nat->Sx.eD}{ad:Addr}{cs:List Value}{x:Value}
def kS(W:Bel B w w1)(r:Rel H nx iv B w1 O J)(G:∀g,S g->g<B):∀g,S g->J.heap[g]? =w.heap[g]? :=λg V=>(W.tr r.cg).block g (G g V)
def oS(G:∀g,S g->g<B)(r:Rel H nx iv B w O J):∀g,S g->g<J.heap.size:=λg V=>by have:=G g V;have:=r.base;have:=r.size;omega
def rdO(hl:∀(j:Nat) u,cs[j]? =some u->S ad.block/\w.cell? ((ad.add (i*n)).add j)=some u)(W:Bel B w w1)(G:∀g,S g->g<B):∀O J,Rel H nx iv B w1 O J->∀(j:Nat) u,cs[j]? =some u->J.cell? ((ad.add ((i:Int).toNat*n)).add j)=some u:=λO J r j u hu=>by
 obtain⟨k1,k2⟩:=hl j u hu;rw[aI,cZ (w:=w) (F:=J) (by rw[da,da];exact(W.tr r.cg).block _ (G _ k1))];exact k2
def rd1(hl:w.cell? (ad.add (i*n))=some x)(W:Bel B w w1)(N:ad.block<B):∀O J,Rel H nx iv B w1 O J->J.cell? (ad.add ((i:Int).toNat*n))=some x:=λO J r=>by
 rw[aI,cZ (w:=w) (F:=J) (by rw[da];exact(W.tr r.cg).block _ N)];exact hl
end
def xsF:Nat->Nat->List It
 |0,_=>[]
 |n+1,k=>.x k::xsF n (k+1)
abbrev idO(n:Nat):List It:=xsF n 0
abbrev Bq(w x:World):Prop:=Bel w.heap.size w x
abbrev nls:Value:=.slice none 0 0
abbrev iV(z:Int):Value:=.int .i64 z
abbrev rC(a:Bool)(b:Option Addr)(c d:Nat)(e:Bool)(f:Option Addr)(g h:Nat):List Value:=[.bool a,.slice b c d,.bool e,.slice f g h]
abbrev pR{α:Type}(P:World->(Nat->Prop)->Value->α->Prop)(q:α):(Nat->Sx.eD)->World->Value->World->Prop:=λ_ J v F=>P F (Nf J F) v q
abbrev pE(x:Value):(Nat->Sx.eD)->World->Value->World->Prop:=λ_ _ v _=>v=x
end Go.Ex
namespace Go.Ex
open Go Go.Sx Go.Proofs
variable{ops:Array Oper}{args:Array Value}{F9:Ending->World->Prop}{H:Hp}{iv:Iv}{ls:List Nat}{k nx:Nat}{S:Nat->Prop}{O:Nat->Sx.eD}{v:Value}{w:World}
noncomputable abbrev PG:Program:=Tryz.prog
def slT(e:Nat):TI:={size:=1,bytes:=24,zero:=[.slice none 0 0],agg:=false,tag:=4,elem:=e}
def aAc:List (Nat×TI):=[
 (3,{size:=1,bytes:=8,zero:=[.int .i64 0],agg:=false,tag:=1,ik:=.i64}),
 (4,{size:=1,bytes:=1,zero:=[.bool false],agg:=false,tag:=2}),
 (23,slT 35),
 (78,slT 118),
 (71,slT 82),
 (33,{size:=2,bytes:=32,zero:=[.bool false,.slice none 0 0],agg:=true,tag:=5,fields:=[(0,4),(1,31)]}),
 (35,{size:=4,bytes:=64,zero:=[.bool false,.slice none 0 0,.bool false,.slice none 0 0],agg:=true,tag:=5,fields:=[(0,33),(2,33)]}),
 (82,{size:=4,bytes:=64,zero:=[.bool false,.slice none 0 0,.bool false,.slice none 0 0],agg:=true,tag:=5,fields:=[(0,80),(2,80)]}),
 (76,slT 3),
 (22,slT 23),
 (118,{size:=1,bytes:=4,zero:=[.int .u32 0],agg:=false,tag:=1,ik:=.u32}),
 (9,{size:=1,bytes:=16,zero:=[.string ⟨#[]⟩],agg:=false,tag:=3}),
 (80,{size:=2,bytes:=32,zero:=[.bool false,.slice none 0 0],agg:=true,tag:=5,fields:=[(0,4),(1,78)]}),
 (25,{size:=3,bytes:=72,zero:=[.slice none 0 0,.slice none 0 0,.slice none 0 0],agg:=true,tag:=5,fields:=[(0,22),(1,23),(2,23)]}),
 (77,slT 71),
 (5,{size:=1,bytes:=1,zero:=[.int .u8 0],agg:=false,tag:=1,ik:=.u8}),
 (147,{size:=1,bytes:=8,zero:=[.int .u64 0],agg:=false,tag:=1,ik:=.u64}),
 (21,{size:=1,bytes:=4,zero:=[.int .i32 0],agg:=false,tag:=1,ik:=.i32}),
 (68,{size:=1,bytes:=8,zero:=[.pointer none],agg:=false,tag:=7}),
 (38,{size:=1,bytes:=8,zero:=[.int .i64 0],agg:=false,tag:=1,ik:=.i64}),
 (84,{size:=9,bytes:=184,zero:=[.slice none 0 0,.slice none 0 0,.slice none 0 0,.slice none 0 0,.slice none 0 0,.bool false,.slice none 0 0,.bool false,.slice none 0 0],agg:=true,tag:=5,fields:=[(0,76),(1,76),(2,77),(3,71),(4,71),(5,82)]}),
 (37,{size:=8,bytes:=144,zero:=[.int .i64 0,.slice none 0 0,.slice none 0 0,.slice none 0 0,.bool false,.slice none 0 0,.bool false,.slice none 0 0],agg:=true,tag:=5,fields:=[(0,3),(1,23),(2,23),(3,23),(4,35)]}),
 (31,slT 118),
 (100,{size:=10,bytes:=208,zero:=[.slice none 0 0,.slice none 0 0,.slice none 0 0,.slice none 0 0,.slice none 0 0,.slice none 0 0,.bool false,.slice none 0 0,.bool false,.slice none 0 0],agg:=true,tag:=5,fields:=[(0,77),(1,71),(2,71),(3,71),(4,71),(5,71),(6,82)]}),
 (184,slT 5),
 (200,{size:=1,bytes:=8,zero:=[.pointer none],agg:=false,tag:=7}),
 (148,{size:=1,bytes:=8,zero:=[.int .u64 0],agg:=false,tag:=1,ik:=.u64}),
 (137,slT 76),
 (182,slT 9),
 (59,{size:=4,bytes:=80,zero:=[.int .i64 0,.slice none 0 0,.slice none 0 0,.slice none 0 0],agg:=true,tag:=5,fields:=[(0,3),(1,23),(2,22),(3,23)]}),
 (115,{size:=3,bytes:=72,zero:=[.slice none 0 0,.slice none 0 0,.slice none 0 0],agg:=true,tag:=5,fields:=[(0,71),(1,71),(2,77)]}),
 (218,{size:=2,bytes:=2,zero:=[.int .u8 0,.int .u8 0],agg:=true,tag:=5,fields:=[(0,5),(1,5)]}),
 (202,{size:=2,bytes:=32,zero:=[.pointer none,.slice none 0 0],agg:=true,tag:=5,fields:=[(0,200),(1,184)]}),
 (191,slT 78),
 (199,{size:=1,bytes:=8,zero:=[.pointer none],agg:=false,tag:=7}),
 (183,{size:=9,bytes:=9,zero:=[.int .u8 0,.int .u8 0,.int .u8 0,.int .u8 0,.int .u8 0,.int .u8 0,.int .u8 0,.int .u8 0,.int .u8 0],agg:=true,tag:=6,HE:=9,elem:=5}),
 (165,{size:=1,bytes:=8,zero:=[.nilFunc],agg:=false,tag:=0}),
 (211,{size:=1,bytes:=8,zero:=[.pointer none],agg:=false,tag:=7}),
 (8,{size:=4,bytes:=24,zero:=[.int .i64 0,.int .i64 0,.bool false,.int .u8 0],agg:=true,tag:=5,fields:=[(0,2),(1,3),(2,4),(3,6)]}),
 (10,{size:=1,bytes:=16,zero:=[.string ⟨#[]⟩],agg:=false,tag:=3}),
 (11,{size:=1,bytes:=16,zero:=[.string ⟨#[]⟩],agg:=false,tag:=3}),
 (14,{size:=2,bytes:=24,zero:=[.string ⟨#[]⟩,.int .u64 0],agg:=true,tag:=5,fields:=[(0,9),(1,12)]}),
 (15,{size:=1,bytes:=8,zero:=[.pointer none],agg:=false,tag:=7}),
 (16,{size:=1,bytes:=8,zero:=[.pointer none],agg:=false,tag:=7}),
 (19,{size:=1,bytes:=8,zero:=[.pointer none],agg:=true,tag:=5,fields:=[(0,17)]}),
 (17,{size:=1,bytes:=8,zero:=[.pointer none],agg:=false,tag:=7}),
 (229,{size:=1,bytes:=1,zero:=[.int .u8 0],agg:=false,tag:=1,ik:=.u8}),
 (2,{size:=1,bytes:=8,zero:=[.int .i64 0],agg:=false,tag:=1,ik:=.i64}),
 (6,{size:=1,bytes:=1,zero:=[.int .u8 0],agg:=false,tag:=1,ik:=.u8}),
 (12,{size:=1,bytes:=8,zero:=[.int .u64 0],agg:=false,tag:=1,ik:=.u64})]
def τ:nO:=yv aAc
def hτ:fk PG τ:=PB (l:=aAc) d9
def uR:PG.follows .mixedOrders=true:=by rfl
noncomputable def bd (f:Func):Code:=match f.body with
 |some c=>c
 |none=>.skip
def dU{f:FuncId}{fn:Func}(hf:PG.funcs[f]? =some fn)(N:fn.body=some (bd fn))(XV:(fn.name== "runtime.NumGoroutine")=false)
  (E:args.size<=fn.ntmps) (QK:codeOk fn.ntmps (bd fn)=true) (h:jn PG τ w.heap.size (bd fn) (ff 0 args.toList) [] 0 [] w (PF τ w.heap.size fn.results.toList F9)):eH PG f args w F9:=
 ⟨Ja hf N XV,FO hτ hf N E QK h⟩
abbrev T.int:Nat:=3
abbrev T.bool:Nat:=4
abbrev T.uint8:Nat:=5
abbrev T.string:Nat:=9
abbrev T.nQ:Nat:=23
abbrev T.Program:Nat:=25
abbrev T.Int:Nat:=33
abbrev T.Rat:Nat:=35
abbrev T.row:Nat:=71
abbrev T.Lint:Nat:=76
abbrev T.nat:Nat:=78
abbrev T.number:Nat:=80
abbrev T.dN:Nat:=82
abbrev T.table:Nat:=84
abbrev T.solved:Nat:=115
abbrev T.uint32:Nat:=118
abbrev T.ML:Nat:=183
abbrev T.PU:Nat:=184
abbrev Fd.lN:Nat:=4
abbrev Fd.rU:Nat:=5
abbrev Fd.mo:Nat:=6
abbrev Fd.rV:Nat:=7
abbrev Fd.xx:Nat:=8
abbrev Fd.mq:Nat:=10
abbrev Fd.DD:Nat:=12
abbrev Fd.DE:Nat:=13
abbrev Fd.rW:Nat:=14
abbrev Fd.DF:Nat:=15
abbrev Fd.AY:Nat:=16
abbrev Fd.vh:Nat:=17
abbrev Fd.mu:Nat:=18
abbrev Fd.mw:Nat:=19
abbrev Fd.rX:Nat:=20
abbrev Fd.nX:Nat:=21
abbrev Fd.tY:Nat:=22
abbrev Fd.pf:Nat:=23
abbrev Fd.Fv:Nat:=24
abbrev Fd.lf:Nat:=25
abbrev Fd.rY:Nat:=26
abbrev Fd.rZ:Nat:=27
abbrev Fd.oJ:Nat:=28
abbrev Fd.Fw:Nat:=29
abbrev Fd.pg:Nat:=30
abbrev Fd.r8:Nat:=31
abbrev Fd.qS:Nat:=32
abbrev Fd.my:Nat:=33
abbrev Fd.xy:Nat:=34
abbrev Fd.jS:Nat:=35
abbrev Fd.r9:Nat:=36
abbrev Fd.xz:Nat:=37
abbrev Fd.nY:Nat:=38
abbrev Fd.nZ:Nat:=39
abbrev Fd.kf:Nat:=40
abbrev Fd.mz:Nat:=41
abbrev Fd.mA:Nat:=42
abbrev Fd.mV:Nat:=43
abbrev Fd.DG:Nat:=44
abbrev Fd.vj:Nat:=45
abbrev Fd.uS:Nat:=46
abbrev Fd.yA:Nat:=47
abbrev Fd.tZ:Nat:=48
abbrev Fd.rf:Nat:=49
abbrev Fd.yB:Nat:=50
abbrev Fd.DH:Nat:=51
abbrev Fd.DI:Nat:=52
abbrev Fd.uT:Nat:=53
abbrev Fd.ta:Nat:=54
abbrev Fd.AZ:Nat:=55
abbrev Fd.vl:Nat:=56
abbrev Fd.ph:Nat:=57
abbrev Fd.vo:Nat:=58
abbrev Fd.yC:Nat:=59
abbrev Fd.lO:Nat:=60
abbrev Fd.nA:Nat:=61
abbrev Fd.tc:Nat:=62
abbrev Fd.nB:Nat:=63
abbrev Fd.mB:Nat:=64
abbrev Fd.yD:Nat:=65
abbrev Fd.Aa:Nat:=66
abbrev Fd.n0:Nat:=67
abbrev Fd.mD:Nat:=68
abbrev Fd.nc:Nat:=69
abbrev Fd.yE:Nat:=70
abbrev Fd.nC:Nat:=71
abbrev Fd.rh:Nat:=72
abbrev Fd.Ab:Nat:=73
abbrev Fd.nd:Nat:=74
abbrev Fd.yF:Nat:=75
abbrev Fd.yG:Nat:=76
abbrev Fd.lA:Nat:=77
abbrev Fd.mE:Nat:=78
abbrev Fd.nf:Nat:=79
abbrev Fd.td:Nat:=80
abbrev Fd.yH:Nat:=81
abbrev Fd.ng:Nat:=82
abbrev Fd.mF:Nat:=83
abbrev Fd.mG:Nat:=84
abbrev Fd.lP:Nat:=85
abbrev Fd.mH:Nat:=86
abbrev Fd.lQ:Nat:=87
abbrev Fd.Ac:Nat:=88
abbrev Fd.yI:Nat:=89
abbrev Fd.vt:Nat:=90
abbrev Fd.vu:Nat:=91
abbrev Fd.pj:Nat:=92
abbrev Fd.DJ:Nat:=93
abbrev Fd.yJ:Nat:=94
abbrev Fd.DK:Nat:=95
abbrev Fd.Ad:Nat:=96
abbrev Fd.jg:Nat:=97
abbrev Fd.uU:Nat:=98
abbrev Fd.rj:Nat:=99
abbrev Fd.nh:Nat:=100
abbrev Fd.te:Nat:=101
abbrev Fd.mI:Nat:=102
abbrev Fd.lS:Nat:=103
abbrev Fd.og:Nat:=104
abbrev Fd.nk:Nat:=105
abbrev Fd.oh:Nat:=106
abbrev Fd.rk:Nat:=107
abbrev Fd.qT:Nat:=108
abbrev Fd.gE:Nat:=109
abbrev Fd.qU:Nat:=110
abbrev Fd.om:Nat:=111
abbrev Fd.rn:Nat:=112
abbrev Fd.tf:Nat:=113
abbrev Fd.nD:Nat:=114
abbrev Fd.vw:Nat:=115
abbrev Fd.eX:Nat:=116
abbrev Fd.vz:Nat:=117
abbrev Fd.fN:Nat:=118
abbrev Fd.lg:Nat:=119
abbrev Fd.nm:Nat:=120
abbrev Fd.wA:Nat:=121
abbrev Fd.th:Nat:=122
abbrev Fd.wB:Nat:=123
abbrev Fd.wC:Nat:=124
abbrev Fd.oo:Nat:=125
abbrev Fd.lC:Nat:=126
abbrev Fd.gT:Nat:=127
abbrev Fd.eU:Nat:=128
abbrev Fd.fY:Nat:=129
abbrev Fd.fy:Nat:=130
abbrev Fd.df:Nat:=131
abbrev Fd.Ae:Nat:=132
abbrev Fd.oK:Nat:=133
abbrev Fd.wD:Nat:=134
abbrev Fd.Af:Nat:=135
abbrev Fd.Fx:Nat:=136
abbrev Fd.tj:Nat:=137
abbrev Fd.yK:Nat:=138
abbrev Fd.nq:Nat:=139
abbrev Fd.qV:Nat:=140
abbrev Fd.mJ:Nat:=141
abbrev Fd.ns:Nat:=142
abbrev Fd.qW:Nat:=143
abbrev Fd.Ag:Nat:=144
abbrev Fd.Ah:Nat:=145
abbrev Fd.fv:Nat:=146
abbrev Fd.fQ:Nat:=147
abbrev Fd.iQ:Nat:=148
abbrev Fd.oq:Nat:=149
abbrev Fd.pn:Nat:=150
abbrev Fd.xE:Nat:=151
abbrev Fd.uV:Nat:=152
abbrev Fd.Ai:Nat:=153
abbrev Fd.ry:Nat:=154
abbrev Fd.gU:Nat:=155
abbrev Fd.lT:Nat:=156
abbrev Ent(g:Nat)(f:Func):Prop:=∀{args:Array Value} {w:World} {F9:Ending->World->Prop},args.size<=f.ntmps->jn PG τ w.heap.size (bd f) (ff 0 args.toList) [] 0 [] w (PF τ w.heap.size f.results.toList F9)->eH PG g args w F9
def ot:Ent Fd.lN Tryz.f4:=λE h=>dU Tryz.func4 d8 d8 E d8 h
def Aj:Ent Fd.rU Tryz.f5:=λE h=>dU Tryz.func5 d8 d8 E d8 h
def qe:Ent Fd.mo Tryz.f6:=λE h=>dU Tryz.func6 d8 d8 E d8 h
def Ak:Ent Fd.rV Tryz.f7:=λE h=>dU Tryz.func7 d8 d8 E d8 h
def Al:Ent Fd.xx Tryz.f8:=λE h=>dU Tryz.func8 d8 d8 E d8 h
def wE:Ent Fd.mq Tryz.f10:=λE h=>dU Tryz.func10 d8 d8 E d8 h
def EA:Ent Fd.DD Tryz.f12:=λE h=>dU Tryz.func12 d8 d8 E d8 h
def EB:Ent Fd.DE Tryz.f13:=λE h=>dU Tryz.func13 d8 d8 E d8 h
def wF:Ent Fd.rW Tryz.f14:=λE h=>dU Tryz.func14 d8 d8 E d8 h
def EC:Ent Fd.DF Tryz.f15:=λE h=>dU Tryz.func15 d8 d8 E d8 h
def CC:Ent Fd.AY Tryz.f16:=λE h=>dU Tryz.func16 d8 d8 E d8 h
def yZ:Ent Fd.vh Tryz.f17:=λE h=>dU Tryz.func17 d8 d8 E d8 h
def qf:Ent Fd.mu Tryz.f18:=λE h=>dU Tryz.func18 d8 d8 E d8 h
def qg:Ent Fd.mw Tryz.f19:=λE h=>dU Tryz.func19 d8 d8 E d8 h
def Am:Ent Fd.rX Tryz.f20:=λE h=>dU Tryz.func20 d8 d8 E d8 h
def rz:Ent Fd.nX Tryz.f21:=λE h=>dU Tryz.func21 d8 d8 E d8 h
def xF:Ent Fd.tY Tryz.f22:=λE h=>dU Tryz.func22 d8 d8 E d8 h
def ya:Ent Fd.pf Tryz.f23:=λE h=>dU Tryz.func23 d8 d8 E d8 h
def Fy:Ent Fd.Fv Tryz.f24:=λE h=>dU Tryz.func24 d8 d8 E d8 h
def uW:Ent Fd.lf Tryz.f25:=λE h=>dU Tryz.func25 d8 d8 E d8 h
def An:Ent Fd.rY Tryz.f26:=λE h=>dU Tryz.func26 d8 d8 E d8 h
def sA:Ent Fd.rZ Tryz.f27:=λE h=>dU Tryz.func27 d8 d8 E d8 h
def xG:Ent Fd.oJ Tryz.f28:=λE h=>dU Tryz.func28 d8 d8 E d8 h
def Fz:Ent Fd.Fw Tryz.f29:=λE h=>dU Tryz.func29 d8 d8 E d8 h
def yb:Ent Fd.pg Tryz.f30:=λE h=>dU Tryz.func30 d8 d8 E d8 h
def wG:Ent Fd.r8 Tryz.f31:=λE h=>dU Tryz.func31 d8 d8 E d8 h
def uX:Ent Fd.qS Tryz.f32:=λE h=>dU Tryz.func32 d8 d8 E d8 h
def qh:Ent Fd.my Tryz.f33:=λE h=>dU Tryz.func33 d8 d8 E d8 h
def Ao:Ent Fd.xy Tryz.f34:=λE h=>dU Tryz.func34 d8 d8 E d8 h
def ou:Ent Fd.jS Tryz.f35:=λE h=>dU Tryz.func35 d8 d8 E d8 h
def wH:Ent Fd.r9 Tryz.f36:=λE h=>dU Tryz.func36 d8 d8 E d8 h
def Ap:Ent Fd.xz Tryz.f37:=λE h=>dU Tryz.func37 d8 d8 E d8 h
def sB:Ent Fd.nY Tryz.f38:=λE h=>dU Tryz.func38 d8 d8 E d8 h
def sC:Ent Fd.nZ Tryz.f39:=λE h=>dU Tryz.func39 d8 d8 E d8 h
def oL:Ent Fd.kf Tryz.f40:=λE h=>dU Tryz.func40 d8 d8 E d8 h
def qj:Ent Fd.mz Tryz.f41:=λE h=>dU Tryz.func41 d8 d8 E d8 h
def po:Ent Fd.mA Tryz.f42:=λE h=>dU Tryz.func42 d8 d8 E d8 h
def yc:Ent Fd.mV Tryz.f43:=λE h=>dU Tryz.func43 d8 d8 E d8 h
def ED:Ent Fd.DG Tryz.f44:=λE h=>dU Tryz.func44 d8 d8 E d8 h
def yd:Ent Fd.vj Tryz.f45:=λE h=>dU Tryz.func45 d8 d8 E d8 h
def tk:Ent Fd.uS Tryz.f46:=λE h=>dU Tryz.func46 d8 d8 E d8 h
def Aq:Ent Fd.yA Tryz.f47:=λE h=>dU Tryz.func47 d8 d8 E d8 h
def xH:Ent Fd.tZ Tryz.f48:=λE h=>dU Tryz.func48 d8 d8 E d8 h
def sD:Ent Fd.rf Tryz.f49:=λE h=>dU Tryz.func49 d8 d8 E d8 h
def Ar:Ent Fd.yB Tryz.f50:=λE h=>dU Tryz.func50 d8 d8 E d8 h
def EE:Ent Fd.DH Tryz.f51:=λE h=>dU Tryz.func51 d8 d8 E d8 h
def EF:Ent Fd.DI Tryz.f52:=λE h=>dU Tryz.func52 d8 d8 E d8 h
def tm:Ent Fd.uT Tryz.f53:=λE h=>dU Tryz.func53 d8 d8 E d8 h
def xI:Ent Fd.ta Tryz.f54:=λE h=>dU Tryz.func54 d8 d8 E d8 h
def CD:Ent Fd.AZ Tryz.f55:=λE h=>dU Tryz.func55 d8 d8 E d8 h
def ye:Ent Fd.vl Tryz.f56:=λE h=>dU Tryz.func56 d8 d8 E d8 h
def qX:Ent Fd.ph Tryz.f57:=λE h=>dU Tryz.func57 d8 d8 E d8 h
def yf:Ent Fd.vo Tryz.f58:=λE h=>dU Tryz.func58 d8 d8 E d8 h
def As:Ent Fd.yC Tryz.f59:=λE h=>dU Tryz.func59 d8 d8 E d8 h
def ov:Ent Fd.lO Tryz.f60:=λE h=>dU Tryz.func60 d8 d8 E d8 h
def qk:Ent Fd.nA Tryz.f61:=λE h=>dU Tryz.func61 d8 d8 E d8 h
def xJ:Ent Fd.tc Tryz.f62:=λE h=>dU Tryz.func62 d8 d8 E d8 h
def ql:Ent Fd.nB Tryz.f63:=λE h=>dU Tryz.func63 d8 d8 E d8 h
def pt:Ent Fd.mB Tryz.f64:=λE h=>dU Tryz.func64 d8 d8 E d8 h
def Au:Ent Fd.yD Tryz.f65:=λE h=>dU Tryz.func65 d8 d8 E d8 h
def GA:Ent Fd.Aa Tryz.f66:=λE h=>dU Tryz.func66 d8 d8 E d8 h
def sE:Ent Fd.n0 Tryz.f67:=λE h=>dU Tryz.func67 d8 d8 E d8 h
def pz:Ent Fd.mD Tryz.f68:=λE h=>dU Tryz.func68 d8 d8 E d8 h
def sF:Ent Fd.nc Tryz.f69:=λE h=>dU Tryz.func69 d8 d8 E d8 h
def Av:Ent Fd.yE Tryz.f70:=λE h=>dU Tryz.func70 d8 d8 E d8 h
def qm:Ent Fd.nC Tryz.f71:=λE h=>dU Tryz.func71 d8 d8 E d8 h
def wI:Ent Fd.rh Tryz.f72:=λE h=>dU Tryz.func72 d8 d8 E d8 h
def CE:Ent Fd.Ab Tryz.f73:=λE h=>dU Tryz.func73 d8 d8 E d8 h
def sG:Ent Fd.nd Tryz.f74:=λE h=>dU Tryz.func74 d8 d8 E d8 h
def Aw:Ent Fd.yF Tryz.f75:=λE h=>dU Tryz.func75 d8 d8 E d8 h
def Ax:Ent Fd.yG Tryz.f76:=λE h=>dU Tryz.func76 d8 d8 E d8 h
def xK:Ent Fd.lA Tryz.f77:=λE h=>dU Tryz.func77 d8 d8 E d8 h
def qA:Ent Fd.mE Tryz.f78:=λE h=>dU Tryz.func78 d8 d8 E d8 h
def sH:Ent Fd.nf Tryz.f79:=λE h=>dU Tryz.func79 d8 d8 E d8 h
def xL:Ent Fd.td Tryz.f80:=λE h=>dU Tryz.func80 d8 d8 E d8 h
def Ay:Ent Fd.yH Tryz.f81:=λE h=>dU Tryz.func81 d8 d8 E d8 h
def sI:Ent Fd.ng Tryz.f82:=λE h=>dU Tryz.func82 d8 d8 E d8 h
def qB:Ent Fd.mF Tryz.f83:=λE h=>dU Tryz.func83 d8 d8 E d8 h
def qC:Ent Fd.mG Tryz.f84:=λE h=>dU Tryz.func84 d8 d8 E d8 h
def ow:Ent Fd.lP Tryz.f85:=λE h=>dU Tryz.func85 d8 d8 E d8 h
def qD:Ent Fd.mH Tryz.f86:=λE h=>dU Tryz.func86 d8 d8 E d8 h
def ox:Ent Fd.lQ Tryz.f87:=λE h=>dU Tryz.func87 d8 d8 E d8 h
def CF:Ent Fd.Ac Tryz.f88:=λE h=>dU Tryz.func88 d8 d8 E d8 h
def Az:Ent Fd.yI Tryz.f89:=λE h=>dU Tryz.func89 d8 d8 E d8 h
def yg:Ent Fd.vt Tryz.f90:=λE h=>dU Tryz.func90 d8 d8 E d8 h
def yh:Ent Fd.vu Tryz.f91:=λE h=>dU Tryz.func91 d8 d8 E d8 h
def yi:Ent Fd.pj Tryz.f92:=λE h=>dU Tryz.func92 d8 d8 E d8 h
def EG:Ent Fd.DJ Tryz.f93:=λE h=>dU Tryz.func93 d8 d8 E d8 h
def BA:Ent Fd.yJ Tryz.f94:=λE h=>dU Tryz.func94 d8 d8 E d8 h
def EH:Ent Fd.DK Tryz.f95:=λE h=>dU Tryz.func95 d8 d8 E d8 h
def CG:Ent Fd.Ad Tryz.f96:=λE h=>dU Tryz.func96 d8 d8 E d8 h
def oy:Ent Fd.jg Tryz.f97:=λE h=>dU Tryz.func97 d8 d8 E d8 h
def CH:Ent Fd.uU Tryz.f98:=λE h=>dU Tryz.func98 d8 d8 E d8 h
def BB:Ent Fd.rj Tryz.f99:=λE h=>dU Tryz.func99 d8 d8 E d8 h
def sJ:Ent Fd.nh Tryz.f100:=λE h=>dU Tryz.func100 d8 d8 E d8 h
def xM:Ent Fd.te Tryz.f101:=λE h=>dU Tryz.func101 d8 d8 E d8 h
def qE:Ent Fd.mI Tryz.f102:=λE h=>dU Tryz.func102 d8 d8 E d8 h
def oz:Ent Fd.lS Tryz.f103:=λE h=>dU Tryz.func103 d8 d8 E d8 h
def tP:Ent Fd.og Tryz.f104:=λE h=>dU Tryz.func104 d8 d8 E d8 h
def sK:Ent Fd.nk Tryz.f105:=λE h=>dU Tryz.func105 d8 d8 E d8 h
def tQ:Ent Fd.oh Tryz.f106:=λE h=>dU Tryz.func106 d8 d8 E d8 h
def wJ:Ent Fd.rk Tryz.f107:=λE h=>dU Tryz.func107 d8 d8 E d8 h
def uY:Ent Fd.qT Tryz.f108:=λE h=>dU Tryz.func108 d8 d8 E d8 h
def jT:Ent Fd.gE Tryz.f109:=λE h=>dU Tryz.func109 d8 d8 E d8 h
def uZ:Ent Fd.qU Tryz.f110:=λE h=>dU Tryz.func110 d8 d8 E d8 h
def tR:Ent Fd.om Tryz.f111:=λE h=>dU Tryz.func111 d8 d8 E d8 h
def wK:Ent Fd.rn Tryz.f112:=λE h=>dU Tryz.func112 d8 d8 E d8 h
def xN:Ent Fd.tf Tryz.f113:=λE h=>dU Tryz.func113 d8 d8 E d8 h
def qn:Ent Fd.nD Tryz.f114:=λE h=>dU Tryz.func114 d8 d8 E d8 h
def yj:Ent Fd.vw Tryz.f115:=λE h=>dU Tryz.func115 d8 d8 E d8 h
def gv:Ent Fd.eX Tryz.f116:=λE h=>dU Tryz.func116 d8 d8 E d8 h
def yl:Ent Fd.vz Tryz.f117:=λE h=>dU Tryz.func117 d8 d8 E d8 h
def iE:Ent Fd.fN Tryz.f118:=λE h=>dU Tryz.func118 d8 d8 E d8 h
def u9:Ent Fd.lg Tryz.f119:=λE h=>dU Tryz.func119 d8 d8 E d8 h
def sL:Ent Fd.nm Tryz.f120:=λE h=>dU Tryz.func120 d8 d8 E d8 h
def ym:Ent Fd.wA Tryz.f121:=λE h=>dU Tryz.func121 d8 d8 E d8 h
def xO:Ent Fd.th Tryz.f122:=λE h=>dU Tryz.func122 d8 d8 E d8 h
def yn:Ent Fd.wB Tryz.f123:=λE h=>dU Tryz.func123 d8 d8 E d8 h
def yo:Ent Fd.wC Tryz.f124:=λE h=>dU Tryz.func124 d8 d8 E d8 h
def tS:Ent Fd.oo Tryz.f125:=λE h=>dU Tryz.func125 d8 d8 E d8 h
def xP:Ent Fd.lC Tryz.f126:=λE h=>dU Tryz.func126 d8 d8 E d8 h
def iR:Ent Fd.gT Tryz.f127:=λE h=>dU Tryz.func127 d8 d8 E d8 h
def gV:Ent Fd.eU Tryz.f128:=λE h=>dU Tryz.func128 d8 d8 E d8 h
def oM:Ent Fd.fY Tryz.f129:=λE h=>dU Tryz.func129 d8 d8 E d8 h
def kq:Ent Fd.fy Tryz.f130:=λE h=>dU Tryz.func130 d8 d8 E d8 h
def gw:Ent Fd.df Tryz.f131:=λE h=>dU Tryz.func131 d8 d8 E d8 h
def CI:Ent Fd.Ae Tryz.f132:=λE h=>dU Tryz.func132 d8 d8 E d8 h
def xQ:Ent Fd.oK Tryz.f133:=λE h=>dU Tryz.func133 d8 d8 E d8 h
def yp:Ent Fd.wD Tryz.f134:=λE h=>dU Tryz.func134 d8 d8 E d8 h
def CJ:Ent Fd.Af Tryz.f135:=λE h=>dU Tryz.func135 d8 d8 E d8 h
def GB:Ent Fd.Fx Tryz.f136:=λE h=>dU Tryz.func136 d8 d8 E d8 h
def xR:Ent Fd.tj Tryz.f137:=λE h=>dU Tryz.func137 d8 d8 E d8 h
def BC:Ent Fd.yK Tryz.f138:=λE h=>dU Tryz.func138 d8 d8 E d8 h
def sM:Ent Fd.nq Tryz.f139:=λE h=>dU Tryz.func139 d8 d8 E d8 h
def ua:Ent Fd.qV Tryz.f140:=λE h=>dU Tryz.func140 d8 d8 E d8 h
def qF:Ent Fd.mJ Tryz.f141:=λE h=>dU Tryz.func141 d8 d8 E d8 h
def sN:Ent Fd.ns Tryz.f142:=λE h=>dU Tryz.func142 d8 d8 E d8 h
def ub:Ent Fd.qW Tryz.f143:=λE h=>dU Tryz.func143 d8 d8 E d8 h
def CK:Ent Fd.Ag Tryz.f144:=λE h=>dU Tryz.func144 d8 d8 E d8 h
def CL:Ent Fd.Ah Tryz.f145:=λE h=>dU Tryz.func145 d8 d8 E d8 h
def jH:Ent Fd.fv Tryz.f146:=λE h=>dU Tryz.func146 d8 d8 E d8 h
def iG:Ent Fd.fQ Tryz.f147:=λE h=>dU Tryz.func147 d8 d8 E d8 h
def kW:Ent Fd.iQ Tryz.f148:=λE h=>dU Tryz.func148 d8 d8 E d8 h
def tT:Ent Fd.oq Tryz.f149:=λE h=>dU Tryz.func149 d8 d8 E d8 h
def qY:Ent Fd.pn Tryz.f150:=λE h=>dU Tryz.func150 d8 d8 E d8 h
def EI:Ent Fd.xE Tryz.f151:=λE h=>dU Tryz.func151 d8 d8 E d8 h
def CM:Ent Fd.uV Tryz.f152:=λE h=>dU Tryz.func152 d8 d8 E d8 h
def CN:Ent Fd.Ai Tryz.f153:=λE h=>dU Tryz.func153 d8 d8 E d8 h
def wL:Ent Fd.ry Tryz.f154:=λE h=>dU Tryz.func154 d8 d8 E d8 h
def j0:Ent Fd.gU Tryz.f155:=λE h=>dU Tryz.func155 d8 d8 E d8 h
def pA:Ent Fd.lT Tryz.f156:=λE h=>dU Tryz.func156 d8 d8 E d8 h
def dP{l:Env}{B:Nat}{FS:KT}(π:List It)(h:JW PG τ B ops.toList π l H nx iv w FS)(hs:Region.noSelect ops=true:=by kernel_rfl)(hc:Et ops ops.size π 0 []=true:=by kernel_rfl):pM PG B ops l H nx iv w FS:=Ez hτ uR π hs hc h
def gF{w1 J:World}(G:Old S w)(W:Bq w w1)(r:Rel H nx iv w.heap.size w1 O J){ad:Addr}{j:Nat}{x:Value}(hs:S ad.block)(h:w.cell? (ad.add j)=some x):J.cell? (ad.add j)=some x:=by
 rw[(W.tr r.cg).cell (by rw[da];exact G _ hs)];exact h
def GC(a:Option Addr)(c:Nat):(if (c:Int)=0 then a else a.map λx=>x.add (Int.toNat 0*1))=a:=by
 split
 .rfl
 .cases a<;>rfl
def yq(h:ls[k]? =some 0):eK (ls.take (k+1))=eK (ls.take k):=by
 rw[bH,h];exact lZ _
def CO{x:Nat}(h:ls[k]? =some x)(Z:x≠0):eK (ls.take (k+1))=ls.take (k+1):=by
 rw[bH,h];exact pY _ Z
def fS(G:Old S w)(h:dW w S v ls):eH PG Fd.nk #[v] w (eV w λv' F=>dW F S v' (eK ls)):=by
 obtain⟨a,c,rfl,ZZ,hc⟩:=h.sl;have hle:=h.le;have Qi:=h.lm;refine sK ce ?_
 refine⟨Nat×World,λx=>⟨[(0,sV a x.1 c)],[],0,[],x.2⟩,λx=>x.1,
  λx=>x.1<=ls.length/\Bq w x.2/\eK ls=eK (ls.take x.1),?_,?_⟩
 .intro O J r;exact⟨(ls.length,J),⟨lr,r.cg,ce⟩,Sub.reset r ⟨rfl,trivial⟩ ⟨trivial,trivial⟩⟩
 .rintro⟨k,w1⟩ ⟨K,W,hF⟩;dsimp only at K W hF ⊢;have WH:Bq w w1->eK ls=ls.take k->∀O F,Rel [] 0 [] w.heap.size w1 O F->dW F S (.slice a k c) (eK ls):=λW L O F r=>by
   rw[L];refine⟨Qi.take k,by simp;omega,a,c,by simp;omega,by simp;omega,λj x Z=>?_⟩;have Up:j<k:=by
    have:=(aH.1 Z).1;simp at this;omega
   rw[List.getElem?_take_of_lt Up]at Z;obtain⟨ad,Y,I,h3⟩:=hc j x Z;exact⟨ad,Y,I,gF G W r I h3⟩
  apply bS<;>intro h
  .have h:0<k:=by simpa using h
   obtain⟨k,rfl⟩:∃q,k=q+1:=⟨k-1,be⟩
   obtain⟨x,Z⟩:=gO ls k;obtain⟨ad,ha,hs,SS⟩:=hc k x Z;refine⟨(k:Int),wo,ad,ha,be,.int .u32 x,λO J r=>by rw[aI,ah];exact gF G W r hs SS,?_⟩;apply bS<;>intro I
   .have I:x=0:=by have:=eq_of_beq I;omega
    subst I;refine⟨(k:Int),wo,⟨be,be,be⟩,a,k,c,GC a c,ce,ce,?_⟩;intro O F r;exact⟨(k,F),⟨by dsimp only;omega,W.tr r.cg,hF.trans (yq Z)⟩,Sub.reset r ⟨rfl,trivial⟩ ⟨trivial,trivial⟩,by dsimp only;omega⟩
   .have I:x≠0:=by intro e;subst e;simp at I
    intro O F r;exact⟨_,rfl,W.tr r.cg,WH W (by rw[hF,CO Z I]) O F r⟩
  .have h:k=0:=by
    have:¬0<k:=by simpa using h
    omega
   subst h;intro O F r;exact⟨_,rfl,W.tr r.cg,WH W (by rw[hF];simp[eK]) O F r⟩
def en{n:Nat}(h:n<18446744073709551616):IntKind.u64.wrap (n:Int)=(n:Int):=yx be be
def fR(n:Nat):IntKind.u32.wrap (n:Int)=((n % 4294967296:Nat):Int):=by
 show((n:Int) % 4294967296)=_;omega
def ofInt32(x:Nat):BitVec.ofInt 32 (x:Int)=BitVec.ofNat 32 x:=by
 apply BitVec.eq_of_toNat_eq;simp
def sQ{y:Nat}(x:Nat)(hy:y<4294967296):x &&& y<4294967296:=Nat.lt_of_le_of_lt Nat.and_le_right hy
def sR{x y:Nat}(Z:x<4294967296)(hy:y<4294967296):x ^^^ y<4294967296:=Nat.xor_lt_two_pow (n:=32) Z hy
def EN{x y:Nat}(Z:x<4294967296)(hy:y<4294967296):x ||| y<4294967296:=Nat.or_lt_two_pow (n:=32) Z hy
def On{x y:Nat}(Z:x<4294967296)(hy:y<4294967296):IntKind.u32.wrap ((BitVec.ofInt IntKind.u32.bits x &&& BitVec.ofInt IntKind.u32.bits y).toNat:Int)=((x &&& y:Nat):Int):=by
 show IntKind.u32.wrap ((BitVec.ofInt 32 x &&& BitVec.ofInt 32 y).toNat:Int)=_;rw[ofInt32,ofInt32,BitVec.toNat_and,BitVec.toNat_ofNat,BitVec.toNat_ofNat,bZ Z,bZ hy,fR,bZ (sQ x hy)]
def aAd{x y:Nat}(Z:x<4294967296)(hy:y<4294967296):IntKind.u32.wrap ((BitVec.ofInt IntKind.u32.bits x ||| BitVec.ofInt IntKind.u32.bits y).toNat:Int)=((x ||| y:Nat):Int):=by
 show IntKind.u32.wrap ((BitVec.ofInt 32 x ||| BitVec.ofInt 32 y).toNat:Int)=_;rw[ofInt32,ofInt32,BitVec.toNat_or,BitVec.toNat_ofNat,BitVec.toNat_ofNat,bZ Z,bZ hy,fR,bZ (EN Z hy)]
def Oo{x y:Nat}(Z:x<4294967296)(hy:y<4294967296):IntKind.u32.wrap ((BitVec.ofInt IntKind.u32.bits x ^^^ BitVec.ofInt IntKind.u32.bits y).toNat:Int)=((x ^^^ y:Nat):Int):=by
 show IntKind.u32.wrap ((BitVec.ofInt 32 x ^^^ BitVec.ofInt 32 y).toNat:Int)=_;rw[ofInt32,ofInt32,BitVec.toNat_xor,BitVec.toNat_ofNat,BitVec.toNat_ofNat,bZ Z,bZ hy,fR,bZ (sR Z hy)]
def Oq{x:Nat}(Z:x<4294967296):IntKind.u32.wrap ((BitVec.ofInt IntKind.u32.bits (if IntKind.u32.signed=true then -1 else IntKind.u32.max) ^^^ BitVec.ofInt IntKind.u32.bits x).toNat:Int)=((4294967295 ^^^ x:Nat):Int):=
 Oo (x:=4294967295) bv Z
def nG{x:Nat}(k:Nat)(K:k<=63):(x:Int).fdiv (2^min (Int.toNat (k:Int)) IntKind.u64.bits)=((x / 2^k:Nat):Int):=by
 have Y:min (Int.toNat (k:Int)) IntKind.u64.bits=k:=by show min (Int.toNat (k:Int)) 64=k;omega
 rw[Y,Int.fdiv_eq_ediv_of_nonneg _ (by exact Int.le_of_lt (Int.pow_pos bv))];simp
def qH{x:Nat}(k:Nat)(K:k<=31):(x:Int).fdiv (2^min (Int.toNat (k:Int)) IntKind.u32.bits)=((x / 2^k:Nat):Int):=by
 have Y:min (Int.toNat (k:Int)) IntKind.u32.bits=k:=by show min (Int.toNat (k:Int)) 32=k;omega
 rw[Y,Int.fdiv_eq_ediv_of_nonneg _ (by exact Int.le_of_lt (Int.pow_pos bv))];simp
def Nt{z:Nat}(h:z<4294967296):z.testBit 31=decide (2147483648<=z):=by
 rw[Nat.testBit_eq_decide_div_mod_eq];apply decide_eq_decide.2;show z / 2147483648 % 2=1↔_;omega
def borrow{x y c d:Nat}(Z:x<4294967296)(hy:y<4294967296)(hc:c<=1)(hd:(x+4294967296-(y+c)) % 4294967296=d):
  (((4294967295 ^^^ x) &&& y) ||| ((4294967295 ^^^ (x ^^^ y)) &&& d)) / 2^31=if x<y+c then 1 else 0:=by
 have RS:d<4294967296:=by omega
 have hz:=EN (sQ (4294967295 ^^^ x) hy) (sQ (4294967295 ^^^ (x ^^^ y)) RS);have ht:=Nt hz;have hm:Nat.testBit 4294967295 31=true:=by decide
 rw[Nat.testBit_or,Nat.testBit_and,Nat.testBit_and,Nat.testBit_xor,Nat.testBit_xor,Nat.testBit_xor,hm,Nt Z,Nt hy,Nt RS]at ht;generalize (((4294967295 ^^^ x) &&& y) ||| ((4294967295 ^^^ (x ^^^ y)) &&& d))=z at hz ht;show z / 2147483648=_;by_cases Y:2147483648<=x<;>by_cases I:2147483648<=y<;>by_cases h3:2147483648<=d<;>simp[Y,I,h3]at ht<;>split<;>omega
def JE(x y c:Nat)(w:World)(Z:x<4294967296)(hy:y<4294967296)(hc:c<4294967296):
  eH PG Fd.Ag #[.int .u32 x,.int .u32 y,.int .u32 c] w (eV w λv _=>v= .tuple #[.int .u32 ((x+y+c) % 4294967296:Nat),.int .u32 ((x+y+c) / 4294967296:Nat)]):=by
 refine CK ce ?_;refine⟨(x:Int),en be,(y:Int),en be,((x+y:Nat):Int),by rw[yx]<;>omega,(c:Int),en be,((x+y+c:Nat):Int),by rw[yx]<;>omega,(((x+y+c) % 4294967296:Nat):Int),fR _,bv,(((x+y+c) / 4294967296:Nat):Int),?_,?_⟩
 .exact nG 32 bv
 refine⟨(((x+y+c) / 4294967296:Nat):Int),by rw[fR];omega,?_⟩;intro O w3 r;exact⟨_,rfl,r.cg,rfl⟩
def JF(x y c:Nat)(w:World)(Z:x<4294967296)(hy:y<4294967296)(hc:c<=1):
  eH PG Fd.Ah #[.int .u32 x,.int .u32 y,.int .u32 c] w (eV w λv _=>v= .tuple #[.int .u32 ((x+4294967296-(y+c)) % 4294967296:Nat),.int .u32 ((if x<y+c then 1 else 0:Nat):Int)]):=by
 refine CL ce ?_;refine⟨((x+4294967296-y) % 4294967296:Nat),?_,?_⟩
 .show((x:Int)-y) % 4294967296=_;omega
 refine⟨((x+4294967296-(y+c)) % 4294967296:Nat),?_,?_⟩
 .show((((x+4294967296-y) % 4294967296:Nat):Int)-c) % 4294967296=_;omega
 have h6:(x+4294967296-(y+c)) % 4294967296<4294967296:=cL _ bv;generalize hd:(x+4294967296-(y+c)) % 4294967296=d at h6;refine⟨((4294967295 ^^^ x:Nat):Int),Oq Z,(((4294967295 ^^^ x) &&& y:Nat):Int),On (sR bv Z) hy,((x ^^^ y:Nat):Int),Oo Z hy,((4294967295 ^^^ (x ^^^ y):Nat):Int),Oq (sR Z hy),(((4294967295 ^^^ (x ^^^ y)) &&& d:Nat):Int),On (sR bv (sR Z hy)) h6,((((4294967295 ^^^ x) &&& y) ||| ((4294967295 ^^^ (x ^^^ y)) &&& d):Nat):Int),aAd (sQ _ hy) (sQ _ h6),bv,((if x<y+c then 1 else 0:Nat):Int),?_,?_⟩
 .rw[<-borrow Z hy hc hd];exact qH 31 bv
 intro O w3 r;exact⟨_,rfl,r.cg,rfl⟩
def qJ(n m:Nat):Int:=if n<m then -1 else if m<n then 1 else 0
def Ov{a b:List Nat}{i x y:Nat}(ha:Lm a)(hl:a.length=b.length)(Z:a[i]? =some x)(hy:b[i]? =some y)(h:a.drop (i+1)=b.drop (i+1))(QU:x<y):val a<val b:=by
 have R:=(aH.1 Z).1;have Y:=fC a i be;have I:=fC b i be;rw[ja Z]at Y;rw[ja hy,<-h]at I;have h3:=pX (ha.take i);rw[bI,Nat.min_eq_left be]at h3;generalize val (a.drop (i+1))=q at Y I;have h4:wt i*(x+4294967296*q+1)<=wt i*(y+4294967296*q):=bC _ be;rw[bW,ah]at h4;omega
def JA{u:Value}{n m:Nat}(G:Old S w)(E:de w S v n)(hm:de w S u m):eH PG Fd.tf #[v,u] w (eV w λv' _=>v'=iV (qJ n m)):=by
 obtain⟨ls,Y,nz1,rfl⟩:=E;obtain⟨ms,I,nz2,rfl⟩:=hm;obtain⟨a,c,rfl,_,ha⟩:=Y.sl;obtain⟨b,e,rfl,_,N⟩:=I.sl;have hle1:=Y.le;have Xx:=I.le;have lm1:=Y.lm;have lm2:=I.lm;refine xN ce ?_;apply bS<;>intro h
 .have h:ls.length≠ms.length:=by intro e;rw[e]at h;simp at h
  apply bS<;>intro h3
  .have h3:ls.length<ms.length:=by simpa using h3
   intro O F r;exact⟨_,rfl,r.cg,by rw[qJ,aM (jZ lm1 nz2 h3)];rfl⟩
  .have h3:ms.length<ls.length:=by
    have:¬ls.length<ms.length:=by simpa using h3
    omega
   have h4:=jZ lm2 nz1 h3;intro O F r;exact⟨_,rfl,r.cg,by rw[qJ,aJ be,aM h4];rfl⟩
 .have h:ls.length=ms.length:=by
   have:(ls.length:Int)=ms.length:=by simpa using h
   omega
  refine⟨(ls.length:Int)-1,wo,Nat×World,λx=>⟨[(0,sV a ls.length c),(1,sV b ms.length e),(5,.o (.v (iV ((x.1:Int)-1))))],[],0,[],x.2⟩,λx=>x.1,
   λx=>x.1<=ls.length/\Bq w x.2/\ls.drop x.1=ms.drop x.1,?_,?_⟩
  .intro O J r;exact⟨(ls.length,J),⟨lr,r.cg,by rw[List.drop_length,h,List.drop_length]⟩,Sub.reset r ⟨rfl,rfl,rfl,trivial⟩ ⟨trivial,trivial,trivial,trivial⟩⟩
  .rintro⟨k,w1⟩ ⟨K,W,hd⟩;dsimp only at K W hd ⊢;apply bS<;>intro h3
   .have h3:(k:Int)-1≥0:=aK h3;obtain⟨k,rfl⟩:∃q,k=q+1:=⟨k-1,be⟩
    rw[show ((k+1:Nat):Int)-1=(k:Int) by omega];obtain⟨x,Z⟩:=gO ls k;obtain⟨y,hy⟩:=gO ms k;obtain⟨ad,QQ,hs,hc1⟩:=ha k x Z;obtain⟨ad2,Q4,TC,SN⟩:=N k y hy;have RA:∀O J,Rel [] 0 [] w.heap.size w1 O J->J.cell? (ad.add ((k:Int).toNat*1))=some (.int .u32 x):=λO J r=>by
     rw[aI,ah];exact gF G W r hs hc1
    have RZ:∀O J,Rel [] 0 [] w.heap.size w1 O J->J.cell? (ad2.add ((k:Int).toNat*1))=some (.int .u32 y):=λO J r=>by
     rw[aI,ah];exact gF G W r TC SN
    refine dP (idO 10) ?_;refine⟨ad,QQ,be,_,RA,ad2,Q4,be,_,RZ,?_⟩;apply bS<;>intro h4
    .have h4:=dL h4;intro O F r;exact⟨_,rfl,W.tr r.cg,by rw[qJ,aM (Ov lm1 h Z hy hd h4)];rfl⟩
    .have h4:¬x<y:=by simpa using h4
     refine dP (idO 10) ?_;refine⟨ad,QQ,be,_,RA,ad2,Q4,be,_,RZ,?_⟩;apply bS<;>intro h5
     .have h5:=dL h5;have h6:=Ov lm2 h.symm hy Z hd.symm h5;intro O F r;exact⟨_,rfl,W.tr r.cg,by rw[qJ,aJ be,aM h6];rfl⟩
     .have h5:¬y<x:=by simpa using h5
      have hxy:x=y:=by omega
      subst hxy;refine⟨(k:Int)-1,wo,?_⟩;intro O F r;have RS:ls.drop k=ms.drop k:=by
       obtain⟨q1,e1⟩:=aH.1 Z;obtain⟨q2,e2⟩:=aH.1 hy;rw[List.drop_eq_getElem_cons q1,List.drop_eq_getElem_cons q2,e1,e2,hd]
      exact⟨(k,F),⟨by dsimp only;omega,W.tr r.cg,RS⟩,Sub.reset r ⟨rfl,rfl,rfl,trivial⟩ ⟨trivial,trivial,trivial,trivial⟩,ce⟩
   .have Sp:k=0:=by
     have:¬(k:Int)-1≥0:=aL h3;omega
    subst Sp;have L:ls=ms:=by simpa using hd
    intro O F r;exact⟨_,rfl,W.tr r.cg,by rw[L,qJ,aJ be,aJ be];rfl⟩
end Go.Ex
namespace Go.Sx
open Go Go.Ex Go.Proofs
variable{O:Nat->Sx.eD}
def Rel.sO{nx:Nat}{iv:Iv}{B:Nat}{w J:World}(r:Rel [] nx iv B w O J):w.grownBy J none:=
 ⟨r.os,r.tape,r.output,r.size,λk K _=>r.D9 k K (λid b h=>by cases h)⟩
end Go.Sx
namespace Go.Ex
open Go Go.Sx Go.Proofs
variable{l ls:List Nat}{S:Nat->Prop}{v:Value}{w:World}
structure LA(S:Nat->Prop)(w:World) where
 a:Option Addr
 c:Nat
 ls:List Nat
 lm:Lm ls
 le:ls.length<=9223372036854775807
 cap:ls.length<=c
 cell:∀(j:Nat) x,ls[j]? =some x->∃ad,a=some ad/\S ad.block/\w.cell? (ad.add j)=some (.int .u32 x)
def dW.la(h:dW w S v ls):∃p:LA S w,v= .slice p.a p.ls.length p.c/\p.ls=ls:=by
 obtain⟨a,c,Y,I,h3⟩:=h.sl;exact⟨⟨a,c,ls,h.lm,h.le,I,h3⟩,Y,rfl⟩
def de.la{n:Nat}(h:de w S v n):∃p:LA S w,v= .slice p.a p.ls.length p.c/\val p.ls=n/\Nz p.ls:=by
 obtain⟨ls,Y,I,h3⟩:=h;obtain⟨p,h4,h5⟩:=Y.la;exact⟨p,h4,by rw[h5];exact h3,by rw[h5];exact I⟩
def LA.load{w1:World}(p:LA S w)(G:Old S w)(W:Bq w w1){k x:Nat}(Z:p.ls[k]? =some x):
  ∃ad,p.a=some ad/\∀(H:Hp) (nx:Nat) (iv:Iv) (O:Nat->Sx.eD) J,Rel H nx iv w.heap.size w1 O J->J.cell? (ad.add ((k:Int).toNat*1))=some (.int .u32 x):=by
 obtain⟨ad,Y,I,h3⟩:=p.cell k x Z;refine⟨ad,Y,λH nx iv O J r=>?_⟩;rw[aI,ah];exact gF G W r I h3
def F8(l:List Nat):List Value:=l.map λ(x:Nat)=>.int .u32 (x:Int)
def gG(l:List Nat):(F8 l).length=l.length:=by simp[F8]
def tq{k x:Nat}(h:l[k]? =some x):(F8 l)[k]? =some (.int .u32 x):=by simp[F8,h]
def aBC(l:List Nat)(k x:Nat)(h:k<l.length):(F8 l).take k++[.int .u32 x]++(F8 l).drop (k+1)=F8 (l.set k x):=by
 have Y:k<(F8 l).length:=by rw[gG];exact h
 have:(F8 l).set k (.int .u32 x)=F8 (l.set k x):=by simp[F8,List.map_set]
 rw[<-this,List.set_eq_take_append_cons_drop,aM Y];simp
def j2(l:List Nat)(k x:Nat)(h:k<l.length){e:Nat}(L:e=k):(F8 l).take e++[.int .u32 (x:Int)]++(F8 l).drop (e+1)=F8 (l.set k x):=by
 subst L;exact aBC l e x h
def sP(n:Nat):List.replicate n (Value.int .u32 0)=F8 (List.replicate n 0):=by simp[F8]
end Go.Ex
namespace Go.Sx
open Go Go.Ex Go.Proofs
variable{ls:List Nat}{O:Nat->Sx.eD}
def Rel.pC{H:Hp}{nx:Nat}{iv:Iv}{B:Nat}{w J:World}(r:Rel H nx iv B w O J){id t:Nat}(h:dT H id=some (.arr t (F8 ls)))(Qi:Lm ls)(hle:ls.length<=9223372036854775807):
  dW J (λg=>g=(O id).g) (.slice (some ⟨(O id).g,0,none⟩) ls.length ls.length) ls:=by
 refine⟨Qi,hle,_,_,rfl,lr,λj x Z=>⟨_,rfl,rfl,?_⟩⟩;have h0:(⟨(O id).g,0,none⟩:Addr).add j=⟨(O id).g,j,none⟩:=by
  cases j with
  |zero=>rfl
  |succ j=>simp[Addr.add]
 rw[h0,cell_of (r.arr id t _ h)];exact tq Z
end Go.Sx
namespace Go.Ex
open Go Go.Sx Go.Proofs
section
variable{S:Nat->Prop}
def DX{out ls ms:List Nat}{i x o d:Nat}(Z:ls[i]? =some x)(ho:ms.getD i 0=o)(hd:out[i]? =some d){carry:Nat}(h:val (out.take i)+wt i*carry=val (ls.take i)+val (ms.take i)):
  val ((out.set i ((x+o+carry) % 4294967296)).take (i+1))+wt (i+1)*((x+o+carry) / 4294967296)=val (ls.take (i+1))+val (ms.take (i+1)):=by
 have R:=(aH.1 hd).1;have Y:(out.set i ((x+o+carry) % 4294967296))[i]? =some ((x+o+carry) % 4294967296):=by rw[aQ R]
 rw[eF Y,List.take_set_of_le lr,eF Z,jY];have I:val (ms.take (i+1))=val (ms.take i)+wt i*o:=by
  cases hm:ms[i]? with
  |some y=>
   have:y=o:=by rw[<-ho];simp[List.getD,hm]
   rw[eF hm,this]
  |none=>
   have:o=0:=by rw[<-ho];simp[List.getD,hm]
   rw[this,bH,hm];simp
 rw[I];have h3:=Nat.div_add_mod (x+o+carry) 4294967296;generalize (x+o+carry) / 4294967296=q at h3 ⊢;generalize (x+o+carry) % 4294967296=r at h3 ⊢;have h4:wt i*(4294967296*q+r)=wt i*(x+o+carry):=by rw[h3]
 rw[bW,bW,bW,<-bo,bX (wt i) 4294967296]at h4;omega
def He{w:World}{v u:Value}{n m:Nat}(G:Old S w)(E:de w S v n)(hm:de w S u m)(TY:ln n<=1000000000000)(Qi:ln m<=1000000000000):
  eH PG Fd.rk #[v,u] w (eV w λv' F=>de F (Nf w F) v' (n+m)):=by
 obtain⟨p,rfl,Rk,Rz⟩:=E.la;obtain⟨q,rfl,S8,Rr⟩:=hm.la;have QL:=eE p.lm Rz;have Uh:=eE q.lm Rr;rw[Rk]at QL;rw[S8]at Uh;have WU:n+m=val p.ls+val q.ls:=by rw[Rk,S8]
 rw[WU];refine wJ ce ?_;refine wj.mk ?_ ?_<;>intro h
 case' refine_1=>
  have h:p.ls.length<q.ls.length:=by simpa using h
  have hpx:p.ls.length<=q.ls.length:=by omega
  have hx12:q.ls.length<=1000000000000:=by omega
  rw[Nat.add_comm];generalize QT:q=x at*
  generalize hgy:p=y at*
 case' refine_2=>
  have h:¬p.ls.length<q.ls.length:=by simpa using h
  have hpx:q.ls.length<=p.ls.length:=by omega
  have hx12:p.ls.length<=1000000000000:=by omega
  generalize QT:p=x at*
  generalize hgy:q=y at*
 all_goals
  refine⟨((x.ls.length+1:Nat):Int),wo,x.ls.length+1,x.ls.length+1,rfl,rfl,lr,be,be,Nat×List Nat×Nat×World,λz=>⟨[(0,sV x.a x.ls.length x.c),(1,sV y.a y.ls.length y.c),(5,.o (.s 0 0 (x.ls.length+1) (x.ls.length+1))),(6,.o (.v (.int .u32 z.2.2.1))),(21,iZ x.ls.length),(22,iZ z.1)],
    [(0,.arr T.uint32 (F8 z.2.1))],1,[],z.2.2.2⟩,λz=>x.ls.length-z.1,
   λz=>z.1<=x.ls.length/\Bq w z.2.2.2/\z.2.1.length=x.ls.length+1/\Lm z.2.1/\z.2.2.1<2/\val (z.2.1.take z.1)+wt z.1*z.2.2.1=val (x.ls.take z.1)+val (y.ls.take z.1),?_,?_⟩
  .intro O J r;rw[sP]at r;exact⟨(0,List.replicate (x.ls.length+1) 0,0,J),⟨ce,r.cg,ce,Lm.replicate _,ce,by simp[val]⟩,sbgn [] r⟩
  .rintro⟨i,out,carry,w1⟩ ⟨R,W,Rl,Q9,hc,hv⟩;dsimp only at R W Rl Q9 hc hv ⊢;refine wj.mk ?_ ?_<;>intro h
   .have h:=dL h;obtain⟨xi,QY⟩:=gO x.ls i;obtain⟨d,hd⟩:=gO out i;obtain⟨ad,QQ,QS⟩:=x.load G W QY;have Re:=x.lm.at QY;refine wj.mk ?_ ?_<;>intro I
    .have I:=dL I;obtain⟨o,ho⟩:=gO y.ls i;obtain⟨ad2,Q4,Se⟩:=y.load G W ho;have ZK:=y.lm.at ho;have Vs:y.ls.getD i 0=o:=by simp[List.getD,ho]
     refine⟨ad2,Q4,be,.int .u32 o,Se _ _ _,ad,QQ,be,.int .u32 xi,QS _ _ _,?_⟩;refine cS (cR (GT:=λ_ _ v _=>v= .tuple #[.int .u32 ((xi+o+carry) % 4294967296:Nat),.int .u32 ((xi+o+carry) / 4294967296:Nat)]) (λO J r=>JE xi o carry J Re ZK be) ?_);rintro O J v F r L N rfl;replace W:=W.tr N;have Pr:=DX QY Vs hd hv;have SN:(xi+o+carry) / 4294967296<2:=by omega
     refine⟨be,by rw[gG];omega,F8 (out.set i ((xi+o+carry) % 4294967296)),j2 out i _ be ce,((i+1:Nat):Int),wo,?_⟩;intro I8 w3 r3
     exact⟨(i+1,out.set i ((xi+o+carry) % 4294967296),(xi+o+carry) / 4294967296,w3),⟨by dsimp only;omega,W.tr r3.cg,by simp[Rl],Q9.set (cL _ bv),SN,Pr⟩,
      sbgn [] r3,by dsimp only;omega⟩
    .have I:¬i<y.ls.length:=by simpa using I
     have Vs:y.ls.getD i 0=0:=by simp[List.getD,List.getElem?_eq_none (show y.ls.length<=i by omega)]
     refine⟨ad,QQ,be,.int .u32 xi,QS _ _ _,?_⟩;refine cS (cR (GT:=λ_ _ v _=>v= .tuple #[.int .u32 ((xi+0+carry) % 4294967296:Nat),.int .u32 ((xi+0+carry) / 4294967296:Nat)]) (λO J r=>JE xi 0 carry J Re bv be) ?_);rintro O J v F r L N rfl;replace W:=W.tr N;have Pr:=DX QY Vs hd hv;have SN:(xi+0+carry) / 4294967296<2:=by omega
     refine⟨be,by rw[gG];omega,F8 (out.set i ((xi+0+carry) % 4294967296)),j2 out i _ be ce,((i+1:Nat):Int),wo,?_⟩;intro I8 w3 r3
     exact⟨(i+1,out.set i ((xi+0+carry) % 4294967296),(xi+0+carry) / 4294967296,w3),⟨by dsimp only;omega,W.tr r3.cg,by simp[Rl],Q9.set (cL _ bv),SN,Pr⟩,
      sbgn [] r3,by dsimp only;omega⟩
   .have Uq:i=x.ls.length:=by
     have:¬i<x.ls.length:=by simpa using h
     omega
    subst Uq;obtain⟨d,hd⟩:=gO out x.ls.length;have UH:val (out.set x.ls.length carry)=val x.ls+val y.ls:=by
     have Y:(out.set x.ls.length carry)[x.ls.length]? =some carry:=by rw[aQ be]
     have I:=eF Y;rw[bU (by simp;omega),List.take_set_of_le lr]at I;rw[bE,bU hpx]at hv;omega
    have hlm2:Lm (out.set x.ls.length carry):=Q9.set be;refine⟨be,by rw[gG];omega,F8 (out.set x.ls.length carry),j2 out x.ls.length carry be ce,?_⟩;generalize Ye:out.set x.ls.length carry=fin at UH hlm2;have Qj:fin.length=x.ls.length+1:=by rw[<-Ye];simp[Rl]
    refine gJ (GT:=λO _ v F=>dW F (λg=>g=(O 0).g) v (eK fin)) (H':=[]) 0 rfl ce trivial rfl (λO J r=>r.nn 0 _ rfl (by intros;simp) ce) (λO J r=>?_) ?_
    .have hL:=r.pC (id:=0) rfl hlm2 be;rw[Qj]at hL;exact fS (λg V=>by rw[V];exact(r.low 0 _ rfl (r.nn 0 _ rfl (by intros;simp) ce)).2) hL
    rintro O J v F r L N hL;replace W:=W.tr N;have Pq:=r.low 0 _ rfl (r.nn 0 _ rfl (by intros;simp) ce);generalize (O 0).g=g at*
    have hs:=L.size;intro I8 w3 r3;refine⟨_,rfl,W.tr r3.cg,eK fin,?_,(fH fin).2.1,?_⟩
    .refine(hL.cW λk K=>?_).cU λk K=>.inr ?_
     .rw[K];exact r3.sO.block g be ce
     .rw[K];have:=r3.size;omega
    .rw[(fH fin).1,UH]
end
variable{ls ms out:List Nat}{A9 a b i k o t:Nat}{S:Nat->Prop}{v:Value}{w:World}
def Kp(ho:ms.getD i 0=o):val (ms.take (i+1))=val (ms.take i)+wt i*o:=by
 cases hm:ms[i]? with
 |some y=>
  have:y=o:=by rw[<-ho];simp[List.getD,hm]
  rw[eF hm,this]
 |none=>
  have:o=0:=by rw[<-ho];simp[List.getD,hm]
  rw[this,bH,hm];simp
def Ba{x d e:Nat}(Z:ls[i]? =some x)(ho:ms.getD i 0=o)(hd:out[i]? =some d){b':Nat}(h:val (out.take i)+val (ms.take i)=val (ls.take i)+wt i*b)(L:e+(o+b)=x+4294967296*b'):
  val ((out.set i e).take (i+1))+val (ms.take (i+1))=val (ls.take (i+1))+wt (i+1)*b':=by
 have R:=(aH.1 hd).1;have Y:(out.set i e)[i]? =some e:=by rw[aQ R]
 rw[eF Y,List.take_set_of_le lr,eF Z,Kp ho,jY];have h4:wt i*(e+(o+b))=wt i*(x+4294967296*b'):=by rw[L]
 rw[bW,bW,bW,<-bo,bX (wt i) 4294967296]at h4;omega
def zM{u:Value}{n m:Nat}(G:Old S w)(E:de w S v n)(hm:de w S u m)(hle:m<=n)(TY:ln n<=1000000000000):
  eH PG Fd.qT #[v,u] w (eV w λv' F=>de F (Nf w F) v' (n-m)):=by
 obtain⟨x,rfl,Rk,Rz⟩:=E.la;obtain⟨y,rfl,S8,Rr⟩:=hm.la;have QL:=eE x.lm Rz;rw[Rk]at QL;have hyx:y.ls.length<=x.ls.length:=by
  rw[eE x.lm Rz,eE y.lm Rr,Rk,S8];exact fK hle
 refine uY ce ?_
 refine⟨x.ls.length,x.ls.length,rfl,rfl,lr,be,be,Nat×List Nat×Nat×World,λz=>⟨[(0,sV x.a x.ls.length x.c),(1,sV y.a y.ls.length y.c),(5,.o (.s 0 0 x.ls.length x.ls.length)),(6,.o (.v (.int .u32 z.2.2.1))),(13,iZ x.ls.length),(14,iZ z.1)],
   [(0,.arr T.uint32 (F8 z.2.1))],1,[],z.2.2.2⟩,λz=>x.ls.length-z.1,
  λz=>z.1<=x.ls.length/\Bq w z.2.2.2/\z.2.1.length=x.ls.length/\Lm z.2.1/\z.2.2.1<2/\val (z.2.1.take z.1)+val (y.ls.take z.1)=val (x.ls.take z.1)+wt z.1*z.2.2.1,?_,?_⟩
 .intro O J r;rw[sP]at r;exact⟨(0,List.replicate x.ls.length 0,0,J),⟨ce,r.cg,ce,Lm.replicate _,ce,by simp[val]⟩,sbgn [] r⟩
 .rintro⟨i,out,b,w1⟩ ⟨R,W,Rl,Q9,hc,hv⟩;dsimp only at R W Rl Q9 hc hv ⊢;apply bS<;>intro h
  .have h:=dL h;obtain⟨xi,QY⟩:=gO x.ls i;obtain⟨d,hd⟩:=gO out i;obtain⟨ad,QQ,QS⟩:=x.load G W QY;have Re:=x.lm.at QY;apply bS<;>intro I
   .have I:=dL I;obtain⟨o,ho⟩:=gO y.ls i;obtain⟨ad2,Q4,Se⟩:=y.load G W ho;have ZK:=y.lm.at ho;have Vs:y.ls.getD i 0=o:=by simp[List.getD,ho]
    refine⟨ad2,Q4,be,.int .u32 o,Se _ _ _,ad,QQ,be,.int .u32 xi,QS _ _ _,?_⟩;refine cS (cR (GT:=λ_ _ v _=>v= .tuple #[.int .u32 ((xi+4294967296-(o+b)) % 4294967296:Nat),.int .u32 ((if xi<o+b then 1 else 0:Nat):Int)]) (λO J r=>JF xi o b J Re ZK be) ?_);rintro O J v F r L N rfl;replace W:=W.tr N;have RC:(xi+4294967296-(o+b)) % 4294967296+(o+b)=xi+4294967296*(if xi<o+b then 1 else 0):=by split<;>omega
    have QU:(xi+4294967296-(o+b)) % 4294967296<4294967296:=cL _ bv;have QZ:(if xi<o+b then 1 else 0:Nat)<2:=by split<;>omega
    generalize (xi+4294967296-(o+b)) % 4294967296=e at RC QU;generalize (if xi<o+b then 1 else 0:Nat)=b' at RC QZ;have Pr:=Ba QY Vs hd hv RC;refine⟨be,by rw[gG];omega,F8 (out.set i e),j2 out i _ be ce,((i+1:Nat):Int),wo,?_⟩;intro I8 w3 r3
    exact⟨(i+1,out.set i e,b',w3),⟨by dsimp only;omega,W.tr r3.cg,by simp[Rl],Q9.set QU,QZ,Pr⟩,
     sbgn [] r3,by dsimp only;omega⟩
   .have I:¬i<y.ls.length:=by simpa using I
    have Vs:y.ls.getD i 0=0:=by simp[List.getD,List.getElem?_eq_none (show y.ls.length<=i by omega)]
    refine⟨ad,QQ,be,.int .u32 xi,QS _ _ _,?_⟩;refine cS (cR (GT:=λ_ _ v _=>v= .tuple #[.int .u32 ((xi+4294967296-(0+b)) % 4294967296:Nat),.int .u32 ((if xi<0+b then 1 else 0:Nat):Int)]) (λO J r=>JF xi 0 b J Re bv be) ?_);rintro O J v F r L N rfl;replace W:=W.tr N;have RC:(xi+4294967296-(0+b)) % 4294967296+(0+b)=xi+4294967296*(if xi<0+b then 1 else 0):=by split<;>omega
    have QU:(xi+4294967296-(0+b)) % 4294967296<4294967296:=cL _ bv;have QZ:(if xi<0+b then 1 else 0:Nat)<2:=by split<;>omega
    generalize (xi+4294967296-(0+b)) % 4294967296=e at RC QU;generalize (if xi<0+b then 1 else 0:Nat)=b' at RC QZ;have Pr:=Ba QY Vs hd hv RC;refine⟨be,by rw[gG];omega,F8 (out.set i e),j2 out i _ be ce,((i+1:Nat):Int),wo,?_⟩;intro I8 w3 r3
    exact⟨(i+1,out.set i e,b',w3),⟨by dsimp only;omega,W.tr r3.cg,by simp[Rl],Q9.set QU,QZ,Pr⟩,
     sbgn [] r3,by dsimp only;omega⟩
  .have Uq:i=x.ls.length:=by
    have:¬i<x.ls.length:=by simpa using h
    omega
   subst Uq;have UH:val out=n-m:=by
    rw[bU be,bU hyx,bE,Rk,S8]at hv;have Y:=pX Q9;rw[Rl]at Y;have:b=0\/b=1:=by omega
    rcases this with rfl|rfl
    .omega
    .omega
   refine gJ (GT:=λO _ v F=>dW F (λg=>g=(O 0).g) v (eK out)) (H':=[]) 0 rfl ce trivial rfl (λO J r=>r.nn 0 _ rfl (by intros;simp) ce) (λO J r=>?_) ?_
   .have hL:=r.pC (id:=0) rfl Q9 be;rw[Rl]at hL;exact fS (λg V=>by rw[V];exact(r.low 0 _ rfl (r.nn 0 _ rfl (by intros;simp) ce)).2) hL
   rintro O J v F r L N hL;replace W:=W.tr N;have Pq:=r.low 0 _ rfl (r.nn 0 _ rfl (by intros;simp) ce);generalize (O 0).g=g at*
   have hs:=L.size;intro I8 w3 r3;refine⟨_,rfl,W.tr r3.cg,eK out,?_,(fH out).2.1,?_⟩
   .refine(hL.cW λk K=>?_).cU λk K=>.inr ?_
    .rw[K];exact r3.sO.block g be ce
    .rw[K];have:=r3.size;omega
   .rw[(fH out).1,UH]
def IK{p c:Nat}(ho:out[p]? =some o)(h:val out+wt p*c=A9)(ht:t=a+o+c):
  val (out.set p (t % 4294967296))+wt (p+1)*(t / 4294967296)=A9+wt p*a:=by
 have Y:=zD (x:=t % 4294967296) ho;rw[jY];have h3:=Nat.div_add_mod t 4294967296;generalize t / 4294967296=q at h3 ⊢;generalize t % 4294967296=r at h3 Y ⊢;have h4:wt p*(4294967296*q+r)=wt p*(a+o+c):=by rw[h3,ht]
 rw[bW,bW,bW,<-bo,bX (wt p) 4294967296]at h4;omega
def Zf(out:List Nat)(p:Nat):Prop:=∀(j:Nat) z,p<=j->out[j]? =some z->z=0
def Zf.set{p x:Nat}(h:Zf out p)(K:k<p):Zf (out.set k x) p:=λj z hj hz=>by
 rw[aX be]at hz;exact h j z hj hz
def Mz(ha:a<4294967296)(N:b<4294967296):a*b<=18446744065119617025:=by
 have:a*b<=4294967295*4294967295:=Nat.mul_le_mul be be;omega
def Iz{u:Value}{n m:Nat}(G:Old S w)(E:de w S v n)(hm:de w S u m)(TY:ln n<=1000000000000)(Qi:ln m<=1000000000000):
  eH PG Fd.qU #[v,u] w (eV w λv' F=>de F (Nf w F) v' (n*m)):=by
 obtain⟨x,rfl,Rk,Rz⟩:=E.la;obtain⟨y,rfl,S8,Rr⟩:=hm.la;have QL:=eE x.lm Rz;rw[Rk]at QL;have Uh:=eE y.lm Rr;rw[S8]at Uh;refine uZ ce ?_;obtain⟨Do,hL⟩:∃Do,Do=x.ls.length+y.ls.length:=⟨_,rfl⟩
 refine⟨(Do:Int),wo,Do,Do,rfl,rfl,lr,be,be,Nat×List Nat×World,λz=>⟨[(1,sV y.a y.ls.length y.c),(5,.o (.s 0 0 Do Do)),(18,sV x.a x.ls.length x.c),(19,iZ x.ls.length),(20,iZ z.1)],
   [(0,.arr T.uint32 (F8 z.2.1))],1,[],z.2.2⟩,λz=>x.ls.length-z.1,
  λz=>z.1<=x.ls.length/\Bq w z.2.2/\z.2.1.length=Do/\Lm z.2.1/\val z.2.1=val (x.ls.take z.1)*m/\Zf z.2.1 (z.1+y.ls.length),?_,?_⟩
 .intro O J r;rw[sP]at r;exact⟨(0,List.replicate Do 0,J),⟨ce,r.cg,ce,Lm.replicate _,by simp[val,kx],λj z _ hz=>by simp only[List.getElem?_replicate]at hz;split at hz<;>simp_all⟩,sbgn [] r⟩
 .rintro⟨i,out,w1⟩ ⟨R,W,Rl,Q9,hv,hz⟩;dsimp only at R W Rl Q9 hv hz ⊢;apply bS<;>intro h
  .have h:=dL h;obtain⟨xi,QY⟩:=gO x.ls i;obtain⟨ad,QQ,QS⟩:=x.load G W QY;have Re:=x.lm.at QY
   refine⟨ad,QQ,be,.int .u32 xi,QS _ _ _,Nat×List Nat×Nat×World,λz=>⟨[(1,sV y.a y.ls.length y.c),(5,.o (.s 0 0 Do Do)),(18,sV x.a x.ls.length x.c),(19,iZ x.ls.length),(20,iZ i),
     (6,iZ i),(7,.o (.v (.int .u32 xi))),(8,.o (.v (.int .u64 z.2.2.1))),(25,sV y.a y.ls.length y.c),(26,iZ y.ls.length),(27,iZ z.1)],
     [(0,.arr T.uint32 (F8 z.2.1))],1,[],z.2.2.2⟩,λz=>y.ls.length-z.1,
    λz=>z.1<=y.ls.length/\Bq w z.2.2.2/\z.2.1.length=Do/\Lm z.2.1/\z.2.2.1<4294967296/\val z.2.1+wt (i+z.1)*z.2.2.1=val (x.ls.take i)*m+wt i*xi*val (y.ls.take z.1)/\Zf z.2.1 (i+y.ls.length),?_,?_⟩
   .intro O J r;exact⟨(0,out,0,J),⟨ce,W.tr r.cg,Rl,Q9,ce,by simp[val,hv],hz⟩,sbgn [] r⟩
   .rintro⟨k,out,c,w1⟩ ⟨K,W,Rl,Q9,hc,hv,hz⟩;dsimp only at K W Rl Q9 hc hv hz ⊢;apply bS<;>intro I
    .have I:=dL I;obtain⟨yk,hyk⟩:=gO y.ls k;obtain⟨ad2,Q4,Se⟩:=y.load G W hyk;have hy32:=y.lm.at hyk;obtain⟨o,ho⟩:=gO out (i+k);have ZK:=Q9.at ho;have hm64:=Mz Re hy32;refine⟨ad2,Q4,be,.int .u32 yk,Se _ _ _,(xi:Int),en be,(yk:Int),en be,((xi*yk:Nat):Int),by rw[<-Int.natCast_mul];exact en be,((i+k:Nat):Int),wo,be,.int .u32 o,by rw[aI,aV,ah];exact tq ho,(o:Int),en be,((xi*yk+o:Nat):Int),by rw[<-Int.natCast_add];exact en be,?_⟩;obtain⟨t,ht⟩:∃t,t=xi*yk+o+c:=⟨_,rfl⟩
     refine⟨(t:Int),by rw[<-Int.natCast_add,<-ht];exact en be,((i+k:Nat):Int),wo,((t % 4294967296:Nat):Int),fR _,bv,((t / 4294967296:Nat):Int),nG 32 bv,be,by rw[gG];omega,F8 (out.set (i+k) (t % 4294967296)),j2 out (i+k) _ be (by simp only[aI];omega),((k+1:Nat):Int),wo,?_⟩;intro I8 w3 r3
     refine⟨(k+1,out.set (i+k) (t % 4294967296),t / 4294967296,w3),⟨by dsimp only;omega,W.tr r3.cg,by simp[Rl],Q9.set (cL _ bv),by dsimp only;omega,?_,hz.set be⟩,
      sbgn [] r3,by dsimp only;omega⟩
     have h5:=IK (a:=xi*yk) ho hv ht;dsimp only
     rw[show i+(k+1)=i+k+1 by omega,h5,eF hyk,Di,bW,Nat.add_assoc];congr 2;simp only[bo,Nat.mul_left_comm,bX]
    .have hkn:k=y.ls.length:=by
      have:¬k<y.ls.length:=by simpa using I
      omega
     subst hkn;obtain⟨o,ho⟩:=gO out (i+y.ls.length);have ho0:=hz _ _ lr ho;subst ho0;refine⟨((i+y.ls.length:Nat):Int),wo,(c:Int),by rw[fR,bZ hc],be,by rw[gG];omega,F8 (out.set (i+y.ls.length) c),j2 out (i+y.ls.length) _ be (by simp only[aI];omega),((i+1:Nat):Int),wo,?_⟩;intro I8 w3 r3
     refine⟨(i+1,out.set (i+y.ls.length) c,w3),⟨by dsimp only;omega,W.tr r3.cg,by simp[Rl],Q9.set hc,?_,?_⟩,
      sbgn [] r3,by dsimp only;omega⟩
     .have h5:=zD (x:=c) ho;dsimp only
      rw[bE,S8]at hv;rw[eF QY,Nat.add_mul];omega
     .intro j z hj hjz;dsimp only at hj;rw[aX be]at hjz;exact hz j z be hjz
  .have Uq:i=x.ls.length:=by
    have:¬i<x.ls.length:=by simpa using h
    omega
   subst Uq;have UH:val out=n*m:=by rw[hv,bE,Rk]
   refine gJ (GT:=λO _ v F=>dW F (λg=>g=(O 0).g) v (eK out)) (H':=[]) 0 rfl ce trivial rfl (λO J r=>r.nn 0 _ rfl (by intros;simp) ce) (λO J r=>?_) ?_
   .have hL:=r.pC (id:=0) rfl Q9 be;rw[Rl]at hL;exact fS (λg V=>by rw[V];exact(r.low 0 _ rfl (r.nn 0 _ rfl (by intros;simp) ce)).2) hL
   rintro O J v F r L N hL;replace W:=W.tr N;have Pq:=r.low 0 _ rfl (r.nn 0 _ rfl (by intros;simp) ce);generalize (O 0).g=g at*
   have hs:=L.size;intro I8 w3 r3;refine⟨_,rfl,W.tr r3.cg,eK out,?_,(fH out).2.1,?_⟩
   .refine(hL.cW λk K=>?_).cU λk K=>.inr ?_
    .rw[K];exact r3.sO.block g be ce
    .rw[K];have:=r3.size;omega
   .rw[(fH out).1,UH]
def EL{q:Nat}(ho:o<2^k):o ||| 2^k*q=o+2^k*q:=by
 rw[Nat.or_comm,<-Nat.two_pow_add_eq_or_of_lt ho,Nat.add_comm]
def MR{x y:Nat}(Z:x<18446744073709551616)(hy:y<18446744073709551616):IntKind.u64.wrap ((BitVec.ofInt IntKind.u64.bits x ||| BitVec.ofInt IntKind.u64.bits y).toNat:Int)=((x ||| y:Nat):Int):=by
 have e:∀z:Nat,BitVec.ofInt 64 (z:Int)=BitVec.ofNat 64 z:=λz=>by
  apply BitVec.eq_of_toNat_eq;simp
 show IntKind.u64.wrap ((BitVec.ofInt 64 x ||| BitVec.ofInt 64 y).toNat:Int)=_;rw[e,e,BitVec.toNat_or,BitVec.toNat_ofNat,BitVec.toNat_ofNat,bZ Z,bZ hy];exact en (Nat.or_lt_two_pow (n:=64) Z hy)
def EK(K:k<=63)(h:a*2^k<18446744073709551616):IntKind.u64.wrap ((a:Int)*2^min ((k:Int)).toNat IntKind.u64.bits)=((a*2^k:Nat):Int):=by
 have Y:min ((k:Int)).toNat IntKind.u64.bits=k:=by show min ((k:Int)).toNat 64=k;omega
 rw[Y,show(a:Int)*2^k=((a*2^k:Nat):Int) by simp];exact en h
def IM(ha:ls[i]? =some a)(ho:out[i]? =some o)(hz:out[i+1]? =some 0)(hv:val out=val (ls.take i)*2^b):
  val ((out.set i (o+a*2^b % 4294967296)).set (i+1) (a*2^b / 4294967296))=val (ls.take (i+1))*2^b:=by
 have Y:=zD (x:=o+a*2^b % 4294967296) ho;have I:(out.set i (o+a*2^b % 4294967296))[i+1]? =some 0:=by rw[aX be];exact hz
 have h3:=zD (x:=a*2^b / 4294967296) I;rw[eF ha,Nat.add_mul,bo];rw[jY]at h3;generalize a*2^b=t at*
 have h4:=Nat.div_add_mod t 4294967296;generalize t / 4294967296=q at*
 generalize t % 4294967296=r at*
 have h5:wt i*(o+r)=wt i*o+wt i*r:=bW _ _ _;have h6:4294967296*wt i*q=wt i*(4294967296*q):=by rw[bX 4294967296 (wt i),bo]
 rw[<-h4,bW];omega
def MT(w F:World)(v:Value)(ls:List Nat):Prop:=∃g,v= .slice (some ⟨g,0,none⟩) ls.length ls.length/\w.heap.size<=g/\F.heap[g]? =some (.cells (F8 ls).toArray T.uint32 (0,0))/\Lm ls
def xS(G:Old S w)(h:dW w S v ls)(hl:ls.length<=1000000000000)(N:b<32):
  eH PG Fd.ns #[v,.int .u64 b] w (eV w λv' F=>∃out,MT w F v' out/\out.length=ls.length+1/\val out=val ls*2^b):=by
 obtain⟨x,rfl,rfl⟩:=h.la;refine sN ce ?_;have hp32:2^b<=2^31:=Nat.pow_le_pow_right bv be
 refine⟨((x.ls.length+1:Nat):Int),wo,x.ls.length+1,x.ls.length+1,rfl,rfl,lr,be,be,Nat×List Nat×World,λz=>⟨[(1,.o (.v (.int .u64 b))),(5,.o (.s 0 0 (x.ls.length+1) (x.ls.length+1))),(13,sV x.a x.ls.length x.c),(14,iZ x.ls.length),(15,iZ z.1)],
   [(0,.arr T.uint32 (F8 z.2.1))],1,[],z.2.2⟩,λz=>x.ls.length-z.1,
  λz=>z.1<=x.ls.length/\Bq w z.2.2/\z.2.1.length=x.ls.length+1/\Lm z.2.1/\val z.2.1=val (x.ls.take z.1)*2^b/\Zf z.2.1 (z.1+1)/\(∀o,z.2.1[z.1]? =some o->o<2^b),?_,?_⟩
 .intro O J r;rw[sP]at r;refine⟨(0,List.replicate (x.ls.length+1) 0,J),⟨ce,r.cg,ce,Lm.replicate _,by simp[val,kx],λj z _ hz=>?_,λo ho=>?_⟩,sbgn [] r⟩
  .simp only[List.getElem?_replicate]at hz;split at hz<;>simp_all
  .simp only[List.getElem?_replicate]at ho;split at ho
   .injection ho with ho;subst ho;exact cI _
   .cases ho
 .rintro⟨i,out,w1⟩ ⟨R,W,Rl,Q9,hv,hz,Pq⟩;dsimp only at R W Rl Q9 hv hz Pq ⊢;apply bS<;>intro h
  .have h:=dL h;obtain⟨a,QY⟩:=gO x.ls i;obtain⟨ad,QQ,QS⟩:=x.load G W QY;have Re:=x.lm.at QY;obtain⟨o,ho⟩:=gO out i;obtain⟨o1,UR⟩:=gO out (i+1);have e0:=hz _ _ lr UR;subst e0;have Te:=Pq o ho;have Pr:=IM QY ho UR hv;have TR:a*2^b<=4294967295*2^31:=Nat.mul_le_mul be hp32;have Vg:a*2^b / 4294967296<2^b:=by
    rw[Nat.div_lt_iff_lt_mul bv,bX (2^b)];exact Nat.mul_lt_mul_of_pos_right Re (cI b)
   have Wy:o ||| a*2^b % 4294967296=o+a*2^b % 4294967296:=by
    have:a*2^b % 4294967296=2^b*(a % 2^(32-b)):=by
     rw[show (4294967296:Nat)=2^(32-b)*2^b by rw[<-Nat.pow_add,Nat.sub_add_cancel be],Nat.mul_mod_mul_right,bX]
    rw[this];exact EL Te
   have Vc:o+a*2^b % 4294967296<4294967296:=by
    rw[<-Wy];exact EN be (cL _ bv)
   refine⟨ad,QQ,be,.int .u32 a,QS _ _ _,(a:Int),en be,be,((a*2^b:Nat):Int),EK be be,?_⟩;generalize ht:a*2^b=t at*
   refine⟨be,.int .u32 o,by rw[aI,aV,ah];exact tq ho,((t % 4294967296:Nat):Int),fR _,((o+t % 4294967296:Nat):Int),by rw[<-Wy];exact aAd be (cL _ bv),be,by rw[gG];omega,F8 (out.set i (o+t % 4294967296)),j2 out i _ be ce,((i+1:Nat):Int),wo,bv,((t / 4294967296:Nat):Int),nG 32 bv,((t / 4294967296:Nat):Int),by rw[fR];omega,be,by rw[gG];simp;omega,F8 ((out.set i (o+t % 4294967296)).set (i+1) (t / 4294967296)),j2 _ (i+1) _ (by simp;omega) (by simp only[aI];omega),((i+1:Nat):Int),wo,?_⟩;intro I8 w3 r3
   refine⟨(i+1,(out.set i (o+t % 4294967296)).set (i+1) (t / 4294967296),w3),⟨by dsimp only;omega,W.tr r3.cg,by simp[Rl],(Q9.set Vc).set be,Pr,λj z hj hjz=>?_,λo2 RD=>?_⟩,
    sbgn [] r3,by dsimp only;omega⟩
   .dsimp only at hj;rw[aX be,aX be]at hjz;exact hz j z be hjz
   .rw[aQ (by simp;omega)]at RD;injection RD with RD;omega
  .have Uq:i=x.ls.length:=by
    have:¬i<x.ls.length:=by simpa using h
    omega
   subst Uq;rw[bE]at hv;intro I8 w3 r3;refine⟨_,rfl,W.tr r3.cg,out,⟨(I8 0).g,by rw[Rl];rfl,(r3.low 0 _ rfl (r3.nn 0 _ rfl (by intros;simp) ce)).1,r3.arr 0 _ _ rfl,Q9⟩,Rl,hv⟩
def D7{d q:Nat}(ha32:a<4294967296)(ha:ls[i]? =some a)(hd:out[i]? =some d)(N:b<=32)(ht:t=a+4294967296*ls.getD (i+1) 0)(hq:q=t / 2^b % 4294967296)(hv:val (out.take i)+wt i*(val (ls.drop i) / 2^b)=A9):
  val ((out.set i q).take (i+1))+wt (i+1)*(val (ls.drop (i+1)) / 2^b)=A9:=by
 have R:=(aH.1 hd).1;have Y:(out.set i q)[i]? =some q:=by rw[aQ R]
 rw[eF Y,List.take_set_of_le lr,jY,<-hv];have hN:=ja ha;have I:val (ls.drop i) / 2^b=q+4294967296*(val (ls.drop (i+1)) / 2^b):=by
  have e1:val (ls.drop i) / 2^b / 4294967296=val (ls.drop (i+1)) / 2^b:=by
   rw[Nat.div_div_eq_div_mul,bX,<-Nat.div_div_eq_div_mul];congr 1;omega
  have e2:val (ls.drop i) / 2^b % 4294967296=q:=by
   have h3:∃z,val (ls.drop i)=t+2^b*(4294967296*z):=by
    cases Z:ls[i+1]? with
    |some y=>
     have:=ja Z;refine⟨2^(32-b)*val (ls.drop (i+1+1)),?_⟩;have h4:2^b*(4294967296*(2^(32-b)*val (ls.drop (i+1+1))))=18446744073709551616*val (ls.drop (i+1+1)):=by
      rw[Nat.mul_left_comm,<-bo (2^b),<-Nat.pow_add,Nat.add_sub_cancel' N,<-bo]
     rw[h4,hN,this,ht,List.getD,Z];simp only[Option.getD_some]
     omega
    |none=>
     refine⟨0,?_⟩;have h5:ls.length<=i+1:=List.getElem?_eq_none_iff.1 Z;rw[hN,List.drop_of_length_le h5,ht,List.getD,Z];simp[val]
   obtain⟨z,hz⟩:=h3;rw[hz,Nat.add_mul_div_left _ _ (cI b),Nat.add_mul_mod_self_left,hq]
  have:=Nat.div_add_mod (val (ls.drop i) / 2^b) 4294967296;rw[e1,e2]at this;omega
 rw[I,bW,bX 4294967296 (wt i),bo];omega
def MU(G:Old S w)(h:dW w S v ls)(hl:ls.length<=1000000000000)(N:b<32):
  eH PG Fd.rn #[v,.int .u64 b] w (eV w λv' F=>de F (Nf w F) v' (val ls / 2^b)):=by
 obtain⟨x,rfl,rfl⟩:=h.la;refine wK ce ?_
 refine⟨x.ls.length,x.ls.length,rfl,rfl,lr,be,be,Nat×List Nat×World,λz=>⟨[(0,sV x.a x.ls.length x.c),(1,.o (.v (.int .u64 b))),(5,.o (.s 0 0 x.ls.length x.ls.length)),(12,iZ x.ls.length),(13,iZ z.1)],
   [(0,.arr T.uint32 (F8 z.2.1))],1,[],z.2.2⟩,λz=>x.ls.length-z.1,
  λz=>z.1<=x.ls.length/\Bq w z.2.2/\z.2.1.length=x.ls.length/\Lm z.2.1/\val (z.2.1.take z.1)+wt z.1*(val (x.ls.drop z.1) / 2^b)=val x.ls / 2^b,?_,?_⟩
 .intro O J r;rw[sP]at r;exact⟨(0,List.replicate x.ls.length 0,J),⟨ce,r.cg,ce,Lm.replicate _,by simp[val,jm]⟩,sbgn [] r⟩
 .rintro⟨i,out,w1⟩ ⟨R,W,Rl,Q9,hv⟩;dsimp only at R W Rl Q9 hv ⊢;apply bS<;>intro h
  .have h:=dL h;obtain⟨a,QY⟩:=gO x.ls i;obtain⟨ad,QQ,QS⟩:=x.load G W QY;have Re:=x.lm.at QY;obtain⟨d,hd⟩:=gO out i;refine⟨ad,QQ,be,.int .u32 a,QS _ _ _,(a:Int),en be,((i+1:Nat):Int),wo,?_⟩;apply bS<;>intro I
   .have I:i+1<x.ls.length:=by
     have:((i+1:Nat):Int)<x.ls.length:=aK I;omega
    obtain⟨y,hy⟩:=gO x.ls (i+1);obtain⟨ad2,Q4,Se⟩:=x.load G W hy;have hy32:=x.lm.at hy;have Sq:x.ls.getD (i+1) 0=y:=by simp[List.getD,hy]
    have Wy:a ||| y*2^32=a+4294967296*y:=by
     rw[bX];exact EL (k:=32) Re
    refine⟨((i+1:Nat):Int),wo,ad2,Q4,be,.int .u32 y,Se _ _ _,(y:Int),en be,bv,((y*2^32:Nat):Int),EK (k:=32) bv be,((a+4294967296*y:Nat):Int),by rw[MR be be,Wy],be,(((a+4294967296*y) / 2^b:Nat):Int),nG b be,(((a+4294967296*y) / 2^b % 4294967296:Nat):Int),fR _,?_⟩;have Pr:=D7 (t:=a+4294967296*y) Re QY hd be (by rw[Sq]) rfl hv;generalize hq:(a+4294967296*y) / 2^b % 4294967296=q at*
    have hq32:q<4294967296:=by rw[<-hq];exact cL _ bv
    refine⟨be,by rw[gG];omega,F8 (out.set i q),j2 out i _ be ce,((i+1:Nat):Int),wo,?_⟩;intro I8 w3 r3
    exact⟨(i+1,out.set i q,w3),⟨by dsimp only;omega,W.tr r3.cg,by simp[Rl],Q9.set hq32,Pr⟩,
     sbgn [] r3,by dsimp only;omega⟩
   .have I:¬i+1<x.ls.length:=by
     have:¬((i+1:Nat):Int)<x.ls.length:=aL I;omega
    have Sq:x.ls.getD (i+1) 0=0:=by simp[List.getD,List.getElem?_eq_none (show x.ls.length<=i+1 by omega)]
    refine⟨be,((a / 2^b:Nat):Int),nG b be,((a / 2^b % 4294967296:Nat):Int),fR _,?_⟩;have Pr:=D7 (t:=a) Re QY hd be (by rw[Sq];omega) rfl hv;generalize hq:a / 2^b % 4294967296=q at*
    have hq32:q<4294967296:=by rw[<-hq];exact cL _ bv
    refine⟨be,by rw[gG];omega,F8 (out.set i q),j2 out i _ be ce,((i+1:Nat):Int),wo,?_⟩;intro I8 w3 r3
    exact⟨(i+1,out.set i q,w3),⟨by dsimp only;omega,W.tr r3.cg,by simp[Rl],Q9.set hq32,Pr⟩,
     sbgn [] r3,by dsimp only;omega⟩
  .have Uq:i=x.ls.length:=by
    have:¬i<x.ls.length:=by simpa using h
    omega
   subst Uq;have UH:val out=val x.ls / 2^b:=by
    rw[List.drop_length,bU be]at hv;simpa [val]using hv
   refine gJ (GT:=λO _ v F=>dW F (λg=>g=(O 0).g) v (eK out)) (H':=[]) 0 rfl ce trivial rfl (λO J r=>r.nn 0 _ rfl (by intros;simp) ce) (λO J r=>?_) ?_
   .have hL:=r.pC (id:=0) rfl Q9 be;rw[Rl]at hL;exact fS (λg V=>by rw[V];exact(r.low 0 _ rfl (r.nn 0 _ rfl (by intros;simp) ce)).2) hL
   rintro O J v F r L N hL;replace W:=W.tr N;have Pq:=r.low 0 _ rfl (r.nn 0 _ rfl (by intros;simp) ce);generalize (O 0).g=g at*
   have hs:=L.size;intro I8 w3 r3;refine⟨_,rfl,W.tr r3.cg,eK out,?_,(fH out).2.1,?_⟩
   .refine(hL.cW λk K=>?_).cU λk K=>.inr ?_
    .rw[K];exact r3.sO.block g be ce
    .rw[K];have:=r3.size;omega
   .rw[(fH out).1,UH]
def IQ{by_ rest x d:Nat}(Z:ls[k]? =some x)(hd:out[k]? =some d)(ht:t=rest*4294967296+x)
  (hv:val (ls.drop (k+1))=by_*val (out.drop (k+1))+rest):val (ls.drop k)=by_*val ((out.set k (t / by_)).drop k)+t % by_:=by
 have R:=(aH.1 hd).1;have Y:(out.set k (t / by_))[k]? =some (t / by_):=by rw[aQ R]
 rw[ja Y,List.drop_set_of_lt (show k<k+1 by omega),ja Z,hv,bW,bW];have I:=Nat.div_add_mod t by_;rw[Nat.mul_left_comm by_];omega
def MS(h:t<18446744073709551616):IntKind.u64.wrap ((t:Int).tdiv (b:Int))=((t / b:Nat):Int):=by
 have Y:=Nat.div_le_self t b;rw[Int.tdiv_eq_ediv_of_nonneg be,<-Int.natCast_ediv];exact en be
def lh(t b:Nat):(t:Int).tmod (b:Int)=((t % b:Nat):Int):=by
 rw[Int.tmod_eq_emod_of_nonneg be,<-Int.natCast_emod]
def JC(G:Old S w)(h:dW w S v ls)(hl:ls.length<=1000000000000)(N:0<b)(QZ:b<4294967296):
  eH PG Fd.qV #[v,.int .u32 b] w (eV w λv' F=>∃q,v'= .tuple #[q,.int .u32 ((val ls % b:Nat):Int)]/\de F (Nf w F) q (val ls / b)):=by
 obtain⟨x,rfl,rfl⟩:=h.la;refine ua ce ?_
 refine⟨x.ls.length,x.ls.length,rfl,rfl,lr,be,be,(x.ls.length:Int)-1,wo,Nat×Nat×List Nat×World,λz=>⟨[(0,sV x.a x.ls.length x.c),(1,.o (.v (.int .u32 b))),(4,sV none 0 0),(5,.o (.v (.int .u32 0))),(6,.o (.s 0 0 x.ls.length x.ls.length)),(7,.o (.v (.int .u64 z.2.1))),(8,.o (.v (iV ((z.1:Int)-1))))],
   [(0,.arr T.uint32 (F8 z.2.2.1))],1,[],z.2.2.2⟩,λz=>z.1,
  λz=>z.1<=x.ls.length/\Bq w z.2.2.2/\z.2.2.1.length=x.ls.length/\Lm z.2.2.1/\z.2.1<b/\val (x.ls.drop z.1)=b*val (z.2.2.1.drop z.1)+z.2.1,?_,?_⟩
 .intro O J r;rw[sP]at r;exact⟨(x.ls.length,0,List.replicate x.ls.length 0,J),⟨ce,r.cg,ce,Lm.replicate _,by simpa using N,by simp[val]⟩,sbgn [] r⟩
 .rintro⟨k,rest,out,w1⟩ ⟨R,W,Rl,Q9,hr,hv⟩;dsimp only at R W Rl Q9 hr hv ⊢;apply bS<;>intro h
  .have h:(k:Int)-1≥0:=aK h;obtain⟨k,rfl⟩:∃q,k=q+1:=⟨k-1,be⟩
   rw[show ((k+1:Nat):Int)-1=(k:Int) by omega];obtain⟨a,QY⟩:=gO x.ls k;obtain⟨ad,QQ,QS⟩:=x.load G W QY;have Re:=x.lm.at QY;obtain⟨d,hd⟩:=gO out k;refine⟨bv,((rest*2^32:Nat):Int),EK (k:=32) bv be,ad,QQ,be,.int .u32 a,QS _ _ _,(a:Int),en be,?_⟩;have Wy:rest*2^32 ||| a=rest*4294967296+a:=by
    rw[Nat.or_comm,bX,EL (k:=32) Re];omega
   refine⟨((rest*4294967296+a:Nat):Int),by rw[MR be be,Wy],?_⟩;generalize ht:rest*4294967296+a=t;have ht64:t<18446744073709551616:=by omega
   refine dP (idO 14) ?_;refine⟨(b:Int),en be,be,((t / b:Nat):Int),MS ht64,?_⟩;have hq:t / b<4294967296:=by
    rw[Nat.div_lt_iff_lt_mul N];have:=Nat.mul_le_mul_right 4294967296 hr;rw[Nat.succ_eq_add_one,Nat.add_mul]at this;omega
   have hm:t % b<b:=cL _ N;have Pr:=IQ QY hd ht.symm hv;have hw32:IntKind.u32.wrap ((t / b:Nat):Int)=((t / b:Nat):Int):=by rw[fR,bZ hq]
   have hrem:=lh t b;generalize t / b=q at*
   generalize t % b=m at*
   refine⟨(q:Int),hw32,(b:Int),en be,be,(m:Int),hrem,be,by rw[gG];omega,F8 (out.set k q),j2 out k _ be ce,(k:Int)-1,wo,?_⟩;intro I8 w3 r3
   exact⟨(k,m,out.set k q,w3),⟨by dsimp only;omega,W.tr r3.cg,by simp[Rl],Q9.set hq,hm,Pr⟩,
    sbgn [] r3,by dsimp only;omega⟩
  .have Sp:k=0:=by
    have:¬(k:Int)-1≥0:=aL h;omega
   subst Sp;rw[List.drop_zero,List.drop_zero]at hv;have YV:val x.ls / b=val out/\val x.ls % b=rest:=by
    rw[hv];exact⟨by rw[Nat.mul_add_div N,Nat.div_eq_of_lt hr,cM],by rw[Nat.mul_add_mod,bZ hr]⟩
   rw[YV.1,YV.2];refine gJ (GT:=λO _ v F=>dW F (λg=>g=(O 0).g) v (eK out)) (H':=[]) 0 rfl ce trivial rfl (λO J r=>r.nn 0 _ rfl (by intros;simp) ce) (λO J r=>?_) ?_
   .have hL:=r.pC (id:=0) rfl Q9 be;rw[Rl]at hL;exact fS (λg V=>by rw[V];exact(r.low 0 _ rfl (r.nn 0 _ rfl (by intros;simp) ce)).2) hL
   rintro O J v F r L N hL;replace W:=W.tr N;have Pq:=r.low 0 _ rfl (r.nn 0 _ rfl (by intros;simp) ce);generalize (O 0).g=g at*
   have hs:=L.size;refine⟨(rest:Int),by rw[fR,bZ be],?_⟩;intro I8 w3 r3;refine⟨_,rfl,W.tr r3.cg,v,rfl,eK out,?_,(fH out).2.1,(fH out).1⟩;refine(hL.cW λk K=>?_).cU λk K=>.inr ?_
   .rw[K];exact r3.sO.block g be ce
   .rw[K];have:=r3.size;omega
def iD(n:Nat):Nat:=if n=0 then 0 else n.log2+1
def MM{x:Nat}(h:2^k<=x):x.log2=(x / 2^k).log2+k:=by
 have hp:=cI k;have hy:x / 2^k≠0:=by have:=Nat.div_pos h hp;omega
 have Y:=Nat.log2_self_le hy;have I:=@Nat.lt_log2_self (x / 2^k);rw[Nat.log2_eq_iff be];refine⟨?_,?_⟩
 .rw[Nat.pow_add];exact(Nat.le_div_iff_mul_le hp).1 Y
 .rw[show (x / 2^k).log2+k+1=(x / 2^k).log2+1+k by omega,Nat.pow_add];exact(Nat.div_lt_iff_lt_mul hp).1 I
def BD{x:Nat}(h:2^k<=x):iD x=k+iD (x / 2^k):=by
 have hp:=cI k;have hy:x / 2^k≠0:=by have:=Nat.div_pos h hp;omega
 rw[iD,iD,aJ hy,aJ be,MM h];omega
def j1{n:Nat}(h:n<256):IntKind.u8.wrap (n:Int)=(n:Int):=by
 show((n:Int) % 256)=_;omega
def zL{n:Nat}(h:n<256):(UInt8.ofNat (iD n)).toNat=iD n:=by
 have:∀n,n<256->(UInt8.ofNat (iD n)).toNat=iD n:=by decide +kernel
 exact this n h
def qG{x:Nat}(h:x<256):iD x<=8:=by
 have:∀n,n<256->iD n<=8:=by decide +kernel
 exact this x h
def Iu(n:Nat)(h:n<256):(⟨#[0,1,2,2,3,3,3,3,4,4,4,4,4,4,4,4,5,5,5,5,5,5,5,5,5,5,5,5,5,5,5,5,6,6,6,6,6,6,6,6,6,6,6,6,6,6,6,6,6,6,6,6,6,6,6,6,6,6,6,6,6,6,6,6,7,7,7,7,7,7,7,7,7,7,7,7,7,7,7,7,7,7,7,7,7,7,7,7,7,7,7,7,7,7,7,7,7,7,7,7,7,7,7,7,7,7,7,7,7,7,7,7,7,7,7,7,7,7,7,7,7,7,7,7,7,7,7,7,8,8,8,8,8,8,8,8,8,8,8,8,8,8,8,8,8,8,8,8,8,8,8,8,8,8,8,8,8,8,8,8,8,8,8,8,8,8,8,8,8,8,8,8,8,8,8,8,8,8,8,8,8,8,8,8,8,8,8,8,8,8,8,8,8,8,8,8,8,8,8,8,8,8,8,8,8,8,8,8,8,8,8,8,8,8,8,8,8,8,8,8,8,8,8,8,8,8,8,8,8,8,8,8,8,8,8,8,8,8,8,8,8,8,8,8,8,8,8,8,8,8,8,8,8,8,8,8]⟩:ByteArray)[((n:Nat):Int).toNat]? =some (UInt8.ofNat (iD n)):=by
 have:∀n,n<256->(⟨#[0,1,2,2,3,3,3,3,4,4,4,4,4,4,4,4,5,5,5,5,5,5,5,5,5,5,5,5,5,5,5,5,6,6,6,6,6,6,6,6,6,6,6,6,6,6,6,6,6,6,6,6,6,6,6,6,6,6,6,6,6,6,6,6,7,7,7,7,7,7,7,7,7,7,7,7,7,7,7,7,7,7,7,7,7,7,7,7,7,7,7,7,7,7,7,7,7,7,7,7,7,7,7,7,7,7,7,7,7,7,7,7,7,7,7,7,7,7,7,7,7,7,7,7,7,7,7,7,8,8,8,8,8,8,8,8,8,8,8,8,8,8,8,8,8,8,8,8,8,8,8,8,8,8,8,8,8,8,8,8,8,8,8,8,8,8,8,8,8,8,8,8,8,8,8,8,8,8,8,8,8,8,8,8,8,8,8,8,8,8,8,8,8,8,8,8,8,8,8,8,8,8,8,8,8,8,8,8,8,8,8,8,8,8,8,8,8,8,8,8,8,8,8,8,8,8,8,8,8,8,8,8,8,8,8,8,8,8,8,8,8,8,8,8,8,8,8,8,8,8,8,8,8,8,8,8]⟩:ByteArray)[n]? =some (UInt8.ofNat (iD n)):=by decide +kernel
 exact this n h
def Np(x:Nat)(w:World)(Z:x<4294967296):eH PG Fd.Ai #[.int .u32 x] w (eV w λv _=>v=iV (iD x)):=by
 refine CN ce ?_;apply bS<;>intro h
 .have h:65536<=x:=by have:=aK h;omega
  refine⟨bv,((x / 2^16:Nat):Int),qH 16 bv,?_⟩;have N:=BD (k:=16) h;have hy:x / 2^16<65536:=by omega
  rw[N];generalize x / 2^16=y at*
  apply bS<;>intro I
  .have I:256<=y:=by have:=aK I;omega
   refine⟨bv,((y / 2^8:Nat):Int),qH 8 bv,?_⟩;have QZ:=BD (k:=8) I;have hz:y / 2^8<256:=by omega
   rw[QZ];generalize y / 2^8=z at*
   refine⟨24,bv,(z:Int),j1 hz,?_⟩;refine kh (b:=UInt8.ofNat (iD z)) ((hτ _ _ rfl).i3 rfl) rfl rfl be (Iu z hz) (λI9 w1 r1=>?_);rw[zL hz];have ht:=qG hz;refine⟨(iD z:Int),wo,((24+iD z:Nat):Int),wo,?_⟩;intro I8 w3 r3;exact⟨_,rfl,r1.cg.tr r3.cg,by rw[<-Nat.add_assoc];rfl⟩
  .have hy:y<256:=by have:=aL I;omega
   refine⟨(y:Int),j1 hy,?_⟩;refine kh (b:=UInt8.ofNat (iD y)) ((hτ _ _ rfl).i3 rfl) rfl rfl be (Iu y hy) (λI9 w1 r1=>?_);rw[zL hy];have ht:=qG hy;refine⟨(iD y:Int),wo,((16+iD y:Nat):Int),wo,?_⟩;intro I8 w3 r3;exact⟨_,rfl,r1.cg.tr r3.cg,d8⟩
 .have h:x<65536:=by have:=aL h;omega
  apply bS<;>intro I
  .have I:256<=x:=by have:=aK I;omega
   refine⟨bv,((x / 2^8:Nat):Int),qH 8 bv,?_⟩;have QZ:=BD (k:=8) I;have hz:x / 2^8<256:=by omega
   rw[QZ];generalize x / 2^8=z at*
   refine⟨8,bv,(z:Int),j1 hz,?_⟩;refine kh (b:=UInt8.ofNat (iD z)) ((hτ _ _ rfl).i3 rfl) rfl rfl be (Iu z hz) (λI9 w1 r1=>?_);rw[zL hz];have ht:=qG hz;refine⟨(iD z:Int),wo,((8+iD z:Nat):Int),wo,?_⟩;intro I8 w3 r3;exact⟨_,rfl,r1.cg.tr r3.cg,d8⟩
  .have Z:x<256:=by have:=aL I;omega
   refine⟨(x:Int),j1 Z,?_⟩;refine kh (b:=UInt8.ofNat (iD x)) ((hτ _ _ rfl).i3 rfl) rfl rfl be (Iu x Z) (λI9 w1 r1=>?_);rw[zL Z];have ht:=qG Z;refine⟨(iD x:Int),wo,((0+iD x:Nat):Int),wo,?_⟩;intro I8 w3 r3;exact⟨_,rfl,r1.cg.tr r3.cg,by rw[aV];rfl⟩
def zE{x:Nat}:iD x<=k↔x<2^k:=by
 unfold iD;by_cases h:x=0
 .rw[aM h,h];exact⟨λ_=>cI k,λ_=>aZ _⟩
 .rw[aJ h];constructor
  .intro Y;exact(Nat.log2_lt h).1 be
  .intro Y;have:=(Nat.log2_lt h).2 Y;omega
def PV(x:Nat)(w:World)(Z:x<4294967296):eH PG Fd.mJ #[.int .u32 x] w (eV w λv _=>v=iV ((32-iD x:Nat):Int)):=by
 refine qF ce ?_;refine cS (cR (GT:=λ_ _ v _=>v=iV (iD x)) (λO J r=>Np x J Z) ?_);rintro O J v F r L N rfl;have h32:iD x<=32:=zE.2 Z;refine⟨((32-iD x:Nat):Int),wo,?_⟩;intro I8 w3 r3;exact⟨_,rfl,N.tr r3.cg,rfl⟩
end Go.Ex
namespace Go.Sx
open Go Go.Ex Go.Proofs
variable{ls:List Nat}{O:Nat->Sx.eD}
def Rel.MN{H:Hp}{nx:Nat}{iv:Iv}{B:Nat}{w J:World}(r:Rel H nx iv B w O J){id t m:Nat}(h:dT H id=some (.vec t 1 (F8 ls)))(hm:m=ls.length)(Qi:Lm ls)(hle:ls.length<=9223372036854775807):
  dW J (λg=>B<=g/\g<J.heap.size) ((At.w id m).den O) ls:=by
 subst hm;rcases r.vec id t 1 _ h with⟨E,hu⟩|⟨E,spare,N,hc,RE⟩
 .have hl:ls=[]:=by cases ls with
   |nil=>rfl
   |cons a b=>simp[F8]at hu
  subst hl;have:(At.w id ([]:List Nat).length).den O=nls:=by simp[At.den,E]
  rw[this];exact dW.nil _ _
 .refine⟨Qi,hle,some ⟨(O id).g,0,none⟩,(O id).cap,by simp[At.den,E],?_,λj x Z=>⟨_,rfl,r.low id _ h E,?_⟩⟩
  .have Y:(F8 ls++spare).length=ls.length+spare.length:=by rw[aU,gG]
   omega
  .rw[dD,cell_of N,aV,aN (by rw[gG];exact(aH.1 Z).1)];exact tq Z
end Go.Sx
namespace Go.Ex
open Go Go.Sx Go.Proofs
variable{ls:List Nat}{S:Nat->Prop}
def Iw:PG.underlying T.nat=some (.slice T.uint32):=by
 have h:=(hτ T.nat _ rfl).i4 rfl;exact h
def Ix{w:World}{v:Value}(G:Old S w)(h:dW w S v ls)(hl:ls.length<=1000000000000):
  eH PG Fd.gE #[v] w (eV w λv' F=>dW F (Nf w F) v' ls):=by
 obtain⟨x,rfl,rfl⟩:=h.la;refine jT ce ?_;refine⟨x.a.isNone,λO w1 o1 o2=>by simp[eqGuard,SV.den,At.den,o9 (P:=PG) w1 T.nat T.uint32 x.a x.ls.length x.c 0 0 Iw],?_⟩;apply bS<;>intro h
 .intro I8 w3 r3;have E:x.ls=[]:=by
   cases Z:x.ls with
   |nil=>rfl
   |cons u r=>
    obtain⟨ad,Y,_⟩:=x.cell 0 u (by rw[Z];rfl);rw[Y]at h;simp at h
  exact⟨_,rfl,r3.cg,by rw[E];exact dW.nil _ _⟩
 .refine .inl ?_;refine⟨F8 x.ls,by rw[gG,ah],λu hu=>by simp only[F8,bA]at hu;obtain⟨n,_,rfl⟩:=hu;rfl,λO w1 r h0=>?_,?_⟩
  .obtain⟨u,hu⟩:=gO x.ls 0;obtain⟨ad,QQ,_⟩:=x.cell 0 u hu;refine⟨ad,QQ,λj u hu=>?_⟩;simp only[F8,aS,Option.map_eq_some_iff]at hu;obtain⟨n,E,rfl⟩:=hu;obtain⟨ad2,Q4,hs,hc⟩:=x.cell j n E;rw[QQ]at Q4;injection Q4 with Q4;subst Q4;exact gF G Bel.refl r hs hc
  refine⟨rfl,be,mx,?_⟩;intro I8 w3 r3;exact⟨_,rfl,r3.cg,(r3.MN (id:=1) rfl (aV _) x.lm x.le).cU λg V=>.inr V⟩
end Go.Ex
