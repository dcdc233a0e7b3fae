/- Texts L1 to X10: lemmas, each with its conditions. -/
import Derived.KernelRfl
import Derived.Test.YtgkpbdkechfgmaaGreatProg
import Derived.Test.YtgkpbdkechfgmaaGreatP2
namespace Go.Ex
variable{a b ls:List Nat}{k:Nat}
def val:List Nat->Nat
 |[]=>0
 |x::r=>x+4294967296*val r
def Lm(ls:List Nat):Prop:=∀x∈ls,x<4294967296
def wt(k:Nat):Nat:=4294967296^k
theorem iG:wt 0=1:=rfl
theorem g8(k:Nat):wt (k+1)=4294967296*wt k:=by rw[wt,Nat.pow_succ,bO];rfl
theorem zC(a b:Nat):wt (a+b)=wt a*wt b:=by rw[wt,Nat.pow_add];rfl
theorem ua(k:Nat):0<wt k:=Nat.pow_pos (by decide)
theorem ju(a b:List Nat):val (a++b)=val a+wt a.length*val b:=by
 induction a with
 |nil=>simp[val,iG]
 |cons x r ih=>
  rw[List.cons_append,val,val,ih,bL,g8,bS,bb];omega
theorem mB(h:Lm ls):val ls<wt ls.length:=by
 induction ls with
 |nil=>exact Nat.one_pos
 |cons x r ih=>
  have V:=h x (by simp);have I:=ih (fun y hy=>h y (by simp[hy]));rw[val,bL,g8];have:4294967296*(val r+1)<=4294967296*wt r.length:=bZ _ I;omega
theorem dq(ls:List Nat)(k:Nat)(h:k<=ls.length):val ls=val (ls.take k)+wt k*val (ls.drop k):=by
 have:=ju (ls.take k) (ls.drop k);rw[List.take_append_drop,ah,Nat.min_eq_left h]at this;exact this
theorem c9{x:Nat}(h:ls[k]? =some x):val (ls.take (k+1))=val (ls.take k)+wt k*x:=by
 have W:=(aC.1 h).1;rw[List.take_add_one,h,ju,ah,Nat.min_eq_left (by omega)];simp[val]
theorem gv{x:Nat}(h:ls[k]? =some x):val (ls.drop k)=x+4294967296*val (ls.drop (k+1)):=by
 obtain⟨W,F⟩:=aC.1 h;rw[List.drop_eq_getElem_cons W,F,val]
theorem tz{o x:Nat}(h:ls[k]? =some o):val (ls.set k x)+wt k*o=val ls+wt k*x:=by
 obtain⟨W,ho⟩:=aC.1 h;have V:=dq ls k (by omega);have I:=dq (ls.set k x) k (by simp;omega);rw[List.take_set_of_le (aE _)]at I;rw[gv h,bS]at V;have K:(ls.set k x)[k]? =some x:=by rw[aR W]
 rw[gv K,List.drop_set_of_lt (by omega),bS]at I;omega
theorem kv(n:Nat):val (List.replicate n 0)=0:=by
 induction n with
 |zero=>rfl
 |succ n ih=>rw[List.replicate_succ,val,ih]
theorem Lm.set{x:Nat}(h:Lm ls)(F:x<4294967296):Lm (ls.set k x):=fun y hy=>by
 rcases bB hy with V|rfl
 ·exact h y V
 ·exact F
theorem Lm.replicate(n:Nat):Lm (List.replicate n 0):=fun x F=>by rw[List.mem_replicate]at F;omega
theorem Lm.take(h:Lm ls)(k:Nat):Lm (ls.take k):=fun x F=>h x (List.mem_of_mem_take F)
theorem Lm.drop(h:Lm ls)(k:Nat):Lm (ls.drop k):=fun x F=>h x (List.mem_of_mem_drop F)
theorem Lm.append(ha:Lm a)(hb:Lm b):Lm (a++b):=fun x F=>by
 rcases bG.1 F with h|h
 ·exact ha x h
 ·exact hb x h
theorem Lm.at(h:Lm ls){x:Nat}(F:ls[k]? =some x):x<4294967296:=h x (aD F)
def dA:List Nat->List Nat
 |[]=>[]
 |x::r=>match dA r with
  |[]=>if x=0 then []else [x]
  |y::t=>x::y::t
def Nz(ls:List Nat):Prop:=∀x,ls.getLast? =some x->x≠0
theorem j1(ls:List Nat):dA (ls++[0])=dA ls:=by
 induction ls with
 |nil=>rfl
 |cons x r ih=>rw[List.cons_append,dA,ih,dA]
theorem mD(ls:List Nat){x:Nat}(F:x≠0):dA (ls++[x])=ls++[x]:=by
 induction ls with
 |nil=>simp[dA,F]
 |cons y r ih=>
  rw[List.cons_append,dA,ih]
  cases r<;>rfl
theorem pW(ls:List Nat):ls=[]\/∃a x,ls=a++[x]:=by
 rcases List.eq_nil_or_concat ls with h|⟨a,x,h⟩
 ·exact .inl h
 ·exact .inr ⟨a,x,by simpa using h⟩
theorem eA(ls:List Nat):val (dA ls)=val ls/\Nz (dA ls)/\∃k,k<=ls.length/\dA ls=ls.take k:=by
 have key:∀(n:Nat) (ls:List Nat),ls.length=n->val (dA ls)=val ls/\Nz (dA ls)/\∃k,k<=ls.length/\dA ls=ls.take k:=by
  intro n
  induction n with
  |zero=>intro ls h;have:ls=[]:=List.eq_nil_of_length_eq_zero h;subst this;exact⟨rfl,by simp[Nz,dA],0,aE _,rfl⟩
  |succ n ih=>
   intro ls h;rcases pW ls with rfl|⟨a,x,rfl⟩
   ·simp at h
   ·by_cases F:x=0
    ·subst F;rw[j1];obtain⟨V,I,k,K,h4⟩:=ih a (by simp at h;omega);refine⟨by rw[V,ju];simp[val],I,k,by simp;omega,?_⟩;rw[h4,List.take_append_of_le_length K]
    ·rw[mD a F];refine⟨rfl,?_,_,aE _,by rw[bQ]⟩;intro y hy;simp at hy;subst hy;exact F
 exact key _ ls rfl
theorem AW(h:Nz ls):dA ls=ls:=by
 rcases pW ls with rfl|⟨a,x,rfl⟩
 ·rfl
 ·exact mD a (h x (by simp))
theorem pB(h:Nz ls)(Kq:ls≠[]):wt (ls.length-1)<=val ls:=by
 rcases pW ls with rfl|⟨a,x,rfl⟩
 ·exact absurd rfl Kq
 ·have F:=h x (by simp);rw[ju];simp only[val,List.length_append,List.length_singleton,Nat.add_sub_cancel]
  have:wt a.length*1<=wt a.length*(x+4294967296*0):=bZ _ (by omega);omega
theorem val_inj:∀{a b:List Nat},Lm a->Lm b->a.length=b.length->val a=val b->a=b
 |[],[],_,_,_,_=>rfl
 |x::r,y::s,ha,hb,hl,h=>by
  have V:=ha x (by simp);have I:=hb y (by simp);rw[val,val]at h;have K:x=y:=by omega
  have h4:val r=val s:=by omega
  rw[K,val_inj (fun z hz=>ha z (by simp[hz])) (fun z hz=>hb z (by simp[hz])) (by simpa using hl) h4]
 |[],_::_,_,_,h,_=>by simp at h
 |_::_,[],_,_,h,_=>by simp at h
theorem yA{a b:Nat}(h:a<=b):wt a<=wt b:=Nat.pow_le_pow_right (by decide) h
theorem FQ{a b:Nat}(h:a<b):wt a<wt b:=Nat.pow_lt_pow_right (by decide) h
theorem g9(ha:Lm a)(hb:Nz b)(h:a.length<b.length):val a<val b:=by
 have V:=mB ha;have I:=pB hb (by intro e;rw[e]at h;simp at h);have:=yA (show a.length<=b.length-1 by omega);omega
def ln(n:Nat):Nat:=if n=0 then 0 else n.log2 / 32+1
theorem rY(k:Nat):wt k=2^(32*k):=by rw[wt,show(4294967296:Nat)=2^32 from rfl,<-Nat.pow_mul]
theorem fc{n k:Nat}:ln n<=k↔n<wt k:=by
 unfold ln;by_cases h:n=0
 ·rw[if_pos h,h];exact⟨fun _=>ua k,fun _=>aP _⟩
 ·rw[aF h,rY];constructor
  ·intro V;have:n.log2<32*k:=by omega
   exact(Nat.log2_lt h).1 this
  ·intro V;have:=(Nat.log2_lt h).2 V;omega
theorem jv(n:Nat):n<wt (ln n):=fc.1 (aE _)
theorem gM{a b:Nat}(h:a<=b):ln a<=ln b:=fc.2 (Nat.lt_of_le_of_lt h (jv b))
theorem Il(a b:Nat):ln (a+b)<=max (ln a) (ln b)+1:=by
 rw[fc,g8];have V:=Nat.lt_of_lt_of_le (jv a) (yA (Nat.le_max_left (ln a) (ln b)));have I:=Nat.lt_of_lt_of_le (jv b) (yA (Nat.le_max_right (ln a) (ln b)));omega
theorem Im(a b:Nat):ln (a*b)<=ln a+ln b:=by
 rw[fc,zC];exact Nat.mul_lt_mul'' (jv a) (jv b)
theorem HY:ln 0=0:=rfl
theorem dR(h:Lm ls)(hz:Nz ls):ls.length=ln (val ls):=by
 by_cases Kq:ls=[]
 ·subst Kq;rfl
 ·have V:=mB h;have I:=pB hz Kq;have K:=fc.2 V;have h4:¬ln (val ls)<=ls.length-1:=fun hh=>by have:=fc.1 hh;omega
  omega
end Go.Ex
namespace Go.Ex
open Go Go.Sx
variable{f:(Nat->Sx.cd)->Value}{ls:List Nat}{g n:Nat}{p:Nat×Nat}{v:Value}{P:Value->World->Prop}{w1:World}
def Cv(S:Nat->Prop)(B:Nat)(iv:Iv)(g:Nat):Prop:=S g\/(B<=g/\∃lo N,(lo,N)∈iv/\lo<=g/\g<N)
def Nw(S:Nat->Prop)(w Y:World)(g:Nat):Prop:=S g\/(w.heap.size<=g/\g<Y.heap.size)
def Old(S:Nat->Prop)(w:World):Prop:=∀g,S g->g<w.heap.size
section
variable{S S':Nat->Prop}{H:Hp}{nx:Nat}{iv E:Iv}{B:Nat}{w J Y:World}{O:Nat->cd}
theorem Cv.mono(h:Cv S B iv g)(k:∀p,p∈iv->p∈E):Cv S B E g:=by
 rcases h with h|⟨h0,lo,N,V,I⟩
 ·exact .inl h
 ·exact .inr ⟨h0,lo,N,k _ V,I⟩
theorem Cv.cons(h:Cv S B iv g):Cv S B (p::iv) g:=h.mono fun q hq=>by simp[hq]
theorem Rel.old(r:Rel H nx iv B w O J)(X:∀g,S g->g<B):Old (Cv S B iv) J:=by
 intro g h;rcases h with h|⟨_,lo,N,V,_,K⟩
 ·have:=X g h;have:=r.base;have:=r.size;omega
 ·have:=r.oR lo N V;have:=r.size;omega
theorem Rel.same(r:Rel H nx iv B w O J)(X:∀g,S g->g<B)(h:Cv S B iv g):J.heap[g]? =w.heap[g]? :=by
 rcases h with h|⟨_,lo,N,V,I,K⟩
 ·have:=X g h;exact r.rP g (by have:=r.base;omega) fun id b hb A Z=>by have:=(r.low id b hb A).1;omega
 ·exact r.rP g (by have:=r.oR lo N V;omega) fun id b hb A Z=>r.ie lo N V id b hb A ⟨by omega,by omega⟩
theorem Rel.not(r:Rel H nx iv B w O J)(X:∀g,S g->g<B)(h:Cv S B iv g):∀id b,cO H id=some b->(O id).nil=false->(O id).g≠g:=by
 rcases h with h|⟨_,lo,N,V,I,K⟩
 ·have:=X g h;exact fun id b hb A Z=>by have:=(r.low id b hb A).1;omega
 ·exact fun id b hb A Z=>r.ie lo N V id b hb A ⟨by omega,by omega⟩
theorem Nw.cv(h:Nw (Cv S B iv) J w1 g)(hB:B<=J.heap.size):Cv S B ((J.heap.size,w1.heap.size)::iv) g:=by
 rcases h with h|h
 ·exact h.cons
 ·exact .inr ⟨by omega,_,_,aH,h.1,h.2⟩
theorem Cv.nw{w0:World}(h:Cv S w0.heap.size iv g)(r:Rel H nx iv w0.heap.size w O J):Nw S w0 J g:=by
 rcases h with h|⟨h0,lo,N,V,_,K⟩
 ·exact .inl h
 ·exact .inr ⟨h0,by have:=r.oR lo N V;have:=r.size;omega⟩
structure cR(w:World)(S:Nat->Prop)(v:Value)(ls:List Nat):Prop where
 lm:Lm ls
 le:ls.length<=9223372036854775807
 sl:∃a c,v= .slice a ls.length c/\ls.length<=c/\∀(j:Nat) x,ls[j]? =some x->∃ad,a=some ad/\S ad.block/\w.cell? (ad.add j)=some (.int .u32 x)
theorem dP(ad:Addr)(j:Nat):(ad.add j).block=ad.block:=by
 unfold Addr.add;split<;>rfl
theorem cR.br(h:cR w S v ls)(W:∀g,S g->Y.heap[g]? =w.heap[g]?):cR Y S v ls:=by
 obtain⟨a,c,V,OS,I⟩:=h.sl;refine⟨h.lm,h.le,a,c,V,OS,fun j x F=>?_⟩;obtain⟨ad,K,h4,h5⟩:=I j x F;exact⟨ad,K,h4,by rw[cA (W _ (by rw[dP];exact h4))];exact h5⟩
theorem cR.bw(h:cR w S v ls)(W:∀g,S g->S' g):cR w S' v ls:=by
 obtain⟨a,c,V,OS,I⟩:=h.sl;refine⟨h.lm,h.le,a,c,V,OS,fun j x F=>?_⟩;obtain⟨ad,K,h4,h5⟩:=I j x F;exact⟨ad,K,W _ h4,h5⟩
theorem cR.rel(h:cR w (Cv S B iv) v ls)(r:Rel H nx iv B w O J)(X:∀g,S g->g<B):cR J (Cv S B iv) v ls:=h.br fun _g R=>Rel.same r X R
theorem cR.nil(w:World)(S:Nat->Prop):cR w S (.slice none 0 0) []:=⟨by simp[Lm],by simp,none,0,rfl,aE _,by simp⟩
def dC(w:World)(S:Nat->Prop)(v:Value)(n:Nat):Prop:=∃ls,cR w S v ls/\Nz ls/\val ls=n
theorem dC.br(h:dC w S v n)(W:∀g,S g->Y.heap[g]? =w.heap[g]?):dC Y S v n:=by
 obtain⟨ls,V,I,K⟩:=h;exact⟨ls,V.br W,I,K⟩
theorem dC.bw(h:dC w S v n)(W:∀g,S g->S' g):dC w S' v n:=by
 obtain⟨ls,V,I,K⟩:=h;exact⟨ls,V.bw W,I,K⟩
theorem dC.nil(w:World)(S:Nat->Prop):dC w S (.slice none 0 0) 0:=⟨[],cR.nil w S,by simp[Nz],rfl⟩
end
abbrev iZ(z:Int):SV:=.o (.v (.int .i64 z))
abbrev iN(n:Nat):SV:=.o (.v (.int .i64 (n:Int)))
abbrev sV(a:Option Addr)(n c:Nat):SV:=.o (.v (.slice a n c))
abbrev pP(i j:Nat):SV:=.o (.p i j)
theorem rtn{H:Hp}{nx:Nat}{iv:Iv}{w:World}(L:dO w.heap.size w w1)(h:∀O J,Rel H nx iv w.heap.size w1 O J->P (f O) J):∀O J,Rel H nx iv w.heap.size w1 O J->eM w P (.returned (f O)) J:=fun O J r=>⟨_,rfl,L.tr r.cG,h O J r⟩
abbrev FF:Nat->Prop:=fun _=>False
theorem bR(w:World):dO w.heap.size w w:=dO.refl
abbrev Nf(w Y:World):Nat->Prop:=Nw (fun _=>False) w Y
abbrev Cf(w:World):Iv->Nat->Prop:=Cv (fun _=>False) w.heap.size
section
variable{S:Nat->Prop}{H:Hp}{nx:Nat}{iv:Iv}{B i n:Nat}{w w1 J:World}{O:Nat->Sx.cd}{ad:Addr}{G:List Value}{x:Value}
theorem kS(L:dO B w w1)(r:Rel H nx iv B w1 O J)(X:∀g,S g->g<B):∀g,S g->J.heap[g]? =w.heap[g]? :=fun g R=>(L.tr r.cG).block g (X g R)
theorem oS(X:∀g,S g->g<B)(r:Rel H nx iv B w O J):∀g,S g->g<J.heap.size:=fun g R=>by have:=X g R;have:=r.base;have:=r.size;omega
theorem rdO(hl:∀(j:Nat) u,G[j]? =some u->S ad.block/\w.cell? ((ad.add (i*n)).add j)=some u)(L:dO B w w1)(X:∀g,S g->g<B):∀O J,Rel H nx iv B w1 O J->∀(j:Nat) u,G[j]? =some u->J.cell? ((ad.add ((i:Int).toNat*n)).add j)=some u:=fun O J r j u hu=>by
 obtain⟨k1,k2⟩:=hl j u hu;rw[aG,cA (w:=w) (Y:=J) (by rw[dP,dP];exact(L.tr r.cG).block _ (X _ k1))];exact k2
theorem rd1(hl:w.cell? (ad.add (i*n))=some x)(L:dO B w w1)(hb:ad.block<B):∀O J,Rel H nx iv B w1 O J->J.cell? (ad.add ((i:Int).toNat*n))=some x:=fun O J r=>by
 rw[aG,cA (w:=w) (Y:=J) (by rw[dP];exact(L.tr r.cG).block _ hb)];exact hl
end
end Go.Ex
namespace Go.Ex
open Go Go.Sx Go.Proofs
variable{args:Array Value}{Do:Ending->World->Prop}{ls:List Nat}{k n:Nat}{S:Nat->Prop}{O:Nat->Sx.cd}{v:Value}{w:World}
noncomputable abbrev PG:Program:=Tryz.prog
def slT(e:Nat):TI:={size:=1,bytes:=24,zero:=[.slice none 0 0],agg:=false,tag:=4,elem:=e}
def Jm:List (Nat×TI):=[
 (3,{size:=1,bytes:=8,zero:=[.int .i64 0],agg:=false,tag:=1,ik:=.i64}),
 (4,{size:=1,bytes:=1,zero:=[.bool false],agg:=false,tag:=2}),
 (40,slT 48),
 (48,{size:=4,bytes:=64,zero:=[.bool false,.slice none 0 0,.bool false,.slice none 0 0],agg:=true,tag:=5,fields:=[(0,46),(2,46)]}),
 (37,slT 3),
 (32,{size:=1,bytes:=8,zero:=[.int .i64 0],agg:=false,tag:=1,ik:=.i64}),
 (26,{size:=3,bytes:=72,zero:=[.slice none 0 0,.slice none 0 0,.slice none 0 0],agg:=true,tag:=5,fields:=[(0,22),(1,23),(2,24)]}),
 (87,slT 40),
 (46,{size:=2,bytes:=32,zero:=[.bool false,.slice none 0 0],agg:=true,tag:=5,fields:=[(0,4),(1,44)]}),
 (155,slT 292),
 (30,slT 141),
 (209,slT 159),
 (292,{size:=1,bytes:=4,zero:=[.int .u32 0],agg:=false,tag:=1,ik:=.u32}),
 (159,{size:=4,bytes:=64,zero:=[.bool false,.slice none 0 0,.bool false,.slice none 0 0],agg:=true,tag:=5,fields:=[(0,157),(2,157)]}),
 (157,{size:=2,bytes:=32,zero:=[.bool false,.slice none 0 0],agg:=true,tag:=5,fields:=[(0,4),(1,155)]}),
 (206,slT 209),
 (291,{size:=1,bytes:=8,zero:=[.int .u64 0],agg:=false,tag:=1,ik:=.u64}),
 (24,slT 146),
 (168,{size:=2,bytes:=32,zero:=[.slice none 0 0,.int .i64 0],agg:=true,tag:=5,fields:=[(0,87),(1,3)]}),
 (23,slT 144),
 (141,{size:=4,bytes:=32,zero:=[.int .i64 0,.int .i64 0,.int .i64 0,.int .i64 0],agg:=true,tag:=5,fields:=[(0,3),(1,3),(2,3),(3,3)]}),
 (22,slT 195),
 (100,{size:=3,bytes:=56,zero:=[.int .i64 0,.slice none 0 0,.slice none 0 0],agg:=true,tag:=5,fields:=[(0,3),(1,37),(2,37)]}),
 (44,slT 292),
 (144,{size:=6,bytes:=80,zero:=[.int .i64 0,.int .i64 0,.bool false,.slice none 0 0,.bool false,.slice none 0 0],agg:=true,tag:=5,fields:=[(0,3),(1,3),(2,48)]}),
 (195,{size:=3,bytes:=24,zero:=[.int .i64 0,.int .i64 0,.int .i64 0],agg:=true,tag:=5,fields:=[(0,3),(1,3),(2,3)]}),
 (146,{size:=6,bytes:=80,zero:=[.int .i64 0,.int .i64 0,.bool false,.slice none 0 0,.bool false,.slice none 0 0],agg:=true,tag:=5,fields:=[(0,3),(1,3),(2,48)]}),
 (177,slT 37),
 (101,slT 117),
 (27,slT 30),
 (58,{size:=3,bytes:=56,zero:=[.int .i64 0,.slice none 0 0,.slice none 0 0],agg:=true,tag:=5,fields:=[(0,3),(1,40),(2,40)]}),
 (255,{size:=4,bytes:=80,zero:=[.slice none 0 0,.int .i64 0,.slice none 0 0,.slice none 0 0],agg:=true,tag:=5,fields:=[(0,168),(2,37),(3,37)]}),
 (117,{size:=4,bytes:=32,zero:=[.int .i64 0,.int .i64 0,.int .i64 0,.int .i64 0],agg:=true,tag:=5,fields:=[(0,3),(1,3),(2,3),(3,3)]}),
 (31,slT 52),
 (70,slT 193),
 (120,{size:=2,bytes:=16,zero:=[.int .i64 0,.int .i64 0],agg:=true,tag:=5,fields:=[(0,3),(1,3)]}),
 (102,slT 120),
 (191,{size:=8,bytes:=64,zero:=[.int .i64 0,.int .i64 0,.int .i64 0,.int .i64 0,.int .i64 0,.int .i64 0,.int .i64 0,.int .i64 0],agg:=true,tag:=5,fields:=[(0,184),(4,3),(5,3),(6,3),(7,3)]}),
 (225,{size:=5,bytes:=40,zero:=[.int .i64 0,.int .i64 0,.int .i64 0,.int .i64 0,.int .i64 0],agg:=true,tag:=5,fields:=[(0,3),(1,3),(2,3),(3,3),(4,3)]}),
 (229,slT 228),
 (267,{size:=3,bytes:=24,zero:=[.int .i64 0,.int .i64 0,.int .i64 0],agg:=true,tag:=6,yu:=3,elem:=3}),
 (97,{size:=3,bytes:=24,zero:=[.int .i64 0,.int .i64 0,.int .i64 0],agg:=true,tag:=5,fields:=[(0,3),(1,3),(2,3)]}),
 (228,{size:=2,bytes:=16,zero:=[.int .i64 0,.int .i64 0],agg:=true,tag:=5,fields:=[(0,3),(1,3)]}),
 (36,slT 4),
 (129,{size:=4,bytes:=80,zero:=[.int .i64 0,.slice none 0 0,.slice none 0 0,.slice none 0 0],agg:=true,tag:=5,fields:=[(0,3),(1,40),(2,87),(3,40)]}),
 (220,{size:=3,bytes:=40,zero:=[.int .i64 0,.int .i64 0,.slice none 0 0],agg:=true,tag:=5,fields:=[(0,3),(1,3),(2,37)]}),
 (293,{size:=1,bytes:=8,zero:=[.int .u64 0],agg:=false,tag:=1,ik:=.u64}),
 (68,slT 186),
 (69,slT 191),
 (184,{size:=4,bytes:=32,zero:=[.int .i64 0,.int .i64 0,.int .i64 0,.int .i64 0],agg:=true,tag:=6,yu:=4,elem:=3}),
 (193,{size:=2,bytes:=16,zero:=[.int .i64 0,.int .i64 0],agg:=true,tag:=5,fields:=[(0,3),(1,3)]}),
 (186,{size:=5,bytes:=40,zero:=[.int .i64 0,.int .i64 0,.int .i64 0,.int .i64 0,.int .i64 0],agg:=true,tag:=5,fields:=[(0,184),(4,3)]}),
 (249,{size:=3,bytes:=72,zero:=[.slice none 0 0,.slice none 0 0,.slice none 0 0],agg:=true,tag:=5,fields:=[(0,209),(1,209),(2,206)]}),
 (281,{size:=2,bytes:=16,zero:=[.int .i64 0,.int .i64 0],agg:=true,tag:=5,fields:=[(0,3),(1,3)]}),
 (52,{size:=10,bytes:=176,zero:=[.bool false,.slice none 0 0,.bool false,.slice none 0 0,.bool false,.slice none 0 0,.bool false,.slice none 0 0,.slice none 0 0,.slice none 0 0],agg:=true,tag:=5,fields:=[(0,50),(8,37),(9,37)]}),
 (279,{size:=1,bytes:=8,zero:=[.map none],agg:=false,tag:=0}),
 (72,{size:=4,bytes:=80,zero:=[.slice none 0 0,.int .i64 0,.slice none 0 0,.slice none 0 0],agg:=true,tag:=5,fields:=[(0,68),(1,3),(2,69),(3,70)]}),
 (104,{size:=2,bytes:=48,zero:=[.slice none 0 0,.slice none 0 0],agg:=true,tag:=5,fields:=[(0,37),(1,102)]}),
 (108,{size:=3,bytes:=24,zero:=[.int .i64 0,.int .i64 0,.int .i64 0],agg:=true,tag:=5,fields:=[(0,3),(1,3),(2,3)]}),
 (9,{size:=1,bytes:=16,zero:=[.string ⟨#[]⟩],agg:=false,tag:=3}),
 (50,{size:=8,bytes:=128,zero:=[.bool false,.slice none 0 0,.bool false,.slice none 0 0,.bool false,.slice none 0 0,.bool false,.slice none 0 0],agg:=true,tag:=5,fields:=[(0,48),(4,48)]}),
 (149,{size:=1,bytes:=8,zero:=[.pointer none],agg:=false,tag:=7}),
 (308,{size:=1,bytes:=8,zero:=[.nilFunc],agg:=false,tag:=0}),
 (296,{size:=1,bytes:=8,zero:=[.nilFunc],agg:=false,tag:=0}),
 (152,{size:=80,bytes:=640,zero:=[.int .i64 0,.int .i64 0,.int .i64 0,.int .i64 0,.int .i64 0,.int .i64 0,.int .i64 0,.int .i64 0,.int .i64 0,.int .i64 0,.int .i64 0,.int .i64 0,.int .i64 0,.int .i64 0,.int .i64 0,.int .i64 0,.int .i64 0,.int .i64 0,.int .i64 0,.int .i64 0,.int .i64 0,.int .i64 0,.int .i64 0,.int .i64 0,.int .i64 0,.int .i64 0,.int .i64 0,.int .i64 0,.int .i64 0,.int .i64 0,.int .i64 0,.int .i64 0,.int .i64 0,.int .i64 0,.int .i64 0,.int .i64 0,.int .i64 0,.int .i64 0,.int .i64 0,.int .i64 0,.int .i64 0,.int .i64 0,.int .i64 0,.int .i64 0,.int .i64 0,.int .i64 0,.int .i64 0,.int .i64 0,.int .i64 0,.int .i64 0,.int .i64 0,.int .i64 0,.int .i64 0,.int .i64 0,.int .i64 0,.int .i64 0,.int .i64 0,.int .i64 0,.int .i64 0,.int .i64 0,.int .i64 0,.int .i64 0,.int .i64 0,.int .i64 0,.int .i64 0,.int .i64 0,.int .i64 0,.int .i64 0,.int .i64 0,.int .i64 0,.int .i64 0,.int .i64 0,.int .i64 0,.int .i64 0,.int .i64 0,.int .i64 0,.int .i64 0,.int .i64 0,.int .i64 0,.int .i64 0],agg:=true,tag:=6,yu:=20,elem:=141}),
 (239,{size:=1,bytes:=8,zero:=[.nilFunc],agg:=false,tag:=0}),
 (242,{size:=1,bytes:=8,zero:=[.nilFunc],agg:=false,tag:=0}),
 (153,{size:=1,bytes:=8,zero:=[.pointer none],agg:=false,tag:=7}),
 (174,{size:=1,bytes:=8,zero:=[.nilFunc],agg:=false,tag:=0}),
 (213,{size:=1,bytes:=8,zero:=[.nilFunc],agg:=false,tag:=0}),
 (5,{size:=1,bytes:=1,zero:=[.int .u8 0],agg:=false,tag:=1,ik:=.u8}),
 (310,{size:=1,bytes:=8,zero:=[.nilFunc],agg:=false,tag:=0}),
 (315,{size:=1,bytes:=8,zero:=[.nilFunc],agg:=false,tag:=0}),
 (8,{size:=4,bytes:=24,zero:=[.int .i64 0,.int .i64 0,.bool false,.int .u8 0],agg:=true,tag:=5,fields:=[(0,2),(1,3),(2,4),(3,6)]}),
 (10,{size:=1,bytes:=16,zero:=[.string ⟨#[]⟩],agg:=false,tag:=3}),
 (11,{size:=1,bytes:=16,zero:=[.string ⟨#[]⟩],agg:=false,tag:=3}),
 (14,{size:=2,bytes:=24,zero:=[.string ⟨#[]⟩,.int .u64 0],agg:=true,tag:=5,fields:=[(0,9),(1,12)]}),
 (15,{size:=1,bytes:=8,zero:=[.pointer none],agg:=false,tag:=7}),
 (16,{size:=1,bytes:=8,zero:=[.pointer none],agg:=false,tag:=7}),
 (19,{size:=1,bytes:=8,zero:=[.pointer none],agg:=true,tag:=5,fields:=[(0,17)]}),
 (17,{size:=1,bytes:=8,zero:=[.pointer none],agg:=false,tag:=7}),
 (353,{size:=1,bytes:=1,zero:=[.int .u8 0],agg:=false,tag:=1,ik:=.u8}),
 (2,{size:=1,bytes:=8,zero:=[.int .i64 0],agg:=false,tag:=1,ik:=.i64}),
 (6,{size:=1,bytes:=1,zero:=[.int .u8 0],agg:=false,tag:=1,ik:=.u8}),
 (12,{size:=1,bytes:=8,zero:=[.int .u64 0],agg:=false,tag:=1,ik:=.u64})]
def τ:l9:=tp Jm
theorem hτ:ey PG τ:=Ie (l:=Jm) (by kernel_rfl)
theorem eG:PG.follows .mixedOrders=true:=by rfl
noncomputable def bd (f:Func):Code:=match f.body with
 |some c=>c
 |none=>.skip
theorem dB{f:FuncId}{fn:Func}(hf:PG.funcs[f]? =some fn)(hb:fn.body=some (bd fn))(RA:(fn.name== "runtime.NumGoroutine")=false)
  (A:args.size<=fn.ntmps) (Kt:codeOk fn.ntmps (bd fn)=true) (h:kp PG τ w.heap.size (bd fn) (ij 0 args.toList) [] 0 [] w (Ik τ w.heap.size fn.results.toList Do)):eF PG f args w Do:=
 ⟨Dv hf hb RA,AV hτ hf hb A Kt h⟩
abbrev T.int:Nat:=3
abbrev T.bool:Nat:=4
abbrev T.string:Nat:=9
abbrev T.Frame:Nat:=26
abbrev T.Lint:Nat:=37
abbrev T.jC:Nat:=40
abbrev T.Int:Nat:=46
abbrev T.Rat:Nat:=48
abbrev T.Envelope:Nat:=52
abbrev T.vu:Nat:=141
abbrev T.Jy:Nat:=144
abbrev T.zK:Nat:=146
abbrev T.nat:Nat:=155
abbrev T.number:Nat:=157
abbrev T.BB:Nat:=159
abbrev T.dJ:Nat:=168
abbrev T.Node:Nat:=195
abbrev T.row:Nat:=209
abbrev T.solved:Nat:=249
abbrev T.cU:Nat:=255
abbrev T.tU:Nat:=279
abbrev T.zL:Nat:=281
abbrev T.uint32:Nat:=292
abbrev F'.top_TopWorstIsWorst:Nat:=3
abbrev F'.top_bears:Nat:=11
abbrev F'.top_slight:Nat:=12
abbrev F'.pE:Nat:=13
abbrev F'.nZ:Nat:=14
abbrev F'.n9:Nat:=15
abbrev F'.nc:Nat:=16
abbrev F'.sC:Nat:=17
abbrev F'.yR:Nat:=18
abbrev F'.mm:Nat:=23
abbrev F'.sw:Nat:=30
abbrev F'.sx:Nat:=37
abbrev F'.sy:Nat:=49
abbrev F'.tA:Nat:=51
abbrev F'.sD:Nat:=58
abbrev F'.mS:Nat:=61
abbrev F'.top_bracket:Nat:=68
abbrev F'.vv:Nat:=69
abbrev F'.kB:Nat:=70
abbrev F'.pF:Nat:=71
abbrev F'.nd:Nat:=72
abbrev F'.nf:Nat:=73
abbrev F'.sE:Nat:=74
abbrev F'.kC:Nat:=75
abbrev F'.kD:Nat:=76
abbrev F'.kE:Nat:=77
abbrev F'.tB:Nat:=78
abbrev F'.kF:Nat:=79
abbrev F'.mn:Nat:=85
abbrev F'.gu:Nat:=86
abbrev F'.nh:Nat:=87
abbrev F'.fP:Nat:=89
abbrev F'.tC:Nat:=90
abbrev F'.qd:Nat:=91
abbrev F'.tD:Nat:=92
abbrev F'.lQ:Nat:=93
abbrev F'.pG:Nat:=104
abbrev F'.qe:Nat:=108
abbrev F'.qf:Nat:=111
abbrev F'.vz:Nat:=114
abbrev F'.BC:Nat:=115
abbrev F'.wA:Nat:=116
abbrev F'.tE:Nat:=117
abbrev F'.j7:Nat:=118
abbrev F'.j8:Nat:=126
abbrev F'.tF:Nat:=139
abbrev F'.jR:Nat:=152
abbrev F'.wB:Nat:=157
abbrev F'.gX:Nat:=158
abbrev F'.qg:Nat:=159
abbrev F'.ni:Nat:=160
abbrev F'.qh:Nat:=166
abbrev F'.lA:Nat:=168
abbrev F'.tG:Nat:=169
abbrev F'.j9:Nat:=170
abbrev F'.k8:Nat:=171
abbrev F'.wC:Nat:=172
abbrev F'.k9:Nat:=173
abbrev F'.kG:Nat:=174
abbrev F'.lR:Nat:=175
abbrev F'.nk:Nat:=178
abbrev F'.pH:Nat:=179
abbrev F'.sF:Nat:=180
abbrev F'.eU:Nat:=187
abbrev F'.tI:Nat:=188
abbrev F'.tJ:Nat:=191
abbrev F'.pI:Nat:=194
abbrev F'.kH:Nat:=195
abbrev F'.qi:Nat:=196
abbrev F'.lS:Nat:=197
abbrev F'.kc:Nat:=198
abbrev F'.ke:Nat:=199
abbrev F'.kI:Nat:=201
abbrev F'.kf:Nat:=209
abbrev F'.jS:Nat:=210
abbrev F'.mT:Nat:=232
abbrev F'.sG:Nat:=235
abbrev F'.kg:Nat:=236
abbrev F'.mo:Nat:=237
abbrev F'.ef:Nat:=239
abbrev F'.pJ:Nat:=244
abbrev F'.qj:Nat:=245
abbrev F'.qk:Nat:=246
abbrev F'.pK:Nat:=247
abbrev F'.mq:Nat:=248
abbrev F'.ja:Nat:=249
abbrev F'.kh:Nat:=250
abbrev F'.mr:Nat:=251
abbrev F'.nm:Nat:=252
abbrev F'.eo:Nat:=253
abbrev F'.np:Nat:=260
abbrev F'.mu:Nat:=261
abbrev F'.wD:Nat:=262
abbrev F'.ns:Nat:=263
abbrev F'.wE:Nat:=266
abbrev F'.wF:Nat:=267
abbrev Ent(g:Nat)(f:Func):Prop:=∀{args:Array Value} {w:World} {Do:Ending->World->Prop},args.size<=f.ntmps->kp PG τ w.heap.size (bd f) (ij 0 args.toList) [] 0 [] w (Ik τ w.heap.size f.results.toList Do)->eF PG g args w Do
theorem mU:Ent F'.top_TopWorstIsWorst Tryz.f3:=fun A h=>dB Tryz.func3 (by rfl) (by rfl) A (by rfl) h
theorem zM:Ent F'.top_bears Tryz.f11:=fun A h=>dB Tryz.func11 (by rfl) (by rfl) A (by rfl) h
theorem xW:Ent F'.top_slight Tryz.f12:=fun A h=>dB Tryz.func12 (by rfl) (by rfl) A (by rfl) h
theorem sH:Ent F'.pE Tryz.f13:=fun A h=>dB Tryz.func13 (by rfl) (by rfl) A (by rfl) h
theorem ql:Ent F'.nZ Tryz.f14:=fun A h=>dB Tryz.func14 (by rfl) (by rfl) A (by rfl) h
theorem qm:Ent F'.n9 Tryz.f15:=fun A h=>dB Tryz.func15 (by rfl) (by rfl) A (by rfl) h
theorem qn:Ent F'.nc Tryz.f16:=fun A h=>dB Tryz.func16 (by rfl) (by rfl) A (by rfl) h
theorem zN:Ent F'.sC Tryz.f17:=fun A h=>dB Tryz.func17 (by rfl) (by rfl) A (by rfl) h
theorem zO:Ent F'.yR Tryz.f18:=fun A h=>dB Tryz.func18 (by rfl) (by rfl) A (by rfl) h
theorem po:Ent F'.mm Tryz.f23:=fun A h=>dB Tryz.func23 (by rfl) (by rfl) A (by rfl) h
theorem wG:Ent F'.sw Tryz.f30:=fun A h=>dB Tryz.func30 (by rfl) (by rfl) A (by rfl) h
theorem wH:Ent F'.sx Tryz.f37:=fun A h=>dB Tryz.func37 (by rfl) (by rfl) A (by rfl) h
theorem wI:Ent F'.sy Tryz.f49:=fun A h=>dB Tryz.func49 (by rfl) (by rfl) A (by rfl) h
theorem wJ:Ent F'.tA Tryz.f51:=fun A h=>dB Tryz.func51 (by rfl) (by rfl) A (by rfl) h
theorem zP:Ent F'.sD Tryz.f58:=fun A h=>dB Tryz.func58 (by rfl) (by rfl) A (by rfl) h
theorem tV:Ent F'.mS Tryz.f61:=fun A h=>dB Tryz.func61 (by rfl) (by rfl) A (by rfl) h
theorem wK:Ent F'.top_bracket Tryz.f68:=fun A h=>dB Tryz.func68 (by rfl) (by rfl) A (by rfl) h
theorem xX:Ent F'.vv Tryz.f69:=fun A h=>dB Tryz.func69 (by rfl) (by rfl) A (by rfl) h
theorem mx:Ent F'.kB Tryz.f70:=fun A h=>dB Tryz.func70 (by rfl) (by rfl) A (by rfl) h
theorem sI:Ent F'.pF Tryz.f71:=fun A h=>dB Tryz.func71 (by rfl) (by rfl) A (by rfl) h
theorem qo:Ent F'.nd Tryz.f72:=fun A h=>dB Tryz.func72 (by rfl) (by rfl) A (by rfl) h
theorem qp:Ent F'.nf Tryz.f73:=fun A h=>dB Tryz.func73 (by rfl) (by rfl) A (by rfl) h
theorem zQ:Ent F'.sE Tryz.f74:=fun A h=>dB Tryz.func74 (by rfl) (by rfl) A (by rfl) h
theorem ki:Ent F'.kC Tryz.f75:=fun A h=>dB Tryz.func75 (by rfl) (by rfl) A (by rfl) h
theorem my:Ent F'.kD Tryz.f76:=fun A h=>dB Tryz.func76 (by rfl) (by rfl) A (by rfl) h
theorem mz:Ent F'.kE Tryz.f77:=fun A h=>dB Tryz.func77 (by rfl) (by rfl) A (by rfl) h
theorem wL:Ent F'.tB Tryz.f78:=fun A h=>dB Tryz.func78 (by rfl) (by rfl) A (by rfl) h
theorem nA:Ent F'.kF Tryz.f79:=fun A h=>dB Tryz.func79 (by rfl) (by rfl) A (by rfl) h
theorem pq:Ent F'.mn Tryz.f85:=fun A h=>dB Tryz.func85 (by rfl) (by rfl) A (by rfl) h
theorem mV:Ent F'.gu Tryz.f86:=fun A h=>dB Tryz.func86 (by rfl) (by rfl) A (by rfl) h
theorem qq:Ent F'.nh Tryz.f87:=fun A h=>dB Tryz.func87 (by rfl) (by rfl) A (by rfl) h
theorem iT:Ent F'.fP Tryz.f89:=fun A h=>dB Tryz.func89 (by rfl) (by rfl) A (by rfl) h
theorem wM:Ent F'.tC Tryz.f90:=fun A h=>dB Tryz.func90 (by rfl) (by rfl) A (by rfl) h
theorem tW:Ent F'.qd Tryz.f91:=fun A h=>dB Tryz.func91 (by rfl) (by rfl) A (by rfl) h
theorem wN:Ent F'.tD Tryz.f92:=fun A h=>dB Tryz.func92 (by rfl) (by rfl) A (by rfl) h
theorem ov:Ent F'.lQ Tryz.f93:=fun A h=>dB Tryz.func93 (by rfl) (by rfl) A (by rfl) h
theorem sJ:Ent F'.pG Tryz.f104:=fun A h=>dB Tryz.func104 (by rfl) (by rfl) A (by rfl) h
theorem tX:Ent F'.qe Tryz.f108:=fun A h=>dB Tryz.func108 (by rfl) (by rfl) A (by rfl) h
theorem tY:Ent F'.qf Tryz.f111:=fun A h=>dB Tryz.func111 (by rfl) (by rfl) A (by rfl) h
theorem xY:Ent F'.vz Tryz.f114:=fun A h=>dB Tryz.func114 (by rfl) (by rfl) A (by rfl) h
theorem BD:Ent F'.BC Tryz.f115:=fun A h=>dB Tryz.func115 (by rfl) (by rfl) A (by rfl) h
theorem xZ:Ent F'.wA Tryz.f116:=fun A h=>dB Tryz.func116 (by rfl) (by rfl) A (by rfl) h
theorem wO:Ent F'.tE Tryz.f117:=fun A h=>dB Tryz.func117 (by rfl) (by rfl) A (by rfl) h
theorem mW:Ent F'.j7 Tryz.f118:=fun A h=>dB Tryz.func118 (by rfl) (by rfl) A (by rfl) h
theorem mX:Ent F'.j8 Tryz.f126:=fun A h=>dB Tryz.func126 (by rfl) (by rfl) A (by rfl) h
theorem wP:Ent F'.tF Tryz.f139:=fun A h=>dB Tryz.func139 (by rfl) (by rfl) A (by rfl) h
theorem lT:Ent F'.jR Tryz.f152:=fun A h=>dB Tryz.func152 (by rfl) (by rfl) A (by rfl) h
theorem x8:Ent F'.wB Tryz.f157:=fun A h=>dB Tryz.func157 (by rfl) (by rfl) A (by rfl) h
theorem iU:Ent F'.gX Tryz.f158:=fun A h=>dB Tryz.func158 (by rfl) (by rfl) A (by rfl) h
theorem tZ:Ent F'.qg Tryz.f159:=fun A h=>dB Tryz.func159 (by rfl) (by rfl) A (by rfl) h
theorem qt:Ent F'.ni Tryz.f160:=fun A h=>dB Tryz.func160 (by rfl) (by rfl) A (by rfl) h
theorem ta:Ent F'.qh Tryz.f166:=fun A h=>dB Tryz.func166 (by rfl) (by rfl) A (by rfl) h
theorem sK:Ent F'.lA Tryz.f168:=fun A h=>dB Tryz.func168 (by rfl) (by rfl) A (by rfl) h
theorem wQ:Ent F'.tG Tryz.f169:=fun A h=>dB Tryz.func169 (by rfl) (by rfl) A (by rfl) h
theorem mY:Ent F'.j9 Tryz.f170:=fun A h=>dB Tryz.func170 (by rfl) (by rfl) A (by rfl) h
theorem nt:Ent F'.k8 Tryz.f171:=fun A h=>dB Tryz.func171 (by rfl) (by rfl) A (by rfl) h
theorem BE:Ent F'.wC Tryz.f172:=fun A h=>dB Tryz.func172 (by rfl) (by rfl) A (by rfl) h
theorem nu:Ent F'.k9 Tryz.f173:=fun A h=>dB Tryz.func173 (by rfl) (by rfl) A (by rfl) h
theorem nB:Ent F'.kG Tryz.f174:=fun A h=>dB Tryz.func174 (by rfl) (by rfl) A (by rfl) h
theorem ow:Ent F'.lR Tryz.f175:=fun A h=>dB Tryz.func175 (by rfl) (by rfl) A (by rfl) h
theorem qu:Ent F'.nk Tryz.f178:=fun A h=>dB Tryz.func178 (by rfl) (by rfl) A (by rfl) h
theorem sL:Ent F'.pH Tryz.f179:=fun A h=>dB Tryz.func179 (by rfl) (by rfl) A (by rfl) h
theorem zR:Ent F'.sF Tryz.f180:=fun A h=>dB Tryz.func180 (by rfl) (by rfl) A (by rfl) h
theorem fz:Ent F'.eU Tryz.f187:=fun A h=>dB Tryz.func187 (by rfl) (by rfl) A (by rfl) h
theorem wR:Ent F'.tI Tryz.f188:=fun A h=>dB Tryz.func188 (by rfl) (by rfl) A (by rfl) h
theorem wS:Ent F'.tJ Tryz.f191:=fun A h=>dB Tryz.func191 (by rfl) (by rfl) A (by rfl) h
theorem sM:Ent F'.pI Tryz.f194:=fun A h=>dB Tryz.func194 (by rfl) (by rfl) A (by rfl) h
theorem nC:Ent F'.kH Tryz.f195:=fun A h=>dB Tryz.func195 (by rfl) (by rfl) A (by rfl) h
theorem tc:Ent F'.qi Tryz.f196:=fun A h=>dB Tryz.func196 (by rfl) (by rfl) A (by rfl) h
theorem ox:Ent F'.lS Tryz.f197:=fun A h=>dB Tryz.func197 (by rfl) (by rfl) A (by rfl) h
theorem oA:Ent F'.kc Tryz.f198:=fun A h=>dB Tryz.func198 (by rfl) (by rfl) A (by rfl) h
theorem oB:Ent F'.ke Tryz.f199:=fun A h=>dB Tryz.func199 (by rfl) (by rfl) A (by rfl) h
theorem nD:Ent F'.kI Tryz.f201:=fun A h=>dB Tryz.func201 (by rfl) (by rfl) A (by rfl) h
theorem oC:Ent F'.kf Tryz.f209:=fun A h=>dB Tryz.func209 (by rfl) (by rfl) A (by rfl) h
theorem lU:Ent F'.jS Tryz.f210:=fun A h=>dB Tryz.func210 (by rfl) (by rfl) A (by rfl) h
theorem td:Ent F'.mT Tryz.f232:=fun A h=>dB Tryz.func232 (by rfl) (by rfl) A (by rfl) h
theorem zS:Ent F'.sG Tryz.f235:=fun A h=>dB Tryz.func235 (by rfl) (by rfl) A (by rfl) h
theorem oD:Ent F'.kg Tryz.f236:=fun A h=>dB Tryz.func236 (by rfl) (by rfl) A (by rfl) h
theorem pr:Ent F'.mo Tryz.f237:=fun A h=>dB Tryz.func237 (by rfl) (by rfl) A (by rfl) h
theorem gQ:Ent F'.ef Tryz.f239:=fun A h=>dB Tryz.func239 (by rfl) (by rfl) A (by rfl) h
theorem sN:Ent F'.pJ Tryz.f244:=fun A h=>dB Tryz.func244 (by rfl) (by rfl) A (by rfl) h
theorem te:Ent F'.qj Tryz.f245:=fun A h=>dB Tryz.func245 (by rfl) (by rfl) A (by rfl) h
theorem tf:Ent F'.qk Tryz.f246:=fun A h=>dB Tryz.func246 (by rfl) (by rfl) A (by rfl) h
theorem sO:Ent F'.pK Tryz.f247:=fun A h=>dB Tryz.func247 (by rfl) (by rfl) A (by rfl) h
theorem pt:Ent F'.mq Tryz.f248:=fun A h=>dB Tryz.func248 (by rfl) (by rfl) A (by rfl) h
theorem mZ:Ent F'.ja Tryz.f249:=fun A h=>dB Tryz.func249 (by rfl) (by rfl) A (by rfl) h
theorem oE:Ent F'.kh Tryz.f250:=fun A h=>dB Tryz.func250 (by rfl) (by rfl) A (by rfl) h
theorem pw:Ent F'.mr Tryz.f251:=fun A h=>dB Tryz.func251 (by rfl) (by rfl) A (by rfl) h
theorem qv:Ent F'.nm Tryz.f252:=fun A h=>dB Tryz.func252 (by rfl) (by rfl) A (by rfl) h
theorem gY:Ent F'.eo Tryz.f253:=fun A h=>dB Tryz.func253 (by rfl) (by rfl) A (by rfl) h
theorem qw:Ent F'.np Tryz.f260:=fun A h=>dB Tryz.func260 (by rfl) (by rfl) A (by rfl) h
theorem px:Ent F'.mu Tryz.f261:=fun A h=>dB Tryz.func261 (by rfl) (by rfl) A (by rfl) h
theorem x9:Ent F'.wD Tryz.f262:=fun A h=>dB Tryz.func262 (by rfl) (by rfl) A (by rfl) h
theorem qx:Ent F'.ns Tryz.f263:=fun A h=>dB Tryz.func263 (by rfl) (by rfl) A (by rfl) h
theorem xa:Ent F'.wE Tryz.f266:=fun A h=>dB Tryz.func266 (by rfl) (by rfl) A (by rfl) h
theorem xb:Ent F'.wF Tryz.f267:=fun A h=>dB Tryz.func267 (by rfl) (by rfl) A (by rfl) h
theorem lV{H:Hp}{nx:Nat}{iv:Iv}{w1 J:World}(X:Old S w)(L:dO w.heap.size w w1)(r:Rel H nx iv w.heap.size w1 O J){ad:Addr}{j:Nat}{x:Value}(hs:S ad.block)(h:w.cell? (ad.add j)=some x):J.cell? (ad.add j)=some x:=by
 rw[(L.tr r.cG).cell (by rw[dP];exact X _ hs)];exact h
theorem BF(a:Option Addr)(c:Nat):(if (c:Int)=0 then a else a.map fun x=>x.add (Int.toNat 0*1))=a:=by
 split
 ·rfl
 ·cases a<;>rfl
theorem th(h:ls[k]? =some 0):dA (ls.take (k+1))=dA (ls.take k):=by
 rw[List.take_add_one,h];exact j1 _
theorem xc{x:Nat}(h:ls[k]? =some x)(F:x≠0):dA (ls.take (k+1))=ls.take (k+1):=by
 rw[List.take_add_one,h];exact mD _ F
theorem eO(X:Old S w)(h:cR w S v ls):eF PG F'.kc #[v] w (eM w fun v' Y=>cR Y S v' (dA ls)):=by
 obtain⟨a,c,rfl,OS,hc⟩:=h.sl;have hle:=h.le;have Lp:=h.lm;refine oA (by simp) ?_
 refine⟨Nat×World,fun x=>⟨[(0,sV a x.1 c)],[],0,[],x.2⟩,fun x=>x.1,
  fun x=>x.1<=ls.length/\dO w.heap.size w x.2/\dA ls=dA (ls.take x.1),?_,?_⟩
 ·intro O J r;exact⟨(ls.length,J),⟨aE _,r.cG,by simp⟩,Sub.reset r ⟨rfl,trivial⟩ ⟨trivial,trivial⟩⟩
 ·rintro⟨k,w1⟩ ⟨W,L,hF⟩;dsimp only at W L hF ⊢;have Rq:dO w.heap.size w w1->dA ls=ls.take k->∀O Y,Rel [] 0 [] w.heap.size w1 O Y->cR Y S (.slice a k c) (dA ls):=fun L Z O Y r=>by
   rw[Z];refine⟨Lp.take k,by simp;omega,a,c,by simp;omega,by simp;omega,fun j x F=>?_⟩;have Ns:j<k:=by
    have:=(aC.1 F).1;simp at this;omega
   rw[bM Ns]at F;obtain⟨ad,V,I,K⟩:=hc j x F;exact⟨ad,V,I,lV X L r I K⟩
  refine ct.mk ?_ ?_<;>intro h
  ·have h:0<k:=by simpa using h
   obtain⟨k,rfl⟩:∃q,k=q+1:=⟨k-1,by omega⟩
   obtain⟨x,F⟩:∃x,ls[k]? =some x:=⟨_,aA (by omega)⟩
   obtain⟨ad,ha,hs,QK⟩:=hc k x F;refine⟨(k:Int),wo,ad,ha,by omega,.int .u32 x,fun O J r=>by rw[aG,az];exact lV X L r hs QK,?_⟩;refine ct.mk ?_ ?_<;>intro I
   ·have I:x=0:=by have:=eq_of_beq I;omega
    subst I;refine⟨(k:Int),wo,⟨by omega,by omega,by omega⟩,a,k,c,BF a c,by simp,by simp,?_⟩;intro O Y r;exact⟨(k,Y),⟨by dsimp only;omega,L.tr r.cG,hF.trans (th F)⟩,Sub.reset r ⟨rfl,trivial⟩ ⟨trivial,trivial⟩,by dsimp only;omega⟩
   ·have I:x≠0:=by intro e;subst e;simp at I
    intro O Y r;exact⟨_,rfl,L.tr r.cG,Rq L (by rw[hF,xc F I]) O Y r⟩
  ·have h:k=0:=by
    have:¬0<k:=by simpa using h
    omega
   subst h;intro O Y r;exact⟨_,rfl,L.tr r.cG,Rq L (by rw[hF];simp[dA]) O Y r⟩
theorem db(h:n<18446744073709551616):IntKind.u64.wrap (n:Int)=(n:Int):=tt (by omega) (by omega)
theorem eI(n:Nat):IntKind.u32.wrap (n:Int)=((n % 4294967296:Nat):Int):=by
 show((n:Int) % 4294967296)=_;omega
theorem ofInt32(x:Nat):BitVec.ofInt 32 (x:Int)=BitVec.ofNat 32 x:=by
 apply BitVec.eq_of_toNat_eq;simp
theorem oJ{y:Nat}(x:Nat)(hy:y<4294967296):x &&& y<4294967296:=Nat.lt_of_le_of_lt Nat.and_le_right hy
theorem oK{x y:Nat}(F:x<4294967296)(hy:y<4294967296):x ^^^ y<4294967296:=Nat.xor_lt_two_pow (n:=32) F hy
theorem zk{x y:Nat}(F:x<4294967296)(hy:y<4294967296):x ||| y<4294967296:=Nat.or_lt_two_pow (n:=32) F hy
theorem I4{x y:Nat}(F:x<4294967296)(hy:y<4294967296):IntKind.u32.wrap ((BitVec.ofInt IntKind.u32.bits x &&& BitVec.ofInt IntKind.u32.bits y).toNat:Int)=((x &&& y:Nat):Int):=by
 show IntKind.u32.wrap ((BitVec.ofInt 32 x &&& BitVec.ofInt 32 y).toNat:Int)=_;rw[ofInt32,ofInt32,BitVec.toNat_and,BitVec.toNat_ofNat,BitVec.toNat_ofNat,bE F,bE hy,eI,bE (oJ x hy)]
theorem Jq{x y:Nat}(F:x<4294967296)(hy:y<4294967296):IntKind.u32.wrap ((BitVec.ofInt IntKind.u32.bits x ||| BitVec.ofInt IntKind.u32.bits y).toNat:Int)=((x ||| y:Nat):Int):=by
 show IntKind.u32.wrap ((BitVec.ofInt 32 x ||| BitVec.ofInt 32 y).toNat:Int)=_;rw[ofInt32,ofInt32,BitVec.toNat_or,BitVec.toNat_ofNat,BitVec.toNat_ofNat,bE F,bE hy,eI,bE (zk F hy)]
theorem I5{x y:Nat}(F:x<4294967296)(hy:y<4294967296):IntKind.u32.wrap ((BitVec.ofInt IntKind.u32.bits x ^^^ BitVec.ofInt IntKind.u32.bits y).toNat:Int)=((x ^^^ y:Nat):Int):=by
 show IntKind.u32.wrap ((BitVec.ofInt 32 x ^^^ BitVec.ofInt 32 y).toNat:Int)=_;rw[ofInt32,ofInt32,BitVec.toNat_xor,BitVec.toNat_ofNat,BitVec.toNat_ofNat,bE F,bE hy,eI,bE (oK F hy)]
theorem I6{x:Nat}(F:x<4294967296):IntKind.u32.wrap ((BitVec.ofInt IntKind.u32.bits (if IntKind.u32.signed=true then -1 else IntKind.u32.max) ^^^ BitVec.ofInt IntKind.u32.bits x).toNat:Int)=((4294967295 ^^^ x:Nat):Int):=
 I5 (x:=4294967295) (by decide) F
theorem kN{x:Nat}(k:Nat)(W:k<=63):(x:Int).fdiv (2^min (Int.toNat (k:Int)) IntKind.u64.bits)=((x / 2^k:Nat):Int):=by
 have V:min (Int.toNat (k:Int)) IntKind.u64.bits=k:=by show min (Int.toNat (k:Int)) 64=k;omega
 rw[V,Int.fdiv_eq_ediv_of_nonneg _ (by exact Int.le_of_lt (Int.pow_pos (by decide)))];simp
theorem m9{x:Nat}(k:Nat)(W:k<=31):(x:Int).fdiv (2^min (Int.toNat (k:Int)) IntKind.u32.bits)=((x / 2^k:Nat):Int):=by
 have V:min (Int.toNat (k:Int)) IntKind.u32.bits=k:=by show min (Int.toNat (k:Int)) 32=k;omega
 rw[V,Int.fdiv_eq_ediv_of_nonneg _ (by exact Int.le_of_lt (Int.pow_pos (by decide)))];simp
theorem IA{z:Nat}(h:z<4294967296):z.testBit 31=decide (2147483648<=z):=by
 rw[Nat.testBit_eq_decide_div_mod_eq];apply decide_eq_decide.2;show z / 2147483648 % 2=1↔_;omega
theorem borrow{x y c d:Nat}(F:x<4294967296)(hy:y<4294967296)(hc:c<=1)(hd:(x+4294967296-(y+c)) % 4294967296=d):
  (((4294967295 ^^^ x) &&& y) ||| ((4294967295 ^^^ (x ^^^ y)) &&& d)) / 2^31=if x<y+c then 1 else 0:=by
 have LZ:d<4294967296:=by omega
 have hz:=zk (oJ (4294967295 ^^^ x) hy) (oJ (4294967295 ^^^ (x ^^^ y)) LZ);have ht:=IA hz;have hm:Nat.testBit 4294967295 31=true:=by decide
 rw[Nat.testBit_or,Nat.testBit_and,Nat.testBit_and,Nat.testBit_xor,Nat.testBit_xor,Nat.testBit_xor,hm,IA F,IA hy,IA LZ]at ht;generalize (((4294967295 ^^^ x) &&& y) ||| ((4294967295 ^^^ (x ^^^ y)) &&& d))=z at hz ht;show z / 2147483648=_;by_cases V:2147483648<=x<;>by_cases I:2147483648<=y<;>by_cases K:2147483648<=d<;>simp[V,I,K]at ht<;>split<;>omega
theorem Di(x y c:Nat)(w:World)(F:x<4294967296)(hy:y<4294967296)(hc:c<4294967296):
  eF PG F'.wE #[.int .u32 x,.int .u32 y,.int .u32 c] w (eM w fun v _=>v= .tuple #[.int .u32 ((x+y+c) % 4294967296:Nat),.int .u32 ((x+y+c) / 4294967296:Nat)]):=by
 refine xa (by simp) ?_;refine⟨(x:Int),db (by omega),(y:Int),db (by omega),((x+y:Nat):Int),by rw[tt]<;>omega,(c:Int),db (by omega),((x+y+c:Nat):Int),by rw[tt]<;>omega,(((x+y+c) % 4294967296:Nat):Int),eI _,by decide,(((x+y+c) / 4294967296:Nat):Int),?_,?_⟩
 ·exact kN 32 (by decide)
 refine⟨(((x+y+c) / 4294967296:Nat):Int),by rw[eI];omega,?_⟩;intro O w3 r;exact⟨_,rfl,r.cG,rfl⟩
theorem Dj(x y c:Nat)(w:World)(F:x<4294967296)(hy:y<4294967296)(hc:c<=1):
  eF PG F'.wF #[.int .u32 x,.int .u32 y,.int .u32 c] w (eM w fun v _=>v= .tuple #[.int .u32 ((x+4294967296-(y+c)) % 4294967296:Nat),.int .u32 ((if x<y+c then 1 else 0:Nat):Int)]):=by
 refine xb (by simp) ?_;refine⟨((x+4294967296-y) % 4294967296:Nat),?_,?_⟩
 ·show((x:Int)-y) % 4294967296=_;omega
 refine⟨((x+4294967296-(y+c)) % 4294967296:Nat),?_,?_⟩
 ·show((((x+4294967296-y) % 4294967296:Nat):Int)-c) % 4294967296=_;omega
 have h6:(x+4294967296-(y+c)) % 4294967296<4294967296:=bl _ (by decide);generalize hd:(x+4294967296-(y+c)) % 4294967296=d at h6;refine⟨((4294967295 ^^^ x:Nat):Int),I6 F,(((4294967295 ^^^ x) &&& y:Nat):Int),I4 (oK (by decide) F) hy,((x ^^^ y:Nat):Int),I5 F hy,((4294967295 ^^^ (x ^^^ y):Nat):Int),I6 (oK F hy),(((4294967295 ^^^ (x ^^^ y)) &&& d:Nat):Int),I4 (oK (by decide) (oK F hy)) h6,((((4294967295 ^^^ x) &&& y) ||| ((4294967295 ^^^ (x ^^^ y)) &&& d):Nat):Int),Jq (oJ _ hy) (oJ _ h6),by decide,((if x<y+c then 1 else 0:Nat):Int),?_,?_⟩
 ·rw[<-borrow F hy hc hd];exact m9 31 (by decide)
 intro O w3 r;exact⟨_,rfl,r.cG,rfl⟩
def py(n m:Nat):Int:=if n<m then -1 else if m<n then 1 else 0
theorem I8{a b:List Nat}{i x y:Nat}(ha:Lm a)(hl:a.length=b.length)(F:a[i]? =some x)(hy:b[i]? =some y)(h:a.drop (i+1)=b.drop (i+1))(LG:x<y):val a<val b:=by
 have N:=(aC.1 F).1;have V:=dq a i (by omega);have I:=dq b i (by omega);rw[gv F]at V;rw[gv hy,<-h]at I;have K:=mB (ha.take i);rw[ah,Nat.min_eq_left (by omega)]at K;generalize val (a.drop (i+1))=q at V I;have h4:wt i*(x+4294967296*q+1)<=wt i*(y+4294967296*q):=bZ _ (by omega);rw[bS,az]at h4;omega
theorem GP{u:Value}{m:Nat}(X:Old S w)(A:dC w S v n)(hm:dC w S u m):eF PG F'.pK #[v,u] w (eM w fun v' _=>v'= .int .i64 (py n m)):=by
 obtain⟨ls,V,nz1,rfl⟩:=A;obtain⟨ms,I,nz2,rfl⟩:=hm;obtain⟨a,c,rfl,_,ha⟩:=V.sl;obtain⟨b,e,rfl,_,hb⟩:=I.sl;have hle1:=V.le;have hle2:=I.le;have lm1:=V.lm;have lm2:=I.lm;refine sO (by simp) ?_;refine ct.mk ?_ ?_<;>intro h
 ·have h:ls.length≠ms.length:=by intro e;rw[e]at h;simp at h
  refine ct.mk ?_ ?_<;>intro K
  ·have K:ls.length<ms.length:=by simpa using K
   intro O Y r;exact⟨_,rfl,r.cG,by rw[py,if_pos (g9 lm1 nz2 K)];rfl⟩
  ·have K:ms.length<ls.length:=by
    have:¬ls.length<ms.length:=by simpa using K
    omega
   have h4:=g9 lm2 nz1 K;intro O Y r;exact⟨_,rfl,r.cG,by rw[py,aF (by omega),if_pos h4];rfl⟩
 ·have h:ls.length=ms.length:=by
   have:(ls.length:Int)=ms.length:=by simpa using h
   omega
  refine⟨(ls.length:Int)-1,wo,Nat×World,fun x=>⟨[(0,sV a ls.length c),(1,sV b ms.length e),(5,.o (.v (.int .i64 ((x.1:Int)-1))))],[],0,[],x.2⟩,fun x=>x.1,
   fun x=>x.1<=ls.length/\dO w.heap.size w x.2/\ls.drop x.1=ms.drop x.1,?_,?_⟩
  ·intro O J r;exact⟨(ls.length,J),⟨aE _,r.cG,by rw[List.drop_length,h,List.drop_length]⟩,Sub.reset r ⟨rfl,rfl,rfl,trivial⟩ ⟨trivial,trivial,trivial,trivial⟩⟩
  ·rintro⟨k,w1⟩ ⟨W,L,hd⟩;dsimp only at W L hd ⊢;refine ct.mk ?_ ?_<;>intro K
   ·have K:(k:Int)-1≥0:=aL K;obtain⟨k,rfl⟩:∃q,k=q+1:=⟨k-1,by omega⟩
    rw[show ((k+1:Nat):Int)-1=(k:Int) by omega];obtain⟨x,F⟩:∃x,ls[k]? =some x:=⟨_,aA (by omega)⟩
    obtain⟨y,hy⟩:∃x,ms[k]? =some x:=⟨_,aA (by omega)⟩
    obtain⟨ad,LH,hs,hc1⟩:=ha k x F;obtain⟨ad2,Lx,Li,Qo⟩:=hb k y hy;have Lw:∀O J,Rel [] 0 [] w.heap.size w1 O J->J.cell? (ad.add ((k:Int).toNat*1))=some (.int .u32 x):=fun O J r=>by
     rw[aG,az];exact lV X L r hs hc1
    have NQ:∀O J,Rel [] 0 [] w.heap.size w1 O J->J.cell? (ad2.add ((k:Int).toNat*1))=some (.int .u32 y):=fun O J r=>by
     rw[aG,az];exact lV X L r Li Qo
    refine cC hτ eG [.x 0,.x 1,.x 2,.x 3,.x 4,.x 5,.x 6,.x 7,.x 8,.x 9] (by kernel_rfl) (by kernel_rfl) ?_;refine⟨ad,LH,by omega,_,Lw,ad2,Lx,by omega,_,NQ,?_⟩;refine ct.mk ?_ ?_<;>intro h4
    ·have h4:x<y:=by simpa using h4
     intro O Y r;exact⟨_,rfl,L.tr r.cG,by rw[py,if_pos (I8 lm1 h F hy hd h4)];rfl⟩
    ·have h4:¬x<y:=by simpa using h4
     refine cC hτ eG [.x 0,.x 1,.x 2,.x 3,.x 4,.x 5,.x 6,.x 7,.x 8,.x 9] (by kernel_rfl) (by kernel_rfl) ?_;refine⟨ad,LH,by omega,_,Lw,ad2,Lx,by omega,_,NQ,?_⟩;refine ct.mk ?_ ?_<;>intro h5
     ·have h5:y<x:=by simpa using h5
      have h6:=I8 lm2 h.symm hy F hd.symm h5;intro O Y r;exact⟨_,rfl,L.tr r.cG,by rw[py,aF (by omega),if_pos h6];rfl⟩
     ·have h5:¬y<x:=by simpa using h5
      have hxy:x=y:=by omega
      subst hxy;refine⟨(k:Int)-1,wo,?_⟩;intro O Y r;have LZ:ls.drop k=ms.drop k:=by
       obtain⟨q1,e1⟩:=aC.1 F;obtain⟨q2,e2⟩:=aC.1 hy;rw[List.drop_eq_getElem_cons q1,List.drop_eq_getElem_cons q2,e1,e2,hd]
      exact⟨(k,Y),⟨by dsimp only;omega,L.tr r.cG,LZ⟩,Sub.reset r ⟨rfl,rfl,rfl,trivial⟩ ⟨trivial,trivial,trivial,trivial⟩,by simp⟩
   ·have Qz:k=0:=by
     have:¬(k:Int)-1≥0:=aI K;omega
    subst Qz;have Z:ls=ms:=by simpa using hd
    intro O Y r;exact⟨_,rfl,L.tr r.cG,by rw[Z,py,aF (by omega),aF (by omega)];rfl⟩
end Go.Ex
namespace Go.Sx
open Go Go.Ex Go.Proofs
variable{O:Nat->Sx.cd}
theorem Rel.oF{nx:Nat}{iv:Iv}{B:Nat}{w J:World}(r:Rel [] nx iv B w O J):w.grownBy J none:=
 ⟨r.os,r.tape,r.output,r.size,fun k W _=>r.rP k W (fun id b h=>by cases h)⟩
end Go.Sx
namespace Go.Ex
open Go Go.Sx Go.Proofs
variable{l ls:List Nat}{S:Nat->Prop}{v:Value}{w:World}
structure LA(S:Nat->Prop)(w:World) where
 a:Option Addr
 c:Nat
 ls:List Nat
 lm:Lm ls
 le:ls.length<=9223372036854775807
 cap:ls.length<=c
 cell:∀(j:Nat) x,ls[j]? =some x->∃ad,a=some ad/\S ad.block/\w.cell? (ad.add j)=some (.int .u32 x)
theorem cR.la(h:cR w S v ls):∃p:LA S w,v= .slice p.a p.ls.length p.c/\p.ls=ls:=by
 obtain⟨a,c,V,I,K⟩:=h.sl;exact⟨⟨a,c,ls,h.lm,h.le,I,K⟩,V,rfl⟩
theorem dC.la{n:Nat}(h:dC w S v n):∃p:LA S w,v= .slice p.a p.ls.length p.c/\val p.ls=n/\Nz p.ls:=by
 obtain⟨ls,V,I,K⟩:=h;obtain⟨p,h4,h5⟩:=V.la;exact⟨p,h4,by rw[h5];exact K,by rw[h5];exact I⟩
theorem LA.load{w1:World}(p:LA S w)(X:Old S w)(L:dO w.heap.size w w1){k x:Nat}(F:p.ls[k]? =some x):
  ∃ad,p.a=some ad/\∀(H:Hp) (nx:Nat) (iv:Iv) (O:Nat->Sx.cd) J,Rel H nx iv w.heap.size w1 O J->J.cell? (ad.add ((k:Int).toNat*1))=some (.int .u32 x):=by
 obtain⟨ad,V,I,K⟩:=p.cell k x F;refine⟨ad,V,fun H nx iv O J r=>?_⟩;rw[aG,az];exact lV X L r I K
def EQ(l:List Nat):List Value:=l.map fun(x:Nat)=>.int .u32 (x:Int)
theorem fK(l:List Nat):(EQ l).length=l.length:=by simp[EQ]
theorem qy{k x:Nat}(h:l[k]? =some x):(EQ l)[k]? =some (.int .u32 x):=by simp[EQ,h]
theorem Jt(l:List Nat)(k x:Nat)(h:k<l.length):(EQ l).take k++[.int .u32 x]++(EQ l).drop (k+1)=EQ (l.set k x):=by
 have V:k<(EQ l).length:=by rw[fK];exact h
 have:(EQ l).set k (.int .u32 x)=EQ (l.set k x):=by simp[EQ,List.map_set]
 rw[<-this,List.set_eq_take_append_cons_drop,if_pos V];simp
theorem gh(l:List Nat)(k x:Nat)(h:k<l.length){e:Nat}(Z:e=k):(EQ l).take e++[.int .u32 (x:Int)]++(EQ l).drop (e+1)=EQ (l.set k x):=by
 subst Z;exact Jt l e x h
theorem pz(n:Nat):List.replicate n (Value.int .u32 0)=EQ (List.replicate n 0):=by simp[EQ]
end Go.Ex
namespace Go.Sx
open Go Go.Ex Go.Proofs
variable{ls:List Nat}{O:Nat->Sx.cd}
theorem Rel.lW{H:Hp}{nx:Nat}{iv:Iv}{B:Nat}{w J:World}(r:Rel H nx iv B w O J){id t:Nat}(h:cO H id=some (.arr t (EQ ls)))(Lp:Lm ls)(hle:ls.length<=9223372036854775807):
  cR J (fun g=>g=(O id).g) (.slice (some ⟨(O id).g,0,none⟩) ls.length ls.length) ls:=by
 refine⟨Lp,hle,_,_,rfl,aE _,fun j x F=>⟨_,rfl,rfl,?_⟩⟩;have h0:(⟨(O id).g,0,none⟩:Addr).add j=⟨(O id).g,j,none⟩:=by
  cases j with
  |zero=>rfl
  |succ j=>simp[Addr.add]
 rw[h0,cell_of (r.arr id t _ h)];exact qy F
end Go.Sx
namespace Go.Ex
open Go Go.Sx Go.Proofs
variable{S:Nat->Prop}
theorem yl{out ls ms:List Nat}{i x o d:Nat}(F:ls[i]? =some x)(ho:ms.getD i 0=o)(hd:out[i]? =some d){carry:Nat}(h:val (out.take i)+wt i*carry=val (ls.take i)+val (ms.take i)):
  val ((out.set i ((x+o+carry) % 4294967296)).take (i+1))+wt (i+1)*((x+o+carry) / 4294967296)=val (ls.take (i+1))+val (ms.take (i+1)):=by
 have N:=(aC.1 hd).1;have V:(out.set i ((x+o+carry) % 4294967296))[i]? =some ((x+o+carry) % 4294967296):=by rw[aR N]
 rw[c9 V,List.take_set_of_le (aE _),c9 F,g8];have I:val (ms.take (i+1))=val (ms.take i)+wt i*o:=by
  cases hm:ms[i]? with
  |some y=>
   have:y=o:=by rw[<-ho];simp[List.getD,hm]
   rw[c9 hm,this]
  |none=>
   have:o=0:=by rw[<-ho];simp[List.getD,hm]
   rw[this,List.take_add_one,hm];simp
 rw[I];have K:=Nat.div_add_mod (x+o+carry) 4294967296;generalize (x+o+carry) / 4294967296=q at K ⊢;generalize (x+o+carry) % 4294967296=r at K ⊢;have h4:wt i*(4294967296*q+r)=wt i*(x+o+carry):=by rw[K]
 rw[bS,bS,bS,<-bb,bO (wt i) 4294967296]at h4;omega
theorem JO{w:World}{v u:Value}{n m:Nat}(X:Old S w)(A:dC w S v n)(hm:dC w S u m)(QO:ln n<=1000000000000)(Lp:ln m<=1000000000000):
  eF PG F'.np #[v,u] w (eM w fun v' Y=>dC Y (Nf w Y) v' (n+m)):=by
 obtain⟨p,rfl,Mf,Mg⟩:=A.la;obtain⟨q,rfl,NH,Qj⟩:=hm.la;have MC:=dR p.lm Mg;have QP:=dR q.lm Qj;rw[Mf]at MC;rw[NH]at QP;have hsum:n+m=val p.ls+val q.ls:=by rw[Mf,NH]
 rw[hsum];refine qw (by simp) ?_;refine ct.mk ?_ ?_<;>intro h
 case' refine_1=>
  have h:p.ls.length<q.ls.length:=by simpa using h
  have hpx:p.ls.length<=q.ls.length:=by omega
  have hx12:q.ls.length<=1000000000000:=by omega
  rw[Nat.add_comm];generalize Rv:q=x at*
  generalize hgy:p=y at*
 case' refine_2=>
  have h:¬p.ls.length<q.ls.length:=by simpa using h
  have hpx:q.ls.length<=p.ls.length:=by omega
  have hx12:p.ls.length<=1000000000000:=by omega
  generalize Rv:p=x at*
  generalize hgy:q=y at*
 all_goals
  refine⟨((x.ls.length+1:Nat):Int),wo,x.ls.length+1,x.ls.length+1,rfl,rfl,aE _,by omega,by omega,Nat×List Nat×Nat×World,fun z=>⟨[(0,sV x.a x.ls.length x.c),(1,sV y.a y.ls.length y.c),(5,.o (.s 0 0 (x.ls.length+1) (x.ls.length+1))),(6,.o (.v (.int .u32 z.2.2.1))),(21,iZ x.ls.length),(22,iZ z.1)],
    [(0,.arr T.uint32 (EQ z.2.1))],1,[],z.2.2.2⟩,fun z=>x.ls.length-z.1,
   fun z=>z.1<=x.ls.length/\dO w.heap.size w z.2.2.2/\z.2.1.length=x.ls.length+1/\Lm z.2.1/\z.2.2.1<2/\val (z.2.1.take z.1)+wt z.1*z.2.2.1=val (x.ls.take z.1)+val (y.ls.take z.1),?_,?_⟩
  ·intro O J r;rw[pz]at r;exact⟨(0,List.replicate (x.ls.length+1) 0,0,J),⟨by simp,r.cG,by simp,Lm.replicate _,by simp,by simp[val]⟩,Sub.gn [] r⟩
  ·rintro⟨i,out,carry,w1⟩ ⟨N,L,MN,LM,hc,hv⟩;dsimp only at N L MN LM hc hv ⊢;refine ct.mk ?_ ?_<;>intro h
   ·have h:i<x.ls.length:=by simpa using h
    obtain⟨xi,MO⟩:∃k,x.ls[i]? =some k:=⟨_,aA h⟩
    obtain⟨d,hd⟩:∃k,out[i]? =some k:=⟨_,aA (by omega)⟩
    obtain⟨ad,LH,LO⟩:=x.load X L MO;have MR:=x.lm.at MO;refine ct.mk ?_ ?_<;>intro I
    ·have I:i<y.ls.length:=by simpa using I
     obtain⟨o,ho⟩:∃k,y.ls[i]? =some k:=⟨_,aA I⟩
     obtain⟨ad2,Lx,Ml⟩:=y.load X L ho;have RZ:=y.lm.at ho;have PM:y.ls.getD i 0=o:=by simp[List.getD,ho]
     refine⟨ad2,Lx,by omega,.int .u32 o,Ml _ _ _,ad,LH,by omega,.int .u32 xi,LO _ _ _,?_⟩;refine bp (bz (Id:=fun _ _ v _=>v= .tuple #[.int .u32 ((xi+o+carry) % 4294967296:Nat),.int .u32 ((xi+o+carry) / 4294967296:Nat)]) (fun O J r=>Di xi o carry J MR RZ (by omega)) ?_);rintro O J v Y r Z hb rfl;replace L:=L.tr hb;have Lk:=yl MO PM hd hv;have Qo:(xi+o+carry) / 4294967296<2:=by omega
     refine⟨by omega,by rw[fK];omega,EQ (out.set i ((xi+o+carry) % 4294967296)),gh out i _ (by omega) (by simp),((i+1:Nat):Int),wo,?_⟩;intro In w3 D
     exact⟨(i+1,out.set i ((xi+o+carry) % 4294967296),(xi+o+carry) / 4294967296,w3),⟨by dsimp only;omega,L.tr D.cG,by simp[MN],LM.set (bl _ (by decide)),Qo,Lk⟩,
      Sub.gn [] D,by dsimp only;omega⟩
    ·have I:¬i<y.ls.length:=by simpa using I
     have PM:y.ls.getD i 0=0:=by simp[List.getD,List.getElem?_eq_none (show y.ls.length<=i by omega)]
     refine⟨ad,LH,by omega,.int .u32 xi,LO _ _ _,?_⟩;refine bp (bz (Id:=fun _ _ v _=>v= .tuple #[.int .u32 ((xi+0+carry) % 4294967296:Nat),.int .u32 ((xi+0+carry) / 4294967296:Nat)]) (fun O J r=>Di xi 0 carry J MR (by decide) (by omega)) ?_);rintro O J v Y r Z hb rfl;replace L:=L.tr hb;have Lk:=yl MO PM hd hv;have Qo:(xi+0+carry) / 4294967296<2:=by omega
     refine⟨by omega,by rw[fK];omega,EQ (out.set i ((xi+0+carry) % 4294967296)),gh out i _ (by omega) (by simp),((i+1:Nat):Int),wo,?_⟩;intro In w3 D
     exact⟨(i+1,out.set i ((xi+0+carry) % 4294967296),(xi+0+carry) / 4294967296,w3),⟨by dsimp only;omega,L.tr D.cG,by simp[MN],LM.set (bl _ (by decide)),Qo,Lk⟩,
      Sub.gn [] D,by dsimp only;omega⟩
   ·have MX:i=x.ls.length:=by
     have:¬i<x.ls.length:=by simpa using h
     omega
    subst MX;obtain⟨d,hd⟩:∃k,out[x.ls.length]? =some k:=⟨_,aA (by omega)⟩
    have Od:val (out.set x.ls.length carry)=val x.ls+val y.ls:=by
     have V:(out.set x.ls.length carry)[x.ls.length]? =some carry:=by rw[aR (by omega)]
     have I:=c9 V;rw[List.take_of_length_le (by simp;omega),List.take_set_of_le (aE _)]at I;rw[bQ,List.take_of_length_le hpx]at hv;omega
    have hlm2:Lm (out.set x.ls.length carry):=LM.set (by omega);refine⟨by omega,by rw[fK];omega,EQ (out.set x.ls.length carry),gh out x.ls.length carry (by omega) (by simp),?_⟩;generalize hgo:out.set x.ls.length carry=fin at Od hlm2;have LN:fin.length=x.ls.length+1:=by rw[<-hgo];simp[MN]
    refine fU (Id:=fun O _ v Y=>cR Y (fun g=>g=(O 0).g) v (dA fin)) (H':=[]) 0 rfl (by simp) trivial rfl (fun O J r=>r.nn 0 _ rfl (by intros;simp) (by simp)) (fun O J r=>?_) ?_
    ·have hL:=r.lW (id:=0) rfl hlm2 (by omega);rw[LN]at hL;exact eO (fun g R=>by rw[R];exact(r.low 0 _ rfl (r.nn 0 _ rfl (by intros;simp) (by simp))).2) hL
    rintro O J v Y r Z hb hL;replace L:=L.tr hb;have LR:=r.low 0 _ rfl (r.nn 0 _ rfl (by intros;simp) (by simp));generalize (O 0).g=g at*
    have hs:=Z.size;intro In w3 D;refine⟨_,rfl,L.tr D.cG,dA fin,?_,(eA fin).2.1,?_⟩
    ·refine(hL.br fun k W=>?_).bw fun k W=>.inr ?_
     ·rw[W];exact D.oF.block g (by omega) (by simp)
     ·rw[W];have:=D.size;omega
    ·rw[(eA fin).1,Od]
end Go.Ex
namespace Go.Ex
open Go Go.Sx Go.Proofs
variable{ls ms out:List Nat}{A9 a b i k n o t:Nat}{S:Nat->Prop}{v:Value}{w:World}
theorem Ep(ho:ms.getD i 0=o):val (ms.take (i+1))=val (ms.take i)+wt i*o:=by
 cases hm:ms[i]? with
 |some y=>
  have:y=o:=by rw[<-ho];simp[List.getD,hm]
  rw[c9 hm,this]
 |none=>
  have:o=0:=by rw[<-ho];simp[List.getD,hm]
  rw[this,List.take_add_one,hm];simp
theorem xJ{x d e:Nat}(F:ls[i]? =some x)(ho:ms.getD i 0=o)(hd:out[i]? =some d){b':Nat}(h:val (out.take i)+val (ms.take i)=val (ls.take i)+wt i*b)(Z:e+(o+b)=x+4294967296*b'):
  val ((out.set i e).take (i+1))+val (ms.take (i+1))=val (ls.take (i+1))+wt (i+1)*b':=by
 have N:=(aC.1 hd).1;have V:(out.set i e)[i]? =some e:=by rw[aR N]
 rw[c9 V,List.take_set_of_le (aE _),c9 F,Ep ho,g8];have h4:wt i*(e+(o+b))=wt i*(x+4294967296*b'):=by rw[Z]
 rw[bS,bS,bS,<-bb,bO (wt i) 4294967296]at h4;omega
theorem zV{u:Value}{m:Nat}(X:Old S w)(A:dC w S v n)(hm:dC w S u m)(hle:m<=n)(QO:ln n<=1000000000000):
  eF PG F'.mu #[v,u] w (eM w fun v' Y=>dC Y (Nf w Y) v' (n-m)):=by
 obtain⟨x,rfl,Mf,Mg⟩:=A.la;obtain⟨y,rfl,NH,Qj⟩:=hm.la;have MC:=dR x.lm Mg;rw[Mf]at MC;have hyx:y.ls.length<=x.ls.length:=by
  rw[dR x.lm Mg,dR y.lm Qj,Mf,NH];exact gM hle
 refine px (by simp) ?_
 refine⟨x.ls.length,x.ls.length,rfl,rfl,aE _,by omega,by omega,Nat×List Nat×Nat×World,fun z=>⟨[(0,sV x.a x.ls.length x.c),(1,sV y.a y.ls.length y.c),(5,.o (.s 0 0 x.ls.length x.ls.length)),(6,.o (.v (.int .u32 z.2.2.1))),(13,iZ x.ls.length),(14,iZ z.1)],
   [(0,.arr T.uint32 (EQ z.2.1))],1,[],z.2.2.2⟩,fun z=>x.ls.length-z.1,
  fun z=>z.1<=x.ls.length/\dO w.heap.size w z.2.2.2/\z.2.1.length=x.ls.length/\Lm z.2.1/\z.2.2.1<2/\val (z.2.1.take z.1)+val (y.ls.take z.1)=val (x.ls.take z.1)+wt z.1*z.2.2.1,?_,?_⟩
 ·intro O J r;rw[pz]at r;exact⟨(0,List.replicate x.ls.length 0,0,J),⟨by simp,r.cG,by simp,Lm.replicate _,by simp,by simp[val]⟩,Sub.gn [] r⟩
 ·rintro⟨i,out,b,w1⟩ ⟨N,L,MN,LM,hc,hv⟩;dsimp only at N L MN LM hc hv ⊢;refine ct.mk ?_ ?_<;>intro h
  ·have h:i<x.ls.length:=by simpa using h
   obtain⟨xi,MO⟩:∃k,x.ls[i]? =some k:=⟨_,aA h⟩
   obtain⟨d,hd⟩:∃k,out[i]? =some k:=⟨_,aA (by omega)⟩
   obtain⟨ad,LH,LO⟩:=x.load X L MO;have MR:=x.lm.at MO;refine ct.mk ?_ ?_<;>intro I
   ·have I:i<y.ls.length:=by simpa using I
    obtain⟨o,ho⟩:∃k,y.ls[i]? =some k:=⟨_,aA I⟩
    obtain⟨ad2,Lx,Ml⟩:=y.load X L ho;have RZ:=y.lm.at ho;have PM:y.ls.getD i 0=o:=by simp[List.getD,ho]
    refine⟨ad2,Lx,by omega,.int .u32 o,Ml _ _ _,ad,LH,by omega,.int .u32 xi,LO _ _ _,?_⟩;refine bp (bz (Id:=fun _ _ v _=>v= .tuple #[.int .u32 ((xi+4294967296-(o+b)) % 4294967296:Nat),.int .u32 ((if xi<o+b then 1 else 0:Nat):Int)]) (fun O J r=>Dj xi o b J MR RZ (by omega)) ?_);rintro O J v Y r Z hb rfl;replace L:=L.tr hb;have MG:(xi+4294967296-(o+b)) % 4294967296+(o+b)=xi+4294967296*(if xi<o+b then 1 else 0):=by split<;>omega
    have LG:(xi+4294967296-(o+b)) % 4294967296<4294967296:=bl _ (by decide);have Mn:(if xi<o+b then 1 else 0:Nat)<2:=by split<;>omega
    generalize (xi+4294967296-(o+b)) % 4294967296=e at MG LG;generalize (if xi<o+b then 1 else 0:Nat)=b' at MG Mn;have Lk:=xJ MO PM hd hv MG;refine⟨by omega,by rw[fK];omega,EQ (out.set i e),gh out i _ (by omega) (by simp),((i+1:Nat):Int),wo,?_⟩;intro In w3 D
    exact⟨(i+1,out.set i e,b',w3),⟨by dsimp only;omega,L.tr D.cG,by simp[MN],LM.set LG,Mn,Lk⟩,
     Sub.gn [] D,by dsimp only;omega⟩
   ·have I:¬i<y.ls.length:=by simpa using I
    have PM:y.ls.getD i 0=0:=by simp[List.getD,List.getElem?_eq_none (show y.ls.length<=i by omega)]
    refine⟨ad,LH,by omega,.int .u32 xi,LO _ _ _,?_⟩;refine bp (bz (Id:=fun _ _ v _=>v= .tuple #[.int .u32 ((xi+4294967296-(0+b)) % 4294967296:Nat),.int .u32 ((if xi<0+b then 1 else 0:Nat):Int)]) (fun O J r=>Dj xi 0 b J MR (by decide) (by omega)) ?_);rintro O J v Y r Z hb rfl;replace L:=L.tr hb;have MG:(xi+4294967296-(0+b)) % 4294967296+(0+b)=xi+4294967296*(if xi<0+b then 1 else 0):=by split<;>omega
    have LG:(xi+4294967296-(0+b)) % 4294967296<4294967296:=bl _ (by decide);have Mn:(if xi<0+b then 1 else 0:Nat)<2:=by split<;>omega
    generalize (xi+4294967296-(0+b)) % 4294967296=e at MG LG;generalize (if xi<0+b then 1 else 0:Nat)=b' at MG Mn;have Lk:=xJ MO PM hd hv MG;refine⟨by omega,by rw[fK];omega,EQ (out.set i e),gh out i _ (by omega) (by simp),((i+1:Nat):Int),wo,?_⟩;intro In w3 D
    exact⟨(i+1,out.set i e,b',w3),⟨by dsimp only;omega,L.tr D.cG,by simp[MN],LM.set LG,Mn,Lk⟩,
     Sub.gn [] D,by dsimp only;omega⟩
  ·have MX:i=x.ls.length:=by
    have:¬i<x.ls.length:=by simpa using h
    omega
   subst MX;have Od:val out=n-m:=by
    rw[List.take_of_length_le (by omega),List.take_of_length_le hyx,bQ,Mf,NH]at hv;have V:=mB LM;rw[MN]at V;have:b=0\/b=1:=by omega
    rcases this with rfl|rfl
    ·omega
    ·omega
   refine fU (Id:=fun O _ v Y=>cR Y (fun g=>g=(O 0).g) v (dA out)) (H':=[]) 0 rfl (by simp) trivial rfl (fun O J r=>r.nn 0 _ rfl (by intros;simp) (by simp)) (fun O J r=>?_) ?_
   ·have hL:=r.lW (id:=0) rfl LM (by omega);rw[MN]at hL;exact eO (fun g R=>by rw[R];exact(r.low 0 _ rfl (r.nn 0 _ rfl (by intros;simp) (by simp))).2) hL
   rintro O J v Y r Z hb hL;replace L:=L.tr hb;have LR:=r.low 0 _ rfl (r.nn 0 _ rfl (by intros;simp) (by simp));generalize (O 0).g=g at*
   have hs:=Z.size;intro In w3 D;refine⟨_,rfl,L.tr D.cG,dA out,?_,(eA out).2.1,?_⟩
   ·refine(hL.br fun k W=>?_).bw fun k W=>.inr ?_
    ·rw[W];exact D.oF.block g (by omega) (by simp)
    ·rw[W];have:=D.size;omega
   ·rw[(eA out).1,Od]
theorem Cy{p c:Nat}(ho:out[p]? =some o)(h:val out+wt p*c=A9)(ht:t=a+o+c):
  val (out.set p (t % 4294967296))+wt (p+1)*(t / 4294967296)=A9+wt p*a:=by
 have V:=tz (x:=t % 4294967296) ho;rw[g8];have K:=Nat.div_add_mod t 4294967296;generalize t / 4294967296=q at K ⊢;generalize t % 4294967296=r at K V ⊢;have h4:wt p*(4294967296*q+r)=wt p*(a+o+c):=by rw[K,ht]
 rw[bS,bS,bS,<-bb,bO (wt p) 4294967296]at h4;omega
def Zf(out:List Nat)(p:Nat):Prop:=∀(j:Nat) z,p<=j->out[j]? =some z->z=0
theorem Zf.set{p x:Nat}(h:Zf out p)(W:k<p):Zf (out.set k x) p:=fun j z hj hz=>by
 rw[aY (by omega)]at hz;exact h j z hj hz
theorem HN(ha:a<4294967296)(hb:b<4294967296):a*b<=18446744065119617025:=by
 have:a*b<=4294967295*4294967295:=Nat.mul_le_mul (by omega) (by omega);omega
theorem Db{u:Value}{m:Nat}(X:Old S w)(A:dC w S v n)(hm:dC w S u m)(QO:ln n<=1000000000000)(Lp:ln m<=1000000000000):
  eF PG F'.mo #[v,u] w (eM w fun v' Y=>dC Y (Nf w Y) v' (n*m)):=by
 obtain⟨x,rfl,Mf,Mg⟩:=A.la;obtain⟨y,rfl,NH,Qj⟩:=hm.la;have MC:=dR x.lm Mg;rw[Mf]at MC;have QP:=dR y.lm Qj;rw[NH]at QP;refine pr (by simp) ?_;obtain⟨C9,hL⟩:∃C9,C9=x.ls.length+y.ls.length:=⟨_,rfl⟩
 refine⟨(C9:Int),wo,C9,C9,rfl,rfl,aE _,by omega,by omega,Nat×List Nat×World,fun z=>⟨[(1,sV y.a y.ls.length y.c),(5,.o (.s 0 0 C9 C9)),(18,sV x.a x.ls.length x.c),(19,iZ x.ls.length),(20,iZ z.1)],
   [(0,.arr T.uint32 (EQ z.2.1))],1,[],z.2.2⟩,fun z=>x.ls.length-z.1,
  fun z=>z.1<=x.ls.length/\dO w.heap.size w z.2.2/\z.2.1.length=C9/\Lm z.2.1/\val z.2.1=val (x.ls.take z.1)*m/\Zf z.2.1 (z.1+y.ls.length),?_,?_⟩
 ·intro O J r;rw[pz]at r;exact⟨(0,List.replicate C9 0,J),⟨by simp,r.cG,by simp,Lm.replicate _,by simp[val,kv],fun j z _ hz=>by simp only[List.getElem?_replicate]at hz;split at hz<;>simp_all⟩,Sub.gn [] r⟩
 ·rintro⟨i,out,w1⟩ ⟨N,L,MN,LM,hv,hz⟩;dsimp only at N L MN LM hv hz ⊢;refine ct.mk ?_ ?_<;>intro h
  ·have h:i<x.ls.length:=by simpa using h
   obtain⟨xi,MO⟩:∃k,x.ls[i]? =some k:=⟨_,aA h⟩
   obtain⟨ad,LH,LO⟩:=x.load X L MO;have MR:=x.lm.at MO
   refine⟨ad,LH,by omega,.int .u32 xi,LO _ _ _,Nat×List Nat×Nat×World,fun z=>⟨[(1,sV y.a y.ls.length y.c),(5,.o (.s 0 0 C9 C9)),(18,sV x.a x.ls.length x.c),(19,iZ x.ls.length),(20,iZ i),
     (6,iZ i),(7,.o (.v (.int .u32 xi))),(8,.o (.v (.int .u64 z.2.2.1))),(25,sV y.a y.ls.length y.c),(26,iZ y.ls.length),(27,iZ z.1)],
     [(0,.arr T.uint32 (EQ z.2.1))],1,[],z.2.2.2⟩,fun z=>y.ls.length-z.1,
    fun z=>z.1<=y.ls.length/\dO w.heap.size w z.2.2.2/\z.2.1.length=C9/\Lm z.2.1/\z.2.2.1<4294967296/\val z.2.1+wt (i+z.1)*z.2.2.1=val (x.ls.take i)*m+wt i*xi*val (y.ls.take z.1)/\Zf z.2.1 (i+y.ls.length),?_,?_⟩
   ·intro O J r;exact⟨(0,out,0,J),⟨by simp,L.tr r.cG,MN,LM,by simp,by simp[val,hv],hz⟩,Sub.gn [] r⟩
   ·rintro⟨k,out,c,w1⟩ ⟨W,L,MN,LM,hc,hv,hz⟩;dsimp only at W L MN LM hc hv hz ⊢;refine ct.mk ?_ ?_<;>intro I
    ·have I:k<y.ls.length:=by simpa using I
     obtain⟨yk,hyk⟩:∃q,y.ls[k]? =some q:=⟨_,aA I⟩
     obtain⟨ad2,Lx,Ml⟩:=y.load X L hyk;have hy32:=y.lm.at hyk;obtain⟨o,ho⟩:∃q,out[i+k]? =some q:=⟨_,aA (by omega)⟩
     have RZ:=LM.at ho;have hm64:=HN MR hy32;refine⟨ad2,Lx,by omega,.int .u32 yk,Ml _ _ _,(xi:Int),db (by omega),(yk:Int),db (by omega),((xi*yk:Nat):Int),by rw[<-Int.natCast_mul];exact db (by omega),((i+k:Nat):Int),wo,by omega,.int .u32 o,by rw[aG,aU,az];exact qy ho,(o:Int),db (by omega),((xi*yk+o:Nat):Int),by rw[<-Int.natCast_add];exact db (by omega),?_⟩;obtain⟨t,ht⟩:∃t,t=xi*yk+o+c:=⟨_,rfl⟩
     refine⟨(t:Int),by rw[<-Int.natCast_add,<-ht];exact db (by omega),((i+k:Nat):Int),wo,((t % 4294967296:Nat):Int),eI _,by decide,((t / 4294967296:Nat):Int),kN 32 (by decide),by omega,by rw[fK];omega,EQ (out.set (i+k) (t % 4294967296)),gh out (i+k) _ (by omega) (by simp only[aG];omega),((k+1:Nat):Int),wo,?_⟩;intro In w3 D
     refine⟨(k+1,out.set (i+k) (t % 4294967296),t / 4294967296,w3),⟨by dsimp only;omega,L.tr D.cG,by simp[MN],LM.set (bl _ (by decide)),by dsimp only;omega,?_,hz.set (by omega)⟩,
      Sub.gn [] D,by dsimp only;omega⟩
     have h5:=Cy (a:=xi*yk) ho hv ht;dsimp only
     rw[show i+(k+1)=i+k+1 by omega,h5,c9 hyk,zC,bS,Nat.add_assoc];congr 2;simp only[bb,Nat.mul_left_comm,bO]
    ·have hkn:k=y.ls.length:=by
      have:¬k<y.ls.length:=by simpa using I
      omega
     subst hkn;obtain⟨o,ho⟩:∃q,out[i+y.ls.length]? =some q:=⟨_,aA (by omega)⟩
     have ho0:=hz _ _ (aE _) ho;subst ho0;refine⟨((i+y.ls.length:Nat):Int),wo,(c:Int),by rw[eI,bE hc],by omega,by rw[fK];omega,EQ (out.set (i+y.ls.length) c),gh out (i+y.ls.length) _ (by omega) (by simp only[aG];omega),((i+1:Nat):Int),wo,?_⟩;intro In w3 D
     refine⟨(i+1,out.set (i+y.ls.length) c,w3),⟨by dsimp only;omega,L.tr D.cG,by simp[MN],LM.set hc,?_,?_⟩,
      Sub.gn [] D,by dsimp only;omega⟩
     ·have h5:=tz (x:=c) ho;dsimp only
      rw[bQ,NH]at hv;rw[c9 MO,Nat.add_mul];omega
     ·intro j z hj hjz;dsimp only at hj;rw[aY (by omega)]at hjz;exact hz j z (by omega) hjz
  ·have MX:i=x.ls.length:=by
    have:¬i<x.ls.length:=by simpa using h
    omega
   subst MX;have Od:val out=n*m:=by rw[hv,bQ,Mf]
   refine fU (Id:=fun O _ v Y=>cR Y (fun g=>g=(O 0).g) v (dA out)) (H':=[]) 0 rfl (by simp) trivial rfl (fun O J r=>r.nn 0 _ rfl (by intros;simp) (by simp)) (fun O J r=>?_) ?_
   ·have hL:=r.lW (id:=0) rfl LM (by omega);rw[MN]at hL;exact eO (fun g R=>by rw[R];exact(r.low 0 _ rfl (r.nn 0 _ rfl (by intros;simp) (by simp))).2) hL
   rintro O J v Y r Z hb hL;replace L:=L.tr hb;have LR:=r.low 0 _ rfl (r.nn 0 _ rfl (by intros;simp) (by simp));generalize (O 0).g=g at*
   have hs:=Z.size;intro In w3 D;refine⟨_,rfl,L.tr D.cG,dA out,?_,(eA out).2.1,?_⟩
   ·refine(hL.br fun k W=>?_).bw fun k W=>.inr ?_
    ·rw[W];exact D.oF.block g (by omega) (by simp)
    ·rw[W];have:=D.size;omega
   ·rw[(eA out).1,Od]
theorem zX{q:Nat}(ho:o<2^k):o ||| 2^k*q=o+2^k*q:=by
 rw[Nat.or_comm,<-Nat.two_pow_add_eq_or_of_lt ho,Nat.add_comm]
theorem GR{x y:Nat}(F:x<18446744073709551616)(hy:y<18446744073709551616):IntKind.u64.wrap ((BitVec.ofInt IntKind.u64.bits x ||| BitVec.ofInt IntKind.u64.bits y).toNat:Int)=((x ||| y:Nat):Int):=by
 have e:∀z:Nat,BitVec.ofInt 64 (z:Int)=BitVec.ofNat 64 z:=fun z=>by
  apply BitVec.eq_of_toNat_eq;simp
 show IntKind.u64.wrap ((BitVec.ofInt 64 x ||| BitVec.ofInt 64 y).toNat:Int)=_;rw[e,e,BitVec.toNat_or,BitVec.toNat_ofNat,BitVec.toNat_ofNat,bE F,bE hy];exact db (Nat.or_lt_two_pow (n:=64) F hy)
theorem zW(W:k<=63)(h:a*2^k<18446744073709551616):IntKind.u64.wrap ((a:Int)*2^min ((k:Int)).toNat IntKind.u64.bits)=((a*2^k:Nat):Int):=by
 have V:min ((k:Int)).toNat IntKind.u64.bits=k:=by show min ((k:Int)).toNat 64=k;omega
 rw[V,show(a:Int)*2^k=((a*2^k:Nat):Int) by simp];exact db h
theorem Cz(ha:ls[i]? =some a)(ho:out[i]? =some o)(hz:out[i+1]? =some 0)(hv:val out=val (ls.take i)*2^b):
  val ((out.set i (o+a*2^b % 4294967296)).set (i+1) (a*2^b / 4294967296))=val (ls.take (i+1))*2^b:=by
 have V:=tz (x:=o+a*2^b % 4294967296) ho;have I:(out.set i (o+a*2^b % 4294967296))[i+1]? =some 0:=by rw[aY (by omega)];exact hz
 have K:=tz (x:=a*2^b / 4294967296) I;rw[c9 ha,Nat.add_mul,bb];rw[g8]at K;generalize a*2^b=t at*
 have h4:=Nat.div_add_mod t 4294967296;generalize t / 4294967296=q at*
 generalize t % 4294967296=r at*
 have h5:wt i*(o+r)=wt i*o+wt i*r:=bS _ _ _;have h6:4294967296*wt i*q=wt i*(4294967296*q):=by rw[bO 4294967296 (wt i),bb]
 rw[<-h4,bS];omega
def GU(w Y:World)(v:Value)(ls:List Nat):Prop:=∃g,v= .slice (some ⟨g,0,none⟩) ls.length ls.length/\w.heap.size<=g/\Y.heap[g]? =some (.cells (EQ ls).toArray T.uint32 (0,0))/\Lm ls
theorem yS(X:Old S w)(h:cR w S v ls)(hl:ls.length<=1000000000000)(hb:b<32):
  eF PG F'.kh #[v,.int .u64 b] w (eM w fun v' Y=>∃out,GU w Y v' out/\out.length=ls.length+1/\val out=val ls*2^b):=by
 obtain⟨x,rfl,rfl⟩:=h.la;refine oE (by simp) ?_;have hp32:2^b<=2^31:=Nat.pow_le_pow_right (by decide) (by omega)
 refine⟨((x.ls.length+1:Nat):Int),wo,x.ls.length+1,x.ls.length+1,rfl,rfl,aE _,by omega,by omega,Nat×List Nat×World,fun z=>⟨[(1,.o (.v (.int .u64 b))),(5,.o (.s 0 0 (x.ls.length+1) (x.ls.length+1))),(13,sV x.a x.ls.length x.c),(14,iZ x.ls.length),(15,iZ z.1)],
   [(0,.arr T.uint32 (EQ z.2.1))],1,[],z.2.2⟩,fun z=>x.ls.length-z.1,
  fun z=>z.1<=x.ls.length/\dO w.heap.size w z.2.2/\z.2.1.length=x.ls.length+1/\Lm z.2.1/\val z.2.1=val (x.ls.take z.1)*2^b/\Zf z.2.1 (z.1+1)/\(∀o,z.2.1[z.1]? =some o->o<2^b),?_,?_⟩
 ·intro O J r;rw[pz]at r;refine⟨(0,List.replicate (x.ls.length+1) 0,J),⟨by simp,r.cG,by simp,Lm.replicate _,by simp[val,kv],fun j z _ hz=>?_,fun o ho=>?_⟩,Sub.gn [] r⟩
  ·simp only[List.getElem?_replicate]at hz;split at hz<;>simp_all
  ·simp only[List.getElem?_replicate]at ho;split at ho
   ·injection ho with ho;subst ho;exact bh _
   ·cases ho
 ·rintro⟨i,out,w1⟩ ⟨N,L,MN,LM,hv,hz,LR⟩;dsimp only at N L MN LM hv hz LR ⊢;refine ct.mk ?_ ?_<;>intro h
  ·have h:i<x.ls.length:=by simpa using h
   obtain⟨a,MO⟩:∃k,x.ls[i]? =some k:=⟨_,aA h⟩
   obtain⟨ad,LH,LO⟩:=x.load X L MO;have MR:=x.lm.at MO;obtain⟨o,ho⟩:∃q,out[i]? =some q:=⟨_,aA (by omega)⟩
   obtain⟨o1,Qq⟩:∃q,out[i+1]? =some q:=⟨_,aA (by omega)⟩
   have e0:=hz _ _ (aE _) Qq;subst e0;have Oo:=LR o ho;have Lk:=Cz MO ho Qq hv;have M8:a*2^b<=4294967295*2^31:=Nat.mul_le_mul (by omega) hp32;have Pg:a*2^b / 4294967296<2^b:=by
    rw[Nat.div_lt_iff_lt_mul (by decide),bO (2^b)];exact Nat.mul_lt_mul_of_pos_right MR (bh b)
   have Pz:o ||| a*2^b % 4294967296=o+a*2^b % 4294967296:=by
    have:a*2^b % 4294967296=2^b*(a % 2^(32-b)):=by
     rw[show (4294967296:Nat)=2^(32-b)*2^b by rw[<-Nat.pow_add,Nat.sub_add_cancel (by omega)],Nat.mul_mod_mul_right,bO]
    rw[this];exact zX Oo
   have hsm:o+a*2^b % 4294967296<4294967296:=by
    rw[<-Pz];exact zk (by omega) (bl _ (by decide))
   refine⟨ad,LH,by omega,.int .u32 a,LO _ _ _,(a:Int),db (by omega),by omega,((a*2^b:Nat):Int),zW (by omega) (by omega),?_⟩;generalize ht:a*2^b=t at*
   refine⟨by omega,.int .u32 o,by rw[aG,aU,az];exact qy ho,((t % 4294967296:Nat):Int),eI _,((o+t % 4294967296:Nat):Int),by rw[<-Pz];exact Jq (by omega) (bl _ (by decide)),by omega,by rw[fK];omega,EQ (out.set i (o+t % 4294967296)),gh out i _ (by omega) (by simp),((i+1:Nat):Int),wo,by decide,((t / 4294967296:Nat):Int),kN 32 (by decide),((t / 4294967296:Nat):Int),by rw[eI];omega,by omega,by rw[fK];simp;omega,EQ ((out.set i (o+t % 4294967296)).set (i+1) (t / 4294967296)),gh _ (i+1) _ (by simp;omega) (by simp only[aG];omega),((i+1:Nat):Int),wo,?_⟩;intro In w3 D
   refine⟨(i+1,(out.set i (o+t % 4294967296)).set (i+1) (t / 4294967296),w3),⟨by dsimp only;omega,L.tr D.cG,by simp[MN],(LM.set hsm).set (by omega),Lk,fun j z hj hjz=>?_,fun o2 Pe=>?_⟩,
    Sub.gn [] D,by dsimp only;omega⟩
   ·dsimp only at hj;rw[aY (by omega),aY (by omega)]at hjz;exact hz j z (by omega) hjz
   ·rw[aR (by simp;omega)]at Pe;injection Pe with Pe;omega
  ·have MX:i=x.ls.length:=by
    have:¬i<x.ls.length:=by simpa using h
    omega
   subst MX;rw[bQ]at hv;intro In w3 D;refine⟨_,rfl,L.tr D.cG,out,⟨(In 0).g,by rw[MN];rfl,(D.low 0 _ rfl (D.nn 0 _ rfl (by intros;simp) (by simp))).1,D.arr 0 _ _ rfl,LM⟩,MN,hv⟩
theorem yq{d q:Nat}(ha32:a<4294967296)(ha:ls[i]? =some a)(hd:out[i]? =some d)(hb:b<=32)(ht:t=a+4294967296*ls.getD (i+1) 0)(hq:q=t / 2^b % 4294967296)(hv:val (out.take i)+wt i*(val (ls.drop i) / 2^b)=A9):
  val ((out.set i q).take (i+1))+wt (i+1)*(val (ls.drop (i+1)) / 2^b)=A9:=by
 have N:=(aC.1 hd).1;have V:(out.set i q)[i]? =some q:=by rw[aR N]
 rw[c9 V,List.take_set_of_le (aE _),g8,<-hv];have hN:=gv ha;have I:val (ls.drop i) / 2^b=q+4294967296*(val (ls.drop (i+1)) / 2^b):=by
  have e1:val (ls.drop i) / 2^b / 4294967296=val (ls.drop (i+1)) / 2^b:=by
   rw[Nat.div_div_eq_div_mul,bO,<-Nat.div_div_eq_div_mul];congr 1;omega
  have e2:val (ls.drop i) / 2^b % 4294967296=q:=by
   have K:∃z,val (ls.drop i)=t+2^b*(4294967296*z):=by
    cases F:ls[i+1]? with
    |some y=>
     have:=gv F;refine⟨2^(32-b)*val (ls.drop (i+1+1)),?_⟩;have h4:2^b*(4294967296*(2^(32-b)*val (ls.drop (i+1+1))))=18446744073709551616*val (ls.drop (i+1+1)):=by
      rw[Nat.mul_left_comm,<-bb (2^b),<-Nat.pow_add,Nat.add_sub_cancel' hb,<-bb]
     rw[h4,hN,this,ht,List.getD,F];simp only[Option.getD_some]
     omega
    |none=>
     refine⟨0,?_⟩;have h5:ls.length<=i+1:=List.getElem?_eq_none_iff.1 F;rw[hN,List.drop_of_length_le h5,ht,List.getD,F];simp[val]
   obtain⟨z,hz⟩:=K;rw[hz,Nat.add_mul_div_left _ _ (bh b),Nat.add_mul_mod_self_left,hq]
  have:=Nat.div_add_mod (val (ls.drop i) / 2^b) 4294967296;rw[e1,e2]at this;omega
 rw[I,bS,bO 4294967296 (wt i),bb];omega
theorem JI(X:Old S w)(h:cR w S v ls)(hl:ls.length<=1000000000000)(hb:b<32):
  eF PG F'.nm #[v,.int .u64 b] w (eM w fun v' Y=>dC Y (Nf w Y) v' (val ls / 2^b)):=by
 obtain⟨x,rfl,rfl⟩:=h.la;refine qv (by simp) ?_
 refine⟨x.ls.length,x.ls.length,rfl,rfl,aE _,by omega,by omega,Nat×List Nat×World,fun z=>⟨[(0,sV x.a x.ls.length x.c),(1,.o (.v (.int .u64 b))),(5,.o (.s 0 0 x.ls.length x.ls.length)),(12,iZ x.ls.length),(13,iZ z.1)],
   [(0,.arr T.uint32 (EQ z.2.1))],1,[],z.2.2⟩,fun z=>x.ls.length-z.1,
  fun z=>z.1<=x.ls.length/\dO w.heap.size w z.2.2/\z.2.1.length=x.ls.length/\Lm z.2.1/\val (z.2.1.take z.1)+wt z.1*(val (x.ls.drop z.1) / 2^b)=val x.ls / 2^b,?_,?_⟩
 ·intro O J r;rw[pz]at r;exact⟨(0,List.replicate x.ls.length 0,J),⟨by simp,r.cG,by simp,Lm.replicate _,by simp[val,iG]⟩,Sub.gn [] r⟩
 ·rintro⟨i,out,w1⟩ ⟨N,L,MN,LM,hv⟩;dsimp only at N L MN LM hv ⊢;refine ct.mk ?_ ?_<;>intro h
  ·have h:i<x.ls.length:=by simpa using h
   obtain⟨a,MO⟩:∃k,x.ls[i]? =some k:=⟨_,aA h⟩
   obtain⟨ad,LH,LO⟩:=x.load X L MO;have MR:=x.lm.at MO;obtain⟨d,hd⟩:∃q,out[i]? =some q:=⟨_,aA (by omega)⟩
   refine⟨ad,LH,by omega,.int .u32 a,LO _ _ _,(a:Int),db (by omega),((i+1:Nat):Int),wo,?_⟩;refine ct.mk ?_ ?_<;>intro I
   ·have I:i+1<x.ls.length:=by
     have:((i+1:Nat):Int)<x.ls.length:=aL I;omega
    obtain⟨y,hy⟩:∃k,x.ls[i+1]? =some k:=⟨_,aA I⟩
    obtain⟨ad2,Lx,Ml⟩:=x.load X L hy;have hy32:=x.lm.at hy;have NP:x.ls.getD (i+1) 0=y:=by simp[List.getD,hy]
    have Pz:a ||| y*2^32=a+4294967296*y:=by
     rw[bO];exact zX (k:=32) MR
    refine⟨((i+1:Nat):Int),wo,ad2,Lx,by omega,.int .u32 y,Ml _ _ _,(y:Int),db (by omega),by decide,((y*2^32:Nat):Int),zW (k:=32) (by decide) (by omega),((a+4294967296*y:Nat):Int),by rw[GR (by omega) (by omega),Pz],by omega,(((a+4294967296*y) / 2^b:Nat):Int),kN b (by omega),(((a+4294967296*y) / 2^b % 4294967296:Nat):Int),eI _,?_⟩;have Lk:=yq (t:=a+4294967296*y) MR MO hd (by omega) (by rw[NP]) rfl hv;generalize hq:(a+4294967296*y) / 2^b % 4294967296=q at*
    have hq32:q<4294967296:=by rw[<-hq];exact bl _ (by decide)
    refine⟨by omega,by rw[fK];omega,EQ (out.set i q),gh out i _ (by omega) (by simp),((i+1:Nat):Int),wo,?_⟩;intro In w3 D
    exact⟨(i+1,out.set i q,w3),⟨by dsimp only;omega,L.tr D.cG,by simp[MN],LM.set hq32,Lk⟩,
     Sub.gn [] D,by dsimp only;omega⟩
   ·have I:¬i+1<x.ls.length:=by
     have:¬((i+1:Nat):Int)<x.ls.length:=aI I;omega
    have NP:x.ls.getD (i+1) 0=0:=by simp[List.getD,List.getElem?_eq_none (show x.ls.length<=i+1 by omega)]
    refine⟨by omega,((a / 2^b:Nat):Int),kN b (by omega),((a / 2^b % 4294967296:Nat):Int),eI _,?_⟩;have Lk:=yq (t:=a) MR MO hd (by omega) (by rw[NP];omega) rfl hv;generalize hq:a / 2^b % 4294967296=q at*
    have hq32:q<4294967296:=by rw[<-hq];exact bl _ (by decide)
    refine⟨by omega,by rw[fK];omega,EQ (out.set i q),gh out i _ (by omega) (by simp),((i+1:Nat):Int),wo,?_⟩;intro In w3 D
    exact⟨(i+1,out.set i q,w3),⟨by dsimp only;omega,L.tr D.cG,by simp[MN],LM.set hq32,Lk⟩,
     Sub.gn [] D,by dsimp only;omega⟩
  ·have MX:i=x.ls.length:=by
    have:¬i<x.ls.length:=by simpa using h
    omega
   subst MX;have Od:val out=val x.ls / 2^b:=by
    rw[List.drop_length,List.take_of_length_le (by omega)]at hv;simpa [val]using hv
   refine fU (Id:=fun O _ v Y=>cR Y (fun g=>g=(O 0).g) v (dA out)) (H':=[]) 0 rfl (by simp) trivial rfl (fun O J r=>r.nn 0 _ rfl (by intros;simp) (by simp)) (fun O J r=>?_) ?_
   ·have hL:=r.lW (id:=0) rfl LM (by omega);rw[MN]at hL;exact eO (fun g R=>by rw[R];exact(r.low 0 _ rfl (r.nn 0 _ rfl (by intros;simp) (by simp))).2) hL
   rintro O J v Y r Z hb hL;replace L:=L.tr hb;have LR:=r.low 0 _ rfl (r.nn 0 _ rfl (by intros;simp) (by simp));generalize (O 0).g=g at*
   have hs:=Z.size;intro In w3 D;refine⟨_,rfl,L.tr D.cG,dA out,?_,(eA out).2.1,?_⟩
   ·refine(hL.br fun k W=>?_).bw fun k W=>.inr ?_
    ·rw[W];exact D.oF.block g (by omega) (by simp)
    ·rw[W];have:=D.size;omega
   ·rw[(eA out).1,Od]
theorem DA{by_ rest x d:Nat}(F:ls[k]? =some x)(hd:out[k]? =some d)(ht:t=rest*4294967296+x)
  (hv:val (ls.drop (k+1))=by_*val (out.drop (k+1))+rest):val (ls.drop k)=by_*val ((out.set k (t / by_)).drop k)+t % by_:=by
 have N:=(aC.1 hd).1;have V:(out.set k (t / by_))[k]? =some (t / by_):=by rw[aR N]
 rw[gv V,List.drop_set_of_lt (show k<k+1 by omega),gv F,hv,bS,bS];have I:=Nat.div_add_mod t by_;rw[Nat.mul_left_comm by_];omega
theorem GS(h:t<18446744073709551616):IntKind.u64.wrap ((t:Int).tdiv (b:Int))=((t / b:Nat):Int):=by
 have V:=Nat.div_le_self t b;rw[Int.tdiv_eq_ediv_of_nonneg (by omega),<-Int.natCast_ediv];exact db (by omega)
theorem HE(t b:Nat):(t:Int).tmod (b:Int)=((t % b:Nat):Int):=by
 rw[Int.tmod_eq_emod_of_nonneg (by omega),<-Int.natCast_emod]
theorem Hn(X:Old S w)(h:cR w S v ls)(hl:ls.length<=1000000000000)(hb:0<b)(Mn:b<4294967296):
  eF PG F'.mq #[v,.int .u32 b] w (eM w fun v' Y=>∃q,v'= .tuple #[q,.int .u32 ((val ls % b:Nat):Int)]/\dC Y (Nf w Y) q (val ls / b)):=by
 obtain⟨x,rfl,rfl⟩:=h.la;refine pt (by simp) ?_
 refine⟨x.ls.length,x.ls.length,rfl,rfl,aE _,by omega,by omega,(x.ls.length:Int)-1,wo,Nat×Nat×List Nat×World,fun z=>⟨[(0,sV x.a x.ls.length x.c),(1,.o (.v (.int .u32 b))),(4,sV none 0 0),(5,.o (.v (.int .u32 0))),(6,.o (.s 0 0 x.ls.length x.ls.length)),(7,.o (.v (.int .u64 z.2.1))),(8,.o (.v (.int .i64 ((z.1:Int)-1))))],
   [(0,.arr T.uint32 (EQ z.2.2.1))],1,[],z.2.2.2⟩,fun z=>z.1,
  fun z=>z.1<=x.ls.length/\dO w.heap.size w z.2.2.2/\z.2.2.1.length=x.ls.length/\Lm z.2.2.1/\z.2.1<b/\val (x.ls.drop z.1)=b*val (z.2.2.1.drop z.1)+z.2.1,?_,?_⟩
 ·intro O J r;rw[pz]at r;exact⟨(x.ls.length,0,List.replicate x.ls.length 0,J),⟨by simp,r.cG,by simp,Lm.replicate _,by simpa using hb,by simp[val]⟩,Sub.gn [] r⟩
 ·rintro⟨k,rest,out,w1⟩ ⟨N,L,MN,LM,hr,hv⟩;dsimp only at N L MN LM hr hv ⊢;refine ct.mk ?_ ?_<;>intro h
  ·have h:(k:Int)-1≥0:=aL h;obtain⟨k,rfl⟩:∃q,k=q+1:=⟨k-1,by omega⟩
   rw[show ((k+1:Nat):Int)-1=(k:Int) by omega];obtain⟨a,MO⟩:∃q,x.ls[k]? =some q:=⟨_,aA (by omega)⟩
   obtain⟨ad,LH,LO⟩:=x.load X L MO;have MR:=x.lm.at MO;obtain⟨d,hd⟩:∃q,out[k]? =some q:=⟨_,aA (by omega)⟩
   refine⟨by decide,((rest*2^32:Nat):Int),zW (k:=32) (by decide) (by omega),ad,LH,by omega,.int .u32 a,LO _ _ _,(a:Int),db (by omega),?_⟩;have Pz:rest*2^32 ||| a=rest*4294967296+a:=by
    rw[Nat.or_comm,bO,zX (k:=32) MR];omega
   refine⟨((rest*4294967296+a:Nat):Int),by rw[GR (by omega) (by omega),Pz],?_⟩;generalize ht:rest*4294967296+a=t;have ht64:t<18446744073709551616:=by omega
   refine cC hτ eG [.x 0,.x 1,.x 2,.x 3,.x 4,.x 5,.x 6,.x 7,.x 8,.x 9,.x 10,.x 11,.x 12,.x 13] (by kernel_rfl) (by kernel_rfl) ?_;refine⟨(b:Int),db (by omega),by omega,((t / b:Nat):Int),GS ht64,?_⟩;have hq:t / b<4294967296:=by
    rw[Nat.div_lt_iff_lt_mul hb];have:=Nat.mul_le_mul_right 4294967296 hr;rw[Nat.succ_eq_add_one,Nat.add_mul]at this;omega
   have hm:t % b<b:=bl _ hb;have Lk:=DA MO hd ht.symm hv;have hw32:IntKind.u32.wrap ((t / b:Nat):Int)=((t / b:Nat):Int):=by rw[eI,bE hq]
   have hrem:=HE t b;generalize t / b=q at*
   generalize t % b=m at*
   refine⟨(q:Int),hw32,(b:Int),db (by omega),by omega,(m:Int),hrem,by omega,by rw[fK];omega,EQ (out.set k q),gh out k _ (by omega) (by simp),(k:Int)-1,wo,?_⟩;intro In w3 D
   exact⟨(k,m,out.set k q,w3),⟨by dsimp only;omega,L.tr D.cG,by simp[MN],LM.set hq,hm,Lk⟩,
    Sub.gn [] D,by dsimp only;omega⟩
  ·have Qz:k=0:=by
    have:¬(k:Int)-1≥0:=aI h;omega
   subst Qz;rw[List.drop_zero,List.drop_zero]at hv;have hdm:val x.ls / b=val out/\val x.ls % b=rest:=by
    rw[hv];exact⟨by rw[Nat.mul_add_div hb,Nat.div_eq_of_lt hr,bj],by rw[Nat.mul_add_mod,bE hr]⟩
   rw[hdm.1,hdm.2];refine fU (Id:=fun O _ v Y=>cR Y (fun g=>g=(O 0).g) v (dA out)) (H':=[]) 0 rfl (by simp) trivial rfl (fun O J r=>r.nn 0 _ rfl (by intros;simp) (by simp)) (fun O J r=>?_) ?_
   ·have hL:=r.lW (id:=0) rfl LM (by omega);rw[MN]at hL;exact eO (fun g R=>by rw[R];exact(r.low 0 _ rfl (r.nn 0 _ rfl (by intros;simp) (by simp))).2) hL
   rintro O J v Y r Z hb hL;replace L:=L.tr hb;have LR:=r.low 0 _ rfl (r.nn 0 _ rfl (by intros;simp) (by simp));generalize (O 0).g=g at*
   have hs:=Z.size;refine⟨(rest:Int),by rw[eI,bE (by omega)],?_⟩;intro In w3 D;refine⟨_,rfl,L.tr D.cG,v,rfl,dA out,?_,(eA out).2.1,(eA out).1⟩;refine(hL.br fun k W=>?_).bw fun k W=>.inr ?_
   ·rw[W];exact D.oF.block g (by omega) (by simp)
   ·rw[W];have:=D.size;omega
def fV(n:Nat):Nat:=if n=0 then 0 else n.log2+1
theorem GN{x:Nat}(h:2^k<=x):x.log2=(x / 2^k).log2+k:=by
 have hp:=bh k;have hy:x / 2^k≠0:=by have:=Nat.div_pos h hp;omega
 have V:=Nat.log2_self_le hy;have I:=@Nat.lt_log2_self (x / 2^k);rw[Nat.log2_eq_iff (by omega)];refine⟨?_,?_⟩
 ·rw[Nat.pow_add];exact(Nat.le_div_iff_mul_le hp).1 V
 ·rw[show (x / 2^k).log2+k+1=(x / 2^k).log2+1+k by omega,Nat.pow_add];exact(Nat.div_lt_iff_lt_mul hp).1 I
theorem wT{x:Nat}(h:2^k<=x):fV x=k+fV (x / 2^k):=by
 have hp:=bh k;have hy:x / 2^k≠0:=by have:=Nat.div_pos h hp;omega
 rw[fV,fV,aF hy,aF (by omega),GN h];omega
theorem uI(h:n<256):IntKind.u8.wrap (n:Int)=(n:Int):=by
 show((n:Int) % 256)=_;omega
theorem uJ(h:n<256):(UInt8.ofNat (fV n)).toNat=fV n:=by
 have:∀n,n<256->(UInt8.ofNat (fV n)).toNat=fV n:=by decide +kernel
 exact this n h
theorem m8{x:Nat}(h:x<256):fV x<=8:=by
 have:∀n,n<256->fV n<=8:=by decide +kernel
 exact this x h
theorem D8(n:Nat)(h:n<256):(⟨#[0,1,2,2,3,3,3,3,4,4,4,4,4,4,4,4,5,5,5,5,5,5,5,5,5,5,5,5,5,5,5,5,6,6,6,6,6,6,6,6,6,6,6,6,6,6,6,6,6,6,6,6,6,6,6,6,6,6,6,6,6,6,6,6,7,7,7,7,7,7,7,7,7,7,7,7,7,7,7,7,7,7,7,7,7,7,7,7,7,7,7,7,7,7,7,7,7,7,7,7,7,7,7,7,7,7,7,7,7,7,7,7,7,7,7,7,7,7,7,7,7,7,7,7,7,7,7,7,8,8,8,8,8,8,8,8,8,8,8,8,8,8,8,8,8,8,8,8,8,8,8,8,8,8,8,8,8,8,8,8,8,8,8,8,8,8,8,8,8,8,8,8,8,8,8,8,8,8,8,8,8,8,8,8,8,8,8,8,8,8,8,8,8,8,8,8,8,8,8,8,8,8,8,8,8,8,8,8,8,8,8,8,8,8,8,8,8,8,8,8,8,8,8,8,8,8,8,8,8,8,8,8,8,8,8,8,8,8,8,8,8,8,8,8,8,8,8,8,8,8,8,8,8,8,8,8]⟩:ByteArray)[((n:Nat):Int).toNat]? =some (UInt8.ofNat (fV n)):=by
 have:∀n,n<256->(⟨#[0,1,2,2,3,3,3,3,4,4,4,4,4,4,4,4,5,5,5,5,5,5,5,5,5,5,5,5,5,5,5,5,6,6,6,6,6,6,6,6,6,6,6,6,6,6,6,6,6,6,6,6,6,6,6,6,6,6,6,6,6,6,6,6,7,7,7,7,7,7,7,7,7,7,7,7,7,7,7,7,7,7,7,7,7,7,7,7,7,7,7,7,7,7,7,7,7,7,7,7,7,7,7,7,7,7,7,7,7,7,7,7,7,7,7,7,7,7,7,7,7,7,7,7,7,7,7,7,8,8,8,8,8,8,8,8,8,8,8,8,8,8,8,8,8,8,8,8,8,8,8,8,8,8,8,8,8,8,8,8,8,8,8,8,8,8,8,8,8,8,8,8,8,8,8,8,8,8,8,8,8,8,8,8,8,8,8,8,8,8,8,8,8,8,8,8,8,8,8,8,8,8,8,8,8,8,8,8,8,8,8,8,8,8,8,8,8,8,8,8,8,8,8,8,8,8,8,8,8,8,8,8,8,8,8,8,8,8,8,8,8,8,8,8,8,8,8,8,8,8,8,8,8,8,8,8]⟩:ByteArray)[n]? =some (UInt8.ofNat (fV n)):=by decide +kernel
 exact this n h
theorem Hj(x:Nat)(w:World)(F:x<4294967296):eF PG F'.wD #[.int .u32 x] w (eM w fun v _=>v= .int .i64 (fV x)):=by
 refine x9 (by simp) ?_;refine ct.mk ?_ ?_<;>intro h
 ·have h:65536<=x:=by have:=aL h;omega
  refine⟨by decide,((x / 2^16:Nat):Int),m9 16 (by decide),?_⟩;have hb:=wT (k:=16) h;have hy:x / 2^16<65536:=by omega
  rw[hb];generalize x / 2^16=y at*
  refine ct.mk ?_ ?_<;>intro I
  ·have I:256<=y:=by have:=aL I;omega
   refine⟨by decide,((y / 2^8:Nat):Int),m9 8 (by decide),?_⟩;have Mn:=wT (k:=8) I;have hz:y / 2^8<256:=by omega
   rw[Mn];generalize y / 2^8=z at*
   refine⟨24,by decide,(z:Int),uI hz,?_⟩;refine oV (b:=UInt8.ofNat (fV z)) ((hτ _ _ rfl).i3 rfl) rfl rfl (by omega) (D8 z hz) (fun If w1 r1=>?_);rw[uJ hz];have ht:=m8 hz;refine⟨(fV z:Int),wo,((24+fV z:Nat):Int),wo,?_⟩;intro In w3 D;exact⟨_,rfl,r1.cG.tr D.cG,by rw[<-Nat.add_assoc];rfl⟩
  ·have hy:y<256:=by have:=aI I;omega
   refine⟨(y:Int),uI hy,?_⟩;refine oV (b:=UInt8.ofNat (fV y)) ((hτ _ _ rfl).i3 rfl) rfl rfl (by omega) (D8 y hy) (fun If w1 r1=>?_);rw[uJ hy];have ht:=m8 hy;refine⟨(fV y:Int),wo,((16+fV y:Nat):Int),wo,?_⟩;intro In w3 D;exact⟨_,rfl,r1.cG.tr D.cG,by rfl⟩
 ·have h:x<65536:=by have:=aI h;omega
  refine ct.mk ?_ ?_<;>intro I
  ·have I:256<=x:=by have:=aL I;omega
   refine⟨by decide,((x / 2^8:Nat):Int),m9 8 (by decide),?_⟩;have Mn:=wT (k:=8) I;have hz:x / 2^8<256:=by omega
   rw[Mn];generalize x / 2^8=z at*
   refine⟨8,by decide,(z:Int),uI hz,?_⟩;refine oV (b:=UInt8.ofNat (fV z)) ((hτ _ _ rfl).i3 rfl) rfl rfl (by omega) (D8 z hz) (fun If w1 r1=>?_);rw[uJ hz];have ht:=m8 hz;refine⟨(fV z:Int),wo,((8+fV z:Nat):Int),wo,?_⟩;intro In w3 D;exact⟨_,rfl,r1.cG.tr D.cG,by rfl⟩
  ·have F:x<256:=by have:=aI I;omega
   refine⟨(x:Int),uI F,?_⟩;refine oV (b:=UInt8.ofNat (fV x)) ((hτ _ _ rfl).i3 rfl) rfl rfl (by omega) (D8 x F) (fun If w1 r1=>?_);rw[uJ F];have ht:=m8 F;refine⟨(fV x:Int),wo,((0+fV x:Nat):Int),wo,?_⟩;intro In w3 D;exact⟨_,rfl,r1.cG.tr D.cG,by rw[aU];rfl⟩
theorem uA{x:Nat}:fV x<=k↔x<2^k:=by
 unfold fV;by_cases h:x=0
 ·rw[if_pos h,h];exact⟨fun _=>bh k,fun _=>aP _⟩
 ·rw[aF h];constructor
  ·intro V;exact(Nat.log2_lt h).1 (by omega)
  ·intro V;have:=(Nat.log2_lt h).2 V;omega
theorem JG(x:Nat)(w:World)(F:x<4294967296):eF PG F'.ja #[.int .u32 x] w (eM w fun v _=>v= .int .i64 ((32-fV x:Nat):Int)):=by
 refine mZ (by simp) ?_;refine bp (bz (Id:=fun _ _ v _=>v= .int .i64 (fV x)) (fun O J r=>Hj x J F) ?_);rintro O J v Y r Z hb rfl;have h32:fV x<=32:=uA.2 F;refine⟨((32-fV x:Nat):Int),wo,?_⟩;intro In w3 D;exact⟨_,rfl,hb.tr D.cG,rfl⟩
end Go.Ex
namespace Go.Sx
open Go Go.Ex Go.Proofs
variable{ls:List Nat}{O:Nat->Sx.cd}
theorem Rel.GO{H:Hp}{nx:Nat}{iv:Iv}{B:Nat}{w J:World}(r:Rel H nx iv B w O J){id t m:Nat}(h:cO H id=some (.vec t 1 (EQ ls)))(hm:m=ls.length)(Lp:Lm ls)(hle:ls.length<=9223372036854775807):
  cR J (fun g=>B<=g/\g<J.heap.size) ((At.w id m).den O) ls:=by
 subst hm;rcases r.vec id t 1 _ h with⟨A,hu⟩|⟨A,spare,hb,hc,Md⟩
 ·have hl:ls=[]:=by cases ls with
   |nil=>rfl
   |cons a b=>simp[EQ]at hu
  subst hl;have:(At.w id ([]:List Nat).length).den O= .slice none 0 0:=by simp[At.den,A]
  rw[this];exact cR.nil _ _
 ·refine⟨Lp,hle,some ⟨(O id).g,0,none⟩,(O id).cap,by simp[At.den,A],?_,fun j x F=>⟨_,rfl,r.low id _ h A,?_⟩⟩
  ·have V:(EQ ls++spare).length=ls.length+spare.length:=by rw[List.length_append,fK]
   omega
  ·rw[cZ,cell_of hb,aU,aJ (by rw[fK];exact(aC.1 F).1)];exact qy F
end Go.Sx
namespace Go.Ex
open Go Go.Sx Go.Proofs
variable{ls:List Nat}{S:Nat->Prop}
theorem Hk:PG.underlying T.nat=some (.slice T.uint32):=by
 have h:=(hτ T.nat _ rfl).i4 rfl;exact h
theorem D9{w:World}{v:Value}(X:Old S w)(h:cR w S v ls)(hl:ls.length<=1000000000000):
  eF PG F'.eo #[v] w (eM w fun v' Y=>cR Y (Nf w Y) v' ls):=by
 obtain⟨x,rfl,rfl⟩:=h.la;refine gY (by simp) ?_;refine⟨x.a.isNone,fun O w1 o1 o2=>by simp[eqGuard,SV.den,At.den,rT (P:=PG) w1 T.nat T.uint32 x.a x.ls.length x.c 0 0 Hk],?_⟩;refine ct.mk ?_ ?_<;>intro h
 ·intro In w3 D;have A:x.ls=[]:=by
   cases F:x.ls with
   |nil=>rfl
   |cons u r=>
    obtain⟨ad,V,_⟩:=x.cell 0 u (by rw[F];rfl);rw[V]at h;simp at h
  exact⟨_,rfl,D.cG,by rw[A];exact cR.nil _ _⟩
 ·refine .inl ?_;refine⟨EQ x.ls,by rw[fK,az],fun u hu=>by simp only[EQ,aT]at hu;obtain⟨n,_,rfl⟩:=hu;rfl,fun O w1 r h0=>?_,?_⟩
  ·obtain⟨u,hu⟩:∃q,x.ls[0]? =some q:=⟨_,aA h0⟩
   obtain⟨ad,LH,_⟩:=x.cell 0 u hu;refine⟨ad,LH,fun j u hu=>?_⟩;simp only[EQ,aM,Option.map_eq_some_iff]at hu;obtain⟨n,A,rfl⟩:=hu;obtain⟨ad2,Lx,hs,hc⟩:=x.cell j n A;rw[LH]at Lx;injection Lx with Lx;subst Lx;exact lV X dO.refl r hs hc
  refine⟨rfl,by omega,by unfold maxLen;omega,?_⟩;intro In w3 D;exact⟨_,rfl,D.cG,(D.GO (id:=1) rfl (aU _) x.lm x.le).bw fun g R=>.inr R⟩
end Go.Ex
