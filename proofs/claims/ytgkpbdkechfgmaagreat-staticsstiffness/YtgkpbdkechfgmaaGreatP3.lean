/- Texts L1 to X9: lemmas, each with its conditions. -/
import Derived.KernelRfl
import Derived.Test.YtgkpbdkechfgmaaGreatProg
import Derived.Test.YtgkpbdkechfgmaaGreatP2
namespace Go.Ex
variable{a b ls:List Nat}{k:Nat}
def val:List Nat->Nat
 |[]=>0
 |x::r=>x+4294967296*val r
def Lm(ls:List Nat):Prop:=∀x∈ls,x<4294967296
def wt(k:Nat):Nat:=4294967296^k
theorem jx:wt 0=1:=rfl
theorem je(k:Nat):wt (k+1)=4294967296*wt k:=by rw[wt,Nat.pow_succ,bX];rfl
theorem Fg(a b:Nat):wt (a+b)=wt a*wt b:=by rw[wt,Nat.pow_add];rfl
theorem yD(k:Nat):0<wt k:=Nat.pow_pos (by decide)
theorem mg(a b:List Nat):val (a++b)=val a+wt a.length*val b:=by
 induction a with
 |nil=>simp[val,jx]
 |cons x r ih=>
  rw[List.cons_append,val,val,ih,List.length_cons,je,b9,bj];omega
theorem pV(h:Lm ls):val ls<wt ls.length:=by
 induction ls with
 |nil=>exact Nat.one_pos
 |cons x r ih=>
  have h1:=h x (by simp);have h2:=ih (fun y hy=>h y (by simp[hy]));rw[val,List.length_cons,je];have:4294967296*(val r+1)<=4294967296*wt r.length:=bO _ h2;omega
theorem fL(ls:List Nat)(k:Nat)(h:k<=ls.length):val ls=val (ls.take k)+wt k*val (ls.drop k):=by
 have:=mg (ls.take k) (ls.drop k);rw[List.take_append_drop,aZ,Nat.min_eq_left h]at this;exact this
theorem dy{x:Nat}(h:ls[k]? =some x):val (ls.take (k+1))=val (ls.take k)+wt k*x:=by
 have hk:=(aE.1 h).1;rw[List.take_add_one,h,mg,aZ,Nat.min_eq_left (by omega)];simp[val]
theorem jq{x:Nat}(h:ls[k]? =some x):val (ls.drop k)=x+4294967296*val (ls.drop (k+1)):=by
 obtain⟨hk,hx⟩:=aE.1 h;rw[List.drop_eq_getElem_cons hk,hx,val]
theorem An{o x:Nat}(h:ls[k]? =some o):val (ls.set k x)+wt k*o=val ls+wt k*x:=by
 obtain⟨hk,ho⟩:=aE.1 h;have h1:=fL ls k (by omega);have h2:=fL (ls.set k x) k (by simp;omega);rw[List.take_set_of_le (Nat.le_refl _)]at h2;rw[jq h,b9]at h1;have h3:(ls.set k x)[k]? =some x:=by rw[aR hk]
 rw[jq h3,List.drop_set_of_lt (by omega),b9]at h2;omega
theorem oP(n:Nat):val (List.replicate n 0)=0:=by
 induction n with
 |zero=>rfl
 |succ n ih=>rw[List.replicate_succ,val,ih]
theorem Lm.set{x:Nat}(h:Lm ls)(hx:x<4294967296):Lm (ls.set k x):=fun y hy=>by
 rcases bA hy with h1|rfl
 ·exact h y h1
 ·exact hx
theorem Lm.replicate(n:Nat):Lm (List.replicate n 0):=fun x hx=>by rw[List.mem_replicate]at hx;omega
theorem Lm.take(h:Lm ls)(k:Nat):Lm (ls.take k):=fun x hx=>h x (bc hx)
theorem Lm.drop(h:Lm ls)(k:Nat):Lm (ls.drop k):=fun x hx=>h x (List.mem_of_mem_drop hx)
theorem Lm.append(ha:Lm a)(hb:Lm b):Lm (a++b):=fun x hx=>by
 rcases List.mem_append.1 hx with h|h
 ·exact ha x h
 ·exact hb x h
theorem Lm.at(h:Lm ls){x:Nat}(hx:ls[k]? =some x):x<4294967296:=h x (aD hx)
def eH:List Nat->List Nat
 |[]=>[]
 |x::r=>match eH r with
  |[]=>if x=0 then []else [x]
  |y::t=>x::y::t
def Nz(ls:List Nat):Prop:=∀x,ls.getLast? =some x->x≠0
theorem ll(ls:List Nat):eH (ls++[0])=eH ls:=by
 induction ls with
 |nil=>rfl
 |cons x r ih=>rw[List.cons_append,eH,ih,eH]
theorem pW(ls:List Nat){x:Nat}(hx:x≠0):eH (ls++[x])=ls++[x]:=by
 induction ls with
 |nil=>simp[eH,hx]
 |cons y r ih=>
  rw[List.cons_append,eH,ih]
  cases r<;>rfl
theorem uV(ls:List Nat):ls=[]∨∃a x,ls=a++[x]:=by
 rcases List.eq_nil_or_concat ls with h|⟨a,x,h⟩
 ·exact .inl h
 ·exact .inr ⟨a,x,by simpa using h⟩
theorem fS(ls:List Nat):val (eH ls)=val ls∧Nz (eH ls)∧∃k,k<=ls.length∧eH ls=ls.take k:=by
 have key:∀(n:Nat) (ls:List Nat),ls.length=n->val (eH ls)=val ls∧Nz (eH ls)∧∃k,k<=ls.length∧eH ls=ls.take k:=by
  intro n
  induction n with
  |zero=>intro ls h;have:ls=[]:=List.eq_nil_of_length_eq_zero h;subst this;exact⟨rfl,by simp[Nz,eH],0,Nat.le_refl _,rfl⟩
  |succ n ih=>
   intro ls h;rcases uV ls with rfl|⟨a,x,rfl⟩
   ·simp at h
   ·by_cases hx:x=0
    ·subst hx;rw[ll];obtain⟨h1,h2,k,h3,h4⟩:=ih a (by simp at h;omega);refine⟨by rw[h1,mg];simp[val],h2,k,by simp;omega,?_⟩;rw[h4,List.take_append_of_le_length h3]
    ·rw[pW a hx];refine⟨rfl,?_,_,Nat.le_refl _,by rw[bH]⟩;intro y hy;simp at hy;subst hy;exact hx
 exact key _ ls rfl
theorem H3(h:Nz ls):eH ls=ls:=by
 rcases uV ls with rfl|⟨a,x,rfl⟩
 ·rfl
 ·exact pW a (h x (by simp))
theorem th(h:Nz ls)(OZ:ls≠[]):wt (ls.length-1)<=val ls:=by
 rcases uV ls with rfl|⟨a,x,rfl⟩
 ·exact absurd rfl OZ
 ·have hx:=h x (by simp);rw[mg];simp only[val,List.length_append,List.length_singleton,Nat.add_sub_cancel]
  have:wt a.length*1<=wt a.length*(x+4294967296*0):=bO _ (by omega);omega
theorem val_inj:∀{a b:List Nat},Lm a->Lm b->a.length=b.length->val a=val b->a=b
 |[],[],_,_,_,_=>rfl
 |x::r,y::s,ha,hb,hl,h=>by
  have h1:=ha x (by simp);have h2:=hb y (by simp);rw[val,val]at h;have h3:x=y:=by omega
  have h4:val r=val s:=by omega
  rw[h3,val_inj (fun z hz=>ha z (by simp[hz])) (fun z hz=>hb z (by simp[hz])) (by simpa using hl) h4]
 |[],_::_,_,_,h,_=>by simp at h
 |_::_,[],_,_,h,_=>by simp at h
theorem B2{a b:Nat}(h:a<=b):wt a<=wt b:=Nat.pow_le_pow_right (by decide) h
theorem Kt{a b:Nat}(h:a<b):wt a<wt b:=Nat.pow_lt_pow_right (by decide) h
theorem jf(ha:Lm a)(hb:Nz b)(h:a.length<b.length):val a<val b:=by
 have h1:=pV ha;have h2:=th hb (by intro e;rw[e]at h;simp at h);have:=B2 (show a.length<=b.length-1 by omega);omega
def ln(n:Nat):Nat:=if n=0 then 0 else n.log2 / 32+1
theorem yE(k:Nat):wt k=2^(32*k):=by rw[wt,show(4294967296:Nat)=2^32 from rfl,<-Nat.pow_mul]
theorem gX{n k:Nat}:ln n<=k↔n<wt k:=by
 unfold ln;by_cases h:n=0
 ·rw[if_pos h,h];exact⟨fun _=>yD k,fun _=>aO _⟩
 ·rw[aK h,yE];constructor
  ·intro h1;have:n.log2<32*k:=by omega
   exact(Nat.log2_lt h).1 this
  ·intro h1;have:=(Nat.log2_lt h).2 h1;omega
theorem mh(n:Nat):n<wt (ln n):=gX.1 (Nat.le_refl _)
theorem fk{a b:Nat}(h:a<=b):ln a<=ln b:=gX.2 (Nat.lt_of_le_of_lt h (mh b))
theorem aCk(a b:Nat):ln (a+b)<=max (ln a) (ln b)+1:=by
 rw[gX,je];have h1:=Nat.lt_of_lt_of_le (mh a) (B2 (Nat.le_max_left (ln a) (ln b)));have h2:=Nat.lt_of_lt_of_le (mh b) (B2 (Nat.le_max_right (ln a) (ln b)));omega
theorem aCl(a b:Nat):ln (a*b)<=ln a+ln b:=by
 rw[gX,Fg];exact Nat.mul_lt_mul'' (mh a) (mh b)
theorem aB7:ln 0=0:=rfl
theorem ec(h:Lm ls)(hz:Nz ls):ls.length=ln (val ls):=by
 by_cases OZ:ls=[]
 ·subst OZ;rfl
 ·have h1:=pV h;have h2:=th hz OZ;have h3:=gX.2 h1;have h4:¬ln (val ls)<=ls.length-1:=fun hh=>by have:=gX.1 hh;omega
  omega
end Go.Ex
namespace Go.Ex
open Go Go.Sx
variable{f:(Nat->Sx.eE)->Value}{ls:List Nat}{g n:Nat}{p:Nat×Nat}{v:Value}{P:Value->World->Prop}{w1:World}
def Cv(S:Nat->Prop)(B:Nat)(iv:Iv)(g:Nat):Prop:=S g∨(B<=g∧∃lo hi,(lo,hi)∈iv∧lo<=g∧g<hi)
def Nw(S:Nat->Prop)(w w2:World)(g:Nat):Prop:=S g∨(w.heap.size<=g∧g<w2.heap.size)
def Old(S:Nat->Prop)(w:World):Prop:=∀g,S g->g<w.heap.size
section
variable{S S':Nat->Prop}{H:Hp}{nx:Nat}{iv iv':Iv}{B:Nat}{w w' w2:World}{O:Nat->eE}
theorem Cv.mono(h:Cv S B iv g)(k:∀p,p∈iv->p∈iv'):Cv S B iv' g:=by
 rcases h with h|⟨h0,lo,hi,h1,h2⟩
 ·exact .inl h
 ·exact .inr ⟨h0,lo,hi,k _ h1,h2⟩
theorem Cv.cons(h:Cv S B iv g):Cv S B (p::iv) g:=h.mono fun q hq=>by simp[hq]
theorem Rel.old(r:Rel H nx iv B w O w')(hS:∀g,S g->g<B):Old (Cv S B iv) w':=by
 intro g h;rcases h with h|⟨_,lo,hi,h1,_,h3⟩
 ·have:=hS g h;have:=r.base;have:=r.size;omega
 ·have:=r.so lo hi h1;have:=r.size;omega
theorem Rel.same(r:Rel H nx iv B w O w')(hS:∀g,S g->g<B)(h:Cv S B iv g):w'.heap[g]? =w.heap[g]? :=by
 rcases h with h|⟨_,lo,hi,h1,h2,h3⟩
 ·have:=hS g h;exact r.xw g (by have:=r.base;omega) fun id b hb hn he=>by have:=(r.low id b hb hn).1;omega
 ·exact r.xw g (by have:=r.so lo hi h1;omega) fun id b hb hn he=>r.lk lo hi h1 id b hb hn ⟨by omega,by omega⟩
theorem Rel.not(r:Rel H nx iv B w O w')(hS:∀g,S g->g<B)(h:Cv S B iv g):∀id b,dM H id=some b->(O id).nil=false->(O id).g≠g:=by
 rcases h with h|⟨_,lo,hi,h1,h2,h3⟩
 ·have:=hS g h;exact fun id b hb hn he=>by have:=(r.low id b hb hn).1;omega
 ·exact fun id b hb hn he=>r.lk lo hi h1 id b hb hn ⟨by omega,by omega⟩
theorem Nw.cv(h:Nw (Cv S B iv) w' w1 g)(hB:B<=w'.heap.size):Cv S B ((w'.heap.size,w1.heap.size)::iv) g:=by
 rcases h with h|h
 ·exact h.cons
 ·exact .inr ⟨by omega,_,_,aI,h.1,h.2⟩
theorem Cv.nw{w0:World}(h:Cv S w0.heap.size iv g)(r:Rel H nx iv w0.heap.size w O w'):Nw S w0 w' g:=by
 rcases h with h|⟨h0,lo,hi,h1,_,h3⟩
 ·exact .inl h
 ·exact .inr ⟨h0,by have:=r.so lo hi h1;have:=r.size;omega⟩
structure dV(w:World)(S:Nat->Prop)(v:Value)(ls:List Nat):Prop where
 lm:Lm ls
 le:ls.length<=9223372036854775807
 sl:∃a c,v= .slice a ls.length c∧ls.length<=c∧∀(j:Nat) x,ls[j]? =some x->∃ad,a=some ad∧S ad.block∧w.cell? (ad.add j)=some (.int .u32 x)
theorem dD(ad:Addr)(j:Nat):(ad.add j).block=ad.block:=by
 unfold Addr.add;split<;>rfl
theorem dV.cJ(h:dV w S v ls)(hk:∀g,S g->w2.heap[g]? =w.heap[g]?):dV w2 S v ls:=by
 obtain⟨a,c,h1,Tb,h2⟩:=h.sl;refine⟨h.lm,h.le,a,c,h1,Tb,fun j x hx=>?_⟩;obtain⟨ad,h3,h4,h5⟩:=h2 j x hx;exact⟨ad,h3,h4,by rw[cM (hk _ (by rw[dD];exact h4))];exact h5⟩
theorem dV.cL(h:dV w S v ls)(hk:∀g,S g->S' g):dV w S' v ls:=by
 obtain⟨a,c,h1,Tb,h2⟩:=h.sl;refine⟨h.lm,h.le,a,c,h1,Tb,fun j x hx=>?_⟩;obtain⟨ad,h3,h4,h5⟩:=h2 j x hx;exact⟨ad,h3,hk _ h4,h5⟩
theorem dV.rel(h:dV w (Cv S B iv) v ls)(r:Rel H nx iv B w O w')(hS:∀g,S g->g<B):dV w' (Cv S B iv) v ls:=h.cJ fun _g hg=>Rel.same r hS hg
theorem dV.nil(w:World)(S:Nat->Prop):dV w S (.slice none 0 0) []:=⟨by simp[Lm],by simp,none,0,rfl,Nat.le_refl _,by simp⟩
def eK(w:World)(S:Nat->Prop)(v:Value)(n:Nat):Prop:=∃ls,dV w S v ls∧Nz ls∧val ls=n
theorem eK.cJ(h:eK w S v n)(hk:∀g,S g->w2.heap[g]? =w.heap[g]?):eK w2 S v n:=by
 obtain⟨ls,h1,h2,h3⟩:=h;exact⟨ls,h1.cJ hk,h2,h3⟩
theorem eK.cL(h:eK w S v n)(hk:∀g,S g->S' g):eK w S' v n:=by
 obtain⟨ls,h1,h2,h3⟩:=h;exact⟨ls,h1.cL hk,h2,h3⟩
theorem eK.nil(w:World)(S:Nat->Prop):eK w S (.slice none 0 0) 0:=⟨[],dV.nil w S,by simp[Nz],rfl⟩
end
abbrev iZ(z:Int):SV:=.o (.v (.int .i64 z))
abbrev iN(n:Nat):SV:=.o (.v (.int .i64 (n:Int)))
abbrev sV(a:Option Addr)(n c:Nat):SV:=.o (.v (.slice a n c))
abbrev pP(i j:Nat):SV:=.o (.p i j)
theorem rtn{H:Hp}{nx:Nat}{iv:Iv}{w:World}(hw:dg w.heap.size w w1)(h:∀O w',Rel H nx iv w.heap.size w1 O w'->P (f O) w'):∀O w',Rel H nx iv w.heap.size w1 O w'->eL w P (.returned (f O)) w':=fun O w' r=>⟨_,rfl,hw.tr r.cS,h O w' r⟩
abbrev FF:Nat->Prop:=fun _=>False
theorem bR(w:World):dg w.heap.size w w:=dg.refl
abbrev Nf(w w2:World):Nat->Prop:=Nw (fun _=>False) w w2
abbrev Cf(w:World):Iv->Nat->Prop:=Cv (fun _=>False) w.heap.size
section
variable{S:Nat->Prop}{H:Hp}{nx:Nat}{iv:Iv}{B i n:Nat}{w w1 w':World}{O:Nat->Sx.eE}{ad:Addr}{cs:List Value}{x:Value}
theorem kS(hw:dg B w w1)(r:Rel H nx iv B w1 O w')(hS:∀g,S g->g<B):∀g,S g->w'.heap[g]? =w.heap[g]? :=fun g hg=>(hw.tr r.cS).block g (hS g hg)
theorem oS(hS:∀g,S g->g<B)(r:Rel H nx iv B w O w'):∀g,S g->g<w'.heap.size:=fun g hg=>by have:=hS g hg;have:=r.base;have:=r.size;omega
theorem rdO(hl:∀(j:Nat) u,cs[j]? =some u->S ad.block∧w.cell? ((ad.add (i*n)).add j)=some u)(hw:dg B w w1)(hS:∀g,S g->g<B):∀O w',Rel H nx iv B w1 O w'->∀(j:Nat) u,cs[j]? =some u->w'.cell? ((ad.add ((i:Int).toNat*n)).add j)=some u:=fun O w' r j u hu=>by
 obtain⟨k1,k2⟩:=hl j u hu;rw[aF,cM (w:=w) (w2:=w') (by rw[dD,dD];exact(hw.tr r.cS).block _ (hS _ k1))];exact k2
theorem rd1(hl:w.cell? (ad.add (i*n))=some x)(hw:dg B w w1)(hb:ad.block<B):∀O w',Rel H nx iv B w1 O w'->w'.cell? (ad.add ((i:Int).toNat*n))=some x:=fun O w' r=>by
 rw[aF,cM (w:=w) (w2:=w') (by rw[dD];exact(hw.tr r.cS).block _ hb)];exact hl
end
end Go.Ex
namespace Go.Ex
open Go Go.Sx Go.Proofs
variable{args:Array Value}{R:Ending->World->Prop}{ls:List Nat}{k n:Nat}{S:Nat->Prop}{O:Nat->Sx.eE}{v:Value}{w:World}
noncomputable abbrev PG:Program:=Tryz.prog
def slT(e:Nat):TI:={size:=1,bytes:=24,zero:=[.slice none 0 0],agg:=false,tag:=4,elem:=e}
def aD7:List (Nat×TI):=[
 (3,{size:=1,bytes:=8,zero:=[.int .i64 0],agg:=false,tag:=1,ik:=.i64}),
 (4,{size:=1,bytes:=1,zero:=[.bool false],agg:=false,tag:=2}),
 (40,slT 48),
 (48,{size:=4,bytes:=64,zero:=[.bool false,.slice none 0 0,.bool false,.slice none 0 0],agg:=true,tag:=5,fields:=[(0,46),(2,46)]}),
 (37,slT 3),
 (32,{size:=1,bytes:=8,zero:=[.int .i64 0],agg:=false,tag:=1,ik:=.i64}),
 (26,{size:=3,bytes:=72,zero:=[.slice none 0 0,.slice none 0 0,.slice none 0 0],agg:=true,tag:=5,fields:=[(0,22),(1,23),(2,24)]}),
 (87,slT 40),
 (46,{size:=2,bytes:=32,zero:=[.bool false,.slice none 0 0],agg:=true,tag:=5,fields:=[(0,4),(1,44)]}),
 (155,slT 292),
 (30,slT 141),
 (209,slT 159),
 (292,{size:=1,bytes:=4,zero:=[.int .u32 0],agg:=false,tag:=1,ik:=.u32}),
 (159,{size:=4,bytes:=64,zero:=[.bool false,.slice none 0 0,.bool false,.slice none 0 0],agg:=true,tag:=5,fields:=[(0,157),(2,157)]}),
 (157,{size:=2,bytes:=32,zero:=[.bool false,.slice none 0 0],agg:=true,tag:=5,fields:=[(0,4),(1,155)]}),
 (206,slT 209),
 (291,{size:=1,bytes:=8,zero:=[.int .u64 0],agg:=false,tag:=1,ik:=.u64}),
 (24,slT 146),
 (168,{size:=2,bytes:=32,zero:=[.slice none 0 0,.int .i64 0],agg:=true,tag:=5,fields:=[(0,87),(1,3)]}),
 (23,slT 144),
 (141,{size:=4,bytes:=32,zero:=[.int .i64 0,.int .i64 0,.int .i64 0,.int .i64 0],agg:=true,tag:=5,fields:=[(0,3),(1,3),(2,3),(3,3)]}),
 (22,slT 195),
 (100,{size:=3,bytes:=56,zero:=[.int .i64 0,.slice none 0 0,.slice none 0 0],agg:=true,tag:=5,fields:=[(0,3),(1,37),(2,37)]}),
 (44,slT 292),
 (144,{size:=6,bytes:=80,zero:=[.int .i64 0,.int .i64 0,.bool false,.slice none 0 0,.bool false,.slice none 0 0],agg:=true,tag:=5,fields:=[(0,3),(1,3),(2,48)]}),
 (195,{size:=3,bytes:=24,zero:=[.int .i64 0,.int .i64 0,.int .i64 0],agg:=true,tag:=5,fields:=[(0,3),(1,3),(2,3)]}),
 (146,{size:=6,bytes:=80,zero:=[.int .i64 0,.int .i64 0,.bool false,.slice none 0 0,.bool false,.slice none 0 0],agg:=true,tag:=5,fields:=[(0,3),(1,3),(2,48)]}),
 (177,slT 37),
 (101,slT 117),
 (27,slT 30),
 (58,{size:=3,bytes:=56,zero:=[.int .i64 0,.slice none 0 0,.slice none 0 0],agg:=true,tag:=5,fields:=[(0,3),(1,40),(2,40)]}),
 (255,{size:=4,bytes:=80,zero:=[.slice none 0 0,.int .i64 0,.slice none 0 0,.slice none 0 0],agg:=true,tag:=5,fields:=[(0,168),(2,37),(3,37)]}),
 (117,{size:=4,bytes:=32,zero:=[.int .i64 0,.int .i64 0,.int .i64 0,.int .i64 0],agg:=true,tag:=5,fields:=[(0,3),(1,3),(2,3),(3,3)]}),
 (31,slT 52),
 (70,slT 193),
 (120,{size:=2,bytes:=16,zero:=[.int .i64 0,.int .i64 0],agg:=true,tag:=5,fields:=[(0,3),(1,3)]}),
 (102,slT 120),
 (191,{size:=8,bytes:=64,zero:=[.int .i64 0,.int .i64 0,.int .i64 0,.int .i64 0,.int .i64 0,.int .i64 0,.int .i64 0,.int .i64 0],agg:=true,tag:=5,fields:=[(0,184),(4,3),(5,3),(6,3),(7,3)]}),
 (225,{size:=5,bytes:=40,zero:=[.int .i64 0,.int .i64 0,.int .i64 0,.int .i64 0,.int .i64 0],agg:=true,tag:=5,fields:=[(0,3),(1,3),(2,3),(3,3),(4,3)]}),
 (229,slT 228),
 (267,{size:=3,bytes:=24,zero:=[.int .i64 0,.int .i64 0,.int .i64 0],agg:=true,tag:=6,FY:=3,elem:=3}),
 (97,{size:=3,bytes:=24,zero:=[.int .i64 0,.int .i64 0,.int .i64 0],agg:=true,tag:=5,fields:=[(0,3),(1,3),(2,3)]}),
 (228,{size:=2,bytes:=16,zero:=[.int .i64 0,.int .i64 0],agg:=true,tag:=5,fields:=[(0,3),(1,3)]}),
 (36,slT 4),
 (129,{size:=4,bytes:=80,zero:=[.int .i64 0,.slice none 0 0,.slice none 0 0,.slice none 0 0],agg:=true,tag:=5,fields:=[(0,3),(1,40),(2,87),(3,40)]}),
 (220,{size:=3,bytes:=40,zero:=[.int .i64 0,.int .i64 0,.slice none 0 0],agg:=true,tag:=5,fields:=[(0,3),(1,3),(2,37)]}),
 (293,{size:=1,bytes:=8,zero:=[.int .u64 0],agg:=false,tag:=1,ik:=.u64}),
 (68,slT 186),
 (69,slT 191),
 (184,{size:=4,bytes:=32,zero:=[.int .i64 0,.int .i64 0,.int .i64 0,.int .i64 0],agg:=true,tag:=6,FY:=4,elem:=3}),
 (193,{size:=2,bytes:=16,zero:=[.int .i64 0,.int .i64 0],agg:=true,tag:=5,fields:=[(0,3),(1,3)]}),
 (186,{size:=5,bytes:=40,zero:=[.int .i64 0,.int .i64 0,.int .i64 0,.int .i64 0,.int .i64 0],agg:=true,tag:=5,fields:=[(0,184),(4,3)]}),
 (249,{size:=3,bytes:=72,zero:=[.slice none 0 0,.slice none 0 0,.slice none 0 0],agg:=true,tag:=5,fields:=[(0,209),(1,209),(2,206)]}),
 (281,{size:=2,bytes:=16,zero:=[.int .i64 0,.int .i64 0],agg:=true,tag:=5,fields:=[(0,3),(1,3)]}),
 (52,{size:=10,bytes:=176,zero:=[.bool false,.slice none 0 0,.bool false,.slice none 0 0,.bool false,.slice none 0 0,.bool false,.slice none 0 0,.slice none 0 0,.slice none 0 0],agg:=true,tag:=5,fields:=[(0,50),(8,37),(9,37)]}),
 (279,{size:=1,bytes:=8,zero:=[.map none],agg:=false,tag:=0}),
 (72,{size:=4,bytes:=80,zero:=[.slice none 0 0,.int .i64 0,.slice none 0 0,.slice none 0 0],agg:=true,tag:=5,fields:=[(0,68),(1,3),(2,69),(3,70)]}),
 (104,{size:=2,bytes:=48,zero:=[.slice none 0 0,.slice none 0 0],agg:=true,tag:=5,fields:=[(0,37),(1,102)]}),
 (108,{size:=3,bytes:=24,zero:=[.int .i64 0,.int .i64 0,.int .i64 0],agg:=true,tag:=5,fields:=[(0,3),(1,3),(2,3)]}),
 (9,{size:=1,bytes:=16,zero:=[.string ⟨#[]⟩],agg:=false,tag:=3}),
 (50,{size:=8,bytes:=128,zero:=[.bool false,.slice none 0 0,.bool false,.slice none 0 0,.bool false,.slice none 0 0,.bool false,.slice none 0 0],agg:=true,tag:=5,fields:=[(0,48),(4,48)]}),
 (149,{size:=1,bytes:=8,zero:=[.pointer none],agg:=false,tag:=7}),
 (308,{size:=1,bytes:=8,zero:=[.nilFunc],agg:=false,tag:=0}),
 (296,{size:=1,bytes:=8,zero:=[.nilFunc],agg:=false,tag:=0}),
 (152,{size:=80,bytes:=640,zero:=[.int .i64 0,.int .i64 0,.int .i64 0,.int .i64 0,.int .i64 0,.int .i64 0,.int .i64 0,.int .i64 0,.int .i64 0,.int .i64 0,.int .i64 0,.int .i64 0,.int .i64 0,.int .i64 0,.int .i64 0,.int .i64 0,.int .i64 0,.int .i64 0,.int .i64 0,.int .i64 0,.int .i64 0,.int .i64 0,.int .i64 0,.int .i64 0,.int .i64 0,.int .i64 0,.int .i64 0,.int .i64 0,.int .i64 0,.int .i64 0,.int .i64 0,.int .i64 0,.int .i64 0,.int .i64 0,.int .i64 0,.int .i64 0,.int .i64 0,.int .i64 0,.int .i64 0,.int .i64 0,.int .i64 0,.int .i64 0,.int .i64 0,.int .i64 0,.int .i64 0,.int .i64 0,.int .i64 0,.int .i64 0,.int .i64 0,.int .i64 0,.int .i64 0,.int .i64 0,.int .i64 0,.int .i64 0,.int .i64 0,.int .i64 0,.int .i64 0,.int .i64 0,.int .i64 0,.int .i64 0,.int .i64 0,.int .i64 0,.int .i64 0,.int .i64 0,.int .i64 0,.int .i64 0,.int .i64 0,.int .i64 0,.int .i64 0,.int .i64 0,.int .i64 0,.int .i64 0,.int .i64 0,.int .i64 0,.int .i64 0,.int .i64 0,.int .i64 0,.int .i64 0,.int .i64 0,.int .i64 0],agg:=true,tag:=6,FY:=20,elem:=141}),
 (239,{size:=1,bytes:=8,zero:=[.nilFunc],agg:=false,tag:=0}),
 (242,{size:=1,bytes:=8,zero:=[.nilFunc],agg:=false,tag:=0}),
 (153,{size:=1,bytes:=8,zero:=[.pointer none],agg:=false,tag:=7}),
 (174,{size:=1,bytes:=8,zero:=[.nilFunc],agg:=false,tag:=0}),
 (213,{size:=1,bytes:=8,zero:=[.nilFunc],agg:=false,tag:=0}),
 (5,{size:=1,bytes:=1,zero:=[.int .u8 0],agg:=false,tag:=1,ik:=.u8}),
 (310,{size:=1,bytes:=8,zero:=[.nilFunc],agg:=false,tag:=0}),
 (315,{size:=1,bytes:=8,zero:=[.nilFunc],agg:=false,tag:=0}),
 (8,{size:=4,bytes:=24,zero:=[.int .i64 0,.int .i64 0,.bool false,.int .u8 0],agg:=true,tag:=5,fields:=[(0,2),(1,3),(2,4),(3,6)]}),
 (10,{size:=1,bytes:=16,zero:=[.string ⟨#[]⟩],agg:=false,tag:=3}),
 (11,{size:=1,bytes:=16,zero:=[.string ⟨#[]⟩],agg:=false,tag:=3}),
 (14,{size:=2,bytes:=24,zero:=[.string ⟨#[]⟩,.int .u64 0],agg:=true,tag:=5,fields:=[(0,9),(1,12)]}),
 (15,{size:=1,bytes:=8,zero:=[.pointer none],agg:=false,tag:=7}),
 (16,{size:=1,bytes:=8,zero:=[.pointer none],agg:=false,tag:=7}),
 (19,{size:=1,bytes:=8,zero:=[.pointer none],agg:=true,tag:=5,fields:=[(0,17)]}),
 (17,{size:=1,bytes:=8,zero:=[.pointer none],agg:=false,tag:=7}),
 (353,{size:=1,bytes:=1,zero:=[.int .u8 0],agg:=false,tag:=1,ik:=.u8}),
 (2,{size:=1,bytes:=8,zero:=[.int .i64 0],agg:=false,tag:=1,ik:=.i64}),
 (6,{size:=1,bytes:=1,zero:=[.int .u8 0],agg:=false,tag:=1,ik:=.u8}),
 (12,{size:=1,bytes:=8,zero:=[.int .u64 0],agg:=false,tag:=1,ik:=.u64})]
def τ:o8:=Ah aD7
theorem hτ:gH PG τ:=aCf (l:=aD7) (by kernel_rfl)
theorem dZ:PG.follows .mixedOrders=true:=by rfl
noncomputable def bd (f:Func):Code:=match f.body with
 |some c=>c
 |none=>.skip
theorem dJ{f:FuncId}{fn:Func}(hf:PG.funcs[f]? =some fn)(hb:fn.body=some (bd fn))(Va:(fn.name== "runtime.NumGoroutine")=false)
  (hn:args.size<=fn.ntmps) (Oc:codeOk fn.ntmps (bd fn)=true) (h:oM PG τ w.heap.size (bd fn) (fQ 0 args.toList) [] 0 [] w (aCj τ w.heap.size fn.results.toList R)):eA PG f args w R:=
 ⟨Lw hf hb Va,H2 hτ hf hb hn Oc h⟩
abbrev T.int:Nat:=3
abbrev T.bool:Nat:=4
abbrev T.string:Nat:=9
abbrev T.Frame:Nat:=26
abbrev T.Lint:Nat:=37
abbrev T.fz:Nat:=40
abbrev T.Int:Nat:=46
abbrev T.Rat:Nat:=48
abbrev T.Ef:Nat:=87
abbrev T.CO:Nat:=97
abbrev T.aDt:Nat:=141
abbrev T.Bar:Nat:=144
abbrev T.Ax:Nat:=146
abbrev T.nat:Nat:=155
abbrev T.number:Nat:=157
abbrev T.eC:Nat:=159
abbrev T.eG:Nat:=168
abbrev T.Node:Nat:=195
abbrev T.row:Nat:=209
abbrev T.solved:Nat:=249
abbrev T.df:Nat:=255
abbrev T.aAX:Nat:=267
abbrev T.AF:Nat:=279
abbrev T.GJ:Nat:=281
abbrev T.uint32:Nat:=292
abbrev N.kZ:Nat:=7
abbrev N.rZ:Nat:=14
abbrev N.r8:Nat:=16
abbrev N.yT:Nat:=17
abbrev N.r9:Nat:=19
abbrev N.zT:Nat:=21
abbrev N.rb:Nat:=27
abbrev N.zU:Nat:=30
abbrev N.rf:Nat:=35
abbrev N.ui:Nat:=36
abbrev N.rh:Nat:=37
abbrev N.zV:Nat:=38
abbrev N.nd:Nat:=39
abbrev N.rk:Nat:=40
abbrev N.nf:Nat:=41
abbrev N.qh:Nat:=42
abbrev N.qi:Nat:=43
abbrev N.rn:Nat:=44
abbrev N.zW:Nat:=45
abbrev N.zX:Nat:=49
abbrev N.zY:Nat:=51
abbrev N.yU:Nat:=58
abbrev N.CP:Nat:=59
abbrev N.k6:Nat:=61
abbrev N.ot:Nat:=62
abbrev N.zZ:Nat:=63
abbrev N.Eg:Nat:=64
abbrev N.Eh:Nat:=65
abbrev N.Ei:Nat:=66
abbrev N.Ej:Nat:=67
abbrev N.CQ:Nat:=69
abbrev N.tp:Nat:=71
abbrev N.rp:Nat:=72
abbrev N.ry:Nat:=73
abbrev N.yV:Nat:=74
abbrev N.rz:Nat:=75
abbrev N.mx:Nat:=76
abbrev N.my:Nat:=77
abbrev N.z4:Nat:=78
abbrev N.mz:Nat:=79
abbrev N.tq:Nat:=80
abbrev N.tt:Nat:=81
abbrev N.tu:Nat:=82
abbrev N.z5:Nat:=83
abbrev N.wX:Nat:=84
abbrev N.qj:Nat:=85
abbrev N.jo:Nat:=86
abbrev N.sA:Nat:=87
abbrev N.js:Nat:=88
abbrev N.iE:Nat:=89
abbrev N.z6:Nat:=90
abbrev N.wY:Nat:=91
abbrev N.z7:Nat:=92
abbrev N.uj:Nat:=95
abbrev N.wZ:Nat:=96
abbrev N.tv:Nat:=104
abbrev N.wh:Nat:=108
abbrev N.wi:Nat:=112
abbrev N.Ek:Nat:=113
abbrev N.uo:Nat:=114
abbrev N.IK:Nat:=115
abbrev N.CR:Nat:=116
abbrev N.z8:Nat:=117
abbrev N.lu:Nat:=118
abbrev N.nh:Nat:=119
abbrev N.ni:Nat:=120
abbrev N.nk:Nat:=121
abbrev N.wj:Nat:=122
abbrev N.ew:Nat:=123
abbrev N.wk:Nat:=124
abbrev N.iW:Nat:=125
abbrev N.lz:Nat:=126
abbrev N.ou:Nat:=127
abbrev N.zc:Nat:=128
abbrev N.CS:Nat:=129
abbrev N.wm:Nat:=130
abbrev N.uq:Nat:=131
abbrev N.zd:Nat:=139
abbrev N.l7:Nat:=152
abbrev N.CT:Nat:=157
abbrev N.gE:Nat:=158
abbrev N.wu:Nat:=159
abbrev N.sB:Nat:=160
abbrev N.zf:Nat:=161
abbrev N.wv:Nat:=162
abbrev N.El:Nat:=163
abbrev N.zg:Nat:=164
abbrev N.zh:Nat:=165
abbrev N.wx:Nat:=166
abbrev N.CU:Nat:=167
abbrev N.oT:Nat:=168
abbrev N.zj:Nat:=169
abbrev N.mA:Nat:=170
abbrev N.nm:Nat:=171
abbrev N.CV:Nat:=172
abbrev N.np:Nat:=173
abbrev N.nA:Nat:=174
abbrev N.ov:Nat:=175
abbrev N.l8:Nat:=176
abbrev N.tw:Nat:=177
abbrev N.sC:Nat:=178
abbrev N.tx:Nat:=179
abbrev N.yW:Nat:=180
abbrev N.tz:Nat:=181
abbrev N.uA:Nat:=182
abbrev N.ow:Nat:=184
abbrev N.fy:Nat:=187
abbrev N.zl:Nat:=188
abbrev N.Em:Nat:=190
abbrev N.zm:Nat:=191
abbrev N.wy:Nat:=192
abbrev N.qB:Nat:=193
abbrev N.lO:Nat:=194
abbrev N.nB:Nat:=195
abbrev N.wz:Nat:=196
abbrev N.ox:Nat:=197
abbrev N.ns:Nat:=198
abbrev N.nt:Nat:=199
abbrev N.fH:Nat:=200
abbrev N.nC:Nat:=201
abbrev N.nu:Nat:=202
abbrev N.uB:Nat:=203
abbrev N.xA:Nat:=204
abbrev N.fJ:Nat:=205
abbrev N.fY:Nat:=206
abbrev N.En:Nat:=207
abbrev N.oU:Nat:=208
abbrev N.oA:Nat:=209
abbrev N.l9:Nat:=210
abbrev N.yX:Nat:=211
abbrev N.Eo:Nat:=212
abbrev N.qC:Nat:=232
abbrev N.Ep:Nat:=233
abbrev N.oV:Nat:=234
abbrev N.yY:Nat:=235
abbrev N.oB:Nat:=236
abbrev N.qk:Nat:=237
abbrev N.xB:Nat:=238
abbrev N.gM:Nat:=239
abbrev N.IL:Nat:=240
abbrev N.CW:Nat:=241
abbrev N.xC:Nat:=242
abbrev N.CX:Nat:=243
abbrev N.uC:Nat:=244
abbrev N.xD:Nat:=245
abbrev N.xE:Nat:=246
abbrev N.uD:Nat:=247
abbrev N.ql:Nat:=248
abbrev N.mB:Nat:=249
abbrev N.oC:Nat:=250
abbrev N.qm:Nat:=251
abbrev N.sD:Nat:=252
abbrev N.gS:Nat:=253
abbrev N.sE:Nat:=260
abbrev N.qn:Nat:=261
abbrev N.CY:Nat:=262
abbrev N.sF:Nat:=263
abbrev N.CZ:Nat:=266
abbrev N.Ca:Nat:=267
abbrev Ent(g:Nat)(f:Func):Prop:=∀{args:Array Value} {w:World} {R:Ending->World->Prop},args.size<=f.ntmps->oM PG τ w.heap.size (bd f) (fQ 0 args.toList) [] 0 [] w (aCj τ w.heap.size f.results.toList R)->eA PG g args w R
theorem nS:Ent N.kZ Tryz.f7:=fun hn h=>dJ Tryz.func7 (by rfl) (by rfl) hn (by rfl) h
theorem xF:Ent N.rZ Tryz.f14:=fun hn h=>dJ Tryz.func14 (by rfl) (by rfl) hn (by rfl) h
theorem xG:Ent N.r8 Tryz.f16:=fun hn h=>dJ Tryz.func16 (by rfl) (by rfl) hn (by rfl) h
theorem GK:Ent N.yT Tryz.f17:=fun hn h=>dJ Tryz.func17 (by rfl) (by rfl) hn (by rfl) h
theorem Cb:Ent N.r9 Tryz.f19:=fun hn h=>dJ Tryz.func19 (by rfl) (by rfl) hn (by rfl) h
theorem Cc:Ent N.zT Tryz.f21:=fun hn h=>dJ Tryz.func21 (by rfl) (by rfl) hn (by rfl) h
theorem xH:Ent N.rb Tryz.f27:=fun hn h=>dJ Tryz.func27 (by rfl) (by rfl) hn (by rfl) h
theorem Cd:Ent N.zU Tryz.f30:=fun hn h=>dJ Tryz.func30 (by rfl) (by rfl) hn (by rfl) h
theorem xI:Ent N.rf Tryz.f35:=fun hn h=>dJ Tryz.func35 (by rfl) (by rfl) hn (by rfl) h
theorem Da:Ent N.ui Tryz.f36:=fun hn h=>dJ Tryz.func36 (by rfl) (by rfl) hn (by rfl) h
theorem sG:Ent N.rh Tryz.f37:=fun hn h=>dJ Tryz.func37 (by rfl) (by rfl) hn (by rfl) h
theorem Ce:Ent N.zV Tryz.f38:=fun hn h=>dJ Tryz.func38 (by rfl) (by rfl) hn (by rfl) h
theorem sH:Ent N.nd Tryz.f39:=fun hn h=>dJ Tryz.func39 (by rfl) (by rfl) hn (by rfl) h
theorem xJ:Ent N.rk Tryz.f40:=fun hn h=>dJ Tryz.func40 (by rfl) (by rfl) hn (by rfl) h
theorem Cg:Ent N.nf Tryz.f41:=fun hn h=>dJ Tryz.func41 (by rfl) (by rfl) hn (by rfl) h
theorem uu:Ent N.qh Tryz.f42:=fun hn h=>dJ Tryz.func42 (by rfl) (by rfl) hn (by rfl) h
theorem uv:Ent N.qi Tryz.f43:=fun hn h=>dJ Tryz.func43 (by rfl) (by rfl) hn (by rfl) h
theorem xK:Ent N.rn Tryz.f44:=fun hn h=>dJ Tryz.func44 (by rfl) (by rfl) hn (by rfl) h
theorem Ch:Ent N.zW Tryz.f45:=fun hn h=>dJ Tryz.func45 (by rfl) (by rfl) hn (by rfl) h
theorem Ci:Ent N.zX Tryz.f49:=fun hn h=>dJ Tryz.func49 (by rfl) (by rfl) hn (by rfl) h
theorem Cj:Ent N.zY Tryz.f51:=fun hn h=>dJ Tryz.func51 (by rfl) (by rfl) hn (by rfl) h
theorem GL:Ent N.yU Tryz.f58:=fun hn h=>dJ Tryz.func58 (by rfl) (by rfl) hn (by rfl) h
theorem Db:Ent N.CP Tryz.f59:=fun hn h=>dJ Tryz.func59 (by rfl) (by rfl) hn (by rfl) h
theorem AG:Ent N.k6 Tryz.f61:=fun hn h=>dJ Tryz.func61 (by rfl) (by rfl) hn (by rfl) h
theorem tX:Ent N.ot Tryz.f62:=fun hn h=>dJ Tryz.func62 (by rfl) (by rfl) hn (by rfl) h
theorem Ck:Ent N.zZ Tryz.f63:=fun hn h=>dJ Tryz.func63 (by rfl) (by rfl) hn (by rfl) h
theorem GM:Ent N.Eg Tryz.f64:=fun hn h=>dJ Tryz.func64 (by rfl) (by rfl) hn (by rfl) h
theorem GN:Ent N.Eh Tryz.f65:=fun hn h=>dJ Tryz.func65 (by rfl) (by rfl) hn (by rfl) h
theorem GO:Ent N.Ei Tryz.f66:=fun hn h=>dJ Tryz.func66 (by rfl) (by rfl) hn (by rfl) h
theorem GP:Ent N.Ej Tryz.f67:=fun hn h=>dJ Tryz.func67 (by rfl) (by rfl) hn (by rfl) h
theorem Dc:Ent N.CQ Tryz.f69:=fun hn h=>dJ Tryz.func69 (by rfl) (by rfl) hn (by rfl) h
theorem yZ:Ent N.tp Tryz.f71:=fun hn h=>dJ Tryz.func71 (by rfl) (by rfl) hn (by rfl) h
theorem xL:Ent N.rp Tryz.f72:=fun hn h=>dJ Tryz.func72 (by rfl) (by rfl) hn (by rfl) h
theorem xM:Ent N.ry Tryz.f73:=fun hn h=>dJ Tryz.func73 (by rfl) (by rfl) hn (by rfl) h
theorem GQ:Ent N.yV Tryz.f74:=fun hn h=>dJ Tryz.func74 (by rfl) (by rfl) hn (by rfl) h
theorem xN:Ent N.rz Tryz.f75:=fun hn h=>dJ Tryz.func75 (by rfl) (by rfl) hn (by rfl) h
theorem qq:Ent N.mx Tryz.f76:=fun hn h=>dJ Tryz.func76 (by rfl) (by rfl) hn (by rfl) h
theorem qt:Ent N.my Tryz.f77:=fun hn h=>dJ Tryz.func77 (by rfl) (by rfl) hn (by rfl) h
theorem Cl:Ent N.z4 Tryz.f78:=fun hn h=>dJ Tryz.func78 (by rfl) (by rfl) hn (by rfl) h
theorem qu:Ent N.mz Tryz.f79:=fun hn h=>dJ Tryz.func79 (by rfl) (by rfl) hn (by rfl) h
theorem y8:Ent N.tq Tryz.f80:=fun hn h=>dJ Tryz.func80 (by rfl) (by rfl) hn (by rfl) h
theorem y9:Ent N.tt Tryz.f81:=fun hn h=>dJ Tryz.func81 (by rfl) (by rfl) hn (by rfl) h
theorem ya:Ent N.tu Tryz.f82:=fun hn h=>dJ Tryz.func82 (by rfl) (by rfl) hn (by rfl) h
theorem Cm:Ent N.z5 Tryz.f83:=fun hn h=>dJ Tryz.func83 (by rfl) (by rfl) hn (by rfl) h
theorem AH:Ent N.wX Tryz.f84:=fun hn h=>dJ Tryz.func84 (by rfl) (by rfl) hn (by rfl) h
theorem uw:Ent N.qj Tryz.f85:=fun hn h=>dJ Tryz.func85 (by rfl) (by rfl) hn (by rfl) h
theorem qD:Ent N.jo Tryz.f86:=fun hn h=>dJ Tryz.func86 (by rfl) (by rfl) hn (by rfl) h
theorem xO:Ent N.sA Tryz.f87:=fun hn h=>dJ Tryz.func87 (by rfl) (by rfl) hn (by rfl) h
theorem mU:Ent N.js Tryz.f88:=fun hn h=>dJ Tryz.func88 (by rfl) (by rfl) hn (by rfl) h
theorem kK:Ent N.iE Tryz.f89:=fun hn h=>dJ Tryz.func89 (by rfl) (by rfl) hn (by rfl) h
theorem Cn:Ent N.z6 Tryz.f90:=fun hn h=>dJ Tryz.func90 (by rfl) (by rfl) hn (by rfl) h
theorem AI:Ent N.wY Tryz.f91:=fun hn h=>dJ Tryz.func91 (by rfl) (by rfl) hn (by rfl) h
theorem Co:Ent N.z7 Tryz.f92:=fun hn h=>dJ Tryz.func92 (by rfl) (by rfl) hn (by rfl) h
theorem Dd:Ent N.uj Tryz.f95:=fun hn h=>dJ Tryz.func95 (by rfl) (by rfl) hn (by rfl) h
theorem AJ:Ent N.wZ Tryz.f96:=fun hn h=>dJ Tryz.func96 (by rfl) (by rfl) hn (by rfl) h
theorem yb:Ent N.tv Tryz.f104:=fun hn h=>dJ Tryz.func104 (by rfl) (by rfl) hn (by rfl) h
theorem AK:Ent N.wh Tryz.f108:=fun hn h=>dJ Tryz.func108 (by rfl) (by rfl) hn (by rfl) h
theorem AM:Ent N.wi Tryz.f112:=fun hn h=>dJ Tryz.func112 (by rfl) (by rfl) hn (by rfl) h
theorem GR:Ent N.Ek Tryz.f113:=fun hn h=>dJ Tryz.func113 (by rfl) (by rfl) hn (by rfl) h
theorem uE:Ent N.uo Tryz.f114:=fun hn h=>dJ Tryz.func114 (by rfl) (by rfl) hn (by rfl) h
theorem IM:Ent N.IK Tryz.f115:=fun hn h=>dJ Tryz.func115 (by rfl) (by rfl) hn (by rfl) h
theorem De:Ent N.CR Tryz.f116:=fun hn h=>dJ Tryz.func116 (by rfl) (by rfl) hn (by rfl) h
theorem Cp:Ent N.z8 Tryz.f117:=fun hn h=>dJ Tryz.func117 (by rfl) (by rfl) hn (by rfl) h
theorem qE:Ent N.lu Tryz.f118:=fun hn h=>dJ Tryz.func118 (by rfl) (by rfl) hn (by rfl) h
theorem sI:Ent N.nh Tryz.f119:=fun hn h=>dJ Tryz.func119 (by rfl) (by rfl) hn (by rfl) h
theorem sJ:Ent N.ni Tryz.f120:=fun hn h=>dJ Tryz.func120 (by rfl) (by rfl) hn (by rfl) h
theorem sK:Ent N.nk Tryz.f121:=fun hn h=>dJ Tryz.func121 (by rfl) (by rfl) hn (by rfl) h
theorem AN:Ent N.wj Tryz.f122:=fun hn h=>dJ Tryz.func122 (by rfl) (by rfl) hn (by rfl) h
theorem gN:Ent N.ew Tryz.f123:=fun hn h=>dJ Tryz.func123 (by rfl) (by rfl) hn (by rfl) h
theorem AO:Ent N.wk Tryz.f124:=fun hn h=>dJ Tryz.func124 (by rfl) (by rfl) hn (by rfl) h
theorem tY:Ent N.iW Tryz.f125:=fun hn h=>dJ Tryz.func125 (by rfl) (by rfl) hn (by rfl) h
theorem qF:Ent N.lz Tryz.f126:=fun hn h=>dJ Tryz.func126 (by rfl) (by rfl) hn (by rfl) h
theorem tZ:Ent N.ou Tryz.f127:=fun hn h=>dJ Tryz.func127 (by rfl) (by rfl) hn (by rfl) h
theorem Cq:Ent N.zc Tryz.f128:=fun hn h=>dJ Tryz.func128 (by rfl) (by rfl) hn (by rfl) h
theorem Df:Ent N.CS Tryz.f129:=fun hn h=>dJ Tryz.func129 (by rfl) (by rfl) hn (by rfl) h
theorem AP:Ent N.wm Tryz.f130:=fun hn h=>dJ Tryz.func130 (by rfl) (by rfl) hn (by rfl) h
theorem Dh:Ent N.uq Tryz.f131:=fun hn h=>dJ Tryz.func131 (by rfl) (by rfl) hn (by rfl) h
theorem Cr:Ent N.zd Tryz.f139:=fun hn h=>dJ Tryz.func139 (by rfl) (by rfl) hn (by rfl) h
theorem oy:Ent N.l7 Tryz.f152:=fun hn h=>dJ Tryz.func152 (by rfl) (by rfl) hn (by rfl) h
theorem Di:Ent N.CT Tryz.f157:=fun hn h=>dJ Tryz.func157 (by rfl) (by rfl) hn (by rfl) h
theorem kL:Ent N.gE Tryz.f158:=fun hn h=>dJ Tryz.func158 (by rfl) (by rfl) hn (by rfl) h
theorem AQ:Ent N.wu Tryz.f159:=fun hn h=>dJ Tryz.func159 (by rfl) (by rfl) hn (by rfl) h
theorem xP:Ent N.sB Tryz.f160:=fun hn h=>dJ Tryz.func160 (by rfl) (by rfl) hn (by rfl) h
theorem Cs:Ent N.zf Tryz.f161:=fun hn h=>dJ Tryz.func161 (by rfl) (by rfl) hn (by rfl) h
theorem AR:Ent N.wv Tryz.f162:=fun hn h=>dJ Tryz.func162 (by rfl) (by rfl) hn (by rfl) h
theorem GS:Ent N.El Tryz.f163:=fun hn h=>dJ Tryz.func163 (by rfl) (by rfl) hn (by rfl) h
theorem Ct:Ent N.zg Tryz.f164:=fun hn h=>dJ Tryz.func164 (by rfl) (by rfl) hn (by rfl) h
theorem Cu:Ent N.zh Tryz.f165:=fun hn h=>dJ Tryz.func165 (by rfl) (by rfl) hn (by rfl) h
theorem AS:Ent N.wx Tryz.f166:=fun hn h=>dJ Tryz.func166 (by rfl) (by rfl) hn (by rfl) h
theorem Dj:Ent N.CU Tryz.f167:=fun hn h=>dJ Tryz.func167 (by rfl) (by rfl) hn (by rfl) h
theorem yc:Ent N.oT Tryz.f168:=fun hn h=>dJ Tryz.func168 (by rfl) (by rfl) hn (by rfl) h
theorem Cw:Ent N.zj Tryz.f169:=fun hn h=>dJ Tryz.func169 (by rfl) (by rfl) hn (by rfl) h
theorem qG:Ent N.mA Tryz.f170:=fun hn h=>dJ Tryz.func170 (by rfl) (by rfl) hn (by rfl) h
theorem sL:Ent N.nm Tryz.f171:=fun hn h=>dJ Tryz.func171 (by rfl) (by rfl) hn (by rfl) h
theorem IN:Ent N.CV Tryz.f172:=fun hn h=>dJ Tryz.func172 (by rfl) (by rfl) hn (by rfl) h
theorem sM:Ent N.np Tryz.f173:=fun hn h=>dJ Tryz.func173 (by rfl) (by rfl) hn (by rfl) h
theorem qv:Ent N.nA Tryz.f174:=fun hn h=>dJ Tryz.func174 (by rfl) (by rfl) hn (by rfl) h
theorem ta:Ent N.ov Tryz.f175:=fun hn h=>dJ Tryz.func175 (by rfl) (by rfl) hn (by rfl) h
theorem oz:Ent N.l8 Tryz.f176:=fun hn h=>dJ Tryz.func176 (by rfl) (by rfl) hn (by rfl) h
theorem yd:Ent N.tw Tryz.f177:=fun hn h=>dJ Tryz.func177 (by rfl) (by rfl) hn (by rfl) h
theorem xQ:Ent N.sC Tryz.f178:=fun hn h=>dJ Tryz.func178 (by rfl) (by rfl) hn (by rfl) h
theorem ye:Ent N.tx Tryz.f179:=fun hn h=>dJ Tryz.func179 (by rfl) (by rfl) hn (by rfl) h
theorem GU:Ent N.yW Tryz.f180:=fun hn h=>dJ Tryz.func180 (by rfl) (by rfl) hn (by rfl) h
theorem yf:Ent N.tz Tryz.f181:=fun hn h=>dJ Tryz.func181 (by rfl) (by rfl) hn (by rfl) h
theorem yg:Ent N.uA Tryz.f182:=fun hn h=>dJ Tryz.func182 (by rfl) (by rfl) hn (by rfl) h
theorem tc:Ent N.ow Tryz.f184:=fun hn h=>dJ Tryz.func184 (by rfl) (by rfl) hn (by rfl) h
theorem jD:Ent N.fy Tryz.f187:=fun hn h=>dJ Tryz.func187 (by rfl) (by rfl) hn (by rfl) h
theorem Cx:Ent N.zl Tryz.f188:=fun hn h=>dJ Tryz.func188 (by rfl) (by rfl) hn (by rfl) h
theorem GV:Ent N.Em Tryz.f190:=fun hn h=>dJ Tryz.func190 (by rfl) (by rfl) hn (by rfl) h
theorem Cy:Ent N.zm Tryz.f191:=fun hn h=>dJ Tryz.func191 (by rfl) (by rfl) hn (by rfl) h
theorem AT:Ent N.wy Tryz.f192:=fun hn h=>dJ Tryz.func192 (by rfl) (by rfl) hn (by rfl) h
theorem AU:Ent N.qB Tryz.f193:=fun hn h=>dJ Tryz.func193 (by rfl) (by rfl) hn (by rfl) h
theorem yh:Ent N.lO Tryz.f194:=fun hn h=>dJ Tryz.func194 (by rfl) (by rfl) hn (by rfl) h
theorem qw:Ent N.nB Tryz.f195:=fun hn h=>dJ Tryz.func195 (by rfl) (by rfl) hn (by rfl) h
theorem AV:Ent N.wz Tryz.f196:=fun hn h=>dJ Tryz.func196 (by rfl) (by rfl) hn (by rfl) h
theorem td:Ent N.ox Tryz.f197:=fun hn h=>dJ Tryz.func197 (by rfl) (by rfl) hn (by rfl) h
theorem sN:Ent N.ns Tryz.f198:=fun hn h=>dJ Tryz.func198 (by rfl) (by rfl) hn (by rfl) h
theorem sO:Ent N.nt Tryz.f199:=fun hn h=>dJ Tryz.func199 (by rfl) (by rfl) hn (by rfl) h
theorem qH:Ent N.fH Tryz.f200:=fun hn h=>dJ Tryz.func200 (by rfl) (by rfl) hn (by rfl) h
theorem qz:Ent N.nC Tryz.f201:=fun hn h=>dJ Tryz.func201 (by rfl) (by rfl) hn (by rfl) h
theorem sP:Ent N.nu Tryz.f202:=fun hn h=>dJ Tryz.func202 (by rfl) (by rfl) hn (by rfl) h
theorem yi:Ent N.uB Tryz.f203:=fun hn h=>dJ Tryz.func203 (by rfl) (by rfl) hn (by rfl) h
theorem AW:Ent N.xA Tryz.f204:=fun hn h=>dJ Tryz.func204 (by rfl) (by rfl) hn (by rfl) h
theorem gg:Ent N.fJ Tryz.f205:=fun hn h=>dJ Tryz.func205 (by rfl) (by rfl) hn (by rfl) h
theorem iM:Ent N.fY Tryz.f206:=fun hn h=>dJ Tryz.func206 (by rfl) (by rfl) hn (by rfl) h
theorem GW:Ent N.En Tryz.f207:=fun hn h=>dJ Tryz.func207 (by rfl) (by rfl) hn (by rfl) h
theorem yj:Ent N.oU Tryz.f208:=fun hn h=>dJ Tryz.func208 (by rfl) (by rfl) hn (by rfl) h
theorem sQ:Ent N.oA Tryz.f209:=fun hn h=>dJ Tryz.func209 (by rfl) (by rfl) hn (by rfl) h
theorem pA:Ent N.l9 Tryz.f210:=fun hn h=>dJ Tryz.func210 (by rfl) (by rfl) hn (by rfl) h
theorem GX:Ent N.yX Tryz.f211:=fun hn h=>dJ Tryz.func211 (by rfl) (by rfl) hn (by rfl) h
theorem xR:Ent N.Eo Tryz.f212:=fun hn h=>dJ Tryz.func212 (by rfl) (by rfl) hn (by rfl) h
theorem AX:Ent N.qC Tryz.f232:=fun hn h=>dJ Tryz.func232 (by rfl) (by rfl) hn (by rfl) h
theorem GY:Ent N.Ep Tryz.f233:=fun hn h=>dJ Tryz.func233 (by rfl) (by rfl) hn (by rfl) h
theorem yl:Ent N.oV Tryz.f234:=fun hn h=>dJ Tryz.func234 (by rfl) (by rfl) hn (by rfl) h
theorem GZ:Ent N.yY Tryz.f235:=fun hn h=>dJ Tryz.func235 (by rfl) (by rfl) hn (by rfl) h
theorem sR:Ent N.oB Tryz.f236:=fun hn h=>dJ Tryz.func236 (by rfl) (by rfl) hn (by rfl) h
theorem uy:Ent N.qk Tryz.f237:=fun hn h=>dJ Tryz.func237 (by rfl) (by rfl) hn (by rfl) h
theorem AY:Ent N.xB Tryz.f238:=fun hn h=>dJ Tryz.func238 (by rfl) (by rfl) hn (by rfl) h
theorem jX:Ent N.gM Tryz.f239:=fun hn h=>dJ Tryz.func239 (by rfl) (by rfl) hn (by rfl) h
theorem IP:Ent N.IL Tryz.f240:=fun hn h=>dJ Tryz.func240 (by rfl) (by rfl) hn (by rfl) h
theorem Dk:Ent N.CW Tryz.f241:=fun hn h=>dJ Tryz.func241 (by rfl) (by rfl) hn (by rfl) h
theorem AZ:Ent N.xC Tryz.f242:=fun hn h=>dJ Tryz.func242 (by rfl) (by rfl) hn (by rfl) h
theorem Dl:Ent N.CX Tryz.f243:=fun hn h=>dJ Tryz.func243 (by rfl) (by rfl) hn (by rfl) h
theorem ym:Ent N.uC Tryz.f244:=fun hn h=>dJ Tryz.func244 (by rfl) (by rfl) hn (by rfl) h
theorem Aa:Ent N.xD Tryz.f245:=fun hn h=>dJ Tryz.func245 (by rfl) (by rfl) hn (by rfl) h
theorem Ab:Ent N.xE Tryz.f246:=fun hn h=>dJ Tryz.func246 (by rfl) (by rfl) hn (by rfl) h
theorem yn:Ent N.uD Tryz.f247:=fun hn h=>dJ Tryz.func247 (by rfl) (by rfl) hn (by rfl) h
theorem uz:Ent N.ql Tryz.f248:=fun hn h=>dJ Tryz.func248 (by rfl) (by rfl) hn (by rfl) h
theorem qI:Ent N.mB Tryz.f249:=fun hn h=>dJ Tryz.func249 (by rfl) (by rfl) hn (by rfl) h
theorem sS:Ent N.oC Tryz.f250:=fun hn h=>dJ Tryz.func250 (by rfl) (by rfl) hn (by rfl) h
theorem vA:Ent N.qm Tryz.f251:=fun hn h=>dJ Tryz.func251 (by rfl) (by rfl) hn (by rfl) h
theorem xS:Ent N.sD Tryz.f252:=fun hn h=>dJ Tryz.func252 (by rfl) (by rfl) hn (by rfl) h
theorem j7:Ent N.gS Tryz.f253:=fun hn h=>dJ Tryz.func253 (by rfl) (by rfl) hn (by rfl) h
theorem xT:Ent N.sE Tryz.f260:=fun hn h=>dJ Tryz.func260 (by rfl) (by rfl) hn (by rfl) h
theorem vB:Ent N.qn Tryz.f261:=fun hn h=>dJ Tryz.func261 (by rfl) (by rfl) hn (by rfl) h
theorem Dm:Ent N.CY Tryz.f262:=fun hn h=>dJ Tryz.func262 (by rfl) (by rfl) hn (by rfl) h
theorem xU:Ent N.sF Tryz.f263:=fun hn h=>dJ Tryz.func263 (by rfl) (by rfl) hn (by rfl) h
theorem Dn:Ent N.CZ Tryz.f266:=fun hn h=>dJ Tryz.func266 (by rfl) (by rfl) hn (by rfl) h
theorem Dp:Ent N.Ca Tryz.f267:=fun hn h=>dJ Tryz.func267 (by rfl) (by rfl) hn (by rfl) h
theorem k7{H:Hp}{nx:Nat}{iv:Iv}{w1 w':World}(hS:Old S w)(hw:dg w.heap.size w w1)(r:Rel H nx iv w.heap.size w1 O w'){ad:Addr}{j:Nat}{x:Value}(hs:S ad.block)(h:w.cell? (ad.add j)=some x):w'.cell? (ad.add j)=some x:=by
 rw[(hw.tr r.cS).cell (by rw[dD];exact hS _ hs)];exact h
theorem IQ(a:Option Addr)(c:Nat):(if (c:Int)=0 then a else a.map fun x=>x.add (Int.toNat 0*1))=a:=by
 split
 ·rfl
 ·cases a<;>rfl
theorem Ac(h:ls[k]? =some 0):eH (ls.take (k+1))=eH (ls.take k):=by
 rw[List.take_add_one,h];exact ll _
theorem Dq{x:Nat}(h:ls[k]? =some x)(hx:x≠0):eH (ls.take (k+1))=ls.take (k+1):=by
 rw[List.take_add_one,h];exact pW _ hx
theorem fw(hS:Old S w)(h:dV w S v ls):eA PG N.ns #[v] w (eL w fun v' w2=>dV w2 S v' (eH ls)):=by
 obtain⟨a,c,rfl,Tb,hc⟩:=h.sl;have hle:=h.le;have Ps:=h.lm;refine sN (by simp) ?_
 refine⟨Nat×World,fun x=>⟨[(0,sV a x.1 c)],[],0,[],x.2⟩,fun x=>x.1,
  fun x=>x.1<=ls.length∧dg w.heap.size w x.2∧eH ls=eH (ls.take x.1),?_,?_⟩
 ·intro O w' r;exact⟨(ls.length,w'),⟨Nat.le_refl _,r.cS,by simp⟩,Sub.reset r ⟨rfl,trivial⟩ ⟨trivial,trivial⟩⟩
 ·rintro⟨k,w1⟩ ⟨hk,hw,hF⟩;dsimp only at hk hw hF ⊢;have Xu:dg w.heap.size w w1->eH ls=ls.take k->∀O w2,Rel [] 0 [] w.heap.size w1 O w2->dV w2 S (.slice a k c) (eH ls):=fun hw he O w2 r=>by
   rw[he];refine⟨Ps.take k,by simp;omega,a,c,by simp;omega,by simp;omega,fun j x hx=>?_⟩;have Sp:j<k:=by
    have:=(aE.1 hx).1;simp at this;omega
   rw[bZ Sp]at hx;obtain⟨ad,h1,h2,h3⟩:=hc j x hx;exact⟨ad,h1,h2,k7 hS hw r h2 h3⟩
  refine dG.mk ?_ ?_<;>intro h
  ·have h:0<k:=by simpa using h
   obtain⟨k,rfl⟩:∃q,k=q+1:=⟨k-1,by omega⟩
   obtain⟨x,hx⟩:∃x,ls[k]? =some x:=⟨_,aB (by omega)⟩
   obtain⟨ad,ha,hs,Sb⟩:=hc k x hx;refine⟨(k:Int),wo,ad,ha,by omega,.int .u32 x,fun O w' r=>by rw[aF,aY];exact k7 hS hw r hs Sb,?_⟩;refine dG.mk ?_ ?_<;>intro h2
   ·have h2:x=0:=by have:=eq_of_beq h2;omega
    subst h2;refine⟨(k:Int),wo,⟨by omega,by omega,by omega⟩,a,k,c,IQ a c,by simp,by simp,?_⟩;intro O w2 r;exact⟨(k,w2),⟨by dsimp only;omega,hw.tr r.cS,hF.trans (Ac hx)⟩,Sub.reset r ⟨rfl,trivial⟩ ⟨trivial,trivial⟩,by dsimp only;omega⟩
   ·have h2:x≠0:=by intro e;subst e;simp at h2
    intro O w2 r;exact⟨_,rfl,hw.tr r.cS,Xu hw (by rw[hF,Dq hx h2]) O w2 r⟩
  ·have h:k=0:=by
    have:¬0<k:=by simpa using h
    omega
   subst h;intro O w2 r;exact⟨_,rfl,hw.tr r.cS,Xu hw (by rw[hF];simp[eH]) O w2 r⟩
theorem fE(h:n<18446744073709551616):IntKind.u64.wrap (n:Int)=(n:Int):=Aj (by omega) (by omega)
theorem ff(n:Nat):IntKind.u32.wrap (n:Int)=((n % 4294967296:Nat):Int):=by
 show((n:Int) % 4294967296)=_;omega
theorem ofInt32(x:Nat):BitVec.ofInt 32 (x:Int)=BitVec.ofNat 32 x:=by
 apply BitVec.eq_of_toNat_eq;simp
theorem s9{y:Nat}(x:Nat)(hy:y<4294967296):x &&& y<4294967296:=Nat.lt_of_le_of_lt Nat.and_le_right hy
theorem sd{x y:Nat}(hx:x<4294967296)(hy:y<4294967296):x ^^^ y<4294967296:=Nat.xor_lt_two_pow (n:=32) hx hy
theorem Gr{x y:Nat}(hx:x<4294967296)(hy:y<4294967296):x ||| y<4294967296:=Nat.or_lt_two_pow (n:=32) hx hy
theorem aC8{x y:Nat}(hx:x<4294967296)(hy:y<4294967296):IntKind.u32.wrap ((BitVec.ofInt IntKind.u32.bits x &&& BitVec.ofInt IntKind.u32.bits y).toNat:Int)=((x &&& y:Nat):Int):=by
 show IntKind.u32.wrap ((BitVec.ofInt 32 x &&& BitVec.ofInt 32 y).toNat:Int)=_;rw[ofInt32,ofInt32,BitVec.toNat_and,BitVec.toNat_ofNat,BitVec.toNat_ofNat,bT hx,bT hy,ff,bT (s9 x hy)]
theorem aDh{x y:Nat}(hx:x<4294967296)(hy:y<4294967296):IntKind.u32.wrap ((BitVec.ofInt IntKind.u32.bits x ||| BitVec.ofInt IntKind.u32.bits y).toNat:Int)=((x ||| y:Nat):Int):=by
 show IntKind.u32.wrap ((BitVec.ofInt 32 x ||| BitVec.ofInt 32 y).toNat:Int)=_;rw[ofInt32,ofInt32,BitVec.toNat_or,BitVec.toNat_ofNat,BitVec.toNat_ofNat,bT hx,bT hy,ff,bT (Gr hx hy)]
theorem aC9{x y:Nat}(hx:x<4294967296)(hy:y<4294967296):IntKind.u32.wrap ((BitVec.ofInt IntKind.u32.bits x ^^^ BitVec.ofInt IntKind.u32.bits y).toNat:Int)=((x ^^^ y:Nat):Int):=by
 show IntKind.u32.wrap ((BitVec.ofInt 32 x ^^^ BitVec.ofInt 32 y).toNat:Int)=_;rw[ofInt32,ofInt32,BitVec.toNat_xor,BitVec.toNat_ofNat,BitVec.toNat_ofNat,bT hx,bT hy,ff,bT (sd hx hy)]
theorem aCa{x:Nat}(hx:x<4294967296):IntKind.u32.wrap ((BitVec.ofInt IntKind.u32.bits (if IntKind.u32.signed=true then -1 else IntKind.u32.max) ^^^ BitVec.ofInt IntKind.u32.bits x).toNat:Int)=((4294967295 ^^^ x:Nat):Int):=
 aC9 (x:=4294967295) (by decide) hx
theorem nJ{x:Nat}(k:Nat)(hk:k<=63):(x:Int).fdiv (2^min (Int.toNat (k:Int)) IntKind.u64.bits)=((x / 2^k:Nat):Int):=by
 have h1:min (Int.toNat (k:Int)) IntKind.u64.bits=k:=by show min (Int.toNat (k:Int)) 64=k;omega
 rw[h1,Int.fdiv_eq_ediv_of_nonneg _ (by exact Int.le_of_lt (Int.pow_pos (by decide)))];simp
theorem qK{x:Nat}(k:Nat)(hk:k<=31):(x:Int).fdiv (2^min (Int.toNat (k:Int)) IntKind.u32.bits)=((x / 2^k:Nat):Int):=by
 have h1:min (Int.toNat (k:Int)) IntKind.u32.bits=k:=by show min (Int.toNat (k:Int)) 32=k;omega
 rw[h1,Int.fdiv_eq_ediv_of_nonneg _ (by exact Int.le_of_lt (Int.pow_pos (by decide)))];simp
theorem aCI{z:Nat}(h:z<4294967296):z.testBit 31=decide (2147483648<=z):=by
 rw[Nat.testBit_eq_decide_div_mod_eq];apply decide_eq_decide.2;show z / 2147483648 % 2=1↔_;omega
theorem borrow{x y c d:Nat}(hx:x<4294967296)(hy:y<4294967296)(hc:c<=1)(hd:(x+4294967296-(y+c)) % 4294967296=d):
  (((4294967295 ^^^ x) &&& y) ||| ((4294967295 ^^^ (x ^^^ y)) &&& d)) / 2^31=if x<y+c then 1 else 0:=by
 have PF:d<4294967296:=by omega
 have hz:=Gr (s9 (4294967295 ^^^ x) hy) (s9 (4294967295 ^^^ (x ^^^ y)) PF);have ht:=aCI hz;have hm:Nat.testBit 4294967295 31=true:=by decide
 rw[Nat.testBit_or,Nat.testBit_and,Nat.testBit_and,Nat.testBit_xor,Nat.testBit_xor,Nat.testBit_xor,hm,aCI hx,aCI hy,aCI PF]at ht;generalize (((4294967295 ^^^ x) &&& y) ||| ((4294967295 ^^^ (x ^^^ y)) &&& d))=z at hz ht;show z / 2147483648=_;by_cases h1:2147483648<=x<;>by_cases h2:2147483648<=y<;>by_cases h3:2147483648<=d<;>simp[h1,h2,h3]at ht<;>split<;>omega
theorem Ln(x y c:Nat)(w:World)(hx:x<4294967296)(hy:y<4294967296)(hc:c<4294967296):
  eA PG N.CZ #[.int .u32 x,.int .u32 y,.int .u32 c] w (eL w fun v _=>v= .tuple #[.int .u32 ((x+y+c) % 4294967296:Nat),.int .u32 ((x+y+c) / 4294967296:Nat)]):=by
 refine Dn (by simp) ?_;refine⟨(x:Int),fE (by omega),(y:Int),fE (by omega),((x+y:Nat):Int),by rw[Aj]<;>omega,(c:Int),fE (by omega),((x+y+c:Nat):Int),by rw[Aj]<;>omega,(((x+y+c) % 4294967296:Nat):Int),ff _,by decide,(((x+y+c) / 4294967296:Nat):Int),?_,?_⟩
 ·exact nJ 32 (by decide)
 refine⟨(((x+y+c) / 4294967296:Nat):Int),by rw[ff];omega,?_⟩;intro O w3 r;exact⟨_,rfl,r.cS,rfl⟩
theorem Lo(x y c:Nat)(w:World)(hx:x<4294967296)(hy:y<4294967296)(hc:c<=1):
  eA PG N.Ca #[.int .u32 x,.int .u32 y,.int .u32 c] w (eL w fun v _=>v= .tuple #[.int .u32 ((x+4294967296-(y+c)) % 4294967296:Nat),.int .u32 ((if x<y+c then 1 else 0:Nat):Int)]):=by
 refine Dp (by simp) ?_;refine⟨((x+4294967296-y) % 4294967296:Nat),?_,?_⟩
 ·show((x:Int)-y) % 4294967296=_;omega
 refine⟨((x+4294967296-(y+c)) % 4294967296:Nat),?_,?_⟩
 ·show((((x+4294967296-y) % 4294967296:Nat):Int)-c) % 4294967296=_;omega
 have h6:(x+4294967296-(y+c)) % 4294967296<4294967296:=cD _ (by decide);generalize hd:(x+4294967296-(y+c)) % 4294967296=d at h6;refine⟨((4294967295 ^^^ x:Nat):Int),aCa hx,(((4294967295 ^^^ x) &&& y:Nat):Int),aC8 (sd (by decide) hx) hy,((x ^^^ y:Nat):Int),aC9 hx hy,((4294967295 ^^^ (x ^^^ y):Nat):Int),aCa (sd hx hy),(((4294967295 ^^^ (x ^^^ y)) &&& d:Nat):Int),aC8 (sd (by decide) (sd hx hy)) h6,((((4294967295 ^^^ x) &&& y) ||| ((4294967295 ^^^ (x ^^^ y)) &&& d):Nat):Int),aDh (s9 _ hy) (s9 _ h6),by decide,((if x<y+c then 1 else 0:Nat):Int),?_,?_⟩
 ·rw[<-borrow hx hy hc hd];exact qK 31 (by decide)
 intro O w3 r;exact⟨_,rfl,r.cS,rfl⟩
def vF(n m:Nat):Int:=if n<m then -1 else if m<n then 1 else 0
theorem aCc{a b:List Nat}{i x y:Nat}(ha:Lm a)(hl:a.length=b.length)(hx:a[i]? =some x)(hy:b[i]? =some y)(h:a.drop (i+1)=b.drop (i+1))(PC:x<y):val a<val b:=by
 have hi:=(aE.1 hx).1;have h1:=fL a i (by omega);have h2:=fL b i (by omega);rw[jq hx]at h1;rw[jq hy,<-h]at h2;have h3:=pV (ha.take i);rw[aZ,Nat.min_eq_left (by omega)]at h3;generalize val (a.drop (i+1))=q at h1 h2;have h4:wt i*(x+4294967296*q+1)<=wt i*(y+4294967296*q):=bO _ (by omega);rw[b9,aY]at h4;omega
theorem aA5{u:Value}{m:Nat}(hS:Old S w)(hn:eK w S v n)(hm:eK w S u m):eA PG N.uD #[v,u] w (eL w fun v' _=>v'= .int .i64 (vF n m)):=by
 obtain⟨ls,h1,nz1,rfl⟩:=hn;obtain⟨ms,h2,nz2,rfl⟩:=hm;obtain⟨a,c,rfl,_,ha⟩:=h1.sl;obtain⟨b,e,rfl,_,hb⟩:=h2.sl;have hle1:=h1.le;have Wc:=h2.le;have lm1:=h1.lm;have lm2:=h2.lm;refine yn (by simp) ?_;refine dG.mk ?_ ?_<;>intro h
 ·have h:ls.length≠ms.length:=by intro e;rw[e]at h;simp at h
  refine dG.mk ?_ ?_<;>intro h3
  ·have h3:ls.length<ms.length:=by simpa using h3
   intro O w2 r;exact⟨_,rfl,r.cS,by rw[vF,if_pos (jf lm1 nz2 h3)];rfl⟩
  ·have h3:ms.length<ls.length:=by
    have:¬ls.length<ms.length:=by simpa using h3
    omega
   have h4:=jf lm2 nz1 h3;intro O w2 r;exact⟨_,rfl,r.cS,by rw[vF,aK (by omega),if_pos h4];rfl⟩
 ·have h:ls.length=ms.length:=by
   have:(ls.length:Int)=ms.length:=by simpa using h
   omega
  refine⟨(ls.length:Int)-1,wo,Nat×World,fun x=>⟨[(0,sV a ls.length c),(1,sV b ms.length e),(5,.o (.v (.int .i64 ((x.1:Int)-1))))],[],0,[],x.2⟩,fun x=>x.1,
   fun x=>x.1<=ls.length∧dg w.heap.size w x.2∧ls.drop x.1=ms.drop x.1,?_,?_⟩
  ·intro O w' r;exact⟨(ls.length,w'),⟨Nat.le_refl _,r.cS,by rw[List.drop_length,h,List.drop_length]⟩,Sub.reset r ⟨rfl,rfl,rfl,trivial⟩ ⟨trivial,trivial,trivial,trivial⟩⟩
  ·rintro⟨k,w1⟩ ⟨hk,hw,hd⟩;dsimp only at hk hw hd ⊢;refine dG.mk ?_ ?_<;>intro h3
   ·have h3:(k:Int)-1≥0:=aH h3;obtain⟨k,rfl⟩:∃q,k=q+1:=⟨k-1,by omega⟩
    rw[show ((k+1:Nat):Int)-1=(k:Int) by omega];obtain⟨x,hx⟩:∃x,ls[k]? =some x:=⟨_,aB (by omega)⟩
    obtain⟨y,hy⟩:∃x,ms[k]? =some x:=⟨_,aB (by omega)⟩
    obtain⟨ad,Oy,hs,WU⟩:=ha k x hx;obtain⟨ad2,Pv,Qf,TT⟩:=hb k y hy;have PS:∀O w',Rel [] 0 [] w.heap.size w1 O w'->w'.cell? (ad.add ((k:Int).toNat*1))=some (.int .u32 x):=fun O w' r=>by
     rw[aF,aY];exact k7 hS hw r hs WU
    have Qu:∀O w',Rel [] 0 [] w.heap.size w1 O w'->w'.cell? (ad2.add ((k:Int).toNat*1))=some (.int .u32 y):=fun O w' r=>by
     rw[aF,aY];exact k7 hS hw r Qf TT
    refine cO hτ dZ [.x 0,.x 1,.x 2,.x 3,.x 4,.x 5,.x 6,.x 7,.x 8,.x 9] (by kernel_rfl) (by kernel_rfl) ?_;refine⟨ad,Oy,by omega,_,PS,ad2,Pv,by omega,_,Qu,?_⟩;refine dG.mk ?_ ?_<;>intro h4
    ·have h4:x<y:=by simpa using h4
     intro O w2 r;exact⟨_,rfl,hw.tr r.cS,by rw[vF,if_pos (aCc lm1 h hx hy hd h4)];rfl⟩
    ·have h4:¬x<y:=by simpa using h4
     refine cO hτ dZ [.x 0,.x 1,.x 2,.x 3,.x 4,.x 5,.x 6,.x 7,.x 8,.x 9] (by kernel_rfl) (by kernel_rfl) ?_;refine⟨ad,Oy,by omega,_,PS,ad2,Pv,by omega,_,Qu,?_⟩;refine dG.mk ?_ ?_<;>intro h5
     ·have h5:y<x:=by simpa using h5
      have h6:=aCc lm2 h.symm hy hx hd.symm h5;intro O w2 r;exact⟨_,rfl,hw.tr r.cS,by rw[vF,aK (by omega),if_pos h6];rfl⟩
     ·have h5:¬y<x:=by simpa using h5
      have hxy:x=y:=by omega
      subst hxy;refine⟨(k:Int)-1,wo,?_⟩;intro O w2 r;have PF:ls.drop k=ms.drop k:=by
       obtain⟨q1,e1⟩:=aE.1 hx;obtain⟨q2,e2⟩:=aE.1 hy;rw[List.drop_eq_getElem_cons q1,List.drop_eq_getElem_cons q2,e1,e2,hd]
      exact⟨(k,w2),⟨by dsimp only;omega,hw.tr r.cS,PF⟩,Sub.reset r ⟨rfl,rfl,rfl,trivial⟩ ⟨trivial,trivial,trivial,trivial⟩,by simp⟩
   ·have SS:k=0:=by
     have:¬(k:Int)-1≥0:=aG h3;omega
    subst SS;have he:ls=ms:=by simpa using hd
    intro O w2 r;exact⟨_,rfl,hw.tr r.cS,by rw[he,vF,aK (by omega),aK (by omega)];rfl⟩
end Go.Ex
namespace Go.Sx
open Go Go.Ex Go.Proofs
variable{O:Nat->Sx.eE}
theorem Rel.sZ{nx:Nat}{iv:Iv}{B:Nat}{w w':World}(r:Rel [] nx iv B w O w'):w.grownBy w' none:=
 ⟨r.os,r.tape,r.output,r.size,fun k hk _=>r.xw k hk (fun id b h=>by cases h)⟩
end Go.Sx
namespace Go.Ex
open Go Go.Sx Go.Proofs
variable{l ls:List Nat}{S:Nat->Prop}{v:Value}{w:World}
structure LA(S:Nat->Prop)(w:World) where
 a:Option Addr
 c:Nat
 ls:List Nat
 lm:Lm ls
 le:ls.length<=9223372036854775807
 cap:ls.length<=c
 cell:∀(j:Nat) x,ls[j]? =some x->∃ad,a=some ad∧S ad.block∧w.cell? (ad.add j)=some (.int .u32 x)
theorem dV.la(h:dV w S v ls):∃p:LA S w,v= .slice p.a p.ls.length p.c∧p.ls=ls:=by
 obtain⟨a,c,h1,h2,h3⟩:=h.sl;exact⟨⟨a,c,ls,h.lm,h.le,h2,h3⟩,h1,rfl⟩
theorem eK.la{n:Nat}(h:eK w S v n):∃p:LA S w,v= .slice p.a p.ls.length p.c∧val p.ls=n∧Nz p.ls:=by
 obtain⟨ls,h1,h2,h3⟩:=h;obtain⟨p,h4,h5⟩:=h1.la;exact⟨p,h4,by rw[h5];exact h3,by rw[h5];exact h2⟩
theorem LA.load{w1:World}(p:LA S w)(hS:Old S w)(hw:dg w.heap.size w w1){k x:Nat}(hx:p.ls[k]? =some x):
  ∃ad,p.a=some ad∧∀(H:Hp) (nx:Nat) (iv:Iv) (O:Nat->Sx.eE) w',Rel H nx iv w.heap.size w1 O w'->w'.cell? (ad.add ((k:Int).toNat*1))=some (.int .u32 x):=by
 obtain⟨ad,h1,h2,h3⟩:=p.cell k x hx;refine⟨ad,h1,fun H nx iv O w' r=>?_⟩;rw[aF,aY];exact k7 hS hw r h2 h3
def U(l:List Nat):List Value:=l.map fun(x:Nat)=>.int .u32 (x:Int)
theorem gw(l:List Nat):(U l).length=l.length:=by simp[U]
theorem xV{k x:Nat}(h:l[k]? =some x):(U l)[k]? =some (.int .u32 x):=by simp[U,h]
theorem aDl(l:List Nat)(k x:Nat)(h:k<l.length):(U l).take k++[.int .u32 x]++(U l).drop (k+1)=U (l.set k x):=by
 have h1:k<(U l).length:=by rw[gw];exact h
 have:(U l).set k (.int .u32 x)=U (l.set k x):=by simp[U,List.map_set]
 rw[<-this,List.set_eq_take_append_cons_drop,if_pos h1];simp
theorem jk(l:List Nat)(k x:Nat)(h:k<l.length){e:Nat}(he:e=k):(U l).take e++[.int .u32 (x:Int)]++(U l).drop (e+1)=U (l.set k x):=by
 subst he;exact aDl l e x h
theorem vG(n:Nat):List.replicate n (Value.int .u32 0)=U (List.replicate n 0):=by simp[U]
end Go.Ex
namespace Go.Sx
open Go Go.Ex Go.Proofs
variable{ls:List Nat}{O:Nat->Sx.eE}
theorem Rel.pF{H:Hp}{nx:Nat}{iv:Iv}{B:Nat}{w w':World}(r:Rel H nx iv B w O w'){id t:Nat}(h:dM H id=some (.arr t (U ls)))(Ps:Lm ls)(hle:ls.length<=9223372036854775807):
  dV w' (fun g=>g=(O id).g) (.slice (some ⟨(O id).g,0,none⟩) ls.length ls.length) ls:=by
 refine⟨Ps,hle,_,_,rfl,Nat.le_refl _,fun j x hx=>⟨_,rfl,rfl,?_⟩⟩;have h0:(⟨(O id).g,0,none⟩:Addr).add j=⟨(O id).g,j,none⟩:=by
  cases j with
  |zero=>rfl
  |succ j=>simp[Addr.add]
 rw[h0,cell_of (r.arr id t _ h)];exact xV hx
end Go.Sx
namespace Go.Ex
open Go Go.Sx Go.Proofs
variable{S:Nat->Prop}
theorem FN{out ls ms:List Nat}{i x o d:Nat}(hx:ls[i]? =some x)(ho:ms.getD i 0=o)(hd:out[i]? =some d){carry:Nat}(h:val (out.take i)+wt i*carry=val (ls.take i)+val (ms.take i)):
  val ((out.set i ((x+o+carry) % 4294967296)).take (i+1))+wt (i+1)*((x+o+carry) / 4294967296)=val (ls.take (i+1))+val (ms.take (i+1)):=by
 have hi:=(aE.1 hd).1;have h1:(out.set i ((x+o+carry) % 4294967296))[i]? =some ((x+o+carry) % 4294967296):=by rw[aR hi]
 rw[dy h1,List.take_set_of_le (Nat.le_refl _),dy hx,je];have h2:val (ms.take (i+1))=val (ms.take i)+wt i*o:=by
  cases hm:ms[i]? with
  |some y=>
   have:y=o:=by rw[<-ho];simp[List.getD,hm]
   rw[dy hm,this]
  |none=>
   have:o=0:=by rw[<-ho];simp[List.getD,hm]
   rw[this,List.take_add_one,hm];simp
 rw[h2];have h3:=Nat.div_add_mod (x+o+carry) 4294967296;generalize (x+o+carry) / 4294967296=q at h3 ⊢;generalize (x+o+carry) % 4294967296=r at h3 ⊢;have h4:wt i*(4294967296*q+r)=wt i*(x+o+carry):=by rw[h3]
 rw[b9,b9,b9,<-bj,bX (wt i) 4294967296]at h4;omega
theorem aDJ{w:World}{v u:Value}{n m:Nat}(hS:Old S w)(hn:eK w S v n)(hm:eK w S u m)(St:ln n<=1000000000000)(Ps:ln m<=1000000000000):
  eA PG N.sE #[v,u] w (eL w fun v' w2=>eK w2 (Nf w w2) v' (n+m)):=by
 obtain⟨p,rfl,RU,QQ⟩:=hn.la;obtain⟨q,rfl,SE,Q5⟩:=hm.la;have QI:=ec p.lm QQ;have Sd:=ec q.lm Q5;rw[RU]at QI;rw[SE]at Sd;have hsum:n+m=val p.ls+val q.ls:=by rw[RU,SE]
 rw[hsum];refine xT (by simp) ?_;refine dG.mk ?_ ?_<;>intro h
 case' refine_1=>
  have h:p.ls.length<q.ls.length:=by simpa using h
  have hpx:p.ls.length<=q.ls.length:=by omega
  have hx12:q.ls.length<=1000000000000:=by omega
  rw[Nat.add_comm];generalize YC:q=x at*
  generalize hgy:p=y at*
 case' refine_2=>
  have h:¬p.ls.length<q.ls.length:=by simpa using h
  have hpx:q.ls.length<=p.ls.length:=by omega
  have hx12:p.ls.length<=1000000000000:=by omega
  generalize YC:p=x at*
  generalize hgy:q=y at*
 all_goals
  refine⟨((x.ls.length+1:Nat):Int),wo,x.ls.length+1,x.ls.length+1,rfl,rfl,Nat.le_refl _,by omega,by omega,Nat×List Nat×Nat×World,fun z=>⟨[(0,sV x.a x.ls.length x.c),(1,sV y.a y.ls.length y.c),(5,.o (.s 0 0 (x.ls.length+1) (x.ls.length+1))),(6,.o (.v (.int .u32 z.2.2.1))),(21,iZ x.ls.length),(22,iZ z.1)],
    [(0,.arr T.uint32 (U z.2.1))],1,[],z.2.2.2⟩,fun z=>x.ls.length-z.1,
   fun z=>z.1<=x.ls.length∧dg w.heap.size w z.2.2.2∧z.2.1.length=x.ls.length+1∧Lm z.2.1∧z.2.2.1<2∧val (z.2.1.take z.1)+wt z.1*z.2.2.1=val (x.ls.take z.1)+val (y.ls.take z.1),?_,?_⟩
  ·intro O w' r;rw[vG]at r;exact⟨(0,List.replicate (x.ls.length+1) 0,0,w'),⟨by simp,r.cS,by simp,Lm.replicate _,by simp,by simp[val]⟩,Sub.gn [] r⟩
  ·rintro⟨i,out,carry,w1⟩ ⟨hi,hw,Qt,PX,hc,hv⟩;dsimp only at hi hw Qt PX hc hv ⊢;refine dG.mk ?_ ?_<;>intro h
   ·have h:i<x.ls.length:=by simpa using h
    obtain⟨xi,Pf⟩:∃k,x.ls[i]? =some k:=⟨_,aB h⟩
    obtain⟨d,hd⟩:∃k,out[i]? =some k:=⟨_,aB (by omega)⟩
    obtain⟨ad,Oy,PK⟩:=x.load hS hw Pf;have Ql:=x.lm.at Pf;refine dG.mk ?_ ?_<;>intro h2
    ·have h2:i<y.ls.length:=by simpa using h2
     obtain⟨o,ho⟩:∃k,y.ls[i]? =some k:=⟨_,aB h2⟩
     obtain⟨ad2,Pv,RZ⟩:=y.load hS hw ho;have Xh:=y.lm.at ho;have Ul:y.ls.getD i 0=o:=by simp[List.getD,ho]
     refine⟨ad2,Pv,by omega,.int .u32 o,RZ _ _ _,ad,Oy,by omega,.int .u32 xi,PK _ _ _,?_⟩;refine cH (cP (Φ:=fun _ _ v _=>v= .tuple #[.int .u32 ((xi+o+carry) % 4294967296:Nat),.int .u32 ((xi+o+carry) / 4294967296:Nat)]) (fun O w' r=>Ln xi o carry w' Ql Xh (by omega)) ?_);rintro O w' v w2 r he hb rfl;replace hw:=hw.tr hb;have PW:=FN Pf Ul hd hv;have TT:(xi+o+carry) / 4294967296<2:=by omega
     refine⟨by omega,by rw[gw];omega,U (out.set i ((xi+o+carry) % 4294967296)),jk out i _ (by omega) (by simp),((i+1:Nat):Int),wo,?_⟩;intro ρ3 w3 r3
     exact⟨(i+1,out.set i ((xi+o+carry) % 4294967296),(xi+o+carry) / 4294967296,w3),⟨by dsimp only;omega,hw.tr r3.cS,by simp[Qt],PX.set (cD _ (by decide)),TT,PW⟩,
      Sub.gn [] r3,by dsimp only;omega⟩
    ·have h2:¬i<y.ls.length:=by simpa using h2
     have Ul:y.ls.getD i 0=0:=by simp[List.getD,List.getElem?_eq_none (show y.ls.length<=i by omega)]
     refine⟨ad,Oy,by omega,.int .u32 xi,PK _ _ _,?_⟩;refine cH (cP (Φ:=fun _ _ v _=>v= .tuple #[.int .u32 ((xi+0+carry) % 4294967296:Nat),.int .u32 ((xi+0+carry) / 4294967296:Nat)]) (fun O w' r=>Ln xi 0 carry w' Ql (by decide) (by omega)) ?_);rintro O w' v w2 r he hb rfl;replace hw:=hw.tr hb;have PW:=FN Pf Ul hd hv;have TT:(xi+0+carry) / 4294967296<2:=by omega
     refine⟨by omega,by rw[gw];omega,U (out.set i ((xi+0+carry) % 4294967296)),jk out i _ (by omega) (by simp),((i+1:Nat):Int),wo,?_⟩;intro ρ3 w3 r3
     exact⟨(i+1,out.set i ((xi+0+carry) % 4294967296),(xi+0+carry) / 4294967296,w3),⟨by dsimp only;omega,hw.tr r3.cS,by simp[Qt],PX.set (cD _ (by decide)),TT,PW⟩,
      Sub.gn [] r3,by dsimp only;omega⟩
   ·have Rj:i=x.ls.length:=by
     have:¬i<x.ls.length:=by simpa using h
     omega
    subst Rj;obtain⟨d,hd⟩:∃k,out[x.ls.length]? =some k:=⟨_,aB (by omega)⟩
    have Tz:val (out.set x.ls.length carry)=val x.ls+val y.ls:=by
     have h1:(out.set x.ls.length carry)[x.ls.length]? =some carry:=by rw[aR (by omega)]
     have h2:=dy h1;rw[List.take_of_length_le (by simp;omega),List.take_set_of_le (Nat.le_refl _)]at h2;rw[bH,List.take_of_length_le hpx]at hv;omega
    have hlm2:Lm (out.set x.ls.length carry):=PX.set (by omega);refine⟨by omega,by rw[gw];omega,U (out.set x.ls.length carry),jk out x.ls.length carry (by omega) (by simp),?_⟩;generalize hgo:out.set x.ls.length carry=fin at Tz hlm2;have Ok:fin.length=x.ls.length+1:=by rw[<-hgo];simp[Qt]
    refine iJ (Φ:=fun O _ v w2=>dV w2 (fun g=>g=(O 0).g) v (eH fin)) (H':=[]) 0 rfl (by simp) trivial rfl (fun O w' r=>r.nn 0 _ rfl (by intros;simp) (by simp)) (fun O w' r=>?_) ?_
    ·have hL:=r.pF (id:=0) rfl hlm2 (by omega);rw[Ok]at hL;exact fw (fun g hg=>by rw[hg];exact(r.low 0 _ rfl (r.nn 0 _ rfl (by intros;simp) (by simp))).2) hL
    rintro O w' v w2 r he hb hL;replace hw:=hw.tr hb;have Ol:=r.low 0 _ rfl (r.nn 0 _ rfl (by intros;simp) (by simp));generalize (O 0).g=g at*
    have hs:=he.size;intro ρ3 w3 r3;refine⟨_,rfl,hw.tr r3.cS,eH fin,?_,(fS fin).2.1,?_⟩
    ·refine(hL.cJ fun k hk=>?_).cL fun k hk=>.inr ?_
     ·rw[hk];exact r3.sZ.block g (by omega) (by simp)
     ·rw[hk];have:=r3.size;omega
    ·rw[(fS fin).1,Tz]
end Go.Ex
namespace Go.Ex
open Go Go.Sx Go.Proofs
variable{ls ms out:List Nat}{V a b i k o t:Nat}{S:Nat->Prop}{v:Value}{w:World}
theorem NV(ho:ms.getD i 0=o):val (ms.take (i+1))=val (ms.take i)+wt i*o:=by
 cases hm:ms[i]? with
 |some y=>
  have:y=o:=by rw[<-ho];simp[List.getD,hm]
  rw[dy hm,this]
 |none=>
  have:o=0:=by rw[<-ho];simp[List.getD,hm]
  rw[this,List.take_add_one,hm];simp
theorem DT{x d e:Nat}(hx:ls[i]? =some x)(ho:ms.getD i 0=o)(hd:out[i]? =some d){b':Nat}(h:val (out.take i)+val (ms.take i)=val (ls.take i)+wt i*b)(he:e+(o+b)=x+4294967296*b'):
  val ((out.set i e).take (i+1))+val (ms.take (i+1))=val (ls.take (i+1))+wt (i+1)*b':=by
 have hi:=(aE.1 hd).1;have h1:(out.set i e)[i]? =some e:=by rw[aR hi]
 rw[dy h1,List.take_set_of_le (Nat.le_refl _),dy hx,NV ho,je];have h4:wt i*(e+(o+b))=wt i*(x+4294967296*b'):=by rw[he]
 rw[b9,b9,b9,<-bj,bX (wt i) 4294967296]at h4;omega
theorem G6{u:Value}{n m:Nat}(hS:Old S w)(hn:eK w S v n)(hm:eK w S u m)(hle:m<=n)(St:ln n<=1000000000000):
  eA PG N.qn #[v,u] w (eL w fun v' w2=>eK w2 (Nf w w2) v' (n-m)):=by
 obtain⟨x,rfl,RU,QQ⟩:=hn.la;obtain⟨y,rfl,SE,Q5⟩:=hm.la;have QI:=ec x.lm QQ;rw[RU]at QI;have hyx:y.ls.length<=x.ls.length:=by
  rw[ec x.lm QQ,ec y.lm Q5,RU,SE];exact fk hle
 refine vB (by simp) ?_
 refine⟨x.ls.length,x.ls.length,rfl,rfl,Nat.le_refl _,by omega,by omega,Nat×List Nat×Nat×World,fun z=>⟨[(0,sV x.a x.ls.length x.c),(1,sV y.a y.ls.length y.c),(5,.o (.s 0 0 x.ls.length x.ls.length)),(6,.o (.v (.int .u32 z.2.2.1))),(13,iZ x.ls.length),(14,iZ z.1)],
   [(0,.arr T.uint32 (U z.2.1))],1,[],z.2.2.2⟩,fun z=>x.ls.length-z.1,
  fun z=>z.1<=x.ls.length∧dg w.heap.size w z.2.2.2∧z.2.1.length=x.ls.length∧Lm z.2.1∧z.2.2.1<2∧val (z.2.1.take z.1)+val (y.ls.take z.1)=val (x.ls.take z.1)+wt z.1*z.2.2.1,?_,?_⟩
 ·intro O w' r;rw[vG]at r;exact⟨(0,List.replicate x.ls.length 0,0,w'),⟨by simp,r.cS,by simp,Lm.replicate _,by simp,by simp[val]⟩,Sub.gn [] r⟩
 ·rintro⟨i,out,b,w1⟩ ⟨hi,hw,Qt,PX,hc,hv⟩;dsimp only at hi hw Qt PX hc hv ⊢;refine dG.mk ?_ ?_<;>intro h
  ·have h:i<x.ls.length:=by simpa using h
   obtain⟨xi,Pf⟩:∃k,x.ls[i]? =some k:=⟨_,aB h⟩
   obtain⟨d,hd⟩:∃k,out[i]? =some k:=⟨_,aB (by omega)⟩
   obtain⟨ad,Oy,PK⟩:=x.load hS hw Pf;have Ql:=x.lm.at Pf;refine dG.mk ?_ ?_<;>intro h2
   ·have h2:i<y.ls.length:=by simpa using h2
    obtain⟨o,ho⟩:∃k,y.ls[i]? =some k:=⟨_,aB h2⟩
    obtain⟨ad2,Pv,RZ⟩:=y.load hS hw ho;have Xh:=y.lm.at ho;have Ul:y.ls.getD i 0=o:=by simp[List.getD,ho]
    refine⟨ad2,Pv,by omega,.int .u32 o,RZ _ _ _,ad,Oy,by omega,.int .u32 xi,PK _ _ _,?_⟩;refine cH (cP (Φ:=fun _ _ v _=>v= .tuple #[.int .u32 ((xi+4294967296-(o+b)) % 4294967296:Nat),.int .u32 ((if xi<o+b then 1 else 0:Nat):Int)]) (fun O w' r=>Lo xi o b w' Ql Xh (by omega)) ?_);rintro O w' v w2 r he hb rfl;replace hw:=hw.tr hb;have Q4:(xi+4294967296-(o+b)) % 4294967296+(o+b)=xi+4294967296*(if xi<o+b then 1 else 0):=by split<;>omega
    have PC:(xi+4294967296-(o+b)) % 4294967296<4294967296:=cD _ (by decide);have RG:(if xi<o+b then 1 else 0:Nat)<2:=by split<;>omega
    generalize (xi+4294967296-(o+b)) % 4294967296=e at Q4 PC;generalize (if xi<o+b then 1 else 0:Nat)=b' at Q4 RG;have PW:=DT Pf Ul hd hv Q4;refine⟨by omega,by rw[gw];omega,U (out.set i e),jk out i _ (by omega) (by simp),((i+1:Nat):Int),wo,?_⟩;intro ρ3 w3 r3
    exact⟨(i+1,out.set i e,b',w3),⟨by dsimp only;omega,hw.tr r3.cS,by simp[Qt],PX.set PC,RG,PW⟩,
     Sub.gn [] r3,by dsimp only;omega⟩
   ·have h2:¬i<y.ls.length:=by simpa using h2
    have Ul:y.ls.getD i 0=0:=by simp[List.getD,List.getElem?_eq_none (show y.ls.length<=i by omega)]
    refine⟨ad,Oy,by omega,.int .u32 xi,PK _ _ _,?_⟩;refine cH (cP (Φ:=fun _ _ v _=>v= .tuple #[.int .u32 ((xi+4294967296-(0+b)) % 4294967296:Nat),.int .u32 ((if xi<0+b then 1 else 0:Nat):Int)]) (fun O w' r=>Lo xi 0 b w' Ql (by decide) (by omega)) ?_);rintro O w' v w2 r he hb rfl;replace hw:=hw.tr hb;have Q4:(xi+4294967296-(0+b)) % 4294967296+(0+b)=xi+4294967296*(if xi<0+b then 1 else 0):=by split<;>omega
    have PC:(xi+4294967296-(0+b)) % 4294967296<4294967296:=cD _ (by decide);have RG:(if xi<0+b then 1 else 0:Nat)<2:=by split<;>omega
    generalize (xi+4294967296-(0+b)) % 4294967296=e at Q4 PC;generalize (if xi<0+b then 1 else 0:Nat)=b' at Q4 RG;have PW:=DT Pf Ul hd hv Q4;refine⟨by omega,by rw[gw];omega,U (out.set i e),jk out i _ (by omega) (by simp),((i+1:Nat):Int),wo,?_⟩;intro ρ3 w3 r3
    exact⟨(i+1,out.set i e,b',w3),⟨by dsimp only;omega,hw.tr r3.cS,by simp[Qt],PX.set PC,RG,PW⟩,
     Sub.gn [] r3,by dsimp only;omega⟩
  ·have Rj:i=x.ls.length:=by
    have:¬i<x.ls.length:=by simpa using h
    omega
   subst Rj;have Tz:val out=n-m:=by
    rw[List.take_of_length_le (by omega),List.take_of_length_le hyx,bH,RU,SE]at hv;have h1:=pV PX;rw[Qt]at h1;have:b=0∨b=1:=by omega
    rcases this with rfl|rfl
    ·omega
    ·omega
   refine iJ (Φ:=fun O _ v w2=>dV w2 (fun g=>g=(O 0).g) v (eH out)) (H':=[]) 0 rfl (by simp) trivial rfl (fun O w' r=>r.nn 0 _ rfl (by intros;simp) (by simp)) (fun O w' r=>?_) ?_
   ·have hL:=r.pF (id:=0) rfl PX (by omega);rw[Qt]at hL;exact fw (fun g hg=>by rw[hg];exact(r.low 0 _ rfl (r.nn 0 _ rfl (by intros;simp) (by simp))).2) hL
   rintro O w' v w2 r he hb hL;replace hw:=hw.tr hb;have Ol:=r.low 0 _ rfl (r.nn 0 _ rfl (by intros;simp) (by simp));generalize (O 0).g=g at*
   have hs:=he.size;intro ρ3 w3 r3;refine⟨_,rfl,hw.tr r3.cS,eH out,?_,(fS out).2.1,?_⟩
   ·refine(hL.cJ fun k hk=>?_).cL fun k hk=>.inr ?_
    ·rw[hk];exact r3.sZ.block g (by omega) (by simp)
    ·rw[hk];have:=r3.size;omega
   ·rw[(fS out).1,Tz]
theorem Kh{p c:Nat}(ho:out[p]? =some o)(h:val out+wt p*c=V)(ht:t=a+o+c):
  val (out.set p (t % 4294967296))+wt (p+1)*(t / 4294967296)=V+wt p*a:=by
 have h1:=An (x:=t % 4294967296) ho;rw[je];have h3:=Nat.div_add_mod t 4294967296;generalize t / 4294967296=q at h3 ⊢;generalize t % 4294967296=r at h3 h1 ⊢;have h4:wt p*(4294967296*q+r)=wt p*(a+o+c):=by rw[h3,ht]
 rw[b9,b9,b9,<-bj,bX (wt p) 4294967296]at h4;omega
def Zf(out:List Nat)(p:Nat):Prop:=∀(j:Nat) z,p<=j->out[j]? =some z->z=0
theorem Zf.set{p x:Nat}(h:Zf out p)(hk:k<p):Zf (out.set k x) p:=fun j z hj hz=>by
 rw[aX (by omega)]at hz;exact h j z hj hz
theorem aBZ(ha:a<4294967296)(hb:b<4294967296):a*b<=18446744065119617025:=by
 have:a*b<=4294967295*4294967295:=Nat.mul_le_mul (by omega) (by omega);omega
theorem Lb{u:Value}{n m:Nat}(hS:Old S w)(hn:eK w S v n)(hm:eK w S u m)(St:ln n<=1000000000000)(Ps:ln m<=1000000000000):
  eA PG N.qk #[v,u] w (eL w fun v' w2=>eK w2 (Nf w w2) v' (n*m)):=by
 obtain⟨x,rfl,RU,QQ⟩:=hn.la;obtain⟨y,rfl,SE,Q5⟩:=hm.la;have QI:=ec x.lm QQ;rw[RU]at QI;have Sd:=ec y.lm Q5;rw[SE]at Sd;refine uy (by simp) ?_;obtain⟨L,hL⟩:∃L,L=x.ls.length+y.ls.length:=⟨_,rfl⟩
 refine⟨(L:Int),wo,L,L,rfl,rfl,Nat.le_refl _,by omega,by omega,Nat×List Nat×World,fun z=>⟨[(1,sV y.a y.ls.length y.c),(5,.o (.s 0 0 L L)),(18,sV x.a x.ls.length x.c),(19,iZ x.ls.length),(20,iZ z.1)],
   [(0,.arr T.uint32 (U z.2.1))],1,[],z.2.2⟩,fun z=>x.ls.length-z.1,
  fun z=>z.1<=x.ls.length∧dg w.heap.size w z.2.2∧z.2.1.length=L∧Lm z.2.1∧val z.2.1=val (x.ls.take z.1)*m∧Zf z.2.1 (z.1+y.ls.length),?_,?_⟩
 ·intro O w' r;rw[vG]at r;exact⟨(0,List.replicate L 0,w'),⟨by simp,r.cS,by simp,Lm.replicate _,by simp[val,oP],fun j z _ hz=>by simp only[List.getElem?_replicate]at hz;split at hz<;>simp_all⟩,Sub.gn [] r⟩
 ·rintro⟨i,out,w1⟩ ⟨hi,hw,Qt,PX,hv,hz⟩;dsimp only at hi hw Qt PX hv hz ⊢;refine dG.mk ?_ ?_<;>intro h
  ·have h:i<x.ls.length:=by simpa using h
   obtain⟨xi,Pf⟩:∃k,x.ls[i]? =some k:=⟨_,aB h⟩
   obtain⟨ad,Oy,PK⟩:=x.load hS hw Pf;have Ql:=x.lm.at Pf
   refine⟨ad,Oy,by omega,.int .u32 xi,PK _ _ _,Nat×List Nat×Nat×World,fun z=>⟨[(1,sV y.a y.ls.length y.c),(5,.o (.s 0 0 L L)),(18,sV x.a x.ls.length x.c),(19,iZ x.ls.length),(20,iZ i),
     (6,iZ i),(7,.o (.v (.int .u32 xi))),(8,.o (.v (.int .u64 z.2.2.1))),(25,sV y.a y.ls.length y.c),(26,iZ y.ls.length),(27,iZ z.1)],
     [(0,.arr T.uint32 (U z.2.1))],1,[],z.2.2.2⟩,fun z=>y.ls.length-z.1,
    fun z=>z.1<=y.ls.length∧dg w.heap.size w z.2.2.2∧z.2.1.length=L∧Lm z.2.1∧z.2.2.1<4294967296∧val z.2.1+wt (i+z.1)*z.2.2.1=val (x.ls.take i)*m+wt i*xi*val (y.ls.take z.1)∧Zf z.2.1 (i+y.ls.length),?_,?_⟩
   ·intro O w' r;exact⟨(0,out,0,w'),⟨by simp,hw.tr r.cS,Qt,PX,by simp,by simp[val,hv],hz⟩,Sub.gn [] r⟩
   ·rintro⟨k,out,c,w1⟩ ⟨hk,hw,Qt,PX,hc,hv,hz⟩;dsimp only at hk hw Qt PX hc hv hz ⊢;refine dG.mk ?_ ?_<;>intro h2
    ·have h2:k<y.ls.length:=by simpa using h2
     obtain⟨yk,hyk⟩:∃q,y.ls[k]? =some q:=⟨_,aB h2⟩
     obtain⟨ad2,Pv,RZ⟩:=y.load hS hw hyk;have hy32:=y.lm.at hyk;obtain⟨o,ho⟩:∃q,out[i+k]? =some q:=⟨_,aB (by omega)⟩
     have Xh:=PX.at ho;have hm64:=aBZ Ql hy32;refine⟨ad2,Pv,by omega,.int .u32 yk,RZ _ _ _,(xi:Int),fE (by omega),(yk:Int),fE (by omega),((xi*yk:Nat):Int),by rw[<-Int.natCast_mul];exact fE (by omega),((i+k:Nat):Int),wo,by omega,.int .u32 o,by rw[aF,aW,aY];exact xV ho,(o:Int),fE (by omega),((xi*yk+o:Nat):Int),by rw[<-Int.natCast_add];exact fE (by omega),?_⟩;obtain⟨t,ht⟩:∃t,t=xi*yk+o+c:=⟨_,rfl⟩
     refine⟨(t:Int),by rw[<-Int.natCast_add,<-ht];exact fE (by omega),((i+k:Nat):Int),wo,((t % 4294967296:Nat):Int),ff _,by decide,((t / 4294967296:Nat):Int),nJ 32 (by decide),by omega,by rw[gw];omega,U (out.set (i+k) (t % 4294967296)),jk out (i+k) _ (by omega) (by simp only[aF];omega),((k+1:Nat):Int),wo,?_⟩;intro ρ3 w3 r3
     refine⟨(k+1,out.set (i+k) (t % 4294967296),t / 4294967296,w3),⟨by dsimp only;omega,hw.tr r3.cS,by simp[Qt],PX.set (cD _ (by decide)),by dsimp only;omega,?_,hz.set (by omega)⟩,
      Sub.gn [] r3,by dsimp only;omega⟩
     have h5:=Kh (a:=xi*yk) ho hv ht;dsimp only
     rw[show i+(k+1)=i+k+1 by omega,h5,dy hyk,Fg,b9,Nat.add_assoc];congr 2;simp only[bj,Nat.mul_left_comm,bX]
    ·have Vb:k=y.ls.length:=by
      have:¬k<y.ls.length:=by simpa using h2
      omega
     subst Vb;obtain⟨o,ho⟩:∃q,out[i+y.ls.length]? =some q:=⟨_,aB (by omega)⟩
     have ho0:=hz _ _ (Nat.le_refl _) ho;subst ho0;refine⟨((i+y.ls.length:Nat):Int),wo,(c:Int),by rw[ff,bT hc],by omega,by rw[gw];omega,U (out.set (i+y.ls.length) c),jk out (i+y.ls.length) _ (by omega) (by simp only[aF];omega),((i+1:Nat):Int),wo,?_⟩;intro ρ3 w3 r3
     refine⟨(i+1,out.set (i+y.ls.length) c,w3),⟨by dsimp only;omega,hw.tr r3.cS,by simp[Qt],PX.set hc,?_,?_⟩,
      Sub.gn [] r3,by dsimp only;omega⟩
     ·have h5:=An (x:=c) ho;dsimp only
      rw[bH,SE]at hv;rw[dy Pf,Nat.add_mul];omega
     ·intro j z hj hjz;dsimp only at hj;rw[aX (by omega)]at hjz;exact hz j z (by omega) hjz
  ·have Rj:i=x.ls.length:=by
    have:¬i<x.ls.length:=by simpa using h
    omega
   subst Rj;have Tz:val out=n*m:=by rw[hv,bH,RU]
   refine iJ (Φ:=fun O _ v w2=>dV w2 (fun g=>g=(O 0).g) v (eH out)) (H':=[]) 0 rfl (by simp) trivial rfl (fun O w' r=>r.nn 0 _ rfl (by intros;simp) (by simp)) (fun O w' r=>?_) ?_
   ·have hL:=r.pF (id:=0) rfl PX (by omega);rw[Qt]at hL;exact fw (fun g hg=>by rw[hg];exact(r.low 0 _ rfl (r.nn 0 _ rfl (by intros;simp) (by simp))).2) hL
   rintro O w' v w2 r he hb hL;replace hw:=hw.tr hb;have Ol:=r.low 0 _ rfl (r.nn 0 _ rfl (by intros;simp) (by simp));generalize (O 0).g=g at*
   have hs:=he.size;intro ρ3 w3 r3;refine⟨_,rfl,hw.tr r3.cS,eH out,?_,(fS out).2.1,?_⟩
   ·refine(hL.cJ fun k hk=>?_).cL fun k hk=>.inr ?_
    ·rw[hk];exact r3.sZ.block g (by omega) (by simp)
    ·rw[hk];have:=r3.size;omega
   ·rw[(fS out).1,Tz]
theorem G8{q:Nat}(ho:o<2^k):o ||| 2^k*q=o+2^k*q:=by
 rw[Nat.or_comm,<-Nat.two_pow_add_eq_or_of_lt ho,Nat.add_comm]
theorem aA7{x y:Nat}(hx:x<18446744073709551616)(hy:y<18446744073709551616):IntKind.u64.wrap ((BitVec.ofInt IntKind.u64.bits x ||| BitVec.ofInt IntKind.u64.bits y).toNat:Int)=((x ||| y:Nat):Int):=by
 have e:∀z:Nat,BitVec.ofInt 64 (z:Int)=BitVec.ofNat 64 z:=fun z=>by
  apply BitVec.eq_of_toNat_eq;simp
 show IntKind.u64.wrap ((BitVec.ofInt 64 x ||| BitVec.ofInt 64 y).toNat:Int)=_;rw[e,e,BitVec.toNat_or,BitVec.toNat_ofNat,BitVec.toNat_ofNat,bT hx,bT hy];exact fE (Nat.or_lt_two_pow (n:=64) hx hy)
theorem G7(hk:k<=63)(h:a*2^k<18446744073709551616):IntKind.u64.wrap ((a:Int)*2^min ((k:Int)).toNat IntKind.u64.bits)=((a*2^k:Nat):Int):=by
 have h1:min ((k:Int)).toNat IntKind.u64.bits=k:=by show min ((k:Int)).toNat 64=k;omega
 rw[h1,show(a:Int)*2^k=((a*2^k:Nat):Int) by simp];exact fE h
theorem Kj(ha:ls[i]? =some a)(ho:out[i]? =some o)(hz:out[i+1]? =some 0)(hv:val out=val (ls.take i)*2^b):
  val ((out.set i (o+a*2^b % 4294967296)).set (i+1) (a*2^b / 4294967296))=val (ls.take (i+1))*2^b:=by
 have h1:=An (x:=o+a*2^b % 4294967296) ho;have h2:(out.set i (o+a*2^b % 4294967296))[i+1]? =some 0:=by rw[aX (by omega)];exact hz
 have h3:=An (x:=a*2^b / 4294967296) h2;rw[dy ha,Nat.add_mul,bj];rw[je]at h3;generalize a*2^b=t at*
 have h4:=Nat.div_add_mod t 4294967296;generalize t / 4294967296=q at*
 generalize t % 4294967296=r at*
 have h5:wt i*(o+r)=wt i*o+wt i*r:=b9 _ _ _;have h6:4294967296*wt i*q=wt i*(4294967296*q):=by rw[bX 4294967296 (wt i),bj]
 rw[<-h4,b9];omega
def aA9(w w2:World)(v:Value)(ls:List Nat):Prop:=∃g,v= .slice (some ⟨g,0,none⟩) ls.length ls.length∧w.heap.size<=g∧w2.heap[g]? =some (.cells (U ls).toArray T.uint32 (0,0))∧Lm ls
theorem Er(hS:Old S w)(h:dV w S v ls)(hl:ls.length<=1000000000000)(hb:b<32):
  eA PG N.oC #[v,.int .u64 b] w (eL w fun v' w2=>∃out,aA9 w w2 v' out∧out.length=ls.length+1∧val out=val ls*2^b):=by
 obtain⟨x,rfl,rfl⟩:=h.la;refine sS (by simp) ?_;have hp32:2^b<=2^31:=Nat.pow_le_pow_right (by decide) (by omega)
 refine⟨((x.ls.length+1:Nat):Int),wo,x.ls.length+1,x.ls.length+1,rfl,rfl,Nat.le_refl _,by omega,by omega,Nat×List Nat×World,fun z=>⟨[(1,.o (.v (.int .u64 b))),(5,.o (.s 0 0 (x.ls.length+1) (x.ls.length+1))),(13,sV x.a x.ls.length x.c),(14,iZ x.ls.length),(15,iZ z.1)],
   [(0,.arr T.uint32 (U z.2.1))],1,[],z.2.2⟩,fun z=>x.ls.length-z.1,
  fun z=>z.1<=x.ls.length∧dg w.heap.size w z.2.2∧z.2.1.length=x.ls.length+1∧Lm z.2.1∧val z.2.1=val (x.ls.take z.1)*2^b∧Zf z.2.1 (z.1+1)∧(∀o,z.2.1[z.1]? =some o->o<2^b),?_,?_⟩
 ·intro O w' r;rw[vG]at r;refine⟨(0,List.replicate (x.ls.length+1) 0,w'),⟨by simp,r.cS,by simp,Lm.replicate _,by simp[val,oP],fun j z _ hz=>?_,fun o ho=>?_⟩,Sub.gn [] r⟩
  ·simp only[List.getElem?_replicate]at hz;split at hz<;>simp_all
  ·simp only[List.getElem?_replicate]at ho;split at ho
   ·injection ho with ho;subst ho;exact bz _
   ·cases ho
 ·rintro⟨i,out,w1⟩ ⟨hi,hw,Qt,PX,hv,hz,Ol⟩;dsimp only at hi hw Qt PX hv hz Ol ⊢;refine dG.mk ?_ ?_<;>intro h
  ·have h:i<x.ls.length:=by simpa using h
   obtain⟨a,Pf⟩:∃k,x.ls[i]? =some k:=⟨_,aB h⟩
   obtain⟨ad,Oy,PK⟩:=x.load hS hw Pf;have Ql:=x.lm.at Pf;obtain⟨o,ho⟩:∃q,out[i]? =some q:=⟨_,aB (by omega)⟩
   obtain⟨o1,Wr⟩:∃q,out[i+1]? =some q:=⟨_,aB (by omega)⟩
   have e0:=hz _ _ (Nat.le_refl _) Wr;subst e0;have S6:=Ol o ho;have PW:=Kj Pf ho Wr hv;have QA:a*2^b<=4294967295*2^31:=Nat.mul_le_mul (by omega) hp32;have UD:a*2^b / 4294967296<2^b:=by
    rw[Nat.div_lt_iff_lt_mul (by decide),bX (2^b)];exact Nat.mul_lt_mul_of_pos_right Ql (bz b)
   have VZ:o ||| a*2^b % 4294967296=o+a*2^b % 4294967296:=by
    have:a*2^b % 4294967296=2^b*(a % 2^(32-b)):=by
     rw[show (4294967296:Nat)=2^(32-b)*2^b by rw[<-Nat.pow_add,Nat.sub_add_cancel (by omega)],Nat.mul_mod_mul_right,bX]
    rw[this];exact G8 S6
   have SY:o+a*2^b % 4294967296<4294967296:=by
    rw[<-VZ];exact Gr (by omega) (cD _ (by decide))
   refine⟨ad,Oy,by omega,.int .u32 a,PK _ _ _,(a:Int),fE (by omega),by omega,((a*2^b:Nat):Int),G7 (by omega) (by omega),?_⟩;generalize ht:a*2^b=t at*
   refine⟨by omega,.int .u32 o,by rw[aF,aW,aY];exact xV ho,((t % 4294967296:Nat):Int),ff _,((o+t % 4294967296:Nat):Int),by rw[<-VZ];exact aDh (by omega) (cD _ (by decide)),by omega,by rw[gw];omega,U (out.set i (o+t % 4294967296)),jk out i _ (by omega) (by simp),((i+1:Nat):Int),wo,by decide,((t / 4294967296:Nat):Int),nJ 32 (by decide),((t / 4294967296:Nat):Int),by rw[ff];omega,by omega,by rw[gw];simp;omega,U ((out.set i (o+t % 4294967296)).set (i+1) (t / 4294967296)),jk _ (i+1) _ (by simp;omega) (by simp only[aF];omega),((i+1:Nat):Int),wo,?_⟩;intro ρ3 w3 r3
   refine⟨(i+1,(out.set i (o+t % 4294967296)).set (i+1) (t / 4294967296),w3),⟨by dsimp only;omega,hw.tr r3.cS,by simp[Qt],(PX.set SY).set (by omega),PW,fun j z hj hjz=>?_,fun o2 VD=>?_⟩,
    Sub.gn [] r3,by dsimp only;omega⟩
   ·dsimp only at hj;rw[aX (by omega),aX (by omega)]at hjz;exact hz j z (by omega) hjz
   ·rw[aR (by simp;omega)]at VD;injection VD with VD;omega
  ·have Rj:i=x.ls.length:=by
    have:¬i<x.ls.length:=by simpa using h
    omega
   subst Rj;rw[bH]at hv;intro ρ3 w3 r3;refine⟨_,rfl,hw.tr r3.cS,out,⟨(ρ3 0).g,by rw[Qt];rfl,(r3.low 0 _ rfl (r3.nn 0 _ rfl (by intros;simp) (by simp))).1,r3.arr 0 _ _ rfl,PX⟩,Qt,hv⟩
theorem FV{d q:Nat}(ha32:a<4294967296)(ha:ls[i]? =some a)(hd:out[i]? =some d)(hb:b<=32)(ht:t=a+4294967296*ls.getD (i+1) 0)(hq:q=t / 2^b % 4294967296)(hv:val (out.take i)+wt i*(val (ls.drop i) / 2^b)=V):
  val ((out.set i q).take (i+1))+wt (i+1)*(val (ls.drop (i+1)) / 2^b)=V:=by
 have hi:=(aE.1 hd).1;have h1:(out.set i q)[i]? =some q:=by rw[aR hi]
 rw[dy h1,List.take_set_of_le (Nat.le_refl _),je,<-hv];have hN:=jq ha;have h2:val (ls.drop i) / 2^b=q+4294967296*(val (ls.drop (i+1)) / 2^b):=by
  have e1:val (ls.drop i) / 2^b / 4294967296=val (ls.drop (i+1)) / 2^b:=by
   rw[Nat.div_div_eq_div_mul,bX,<-Nat.div_div_eq_div_mul];congr 1;omega
  have e2:val (ls.drop i) / 2^b % 4294967296=q:=by
   have h3:∃z,val (ls.drop i)=t+2^b*(4294967296*z):=by
    cases hx:ls[i+1]? with
    |some y=>
     have:=jq hx;refine⟨2^(32-b)*val (ls.drop (i+1+1)),?_⟩;have h4:2^b*(4294967296*(2^(32-b)*val (ls.drop (i+1+1))))=18446744073709551616*val (ls.drop (i+1+1)):=by
      rw[Nat.mul_left_comm,<-bj (2^b),<-Nat.pow_add,Nat.add_sub_cancel' hb,<-bj]
     rw[h4,hN,this,ht,List.getD,hx];simp only[Option.getD_some]
     omega
    |none=>
     refine⟨0,?_⟩;have h5:ls.length<=i+1:=List.getElem?_eq_none_iff.1 hx;rw[hN,List.drop_of_length_le h5,ht,List.getD,hx];simp[val]
   obtain⟨z,hz⟩:=h3;rw[hz,Nat.add_mul_div_left _ _ (bz b),Nat.add_mul_mod_self_left,hq]
  have:=Nat.div_add_mod (val (ls.drop i) / 2^b) 4294967296;rw[e1,e2]at this;omega
 rw[h2,b9,bX 4294967296 (wt i),bj];omega
theorem aDE(hS:Old S w)(h:dV w S v ls)(hl:ls.length<=1000000000000)(hb:b<32):
  eA PG N.sD #[v,.int .u64 b] w (eL w fun v' w2=>eK w2 (Nf w w2) v' (val ls / 2^b)):=by
 obtain⟨x,rfl,rfl⟩:=h.la;refine xS (by simp) ?_
 refine⟨x.ls.length,x.ls.length,rfl,rfl,Nat.le_refl _,by omega,by omega,Nat×List Nat×World,fun z=>⟨[(0,sV x.a x.ls.length x.c),(1,.o (.v (.int .u64 b))),(5,.o (.s 0 0 x.ls.length x.ls.length)),(12,iZ x.ls.length),(13,iZ z.1)],
   [(0,.arr T.uint32 (U z.2.1))],1,[],z.2.2⟩,fun z=>x.ls.length-z.1,
  fun z=>z.1<=x.ls.length∧dg w.heap.size w z.2.2∧z.2.1.length=x.ls.length∧Lm z.2.1∧val (z.2.1.take z.1)+wt z.1*(val (x.ls.drop z.1) / 2^b)=val x.ls / 2^b,?_,?_⟩
 ·intro O w' r;rw[vG]at r;exact⟨(0,List.replicate x.ls.length 0,w'),⟨by simp,r.cS,by simp,Lm.replicate _,by simp[val,jx]⟩,Sub.gn [] r⟩
 ·rintro⟨i,out,w1⟩ ⟨hi,hw,Qt,PX,hv⟩;dsimp only at hi hw Qt PX hv ⊢;refine dG.mk ?_ ?_<;>intro h
  ·have h:i<x.ls.length:=by simpa using h
   obtain⟨a,Pf⟩:∃k,x.ls[i]? =some k:=⟨_,aB h⟩
   obtain⟨ad,Oy,PK⟩:=x.load hS hw Pf;have Ql:=x.lm.at Pf;obtain⟨d,hd⟩:∃q,out[i]? =some q:=⟨_,aB (by omega)⟩
   refine⟨ad,Oy,by omega,.int .u32 a,PK _ _ _,(a:Int),fE (by omega),((i+1:Nat):Int),wo,?_⟩;refine dG.mk ?_ ?_<;>intro h2
   ·have h2:i+1<x.ls.length:=by
     have:((i+1:Nat):Int)<x.ls.length:=aH h2;omega
    obtain⟨y,hy⟩:∃k,x.ls[i+1]? =some k:=⟨_,aB h2⟩
    obtain⟨ad2,Pv,RZ⟩:=x.load hS hw hy;have hy32:=x.lm.at hy;have QY:x.ls.getD (i+1) 0=y:=by simp[List.getD,hy]
    have VZ:a ||| y*2^32=a+4294967296*y:=by
     rw[bX];exact G8 (k:=32) Ql
    refine⟨((i+1:Nat):Int),wo,ad2,Pv,by omega,.int .u32 y,RZ _ _ _,(y:Int),fE (by omega),by decide,((y*2^32:Nat):Int),G7 (k:=32) (by decide) (by omega),((a+4294967296*y:Nat):Int),by rw[aA7 (by omega) (by omega),VZ],by omega,(((a+4294967296*y) / 2^b:Nat):Int),nJ b (by omega),(((a+4294967296*y) / 2^b % 4294967296:Nat):Int),ff _,?_⟩;have PW:=FV (t:=a+4294967296*y) Ql Pf hd (by omega) (by rw[QY]) rfl hv;generalize hq:(a+4294967296*y) / 2^b % 4294967296=q at*
    have hq32:q<4294967296:=by rw[<-hq];exact cD _ (by decide)
    refine⟨by omega,by rw[gw];omega,U (out.set i q),jk out i _ (by omega) (by simp),((i+1:Nat):Int),wo,?_⟩;intro ρ3 w3 r3
    exact⟨(i+1,out.set i q,w3),⟨by dsimp only;omega,hw.tr r3.cS,by simp[Qt],PX.set hq32,PW⟩,
     Sub.gn [] r3,by dsimp only;omega⟩
   ·have h2:¬i+1<x.ls.length:=by
     have:¬((i+1:Nat):Int)<x.ls.length:=aG h2;omega
    have QY:x.ls.getD (i+1) 0=0:=by simp[List.getD,List.getElem?_eq_none (show x.ls.length<=i+1 by omega)]
    refine⟨by omega,((a / 2^b:Nat):Int),nJ b (by omega),((a / 2^b % 4294967296:Nat):Int),ff _,?_⟩;have PW:=FV (t:=a) Ql Pf hd (by omega) (by rw[QY];omega) rfl hv;generalize hq:a / 2^b % 4294967296=q at*
    have hq32:q<4294967296:=by rw[<-hq];exact cD _ (by decide)
    refine⟨by omega,by rw[gw];omega,U (out.set i q),jk out i _ (by omega) (by simp),((i+1:Nat):Int),wo,?_⟩;intro ρ3 w3 r3
    exact⟨(i+1,out.set i q,w3),⟨by dsimp only;omega,hw.tr r3.cS,by simp[Qt],PX.set hq32,PW⟩,
     Sub.gn [] r3,by dsimp only;omega⟩
  ·have Rj:i=x.ls.length:=by
    have:¬i<x.ls.length:=by simpa using h
    omega
   subst Rj;have Tz:val out=val x.ls / 2^b:=by
    rw[List.drop_length,List.take_of_length_le (by omega)]at hv;simpa [val]using hv
   refine iJ (Φ:=fun O _ v w2=>dV w2 (fun g=>g=(O 0).g) v (eH out)) (H':=[]) 0 rfl (by simp) trivial rfl (fun O w' r=>r.nn 0 _ rfl (by intros;simp) (by simp)) (fun O w' r=>?_) ?_
   ·have hL:=r.pF (id:=0) rfl PX (by omega);rw[Qt]at hL;exact fw (fun g hg=>by rw[hg];exact(r.low 0 _ rfl (r.nn 0 _ rfl (by intros;simp) (by simp))).2) hL
   rintro O w' v w2 r he hb hL;replace hw:=hw.tr hb;have Ol:=r.low 0 _ rfl (r.nn 0 _ rfl (by intros;simp) (by simp));generalize (O 0).g=g at*
   have hs:=he.size;intro ρ3 w3 r3;refine⟨_,rfl,hw.tr r3.cS,eH out,?_,(fS out).2.1,?_⟩
   ·refine(hL.cJ fun k hk=>?_).cL fun k hk=>.inr ?_
    ·rw[hk];exact r3.sZ.block g (by omega) (by simp)
    ·rw[hk];have:=r3.size;omega
   ·rw[(fS out).1,Tz]
theorem Kl{by_ rest x d:Nat}(hx:ls[k]? =some x)(hd:out[k]? =some d)(ht:t=rest*4294967296+x)
  (hv:val (ls.drop (k+1))=by_*val (out.drop (k+1))+rest):val (ls.drop k)=by_*val ((out.set k (t / by_)).drop k)+t % by_:=by
 have hi:=(aE.1 hd).1;have h1:(out.set k (t / by_))[k]? =some (t / by_):=by rw[aR hi]
 rw[jq h1,List.drop_set_of_lt (show k<k+1 by omega),jq hx,hv,b9,b9];have h2:=Nat.div_add_mod t by_;rw[Nat.mul_left_comm by_];omega
theorem aA8(h:t<18446744073709551616):IntKind.u64.wrap ((t:Int).tdiv (b:Int))=((t / b:Nat):Int):=by
 have h1:=Nat.div_le_self t b;rw[Int.tdiv_eq_ediv_of_nonneg (by omega),<-Int.natCast_ediv];exact fE (by omega)
theorem aBP(t b:Nat):(t:Int).tmod (b:Int)=((t % b:Nat):Int):=by
 rw[Int.tmod_eq_emod_of_nonneg (by omega),<-Int.natCast_emod]
theorem aBv(hS:Old S w)(h:dV w S v ls)(hl:ls.length<=1000000000000)(hb:0<b)(RG:b<4294967296):
  eA PG N.ql #[v,.int .u32 b] w (eL w fun v' w2=>∃q,v'= .tuple #[q,.int .u32 ((val ls % b:Nat):Int)]∧eK w2 (Nf w w2) q (val ls / b)):=by
 obtain⟨x,rfl,rfl⟩:=h.la;refine uz (by simp) ?_
 refine⟨x.ls.length,x.ls.length,rfl,rfl,Nat.le_refl _,by omega,by omega,(x.ls.length:Int)-1,wo,Nat×Nat×List Nat×World,fun z=>⟨[(0,sV x.a x.ls.length x.c),(1,.o (.v (.int .u32 b))),(4,sV none 0 0),(5,.o (.v (.int .u32 0))),(6,.o (.s 0 0 x.ls.length x.ls.length)),(7,.o (.v (.int .u64 z.2.1))),(8,.o (.v (.int .i64 ((z.1:Int)-1))))],
   [(0,.arr T.uint32 (U z.2.2.1))],1,[],z.2.2.2⟩,fun z=>z.1,
  fun z=>z.1<=x.ls.length∧dg w.heap.size w z.2.2.2∧z.2.2.1.length=x.ls.length∧Lm z.2.2.1∧z.2.1<b∧val (x.ls.drop z.1)=b*val (z.2.2.1.drop z.1)+z.2.1,?_,?_⟩
 ·intro O w' r;rw[vG]at r;exact⟨(x.ls.length,0,List.replicate x.ls.length 0,w'),⟨by simp,r.cS,by simp,Lm.replicate _,by simpa using hb,by simp[val]⟩,Sub.gn [] r⟩
 ·rintro⟨k,rest,out,w1⟩ ⟨hi,hw,Qt,PX,hr,hv⟩;dsimp only at hi hw Qt PX hr hv ⊢;refine dG.mk ?_ ?_<;>intro h
  ·have h:(k:Int)-1≥0:=aH h;obtain⟨k,rfl⟩:∃q,k=q+1:=⟨k-1,by omega⟩
   rw[show ((k+1:Nat):Int)-1=(k:Int) by omega];obtain⟨a,Pf⟩:∃q,x.ls[k]? =some q:=⟨_,aB (by omega)⟩
   obtain⟨ad,Oy,PK⟩:=x.load hS hw Pf;have Ql:=x.lm.at Pf;obtain⟨d,hd⟩:∃q,out[k]? =some q:=⟨_,aB (by omega)⟩
   refine⟨by decide,((rest*2^32:Nat):Int),G7 (k:=32) (by decide) (by omega),ad,Oy,by omega,.int .u32 a,PK _ _ _,(a:Int),fE (by omega),?_⟩;have VZ:rest*2^32 ||| a=rest*4294967296+a:=by
    rw[Nat.or_comm,bX,G8 (k:=32) Ql];omega
   refine⟨((rest*4294967296+a:Nat):Int),by rw[aA7 (by omega) (by omega),VZ],?_⟩;generalize ht:rest*4294967296+a=t;have ht64:t<18446744073709551616:=by omega
   refine cO hτ dZ [.x 0,.x 1,.x 2,.x 3,.x 4,.x 5,.x 6,.x 7,.x 8,.x 9,.x 10,.x 11,.x 12,.x 13] (by kernel_rfl) (by kernel_rfl) ?_;refine⟨(b:Int),fE (by omega),by omega,((t / b:Nat):Int),aA8 ht64,?_⟩;have hq:t / b<4294967296:=by
    rw[Nat.div_lt_iff_lt_mul hb];have:=Nat.mul_le_mul_right 4294967296 hr;rw[Nat.succ_eq_add_one,Nat.add_mul]at this;omega
   have hm:t % b<b:=cD _ hb;have PW:=Kl Pf hd ht.symm hv;have hw32:IntKind.u32.wrap ((t / b:Nat):Int)=((t / b:Nat):Int):=by rw[ff,bT hq]
   have hrem:=aBP t b;generalize t / b=q at*
   generalize t % b=m at*
   refine⟨(q:Int),hw32,(b:Int),fE (by omega),by omega,(m:Int),hrem,by omega,by rw[gw];omega,U (out.set k q),jk out k _ (by omega) (by simp),(k:Int)-1,wo,?_⟩;intro ρ3 w3 r3
   exact⟨(k,m,out.set k q,w3),⟨by dsimp only;omega,hw.tr r3.cS,by simp[Qt],PX.set hq,hm,PW⟩,
    Sub.gn [] r3,by dsimp only;omega⟩
  ·have SS:k=0:=by
    have:¬(k:Int)-1≥0:=aG h;omega
   subst SS;rw[List.drop_zero,List.drop_zero]at hv;have Xf:val x.ls / b=val out∧val x.ls % b=rest:=by
    rw[hv];exact⟨by rw[Nat.mul_add_div hb,Nat.div_eq_of_lt hr,bu],by rw[Nat.mul_add_mod,bT hr]⟩
   rw[Xf.1,Xf.2];refine iJ (Φ:=fun O _ v w2=>dV w2 (fun g=>g=(O 0).g) v (eH out)) (H':=[]) 0 rfl (by simp) trivial rfl (fun O w' r=>r.nn 0 _ rfl (by intros;simp) (by simp)) (fun O w' r=>?_) ?_
   ·have hL:=r.pF (id:=0) rfl PX (by omega);rw[Qt]at hL;exact fw (fun g hg=>by rw[hg];exact(r.low 0 _ rfl (r.nn 0 _ rfl (by intros;simp) (by simp))).2) hL
   rintro O w' v w2 r he hb hL;replace hw:=hw.tr hb;have Ol:=r.low 0 _ rfl (r.nn 0 _ rfl (by intros;simp) (by simp));generalize (O 0).g=g at*
   have hs:=he.size;refine⟨(rest:Int),by rw[ff,bT (by omega)],?_⟩;intro ρ3 w3 r3;refine⟨_,rfl,hw.tr r3.cS,v,rfl,eH out,?_,(fS out).2.1,(fS out).1⟩;refine(hL.cJ fun k hk=>?_).cL fun k hk=>.inr ?_
   ·rw[hk];exact r3.sZ.block g (by omega) (by simp)
   ·rw[hk];have:=r3.size;omega
end Go.Ex
