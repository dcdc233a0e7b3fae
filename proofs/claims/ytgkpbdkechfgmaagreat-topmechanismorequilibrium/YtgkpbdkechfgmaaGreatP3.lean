/- Texts L1 to X9: lemmas, each with its conditions. -/
import Derived.KernelRfl
import Derived.Test.YtgkpbdkechfgmaaGreatProg
import Derived.Test.YtgkpbdkechfgmaaGreatP2
namespace Go.Ex
variable{a b ls:List Nat}{k:Nat}
def val:List Nat->Nat
 |[]=>0
 |x::r=>x+4294967296*val r
def Lm(ls:List Nat):Prop:=∀x∈ls,x<4294967296
def wt(k:Nat):Nat:=4294967296^k
theorem j9:wt 0=1:=rfl
theorem jQ(k:Nat):wt (k+1)=4294967296*wt k:=by rw[wt,Nat.pow_succ,bT];rfl
theorem DJ(a b:Nat):wt (a+b)=wt a*wt b:=by rw[wt,Nat.pow_add];rfl
theorem zD(k:Nat):0<wt k:=Nat.pow_pos (by decide)
theorem lQ(a b:List Nat):val (a++b)=val a+wt a.length*val b:=by
 induction a with
 |nil=>simp[val,j9]
 |cons x r ih=>
  rw[List.cons_append,val,val,ih,List.length_cons,jQ,bX,bg];omega
theorem oL(h:Lm ls):val ls<wt ls.length:=by
 induction ls with
 |nil=>exact Nat.one_pos
 |cons x r ih=>
  have h1:=h x (by simp);have h2:=ih (fun y hy=>h y (by simp[hy]));rw[val,List.length_cons,jQ];have:4294967296*(val r+1)<=4294967296*wt r.length:=bW _ h2;omega
theorem fC(ls:List Nat)(k:Nat)(h:k<=ls.length):val ls=val (ls.take k)+wt k*val (ls.drop k):=by
 have:=lQ (ls.take k) (ls.drop k);rw[List.take_append_drop,ai,Nat.min_eq_left h]at this;exact this
theorem dh{x:Nat}(h:ls[k]? =some x):val (ls.take (k+1))=val (ls.take k)+wt k*x:=by
 have hk:=(aE.1 h).1;rw[List.take_add_one,h,lQ,ai,Nat.min_eq_left (by omega)];simp[val]
theorem j2{x:Nat}(h:ls[k]? =some x):val (ls.drop k)=x+4294967296*val (ls.drop (k+1)):=by
 obtain⟨hk,hx⟩:=aE.1 h;rw[List.drop_eq_getElem_cons hk,hx,val]
theorem yS{o x:Nat}(h:ls[k]? =some o):val (ls.set k x)+wt k*o=val ls+wt k*x:=by
 obtain⟨hk,ho⟩:=aE.1 h;have h1:=fC ls k (by omega);have h2:=fC (ls.set k x) k (by simp;omega);rw[List.take_set_of_le (Nat.le_refl _)]at h2;rw[j2 h,bX]at h1;have h3:(ls.set k x)[k]? =some x:=by rw[aQ hk]
 rw[j2 h3,List.drop_set_of_lt (by omega),bX]at h2;omega
theorem mq(n:Nat):val (List.replicate n 0)=0:=by
 induction n with
 |zero=>rfl
 |succ n ih=>rw[List.replicate_succ,val,ih]
theorem Lm.set{x:Nat}(h:Lm ls)(hx:x<4294967296):Lm (ls.set k x):=fun y hy=>by
 rcases av hy with h1|rfl
 ·exact h y h1
 ·exact hx
theorem Lm.replicate(n:Nat):Lm (List.replicate n 0):=fun x hx=>by rw[List.mem_replicate]at hx;omega
theorem Lm.take(h:Lm ls)(k:Nat):Lm (ls.take k):=fun x hx=>h x (List.mem_of_mem_take hx)
theorem Lm.drop(h:Lm ls)(k:Nat):Lm (ls.drop k):=fun x hx=>h x (List.mem_of_mem_drop hx)
theorem Lm.append(ha:Lm a)(hb:Lm b):Lm (a++b):=fun x hx=>by
 rcases bE.1 hx with h|h
 ·exact ha x h
 ·exact hb x h
theorem Lm.at(h:Lm ls){x:Nat}(hx:ls[k]? =some x):x<4294967296:=h x (aD hx)
def eA:List Nat->List Nat
 |[]=>[]
 |x::r=>match eA r with
  |[]=>if x=0 then []else [x]
  |y::t=>x::y::t
def Nz(ls:List Nat):Prop:=∀x,ls.getLast? =some x->x≠0
theorem kh(ls:List Nat):eA (ls++[0])=eA ls:=by
 induction ls with
 |nil=>rfl
 |cons x r ih=>rw[List.cons_append,eA,ih,eA]
theorem oM(ls:List Nat){x:Nat}(hx:x≠0):eA (ls++[x])=ls++[x]:=by
 induction ls with
 |nil=>simp[eA,hx]
 |cons y r ih=>
  rw[List.cons_append,eA,ih]
  cases r<;>rfl
theorem sW(ls:List Nat):ls=[]∨∃a x,ls=a++[x]:=by
 rcases List.eq_nil_or_concat ls with h|⟨a,x,h⟩
 ·exact .inl h
 ·exact .inr ⟨a,x,by simpa using h⟩
theorem fJ(ls:List Nat):val (eA ls)=val ls∧Nz (eA ls)∧∃k,k<=ls.length∧eA ls=ls.take k:=by
 have key:∀(n:Nat) (ls:List Nat),ls.length=n->val (eA ls)=val ls∧Nz (eA ls)∧∃k,k<=ls.length∧eA ls=ls.take k:=by
  intro n
  induction n with
  |zero=>intro ls h;have:ls=[]:=List.eq_nil_of_length_eq_zero h;subst this;exact⟨rfl,by simp[Nz,eA],0,Nat.le_refl _,rfl⟩
  |succ n ih=>
   intro ls h;rcases sW ls with rfl|⟨a,x,rfl⟩
   ·simp at h
   ·by_cases hx:x=0
    ·subst hx;rw[kh];obtain⟨h1,h2,k,h3,h4⟩:=ih a (by simp at h;omega);refine⟨by rw[h1,lQ];simp[val],h2,k,by simp;omega,?_⟩;rw[h4,List.take_append_of_le_length h3]
    ·rw[oM a hx];refine⟨rfl,?_,_,Nat.le_refl _,by rw[bF]⟩;intro y hy;simp at hy;subst hy;exact hx
 exact key _ ls rfl
theorem En(h:Nz ls):eA ls=ls:=by
 rcases sW ls with rfl|⟨a,x,rfl⟩
 ·rfl
 ·exact oM a (h x (by simp))
theorem rk(h:Nz ls)(OY:ls≠[]):wt (ls.length-1)<=val ls:=by
 rcases sW ls with rfl|⟨a,x,rfl⟩
 ·exact absurd rfl OY
 ·have hx:=h x (by simp);rw[lQ];simp only[val,List.length_append,List.length_singleton,Nat.add_sub_cancel]
  have:wt a.length*1<=wt a.length*(x+4294967296*0):=bW _ (by omega);omega
theorem val_inj:∀{a b:List Nat},Lm a->Lm b->a.length=b.length->val a=val b->a=b
 |[],[],_,_,_,_=>rfl
 |x::r,y::s,ha,hb,hl,h=>by
  have h1:=ha x (by simp);have h2:=hb y (by simp);rw[val,val]at h;have h3:x=y:=by omega
  have h4:val r=val s:=by omega
  rw[h3,val_inj (fun z hz=>ha z (by simp[hz])) (fun z hz=>hb z (by simp[hz])) (by simpa using hl) h4]
 |[],_::_,_,_,h,_=>by simp at h
 |_::_,[],_,_,h,_=>by simp at h
theorem CC{a b:Nat}(h:a<=b):wt a<=wt b:=Nat.pow_le_pow_right (by decide) h
theorem Hu{a b:Nat}(h:a<b):wt a<wt b:=Nat.pow_lt_pow_right (by decide) h
theorem jR(ha:Lm a)(hb:Nz b)(h:a.length<b.length):val a<val b:=by
 have h1:=oL ha;have h2:=rk hb (by intro e;rw[e]at h;simp at h);have:=CC (show a.length<=b.length-1 by omega);omega
def ln(n:Nat):Nat:=if n=0 then 0 else n.log2 / 32+1
theorem vO(k:Nat):wt k=2^(32*k):=by rw[wt,show(4294967296:Nat)=2^32 from rfl,<-Nat.pow_mul]
theorem gT{n k:Nat}:ln n<=k↔n<wt k:=by
 unfold ln;by_cases h:n=0
 ·rw[if_pos h,h];exact⟨fun _=>zD k,fun _=>aR _⟩
 ·rw[aJ h,vO];constructor
  ·intro h1;have:n.log2<32*k:=by omega
   exact(Nat.log2_lt h).1 this
  ·intro h1;have:=(Nat.log2_lt h).2 h1;omega
theorem lS(n:Nat):n<wt (ln n):=gT.1 (Nat.le_refl _)
theorem fX{a b:Nat}(h:a<=b):ln a<=ln b:=gT.2 (Nat.lt_of_le_of_lt h (lS b))
theorem OS(a b:Nat):ln (a+b)<=max (ln a) (ln b)+1:=by
 rw[gT,jQ];have h1:=Nat.lt_of_lt_of_le (lS a) (CC (Nat.le_max_left (ln a) (ln b)));have h2:=Nat.lt_of_lt_of_le (lS b) (CC (Nat.le_max_right (ln a) (ln b)));omega
theorem OT(a b:Nat):ln (a*b)<=ln a+ln b:=by
 rw[gT,DJ];exact Nat.mul_lt_mul'' (lS a) (lS b)
theorem Mj:ln 0=0:=rfl
theorem eU(h:Lm ls)(hz:Nz ls):ls.length=ln (val ls):=by
 by_cases OY:ls=[]
 ·subst OY;rfl
 ·have h1:=oL h;have h2:=rk hz OY;have h3:=gT.2 h1;have h4:¬ln (val ls)<=ls.length-1:=fun hh=>by have:=gT.1 hh;omega
  omega
end Go.Ex
namespace Go.Ex
open Go Go.Sx
variable{f:(Nat->Sx.dw)->Value}{ls:List Nat}{g n:Nat}{p:Nat×Nat}{v:Value}{P:Value->World->Prop}{w1:World}
def Cv(S:Nat->Prop)(B:Nat)(iv:Iv)(g:Nat):Prop:=S g∨(B<=g∧∃lo hi,(lo,hi)∈iv∧lo<=g∧g<hi)
def Nw(S:Nat->Prop)(w w2:World)(g:Nat):Prop:=S g∨(w.heap.size<=g∧g<w2.heap.size)
def Old(S:Nat->Prop)(w:World):Prop:=∀g,S g->g<w.heap.size
section
variable{S S':Nat->Prop}{H:Hp}{nx:Nat}{iv iv':Iv}{B:Nat}{w w' w2:World}{O:Nat->dw}
theorem Cv.mono(h:Cv S B iv g)(k:∀p,p∈iv->p∈iv'):Cv S B iv' g:=by
 rcases h with h|⟨h0,lo,hi,h1,h2⟩
 ·exact .inl h
 ·exact .inr ⟨h0,lo,hi,k _ h1,h2⟩
theorem Cv.cons(h:Cv S B iv g):Cv S B (p::iv) g:=h.mono fun q hq=>by simp[hq]
theorem Rel.old(r:Rel H nx iv B w O w')(hS:∀g,S g->g<B):Old (Cv S B iv) w':=by
 intro g h;rcases h with h|⟨_,lo,hi,h1,_,h3⟩
 ·have:=hS g h;have:=r.base;have:=r.size;omega
 ·have:=r.pC lo hi h1;have:=r.size;omega
theorem Rel.same(r:Rel H nx iv B w O w')(hS:∀g,S g->g<B)(h:Cv S B iv g):w'.heap[g]? =w.heap[g]? :=by
 rcases h with h|⟨_,lo,hi,h1,h2,h3⟩
 ·have:=hS g h;exact r.vF g (by have:=r.base;omega) fun id b hb hn he=>by have:=(r.low id b hb hn).1;omega
 ·exact r.vF g (by have:=r.pC lo hi h1;omega) fun id b hb hn he=>r.jb lo hi h1 id b hb hn ⟨by omega,by omega⟩
theorem Rel.not(r:Rel H nx iv B w O w')(hS:∀g,S g->g<B)(h:Cv S B iv g):∀id b,dD H id=some b->(O id).nil=false->(O id).g≠g:=by
 rcases h with h|⟨_,lo,hi,h1,h2,h3⟩
 ·have:=hS g h;exact fun id b hb hn he=>by have:=(r.low id b hb hn).1;omega
 ·exact fun id b hb hn he=>r.jb lo hi h1 id b hb hn ⟨by omega,by omega⟩
theorem Nw.cv(h:Nw (Cv S B iv) w' w1 g)(hB:B<=w'.heap.size):Cv S B ((w'.heap.size,w1.heap.size)::iv) g:=by
 rcases h with h|h
 ·exact h.cons
 ·exact .inr ⟨by omega,_,_,aG,h.1,h.2⟩
theorem Cv.nw{w0:World}(h:Cv S w0.heap.size iv g)(r:Rel H nx iv w0.heap.size w O w'):Nw S w0 w' g:=by
 rcases h with h|⟨h0,lo,hi,h1,_,h3⟩
 ·exact .inl h
 ·exact .inr ⟨h0,by have:=r.pC lo hi h1;have:=r.size;omega⟩
structure dV(w:World)(S:Nat->Prop)(v:Value)(ls:List Nat):Prop where
 lm:Lm ls
 le:ls.length<=9223372036854775807
 sl:∃a c,v= .slice a ls.length c∧ls.length<=c∧∀(j:Nat) x,ls[j]? =some x->∃ad,a=some ad∧S ad.block∧w.cell? (ad.add j)=some (.int .u32 x)
theorem dC(ad:Addr)(j:Nat):(ad.add j).block=ad.block:=by
 unfold Addr.add;split<;>rfl
theorem dV.cJ(h:dV w S v ls)(hk:∀g,S g->w2.heap[g]? =w.heap[g]?):dV w2 S v ls:=by
 obtain⟨a,c,h1,TV,h2⟩:=h.sl;refine⟨h.lm,h.le,a,c,h1,TV,fun j x hx=>?_⟩;obtain⟨ad,h3,h4,h5⟩:=h2 j x hx;exact⟨ad,h3,h4,by rw[cI (hk _ (by rw[dC];exact h4))];exact h5⟩
theorem dV.cL(h:dV w S v ls)(hk:∀g,S g->S' g):dV w S' v ls:=by
 obtain⟨a,c,h1,TV,h2⟩:=h.sl;refine⟨h.lm,h.le,a,c,h1,TV,fun j x hx=>?_⟩;obtain⟨ad,h3,h4,h5⟩:=h2 j x hx;exact⟨ad,h3,hk _ h4,h5⟩
theorem dV.rel(h:dV w (Cv S B iv) v ls)(r:Rel H nx iv B w O w')(hS:∀g,S g->g<B):dV w' (Cv S B iv) v ls:=h.cJ fun _g hg=>Rel.same r hS hg
theorem dV.nil(w:World)(S:Nat->Prop):dV w S (.slice none 0 0) []:=⟨by simp[Lm],by simp,none,0,rfl,Nat.le_refl _,by simp⟩
def eC(w:World)(S:Nat->Prop)(v:Value)(n:Nat):Prop:=∃ls,dV w S v ls∧Nz ls∧val ls=n
theorem eC.cJ(h:eC w S v n)(hk:∀g,S g->w2.heap[g]? =w.heap[g]?):eC w2 S v n:=by
 obtain⟨ls,h1,h2,h3⟩:=h;exact⟨ls,h1.cJ hk,h2,h3⟩
theorem eC.cL(h:eC w S v n)(hk:∀g,S g->S' g):eC w S' v n:=by
 obtain⟨ls,h1,h2,h3⟩:=h;exact⟨ls,h1.cL hk,h2,h3⟩
theorem eC.nil(w:World)(S:Nat->Prop):eC w S (.slice none 0 0) 0:=⟨[],dV.nil w S,by simp[Nz],rfl⟩
end
abbrev iZ(z:Int):SV:=.o (.v (.int .i64 z))
abbrev iN(n:Nat):SV:=.o (.v (.int .i64 (n:Int)))
abbrev sV(a:Option Addr)(n c:Nat):SV:=.o (.v (.slice a n c))
abbrev pP(i j:Nat):SV:=.o (.p i j)
theorem rtn{H:Hp}{nx:Nat}{iv:Iv}{w:World}(hw:dq w.heap.size w w1)(h:∀O w',Rel H nx iv w.heap.size w1 O w'->P (f O) w'):∀O w',Rel H nx iv w.heap.size w1 O w'->eL w P (.returned (f O)) w':=fun O w' r=>⟨_,rfl,hw.tr r.cU,h O w' r⟩
abbrev FF:Nat->Prop:=fun _=>False
theorem bR(w:World):dq w.heap.size w w:=dq.refl
abbrev Nf(w w2:World):Nat->Prop:=Nw (fun _=>False) w w2
abbrev Cf(w:World):Iv->Nat->Prop:=Cv (fun _=>False) w.heap.size
section
variable{S:Nat->Prop}{H:Hp}{nx:Nat}{iv:Iv}{B i n:Nat}{w w1 w':World}{O:Nat->Sx.dw}{ad:Addr}{cs:List Value}{x:Value}
theorem kS(hw:dq B w w1)(r:Rel H nx iv B w1 O w')(hS:∀g,S g->g<B):∀g,S g->w'.heap[g]? =w.heap[g]? :=fun g hg=>(hw.tr r.cU).block g (hS g hg)
theorem oS(hS:∀g,S g->g<B)(r:Rel H nx iv B w O w'):∀g,S g->g<w'.heap.size:=fun g hg=>by have:=hS g hg;have:=r.base;have:=r.size;omega
theorem rdO(hl:∀(j:Nat) u,cs[j]? =some u->S ad.block∧w.cell? ((ad.add (i*n)).add j)=some u)(hw:dq B w w1)(hS:∀g,S g->g<B):∀O w',Rel H nx iv B w1 O w'->∀(j:Nat) u,cs[j]? =some u->w'.cell? ((ad.add ((i:Int).toNat*n)).add j)=some u:=fun O w' r j u hu=>by
 obtain⟨k1,k2⟩:=hl j u hu;rw[aF,cI (w:=w) (w2:=w') (by rw[dC,dC];exact(hw.tr r.cU).block _ (hS _ k1))];exact k2
theorem rd1(hl:w.cell? (ad.add (i*n))=some x)(hw:dq B w w1)(hb:ad.block<B):∀O w',Rel H nx iv B w1 O w'->w'.cell? (ad.add ((i:Int).toNat*n))=some x:=fun O w' r=>by
 rw[aF,cI (w:=w) (w2:=w') (by rw[dC];exact(hw.tr r.cU).block _ hb)];exact hl
end
end Go.Ex
namespace Go.Ex
open Go Go.Sx Go.Proofs
variable{args:Array Value}{R:Ending->World->Prop}{ls:List Nat}{k n:Nat}{S:Nat->Prop}{O:Nat->Sx.dw}{v:Value}{w:World}
noncomputable abbrev PG:Program:=Tryz.prog
def slT(e:Nat):TI:={size:=1,bytes:=24,zero:=[.slice none 0 0],agg:=false,tag:=4,elem:=e}
def aA7:List (Nat×TI):=[
 (3,{size:=1,bytes:=8,zero:=[.int .i64 0],agg:=false,tag:=1,ik:=.i64}),
 (4,{size:=1,bytes:=1,zero:=[.bool false],agg:=false,tag:=2}),
 (40,slT 48),
 (48,{size:=4,bytes:=64,zero:=[.bool false,.slice none 0 0,.bool false,.slice none 0 0],agg:=true,tag:=5,fields:=[(0,46),(2,46)]}),
 (37,slT 3),
 (32,{size:=1,bytes:=8,zero:=[.int .i64 0],agg:=false,tag:=1,ik:=.i64}),
 (26,{size:=3,bytes:=72,zero:=[.slice none 0 0,.slice none 0 0,.slice none 0 0],agg:=true,tag:=5,fields:=[(0,22),(1,23),(2,24)]}),
 (87,slT 40),
 (46,{size:=2,bytes:=32,zero:=[.bool false,.slice none 0 0],agg:=true,tag:=5,fields:=[(0,4),(1,44)]}),
 (155,slT 292),
 (30,slT 141),
 (209,slT 159),
 (292,{size:=1,bytes:=4,zero:=[.int .u32 0],agg:=false,tag:=1,ik:=.u32}),
 (159,{size:=4,bytes:=64,zero:=[.bool false,.slice none 0 0,.bool false,.slice none 0 0],agg:=true,tag:=5,fields:=[(0,157),(2,157)]}),
 (157,{size:=2,bytes:=32,zero:=[.bool false,.slice none 0 0],agg:=true,tag:=5,fields:=[(0,4),(1,155)]}),
 (206,slT 209),
 (291,{size:=1,bytes:=8,zero:=[.int .u64 0],agg:=false,tag:=1,ik:=.u64}),
 (24,slT 146),
 (168,{size:=2,bytes:=32,zero:=[.slice none 0 0,.int .i64 0],agg:=true,tag:=5,fields:=[(0,87),(1,3)]}),
 (23,slT 144),
 (141,{size:=4,bytes:=32,zero:=[.int .i64 0,.int .i64 0,.int .i64 0,.int .i64 0],agg:=true,tag:=5,fields:=[(0,3),(1,3),(2,3),(3,3)]}),
 (22,slT 195),
 (100,{size:=3,bytes:=56,zero:=[.int .i64 0,.slice none 0 0,.slice none 0 0],agg:=true,tag:=5,fields:=[(0,3),(1,37),(2,37)]}),
 (44,slT 292),
 (144,{size:=6,bytes:=80,zero:=[.int .i64 0,.int .i64 0,.bool false,.slice none 0 0,.bool false,.slice none 0 0],agg:=true,tag:=5,fields:=[(0,3),(1,3),(2,48)]}),
 (195,{size:=3,bytes:=24,zero:=[.int .i64 0,.int .i64 0,.int .i64 0],agg:=true,tag:=5,fields:=[(0,3),(1,3),(2,3)]}),
 (146,{size:=6,bytes:=80,zero:=[.int .i64 0,.int .i64 0,.bool false,.slice none 0 0,.bool false,.slice none 0 0],agg:=true,tag:=5,fields:=[(0,3),(1,3),(2,48)]}),
 (177,slT 37),
 (101,slT 117),
 (27,slT 30),
 (58,{size:=3,bytes:=56,zero:=[.int .i64 0,.slice none 0 0,.slice none 0 0],agg:=true,tag:=5,fields:=[(0,3),(1,40),(2,40)]}),
 (255,{size:=4,bytes:=80,zero:=[.slice none 0 0,.int .i64 0,.slice none 0 0,.slice none 0 0],agg:=true,tag:=5,fields:=[(0,168),(2,37),(3,37)]}),
 (117,{size:=4,bytes:=32,zero:=[.int .i64 0,.int .i64 0,.int .i64 0,.int .i64 0],agg:=true,tag:=5,fields:=[(0,3),(1,3),(2,3),(3,3)]}),
 (31,slT 52),
 (70,slT 193),
 (120,{size:=2,bytes:=16,zero:=[.int .i64 0,.int .i64 0],agg:=true,tag:=5,fields:=[(0,3),(1,3)]}),
 (102,slT 120),
 (191,{size:=8,bytes:=64,zero:=[.int .i64 0,.int .i64 0,.int .i64 0,.int .i64 0,.int .i64 0,.int .i64 0,.int .i64 0,.int .i64 0],agg:=true,tag:=5,fields:=[(0,184),(4,3),(5,3),(6,3),(7,3)]}),
 (225,{size:=5,bytes:=40,zero:=[.int .i64 0,.int .i64 0,.int .i64 0,.int .i64 0,.int .i64 0],agg:=true,tag:=5,fields:=[(0,3),(1,3),(2,3),(3,3),(4,3)]}),
 (229,slT 228),
 (267,{size:=3,bytes:=24,zero:=[.int .i64 0,.int .i64 0,.int .i64 0],agg:=true,tag:=6,DB:=3,elem:=3}),
 (97,{size:=3,bytes:=24,zero:=[.int .i64 0,.int .i64 0,.int .i64 0],agg:=true,tag:=5,fields:=[(0,3),(1,3),(2,3)]}),
 (228,{size:=2,bytes:=16,zero:=[.int .i64 0,.int .i64 0],agg:=true,tag:=5,fields:=[(0,3),(1,3)]}),
 (36,slT 4),
 (129,{size:=4,bytes:=80,zero:=[.int .i64 0,.slice none 0 0,.slice none 0 0,.slice none 0 0],agg:=true,tag:=5,fields:=[(0,3),(1,40),(2,87),(3,40)]}),
 (220,{size:=3,bytes:=40,zero:=[.int .i64 0,.int .i64 0,.slice none 0 0],agg:=true,tag:=5,fields:=[(0,3),(1,3),(2,37)]}),
 (293,{size:=1,bytes:=8,zero:=[.int .u64 0],agg:=false,tag:=1,ik:=.u64}),
 (68,slT 186),
 (69,slT 191),
 (184,{size:=4,bytes:=32,zero:=[.int .i64 0,.int .i64 0,.int .i64 0,.int .i64 0],agg:=true,tag:=6,DB:=4,elem:=3}),
 (193,{size:=2,bytes:=16,zero:=[.int .i64 0,.int .i64 0],agg:=true,tag:=5,fields:=[(0,3),(1,3)]}),
 (186,{size:=5,bytes:=40,zero:=[.int .i64 0,.int .i64 0,.int .i64 0,.int .i64 0,.int .i64 0],agg:=true,tag:=5,fields:=[(0,184),(4,3)]}),
 (249,{size:=3,bytes:=72,zero:=[.slice none 0 0,.slice none 0 0,.slice none 0 0],agg:=true,tag:=5,fields:=[(0,209),(1,209),(2,206)]}),
 (281,{size:=2,bytes:=16,zero:=[.int .i64 0,.int .i64 0],agg:=true,tag:=5,fields:=[(0,3),(1,3)]}),
 (52,{size:=10,bytes:=176,zero:=[.bool false,.slice none 0 0,.bool false,.slice none 0 0,.bool false,.slice none 0 0,.bool false,.slice none 0 0,.slice none 0 0,.slice none 0 0],agg:=true,tag:=5,fields:=[(0,50),(8,37),(9,37)]}),
 (279,{size:=1,bytes:=8,zero:=[.map none],agg:=false,tag:=0}),
 (72,{size:=4,bytes:=80,zero:=[.slice none 0 0,.int .i64 0,.slice none 0 0,.slice none 0 0],agg:=true,tag:=5,fields:=[(0,68),(1,3),(2,69),(3,70)]}),
 (104,{size:=2,bytes:=48,zero:=[.slice none 0 0,.slice none 0 0],agg:=true,tag:=5,fields:=[(0,37),(1,102)]}),
 (108,{size:=3,bytes:=24,zero:=[.int .i64 0,.int .i64 0,.int .i64 0],agg:=true,tag:=5,fields:=[(0,3),(1,3),(2,3)]}),
 (9,{size:=1,bytes:=16,zero:=[.string ⟨#[]⟩],agg:=false,tag:=3}),
 (50,{size:=8,bytes:=128,zero:=[.bool false,.slice none 0 0,.bool false,.slice none 0 0,.bool false,.slice none 0 0,.bool false,.slice none 0 0],agg:=true,tag:=5,fields:=[(0,48),(4,48)]}),
 (149,{size:=1,bytes:=8,zero:=[.pointer none],agg:=false,tag:=7}),
 (308,{size:=1,bytes:=8,zero:=[.nilFunc],agg:=false,tag:=0}),
 (296,{size:=1,bytes:=8,zero:=[.nilFunc],agg:=false,tag:=0}),
 (152,{size:=80,bytes:=640,zero:=[.int .i64 0,.int .i64 0,.int .i64 0,.int .i64 0,.int .i64 0,.int .i64 0,.int .i64 0,.int .i64 0,.int .i64 0,.int .i64 0,.int .i64 0,.int .i64 0,.int .i64 0,.int .i64 0,.int .i64 0,.int .i64 0,.int .i64 0,.int .i64 0,.int .i64 0,.int .i64 0,.int .i64 0,.int .i64 0,.int .i64 0,.int .i64 0,.int .i64 0,.int .i64 0,.int .i64 0,.int .i64 0,.int .i64 0,.int .i64 0,.int .i64 0,.int .i64 0,.int .i64 0,.int .i64 0,.int .i64 0,.int .i64 0,.int .i64 0,.int .i64 0,.int .i64 0,.int .i64 0,.int .i64 0,.int .i64 0,.int .i64 0,.int .i64 0,.int .i64 0,.int .i64 0,.int .i64 0,.int .i64 0,.int .i64 0,.int .i64 0,.int .i64 0,.int .i64 0,.int .i64 0,.int .i64 0,.int .i64 0,.int .i64 0,.int .i64 0,.int .i64 0,.int .i64 0,.int .i64 0,.int .i64 0,.int .i64 0,.int .i64 0,.int .i64 0,.int .i64 0,.int .i64 0,.int .i64 0,.int .i64 0,.int .i64 0,.int .i64 0,.int .i64 0,.int .i64 0,.int .i64 0,.int .i64 0,.int .i64 0,.int .i64 0,.int .i64 0,.int .i64 0,.int .i64 0,.int .i64 0],agg:=true,tag:=6,DB:=20,elem:=141}),
 (239,{size:=1,bytes:=8,zero:=[.nilFunc],agg:=false,tag:=0}),
 (242,{size:=1,bytes:=8,zero:=[.nilFunc],agg:=false,tag:=0}),
 (153,{size:=1,bytes:=8,zero:=[.pointer none],agg:=false,tag:=7}),
 (174,{size:=1,bytes:=8,zero:=[.nilFunc],agg:=false,tag:=0}),
 (213,{size:=1,bytes:=8,zero:=[.nilFunc],agg:=false,tag:=0}),
 (5,{size:=1,bytes:=1,zero:=[.int .u8 0],agg:=false,tag:=1,ik:=.u8}),
 (310,{size:=1,bytes:=8,zero:=[.nilFunc],agg:=false,tag:=0}),
 (315,{size:=1,bytes:=8,zero:=[.nilFunc],agg:=false,tag:=0}),
 (8,{size:=4,bytes:=24,zero:=[.int .i64 0,.int .i64 0,.bool false,.int .u8 0],agg:=true,tag:=5,fields:=[(0,2),(1,3),(2,4),(3,6)]}),
 (10,{size:=1,bytes:=16,zero:=[.string ⟨#[]⟩],agg:=false,tag:=3}),
 (11,{size:=1,bytes:=16,zero:=[.string ⟨#[]⟩],agg:=false,tag:=3}),
 (14,{size:=2,bytes:=24,zero:=[.string ⟨#[]⟩,.int .u64 0],agg:=true,tag:=5,fields:=[(0,9),(1,12)]}),
 (15,{size:=1,bytes:=8,zero:=[.pointer none],agg:=false,tag:=7}),
 (16,{size:=1,bytes:=8,zero:=[.pointer none],agg:=false,tag:=7}),
 (19,{size:=1,bytes:=8,zero:=[.pointer none],agg:=true,tag:=5,fields:=[(0,17)]}),
 (17,{size:=1,bytes:=8,zero:=[.pointer none],agg:=false,tag:=7}),
 (353,{size:=1,bytes:=1,zero:=[.int .u8 0],agg:=false,tag:=1,ik:=.u8}),
 (2,{size:=1,bytes:=8,zero:=[.int .i64 0],agg:=false,tag:=1,ik:=.i64}),
 (6,{size:=1,bytes:=1,zero:=[.int .u8 0],agg:=false,tag:=1,ik:=.u8}),
 (12,{size:=1,bytes:=8,zero:=[.int .u64 0],agg:=false,tag:=1,ik:=.u64})]
def τ:nF:=yM aA7
theorem hτ:fk PG τ:=ON (l:=aA7) (by kernel_rfl)
theorem dx:PG.follows .mixedOrders=true:=by rfl
noncomputable def bd (f:Func):Code:=match f.body with
 |some c=>c
 |none=>.skip
theorem dG{f:FuncId}{fn:Func}(hf:PG.funcs[f]? =some fn)(hb:fn.body=some (bd fn))(Ty:(fn.name== "runtime.NumGoroutine")=false)
  (hn:args.size<=fn.ntmps) (OZ:codeOk fn.ntmps (bd fn)=true) (h:mm PG τ w.heap.size (bd fn) (fm 0 args.toList) [] 0 [] w (OR τ w.heap.size fn.results.toList R)):eG PG f args w R:=
 ⟨Ih hf hb Ty,Em hτ hf hb hn OZ h⟩
abbrev T.int:Nat:=3
abbrev T.bool:Nat:=4
abbrev T.string:Nat:=9
abbrev T.Frame:Nat:=26
abbrev T.Lint:Nat:=37
abbrev T.iQ:Nat:=40
abbrev T.Int:Nat:=46
abbrev T.Rat:Nat:=48
abbrev T.aA8:Nat:=58
abbrev T.aAq:Nat:=141
abbrev T.Bar:Nat:=144
abbrev T.DX:Nat:=146
abbrev T.nat:Nat:=155
abbrev T.number:Nat:=157
abbrev T.dy:Nat:=159
abbrev T.du:Nat:=168
abbrev T.Node:Nat:=195
abbrev T.row:Nat:=209
abbrev T.solved:Nat:=249
abbrev T.dZ:Nat:=255
abbrev T.xj:Nat:=279
abbrev T.DY:Nat:=281
abbrev T.uint32:Nat:=292
abbrev N.top_TopMechanismOrEquilibrium:Nat:=10
abbrev N.top_bears:Nat:=11
abbrev N.top_slight:Nat:=12
abbrev N.qE:Nat:=14
abbrev N.qF:Nat:=16
abbrev N.vY:Nat:=17
abbrev N.ry:Nat:=22
abbrev N.pG:Nat:=23
abbrev N.l0:Nat:=25
abbrev N.xF:Nat:=30
abbrev N.se:Nat:=36
abbrev N.qG:Nat:=37
abbrev N.xG:Nat:=49
abbrev N.xH:Nat:=51
abbrev N.top_table:Nat:=55
abbrev N.nR:Nat:=56
abbrev N.uA:Nat:=57
abbrev N.vZ:Nat:=58
abbrev N.qH:Nat:=60
abbrev N.ju:Nat:=61
abbrev N.xI:Nat:=63
abbrev N.CS:Nat:=66
abbrev N.CT:Nat:=67
abbrev N.top_bracket:Nat:=68
abbrev N.AF:Nat:=69
abbrev N.rz:Nat:=71
abbrev N.qI:Nat:=72
abbrev N.qJ:Nat:=73
abbrev N.ve:Nat:=74
abbrev N.qK:Nat:=75
abbrev N.l5:Nat:=76
abbrev N.l6:Nat:=77
abbrev N.xJ:Nat:=78
abbrev N.l7:Nat:=79
abbrev N.pH:Nat:=85
abbrev N.j0:Nat:=86
abbrev N.qL:Nat:=87
abbrev N.j7:Nat:=88
abbrev N.gk:Nat:=89
abbrev N.xK:Nat:=90
abbrev N.uB:Nat:=91
abbrev N.xL:Nat:=92
abbrev N.nS:Nat:=93
abbrev N.uC:Nat:=96
abbrev N.nT:Nat:=98
abbrev N.fV:Nat:=99
abbrev N.kl:Nat:=100
abbrev N.fp:Nat:=101
abbrev N.sA:Nat:=104
abbrev N.uD:Nat:=108
abbrev N.uE:Nat:=111
abbrev N.uF:Nat:=112
abbrev N.CU:Nat:=113
abbrev N.sf:Nat:=114
abbrev N.FV:Nat:=115
abbrev N.AG:Nat:=116
abbrev N.xM:Nat:=117
abbrev N.km:Nat:=118
abbrev N.uG:Nat:=122
abbrev N.ko:Nat:=126
abbrev N.xN:Nat:=139
abbrev N.qM:Nat:=151
abbrev N.k8:Nat:=152
abbrev N.mT:Nat:=153
abbrev N.xO:Nat:=154
abbrev N.qN:Nat:=155
abbrev N.xP:Nat:=156
abbrev N.AH:Nat:=157
abbrev N.jK:Nat:=158
abbrev N.uH:Nat:=159
abbrev N.qO:Nat:=160
abbrev N.xQ:Nat:=161
abbrev N.uI:Nat:=162
abbrev N.xR:Nat:=164
abbrev N.xS:Nat:=165
abbrev N.uJ:Nat:=166
abbrev N.AI:Nat:=167
abbrev N.mx:Nat:=168
abbrev N.xT:Nat:=169
abbrev N.kp:Nat:=170
abbrev N.mU:Nat:=171
abbrev N.AJ:Nat:=172
abbrev N.mV:Nat:=173
abbrev N.l8:Nat:=174
abbrev N.nU:Nat:=175
abbrev N.qP:Nat:=178
abbrev N.sB:Nat:=179
abbrev N.vg:Nat:=180
abbrev N.nV:Nat:=184
abbrev N.fq:Nat:=185
abbrev N.fe:Nat:=187
abbrev N.xU:Nat:=188
abbrev N.CV:Nat:=190
abbrev N.xV:Nat:=191
abbrev N.uK:Nat:=192
abbrev N.o6:Nat:=193
abbrev N.kT:Nat:=194
abbrev N.l9:Nat:=195
abbrev N.uL:Nat:=196
abbrev N.nW:Nat:=197
abbrev N.mW:Nat:=198
abbrev N.mX:Nat:=199
abbrev N.lf:Nat:=201
abbrev N.mY:Nat:=202
abbrev N.sC:Nat:=203
abbrev N.uM:Nat:=204
abbrev N.fO:Nat:=206
abbrev N.sD:Nat:=208
abbrev N.mZ:Nat:=209
abbrev N.k9:Nat:=210
abbrev N.xW:Nat:=227
abbrev N.eO:Nat:=228
abbrev N.uN:Nat:=229
abbrev N.pI:Nat:=230
abbrev N.uO:Nat:=231
abbrev N.o7:Nat:=232
abbrev N.CW:Nat:=233
abbrev N.my:Nat:=234
abbrev N.vh:Nat:=235
abbrev N.ma:Nat:=236
abbrev N.pJ:Nat:=237
abbrev N.gE:Nat:=239
abbrev N.FW:Nat:=240
abbrev N.AK:Nat:=241
abbrev N.uP:Nat:=242
abbrev N.AM:Nat:=243
abbrev N.sE:Nat:=244
abbrev N.uQ:Nat:=245
abbrev N.uR:Nat:=246
abbrev N.sF:Nat:=247
abbrev N.pK:Nat:=248
abbrev N.kr:Nat:=249
abbrev N.mb:Nat:=250
abbrev N.pL:Nat:=251
abbrev N.qQ:Nat:=252
abbrev N.gK:Nat:=253
abbrev N.fS:Nat:=258
abbrev N.iU:Nat:=259
abbrev N.qR:Nat:=260
abbrev N.pM:Nat:=261
abbrev N.AN:Nat:=262
abbrev N.qS:Nat:=263
abbrev N.jL:Nat:=265
abbrev N.AO:Nat:=266
abbrev N.AP:Nat:=267
abbrev Ent(g:Nat)(f:Func):Prop:=∀{args:Array Value} {w:World} {R:Ending->World->Prop},args.size<=f.ntmps->mm PG τ w.heap.size (bd f) (fm 0 args.toList) [] 0 [] w (OR τ w.heap.size f.results.toList R)->eG PG g args w R
theorem jv:Ent N.top_TopMechanismOrEquilibrium Tryz.f10:=fun hn h=>dG Tryz.func10 (by rfl) (by rfl) hn (by rfl) h
theorem DZ:Ent N.top_bears Tryz.f11:=fun hn h=>dG Tryz.func11 (by rfl) (by rfl) hn (by rfl) h
theorem BX:Ent N.top_slight Tryz.f12:=fun hn h=>dG Tryz.func12 (by rfl) (by rfl) hn (by rfl) h
theorem uS:Ent N.qE Tryz.f14:=fun hn h=>dG Tryz.func14 (by rfl) (by rfl) hn (by rfl) h
theorem uT:Ent N.qF Tryz.f16:=fun hn h=>dG Tryz.func16 (by rfl) (by rfl) hn (by rfl) h
theorem D2:Ent N.vY Tryz.f17:=fun hn h=>dG Tryz.func17 (by rfl) (by rfl) hn (by rfl) h
theorem vo:Ent N.ry Tryz.f22:=fun hn h=>dG Tryz.func22 (by rfl) (by rfl) hn (by rfl) h
theorem sh:Ent N.pG Tryz.f23:=fun hn h=>dG Tryz.func23 (by rfl) (by rfl) hn (by rfl) h
theorem pQ:Ent N.l0 Tryz.f25:=fun hn h=>dG Tryz.func25 (by rfl) (by rfl) hn (by rfl) h
theorem AQ:Ent N.xF Tryz.f30:=fun hn h=>dG Tryz.func30 (by rfl) (by rfl) hn (by rfl) h
theorem BY:Ent N.se Tryz.f36:=fun hn h=>dG Tryz.func36 (by rfl) (by rfl) hn (by rfl) h
theorem qT:Ent N.qG Tryz.f37:=fun hn h=>dG Tryz.func37 (by rfl) (by rfl) hn (by rfl) h
theorem AR:Ent N.xG Tryz.f49:=fun hn h=>dG Tryz.func49 (by rfl) (by rfl) hn (by rfl) h
theorem AS:Ent N.xH Tryz.f51:=fun hn h=>dG Tryz.func51 (by rfl) (by rfl) hn (by rfl) h
theorem D3:Ent N.top_table Tryz.f55:=fun hn h=>dG Tryz.func55 (by rfl) (by rfl) hn (by rfl) h
theorem rW:Ent N.nR Tryz.f56:=fun hn h=>dG Tryz.func56 (by rfl) (by rfl) hn (by rfl) h
theorem xk:Ent N.uA Tryz.f57:=fun hn h=>dG Tryz.func57 (by rfl) (by rfl) hn (by rfl) h
theorem D4:Ent N.vZ Tryz.f58:=fun hn h=>dG Tryz.func58 (by rfl) (by rfl) hn (by rfl) h
theorem AT:Ent N.qH Tryz.f60:=fun hn h=>dG Tryz.func60 (by rfl) (by rfl) hn (by rfl) h
theorem xl:Ent N.ju Tryz.f61:=fun hn h=>dG Tryz.func61 (by rfl) (by rfl) hn (by rfl) h
theorem AU:Ent N.xI Tryz.f63:=fun hn h=>dG Tryz.func63 (by rfl) (by rfl) hn (by rfl) h
theorem D5:Ent N.CS Tryz.f66:=fun hn h=>dG Tryz.func66 (by rfl) (by rfl) hn (by rfl) h
theorem D6:Ent N.CT Tryz.f67:=fun hn h=>dG Tryz.func67 (by rfl) (by rfl) hn (by rfl) h
theorem AV:Ent N.top_bracket Tryz.f68:=fun hn h=>dG Tryz.func68 (by rfl) (by rfl) hn (by rfl) h
theorem BZ:Ent N.AF Tryz.f69:=fun hn h=>dG Tryz.func69 (by rfl) (by rfl) hn (by rfl) h
theorem vq:Ent N.rz Tryz.f71:=fun hn h=>dG Tryz.func71 (by rfl) (by rfl) hn (by rfl) h
theorem uU:Ent N.qI Tryz.f72:=fun hn h=>dG Tryz.func72 (by rfl) (by rfl) hn (by rfl) h
theorem uV:Ent N.qJ Tryz.f73:=fun hn h=>dG Tryz.func73 (by rfl) (by rfl) hn (by rfl) h
theorem D7:Ent N.ve Tryz.f74:=fun hn h=>dG Tryz.func74 (by rfl) (by rfl) hn (by rfl) h
theorem uW:Ent N.qK Tryz.f75:=fun hn h=>dG Tryz.func75 (by rfl) (by rfl) hn (by rfl) h
theorem pR:Ent N.l5 Tryz.f76:=fun hn h=>dG Tryz.func76 (by rfl) (by rfl) hn (by rfl) h
theorem pS:Ent N.l6 Tryz.f77:=fun hn h=>dG Tryz.func77 (by rfl) (by rfl) hn (by rfl) h
theorem AW:Ent N.xJ Tryz.f78:=fun hn h=>dG Tryz.func78 (by rfl) (by rfl) hn (by rfl) h
theorem pT:Ent N.l7 Tryz.f79:=fun hn h=>dG Tryz.func79 (by rfl) (by rfl) hn (by rfl) h
theorem si:Ent N.pH Tryz.f85:=fun hn h=>dG Tryz.func85 (by rfl) (by rfl) hn (by rfl) h
theorem o8:Ent N.j0 Tryz.f86:=fun hn h=>dG Tryz.func86 (by rfl) (by rfl) hn (by rfl) h
theorem uX:Ent N.qL Tryz.f87:=fun hn h=>dG Tryz.func87 (by rfl) (by rfl) hn (by rfl) h
theorem lH:Ent N.j7 Tryz.f88:=fun hn h=>dG Tryz.func88 (by rfl) (by rfl) hn (by rfl) h
theorem jh:Ent N.gk Tryz.f89:=fun hn h=>dG Tryz.func89 (by rfl) (by rfl) hn (by rfl) h
theorem AX:Ent N.xK Tryz.f90:=fun hn h=>dG Tryz.func90 (by rfl) (by rfl) hn (by rfl) h
theorem xm:Ent N.uB Tryz.f91:=fun hn h=>dG Tryz.func91 (by rfl) (by rfl) hn (by rfl) h
theorem AY:Ent N.xL Tryz.f92:=fun hn h=>dG Tryz.func92 (by rfl) (by rfl) hn (by rfl) h
theorem rX:Ent N.nS Tryz.f93:=fun hn h=>dG Tryz.func93 (by rfl) (by rfl) hn (by rfl) h
theorem xn:Ent N.uC Tryz.f96:=fun hn h=>dG Tryz.func96 (by rfl) (by rfl) hn (by rfl) h
theorem rY:Ent N.nT Tryz.f98:=fun hn h=>dG Tryz.func98 (by rfl) (by rfl) hn (by rfl) h
theorem iM:Ent N.fV Tryz.f99:=fun hn h=>dG Tryz.func99 (by rfl) (by rfl) hn (by rfl) h
theorem o9:Ent N.kl Tryz.f100:=fun hn h=>dG Tryz.func100 (by rfl) (by rfl) hn (by rfl) h
theorem nX:Ent N.fp Tryz.f101:=fun hn h=>dG Tryz.func101 (by rfl) (by rfl) hn (by rfl) h
theorem vv:Ent N.sA Tryz.f104:=fun hn h=>dG Tryz.func104 (by rfl) (by rfl) hn (by rfl) h
theorem xo:Ent N.uD Tryz.f108:=fun hn h=>dG Tryz.func108 (by rfl) (by rfl) hn (by rfl) h
theorem xp:Ent N.uE Tryz.f111:=fun hn h=>dG Tryz.func111 (by rfl) (by rfl) hn (by rfl) h
theorem xq:Ent N.uF Tryz.f112:=fun hn h=>dG Tryz.func112 (by rfl) (by rfl) hn (by rfl) h
theorem D8:Ent N.CU Tryz.f113:=fun hn h=>dG Tryz.func113 (by rfl) (by rfl) hn (by rfl) h
theorem sG:Ent N.sf Tryz.f114:=fun hn h=>dG Tryz.func114 (by rfl) (by rfl) hn (by rfl) h
theorem FX:Ent N.FV Tryz.f115:=fun hn h=>dG Tryz.func115 (by rfl) (by rfl) hn (by rfl) h
theorem B1:Ent N.AG Tryz.f116:=fun hn h=>dG Tryz.func116 (by rfl) (by rfl) hn (by rfl) h
theorem AZ:Ent N.xM Tryz.f117:=fun hn h=>dG Tryz.func117 (by rfl) (by rfl) hn (by rfl) h
theorem oa:Ent N.km Tryz.f118:=fun hn h=>dG Tryz.func118 (by rfl) (by rfl) hn (by rfl) h
theorem xt:Ent N.uG Tryz.f122:=fun hn h=>dG Tryz.func122 (by rfl) (by rfl) hn (by rfl) h
theorem oc:Ent N.ko Tryz.f126:=fun hn h=>dG Tryz.func126 (by rfl) (by rfl) hn (by rfl) h
theorem Aa:Ent N.xN Tryz.f139:=fun hn h=>dG Tryz.func139 (by rfl) (by rfl) hn (by rfl) h
theorem uY:Ent N.qM Tryz.f151:=fun hn h=>dG Tryz.func151 (by rfl) (by rfl) hn (by rfl) h
theorem nY:Ent N.k8 Tryz.f152:=fun hn h=>dG Tryz.func152 (by rfl) (by rfl) hn (by rfl) h
theorem qU:Ent N.mT Tryz.f153:=fun hn h=>dG Tryz.func153 (by rfl) (by rfl) hn (by rfl) h
theorem Ab:Ent N.xO Tryz.f154:=fun hn h=>dG Tryz.func154 (by rfl) (by rfl) hn (by rfl) h
theorem uZ:Ent N.qN Tryz.f155:=fun hn h=>dG Tryz.func155 (by rfl) (by rfl) hn (by rfl) h
theorem Ac:Ent N.xP Tryz.f156:=fun hn h=>dG Tryz.func156 (by rfl) (by rfl) hn (by rfl) h
theorem B2:Ent N.AH Tryz.f157:=fun hn h=>dG Tryz.func157 (by rfl) (by rfl) hn (by rfl) h
theorem ji:Ent N.jK Tryz.f158:=fun hn h=>dG Tryz.func158 (by rfl) (by rfl) hn (by rfl) h
theorem xu:Ent N.uH Tryz.f159:=fun hn h=>dG Tryz.func159 (by rfl) (by rfl) hn (by rfl) h
theorem u5:Ent N.qO Tryz.f160:=fun hn h=>dG Tryz.func160 (by rfl) (by rfl) hn (by rfl) h
theorem Ad:Ent N.xQ Tryz.f161:=fun hn h=>dG Tryz.func161 (by rfl) (by rfl) hn (by rfl) h
theorem xw:Ent N.uI Tryz.f162:=fun hn h=>dG Tryz.func162 (by rfl) (by rfl) hn (by rfl) h
theorem Ae:Ent N.xR Tryz.f164:=fun hn h=>dG Tryz.func164 (by rfl) (by rfl) hn (by rfl) h
theorem Af:Ent N.xS Tryz.f165:=fun hn h=>dG Tryz.func165 (by rfl) (by rfl) hn (by rfl) h
theorem xx:Ent N.uJ Tryz.f166:=fun hn h=>dG Tryz.func166 (by rfl) (by rfl) hn (by rfl) h
theorem B3:Ent N.AI Tryz.f167:=fun hn h=>dG Tryz.func167 (by rfl) (by rfl) hn (by rfl) h
theorem vw:Ent N.mx Tryz.f168:=fun hn h=>dG Tryz.func168 (by rfl) (by rfl) hn (by rfl) h
theorem Ag:Ent N.xT Tryz.f169:=fun hn h=>dG Tryz.func169 (by rfl) (by rfl) hn (by rfl) h
theorem od:Ent N.kp Tryz.f170:=fun hn h=>dG Tryz.func170 (by rfl) (by rfl) hn (by rfl) h
theorem qV:Ent N.mU Tryz.f171:=fun hn h=>dG Tryz.func171 (by rfl) (by rfl) hn (by rfl) h
theorem FY:Ent N.AJ Tryz.f172:=fun hn h=>dG Tryz.func172 (by rfl) (by rfl) hn (by rfl) h
theorem qW:Ent N.mV Tryz.f173:=fun hn h=>dG Tryz.func173 (by rfl) (by rfl) hn (by rfl) h
theorem pU:Ent N.l8 Tryz.f174:=fun hn h=>dG Tryz.func174 (by rfl) (by rfl) hn (by rfl) h
theorem rZ:Ent N.nU Tryz.f175:=fun hn h=>dG Tryz.func175 (by rfl) (by rfl) hn (by rfl) h
theorem u6:Ent N.qP Tryz.f178:=fun hn h=>dG Tryz.func178 (by rfl) (by rfl) hn (by rfl) h
theorem wA:Ent N.sB Tryz.f179:=fun hn h=>dG Tryz.func179 (by rfl) (by rfl) hn (by rfl) h
theorem D9:Ent N.vg Tryz.f180:=fun hn h=>dG Tryz.func180 (by rfl) (by rfl) hn (by rfl) h
theorem r8:Ent N.nV Tryz.f184:=fun hn h=>dG Tryz.func184 (by rfl) (by rfl) hn (by rfl) h
theorem il:Ent N.fq Tryz.f185:=fun hn h=>dG Tryz.func185 (by rfl) (by rfl) hn (by rfl) h
theorem ie:Ent N.fe Tryz.f187:=fun hn h=>dG Tryz.func187 (by rfl) (by rfl) hn (by rfl) h
theorem Ah:Ent N.xU Tryz.f188:=fun hn h=>dG Tryz.func188 (by rfl) (by rfl) hn (by rfl) h
theorem Da:Ent N.CV Tryz.f190:=fun hn h=>dG Tryz.func190 (by rfl) (by rfl) hn (by rfl) h
theorem Ai:Ent N.xV Tryz.f191:=fun hn h=>dG Tryz.func191 (by rfl) (by rfl) hn (by rfl) h
theorem xy:Ent N.uK Tryz.f192:=fun hn h=>dG Tryz.func192 (by rfl) (by rfl) hn (by rfl) h
theorem xz:Ent N.o6 Tryz.f193:=fun hn h=>dG Tryz.func193 (by rfl) (by rfl) hn (by rfl) h
theorem wB:Ent N.kT Tryz.f194:=fun hn h=>dG Tryz.func194 (by rfl) (by rfl) hn (by rfl) h
theorem pV:Ent N.l9 Tryz.f195:=fun hn h=>dG Tryz.func195 (by rfl) (by rfl) hn (by rfl) h
theorem yA:Ent N.uL Tryz.f196:=fun hn h=>dG Tryz.func196 (by rfl) (by rfl) hn (by rfl) h
theorem r9:Ent N.nW Tryz.f197:=fun hn h=>dG Tryz.func197 (by rfl) (by rfl) hn (by rfl) h
theorem qX:Ent N.mW Tryz.f198:=fun hn h=>dG Tryz.func198 (by rfl) (by rfl) hn (by rfl) h
theorem qY:Ent N.mX Tryz.f199:=fun hn h=>dG Tryz.func199 (by rfl) (by rfl) hn (by rfl) h
theorem pW:Ent N.lf Tryz.f201:=fun hn h=>dG Tryz.func201 (by rfl) (by rfl) hn (by rfl) h
theorem qZ:Ent N.mY Tryz.f202:=fun hn h=>dG Tryz.func202 (by rfl) (by rfl) hn (by rfl) h
theorem wC:Ent N.sC Tryz.f203:=fun hn h=>dG Tryz.func203 (by rfl) (by rfl) hn (by rfl) h
theorem yB:Ent N.uM Tryz.f204:=fun hn h=>dG Tryz.func204 (by rfl) (by rfl) hn (by rfl) h
theorem iC:Ent N.fO Tryz.f206:=fun hn h=>dG Tryz.func206 (by rfl) (by rfl) hn (by rfl) h
theorem wD:Ent N.sD Tryz.f208:=fun hn h=>dG Tryz.func208 (by rfl) (by rfl) hn (by rfl) h
theorem q8:Ent N.mZ Tryz.f209:=fun hn h=>dG Tryz.func209 (by rfl) (by rfl) hn (by rfl) h
theorem nZ:Ent N.k9 Tryz.f210:=fun hn h=>dG Tryz.func210 (by rfl) (by rfl) hn (by rfl) h
theorem Aj:Ent N.xW Tryz.f227:=fun hn h=>dG Tryz.func227 (by rfl) (by rfl) hn (by rfl) h
theorem gl:Ent N.eO Tryz.f228:=fun hn h=>dG Tryz.func228 (by rfl) (by rfl) hn (by rfl) h
theorem yC:Ent N.uN Tryz.f229:=fun hn h=>dG Tryz.func229 (by rfl) (by rfl) hn (by rfl) h
theorem sj:Ent N.pI Tryz.f230:=fun hn h=>dG Tryz.func230 (by rfl) (by rfl) hn (by rfl) h
theorem yD:Ent N.uO Tryz.f231:=fun hn h=>dG Tryz.func231 (by rfl) (by rfl) hn (by rfl) h
theorem yE:Ent N.o7 Tryz.f232:=fun hn h=>dG Tryz.func232 (by rfl) (by rfl) hn (by rfl) h
theorem Db:Ent N.CW Tryz.f233:=fun hn h=>dG Tryz.func233 (by rfl) (by rfl) hn (by rfl) h
theorem wE:Ent N.my Tryz.f234:=fun hn h=>dG Tryz.func234 (by rfl) (by rfl) hn (by rfl) h
theorem Dc:Ent N.vh Tryz.f235:=fun hn h=>dG Tryz.func235 (by rfl) (by rfl) hn (by rfl) h
theorem q9:Ent N.ma Tryz.f236:=fun hn h=>dG Tryz.func236 (by rfl) (by rfl) hn (by rfl) h
theorem sk:Ent N.pJ Tryz.f237:=fun hn h=>dG Tryz.func237 (by rfl) (by rfl) hn (by rfl) h
theorem jA:Ent N.gE Tryz.f239:=fun hn h=>dG Tryz.func239 (by rfl) (by rfl) hn (by rfl) h
theorem FZ:Ent N.FW Tryz.f240:=fun hn h=>dG Tryz.func240 (by rfl) (by rfl) hn (by rfl) h
theorem B4:Ent N.AK Tryz.f241:=fun hn h=>dG Tryz.func241 (by rfl) (by rfl) hn (by rfl) h
theorem yF:Ent N.uP Tryz.f242:=fun hn h=>dG Tryz.func242 (by rfl) (by rfl) hn (by rfl) h
theorem B5:Ent N.AM Tryz.f243:=fun hn h=>dG Tryz.func243 (by rfl) (by rfl) hn (by rfl) h
theorem wF:Ent N.sE Tryz.f244:=fun hn h=>dG Tryz.func244 (by rfl) (by rfl) hn (by rfl) h
theorem yG:Ent N.uQ Tryz.f245:=fun hn h=>dG Tryz.func245 (by rfl) (by rfl) hn (by rfl) h
theorem yH:Ent N.uR Tryz.f246:=fun hn h=>dG Tryz.func246 (by rfl) (by rfl) hn (by rfl) h
theorem wG:Ent N.sF Tryz.f247:=fun hn h=>dG Tryz.func247 (by rfl) (by rfl) hn (by rfl) h
theorem sn:Ent N.pK Tryz.f248:=fun hn h=>dG Tryz.func248 (by rfl) (by rfl) hn (by rfl) h
theorem oe:Ent N.kr Tryz.f249:=fun hn h=>dG Tryz.func249 (by rfl) (by rfl) hn (by rfl) h
theorem qc:Ent N.mb Tryz.f250:=fun hn h=>dG Tryz.func250 (by rfl) (by rfl) hn (by rfl) h
theorem so:Ent N.pL Tryz.f251:=fun hn h=>dG Tryz.func251 (by rfl) (by rfl) hn (by rfl) h
theorem u7:Ent N.qQ Tryz.f252:=fun hn h=>dG Tryz.func252 (by rfl) (by rfl) hn (by rfl) h
theorem jM:Ent N.gK Tryz.f253:=fun hn h=>dG Tryz.func253 (by rfl) (by rfl) hn (by rfl) h
theorem iG:Ent N.fS Tryz.f258:=fun hn h=>dG Tryz.func258 (by rfl) (by rfl) hn (by rfl) h
theorem jw:Ent N.iU Tryz.f259:=fun hn h=>dG Tryz.func259 (by rfl) (by rfl) hn (by rfl) h
theorem u9:Ent N.qR Tryz.f260:=fun hn h=>dG Tryz.func260 (by rfl) (by rfl) hn (by rfl) h
theorem sq:Ent N.pM Tryz.f261:=fun hn h=>dG Tryz.func261 (by rfl) (by rfl) hn (by rfl) h
theorem B6:Ent N.AN Tryz.f262:=fun hn h=>dG Tryz.func262 (by rfl) (by rfl) hn (by rfl) h
theorem ua:Ent N.qS Tryz.f263:=fun hn h=>dG Tryz.func263 (by rfl) (by rfl) hn (by rfl) h
theorem kc:Ent N.jL Tryz.f265:=fun hn h=>dG Tryz.func265 (by rfl) (by rfl) hn (by rfl) h
theorem B7:Ent N.AO Tryz.f266:=fun hn h=>dG Tryz.func266 (by rfl) (by rfl) hn (by rfl) h
theorem B8:Ent N.AP Tryz.f267:=fun hn h=>dG Tryz.func267 (by rfl) (by rfl) hn (by rfl) h
theorem jY{H:Hp}{nx:Nat}{iv:Iv}{w1 w':World}(hS:Old S w)(hw:dq w.heap.size w w1)(r:Rel H nx iv w.heap.size w1 O w'){ad:Addr}{j:Nat}{x:Value}(hs:S ad.block)(h:w.cell? (ad.add j)=some x):w'.cell? (ad.add j)=some x:=by
 rw[(hw.tr r.cU).cell (by rw[dC];exact hS _ hs)];exact h
theorem Fa(a:Option Addr)(c:Nat):(if (c:Int)=0 then a else a.map fun x=>x.add (Int.toNat 0*1))=a:=by
 split
 ·rfl
 ·cases a<;>rfl
theorem yI(h:ls[k]? =some 0):eA (ls.take (k+1))=eA (ls.take k):=by
 rw[List.take_add_one,h];exact kh _
theorem B9{x:Nat}(h:ls[k]? =some x)(hx:x≠0):eA (ls.take (k+1))=ls.take (k+1):=by
 rw[List.take_add_one,h];exact oM _ hx
theorem fZ(hS:Old S w)(h:dV w S v ls):eG PG N.mW #[v] w (eL w fun v' w2=>dV w2 S v' (eA ls)):=by
 obtain⟨a,c,rfl,TV,hc⟩:=h.sl;have hle:=h.le;have Pv:=h.lm;refine qX (by simp) ?_
 refine⟨Nat×World,fun x=>⟨[(0,sV a x.1 c)],[],0,[],x.2⟩,fun x=>x.1,
  fun x=>x.1<=ls.length∧dq w.heap.size w x.2∧eA ls=eA (ls.take x.1),?_,?_⟩
 ·intro O w' r;exact⟨(ls.length,w'),⟨Nat.le_refl _,r.cU,by simp⟩,Sub.reset r ⟨rfl,trivial⟩ ⟨trivial,trivial⟩⟩
 ·rintro⟨k,w1⟩ ⟨hk,hw,hF⟩;dsimp only at hk hw hF ⊢;have XM:dq w.heap.size w w1->eA ls=ls.take k->∀O w2,Rel [] 0 [] w.heap.size w1 O w2->dV w2 S (.slice a k c) (eA ls):=fun hw he O w2 r=>by
   rw[he];refine⟨Pv.take k,by simp;omega,a,c,by simp;omega,by simp;omega,fun j x hx=>?_⟩;have S2:j<k:=by
    have:=(aE.1 hx).1;simp at this;omega
   rw[bV S2]at hx;obtain⟨ad,h1,h2,h3⟩:=hc j x hx;exact⟨ad,h1,h2,jY hS hw r h2 h3⟩
  refine dN.mk ?_ ?_<;>intro h
  ·have h:0<k:=by simpa using h
   obtain⟨k,rfl⟩:∃q,k=q+1:=⟨k-1,by omega⟩
   obtain⟨x,hx⟩:∃x,ls[k]? =some x:=⟨_,aA (by omega)⟩
   obtain⟨ad,ha,hs,Sl⟩:=hc k x hx;refine⟨(k:Int),wo,ad,ha,by omega,.int .u32 x,fun O w' r=>by rw[aF,aZ];exact jY hS hw r hs Sl,?_⟩;refine dN.mk ?_ ?_<;>intro h2
   ·have h2:x=0:=by have:=eq_of_beq h2;omega
    subst h2;refine⟨(k:Int),wo,⟨by omega,by omega,by omega⟩,a,k,c,Fa a c,by simp,by simp,?_⟩;intro O w2 r;exact⟨(k,w2),⟨by dsimp only;omega,hw.tr r.cU,hF.trans (yI hx)⟩,Sub.reset r ⟨rfl,trivial⟩ ⟨trivial,trivial⟩,by dsimp only;omega⟩
   ·have h2:x≠0:=by intro e;subst e;simp at h2
    intro O w2 r;exact⟨_,rfl,hw.tr r.cU,XM hw (by rw[hF,B9 hx h2]) O w2 r⟩
  ·have h:k=0:=by
    have:¬0<k:=by simpa using h
    omega
   subst h;intro O w2 r;exact⟨_,rfl,hw.tr r.cU,XM hw (by rw[hF];simp[eA]) O w2 r⟩
theorem eh(h:n<18446744073709551616):IntKind.u64.wrap (n:Int)=(n:Int):=yO (by omega) (by omega)
theorem fT(n:Nat):IntKind.u32.wrap (n:Int)=((n % 4294967296:Nat):Int):=by
 show((n:Int) % 4294967296)=_;omega
theorem ofInt32(x:Nat):BitVec.ofInt 32 (x:Int)=BitVec.ofNat 32 x:=by
 apply BitVec.eq_of_toNat_eq;simp
theorem qm{y:Nat}(x:Nat)(hy:y<4294967296):x &&& y<4294967296:=Nat.lt_of_le_of_lt Nat.and_le_right hy
theorem qn{x y:Nat}(hx:x<4294967296)(hy:y<4294967296):x ^^^ y<4294967296:=Nat.xor_lt_two_pow (n:=32) hx hy
theorem Dz{x y:Nat}(hx:x<4294967296)(hy:y<4294967296):x ||| y<4294967296:=Nat.or_lt_two_pow (n:=32) hx hy
theorem OE{x y:Nat}(hx:x<4294967296)(hy:y<4294967296):IntKind.u32.wrap ((BitVec.ofInt IntKind.u32.bits x &&& BitVec.ofInt IntKind.u32.bits y).toNat:Int)=((x &&& y:Nat):Int):=by
 show IntKind.u32.wrap ((BitVec.ofInt 32 x &&& BitVec.ofInt 32 y).toNat:Int)=_;rw[ofInt32,ofInt32,BitVec.toNat_and,BitVec.toNat_ofNat,BitVec.toNat_ofNat,bO hx,bO hy,fT,bO (qm x hy)]
theorem aAb{x y:Nat}(hx:x<4294967296)(hy:y<4294967296):IntKind.u32.wrap ((BitVec.ofInt IntKind.u32.bits x ||| BitVec.ofInt IntKind.u32.bits y).toNat:Int)=((x ||| y:Nat):Int):=by
 show IntKind.u32.wrap ((BitVec.ofInt 32 x ||| BitVec.ofInt 32 y).toNat:Int)=_;rw[ofInt32,ofInt32,BitVec.toNat_or,BitVec.toNat_ofNat,BitVec.toNat_ofNat,bO hx,bO hy,fT,bO (Dz hx hy)]
theorem OF{x y:Nat}(hx:x<4294967296)(hy:y<4294967296):IntKind.u32.wrap ((BitVec.ofInt IntKind.u32.bits x ^^^ BitVec.ofInt IntKind.u32.bits y).toNat:Int)=((x ^^^ y:Nat):Int):=by
 show IntKind.u32.wrap ((BitVec.ofInt 32 x ^^^ BitVec.ofInt 32 y).toNat:Int)=_;rw[ofInt32,ofInt32,BitVec.toNat_xor,BitVec.toNat_ofNat,BitVec.toNat_ofNat,bO hx,bO hy,fT,bO (qn hx hy)]
theorem OG{x:Nat}(hx:x<4294967296):IntKind.u32.wrap ((BitVec.ofInt IntKind.u32.bits (if IntKind.u32.signed=true then -1 else IntKind.u32.max) ^^^ BitVec.ofInt IntKind.u32.bits x).toNat:Int)=((4294967295 ^^^ x:Nat):Int):=
 OF (x:=4294967295) (by decide) hx
theorem lz{x:Nat}(k:Nat)(hk:k<=63):(x:Int).fdiv (2^min (Int.toNat (k:Int)) IntKind.u64.bits)=((x / 2^k:Nat):Int):=by
 have h1:min (Int.toNat (k:Int)) IntKind.u64.bits=k:=by show min (Int.toNat (k:Int)) 64=k;omega
 rw[h1,Int.fdiv_eq_ediv_of_nonneg _ (by exact Int.le_of_lt (Int.pow_pos (by decide)))];simp
theorem oh{x:Nat}(k:Nat)(hk:k<=31):(x:Int).fdiv (2^min (Int.toNat (k:Int)) IntKind.u32.bits)=((x / 2^k:Nat):Int):=by
 have h1:min (Int.toNat (k:Int)) IntKind.u32.bits=k:=by show min (Int.toNat (k:Int)) 32=k;omega
 rw[h1,Int.fdiv_eq_ediv_of_nonneg _ (by exact Int.le_of_lt (Int.pow_pos (by decide)))];simp
theorem NQ{z:Nat}(h:z<4294967296):z.testBit 31=decide (2147483648<=z):=by
 rw[Nat.testBit_eq_decide_div_mod_eq];apply decide_eq_decide.2;show z / 2147483648 % 2=1↔_;omega
theorem borrow{x y c d:Nat}(hx:x<4294967296)(hy:y<4294967296)(hc:c<=1)(hd:(x+4294967296-(y+c)) % 4294967296=d):
  (((4294967295 ^^^ x) &&& y) ||| ((4294967295 ^^^ (x ^^^ y)) &&& d)) / 2^31=if x<y+c then 1 else 0:=by
 have Pg:d<4294967296:=by omega
 have hz:=Dz (qm (4294967295 ^^^ x) hy) (qm (4294967295 ^^^ (x ^^^ y)) Pg);have ht:=NQ hz;have hm:Nat.testBit 4294967295 31=true:=by decide
 rw[Nat.testBit_or,Nat.testBit_and,Nat.testBit_and,Nat.testBit_xor,Nat.testBit_xor,Nat.testBit_xor,hm,NQ hx,NQ hy,NQ Pg]at ht;generalize (((4294967295 ^^^ x) &&& y) ||| ((4294967295 ^^^ (x ^^^ y)) &&& d))=z at hz ht;show z / 2147483648=_;by_cases h1:2147483648<=x<;>by_cases h2:2147483648<=y<;>by_cases h3:2147483648<=d<;>simp[h1,h2,h3]at ht<;>split<;>omega
theorem I2(x y c:Nat)(w:World)(hx:x<4294967296)(hy:y<4294967296)(hc:c<4294967296):
  eG PG N.AO #[.int .u32 x,.int .u32 y,.int .u32 c] w (eL w fun v _=>v= .tuple #[.int .u32 ((x+y+c) % 4294967296:Nat),.int .u32 ((x+y+c) / 4294967296:Nat)]):=by
 refine B7 (by simp) ?_;refine⟨(x:Int),eh (by omega),(y:Int),eh (by omega),((x+y:Nat):Int),by rw[yO]<;>omega,(c:Int),eh (by omega),((x+y+c:Nat):Int),by rw[yO]<;>omega,(((x+y+c) % 4294967296:Nat):Int),fT _,by decide,(((x+y+c) / 4294967296:Nat):Int),?_,?_⟩
 ·exact lz 32 (by decide)
 refine⟨(((x+y+c) / 4294967296:Nat):Int),by rw[fT];omega,?_⟩;intro O w3 r;exact⟨_,rfl,r.cU,rfl⟩
theorem I4(x y c:Nat)(w:World)(hx:x<4294967296)(hy:y<4294967296)(hc:c<=1):
  eG PG N.AP #[.int .u32 x,.int .u32 y,.int .u32 c] w (eL w fun v _=>v= .tuple #[.int .u32 ((x+4294967296-(y+c)) % 4294967296:Nat),.int .u32 ((if x<y+c then 1 else 0:Nat):Int)]):=by
 refine B8 (by simp) ?_;refine⟨((x+4294967296-y) % 4294967296:Nat),?_,?_⟩
 ·show((x:Int)-y) % 4294967296=_;omega
 refine⟨((x+4294967296-(y+c)) % 4294967296:Nat),?_,?_⟩
 ·show((((x+4294967296-y) % 4294967296:Nat):Int)-c) % 4294967296=_;omega
 have h6:(x+4294967296-(y+c)) % 4294967296<4294967296:=cC _ (by decide);generalize hd:(x+4294967296-(y+c)) % 4294967296=d at h6;refine⟨((4294967295 ^^^ x:Nat):Int),OG hx,(((4294967295 ^^^ x) &&& y:Nat):Int),OE (qn (by decide) hx) hy,((x ^^^ y:Nat):Int),OF hx hy,((4294967295 ^^^ (x ^^^ y):Nat):Int),OG (qn hx hy),(((4294967295 ^^^ (x ^^^ y)) &&& d:Nat):Int),OE (qn (by decide) (qn hx hy)) h6,((((4294967295 ^^^ x) &&& y) ||| ((4294967295 ^^^ (x ^^^ y)) &&& d):Nat):Int),aAb (qm _ hy) (qm _ h6),by decide,((if x<y+c then 1 else 0:Nat):Int),?_,?_⟩
 ·rw[<-borrow hx hy hc hd];exact oh 31 (by decide)
 intro O w3 r;exact⟨_,rfl,r.cU,rfl⟩
def ss(n m:Nat):Int:=if n<m then -1 else if m<n then 1 else 0
theorem OI{a b:List Nat}{i x y:Nat}(ha:Lm a)(hl:a.length=b.length)(hx:a[i]? =some x)(hy:b[i]? =some y)(h:a.drop (i+1)=b.drop (i+1))(PF:x<y):val a<val b:=by
 have hi:=(aE.1 hx).1;have h1:=fC a i (by omega);have h2:=fC b i (by omega);rw[j2 hx]at h1;rw[j2 hy,<-h]at h2;have h3:=oL (ha.take i);rw[ai,Nat.min_eq_left (by omega)]at h3;generalize val (a.drop (i+1))=q at h1 h2;have h4:wt i*(x+4294967296*q+1)<=wt i*(y+4294967296*q):=bW _ (by omega);rw[bX,aZ]at h4;omega
theorem LU{u:Value}{m:Nat}(hS:Old S w)(hn:eC w S v n)(hm:eC w S u m):eG PG N.sF #[v,u] w (eL w fun v' _=>v'= .int .i64 (ss n m)):=by
 obtain⟨ls,h1,nz1,rfl⟩:=hn;obtain⟨ms,h2,nz2,rfl⟩:=hm;obtain⟨a,c,rfl,_,ha⟩:=h1.sl;obtain⟨b,e,rfl,_,hb⟩:=h2.sl;have hle1:=h1.le;have Ve:=h2.le;have lm1:=h1.lm;have lm2:=h2.lm;refine wG (by simp) ?_;refine dN.mk ?_ ?_<;>intro h
 ·have h:ls.length≠ms.length:=by intro e;rw[e]at h;simp at h
  refine dN.mk ?_ ?_<;>intro h3
  ·have h3:ls.length<ms.length:=by simpa using h3
   intro O w2 r;exact⟨_,rfl,r.cU,by rw[ss,if_pos (jR lm1 nz2 h3)];rfl⟩
  ·have h3:ms.length<ls.length:=by
    have:¬ls.length<ms.length:=by simpa using h3
    omega
   have h4:=jR lm2 nz1 h3;intro O w2 r;exact⟨_,rfl,r.cU,by rw[ss,aJ (by omega),if_pos h4];rfl⟩
 ·have h:ls.length=ms.length:=by
   have:(ls.length:Int)=ms.length:=by simpa using h
   omega
  refine⟨(ls.length:Int)-1,wo,Nat×World,fun x=>⟨[(0,sV a ls.length c),(1,sV b ms.length e),(5,.o (.v (.int .i64 ((x.1:Int)-1))))],[],0,[],x.2⟩,fun x=>x.1,
   fun x=>x.1<=ls.length∧dq w.heap.size w x.2∧ls.drop x.1=ms.drop x.1,?_,?_⟩
  ·intro O w' r;exact⟨(ls.length,w'),⟨Nat.le_refl _,r.cU,by rw[List.drop_length,h,List.drop_length]⟩,Sub.reset r ⟨rfl,rfl,rfl,trivial⟩ ⟨trivial,trivial,trivial,trivial⟩⟩
  ·rintro⟨k,w1⟩ ⟨hk,hw,hd⟩;dsimp only at hk hw hd ⊢;refine dN.mk ?_ ?_<;>intro h3
   ·have h3:(k:Int)-1≥0:=aI h3;obtain⟨k,rfl⟩:∃q,k=q+1:=⟨k-1,by omega⟩
    rw[show ((k+1:Nat):Int)-1=(k:Int) by omega];obtain⟨x,hx⟩:∃x,ls[k]? =some x:=⟨_,aA (by omega)⟩
    obtain⟨y,hy⟩:∃x,ms[k]? =some x:=⟨_,aA (by omega)⟩
    obtain⟨ad,Ox,hs,hc1⟩:=ha k x hx;obtain⟨ad2,PY,Qa,VG⟩:=hb k y hy;have PO:∀O w',Rel [] 0 [] w.heap.size w1 O w'->w'.cell? (ad.add ((k:Int).toNat*1))=some (.int .u32 x):=fun O w' r=>by
     rw[aF,aZ];exact jY hS hw r hs hc1
    have Qj:∀O w',Rel [] 0 [] w.heap.size w1 O w'->w'.cell? (ad2.add ((k:Int).toNat*1))=some (.int .u32 y):=fun O w' r=>by
     rw[aF,aZ];exact jY hS hw r Qa VG
    refine cQ hτ dx [.x 0,.x 1,.x 2,.x 3,.x 4,.x 5,.x 6,.x 7,.x 8,.x 9] (by kernel_rfl) (by kernel_rfl) ?_;refine⟨ad,Ox,by omega,_,PO,ad2,PY,by omega,_,Qj,?_⟩;refine dN.mk ?_ ?_<;>intro h4
    ·have h4:x<y:=by simpa using h4
     intro O w2 r;exact⟨_,rfl,hw.tr r.cU,by rw[ss,if_pos (OI lm1 h hx hy hd h4)];rfl⟩
    ·have h4:¬x<y:=by simpa using h4
     refine cQ hτ dx [.x 0,.x 1,.x 2,.x 3,.x 4,.x 5,.x 6,.x 7,.x 8,.x 9] (by kernel_rfl) (by kernel_rfl) ?_;refine⟨ad,Ox,by omega,_,PO,ad2,PY,by omega,_,Qj,?_⟩;refine dN.mk ?_ ?_<;>intro h5
     ·have h5:y<x:=by simpa using h5
      have h6:=OI lm2 h.symm hy hx hd.symm h5;intro O w2 r;exact⟨_,rfl,hw.tr r.cU,by rw[ss,aJ (by omega),if_pos h6];rfl⟩
     ·have h5:¬y<x:=by simpa using h5
      have hxy:x=y:=by omega
      subst hxy;refine⟨(k:Int)-1,wo,?_⟩;intro O w2 r;have Pg:ls.drop k=ms.drop k:=by
       obtain⟨q1,e1⟩:=aE.1 hx;obtain⟨q2,e2⟩:=aE.1 hy;rw[List.drop_eq_getElem_cons q1,List.drop_eq_getElem_cons q2,e1,e2,hd]
      exact⟨(k,w2),⟨by dsimp only;omega,hw.tr r.cU,Pg⟩,Sub.reset r ⟨rfl,rfl,rfl,trivial⟩ ⟨trivial,trivial,trivial,trivial⟩,by simp⟩
   ·have Tx:k=0:=by
     have:¬(k:Int)-1≥0:=aH h3;omega
    subst Tx;have he:ls=ms:=by simpa using hd
    intro O w2 r;exact⟨_,rfl,hw.tr r.cU,by rw[he,ss,aJ (by omega),aJ (by omega)];rfl⟩
end Go.Ex
namespace Go.Sx
open Go Go.Ex Go.Proofs
variable{O:Nat->Sx.dw}
theorem Rel.qd{nx:Nat}{iv:Iv}{B:Nat}{w w':World}(r:Rel [] nx iv B w O w'):w.grownBy w' none:=
 ⟨r.os,r.tape,r.output,r.size,fun k hk _=>r.vF k hk (fun id b h=>by cases h)⟩
end Go.Sx
namespace Go.Ex
open Go Go.Sx Go.Proofs
variable{l ls:List Nat}{S:Nat->Prop}{v:Value}{w:World}
structure LA(S:Nat->Prop)(w:World) where
 a:Option Addr
 c:Nat
 ls:List Nat
 lm:Lm ls
 le:ls.length<=9223372036854775807
 cap:ls.length<=c
 cell:∀(j:Nat) x,ls[j]? =some x->∃ad,a=some ad∧S ad.block∧w.cell? (ad.add j)=some (.int .u32 x)
theorem dV.la(h:dV w S v ls):∃p:LA S w,v= .slice p.a p.ls.length p.c∧p.ls=ls:=by
 obtain⟨a,c,h1,h2,h3⟩:=h.sl;exact⟨⟨a,c,ls,h.lm,h.le,h2,h3⟩,h1,rfl⟩
theorem eC.la{n:Nat}(h:eC w S v n):∃p:LA S w,v= .slice p.a p.ls.length p.c∧val p.ls=n∧Nz p.ls:=by
 obtain⟨ls,h1,h2,h3⟩:=h;obtain⟨p,h4,h5⟩:=h1.la;exact⟨p,h4,by rw[h5];exact h3,by rw[h5];exact h2⟩
theorem LA.load{w1:World}(p:LA S w)(hS:Old S w)(hw:dq w.heap.size w w1){k x:Nat}(hx:p.ls[k]? =some x):
  ∃ad,p.a=some ad∧∀(H:Hp) (nx:Nat) (iv:Iv) (O:Nat->Sx.dw) w',Rel H nx iv w.heap.size w1 O w'->w'.cell? (ad.add ((k:Int).toNat*1))=some (.int .u32 x):=by
 obtain⟨ad,h1,h2,h3⟩:=p.cell k x hx;refine⟨ad,h1,fun H nx iv O w' r=>?_⟩;rw[aF,aZ];exact jY hS hw r h2 h3
def U(l:List Nat):List Value:=l.map fun(x:Nat)=>.int .u32 (x:Int)
theorem gV(l:List Nat):(U l).length=l.length:=by simp[U]
theorem ub{k x:Nat}(h:l[k]? =some x):(U l)[k]? =some (.int .u32 x):=by simp[U,h]
theorem aAh(l:List Nat)(k x:Nat)(h:k<l.length):(U l).take k++[.int .u32 x]++(U l).drop (k+1)=U (l.set k x):=by
 have h1:k<(U l).length:=by rw[gV];exact h
 have:(U l).set k (.int .u32 x)=U (l.set k x):=by simp[U,List.map_set]
 rw[<-this,List.set_eq_take_append_cons_drop,if_pos h1];simp
theorem jT(l:List Nat)(k x:Nat)(h:k<l.length){e:Nat}(he:e=k):(U l).take e++[.int .u32 (x:Int)]++(U l).drop (e+1)=U (l.set k x):=by
 subst he;exact aAh l e x h
theorem sw(n:Nat):List.replicate n (Value.int .u32 0)=U (List.replicate n 0):=by simp[U]
end Go.Ex
namespace Go.Sx
open Go Go.Ex Go.Proofs
variable{ls:List Nat}{O:Nat->Sx.dw}
theorem Rel.nc{H:Hp}{nx:Nat}{iv:Iv}{B:Nat}{w w':World}(r:Rel H nx iv B w O w'){id t:Nat}(h:dD H id=some (.arr t (U ls)))(Pv:Lm ls)(hle:ls.length<=9223372036854775807):
  dV w' (fun g=>g=(O id).g) (.slice (some ⟨(O id).g,0,none⟩) ls.length ls.length) ls:=by
 refine⟨Pv,hle,_,_,rfl,Nat.le_refl _,fun j x hx=>⟨_,rfl,rfl,?_⟩⟩;have h0:(⟨(O id).g,0,none⟩:Addr).add j=⟨(O id).g,j,none⟩:=by
  cases j with
  |zero=>rfl
  |succ j=>simp[Addr.add]
 rw[h0,cell_of (r.arr id t _ h)];exact ub hx
end Go.Sx
namespace Go.Ex
open Go Go.Sx Go.Proofs
variable{S:Nat->Prop}
theorem Cp{out ls ms:List Nat}{i x o d:Nat}(hx:ls[i]? =some x)(ho:ms.getD i 0=o)(hd:out[i]? =some d){carry:Nat}(h:val (out.take i)+wt i*carry=val (ls.take i)+val (ms.take i)):
  val ((out.set i ((x+o+carry) % 4294967296)).take (i+1))+wt (i+1)*((x+o+carry) / 4294967296)=val (ls.take (i+1))+val (ms.take (i+1)):=by
 have hi:=(aE.1 hd).1;have h1:(out.set i ((x+o+carry) % 4294967296))[i]? =some ((x+o+carry) % 4294967296):=by rw[aQ hi]
 rw[dh h1,List.take_set_of_le (Nat.le_refl _),dh hx,jQ];have h2:val (ms.take (i+1))=val (ms.take i)+wt i*o:=by
  cases hm:ms[i]? with
  |some y=>
   have:y=o:=by rw[<-ho];simp[List.getD,hm]
   rw[dh hm,this]
  |none=>
   have:o=0:=by rw[<-ho];simp[List.getD,hm]
   rw[this,List.take_add_one,hm];simp
 rw[h2];have h3:=Nat.div_add_mod (x+o+carry) 4294967296;generalize (x+o+carry) / 4294967296=q at h3 ⊢;generalize (x+o+carry) % 4294967296=r at h3 ⊢;have h4:wt i*(4294967296*q+r)=wt i*(x+o+carry):=by rw[h3]
 rw[bX,bX,bX,<-bg,bT (wt i) 4294967296]at h4;omega
theorem aAQ{w:World}{v u:Value}{n m:Nat}(hS:Old S w)(hn:eC w S v n)(hm:eC w S u m)(Sd:ln n<=1000000000000)(Pv:ln m<=1000000000000):
  eG PG N.qR #[v,u] w (eL w fun v' w2=>eC w2 (Nf w w2) v' (n+m)):=by
 obtain⟨p,rfl,Qw,Q6⟩:=hn.la;obtain⟨q,rfl,Rl,Qb⟩:=hm.la;have Pb:=eU p.lm Q6;have SJ:=eU q.lm Qb;rw[Qw]at Pb;rw[Rl]at SJ;have hsum:n+m=val p.ls+val q.ls:=by rw[Qw,Rl]
 rw[hsum];refine u9 (by simp) ?_;refine dN.mk ?_ ?_<;>intro h
 case' refine_1=>
  have h:p.ls.length<q.ls.length:=by simpa using h
  have hpx:p.ls.length<=q.ls.length:=by omega
  have hx12:q.ls.length<=1000000000000:=by omega
  rw[Nat.add_comm];generalize Q3:q=x at*
  generalize hgy:p=y at*
 case' refine_2=>
  have h:¬p.ls.length<q.ls.length:=by simpa using h
  have hpx:q.ls.length<=p.ls.length:=by omega
  have hx12:p.ls.length<=1000000000000:=by omega
  generalize Q3:p=x at*
  generalize hgy:q=y at*
 all_goals
  refine⟨((x.ls.length+1:Nat):Int),wo,x.ls.length+1,x.ls.length+1,rfl,rfl,Nat.le_refl _,by omega,by omega,Nat×List Nat×Nat×World,fun z=>⟨[(0,sV x.a x.ls.length x.c),(1,sV y.a y.ls.length y.c),(5,.o (.s 0 0 (x.ls.length+1) (x.ls.length+1))),(6,.o (.v (.int .u32 z.2.2.1))),(21,iZ x.ls.length),(22,iZ z.1)],
    [(0,.arr T.uint32 (U z.2.1))],1,[],z.2.2.2⟩,fun z=>x.ls.length-z.1,
   fun z=>z.1<=x.ls.length∧dq w.heap.size w z.2.2.2∧z.2.1.length=x.ls.length+1∧Lm z.2.1∧z.2.2.1<2∧val (z.2.1.take z.1)+wt z.1*z.2.2.1=val (x.ls.take z.1)+val (y.ls.take z.1),?_,?_⟩
  ·intro O w' r;rw[sw]at r;exact⟨(0,List.replicate (x.ls.length+1) 0,0,w'),⟨by simp,r.cU,by simp,Lm.replicate _,by simp,by simp[val]⟩,Sub.gn [] r⟩
  ·rintro⟨i,out,carry,w1⟩ ⟨hi,hw,Qc,PW,hc,hv⟩;dsimp only at hi hw Qc PW hc hv ⊢;refine dN.mk ?_ ?_<;>intro h
   ·have h:i<x.ls.length:=by simpa using h
    obtain⟨xi,QG⟩:∃k,x.ls[i]? =some k:=⟨_,aA h⟩
    obtain⟨d,hd⟩:∃k,out[i]? =some k:=⟨_,aA (by omega)⟩
    obtain⟨ad,Ox,Oy⟩:=x.load hS hw QG;have QZ:=x.lm.at QG;refine dN.mk ?_ ?_<;>intro h2
    ·have h2:i<y.ls.length:=by simpa using h2
     obtain⟨o,ho⟩:∃k,y.ls[i]? =some k:=⟨_,aA h2⟩
     obtain⟨ad2,PY,RA⟩:=y.load hS hw ho;have Ww:=y.lm.at ho;have Tn:y.ls.getD i 0=o:=by simp[List.getD,ho]
     refine⟨ad2,PY,by omega,.int .u32 o,RA _ _ _,ad,Ox,by omega,.int .u32 xi,Oy _ _ _,?_⟩;refine cH (cM (Φ:=fun _ _ v _=>v= .tuple #[.int .u32 ((xi+o+carry) % 4294967296:Nat),.int .u32 ((xi+o+carry) / 4294967296:Nat)]) (fun O w' r=>I2 xi o carry w' QZ Ww (by omega)) ?_);rintro O w' v w2 r he hb rfl;replace hw:=hw.tr hb;have Of:=Cp QG Tn hd hv;have VG:(xi+o+carry) / 4294967296<2:=by omega
     refine⟨by omega,by rw[gV];omega,U (out.set i ((xi+o+carry) % 4294967296)),jT out i _ (by omega) (by simp),((i+1:Nat):Int),wo,?_⟩;intro ρ3 w3 r3
     exact⟨(i+1,out.set i ((xi+o+carry) % 4294967296),(xi+o+carry) / 4294967296,w3),⟨by dsimp only;omega,hw.tr r3.cU,by simp[Qc],PW.set (cC _ (by decide)),VG,Of⟩,
      Sub.gn [] r3,by dsimp only;omega⟩
    ·have h2:¬i<y.ls.length:=by simpa using h2
     have Tn:y.ls.getD i 0=0:=by simp[List.getD,List.getElem?_eq_none (show y.ls.length<=i by omega)]
     refine⟨ad,Ox,by omega,.int .u32 xi,Oy _ _ _,?_⟩;refine cH (cM (Φ:=fun _ _ v _=>v= .tuple #[.int .u32 ((xi+0+carry) % 4294967296:Nat),.int .u32 ((xi+0+carry) / 4294967296:Nat)]) (fun O w' r=>I2 xi 0 carry w' QZ (by decide) (by omega)) ?_);rintro O w' v w2 r he hb rfl;replace hw:=hw.tr hb;have Of:=Cp QG Tn hd hv;have VG:(xi+0+carry) / 4294967296<2:=by omega
     refine⟨by omega,by rw[gV];omega,U (out.set i ((xi+0+carry) % 4294967296)),jT out i _ (by omega) (by simp),((i+1:Nat):Int),wo,?_⟩;intro ρ3 w3 r3
     exact⟨(i+1,out.set i ((xi+0+carry) % 4294967296),(xi+0+carry) / 4294967296,w3),⟨by dsimp only;omega,hw.tr r3.cU,by simp[Qc],PW.set (cC _ (by decide)),VG,Of⟩,
      Sub.gn [] r3,by dsimp only;omega⟩
   ·have RF:i=x.ls.length:=by
     have:¬i<x.ls.length:=by simpa using h
     omega
    subst RF;obtain⟨d,hd⟩:∃k,out[x.ls.length]? =some k:=⟨_,aA (by omega)⟩
    have SS:val (out.set x.ls.length carry)=val x.ls+val y.ls:=by
     have h1:(out.set x.ls.length carry)[x.ls.length]? =some carry:=by rw[aQ (by omega)]
     have h2:=dh h1;rw[List.take_of_length_le (by simp;omega),List.take_set_of_le (Nat.le_refl _)]at h2;rw[bF,List.take_of_length_le hpx]at hv;omega
    have hlm2:Lm (out.set x.ls.length carry):=PW.set (by omega);refine⟨by omega,by rw[gV];omega,U (out.set x.ls.length carry),jT out x.ls.length carry (by omega) (by simp),?_⟩;generalize WE:out.set x.ls.length carry=fin at SS hlm2;have PA:fin.length=x.ls.length+1:=by rw[<-WE];simp[Qc]
    refine gN (Φ:=fun O _ v w2=>dV w2 (fun g=>g=(O 0).g) v (eA fin)) (H':=[]) 0 rfl (by simp) trivial rfl (fun O w' r=>r.nn 0 _ rfl (by intros;simp) (by simp)) (fun O w' r=>?_) ?_
    ·have hL:=r.nc (id:=0) rfl hlm2 (by omega);rw[PA]at hL;exact fZ (fun g hg=>by rw[hg];exact(r.low 0 _ rfl (r.nn 0 _ rfl (by intros;simp) (by simp))).2) hL
    rintro O w' v w2 r he hb hL;replace hw:=hw.tr hb;have Oa:=r.low 0 _ rfl (r.nn 0 _ rfl (by intros;simp) (by simp));generalize (O 0).g=g at*
    have hs:=he.size;intro ρ3 w3 r3;refine⟨_,rfl,hw.tr r3.cU,eA fin,?_,(fJ fin).2.1,?_⟩
    ·refine(hL.cJ fun k hk=>?_).cL fun k hk=>.inr ?_
     ·rw[hk];exact r3.qd.block g (by omega) (by simp)
     ·rw[hk];have:=r3.size;omega
    ·rw[(fJ fin).1,SS]
end Go.Ex
namespace Go.Ex
open Go Go.Sx Go.Proofs
variable{ls ms out:List Nat}{V a b i k o t:Nat}{S:Nat->Prop}{v:Value}{w:World}
theorem Js(ho:ms.getD i 0=o):val (ms.take (i+1))=val (ms.take i)+wt i*o:=by
 cases hm:ms[i]? with
 |some y=>
  have:y=o:=by rw[<-ho];simp[List.getD,hm]
  rw[dh hm,this]
 |none=>
  have:o=0:=by rw[<-ho];simp[List.getD,hm]
  rw[this,List.take_add_one,hm];simp
theorem BK{x d e:Nat}(hx:ls[i]? =some x)(ho:ms.getD i 0=o)(hd:out[i]? =some d){b':Nat}(h:val (out.take i)+val (ms.take i)=val (ls.take i)+wt i*b)(he:e+(o+b)=x+4294967296*b'):
  val ((out.set i e).take (i+1))+val (ms.take (i+1))=val (ls.take (i+1))+wt (i+1)*b':=by
 have hi:=(aE.1 hd).1;have h1:(out.set i e)[i]? =some e:=by rw[aQ hi]
 rw[dh h1,List.take_set_of_le (Nat.le_refl _),dh hx,Js ho,jQ];have h4:wt i*(e+(o+b))=wt i*(x+4294967296*b'):=by rw[he]
 rw[bX,bX,bX,<-bg,bT (wt i) 4294967296]at h4;omega
theorem Df{u:Value}{n m:Nat}(hS:Old S w)(hn:eC w S v n)(hm:eC w S u m)(hle:m<=n)(Sd:ln n<=1000000000000):
  eG PG N.pM #[v,u] w (eL w fun v' w2=>eC w2 (Nf w w2) v' (n-m)):=by
 obtain⟨x,rfl,Qw,Q6⟩:=hn.la;obtain⟨y,rfl,Rl,Qb⟩:=hm.la;have Pb:=eU x.lm Q6;rw[Qw]at Pb;have hyx:y.ls.length<=x.ls.length:=by
  rw[eU x.lm Q6,eU y.lm Qb,Qw,Rl];exact fX hle
 refine sq (by simp) ?_
 refine⟨x.ls.length,x.ls.length,rfl,rfl,Nat.le_refl _,by omega,by omega,Nat×List Nat×Nat×World,fun z=>⟨[(0,sV x.a x.ls.length x.c),(1,sV y.a y.ls.length y.c),(5,.o (.s 0 0 x.ls.length x.ls.length)),(6,.o (.v (.int .u32 z.2.2.1))),(13,iZ x.ls.length),(14,iZ z.1)],
   [(0,.arr T.uint32 (U z.2.1))],1,[],z.2.2.2⟩,fun z=>x.ls.length-z.1,
  fun z=>z.1<=x.ls.length∧dq w.heap.size w z.2.2.2∧z.2.1.length=x.ls.length∧Lm z.2.1∧z.2.2.1<2∧val (z.2.1.take z.1)+val (y.ls.take z.1)=val (x.ls.take z.1)+wt z.1*z.2.2.1,?_,?_⟩
 ·intro O w' r;rw[sw]at r;exact⟨(0,List.replicate x.ls.length 0,0,w'),⟨by simp,r.cU,by simp,Lm.replicate _,by simp,by simp[val]⟩,Sub.gn [] r⟩
 ·rintro⟨i,out,b,w1⟩ ⟨hi,hw,Qc,PW,hc,hv⟩;dsimp only at hi hw Qc PW hc hv ⊢;refine dN.mk ?_ ?_<;>intro h
  ·have h:i<x.ls.length:=by simpa using h
   obtain⟨xi,QG⟩:∃k,x.ls[i]? =some k:=⟨_,aA h⟩
   obtain⟨d,hd⟩:∃k,out[i]? =some k:=⟨_,aA (by omega)⟩
   obtain⟨ad,Ox,Oy⟩:=x.load hS hw QG;have QZ:=x.lm.at QG;refine dN.mk ?_ ?_<;>intro h2
   ·have h2:i<y.ls.length:=by simpa using h2
    obtain⟨o,ho⟩:∃k,y.ls[i]? =some k:=⟨_,aA h2⟩
    obtain⟨ad2,PY,RA⟩:=y.load hS hw ho;have Ww:=y.lm.at ho;have Tn:y.ls.getD i 0=o:=by simp[List.getD,ho]
    refine⟨ad2,PY,by omega,.int .u32 o,RA _ _ _,ad,Ox,by omega,.int .u32 xi,Oy _ _ _,?_⟩;refine cH (cM (Φ:=fun _ _ v _=>v= .tuple #[.int .u32 ((xi+4294967296-(o+b)) % 4294967296:Nat),.int .u32 ((if xi<o+b then 1 else 0:Nat):Int)]) (fun O w' r=>I4 xi o b w' QZ Ww (by omega)) ?_);rintro O w' v w2 r he hb rfl;replace hw:=hw.tr hb;have QB:(xi+4294967296-(o+b)) % 4294967296+(o+b)=xi+4294967296*(if xi<o+b then 1 else 0):=by split<;>omega
    have PF:(xi+4294967296-(o+b)) % 4294967296<4294967296:=cC _ (by decide);have QW:(if xi<o+b then 1 else 0:Nat)<2:=by split<;>omega
    generalize (xi+4294967296-(o+b)) % 4294967296=e at QB PF;generalize (if xi<o+b then 1 else 0:Nat)=b' at QB QW;have Of:=BK QG Tn hd hv QB;refine⟨by omega,by rw[gV];omega,U (out.set i e),jT out i _ (by omega) (by simp),((i+1:Nat):Int),wo,?_⟩;intro ρ3 w3 r3
    exact⟨(i+1,out.set i e,b',w3),⟨by dsimp only;omega,hw.tr r3.cU,by simp[Qc],PW.set PF,QW,Of⟩,
     Sub.gn [] r3,by dsimp only;omega⟩
   ·have h2:¬i<y.ls.length:=by simpa using h2
    have Tn:y.ls.getD i 0=0:=by simp[List.getD,List.getElem?_eq_none (show y.ls.length<=i by omega)]
    refine⟨ad,Ox,by omega,.int .u32 xi,Oy _ _ _,?_⟩;refine cH (cM (Φ:=fun _ _ v _=>v= .tuple #[.int .u32 ((xi+4294967296-(0+b)) % 4294967296:Nat),.int .u32 ((if xi<0+b then 1 else 0:Nat):Int)]) (fun O w' r=>I4 xi 0 b w' QZ (by decide) (by omega)) ?_);rintro O w' v w2 r he hb rfl;replace hw:=hw.tr hb;have QB:(xi+4294967296-(0+b)) % 4294967296+(0+b)=xi+4294967296*(if xi<0+b then 1 else 0):=by split<;>omega
    have PF:(xi+4294967296-(0+b)) % 4294967296<4294967296:=cC _ (by decide);have QW:(if xi<0+b then 1 else 0:Nat)<2:=by split<;>omega
    generalize (xi+4294967296-(0+b)) % 4294967296=e at QB PF;generalize (if xi<0+b then 1 else 0:Nat)=b' at QB QW;have Of:=BK QG Tn hd hv QB;refine⟨by omega,by rw[gV];omega,U (out.set i e),jT out i _ (by omega) (by simp),((i+1:Nat):Int),wo,?_⟩;intro ρ3 w3 r3
    exact⟨(i+1,out.set i e,b',w3),⟨by dsimp only;omega,hw.tr r3.cU,by simp[Qc],PW.set PF,QW,Of⟩,
     Sub.gn [] r3,by dsimp only;omega⟩
  ·have RF:i=x.ls.length:=by
    have:¬i<x.ls.length:=by simpa using h
    omega
   subst RF;have SS:val out=n-m:=by
    rw[List.take_of_length_le (by omega),List.take_of_length_le hyx,bF,Qw,Rl]at hv;have h1:=oL PW;rw[Qc]at h1;have:b=0∨b=1:=by omega
    rcases this with rfl|rfl
    ·omega
    ·omega
   refine gN (Φ:=fun O _ v w2=>dV w2 (fun g=>g=(O 0).g) v (eA out)) (H':=[]) 0 rfl (by simp) trivial rfl (fun O w' r=>r.nn 0 _ rfl (by intros;simp) (by simp)) (fun O w' r=>?_) ?_
   ·have hL:=r.nc (id:=0) rfl PW (by omega);rw[Qc]at hL;exact fZ (fun g hg=>by rw[hg];exact(r.low 0 _ rfl (r.nn 0 _ rfl (by intros;simp) (by simp))).2) hL
   rintro O w' v w2 r he hb hL;replace hw:=hw.tr hb;have Oa:=r.low 0 _ rfl (r.nn 0 _ rfl (by intros;simp) (by simp));generalize (O 0).g=g at*
   have hs:=he.size;intro ρ3 w3 r3;refine⟨_,rfl,hw.tr r3.cU,eA out,?_,(fJ out).2.1,?_⟩
   ·refine(hL.cJ fun k hk=>?_).cL fun k hk=>.inr ?_
    ·rw[hk];exact r3.qd.block g (by omega) (by simp)
    ·rw[hk];have:=r3.size;omega
   ·rw[(fJ out).1,SS]
theorem Hd{p c:Nat}(ho:out[p]? =some o)(h:val out+wt p*c=V)(ht:t=a+o+c):
  val (out.set p (t % 4294967296))+wt (p+1)*(t / 4294967296)=V+wt p*a:=by
 have h1:=yS (x:=t % 4294967296) ho;rw[jQ];have h3:=Nat.div_add_mod t 4294967296;generalize t / 4294967296=q at h3 ⊢;generalize t % 4294967296=r at h3 h1 ⊢;have h4:wt p*(4294967296*q+r)=wt p*(a+o+c):=by rw[h3,ht]
 rw[bX,bX,bX,<-bg,bT (wt p) 4294967296]at h4;omega
def Zf(out:List Nat)(p:Nat):Prop:=∀(j:Nat) z,p<=j->out[j]? =some z->z=0
theorem Zf.set{p x:Nat}(h:Zf out p)(hk:k<p):Zf (out.set k x) p:=fun j z hj hz=>by
 rw[aY (by omega)]at hz;exact h j z hj hz
theorem MY(ha:a<4294967296)(hb:b<4294967296):a*b<=18446744065119617025:=by
 have:a*b<=4294967295*4294967295:=Nat.mul_le_mul (by omega) (by omega);omega
theorem IV{u:Value}{n m:Nat}(hS:Old S w)(hn:eC w S v n)(hm:eC w S u m)(Sd:ln n<=1000000000000)(Pv:ln m<=1000000000000):
  eG PG N.pJ #[v,u] w (eL w fun v' w2=>eC w2 (Nf w w2) v' (n*m)):=by
 obtain⟨x,rfl,Qw,Q6⟩:=hn.la;obtain⟨y,rfl,Rl,Qb⟩:=hm.la;have Pb:=eU x.lm Q6;rw[Qw]at Pb;have SJ:=eU y.lm Qb;rw[Rl]at SJ;refine sk (by simp) ?_;obtain⟨L,hL⟩:∃L,L=x.ls.length+y.ls.length:=⟨_,rfl⟩
 refine⟨(L:Int),wo,L,L,rfl,rfl,Nat.le_refl _,by omega,by omega,Nat×List Nat×World,fun z=>⟨[(1,sV y.a y.ls.length y.c),(5,.o (.s 0 0 L L)),(18,sV x.a x.ls.length x.c),(19,iZ x.ls.length),(20,iZ z.1)],
   [(0,.arr T.uint32 (U z.2.1))],1,[],z.2.2⟩,fun z=>x.ls.length-z.1,
  fun z=>z.1<=x.ls.length∧dq w.heap.size w z.2.2∧z.2.1.length=L∧Lm z.2.1∧val z.2.1=val (x.ls.take z.1)*m∧Zf z.2.1 (z.1+y.ls.length),?_,?_⟩
 ·intro O w' r;rw[sw]at r;exact⟨(0,List.replicate L 0,w'),⟨by simp,r.cU,by simp,Lm.replicate _,by simp[val,mq],fun j z _ hz=>by simp only[List.getElem?_replicate]at hz;split at hz<;>simp_all⟩,Sub.gn [] r⟩
 ·rintro⟨i,out,w1⟩ ⟨hi,hw,Qc,PW,hv,hz⟩;dsimp only at hi hw Qc PW hv hz ⊢;refine dN.mk ?_ ?_<;>intro h
  ·have h:i<x.ls.length:=by simpa using h
   obtain⟨xi,QG⟩:∃k,x.ls[i]? =some k:=⟨_,aA h⟩
   obtain⟨ad,Ox,Oy⟩:=x.load hS hw QG;have QZ:=x.lm.at QG
   refine⟨ad,Ox,by omega,.int .u32 xi,Oy _ _ _,Nat×List Nat×Nat×World,fun z=>⟨[(1,sV y.a y.ls.length y.c),(5,.o (.s 0 0 L L)),(18,sV x.a x.ls.length x.c),(19,iZ x.ls.length),(20,iZ i),
     (6,iZ i),(7,.o (.v (.int .u32 xi))),(8,.o (.v (.int .u64 z.2.2.1))),(25,sV y.a y.ls.length y.c),(26,iZ y.ls.length),(27,iZ z.1)],
     [(0,.arr T.uint32 (U z.2.1))],1,[],z.2.2.2⟩,fun z=>y.ls.length-z.1,
    fun z=>z.1<=y.ls.length∧dq w.heap.size w z.2.2.2∧z.2.1.length=L∧Lm z.2.1∧z.2.2.1<4294967296∧val z.2.1+wt (i+z.1)*z.2.2.1=val (x.ls.take i)*m+wt i*xi*val (y.ls.take z.1)∧Zf z.2.1 (i+y.ls.length),?_,?_⟩
   ·intro O w' r;exact⟨(0,out,0,w'),⟨by simp,hw.tr r.cU,Qc,PW,by simp,by simp[val,hv],hz⟩,Sub.gn [] r⟩
   ·rintro⟨k,out,c,w1⟩ ⟨hk,hw,Qc,PW,hc,hv,hz⟩;dsimp only at hk hw Qc PW hc hv hz ⊢;refine dN.mk ?_ ?_<;>intro h2
    ·have h2:k<y.ls.length:=by simpa using h2
     obtain⟨yk,hyk⟩:∃q,y.ls[k]? =some q:=⟨_,aA h2⟩
     obtain⟨ad2,PY,RA⟩:=y.load hS hw hyk;have hy32:=y.lm.at hyk;obtain⟨o,ho⟩:∃q,out[i+k]? =some q:=⟨_,aA (by omega)⟩
     have Ww:=PW.at ho;have hm64:=MY QZ hy32;refine⟨ad2,PY,by omega,.int .u32 yk,RA _ _ _,(xi:Int),eh (by omega),(yk:Int),eh (by omega),((xi*yk:Nat):Int),by rw[<-Int.natCast_mul];exact eh (by omega),((i+k:Nat):Int),wo,by omega,.int .u32 o,by rw[aF,aW,aZ];exact ub ho,(o:Int),eh (by omega),((xi*yk+o:Nat):Int),by rw[<-Int.natCast_add];exact eh (by omega),?_⟩;obtain⟨t,ht⟩:∃t,t=xi*yk+o+c:=⟨_,rfl⟩
     refine⟨(t:Int),by rw[<-Int.natCast_add,<-ht];exact eh (by omega),((i+k:Nat):Int),wo,((t % 4294967296:Nat):Int),fT _,by decide,((t / 4294967296:Nat):Int),lz 32 (by decide),by omega,by rw[gV];omega,U (out.set (i+k) (t % 4294967296)),jT out (i+k) _ (by omega) (by simp only[aF];omega),((k+1:Nat):Int),wo,?_⟩;intro ρ3 w3 r3
     refine⟨(k+1,out.set (i+k) (t % 4294967296),t / 4294967296,w3),⟨by dsimp only;omega,hw.tr r3.cU,by simp[Qc],PW.set (cC _ (by decide)),by dsimp only;omega,?_,hz.set (by omega)⟩,
      Sub.gn [] r3,by dsimp only;omega⟩
     have h5:=Hd (a:=xi*yk) ho hv ht;dsimp only
     rw[show i+(k+1)=i+k+1 by omega,h5,dh hyk,DJ,bX,Nat.add_assoc];congr 2;simp only[bg,Nat.mul_left_comm,bT]
    ·have hkn:k=y.ls.length:=by
      have:¬k<y.ls.length:=by simpa using h2
      omega
     subst hkn;obtain⟨o,ho⟩:∃q,out[i+y.ls.length]? =some q:=⟨_,aA (by omega)⟩
     have ho0:=hz _ _ (Nat.le_refl _) ho;subst ho0;refine⟨((i+y.ls.length:Nat):Int),wo,(c:Int),by rw[fT,bO hc],by omega,by rw[gV];omega,U (out.set (i+y.ls.length) c),jT out (i+y.ls.length) _ (by omega) (by simp only[aF];omega),((i+1:Nat):Int),wo,?_⟩;intro ρ3 w3 r3
     refine⟨(i+1,out.set (i+y.ls.length) c,w3),⟨by dsimp only;omega,hw.tr r3.cU,by simp[Qc],PW.set hc,?_,?_⟩,
      Sub.gn [] r3,by dsimp only;omega⟩
     ·have h5:=yS (x:=c) ho;dsimp only
      rw[bF,Rl]at hv;rw[dh QG,Nat.add_mul];omega
     ·intro j z hj hjz;dsimp only at hj;rw[aY (by omega)]at hjz;exact hz j z (by omega) hjz
  ·have RF:i=x.ls.length:=by
    have:¬i<x.ls.length:=by simpa using h
    omega
   subst RF;have SS:val out=n*m:=by rw[hv,bF,Qw]
   refine gN (Φ:=fun O _ v w2=>dV w2 (fun g=>g=(O 0).g) v (eA out)) (H':=[]) 0 rfl (by simp) trivial rfl (fun O w' r=>r.nn 0 _ rfl (by intros;simp) (by simp)) (fun O w' r=>?_) ?_
   ·have hL:=r.nc (id:=0) rfl PW (by omega);rw[Qc]at hL;exact fZ (fun g hg=>by rw[hg];exact(r.low 0 _ rfl (r.nn 0 _ rfl (by intros;simp) (by simp))).2) hL
   rintro O w' v w2 r he hb hL;replace hw:=hw.tr hb;have Oa:=r.low 0 _ rfl (r.nn 0 _ rfl (by intros;simp) (by simp));generalize (O 0).g=g at*
   have hs:=he.size;intro ρ3 w3 r3;refine⟨_,rfl,hw.tr r3.cU,eA out,?_,(fJ out).2.1,?_⟩
   ·refine(hL.cJ fun k hk=>?_).cL fun k hk=>.inr ?_
    ·rw[hk];exact r3.qd.block g (by omega) (by simp)
    ·rw[hk];have:=r3.size;omega
   ·rw[(fJ out).1,SS]
theorem Di{q:Nat}(ho:o<2^k):o ||| 2^k*q=o+2^k*q:=by
 rw[Nat.or_comm,<-Nat.two_pow_add_eq_or_of_lt ho,Nat.add_comm]
theorem LW{x y:Nat}(hx:x<18446744073709551616)(hy:y<18446744073709551616):IntKind.u64.wrap ((BitVec.ofInt IntKind.u64.bits x ||| BitVec.ofInt IntKind.u64.bits y).toNat:Int)=((x ||| y:Nat):Int):=by
 have e:∀z:Nat,BitVec.ofInt 64 (z:Int)=BitVec.ofNat 64 z:=fun z=>by
  apply BitVec.eq_of_toNat_eq;simp
 show IntKind.u64.wrap ((BitVec.ofInt 64 x ||| BitVec.ofInt 64 y).toNat:Int)=_;rw[e,e,BitVec.toNat_or,BitVec.toNat_ofNat,BitVec.toNat_ofNat,bO hx,bO hy];exact eh (Nat.or_lt_two_pow (n:=64) hx hy)
theorem Dh(hk:k<=63)(h:a*2^k<18446744073709551616):IntKind.u64.wrap ((a:Int)*2^min ((k:Int)).toNat IntKind.u64.bits)=((a*2^k:Nat):Int):=by
 have h1:min ((k:Int)).toNat IntKind.u64.bits=k:=by show min ((k:Int)).toNat 64=k;omega
 rw[h1,show(a:Int)*2^k=((a*2^k:Nat):Int) by simp];exact eh h
theorem Hh(ha:ls[i]? =some a)(ho:out[i]? =some o)(hz:out[i+1]? =some 0)(hv:val out=val (ls.take i)*2^b):
  val ((out.set i (o+a*2^b % 4294967296)).set (i+1) (a*2^b / 4294967296))=val (ls.take (i+1))*2^b:=by
 have h1:=yS (x:=o+a*2^b % 4294967296) ho;have h2:(out.set i (o+a*2^b % 4294967296))[i+1]? =some 0:=by rw[aY (by omega)];exact hz
 have h3:=yS (x:=a*2^b / 4294967296) h2;rw[dh ha,Nat.add_mul,bg];rw[jQ]at h3;generalize a*2^b=t at*
 have h4:=Nat.div_add_mod t 4294967296;generalize t / 4294967296=q at*
 generalize t % 4294967296=r at*
 have h5:wt i*(o+r)=wt i*o+wt i*r:=bX _ _ _;have h6:4294967296*wt i*q=wt i*(4294967296*q):=by rw[bT 4294967296 (wt i),bg]
 rw[<-h4,bX];omega
def LY(w w2:World)(v:Value)(ls:List Nat):Prop:=∃g,v= .slice (some ⟨g,0,none⟩) ls.length ls.length∧w.heap.size<=g∧w2.heap[g]? =some (.cells (U ls).toArray T.uint32 (0,0))∧Lm ls
theorem CX(hS:Old S w)(h:dV w S v ls)(hl:ls.length<=1000000000000)(hb:b<32):
  eG PG N.mb #[v,.int .u64 b] w (eL w fun v' w2=>∃out,LY w w2 v' out∧out.length=ls.length+1∧val out=val ls*2^b):=by
 obtain⟨x,rfl,rfl⟩:=h.la;refine qc (by simp) ?_;have hp32:2^b<=2^31:=Nat.pow_le_pow_right (by decide) (by omega)
 refine⟨((x.ls.length+1:Nat):Int),wo,x.ls.length+1,x.ls.length+1,rfl,rfl,Nat.le_refl _,by omega,by omega,Nat×List Nat×World,fun z=>⟨[(1,.o (.v (.int .u64 b))),(5,.o (.s 0 0 (x.ls.length+1) (x.ls.length+1))),(13,sV x.a x.ls.length x.c),(14,iZ x.ls.length),(15,iZ z.1)],
   [(0,.arr T.uint32 (U z.2.1))],1,[],z.2.2⟩,fun z=>x.ls.length-z.1,
  fun z=>z.1<=x.ls.length∧dq w.heap.size w z.2.2∧z.2.1.length=x.ls.length+1∧Lm z.2.1∧val z.2.1=val (x.ls.take z.1)*2^b∧Zf z.2.1 (z.1+1)∧(∀o,z.2.1[z.1]? =some o->o<2^b),?_,?_⟩
 ·intro O w' r;rw[sw]at r;refine⟨(0,List.replicate (x.ls.length+1) 0,w'),⟨by simp,r.cU,by simp,Lm.replicate _,by simp[val,mq],fun j z _ hz=>?_,fun o ho=>?_⟩,Sub.gn [] r⟩
  ·simp only[List.getElem?_replicate]at hz;split at hz<;>simp_all
  ·simp only[List.getElem?_replicate]at ho;split at ho
   ·injection ho with ho;subst ho;exact bu _
   ·cases ho
 ·rintro⟨i,out,w1⟩ ⟨hi,hw,Qc,PW,hv,hz,Oa⟩;dsimp only at hi hw Qc PW hv hz Oa ⊢;refine dN.mk ?_ ?_<;>intro h
  ·have h:i<x.ls.length:=by simpa using h
   obtain⟨a,QG⟩:∃k,x.ls[i]? =some k:=⟨_,aA h⟩
   obtain⟨ad,Ox,Oy⟩:=x.load hS hw QG;have QZ:=x.lm.at QG;obtain⟨o,ho⟩:∃q,out[i]? =some q:=⟨_,aA (by omega)⟩
   obtain⟨o1,WG⟩:∃q,out[i+1]? =some q:=⟨_,aA (by omega)⟩
   have e0:=hz _ _ (Nat.le_refl _) WG;subst e0;have TT:=Oa o ho;have Of:=Hh QG ho WG hv;have QP:a*2^b<=4294967295*2^31:=Nat.mul_le_mul (by omega) hp32;have UO:a*2^b / 4294967296<2^b:=by
    rw[Nat.div_lt_iff_lt_mul (by decide),bT (2^b)];exact Nat.mul_lt_mul_of_pos_right QZ (bu b)
   have Uk:o ||| a*2^b % 4294967296=o+a*2^b % 4294967296:=by
    have:a*2^b % 4294967296=2^b*(a % 2^(32-b)):=by
     rw[show (4294967296:Nat)=2^(32-b)*2^b by rw[<-Nat.pow_add,Nat.sub_add_cancel (by omega)],Nat.mul_mod_mul_right,bT]
    rw[this];exact Di TT
   have Rj:o+a*2^b % 4294967296<4294967296:=by
    rw[<-Uk];exact Dz (by omega) (cC _ (by decide))
   refine⟨ad,Ox,by omega,.int .u32 a,Oy _ _ _,(a:Int),eh (by omega),by omega,((a*2^b:Nat):Int),Dh (by omega) (by omega),?_⟩;generalize ht:a*2^b=t at*
   refine⟨by omega,.int .u32 o,by rw[aF,aW,aZ];exact ub ho,((t % 4294967296:Nat):Int),fT _,((o+t % 4294967296:Nat):Int),by rw[<-Uk];exact aAb (by omega) (cC _ (by decide)),by omega,by rw[gV];omega,U (out.set i (o+t % 4294967296)),jT out i _ (by omega) (by simp),((i+1:Nat):Int),wo,by decide,((t / 4294967296:Nat):Int),lz 32 (by decide),((t / 4294967296:Nat):Int),by rw[fT];omega,by omega,by rw[gV];simp;omega,U ((out.set i (o+t % 4294967296)).set (i+1) (t / 4294967296)),jT _ (i+1) _ (by simp;omega) (by simp only[aF];omega),((i+1:Nat):Int),wo,?_⟩;intro ρ3 w3 r3
   refine⟨(i+1,(out.set i (o+t % 4294967296)).set (i+1) (t / 4294967296),w3),⟨by dsimp only;omega,hw.tr r3.cU,by simp[Qc],(PW.set Rj).set (by omega),Of,fun j z hj hjz=>?_,fun o2 UM=>?_⟩,
    Sub.gn [] r3,by dsimp only;omega⟩
   ·dsimp only at hj;rw[aY (by omega),aY (by omega)]at hjz;exact hz j z (by omega) hjz
   ·rw[aQ (by simp;omega)]at UM;injection UM with UM;omega
  ·have RF:i=x.ls.length:=by
    have:¬i<x.ls.length:=by simpa using h
    omega
   subst RF;rw[bF]at hv;intro ρ3 w3 r3;refine⟨_,rfl,hw.tr r3.cU,out,⟨(ρ3 0).g,by rw[Qc];rfl,(r3.low 0 _ rfl (r3.nn 0 _ rfl (by intros;simp) (by simp))).1,r3.arr 0 _ _ rfl,PW⟩,Qc,hv⟩
theorem Cy{d q:Nat}(ha32:a<4294967296)(ha:ls[i]? =some a)(hd:out[i]? =some d)(hb:b<=32)(ht:t=a+4294967296*ls.getD (i+1) 0)(hq:q=t / 2^b % 4294967296)(hv:val (out.take i)+wt i*(val (ls.drop i) / 2^b)=V):
  val ((out.set i q).take (i+1))+wt (i+1)*(val (ls.drop (i+1)) / 2^b)=V:=by
 have hi:=(aE.1 hd).1;have h1:(out.set i q)[i]? =some q:=by rw[aQ hi]
 rw[dh h1,List.take_set_of_le (Nat.le_refl _),jQ,<-hv];have hN:=j2 ha;have h2:val (ls.drop i) / 2^b=q+4294967296*(val (ls.drop (i+1)) / 2^b):=by
  have e1:val (ls.drop i) / 2^b / 4294967296=val (ls.drop (i+1)) / 2^b:=by
   rw[Nat.div_div_eq_div_mul,bT,<-Nat.div_div_eq_div_mul];congr 1;omega
  have e2:val (ls.drop i) / 2^b % 4294967296=q:=by
   have h3:∃z,val (ls.drop i)=t+2^b*(4294967296*z):=by
    cases hx:ls[i+1]? with
    |some y=>
     have:=j2 hx;refine⟨2^(32-b)*val (ls.drop (i+1+1)),?_⟩;have h4:2^b*(4294967296*(2^(32-b)*val (ls.drop (i+1+1))))=18446744073709551616*val (ls.drop (i+1+1)):=by
      rw[Nat.mul_left_comm,<-bg (2^b),<-Nat.pow_add,Nat.add_sub_cancel' hb,<-bg]
     rw[h4,hN,this,ht,List.getD,hx];simp only[Option.getD_some]
     omega
    |none=>
     refine⟨0,?_⟩;have h5:ls.length<=i+1:=List.getElem?_eq_none_iff.1 hx;rw[hN,List.drop_of_length_le h5,ht,List.getD,hx];simp[val]
   obtain⟨z,hz⟩:=h3;rw[hz,Nat.add_mul_div_left _ _ (bu b),Nat.add_mul_mod_self_left,hq]
  have:=Nat.div_add_mod (val (ls.drop i) / 2^b) 4294967296;rw[e1,e2]at this;omega
 rw[h2,bX,bT 4294967296 (wt i),bg];omega
theorem aAN(hS:Old S w)(h:dV w S v ls)(hl:ls.length<=1000000000000)(hb:b<32):
  eG PG N.qQ #[v,.int .u64 b] w (eL w fun v' w2=>eC w2 (Nf w w2) v' (val ls / 2^b)):=by
 obtain⟨x,rfl,rfl⟩:=h.la;refine u7 (by simp) ?_
 refine⟨x.ls.length,x.ls.length,rfl,rfl,Nat.le_refl _,by omega,by omega,Nat×List Nat×World,fun z=>⟨[(0,sV x.a x.ls.length x.c),(1,.o (.v (.int .u64 b))),(5,.o (.s 0 0 x.ls.length x.ls.length)),(12,iZ x.ls.length),(13,iZ z.1)],
   [(0,.arr T.uint32 (U z.2.1))],1,[],z.2.2⟩,fun z=>x.ls.length-z.1,
  fun z=>z.1<=x.ls.length∧dq w.heap.size w z.2.2∧z.2.1.length=x.ls.length∧Lm z.2.1∧val (z.2.1.take z.1)+wt z.1*(val (x.ls.drop z.1) / 2^b)=val x.ls / 2^b,?_,?_⟩
 ·intro O w' r;rw[sw]at r;exact⟨(0,List.replicate x.ls.length 0,w'),⟨by simp,r.cU,by simp,Lm.replicate _,by simp[val,j9]⟩,Sub.gn [] r⟩
 ·rintro⟨i,out,w1⟩ ⟨hi,hw,Qc,PW,hv⟩;dsimp only at hi hw Qc PW hv ⊢;refine dN.mk ?_ ?_<;>intro h
  ·have h:i<x.ls.length:=by simpa using h
   obtain⟨a,QG⟩:∃k,x.ls[i]? =some k:=⟨_,aA h⟩
   obtain⟨ad,Ox,Oy⟩:=x.load hS hw QG;have QZ:=x.lm.at QG;obtain⟨d,hd⟩:∃q,out[i]? =some q:=⟨_,aA (by omega)⟩
   refine⟨ad,Ox,by omega,.int .u32 a,Oy _ _ _,(a:Int),eh (by omega),((i+1:Nat):Int),wo,?_⟩;refine dN.mk ?_ ?_<;>intro h2
   ·have h2:i+1<x.ls.length:=by
     have:((i+1:Nat):Int)<x.ls.length:=aI h2;omega
    obtain⟨y,hy⟩:∃k,x.ls[i+1]? =some k:=⟨_,aA h2⟩
    obtain⟨ad2,PY,RA⟩:=x.load hS hw hy;have hy32:=x.lm.at hy;have R4:x.ls.getD (i+1) 0=y:=by simp[List.getD,hy]
    have Uk:a ||| y*2^32=a+4294967296*y:=by
     rw[bT];exact Di (k:=32) QZ
    refine⟨((i+1:Nat):Int),wo,ad2,PY,by omega,.int .u32 y,RA _ _ _,(y:Int),eh (by omega),by decide,((y*2^32:Nat):Int),Dh (k:=32) (by decide) (by omega),((a+4294967296*y:Nat):Int),by rw[LW (by omega) (by omega),Uk],by omega,(((a+4294967296*y) / 2^b:Nat):Int),lz b (by omega),(((a+4294967296*y) / 2^b % 4294967296:Nat):Int),fT _,?_⟩;have Of:=Cy (t:=a+4294967296*y) QZ QG hd (by omega) (by rw[R4]) rfl hv;generalize hq:(a+4294967296*y) / 2^b % 4294967296=q at*
    have hq32:q<4294967296:=by rw[<-hq];exact cC _ (by decide)
    refine⟨by omega,by rw[gV];omega,U (out.set i q),jT out i _ (by omega) (by simp),((i+1:Nat):Int),wo,?_⟩;intro ρ3 w3 r3
    exact⟨(i+1,out.set i q,w3),⟨by dsimp only;omega,hw.tr r3.cU,by simp[Qc],PW.set hq32,Of⟩,
     Sub.gn [] r3,by dsimp only;omega⟩
   ·have h2:¬i+1<x.ls.length:=by
     have:¬((i+1:Nat):Int)<x.ls.length:=aH h2;omega
    have R4:x.ls.getD (i+1) 0=0:=by simp[List.getD,List.getElem?_eq_none (show x.ls.length<=i+1 by omega)]
    refine⟨by omega,((a / 2^b:Nat):Int),lz b (by omega),((a / 2^b % 4294967296:Nat):Int),fT _,?_⟩;have Of:=Cy (t:=a) QZ QG hd (by omega) (by rw[R4];omega) rfl hv;generalize hq:a / 2^b % 4294967296=q at*
    have hq32:q<4294967296:=by rw[<-hq];exact cC _ (by decide)
    refine⟨by omega,by rw[gV];omega,U (out.set i q),jT out i _ (by omega) (by simp),((i+1:Nat):Int),wo,?_⟩;intro ρ3 w3 r3
    exact⟨(i+1,out.set i q,w3),⟨by dsimp only;omega,hw.tr r3.cU,by simp[Qc],PW.set hq32,Of⟩,
     Sub.gn [] r3,by dsimp only;omega⟩
  ·have RF:i=x.ls.length:=by
    have:¬i<x.ls.length:=by simpa using h
    omega
   subst RF;have SS:val out=val x.ls / 2^b:=by
    rw[List.drop_length,List.take_of_length_le (by omega)]at hv;simpa [val]using hv
   refine gN (Φ:=fun O _ v w2=>dV w2 (fun g=>g=(O 0).g) v (eA out)) (H':=[]) 0 rfl (by simp) trivial rfl (fun O w' r=>r.nn 0 _ rfl (by intros;simp) (by simp)) (fun O w' r=>?_) ?_
   ·have hL:=r.nc (id:=0) rfl PW (by omega);rw[Qc]at hL;exact fZ (fun g hg=>by rw[hg];exact(r.low 0 _ rfl (r.nn 0 _ rfl (by intros;simp) (by simp))).2) hL
   rintro O w' v w2 r he hb hL;replace hw:=hw.tr hb;have Oa:=r.low 0 _ rfl (r.nn 0 _ rfl (by intros;simp) (by simp));generalize (O 0).g=g at*
   have hs:=he.size;intro ρ3 w3 r3;refine⟨_,rfl,hw.tr r3.cU,eA out,?_,(fJ out).2.1,?_⟩
   ·refine(hL.cJ fun k hk=>?_).cL fun k hk=>.inr ?_
    ·rw[hk];exact r3.qd.block g (by omega) (by simp)
    ·rw[hk];have:=r3.size;omega
   ·rw[(fJ out).1,SS]
theorem Hj{by_ rest x d:Nat}(hx:ls[k]? =some x)(hd:out[k]? =some d)(ht:t=rest*4294967296+x)
  (hv:val (ls.drop (k+1))=by_*val (out.drop (k+1))+rest):val (ls.drop k)=by_*val ((out.set k (t / by_)).drop k)+t % by_:=by
 have hi:=(aE.1 hd).1;have h1:(out.set k (t / by_))[k]? =some (t / by_):=by rw[aQ hi]
 rw[j2 h1,List.drop_set_of_lt (show k<k+1 by omega),j2 hx,hv,bX,bX];have h2:=Nat.div_add_mod t by_;rw[Nat.mul_left_comm by_];omega
theorem LX(h:t<18446744073709551616):IntKind.u64.wrap ((t:Int).tdiv (b:Int))=((t / b:Nat):Int):=by
 have h1:=Nat.div_le_self t b;rw[Int.tdiv_eq_ediv_of_nonneg (by omega),<-Int.natCast_ediv];exact eh (by omega)
theorem MO(t b:Nat):(t:Int).tmod (b:Int)=((t % b:Nat):Int):=by
 rw[Int.tmod_eq_emod_of_nonneg (by omega),<-Int.natCast_emod]
theorem NF(hS:Old S w)(h:dV w S v ls)(hl:ls.length<=1000000000000)(hb:0<b)(QW:b<4294967296):
  eG PG N.pK #[v,.int .u32 b] w (eL w fun v' w2=>∃q,v'= .tuple #[q,.int .u32 ((val ls % b:Nat):Int)]∧eC w2 (Nf w w2) q (val ls / b)):=by
 obtain⟨x,rfl,rfl⟩:=h.la;refine sn (by simp) ?_
 refine⟨x.ls.length,x.ls.length,rfl,rfl,Nat.le_refl _,by omega,by omega,(x.ls.length:Int)-1,wo,Nat×Nat×List Nat×World,fun z=>⟨[(0,sV x.a x.ls.length x.c),(1,.o (.v (.int .u32 b))),(4,sV none 0 0),(5,.o (.v (.int .u32 0))),(6,.o (.s 0 0 x.ls.length x.ls.length)),(7,.o (.v (.int .u64 z.2.1))),(8,.o (.v (.int .i64 ((z.1:Int)-1))))],
   [(0,.arr T.uint32 (U z.2.2.1))],1,[],z.2.2.2⟩,fun z=>z.1,
  fun z=>z.1<=x.ls.length∧dq w.heap.size w z.2.2.2∧z.2.2.1.length=x.ls.length∧Lm z.2.2.1∧z.2.1<b∧val (x.ls.drop z.1)=b*val (z.2.2.1.drop z.1)+z.2.1,?_,?_⟩
 ·intro O w' r;rw[sw]at r;exact⟨(x.ls.length,0,List.replicate x.ls.length 0,w'),⟨by simp,r.cU,by simp,Lm.replicate _,by simpa using hb,by simp[val]⟩,Sub.gn [] r⟩
 ·rintro⟨k,rest,out,w1⟩ ⟨hi,hw,Qc,PW,hr,hv⟩;dsimp only at hi hw Qc PW hr hv ⊢;refine dN.mk ?_ ?_<;>intro h
  ·have h:(k:Int)-1≥0:=aI h;obtain⟨k,rfl⟩:∃q,k=q+1:=⟨k-1,by omega⟩
   rw[show ((k+1:Nat):Int)-1=(k:Int) by omega];obtain⟨a,QG⟩:∃q,x.ls[k]? =some q:=⟨_,aA (by omega)⟩
   obtain⟨ad,Ox,Oy⟩:=x.load hS hw QG;have QZ:=x.lm.at QG;obtain⟨d,hd⟩:∃q,out[k]? =some q:=⟨_,aA (by omega)⟩
   refine⟨by decide,((rest*2^32:Nat):Int),Dh (k:=32) (by decide) (by omega),ad,Ox,by omega,.int .u32 a,Oy _ _ _,(a:Int),eh (by omega),?_⟩;have Uk:rest*2^32 ||| a=rest*4294967296+a:=by
    rw[Nat.or_comm,bT,Di (k:=32) QZ];omega
   refine⟨((rest*4294967296+a:Nat):Int),by rw[LW (by omega) (by omega),Uk],?_⟩;generalize ht:rest*4294967296+a=t;have ht64:t<18446744073709551616:=by omega
   refine cQ hτ dx [.x 0,.x 1,.x 2,.x 3,.x 4,.x 5,.x 6,.x 7,.x 8,.x 9,.x 10,.x 11,.x 12,.x 13] (by kernel_rfl) (by kernel_rfl) ?_;refine⟨(b:Int),eh (by omega),by omega,((t / b:Nat):Int),LX ht64,?_⟩;have hq:t / b<4294967296:=by
    rw[Nat.div_lt_iff_lt_mul hb];have:=Nat.mul_le_mul_right 4294967296 hr;rw[Nat.succ_eq_add_one,Nat.add_mul]at this;omega
   have hm:t % b<b:=cC _ hb;have Of:=Hj QG hd ht.symm hv;have hw32:IntKind.u32.wrap ((t / b:Nat):Int)=((t / b:Nat):Int):=by rw[fT,bO hq]
   have hrem:=MO t b;generalize t / b=q at*
   generalize t % b=m at*
   refine⟨(q:Int),hw32,(b:Int),eh (by omega),by omega,(m:Int),hrem,by omega,by rw[gV];omega,U (out.set k q),jT out k _ (by omega) (by simp),(k:Int)-1,wo,?_⟩;intro ρ3 w3 r3
   exact⟨(k,m,out.set k q,w3),⟨by dsimp only;omega,hw.tr r3.cU,by simp[Qc],PW.set hq,hm,Of⟩,
    Sub.gn [] r3,by dsimp only;omega⟩
  ·have Tx:k=0:=by
    have:¬(k:Int)-1≥0:=aH h;omega
   subst Tx;rw[List.drop_zero,List.drop_zero]at hv;have hdm:val x.ls / b=val out∧val x.ls % b=rest:=by
    rw[hv];exact⟨by rw[Nat.mul_add_div hb,Nat.div_eq_of_lt hr,cD],by rw[Nat.mul_add_mod,bO hr]⟩
   rw[hdm.1,hdm.2];refine gN (Φ:=fun O _ v w2=>dV w2 (fun g=>g=(O 0).g) v (eA out)) (H':=[]) 0 rfl (by simp) trivial rfl (fun O w' r=>r.nn 0 _ rfl (by intros;simp) (by simp)) (fun O w' r=>?_) ?_
   ·have hL:=r.nc (id:=0) rfl PW (by omega);rw[Qc]at hL;exact fZ (fun g hg=>by rw[hg];exact(r.low 0 _ rfl (r.nn 0 _ rfl (by intros;simp) (by simp))).2) hL
   rintro O w' v w2 r he hb hL;replace hw:=hw.tr hb;have Oa:=r.low 0 _ rfl (r.nn 0 _ rfl (by intros;simp) (by simp));generalize (O 0).g=g at*
   have hs:=he.size;refine⟨(rest:Int),by rw[fT,bO (by omega)],?_⟩;intro ρ3 w3 r3;refine⟨_,rfl,hw.tr r3.cU,v,rfl,eA out,?_,(fJ out).2.1,(fJ out).1⟩;refine(hL.cJ fun k hk=>?_).cL fun k hk=>.inr ?_
   ·rw[hk];exact r3.qd.block g (by omega) (by simp)
   ·rw[hk];have:=r3.size;omega
end Go.Ex
