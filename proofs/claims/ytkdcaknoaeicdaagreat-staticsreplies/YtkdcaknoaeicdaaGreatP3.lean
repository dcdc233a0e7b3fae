/- A part of the proof: texts L1 to X9. Each tells its conditions in its theorems. -/
import Derived.WalkKit
import Derived.KernelRfl
import Derived.Test.YtkdcaknoaeicdaaGreatProg
import Derived.Test.YtkdcaknoaeicdaaGreatP2
import Derived.Test.YtkdcaknoaeicdaaGreatP0
namespace Go.Ex
def val:List Nat->Nat
 |[]=>0
 |x::r=>x+4294967296*val r
def Lm(ls:List Nat):Prop:=∀x∈ls,x<4294967296
def wt(k:Nat):Nat:=4294967296^k
theorem gS:wt 0=1:=rfl
theorem gT(k:Nat):wt (k+1)=4294967296*wt k:=by rw[wt,Nat.pow_succ,bL];rfl
theorem Ac(a b:Nat):wt (a+b)=wt a*wt b:=by rw[wt,Nat.pow_add];rfl
theorem Ad(k:Nat):0<wt k:=Nat.pow_pos (by decide)
theorem jK(a b:List Nat):val (a++b)=val a+wt a.length*val b:=by
 induction a with
 |nil=>simp[val,gS]
 |cons x r ih=>
  rw[List.cons_append,val,val,ih,List.length_cons,gT,bJ,b9];omega
theorem kv{ls:List Nat}(h:Lm ls):val ls<wt ls.length:=by
 induction ls with
 |nil=>exact Nat.one_pos
 |cons x r ih=>
  have h1:=h x (by simp);have h2:=ih (fun y hy=>h y (by simp[hy]));rw[val,List.length_cons,gT];have:4294967296*(val r+1)<=4294967296*wt r.length:=bO _ h2;omega
theorem dm(ls:List Nat)(k:Nat)(h:k<=ls.length):val ls=val (ls.take k)+wt k*val (ls.drop k):=by
 have:=jK (ls.take k) (ls.drop k);rw[List.take_append_drop,aW,Nat.min_eq_left h]at this;exact this
theorem dC{ls:List Nat}{k x:Nat}(h:ls[k]? =some x):val (ls.take (k+1))=val (ls.take k)+wt k*x:=by
 have hk:=(aE.1 h).1;rw[List.take_add_one,h,jK,aW,Nat.min_eq_left (by omega)];simp[val]
theorem gL{ls:List Nat}{k x:Nat}(h:ls[k]? =some x):val (ls.drop k)=x+4294967296*val (ls.drop (k+1)):=by
 obtain⟨hk,hx⟩:=aE.1 h;rw[List.drop_eq_getElem_cons hk,hx,val]
theorem tS{ls:List Nat}{k o x:Nat}(h:ls[k]? =some o):val (ls.set k x)+wt k*o=val ls+wt k*x:=by
 obtain⟨hk,ho⟩:=aE.1 h;have h1:=dm ls k (by omega);have h2:=dm (ls.set k x) k (by simp;omega);rw[List.take_set_of_le (aI _)]at h2;rw[gL h,bJ]at h1;have h3:(ls.set k x)[k]? =some x:=by rw[aZ hk]
 rw[gL h3,List.drop_set_of_lt (by omega),bJ]at h2;omega
theorem jz(n:Nat):val (List.replicate n 0)=0:=by
 induction n with
 |zero=>rfl
 |succ n ih=>rw[List.replicate_succ,val,ih]
theorem Lm.set{ls:List Nat}{k x:Nat}(h:Lm ls)(hx:x<4294967296):Lm (ls.set k x):=fun y hy=>by
 rcases bS hy with h1|rfl
 ·exact h y h1
 ·exact hx
theorem Lm.replicate(n:Nat):Lm (List.replicate n 0):=fun x hx=>by rw[List.mem_replicate]at hx;omega
theorem Lm.take{ls:List Nat}(h:Lm ls)(k:Nat):Lm (ls.take k):=fun x hx=>h x (List.mem_of_mem_take hx)
theorem Lm.drop{ls:List Nat}(h:Lm ls)(k:Nat):Lm (ls.drop k):=fun x hx=>h x (List.mem_of_mem_drop hx)
theorem Lm.append{a b:List Nat}(ha:Lm a)(hb:Lm b):Lm (a++b):=fun x hx=>by
 rcases bT.1 hx with h|h
 ·exact ha x h
 ·exact hb x h
theorem Lm.at{ls:List Nat}(h:Lm ls){k x:Nat}(hx:ls[k]? =some x):x<4294967296:=h x (aD hx)
def dG:List Nat->List Nat
 |[]=>[]
 |x::r=>match dG r with
  |[]=>if x=0 then []else [x]
  |y::t=>x::y::t
def Nz(ls:List Nat):Prop:=∀x,ls.getLast? =some x->x≠0
theorem iU(ls:List Nat):dG (ls++[0])=dG ls:=by
 induction ls with
 |nil=>rfl
 |cons x r ih=>rw[List.cons_append,dG,ih,dG]
theorem kx(ls:List Nat){x:Nat}(hx:x≠0):dG (ls++[x])=ls++[x]:=by
 induction ls with
 |nil=>simp[dG,hx]
 |cons y r ih=>
  rw[List.cons_append,dG,ih]
  cases r<;>rfl
theorem o9(ls:List Nat):ls=[]∨∃a x,ls=a++[x]:=by
 rcases List.eq_nil_or_concat ls with h|⟨a,x,h⟩
 ·exact .inl h
 ·exact .inr ⟨a,x,by simpa using h⟩
theorem dw(ls:List Nat):val (dG ls)=val ls∧Nz (dG ls)∧∃k,k<=ls.length∧dG ls=ls.take k:=by
 have key:∀(n:Nat) (ls:List Nat),ls.length=n->val (dG ls)=val ls∧Nz (dG ls)∧∃k,k<=ls.length∧dG ls=ls.take k:=by
  intro n
  induction n with
  |zero=>intro ls h;have:ls=[]:=List.eq_nil_of_length_eq_zero h;subst this;exact⟨rfl,by simp[Nz,dG],0,aI _,rfl⟩
  |succ n ih=>
   intro ls h;rcases o9 ls with rfl|⟨a,x,rfl⟩
   ·simp at h
   ·by_cases hx:x=0
    ·subst hx;rw[iU];obtain⟨h1,h2,k,h3,h4⟩:=ih a (by simp at h;omega);refine⟨by rw[h1,jK];simp[val],h2,k,by simp;omega,?_⟩;rw[h4,List.take_append_of_le_length h3]
    ·rw[kx a hx];refine⟨rfl,?_,_,aI _,by rw[ah]⟩;intro y hy;simp at hy;subst hy;exact hx
 exact key _ ls rfl
theorem zS{ls:List Nat}(h:Nz ls):dG ls=ls:=by
 rcases o9 ls with rfl|⟨a,x,rfl⟩
 ·rfl
 ·exact kx a (h x (by simp))
theorem nt{ls:List Nat}(h:Nz ls)(hne:ls≠[]):wt (ls.length-1)<=val ls:=by
 rcases o9 ls with rfl|⟨a,x,rfl⟩
 ·exact absurd rfl hne
 ·have hx:=h x (by simp);rw[jK];simp only[val,List.length_append,List.length_singleton,Nat.add_sub_cancel]
  have:wt a.length*1<=wt a.length*(x+4294967296*0):=bO _ (by omega);omega
theorem val_inj:∀{a b:List Nat},Lm a->Lm b->a.length=b.length->val a=val b->a=b
 |[],[],_,_,_,_=>rfl
 |x::r,y::s,ha,hb,hl,h=>by
  have h1:=ha x (by simp);have h2:=hb y (by simp);rw[val,val]at h;have h3:x=y:=by omega
  have h4:val r=val s:=by omega
  rw[h3,val_inj (fun z hz=>ha z (by simp[hz])) (fun z hz=>hb z (by simp[hz])) (by simpa using hl) h4]
 |[],_::_,_,_,h,_=>by simp at h
 |_::_,[],_,_,h,_=>by simp at h
theorem B4{a b:Nat}(h:a<=b):wt a<=wt b:=Nat.pow_le_pow_right (by decide) h
theorem gF{a b:List Nat}(ha:Lm a)(hb:Nz b)(h:a.length<b.length):val a<val b:=by
 have h1:=kv ha;have h2:=nt hb (by intro e;rw[e]at h;simp at h);have:=B4 (show a.length<=b.length-1 by omega);omega
def ln(n:Nat):Nat:=if n=0 then 0 else n.log2 / 32+1
theorem DG(k:Nat):wt k=2^(32*k):=by rw[wt,show(4294967296:Nat)=2^32 from rfl,<-Nat.pow_mul]
theorem gM{n k:Nat}:ln n<=k↔n<wt k:=by
 unfold ln;by_cases h:n=0
 ·rw[aQ h,h];exact⟨fun _=>Ad k,fun _=>aO _⟩
 ·rw[aL h,DG];constructor
  ·intro h1;have:n.log2<32*k:=by omega
   exact(Nat.log2_lt h).1 this
  ·intro h1;have:=(Nat.log2_lt h).2 h1;omega
theorem jL(n:Nat):n<wt (ln n):=gM.1 (aI _)
theorem fJ{a b:Nat}(h:a<=b):ln a<=ln b:=gM.2 (Nat.lt_of_le_of_lt h (jL b))
theorem F0(a b:Nat):ln (a+b)<=max (ln a) (ln b)+1:=by
 rw[gM,gT];have h1:=Nat.lt_of_lt_of_le (jL a) (B4 (Nat.le_max_left (ln a) (ln b)));have h2:=Nat.lt_of_lt_of_le (jL b) (B4 (Nat.le_max_right (ln a) (ln b)));omega
theorem F1(a b:Nat):ln (a*b)<=ln a+ln b:=by
 rw[gM,Ac];exact Nat.mul_lt_mul'' (jL a) (jL b)
theorem E1:ln 0=0:=rfl
theorem dX{ls:List Nat}(h:Lm ls)(hz:Nz ls):ls.length=ln (val ls):=by
 by_cases hne:ls=[]
 ·subst hne;rfl
 ·have h1:=kv h;have h2:=nt hz hne;have h3:=gM.2 h1;have h4:¬ln (val ls)<=ls.length-1:=fun hh=>by have:=gM.1 hh;omega
  omega
end Go.Ex
namespace Go.Ex
open Go Go.Sx
def Cv(S:Nat->Prop)(B:Nat)(iv:Iv)(g:Nat):Prop:=S g∨(B<=g∧∃lo hi,(lo,hi)∈iv∧lo<=g∧g<hi)
def Nw(S:Nat->Prop)(w w2:World)(g:Nat):Prop:=S g∨(w.heap.size<=g∧g<w2.heap.size)
def Old(S:Nat->Prop)(w:World):Prop:=∀g,S g->g<w.heap.size
section
variable{S S':Nat->Prop}{H:Hp}{nx:Nat}{iv iv':Iv}{B:Nat}{w w' w2:World}{ρ:Nat->dN}
theorem Cv.mono{g:Nat}(h:Cv S B iv g)(k:∀p,p∈iv->p∈iv'):Cv S B iv' g:=by
 rcases h with h|⟨h0,lo,hi,h1,h2⟩
 ·exact .inl h
 ·exact .inr ⟨h0,lo,hi,k _ h1,h2⟩
theorem Cv.cons{g:Nat}{p:Nat×Nat}(h:Cv S B iv g):Cv S B (p::iv) g:=h.mono fun q hq=>by simp[hq]
theorem Rel.old(r:Rel H nx iv B w ρ w')(hS:∀g,S g->g<B):Old (Cv S B iv) w':=by
 intro g h;rcases h with h|⟨_,lo,hi,h1,_,h3⟩
 ·have:=hS g h;have:=r.base;have:=r.size;omega
 ·have:=r.oU lo hi h1;have:=r.size;omega
theorem Rel.same(r:Rel H nx iv B w ρ w')(hS:∀g,S g->g<B){g:Nat}(h:Cv S B iv g):w'.heap[g]? =w.heap[g]? :=by
 rcases h with h|⟨_,lo,hi,h1,h2,h3⟩
 ·have:=hS g h;exact r.qh g (by have:=r.base;omega) fun id b hb hn he=>by have:=(r.low id b hb hn).1;omega
 ·exact r.qh g (by have:=r.oU lo hi h1;omega) fun id b hb hn he=>r.im lo hi h1 id b hb hn ⟨by omega,by omega⟩
theorem Rel.not(r:Rel H nx iv B w ρ w')(hS:∀g,S g->g<B){g:Nat}(h:Cv S B iv g):∀id b,cT H id=some b->(ρ id).nil=false->(ρ id).g≠g:=by
 rcases h with h|⟨_,lo,hi,h1,h2,h3⟩
 ·have:=hS g h;exact fun id b hb hn he=>by have:=(r.low id b hb hn).1;omega
 ·exact fun id b hb hn he=>r.im lo hi h1 id b hb hn ⟨by omega,by omega⟩
theorem Nw.cv{w1:World}{g:Nat}(h:Nw (Cv S B iv) w' w1 g)(hB:B<=w'.heap.size):Cv S B ((w'.heap.size,w1.heap.size)::iv) g:=by
 rcases h with h|h
 ·exact h.cons
 ·exact .inr ⟨by omega,_,_,aH,h.1,h.2⟩
theorem Cv.nw{w0:World}{g:Nat}(h:Cv S w0.heap.size iv g)(r:Rel H nx iv w0.heap.size w ρ w'):Nw S w0 w' g:=by
 rcases h with h|⟨h0,lo,hi,h1,_,h3⟩
 ·exact .inl h
 ·exact .inr ⟨h0,by have:=r.oU lo hi h1;have:=r.size;omega⟩
structure cV(w:World)(S:Nat->Prop)(v:Value)(ls:List Nat):Prop where
 lm:Lm ls
 le:ls.length<=9223372036854775807
 sl:∃a c,v= .slice a ls.length c∧ls.length<=c∧∀(j:Nat) x,ls[j]? =some x->∃ad,a=some ad∧S ad.block∧w.cell? (ad.add j)=some (.int .u32 x)
theorem cC(ad:Addr)(j:Nat):(ad.add j).block=ad.block:=by
 unfold Addr.add;split<;>rfl
theorem cV.bu{v:Value}{ls:List Nat}(h:cV w S v ls)(hk:∀g,S g->w2.heap[g]? =w.heap[g]?):cV w2 S v ls:=by
 obtain⟨a,c,h1,hlc,h2⟩:=h.sl;refine⟨h.lm,h.le,a,c,h1,hlc,fun j x hx=>?_⟩;obtain⟨ad,h3,h4,h5⟩:=h2 j x hx;exact⟨ad,h3,h4,by rw[bo (hk _ (by rw[cC];exact h4))];exact h5⟩
theorem cV.bz{v:Value}{ls:List Nat}(h:cV w S v ls)(hk:∀g,S g->S' g):cV w S' v ls:=by
 obtain⟨a,c,h1,hlc,h2⟩:=h.sl;refine⟨h.lm,h.le,a,c,h1,hlc,fun j x hx=>?_⟩;obtain⟨ad,h3,h4,h5⟩:=h2 j x hx;exact⟨ad,h3,hk _ h4,h5⟩
theorem cV.rel{v:Value}{ls:List Nat}(h:cV w (Cv S B iv) v ls)(r:Rel H nx iv B w ρ w')(hS:∀g,S g->g<B):cV w' (Cv S B iv) v ls:=h.bu fun _g hg=>Rel.same r hS hg
theorem cV.nil(w:World)(S:Nat->Prop):cV w S (.slice none 0 0) []:=⟨by simp[Lm],by simp,none,0,rfl,aI _,by simp⟩
def dI(w:World)(S:Nat->Prop)(v:Value)(n:Nat):Prop:=∃ls,cV w S v ls∧Nz ls∧val ls=n
theorem dI.bu{v:Value}{n:Nat}(h:dI w S v n)(hk:∀g,S g->w2.heap[g]? =w.heap[g]?):dI w2 S v n:=by
 obtain⟨ls,h1,h2,h3⟩:=h;exact⟨ls,h1.bu hk,h2,h3⟩
theorem dI.bz{v:Value}{n:Nat}(h:dI w S v n)(hk:∀g,S g->S' g):dI w S' v n:=by
 obtain⟨ls,h1,h2,h3⟩:=h;exact⟨ls,h1.bz hk,h2,h3⟩
theorem dI.nil(w:World)(S:Nat->Prop):dI w S (.slice none 0 0) 0:=⟨[],cV.nil w S,by simp[Nz],rfl⟩
end
end Go.Ex
namespace Go.Ex
open Go Go.Sx Go.Proofs
noncomputable abbrev PG:Program:=Tryz.prog
def slT(e:Nat):TI:={size:=1,bytes:=24,zero:=[.slice none 0 0],agg:=false,tag:=4,elem:=e}
def GN:List (Nat×TI):=[
 (3,{size:=1,bytes:=8,zero:=[.int .i64 0],agg:=false,tag:=1,ik:=.i64}),
 (4,{size:=1,bytes:=1,zero:=[.bool false],agg:=false,tag:=2}),
 (47,{size:=4,bytes:=64,zero:=[.bool false,.slice none 0 0,.bool false,.slice none 0 0],agg:=true,tag:=5,fields:=[(0,45),(2,45)]}),
 (31,slT 47),
 (26,{size:=3,bytes:=72,zero:=[.slice none 0 0,.slice none 0 0,.slice none 0 0],agg:=true,tag:=5,fields:=[(0,22),(1,23),(2,24)]}),
 (32,{size:=1,bytes:=8,zero:=[.int .i64 0],agg:=false,tag:=1,ik:=.i64}),
 (92,slT 3),
 (45,{size:=2,bytes:=32,zero:=[.bool false,.slice none 0 0],agg:=true,tag:=5,fields:=[(0,4),(1,43)]}),
 (226,slT 220),
 (53,slT 31),
 (220,{size:=1,bytes:=4,zero:=[.int .u32 0],agg:=false,tag:=1,ik:=.u32}),
 (27,slT 147),
 (228,{size:=2,bytes:=32,zero:=[.bool false,.slice none 0 0],agg:=true,tag:=5,fields:=[(0,4),(1,226)]}),
 (253,{size:=1,bytes:=8,zero:=[.int .u64 0],agg:=false,tag:=1,ik:=.u64}),
 (151,{size:=2,bytes:=32,zero:=[.slice none 0 0,.int .i64 0],agg:=true,tag:=5,fields:=[(0,53),(1,3)]}),
 (79,slT 84),
 (230,{size:=4,bytes:=64,zero:=[.bool false,.slice none 0 0,.bool false,.slice none 0 0],agg:=true,tag:=5,fields:=[(0,228),(2,228)]}),
 (23,slT 143),
 (98,slT 123),
 (147,{size:=4,bytes:=32,zero:=[.int .i64 0,.int .i64 0,.int .i64 0,.int .i64 0],agg:=true,tag:=5,fields:=[(0,3),(1,3),(2,3),(3,3)]}),
 (91,slT 27),
 (22,slT 169),
 (64,slT 92),
 (24,slT 145),
 (43,slT 220),
 (169,{size:=3,bytes:=24,zero:=[.int .i64 0,.int .i64 0,.int .i64 0],agg:=true,tag:=5,fields:=[(0,3),(1,3),(2,3)]}),
 (143,{size:=6,bytes:=80,zero:=[.int .i64 0,.int .i64 0,.bool false,.slice none 0 0,.bool false,.slice none 0 0],agg:=true,tag:=5,fields:=[(0,3),(1,3),(2,47)]}),
 (123,{size:=8,bytes:=128,zero:=[.bool false,.slice none 0 0,.bool false,.slice none 0 0,.bool false,.slice none 0 0,.bool false,.slice none 0 0],agg:=true,tag:=5,fields:=[(0,47),(4,47)]}),
 (84,{size:=8,bytes:=128,zero:=[.bool false,.slice none 0 0,.bool false,.slice none 0 0,.bool false,.slice none 0 0,.bool false,.slice none 0 0],agg:=true,tag:=5,fields:=[(0,47),(4,47)]}),
 (154,{size:=4,bytes:=80,zero:=[.slice none 0 0,.int .i64 0,.slice none 0 0,.slice none 0 0],agg:=true,tag:=5,fields:=[(0,151),(2,92),(3,92)]}),
 (68,{size:=3,bytes:=24,zero:=[.int .i64 0,.int .i64 0,.int .i64 0],agg:=true,tag:=5,fields:=[(0,3),(1,3),(2,3)]}),
 (145,{size:=6,bytes:=80,zero:=[.int .i64 0,.int .i64 0,.bool false,.slice none 0 0,.bool false,.slice none 0 0],agg:=true,tag:=5,fields:=[(0,3),(1,3),(2,47)]}),
 (189,{size:=3,bytes:=24,zero:=[.int .i64 0,.int .i64 0,.int .i64 0],agg:=true,tag:=6,vz:=3,elem:=3}),
 (125,{size:=10,bytes:=176,zero:=[.bool false,.slice none 0 0,.bool false,.slice none 0 0,.bool false,.slice none 0 0,.bool false,.slice none 0 0,.slice none 0 0,.slice none 0 0],agg:=true,tag:=5,fields:=[(0,123),(8,92),(9,92)]}),
 (115,slT 125),
 (106,{size:=3,bytes:=56,zero:=[.int .i64 0,.slice none 0 0,.slice none 0 0],agg:=true,tag:=5,fields:=[(0,3),(1,31),(2,31)]}),
 (254,{size:=1,bytes:=8,zero:=[.int .u64 0],agg:=false,tag:=1,ik:=.u64}),
 (187,{size:=2,bytes:=16,zero:=[.int .i64 0,.int .i64 0],agg:=true,tag:=5,fields:=[(0,3),(1,3)]}),
 (185,{size:=1,bytes:=8,zero:=[.map none],agg:=false,tag:=0}),
 (87,{size:=2,bytes:=48,zero:=[.slice none 0 0,.slice none 0 0],agg:=true,tag:=6,vz:=2,elem:=27}),
 (130,{size:=2,bytes:=48,zero:=[.slice none 0 0,.slice none 0 0],agg:=true,tag:=5,fields:=[(0,92),(1,79)]}),
 (9,{size:=1,bytes:=16,zero:=[.string ⟨#[]⟩],agg:=false,tag:=3}),
 (204,{size:=1,bytes:=8,zero:=[.pointer none],agg:=false,tag:=7}),
 (224,slT 4),
 (88,{size:=2,bytes:=16,zero:=[.int .i64 0,.int .i64 0],agg:=true,tag:=6,vz:=2,elem:=3}),
 (194,{size:=80,bytes:=640,zero:=[.int .i64 0,.int .i64 0,.int .i64 0,.int .i64 0,.int .i64 0,.int .i64 0,.int .i64 0,.int .i64 0,.int .i64 0,.int .i64 0,.int .i64 0,.int .i64 0,.int .i64 0,.int .i64 0,.int .i64 0,.int .i64 0,.int .i64 0,.int .i64 0,.int .i64 0,.int .i64 0,.int .i64 0,.int .i64 0,.int .i64 0,.int .i64 0,.int .i64 0,.int .i64 0,.int .i64 0,.int .i64 0,.int .i64 0,.int .i64 0,.int .i64 0,.int .i64 0,.int .i64 0,.int .i64 0,.int .i64 0,.int .i64 0,.int .i64 0,.int .i64 0,.int .i64 0,.int .i64 0,.int .i64 0,.int .i64 0,.int .i64 0,.int .i64 0,.int .i64 0,.int .i64 0,.int .i64 0,.int .i64 0,.int .i64 0,.int .i64 0,.int .i64 0,.int .i64 0,.int .i64 0,.int .i64 0,.int .i64 0,.int .i64 0,.int .i64 0,.int .i64 0,.int .i64 0,.int .i64 0,.int .i64 0,.int .i64 0,.int .i64 0,.int .i64 0,.int .i64 0,.int .i64 0,.int .i64 0,.int .i64 0,.int .i64 0,.int .i64 0,.int .i64 0,.int .i64 0,.int .i64 0,.int .i64 0,.int .i64 0,.int .i64 0,.int .i64 0,.int .i64 0,.int .i64 0,.int .i64 0],agg:=true,tag:=6,vz:=20,elem:=147}),
 (42,{size:=1,bytes:=8,zero:=[.nilFunc],agg:=false,tag:=0}),
 (195,{size:=1,bytes:=8,zero:=[.pointer none],agg:=false,tag:=7}),
 (199,{size:=1,bytes:=8,zero:=[.nilFunc],agg:=false,tag:=0}),
 (5,{size:=1,bytes:=1,zero:=[.int .u8 0],agg:=false,tag:=1,ik:=.u8}),
 (8,{size:=4,bytes:=24,zero:=[.int .i64 0,.int .i64 0,.bool false,.int .u8 0],agg:=true,tag:=5,fields:=[(0,2),(1,3),(2,4),(3,6)]}),
 (10,{size:=1,bytes:=16,zero:=[.string ⟨#[]⟩],agg:=false,tag:=3}),
 (11,{size:=1,bytes:=16,zero:=[.string ⟨#[]⟩],agg:=false,tag:=3}),
 (14,{size:=2,bytes:=24,zero:=[.string ⟨#[]⟩,.int .u64 0],agg:=true,tag:=5,fields:=[(0,9),(1,12)]}),
 (15,{size:=1,bytes:=8,zero:=[.pointer none],agg:=false,tag:=7}),
 (16,{size:=1,bytes:=8,zero:=[.pointer none],agg:=false,tag:=7}),
 (19,{size:=1,bytes:=8,zero:=[.pointer none],agg:=true,tag:=5,fields:=[(0,17)]}),
 (17,{size:=1,bytes:=8,zero:=[.pointer none],agg:=false,tag:=7}),
 (276,{size:=1,bytes:=1,zero:=[.int .u8 0],agg:=false,tag:=1,ik:=.u8}),
 (2,{size:=1,bytes:=8,zero:=[.int .i64 0],agg:=false,tag:=1,ik:=.i64}),
 (6,{size:=1,bytes:=1,zero:=[.int .u8 0],agg:=false,tag:=1,ik:=.u8}),
 (12,{size:=1,bytes:=8,zero:=[.int .u64 0],agg:=false,tag:=1,ik:=.u64})]
def τ:kI:=tM GN
theorem hτ:eS PG τ:=FV (l:=GN) (by kernel_rfl)
theorem dH:PG.follows .mixedOrders=true:=by rfl
noncomputable def bd (f:Func):Code:=match f.body with
 |some c=>c
 |none=>.skip
theorem cM{f:FuncId}{fn:Func}{args:Array Value}{w:World}{R:Ending->World->Prop}(hf:PG.funcs[f]? =some fn)(hb:fn.body=some (bd fn))(hnm:(fn.name== "runtime.NumGoroutine")=false)
  (hn:args.size<=fn.ntmps) (hok:codeOk fn.ntmps (bd fn)=true) (h:jw PG τ w.heap.size (bd fn) (cJ 0 args.toList) [] 0 [] w (FZ τ w.heap.size fn.results.toList R)):dQ PG f args w R:=
 ⟨Bw hf hb hnm,zR hτ hf hb hn hok h⟩
abbrev T.int:Nat:=3
abbrev T.bool:Nat:=4
abbrev T.string:Nat:=9
abbrev T.Frame:Nat:=26
abbrev T.gX:Nat:=31
abbrev T.Int:Nat:=45
abbrev T.Rat:Nat:=47
abbrev T.uU:Nat:=68
abbrev T.Lint:Nat:=92
abbrev T.G6:Nat:=143
abbrev T.tY:Nat:=145
abbrev T.Gg:Nat:=147
abbrev T.dW:Nat:=151
abbrev T.db:Nat:=154
abbrev T.Node:Nat:=169
abbrev T.s4:Nat:=185
abbrev T.xx:Nat:=187
abbrev T.uint32:Nat:=220
abbrev T.nat:Nat:=226
abbrev T.number:Nat:=228
abbrev T.z8:Nat:=230
abbrev T.row:Nat:=0
abbrev N.iK:Nat:=11
abbrev N.mU:Nat:=15
abbrev N.xG:Nat:=16
abbrev N.rp:Nat:=17
abbrev N.kP:Nat:=18
abbrev N.l6:Nat:=19
abbrev N.mV:Nat:=21
abbrev N.mW:Nat:=22
abbrev N.jf:Nat:=23
abbrev N.ry:Nat:=25
abbrev N.uV:Nat:=26
abbrev N.mX:Nat:=27
abbrev N.kQ:Nat:=29
abbrev N.mY:Nat:=31
abbrev N.uW:Nat:=32
abbrev N.xH:Nat:=33
abbrev N.gl:Nat:=34
abbrev N.p8:Nat:=35
abbrev N.xI:Nat:=36
abbrev N.xJ:Nat:=37
abbrev N.oB:Nat:=39
abbrev N.oC:Nat:=42
abbrev N.jO:Nat:=43
abbrev N.p9:Nat:=45
abbrev N.jP:Nat:=60
abbrev N.kR:Nat:=61
abbrev N.rz:Nat:=69
abbrev N.oD:Nat:=72
abbrev N.xK:Nat:=74
abbrev N.od:Nat:=75
abbrev N.zc:Nat:=76
abbrev N.oE:Nat:=80
abbrev N.sA:Nat:=81
abbrev N.pc:Nat:=82
abbrev N.l7:Nat:=83
abbrev N.iL:Nat:=84
abbrev N.mZ:Nat:=85
abbrev N.ma:Nat:=86
abbrev N.gO:Nat:=87
abbrev N.gK:Nat:=88
abbrev N.mb:Nat:=89
abbrev N.pe:Nat:=90
abbrev N.mc:Nat:=91
abbrev N.oF:Nat:=92
abbrev N.sB:Nat:=94
abbrev N.sC:Nat:=98
abbrev N.sD:Nat:=99
abbrev N.pf:Nat:=100
abbrev N.kB:Nat:=101
abbrev N.pg:Nat:=103
abbrev N.uX:Nat:=105
abbrev N.ph:Nat:=106
abbrev N.xL:Nat:=107
abbrev N.uY:Nat:=108
abbrev N.sE:Nat:=109
abbrev N.pj:Nat:=110
abbrev N.xM:Nat:=111
abbrev N.uZ:Nat:=112
abbrev N.me:Nat:=113
abbrev N.iM:Nat:=114
abbrev N.mf:Nat:=115
abbrev N.eM:Nat:=116
abbrev N.sF:Nat:=117
abbrev N.qu:Nat:=118
abbrev N.jQ:Nat:=119
abbrev N.kS:Nat:=120
abbrev N.pn:Nat:=122
abbrev N.kT:Nat:=128
abbrev N.eD:Nat:=129
abbrev N.iX:Nat:=130
abbrev N.eP:Nat:=131
abbrev N.po:Nat:=132
abbrev N.iY:Nat:=133
abbrev N.pq:Nat:=134
abbrev N.qv:Nat:=139
abbrev N.iN:Nat:=140
abbrev N.oG:Nat:=141
abbrev N.pr:Nat:=142
abbrev N.sG:Nat:=143
abbrev N.pt:Nat:=144
abbrev N.sH:Nat:=145
abbrev N.lC:Nat:=146
abbrev N.iF:Nat:=147
abbrev N.jR:Nat:=148
abbrev N.sI:Nat:=149
abbrev N.qw:Nat:=150
abbrev N.xN:Nat:=152
abbrev N.lD:Nat:=153
abbrev N.oH:Nat:=154
abbrev N.sJ:Nat:=155
abbrev N.qz:Nat:=159
abbrev N.kC:Nat:=161
abbrev N.zd:Nat:=162
abbrev N.e7:Nat:=163
abbrev N.sK:Nat:=164
abbrev N.jS:Nat:=165
abbrev N.jg:Nat:=166
abbrev N.rA:Nat:=168
abbrev N.eQ:Nat:=169
abbrev N.sL:Nat:=170
abbrev N.sM:Nat:=171
abbrev N.sN:Nat:=172
abbrev N.iZ:Nat:=174
abbrev N.ia:Nat:=175
abbrev N.sO:Nat:=176
abbrev N.pw:Nat:=177
abbrev N.u5:Nat:=178
abbrev N.u6:Nat:=179
abbrev N.xO:Nat:=180
abbrev N.oI:Nat:=181
abbrev N.pz:Nat:=182
abbrev N.qA:Nat:=183
abbrev N.iO:Nat:=184
abbrev N.sP:Nat:=185
abbrev N.ic:Nat:=186
abbrev N.jh:Nat:=187
abbrev N.u7:Nat:=188
abbrev N.ji:Nat:=189
abbrev N.sQ:Nat:=190
abbrev N.u9:Nat:=191
abbrev N.jT:Nat:=192
abbrev N.kU:Nat:=193
abbrev N.iP:Nat:=194
abbrev N.jj:Nat:=195
abbrev N.jk:Nat:=196
abbrev N.jl:Nat:=197
abbrev N.jU:Nat:=198
abbrev N.qB:Nat:=199
abbrev N.kV:Nat:=200
abbrev N.l8:Nat:=201
abbrev N.mg:Nat:=202
abbrev N.oJ:Nat:=203
abbrev N.l9:Nat:=204
abbrev N.ec:Nat:=205
abbrev N.lf:Nat:=206
abbrev N.ie:Nat:=207
abbrev N.jm:Nat:=208
abbrev N.lg:Nat:=209
abbrev N.mh:Nat:=210
abbrev N.ua:Nat:=211
abbrev N.ub:Nat:=212
abbrev N.uc:Nat:=213
abbrev N.mi:Nat:=214
abbrev Ent(g:Nat)(f:Func):Prop:=∀{args:Array Value} {w:World} {R:Ending->World->Prop},args.size<=f.ntmps->jw PG τ w.heap.size (bd f) (cJ 0 args.toList) [] 0 [] w (FZ τ w.heap.size f.results.toList R)->dQ PG g args w R
theorem kW:Ent N.iK Tryz.f11:=fun hn h=>cM Tryz.func11 (by rfl) (by rfl) hn (by rfl) h
theorem ud:Ent N.mU Tryz.f15:=fun hn h=>cM Tryz.func15 (by rfl) (by rfl) hn (by rfl) h
theorem xy:Ent N.xG Tryz.f16:=fun hn h=>cM Tryz.func16 (by rfl) (by rfl) hn (by rfl) h
theorem ue:Ent N.rp Tryz.f17:=fun hn h=>cM Tryz.func17 (by rfl) (by rfl) hn (by rfl) h
theorem nc:Ent N.kP Tryz.f18:=fun hn h=>cM Tryz.func18 (by rfl) (by rfl) hn (by rfl) h
theorem oe:Ent N.l6 Tryz.f19:=fun hn h=>cM Tryz.func19 (by rfl) (by rfl) hn (by rfl) h
theorem qC:Ent N.mV Tryz.f21:=fun hn h=>cM Tryz.func21 (by rfl) (by rfl) hn (by rfl) h
theorem qD:Ent N.mW Tryz.f22:=fun hn h=>cM Tryz.func22 (by rfl) (by rfl) hn (by rfl) h
theorem uf:Ent N.jf Tryz.f23:=fun hn h=>cM Tryz.func23 (by rfl) (by rfl) hn (by rfl) h
theorem ug:Ent N.ry Tryz.f25:=fun hn h=>cM Tryz.func25 (by rfl) (by rfl) hn (by rfl) h
theorem wE:Ent N.uV Tryz.f26:=fun hn h=>cM Tryz.func26 (by rfl) (by rfl) hn (by rfl) h
theorem qE:Ent N.mX Tryz.f27:=fun hn h=>cM Tryz.func27 (by rfl) (by rfl) hn (by rfl) h
theorem nd:Ent N.kQ Tryz.f29:=fun hn h=>cM Tryz.func29 (by rfl) (by rfl) hn (by rfl) h
theorem mj:Ent N.mY Tryz.f31:=fun hn h=>cM Tryz.func31 (by rfl) (by rfl) hn (by rfl) h
theorem wF:Ent N.uW Tryz.f32:=fun hn h=>cM Tryz.func32 (by rfl) (by rfl) hn (by rfl) h
theorem xz:Ent N.xH Tryz.f33:=fun hn h=>cM Tryz.func33 (by rfl) (by rfl) hn (by rfl) h
theorem s5:Ent N.gl Tryz.f34:=fun hn h=>cM Tryz.func34 (by rfl) (by rfl) hn (by rfl) h
theorem s6:Ent N.p8 Tryz.f35:=fun hn h=>cM Tryz.func35 (by rfl) (by rfl) hn (by rfl) h
theorem yA:Ent N.xI Tryz.f36:=fun hn h=>cM Tryz.func36 (by rfl) (by rfl) hn (by rfl) h
theorem yB:Ent N.xJ Tryz.f37:=fun hn h=>cM Tryz.func37 (by rfl) (by rfl) hn (by rfl) h
theorem rB:Ent N.oB Tryz.f39:=fun hn h=>cM Tryz.func39 (by rfl) (by rfl) hn (by rfl) h
theorem rC:Ent N.oC Tryz.f42:=fun hn h=>cM Tryz.func42 (by rfl) (by rfl) hn (by rfl) h
theorem lj:Ent N.jO Tryz.f43:=fun hn h=>cM Tryz.func43 (by rfl) (by rfl) hn (by rfl) h
theorem s7:Ent N.p9 Tryz.f45:=fun hn h=>cM Tryz.func45 (by rfl) (by rfl) hn (by rfl) h
theorem lk:Ent N.jP Tryz.f60:=fun hn h=>cM Tryz.func60 (by rfl) (by rfl) hn (by rfl) h
theorem nf:Ent N.kR Tryz.f61:=fun hn h=>cM Tryz.func61 (by rfl) (by rfl) hn (by rfl) h
theorem uh:Ent N.rz Tryz.f69:=fun hn h=>cM Tryz.func69 (by rfl) (by rfl) hn (by rfl) h
theorem rD:Ent N.oD Tryz.f72:=fun hn h=>cM Tryz.func72 (by rfl) (by rfl) hn (by rfl) h
theorem yC:Ent N.xK Tryz.f74:=fun hn h=>cM Tryz.func74 (by rfl) (by rfl) hn (by rfl) h
theorem oK:Ent N.od Tryz.f75:=fun hn h=>cM Tryz.func75 (by rfl) (by rfl) hn (by rfl) h
theorem zf:Ent N.zc Tryz.f76:=fun hn h=>cM Tryz.func76 (by rfl) (by rfl) hn (by rfl) h
theorem rE:Ent N.oE Tryz.f80:=fun hn h=>cM Tryz.func80 (by rfl) (by rfl) hn (by rfl) h
theorem ui:Ent N.sA Tryz.f81:=fun hn h=>cM Tryz.func81 (by rfl) (by rfl) hn (by rfl) h
theorem s8:Ent N.pc Tryz.f82:=fun hn h=>cM Tryz.func82 (by rfl) (by rfl) hn (by rfl) h
theorem og:Ent N.l7 Tryz.f83:=fun hn h=>cM Tryz.func83 (by rfl) (by rfl) hn (by rfl) h
theorem kX:Ent N.iL Tryz.f84:=fun hn h=>cM Tryz.func84 (by rfl) (by rfl) hn (by rfl) h
theorem qF:Ent N.mZ Tryz.f85:=fun hn h=>cM Tryz.func85 (by rfl) (by rfl) hn (by rfl) h
theorem qG:Ent N.ma Tryz.f86:=fun hn h=>cM Tryz.func86 (by rfl) (by rfl) hn (by rfl) h
theorem jB:Ent N.gO Tryz.f87:=fun hn h=>cM Tryz.func87 (by rfl) (by rfl) hn (by rfl) h
theorem lE:Ent N.gK Tryz.f88:=fun hn h=>cM Tryz.func88 (by rfl) (by rfl) hn (by rfl) h
theorem qH:Ent N.mb Tryz.f89:=fun hn h=>cM Tryz.func89 (by rfl) (by rfl) hn (by rfl) h
theorem s9:Ent N.pe Tryz.f90:=fun hn h=>cM Tryz.func90 (by rfl) (by rfl) hn (by rfl) h
theorem qI:Ent N.mc Tryz.f91:=fun hn h=>cM Tryz.func91 (by rfl) (by rfl) hn (by rfl) h
theorem rF:Ent N.oF Tryz.f92:=fun hn h=>cM Tryz.func92 (by rfl) (by rfl) hn (by rfl) h
theorem uj:Ent N.sB Tryz.f94:=fun hn h=>cM Tryz.func94 (by rfl) (by rfl) hn (by rfl) h
theorem uk:Ent N.sC Tryz.f98:=fun hn h=>cM Tryz.func98 (by rfl) (by rfl) hn (by rfl) h
theorem uo:Ent N.sD Tryz.f99:=fun hn h=>cM Tryz.func99 (by rfl) (by rfl) hn (by rfl) h
theorem sd:Ent N.pf Tryz.f100:=fun hn h=>cM Tryz.func100 (by rfl) (by rfl) hn (by rfl) h
theorem rG:Ent N.kB Tryz.f101:=fun hn h=>cM Tryz.func101 (by rfl) (by rfl) hn (by rfl) h
theorem se:Ent N.pg Tryz.f103:=fun hn h=>cM Tryz.func103 (by rfl) (by rfl) hn (by rfl) h
theorem wG:Ent N.uX Tryz.f105:=fun hn h=>cM Tryz.func105 (by rfl) (by rfl) hn (by rfl) h
theorem sf:Ent N.ph Tryz.f106:=fun hn h=>cM Tryz.func106 (by rfl) (by rfl) hn (by rfl) h
theorem yD:Ent N.xL Tryz.f107:=fun hn h=>cM Tryz.func107 (by rfl) (by rfl) hn (by rfl) h
theorem wH:Ent N.uY Tryz.f108:=fun hn h=>cM Tryz.func108 (by rfl) (by rfl) hn (by rfl) h
theorem uq:Ent N.sE Tryz.f109:=fun hn h=>cM Tryz.func109 (by rfl) (by rfl) hn (by rfl) h
theorem sh:Ent N.pj Tryz.f110:=fun hn h=>cM Tryz.func110 (by rfl) (by rfl) hn (by rfl) h
theorem yE:Ent N.xM Tryz.f111:=fun hn h=>cM Tryz.func111 (by rfl) (by rfl) hn (by rfl) h
theorem wI:Ent N.uZ Tryz.f112:=fun hn h=>cM Tryz.func112 (by rfl) (by rfl) hn (by rfl) h
theorem qJ:Ent N.me Tryz.f113:=fun hn h=>cM Tryz.func113 (by rfl) (by rfl) hn (by rfl) h
theorem kY:Ent N.iM Tryz.f114:=fun hn h=>cM Tryz.func114 (by rfl) (by rfl) hn (by rfl) h
theorem qK:Ent N.mf Tryz.f115:=fun hn h=>cM Tryz.func115 (by rfl) (by rfl) hn (by rfl) h
theorem fW:Ent N.eM Tryz.f116:=fun hn h=>cM Tryz.func116 (by rfl) (by rfl) hn (by rfl) h
theorem uu:Ent N.sF Tryz.f117:=fun hn h=>cM Tryz.func117 (by rfl) (by rfl) hn (by rfl) h
theorem yF:Ent N.qu Tryz.f118:=fun hn h=>cM Tryz.func118 (by rfl) (by rfl) hn (by rfl) h
theorem ll:Ent N.jQ Tryz.f119:=fun hn h=>cM Tryz.func119 (by rfl) (by rfl) hn (by rfl) h
theorem nh:Ent N.kS Tryz.f120:=fun hn h=>cM Tryz.func120 (by rfl) (by rfl) hn (by rfl) h
theorem si:Ent N.pn Tryz.f122:=fun hn h=>cM Tryz.func122 (by rfl) (by rfl) hn (by rfl) h
theorem ni:Ent N.kT Tryz.f128:=fun hn h=>cM Tryz.func128 (by rfl) (by rfl) hn (by rfl) h
theorem fP:Ent N.eD Tryz.f129:=fun hn h=>cM Tryz.func129 (by rfl) (by rfl) hn (by rfl) h
theorem lF:Ent N.iX Tryz.f130:=fun hn h=>cM Tryz.func130 (by rfl) (by rfl) hn (by rfl) h
theorem kZ:Ent N.eP Tryz.f131:=fun hn h=>cM Tryz.func131 (by rfl) (by rfl) hn (by rfl) h
theorem sj:Ent N.po Tryz.f132:=fun hn h=>cM Tryz.func132 (by rfl) (by rfl) hn (by rfl) h
theorem lG:Ent N.iY Tryz.f133:=fun hn h=>cM Tryz.func133 (by rfl) (by rfl) hn (by rfl) h
theorem sk:Ent N.pq Tryz.f134:=fun hn h=>cM Tryz.func134 (by rfl) (by rfl) hn (by rfl) h
theorem yG:Ent N.qv Tryz.f139:=fun hn h=>cM Tryz.func139 (by rfl) (by rfl) hn (by rfl) h
theorem k5:Ent N.iN Tryz.f140:=fun hn h=>cM Tryz.func140 (by rfl) (by rfl) hn (by rfl) h
theorem rH:Ent N.oG Tryz.f141:=fun hn h=>cM Tryz.func141 (by rfl) (by rfl) hn (by rfl) h
theorem sn:Ent N.pr Tryz.f142:=fun hn h=>cM Tryz.func142 (by rfl) (by rfl) hn (by rfl) h
theorem uw:Ent N.sG Tryz.f143:=fun hn h=>cM Tryz.func143 (by rfl) (by rfl) hn (by rfl) h
theorem so:Ent N.pt Tryz.f144:=fun hn h=>cM Tryz.func144 (by rfl) (by rfl) hn (by rfl) h
theorem ux:Ent N.sH Tryz.f145:=fun hn h=>cM Tryz.func145 (by rfl) (by rfl) hn (by rfl) h
theorem ss:Ent N.lC Tryz.f146:=fun hn h=>cM Tryz.func146 (by rfl) (by rfl) hn (by rfl) h
theorem rI:Ent N.iF Tryz.f147:=fun hn h=>cM Tryz.func147 (by rfl) (by rfl) hn (by rfl) h
theorem lr:Ent N.jR Tryz.f148:=fun hn h=>cM Tryz.func148 (by rfl) (by rfl) hn (by rfl) h
theorem uy:Ent N.sI Tryz.f149:=fun hn h=>cM Tryz.func149 (by rfl) (by rfl) hn (by rfl) h
theorem yH:Ent N.qw Tryz.f150:=fun hn h=>cM Tryz.func150 (by rfl) (by rfl) hn (by rfl) h
theorem yI:Ent N.xN Tryz.f152:=fun hn h=>cM Tryz.func152 (by rfl) (by rfl) hn (by rfl) h
theorem sw:Ent N.lD Tryz.f153:=fun hn h=>cM Tryz.func153 (by rfl) (by rfl) hn (by rfl) h
theorem rJ:Ent N.oH Tryz.f154:=fun hn h=>cM Tryz.func154 (by rfl) (by rfl) hn (by rfl) h
theorem uz:Ent N.sJ Tryz.f155:=fun hn h=>cM Tryz.func155 (by rfl) (by rfl) hn (by rfl) h
theorem yJ:Ent N.qz Tryz.f159:=fun hn h=>cM Tryz.func159 (by rfl) (by rfl) hn (by rfl) h
theorem rK:Ent N.kC Tryz.f161:=fun hn h=>cM Tryz.func161 (by rfl) (by rfl) hn (by rfl) h
theorem zg:Ent N.zd Tryz.f162:=fun hn h=>cM Tryz.func162 (by rfl) (by rfl) hn (by rfl) h
theorem fo:Ent N.e7 Tryz.f163:=fun hn h=>cM Tryz.func163 (by rfl) (by rfl) hn (by rfl) h
theorem vA:Ent N.sK Tryz.f164:=fun hn h=>cM Tryz.func164 (by rfl) (by rfl) hn (by rfl) h
theorem lu:Ent N.jS Tryz.f165:=fun hn h=>cM Tryz.func165 (by rfl) (by rfl) hn (by rfl) h
theorem ml:Ent N.jg Tryz.f166:=fun hn h=>cM Tryz.func166 (by rfl) (by rfl) hn (by rfl) h
theorem yK:Ent N.rA Tryz.f168:=fun hn h=>cM Tryz.func168 (by rfl) (by rfl) hn (by rfl) h
theorem fa:Ent N.eQ Tryz.f169:=fun hn h=>cM Tryz.func169 (by rfl) (by rfl) hn (by rfl) h
theorem vB:Ent N.sL Tryz.f170:=fun hn h=>cM Tryz.func170 (by rfl) (by rfl) hn (by rfl) h
theorem vC:Ent N.sM Tryz.f171:=fun hn h=>cM Tryz.func171 (by rfl) (by rfl) hn (by rfl) h
theorem vD:Ent N.sN Tryz.f172:=fun hn h=>cM Tryz.func172 (by rfl) (by rfl) hn (by rfl) h
theorem lH:Ent N.iZ Tryz.f174:=fun hn h=>cM Tryz.func174 (by rfl) (by rfl) hn (by rfl) h
theorem lI:Ent N.ia Tryz.f175:=fun hn h=>cM Tryz.func175 (by rfl) (by rfl) hn (by rfl) h
theorem vE:Ent N.sO Tryz.f176:=fun hn h=>cM Tryz.func176 (by rfl) (by rfl) hn (by rfl) h
theorem tA:Ent N.pw Tryz.f177:=fun hn h=>cM Tryz.func177 (by rfl) (by rfl) hn (by rfl) h
theorem wJ:Ent N.u5 Tryz.f178:=fun hn h=>cM Tryz.func178 (by rfl) (by rfl) hn (by rfl) h
theorem wK:Ent N.u6 Tryz.f179:=fun hn h=>cM Tryz.func179 (by rfl) (by rfl) hn (by rfl) h
theorem yL:Ent N.xO Tryz.f180:=fun hn h=>cM Tryz.func180 (by rfl) (by rfl) hn (by rfl) h
theorem rL:Ent N.oI Tryz.f181:=fun hn h=>cM Tryz.func181 (by rfl) (by rfl) hn (by rfl) h
theorem tB:Ent N.pz Tryz.f182:=fun hn h=>cM Tryz.func182 (by rfl) (by rfl) hn (by rfl) h
theorem tC:Ent N.qA Tryz.f183:=fun hn h=>cM Tryz.func183 (by rfl) (by rfl) hn (by rfl) h
theorem k6:Ent N.iO Tryz.f184:=fun hn h=>cM Tryz.func184 (by rfl) (by rfl) hn (by rfl) h
theorem vF:Ent N.sP Tryz.f185:=fun hn h=>cM Tryz.func185 (by rfl) (by rfl) hn (by rfl) h
theorem lJ:Ent N.ic Tryz.f186:=fun hn h=>cM Tryz.func186 (by rfl) (by rfl) hn (by rfl) h
theorem mm:Ent N.jh Tryz.f187:=fun hn h=>cM Tryz.func187 (by rfl) (by rfl) hn (by rfl) h
theorem zh:Ent N.u7 Tryz.f188:=fun hn h=>cM Tryz.func188 (by rfl) (by rfl) hn (by rfl) h
theorem mn:Ent N.ji Tryz.f189:=fun hn h=>cM Tryz.func189 (by rfl) (by rfl) hn (by rfl) h
theorem vG:Ent N.sQ Tryz.f190:=fun hn h=>cM Tryz.func190 (by rfl) (by rfl) hn (by rfl) h
theorem wL:Ent N.u9 Tryz.f191:=fun hn h=>cM Tryz.func191 (by rfl) (by rfl) hn (by rfl) h
theorem lz:Ent N.jT Tryz.f192:=fun hn h=>cM Tryz.func192 (by rfl) (by rfl) hn (by rfl) h
theorem nk:Ent N.kU Tryz.f193:=fun hn h=>cM Tryz.func193 (by rfl) (by rfl) hn (by rfl) h
theorem k7:Ent N.iP Tryz.f194:=fun hn h=>cM Tryz.func194 (by rfl) (by rfl) hn (by rfl) h
theorem mo:Ent N.jj Tryz.f195:=fun hn h=>cM Tryz.func195 (by rfl) (by rfl) hn (by rfl) h
theorem mq:Ent N.jk Tryz.f196:=fun hn h=>cM Tryz.func196 (by rfl) (by rfl) hn (by rfl) h
theorem mr:Ent N.jl Tryz.f197:=fun hn h=>cM Tryz.func197 (by rfl) (by rfl) hn (by rfl) h
theorem mA:Ent N.jU Tryz.f198:=fun hn h=>cM Tryz.func198 (by rfl) (by rfl) hn (by rfl) h
theorem tD:Ent N.qB Tryz.f199:=fun hn h=>cM Tryz.func199 (by rfl) (by rfl) hn (by rfl) h
theorem nm:Ent N.kV Tryz.f200:=fun hn h=>cM Tryz.func200 (by rfl) (by rfl) hn (by rfl) h
theorem oh:Ent N.l8 Tryz.f201:=fun hn h=>cM Tryz.func201 (by rfl) (by rfl) hn (by rfl) h
theorem qL:Ent N.mg Tryz.f202:=fun hn h=>cM Tryz.func202 (by rfl) (by rfl) hn (by rfl) h
theorem rM:Ent N.oJ Tryz.f203:=fun hn h=>cM Tryz.func203 (by rfl) (by rfl) hn (by rfl) h
theorem om:Ent N.l9 Tryz.f204:=fun hn h=>cM Tryz.func204 (by rfl) (by rfl) hn (by rfl) h
theorem fy:Ent N.ec Tryz.f205:=fun hn h=>cM Tryz.func205 (by rfl) (by rfl) hn (by rfl) h
theorem oo:Ent N.lf Tryz.f206:=fun hn h=>cM Tryz.func206 (by rfl) (by rfl) hn (by rfl) h
theorem lK:Ent N.ie Tryz.f207:=fun hn h=>cM Tryz.func207 (by rfl) (by rfl) hn (by rfl) h
theorem mu:Ent N.jm Tryz.f208:=fun hn h=>cM Tryz.func208 (by rfl) (by rfl) hn (by rfl) h
theorem oq:Ent N.lg Tryz.f209:=fun hn h=>cM Tryz.func209 (by rfl) (by rfl) hn (by rfl) h
theorem qM:Ent N.mh Tryz.f210:=fun hn h=>cM Tryz.func210 (by rfl) (by rfl) hn (by rfl) h
theorem wM:Ent N.ua Tryz.f211:=fun hn h=>cM Tryz.func211 (by rfl) (by rfl) hn (by rfl) h
theorem wN:Ent N.ub Tryz.f212:=fun hn h=>cM Tryz.func212 (by rfl) (by rfl) hn (by rfl) h
theorem wO:Ent N.uc Tryz.f213:=fun hn h=>cM Tryz.func213 (by rfl) (by rfl) hn (by rfl) h
theorem qN:Ent N.mi Tryz.f214:=fun hn h=>cM Tryz.func214 (by rfl) (by rfl) hn (by rfl) h
theorem ig{S:Nat->Prop}{H:Hp}{nx:Nat}{iv:Iv}{w w1 w':World}{ρ:Nat->Sx.dN}(hS:Old S w)(hw:cF w.heap.size w w1)(r:Rel H nx iv w.heap.size w1 ρ w'){ad:Addr}{j:Nat}{x:Value}(hs:S ad.block)(h:w.cell? (ad.add j)=some x):w'.cell? (ad.add j)=some x:=by
 rw[(hw.tr r.bs).cell (by rw[cC];exact hS _ hs)];exact h
theorem zi(a:Option Addr)(c:Nat):(if (c:Int)=0 then a else a.map fun x=>x.add (Int.toNat 0*1))=a:=by
 split
 ·rfl
 ·cases a<;>rfl
theorem tE{ls:List Nat}{k:Nat}(h:ls[k]? =some 0):dG (ls.take (k+1))=dG (ls.take k):=by
 rw[List.take_add_one,h];exact iU _
theorem wP{ls:List Nat}{k x:Nat}(h:ls[k]? =some x)(hx:x≠0):dG (ls.take (k+1))=ls.take (k+1):=by
 rw[List.take_add_one,h];exact kx _ hx
theorem eK{S:Nat->Prop}{w:World}{v:Value}{ls:List Nat}(hS:Old S w)(h:cV w S v ls):dQ PG N.jl #[v] w (dU w fun v' w2=>cV w2 S v' (dG ls)):=by
 obtain⟨a,c,rfl,hlc,hc⟩:=h.sl;have hle:=h.le;have hlm:=h.lm;refine mr (by simp) ?_;conv=>whnf
 refine⟨Nat×World,fun x=>⟨[(0,.o (.v (.slice a x.1 c)))],[],0,[],x.2⟩,fun x=>x.1,
  fun x=>x.1<=ls.length∧cF w.heap.size w x.2∧dG ls=dG (ls.take x.1),?_,?_⟩
 ·intro ρ w' r;exact⟨(ls.length,w'),⟨aI _,r.bs,by simp⟩,Sub.reset r ⟨rfl,trivial⟩ ⟨trivial,trivial⟩⟩
 ·rintro⟨k,w1⟩ ⟨hk,hw,hF⟩;dsimp only at hk hw hF ⊢;have hdone:cF w.heap.size w w1->dG ls=ls.take k->∀ρ w2,Rel [] 0 [] w.heap.size w1 ρ w2->cV w2 S (.slice a k c) (dG ls):=fun hw he ρ w2 r=>by
   rw[he];refine⟨hlm.take k,by simp;omega,a,c,by simp;omega,by simp;omega,fun j x hx=>?_⟩;have hjk:j<k:=by
    have:=(aE.1 hx).1;simp at this;omega
   rw[bQ hjk]at hx;obtain⟨ad,h1,h2,h3⟩:=hc j x hx;exact⟨ad,h1,h2,ig hS hw r h2 h3⟩
  conv=>whnf
  refine cW.mk (fun h=>?_) (fun h=>?_)
  ·have h:0<k:=by simpa using h
   obtain⟨k,rfl⟩:∃q,k=q+1:=⟨k-1,by omega⟩
   obtain⟨x,hx⟩:∃x,ls[k]? =some x:=⟨_,aA (by omega)⟩
   obtain⟨ad,ha,hs,hx1⟩:=hc k x hx;conv=>whnf
   refine⟨(k:Int),by rw[wrap64]<;>omega,?_⟩;conv=>whnf
   refine⟨ad,ha,⟨by omega,by omega⟩,?_⟩;conv=>whnf
   refine⟨.int .u32 x,fun ρ w' r=>by rw[aB,aR];exact ig hS hw r hs hx1,?_⟩;conv=>whnf
   refine cW.mk (fun h2=>?_) (fun h2=>?_)
   ·have h2:x=0:=by have:=eq_of_beq h2;omega
    subst h2;conv=>whnf
    refine⟨(k:Int),by rw[wrap64]<;>omega,?_⟩;conv=>whnf
    refine⟨⟨by omega,by omega,by omega⟩,a,k,c,zi a c,by simp,by simp,?_⟩;conv=>whnf
    intro ρ w2 r;exact⟨(k,w2),⟨by dsimp only;omega,hw.tr r.bs,hF.trans (tE hx)⟩,Sub.reset r ⟨rfl,trivial⟩ ⟨trivial,trivial⟩,by dsimp only;omega⟩
   ·have h2:x≠0:=by intro e;subst e;simp at h2
    conv=>whnf
    intro ρ w2 r;exact⟨_,rfl,hw.tr r.bs,hdone hw (by rw[hF,wP hx h2]) ρ w2 r⟩
  ·have h:k=0:=by
    have:¬0<k:=by simpa using h
    omega
   subst h;conv=>whnf
   intro ρ w2 r;exact⟨_,rfl,hw.tr r.bs,hdone hw (by rw[hF];simp[dG]) ρ w2 r⟩
theorem de{n:Nat}(h:n<18446744073709551616):IntKind.u64.wrap (n:Int)=(n:Int):=tO (by omega) (by omega)
theorem eC(n:Nat):IntKind.u32.wrap (n:Int)=((n % 4294967296:Nat):Int):=by
 show((n:Int) % 4294967296)=_;omega
theorem ofInt32(x:Nat):BitVec.ofInt 32 (x:Int)=BitVec.ofNat 32 x:=by
 apply BitVec.eq_of_toNat_eq;simp
theorem nD{y:Nat}(x:Nat)(hy:y<4294967296):x &&& y<4294967296:=Nat.lt_of_le_of_lt Nat.and_le_right hy
theorem nE{x y:Nat}(hx:x<4294967296)(hy:y<4294967296):x ^^^ y<4294967296:=Nat.xor_lt_two_pow (n:=32) hx hy
theorem yf{x y:Nat}(hx:x<4294967296)(hy:y<4294967296):x ||| y<4294967296:=Nat.or_lt_two_pow (n:=32) hx hy
theorem FM{x y:Nat}(hx:x<4294967296)(hy:y<4294967296):IntKind.u32.wrap ((BitVec.ofInt IntKind.u32.bits x &&& BitVec.ofInt IntKind.u32.bits y).toNat:Int)=((x &&& y:Nat):Int):=by
 show IntKind.u32.wrap ((BitVec.ofInt 32 x &&& BitVec.ofInt 32 y).toNat:Int)=_;rw[ofInt32,ofInt32,BitVec.toNat_and,BitVec.toNat_ofNat,BitVec.toNat_ofNat,bD hx,bD hy,eC,bD (nD x hy)]
theorem GY{x y:Nat}(hx:x<4294967296)(hy:y<4294967296):IntKind.u32.wrap ((BitVec.ofInt IntKind.u32.bits x ||| BitVec.ofInt IntKind.u32.bits y).toNat:Int)=((x ||| y:Nat):Int):=by
 show IntKind.u32.wrap ((BitVec.ofInt 32 x ||| BitVec.ofInt 32 y).toNat:Int)=_;rw[ofInt32,ofInt32,BitVec.toNat_or,BitVec.toNat_ofNat,BitVec.toNat_ofNat,bD hx,bD hy,eC,bD (yf hx hy)]
theorem FN{x y:Nat}(hx:x<4294967296)(hy:y<4294967296):IntKind.u32.wrap ((BitVec.ofInt IntKind.u32.bits x ^^^ BitVec.ofInt IntKind.u32.bits y).toNat:Int)=((x ^^^ y:Nat):Int):=by
 show IntKind.u32.wrap ((BitVec.ofInt 32 x ^^^ BitVec.ofInt 32 y).toNat:Int)=_;rw[ofInt32,ofInt32,BitVec.toNat_xor,BitVec.toNat_ofNat,BitVec.toNat_ofNat,bD hx,bD hy,eC,bD (nE hx hy)]
theorem FO{x:Nat}(hx:x<4294967296):IntKind.u32.wrap ((BitVec.ofInt IntKind.u32.bits (if IntKind.u32.signed=true then -1 else IntKind.u32.max) ^^^ BitVec.ofInt IntKind.u32.bits x).toNat:Int)=((4294967295 ^^^ x:Nat):Int):=
 FN (x:=4294967295) (by decide) hx
theorem j3{x:Nat}(k:Nat)(hk:k<=63):(x:Int).fdiv (2^min (Int.toNat (k:Int)) IntKind.u64.bits)=((x / 2^k:Nat):Int):=by
 have h1:min (Int.toNat (k:Int)) IntKind.u64.bits=k:=by show min (Int.toNat (k:Int)) 64=k;omega
 rw[h1,Int.fdiv_eq_ediv_of_nonneg _ (by exact Int.le_of_lt (Int.pow_pos (by decide)))];simp
theorem lM{x:Nat}(k:Nat)(hk:k<=31):(x:Int).fdiv (2^min (Int.toNat (k:Int)) IntKind.u32.bits)=((x / 2^k:Nat):Int):=by
 have h1:min (Int.toNat (k:Int)) IntKind.u32.bits=k:=by show min (Int.toNat (k:Int)) 32=k;omega
 rw[h1,Int.fdiv_eq_ediv_of_nonneg _ (by exact Int.le_of_lt (Int.pow_pos (by decide)))];simp
theorem Er{z:Nat}(h:z<4294967296):z.testBit 31=decide (2147483648<=z):=by
 rw[Nat.testBit_eq_decide_div_mod_eq];apply decide_eq_decide.2;show z / 2147483648 % 2=1↔_;omega
theorem borrow{x y c d:Nat}(hx:x<4294967296)(hy:y<4294967296)(hc:c<=1)(hd:(x+4294967296-(y+c)) % 4294967296=d):
  (((4294967295 ^^^ x) &&& y) ||| ((4294967295 ^^^ (x ^^^ y)) &&& d)) / 2^31=if x<y+c then 1 else 0:=by
 have hd2:d<4294967296:=by omega
 have hz:=yf (nD (4294967295 ^^^ x) hy) (nD (4294967295 ^^^ (x ^^^ y)) hd2);have ht:=Er hz;have hm:Nat.testBit 4294967295 31=true:=by decide
 rw[Nat.testBit_or,Nat.testBit_and,Nat.testBit_and,Nat.testBit_xor,Nat.testBit_xor,Nat.testBit_xor,hm,Er hx,Er hy,Er hd2]at ht;generalize (((4294967295 ^^^ x) &&& y) ||| ((4294967295 ^^^ (x ^^^ y)) &&& d))=z at hz ht;show z / 2147483648=_;by_cases h1:2147483648<=x<;>by_cases h2:2147483648<=y<;>by_cases h3:2147483648<=d<;>simp[h1,h2,h3]at ht<;>split<;>omega
theorem Bn(x y c:Nat)(w:World)(hx:x<4294967296)(hy:y<4294967296)(hc:c<4294967296):
  dQ PG N.ua #[.int .u32 x,.int .u32 y,.int .u32 c] w (dU w fun v _=>v= .tuple #[.int .u32 ((x+y+c) % 4294967296:Nat),.int .u32 ((x+y+c) / 4294967296:Nat)]):=by
 refine wM (by simp) ?_;conv=>whnf
 refine⟨(x:Int),de (by omega),?_⟩;conv=>whnf
 refine⟨(y:Int),de (by omega),?_⟩;conv=>whnf
 refine⟨((x+y:Nat):Int),by rw[tO]<;>omega,?_⟩;conv=>whnf
 refine⟨(c:Int),de (by omega),?_⟩;conv=>whnf
 refine⟨((x+y+c:Nat):Int),by rw[tO]<;>omega,?_⟩;conv=>whnf
 refine⟨(((x+y+c) % 4294967296:Nat):Int),eC _,?_⟩;conv=>whnf
 refine⟨by decide,(((x+y+c) / 4294967296:Nat):Int),?_,?_⟩
 ·exact j3 32 (by decide)
 conv=>whnf
 refine⟨(((x+y+c) / 4294967296:Nat):Int),by rw[eC];omega,?_⟩;conv=>whnf
 intro ρ w3 r;exact⟨_,rfl,r.bs,rfl⟩
theorem Bo(x y c:Nat)(w:World)(hx:x<4294967296)(hy:y<4294967296)(hc:c<=1):
  dQ PG N.ub #[.int .u32 x,.int .u32 y,.int .u32 c] w (dU w fun v _=>v= .tuple #[.int .u32 ((x+4294967296-(y+c)) % 4294967296:Nat),.int .u32 ((if x<y+c then 1 else 0:Nat):Int)]):=by
 refine wN (by simp) ?_;conv=>whnf
 refine⟨((x+4294967296-y) % 4294967296:Nat),?_,?_⟩
 ·show((x:Int)-y) % 4294967296=_;omega
 conv=>whnf
 refine⟨((x+4294967296-(y+c)) % 4294967296:Nat),?_,?_⟩
 ·show((((x+4294967296-y) % 4294967296:Nat):Int)-c) % 4294967296=_;omega
 conv=>whnf
 have h6:(x+4294967296-(y+c)) % 4294967296<4294967296:=bc _ (by decide);generalize hd:(x+4294967296-(y+c)) % 4294967296=d at h6;refine⟨((4294967295 ^^^ x:Nat):Int),FO hx,?_⟩;conv=>whnf
 refine⟨(((4294967295 ^^^ x) &&& y:Nat):Int),FM (nE (by decide) hx) hy,?_⟩;conv=>whnf
 refine⟨((x ^^^ y:Nat):Int),FN hx hy,?_⟩;conv=>whnf
 refine⟨((4294967295 ^^^ (x ^^^ y):Nat):Int),FO (nE hx hy),?_⟩;conv=>whnf
 refine⟨(((4294967295 ^^^ (x ^^^ y)) &&& d:Nat):Int),FM (nE (by decide) (nE hx hy)) h6,?_⟩;conv=>whnf
 refine⟨((((4294967295 ^^^ x) &&& y) ||| ((4294967295 ^^^ (x ^^^ y)) &&& d):Nat):Int),GY (nD _ hy) (nD _ h6),?_⟩;conv=>whnf
 refine⟨by decide,((if x<y+c then 1 else 0:Nat):Int),?_,?_⟩
 ·rw[<-borrow hx hy hc hd];exact lM 31 (by decide)
 conv=>whnf
 intro ρ w3 r;exact⟨_,rfl,r.bs,rfl⟩
def ot(n m:Nat):Int:=if n<m then -1 else if m<n then 1 else 0
theorem FP{a b:List Nat}{i x y:Nat}(ha:Lm a)(hl:a.length=b.length)(hx:a[i]? =some x)(hy:b[i]? =some y)(h:a.drop (i+1)=b.drop (i+1))(hlt:x<y):val a<val b:=by
 have hi:=(aE.1 hx).1;have h1:=dm a i (by omega);have h2:=dm b i (by omega);rw[gL hx]at h1;rw[gL hy,<-h]at h2;have h3:=kv (ha.take i);rw[aW,Nat.min_eq_left (by omega)]at h3;generalize val (a.drop (i+1))=q at h1 h2;have h4:wt i*(x+4294967296*q+1)<=wt i*(y+4294967296*q):=bO _ (by omega);rw[bJ,aR]at h4;omega
theorem DV{S:Nat->Prop}{w:World}{v u:Value}{n m:Nat}(hS:Old S w)(hn:dI w S v n)(hm:dI w S u m):dQ PG N.oJ #[v,u] w (dU w fun v' _=>v'= .int .i64 (ot n m)):=by
 obtain⟨ls,h1,nz1,rfl⟩:=hn;obtain⟨ms,h2,nz2,rfl⟩:=hm;obtain⟨a,c,rfl,_,ha⟩:=h1.sl;obtain⟨b,e,rfl,_,hb⟩:=h2.sl;have hle1:=h1.le;have hle2:=h2.le;have lm1:=h1.lm;have lm2:=h2.lm;refine rM (by simp) ?_;conv=>whnf
 refine cW.mk (fun h=>?_) (fun h=>?_)
 ·have h:ls.length≠ms.length:=by intro e;rw[e]at h;simp at h
  conv=>whnf
  refine cW.mk (fun h3=>?_) (fun h3=>?_)
  ·have h3:ls.length<ms.length:=by simpa using h3
   conv=>whnf
   intro ρ w2 r;exact⟨_,rfl,r.bs,by rw[ot,aQ (gF lm1 nz2 h3)];rfl⟩
  ·have h3:ms.length<ls.length:=by
    have:¬ls.length<ms.length:=by simpa using h3
    omega
   have h4:=gF lm2 nz1 h3;conv=>whnf
   intro ρ w2 r;exact⟨_,rfl,r.bs,by rw[ot,aL (by omega),aQ h4];rfl⟩
 ·have h:ls.length=ms.length:=by
   have:(ls.length:Int)=ms.length:=by simpa using h
   omega
  conv=>whnf
  refine⟨(ls.length:Int)-1,by rw[wrap64]<;>omega,?_⟩;conv=>whnf
  refine⟨Nat×World,fun x=>⟨[(0,.o (.v (.slice a ls.length c))),(1,.o (.v (.slice b ms.length e))),(5,.o (.v (.int .i64 ((x.1:Int)-1))))],[],0,[],x.2⟩,fun x=>x.1,
   fun x=>x.1<=ls.length∧cF w.heap.size w x.2∧ls.drop x.1=ms.drop x.1,?_,?_⟩
  ·intro ρ w' r;exact⟨(ls.length,w'),⟨aI _,r.bs,by rw[List.drop_length,h,List.drop_length]⟩,Sub.reset r ⟨rfl,rfl,rfl,trivial⟩ ⟨trivial,trivial,trivial,trivial⟩⟩
  ·rintro⟨k,w1⟩ ⟨hk,hw,hd⟩;dsimp only at hk hw hd ⊢;conv=>whnf
   refine cW.mk (fun h3=>?_) (fun h3=>?_)
   ·have h3:(k:Int)-1≥0:=aG h3;obtain⟨k,rfl⟩:∃q,k=q+1:=⟨k-1,by omega⟩
    rw[show ((k+1:Nat):Int)-1=(k:Int) by omega];obtain⟨x,hx⟩:∃x,ls[k]? =some x:=⟨_,aA (by omega)⟩
    obtain⟨y,hy⟩:∃x,ms[k]? =some x:=⟨_,aA (by omega)⟩
    obtain⟨ad,had,hs,hc1⟩:=ha k x hx;obtain⟨ad2,had2,hs2,hc2⟩:=hb k y hy;have hlx:∀ρ w',Rel [] 0 [] w.heap.size w1 ρ w'->w'.cell? (ad.add ((k:Int).toNat*1))=some (.int .u32 x):=fun ρ w' r=>by
     rw[aB,aR];exact ig hS hw r hs hc1
    have hly:∀ρ w',Rel [] 0 [] w.heap.size w1 ρ w'->w'.cell? (ad2.add ((k:Int).toNat*1))=some (.int .u32 y):=fun ρ w' r=>by
     rw[aB,aR];exact ig hS hw r hs2 hc2
    conv=>whnf
    refine bw hτ dH [.x 0,.x 1,.x 2,.x 3,.x 4,.x 5,.x 6,.x 7,.x 8,.x 9] (by kernel_rfl) (by kernel_rfl) ?_;conv=>whnf
    refine⟨ad,had,⟨by omega,by omega⟩,?_⟩;conv=>whnf
    refine⟨_,hlx,?_⟩;conv=>whnf
    refine⟨ad2,had2,⟨by omega,by omega⟩,?_⟩;conv=>whnf
    refine⟨_,hly,?_⟩;conv=>whnf
    refine cW.mk (fun h4=>?_) (fun h4=>?_)
    ·have h4:x<y:=by simpa using h4
     conv=>whnf
     intro ρ w2 r;exact⟨_,rfl,hw.tr r.bs,by rw[ot,aQ (FP lm1 h hx hy hd h4)];rfl⟩
    ·have h4:¬x<y:=by simpa using h4
     conv=>whnf
     refine bw hτ dH [.x 0,.x 1,.x 2,.x 3,.x 4,.x 5,.x 6,.x 7,.x 8,.x 9] (by kernel_rfl) (by kernel_rfl) ?_;conv=>whnf
     refine⟨ad,had,⟨by omega,by omega⟩,?_⟩;conv=>whnf
     refine⟨_,hlx,?_⟩;conv=>whnf
     refine⟨ad2,had2,⟨by omega,by omega⟩,?_⟩;conv=>whnf
     refine⟨_,hly,?_⟩;conv=>whnf
     refine cW.mk (fun h5=>?_) (fun h5=>?_)
     ·have h5:y<x:=by simpa using h5
      have h6:=FP lm2 h.symm hy hx hd.symm h5;conv=>whnf
      intro ρ w2 r;exact⟨_,rfl,hw.tr r.bs,by rw[ot,aL (by omega),aQ h6];rfl⟩
     ·have h5:¬y<x:=by simpa using h5
      have hxy:x=y:=by omega
      subst hxy;conv=>whnf
      refine⟨(k:Int)-1,by rw[wrap64]<;>omega,?_⟩;conv=>whnf
      intro ρ w2 r;have hd2:ls.drop k=ms.drop k:=by
       obtain⟨q1,e1⟩:=aE.1 hx;obtain⟨q2,e2⟩:=aE.1 hy;rw[List.drop_eq_getElem_cons q1,List.drop_eq_getElem_cons q2,e1,e2,hd]
      exact⟨(k,w2),⟨by dsimp only;omega,hw.tr r.bs,hd2⟩,Sub.reset r ⟨rfl,rfl,rfl,trivial⟩ ⟨trivial,trivial,trivial,trivial⟩,by simp⟩
   ·have hk0:k=0:=by
     have:¬(k:Int)-1≥0:=aF h3;omega
    subst hk0;have he:ls=ms:=by simpa using hd
    conv=>whnf
    intro ρ w2 r;exact⟨_,rfl,hw.tr r.bs,by rw[he,ot,aL (by omega),aL (by omega)];rfl⟩
end Go.Ex
namespace Go.Sx
open Go Go.Ex Go.Proofs
theorem Rel.mw{nx:Nat}{iv:Iv}{B:Nat}{w w':World}{ρ:Nat->Sx.dN}(r:Rel [] nx iv B w ρ w'):w.grownBy w' none:=
 ⟨r.os,r.tape,r.output,r.size,fun k hk _=>r.qh k hk (fun id b h=>by cases h)⟩
end Go.Sx
namespace Go.Ex
open Go Go.Sx Go.Proofs
structure LA(S:Nat->Prop)(w:World) where
 a:Option Addr
 c:Nat
 ls:List Nat
 lm:Lm ls
 le:ls.length<=9223372036854775807
 cap:ls.length<=c
 cell:∀(j:Nat) x,ls[j]? =some x->∃ad,a=some ad∧S ad.block∧w.cell? (ad.add j)=some (.int .u32 x)
theorem cV.la{S:Nat->Prop}{w:World}{v:Value}{ls:List Nat}(h:cV w S v ls):∃p:LA S w,v= .slice p.a p.ls.length p.c∧p.ls=ls:=by
 obtain⟨a,c,h1,h2,h3⟩:=h.sl;exact⟨⟨a,c,ls,h.lm,h.le,h2,h3⟩,h1,rfl⟩
theorem dI.la{S:Nat->Prop}{w:World}{v:Value}{n:Nat}(h:dI w S v n):∃p:LA S w,v= .slice p.a p.ls.length p.c∧val p.ls=n∧Nz p.ls:=by
 obtain⟨ls,h1,h2,h3⟩:=h;obtain⟨p,h4,h5⟩:=h1.la;exact⟨p,h4,by rw[h5];exact h3,by rw[h5];exact h2⟩
theorem LA.load{S:Nat->Prop}{w w1:World}(p:LA S w)(hS:Old S w)(hw:cF w.heap.size w w1){k x:Nat}(hx:p.ls[k]? =some x):
  ∃ad,p.a=some ad∧∀(H:Hp) (nx:Nat) (iv:Iv) (ρ:Nat->Sx.dN) w',Rel H nx iv w.heap.size w1 ρ w'->w'.cell? (ad.add ((k:Int).toNat*1))=some (.int .u32 x):=by
 obtain⟨ad,h1,h2,h3⟩:=p.cell k x hx;refine⟨ad,h1,fun H nx iv ρ w' r=>?_⟩;rw[aB,aR];exact ig hS hw r h2 h3
def U(l:List Nat):List Value:=l.map fun(x:Nat)=>.int .u32 (x:Int)
theorem ei(l:List Nat):(U l).length=l.length:=by simp[U]
theorem qO{l:List Nat}{k x:Nat}(h:l[k]? =some x):(U l)[k]? =some (.int .u32 x):=by simp[U,h]
theorem G0(l:List Nat)(k x:Nat)(h:k<l.length):(U l).take k++[.int .u32 x]++(U l).drop (k+1)=U (l.set k x):=by
 have h1:k<(U l).length:=by rw[ei];exact h
 have:(U l).set k (.int .u32 x)=U (l.set k x):=by simp[U,List.map_set]
 rw[<-this,List.set_eq_take_append_cons_drop,aQ h1];simp
theorem gG(l:List Nat)(k x:Nat)(h:k<l.length){e:Nat}(he:e=k):(U l).take e++[.int .u32 (x:Int)]++(U l).drop (e+1)=U (l.set k x):=by
 subst he;exact G0 l e x h
theorem ou(n:Nat):List.replicate n (Value.int .u32 0)=U (List.replicate n 0):=by simp[U]
end Go.Ex
namespace Go.Sx
open Go Go.Ex Go.Proofs
theorem Rel.k8{H:Hp}{nx:Nat}{iv:Iv}{B:Nat}{w w':World}{ρ:Nat->Sx.dN}(r:Rel H nx iv B w ρ w'){id t:Nat}{ls:List Nat}(h:cT H id=some (.arr t (U ls)))(hlm:Lm ls)(hle:ls.length<=9223372036854775807):
  cV w' (fun g=>g=(ρ id).g) (.slice (some ⟨(ρ id).g,0,none⟩) ls.length ls.length) ls:=by
 refine⟨hlm,hle,_,_,rfl,aI _,fun j x hx=>⟨_,rfl,rfl,?_⟩⟩;have h0:(⟨(ρ id).g,0,none⟩:Addr).add j=⟨(ρ id).g,j,none⟩:=by
  cases j with
  |zero=>rfl
  |succ j=>simp[Addr.add]
 rw[h0,cell_of (r.arr id t _ h)];exact qO hx
end Go.Sx
namespace Go.Ex
open Go Go.Sx Go.Proofs
theorem xa{out ls ms:List Nat}{i x o d:Nat}(hx:ls[i]? =some x)(ho:ms.getD i 0=o)(hd:out[i]? =some d){carry:Nat}(h:val (out.take i)+wt i*carry=val (ls.take i)+val (ms.take i)):
  val ((out.set i ((x+o+carry) % 4294967296)).take (i+1))+wt (i+1)*((x+o+carry) / 4294967296)=val (ls.take (i+1))+val (ms.take (i+1)):=by
 have hi:=(aE.1 hd).1;have h1:(out.set i ((x+o+carry) % 4294967296))[i]? =some ((x+o+carry) % 4294967296):=by rw[aZ hi]
 rw[dC h1,List.take_set_of_le (aI _),dC hx,gT];have h2:val (ms.take (i+1))=val (ms.take i)+wt i*o:=by
  cases hm:ms[i]? with
  |some y=>
   have:y=o:=by rw[<-ho];simp[List.getD,hm]
   rw[dC hm,this]
  |none=>
   have:o=0:=by rw[<-ho];simp[List.getD,hm]
   rw[this,List.take_add_one,hm];simp
 rw[h2];have h3:=Nat.div_add_mod (x+o+carry) 4294967296;generalize (x+o+carry) / 4294967296=q at h3 ⊢;generalize (x+o+carry) % 4294967296=r at h3 ⊢;have h4:wt i*(4294967296*q+r)=wt i*(x+o+carry):=by rw[h3]
 rw[bJ,bJ,bJ,<-b9,bL (wt i) 4294967296]at h4;omega
theorem Fq{S:Nat->Prop}{w:World}{v u:Value}{n m:Nat}(hS:Old S w)(hn:dI w S v n)(hm:dI w S u m)(hln:ln n<=1000000000000)(hlm:ln m<=1000000000000):
  dQ PG N.mg #[v,u] w (dU w fun v' w2=>dI w2 (Nw (fun _=>False) w w2) v' (n+m)):=by
 obtain⟨p,rfl,hp1,hp2⟩:=hn.la;obtain⟨q,rfl,hq1,hq2⟩:=hm.la;have hpl:=dX p.lm hp2;have hql:=dX q.lm hq2;rw[hp1]at hpl;rw[hq1]at hql;have hsum:n+m=val p.ls+val q.ls:=by rw[hp1,hq1]
 rw[hsum];refine qL (by simp) ?_;conv=>whnf
 refine cW.mk (fun h=>?_) (fun h=>?_)
 case' refine_1=>
  have h:p.ls.length<q.ls.length:=by simpa using h
  have hpx:p.ls.length<=q.ls.length:=by omega
  have hx12:q.ls.length<=1000000000000:=by omega
  rw[Nat.add_comm];clear hp1 hp2 hq1 hq2 hpl hql hsum hn hm h;generalize hgx:q=x at*
  generalize hgy:p=y at*
  clear hgx hgy p q
 case' refine_2=>
  have h:¬p.ls.length<q.ls.length:=by simpa using h
  have hpx:q.ls.length<=p.ls.length:=by omega
  have hx12:p.ls.length<=1000000000000:=by omega
  clear hp1 hp2 hq1 hq2 hpl hql hsum hn hm h;generalize hgx:p=x at*
  generalize hgy:q=y at*
  clear hgx hgy p q
 all_goals
  conv=>whnf
  refine⟨((x.ls.length+1:Nat):Int),by rw[wrap64]<;>omega,?_⟩;conv=>whnf
  refine⟨x.ls.length+1,x.ls.length+1,rfl,rfl,aI _,by omega,by omega,?_⟩;conv=>whnf
  refine⟨Nat×List Nat×Nat×World,fun z=>⟨[(0,.o (.v (.slice x.a x.ls.length x.c))),(1,.o (.v (.slice y.a y.ls.length y.c))),(5,.o (.s 0 0 (x.ls.length+1) (x.ls.length+1))),(6,.o (.v (.int .u32 z.2.2.1))),(21,.o (.v (.int .i64 x.ls.length))),(22,.o (.v (.int .i64 z.1)))],
    [(0,.arr T.uint32 (U z.2.1))],1,[],z.2.2.2⟩,fun z=>x.ls.length-z.1,
   fun z=>z.1<=x.ls.length∧cF w.heap.size w z.2.2.2∧z.2.1.length=x.ls.length+1∧Lm z.2.1∧z.2.2.1<2∧val (z.2.1.take z.1)+wt z.1*z.2.2.1=val (x.ls.take z.1)+val (y.ls.take z.1),?_,?_⟩
  ·intro ρ w' r;rw[ou]at r;exact⟨(0,List.replicate (x.ls.length+1) 0,0,w'),⟨by simp,r.bs,by simp,Lm.replicate _,by simp,by simp[val]⟩,Sub.gen [] r ⟨rfl,trivial⟩ ⟨rfl,rfl,rfl,rfl,rfl,rfl,trivial⟩ (by simp[cY,cN.scopd]) (by simp[cO,SV.sc,At.sc]) (by rfl) (by simp)⟩
  ·rintro⟨i,out,carry,w1⟩ ⟨hi,hw,hol,hlm1,hc,hv⟩;dsimp only at hi hw hol hlm1 hc hv ⊢;conv=>whnf
   refine cW.mk (fun h=>?_) (fun h=>?_)
   ·have h:i<x.ls.length:=by simpa using h
    obtain⟨xi,hxi⟩:∃k,x.ls[i]? =some k:=⟨_,aA h⟩
    obtain⟨d,hd⟩:∃k,out[i]? =some k:=⟨_,aA (by omega)⟩
    obtain⟨ad,had,hload⟩:=x.load hS hw hxi;have hx32:=x.lm.at hxi;conv=>whnf
    refine cW.mk (fun h2=>?_) (fun h2=>?_)
    ·have h2:i<y.ls.length:=by simpa using h2
     obtain⟨o,ho⟩:∃k,y.ls[i]? =some k:=⟨_,aA h2⟩
     obtain⟨ad2,had2,hload2⟩:=y.load hS hw ho;have ho32:=y.lm.at ho;have hget:y.ls.getD i 0=o:=by simp[List.getD,ho]
     conv=>whnf
     refine⟨ad2,had2,⟨by omega,by omega⟩,?_⟩;conv=>whnf
     refine⟨.int .u32 o,hload2 _ _ _,?_⟩;conv=>whnf
     refine⟨ad,had,⟨by omega,by omega⟩,?_⟩;conv=>whnf
     refine⟨.int .u32 xi,hload _ _ _,?_⟩;conv=>whnf
     refine bp (cA (Φ:=fun _ _ v _=>v= .tuple #[.int .u32 ((xi+o+carry) % 4294967296:Nat),.int .u32 ((xi+o+carry) / 4294967296:Nat)]) (fun ρ w' r=>Bn xi o carry w' hx32 ho32 (by omega)) ?_);rintro ρ w' v w2 r he hb rfl;replace hw:=hw.tr hb;have hstep:=xa hxi hget hd hv;have hc2:(xi+o+carry) / 4294967296<2:=by omega
     clear r he hb;conv=>whnf
     refine⟨⟨by omega,by omega⟩,?_⟩;conv=>whnf
     refine⟨by rw[ei];omega,U (out.set i ((xi+o+carry) % 4294967296)),gG out i _ (by omega) (by simp),?_⟩;conv=>whnf
     refine⟨((i+1:Nat):Int),by rw[wrap64]<;>omega,?_⟩;conv=>whnf
     intro ρ3 w3 r3
     exact⟨(i+1,out.set i ((xi+o+carry) % 4294967296),(xi+o+carry) / 4294967296,w3),⟨by dsimp only;omega,hw.tr r3.bs,by simp[hol],hlm1.set (bc _ (by decide)),hc2,hstep⟩,
      Sub.gen [] r3 ⟨rfl,trivial⟩ ⟨rfl,rfl,rfl,rfl,rfl,rfl,trivial⟩ (by simp[cY,cN.scopd]) (by simp[cO,SV.sc,At.sc]) (by rfl) (by simp),by dsimp only;omega⟩
    ·have h2:¬i<y.ls.length:=by simpa using h2
     have hget:y.ls.getD i 0=0:=by simp[List.getD,List.getElem?_eq_none (show y.ls.length<=i by omega)]
     conv=>whnf
     refine⟨ad,had,⟨by omega,by omega⟩,?_⟩;conv=>whnf
     refine⟨.int .u32 xi,hload _ _ _,?_⟩;conv=>whnf
     refine bp (cA (Φ:=fun _ _ v _=>v= .tuple #[.int .u32 ((xi+0+carry) % 4294967296:Nat),.int .u32 ((xi+0+carry) / 4294967296:Nat)]) (fun ρ w' r=>Bn xi 0 carry w' hx32 (by decide) (by omega)) ?_);rintro ρ w' v w2 r he hb rfl;replace hw:=hw.tr hb;have hstep:=xa hxi hget hd hv;have hc2:(xi+0+carry) / 4294967296<2:=by omega
     clear r he hb;conv=>whnf
     refine⟨⟨by omega,by omega⟩,?_⟩;conv=>whnf
     refine⟨by rw[ei];omega,U (out.set i ((xi+0+carry) % 4294967296)),gG out i _ (by omega) (by simp),?_⟩;conv=>whnf
     refine⟨((i+1:Nat):Int),by rw[wrap64]<;>omega,?_⟩;conv=>whnf
     intro ρ3 w3 r3
     exact⟨(i+1,out.set i ((xi+0+carry) % 4294967296),(xi+0+carry) / 4294967296,w3),⟨by dsimp only;omega,hw.tr r3.bs,by simp[hol],hlm1.set (bc _ (by decide)),hc2,hstep⟩,
      Sub.gen [] r3 ⟨rfl,trivial⟩ ⟨rfl,rfl,rfl,rfl,rfl,rfl,trivial⟩ (by simp[cY,cN.scopd]) (by simp[cO,SV.sc,At.sc]) (by rfl) (by simp),by dsimp only;omega⟩
   ·have hin:i=x.ls.length:=by
     have:¬i<x.ls.length:=by simpa using h
     omega
    subst hin;obtain⟨d,hd⟩:∃k,out[x.ls.length]? =some k:=⟨_,aA (by omega)⟩
    have hfin:val (out.set x.ls.length carry)=val x.ls+val y.ls:=by
     have h1:(out.set x.ls.length carry)[x.ls.length]? =some carry:=by rw[aZ (by omega)]
     have h2:=dC h1;rw[List.take_of_length_le (by simp;omega),List.take_set_of_le (aI _)]at h2;rw[ah,List.take_of_length_le hpx]at hv;omega
    have hlm2:Lm (out.set x.ls.length carry):=hlm1.set (by omega);conv=>whnf
    refine⟨⟨by omega,by omega⟩,?_⟩;conv=>whnf
    refine⟨by rw[ei];omega,U (out.set x.ls.length carry),gG out x.ls.length carry (by omega) (by simp),?_⟩;generalize hgo:out.set x.ls.length carry=fin at hfin hlm2;have hfl:fin.length=x.ls.length+1:=by rw[<-hgo];simp[hol]
    conv=>whnf
    refine fF (Φ:=fun ρ _ v w2=>cV w2 (fun g=>g=(ρ 0).g) v (dG fin)) (H':=[]) 0 rfl (by simp) trivial rfl (fun ρ w' r=>r.nn 0 _ rfl (by intros;simp) (by simp)) (fun ρ w' r=>?_) ?_
    ·have hL:=r.k8 (id:=0) rfl hlm2 (by omega);rw[hfl]at hL;exact eK (fun g hg=>by rw[hg];exact(r.low 0 _ rfl (r.nn 0 _ rfl (by intros;simp) (by simp))).2) hL
    rintro ρ w' v w2 r he hb hL;replace hw:=hw.tr hb;have hlow:=r.low 0 _ rfl (r.nn 0 _ rfl (by intros;simp) (by simp));generalize (ρ 0).g=g at*
    have hs:=he.size;clear r he hb;conv=>whnf
    intro ρ3 w3 r3;refine⟨_,rfl,hw.tr r3.bs,dG fin,?_,(dw fin).2.1,?_⟩
    ·refine(hL.bu fun k hk=>?_).bz fun k hk=>.inr ?_
     ·rw[hk];exact r3.mw.block g (by omega) (by simp)
     ·rw[hk];have:=r3.size;omega
    ·rw[(dw fin).1,hfin]
end Go.Ex
namespace Go.Ex
open Go Go.Sx Go.Proofs
theorem Cg{ms:List Nat}{i o:Nat}(ho:ms.getD i 0=o):val (ms.take (i+1))=val (ms.take i)+wt i*o:=by
 cases hm:ms[i]? with
 |some y=>
  have:y=o:=by rw[<-ho];simp[List.getD,hm]
  rw[dC hm,this]
 |none=>
  have:o=0:=by rw[<-ho];simp[List.getD,hm]
  rw[this,List.take_add_one,hm];simp
theorem vY{out ls ms:List Nat}{i x o d e:Nat}(hx:ls[i]? =some x)(ho:ms.getD i 0=o)(hd:out[i]? =some d){b b':Nat}(h:val (out.take i)+val (ms.take i)=val (ls.take i)+wt i*b)(he:e+(o+b)=x+4294967296*b'):
  val ((out.set i e).take (i+1))+val (ms.take (i+1))=val (ls.take (i+1))+wt (i+1)*b':=by
 have hi:=(aE.1 hd).1;have h1:(out.set i e)[i]? =some e:=by rw[aZ hi]
 rw[dC h1,List.take_set_of_le (aI _),dC hx,Cg ho,gT];have h4:wt i*(e+(o+b))=wt i*(x+4294967296*b'):=by rw[he]
 rw[bJ,bJ,bJ,<-b9,bL (wt i) 4294967296]at h4;omega
theorem yO{S:Nat->Prop}{w:World}{v u:Value}{n m:Nat}(hS:Old S w)(hn:dI w S v n)(hm:dI w S u m)(hle:m<=n)(hln:ln n<=1000000000000):
  dQ PG N.l9 #[v,u] w (dU w fun v' w2=>dI w2 (Nw (fun _=>False) w w2) v' (n-m)):=by
 obtain⟨x,rfl,hp1,hp2⟩:=hn.la;obtain⟨y,rfl,hq1,hq2⟩:=hm.la;have hpl:=dX x.lm hp2;rw[hp1]at hpl;have hyx:y.ls.length<=x.ls.length:=by
  rw[dX x.lm hp2,dX y.lm hq2,hp1,hq1];exact fJ hle
 refine om (by simp) ?_;conv=>whnf
 refine⟨x.ls.length,x.ls.length,rfl,rfl,aI _,by omega,by omega,?_⟩;conv=>whnf
 refine⟨Nat×List Nat×Nat×World,fun z=>⟨[(0,.o (.v (.slice x.a x.ls.length x.c))),(1,.o (.v (.slice y.a y.ls.length y.c))),(5,.o (.s 0 0 x.ls.length x.ls.length)),(6,.o (.v (.int .u32 z.2.2.1))),(13,.o (.v (.int .i64 x.ls.length))),(14,.o (.v (.int .i64 z.1)))],
   [(0,.arr T.uint32 (U z.2.1))],1,[],z.2.2.2⟩,fun z=>x.ls.length-z.1,
  fun z=>z.1<=x.ls.length∧cF w.heap.size w z.2.2.2∧z.2.1.length=x.ls.length∧Lm z.2.1∧z.2.2.1<2∧val (z.2.1.take z.1)+val (y.ls.take z.1)=val (x.ls.take z.1)+wt z.1*z.2.2.1,?_,?_⟩
 ·intro ρ w' r;rw[ou]at r;exact⟨(0,List.replicate x.ls.length 0,0,w'),⟨by simp,r.bs,by simp,Lm.replicate _,by simp,by simp[val]⟩,Sub.gen [] r ⟨rfl,trivial⟩ ⟨rfl,rfl,rfl,rfl,rfl,rfl,trivial⟩ (by simp[cY,cN.scopd]) (by simp[cO,SV.sc,At.sc]) (by rfl) (by simp)⟩
 ·rintro⟨i,out,b,w1⟩ ⟨hi,hw,hol,hlm1,hc,hv⟩;dsimp only at hi hw hol hlm1 hc hv ⊢;conv=>whnf
  refine cW.mk (fun h=>?_) (fun h=>?_)
  ·have h:i<x.ls.length:=by simpa using h
   obtain⟨xi,hxi⟩:∃k,x.ls[i]? =some k:=⟨_,aA h⟩
   obtain⟨d,hd⟩:∃k,out[i]? =some k:=⟨_,aA (by omega)⟩
   obtain⟨ad,had,hload⟩:=x.load hS hw hxi;have hx32:=x.lm.at hxi;conv=>whnf
   refine cW.mk (fun h2=>?_) (fun h2=>?_)
   ·have h2:i<y.ls.length:=by simpa using h2
    obtain⟨o,ho⟩:∃k,y.ls[i]? =some k:=⟨_,aA h2⟩
    obtain⟨ad2,had2,hload2⟩:=y.load hS hw ho;have ho32:=y.lm.at ho;have hget:y.ls.getD i 0=o:=by simp[List.getD,ho]
    conv=>whnf
    refine⟨ad2,had2,⟨by omega,by omega⟩,?_⟩;conv=>whnf
    refine⟨.int .u32 o,hload2 _ _ _,?_⟩;conv=>whnf
    refine⟨ad,had,⟨by omega,by omega⟩,?_⟩;conv=>whnf
    refine⟨.int .u32 xi,hload _ _ _,?_⟩;conv=>whnf
    refine bp (cA (Φ:=fun _ _ v _=>v= .tuple #[.int .u32 ((xi+4294967296-(o+b)) % 4294967296:Nat),.int .u32 ((if xi<o+b then 1 else 0:Nat):Int)]) (fun ρ w' r=>Bo xi o b w' hx32 ho32 (by omega)) ?_);rintro ρ w' v w2 r he hb rfl;replace hw:=hw.tr hb;have hst:(xi+4294967296-(o+b)) % 4294967296+(o+b)=xi+4294967296*(if xi<o+b then 1 else 0):=by split<;>omega
    have hlt:(xi+4294967296-(o+b)) % 4294967296<4294967296:=bc _ (by decide);have hb2:(if xi<o+b then 1 else 0:Nat)<2:=by split<;>omega
    generalize (xi+4294967296-(o+b)) % 4294967296=e at hst hlt;generalize (if xi<o+b then 1 else 0:Nat)=b' at hst hb2;have hstep:=vY hxi hget hd hv hst;clear r he hb;conv=>whnf
    refine⟨⟨by omega,by omega⟩,?_⟩;conv=>whnf
    refine⟨by rw[ei];omega,U (out.set i e),gG out i _ (by omega) (by simp),?_⟩;conv=>whnf
    refine⟨((i+1:Nat):Int),by rw[wrap64]<;>omega,?_⟩;conv=>whnf
    intro ρ3 w3 r3
    exact⟨(i+1,out.set i e,b',w3),⟨by dsimp only;omega,hw.tr r3.bs,by simp[hol],hlm1.set hlt,hb2,hstep⟩,
     Sub.gen [] r3 ⟨rfl,trivial⟩ ⟨rfl,rfl,rfl,rfl,rfl,rfl,trivial⟩ (by simp[cY,cN.scopd]) (by simp[cO,SV.sc,At.sc]) (by rfl) (by simp),by dsimp only;omega⟩
   ·have h2:¬i<y.ls.length:=by simpa using h2
    have hget:y.ls.getD i 0=0:=by simp[List.getD,List.getElem?_eq_none (show y.ls.length<=i by omega)]
    conv=>whnf
    refine⟨ad,had,⟨by omega,by omega⟩,?_⟩;conv=>whnf
    refine⟨.int .u32 xi,hload _ _ _,?_⟩;conv=>whnf
    refine bp (cA (Φ:=fun _ _ v _=>v= .tuple #[.int .u32 ((xi+4294967296-(0+b)) % 4294967296:Nat),.int .u32 ((if xi<0+b then 1 else 0:Nat):Int)]) (fun ρ w' r=>Bo xi 0 b w' hx32 (by decide) (by omega)) ?_);rintro ρ w' v w2 r he hb rfl;replace hw:=hw.tr hb;have hst:(xi+4294967296-(0+b)) % 4294967296+(0+b)=xi+4294967296*(if xi<0+b then 1 else 0):=by split<;>omega
    have hlt:(xi+4294967296-(0+b)) % 4294967296<4294967296:=bc _ (by decide);have hb2:(if xi<0+b then 1 else 0:Nat)<2:=by split<;>omega
    generalize (xi+4294967296-(0+b)) % 4294967296=e at hst hlt;generalize (if xi<0+b then 1 else 0:Nat)=b' at hst hb2;have hstep:=vY hxi hget hd hv hst;clear r he hb;conv=>whnf
    refine⟨⟨by omega,by omega⟩,?_⟩;conv=>whnf
    refine⟨by rw[ei];omega,U (out.set i e),gG out i _ (by omega) (by simp),?_⟩;conv=>whnf
    refine⟨((i+1:Nat):Int),by rw[wrap64]<;>omega,?_⟩;conv=>whnf
    intro ρ3 w3 r3
    exact⟨(i+1,out.set i e,b',w3),⟨by dsimp only;omega,hw.tr r3.bs,by simp[hol],hlm1.set hlt,hb2,hstep⟩,
     Sub.gen [] r3 ⟨rfl,trivial⟩ ⟨rfl,rfl,rfl,rfl,rfl,rfl,trivial⟩ (by simp[cY,cN.scopd]) (by simp[cO,SV.sc,At.sc]) (by rfl) (by simp),by dsimp only;omega⟩
  ·have hin:i=x.ls.length:=by
    have:¬i<x.ls.length:=by simpa using h
    omega
   subst hin;have hfin:val out=n-m:=by
    rw[List.take_of_length_le (by omega),List.take_of_length_le hyx,ah,hp1,hq1]at hv;have h1:=kv hlm1;rw[hol]at h1;have:b=0∨b=1:=by omega
    rcases this with rfl|rfl
    ·omega
    ·omega
   conv=>whnf
   refine fF (Φ:=fun ρ _ v w2=>cV w2 (fun g=>g=(ρ 0).g) v (dG out)) (H':=[]) 0 rfl (by simp) trivial rfl (fun ρ w' r=>r.nn 0 _ rfl (by intros;simp) (by simp)) (fun ρ w' r=>?_) ?_
   ·have hL:=r.k8 (id:=0) rfl hlm1 (by omega);rw[hol]at hL;exact eK (fun g hg=>by rw[hg];exact(r.low 0 _ rfl (r.nn 0 _ rfl (by intros;simp) (by simp))).2) hL
   rintro ρ w' v w2 r he hb hL;replace hw:=hw.tr hb;have hlow:=r.low 0 _ rfl (r.nn 0 _ rfl (by intros;simp) (by simp));generalize (ρ 0).g=g at*
   have hs:=he.size;clear r he hb;conv=>whnf
   intro ρ3 w3 r3;refine⟨_,rfl,hw.tr r3.bs,dG out,?_,(dw out).2.1,?_⟩
   ·refine(hL.bu fun k hk=>?_).bz fun k hk=>.inr ?_
    ·rw[hk];exact r3.mw.block g (by omega) (by simp)
    ·rw[hk];have:=r3.size;omega
   ·rw[(dw out).1,hfin]
theorem BO{out:List Nat}{p o t c a:Nat}(ho:out[p]? =some o){V:Nat}(h:val out+wt p*c=V)(ht:t=a+o+c):
  val (out.set p (t % 4294967296))+wt (p+1)*(t / 4294967296)=V+wt p*a:=by
 have h1:=tS (x:=t % 4294967296) ho;rw[gT];have h3:=Nat.div_add_mod t 4294967296;generalize t / 4294967296=q at h3 ⊢;generalize t % 4294967296=r at h3 h1 ⊢;have h4:wt p*(4294967296*q+r)=wt p*(a+o+c):=by rw[h3,ht]
 rw[bJ,bJ,bJ,<-b9,bL (wt p) 4294967296]at h4;omega
def Zf(out:List Nat)(p:Nat):Prop:=∀(j:Nat) z,p<=j->out[j]? =some z->z=0
theorem Zf.set{out:List Nat}{p k x:Nat}(h:Zf out p)(hk:k<p):Zf (out.set k x) p:=fun j z hj hz=>by
 rw[ai (by omega)]at hz;exact h j z hj hz
theorem EK{a b:Nat}(ha:a<4294967296)(hb:b<4294967296):a*b<=18446744065119617025:=by
 have:a*b<=4294967295*4294967295:=Nat.mul_le_mul (by omega) (by omega);omega
theorem Bg{S:Nat->Prop}{w:World}{v u:Value}{n m:Nat}(hS:Old S w)(hn:dI w S v n)(hm:dI w S u m)(hln:ln n<=1000000000000)(hlm:ln m<=1000000000000):
  dQ PG N.l8 #[v,u] w (dU w fun v' w2=>dI w2 (Nw (fun _=>False) w w2) v' (n*m)):=by
 obtain⟨x,rfl,hp1,hp2⟩:=hn.la;obtain⟨y,rfl,hq1,hq2⟩:=hm.la;have hpl:=dX x.lm hp2;rw[hp1]at hpl;have hql:=dX y.lm hq2;rw[hq1]at hql;refine oh (by simp) ?_;conv=>whnf
 obtain⟨L,hL⟩:∃L,L=x.ls.length+y.ls.length:=⟨_,rfl⟩
 refine⟨(L:Int),by rw[wrap64]<;>omega,?_⟩;conv=>whnf
 refine⟨L,L,rfl,rfl,aI _,by omega,by omega,?_⟩;conv=>whnf
 refine⟨Nat×List Nat×World,fun z=>⟨[(1,.o (.v (.slice y.a y.ls.length y.c))),(5,.o (.s 0 0 L L)),(18,.o (.v (.slice x.a x.ls.length x.c))),(19,.o (.v (.int .i64 x.ls.length))),(20,.o (.v (.int .i64 z.1)))],
   [(0,.arr T.uint32 (U z.2.1))],1,[],z.2.2⟩,fun z=>x.ls.length-z.1,
  fun z=>z.1<=x.ls.length∧cF w.heap.size w z.2.2∧z.2.1.length=L∧Lm z.2.1∧val z.2.1=val (x.ls.take z.1)*m∧Zf z.2.1 (z.1+y.ls.length),?_,?_⟩
 ·intro ρ w' r;rw[ou]at r;exact⟨(0,List.replicate L 0,w'),⟨by simp,r.bs,by simp,Lm.replicate _,by simp[val,jz],fun j z _ hz=>by simp only[List.getElem?_replicate]at hz;split at hz<;>simp_all⟩,Sub.gen [] r ⟨rfl,trivial⟩ ⟨rfl,rfl,rfl,rfl,rfl,trivial⟩ (by simp[cY,cN.scopd]) (by simp[cO,SV.sc,At.sc]) (by rfl) (by simp)⟩
 ·rintro⟨i,out,w1⟩ ⟨hi,hw,hol,hlm1,hv,hz⟩;dsimp only at hi hw hol hlm1 hv hz ⊢;conv=>whnf
  refine cW.mk (fun h=>?_) (fun h=>?_)
  ·have h:i<x.ls.length:=by simpa using h
   obtain⟨xi,hxi⟩:∃k,x.ls[i]? =some k:=⟨_,aA h⟩
   obtain⟨ad,had,hload⟩:=x.load hS hw hxi;have hx32:=x.lm.at hxi;conv=>whnf
   refine⟨ad,had,⟨by omega,by omega⟩,?_⟩;conv=>whnf
   refine⟨.int .u32 xi,hload _ _ _,?_⟩;conv=>whnf
   refine⟨Nat×List Nat×Nat×World,fun z=>⟨[(1,.o (.v (.slice y.a y.ls.length y.c))),(5,.o (.s 0 0 L L)),(18,.o (.v (.slice x.a x.ls.length x.c))),(19,.o (.v (.int .i64 x.ls.length))),(20,.o (.v (.int .i64 i))),
     (6,.o (.v (.int .i64 i))),(7,.o (.v (.int .u32 xi))),(8,.o (.v (.int .u64 z.2.2.1))),(25,.o (.v (.slice y.a y.ls.length y.c))),(26,.o (.v (.int .i64 y.ls.length))),(27,.o (.v (.int .i64 z.1)))],
     [(0,.arr T.uint32 (U z.2.1))],1,[],z.2.2.2⟩,fun z=>y.ls.length-z.1,
    fun z=>z.1<=y.ls.length∧cF w.heap.size w z.2.2.2∧z.2.1.length=L∧Lm z.2.1∧z.2.2.1<4294967296∧val z.2.1+wt (i+z.1)*z.2.2.1=val (x.ls.take i)*m+wt i*xi*val (y.ls.take z.1)∧Zf z.2.1 (i+y.ls.length),?_,?_⟩
   ·intro ρ w' r;exact⟨(0,out,0,w'),⟨by simp,hw.tr r.bs,hol,hlm1,by simp,by simp[val,hv],hz⟩,Sub.gen [] r ⟨rfl,trivial⟩ ⟨rfl,rfl,rfl,rfl,rfl,rfl,rfl,rfl,rfl,rfl,rfl,trivial⟩ (by simp[cY,cN.scopd]) (by simp[cO,SV.sc,At.sc]) (by rfl) (by simp)⟩
   ·rintro⟨k,out,c,w1⟩ ⟨hk,hw,hol,hlm1,hc,hv,hz⟩;dsimp only at hk hw hol hlm1 hc hv hz ⊢;conv=>whnf
    refine cW.mk (fun h2=>?_) (fun h2=>?_)
    ·have h2:k<y.ls.length:=by simpa using h2
     obtain⟨yk,hyk⟩:∃q,y.ls[k]? =some q:=⟨_,aA h2⟩
     obtain⟨ad2,had2,hload2⟩:=y.load hS hw hyk;have hy32:=y.lm.at hyk;obtain⟨o,ho⟩:∃q,out[i+k]? =some q:=⟨_,aA (by omega)⟩
     have ho32:=hlm1.at ho;have hm64:=EK hx32 hy32;conv=>whnf
     refine⟨ad2,had2,⟨by omega,by omega⟩,?_⟩;conv=>whnf
     refine⟨.int .u32 yk,hload2 _ _ _,?_⟩;conv=>whnf
     refine⟨(xi:Int),de (by omega),?_⟩;conv=>whnf
     refine⟨(yk:Int),de (by omega),?_⟩;conv=>whnf
     refine⟨((xi*yk:Nat):Int),by rw[<-Int.natCast_mul];exact de (by omega),?_⟩;conv=>whnf
     refine⟨((i+k:Nat):Int),by rw[wrap64]<;>omega,?_⟩;conv=>whnf
     refine⟨⟨by omega,by omega⟩,?_⟩;conv=>whnf
     refine⟨.int .u32 o,by rw[aB,aP,aR];exact qO ho,?_⟩;conv=>whnf
     refine⟨(o:Int),de (by omega),?_⟩;conv=>whnf
     refine⟨((xi*yk+o:Nat):Int),by rw[<-Int.natCast_add];exact de (by omega),?_⟩;conv=>whnf
     obtain⟨t,ht⟩:∃t,t=xi*yk+o+c:=⟨_,rfl⟩
     refine⟨(t:Int),by rw[<-Int.natCast_add,<-ht];exact de (by omega),?_⟩;conv=>whnf
     refine⟨((i+k:Nat):Int),by rw[wrap64]<;>omega,?_⟩;conv=>whnf
     refine⟨((t % 4294967296:Nat):Int),eC _,?_⟩;conv=>whnf
     refine⟨by decide,((t / 4294967296:Nat):Int),j3 32 (by decide),?_⟩;conv=>whnf
     refine⟨⟨by omega,by omega⟩,?_⟩;conv=>whnf
     refine⟨by rw[ei];omega,U (out.set (i+k) (t % 4294967296)),gG out (i+k) _ (by omega) (by simp only[aB];omega),?_⟩;conv=>whnf
     refine⟨((k+1:Nat):Int),by rw[wrap64]<;>omega,?_⟩;conv=>whnf
     intro ρ3 w3 r3
     refine⟨(k+1,out.set (i+k) (t % 4294967296),t / 4294967296,w3),⟨by dsimp only;omega,hw.tr r3.bs,by simp[hol],hlm1.set (bc _ (by decide)),by dsimp only;omega,?_,hz.set (by omega)⟩,
      Sub.gen [] r3 ⟨rfl,trivial⟩ ⟨rfl,rfl,rfl,rfl,rfl,rfl,rfl,rfl,rfl,rfl,rfl,trivial⟩ (by simp[cY,cN.scopd]) (by simp[cO,SV.sc,At.sc]) (by rfl) (by simp),by dsimp only;omega⟩
     have h5:=BO (a:=xi*yk) ho hv ht;dsimp only
     rw[show i+(k+1)=i+k+1 by omega,h5,dC hyk,Ac,bJ,Nat.add_assoc];congr 2;simp only[b9,Nat.mul_left_comm,bL]
    ·have hkn:k=y.ls.length:=by
      have:¬k<y.ls.length:=by simpa using h2
      omega
     subst hkn;obtain⟨o,ho⟩:∃q,out[i+y.ls.length]? =some q:=⟨_,aA (by omega)⟩
     have ho0:=hz _ _ (aI _) ho;subst ho0;conv=>whnf
     refine⟨((i+y.ls.length:Nat):Int),by rw[wrap64]<;>omega,?_⟩;conv=>whnf
     refine⟨(c:Int),by rw[eC,bD hc],?_⟩;conv=>whnf
     refine⟨⟨by omega,by omega⟩,?_⟩;conv=>whnf
     refine⟨by rw[ei];omega,U (out.set (i+y.ls.length) c),gG out (i+y.ls.length) _ (by omega) (by simp only[aB];omega),?_⟩;conv=>whnf
     refine⟨((i+1:Nat):Int),by rw[wrap64]<;>omega,?_⟩;conv=>whnf
     intro ρ3 w3 r3
     refine⟨(i+1,out.set (i+y.ls.length) c,w3),⟨by dsimp only;omega,hw.tr r3.bs,by simp[hol],hlm1.set hc,?_,?_⟩,
      Sub.gen [] r3 ⟨rfl,trivial⟩ ⟨rfl,rfl,rfl,rfl,rfl,trivial⟩ (by simp[cY,cN.scopd]) (by simp[cO,SV.sc,At.sc]) (by rfl) (by simp),by dsimp only;omega⟩
     ·have h5:=tS (x:=c) ho;dsimp only
      rw[ah,hq1]at hv;rw[dC hxi,Nat.add_mul];omega
     ·intro j z hj hjz;dsimp only at hj;rw[ai (by omega)]at hjz;exact hz j z (by omega) hjz
  ·have hin:i=x.ls.length:=by
    have:¬i<x.ls.length:=by simpa using h
    omega
   subst hin;have hfin:val out=n*m:=by rw[hv,ah,hp1]
   conv=>whnf
   refine fF (Φ:=fun ρ _ v w2=>cV w2 (fun g=>g=(ρ 0).g) v (dG out)) (H':=[]) 0 rfl (by simp) trivial rfl (fun ρ w' r=>r.nn 0 _ rfl (by intros;simp) (by simp)) (fun ρ w' r=>?_) ?_
   ·have hL:=r.k8 (id:=0) rfl hlm1 (by omega);rw[hol]at hL;exact eK (fun g hg=>by rw[hg];exact(r.low 0 _ rfl (r.nn 0 _ rfl (by intros;simp) (by simp))).2) hL
   rintro ρ w' v w2 r he hb hL;replace hw:=hw.tr hb;have hlow:=r.low 0 _ rfl (r.nn 0 _ rfl (by intros;simp) (by simp));generalize (ρ 0).g=g at*
   have hs:=he.size;clear r he hb;conv=>whnf
   intro ρ3 w3 r3;refine⟨_,rfl,hw.tr r3.bs,dG out,?_,(dw out).2.1,?_⟩
   ·refine(hL.bu fun k hk=>?_).bz fun k hk=>.inr ?_
    ·rw[hk];exact r3.mw.block g (by omega) (by simp)
    ·rw[hk];have:=r3.size;omega
   ·rw[(dw out).1,hfin]
theorem yQ{o q k:Nat}(ho:o<2^k):o ||| 2^k*q=o+2^k*q:=by
 rw[Nat.or_comm,<-Nat.two_pow_add_eq_or_of_lt ho,Nat.add_comm]
theorem DX{x y:Nat}(hx:x<18446744073709551616)(hy:y<18446744073709551616):IntKind.u64.wrap ((BitVec.ofInt IntKind.u64.bits x ||| BitVec.ofInt IntKind.u64.bits y).toNat:Int)=((x ||| y:Nat):Int):=by
 have e:∀z:Nat,BitVec.ofInt 64 (z:Int)=BitVec.ofNat 64 z:=fun z=>by
  apply BitVec.eq_of_toNat_eq;simp
 show IntKind.u64.wrap ((BitVec.ofInt 64 x ||| BitVec.ofInt 64 y).toNat:Int)=_;rw[e,e,BitVec.toNat_or,BitVec.toNat_ofNat,BitVec.toNat_ofNat,bD hx,bD hy];exact de (Nat.or_lt_two_pow (n:=64) hx hy)
theorem yP{a k:Nat}(hk:k<=63)(h:a*2^k<18446744073709551616):IntKind.u64.wrap ((a:Int)*2^min ((k:Int)).toNat IntKind.u64.bits)=((a*2^k:Nat):Int):=by
 have h1:min ((k:Int)).toNat IntKind.u64.bits=k:=by show min ((k:Int)).toNat 64=k;omega
 rw[h1,show(a:Int)*2^k=((a*2^k:Nat):Int) by simp];exact de h
theorem BT{out ls:List Nat}{i a o b:Nat}(ha:ls[i]? =some a)(ho:out[i]? =some o)(hz:out[i+1]? =some 0)(hv:val out=val (ls.take i)*2^b):
  val ((out.set i (o+a*2^b % 4294967296)).set (i+1) (a*2^b / 4294967296))=val (ls.take (i+1))*2^b:=by
 have h1:=tS (x:=o+a*2^b % 4294967296) ho;have h2:(out.set i (o+a*2^b % 4294967296))[i+1]? =some 0:=by rw[ai (by omega)];exact hz
 have h3:=tS (x:=a*2^b / 4294967296) h2;rw[dC ha,Nat.add_mul,b9];rw[gT]at h3;generalize a*2^b=t at*
 have h4:=Nat.div_add_mod t 4294967296;generalize t / 4294967296=q at*
 generalize t % 4294967296=r at*
 have h5:wt i*(o+r)=wt i*o+wt i*r:=bJ _ _ _;have h6:4294967296*wt i*q=wt i*(4294967296*q):=by rw[bL 4294967296 (wt i),b9]
 rw[<-h4,bJ];omega
def DZ(w w2:World)(v:Value)(ls:List Nat):Prop:=∃g,v= .slice (some ⟨g,0,none⟩) ls.length ls.length∧w.heap.size<=g∧w2.heap[g]? =some (.cells (U ls).toArray T.uint32 (0,0))∧Lm ls
theorem xP{S:Nat->Prop}{w:World}{v:Value}{ls:List Nat}{b:Nat}(hS:Old S w)(h:cV w S v ls)(hl:ls.length<=1000000000000)(hb:b<32):
  dQ PG N.jm #[v,.int .u64 b] w (dU w fun v' w2=>∃out,DZ w w2 v' out∧out.length=ls.length+1∧val out=val ls*2^b):=by
 obtain⟨x,rfl,rfl⟩:=h.la;refine mu (by simp) ?_;have hp32:2^b<=2^31:=Nat.pow_le_pow_right (by decide) (by omega);conv=>whnf
 refine⟨((x.ls.length+1:Nat):Int),by rw[wrap64]<;>omega,?_⟩;conv=>whnf
 refine⟨x.ls.length+1,x.ls.length+1,rfl,rfl,aI _,by omega,by omega,?_⟩;conv=>whnf
 refine⟨Nat×List Nat×World,fun z=>⟨[(1,.o (.v (.int .u64 b))),(5,.o (.s 0 0 (x.ls.length+1) (x.ls.length+1))),(13,.o (.v (.slice x.a x.ls.length x.c))),(14,.o (.v (.int .i64 x.ls.length))),(15,.o (.v (.int .i64 z.1)))],
   [(0,.arr T.uint32 (U z.2.1))],1,[],z.2.2⟩,fun z=>x.ls.length-z.1,
  fun z=>z.1<=x.ls.length∧cF w.heap.size w z.2.2∧z.2.1.length=x.ls.length+1∧Lm z.2.1∧val z.2.1=val (x.ls.take z.1)*2^b∧Zf z.2.1 (z.1+1)∧(∀o,z.2.1[z.1]? =some o->o<2^b),?_,?_⟩
 ·intro ρ w' r;rw[ou]at r;refine⟨(0,List.replicate (x.ls.length+1) 0,w'),⟨by simp,r.bs,by simp,Lm.replicate _,by simp[val,jz],fun j z _ hz=>?_,fun o ho=>?_⟩,Sub.gen [] r ⟨rfl,trivial⟩ ⟨rfl,rfl,rfl,rfl,rfl,trivial⟩ (by simp[cY,cN.scopd]) (by simp[cO,SV.sc,At.sc]) (by rfl) (by simp)⟩
  ·simp only[List.getElem?_replicate]at hz;split at hz<;>simp_all
  ·simp only[List.getElem?_replicate]at ho;split at ho
   ·injection ho with ho;subst ho;exact bY _
   ·cases ho
 ·rintro⟨i,out,w1⟩ ⟨hi,hw,hol,hlm1,hv,hz,hlow⟩;dsimp only at hi hw hol hlm1 hv hz hlow ⊢;conv=>whnf
  refine cW.mk (fun h=>?_) (fun h=>?_)
  ·have h:i<x.ls.length:=by simpa using h
   obtain⟨a,hxi⟩:∃k,x.ls[i]? =some k:=⟨_,aA h⟩
   obtain⟨ad,had,hload⟩:=x.load hS hw hxi;have hx32:=x.lm.at hxi;obtain⟨o,ho⟩:∃q,out[i]? =some q:=⟨_,aA (by omega)⟩
   obtain⟨o1,ho1⟩:∃q,out[i+1]? =some q:=⟨_,aA (by omega)⟩
   have e0:=hz _ _ (aI _) ho1;subst e0;have hlo:=hlow o ho;have hstep:=BT hxi ho ho1 hv;have hab:a*2^b<=4294967295*2^31:=Nat.mul_le_mul (by omega) hp32;have hhi:a*2^b / 4294967296<2^b:=by
    rw[Nat.div_lt_iff_lt_mul (by decide),bL (2^b)];exact Nat.mul_lt_mul_of_pos_right hx32 (bY b)
   have hor:o ||| a*2^b % 4294967296=o+a*2^b % 4294967296:=by
    have:a*2^b % 4294967296=2^b*(a % 2^(32-b)):=by
     rw[show (4294967296:Nat)=2^(32-b)*2^b by rw[<-Nat.pow_add,Nat.sub_add_cancel (by omega)],Nat.mul_mod_mul_right,bL]
    rw[this];exact yQ hlo
   have hsm:o+a*2^b % 4294967296<4294967296:=by
    rw[<-hor];exact yf (by omega) (bc _ (by decide))
   conv=>whnf
   refine⟨ad,had,⟨by omega,by omega⟩,?_⟩;conv=>whnf
   refine⟨.int .u32 a,hload _ _ _,?_⟩;conv=>whnf
   refine⟨(a:Int),de (by omega),?_⟩;conv=>whnf
   refine⟨by omega,((a*2^b:Nat):Int),yP (by omega) (by omega),?_⟩;generalize ht:a*2^b=t at*
   conv=>whnf
   refine⟨⟨by omega,by omega⟩,?_⟩;conv=>whnf
   refine⟨.int .u32 o,by rw[aB,aP,aR];exact qO ho,?_⟩;conv=>whnf
   refine⟨((t % 4294967296:Nat):Int),eC _,?_⟩;conv=>whnf
   refine⟨((o+t % 4294967296:Nat):Int),by rw[<-hor];exact GY (by omega) (bc _ (by decide)),?_⟩;conv=>whnf
   refine⟨⟨by omega,by omega⟩,?_⟩;conv=>whnf
   refine⟨by rw[ei];omega,U (out.set i (o+t % 4294967296)),gG out i _ (by omega) (by simp),?_⟩;conv=>whnf
   refine⟨((i+1:Nat):Int),by rw[wrap64]<;>omega,?_⟩;conv=>whnf
   refine⟨by decide,((t / 4294967296:Nat):Int),j3 32 (by decide),?_⟩;conv=>whnf
   refine⟨((t / 4294967296:Nat):Int),by rw[eC];omega,?_⟩;conv=>whnf
   refine⟨⟨by omega,by omega⟩,?_⟩;conv=>whnf
   refine⟨by rw[ei];simp;omega,U ((out.set i (o+t % 4294967296)).set (i+1) (t / 4294967296)),gG _ (i+1) _ (by simp;omega) (by simp only[aB];omega),?_⟩;conv=>whnf
   refine⟨((i+1:Nat):Int),by rw[wrap64]<;>omega,?_⟩;conv=>whnf
   intro ρ3 w3 r3
   refine⟨(i+1,(out.set i (o+t % 4294967296)).set (i+1) (t / 4294967296),w3),⟨by dsimp only;omega,hw.tr r3.bs,by simp[hol],(hlm1.set hsm).set (by omega),hstep,fun j z hj hjz=>?_,fun o2 ho2=>?_⟩,
    Sub.gen [] r3 ⟨rfl,trivial⟩ ⟨rfl,rfl,rfl,rfl,rfl,trivial⟩ (by simp[cY,cN.scopd]) (by simp[cO,SV.sc,At.sc]) (by rfl) (by simp),by dsimp only;omega⟩
   ·dsimp only at hj;rw[ai (by omega),ai (by omega)]at hjz;exact hz j z (by omega) hjz
   ·rw[aZ (by simp;omega)]at ho2;injection ho2 with ho2;omega
  ·have hin:i=x.ls.length:=by
    have:¬i<x.ls.length:=by simpa using h
    omega
   subst hin;rw[ah]at hv;conv=>whnf
   intro ρ3 w3 r3;refine⟨_,rfl,hw.tr r3.bs,out,⟨(ρ3 0).g,by rw[hol];rfl,(r3.low 0 _ rfl (r3.nn 0 _ rfl (by intros;simp) (by simp))).1,r3.arr 0 _ _ rfl,hlm1⟩,hol,hv⟩
theorem xj{out ls:List Nat}{i a d t b q:Nat}(ha32:a<4294967296)(ha:ls[i]? =some a)(hd:out[i]? =some d)(hb:b<=32)(ht:t=a+4294967296*ls.getD (i+1) 0)(hq:q=t / 2^b % 4294967296){V:Nat}(hv:val (out.take i)+wt i*(val (ls.drop i) / 2^b)=V):
  val ((out.set i q).take (i+1))+wt (i+1)*(val (ls.drop (i+1)) / 2^b)=V:=by
 have hi:=(aE.1 hd).1;have h1:(out.set i q)[i]? =some q:=by rw[aZ hi]
 rw[dC h1,List.take_set_of_le (aI _),gT,<-hv];have hN:=gL ha;have h2:val (ls.drop i) / 2^b=q+4294967296*(val (ls.drop (i+1)) / 2^b):=by
  have e1:val (ls.drop i) / 2^b / 4294967296=val (ls.drop (i+1)) / 2^b:=by
   rw[Nat.div_div_eq_div_mul,bL,<-Nat.div_div_eq_div_mul];congr 1;omega
  have e2:val (ls.drop i) / 2^b % 4294967296=q:=by
   have h3:∃z,val (ls.drop i)=t+2^b*(4294967296*z):=by
    cases hx:ls[i+1]? with
    |some y=>
     have:=gL hx;refine⟨2^(32-b)*val (ls.drop (i+1+1)),?_⟩;have h4:2^b*(4294967296*(2^(32-b)*val (ls.drop (i+1+1))))=18446744073709551616*val (ls.drop (i+1+1)):=by
      rw[Nat.mul_left_comm,<-b9 (2^b),<-Nat.pow_add,Nat.add_sub_cancel' hb,<-b9]
     rw[h4,hN,this,ht,List.getD,hx];simp only[Option.getD_some]
     omega
    |none=>
     refine⟨0,?_⟩;have h5:ls.length<=i+1:=List.getElem?_eq_none_iff.1 hx;rw[hN,List.drop_of_length_le h5,ht,List.getD,hx];simp[val]
   obtain⟨z,hz⟩:=h3;rw[hz,Nat.add_mul_div_left _ _ (bY b),Nat.add_mul_mod_self_left,hq]
  have:=Nat.div_add_mod (val (ls.drop i) / 2^b) 4294967296;rw[e1,e2]at this;omega
 rw[h2,bJ,bL 4294967296 (wt i),b9];omega
theorem Fb{S:Nat->Prop}{w:World}{v:Value}{ls:List Nat}{b:Nat}(hS:Old S w)(h:cV w S v ls)(hl:ls.length<=1000000000000)(hb:b<32):
  dQ PG N.mh #[v,.int .u64 b] w (dU w fun v' w2=>dI w2 (Nw (fun _=>False) w w2) v' (val ls / 2^b)):=by
 obtain⟨x,rfl,rfl⟩:=h.la;refine qM (by simp) ?_;conv=>whnf
 refine⟨x.ls.length,x.ls.length,rfl,rfl,aI _,by omega,by omega,?_⟩;conv=>whnf
 refine⟨Nat×List Nat×World,fun z=>⟨[(0,.o (.v (.slice x.a x.ls.length x.c))),(1,.o (.v (.int .u64 b))),(5,.o (.s 0 0 x.ls.length x.ls.length)),(12,.o (.v (.int .i64 x.ls.length))),(13,.o (.v (.int .i64 z.1)))],
   [(0,.arr T.uint32 (U z.2.1))],1,[],z.2.2⟩,fun z=>x.ls.length-z.1,
  fun z=>z.1<=x.ls.length∧cF w.heap.size w z.2.2∧z.2.1.length=x.ls.length∧Lm z.2.1∧val (z.2.1.take z.1)+wt z.1*(val (x.ls.drop z.1) / 2^b)=val x.ls / 2^b,?_,?_⟩
 ·intro ρ w' r;rw[ou]at r;exact⟨(0,List.replicate x.ls.length 0,w'),⟨by simp,r.bs,by simp,Lm.replicate _,by simp[val,gS]⟩,Sub.gen [] r ⟨rfl,trivial⟩ ⟨rfl,rfl,rfl,rfl,rfl,trivial⟩ (by simp[cY,cN.scopd]) (by simp[cO,SV.sc,At.sc]) (by rfl) (by simp)⟩
 ·rintro⟨i,out,w1⟩ ⟨hi,hw,hol,hlm1,hv⟩;dsimp only at hi hw hol hlm1 hv ⊢;conv=>whnf
  refine cW.mk (fun h=>?_) (fun h=>?_)
  ·have h:i<x.ls.length:=by simpa using h
   obtain⟨a,hxi⟩:∃k,x.ls[i]? =some k:=⟨_,aA h⟩
   obtain⟨ad,had,hload⟩:=x.load hS hw hxi;have hx32:=x.lm.at hxi;obtain⟨d,hd⟩:∃q,out[i]? =some q:=⟨_,aA (by omega)⟩
   conv=>whnf
   refine⟨ad,had,⟨by omega,by omega⟩,?_⟩;conv=>whnf
   refine⟨.int .u32 a,hload _ _ _,?_⟩;conv=>whnf
   refine⟨(a:Int),de (by omega),?_⟩;conv=>whnf
   refine⟨((i+1:Nat):Int),by rw[wrap64]<;>omega,?_⟩;conv=>whnf
   refine cW.mk (fun h2=>?_) (fun h2=>?_)
   ·have h2:i+1<x.ls.length:=by
     have:((i+1:Nat):Int)<x.ls.length:=aG h2;omega
    obtain⟨y,hy⟩:∃k,x.ls[i+1]? =some k:=⟨_,aA h2⟩
    obtain⟨ad2,had2,hload2⟩:=x.load hS hw hy;have hy32:=x.lm.at hy;have hgd:x.ls.getD (i+1) 0=y:=by simp[List.getD,hy]
    have hor:a ||| y*2^32=a+4294967296*y:=by
     rw[bL];exact yQ (k:=32) hx32
    conv=>whnf
    refine⟨((i+1:Nat):Int),by rw[wrap64]<;>omega,?_⟩;conv=>whnf
    refine⟨ad2,had2,⟨by omega,by omega⟩,?_⟩;conv=>whnf
    refine⟨.int .u32 y,hload2 _ _ _,?_⟩;conv=>whnf
    refine⟨(y:Int),de (by omega),?_⟩;conv=>whnf
    refine⟨by decide,((y*2^32:Nat):Int),yP (k:=32) (by decide) (by omega),?_⟩;conv=>whnf
    refine⟨((a+4294967296*y:Nat):Int),by rw[DX (by omega) (by omega),hor],?_⟩;conv=>whnf
    refine⟨by omega,(((a+4294967296*y) / 2^b:Nat):Int),j3 b (by omega),?_⟩;conv=>whnf
    refine⟨(((a+4294967296*y) / 2^b % 4294967296:Nat):Int),eC _,?_⟩;have hstep:=xj (t:=a+4294967296*y) hx32 hxi hd (by omega) (by rw[hgd]) rfl hv;generalize hq:(a+4294967296*y) / 2^b % 4294967296=q at*
    have hq32:q<4294967296:=by rw[<-hq];exact bc _ (by decide)
    conv=>whnf
    refine⟨⟨by omega,by omega⟩,?_⟩;conv=>whnf
    refine⟨by rw[ei];omega,U (out.set i q),gG out i _ (by omega) (by simp),?_⟩;conv=>whnf
    refine⟨((i+1:Nat):Int),by rw[wrap64]<;>omega,?_⟩;conv=>whnf
    intro ρ3 w3 r3
    exact⟨(i+1,out.set i q,w3),⟨by dsimp only;omega,hw.tr r3.bs,by simp[hol],hlm1.set hq32,hstep⟩,
     Sub.gen [] r3 ⟨rfl,trivial⟩ ⟨rfl,rfl,rfl,rfl,rfl,trivial⟩ (by simp[cY,cN.scopd]) (by simp[cO,SV.sc,At.sc]) (by rfl) (by simp),by dsimp only;omega⟩
   ·have h2:¬i+1<x.ls.length:=by
     have:¬((i+1:Nat):Int)<x.ls.length:=aF h2;omega
    have hgd:x.ls.getD (i+1) 0=0:=by simp[List.getD,List.getElem?_eq_none (show x.ls.length<=i+1 by omega)]
    conv=>whnf
    refine⟨by omega,((a / 2^b:Nat):Int),j3 b (by omega),?_⟩;conv=>whnf
    refine⟨((a / 2^b % 4294967296:Nat):Int),eC _,?_⟩;have hstep:=xj (t:=a) hx32 hxi hd (by omega) (by rw[hgd];omega) rfl hv;generalize hq:a / 2^b % 4294967296=q at*
    have hq32:q<4294967296:=by rw[<-hq];exact bc _ (by decide)
    conv=>whnf
    refine⟨⟨by omega,by omega⟩,?_⟩;conv=>whnf
    refine⟨by rw[ei];omega,U (out.set i q),gG out i _ (by omega) (by simp),?_⟩;conv=>whnf
    refine⟨((i+1:Nat):Int),by rw[wrap64]<;>omega,?_⟩;conv=>whnf
    intro ρ3 w3 r3
    exact⟨(i+1,out.set i q,w3),⟨by dsimp only;omega,hw.tr r3.bs,by simp[hol],hlm1.set hq32,hstep⟩,
     Sub.gen [] r3 ⟨rfl,trivial⟩ ⟨rfl,rfl,rfl,rfl,rfl,trivial⟩ (by simp[cY,cN.scopd]) (by simp[cO,SV.sc,At.sc]) (by rfl) (by simp),by dsimp only;omega⟩
  ·have hin:i=x.ls.length:=by
    have:¬i<x.ls.length:=by simpa using h
    omega
   subst hin;have hfin:val out=val x.ls / 2^b:=by
    rw[List.drop_length,List.take_of_length_le (by omega)]at hv;simpa [val]using hv
   conv=>whnf
   refine fF (Φ:=fun ρ _ v w2=>cV w2 (fun g=>g=(ρ 0).g) v (dG out)) (H':=[]) 0 rfl (by simp) trivial rfl (fun ρ w' r=>r.nn 0 _ rfl (by intros;simp) (by simp)) (fun ρ w' r=>?_) ?_
   ·have hL:=r.k8 (id:=0) rfl hlm1 (by omega);rw[hol]at hL;exact eK (fun g hg=>by rw[hg];exact(r.low 0 _ rfl (r.nn 0 _ rfl (by intros;simp) (by simp))).2) hL
   rintro ρ w' v w2 r he hb hL;replace hw:=hw.tr hb;have hlow:=r.low 0 _ rfl (r.nn 0 _ rfl (by intros;simp) (by simp));generalize (ρ 0).g=g at*
   have hs:=he.size;clear r he hb;conv=>whnf
   intro ρ3 w3 r3;refine⟨_,rfl,hw.tr r3.bs,dG out,?_,(dw out).2.1,?_⟩
   ·refine(hL.bu fun k hk=>?_).bz fun k hk=>.inr ?_
    ·rw[hk];exact r3.mw.block g (by omega) (by simp)
    ·rw[hk];have:=r3.size;omega
   ·rw[(dw out).1,hfin]
theorem BV{out ls:List Nat}{k by_ rest x d t:Nat}(hx:ls[k]? =some x)(hd:out[k]? =some d)(ht:t=rest*4294967296+x)
  (hv:val (ls.drop (k+1))=by_*val (out.drop (k+1))+rest):val (ls.drop k)=by_*val ((out.set k (t / by_)).drop k)+t % by_:=by
 have hi:=(aE.1 hd).1;have h1:(out.set k (t / by_))[k]? =some (t / by_):=by rw[aZ hi]
 rw[gL h1,List.drop_set_of_lt (show k<k+1 by omega),gL hx,hv,bJ,bJ];have h2:=Nat.div_add_mod t by_;rw[Nat.mul_left_comm by_];omega
theorem DY{t b:Nat}(h:t<18446744073709551616):IntKind.u64.wrap ((t:Int).tdiv (b:Int))=((t / b:Nat):Int):=by
 have h1:=Nat.div_le_self t b;rw[Int.tdiv_eq_ediv_of_nonneg (by omega),<-Int.natCast_ediv];exact de (by omega)
theorem Dz(t b:Nat):(t:Int).tmod (b:Int)=((t % b:Nat):Int):=by
 rw[Int.tmod_eq_emod_of_nonneg (by omega),<-Int.natCast_emod]
theorem Eb{S:Nat->Prop}{w:World}{v:Value}{ls:List Nat}{b:Nat}(hS:Old S w)(h:cV w S v ls)(hl:ls.length<=1000000000000)(hb:0<b)(hb2:b<4294967296):
  dQ PG N.lf #[v,.int .u32 b] w (dU w fun v' w2=>∃q,v'= .tuple #[q,.int .u32 ((val ls % b:Nat):Int)]∧dI w2 (Nw (fun _=>False) w w2) q (val ls / b)):=by
 obtain⟨x,rfl,rfl⟩:=h.la;refine oo (by simp) ?_;conv=>whnf
 refine⟨x.ls.length,x.ls.length,rfl,rfl,aI _,by omega,by omega,?_⟩;conv=>whnf
 refine⟨(x.ls.length:Int)-1,by rw[wrap64]<;>omega,?_⟩;conv=>whnf
 refine⟨Nat×Nat×List Nat×World,fun z=>⟨[(0,.o (.v (.slice x.a x.ls.length x.c))),(1,.o (.v (.int .u32 b))),(4,.o (.v (.slice none 0 0))),(5,.o (.v (.int .u32 0))),(6,.o (.s 0 0 x.ls.length x.ls.length)),(7,.o (.v (.int .u64 z.2.1))),(8,.o (.v (.int .i64 ((z.1:Int)-1))))],
   [(0,.arr T.uint32 (U z.2.2.1))],1,[],z.2.2.2⟩,fun z=>z.1,
  fun z=>z.1<=x.ls.length∧cF w.heap.size w z.2.2.2∧z.2.2.1.length=x.ls.length∧Lm z.2.2.1∧z.2.1<b∧val (x.ls.drop z.1)=b*val (z.2.2.1.drop z.1)+z.2.1,?_,?_⟩
 ·intro ρ w' r;rw[ou]at r;exact⟨(x.ls.length,0,List.replicate x.ls.length 0,w'),⟨by simp,r.bs,by simp,Lm.replicate _,by simpa using hb,by simp[val]⟩,Sub.gen [] r ⟨rfl,trivial⟩ ⟨rfl,rfl,rfl,rfl,rfl,rfl,rfl,trivial⟩ (by simp[cY,cN.scopd]) (by simp[cO,SV.sc,At.sc]) (by rfl) (by simp)⟩
 ·rintro⟨k,rest,out,w1⟩ ⟨hi,hw,hol,hlm1,hr,hv⟩;dsimp only at hi hw hol hlm1 hr hv ⊢;conv=>whnf
  refine cW.mk (fun h=>?_) (fun h=>?_)
  ·have h:(k:Int)-1≥0:=aG h;obtain⟨k,rfl⟩:∃q,k=q+1:=⟨k-1,by omega⟩
   rw[show ((k+1:Nat):Int)-1=(k:Int) by omega];obtain⟨a,hxi⟩:∃q,x.ls[k]? =some q:=⟨_,aA (by omega)⟩
   obtain⟨ad,had,hload⟩:=x.load hS hw hxi;have hx32:=x.lm.at hxi;obtain⟨d,hd⟩:∃q,out[k]? =some q:=⟨_,aA (by omega)⟩
   conv=>whnf
   refine⟨by decide,((rest*2^32:Nat):Int),yP (k:=32) (by decide) (by omega),?_⟩;conv=>whnf
   refine⟨ad,had,⟨by omega,by omega⟩,?_⟩;conv=>whnf
   refine⟨.int .u32 a,hload _ _ _,?_⟩;conv=>whnf
   refine⟨(a:Int),de (by omega),?_⟩;conv=>whnf
   have hor:rest*2^32 ||| a=rest*4294967296+a:=by
    rw[Nat.or_comm,bL,yQ (k:=32) hx32];omega
   refine⟨((rest*4294967296+a:Nat):Int),by rw[DX (by omega) (by omega),hor],?_⟩;conv=>whnf
   generalize ht:rest*4294967296+a=t;have ht64:t<18446744073709551616:=by omega
   refine bw hτ dH [.x 0,.x 1,.x 2,.x 3,.x 4,.x 5,.x 6,.x 7,.x 8,.x 9,.x 10,.x 11,.x 12,.x 13] (by kernel_rfl) (by kernel_rfl) ?_;conv=>whnf
   refine⟨(b:Int),de (by omega),?_⟩;conv=>whnf
   refine⟨by omega,((t / b:Nat):Int),DY ht64,?_⟩;have hq:t / b<4294967296:=by
    rw[Nat.div_lt_iff_lt_mul hb];have:=Nat.mul_le_mul_right 4294967296 hr;rw[Nat.succ_eq_add_one,Nat.add_mul]at this;omega
   have hm:t % b<b:=bc _ hb;have hstep:=BV hxi hd ht.symm hv;have hw32:IntKind.u32.wrap ((t / b:Nat):Int)=((t / b:Nat):Int):=by rw[eC,bD hq]
   have hrem:=Dz t b;generalize t / b=q at*
   generalize t % b=m at*
   conv=>whnf
   refine⟨(q:Int),hw32,?_⟩;conv=>whnf
   refine⟨(b:Int),de (by omega),?_⟩;conv=>whnf
   refine⟨by omega,(m:Int),hrem,?_⟩;conv=>whnf
   refine⟨⟨by omega,by omega⟩,?_⟩;conv=>whnf
   refine⟨by rw[ei];omega,U (out.set k q),gG out k _ (by omega) (by simp),?_⟩;conv=>whnf
   refine⟨(k:Int)-1,by rw[wrap64]<;>omega,?_⟩;conv=>whnf
   intro ρ3 w3 r3
   exact⟨(k,m,out.set k q,w3),⟨by dsimp only;omega,hw.tr r3.bs,by simp[hol],hlm1.set hq,hm,hstep⟩,
    Sub.gen [] r3 ⟨rfl,trivial⟩ ⟨rfl,rfl,rfl,rfl,rfl,rfl,rfl,trivial⟩ (by simp[cY,cN.scopd]) (by simp[cO,SV.sc,At.sc]) (by rfl) (by simp),by dsimp only;omega⟩
  ·have hk0:k=0:=by
    have:¬(k:Int)-1≥0:=aF h;omega
   subst hk0;rw[List.drop_zero,List.drop_zero]at hv;have hdm:val x.ls / b=val out∧val x.ls % b=rest:=by
    rw[hv];exact⟨by rw[Nat.mul_add_div hb,Nat.div_eq_of_lt hr,bg],by rw[Nat.mul_add_mod,bD hr]⟩
   rw[hdm.1,hdm.2];conv=>whnf
   refine fF (Φ:=fun ρ _ v w2=>cV w2 (fun g=>g=(ρ 0).g) v (dG out)) (H':=[]) 0 rfl (by simp) trivial rfl (fun ρ w' r=>r.nn 0 _ rfl (by intros;simp) (by simp)) (fun ρ w' r=>?_) ?_
   ·have hL:=r.k8 (id:=0) rfl hlm1 (by omega);rw[hol]at hL;exact eK (fun g hg=>by rw[hg];exact(r.low 0 _ rfl (r.nn 0 _ rfl (by intros;simp) (by simp))).2) hL
   rintro ρ w' v w2 r he hb hL;replace hw:=hw.tr hb;have hlow:=r.low 0 _ rfl (r.nn 0 _ rfl (by intros;simp) (by simp));generalize (ρ 0).g=g at*
   have hs:=he.size;clear r he hb;conv=>whnf
   refine⟨(rest:Int),by rw[eC,bD (by omega)],?_⟩;conv=>whnf
   intro ρ3 w3 r3;refine⟨_,rfl,hw.tr r3.bs,v,rfl,dG out,?_,(dw out).2.1,(dw out).1⟩;refine(hL.bu fun k hk=>?_).bz fun k hk=>.inr ?_
   ·rw[hk];exact r3.mw.block g (by omega) (by simp)
   ·rw[hk];have:=r3.size;omega
end Go.Ex
