/- A part of the proof: texts X49 to X61. Each tells its conditions in its theorems. -/
import Derived.Test.YtkdcaknoaeicdaaGreatP4
import Derived.Test.YtkdcaknoaeicdaaGreatP5
namespace Go.Ex
open Go Go.Sx Go.Proofs
variable{S:Nat->Prop}{O:Nat->Sx.df}{a a2:Option Addr}{q:Rat}{u:Value}{w:World}
theorem KN{v:Value}{n1 n2:Bool}{ls ms:List Nat}(hS:Old S w)(hx:tY w S v n1 ls)(hy:tY w S u n2 ms):
  dm PG N.mD #[v,u] w (eB w fun v' _=>v'= .bool (decide (n1=n2∧ls=ms))):=by
 obtain⟨lv,rfl,h1⟩:=hx;obtain⟨mv,rfl,h2⟩:=hy;obtain⟨a,c,rfl,_,ha⟩:=h1.sl;obtain⟨b,e,rfl,_,hb⟩:=h2.sl;have hle1:=h1.le;have hle2:=h2.le;have hw:cV w.heap.size w w:=cV.refl;refine uT (by simp) ?_;refine dI.mk (fun hn=>?_) (fun hn=>?_)
 ·have hn:n1≠n2:=fun h=>by rw[h]at hn;simp at hn
  intro O w2 r;exact⟨_,rfl,r.cM,by rw[bF (fun h=>hn h.1)];rfl⟩
 have hn:n1=n2:=by simpa using hn
 subst hn;refine dI.mk (fun h=>?_) (fun h=>?_)
 ·have h:ls.length≠ms.length:=fun he=>by rw[he]at h;simp at h
  intro O w2 r;exact⟨_,rfl,r.cM,by rw[bF (fun e=>h (by rw[e.2]))];rfl⟩
 have h:ls.length=ms.length:=by
  have:(ls.length:Int)=ms.length:=by simpa using h
  omega
 refine⟨Nat×World,fun z=>⟨[(2,.o (.p 0 0)),(3,.o (.p 1 0)),(5,.o (.v (.int .i64 z.1)))],[(1,.box T.Int [.v (.bool n1),.v (.slice b ms.length e)]),(0,.box T.Int [.v (.bool n1),.v (.slice a ls.length c)])],2,[],z.2⟩,fun z=>ls.length-z.1,
  fun z=>z.1<=ls.length∧cV w.heap.size w z.2∧ls.take z.1=ms.take z.1,?_,?_⟩
 ·intro O w' r;exact⟨(0,w'),⟨by simp,r.cM,by simp⟩,Sub.gn [] r⟩
 rintro⟨i,w1⟩ ⟨hi,hw,ht⟩;dsimp only at hi hw ht ⊢;refine dI.mk (fun hib=>?_) (fun hib=>?_)
 ·have hib:i<ls.length:=by simpa using hib
  obtain⟨x,hx⟩:∃x,ls[i]? =some x:=⟨_,aB hib⟩
  obtain⟨y,hy⟩:∃x,ms[i]? =some x:=⟨_,aB (by omega)⟩
  obtain⟨ad,rfl,q1,q2⟩:=ha i x hx;obtain⟨ad2,rfl,q3,q4⟩:=hb i y hy;have hlx:∀{H nx iv O w'},Rel H nx iv w.heap.size w1 O w'->w'.cell? (ad.add ((i:Int).toNat*1))=some (.int .u32 x):=fun r=>by
   rw[aF,aU];exact jX hS hw r q1 q2
  have hly:∀{H nx iv O w'},Rel H nx iv w.heap.size w1 O w'->w'.cell? (ad2.add ((i:Int).toNat*1))=some (.int .u32 y):=fun r=>by
   rw[aF,aU];exact jX hS hw r q3 q4
  refine cJ hτ db [.x 0,.x 1,.x 2,.x 3,.x 4,.x 5,.x 6,.x 7,.x 8,.x 9,.x 10] (by kernel_rfl) (by kernel_rfl) ?_;refine⟨ad,rfl,by omega,.int .u32 x,fun O w' r=>hlx r,ad2,rfl,by omega,.int .u32 y,fun O w' r=>hly r,?_⟩;refine dI.mk (fun hne=>?_) (fun hne=>?_)
  ·have hne:x≠y:=fun h=>by rw[h]at hne;simp at hne
   intro O w2 r;refine⟨_,rfl,hw.tr r.cM,?_⟩
   rw[bF (fun e=>hne (by
    have:=e.2;rw[this,hy]at hx;injection hx with hx
    exact hx.symm))]
   rfl
  have hne:x=y:=by
   have:(x:Int)=y:=by simpa using hne
   omega
  subst hne;have ht2:ls.take (i+1)=ms.take (i+1):=by rw[List.take_add_one,List.take_add_one,ht,hx,hy]
  refine⟨((i+1:Nat):Int),wo,?_⟩;intro ρ3 w3 r3;exact⟨(i+1,w3),⟨hib,hw.tr r3.cM,ht2⟩,Sub.gn [] r3,by dsimp only;omega⟩
 have hib:i=ls.length:=by
  have:¬i<ls.length:=by simpa using hib
  omega
 subst hib;rw[bE,h,bE]at ht;intro O w2 r;exact⟨_,rfl,hw.tr r.cM,by rw[bR ⟨rfl,ht⟩];rfl⟩
theorem HL{a b:List Nat}(la:Lm a)(lb:Lm b)(na:Nz a)(nb:Nz b)(h:val a=val b):a=b:=by
 have:a.length=b.length:=by
  rcases bq a.length b.length with h1|h1|h1
  ·have:=iM la nb h1;omega
  ·exact h1
  ·have:=iM lb na h1;omega
 exact val_inj la lb this h
theorem qL{v:Value}{x y:Int}(hS:Old S w)(hx:dC w S v x)(hy:dC w S u y):
  dm PG N.mD #[v,u] w (eB w fun v' _=>v'= .bool (decide (x=y))):=by
 obtain⟨ls,h1,h2,h3⟩:=hx;obtain⟨ms,k1,k2,k3⟩:=hy;have e:decide (decide (x<0)=decide (y<0)∧ls=ms)=decide (x=y):=by
  refine decide_eq_decide.2 ⟨fun ⟨e1,e2⟩=>?_,fun e1=>?_⟩
  ·have e1:=decide_eq_decide.1 e1;rw[e2]at h3;omega
  ·subst e1;obtain⟨_,_,l1⟩:=h1;obtain⟨_,_,l2⟩:=k1;exact⟨rfl,HL l1.lm l2.lm h2 k2 (by omega)⟩
 exact(KN hS h1 k1).mono fun _ w2 ⟨v2,e1,e2,e3⟩=>⟨v2,e1,e2,by rw[e3,e]⟩
theorem FC{v:Value}{p:Rat}(hS:Old S w)(hx:cP w S v p)(hy:cP w S u q):
  dm PG N.rS #[v,u] w (eB w fun v' _=>v'= .bool (decide (p=q))):=by
 obtain⟨b1,a1,n1,c1,b2,a2,n2,c2,rfl⟩:=hx.shape;obtain⟨b3,a3,n3,c3,b4,a4,n4,c4,rfl⟩:=hy.shape;refine qm (by simp) ?_;refine cC (cL (Φ:=fun _ w' v w2=>v= .bool (decide (p.num=q.num))) (fun O w' r=>qL (oS hS r) (hx.num.cG fun g hg=>r.cM.block g (hS g hg)) (hy.num.cG fun g hg=>r.cM.block g (hS g hg))) ?_);rintro O wa v1 wb r he hb rfl;have hw:=hb;generalize (wa.heap.size,wb.heap.size)::[]=iv at*
 refine dI.mk (fun h=>?_) (fun h=>?_)
 ·have h:=aI h;refine cC (cE hw (fun _ w' v w2=>v= .bool (decide ((p.den:Int)=q.den))) (fun O w' r=>qL (oS hS r) (hx.den.cG (kS hw r hS)) (hy.den.cG (kS hw r hS))) ?_);rintro O wa v1 wb2 iv2 r he hw h_ rfl;intro ρe we re;refine⟨_,rfl,hw.tr re.cM,?_⟩;have:decide (p=q)=decide ((p.den:Int)=q.den):=decide_eq_decide.2 ⟨fun e=>by rw[e],fun e=>Rat.ext h (by omega)⟩;rw[this];rfl
 ·have h:=aH h;intro ρe we re;refine⟨_,rfl,hw.tr re.cM,?_⟩;rw[bF (fun e=>h (by rw[e]))];rfl
theorem zN{v:Value}{xs ys:List Rat}(hS:Old S w)(hx:cO w S v xs)(hy:cO w S u ys):
  dm PG N.oq #[v,u] w (eB w fun v' _=>v'= .bool (decide (xs=ys))):=by
 obtain⟨a,c,rfl,hc,hm⟩:=dL.shape hx;obtain⟨b,e,rfl,hc2,hm2⟩:=dL.shape hy;unfold maxLen at hm hm2;refine tB (by simp) ?_;refine dI.mk (fun h=>?_) (fun h=>?_)
 ·have h:xs.length≠ys.length:=fun he=>by rw[he]at h;simp at h
  intro O w2 r;exact⟨_,rfl,r.cM,by rw[bF (fun e=>h (by rw[e]))];rfl⟩
 have h:xs.length=ys.length:=by
  have:(xs.length:Int)=ys.length:=by simpa using h
  omega
 refine⟨Nat×World,fun z=>⟨[(0,.o (.v (.slice a xs.length c))),(1,.o (.v (.slice b ys.length e))),(5,.o (.v (.int .i64 z.1)))],[],0,[],z.2⟩,fun z=>xs.length-z.1,
  fun z=>z.1<=xs.length∧cV w.heap.size w z.2∧xs.take z.1=ys.take z.1,?_,?_⟩
 ·intro O w' r;exact⟨(0,w'),⟨by simp,r.cM,by simp⟩,Sub.gn [] r⟩
 rintro⟨i,w1⟩ ⟨hi,hw,ht⟩;dsimp only at hi hw ht ⊢;refine dI.mk (fun hib=>?_) (fun hib=>?_)
 ·have hib:i<xs.length:=by simpa using hib
  obtain⟨x,hxi⟩:∃x,xs[i]? =some x:=⟨_,aB hib⟩
  obtain⟨y,hyi⟩:∃x,ys[i]? =some x:=⟨_,aB (by omega)⟩
  obtain⟨ad2,cs2,rfl,hR2,-,hl2⟩:=dL.load hy hyi;obtain⟨p2,q2,r2,s2,t2,u2,v2,w2,rfl,hR2⟩:=hR2;obtain⟨ad,cs,rfl,hR,-,hl⟩:=dL.load hx hxi;obtain⟨p1,q1,r1,s1,t1,u1,v1,w1,rfl,hR⟩:=hR;refine cJ hτ db [.x 0,.x 1,.x 2,.x 3,.x 4,.x 5,.x 6,.x 7,.x 8,.x 9] (by kernel_rfl) (by kernel_rfl) ?_;refine⟨ad,rfl,by omega,[.bool p1,.slice q1 r1 s1,.bool t1,.slice u1 v1 w1],rfl,rdO hl hw hS,ad2,rfl,by omega,[.bool p2,.slice q2 r2 s2,.bool t2,.slice u2 v2 w2],rfl,rdO hl2 hw hS,?_⟩;refine cE hw (fun _ w' v w2=>v= .bool (decide (x=y))) (fun O w' r=>FC (oS hS r) (hR.cG (kS hw r hS)) (hR2.cG (kS hw r hS))) ?_;rintro O wa v1 wb iv2 r he hw h_ rfl;refine dI.mk (fun hne=>?_) (fun hne=>?_)
  ·have hne:x≠y:=fun h=>by rw[h]at hne;simp at hne
   intro O w2 r;refine⟨_,rfl,hw.tr r.cM,?_⟩
   rw[bF (fun e=>hne (by
    rw[e,hyi]at hxi;injection hxi with hxi
    exact hxi.symm))]
   rfl
  have hne:x=y:=by simpa using hne
  subst hne;have ht2:xs.take (i+1)=ys.take (i+1):=by rw[List.take_add_one,List.take_add_one,ht,hxi,hyi]
  refine⟨((i+1:Nat):Int),wo,?_⟩;intro ρ3 w3 r3;exact⟨(i+1,w3),⟨hib,hw.tr r3.cM,ht2⟩,Sub.gn [] r3,by dsimp only;omega⟩
 have hib:i=xs.length:=by
  have:¬i<xs.length:=by simpa using hib
  omega
 subst hib;rw[bE,h,bE]at ht;intro O w2 r;exact⟨_,rfl,hw.tr r.cM,by rw[bR ht];rfl⟩
theorem cP.four{b b2:Bool}{n c n2 c2:Nat}(h:cP w S (.agg #[.bool b,.slice a n c,.bool b2,.slice a2 n2 c2]) q):AE w S [.bool b,.slice a n c,.bool b2,.slice a2 n2 c2] (q.num,(q.den:Int)):=
 ⟨b,a,n,c,b2,a2,n2,c2,rfl,h.r⟩
theorem cP.pS{b b2:Bool}{n c n2 c2:Nat}(h:cP w S (.agg #[.bool b,.slice a n c,.bool b2,.slice a2 n2 c2]) q):gg w S [.bool b,.slice a n c,.bool b2,.slice a2 n2 c2] q:=
 ⟨b,a,n,c,b2,a2,n2,c2,rfl,h⟩
theorem Rel.lt{H:Hp}{nx:Nat}{iv:Iv}{B:Nat}{w':World}(r:Rel H nx iv B w O w'){id t:Nat}{cs:List At}(h:dA H id=some (.box t cs)):(O id).g<w'.heap.size:=(r.low id _ h (r.nn id _ h (by intros;simp) (by simp))).2
end Go.Ex
namespace Go.Ex
variable{cs:List Int}{ls:List Nat}{i:Nat}{f:Nat->Int}
def fN(f:Nat->Int):Nat->Int
 |0=>0
 |n+1=>f 0+65536*fN (fun i=>f (i+1)) n
theorem yV(f:Nat->Int)(n:Nat):dJ ((List.range n).map f)=fN f n:=by
 induction n generalizing f with
 |zero=>rfl
 |succ n ih=>
  rw[List.range_succ_eq_map,List.map_cons,List.map_map,dJ,fN,<-ih];rfl
theorem yW(f g:Nat->Int)(n:Nat):fN (fun i=>f i+g i) n=fN f n+fN g n:=by
 induction n generalizing f g with
 |zero=>rfl
 |succ n ih=>simp only[fN,ih];omega
theorem Ec(k:Int)(f:Nat->Int)(n:Nat):fN (fun i=>k*f i) n=k*fN f n:=by
 induction n generalizing f with
 |zero=>simp[fN]
 |succ n ih=>simp only[fN,ih,Int.mul_add];rw[Int.mul_left_comm]
theorem vH{n:Nat}(h:∀i,i<n->f i=0):fN f n=0:=by
 induction n generalizing f with
 |zero=>rfl
 |succ n ih=>rw[fN,h 0 (by omega),ih fun i hi=>h (i+1) (by omega)];rfl
theorem om(a:List Int)(n:Nat)(h:a.length<=n):fN (fun i=>a.getD i 0) n=dJ a:=by
 induction a generalizing n with
 |nil=>exact vH fun i _=>by simp
 |cons c r ih=>
  obtain⟨m,rfl⟩:∃m,n=m+1:=⟨n-1,by simp at h;omega⟩
  have e:=ih m (by simpa using h);rw[fN,dJ,<-e];simp[List.getD]
def gq(a b:List Int)(i:Nat):Nat->Int
 |0=>0
 |k+1=>gq a b i k+a.getD k 0*(if k<=i then b.getD (i-k) 0 else 0)
def fa(a b:List Int)(i:Nat):Int:=gq a b i (i+1)
theorem Gk(b:List Int)(i k:Nat):gq [] b i k=0:=by
 induction k with
 |zero=>rfl
 |succ k ih=>rw[gq,ih];simp
theorem Ed(c:Int)(r b:List Int)(i k:Nat):gq (c::r) b (i+1) (k+1)=c*b.getD (i+1) 0+gq r b i k:=by
 induction k with
 |zero=>simp[gq]
 |succ k ih=>
  rw[gq,ih,gq];have e:(c::r).getD (k+1) 0=r.getD k 0:=by simp[List.getD]
  rw[e];have e2:(if k+1<=i+1 then b.getD (i+1-(k+1)) 0 else 0)=(if k<=i then b.getD (i-k) 0 else 0):=by
   by_cases h:k<=i
   ·rw[if_pos h,if_pos (by omega),show i+1-(k+1)=i-k by omega]
   ·rw[aK h,aK (by omega)]
  rw[e2,Int.add_assoc]
theorem DS(c:Int)(r b:List Int)(i:Nat):fa (c::r) b (i+1)=c*b.getD (i+1) 0+fa r b i:=Ed c r b i (i+1)
theorem DT(c:Int)(r b:List Int):fa (c::r) b 0=c*b.getD 0 0:=by simp[fa,gq]
theorem IQ(a b:List Int)(n:Nat)(h:a.length+b.length<=n+1):fN (fa a b) n=dJ a*dJ b:=by
 induction a generalizing n with
 |nil=>
  rw[show fa [] b=fun _=>(0:Int)from funext fun i=>Gk b i _,vH fun _ _=>rfl];simp[dJ]
 |cons c r ih=>
  cases n with
  |zero=>
   have hb:b=[]:=List.eq_nil_of_length_eq_zero (by simp at h;omega);subst hb;simp[fN,dJ]
  |succ m=>
   have e1:fN (fa (c::r) b) (m+1)=fN (fun i=>c*b.getD i 0) (m+1)+65536*fN (fa r b) m:=by
    have e2:fN (fun i=>fa (c::r) b (i+1)) m=fN (fun i=>c*b.getD (i+1) 0) m+fN (fa r b) m:=by
     rw[<-yW];congr 1
     funext i
     exact DS c r b i
    rw[fN,fN,e2,DT,Int.mul_add];omega
   have h':r.length+b.length<=m+1:=by simp at h;omega
   rw[e1,ih m h',Ec,om b (m+1) (by omega),dJ,Int.add_mul,Int.mul_assoc]
theorem Ee(a b:List Int)(i k k0:Nat)(h0:∀j,j<k0->b.length<=i-j)(hk:k0<=i+1)(h:k<=k0):gq a b i k=0:=by
 induction k with
 |zero=>rfl
 |succ k ih=>
  rw[gq,ih (by omega),if_pos (by omega)];have:b.getD (i-k) 0=0:=by rw[List.getD,List.getElem?_eq_none (h0 k (by omega))];rfl
  rw[this];simp
theorem Ef(a b:List Int)(i k m:Nat)(h:a.length<=k):gq a b i (k+m)=gq a b i k:=by
 induction m with
 |zero=>rfl
 |succ m ih=>
  rw[<-Nat.add_assoc,gq,ih];have:a.getD (k+m) 0=0:=by rw[List.getD,List.getElem?_eq_none (by omega)];rfl
  rw[this];simp
theorem lN{a b:List Int}(ha:∀x∈a,-65535<=x∧x<=65535)(hb:∀x∈b,-65535<=x∧x<=65535)(k:Nat):(gq a b i k).natAbs<=4294836225*k:=by
 have key:∀(l:List Int) (j:Nat),(∀x∈l,-65535<=x∧x<=65535)->(l.getD j 0).natAbs<=65535:=fun l j h=>by
  rw[List.getD]
  cases hj:l[j]? with
  |none=>simp
  |some d=>have:=h d (aD hj);simp;omega
 induction k with
 |zero=>simp[gq]
 |succ k ih=>
  rw[gq];have h1:=key a k ha;have h2:(if k<=i then b.getD (i-k) 0 else 0).natAbs<=65535:=by
   split
   ·exact key b _ hb
   ·simp
  have h3:=Nat.mul_le_mul h1 h2;rw[<-Int.natAbs_mul]at h3;generalize a.getD k 0*(if k<=i then b.getD (i-k) 0 else 0)=p at*
  omega
def dw(s:Int):List Nat->List Int
 |[]=>[]
 |l::r=>s*((l % 65536:Nat):Int)::s*((l / 65536:Nat):Int)::dw s r
theorem Bb(s:Int)(ls:List Nat):dJ (dw s ls)=s*(val ls:Int):=by
 induction ls with
 |nil=>simp[dw,dJ,val]
 |cons l r ih=>
  rw[dw,dJ,dJ,ih,val];have e1:((l+4294967296*val r:Nat):Int)=((l % 65536:Nat):Int)+65536*((l / 65536:Nat):Int)+4294967296*((val r:Nat):Int):=by omega
  rw[e1,Int.mul_add,Int.mul_add,Int.mul_add];rw[Int.mul_left_comm 65536 s,Int.mul_left_comm s 65536,Int.mul_left_comm s 4294967296];omega
theorem oA(s:Int)(a b:List Nat):dw s (a++b)=dw s a++dw s b:=by
 induction a with
 |nil=>rfl
 |cons l r ih=>simp[dw,ih]
theorem gf(s:Int)(ls:List Nat):(dw s ls).length=2*ls.length:=by
 induction ls with
 |nil=>rfl
 |cons l r ih=>simp[dw,ih];omega
theorem yX{s:Int}(hs:s=1∨s= -1)(h:Lm ls):∀c∈dw s ls,-65535<=c∧c<=65535:=by
 induction ls with
 |nil=>intro c hc;cases hc
 |cons l r ih=>
  have hl:=h l aJ;intro c hc;rw[dw]at hc;rcases List.mem_cons.1 hc with rfl|hc
  ·rcases hs with rfl|rfl<;>omega
  rcases List.mem_cons.1 hc with rfl|hc
  ·rcases hs with rfl|rfl<;>omega
  ·exact ih (fun x hx=>h x (aC _ hx)) c hc
theorem wA(h:Lm ls):∀c∈dw 1 ls,0<=c∧c<=65535:=fun c hc=>by
 induction ls with
 |nil=>cases hc
 |cons l r ih=>
  have hl:=h l aJ;rw[dw]at hc;rcases List.mem_cons.1 hc with rfl|hc
  ·omega
  rcases List.mem_cons.1 hc with rfl|hc
  ·omega
  ·exact ih (fun x hx=>h x (aC _ hx)) hc
theorem DU{c:Int}(h:cs[i]? =some c):dJ (cs.drop i)=c+65536*dJ (cs.drop (i+1)):=by
 rw[List.drop_eq_getElem_cons (aE.1 h).1,dJ];have:=(aE.1 h).2;rw[this]
end Go.Ex
namespace Go.Ex
open Go Go.Sx Go.Proofs
variable{x1 x2 y1 y2:Int}{ls:List Nat}{S:Nat->Prop}{p q:Rat}{u:Value}{w:World}
theorem JJ{k:Nat}(h:Lm ls)(hl:ls.length<=k):ln (val ls)<=k:=fg.2 (Nat.lt_of_lt_of_le (nA h) (A2 hl))
theorem Cv.false{B:Nat}{iv:Iv}{g:Nat}(h:Cv (fun _=>False) B iv g):Cv S B iv g:=h.elim (fun h=>h.elim) .inr
theorem JK{v:Value}(hS:Old S w)(hx:gh w S v x1 x2)(hy:gh w S u y1 y2)(hl0:ln x1.natAbs<=100000)(hl1:ln x2.natAbs<=100000)(hl2:ln y1.natAbs<=100000)(hl3:ln y2.natAbs<=100000):
  dm PG N.uK #[v,u] w (eB w fun v' w2=>cP w2 (Nf w w2) v' ((ratio x1 x2)+(ratio y1 y2))):=by
 have hw:cV w.heap.size w w:=cV.refl;have r1:=gb x1 x2;have r2:=gb y1 y2;have r3:=nL (ratio x1 x2) (ratio y1 y2);have r4:=iF (ratio x1 x2) (ratio y1 y2);have r5:=og (ratio y1 y2);have r6:=yR (ratio x1 x2) (ratio y1 y2);replace hx:=hx.cI (S':=Cv S w.heap.size []) fun _ h=>.inl h;replace hy:=hy.cI (S':=Cv S w.heap.size []) fun _ h=>.inl h;obtain⟨b1,a1,n1,c1,b2,a2,n2,c2,rfl⟩:=hx.shape;obtain⟨b3,a3,n3,c3,b4,a4,n4,c4,rfl⟩:=hy.shape;refine Bo (by simp) ?_;refine cJ hτ db [.x 0,.x 2,.x 1,.x 3,.x 4,.x 5,.x 6] (by kernel_rfl) (by kernel_rfl) ?_;refine cE hw (fun _ w' v w2=>dM w2 (Nf w' w2) v ((ratio x1 x2))) (fun O w' r=>jc (Rel.old r hS) (hx.rel r hS) (by omega) (by omega)) ?_;rintro O wa1 v1 wb1 iv1 r he hw h_ hn;replace hy:=hy.cF r hS he (mC h_);have hX:=hn.c9 (S:=fun _=>False) r.cD (mN h_);obtain⟨s1_0,s1_1,s1_2,s1_3,s1_4,s1_5,s1_6,s1_7,rfl⟩:=hX.shape;refine cE hw (fun _ w' v w2=>dM w2 (Nf w' w2) v ((ratio y1 y2))) (fun O w' r=>jc (Rel.old r hS) (hy.rel r hS) (by omega) (by omega)) ?_;rintro O wa2 v2 wb2 iv2 r he hw h_ hn;replace hX:=hX.cF r (cB w) he (mC h_);have hY:=hn.c9 (S:=fun _=>False) r.cD (mN h_);obtain⟨s2_0,s2_1,s2_2,s2_3,s2_4,s2_5,s2_6,s2_7,rfl⟩:=hY.shape;refine cE hw (fun _ w' v w2=>dM w2 (Nf w' w2) v ((ratio x1 x2)+(ratio y1 y2))) (fun O w' r=>GI (Rel.old r (cB w)) (hX.rel r (cB w)) (hY.rel r (cB w)) (by omega) (by omega)) ?_;rintro O wa3 v3 wb3 iv3 r he hw h_ hn;have hP:=hn.c9 (S:=fun _=>False) r.cD (mN h_);obtain⟨s3_0,s3_1,s3_2,s3_3,s3_4,s3_5,s3_6,s3_7,rfl⟩:=hP.shape;refine cE hw (fun _ w' v w2=>cP w2 (Nf w' w2) v ((ratio x1 x2)+(ratio y1 y2))) (fun O w' r=>qI (Rel.old r (cB w)) (hP.rel r (cB w)) (by omega)) ?_;rintro O wa4 v4 wb4 iv4 r he hw h_ hn;have hC:=hn.c9 (S:=fun _=>False) r.cD (mN h_);obtain⟨s4_0,s4_1,s4_2,s4_3,s4_4,s4_5,s4_6,s4_7,rfl⟩:=hC.shape;intro ρe we re;exact⟨_,rfl,hw.tr re.cM,hC.out re (cB w)⟩
theorem JL{v:Value}(hS:Old S w)(hx:gh w S v x1 x2)(hy:gh w S u y1 y2)(hl0:ln x1.natAbs<=100000)(hl1:ln x2.natAbs<=100000)(hl2:ln y1.natAbs<=100000)(hl3:ln y2.natAbs<=100000):
  dm PG N.uL #[v,u] w (eB w fun v' w2=>cP w2 (Nf w w2) v' ((ratio x1 x2)*(ratio y1 y2))):=by
 have hw:cV w.heap.size w w:=cV.refl;have r1:=gb x1 x2;have r2:=gb y1 y2;have r3:=nL (ratio x1 x2) (ratio y1 y2);have r4:=iF (ratio x1 x2) (ratio y1 y2);have r5:=og (ratio y1 y2);have r6:=yR (ratio x1 x2) (ratio y1 y2);replace hx:=hx.cI (S':=Cv S w.heap.size []) fun _ h=>.inl h;replace hy:=hy.cI (S':=Cv S w.heap.size []) fun _ h=>.inl h;obtain⟨b1,a1,n1,c1,b2,a2,n2,c2,rfl⟩:=hx.shape;obtain⟨b3,a3,n3,c3,b4,a4,n4,c4,rfl⟩:=hy.shape;refine Bp (by simp) ?_;refine cJ hτ db [.x 0,.x 2,.x 1,.x 3,.x 4,.x 5,.x 6] (by kernel_rfl) (by kernel_rfl) ?_;refine cE hw (fun _ w' v w2=>dM w2 (Nf w' w2) v ((ratio x1 x2))) (fun O w' r=>jc (Rel.old r hS) (hx.rel r hS) (by omega) (by omega)) ?_;rintro O wa1 v1 wb1 iv1 r he hw h_ hn;replace hy:=hy.cF r hS he (mC h_);have hX:=hn.c9 (S:=fun _=>False) r.cD (mN h_);obtain⟨s1_0,s1_1,s1_2,s1_3,s1_4,s1_5,s1_6,s1_7,rfl⟩:=hX.shape;refine cE hw (fun _ w' v w2=>dM w2 (Nf w' w2) v ((ratio y1 y2))) (fun O w' r=>jc (Rel.old r hS) (hy.rel r hS) (by omega) (by omega)) ?_;rintro O wa2 v2 wb2 iv2 r he hw h_ hn;replace hX:=hX.cF r (cB w) he (mC h_);have hY:=hn.c9 (S:=fun _=>False) r.cD (mN h_);obtain⟨s2_0,s2_1,s2_2,s2_3,s2_4,s2_5,s2_6,s2_7,rfl⟩:=hY.shape;refine cE hw (fun _ w' v w2=>dM w2 (Nf w' w2) v ((ratio x1 x2)*(ratio y1 y2))) (fun O w' r=>JD (Rel.old r (cB w)) (hX.rel r (cB w)) (hY.rel r (cB w)) (by omega) (by omega)) ?_;rintro O wa3 v3 wb3 iv3 r he hw h_ hn;have hP:=hn.c9 (S:=fun _=>False) r.cD (mN h_);obtain⟨s3_0,s3_1,s3_2,s3_3,s3_4,s3_5,s3_6,s3_7,rfl⟩:=hP.shape;refine cE hw (fun _ w' v w2=>cP w2 (Nf w' w2) v ((ratio x1 x2)*(ratio y1 y2))) (fun O w' r=>qI (Rel.old r (cB w)) (hP.rel r (cB w)) (by omega)) ?_;rintro O wa4 v4 wb4 iv4 r he hw h_ hn;have hC:=hn.c9 (S:=fun _=>False) r.cD (mN h_);obtain⟨s4_0,s4_1,s4_2,s4_3,s4_4,s4_5,s4_6,s4_7,rfl⟩:=hC.shape;intro ρe we re;exact⟨_,rfl,hw.tr re.cM,hC.out re (cB w)⟩
theorem JM{v:Value}(hS:Old S w)(hx:gh w S v x1 x2)(hy:gh w S u y1 y2)(hl0:ln x1.natAbs<=100000)(hl1:ln x2.natAbs<=100000)(hl2:ln y1.natAbs<=100000)(hl3:ln y2.natAbs<=100000):
  dm PG N.uN #[v,u] w (eB w fun v' w2=>cP w2 (Nf w w2) v' ((ratio x1 x2)-(ratio y1 y2))):=by
 have hw:cV w.heap.size w w:=cV.refl;have r1:=gb x1 x2;have r2:=gb y1 y2;have r3:=nL (ratio x1 x2) (ratio y1 y2);have r4:=iF (ratio x1 x2) (ratio y1 y2);have r5:=og (ratio y1 y2);have r6:=yR (ratio x1 x2) (ratio y1 y2);replace hx:=hx.cI (S':=Cv S w.heap.size []) fun _ h=>.inl h;replace hy:=hy.cI (S':=Cv S w.heap.size []) fun _ h=>.inl h;obtain⟨b1,a1,n1,c1,b2,a2,n2,c2,rfl⟩:=hx.shape;obtain⟨b3,a3,n3,c3,b4,a4,n4,c4,rfl⟩:=hy.shape;refine Bu (by simp) ?_;refine cJ hτ db [.x 0,.x 2,.x 1,.x 3,.x 4,.x 5,.x 6,.x 7] (by kernel_rfl) (by kernel_rfl) ?_;refine cE hw (fun _ w' v w2=>dM w2 (Nf w' w2) v ((ratio x1 x2))) (fun O w' r=>jc (Rel.old r hS) (hx.rel r hS) (by omega) (by omega)) ?_;rintro O wa1 v1 wb1 iv1 r he hw h_ hn;replace hy:=hy.cF r hS he (mC h_);have hX:=hn.c9 (S:=fun _=>False) r.cD (mN h_);obtain⟨s1_0,s1_1,s1_2,s1_3,s1_4,s1_5,s1_6,s1_7,rfl⟩:=hX.shape;refine cE hw (fun _ w' v w2=>dM w2 (Nf w' w2) v ((ratio y1 y2))) (fun O w' r=>jc (Rel.old r hS) (hy.rel r hS) (by omega) (by omega)) ?_;rintro O wa2 v2 wb2 iv2 r he hw h_ hn;replace hX:=hX.cF r (cB w) he (mC h_);have hY:=hn.c9 (S:=fun _=>False) r.cD (mN h_);obtain⟨s2_0,s2_1,s2_2,s2_3,s2_4,s2_5,s2_6,s2_7,rfl⟩:=hY.shape;refine cL (Φ:=fun _ w' v w2=>dM w2 (Nw (Cf w iv2) w' w2) v (-(ratio y1 y2))) (fun O w' r=>JC (Rel.old r (cB w)) (hY.rel r (cB w))) ?_;rintro O wa3 v3 wb3 r he hb hn;replace hw:=hw.tr hb;replace hX:=hX.cF (iv':=(wa3.heap.size,wb3.heap.size)::iv2) r (cB w) he fun x hx=>aC _ hx;have hM:=hn.old r.cD;generalize (wa3.heap.size,wb3.heap.size)::iv2=iv3 at*
 obtain⟨s3_0,s3_1,s3_2,s3_3,s3_4,s3_5,s3_6,s3_7,rfl⟩:=hM.shape;refine cE hw (fun _ w' v w2=>dM w2 (Nf w' w2) v ((ratio x1 x2)-(ratio y1 y2))) (fun O w' r=>(Rat.sub_eq_add_neg (ratio x1 x2) (ratio y1 y2))▸GI (Rel.old r (cB w)) (hX.rel r (cB w)) (hM.rel r (cB w)) (by omega) (by omega)) ?_;rintro O wa4 v4 wb4 iv4 r he hw h_ hn;have hP:=hn.c9 (S:=fun _=>False) r.cD (mN h_);obtain⟨s4_0,s4_1,s4_2,s4_3,s4_4,s4_5,s4_6,s4_7,rfl⟩:=hP.shape;refine cE hw (fun _ w' v w2=>cP w2 (Nf w' w2) v ((ratio x1 x2)-(ratio y1 y2))) (fun O w' r=>qI (Rel.old r (cB w)) (hP.rel r (cB w)) (by omega)) ?_;rintro O wa5 v5 wb5 iv5 r he hw h_ hn;have hC:=hn.c9 (S:=fun _=>False) r.cD (mN h_);obtain⟨s5_0,s5_1,s5_2,s5_3,s5_4,s5_5,s5_6,s5_7,rfl⟩:=hC.shape;intro ρe we re;exact⟨_,rfl,hw.tr re.cM,hC.out re (cB w)⟩
theorem Lh{v:Value}{f g:Rat}(hS:Old S w)(hf:dM w S v f)(hg:dM w S u g)(hlf:rl f<=10000000000)(hlg:rl g<=10000000000):
  dm PG N.kf #[v,u] w (eB w fun v' w2=>v'= .int .i64 (rs (f-g))):=by
 have hw:cV w.heap.size w w:=cV.refl;have l1:=fM f;have l2:=ed f;have l3:=fM g;have l4:=ed g;have m0:=cY f.num g.den;have m1:=cY g.num f.den;replace hf:=hf.cI (S':=Cv S w.heap.size []) fun _ h=>.inl h;replace hg:=hg.cI (S':=Cv S w.heap.size []) fun _ h=>.inl h;obtain⟨b1,a1,n1,c1,b2,a2,n2,c2,rfl⟩:=hf.shape;obtain⟨b3,a3,n3,c3,b4,a4,n4,c4,rfl⟩:=hg.shape;have hfn:=hf.num;have hfd:=hf.den;have hgn:=hg.num;have hgd:=hg.den;refine oK (by simp) ?_;refine cJ hτ db [.x 0,.x 1,.x 2,.x 3,.x 5,.x 6,.x 7,.x 8,.x 4,.x 9,.x 10,.x 11] (by kernel_rfl) (by kernel_rfl) ?_;refine cE hw (fun _ w' v w2=>eF w2 (Nf w' w2) v (f.num*(g.den:Int))) (fun O w' r=>gZ (Rel.old r hS) (hfn.rel r hS) (hgd.rel r hS) (by omega) (by omega)) ?_;rintro O wa1 v1 wb1 iv1 r he hw h_ hn;replace hfd:=hfd.cF r hS he (mC h_);replace hgn:=hgn.cF r hS he (mC h_);have hA:=hn.c9 (S:=fun _=>False) r.cD (mN h_);obtain⟨s1_0,s1_1,s1_2,s1_3,rfl⟩:=hA.shape;refine cE hw (fun _ w' v w2=>eF w2 (Nf w' w2) v (g.num*(f.den:Int))) (fun O w' r=>gZ (Rel.old r hS) (hgn.rel r hS) (hfd.rel r hS) (by omega) (by omega)) ?_;rintro O wa2 v2 wb2 iv2 r he hw h_ hn;replace hA:=hA.cF r (cB w) he (mC h_);have hB:=hn.c9 (S:=fun _=>False) r.cD (mN h_);obtain⟨s2_0,s2_1,s2_2,s2_3,rfl⟩:=hB.shape;refine cE hw (fun _ w' v w2=>v= .int .i64 (rs (f-g))) (fun O w' r=>(Jh f g)▸Im (Rel.old r (cB w)) (hA.rel r (cB w)) (hB.rel r (cB w)) (by omega) (by omega)) ?_;rintro O wa3 v3 wb3 iv3 r he hw h_ rfl;intro ρe we re;exact⟨_,rfl,hw.tr re.cM,rfl⟩
theorem JN{v:Value}(hS:Old S w)(hx:gh w S v x1 x2)(hy:gh w S u y1 y2)(hl0:ln x1.natAbs<=100000)(hl1:ln x2.natAbs<=100000)(hl2:ln y1.natAbs<=100000)(hl3:ln y2.natAbs<=100000):
  dm PG N.uI #[v,u] w (eB w fun v' w2=>v'= .int .i64 (rs ((ratio x1 x2)-(ratio y1 y2)))):=by
 have hw:cV w.heap.size w w:=cV.refl;have r1:=gb x1 x2;have r2:=gb y1 y2;have r3:=nL (ratio x1 x2) (ratio y1 y2);have r4:=iF (ratio x1 x2) (ratio y1 y2);have r5:=og (ratio y1 y2);have r6:=yR (ratio x1 x2) (ratio y1 y2);replace hx:=hx.cI (S':=Cv S w.heap.size []) fun _ h=>.inl h;replace hy:=hy.cI (S':=Cv S w.heap.size []) fun _ h=>.inl h;obtain⟨b1,a1,n1,c1,b2,a2,n2,c2,rfl⟩:=hx.shape;obtain⟨b3,a3,n3,c3,b4,a4,n4,c4,rfl⟩:=hy.shape;refine Bm (by simp) ?_;refine cJ hτ db [.x 0,.x 2,.x 1,.x 3,.x 4,.x 5] (by kernel_rfl) (by kernel_rfl) ?_;refine cE hw (fun _ w' v w2=>dM w2 (Nf w' w2) v ((ratio x1 x2))) (fun O w' r=>jc (Rel.old r hS) (hx.rel r hS) (by omega) (by omega)) ?_;rintro O wa1 v1 wb1 iv1 r he hw h_ hn;replace hy:=hy.cF r hS he (mC h_);have hX:=hn.c9 (S:=fun _=>False) r.cD (mN h_);obtain⟨s1_0,s1_1,s1_2,s1_3,s1_4,s1_5,s1_6,s1_7,rfl⟩:=hX.shape;refine cE hw (fun _ w' v w2=>dM w2 (Nf w' w2) v ((ratio y1 y2))) (fun O w' r=>jc (Rel.old r hS) (hy.rel r hS) (by omega) (by omega)) ?_;rintro O wa2 v2 wb2 iv2 r he hw h_ hn;replace hX:=hX.cF r (cB w) he (mC h_);have hY:=hn.c9 (S:=fun _=>False) r.cD (mN h_);obtain⟨s2_0,s2_1,s2_2,s2_3,s2_4,s2_5,s2_6,s2_7,rfl⟩:=hY.shape;refine cE hw (fun _ w' v w2=>v= .int .i64 (rs ((ratio x1 x2)-(ratio y1 y2)))) (fun O w' r=>Lh (Rel.old r (cB w)) (hX.rel r (cB w)) (hY.rel r (cB w)) (by omega) (by omega)) ?_;rintro O wa3 v3 wb3 iv3 r he hw h_ rfl;intro ρe we re;exact⟨_,rfl,hw.tr re.cM,rfl⟩
theorem nX:rs q=0↔q=0:=by rw[rs,Int.sign_eq_zero_iff_zero,Rat.num_eq_zero]
theorem JO{v:Value}(hS:Old S w)(hx:gh w S v x1 x2)(hy:gh w S u y1 y2)(hl0:ln x1.natAbs<=100000)(hl1:ln x2.natAbs<=100000)(hl2:ln y1.natAbs<=100000)(hl3:ln y2.natAbs<=100000):
  dm PG N.uM #[v,u] w (eB w fun v' w2=>((ratio y1 y2)=0∧v'= .tuple #[mH,.int .i64 9])∨((ratio y1 y2)≠0∧∃q,v'= .tuple #[q,.int .i64 0]∧cP w2 (Nf w w2) q ((ratio x1 x2) / (ratio y1 y2)))):=by
 have hw:cV w.heap.size w w:=cV.refl;have r1:=gb x1 x2;have r2:=gb y1 y2;have r3:=nL (ratio x1 x2) (ratio y1 y2);have r4:=iF (ratio x1 x2) (ratio y1 y2);have r5:=og (ratio y1 y2);have r6:=yR (ratio x1 x2) (ratio y1 y2);replace hx:=hx.cI (S':=Cv S w.heap.size []) fun _ h=>.inl h;replace hy:=hy.cI (S':=Cv S w.heap.size []) fun _ h=>.inl h;obtain⟨b1,a1,n1,c1,b2,a2,n2,c2,rfl⟩:=hx.shape;obtain⟨b3,a3,n3,c3,b4,a4,n4,c4,rfl⟩:=hy.shape;refine Br (by simp) ?_;refine cC (cE hw (fun _ w' v w2=>dM w2 (Nf w' w2) v ((ratio y1 y2))) (fun O w' r=>jc (Rel.old r hS) (hy.rel r hS) (by omega) (by omega)) ?_);rintro O wa1 v1 wb1 iv1 r he hw h_ hn;replace hx:=hx.cF r hS he (mC h_);have hY:=hn.c9 (S:=fun _=>False) r.cD (mN h_);obtain⟨s1_0,s1_1,s1_2,s1_3,s1_4,s1_5,s1_6,s1_7,rfl⟩:=hY.shape;refine cC (cE hw (fun _ w' v w2=>v= .int .i64 (rs (ratio y1 y2))) (fun O w' r=>KI (Rel.old r (cB w)) (hY.rel r (cB w))) ?_);rintro O wa2 v2 wb2 iv2 r he hw h_ rfl;replace hx:=hx.cF r hS he (mC h_);replace hY:=hY.cF r (cB w) he (mC h_);refine dI.mk (fun h=>?_) (fun h=>?_)
 ·have h:rs (ratio y1 y2)=0:=by simpa using h
  intro ρe we re;exact⟨_,rfl,hw.tr re.cM,.inl ⟨nX.1 h,rfl⟩⟩
 have h:(ratio y1 y2)≠0:=fun e=>by rw[e]at h;exact absurd h (by decide)
 have r7:=IH (ratio x1 x2) h;refine cJ hτ db [.x 0,.x 2,.x 1,.x 3,.x 4,.x 5,.x 6] (by kernel_rfl) (by kernel_rfl) ?_;refine cE hw (fun _ w' v w2=>dM w2 (Nf w' w2) v ((ratio x1 x2))) (fun O w' r=>jc (Rel.old r hS) (hx.rel r hS) (by omega) (by omega)) ?_;rintro O wa3 v3 wb3 iv3 r he hw h_ hn;replace hY:=hY.cF r (cB w) he (mC h_);have hX:=hn.c9 (S:=fun _=>False) r.cD (mN h_);obtain⟨s3_0,s3_1,s3_2,s3_3,s3_4,s3_5,s3_6,s3_7,rfl⟩:=hX.shape;refine cE hw (fun _ w' v w2=>dM w2 (Nf w' w2) v ((ratio x1 x2) / (ratio y1 y2))) (fun O w' r=>MN (Rel.old r (cB w)) (hX.rel r (cB w)) (hY.rel r (cB w)) (by omega) (by omega) h) ?_;rintro O wa4 v4 wb4 iv4 r he hw h_ hn;have hP:=hn.c9 (S:=fun _=>False) r.cD (mN h_);obtain⟨s4_0,s4_1,s4_2,s4_3,s4_4,s4_5,s4_6,s4_7,rfl⟩:=hP.shape;refine cE hw (fun _ w' v w2=>cP w2 (Nf w' w2) v ((ratio x1 x2) / (ratio y1 y2))) (fun O w' r=>qI (Rel.old r (cB w)) (hP.rel r (cB w)) (by omega)) ?_;rintro O wa5 v5 wb5 iv5 r he hw h_ hn;have hC:=hn.c9 (S:=fun _=>False) r.cD (mN h_);obtain⟨s5_0,s5_1,s5_2,s5_3,s5_4,s5_5,s5_6,s5_7,rfl⟩:=hC.shape;intro ρe we re;exact⟨_,rfl,hw.tr re.cM,.inr ⟨h,_,rfl,hC.out re (cB w)⟩⟩
theorem JP{n:Int}(h1: -9223372036854775808<=n)(h2:n<=9223372036854775807):rl (n:Rat)<=2:=by
 have:=ml h1 h2;unfold rl;rw[Rat.num_intCast,Rat.den_intCast];have:ln 1=1:=by decide
 omega
theorem Eg(n:Int)(w:World)(h1: -9223372036854775808<=n)(h2:n<=9223372036854775807):
  dm PG N.vT #[.int .i64 n] w (eB w fun v' w2=>cP w2 (Nf w w2) v' (n:Rat)):=by
 have hw:cV w.heap.size w w:=cV.refl;have hl:=JP h1 h2;refine yw (by simp) ?_;refine cC (cE hw (fun _ w' v w2=>dM w2 (Nf w' w2) v (n)) (fun O w' r=>KJ n w' h1 h2) ?_);rintro O wa1 v1 wb1 iv1 r he hw h_ hn;have hX:=hn.c9 (S:=fun _=>False) r.cD (mN h_);obtain⟨s1_0,s1_1,s1_2,s1_3,s1_4,s1_5,s1_6,s1_7,rfl⟩:=hX.shape;refine cC (cE hw (fun _ w' v w2=>cP w2 (Nf w' w2) v (n)) (fun O w' r=>qI (Rel.old r (cB w)) (hX.rel r (cB w)) (by omega)) ?_);rintro O wa2 v2 wb2 iv2 r he hw h_ hn;have hC:=hn.c9 (S:=fun _=>False) r.cD (mN h_);obtain⟨s2_0,s2_1,s2_2,s2_3,s2_4,s2_5,s2_6,s2_7,rfl⟩:=hC.shape;intro ρe we re;exact⟨_,rfl,hw.tr re.cM,hC.out re (cB w)⟩
theorem Ew(a b:Int)(w:World)(h1a: -9223372036854775808<=a)(h2a:a<=9223372036854775807)(h1b: -9223372036854775808<=b)(h2b:b<=9223372036854775807):
  dm PG N.vV #[.int .i64 a,.int .i64 b] w (eB w fun v' w2=>(b=0∧v'= .tuple #[mH,.int .i64 9])∨(b≠0∧∃q,v'= .tuple #[q,.int .i64 0]∧cP w2 (Nf w w2) q (Rat.divInt a b))):=by
 have hw:cV w.heap.size w w:=cV.refl;have ha:=ml h1a h2a;have hb:=ml h1b h2b;refine yz (by simp) ?_;refine dI.mk (fun h=>?_) (fun h=>?_)
 ·have h:b=0:=by simpa using h
  intro ρe we re;exact⟨_,rfl,hw.tr re.cM,.inl ⟨h,rfl⟩⟩
 have h:b≠0:=by simpa using h
 have hq:=j0 (a:=a) h;refine cC (cE hw (fun _ w' v w2=>eF w2 (Nf w' w2) v a) (fun O w' r=>nk a w' h1a h2a) ?_);rintro O wa1 v1 wb1 iv1 r he hw h_ hn;have hA:=hn.c9 (S:=fun _=>False) r.cD (mN h_);obtain⟨s1_0,s1_1,s1_2,s1_3,rfl⟩:=hA.shape;refine cC (cE hw (fun _ w' v w2=>eF w2 (Nf w' w2) v b) (fun O w' r=>nk b w' h1b h2b) ?_);rintro O wa2 v2 wb2 iv2 r he hw h_ hn;replace hA:=hA.cF r (cB w) he (mC h_);have hB:=hn.c9 (S:=fun _=>False) r.cD (mN h_);obtain⟨s2_0,s2_1,s2_2,s2_3,rfl⟩:=hB.shape;refine cC (cE hw (fun _ w' v w2=>dM w2 (Nf w' w2) v (Rat.divInt a b)) (fun O w' r=>ui (Rel.old r (cB w)) (hA.rel r (cB w)) (hB.rel r (cB w)) h (by omega) (by omega)) ?_);rintro O wa3 v3 wb3 iv3 r he hw h_ hn;have hP:=hn.c9 (S:=fun _=>False) r.cD (mN h_);obtain⟨s3_0,s3_1,s3_2,s3_3,s3_4,s3_5,s3_6,s3_7,rfl⟩:=hP.shape;refine cC (cE hw (fun _ w' v w2=>cP w2 (Nf w' w2) v (Rat.divInt a b)) (fun O w' r=>qI (Rel.old r (cB w)) (hP.rel r (cB w)) (by omega)) ?_);rintro O wa4 v4 wb4 iv4 r he hw h_ hn;have hC:=hn.c9 (S:=fun _=>False) r.cD (mN h_);obtain⟨s4_0,s4_1,s4_2,s4_3,s4_4,s4_5,s4_6,s4_7,rfl⟩:=hC.shape;intro ρe we re;exact⟨_,rfl,hw.tr re.cM,.inr ⟨h,_,rfl,hC.out re (cB w)⟩⟩
theorem EA(ad:Addr)(i j:Nat):(ad.add i).add j=ad.add (i+j):=by
 unfold Addr.add;split<;>split<;>simp_all<;>omega
def p8(w:World)(S:Nat->Prop)(v:Value)(q:Rat):Prop:=∃a b,gh w S v a b∧ratio a b=q∧ln a.natAbs<=100000∧ln b.natAbs<=100000
theorem p8.cG{w2:World}{v:Value}(h:p8 w S v q)(hk:∀g,S g->w2.heap[g]? =w.heap[g]?):p8 w2 S v q:=by
 obtain⟨a,b,h1,h2⟩:=h;exact⟨a,b,h1.cG hk,h2⟩
theorem p8.shape{v:Value}(h:p8 w S v q):∃b a n c b2 a2 n2 c2,v= .agg #[.bool b,.slice a n c,.bool b2,.slice a2 n2 c2]:=by
 obtain⟨a,b,h1,_⟩:=h;exact h1.shape
theorem nm(q:Rat):ratio q.num q.den=q:=by rw[ratio,aK (fZ q),Rat.num_divInt_den]
theorem cP.v{v:Value}(h:cP w S v q)(hl:rl q<=100000):p8 w S v q:=
 ⟨_,_,h.r,nm q,a9 (fM q) hl,a9 (ed q) hl⟩
section
variable{S S':Nat->Prop}{H:Hp}{nx:Nat}{iv iv':Iv}{B:Nat}{w w' w2:World}{O:Nat->Sx.df}{v:Value}{q:Rat}
end
theorem I4{v:Value}(hS:Old S w)(hp:p8 w S v p)(hq:p8 w S u q):dm PG N.uK #[v,u] w (eB w fun v' w2=>cP w2 (Nf w w2) v' (p+q)):=by
 obtain⟨a,b,h1,rfl,h2,h3⟩:=hp;obtain⟨c,d,k1,rfl,k2,k3⟩:=hq;exact JK hS h1 k1 h2 h3 k2 k3
theorem zD{v:Value}(hS:Old S w)(hp:p8 w S v p)(hq:p8 w S u q):dm PG N.uL #[v,u] w (eB w fun v' w2=>cP w2 (Nf w w2) v' (p*q)):=by
 obtain⟨a,b,h1,rfl,h2,h3⟩:=hp;obtain⟨c,d,k1,rfl,k2,k3⟩:=hq;exact JL hS h1 k1 h2 h3 k2 k3
theorem I2{v:Value}(hS:Old S w)(hp:p8 w S v p)(hq:p8 w S u q):dm PG N.uN #[v,u] w (eB w fun v' w2=>cP w2 (Nf w w2) v' (p-q)):=by
 obtain⟨a,b,h1,rfl,h2,h3⟩:=hp;obtain⟨c,d,k1,rfl,k2,k3⟩:=hq;exact JM hS h1 k1 h2 h3 k2 k3
theorem Eh{v:Value}(hS:Old S w)(hp:p8 w S v p)(hq:p8 w S u q):dm PG N.uI #[v,u] w (eB w fun v' _=>v'= .int .i64 (rs (p-q))):=by
 obtain⟨a,b,h1,rfl,h2,h3⟩:=hp;obtain⟨c,d,k1,rfl,k2,k3⟩:=hq;exact JN hS h1 k1 h2 h3 k2 k3
theorem LK{v:Value}(hS:Old S w)(hp:p8 w S v p)(hq:p8 w S u q):dm PG N.uM #[v,u] w (eB w fun v' w2=>(q=0∧v'= .tuple #[mH,.int .i64 9])∨(q≠0∧∃r,v'= .tuple #[r,.int .i64 0]∧cP w2 (Nf w w2) r (p / q))):=by
 obtain⟨a,b,h1,rfl,h2,h3⟩:=hp;obtain⟨c,d,k1,rfl,k2,k3⟩:=hq;exact JO hS h1 k1 h2 h3 k2 k3
end Go.Ex
namespace Go.Ex
theorem Ha(q:Rat): -1<=rs q∧rs q<=1:=by
 unfold rs;rcases Int.lt_trichotomy q.num 0 with h|h|h
 ·rw[bZ h];decide
 ·rw[h];decide
 ·rw[b9 h];decide
theorem Kp(q:Rat):rs (-q)= -rs q:=by rw[rs,rs,Rat.neg_num,Int.sign_neg]
end Go.Ex
namespace Go.Ex
open Go Go.Sx Go.Proofs
variable{b:Bool}{x z:Int}{cs:List Int}{ls:List Nat}{S:Nat->Prop}{lv:Value}{w:World}
def fE(w:World)(S:Nat->Prop)(v:Value)(k:Nat)(z:Int):Prop:=∃neg ls,tY w S v neg ls∧sg neg (val ls)=z∧ls.length<=k
theorem fE.cG{w2:World}{v:Value}{k:Nat}(h:fE w S v k z)(hk:∀g,S g->w2.heap[g]? =w.heap[g]?):fE w2 S v k z:=by
 obtain⟨n,l,h1,h2⟩:=h;exact⟨n,l,h1.cG hk,h2⟩
theorem fE.cI{S':Nat->Prop}{v:Value}{k:Nat}(h:fE w S v k z)(hk:∀g,S g->S' g):fE w S' v k z:=by
 obtain⟨n,l,h1,h2⟩:=h;exact⟨n,l,h1.cI hk,h2⟩
theorem fE.r{v:Value}{k:Nat}(h:fE w S v k z):jF w S v z:=by
 obtain⟨n,l,h1,h2,_⟩:=h;exact⟨n,l,h1,h2⟩
theorem fE.shape{v:Value}{k:Nat}(h:fE w S v k z):∃b a n c,v= .agg #[.bool b,.slice a n c]:=h.r.shape
theorem dC.l{v:Value}{k:Nat}(h:dC w S v z)(hk:ln z.natAbs<=k):fE w S v k z:=by
 obtain⟨l,h1,h2,h3⟩:=h;obtain⟨_,_,hl⟩:=h1;have:=eE hl.lm h2;rw[h3]at this;exact⟨_,l,⟨_,‹_›,hl⟩,by rw[h3,BF],by omega⟩
section
variable{S S':Nat->Prop}{H:Hp}{nx:Nat}{iv iv':Iv}{B:Nat}{w w' w2:World}{O:Nat->Sx.df}{v:Value}{k:Nat}{z:Int}
theorem fE.rel(h:fE w (Cv S B iv) v k z)(r:Rel H nx iv B w O w')(hS:∀g,S g->g<B):fE w' (Cv S B iv) v k z:=h.cG fun _ hg=>Rel.same r hS hg
theorem fE.cF(h:fE w (Cv S B iv) v k z)(r:Rel H nx iv B w O w')(hS:∀g,S g->g<B)(he:Ext w' w2)(hm:∀p,p∈iv->p∈iv'):fE w2 (Cv S B iv') v k z:=
 ((h.rel r hS).cG fun g hg=>he.block g (Rel.old r hS g hg)).cI fun _ hg=>hg.mono hm
end
section
variable{S S':Nat->Prop}{H:Hp}{nx:Nat}{iv iv':Iv}{B:Nat}{w w' w2:World}{O:Nat->Sx.df}{v:Value}{cs:List Int}
theorem di.rel(h:di w (Cv S B iv) v cs)(r:Rel H nx iv B w O w')(hS:∀g,S g->g<B):di w' (Cv S B iv) v cs:=di.cG h fun _ hg=>Rel.same r hS hg
theorem di.cF(h:di w (Cv S B iv) v cs)(r:Rel H nx iv B w O w')(hS:∀g,S g->g<B)(he:Ext w' w2)(hm:∀p,p∈iv->p∈iv'):di w2 (Cv S B iv') v cs:=
 (di.cG (h.rel r hS) fun g hg=>he.block g (Rel.old r hS g hg)).cI fun _ hg=>hg.mono hm
theorem di.c9(h:di w2 (Nf w' w2) v cs)(hB:B<=w'.heap.size)(hm:(w'.heap.size,w2.heap.size)∈iv):di w2 (Cv S B iv) v cs:=di.cI h fun _ hg=>hg.c9 hB hm
end
def Ls(b:Bool):Int:=if b then -1 else 1
theorem Li(b:Bool):Ls b=1∨Ls b= -1:=by cases b<;>simp[Ls]
theorem KO(b:Bool)(n:Nat):Ls b*(n:Int)=sg b n:=by cases b<;>simp[Ls,sg]
theorem FR{v:Value}{neg:Bool}(hS:Old S w)(h:tY w S v neg ls)(hl:ls.length<=40000000):
  dm PG N.mE #[v] w (eB w fun v' w2=>di w2 (Nf w w2) v' (dw (Ls neg) ls)):=by
 obtain⟨lv,rfl,hL⟩:=h;have hlm:=hL.lm;obtain⟨a,c,rfl,hc,hcell⟩:=hL.sl;refine uZ (by simp) ?_
 cases neg with
 |true=>
  refine⟨Nat×World,fun z=>⟨[(1,.o (.p 0 0)),(3,.o (.v (.int .i64 (-1)))),(4,.o (.w 1 (2*z.1))),(5,.o (.v (.int .i64 z.1)))],[(1,.vec T.int 1 ((dw (-1) (ls.take z.1)).map (Value.int .i64))),(0,.box T.Int [.v (.bool true),.v (.slice a ls.length c)])],2,[],z.2⟩,fun z=>ls.length-z.1,
   fun z=>cV w.heap.size w z.2∧z.1<=ls.length,?_,?_⟩
  ·intro O w' r
   exact⟨(0,w'),⟨r.cM,by simp⟩,Sub.nil 4 T.int 1 rfl (by simp[jn,SV.sc,At.sc,fW]) r fun ρ1 r1=>
    Sub.gn [] r1⟩
  rintro⟨i,w1⟩ ⟨hw,hi⟩;dsimp only at hw hi ⊢;have hln:((dw (-1) (ls.take i)).map (Value.int .i64)).length=2*i:=by rw[aL,gf,aY];omega
  refine dI.mk (fun h=>?_) (fun h=>?_)
  ·have h:i<ls.length:=by simpa using h
   obtain⟨x,hx⟩:∃x,ls[i]? =some x:=⟨_,aB h⟩
   have hx32:=hlm x (aD hx);obtain⟨ad,rfl,q1,q2⟩:=hcell i x hx;have htk:dw (-1) (ls.take (i+1))=dw (-1) (ls.take i)++[(-1)*((x % 65536:Nat):Int),(-1)*((x / 65536:Nat):Int)]:=by rw[List.take_add_one,hx,Option.toList_some,oA];rfl
   refine⟨ad,rfl,by omega,.int .u32 x,fun O w' r=>?_,?_⟩
   ·rw[aF,aU];exact jX hS hw r q1 q2
   refine⟨(x:Int),wo,by decide,((x % 65536:Nat):Int),rfl,(-1)*((x % 65536:Nat):Int),wo,by decide,((x / 65536:Nat):Int),by rw[show (x:Int).tdiv 65536=((x / 65536:Nat):Int)from rfl,wrap64]<;>omega,(-1)*((x / 65536:Nat):Int),wo,?_⟩;refine .inl ?_;refine⟨by rw[hln,aU],by omega,by unfold maxLen;omega,((i+1:Nat):Int),wo,?_⟩;intro ρ3 w3 r3;have hm5:(dw (-1) (ls.take (i+1))).map (Value.int .i64)=(dw (-1) (ls.take i)).map (Value.int .i64)++[.int .i64 ((-1)*((x % 65536:Nat):Int)),.int .i64 ((-1)*((x / 65536:Nat):Int))]:=by
    rw[htk];simp
   exact⟨(i+1,w3),⟨hw.tr r3.cM,by dsimp only;omega⟩,Sub.gn [(1,3)] r3 ⟨by dsimp only;rw[hm5];rfl,rfl,trivial⟩,by dsimp only;omega⟩
  have h:i=ls.length:=by
   have:¬i<ls.length:=by simpa using h
   omega
  subst h;rw[bE]at hln ⊢;intro ρe we re;have hrow:=re.CV (id:=1) (m:=2*ls.length) rfl (by rw[hln,aU]) (by decide);have hcols:=qJ hrow (by rw[gf]) (by unfold maxLen;omega);refine⟨_,rfl,hw.tr re.cM,di.cI hcols fun g hg=>.inr ?_⟩;have:=ownsRow.low hrow g hg;exact this
 |false=>
  refine⟨Nat×World,fun z=>⟨[(1,.o (.p 0 0)),(3,.o (.v (.int .i64 (1)))),(4,.o (.w 1 (2*z.1))),(5,.o (.v (.int .i64 z.1)))],[(1,.vec T.int 1 ((dw (1) (ls.take z.1)).map (Value.int .i64))),(0,.box T.Int [.v (.bool false),.v (.slice a ls.length c)])],2,[],z.2⟩,fun z=>ls.length-z.1,
   fun z=>cV w.heap.size w z.2∧z.1<=ls.length,?_,?_⟩
  ·intro O w' r
   exact⟨(0,w'),⟨r.cM,by simp⟩,Sub.nil 4 T.int 1 rfl (by simp[jn,SV.sc,At.sc,fW]) r fun ρ1 r1=>
    Sub.gn [] r1⟩
  rintro⟨i,w1⟩ ⟨hw,hi⟩;dsimp only at hw hi ⊢;have hln:((dw (1) (ls.take i)).map (Value.int .i64)).length=2*i:=by rw[aL,gf,aY];omega
  refine dI.mk (fun h=>?_) (fun h=>?_)
  ·have h:i<ls.length:=by simpa using h
   obtain⟨x,hx⟩:∃x,ls[i]? =some x:=⟨_,aB h⟩
   have hx32:=hlm x (aD hx);obtain⟨ad,rfl,q1,q2⟩:=hcell i x hx;have htk:dw (1) (ls.take (i+1))=dw (1) (ls.take i)++[(1)*((x % 65536:Nat):Int),(1)*((x / 65536:Nat):Int)]:=by rw[List.take_add_one,hx,Option.toList_some,oA];rfl
   refine⟨ad,rfl,by omega,.int .u32 x,fun O w' r=>?_,?_⟩
   ·rw[aF,aU];exact jX hS hw r q1 q2
   refine⟨(x:Int),wo,by decide,((x % 65536:Nat):Int),rfl,(1)*((x % 65536:Nat):Int),wo,by decide,((x / 65536:Nat):Int),by rw[show (x:Int).tdiv 65536=((x / 65536:Nat):Int)from rfl,wrap64]<;>omega,(1)*((x / 65536:Nat):Int),wo,?_⟩;refine .inl ?_;refine⟨by rw[hln,aU],by omega,by unfold maxLen;omega,((i+1:Nat):Int),wo,?_⟩;intro ρ3 w3 r3;have hm5:(dw (1) (ls.take (i+1))).map (Value.int .i64)=(dw (1) (ls.take i)).map (Value.int .i64)++[.int .i64 ((1)*((x % 65536:Nat):Int)),.int .i64 ((1)*((x / 65536:Nat):Int))]:=by
    rw[htk];simp
   exact⟨(i+1,w3),⟨hw.tr r3.cM,by dsimp only;omega⟩,Sub.gn [(1,3)] r3 ⟨by dsimp only;rw[hm5];rfl,rfl,trivial⟩,by dsimp only;omega⟩
  have h:i=ls.length:=by
   have:¬i<ls.length:=by simpa using h
   omega
  subst h;rw[bE]at hln ⊢;intro ρe we re;have hrow:=re.CV (id:=1) (m:=2*ls.length) rfl (by rw[hln,aU]) (by decide);have hcols:=qJ hrow (by rw[gf]) (by unfold maxLen;omega);refine⟨_,rfl,hw.tr re.cM,di.cI hcols fun g hg=>.inr ?_⟩;have:=ownsRow.low hrow g hg;exact this
def AF(cs:List Int)(n:Nat)(z:Int):Prop:=dJ cs=z∧cs.length<=n∧(∀c∈cs,-65535<=c∧c<=65535)∧(0<=z->∀c∈cs,0<=c)
theorem AG(s:Int)(h:val ls=0):∀c∈dw s ls,c=0:=fun c hc=>by
 induction ls with
 |nil=>cases hc
 |cons l r ih=>
  have h:l+4294967296*val r=0:=h;have h1:l=0:=by omega
  have h2:val r=0:=by omega
  subst h1;rw[dw]at hc;rcases List.mem_cons.1 hc with rfl|hc
  ·simp
  rcases List.mem_cons.1 hc with rfl|hc
  ·simp
  ·exact ih h2 hc
theorem fE.Dz{v:Value}{k:Nat}(h:fE w S v k z):∃b a ls c,v= .agg #[.bool b,.slice a ls.length c]∧dH w S (.slice a ls.length c) ls∧sg b (val ls)=z∧ls.length<=k:=by
 obtain⟨b,ls,⟨lv,rfl,hl⟩,hz,hk⟩:=h;obtain⟨a,c,rfl,_⟩:=hl.sl;exact⟨b,a,ls,c,rfl,hl,hz,hk⟩
theorem fE.ln{v:Value}{k:Nat}(h:fE w S v k z):ln z.natAbs<=k:=by
 obtain⟨b,a,ls,c,_,hl,hz,hk⟩:=h.Dz;rw[<-hz,rz];exact JJ hl.lm hk
theorem fE.neg{k:Nat}(h:fE w S (.agg #[.bool b,lv]) k z):fE w S (.agg #[.bool (!b),lv]) k (-z):=by
 obtain⟨b,ls,⟨lv,e,hl⟩,hz,hk⟩:=h;simp only[Value.agg.injEq,Array.mk.injEq,List.cons.injEq,Value.bool.injEq,and_true]at e;obtain⟨rfl,rfl⟩:=e;refine⟨_,ls,⟨_,rfl,hl⟩,?_,hk⟩;rw[<-hz]
 cases b<;>simp[sg]
theorem fE.abs{k:Nat}(h:fE w S (.agg #[.bool b,lv]) k z):fE w S (.agg #[.bool false,lv]) k (z.natAbs:Int):=by
 obtain⟨b,ls,⟨lv,e,hl⟩,hz,hk⟩:=h;simp only[Value.agg.injEq,Array.mk.injEq,List.cons.injEq,Value.bool.injEq,and_true]at e;obtain⟨rfl,rfl⟩:=e;exact⟨_,ls,⟨_,rfl,hl⟩,by rw[<-hz,rz];rfl,hk⟩
theorem qM{v:Value}{k:Nat}(hS:Old S w)(h:fE w S v k z)(hk:k<=40000000):
  dm PG N.mE #[v] w (eB w fun v' w2=>∃cs,di w2 (Nf w w2) v' cs∧AF cs (2*k) z):=by
 obtain⟨b,ls,hi,hz,hl⟩:=h;have hlm:Lm ls:=by obtain⟨_,_,h⟩:=hi;exact h.lm
 refine(FR hS hi (by omega)).mono fun _ w2 ⟨v2,e1,e2,e3⟩=>⟨v2,e1,e2,_,e3,by rw[Bb,KO,hz],by rw[gf];omega,yX (Li b) hlm,fun h0=>?_⟩
 cases b with
 |false=>exact fun c hc=>(wA hlm c hc).1
 |true=>
  rw[Ii]at hz;exact fun c hc=>by rw[AG _ (show val ls=0 by omega) c hc];decide
theorem FT{v:Value}{n:Nat}(hS:Old S w)(h:di w S v cs)(hb:AF cs n z)(hn:n<=100000000):
  dm PG N.ja #[v] w (eB w fun v' w2=>dC w2 (Nf w w2) v' z):=by
 have:=uo hS h (fun c hc=>by have:=hb.2.2.1 c hc;omega) (by have:=hb.2.1;omega);rw[hb.1]at this;exact this
theorem JQ{v:Value}{k:Nat}(hS:Old S w)(hx:fE w S v k x)(hk:k<=40000000):
  dm PG N.As #[v] w (eB w fun v' w2=>dC w2 (Nf w w2) v' x):=by
 have hw:cV w.heap.size w w:=cV.refl;replace hx:=hx.cI (S':=Cv S w.heap.size []) fun _ h=>.inl h;obtain⟨b1,a1,n1,c1,rfl⟩:=hx.shape;refine Bv (by simp) ?_;refine cC (cE hw (fun _ w' v w2=>∃cs,di w2 (Nf w' w2) v cs∧AF cs (2*k) (x)) (fun O w' r=>qM (Rel.old r hS) (hx.rel r hS) (by omega)) ?_);rintro O wa1 v1 wb1 iv1 r he hw h_ ⟨cs,k1,bcs⟩;have hc:=k1.c9 (S:=fun _=>False) r.cD (mN h_);obtain⟨acs,ccs,rfl,lcs⟩:=hc.shape;refine cC (cE hw (fun _ w' v w2=>dC w2 (Nf w' w2) v (x)) (fun O w' r=>FT (Rel.old r (cB w)) (hc.rel r (cB w)) bcs (by omega)) ?_);rintro O wa2 v2 wb2 iv2 r he hw h_ hn;have hC:=hn.c9 (S:=fun _=>False) r.cD (mN h_);obtain⟨s2_0,s2_1,s2_2,s2_3,rfl⟩:=hC.shape;intro ρe we re;exact⟨_,rfl,hw.tr re.cM,hC.out re (cB w)⟩
theorem lC{v:Value}{k:Nat}(hS:Old S w)(hx:fE w S v k x)(hk:k<=40000000):
  dm PG N.vR #[v] w (eB w fun v' w2=>dC w2 (Nf w w2) v' (-x)):=by
 have hw:cV w.heap.size w w:=cV.refl;replace hx:=hx.cI (S':=Cv S w.heap.size []) fun _ h=>.inl h;obtain⟨b1,a1,n1,c1,rfl⟩:=hx.shape;replace hx:=hx.neg;refine yu (by simp) ?_;refine cC (cE hw (fun _ w' v w2=>dC w2 (Nf w' w2) v (-x)) (fun O w' r=>JQ (Rel.old r hS) (hx.rel r hS) hk) ?_);rintro O wa1 v1 wb1 iv1 r he hw h_ hn;have hC:=hn.c9 (S:=fun _=>False) r.cD (mN h_);obtain⟨s1_0,s1_1,s1_2,s1_3,rfl⟩:=hC.shape;intro ρe we re;exact⟨_,rfl,hw.tr re.cM,hC.out re (cB w)⟩
theorem xJ{v:Value}{k:Nat}(hS:Old S w)(hx:fE w S v k x)(hk:k<=40000000):
  dm PG N.yb #[v] w (eB w fun v' w2=>dC w2 (Nf w w2) v' ((x.natAbs:Int))):=by
 have hw:cV w.heap.size w w:=cV.refl;replace hx:=hx.cI (S':=Cv S w.heap.size []) fun _ h=>.inl h;obtain⟨b1,a1,n1,c1,rfl⟩:=hx.shape;replace hx:=hx.abs;refine zo (by simp) ?_;refine cC (cE hw (fun _ w' v w2=>dC w2 (Nf w' w2) v ((x.natAbs:Int))) (fun O w' r=>JQ (Rel.old r hS) (hx.rel r hS) hk) ?_);rintro O wa1 v1 wb1 iv1 r he hw h_ hn;have hC:=hn.c9 (S:=fun _=>False) r.cD (mN h_);obtain⟨s1_0,s1_1,s1_2,s1_3,rfl⟩:=hC.shape;intro ρe we re;exact⟨_,rfl,hw.tr re.cM,hC.out re (cB w)⟩
theorem Ke{v:Value}{i:Nat}(hS:Old S w)(h:di w S v cs):
  dm PG N.DX #[v,.int .i64 i] w (eB w fun v' _=>v'= .int .i64 (cs.getD i 0)):=by
 obtain⟨a,c,rfl,hc⟩:=h.shape;refine DZ (by simp) ?_;refine dI.mk (fun hi=>?_) (fun hi=>?_)
 ·have hi:i<cs.length:=by simpa using hi
  obtain⟨x,hx⟩:∃x,cs[i]? =some x:=⟨_,aB hi⟩
  obtain⟨ad,rfl,q1,q2⟩:=h.load hx;refine⟨ad,rfl,by omega,.int .i64 x,fun O w' r=>?_,?_⟩
  ·rw[aF];exact jX hS cV.refl r q1 q2
  intro O w2 r;exact⟨_,rfl,r.cM,by rw[List.getD,hx];rfl⟩
 ·have hi:cs.length<=i:=by
   have:¬i<cs.length:=by simpa using hi
   omega
  intro O w2 r;exact⟨_,rfl,r.cM,by rw[List.getD,List.getElem?_eq_none hi];rfl⟩
theorem val_zero(h:∀x∈ls,x=0):val ls=0:=by
 induction ls with
 |nil=>rfl
 |cons l r ih=>rw[val,h l aJ,ih fun x hx=>h x (aC _ hx)]
theorem KP{x:Nat}(h:x∈ls)(hx:x≠0):0<val ls:=by
 induction ls with
 |nil=>cases h
 |cons l r ih=>
  rw[val];rcases List.mem_cons.1 h with rfl|h
  ·omega
  ·have:=ih h;omega
theorem gB{v:Value}(hS:Old S w)(hx:jF w S v x):
  dm PG N.y8 #[v] w (eB w fun v' _=>v'= .int .i64 x.sign):=by
 obtain⟨b,ls,⟨lv,rfl,h1⟩,hz⟩:=hx;obtain⟨a,c,rfl,_,ha⟩:=h1.sl;have hle1:=h1.le;refine zl (by simp) ?_
 refine⟨Nat×World,fun z=>⟨[(1,.o (.p 0 0)),(3,.o (.v (.int .i64 z.1)))],[(0,.box T.Int [.v (.bool b),.v (.slice a ls.length c)])],1,[],z.2⟩,fun z=>ls.length-z.1,
  fun z=>z.1<=ls.length∧cV w.heap.size w z.2∧∀x∈ls.take z.1,x=0,?_,?_⟩
 ·intro O w' r;exact⟨(0,w'),⟨by simp,r.cM,by simp⟩,Sub.gn [] r⟩
 rintro⟨i,w1⟩ ⟨hi,hw,ht⟩;dsimp only at hi hw ht ⊢;refine dI.mk (fun hib=>?_) (fun hib=>?_)
 ·have hib:i<ls.length:=by simpa using hib
  obtain⟨y,hy⟩:∃x,ls[i]? =some x:=⟨_,aB hib⟩
  obtain⟨ad,rfl,q1,q2⟩:=ha i y hy;refine⟨ad,rfl,by omega,.int .u32 y,fun O w' r=>by rw[aF,aU];exact jX hS hw r q1 q2,?_⟩;refine dI.mk (fun hne=>?_) (fun hne=>?_)
  ·have hne:y≠0:=fun h=>by rw[h]at hne;simp at hne
   have hp:=KP (aD hy) hne
   cases b with
   |true=>
    rw[Ii]at hz;intro O w2 r;exact⟨_,rfl,hw.tr r.cM,by rw[bZ (by omega)];rfl⟩
   |false=>
    rw[LR]at hz;intro O w2 r;exact⟨_,rfl,hw.tr r.cM,by rw[b9 (by omega)];rfl⟩
  have hne:y=0:=by simpa using hne
  subst hne;have ht2:∀x∈ls.take (i+1),x=0:=fun x hx=>by
   rw[List.take_add_one,hy]at hx;rcases bQ.1 hx with hx|hx
   ·exact ht x hx
   ·simpa using hx
  refine⟨((i+1:Nat):Int),wo,?_⟩;intro ρ3 w3 r3;exact⟨(i+1,w3),⟨hib,hw.tr r3.cM,ht2⟩,Sub.gn [] r3,by dsimp only;omega⟩
 have hib:i=ls.length:=by
  have:¬i<ls.length:=by simpa using hib
  omega
 subst hib;rw[bE]at ht;intro O w2 r;refine⟨_,rfl,hw.tr r.cM,?_⟩;rw[<-hz,val_zero ht]
 cases b<;>rfl
theorem AF.at{n:Nat}(h:AF cs n z)(i:Nat): -65535<=cs.getD i 0∧cs.getD i 0<=65535:=by
 rw[List.getD]
 cases hj:cs[i]? with
 |none=>simp
 |some d=>exact h.2.2.1 d (aD hj)
end Go.Ex
namespace Go.Sx
open Go Go.Ex Go.Proofs
variable{cs:List Int}{O:Nat->Sx.df}
theorem Rel.KQ{H:Hp}{nx:Nat}{iv:Iv}{B:Nat}{w w':World}(r:Rel H nx iv B w O w'){id m:Nat}(h:dA H id=some (.vec T.int 1 (cs.map (Value.int .i64))))(hm:m=cs.length)(hl:m<=maxLen):
  ∃S',Old S' w'∧di w' S' ((SV.o (.w id m)).den O) cs:=by
 have hrow:=r.CV (m:=m) h (by rw[aL,hm,aU]) (by decide);exact⟨_,fun g hg=>(ownsRow.low hrow g hg).2,qJ hrow hm hl⟩
end Go.Sx
namespace Go.Ex
open Go Go.Sx Go.Proofs
variable{x y:Int}{cs:List Int}{S:Nat->Prop}{O:Nat->Sx.df}{u:Value}{w:World}
theorem mI{H:Hp}{nx:Nat}{iv:Iv}{B:Nat}{w':World}(r:Rel H nx iv B w O w'){id m:Nat}{z:Int}(h:dA H id=some (.vec T.int 1 (cs.map (Value.int .i64))))(hm:m=cs.length)(hl:m<=100000000)
  (hb:∀c∈cs,-1152921504606846976<=c∧c<=1152921504606846976) (hz:dJ cs=z):dm PG N.ja #[(SV.o (.w id m)).den O] w' (eB w' fun v' w2=>dC w2 (Nf w' w2) v' z):=by
 subst hz;obtain⟨S',h1,h2⟩:=r.KQ h hm (by unfold maxLen;omega);exact uo h1 h2 hb (by omega)
theorem zW{v:Value}{k l:Nat}(hS:Old S w)(hx:fE w S v k x)(hy:fE w S u l y)(hk:k<=10000000)(hl:l<=10000000):
  dm PG N.Ap #[v,u] w (eB w fun v' w2=>dC w2 (Nf w w2) v' (x+y)):=by
 have hw:cV w.heap.size w w:=cV.refl;replace hx:=hx.cI (S':=Cv S w.heap.size []) fun _ h=>.inl h;replace hy:=hy.cI (S':=Cv S w.heap.size []) fun _ h=>.inl h;obtain⟨b1,a1,n1,c1,rfl⟩:=hx.shape;obtain⟨b2,a2,n2,c2,rfl⟩:=hy.shape;refine Bk (by simp) ?_;refine cJ hτ db [.x 0,.x 2,.x 1,.x 3,.x 4,.x 5] (by kernel_rfl) (by kernel_rfl) ?_;refine cE hw (fun _ w' v w2=>∃cs,di w2 (Nf w' w2) v cs∧AF cs (2*k) (x)) (fun O w' r=>qM (Rel.old r hS) (hx.rel r hS) (by omega)) ?_;rintro O wa1 v1 wb1 iv1 r he hw h_ ⟨ca,k1,bca⟩;replace hy:=hy.cF r hS he (mC h_);have hca:=k1.c9 (S:=fun _=>False) r.cD (mN h_);obtain⟨aca,cca,rfl,lca⟩:=hca.shape;refine cE hw (fun _ w' v w2=>∃cs,di w2 (Nf w' w2) v cs∧AF cs (2*l) (y)) (fun O w' r=>qM (Rel.old r hS) (hy.rel r hS) (by omega)) ?_;rintro O wa2 v2 wb2 iv2 r he hw h_ ⟨cb,k1,bcb⟩;replace hca:=hca.cF r (cB w) he (mC h_);have hcb:=k1.c9 (S:=fun _=>False) r.cD (mN h_);obtain⟨acb,ccb,rfl,lcb⟩:=hcb.shape
 refine⟨Nat×World×Iv,fun z=>⟨[(4,.o (.p 2 0)),(5,.o (.v (.slice aca ca.length cca))),(6,.o (.v (.slice acb cb.length ccb))),(7,.o (.w 3 z.1)),(8,.o (.v (.int .i64 z.1)))],[(3,.vec T.int 1 (((List.range z.1).map fun j=>ca.getD j 0+cb.getD j 0).map (Value.int .i64))),(2,.box T.Int [.v (.bool false),.v (.slice none 0 0)])],4,z.2.2,z.2.1⟩,fun z=>max ca.length cb.length-z.1,
  fun z=>z.1<=max ca.length cb.length∧cV w.heap.size w z.2.1∧di z.2.1 (Cf w z.2.2) (.slice aca ca.length cca) ca∧di z.2.1 (Cf w z.2.2) (.slice acb cb.length ccb) cb,?_,?_⟩
 ·intro O w' r
  exact⟨(0,w',iv2),⟨by simp,hw.tr r.cM,hca.rel r (cB w),hcb.rel r (cB w)⟩,Sub.nil 7 T.int 1 rfl (by simp[jn,SV.sc,At.sc,fW]) r fun ρ1 r1=>
   Sub.gn [] r1⟩
 rintro⟨i,w1,iv⟩ ⟨hi,hw,hca,hcb⟩;dsimp only at hi hw hca hcb ⊢;have l1:=bca.2.1;have l2:=bcb.2.1;refine dI.mk (fun hib=>?_) (fun hib=>?_)
 ·have hib:i<max ca.length cb.length:=by
   have:=aI hib;omega
  have q1:=bca.at i;have q2:=bcb.at i;refine cC (cE hw (fun _ w' v w2=>v= .int .i64 (ca.getD i 0)) (fun O w' r=>Ke (Rel.old r (cB w)) (hca.rel r (cB w))) ?_);rintro O wa3 v3 wb3 iv3 r he hw h_ rfl;replace hca:=hca.cF r (cB w) he (mC h_);replace hcb:=hcb.cF r (cB w) he (mC h_);refine cC (cE hw (fun _ w' v w2=>v= .int .i64 (cb.getD i 0)) (fun O w' r=>Ke (Rel.old r (cB w)) (hcb.rel r (cB w))) ?_);rintro O wa4 v4 wb4 iv4 r he hw h_ rfl;replace hca:=hca.cF r (cB w) he (mC h_);replace hcb:=hcb.cF r (cB w) he (mC h_);refine⟨ca.getD i 0+cb.getD i 0,wo,?_⟩;refine .inl ?_;refine⟨by simp,by omega,by unfold maxLen;omega,((i+1:Nat):Int),wo,?_⟩;intro ρ3 w3 r3;have hm5:((List.range (i+1)).map fun j=>ca.getD j 0+cb.getD j 0).map (Value.int .i64)=((List.range i).map fun j=>ca.getD j 0+cb.getD j 0).map (Value.int .i64)++[.int .i64 (ca.getD i 0+cb.getD i 0)]:=by
   rw[bN,List.map_append,List.map_append];rfl
  exact⟨(i+1,w3,_),⟨hib,hw.tr r3.cM,hca.rel r3 (cB w),hcb.rel r3 (cB w)⟩,Sub.gn [(3,5)] r3 ⟨by dsimp only;rw[hm5];rfl,rfl,trivial⟩,by dsimp only;omega⟩
 have hib:i=max ca.length cb.length:=by
  have:=aH hib;omega
 generalize hcs:((List.range i).map fun j=>ca.getD j 0+cb.getD j 0)=cs;have hz:dJ cs=x+y:=by
  rw[<-hcs,yV,yW,om ca i (by omega),om cb i (by omega),bca.1,bcb.1]
 have hlen:i=cs.length:=by rw[<-hcs];simp
 have hbd:∀c∈cs,-1152921504606846976<=c∧c<=1152921504606846976:=fun c hc=>by
  rw[<-hcs]at hc;obtain⟨j,_,rfl⟩:=aT.1 hc;have:=bca.at j;have:=bcb.at j;omega
 refine cC (cE hw (fun _ w' v w2=>dC w2 (Nf w' w2) v (x+y)) (fun O w' r=>mI r rfl hlen (by omega) hbd hz) ?_);rintro O wa3 v3 wb3 iv3 r he hw h_ hn;have hC:=hn.c9 (S:=fun _=>False) r.cD (mN h_);obtain⟨s3_0,s3_1,s3_2,s3_3,rfl⟩:=hC.shape;intro ρe we re;exact⟨_,rfl,hw.tr re.cM,hC.out re (cB w)⟩
theorem CX{v:Value}{k l:Nat}(hS:Old S w)(hx:fE w S v k x)(hy:fE w S u l y)(hk:k<=10000000)(hl:l<=10000000):
  dm PG N.ya #[v,u] w (eB w fun v' w2=>dC w2 (Nf w w2) v' (x-y)):=by
 have hly:=hy.ln;have hw:cV w.heap.size w w:=cV.refl;replace hx:=hx.cI (S':=Cv S w.heap.size []) fun _ h=>.inl h;replace hy:=hy.cI (S':=Cv S w.heap.size []) fun _ h=>.inl h;obtain⟨b1,a1,n1,c1,rfl⟩:=hx.shape;obtain⟨b2,a2,n2,c2,rfl⟩:=hy.shape;refine zn (by simp) ?_;refine cJ hτ db [.x 0,.x 1,.x 2,.x 3,.x 4] (by kernel_rfl) (by kernel_rfl) ?_;refine cE hw (fun _ w' v w2=>dC w2 (Nf w' w2) v (-y)) (fun O w' r=>lC (Rel.old r hS) (hy.rel r hS) (by omega)) ?_;rintro O wa1 v1 wb1 iv1 r he hw h_ hn;replace hx:=hx.cF r hS he (mC h_);have hm:=hn.c9 (S:=fun _=>False) r.cD (mN h_);obtain⟨s1_0,s1_1,s1_2,s1_3,rfl⟩:=hm.shape;refine cE hw (fun _ w' v w2=>dC w2 (Nf w' w2) v (x-y)) (fun O w' r=>?_) ?_
 ·have h:=zW (Rel.old r hS) (hx.rel r hS) (((hm.rel r (cB w)).l (k:=l) (by rw[bz];exact hly)).cI fun g hg=>Cv.false hg) hk hl;rw[<-Int.sub_eq_add_neg]at h;exact h
 rintro O wa2 v2 wb2 iv2 r he hw h_ hn;have hC:=hn.c9 (S:=fun _=>False) r.cD (mN h_);obtain⟨s2_0,s2_1,s2_2,s2_3,rfl⟩:=hC.shape;intro ρe we re;exact⟨_,rfl,hw.tr re.cM,hC.out re (cB w)⟩
theorem HN{v:Value}{k l:Nat}(hS:Old S w)(hx:fE w S v k x)(hy:fE w S u l y)(hk:k<=10000000)(hl:l<=10000000):
  dm PG N.sk #[v,u] w (eB w fun v' _=>v'= .int .i64 (x-y).sign):=by
 have hw:cV w.heap.size w w:=cV.refl;replace hx:=hx.cI (S':=Cv S w.heap.size []) fun _ h=>.inl h;replace hy:=hy.cI (S':=Cv S w.heap.size []) fun _ h=>.inl h;obtain⟨b1,a1,n1,c1,rfl⟩:=hx.shape;obtain⟨b2,a2,n2,c2,rfl⟩:=hy.shape;refine wN (by simp) ?_;refine cC (cE hw (fun _ w' v w2=>dC w2 (Nf w' w2) v (x-y)) (fun O w' r=>CX (Rel.old r hS) (hx.rel r hS) (hy.rel r hS) hk hl) ?_);rintro O wa1 v1 wb1 iv1 r he hw h_ hn;have hd:=hn.c9 (S:=fun _=>False) r.cD (mN h_);obtain⟨s1_0,s1_1,s1_2,s1_3,rfl⟩:=hd.shape;refine cC (cE hw (fun _ w' v w2=>v= .int .i64 (x-y).sign) (fun O w' r=>gB (Rel.old r (cB w)) (hd.rel r (cB w)).r) ?_);rintro O wa2 v2 wb2 iv2 r he hw h_ rfl;intro ρe we re;exact⟨_,rfl,hw.tr re.cM,rfl⟩
end Go.Ex
namespace Go.Ex
open Go Go.Sx Go.Proofs
variable{S:Nat->Prop}
theorem HO{x y:Int}(hx: -65535<=x∧x<=65535)(hy: -65535<=y∧y<=65535):(x*y).natAbs<=4294836225:=by
 rw[Int.natAbs_mul];exact Nat.mul_le_mul (show x.natAbs<=65535 by omega) (show y.natAbs<=65535 by omega)
theorem BN{a b:List Int}{i k:Nat}(hk:k<=i+1)(h:i<k∨a.length<=k):gq a b i k=fa a b i:=by
 rcases h with h|h
 ·rw[fa,show i+1=k by omega]
 ·obtain⟨m,hm⟩:∃m,i+1=k+m:=⟨i+1-k,by omega⟩
  rw[fa,hm,Ef a b i k m h]
theorem ga{w:World}{v u:Value}{k l:Nat}{x y:Int}(hS:Old S w)(hx:fE w S v k x)(hy:fE w S u l y)(hk:k<=10000000)(hl:l<=10000000):
  dm PG N.y9 #[v,u] w (eB w fun v' w2=>dC w2 (Nf w w2) v' (x*y)):=by
 have hw:cV w.heap.size w w:=cV.refl;replace hx:=hx.cI (S':=Cv S w.heap.size []) fun _ h=>.inl h;replace hy:=hy.cI (S':=Cv S w.heap.size []) fun _ h=>.inl h;obtain⟨b1,a1,n1,c1,rfl⟩:=hx.shape;obtain⟨b2,a2,n2,c2,rfl⟩:=hy.shape;refine zm (by simp) ?_;refine cJ hτ db [.x 0,.x 2,.x 1,.x 3,.x 4,.x 5] (by kernel_rfl) (by kernel_rfl) ?_;refine cE hw (fun _ w' v w2=>∃cs,di w2 (Nf w' w2) v cs∧AF cs (2*k) (x)) (fun O w' r=>qM (Rel.old r hS) (hx.rel r hS) (by omega)) ?_;rintro O wa1 v1 wb1 iv1 r he hw h_ ⟨ca,k1,bca⟩;replace hy:=hy.cF r hS he (mC h_);have hca:=k1.c9 (S:=fun _=>False) r.cD (mN h_);obtain⟨aca,cca,rfl,lca⟩:=hca.shape;refine cE hw (fun _ w' v w2=>∃cs,di w2 (Nf w' w2) v cs∧AF cs (2*l) (y)) (fun O w' r=>qM (Rel.old r hS) (hy.rel r hS) (by omega)) ?_;rintro O wa2 v2 wb2 iv2 r he hw h_ ⟨cb,k1,bcb⟩;replace hca:=hca.cF r (cB w) he (mC h_);have hcb:=k1.c9 (S:=fun _=>False) r.cD (mN h_);obtain⟨acb,ccb,rfl,lcb⟩:=hcb.shape;have l1:=bca.2.1;have l2:=bcb.2.1
 refine⟨Nat×World,fun z=>⟨[(4,.o (.p 2 0)),(5,.o (.v (.slice aca ca.length cca))),(6,.o (.v (.slice acb cb.length ccb))),(7,.o (.w 3 z.1)),(8,.o (.v (.int .i64 ((z.1:Nat):Int))))],[(3,.vec T.int 1 (((List.range z.1).map (fa ca cb)).map (Value.int .i64))),(2,.box T.Int [.v (.bool false),.v (.slice none 0 0)])],4,iv2,z.2⟩,fun z=>ca.length+cb.length-z.1,
  fun z=>(z.1+1<=ca.length+cb.length∨z.1=0)∧cV w.heap.size w z.2∧di z.2 (Cf w iv2) (.slice aca ca.length cca) ca∧di z.2 (Cf w iv2) (.slice acb cb.length ccb) cb,?_,?_⟩
 ·intro O w' r
  exact⟨(0,w'),⟨by simp,hw.tr r.cM,hca.rel r (cB w),hcb.rel r (cB w)⟩,Sub.nil 7 T.int 1 rfl (by simp[jn,SV.sc,At.sc,fW]) r fun ρ1 r1=>
   Sub.gn [] r1⟩
 rintro⟨i,w1⟩ ⟨hi,hw,hca,hcb⟩;dsimp only at hi hw hca hcb ⊢;refine⟨((i+1:Nat):Int),wo,((ca.length+cb.length:Nat):Int),wo,?_⟩;refine dI.mk (fun hib=>?_) (fun hib=>?_)
 ·have hib:i+1<ca.length+cb.length:=by
   have:=aI hib;omega
  refine⟨(i:Int)-cb.length,wo,(i:Int)-cb.length+1,wo,?_⟩;conv=>whnf
  rw[show max 0 ((i:Int)-cb.length+1)=((i+1-cb.length:Nat):Int) by omega];obtain⟨k0,hk0⟩:∃k0,k0=i+1-cb.length:=⟨_,rfl⟩
  rw[<-hk0]
  refine⟨Nat×World,fun z=>⟨[(4,.o (.p 2 0)),(5,.o (.v (.slice aca ca.length cca))),(6,.o (.v (.slice acb cb.length ccb))),(7,.o (.w 3 i)),(8,.o (.v (.int .i64 ((i:Nat):Int)))),(9,.o (.v (.int .i64 (gq ca cb i z.1)))),(10,.o (.v (.int .i64 ((z.1:Nat):Int))))],[(3,.vec T.int 1 (((List.range i).map (fa ca cb)).map (Value.int .i64))),(2,.box T.Int [.v (.bool false),.v (.slice none 0 0)])],4,iv2,z.2⟩,fun z=>i+1-z.1,
   fun z=>k0<=z.1∧z.1<=i+1∧cV w.heap.size w z.2∧di z.2 (Cf w iv2) (.slice aca ca.length cca) ca∧di z.2 (Cf w iv2) (.slice acb cb.length ccb) cb,?_,?_⟩
  ·intro O w' r;refine⟨(k0,w'),⟨by simp,by dsimp only;omega,hw.tr r.cM,hca.rel r (cB w),hcb.rel r (cB w)⟩,Sub.gn [] r (hE:=⟨rfl,rfl,rfl,rfl,rfl,?_,rfl,trivial⟩)⟩;dsimp only
   rw[Ee ca cb i k0 k0 (fun j hj=>by omega) (by omega) (aG _)];rfl
  rintro⟨j,w2⟩ ⟨hj0,hj1,hw,hca,hcb⟩;dsimp only at hj0 hj1 hw hca hcb ⊢;conv=>whnf
  refine dI.mk (fun hji=>?_) (fun hji=>?_)
  ·have hji:j<=i:=by
    have:=aI hji;omega
   refine dI.mk (fun hja=>?_) (fun hja=>?_)
   ·have hja:j<ca.length:=by
     have:=aI hja;omega
    obtain⟨p,hp⟩:∃p,ca[j]? =some p:=⟨_,aB hja⟩
    obtain⟨q,hq⟩:∃q,cb[i-j]? =some q:=⟨_,aB (by omega)⟩
    obtain⟨ad,rfl,q1,q2⟩:=hca.load hp;obtain⟨ad2,rfl,q3,q4⟩:=hcb.load hq;have e1:ca.getD j 0=p:=by rw[List.getD,hp];rfl
    have e2:cb.getD (i-j) 0=q:=by rw[List.getD,hq];rfl
    have e3:gq ca cb i (j+1)=gq ca cb i j+p*q:=by rw[gq,e1,if_pos hji,e2]
    have m1:=bca.at j;have m2:=bcb.at (i-j);rw[e1]at m1;rw[e2]at m2;have m3:=HO m1 m2;have m4:=lN (a:=ca) (b:=cb) (i:=i) bca.2.2.1 bcb.2.2.1 j;refine cJ hτ db [.x 0,.x 1,.x 2,.x 3,.x 4,.x 5,.x 6,.x 7,.x 8,.x 9,.x 10,.x 11,.x 12,.x 13] (by kernel_rfl) (by kernel_rfl) ?_;refine⟨ad,rfl,by omega,.int .i64 p,fun O w' r=>?_,?_⟩
    ·rw[aF,cH (w:=w2) (w2:=w') (by rw[dQ];exact Rel.same (S:=fun _=>False) r (cB w) q1)];exact q2
    refine⟨((i-j:Nat):Int),wo,ad2,rfl,by omega,.int .i64 q,fun O w' r=>?_,?_⟩
    ·rw[aF,cH (w:=w2) (w2:=w') (by rw[dQ];exact Rel.same (S:=fun _=>False) r (cB w) q3)];exact q4
    refine⟨p*q,wo,gq ca cb i (j+1),by rw[e3,wrap64]<;>omega,((j+1:Nat):Int),wo,?_⟩;intro ρ3 w3 r3;exact⟨(j+1,w3),⟨by dsimp only;omega,by dsimp only;omega,hw.tr r3.cM,hca.rel r3 (cB w),hcb.rel r3 (cB w)⟩,Sub.gn [] r3,by dsimp only;omega⟩
   have hja:ca.length<=j:=by
    have:=aH hja;omega
   rw[BN hj1 (.inr hja)];have m4:=lN (a:=ca) (b:=cb) (i:=i) bca.2.2.1 bcb.2.2.1 (i+1);refine .inl ?_;refine⟨by simp,by omega,by unfold maxLen;omega,((i+1:Nat):Int),wo,?_⟩;intro ρ3 w3 r3;have hm5:((List.range (i+1)).map (fa ca cb)).map (Value.int .i64)=((List.range i).map (fa ca cb)).map (Value.int .i64)++[.int .i64 (fa ca cb i)]:=by
    rw[bN,List.map_append,List.map_append];rfl
   exact⟨(i+1,w3),⟨.inl hib,hw.tr r3.cM,hca.rel r3 (cB w),hcb.rel r3 (cB w)⟩,Sub.gn [(3,5)] r3 ⟨by dsimp only;rw[hm5];rfl,rfl,trivial⟩,by dsimp only;omega⟩
  have hji:i<j:=by
   have:=aH hji;omega
  rw[BN hj1 (.inl hji)];have m4:=lN (a:=ca) (b:=cb) (i:=i) bca.2.2.1 bcb.2.2.1 (i+1);refine .inl ?_;refine⟨by simp,by omega,by unfold maxLen;omega,((i+1:Nat):Int),wo,?_⟩;intro ρ3 w3 r3;have hm5:((List.range (i+1)).map (fa ca cb)).map (Value.int .i64)=((List.range i).map (fa ca cb)).map (Value.int .i64)++[.int .i64 (fa ca cb i)]:=by
   rw[bN,List.map_append,List.map_append];rfl
  exact⟨(i+1,w3),⟨.inl hib,hw.tr r3.cM,hca.rel r3 (cB w),hcb.rel r3 (cB w)⟩,Sub.gn [(3,5)] r3 ⟨by dsimp only;rw[hm5];rfl,rfl,trivial⟩,by dsimp only;omega⟩
 have hib:ca.length+cb.length<=i+1:=by
  have:=aH hib;omega
 generalize hcs:((List.range i).map (fa ca cb))=cs;have hz:dJ cs=x*y:=by
  rw[<-hcs,yV,IQ ca cb i hib,bca.1,bcb.1]
 have hlen:i=cs.length:=by rw[<-hcs];simp
 have hbd:∀c∈cs,-1152921504606846976<=c∧c<=1152921504606846976:=fun c hc=>by
  rw[<-hcs]at hc;obtain⟨j,hj,rfl⟩:=aT.1 hc;have hj:=List.mem_range.1 hj;have:=lN (a:=ca) (b:=cb) (i:=j) bca.2.2.1 bcb.2.2.1 (j+1);rw[fa];omega
 refine cC (cE hw (fun _ w' v w2=>dC w2 (Nf w' w2) v (x*y)) (fun O w' r=>mI r rfl hlen (by omega) hbd hz) ?_);rintro O wa3 v3 wb3 iv3 r he hw h_ hn;have hC:=hn.c9 (S:=fun _=>False) r.cD (mN h_);obtain⟨s3_0,s3_1,s3_2,s3_3,rfl⟩:=hC.shape;intro ρe we re;exact⟨_,rfl,hw.tr re.cM,hC.out re (cB w)⟩
end Go.Ex
namespace Go.Ex
theorem G2{b r r2 q X n c:Int}(h:X=b*q+r)(hr:r*65536+c=b*n+r2):c+65536*X=b*(n+65536*q)+r2:=by
 rw[h,Int.mul_add,Int.mul_add,Int.mul_left_comm b 65536 q];omega
theorem Hb{x y Q R:Int}(hy:y≠0)(h:(x.natAbs:Int)=(y.natAbs:Int)*Q+R)(h0:0<=R)(h1:R<(y.natAbs:Int)):
  (if x<0∧0<R then(if (x<0)↔(y<0)then(Q+1)else -(Q+1))else(if (x<0)↔(y<0)then Q else -Q))=x / y∧(if x<0∧0<R then(y.natAbs:Int)-R else R)=x % y:=by
 have key:∀q r:Int,r+y*q=x->0<=r->r<(y.natAbs:Int)->q=x / y∧r=x % y:=by
  intro q r e1 e2 e3;have m:x % y=r:=by
   rw[<-e1,Int.add_mul_emod_self_left];rcases Int.lt_or_lt_of_ne hy with h|h
   ·rw[<-Int.emod_neg,Int.emod_eq_of_lt e2 (by omega)]
   ·exact Int.emod_eq_of_lt e2 (by omega)
  have d:=Int.mul_ediv_add_emod x y;rw[m]at d;exact⟨(Int.eq_of_mul_eq_mul_left hy (by omega)),m.symm⟩
 by_cases hx:x<0
 ·have ex:(x.natAbs:Int)= -x:=by omega
  by_cases hy':y<0
  ·have ey:(y.natAbs:Int)= -y:=by omega
   rw[ex,ey,Int.neg_mul]at h;by_cases hR:0<R
   ·rw[if_pos (show x<0∧0<R from⟨hx,hR⟩),if_pos (show x<0∧0<R from⟨hx,hR⟩),if_pos (show (x<0)↔(y<0) by simp[hx,hy'])];exact key _ _ (by rw[Int.mul_add,Int.mul_one];omega) (by omega) (by omega)
   ·rw[aK (show ¬(x<0∧0<R) by omega),aK (show ¬(x<0∧0<R) by omega),if_pos (show (x<0)↔(y<0) by simp[hx,hy'])];exact key _ _ (by omega) h0 h1
  ·have ey:(y.natAbs:Int)=y:=by omega
   rw[ex,ey]at h;have hn:¬((x<0)↔(y<0)):=by simp[hx,hy']
   by_cases hR:0<R
   ·rw[if_pos (show x<0∧0<R from⟨hx,hR⟩),if_pos (show x<0∧0<R from⟨hx,hR⟩),aK hn];exact key _ _ (by rw[Int.mul_neg,Int.mul_add,Int.mul_one];omega) (by omega) (by omega)
   ·rw[aK (show ¬(x<0∧0<R) by omega),aK (show ¬(x<0∧0<R) by omega),aK hn];exact key _ _ (by rw[Int.mul_neg];omega) h0 h1
 ·have ex:(x.natAbs:Int)=x:=by omega
  rw[aK (show ¬(x<0∧0<R) by omega),aK (show ¬(x<0∧0<R) by omega)];by_cases hy':y<0
  ·have ey:(y.natAbs:Int)= -y:=by omega
   rw[ex,ey,Int.neg_mul]at h;rw[aK (show ¬((x<0)↔(y<0)) by simp[hx,hy'])];exact key _ _ (by rw[Int.mul_neg];omega) h0 h1
  ·have ey:(y.natAbs:Int)=y:=by omega
   rw[ex,ey]at h;rw[if_pos (show (x<0)↔(y<0) by simp[hx,hy'])];exact key _ _ (by omega) h0 h1
theorem fX(z:Int):(z<0∧z.sign= -1)∨(z=0∧z.sign=0)∨(0<z∧z.sign=1):=by
 rcases Int.lt_trichotomy z 0 with h|h|h
 ·exact .inl ⟨h,bZ h⟩
 ·exact .inr (.inl ⟨h,by rw[h];rfl⟩)
 ·exact .inr (.inr ⟨h,b9 h⟩)
end Go.Ex
namespace Go.Ex
open Go Go.Sx Go.Proofs
variable{Q:List Int}{S:Nat->Prop}
def JS:Value:=.agg #[.bool false,.slice none 0 0]
theorem dC.nil(w:World)(S:Nat->Prop):dC w S (.agg #[.bool false,.slice none 0 0]) 0:=⟨[],⟨_,rfl,dH.nil _ _⟩,fun x h=>by simp at h,rfl⟩
theorem Mk(h:∀c∈Q,0<=c∧c<=65535):0<=dJ Q:=by
 induction Q with
 |nil=>exact Int.le_refl _
 |cons c r ih=>
  have h1:=h c aJ;have h2:=ih fun x hx=>h x (aC _ hx);rw[dJ];omega
theorem zX{n:Int}(h:0<=n)(h2:n<4294967296):ln n.natAbs<=1:=fg.2 (by show n.natAbs<4294967296^1;omega)
theorem HP{w:World}{v u:Value}{k l:Nat}{x y:Int}(hS:Old S w)(hx:fE w S v k x)(hy:fE w S u l y)(hk:k<=1000000)(hl:l<=1000000):
  dm PG N.nN #[v,u] w (eB w fun v' w2=>(y=0∧v'= .tuple #[JS,JS,.int .i64 9])∨(y≠0∧∃q r,v'= .tuple #[q,r,.int .i64 0]∧dC w2 (Nf w w2) q (x / y)∧dC w2 (Nf w w2) r (x % y))):=by
 have hw:cV w.heap.size w w:=cV.refl;replace hx:=hx.cI (S':=Cv S w.heap.size []) fun _ h=>.inl h;replace hy:=hy.cI (S':=Cv S w.heap.size []) fun _ h=>.inl h;obtain⟨b1,a1,n1,c1,rfl⟩:=hx.shape;obtain⟨b2,a2,n2,c2,rfl⟩:=hy.shape;refine wP (by simp) ?_;have hly:=hy.ln;refine cC (cE hw (fun _ w' v w2=>v= .int .i64 y.sign) (fun O w' r=>gB (Rel.old r hS) (hy.rel r hS).r) ?_);rintro O wa1 v1 wb1 iv1 r he hw h_ rfl;replace hx:=hx.cF r hS he (mC h_);replace hy:=hy.cF r hS he (mC h_);refine dI.mk (fun hy0=>?_) (fun hy0=>?_)
 ·have hy0:y=0:=by rcases fX y with h|h|h<;>simp[h]at hy0 ⊢
  intro ρe we re;exact⟨_,rfl,hw.tr re.cM,.inl ⟨hy0,rfl⟩⟩
 have hy0:y≠0:=fun e=>by rw[e]at hy0;simp at hy0
 refine cJ hτ db [.x 0,.x 3,.p 5,.x 1,.x 2,.x 4,.x 5,.x 6,.x 7] (by kernel_rfl) (by kernel_rfl) ?_;refine cE hw (fun _ w' v w2=>dC w2 (Nf w' w2) v ((x.natAbs:Int))) (fun O w' r=>xJ (Rel.old r hS) (hx.rel r hS) (by omega)) ?_;rintro O wa2 v2 wb2 iv2 r he hw h_ hn;replace hx:=hx.cF r hS he (mC h_);replace hy:=hy.cF r hS he (mC h_);have hsx:=hn.c9 (S:=fun _=>False) r.cD (mN h_);obtain⟨s2_0,s2_1,s2_2,s2_3,rfl⟩:=hsx.shape;have hlx:=hx.ln;refine cE hw (fun _ w' v w2=>∃cs,di w2 (Nf w' w2) v cs∧AF cs (2*k) ((x.natAbs:Int))) (fun O w' r=>qM (Rel.old r (cB w)) ((hsx.rel r (cB w)).l (k:=k) (by rw[Int.natAbs_natCast];exact hlx)) (by omega)) ?_;rintro O wa3 v3 wb3 iv3 r he hw h_ ⟨ca,k1,bca⟩;replace hx:=hx.cF r hS he (mC h_);replace hy:=hy.cF r hS he (mC h_);have hca:=k1.c9 (S:=fun _=>False) r.cD (mN h_);obtain⟨aca,cca,rfl,lca⟩:=hca.shape;refine cE hw (fun _ w' v w2=>dC w2 (Nf w' w2) v ((y.natAbs:Int))) (fun O w' r=>xJ (Rel.old r hS) (hy.rel r hS) (by omega)) ?_;rintro O wa4 v4 wb4 iv4 r he hw h_ hn;replace hx:=hx.cF r hS he (mC h_);replace hy:=hy.cF r hS he (mC h_);replace hca:=hca.cF r (cB w) he (mC h_);have hbb:=hn.c9 (S:=fun _=>False) r.cD (mN h_);obtain⟨s4_0,s4_1,s4_2,s4_3,rfl⟩:=hbb.shape;generalize hB:(y.natAbs:Int)=B at*
 have l1:=bca.2.1;have hB0:0<B:=by omega
 have lB:ln B.natAbs<=l:=by rw[<-hB,Int.natAbs_natCast];exact hly
 refine⟨(ca.length:Int)-1,wo,Nat×List Int×Int×(Bool×Option Addr×Nat×Nat)×World×Iv,fun z=>⟨[(2,.o (.p 0 0)),(3,.o (.p 1 0)),(4,.o (.p 2 0)),(5,.o (.p 3 0)),(6,.o (.v (.int .i64 0))),(7,.o (.v (.slice aca ca.length cca))),(8,.o (.p 4 0)),(9,.o (.w 6 z.2.1.length)),(10,.o (.p 5 0)),(11,.o (.v (.int .i64 ((z.1:Int)-1))))],[(6,.vec T.int 1 (z.2.1.map (Value.int .i64))),(5,.box T.Int [.v (.bool z.2.2.2.1.1),.v (.slice z.2.2.2.1.2.1 z.2.2.2.1.2.2.1 z.2.2.2.1.2.2.2)]),(4,.box T.Int [.v (.bool s4_0),.v (.slice s4_1 s4_2 s4_3)]),(3,.box T.Int [.v (.bool false),.v (.slice none 0 0)]),(2,.box T.Int [.v (.bool false),.v (.slice none 0 0)]),(1,.box T.Int [.v (.bool b2),.v (.slice a2 n2 c2)]),(0,.box T.Int [.v (.bool b1),.v (.slice a1 n1 c1)])],7,z.2.2.2.2.2,z.2.2.2.2.1⟩,fun z=>z.1,
  fun z=>z.1<=ca.length∧z.2.1.length+z.1=ca.length∧(∀c∈z.2.1,0<=c∧c<=65535)∧dJ (ca.drop z.1)=B*dJ z.2.1+z.2.2.1∧0<=z.2.2.1∧z.2.2.1<B∧cV w.heap.size w z.2.2.2.2.1∧fE z.2.2.2.2.1 (Cv S w.heap.size z.2.2.2.2.2) (.agg #[.bool b1,.slice a1 n1 c1]) k x∧fE z.2.2.2.2.1 (Cv S w.heap.size z.2.2.2.2.2) (.agg #[.bool b2,.slice a2 n2 c2]) l y∧di z.2.2.2.2.1 (Cf w z.2.2.2.2.2) (.slice aca ca.length cca) ca∧dC z.2.2.2.2.1 (Cf w z.2.2.2.2.2) (.agg #[.bool s4_0,.slice s4_1 s4_2 s4_3]) B∧dC z.2.2.2.2.1 (Cf w z.2.2.2.2.2) (.agg #[.bool z.2.2.2.1.1,.slice z.2.2.2.1.2.1 z.2.2.2.1.2.2.1 z.2.2.2.1.2.2.2]) z.2.2.1,?_,?_⟩
 ·intro O w' r
  exact⟨(ca.length,[],0,(false,none,0,0),w',iv4),⟨aG _,by simp,by simp,by simp[dJ],Int.le_refl _,hB0,hw.tr r.cM,hx.rel r hS,hy.rel r hS,hca.rel r (cB w),hbb.rel r (cB w),dC.nil _ _⟩,Sub.nil 9 T.int 1 rfl (by simp[jn,SV.sc,At.sc]) r fun ρ1 r1=>
   Sub.gn [] r1⟩
 rintro⟨j,Q,R,⟨br,ar,nr,cr⟩,w1,iv⟩ ⟨hj,hQ,hd,hv,hR0,hR1,hw,hx,hy,hca,hbb,hr⟩;dsimp only at hj hQ hd hv hR0 hR1 hw hx hy hca hbb hr ⊢;refine dI.mk (fun hib=>?_) (fun hib=>?_)
 ·obtain⟨i,rfl⟩:∃i,j=i+1:=⟨j-1,by have:(j:Int)-1≥0:=aI hib;omega⟩
  rw[show ((i+1:Nat):Int)-1=(i:Int) by omega];obtain⟨d,hd1⟩:∃d,ca[i]? =some d:=⟨_,aB (by omega)⟩
  have hd0:=bca.2.2.1 d (aD hd1);have hd2:=bca.2.2.2 (by omega) d (aD hd1);have lR:ln R.natAbs<=l:=a9 (eu (by omega)) lB;have lU:ln (65536:Int).natAbs<=1:=by decide
  have m1:=cY R 65536;have m2:=zX (n:=d) hd2 (by omega);have m3:=iE (R*65536) d;refine cJ hτ db [.x 0,.x 3,.x 4,.x 5,.x 6,.x 1,.x 2,.x 7,.x 8,.x 9] (by kernel_rfl) (by kernel_rfl) ?_;obtain⟨ad,ha0,q1,q2⟩:=hca.load hd1;refine⟨ad,ha0,by omega,.int .i64 d,fun O w' r=>?_,?_⟩
  ·rw[aF,cH (w:=w1) (w2:=w') (by rw[dQ];exact Rel.same (S:=fun _=>False) r (cB w) q1)];exact q2
  refine cE hw (fun _ w' v w2=>dC w2 (Nf w' w2) v (65536)) (fun O w' r=>kB _ w' (by decide) (by decide)) ?_;rintro O wa5 v5 wb5 iv5 r he hw h_ hn;replace hx:=hx.cF r hS he (mC h_);replace hy:=hy.cF r hS he (mC h_);replace hca:=hca.cF r (cB w) he (mC h_);replace hbb:=hbb.cF r (cB w) he (mC h_);replace hr:=hr.cF r (cB w) he (mC h_);have hu:=hn.c9 (S:=fun _=>False) r.cD (mN h_);obtain⟨s5_0,s5_1,s5_2,s5_3,rfl⟩:=hu.shape;refine cE hw (fun _ w' v w2=>dC w2 (Nf w' w2) v (R*65536)) (fun O w' r=>ga (Rel.old r (cB w)) ((hr.rel r (cB w)).l (k:=1000001) (by omega)) ((hu.rel r (cB w)).l (k:=1000001) (by omega)) (by omega) (by omega)) ?_;rintro O wa6 v6 wb6 iv6 r he hw h_ hn;replace hx:=hx.cF r hS he (mC h_);replace hy:=hy.cF r hS he (mC h_);replace hca:=hca.cF r (cB w) he (mC h_);replace hbb:=hbb.cF r (cB w) he (mC h_);have hp:=hn.c9 (S:=fun _=>False) r.cD (mN h_);obtain⟨s6_0,s6_1,s6_2,s6_3,rfl⟩:=hp.shape;refine cE hw (fun _ w' v w2=>dC w2 (Nf w' w2) v (d)) (fun O w' r=>kB _ w' (by omega) (by omega)) ?_;rintro O wa7 v7 wb7 iv7 r he hw h_ hn;replace hx:=hx.cF r hS he (mC h_);replace hy:=hy.cF r hS he (mC h_);replace hca:=hca.cF r (cB w) he (mC h_);replace hbb:=hbb.cF r (cB w) he (mC h_);replace hp:=hp.cF r (cB w) he (mC h_);have hdd:=hn.c9 (S:=fun _=>False) r.cD (mN h_);obtain⟨s7_0,s7_1,s7_2,s7_3,rfl⟩:=hdd.shape;refine cE hw (fun _ w' v w2=>dC w2 (Nf w' w2) v (R*65536+d)) (fun O w' r=>zW (Rel.old r (cB w)) ((hp.rel r (cB w)).l (k:=1000002) (by omega)) ((hdd.rel r (cB w)).l (k:=1000002) (by omega)) (by omega) (by omega)) ?_;rintro O wa8 v8 wb8 iv8 r he hw h_ hn;replace hx:=hx.cF r hS he (mC h_);replace hy:=hy.cF r hS he (mC h_);replace hca:=hca.cF r (cB w) he (mC h_);replace hbb:=hbb.cF r (cB w) he (mC h_);have hr:=hn.c9 (S:=fun _=>False) r.cD (mN h_);obtain⟨s8_0,s8_1,s8_2,s8_3,rfl⟩:=hr.shape;generalize hR2:R*65536+d=R2 at*
  have hR20:0<=R2:=by omega
  have hR21:R2<65536*B:=by omega
  refine⟨Nat×Nat×Nat×World×Iv,fun z=>⟨[(2,.o (.p 0 0)),(3,.o (.p 1 0)),(4,.o (.p 2 0)),(5,.o (.p 3 0)),(6,.o (.v (.int .i64 0))),(7,.o (.v (.slice aca ca.length cca))),(8,.o (.p 4 0)),(9,.o (.w 6 Q.length)),(10,.o (.p 5 0)),(11,.o (.v (.int .i64 ((i:Int))))),(12,.o (.v (.int .i64 ((z.1:Nat):Int)))),(13,.o (.v (.int .i64 ((z.2.2.1:Nat):Int))))],[(6,.vec T.int 1 (Q.map (Value.int .i64))),(5,.box T.Int [.v (.bool s8_0),.v (.slice s8_1 s8_2 s8_3)]),(4,.box T.Int [.v (.bool s4_0),.v (.slice s4_1 s4_2 s4_3)]),(3,.box T.Int [.v (.bool false),.v (.slice none 0 0)]),(2,.box T.Int [.v (.bool false),.v (.slice none 0 0)]),(1,.box T.Int [.v (.bool b2),.v (.slice a2 n2 c2)]),(0,.box T.Int [.v (.bool b1),.v (.slice a1 n1 c1)])],7,z.2.2.2.2,z.2.2.2.1⟩,fun z=>z.2.1,
   fun z=>z.2.2.1=2^z.2.1 / 2∧z.1+2^z.2.1<=65536∧((z.1:Nat):Int)*B<=R2∧R2<((z.1+2^z.2.1:Nat):Int)*B∧cV w.heap.size w z.2.2.2.1∧fE z.2.2.2.1 (Cv S w.heap.size z.2.2.2.2) (.agg #[.bool b1,.slice a1 n1 c1]) k x∧fE z.2.2.2.1 (Cv S w.heap.size z.2.2.2.2) (.agg #[.bool b2,.slice a2 n2 c2]) l y∧di z.2.2.2.1 (Cf w z.2.2.2.2) (.slice aca ca.length cca) ca∧dC z.2.2.2.1 (Cf w z.2.2.2.2) (.agg #[.bool s4_0,.slice s4_1 s4_2 s4_3]) B∧dC z.2.2.2.1 (Cf w z.2.2.2.2) (.agg #[.bool s8_0,.slice s8_1 s8_2 s8_3]) R2,?_,?_⟩
  ·intro O w' r
   exact⟨(0,16,32768,w',iv8),⟨by show 32768=2^16 / 2;decide,by show 0+2^16<=65536;decide,by dsimp only;omega,by dsimp only;rw[show ((0+2^16:Nat):Int)=65536 from rfl];exact hR21,hw.tr r.cM,hx.rel r hS,hy.rel r hS,hca.rel r (cB w),hbb.rel r (cB w),hr.rel r (cB w)⟩,
    Sub.gn [] r⟩
  rintro⟨n,e,bit,w5,iv⟩ ⟨hn0,hn1,hn2,hn3,hw,hx,hy,hca,hbb,hr⟩;dsimp only at hn0 hn1 hn2 hn3 hw hx hy hca hbb hr ⊢;refine dI.mk (fun hbit=>?_) (fun hbit=>?_)
  ·have hbit:0<2^e / 2:=by have:((bit:Nat):Int)>0:=aI hbit;omega
   obtain⟨f,rfl⟩:∃f,e=f+1:=by
    cases e with
    |zero=>exact absurd hbit (by decide)
    |succ f=>exact⟨f,rfl⟩
   have e1:2^(f+1)=2*2^f:=by rw[Nat.pow_succ];omega
   have e2:2^(f+1) / 2=2^f:=by omega
   obtain rfl:bit=2^f:=by omega
   rw[e1]at hn1 hn3;have hp0:=bm f;generalize hp:2^f=p at*
   have m4:=zX (n:=((n+p:Nat):Int)) (by omega) (by omega);have m5:=cY B ((n+p:Nat):Int);have m6:ln R2.natAbs<=l+1:=by
    refine a9 (eu (b:=((65536:Int)*B).natAbs) (by omega)) ?_;have:=cY 65536 B;omega
   refine cJ hτ db [.x 0,.x 1,.x 2,.x 3,.x 6,.x 4,.x 5,.x 7,.x 8] (by kernel_rfl) (by kernel_rfl) ?_;refine⟨((n+p:Nat):Int),wo,?_⟩;refine cE hw (fun _ w' v w2=>dC w2 (Nf w' w2) v (((n+p:Nat):Int))) (fun O w' r=>kB _ w' (by omega) (by omega)) ?_;rintro O wa9 v9 wb9 iv9 r he hw h_ hn;replace hx:=hx.cF r hS he (mC h_);replace hy:=hy.cF r hS he (mC h_);replace hca:=hca.cF r (cB w) he (mC h_);replace hbb:=hbb.cF r (cB w) he (mC h_);replace hr:=hr.cF r (cB w) he (mC h_);have hu:=hn.c9 (S:=fun _=>False) r.cD (mN h_);obtain⟨s9_0,s9_1,s9_2,s9_3,rfl⟩:=hu.shape;refine cE hw (fun _ w' v w2=>dC w2 (Nf w' w2) v (B*((n+p:Nat):Int))) (fun O w' r=>ga (Rel.old r (cB w)) ((hbb.rel r (cB w)).l (k:=1000001) (by omega)) ((hu.rel r (cB w)).l (k:=1000001) (by omega)) (by omega) (by omega)) ?_;rintro O wa10 v10 wb10 iv10 r he hw h_ hn;replace hx:=hx.cF r hS he (mC h_);replace hy:=hy.cF r hS he (mC h_);replace hca:=hca.cF r (cB w) he (mC h_);replace hbb:=hbb.cF r (cB w) he (mC h_);replace hr:=hr.cF r (cB w) he (mC h_);have hp2:=hn.c9 (S:=fun _=>False) r.cD (mN h_);obtain⟨s10_0,s10_1,s10_2,s10_3,rfl⟩:=hp2.shape;refine cE hw (fun _ w' v w2=>v= .int .i64 (B*((n+p:Nat):Int)-R2).sign) (fun O w' r=>HN (Rel.old r (cB w)) ((hp2.rel r (cB w)).l (k:=1000001) (by omega)) ((hr.rel r (cB w)).l (k:=1000001) (by omega)) (by omega) (by omega)) ?_;rintro O wa11 v11 wb11 iv11 r he hw h_ rfl;replace hx:=hx.cF r hS he (mC h_);replace hy:=hy.cF r hS he (mC h_);replace hca:=hca.cF r (cB w) he (mC h_);replace hbb:=hbb.cF r (cB w) he (mC h_);replace hr:=hr.cF r (cB w) he (mC h_);have hs:=fX (B*((n+p:Nat):Int)-R2);refine dI.mk (fun hle=>?_) (fun hle=>?_)
   ·have hle:=aI hle;have hle2:((n+p:Nat):Int)*B<=R2:=by rw[Int.mul_comm];omega
    refine⟨((n+p:Nat):Int),wo,by decide,((2^f / 2:Nat):Int),by rw[hp,show((p:Nat):Int).tdiv 2=((p / 2:Nat):Int)from rfl,wrap64]<;>omega,?_⟩;intro ρ3 w3 r3;exact⟨(n+p,f,2^f / 2,w3,_),⟨rfl,by dsimp only;omega,hle2,by dsimp only;rw[hp,show n+p+p=n+2*p by omega];exact hn3,hw.tr r3.cM,hx.rel r3 hS,hy.rel r3 hS,hca.rel r3 (cB w),hbb.rel r3 (cB w),hr.rel r3 (cB w)⟩,Sub.gn [] r3,by dsimp only;omega⟩
   have hle:=aH hle;have hle2:R2<((n+p:Nat):Int)*B:=by rw[Int.mul_comm];omega
   refine⟨by decide,((2^f / 2:Nat):Int),by rw[hp,show((p:Nat):Int).tdiv 2=((p / 2:Nat):Int)from rfl,wrap64]<;>omega,?_⟩;intro ρ3 w3 r3;exact⟨(n,f,2^f / 2,w3,_),⟨rfl,by dsimp only;omega,hn2,by dsimp only;rw[hp];exact hle2,hw.tr r3.cM,hx.rel r3 hS,hy.rel r3 hS,hca.rel r3 (cB w),hbb.rel r3 (cB w),hr.rel r3 (cB w)⟩,Sub.gn [] r3,by dsimp only;omega⟩
  have hbit:¬0<2^e / 2:=by have:¬((bit:Nat):Int)>0:=aH hbit;omega
  obtain rfl:e=0:=by
   cases e with
   |zero=>rfl
   |succ f=>exact absurd (show 0<2^(f+1) / 2 by rw[Nat.pow_succ];have:=bm f;omega) hbit
  rw[show n+2^0=n+1 from rfl]at hn1 hn3;rw[Int.natCast_add,Int.add_mul]at hn3;rw[Int.mul_comm]at hn2;rw[Int.mul_comm]at hn3;have m4:=zX (n:=((n:Nat):Int)) (by omega) (by omega);have m5:=cY B ((n:Nat):Int);have m6:ln R2.natAbs<=l+1:=by
   refine a9 (eu (b:=((65536:Int)*B).natAbs) (by omega)) ?_;have:=cY 65536 B;omega
  refine cJ hτ db [.x 0,.x 1,.x 2,.x 3,.x 4,.x 5,.x 6] (by kernel_rfl) (by kernel_rfl) ?_;refine cE hw (fun _ w' v w2=>dC w2 (Nf w' w2) v (((n:Nat):Int))) (fun O w' r=>kB _ w' (by omega) (by omega)) ?_;rintro O wa9 v9 wb9 iv9 r he hw h_ hn;replace hx:=hx.cF r hS he (mC h_);replace hy:=hy.cF r hS he (mC h_);replace hca:=hca.cF r (cB w) he (mC h_);replace hbb:=hbb.cF r (cB w) he (mC h_);replace hr:=hr.cF r (cB w) he (mC h_);have hu:=hn.c9 (S:=fun _=>False) r.cD (mN h_);obtain⟨s9_0,s9_1,s9_2,s9_3,rfl⟩:=hu.shape;refine cE hw (fun _ w' v w2=>dC w2 (Nf w' w2) v (B*((n:Nat):Int))) (fun O w' r=>ga (Rel.old r (cB w)) ((hbb.rel r (cB w)).l (k:=1000001) (by omega)) ((hu.rel r (cB w)).l (k:=1000001) (by omega)) (by omega) (by omega)) ?_;rintro O wa10 v10 wb10 iv10 r he hw h_ hn;replace hx:=hx.cF r hS he (mC h_);replace hy:=hy.cF r hS he (mC h_);replace hca:=hca.cF r (cB w) he (mC h_);replace hbb:=hbb.cF r (cB w) he (mC h_);replace hr:=hr.cF r (cB w) he (mC h_);have hp2:=hn.c9 (S:=fun _=>False) r.cD (mN h_);obtain⟨s10_0,s10_1,s10_2,s10_3,rfl⟩:=hp2.shape;refine cE hw (fun _ w' v w2=>dC w2 (Nf w' w2) v (R2-B*((n:Nat):Int))) (fun O w' r=>CX (Rel.old r (cB w)) ((hr.rel r (cB w)).l (k:=1000002) (by omega)) ((hp2.rel r (cB w)).l (k:=1000002) (by omega)) (by omega) (by omega)) ?_;rintro O wa11 v11 wb11 iv11 r he hw h_ hn;replace hx:=hx.cF r hS he (mC h_);replace hy:=hy.cF r hS he (mC h_);replace hca:=hca.cF r (cB w) he (mC h_);replace hbb:=hbb.cF r (cB w) he (mC h_);have hr3:=hn.c9 (S:=fun _=>False) r.cD (mN h_);obtain⟨s11_0,s11_1,s11_2,s11_3,rfl⟩:=hr3.shape;generalize hR3:R2-B*((n:Nat):Int)=R3 at*
  refine .inl ?_;refine⟨by rw[aL,aU],fun u hu=>by obtain⟨_,_,rfl⟩:=aT.1 hu;rfl,rfl,by omega,by unfold maxLen;omega,(i:Int)-1,wo,?_⟩;intro ρ3 w3 r3;have hv2:dJ (ca.drop i)=B*dJ (((n:Nat):Int)::Q)+R3:=by
   rw[DU hd1,dJ];exact G2 hv (by rw[<-hR3,<-hR2];omega)
  exact⟨(i,((n:Nat):Int)::Q,R3,(s11_0,s11_1,s11_2,s11_3),w3,_),⟨by dsimp only;omega,by dsimp only;rw[List.length_cons];omega,fun c hc=>by
    rcases List.mem_cons.1 hc with rfl|hc
    ·omega
    ·exact hd c hc,hv2,by dsimp only;omega,by dsimp only;omega,hw.tr r3.cM,hx.rel r3 hS,hy.rel r3 hS,hca.rel r3 (cB w),hbb.rel r3 (cB w),hr3.rel r3 (cB w)⟩,
   Sub.gn [(6,8)] r3 (hE:=⟨rfl,rfl,rfl,rfl,rfl,rfl,rfl,by dsimp only;rw[show (((n:Nat):Int)::Q).length=1+Q.length by rw[List.length_cons,Nat.add_comm]];rfl,rfl,rfl,trivial⟩),by dsimp only;omega⟩
 obtain rfl:j=0:=by have:¬(j:Int)-1≥0:=aH hib;omega
 rw[List.drop_zero,bca.1]at hv;rw[<-hB]at hv hR1;have key:=Hb hy0 hv hR0 hR1;rw[hB]at key hv hR1;have lq:ln (dJ Q).natAbs<=k+1:=by
  have h1:=Mk hd;have h2:1*dJ Q<=B*dJ Q:=Int.mul_le_mul_of_nonneg_right (by omega) h1;exact a9 (eu (b:=x.natAbs) (by omega)) (by omega)
 have lR:ln R.natAbs<=l:=a9 (eu (by omega)) lB;have sx:=fX x;have sy:=fX y;have sr:=fX R;refine cC (cE hw (fun _ w' v w2=>dC w2 (Nf w' w2) v (dJ Q)) (fun O w' r=>mI r rfl rfl (by omega) (fun c hc=>by have:=hd c hc;omega) rfl) ?_);rintro O wa5 v5 wb5 iv5 r he hw h_ hn;replace hx:=hx.cF r hS he (mC h_);replace hy:=hy.cF r hS he (mC h_);replace hbb:=hbb.cF r (cB w) he (mC h_);replace hr:=hr.cF r (cB w) he (mC h_);have hq:=hn.c9 (S:=fun _=>False) r.cD (mN h_);obtain⟨s5_0,s5_1,s5_2,s5_3,rfl⟩:=hq.shape;refine cC (cE hw (fun _ w' v w2=>v= .int .i64 x.sign) (fun O w' r=>gB (Rel.old r hS) (hx.rel r hS).r) ?_);rintro O wa6 v6 wb6 iv6 r he hw h_ rfl;replace hx:=hx.cF r hS he (mC h_);replace hy:=hy.cF r hS he (mC h_);replace hbb:=hbb.cF r (cB w) he (mC h_);replace hr:=hr.cF r (cB w) he (mC h_);replace hq:=hq.cF r (cB w) he (mC h_);refine dI.mk (fun hxs=>?_) (fun hxs=>?_)
 ·have hxs:=aI hxs;refine cC (cE hw (fun _ w' v w2=>v= .int .i64 R.sign) (fun O w' r=>gB (Rel.old r (cB w)) (hr.rel r (cB w)).r) ?_);rintro O wa7 v7 wb7 iv7 r he hw h_ rfl;replace hx:=hx.cF r hS he (mC h_);replace hy:=hy.cF r hS he (mC h_);replace hbb:=hbb.cF r (cB w) he (mC h_);replace hr:=hr.cF r (cB w) he (mC h_);replace hq:=hq.cF r (cB w) he (mC h_);refine dI.mk (fun hrs=>?_) (fun hrs=>?_)
  ·have hrs:=aI hrs;rw[if_pos (show x<0∧0<R by omega),if_pos (show x<0∧0<R by omega)]at key;have m7:=iE (dJ Q) 1;have m8:ln (1:Int).natAbs<=1:=by decide
   have m9:ln (B-R).natAbs<=l:=a9 (eu (by omega)) lB;refine cJ hτ db [.x 0,.x 3,.x 4,.x 1,.x 2,.x 5,.x 6,.x 7] (by kernel_rfl) (by kernel_rfl) ?_;refine cE hw (fun _ w' v w2=>dC w2 (Nf w' w2) v (1)) (fun O w' r=>kB _ w' (by omega) (by omega)) ?_;rintro O wa8 v8 wb8 iv8 r he hw h_ hn;replace hx:=hx.cF r hS he (mC h_);replace hy:=hy.cF r hS he (mC h_);replace hbb:=hbb.cF r (cB w) he (mC h_);replace hr:=hr.cF r (cB w) he (mC h_);replace hq:=hq.cF r (cB w) he (mC h_);have hu:=hn.c9 (S:=fun _=>False) r.cD (mN h_);obtain⟨s8_0,s8_1,s8_2,s8_3,rfl⟩:=hu.shape;refine cE hw (fun _ w' v w2=>dC w2 (Nf w' w2) v (dJ Q+1)) (fun O w' r=>zW (Rel.old r (cB w)) ((hq.rel r (cB w)).l (k:=1000003) (by omega)) ((hu.rel r (cB w)).l (k:=1000003) (by omega)) (by omega) (by omega)) ?_;rintro O wa9 v9 wb9 iv9 r he hw h_ hn;replace hx:=hx.cF r hS he (mC h_);replace hy:=hy.cF r hS he (mC h_);replace hbb:=hbb.cF r (cB w) he (mC h_);replace hr:=hr.cF r (cB w) he (mC h_);have hq2:=hn.c9 (S:=fun _=>False) r.cD (mN h_);obtain⟨s9_0,s9_1,s9_2,s9_3,rfl⟩:=hq2.shape;refine cE hw (fun _ w' v w2=>dC w2 (Nf w' w2) v (B-R)) (fun O w' r=>CX (Rel.old r (cB w)) ((hbb.rel r (cB w)).l (k:=1000003) (by omega)) ((hr.rel r (cB w)).l (k:=1000003) (by omega)) (by omega) (by omega)) ?_;rintro O wa10 v10 wb10 iv10 r he hw h_ hn;replace hx:=hx.cF r hS he (mC h_);replace hy:=hy.cF r hS he (mC h_);replace hq2:=hq2.cF r (cB w) he (mC h_);have hr2:=hn.c9 (S:=fun _=>False) r.cD (mN h_);obtain⟨s10_0,s10_1,s10_2,s10_3,rfl⟩:=hr2.shape;refine cJ hτ db [.x 0,.x 3,.x 1,.x 2,.x 4,.x 5,.x 6] (by kernel_rfl) (by kernel_rfl) ?_;refine cE hw (fun _ w' v w2=>v= .int .i64 x.sign) (fun O w' r=>gB (Rel.old r hS) (hx.rel r hS).r) ?_;rintro O wa11 v11 wb11 iv11 r he hw h_ rfl;replace hy:=hy.cF r hS he (mC h_);replace hq2:=hq2.cF r (cB w) he (mC h_);replace hr2:=hr2.cF r (cB w) he (mC h_);refine cE hw (fun _ w' v w2=>v= .int .i64 y.sign) (fun O w' r=>gB (Rel.old r hS) (hy.rel r hS).r) ?_;rintro O wa12 v12 wb12 iv12 r he hw h_ rfl;replace hq2:=hq2.cF r (cB w) he (mC h_);replace hr2:=hr2.cF r (cB w) he (mC h_);refine dI.mk (fun hne=>?_) (fun hne=>?_)
   ·have hn:¬((x<0)↔(y<0)):=fun e=>by
     have e2:decide (x.sign<0)=decide (y.sign<0):=decide_eq_decide.2 (by omega);rw[e2]at hne;simp at hne
    rw[aK hn]at key;refine cC (cE hw (fun _ w' v w2=>dC w2 (Nf w' w2) v (-(dJ Q+1))) (fun O w' r=>lC (Rel.old r (cB w)) ((hq2.rel r (cB w)).l (k:=1000003) (by omega)) (by omega)) ?_);rintro O wa13 v13 wb13 iv13 r he hw h_ hn;replace hr2:=hr2.cF r (cB w) he (mC h_);have hq3:=hn.c9 (S:=fun _=>False) r.cD (mN h_);obtain⟨s13_0,s13_1,s13_2,s13_3,rfl⟩:=hq3.shape;refine iA hτ db (.two 0 (.two 1 (.one 2 (.one 3 (.one 4 .nil))) 2 (.one 1 (.one 3 (.one 4 .nil)))) 1 (.one 0 (.one 2 (.one 3 (.one 4 .nil))))) (by kernel_rfl) ?_;refine⟨?_,?_⟩
    ·refine⟨?_,?_⟩
     ·intro ρe we re;exact⟨_,rfl,hw.tr re.cM,.inr ⟨hy0,_,_,rfl,key.1▸hq3.out re (cB w),key.2▸hr2.out re (cB w)⟩⟩
     ·intro ρe we re;exact⟨_,rfl,hw.tr re.cM,.inr ⟨hy0,_,_,rfl,key.1▸hq3.out re (cB w),key.2▸hr2.out re (cB w)⟩⟩
    ·intro ρe we re;exact⟨_,rfl,hw.tr re.cM,.inr ⟨hy0,_,_,rfl,key.1▸hq3.out re (cB w),key.2▸hr2.out re (cB w)⟩⟩
   have hn:(x<0)↔(y<0):=by
    have e2:decide (x.sign<0)=decide (y.sign<0):=by simpa using hne
    have:=decide_eq_decide.1 e2;omega
   rw[if_pos hn]at key;refine iA hτ db (.two 0 (.two 1 (.one 2 (.one 3 (.one 4 .nil))) 2 (.one 1 (.one 3 (.one 4 .nil)))) 1 (.one 0 (.one 2 (.one 3 (.one 4 .nil))))) (by kernel_rfl) ?_;refine⟨?_,?_⟩
   ·refine⟨?_,?_⟩
    ·intro ρe we re;exact⟨_,rfl,hw.tr re.cM,.inr ⟨hy0,_,_,rfl,key.1▸hq2.out re (cB w),key.2▸hr2.out re (cB w)⟩⟩
    ·intro ρe we re;exact⟨_,rfl,hw.tr re.cM,.inr ⟨hy0,_,_,rfl,key.1▸hq2.out re (cB w),key.2▸hr2.out re (cB w)⟩⟩
   ·intro ρe we re;exact⟨_,rfl,hw.tr re.cM,.inr ⟨hy0,_,_,rfl,key.1▸hq2.out re (cB w),key.2▸hr2.out re (cB w)⟩⟩
  have hrs:=aH hrs;rw[aK (show ¬(x<0∧0<R) by omega),aK (show ¬(x<0∧0<R) by omega)]at key;refine cJ hτ db [.x 0,.x 3,.x 1,.x 2,.x 4,.x 5,.x 6] (by kernel_rfl) (by kernel_rfl) ?_;refine cE hw (fun _ w' v w2=>v= .int .i64 x.sign) (fun O w' r=>gB (Rel.old r hS) (hx.rel r hS).r) ?_;rintro O wa8 v8 wb8 iv8 r he hw h_ rfl;replace hy:=hy.cF r hS he (mC h_);replace hbb:=hbb.cF r (cB w) he (mC h_);replace hr:=hr.cF r (cB w) he (mC h_);replace hq:=hq.cF r (cB w) he (mC h_);refine cE hw (fun _ w' v w2=>v= .int .i64 y.sign) (fun O w' r=>gB (Rel.old r hS) (hy.rel r hS).r) ?_;rintro O wa9 v9 wb9 iv9 r he hw h_ rfl;replace hbb:=hbb.cF r (cB w) he (mC h_);replace hr:=hr.cF r (cB w) he (mC h_);replace hq:=hq.cF r (cB w) he (mC h_);refine dI.mk (fun hne=>?_) (fun hne=>?_)
  ·have hn:¬((x<0)↔(y<0)):=fun e=>by
    have e2:decide (x.sign<0)=decide (y.sign<0):=decide_eq_decide.2 (by omega);rw[e2]at hne;simp at hne
   rw[aK hn]at key;refine cC (cE hw (fun _ w' v w2=>dC w2 (Nf w' w2) v (-(dJ Q))) (fun O w' r=>lC (Rel.old r (cB w)) ((hq.rel r (cB w)).l (k:=1000003) (by omega)) (by omega)) ?_);rintro O wa10 v10 wb10 iv10 r he hw h_ hn;replace hbb:=hbb.cF r (cB w) he (mC h_);replace hr:=hr.cF r (cB w) he (mC h_);have hq3:=hn.c9 (S:=fun _=>False) r.cD (mN h_);obtain⟨s10_0,s10_1,s10_2,s10_3,rfl⟩:=hq3.shape;refine iA hτ db (.two 0 (.two 1 (.one 2 (.one 3 (.one 4 .nil))) 2 (.one 1 (.one 3 (.one 4 .nil)))) 1 (.one 0 (.one 2 (.one 3 (.one 4 .nil))))) (by kernel_rfl) ?_;refine⟨?_,?_⟩
   ·refine⟨?_,?_⟩
    ·intro ρe we re;exact⟨_,rfl,hw.tr re.cM,.inr ⟨hy0,_,_,rfl,key.1▸hq3.out re (cB w),key.2▸hr.out re (cB w)⟩⟩
    ·intro ρe we re;exact⟨_,rfl,hw.tr re.cM,.inr ⟨hy0,_,_,rfl,key.1▸hq3.out re (cB w),key.2▸hr.out re (cB w)⟩⟩
   ·intro ρe we re;exact⟨_,rfl,hw.tr re.cM,.inr ⟨hy0,_,_,rfl,key.1▸hq3.out re (cB w),key.2▸hr.out re (cB w)⟩⟩
  have hn:(x<0)↔(y<0):=by
   have e2:decide (x.sign<0)=decide (y.sign<0):=by simpa using hne
   have:=decide_eq_decide.1 e2;omega
  rw[if_pos hn]at key;refine iA hτ db (.two 0 (.two 1 (.one 2 (.one 3 (.one 4 .nil))) 2 (.one 1 (.one 3 (.one 4 .nil)))) 1 (.one 0 (.one 2 (.one 3 (.one 4 .nil))))) (by kernel_rfl) ?_;refine⟨?_,?_⟩
  ·refine⟨?_,?_⟩
   ·intro ρe we re;exact⟨_,rfl,hw.tr re.cM,.inr ⟨hy0,_,_,rfl,key.1▸hq.out re (cB w),key.2▸hr.out re (cB w)⟩⟩
   ·intro ρe we re;exact⟨_,rfl,hw.tr re.cM,.inr ⟨hy0,_,_,rfl,key.1▸hq.out re (cB w),key.2▸hr.out re (cB w)⟩⟩
  ·intro ρe we re;exact⟨_,rfl,hw.tr re.cM,.inr ⟨hy0,_,_,rfl,key.1▸hq.out re (cB w),key.2▸hr.out re (cB w)⟩⟩
 have hxs:=aH hxs;rw[aK (show ¬(x<0∧0<R) by omega),aK (show ¬(x<0∧0<R) by omega)]at key;refine cJ hτ db [.x 0,.x 3,.x 1,.x 2,.x 4,.x 5,.x 6] (by kernel_rfl) (by kernel_rfl) ?_;refine cE hw (fun _ w' v w2=>v= .int .i64 x.sign) (fun O w' r=>gB (Rel.old r hS) (hx.rel r hS).r) ?_;rintro O wa7 v7 wb7 iv7 r he hw h_ rfl;replace hy:=hy.cF r hS he (mC h_);replace hbb:=hbb.cF r (cB w) he (mC h_);replace hr:=hr.cF r (cB w) he (mC h_);replace hq:=hq.cF r (cB w) he (mC h_);refine cE hw (fun _ w' v w2=>v= .int .i64 y.sign) (fun O w' r=>gB (Rel.old r hS) (hy.rel r hS).r) ?_;rintro O wa8 v8 wb8 iv8 r he hw h_ rfl;replace hbb:=hbb.cF r (cB w) he (mC h_);replace hr:=hr.cF r (cB w) he (mC h_);replace hq:=hq.cF r (cB w) he (mC h_);refine dI.mk (fun hne=>?_) (fun hne=>?_)
 ·have hn:¬((x<0)↔(y<0)):=fun e=>by
   have e2:decide (x.sign<0)=decide (y.sign<0):=decide_eq_decide.2 (by omega);rw[e2]at hne;simp at hne
  rw[aK hn]at key;refine cC (cE hw (fun _ w' v w2=>dC w2 (Nf w' w2) v (-(dJ Q))) (fun O w' r=>lC (Rel.old r (cB w)) ((hq.rel r (cB w)).l (k:=1000003) (by omega)) (by omega)) ?_);rintro O wa9 v9 wb9 iv9 r he hw h_ hn;replace hbb:=hbb.cF r (cB w) he (mC h_);replace hr:=hr.cF r (cB w) he (mC h_);have hq3:=hn.c9 (S:=fun _=>False) r.cD (mN h_);obtain⟨s9_0,s9_1,s9_2,s9_3,rfl⟩:=hq3.shape;refine iA hτ db (.two 0 (.two 1 (.one 2 (.one 3 (.one 4 .nil))) 2 (.one 1 (.one 3 (.one 4 .nil)))) 1 (.one 0 (.one 2 (.one 3 (.one 4 .nil))))) (by kernel_rfl) ?_;refine⟨?_,?_⟩
  ·refine⟨?_,?_⟩
   ·intro ρe we re;exact⟨_,rfl,hw.tr re.cM,.inr ⟨hy0,_,_,rfl,key.1▸hq3.out re (cB w),key.2▸hr.out re (cB w)⟩⟩
   ·intro ρe we re;exact⟨_,rfl,hw.tr re.cM,.inr ⟨hy0,_,_,rfl,key.1▸hq3.out re (cB w),key.2▸hr.out re (cB w)⟩⟩
  ·intro ρe we re;exact⟨_,rfl,hw.tr re.cM,.inr ⟨hy0,_,_,rfl,key.1▸hq3.out re (cB w),key.2▸hr.out re (cB w)⟩⟩
 have hn:(x<0)↔(y<0):=by
  have e2:decide (x.sign<0)=decide (y.sign<0):=by simpa using hne
  have:=decide_eq_decide.1 e2;omega
 rw[if_pos hn]at key;refine iA hτ db (.two 0 (.two 1 (.one 2 (.one 3 (.one 4 .nil))) 2 (.one 1 (.one 3 (.one 4 .nil)))) 1 (.one 0 (.one 2 (.one 3 (.one 4 .nil))))) (by kernel_rfl) ?_;refine⟨?_,?_⟩
 ·refine⟨?_,?_⟩
  ·intro ρe we re;exact⟨_,rfl,hw.tr re.cM,.inr ⟨hy0,_,_,rfl,key.1▸hq.out re (cB w),key.2▸hr.out re (cB w)⟩⟩
  ·intro ρe we re;exact⟨_,rfl,hw.tr re.cM,.inr ⟨hy0,_,_,rfl,key.1▸hq.out re (cB w),key.2▸hr.out re (cB w)⟩⟩
 ·intro ρe we re;exact⟨_,rfl,hw.tr re.cM,.inr ⟨hy0,_,_,rfl,key.1▸hq.out re (cB w),key.2▸hr.out re (cB w)⟩⟩
end Go.Ex
