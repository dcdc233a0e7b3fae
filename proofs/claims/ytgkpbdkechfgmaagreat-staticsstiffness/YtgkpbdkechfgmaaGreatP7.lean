/- Texts X55 to X62: lemmas, each with its conditions. -/
import Derived.Test.YtgkpbdkechfgmaaGreatP6
namespace Go.Ex
open Go Go.Sx Go.Proofs
variable{b:Bool}{x z:Int}{cs:List Int}{ls:List Nat}{k n:Nat}{S:Nat->Prop}{lv v:Value}{w:World}
def gB(w:World)(S:Nat->Prop)(v:Value)(k:Nat)(z:Int):Prop:=∃neg ls,xe w S v neg ls∧sg neg (val ls)=z∧ls.length<=k
theorem gB.cJ{w2:World}(h:gB w S v k z)(hk:∀g,S g->w2.heap[g]? =w.heap[g]?):gB w2 S v k z:=by
 obtain⟨n,l,h1,h2⟩:=h;exact⟨n,l,h1.cJ hk,h2⟩
theorem gB.cL{S':Nat->Prop}(h:gB w S v k z)(hk:∀g,S g->S' g):gB w S' v k z:=by
 obtain⟨n,l,h1,h2⟩:=h;exact⟨n,l,h1.cL hk,h2⟩
theorem gB.r(h:gB w S v k z):kQ w S v z:=by
 obtain⟨n,l,h1,h2,_⟩:=h;exact⟨n,l,h1,h2⟩
theorem gB.shape(h:gB w S v k z):∃b a n c,v= .agg #[.bool b,.slice a n c]:=h.r.shape
theorem dU.l(h:dU w S v z)(hk:ln z.natAbs<=k):gB w S v k z:=by
 obtain⟨l,h1,h2,h3⟩:=h;obtain⟨_,_,hl⟩:=h1;have:=ec hl.lm h2;rw[h3]at this;exact⟨_,l,⟨_,‹_›,hl⟩,by rw[h3,FH],by omega⟩
section
variable{S S':Nat->Prop}{H:Hp}{nx:Nat}{iv iv':Iv}{B:Nat}{w w' w2:World}{O:Nat->Sx.eE}{v:Value}{k:Nat}{z:Int}
theorem gB.rel(h:gB w (Cv S B iv) v k z)(r:Rel H nx iv B w O w')(hS:∀g,S g->g<B):gB w' (Cv S B iv) v k z:=h.cJ fun _ hg=>Rel.same r hS hg
theorem gB.cK(h:gB w (Cv S B iv) v k z)(r:Rel H nx iv B w O w')(hS:∀g,S g->g<B)(he:Ext w' w2)(hm:∀p,p∈iv->p∈iv'):gB w2 (Cv S B iv') v k z:=
 ((h.rel r hS).cJ fun g hg=>he.block g (Rel.old r hS g hg)).cL fun _ hg=>hg.mono hm
end
section
variable{S S':Nat->Prop}{H:Hp}{nx:Nat}{iv iv':Iv}{B:Nat}{w w' w2:World}{O:Nat->Sx.eE}{v:Value}{cs:List Int}
theorem eM.rel(h:eM w (Cv S B iv) v cs)(r:Rel H nx iv B w O w')(hS:∀g,S g->g<B):eM w' (Cv S B iv) v cs:=eM.cJ h fun _ hg=>Rel.same r hS hg
theorem eM.cK(h:eM w (Cv S B iv) v cs)(r:Rel H nx iv B w O w')(hS:∀g,S g->g<B)(he:Ext w' w2)(hm:∀p,p∈iv->p∈iv'):eM w2 (Cv S B iv') v cs:=
 (eM.cJ (h.rel r hS) fun g hg=>he.block g (Rel.old r hS g hg)).cL fun _ hg=>hg.mono hm
theorem eM.dK(h:eM w2 (Nf w' w2) v cs)(hB:B<=w'.heap.size)(hm:(w'.heap.size,w2.heap.size)∈iv):eM w2 (Cv S B iv) v cs:=eM.cL h fun _ hg=>hg.dK hB hm
end
def sgn(b:Bool):Int:=if b then -1 else 1
theorem aDP(b:Bool):sgn b=1∨sgn b= -1:=by cases b<;>simp[sgn]
theorem aCR(b:Bool)(n:Nat):sgn b*(n:Int)=sg b n:=by cases b<;>simp[sgn,sg]
theorem Kf{neg:Bool}(hS:Old S w)(h:xe w S v neg ls)(hl:ls.length<=40000000):
  eA PG N.oV #[v] w (eL w fun v' w2=>eM w2 (Nf w w2) v' (eQ (sgn neg) ls)):=by
 obtain⟨lv,rfl,hL⟩:=h;have Ps:=hL.lm;obtain⟨a,c,rfl,hc,PV⟩:=hL.sl;refine yl (by simp) ?_
 cases neg with
 |true=>
  refine⟨Nat×World,fun z=>⟨[(1,pP 0 0),(3,.o (.v (.int .i64 (-1)))),(4,.o (.w 1 (2*z.1))),(5,iZ z.1)],[(1,.vec T.int 1 ((eQ (-1) (ls.take z.1)).map (Value.int .i64))),(0,.box T.Int [.v (.bool true),.v (.slice a ls.length c)])],2,[],z.2⟩,fun z=>ls.length-z.1,
   fun z=>dg w.heap.size w z.2∧z.1<=ls.length,?_,?_⟩
  ·intro O w' r
   exact⟨(0,w'),⟨r.cS,by simp⟩,Sub.nil 4 T.int 1 rfl (by simp[jw,SV.sc,At.sc,fQ]) r fun ρ1 r1=>
    Sub.gn [] r1⟩
  rintro⟨i,w1⟩ ⟨hw,hi⟩;dsimp only at hw hi ⊢;have St:((eQ (-1) (ls.take i)).map (Value.int .i64)).length=2*i:=by rw[aL,jK,aZ];omega
  refine dG.mk ?_ ?_<;>intro h
  ·have h:i<ls.length:=by simpa using h
   obtain⟨x,hx⟩:∃x,ls[i]? =some x:=⟨_,aB h⟩
   have Ql:=Ps x (aD hx);obtain⟨ad,rfl,q1,q2⟩:=PV i x hx;have Vl:eQ (-1) (ls.take (i+1))=eQ (-1) (ls.take i)++[(-1)*((x % 65536:Nat):Int),(-1)*((x / 65536:Nat):Int)]:=by rw[List.take_add_one,hx,Option.toList_some,qg];rfl
   refine⟨ad,rfl,by omega,.int .u32 x,fun O w' r=>?_,?_⟩
   ·rw[aF,aY];exact k7 hS hw r q1 q2
   refine⟨(x:Int),wo,by decide,((x % 65536:Nat):Int),rfl,(-1)*((x % 65536:Nat):Int),wo,by decide,((x / 65536:Nat):Int),by rw[show (x:Int).tdiv 65536=((x / 65536:Nat):Int)from rfl,wrap64]<;>omega,(-1)*((x / 65536:Nat):Int),wo,?_⟩;refine .inl ?_;refine⟨by rw[St,aY],by omega,by unfold maxLen;omega,((i+1:Nat):Int),wo,?_⟩;intro ρ3 w3 r3;have Um:(eQ (-1) (ls.take (i+1))).map (Value.int .i64)=(eQ (-1) (ls.take i)).map (Value.int .i64)++[.int .i64 ((-1)*((x % 65536:Nat):Int)),.int .i64 ((-1)*((x / 65536:Nat):Int))]:=by
    rw[Vl];simp
   exact⟨(i+1,w3),⟨hw.tr r3.cS,by dsimp only;omega⟩,Sub.gn [(1,3)] r3 ⟨by dsimp only;rw[Um];rfl,rfl,trivial⟩,by dsimp only;omega⟩
  have h:i=ls.length:=by
   have:¬i<ls.length:=by simpa using h
   omega
  subst h;rw[bH]at St ⊢;intro ρe we re;have OX:=re.Gw (id:=1) (m:=2*ls.length) rfl (by rw[St,aY]) (by decide);have Pt:=tR OX (by rw[jK]) (by unfold maxLen;omega);refine⟨_,rfl,hw.tr re.cS,eM.cL Pt fun g hg=>.inr ?_⟩;have:=ownsRow.low OX g hg;exact this
 |false=>
  refine⟨Nat×World,fun z=>⟨[(1,pP 0 0),(3,.o (.v (.int .i64 (1)))),(4,.o (.w 1 (2*z.1))),(5,iZ z.1)],[(1,.vec T.int 1 ((eQ (1) (ls.take z.1)).map (Value.int .i64))),(0,.box T.Int [.v (.bool false),.v (.slice a ls.length c)])],2,[],z.2⟩,fun z=>ls.length-z.1,
   fun z=>dg w.heap.size w z.2∧z.1<=ls.length,?_,?_⟩
  ·intro O w' r
   exact⟨(0,w'),⟨r.cS,by simp⟩,Sub.nil 4 T.int 1 rfl (by simp[jw,SV.sc,At.sc,fQ]) r fun ρ1 r1=>
    Sub.gn [] r1⟩
  rintro⟨i,w1⟩ ⟨hw,hi⟩;dsimp only at hw hi ⊢;have St:((eQ (1) (ls.take i)).map (Value.int .i64)).length=2*i:=by rw[aL,jK,aZ];omega
  refine dG.mk ?_ ?_<;>intro h
  ·have h:i<ls.length:=by simpa using h
   obtain⟨x,hx⟩:∃x,ls[i]? =some x:=⟨_,aB h⟩
   have Ql:=Ps x (aD hx);obtain⟨ad,rfl,q1,q2⟩:=PV i x hx;have Vl:eQ (1) (ls.take (i+1))=eQ (1) (ls.take i)++[(1)*((x % 65536:Nat):Int),(1)*((x / 65536:Nat):Int)]:=by rw[List.take_add_one,hx,Option.toList_some,qg];rfl
   refine⟨ad,rfl,by omega,.int .u32 x,fun O w' r=>?_,?_⟩
   ·rw[aF,aY];exact k7 hS hw r q1 q2
   refine⟨(x:Int),wo,by decide,((x % 65536:Nat):Int),rfl,(1)*((x % 65536:Nat):Int),wo,by decide,((x / 65536:Nat):Int),by rw[show (x:Int).tdiv 65536=((x / 65536:Nat):Int)from rfl,wrap64]<;>omega,(1)*((x / 65536:Nat):Int),wo,?_⟩;refine .inl ?_;refine⟨by rw[St,aY],by omega,by unfold maxLen;omega,((i+1:Nat):Int),wo,?_⟩;intro ρ3 w3 r3;have Um:(eQ (1) (ls.take (i+1))).map (Value.int .i64)=(eQ (1) (ls.take i)).map (Value.int .i64)++[.int .i64 ((1)*((x % 65536:Nat):Int)),.int .i64 ((1)*((x / 65536:Nat):Int))]:=by
    rw[Vl];simp
   exact⟨(i+1,w3),⟨hw.tr r3.cS,by dsimp only;omega⟩,Sub.gn [(1,3)] r3 ⟨by dsimp only;rw[Um];rfl,rfl,trivial⟩,by dsimp only;omega⟩
  have h:i=ls.length:=by
   have:¬i<ls.length:=by simpa using h
   omega
  subst h;rw[bH]at St ⊢;intro ρe we re;have OX:=re.Gw (id:=1) (m:=2*ls.length) rfl (by rw[St,aY]) (by decide);have Pt:=tR OX (by rw[jK]) (by unfold maxLen;omega);refine⟨_,rfl,hw.tr re.cS,eM.cL Pt fun g hg=>.inr ?_⟩;have:=ownsRow.low OX g hg;exact this
def EB(cs:List Int)(n:Nat)(z:Int):Prop:=dY cs=z∧cs.length<=n∧(∀c∈cs,-65535<=c∧c<=65535)∧(0<=z->∀c∈cs,0<=c)
theorem EC(s:Int)(h:val ls=0):∀c∈eQ s ls,c=0:=fun c hc=>by
 induction ls with
 |nil=>cases hc
 |cons l r ih=>
  have h:l+4294967296*val r=0:=h;have h1:l=0:=by omega
  have h2:val r=0:=by omega
  subst h1;rw[eQ]at hc;rcases List.mem_cons.1 hc with rfl|hc
  ·simp
  rcases List.mem_cons.1 hc with rfl|hc
  ·simp
  ·exact ih h2 hc
theorem gB.Iw(h:gB w S v k z):∃b a ls c,v= .agg #[.bool b,.slice a ls.length c]∧dV w S (.slice a ls.length c) ls∧sg b (val ls)=z∧ls.length<=k:=by
 obtain⟨b,ls,⟨lv,rfl,hl⟩,hz,hk⟩:=h;obtain⟨a,c,rfl,_⟩:=hl.sl;exact⟨b,a,ls,c,rfl,hl,hz,hk⟩
theorem gB.ln(h:gB w S v k z):ln z.natAbs<=k:=by
 obtain⟨b,a,ls,c,_,hl,hz,hk⟩:=h.Iw;rw[<-hz,vN];exact aBR hl.lm hk
theorem gB.neg(h:gB w S (.agg #[.bool b,lv]) k z):gB w S (.agg #[.bool (!b),lv]) k (-z):=by
 obtain⟨b,ls,⟨lv,e,hl⟩,hz,hk⟩:=h;simp only[Value.agg.injEq,Array.mk.injEq,List.cons.injEq,Value.bool.injEq,and_true]at e;obtain⟨rfl,rfl⟩:=e;refine⟨_,ls,⟨_,rfl,hl⟩,?_,hk⟩;rw[<-hz]
 cases b<;>simp[sg]
theorem gB.abs(h:gB w S (.agg #[.bool b,lv]) k z):gB w S (.agg #[.bool false,lv]) k (z.natAbs:Int):=by
 obtain⟨b,ls,⟨lv,e,hl⟩,hz,hk⟩:=h;simp only[Value.agg.injEq,Array.mk.injEq,List.cons.injEq,Value.bool.injEq,and_true]at e;obtain⟨rfl,rfl⟩:=e;exact⟨_,ls,⟨_,rfl,hl⟩,by rw[<-hz,vN];rfl,hk⟩
theorem tT(hS:Old S w)(h:gB w S v k z)(hk:k<=40000000):
  eA PG N.oV #[v] w (eL w fun v' w2=>∃cs,eM w2 (Nf w w2) v' cs∧EB cs (2*k) z):=by
 obtain⟨b,ls,hi,hz,hl⟩:=h;have Ps:Lm ls:=by obtain⟨_,_,h⟩:=hi;exact h.lm
 refine(Kf hS hi (by omega)).mono fun _ w2 ⟨v2,e1,e2,e3⟩=>⟨v2,e1,e2,_,e3,by rw[GI,aCR,hz],by rw[jK];omega,CN (aDP b) Ps,fun h0=>?_⟩
 cases b with
 |false=>exact fun c hc=>(AE Ps c hc).1
 |true=>
  rw[aAk]at hz;exact fun c hc=>by rw[EC _ (show val ls=0 by omega) c hc];decide
theorem Kg(hS:Old S w)(h:eM w S v cs)(hb:EB cs n z)(hn:n<=100000000):
  eA PG N.lO #[v] w (eL w fun v' w2=>dU w2 (Nf w w2) v' z):=by
 have:=zC hS h (fun c hc=>by have:=hb.2.2.1 c hc;omega) (by have:=hb.2.1;omega);rw[hb.1]at this;exact this
theorem aBY(hS:Old S w)(hx:gB w S v k x)(hk:k<=40000000):
  eA PG N.Ep #[v] w (eL w fun v' w2=>dU w2 (Nf w w2) v' x):=by
 have hw:=bR w;replace hx:=hx.cL (S':=Cv S w.heap.size []) fun _ h=>.inl h;obtain⟨b1,a1,n1,c1,rfl⟩:=hx.shape;refine GY (by simp) ?_;refine cH (cE hw (fun _ w' v w2=>∃cs,eM w2 (Nf w' w2) v cs∧EB cs (2*k) (x)) (fun O w' r=>tT (Rel.old r hS) (hx.rel r hS) (by omega)) ?_);rintro O _ _ _ Od r he hw h_ ⟨cs,k1,bcs⟩;have hc:=k1.dK (S:=FF) r.cI (mN h_);obtain⟨acs,ccs,rfl,lcs⟩:=hc.shape;refine cH (cE hw (fun _ w' v w2=>dU w2 (Nf w' w2) v (x)) (fun O w' r=>Kg (Rel.old r (cG w)) (hc.rel r (cG w)) bcs (by omega)) ?_);rintro O _ _ _ Oa r he hw h_ hn;have hC:=hn.dK (S:=FF) r.cI (mN h_);obtain⟨A0,A1,A2,A3,rfl⟩:=hC.shape;exact rtn hw fun ρe we re=>hC.out re (cG w)
theorem nM(hS:Old S w)(hx:gB w S v k x)(hk:k<=40000000):
  eA PG N.zg #[v] w (eL w fun v' w2=>dU w2 (Nf w w2) v' (-x)):=by
 have hw:=bR w;replace hx:=hx.cL (S':=Cv S w.heap.size []) fun _ h=>.inl h;obtain⟨b1,a1,n1,c1,rfl⟩:=hx.shape;replace hx:=hx.neg;refine Ct (by simp) ?_;refine cH (cE hw (fun _ w' v w2=>dU w2 (Nf w' w2) v (-x)) (fun O w' r=>aBY (Rel.old r hS) (hx.rel r hS) hk) ?_);rintro O _ _ _ Od r he hw h_ hn;have hC:=hn.dK (S:=FF) r.cI (mN h_);obtain⟨A0,A1,A2,A3,rfl⟩:=hC.shape;exact rtn hw fun ρe we re=>hC.out re (cG w)
theorem BE(hS:Old S w)(hx:gB w S v k x)(hk:k<=40000000):
  eA PG N.CW #[v] w (eL w fun v' w2=>dU w2 (Nf w w2) v' ((x.natAbs:Int))):=by
 have hw:=bR w;replace hx:=hx.cL (S':=Cv S w.heap.size []) fun _ h=>.inl h;obtain⟨b1,a1,n1,c1,rfl⟩:=hx.shape;replace hx:=hx.abs;refine Dk (by simp) ?_;refine cH (cE hw (fun _ w' v w2=>dU w2 (Nf w' w2) v ((x.natAbs:Int))) (fun O w' r=>aBY (Rel.old r hS) (hx.rel r hS) hk) ?_);rintro O _ _ _ Od r he hw h_ hn;have hC:=hn.dK (S:=FF) r.cI (mN h_);obtain⟨A0,A1,A2,A3,rfl⟩:=hC.shape;exact rtn hw fun ρe we re=>hC.out re (cG w)
theorem aCd{i:Nat}(hS:Old S w)(h:eM w S v cs):
  eA PG N.IL #[v,.int .i64 i] w (eL w fun v' _=>v'= .int .i64 (cs.getD i 0)):=by
 obtain⟨a,c,rfl,hc⟩:=h.shape;refine IP (by simp) ?_;refine dG.mk ?_ ?_<;>intro hi
 ·have hi:i<cs.length:=by simpa using hi
  obtain⟨x,hx⟩:∃x,cs[i]? =some x:=⟨_,aB hi⟩
  obtain⟨ad,rfl,q1,q2⟩:=h.load hx;refine⟨ad,rfl,by omega,.int .i64 x,fun O w' r=>?_,?_⟩
  ·rw[aF];exact k7 hS dg.refl r q1 q2
  intro O w2 r;exact⟨_,rfl,r.cS,by rw[List.getD,hx];rfl⟩
 ·have hi:cs.length<=i:=by
   have:¬i<cs.length:=by simpa using hi
   omega
  intro O w2 r;exact⟨_,rfl,r.cS,by rw[List.getD,List.getElem?_eq_none hi];rfl⟩
theorem val_zero(h:∀x∈ls,x=0):val ls=0:=by
 induction ls with
 |nil=>rfl
 |cons l r ih=>rw[val,h l aI,ih fun x hx=>h x (aC _ hx)]
theorem aCS{x:Nat}(h:x∈ls)(hx:x≠0):0<val ls:=by
 induction ls with
 |nil=>cases h
 |cons l r ih=>
  rw[val];rcases List.mem_cons.1 h with rfl|h
  ·omega
  ·have:=ih h;omega
theorem iH(hS:Old S w)(hx:kQ w S v x):
  eA PG N.CT #[v] w (eL w fun v' _=>v'= .int .i64 x.sign):=by
 obtain⟨b,ls,⟨lv,rfl,h1⟩,hz⟩:=hx;obtain⟨a,c,rfl,_,ha⟩:=h1.sl;have hle1:=h1.le;refine Di (by simp) ?_
 refine⟨Nat×World,fun z=>⟨[(1,pP 0 0),(3,iZ z.1)],[(0,.box T.Int [.v (.bool b),.v (.slice a ls.length c)])],1,[],z.2⟩,fun z=>ls.length-z.1,
  fun z=>z.1<=ls.length∧dg w.heap.size w z.2∧∀x∈ls.take z.1,x=0,?_,?_⟩
 ·intro O w' r;exact⟨(0,w'),⟨by simp,r.cS,by simp⟩,Sub.gn [] r⟩
 rintro⟨i,w1⟩ ⟨hi,hw,ht⟩;dsimp only at hi hw ht ⊢;refine dG.mk ?_ ?_<;>intro OW
 ·have OW:i<ls.length:=by simpa using OW
  obtain⟨y,hy⟩:∃x,ls[i]? =some x:=⟨_,aB OW⟩
  obtain⟨ad,rfl,q1,q2⟩:=ha i y hy;refine⟨ad,rfl,by omega,.int .u32 y,fun O w' r=>by rw[aF,aY];exact k7 hS hw r q1 q2,?_⟩;refine dG.mk ?_ ?_<;>intro OZ
  ·have OZ:y≠0:=fun h=>by rw[h]at OZ;simp at OZ
   have hp:=aCS (aD hy) OZ
   cases b with
   |true=>
    rw[aAk]at hz;intro O w2 r;exact⟨_,rfl,hw.tr r.cS,by rw[bo (by omega)];rfl⟩
   |false=>
    rw[aDH]at hz;intro O w2 r;exact⟨_,rfl,hw.tr r.cS,by rw[bq (by omega)];rfl⟩
  have OZ:y=0:=by simpa using OZ
  subst OZ;have TC:∀x∈ls.take (i+1),x=0:=fun x hx=>by
   rw[List.take_add_one,hy]at hx;rcases List.mem_append.1 hx with hx|hx
   ·exact ht x hx
   ·simpa using hx
  refine⟨((i+1:Nat):Int),wo,?_⟩;intro ρ3 w3 r3;exact⟨(i+1,w3),⟨OW,hw.tr r3.cS,TC⟩,Sub.gn [] r3,by dsimp only;omega⟩
 have OW:i=ls.length:=by
  have:¬i<ls.length:=by simpa using OW
  omega
 subst OW;rw[bH]at ht;intro O w2 r;refine⟨_,rfl,hw.tr r.cS,?_⟩;rw[<-hz,val_zero ht]
 cases b<;>rfl
theorem EB.at(h:EB cs n z)(i:Nat): -65535<=cs.getD i 0∧cs.getD i 0<=65535:=by
 rw[List.getD]
 cases hj:cs[i]? with
 |none=>simp
 |some d=>exact h.2.2.1 d (aD hj)
end Go.Ex
namespace Go.Sx
open Go Go.Ex Go.Proofs
variable{cs:List Int}{O:Nat->Sx.eE}
theorem Rel.aCT{H:Hp}{nx:Nat}{iv:Iv}{B:Nat}{w w':World}(r:Rel H nx iv B w O w'){id m:Nat}(h:dM H id=some (.vec T.int 1 (cs.map (Value.int .i64))))(hm:m=cs.length)(hl:m<=maxLen):
  ∃S',Old S' w'∧eM w' S' ((SV.o (.w id m)).den O) cs:=by
 have OX:=r.Gw (m:=m) h (by rw[aL,hm,aY]) (by decide);exact⟨_,fun g hg=>(ownsRow.low OX g hg).2,tR OX hm hl⟩
end Go.Sx
namespace Go.Ex
open Go Go.Sx Go.Proofs
variable{x y:Int}{cs:List Int}{k:Nat}{S:Nat->Prop}{O:Nat->Sx.eE}{u v:Value}{w:World}
theorem o0{H:Hp}{nx:Nat}{iv:Iv}{B:Nat}{w':World}(r:Rel H nx iv B w O w'){id m:Nat}{z:Int}(h:dM H id=some (.vec T.int 1 (cs.map (Value.int .i64))))(hm:m=cs.length)(hl:m<=100000000)
  (hb:∀c∈cs,-1152921504606846976<=c∧c<=1152921504606846976) (hz:dY cs=z):eA PG N.lO #[(SV.o (.w id m)).den O] w' (eL w' fun v' w2=>dU w2 (Nf w' w2) v' z):=by
 subst hz;obtain⟨S',h1,h2⟩:=r.aCT h hm (by unfold maxLen;omega);exact zC h1 h2 hb (by omega)
theorem DU{l:Nat}(hS:Old S w)(hx:gB w S v k x)(hy:gB w S u l y)(hk:k<=10000000)(hl:l<=10000000):
  eA PG N.Em #[v,u] w (eL w fun v' w2=>dU w2 (Nf w w2) v' (x+y)):=by
 have hw:=bR w;replace hx:=hx.cL (S':=Cv S w.heap.size []) fun _ h=>.inl h;replace hy:=hy.cL (S':=Cv S w.heap.size []) fun _ h=>.inl h;obtain⟨b1,a1,n1,c1,rfl⟩:=hx.shape;obtain⟨b2,a2,n2,c2,rfl⟩:=hy.shape;refine GV (by simp) ?_;refine cO hτ dZ [.x 0,.x 2,.x 1,.x 3,.x 4,.x 5] (by kernel_rfl) (by kernel_rfl) ?_;refine cE hw (fun _ w' v w2=>∃cs,eM w2 (Nf w' w2) v cs∧EB cs (2*k) (x)) (fun O w' r=>tT (Rel.old r hS) (hx.rel r hS) (by omega)) ?_;rintro O _ _ _ Od r he hw h_ ⟨ca,k1,bca⟩;replace hy:=hy.cK r hS he (mC h_);have Pj:=k1.dK (S:=FF) r.cI (mN h_);obtain⟨aca,cca,rfl,lca⟩:=Pj.shape;refine cE hw (fun _ w' v w2=>∃cs,eM w2 (Nf w' w2) v cs∧EB cs (2*l) (y)) (fun O w' r=>tT (Rel.old r hS) (hy.rel r hS) (by omega)) ?_;rintro O _ _ _ Oa r he hw h_ ⟨cb,k1,bcb⟩;replace Pj:=Pj.cK r (cG w) he (mC h_);have PO:=k1.dK (S:=FF) r.cI (mN h_);obtain⟨acb,ccb,rfl,lcb⟩:=PO.shape
 refine⟨Nat×World×Iv,fun z=>⟨[(4,pP 2 0),(5,sV aca ca.length cca),(6,sV acb cb.length ccb),(7,.o (.w 3 z.1)),(8,iZ z.1)],[(3,.vec T.int 1 (((List.range z.1).map fun j=>ca.getD j 0+cb.getD j 0).map (Value.int .i64))),(2,.box T.Int [.v (.bool false),.v (.slice none 0 0)])],4,z.2.2,z.2.1⟩,fun z=>max ca.length cb.length-z.1,
  fun z=>z.1<=max ca.length cb.length∧dg w.heap.size w z.2.1∧eM z.2.1 (Cf w z.2.2) (.slice aca ca.length cca) ca∧eM z.2.1 (Cf w z.2.2) (.slice acb cb.length ccb) cb,?_,?_⟩
 ·intro O w' r
  exact⟨(0,w',Oa),⟨by simp,hw.tr r.cS,Pj.rel r (cG w),PO.rel r (cG w)⟩,Sub.nil 7 T.int 1 rfl (by simp[jw,SV.sc,At.sc,fQ]) r fun ρ1 r1=>
   Sub.gn [] r1⟩
 rintro⟨i,w1,iv⟩ ⟨hi,hw,Pj,PO⟩;dsimp only at hi hw Pj PO ⊢;have l1:=bca.2.1;have l2:=bcb.2.1;refine dG.mk ?_ ?_<;>intro OW
 ·have OW:i<max ca.length cb.length:=by
   have:=aH OW;omega
  have q1:=bca.at i;have q2:=bcb.at i;refine cH (cE hw (fun _ w' v w2=>v= .int .i64 (ca.getD i 0)) (fun O w' r=>aCd (Rel.old r (cG w)) (Pj.rel r (cG w))) ?_);rintro O Pg v3 Pc Oj r he hw h_ rfl;replace Pj:=Pj.cK r (cG w) he (mC h_);replace PO:=PO.cK r (cG w) he (mC h_);refine cH (cE hw (fun _ w' v w2=>v= .int .i64 (cb.getD i 0)) (fun O w' r=>aCd (Rel.old r (cG w)) (PO.rel r (cG w))) ?_);rintro O _ _ _ Oz r he hw h_ rfl;replace Pj:=Pj.cK r (cG w) he (mC h_);replace PO:=PO.cK r (cG w) he (mC h_);refine⟨ca.getD i 0+cb.getD i 0,wo,?_⟩;refine .inl ?_;refine⟨by simp,by omega,by unfold maxLen;omega,((i+1:Nat):Int),wo,?_⟩;intro ρ3 w3 r3;have Um:((List.range (i+1)).map fun j=>ca.getD j 0+cb.getD j 0).map (Value.int .i64)=((List.range i).map fun j=>ca.getD j 0+cb.getD j 0).map (Value.int .i64)++[.int .i64 (ca.getD i 0+cb.getD i 0)]:=by
   rw[bM,List.map_append,List.map_append];rfl
  exact⟨(i+1,w3,_),⟨OW,hw.tr r3.cS,Pj.rel r3 (cG w),PO.rel r3 (cG w)⟩,Sub.gn [(3,5)] r3 ⟨by dsimp only;rw[Um];rfl,rfl,trivial⟩,by dsimp only;omega⟩
 have OW:i=max ca.length cb.length:=by
  have:=aG OW;omega
 generalize Ox:((List.range i).map fun j=>ca.getD j 0+cb.getD j 0)=cs;have hz:dY cs=x+y:=by
  rw[<-Ox,CL,CM,rY ca i (by omega),rY cb i (by omega),bca.1,bcb.1]
 have hlen:i=cs.length:=by rw[<-Ox];simp
 have PN:∀c∈cs,-1152921504606846976<=c∧c<=1152921504606846976:=fun c hc=>by
  rw[<-Ox]at hc;obtain⟨j,_,rfl⟩:=aT.1 hc;have:=bca.at j;have:=bcb.at j;omega
 refine cH (cE hw (fun _ w' v w2=>dU w2 (Nf w' w2) v (x+y)) (fun O w' r=>o0 r rfl hlen (by omega) PN hz) ?_);rintro O _ _ _ Oj r he hw h_ hn;have hC:=hn.dK (S:=FF) r.cI (mN h_);obtain⟨A0,A1,A2,A3,rfl⟩:=hC.shape;exact rtn hw fun ρe we re=>hC.out re (cG w)
theorem Gy{l:Nat}(hS:Old S w)(hx:gB w S v k x)(hy:gB w S u l y)(hk:k<=10000000)(hl:l<=10000000):
  eA PG N.CX #[v,u] w (eL w fun v' w2=>dU w2 (Nf w w2) v' (x-y)):=by
 have Qu:=hy.ln;have hw:=bR w;replace hx:=hx.cL (S':=Cv S w.heap.size []) fun _ h=>.inl h;replace hy:=hy.cL (S':=Cv S w.heap.size []) fun _ h=>.inl h;obtain⟨b1,a1,n1,c1,rfl⟩:=hx.shape;obtain⟨b2,a2,n2,c2,rfl⟩:=hy.shape;refine Dl (by simp) ?_;refine cO hτ dZ [.x 0,.x 1,.x 2,.x 3,.x 4] (by kernel_rfl) (by kernel_rfl) ?_;refine cE hw (fun _ w' v w2=>dU w2 (Nf w' w2) v (-y)) (fun O w' r=>nM (Rel.old r hS) (hy.rel r hS) (by omega)) ?_;rintro O _ _ _ Od r he hw h_ hn;replace hx:=hx.cK r hS he (mC h_);have hm:=hn.dK (S:=FF) r.cI (mN h_);obtain⟨A0,A1,A2,A3,rfl⟩:=hm.shape;refine cE hw (fun _ w' v w2=>dU w2 (Nf w' w2) v (x-y)) (fun O w' r=>?_) ?_
 ·have h:=DU (Rel.old r hS) (hx.rel r hS) (((hm.rel r (cG w)).l (k:=l) (by rw[cF];exact Qu)).cL fun g hg=>Cv.false hg) hk hl;rw[<-Int.sub_eq_add_neg]at h;exact h
 rintro O _ _ _ Oa r he hw h_ hn;have hC:=hn.dK (S:=FF) r.cI (mN h_);obtain⟨C0,C1,C2,C3,rfl⟩:=hC.shape;exact rtn hw fun ρe we re=>hC.out re (cG w)
theorem NW{l:Nat}(hS:Old S w)(hx:gB w S v k x)(hy:gB w S u l y)(hk:k<=10000000)(hl:l<=10000000):
  eA PG N.xC #[v,u] w (eL w fun v' _=>v'= .int .i64 (x-y).sign):=by
 have hw:=bR w;replace hx:=hx.cL (S':=Cv S w.heap.size []) fun _ h=>.inl h;replace hy:=hy.cL (S':=Cv S w.heap.size []) fun _ h=>.inl h;obtain⟨b1,a1,n1,c1,rfl⟩:=hx.shape;obtain⟨b2,a2,n2,c2,rfl⟩:=hy.shape;refine AZ (by simp) ?_;refine cH (cE hw (fun _ w' v w2=>dU w2 (Nf w' w2) v (x-y)) (fun O w' r=>Gy (Rel.old r hS) (hx.rel r hS) (hy.rel r hS) hk hl) ?_);rintro O _ _ _ Od r he hw h_ hn;have hd:=hn.dK (S:=FF) r.cI (mN h_);obtain⟨A0,A1,A2,A3,rfl⟩:=hd.shape;refine cH (cE hw (fun _ w' v w2=>v= .int .i64 (x-y).sign) (fun O w' r=>iH (Rel.old r (cG w)) (hd.rel r (cG w)).r) ?_);rintro O _ _ _ Oa r he hw h_ rfl;exact rtn hw fun ρe we re=>rfl
end Go.Ex
namespace Go.Ex
open Go Go.Sx Go.Proofs
variable{S:Nat->Prop}
theorem NX{x y:Int}(hx: -65535<=x∧x<=65535)(hy: -65535<=y∧y<=65535):(x*y).natAbs<=4294836225:=by
 rw[Int.natAbs_mul];exact Nat.mul_le_mul (show x.natAbs<=65535 by omega) (show y.natAbs<=65535 by omega)
theorem FT{a b:List Int}{i k:Nat}(hk:k<=i+1)(h:i<k∨a.length<=k):jU a b i k=gb a b i:=by
 rcases h with h|h
 ·rw[gb,show i+1=k by omega]
 ·obtain⟨m,hm⟩:∃m,i+1=k+m:=⟨i+1-k,by omega⟩
  rw[gb,hm,Jp a b i k m h]
theorem jH{w:World}{v u:Value}{k l:Nat}{x y:Int}(hS:Old S w)(hx:gB w S v k x)(hy:gB w S u l y)(hk:k<=10000000)(hl:l<=10000000):
  eA PG N.CU #[v,u] w (eL w fun v' w2=>dU w2 (Nf w w2) v' (x*y)):=by
 have hw:=bR w;replace hx:=hx.cL (S':=Cv S w.heap.size []) fun _ h=>.inl h;replace hy:=hy.cL (S':=Cv S w.heap.size []) fun _ h=>.inl h;obtain⟨b1,a1,n1,c1,rfl⟩:=hx.shape;obtain⟨b2,a2,n2,c2,rfl⟩:=hy.shape;refine Dj (by simp) ?_;refine cO hτ dZ [.x 0,.x 2,.x 1,.x 3,.x 4,.x 5] (by kernel_rfl) (by kernel_rfl) ?_;refine cE hw (fun _ w' v w2=>∃cs,eM w2 (Nf w' w2) v cs∧EB cs (2*k) (x)) (fun O w' r=>tT (Rel.old r hS) (hx.rel r hS) (by omega)) ?_;rintro O _ _ _ Od r he hw h_ ⟨ca,k1,bca⟩;replace hy:=hy.cK r hS he (mC h_);have Pj:=k1.dK (S:=FF) r.cI (mN h_);obtain⟨aca,cca,rfl,lca⟩:=Pj.shape;refine cE hw (fun _ w' v w2=>∃cs,eM w2 (Nf w' w2) v cs∧EB cs (2*l) (y)) (fun O w' r=>tT (Rel.old r hS) (hy.rel r hS) (by omega)) ?_;rintro O _ _ _ Oa r he hw h_ ⟨cb,k1,bcb⟩;replace Pj:=Pj.cK r (cG w) he (mC h_);have PO:=k1.dK (S:=FF) r.cI (mN h_);obtain⟨acb,ccb,rfl,lcb⟩:=PO.shape;have l1:=bca.2.1;have l2:=bcb.2.1
 refine⟨Nat×World,fun z=>⟨[(4,pP 2 0),(5,sV aca ca.length cca),(6,sV acb cb.length ccb),(7,.o (.w 3 z.1)),(8,iN z.1)],[(3,.vec T.int 1 (((List.range z.1).map (gb ca cb)).map (Value.int .i64))),(2,.box T.Int [.v (.bool false),.v (.slice none 0 0)])],4,Oa,z.2⟩,fun z=>ca.length+cb.length-z.1,
  fun z=>(z.1+1<=ca.length+cb.length∨z.1=0)∧dg w.heap.size w z.2∧eM z.2 (Cf w Oa) (.slice aca ca.length cca) ca∧eM z.2 (Cf w Oa) (.slice acb cb.length ccb) cb,?_,?_⟩
 ·intro O w' r
  exact⟨(0,w'),⟨by simp,hw.tr r.cS,Pj.rel r (cG w),PO.rel r (cG w)⟩,Sub.nil 7 T.int 1 rfl (by simp[jw,SV.sc,At.sc,fQ]) r fun ρ1 r1=>
   Sub.gn [] r1⟩
 rintro⟨i,w1⟩ ⟨hi,hw,Pj,PO⟩;dsimp only at hi hw Pj PO ⊢;refine⟨((i+1:Nat):Int),wo,((ca.length+cb.length:Nat):Int),wo,?_⟩;refine dG.mk ?_ ?_<;>intro OW
 ·have OW:i+1<ca.length+cb.length:=by
   have:=aH OW;omega
  refine⟨(i:Int)-cb.length,wo,(i:Int)-cb.length+1,wo,?_⟩;conv=>whnf
  rw[show max 0 ((i:Int)-cb.length+1)=((i+1-cb.length:Nat):Int) by omega];obtain⟨k0,SS⟩:∃k0,k0=i+1-cb.length:=⟨_,rfl⟩
  rw[<-SS]
  refine⟨Nat×World,fun z=>⟨[(4,pP 2 0),(5,sV aca ca.length cca),(6,sV acb cb.length ccb),(7,.o (.w 3 i)),(8,iN i),(9,.o (.v (.int .i64 (jU ca cb i z.1)))),(10,iN z.1)],[(3,.vec T.int 1 (((List.range i).map (gb ca cb)).map (Value.int .i64))),(2,.box T.Int [.v (.bool false),.v (.slice none 0 0)])],4,Oa,z.2⟩,fun z=>i+1-z.1,
   fun z=>k0<=z.1∧z.1<=i+1∧dg w.heap.size w z.2∧eM z.2 (Cf w Oa) (.slice aca ca.length cca) ca∧eM z.2 (Cf w Oa) (.slice acb cb.length ccb) cb,?_,?_⟩
  ·intro O w' r;refine⟨(k0,w'),⟨by simp,by dsimp only;omega,hw.tr r.cS,Pj.rel r (cG w),PO.rel r (cG w)⟩,Sub.gn [] r (hE:=⟨rfl,rfl,rfl,rfl,rfl,?_,rfl,trivial⟩)⟩;dsimp only
   rw[Jo ca cb i k0 k0 (fun j hj=>by omega) (by omega) (Nat.le_refl _)];rfl
  rintro⟨j,w2⟩ ⟨hj0,hj1,hw,Pj,PO⟩;dsimp only at hj0 hj1 hw Pj PO ⊢;conv=>whnf
  refine dG.mk ?_ ?_<;>intro Pq
  ·have Pq:j<=i:=by
    have:=aH Pq;omega
   refine dG.mk ?_ ?_<;>intro hja
   ·have hja:j<ca.length:=by
     have:=aH hja;omega
    obtain⟨p,hp⟩:∃p,ca[j]? =some p:=⟨_,aB hja⟩
    obtain⟨q,hq⟩:∃q,cb[i-j]? =some q:=⟨_,aB (by omega)⟩
    obtain⟨ad,rfl,q1,q2⟩:=Pj.load hp;obtain⟨ad2,rfl,q3,q4⟩:=PO.load hq;have e1:ca.getD j 0=p:=by rw[List.getD,hp];rfl
    have e2:cb.getD (i-j) 0=q:=by rw[List.getD,hq];rfl
    have e3:jU ca cb i (j+1)=jU ca cb i j+p*q:=by rw[jU,e1,if_pos Pq,e2]
    have m1:=bca.at j;have m2:=bcb.at (i-j);rw[e1]at m1;rw[e2]at m2;have m3:=NX m1 m2;have m4:=nc (a:=ca) (b:=cb) (i:=i) bca.2.2.1 bcb.2.2.1 j;refine cO hτ dZ [.x 0,.x 1,.x 2,.x 3,.x 4,.x 5,.x 6,.x 7,.x 8,.x 9,.x 10,.x 11,.x 12,.x 13] (by kernel_rfl) (by kernel_rfl) ?_;refine⟨ad,rfl,by omega,.int .i64 p,fun O w' r=>?_,?_⟩
    ·rw[aF,cM (w:=w2) (w2:=w') (by rw[dD];exact Rel.same (S:=FF) r (cG w) q1)];exact q2
    refine⟨((i-j:Nat):Int),wo,ad2,rfl,by omega,.int .i64 q,fun O w' r=>?_,?_⟩
    ·rw[aF,cM (w:=w2) (w2:=w') (by rw[dD];exact Rel.same (S:=FF) r (cG w) q3)];exact q4
    refine⟨p*q,wo,jU ca cb i (j+1),by rw[e3,wrap64]<;>omega,((j+1:Nat):Int),wo,?_⟩;intro ρ3 w3 r3;exact⟨(j+1,w3),⟨by dsimp only;omega,by dsimp only;omega,hw.tr r3.cS,Pj.rel r3 (cG w),PO.rel r3 (cG w)⟩,Sub.gn [] r3,by dsimp only;omega⟩
   have hja:ca.length<=j:=by
    have:=aG hja;omega
   rw[FT hj1 (.inr hja)];have m4:=nc (a:=ca) (b:=cb) (i:=i) bca.2.2.1 bcb.2.2.1 (i+1);refine .inl ?_;refine⟨by simp,by omega,by unfold maxLen;omega,((i+1:Nat):Int),wo,?_⟩;intro ρ3 w3 r3;have Um:((List.range (i+1)).map (gb ca cb)).map (Value.int .i64)=((List.range i).map (gb ca cb)).map (Value.int .i64)++[.int .i64 (gb ca cb i)]:=by
    rw[bM,List.map_append,List.map_append];rfl
   exact⟨(i+1,w3),⟨.inl OW,hw.tr r3.cS,Pj.rel r3 (cG w),PO.rel r3 (cG w)⟩,Sub.gn [(3,5)] r3 ⟨by dsimp only;rw[Um];rfl,rfl,trivial⟩,by dsimp only;omega⟩
  have Pq:i<j:=by
   have:=aG Pq;omega
  rw[FT hj1 (.inl Pq)];have m4:=nc (a:=ca) (b:=cb) (i:=i) bca.2.2.1 bcb.2.2.1 (i+1);refine .inl ?_;refine⟨by simp,by omega,by unfold maxLen;omega,((i+1:Nat):Int),wo,?_⟩;intro ρ3 w3 r3;have Um:((List.range (i+1)).map (gb ca cb)).map (Value.int .i64)=((List.range i).map (gb ca cb)).map (Value.int .i64)++[.int .i64 (gb ca cb i)]:=by
   rw[bM,List.map_append,List.map_append];rfl
  exact⟨(i+1,w3),⟨.inl OW,hw.tr r3.cS,Pj.rel r3 (cG w),PO.rel r3 (cG w)⟩,Sub.gn [(3,5)] r3 ⟨by dsimp only;rw[Um];rfl,rfl,trivial⟩,by dsimp only;omega⟩
 have OW:ca.length+cb.length<=i+1:=by
  have:=aG OW;omega
 generalize Ox:((List.range i).map (gb ca cb))=cs;have hz:dY cs=x*y:=by
  rw[<-Ox,CL,aAW ca cb i OW,bca.1,bcb.1]
 have hlen:i=cs.length:=by rw[<-Ox];simp
 have PN:∀c∈cs,-1152921504606846976<=c∧c<=1152921504606846976:=fun c hc=>by
  rw[<-Ox]at hc;obtain⟨j,hj,rfl⟩:=aT.1 hc;have hj:=List.mem_range.1 hj;have:=nc (a:=ca) (b:=cb) (i:=j) bca.2.2.1 bcb.2.2.1 (j+1);rw[gb];omega
 refine cH (cE hw (fun _ w' v w2=>dU w2 (Nf w' w2) v (x*y)) (fun O w' r=>o0 r rfl hlen (by omega) PN hz) ?_);rintro O _ _ _ Oj r he hw h_ hn;have hC:=hn.dK (S:=FF) r.cI (mN h_);obtain⟨A0,A1,A2,A3,rfl⟩:=hC.shape;exact rtn hw fun ρe we re=>hC.out re (cG w)
end Go.Ex
namespace Go.Ex
theorem MJ{b r r2 q X n c:Int}(h:X=b*q+r)(hr:r*65536+c=b*n+r2):c+65536*X=b*(n+65536*q)+r2:=by
 rw[h,Int.mul_add,Int.mul_add,Int.mul_left_comm b 65536 q];omega
theorem Nu{x y Q R:Int}(hy:y≠0)(h:(x.natAbs:Int)=(y.natAbs:Int)*Q+R)(h0:0<=R)(h1:R<(y.natAbs:Int)):
  (if x<0∧0<R then(if (x<0)↔(y<0)then(Q+1)else -(Q+1))else(if (x<0)↔(y<0)then Q else -Q))=x / y∧(if x<0∧0<R then(y.natAbs:Int)-R else R)=x % y:=by
 have key:∀q r:Int,r+y*q=x->0<=r->r<(y.natAbs:Int)->q=x / y∧r=x % y:=by
  intro q r e1 e2 e3;have m:x % y=r:=by
   rw[<-e1,Int.add_mul_emod_self_left];rcases Int.lt_or_lt_of_ne hy with h|h
   ·rw[<-Int.emod_neg,Int.emod_eq_of_lt e2 (by omega)]
   ·exact Int.emod_eq_of_lt e2 (by omega)
  have d:=Int.mul_ediv_add_emod x y;rw[m]at d;exact⟨(Int.eq_of_mul_eq_mul_left hy (by omega)),m.symm⟩
 by_cases hx:x<0
 ·have ex:(x.natAbs:Int)= -x:=by omega
  by_cases hy':y<0
  ·have ey:(y.natAbs:Int)= -y:=by omega
   rw[ex,ey,Int.neg_mul]at h;by_cases hR:0<R
   ·rw[if_pos (show x<0∧0<R from⟨hx,hR⟩),if_pos (show x<0∧0<R from⟨hx,hR⟩),if_pos (show (x<0)↔(y<0) by simp[hx,hy'])];exact key _ _ (by rw[Int.mul_add,Int.mul_one];omega) (by omega) (by omega)
   ·rw[aK (show ¬(x<0∧0<R) by omega),aK (show ¬(x<0∧0<R) by omega),if_pos (show (x<0)↔(y<0) by simp[hx,hy'])];exact key _ _ (by omega) h0 h1
  ·have ey:(y.natAbs:Int)=y:=by omega
   rw[ex,ey]at h;have hn:¬((x<0)↔(y<0)):=by simp[hx,hy']
   by_cases hR:0<R
   ·rw[if_pos (show x<0∧0<R from⟨hx,hR⟩),if_pos (show x<0∧0<R from⟨hx,hR⟩),aK hn];exact key _ _ (by rw[Int.mul_neg,Int.mul_add,Int.mul_one];omega) (by omega) (by omega)
   ·rw[aK (show ¬(x<0∧0<R) by omega),aK (show ¬(x<0∧0<R) by omega),aK hn];exact key _ _ (by rw[Int.mul_neg];omega) h0 h1
 ·have ex:(x.natAbs:Int)=x:=by omega
  rw[aK (show ¬(x<0∧0<R) by omega),aK (show ¬(x<0∧0<R) by omega)];by_cases hy':y<0
  ·have ey:(y.natAbs:Int)= -y:=by omega
   rw[ex,ey,Int.neg_mul]at h;rw[aK (show ¬((x<0)↔(y<0)) by simp[hx,hy'])];exact key _ _ (by rw[Int.mul_neg];omega) h0 h1
  ·have ey:(y.natAbs:Int)=y:=by omega
   rw[ex,ey]at h;rw[if_pos (show (x<0)↔(y<0) by simp[hx,hy'])];exact key _ _ (by omega) h0 h1
theorem gY(z:Int):(z<0∧z.sign= -1)∨(z=0∧z.sign=0)∨(0<z∧z.sign=1):=by
 rcases Int.lt_trichotomy z 0 with h|h|h
 ·exact .inl ⟨h,bo h⟩
 ·exact .inr (.inl ⟨h,by rw[h];rfl⟩)
 ·exact .inr (.inr ⟨h,bq h⟩)
end Go.Ex
namespace Go.Ex
open Go Go.Sx Go.Proofs
variable{x y:Int}{Q:List Int}{k:Nat}{S:Nat->Prop}{u v:Value}{w:World}
def aB0:Value:=.agg #[.bool false,.slice none 0 0]
theorem dU.nil(w:World)(S:Nat->Prop):dU w S (.agg #[.bool false,.slice none 0 0]) 0:=⟨[],⟨_,rfl,dV.nil _ _⟩,fun x h=>by simp at h,rfl⟩
theorem aDz(h:∀c∈Q,0<=c∧c<=65535):0<=dY Q:=by
 induction Q with
 |nil=>exact Int.le_refl _
 |cons c r ih=>
  have h1:=h c aI;have h2:=ih fun x hx=>h x (aC _ hx);rw[dY];omega
theorem DV{n:Int}(h:0<=n)(h2:n<4294967296):ln n.natAbs<=1:=gX.2 (by show n.natAbs<4294967296^1;omega)
theorem NY{l:Nat}(hS:Old S w)(hx:gB w S v k x)(hy:gB w S u l y)(hk:k<=1000000)(hl:l<=1000000):
  eA PG N.qB #[v,u] w (eL w fun v' w2=>(y=0∧v'= .tuple #[aB0,aB0,.int .i64 9])∨(y≠0∧∃q r,v'= .tuple #[q,r,.int .i64 0]∧dU w2 (Nf w w2) q (x / y)∧dU w2 (Nf w w2) r (x % y))):=by
 have hw:=bR w;replace hx:=hx.cL (S':=Cv S w.heap.size []) fun _ h=>.inl h;replace hy:=hy.cL (S':=Cv S w.heap.size []) fun _ h=>.inl h;obtain⟨b1,a1,n1,c1,rfl⟩:=hx.shape;obtain⟨b2,a2,n2,c2,rfl⟩:=hy.shape;refine AU (by simp) ?_;have Qu:=hy.ln;refine cH (cE hw (fun _ w' v w2=>v= .int .i64 y.sign) (fun O w' r=>iH (Rel.old r hS) (hy.rel r hS).r) ?_);rintro O _ _ _ Od r he hw h_ rfl;replace hx:=hx.cK r hS he (mC h_);replace hy:=hy.cK r hS he (mC h_);refine dG.mk ?_ ?_<;>intro QM
 ·have QM:y=0:=by rcases gY y with h|h|h<;>simp[h]at QM ⊢
  exact rtn hw fun ρe we re=>.inl ⟨QM,rfl⟩
 have QM:y≠0:=fun e=>by rw[e]at QM;simp at QM
 refine cO hτ dZ [.x 0,.x 3,.p 5,.x 1,.x 2,.x 4,.x 5,.x 6,.x 7] (by kernel_rfl) (by kernel_rfl) ?_;refine cE hw (fun _ w' v w2=>dU w2 (Nf w' w2) v ((x.natAbs:Int))) (fun O w' r=>BE (Rel.old r hS) (hx.rel r hS) (by omega)) ?_;rintro O _ _ _ Oa r he hw h_ hn;replace hx:=hx.cK r hS he (mC h_);replace hy:=hy.cK r hS he (mC h_);have hsx:=hn.dK (S:=FF) r.cI (mN h_);obtain⟨A0,A1,A2,A3,rfl⟩:=hsx.shape;have PS:=hx.ln;refine cE hw (fun _ w' v w2=>∃cs,eM w2 (Nf w' w2) v cs∧EB cs (2*k) ((x.natAbs:Int))) (fun O w' r=>tT (Rel.old r (cG w)) ((hsx.rel r (cG w)).l (k:=k) (by rw[Int.natAbs_natCast];exact PS)) (by omega)) ?_;rintro O _ _ _ Oj r he hw h_ ⟨ca,k1,bca⟩;replace hx:=hx.cK r hS he (mC h_);replace hy:=hy.cK r hS he (mC h_);have Pj:=k1.dK (S:=FF) r.cI (mN h_);obtain⟨aca,cca,rfl,lca⟩:=Pj.shape;refine cE hw (fun _ w' v w2=>dU w2 (Nf w' w2) v ((y.natAbs:Int))) (fun O w' r=>BE (Rel.old r hS) (hy.rel r hS) (by omega)) ?_;rintro O _ _ _ Oz r he hw h_ hn;replace hx:=hx.cK r hS he (mC h_);replace hy:=hy.cK r hS he (mC h_);replace Pj:=Pj.cK r (cG w) he (mC h_);have Ov:=hn.dK (S:=FF) r.cI (mN h_);obtain⟨C0,C1,C2,C3,rfl⟩:=Ov.shape;generalize hB:(y.natAbs:Int)=B at*
 have l1:=bca.2.1;have hB0:0<B:=by omega
 have lB:ln B.natAbs<=l:=by rw[<-hB,Int.natAbs_natCast];exact Qu
 refine⟨(ca.length:Int)-1,wo,Nat×List Int×Int×(Bool×Option Addr×Nat×Nat)×World×Iv,fun z=>⟨[(2,pP 0 0),(3,pP 1 0),(4,pP 2 0),(5,pP 3 0),(6,iZ 0),(7,sV aca ca.length cca),(8,pP 4 0),(9,.o (.w 6 z.2.1.length)),(10,pP 5 0),(11,.o (.v (.int .i64 ((z.1:Int)-1))))],[(6,.vec T.int 1 (z.2.1.map (Value.int .i64))),(5,.box T.Int [.v (.bool z.2.2.2.1.1),.v (.slice z.2.2.2.1.2.1 z.2.2.2.1.2.2.1 z.2.2.2.1.2.2.2)]),(4,.box T.Int [.v (.bool C0),.v (.slice C1 C2 C3)]),(3,.box T.Int [.v (.bool false),.v (.slice none 0 0)]),(2,.box T.Int [.v (.bool false),.v (.slice none 0 0)]),(1,.box T.Int [.v (.bool b2),.v (.slice a2 n2 c2)]),(0,.box T.Int [.v (.bool b1),.v (.slice a1 n1 c1)])],7,z.2.2.2.2.2,z.2.2.2.2.1⟩,fun z=>z.1,
  fun z=>z.1<=ca.length∧z.2.1.length+z.1=ca.length∧(∀c∈z.2.1,0<=c∧c<=65535)∧dY (ca.drop z.1)=B*dY z.2.1+z.2.2.1∧0<=z.2.2.1∧z.2.2.1<B∧dg w.heap.size w z.2.2.2.2.1∧gB z.2.2.2.2.1 (Cv S w.heap.size z.2.2.2.2.2) (.agg #[.bool b1,.slice a1 n1 c1]) k x∧gB z.2.2.2.2.1 (Cv S w.heap.size z.2.2.2.2.2) (.agg #[.bool b2,.slice a2 n2 c2]) l y∧eM z.2.2.2.2.1 (Cf w z.2.2.2.2.2) (.slice aca ca.length cca) ca∧dU z.2.2.2.2.1 (Cf w z.2.2.2.2.2) (.agg #[.bool C0,.slice C1 C2 C3]) B∧dU z.2.2.2.2.1 (Cf w z.2.2.2.2.2) (.agg #[.bool z.2.2.2.1.1,.slice z.2.2.2.1.2.1 z.2.2.2.1.2.2.1 z.2.2.2.1.2.2.2]) z.2.2.1,?_,?_⟩
 ·intro O w' r
  exact⟨(ca.length,[],0,(false,none,0,0),w',Oz),⟨Nat.le_refl _,by simp,by simp,by simp[dY],Int.le_refl _,hB0,hw.tr r.cS,hx.rel r hS,hy.rel r hS,Pj.rel r (cG w),Ov.rel r (cG w),dU.nil _ _⟩,Sub.nil 9 T.int 1 rfl (by simp[jw,SV.sc,At.sc]) r fun ρ1 r1=>
   Sub.gn [] r1⟩
 rintro⟨j,Q,R,⟨br,ar,nr,cr⟩,w1,iv⟩ ⟨hj,hQ,hd,hv,hR0,VH,hw,hx,hy,Pj,Ov,hr⟩;dsimp only at hj hQ hd hv hR0 VH hw hx hy Pj Ov hr ⊢;refine dG.mk ?_ ?_<;>intro OW
 ·obtain⟨i,rfl⟩:∃i,j=i+1:=⟨j-1,by have:(j:Int)-1≥0:=aH OW;omega⟩
  rw[show ((i+1:Nat):Int)-1=(i:Int) by omega];obtain⟨d,R4⟩:∃d,ca[i]? =some d:=⟨_,aB (by omega)⟩
  have YQ:=bca.2.2.1 d (aD R4);have PF:=bca.2.2.2 (by omega) d (aD R4);have lR:ln R.natAbs<=l:=aV (fk (by omega)) lB;have lU:ln (65536:Int).natAbs<=1:=by decide
  have m1:=dI R 65536;have m2:=DV (n:=d) PF (by omega);have m3:=j6 (R*65536) d;refine cO hτ dZ [.x 0,.x 3,.x 4,.x 5,.x 6,.x 1,.x 2,.x 7,.x 8,.x 9] (by kernel_rfl) (by kernel_rfl) ?_;obtain⟨ad,ha0,q1,q2⟩:=Pj.load R4;refine⟨ad,ha0,by omega,.int .i64 d,fun O w' r=>?_,?_⟩
  ·rw[aF,cM (w:=w1) (w2:=w') (by rw[dD];exact Rel.same (S:=FF) r (cG w) q1)];exact q2
  refine cE hw (fun _ w' v w2=>dU w2 (Nf w' w2) v (65536)) (fun O w' r=>mI _ w' (by decide) (by decide)) ?_;rintro O Rz v5 Rs QT r he hw h_ hn;replace hx:=hx.cK r hS he (mC h_);replace hy:=hy.cK r hS he (mC h_);replace Pj:=Pj.cK r (cG w) he (mC h_);replace Ov:=Ov.cK r (cG w) he (mC h_);replace hr:=hr.cK r (cG w) he (mC h_);have hu:=hn.dK (S:=FF) r.cI (mN h_);obtain⟨F0,F1,F2,F3,rfl⟩:=hu.shape;refine cE hw (fun _ w' v w2=>dU w2 (Nf w' w2) v (R*65536)) (fun O w' r=>jH (Rel.old r (cG w)) ((hr.rel r (cG w)).l (k:=1000001) (by omega)) ((hu.rel r (cG w)).l (k:=1000001) (by omega)) (by omega) (by omega)) ?_;rintro O R5 v6 RX Qr r he hw h_ hn;replace hx:=hx.cK r hS he (mC h_);replace hy:=hy.cK r hS he (mC h_);replace Pj:=Pj.cK r (cG w) he (mC h_);replace Ov:=Ov.cK r (cG w) he (mC h_);have hp:=hn.dK (S:=FF) r.cI (mN h_);obtain⟨J0,J1,J2,J3,rfl⟩:=hp.shape;refine cE hw (fun _ w' v w2=>dU w2 (Nf w' w2) v (d)) (fun O w' r=>mI _ w' (by omega) (by omega)) ?_;rintro O Sw v7 Sz RO r he hw h_ hn;replace hx:=hx.cK r hS he (mC h_);replace hy:=hy.cK r hS he (mC h_);replace Pj:=Pj.cK r (cG w) he (mC h_);replace Ov:=Ov.cK r (cG w) he (mC h_);replace hp:=hp.cK r (cG w) he (mC h_);have hdd:=hn.dK (S:=FF) r.cI (mN h_);obtain⟨K0,K1,K2,K3,rfl⟩:=hdd.shape;refine cE hw (fun _ w' v w2=>dU w2 (Nf w' w2) v (R*65536+d)) (fun O w' r=>DU (Rel.old r (cG w)) ((hp.rel r (cG w)).l (k:=1000002) (by omega)) ((hdd.rel r (cG w)).l (k:=1000002) (by omega)) (by omega) (by omega)) ?_;rintro O S9 v8 Se RF r he hw h_ hn;replace hx:=hx.cK r hS he (mC h_);replace hy:=hy.cK r hS he (mC h_);replace Pj:=Pj.cK r (cG w) he (mC h_);replace Ov:=Ov.cK r (cG w) he (mC h_);have hr:=hn.dK (S:=FF) r.cI (mN h_);obtain⟨N0,N1,N2,N3,rfl⟩:=hr.shape;generalize QJ:R*65536+d=R2 at*
  have hR20:0<=R2:=by omega
  have hR21:R2<65536*B:=by omega
  refine⟨Nat×Nat×Nat×World×Iv,fun z=>⟨[(2,pP 0 0),(3,pP 1 0),(4,pP 2 0),(5,pP 3 0),(6,iZ 0),(7,sV aca ca.length cca),(8,pP 4 0),(9,.o (.w 6 Q.length)),(10,pP 5 0),(11,.o (.v (.int .i64 ((i:Int))))),(12,iN z.1),(13,iN z.2.2.1)],[(6,.vec T.int 1 (Q.map (Value.int .i64))),(5,.box T.Int [.v (.bool N0),.v (.slice N1 N2 N3)]),(4,.box T.Int [.v (.bool C0),.v (.slice C1 C2 C3)]),(3,.box T.Int [.v (.bool false),.v (.slice none 0 0)]),(2,.box T.Int [.v (.bool false),.v (.slice none 0 0)]),(1,.box T.Int [.v (.bool b2),.v (.slice a2 n2 c2)]),(0,.box T.Int [.v (.bool b1),.v (.slice a1 n1 c1)])],7,z.2.2.2.2,z.2.2.2.1⟩,fun z=>z.2.1,
   fun z=>z.2.2.1=2^z.2.1 / 2∧z.1+2^z.2.1<=65536∧((z.1:Nat):Int)*B<=R2∧R2<((z.1+2^z.2.1:Nat):Int)*B∧dg w.heap.size w z.2.2.2.1∧gB z.2.2.2.1 (Cv S w.heap.size z.2.2.2.2) (.agg #[.bool b1,.slice a1 n1 c1]) k x∧gB z.2.2.2.1 (Cv S w.heap.size z.2.2.2.2) (.agg #[.bool b2,.slice a2 n2 c2]) l y∧eM z.2.2.2.1 (Cf w z.2.2.2.2) (.slice aca ca.length cca) ca∧dU z.2.2.2.1 (Cf w z.2.2.2.2) (.agg #[.bool C0,.slice C1 C2 C3]) B∧dU z.2.2.2.1 (Cf w z.2.2.2.2) (.agg #[.bool N0,.slice N1 N2 N3]) R2,?_,?_⟩
  ·intro O w' r
   exact⟨(0,16,32768,w',RF),⟨by show 32768=2^16 / 2;decide,by show 0+2^16<=65536;decide,by dsimp only;omega,by dsimp only;rw[show ((0+2^16:Nat):Int)=65536 from rfl];exact hR21,hw.tr r.cS,hx.rel r hS,hy.rel r hS,Pj.rel r (cG w),Ov.rel r (cG w),hr.rel r (cG w)⟩,
    Sub.gn [] r⟩
  rintro⟨n,e,bit,w5,iv⟩ ⟨hn0,UC,RR,XA,hw,hx,hy,Pj,Ov,hr⟩;dsimp only at hn0 UC RR XA hw hx hy Pj Ov hr ⊢;refine dG.mk ?_ ?_<;>intro VW
  ·have VW:0<2^e / 2:=by have:((bit:Nat):Int)>0:=aH VW;omega
   obtain⟨f,rfl⟩:∃f,e=f+1:=by
    cases e with
    |zero=>exact absurd VW (by decide)
    |succ f=>exact⟨f,rfl⟩
   have e1:2^(f+1)=2*2^f:=by rw[Nat.pow_succ];omega
   have e2:2^(f+1) / 2=2^f:=by omega
   obtain rfl:bit=2^f:=by omega
   rw[e1]at UC XA;have hp0:=bz f;generalize hp:2^f=p at*
   have m4:=DV (n:=((n+p:Nat):Int)) (by omega) (by omega);have m5:=dI B ((n+p:Nat):Int);have m6:ln R2.natAbs<=l+1:=by
    refine aV (fk (b:=((65536:Int)*B).natAbs) (by omega)) ?_;have:=dI 65536 B;omega
   refine cO hτ dZ [.x 0,.x 1,.x 2,.x 3,.x 6,.x 4,.x 5,.x 7,.x 8] (by kernel_rfl) (by kernel_rfl) ?_;refine⟨((n+p:Nat):Int),wo,?_⟩;refine cE hw (fun _ w' v w2=>dU w2 (Nf w' w2) v (((n+p:Nat):Int))) (fun O w' r=>mI _ w' (by omega) (by omega)) ?_;rintro O RP v9 RY RD r he hw h_ hn;replace hx:=hx.cK r hS he (mC h_);replace hy:=hy.cK r hS he (mC h_);replace Pj:=Pj.cK r (cG w) he (mC h_);replace Ov:=Ov.cK r (cG w) he (mC h_);replace hr:=hr.cK r (cG w) he (mC h_);have hu:=hn.dK (S:=FF) r.cI (mN h_);obtain⟨O0,O1,O2,O3,rfl⟩:=hu.shape;refine cE hw (fun _ w' v w2=>dU w2 (Nf w' w2) v (B*((n+p:Nat):Int))) (fun O w' r=>jH (Rel.old r (cG w)) ((Ov.rel r (cG w)).l (k:=1000001) (by omega)) ((hu.rel r (cG w)).l (k:=1000001) (by omega)) (by omega) (by omega)) ?_;rintro O S1 v10 S2 QS r he hw h_ hn;replace hx:=hx.cK r hS he (mC h_);replace hy:=hy.cK r hS he (mC h_);replace Pj:=Pj.cK r (cG w) he (mC h_);replace Ov:=Ov.cK r (cG w) he (mC h_);replace hr:=hr.cK r (cG w) he (mC h_);have QQ:=hn.dK (S:=FF) r.cI (mN h_);obtain⟨P0,P1,P2,P3,rfl⟩:=QQ.shape;refine cE hw (fun _ w' v w2=>v= .int .i64 (B*((n+p:Nat):Int)-R2).sign) (fun O w' r=>NW (Rel.old r (cG w)) ((QQ.rel r (cG w)).l (k:=1000001) (by omega)) ((hr.rel r (cG w)).l (k:=1000001) (by omega)) (by omega) (by omega)) ?_;rintro O QP v11 QZ Pw r he hw h_ rfl;replace hx:=hx.cK r hS he (mC h_);replace hy:=hy.cK r hS he (mC h_);replace Pj:=Pj.cK r (cG w) he (mC h_);replace Ov:=Ov.cK r (cG w) he (mC h_);replace hr:=hr.cK r (cG w) he (mC h_);have hs:=gY (B*((n+p:Nat):Int)-R2);refine dG.mk ?_ ?_<;>intro hle
   ·have hle:=aH hle;have Wc:((n+p:Nat):Int)*B<=R2:=by rw[Int.mul_comm];omega
    refine⟨((n+p:Nat):Int),wo,by decide,((2^f / 2:Nat):Int),by rw[hp,show((p:Nat):Int).tdiv 2=((p / 2:Nat):Int)from rfl,wrap64]<;>omega,?_⟩;intro ρ3 w3 r3;exact⟨(n+p,f,2^f / 2,w3,_),⟨rfl,by dsimp only;omega,Wc,by dsimp only;rw[hp,show n+p+p=n+2*p by omega];exact XA,hw.tr r3.cS,hx.rel r3 hS,hy.rel r3 hS,Pj.rel r3 (cG w),Ov.rel r3 (cG w),hr.rel r3 (cG w)⟩,Sub.gn [] r3,by dsimp only;omega⟩
   have hle:=aG hle;have Wc:R2<((n+p:Nat):Int)*B:=by rw[Int.mul_comm];omega
   refine⟨by decide,((2^f / 2:Nat):Int),by rw[hp,show((p:Nat):Int).tdiv 2=((p / 2:Nat):Int)from rfl,wrap64]<;>omega,?_⟩;intro ρ3 w3 r3;exact⟨(n,f,2^f / 2,w3,_),⟨rfl,by dsimp only;omega,RR,by dsimp only;rw[hp];exact Wc,hw.tr r3.cS,hx.rel r3 hS,hy.rel r3 hS,Pj.rel r3 (cG w),Ov.rel r3 (cG w),hr.rel r3 (cG w)⟩,Sub.gn [] r3,by dsimp only;omega⟩
  have VW:¬0<2^e / 2:=by have:¬((bit:Nat):Int)>0:=aG VW;omega
  obtain rfl:e=0:=by
   cases e with
   |zero=>rfl
   |succ f=>exact absurd (show 0<2^(f+1) / 2 by rw[Nat.pow_succ];have:=bz f;omega) VW
  rw[show n+2^0=n+1 from rfl]at UC XA;rw[Int.natCast_add,Int.add_mul]at XA;rw[Int.mul_comm]at RR;rw[Int.mul_comm]at XA;have m4:=DV (n:=((n:Nat):Int)) (by omega) (by omega);have m5:=dI B ((n:Nat):Int);have m6:ln R2.natAbs<=l+1:=by
   refine aV (fk (b:=((65536:Int)*B).natAbs) (by omega)) ?_;have:=dI 65536 B;omega
  refine cO hτ dZ [.x 0,.x 1,.x 2,.x 3,.x 4,.x 5,.x 6] (by kernel_rfl) (by kernel_rfl) ?_;refine cE hw (fun _ w' v w2=>dU w2 (Nf w' w2) v (((n:Nat):Int))) (fun O w' r=>mI _ w' (by omega) (by omega)) ?_;rintro O RP v9 RY RD r he hw h_ hn;replace hx:=hx.cK r hS he (mC h_);replace hy:=hy.cK r hS he (mC h_);replace Pj:=Pj.cK r (cG w) he (mC h_);replace Ov:=Ov.cK r (cG w) he (mC h_);replace hr:=hr.cK r (cG w) he (mC h_);have hu:=hn.dK (S:=FF) r.cI (mN h_);obtain⟨O0,O1,O2,O3,rfl⟩:=hu.shape;refine cE hw (fun _ w' v w2=>dU w2 (Nf w' w2) v (B*((n:Nat):Int))) (fun O w' r=>jH (Rel.old r (cG w)) ((Ov.rel r (cG w)).l (k:=1000001) (by omega)) ((hu.rel r (cG w)).l (k:=1000001) (by omega)) (by omega) (by omega)) ?_;rintro O S1 v10 S2 QS r he hw h_ hn;replace hx:=hx.cK r hS he (mC h_);replace hy:=hy.cK r hS he (mC h_);replace Pj:=Pj.cK r (cG w) he (mC h_);replace Ov:=Ov.cK r (cG w) he (mC h_);replace hr:=hr.cK r (cG w) he (mC h_);have QQ:=hn.dK (S:=FF) r.cI (mN h_);obtain⟨P0,P1,P2,P3,rfl⟩:=QQ.shape;refine cE hw (fun _ w' v w2=>dU w2 (Nf w' w2) v (R2-B*((n:Nat):Int))) (fun O w' r=>Gy (Rel.old r (cG w)) ((hr.rel r (cG w)).l (k:=1000002) (by omega)) ((QQ.rel r (cG w)).l (k:=1000002) (by omega)) (by omega) (by omega)) ?_;rintro O QP v11 QZ Pw r he hw h_ hn;replace hx:=hx.cK r hS he (mC h_);replace hy:=hy.cK r hS he (mC h_);replace Pj:=Pj.cK r (cG w) he (mC h_);replace Ov:=Ov.cK r (cG w) he (mC h_);have hr3:=hn.dK (S:=FF) r.cI (mN h_);obtain⟨T0,T1,T2,T3,rfl⟩:=hr3.shape;generalize hR3:R2-B*((n:Nat):Int)=R3 at*
  refine .inl ?_;refine⟨by rw[aL,aY],fun u hu=>by obtain⟨_,_,rfl⟩:=aT.1 hu;rfl,rfl,by omega,by unfold maxLen;omega,(i:Int)-1,wo,?_⟩;intro ρ3 w3 r3;have Rx:dY (ca.drop i)=B*dY (((n:Nat):Int)::Q)+R3:=by
   rw[IJ R4,dY];exact MJ hv (by rw[<-hR3,<-QJ];omega)
  exact⟨(i,((n:Nat):Int)::Q,R3,(T0,T1,T2,T3),w3,_),⟨by dsimp only;omega,by dsimp only;rw[List.length_cons];omega,fun c hc=>by
    rcases List.mem_cons.1 hc with rfl|hc
    ·omega
    ·exact hd c hc,Rx,by dsimp only;omega,by dsimp only;omega,hw.tr r3.cS,hx.rel r3 hS,hy.rel r3 hS,Pj.rel r3 (cG w),Ov.rel r3 (cG w),hr3.rel r3 (cG w)⟩,
   Sub.gn [(6,8)] r3 (hE:=⟨rfl,rfl,rfl,rfl,rfl,rfl,rfl,by dsimp only;rw[show (((n:Nat):Int)::Q).length=1+Q.length by rw[List.length_cons,Nat.add_comm]];rfl,rfl,rfl,trivial⟩),by dsimp only;omega⟩
 obtain rfl:j=0:=by have:¬(j:Int)-1≥0:=aG OW;omega
 rw[List.drop_zero,bca.1]at hv;rw[<-hB]at hv VH;have key:=Nu QM hv hR0 VH;rw[hB]at key hv VH;have lq:ln (dY Q).natAbs<=k+1:=by
  have h1:=aDz hd;have h2:1*dY Q<=B*dY Q:=Int.mul_le_mul_of_nonneg_right (by omega) h1;exact aV (fk (b:=x.natAbs) (by omega)) (by omega)
 have lR:ln R.natAbs<=l:=aV (fk (by omega)) lB;have sx:=gY x;have sy:=gY y;have sr:=gY R;refine cH (cE hw (fun _ w' v w2=>dU w2 (Nf w' w2) v (dY Q)) (fun O w' r=>o0 r rfl rfl (by omega) (fun c hc=>by have:=hd c hc;omega) rfl) ?_);rintro O _ _ _ QT r he hw h_ hn;replace hx:=hx.cK r hS he (mC h_);replace hy:=hy.cK r hS he (mC h_);replace Ov:=Ov.cK r (cG w) he (mC h_);replace hr:=hr.cK r (cG w) he (mC h_);have hq:=hn.dK (S:=FF) r.cI (mN h_);obtain⟨F0,F1,F2,F3,rfl⟩:=hq.shape;refine cH (cE hw (fun _ w' v w2=>v= .int .i64 x.sign) (fun O w' r=>iH (Rel.old r hS) (hx.rel r hS).r) ?_);rintro O _ _ _ Qr r he hw h_ rfl;replace hx:=hx.cK r hS he (mC h_);replace hy:=hy.cK r hS he (mC h_);replace Ov:=Ov.cK r (cG w) he (mC h_);replace hr:=hr.cK r (cG w) he (mC h_);replace hq:=hq.cK r (cG w) he (mC h_);refine dG.mk ?_ ?_<;>intro hxs
 ·have hxs:=aH hxs;refine cH (cE hw (fun _ w' v w2=>v= .int .i64 R.sign) (fun O w' r=>iH (Rel.old r (cG w)) (hr.rel r (cG w)).r) ?_);rintro O Sw v7 Sz RO r he hw h_ rfl;replace hx:=hx.cK r hS he (mC h_);replace hy:=hy.cK r hS he (mC h_);replace Ov:=Ov.cK r (cG w) he (mC h_);replace hr:=hr.cK r (cG w) he (mC h_);replace hq:=hq.cK r (cG w) he (mC h_);refine dG.mk ?_ ?_<;>intro XC
  ·have XC:=aH XC;rw[if_pos (show x<0∧0<R by omega),if_pos (show x<0∧0<R by omega)]at key;have m7:=j6 (dY Q) 1;have m8:ln (1:Int).natAbs<=1:=by decide
   have m9:ln (B-R).natAbs<=l:=aV (fk (by omega)) lB;refine cO hτ dZ [.x 0,.x 3,.x 4,.x 1,.x 2,.x 5,.x 6,.x 7] (by kernel_rfl) (by kernel_rfl) ?_;refine cE hw (fun _ w' v w2=>dU w2 (Nf w' w2) v (1)) (fun O w' r=>mI _ w' (by omega) (by omega)) ?_;rintro O S9 v8 Se RF r he hw h_ hn;replace hx:=hx.cK r hS he (mC h_);replace hy:=hy.cK r hS he (mC h_);replace Ov:=Ov.cK r (cG w) he (mC h_);replace hr:=hr.cK r (cG w) he (mC h_);replace hq:=hq.cK r (cG w) he (mC h_);have hu:=hn.dK (S:=FF) r.cI (mN h_);obtain⟨N0,N1,N2,N3,rfl⟩:=hu.shape;refine cE hw (fun _ w' v w2=>dU w2 (Nf w' w2) v (dY Q+1)) (fun O w' r=>DU (Rel.old r (cG w)) ((hq.rel r (cG w)).l (k:=1000003) (by omega)) ((hu.rel r (cG w)).l (k:=1000003) (by omega)) (by omega) (by omega)) ?_;rintro O RP v9 RY RD r he hw h_ hn;replace hx:=hx.cK r hS he (mC h_);replace hy:=hy.cK r hS he (mC h_);replace Ov:=Ov.cK r (cG w) he (mC h_);replace hr:=hr.cK r (cG w) he (mC h_);have Q5:=hn.dK (S:=FF) r.cI (mN h_);obtain⟨O0,O1,O2,O3,rfl⟩:=Q5.shape;refine cE hw (fun _ w' v w2=>dU w2 (Nf w' w2) v (B-R)) (fun O w' r=>Gy (Rel.old r (cG w)) ((Ov.rel r (cG w)).l (k:=1000003) (by omega)) ((hr.rel r (cG w)).l (k:=1000003) (by omega)) (by omega) (by omega)) ?_;rintro O S1 v10 S2 QS r he hw h_ hn;replace hx:=hx.cK r hS he (mC h_);replace hy:=hy.cK r hS he (mC h_);replace Q5:=Q5.cK r (cG w) he (mC h_);have Sc:=hn.dK (S:=FF) r.cI (mN h_);obtain⟨P0,P1,P2,P3,rfl⟩:=Sc.shape;refine cO hτ dZ [.x 0,.x 3,.x 1,.x 2,.x 4,.x 5,.x 6] (by kernel_rfl) (by kernel_rfl) ?_;refine cE hw (fun _ w' v w2=>v= .int .i64 x.sign) (fun O w' r=>iH (Rel.old r hS) (hx.rel r hS).r) ?_;rintro O _ _ _ Pw r he hw h_ rfl;replace hy:=hy.cK r hS he (mC h_);replace Q5:=Q5.cK r (cG w) he (mC h_);replace Sc:=Sc.cK r (cG w) he (mC h_);refine cE hw (fun _ w' v w2=>v= .int .i64 y.sign) (fun O w' r=>iH (Rel.old r hS) (hy.rel r hS).r) ?_;rintro O _ _ _ WB r he hw h_ rfl;replace Q5:=Q5.cK r (cG w) he (mC h_);replace Sc:=Sc.cK r (cG w) he (mC h_);refine dG.mk ?_ ?_<;>intro OZ
   ·have hn:¬((x<0)↔(y<0)):=fun e=>by
     have e2:decide (x.sign<0)=decide (y.sign<0):=decide_eq_decide.2 (by omega);rw[e2]at OZ;simp at OZ
    rw[aK hn]at key;refine cH (cE hw (fun _ w' v w2=>dU w2 (Nf w' w2) v (-(dY Q+1))) (fun O w' r=>nM (Rel.old r (cG w)) ((Q5.rel r (cG w)).l (k:=1000003) (by omega)) (by omega)) ?_);rintro O _ _ _ UX r he hw h_ hn;replace Sc:=Sc.cK r (cG w) he (mC h_);have Tk:=hn.dK (S:=FF) r.cI (mN h_);obtain⟨U0,U1,U2,U3,rfl⟩:=Tk.shape;refine j0 hτ dZ (.two 0 (.two 1 (.one 2 (.one 3 (.one 4 .nil))) 2 (.one 1 (.one 3 (.one 4 .nil)))) 1 (.one 0 (.one 2 (.one 3 (.one 4 .nil))))) (by kernel_rfl) ?_;refine⟨?_,?_⟩
    ·refine⟨?_,?_⟩
     ·exact rtn hw fun ρe we re=>.inr ⟨QM,_,_,rfl,key.1▸Tk.out re (cG w),key.2▸Sc.out re (cG w)⟩
     ·exact rtn hw fun ρe we re=>.inr ⟨QM,_,_,rfl,key.1▸Tk.out re (cG w),key.2▸Sc.out re (cG w)⟩
    ·exact rtn hw fun ρe we re=>.inr ⟨QM,_,_,rfl,key.1▸Tk.out re (cG w),key.2▸Sc.out re (cG w)⟩
   have hn:(x<0)↔(y<0):=by
    have e2:decide (x.sign<0)=decide (y.sign<0):=by simpa using OZ
    have:=decide_eq_decide.1 e2;omega
   rw[if_pos hn]at key;refine j0 hτ dZ (.two 0 (.two 1 (.one 2 (.one 3 (.one 4 .nil))) 2 (.one 1 (.one 3 (.one 4 .nil)))) 1 (.one 0 (.one 2 (.one 3 (.one 4 .nil))))) (by kernel_rfl) ?_;refine⟨?_,?_⟩
   ·refine⟨?_,?_⟩
    ·exact rtn hw fun ρe we re=>.inr ⟨QM,_,_,rfl,key.1▸Q5.out re (cG w),key.2▸Sc.out re (cG w)⟩
    ·exact rtn hw fun ρe we re=>.inr ⟨QM,_,_,rfl,key.1▸Q5.out re (cG w),key.2▸Sc.out re (cG w)⟩
   ·exact rtn hw fun ρe we re=>.inr ⟨QM,_,_,rfl,key.1▸Q5.out re (cG w),key.2▸Sc.out re (cG w)⟩
  have XC:=aG XC;rw[aK (show ¬(x<0∧0<R) by omega),aK (show ¬(x<0∧0<R) by omega)]at key;refine cO hτ dZ [.x 0,.x 3,.x 1,.x 2,.x 4,.x 5,.x 6] (by kernel_rfl) (by kernel_rfl) ?_;refine cE hw (fun _ w' v w2=>v= .int .i64 x.sign) (fun O w' r=>iH (Rel.old r hS) (hx.rel r hS).r) ?_;rintro O S9 v8 Se RF r he hw h_ rfl;replace hy:=hy.cK r hS he (mC h_);replace Ov:=Ov.cK r (cG w) he (mC h_);replace hr:=hr.cK r (cG w) he (mC h_);replace hq:=hq.cK r (cG w) he (mC h_);refine cE hw (fun _ w' v w2=>v= .int .i64 y.sign) (fun O w' r=>iH (Rel.old r hS) (hy.rel r hS).r) ?_;rintro O RP v9 RY RD r he hw h_ rfl;replace Ov:=Ov.cK r (cG w) he (mC h_);replace hr:=hr.cK r (cG w) he (mC h_);replace hq:=hq.cK r (cG w) he (mC h_);refine dG.mk ?_ ?_<;>intro OZ
  ·have hn:¬((x<0)↔(y<0)):=fun e=>by
    have e2:decide (x.sign<0)=decide (y.sign<0):=decide_eq_decide.2 (by omega);rw[e2]at OZ;simp at OZ
   rw[aK hn]at key;refine cH (cE hw (fun _ w' v w2=>dU w2 (Nf w' w2) v (-(dY Q))) (fun O w' r=>nM (Rel.old r (cG w)) ((hq.rel r (cG w)).l (k:=1000003) (by omega)) (by omega)) ?_);rintro O _ _ _ QS r he hw h_ hn;replace Ov:=Ov.cK r (cG w) he (mC h_);replace hr:=hr.cK r (cG w) he (mC h_);have Tk:=hn.dK (S:=FF) r.cI (mN h_);obtain⟨P0,P1,P2,P3,rfl⟩:=Tk.shape;refine j0 hτ dZ (.two 0 (.two 1 (.one 2 (.one 3 (.one 4 .nil))) 2 (.one 1 (.one 3 (.one 4 .nil)))) 1 (.one 0 (.one 2 (.one 3 (.one 4 .nil))))) (by kernel_rfl) ?_;refine⟨?_,?_⟩
   ·refine⟨?_,?_⟩
    ·exact rtn hw fun ρe we re=>.inr ⟨QM,_,_,rfl,key.1▸Tk.out re (cG w),key.2▸hr.out re (cG w)⟩
    ·exact rtn hw fun ρe we re=>.inr ⟨QM,_,_,rfl,key.1▸Tk.out re (cG w),key.2▸hr.out re (cG w)⟩
   ·exact rtn hw fun ρe we re=>.inr ⟨QM,_,_,rfl,key.1▸Tk.out re (cG w),key.2▸hr.out re (cG w)⟩
  have hn:(x<0)↔(y<0):=by
   have e2:decide (x.sign<0)=decide (y.sign<0):=by simpa using OZ
   have:=decide_eq_decide.1 e2;omega
  rw[if_pos hn]at key;refine j0 hτ dZ (.two 0 (.two 1 (.one 2 (.one 3 (.one 4 .nil))) 2 (.one 1 (.one 3 (.one 4 .nil)))) 1 (.one 0 (.one 2 (.one 3 (.one 4 .nil))))) (by kernel_rfl) ?_;refine⟨?_,?_⟩
  ·refine⟨?_,?_⟩
   ·exact rtn hw fun ρe we re=>.inr ⟨QM,_,_,rfl,key.1▸hq.out re (cG w),key.2▸hr.out re (cG w)⟩
   ·exact rtn hw fun ρe we re=>.inr ⟨QM,_,_,rfl,key.1▸hq.out re (cG w),key.2▸hr.out re (cG w)⟩
  ·exact rtn hw fun ρe we re=>.inr ⟨QM,_,_,rfl,key.1▸hq.out re (cG w),key.2▸hr.out re (cG w)⟩
 have hxs:=aG hxs;rw[aK (show ¬(x<0∧0<R) by omega),aK (show ¬(x<0∧0<R) by omega)]at key;refine cO hτ dZ [.x 0,.x 3,.x 1,.x 2,.x 4,.x 5,.x 6] (by kernel_rfl) (by kernel_rfl) ?_;refine cE hw (fun _ w' v w2=>v= .int .i64 x.sign) (fun O w' r=>iH (Rel.old r hS) (hx.rel r hS).r) ?_;rintro O _ _ _ RO r he hw h_ rfl;replace hy:=hy.cK r hS he (mC h_);replace Ov:=Ov.cK r (cG w) he (mC h_);replace hr:=hr.cK r (cG w) he (mC h_);replace hq:=hq.cK r (cG w) he (mC h_);refine cE hw (fun _ w' v w2=>v= .int .i64 y.sign) (fun O w' r=>iH (Rel.old r hS) (hy.rel r hS).r) ?_;rintro O _ _ _ RF r he hw h_ rfl;replace Ov:=Ov.cK r (cG w) he (mC h_);replace hr:=hr.cK r (cG w) he (mC h_);replace hq:=hq.cK r (cG w) he (mC h_);refine dG.mk ?_ ?_<;>intro OZ
 ·have hn:¬((x<0)↔(y<0)):=fun e=>by
   have e2:decide (x.sign<0)=decide (y.sign<0):=decide_eq_decide.2 (by omega);rw[e2]at OZ;simp at OZ
  rw[aK hn]at key;refine cH (cE hw (fun _ w' v w2=>dU w2 (Nf w' w2) v (-(dY Q))) (fun O w' r=>nM (Rel.old r (cG w)) ((hq.rel r (cG w)).l (k:=1000003) (by omega)) (by omega)) ?_);rintro O _ _ _ RD r he hw h_ hn;replace Ov:=Ov.cK r (cG w) he (mC h_);replace hr:=hr.cK r (cG w) he (mC h_);have Tk:=hn.dK (S:=FF) r.cI (mN h_);obtain⟨O0,O1,O2,O3,rfl⟩:=Tk.shape;refine j0 hτ dZ (.two 0 (.two 1 (.one 2 (.one 3 (.one 4 .nil))) 2 (.one 1 (.one 3 (.one 4 .nil)))) 1 (.one 0 (.one 2 (.one 3 (.one 4 .nil))))) (by kernel_rfl) ?_;refine⟨?_,?_⟩
  ·refine⟨?_,?_⟩
   ·exact rtn hw fun ρe we re=>.inr ⟨QM,_,_,rfl,key.1▸Tk.out re (cG w),key.2▸hr.out re (cG w)⟩
   ·exact rtn hw fun ρe we re=>.inr ⟨QM,_,_,rfl,key.1▸Tk.out re (cG w),key.2▸hr.out re (cG w)⟩
  ·exact rtn hw fun ρe we re=>.inr ⟨QM,_,_,rfl,key.1▸Tk.out re (cG w),key.2▸hr.out re (cG w)⟩
 have hn:(x<0)↔(y<0):=by
  have e2:decide (x.sign<0)=decide (y.sign<0):=by simpa using OZ
  have:=decide_eq_decide.1 e2;omega
 rw[if_pos hn]at key;refine j0 hτ dZ (.two 0 (.two 1 (.one 2 (.one 3 (.one 4 .nil))) 2 (.one 1 (.one 3 (.one 4 .nil)))) 1 (.one 0 (.one 2 (.one 3 (.one 4 .nil))))) (by kernel_rfl) ?_;refine⟨?_,?_⟩
 ·refine⟨?_,?_⟩
  ·exact rtn hw fun ρe we re=>.inr ⟨QM,_,_,rfl,key.1▸hq.out re (cG w),key.2▸hr.out re (cG w)⟩
  ·exact rtn hw fun ρe we re=>.inr ⟨QM,_,_,rfl,key.1▸hq.out re (cG w),key.2▸hr.out re (cG w)⟩
 ·exact rtn hw fun ρe we re=>.inr ⟨QM,_,_,rfl,key.1▸hq.out re (cG w),key.2▸hr.out re (cG w)⟩
theorem jl{l:Nat}(hS:Old S w)(hx:gB w S v k x)(hy:gB w S u l y)(hk:k<=1000000)(hl:l<=1000000)(h0:y≠0):
  eA PG N.qB #[v,u] w (eL w fun v' w2=>∃q r,v'= .tuple #[q,r,.int .i64 0]∧dU w2 (Nf w w2) q (x / y)∧dU w2 (Nf w w2) r (x % y)):=
 (NY hS hx hy hk hl).mono fun _ _ ⟨v2,e1,e2,e3⟩=>⟨v2,e1,e2,e3.elim (fun h=>absurd h.1 h0) fun h=>h.2⟩
theorem aDQ(x:Nat){y:Nat}(h:y≠0):ln (Nat.gcd x y)<=ln y:=fk (Nat.le_of_dvd (by omega) (Nat.gcd_dvd_right x y))
theorem Ki{a b:Int}(hb:b≠0):a / (b.sign*(Nat.gcd a.natAbs b.natAbs:Nat))=(Rat.divInt a b).num∧b / (b.sign*(Nat.gcd a.natAbs b.natAbs:Nat))=((Rat.divInt a b).den:Int):=by
 obtain⟨h1,h2⟩:=FQ (a:=a) hb;have d1:((Nat.gcd a.natAbs b.natAbs:Nat):Int) ∣ a:=Int.ofNat_dvd_left.2 (Nat.gcd_dvd_left _ _);have d2:((Nat.gcd a.natAbs b.natAbs:Nat):Int) ∣ b:=Int.ofNat_dvd_left.2 (Nat.gcd_dvd_right _ _);have sg:b.sign=1∨b.sign= -1:=by rcases gY b with h|h|h<;>omega
 have key:∀c:Int,((Nat.gcd a.natAbs b.natAbs:Nat):Int) ∣ c->b.sign*(Nat.gcd a.natAbs b.natAbs:Nat) ∣ c:=fun c hc=>by
  rcases sg with h|h<;>rw[h]
  ·rw[Int.one_mul];exact hc
  ·rw[Int.neg_one_mul];exact Int.neg_dvd.2 hc
 rw[<-h1,<-h2,Int.tdiv_eq_ediv_of_dvd (key a d1),Int.tdiv_eq_ediv_of_dvd (key b d2)];exact⟨rfl,rfl⟩
theorem FU{l:Nat}(hS:Old S w)(hx:gB w S v k x)(hy:gB w S u l y)(hk:k<=1000000)(hl:l<=1000000):
  eA PG N.wy #[v,u] w (eL w fun v' w2=>dU w2 (Nf w w2) v' ((Nat.gcd x.natAbs y.natAbs:Nat):Int)):=by
 have hw:=bR w;replace hx:=hx.cL (S':=Cv S w.heap.size []) fun _ h=>.inl h;replace hy:=hy.cL (S':=Cv S w.heap.size []) fun _ h=>.inl h;obtain⟨b1,a1,n1,c1,rfl⟩:=hx.shape;obtain⟨b2,a2,n2,c2,rfl⟩:=hy.shape;refine AT (by simp) ?_;have PS:=hx.ln;have Qu:=hy.ln;refine cO hτ dZ [.x 0,.x 2,.x 1,.x 3,.x 4,.x 5] (by kernel_rfl) (by kernel_rfl) ?_;refine cE hw (fun _ w' v w2=>dU w2 (Nf w' w2) v ((x.natAbs:Int))) (fun O w' r=>BE (Rel.old r hS) (hx.rel r hS) (by omega)) ?_;rintro O _ _ _ Od r he hw h_ hn;clear hx;replace hy:=hy.cK r hS he (mC h_);have ha:=hn.dK (S:=FF) r.cI (mN h_);clear r;obtain⟨A0,A1,A2,A3,rfl⟩:=ha.shape;refine cE hw (fun _ w' v w2=>dU w2 (Nf w' w2) v ((y.natAbs:Int))) (fun O w' r=>BE (Rel.old r hS) (hy.rel r hS) (by omega)) ?_;rintro O _ _ _ Oa r he hw h_ hn;clear hy;replace ha:=ha.cK r (cG w) he (mC h_);have hc:=hn.dK (S:=FF) r.cI (mN h_);clear r;obtain⟨C0,C1,C2,C3,rfl⟩:=hc.shape
 refine⟨Nat×Nat×(Bool×Option Addr×Nat×Nat)×(Bool×Option Addr×Nat×Nat)×World×Iv,fun z=>⟨[(2,pP 0 0),(3,pP 1 0),(4,pP 2 0)],[(2,.box T.Int [.v (.bool false),.v (.slice none 0 0)]),(1,.box T.Int [.v (.bool z.2.2.2.1.1),.v (.slice z.2.2.2.1.2.1 z.2.2.2.1.2.2.1 z.2.2.2.1.2.2.2)]),(0,.box T.Int [.v (.bool z.2.2.1.1),.v (.slice z.2.2.1.2.1 z.2.2.1.2.2.1 z.2.2.1.2.2.2)])],3,z.2.2.2.2.2,z.2.2.2.2.1⟩,fun z=>z.2.1,
  fun z=>Nat.gcd z.1 z.2.1=Nat.gcd x.natAbs y.natAbs∧ln z.1<=1000000∧ln z.2.1<=1000000∧dg w.heap.size w z.2.2.2.2.1∧dU z.2.2.2.2.1 (Cf w z.2.2.2.2.2) (.agg #[.bool z.2.2.1.1,.slice z.2.2.1.2.1 z.2.2.1.2.2.1 z.2.2.1.2.2.2]) (z.1:Int)∧dU z.2.2.2.2.1 (Cf w z.2.2.2.2.2) (.agg #[.bool z.2.2.2.1.1,.slice z.2.2.2.1.2.1 z.2.2.2.1.2.2.1 z.2.2.2.1.2.2.2]) (z.2.1:Int),?_,?_⟩
 ·intro O w' r
  exact⟨(x.natAbs,y.natAbs,(A0,A1,A2,A3),(C0,C1,C2,C3),w',Oa),⟨rfl,by dsimp only;omega,by dsimp only;omega,hw.tr r.cS,ha.rel r (cG w),hc.rel r (cG w)⟩,
   Sub.gn [] r⟩
 clear hw ha hc;rintro⟨a,b,⟨ba,aa,na,ca⟩,⟨bb,ab,nb,cb⟩,w1,iv⟩ ⟨hg,Qa,PA,hw,ha,hc⟩;dsimp only at hg Qa PA hw ha hc ⊢;refine cH (cE hw (fun _ w' v w2=>v= .int .i64 (b:Int).sign) (fun O w' r=>iH (Rel.old r (cG w)) (hc.rel r (cG w)).r) ?_);rintro O _ _ _ Oj r he hw h_ rfl;replace ha:=ha.cK r (cG w) he (mC h_);replace hc:=hc.cK r (cG w) he (mC h_);clear r;have sb:=gY (b:Int);refine dG.mk ?_ ?_<;>intro h
 ·have h:=aH h;have hb0:0<b:=by omega
  have hm:=cD a hb0;have Ps:ln (a % b)<=1000000:=aV (fk (by omega)) PA;refine cH (cE hw (fun _ w' v w2=>∃q r,v= .tuple #[q,r,.int .i64 0]∧dU w2 (Nf w' w2) q ((a:Int) / b)∧dU w2 (Nf w' w2) r ((a:Int) % b)) (fun O w' r=>jl (Rel.old r (cG w)) ((ha.rel r (cG w)).l (k:=1000000) Qa) ((hc.rel r (cG w)).l (k:=1000000) PA) (by omega) (by omega) (by omega)) ?_);rintro O _ _ _ Oz r he hw h_ ⟨q,rr,rfl,k1,k2⟩;clear ha;replace hc:=hc.cK r (cG w) he (mC h_);have hq:=k1.dK (S:=FF) r.cI (mN h_);have hr:=k2.dK (S:=FF) r.cI (mN h_);clear r;obtain⟨s4_0a,s4_0b,s4_0c,s4_0d,rfl⟩:=hq.shape;obtain⟨s4_1a,s4_1b,s4_1c,s4_1d,rfl⟩:=hr.shape;clear k1 k2 hq;refine j0 hτ dZ (.two 0 (.two 1 (.one 2 (.one 3 .nil)) 2 (.one 1 (.one 3 .nil))) 1 (.one 0 (.one 2 (.one 3 .nil)))) (by kernel_rfl) ?_;refine⟨?_,?_⟩
  ·conv=>whnf
   refine⟨?_,?_⟩
   ·conv=>whnf
    intro ρ3 w3 r3;exact⟨(b,a % b,(bb,ab,nb,cb),(s4_1a,s4_1b,s4_1c,s4_1d),w3,_),⟨by dsimp only;rw[<-hg,Nat.gcd_comm a b,Nat.gcd_rec b a,Nat.gcd_comm],PA,Ps,hw.tr r3.cS,hc.rel r3 (cG w),hr.rel r3 (cG w)⟩,Sub.gn [] r3,hm⟩
   ·conv=>whnf
    intro ρ3 w3 r3;exact⟨(b,a % b,(bb,ab,nb,cb),(s4_1a,s4_1b,s4_1c,s4_1d),w3,_),⟨by dsimp only;rw[<-hg,Nat.gcd_comm a b,Nat.gcd_rec b a,Nat.gcd_comm],PA,Ps,hw.tr r3.cS,hc.rel r3 (cG w),hr.rel r3 (cG w)⟩,Sub.gn [] r3,hm⟩
  ·conv=>whnf
   intro ρ3 w3 r3;exact⟨(b,a % b,(bb,ab,nb,cb),(s4_1a,s4_1b,s4_1c,s4_1d),w3,_),⟨by dsimp only;rw[<-hg,Nat.gcd_comm a b,Nat.gcd_rec b a,Nat.gcd_comm],PA,Ps,hw.tr r3.cS,hc.rel r3 (cG w),hr.rel r3 (cG w)⟩,Sub.gn [] r3,hm⟩
 have h:=aG h;obtain rfl:b=0:=by omega
 rw[Nat.gcd_zero_right]at hg;subst hg;clear hc;exact rtn hw fun ρe we re=>ha.out re (cG w)
theorem lS{l:Nat}(hS:Old S w)(hx:gB w S v k x)(hy:gB w S u l y)(hk:k<=1000000)(hl:l<=1000000)(QM:y≠0):
  eA PG N.uo #[v,u] w (eL w fun v' w2=>cT w2 (Nf w w2) v' (Rat.divInt x y)):=by
 have hw:=bR w;replace hx:=hx.cL (S':=Cv S w.heap.size []) fun _ h=>.inl h;replace hy:=hy.cL (S':=Cv S w.heap.size []) fun _ h=>.inl h;obtain⟨b1,a1,n1,c1,rfl⟩:=hx.shape;obtain⟨b2,a2,n2,c2,rfl⟩:=hy.shape;refine uE (by simp) ?_;have PS:=hx.ln;have Qu:=hy.ln;have hlg:=aDQ x.natAbs (y:=y.natAbs) (by omega);obtain⟨hn,hd⟩:=Ki (a:=x) QM;have sy:=gY y
 refine cH (cE hw (fun _ w' v w2=>∃n p,v= .tuple #[.int .i64 n,.bool p]∧(p=true->n=x∧x.natAbs<1073741824)) (fun O w' r=>(pK (Rel.old r hS) (hx.rel r hS).r).mono fun e w2 ⟨v2,e1,e2,e3⟩=>⟨v2,e1,e2,by
   rw[e3,kh];split
   ·exact⟨_,_,rfl,fun _=>⟨rfl,‹_›⟩⟩
   ·exact⟨_,_,rfl,fun h=>by cases h⟩⟩) ?_)
 rintro O _ _ _ Od r he hw h_ ⟨nx,px,rfl,qx⟩;replace hx:=hx.cK r hS he (mC h_);replace hy:=hy.cK r hS he (mC h_);clear r
 refine cH (cE hw (fun _ w' v w2=>∃n p,v= .tuple #[.int .i64 n,.bool p]∧(p=true->n=y∧y.natAbs<1073741824)) (fun O w' r=>(pK (Rel.old r hS) (hy.rel r hS).r).mono fun e w2 ⟨v2,e1,e2,e3⟩=>⟨v2,e1,e2,by
   rw[e3,kh];split
   ·exact⟨_,_,rfl,fun _=>⟨rfl,‹_›⟩⟩
   ·exact⟨_,_,rfl,fun h=>by cases h⟩⟩) ?_)
 rintro O _ _ _ Oa r he hw h_ ⟨ny,py,rfl,qy⟩;replace hx:=hx.cK r hS he (mC h_);replace hy:=hy.cK r hS he (mC h_);clear r;refine dG.mk ?_ ?_<;>intro h1
 ·obtain⟨e1,hxs⟩:=qx h1;replace e1:=e1.symm;subst e1;refine dG.mk ?_ ?_<;>intro h2
  ·obtain⟨e2,hys⟩:=qy h2;replace e2:=e2.symm;subst e2;clear hx hy;refine cH (cE hw (fun _ w' v w2=>cT w2 (Nf w' w2) v (Rat.divInt x y)) (fun O w' r=>tS x y w' (by omega) (by omega) QM) ?_);rintro O Pg v3 Pc Oj r he hw h_ hn;have hR:=hn.dK (S:=FF) r.cI (mN h_);clear r hn;obtain⟨A0,A1,A2,A3,A4,A5,A6,A7,rfl⟩:=hR.shape;exact rtn hw fun ρe we re=>hR.out re (cG w)
  refine cH (cE hw (fun _ w' v w2=>dU w2 (Nf w' w2) v (((Nat.gcd x.natAbs y.natAbs:Nat):Int))) (fun O w' r=>FU (Rel.old r hS) (hx.rel r hS) (hy.rel r hS) hk hl) ?_);rintro O Pg v3 Pc Oj r he hw h_ hn;replace hx:=hx.cK r hS he (mC h_);replace hy:=hy.cK r hS he (mC h_);have hg:=hn.dK (S:=FF) r.cI (mN h_);clear r hn;obtain⟨A0,A1,A2,A3,rfl⟩:=hg.shape;refine cH (cE hw (fun _ w' v w2=>v= .int .i64 y.sign) (fun O w' r=>iH (Rel.old r hS) (hy.rel r hS).r) ?_);rintro O Qh v4 Q6 Oz r he hw h_ rfl;replace hx:=hx.cK r hS he (mC h_);replace hy:=hy.cK r hS he (mC h_);replace hg:=hg.cK r (cG w) he (mC h_);clear r;have hgp:0<Nat.gcd x.natAbs y.natAbs:=bw _ (by omega);generalize Nat.gcd x.natAbs y.natAbs=g at*
  refine dG.mk ?_ ?_<;>intro hs
  ·have hs:=aH hs;rw[show y.sign= -1 by omega,Int.neg_one_mul]at hn hd;refine cH (cE hw (fun _ w' v w2=>dU w2 (Nf w' w2) v (-(g:Int))) (fun O w' r=>nM (Rel.old r (cG w)) ((hg.rel r (cG w)).l (k:=1000000) (by rw[Int.natAbs_natCast];omega)) (by omega)) ?_);rintro O Rz v5 Rs QT r he hw h_ hn;replace hx:=hx.cK r hS he (mC h_);replace hy:=hy.cK r hS he (mC h_);clear hg;have SJ:=hn.dK (S:=FF) r.cI (mN h_);clear r hn;obtain⟨C0,C1,C2,C3,rfl⟩:=SJ.shape;refine cH (cE hw (fun _ w' v w2=>∃q r,v= .tuple #[q,r,.int .i64 0]∧dU w2 (Nf w' w2) q (Rat.divInt x y).num∧dU w2 (Nf w' w2) r (x % (-(g:Int)))) (fun O w' r=>hn▸jl (Rel.old r hS) (hx.rel r hS) ((((SJ.rel r (cG w)).l (k:=1000000) (by rw[cF,Int.natAbs_natCast];omega))).cL fun g hg=>Cv.false hg) hk (by omega) (by omega)) ?_);rintro O R5 v6 RX Qr r he hw h_ ⟨q,rr,rfl,k1,k2⟩;clear hx;replace hy:=hy.cK r hS he (mC h_);replace SJ:=SJ.cK r (cG w) he (mC h_);have hq:=k1.dK (S:=FF) r.cI (mN h_);have hr:=k2.dK (S:=FF) r.cI (mN h_);clear r;obtain⟨s6_0a,s6_0b,s6_0c,s6_0d,rfl⟩:=hq.shape;obtain⟨s6_1a,s6_1b,s6_1c,s6_1d,rfl⟩:=hr.shape;clear k1 k2 hr;refine cH (cE hw (fun _ w' v w2=>∃q r,v= .tuple #[q,r,.int .i64 0]∧dU w2 (Nf w' w2) q ((Rat.divInt x y).den:Int)∧dU w2 (Nf w' w2) r (y % (-(g:Int)))) (fun O w' r=>hd▸jl (Rel.old r hS) (hy.rel r hS) ((((SJ.rel r (cG w)).l (k:=1000000) (by rw[cF,Int.natAbs_natCast];omega))).cL fun g hg=>Cv.false hg) hl (by omega) (by omega)) ?_);rintro O Sw v7 Sz RO r he hw h_ ⟨q,rr,rfl,k1,k2⟩;clear hy;clear SJ;replace hq:=hq.cK r (cG w) he (mC h_);have Q5:=k1.dK (S:=FF) r.cI (mN h_);have hr:=k2.dK (S:=FF) r.cI (mN h_);clear r;obtain⟨s7_0a,s7_0b,s7_0c,s7_0d,rfl⟩:=Q5.shape;obtain⟨s7_1a,s7_1b,s7_1c,s7_1d,rfl⟩:=hr.shape;clear k1 k2 hr;exact rtn hw fun ρe we re=>(cT.of hq Q5).out re (cG w)
  have hs:=aG hs;rw[show y.sign=1 by omega,Int.one_mul]at hn hd;refine cH (cE hw (fun _ w' v w2=>∃q r,v= .tuple #[q,r,.int .i64 0]∧dU w2 (Nf w' w2) q (Rat.divInt x y).num∧dU w2 (Nf w' w2) r (x % ((g:Int)))) (fun O w' r=>hn▸jl (Rel.old r hS) (hx.rel r hS) ((((hg.rel r (cG w)).l (k:=1000000) (by rw[Int.natAbs_natCast];omega))).cL fun g hg=>Cv.false hg) hk (by omega) (by omega)) ?_);rintro O Rz v5 Rs QT r he hw h_ ⟨q,rr,rfl,k1,k2⟩;clear hx;replace hy:=hy.cK r hS he (mC h_);replace hg:=hg.cK r (cG w) he (mC h_);have hq:=k1.dK (S:=FF) r.cI (mN h_);have hr:=k2.dK (S:=FF) r.cI (mN h_);clear r;obtain⟨s5_0a,s5_0b,s5_0c,s5_0d,rfl⟩:=hq.shape;obtain⟨s5_1a,s5_1b,s5_1c,s5_1d,rfl⟩:=hr.shape;clear k1 k2 hr;refine cH (cE hw (fun _ w' v w2=>∃q r,v= .tuple #[q,r,.int .i64 0]∧dU w2 (Nf w' w2) q ((Rat.divInt x y).den:Int)∧dU w2 (Nf w' w2) r (y % ((g:Int)))) (fun O w' r=>hd▸jl (Rel.old r hS) (hy.rel r hS) ((((hg.rel r (cG w)).l (k:=1000000) (by rw[Int.natAbs_natCast];omega))).cL fun g hg=>Cv.false hg) hl (by omega) (by omega)) ?_);rintro O R5 v6 RX Qr r he hw h_ ⟨q,rr,rfl,k1,k2⟩;clear hy;clear hg;replace hq:=hq.cK r (cG w) he (mC h_);have Q5:=k1.dK (S:=FF) r.cI (mN h_);have hr:=k2.dK (S:=FF) r.cI (mN h_);clear r;obtain⟨s6_0a,s6_0b,s6_0c,s6_0d,rfl⟩:=Q5.shape;obtain⟨s6_1a,s6_1b,s6_1c,s6_1d,rfl⟩:=hr.shape;clear k1 k2 hr;exact rtn hw fun ρe we re=>(cT.of hq Q5).out re (cG w)
 refine cH (cE hw (fun _ w' v w2=>dU w2 (Nf w' w2) v (((Nat.gcd x.natAbs y.natAbs:Nat):Int))) (fun O w' r=>FU (Rel.old r hS) (hx.rel r hS) (hy.rel r hS) hk hl) ?_);rintro O _ _ _ Oj r he hw h_ hn;replace hx:=hx.cK r hS he (mC h_);replace hy:=hy.cK r hS he (mC h_);have hg:=hn.dK (S:=FF) r.cI (mN h_);clear r hn;obtain⟨A0,A1,A2,A3,rfl⟩:=hg.shape;refine cH (cE hw (fun _ w' v w2=>v= .int .i64 y.sign) (fun O w' r=>iH (Rel.old r hS) (hy.rel r hS).r) ?_);rintro O _ _ _ Oz r he hw h_ rfl;replace hx:=hx.cK r hS he (mC h_);replace hy:=hy.cK r hS he (mC h_);replace hg:=hg.cK r (cG w) he (mC h_);clear r;have hgp:0<Nat.gcd x.natAbs y.natAbs:=bw _ (by omega);generalize Nat.gcd x.natAbs y.natAbs=g at*
 refine dG.mk ?_ ?_<;>intro hs
 ·have hs:=aH hs;rw[show y.sign= -1 by omega,Int.neg_one_mul]at hn hd;refine cH (cE hw (fun _ w' v w2=>dU w2 (Nf w' w2) v (-(g:Int))) (fun O w' r=>nM (Rel.old r (cG w)) ((hg.rel r (cG w)).l (k:=1000000) (by rw[Int.natAbs_natCast];omega)) (by omega)) ?_);rintro O Rz v5 Rs QT r he hw h_ hn;replace hx:=hx.cK r hS he (mC h_);replace hy:=hy.cK r hS he (mC h_);clear hg;have SJ:=hn.dK (S:=FF) r.cI (mN h_);clear r hn;obtain⟨C0,C1,C2,C3,rfl⟩:=SJ.shape;refine cH (cE hw (fun _ w' v w2=>∃q r,v= .tuple #[q,r,.int .i64 0]∧dU w2 (Nf w' w2) q (Rat.divInt x y).num∧dU w2 (Nf w' w2) r (x % (-(g:Int)))) (fun O w' r=>hn▸jl (Rel.old r hS) (hx.rel r hS) ((((SJ.rel r (cG w)).l (k:=1000000) (by rw[cF,Int.natAbs_natCast];omega))).cL fun g hg=>Cv.false hg) hk (by omega) (by omega)) ?_);rintro O R5 v6 RX Qr r he hw h_ ⟨q,rr,rfl,k1,k2⟩;clear hx;replace hy:=hy.cK r hS he (mC h_);replace SJ:=SJ.cK r (cG w) he (mC h_);have hq:=k1.dK (S:=FF) r.cI (mN h_);have hr:=k2.dK (S:=FF) r.cI (mN h_);clear r;obtain⟨s6_0a,s6_0b,s6_0c,s6_0d,rfl⟩:=hq.shape;obtain⟨s6_1a,s6_1b,s6_1c,s6_1d,rfl⟩:=hr.shape;clear k1 k2 hr;refine cH (cE hw (fun _ w' v w2=>∃q r,v= .tuple #[q,r,.int .i64 0]∧dU w2 (Nf w' w2) q ((Rat.divInt x y).den:Int)∧dU w2 (Nf w' w2) r (y % (-(g:Int)))) (fun O w' r=>hd▸jl (Rel.old r hS) (hy.rel r hS) ((((SJ.rel r (cG w)).l (k:=1000000) (by rw[cF,Int.natAbs_natCast];omega))).cL fun g hg=>Cv.false hg) hl (by omega) (by omega)) ?_);rintro O _ _ _ RO r he hw h_ ⟨q,rr,rfl,k1,k2⟩;clear hy;clear SJ;replace hq:=hq.cK r (cG w) he (mC h_);have Q5:=k1.dK (S:=FF) r.cI (mN h_);have hr:=k2.dK (S:=FF) r.cI (mN h_);clear r;obtain⟨s7_0a,s7_0b,s7_0c,s7_0d,rfl⟩:=Q5.shape;obtain⟨s7_1a,s7_1b,s7_1c,s7_1d,rfl⟩:=hr.shape;clear k1 k2 hr;exact rtn hw fun ρe we re=>(cT.of hq Q5).out re (cG w)
 have hs:=aG hs;rw[show y.sign=1 by omega,Int.one_mul]at hn hd;refine cH (cE hw (fun _ w' v w2=>∃q r,v= .tuple #[q,r,.int .i64 0]∧dU w2 (Nf w' w2) q (Rat.divInt x y).num∧dU w2 (Nf w' w2) r (x % ((g:Int)))) (fun O w' r=>hn▸jl (Rel.old r hS) (hx.rel r hS) ((((hg.rel r (cG w)).l (k:=1000000) (by rw[Int.natAbs_natCast];omega))).cL fun g hg=>Cv.false hg) hk (by omega) (by omega)) ?_);rintro O _ _ _ QT r he hw h_ ⟨q,rr,rfl,k1,k2⟩;clear hx;replace hy:=hy.cK r hS he (mC h_);replace hg:=hg.cK r (cG w) he (mC h_);have hq:=k1.dK (S:=FF) r.cI (mN h_);have hr:=k2.dK (S:=FF) r.cI (mN h_);clear r;obtain⟨s5_0a,s5_0b,s5_0c,s5_0d,rfl⟩:=hq.shape;obtain⟨s5_1a,s5_1b,s5_1c,s5_1d,rfl⟩:=hr.shape;clear k1 k2 hr;refine cH (cE hw (fun _ w' v w2=>∃q r,v= .tuple #[q,r,.int .i64 0]∧dU w2 (Nf w' w2) q ((Rat.divInt x y).den:Int)∧dU w2 (Nf w' w2) r (y % ((g:Int)))) (fun O w' r=>hd▸jl (Rel.old r hS) (hy.rel r hS) ((((hg.rel r (cG w)).l (k:=1000000) (by rw[Int.natAbs_natCast];omega))).cL fun g hg=>Cv.false hg) hl (by omega) (by omega)) ?_);rintro O _ _ _ Qr r he hw h_ ⟨q,rr,rfl,k1,k2⟩;clear hy;clear hg;replace hq:=hq.cK r (cG w) he (mC h_);have Q5:=k1.dK (S:=FF) r.cI (mN h_);have hr:=k2.dK (S:=FF) r.cI (mN h_);clear r;obtain⟨s6_0a,s6_0b,s6_0c,s6_0d,rfl⟩:=Q5.shape;obtain⟨s6_1a,s6_1b,s6_1c,s6_1d,rfl⟩:=hr.shape;clear k1 k2 hr;exact rtn hw fun ρe we re=>(cT.of hq Q5).out re (cG w)
end Go.Ex
