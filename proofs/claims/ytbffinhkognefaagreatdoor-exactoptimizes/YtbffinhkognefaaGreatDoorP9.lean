/- Texts X56 to X62: lemmas, each with its conditions. -/
import Derived.Test.YtbffinhkognefaaGreatDoorP8
namespace Go.Ex
open Go Go.Sx Go.Proofs
variable{ks:List (Head×Head)}{S:Nat->Prop}{v:Value}{w:World}
def yA:List (Head×Head)->List Value
 |[]=>[]
 |k::r=>.bool k.1.1:: .slice k.1.2.1 k.1.2.2.1 k.1.2.2.2:: .bool k.2.1:: .slice k.2.2.1 k.2.2.2.1 k.2.2.2.2::yA r
theorem CC:∀{ks:List (Head×Head)} {i:Nat} {k:Head×Head},ks[i]? =some k->(yA ks)[i*4+1]? =some (.slice k.1.2.1 k.1.2.2.1 k.1.2.2.2)/\(yA ks)[i*4+3]? =some (.slice k.2.2.1 k.2.2.2.1 k.2.2.2.2)
 |[],i,k,h=>by simp at h
 |k0::r,0,k,h=>by injection h with h;subst h;exact⟨rfl,rfl⟩
 |k0::r,i+1,k,h=>by
  have:=CC (ks:=r) (i:=i) (k:=k) (by simpa using h);rw[show (i+1)*4+1=(i*4+1)+4 by omega,show(i+1)*4+3=(i*4+3)+4 by omega];exact this
theorem CD(ad:Addr)(i j:Nat):(ad.add i).add j=ad.add (i+j):=by
 unfold Addr.add;split<;>split<;>simp_all<;>omega
theorem xJ(W:Old S w)(h:fe w S 4 v (yA ks) ks.length):
  eL PG FS.sJ #[v] w (eY w fun v' _=>v'= .bool (decide (∀k∈ks,k.1.2.2.1<=3/\k.2.2.2.1<=3))):=by
 obtain⟨h0,Y,I,a,c,rfl,h3,h4⟩:=h;unfold maxLen at h0;refine BH ce ?_;conv=>whnf
 refine⟨Nat×World,fun z=>⟨[(0,sV a ks.length c),(3,iZ z.1)],[],0,[],z.2⟩,fun z=>ks.length-z.1,
  fun z=>z.1<=ks.length/\Bq w z.2/\∀k∈ks.take z.1,k.1.2.2.1<=3/\k.2.2.2.1<=3,?_,?_⟩
 .intro O J r;exact⟨(0,J),⟨ce,r.cj,ce⟩,sbgn [] r⟩
 rintro⟨i,w1⟩ ⟨N,G,ht⟩;dsimp only at N G ht ⊢;conv=>whnf
 apply bS<;>intro Pk
 .have Pk:=dL Pk;obtain⟨k,R⟩:=gO ks i;obtain⟨g1,g2⟩:=CC R;obtain⟨ad,rfl,q1,q2⟩:=h4 _ _ g1;obtain⟨ad2,e2,q3,q4⟩:=h4 _ _ g2;injection e2 with e2;subst e2;have Rt:∀{H nx iv O J} (j:Nat) (u:Value),w.cell? (ad.add (i*4+j))=some u->Rel H nx iv w.heap.size w1 O J->J.cell? (ad.add ((i:Int).toNat*4+j))=some u:=fun{H nx iv O J} j u hu r=>by
   rw[aK,cd (w:=w) (F:=J) (by rw[df];exact(G.tr r.cj).block _ (W _ q1))];exact hu
  conv=>whnf
  refine⟨ad,rfl,be,?_⟩;conv=>whnf
  refine⟨.slice k.1.2.1 k.1.2.2.1 k.1.2.2.2,fun O J r=>?_,?_⟩
  .simp only[CD];exact Rt 1 _ q2 r
  conv=>whnf
  apply bS<;>intro V
  .have V:3<k.1.2.2.1:=by
    have:=aJ V;omega
   conv=>whnf
   intro O F r;refine⟨_,rfl,G.tr r.cj,?_⟩;rw[bI (fun e=>by have:=(e k (aG R)).1;omega)];rfl
  have V:k.1.2.2.1<=3:=by
   have:=aL V;omega
  conv=>whnf
  refine⟨ad,rfl,be,?_⟩;conv=>whnf
  refine⟨.slice k.2.2.1 k.2.2.2.1 k.2.2.2.2,fun O J r=>?_,?_⟩
  .simp only[CD];exact Rt 3 _ q4 r
  conv=>whnf
  apply bS<;>intro RF
  .have RF:3<k.2.2.2.1:=by
    have:=aJ RF;omega
   conv=>whnf
   intro O F r;refine⟨_,rfl,G.tr r.cj,?_⟩;rw[bI (fun e=>by have:=(e k (aG R)).2;omega)];rfl
  have RF:k.2.2.2.1<=3:=by
   have:=aL RF;omega
  have WW:∀k∈ks.take (i+1),k.1.2.2.1<=3/\k.2.2.2.1<=3:=fun k' h'=>by
   rw[bM,R]at h';rcases bB.1 h' with h'|h'
   .exact ht k' h'
   .simp at h';rw[h'];exact⟨V,RF⟩
  conv=>whnf
  refine inc i ?_;conv=>whnf
  intro I8 w3 r3;exact⟨(i+1,w3),⟨Pk,G.tr r3.cj,WW⟩,sbgn [] r3,dec Pk⟩
 have Pk:i=ks.length:=by
  have:¬i<ks.length:=by simpa using Pk
  omega
 subst Pk;rw[bK]at ht;conv=>whnf
 intro O F r;exact⟨_,rfl,G.tr r.cj,by rw[bg ht];rfl⟩
def aA1(w:World)(S:Nat->Prop)(v:Value)(q:Rat):Prop:=∃a b,ky w S v a b/\ratio a b=q/\ln a.natAbs<=100000/\ln b.natAbs<=100000
theorem aA1.shape{q:Rat}(h:aA1 w S v q):∃b a n c b2 a2 n2 c2,v= .agg #[.bool b,.slice a n c,.bool b2,.slice a2 n2 c2]:=by
 obtain⟨a,b,Y,_⟩:=h;exact Y.shape
theorem oA(q:Rat):ratio q.num q.den=q:=by rw[ratio,aI (gg q),Rat.num_divInt_den]
section
variable{S S':Nat->Prop}{H:Hp}{nx:Nat}{iv K:Iv}{B:Nat}{w J F:World}{O:Nat->Sx.eH}{v:Value}{q:Rat}
end
end Go.Ex
namespace Go.Ex
theorem PY(q:Rat):rs (-q)= -rs q:=by rw[rs,rs,Rat.neg_num,Int.sign_neg]
end Go.Ex
namespace Go.Ex
open Go Go.Sx Go.Proofs
variable{b:Bool}{x z:Int}{cs:List Int}{ls:List Nat}{n:Nat}{S:Nat->Prop}{lv v:Value}{w:World}
def fg(w:World)(S:Nat->Prop)(v:Value)(k:Nat)(z:Int):Prop:=∃neg ls,wv w S v neg ls/\sg neg (val ls)=z/\ls.length<=k
theorem fg.cX{F:World}{k:Nat}(h:fg w S v k z)(R:∀g,S g->F.heap[g]? =w.heap[g]?):fg F S v k z:=by
 obtain⟨n,l,Y,I⟩:=h;exact⟨n,l,Y.cX R,I⟩
theorem fg.cV{S':Nat->Prop}{k:Nat}(h:fg w S v k z)(R:∀g,S g->S' g):fg w S' v k z:=by
 obtain⟨n,l,Y,I⟩:=h;exact⟨n,l,Y.cV R,I⟩
theorem fg.r{k:Nat}(h:fg w S v k z):jg w S v z:=by
 obtain⟨n,l,Y,I,_⟩:=h;exact⟨n,l,Y,I⟩
theorem fg.up{k k':Nat}(h:fg w S v k z)(R:k<=k'):fg w S v k' z:=by
 obtain⟨n,l,Y,I,h3⟩:=h;exact⟨n,l,Y,I,be⟩
theorem fg.shape{k:Nat}(h:fg w S v k z):∃b a n c,v= .agg #[.bool b,.slice a n c]:=h.r.shape
theorem dX.l{k:Nat}(h:dX w S v z)(R:ln z.natAbs<=k):fg w S v k z:=by
 obtain⟨l,Y,I,h3⟩:=h;obtain⟨_,_,hl⟩:=Y;have:=eJ hl.lm I;rw[h3]at this;exact⟨_,l,⟨_,‹_›,hl⟩,by rw[h3,Da],be⟩
section
variable{S S':Nat->Prop}{H:Hp}{nx:Nat}{iv K:Iv}{B:Nat}{w J F:World}{O:Nat->Sx.eH}{v:Value}{k:Nat}{z:Int}
theorem fg.rel(h:fg w (Cv S B iv) v k z)(r:Rel H nx iv B w O J)(W:∀g,S g->g<B):fg J (Cv S B iv) v k z:=h.cX fun _ V=>rls r W V
theorem fg.cS(h:fg w (Cv S B iv) v k z)(r:Rel H nx iv B w O J)(W:∀g,S g->g<B)(L:Ext J F)(hm:∀p,p∈iv->p∈K):fg F (Cv S B K) v k z:=
 ((h.rel r W).cX fun g V=>L.block g (rlo r W g V)).cV fun _ V=>V.mono hm
end
section
variable{S S':Nat->Prop}{H:Hp}{nx:Nat}{iv K:Iv}{B:Nat}{w J F:World}{O:Nat->Sx.eH}{v:Value}{cs:List Int}
theorem eQ.rel(h:eQ w (Cv S B iv) v cs)(r:Rel H nx iv B w O J)(W:∀g,S g->g<B):eQ J (Cv S B iv) v cs:=eQ.cX h fun _ V=>rls r W V
theorem eQ.cS(h:eQ w (Cv S B iv) v cs)(r:Rel H nx iv B w O J)(W:∀g,S g->g<B)(L:Ext J F)(hm:∀p,p∈iv->p∈K):eQ F (Cv S B K) v cs:=
 (eQ.cX (h.rel r W) fun g V=>L.block g (rlo r W g V)).cV fun _ V=>V.mono hm
theorem eQ.ep(h:eQ F (Nf J F) v cs)(hB:B<=J.heap.size)(hm:(J.heap.size,F.heap.size)∈iv):eQ F (Cv S B iv) v cs:=eQ.cV h fun _ V=>V.ep hB hm
end
def sgn(b:Bool):Int:=if b then -1 else 1
theorem aA0(b:Bool):sgn b=1\/sgn b= -1:=by cases b<;>simp[sgn]
theorem Ol(b:Bool)(n:Nat):sgn b*(n:Int)=sg b n:=by cases b<;>simp[sgn,sg]
theorem Ie{neg:Bool}(W:Old S w)(h:wv w S v neg ls)(hl:ls.length<=40000000):
  eL PG FS.ot #[v] w (eY w fun v' F=>eQ F (Nf w F) v' (eW (sgn neg) ls)):=by
 obtain⟨lv,rfl,hL⟩:=h;have Qj:=hL.lm;obtain⟨a,c,rfl,hc,QA⟩:=hL.sl;refine xh ce ?_
 cases neg with
 |true=>
  refine⟨Nat×World,fun z=>⟨[(1,pP 0 0),(3,.o (.v (iV (-1)))),(4,.o (.w 1 (2*z.1))),(5,iZ z.1)],[(1,.vec T.int 1 ((eW (-1) (ls.take z.1)).map (Value.int .i64))),(0,.box T.Int [.v (.bool true),.v (.slice a ls.length c)])],2,[],z.2⟩,fun z=>ls.length-z.1,
   fun z=>Bq w z.2/\z.1<=ls.length,?_,?_⟩
  .intro O J r
   exact⟨(0,J),⟨r.cj,ce⟩,Sub.nil 4 T.int 1 rfl (by simp[jn,SV.sc,At.sc,fu]) r fun I9 r1=>
    sbgn [] r1⟩
  rintro⟨i,w1⟩ ⟨G,N⟩;dsimp only at G N ⊢;have Tn:((eW (-1) (ls.take i)).map (Value.int .i64)).length=2*i:=by rw[aO,jJ,bN];omega
  apply bS<;>intro h
  .have h:=dL h;obtain⟨x,E⟩:=gO ls i;have Rk:=Qj x (aG E);obtain⟨ad,rfl,q1,q2⟩:=QA i x E;have VX:eW (-1) (ls.take (i+1))=eW (-1) (ls.take i)++[(-1)*((x % 65536:Nat):Int),(-1)*((x / 65536:Nat):Int)]:=by rw[bM,E,Option.toList_some,qt];rfl
   refine⟨ad,rfl,be,.int .u32 x,fun O J r=>?_,?_⟩
   .rw[aK,av];exact gN W G r q1 q2
   refine⟨(x:Int),wo,bv,((x % 65536:Nat):Int),rfl,(-1)*((x % 65536:Nat):Int),wo,bv,((x / 65536:Nat):Int),by rw[show (x:Int).tdiv 65536=((x / 65536:Nat):Int)from rfl,wrap64]<;>omega,(-1)*((x / 65536:Nat):Int),wo,?_⟩;refine .inl ?_;refine⟨by rw[Tn,av],be,mx,((i+1:Nat):Int),wo,?_⟩;intro I8 w3 r3;have Um:(eW (-1) (ls.take (i+1))).map (Value.int .i64)=(eW (-1) (ls.take i)).map (Value.int .i64)++[iV ((-1)*((x % 65536:Nat):Int)),iV ((-1)*((x / 65536:Nat):Int))]:=by
    rw[VX];simp
   exact⟨(i+1,w3),⟨G.tr r3.cj,by dsimp only;omega⟩,sbgn [(1,3)] r3 ⟨by dsimp only;rw[Um];rfl,rfl,trivial⟩,by dsimp only;omega⟩
  have h:i=ls.length:=by
   have:¬i<ls.length:=by simpa using h
   omega
  subst h;rw[bK]at Tn ⊢;intro GE we re;have Pm:=re.FA (id:=1) (m:=2*ls.length) rfl (by rw[Tn,av]) bv;have TZ:=th Pm (by rw[jJ]) mx;refine⟨_,rfl,G.tr re.cj,eQ.cV TZ fun g V=>.inr ?_⟩;have:=ownsRow.low Pm g V;exact this
 |false=>
  refine⟨Nat×World,fun z=>⟨[(1,pP 0 0),(3,.o (.v (iV (1)))),(4,.o (.w 1 (2*z.1))),(5,iZ z.1)],[(1,.vec T.int 1 ((eW (1) (ls.take z.1)).map (Value.int .i64))),(0,.box T.Int [.v (.bool false),.v (.slice a ls.length c)])],2,[],z.2⟩,fun z=>ls.length-z.1,
   fun z=>Bq w z.2/\z.1<=ls.length,?_,?_⟩
  .intro O J r
   exact⟨(0,J),⟨r.cj,ce⟩,Sub.nil 4 T.int 1 rfl (by simp[jn,SV.sc,At.sc,fu]) r fun I9 r1=>
    sbgn [] r1⟩
  rintro⟨i,w1⟩ ⟨G,N⟩;dsimp only at G N ⊢;have Tn:((eW (1) (ls.take i)).map (Value.int .i64)).length=2*i:=by rw[aO,jJ,bN];omega
  apply bS<;>intro h
  .have h:=dL h;obtain⟨x,E⟩:=gO ls i;have Rk:=Qj x (aG E);obtain⟨ad,rfl,q1,q2⟩:=QA i x E;have VX:eW (1) (ls.take (i+1))=eW (1) (ls.take i)++[(1)*((x % 65536:Nat):Int),(1)*((x / 65536:Nat):Int)]:=by rw[bM,E,Option.toList_some,qt];rfl
   refine⟨ad,rfl,be,.int .u32 x,fun O J r=>?_,?_⟩
   .rw[aK,av];exact gN W G r q1 q2
   refine⟨(x:Int),wo,bv,((x % 65536:Nat):Int),rfl,(1)*((x % 65536:Nat):Int),wo,bv,((x / 65536:Nat):Int),by rw[show (x:Int).tdiv 65536=((x / 65536:Nat):Int)from rfl,wrap64]<;>omega,(1)*((x / 65536:Nat):Int),wo,?_⟩;refine .inl ?_;refine⟨by rw[Tn,av],be,mx,((i+1:Nat):Int),wo,?_⟩;intro I8 w3 r3;have Um:(eW (1) (ls.take (i+1))).map (Value.int .i64)=(eW (1) (ls.take i)).map (Value.int .i64)++[iV ((1)*((x % 65536:Nat):Int)),iV ((1)*((x / 65536:Nat):Int))]:=by
    rw[VX];simp
   exact⟨(i+1,w3),⟨G.tr r3.cj,by dsimp only;omega⟩,sbgn [(1,3)] r3 ⟨by dsimp only;rw[Um];rfl,rfl,trivial⟩,by dsimp only;omega⟩
  have h:i=ls.length:=by
   have:¬i<ls.length:=by simpa using h
   omega
  subst h;rw[bK]at Tn ⊢;intro GE we re;have Pm:=re.FA (id:=1) (m:=2*ls.length) rfl (by rw[Tn,av]) bv;have TZ:=th Pm (by rw[jJ]) mx;refine⟨_,rfl,G.tr re.cj,eQ.cV TZ fun g V=>.inr ?_⟩;have:=ownsRow.low Pm g V;exact this
def Cm(cs:List Int)(n:Nat)(z:Int):Prop:=dw cs=z/\cs.length<=n/\(∀c∈cs,-65535<=c/\c<=65535)/\(0<=z->∀c∈cs,0<=c)
theorem Cn(s:Int)(h:val ls=0):∀c∈eW s ls,c=0:=fun c hc=>by
 induction ls with
 |nil=>cases hc
 |cons l r ih=>
  have h:l+4294967296*val r=0:=h;have Y:l=0:=by omega
  have I:val r=0:=by omega
  subst Y;rw[eW]at hc;rcases List.mem_cons.1 hc with rfl|hc
  .simp
  rcases List.mem_cons.1 hc with rfl|hc
  .simp
  .exact ih I hc
theorem fg.B8{k:Nat}(h:fg w S v k z):∃b a ls c,v= .agg #[.bool b,.slice a ls.length c]/\dZ w S (.slice a ls.length c) ls/\sg b (val ls)=z/\ls.length<=k:=by
 obtain⟨b,ls,⟨lv,rfl,hl⟩,hz,R⟩:=h;obtain⟨a,c,rfl,_⟩:=hl.sl;exact⟨b,a,ls,c,rfl,hl,hz,R⟩
theorem fg.ln{k:Nat}(h:fg w S v k z):ln z.natAbs<=k:=by
 obtain⟨b,a,ls,c,_,hl,hz,R⟩:=h.B8;rw[<-hz,ow];exact NN hl.lm R
theorem fg.neg{k:Nat}(h:fg w S (.agg #[.bool b,lv]) k z):fg w S (.agg #[.bool (!b),lv]) k (-z):=by
 obtain⟨b,ls,⟨lv,e,hl⟩,hz,R⟩:=h;simp only[Value.agg.injEq,Array.mk.injEq,List.cons.injEq,Value.bool.injEq,and_true]at e;obtain⟨rfl,rfl⟩:=e;refine⟨_,ls,⟨_,rfl,hl⟩,?_,R⟩;rw[<-hz]
 cases b<;>simp[sg]
theorem fg.abs{k:Nat}(h:fg w S (.agg #[.bool b,lv]) k z):fg w S (.agg #[.bool false,lv]) k (z.natAbs:Int):=by
 obtain⟨b,ls,⟨lv,e,hl⟩,hz,R⟩:=h;simp only[Value.agg.injEq,Array.mk.injEq,List.cons.injEq,Value.bool.injEq,and_true]at e;obtain⟨rfl,rfl⟩:=e;exact⟨_,ls,⟨_,rfl,hl⟩,by rw[<-hz,ow];rfl,R⟩
theorem tk{k:Nat}(W:Old S w)(h:fg w S v k z)(R:k<=40000000):
  eL PG FS.ot #[v] w (eY w fun v' F=>∃cs,eQ F (Nf w F) v' cs/\Cm cs (2*k) z):=by
 obtain⟨b,ls,N,hz,hl⟩:=h;have Qj:Lm ls:=by obtain⟨_,_,h⟩:=N;exact h.lm
 refine(Ie W N be).mono fun _ F ⟨v2,e1,e2,e3⟩=>⟨v2,e1,e2,_,e3,by rw[EW,Ol,hz],by rw[jJ];omega,As (aA0 b) Qj,fun h0=>?_⟩
 cases b with
 |false=>exact fun c hc=>(yv Qj c hc).1
 |true=>
  rw[K7]at hz;exact fun c hc=>by rw[Cn _ (show val ls=0 by omega) c hc];decide
theorem Ig(W:Old S w)(h:eQ w S v cs)(A:Cm cs n z)(U:n<=100000000):
  eL PG FS.lW #[v] w (eY w fun v' F=>dX F (Nf w F) v' z):=by
 have:=xz W h (fun c hc=>by have:=A.2.2.1 c hc;omega) (by have:=A.2.1;omega);rw[A.1]at this;exact this
theorem NP{k:Nat}(W:Old S w)(E:fg w S v k x)(R:k<=40000000):
  eL PG FS.D6 #[v] w (eY w fun v' F=>dX F (Nf w F) v' x):=by
 have G:=bR w;replace E:=E.cV (S':=Cv S w.heap.size []) fun _ h=>.inl h;obtain⟨b1,a1,n1,c1,rfl⟩:=E.shape;refine Ee ce ?_;refine cW (cE G (fun _ J v F=>∃cs,eQ F (Nf J F) v cs/\Cm cs (2*k) (x)) (fun O J r=>tk (rlo r W) (E.rel r W) be) ?_);rintro O _ _ _ Pv r L G h_ ⟨cs,k1,bcs⟩;have hc:=k1.cV (nw r h_);obtain⟨acs,ccs,rfl,lcs⟩:=hc.shape;refine cW (cE G (pR dX (x)) (fun O J r=>Ig (rlo r oF) (hc.rel r oF) bcs be) ?_);rintro O _ _ _ iv2 r L G h_ U;have hC:=U.cV (nw r h_);obtain⟨A0,A1,A2,A3,rfl⟩:=hC.shape;exact rtn G fun GE we re=>hC.out re oF
theorem oC{k:Nat}(W:Old S w)(E:fg w S v k x)(R:k<=40000000):
  eL PG FS.yT #[v] w (eY w fun v' F=>dX F (Nf w F) v' (-x)):=by
 have G:=bR w;replace E:=E.cV (S':=Cv S w.heap.size []) fun _ h=>.inl h;obtain⟨b1,a1,n1,c1,rfl⟩:=E.shape;replace E:=E.neg;refine BN ce ?_;refine cW (cE G (pR dX (-x)) (fun O J r=>NP (rlo r W) (E.rel r W) R) ?_);rintro O _ _ _ Pv r L G h_ U;have hC:=U.cV (nw r h_);obtain⟨A0,A1,A2,A3,rfl⟩:=hC.shape;exact rtn G fun GE we re=>hC.out re oF
theorem zh{k:Nat}(W:Old S w)(E:fg w S v k x)(R:k<=40000000):
  eL PG FS.BB #[v] w (eY w fun v' F=>dX F (Nf w F) v' ((x.natAbs:Int))):=by
 have G:=bR w;replace E:=E.cV (S':=Cv S w.heap.size []) fun _ h=>.inl h;obtain⟨b1,a1,n1,c1,rfl⟩:=E.shape;replace E:=E.abs;refine Cb ce ?_;refine cW (cE G (pR dX ((x.natAbs:Int))) (fun O J r=>NP (rlo r W) (E.rel r W) R) ?_);rintro O _ _ _ Pv r L G h_ U;have hC:=U.cV (nw r h_);obtain⟨A0,A1,A2,A3,rfl⟩:=hC.shape;exact rtn G fun GE we re=>hC.out re oF
theorem PO{i:Nat}(W:Old S w)(h:eQ w S v cs):
  eL PG FS.GW #[v,iV i] w (eY w fun v' _=>v'=iV (cs.getD i 0)):=by
 obtain⟨a,c,rfl,hc⟩:=h.shape;refine Ga ce ?_;apply bS<;>intro N
 .have N:=dL N;obtain⟨x,E⟩:=gO cs i;obtain⟨ad,rfl,q1,q2⟩:=h.load E;refine⟨ad,rfl,be,iV x,fun O J r=>?_,?_⟩
  .rw[aK];exact gN W Bel.refl r q1 q2
  intro O F r;exact⟨_,rfl,r.cj,by rw[List.getD,E];rfl⟩
 .have N:cs.length<=i:=by
   have:¬i<cs.length:=by simpa using N
   omega
  intro O F r;exact⟨_,rfl,r.cj,by rw[List.getD,List.getElem?_eq_none N];rfl⟩
theorem val_zero(h:∀x∈ls,x=0):val ls=0:=by
 induction ls with
 |nil=>rfl
 |cons l r ih=>rw[val,h l aF,ih fun x E=>h x (aD _ E)]
theorem Om{x:Nat}(h:x∈ls)(E:x≠0):0<val ls:=by
 induction ls with
 |nil=>cases h
 |cons l r ih=>
  rw[val];rcases List.mem_cons.1 h with rfl|h
  .omega
  .have:=ih h;omega
theorem iM(W:Old S w)(E:jg w S v x):
  eL PG FS.Az #[v] w (eY w fun v' _=>v'=iV x.sign):=by
 obtain⟨b,ls,⟨lv,rfl,Y⟩,hz⟩:=E;obtain⟨a,c,rfl,_,ha⟩:=Y.sl;have hle1:=Y.le;refine CY ce ?_
 refine⟨Nat×World,fun z=>⟨[(1,pP 0 0),(3,iZ z.1)],[(0,.box T.Int [.v (.bool b),.v (.slice a ls.length c)])],1,[],z.2⟩,fun z=>ls.length-z.1,
  fun z=>z.1<=ls.length/\Bq w z.2/\∀x∈ls.take z.1,x=0,?_,?_⟩
 .intro O J r;exact⟨(0,J),⟨ce,r.cj,ce⟩,sbgn [] r⟩
 rintro⟨i,w1⟩ ⟨N,G,ht⟩;dsimp only at N G ht ⊢;apply bS<;>intro Pk
 .have Pk:=dL Pk;obtain⟨y,hy⟩:=gO ls i;obtain⟨ad,rfl,q1,q2⟩:=ha i y hy;refine⟨ad,rfl,be,.int .u32 y,fun O J r=>by rw[aK,av];exact gN W G r q1 q2,?_⟩;apply bS<;>intro Po
  .have Po:y≠0:=fun h=>by rw[h]at Po;simp at Po
   have hp:=Om (aG hy) Po
   cases b with
   |true=>
    rw[K7]at hz;intro O F r;exact⟨_,rfl,G.tr r.cj,by rw[cH be];rfl⟩
   |false=>
    rw[aAE]at hz;intro O F r;exact⟨_,rfl,G.tr r.cj,by rw[cK be];rfl⟩
  have Po:y=0:=by simpa using Po
  subst Po;have WW:∀x∈ls.take (i+1),x=0:=fun x E=>by
   rw[bM,hy]at E;rcases bB.1 E with E|E
   .exact ht x E
   .simpa using E
  refine inc i ?_;intro I8 w3 r3;exact⟨(i+1,w3),⟨Pk,G.tr r3.cj,WW⟩,sbgn [] r3,dec Pk⟩
 have Pk:i=ls.length:=by
  have:¬i<ls.length:=by simpa using Pk
  omega
 subst Pk;rw[bK]at ht;intro O F r;refine⟨_,rfl,G.tr r.cj,?_⟩;rw[<-hz,val_zero ht]
 cases b<;>rfl
theorem Cm.at(h:Cm cs n z)(i:Nat): -65535<=cs.getD i 0/\cs.getD i 0<=65535:=by
 rw[List.getD]
 cases hj:cs[i]? with
 |none=>simp
 |some d=>exact h.2.2.1 d (aG hj)
end Go.Ex
namespace Go.Sx
open Go Go.Ex Go.Proofs
variable{cs:List Int}{O:Nat->Sx.eH}
theorem Rel.On{H:Hp}{nx:Nat}{iv:Iv}{B:Nat}{w J:World}(r:Rel H nx iv B w O J){id m:Nat}(h:dV H id=some (.vec T.int 1 (cs.map (Value.int .i64))))(hm:m=cs.length)(hl:m<=maxLen):
  ∃S',Old S' J/\eQ J S' ((SV.o (.w id m)).den O) cs:=by
 have Pm:=r.FA (m:=m) h (by rw[aO,hm,av]) bv;exact⟨_,fun g V=>(ownsRow.low Pm g V).2,th Pm hm hl⟩
end Go.Sx
namespace Go.Ex
open Go Go.Sx Go.Proofs
section
variable{x y:Int}{cs:List Int}{S:Nat->Prop}{O:Nat->Sx.eH}{u v:Value}{w:World}
theorem pC{H:Hp}{nx:Nat}{iv:Iv}{B:Nat}{J:World}(r:Rel H nx iv B w O J){id m:Nat}{z:Int}(h:dV H id=some (.vec T.int 1 (cs.map (Value.int .i64))))(hm:m=cs.length)(hl:m<=100000000)
  (A:∀c∈cs,-1152921504606846976<=c/\c<=1152921504606846976) (hz:dw cs=z):eL PG FS.lW #[(SV.o (.w id m)).den O] J (eY J fun v' F=>dX F (Nf J F) v' z):=by
 subst hz;obtain⟨S',Y,I⟩:=r.On h hm mx;exact xz Y I A be
theorem CE{k l:Nat}(W:Old S w)(E:fg w S v k x)(hy:fg w S u l y)(R:k<=10000000)(hl:l<=10000000):
  eL PG FS.D7 #[v,u] w (eY w fun v' F=>dX F (Nf w F) v' (x+y)):=by
 have G:=bR w;replace E:=E.cV (S':=Cv S w.heap.size []) fun _ h=>.inl h;replace hy:=hy.cV (S':=Cv S w.heap.size []) fun _ h=>.inl h;obtain⟨b1,a1,n1,c1,rfl⟩:=E.shape;obtain⟨b2,a2,n2,c2,rfl⟩:=hy.shape;refine Ef ce ?_;refine dP [.x 0,.x 2,.x 1,.x 3,.x 4,.x 5] ?_;refine cE G (fun _ J v F=>∃cs,eQ F (Nf J F) v cs/\Cm cs (2*k) (x)) (fun O J r=>tk (rlo r W) (E.rel r W) be) ?_;rintro O _ _ _ Pv r L G h_ ⟨ca,k1,bca⟩;replace hy:=hy.cS r W L (mC h_);have Qi:=k1.cV (nw r h_);obtain⟨aca,cca,rfl,lca⟩:=Qi.shape;refine cE G (fun _ J v F=>∃cs,eQ F (Nf J F) v cs/\Cm cs (2*l) (y)) (fun O J r=>tk (rlo r W) (hy.rel r W) be) ?_;rintro O _ _ _ iv2 r L G h_ ⟨cb,k1,bcb⟩;replace Qi:=Qi.cS r oF L (mC h_);have RK:=k1.cV (nw r h_);obtain⟨acb,ccb,rfl,lcb⟩:=RK.shape
 refine⟨Nat×World×Iv,fun z=>⟨[(4,pP 2 0),(5,sV aca ca.length cca),(6,sV acb cb.length ccb),(7,.o (.w 3 z.1)),(8,iZ z.1)],[(3,.vec T.int 1 (((List.range z.1).map fun j=>ca.getD j 0+cb.getD j 0).map (Value.int .i64))),(2,.box T.Int [.v (.bool false),.v nls])],4,z.2.2,z.2.1⟩,fun z=>max ca.length cb.length-z.1,
  fun z=>z.1<=max ca.length cb.length/\Bq w z.2.1/\eQ z.2.1 (Cf w z.2.2) (.slice aca ca.length cca) ca/\eQ z.2.1 (Cf w z.2.2) (.slice acb cb.length ccb) cb,?_,?_⟩
 .intro O J r
  exact⟨(0,J,iv2),⟨ce,G.tr r.cj,Qi.rel r oF,RK.rel r oF⟩,Sub.nil 7 T.int 1 rfl (by simp[jn,SV.sc,At.sc,fu]) r fun I9 r1=>
   sbgn [] r1⟩
 rintro⟨i,w1,iv⟩ ⟨N,G,Qi,RK⟩;dsimp only at N G Qi RK ⊢;have l1:=bca.2.1;have l2:=bcb.2.1;apply bS<;>intro Pk
 .have Pk:i<max ca.length cb.length:=by
   have:=aJ Pk;omega
  have q1:=bca.at i;have q2:=bcb.at i;refine cW (cE G (pE (iV (ca.getD i 0))) (fun O J r=>PO (rlo r oF) (Qi.rel r oF)) ?_);rintro O Qo v3 Qc Pu r L G h_ rfl;replace Qi:=Qi.cS r oF L (mC h_);replace RK:=RK.cS r oF L (mC h_);refine cW (cE G (pE (iV (cb.getD i 0))) (fun O J r=>PO (rlo r oF) (RK.rel r oF)) ?_);rintro O _ _ _ QD r L G h_ rfl;replace Qi:=Qi.cS r oF L (mC h_);replace RK:=RK.cS r oF L (mC h_);refine⟨ca.getD i 0+cb.getD i 0,wo,?_⟩;refine .inl ?_;refine⟨ce,be,mx,((i+1:Nat):Int),wo,?_⟩;intro I8 w3 r3;have Um:((List.range (i+1)).map fun j=>ca.getD j 0+cb.getD j 0).map (Value.int .i64)=((List.range i).map fun j=>ca.getD j 0+cb.getD j 0).map (Value.int .i64)++[iV (ca.getD i 0+cb.getD i 0)]:=by
   rw[bz,bw,bw];rfl
  exact⟨(i+1,w3,_),⟨Pk,G.tr r3.cj,Qi.rel r3 oF,RK.rel r3 oF⟩,sbgn [(3,5)] r3 ⟨by dsimp only;rw[Um];rfl,rfl,trivial⟩,dec Pk⟩
 have Pk:i=max ca.length cb.length:=by
  have:=aL Pk;omega
 generalize Q4:((List.range i).map fun j=>ca.getD j 0+cb.getD j 0)=cs;have hz:dw cs=x+y:=by
  rw[<-Q4,Aq,Ar,sF ca i be,sF cb i be,bca.1,bcb.1]
 have hlen:i=cs.length:=by rw[<-Q4];simp
 have TH:∀c∈cs,-1152921504606846976<=c/\c<=1152921504606846976:=fun c hc=>by
  rw[<-Q4]at hc;obtain⟨j,_,rfl⟩:=bE.1 hc;have:=bca.at j;have:=bcb.at j;omega
 refine cW (cE G (pR dX (x+y)) (fun O J r=>pC r rfl hlen be TH hz) ?_);rintro O _ _ _ Pu r L G h_ U;have hC:=U.cV (nw r h_);obtain⟨A0,A1,A2,A3,rfl⟩:=hC.shape;exact rtn G fun GE we re=>hC.out re oF
theorem FC{k l:Nat}(W:Old S w)(E:fg w S v k x)(hy:fg w S u l y)(R:k<=10000000)(hl:l<=10000000):
  eL PG FS.BC #[v,u] w (eY w fun v' F=>dX F (Nf w F) v' (x-y)):=by
 have R9:=hy.ln;have G:=bR w;replace E:=E.cV (S':=Cv S w.heap.size []) fun _ h=>.inl h;replace hy:=hy.cV (S':=Cv S w.heap.size []) fun _ h=>.inl h;obtain⟨b1,a1,n1,c1,rfl⟩:=E.shape;obtain⟨b2,a2,n2,c2,rfl⟩:=hy.shape;refine Cc ce ?_;refine dP (idO 5) ?_;refine cE G (pR dX (-y)) (fun O J r=>oC (rlo r W) (hy.rel r W) be) ?_;rintro O _ _ _ Pv r L G h_ U;replace E:=E.cS r W L (mC h_);have hm:=U.cV (nw r h_);obtain⟨A0,A1,A2,A3,rfl⟩:=hm.shape;refine cE G (pR dX (x-y)) (fun O J r=>?_) ?_
 .have h:=CE (rlo r W) (E.rel r W) (((hm.rel r oF).l (k:=l) (by rw[cQ];exact R9)).cV fun g V=>Cv.false V) R hl;rw[<-Int.sub_eq_add_neg]at h;exact h
 rintro O _ _ _ iv2 r L G h_ U;have hC:=U.cV (nw r h_);obtain⟨C0,C1,C2,C3,rfl⟩:=hC.shape;exact rtn G fun GE we re=>hC.out re oF
theorem LH{k l:Nat}(W:Old S w)(E:fg w S v k x)(hy:fg w S u l y)(R:k<=10000000)(hl:l<=10000000):
  eL PG FS.wY #[v,u] w (eY w fun v' _=>v'=iV (x-y).sign):=by
 have G:=bR w;replace E:=E.cV (S':=Cv S w.heap.size []) fun _ h=>.inl h;replace hy:=hy.cV (S':=Cv S w.heap.size []) fun _ h=>.inl h;obtain⟨b1,a1,n1,c1,rfl⟩:=E.shape;obtain⟨b2,a2,n2,c2,rfl⟩:=hy.shape;refine zM ce ?_;refine cW (cE G (pR dX (x-y)) (fun O J r=>FC (rlo r W) (E.rel r W) (hy.rel r W) R hl) ?_);rintro O _ _ _ Pv r L G h_ U;have hd:=U.cV (nw r h_);obtain⟨A0,A1,A2,A3,rfl⟩:=hd.shape;refine cW (cE G (pE (iV (x-y).sign)) (fun O J r=>iM (rlo r oF) (hd.rel r oF).r) ?_);rintro O _ _ _ iv2 r L G h_ rfl;exact rtn G fun GE we re=>rfl
end
variable{S:Nat->Prop}
theorem LI{x y:Int}(E: -65535<=x/\x<=65535)(hy: -65535<=y/\y<=65535):(x*y).natAbs<=4294836225:=by
 rw[Int.natAbs_mul];exact Nat.mul_le_mul (show x.natAbs<=65535 by omega) (show y.natAbs<=65535 by omega)
theorem Dq{a b:List Int}{i k:Nat}(R:k<=i+1)(h:i<k\/a.length<=k):jR a b i k=gj a b i:=by
 rcases h with h|h
 .rw[gj,show i+1=k by omega]
 .obtain⟨m,hm⟩:∃m,i+1=k+m:=⟨i+1-k,be⟩
  rw[gj,hm,Hv a b i k m h]
theorem jF{w:World}{v u:Value}{k l:Nat}{x y:Int}(W:Old S w)(E:fg w S v k x)(hy:fg w S u l y)(R:k<=10000000)(hl:l<=10000000):
  eL PG FS.BA #[v,u] w (eY w fun v' F=>dX F (Nf w F) v' (x*y)):=by
 have G:=bR w;replace E:=E.cV (S':=Cv S w.heap.size []) fun _ h=>.inl h;replace hy:=hy.cV (S':=Cv S w.heap.size []) fun _ h=>.inl h;obtain⟨b1,a1,n1,c1,rfl⟩:=E.shape;obtain⟨b2,a2,n2,c2,rfl⟩:=hy.shape;refine CZ ce ?_;refine dP [.x 0,.x 2,.x 1,.x 3,.x 4,.x 5] ?_;refine cE G (fun _ J v F=>∃cs,eQ F (Nf J F) v cs/\Cm cs (2*k) (x)) (fun O J r=>tk (rlo r W) (E.rel r W) be) ?_;rintro O _ _ _ Pv r L G h_ ⟨ca,k1,bca⟩;replace hy:=hy.cS r W L (mC h_);have Qi:=k1.cV (nw r h_);obtain⟨aca,cca,rfl,lca⟩:=Qi.shape;refine cE G (fun _ J v F=>∃cs,eQ F (Nf J F) v cs/\Cm cs (2*l) (y)) (fun O J r=>tk (rlo r W) (hy.rel r W) be) ?_;rintro O _ _ _ iv2 r L G h_ ⟨cb,k1,bcb⟩;replace Qi:=Qi.cS r oF L (mC h_);have RK:=k1.cV (nw r h_);obtain⟨acb,ccb,rfl,lcb⟩:=RK.shape;have l1:=bca.2.1;have l2:=bcb.2.1
 refine⟨Nat×World,fun z=>⟨[(4,pP 2 0),(5,sV aca ca.length cca),(6,sV acb cb.length ccb),(7,.o (.w 3 z.1)),(8,iN z.1)],[(3,.vec T.int 1 (((List.range z.1).map (gj ca cb)).map (Value.int .i64))),(2,.box T.Int [.v (.bool false),.v nls])],4,iv2,z.2⟩,fun z=>ca.length+cb.length-z.1,
  fun z=>(z.1+1<=ca.length+cb.length\/z.1=0)/\Bq w z.2/\eQ z.2 (Cf w iv2) (.slice aca ca.length cca) ca/\eQ z.2 (Cf w iv2) (.slice acb cb.length ccb) cb,?_,?_⟩
 .intro O J r
  exact⟨(0,J),⟨ce,G.tr r.cj,Qi.rel r oF,RK.rel r oF⟩,Sub.nil 7 T.int 1 rfl (by simp[jn,SV.sc,At.sc,fu]) r fun I9 r1=>
   sbgn [] r1⟩
 rintro⟨i,w1⟩ ⟨N,G,Qi,RK⟩;dsimp only at N G Qi RK ⊢;refine⟨((i+1:Nat):Int),wo,((ca.length+cb.length:Nat):Int),wo,?_⟩;apply bS<;>intro Pk
 .have Pk:i+1<ca.length+cb.length:=by
   have:=aJ Pk;omega
  refine⟨(i:Int)-cb.length,wo,(i:Int)-cb.length+1,wo,?_⟩;conv=>whnf
  rw[show max 0 ((i:Int)-cb.length+1)=((i+1-cb.length:Nat):Int) by omega];obtain⟨k0,TE⟩:∃k0,k0=i+1-cb.length:=⟨_,rfl⟩
  rw[<-TE]
  refine⟨Nat×World,fun z=>⟨[(4,pP 2 0),(5,sV aca ca.length cca),(6,sV acb cb.length ccb),(7,.o (.w 3 i)),(8,iN i),(9,.o (.v (iV (jR ca cb i z.1)))),(10,iN z.1)],[(3,.vec T.int 1 (((List.range i).map (gj ca cb)).map (Value.int .i64))),(2,.box T.Int [.v (.bool false),.v nls])],4,iv2,z.2⟩,fun z=>i+1-z.1,
   fun z=>k0<=z.1/\z.1<=i+1/\Bq w z.2/\eQ z.2 (Cf w iv2) (.slice aca ca.length cca) ca/\eQ z.2 (Cf w iv2) (.slice acb cb.length ccb) cb,?_,?_⟩
  .intro O J r;refine⟨(k0,J),⟨ce,by dsimp only;omega,G.tr r.cj,Qi.rel r oF,RK.rel r oF⟩,sbgn [] r (hE:=⟨rfl,rfl,rfl,rfl,rfl,?_,rfl,trivial⟩)⟩;dsimp only
   rw[Hu ca cb i k0 k0 (fun j hj=>be) be lr];rfl
  rintro⟨j,F⟩ ⟨Yp,hj1,G,Qi,RK⟩;dsimp only at Yp hj1 G Qi RK ⊢;conv=>whnf
  apply bS<;>intro Q1
  .have Q1:j<=i:=by
    have:=aJ Q1;omega
   apply bS<;>intro Zo
   .have Zo:j<ca.length:=by
     have:=aJ Zo;omega
    obtain⟨p,hp⟩:=gO ca j;obtain⟨q,hq⟩:=gO cb (i-j);obtain⟨ad,rfl,q1,q2⟩:=Qi.load hp;obtain⟨ad2,rfl,q3,q4⟩:=RK.load hq;have e1:ca.getD j 0=p:=by rw[List.getD,hp];rfl
    have e2:cb.getD (i-j) 0=q:=by rw[List.getD,hq];rfl
    have e3:jR ca cb i (j+1)=jR ca cb i j+p*q:=by rw[jR,e1,aM Q1,e2]
    have m1:=bca.at j;have m2:=bcb.at (i-j);rw[e1]at m1;rw[e2]at m2;have m3:=LI m1 m2;have m4:=oK (a:=ca) (b:=cb) (i:=i) bca.2.2.1 bcb.2.2.1 j;refine dP (idO 14) ?_;refine⟨ad,rfl,be,iV p,fun O J r=>?_,?_⟩
    .rw[aK,cd (w:=F) (F:=J) (by rw[df];exact rls (S:=FF) r oF q1)];exact q2
    refine⟨((i-j:Nat):Int),wo,ad2,rfl,be,iV q,fun O J r=>?_,?_⟩
    .rw[aK,cd (w:=F) (F:=J) (by rw[df];exact rls (S:=FF) r oF q3)];exact q4
    refine⟨p*q,wo,jR ca cb i (j+1),by rw[e3,wrap64]<;>omega,((j+1:Nat):Int),wo,?_⟩;intro I8 w3 r3;exact⟨(j+1,w3),⟨by dsimp only;omega,by dsimp only;omega,G.tr r3.cj,Qi.rel r3 oF,RK.rel r3 oF⟩,sbgn [] r3,by dsimp only;omega⟩
   have Zo:ca.length<=j:=by
    have:=aL Zo;omega
   rw[Dq hj1 (.inr Zo)];have m4:=oK (a:=ca) (b:=cb) (i:=i) bca.2.2.1 bcb.2.2.1 (i+1);refine .inl ?_;refine⟨ce,be,mx,((i+1:Nat):Int),wo,?_⟩;intro I8 w3 r3;have Um:((List.range (i+1)).map (gj ca cb)).map (Value.int .i64)=((List.range i).map (gj ca cb)).map (Value.int .i64)++[iV (gj ca cb i)]:=by
    rw[bz,bw,bw];rfl
   exact⟨(i+1,w3),⟨.inl Pk,G.tr r3.cj,Qi.rel r3 oF,RK.rel r3 oF⟩,sbgn [(3,5)] r3 ⟨by dsimp only;rw[Um];rfl,rfl,trivial⟩,by dsimp only;omega⟩
  have Q1:i<j:=by
   have:=aL Q1;omega
  rw[Dq hj1 (.inl Q1)];have m4:=oK (a:=ca) (b:=cb) (i:=i) bca.2.2.1 bcb.2.2.1 (i+1);refine .inl ?_;refine⟨ce,be,mx,((i+1:Nat):Int),wo,?_⟩;intro I8 w3 r3;have Um:((List.range (i+1)).map (gj ca cb)).map (Value.int .i64)=((List.range i).map (gj ca cb)).map (Value.int .i64)++[iV (gj ca cb i)]:=by
   rw[bz,bw,bw];rfl
  exact⟨(i+1,w3),⟨.inl Pk,G.tr r3.cj,Qi.rel r3 oF,RK.rel r3 oF⟩,sbgn [(3,5)] r3 ⟨by dsimp only;rw[Um];rfl,rfl,trivial⟩,by dsimp only;omega⟩
 have Pk:ca.length+cb.length<=i+1:=by
  have:=aL Pk;omega
 generalize Q4:((List.range i).map (gj ca cb))=cs;have hz:dw cs=x*y:=by
  rw[<-Q4,Aq,MU ca cb i Pk,bca.1,bcb.1]
 have hlen:i=cs.length:=by rw[<-Q4];simp
 have TH:∀c∈cs,-1152921504606846976<=c/\c<=1152921504606846976:=fun c hc=>by
  rw[<-Q4]at hc;obtain⟨j,hj,rfl⟩:=bE.1 hc;have hj:=List.mem_range.1 hj;have:=oK (a:=ca) (b:=cb) (i:=j) bca.2.2.1 bcb.2.2.1 (j+1);rw[gj];omega
 refine cW (cE G (pR dX (x*y)) (fun O J r=>pC r rfl hlen be TH hz) ?_);rintro O _ _ _ Pu r L G h_ U;have hC:=U.cV (nw r h_);obtain⟨A0,A1,A2,A3,rfl⟩:=hC.shape;exact rtn G fun GE we re=>hC.out re oF
end Go.Ex
namespace Go.Ex
theorem KD{b r r2 q X n c:Int}(h:X=b*q+r)(hr:r*65536+c=b*n+r2):c+65536*X=b*(n+65536*q)+r2:=by
 rw[h,Int.mul_add,Int.mul_add,Int.mul_left_comm b 65536 q];omega
theorem Lk{x y Q F9:Int}(hy:y≠0)(h:(x.natAbs:Int)=(y.natAbs:Int)*Q+F9)(h0:0<=F9)(Y:F9<(y.natAbs:Int)):
  (if x<0/\0<F9 then(if (x<0)↔(y<0)then(Q+1)else -(Q+1))else(if (x<0)↔(y<0)then Q else -Q))=x / y/\(if x<0/\0<F9 then(y.natAbs:Int)-F9 else F9)=x % y:=by
 have key:∀q r:Int,r+y*q=x->0<=r->r<(y.natAbs:Int)->q=x / y/\r=x % y:=by
  intro q r e1 e2 e3;have m:x % y=r:=by
   rw[<-e1,Int.add_mul_emod_self_left];rcases Int.lt_or_lt_of_ne hy with h|h
   .rw[<-Int.emod_neg,Int.emod_eq_of_lt e2 be]
   .exact Int.emod_eq_of_lt e2 be
  have d:=Int.mul_ediv_add_emod x y;rw[m]at d;exact⟨(Int.eq_of_mul_eq_mul_left hy be),m.symm⟩
 by_cases E:x<0
 .have ex:(x.natAbs:Int)= -x:=by omega
  by_cases hy':y<0
  .have ey:(y.natAbs:Int)= -y:=by omega
   rw[ex,ey,Int.neg_mul]at h;by_cases hR:0<F9
   .rw[aM (show x<0/\0<F9 from⟨E,hR⟩),aM (show x<0/\0<F9 from⟨E,hR⟩),aM (show (x<0)↔(y<0) by simp[E,hy'])];exact key _ _ (by rw[Int.mul_add,Int.mul_one];omega) be be
   .rw[aI (show ¬(x<0/\0<F9) by omega),aI (show ¬(x<0/\0<F9) by omega),aM (show (x<0)↔(y<0) by simp[E,hy'])];exact key _ _ be h0 Y
  .have ey:(y.natAbs:Int)=y:=by omega
   rw[ex,ey]at h;have U:¬((x<0)↔(y<0)):=by simp[E,hy']
   by_cases hR:0<F9
   .rw[aM (show x<0/\0<F9 from⟨E,hR⟩),aM (show x<0/\0<F9 from⟨E,hR⟩),aI U];exact key _ _ (by rw[Int.mul_neg,Int.mul_add,Int.mul_one];omega) be be
   .rw[aI (show ¬(x<0/\0<F9) by omega),aI (show ¬(x<0/\0<F9) by omega),aI U];exact key _ _ (by rw[Int.mul_neg];omega) h0 Y
 .have ex:(x.natAbs:Int)=x:=by omega
  rw[aI (show ¬(x<0/\0<F9) by omega),aI (show ¬(x<0/\0<F9) by omega)];by_cases hy':y<0
  .have ey:(y.natAbs:Int)= -y:=by omega
   rw[ex,ey,Int.neg_mul]at h;rw[aI (show ¬((x<0)↔(y<0)) by simp[E,hy'])];exact key _ _ (by rw[Int.mul_neg];omega) h0 Y
  .have ey:(y.natAbs:Int)=y:=by omega
   rw[ex,ey]at h;rw[aM (show (x<0)↔(y<0) by simp[E,hy'])];exact key _ _ be h0 Y
theorem gV(z:Int):(z<0/\z.sign= -1)\/(z=0/\z.sign=0)\/(0<z/\z.sign=1):=by
 rcases Int.lt_trichotomy z 0 with h|h|h
 .exact .inl ⟨h,cH h⟩
 .exact .inr (.inl ⟨h,by rw[h];rfl⟩)
 .exact .inr (.inr ⟨h,cK h⟩)
end Go.Ex
namespace Go.Ex
open Go Go.Sx Go.Proofs
variable{x y:Int}{Q:List Int}{S:Nat->Prop}{u v:Value}{w:World}
def NR:Value:=.agg #[.bool false,nls]
theorem dX.nil(w:World)(S:Nat->Prop):dX w S (.agg #[.bool false,nls]) 0:=⟨[],⟨_,rfl,dZ.nil _ _⟩,fun x h=>by simp at h,rfl⟩
theorem aBh(h:∀c∈Q,0<=c/\c<=65535):0<=dw Q:=by
 induction Q with
 |nil=>exact Int.le_refl _
 |cons c r ih=>
  have Y:=h c aF;have I:=ih fun x E=>h x (aD _ E);rw[dw];omega
theorem CF{n:Int}(h:0<=n)(I:n<4294967296):ln n.natAbs<=1:=iH.2 (by show n.natAbs<4294967296^1;omega)
theorem LJ{k l:Nat}(W:Old S w)(E:fg w S v k x)(hy:fg w S u l y)(R:k<=1000000)(hl:l<=1000000):
  eL PG FS.qR #[v,u] w (eY w fun v' F=>(y=0/\v'= .tuple #[NR,NR,iV 9])\/(y≠0/\∃q r,v'= .tuple #[q,r,iV 0]/\dX F (Nf w F) q (x / y)/\dX F (Nf w F) r (x % y))):=by
 have G:=bR w;replace E:=E.cV (S':=Cv S w.heap.size []) fun _ h=>.inl h;replace hy:=hy.cV (S':=Cv S w.heap.size []) fun _ h=>.inl h;obtain⟨b1,a1,n1,c1,rfl⟩:=E.shape;obtain⟨b2,a2,n2,c2,rfl⟩:=hy.shape;refine zG ce ?_;have R9:=hy.ln;refine cW (cE G (pE (iV y.sign)) (fun O J r=>iM (rlo r W) (hy.rel r W).r) ?_);rintro O _ _ _ Pv r L G h_ rfl;replace E:=E.cS r W L (mC h_);replace hy:=hy.cS r W L (mC h_);apply bS<;>intro Qz
 .have Qz:y=0:=by rcases gV y with h|h|h<;>simp[h]at Qz ⊢
  exact rtn G fun GE we re=>.inl ⟨Qz,rfl⟩
 have Qz:y≠0:=fun e=>by rw[e]at Qz;simp at Qz
 refine dP [.x 0,.x 3,.p 5,.x 1,.x 2,.x 4,.x 5,.x 6,.x 7] ?_;refine cE G (pR dX ((x.natAbs:Int))) (fun O J r=>zh (rlo r W) (E.rel r W) be) ?_;rintro O _ _ _ iv2 r L G h_ U;replace E:=E.cS r W L (mC h_);replace hy:=hy.cS r W L (mC h_);have Ur:=U.cV (nw r h_);obtain⟨A0,A1,A2,A3,rfl⟩:=Ur.shape;have RL:=E.ln;refine cE G (fun _ J v F=>∃cs,eQ F (Nf J F) v cs/\Cm cs (2*k) ((x.natAbs:Int))) (fun O J r=>tk (rlo r oF) ((Ur.rel r oF).l (k:=k) (by rw[Int.natAbs_natCast];exact RL)) be) ?_;rintro O _ _ _ Pu r L G h_ ⟨ca,k1,bca⟩;replace E:=E.cS r W L (mC h_);replace hy:=hy.cS r W L (mC h_);have Qi:=k1.cV (nw r h_);obtain⟨aca,cca,rfl,lca⟩:=Qi.shape;refine cE G (pR dX ((y.natAbs:Int))) (fun O J r=>zh (rlo r W) (hy.rel r W) be) ?_;rintro O _ _ _ QD r L G h_ U;replace E:=E.cS r W L (mC h_);replace hy:=hy.cS r W L (mC h_);replace Qi:=Qi.cS r oF L (mC h_);have QE:=U.cV (nw r h_);obtain⟨C0,C1,C2,C3,rfl⟩:=QE.shape;generalize hB:(y.natAbs:Int)=B at*
 have l1:=bca.2.1;have hB0:0<B:=by omega
 have lB:ln B.natAbs<=l:=by rw[<-hB,Int.natAbs_natCast];exact R9
 refine⟨(ca.length:Int)-1,wo,Nat×List Int×Int×(Bool×Option Addr×Nat×Nat)×World×Iv,fun z=>⟨[(2,pP 0 0),(3,pP 1 0),(4,pP 2 0),(5,pP 3 0),(6,iZ 0),(7,sV aca ca.length cca),(8,pP 4 0),(9,.o (.w 6 z.2.1.length)),(10,pP 5 0),(11,.o (.v (iV ((z.1:Int)-1))))],[(6,.vec T.int 1 (z.2.1.map (Value.int .i64))),(5,.box T.Int [.v (.bool z.2.2.2.1.1),.v (.slice z.2.2.2.1.2.1 z.2.2.2.1.2.2.1 z.2.2.2.1.2.2.2)]),(4,.box T.Int [.v (.bool C0),.v (.slice C1 C2 C3)]),(3,.box T.Int [.v (.bool false),.v nls]),(2,.box T.Int [.v (.bool false),.v nls]),(1,.box T.Int [.v (.bool b2),.v (.slice a2 n2 c2)]),(0,.box T.Int [.v (.bool b1),.v (.slice a1 n1 c1)])],7,z.2.2.2.2.2,z.2.2.2.2.1⟩,fun z=>z.1,
  fun z=>z.1<=ca.length/\z.2.1.length+z.1=ca.length/\(∀c∈z.2.1,0<=c/\c<=65535)/\dw (ca.drop z.1)=B*dw z.2.1+z.2.2.1/\0<=z.2.2.1/\z.2.2.1<B/\Bq w z.2.2.2.2.1/\fg z.2.2.2.2.1 (Cv S w.heap.size z.2.2.2.2.2) (.agg #[.bool b1,.slice a1 n1 c1]) k x/\fg z.2.2.2.2.1 (Cv S w.heap.size z.2.2.2.2.2) (.agg #[.bool b2,.slice a2 n2 c2]) l y/\eQ z.2.2.2.2.1 (Cf w z.2.2.2.2.2) (.slice aca ca.length cca) ca/\dX z.2.2.2.2.1 (Cf w z.2.2.2.2.2) (.agg #[.bool C0,.slice C1 C2 C3]) B/\dX z.2.2.2.2.1 (Cf w z.2.2.2.2.2) (.agg #[.bool z.2.2.2.1.1,.slice z.2.2.2.1.2.1 z.2.2.2.1.2.2.1 z.2.2.2.1.2.2.2]) z.2.2.1,?_,?_⟩
 .intro O J r
  exact⟨(ca.length,[],0,(false,none,0,0),J,QD),⟨lr,ce,ce,by simp[dw],Int.le_refl _,hB0,G.tr r.cj,E.rel r W,hy.rel r W,Qi.rel r oF,QE.rel r oF,dX.nil _ _⟩,Sub.nil 9 T.int 1 rfl (by simp[jn,SV.sc,At.sc]) r fun I9 r1=>
   sbgn [] r1⟩
 rintro⟨j,Q,F9,⟨br,ar,nr,cr⟩,w1,iv⟩ ⟨hj,hQ,hd,hv,Xa,Vi,G,E,hy,Qi,QE,hr⟩;dsimp only at hj hQ hd hv Xa Vi G E hy Qi QE hr ⊢;apply bS<;>intro Pk
 .obtain⟨i,rfl⟩:∃i,j=i+1:=⟨j-1,by have:(j:Int)-1≥0:=aJ Pk;omega⟩
  rw[show ((i+1:Nat):Int)-1=(i:Int) by omega];obtain⟨d,QM⟩:=gO ca i;have hd0:=bca.2.2.1 d (aG QM);have QJ:=bca.2.2.2 be d (aG QM);have lR:ln F9.natAbs<=l:=aR (fP be) lB;have lU:ln (65536:Int).natAbs<=1:=by decide
  have m1:=dQ F9 65536;have m2:=CF (n:=d) QJ be;have m3:=jY (F9*65536) d;refine dP [.x 0,.x 3,.x 4,.x 5,.x 6,.x 1,.x 2,.x 7,.x 8,.x 9] ?_;obtain⟨ad,WN,q1,q2⟩:=Qi.load QM;refine⟨ad,WN,be,iV d,fun O J r=>?_,?_⟩
  .rw[aK,cd (w:=w1) (F:=J) (by rw[df];exact rls (S:=FF) r oF q1)];exact q2
  refine cE G (pR dX (65536)) (fun O J r=>mm _ J bv bv) ?_;rintro O Vs v5 VP QH r L G h_ U;replace E:=E.cS r W L (mC h_);replace hy:=hy.cS r W L (mC h_);replace Qi:=Qi.cS r oF L (mC h_);replace QE:=QE.cS r oF L (mC h_);replace hr:=hr.cS r oF L (mC h_);have hu:=U.cV (nw r h_);obtain⟨E0,E1,E2,E3,rfl⟩:=hu.shape;refine cE G (pR dX (F9*65536)) (fun O J r=>jF (rlo r oF) ((hr.rel r oF).l (k:=1000001) be) ((hu.rel r oF).l (k:=1000001) be) be be) ?_;rintro O VQ v6 VR Qe r L G h_ U;replace E:=E.cS r W L (mC h_);replace hy:=hy.cS r W L (mC h_);replace Qi:=Qi.cS r oF L (mC h_);replace QE:=QE.cS r oF L (mC h_);have hp:=U.cV (nw r h_);obtain⟨F0,F1,F2,F3,rfl⟩:=hp.shape;refine cE G (pR dX (d)) (fun O J r=>mm _ J be be) ?_;rintro O Wy v7 Wz RS r L G h_ U;replace E:=E.cS r W L (mC h_);replace hy:=hy.cS r W L (mC h_);replace Qi:=Qi.cS r oF L (mC h_);replace QE:=QE.cS r oF L (mC h_);replace hp:=hp.cS r oF L (mC h_);have hdd:=U.cV (nw r h_);obtain⟨G0,G1,G2,G3,rfl⟩:=hdd.shape;refine cE G (pR dX (F9*65536+d)) (fun O J r=>CE (rlo r oF) ((hp.rel r oF).l (k:=1000002) be) ((hdd.rel r oF).l (k:=1000002) be) be be) ?_;rintro O wa8 v8 wb8 Sw r L G h_ U;replace E:=E.cS r W L (mC h_);replace hy:=hy.cS r W L (mC h_);replace Qi:=Qi.cS r oF L (mC h_);replace QE:=QE.cS r oF L (mC h_);have hr:=U.cV (nw r h_);obtain⟨I0,I1,I2,I3,rfl⟩:=hr.shape;generalize UO:F9*65536+d=R2 at*
  have hR20:0<=R2:=by omega
  have hR21:R2<65536*B:=by omega
  refine⟨Nat×Nat×Nat×World×Iv,fun z=>⟨[(2,pP 0 0),(3,pP 1 0),(4,pP 2 0),(5,pP 3 0),(6,iZ 0),(7,sV aca ca.length cca),(8,pP 4 0),(9,.o (.w 6 Q.length)),(10,pP 5 0),(11,.o (.v (iV ((i:Int))))),(12,iN z.1),(13,iN z.2.2.1)],[(6,.vec T.int 1 (Q.map (Value.int .i64))),(5,.box T.Int [.v (.bool I0),.v (.slice I1 I2 I3)]),(4,.box T.Int [.v (.bool C0),.v (.slice C1 C2 C3)]),(3,.box T.Int [.v (.bool false),.v nls]),(2,.box T.Int [.v (.bool false),.v nls]),(1,.box T.Int [.v (.bool b2),.v (.slice a2 n2 c2)]),(0,.box T.Int [.v (.bool b1),.v (.slice a1 n1 c1)])],7,z.2.2.2.2,z.2.2.2.1⟩,fun z=>z.2.1,
   fun z=>z.2.2.1=2^z.2.1 / 2/\z.1+2^z.2.1<=65536/\((z.1:Nat):Int)*B<=R2/\R2<((z.1+2^z.2.1:Nat):Int)*B/\Bq w z.2.2.2.1/\fg z.2.2.2.1 (Cv S w.heap.size z.2.2.2.2) (.agg #[.bool b1,.slice a1 n1 c1]) k x/\fg z.2.2.2.1 (Cv S w.heap.size z.2.2.2.2) (.agg #[.bool b2,.slice a2 n2 c2]) l y/\eQ z.2.2.2.1 (Cf w z.2.2.2.2) (.slice aca ca.length cca) ca/\dX z.2.2.2.1 (Cf w z.2.2.2.2) (.agg #[.bool C0,.slice C1 C2 C3]) B/\dX z.2.2.2.1 (Cf w z.2.2.2.2) (.agg #[.bool I0,.slice I1 I2 I3]) R2,?_,?_⟩
  .intro O J r
   exact⟨(0,16,32768,J,Sw),⟨by show 32768=2^16 / 2;decide,by show 0+2^16<=65536;decide,by dsimp only;omega,by dsimp only;rw[show ((0+2^16:Nat):Int)=65536 from rfl];exact hR21,G.tr r.cj,E.rel r W,hy.rel r W,Qi.rel r oF,QE.rel r oF,hr.rel r oF⟩,
    sbgn [] r⟩
  rintro⟨n,e,bit,w5,iv⟩ ⟨Ww,Ss,UM,Yv,G,E,hy,Qi,QE,hr⟩;dsimp only at Ww Ss UM Yv G E hy Qi QE hr ⊢;apply bS<;>intro XM
  .have XM:0<2^e / 2:=by have:((bit:Nat):Int)>0:=aJ XM;omega
   obtain⟨f,rfl⟩:∃f,e=f+1:=by
    cases e with
    |zero=>exact absurd XM bv
    |succ f=>exact⟨f,rfl⟩
   have e1:2^(f+1)=2*2^f:=by rw[Nat.pow_succ];omega
   have e2:2^(f+1) / 2=2^f:=by omega
   obtain rfl:bit=2^f:=by omega
   rw[e1]at Ss Yv;have hp0:=cJ f;generalize hp:2^f=p at*
   have m4:=CF (n:=((n+p:Nat):Int)) be be;have m5:=dQ B ((n+p:Nat):Int);have m6:ln R2.natAbs<=l+1:=by
    refine aR (fP (b:=((65536:Int)*B).natAbs) be) ?_;have:=dQ 65536 B;omega
   refine dP [.x 0,.x 1,.x 2,.x 3,.x 6,.x 4,.x 5,.x 7,.x 8] ?_;refine⟨((n+p:Nat):Int),wo,?_⟩;refine cE G (pR dX (((n+p:Nat):Int))) (fun O J r=>mm _ J be be) ?_;rintro O UB v9 UC VE r L G h_ U;replace E:=E.cS r W L (mC h_);replace hy:=hy.cS r W L (mC h_);replace Qi:=Qi.cS r oF L (mC h_);replace QE:=QE.cS r oF L (mC h_);replace hr:=hr.cS r oF L (mC h_);have hu:=U.cV (nw r h_);obtain⟨J0,J1,J2,J3,rfl⟩:=hu.shape;refine cE G (pR dX (B*((n+p:Nat):Int))) (fun O J r=>jF (rlo r oF) ((QE.rel r oF).l (k:=1000001) be) ((hu.rel r oF).l (k:=1000001) be) be be) ?_;rintro O UT v10 UU VF r L G h_ U;replace E:=E.cS r W L (mC h_);replace hy:=hy.cS r W L (mC h_);replace Qi:=Qi.cS r oF L (mC h_);replace QE:=QE.cS r oF L (mC h_);replace hr:=hr.cS r oF L (mC h_);have SI:=U.cV (nw r h_);obtain⟨N0,N1,N2,N3,rfl⟩:=SI.shape;refine cE G (pE (iV (B*((n+p:Nat):Int)-R2).sign)) (fun O J r=>LH (rlo r oF) ((SI.rel r oF).l (k:=1000001) be) ((hr.rel r oF).l (k:=1000001) be) be be) ?_;rintro O wa11 v11 wb11 XL r L G h_ rfl;replace E:=E.cS r W L (mC h_);replace hy:=hy.cS r W L (mC h_);replace Qi:=Qi.cS r oF L (mC h_);replace QE:=QE.cS r oF L (mC h_);replace hr:=hr.cS r oF L (mC h_);have hs:=gV (B*((n+p:Nat):Int)-R2);apply bS<;>intro hle
   .have hle:=aJ hle;have YO:((n+p:Nat):Int)*B<=R2:=by rw[Int.mul_comm];omega
    refine⟨((n+p:Nat):Int),wo,bv,((2^f / 2:Nat):Int),by rw[hp,show((p:Nat):Int).tdiv 2=((p / 2:Nat):Int)from rfl,wrap64]<;>omega,?_⟩;intro I8 w3 r3;exact⟨(n+p,f,2^f / 2,w3,_),⟨rfl,by dsimp only;omega,YO,by dsimp only;rw[hp,show n+p+p=n+2*p by omega];exact Yv,G.tr r3.cj,E.rel r3 W,hy.rel r3 W,Qi.rel r3 oF,QE.rel r3 oF,hr.rel r3 oF⟩,sbgn [] r3,by dsimp only;omega⟩
   have hle:=aL hle;have YO:R2<((n+p:Nat):Int)*B:=by rw[Int.mul_comm];omega
   refine⟨bv,((2^f / 2:Nat):Int),by rw[hp,show((p:Nat):Int).tdiv 2=((p / 2:Nat):Int)from rfl,wrap64]<;>omega,?_⟩;intro I8 w3 r3;exact⟨(n,f,2^f / 2,w3,_),⟨rfl,by dsimp only;omega,UM,by dsimp only;rw[hp];exact YO,G.tr r3.cj,E.rel r3 W,hy.rel r3 W,Qi.rel r3 oF,QE.rel r3 oF,hr.rel r3 oF⟩,sbgn [] r3,by dsimp only;omega⟩
  have XM:¬0<2^e / 2:=by have:¬((bit:Nat):Int)>0:=aL XM;omega
  obtain rfl:e=0:=by
   cases e with
   |zero=>rfl
   |succ f=>exact absurd (show 0<2^(f+1) / 2 by rw[Nat.pow_succ];have:=cJ f;omega) XM
  rw[show n+2^0=n+1 from rfl]at Ss Yv;rw[Int.natCast_add,Int.add_mul]at Yv;rw[Int.mul_comm]at UM;rw[Int.mul_comm]at Yv;have m4:=CF (n:=((n:Nat):Int)) be be;have m5:=dQ B ((n:Nat):Int);have m6:ln R2.natAbs<=l+1:=by
   refine aR (fP (b:=((65536:Int)*B).natAbs) be) ?_;have:=dQ 65536 B;omega
  refine dP (idO 7) ?_;refine cE G (pR dX (((n:Nat):Int))) (fun O J r=>mm _ J be be) ?_;rintro O UB v9 UC VE r L G h_ U;replace E:=E.cS r W L (mC h_);replace hy:=hy.cS r W L (mC h_);replace Qi:=Qi.cS r oF L (mC h_);replace QE:=QE.cS r oF L (mC h_);replace hr:=hr.cS r oF L (mC h_);have hu:=U.cV (nw r h_);obtain⟨J0,J1,J2,J3,rfl⟩:=hu.shape;refine cE G (pR dX (B*((n:Nat):Int))) (fun O J r=>jF (rlo r oF) ((QE.rel r oF).l (k:=1000001) be) ((hu.rel r oF).l (k:=1000001) be) be be) ?_;rintro O UT v10 UU VF r L G h_ U;replace E:=E.cS r W L (mC h_);replace hy:=hy.cS r W L (mC h_);replace Qi:=Qi.cS r oF L (mC h_);replace QE:=QE.cS r oF L (mC h_);replace hr:=hr.cS r oF L (mC h_);have SI:=U.cV (nw r h_);obtain⟨N0,N1,N2,N3,rfl⟩:=SI.shape;refine cE G (pR dX (R2-B*((n:Nat):Int))) (fun O J r=>FC (rlo r oF) ((hr.rel r oF).l (k:=1000002) be) ((SI.rel r oF).l (k:=1000002) be) be be) ?_;rintro O wa11 v11 wb11 XL r L G h_ U;replace E:=E.cS r W L (mC h_);replace hy:=hy.cS r W L (mC h_);replace Qi:=Qi.cS r oF L (mC h_);replace QE:=QE.cS r oF L (mC h_);have Wi:=U.cV (nw r h_);obtain⟨O0,O1,O2,O3,rfl⟩:=Wi.shape;generalize hR3:R2-B*((n:Nat):Int)=R3 at*
  refine .inl ?_;refine⟨by rw[aO,av],fun u hu=>by obtain⟨_,_,rfl⟩:=bE.1 hu;rfl,rfl,be,mx,(i:Int)-1,wo,?_⟩;intro I8 w3 r3;have Sh:dw (ca.drop i)=B*dw (((n:Nat):Int)::Q)+R3:=by
   rw[GR QM,dw];exact KD hv (by rw[<-hR3,<-UO];omega)
  exact⟨(i,((n:Nat):Int)::Q,R3,(O0,O1,O2,O3),w3,_),⟨by dsimp only;omega,by dsimp only;rw[List.length_cons];omega,fun c hc=>by
    rcases List.mem_cons.1 hc with rfl|hc
    .omega
    .exact hd c hc,Sh,by dsimp only;omega,by dsimp only;omega,G.tr r3.cj,E.rel r3 W,hy.rel r3 W,Qi.rel r3 oF,QE.rel r3 oF,Wi.rel r3 oF⟩,
   sbgn [(6,8)] r3 (hE:=⟨rfl,rfl,rfl,rfl,rfl,rfl,rfl,by dsimp only;rw[show (((n:Nat):Int)::Q).length=1+Q.length by rw[List.length_cons,Nat.add_comm]];rfl,rfl,rfl,trivial⟩),by dsimp only;omega⟩
 obtain rfl:j=0:=by have:¬(j:Int)-1≥0:=aL Pk;omega
 rw[List.drop_zero,bca.1]at hv;rw[<-hB]at hv Vi;have key:=Lk Qz hv Xa Vi;rw[hB]at key hv Vi;have lq:ln (dw Q).natAbs<=k+1:=by
  have Y:=aBh hd;have I:1*dw Q<=B*dw Q:=Int.mul_le_mul_of_nonneg_right be Y;exact aR (fP (b:=x.natAbs) be) be
 have lR:ln F9.natAbs<=l:=aR (fP be) lB;have sx:=gV x;have sy:=gV y;have sr:=gV F9;refine cW (cE G (pR dX (dw Q)) (fun O J r=>pC r rfl rfl be (fun c hc=>by have:=hd c hc;omega) rfl) ?_);rintro O _ _ _ QH r L G h_ U;replace E:=E.cS r W L (mC h_);replace hy:=hy.cS r W L (mC h_);replace QE:=QE.cS r oF L (mC h_);replace hr:=hr.cS r oF L (mC h_);have hq:=U.cV (nw r h_);obtain⟨E0,E1,E2,E3,rfl⟩:=hq.shape;refine cW (cE G (pE (iV x.sign)) (fun O J r=>iM (rlo r W) (E.rel r W).r) ?_);rintro O _ _ _ Qe r L G h_ rfl;replace E:=E.cS r W L (mC h_);replace hy:=hy.cS r W L (mC h_);replace QE:=QE.cS r oF L (mC h_);replace hr:=hr.cS r oF L (mC h_);replace hq:=hq.cS r oF L (mC h_);apply bS<;>intro YA
 .have YA:=aJ YA;refine cW (cE G (pE (iV F9.sign)) (fun O J r=>iM (rlo r oF) (hr.rel r oF).r) ?_);rintro O Wy v7 Wz RS r L G h_ rfl;replace E:=E.cS r W L (mC h_);replace hy:=hy.cS r W L (mC h_);replace QE:=QE.cS r oF L (mC h_);replace hr:=hr.cS r oF L (mC h_);replace hq:=hq.cS r oF L (mC h_);apply bS<;>intro hrs
  .have hrs:=aJ hrs;rw[aM (show x<0/\0<F9 by omega),aM (show x<0/\0<F9 by omega)]at key;have m7:=jY (dw Q) 1;have m8:ln (1:Int).natAbs<=1:=by decide
   have m9:ln (B-F9).natAbs<=l:=aR (fP be) lB;refine dP [.x 0,.x 3,.x 4,.x 1,.x 2,.x 5,.x 6,.x 7] ?_;refine cE G (pR dX (1)) (fun O J r=>mm _ J be be) ?_;rintro O wa8 v8 wb8 Sw r L G h_ U;replace E:=E.cS r W L (mC h_);replace hy:=hy.cS r W L (mC h_);replace QE:=QE.cS r oF L (mC h_);replace hr:=hr.cS r oF L (mC h_);replace hq:=hq.cS r oF L (mC h_);have hu:=U.cV (nw r h_);obtain⟨I0,I1,I2,I3,rfl⟩:=hu.shape;refine cE G (pR dX (dw Q+1)) (fun O J r=>CE (rlo r oF) ((hq.rel r oF).l (k:=1000003) be) ((hu.rel r oF).l (k:=1000003) be) be be) ?_;rintro O UB v9 UC VE r L G h_ U;replace E:=E.cS r W L (mC h_);replace hy:=hy.cS r W L (mC h_);replace QE:=QE.cS r oF L (mC h_);replace hr:=hr.cS r oF L (mC h_);have Rq:=U.cV (nw r h_);obtain⟨J0,J1,J2,J3,rfl⟩:=Rq.shape;refine cE G (pR dX (B-F9)) (fun O J r=>FC (rlo r oF) ((QE.rel r oF).l (k:=1000003) be) ((hr.rel r oF).l (k:=1000003) be) be be) ?_;rintro O UT v10 UU VF r L G h_ U;replace E:=E.cS r W L (mC h_);replace hy:=hy.cS r W L (mC h_);replace Rq:=Rq.cS r oF L (mC h_);have S6:=U.cV (nw r h_);obtain⟨N0,N1,N2,N3,rfl⟩:=S6.shape;refine dP [.x 0,.x 3,.x 1,.x 2,.x 4,.x 5,.x 6] ?_;refine cE G (pE (iV x.sign)) (fun O J r=>iM (rlo r W) (E.rel r W).r) ?_;rintro O _ _ _ XL r L G h_ rfl;replace hy:=hy.cS r W L (mC h_);replace Rq:=Rq.cS r oF L (mC h_);replace S6:=S6.cS r oF L (mC h_);refine cE G (pE (iV y.sign)) (fun O J r=>iM (rlo r W) (hy.rel r W).r) ?_;rintro O _ _ _ ZY r L G h_ rfl;replace Rq:=Rq.cS r oF L (mC h_);replace S6:=S6.cS r oF L (mC h_);apply bS<;>intro Po
   .have U:¬((x<0)↔(y<0)):=fun e=>by
     have e2:decide (x.sign<0)=decide (y.sign<0):=decide_eq_decide.2 be;rw[e2]at Po;simp at Po
    rw[aI U]at key;refine cW (cE G (pR dX (-(dw Q+1))) (fun O J r=>oC (rlo r oF) ((Rq.rel r oF).l (k:=1000003) be) be) ?_);rintro O _ _ _ ZZ r L G h_ U;replace S6:=S6.cS r oF L (mC h_);have VN:=U.cV (nw r h_);obtain⟨P0,P1,P2,P3,rfl⟩:=VN.shape;refine jV hτ uw (.two 0 (.two 1 (.one 2 (.one 3 (.one 4 .nil))) 2 (.one 1 (.one 3 (.one 4 .nil)))) 1 (.one 0 (.one 2 (.one 3 (.one 4 .nil))))) d9 ?_;refine⟨?_,?_⟩
    .refine⟨?_,?_⟩
     .exact rtn G fun GE we re=>.inr ⟨Qz,_,_,rfl,key.1▸VN.out re oF,key.2▸S6.out re oF⟩
     .exact rtn G fun GE we re=>.inr ⟨Qz,_,_,rfl,key.1▸VN.out re oF,key.2▸S6.out re oF⟩
    .exact rtn G fun GE we re=>.inr ⟨Qz,_,_,rfl,key.1▸VN.out re oF,key.2▸S6.out re oF⟩
   have U:(x<0)↔(y<0):=by
    have e2:decide (x.sign<0)=decide (y.sign<0):=by simpa using Po
    have:=decide_eq_decide.1 e2;omega
   rw[aM U]at key;refine jV hτ uw (.two 0 (.two 1 (.one 2 (.one 3 (.one 4 .nil))) 2 (.one 1 (.one 3 (.one 4 .nil)))) 1 (.one 0 (.one 2 (.one 3 (.one 4 .nil))))) d9 ?_;refine⟨?_,?_⟩
   .refine⟨?_,?_⟩
    .exact rtn G fun GE we re=>.inr ⟨Qz,_,_,rfl,key.1▸Rq.out re oF,key.2▸S6.out re oF⟩
    .exact rtn G fun GE we re=>.inr ⟨Qz,_,_,rfl,key.1▸Rq.out re oF,key.2▸S6.out re oF⟩
   .exact rtn G fun GE we re=>.inr ⟨Qz,_,_,rfl,key.1▸Rq.out re oF,key.2▸S6.out re oF⟩
  have hrs:=aL hrs;rw[aI (show ¬(x<0/\0<F9) by omega),aI (show ¬(x<0/\0<F9) by omega)]at key;refine dP [.x 0,.x 3,.x 1,.x 2,.x 4,.x 5,.x 6] ?_;refine cE G (pE (iV x.sign)) (fun O J r=>iM (rlo r W) (E.rel r W).r) ?_;rintro O wa8 v8 wb8 Sw r L G h_ rfl;replace hy:=hy.cS r W L (mC h_);replace QE:=QE.cS r oF L (mC h_);replace hr:=hr.cS r oF L (mC h_);replace hq:=hq.cS r oF L (mC h_);refine cE G (pE (iV y.sign)) (fun O J r=>iM (rlo r W) (hy.rel r W).r) ?_;rintro O UB v9 UC VE r L G h_ rfl;replace QE:=QE.cS r oF L (mC h_);replace hr:=hr.cS r oF L (mC h_);replace hq:=hq.cS r oF L (mC h_);apply bS<;>intro Po
  .have U:¬((x<0)↔(y<0)):=fun e=>by
    have e2:decide (x.sign<0)=decide (y.sign<0):=decide_eq_decide.2 be;rw[e2]at Po;simp at Po
   rw[aI U]at key;refine cW (cE G (pR dX (-(dw Q))) (fun O J r=>oC (rlo r oF) ((hq.rel r oF).l (k:=1000003) be) be) ?_);rintro O _ _ _ VF r L G h_ U;replace QE:=QE.cS r oF L (mC h_);replace hr:=hr.cS r oF L (mC h_);have VN:=U.cV (nw r h_);obtain⟨N0,N1,N2,N3,rfl⟩:=VN.shape;refine jV hτ uw (.two 0 (.two 1 (.one 2 (.one 3 (.one 4 .nil))) 2 (.one 1 (.one 3 (.one 4 .nil)))) 1 (.one 0 (.one 2 (.one 3 (.one 4 .nil))))) d9 ?_;refine⟨?_,?_⟩
   .refine⟨?_,?_⟩
    .exact rtn G fun GE we re=>.inr ⟨Qz,_,_,rfl,key.1▸VN.out re oF,key.2▸hr.out re oF⟩
    .exact rtn G fun GE we re=>.inr ⟨Qz,_,_,rfl,key.1▸VN.out re oF,key.2▸hr.out re oF⟩
   .exact rtn G fun GE we re=>.inr ⟨Qz,_,_,rfl,key.1▸VN.out re oF,key.2▸hr.out re oF⟩
  have U:(x<0)↔(y<0):=by
   have e2:decide (x.sign<0)=decide (y.sign<0):=by simpa using Po
   have:=decide_eq_decide.1 e2;omega
  rw[aM U]at key;refine jV hτ uw (.two 0 (.two 1 (.one 2 (.one 3 (.one 4 .nil))) 2 (.one 1 (.one 3 (.one 4 .nil)))) 1 (.one 0 (.one 2 (.one 3 (.one 4 .nil))))) d9 ?_;refine⟨?_,?_⟩
  .refine⟨?_,?_⟩
   .exact rtn G fun GE we re=>.inr ⟨Qz,_,_,rfl,key.1▸hq.out re oF,key.2▸hr.out re oF⟩
   .exact rtn G fun GE we re=>.inr ⟨Qz,_,_,rfl,key.1▸hq.out re oF,key.2▸hr.out re oF⟩
  .exact rtn G fun GE we re=>.inr ⟨Qz,_,_,rfl,key.1▸hq.out re oF,key.2▸hr.out re oF⟩
 have YA:=aL YA;rw[aI (show ¬(x<0/\0<F9) by omega),aI (show ¬(x<0/\0<F9) by omega)]at key;refine dP [.x 0,.x 3,.x 1,.x 2,.x 4,.x 5,.x 6] ?_;refine cE G (pE (iV x.sign)) (fun O J r=>iM (rlo r W) (E.rel r W).r) ?_;rintro O _ _ _ RS r L G h_ rfl;replace hy:=hy.cS r W L (mC h_);replace QE:=QE.cS r oF L (mC h_);replace hr:=hr.cS r oF L (mC h_);replace hq:=hq.cS r oF L (mC h_);refine cE G (pE (iV y.sign)) (fun O J r=>iM (rlo r W) (hy.rel r W).r) ?_;rintro O _ _ _ Sw r L G h_ rfl;replace QE:=QE.cS r oF L (mC h_);replace hr:=hr.cS r oF L (mC h_);replace hq:=hq.cS r oF L (mC h_);apply bS<;>intro Po
 .have U:¬((x<0)↔(y<0)):=fun e=>by
   have e2:decide (x.sign<0)=decide (y.sign<0):=decide_eq_decide.2 be;rw[e2]at Po;simp at Po
  rw[aI U]at key;refine cW (cE G (pR dX (-(dw Q))) (fun O J r=>oC (rlo r oF) ((hq.rel r oF).l (k:=1000003) be) be) ?_);rintro O _ _ _ VE r L G h_ U;replace QE:=QE.cS r oF L (mC h_);replace hr:=hr.cS r oF L (mC h_);have VN:=U.cV (nw r h_);obtain⟨J0,J1,J2,J3,rfl⟩:=VN.shape;refine jV hτ uw (.two 0 (.two 1 (.one 2 (.one 3 (.one 4 .nil))) 2 (.one 1 (.one 3 (.one 4 .nil)))) 1 (.one 0 (.one 2 (.one 3 (.one 4 .nil))))) d9 ?_;refine⟨?_,?_⟩
  .refine⟨?_,?_⟩
   .exact rtn G fun GE we re=>.inr ⟨Qz,_,_,rfl,key.1▸VN.out re oF,key.2▸hr.out re oF⟩
   .exact rtn G fun GE we re=>.inr ⟨Qz,_,_,rfl,key.1▸VN.out re oF,key.2▸hr.out re oF⟩
  .exact rtn G fun GE we re=>.inr ⟨Qz,_,_,rfl,key.1▸VN.out re oF,key.2▸hr.out re oF⟩
 have U:(x<0)↔(y<0):=by
  have e2:decide (x.sign<0)=decide (y.sign<0):=by simpa using Po
  have:=decide_eq_decide.1 e2;omega
 rw[aM U]at key;refine jV hτ uw (.two 0 (.two 1 (.one 2 (.one 3 (.one 4 .nil))) 2 (.one 1 (.one 3 (.one 4 .nil)))) 1 (.one 0 (.one 2 (.one 3 (.one 4 .nil))))) d9 ?_;refine⟨?_,?_⟩
 .refine⟨?_,?_⟩
  .exact rtn G fun GE we re=>.inr ⟨Qz,_,_,rfl,key.1▸hq.out re oF,key.2▸hr.out re oF⟩
  .exact rtn G fun GE we re=>.inr ⟨Qz,_,_,rfl,key.1▸hq.out re oF,key.2▸hr.out re oF⟩
 .exact rtn G fun GE we re=>.inr ⟨Qz,_,_,rfl,key.1▸hq.out re oF,key.2▸hr.out re oF⟩
theorem jj{k l:Nat}(W:Old S w)(E:fg w S v k x)(hy:fg w S u l y)(R:k<=1000000)(hl:l<=1000000)(h0:y≠0):
  eL PG FS.qR #[v,u] w (eY w fun v' F=>∃q r,v'= .tuple #[q,r,iV 0]/\dX F (Nf w F) q (x / y)/\dX F (Nf w F) r (x % y)):=
 (LJ W E hy R hl).mono fun _ _ ⟨v2,e1,e2,e3⟩=>⟨v2,e1,e2,e3.elim (fun h=>absurd h.1 h0) fun h=>h.2⟩
theorem aA2(x:Nat){y:Nat}(h:y≠0):ln (Nat.gcd x y)<=ln y:=fP (Nat.le_of_dvd be (Nat.gcd_dvd_right x y))
theorem Ii{a b:Int}(A:b≠0):a / (b.sign*(Nat.gcd a.natAbs b.natAbs:Nat))=(Rat.divInt a b).num/\b / (b.sign*(Nat.gcd a.natAbs b.natAbs:Nat))=((Rat.divInt a b).den:Int):=by
 obtain⟨Y,I⟩:=Dp (a:=a) A;have d1:((Nat.gcd a.natAbs b.natAbs:Nat):Int) ∣ a:=Int.ofNat_dvd_left.2 (Nat.gcd_dvd_left _ _);have d2:((Nat.gcd a.natAbs b.natAbs:Nat):Int) ∣ b:=Int.ofNat_dvd_left.2 (Nat.gcd_dvd_right _ _);have sg:b.sign=1\/b.sign= -1:=by rcases gV b with h|h|h<;>omega
 have key:∀c:Int,((Nat.gcd a.natAbs b.natAbs:Nat):Int) ∣ c->b.sign*(Nat.gcd a.natAbs b.natAbs:Nat) ∣ c:=fun c hc=>by
  rcases sg with h|h<;>rw[h]
  .rw[Int.one_mul];exact hc
  .rw[Int.neg_one_mul];exact Int.neg_dvd.2 hc
 rw[<-Y,<-I,Int.tdiv_eq_ediv_of_dvd (key a d1),Int.tdiv_eq_ediv_of_dvd (key b d2)];exact⟨rfl,rfl⟩
theorem Dr{k l:Nat}(W:Old S w)(E:fg w S v k x)(hy:fg w S u l y)(R:k<=1000000)(hl:l<=1000000):
  eL PG FS.wS #[v,u] w (eY w fun v' F=>dX F (Nf w F) v' ((Nat.gcd x.natAbs y.natAbs:Nat):Int)):=by
 have G:=bR w;replace E:=E.cV (S':=Cv S w.heap.size []) fun _ h=>.inl h;replace hy:=hy.cV (S':=Cv S w.heap.size []) fun _ h=>.inl h;obtain⟨b1,a1,n1,c1,rfl⟩:=E.shape;obtain⟨b2,a2,n2,c2,rfl⟩:=hy.shape;refine zF ce ?_;have RL:=E.ln;have R9:=hy.ln;refine dP [.x 0,.x 2,.x 1,.x 3,.x 4,.x 5] ?_;refine cE G (pR dX ((x.natAbs:Int))) (fun O J r=>zh (rlo r W) (E.rel r W) be) ?_;rintro O _ _ _ Pv r L G h_ U;clear E;replace hy:=hy.cS r W L (mC h_);have ha:=U.cV (nw r h_);clear r;obtain⟨A0,A1,A2,A3,rfl⟩:=ha.shape;refine cE G (pR dX ((y.natAbs:Int))) (fun O J r=>zh (rlo r W) (hy.rel r W) be) ?_;rintro O _ _ _ iv2 r L G h_ U;clear hy;replace ha:=ha.cS r oF L (mC h_);have hc:=U.cV (nw r h_);clear r;obtain⟨C0,C1,C2,C3,rfl⟩:=hc.shape
 refine⟨Nat×Nat×(Bool×Option Addr×Nat×Nat)×(Bool×Option Addr×Nat×Nat)×World×Iv,fun z=>⟨[(2,pP 0 0),(3,pP 1 0),(4,pP 2 0)],[(2,.box T.Int [.v (.bool false),.v nls]),(1,.box T.Int [.v (.bool z.2.2.2.1.1),.v (.slice z.2.2.2.1.2.1 z.2.2.2.1.2.2.1 z.2.2.2.1.2.2.2)]),(0,.box T.Int [.v (.bool z.2.2.1.1),.v (.slice z.2.2.1.2.1 z.2.2.1.2.2.1 z.2.2.1.2.2.2)])],3,z.2.2.2.2.2,z.2.2.2.2.1⟩,fun z=>z.2.1,
  fun z=>Nat.gcd z.1 z.2.1=Nat.gcd x.natAbs y.natAbs/\ln z.1<=1000000/\ln z.2.1<=1000000/\Bq w z.2.2.2.2.1/\dX z.2.2.2.2.1 (Cf w z.2.2.2.2.2) (.agg #[.bool z.2.2.1.1,.slice z.2.2.1.2.1 z.2.2.1.2.2.1 z.2.2.1.2.2.2]) (z.1:Int)/\dX z.2.2.2.2.1 (Cf w z.2.2.2.2.2) (.agg #[.bool z.2.2.2.1.1,.slice z.2.2.2.1.2.1 z.2.2.2.1.2.2.1 z.2.2.2.1.2.2.2]) (z.2.1:Int),?_,?_⟩
 .intro O J r
  exact⟨(x.natAbs,y.natAbs,(A0,A1,A2,A3),(C0,C1,C2,C3),J,iv2),⟨rfl,by dsimp only;omega,by dsimp only;omega,G.tr r.cj,ha.rel r oF,hc.rel r oF⟩,
   sbgn [] r⟩
 clear G ha hc;rintro⟨a,b,⟨ba,aa,na,ca⟩,⟨bb,ab,nb,cb⟩,w1,iv⟩ ⟨V,VW,VS,G,ha,hc⟩;dsimp only at V VW VS G ha hc ⊢;refine cW (cE G (pE (iV (b:Int).sign)) (fun O J r=>iM (rlo r oF) (hc.rel r oF).r) ?_);rintro O _ _ _ Pu r L G h_ rfl;replace ha:=ha.cS r oF L (mC h_);replace hc:=hc.cS r oF L (mC h_);clear r;have sb:=gV (b:Int);apply bS<;>intro h
 .have h:=aJ h;have Tz:0<b:=by omega
  have hm:=cM a Tz;have Qj:ln (a % b)<=1000000:=aR (fP be) VS;refine cW (cE G (fun _ J v F=>∃q r,v= .tuple #[q,r,iV 0]/\dX F (Nf J F) q ((a:Int) / b)/\dX F (Nf J F) r ((a:Int) % b)) (fun O J r=>jj (rlo r oF) ((ha.rel r oF).l (k:=1000000) VW) ((hc.rel r oF).l (k:=1000000) VS) be be be) ?_);rintro O _ _ _ QD r L G h_ ⟨q,rr,rfl,k1,k2⟩;clear ha;replace hc:=hc.cS r oF L (mC h_);have hq:=k1.cV (nw r h_);have hr:=k2.cV (nw r h_);clear r;obtain⟨s4_0a,s4_0b,s4_0c,s4_0d,rfl⟩:=hq.shape;obtain⟨s4_1a,s4_1b,s4_1c,s4_1d,rfl⟩:=hr.shape;clear k1 k2 hq;refine jV hτ uw (.two 0 (.two 1 (.one 2 (.one 3 .nil)) 2 (.one 1 (.one 3 .nil))) 1 (.one 0 (.one 2 (.one 3 .nil)))) d9 ?_;refine⟨?_,?_⟩
  .conv=>whnf
   refine⟨?_,?_⟩
   .conv=>whnf
    intro I8 w3 r3;exact⟨(b,a % b,(bb,ab,nb,cb),(s4_1a,s4_1b,s4_1c,s4_1d),w3,_),⟨by dsimp only;rw[<-V,Nat.gcd_comm a b,Nat.gcd_rec b a,Nat.gcd_comm],VS,Qj,G.tr r3.cj,hc.rel r3 oF,hr.rel r3 oF⟩,sbgn [] r3,hm⟩
   .conv=>whnf
    intro I8 w3 r3;exact⟨(b,a % b,(bb,ab,nb,cb),(s4_1a,s4_1b,s4_1c,s4_1d),w3,_),⟨by dsimp only;rw[<-V,Nat.gcd_comm a b,Nat.gcd_rec b a,Nat.gcd_comm],VS,Qj,G.tr r3.cj,hc.rel r3 oF,hr.rel r3 oF⟩,sbgn [] r3,hm⟩
  .conv=>whnf
   intro I8 w3 r3;exact⟨(b,a % b,(bb,ab,nb,cb),(s4_1a,s4_1b,s4_1c,s4_1d),w3,_),⟨by dsimp only;rw[<-V,Nat.gcd_comm a b,Nat.gcd_rec b a,Nat.gcd_comm],VS,Qj,G.tr r3.cj,hc.rel r3 oF,hr.rel r3 oF⟩,sbgn [] r3,hm⟩
 have h:=aL h;obtain rfl:b=0:=by omega
 rw[Nat.gcd_zero_right]at V;subst V;clear hc;exact rtn G fun GE we re=>ha.out re oF
theorem nE{k l:Nat}(W:Old S w)(E:fg w S v k x)(hy:fg w S u l y)(R:k<=1000000)(hl:l<=1000000)(Qz:y≠0):
  eL PG FS.uy #[v,u] w (eY w fun v' F=>dI F (Nf w F) v' (Rat.divInt x y)):=by
 have G:=bR w;replace E:=E.cV (S':=Cv S w.heap.size []) fun _ h=>.inl h;replace hy:=hy.cV (S':=Cv S w.heap.size []) fun _ h=>.inl h;obtain⟨b1,a1,n1,c1,rfl⟩:=E.shape;obtain⟨b2,a2,n2,c2,rfl⟩:=hy.shape;refine uP ce ?_;have RL:=E.ln;have R9:=hy.ln;have hlg:=aA2 x.natAbs (y:=y.natAbs) be;obtain⟨U,hd⟩:=Ii (a:=x) Qz;have sy:=gV y
 refine cW (cE G (fun _ J v F=>∃n p,v= .tuple #[iV n,.bool p]/\(p=true->n=x/\x.natAbs<1073741824)) (fun O J r=>(pn (rlo r W) (E.rel r W).r).mono fun e F ⟨v2,e1,e2,e3⟩=>⟨v2,e1,e2,by
   rw[e3,kx];split
   .exact⟨_,_,rfl,fun _=>⟨rfl,‹_›⟩⟩
   .exact⟨_,_,rfl,fun h=>by cases h⟩⟩) ?_)
 rintro O _ _ _ Pv r L G h_ ⟨nx,px,rfl,qx⟩;replace E:=E.cS r W L (mC h_);replace hy:=hy.cS r W L (mC h_);clear r
 refine cW (cE G (fun _ J v F=>∃n p,v= .tuple #[iV n,.bool p]/\(p=true->n=y/\y.natAbs<1073741824)) (fun O J r=>(pn (rlo r W) (hy.rel r W).r).mono fun e F ⟨v2,e1,e2,e3⟩=>⟨v2,e1,e2,by
   rw[e3,kx];split
   .exact⟨_,_,rfl,fun _=>⟨rfl,‹_›⟩⟩
   .exact⟨_,_,rfl,fun h=>by cases h⟩⟩) ?_)
 rintro O _ _ _ iv2 r L G h_ ⟨ny,py,rfl,qy⟩;replace E:=E.cS r W L (mC h_);replace hy:=hy.cS r W L (mC h_);clear r;apply bS<;>intro Y
 .obtain⟨e1,YA⟩:=qx Y;replace e1:=e1.symm;subst e1;apply bS<;>intro I
  .obtain⟨e2,hys⟩:=qy I;replace e2:=e2.symm;subst e2;clear E hy;refine cW (cE G (pR dI (Rat.divInt x y)) (fun O J r=>tj x y J be be Qz) ?_);rintro O Qo v3 Qc Pu r L G h_ U;have hR:=U.cV (nw r h_);clear r U;obtain⟨A0,A1,A2,A3,A4,A5,A6,A7,rfl⟩:=hR.shape;exact rtn G fun GE we re=>hR.out re oF
  refine cW (cE G (pR dX (((Nat.gcd x.natAbs y.natAbs:Nat):Int))) (fun O J r=>Dr (rlo r W) (E.rel r W) (hy.rel r W) R hl) ?_);rintro O Qo v3 Qc Pu r L G h_ U;replace E:=E.cS r W L (mC h_);replace hy:=hy.cS r W L (mC h_);have V:=U.cV (nw r h_);clear r U;obtain⟨A0,A1,A2,A3,rfl⟩:=V.shape;refine cW (cE G (pE (iV y.sign)) (fun O J r=>iM (rlo r W) (hy.rel r W).r) ?_);rintro O Rl v4 R4 QD r L G h_ rfl;replace E:=E.cS r W L (mC h_);replace hy:=hy.cS r W L (mC h_);replace V:=V.cS r oF L (mC h_);clear r;have hgp:0<Nat.gcd x.natAbs y.natAbs:=cL _ be;generalize Nat.gcd x.natAbs y.natAbs=g at*
  apply bS<;>intro hs
  .have hs:=aJ hs;rw[show y.sign= -1 by omega,Int.neg_one_mul]at U hd;refine cW (cE G (pR dX (-(g:Int))) (fun O J r=>oC (rlo r oF) ((V.rel r oF).l (k:=1000000) (by rw[Int.natAbs_natCast];omega)) be) ?_);rintro O Vs v5 VP QH r L G h_ U;replace E:=E.cS r W L (mC h_);replace hy:=hy.cS r W L (mC h_);clear V;have RF:=U.cV (nw r h_);clear r U;obtain⟨C0,C1,C2,C3,rfl⟩:=RF.shape;refine cW (cE G (fun _ J v F=>∃q r,v= .tuple #[q,r,iV 0]/\dX F (Nf J F) q (Rat.divInt x y).num/\dX F (Nf J F) r (x % (-(g:Int)))) (fun O J r=>U▸jj (rlo r W) (E.rel r W) ((((RF.rel r oF).l (k:=1000000) (by rw[cQ,Int.natAbs_natCast];omega))).cV fun g V=>Cv.false V) R be be) ?_);rintro O VQ v6 VR Qe r L G h_ ⟨q,rr,rfl,k1,k2⟩;clear E;replace hy:=hy.cS r W L (mC h_);replace RF:=RF.cS r oF L (mC h_);have hq:=k1.cV (nw r h_);have hr:=k2.cV (nw r h_);clear r;obtain⟨s6_0a,s6_0b,s6_0c,s6_0d,rfl⟩:=hq.shape;obtain⟨s6_1a,s6_1b,s6_1c,s6_1d,rfl⟩:=hr.shape;clear k1 k2 hr;refine cW (cE G (fun _ J v F=>∃q r,v= .tuple #[q,r,iV 0]/\dX F (Nf J F) q ((Rat.divInt x y).den:Int)/\dX F (Nf J F) r (y % (-(g:Int)))) (fun O J r=>hd▸jj (rlo r W) (hy.rel r W) ((((RF.rel r oF).l (k:=1000000) (by rw[cQ,Int.natAbs_natCast];omega))).cV fun g V=>Cv.false V) hl be be) ?_);rintro O Wy v7 Wz RS r L G h_ ⟨q,rr,rfl,k1,k2⟩;clear hy;clear RF;replace hq:=hq.cS r oF L (mC h_);have Rq:=k1.cV (nw r h_);have hr:=k2.cV (nw r h_);clear r;obtain⟨s7_0a,s7_0b,s7_0c,s7_0d,rfl⟩:=Rq.shape;obtain⟨s7_1a,s7_1b,s7_1c,s7_1d,rfl⟩:=hr.shape;clear k1 k2 hr;exact rtn G fun GE we re=>(dI.of hq Rq).out re oF
  have hs:=aL hs;rw[show y.sign=1 by omega,Int.one_mul]at U hd;refine cW (cE G (fun _ J v F=>∃q r,v= .tuple #[q,r,iV 0]/\dX F (Nf J F) q (Rat.divInt x y).num/\dX F (Nf J F) r (x % ((g:Int)))) (fun O J r=>U▸jj (rlo r W) (E.rel r W) ((((V.rel r oF).l (k:=1000000) (by rw[Int.natAbs_natCast];omega))).cV fun g V=>Cv.false V) R be be) ?_);rintro O Vs v5 VP QH r L G h_ ⟨q,rr,rfl,k1,k2⟩;clear E;replace hy:=hy.cS r W L (mC h_);replace V:=V.cS r oF L (mC h_);have hq:=k1.cV (nw r h_);have hr:=k2.cV (nw r h_);clear r;obtain⟨s5_0a,s5_0b,s5_0c,s5_0d,rfl⟩:=hq.shape;obtain⟨s5_1a,s5_1b,s5_1c,s5_1d,rfl⟩:=hr.shape;clear k1 k2 hr;refine cW (cE G (fun _ J v F=>∃q r,v= .tuple #[q,r,iV 0]/\dX F (Nf J F) q ((Rat.divInt x y).den:Int)/\dX F (Nf J F) r (y % ((g:Int)))) (fun O J r=>hd▸jj (rlo r W) (hy.rel r W) ((((V.rel r oF).l (k:=1000000) (by rw[Int.natAbs_natCast];omega))).cV fun g V=>Cv.false V) hl be be) ?_);rintro O VQ v6 VR Qe r L G h_ ⟨q,rr,rfl,k1,k2⟩;clear hy;clear V;replace hq:=hq.cS r oF L (mC h_);have Rq:=k1.cV (nw r h_);have hr:=k2.cV (nw r h_);clear r;obtain⟨s6_0a,s6_0b,s6_0c,s6_0d,rfl⟩:=Rq.shape;obtain⟨s6_1a,s6_1b,s6_1c,s6_1d,rfl⟩:=hr.shape;clear k1 k2 hr;exact rtn G fun GE we re=>(dI.of hq Rq).out re oF
 refine cW (cE G (pR dX (((Nat.gcd x.natAbs y.natAbs:Nat):Int))) (fun O J r=>Dr (rlo r W) (E.rel r W) (hy.rel r W) R hl) ?_);rintro O _ _ _ Pu r L G h_ U;replace E:=E.cS r W L (mC h_);replace hy:=hy.cS r W L (mC h_);have V:=U.cV (nw r h_);clear r U;obtain⟨A0,A1,A2,A3,rfl⟩:=V.shape;refine cW (cE G (pE (iV y.sign)) (fun O J r=>iM (rlo r W) (hy.rel r W).r) ?_);rintro O _ _ _ QD r L G h_ rfl;replace E:=E.cS r W L (mC h_);replace hy:=hy.cS r W L (mC h_);replace V:=V.cS r oF L (mC h_);clear r;have hgp:0<Nat.gcd x.natAbs y.natAbs:=cL _ be;generalize Nat.gcd x.natAbs y.natAbs=g at*
 apply bS<;>intro hs
 .have hs:=aJ hs;rw[show y.sign= -1 by omega,Int.neg_one_mul]at U hd;refine cW (cE G (pR dX (-(g:Int))) (fun O J r=>oC (rlo r oF) ((V.rel r oF).l (k:=1000000) (by rw[Int.natAbs_natCast];omega)) be) ?_);rintro O Vs v5 VP QH r L G h_ U;replace E:=E.cS r W L (mC h_);replace hy:=hy.cS r W L (mC h_);clear V;have RF:=U.cV (nw r h_);clear r U;obtain⟨C0,C1,C2,C3,rfl⟩:=RF.shape;refine cW (cE G (fun _ J v F=>∃q r,v= .tuple #[q,r,iV 0]/\dX F (Nf J F) q (Rat.divInt x y).num/\dX F (Nf J F) r (x % (-(g:Int)))) (fun O J r=>U▸jj (rlo r W) (E.rel r W) ((((RF.rel r oF).l (k:=1000000) (by rw[cQ,Int.natAbs_natCast];omega))).cV fun g V=>Cv.false V) R be be) ?_);rintro O VQ v6 VR Qe r L G h_ ⟨q,rr,rfl,k1,k2⟩;clear E;replace hy:=hy.cS r W L (mC h_);replace RF:=RF.cS r oF L (mC h_);have hq:=k1.cV (nw r h_);have hr:=k2.cV (nw r h_);clear r;obtain⟨s6_0a,s6_0b,s6_0c,s6_0d,rfl⟩:=hq.shape;obtain⟨s6_1a,s6_1b,s6_1c,s6_1d,rfl⟩:=hr.shape;clear k1 k2 hr;refine cW (cE G (fun _ J v F=>∃q r,v= .tuple #[q,r,iV 0]/\dX F (Nf J F) q ((Rat.divInt x y).den:Int)/\dX F (Nf J F) r (y % (-(g:Int)))) (fun O J r=>hd▸jj (rlo r W) (hy.rel r W) ((((RF.rel r oF).l (k:=1000000) (by rw[cQ,Int.natAbs_natCast];omega))).cV fun g V=>Cv.false V) hl be be) ?_);rintro O _ _ _ RS r L G h_ ⟨q,rr,rfl,k1,k2⟩;clear hy;clear RF;replace hq:=hq.cS r oF L (mC h_);have Rq:=k1.cV (nw r h_);have hr:=k2.cV (nw r h_);clear r;obtain⟨s7_0a,s7_0b,s7_0c,s7_0d,rfl⟩:=Rq.shape;obtain⟨s7_1a,s7_1b,s7_1c,s7_1d,rfl⟩:=hr.shape;clear k1 k2 hr;exact rtn G fun GE we re=>(dI.of hq Rq).out re oF
 have hs:=aL hs;rw[show y.sign=1 by omega,Int.one_mul]at U hd;refine cW (cE G (fun _ J v F=>∃q r,v= .tuple #[q,r,iV 0]/\dX F (Nf J F) q (Rat.divInt x y).num/\dX F (Nf J F) r (x % ((g:Int)))) (fun O J r=>U▸jj (rlo r W) (E.rel r W) ((((V.rel r oF).l (k:=1000000) (by rw[Int.natAbs_natCast];omega))).cV fun g V=>Cv.false V) R be be) ?_);rintro O _ _ _ QH r L G h_ ⟨q,rr,rfl,k1,k2⟩;clear E;replace hy:=hy.cS r W L (mC h_);replace V:=V.cS r oF L (mC h_);have hq:=k1.cV (nw r h_);have hr:=k2.cV (nw r h_);clear r;obtain⟨s5_0a,s5_0b,s5_0c,s5_0d,rfl⟩:=hq.shape;obtain⟨s5_1a,s5_1b,s5_1c,s5_1d,rfl⟩:=hr.shape;clear k1 k2 hr;refine cW (cE G (fun _ J v F=>∃q r,v= .tuple #[q,r,iV 0]/\dX F (Nf J F) q ((Rat.divInt x y).den:Int)/\dX F (Nf J F) r (y % ((g:Int)))) (fun O J r=>hd▸jj (rlo r W) (hy.rel r W) ((((V.rel r oF).l (k:=1000000) (by rw[Int.natAbs_natCast];omega))).cV fun g V=>Cv.false V) hl be be) ?_);rintro O _ _ _ Qe r L G h_ ⟨q,rr,rfl,k1,k2⟩;clear hy;clear V;replace hq:=hq.cS r oF L (mC h_);have Rq:=k1.cV (nw r h_);have hr:=k2.cV (nw r h_);clear r;obtain⟨s6_0a,s6_0b,s6_0c,s6_0d,rfl⟩:=Rq.shape;obtain⟨s6_1a,s6_1b,s6_1c,s6_1d,rfl⟩:=hr.shape;clear k1 k2 hr;exact rtn G fun GE we re=>(dI.of hq Rq).out re oF
end Go.Ex
