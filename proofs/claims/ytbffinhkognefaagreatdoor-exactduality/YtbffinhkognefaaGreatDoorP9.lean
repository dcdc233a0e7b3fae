/- Texts X56 to X62: lemmas, each with its conditions. -/
import Derived.Test.YtbffinhkognefaaGreatDoorP8
namespace Go.Ex
open Go Go.Sx Go.Proofs
variable{ks:List (Head×Head)}{S:Nat->Prop}{v:Value}{w:World}
def ug:List (Head×Head)->List Value
 |[]=>[]
 |k::r=>.bool k.1.1:: .slice k.1.2.1 k.1.2.2.1 k.1.2.2.2:: .bool k.2.1:: .slice k.2.2.1 k.2.2.2.1 k.2.2.2.2::ug r
theorem yu:∀{ks:List (Head×Head)} {i:Nat} {k:Head×Head},ks[i]? =some k->(ug ks)[i*4+1]? =some (.slice k.1.2.1 k.1.2.2.1 k.1.2.2.2)/\(ug ks)[i*4+3]? =some (.slice k.2.2.1 k.2.2.2.1 k.2.2.2.2)
 |[],i,k,h=>by simp at h
 |k0::r,0,k,h=>by injection h with h;subst h;exact⟨rfl,rfl⟩
 |k0::r,i+1,k,h=>by
  have:=yu (ks:=r) (i:=i) (k:=k) (by simpa using h);rw[show (i+1)*4+1=(i*4+1)+4 by omega,show(i+1)*4+3=(i*4+3)+4 by omega];exact this
theorem yv(ad:Addr)(i j:Nat):(ad.add i).add j=ad.add (i+j):=by
 unfold Addr.add;split<;>split<;>simp_all<;>omega
theorem tm(L:Old S w)(h:fy w S 4 v (ug ks) ks.length):
  eD PG Fd.qE #[v] w (eL w fun v' _=>v'= .bool (decide (∀k∈ks,k.1.2.2.1<=3/\k.2.2.2.1<=3))):=by
 obtain⟨h0,W,I,a,c,rfl,h3,h4⟩:=h;unfold maxLen at h0;refine xx ce ?_;conv=>whnf
 refine⟨Nat×World,fun z=>⟨[(0,sV a ks.length c),(3,iZ z.1)],[],0,[],z.2⟩,fun z=>ks.length-z.1,
  fun z=>z.1<=ks.length/\Bq w z.2/\∀k∈ks.take z.1,k.1.2.2.1<=3/\k.2.2.2.1<=3,?_,?_⟩
 .intro O J r;exact⟨(0,J),⟨ce,r.cV,ce⟩,sbgn [] r⟩
 rintro⟨i,w1⟩ ⟨R,Y,ht⟩;dsimp only at R Y ht ⊢;conv=>whnf
 apply bS<;>intro OJ
 .have OJ:=dL OJ;obtain⟨k,Z⟩:=gO ks i;obtain⟨g1,g2⟩:=yu Z;obtain⟨ad,rfl,q1,q2⟩:=h4 _ _ g1;obtain⟨ad2,e2,q3,q4⟩:=h4 _ _ g2;injection e2 with e2;subst e2;have QU:∀{H nx iv O J} (j:Nat) (u:Value),w.cell? (ad.add (i*4+j))=some u->Rel H nx iv w.heap.size w1 O J->J.cell? (ad.add ((i:Int).toNat*4+j))=some u:=fun{H nx iv O J} j u hu r=>by
   rw[aN,cg (w:=w) (F:=J) (by rw[eQ];exact(Y.tr r.cV).block _ (L _ q1))];exact hu
  conv=>whnf
  refine⟨ad,rfl,be,?_⟩;conv=>whnf
  refine⟨.slice k.1.2.1 k.1.2.2.1 k.1.2.2.2,fun O J r=>?_,?_⟩
  .simp only[yv];exact QU 1 _ q2 r
  conv=>whnf
  apply bS<;>intro V
  .have V:3<k.1.2.2.1:=by
    have:=aI V;omega
   conv=>whnf
   intro O F r;refine⟨_,rfl,Y.tr r.cV,?_⟩;rw[av (fun e=>by have:=(e k (aG Z)).1;omega)];rfl
  have V:k.1.2.2.1<=3:=by
   have:=aL V;omega
  conv=>whnf
  refine⟨ad,rfl,be,?_⟩;conv=>whnf
  refine⟨.slice k.2.2.1 k.2.2.2.1 k.2.2.2.2,fun O J r=>?_,?_⟩
  .simp only[yv];exact QU 3 _ q4 r
  conv=>whnf
  apply bS<;>intro Pa
  .have Pa:3<k.2.2.2.1:=by
    have:=aI Pa;omega
   conv=>whnf
   intro O F r;refine⟨_,rfl,Y.tr r.cV,?_⟩;rw[av (fun e=>by have:=(e k (aG Z)).2;omega)];rfl
  have Pa:k.2.2.2.1<=3:=by
   have:=aL Pa;omega
  have UH:∀k∈ks.take (i+1),k.1.2.2.1<=3/\k.2.2.2.1<=3:=fun k' h'=>by
   rw[bE,Z]at h';rcases bY.1 h' with h'|h'
   .exact ht k' h'
   .simp at h';rw[h'];exact⟨V,Pa⟩
  conv=>whnf
  refine inc i ?_;conv=>whnf
  intro IR w3 r3;exact⟨(i+1,w3),⟨OJ,Y.tr r3.cV,UH⟩,sbgn [] r3,dec OJ⟩
 have OJ:i=ks.length:=by
  have:¬i<ks.length:=by simpa using OJ
  omega
 subst OJ;rw[bF]at ht;conv=>whnf
 intro O F r;exact⟨_,rfl,Y.tr r.cV,by rw[bQ ht];rfl⟩
def Lq(w:World)(S:Nat->Prop)(v:Value)(q:Rat):Prop:=∃a b,kU w S v a b/\ratio a b=q/\ln a.natAbs<=100000/\ln b.natAbs<=100000
theorem Lq.shape{q:Rat}(h:Lq w S v q):∃b a n c b2 a2 n2 c2,v= .agg #[.bool b,.slice a n c,.bool b2,.slice a2 n2 c2]:=by
 obtain⟨a,b,W,_⟩:=h;exact W.shape
theorem s7(q:Rat):ratio q.num q.den=q:=by rw[ratio,aK (gC q),Rat.num_divInt_den]
section
variable{S S':Nat->Prop}{H:Hp}{nx:Nat}{iv K:Iv}{B:Nat}{w J F:World}{O:Nat->Sx.dc}{v:Value}{q:Rat}
end
end Go.Ex
namespace Go.Ex
theorem Kw(q:Rat):rs (-q)= -rs q:=by rw[rs,rs,Rat.neg_num,Int.sign_neg]
end Go.Ex
namespace Go.Ex
open Go Go.Sx Go.Proofs
variable{b:Bool}{x z:Int}{cs:List Int}{ls:List Nat}{n:Nat}{S:Nat->Prop}{lv v:Value}{w:World}
def fA(w:World)(S:Nat->Prop)(v:Value)(k:Nat)(z:Int):Prop:=∃neg ls,tW w S v neg ls/\sg neg (val ls)=z/\ls.length<=k
theorem fA.cP{F:World}{k:Nat}(h:fA w S v k z)(Z:∀g,S g->F.heap[g]? =w.heap[g]?):fA F S v k z:=by
 obtain⟨n,l,W,I⟩:=h;exact⟨n,l,W.cP Z,I⟩
theorem fA.cO{S':Nat->Prop}{k:Nat}(h:fA w S v k z)(Z:∀g,S g->S' g):fA w S' v k z:=by
 obtain⟨n,l,W,I⟩:=h;exact⟨n,l,W.cO Z,I⟩
theorem fA.r{k:Nat}(h:fA w S v k z):jE w S v z:=by
 obtain⟨n,l,W,I,_⟩:=h;exact⟨n,l,W,I⟩
theorem fA.up{k k':Nat}(h:fA w S v k z)(Z:k<=k'):fA w S v k' z:=by
 obtain⟨n,l,W,I,h3⟩:=h;exact⟨n,l,W,I,be⟩
theorem fA.shape{k:Nat}(h:fA w S v k z):∃b a n c,v= .agg #[.bool b,.slice a n c]:=h.r.shape
theorem dG.l{k:Nat}(h:dG w S v z)(Z:ln z.natAbs<=k):fA w S v k z:=by
 obtain⟨l,W,I,h3⟩:=h;obtain⟨_,_,hl⟩:=W;have:=dX hl.lm I;rw[h3]at this;exact⟨_,l,⟨_,‹_›,hl⟩,by rw[h3,AK],be⟩
section
variable{S S':Nat->Prop}{H:Hp}{nx:Nat}{iv K:Iv}{B:Nat}{w J F:World}{O:Nat->Sx.dc}{v:Value}{k:Nat}{z:Int}
theorem fA.rel(h:fA w (Cv S B iv) v k z)(r:Rel H nx iv B w O J)(L:∀g,S g->g<B):fA J (Cv S B iv) v k z:=h.cP fun _ V=>rls r L V
theorem fA.cL(h:fA w (Cv S B iv) v k z)(r:Rel H nx iv B w O J)(L:∀g,S g->g<B)(G:Ext J F)(hm:∀p,p∈iv->p∈K):fA F (Cv S B K) v k z:=
 ((h.rel r L).cP fun g V=>G.block g (rlo r L g V)).cO fun _ V=>V.mono hm
end
section
variable{S S':Nat->Prop}{H:Hp}{nx:Nat}{iv K:Iv}{B:Nat}{w J F:World}{O:Nat->Sx.dc}{v:Value}{cs:List Int}
theorem du.rel(h:du w (Cv S B iv) v cs)(r:Rel H nx iv B w O J)(L:∀g,S g->g<B):du J (Cv S B iv) v cs:=du.cP h fun _ V=>rls r L V
theorem du.cL(h:du w (Cv S B iv) v cs)(r:Rel H nx iv B w O J)(L:∀g,S g->g<B)(G:Ext J F)(hm:∀p,p∈iv->p∈K):du F (Cv S B K) v cs:=
 (du.cP (h.rel r L) fun g V=>G.block g (rlo r L g V)).cO fun _ V=>V.mono hm
theorem du.eX(h:du F (Nf J F) v cs)(hB:B<=J.heap.size)(hm:(J.heap.size,F.heap.size)∈iv):du F (Cv S B iv) v cs:=du.cO h fun _ V=>V.eX hB hm
end
def Lz(b:Bool):Int:=if b then -1 else 1
theorem Lp(b:Bool):Lz b=1\/Lz b= -1:=by cases b<;>simp[Lz]
theorem KY(b:Bool)(n:Nat):Lz b*(n:Int)=sg b n:=by cases b<;>simp[Lz,sg]
theorem El{neg:Bool}(L:Old S w)(h:tW w S v neg ls)(hl:ls.length<=40000000):
  eD PG Fd.mu #[v] w (eL w fun v' F=>du F (Nf w F) v' (dy (Lz neg) ls)):=by
 obtain⟨lv,rfl,hL⟩:=h;have PE:=hL.lm;obtain⟨a,c,rfl,hc,OY⟩:=hL.sl;refine uS ce ?_
 cases neg with
 |true=>
  refine⟨Nat×World,fun z=>⟨[(1,pP 0 0),(3,.o (.v (iV (-1)))),(4,.o (.w 1 (2*z.1))),(5,iZ z.1)],[(1,.vec T.int 1 ((dy (-1) (ls.take z.1)).map (Value.int .i64))),(0,.box T.Int [.v (.bool true),.v (.slice a ls.length c)])],2,[],z.2⟩,fun z=>ls.length-z.1,
   fun z=>Bq w z.2/\z.1<=ls.length,?_,?_⟩
  .intro O J r
   exact⟨(0,J),⟨r.cV,ce⟩,Sub.nil 4 T.int 1 rfl (by simp[ka,SV.sc,At.sc,gW]) r fun Id r1=>
    sbgn [] r1⟩
  rintro⟨i,w1⟩ ⟨Y,R⟩;dsimp only at Y R ⊢;have Rn:((dy (-1) (ls.take i)).map (Value.int .i64)).length=2*i:=by rw[aJ,iF,bL];omega
  apply bS<;>intro h
  .have h:=dL h;obtain⟨x,E⟩:=gO ls i;have QQ:=PE x (aG E);obtain⟨ad,rfl,q1,q2⟩:=OY i x E;have Su:dy (-1) (ls.take (i+1))=dy (-1) (ls.take i)++[(-1)*((x % 65536:Nat):Int),(-1)*((x / 65536:Nat):Int)]:=by rw[bE,E,Option.toList_some,ov];rfl
   refine⟨ad,rfl,be,.int .u32 x,fun O J r=>?_,?_⟩
   .rw[aN,bC];exact fY L Y r q1 q2
   refine⟨(x:Int),wo,bv,((x % 65536:Nat):Int),rfl,(-1)*((x % 65536:Nat):Int),wo,bv,((x / 65536:Nat):Int),by rw[show (x:Int).tdiv 65536=((x / 65536:Nat):Int)from rfl,wrap64]<;>omega,(-1)*((x / 65536:Nat):Int),wo,?_⟩;refine .inl ?_;refine⟨by rw[Rn,bC],be,mx,((i+1:Nat):Int),wo,?_⟩;intro IR w3 r3;have S6:(dy (-1) (ls.take (i+1))).map (Value.int .i64)=(dy (-1) (ls.take i)).map (Value.int .i64)++[iV ((-1)*((x % 65536:Nat):Int)),iV ((-1)*((x / 65536:Nat):Int))]:=by
    rw[Su];simp
   exact⟨(i+1,w3),⟨Y.tr r3.cV,by dsimp only;omega⟩,sbgn [(1,3)] r3 ⟨by dsimp only;rw[S6];rfl,rfl,trivial⟩,by dsimp only;omega⟩
  have h:i=ls.length:=by
   have:¬i<ls.length:=by simpa using h
   omega
  subst h;rw[bF]at Rn ⊢;intro I8 we re;have OI:=re.Ba (id:=1) (m:=2*ls.length) rfl (by rw[Rn,bC]) bv;have Rv:=rT OI (by rw[iF]) mx;refine⟨_,rfl,Y.tr re.cV,du.cO Rv fun g V=>.inr ?_⟩;have:=ownsRow.low OI g V;exact this
 |false=>
  refine⟨Nat×World,fun z=>⟨[(1,pP 0 0),(3,.o (.v (iV (1)))),(4,.o (.w 1 (2*z.1))),(5,iZ z.1)],[(1,.vec T.int 1 ((dy (1) (ls.take z.1)).map (Value.int .i64))),(0,.box T.Int [.v (.bool false),.v (.slice a ls.length c)])],2,[],z.2⟩,fun z=>ls.length-z.1,
   fun z=>Bq w z.2/\z.1<=ls.length,?_,?_⟩
  .intro O J r
   exact⟨(0,J),⟨r.cV,ce⟩,Sub.nil 4 T.int 1 rfl (by simp[ka,SV.sc,At.sc,gW]) r fun Id r1=>
    sbgn [] r1⟩
  rintro⟨i,w1⟩ ⟨Y,R⟩;dsimp only at Y R ⊢;have Rn:((dy (1) (ls.take i)).map (Value.int .i64)).length=2*i:=by rw[aJ,iF,bL];omega
  apply bS<;>intro h
  .have h:=dL h;obtain⟨x,E⟩:=gO ls i;have QQ:=PE x (aG E);obtain⟨ad,rfl,q1,q2⟩:=OY i x E;have Su:dy (1) (ls.take (i+1))=dy (1) (ls.take i)++[(1)*((x % 65536:Nat):Int),(1)*((x / 65536:Nat):Int)]:=by rw[bE,E,Option.toList_some,ov];rfl
   refine⟨ad,rfl,be,.int .u32 x,fun O J r=>?_,?_⟩
   .rw[aN,bC];exact fY L Y r q1 q2
   refine⟨(x:Int),wo,bv,((x % 65536:Nat):Int),rfl,(1)*((x % 65536:Nat):Int),wo,bv,((x / 65536:Nat):Int),by rw[show (x:Int).tdiv 65536=((x / 65536:Nat):Int)from rfl,wrap64]<;>omega,(1)*((x / 65536:Nat):Int),wo,?_⟩;refine .inl ?_;refine⟨by rw[Rn,bC],be,mx,((i+1:Nat):Int),wo,?_⟩;intro IR w3 r3;have S6:(dy (1) (ls.take (i+1))).map (Value.int .i64)=(dy (1) (ls.take i)).map (Value.int .i64)++[iV ((1)*((x % 65536:Nat):Int)),iV ((1)*((x / 65536:Nat):Int))]:=by
    rw[Su];simp
   exact⟨(i+1,w3),⟨Y.tr r3.cV,by dsimp only;omega⟩,sbgn [(1,3)] r3 ⟨by dsimp only;rw[S6];rfl,rfl,trivial⟩,by dsimp only;omega⟩
  have h:i=ls.length:=by
   have:¬i<ls.length:=by simpa using h
   omega
  subst h;rw[bF]at Rn ⊢;intro I8 we re;have OI:=re.Ba (id:=1) (m:=2*ls.length) rfl (by rw[Rn,bC]) bv;have Rv:=rT OI (by rw[iF]) mx;refine⟨_,rfl,Y.tr re.cV,du.cO Rv fun g V=>.inr ?_⟩;have:=ownsRow.low OI g V;exact this
def zZ(cs:List Int)(n:Nat)(z:Int):Prop:=dS cs=z/\cs.length<=n/\(∀c∈cs,-65535<=c/\c<=65535)/\(0<=z->∀c∈cs,0<=c)
theorem z3(s:Int)(h:val ls=0):∀c∈dy s ls,c=0:=fun c hc=>by
 induction ls with
 |nil=>cases hc
 |cons l r ih=>
  have h:l+4294967296*val r=0:=h;have W:l=0:=by omega
  have I:val r=0:=by omega
  subst W;rw[dy]at hc;rcases List.mem_cons.1 hc with rfl|hc
  .simp
  rcases List.mem_cons.1 hc with rfl|hc
  .simp
  .exact ih I hc
theorem fA.yS{k:Nat}(h:fA w S v k z):∃b a ls c,v= .agg #[.bool b,.slice a ls.length c]/\dI w S (.slice a ls.length c) ls/\sg b (val ls)=z/\ls.length<=k:=by
 obtain⟨b,ls,⟨lv,rfl,hl⟩,hz,Z⟩:=h;obtain⟨a,c,rfl,_⟩:=hl.sl;exact⟨b,a,ls,c,rfl,hl,hz,Z⟩
theorem fA.ln{k:Nat}(h:fA w S v k z):ln z.natAbs<=k:=by
 obtain⟨b,a,ls,c,_,hl,hz,Z⟩:=h.yS;rw[<-hz,mz];exact JG hl.lm Z
theorem fA.neg{k:Nat}(h:fA w S (.agg #[.bool b,lv]) k z):fA w S (.agg #[.bool (!b),lv]) k (-z):=by
 obtain⟨b,ls,⟨lv,e,hl⟩,hz,Z⟩:=h;simp only[Value.agg.injEq,Array.mk.injEq,List.cons.injEq,Value.bool.injEq,and_true]at e;obtain⟨rfl,rfl⟩:=e;refine⟨_,ls,⟨_,rfl,hl⟩,?_,Z⟩;rw[<-hz]
 cases b<;>simp[sg]
theorem fA.abs{k:Nat}(h:fA w S (.agg #[.bool b,lv]) k z):fA w S (.agg #[.bool false,lv]) k (z.natAbs:Int):=by
 obtain⟨b,ls,⟨lv,e,hl⟩,hz,Z⟩:=h;simp only[Value.agg.injEq,Array.mk.injEq,List.cons.injEq,Value.bool.injEq,and_true]at e;obtain⟨rfl,rfl⟩:=e;exact⟨_,ls,⟨_,rfl,hl⟩,by rw[<-hz,mz];rfl,Z⟩
theorem rW{k:Nat}(L:Old S w)(h:fA w S v k z)(Z:k<=40000000):
  eD PG Fd.mu #[v] w (eL w fun v' F=>∃cs,du F (Nf w F) v' cs/\zZ cs (2*k) z):=by
 obtain⟨b,ls,R,hz,hl⟩:=h;have PE:Lm ls:=by obtain⟨_,_,h⟩:=R;exact h.lm
 refine(El L R be).mono fun _ F ⟨v2,e1,e2,e3⟩=>⟨v2,e1,e2,_,e3,by rw[BD,KY,hz],by rw[iF];omega,xf (Lp b) PE,fun h0=>?_⟩
 cases b with
 |false=>exact fun c hc=>(vq PE c hc).1
 |true=>
  rw[Gm]at hz;exact fun c hc=>by rw[z3 _ (show val ls=0 by omega) c hc];decide
theorem Em(L:Old S w)(h:du w S v cs)(N:zZ cs n z)(U:n<=100000000):
  eD PG Fd.kF #[v] w (eL w fun v' F=>dG F (Nf w F) v' z):=by
 have:=uf L h (fun c hc=>by have:=N.2.2.1 c hc;omega) (by have:=N.2.1;omega);rw[N.1]at this;exact this
theorem JI{k:Nat}(L:Old S w)(E:fA w S v k x)(Z:k<=40000000):
  eD PG Fd.AG #[v] w (eL w fun v' F=>dG F (Nf w F) v' x):=by
 have Y:=bR w;replace E:=E.cO (S':=Cv S w.heap.size []) fun _ h=>.inl h;obtain⟨b1,a1,n1,c1,rfl⟩:=E.shape;refine BM ce ?_;refine cM (cE Y (fun _ J v F=>∃cs,du F (Nf J F) v cs/\zZ cs (2*k) (x)) (fun O J r=>rW (rlo r L) (E.rel r L) be) ?_);rintro O _ _ _ OS r G Y A ⟨cs,k1,bcs⟩;have hc:=k1.cO (nw r A);obtain⟨acs,ccs,rfl,lcs⟩:=hc.shape;refine cM (cE Y (pR dG (x)) (fun O J r=>Em (rlo r oF) (hc.rel r oF) bcs be) ?_);rintro O _ _ _ iv2 r G Y A U;have hC:=U.cO (nw r A);obtain⟨A0,A1,A2,A3,rfl⟩:=hC.shape;exact rtn Y fun I8 we re=>hC.out re oF
theorem mJ{k:Nat}(L:Old S w)(E:fA w S v k x)(Z:k<=40000000):
  eD PG Fd.vD #[v] w (eL w fun v' F=>dG F (Nf w F) v' (-x)):=by
 have Y:=bR w;replace E:=E.cO (S':=Cv S w.heap.size []) fun _ h=>.inl h;obtain⟨b1,a1,n1,c1,rfl⟩:=E.shape;replace E:=E.neg;refine yE ce ?_;refine cM (cE Y (pR dG (-x)) (fun O J r=>JI (rlo r L) (E.rel r L) Z) ?_);rintro O _ _ _ OS r G Y A U;have hC:=U.cO (nw r A);obtain⟨A0,A1,A2,A3,rfl⟩:=hC.shape;exact rtn Y fun I8 we re=>hC.out re oF
theorem wv{k:Nat}(L:Old S w)(E:fA w S v k x)(Z:k<=40000000):
  eD PG Fd.xo #[v] w (eL w fun v' F=>dG F (Nf w F) v' ((x.natAbs:Int))):=by
 have Y:=bR w;replace E:=E.cO (S':=Cv S w.heap.size []) fun _ h=>.inl h;obtain⟨b1,a1,n1,c1,rfl⟩:=E.shape;replace E:=E.abs;refine zO ce ?_;refine cM (cE Y (pR dG ((x.natAbs:Int))) (fun O J r=>JI (rlo r L) (E.rel r L) Z) ?_);rintro O _ _ _ OS r G Y A U;have hC:=U.cO (nw r A);obtain⟨A0,A1,A2,A3,rfl⟩:=hC.shape;exact rtn Y fun I8 we re=>hC.out re oF
theorem Kn{i:Nat}(L:Old S w)(h:du w S v cs):
  eD PG Fd.Cm #[v,iV i] w (eL w fun v' _=>v'=iV (cs.getD i 0)):=by
 obtain⟨a,c,rfl,hc⟩:=h.shape;refine Cq ce ?_;apply bS<;>intro R
 .have R:=dL R;obtain⟨x,E⟩:=gO cs i;obtain⟨ad,rfl,q1,q2⟩:=h.load E;refine⟨ad,rfl,be,iV x,fun O J r=>?_,?_⟩
  .rw[aN];exact fY L Bel.refl r q1 q2
  intro O F r;exact⟨_,rfl,r.cV,by rw[List.getD,E];rfl⟩
 .have R:cs.length<=i:=by
   have:¬i<cs.length:=by simpa using R
   omega
  intro O F r;exact⟨_,rfl,r.cV,by rw[List.getD,List.getElem?_eq_none R];rfl⟩
theorem val_zero(h:∀x∈ls,x=0):val ls=0:=by
 induction ls with
 |nil=>rfl
 |cons l r ih=>rw[val,h l aF,ih fun x E=>h x (aD _ E)]
theorem KZ{x:Nat}(h:x∈ls)(E:x≠0):0<val ls:=by
 induction ls with
 |nil=>cases h
 |cons l r ih=>
  rw[val];rcases List.mem_cons.1 h with rfl|h
  .omega
  .have:=ih h;omega
theorem gM(L:Old S w)(E:jE w S v x):
  eD PG Fd.xm #[v] w (eL w fun v' _=>v'=iV x.sign):=by
 obtain⟨b,ls,⟨lv,rfl,W⟩,hz⟩:=E;obtain⟨a,c,rfl,_,ha⟩:=W.sl;have hle1:=W.le;refine zM ce ?_
 refine⟨Nat×World,fun z=>⟨[(1,pP 0 0),(3,iZ z.1)],[(0,.box T.Int [.v (.bool b),.v (.slice a ls.length c)])],1,[],z.2⟩,fun z=>ls.length-z.1,
  fun z=>z.1<=ls.length/\Bq w z.2/\∀x∈ls.take z.1,x=0,?_,?_⟩
 .intro O J r;exact⟨(0,J),⟨ce,r.cV,ce⟩,sbgn [] r⟩
 rintro⟨i,w1⟩ ⟨R,Y,ht⟩;dsimp only at R Y ht ⊢;apply bS<;>intro OJ
 .have OJ:=dL OJ;obtain⟨y,hy⟩:=gO ls i;obtain⟨ad,rfl,q1,q2⟩:=ha i y hy;refine⟨ad,rfl,be,.int .u32 y,fun O J r=>by rw[aN,bC];exact fY L Y r q1 q2,?_⟩;apply bS<;>intro OL
  .have OL:y≠0:=fun h=>by rw[h]at OL;simp at OL
   have hp:=KZ (aG hy) OL
   cases b with
   |true=>
    rw[Gm]at hz;intro O F r;exact⟨_,rfl,Y.tr r.cV,by rw[bm be];rfl⟩
   |false=>
    rw[LN]at hz;intro O F r;exact⟨_,rfl,Y.tr r.cV,by rw[cD be];rfl⟩
  have OL:y=0:=by simpa using OL
  subst OL;have UH:∀x∈ls.take (i+1),x=0:=fun x E=>by
   rw[bE,hy]at E;rcases bY.1 E with E|E
   .exact ht x E
   .simpa using E
  refine inc i ?_;intro IR w3 r3;exact⟨(i+1,w3),⟨OJ,Y.tr r3.cV,UH⟩,sbgn [] r3,dec OJ⟩
 have OJ:i=ls.length:=by
  have:¬i<ls.length:=by simpa using OJ
  omega
 subst OJ;rw[bF]at ht;intro O F r;refine⟨_,rfl,Y.tr r.cV,?_⟩;rw[<-hz,val_zero ht]
 cases b<;>rfl
theorem zZ.at(h:zZ cs n z)(i:Nat): -65535<=cs.getD i 0/\cs.getD i 0<=65535:=by
 rw[List.getD]
 cases hj:cs[i]? with
 |none=>simp
 |some d=>exact h.2.2.1 d (aG hj)
end Go.Ex
namespace Go.Sx
open Go Go.Ex Go.Proofs
variable{cs:List Int}{O:Nat->Sx.dc}
theorem Rel.K1{H:Hp}{nx:Nat}{iv:Iv}{B:Nat}{w J:World}(r:Rel H nx iv B w O J){id m:Nat}(h:dF H id=some (.vec T.int 1 (cs.map (Value.int .i64))))(hm:m=cs.length)(hl:m<=maxLen):
  ∃S',Old S' J/\du J S' ((SV.o (.w id m)).den O) cs:=by
 have OI:=r.Ba (m:=m) h (by rw[aJ,hm,bC]) bv;exact⟨_,fun g V=>(ownsRow.low OI g V).2,rT OI hm hl⟩
end Go.Sx
namespace Go.Ex
open Go Go.Sx Go.Proofs
section
variable{x y:Int}{cs:List Int}{S:Nat->Prop}{O:Nat->Sx.dc}{u v:Value}{w:World}
theorem nF{H:Hp}{nx:Nat}{iv:Iv}{B:Nat}{J:World}(r:Rel H nx iv B w O J){id m:Nat}{z:Int}(h:dF H id=some (.vec T.int 1 (cs.map (Value.int .i64))))(hm:m=cs.length)(hl:m<=100000000)
  (N:∀c∈cs,-1152921504606846976<=c/\c<=1152921504606846976) (hz:dS cs=z):eD PG Fd.kF #[(SV.o (.w id m)).den O] J (eL J fun v' F=>dG F (Nf J F) v' z):=by
 subst hz;obtain⟨S',W,I⟩:=r.K1 h hm mx;exact uf W I N be
theorem yw{k l:Nat}(L:Old S w)(E:fA w S v k x)(hy:fA w S u l y)(Z:k<=10000000)(hl:l<=10000000):
  eD PG Fd.AH #[v,u] w (eL w fun v' F=>dG F (Nf w F) v' (x+y)):=by
 have Y:=bR w;replace E:=E.cO (S':=Cv S w.heap.size []) fun _ h=>.inl h;replace hy:=hy.cO (S':=Cv S w.heap.size []) fun _ h=>.inl h;obtain⟨b1,a1,n1,c1,rfl⟩:=E.shape;obtain⟨b2,a2,n2,c2,rfl⟩:=hy.shape;refine BN ce ?_;refine dP [.x 0,.x 2,.x 1,.x 3,.x 4,.x 5] ?_;refine cE Y (fun _ J v F=>∃cs,du F (Nf J F) v cs/\zZ cs (2*k) (x)) (fun O J r=>rW (rlo r L) (E.rel r L) be) ?_;rintro O _ _ _ OS r G Y A ⟨ca,k1,bca⟩;replace hy:=hy.cL r L G (mC A);have PB:=k1.cO (nw r A);obtain⟨aca,cca,rfl,lca⟩:=PB.shape;refine cE Y (fun _ J v F=>∃cs,du F (Nf J F) v cs/\zZ cs (2*l) (y)) (fun O J r=>rW (rlo r L) (hy.rel r L) be) ?_;rintro O _ _ _ iv2 r G Y A ⟨cb,k1,bcb⟩;replace PB:=PB.cL r oF G (mC A);have Pv:=k1.cO (nw r A);obtain⟨acb,ccb,rfl,lcb⟩:=Pv.shape
 refine⟨Nat×World×Iv,fun z=>⟨[(4,pP 2 0),(5,sV aca ca.length cca),(6,sV acb cb.length ccb),(7,.o (.w 3 z.1)),(8,iZ z.1)],[(3,.vec T.int 1 (((List.range z.1).map fun j=>ca.getD j 0+cb.getD j 0).map (Value.int .i64))),(2,.box T.Int [.v (.bool false),.v nls])],4,z.2.2,z.2.1⟩,fun z=>max ca.length cb.length-z.1,
  fun z=>z.1<=max ca.length cb.length/\Bq w z.2.1/\du z.2.1 (Cf w z.2.2) (.slice aca ca.length cca) ca/\du z.2.1 (Cf w z.2.2) (.slice acb cb.length ccb) cb,?_,?_⟩
 .intro O J r
  exact⟨(0,J,iv2),⟨ce,Y.tr r.cV,PB.rel r oF,Pv.rel r oF⟩,Sub.nil 7 T.int 1 rfl (by simp[ka,SV.sc,At.sc,gW]) r fun Id r1=>
   sbgn [] r1⟩
 rintro⟨i,w1,iv⟩ ⟨R,Y,PB,Pv⟩;dsimp only at R Y PB Pv ⊢;have l1:=bca.2.1;have l2:=bcb.2.1;apply bS<;>intro OJ
 .have OJ:i<max ca.length cb.length:=by
   have:=aI OJ;omega
  have q1:=bca.at i;have q2:=bcb.at i;refine cM (cE Y (pE (iV (ca.getD i 0))) (fun O J r=>Kn (rlo r oF) (PB.rel r oF)) ?_);rintro O PT v3 PX OR r G Y A rfl;replace PB:=PB.cL r oF G (mC A);replace Pv:=Pv.cL r oF G (mC A);refine cM (cE Y (pE (iV (cb.getD i 0))) (fun O J r=>Kn (rlo r oF) (Pv.rel r oF)) ?_);rintro O _ _ _ Ob r G Y A rfl;replace PB:=PB.cL r oF G (mC A);replace Pv:=Pv.cL r oF G (mC A);refine⟨ca.getD i 0+cb.getD i 0,wo,?_⟩;refine .inl ?_;refine⟨ce,be,mx,((i+1:Nat):Int),wo,?_⟩;intro IR w3 r3;have S6:((List.range (i+1)).map fun j=>ca.getD j 0+cb.getD j 0).map (Value.int .i64)=((List.range i).map fun j=>ca.getD j 0+cb.getD j 0).map (Value.int .i64)++[iV (ca.getD i 0+cb.getD i 0)]:=by
   rw[bw,List.map_append,List.map_append];rfl
  exact⟨(i+1,w3,_),⟨OJ,Y.tr r3.cV,PB.rel r3 oF,Pv.rel r3 oF⟩,sbgn [(3,5)] r3 ⟨by dsimp only;rw[S6];rfl,rfl,trivial⟩,dec OJ⟩
 have OJ:i=max ca.length cb.length:=by
  have:=aL OJ;omega
 generalize Oz:((List.range i).map fun j=>ca.getD j 0+cb.getD j 0)=cs;have hz:dS cs=x+y:=by
  rw[<-Oz,xd,xe,qA ca i be,qA cb i be,bca.1,bcb.1]
 have hlen:i=cs.length:=by rw[<-Oz];simp
 have TR:∀c∈cs,-1152921504606846976<=c/\c<=1152921504606846976:=fun c hc=>by
  rw[<-Oz]at hc;obtain⟨j,_,rfl⟩:=bD.1 hc;have:=bca.at j;have:=bcb.at j;omega
 refine cM (cE Y (pR dG (x+y)) (fun O J r=>nF r rfl hlen be TR hz) ?_);rintro O _ _ _ OR r G Y A U;have hC:=U.cO (nw r A);obtain⟨A0,A1,A2,A3,rfl⟩:=hC.shape;exact rtn Y fun I8 we re=>hC.out re oF
theorem Bd{k l:Nat}(L:Old S w)(E:fA w S v k x)(hy:fA w S u l y)(Z:k<=10000000)(hl:l<=10000000):
  eD PG Fd.xp #[v,u] w (eL w fun v' F=>dG F (Nf w F) v' (x-y)):=by
 have RM:=hy.ln;have Y:=bR w;replace E:=E.cO (S':=Cv S w.heap.size []) fun _ h=>.inl h;replace hy:=hy.cO (S':=Cv S w.heap.size []) fun _ h=>.inl h;obtain⟨b1,a1,n1,c1,rfl⟩:=E.shape;obtain⟨b2,a2,n2,c2,rfl⟩:=hy.shape;refine zP ce ?_;refine dP (idO 5) ?_;refine cE Y (pR dG (-y)) (fun O J r=>mJ (rlo r L) (hy.rel r L) be) ?_;rintro O _ _ _ OS r G Y A U;replace E:=E.cL r L G (mC A);have hm:=U.cO (nw r A);obtain⟨A0,A1,A2,A3,rfl⟩:=hm.shape;refine cE Y (pR dG (x-y)) (fun O J r=>?_) ?_
 .have h:=yw (rlo r L) (E.rel r L) (((hm.rel r oF).l (k:=l) (by rw[cJ];exact RM)).cO fun g V=>Cv.false V) Z hl;rw[<-Int.sub_eq_add_neg]at h;exact h
 rintro O _ _ _ iv2 r G Y A U;have hC:=U.cO (nw r A);obtain⟨C0,C1,C2,C3,rfl⟩:=hC.shape;exact rtn Y fun I8 we re=>hC.out re oF
theorem HU{k l:Nat}(L:Old S w)(E:fA w S v k x)(hy:fA w S u l y)(Z:k<=10000000)(hl:l<=10000000):
  eD PG Fd.tN #[v,u] w (eL w fun v' _=>v'=iV (x-y).sign):=by
 have Y:=bR w;replace E:=E.cO (S':=Cv S w.heap.size []) fun _ h=>.inl h;replace hy:=hy.cO (S':=Cv S w.heap.size []) fun _ h=>.inl h;obtain⟨b1,a1,n1,c1,rfl⟩:=E.shape;obtain⟨b2,a2,n2,c2,rfl⟩:=hy.shape;refine wK ce ?_;refine cM (cE Y (pR dG (x-y)) (fun O J r=>Bd (rlo r L) (E.rel r L) (hy.rel r L) Z hl) ?_);rintro O _ _ _ OS r G Y A U;have hd:=U.cO (nw r A);obtain⟨A0,A1,A2,A3,rfl⟩:=hd.shape;refine cM (cE Y (pE (iV (x-y).sign)) (fun O J r=>gM (rlo r oF) (hd.rel r oF).r) ?_);rintro O _ _ _ iv2 r G Y A rfl;exact rtn Y fun I8 we re=>rfl
end
variable{S:Nat->Prop}
theorem HV{x y:Int}(E: -65535<=x/\x<=65535)(hy: -65535<=y/\y<=65535):(x*y).natAbs<=4294836225:=by
 rw[Int.natAbs_mul];exact Nat.mul_le_mul (show x.natAbs<=65535 by omega) (show y.natAbs<=65535 by omega)
theorem AV{a b:List Int}{i k:Nat}(Z:k<=i+1)(h:i<k\/a.length<=k):iO a b i k=fk a b i:=by
 rcases h with h|h
 .rw[fk,show i+1=k by omega]
 .obtain⟨m,hm⟩:∃m,i+1=k+m:=⟨i+1-k,be⟩
  rw[fk,hm,EG a b i k m h]
theorem jG{w:World}{v u:Value}{k l:Nat}{x y:Int}(L:Old S w)(E:fA w S v k x)(hy:fA w S u l y)(Z:k<=10000000)(hl:l<=10000000):
  eD PG Fd.xn #[v,u] w (eL w fun v' F=>dG F (Nf w F) v' (x*y)):=by
 have Y:=bR w;replace E:=E.cO (S':=Cv S w.heap.size []) fun _ h=>.inl h;replace hy:=hy.cO (S':=Cv S w.heap.size []) fun _ h=>.inl h;obtain⟨b1,a1,n1,c1,rfl⟩:=E.shape;obtain⟨b2,a2,n2,c2,rfl⟩:=hy.shape;refine zN ce ?_;refine dP [.x 0,.x 2,.x 1,.x 3,.x 4,.x 5] ?_;refine cE Y (fun _ J v F=>∃cs,du F (Nf J F) v cs/\zZ cs (2*k) (x)) (fun O J r=>rW (rlo r L) (E.rel r L) be) ?_;rintro O _ _ _ OS r G Y A ⟨ca,k1,bca⟩;replace hy:=hy.cL r L G (mC A);have PB:=k1.cO (nw r A);obtain⟨aca,cca,rfl,lca⟩:=PB.shape;refine cE Y (fun _ J v F=>∃cs,du F (Nf J F) v cs/\zZ cs (2*l) (y)) (fun O J r=>rW (rlo r L) (hy.rel r L) be) ?_;rintro O _ _ _ iv2 r G Y A ⟨cb,k1,bcb⟩;replace PB:=PB.cL r oF G (mC A);have Pv:=k1.cO (nw r A);obtain⟨acb,ccb,rfl,lcb⟩:=Pv.shape;have l1:=bca.2.1;have l2:=bcb.2.1
 refine⟨Nat×World,fun z=>⟨[(4,pP 2 0),(5,sV aca ca.length cca),(6,sV acb cb.length ccb),(7,.o (.w 3 z.1)),(8,iN z.1)],[(3,.vec T.int 1 (((List.range z.1).map (fk ca cb)).map (Value.int .i64))),(2,.box T.Int [.v (.bool false),.v nls])],4,iv2,z.2⟩,fun z=>ca.length+cb.length-z.1,
  fun z=>(z.1+1<=ca.length+cb.length\/z.1=0)/\Bq w z.2/\du z.2 (Cf w iv2) (.slice aca ca.length cca) ca/\du z.2 (Cf w iv2) (.slice acb cb.length ccb) cb,?_,?_⟩
 .intro O J r
  exact⟨(0,J),⟨ce,Y.tr r.cV,PB.rel r oF,Pv.rel r oF⟩,Sub.nil 7 T.int 1 rfl (by simp[ka,SV.sc,At.sc,gW]) r fun Id r1=>
   sbgn [] r1⟩
 rintro⟨i,w1⟩ ⟨R,Y,PB,Pv⟩;dsimp only at R Y PB Pv ⊢;refine⟨((i+1:Nat):Int),wo,((ca.length+cb.length:Nat):Int),wo,?_⟩;apply bS<;>intro OJ
 .have OJ:i+1<ca.length+cb.length:=by
   have:=aI OJ;omega
  refine⟨(i:Int)-cb.length,wo,(i:Int)-cb.length+1,wo,?_⟩;conv=>whnf
  rw[show max 0 ((i:Int)-cb.length+1)=((i+1-cb.length:Nat):Int) by omega];obtain⟨k0,Ui⟩:∃k0,k0=i+1-cb.length:=⟨_,rfl⟩
  rw[<-Ui]
  refine⟨Nat×World,fun z=>⟨[(4,pP 2 0),(5,sV aca ca.length cca),(6,sV acb cb.length ccb),(7,.o (.w 3 i)),(8,iN i),(9,.o (.v (iV (iO ca cb i z.1)))),(10,iN z.1)],[(3,.vec T.int 1 (((List.range i).map (fk ca cb)).map (Value.int .i64))),(2,.box T.Int [.v (.bool false),.v nls])],4,iv2,z.2⟩,fun z=>i+1-z.1,
   fun z=>k0<=z.1/\z.1<=i+1/\Bq w z.2/\du z.2 (Cf w iv2) (.slice aca ca.length cca) ca/\du z.2 (Cf w iv2) (.slice acb cb.length ccb) cb,?_,?_⟩
  .intro O J r;refine⟨(k0,J),⟨ce,by dsimp only;omega,Y.tr r.cV,PB.rel r oF,Pv.rel r oF⟩,sbgn [] r (hE:=⟨rfl,rfl,rfl,rfl,rfl,?_,rfl,trivial⟩)⟩;dsimp only
   rw[EF ca cb i k0 k0 (fun j hj=>be) be lr];rfl
  rintro⟨j,F⟩ ⟨hj0,hj1,Y,PB,Pv⟩;dsimp only at hj0 hj1 Y PB Pv ⊢;conv=>whnf
  apply bS<;>intro Ov
  .have Ov:j<=i:=by
    have:=aI Ov;omega
   apply bS<;>intro XQ
   .have XQ:j<ca.length:=by
     have:=aI XQ;omega
    obtain⟨p,hp⟩:=gO ca j;obtain⟨q,hq⟩:=gO cb (i-j);obtain⟨ad,rfl,q1,q2⟩:=PB.load hp;obtain⟨ad2,rfl,q3,q4⟩:=Pv.load hq;have e1:ca.getD j 0=p:=by rw[List.getD,hp];rfl
    have e2:cb.getD (i-j) 0=q:=by rw[List.getD,hq];rfl
    have e3:iO ca cb i (j+1)=iO ca cb i j+p*q:=by rw[iO,e1,aM Ov,e2]
    have m1:=bca.at j;have m2:=bcb.at (i-j);rw[e1]at m1;rw[e2]at m2;have m3:=HV m1 m2;have m4:=mS (a:=ca) (b:=cb) (i:=i) bca.2.2.1 bcb.2.2.1 j;refine dP (idO 14) ?_;refine⟨ad,rfl,be,iV p,fun O J r=>?_,?_⟩
    .rw[aN,cg (w:=F) (F:=J) (by rw[eQ];exact rls (S:=FF) r oF q1)];exact q2
    refine⟨((i-j:Nat):Int),wo,ad2,rfl,be,iV q,fun O J r=>?_,?_⟩
    .rw[aN,cg (w:=F) (F:=J) (by rw[eQ];exact rls (S:=FF) r oF q3)];exact q4
    refine⟨p*q,wo,iO ca cb i (j+1),by rw[e3,wrap64]<;>omega,((j+1:Nat):Int),wo,?_⟩;intro IR w3 r3;exact⟨(j+1,w3),⟨by dsimp only;omega,by dsimp only;omega,Y.tr r3.cV,PB.rel r3 oF,Pv.rel r3 oF⟩,sbgn [] r3,by dsimp only;omega⟩
   have XQ:ca.length<=j:=by
    have:=aL XQ;omega
   rw[AV hj1 (.inr XQ)];have m4:=mS (a:=ca) (b:=cb) (i:=i) bca.2.2.1 bcb.2.2.1 (i+1);refine .inl ?_;refine⟨ce,be,mx,((i+1:Nat):Int),wo,?_⟩;intro IR w3 r3;have S6:((List.range (i+1)).map (fk ca cb)).map (Value.int .i64)=((List.range i).map (fk ca cb)).map (Value.int .i64)++[iV (fk ca cb i)]:=by
    rw[bw,List.map_append,List.map_append];rfl
   exact⟨(i+1,w3),⟨.inl OJ,Y.tr r3.cV,PB.rel r3 oF,Pv.rel r3 oF⟩,sbgn [(3,5)] r3 ⟨by dsimp only;rw[S6];rfl,rfl,trivial⟩,by dsimp only;omega⟩
  have Ov:i<j:=by
   have:=aL Ov;omega
  rw[AV hj1 (.inl Ov)];have m4:=mS (a:=ca) (b:=cb) (i:=i) bca.2.2.1 bcb.2.2.1 (i+1);refine .inl ?_;refine⟨ce,be,mx,((i+1:Nat):Int),wo,?_⟩;intro IR w3 r3;have S6:((List.range (i+1)).map (fk ca cb)).map (Value.int .i64)=((List.range i).map (fk ca cb)).map (Value.int .i64)++[iV (fk ca cb i)]:=by
   rw[bw,List.map_append,List.map_append];rfl
  exact⟨(i+1,w3),⟨.inl OJ,Y.tr r3.cV,PB.rel r3 oF,Pv.rel r3 oF⟩,sbgn [(3,5)] r3 ⟨by dsimp only;rw[S6];rfl,rfl,trivial⟩,by dsimp only;omega⟩
 have OJ:ca.length+cb.length<=i+1:=by
  have:=aL OJ;omega
 generalize Oz:((List.range i).map (fk ca cb))=cs;have hz:dS cs=x*y:=by
  rw[<-Oz,xd,IE ca cb i OJ,bca.1,bcb.1]
 have hlen:i=cs.length:=by rw[<-Oz];simp
 have TR:∀c∈cs,-1152921504606846976<=c/\c<=1152921504606846976:=fun c hc=>by
  rw[<-Oz]at hc;obtain⟨j,hj,rfl⟩:=bD.1 hc;have hj:=List.mem_range.1 hj;have:=mS (a:=ca) (b:=cb) (i:=j) bca.2.2.1 bcb.2.2.1 (j+1);rw[fk];omega
 refine cM (cE Y (pR dG (x*y)) (fun O J r=>nF r rfl hlen be TR hz) ?_);rintro O _ _ _ OR r G Y A U;have hC:=U.cO (nw r A);obtain⟨A0,A1,A2,A3,rfl⟩:=hC.shape;exact rtn Y fun I8 we re=>hC.out re oF
end Go.Ex
namespace Go.Ex
theorem GN{b r r2 q X n c:Int}(h:X=b*q+r)(hr:r*65536+c=b*n+r2):c+65536*X=b*(n+65536*q)+r2:=by
 rw[h,Int.mul_add,Int.mul_add,Int.mul_left_comm b 65536 q];omega
theorem Hl{x y Q FS:Int}(hy:y≠0)(h:(x.natAbs:Int)=(y.natAbs:Int)*Q+FS)(h0:0<=FS)(W:FS<(y.natAbs:Int)):
  (if x<0/\0<FS then(if (x<0)↔(y<0)then(Q+1)else -(Q+1))else(if (x<0)↔(y<0)then Q else -Q))=x / y/\(if x<0/\0<FS then(y.natAbs:Int)-FS else FS)=x % y:=by
 have key:∀q r:Int,r+y*q=x->0<=r->r<(y.natAbs:Int)->q=x / y/\r=x % y:=by
  intro q r e1 e2 e3;have m:x % y=r:=by
   rw[<-e1,Int.add_mul_emod_self_left];rcases Int.lt_or_lt_of_ne hy with h|h
   .rw[<-Int.emod_neg,Int.emod_eq_of_lt e2 be]
   .exact Int.emod_eq_of_lt e2 be
  have d:=Int.mul_ediv_add_emod x y;rw[m]at d;exact⟨(Int.eq_of_mul_eq_mul_left hy be),m.symm⟩
 by_cases E:x<0
 .have ex:(x.natAbs:Int)= -x:=by omega
  by_cases Uw:y<0
  .have ey:(y.natAbs:Int)= -y:=by omega
   rw[ex,ey,Int.neg_mul]at h;by_cases hR:0<FS
   .rw[aM (show x<0/\0<FS from⟨E,hR⟩),aM (show x<0/\0<FS from⟨E,hR⟩),aM (show (x<0)↔(y<0) by simp[E,Uw])];exact key _ _ (by rw[Int.mul_add,Int.mul_one];omega) be be
   .rw[aK (show ¬(x<0/\0<FS) by omega),aK (show ¬(x<0/\0<FS) by omega),aM (show (x<0)↔(y<0) by simp[E,Uw])];exact key _ _ be h0 W
  .have ey:(y.natAbs:Int)=y:=by omega
   rw[ex,ey]at h;have U:¬((x<0)↔(y<0)):=by simp[E,Uw]
   by_cases hR:0<FS
   .rw[aM (show x<0/\0<FS from⟨E,hR⟩),aM (show x<0/\0<FS from⟨E,hR⟩),aK U];exact key _ _ (by rw[Int.mul_neg,Int.mul_add,Int.mul_one];omega) be be
   .rw[aK (show ¬(x<0/\0<FS) by omega),aK (show ¬(x<0/\0<FS) by omega),aK U];exact key _ _ (by rw[Int.mul_neg];omega) h0 W
 .have ex:(x.natAbs:Int)=x:=by omega
  rw[aK (show ¬(x<0/\0<FS) by omega),aK (show ¬(x<0/\0<FS) by omega)];by_cases Uw:y<0
  .have ey:(y.natAbs:Int)= -y:=by omega
   rw[ex,ey,Int.neg_mul]at h;rw[aK (show ¬((x<0)↔(y<0)) by simp[E,Uw])];exact key _ _ (by rw[Int.mul_neg];omega) h0 W
  .have ey:(y.natAbs:Int)=y:=by omega
   rw[ex,ey]at h;rw[aM (show (x<0)↔(y<0) by simp[E,Uw])];exact key _ _ be h0 W
theorem fh(z:Int):(z<0/\z.sign= -1)\/(z=0/\z.sign=0)\/(0<z/\z.sign=1):=by
 rcases Int.lt_trichotomy z 0 with h|h|h
 .exact .inl ⟨h,bm h⟩
 .exact .inr (.inl ⟨h,by rw[h];rfl⟩)
 .exact .inr (.inr ⟨h,cD h⟩)
end Go.Ex
namespace Go.Ex
open Go Go.Sx Go.Proofs
variable{x y:Int}{Q:List Int}{S:Nat->Prop}{u v:Value}{w:World}
def JK:Value:=.agg #[.bool false,nls]
theorem dG.nil(w:World)(S:Nat->Prop):dG w S (.agg #[.bool false,nls]) 0:=⟨[],⟨_,rfl,dI.nil _ _⟩,fun x h=>by simp at h,rfl⟩
theorem Nh(h:∀c∈Q,0<=c/\c<=65535):0<=dS Q:=by
 induction Q with
 |nil=>exact Int.le_refl _
 |cons c r ih=>
  have W:=h c aF;have I:=ih fun x E=>h x (aD _ E);rw[dS];omega
theorem yx{n:Int}(h:0<=n)(I:n<4294967296):ln n.natAbs<=1:=gF.2 (by show n.natAbs<4294967296^1;omega)
theorem HW{k l:Nat}(L:Old S w)(E:fA w S v k x)(hy:fA w S u l y)(Z:k<=1000000)(hl:l<=1000000):
  eD PG Fd.oQ #[v,u] w (eL w fun v' F=>(y=0/\v'= .tuple #[JK,JK,iV 9])\/(y≠0/\∃q r,v'= .tuple #[q,r,iV 0]/\dG F (Nf w F) q (x / y)/\dG F (Nf w F) r (x % y))):=by
 have Y:=bR w;replace E:=E.cO (S':=Cv S w.heap.size []) fun _ h=>.inl h;replace hy:=hy.cO (S':=Cv S w.heap.size []) fun _ h=>.inl h;obtain⟨b1,a1,n1,c1,rfl⟩:=E.shape;obtain⟨b2,a2,n2,c2,rfl⟩:=hy.shape;refine wE ce ?_;have RM:=hy.ln;refine cM (cE Y (pE (iV y.sign)) (fun O J r=>gM (rlo r L) (hy.rel r L).r) ?_);rintro O _ _ _ OS r G Y A rfl;replace E:=E.cL r L G (mC A);replace hy:=hy.cL r L G (mC A);apply bS<;>intro QH
 .have QH:y=0:=by rcases fh y with h|h|h<;>simp[h]at QH ⊢
  exact rtn Y fun I8 we re=>.inl ⟨QH,rfl⟩
 have QH:y≠0:=fun e=>by rw[e]at QH;simp at QH
 refine dP [.x 0,.x 3,.p 5,.x 1,.x 2,.x 4,.x 5,.x 6,.x 7] ?_;refine cE Y (pR dG ((x.natAbs:Int))) (fun O J r=>wv (rlo r L) (E.rel r L) be) ?_;rintro O _ _ _ iv2 r G Y A U;replace E:=E.cL r L G (mC A);replace hy:=hy.cL r L G (mC A);have S9:=U.cO (nw r A);obtain⟨A0,A1,A2,A3,rfl⟩:=S9.shape;have QI:=E.ln;refine cE Y (fun _ J v F=>∃cs,du F (Nf J F) v cs/\zZ cs (2*k) ((x.natAbs:Int))) (fun O J r=>rW (rlo r oF) ((S9.rel r oF).l (k:=k) (by rw[Int.natAbs_natCast];exact QI)) be) ?_;rintro O _ _ _ OR r G Y A ⟨ca,k1,bca⟩;replace E:=E.cL r L G (mC A);replace hy:=hy.cL r L G (mC A);have PB:=k1.cO (nw r A);obtain⟨aca,cca,rfl,lca⟩:=PB.shape;refine cE Y (pR dG ((y.natAbs:Int))) (fun O J r=>wv (rlo r L) (hy.rel r L) be) ?_;rintro O _ _ _ Ob r G Y A U;replace E:=E.cL r L G (mC A);replace hy:=hy.cL r L G (mC A);replace PB:=PB.cL r oF G (mC A);have OX:=U.cO (nw r A);obtain⟨C0,C1,C2,C3,rfl⟩:=OX.shape;generalize hB:(y.natAbs:Int)=B at*
 have l1:=bca.2.1;have hB0:0<B:=by omega
 have lB:ln B.natAbs<=l:=by rw[<-hB,Int.natAbs_natCast];exact RM
 refine⟨(ca.length:Int)-1,wo,Nat×List Int×Int×(Bool×Option Addr×Nat×Nat)×World×Iv,fun z=>⟨[(2,pP 0 0),(3,pP 1 0),(4,pP 2 0),(5,pP 3 0),(6,iZ 0),(7,sV aca ca.length cca),(8,pP 4 0),(9,.o (.w 6 z.2.1.length)),(10,pP 5 0),(11,.o (.v (iV ((z.1:Int)-1))))],[(6,.vec T.int 1 (z.2.1.map (Value.int .i64))),(5,.box T.Int [.v (.bool z.2.2.2.1.1),.v (.slice z.2.2.2.1.2.1 z.2.2.2.1.2.2.1 z.2.2.2.1.2.2.2)]),(4,.box T.Int [.v (.bool C0),.v (.slice C1 C2 C3)]),(3,.box T.Int [.v (.bool false),.v nls]),(2,.box T.Int [.v (.bool false),.v nls]),(1,.box T.Int [.v (.bool b2),.v (.slice a2 n2 c2)]),(0,.box T.Int [.v (.bool b1),.v (.slice a1 n1 c1)])],7,z.2.2.2.2.2,z.2.2.2.2.1⟩,fun z=>z.1,
  fun z=>z.1<=ca.length/\z.2.1.length+z.1=ca.length/\(∀c∈z.2.1,0<=c/\c<=65535)/\dS (ca.drop z.1)=B*dS z.2.1+z.2.2.1/\0<=z.2.2.1/\z.2.2.1<B/\Bq w z.2.2.2.2.1/\fA z.2.2.2.2.1 (Cv S w.heap.size z.2.2.2.2.2) (.agg #[.bool b1,.slice a1 n1 c1]) k x/\fA z.2.2.2.2.1 (Cv S w.heap.size z.2.2.2.2.2) (.agg #[.bool b2,.slice a2 n2 c2]) l y/\du z.2.2.2.2.1 (Cf w z.2.2.2.2.2) (.slice aca ca.length cca) ca/\dG z.2.2.2.2.1 (Cf w z.2.2.2.2.2) (.agg #[.bool C0,.slice C1 C2 C3]) B/\dG z.2.2.2.2.1 (Cf w z.2.2.2.2.2) (.agg #[.bool z.2.2.2.1.1,.slice z.2.2.2.1.2.1 z.2.2.2.1.2.2.1 z.2.2.2.1.2.2.2]) z.2.2.1,?_,?_⟩
 .intro O J r
  exact⟨(ca.length,[],0,(false,none,0,0),J,Ob),⟨lr,ce,ce,by simp[dS],Int.le_refl _,hB0,Y.tr r.cV,E.rel r L,hy.rel r L,PB.rel r oF,OX.rel r oF,dG.nil _ _⟩,Sub.nil 9 T.int 1 rfl (by simp[ka,SV.sc,At.sc]) r fun Id r1=>
   sbgn [] r1⟩
 rintro⟨j,Q,FS,⟨br,ar,nr,cr⟩,w1,iv⟩ ⟨hj,hQ,hd,hv,VF,Tw,Y,E,hy,PB,OX,hr⟩;dsimp only at hj hQ hd hv VF Tw Y E hy PB OX hr ⊢;apply bS<;>intro OJ
 .obtain⟨i,rfl⟩:∃i,j=i+1:=⟨j-1,by have:(j:Int)-1≥0:=aI OJ;omega⟩
  rw[show ((i+1:Nat):Int)-1=(i:Int) by omega];obtain⟨d,RH⟩:=gO ca i;have Xn:=bca.2.2.1 d (aG RH);have RZ:=bca.2.2.2 be d (aG RH);have lR:ln FS.natAbs<=l:=aP (e9 be) lB;have lU:ln (65536:Int).natAbs<=1:=by decide
  have m1:=cz FS 65536;have m2:=yx (n:=d) RZ be;have m3:=iU (FS*65536) d;refine dP [.x 0,.x 3,.x 4,.x 5,.x 6,.x 1,.x 2,.x 7,.x 8,.x 9] ?_;obtain⟨ad,UF,q1,q2⟩:=PB.load RH;refine⟨ad,UF,be,iV d,fun O J r=>?_,?_⟩
  .rw[aN,cg (w:=w1) (F:=J) (by rw[eQ];exact rls (S:=FF) r oF q1)];exact q2
  refine cE Y (pR dG (65536)) (fun O J r=>lF _ J bv bv) ?_;rintro O UL v5 UM Of r G Y A U;replace E:=E.cL r L G (mC A);replace hy:=hy.cL r L G (mC A);replace PB:=PB.cL r oF G (mC A);replace OX:=OX.cL r oF G (mC A);replace hr:=hr.cL r oF G (mC A);have hu:=U.cO (nw r A);obtain⟨E0,E1,E2,E3,rfl⟩:=hu.shape;refine cE Y (pR dG (FS*65536)) (fun O J r=>jG (rlo r oF) ((hr.rel r oF).l (k:=1000001) be) ((hu.rel r oF).l (k:=1000001) be) be be) ?_;rintro O SD v6 SE PL r G Y A U;replace E:=E.cL r L G (mC A);replace hy:=hy.cL r L G (mC A);replace PB:=PB.cL r oF G (mC A);replace OX:=OX.cL r oF G (mC A);have hp:=U.cO (nw r A);obtain⟨F0,F1,F2,F3,rfl⟩:=hp.shape;refine cE Y (pR dG (d)) (fun O J r=>lF _ J be be) ?_;rintro O Sj v7 Sk QB r G Y A U;replace E:=E.cL r L G (mC A);replace hy:=hy.cL r L G (mC A);replace PB:=PB.cL r oF G (mC A);replace OX:=OX.cL r oF G (mC A);replace hp:=hp.cL r oF G (mC A);have hdd:=U.cO (nw r A);obtain⟨G0,G1,G2,G3,rfl⟩:=hdd.shape;refine cE Y (pR dG (FS*65536+d)) (fun O J r=>yw (rlo r oF) ((hp.rel r oF).l (k:=1000002) be) ((hdd.rel r oF).l (k:=1000002) be) be be) ?_;rintro O wa8 v8 wb8 RT r G Y A U;replace E:=E.cL r L G (mC A);replace hy:=hy.cL r L G (mC A);replace PB:=PB.cL r oF G (mC A);replace OX:=OX.cL r oF G (mC A);have hr:=U.cO (nw r A);obtain⟨I0,I1,I2,I3,rfl⟩:=hr.shape;generalize SH:FS*65536+d=R2 at*
  have hR20:0<=R2:=by omega
  have hR21:R2<65536*B:=by omega
  refine⟨Nat×Nat×Nat×World×Iv,fun z=>⟨[(2,pP 0 0),(3,pP 1 0),(4,pP 2 0),(5,pP 3 0),(6,iZ 0),(7,sV aca ca.length cca),(8,pP 4 0),(9,.o (.w 6 Q.length)),(10,pP 5 0),(11,.o (.v (iV ((i:Int))))),(12,iN z.1),(13,iN z.2.2.1)],[(6,.vec T.int 1 (Q.map (Value.int .i64))),(5,.box T.Int [.v (.bool I0),.v (.slice I1 I2 I3)]),(4,.box T.Int [.v (.bool C0),.v (.slice C1 C2 C3)]),(3,.box T.Int [.v (.bool false),.v nls]),(2,.box T.Int [.v (.bool false),.v nls]),(1,.box T.Int [.v (.bool b2),.v (.slice a2 n2 c2)]),(0,.box T.Int [.v (.bool b1),.v (.slice a1 n1 c1)])],7,z.2.2.2.2,z.2.2.2.1⟩,fun z=>z.2.1,
   fun z=>z.2.2.1=2^z.2.1 / 2/\z.1+2^z.2.1<=65536/\((z.1:Nat):Int)*B<=R2/\R2<((z.1+2^z.2.1:Nat):Int)*B/\Bq w z.2.2.2.1/\fA z.2.2.2.1 (Cv S w.heap.size z.2.2.2.2) (.agg #[.bool b1,.slice a1 n1 c1]) k x/\fA z.2.2.2.1 (Cv S w.heap.size z.2.2.2.2) (.agg #[.bool b2,.slice a2 n2 c2]) l y/\du z.2.2.2.1 (Cf w z.2.2.2.2) (.slice aca ca.length cca) ca/\dG z.2.2.2.1 (Cf w z.2.2.2.2) (.agg #[.bool C0,.slice C1 C2 C3]) B/\dG z.2.2.2.1 (Cf w z.2.2.2.2) (.agg #[.bool I0,.slice I1 I2 I3]) R2,?_,?_⟩
  .intro O J r
   exact⟨(0,16,32768,J,RT),⟨by show 32768=2^16 / 2;decide,by show 0+2^16<=65536;decide,by dsimp only;omega,by dsimp only;rw[show ((0+2^16:Nat):Int)=65536 from rfl];exact hR21,Y.tr r.cV,E.rel r L,hy.rel r L,PB.rel r oF,OX.rel r oF,hr.rel r oF⟩,
    sbgn [] r⟩
  rintro⟨n,e,bit,w5,iv⟩ ⟨hn0,Ss,Tm,hn3,Y,E,hy,PB,OX,hr⟩;dsimp only at hn0 Ss Tm hn3 Y E hy PB OX hr ⊢;apply bS<;>intro Ur
  .have Ur:0<2^e / 2:=by have:((bit:Nat):Int)>0:=aI Ur;omega
   obtain⟨f,rfl⟩:∃f,e=f+1:=by
    cases e with
    |zero=>exact absurd Ur bv
    |succ f=>exact⟨f,rfl⟩
   have e1:2^(f+1)=2*2^f:=by rw[Nat.pow_succ];omega
   have e2:2^(f+1) / 2=2^f:=by omega
   obtain rfl:bit=2^f:=by omega
   rw[e1]at Ss hn3;have hp0:=bz f;generalize hp:2^f=p at*
   have m4:=yx (n:=((n+p:Nat):Int)) be be;have m5:=cz B ((n+p:Nat):Int);have m6:ln R2.natAbs<=l+1:=by
    refine aP (e9 (b:=((65536:Int)*B).natAbs) be) ?_;have:=cz 65536 B;omega
   refine dP [.x 0,.x 1,.x 2,.x 3,.x 6,.x 4,.x 5,.x 7,.x 8] ?_;refine⟨((n+p:Nat):Int),wo,?_⟩;refine cE Y (pR dG (((n+p:Nat):Int))) (fun O J r=>lF _ J be be) ?_;rintro O SN v9 SO Ta r G Y A U;replace E:=E.cL r L G (mC A);replace hy:=hy.cL r L G (mC A);replace PB:=PB.cL r oF G (mC A);replace OX:=OX.cL r oF G (mC A);replace hr:=hr.cL r oF G (mC A);have hu:=U.cO (nw r A);obtain⟨J0,J1,J2,J3,rfl⟩:=hu.shape;refine cE Y (pR dG (B*((n+p:Nat):Int))) (fun O J r=>jG (rlo r oF) ((OX.rel r oF).l (k:=1000001) be) ((hu.rel r oF).l (k:=1000001) be) be be) ?_;rintro O Rq v10 Rr SP r G Y A U;replace E:=E.cL r L G (mC A);replace hy:=hy.cL r L G (mC A);replace PB:=PB.cL r oF G (mC A);replace OX:=OX.cL r oF G (mC A);replace hr:=hr.cL r oF G (mC A);have Q8:=U.cO (nw r A);obtain⟨N0,N1,N2,N3,rfl⟩:=Q8.shape;refine cE Y (pE (iV (B*((n+p:Nat):Int)-R2).sign)) (fun O J r=>HU (rlo r oF) ((Q8.rel r oF).l (k:=1000001) be) ((hr.rel r oF).l (k:=1000001) be) be be) ?_;rintro O Ty v11 Tz SR r G Y A rfl;replace E:=E.cL r L G (mC A);replace hy:=hy.cL r L G (mC A);replace PB:=PB.cL r oF G (mC A);replace OX:=OX.cL r oF G (mC A);replace hr:=hr.cL r oF G (mC A);have hs:=fh (B*((n+p:Nat):Int)-R2);apply bS<;>intro hle
   .have hle:=aI hle;have Vv:((n+p:Nat):Int)*B<=R2:=by rw[Int.mul_comm];omega
    refine⟨((n+p:Nat):Int),wo,bv,((2^f / 2:Nat):Int),by rw[hp,show((p:Nat):Int).tdiv 2=((p / 2:Nat):Int)from rfl,wrap64]<;>omega,?_⟩;intro IR w3 r3;exact⟨(n+p,f,2^f / 2,w3,_),⟨rfl,by dsimp only;omega,Vv,by dsimp only;rw[hp,show n+p+p=n+2*p by omega];exact hn3,Y.tr r3.cV,E.rel r3 L,hy.rel r3 L,PB.rel r3 oF,OX.rel r3 oF,hr.rel r3 oF⟩,sbgn [] r3,by dsimp only;omega⟩
   have hle:=aL hle;have Vv:R2<((n+p:Nat):Int)*B:=by rw[Int.mul_comm];omega
   refine⟨bv,((2^f / 2:Nat):Int),by rw[hp,show((p:Nat):Int).tdiv 2=((p / 2:Nat):Int)from rfl,wrap64]<;>omega,?_⟩;intro IR w3 r3;exact⟨(n,f,2^f / 2,w3,_),⟨rfl,by dsimp only;omega,Tm,by dsimp only;rw[hp];exact Vv,Y.tr r3.cV,E.rel r3 L,hy.rel r3 L,PB.rel r3 oF,OX.rel r3 oF,hr.rel r3 oF⟩,sbgn [] r3,by dsimp only;omega⟩
  have Ur:¬0<2^e / 2:=by have:¬((bit:Nat):Int)>0:=aL Ur;omega
  obtain rfl:e=0:=by
   cases e with
   |zero=>rfl
   |succ f=>exact absurd (show 0<2^(f+1) / 2 by rw[Nat.pow_succ];have:=bz f;omega) Ur
  rw[show n+2^0=n+1 from rfl]at Ss hn3;rw[Int.natCast_add,Int.add_mul]at hn3;rw[Int.mul_comm]at Tm;rw[Int.mul_comm]at hn3;have m4:=yx (n:=((n:Nat):Int)) be be;have m5:=cz B ((n:Nat):Int);have m6:ln R2.natAbs<=l+1:=by
   refine aP (e9 (b:=((65536:Int)*B).natAbs) be) ?_;have:=cz 65536 B;omega
  refine dP (idO 7) ?_;refine cE Y (pR dG (((n:Nat):Int))) (fun O J r=>lF _ J be be) ?_;rintro O SN v9 SO Ta r G Y A U;replace E:=E.cL r L G (mC A);replace hy:=hy.cL r L G (mC A);replace PB:=PB.cL r oF G (mC A);replace OX:=OX.cL r oF G (mC A);replace hr:=hr.cL r oF G (mC A);have hu:=U.cO (nw r A);obtain⟨J0,J1,J2,J3,rfl⟩:=hu.shape;refine cE Y (pR dG (B*((n:Nat):Int))) (fun O J r=>jG (rlo r oF) ((OX.rel r oF).l (k:=1000001) be) ((hu.rel r oF).l (k:=1000001) be) be be) ?_;rintro O Rq v10 Rr SP r G Y A U;replace E:=E.cL r L G (mC A);replace hy:=hy.cL r L G (mC A);replace PB:=PB.cL r oF G (mC A);replace OX:=OX.cL r oF G (mC A);replace hr:=hr.cL r oF G (mC A);have Q8:=U.cO (nw r A);obtain⟨N0,N1,N2,N3,rfl⟩:=Q8.shape;refine cE Y (pR dG (R2-B*((n:Nat):Int))) (fun O J r=>Bd (rlo r oF) ((hr.rel r oF).l (k:=1000002) be) ((Q8.rel r oF).l (k:=1000002) be) be be) ?_;rintro O Ty v11 Tz SR r G Y A U;replace E:=E.cL r L G (mC A);replace hy:=hy.cL r L G (mC A);replace PB:=PB.cL r oF G (mC A);replace OX:=OX.cL r oF G (mC A);have Vz:=U.cO (nw r A);obtain⟨O0,O1,O2,O3,rfl⟩:=Vz.shape;generalize hR3:R2-B*((n:Nat):Int)=R3 at*
  refine .inl ?_;refine⟨by rw[aJ,bC],fun u hu=>by obtain⟨_,_,rfl⟩:=bD.1 hu;rfl,rfl,be,mx,(i:Int)-1,wo,?_⟩;intro IR w3 r3;have RD:dS (ca.drop i)=B*dS (((n:Nat):Int)::Q)+R3:=by
   rw[Ci RH,dS];exact GN hv (by rw[<-hR3,<-SH];omega)
  exact⟨(i,((n:Nat):Int)::Q,R3,(O0,O1,O2,O3),w3,_),⟨by dsimp only;omega,by dsimp only;rw[List.length_cons];omega,fun c hc=>by
    rcases List.mem_cons.1 hc with rfl|hc
    .omega
    .exact hd c hc,RD,by dsimp only;omega,by dsimp only;omega,Y.tr r3.cV,E.rel r3 L,hy.rel r3 L,PB.rel r3 oF,OX.rel r3 oF,Vz.rel r3 oF⟩,
   sbgn [(6,8)] r3 (hE:=⟨rfl,rfl,rfl,rfl,rfl,rfl,rfl,by dsimp only;rw[show (((n:Nat):Int)::Q).length=1+Q.length by rw[List.length_cons,Nat.add_comm]];rfl,rfl,rfl,trivial⟩),by dsimp only;omega⟩
 obtain rfl:j=0:=by have:¬(j:Int)-1≥0:=aL OJ;omega
 rw[List.drop_zero,bca.1]at hv;rw[<-hB]at hv Tw;have key:=Hl QH hv VF Tw;rw[hB]at key hv Tw;have lq:ln (dS Q).natAbs<=k+1:=by
  have W:=Nh hd;have I:1*dS Q<=B*dS Q:=Int.mul_le_mul_of_nonneg_right be W;exact aP (e9 (b:=x.natAbs) be) be
 have lR:ln FS.natAbs<=l:=aP (e9 be) lB;have sx:=fh x;have sy:=fh y;have sr:=fh FS;refine cM (cE Y (pR dG (dS Q)) (fun O J r=>nF r rfl rfl be (fun c hc=>by have:=hd c hc;omega) rfl) ?_);rintro O _ _ _ Of r G Y A U;replace E:=E.cL r L G (mC A);replace hy:=hy.cL r L G (mC A);replace OX:=OX.cL r oF G (mC A);replace hr:=hr.cL r oF G (mC A);have hq:=U.cO (nw r A);obtain⟨E0,E1,E2,E3,rfl⟩:=hq.shape;refine cM (cE Y (pE (iV x.sign)) (fun O J r=>gM (rlo r L) (E.rel r L).r) ?_);rintro O _ _ _ PL r G Y A rfl;replace E:=E.cL r L G (mC A);replace hy:=hy.cL r L G (mC A);replace OX:=OX.cL r oF G (mC A);replace hr:=hr.cL r oF G (mC A);replace hq:=hq.cL r oF G (mC A);apply bS<;>intro Ve
 .have Ve:=aI Ve;refine cM (cE Y (pE (iV FS.sign)) (fun O J r=>gM (rlo r oF) (hr.rel r oF).r) ?_);rintro O Sj v7 Sk QB r G Y A rfl;replace E:=E.cL r L G (mC A);replace hy:=hy.cL r L G (mC A);replace OX:=OX.cL r oF G (mC A);replace hr:=hr.cL r oF G (mC A);replace hq:=hq.cL r oF G (mC A);apply bS<;>intro hrs
  .have hrs:=aI hrs;rw[aM (show x<0/\0<FS by omega),aM (show x<0/\0<FS by omega)]at key;have m7:=iU (dS Q) 1;have m8:ln (1:Int).natAbs<=1:=by decide
   have m9:ln (B-FS).natAbs<=l:=aP (e9 be) lB;refine dP [.x 0,.x 3,.x 4,.x 1,.x 2,.x 5,.x 6,.x 7] ?_;refine cE Y (pR dG (1)) (fun O J r=>lF _ J be be) ?_;rintro O wa8 v8 wb8 RT r G Y A U;replace E:=E.cL r L G (mC A);replace hy:=hy.cL r L G (mC A);replace OX:=OX.cL r oF G (mC A);replace hr:=hr.cL r oF G (mC A);replace hq:=hq.cL r oF G (mC A);have hu:=U.cO (nw r A);obtain⟨I0,I1,I2,I3,rfl⟩:=hu.shape;refine cE Y (pR dG (dS Q+1)) (fun O J r=>yw (rlo r oF) ((hq.rel r oF).l (k:=1000003) be) ((hu.rel r oF).l (k:=1000003) be) be be) ?_;rintro O SN v9 SO Ta r G Y A U;replace E:=E.cL r L G (mC A);replace hy:=hy.cL r L G (mC A);replace OX:=OX.cL r oF G (mC A);replace hr:=hr.cL r oF G (mC A);have QW:=U.cO (nw r A);obtain⟨J0,J1,J2,J3,rfl⟩:=QW.shape;refine cE Y (pR dG (B-FS)) (fun O J r=>Bd (rlo r oF) ((OX.rel r oF).l (k:=1000003) be) ((hr.rel r oF).l (k:=1000003) be) be be) ?_;rintro O Rq v10 Rr SP r G Y A U;replace E:=E.cL r L G (mC A);replace hy:=hy.cL r L G (mC A);replace QW:=QW.cL r oF G (mC A);have Qw:=U.cO (nw r A);obtain⟨N0,N1,N2,N3,rfl⟩:=Qw.shape;refine dP [.x 0,.x 3,.x 1,.x 2,.x 4,.x 5,.x 6] ?_;refine cE Y (pE (iV x.sign)) (fun O J r=>gM (rlo r L) (E.rel r L).r) ?_;rintro O _ _ _ SR r G Y A rfl;replace hy:=hy.cL r L G (mC A);replace QW:=QW.cL r oF G (mC A);replace Qw:=Qw.cL r oF G (mC A);refine cE Y (pE (iV y.sign)) (fun O J r=>gM (rlo r L) (hy.rel r L).r) ?_;rintro O _ _ _ TN r G Y A rfl;replace QW:=QW.cL r oF G (mC A);replace Qw:=Qw.cL r oF G (mC A);apply bS<;>intro OL
   .have U:¬((x<0)↔(y<0)):=fun e=>by
     have e2:decide (x.sign<0)=decide (y.sign<0):=decide_eq_decide.2 be;rw[e2]at OL;simp at OL
    rw[aK U]at key;refine cM (cE Y (pR dG (-(dS Q+1))) (fun O J r=>mJ (rlo r oF) ((QW.rel r oF).l (k:=1000003) be) be) ?_);rintro O _ _ _ Um r G Y A U;replace Qw:=Qw.cL r oF G (mC A);have TE:=U.cO (nw r A);obtain⟨P0,P1,P2,P3,rfl⟩:=TE.shape;refine iR hτ uJ (.two 0 (.two 1 (.one 2 (.one 3 (.one 4 .nil))) 2 (.one 1 (.one 3 (.one 4 .nil)))) 1 (.one 0 (.one 2 (.one 3 (.one 4 .nil))))) d6 ?_;refine⟨?_,?_⟩
    .refine⟨?_,?_⟩
     .exact rtn Y fun I8 we re=>.inr ⟨QH,_,_,rfl,key.1▸TE.out re oF,key.2▸Qw.out re oF⟩
     .exact rtn Y fun I8 we re=>.inr ⟨QH,_,_,rfl,key.1▸TE.out re oF,key.2▸Qw.out re oF⟩
    .exact rtn Y fun I8 we re=>.inr ⟨QH,_,_,rfl,key.1▸TE.out re oF,key.2▸Qw.out re oF⟩
   have U:(x<0)↔(y<0):=by
    have e2:decide (x.sign<0)=decide (y.sign<0):=by simpa using OL
    have:=decide_eq_decide.1 e2;omega
   rw[aM U]at key;refine iR hτ uJ (.two 0 (.two 1 (.one 2 (.one 3 (.one 4 .nil))) 2 (.one 1 (.one 3 (.one 4 .nil)))) 1 (.one 0 (.one 2 (.one 3 (.one 4 .nil))))) d6 ?_;refine⟨?_,?_⟩
   .refine⟨?_,?_⟩
    .exact rtn Y fun I8 we re=>.inr ⟨QH,_,_,rfl,key.1▸QW.out re oF,key.2▸Qw.out re oF⟩
    .exact rtn Y fun I8 we re=>.inr ⟨QH,_,_,rfl,key.1▸QW.out re oF,key.2▸Qw.out re oF⟩
   .exact rtn Y fun I8 we re=>.inr ⟨QH,_,_,rfl,key.1▸QW.out re oF,key.2▸Qw.out re oF⟩
  have hrs:=aL hrs;rw[aK (show ¬(x<0/\0<FS) by omega),aK (show ¬(x<0/\0<FS) by omega)]at key;refine dP [.x 0,.x 3,.x 1,.x 2,.x 4,.x 5,.x 6] ?_;refine cE Y (pE (iV x.sign)) (fun O J r=>gM (rlo r L) (E.rel r L).r) ?_;rintro O wa8 v8 wb8 RT r G Y A rfl;replace hy:=hy.cL r L G (mC A);replace OX:=OX.cL r oF G (mC A);replace hr:=hr.cL r oF G (mC A);replace hq:=hq.cL r oF G (mC A);refine cE Y (pE (iV y.sign)) (fun O J r=>gM (rlo r L) (hy.rel r L).r) ?_;rintro O SN v9 SO Ta r G Y A rfl;replace OX:=OX.cL r oF G (mC A);replace hr:=hr.cL r oF G (mC A);replace hq:=hq.cL r oF G (mC A);apply bS<;>intro OL
  .have U:¬((x<0)↔(y<0)):=fun e=>by
    have e2:decide (x.sign<0)=decide (y.sign<0):=decide_eq_decide.2 be;rw[e2]at OL;simp at OL
   rw[aK U]at key;refine cM (cE Y (pR dG (-(dS Q))) (fun O J r=>mJ (rlo r oF) ((hq.rel r oF).l (k:=1000003) be) be) ?_);rintro O _ _ _ SP r G Y A U;replace OX:=OX.cL r oF G (mC A);replace hr:=hr.cL r oF G (mC A);have TE:=U.cO (nw r A);obtain⟨N0,N1,N2,N3,rfl⟩:=TE.shape;refine iR hτ uJ (.two 0 (.two 1 (.one 2 (.one 3 (.one 4 .nil))) 2 (.one 1 (.one 3 (.one 4 .nil)))) 1 (.one 0 (.one 2 (.one 3 (.one 4 .nil))))) d6 ?_;refine⟨?_,?_⟩
   .refine⟨?_,?_⟩
    .exact rtn Y fun I8 we re=>.inr ⟨QH,_,_,rfl,key.1▸TE.out re oF,key.2▸hr.out re oF⟩
    .exact rtn Y fun I8 we re=>.inr ⟨QH,_,_,rfl,key.1▸TE.out re oF,key.2▸hr.out re oF⟩
   .exact rtn Y fun I8 we re=>.inr ⟨QH,_,_,rfl,key.1▸TE.out re oF,key.2▸hr.out re oF⟩
  have U:(x<0)↔(y<0):=by
   have e2:decide (x.sign<0)=decide (y.sign<0):=by simpa using OL
   have:=decide_eq_decide.1 e2;omega
  rw[aM U]at key;refine iR hτ uJ (.two 0 (.two 1 (.one 2 (.one 3 (.one 4 .nil))) 2 (.one 1 (.one 3 (.one 4 .nil)))) 1 (.one 0 (.one 2 (.one 3 (.one 4 .nil))))) d6 ?_;refine⟨?_,?_⟩
  .refine⟨?_,?_⟩
   .exact rtn Y fun I8 we re=>.inr ⟨QH,_,_,rfl,key.1▸hq.out re oF,key.2▸hr.out re oF⟩
   .exact rtn Y fun I8 we re=>.inr ⟨QH,_,_,rfl,key.1▸hq.out re oF,key.2▸hr.out re oF⟩
  .exact rtn Y fun I8 we re=>.inr ⟨QH,_,_,rfl,key.1▸hq.out re oF,key.2▸hr.out re oF⟩
 have Ve:=aL Ve;rw[aK (show ¬(x<0/\0<FS) by omega),aK (show ¬(x<0/\0<FS) by omega)]at key;refine dP [.x 0,.x 3,.x 1,.x 2,.x 4,.x 5,.x 6] ?_;refine cE Y (pE (iV x.sign)) (fun O J r=>gM (rlo r L) (E.rel r L).r) ?_;rintro O _ _ _ QB r G Y A rfl;replace hy:=hy.cL r L G (mC A);replace OX:=OX.cL r oF G (mC A);replace hr:=hr.cL r oF G (mC A);replace hq:=hq.cL r oF G (mC A);refine cE Y (pE (iV y.sign)) (fun O J r=>gM (rlo r L) (hy.rel r L).r) ?_;rintro O _ _ _ RT r G Y A rfl;replace OX:=OX.cL r oF G (mC A);replace hr:=hr.cL r oF G (mC A);replace hq:=hq.cL r oF G (mC A);apply bS<;>intro OL
 .have U:¬((x<0)↔(y<0)):=fun e=>by
   have e2:decide (x.sign<0)=decide (y.sign<0):=decide_eq_decide.2 be;rw[e2]at OL;simp at OL
  rw[aK U]at key;refine cM (cE Y (pR dG (-(dS Q))) (fun O J r=>mJ (rlo r oF) ((hq.rel r oF).l (k:=1000003) be) be) ?_);rintro O _ _ _ Ta r G Y A U;replace OX:=OX.cL r oF G (mC A);replace hr:=hr.cL r oF G (mC A);have TE:=U.cO (nw r A);obtain⟨J0,J1,J2,J3,rfl⟩:=TE.shape;refine iR hτ uJ (.two 0 (.two 1 (.one 2 (.one 3 (.one 4 .nil))) 2 (.one 1 (.one 3 (.one 4 .nil)))) 1 (.one 0 (.one 2 (.one 3 (.one 4 .nil))))) d6 ?_;refine⟨?_,?_⟩
  .refine⟨?_,?_⟩
   .exact rtn Y fun I8 we re=>.inr ⟨QH,_,_,rfl,key.1▸TE.out re oF,key.2▸hr.out re oF⟩
   .exact rtn Y fun I8 we re=>.inr ⟨QH,_,_,rfl,key.1▸TE.out re oF,key.2▸hr.out re oF⟩
  .exact rtn Y fun I8 we re=>.inr ⟨QH,_,_,rfl,key.1▸TE.out re oF,key.2▸hr.out re oF⟩
 have U:(x<0)↔(y<0):=by
  have e2:decide (x.sign<0)=decide (y.sign<0):=by simpa using OL
  have:=decide_eq_decide.1 e2;omega
 rw[aM U]at key;refine iR hτ uJ (.two 0 (.two 1 (.one 2 (.one 3 (.one 4 .nil))) 2 (.one 1 (.one 3 (.one 4 .nil)))) 1 (.one 0 (.one 2 (.one 3 (.one 4 .nil))))) d6 ?_;refine⟨?_,?_⟩
 .refine⟨?_,?_⟩
  .exact rtn Y fun I8 we re=>.inr ⟨QH,_,_,rfl,key.1▸hq.out re oF,key.2▸hr.out re oF⟩
  .exact rtn Y fun I8 we re=>.inr ⟨QH,_,_,rfl,key.1▸hq.out re oF,key.2▸hr.out re oF⟩
 .exact rtn Y fun I8 we re=>.inr ⟨QH,_,_,rfl,key.1▸hq.out re oF,key.2▸hr.out re oF⟩
theorem jH{k l:Nat}(L:Old S w)(E:fA w S v k x)(hy:fA w S u l y)(Z:k<=1000000)(hl:l<=1000000)(h0:y≠0):
  eD PG Fd.oQ #[v,u] w (eL w fun v' F=>∃q r,v'= .tuple #[q,r,iV 0]/\dG F (Nf w F) q (x / y)/\dG F (Nf w F) r (x % y)):=
 (HW L E hy Z hl).mono fun _ _ ⟨v2,e1,e2,e3⟩=>⟨v2,e1,e2,e3.elim (fun h=>absurd h.1 h0) fun h=>h.2⟩
theorem Lr(x:Nat){y:Nat}(h:y≠0):ln (Nat.gcd x y)<=ln y:=e9 (Nat.le_of_dvd be (Nat.gcd_dvd_right x y))
theorem Eo{a b:Int}(N:b≠0):a / (b.sign*(Nat.gcd a.natAbs b.natAbs:Nat))=(Rat.divInt a b).num/\b / (b.sign*(Nat.gcd a.natAbs b.natAbs:Nat))=((Rat.divInt a b).den:Int):=by
 obtain⟨W,I⟩:=AT (a:=a) N;have d1:((Nat.gcd a.natAbs b.natAbs:Nat):Int) ∣ a:=Int.ofNat_dvd_left.2 (Nat.gcd_dvd_left _ _);have d2:((Nat.gcd a.natAbs b.natAbs:Nat):Int) ∣ b:=Int.ofNat_dvd_left.2 (Nat.gcd_dvd_right _ _);have sg:b.sign=1\/b.sign= -1:=by rcases fh b with h|h|h<;>omega
 have key:∀c:Int,((Nat.gcd a.natAbs b.natAbs:Nat):Int) ∣ c->b.sign*(Nat.gcd a.natAbs b.natAbs:Nat) ∣ c:=fun c hc=>by
  rcases sg with h|h<;>rw[h]
  .rw[Int.one_mul];exact hc
  .rw[Int.neg_one_mul];exact Int.neg_dvd.2 hc
 rw[<-W,<-I,Int.tdiv_eq_ediv_of_dvd (key a d1),Int.tdiv_eq_ediv_of_dvd (key b d2)];exact⟨rfl,rfl⟩
theorem AW{k l:Nat}(L:Old S w)(E:fA w S v k x)(hy:fA w S u l y)(Z:k<=1000000)(hl:l<=1000000):
  eD PG Fd.tG #[v,u] w (eL w fun v' F=>dG F (Nf w F) v' ((Nat.gcd x.natAbs y.natAbs:Nat):Int)):=by
 have Y:=bR w;replace E:=E.cO (S':=Cv S w.heap.size []) fun _ h=>.inl h;replace hy:=hy.cO (S':=Cv S w.heap.size []) fun _ h=>.inl h;obtain⟨b1,a1,n1,c1,rfl⟩:=E.shape;obtain⟨b2,a2,n2,c2,rfl⟩:=hy.shape;refine wD ce ?_;have QI:=E.ln;have RM:=hy.ln;refine dP [.x 0,.x 2,.x 1,.x 3,.x 4,.x 5] ?_;refine cE Y (pR dG ((x.natAbs:Int))) (fun O J r=>wv (rlo r L) (E.rel r L) be) ?_;rintro O _ _ _ OS r G Y A U;clear E;replace hy:=hy.cL r L G (mC A);have ha:=U.cO (nw r A);clear r;obtain⟨A0,A1,A2,A3,rfl⟩:=ha.shape;refine cE Y (pR dG ((y.natAbs:Int))) (fun O J r=>wv (rlo r L) (hy.rel r L) be) ?_;rintro O _ _ _ iv2 r G Y A U;clear hy;replace ha:=ha.cL r oF G (mC A);have hc:=U.cO (nw r A);clear r;obtain⟨C0,C1,C2,C3,rfl⟩:=hc.shape
 refine⟨Nat×Nat×(Bool×Option Addr×Nat×Nat)×(Bool×Option Addr×Nat×Nat)×World×Iv,fun z=>⟨[(2,pP 0 0),(3,pP 1 0),(4,pP 2 0)],[(2,.box T.Int [.v (.bool false),.v nls]),(1,.box T.Int [.v (.bool z.2.2.2.1.1),.v (.slice z.2.2.2.1.2.1 z.2.2.2.1.2.2.1 z.2.2.2.1.2.2.2)]),(0,.box T.Int [.v (.bool z.2.2.1.1),.v (.slice z.2.2.1.2.1 z.2.2.1.2.2.1 z.2.2.1.2.2.2)])],3,z.2.2.2.2.2,z.2.2.2.2.1⟩,fun z=>z.2.1,
  fun z=>Nat.gcd z.1 z.2.1=Nat.gcd x.natAbs y.natAbs/\ln z.1<=1000000/\ln z.2.1<=1000000/\Bq w z.2.2.2.2.1/\dG z.2.2.2.2.1 (Cf w z.2.2.2.2.2) (.agg #[.bool z.2.2.1.1,.slice z.2.2.1.2.1 z.2.2.1.2.2.1 z.2.2.1.2.2.2]) (z.1:Int)/\dG z.2.2.2.2.1 (Cf w z.2.2.2.2.2) (.agg #[.bool z.2.2.2.1.1,.slice z.2.2.2.1.2.1 z.2.2.2.1.2.2.1 z.2.2.2.1.2.2.2]) (z.2.1:Int),?_,?_⟩
 .intro O J r
  exact⟨(x.natAbs,y.natAbs,(A0,A1,A2,A3),(C0,C1,C2,C3),J,iv2),⟨rfl,by dsimp only;omega,by dsimp only;omega,Y.tr r.cV,ha.rel r oF,hc.rel r oF⟩,
   sbgn [] r⟩
 clear Y ha hc;rintro⟨a,b,⟨ba,aa,na,ca⟩,⟨bb,ab,nb,cb⟩,w1,iv⟩ ⟨V,Ti,Vd,Y,ha,hc⟩;dsimp only at V Ti Vd Y ha hc ⊢;refine cM (cE Y (pE (iV (b:Int).sign)) (fun O J r=>gM (rlo r oF) (hc.rel r oF).r) ?_);rintro O _ _ _ OR r G Y A rfl;replace ha:=ha.cL r oF G (mC A);replace hc:=hc.cL r oF G (mC A);clear r;have sb:=fh (b:Int);apply bS<;>intro h
 .have h:=aI h;have Ri:0<b:=by omega
  have hm:=cG a Ri;have PE:ln (a % b)<=1000000:=aP (e9 be) Vd;refine cM (cE Y (fun _ J v F=>∃q r,v= .tuple #[q,r,iV 0]/\dG F (Nf J F) q ((a:Int) / b)/\dG F (Nf J F) r ((a:Int) % b)) (fun O J r=>jH (rlo r oF) ((ha.rel r oF).l (k:=1000000) Ti) ((hc.rel r oF).l (k:=1000000) Vd) be be be) ?_);rintro O _ _ _ Ob r G Y A ⟨q,rr,rfl,k1,k2⟩;clear ha;replace hc:=hc.cL r oF G (mC A);have hq:=k1.cO (nw r A);have hr:=k2.cO (nw r A);clear r;obtain⟨s4_0a,s4_0b,s4_0c,s4_0d,rfl⟩:=hq.shape;obtain⟨s4_1a,s4_1b,s4_1c,s4_1d,rfl⟩:=hr.shape;clear k1 k2 hq;refine iR hτ uJ (.two 0 (.two 1 (.one 2 (.one 3 .nil)) 2 (.one 1 (.one 3 .nil))) 1 (.one 0 (.one 2 (.one 3 .nil)))) d6 ?_;refine⟨?_,?_⟩
  .conv=>whnf
   refine⟨?_,?_⟩
   .conv=>whnf
    intro IR w3 r3;exact⟨(b,a % b,(bb,ab,nb,cb),(s4_1a,s4_1b,s4_1c,s4_1d),w3,_),⟨by dsimp only;rw[<-V,Nat.gcd_comm a b,Nat.gcd_rec b a,Nat.gcd_comm],Vd,PE,Y.tr r3.cV,hc.rel r3 oF,hr.rel r3 oF⟩,sbgn [] r3,hm⟩
   .conv=>whnf
    intro IR w3 r3;exact⟨(b,a % b,(bb,ab,nb,cb),(s4_1a,s4_1b,s4_1c,s4_1d),w3,_),⟨by dsimp only;rw[<-V,Nat.gcd_comm a b,Nat.gcd_rec b a,Nat.gcd_comm],Vd,PE,Y.tr r3.cV,hc.rel r3 oF,hr.rel r3 oF⟩,sbgn [] r3,hm⟩
  .conv=>whnf
   intro IR w3 r3;exact⟨(b,a % b,(bb,ab,nb,cb),(s4_1a,s4_1b,s4_1c,s4_1d),w3,_),⟨by dsimp only;rw[<-V,Nat.gcd_comm a b,Nat.gcd_rec b a,Nat.gcd_comm],Vd,PE,Y.tr r3.cV,hc.rel r3 oF,hr.rel r3 oF⟩,sbgn [] r3,hm⟩
 have h:=aL h;obtain rfl:b=0:=by omega
 rw[Nat.gcd_zero_right]at V;subst V;clear hc;exact rtn Y fun I8 we re=>ha.out re oF
theorem mj{k l:Nat}(L:Old S w)(E:fA w S v k x)(hy:fA w S u l y)(Z:k<=1000000)(hl:l<=1000000)(QH:y≠0):
  eD PG Fd.sS #[v,u] w (eL w fun v' F=>cZ F (Nf w F) v' (Rat.divInt x y)):=by
 have Y:=bR w;replace E:=E.cO (S':=Cv S w.heap.size []) fun _ h=>.inl h;replace hy:=hy.cO (S':=Cv S w.heap.size []) fun _ h=>.inl h;obtain⟨b1,a1,n1,c1,rfl⟩:=E.shape;obtain⟨b2,a2,n2,c2,rfl⟩:=hy.shape;refine sF ce ?_;have QI:=E.ln;have RM:=hy.ln;have hlg:=Lr x.natAbs (y:=y.natAbs) be;obtain⟨U,hd⟩:=Eo (a:=x) QH;have sy:=fh y
 refine cM (cE Y (fun _ J v F=>∃n p,v= .tuple #[iV n,.bool p]/\(p=true->n=x/\x.natAbs<1073741824)) (fun O J r=>(nm (rlo r L) (E.rel r L).r).mono fun e F ⟨v2,e1,e2,e3⟩=>⟨v2,e1,e2,by
   rw[e3,jj];split
   .exact⟨_,_,rfl,fun _=>⟨rfl,‹_›⟩⟩
   .exact⟨_,_,rfl,fun h=>by cases h⟩⟩) ?_)
 rintro O _ _ _ OS r G Y A ⟨nx,px,rfl,qx⟩;replace E:=E.cL r L G (mC A);replace hy:=hy.cL r L G (mC A);clear r
 refine cM (cE Y (fun _ J v F=>∃n p,v= .tuple #[iV n,.bool p]/\(p=true->n=y/\y.natAbs<1073741824)) (fun O J r=>(nm (rlo r L) (hy.rel r L).r).mono fun e F ⟨v2,e1,e2,e3⟩=>⟨v2,e1,e2,by
   rw[e3,jj];split
   .exact⟨_,_,rfl,fun _=>⟨rfl,‹_›⟩⟩
   .exact⟨_,_,rfl,fun h=>by cases h⟩⟩) ?_)
 rintro O _ _ _ iv2 r G Y A ⟨ny,py,rfl,qy⟩;replace E:=E.cL r L G (mC A);replace hy:=hy.cL r L G (mC A);clear r;apply bS<;>intro W
 .obtain⟨e1,Ve⟩:=qx W;replace e1:=e1.symm;subst e1;apply bS<;>intro I
  .obtain⟨e2,hys⟩:=qy I;replace e2:=e2.symm;subst e2;clear E hy;refine cM (cE Y (pR cZ (Rat.divInt x y)) (fun O J r=>rU x y J be be QH) ?_);rintro O PT v3 PX OR r G Y A U;have hR:=U.cO (nw r A);clear r U;obtain⟨A0,A1,A2,A3,A4,A5,A6,A7,rfl⟩:=hR.shape;exact rtn Y fun I8 we re=>hR.out re oF
  refine cM (cE Y (pR dG (((Nat.gcd x.natAbs y.natAbs:Nat):Int))) (fun O J r=>AW (rlo r L) (E.rel r L) (hy.rel r L) Z hl) ?_);rintro O PT v3 PX OR r G Y A U;replace E:=E.cL r L G (mC A);replace hy:=hy.cL r L G (mC A);have V:=U.cO (nw r A);clear r U;obtain⟨A0,A1,A2,A3,rfl⟩:=V.shape;refine cM (cE Y (pE (iV y.sign)) (fun O J r=>gM (rlo r L) (hy.rel r L).r) ?_);rintro O QX v4 QA Ob r G Y A rfl;replace E:=E.cL r L G (mC A);replace hy:=hy.cL r L G (mC A);replace V:=V.cL r oF G (mC A);clear r;have hgp:0<Nat.gcd x.natAbs y.natAbs:=cF _ be;generalize Nat.gcd x.natAbs y.natAbs=g at*
  apply bS<;>intro hs
  .have hs:=aI hs;rw[show y.sign= -1 by omega,Int.neg_one_mul]at U hd;refine cM (cE Y (pR dG (-(g:Int))) (fun O J r=>mJ (rlo r oF) ((V.rel r oF).l (k:=1000000) (by rw[Int.natAbs_natCast];omega)) be) ?_);rintro O UL v5 UM Of r G Y A U;replace E:=E.cL r L G (mC A);replace hy:=hy.cL r L G (mC A);clear V;have Pa:=U.cO (nw r A);clear r U;obtain⟨C0,C1,C2,C3,rfl⟩:=Pa.shape;refine cM (cE Y (fun _ J v F=>∃q r,v= .tuple #[q,r,iV 0]/\dG F (Nf J F) q (Rat.divInt x y).num/\dG F (Nf J F) r (x % (-(g:Int)))) (fun O J r=>U▸jH (rlo r L) (E.rel r L) ((((Pa.rel r oF).l (k:=1000000) (by rw[cJ,Int.natAbs_natCast];omega))).cO fun g V=>Cv.false V) Z be be) ?_);rintro O SD v6 SE PL r G Y A ⟨q,rr,rfl,k1,k2⟩;clear E;replace hy:=hy.cL r L G (mC A);replace Pa:=Pa.cL r oF G (mC A);have hq:=k1.cO (nw r A);have hr:=k2.cO (nw r A);clear r;obtain⟨s6_0a,s6_0b,s6_0c,s6_0d,rfl⟩:=hq.shape;obtain⟨s6_1a,s6_1b,s6_1c,s6_1d,rfl⟩:=hr.shape;clear k1 k2 hr;refine cM (cE Y (fun _ J v F=>∃q r,v= .tuple #[q,r,iV 0]/\dG F (Nf J F) q ((Rat.divInt x y).den:Int)/\dG F (Nf J F) r (y % (-(g:Int)))) (fun O J r=>hd▸jH (rlo r L) (hy.rel r L) ((((Pa.rel r oF).l (k:=1000000) (by rw[cJ,Int.natAbs_natCast];omega))).cO fun g V=>Cv.false V) hl be be) ?_);rintro O Sj v7 Sk QB r G Y A ⟨q,rr,rfl,k1,k2⟩;clear hy;clear Pa;replace hq:=hq.cL r oF G (mC A);have QW:=k1.cO (nw r A);have hr:=k2.cO (nw r A);clear r;obtain⟨s7_0a,s7_0b,s7_0c,s7_0d,rfl⟩:=QW.shape;obtain⟨s7_1a,s7_1b,s7_1c,s7_1d,rfl⟩:=hr.shape;clear k1 k2 hr;exact rtn Y fun I8 we re=>(cZ.of hq QW).out re oF
  have hs:=aL hs;rw[show y.sign=1 by omega,Int.one_mul]at U hd;refine cM (cE Y (fun _ J v F=>∃q r,v= .tuple #[q,r,iV 0]/\dG F (Nf J F) q (Rat.divInt x y).num/\dG F (Nf J F) r (x % ((g:Int)))) (fun O J r=>U▸jH (rlo r L) (E.rel r L) ((((V.rel r oF).l (k:=1000000) (by rw[Int.natAbs_natCast];omega))).cO fun g V=>Cv.false V) Z be be) ?_);rintro O UL v5 UM Of r G Y A ⟨q,rr,rfl,k1,k2⟩;clear E;replace hy:=hy.cL r L G (mC A);replace V:=V.cL r oF G (mC A);have hq:=k1.cO (nw r A);have hr:=k2.cO (nw r A);clear r;obtain⟨s5_0a,s5_0b,s5_0c,s5_0d,rfl⟩:=hq.shape;obtain⟨s5_1a,s5_1b,s5_1c,s5_1d,rfl⟩:=hr.shape;clear k1 k2 hr;refine cM (cE Y (fun _ J v F=>∃q r,v= .tuple #[q,r,iV 0]/\dG F (Nf J F) q ((Rat.divInt x y).den:Int)/\dG F (Nf J F) r (y % ((g:Int)))) (fun O J r=>hd▸jH (rlo r L) (hy.rel r L) ((((V.rel r oF).l (k:=1000000) (by rw[Int.natAbs_natCast];omega))).cO fun g V=>Cv.false V) hl be be) ?_);rintro O SD v6 SE PL r G Y A ⟨q,rr,rfl,k1,k2⟩;clear hy;clear V;replace hq:=hq.cL r oF G (mC A);have QW:=k1.cO (nw r A);have hr:=k2.cO (nw r A);clear r;obtain⟨s6_0a,s6_0b,s6_0c,s6_0d,rfl⟩:=QW.shape;obtain⟨s6_1a,s6_1b,s6_1c,s6_1d,rfl⟩:=hr.shape;clear k1 k2 hr;exact rtn Y fun I8 we re=>(cZ.of hq QW).out re oF
 refine cM (cE Y (pR dG (((Nat.gcd x.natAbs y.natAbs:Nat):Int))) (fun O J r=>AW (rlo r L) (E.rel r L) (hy.rel r L) Z hl) ?_);rintro O _ _ _ OR r G Y A U;replace E:=E.cL r L G (mC A);replace hy:=hy.cL r L G (mC A);have V:=U.cO (nw r A);clear r U;obtain⟨A0,A1,A2,A3,rfl⟩:=V.shape;refine cM (cE Y (pE (iV y.sign)) (fun O J r=>gM (rlo r L) (hy.rel r L).r) ?_);rintro O _ _ _ Ob r G Y A rfl;replace E:=E.cL r L G (mC A);replace hy:=hy.cL r L G (mC A);replace V:=V.cL r oF G (mC A);clear r;have hgp:0<Nat.gcd x.natAbs y.natAbs:=cF _ be;generalize Nat.gcd x.natAbs y.natAbs=g at*
 apply bS<;>intro hs
 .have hs:=aI hs;rw[show y.sign= -1 by omega,Int.neg_one_mul]at U hd;refine cM (cE Y (pR dG (-(g:Int))) (fun O J r=>mJ (rlo r oF) ((V.rel r oF).l (k:=1000000) (by rw[Int.natAbs_natCast];omega)) be) ?_);rintro O UL v5 UM Of r G Y A U;replace E:=E.cL r L G (mC A);replace hy:=hy.cL r L G (mC A);clear V;have Pa:=U.cO (nw r A);clear r U;obtain⟨C0,C1,C2,C3,rfl⟩:=Pa.shape;refine cM (cE Y (fun _ J v F=>∃q r,v= .tuple #[q,r,iV 0]/\dG F (Nf J F) q (Rat.divInt x y).num/\dG F (Nf J F) r (x % (-(g:Int)))) (fun O J r=>U▸jH (rlo r L) (E.rel r L) ((((Pa.rel r oF).l (k:=1000000) (by rw[cJ,Int.natAbs_natCast];omega))).cO fun g V=>Cv.false V) Z be be) ?_);rintro O SD v6 SE PL r G Y A ⟨q,rr,rfl,k1,k2⟩;clear E;replace hy:=hy.cL r L G (mC A);replace Pa:=Pa.cL r oF G (mC A);have hq:=k1.cO (nw r A);have hr:=k2.cO (nw r A);clear r;obtain⟨s6_0a,s6_0b,s6_0c,s6_0d,rfl⟩:=hq.shape;obtain⟨s6_1a,s6_1b,s6_1c,s6_1d,rfl⟩:=hr.shape;clear k1 k2 hr;refine cM (cE Y (fun _ J v F=>∃q r,v= .tuple #[q,r,iV 0]/\dG F (Nf J F) q ((Rat.divInt x y).den:Int)/\dG F (Nf J F) r (y % (-(g:Int)))) (fun O J r=>hd▸jH (rlo r L) (hy.rel r L) ((((Pa.rel r oF).l (k:=1000000) (by rw[cJ,Int.natAbs_natCast];omega))).cO fun g V=>Cv.false V) hl be be) ?_);rintro O _ _ _ QB r G Y A ⟨q,rr,rfl,k1,k2⟩;clear hy;clear Pa;replace hq:=hq.cL r oF G (mC A);have QW:=k1.cO (nw r A);have hr:=k2.cO (nw r A);clear r;obtain⟨s7_0a,s7_0b,s7_0c,s7_0d,rfl⟩:=QW.shape;obtain⟨s7_1a,s7_1b,s7_1c,s7_1d,rfl⟩:=hr.shape;clear k1 k2 hr;exact rtn Y fun I8 we re=>(cZ.of hq QW).out re oF
 have hs:=aL hs;rw[show y.sign=1 by omega,Int.one_mul]at U hd;refine cM (cE Y (fun _ J v F=>∃q r,v= .tuple #[q,r,iV 0]/\dG F (Nf J F) q (Rat.divInt x y).num/\dG F (Nf J F) r (x % ((g:Int)))) (fun O J r=>U▸jH (rlo r L) (E.rel r L) ((((V.rel r oF).l (k:=1000000) (by rw[Int.natAbs_natCast];omega))).cO fun g V=>Cv.false V) Z be be) ?_);rintro O _ _ _ Of r G Y A ⟨q,rr,rfl,k1,k2⟩;clear E;replace hy:=hy.cL r L G (mC A);replace V:=V.cL r oF G (mC A);have hq:=k1.cO (nw r A);have hr:=k2.cO (nw r A);clear r;obtain⟨s5_0a,s5_0b,s5_0c,s5_0d,rfl⟩:=hq.shape;obtain⟨s5_1a,s5_1b,s5_1c,s5_1d,rfl⟩:=hr.shape;clear k1 k2 hr;refine cM (cE Y (fun _ J v F=>∃q r,v= .tuple #[q,r,iV 0]/\dG F (Nf J F) q ((Rat.divInt x y).den:Int)/\dG F (Nf J F) r (y % ((g:Int)))) (fun O J r=>hd▸jH (rlo r L) (hy.rel r L) ((((V.rel r oF).l (k:=1000000) (by rw[Int.natAbs_natCast];omega))).cO fun g V=>Cv.false V) hl be be) ?_);rintro O _ _ _ PL r G Y A ⟨q,rr,rfl,k1,k2⟩;clear hy;clear V;replace hq:=hq.cL r oF G (mC A);have QW:=k1.cO (nw r A);have hr:=k2.cO (nw r A);clear r;obtain⟨s6_0a,s6_0b,s6_0c,s6_0d,rfl⟩:=QW.shape;obtain⟨s6_1a,s6_1b,s6_1c,s6_1d,rfl⟩:=hr.shape;clear k1 k2 hr;exact rtn Y fun I8 we re=>(cZ.of hq QW).out re oF
end Go.Ex
