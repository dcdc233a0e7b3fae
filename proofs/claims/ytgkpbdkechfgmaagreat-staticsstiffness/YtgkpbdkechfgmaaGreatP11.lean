/- Texts X131 to XTg: lemmas, each with its conditions. -/
import Derived.Test.YtgkpbdkechfgmaaGreatP10
namespace Go.Ex
open Go Go.Sx Go.Proofs
variable{xs:List Rat}{Z:List Value}{C S:Nat->Prop}{a:Option Addr}{q:Rat}{v:Value}{w:World}
structure gw(w:World)(S:Nat->Prop)(n i:Nat)(A:List (List Value))(qs:List Rat):Prop where
 len:A.length=n
 four:∀Z∈A,Z.length=4
 one:∀Z∈A,∀u∈Z,u.oneCell'=true
 at_:∀(j:Nat) Z q,j<i->A[j]? =some Z->qs[j]? =some q->js w S Z q
section
variable{S S':Nat->Prop}{H:Hp}{nx n i:Nat}{iv N:Iv}{B:Nat}{w w1 J Y:World}{O:Nat->Sx.eG}{A:List (List Value)}{qs:List Rat}
theorem gw.cR(h:gw w S n i A qs)(K:∀g,S g->Y.heap[g]? =w.heap[g]?):gw Y S n i A qs:=⟨h.len,h.four,h.one,fun j Z q hj I G=>(h.at_ j Z q hj I G).cR K⟩
theorem gw.cP(h:gw w S n i A qs)(K:∀g,S g->S' g):gw w S' n i A qs:=⟨h.len,h.four,h.one,fun j Z q hj I G=>(h.at_ j Z q hj I G).cP K⟩
theorem gw.rel(h:gw w (Cv S B iv) n i A qs)(r:Rel H nx iv B w O J)(F:∀g,S g->g<B):gw J (Cv S B iv) n i A qs:=h.cR fun _ X=>rls r F X
theorem gw.cS(h:gw w (Cv S B iv) n i A qs)(r:Rel H nx iv B w O J)(F:∀g,S g->g<B)(L:Ext J Y)(hm:∀p,p∈iv->p∈N):gw Y (Cv S B N) n i A qs:=
 ((h.rel r F).cR fun g X=>L.block g (rlo r F g X)).cP fun _ X=>X.mono hm
theorem gw.start(w:World)(S:Nat->Prop)(n:Nat)(qs:List Rat):gw w S n 0 (List.replicate n f0) qs:=
 ⟨bv,fun Z hc=>by rw[bW hc];rfl,fun Z hc u hu=>by rw[bW hc]at hu;simp[f0]at hu;rcases hu with rfl|rfl|rfl|rfl<;>rfl,fun j Z q hj=>be⟩
theorem gw.next{b b2:Bool}{a2:Option Addr}{m c m2 c2:Nat}(h:gw w S n i A qs)(D:i<n)(hq:qs[i]? =some q)(hf:cY w S (.agg #[.bool b,.slice a m c,.bool b2,.slice a2 m2 c2]) q):
  gw w S n (i+1) (A.set i (rC b a m c b2 a2 m2 c2)) qs:=by
 refine⟨by simp[h.len],fun Z hc=>?_,fun Z hc u hu=>?_,fun j Z p hj I G=>?_⟩
 .rcases bE hc with hc|rfl
  .exact h.four Z hc
  .rfl
 .rcases bE hc with hc|rfl
  .exact h.one Z hc u hu
  .simp at hu;rcases hu with rfl|rfl|rfl|rfl<;>rfl
 .by_cases Py:i=j
  .subst Py;rw[aT (by rw[h.len];exact D)]at I;rw[hq]at G;injection I with I;injection G with G;subst I G;exact hf.sd
  .rw[aY Py]at I;exact h.at_ j Z p be I G
theorem gw.flat(h:gw w S n i A qs):A.flatten.length=n*4:=by rw[eP h.four,h.len]
theorem gw.done{w0:World}(h:gw w1 (Cf w0 iv) n n A qs)(hl:qs.length=n)(W:n<=maxLen)(r:Rel H nx iv w0.heap.size w1 O J){id:Nat}(hH:dU H id=some (.arr T.Rat A.flatten))(PK:(O id).nil=false):
  eV J FF w0.heap.size [(w0.heap.size,J.heap.size)] (.slice (some ⟨(O id).g,0,none⟩) n n) n qs:=by
 have G:=h.rel r (aAa w0);have PI:=r.low id _ hH PK;refine⟨⟨A,⟨h.flat,.inr ⟨(O id).g,n,A.flatten.toArray,rfl,aR _,r.arr id _ _ hH,lr,W,by simpa using h.flat,?_⟩⟩,h.len,?_⟩,fun g X=>?_⟩
 .rw[<-h.flat];exact bN
 .refine⟨by rw[h.len,hl],fun j Z q h3 h4=>?_⟩;refine(G.at_ j Z q (by rw[<-hl];exact(aE.1 h4).1) h3 h4).cP fun g X=>⟨?_,fun e=>?_⟩
  .rcases X with X|⟨k1,lo,D,k2,k3,k4⟩
   .exact X.elim
   .exact .inr ⟨k1,_,_,bK.2 rfl,k1,by have:=r.tI lo D k2;have:=r.size;omega⟩
  .injection e with e;exact Rel.not r (aAa w0) X id _ hH PK e
 .injection X with X;subst X;exact .inr ⟨PI.1,_,_,bK.2 rfl,PI.1,PI.2⟩
theorem gz.c(h:gz w S S v qs):cX w S v qs:=by
 obtain⟨A,I,G⟩:=h;exact⟨A,I,G.1,G.ma,G.2⟩
theorem eV.c(h:eV w S B iv v n qs):cX w (Cv S B iv) v qs:=h.read.c
theorem cX.rc(h:cX w S v qs):gz w S S v qs:=by
 obtain⟨A,I,G,h3,h4⟩:=h;exact⟨A,I,G,h4⟩
theorem gz.rel(h:gz w (Cv C B iv) (Cv S B iv) v qs)(r:Rel H nx iv B w O J)(hC:∀g,C g->g<B)(F:∀g,S g->g<B):gz J (Cv C B iv) (Cv S B iv) v qs:=
 h.cR fun _ X=>X.elim (rls r hC) (rls r F)
theorem gz.cS(h:gz w (Cv C B iv) (Cv S B iv) v qs)(r:Rel H nx iv B w O J)(hC:∀g,C g->g<B)(F:∀g,S g->g<B)(L:Ext J Y)(hm:∀p,p∈iv->p∈N):gz Y (Cv C B N) (Cv S B N) v qs:=
 ((h.rel r hC F).cR fun g X=>L.block g (X.elim (rlo r hC g) (rlo r F g))).cP (fun _ X=>X.mono hm) (fun _ X=>X.mono hm)
theorem gz.arg(h:gz w C S v qs)(iv:Iv):gz w (Cv C w.heap.size iv) (Cv S w.heap.size iv) v qs:=h.cP (fun _ h=>.inl h) (fun _ h=>.inl h)
theorem gz.shape(h:gz w C S v qs):∃a c,v= .slice a qs.length c/\qs.length<=c/\qs.length<=maxLen:=by
 obtain⟨A,⟨h0,_,_,a,c,I,G,_⟩,_⟩:=h;exact⟨a,c,I,G,h0⟩
theorem gz.load{n c j:Nat}(h:gz w C S (.slice a n c) qs)(hq:qs[j]? =some q):
  ∃ad Z,a=some ad/\js w S Z q/\∀k u,Z[k]? =some u->C ad.block/\w.cell? ((ad.add (j*4)).add k)=some u:=by
 obtain⟨A,⟨h0,I,G,a',c',e,h3,h4⟩,hf⟩:=h;injection e with e1 e2 e3;subst e1;obtain⟨Z,PT⟩:∃Z,A[j]? =some Z:=⟨_,aD (by rw[hf.1];exact(aE.1 hq).1)⟩
 have hF:=hf.2 j Z q PT hq;have hl:=hF.len;obtain⟨ad,k1,k2,k3⟩:=h4 (j*4+0) _ (flat_get hf.ma PT 0 _ (aD (show 0<Z.length by omega)));refine⟨ad,Z,k1,hF,fun k u hu=>?_⟩;obtain⟨ad2,m1,m2,m3⟩:=h4 (j*4+k) u (flat_get hf.ma PT k u hu);rw[k1]at m1;injection m1 with m1;subst m1;refine⟨m2,?_⟩;rw[<-m3];have:(ad.add (j*4)).add k=ad.add (j*4+k):=by
  unfold Addr.add;split<;>split<;>simp_all<;>omega
 rw[this]
theorem Ig{j:Nat}{c:Nat}(h:w.ownsRow 0 T.Rat 4 (.slice a n c) n A.flatten)(hf:Fc w S A qs)(hj:A[j]? =some Z):
  ∃g,a=some ⟨g,0,none⟩/\∀k u,Z[k]? =some u->w.cell? ((Addr.add ⟨g,0,none⟩ (j*4)).add k)=some u:=by
 rcases h.2 with⟨I,h0⟩|⟨g,cap,cur,SN,_⟩
 .have:=h.1;rw[eP hf.ma]at this;have:=(aE.1 hj).1;omega
 .injection SN with I G h3;subst I;refine⟨g,rfl,fun k u hu=>?_⟩;have:=h.cells (g:=g) rfl (j*4+k) u (flat_get hf.ma hj k u hu);rw[dX,dX];rw[dX]at this;rw[Nat.add_assoc];exact this
end
theorem DQ(n:Nat)(w:World)(W:n<=1000000):eH PG GT.uI #[iV n] w (eR w fun v' Y=>eV Y FF w.heap.size [(w.heap.size,Y.heap.size)] v' n (List.replicate n 0)):=by
 have V:=bR w;refine yu bv ?_
 refine⟨n,n,rfl,rfl,lr,be,be,Nat×List (List Value)×Iv×World,fun z=>⟨[(3,.o (.s 0 0 n n)),(8,iZ n),(9,iN z.1)],[(0,.arr T.Rat z.2.1.flatten)],1,z.2.2.1,z.2.2.2⟩,fun z=>n-z.1,
  fun z=>z.1<=n/\Bq w z.2.2.2/\gw z.2.2.2 (Cf w z.2.2.1) (n) z.1 z.2.1 (List.replicate n 0),?_,?_⟩
 .intro O J r;exact⟨(0,List.replicate (n) f0,_,J),⟨bv,V.tr r.cZ,gw.start _ _ _ _⟩,sbgn [] r⟩
 rintro⟨i,A,iv,w1⟩ ⟨D,V,hF⟩;dsimp only at D V hF ⊢;apply bS<;>intro h
 .have h:=dL h;refine cQ (cE V (pR cY (((0:Int):Rat))) (fun O J r=>kh 0 J bi bi) ?_);rintro O _ _ _ PA r L V E W;replace hF:=hF.cS r oF L (mC E);have hd:=W.cP (nw r E);obtain⟨A0,A1,A2,A3,A4,A5,A6,A7,rfl⟩:=hd.shape;have PL:=hF.next h (q:=_) (by simp[h]) hd
  refine⟨be,by have:=hF.flat;omega,(A.set i (rC A0 A1 A2 A3 A4 A5 A6 A7)).flatten,?_,?_⟩
  .have:=jy (Z:=rC A0 A1 A2 A3 A4 A5 A6 A7) hF.four (show i<A.length by rw[hF.len];exact h);rw[<-this];simp
  refine inc i ?_;intro I' w3 R;exact⟨(i+1,A.set i (rC A0 A1 A2 A3 A4 A5 A6 A7),_,w3),⟨h,V.tr R.cZ,PL.rel R oF⟩,sbgn [] R,dec h⟩
 have h:=dE D h;subst h;exact rtn V fun J8 we re=>hF.done bv mx re (id:=0) rfl (re.nn 0 _ rfl (by intros;simp) bv)
theorem FG{u:Value}{b:Rat}(F:Old S w)(U:dK w S v xs)(hb:e9 w S u b)(W:xs.length<=1000000):
  eH PG GT.sK #[v,u] w (eR w fun v' Y=>eV Y FF w.heap.size [(w.heap.size,Y.heap.size)] v' xs.length (eI xs b)):=by
 have V:=bR w;obtain⟨ax,cx,rfl,To,UJ⟩:=dT.shape U;obtain⟨g0,g1,g2,g3,g4,g5,g6,g7,rfl⟩:=hb.shape;have PZ:rl b<=100000:=hb.rl;refine x8 bv ?_
 refine⟨xs.length,xs.length,rfl,rfl,lr,be,be,Nat×List (List Value)×Iv×World,fun z=>⟨[(3,pP 0 0),(5,.o (.s 1 0 xs.length xs.length)),(11,sV ax xs.length cx),(12,iZ xs.length),(13,iN z.1)],[(0,.box T.Rat [.v (.bool g0),.v (.slice g1 g2 g3),.v (.bool g4),.v (.slice g5 g6 g7)]),(1,.arr T.Rat z.2.1.flatten)],2,z.2.2.1,z.2.2.2⟩,fun z=>xs.length-z.1,
  fun z=>z.1<=xs.length/\Bq w z.2.2.2/\gw z.2.2.2 (Cf w z.2.2.1) (xs.length) z.1 z.2.1 (eI xs b),?_,?_⟩
 .intro O J r;exact⟨(0,List.replicate (xs.length) f0,_,J),⟨bv,V.tr r.cZ,gw.start _ _ _ _⟩,sbgn [] r⟩
 rintro⟨i,A,iv,w1⟩ ⟨D,V,hF⟩;dsimp only at D V hF ⊢;apply bS<;>intro h
 .have h:=dL h;obtain⟨x,QB⟩:=gO xs i;obtain⟨adx,csx,QU,Qu,-,Pq⟩:=dT.load U QB;obtain⟨f0,f1,f2,f3,f4,f5,f6,f7,rfl,Qu⟩:=Qu;refine⟨adx,QU,be,rC f0 f1 f2 f3 f4 f5 f6 f7,rfl,rdO Pq V F,?_⟩;refine cQ (cE V (pR cY (x*b)) (fun O J r=>DP (oS F r) (Qu.v.cR (kS V r F)) (hb.v.cR (kS V r F))) ?_);rintro O _ _ _ PA r L V E W;replace hF:=hF.cS r oF L (mC E);have hd:=W.cP (nw r E);obtain⟨A0,A1,A2,A3,A4,A5,A6,A7,rfl⟩:=hd.shape;have PL:=hF.next h (q:=_) (by rw[eI,aO,QB];rfl) hd
  refine⟨be,by have:=hF.flat;omega,(A.set i (rC A0 A1 A2 A3 A4 A5 A6 A7)).flatten,?_,?_⟩
  .have:=jy (Z:=rC A0 A1 A2 A3 A4 A5 A6 A7) hF.four (show i<A.length by rw[hF.len];exact h);rw[<-this];simp
  refine inc i ?_;intro I' w3 R;exact⟨(i+1,A.set i (rC A0 A1 A2 A3 A4 A5 A6 A7),_,w3),⟨h,V.tr R.cZ,PL.rel R oF⟩,sbgn [] R,dec h⟩
 have h:=dE D h;subst h;exact rtn V fun J8 we re=>hF.done (by simp[eI]) mx re (id:=1) rfl (re.nn 1 _ rfl (by intros;simp) bv)
theorem MA{u:Value}{ys:List Rat}(F:Old S w)(U:dK w S v xs)(hy:dK w S u ys)(hl:xs.length<=ys.length)(W:xs.length<=1000000):
  eH PG GT.xH #[v,u] w (eR w fun v' Y=>eV Y FF w.heap.size [(w.heap.size,Y.heap.size)] v' xs.length (fu xs ys)):=by
 have V:=bR w;obtain⟨ax,cx,rfl,To,UJ⟩:=dT.shape U;obtain⟨ay,cy,rfl,hcy,hmy⟩:=dT.shape hy;refine Ab bv ?_
 refine⟨xs.length,xs.length,rfl,rfl,lr,be,be,Nat×List (List Value)×Iv×World,fun z=>⟨[(0,sV ax xs.length cx),(1,sV ay ys.length cy),(5,.o (.s 0 0 xs.length xs.length)),(11,iZ xs.length),(12,iN z.1)],[(0,.arr T.Rat z.2.1.flatten)],1,z.2.2.1,z.2.2.2⟩,fun z=>xs.length-z.1,
  fun z=>z.1<=xs.length/\Bq w z.2.2.2/\gw z.2.2.2 (Cf w z.2.2.1) (xs.length) z.1 z.2.1 (fu xs ys),?_,?_⟩
 .intro O J r;exact⟨(0,List.replicate (xs.length) f0,_,J),⟨bv,V.tr r.cZ,gw.start _ _ _ _⟩,sbgn [] r⟩
 rintro⟨i,A,iv,w1⟩ ⟨D,V,hF⟩;dsimp only at D V hF ⊢;apply bS<;>intro h
 .have h:=dL h;obtain⟨x,QB⟩:=gO xs i;obtain⟨y,Sn⟩:=gO ys i;obtain⟨adx,csx,QU,Qu,-,Pq⟩:=dT.load U QB;obtain⟨f0,f1,f2,f3,f4,f5,f6,f7,rfl,Qu⟩:=Qu;obtain⟨ady,csy,VS,Rt,-,RL⟩:=dT.load hy Sn;obtain⟨q0,q1,q2,q3,q4,q5,q6,q7,rfl,Rt⟩:=Rt;refine dP (idO 13) ?_;refine⟨adx,QU,be,rC f0 f1 f2 f3 f4 f5 f6 f7,rfl,rdO Pq V F,ady,VS,be,rC q0 q1 q2 q3 q4 q5 q6 q7,rfl,rdO RL V F,?_⟩;refine cE V (pR cY (x*y)) (fun O J r=>DP (oS F r) (Qu.v.cR (kS V r F)) (Rt.v.cR (kS V r F))) ?_;rintro O _ _ _ PA r L V E W;replace hF:=hF.cS r oF L (mC E);have hd:=W.cP (nw r E);obtain⟨A0,A1,A2,A3,A4,A5,A6,A7,rfl⟩:=hd.shape;have PL:=hF.next h (q:=_) (by rw[fu,List.getElem?_mapIdx,QB,List.getD,Sn];rfl) hd
  refine⟨be,by have:=hF.flat;omega,(A.set i (rC A0 A1 A2 A3 A4 A5 A6 A7)).flatten,?_,?_⟩
  .have:=jy (Z:=rC A0 A1 A2 A3 A4 A5 A6 A7) hF.four (show i<A.length by rw[hF.len];exact h);rw[<-this];simp
  refine inc i ?_;intro I' w3 R;exact⟨(i+1,A.set i (rC A0 A1 A2 A3 A4 A5 A6 A7),_,w3),⟨h,V.tr R.cZ,PL.rel R oF⟩,sbgn [] R,dec h⟩
 have h:=dE D h;subst h;exact rtn V fun J8 we re=>hF.done (by simp[fu]) mx re (id:=0) rfl (re.nn 0 _ rfl (by intros;simp) bv)
theorem aBw{vby vs:Value}{n h:Nat}{qs ps:List Rat}{p:Rat}(hC:Old C w)(F:Old S w)(hrw:iJ w S v n qs)(PZ:e9 w S vby p)
  (hs:gz w C S vs ps) (Q4:ps.length=n) (hdis:∀g,v.ownBlock=some g->¬S g) (WC:∀g,v.ownBlock=some g->¬C g) (hq:∀q∈qs,rl q+1<=h) (hps:∀q∈ps,rl q+1<=h) (hb:rl p+1<=h) (hh:3*h<=90000):
  eH PG GT.qL #[v,vs,vby] w (fun e Y=>e= .returned (.tuple #[])/\w.grownBy Y v.ownBlock/\iJ Y (Nw S w Y) v n (nh qs ps p)):=by
 obtain⟨A,Ov,QW,Q1⟩:=hrw;have PI:∀g,v.ownBlock=some g->g<w.heap.size:=fun g X=>(ownsRow.low Ov g X).2;have QH:∀iv g,v.ownBlock=some g->Out w.heap.size iv g:=fun iv g X=>.inl (PI g X);have Wg:∀iv g,v.ownBlock=some g->¬Cv S w.heap.size iv g:=fun iv g X h=>by
  rcases h with h|⟨h,_⟩
  .exact hdis g X h
  .have:=PI g X;omega
 have Wh:∀iv g,v.ownBlock=some g->¬Cv C w.heap.size iv g:=fun iv g X h=>by
  rcases h with h|⟨h,_⟩
  .exact WC g X h
  .have:=PI g X;omega
 have Ss:qs.length=n:=by rw[<-Q1.1,QW]
 obtain⟨a,c,rfl,VL⟩:=ie Ov;obtain⟨b1,a1,n1,c1,b2,a2,n2,c2,rfl⟩:=PZ.shape;obtain⟨asl,cs0,rfl,TD,Vx⟩:=hs.shape;rw[Q4]at TD Vx hs ⊢;unfold maxLen at Vx;replace Q1:=Q1.cP (S':=Cv S w.heap.size []) fun _ h=>.inl h;replace PZ:=PZ.arg [];replace hs:=hs.arg [];refine Ai bv ?_;have QJ:=Ov;have X:w.grownBy w (Value.slice a n c).ownBlock:=⟨rfl,rfl,rfl,lr,fun _ _ _=>rfl⟩
 have hbyl:rl p<=100000:=PZ.rl
 refine⟨Nat×List (List Value)×Iv×World,fun z=>⟨[(0,sV a n c),(5,pP 0 0),(8,sV asl n cs0),(9,iZ n),(10,iZ z.1)],
   [(0,.box T.Rat [.v (.bool b1),.v (.slice a1 n1 c1),.v (.bool b2),.v (.slice a2 n2 c2)])],1,z.2.2.1,z.2.2.2⟩,fun z=>n-z.1,
  fun z=>z.1<=n/\w.grownBy z.2.2.2 (Value.slice a n c).ownBlock/\z.2.2.2.ownsRow 0 T.Rat 4 (.slice a n c) n z.2.1.flatten/\z.2.1.length=n/\Fc z.2.2.2 (Cv S w.heap.size z.2.2.1) z.2.1 (ig z.1 (ou (-p) ps) qs)/\
   e9 z.2.2.2 (Cv S w.heap.size z.2.2.1) (.agg #[.bool b1,.slice a1 n1 c1,.bool b2,.slice a2 n2 c2]) p/\gz z.2.2.2 (Cv C w.heap.size z.2.2.1) (Cv S w.heap.size z.2.2.1) (.slice asl n cs0) ps,?_,?_⟩
 .intro O J r
  refine⟨(0,A,[],J),⟨bv,eY X r.cZ,ij QJ (QH []) r,QW,by rw[qX];exact Q1.rel r F,PZ.rel r F,hs.rel r hC F⟩,
   sbgn [] r⟩
 rintro⟨i,A,iv,w1⟩ ⟨D,X,Ov,QW,Q1,PZ,hs⟩;dsimp only at D X Ov QW Q1 PZ hs ⊢;apply bS<;>intro h
 .have h:=dL h;obtain⟨Z,PT⟩:=gO A i;obtain⟨q,Xm⟩:=gO qs i;obtain⟨f,Ul⟩:=gO ps i;have hF:=Q1.2 i Z q PT (xp Xm);have Uv:ou (-p) ps i q=q-p*f:=by simp only[ou,List.getD,Ul,Option.getD_some];grind
  obtain⟨d1,e1,m1,k1,d2,e2,m2,k2,rfl,hF⟩:=hF;have hrlq:=hq q (aC Xm);have hrlf:=hps f (aC Ul);obtain⟨ad,fcs,PU,VT,PM⟩:=hs.load Ul;obtain⟨f1,g1,o1,u1,f2,g2,o2,u2,rfl,VT⟩:=VT;refine⟨ad,PU,be,rC f1 g1 o1 u1 f2 g2 o2 u2,rfl,fun O J r j x U=>?_,?_⟩
  .have Qy:=hs.rel r hC F;obtain⟨k2',k3⟩:=PM j x U;have:=rls r hC k2';rw[aF,cV (w:=w1) (Y:=J) (by rw[dO,dO];exact this)];exact k3
  refine cQ (cU (J9:=fun _ _ v _=>∃d,v= .bool d/\(d=true↔f=0)) (fun O J r=>oM (rlo r F) ((VT.rel r F).l be)) ?_);rintro O wa v1 wb r L Q3 ⟨dz,rfl,hz⟩;replace PZ:=PZ.cS (N:=(wa.heap.size,wb.heap.size)::iv) r F L fun x U=>aB _ U;replace Q1:=Q1.cS (N:=(wa.heap.size,wb.heap.size)::iv) r F L fun x U=>aB _ U;replace hs:=hs.cS (N:=(wa.heap.size,wb.heap.size)::iv) r hC F L fun x U=>aB _ U;replace VT:=VT.cS (N:=(wa.heap.size,wb.heap.size)::iv) r F L fun x U=>aB _ U;replace hF:=hF.cS (N:=(wa.heap.size,wb.heap.size)::iv) r F L fun x U=>aB _ U;replace Ov:wb.ownsRow 0 T.Rat 4 (.slice a n c) n A.flatten:=ownsRow.cR (ij Ov (QH iv) r) fun b hb=>L.block b (by have:=PI b hb;have:=r.dA;omega);replace X:w.grownBy wb _:=eY X Q3;generalize (wa.heap.size,wb.heap.size)::iv=Oy at*
  cases dz
  .refine dP (idO 12) ?_;obtain⟨g,rfl,Pg⟩:=Ig Ov Q1 PT;refine⟨⟨g,0,none⟩,rfl,be,rC d1 e1 m1 k1 d2 e2 m2 k2,rfl,fun O J r j x U=>?_,?_⟩
   .have:=Ig (ij Ov (QH Oy) r) (Q1.rel r F) PT;obtain⟨g',I,G⟩:=this;injection I with I;rw[<-I]at G;exact G j x U
   have Qe:=fh p f;refine cU (J9:=fun _ J v Y=>cY Y (Nf J Y) v (p*f)) (fun O J r=>DP (rlo r F) (PZ.rel r F).v ((VT.rel r F).v be)) ?_;rintro O wa v1 wb r L Q3 hP;have hPN:=hP.iR (S:=S) r.dA (iv:=(wa.heap.size,wb.heap.size)::Oy) aH;replace PZ:=PZ.cS (N:=(wa.heap.size,wb.heap.size)::Oy) r F L fun x U=>aB _ U;replace Q1:=Q1.cS (N:=(wa.heap.size,wb.heap.size)::Oy) r F L fun x U=>aB _ U;replace hs:=hs.cS (N:=(wa.heap.size,wb.heap.size)::Oy) r hC F L fun x U=>aB _ U;replace hF:=hF.cS (N:=(wa.heap.size,wb.heap.size)::Oy) r F L fun x U=>aB _ U;replace Ov:wb.ownsRow 0 T.Rat 4 (.slice (some ⟨g,0,none⟩) n c) n A.flatten:=ownsRow.cR (ij Ov (QH Oy) r) fun b hb=>L.block b (by have:=PI b hb;have:=r.dA;omega);replace X:w.grownBy wb _:=eY X Q3;generalize (wa.heap.size,wb.heap.size)::Oy=PH at*
   obtain⟨b5,a5,n5,c5,b6,a6,n6,c6,rfl⟩:=hPN.shape;refine cU (J9:=fun _ J v Y=>cY Y (Nf J Y) v (q-p*f)) (fun O J r=>aA8 (rlo r F) ((hF.rel r F).v be) ((hPN.rel r F).v be)) ?_;rintro O wc v2 wd r L Q3 hQ;have Yb:=hQ.iR (S:=S) r.dA (iv:=(wc.heap.size,wd.heap.size)::PH) aH;replace PZ:=PZ.cS (N:=(wc.heap.size,wd.heap.size)::PH) r F L fun x U=>aB _ U;replace Q1:=Q1.cS (N:=(wc.heap.size,wd.heap.size)::PH) r F L fun x U=>aB _ U;replace hs:=hs.cS (N:=(wc.heap.size,wd.heap.size)::PH) r hC F L fun x U=>aB _ U;replace Ov:wd.ownsRow 0 T.Rat 4 (.slice (some ⟨g,0,none⟩) n c) n A.flatten:=ownsRow.cR (ij Ov (QH PH) r) fun b hb=>L.block b (by have:=PI b hb;have:=r.dA;omega);replace X:w.grownBy wd _:=eY X Q3;generalize (wc.heap.size,wd.heap.size)::PH=PV at*
   obtain⟨b7,a7,n7,c7,b8,a8,n8,c8,rfl⟩:=Yb.shape;rw[<-Uv]at Yb;refine⟨⟨g,0,none⟩,rfl,be,?_⟩;intro O J r;have TL:=ij Ov (QH PV) r;have hF5:=(Yb.rel r F).sd;obtain⟨g',Sg,Oz,Qm,PF,PR⟩:=lZ (nv:=rC b7 a7 n7 c7 b8 a8 n8 c8) TL rfl h rfl bi;injection Sg with Sg;injection Sg with Sg;subst Sg;have UL:=jy (Z:=rC b7 a7 n7 c7 b8 a8 n8 c8) Q1.ma (show i<A.length by omega);rw[UL]at Qm;have Pz:∀x,Cv S w.heap.size PV x->(setCells J ⟨g,i*4,none⟩ (rC b7 a7 n7 c7 b8 a8 n8 c8)).heap[x]? =J.heap[x]? :=fun x U=>
    PF.block x (rlo r F x U) fun e=>Wg PV g rfl (by injection e with e;rw[<-e];exact U)
   have QR:(⟨g,0,none⟩:Addr).add ((i:Int).toNat*4)=⟨g,i*4,none⟩:=by rw[aF,dX,aW]
   have Wi:=((Q1.rel r F).cR Pz).set (j:=i) (hF5.cR Pz);rw[nJ (f:=ou (-p) ps) Xm]at Wi;have Wj:=(PZ.rel r F).cR Pz;have TX:∀x,Cv C w.heap.size PV x->(setCells J ⟨g,i*4,none⟩ (rC b7 a7 n7 c7 b8 a8 n8 c8)).heap[x]? =J.heap[x]? :=fun x U=>
    PF.block x (rlo r hC x U) fun e=>Wh PV g rfl (by injection e with e;rw[<-e];exact U)
   have hs6:=(hs.rel r hC F).cR fun x U=>U.elim (TX x) (Pz x);replace X:w.grownBy (setCells J ⟨g,i*4,none⟩ (rC b7 a7 n7 c7 b8 a8 n8 c8)) (some g):=gY (eY X r.cZ) PF;have Qg:=fun id b hb W=>Rel.not r (fun _ h=>h) (QH PV g rfl) id b hb W;refine⟨by rw[QR],fun k K=>by rw[QR];exact Oz k K,fun id b hb W=>by rw[QR];exact Qg id b hb W,fun Y Pf=>?_⟩;have Pf:Y=setCells J ⟨g,i*4,none⟩ (rC b7 a7 n7 c7 b8 a8 n8 c8):=by rw[Pf];exact congrArg (fun x=>setCells J x _) QR
   rw[<-Pf]at Wi Wj Qm X PR hs6;refine inc i ?_;intro I' w3 R
   exact⟨(i+1,A.set i (rC b7 a7 n7 c7 b8 a8 n8 c8),PV,w3),⟨h,eY X R.cZ,ij Qm (QH PV) R,by simpa using QW,Wi.rel R F,Wj.rel R F,hs6.rel R hC F⟩,
    sbgn [] R,by dsimp only;omega⟩
  .have Xn:f=0:=hz.1 rfl;have Sa:ou (-p) ps i q=q:=by rw[Uv,Xn];grind
   refine inc i ?_;intro I' w3 R
   exact⟨(i+1,A,Oy,w3),⟨h,eY X R.cZ,ij Ov (QH Oy) R,QW,by rw[<-DR Xm Sa];exact Q1.rel R F,PZ.rel R F,hs.rel R hC F⟩,
    sbgn [] R,by dsimp only;omega⟩
 .have h:i=n:=by
   have:¬i<n:=by simpa using h
   omega
  subst h;intro J' w5 r5;refine⟨rfl,eY X r5.cZ,A,ij Ov (QH iv) r5,QW,?_⟩;have:=(Q1.rel r5 F).cP (S':=Nw S w w5) fun g X=>Cv.nw X r5
  rwa [<-Ss,tZ]at this
section
variable{S:Nat->Prop}{w:World}{v u vx vk vp:Value}{z:Int}{M GE:List (List (Int×Int))}{b C8 P:List (Int×Int)}
end
end Go.Ex
namespace Go.Sx
open Go Go.Ex Go.Proofs
variable{Z:List Value}{O:Nat->Sx.eG}
theorem Sub.aDb{B:Nat}{l tl:Env}{nx:Nat}{H tH:Hp}{iv:Iv}{w J:World}{id t n sz:Nat}{e:TypeId}(r:Rel H nx iv B w O J)(QF:dU H id=some (.vec e sz Z))(W:(O id).nil=false)(ht:gK l t=some (.o (.w id n)))
  (hs:AM H tH) (ho:H8 id tH=true) (I:H5 l tl) (G:kK nx tl):
  Sub B l nx O J ⟨(t,.o (.v (.slice (some ⟨(O id).g,0,none⟩) n (O id).cap)))::tl,tH,nx,((O id).g,(O id).g+1)::iv,J⟩:=
 ⟨O,r.free QF bv W hs ho,fun u v hv=>xn W ht I G u v hv⟩
end Go.Sx
namespace Go.Ex
open Go Go.Sx Go.Proofs
variable{A:List (List Value)}{qs ri:List Rat}{rv:List Value}{i:Nat}{a:Option Addr}{row:Option Nat}{q:Rat}{v:Value}
def Ob(rv:List Value)(g:Nat):Prop:=∃v∈rv,v.ownBlock=some g
def Lr(S:Nat->Prop)(B:Nat)(iv:Iv)(rv:List Value)(g:Nat):Prop:=Cv S B iv g/\¬Ob rv g
structure nK(w:World)(S:Nat->Prop)(B:Nat)(iv:Iv)(rv:List Value)(n:Nat)(M:List (List Rat)):Prop where
 len:rv.length=M.length
 row:∀(i:Nat) v qs,rv[i]? =some v->M[i]? =some qs->iJ w (Lr S B iv rv) v n qs
 uR:∀(i j:Nat) a b g,rv[i]? =some a->rv[j]? =some b->a.ownBlock=some g->b.ownBlock=some g->i=j
 new:∀g,Ob rv g->Cv FF B iv g
theorem Ob.append{g:Nat}:Ob (rv++[v]) g↔Ob rv g\/v.ownBlock=some g:=by
 unfold Ob;simp[or_and_right,exists_or]
section
variable{S S':Nat->Prop}{H:Hp}{nx n:Nat}{iv N:Iv}{B:Nat}{w J Y:World}{O:Nat->Sx.eG}{rv:List Value}{M:List (List Rat)}
theorem nK.nil:nK w S B iv [] n []:=⟨rfl,fun i v qs h=>(by cases h),fun i j a b g h=>(by cases h),fun g ⟨v,hv,_⟩=>by cases hv⟩
theorem nK.cR(h:nK w S B iv rv n M)(K:∀g,Cv S B iv g->Y.heap[g]? =w.heap[g]?):nK Y S B iv rv n M:=
 ⟨h.len,fun i v qs I G=>(h.row i v qs I G).cR fun g X=>X.elim (fun X=>K g X.1) fun X=>K g (Dh (h.new g ⟨v,aC I,X⟩)),h.uR,h.new⟩
theorem nK.rel(h:nK w S B iv rv n M)(r:Rel H nx iv B w O J)(F:∀g,S g->g<B):nK J S B iv rv n M:=h.cR fun _ X=>rls r F X
theorem nK.mono(h:nK w S B iv rv n M)(hm:∀p,p∈iv->p∈N):nK w S B N rv n M:=
 ⟨h.len,fun i v qs I G=>(h.row i v qs I G).cP fun _ X=>⟨X.1.mono hm,X.2⟩,h.uR,fun g X=>(h.new g X).mono hm⟩
theorem nK.cS(h:nK w S B iv rv n M)(r:Rel H nx iv B w O J)(F:∀g,S g->g<B)(L:Ext J Y)(hm:∀p,p∈iv->p∈N):nK Y S B N rv n M:=
 ((h.rel r F).cR fun g X=>L.block g (rlo r F g X)).mono hm
theorem nK.low(h:nK w S B iv rv n M){g:Nat}(X:Ob rv g):B<=g:=(h.new g X).elim (fun h=>h.elim) fun h=>h.1
theorem nK.lt(h:nK w S B iv rv n M)(r:Rel H nx iv B w O J){g:Nat}(X:Ob rv g):g<J.heap.size:=rlo r (dV B) g (h.new g X)
theorem Lr.grown(r:Rel H nx iv B w O J)(F:∀g,S g->g<B)(X:J.grownBy Y row)(Ov:∀g,row=some g->Ob rv g):∀g,Lr S B iv rv g->Y.heap[g]? =w.heap[g]? :=fun g h=>by
 rw[X.block g (rlo r F g h.1) fun e=>h.2 (Ov g e.symm),rls r F h.1]
theorem nK.cZ(h:nK w S B iv rv n M)(r:Rel H nx iv B w O J)(X:J.grownBy Y row)(Ov:∀g,row=some g->Ob rv g):ju B J Y:=
 ju.grown X (fun g e=>h.low (Ov g e)) r.dA
theorem nK.setRow(h:nK J S B iv rv n M)(PY:∀g,Cv S B iv g->g<J.heap.size){vi:Value}(Tj:rv[i]? =some vi)(PF:J.grownBy Y vi.ownBlock)(hB:B<=J.heap.size)
  (hq:iJ Y (Nw (Lr S B iv rv) J Y) vi n qs):nK Y S B ((J.heap.size,Y.heap.size)::iv) rv n (M.set i qs):=by
 have hnw:∀g,Nw (Lr S B iv rv) J Y g->Lr S B ((J.heap.size,Y.heap.size)::iv) rv g:=fun g X=>by
  rcases X with X|X
  .exact⟨X.1.mono fun p hp=>aB _ hp,X.2⟩
  .exact⟨.inr ⟨be,_,_,aH,X.1,X.2⟩,fun hm=>by have:=PY g (Dh (h.new g hm));omega⟩
 refine⟨by rw[bj];exact h.len,fun k v ps I G=>?_,h.uR,fun g X=>(h.new g X).mono fun p hp=>aB _ hp⟩;by_cases K:i=k
 .subst K;rw[Tj]at I;injection I with I;subst I;rw[aT (by rw[<-h.len];exact(aE.1 Tj).1)]at G;injection G with G;subst G;exact hq.cP hnw
 .rw[aY K]at G;refine((h.row k v ps I G).cR fun g X=>?_).cP fun g X=>⟨X.1.mono fun p hp=>aB _ hp,X.2⟩
  rcases X with X|X
  .exact PF.block g (PY g X.1) fun e=>X.2 ⟨vi,aC Tj,e.symm⟩
  .exact PF.block g (PY g (Dh (h.new g ⟨v,aC I,X⟩))) fun e=>K (h.uR i k vi v g Tj I e.symm X)
theorem nK.Gi(hM:nK w S B iv rv n M)(r:Rel H nx iv B w O J)(F:∀g,S g->g<B){i j h:Nat}{vi vj vby:Value}{ri rj:List Rat}{p:Rat}(Py:i≠j)(Tj:rv[i]? =some vi)(UM:rv[j]? =some vj)(Tz:M[i]? =some ri)(hrj:M[j]? =some rj)
  (PZ:e9 w (Lr S B iv rv) vby p) (hq:∀q∈ri,rl q+1<=h) (hqj:∀q∈rj,rl q+1<=h) (hb:rl p+1<=h) (hh:3*h<=90000):
  eH PG GT.qL #[vi,vj,vby] J (fun e Y=>e= .returned (.tuple #[])/\J.grownBy Y vi.ownBlock/\(∀g,vi.ownBlock=some g->Ob rv g)/\nK Y S B ((J.heap.size,Y.heap.size)::iv) rv n (M.set i (nh ri rj p))):=by
 have TS:=hM.rel r F;have I:=TS.row i vi ri Tj Tz;have G:=TS.row j vj rj UM hrj;have RP:∀g,vi.ownBlock=some g->Ob rv g:=fun g X=>⟨_,aC Tj,X⟩
 have hmj:∀g,vj.ownBlock=some g->Ob rv g:=fun g X=>⟨_,aC UM,X⟩
 refine(aBw (C:=fun g=>vj.ownBlock=some g) (S:=Lr S B iv rv) (fun x U=>hM.lt r (hmj x U)) (fun g X=>rlo r F g X.1) I (e9.cR PZ fun g X=>rls r F X.1) G.read G.len (fun g X U=>U.2 (RP g X)) (fun g X U=>Py (hM.uR i j _ _ g Tj UM X U)) hq hqj hb hh).mono fun e w8 L=>?_;obtain⟨rfl,PF,Ov⟩:=L;exact⟨rfl,PF,RP,TS.setRow (fun g X=>rlo r F g X) Tj PF r.dA Ov⟩
theorem nK.form(hM:nK w S B iv rv n M)(hv:rv[i]? =some v):∃a c,v= .slice a n c:=by
 obtain⟨qs,hq⟩:∃qs,M[i]? =some qs:=⟨_,aD (by rw[<-hM.len];exact(aE.1 hv).1)⟩
 obtain⟨a,c,h,_⟩:=(hM.row i v qs hv hq).form;exact⟨a,c,h⟩
theorem nK.load(hM:nK w S B iv rv n M){k:Nat}{c:Nat}(hv:rv[i]? =some (.slice a n c))(hq:M[i]? =some qs)(K:qs[k]? =some q):
  ∃ad Z,a=some ad/\js w (Lr S B iv rv) Z q/\∀j u,Z[j]? =some u->Cv FF B iv ad.block/\w.cell? ((ad.add (k*4)).add j)=some u:=by
 obtain⟨ad,Z,I,G,h3⟩:=gz.load (hM.row i _ qs hv hq).read K;refine⟨ad,Z,I,G,fun j u hu=>⟨?_,(h3 j u hu).2⟩⟩;have:=(h3 j u hu).1;exact hM.new _ ⟨_,aC hv,this⟩
theorem nK.store(hM:nK w S B iv rv n M)(r:Rel H nx iv B w O J)(F:∀g,S g->g<B){k:Nat}{a1 a2:Option Addr}{c n1 c1 n2 c2:Nat}{b b2:Bool}(Tj:rv[i]? =some (.slice a n c))(Tz:M[i]? =some ri)(K:k<n)
  (hf:cY w (Lr S B iv rv) (.agg #[.bool b,.slice a1 n1 c1,.bool b2,.slice a2 n2 c2]) q):
  ∃g,a=some ⟨g,0,none⟩/\((⟨g,0,none⟩:Addr).add ((k:Int).toNat*4)).spot=none/\
   (∀j,j<4->(J.cell? (((⟨g,0,none⟩:Addr).add ((k:Int).toNat*4)).add j)).isSome=true/\J.frozen? (((⟨g,0,none⟩:Addr).add ((k:Int).toNat*4)).add j)=false)/\
   (∀id b,dU H id=some b->(O id).nil=false->(O id).g≠((⟨g,0,none⟩:Addr).add ((k:Int).toNat*4)).block)/\
   ∀Y,Y=setCells J ((⟨g,0,none⟩:Addr).add ((k:Int).toNat*4)) (rC b a1 n1 c1 b2 a2 n2 c2)->nK Y S B iv rv n (M.set i (ri.set k q))/\ju B J Y/\Rel H nx iv B Y O Y/\∀g,Lr S B iv rv g->Y.heap[g]? =w.heap[g]? :=by
 have TS:=hM.rel r F;have RP:∀g,(Value.slice a n c).ownBlock=some g->Ob rv g:=fun g X=>⟨_,aC Tj,X⟩
 obtain⟨g,rfl,I,G,h3,h4⟩:=(TS.row i _ ri Tj Tz).store K (hf.cR fun g X=>rls r F X.1) (fun g X U=>U.2 (RP g X)) (fun x U=>rlo r F x U.1);refine⟨g,rfl,I,h3,fun id b hb W=>by rw[G];exact Rel.not r (dV B) (hM.new g (RP g rfl)) id b hb W,fun Y Pf=>?_⟩;obtain⟨k1,k2,k3⟩:=h4 Y Pf;have hs:=TS.setRow (fun g X=>rlo r F g X) Tj k2 r.dA (k1.cP fun g X=>.inl X);refine⟨?_,hM.cZ r k2 RP,r.B3 (fun id b hb W=>Rel.not r (dV B) (hM.new g (RP g rfl)) id b hb W) k2,Lr.grown r F k2 RP⟩;refine⟨hs.len,fun j v qs h5 h6=>(hs.row j v qs h5 h6).cP fun x U=>⟨?_,U.2⟩,hs.uR,fun x U=>hM.new x U⟩;rcases U.1 with U|⟨m1,lo,D,m2,m3,m4⟩
 .exact .inl U
 .rcases List.mem_cons.1 m2 with e|m2
  .injection e with e1 e2;subst e1 e2;omega
  .exact .inr ⟨m1,lo,D,m2,m3,m4⟩
theorem nK.push(hM:nK w S B iv rv n M){gx c:Nat}(Yc:∀g,Cv S B iv g->g≠gx)(hBx:B<=gx)(Ov:iJ w S (.slice (some ⟨gx,0,none⟩) n c) n qs)(F:∀g,S g->g<B):
  nK w S B ((gx,gx+1)::iv) (rv++[.slice (some ⟨gx,0,none⟩) n c]) n (M++[qs]):=by
 have Rg:∀g,Ob rv g->g≠gx:=fun g X=>Yc g (Dh (hM.new g X))
 have XJ:∀g,Lr S B iv rv g->Lr S B ((gx,gx+1)::iv) (rv++[.slice (some ⟨gx,0,none⟩) n c]) g:=fun g X=>⟨X.1.mono fun p hp=>aB _ hp,fun h=>by
  rcases Ob.append.1 h with h|h
  .exact X.2 h
  .injection h with h;exact Yc g X.1 h.symm⟩
 refine⟨by simp[hM.len],fun i v ps I G=>?_,fun i j a b g I G h3 h4=>?_,fun g X=>?_⟩
 .rcases aS i rv.length with D|D
  .rw[aI D]at I;rw[aI (by rw[<-hM.len];exact D)]at G;exact(hM.row i v ps I G).cP XJ
  .have Rr:i=rv.length:=by have:=(aE.1 I).1;simp at this;omega
   rw[Rr,aN lr,bO]at I;rw[Rr,hM.len,aN lr,bO]at G;simp at I G;subst I G;refine Ov.cP fun g X=>⟨.inl X,fun h=>?_⟩
   have:=F g X;rcases Ob.append.1 h with h|h
   .have:=hM.low h;omega
   .injection h with h;have h:gx=g:=h;omega
 .have key:∀(k:Nat) v,(rv++[Value.slice (some ⟨gx,0,none⟩) n c])[k]? =some v->(k<rv.length/\rv[k]? =some v)\/(k=rv.length/\v= .slice (some ⟨gx,0,none⟩) n c):=fun k v K=>by
   rcases aS k rv.length with D|D
   .rw[aI D]at K;exact .inl ⟨D,K⟩
   .have Rr:k=rv.length:=by have:=(aE.1 K).1;simp at this;omega
    rw[Rr,aN lr,bO]at K;simp at K;exact .inr ⟨Rr,K.symm⟩
  rcases key i a I with⟨_,k1⟩|⟨e1,rfl⟩<;>rcases key j b G with⟨_,k2⟩|⟨e2,rfl⟩
  .exact hM.uR i j a b g k1 k2 h3 h4
  .injection h4 with h4;exact absurd h4.symm (Rg g ⟨a,aC k1,h3⟩)
  .injection h3 with h3;exact absurd h3.symm (Rg g ⟨b,aC k2,h4⟩)
  .rw[e1,e2]
 .rcases Ob.append.1 X with h|h
  .exact(hM.new g h).mono fun p hp=>aB _ hp
  .injection h with h;have h:gx=g:=h;subst h;exact .inr ⟨hBx,_,_,aH,lr,bc _⟩
theorem nK.drop(hM:nK w S B iv (rv++[v]) n (M++[qs])):nK w S B iv rv n M:=by
 have hl:rv.length=M.length:=by have:=hM.len;simpa using this
 have Rg:∀g,Ob rv g->Ob (rv++[v]) g:=fun g X=>Ob.append.2 (.inl X);refine⟨hl,fun i u ps I G=>?_,fun i j a b g I G=>hM.uR i j a b g ?_ ?_,fun g X=>hM.new g (Rg g X)⟩
 .have D:=(aE.1 I).1;exact(hM.row i u ps (by rw[aI D];exact I) (by rw[aI (by rw[<-hl];exact D)];exact G)).cP fun g X=>⟨X.1,fun h=>X.2 (Rg g h)⟩
 .rw[aI (aE.1 I).1];exact I
 .rw[aI (aE.1 G).1];exact G
theorem aBx{id m:Nat}(r:Rel H nx iv B w O J)(h:dU H id=some (.vec T.Rat 4 A.flatten))(hl:A.length=m)(h0:0<m)(hm:m<=maxLen)(hF:Fc J S A qs):
  (O id).nil=false/\B<=(O id).g/\(∀g,Out B iv g->g≠(O id).g)/\iJ J S (.slice (some ⟨(O id).g,0,none⟩) m (O id).cap) m qs:=by
 have PM:=eP hF.ma;rcases r.vec id _ _ _ h with⟨_,G⟩|⟨I,spare,G,h3,h4⟩
 .rw[G]at PM;rw[hl]at PM;simp at PM;omega
 .refine⟨I,(r.low id _ h I).1,fun g X e=>?_,A,⟨by rw[PM,hl],.inr ⟨(O id).g,(O id).cap,_,rfl,aR _,G,?_,h4,by simpa using h3,by rw[show m*4=A.flatten.length by rw[PM,hl]];simp⟩⟩,hl,hF⟩
  .exact Rel.not r (fun _ h=>h) X id _ h I e.symm
  .rw[aQ,PM,hl]at h3;omega
end
end Go.Ex
namespace Go.Sx
open Go Go.Ex Go.Proofs
variable{O:Nat->Sx.eG}
theorem Sub.EH{B nx:Nat}{l:Env}{H:Hp}{iv:Iv}{w J:World}{t:B4}(id p e sz:Nat){bt:Nat}{Z:List At}(QF:dU H id=some (.box bt Z))(hp:Z[p]? =some (.v nls))(TD:kK nx l)(r:Rel H nx iv B w O J)
  (h:∀In,Rel ((id,.box bt (Z.set p (.w nx 0)))::(nx,.vec e sz [])::H) (nx+1) iv B w In J->Sx.Sub B l (nx+1) In J t):Sx.Sub B l nx O J t:=by
 have r1:=r.push (.vec e sz []) ⟨0,0,true⟩ (Y:=J) rfl rfl rfl lr (fun _ _=>rfl) (fun h=>by cases h) (.inl ⟨rfl,rfl⟩) trivial;have Ox:id≠nx:=Nat.ne_of_lt (r.keys id _ QF);have Xo:dU ((nx,.vec e sz [])::H) id=some (.box bt Z):=by rw[da,aJ (fun h=>Ox h.symm)];exact QF
 have WW:=r1.nn id _ Xo (by intros;simp) bv;have Pt:=r1.box id bt Z Xo;have SI:(Z.set p (.w nx 0)).map (At.den (Sx.iL O nx ⟨0,0,true⟩))=Z.map (At.den (Sx.iL O nx ⟨0,0,true⟩)):=by
  refine bT fun j=>?_;rw[aO,aO];by_cases hj:p=j
  .subst hj;rw[aT (aE.1 hp).1,hp];simp[At.den,ff]
  .rw[aY hj]
 have r2:=r1.store (b':=.box bt (Z.set p (.w nx 0))) (H':=(id,.box bt (Z.set p (.w nx 0)))::(nx,.vec e sz [])::H) (Y:=J) Xo bv WW (fun j=>by
  rw[da];by_cases hj:id=j
  .subst hj;rw[aM rfl]
  .rw[aJ hj,aJ (fun h=>hj h.symm)]) rfl rfl rfl rfl (fun _ _=>rfl) ⟨WW,by rw[SI];exact Pt⟩ (fun x U=>by
   rcases bE U with U|rfl
   .exact r1.scH id bt Z Xo x U
   .exact bc nx)
 obtain⟨IR,I,G⟩:=h _ r2;refine⟨IR,I,fun x v hv=>?_⟩;obtain⟨h3,v0,h4,h5⟩:=G x v hv;refine⟨h3,v0,h4,?_⟩;rw[<-h5];exact SV.ky (fun id QF=>iT id QF) (TD.get _ _ h4)
end Go.Sx
namespace Go.Ex
open Go Go.Sx Go.Proofs
variable{a:Act}{GE:Act->World->Prop}{la lx:Array Bool}{A':Array Bool->World->Prop}{Q:Exit->Act->World->Prop}{b i:Nat}{oi:Oper}{C8:Sem Next}{v:Value}{w:World}{AC:World->Prop}
inductive Tq where
 |nil
 |x (i:Nat) (t:Tq)
 |two (i:Nat) (t:Tq) (j:Nat) (u:Tq)
 |three (i:Nat) (t:Tq) (j:Nat) (u:Tq) (k:Nat) (v:Tq)
section
variable{P:Program}{τ:og}{ops:Array Oper}{B n nx:Nat}{l:Env}{H:Hp}{iv:Iv}{w J:World}{O:Nat->Sx.eG}{a:Act}
end
section
variable{P:Program}{ops:Array Oper}{Q:Exit->Act->World->Prop}{md:Region.Mode}
theorem Nu{j:Nat}{oj:Oper}(hj:ops[j]? =some oj)(Rn:oi.apart ops oj=true)
  (hsi:∀Z b,oi.op≠ .select Z b) (hsj:∀Z b,oj.op≠ .select Z b)
  (hQ:∀c a w,Q (.panic c) (a.put oi.dst v) w->Q (.panic c) a w)
  (hy:Region.wanted oi (yielded ops a.tmps)=true/\execOp a.eval oi=C8) (h:wpOp P ops Q j GE (a.put oi.dst v) w):
  wpOp P ops Q j (fun a' J=>(Region.wanted oi (yielded ops a'.tmps)=true/\execOp a'.eval oi=C8)/\GE (a'.put oi.dst v) J) a w:=by
 obtain⟨I,G,h3⟩:=Oper.apart_spec Rn;have cR:∀(a:Act),(Region.wanted oi (yielded ops a.tmps)=true/\execOp a.eval oi=C8)->∀u,(Region.wanted oi (yielded ops (a.put oj.dst u).tmps)=true/\execOp (a.put oj.dst u).eval oi=C8):=fun a hy u=>
  ⟨(wanted_put oi a oj.dst u h3).trans hy.1,(execOp_put oi hsi a oj.dst u h3).trans hy.2⟩
 have keepD:∀d:Deferred,(Region.wanted oi (yielded ops ({a with defers:=d::a.defers}:Act).tmps)=true/\execOp ({a with defers:=d::a.defers}:Act).eval oi=C8):=fun d=>hy;unfold wpOp at*
 simp only[hj]at*
 rw[wanted_put oj a oi.dst v I]at h;split
 .rename_i V;simp only[V,if_true]at h;rcases h with h|⟨Tx,WS⟩
  case inr=>exact .inr ⟨by unfold Oper.asks at *;rw[execOp_put oj hsj a oi.dst v I]at Tx;exact Tx,WS⟩
  refine .inl ?_;unfold Oper.wp at*
  rw[execOp_put oj hsj a oi.dst v I]at h;generalize (execOp a.eval oj).run P w=r at*
  cases r with
  |ok n J=>
   cases n<;>simp only[Oper.upon]at h ⊢
   case value u=>exact⟨cR a hy u,by rw[<-Act.put_comm a v u G];exact h⟩
   case skip=>exact⟨cR a hy _,by rw[<-Act.put_comm a v undef G];exact h⟩
   case defer d=>
    refine⟨cR ({a with defers:=d::a.defers}:Act) (keepD d) undef,?_⟩;rw[<-Act.put_comm _ v undef G,<-Act.put_defers];exact h
   case enter f args=>
    refine Calls.mono h fun e w'' L=>?_
    cases e with
    |returned u=>exact⟨cR a hy u,by rw[<-Act.put_comm a v u G];exact L⟩
    |panicked c=>exact hQ _ _ _ L
    |outgrown=>exact L
   case row row args=>exact Rows.mono h fun u w'' L=>⟨cR a hy u,by rw[<-Act.put_comm a v u G];exact L⟩
  |halt x J=>
   cases x<;>simp only[Oper.upon]at h ⊢
   case panic u=>exact hQ _ _ _ h
 .rename_i V;simp only[V]at h;exact⟨cR a hy _,by rw[<-Act.put_comm a v undef G];exact h⟩
def tE(P:Program)(md:Region.Mode)(ops:Array Oper)(Q:Exit->Act->World->Prop)(A':Array Bool->World->Prop):Nat->Array Bool->Act->World->Prop
 |0,lx,a,w=>A' lx w/\Region.ready md ops lx=[]/\Q .normal a w
 |fuel+1,lx,a,w=>A' lx w/\(Region.ready md ops lx=[]->Q .normal a w)/\∀i∈Region.ready md ops lx,wpOp P ops Q i (fun a' J=>tE P md ops Q A' fuel (lx.setIfInBounds i true) a' J) a w
theorem De{A':Array Bool->World->Prop}:∀(fuel:Nat) (lx:Array Bool) (a:Act) (w:World),tE P md ops Q A' fuel lx a w->wpAny P md ops Q fuel lx a w
 |0,_,_,_,h=>h.2
 |fuel+1,_,_,_,h=>⟨h.2.1,fun i D=>wpOp_mono (fun _ _ h'=>De fuel _ _ _ h') (h.2.2 i D)⟩
theorem lz{A' A8:Array Bool->World->Prop}(hIJ:∀lx w,A' lx w->A8 lx w):∀(fuel:Nat) (lx:Array Bool) (a:Act) (w:World),tE P md ops Q A' fuel lx a w->tE P md ops Q A8 fuel lx a w
 |0,_,_,_,h=>⟨hIJ _ _ h.1,h.2⟩
 |fuel+1,_,_,_,h=>⟨hIJ _ _ h.1,h.2.1,fun i D=>wpOp_mono (fun _ _ h'=>lz hIJ fuel _ _ _ h') (h.2.2 i D)⟩
theorem JT(hI:A' lx w)(hr:Region.ready md ops lx=[])(h:Q .normal a w):∀fuel,tE P md ops Q A' fuel lx a w
 |0=>⟨hI,hr,h⟩
 |_+1=>⟨hI,fun _=>h,by rw[hr];simp⟩
def od(ops:Array Oper)(b:Nat)(lx:Array Bool):Prop:=∀(k:Nat) o,tb b k=true->ops[k]? =some o->yK o.op=false->lx.getD k false=false
theorem kI(D:ops[i]? =some oi)(hR:yK oi.op=true):od ops b (lx.setIfInBounds i true)↔od ops b lx:=by
 have key:∀(k:Nat) o,ops[k]? =some o->yK o.op=false->(lx.setIfInBounds i true).getD k false=lx.getD k false:=fun k o ho hr=>by
  have:i≠k:=fun e=>by subst e;rw[D]at ho;injection ho with ho;subst ho;rw[hR]at hr;cases hr
  exact getD_set_ne false this
 exact⟨fun h k o I G h3=>by rw[<-key k o G h3];exact h k o I G h3,fun h k o I G h3=>by rw[key k o G h3];exact h k o I G h3⟩
theorem yH(D:ops[i]? =some oi)(hR:yK oi.op=true)(Pr:∀(j:Nat) (o:Oper) Z b,ops[j]? =some o->o.op≠ .select Z b)
  (hQ:∀c a w,Q (.panic c) (a.put oi.dst v) w->Q (.panic c) a w) (Tv:∀j,tb b j=true->∃oj e,ops[j]? =some oj/\e∈oj.after/\Region.binds md e=true/\(e.on=i\/tb b e.on=true))
  (hY:∀w,AC w->C8.run P w= .ok (.value v) w) (hI:∀lx w,A' (lx.setIfInBounds i true) w->A' lx w):
  ∀(fuel:Nat) (lx:Array Bool) (a:Act) (w:World),(∀j,tb b j=true->lx.getD j false=false)->
   (∀j oj,ops[j]? =some oj->j≠i->lx.getD j true=false->tb b j=false->oi.apart ops oj=true)->
   i∈Region.ready md ops lx->(Region.wanted oi (yielded ops a.tmps)=true/\execOp a.eval oi=C8)->
   tE P md ops Q (fun lx w=>A' lx w/\(od ops b lx->AC w)) fuel (lx.setIfInBounds i true) (a.put oi.dst v) w->tE P md ops Q A' (fuel+1) lx a w:=by
 intro fuel;have run:∀(lx:Array Bool) (a:Act) (w:World),(∀j,tb b j=true->lx.getD j false=false)->(Region.wanted oi (yielded ops a.tmps)=true/\execOp a.eval oi=C8)->(A' (lx.setIfInBounds i true) w/\(od ops b (lx.setIfInBounds i true)->AC w))->
   ∀GE:Act->World->Prop,GE (a.put oi.dst v) w->wpOp P ops Q i GE a w:=fun lx a w Q3 hy hH GE hK=>by
  have hYw:=hH.2 ((kI D hR).2 fun k o I _ _=>Q3 k I);unfold wpOp;simp only[D,hy.1,if_true]
  refine .inl ?_;unfold Oper.wp;rw[hy.2,hY w hYw];exact hK
 induction fuel with
 |zero=>
  intro lx a w Q3 _ hr hy H;refine⟨hI _ _ H.1.1,fun h=>(by rw[h]at hr;cases hr),fun j hj=>?_⟩;by_cases QL:j=i
  .subst QL;exact run lx a w Q3 hy H.1 _ (lz (fun _ _ h=>h.1) 0 _ _ _ H)
  .have:=ready_mono hj QL;rw[H.2.1]at this
   cases this
 |succ fuel ih=>
  intro lx a w Q3 SM hr hy H;refine⟨hI _ _ H.1.1,fun h=>(by rw[h]at hr;cases hr),fun j hj=>?_⟩;by_cases QL:j=i
  .subst QL;exact run lx a w Q3 hy H.1 _ (lz (fun _ _ h=>h.1) (fuel+1) _ _ _ H)
  .have I:=H.2.2 j (ready_mono hj QL);obtain⟨WT,oj,Rw,RA⟩:=mem_ready.1 hj;have Qg:tb b j=false:=by
    cases hb:tb b j with
    |false=>rfl
    |true=>
     exfalso;obtain⟨oj',e,Sz,L,hbi,Vw⟩:=Tv j hb;rw[Rw]at Sz;injection Sz with Sz;subst Sz;have I:=RA e L hbi;rcases Vw with heq|RW
     .have h0:=(mem_ready.1 hr).1;rw[heq]at I;rcases aS i lx.size with h'|h'
      .simp[h']at h0 I;rw[h0]at I;cases I
      .simp[Array.getElem?_eq_none h']at I
     .rw[Q3 _ RW]at I;cases I
   have G:=Nu Rw (SM j oj Rw QL WT Qg) (fun Z b=>Pr i oi Z b D) (fun Z b=>Pr j oj Z b Rw) hQ hy I;have hbl':∀k,tb b k=true->(lx.setIfInBounds j true).getD k false=false:=fun k K=>by
    rw[getD_set_ne false (fun e=>(by subst e;rw[Qg]at K;cases K))];exact Q3 k K
   have Um:∀k ok,ops[k]? =some ok->k≠i->(lx.setIfInBounds j true).getD k true=false->tb b k=false->oi.apart ops ok=true:=fun k ok K XG WI S2=>by
    refine SM k ok K XG ?_ S2;by_cases TF:j=k
    .subst TF;exact WT
    .rw[getD_set_ne true TF]at WI;exact WI
   refine wpOp_mono (fun a' J h3=>?_) G;refine ih (lx.setIfInBounds j true) a' J hbl' Um (ready_mono hr (Ne.symm QL)) h3.1 ?_;rw[Array.setIfInBounds_comm _ _ QL];exact h3.2
end
structure Gh where
 u:Nat
 d:Nat
 T:Nat
 b:Nat
def HQ(τ:og)(B:Nat):List Gh->Env->Hp->Nat->Iv->World->Prop->Prop
 |[],_,_,_,_,_,GE=>GE
 |g::r,l,H,nx,iv,w,GE=>match gK l g.u with
  |some su=>E5 τ B g.T su H nx iv w (fun v=>gK l g.d=some v/\HQ τ B r l H nx iv w GE)
  |none=>False
inductive Tg where
 |nil
 |x (i:Nat) (t:Tg)
 |two (i:Nat) (t:Tg) (j:Nat) (u:Tg)
 |three (i:Nat) (t:Tg) (j:Nat) (u:Tg) (k:Nat) (v:Tg)
 |ld (i b:Nat) (t:Tg)
 |pK (id:Nat) (t:Tg)
def Fk(j:Nat):List Gh->List Gh
 |[]=>[]
 |g::r=>match tb g.b j with
  |true=>Fk j r
  |false=>g::Fk j r
def stepG(τ:og)(B:Nat)(rd:Bool)(C9:List Gh)(j:Nat)(l:Env)(H:Hp)(nx:Nat)(iv:Iv)(w:World)(GE:List Gh->Prop):Prop:=match rd with
 |true=>GE C9
 |false=>HQ τ B (Fk j C9) l H nx iv w (GE (Fk j C9))
def JU(ops:Array Oper)(m i:Nat)(oi:Oper)(b:Nat):List Oper->Nat->Bool
 |[],_=>true
 |oj::r,j=>(Nat.beq j i||tb m j||tb b j||oi.apart ops oj)&&JU ops m i oi b r (j+1)
def MK(m i u d:Nat):List Oper->Nat->Bool
 |[],_=>true
 |oj::r,j=>(tb m j||match oj.dst with
   |none=>true
   |some e=> !Nat.beq e u&&(Nat.beq j i|| !Nat.beq e d))&&MK m i u d r (j+1)
def aB3(o:Oper):Option (Nat×Nat×Nat):=match o with
 |⟨some d,.load T (.tmp u),_,_,_,none⟩=>some (d,T,u)
 |_=>none
def nT(ops:Array Oper):Tg->Array Bool->Bool
 | .nil,lx=>(Region.ready .any ops lx).isEmpty
 | .x i t,lx=>match ops[i]? with
  |none=>false
  |some o=>(Region.ready .any ops lx).contains i&&((Region.ready .any ops lx).all (fun j=>Nat.beq j i)||MN o.op&&o.guard.isNone&&JU ops (j2 lx.toList 0) i o (Di (j2 lx.toList 0) i ops.toList 0 0) ops.toList 0)&&nT ops t (lx.setIfInBounds i true)
 | .two i t j u,lx=>match Region.ready .any ops lx with
  |[a,b]=>Nat.beq a i&&(Nat.beq b j&&(nT ops t (lx.setIfInBounds i true)&&nT ops u (lx.setIfInBounds j true)))
  |_=>false
 | .three i t j u k v,lx=>match Region.ready .any ops lx with
  |[a,b,c]=>Nat.beq a i&&(Nat.beq b j&&(Nat.beq c k&&(nT ops t (lx.setIfInBounds i true)&&(nT ops u (lx.setIfInBounds j true)&&nT ops v (lx.setIfInBounds k true)))))
  |_=>false
 | .ld i b t,lx=>match ops[i]? with
  |none=>false
  |some o=>match aB3 o with
   |none=>false
   |some (d,_,u)=>(Region.ready .any ops lx).contains i&&Nat.beq b (Di (j2 lx.toList 0) i ops.toList 0 0)&&JU ops (j2 lx.toList 0) i o b ops.toList 0&&MK (j2 lx.toList 0) i u d ops.toList 0&&nT ops t (lx.setIfInBounds i true)
 | .pK _ t,lx=>nT ops t lx
def EV(P:Program)(τ:og)(B:Nat)(all:List Oper):Tg->List Gh->Env->Hp->Nat->Iv->World->KT->Prop
 | .nil,_,l,H,nx,iv,w,GE=>GE l H nx iv w
 | .x i t,C9,l,H,nx,iv,w,GE=>uW all i (fun o=>jA (!gb o) P τ B all o l H nx iv w (fun l' H' PC N J=>stepG τ B (yK o.op) C9 i l' H' PC N J (fun G'=>EV P τ B all t G' l' H' PC N J GE)))
 | .two i t j u,C9,l,H,nx,iv,w,GE=>uW all i (fun o=>jA (!gb o) P τ B all o l H nx iv w (fun l' H' PC N J=>stepG τ B (yK o.op) C9 i l' H' PC N J (fun G'=>EV P τ B all t G' l' H' PC N J GE)))/\
   uW all j (fun o=>jA (!gb o) P τ B all o l H nx iv w (fun l' H' PC N J=>stepG τ B (yK o.op) C9 j l' H' PC N J (fun G'=>EV P τ B all u G' l' H' PC N J GE)))
 | .three i t j u k v,C9,l,H,nx,iv,w,GE=>uW all i (fun o=>jA (!gb o) P τ B all o l H nx iv w (fun l' H' PC N J=>stepG τ B (yK o.op) C9 i l' H' PC N J (fun G'=>EV P τ B all t G' l' H' PC N J GE)))/\
   (uW all j (fun o=>jA (!gb o) P τ B all o l H nx iv w (fun l' H' PC N J=>stepG τ B (yK o.op) C9 j l' H' PC N J (fun G'=>EV P τ B all u G' l' H' PC N J GE)))/\
   uW all k (fun o=>jA (!gb o) P τ B all o l H nx iv w (fun l' H' PC N J=>stepG τ B (yK o.op) C9 k l' H' PC N J (fun G'=>EV P τ B all v G' l' H' PC N J GE))))
 | .ld i b t,C9,l,H,nx,iv,w,GE=>uW all i (fun o=>match aB3 o with
  |some (d,T,u)=>match gK l u with
   |some su=>E5 τ B T su H nx iv w (fun v=>EV P τ B all t (⟨u,d,T,b⟩::C9) ((d,v)::l) H nx iv w GE)
   |none=>False
  |none=>False)
 | .pK id t,C9,l,H,nx,iv,w,GE=>∃H' b,dU H id=some b/\b≠ .dead/\AM H H'/\H8 id H'=true/\∀O J,Rel H nx iv B w O J->(O id).nil=false/\∃l',(∀u v,gK l' u=some v->v.sc nx/\∃v',gK l u=some v'/\v'.den O=v.den O)/\EV P τ B all t C9 l' H' nx (((O id).g,(O id).g+1)::iv) J GE
section
variable{P:Program}{τ:og}{ops:Array Oper}{B n nx:Nat}{l:Env}{H:Hp}{iv:Iv}{w J:World}{O:Nat->Sx.eG}{a:Act}
theorem aDn(hτ:gM P τ){o:Oper}(ho:ops[i]? =some o)(hd:∀d,o.dst=some d->d<n){GE:KT}{next:Act->World->Prop}
  (I:jA (!gb o) P τ B ops.toList o l H nx iv w GE) (sat:Sat n l H nx iv B w O a J)
  (W:∀l' H' PC N Y IR x w3,GE l' H' PC N Y->Sat n l' H' PC N B Y IR (a.put o.dst x) w3->(yK o.op=true->w3=J)->next (a.put o.dst x) w3):
  wpOp P ops Q i next a J:=by
 unfold jA at I;refine rQ ho ?_;rcases mQ sat I with⟨V,l1,G,sat1⟩|⟨V,l1,G,sat1⟩
 .refine .inl ⟨V,?_⟩
  cases hR:yK o.op with
  |true=>
   obtain⟨v,hK,Rx,PD⟩:=(n9 hτ G sat1 hR).resolve_right (fun hh=>by have:=hh.1;rw[uZ hR]at this;cases this);obtain⟨l2,h3,sat2⟩:=jR sat1 hK hd Rx;exact oR (PD J (.inr sat1.rel)) (W _ _ _ _ _ _ _ _ h3 sat2 fun _=>rfl)
  |false=>
   have nr:∀w3:World,yK o.op=true->w3=J:=fun w3 h=>by rw[hR]at h;cases h
   cases hA:isA o.op with
   |true=>
    obtain⟨b,v,mk,obj,hK,Pm,hb,hv,XO,Qo,XP⟩:=pY hτ G sat1 hA;have QA:Rel ((nx,b)::H) (nx+1) iv B w (Sx.iL O nx ⟨J.heap.size,0,false⟩) (J.alloc obj):=
     sat1.rel.push b _ rfl rfl rfl bv (fun k K=>heap_alloc_old _ _ K) (fun _=>⟨lr,bv⟩) (Qo _ _ (heap_alloc_new _ _)) hb
    obtain⟨l2,h3,sat2⟩:=jR (sat1.next QA (Nat.le_succ _) (fun id QF=>iT id QF)) hK hd hv;rw[XO]at sat2;exact oR (v:=mk J.heap.size) (Y:=J.alloc obj) (XP J) (W _ _ _ _ _ _ _ _ h3 sat2 (by rw[hR];exact fun h=>by cases h))
   |false=>
    cases hH:th o with
    |false=>
     rw[tv hH]at G;refine BW G sat1 hR hA hH fun v Y hK L hs=>?_;obtain⟨l2,h3,sat2⟩:=jR (v:=.o (.v v)) hs hK hd trivial;exact W _ _ _ _ _ _ _ _ h3 sat2 (by rw[hR];exact fun h=>by cases h)
    |true=>
     refine pZ hτ G sat1 fun v H' PC N Y IR w3 hK sat2 hv=>?_;obtain⟨l2,h3,sat3⟩:=jR sat2 hK hd hv;exact W _ _ _ _ _ _ _ _ h3 sat3 (by rw[hR];exact fun h=>by cases h)
 .obtain⟨l2,h4,sat3⟩:=jR sat1 G hd trivial;exact .inr ⟨V,W _ _ _ _ _ _ _ _ h4 sat3 fun _=>rfl⟩
theorem AJ(hτ:gM P τ)(sat:Sat n l H nx iv B w O a J){GE:Prop}:∀(C9:List Gh),HQ τ B C9 l H nx iv w GE->
  GE/\∀g∈C9,∃su sv,gK l g.u=some su/\gK l g.d=some sv/\(Instr.loadAt g.T (su.den O)).run P J= .ok (sv.den O) J
 |[],h=>⟨h,fun g X=>by cases X⟩
 |g::r,h=>by
  unfold HQ at h;split at h
  .rename_i su hsu;obtain⟨v,⟨I,G⟩,hv,PD⟩:=pf hτ sat.rel (sat.sc _ _ hsu) h;obtain⟨h3,h4⟩:=AJ hτ sat r G;refine⟨h3,fun g' X=>?_⟩;rcases List.mem_cons.1 X with rfl|X
   .exact⟨su,v,hsu,I,PD J sat.rel⟩
   .exact h4 g' X
  .exact h.elim
theorem tf{j:Nat}{g:Gh}:∀{C9:List Gh},g∈C9->tb g.b j=false->g∈Fk j C9
 |g'::r,h,hb=>by
  unfold Fk;rcases List.mem_cons.1 h with rfl|h
  .rw[hb];exact aH
  .split
   .exact tf h hb
   .exact aB _ (tf h hb)
abbrev Zh:=Gh×Value×Value
def Yz(P:Program)(z:Zh)(w:World):Prop:=(Instr.loadAt z.1.T z.2.1).run P w= .ok z.2.2 w
structure GOk(ops:Array Oper)(la:Array Bool)(a:Act)(z:Zh):Prop where
 u:a.tmps[z.1.u]? =some z.2.1
 d:a.tmps[z.1.d]? =some z.2.2
 no:∀(j:Nat) oj,ops[j]? =some oj->la.getD j false=false->oj.dst≠some z.1.u/\oj.dst≠some z.1.d
theorem GOk.step{la:Array Bool}{z:Zh}{j:Nat}{oj:Oper}{x:Value}(h:GOk ops la a z)(hj:ops[j]? =some oj)(hl:la.getD j false=false):GOk ops (la.setIfInBounds j true) (a.put oj.dst x) z:=by
 obtain⟨I,G⟩:=h.no j oj hj hl;refine⟨tJ I h.u,tJ G h.d,fun k ok K hlk=>h.no k ok K ?_⟩;by_cases TF:j=k
 .subst TF;exact hl
 .rwa [getD_set_ne false TF]at hlk
def IZ(P:Program)(ops:Array Oper)(F9:List Zh)(lx:Array Bool)(w:World):Prop:=∀z∈F9,od ops z.1.b lx->Yz P z w
theorem yI(h:i∈Region.ready .any ops la):la.getD i false=false:=by
 have:=(fL.1 h).1;rw[bJ,this];rfl
theorem ql{o:Oper}(ho:ops[i]? =some o)(hl:la[i]? =some false)(h:od ops b (la.setIfInBounds i true)):od ops b la/\(yK o.op=false->tb b i=false):=by
 refine⟨fun k ok I G h3=>?_,fun hR=>?_⟩
 .by_cases hik:i=k
  .subst hik;rw[bJ,hl];rfl
  .rw[<-getD_set_ne false hik];exact h k ok I G h3
 .cases hb:tb b i with
  |false=>rfl
  |true=>
   have:=h i o hb ho hR;have D:=(bM.1 hl).1;rw[bJ,Array.getElem?_setIfInBounds_self_of_lt D]at this
   cases this
theorem Fl(hτ:gM P τ){o:Oper}{C9:List Gh}{F9:List Zh}(ho:ops[i]? =some o)(hd:∀d,o.dst=some d->d<n)(hr:i∈Region.ready .any ops la){next:Act->World->Prop}{GE:Env->Hp->Nat->Iv->World->List Gh->Prop}
  (I:jA (!gb o) P τ B ops.toList o l H nx iv w (fun l' H' PC N J=>stepG τ B (yK o.op) C9 i l' H' PC N J (GE l' H' PC N J))) (sat:Sat n l H nx iv B w O a J)
  (hG:∀z∈F9,od ops z.1.b la->z.1∈C9) (hZ:∀z∈F9,GOk ops la a z) (hI:IZ P ops F9 la J)
  (W:∀l' H' PC N Y IR x w3 G',GE l' H' PC N Y G'->Sat n l' H' PC N B Y IR (a.put o.dst x) w3->(∀z∈F9,od ops z.1.b (la.setIfInBounds i true)->z.1∈G')->(∀z∈F9,GOk ops (la.setIfInBounds i true) (a.put o.dst x) z)->IZ P ops F9 (la.setIfInBounds i true) w3->next (a.put o.dst x) w3):
  wpOp P ops Q i next a J:=by
 have hl:=(fL.1 hr).1;refine aDn hτ ho hd I sat fun l' H' PC N Y IR x w3 hK sat2 V=>?_;have hZ2:∀z∈F9,GOk ops (la.setIfInBounds i true) (a.put o.dst x) z:=fun z hz=>(hZ z hz).step ho (yI hr)
 cases hR:yK o.op with
 |true=>
  rw[hR]at hK;have V:=V hR;subst V;refine W _ _ _ _ _ _ _ _ C9 hK sat2 (fun z hz h=>hG z hz (ql ho hl h).1) hZ2 fun z hz h=>hI z hz (ql ho hl h).1
 |false=>
  rw[hR]at hK;obtain⟨G,h3⟩:=AJ hτ sat2 _ hK;refine W _ _ _ _ _ _ _ _ _ G sat2 (fun z hz h=>?_) hZ2 fun z hz h=>?_
  .obtain⟨k1,k2⟩:=ql ho hl h;exact tf (hG z hz k1) (k2 hR)
  .obtain⟨k1,k2⟩:=ql ho hl h;obtain⟨su,sv,e1,e2,e3⟩:=h3 z.1 (tf (hG z hz k1) (k2 hR));have h4:=sat2.env _ _ e1;have h5:=sat2.env _ _ e2;rw[(hZ2 z hz).u]at h4;rw[(hZ2 z hz).d]at h5;injection h4 with h4;injection h5 with h5;unfold Yz;rw[h4,h5];exact e3
end
section
variable{P:Program}{τ:og}{ops:Array Oper}{B n nx:Nat}{l:Env}{H:Hp}{iv:Iv}{w J:World}{O:Nat->Sx.eG}{a:Act}
theorem vz{m i b:Nat}{oi:Oper}:∀(l:List Oper) (k:Nat),JU ops m i oi b l k=true->∀(j:Nat) oj,l[j]? =some oj->k+j≠i->tb m (k+j)=false->tb b (k+j)=false->oi.apart ops oj=true
 |[],_,_,j,oj,h,_,_,_=>by cases h
 |o::r,k,h,j,oj,hj,I,G,h3=>by
  simp only[JU,bL,Bool.or_eq_true]at h
  cases j with
  |zero=>
   injection hj with hj;subst hj;rcases h.1 with((h4|h4)|h4)|h4
   .exact absurd (bm h4) I
   .rw[cI]at G;rw[G]at h4;cases h4
   .rw[cI]at h3;rw[h3]at h4;cases h4
   .exact h4
  |succ j=>
   have e:k+(j+1)=k+1+j:=by omega
   rw[e]at I G h3;exact vz r (k+1) h.2 j oj (by simpa using hj) I G h3
theorem Df{m i u d:Nat}:∀(l:List Oper) (k:Nat),MK m i u d l k=true->∀(j:Nat) oj,l[j]? =some oj->tb m (k+j)=false->oj.dst≠some u/\(k+j≠i->oj.dst≠some d)
 |[],_,_,j,oj,h,_=>by cases h
 |o::r,k,h,j,oj,hj,G=>by
  simp only[MK,bL,Bool.or_eq_true]at h
  cases j with
  |zero=>
   injection hj with hj;subst hj;rcases h.1 with h4|h4
   .rw[cI]at G;rw[G]at h4;cases h4
   .cases ho:o.dst with
    |none=>exact⟨bv,bv⟩
    |some e=>
     rw[ho]at h4;simp only[bL,Bool.not_eq_true',Bool.or_eq_true]at h4;refine⟨fun hh=>?_,fun Ox hh=>?_⟩
     .injection hh with hh;subst hh;have:=h4.1;simp at this
     .injection hh with hh;subst hh;rcases h4.2 with h5|h5
      .exact Ox (bm h5)
      .simp at h5
  |succ j=>
   have e:k+(j+1)=k+1+j:=by omega
   rw[e]at G ⊢;exact Df r (k+1) h.2 j oj (by simpa using hj) G
theorem Nv{o:Oper}{d T u:Nat}(h:aB3 o=some (d,T,u)):o.dst=some d/\o.op= .load T (.tmp u)/\o.guard=none:=by
 unfold aB3 at h;split at h
 .injection h with h;injection h with I G;injection G with G h3;subst I G h3;exact⟨rfl,rfl,rfl⟩
 .cases h
theorem jz(hτ:gM P τ)(Oz:∀(j:Nat) o,ops[j]? =some o->∀d,o.dst=some d->d<n)(Pr:∀(j:Nat) (o:Oper) Z b,ops[j]? =some o->o.op≠ .select Z b){GE:KT}{Q0:Act->World->Prop}
  (hQ:∀l' H' PC N Y IR a' w3,GE l' H' PC N Y->Sat n l' H' PC N B Y IR a' w3->Q0 a' w3):
  ∀(t:Tg) (fuel:Nat) (la:Array Bool) (l:Env) (H:Hp) (nx:Nat) (iv:Iv) (w:World) (O:Nat->Sx.eG) (a:Act) (J:World) (C9:List Gh) (F9:List Zh),unl la<=fuel->la.size=ops.size->nT ops t la=true->EV P τ B ops.toList t C9 l H nx iv w GE->Sat n l H nx iv B w O a J->
   (∀z∈F9,od ops z.1.b la->z.1∈C9)->(∀z∈F9,GOk ops la a z)->IZ P ops F9 la J->tE P .any ops (QN Q0) (IZ P ops F9) fuel la a J
 | .nil,fuel,la,l,H,nx,iv,w,O,a,J,C9,F9,_,_,hc,h,s,hG,hZ,hI=>by
  simp only[nT,List.isEmpty_iff]at hc;exact JT hI hc ⟨rfl,hQ _ _ _ _ _ _ _ _ h s⟩ fuel
 | .x i t,fuel,la,l,H,nx,iv,w,O,a,J,C9,F9,hf,hz,hc,h,s,hG,hZ,hI=>by
  unfold nT at hc;obtain⟨o,ho,I⟩:=iS h;rw[bQ]at ho;simp only[ho,bL,Bool.or_eq_true]at hc;obtain⟨⟨c1,c2⟩,c3⟩:=hc;have c1:i∈Region.ready .any ops la:=by simpa using c1
  obtain⟨Qs,-⟩:=fL.1 c1;have WI:=mP Qs;obtain⟨f,rfl⟩:∃f,fuel=f+1:=⟨fuel-1,be⟩
  have QY:(la.setIfInBounds i true).size=ops.size:=by rw[bu,hz]
  rcases c2 with c2|⟨⟨hP,Qh⟩,c4⟩
  .refine⟨hI,fun h0=>(by rw[h0]at c1;cases c1),fun j hj=>?_⟩;have QL:j=i:=fA (List.all_eq_true.1 c2 j hj);subst QL;exact Fl hτ ho (Oz j o ho) c1 I s hG hZ hI fun _ _ _ _ _ _ _ _ G' K hs XB XC XD=>jz hτ Oz Pr hQ t f _ _ _ _ _ _ _ _ _ G' F9 be QY c3 K hs XB XC XD
  .have hR:yK o.op=true:=by
    unfold MN at hP;split at hP
    .cases hP
    .exact hP
   have hm:=Ar la;have hb:=oo (ops:=ops) (m:=j2 la.toList 0) (i:=i) ops.toList 0 0 (fun n o W=>by rw[aW];rwa [bQ]at W) (fun j hj=>by rw[wD]at hj;cases hj);generalize Di (j2 la.toList 0) i ops.toList 0 0=b at*
   have Uh:o.guard=none:=by simpa using Qh
   unfold jA wF at I;rw[Uh]at I;obtain⟨v,hK,Rx,PD⟩:=(n9 hτ I s hR).resolve_right (fun hh=>by have:=hh.1;rw[uZ hR]at this;cases this);obtain⟨l2,h3,sat2⟩:=jR s hK (Oz i o ho) Rx;rw[hR]at h3;have V:Region.wanted o (yielded ops a.tmps)=true:=by simp[Region.wanted,Uh]
   refine yH (v:=v.den O) (b:=b) (AC:=fun _=>True) (C8:=execOp a.eval o) ho hR Pr (fun c a w hq=>absurd hq.1 bv) (fun j hj=>(hb j hj).2.2) (fun w3 _=>PD w3 (.inl hP)) (fun lx w h z hz ha=>h z hz ((kI ho hR).2 ha))
    f la a J (fun j hj=>(hm j).symm.trans (hb j hj).1) (fun j oj Rw QL hl K=>vz ops.toList 0 c4 j oj (by rw[bQ];exact Rw) be (by
     have hj:=(bM.1 Rw).1
     rw[aW,hm,oh be false true];exact hl) (by rw[aW];exact K)) c1 ⟨V,rfl⟩ ?_
   refine lz (fun lx w h=>⟨h,fun _=>trivial⟩) _ _ _ _ ?_;exact jz hτ Oz Pr hQ t f _ _ _ _ _ _ _ _ _ C9 F9 be QY c3 h3 sat2 (fun z hz h=>hG z hz ((kI ho hR).1 h)) (fun z hz=>(hZ z hz).step ho (yI c1)) (fun z hz h=>hI z hz ((kI ho hR).1 h))
 | .two i t k u,fuel,la,l,H,nx,iv,w,O,a,J,C9,F9,hf,hz,hc,h,s,hG,hZ,hI=>by
  simp only[nT]at hc;split at hc
  .rename_i x y hr;simp only[bL]at hc;obtain⟨c1,c2,c3,c4⟩:=hc;have U:=bm c1;have hy:=bm c2;subst U;subst hy;obtain⟨I,G⟩:=h;obtain⟨o1,XM,I⟩:=iS I;obtain⟨o2,VY,G⟩:=iS G;rw[bQ]at XM VY;have S9:x∈Region.ready .any ops la:=by rw[hr];simp
   have UH:y∈Region.ready .any ops la:=by rw[hr];simp
   have u1:=mP (fL.1 S9).1;have u2:=mP (fL.1 UH).1;obtain⟨f,rfl⟩:∃f,fuel=f+1:=⟨fuel-1,be⟩
   refine⟨hI,fun h0=>(by rw[hr]at h0;cases h0),fun j hj=>?_⟩;rw[hr,List.mem_cons,bK]at hj;rcases hj with rfl|rfl
   .exact Fl hτ XM (Oz _ o1 XM) S9 I s hG hZ hI fun _ _ _ _ _ _ _ _ G' K hs XB XC XD=>jz hτ Oz Pr hQ t f _ _ _ _ _ _ _ _ _ G' F9 be (by rw[bu,hz]) c3 K hs XB XC XD
   .exact Fl hτ VY (Oz _ o2 VY) UH G s hG hZ hI fun _ _ _ _ _ _ _ _ G' K hs XB XC XD=>jz hτ Oz Pr hQ u f _ _ _ _ _ _ _ _ _ G' F9 be (by rw[bu,hz]) c4 K hs XB XC XD
  .cases hc
 | .three i t k u m v,fuel,la,l,H,nx,iv,w,O,a,J,C9,F9,hf,hz,hc,h,s,hG,hZ,hI=>by
  simp only[nT]at hc;split at hc
  .rename_i x y z9 hr;simp only[bL]at hc;obtain⟨c1,c2,c6,c3,c4,c5⟩:=hc;have U:=bm c1;have hy:=bm c2;have hz9:=bm c6;subst U;subst hy;subst hz9;obtain⟨I,G,h3⟩:=h;obtain⟨o1,XM,I⟩:=iS I;obtain⟨o2,VY,G⟩:=iS G;obtain⟨o3,ho3,h3⟩:=iS h3;rw[bQ]at XM VY ho3;have S9:x∈Region.ready .any ops la:=by rw[hr];simp
   have UH:y∈Region.ready .any ops la:=by rw[hr];simp
   have hm3:z9∈Region.ready .any ops la:=by rw[hr];simp
   have u1:=mP (fL.1 S9).1;have u2:=mP (fL.1 UH).1;have u3:=mP (fL.1 hm3).1;obtain⟨f,rfl⟩:∃f,fuel=f+1:=⟨fuel-1,be⟩
   refine⟨hI,fun h0=>(by rw[hr]at h0;cases h0),fun j hj=>?_⟩;rw[hr,List.mem_cons,List.mem_cons,bK]at hj;rcases hj with rfl|rfl|rfl
   .exact Fl hτ XM (Oz _ o1 XM) S9 I s hG hZ hI fun _ _ _ _ _ _ _ _ G' K hs XB XC XD=>jz hτ Oz Pr hQ t f _ _ _ _ _ _ _ _ _ G' F9 be (by rw[bu,hz]) c3 K hs XB XC XD
   .exact Fl hτ VY (Oz _ o2 VY) UH G s hG hZ hI fun _ _ _ _ _ _ _ _ G' K hs XB XC XD=>jz hτ Oz Pr hQ u f _ _ _ _ _ _ _ _ _ G' F9 be (by rw[bu,hz]) c4 K hs XB XC XD
   .exact Fl hτ ho3 (Oz _ o3 ho3) hm3 h3 s hG hZ hI fun _ _ _ _ _ _ _ _ G' K hs XB XC XD=>jz hτ Oz Pr hQ v f _ _ _ _ _ _ _ _ _ G' F9 be (by rw[bu,hz]) c5 K hs XB XC XD
  .cases hc
 | .ld i b t,fuel,la,l,H,nx,iv,w,O,a,J,C9,F9,hf,hz,hc,h,s,hG,hZ,hI=>by
  unfold nT at hc;obtain⟨o,ho,I⟩:=iS h;rw[bQ]at ho;simp only[ho]at hc
  cases S8:aB3 o with
  |none=>rw[S8]at hc;cases hc
  |some q=>
   obtain⟨d,T,u⟩:=q;rw[S8]at hc I;simp only[bL]at hc;obtain⟨⟨⟨⟨c1,c2⟩,c4⟩,c5⟩,c3⟩:=hc;obtain⟨e1,e2,e3⟩:=Nv S8;have c1:i∈Region.ready .any ops la:=by simpa using c1
   obtain⟨Qs,-⟩:=fL.1 c1;have WI:=mP Qs;obtain⟨f,rfl⟩:∃f,fuel=f+1:=⟨fuel-1,be⟩
   have QY:(la.setIfInBounds i true).size=ops.size:=by rw[bu,hz]
   have hR:yK o.op=true:=by rw[e2];rfl
   have hm:=Ar la;have hb:=oo (ops:=ops) (m:=j2 la.toList 0) (i:=i) ops.toList 0 0 (fun n o W=>by rw[aW];rwa [bQ]at W) (fun j hj=>by rw[wD]at hj;cases hj);rw[<-bm c2]at hb
   cases hsu:gK l u with
   |none=>simp only[hsu]at I
   |some su=>
    simp only[hsu]at I;obtain⟨v,hK,Rx,PD⟩:=pf hτ s.rel (s.sc _ _ hsu) I;have hau:=s.env _ _ hsu;have XE:=Oz i o ho d e1;have sat2:Sat n ((d,v)::l) H nx iv B w O (a.put o.dst (v.den O)) J:=by rw[e1];exact s.put XE Rx
    have V:Region.wanted o (yielded ops a.tmps)=true:=by simp[Region.wanted,e3]
    have Ro:a.eval (.tmp u)=su.den O:=by rw[Act.eval,bJ,hau];rfl
    have hui:tb (j2 la.toList 0) i=false:=by rw[hm];exact yI c1
    have S2:=Df ops.toList 0 c5;refine yH (v:=v.den O) (b:=b) (AC:=Yz P (⟨u,d,T,b⟩,su.den O,v.den O)) (C8:=execOp a.eval o) ho hR Pr (fun c a w hq=>absurd hq.1 bv) (fun j hj=>(hb j hj).2.2) (fun w3 hY=>?_) (fun lx w h z hz ha=>h z hz ((kI ho hR).2 ha))
     f la a J (fun j hj=>(hm j).symm.trans (hb j hj).1) (fun j oj Rw QL hl K=>vz ops.toList 0 c4 j oj (by rw[bQ];exact Rw) be (by
      have hj:=(bM.1 Rw).1
      rw[aW,hm,oh be false true];exact hl) (by rw[aW];exact K)) c1 ⟨V,rfl⟩ ?_
    .unfold Yz at hY;obtain⟨dst,op,ty,pos,after,guard⟩:=o;simp only at e2;subst e2;simp only[execOp,Ro]
     exact nd hY
    .refine lz (A':=IZ P ops ((⟨u,d,T,b⟩,su.den O,v.den O)::F9)) (fun lx w h=>⟨fun z hz=>h z (aB _ hz),h _ aH⟩) _ _ _ _ ?_;refine jz hτ Oz Pr hQ t f _ _ _ _ _ _ _ _ _ (⟨u,d,T,b⟩::C9) ((⟨u,d,T,b⟩,su.den O,v.den O)::F9) be QY c3 hK sat2 (fun z hz h=>?_) (fun z hz=>?_) (fun z hz h=>?_)
     .rcases List.mem_cons.1 hz with rfl|hz
      .exact aH
      .exact aB _ (hG z hz ((kI ho hR).1 h))
     .rcases List.mem_cons.1 hz with rfl|hz
      .have h7:=(S2 i o (by rw[bQ];exact ho) (by rw[aW];exact hui)).1;refine⟨tJ h7 hau,?_,fun j oj Rw TB=>?_⟩
       .rw[e1];show(a.tmps.setIfInBounds d _)[d]? =_;rw[Array.getElem?_setIfInBounds_self_of_lt (by rw[s.size];exact XE)]
       .have QL:i≠j:=fun e=>by
         subst e;have D:=(bM.1 Qs).1;rw[bJ,Array.getElem?_setIfInBounds_self_of_lt D]at TB
         cases TB
        rw[getD_set_ne false QL]at TB;obtain⟨k1,k2⟩:=S2 j oj (by rw[bQ];exact Rw) (by rw[aW,hm];exact TB);exact⟨k1,k2 be⟩
      .exact(hZ z hz).step ho (yI c1)
     .rcases List.mem_cons.1 hz with rfl|hz
      .exact PD J s.rel
      .exact hI z hz ((kI ho hR).1 h)
 | .pK id t,fuel,la,l,H,nx,iv,w,O,a,J,C9,F9,hf,hz,hc,h,s,hG,hZ,hI=>by
  obtain⟨H',b,QF,hd,hs,ho,h⟩:=h;obtain⟨W,l',hl,h⟩:=h _ _ s.rel;exact jz hτ Oz Pr hQ t fuel la l' H' nx _ J O a J C9 F9 hf hz hc h ⟨s.rel.free QF hd W hs ho,s.size,s.defers,fun u v hv=>by obtain⟨-,v',I,G⟩:=hl u v hv;rw[<-G];exact s.env u v' I,fun u v hv=>(hl u v hv).1⟩ hG hZ hI
theorem jd(hτ:gM P τ)(hm:P.follows .mixedOrders=true){GE:KT}(t:Tg)(hs:Region.noSelect ops=true)(hc:nT ops t (Array.replicate ops.size false)=true)
  (h:EV P τ B ops.toList t [] l H nx iv w GE):yM P B ops l H nx iv w GE:=by
 refine⟨fun n O a J Oz sat Q hQ id=>?_⟩;refine wp_mono (Q':=Q) (c:=.region id ops true) (wp_region_any (Q:=QN (Q .normal)) hm (De (A':=IZ P ops []) _ _ _ _ ?_)) (fun e a w hq=>by obtain⟨rfl,hq⟩:=hq;exact hq);refine jz (Q0:=Q .normal) hτ (fun j o ho d hd=>?_) (Region.noSelect_spec hs) hQ t _ _ _ _ _ _ _ O _ _ [] [] ?_ bv hc h ⟨sat.rel.drew,sat.size,sat.defers,sat.env,sat.sc⟩ (fun z hz=>by cases hz) (fun z hz=>by cases hz) (fun z hz=>by cases hz)
 .have:=List.all_eq_true.1 Oz o (aC (by rw[bQ];exact ho));rw[hd]at this;have h5:d+1<=n:=by simpa [Nat.blt]using this
  exact h5
 .unfold unl;refine aX List.countP_le_length ?_;simp
end
end Go.Ex
