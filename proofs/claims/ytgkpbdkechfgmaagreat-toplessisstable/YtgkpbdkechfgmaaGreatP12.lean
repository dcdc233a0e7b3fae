/- Texts X135 to X139: lemmas, each with its conditions. -/
import Derived.Test.YtgkpbdkechfgmaaGreatP11
namespace Go.Ex
open Go Go.Sx Go.Proofs
variable{iv:Iv}{M:List (List Rat)}{A:List (List Value)}{ps pv:List Nat}{b qs x:List Rat}{U:List Value}{B g h id:Nat}{C S:Nat->Prop}{O:Nat->Sx.dL}{a ax:Option Addr}{row:Option Nat}{q:Rat}{v:Value}{w:World}
section
variable{S S':Nat->Prop}{H:Hp}{nx n:Nat}{iv E:Iv}{B:Nat}{w J V:World}{O:Nat->Sx.dL}{v:Value}{qs:List Rat}
theorem eE.aAW{w0 w1:World}(h:eE w1 S w0.heap.size iv v n qs)(r:Rel H nx iv w0.heap.size w1 O J)(F:Old S w0):eE J S w0.heap.size [(w0.heap.size,J.heap.size)] v n qs:=by
 have X:=h.rel r F;have key:∀g {C9:Nat->Prop},Cv C9 w0.heap.size iv g->Cv C9 w0.heap.size [(w0.heap.size,J.heap.size)] g:=fun g C9 G=>by
  rcases G with G|⟨I,lo,D,X,N,h4⟩
  ·exact .inl G
  ·exact .inr ⟨I,_,_,bF.2 rfl,I,by have:=r.qW lo D X;have:=r.size;omega⟩
 exact⟨X.row.cF fun g G=>⟨key g G.1,G.2⟩,fun g G=>key g (X.new g G)⟩
theorem eE.aAX(h:eE V (Cv S B iv) J.heap.size [(J.heap.size,V.heap.size)] v n qs)(hB:B<=J.heap.size):eE V S B ((J.heap.size,V.heap.size)::iv) v n qs:=by
 have key:∀g {C9 AC:Nat->Prop},(∀g,AC g->Cv C9 B iv g)->Cv AC J.heap.size [(J.heap.size,V.heap.size)] g->Cv C9 B ((J.heap.size,V.heap.size)::iv) g:=fun g C9 AC hY G=>by
  rcases G with G|⟨I,lo,D,X,N,h4⟩
  ·exact(hY g G).mono fun p hp=>aC _ hp
  ·simp at X;obtain⟨rfl,rfl⟩:=X;exact .inr ⟨by omega,_,_,aG,N,h4⟩
 exact⟨h.row.cF fun g G=>⟨key g (fun _ h=>h) G.1,G.2⟩,fun g G=>key g (fun _ h=>h.elim) (h.new g G)⟩
def Bs(S:Nat->Prop)(B:Nat)(iv:Iv)(v:Value)(g:Nat):Prop:=Cv S B iv g/\v.ownBlock≠some g
theorem Bs.kept(r:Rel H nx iv B w O J)(F:∀g,S g->g<B)(G:J.grownBy V row)(OR:∀g,row=some g->v.ownBlock=some g):∀g,Bs S B iv v g->V.heap[g]? =w.heap[g]? :=fun g h=>by
 rw[G.block g (Rel.old r F g h.1) fun e=>h.2 (OR g e.symm),Rel.same r F h.1]
theorem Bs.same(r:Rel H nx iv B w O J)(F:∀g,S g->g<B):∀g,Bs S B iv v g->J.heap[g]? =w.heap[g]? :=fun g h=>Rel.same r F h.1
theorem Bs.of(r:Rel H nx iv B w O J)(F:∀g,S g->g<B)(hm:∀p,p∈iv->p∈E)(Z:eE V FF J.heap.size [(J.heap.size,V.heap.size)] v n qs)(h:Cv S B iv g):Bs S B E v g:=
 ⟨h.mono hm,fun e=>by
  have I:=Rel.old r F g h;rcases Z.new g e with X|⟨X,_⟩
  ·exact X
  ·omega⟩
theorem Bs.mono(hm:∀p,p∈iv->p∈E)(h:Bs S B iv v g):Bs S B E v g:=⟨h.1.mono hm,h.2⟩
theorem dS.at{m c j p:Nat}(h:dS w S (.slice a m c) ps)(hj:ps[j]? =some p):∃ad,a=some ad/\S ad.block/\w.cell? (ad.add (j*1))=some (.int .i64 (p:Int)):=by
 obtain⟨h0,I,X,a',c',e,N,h4⟩:=h;injection e with e1 e2 e3;subst e1;obtain⟨ad,k1,k2,k3⟩:=h4 j (.int .i64 (p:Int)) (by rw[aM,hj];rfl);exact⟨ad,k1,k2,by rw[aY];exact k3⟩
theorem dS.shape(h:dS w S v ps):∃a c,v= .slice a ps.length c/\ps.length<=c/\ps.length<=maxLen:=by
 obtain⟨h0,I,X,a,c,e,N,h4⟩:=h;exact⟨a,c,e,N,h0⟩
end
theorem zq{Fd:List (List Rat)}{at_:List (Option Nat)}{fr:List Nat}{n:Nat}(hE:gh n Fd)(Ou:∀(k r:Nat),at_[k]? =some (some r)->r<Fd.length):∀k,k<=at_.length->gh n (cZ (Fd,at_,fr) k).1/\∀p∈(cZ (Fd,at_,fr) k).2.1,p<k
 |0,_=>⟨(fun r hr=>by cases hr),fun p hp=>by cases hp⟩
 |k+1,R=>by
  have ih:=zq (fr:=fr) hE Ou k (by omega);obtain⟨o,ho⟩:∃o,at_[k]? =some o:=⟨_,aB (by omega)⟩
  cases o with
  |none=>
   rw[mR (s:=(Fd,at_,fr)) ho];exact⟨ih.1,fun p hp=>Nat.lt_succ_of_lt (ih.2 p hp)⟩
  |some r=>
   rw[mS (s:=(Fd,at_,fr)) ho];refine⟨fun x L=>?_,fun p hp=>?_⟩
   ·rcases List.mem_append.1 L with L|L
    ·exact ih.1 x L
    ·rw[bF.1 L];have:=Ou k r ho;dsimp only
     rw[List.getD,aB this];exact hE _ (aX this)
   ·rcases List.mem_append.1 hp with hp|hp
    ·exact Nat.lt_succ_of_lt (ih.2 p hp)
    ·rw[bF.1 hp];exact bV _
theorem rY{n:Nat}(cols:Nat)(hM:gh n M):(dh M cols).1.length=(dh M cols).2.1.length/\(dh M cols).2.2.length=(dh M cols).2.1.length/\gh n (dh M cols).1/\(∀p∈(dh M cols).2.1,p<cols)/\(dh M cols).2.1.length<=cols:=by
 have OV:=ya cols hM M.length (Nat.le_refl _);unfold dh;generalize gq M cols M.length=s at*
 obtain⟨Fd,at_,fr⟩:=s;have Q4:at_.length=cols:=OV.at_;obtain⟨q1,q2,-,q4⟩:=uM (Fd,at_,fr) [] cols (by show cols<=at_.length;omega);obtain⟨f1,f2⟩:=zq (Fd:=Fd) (at_:=at_) (fr:=fr) OV.len OV.lt cols (by omega);exact⟨q1,q2,f1,f2,q4⟩
theorem kj(M:List (List Rat))(b:List Rat):(kF M b).length=M.length:=List.length_mapIdx
theorem Ih{n:Nat}(h:gh n M):gh (n+1) (kF M b):=fun r hr=>by
 obtain⟨i,D⟩:=aQ hr;rw[kF,List.getElem?_mapIdx]at D
 cases hM:M[i]? with
 |none=>rw[hM]at D;cases D
 |some x=>
  rw[hM]at D;simp only[bY,Option.some.injEq]at D;rw[<-D,List.length_append,h x (aE hM)];rfl
theorem GQ{H:Hp}{nx:Nat}{J:World}(r:Rel H nx iv B w O J)(h:cV H id=some (.vec T.Rat 4 ([]++A.flatten++U)))(hF:Fc J S A x)(hq:jA J S U q)(hm:x.length<maxLen):
  (O id).nil=false/\cS J (Cv S B (((O id).g,(O id).g+1)::iv)) (.slice (some ⟨(O id).g,0,none⟩) (x.length+1) (O id).cap) (x++[q]):=by
 have Ot:=eo hF.nH;have hl:([]++A.flatten++U).length=(x.length+1)*4:=by rw[List.nil_append,List.length_append,Ot,hF.1,hq.len];omega
 have SA:=hF.push hq;have W:[]++A.flatten++U=(A++[U]).flatten:=by simp
 have hv:=MR r (sz:=4) (m:=x.length+1) h hl (by omega) (by decide) (by omega) (fun u hu=>SA.one u (by rw[<-W];exact hu));refine⟨hv.1,A++[U],?_,SA.1,SA.nH,fun j c y k1 k2=>(SA.2 j c y k1 k2).cF fun g G=>.inl G⟩;rw[List.length_append,List.length_singleton,<-W];exact hv.2.2.cF fun g G=>.inr ⟨by have:=hv.2.1;omega,_,_,aG,by omega,by omega⟩
set_option maxHeartbeats 2000000 in
theorem B8{F9:Nat->Prop}{u:Value}{cols:Nat}(hC:Old C w)(hD:Old F9 w)(F:Old S w)(hM:oQ w C S v M)(hb:gB w F9 S u b)(QL:b.length=M.length)(hlen:gh cols M)(Z:cols<=999)(hR:M.length<=1000)(hB:Ef (kF M b) (cols+1) h)(hh:3*h<=90000):
  dx PG F'.jD #[.agg #[v,.int .i64 cols],u] w (eH w fun v' V=>(nm M b cols=none/\v'= .tuple #[.slice none 0 0,.bool false])\/∃x vx,nm M b cols=some x/\v'= .tuple #[vx,.bool true]/\eE V S w.heap.size [(w.heap.size,V.heap.size)] vx cols x):=by
 have Y:=bR w;obtain⟨am,cm,rfl,S3,Rd⟩:=oQ.shape hM;obtain⟨ab,cb,rfl,PB,RP⟩:=gB.shape hb;unfold maxLen at Rd RP;refine oF (by simp) ?_
 refine⟨((cols+1:Nat):Int),wo,Nat×List Value×World×Iv,fun z=>⟨[(20,iN z.1),(1,sV ab b.length cb),(2,pP 0 0),(6,pP 1 0),(18,sV am M.length cm),(19,iZ M.length)],[(1,.box T.di [.w 2 z.2.1.length,.v (.int .i64 ((cols+1:Nat):Int))]),(2,.vec T.jC 1 z.2.1),(0,.box T.di [.v (.slice am M.length cm),.v (.int .i64 cols)])],3,z.2.2.2,z.2.2.1⟩,fun z=>M.length-z.1,
  fun z=>z.1<=M.length/\dT w.heap.size w z.2.2.1/\du z.2.2.1 (Cv S w.heap.size z.2.2.2) z.2.1 ((kF M b).take z.1),?_,?_⟩
 ·intro O J r
  exact⟨(0,[],J,[]),⟨aS _,Y.tr r.cL,by simp[du]⟩,Sub.Ee 1 0 T.jC 1 rfl rfl (by simp[l5,SV.sc,At.sc,iW]) r fun In r1=>
   Sub.gn [] r1⟩
 rintro⟨i,rv,w1,iv⟩ ⟨D,Y,hK⟩;dsimp only at D Y hK ⊢;have Pm:rv.length=i:=by rw[hK.1,aZ,kj];omega
 refine dB.mk ?_ ?_<;>intro OQ
 ·have OQ:i<M.length:=by simpa using OQ
  obtain⟨x,L⟩:∃r,M[i]? =some r:=⟨_,aB OQ⟩
  have QC:=hlen x (aE L);obtain⟨q,hq⟩:∃r,b[i]? =some r:=⟨_,aB (by omega)⟩
  have Qu:b.getD i 0=q:=by rw[List.getD,hq];rfl
  have Oh:(kF M b).take (i+1)=(kF M b).take i++[x++[q]]:=by
   rw[List.take_add_one,show(kF M b)[i]? =some (x++[q]) by rw[kF,List.getElem?_mapIdx,L,<-Qu];rfl];rfl
  obtain⟨adm,um,Ux,Qc,km1,km2⟩:=oQ.load hM L;obtain⟨A,⟨-,g1,g2,a0,c0,rfl,g4,g5⟩,PZ,Tx,Ok⟩:=Qc;have Ot:=eo Tx;obtain⟨adq,U,haq,hF,hl⟩:=gB.load hb hq;obtain⟨b3,a3,n3,c3,b4,a4,n4,c4,rfl,hF⟩:=hF;refine⟨adm,Ux,by omega,.slice a0 x.length c0,rd1 km2 Y (hC _ km1),?_⟩;refine j1 hτ dN (.x 0 (.x 3 (.x 5 (.x 6 (.x 7 (.ld 1 28672 (.ld 8 32256 (.two 2 (.two 4 (.x 9 (.x 10 (.rK 6 (.x 11 (.x 12 (.x 13 (.x 14 .nil))))))) 9 (.x 4 (.x 10 (.rK 6 (.x 11 (.x 12 (.x 13 (.x 14 .nil)))))))) 9 (.x 2 (.x 4 (.x 10 (.rK 6 (.x 11 (.x 12 (.x 13 (.x 14 .nil)))))))))))))))) (by kernel_rfl) (by kernel_rfl) ?_;refine⟨adq,haq,by omega,[.bool b3,.slice a3 n3 c3,.bool b4,.slice a4 n4 c4],rfl,rdO hl Y hD,?_,?_⟩
  ·refine⟨[.bool b3,.slice a3 n3 c3,.bool b4,.slice a4 n4 c4],rfl,rdO hl Y hD,rfl,rfl,?_,?_⟩
   ·refine .inl ?_;refine⟨A.flatten,g1,g2,fun O J r PI=>?_,?_⟩
    ·obtain⟨u0,hu0⟩:∃u,A.flatten[0]? =some u:=⟨_,aB (by omega)⟩
     obtain⟨ad,ha,_,_⟩:=g5 0 u0 hu0;refine⟨ad,ha,fun j u hj=>?_⟩;obtain⟨ad2,Qt,q1,q2⟩:=g5 j u hj;rw[ha]at Qt;injection Qt with Qt;subst Qt;rw[cJ (w:=w) (V:=J) (by rw[c9];exact(Y.tr r.cL).block _ (F _ q1))];exact q2
    refine⟨rfl,by omega,by unfold maxLen;omega,?_⟩;rw[aV x.length];refine⟨[.bool b3,.slice a3 n3 c3,.bool b4,.slice a4 n4 c4],rfl,rdO hl Y hD,rfl,rfl,rfl,?_⟩;refine .inl ?_;refine⟨by rw[<-g1];rfl,by omega,by unfold maxLen;omega,rfl,[(1,.box T.di [.w 2 rv.length,.v (.int .i64 ((cols+1:Nat):Int))]),(2,.vec T.jC 1 rv),(0,.box T.di [.v (.slice am M.length cm),.v (.int .i64 cols)])],_,rfl,by simp,⟨rfl,rfl,rfl,trivial⟩,rfl,fun O J r=>?_⟩;have hv:=GQ (S:=S) (x:=x) (q:=q) (A:=A) r (id:=6) rfl ⟨PZ,fun j U q k1 k2=>(Ok j U q k1 k2).cC fun g G=>(Y.tr r.cL).block g (F g G)⟩ (hF.cC (kS Y r F)).uK (by unfold maxLen;omega);refine⟨hv.1,_,uI (tl:=[(25,pP 1 0),(26,.o (.w 2 rv.length)),(20,iN i),(1,sV ab b.length cb),(2,pP 0 0),(6,pP 1 0),(18,sV am M.length cm),(19,iZ M.length)]) hv.1 (t:=35) (n:=x.length+1) rfl ⟨rfl,rfl,rfl,rfl,rfl,rfl,rfl,rfl,trivial⟩ (by simp[l5,SV.sc,At.sc]),?_⟩;replace hK:=(du.cF (hK.rel r F) (fun g G=>G.mono fun p hp=>aC _ hp)).push rfl hv.2;rw[<-Oh]at hK;replace Y:=Y.tr r.cL;generalize (O 6).g=gx at*
    generalize (O 6).cap=cx at*
    generalize (gx,gx+1)::iv=OU at*
    refine⟨rfl,?_⟩;refine .inl ?_;refine⟨by simp,by omega,by unfold maxLen;omega,((i+1:Nat):Int),wo,?_⟩;intro IR w3 K;exact⟨(i+1,rv++[.slice (some ⟨gx,0,none⟩) (x.length+1) cx],w3,_),⟨OQ,Y.tr K.cL,hK.rel K F⟩,Sub.gn [(2,8)] K ⟨by dsimp only;rw[List.length_append,List.length_singleton];rfl,rfl,rfl,trivial⟩,by dsimp only;omega⟩
   ·refine⟨rfl,?_⟩;refine .inl ?_;refine⟨A.flatten,g1,g2,fun O J r PI=>?_,?_⟩
    ·obtain⟨u0,hu0⟩:∃u,A.flatten[0]? =some u:=⟨_,aB (by omega)⟩
     obtain⟨ad,ha,_,_⟩:=g5 0 u0 hu0;refine⟨ad,ha,fun j u hj=>?_⟩;obtain⟨ad2,Qt,q1,q2⟩:=g5 j u hj;rw[ha]at Qt;injection Qt with Qt;subst Qt;rw[cJ (w:=w) (V:=J) (by rw[c9];exact(Y.tr r.cL).block _ (F _ q1))];exact q2
    refine⟨rfl,by omega,by unfold maxLen;omega,?_⟩;rw[aV x.length];refine⟨rfl,?_⟩;refine .inl ?_;refine⟨by rw[<-g1];rfl,by omega,by unfold maxLen;omega,rfl,[(1,.box T.di [.w 2 rv.length,.v (.int .i64 ((cols+1:Nat):Int))]),(2,.vec T.jC 1 rv),(0,.box T.di [.v (.slice am M.length cm),.v (.int .i64 cols)])],_,rfl,by simp,⟨rfl,rfl,rfl,trivial⟩,rfl,fun O J r=>?_⟩;have hv:=GQ (S:=S) (x:=x) (q:=q) (A:=A) r (id:=6) rfl ⟨PZ,fun j U q k1 k2=>(Ok j U q k1 k2).cC fun g G=>(Y.tr r.cL).block g (F g G)⟩ (hF.cC (kS Y r F)).uK (by unfold maxLen;omega);refine⟨hv.1,_,uI (tl:=[(25,pP 1 0),(26,.o (.w 2 rv.length)),(20,iN i),(1,sV ab b.length cb),(2,pP 0 0),(6,pP 1 0),(18,sV am M.length cm),(19,iZ M.length)]) hv.1 (t:=35) (n:=x.length+1) rfl ⟨rfl,rfl,rfl,rfl,rfl,rfl,rfl,rfl,trivial⟩ (by simp[l5,SV.sc,At.sc]),?_⟩;replace hK:=(du.cF (hK.rel r F) (fun g G=>G.mono fun p hp=>aC _ hp)).push rfl hv.2;rw[<-Oh]at hK;replace Y:=Y.tr r.cL;generalize (O 6).g=gx at*
    generalize (O 6).cap=cx at*
    generalize (gx,gx+1)::iv=OU at*
    refine⟨rfl,?_⟩;refine .inl ?_;refine⟨by simp,by omega,by unfold maxLen;omega,((i+1:Nat):Int),wo,?_⟩;intro IR w3 K;exact⟨(i+1,rv++[.slice (some ⟨gx,0,none⟩) (x.length+1) cx],w3,_),⟨OQ,Y.tr K.cL,hK.rel K F⟩,Sub.gn [(2,8)] K ⟨by dsimp only;rw[List.length_append,List.length_singleton];rfl,rfl,rfl,trivial⟩,by dsimp only;omega⟩
  ·refine⟨rfl,rfl,?_⟩;refine .inl ?_;refine⟨A.flatten,g1,g2,fun O J r PI=>?_,?_⟩
   ·obtain⟨u0,hu0⟩:∃u,A.flatten[0]? =some u:=⟨_,aB (by omega)⟩
    obtain⟨ad,ha,_,_⟩:=g5 0 u0 hu0;refine⟨ad,ha,fun j u hj=>?_⟩;obtain⟨ad2,Qt,q1,q2⟩:=g5 j u hj;rw[ha]at Qt;injection Qt with Qt;subst Qt;rw[cJ (w:=w) (V:=J) (by rw[c9];exact(Y.tr r.cL).block _ (F _ q1))];exact q2
   refine⟨rfl,by omega,by unfold maxLen;omega,?_⟩;rw[aV x.length];refine⟨rfl,?_⟩;refine .inl ?_;refine⟨by rw[<-g1];rfl,by omega,by unfold maxLen;omega,rfl,[(1,.box T.di [.w 2 rv.length,.v (.int .i64 ((cols+1:Nat):Int))]),(2,.vec T.jC 1 rv),(0,.box T.di [.v (.slice am M.length cm),.v (.int .i64 cols)])],_,rfl,by simp,⟨rfl,rfl,rfl,trivial⟩,rfl,fun O J r=>?_⟩;have hv:=GQ (S:=S) (x:=x) (q:=q) (A:=A) r (id:=6) rfl ⟨PZ,fun j U q k1 k2=>(Ok j U q k1 k2).cC fun g G=>(Y.tr r.cL).block g (F g G)⟩ (hF.cC (kS Y r F)).uK (by unfold maxLen;omega);refine⟨hv.1,_,uI (tl:=[(25,pP 1 0),(26,.o (.w 2 rv.length)),(20,iN i),(1,sV ab b.length cb),(2,pP 0 0),(6,pP 1 0),(18,sV am M.length cm),(19,iZ M.length)]) hv.1 (t:=35) (n:=x.length+1) rfl ⟨rfl,rfl,rfl,rfl,rfl,rfl,rfl,rfl,trivial⟩ (by simp[l5,SV.sc,At.sc]),?_⟩;replace hK:=(du.cF (hK.rel r F) (fun g G=>G.mono fun p hp=>aC _ hp)).push rfl hv.2;rw[<-Oh]at hK;replace Y:=Y.tr r.cL;generalize (O 6).g=gx at*
   generalize (O 6).cap=cx at*
   generalize (gx,gx+1)::iv=OU at*
   refine⟨rfl,?_⟩;refine .inl ?_;refine⟨by simp,by omega,by unfold maxLen;omega,((i+1:Nat):Int),wo,?_⟩;intro IR w3 K;exact⟨(i+1,rv++[.slice (some ⟨gx,0,none⟩) (x.length+1) cx],w3,_),⟨OQ,Y.tr K.cL,hK.rel K F⟩,Sub.gn [(2,8)] K ⟨by dsimp only;rw[List.length_append,List.length_singleton];rfl,rfl,rfl,trivial⟩,by dsimp only;omega⟩
 have OQ:i=M.length:=aU D (by simpa using OQ);rw[List.take_of_length_le (by rw[kj];omega)]at hK;have WY:=Ih (b:=b) hlen;obtain⟨f1,f2,f3,f4,f5⟩:=rY (cols+1) WY;generalize hA:(dh (kF M b) (cols+1)).1=F8 at*
 generalize hP:(dh (kF M b) (cols+1)).2.1=pv at*
 refine⟨((cols+1:Nat):Int),wo,?_⟩
 refine cB (cG (Id:=fun _ J v V=>∃vr vp vf,v= .agg #[vr,.int .i64 ((cols+1:Nat):Int),vp,vf]/\cT V (Nw (Cv S w.heap.size iv) J V) vr F8/\dS V (Nf J V) vp pv/\dS V (Nf J V) vf (dh (kF M b) (cols+1)).2.2) (fun O J r=>by
  rw[<-hA,<-hP]
  exact B7 (C:=fun g=>g<J.heap.size) (fun g G=>G) (Rel.old r F) ⟨rv,by rw[kj,<-OQ,<-Pm];exact(r.kQ (id:=2) (sz:=1) (m:=rv.length) rfl (by simp) (by unfold maxLen;omega) (by decide) hK.2.1).cF fun g G=>G.2,hK.1,fun i u x I X=>cS.rel (hK.2.2 i u x I X) r F⟩ WY (by omega) (by omega) (by rw[kj];omega) (Nat.le_refl _) hB hh) ?_)
 rintro O PQ v1 PE r W Oa ⟨vr,vp,vf,rfl,k1,k2,k3⟩;replace Y:=Y.tr Oa;have hR:=cT.old k1 r.bz;have hV:=dS.dD (S:=FF) k2 r.bz (iv:=(PQ.heap.size,PE.heap.size)::iv) aG;have hX:=dS.dD (S:=FF) k3 r.bz (iv:=(PQ.heap.size,PE.heap.size)::iv) aG;generalize (PQ.heap.size,PE.heap.size)::iv=OZ at*
 obtain⟨ar,cr,rfl,Su,hmr⟩:=dG.shape hR;obtain⟨ap,cp,rfl,hcp,hmp⟩:=dS.shape hV;obtain⟨af,cf,rfl,-,-⟩:=dS.shape hX;refine cB (cG (Id:=fun _ J v V=>eE V FF J.heap.size [(J.heap.size,V.heap.size)] v cols (List.replicate cols 0)) (fun O J r=>zm cols J (by omega)) ?_);rintro O QK v2 PT r W Oa Z;replace Y:=Y.tr Oa;replace hR:=cT.cF (S':=Bs S w.heap.size ((QK.heap.size,PT.heap.size)::OZ) v2) (cT.cC (cT.rel hR r F) fun g G=>W.block g (Rel.old r F g G)) fun g G=>Bs.of r F (fun x L=>aC _ L) Z G;replace hV:=dS.cF (S':=Bs FF w.heap.size ((QK.heap.size,PT.heap.size)::OZ) v2) (dS.cC (dS.rel hV r (bw w)) fun g G=>W.block g (Rel.old r (bw w) g G)) fun g G=>Bs.of r (bw w) (fun x L=>aC _ L) Z G;have hX:=Z.dD (S:=S) r.bz (iv:=(QK.heap.size,PT.heap.size)::OZ) aG;generalize (QK.heap.size,PT.heap.size)::OZ=OU at*
 obtain⟨ax,cx,rfl,UM⟩:=hX.row.form;have hXl:=hX.row.le;unfold maxLen at hXl
 refine⟨Nat×World×Iv,fun z=>⟨[(51,iN z.1),(2,pP 0 0),(9,pP 3 0),(10,sV ax cols cx),(49,sV ap pv.length cp),(50,iZ pv.length)],[(3,.box T.dE [.v (.slice ar F8.length cr),.v (.int .i64 ((cols+1:Nat):Int)),.v (.slice ap pv.length cp),.v (.slice af (dh (kF M b) (cols+1)).2.2.length cf)]),(0,.box T.di [.v (.slice am M.length cm),.v (.int .i64 cols)])],4,z.2.2,z.2.1⟩,fun z=>pv.length-z.1,
  fun z=>z.1<=pv.length/\(∀(t p:Nat),t<z.1->pv[t]? =some p->p≠cols)/\dT w.heap.size w z.2.1/\cT z.2.1 (Bs S w.heap.size z.2.2 (.slice ax cols cx)) (.slice ar F8.length cr) F8/\dS z.2.1 (Bs FF w.heap.size z.2.2 (.slice ax cols cx)) (.slice ap pv.length cp) pv/\eE z.2.1 S w.heap.size z.2.2 (.slice ax cols cx) cols (gW F8 pv cols z.1),?_,?_⟩
 ·intro O J r;exact⟨(0,J,_),⟨aS _,fun t p ht=>absurd ht (Nat.not_lt_zero t),Y.tr r.cL,cT.cC hR (Bs.same r F),dS.cC hV (Bs.same r (bw w)),hX.rel r F⟩,Sub.gn [] r⟩
 rintro⟨k,w3,iv⟩ ⟨R,Ti,Y,hR,hV,hX⟩;dsimp only at R Ti Y hR hV hX ⊢;refine dB.mk ?_ ?_<;>intro OT
 ·have OT:k<pv.length:=by simpa using OT
  obtain⟨p,hp⟩:∃p,pv[k]? =some p:=⟨_,aB OT⟩
  have Qe:=f4 p (aE hp);obtain⟨adp,Qz,kp1,kp2⟩:=hV.at hp;refine⟨adp,Qz,by omega,.int .i64 (p:Int),fun O J r=>?_,?_⟩
  ·rw[aF,cJ (w:=w3) (V:=J) (by rw[c9];exact Rel.same r (bw w) kp1.1)];exact kp2
  refine dB.mk ?_ ?_<;>intro W
  ·have W:p=cols:=by
    have:(p:Int)=cols:=by simpa using W
    omega
   intro GT we re;refine⟨_,rfl,Y.tr re.cL,.inl ⟨?_,rfl⟩⟩;unfold nm;simp only[hP]
   rw[if_pos (by rw[<-W];exact aE hp)]
  have W:p≠cols:=fun e=>by rw[e]at W;simp at W
  obtain⟨x,L⟩:∃x,F8[k]? =some x:=⟨_,aB (by omega)⟩
  have QC:=f3 x (aE L);obtain⟨q,hq⟩:∃q,x[cols]? =some q:=⟨_,aB (by omega)⟩
  have Q4:cW F8 k cols=q:=by simp[cW,List.getD,L,hq]
  obtain⟨adm,um,Ux,Qc,km1,km2⟩:=dG.load hR L;obtain⟨a0,c0,rfl,hc0,-⟩:=eD.shape Qc;obtain⟨adq,U,haq,hF,_,hl⟩:=eD.load Qc hq;obtain⟨g0,g1,g2,g3,g4,g5,g6,g7,rfl,hF⟩:=hF;refine cI hτ dN [.x 0,.x 1,.x 2,.x 3,.x 4,.x 5,.x 6,.x 7,.x 8,.x 9,.x 10,.x 11,.x 12,.x 13] (by kernel_rfl) (by kernel_rfl) ?_;refine⟨adm,Ux,by omega,.slice a0 x.length c0,fun O J r=>?_,?_⟩
  ·rw[aF,cJ (w:=w3) (V:=J) (by rw[c9];exact Rel.same r F km1.1)];exact km2
  refine⟨adq,haq,by omega,[.bool g0,.slice g1 g2 g3,.bool g4,.slice g5 g6 g7],rfl,fun O J r j u hu=>?_,?_⟩
  ·obtain⟨k1,k2⟩:=hl j u hu;rw[aF,cJ (w:=w3) (V:=J) (by rw[c9,c9];exact Rel.same r F k1.1)];exact k2
  obtain⟨gx,Wg⟩:∃g,ax=some ⟨g,0,none⟩:=by
   obtain⟨A,I,X,N⟩:=hX.row;rcases I.2 with⟨_,h0⟩|⟨g,cap,cur,e,_⟩
   ·omega
   ·injection e with e;exact⟨g,e⟩
  subst Wg;refine⟨⟨gx,0,none⟩,rfl,by omega,?_⟩;intro O J r;obtain⟨g,G,I,X,N,h4,h5⟩:=(hX.rel r F).store (j:=p) (by omega) (hF.cC (Bs.same r F)) r F;injection G with G;injection G with G;subst G;refine⟨I,X,N,fun w5 Rr=>?_⟩;obtain⟨k1,k2,k3⟩:=h5 w5 Rr;have PR:dT w.heap.size w w5:=(Y.tr r.cL).tr (dT.grown k2 (fun g e=>by injection e with e;subst e;exact h4.elim (fun h=>h.elim) fun h=>h.1) r.bz);have RL:=cT.cC hR (Bs.kept r F k2 fun g e=>e);have hV2:=dS.cC hV (Bs.kept r (bw w) k2 fun g e=>e);have Oh:(gW F8 pv cols k).set p q=gW F8 pv cols (k+1):=by rw[gp,Q4,List.getD,hp];rfl
  rw[Oh]at k1;refine⟨((k+1:Nat):Int),wo,?_⟩;intro IR w6 K
  exact⟨(k+1,w6,_),⟨OT,fun t p2 ht QR=>by
   by_cases Vh:t=k
   ·rw[Vh,hp]at QR;injection QR with QR;rw[<-QR];exact W
   ·exact Ti t p2 (by dsimp only at ht;omega) QR,PR.tr K.cL,cT.cC RL (Bs.same K F),dS.cC hV2 (Bs.same K (bw w)),k1.rel K F⟩,Sub.gn [] K,by dsimp only;omega⟩
 have OT:k=pv.length:=aU R (by simpa using OT);subst OT;intro GT we re;refine⟨_,rfl,Y.tr re.cL,.inr ⟨_,_,?_,rfl,hX.aAW re F⟩⟩;unfold nm;simp only[hA,hP]
 rw[aI];intro hm;obtain⟨t,ht⟩:=aQ hm;exact Ti t cols (aD.1 ht).1 ht rfl
theorem Kn{u:Value}{cols:Nat}(hC:Old C w)(F:Old S w)(hM:oQ w C S v M)(hb:cS w S u b)(QL:b.length=M.length)(hlen:gh cols M)(Z:cols<=999)(hR:M.length<=1000)(hB:Ef (kF M b) (cols+1) h)(hh:3*h<=90000):
  dx PG F'.jD #[.agg #[v,.int .i64 cols],u] w (eH w fun v' V=>(nm M b cols=none/\v'= .tuple #[.slice none 0 0,.bool false])\/∃x vx,nm M b cols=some x/\v'= .tuple #[vx,.bool true]/\eE V S w.heap.size [(w.heap.size,V.heap.size)] vx cols x):=
 B8 hC F F hM (cS.rc hb) QL hlen Z hR hB hh
def s7(pv:List Nat)(n i:Nat):List Value:=(List.range n).map fun c=>.bool (decide (c∈pv.take i))
theorem Ii(pv:List Nat)(n:Nat):s7 pv n 0=List.replicate n (.bool false):=by
 refine bG fun j=>?_;rw[s7,aM,List.getElem?_replicate];by_cases h:j<n
 ·rw[bZ h,if_pos h];rfl
 ·rw[List.getElem?_eq_none (by simp;omega),aI h];rfl
theorem Co{n i c:Nat}(h:c<n):(s7 pv n i)[c]? =some (.bool (decide (c∈pv.take i))):=by
 rw[s7,aM,bZ h];rfl
theorem Ij{n i p:Nat}(hp:pv[i]? =some p):(s7 pv n i).set p (.bool true)=s7 pv n (i+1):=by
 refine bG fun j=>?_;by_cases hj:j<n
 ·rw[Co hj,List.take_add_one,hp];by_cases hpj:p=j
  ·subst hpj;rw[aO (by simp[s7];exact hj)];simp
  ·rw[aT hpj,Co hj];have:j≠p:=fun e=>hpj e.symm;simp[this]
 ·rw[List.getElem?_eq_none (by simp[s7];omega),List.getElem?_eq_none (by simp[s7];omega)]
theorem eE.at{n:Nat}{cx:Nat}(h:eE w S B iv (.slice ax n cx) n qs)(h0:0<n):∃g,ax=some ⟨g,0,none⟩:=by
 obtain⟨A,I,X,N⟩:=h.row;rcases I.2 with⟨_,h0⟩|⟨g,cap,cur,e,_⟩
 ·omega
 ·injection e with e;exact⟨g,e⟩
set_option maxHeartbeats 2000000 in
theorem Ik{n:Nat}(hC:Old C w)(F:Old S w)(hM:oQ w C S v M)(hlen:gh n M)(hn0:0<n)(Z:n<=1000)(hR:M.length<=1000)(hB:Ef M n h)(hAb:Ht (dh M n).1 h)(hh:3*h<=90000):
  dx PG F'.gJ #[.agg #[v,.int .i64 n]] w (eH w fun v' V=>cT V (Nf w V) v' (k9 M n)):=by
 have Y:=bR w;obtain⟨am,cm,rfl,S3,Rd⟩:=oQ.shape hM;unfold maxLen at Rd;obtain⟨f1,f2,f3,f4,f5⟩:=rY n hlen;refine jZ (by simp) ?_;unfold k9;generalize hA:(dh M n).1=F8 at*
 generalize hP:(dh M n).2.1=pv at*
 refine cB (cG (Id:=fun _ J v V=>∃vr vp vf,v= .agg #[vr,.int .i64 n,vp,vf]/\cT V (Nw S J V) vr F8/\dS V (Nf J V) vp pv/\dS V (Nf J V) vf (dh M n).2.2) (fun O J r=>by
  rw[<-hA,<-hP];obtain⟨rv,m1,m2,m3⟩:=hM
  exact B7 (C:=C) (S:=S) (oS hC r) (oS F r) ⟨rv,m1.cC fun g G=>(Y.tr r.cL).block g (hC g G),m2,fun i u x I X=>cS.cC (m3 i u x I X) fun g G=>(Y.tr r.cL).block g (F g G)⟩ hlen hn0 Z hR (Nat.le_refl _) hB hh) ?_)
 rintro O PQ v1 PE r W Oa ⟨vr,vp,vf,rfl,k1,k2,k3⟩;replace Y:=Y.tr Oa;have hR:=cT.old (cT.cF k1 fun g G=>G.imp (fun h=>(Or.inl h:Cv S w.heap.size [] g)) id) r.bz;have hV:=dS.dD (S:=FF) k2 r.bz (iv:=(PQ.heap.size,PE.heap.size)::[]) aG;have hX:=dS.dD (S:=FF) k3 r.bz (iv:=(PQ.heap.size,PE.heap.size)::[]) aG;generalize (PQ.heap.size,PE.heap.size)::[]=OZ at*
 obtain⟨ar,cr,rfl,Su,hmr⟩:=dG.shape hR;obtain⟨ap,cp,rfl,hcp,hmp⟩:=dS.shape hV;obtain⟨af,cf,rfl,-,-⟩:=dS.shape hX
 refine⟨n,n,rfl,rfl,Nat.le_refl _,by omega,by omega,Nat×World×Iv,fun z=>⟨[(1,pP 0 0),(3,pP 1 0),(4,.o (.s 2 0 n n)),(20,sV ap pv.length cp),(21,iZ pv.length),(22,iN z.1)],[(2,.arr T.bool (s7 pv n z.1)),(1,.box T.dE [.v (.slice ar F8.length cr),.v (.int .i64 n),.v (.slice ap pv.length cp),.v (.slice af (dh M n).2.2.length cf)]),(0,.box T.di [.v (.slice am M.length cm),.v (.int .i64 n)])],3,z.2.2,z.2.1⟩,fun z=>pv.length-z.1,
  fun z=>z.1<=pv.length/\dT w.heap.size w z.2.1/\cT z.2.1 (Cv S w.heap.size z.2.2) (.slice ar F8.length cr) F8/\dS z.2.1 (Cf w z.2.2) (.slice ap pv.length cp) pv,?_,?_⟩
 ·intro O J K;exact⟨(0,J,_),⟨aS _,Y.tr K.cL,cT.rel hR K F,dS.rel hV K (bw w)⟩,Sub.gn [] K ⟨by dsimp only;rw[Ii];rfl,rfl,rfl,trivial⟩⟩
 rintro⟨i,w1,iv⟩ ⟨D,Y,hR,hV⟩;dsimp only at D Y hR hV ⊢;refine dB.mk ?_ ?_<;>intro OQ
 ·have OQ:i<pv.length:=by simpa using OQ
  obtain⟨p,hp⟩:∃p,pv[i]? =some p:=⟨_,aB OQ⟩
  have Qe:=f4 p (aE hp);obtain⟨adp,Qz,kp1,kp2⟩:=hV.at hp;refine⟨adp,Qz,by omega,.int .i64 (p:Int),fun O J r=>?_,?_⟩
  ·rw[aF,cJ (w:=w1) (V:=J) (by rw[c9];exact Rel.same r (bw w) kp1)];exact kp2
  refine⟨by omega,by simp[s7];omega,s7 pv n (i+1),?_,?_⟩
  ·rw[aF,aY,aV,<-Ij hp];exact jt (by simp[s7];omega)
  refine⟨((i+1:Nat):Int),wo,?_⟩;intro IR w3 K;exact⟨(i+1,w3,_),⟨OQ,Y.tr K.cL,cT.rel hR K F,dS.rel hV K (bw w)⟩,Sub.gn [] K,by dsimp only;omega⟩
 have OQ:i=pv.length:=aU D (by simpa using OQ);subst OQ
 refine⟨Nat×List Value×World×Iv,fun z=>⟨[(32,iN z.1),(7,.o (.w 3 z.2.1.length)),(1,pP 0 0),(3,pP 1 0),(4,.o (.s 2 0 n n)),(31,iZ n)],[(2,.arr T.bool (s7 pv n pv.length)),(3,.vec T.jC 1 z.2.1),(1,.box T.dE [.v (.slice ar F8.length cr),.v (.int .i64 n),.v (.slice ap pv.length cp),.v (.slice af (dh M n).2.2.length cf)]),(0,.box T.di [.v (.slice am M.length cm),.v (.int .i64 n)])],4,z.2.2.2,z.2.2.1⟩,fun z=>n-z.1,
  fun z=>z.1<=n/\dT w.heap.size w z.2.2.1/\cT z.2.2.1 (Cv S w.heap.size z.2.2.2) (.slice ar F8.length cr) F8/\dS z.2.2.1 (Cf w z.2.2.2) (.slice ap pv.length cp) pv/\du z.2.2.1 (Cf w z.2.2.2) z.2.1 (eL F8 pv n z.1),?_,?_⟩
 ·intro O J r;exact⟨(0,[],J,_),⟨aS _,Y.tr r.cL,cT.rel hR r F,dS.rel hV r (bw w),by simp[du,eL]⟩,Sub.nil 7 T.jC 1 rfl (by simp[l5,SV.sc,At.sc]) r fun In r1=>Sub.gn [] r1⟩
 rintro⟨c,rv,w1,iv⟩ ⟨hc,Y,hR,hV,hK⟩;dsimp only at hc Y hR hV hK ⊢;have Pm:rv.length=(eL F8 pv n c).length:=hK.1;have Tm:=Ei F8 pv n c;refine dB.mk ?_ ?_<;>intro PB
 ·have PB:c<n:=by simpa using PB
  refine⟨by omega,.bool (decide (c∈pv)),by rw[aF,aY,aV,Co PB,bH],?_⟩;refine dB.mk ?_ ?_<;>intro hm
  ·have hm:c∈pv:=by simpa using hm
   refine⟨((c+1:Nat):Int),wo,?_⟩;intro IR w3 K;exact⟨(c+1,rv,w3,_),⟨PB,Y.tr K.cL,cT.rel hR K F,dS.rel hV K (bw w),by dsimp only;rw[Ej hm];exact hK.rel K (bw w)⟩,Sub.gn [] K,by dsimp only;omega⟩
  have hm:c∉pv:=by simpa using hm
  refine cB (cG (Id:=fun _ J v V=>eE V FF J.heap.size [(J.heap.size,V.heap.size)] v n (List.replicate n 0)) (fun O J r=>zm n J (by omega)) ?_);rintro O QK v2 PT r W Oa Qf;replace Y:=Y.tr Oa;replace hR:=cT.cF (S':=Bs S w.heap.size ((QK.heap.size,PT.heap.size)::iv) v2) (cT.cC (cT.rel hR r F) fun g G=>W.block g (Rel.old r F g G)) fun g G=>Bs.of r F (fun x L=>aC _ L) Qf G;replace hV:=dS.cF (S':=Bs FF w.heap.size ((QK.heap.size,PT.heap.size)::iv) v2) (dS.cC (dS.rel hV r (bw w)) fun g G=>W.block g (Rel.old r (bw w) g G)) fun g G=>Bs.of r (bw w) (fun x L=>aC _ L) Qf G;replace hK:=du.cF (S':=Bs FF w.heap.size ((QK.heap.size,PT.heap.size)::iv) v2) (du.cC (du.rel hK r (bw w)) fun g G=>W.block g (Rel.old r (bw w) g G)) fun g G=>Bs.of r (bw w) (fun x L=>aC _ L) Qf G;have hX:=Qf.dD (S:=FF) r.bz (iv:=(QK.heap.size,PT.heap.size)::iv) aG;generalize (QK.heap.size,PT.heap.size)::iv=OU at*
  obtain⟨ax,cx,rfl,UM⟩:=hX.row.form;obtain⟨gx,rfl⟩:=hX.at hn0;refine cB (cG (Id:=fun _ J v V=>cN V (Nf J V) v ((1:Int):Rat)) (fun O J r=>kK 1 J (by decide) (by decide)) ?_);rintro O PY v3 PX r W Oa Qf;replace Y:=Y.tr Oa;replace hR:=cT.cF (S':=Bs S w.heap.size ((PY.heap.size,PX.heap.size)::OU) (.slice (some ⟨gx,0,none⟩) n cx)) (cT.cC (cT.cC hR (Bs.same r F)) fun g G=>W.block g (Rel.old r F g G.1)) fun g G=>Bs.mono (fun x L=>aC _ L) G;replace hV:=dS.cF (S':=Bs FF w.heap.size ((PY.heap.size,PX.heap.size)::OU) (.slice (some ⟨gx,0,none⟩) n cx)) (dS.cC (dS.cC hV (Bs.same r (bw w))) fun g G=>W.block g (Rel.old r (bw w) g G.1)) fun g G=>Bs.mono (fun x L=>aC _ L) G;replace hK:=du.cF (S':=Bs FF w.heap.size ((PY.heap.size,PX.heap.size)::OU) (.slice (some ⟨gx,0,none⟩) n cx)) (du.cC (du.cC hK (Bs.same r (bw w))) fun g G=>W.block g (Rel.old r (bw w) g G.1)) fun g G=>Bs.mono (fun x L=>aC _ L) G;have hd:=(Qf.cF (S':=Bs FF w.heap.size ((PY.heap.size,PX.heap.size)::OU) (.slice (some ⟨gx,0,none⟩) n cx)) fun g G=>G.elim (fun h=>h.elim) fun h=>⟨.inr ⟨by have:=r.bz;omega,_,_,aG,h.1,h.2⟩,fun e=>by have:=Rel.old r (bw w) g (hX.new g e);omega⟩)
  replace hX:=hX.cD (E:=(PY.heap.size,PX.heap.size)::OU) r (bw w) W fun x L=>aC _ L;generalize (PY.heap.size,PX.heap.size)::OU=Oi at*
  obtain⟨A0,A1,A2,A3,A4,A5,A6,A7,rfl⟩:=hd.shape;refine⟨⟨gx,0,none⟩,rfl,by omega,?_⟩;intro O J r;obtain⟨g,G,I,X,N,h4,h5⟩:=(hX.rel r (bw w)).store (j:=c) PB (hd.cC (Bs.same r (bw w))) r (bw w);injection G with G;injection G with G;subst G;refine⟨I,X,N,fun w5 Rr=>?_⟩;obtain⟨k1,k2,k3⟩:=h5 w5 Rr;have PR:dT w.heap.size w w5:=(Y.tr r.cL).tr (dT.grown k2 (fun g e=>by injection e with e;subst e;exact h4.elim (fun h=>h.elim) fun h=>h.1) r.bz);have RL:=cT.cC hR (Bs.kept r F k2 fun g e=>e);have hV2:=dS.cC hV (Bs.kept r (bw w) k2 fun g e=>e);have Rs:=du.cC hK (Bs.kept r (bw w) k2 fun g e=>e);have Oh:(List.replicate n (0:Rat)).set c ((1:Int):Rat)=fq F8 pv n c 0:=rfl;rw[Oh]at k1
  refine⟨Nat×World×Iv,fun z=>⟨[(49,iN z.1),(8,iN c),(9,.o (.v (.slice (some ⟨gx,0,none⟩) n cx))),(32,iN c),(47,sV ap pv.length cp),(48,iZ pv.length),(7,.o (.w 3 rv.length)),(1,pP 0 0),(3,pP 1 0),(4,.o (.s 2 0 n n)),(31,iZ n)],[(2,.arr T.bool (s7 pv n pv.length)),(3,.vec T.jC 1 rv),(1,.box T.dE [.v (.slice ar F8.length cr),.v (.int .i64 n),.v (.slice ap pv.length cp),.v (.slice af (dh M n).2.2.length cf)]),(0,.box T.di [.v (.slice am M.length cm),.v (.int .i64 n)])],4,z.2.2,z.2.1⟩,fun z=>pv.length-z.1,
   fun z=>z.1<=pv.length/\dT w.heap.size w z.2.1/\cT z.2.1 (Bs S w.heap.size z.2.2 (.slice (some ⟨gx,0,none⟩) n cx)) (.slice ar F8.length cr) F8/\dS z.2.1 (Bs FF w.heap.size z.2.2 (.slice (some ⟨gx,0,none⟩) n cx)) (.slice ap pv.length cp) pv/\du z.2.1 (Bs FF w.heap.size z.2.2 (.slice (some ⟨gx,0,none⟩) n cx)) rv (eL F8 pv n c)/\eE z.2.1 FF w.heap.size z.2.2 (.slice (some ⟨gx,0,none⟩) n cx) n (fq F8 pv n c z.1),?_,?_⟩
  ·intro O J K;exact⟨(0,J,_),⟨aS _,PR.tr K.cL,cT.cC RL (Bs.same K F),dS.cC hV2 (Bs.same K (bw w)),du.cC Rs (Bs.same K (bw w)),k1.rel K (bw w)⟩,Sub.gn [] K⟩
  rintro⟨k,w3,iv⟩ ⟨R,Y,hR,hV,hK,hX⟩;dsimp only at R Y hR hV hK hX ⊢;refine dB.mk ?_ ?_<;>intro OT
  ·have OT:k<pv.length:=by simpa using OT
   obtain⟨p,hp⟩:∃p,pv[k]? =some p:=⟨_,aB OT⟩
   have Qe:=f4 p (aE hp);obtain⟨adp,Qz,kp1,kp2⟩:=hV.at hp;obtain⟨x,L⟩:∃x,F8[k]? =some x:=⟨_,aB (by omega)⟩
   have QC:=f3 x (aE L);obtain⟨q,hq⟩:∃q,x[c]? =some q:=⟨_,aB (by omega)⟩
   have Q4:cW F8 k c=q:=by simp[cW,List.getD,L,hq]
   have SB:=hAb x (aE L) q (aE hq);obtain⟨adm,um,Ux,Qc,km1,km2⟩:=dG.load hR L;obtain⟨a0,c0,rfl,hc0,-⟩:=eD.shape Qc;obtain⟨adq,U,haq,hF,_,hl⟩:=eD.load Qc hq;obtain⟨g0,g1,g2,g3,g4,g5,g6,g7,rfl,hF⟩:=hF;refine⟨adp,Qz,by omega,.int .i64 (p:Int),fun O J r=>?_,?_⟩
   ·rw[aF,cJ (w:=w3) (V:=J) (by rw[c9];exact Rel.same r (bw w) kp1.1)];exact kp2
   refine⟨adm,Ux,by omega,.slice a0 x.length c0,fun O J r=>?_,?_⟩
   ·rw[aF,cJ (w:=w3) (V:=J) (by rw[c9];exact Rel.same r F km1.1)];exact km2
   refine⟨adq,haq,by omega,[.bool g0,.slice g1 g2 g3,.bool g4,.slice g5 g6 g7],rfl,fun O J r j u hu=>?_,?_⟩
   ·obtain⟨k1,k2⟩:=hl j u hu;rw[aF,cJ (w:=w3) (V:=J) (by rw[c9,c9];exact Rel.same r F k1.1)];exact k2
   refine cB (cG (Id:=fun _ J v V=>cN V (Nf J V) v (-q)) (fun O J r=>vU (S:=Bs S w.heap.size iv (.slice (some ⟨gx,0,none⟩) n cx)) (fun g G=>Rel.old r F g G.1) ((hF.cC (Bs.same r F)).l (by omega))) ?_);rintro O Qw v4 Q9 r W Oa Qf;replace Y:=Y.tr Oa;replace hR:=cT.cF (S':=Bs S w.heap.size ((Qw.heap.size,Q9.heap.size)::iv) (.slice (some ⟨gx,0,none⟩) n cx)) (cT.cC (cT.cC hR (Bs.same r F)) fun g G=>W.block g (Rel.old r F g G.1)) fun g G=>Bs.mono (fun x L=>aC _ L) G;replace hV:=dS.cF (S':=Bs FF w.heap.size ((Qw.heap.size,Q9.heap.size)::iv) (.slice (some ⟨gx,0,none⟩) n cx)) (dS.cC (dS.cC hV (Bs.same r (bw w))) fun g G=>W.block g (Rel.old r (bw w) g G.1)) fun g G=>Bs.mono (fun x L=>aC _ L) G;replace hK:=du.cF (S':=Bs FF w.heap.size ((Qw.heap.size,Q9.heap.size)::iv) (.slice (some ⟨gx,0,none⟩) n cx)) (du.cC (du.cC hK (Bs.same r (bw w))) fun g G=>W.block g (Rel.old r (bw w) g G.1)) fun g G=>Bs.mono (fun x L=>aC _ L) G;have hd:=(Qf.cF (S':=Bs FF w.heap.size ((Qw.heap.size,Q9.heap.size)::iv) (.slice (some ⟨gx,0,none⟩) n cx)) fun g G=>G.elim (fun h=>h.elim) fun h=>⟨.inr ⟨by have:=r.bz;omega,_,_,aG,h.1,h.2⟩,fun e=>by have:=Rel.old r (bw w) g (hX.new g e);omega⟩)
   replace hX:=hX.cD (E:=(Qw.heap.size,Q9.heap.size)::iv) r (bw w) W fun x L=>aC _ L;generalize (Qw.heap.size,Q9.heap.size)::iv=Ow at*
   obtain⟨C0,C1,C2,C3,C4,C5,C6,C7,rfl⟩:=hd.shape;refine⟨⟨gx,0,none⟩,rfl,by omega,?_⟩;intro O J r;obtain⟨g,G,I,X,N,h4,h5⟩:=(hX.rel r (bw w)).store (j:=p) (by omega) (hd.cC (Bs.same r (bw w))) r (bw w);injection G with G;injection G with G;subst G;refine⟨I,X,N,fun w5 Rr=>?_⟩;obtain⟨k1,k2,k3⟩:=h5 w5 Rr;have PR:dT w.heap.size w w5:=(Y.tr r.cL).tr (dT.grown k2 (fun g e=>by injection e with e;subst e;exact h4.elim (fun h=>h.elim) fun h=>h.1) r.bz);have RL:=cT.cC hR (Bs.kept r F k2 fun g e=>e);have hV2:=dS.cC hV (Bs.kept r (bw w) k2 fun g e=>e);have Rs:=du.cC hK (Bs.kept r (bw w) k2 fun g e=>e);have Oh:(fq F8 pv n c k).set p (-q)=fq F8 pv n c (k+1):=by rw[gl,Q4,List.getD,hp];rfl
   rw[Oh]at k1;refine⟨((k+1:Nat):Int),wo,?_⟩;intro IR w6 K;exact⟨(k+1,w6,_),⟨OT,PR.tr K.cL,cT.cC RL (Bs.same K F),dS.cC hV2 (Bs.same K (bw w)),du.cC Rs (Bs.same K (bw w)),k1.rel K (bw w)⟩,Sub.gn [] K,by dsimp only;omega⟩
  have OT:k=pv.length:=aU R (by simpa using OT);rw[OT]at hX;replace hR:=cT.cF hR fun g G=>G.1;replace hV:=dS.cF hV fun g G=>G.1;replace hK:=(du.cF hK fun g G=>G.1).push (u:=(.slice (some ⟨gx,0,none⟩) n cx)) (x:=fq F8 pv n c pv.length) rfl (by have:=hX.c;exact this);rw[<-Cp hm]at hK;refine .inl ?_;refine⟨by simp,by omega,by unfold maxLen;omega,((c+1:Nat):Int),wo,?_⟩;intro IR w3 K;exact⟨(c+1,rv++[(.slice (some ⟨gx,0,none⟩) n cx)],w3,_),⟨PB,Y.tr K.cL,cT.rel hR K F,dS.rel hV K (bw w),hK.rel K (bw w)⟩,Sub.gn [(3,5)] K (hE:=⟨rfl,by dsimp only;rw[List.length_append,List.length_singleton];rfl,rfl,rfl,rfl,rfl,trivial⟩),by dsimp only;omega⟩
 have PB:c=n:=aU hc (by simpa using PB);subst PB;intro GT we re;refine⟨_,rfl,Y.tr re.cL,rv,?_,hK.1,fun i u x k1 k2=>cS.cF (cS.rel (hK.2.2 i u x k1 k2) re (bw w)) fun g G=>Cv.nw G re⟩;rw[<-hK.1];exact(re.kQ (id:=3) (sz:=1) (m:=rv.length) rfl (by simp) (by unfold maxLen;omega) (by decide) hK.2.1).cF fun g G=>.inr G
structure jJ(w:World)(S:Nat->Prop)(B:Nat)(iv:Iv)(v:Value)(n i:Nat)(qs:List Rat):Prop where
 row:∃A,w.ownsRow 0 T.Rat 4 v n A.flatten/\fz w (Bs S B iv v) n i A qs
 new:∀g,v.ownBlock=some g->Cv FF B iv g
section
variable{S S':Nat->Prop}{H:Hp}{nx n i:Nat}{iv E:Iv}{B:Nat}{w J V:World}{O:Nat->Sx.dL}{v:Value}{qs:List Rat}
theorem jJ.cC(h:jJ w S B iv v n i qs)(R:∀g,Cv S B iv g->V.heap[g]? =w.heap[g]?):jJ V S B iv v n i qs:=by
 obtain⟨⟨A,I,X⟩,N⟩:=h;exact⟨⟨A,ownsRow.cC I fun g G=>R g (Cg (N g G)),X.cC fun g G=>R g G.1⟩,N⟩
theorem jJ.rel(h:jJ w S B iv v n i qs)(r:Rel H nx iv B w O J)(F:∀g,S g->g<B):jJ J S B iv v n i qs:=h.cC fun _ G=>Rel.same r F G
theorem jJ.mono(h:jJ w S B iv v n i qs)(hm:∀p,p∈iv->p∈E):jJ w S B E v n i qs:=by
 obtain⟨⟨A,I,X⟩,N⟩:=h;exact⟨⟨A,I,X.cF fun g G=>G.mono hm⟩,fun g G=>(N g G).mono hm⟩
theorem jJ.cD(h:jJ w S B iv v n i qs)(r:Rel H nx iv B w O J)(F:∀g,S g->g<B)(W:Ext J V)(hm:∀p,p∈iv->p∈E):jJ V S B E v n i qs:=
 ((h.rel r F).cC fun g G=>W.block g (Rel.old r F g G)).mono hm
theorem jJ.rK(r:Rel H nx iv B w O J)(h:cV H id=some (.arr T.Rat (List.replicate n [Value.bool false,.slice none 0 0,.bool false,.slice none 0 0]).flatten))(Z:n<=maxLen)(qs:List Rat):
  jJ J S B (((O id).g,(O id).g+1)::iv) (.slice (some ⟨(O id).g,0,none⟩) n n) n 0 qs:=by
 have Oe:=(r.fits h).1;have h4:∀U∈List.replicate n [Value.bool false,.slice none 0 0,.bool false,.slice none 0 0],U.length=4:=fun U hc=>by rw[b9 hc];rfl
 have hf:=eo h4;rw[bN]at hf;refine⟨⟨List.replicate n [.bool false,.slice none 0 0,.bool false,.slice none 0 0],⟨hf,.inr ⟨(O id).g,n,_,rfl,aS _,r.arr id _ _ h,Nat.le_refl _,Z,by simp,by rw[<-hf];exact bH⟩⟩,fz.start J _ n qs⟩,fun g G=>?_⟩;injection G with G;have G:(O id).g=g:=G;subst G;exact .inr ⟨(r.low id _ h Oe).1,_,_,aG,Nat.le_refl _,bV _⟩
theorem jJ.store{a1 a2:Option Addr}{c j n1 c1 n2 c2:Nat}{b b2:Bool}(h:jJ w S B iv (.slice a n c) n j qs)(hj:j<n)(hq:qs[j]? =some q)(hf:cN w (Bs S B iv (.slice a n c)) (.agg #[.bool b,.slice a1 n1 c1,.bool b2,.slice a2 n2 c2]) q)
  (r:Rel H nx iv B w O J) (F:∀g,S g->g<B):
  ∃g,a=some ⟨g,0,none⟩/\((⟨g,0,none⟩:Addr).add ((j:Int).toNat*4)).spot=none/\
   (∀k,k<4->(J.cell? (((⟨g,0,none⟩:Addr).add ((j:Int).toNat*4)).add k)).isSome=true/\J.frozen? (((⟨g,0,none⟩:Addr).add ((j:Int).toNat*4)).add k)=false)/\
   (∀id b,cV H id=some b->(O id).nil=false->(O id).g≠((⟨g,0,none⟩:Addr).add ((j:Int).toNat*4)).block)/\
   ∀V,V=setCells J ((⟨g,0,none⟩:Addr).add ((j:Int).toNat*4)) [.bool b,.slice a1 n1 c1,.bool b2,.slice a2 n2 c2]->jJ V S B iv (.slice a n c) n (j+1) qs/\J.grownBy V (some g)/\dT B J V/\Rel H nx iv B V O V:=by
 obtain⟨⟨A,I,X⟩,N⟩:=h.rel r F;have hf:=hf.cC (Bs.same r F);obtain⟨g,rfl,OV,QA,Oc,Oj⟩:=kA (nv:=[.bool b,.slice a1 n1 c1,.bool b2,.slice a2 n2 c2]) I rfl hj rfl (by decide);have Om:(⟨g,0,none⟩:Addr).add ((j:Int).toNat*4)=⟨g,j*4,none⟩:=by rw[aF,dA,aV]
 have Px:=Rel.not r (eI B) (N g rfl);refine⟨g,rfl,by rw[Om],fun k R=>by rw[Om];exact OV k R,fun id b hb Z=>by rw[Om];exact Px id b hb Z,fun V PR=>?_⟩;rw[Om]at PR;subst PR;have Si:=jI (U:=[.bool b,.slice a1 n1 c1,.bool b2,.slice a2 n2 c2]) X.four (show j<A.length by rw[X.len];exact hj);rw[Si]at QA;have Pe:∀x,Bs S B iv (.slice (some ⟨g,0,none⟩) n c) x->(setCells J ⟨g,j*4,none⟩ [.bool b,.slice a1 n1 c1,.bool b2,.slice a2 n2 c2]).heap[x]? =J.heap[x]? :=fun x L=>
  Oc.block x (Rel.old r F x L.1) fun e=>L.2 e.symm
 refine⟨⟨⟨_,QA,(X.cC Pe).next hj hq (hf.cC Pe)⟩,N⟩,Oc,dT.grown Oc (fun x e=>by injection e with e;subst e;exact(N g rfl).elim (fun h=>h.elim) fun h=>h.1) r.bz,r.yH Px Oc⟩
theorem jJ.done(h:jJ w S B iv v n n qs)(hl:qs.length=n):eE w S B iv v n qs:=by
 obtain⟨⟨A,I,X⟩,N⟩:=h;exact⟨⟨A,I,X.len,by rw[X.len,hl],fun j U q k1 k2=>X.at_ j U q (by rw[<-hl];exact(aD.1 k2).1) k1 k2⟩,N⟩
end
end Go.Ex
namespace Go.Ex
variable{F8 M:List (List Rat)}{pv:List Nat}{B j:Nat}{v:Nat->Rat}
theorem BR(f:Nat->Rat):∀n,cQ f n=jm (List.range n) f
 |0=>rfl
 |n+1=>by
  rw[cQ,BR f n,bW,wA];show _=_+(_+0)
  rw[bD]
theorem BS(g:Nat->Rat):∀l:List Nat,jm l g=cQ (fun k=>g (l.getD k 0)) l.length
 |[]=>rfl
 |t::l=>by
  rw[List.length_cons,jQ];show g t+jm l g=g t+_;rw[BS g l];rfl
def mulR(M:List (List Rat))(n:Nat)(x:Nat->Rat)(j:Nat):Rat:=cQ (fun t=>cW M j t*x t) n
theorem dq.dot{Fd:Mx}{r n:Nat}(h:dq Fd r n v):∃c:Nat->Rat,(∀t,t<n->v t=cQ (fun i=>c i*Fd i t) r)/\∀x:Nat->Rat,cQ (fun t=>v t*x t) n=cQ (fun i=>c i*cQ (fun t=>Fd i t*x t) n) r:=by
 obtain⟨c,hc⟩:=h;refine⟨c,hc,fun x=>?_⟩;rw[cH (g:=fun t=>cQ (fun i=>c i*Fd i t*x t) r) fun t ht=>by rw[hc t ht,<-km],mx];exact cH fun i _=>by rw[<-dY];exact cH fun t _=>Rat.mul_assoc _ _ _
section
variable{M:List (List Rat)}{n:Nat}{x:Nat->Rat}{b:List Rat}
theorem Jv(hM:gh n M)(h:∀j,j<M.length->mulR M n x j=0){c:Nat}(hc:c<=n):∀i,i<M.length->mulR (cK M c).1 n x i=0:=fun i D=>by
 obtain⟨c,_,X⟩:=((lC hM c hc).1 i D).dot;unfold mulR;rw[X x,cH (g:=fun _=>0) fun j hj=>by rw[show cQ (fun t=>cW M j t*x t) n=0 from h j hj,az],dU]
theorem Dx(hM:gh n M){c:Nat}(hc:c<=n)(h:∀i,i<M.length->mulR (cK M c).1 n x i=0):∀j,j<M.length->mulR M n x j=0:=fun j hj=>by
 obtain⟨c,_,X⟩:=((lC hM c hc).2 j hj).dot;unfold mulR;rw[X x,cH (g:=fun _=>0) fun i D=>by rw[show cQ (fun t=>cW (cK M _).1 i t*x t) n=0 from h i D,az],dU]
theorem my(hM:gh n M){t:Nat}(hj:j<M.length):(t<n->cW (dX M b) j t=cW M j t)/\cW (dX M b) j n=b.getD j 0:=by
 have hr:=aB hj;have hl:(M[j]).length=n:=hM _ (aX hj);have e:(dX M b).getD j []=M[j]++[b.getD j 0]:=by rw[dX,List.getD,List.getElem?_mapIdx,hr];rfl
 have e2:M.getD j []=M[j]:=by rw[List.getD,hr];rfl
 refine⟨fun ht=>?_,?_⟩
 ·rw[cW,cW,e,e2,List.getD,aJ (by omega),<-List.getD]
 ·rw[cW,e,List.getD,aN (by omega),hl,bB];rfl
def Dy(x:Nat->Rat)(n t:Nat):Rat:=if t<n then x t else -1
theorem Fq(hM:gh n M)(hj:j<M.length):mulR (dX M b) (n+1) (Dy x n) j=mulR M n x j-b.getD j 0:=by
 have h:=fun t=>my (b:=b) (t:=t) hM hj;unfold mulR;rw[cQ,(h 0).2,show Dy x n n= -1 by unfold Dy;rw[aI (Nat.lt_irrefl n)],cH (g:=fun t=>cW M j t*x t) fun t ht=>by rw[(h t).1 ht];unfold Dy;rw[if_pos ht]];grind
def jG(M:List (List Rat))(b:List Rat)(n:Nat):Option (List Rat):=
 let e:=cK (dX M b) n
 if ∀j,j<M.length->e.2.length<=j->cW e.1 j n=0 then some (gW e.1 e.2 n e.2.length)else none
theorem sK{x:List Rat}(hM:gh n M)(h:jG M b n=some x):x.length=n/\∀j,j<M.length->mulR M n (fun t=>x.getD t 0) j=b.getD j 0:=by
 unfold jG at h;dsimp only at h;split at h
 ·rename_i h0;injection h with h;have hW:=jP (b:=b) hM;obtain⟨r1,r2,K,r4,r5⟩:=eK hW n (Nat.le_succ n);have Qe:=iq (dX M b) n;have WY:=fP (M:=M) (b:=b);have hl:=fp (dX M b) n;have QC:x.length=n:=by rw[<-h,jv]
  have RA:∀j,j<(cK (dX M b) n).2.length->x.getD ((cK (dX M b) n).2.getD j 0) 0=cW (cK (dX M b) n).1 j n:=fun j hj=>by
   rw[<-h];exact nd (D':=gW (cK (dX M b) n).1 (cK (dX M b) n).2 n) (f:=fun i=>cW (cK (dX M b) n).1 i n) (fun i=>gp _ _ n i) (jv _ _ n) Qe.2.1 r4 _ (Nat.le_refl _) hj
  have PL:∀t,t∉(cK (dX M b) n).2->x.getD t 0=0:=fun t ht=>by rw[<-h];exact tG ht
  refine⟨QC,fun j hj=>?_⟩;have key:=Dx (M:=dX M b) (x:=Dy (fun t=>x.getD t 0) n) hW (c:=n) (Nat.le_succ n) (fun i D=>?_) j (by rw[WY];exact hj)
  ·rw[Fq hM hj]at key;grind
  ·unfold mulR;rw[cQ,show Dy (fun t=>x.getD t 0) n n= -1 by unfold Dy;rw[aI (Nat.lt_irrefl n)],cH (g:=fun t=>cW (cK (dX M b) n).1 i t*x.getD t 0) fun t ht=>by unfold Dy;rw[if_pos ht]];rcases aP i (cK (dX M b) n).2.length with I|I
   ·rw[fY (i:=(cK (dX M b) n).2.getD i 0) (r4 _ (by rw[List.getD,aB I];exact aX _)) fun t ht OS=>?_,r5 i i I (by omega),if_pos rfl,RA i I]
    ·grind
    ·by_cases hp:t∈(cK (dX M b) n).2
     ·obtain⟨k,R,rfl⟩:=sD hp;rw[r5 k i R (by omega),aI (fun e=>OS (by rw[e])),bC]
     ·rw[PL t hp,az]
   ·rw[cH (g:=fun _=>0) fun t ht=>by rw[K i t I (by omega) ht,bC],dU,h0 i (by rw[<-WY];exact D) I];grind
 ·cases h
theorem yi(hM:gh n M)(h:jG M b n=none):∃y:Nat->Rat,(∀t,t<n->cQ (fun j=>y j*cW M j t) M.length=0)/\cQ (fun j=>y j*b.getD j 0) M.length≠0:=by
 unfold jG at h;dsimp only at h;split at h
 ·cases h
 ·rename_i h0;obtain⟨i,D,I,X⟩:∃i,i<M.length/\(cK (dX M b) n).2.length<=i/\cW (cK (dX M b) n).1 i n≠0:=by
   refine Decidable.byContradiction fun Rx=>h0 fun j hj hr=>Decidable.byContradiction fun X=>Rx ⟨j,hj,hr,X⟩
  have hW:=jP (b:=b) hM;have WY:=fP (M:=M) (b:=b);have hl:=fp (dX M b) n;obtain⟨r1,r2,K,r4,r5⟩:=eK hW n (Nat.le_succ n);obtain⟨y,hy⟩:=(lC hW n (Nat.le_succ n)).1 i (by omega);rw[WY]at hy;refine⟨y,fun t ht=>?_,?_⟩
  ·have N:=hy t (by omega);rw[K i t I (by omega) ht]at N;rw[N];exact cH fun j hj=>by rw[(my (b:=b) hM hj).1 ht]
  ·have N:=hy n (by omega);rw[cH (g:=fun j=>y j*b.getD j 0) fun j hj=>by rw[(my (b:=b) (t:=n) hM hj).2]]at N;rw[<-N];exact X
theorem IV{x:Nat->Rat}(hM:gh n M)(h:∀j,j<M.length->mulR M n x j=b.getD j 0):∃z,jG M b n=some z:=by
 cases e:jG M b n with
 |some z=>exact⟨z,rfl⟩
 |none=>
  obtain⟨y,I,X⟩:=yi hM e;refine absurd ?_ X;rw[cH fun j hj=>by rw[<-h j hj,mulR,<-dY],mx,cH (g:=fun _=>0) fun t ht=>?_,dU];rw[cH (g:=fun j=>y j*cW M j t*x t) fun j _=>(Rat.mul_assoc _ _ _).symm,km,I t ht,bC]
theorem Jw(M:List (List Rat))(n:Nat)(x y:Nat->Rat)(j:Nat):mulR M n (fun t=>x t-y t) j=mulR M n x j-mulR M n y j:=by
 unfold mulR;rw[<-tJ];exact cH fun t _=>by grind
theorem tP(M:List (List Rat))(b:List Rat):kF M b=dX M b:=rfl
theorem Dz{r i t:Nat}(h:i<r):cW (F8.take r) i t=cW F8 i t:=by
 rw[cW,cW,show(F8.take r).getD i []=F8.getD i [] by rw[List.getD,bO h,<-List.getD]]
theorem wF(F8:List (List Rat))(pv:List Nat)(n:Nat):∀k,k<=pv.length->gW (F8.take pv.length) pv n k=gW F8 pv n k
 |0,_=>rfl
 |k+1,h=>by rw[gp,gp,wF F8 pv n k (by omega),Dz (by omega)]
theorem wG(F8:List (List Rat))(pv:List Nat)(n c:Nat):∀k,k<=pv.length->fq (F8.take pv.length) pv n c k=fq F8 pv n c k
 |0,_=>rfl
 |k+1,h=>by rw[gl,gl,wG F8 pv n c k (by omega),Dz (by omega)]
abbrev cR(M:List (List Rat))(n:Nat):List (List Rat):=eL (cK M n).1 (cK M n).2 n n
theorem Fs(hM:gh n M)(hW:Dw M n B):k9 M n=cR M n:=by
 obtain⟨e1,e2⟩:=sJ hM hW;unfold k9 cR eL;rw[e1,e2];exact List.map_congr_left fun c _=>wG _ _ n c _ (Nat.le_refl _)
theorem BT(hM:gh n M)(hW:Dw (dX M b) (n+1) B):nm M b n=jG M b n:=by
 have hWl:=jP (b:=b) hM;obtain⟨e1,e2⟩:=sJ hWl hW;have hl:=fp (dX M b) n;have WY:=fP (M:=M) (b:=b);obtain⟨r1,r2,K,r4,r5⟩:=eK hWl n (Nat.le_succ n);have e:cK (dX M b) (n+1)=dg (cK (dX M b) n) n:=by
  unfold cK;rw[bW,List.foldl_append];rfl
 unfold nm jG;dsimp only
 rcases kE n r2 with⟨k1,k2⟩|⟨k,k1,k2,k3,k4⟩
 ·rw[aI (by rw[tP,e1,e,k1];exact fun h=>by have:=r4 n h;omega),if_pos fun j hj hr=>k2 j hr (by omega),tP,e1,e2,e,k1,wF _ _ n _ (Nat.le_refl _)]
 ·rw[if_pos (by rw[tP,e1,e,k4];simp),aI fun h=>k3 (h k (by omega) k1)]
theorem Jx(hM:gh n M){x:List Rat}(h:∀j,j<M.length->mulR M n (fun t=>x.getD t 0) j=0):Diff (cK M n).1 (cK M n).2 n x:=by
 obtain⟨r1,r2,K,r4,r5⟩:=eK hM n (Nat.le_refl _);have Qe:=iq M n;have hl:=fp M n;refine⟨Qe.2.1,r4,r2,r5,fun j hj=>?_⟩;rw[<-BR];have I:=Jv hM h (Nat.le_refl n) j (by omega);unfold mulR at I;rw[I,cW,List.getD,List.getElem?_eq_none (by rw[r1.getD hj];exact Nat.le_refl _)];rfl
theorem mz(M:List (List Rat))(n:Nat):(cR M n).length=(iz (cK M n).2 n).length:=by unfold cR eL;rw[aL]
theorem yj(M:List (List Rat))(n:Nat){k:Nat}(R:k<(cR M n).length):(cR M n).getD k []=fq (cK M n).1 (cK M n).2 n ((iz (cK M n).2 n).getD k 0) (cK M n).2.length:=by
 obtain⟨r,hr⟩:∃r,(cR M n)[k]? =some r:=⟨_,aB R⟩
 rw[List.getD,hr];exact(nf hr).2
theorem np(M:List (List Rat))(n:Nat):gh n (cR M n):=fun r hr=>by
 obtain⟨k,R⟩:=aQ hr;rw[(nf R).2,ju]
theorem EA(hM:gh n M){k:Nat}(R:k<(cR M n).length):∀j,j<M.length->mulR M n (cW (cR M n) k) j=0:=by
 obtain⟨r1,r2,K,r4,r5⟩:=eK hM n (Nat.le_refl _);have Qe:=iq M n;have hl:=fp M n;have hf:=kx.1 (pK (by rw[<-mz];exact R));refine Dx hM (Nat.le_refl n) fun i D=>?_;have OR:=yj M n R;generalize hc:(iz (cK M n).2 n).getD k 0=c at hf OR;have RA:∀j,j<(cK M n).2.length->cW (cR M n) k ((cK M n).2.getD j 0)= -(cW (cK M n).1 j c):=fun j hj=>by
  rw[cW,OR];exact nd (D':=fq (cK M n).1 (cK M n).2 n c) (f:=fun i=> -(cW (cK M n).1 i c)) (fun i=>gl _ _ n c i) (ju _ _ n c) Qe.2.1 r4 _ (Nat.le_refl _) hj
 have PL:∀t,t∉(cK M n).2->cW (cR M n) k t=if t=c then 1 else 0:=fun t ht=>by rw[cW,OR];exact pJ ht hf.1
 unfold mulR;rcases aP i (cK M n).2.length with I|I
 ·have hpi:(cK M n).2.getD i 0∈(cK M n).2:=by rw[List.getD,aB I];exact aX _
  have OS:(cK M n).2.getD i 0≠c:=fun e=>hf.2 (e▸hpi);have e:cQ (fun t=>cW (cK M n).1 i t*cW (cR M n) k t) n=cQ (fun t=>(if t=(cK M n).2.getD i 0 then -(cW (cK M n).1 i c)else 0)+(if t=c then cW (cK M n).1 i c else 0)) n:=by
   refine cH fun t ht=>?_;by_cases hp:t∈(cK M n).2
   ·obtain⟨j,hj,rfl⟩:=sD hp;rw[RA j hj,r5 j i hj (by omega),aI (show ¬(cK M n).2.getD j 0=c from fun e=>hf.2 (e▸hp)),bD];by_cases PH:i=j
    ·rw[if_pos PH,if_pos (by rw[PH]),PH,bm]
    ·have hne2:(cK M n).2.getD j 0≠(cK M n).2.getD i 0:=fun e2=>PH (by
      rcases bp i j with h5|h5|h5
      ·have:(cK M n).2.getD i 0<(cK M n).2.getD j 0:=Jf Qe.2.1 h5 hj;omega
      ·exact h5
      ·have:(cK M n).2.getD j 0<(cK M n).2.getD i 0:=Jf Qe.2.1 h5 I
       omega)
     rw[aI PH,aI hne2,bC]
   ·rw[PL t hp,aI (show ¬t=(cK M n).2.getD i 0 from fun e2=>hp (e2▸hpi)),Rat.zero_add];by_cases htc:t=c
    ·rw[if_pos htc,if_pos htc,htc,Rat.mul_one]
    ·rw[aI htc,aI htc,az]
  rw[e,fK,fY (i:=(cK M n).2.getD i 0) (r4 _ hpi) fun t _ OS=>aI OS,fY (i:=c) hf.1 fun t _ OS=>aI OS,if_pos rfl,if_pos rfl];grind
 ·rw[cH (g:=fun _=>0) fun t ht=>by rw[K i t I (by omega) ht,bC],dU]
theorem Lx(hM:gh n M)(h:∀j,j<M.length->mulR M n x j=0):∃c:Nat->Rat,∀t,t<n->x t=cQ (fun k=>c k*cW (cR M n) k t) (cR M n).length:=by
 obtain⟨l,hl⟩:∃l,l=(List.range n).map x:=⟨_,rfl⟩
 have L:∀t,t<n->l.getD t 0=x t:=fun t ht=>by rw[hl,List.getD,aM,bZ ht];rfl
 have hd:=Jx (x:=l) hM fun j hj=>Eq.trans (cH fun t ht=>congrArg (cW M j t* ·) (L t ht)) (h j hj);refine⟨fun k=>l.getD ((iz (cK M n).2 n).getD k 0) 0,fun t ht=>?_⟩;have I:=hd.rest ht;obtain⟨r1,r2,K,r4,r5⟩:=eK hM n (Nat.le_refl _);have h0:(gW (cK M n).1 (cK M n).2 n (cK M n).2.length).getD t 0=0:=by
  by_cases hp:t∈(cK M n).2
  ·obtain⟨j,hj,rfl⟩:=sD hp;rw[hd.xin hj,cW,List.getD,List.getElem?_eq_none (by rw[r1.getD (by omega)];exact Nat.le_refl _)];rfl
  ·exact tG hp
 rw[h0,bC,bD,L t ht,BS]at I;rw[I,mz];exact cH fun k R=>by rw[cW,yj M n (by rw[mz];exact R)]
theorem Ly{c:Nat->Rat}(h:∀t,t<n->cQ (fun k=>c k*cW (cR M n) k t) (cR M n).length=0):∀k,k<(cR M n).length->c k=0:=fun k R=>by
 have UX:k<(iz (cK M n).2 n).length:=by rw[<-mz];exact R
 have hf:=kx.1 (pK UX);have I:=h _ hf.1;obtain⟨r,hr⟩:∃r,(cR M n)[k]? =some r:=⟨_,aB R⟩
 rw[fY R fun i D OS=>?_]at I
 ·rw[cW,show(cR M n).getD k []=r by rw[List.getD,hr];rfl,yW hr hr,if_pos rfl,Rat.mul_one]at I;exact I
 ·obtain⟨s,hs⟩:∃s,(cR M n)[i]? =some s:=⟨_,aB D⟩
  rw[cW,show(cR M n).getD i []=s by rw[List.getD,hs];rfl,yW hr hs,aI OS,az]
end
theorem yl(p:Nat->Bool):∀l:List Nat,l.length=(l.filter p).length+(l.filter fun c=> !p c).length
 |[]=>rfl
 |c::l=>by
  have ih:=yl p l;rw[List.filter_cons,List.filter_cons]
  cases p c with
  |true=>simp;omega
  |false=>simp;omega
theorem Jy{n:Nat}(Z:pv.Nodup)(hl:∀p∈pv,p<n):(iz pv n).length=n-pv.length:=by
 have I:(List.range n).length=((List.range n).filter fun c=>decide (c∉pv)).length+((List.range n).filter fun c=>decide (c∈pv)).length:=by
  refine(yl (fun c=>decide (c∉pv)) (List.range n)).trans ?_;congr 2;refine List.filter_congr fun c _=>?_;by_cases h:c∈pv<;>simp[h]
 have X:((List.range n).filter fun c=>decide (c∈pv)).length=pv.length:=by
  refine(List.Perm.length_eq ?_);refine(List.perm_ext_iff_of_nodup (List.Pairwise.filter _ List.nodup_range) Z).2 fun c=>?_;rw[List.mem_filter,List.mem_range,decide_eq_true_eq];exact⟨fun h=>h.2,fun h=>⟨hl c h,h⟩⟩
 rw[List.length_range]at I;unfold iz;omega
theorem Ft{n:Nat}(hM:gh n M):(cR M n).length=n-(cK M n).2.length:=by
 obtain⟨r1,r2,K,r4,r5⟩:=eK hM n (Nat.le_refl _);have Qe:=iq M n;rw[mz];exact Jy (Qe.2.1.imp fun h=>Nat.ne_of_lt h) r4
end Go.Ex
namespace Go.Ex
open Go Go.Sx Go.Proofs
variable{after:Array Edge}{z:Int}{p:Int×Int×Rat}{M:List (List Rat)}{A:List (List Value)}{l:List Int}{U:List Value}{j:Nat}{C S S':Nat->Prop}{guard:Option (Nat×Bool)}{a:Option Addr}{dst:Option Tmp}{Fn:SV->Hp->Nat->Iv->World->Prop}{v:Value}{w V:World}{f:ed}
theorem cT.nil:cT w S (.slice none 0 0) []:=⟨[],⟨by decide,rfl,fun u hu=>absurd hu (by simp),none,0,rfl,Nat.le_refl _,fun j u hu=>absurd hu (by simp)⟩,rfl,fun i u x I X=>absurd X (by simp)⟩
theorem Cz(M:List (List Rat)):k9 M 0=[]:=by simp[k9,eL]
set_option maxHeartbeats 1000000 in
theorem Ev(hC:Old C w)(F:Old S w)(hM:oQ w C S v M)(hlen:gh 0 M)(hR:M.length<=1000):
  dx PG F'.ic #[.agg #[v,.int .i64 0],.int .i64 0] w (eH w fun v' V=>v'= .agg #[.slice none 0 0,.int .i64 0,.slice none 0 0,.slice none 0 0]):=by
 have Y:=bR w;obtain⟨am,cm,rfl,S3,Rd⟩:=oQ.shape hM;unfold maxLen at Rd;refine j0 (by simp) ?_;refine⟨0,0,rfl,rfl,Nat.le_refl _,by omega,by omega,World,fun z=>⟨[(1,iZ 0),(2,pP 0 0),(4,pP 1 0),(5,pP 2 0),(6,.o (.s 3 0 0 0)),(27,iZ 0),(28,iZ 0)],[(3,.arr T.int []),(2,.box T.dE [.v (.slice none 0 0),.v (.int .i64 0),.v (.slice none 0 0),.v (.slice none 0 0)]),(1,.box T.dE [.v (.slice none 0 0),.v (.int .i64 0),.v (.slice none 0 0),.v (.slice none 0 0)]),(0,.box T.di [.v (.slice am M.length cm),.v (.int .i64 0)])],4,[],z⟩,fun z=>0,fun z=>dT w.heap.size w z,?_,?_⟩
 ·intro O J K;exact⟨J,Y.tr K.cL,Sub.gn [] K⟩
 rintro w1 Y;dsimp only at Y ⊢
 refine⟨Nat×World,fun z=>⟨[(38,iN z.1),(1,iZ 0),(2,pP 0 0),(4,pP 1 0),(5,pP 2 0),(6,.o (.s 3 0 0 0)),(36,sV am M.length cm),(37,iZ M.length)],[(3,.arr T.int []),(2,.box T.dE [.v (.slice none 0 0),.v (.int .i64 0),.v (.slice none 0 0),.v (.slice none 0 0)]),(1,.box T.dE [.v (.slice none 0 0),.v (.int .i64 0),.v (.slice none 0 0),.v (.slice none 0 0)]),(0,.box T.di [.v (.slice am M.length cm),.v (.int .i64 0)])],5,[],z.2⟩,fun z=>M.length-z.1,
  fun z=>z.1<=M.length/\dT w.heap.size w z.2,?_,?_⟩
 ·intro O J K;exact⟨(0,J),⟨aS _,Y.tr K.cL⟩,Sub.gn [] K⟩
 rintro⟨i,w1⟩ ⟨D,Y⟩;dsimp only at D Y ⊢;refine dB.mk ?_ ?_<;>intro OQ
 ·have OQ:i<M.length:=by simpa using OQ
  obtain⟨x,L⟩:∃r,M[i]? =some r:=⟨_,aB OQ⟩
  have QC:=hlen x (aE L);obtain rfl:=List.eq_nil_of_length_eq_zero QC;obtain⟨adm,um,Ux,Qc,km1,km2⟩:=oQ.load hM L;obtain⟨A,⟨-,g1,g2,a0,c0,rfl,g4,g5⟩,PZ,Tx,Ok⟩:=Qc;obtain rfl:=List.eq_nil_of_length_eq_zero PZ;refine⟨adm,Ux,by omega,.slice a0 0 c0,rd1 km2 Y (hC _ km1),?_⟩;refine .inl ?_;refine⟨[],rfl,g2,fun O J r PI=>absurd PI (by simp),rfl,by omega,by unfold maxLen;omega,World,fun z=>⟨[(9,.o (.w 6 0)),(46,iZ 0),(47,iZ 0),(2,pP 0 0),(4,pP 1 0),(5,pP 2 0),(6,.o (.s 3 0 0 0)),(8,iN i),(36,sV am M.length cm),(37,iZ M.length),(38,iN i),(1,iZ 0)],[(6,.vec T.Rat 4 []),(3,.arr T.int []),(2,.box T.dE [.v (.slice none 0 0),.v (.int .i64 0),.v (.slice none 0 0),.v (.slice none 0 0)]),(1,.box T.dE [.v (.slice none 0 0),.v (.int .i64 0),.v (.slice none 0 0),.v (.slice none 0 0)]),(0,.box T.di [.v (.slice am M.length cm),.v (.int .i64 0)])],7,[],z⟩,fun z=>0,fun z=>dT w.heap.size w z,?_,?_⟩
  ·intro O J K;exact⟨J,Y.tr K.cL,Sub.gn [] K⟩
  rintro w1 Y;dsimp only at Y ⊢;refine⟨World,fun z=>⟨[(9,.o (.w 6 0)),(12,iZ 0),(2,pP 0 0),(4,pP 1 0),(5,pP 2 0),(6,.o (.s 3 0 0 0)),(8,iN i),(36,sV am M.length cm),(37,iZ M.length),(38,iN i),(1,iZ 0)],[(6,.vec T.Rat 4 []),(3,.arr T.int []),(2,.box T.dE [.v (.slice none 0 0),.v (.int .i64 0),.v (.slice none 0 0),.v (.slice none 0 0)]),(1,.box T.dE [.v (.slice none 0 0),.v (.int .i64 0),.v (.slice none 0 0),.v (.slice none 0 0)]),(0,.box T.di [.v (.slice am M.length cm),.v (.int .i64 0)])],7,[],z⟩,fun z=>0,fun z=>dT w.heap.size w z,?_,?_⟩
  ·intro O J K;exact⟨J,Y.tr K.cL,Sub.gn [] K⟩
  rintro w1 Y;dsimp only at Y ⊢;refine⟨((i+1:Nat):Int),wo,?_⟩;intro IR w3 K;exact⟨(i+1,w3),⟨OQ,Y.tr K.cL⟩,Sub.gn [] K,by dsimp only;omega⟩
 refine⟨World,fun z=>⟨[(4,pP 1 0),(5,pP 2 0),(17,pP 5 0),(159,.o (.s 3 0 0 0)),(160,iZ 0),(161,iZ 0)],[(5,.box T.dE [.v (.slice none 0 0),.v (.int .i64 0),.v (.slice none 0 0),.v (.slice none 0 0)]),(3,.arr T.int []),(2,.box T.dE [.v (.slice none 0 0),.v (.int .i64 0),.v (.slice none 0 0),.v (.slice none 0 0)]),(1,.box T.dE [.v (.slice none 0 0),.v (.int .i64 0),.v (.slice none 0 0),.v (.slice none 0 0)]),(0,.box T.di [.v (.slice am M.length cm),.v (.int .i64 0)])],6,[],z⟩,fun z=>0,fun z=>dT w.heap.size w z,?_,?_⟩
 ·intro O J K;exact⟨J,Y.tr K.cL,Sub.gn [] K⟩
 rintro w1 Y;dsimp only at Y ⊢;exact rtn Y fun GT we re=>rfl
set_option maxHeartbeats 1000000 in
theorem GY(hC:Old C w)(F:Old S w)(hM:oQ w C S v M)(hlen:gh 0 M)(hR:M.length<=1000):
  dx PG F'.gJ #[.agg #[v,.int .i64 0]] w (eH w fun v' V=>cT V (Nf w V) v' (k9 M 0)):=by
 have Y:=bR w;obtain⟨am,cm,rfl,S3,Rd⟩:=oQ.shape hM;unfold maxLen at Rd;refine jZ (by simp) ?_
 refine cB (cG (Id:=fun _ J v V=>v= .agg #[.slice none 0 0,.int .i64 0,.slice none 0 0,.slice none 0 0]) (fun O J r=>by
  obtain⟨rv,m1,m2,m3⟩:=hM
  exact Ev (C:=C) (S:=S) (oS hC r) (oS F r) ⟨rv,m1.cC fun g G=>(Y.tr r.cL).block g (hC g G),m2,fun i u x I X=>cS.cC (m3 i u x I X) fun g G=>(Y.tr r.cL).block g (F g G)⟩ hlen hR) ?_)
 rintro O PQ v1 PE r W Oa rfl;replace Y:=Y.tr Oa;generalize (PQ.heap.size,PE.heap.size)::[]=OZ at*
 refine⟨0,0,rfl,rfl,Nat.le_refl _,by omega,by omega,World×Iv,fun z=>⟨[(1,pP 0 0),(3,pP 1 0),(4,.o (.s 2 0 0 0)),(20,sV none 0 0),(21,iZ 0),(22,iZ 0)],[(2,.arr T.bool []),(1,.box T.dE [.v (.slice none 0 0),.v (.int .i64 0),.v (.slice none 0 0),.v (.slice none 0 0)]),(0,.box T.di [.v (.slice am M.length cm),.v (.int .i64 0)])],3,z.2,z.1⟩,fun z=>0,fun z=>dT w.heap.size w z.1,?_,?_⟩
 ·intro O J K;exact⟨(J,_),Y.tr K.cL,Sub.gn [] K⟩
 rintro⟨w1,iv⟩ Y;dsimp only at Y ⊢;refine⟨World×Iv,fun z=>⟨[(32,iZ 0),(7,sV none 0 0),(1,pP 0 0),(3,pP 1 0),(4,.o (.s 2 0 0 0)),(31,iZ 0)],[(2,.arr T.bool []),(1,.box T.dE [.v (.slice none 0 0),.v (.int .i64 0),.v (.slice none 0 0),.v (.slice none 0 0)]),(0,.box T.di [.v (.slice am M.length cm),.v (.int .i64 0)])],3,z.2,z.1⟩,fun z=>0,fun z=>dT w.heap.size w z.1,?_,?_⟩
 ·intro O J K;exact⟨(J,_),Y.tr K.cL,Sub.gn [] K⟩
 rintro⟨w1,iv⟩ Y;dsimp only at Y ⊢;intro GT we re;rw[Cz];exact⟨_,rfl,Y.tr re.cL,cT.nil⟩
theorem GZ{n h:Nat}(hC:Old C w)(F:Old S w)(hM:oQ w C S v M)(hlen:gh n M)(hR:M.length<=1000)(Z:n<=1000)(hB:Ef M n h)(hAb:Ht (dh M n).1 h)(hh:3*h<=90000):
  dx PG F'.gJ #[.agg #[v,.int .i64 n]] w (eH w fun v' V=>cT V (Nf w V) v' (k9 M n)):=by
 rcases bJ n with h0|h0
 ·subst h0;exact GY hC F hM hlen hR
 ·exact Ik hC F hM hlen h0 Z hR hB hAb hh
theorem vV{k:Nat}(h:∀U∈A,U.length=k):A.flatten.length=A.length*k:=by
 induction A with
 |nil=>simp
 |cons c r ih=>rw[List.flatten_cons,List.length_append,h c aG,ih fun x L=>h x (aC _ L),List.length_cons,Nat.succ_mul];omega
theorem vW{k:Nat}(h:∀U∈A,U.length=k)(hj:A[j]? =some U)(i:Nat)(u:Value)(hu:U[i]? =some u):A.flatten[j*k+i]? =some u:=by
 induction A generalizing j with
 |nil=>cases hj
 |cons c r ih=>
  have hc:=h c aG;have D:=(aD.1 hu).1
  cases j with
  |zero=>
   injection hj with hj;subst hj;rw[List.flatten_cons,Nat.zero_mul,aV,aJ D];exact hu
  |succ j=>
   rw[List.flatten_cons,aN (by rw[hc,Nat.succ_mul];omega),hc,show(j+1)*k+i-k=j*k+i by rw[Nat.succ_mul];omega];exact ih (fun x L=>h x (aC _ L)) hj
def eY{α:Type}(k:Nat)(P:World->(Nat->Prop)->List Value->α->Prop)(w:World)(S:Nat->Prop)(v:Value)(xs:List α):Prop:=
 ∃A:List (List Value),iu w S k v A.flatten xs.length/\A.length=xs.length/\(∀U∈A,U.length=k)/\∀(j:Nat) U x,A[j]? =some U->xs[j]? =some x->P w S U x
section
variable{α:Type}{k:Nat}{P:World->(Nat->Prop)->List Value->α->Prop}{w V:World}{S S':Nat->Prop}{v:Value}{xs:List α}
theorem eY.cC(hP:∀U x,P w S U x->P V S U x)(h:eY k P w S v xs)(R:∀g,S g->V.heap[g]? =w.heap[g]?):eY k P V S v xs:=by
 obtain⟨A,I,X,N,h4⟩:=h;exact⟨A,I.cC R,X,N,fun j U x k1 k2=>hP U x (h4 j U x k1 k2)⟩
theorem eY.cF(hP:∀U x,P w S U x->P w S' U x)(h:eY k P w S v xs)(R:∀g,S g->S' g):eY k P w S' v xs:=by
 obtain⟨A,I,X,N,h4⟩:=h;exact⟨A,I.cF R,X,N,fun j U x k1 k2=>hP U x (h4 j U x k1 k2)⟩
theorem eY.shape(h:eY k P w S v xs):∃a c,v= .slice a xs.length c/\xs.length<=c/\xs.length<=maxLen:=by
 obtain⟨A,⟨h0,_,_,a,c,I,X,_⟩,_⟩:=h;exact⟨a,c,I,X,h0⟩
theorem eY.load{m c:Nat}{x:α}(R:0<k)(h:eY k P w S (.slice a m c) xs)(hq:xs[j]? =some x):
  ∃ad U,a=some ad/\P w S U x/\U.length=k/\∀i u,U[i]? =some u->S ad.block/\w.cell? ((ad.add (j*k)).add i)=some u:=by
 obtain⟨A,⟨h0,I,X,a',c',e,N,h4⟩,hl,VZ,hf⟩:=h;injection e with e1 e2 e3;subst e1;obtain⟨U,Ok⟩:∃U,A[j]? =some U:=⟨_,aB (by rw[hl];exact(aD.1 hq).1)⟩
 have hl:=VZ U (aE Ok);obtain⟨ad,k1,k2,k3⟩:=h4 (j*k+0) _ (vW VZ Ok 0 _ (aB (show 0<U.length by omega)));refine⟨ad,U,k1,hf j U x Ok hq,hl,fun i u hu=>?_⟩;obtain⟨ad2,m1,m2,m3⟩:=h4 (j*k+i) u (vW VZ Ok i u hu);rw[k1]at m1;injection m1 with m1;subst m1;refine⟨m2,?_⟩;rw[<-m3];have:(ad.add (j*k)).add i=ad.add (j*k+i):=by
  unfold Addr.add;split<;>split<;>simp_all<;>omega
 rw[this]
end
def H9(_w:World)(_S:Nat->Prop)(U:List Value)(p:Int×Int×Int):Prop:=U=[.int .i64 p.1,.int .i64 p.2.1,.int .i64 p.2.2]
def aAF(_w:World)(_S:Nat->Prop)(U:List Value)(p:Ld):Prop:=U=[.int .i64 p.1,.int .i64 p.2.1,.int .i64 p.2.2.1,.int .i64 p.2.2.2]
def Cq(w:World)(S:Nat->Prop)(U:List Value)(p:Int×Int×Rat):Prop:=∃b a n c b2 a2 n2 c2,U=[.int .i64 p.1,.int .i64 p.2.1,.bool b,.slice a n c,.bool b2,.slice a2 n2 c2]/\eJ w S (.agg #[.bool b,.slice a n c,.bool b2,.slice a2 n2 c2]) p.2.2
theorem Cq.cC(h:Cq w S U p)(R:∀g,S g->V.heap[g]? =w.heap[g]?):Cq V S U p:=by
 obtain⟨b,a,n,c,b2,a2,n2,c2,I,X⟩:=h;exact⟨b,a,n,c,b2,a2,n2,c2,I,X.cC R⟩
theorem Cq.cF(h:Cq w S U p)(R:∀g,S g->S' g):Cq w S' U p:=by
 obtain⟨b,a,n,c,b2,a2,n2,c2,I,X⟩:=h;exact⟨b,a,n,c,b2,a2,n2,c2,I,X.cF R⟩
abbrev mg:=eY 3 H9
abbrev jS:=eY 4 aAF
abbrev Ks:=eY 6 Cq
structure dm(w:World)(S:Nat->Prop)(vn vb vs:Value)(f:ed):Prop where
 nodes:mg w S vn f.nodes
 bars:Ks w S vb f.bars
 cM:Ks w S vs f.cM
section
variable{S S':Nat->Prop}{H:Hp}{nx:Nat}{iv E:Iv}{B:Nat}{w J V:World}{O:Nat->Sx.dL}{v vn vb vs:Value}{f:ed}{l:List Ld}
theorem jS.cC(h:jS w S v l)(R:∀g,S g->V.heap[g]? =w.heap[g]?):jS V S v l:=eY.cC (w:=w) (fun _ _ h=>h) h R
theorem dm.cC(h:dm w S vn vb vs f)(R:∀g,S g->V.heap[g]? =w.heap[g]?):dm V S vn vb vs f:=
 ⟨eY.cC (w:=w) (fun _ _ h=>h) h.nodes R,eY.cC (fun _ _ h=>h.cC R) h.bars R,eY.cC (fun _ _ h=>h.cC R) h.cM R⟩
theorem dm.cF(h:dm w S vn vb vs f)(R:∀g,S g->S' g):dm w S' vn vb vs f:=
 ⟨eY.cF (S:=S) (fun _ _ h=>h) h.nodes R,eY.cF (fun _ _ h=>h.cF R) h.bars R,eY.cF (fun _ _ h=>h.cF R) h.cM R⟩
theorem dm.rel(h:dm w (Cv S B iv) vn vb vs f)(r:Rel H nx iv B w O J)(F:∀g,S g->g<B):dm J (Cv S B iv) vn vb vs f:=h.cC fun _ G=>Rel.same r F G
theorem dm.shape(h:dm w S vn vb vs f):∃an cn ab cb aq U,vn= .slice an f.nodes.length cn/\vb= .slice ab f.bars.length cb/\vs= .slice aq f.cM.length U/\f.nodes.length<=maxLen/\f.bars.length<=maxLen/\f.cM.length<=maxLen:=by
 obtain⟨an,cn,I,_,X⟩:=h.nodes.shape;obtain⟨ab,cb,N,_,h4⟩:=h.bars.shape;obtain⟨aq,U,h5,_,h6⟩:=h.cM.shape;exact⟨an,cn,ab,cb,aq,U,I,N,h5,X,h4,h6⟩
end
theorem zt{P:Program}{τ:mn}{B nx:Nat}{l:Env}{H:Hp}{iv:Iv}(hτ:fT P τ){t ty len e sz by_:Nat}{ag:Bool}{ze ze2:List Value}{ik ik2:IntKind}{b2 tag2 al2 e0:Nat}{fs fs2:List (Nat×Nat)}{x i:Operand}{pos:String}{vx:SV}{U:Array Value}{k:IntKind}{m:Int}{u:Value}
  (ht:τ t=some ⟨sz,ag,by_,ze,6,ik,e,len,fs⟩) (PW:τ e=some ⟨1,false,b2,ze2,tag2,ik2,e0,al2,fs2⟩) (L:ev l x=some vx) (Uf:∀O,vx.den O= .agg U) (D:ev l i=some (.o (.v (.int k m)))) (hm:0<=m/\m<len) (hc:U[m.toNat]? =some u)
  (hK:∀O J,Rel H nx iv B w O J->Fn (.o (.v u)) H nx iv J):yF P B ⟨dst,.index t x i,ty,pos,after,guard⟩ l H nx iv w Fn:=by
 have hto:=(hτ t _ ht).i6 rfl;have Rn:=hτ e _ PW;refine FU hto (fun w=>Rn.sizeOf w) (fun w j v hv=>?_) L Uf D hm hc hK;simp[part,Rn.isAgg,hv]
structure jK(w:World)(B:Nat)(iv:Iv)(rv:List Value)(n:Nat)(M:List (List Int)):Prop where
 len:rv.length=M.length
 wid:∀l∈M,l.length=n
 row:∀(i:Nat) v l,rv[i]? =some v->M[i]? =some l->w.ownsRow 0 T.int 1 v n (l.map fun z=>.int .i64 z)
 rW:∀(i j:Nat) a b g,rv[i]? =some a->rv[j]? =some b->a.ownBlock=some g->b.ownBlock=some g->i=j
 new:∀g,Ob rv g->Cv FF B iv g
section
variable{H:Hp}{nx n:Nat}{iv E:Iv}{B:Nat}{w J V:World}{O:Nat->Sx.dL}{rv:List Value}{M:List (List Int)}
theorem jK.nil:jK w B iv [] n []:=⟨rfl,fun l h=>(by cases h),fun i v l h=>(by cases h),fun i j a b g h=>(by cases h),fun g ⟨v,hv,_⟩=>by cases hv⟩
theorem jK.cC(h:jK w B iv rv n M)(R:∀g,Cv FF B iv g->V.heap[g]? =w.heap[g]?):jK V B iv rv n M:=
 ⟨h.len,h.wid,fun i v l I X=>ownsRow.cC (h.row i v l I X) fun g G=>R g (h.new g ⟨v,aE I,G⟩),h.rW,h.new⟩
theorem jK.rel(h:jK w B iv rv n M)(r:Rel H nx iv B w O J):jK J B iv rv n M:=h.cC fun _ G=>Rel.same r (eI B) G
theorem jK.mono(h:jK w B iv rv n M)(hm:∀p,p∈iv->p∈E):jK w B E rv n M:=⟨h.len,h.wid,h.row,h.rW,fun g G=>(h.new g G).mono hm⟩
theorem jK.cD(h:jK w B iv rv n M)(r:Rel H nx iv B w O J)(W:Ext J V)(hm:∀p,p∈iv->p∈E):jK V B E rv n M:=
 ((h.rel r).cC fun g G=>W.block g (Rel.old r (eI B) g G)).mono hm
theorem jK.form(hM:jK w B iv rv n M){i:Nat}(hv:rv[i]? =some v):∃a c,v= .slice a n c:=by
 obtain⟨l,hl⟩:∃l,M[i]? =some l:=⟨_,aB (by rw[<-hM.len];exact(aD.1 hv).1)⟩
 obtain⟨a,c,h,_⟩:=ig (hM.row i v l hv hl);exact⟨a,c,h⟩
theorem jK.one(hM:jK w B iv rv n M):∀u∈rv,u.oneCell'=true:=fun u hu=>by
 obtain⟨i,D⟩:=aQ hu;obtain⟨a,c,rfl⟩:=hM.form D;rfl
theorem jK.load(hM:jK w B iv rv n M){i k:Nat}{c:Nat}(hv:rv[i]? =some (.slice a n c))(hl:M[i]? =some l)(R:l[k]? =some z):
  ∃ad,a=some ad/\Cv FF B iv ad.block/\w.cell? (ad.add (k*1))=some (.int .i64 z):=by
 have h:=hM.row i _ l hv hl;have hlen:=hM.wid l (aE hl);rcases h.2 with⟨_,h0⟩|⟨g,cap,cur,e,_⟩
 ·have:=(aD.1 R).1;omega
 ·injection e with e;refine⟨⟨g,0,none⟩,e,hM.new g ⟨_,aE hv,by rw[e];rfl⟩,?_⟩;have:=h.cells (g:=g) (by rw[e];rfl) k (.int .i64 z) (by rw[aM,R];rfl);rw[aY];exact this
theorem jK.store(hM:jK w B iv rv n M)(r:Rel H nx iv B w O J){i k:Nat}{c:Nat}(hv:rv[i]? =some (.slice a n c))(hl:M[i]? =some l)(R:k<n):
  ∃g,a=some ⟨g,0,none⟩/\((⟨g,0,none⟩:Addr).add ((k:Int).toNat*1)).spot=none/\
   (∀j,j<1->(J.cell? (((⟨g,0,none⟩:Addr).add ((k:Int).toNat*1)).add j)).isSome=true/\J.frozen? (((⟨g,0,none⟩:Addr).add ((k:Int).toNat*1)).add j)=false)/\
   (∀id b,cV H id=some b->(O id).nil=false->(O id).g≠((⟨g,0,none⟩:Addr).add ((k:Int).toNat*1)).block)/\
   ∀V,V=setCells J ((⟨g,0,none⟩:Addr).add ((k:Int).toNat*1)) [.int .i64 z]->jK V B iv rv n (M.set i (l.set k z))/\dT B J V/\Rel H nx iv B V O V/\J.grownBy V (some g)/\Ob rv g:=by
 have SY:=hM.rel r;have I:=SY.row i _ l hv hl;have hlen:=hM.wid l (aE hl);obtain⟨g,rfl,OV,QA,Oc,Oj⟩:=kA (nv:=[.int .i64 z]) I rfl R rfl (by decide);have RI:Ob rv g:=⟨_,aE hv,rfl⟩
 have Om:(⟨g,0,none⟩:Addr).add ((k:Int).toNat*1)=⟨g,k*1,none⟩:=by rw[aF,dA,aV]
 have Px:=Rel.not r (eI B) (hM.new g RI);refine⟨g,rfl,by rw[Om],fun j hj=>by rw[Om];exact OV j hj,fun id b hb Z=>by rw[Om];exact Px id b hb Z,fun V PR=>?_⟩;rw[Om]at PR;subst PR;refine⟨⟨by rw[bX];exact hM.len,fun x L=>?_,fun j v l2 N h4=>?_,hM.rW,hM.new⟩,dT.grown Oc (fun x e=>by injection e with e;subst e;exact(hM.new g RI).elim (fun h=>h.elim) fun h=>h.1) r.bz,r.yH Px Oc,Oc,RI⟩
 ·rcases a9 L with L|rfl
  ·exact hM.wid x L
  ·rw[bX];exact hlen
 ·by_cases PH:i=j
  ·subst PH;rw[hv]at N;injection N with N;subst N;rw[aO (by rw[<-hM.len];exact(aD.1 hv).1)]at h4;injection h4 with h4;subst h4;rw[List.map_set,<-jt (by rw[aL];omega)];simp only[aY]at QA ⊢;exact QA
  ·rw[aT PH]at h4;refine ownsRow.cC (SY.row j v l2 N h4) fun x L=>Oc.block x ?_ fun e=>?_
   ·exact Rel.old r (eI B) x (hM.new x ⟨v,aE N,L⟩)
   ·injection e with e;exact PH (hM.rW i j _ v x hv N (by rw[<-e];rfl) L)
theorem jK.push(hM:jK w B iv rv n M){gx:Nat}(Wg:∀g,Cv FF B iv g->g≠gx)(hBx:B<=gx)(hl:l.length=n)(OR:w.ownsRow 0 T.int 1 (.slice (some ⟨gx,0,none⟩) n n) n (l.map fun z=>.int .i64 z)):
  jK w B ((gx,gx+1)::iv) (rv++[.slice (some ⟨gx,0,none⟩) n n]) n (M++[l]):=by
 have RI:∀g,Ob rv g->g≠gx:=fun g G=>Wg g (hM.new g G);have key:∀(k:Nat) v,(rv++[Value.slice (some ⟨gx,0,none⟩) n n])[k]? =some v->(k<rv.length/\rv[k]? =some v)\/(k=rv.length/\v= .slice (some ⟨gx,0,none⟩) n n):=fun k v R=>by
  rcases aP k rv.length with D|D
  ·rw[aJ D]at R;exact .inl ⟨D,R⟩
  ·have RZ:k=rv.length:=by have:=(aD.1 R).1;simp at this;omega
   rw[RZ,aN (Nat.le_refl _),bB]at R;simp at R;exact .inr ⟨RZ,R.symm⟩
 refine⟨by simp[hM.len],fun x L=>?_,fun i v x I X=>?_,fun i j a b g I X N h4=>?_,fun g G=>?_⟩
 ·rcases List.mem_append.1 L with L|L
  ·exact hM.wid x L
  ·rw[bF.1 L];exact hl
 ·rcases key i v I with⟨D,k1⟩|⟨e1,rfl⟩
  ·rw[aJ (by rw[<-hM.len];exact D)]at X;exact hM.row i v x k1 X
  ·rw[e1,hM.len,aN (Nat.le_refl _),bB]at X;simp at X;subst X;exact OR
 ·rcases key i a I with⟨_,k1⟩|⟨e1,rfl⟩<;>rcases key j b X with⟨_,k2⟩|⟨e2,rfl⟩
  ·exact hM.rW i j a b g k1 k2 N h4
  ·injection h4 with h4;exact absurd h4.symm (RI g ⟨a,aE k1,N⟩)
  ·injection N with N;exact absurd N.symm (RI g ⟨b,aE k2,h4⟩)
  ·rw[e1,e2]
 ·rcases Ob.append.1 G with h|h
  ·exact(hM.new g h).mono fun p hp=>aC _ hp
  ·injection h with h;have h:gx=g:=h;subst h;exact .inr ⟨hBx,_,_,aG,Nat.le_refl _,bV _⟩
end
def DS(w:World)(S:Nat->Prop)(v:Value)(l:List Int):Prop:=iu w S 1 v (l.map fun z=>.int .i64 z) l.length
abbrev Ko:=dG DS
theorem DS.cC(h:DS w S v l)(R:∀g,S g->V.heap[g]? =w.heap[g]?):DS V S v l:=iu.cC h R
theorem DS.cF(h:DS w S v l)(R:∀g,S g->S' g):DS w S' v l:=iu.cF h R
theorem Ko.cC{M:List (List Int)}(h:Ko w S v M)(R:∀g,S g->V.heap[g]? =w.heap[g]?):Ko V S v M:=by
 obtain⟨rv,I,X,N⟩:=h;exact⟨rv,I.cC R,X,fun i u x k1 k2=>(N i u x k1 k2).cC R⟩
theorem Ko.cF{M:List (List Int)}(h:Ko w S v M)(R:∀g,S g->S' g):Ko w S' v M:=by
 obtain⟨rv,I,X,N⟩:=h;exact⟨rv,I.cF R,X,fun i u x k1 k2=>(N i u x k1 k2).cF R⟩
theorem DS.at{m c:Nat}(h:DS w S (.slice a m c) l)(hj:l[j]? =some z):∃ad,a=some ad/\S ad.block/\w.cell? (ad.add (j*1))=some (.int .i64 z):=by
 obtain⟨h0,I,X,a',c',e,N,h4⟩:=h;injection e with e1 e2 e3;subst e1;obtain⟨ad,k1,k2,k3⟩:=h4 j (.int .i64 z) (by rw[aM,hj];rfl);exact⟨ad,k1,k2,by rw[aY];exact k3⟩
theorem DS.shape(h:DS w S v l):∃a c,v= .slice a l.length c/\l.length<=c/\l.length<=maxLen:=by
 obtain⟨h0,I,X,a,c,e,N,h4⟩:=h;exact⟨a,c,e,N,h0⟩
structure wY(f:ed):Prop where
 co:∀p∈f.nodes,(-1000000<=p.1/\p.1<=1000000)/\(-1000000<=p.2.1/\p.2.1<=1000000)/\(-1000000<=p.2.2/\p.2.2<=1000000)
 JH:∀b∈f.bars,(0<=b.1/\b.1<f.nodes.length)/\(0<=b.2.1/\b.2.1<f.nodes.length)
 sup:∀s∈f.cM,(0<=s.1/\s.1<f.nodes.length)/\(0<=s.2.1/\s.2.1<=2)
 n:f.nodes.length<=20
 b:f.bars.length<=60
 s:f.cM.length<=60
theorem wY.node(h:wY f){i:Int}(h0:0<=i)(I:i<f.nodes.length):∃k:Nat,∃p,i=k/\k<f.nodes.length/\f.nodes[k]? =some p/\f.node i=p/\(-1000000<=p.1/\p.1<=1000000)/\(-1000000<=p.2.1/\p.2.1<=1000000)/\(-1000000<=p.2.2/\p.2.2<=1000000):=by
 obtain⟨k,rfl⟩:=Int.eq_ofNat_of_zero_le h0;have R:k<f.nodes.length:=by omega
 refine⟨k,f.nodes[k],rfl,R,aB R,?_,h.co _ (aX R)⟩;rw[ed.node,aF,List.getD,aB R];rfl
theorem rZ{vn vb vs:Value}{a b:Int}{b3 b6:Bool}{a4 a7:Option Addr}{n4 c4 n7 c7:Nat}(F:Old S w)(Z:mg w S vn f.nodes)(OV:wY f)(hA:0<=a/\a<f.nodes.length)(hB:0<=b/\b<f.nodes.length):
  dx PG F'.lL #[.agg #[vn,vb,vs],.agg #[.int .i64 a,.int .i64 b,.bool b3,.slice a4 n4 c4,.bool b6,.slice a7 n7 c7]] w (eH w fun v' _=>v'= .agg #[.int .i64 ((f.node b).1-(f.node a).1),.int .i64 ((f.node b).2.1-(f.node a).2.1),.int .i64 ((f.node b).2.2-(f.node a).2.2)]):=by
 have Y:=bR w;obtain⟨an,cn,rfl,hcn,RX⟩:=Z.shape;unfold maxLen at RX;obtain⟨ka,pa,ea,Uo,hpa,hna,⟨_,_⟩,⟨_,_⟩,⟨_,_⟩⟩:=OV.node hA.1 hA.2;obtain⟨kb,pb,eb,OT,Sw,hnb,⟨_,_⟩,⟨_,_⟩,⟨_,_⟩⟩:=OV.node hB.1 hB.2;obtain⟨ada,csa,haa,hPa,-,RG⟩:=Z.load (by decide) hpa;obtain⟨adb,csb,QM,hPb,-,Pn⟩:=Z.load (by decide) Sw;have hPa:csa=[.int .i64 pa.1,.int .i64 pa.2.1,.int .i64 pa.2.2]:=hPa;have hPb:csb=[.int .i64 pb.1,.int .i64 pb.2.1,.int .i64 pb.2.2]:=hPb;subst hPa hPb;rw[hna,hnb];subst ea eb;refine ou (by simp) ?_;refine j1 hτ dN (.x 0 (.x 2 (.x 6 (.x 8 (.ld 1 49200 (.ld 3 49200 (.x 4 (.ld 5 49152 (.ld 7 35840 (.ld 9 35840 (.x 10 (.ld 11 32768 (.two 12 (.x 13 (.x 14 (.x 15 .nil))) 13 (.x 12 (.x 14 (.x 15 .nil)))))))))))))))) (by kernel_rfl) (by kernel_rfl) ?_;refine⟨ada,haa,by omega,[.int .i64 pa.1,.int .i64 pa.2.1,.int .i64 pa.2.2],rfl,rdO RG Y F,adb,QM,by omega,[.int .i64 pb.1,.int .i64 pb.2.1,.int .i64 pb.2.2],rfl,rdO Pn Y F,?_,?_⟩
 ·refine⟨[.int .i64 pb.1,.int .i64 pb.2.1,.int .i64 pb.2.2],rfl,rdO Pn Y F,rfl,rfl,rfl,[.int .i64 pa.1,.int .i64 pa.2.1,.int .i64 pa.2.2],rfl,rdO RG Y F,rfl,rfl,rfl,[.int .i64 pb.1,.int .i64 pb.2.1,.int .i64 pb.2.2],rfl,rdO Pn Y F,rfl,rfl,rfl,[.int .i64 pa.1,.int .i64 pa.2.1,.int .i64 pa.2.2],rfl,rdO RG Y F,rfl,rfl,rfl,[.int .i64 pb.1,.int .i64 pb.2.1,.int .i64 pb.2.2],rfl,rdO Pn Y F,rfl,rfl,rfl,pb.1-pa.1,wo,pb.2.1-pa.2.1,wo,pb.2.2-pa.2.2,wo,?_⟩;exact rtn Y fun GT we re=>rfl
 ·refine⟨[.int .i64 pb.1,.int .i64 pb.2.1,.int .i64 pb.2.2],rfl,rdO Pn Y F,rfl,rfl,rfl,[.int .i64 pa.1,.int .i64 pa.2.1,.int .i64 pa.2.2],rfl,rdO RG Y F,rfl,rfl,rfl,[.int .i64 pb.1,.int .i64 pb.2.1,.int .i64 pb.2.2],rfl,rdO Pn Y F,rfl,rfl,rfl,[.int .i64 pa.1,.int .i64 pa.2.1,.int .i64 pa.2.2],rfl,rdO RG Y F,rfl,rfl,rfl,[.int .i64 pb.1,.int .i64 pb.2.1,.int .i64 pb.2.2],rfl,rdO Pn Y F,rfl,rfl,rfl,pb.1-pa.1,wo,pb.2.1-pa.2.1,wo,pb.2.2-pa.2.2,wo,?_⟩;exact rtn Y fun GT we re=>rfl
theorem Kp{α:Type}{rv:List α}{a b:α}{i m:Nat}(hl:rv.length=i)(h:i<m):(rv++List.replicate (m-i) b).take i++[a]++(rv++List.replicate (m-i) b).drop (i+1)=(rv++[a])++List.replicate (m-(i+1)) b:=by
 rw[List.take_left' hl,List.drop_append,hl,List.drop_of_length_le (by omega),List.nil_append,List.drop_replicate];congr 2;omega
end Go.Ex
namespace Go.Sx
open Go Go.Ex Go.Proofs
variable{U:List Value}{O:Nat->Sx.dL}
theorem Rel.MS{H:Hp}{nx:Nat}{iv:Iv}{B:Nat}{w J:World}(r:Rel H nx iv B w O J){id t m sz:Nat}(h:cV H id=some (.arr t U))(hm:U.length=m*sz)(Sh:m<=maxLen)(I:∀u∈U,u.oneCell'=true):
  iu J (fun g=>B<=g/\g<J.heap.size) sz (.slice (some ⟨(O id).g,0,none⟩) m m) U m:=by
 have hl:=r.low id _ h (r.fits h).1;refine⟨Sh,hm,I,_,m,rfl,Nat.le_refl _,fun j u hu=>⟨_,rfl,hl,?_⟩⟩;rw[dA,cell_of (r.arr id _ _ h),aV];exact hu
end Go.Sx
namespace Go.Ex
open Go Go.Sx Go.Proofs
variable{d:Int}{b s:Int×Int×Rat}{M:List (List Int)}{l:List Int}{r:Nat}{S:Nat->Prop}{f:ed}
theorem B9{c:Nat}:(yb M r c d).length=M.length:=bX ..
theorem Il{c:Nat}:(putAt M r c d).length=M.length:=bX ..
def MT(M:List (List Int))(t:Int):Prop:=∀l∈M,∀z∈l,-t<=z/\z<=t
theorem MT.set{t t2:Int}{c:Nat}{z:Int}(h:MT M t)(ht:t<=t2)(hl:M[r]? =some l)(hz: -t2<=z/\z<=t2):MT (M.set r (l.set c z)) t2:=fun x L y hy=>by
 rcases a9 L with L|rfl
 ·have:=h x L y hy;omega
 ·rcases a9 hy with hy|rfl
  ·have:=h l (aE hl) y hy;omega
  ·exact hz
theorem Ek(f:ed):∀i,(eG f i).length=3*f.nodes.length
 |0=>bN ..
 |i+1=>by
  have h:=Ek f i;have key:∀k,(fD f (eG f i) i k).length=3*f.nodes.length:=fun k=>by
   induction k with
   |zero=>exact h
   |succ k ih=>rw[fD,B9,B9];exact ih
  exact key 3
theorem zu(f:ed):∀i,(fG f i).length=3*f.nodes.length
 |0=>Ek f _
 |i+1=>by rw[fG,Il];exact zu f i
theorem Kq{i k ka kb:Nat}{za zb:Int}{la lb:List Int}(hb:f.bars[i]? =some b)(ea:b.1=ka)(eb:b.2.1=kb)(hd:(jR f b).getD k 0=d)
  (RG:(fD f M i k)[3*ka+k]? =some la) (hza:la[i]? =some za) (Pn:((fD f M i k).set (3*ka+k) (la.set i (za+d)))[3*kb+k]? =some lb) (Wh:lb[i]? =some zb):
  ((fD f M i k).set (3*ka+k) (la.set i (za+d))).set (3*kb+k) (lb.set i (zb-d))=fD f M i (k+1):=by
 have I:f.bars.getD i (0,0,0)=b:=by rw[List.getD,hb];rfl
 have e1:(3*b.1+(k:Int)).toNat=3*ka+k:=by rw[ea];omega
 have e2:(3*b.2.1+(k:Int)).toNat=3*kb+k:=by rw[eb];omega
 have ha:yb (fD f M i k) (3*ka+k) i d=(fD f M i k).set (3*ka+k) (la.set i (za+d)):=by
  rw[yb,show(fD f M i k).getD (3*ka+k) []=la by rw[List.getD,RG];rfl,show la.getD i 0=za by rw[List.getD,hza];rfl]
 rw[fD];simp only[I,hd,e1,e2,ha]
 rw[yb,show((fD f M i k).set (3*ka+k) (la.set i (za+d))).getD (3*kb+k) []=lb by rw[List.getD,Pn];rfl,show lb.getD i 0=zb by rw[List.getD,Wh];rfl,Int.sub_eq_add_neg]
theorem Kr{i ks:Nat}(hs:f.cM[i]? =some s)(es:3*s.1+s.2.1=ks)(hl:(fG f i)[ks]? =some l):(fG f i).set ks (l.set (f.bars.length+i) 1)=fG f (i+1):=by
 rw[fG,putAt];simp only[show f.cM.getD i (0,0,0)=s by rw[List.getD,hs];rfl,es,aF,show(fG f i).getD ks []=l by rw[List.getD,hl];rfl]
set_option maxHeartbeats 2000000 in
theorem Im{w:World}{vn vb vs:Value}(F:Old S w)(hf:dm w S vn vb vs f)(OV:wY f):
  dx PG F'.pe #[.agg #[vn,vb,vs]] w (eH w fun v' V=>Ko V (Nf w V) v' (jF f)/\MT (jF f) 800000000/\(∀l∈jF f,l.length=f.cols)/\(jF f).length=3*f.nodes.length):=by
 have Y:=bR w;obtain⟨an,cn,ab,cb,aq,cq,rfl,rfl,rfl,RX,RP,Sk⟩:=hf.shape;obtain⟨hn20,hb60,hs60⟩:=And.intro OV.n (And.intro OV.b OV.s);refine uB (by simp) ?_;refine⟨((3*f.nodes.length:Nat):Int),wo,?_⟩;obtain⟨m,hm⟩:∃m,3*f.nodes.length=m:=⟨_,rfl⟩
 rw[hm]
 refine⟨m,m,rfl,rfl,Nat.le_refl _,by omega,by omega,Nat×List Value×World×Iv,fun z=>⟨[(1,pP 0 0),(3,.o (.s 1 0 m m)),(17,iZ m),(18,iN z.1)],[(1,.arr T.Lint (z.2.1++List.replicate (m-z.1) (.slice none 0 0))),(0,.box T.Frame [.v (.slice an f.nodes.length cn),.v (.slice ab f.bars.length cb),.v (.slice aq f.cM.length cq)])],2,z.2.2.2,z.2.2.1⟩,fun z=>m-z.1,
  fun z=>z.1<=m/\z.2.1.length=z.1/\dT w.heap.size w z.2.2.1/\jK z.2.2.1 w.heap.size z.2.2.2 z.2.1 f.cols (List.replicate z.1 (List.replicate f.cols 0)),?_,?_⟩
 ·intro O J K;exact⟨(0,[],J,[]),⟨aS _,rfl,Y.tr K.cL,jK.nil⟩,Sub.gn [] K⟩
 rintro⟨i,rv,w1,iv⟩ ⟨D,Pm,Y,hE⟩;dsimp only at D Pm Y hE ⊢;refine dB.mk ?_ ?_<;>intro OQ
 ·have OQ:i<m:=by simpa using OQ
  refine⟨((f.cols:Nat):Int),by rw[wrap64]<;>first|rfl|omega,f.cols,f.cols,rfl,rfl,Nat.le_refl _,by unfold ed.cols;omega,by unfold ed.cols;omega,by omega,?_⟩;refine Hx hτ (id:=1) (id2:=2) (tH:=[(1,.arr T.Lint (rv++List.replicate (m-i) (.slice none 0 0))),(0,.box T.Frame [.v (.slice an f.nodes.length cn),.v (.slice ab f.bars.length cb),.v (.slice aq f.cM.length cq)])]) rfl rfl (by decide) rfl ⟨rfl,rfl,trivial⟩ rfl (fun O J r=>?_);have Z:=(r.fits (id:=2) rfl).1;have OR:J.ownsRow 0 T.int 1 (.slice (some ⟨(O 2).g,0,none⟩) f.cols f.cols) f.cols ((List.replicate f.cols (0:Int)).map fun z=>.int .i64 z):=
   ⟨by simp,.inr ⟨(O 2).g,f.cols,(List.replicate f.cols (Value.int .i64 0)).toArray,rfl,aS _,r.arr 2 _ _ rfl,Nat.le_refl _,by unfold ed.cols maxLen;omega,by simp,by simp⟩⟩
  have Ov:=(hE.rel r).push (gx:=(O 2).g) (l:=List.replicate f.cols 0) (fun g G e=>Rel.not r (eI _) G 2 _ rfl Z e.symm) (r.low 2 _ rfl Z).1 (by simp) OR;rw[<-List.replicate_succ']at Ov;have PR:=Y.tr r.cL;generalize (O 2).g=gx at*
  generalize (gx,gx+1)::iv=OU at*
  refine⟨by simp[Pm];omega,(rv++[.slice (some ⟨gx,0,none⟩) f.cols f.cols])++List.replicate (m-(i+1)) (.slice none 0 0),?_,?_⟩
  ·rw[aF,aY,aV];exact Kp Pm OQ
  refine⟨((i+1:Nat):Int),wo,?_⟩;intro IR w3 K;exact⟨(i+1,rv++[.slice (some ⟨gx,0,none⟩) f.cols f.cols],w3,_),⟨OQ,by simp[Pm],PR.tr K.cL,Ov.rel K⟩,Sub.gn [] K,by dsimp only;omega⟩
 have OQ:i=m:=aU D (by simpa using OQ);subst OQ;have hE0:jK w1 w.heap.size iv rv f.cols (eG f 0):=by rw[eG,hm];exact hE
 have hbd0:MT (eG f 0) 0:=fun l hl z hz=>by
  rw[eG]at hl;rw[b9 hl]at hz;rw[b9 hz];exact⟨Int.le_refl _,Int.le_refl _⟩
 refine⟨Nat×World×Iv,fun z=>⟨[(1,pP 0 0),(3,.o (.s 1 0 i i)),(34,sV ab f.bars.length cb),(35,iZ f.bars.length),(36,iN z.1)],[(1,.arr T.Lint rv),(0,.box T.Frame [.v (.slice an f.nodes.length cn),.v (.slice ab f.bars.length cb),.v (.slice aq f.cM.length cq)])],2,z.2.2,z.2.1⟩,fun z=>f.bars.length-z.1,
  fun z=>z.1<=f.bars.length/\dT w.heap.size w z.2.1/\jK z.2.1 w.heap.size z.2.2 rv f.cols (eG f z.1)/\MT (eG f z.1) (12000000*z.1),?_,?_⟩
 ·intro O J K;exact⟨(0,J,_),⟨aS _,Y.tr K.cL,hE0.rel K,hbd0⟩,Sub.gn [] K ⟨by simp;rfl,rfl,trivial⟩⟩
 rintro⟨j,V,iv⟩ ⟨hj,Y,hE,Pf⟩;dsimp only at hj Y hE Pf ⊢;refine dB.mk ?_ ?_<;>intro Pv
 ·have Pv:j<f.bars.length:=by simpa using Pv
  obtain⟨b,hb⟩:∃b,f.bars[j]? =some b:=⟨_,aB Pv⟩
  obtain⟨hA,hB⟩:=OV.JH b (aE hb);obtain⟨ka,pa,ea,Uo,-,hna,⟨_,_⟩,⟨_,_⟩,⟨_,_⟩⟩:=OV.node hA.1 hA.2;obtain⟨kb,pb,eb,OT,-,hnb,⟨_,_⟩,⟨_,_⟩,⟨_,_⟩⟩:=OV.node hB.1 hB.2;obtain⟨adb,U,QM,hF,-,Pn⟩:=hf.bars.load (by decide) hb;obtain⟨g0,g1,g2,g3,g4,g5,g6,g7,rfl,hF⟩:=hF;refine⟨adb,QM,by omega,[.int .i64 b.1,.int .i64 b.2.1,.bool g0,.slice g1 g2 g3,.bool g4,.slice g5 g6 g7],rfl,rdO Pn Y F,?_⟩;refine cB (cG (Id:=fun _ J v V=>v= .agg #[.int .i64 ((f.node b.2.1).1-(f.node b.1).1),.int .i64 ((f.node b.2.1).2.1-(f.node b.1).2.1),.int .i64 ((f.node b.2.1).2.2-(f.node b.1).2.2)]) (fun O J r=>rZ (S:=S) (oS F r) (hf.cC (kS Y r F)).nodes OV hA hB) ?_);rintro O PQ v1 PE r W Oa rfl;replace Y:=Y.tr Oa;replace hE:=hE.cD (E:=(PQ.heap.size,PE.heap.size)::iv) r W fun x L=>aC _ L;generalize (PQ.heap.size,PE.heap.size)::iv=OZ at*
  rw[hna,hnb];have hbD:jR f b=[pb.1-pa.1,pb.2.1-pa.2.1,pb.2.2-pa.2.2]:=by rw[jR,hna,hnb]
  refine⟨Nat×World×Iv,fun z=>⟨[(1,pP 0 0),(3,.o (.s 1 0 i i)),(5,iN j),(6,pP 2 0),(43,.o (.v (.agg #[.int .i64 (pb.1-pa.1),.int .i64 (pb.2.1-pa.2.1),.int .i64 (pb.2.2-pa.2.2)]))),(34,sV ab f.bars.length cb),(35,iZ f.bars.length),(36,iN j),(44,iN z.1)],[(2,.box T.Nx [.v (.int .i64 b.1),.v (.int .i64 b.2.1),.v (.bool g0),.v (.slice g1 g2 g3),.v (.bool g4),.v (.slice g5 g6 g7)]),(1,.arr T.Lint rv),(0,.box T.Frame [.v (.slice an f.nodes.length cn),.v (.slice ab f.bars.length cb),.v (.slice aq f.cM.length cq)])],3,z.2.2,z.2.1⟩,fun z=>3-z.1,
   fun z=>z.1<=3/\dT w.heap.size w z.2.1/\jK z.2.1 w.heap.size z.2.2 rv f.cols (fD f (eG f j) j z.1)/\MT (fD f (eG f j) j z.1) (12000000*j+4000000*z.1),?_,?_⟩
  ·intro O J K;exact⟨(0,J,_),⟨aS _,Y.tr K.cL,hE.rel K,Pf⟩,Sub.gn [] K⟩
  rintro⟨k,w3,iv⟩ ⟨R,Y,hE,Pf⟩;dsimp only at R Y hE Pf ⊢;refine dB.mk ?_ ?_<;>intro OT
  ·have OT:k<3:=by have:=aK OT;omega
   obtain⟨d,hd⟩:∃d,(jR f b).getD k 0=d:=⟨_,rfl⟩
   have hdb: -2000000<=d/\d<=2000000:=by
    rw[<-hd,hbD];rcases(show k=0\/k=1\/k=2 by omega)with rfl|rfl|rfl<;>simp[List.getD]<;>omega
   have hMl:(fD f (eG f j) j k).length=3*f.nodes.length:=by rw[<-hE.len];have:=hE.len;omega
   have Q1:f.cols=f.bars.length+f.cM.length:=rfl;refine zt hτ rfl rfl rfl (fun _=>rfl) rfl ⟨by omega,by omega⟩ (u:=.int .i64 d) ?_ (fun O w4 r=>?_)
   ·rw[<-hd,hbD,aF];rcases(show k=0\/k=1\/k=2 by omega)with rfl|rfl|rfl<;>rfl
   replace Y:=Y.tr r.cL;replace hE:=hE.rel r;obtain⟨la,RG⟩:∃l,(fD f (eG f j) j k)[3*ka+k]? =some l:=⟨_,aB (by first|omega|(rw [bX];omega))⟩
   have hlaw:=hE.wid la (aE RG);obtain⟨za,hza⟩:∃z,la[j]? =some z:=⟨_,aB (by omega)⟩
   have hzab:=Pf la (aE RG) za (aE hza);obtain⟨va,hva⟩:∃v,rv[3*ka+k]? =some v:=⟨_,aB (by have:=(aD.1 RG).1;rw[hE.len];exact this)⟩
   obtain⟨aa5,ca5,rfl⟩:=hE.form hva;obtain⟨ada5,haa5,hxa1,hxa2⟩:=hE.load hva RG hza;refine⟨((3*ka:Nat):Int),by rw[ea,wrap64]<;>omega,((3*ka+k:Nat):Int),wo,by omega,.slice aa5 f.cols ca5,by rw[aF,aY,aV];exact hva,ada5,haa5,by omega,.int .i64 za,fun O J r=>?_,?_⟩
   ·rw[aF,cJ (w:=w4) (V:=J) (by rw[c9];exact Rel.same r (eI _) hxa1)];exact hxa2
   refine⟨za+d,wo,ada5,haa5,by omega,?_⟩;intro O J r;obtain⟨g,G,I,X,N,h4⟩:=hE.store r (z:=za+d) hva RG (show j<f.cols by omega);rw[haa5]at G;injection G with G;subst G;refine⟨I,X,N,fun w5 Rr=>?_⟩;obtain⟨k1,k2,k3,-,-⟩:=h4 w5 Rr;replace Y:=(Y.tr r.cL).tr k2;replace Pf:=Pf.set (r:=3*ka+k) (c:=j) (z:=za+d) (t2:=12000000*j+4000000*k+2000000) (by omega) RG (by omega);replace hE:=k1;obtain⟨lb,Pn⟩:∃l,((fD f (eG f j) j k).set (3*ka+k) (la.set j (za+d)))[3*kb+k]? =some l:=⟨_,aB (by first|omega|(rw [bX];omega))⟩
   have hlbw:=hE.wid lb (aE Pn);obtain⟨zb,Wh⟩:∃z,lb[j]? =some z:=⟨_,aB (by omega)⟩
   have hzbb:=Pf lb (aE Pn) zb (aE Wh);obtain⟨vb,hvb⟩:∃v,rv[3*kb+k]? =some v:=⟨_,aB (by have:=(aD.1 Pn).1;rw[hE.len];exact this)⟩
   obtain⟨ab5,cb5,rfl⟩:=hE.form hvb;obtain⟨adb5,hab5,hxb1,hxb2⟩:=hE.load hvb Pn Wh;refine⟨((3*kb:Nat):Int),by rw[eb,wrap64]<;>omega,((3*kb+k:Nat):Int),wo,by omega,.slice ab5 f.cols cb5,by rw[aF,aY,aV];exact hvb,adb5,hab5,by omega,.int .i64 zb,fun O J r=>?_,?_⟩
   ·rw[aF,cJ (w:=w5) (V:=J) (by rw[c9];exact Rel.same r (eI _) hxb1)];exact hxb2
   refine⟨zb-d,wo,adb5,hab5,by omega,?_⟩;intro O J r;obtain⟨g,G,I,X,N,h4⟩:=hE.store r (z:=zb-d) hvb Pn (show j<f.cols by omega);rw[hab5]at G;injection G with G;subst G;refine⟨I,X,N,fun w5 Rr=>?_⟩;obtain⟨k1,k2,k3,-,-⟩:=h4 w5 Rr;replace Y:=(Y.tr r.cL).tr k2;replace Pf:=Pf.set (r:=3*kb+k) (c:=j) (z:=zb-d) (t2:=12000000*j+4000000*(k+1:Nat)) (by omega) Pn (by omega);replace hE:=k1;rw[Kq hb ea eb hd RG hza Pn Wh]at hE Pf;refine⟨((k+1:Nat):Int),wo,?_⟩;intro IR w6 K;exact⟨(k+1,w6,_),⟨OT,Y.tr K.cL,hE.rel K,Pf⟩,Sub.gn [] K,by dsimp only;omega⟩
  have OT:k=3:=by have:=aH OT;omega
  subst OT;refine⟨((j+1:Nat):Int),wo,?_⟩;intro IR w6 K;exact⟨(j+1,w6,_),⟨Pv,Y.tr K.cL,hE.rel K,fun l hl z hz=>by have:=Pf l hl z hz;dsimp only;omega⟩,Sub.gn [] K,by dsimp only;omega⟩
 have Pv:j=f.bars.length:=aU hj (by simpa using Pv);subst Pv
 refine⟨Nat×World×Iv,fun z=>⟨[(1,pP 0 0),(3,.o (.s 1 0 i i)),(79,sV aq f.cM.length cq),(80,iZ f.cM.length),(81,iN z.1)],[(1,.arr T.Lint rv),(0,.box T.Frame [.v (.slice an f.nodes.length cn),.v (.slice ab f.bars.length cb),.v (.slice aq f.cM.length cq)])],2,z.2.2,z.2.1⟩,fun z=>f.cM.length-z.1,
  fun z=>z.1<=f.cM.length/\dT w.heap.size w z.2.1/\jK z.2.1 w.heap.size z.2.2 rv f.cols (fG f z.1)/\MT (fG f z.1) 800000000,?_,?_⟩
 ·intro O J K;exact⟨(0,J,_),⟨aS _,Y.tr K.cL,hE.rel K,fun l hl z hz=>by have:=Pf l hl z hz;omega⟩,Sub.gn [] K⟩
 rintro⟨j,V,iv⟩ ⟨hj,Y,hE,Pf⟩;dsimp only at hj Y hE Pf ⊢;refine dB.mk ?_ ?_<;>intro Pv
 ·have Pv:j<f.cM.length:=by simpa using Pv
  obtain⟨s,hs⟩:∃b,f.cM[j]? =some b:=⟨_,aB Pv⟩
  obtain⟨hA,hB⟩:=OV.sup s (aE hs);obtain⟨ks,hks⟩:=Int.eq_ofNat_of_zero_le (show 0<=3*s.1+s.2.1 by omega);have Q1:f.cols=f.bars.length+f.cM.length:=rfl;have hMl:=zu f j;obtain⟨l,hl⟩:∃l,(fG f j)[ks]? =some l:=⟨_,aB (by omega)⟩
  have hlw:=hE.wid l (aE hl);obtain⟨v,hv⟩:∃v,rv[ks]? =some v:=⟨_,aB (by rw[hE.len];omega)⟩
  obtain⟨a5,c5,rfl⟩:=hE.form hv;obtain⟨z0,Of⟩:∃z,l[f.bars.length+j]? =some z:=⟨_,aB (by omega)⟩
  obtain⟨ad5,ha5,-,-⟩:=hE.load hv hl Of;obtain⟨adb,U,QM,hF,-,Pn⟩:=hf.cM.load (by decide) hs;obtain⟨g0,g1,g2,g3,g4,g5,g6,g7,rfl,hF⟩:=hF;refine⟨adb,QM,by omega,[.int .i64 s.1,.int .i64 s.2.1,.bool g0,.slice g1 g2 g3,.bool g4,.slice g5 g6 g7],rfl,rdO Pn Y F,?_⟩;refine cI hτ dN [.x 0,.x 1,.x 2,.x 3,.x 4,.x 5,.x 6,.x 7,.x 8,.x 9,.x 10,.x 11,.x 12,.x 13,.x 14,.x 15] (by kernel_rfl) (by kernel_rfl) ?_;refine⟨3*s.1,wo,((ks:Nat):Int),wo,by omega,.slice a5 f.cols c5,by rw[aF,aY,aV];exact hv,((f.bars.length+j:Nat):Int),wo,ad5,ha5,by omega,?_⟩;intro O J r;obtain⟨g,G,I,X,N,h4⟩:=hE.store r (z:=1) hv hl (show f.bars.length+j<f.cols by omega);rw[ha5]at G;injection G with G;subst G;refine⟨I,X,N,fun w5 Rr=>?_⟩;obtain⟨k1,k2,k3,-,-⟩:=h4 w5 Rr;replace Y:=(Y.tr r.cL).tr k2;have VC:=Pf.set (r:=ks) (c:=f.bars.length+j) (z:=1) (t2:=800000000) (by omega) hl (by omega);rw[Kr hs hks hl]at k1 VC;refine⟨((j+1:Nat):Int),wo,?_⟩;intro IR w6 K;exact⟨(j+1,w6,_),⟨Pv,Y.tr K.cL,k1.rel K,VC⟩,Sub.gn [] K,by dsimp only;omega⟩
 have Pv:j=f.cM.length:=aU hj (by simpa using Pv);subst Pv;intro GT we re;have Ov:=hE.rel re;have hMl:=zu f f.cM.length;have TV:=hE.len;refine⟨_,rfl,Y.tr re.cL,⟨rv,?_,hE.len,fun i u x k1 k2=>?_⟩,Pf,hE.wid,by rw[<-hm];exact hMl⟩
 ·rw[show (jF f).length=rv.length from hE.len.symm];have h5:=re.MS (id:=1) (sz:=1) (m:=rv.length) rfl (by simp) (by unfold maxLen;omega) hE.one;rw[show (i:Nat)=rv.length by omega];exact h5.cF fun g G=>.inr G
 ·obtain⟨a,c,rfl⟩:=hE.form k1;have QC:=hE.wid x (aE k2);refine⟨by rw[QC];unfold ed.cols maxLen;omega,by simp,fun v hv=>by obtain⟨z,_,rfl⟩:=aR.1 hv;rfl,a,c,by rw[QC],?_,fun t v hv=>?_⟩
  ·rw[QC];obtain⟨a2,c2,e,h⟩:=ig (hE.row i _ x k1 k2);injection e with e1 e2 e3;omega
  ·rw[aM]at hv
   cases ht:x[t]? with
   |none=>rw[ht]at hv;cases hv
   |some z=>
    rw[ht]at hv;simp only[bY,Option.some.injEq]at hv;subst hv;obtain⟨ad,I,X,N⟩:=Ov.load k1 k2 ht;exact⟨ad,I,Cv.nw X re,by rw[aY]at N;exact N⟩
end Go.Ex
