/- Texts X135 to X143: lemmas, each with its conditions. -/
import Derived.Test.YtgkpbdkechfgmaaGreatP8
set_option maxHeartbeats 2000000
namespace Go.Ex
open Go Go.Sx Go.Proofs
variable{after:Array Edge}{H:Hp}{z:Int}{p:Int×Int×Rat}{iv:Iv}{M:List (List Rat)}{W:List (List Value)}{l:List Int}{ps pv:List Nat}{b qs x:List Rat}{L:List Value}{B c g h id j m n:Nat}{C S S':Nat->Prop}{O:Nat->Sx.da}{guard:Option (Nat×Bool)}{a ax:Option Addr}{row:Option Nat}{dst:Option Tmp}{q:Rat}{F':SV->Hp->Nat->Iv->World->Prop}{u v:Value}{w I:World}{f:fc}
section
variable{S S':Nat->Prop}{H:Hp}{nx n:Nat}{iv K:Iv}{B:Nat}{w J I:World}{O:Nat->Sx.da}{v:Value}{qs:List Rat}
theorem eA.Ng{w0 w1:World}(h:eA w1 S w0.heap.size iv v n qs)(r:Rel H nx iv w0.heap.size w1 O J)(U:Old S w0):eA J S w0.heap.size [(w0.heap.size,J.heap.size)] v n qs:=by
 have X:=h.rel r U;have key:∀g {C8:Nat->Prop},Cv C8 w0.heap.size iv g->Cv C8 w0.heap.size [(w0.heap.size,J.heap.size)] g:=fun g C8 F=>by
  rcases F with F|⟨Y,lo,D,X,N,h4⟩
  .exact .inl F
  .exact .inr ⟨Y,_,_,bJ.2 rfl,Y,by have:=r.sN lo D X;have:=r.size;omega⟩
 exact⟨X.row.cF fun g F=>⟨key g F.1,F.2⟩,fun g F=>key g (X.new g F)⟩
theorem eA.ND(h:eA I (Cv S B iv) J.heap.size [(J.heap.size,I.heap.size)] v n qs)(hB:B<=J.heap.size):eA I S B ((J.heap.size,I.heap.size)::iv) v n qs:=by
 have key:∀g {C8 AC:Nat->Prop},(∀g,AC g->Cv C8 B iv g)->Cv AC J.heap.size [(J.heap.size,I.heap.size)] g->Cv C8 B ((J.heap.size,I.heap.size)::iv) g:=fun g C8 AC hY F=>by
  rcases F with F|⟨Y,lo,D,X,N,h4⟩
  .exact(hY g F).mono fun p hp=>aA _ hp
  .simp at X;obtain⟨rfl,rfl⟩:=X;exact .inr ⟨be,_,_,aI,N,h4⟩
 exact⟨h.row.cF fun g F=>⟨key g (fun _ h=>h) F.1,F.2⟩,fun g F=>key g (fun _ h=>h.elim) (h.new g F)⟩
def Bs(S:Nat->Prop)(B:Nat)(iv:Iv)(v:Value)(g:Nat):Prop:=Cv S B iv g/\v.ownBlock≠some g
theorem Bs.kept(r:Rel H nx iv B w O J)(U:∀g,S g->g<B)(F:J.grownBy I row)(OD:∀g,row=some g->v.ownBlock=some g):∀g,Bs S B iv v g->I.heap[g]? =w.heap[g]? :=fun g h=>by
 rw[F.block g (rlo r U g h.1) fun e=>h.2 (OD g e.symm),rls r U h.1]
theorem Bs.same(r:Rel H nx iv B w O J)(U:∀g,S g->g<B):∀g,Bs S B iv v g->J.heap[g]? =w.heap[g]? :=fun g h=>rls r U h.1
theorem Bs.of(r:Rel H nx iv B w O J)(U:∀g,S g->g<B)(hm:∀p,p∈iv->p∈K)(Z:eA I FF J.heap.size [(J.heap.size,I.heap.size)] v n qs)(h:Cv S B iv g):Bs S B K v g:=
 ⟨h.mono hm,fun e=>by
  have Y:=rlo r U g h;rcases Z.new g e with X|⟨X,_⟩
  .exact X
  .omega⟩
theorem Bs.mono(hm:∀p,p∈iv->p∈K)(h:Bs S B iv v g):Bs S B K v g:=⟨h.1.mono hm,h.2⟩
theorem dT.at{p:Nat}(h:dT w S (.slice a m c) ps)(hj:ps[j]? =some p):∃ad,a=some ad/\S ad.block/\w.cell? (ad.add (j*1))=some (iV (p:Int)):=by
 obtain⟨h0,Y,X,a',c',e,N,h4⟩:=h;injection e with e1 e2 e3;subst e1;obtain⟨ad,k1,k2,k3⟩:=h4 j (iV (p:Int)) (by rw[aO,hj];rfl);exact⟨ad,k1,k2,by rw[aw];exact k3⟩
theorem dT.shape(h:dT w S v ps):∃a c,v= .slice a ps.length c/\ps.length<=c/\ps.length<=maxLen:=by
 obtain⟨h0,Y,X,a,c,e,N,h4⟩:=h;exact⟨a,c,e,N,h0⟩
end
theorem zS{Fd:List (List Rat)}{at_:List (Option Nat)}{fr:List Nat}{n:Nat}(hE:gD n Fd)(OT:∀(k r:Nat),at_[k]? =some (some r)->r<Fd.length):∀k,k<=at_.length->gD n (cZ (Fd,at_,fr) k).1/\∀p∈(cZ (Fd,at_,fr) k).2.1,p<k
 |0,_=>⟨(fun r hr=>by cases hr),fun p hp=>by cases hp⟩
 |k+1,E=>by
  have ih:=zS (fr:=fr) hE OT k be;obtain⟨o,ho⟩:=gO at_ k
  cases o with
  |none=>
   rw[lu (s:=(Fd,at_,fr)) ho];exact⟨ih.1,fun p hp=>Nat.lt_succ_of_lt (ih.2 p hp)⟩
  |some r=>
   rw[lz (s:=(Fd,at_,fr)) ho];refine⟨fun x G=>?_,fun p hp=>?_⟩
   .rcases bV.1 G with G|G
    .exact ih.1 x G
    .rw[bJ.1 G];have:=OT k r ho;dsimp only
     rw[List.getD,aB this];exact hE _ (a9 this)
   .rcases bV.1 hp with hp|hp
    .exact Nat.lt_succ_of_lt (ih.2 p hp)
    .rw[bJ.1 hp];exact cB _
theorem qv(cols:Nat)(hM:gD n M):(dJ M cols).1.length=(dJ M cols).2.1.length/\(dJ M cols).2.2.length=(dJ M cols).2.1.length/\gD n (dJ M cols).1/\(∀p∈(dJ M cols).2.1,p<cols)/\(dJ M cols).2.1.length<=cols:=by
 have OE:=yE cols hM M.length lr;unfold dJ;generalize g8 M cols M.length=s at*
 obtain⟨Fd,at_,fr⟩:=s;have Th:at_.length=cols:=OE.at_;obtain⟨q1,q2,-,q4⟩:=te (Fd,at_,fr) [] cols (by show cols<=at_.length;omega);obtain⟨f1,f2⟩:=zS (Fd:=Fd) (at_:=at_) (fr:=fr) OE.len OE.lt cols be;exact⟨q1,q2,f1,f2,q4⟩
theorem kV(M:List (List Rat))(b:List Rat):(j3 M b).length=M.length:=List.length_mapIdx
theorem He(h:gD n M):gD (n+1) (j3 M b):=fun r hr=>by
 obtain⟨i,D⟩:=aT hr;rw[j3,List.getElem?_mapIdx]at D
 cases hM:M[i]? with
 |none=>rw[hM]at D;cases D
 |some x=>
  rw[hM]at D;simp only[Option.map_some,Option.some.injEq]at D;rw[<-D,aL,h x (aG hM)];rfl
theorem FO{nx:Nat}{J:World}(r:Rel H nx iv B w O J)(h:cw H id=some (.vec T.Rat 4 ([]++W.flatten++L)))(hF:Fc J S W x)(hq:jV J S L q)(hm:x.length<maxLen):
  (O id).nil=false/\cP J (Cv S B (((O id).g,(O id).g+1)::iv)) (.slice (some ⟨(O id).g,0,none⟩) (x.length+1) (O id).cap) (x++[q]):=by
 have OL:=gW hF.AK;have hl:([]++W.flatten++L).length=(x.length+1)*4:=by rw[List.nil_append,aL,OL,hF.1,hq.len];omega
 have SF:=hF.push hq;have R:[]++W.flatten++L=(W++[L]).flatten:=by simp
 have hv:=Kx r (sz:=4) (m:=x.length+1) h hl be bi be (fun u hu=>SF.one u (by rw[<-R];exact hu));refine⟨hv.1,W++[L],?_,SF.1,SF.AK,fun j c y k1 k2=>(SF.2 j c y k1 k2).cF fun g F=>.inl F⟩;rw[aL,aS,<-R];exact hv.2.2.cF fun g F=>.inr ⟨by have:=hv.2.1;omega,_,_,aI,be,be⟩
theorem BH{FS:Nat->Prop}{cols:Nat}(hC:Old C w)(hD:Old FS w)(U:Old S w)(hM:kU w C S v M)(hb:fz w FS S u b)(Po:b.length=M.length)(hlen:gD cols M)(Z:cols<=999)(hR:M.length<=1000)(hB:CI (j3 M b) (cols+1) h)(hh:3*h<=90000):
  eC PG Fn.im #[.agg #[v,iV cols],u] w (eI w fun v' I=>(nM M b cols=none/\v'= .tuple #[nls,.bool false])\/∃x vx,nM M b cols=some x/\v'= .tuple #[vx,.bool true]/\eA I S w.heap.size [(w.heap.size,I.heap.size)] vx cols x):=by
 have V:=bR w;obtain⟨am,cm,rfl,Sd,Rc⟩:=kU.shape hM;obtain⟨ab,cb,rfl,PZ,Rh⟩:=fz.shape hb;unfold maxLen at Rc Rh;refine nY bv ?_
 refine⟨((cols+1:Nat):Int),wo,Nat×List Value×World×Iv,fun z=>⟨[(20,iN z.1),(1,sV ab b.length cb),(2,pP 0 0),(6,pP 1 0),(18,sV am M.length cm),(19,iZ M.length)],[(1,.box T.dY [.w 2 z.2.1.length,.v (iV ((cols+1:Nat):Int))]),(2,.vec T.jQ 1 z.2.1),(0,.box T.dY [.v (.slice am M.length cm),.v (iV cols)])],3,z.2.2.2,z.2.2.1⟩,fun z=>M.length-z.1,
  fun z=>z.1<=M.length/\Bq w z.2.2.1/\dg z.2.2.1 (Cv S w.heap.size z.2.2.2) z.2.1 ((j3 M b).take z.1),?_,?_⟩
 .intro O J r
  exact⟨(0,[],J,[]),⟨aP _,V.tr r.cN,by simp[dg]⟩,Sub.AM 1 0 T.jQ 1 rfl rfl (by simp[kL,SV.sc,At.sc,fp]) r fun Id r1=>
   sbgn [] r1⟩
 rintro⟨i,rv,w1,iv⟩ ⟨D,V,hK⟩;dsimp only at D V hK ⊢;have QY:rv.length=i:=by rw[hK.1,aZ,kV];omega
 apply bS<;>intro Ny
 .have Ny:=dL Ny;obtain⟨x,G⟩:=gO M i;have PJ:=hlen x (aG G);obtain⟨q,hq⟩:=gO b i;have UC:b.getD i 0=q:=by rw[List.getD,hq];rfl
  have OP:(j3 M b).take (i+1)=(j3 M b).take i++[x++[q]]:=by
   rw[aY,show(j3 M b)[i]? =some (x++[q]) by rw[j3,List.getElem?_mapIdx,G,<-UC];rfl];rfl
  obtain⟨adm,um,Qh,PD,km1,km2⟩:=kU.load hM G;obtain⟨W,⟨-,g1,g2,a0,c0,rfl,g4,g5⟩,OR,Sg,Of⟩:=PD;have OL:=gW Sg;obtain⟨adq,L,Ud,hF,hl⟩:=fz.load hb hq;obtain⟨b3,a3,n3,c3,b4,a4,n4,c4,rfl,hF⟩:=hF;refine⟨adm,Qh,be,.slice a0 x.length c0,rd1 km2 V (hC _ km1),?_⟩;refine gH hτ pB (.x 0 (.x 3 (.x 5 (.x 6 (.x 7 (.ld 1 28672 (.ld 8 32256 (.two 2 (.two 4 (.x 9 (.x 10 (.sD 6 (.x 11 (.x 12 (.x 13 (.x 14 .nil))))))) 9 (.x 4 (.x 10 (.sD 6 (.x 11 (.x 12 (.x 13 (.x 14 .nil)))))))) 9 (.x 2 (.x 4 (.x 10 (.sD 6 (.x 11 (.x 12 (.x 13 (.x 14 .nil)))))))))))))))) d4 d4 ?_;refine⟨adq,Ud,be,rC b3 a3 n3 c3 b4 a4 n4 c4,rfl,rdO hl V hD,?_,?_⟩
  .refine⟨rC b3 a3 n3 c3 b4 a4 n4 c4,rfl,rdO hl V hD,rfl,rfl,?_,?_⟩
   .refine .inl ?_;refine⟨W.flatten,g1,g2,fun O J r PB=>?_,?_⟩
    .obtain⟨u0,hu0⟩:=gO W.flatten 0;obtain⟨ad,ha,_,_⟩:=g5 0 u0 hu0;refine⟨ad,ha,fun j u hj=>?_⟩;obtain⟨ad2,Pu,q1,q2⟩:=g5 j u hj;rw[ha]at Pu;injection Pu with Pu;subst Pu;rw[cO (w:=w) (I:=J) (by rw[eV];exact(V.tr r.cN).block _ (U _ q1))];exact q2
    refine⟨rfl,be,mx,?_⟩;rw[aX x.length];refine⟨rC b3 a3 n3 c3 b4 a4 n4 c4,rfl,rdO hl V hD,rfl,rfl,rfl,?_⟩;refine .inl ?_;refine⟨by rw[<-g1];rfl,be,mx,rfl,[(1,.box T.dY [.w 2 rv.length,.v (iV ((cols+1:Nat):Int))]),(2,.vec T.jQ 1 rv),(0,.box T.dY [.v (.slice am M.length cm),.v (iV cols)])],_,rfl,bv,⟨rfl,rfl,rfl,trivial⟩,rfl,fun O J r=>?_⟩;have hv:=FO (S:=S) (x:=x) (q:=q) (W:=W) r (id:=6) rfl ⟨OR,fun j L q k1 k2=>(Of j L q k1 k2).cK fun g F=>(V.tr r.cN).block g (U g F)⟩ (hF.cK (kS V r U)).BF mx;refine⟨hv.1,_,tc (tl:=[(25,pP 1 0),(26,.o (.w 2 rv.length)),(20,iN i),(1,sV ab b.length cb),(2,pP 0 0),(6,pP 1 0),(18,sV am M.length cm),(19,iZ M.length)]) hv.1 (t:=35) (n:=x.length+1) rfl ⟨rfl,rfl,rfl,rfl,rfl,rfl,rfl,rfl,trivial⟩ (by simp[kL,SV.sc,At.sc]),?_⟩;replace hK:=(dg.cF (hK.rel r U) (fun g F=>F.mono fun p hp=>aA _ hp)).push rfl hv.2;rw[<-OP]at hK;replace V:=V.tr r.cN;generalize (O 6).g=gx at*
    generalize (O 6).cap=cx at*
    generalize (gx,gx+1)::iv=OH at*
    refine⟨rfl,?_⟩;refine .inl ?_;refine⟨bv,be,mx,((i+1:Nat):Int),wo,?_⟩;intro IR w3 A;exact⟨(i+1,rv++[.slice (some ⟨gx,0,none⟩) (x.length+1) cx],w3,_),⟨Ny,V.tr A.cN,hK.rel A U⟩,sbgn [(2,8)] A ⟨by dsimp only;rw[l1];rfl,rfl,rfl,trivial⟩,dec Ny⟩
   .refine⟨rfl,?_⟩;refine .inl ?_;refine⟨W.flatten,g1,g2,fun O J r PB=>?_,?_⟩
    .obtain⟨u0,hu0⟩:=gO W.flatten 0;obtain⟨ad,ha,_,_⟩:=g5 0 u0 hu0;refine⟨ad,ha,fun j u hj=>?_⟩;obtain⟨ad2,Pu,q1,q2⟩:=g5 j u hj;rw[ha]at Pu;injection Pu with Pu;subst Pu;rw[cO (w:=w) (I:=J) (by rw[eV];exact(V.tr r.cN).block _ (U _ q1))];exact q2
    refine⟨rfl,be,mx,?_⟩;rw[aX x.length];refine⟨rfl,?_⟩;refine .inl ?_;refine⟨by rw[<-g1];rfl,be,mx,rfl,[(1,.box T.dY [.w 2 rv.length,.v (iV ((cols+1:Nat):Int))]),(2,.vec T.jQ 1 rv),(0,.box T.dY [.v (.slice am M.length cm),.v (iV cols)])],_,rfl,bv,⟨rfl,rfl,rfl,trivial⟩,rfl,fun O J r=>?_⟩;have hv:=FO (S:=S) (x:=x) (q:=q) (W:=W) r (id:=6) rfl ⟨OR,fun j L q k1 k2=>(Of j L q k1 k2).cK fun g F=>(V.tr r.cN).block g (U g F)⟩ (hF.cK (kS V r U)).BF mx;refine⟨hv.1,_,tc (tl:=[(25,pP 1 0),(26,.o (.w 2 rv.length)),(20,iN i),(1,sV ab b.length cb),(2,pP 0 0),(6,pP 1 0),(18,sV am M.length cm),(19,iZ M.length)]) hv.1 (t:=35) (n:=x.length+1) rfl ⟨rfl,rfl,rfl,rfl,rfl,rfl,rfl,rfl,trivial⟩ (by simp[kL,SV.sc,At.sc]),?_⟩;replace hK:=(dg.cF (hK.rel r U) (fun g F=>F.mono fun p hp=>aA _ hp)).push rfl hv.2;rw[<-OP]at hK;replace V:=V.tr r.cN;generalize (O 6).g=gx at*
    generalize (O 6).cap=cx at*
    generalize (gx,gx+1)::iv=OH at*
    refine⟨rfl,?_⟩;refine .inl ?_;refine⟨bv,be,mx,((i+1:Nat):Int),wo,?_⟩;intro IR w3 A;exact⟨(i+1,rv++[.slice (some ⟨gx,0,none⟩) (x.length+1) cx],w3,_),⟨Ny,V.tr A.cN,hK.rel A U⟩,sbgn [(2,8)] A ⟨by dsimp only;rw[l1];rfl,rfl,rfl,trivial⟩,dec Ny⟩
  .refine⟨rfl,rfl,?_⟩;refine .inl ?_;refine⟨W.flatten,g1,g2,fun O J r PB=>?_,?_⟩
   .obtain⟨u0,hu0⟩:=gO W.flatten 0;obtain⟨ad,ha,_,_⟩:=g5 0 u0 hu0;refine⟨ad,ha,fun j u hj=>?_⟩;obtain⟨ad2,Pu,q1,q2⟩:=g5 j u hj;rw[ha]at Pu;injection Pu with Pu;subst Pu;rw[cO (w:=w) (I:=J) (by rw[eV];exact(V.tr r.cN).block _ (U _ q1))];exact q2
   refine⟨rfl,be,mx,?_⟩;rw[aX x.length];refine⟨rfl,?_⟩;refine .inl ?_;refine⟨by rw[<-g1];rfl,be,mx,rfl,[(1,.box T.dY [.w 2 rv.length,.v (iV ((cols+1:Nat):Int))]),(2,.vec T.jQ 1 rv),(0,.box T.dY [.v (.slice am M.length cm),.v (iV cols)])],_,rfl,bv,⟨rfl,rfl,rfl,trivial⟩,rfl,fun O J r=>?_⟩;have hv:=FO (S:=S) (x:=x) (q:=q) (W:=W) r (id:=6) rfl ⟨OR,fun j L q k1 k2=>(Of j L q k1 k2).cK fun g F=>(V.tr r.cN).block g (U g F)⟩ (hF.cK (kS V r U)).BF mx;refine⟨hv.1,_,tc (tl:=[(25,pP 1 0),(26,.o (.w 2 rv.length)),(20,iN i),(1,sV ab b.length cb),(2,pP 0 0),(6,pP 1 0),(18,sV am M.length cm),(19,iZ M.length)]) hv.1 (t:=35) (n:=x.length+1) rfl ⟨rfl,rfl,rfl,rfl,rfl,rfl,rfl,rfl,trivial⟩ (by simp[kL,SV.sc,At.sc]),?_⟩;replace hK:=(dg.cF (hK.rel r U) (fun g F=>F.mono fun p hp=>aA _ hp)).push rfl hv.2;rw[<-OP]at hK;replace V:=V.tr r.cN;generalize (O 6).g=gx at*
   generalize (O 6).cap=cx at*
   generalize (gx,gx+1)::iv=OH at*
   refine⟨rfl,?_⟩;refine .inl ?_;refine⟨bv,be,mx,((i+1:Nat):Int),wo,?_⟩;intro IR w3 A;exact⟨(i+1,rv++[.slice (some ⟨gx,0,none⟩) (x.length+1) cx],w3,_),⟨Ny,V.tr A.cN,hK.rel A U⟩,sbgn [(2,8)] A ⟨by dsimp only;rw[l1];rfl,rfl,rfl,trivial⟩,dec Ny⟩
 have Ny:=dE D Ny;rw[bF (by rw[kV];omega)]at hK;have VA:=He (b:=b) hlen;obtain⟨f1,f2,f3,f4,f5⟩:=qv (cols+1) VA;generalize hA:(dJ (j3 M b) (cols+1)).1=F8 at*
 generalize hP:(dJ (j3 M b) (cols+1)).2.1=pv at*
 refine inc cols ?_
 refine cD (cM (If:=fun _ J v I=>∃vr vp vf,v= .agg #[vr,iV ((cols+1:Nat):Int),vp,vf]/\cT I (Nw (Cv S w.heap.size iv) J I) vr F8/\dT I (Nf J I) vp pv/\dT I (Nf J I) vf (dJ (j3 M b) (cols+1)).2.2) (fun O J r=>by
  rw[<-hA,<-hP]
  exact uv (C:=fun g=>g<J.heap.size) (fun g F=>F) (rlo r U) ⟨rv,by rw[kV,<-Ny,<-QY];exact(r.iq (id:=2) (sz:=1) (m:=rv.length) rfl bv mx bi hK.2.1).cF fun g F=>F.2,hK.1,fun i u x Y X=>cP.rel (hK.2.2 i u x Y X) r U⟩ VA be be (by rw[kV];omega) lr hB hh) ?_)
 rintro O Ph v1 Pa r R Om ⟨vr,vp,vf,rfl,k1,k2,k3⟩;replace V:=V.tr Om;have hR:=cT.old k1 r.cR;have hV:=dT.iR (S:=FF) k2 r.cR (iv:=(Ph.heap.size,Pa.heap.size)::iv) aI;have hX:=dT.iR (S:=FF) k3 r.cR (iv:=(Ph.heap.size,Pa.heap.size)::iv) aI;generalize (Ph.heap.size,Pa.heap.size)::iv=OK at*
 obtain⟨ar,cr,rfl,SC,hmr⟩:=eH.shape hR;obtain⟨ap,cp,rfl,hcp,hmp⟩:=dT.shape hV;obtain⟨af,cf,rfl,-,-⟩:=dT.shape hX;refine cD (cM (If:=fun _ J v I=>eA I FF J.heap.size [(J.heap.size,I.heap.size)] v cols (List.replicate cols 0)) (fun O J r=>Dp cols J be) ?_);rintro O QT v2 PO r R Om Z;replace V:=V.tr Om;replace hR:=cT.cF (S':=Bs S w.heap.size ((QT.heap.size,PO.heap.size)::OK) v2) (cT.cK (cT.rel hR r U) fun g F=>R.block g (rlo r U g F)) fun g F=>Bs.of r U (fun x G=>aA _ G) Z F;replace hV:=dT.cF (S':=Bs FF w.heap.size ((QT.heap.size,PO.heap.size)::OK) v2) (dT.cK (dT.rel hV r oF) fun g F=>R.block g (rlo r oF g F)) fun g F=>Bs.of r oF (fun x G=>aA _ G) Z F;have hX:=Z.iR (S:=S) r.cR (iv:=(QT.heap.size,PO.heap.size)::OK) aI;generalize (QT.heap.size,PO.heap.size)::OK=OH at*
 obtain⟨ax,cx,rfl,hcx⟩:=hX.row.form;have hXl:=hX.row.le;unfold maxLen at hXl
 refine⟨Nat×World×Iv,fun z=>⟨[(51,iN z.1),(2,pP 0 0),(9,pP 3 0),(10,sV ax cols cx),(49,sV ap pv.length cp),(50,iZ pv.length)],[(3,.box T.dN [.v (.slice ar F8.length cr),.v (iV ((cols+1:Nat):Int)),.v (.slice ap pv.length cp),.v (.slice af (dJ (j3 M b) (cols+1)).2.2.length cf)]),(0,.box T.dY [.v (.slice am M.length cm),.v (iV cols)])],4,z.2.2,z.2.1⟩,fun z=>pv.length-z.1,
  fun z=>z.1<=pv.length/\(∀(t p:Nat),t<z.1->pv[t]? =some p->p≠cols)/\Bq w z.2.1/\cT z.2.1 (Bs S w.heap.size z.2.2 (.slice ax cols cx)) (.slice ar F8.length cr) F8/\dT z.2.1 (Bs FF w.heap.size z.2.2 (.slice ax cols cx)) (.slice ap pv.length cp) pv/\eA z.2.1 S w.heap.size z.2.2 (.slice ax cols cx) cols (gT F8 pv cols z.1),?_,?_⟩
 .intro O J r;exact⟨(0,J,_),⟨aP _,fun t p ht=>absurd ht (Nat.not_lt_zero t),V.tr r.cN,cT.cK hR (Bs.same r U),dT.cK hV (Bs.same r oF),hX.rel r U⟩,sbgn [] r⟩
 rintro⟨k,w3,iv⟩ ⟨E,Sm,V,hR,hV,hX⟩;dsimp only at E Sm V hR hV hX ⊢;apply bS<;>intro OA
 .have OA:=dL OA;obtain⟨p,hp⟩:=gO pv k;have Qw:=f4 p (aG hp);obtain⟨adp,Q7,kp1,kp2⟩:=hV.at hp;refine⟨adp,Q7,be,iV (p:Int),fun O J r=>?_,?_⟩
  .rw[aJ,cO (w:=w3) (I:=J) (by rw[eV];exact rls r oF kp1.1)];exact kp2
  apply bS<;>intro R
  .have R:p=cols:=by
    have:(p:Int)=cols:=by simpa using R
    omega
   intro GT we re;refine⟨_,rfl,V.tr re.cN,.inl ⟨?_,rfl⟩⟩;unfold nM;simp only[hP]
   rw[aH (by rw[<-R];exact aG hp)]
  have R:p≠cols:=fun e=>by rw[e]at R;simp at R
  obtain⟨x,G⟩:=gO F8 k;have PJ:=f3 x (aG G);obtain⟨q,hq⟩:=gO x cols;have Th:dB F8 k cols=q:=by simp[dB,List.getD,G,hq]
  obtain⟨adm,um,Qh,PD,km1,km2⟩:=eH.load hR G;obtain⟨a0,c0,rfl,Sv,-⟩:=eM.shape PD;obtain⟨adq,L,Ud,hF,_,hl⟩:=eM.load PD hq;obtain⟨g0,g1,g2,g3,g4,g5,g6,g7,rfl,hF⟩:=hF;refine dP (idO 14) ?_;refine⟨adm,Qh,be,.slice a0 x.length c0,fun O J r=>?_,?_⟩
  .rw[aJ,cO (w:=w3) (I:=J) (by rw[eV];exact rls r U km1.1)];exact km2
  refine⟨adq,Ud,be,rC g0 g1 g2 g3 g4 g5 g6 g7,rfl,fun O J r j u hu=>?_,?_⟩
  .obtain⟨k1,k2⟩:=hl j u hu;rw[aJ,cO (w:=w3) (I:=J) (by rw[eV,eV];exact rls r U k1.1)];exact k2
  obtain⟨gx,VD⟩:∃g,ax=some ⟨g,0,none⟩:=by
   obtain⟨W,Y,X,N⟩:=hX.row;rcases Y.2 with⟨_,h0⟩|⟨g,cap,cur,e,_⟩
   .omega
   .injection e with e;exact⟨g,e⟩
  subst VD;refine⟨⟨gx,0,none⟩,rfl,be,?_⟩;intro O J r;obtain⟨g,F,Y,X,N,h4,h5⟩:=(hX.rel r U).store (j:=p) be (hF.cK (Bs.same r U)) r U;injection F with F;injection F with F;subst F;refine⟨Y,X,N,fun w5 Qy=>?_⟩;obtain⟨k1,k2,k3⟩:=h5 w5 Qy;have PA:Bq w w5:=(V.tr r.cN).tr (jv.grown k2 (fun g e=>by injection e with e;subst e;exact h4.elim (fun h=>h.elim) fun h=>h.1) r.cR);have QZ:=cT.cK hR (Bs.kept r U k2 fun g e=>e);have hV2:=dT.cK hV (Bs.kept r oF k2 fun g e=>e);have OP:(gT F8 pv cols k).set p q=gT F8 pv cols (k+1):=by rw[gZ,Th,List.getD,hp];rfl
  rw[OP]at k1;refine inc k ?_;intro IR w6 A
  exact⟨(k+1,w6,_),⟨OA,fun t p2 ht Pk=>by
   by_cases TO:t=k
   .rw[TO,hp]at Pk;injection Pk with Pk;rw[<-Pk];exact R
   .exact Sm t p2 (by dsimp only at ht;omega) Pk,PA.tr A.cN,cT.cK QZ (Bs.same A U),dT.cK hV2 (Bs.same A oF),k1.rel A U⟩,sbgn [] A,by dsimp only;omega⟩
 have OA:=dE E OA;subst OA;intro GT we re;refine⟨_,rfl,V.tr re.cN,.inr ⟨_,_,?_,rfl,hX.Ng re U⟩⟩;unfold nM;simp only[hA,hP]
 rw[aF];intro hm;obtain⟨t,ht⟩:=aT hm;exact Sm t cols (aD.1 ht).1 ht rfl
theorem Dt{cols:Nat}(hC:Old C w)(U:Old S w)(hM:kU w C S v M)(hb:cP w S u b)(Po:b.length=M.length)(hlen:gD cols M)(Z:cols<=999)(hR:M.length<=1000)(hB:CI (j3 M b) (cols+1) h)(hh:3*h<=90000):
  eC PG Fn.im #[.agg #[v,iV cols],u] w (eI w fun v' I=>(nM M b cols=none/\v'= .tuple #[nls,.bool false])\/∃x vx,nM M b cols=some x/\v'= .tuple #[vx,.bool true]/\eA I S w.heap.size [(w.heap.size,I.heap.size)] vx cols x):=
 BH hC U U hM (cP.rc hb) Po hlen Z hR hB hh
def sE(pv:List Nat)(n i:Nat):List Value:=(List.range n).map fun c=>.bool (decide (c∈pv.take i))
theorem Hf(pv:List Nat)(n:Nat):sE pv n 0=List.replicate n (.bool false):=by
 refine bY fun j=>?_;rw[sE,aO,List.getElem?_replicate];by_cases h:j<n
 .rw[bf h,aH h];rfl
 .rw[List.getElem?_eq_none (by simp;omega),aF h];rfl
theorem CJ{i:Nat}(h:c<n):(sE pv n i)[c]? =some (.bool (decide (c∈pv.take i))):=by
 rw[sE,aO,bf h];rfl
theorem Hg{i p:Nat}(hp:pv[i]? =some p):(sE pv n i).set p (.bool true)=sE pv n (i+1):=by
 refine bY fun j=>?_;by_cases hj:j<n
 .rw[CJ hj,aY,hp];by_cases hpj:p=j
  .subst hpj;rw[aW (by simp[sE];exact hj)];simp
  .rw[bC hpj,CJ hj];have:j≠p:=fun e=>hpj e.symm;simp[this]
 .rw[List.getElem?_eq_none (by simp[sE];omega),List.getElem?_eq_none (by simp[sE];omega)]
theorem eA.at{cx:Nat}(h:eA w S B iv (.slice ax n cx) n qs)(h0:0<n):∃g,ax=some ⟨g,0,none⟩:=by
 obtain⟨W,Y,X,N⟩:=h.row;rcases Y.2 with⟨_,h0⟩|⟨g,cap,cur,e,_⟩
 .omega
 .injection e with e;exact⟨g,e⟩
theorem Hh(hC:Old C w)(U:Old S w)(hM:kU w C S v M)(hlen:gD n M)(Ub:0<n)(Z:n<=1000)(hR:M.length<=1000)(hB:CI M n h)(hAb:Ht (dJ M n).1 h)(hh:3*h<=90000):
  eC PG Fn.gF #[.agg #[v,iV n]] w (eI w fun v' I=>cT I (Nf w I) v' (kO M n)):=by
 have V:=bR w;obtain⟨am,cm,rfl,Sd,Rc⟩:=kU.shape hM;unfold maxLen at Rc;obtain⟨f1,f2,f3,f4,f5⟩:=qv n hlen;refine jM bv ?_;unfold kO;generalize hA:(dJ M n).1=F8 at*
 generalize hP:(dJ M n).2.1=pv at*
 refine cD (cM (If:=fun _ J v I=>∃vr vp vf,v= .agg #[vr,iV n,vp,vf]/\cT I (Nw S J I) vr F8/\dT I (Nf J I) vp pv/\dT I (Nf J I) vf (dJ M n).2.2) (fun O J r=>by
  rw[<-hA,<-hP];obtain⟨rv,m1,m2,m3⟩:=hM
  exact uv (C:=C) (S:=S) (oS hC r) (oS U r) ⟨rv,m1.cK fun g F=>(V.tr r.cN).block g (hC g F),m2,fun i u x Y X=>cP.cK (m3 i u x Y X) fun g F=>(V.tr r.cN).block g (U g F)⟩ hlen Ub Z hR lr hB hh) ?_)
 rintro O Ph v1 Pa r R Om ⟨vr,vp,vf,rfl,k1,k2,k3⟩;replace V:=V.tr Om;have hR:=cT.old (cT.cF k1 fun g F=>F.imp (fun h=>(Or.inl h:Cv S w.heap.size [] g)) id) r.cR;have hV:=dT.iR (S:=FF) k2 r.cR (iv:=(Ph.heap.size,Pa.heap.size)::[]) aI;have hX:=dT.iR (S:=FF) k3 r.cR (iv:=(Ph.heap.size,Pa.heap.size)::[]) aI;generalize (Ph.heap.size,Pa.heap.size)::[]=OK at*
 obtain⟨ar,cr,rfl,SC,hmr⟩:=eH.shape hR;obtain⟨ap,cp,rfl,hcp,hmp⟩:=dT.shape hV;obtain⟨af,cf,rfl,-,-⟩:=dT.shape hX
 refine⟨n,n,rfl,rfl,lr,be,be,Nat×World×Iv,fun z=>⟨[(1,pP 0 0),(3,pP 1 0),(4,.o (.s 2 0 n n)),(20,sV ap pv.length cp),(21,iZ pv.length),(22,iN z.1)],[(2,.arr T.bool (sE pv n z.1)),(1,.box T.dN [.v (.slice ar F8.length cr),.v (iV n),.v (.slice ap pv.length cp),.v (.slice af (dJ M n).2.2.length cf)]),(0,.box T.dY [.v (.slice am M.length cm),.v (iV n)])],3,z.2.2,z.2.1⟩,fun z=>pv.length-z.1,
  fun z=>z.1<=pv.length/\Bq w z.2.1/\cT z.2.1 (Cv S w.heap.size z.2.2) (.slice ar F8.length cr) F8/\dT z.2.1 (Cf w z.2.2) (.slice ap pv.length cp) pv,?_,?_⟩
 .intro O J A;exact⟨(0,J,_),⟨aP _,V.tr A.cN,cT.rel hR A U,dT.rel hV A oF⟩,sbgn [] A ⟨by dsimp only;rw[Hf];rfl,rfl,rfl,trivial⟩⟩
 rintro⟨i,w1,iv⟩ ⟨D,V,hR,hV⟩;dsimp only at D V hR hV ⊢;apply bS<;>intro Ny
 .have Ny:=dL Ny;obtain⟨p,hp⟩:=gO pv i;have Qw:=f4 p (aG hp);obtain⟨adp,Q7,kp1,kp2⟩:=hV.at hp;refine⟨adp,Q7,be,iV (p:Int),fun O J r=>?_,?_⟩
  .rw[aJ,cO (w:=w1) (I:=J) (by rw[eV];exact rls r oF kp1)];exact kp2
  refine⟨be,by simp[sE];omega,sE pv n (i+1),?_,?_⟩
  .rw[aJ,aw,aX,<-Hg hp];exact iu (by simp[sE];omega)
  refine inc i ?_;intro IR w3 A;exact⟨(i+1,w3,_),⟨Ny,V.tr A.cN,cT.rel hR A U,dT.rel hV A oF⟩,sbgn [] A,dec Ny⟩
 have Ny:=dE D Ny;subst Ny
 refine⟨Nat×List Value×World×Iv,fun z=>⟨[(32,iN z.1),(7,.o (.w 3 z.2.1.length)),(1,pP 0 0),(3,pP 1 0),(4,.o (.s 2 0 n n)),(31,iZ n)],[(2,.arr T.bool (sE pv n pv.length)),(3,.vec T.jQ 1 z.2.1),(1,.box T.dN [.v (.slice ar F8.length cr),.v (iV n),.v (.slice ap pv.length cp),.v (.slice af (dJ M n).2.2.length cf)]),(0,.box T.dY [.v (.slice am M.length cm),.v (iV n)])],4,z.2.2.2,z.2.2.1⟩,fun z=>n-z.1,
  fun z=>z.1<=n/\Bq w z.2.2.1/\cT z.2.2.1 (Cv S w.heap.size z.2.2.2) (.slice ar F8.length cr) F8/\dT z.2.2.1 (Cf w z.2.2.2) (.slice ap pv.length cp) pv/\dg z.2.2.1 (Cf w z.2.2.2) z.2.1 (eK F8 pv n z.1),?_,?_⟩
 .intro O J r;exact⟨(0,[],J,_),⟨aP _,V.tr r.cN,cT.rel hR r U,dT.rel hV r oF,by simp[dg,eK]⟩,Sub.nil 7 T.jQ 1 rfl (by simp[kL,SV.sc,At.sc]) r fun Id r1=>sbgn [] r1⟩
 rintro⟨c,rv,w1,iv⟩ ⟨hc,V,hR,hV,hK⟩;dsimp only at hc V hR hV hK ⊢;have QY:rv.length=(eK F8 pv n c).length:=hK.1;have hrc:=Du F8 pv n c;apply bS<;>intro PZ
 .have PZ:=dL PZ;refine⟨be,.bool (decide (c∈pv)),by rw[aJ,aw,aX,CJ PZ,bG],?_⟩;apply bS<;>intro hm
  .have hm:c∈pv:=by simpa using hm
   refine inc c ?_;intro IR w3 A;exact⟨(c+1,rv,w3,_),⟨PZ,V.tr A.cN,cT.rel hR A U,dT.rel hV A oF,by dsimp only;rw[Dv hm];exact hK.rel A oF⟩,sbgn [] A,dec PZ⟩
  have hm:c∉pv:=by simpa using hm
  refine cD (cM (If:=fun _ J v I=>eA I FF J.heap.size [(J.heap.size,I.heap.size)] v n (List.replicate n 0)) (fun O J r=>Dp n J be) ?_);rintro O QT v2 PO r R Om Qx;replace V:=V.tr Om;replace hR:=cT.cF (S':=Bs S w.heap.size ((QT.heap.size,PO.heap.size)::iv) v2) (cT.cK (cT.rel hR r U) fun g F=>R.block g (rlo r U g F)) fun g F=>Bs.of r U (fun x G=>aA _ G) Qx F;replace hV:=dT.cF (S':=Bs FF w.heap.size ((QT.heap.size,PO.heap.size)::iv) v2) (dT.cK (dT.rel hV r oF) fun g F=>R.block g (rlo r oF g F)) fun g F=>Bs.of r oF (fun x G=>aA _ G) Qx F;replace hK:=dg.cF (S':=Bs FF w.heap.size ((QT.heap.size,PO.heap.size)::iv) v2) (dg.cK (dg.rel hK r oF) fun g F=>R.block g (rlo r oF g F)) fun g F=>Bs.of r oF (fun x G=>aA _ G) Qx F;have hX:=Qx.iR (S:=FF) r.cR (iv:=(QT.heap.size,PO.heap.size)::iv) aI;generalize (QT.heap.size,PO.heap.size)::iv=OH at*
  obtain⟨ax,cx,rfl,hcx⟩:=hX.row.form;obtain⟨gx,rfl⟩:=hX.at Ub;refine cD (cM (If:=fun _ J v I=>cY I (Nf J I) v ((1:Int):Rat)) (fun O J r=>lA 1 J bi bi) ?_);rintro O Pm v3 Pg r R Om Qx;replace V:=V.tr Om;replace hR:=cT.cF (S':=Bs S w.heap.size ((Pm.heap.size,Pg.heap.size)::OH) (.slice (some ⟨gx,0,none⟩) n cx)) (cT.cK (cT.cK hR (Bs.same r U)) fun g F=>R.block g (rlo r U g F.1)) fun g F=>Bs.mono (fun x G=>aA _ G) F;replace hV:=dT.cF (S':=Bs FF w.heap.size ((Pm.heap.size,Pg.heap.size)::OH) (.slice (some ⟨gx,0,none⟩) n cx)) (dT.cK (dT.cK hV (Bs.same r oF)) fun g F=>R.block g (rlo r oF g F.1)) fun g F=>Bs.mono (fun x G=>aA _ G) F;replace hK:=dg.cF (S':=Bs FF w.heap.size ((Pm.heap.size,Pg.heap.size)::OH) (.slice (some ⟨gx,0,none⟩) n cx)) (dg.cK (dg.cK hK (Bs.same r oF)) fun g F=>R.block g (rlo r oF g F.1)) fun g F=>Bs.mono (fun x G=>aA _ G) F;have hd:=(Qx.cF (S':=Bs FF w.heap.size ((Pm.heap.size,Pg.heap.size)::OH) (.slice (some ⟨gx,0,none⟩) n cx)) fun g F=>F.elim (fun h=>h.elim) fun h=>⟨.inr ⟨by have:=r.cR;omega,_,_,aI,h.1,h.2⟩,fun e=>by have:=rlo r oF g (hX.new g e);omega⟩)
  replace hX:=hX.cH (K:=(Pm.heap.size,Pg.heap.size)::OH) r oF R fun x G=>aA _ G;generalize (Pm.heap.size,Pg.heap.size)::OH=OW at*
  obtain⟨A0,A1,A2,A3,A4,A5,A6,A7,rfl⟩:=hd.shape;refine⟨⟨gx,0,none⟩,rfl,be,?_⟩;intro O J r;obtain⟨g,F,Y,X,N,h4,h5⟩:=(hX.rel r oF).store (j:=c) PZ (hd.cK (Bs.same r oF)) r oF;injection F with F;injection F with F;subst F;refine⟨Y,X,N,fun w5 Qy=>?_⟩;obtain⟨k1,k2,k3⟩:=h5 w5 Qy;have PA:Bq w w5:=(V.tr r.cN).tr (jv.grown k2 (fun g e=>by injection e with e;subst e;exact h4.elim (fun h=>h.elim) fun h=>h.1) r.cR);have QZ:=cT.cK hR (Bs.kept r U k2 fun g e=>e);have hV2:=dT.cK hV (Bs.kept r oF k2 fun g e=>e);have Qz:=dg.cK hK (Bs.kept r oF k2 fun g e=>e);have OP:(List.replicate n (0:Rat)).set c ((1:Int):Rat)=ff F8 pv n c 0:=rfl;rw[OP]at k1
  refine⟨Nat×World×Iv,fun z=>⟨[(49,iN z.1),(8,iN c),(9,.o (.v (.slice (some ⟨gx,0,none⟩) n cx))),(32,iN c),(47,sV ap pv.length cp),(48,iZ pv.length),(7,.o (.w 3 rv.length)),(1,pP 0 0),(3,pP 1 0),(4,.o (.s 2 0 n n)),(31,iZ n)],[(2,.arr T.bool (sE pv n pv.length)),(3,.vec T.jQ 1 rv),(1,.box T.dN [.v (.slice ar F8.length cr),.v (iV n),.v (.slice ap pv.length cp),.v (.slice af (dJ M n).2.2.length cf)]),(0,.box T.dY [.v (.slice am M.length cm),.v (iV n)])],4,z.2.2,z.2.1⟩,fun z=>pv.length-z.1,
   fun z=>z.1<=pv.length/\Bq w z.2.1/\cT z.2.1 (Bs S w.heap.size z.2.2 (.slice (some ⟨gx,0,none⟩) n cx)) (.slice ar F8.length cr) F8/\dT z.2.1 (Bs FF w.heap.size z.2.2 (.slice (some ⟨gx,0,none⟩) n cx)) (.slice ap pv.length cp) pv/\dg z.2.1 (Bs FF w.heap.size z.2.2 (.slice (some ⟨gx,0,none⟩) n cx)) rv (eK F8 pv n c)/\eA z.2.1 FF w.heap.size z.2.2 (.slice (some ⟨gx,0,none⟩) n cx) n (ff F8 pv n c z.1),?_,?_⟩
  .intro O J A;exact⟨(0,J,_),⟨aP _,PA.tr A.cN,cT.cK QZ (Bs.same A U),dT.cK hV2 (Bs.same A oF),dg.cK Qz (Bs.same A oF),k1.rel A oF⟩,sbgn [] A⟩
  rintro⟨k,w3,iv⟩ ⟨E,V,hR,hV,hK,hX⟩;dsimp only at E V hR hV hK hX ⊢;apply bS<;>intro OA
  .have OA:=dL OA;obtain⟨p,hp⟩:=gO pv k;have Qw:=f4 p (aG hp);obtain⟨adp,Q7,kp1,kp2⟩:=hV.at hp;obtain⟨x,G⟩:=gO F8 k;have PJ:=f3 x (aG G);obtain⟨q,hq⟩:=gO x c;have Th:dB F8 k c=q:=by simp[dB,List.getD,G,hq]
   have Ta:=hAb x (aG G) q (aG hq);obtain⟨adm,um,Qh,PD,km1,km2⟩:=eH.load hR G;obtain⟨a0,c0,rfl,Sv,-⟩:=eM.shape PD;obtain⟨adq,L,Ud,hF,_,hl⟩:=eM.load PD hq;obtain⟨g0,g1,g2,g3,g4,g5,g6,g7,rfl,hF⟩:=hF;refine⟨adp,Q7,be,iV (p:Int),fun O J r=>?_,?_⟩
   .rw[aJ,cO (w:=w3) (I:=J) (by rw[eV];exact rls r oF kp1.1)];exact kp2
   refine⟨adm,Qh,be,.slice a0 x.length c0,fun O J r=>?_,?_⟩
   .rw[aJ,cO (w:=w3) (I:=J) (by rw[eV];exact rls r U km1.1)];exact km2
   refine⟨adq,Ud,be,rC g0 g1 g2 g3 g4 g5 g6 g7,rfl,fun O J r j u hu=>?_,?_⟩
   .obtain⟨k1,k2⟩:=hl j u hu;rw[aJ,cO (w:=w3) (I:=J) (by rw[eV,eV];exact rls r U k1.1)];exact k2
   refine cD (cM (If:=fun _ J v I=>cY I (Nf J I) v (-q)) (fun O J r=>JV (S:=Bs S w.heap.size iv (.slice (some ⟨gx,0,none⟩) n cx)) (fun g F=>rlo r U g F.1) ((hF.cK (Bs.same r U)).l be)) ?_);rintro O RA v4 Qi r R Om Qx;replace V:=V.tr Om;replace hR:=cT.cF (S':=Bs S w.heap.size ((RA.heap.size,Qi.heap.size)::iv) (.slice (some ⟨gx,0,none⟩) n cx)) (cT.cK (cT.cK hR (Bs.same r U)) fun g F=>R.block g (rlo r U g F.1)) fun g F=>Bs.mono (fun x G=>aA _ G) F;replace hV:=dT.cF (S':=Bs FF w.heap.size ((RA.heap.size,Qi.heap.size)::iv) (.slice (some ⟨gx,0,none⟩) n cx)) (dT.cK (dT.cK hV (Bs.same r oF)) fun g F=>R.block g (rlo r oF g F.1)) fun g F=>Bs.mono (fun x G=>aA _ G) F;replace hK:=dg.cF (S':=Bs FF w.heap.size ((RA.heap.size,Qi.heap.size)::iv) (.slice (some ⟨gx,0,none⟩) n cx)) (dg.cK (dg.cK hK (Bs.same r oF)) fun g F=>R.block g (rlo r oF g F.1)) fun g F=>Bs.mono (fun x G=>aA _ G) F;have hd:=(Qx.cF (S':=Bs FF w.heap.size ((RA.heap.size,Qi.heap.size)::iv) (.slice (some ⟨gx,0,none⟩) n cx)) fun g F=>F.elim (fun h=>h.elim) fun h=>⟨.inr ⟨by have:=r.cR;omega,_,_,aI,h.1,h.2⟩,fun e=>by have:=rlo r oF g (hX.new g e);omega⟩)
   replace hX:=hX.cH (K:=(RA.heap.size,Qi.heap.size)::iv) r oF R fun x G=>aA _ G;generalize (RA.heap.size,Qi.heap.size)::iv=Ow at*
   obtain⟨C0,C1,C2,C3,C4,C5,C6,C7,rfl⟩:=hd.shape;refine⟨⟨gx,0,none⟩,rfl,be,?_⟩;intro O J r;obtain⟨g,F,Y,X,N,h4,h5⟩:=(hX.rel r oF).store (j:=p) be (hd.cK (Bs.same r oF)) r oF;injection F with F;injection F with F;subst F;refine⟨Y,X,N,fun w5 Qy=>?_⟩;obtain⟨k1,k2,k3⟩:=h5 w5 Qy;have PA:Bq w w5:=(V.tr r.cN).tr (jv.grown k2 (fun g e=>by injection e with e;subst e;exact h4.elim (fun h=>h.elim) fun h=>h.1) r.cR);have QZ:=cT.cK hR (Bs.kept r U k2 fun g e=>e);have hV2:=dT.cK hV (Bs.kept r oF k2 fun g e=>e);have Qz:=dg.cK hK (Bs.kept r oF k2 fun g e=>e);have OP:(ff F8 pv n c k).set p (-q)=ff F8 pv n c (k+1):=by rw[gY,Th,List.getD,hp];rfl
   rw[OP]at k1;refine inc k ?_;intro IR w6 A;exact⟨(k+1,w6,_),⟨OA,PA.tr A.cN,cT.cK QZ (Bs.same A U),dT.cK hV2 (Bs.same A oF),dg.cK Qz (Bs.same A oF),k1.rel A oF⟩,sbgn [] A,dec OA⟩
  have OA:=dE E OA;rw[OA]at hX;replace hR:=cT.cF hR fun g F=>F.1;replace hV:=dT.cF hV fun g F=>F.1;replace hK:=(dg.cF hK fun g F=>F.1).push (u:=(.slice (some ⟨gx,0,none⟩) n cx)) (x:=ff F8 pv n c pv.length) rfl (by have:=hX.c;exact this);rw[<-CK hm]at hK;refine .inl ?_;refine⟨bv,be,mx,((c+1:Nat):Int),wo,?_⟩;intro IR w3 A;exact⟨(c+1,rv++[(.slice (some ⟨gx,0,none⟩) n cx)],w3,_),⟨PZ,V.tr A.cN,cT.rel hR A U,dT.rel hV A oF,hK.rel A oF⟩,sbgn [(3,5)] A (hE:=⟨rfl,by dsimp only;rw[l1];rfl,rfl,rfl,rfl,rfl,trivial⟩),dec PZ⟩
 have PZ:=dE hc PZ;subst PZ;intro GT we re;refine⟨_,rfl,V.tr re.cN,rv,?_,hK.1,fun i u x k1 k2=>cP.cF (cP.rel (hK.2.2 i u x k1 k2) re oF) fun g F=>Cv.nw F re⟩;rw[<-hK.1];exact(re.iq (id:=3) (sz:=1) (m:=rv.length) rfl bv mx bi hK.2.1).cF fun g F=>.inr F
structure iS(w:World)(S:Nat->Prop)(B:Nat)(iv:Iv)(v:Value)(n i:Nat)(qs:List Rat):Prop where
 row:∃W,w.ownsRow 0 T.Rat 4 v n W.flatten/\fk w (Bs S B iv v) n i W qs
 new:∀g,v.ownBlock=some g->Cv FF B iv g
section
variable{S S':Nat->Prop}{H:Hp}{nx n i:Nat}{iv K:Iv}{B:Nat}{w J I:World}{O:Nat->Sx.da}{v:Value}{qs:List Rat}
theorem iS.cK(h:iS w S B iv v n i qs)(E:∀g,Cv S B iv g->I.heap[g]? =w.heap[g]?):iS I S B iv v n i qs:=by
 obtain⟨⟨W,Y,X⟩,N⟩:=h;exact⟨⟨W,ownsRow.cK Y fun g F=>E g (KW (N g F)),X.cK fun g F=>E g F.1⟩,N⟩
theorem iS.rel(h:iS w S B iv v n i qs)(r:Rel H nx iv B w O J)(U:∀g,S g->g<B):iS J S B iv v n i qs:=h.cK fun _ F=>rls r U F
theorem iS.mono(h:iS w S B iv v n i qs)(hm:∀p,p∈iv->p∈K):iS w S B K v n i qs:=by
 obtain⟨⟨W,Y,X⟩,N⟩:=h;exact⟨⟨W,Y,X.cF fun g F=>F.mono hm⟩,fun g F=>(N g F).mono hm⟩
theorem iS.cH(h:iS w S B iv v n i qs)(r:Rel H nx iv B w O J)(U:∀g,S g->g<B)(R:Ext J I)(hm:∀p,p∈iv->p∈K):iS I S B K v n i qs:=
 ((h.rel r U).cK fun g F=>R.block g (rlo r U g F)).mono hm
theorem iS.sD(r:Rel H nx iv B w O J)(h:cw H id=some (.arr T.Rat (List.replicate n [Value.bool false,nls,.bool false,nls]).flatten))(Z:n<=maxLen)(qs:List Rat):
  iS J S B (((O id).g,(O id).g+1)::iv) (.slice (some ⟨(O id).g,0,none⟩) n n) n 0 qs:=by
 have Ok:=(r.fits h).1;have h4:∀L∈List.replicate n [Value.bool false,nls,.bool false,nls],L.length=4:=fun L hc=>by rw[List.eq_of_mem_replicate hc];rfl
 have hf:=gW h4;rw[bK]at hf;refine⟨⟨List.replicate n [.bool false,nls,.bool false,nls],⟨hf,.inr ⟨(O id).g,n,_,rfl,aP _,r.arr id _ _ h,lr,Z,bv,by rw[<-hf];exact bG⟩⟩,fk.start J _ n qs⟩,fun g F=>?_⟩;injection F with F;have F:(O id).g=g:=F;subst F;exact .inr ⟨(r.low id _ h Ok).1,_,_,aI,lr,cB _⟩
theorem iS.store{a1 a2:Option Addr}{n1 c1 n2 c2:Nat}{b b2:Bool}(h:iS w S B iv (.slice a n c) n j qs)(hj:j<n)(hq:qs[j]? =some q)(hf:cY w (Bs S B iv (.slice a n c)) (.agg #[.bool b,.slice a1 n1 c1,.bool b2,.slice a2 n2 c2]) q)
  (r:Rel H nx iv B w O J) (U:∀g,S g->g<B):
  ∃g,a=some ⟨g,0,none⟩/\((⟨g,0,none⟩:Addr).add ((j:Int).toNat*4)).spot=none/\
   (∀k,k<4->(J.cell? (((⟨g,0,none⟩:Addr).add ((j:Int).toNat*4)).add k)).isSome=true/\J.frozen? (((⟨g,0,none⟩:Addr).add ((j:Int).toNat*4)).add k)=false)/\
   (∀id b,cw H id=some b->(O id).nil=false->(O id).g≠((⟨g,0,none⟩:Addr).add ((j:Int).toNat*4)).block)/\
   ∀I,I=setCells J ((⟨g,0,none⟩:Addr).add ((j:Int).toNat*4)) (rC b a1 n1 c1 b2 a2 n2 c2)->iS I S B iv (.slice a n c) n (j+1) qs/\J.grownBy I (some g)/\jv B J I/\Rel H nx iv B I O I:=by
 obtain⟨⟨W,Y,X⟩,N⟩:=h.rel r U;have hf:=hf.cK (Bs.same r U);obtain⟨g,rfl,OE,QA,PK,Oj⟩:=om (nv:=rC b a1 n1 c1 b2 a2 n2 c2) Y rfl hj rfl bi;have OX:(⟨g,0,none⟩:Addr).add ((j:Int).toNat*4)=⟨g,j*4,none⟩:=by rw[aJ,dS,aX]
 have QG:=Rel.not r (iH B) (N g rfl);refine⟨g,rfl,by rw[OX],fun k E=>by rw[OX];exact OE k E,fun id b hb Z=>by rw[OX];exact QG id b hb Z,fun I PA=>?_⟩;rw[OX]at PA;subst PA;have Td:=jr (L:=rC b a1 n1 c1 b2 a2 n2 c2) X.four (show j<W.length by rw[X.len];exact hj);rw[Td]at QA;have QD:∀x,Bs S B iv (.slice (some ⟨g,0,none⟩) n c) x->(setCells J ⟨g,j*4,none⟩ (rC b a1 n1 c1 b2 a2 n2 c2)).heap[x]? =J.heap[x]? :=fun x G=>
  PK.block x (rlo r U x G.1) fun e=>G.2 e.symm
 refine⟨⟨⟨_,QA,(X.cK QD).next hj hq (hf.cK QD)⟩,N⟩,PK,jv.grown PK (fun x e=>by injection e with e;subst e;exact(N g rfl).elim (fun h=>h.elim) fun h=>h.1) r.cR,r.xd QG PK⟩
theorem iS.done(h:iS w S B iv v n n qs)(hl:qs.length=n):eA w S B iv v n qs:=by
 obtain⟨⟨W,Y,X⟩,N⟩:=h;exact⟨⟨W,Y,X.len,by rw[X.len,hl],fun j L q k1 k2=>X.at_ j L q (by rw[<-hl];exact(aD.1 k2).1) k1 k2⟩,N⟩
end
theorem qw(M:List (List Rat))(n:Nat):(eS M n).length=n:=by simp[eS]
theorem Hi{k:Nat}(h:k<n):(eS M n)[k]? =some (M.map fun r=>r.getD k 0):=by rw[eS,aO,bf h];rfl
theorem AN(hC:Old C w)(U:Old S w)(hM:kU w C S v M)(hlen:gD n M)(Z:n<=1000)(hR:M.length<=1000):
  eC PG Fn.iz #[.agg #[v,iV n]] w (eI w fun v' I=>∃vr,v'= .agg #[vr,iV M.length]/\cT I (Nw S w I) vr (eS M n)):=by
 have V:=bR w;obtain⟨am,cm,rfl,Sd,Rc⟩:=kU.shape hM;unfold maxLen at Rc;refine kT bv ?_
 refine⟨Nat×List Value×World×Iv,fun z=>⟨[(13,iN z.1),(1,pP 0 0),(2,pP 1 0),(3,pP 2 0),(12,iZ n)],[(2,.box T.dY [.w 3 z.2.1.length,.v (iV M.length)]),(3,.vec T.jQ 1 z.2.1),(1,.box T.dY [.v nls,.v (iV 0)]),(0,.box T.dY [.v (.slice am M.length cm),.v (iV n)])],4,z.2.2.2,z.2.2.1⟩,fun z=>n-z.1,
  fun z=>z.1<=n/\Bq w z.2.2.1/\dg z.2.2.1 (Cv S w.heap.size z.2.2.2) z.2.1 ((eS M n).take z.1),?_,?_⟩
 .intro O J r;exact⟨(0,[],J,[]),⟨aP _,V.tr r.cN,by simp[dg]⟩,Sub.AM 2 0 T.jQ 1 rfl rfl (by simp[kL,SV.sc,At.sc,fp]) r fun Id r1=>sbgn [] r1⟩
 rintro⟨k,rv,w1,iv⟩ ⟨E,V,hK⟩;dsimp only at E V hK ⊢;have QY:rv.length=k:=by rw[hK.1,aZ,qw];omega
 apply bS<;>intro OA
 .have OA:=dL OA;have TO:=Hi (M:=M) OA;have OP:(eS M n).take (k+1)=(eS M n).take k++[M.map fun r=>r.getD k 0]:=by rw[aY,TO];rfl
  refine⟨M.length,M.length,rfl,rfl,lr,be,be,Nat×Nat×World×Iv,fun z=>⟨[(5,.o (.v (.slice (some ⟨z.2.1,0,none⟩) M.length M.length))),(4,iN k),(13,iN k),(22,iZ M.length),(23,iN z.1),(1,pP 0 0),(2,pP 1 0),(3,pP 2 0),(12,iZ n)],[(2,.box T.dY [.w 3 rv.length,.v (iV M.length)]),(3,.vec T.jQ 1 rv),(1,.box T.dY [.v nls,.v (iV 0)]),(0,.box T.dY [.v (.slice am M.length cm),.v (iV n)])],5,z.2.2.2,z.2.2.1⟩,fun z=>M.length-z.1,
   fun z=>z.1<=M.length/\Bq w z.2.2.1/\dg z.2.2.1 (Bs S w.heap.size z.2.2.2 (.slice (some ⟨z.2.1,0,none⟩) M.length M.length)) rv ((eS M n).take k)/\iS z.2.2.1 S w.heap.size z.2.2.2 (.slice (some ⟨z.2.1,0,none⟩) M.length M.length) M.length z.1 (M.map fun r=>r.getD k 0),?_,?_⟩
  .intro O J r;have hf:=iS.sD (S:=S) (n:=M.length) r (id:=4) rfl mx (M.map fun r=>r.getD k 0)
   exact⟨(0,(O 4).g,J,((O 4).g,(O 4).g+1)::iv),⟨aP _,V.tr r.cN,dg.cF (hK.rel r U) fun g F=>⟨F.mono fun p hp=>aA _ hp,fun e=>Rel.not r U F 4 _ rfl (r.fits (id:=4) rfl).1 (by injection e)⟩,hf⟩,
    Sub.sD r (id:=4) (t:=5) rfl rfl ⟨rfl,rfl,rfl,rfl,trivial⟩ rfl ⟨rfl,rfl,rfl,rfl,rfl,rfl,rfl,rfl,trivial⟩ (by simp[kL,SV.sc,At.sc])⟩
  rintro⟨i,gx,I,iv⟩ ⟨D,V,hK,hX⟩;dsimp only at D V hK hX ⊢;apply bS<;>intro Ny
  .have Ny:=dL Ny;obtain⟨x,G⟩:=gO M i;have PJ:=hlen x (aG G);obtain⟨q,hq⟩:=gO x k;have UC:x.getD k 0=q:=by rw[List.getD,hq];rfl
   obtain⟨adm,um,Qh,PD,km1,km2⟩:=kU.load hM G;obtain⟨a0,c0,rfl,Sv,-⟩:=eM.shape PD;obtain⟨adq,L,Ud,hF,_,hl⟩:=eM.load PD hq;obtain⟨g0,g1,g2,g3,g4,g5,g6,g7,rfl,hF⟩:=hF;refine⟨adm,Qh,be,.slice a0 x.length c0,rd1 km2 V (hC _ km1),adq,Ud,be,rC g0 g1 g2 g3 g4 g5 g6 g7,rfl,rdO hl V U,⟨gx,0,none⟩,rfl,be,?_⟩;intro O J r
   have SF:cY I (Bs S w.heap.size iv (.slice (some ⟨gx,0,none⟩) M.length M.length)) (.agg #[.bool g0,.slice g1 g2 g3,.bool g4,.slice g5 g6 g7]) q:=(hF.cK fun g F=>V.block g (U g F)).cF fun g F=>⟨.inl F,fun e=>by
    have Y:=U g F;rcases hX.new g e with X|⟨X,_⟩
    .exact X
    .omega⟩
   obtain⟨g,F,Y,X,N,h4⟩:=hX.store (j:=i) Ny (by rw[aO,G,<-UC];rfl) SF r U;injection F with F;injection F with F;subst F;refine⟨Y,X,N,fun w5 Qy=>?_⟩;obtain⟨k1,k2,k3,k4⟩:=h4 w5 Qy;have PA:=(V.tr r.cN).tr k3;have Qz:=dg.cK hK (Bs.kept r U k2 fun g e=>e);refine inc i ?_;intro IR w6 A;exact⟨(i+1,gx,w6,_),⟨Ny,PA.tr A.cN,dg.cK Qz (Bs.same A U),k1.rel A U⟩,sbgn [] A,dec Ny⟩
  have Ny:=dE D Ny;rw[Ny]at hX;have hX2:=(hX.done bv).c;replace hK:=(dg.cF hK fun g F=>F.1).push (u:=(.slice (some ⟨gx,0,none⟩) M.length M.length)) (x:=M.map fun r=>r.getD k 0) rfl hX2;rw[<-OP]at hK;refine .inl ?_;refine⟨bv,be,mx,((k+1:Nat):Int),wo,?_⟩;intro IR w3 A;exact⟨(k+1,rv++[(.slice (some ⟨gx,0,none⟩) M.length M.length)],w3,_),⟨OA,V.tr A.cN,hK.rel A U⟩,sbgn [(3,6)] A ⟨by dsimp only;rw[l1];rfl,rfl,rfl,rfl,trivial⟩,dec OA⟩
 have OA:=dE E OA;rw[bF (by rw[qw];omega)]at hK;intro GT we re;refine⟨_,rfl,V.tr re.cN,_,rfl,rv,?_,hK.1,fun i u x k1 k2=>cP.cF (cP.rel (hK.2.2 i u x k1 k2) re U) fun g F=>Cv.nw F re⟩;rw[<-hK.1];exact(re.iq (id:=3) (sz:=1) (m:=rv.length) rfl bv mx bi hK.2.1).cF fun g F=>.inr F
theorem ed{k:Nat}(h:∀L∈W,L.length=k):W.flatten.length=W.length*k:=by
 induction W with
 |nil=>simp
 |cons c r ih=>rw[List.flatten_cons,aL,h c aI,ih fun x G=>h x (aA _ G),bO,Nat.succ_mul];omega
theorem uw{k:Nat}(h:∀L∈W,L.length=k)(hj:W[j]? =some L)(i:Nat)(u:Value)(hu:L[i]? =some u):W.flatten[j*k+i]? =some u:=by
 induction W generalizing j with
 |nil=>cases hj
 |cons c r ih=>
  have hc:=h c aI;have D:=(aD.1 hu).1
  cases j with
  |zero=>
   injection hj with hj;subst hj;rw[List.flatten_cons,Nat.zero_mul,aX,aK D];exact hu
  |succ j=>
   rw[List.flatten_cons,aQ (by rw[hc,Nat.succ_mul];omega),hc,show(j+1)*k+i-k=j*k+i by rw[Nat.succ_mul];omega];exact ih (fun x G=>h x (aA _ G)) hj
def dW{α:Type}(k:Nat)(P:World->(Nat->Prop)->List Value->α->Prop)(w:World)(S:Nat->Prop)(v:Value)(xs:List α):Prop:=
 ∃W:List (List Value),jW w S k v W.flatten xs.length/\W.length=xs.length/\(∀L∈W,L.length=k)/\∀(j:Nat) L x,W[j]? =some L->xs[j]? =some x->P w S L x
section
variable{α:Type}{k:Nat}{P:World->(Nat->Prop)->List Value->α->Prop}{w I:World}{S S':Nat->Prop}{v:Value}{xs:List α}
theorem dW.cK(hP:∀L x,P w S L x->P I S L x)(h:dW k P w S v xs)(E:∀g,S g->I.heap[g]? =w.heap[g]?):dW k P I S v xs:=by
 obtain⟨W,Y,X,N,h4⟩:=h;exact⟨W,Y.cK E,X,N,fun j L x k1 k2=>hP L x (h4 j L x k1 k2)⟩
theorem dW.cF(hP:∀L x,P w S L x->P w S' L x)(h:dW k P w S v xs)(E:∀g,S g->S' g):dW k P w S' v xs:=by
 obtain⟨W,Y,X,N,h4⟩:=h;exact⟨W,Y.cF E,X,N,fun j L x k1 k2=>hP L x (h4 j L x k1 k2)⟩
theorem dW.shape(h:dW k P w S v xs):∃a c,v= .slice a xs.length c/\xs.length<=c/\xs.length<=maxLen:=by
 obtain⟨W,⟨h0,_,_,a,c,Y,X,_⟩,_⟩:=h;exact⟨a,c,Y,X,h0⟩
theorem dW.load{x:α}(E:0<k)(h:dW k P w S (.slice a m c) xs)(hq:xs[j]? =some x):
  ∃ad L,a=some ad/\P w S L x/\L.length=k/\∀i u,L[i]? =some u->S ad.block/\w.cell? ((ad.add (j*k)).add i)=some u:=by
 obtain⟨W,⟨h0,Y,X,a',c',e,N,h4⟩,hl,hl4,hf⟩:=h;injection e with e1 e2 e3;subst e1;obtain⟨L,Of⟩:∃L,W[j]? =some L:=⟨_,aB (by rw[hl];exact(aD.1 hq).1)⟩
 have hl:=hl4 L (aG Of);obtain⟨ad,k1,k2,k3⟩:=h4 (j*k+0) _ (uw hl4 Of 0 _ (aB (show 0<L.length by omega)));refine⟨ad,L,k1,hf j L x Of hq,hl,fun i u hu=>?_⟩;obtain⟨ad2,m1,m2,m3⟩:=h4 (j*k+i) u (uw hl4 Of i u hu);rw[k1]at m1;injection m1 with m1;subst m1;refine⟨m2,?_⟩;rw[<-m3];have:(ad.add (j*k)).add i=ad.add (j*k+i):=by
  unfold Addr.add;split<;>split<;>simp_all<;>omega
 rw[this]
end
def Gn(_w:World)(_S:Nat->Prop)(L:List Value)(p:Int×Int×Int):Prop:=L=[iV p.1,iV p.2.1,iV p.2.2]
def dD(_w:World)(_S:Nat->Prop)(L:List Value)(p:Ld):Prop:=L=[iV p.1,iV p.2.1,iV p.2.2.1,iV p.2.2.2]
def CL(w:World)(S:Nat->Prop)(L:List Value)(p:Int×Int×Rat):Prop:=∃b a n c b2 a2 n2 c2,L=[iV p.1,iV p.2.1,.bool b,.slice a n c,.bool b2,.slice a2 n2 c2]/\fP w S (.agg #[.bool b,.slice a n c,.bool b2,.slice a2 n2 c2]) p.2.2
theorem CL.cK(h:CL w S L p)(E:∀g,S g->I.heap[g]? =w.heap[g]?):CL I S L p:=by
 obtain⟨b,a,n,c,b2,a2,n2,c2,Y,X⟩:=h;exact⟨b,a,n,c,b2,a2,n2,c2,Y,X.cK E⟩
theorem CL.cF(h:CL w S L p)(E:∀g,S g->S' g):CL w S' L p:=by
 obtain⟨b,a,n,c,b2,a2,n2,c2,Y,X⟩:=h;exact⟨b,a,n,c,b2,a2,n2,c2,Y,X.cF E⟩
abbrev mM:=dW 3 Gn
abbrev cU:=dW 4 dD
abbrev Jg:=dW 6 CL
structure dq(w:World)(S:Nat->Prop)(vn vb vs:Value)(f:fc):Prop where
 nodes:mM w S vn f.nodes
 bars:Jg w S vb f.bars
 cV:Jg w S vs f.cV
section
variable{S S':Nat->Prop}{H:Hp}{nx:Nat}{iv K:Iv}{B:Nat}{w J I:World}{O:Nat->Sx.da}{v vn vb vs:Value}{f:fc}{l:List Ld}
theorem cU.cK(h:cU w S v l)(E:∀g,S g->I.heap[g]? =w.heap[g]?):cU I S v l:=dW.cK (w:=w) (fun _ _ h=>h) h E
theorem cU.cF(h:cU w S v l)(E:∀g,S g->S' g):cU w S' v l:=dW.cF (S:=S) (fun _ _ h=>h) h E
theorem dq.cK(h:dq w S vn vb vs f)(E:∀g,S g->I.heap[g]? =w.heap[g]?):dq I S vn vb vs f:=
 ⟨dW.cK (w:=w) (fun _ _ h=>h) h.nodes E,dW.cK (fun _ _ h=>h.cK E) h.bars E,dW.cK (fun _ _ h=>h.cK E) h.cV E⟩
theorem dq.cF(h:dq w S vn vb vs f)(E:∀g,S g->S' g):dq w S' vn vb vs f:=
 ⟨dW.cF (S:=S) (fun _ _ h=>h) h.nodes E,dW.cF (fun _ _ h=>h.cF E) h.bars E,dW.cF (fun _ _ h=>h.cF E) h.cV E⟩
theorem dq.rel(h:dq w (Cv S B iv) vn vb vs f)(r:Rel H nx iv B w O J)(U:∀g,S g->g<B):dq J (Cv S B iv) vn vb vs f:=h.cK fun _ F=>rls r U F
theorem dq.shape(h:dq w S vn vb vs f):∃an cn ab cb aq L,vn= .slice an f.nodes.length cn/\vb= .slice ab f.bars.length cb/\vs= .slice aq f.cV.length L/\f.nodes.length<=maxLen/\f.bars.length<=maxLen/\f.cV.length<=maxLen:=by
 obtain⟨an,cn,Y,_,X⟩:=h.nodes.shape;obtain⟨ab,cb,N,_,h4⟩:=h.bars.shape;obtain⟨aq,L,h5,_,h6⟩:=h.cV.shape;exact⟨an,cn,ab,cb,aq,L,Y,N,h5,X,h4,h6⟩
end
theorem iT{P:Program}{τ:mS}{nx:Nat}{l:Env}(hτ:fQ P τ){t ty len e sz by_:Nat}{ag:Bool}{ze ze2:List Value}{ik ik2:IntKind}{b2 tag2 al2 e0:Nat}{fs fs2:List (Nat×Nat)}{x i:Operand}{pos:String}{vx:SV}{L:Array Value}{k:IntKind}{m:Int}
  (ht:τ t=some ⟨sz,ag,by_,ze,6,ik,e,len,fs⟩) (Oq:τ e=some ⟨1,false,b2,ze2,tag2,ik2,e0,al2,fs2⟩) (G:ev l x=some vx) (TP:∀O,vx.den O= .agg L) (D:ev l i=some (.o (.v (.int k m)))) (hm:0<=m/\m<len) (hc:L[m.toNat]? =some u)
  (hK:∀O J,Rel H nx iv B w O J->F' (.o (.v u)) H nx iv J):xK P B ⟨dst,.index t x i,ty,pos,after,guard⟩ l H nx iv w F':=by
 have hto:=(hτ t _ ht).i6 rfl;have RJ:=hτ e _ Oq;refine Ec hto (fun w=>RJ.sizeOf w) (fun w j v hv=>?_) G TP D hm hc hK;simp[part,RJ.isAgg,hv]
structure jA(w:World)(B:Nat)(iv:Iv)(rv:List Value)(n:Nat)(M:List (List Int)):Prop where
 len:rv.length=M.length
 wid:∀l∈M,l.length=n
 row:∀(i:Nat) v l,rv[i]? =some v->M[i]? =some l->w.ownsRow 0 T.int 1 v n (l.map fun z=>iV z)
 ES:∀(i j:Nat) a b g,rv[i]? =some a->rv[j]? =some b->a.ownBlock=some g->b.ownBlock=some g->i=j
 new:∀g,Ob rv g->Cv FF B iv g
section
variable{H:Hp}{nx n:Nat}{iv K:Iv}{B:Nat}{w J I:World}{O:Nat->Sx.da}{rv:List Value}{M:List (List Int)}
theorem jA.nil:jA w B iv [] n []:=⟨rfl,fun l h=>(by cases h),fun i v l h=>(by cases h),fun i j a b g h=>(by cases h),fun g ⟨v,hv,_⟩=>by cases hv⟩
theorem jA.cK(h:jA w B iv rv n M)(E:∀g,Cv FF B iv g->I.heap[g]? =w.heap[g]?):jA I B iv rv n M:=
 ⟨h.len,h.wid,fun i v l Y X=>ownsRow.cK (h.row i v l Y X) fun g F=>E g (h.new g ⟨v,aG Y,F⟩),h.ES,h.new⟩
theorem jA.rel(h:jA w B iv rv n M)(r:Rel H nx iv B w O J):jA J B iv rv n M:=h.cK fun _ F=>rls r (iH B) F
theorem jA.mono(h:jA w B iv rv n M)(hm:∀p,p∈iv->p∈K):jA w B K rv n M:=⟨h.len,h.wid,h.row,h.ES,fun g F=>(h.new g F).mono hm⟩
theorem jA.cH(h:jA w B iv rv n M)(r:Rel H nx iv B w O J)(R:Ext J I)(hm:∀p,p∈iv->p∈K):jA I B K rv n M:=
 ((h.rel r).cK fun g F=>R.block g (rlo r (iH B) g F)).mono hm
theorem jA.form(hM:jA w B iv rv n M){i:Nat}(hv:rv[i]? =some v):∃a c,v= .slice a n c:=by
 obtain⟨l,hl⟩:∃l,M[i]? =some l:=⟨_,aB (by rw[<-hM.len];exact(aD.1 hv).1)⟩
 obtain⟨a,c,h,_⟩:=js (hM.row i v l hv hl);exact⟨a,c,h⟩
theorem jA.one(hM:jA w B iv rv n M):∀u∈rv,u.oneCell'=true:=fun u hu=>by
 obtain⟨i,D⟩:=aT hu;obtain⟨a,c,rfl⟩:=hM.form D;rfl
theorem jA.load(hM:jA w B iv rv n M){i k:Nat}(hv:rv[i]? =some (.slice a n c))(hl:M[i]? =some l)(E:l[k]? =some z):
  ∃ad,a=some ad/\Cv FF B iv ad.block/\w.cell? (ad.add (k*1))=some (iV z):=by
 have h:=hM.row i _ l hv hl;have hlen:=hM.wid l (aG hl);rcases h.2 with⟨_,h0⟩|⟨g,cap,cur,e,_⟩
 .have:=(aD.1 E).1;omega
 .injection e with e;refine⟨⟨g,0,none⟩,e,hM.new g ⟨_,aG hv,by rw[e];rfl⟩,?_⟩;have:=h.cells (g:=g) (by rw[e];rfl) k (iV z) (by rw[aO,E];rfl);rw[aw];exact this
theorem jA.store(hM:jA w B iv rv n M)(r:Rel H nx iv B w O J){i k:Nat}(hv:rv[i]? =some (.slice a n c))(hl:M[i]? =some l)(E:k<n):
  ∃g,a=some ⟨g,0,none⟩/\((⟨g,0,none⟩:Addr).add ((k:Int).toNat*1)).spot=none/\
   (∀j,j<1->(J.cell? (((⟨g,0,none⟩:Addr).add ((k:Int).toNat*1)).add j)).isSome=true/\J.frozen? (((⟨g,0,none⟩:Addr).add ((k:Int).toNat*1)).add j)=false)/\
   (∀id b,cw H id=some b->(O id).nil=false->(O id).g≠((⟨g,0,none⟩:Addr).add ((k:Int).toNat*1)).block)/\
   ∀I,I=setCells J ((⟨g,0,none⟩:Addr).add ((k:Int).toNat*1)) [iV z]->jA I B iv rv n (M.set i (l.set k z))/\jv B J I/\Rel H nx iv B I O I/\J.grownBy I (some g)/\Ob rv g:=by
 have UZ:=hM.rel r;have Y:=UZ.row i _ l hv hl;have hlen:=hM.wid l (aG hl);obtain⟨g,rfl,OE,QA,PK,Oj⟩:=om (nv:=[iV z]) Y rfl E rfl bi;have Qb:Ob rv g:=⟨_,aG hv,rfl⟩
 have OX:(⟨g,0,none⟩:Addr).add ((k:Int).toNat*1)=⟨g,k*1,none⟩:=by rw[aJ,dS,aX]
 have QG:=Rel.not r (iH B) (hM.new g Qb);refine⟨g,rfl,by rw[OX],fun j hj=>by rw[OX];exact OE j hj,fun id b hb Z=>by rw[OX];exact QG id b hb Z,fun I PA=>?_⟩;rw[OX]at PA;subst PA;refine⟨⟨by rw[bm];exact hM.len,fun x G=>?_,fun j v l2 N h4=>?_,hM.ES,hM.new⟩,jv.grown PK (fun x e=>by injection e with e;subst e;exact(hM.new g Qb).elim (fun h=>h.elim) fun h=>h.1) r.cR,r.xd QG PK,PK,Qb⟩
 .rcases b9 G with G|rfl
  .exact hM.wid x G
  .rw[bm];exact hlen
 .by_cases PR:i=j
  .subst PR;rw[hv]at N;injection N with N;subst N;rw[aW (by rw[<-hM.len];exact(aD.1 hv).1)]at h4;injection h4 with h4;subst h4;rw[List.map_set,<-iu (by rw[aM];omega)];simp only[aw]at QA ⊢;exact QA
  .rw[bC PR]at h4;refine ownsRow.cK (UZ.row j v l2 N h4) fun x G=>PK.block x ?_ fun e=>?_
   .exact rlo r (iH B) x (hM.new x ⟨v,aG N,G⟩)
   .injection e with e;exact PR (hM.ES i j _ v x hv N (by rw[<-e];rfl) G)
theorem jA.push(hM:jA w B iv rv n M){gx:Nat}(VD:∀g,Cv FF B iv g->g≠gx)(hBx:B<=gx)(hl:l.length=n)(OD:w.ownsRow 0 T.int 1 (.slice (some ⟨gx,0,none⟩) n n) n (l.map fun z=>iV z)):
  jA w B ((gx,gx+1)::iv) (rv++[.slice (some ⟨gx,0,none⟩) n n]) n (M++[l]):=by
 have Qb:∀g,Ob rv g->g≠gx:=fun g F=>VD g (hM.new g F);have key:∀(k:Nat) v,(rv++[Value.slice (some ⟨gx,0,none⟩) n n])[k]? =some v->(k<rv.length/\rv[k]? =some v)\/(k=rv.length/\v= .slice (some ⟨gx,0,none⟩) n n):=fun k v E=>by
  rcases aR k rv.length with D|D
  .rw[aK D]at E;exact .inl ⟨D,E⟩
  .have Qu:k=rv.length:=by have:=(aD.1 E).1;simp at this;omega
   rw[Qu,aQ lr,bP]at E;simp at E;exact .inr ⟨Qu,E.symm⟩
 refine⟨by simp[hM.len],fun x G=>?_,fun i v x Y X=>?_,fun i j a b g Y X N h4=>?_,fun g F=>?_⟩
 .rcases bV.1 G with G|G
  .exact hM.wid x G
  .rw[bJ.1 G];exact hl
 .rcases key i v Y with⟨D,k1⟩|⟨e1,rfl⟩
  .rw[aK (by rw[<-hM.len];exact D)]at X;exact hM.row i v x k1 X
  .rw[e1,hM.len,aQ lr,bP]at X;simp at X;subst X;exact OD
 .rcases key i a Y with⟨_,k1⟩|⟨e1,rfl⟩<;>rcases key j b X with⟨_,k2⟩|⟨e2,rfl⟩
  .exact hM.ES i j a b g k1 k2 N h4
  .injection h4 with h4;exact absurd h4.symm (Qb g ⟨a,aG k1,N⟩)
  .injection N with N;exact absurd N.symm (Qb g ⟨b,aG k2,h4⟩)
  .rw[e1,e2]
 .rcases Ob.append.1 F with h|h
  .exact(hM.new g h).mono fun p hp=>aA _ hp
  .injection h with h;have h:gx=g:=h;subst h;exact .inr ⟨hBx,_,_,aI,lr,cB _⟩
end
def tf(w:World)(S:Nat->Prop)(v:Value)(l:List Int):Prop:=jW w S 1 v (l.map fun z=>iV z) l.length
abbrev Jc:=eH tf
theorem tf.cK(h:tf w S v l)(E:∀g,S g->I.heap[g]? =w.heap[g]?):tf I S v l:=jW.cK h E
theorem tf.cF(h:tf w S v l)(E:∀g,S g->S' g):tf w S' v l:=jW.cF h E
theorem Jc.cK{M:List (List Int)}(h:Jc w S v M)(E:∀g,S g->I.heap[g]? =w.heap[g]?):Jc I S v M:=by
 obtain⟨rv,Y,X,N⟩:=h;exact⟨rv,Y.cK E,X,fun i u x k1 k2=>(N i u x k1 k2).cK E⟩
theorem Jc.cF{M:List (List Int)}(h:Jc w S v M)(E:∀g,S g->S' g):Jc w S' v M:=by
 obtain⟨rv,Y,X,N⟩:=h;exact⟨rv,Y.cF E,X,fun i u x k1 k2=>(N i u x k1 k2).cF E⟩
theorem tf.at(h:tf w S (.slice a m c) l)(hj:l[j]? =some z):∃ad,a=some ad/\S ad.block/\w.cell? (ad.add (j*1))=some (iV z):=by
 obtain⟨h0,Y,X,a',c',e,N,h4⟩:=h;injection e with e1 e2 e3;subst e1;obtain⟨ad,k1,k2,k3⟩:=h4 j (iV z) (by rw[aO,hj];rfl);exact⟨ad,k1,k2,by rw[aw];exact k3⟩
theorem tf.shape(h:tf w S v l):∃a c,v= .slice a l.length c/\l.length<=c/\l.length<=maxLen:=by
 obtain⟨h0,Y,X,a,c,e,N,h4⟩:=h;exact⟨a,c,e,N,h0⟩
structure wG(f:fc):Prop where
 co:∀p∈f.nodes,(-1000000<=p.1/\p.1<=1000000)/\(-1000000<=p.2.1/\p.2.1<=1000000)/\(-1000000<=p.2.2/\p.2.2<=1000000)
 Mj:∀b∈f.bars,(0<=b.1/\b.1<f.nodes.length)/\(0<=b.2.1/\b.2.1<f.nodes.length)
 sup:∀s∈f.cV,(0<=s.1/\s.1<f.nodes.length)/\(0<=s.2.1/\s.2.1<=2)
 n:f.nodes.length<=20
 b:f.bars.length<=60
 s:f.cV.length<=60
theorem wG.node(h:wG f){i:Int}(h0:0<=i)(Y:i<f.nodes.length):∃k:Nat,∃p,i=k/\k<f.nodes.length/\f.nodes[k]? =some p/\f.node i=p/\(-1000000<=p.1/\p.1<=1000000)/\(-1000000<=p.2.1/\p.2.1<=1000000)/\(-1000000<=p.2.2/\p.2.2<=1000000):=by
 obtain⟨k,rfl⟩:=Int.eq_ofNat_of_zero_le h0;have E:k<f.nodes.length:=by omega
 refine⟨k,f.nodes[k],rfl,E,aB E,?_,h.co _ (a9 E)⟩;rw[fc.node,aJ,List.getD,aB E];rfl
theorem AO{vn vb vs:Value}{a b:Int}{b3 b6:Bool}{a4 a7:Option Addr}{n4 c4 n7 c7:Nat}(U:Old S w)(Z:mM w S vn f.nodes)(OE:wG f)(hA:0<=a/\a<f.nodes.length)(hB:0<=b/\b<f.nodes.length):
  eC PG Fn.kz #[.agg #[vn,vb,vs],.agg #[iV a,iV b,.bool b3,.slice a4 n4 c4,.bool b6,.slice a7 n7 c7]] w (eI w fun v' _=>v'= .agg #[iV ((f.node b).1-(f.node a).1),iV ((f.node b).2.1-(f.node a).2.1),iV ((f.node b).2.2-(f.node a).2.2)]):=by
 have V:=bR w;obtain⟨an,cn,rfl,hcn,RH⟩:=Z.shape;unfold maxLen at RH;obtain⟨ka,pa,ea,hka,hpa,hna,⟨_,_⟩,⟨_,_⟩,⟨_,_⟩⟩:=OE.node hA.1 hA.2;obtain⟨kb,pb,eb,OA,QE,hnb,⟨_,_⟩,⟨_,_⟩,⟨_,_⟩⟩:=OE.node hB.1 hB.2;obtain⟨ada,csa,haa,hPa,-,Q9⟩:=Z.load bi hpa;obtain⟨adb,csb,QB,hPb,-,PT⟩:=Z.load bi QE;have hPa:csa=[iV pa.1,iV pa.2.1,iV pa.2.2]:=hPa;have hPb:csb=[iV pb.1,iV pb.2.1,iV pb.2.2]:=hPb;subst hPa hPb;rw[hna,hnb];subst ea eb;refine o6 bv ?_;refine gH hτ pB (.x 0 (.x 2 (.x 6 (.x 8 (.ld 1 49200 (.ld 3 49200 (.x 4 (.ld 5 49152 (.ld 7 35840 (.ld 9 35840 (.x 10 (.ld 11 32768 (.two 12 (.x 13 (.x 14 (.x 15 .nil))) 13 (.x 12 (.x 14 (.x 15 .nil)))))))))))))))) d4 d4 ?_;refine⟨ada,haa,be,[iV pa.1,iV pa.2.1,iV pa.2.2],rfl,rdO Q9 V U,adb,QB,be,[iV pb.1,iV pb.2.1,iV pb.2.2],rfl,rdO PT V U,?_,?_⟩
 .refine⟨[iV pb.1,iV pb.2.1,iV pb.2.2],rfl,rdO PT V U,rfl,rfl,rfl,[iV pa.1,iV pa.2.1,iV pa.2.2],rfl,rdO Q9 V U,rfl,rfl,rfl,[iV pb.1,iV pb.2.1,iV pb.2.2],rfl,rdO PT V U,rfl,rfl,rfl,[iV pa.1,iV pa.2.1,iV pa.2.2],rfl,rdO Q9 V U,rfl,rfl,rfl,[iV pb.1,iV pb.2.1,iV pb.2.2],rfl,rdO PT V U,rfl,rfl,rfl,pb.1-pa.1,wo,pb.2.1-pa.2.1,wo,pb.2.2-pa.2.2,wo,?_⟩;exact rtn V fun GT we re=>rfl
 .refine⟨[iV pb.1,iV pb.2.1,iV pb.2.2],rfl,rdO PT V U,rfl,rfl,rfl,[iV pa.1,iV pa.2.1,iV pa.2.2],rfl,rdO Q9 V U,rfl,rfl,rfl,[iV pb.1,iV pb.2.1,iV pb.2.2],rfl,rdO PT V U,rfl,rfl,rfl,[iV pa.1,iV pa.2.1,iV pa.2.2],rfl,rdO Q9 V U,rfl,rfl,rfl,[iV pb.1,iV pb.2.1,iV pb.2.2],rfl,rdO PT V U,rfl,rfl,rfl,pb.1-pa.1,wo,pb.2.1-pa.2.1,wo,pb.2.2-pa.2.2,wo,?_⟩;exact rtn V fun GT we re=>rfl
theorem Jd{α:Type}{rv:List α}{a b:α}{i:Nat}(hl:rv.length=i)(h:i<m):(rv++List.replicate (m-i) b).take i++[a]++(rv++List.replicate (m-i) b).drop (i+1)=(rv++[a])++List.replicate (m-(i+1)) b:=by
 rw[List.take_left' hl,List.drop_append,hl,List.drop_of_length_le be,List.nil_append,List.drop_replicate];congr 2;omega
end Go.Ex
namespace Go.Sx
open Go Go.Ex Go.Proofs
variable{L:List Value}{O:Nat->Sx.da}
theorem Rel.Ky{H:Hp}{nx:Nat}{iv:Iv}{B:Nat}{w J:World}(r:Rel H nx iv B w O J){id t m sz:Nat}(h:cw H id=some (.arr t L))(hm:L.length=m*sz)(SB:m<=maxLen)(Y:∀u∈L,u.oneCell'=true):
  jW J (fun g=>B<=g/\g<J.heap.size) sz (.slice (some ⟨(O id).g,0,none⟩) m m) L m:=by
 have hl:=r.low id _ h (r.fits h).1;refine⟨SB,hm,Y,_,m,rfl,lr,fun j u hu=>⟨_,rfl,hl,?_⟩⟩;rw[dS,cell_of (r.arr id _ _ h),aX];exact hu
end Go.Sx
namespace Go.Ex
open Go Go.Sx Go.Proofs
section
variable{d:Int}{b s:Int×Int×Rat}{M:List (List Int)}{l:List Int}{c r:Nat}{S:Nat->Prop}{f:fc}
theorem BI:(yG M r c d).length=M.length:=bm ..
theorem Hj:(putAt M r c d).length=M.length:=bm ..
def Kz(M:List (List Int))(t:Int):Prop:=∀l∈M,∀z∈l,-t<=z/\z<=t
theorem Kz.set{t t2:Int}{z:Int}(h:Kz M t)(ht:t<=t2)(hl:M[r]? =some l)(hz: -t2<=z/\z<=t2):Kz (M.set r (l.set c z)) t2:=fun x G y hy=>by
 rcases b9 G with G|rfl
 .have:=h x G y hy;omega
 .rcases b9 hy with hy|rfl
  .have:=h l (aG hl) y hy;omega
  .exact hz
theorem Dw(f:fc):∀i,(e8 f i).length=3*f.nodes.length
 |0=>bK ..
 |i+1=>by
  have h:=Dw f i;have key:∀k,(fX f (e8 f i) i k).length=3*f.nodes.length:=fun k=>by
   induction k with
   |zero=>exact h
   |succ k ih=>rw[fX,BI,BI];exact ih
  exact key 3
theorem th(f:fc):∀i,(fE f i).length=3*f.nodes.length
 |0=>Dw f _
 |i+1=>by rw[fE,Hj];exact th f i
theorem Je{i k ka kb:Nat}{za zb:Int}{la lb:List Int}(hb:f.bars[i]? =some b)(ea:b.1=ka)(eb:b.2.1=kb)(hd:(yF f b).getD k 0=d)
  (Q9:(fX f M i k)[3*ka+k]? =some la) (hza:la[i]? =some za) (PT:((fX f M i k).set (3*ka+k) (la.set i (za+d)))[3*kb+k]? =some lb) (SS:lb[i]? =some zb):
  ((fX f M i k).set (3*ka+k) (la.set i (za+d))).set (3*kb+k) (lb.set i (zb-d))=fX f M i (k+1):=by
 have Y:f.bars.getD i (0,0,0)=b:=by rw[List.getD,hb];rfl
 have e1:(3*b.1+(k:Int)).toNat=3*ka+k:=by rw[ea];omega
 have e2:(3*b.2.1+(k:Int)).toNat=3*kb+k:=by rw[eb];omega
 have ha:yG (fX f M i k) (3*ka+k) i d=(fX f M i k).set (3*ka+k) (la.set i (za+d)):=by
  rw[yG,show(fX f M i k).getD (3*ka+k) []=la by rw[List.getD,Q9];rfl,show la.getD i 0=za by rw[List.getD,hza];rfl]
 rw[fX];simp only[Y,hd,e1,e2,ha]
 rw[yG,show((fX f M i k).set (3*ka+k) (la.set i (za+d))).getD (3*kb+k) []=lb by rw[List.getD,PT];rfl,show lb.getD i 0=zb by rw[List.getD,SS];rfl,Int.sub_eq_add_neg]
theorem Jf{i ks:Nat}(hs:f.cV[i]? =some s)(es:3*s.1+s.2.1=ks)(hl:(fE f i)[ks]? =some l):(fE f i).set ks (l.set (f.bars.length+i) 1)=fE f (i+1):=by
 rw[fE,putAt];simp only[show f.cV.getD i (0,0,0)=s by rw[List.getD,hs];rfl,es,aJ,show(fE f i).getD ks []=l by rw[List.getD,hl];rfl]
theorem Hk{w:World}{vn vb vs:Value}(U:Old S w)(hf:dq w S vn vb vs f)(OE:wG f):
  eC PG Fn.pL #[.agg #[vn,vb,vs]] w (eI w fun v' I=>Jc I (Nf w I) v' (jG f)/\Kz (jG f) 800000000/\(∀l∈jG f,l.length=f.cols)/\(jG f).length=3*f.nodes.length):=by
 have V:=bR w;obtain⟨an,cn,ab,cb,aq,cq,rfl,rfl,rfl,RH,Rh,Si⟩:=hf.shape;obtain⟨hn20,hb60,hs60⟩:=And.intro OE.n (And.intro OE.b OE.s);refine tW bv ?_;refine⟨((3*f.nodes.length:Nat):Int),wo,?_⟩;obtain⟨m,hm⟩:=exq (3*f.nodes.length);rw[hm]
 refine⟨m,m,rfl,rfl,lr,be,be,Nat×List Value×World×Iv,fun z=>⟨[(1,pP 0 0),(3,.o (.s 1 0 m m)),(17,iZ m),(18,iN z.1)],[(1,.arr T.Lint (z.2.1++List.replicate (m-z.1) nls)),(0,.box T.Frame [.v (.slice an f.nodes.length cn),.v (.slice ab f.bars.length cb),.v (.slice aq f.cV.length cq)])],2,z.2.2.2,z.2.2.1⟩,fun z=>m-z.1,
  fun z=>z.1<=m/\z.2.1.length=z.1/\Bq w z.2.2.1/\jA z.2.2.1 w.heap.size z.2.2.2 z.2.1 f.cols (List.replicate z.1 (List.replicate f.cols 0)),?_,?_⟩
 .intro O J A;exact⟨(0,[],J,[]),⟨aP _,rfl,V.tr A.cN,jA.nil⟩,sbgn [] A⟩
 rintro⟨i,rv,w1,iv⟩ ⟨D,QY,V,hE⟩;dsimp only at D QY V hE ⊢;apply bS<;>intro Ny
 .have Ny:=dL Ny;refine⟨((f.cols:Nat):Int),by rw[wrap64]<;>first|rfl|omega,f.cols,f.cols,rfl,rfl,lr,by unfold fc.cols;omega,by unfold fc.cols;omega,be,?_⟩;refine HK hτ (id:=1) (id2:=2) (tH:=[(1,.arr T.Lint (rv++List.replicate (m-i) nls)),(0,.box T.Frame [.v (.slice an f.nodes.length cn),.v (.slice ab f.bars.length cb),.v (.slice aq f.cV.length cq)])]) rfl rfl bi rfl ⟨rfl,rfl,trivial⟩ rfl (fun O J r=>?_);have Z:=(r.fits (id:=2) rfl).1;have OD:J.ownsRow 0 T.int 1 (.slice (some ⟨(O 2).g,0,none⟩) f.cols f.cols) f.cols ((List.replicate f.cols (0:Int)).map fun z=>iV z):=
   ⟨bv,.inr ⟨(O 2).g,f.cols,(List.replicate f.cols (iV 0)).toArray,rfl,aP _,r.arr 2 _ _ rfl,lr,by unfold fc.cols maxLen;omega,bv,bv⟩⟩
  have OS:=(hE.rel r).push (gx:=(O 2).g) (l:=List.replicate f.cols 0) (fun g F e=>Rel.not r (iH _) F 2 _ rfl Z e.symm) (r.low 2 _ rfl Z).1 bv OD;rw[<-List.replicate_succ']at OS;have PA:=V.tr r.cN;generalize (O 2).g=gx at*
  generalize (gx,gx+1)::iv=OH at*
  refine⟨by simp[QY];omega,(rv++[.slice (some ⟨gx,0,none⟩) f.cols f.cols])++List.replicate (m-(i+1)) nls,?_,?_⟩
  .rw[aJ,aw,aX];exact Jd QY Ny
  refine inc i ?_;intro IR w3 A;exact⟨(i+1,rv++[.slice (some ⟨gx,0,none⟩) f.cols f.cols],w3,_),⟨Ny,by simp[QY],PA.tr A.cN,OS.rel A⟩,sbgn [] A,dec Ny⟩
 have Ny:=dE D Ny;subst Ny;have hE0:jA w1 w.heap.size iv rv f.cols (e8 f 0):=by rw[e8,hm];exact hE
 have hbd0:Kz (e8 f 0) 0:=fun l hl z hz=>by
  rw[e8]at hl;rw[List.eq_of_mem_replicate hl]at hz;rw[List.eq_of_mem_replicate hz];exact⟨Int.le_refl _,Int.le_refl _⟩
 refine⟨Nat×World×Iv,fun z=>⟨[(1,pP 0 0),(3,.o (.s 1 0 i i)),(34,sV ab f.bars.length cb),(35,iZ f.bars.length),(36,iN z.1)],[(1,.arr T.Lint rv),(0,.box T.Frame [.v (.slice an f.nodes.length cn),.v (.slice ab f.bars.length cb),.v (.slice aq f.cV.length cq)])],2,z.2.2,z.2.1⟩,fun z=>f.bars.length-z.1,
  fun z=>z.1<=f.bars.length/\Bq w z.2.1/\jA z.2.1 w.heap.size z.2.2 rv f.cols (e8 f z.1)/\Kz (e8 f z.1) (12000000*z.1),?_,?_⟩
 .intro O J A;exact⟨(0,J,_),⟨aP _,V.tr A.cN,hE0.rel A,hbd0⟩,sbgn [] A ⟨by simp;rfl,rfl,trivial⟩⟩
 rintro⟨j,I,iv⟩ ⟨hj,V,hE,PX⟩;dsimp only at hj V hE PX ⊢;apply bS<;>intro ON
 .have ON:=dL ON;obtain⟨b,hb⟩:=gO f.bars j;obtain⟨hA,hB⟩:=OE.Mj b (aG hb);obtain⟨ka,pa,ea,hka,-,hna,⟨_,_⟩,⟨_,_⟩,⟨_,_⟩⟩:=OE.node hA.1 hA.2;obtain⟨kb,pb,eb,OA,-,hnb,⟨_,_⟩,⟨_,_⟩,⟨_,_⟩⟩:=OE.node hB.1 hB.2;obtain⟨adb,L,QB,hF,-,PT⟩:=hf.bars.load bi hb;obtain⟨g0,g1,g2,g3,g4,g5,g6,g7,rfl,hF⟩:=hF;refine⟨adb,QB,be,[iV b.1,iV b.2.1,.bool g0,.slice g1 g2 g3,.bool g4,.slice g5 g6 g7],rfl,rdO PT V U,?_⟩;refine cD (cM (If:=fun _ J v I=>v= .agg #[iV ((f.node b.2.1).1-(f.node b.1).1),iV ((f.node b.2.1).2.1-(f.node b.1).2.1),iV ((f.node b.2.1).2.2-(f.node b.1).2.2)]) (fun O J r=>AO (S:=S) (oS U r) (hf.cK (kS V r U)).nodes OE hA hB) ?_);rintro O Ph v1 Pa r R Om rfl;replace V:=V.tr Om;replace hE:=hE.cH (K:=(Ph.heap.size,Pa.heap.size)::iv) r R fun x G=>aA _ G;generalize (Ph.heap.size,Pa.heap.size)::iv=OK at*
  rw[hna,hnb];have hbD:yF f b=[pb.1-pa.1,pb.2.1-pa.2.1,pb.2.2-pa.2.2]:=by rw[yF,hna,hnb]
  refine⟨Nat×World×Iv,fun z=>⟨[(1,pP 0 0),(3,.o (.s 1 0 i i)),(5,iN j),(6,pP 2 0),(43,.o (.v (.agg #[iV (pb.1-pa.1),iV (pb.2.1-pa.2.1),iV (pb.2.2-pa.2.2)]))),(34,sV ab f.bars.length cb),(35,iZ f.bars.length),(36,iN j),(44,iN z.1)],[(2,.box T.NS [.v (iV b.1),.v (iV b.2.1),.v (.bool g0),.v (.slice g1 g2 g3),.v (.bool g4),.v (.slice g5 g6 g7)]),(1,.arr T.Lint rv),(0,.box T.Frame [.v (.slice an f.nodes.length cn),.v (.slice ab f.bars.length cb),.v (.slice aq f.cV.length cq)])],3,z.2.2,z.2.1⟩,fun z=>3-z.1,
   fun z=>z.1<=3/\Bq w z.2.1/\jA z.2.1 w.heap.size z.2.2 rv f.cols (fX f (e8 f j) j z.1)/\Kz (fX f (e8 f j) j z.1) (12000000*j+4000000*z.1),?_,?_⟩
  .intro O J A;exact⟨(0,J,_),⟨aP _,V.tr A.cN,hE.rel A,PX⟩,sbgn [] A⟩
  rintro⟨k,w3,iv⟩ ⟨E,V,hE,PX⟩;dsimp only at E V hE PX ⊢;apply bS<;>intro OA
  .have OA:k<3:=by have:=aE OA;omega
   obtain⟨d,hd⟩:=exq ((yF f b).getD k 0);have hdb: -2000000<=d/\d<=2000000:=by
    rw[<-hd,hbD];rcases(show k=0\/k=1\/k=2 by omega)with rfl|rfl|rfl<;>simp[List.getD]<;>omega
   have hMl:(fX f (e8 f j) j k).length=3*f.nodes.length:=by rw[<-hE.len];have:=hE.len;omega
   have QS:f.cols=f.bars.length+f.cV.length:=rfl;refine iT hτ rfl rfl rfl (fun _=>rfl) rfl ⟨be,be⟩ (u:=iV d) ?_ (fun O w4 r=>?_)
   .rw[<-hd,hbD,aJ];rcases(show k=0\/k=1\/k=2 by omega)with rfl|rfl|rfl<;>rfl
   replace V:=V.tr r.cN;replace hE:=hE.rel r;obtain⟨la,Q9⟩:∃l,(fX f (e8 f j) j k)[3*ka+k]? =some l:=⟨_,aB (by first|omega|(rw [bm];omega))⟩
   have hlaw:=hE.wid la (aG Q9);obtain⟨za,hza⟩:=gO la j;have hzab:=PX la (aG Q9) za (aG hza);obtain⟨va,hva⟩:∃v,rv[3*ka+k]? =some v:=⟨_,aB (by have:=(aD.1 Q9).1;rw[hE.len];exact this)⟩
   obtain⟨aa5,ca5,rfl⟩:=hE.form hva;obtain⟨ada5,haa5,hxa1,hxa2⟩:=hE.load hva Q9 hza;refine⟨((3*ka:Nat):Int),by rw[ea,wrap64]<;>omega,((3*ka+k:Nat):Int),wo,be,.slice aa5 f.cols ca5,by rw[aJ,aw,aX];exact hva,ada5,haa5,be,iV za,fun O J r=>?_,?_⟩
   .rw[aJ,cO (w:=w4) (I:=J) (by rw[eV];exact rls r (iH _) hxa1)];exact hxa2
   refine⟨za+d,wo,ada5,haa5,be,?_⟩;intro O J r;obtain⟨g,F,Y,X,N,h4⟩:=hE.store r (z:=za+d) hva Q9 (show j<f.cols by omega);rw[haa5]at F;injection F with F;subst F;refine⟨Y,X,N,fun w5 Qy=>?_⟩;obtain⟨k1,k2,k3,-,-⟩:=h4 w5 Qy;replace V:=(V.tr r.cN).tr k2;replace PX:=PX.set (r:=3*ka+k) (c:=j) (z:=za+d) (t2:=12000000*j+4000000*k+2000000) be Q9 be;replace hE:=k1;obtain⟨lb,PT⟩:∃l,((fX f (e8 f j) j k).set (3*ka+k) (la.set j (za+d)))[3*kb+k]? =some l:=⟨_,aB (by first|omega|(rw [bm];omega))⟩
   have hlbw:=hE.wid lb (aG PT);obtain⟨zb,SS⟩:=gO lb j;have hzbb:=PX lb (aG PT) zb (aG SS);obtain⟨vb,hvb⟩:∃v,rv[3*kb+k]? =some v:=⟨_,aB (by have:=(aD.1 PT).1;rw[hE.len];exact this)⟩
   obtain⟨ab5,cb5,rfl⟩:=hE.form hvb;obtain⟨adb5,hab5,hxb1,hxb2⟩:=hE.load hvb PT SS;refine⟨((3*kb:Nat):Int),by rw[eb,wrap64]<;>omega,((3*kb+k:Nat):Int),wo,be,.slice ab5 f.cols cb5,by rw[aJ,aw,aX];exact hvb,adb5,hab5,be,iV zb,fun O J r=>?_,?_⟩
   .rw[aJ,cO (w:=w5) (I:=J) (by rw[eV];exact rls r (iH _) hxb1)];exact hxb2
   refine⟨zb-d,wo,adb5,hab5,be,?_⟩;intro O J r;obtain⟨g,F,Y,X,N,h4⟩:=hE.store r (z:=zb-d) hvb PT (show j<f.cols by omega);rw[hab5]at F;injection F with F;subst F;refine⟨Y,X,N,fun w5 Qy=>?_⟩;obtain⟨k1,k2,k3,-,-⟩:=h4 w5 Qy;replace V:=(V.tr r.cN).tr k2;replace PX:=PX.set (r:=3*kb+k) (c:=j) (z:=zb-d) (t2:=12000000*j+4000000*(k+1:Nat)) be PT be;replace hE:=k1;rw[Je hb ea eb hd Q9 hza PT SS]at hE PX;refine inc k ?_;intro IR w6 A;exact⟨(k+1,w6,_),⟨OA,V.tr A.cN,hE.rel A,PX⟩,sbgn [] A,dec OA⟩
  have OA:k=3:=by have:=aC OA;omega
  subst OA;refine inc j ?_;intro IR w6 A;exact⟨(j+1,w6,_),⟨ON,V.tr A.cN,hE.rel A,fun l hl z hz=>by have:=PX l hl z hz;dsimp only;omega⟩,sbgn [] A,dec ON⟩
 have ON:=dE hj ON;subst ON
 refine⟨Nat×World×Iv,fun z=>⟨[(1,pP 0 0),(3,.o (.s 1 0 i i)),(79,sV aq f.cV.length cq),(80,iZ f.cV.length),(81,iN z.1)],[(1,.arr T.Lint rv),(0,.box T.Frame [.v (.slice an f.nodes.length cn),.v (.slice ab f.bars.length cb),.v (.slice aq f.cV.length cq)])],2,z.2.2,z.2.1⟩,fun z=>f.cV.length-z.1,
  fun z=>z.1<=f.cV.length/\Bq w z.2.1/\jA z.2.1 w.heap.size z.2.2 rv f.cols (fE f z.1)/\Kz (fE f z.1) 800000000,?_,?_⟩
 .intro O J A;exact⟨(0,J,_),⟨aP _,V.tr A.cN,hE.rel A,fun l hl z hz=>by have:=PX l hl z hz;omega⟩,sbgn [] A⟩
 rintro⟨j,I,iv⟩ ⟨hj,V,hE,PX⟩;dsimp only at hj V hE PX ⊢;apply bS<;>intro ON
 .have ON:=dL ON;obtain⟨s,hs⟩:=gO f.cV j;obtain⟨hA,hB⟩:=OE.sup s (aG hs);obtain⟨ks,hks⟩:=Int.eq_ofNat_of_zero_le (show 0<=3*s.1+s.2.1 by omega);have QS:f.cols=f.bars.length+f.cV.length:=rfl;have hMl:=th f j;obtain⟨l,hl⟩:=gO (fE f j) ks;have hlw:=hE.wid l (aG hl);obtain⟨v,hv⟩:∃v,rv[ks]? =some v:=⟨_,aB (by rw[hE.len];omega)⟩
  obtain⟨a5,c5,rfl⟩:=hE.form hv;obtain⟨z0,OM⟩:=gO l (f.bars.length+j);obtain⟨ad5,ha5,-,-⟩:=hE.load hv hl OM;obtain⟨adb,L,QB,hF,-,PT⟩:=hf.cV.load bi hs;obtain⟨g0,g1,g2,g3,g4,g5,g6,g7,rfl,hF⟩:=hF;refine⟨adb,QB,be,[iV s.1,iV s.2.1,.bool g0,.slice g1 g2 g3,.bool g4,.slice g5 g6 g7],rfl,rdO PT V U,?_⟩;refine dP (idO 16) ?_;refine⟨3*s.1,wo,((ks:Nat):Int),wo,be,.slice a5 f.cols c5,by rw[aJ,aw,aX];exact hv,((f.bars.length+j:Nat):Int),wo,ad5,ha5,be,?_⟩;intro O J r;obtain⟨g,F,Y,X,N,h4⟩:=hE.store r (z:=1) hv hl (show f.bars.length+j<f.cols by omega);rw[ha5]at F;injection F with F;subst F;refine⟨Y,X,N,fun w5 Qy=>?_⟩;obtain⟨k1,k2,k3,-,-⟩:=h4 w5 Qy;replace V:=(V.tr r.cN).tr k2;have Ti:=PX.set (r:=ks) (c:=f.bars.length+j) (z:=1) (t2:=800000000) be hl be;rw[Jf hs hks hl]at k1 Ti;refine inc j ?_;intro IR w6 A;exact⟨(j+1,w6,_),⟨ON,V.tr A.cN,k1.rel A,Ti⟩,sbgn [] A,dec ON⟩
 have ON:=dE hj ON;subst ON;intro GT we re;have OS:=hE.rel re;have hMl:=th f f.cV.length;have SP:=hE.len;refine⟨_,rfl,V.tr re.cN,⟨rv,?_,hE.len,fun i u x k1 k2=>?_⟩,PX,hE.wid,by rw[<-hm];exact hMl⟩
 .rw[show (jG f).length=rv.length from hE.len.symm];have h5:=re.Ky (id:=1) (sz:=1) (m:=rv.length) rfl bv mx hE.one;rw[show (i:Nat)=rv.length by omega];exact h5.cF fun g F=>.inr F
 .obtain⟨a,c,rfl⟩:=hE.form k1;have PJ:=hE.wid x (aG k2);refine⟨by rw[PJ];unfold fc.cols maxLen;omega,bv,fun v hv=>by obtain⟨z,_,rfl⟩:=aV.1 hv;rfl,a,c,by rw[PJ],?_,fun t v hv=>?_⟩
  .rw[PJ];obtain⟨a2,c2,e,h⟩:=js (hE.row i _ x k1 k2);injection e with e1 e2 e3;omega
  .rw[aO]at hv
   cases ht:x[t]? with
   |none=>rw[ht]at hv;cases hv
   |some z=>
    rw[ht]at hv;simp only[Option.map_some,Option.some.injEq]at hv;subst hv;obtain⟨ad,Y,X,N⟩:=OS.load k1 k2 ht;exact⟨ad,Y,Cv.nw X re,by rw[aw]at N;exact N⟩
end
variable{z:Int}{W:List (List Value)}{l s:List Int}{qs:List Rat}{L:List Value}{j:Nat}{S:Nat->Prop}{an:Option Addr}{vb vs:Value}{w:World}{f:fc}
theorem Dy(f:fc):(cQ f).length=3*f.nodes.length:=by rw[cQ,aM];exact th f _
theorem BJ(Y: -2000000000<=z)(X:z<=2000000000):rl (z:Rat)<=1:=by
 have e1:((z:Rat)).num=z:=rfl;have e2:((z:Rat)).den=1:=rfl;rw[rl,e1,e2];have a1:ln z.natAbs<=1:=gC.2 (by rw[uL];omega);have a2:ln 1<=1:=by decide
 omega
theorem sF{vn:Value}(U:Old S w)(hf:dq w S vn vb vs f)(OE:wG f):
  eC PG Fn.oM #[.agg #[vn,vb,vs]] w (eI w fun v' I=>(∃vr,v'= .agg #[vr,iV f.cols]/\cT I (Nf w I) vr (cQ f))/\gD f.cols (cQ f)/\Ht (cQ f) 2):=by
 have V:=bR w;obtain⟨an,cn,ab,cb,aq,cq,rfl,rfl,rfl,RH,Rh,Si⟩:=hf.shape;obtain⟨hn20,hb60,hs60⟩:=And.intro OE.n (And.intro OE.b OE.s);have QS:f.cols=f.bars.length+f.cV.length:=rfl;refine ra bv ?_;refine⟨((f.cols:Nat):Int),by rw[wrap64]<;>first|rfl|omega,?_⟩;refine cD (cM (If:=fun _ J v I=>Jc I (Nf J I) v (jG f)/\Kz (jG f) 800000000/\(∀l∈jG f,l.length=f.cols)/\(jG f).length=3*f.nodes.length) (fun O J r=>Hk (S:=S) (oS U r) (hf.cK (kS V r U)) OE) ?_);rintro O Ph v1 Pa r R Om ⟨k1,PX,hwid,Qo⟩;replace V:=V.tr Om;have hM:=Jc.cF k1 fun g F=>F.iR (B:=w.heap.size) (S:=FF) r.cR (iv:=(Ph.heap.size,Pa.heap.size)::[]) aI;generalize (Ph.heap.size,Pa.heap.size)::[]=OK at*
 obtain⟨am,cm,rfl,Sd,Rc⟩:=eH.shape hM;unfold maxLen at Rc
 refine⟨Nat×List Value×World×Iv,fun z=>⟨[(20,iN z.1),(2,pP 1 0),(3,pP 2 0),(18,.o (.v (.slice am (jG f).length cm))),(19,.o (.v (iV (jG f).length)))],[(2,.box T.dY [.w 3 z.2.1.length,.v (iV ((f.cols:Nat):Int))]),(3,.vec T.jQ 1 z.2.1),(1,.box T.dY [.v nls,.v (iV 0)])],4,z.2.2.2,z.2.2.1⟩,fun z=>(jG f).length-z.1,
  fun z=>z.1<=(jG f).length/\Bq w z.2.2.1/\Jc z.2.2.1 (Cf w z.2.2.2) (.slice am (jG f).length cm) (jG f)/\dg z.2.2.1 (Cf w z.2.2.2) z.2.1 ((cQ f).take z.1),?_,?_⟩
 .intro O J r;exact⟨(0,[],J,_),⟨aP _,V.tr r.cN,hM.cK fun g F=>rls r oF F,by simp[dg]⟩,Sub.AM 2 0 T.jQ 1 rfl rfl (by simp[kL,SV.sc,At.sc,fp]) r fun Id r1=>sbgn [] r1⟩
 rintro⟨k,rv,w1,iv⟩ ⟨E,V,hM,hK⟩;dsimp only at E V hM hK ⊢;have QY:rv.length=k:=by rw[hK.1,aZ,cQ,aM];omega
 apply bS<;>intro OA
 .have OA:k<(jG f).length:=by simpa using OA
  obtain⟨l,hl⟩:=gO (jG f) k;have hlw:=hwid l (aG hl);have OP:(cQ f).take (k+1)=(cQ f).take k++[dx l]:=by rw[aY,show(cQ f)[k]? =some (dx l) by rw[cQ,aO,hl];rfl];rfl
  obtain⟨adm,um,Qh,VF,km1,km2⟩:=eH.load hM hl;obtain⟨a0,c0,rfl,Sv,-⟩:=tf.shape VF;refine⟨adm,Qh,be,.slice a0 l.length c0,fun O J r=>?_,?_⟩
  .rw[aJ,cO (w:=w1) (I:=J) (by rw[eV];exact rls r oF km1)];exact km2
  refine⟨l.length,l.length,rfl,rfl,lr,be,be,Nat×Nat×World×Iv,fun z=>⟨[(6,.o (.v (.slice (some ⟨z.2.1,0,none⟩) l.length l.length))),(5,sV a0 l.length c0),(27,sV a0 l.length c0),(28,iZ l.length),(29,iN z.1),(20,iN k),(2,pP 1 0),(3,pP 2 0),(18,.o (.v (.slice am (jG f).length cm))),(19,.o (.v (iV (jG f).length)))],[(2,.box T.dY [.w 3 rv.length,.v (iV ((f.cols:Nat):Int))]),(3,.vec T.jQ 1 rv),(1,.box T.dY [.v nls,.v (iV 0)])],5,z.2.2.2,z.2.2.1⟩,fun z=>l.length-z.1,
   fun z=>z.1<=l.length/\Bq w z.2.2.1/\Jc z.2.2.1 (Bs FF w.heap.size z.2.2.2 (.slice (some ⟨z.2.1,0,none⟩) l.length l.length)) (.slice am (jG f).length cm) (jG f)/\tf z.2.2.1 (Bs FF w.heap.size z.2.2.2 (.slice (some ⟨z.2.1,0,none⟩) l.length l.length)) (.slice a0 l.length c0) l/\dg z.2.2.1 (Bs FF w.heap.size z.2.2.2 (.slice (some ⟨z.2.1,0,none⟩) l.length l.length)) rv ((cQ f).take k)/\iS z.2.2.1 FF w.heap.size z.2.2.2 (.slice (some ⟨z.2.1,0,none⟩) l.length l.length) l.length z.1 (dx l),?_,?_⟩
  .intro O J r;have hf:=iS.sD (S:=FF) (n:=l.length) r (id:=4) rfl mx (dx l);have hbs:∀g,Cf w iv g->Bs FF w.heap.size (((O 4).g,(O 4).g+1)::iv) (.slice (some ⟨(O 4).g,0,none⟩) l.length l.length) g:=fun g F=>⟨F.mono fun p hp=>aA _ hp,fun e=>Rel.not r oF F 4 _ rfl (r.fits (id:=4) rfl).1 (by injection e)⟩
   exact⟨(0,(O 4).g,J,((O 4).g,(O 4).g+1)::iv),⟨aP _,V.tr r.cN,(hM.cK fun g F=>rls r oF F).cF hbs,(VF.cK fun g F=>rls r oF F).cF hbs,dg.cF (hK.rel r oF) hbs,hf⟩,
    Sub.sD r (id:=4) (t:=6) rfl rfl ⟨rfl,rfl,rfl,trivial⟩ rfl ⟨rfl,rfl,rfl,rfl,rfl,rfl,rfl,rfl,rfl,trivial⟩ (by simp[kL,SV.sc,At.sc])⟩
  rintro⟨i,gx,I,iv⟩ ⟨D,V,hM,VF,hK,hX⟩;dsimp only at D V hM VF hK hX ⊢;apply bS<;>intro Ny
  .have Ny:=dL Ny;obtain⟨z,hz⟩:=gO l i;have SS:=PX l (aG hl) z (aG hz);obtain⟨adz,haz,kz1,kz2⟩:=VF.at hz;refine⟨adz,haz,be,iV z,fun O J r=>?_,?_⟩
   .rw[aJ,cO (w:=I) (I:=J) (by rw[eV];exact rls r oF kz1.1)];exact kz2
   refine cD (cM (If:=fun _ J v I=>cY I (Nf J I) v (z:Rat)) (fun O J r=>lA z J be be) ?_);rintro O Pm v3 Pg r R Om Qx;replace V:=V.tr Om;have hbs:∀g,Bs FF w.heap.size iv (.slice (some ⟨gx,0,none⟩) l.length l.length) g->Bs FF w.heap.size ((Pm.heap.size,Pg.heap.size)::iv) (.slice (some ⟨gx,0,none⟩) l.length l.length) g:=fun g F=>Bs.mono (fun x G=>aA _ G) F;have hbk:∀g,Bs FF w.heap.size iv (.slice (some ⟨gx,0,none⟩) l.length l.length) g->Pg.heap[g]? =I.heap[g]? :=fun g F=>(R.block g (rlo r oF g F.1)).trans (Bs.same r oF g F);replace hM:=(hM.cK hbk).cF hbs;replace VF:=(VF.cK hbk).cF hbs;replace hK:=dg.cF (dg.cK hK hbk) hbs;have hd:=Qx.cF (S':=Bs FF w.heap.size ((Pm.heap.size,Pg.heap.size)::iv) (.slice (some ⟨gx,0,none⟩) l.length l.length)) fun g F=>F.elim (fun h=>h.elim) fun h=>⟨.inr ⟨by have:=r.cR;omega,_,_,aI,h.1,h.2⟩,fun e=>by have:=rlo r oF g (hX.new g e);omega⟩
   replace hX:=hX.cH (K:=(Pm.heap.size,Pg.heap.size)::iv) r oF R fun x G=>aA _ G;generalize (Pm.heap.size,Pg.heap.size)::iv=OW at*
   obtain⟨A0,A1,A2,A3,A4,A5,A6,A7,rfl⟩:=hd.shape;refine⟨⟨gx,0,none⟩,rfl,be,?_⟩;intro O J r;obtain⟨g,F,Y,X,N,h4⟩:=hX.store (j:=i) Ny (by rw[dx,aO,hz];rfl) hd r oF;injection F with F;injection F with F;subst F;refine⟨Y,X,N,fun w5 Qy=>?_⟩;obtain⟨k1,k2,k3,k4⟩:=h4 w5 Qy;have PA:=(V.tr r.cN).tr k3;have UQ:=Bs.kept (v:=(.slice (some ⟨gx,0,none⟩) l.length l.length)) r oF k2 fun g e=>e;have hM2:=hM.cK UQ;have hLm2:=VF.cK UQ;have Qz:=dg.cK hK UQ;refine inc i ?_;intro IR w6 A;exact⟨(i+1,gx,w6,_),⟨Ny,PA.tr A.cN,hM2.cK (Bs.same A oF),hLm2.cK (Bs.same A oF),dg.cK Qz (Bs.same A oF),k1.rel A oF⟩,sbgn [] A,dec Ny⟩
  have Ny:=dE D Ny;rw[Ny]at hX;have hX2:=(hX.done (by simp[dx])).c;replace hK:=(dg.cF hK fun g F=>F.1).push (u:=(.slice (some ⟨gx,0,none⟩) l.length l.length)) (x:=dx l) rfl (by rw[show l.length=(dx l).length by simp[dx]]at hX2 ⊢;exact hX2);rw[<-OP]at hK;replace hM:=hM.cF fun g F=>F.1;refine .inl ?_;refine⟨bv,be,mx,((k+1:Nat):Int),wo,?_⟩;intro IR w3 A;exact⟨(k+1,rv++[(.slice (some ⟨gx,0,none⟩) l.length l.length)],w3,_),⟨OA,V.tr A.cN,hM.cK fun g F=>rls A oF F,hK.rel A oF⟩,sbgn [(3,6)] A ⟨by dsimp only;rw[l1];rfl,rfl,rfl,trivial⟩,dec OA⟩
 have OA:k=(jG f).length:=Nat.le_antisymm E (by simpa using OA);rw[bF (by rw[cQ,aM];omega)]at hK;intro GT we re;refine⟨_,rfl,V.tr re.cN,⟨_,rfl,rv,?_,hK.1,fun i u x k1 k2=>cP.cF (cP.rel (hK.2.2 i u x k1 k2) re oF) fun g F=>Cv.nw F re⟩,fun x G=>?_,fun x G q hq=>?_⟩
 .rw[<-hK.1];exact(re.iq (id:=3) (sz:=1) (m:=rv.length) rfl bv mx bi hK.2.1).cF fun g F=>.inr F
 .obtain⟨l,hl,rfl⟩:=aV.1 G;rw[dx,aM];exact hwid l hl
 .obtain⟨l,hl,rfl⟩:=aV.1 G;obtain⟨z,hz,rfl⟩:=aV.1 hq;have:=PX l hl z hz;have:=BJ (z:=z) be be;omega
def MX(x:Ld):List Int:=[x.2.1,x.2.2.1,x.2.2.2]
def iB(s:List Int)(x:Ld):Nat->List Int
 |0=>s
 |k+1=>GJ (iB s x k) (3*x.1+k).toNat ((MX x).getD k 0)
def gk(n:Nat)(l:List Ld):Nat->List Int
 |0=>List.replicate (3*n) 0
 |i+1=>iB (gk n l i) (l.getD i (0,0,0,0)) 3
def j0(f:fc)(l:List Ld):List Rat:=dx (gk f.nodes.length l l.length)
structure zT(n:Nat)(l:List Ld):Prop where
 len:l.length<=200
 ld:∀x∈l,(0<=x.1/\x.1<n)/\(-1000000<=x.2.1/\x.2.1<=1000000)/\(-1000000<=x.2.2.1/\x.2.2.1<=1000000)/\(-1000000<=x.2.2.2/\x.2.2.2<=1000000)
theorem sG(s:List Int)(x:Ld):∀k,(iB s x k).length=s.length
 |0=>rfl
 |k+1=>by rw[iB,GJ,bm];exact sG s x k
theorem nm(n:Nat)(l:List Ld):∀i,(gk n l i).length=3*n
 |0=>bK ..
 |i+1=>by rw[gk,sG];exact nm n l i
theorem Dz{x:Ld}{k:Nat}{d:Int}(e:3*x.1+(k:Int)=j)(hd:(MX x).getD k 0=d)(hz:(iB s x k)[j]? =some z):(iB s x k).set j (z+d)=iB s x (k+1):=by
 rw[iB,GJ,hd,e,aJ,show(iB s x k).getD j 0=z by rw[List.getD,hz];rfl]
def LB(s:List Int)(t:Int):Prop:=∀z∈s,-t<=z/\z<=t
theorem LB.set{t t2:Int}(h:LB s t)(ht:t<=t2)(hz: -t2<=z/\z<=t2):LB (s.set j z) t2:=fun y hy=>by
 rcases b9 hy with hy|rfl
 .have:=h y hy;omega
 .exact hz
def zv(l:List Int):List Value:=l.map fun z=>iV z
theorem MY(l:List Int):(zv l).length=l.length:=aM ..
theorem Lg(h:l[j]? =some z):(zv l)[j]? =some (iV z):=by rw[zv,aO,h];rfl
theorem MZ(h:j<l.length):(zv l).take j++[iV z]++(zv l).drop (j+1)=zv (l.set j z):=by
 rw[zv,zv,List.map_set];exact iu (by rw[aM];exact h)
theorem np(f:fc):(dC f).length=f.cols:=by simp[dC,fc.cols]
theorem eL.Lh{q:Rat}(h:W.length=qs.length/\∀(j:Nat) L q,W[j]? =some L->qs[j]? =some q->mA w S L q)(hc:mA w S L q):
  (W++[L]).length=(qs++[q]).length/\∀(j:Nat) c p,(W++[L])[j]? =some c->(qs++[q])[j]? =some p->mA w S c p:=by
 refine⟨by simp[h.1],fun j x p Y X=>?_⟩;rcases aR j W.length with D|D
 .rw[aK D]at Y;rw[aK (by rw[<-h.1];exact D)]at X;exact h.2 j x p Y X
 .have Qu:j=W.length:=by have:=(aD.1 Y).1;simp at this;omega
  subst Qu;rw[aQ lr,bP]at Y;rw[h.1,aQ lr,bP]at X;simp at Y X;subst Y X;exact hc
theorem BK{vl:Value}{cn:Nat}{l:List Ld}(U:Old S w)(hl:cU w S vl l)(hn20:f.nodes.length<=20)(OE:zT f.nodes.length l)
  {ab aq:Option Addr} {nb cb nq cq:Nat} (hvb:vb= .slice ab nb cb) (QX:vs= .slice aq nq cq):
  eC PG Fn.pI #[.agg #[.slice an f.nodes.length cn,vb,vs],vl] w (eI w fun v' I=>eA I FF w.heap.size [(w.heap.size,I.heap.size)] v' (3*f.nodes.length) (j0 f l)/\∀q∈j0 f l,rl q<=1):=by
 subst hvb QX;have V:=bR w;obtain⟨al,cl,rfl,OR,Qo⟩:=hl.shape;have VG:=OE.len;refine tT bv ?_;refine⟨((3*f.nodes.length:Nat):Int),wo,?_⟩;obtain⟨m,hm⟩:=exq (3*f.nodes.length);rw[hm]
 refine⟨m,m,rfl,rfl,lr,be,be,Nat×World,fun z=>⟨[(5,.o (.s 1 0 m m)),(18,sV al l.length cl),(19,iZ l.length),(20,iN z.1)],[(1,.arr T.int (zv (gk f.nodes.length l z.1)))],2,[],z.2⟩,fun z=>l.length-z.1,
  fun z=>z.1<=l.length/\Bq w z.2/\LB (gk f.nodes.length l z.1) (3000000*z.1),?_,?_⟩
 .intro O J A;exact⟨(0,J),⟨aP _,V.tr A.cN,fun z hz=>by rw[gk]at hz;rw[List.eq_of_mem_replicate hz];exact⟨Int.le_refl _,Int.le_refl _⟩⟩,sbgn [] A ⟨by dsimp only;rw[gk,hm,zv,List.map_replicate];rfl,trivial⟩⟩
 rintro⟨i,w1⟩ ⟨D,V,PX⟩;dsimp only at D V PX ⊢;apply bS<;>intro Ny
 .have Ny:=dL Ny;obtain⟨x,G⟩:=gO l i;obtain⟨Z,Qe,QH,hx3⟩:=OE.ld x (aG G);obtain⟨kn,hkn⟩:=Int.eq_ofNat_of_zero_le Z.1;obtain⟨adx,L,Od,hP,-,OZ⟩:=hl.load bi G;have hP:L=[iV x.1,iV x.2.1,iV x.2.2.1,iV x.2.2.2]:=hP;subst hP
  refine⟨adx,Od,be,[iV x.1,iV x.2.1,iV x.2.2.1,iV x.2.2.2],rfl,rdO OZ V U,Nat×World,fun z=>⟨[(5,.o (.s 1 0 m m)),(7,pP 2 0),(30,.a [.v (iV x.2.1),.v (iV x.2.2.1),.v (iV x.2.2.2)]),(31,iN z.1),(18,sV al l.length cl),(19,iZ l.length),(20,iN i)],[(2,.box T.gV [.v (iV x.1),.v (iV x.2.1),.v (iV x.2.2.1),.v (iV x.2.2.2)]),(1,.arr T.int (zv (iB (gk f.nodes.length l i) x z.1)))],3,[],z.2⟩,fun z=>3-z.1,
   fun z=>z.1<=3/\Bq w z.2/\LB (iB (gk f.nodes.length l i) x z.1) (3000000*i+1000000*z.1),?_,?_⟩
  .intro O J A;exact⟨(0,J),⟨aP _,V.tr A.cN,PX⟩,sbgn [] A⟩
  rintro⟨k,w3⟩ ⟨E,V,PX⟩;dsimp only at E V PX ⊢;apply bS<;>intro OA
  .have OA:k<3:=by have:=aE OA;omega
   obtain⟨d,hd⟩:=exq ((MX x).getD k 0);have hdb: -1000000<=d/\d<=1000000:=by
    rw[<-hd,MX];rcases(show k=0\/k=1\/k=2 by omega)with rfl|rfl|rfl<;>simp[List.getD]<;>omega
   have hLl:(iB (gk f.nodes.length l i) x k).length=m:=by rw[sG,nm,hm]
   obtain⟨z,hz⟩:=gO (iB (gk f.nodes.length l i) x k) (3*kn+k);have SS:=PX z (aG hz);have Te:3*x.1+(k:Int)=((3*kn+k:Nat):Int):=by omega
   have PI:=Dz Te hd hz;have Ti:=PX.set (j:=3*kn+k) (z:=z+d) (t2:=3000000*i+1000000*(k+1:Nat)) be be;rw[PI]at Ti;refine iT hτ (L:= #[iV x.2.1,iV x.2.2.1,iV x.2.2.2]) rfl rfl rfl (fun _=>rfl) rfl ⟨be,be⟩ (u:=iV d) ?_ (fun O w4 r=>?_)
   .rw[<-hd,MX,aJ];rcases(show k=0\/k=1\/k=2 by omega)with rfl|rfl|rfl<;>rfl
   replace V:=V.tr r.cN;refine⟨3*x.1,wo,((3*kn+k:Nat):Int),wo,be,iV z,by rw[aJ,aw,aX];exact Lg hz,z+d,wo,be,by rw[MY];omega,zv (iB (gk f.nodes.length l i) x (k+1)),?_,?_⟩
   .rw[aJ,aw,aX,<-PI];exact MZ be
   refine inc k ?_;intro IR w6 A;exact⟨(k+1,w6),⟨OA,V.tr A.cN,Ti⟩,sbgn [] A,dec OA⟩
  have OA:k=3:=by have:=aC OA;omega
  subst OA;have PI:iB (gk f.nodes.length l i) x 3=gk f.nodes.length l (i+1):=by rw[gk,show l.getD i (0,0,0,0)=x by rw[List.getD,G];rfl]
  rw[PI]at PX ⊢;refine inc i ?_;intro IR w6 A;exact⟨(i+1,w6),⟨Ny,V.tr A.cN,fun z hz=>by have:=PX z hz;dsimp only;omega⟩,sbgn [] A,dec Ny⟩
 have Ny:=dE D Ny;subst Ny;obtain⟨s,hs⟩:=exq (gk f.nodes.length l l.length);have RZ:s.length=m:=by rw[<-hs,nm,hm]
 rw[hs]at PX ⊢;unfold j0;rw[hs]
 refine⟨m,m,rfl,rfl,lr,be,be,Nat×List (List Value)×Iv×World,fun z=>⟨[(10,.o (.s 2 0 m m)),(51,.o (.s 1 0 m m)),(52,iZ m),(53,iN z.1)],[(2,.arr T.Rat z.2.1.flatten),(1,.arr T.int (zv s))],3,z.2.2.1,z.2.2.2⟩,fun z=>m-z.1,
  fun z=>z.1<=m/\Bq w z.2.2.2/\fk z.2.2.2 (Cf w z.2.2.1) m z.1 z.2.1 (dx s),?_,?_⟩
 .intro O J r;exact⟨(0,List.replicate m f0,_,J),⟨aP _,V.tr r.cN,fk.start _ _ _ _⟩,sbgn [] r⟩
 rintro⟨i,W,iv,w1⟩ ⟨Tz,V,hF⟩;dsimp only at Tz V hF ⊢;apply bS<;>intro Ny
 .have Ny:=dL Ny;obtain⟨z,hz⟩:=gO s i;have SS:=PX z (aG hz);refine⟨be,iV z,by rw[aJ,aw,aX];exact Lg hz,?_⟩;refine cD (cE V (pR cY (z:Rat)) (fun O J r=>lA z J be be) ?_);rintro O _ _ _ OK r R V h_ Z;replace hF:=hF.cH r oF R (mC h_);have hd:=Z.cF (nw r h_);obtain⟨A0,A1,A2,A3,A4,A5,A6,A7,rfl⟩:=hd.shape;have OP:=hF.next Ny (q:=_) (by rw[dx,aO,hz];rfl) hd
  refine⟨be,by have:=hF.flat;omega,(W.set i (rC A0 A1 A2 A3 A4 A5 A6 A7)).flatten,?_,?_⟩
  .have:=jr (L:=rC A0 A1 A2 A3 A4 A5 A6 A7) hF.four (show i<W.length by rw[hF.len];exact Ny);rw[<-this];simp
  refine inc i ?_;intro IR w3 A;exact⟨(i+1,W.set i (rC A0 A1 A2 A3 A4 A5 A6 A7),_,w3),⟨Ny,V.tr A.cN,OP.rel A oF⟩,sbgn [] A,dec Ny⟩
 have Ny:=dE Tz Ny;subst Ny;intro GT we re
 exact⟨_,rfl,V.tr re.cN,hF.done (by rw[dx,aM];exact RZ) mx re (id:=2) rfl (re.nn 2 _ rfl (by intros;simp) bv),fun q hq=>by
  obtain⟨z,hz,rfl⟩:=aV.1 hq;have:=PX z hz
  exact BJ be be⟩
theorem BL{vn:Value}(U:Old S w)(hf:dq w S vn vb vs f)(OE:wG f):
  eC PG Fn.pK #[.agg #[vn,vb,vs]] w (eI w fun v' I=>eL I (Nw S w I) v' (dC f)):=by
 have V:=bR w;obtain⟨an,cn,ab,cb,aq,cq,rfl,rfl,rfl,RH,Rh,Si⟩:=hf.shape;have SE:=hf;refine tV bv ?_
 refine⟨Nat×List (List Value)×World,fun z=>⟨[(3,.o (.w 1 z.2.1.length)),(9,sV ab f.bars.length cb),(10,iZ f.bars.length),(11,iN z.1),(1,pP 0 0)],[(1,.vec T.Rat 4 z.2.1.flatten),(0,.box T.Frame [.v (.slice an f.nodes.length cn),.v (.slice ab f.bars.length cb),.v (.slice aq f.cV.length cq)])],2,[],z.2.2⟩,fun z=>f.bars.length-z.1,
  fun z=>z.1<=f.bars.length/\Bq w z.2.2/\(∀L∈z.2.1,L.length=4)/\(z.2.1.length=((fun i=>(f.bars.take i).map (·.2.2)) z.1).length/\∀(j:Nat) L q,z.2.1[j]? =some L->((fun i=>(f.bars.take i).map (·.2.2)) z.1)[j]? =some q->mA z.2.2 S L q),?_,?_⟩
 .intro O J r;exact⟨(0,[],J),⟨aP _,V.tr r.cN,fun L h=>(by cases h),rfl,fun j L q h=>by cases h⟩,Sub.nil 3 T.Rat 4 rfl (by simp[kL,SV.sc,At.sc,fp]) r fun Id r1=>sbgn [] r1⟩
 rintro⟨k,W,w1⟩ ⟨E,V,Sg,hR⟩;dsimp only at E V Sg hR ⊢;have OL:=gW Sg;apply bS<;>intro OA
 .have OA:=dL OA;have hb60:=OE.b;have hs60:=OE.s;obtain⟨b,hb⟩:=gO f.bars k;have PI:(fun i=>(f.bars.take i).map (·.2.2)) (k+1)=(fun i=>(f.bars.take i).map (·.2.2)) k++[b.2.2]:=by dsimp only;rw[List.take_add_one,hb];simp
  obtain⟨adb,L,QB,hF,-,PT⟩:=SE.bars.load bi hb;obtain⟨g0,g1,g2,g3,g4,g5,g6,g7,rfl,hF⟩:=hF;refine⟨adb,QB,be,[iV b.1,iV b.2.1,.bool g0,.slice g1 g2 g3,.bool g4,.slice g5 g6 g7],rfl,rdO PT V U,?_⟩;have Uz:mA w1 S (rC g0 g1 g2 g3 g4 g5 g6 g7) b.2.2:=⟨_,_,_,_,_,_,_,_,rfl,hF.cK fun g F=>V.block g (U g F)⟩
  have QZ:=eL.Lh hR Uz;rw[<-PI]at QZ;have OV:W.flatten++(rC g0 g1 g2 g3 g4 g5 g6 g7:List Value)=(W++([rC g0 g1 g2 g3 g4 g5 g6 g7]:List (List Value))).flatten:=by simp
  have PE:W.length<=200:=by rw[hR.1,aM,aZ];have:=OE.b;omega
  refine .inl ?_;refine⟨be,be,mx,((k+1:Nat):Int),wo,?_⟩;intro IR w3 A
  exact⟨(k+1,W++[rC g0 g1 g2 g3 g4 g5 g6 g7],w3),⟨OA,V.tr A.cN,fun L hc=>by
   rcases bV.1 hc with hc|hc
   .exact Sg L hc
   .rw[bJ.1 hc];rfl,QZ.1,fun j L q Y X=>(QZ.2 j L q Y X).cK fun g F=>(A.cN).block g (U g F)⟩,sbgn [(1,4)] A ⟨by dsimp only;rw[<-OV];rfl,rfl,trivial⟩ ⟨by dsimp only;rw[l1];rfl,rfl,rfl,rfl,rfl,trivial⟩,by dsimp only;omega⟩
 have OA:=dE E OA;subst OA;have QY:W.length=f.bars.length:=by rw[hR.1,aM,aZ];omega
 rw[bG,show f.bars.map (·.2.2)=f.bars.map (·.2.2)++(f.cV.take 0).map (·.2.2) by simp]at hR
 refine⟨Nat×List (List Value)×World,fun z=>⟨[(3,.o (.w 1 z.2.1.length)),(22,sV aq f.cV.length cq),(23,iZ f.cV.length),(24,iN z.1)],[(1,.vec T.Rat 4 z.2.1.flatten),(0,.box T.Frame [.v (.slice an f.nodes.length cn),.v (.slice ab f.bars.length cb),.v (.slice aq f.cV.length cq)])],2,[],z.2.2⟩,fun z=>f.cV.length-z.1,
  fun z=>z.1<=f.cV.length/\Bq w z.2.2/\(∀L∈z.2.1,L.length=4)/\(z.2.1.length=((fun i=>f.bars.map (·.2.2)++(f.cV.take i).map (·.2.2)) z.1).length/\∀(j:Nat) L q,z.2.1[j]? =some L->((fun i=>f.bars.map (·.2.2)++(f.cV.take i).map (·.2.2)) z.1)[j]? =some q->mA z.2.2 S L q),?_,?_⟩
 .intro O J A;exact⟨(0,W,J),⟨aP _,V.tr A.cN,Sg,hR.1,fun j L q Y X=>(hR.2 j L q Y X).cK fun g F=>(A.cN).block g (U g F)⟩,sbgn [] A⟩
 rintro⟨k,W,w1⟩ ⟨E,V,Sg,hR⟩;dsimp only at E V Sg hR ⊢;have OL:=gW Sg;apply bS<;>intro OA
 .have OA:=dL OA;have hb60:=OE.b;have hs60:=OE.s;obtain⟨b,hb⟩:=gO f.cV k;have PI:(fun i=>f.bars.map (·.2.2)++(f.cV.take i).map (·.2.2)) (k+1)=(fun i=>f.bars.map (·.2.2)++(f.cV.take i).map (·.2.2)) k++[b.2.2]:=by dsimp only;rw[List.take_add_one,hb];simp
  obtain⟨adb,L,QB,hF,-,PT⟩:=SE.cV.load bi hb;obtain⟨g0,g1,g2,g3,g4,g5,g6,g7,rfl,hF⟩:=hF;refine⟨adb,QB,be,[iV b.1,iV b.2.1,.bool g0,.slice g1 g2 g3,.bool g4,.slice g5 g6 g7],rfl,rdO PT V U,?_⟩;have Uz:mA w1 S (rC g0 g1 g2 g3 g4 g5 g6 g7) b.2.2:=⟨_,_,_,_,_,_,_,_,rfl,hF.cK fun g F=>V.block g (U g F)⟩
  have QZ:=eL.Lh hR Uz;rw[<-PI]at QZ;have OV:W.flatten++(rC g0 g1 g2 g3 g4 g5 g6 g7:List Value)=(W++([rC g0 g1 g2 g3 g4 g5 g6 g7]:List (List Value))).flatten:=by simp
  have PE:W.length<=200:=by rw[hR.1,aL,aM,aM,aZ];have:=OE.b;have:=OE.s;omega
  refine .inl ?_;refine⟨be,be,mx,((k+1:Nat):Int),wo,?_⟩;intro IR w3 A
  exact⟨(k+1,W++[rC g0 g1 g2 g3 g4 g5 g6 g7],w3),⟨OA,V.tr A.cN,fun L hc=>by
   rcases bV.1 hc with hc|hc
   .exact Sg L hc
   .rw[bJ.1 hc];rfl,QZ.1,fun j L q Y X=>(QZ.2 j L q Y X).cK fun g F=>(A.cN).block g (U g F)⟩,sbgn [(1,4)] A ⟨by dsimp only;rw[<-OV];rfl,rfl,trivial⟩ ⟨by dsimp only;rw[l1];rfl,rfl,rfl,rfl,trivial⟩,by dsimp only;omega⟩
 have OA:=dE E OA;subst OA;intro GT we re;have hfull:f.bars.map (·.2.2)++(f.cV.take f.cV.length).map (·.2.2)=dC f:=by rw[bG];rfl
 rw[hfull]at hR;refine⟨_,rfl,V.tr re.cN,W,?_,hR.1,Sg,fun j L q k1 k2=>((hR.2 j L q k1 k2).cK fun g F=>(re.cN).block g (U g F)).cF fun g F=>.inl F⟩;have OR:=hR.1
 have h5:=re.iq (id:=1) (sz:=4) (m:=W.length) rfl OL (by have:=OE.b;have:=OE.s;rw[OR,np];unfold fc.cols maxLen;omega) bi (fun u hu=>by
  obtain⟨L,hc,hu⟩:=List.mem_flatten.1 hu;obtain⟨j,hj⟩:=aT hc;obtain⟨_,_,_,_,_,_,_,_,rfl,_⟩:=hR.2 j L _ hj (aB (by rw[<-OR];exact(aD.1 hj).1));simp at hu
  rcases hu with rfl|rfl|rfl|rfl<;>rfl)
 rw[<-OR];exact h5.cF fun g F=>.inr F
end Go.Ex
