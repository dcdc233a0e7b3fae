/- Texts X135 to X139: lemmas, each with its conditions. -/
import Derived.Test.YtgkpbdkechfgmaaGreatP8
namespace Go.Ex
open Go Go.Sx Go.Proofs
variable{iv:Iv}{M:List (List Rat)}{U:List (List Value)}{ps pv:List Nat}{b qs x:List Rat}{G:List Value}{B g h id:Nat}{C S:Nat->Prop}{O:Nat->Sx.cd}{a ax:Option Addr}{row:Option Nat}{q:Rat}{v:Value}{w:World}
section
variable{S S':Nat->Prop}{H:Hp}{nx n:Nat}{iv E:Iv}{B:Nat}{w J Y:World}{O:Nat->Sx.cd}{v:Value}{qs:List Rat}
theorem dV.KQ{w0 w1:World}(h:dV w1 S w0.heap.size iv v n qs)(r:Rel H nx iv w0.heap.size w1 O J)(X:Old S w0):dV J S w0.heap.size [(w0.heap.size,J.heap.size)] v n qs:=by
 have I:=h.rel r X;have key:∀g {F9:Nat->Prop},Cv F9 w0.heap.size iv g->Cv F9 w0.heap.size [(w0.heap.size,J.heap.size)] g:=fun g F9 R=>by
  rcases R with R|⟨V,lo,N,I,K,h4⟩
  ·exact .inl R
  ·exact .inr ⟨V,_,_,bK.2 rfl,V,by have:=r.oR lo N I;have:=r.size;omega⟩
 exact⟨I.row.bw fun g R=>⟨key g R.1,R.2⟩,fun g R=>key g (I.new g R)⟩
theorem dV.KR(h:dV Y (Cv S B iv) J.heap.size [(J.heap.size,Y.heap.size)] v n qs)(hB:B<=J.heap.size):dV Y S B ((J.heap.size,Y.heap.size)::iv) v n qs:=by
 have key:∀g {F9 AC:Nat->Prop},(∀g,AC g->Cv F9 B iv g)->Cv AC J.heap.size [(J.heap.size,Y.heap.size)] g->Cv F9 B ((J.heap.size,Y.heap.size)::iv) g:=fun g F9 AC hY R=>by
  rcases R with R|⟨V,lo,N,I,K,h4⟩
  ·exact(hY g R).mono fun p hp=>aB _ hp
  ·simp at I;obtain⟨rfl,rfl⟩:=I;exact .inr ⟨by omega,_,_,aH,K,h4⟩
 exact⟨h.row.bw fun g R=>⟨key g (fun _ h=>h) R.1,R.2⟩,fun g R=>key g (fun _ h=>h.elim) (h.new g R)⟩
def Bs(S:Nat->Prop)(B:Nat)(iv:Iv)(v:Value)(g:Nat):Prop:=Cv S B iv g/\v.ownBlock≠some g
theorem Bs.kept(r:Rel H nx iv B w O J)(X:∀g,S g->g<B)(R:J.grownBy Y row)(Kr:∀g,row=some g->v.ownBlock=some g):∀g,Bs S B iv v g->Y.heap[g]? =w.heap[g]? :=fun g h=>by
 rw[R.block g (Rel.old r X g h.1) fun e=>h.2 (Kr g e.symm),Rel.same r X h.1]
theorem Bs.same(r:Rel H nx iv B w O J)(X:∀g,S g->g<B):∀g,Bs S B iv v g->J.heap[g]? =w.heap[g]? :=fun g h=>Rel.same r X h.1
theorem Bs.of(r:Rel H nx iv B w O J)(X:∀g,S g->g<B)(hm:∀p,p∈iv->p∈E)(A:dV Y FF J.heap.size [(J.heap.size,Y.heap.size)] v n qs)(h:Cv S B iv g):Bs S B E v g:=
 ⟨h.mono hm,fun e=>by
  have V:=Rel.old r X g h;rcases A.new g e with I|⟨I,_⟩
  ·exact I
  ·omega⟩
theorem Bs.mono(hm:∀p,p∈iv->p∈E)(h:Bs S B iv v g):Bs S B E v g:=⟨h.1.mono hm,h.2⟩
theorem dE.at{m c j p:Nat}(h:dE w S (.slice a m c) ps)(hj:ps[j]? =some p):∃ad,a=some ad/\S ad.block/\w.cell? (ad.add (j*1))=some (.int .i64 (p:Int)):=by
 obtain⟨h0,V,I,a',c',e,K,h4⟩:=h;injection e with e1 e2 e3;subst e1;obtain⟨ad,k1,k2,k3⟩:=h4 j (.int .i64 (p:Int)) (by rw[aM,hj];rfl);exact⟨ad,k1,k2,by rw[az];exact k3⟩
theorem dE.shape(h:dE w S v ps):∃a c,v= .slice a ps.length c/\ps.length<=c/\ps.length<=maxLen:=by
 obtain⟨h0,V,I,a,c,e,K,h4⟩:=h;exact⟨a,c,e,K,h0⟩
end
theorem wh{G8:List (List Rat)}{at_:List (Option Nat)}{fr:List Nat}{n:Nat}(hE:gH n G8)(LG:∀(k r:Nat),at_[k]? =some (some r)->r<G8.length):∀k,k<=at_.length->gH n (cN (G8,at_,fr) k).1/\∀p∈(cN (G8,at_,fr) k).2.1,p<k
 |0,_=>⟨(fun r hr=>by cases hr),fun p hp=>by cases hp⟩
 |k+1,W=>by
  have ih:=wh (fr:=fr) hE LG k (by omega);obtain⟨o,ho⟩:∃o,at_[k]? =some o:=⟨_,aA (by omega)⟩
  cases o with
  |none=>
   rw[kj (s:=(G8,at_,fr)) ho];exact⟨ih.1,fun p hp=>Nat.lt_succ_of_lt (ih.2 p hp)⟩
  |some r=>
   rw[kk (s:=(G8,at_,fr)) ho];refine⟨fun x F=>?_,fun p hp=>?_⟩
   ·rcases bG.1 F with F|F
    ·exact ih.1 x F
    ·rw[bK.1 F];have:=LG k r ho;dsimp only
     rw[List.getD,aA this];exact hE _ (aV this)
   ·rcases bG.1 hp with hp|hp
    ·exact Nat.lt_succ_of_lt (ih.2 p hp)
    ·rw[bK.1 hp];exact bV _
theorem pL{n:Nat}(cols:Nat)(hM:gH n M):(dI M cols).1.length=(dI M cols).2.1.length/\(dI M cols).2.2.length=(dI M cols).2.1.length/\gH n (dI M cols).1/\(∀p∈(dI M cols).2.1,p<cols)/\(dI M cols).2.1.length<=cols:=by
 have Kt:=uy cols hM M.length (aE _);unfold dI;generalize fp M cols M.length=s at*
 obtain⟨G8,at_,fr⟩:=s;have OC:at_.length=cols:=Kt.at_;obtain⟨q1,q2,-,q4⟩:=rB (G8,at_,fr) [] cols (by show cols<=at_.length;omega);obtain⟨f1,f2⟩:=wh (G8:=G8) (at_:=at_) (fr:=fr) Kt.len Kt.lt cols (by omega);exact⟨q1,q2,f1,f2,q4⟩
theorem jl(M:List (List Rat))(b:List Rat):(jP M b).length=M.length:=List.length_mapIdx
theorem E6{n:Nat}(h:gH n M):gH (n+1) (jP M b):=fun r hr=>by
 obtain⟨i,N⟩:=aQ hr;rw[jP,List.getElem?_mapIdx]at N
 cases hM:M[i]? with
 |none=>rw[hM]at N;cases N
 |some x=>
  rw[hM]at N;simp only[Option.map_some,Option.some.injEq]at N;rw[<-N,List.length_append,h x (aD hM)];rfl
theorem Cc{H:Hp}{nx:Nat}{J:World}(r:Rel H nx iv B w O J)(h:cO H id=some (.vec T.Rat 4 ([]++U.flatten++G)))(hF:Fc J S U x)(hq:iB J S G q)(hm:x.length<maxLen):
  (O id).nil=false/\cF J (Cv S B (((O id).g,(O id).g+1)::iv)) (.slice (some ⟨(O id).g,0,none⟩) (x.length+1) (O id).cap) (x++[q]):=by
 have LN:=gD hF.xd;have hl:([]++U.flatten++G).length=(x.length+1)*4:=by rw[List.nil_append,List.length_append,LN,hF.1,hq.len];omega
 have PV:=hF.push hq;have Z:[]++U.flatten++G=(U++[G]).flatten:=by simp
 have hv:=Hs r (sz:=4) (m:=x.length+1) h hl (by omega) (by decide) (by omega) (fun u hu=>PV.one u (by rw[<-Z];exact hu));refine⟨hv.1,U++[G],?_,PV.1,PV.xd,fun j c y k1 k2=>(PV.2 j c y k1 k2).bw fun g R=>.inl R⟩;rw[List.length_append,List.length_singleton,<-Z];exact hv.2.2.bw fun g R=>.inr ⟨by have:=hv.2.1;omega,_,_,aH,by omega,by omega⟩
set_option maxHeartbeats 2000000 in
theorem yV{Fn:Nat->Prop}{u:Value}{cols:Nat}(hC:Old C w)(hD:Old Fn w)(X:Old S w)(hM:mc w C S v M)(hb:fL w Fn S u b)(MZ:b.length=M.length)(hlen:gH cols M)(A:cols<=999)(hR:M.length<=1000)(hB:BJ (jP M b) (cols+1) h)(hh:3*h<=90000):
  eF PG F'.gu #[.agg #[v,.int .i64 cols],u] w (eM w fun v' Y=>(mJ M b cols=none/\v'= .tuple #[.slice none 0 0,.bool false])\/∃x vx,mJ M b cols=some x/\v'= .tuple #[vx,.bool true]/\dV Y S w.heap.size [(w.heap.size,Y.heap.size)] vx cols x):=by
 have L:=bR w;obtain⟨am,cm,rfl,Og,PQ⟩:=mc.shape hM;obtain⟨ab,cb,rfl,Nc,OK⟩:=fL.shape hb;unfold maxLen at PQ OK;refine mV (by simp) ?_
 refine⟨((cols+1:Nat):Int),wo,Nat×List Value×World×Iv,fun z=>⟨[(20,iN z.1),(1,sV ab b.length cb),(2,pP 0 0),(6,pP 1 0),(18,sV am M.length cm),(19,iZ M.length)],[(1,.box T.dJ [.w 2 z.2.1.length,.v (.int .i64 ((cols+1:Nat):Int))]),(2,.vec T.jC 1 z.2.1),(0,.box T.dJ [.v (.slice am M.length cm),.v (.int .i64 cols)])],3,z.2.2.2,z.2.2.1⟩,fun z=>M.length-z.1,
  fun z=>z.1<=M.length/\dO w.heap.size w z.2.2.1/\dL z.2.2.1 (Cv S w.heap.size z.2.2.2) z.2.1 ((jP M b).take z.1),?_,?_⟩
 ·intro O J r
  exact⟨(0,[],J,[]),⟨aP _,L.tr r.cG,by simp[dL]⟩,Sub.BI 1 0 T.jC 1 rfl rfl (by simp[lj,SV.sc,At.sc,ij]) r fun If r1=>
   Sub.gn [] r1⟩
 rintro⟨i,rv,w1,iv⟩ ⟨N,L,hK⟩;dsimp only at N L hK ⊢;have Mz:rv.length=i:=by rw[hK.1,ah,jl];omega
 refine ct.mk ?_ ?_<;>intro Kp
 ·have Kp:i<M.length:=by simpa using Kp
  obtain⟨x,F⟩:∃r,M[i]? =some r:=⟨_,aA Kp⟩
  have Mo:=hlen x (aD F);obtain⟨q,hq⟩:∃r,b[i]? =some r:=⟨_,aA (by omega)⟩
  have Rw:b.getD i 0=q:=by rw[List.getD,hq];rfl
  have Kz:(jP M b).take (i+1)=(jP M b).take i++[x++[q]]:=by
   rw[List.take_add_one,show(jP M b)[i]? =some (x++[q]) by rw[jP,List.getElem?_mapIdx,F,<-Rw];rfl];rfl
  obtain⟨adm,um,Nk,Lj,km1,km2⟩:=mc.load hM F;obtain⟨U,⟨-,g1,g2,a0,c0,rfl,g4,g5⟩,Lo,PU,Le⟩:=Lj;have LN:=gD PU;obtain⟨adq,G,Om,hF,hl⟩:=fL.load hb hq;obtain⟨b3,a3,n3,c3,b4,a4,n4,c4,rfl,hF⟩:=hF;refine⟨adm,Nk,by omega,.slice a0 x.length c0,rd1 km2 L (hC _ km1),?_⟩;refine iW hτ eG (.x 0 (.x 3 (.x 5 (.x 6 (.x 7 (.ld 1 28672 (.ld 8 32256 (.two 2 (.two 4 (.x 9 (.x 10 (.wi 6 (.x 11 (.x 12 (.x 13 (.x 14 .nil))))))) 9 (.x 4 (.x 10 (.wi 6 (.x 11 (.x 12 (.x 13 (.x 14 .nil)))))))) 9 (.x 2 (.x 4 (.x 10 (.wi 6 (.x 11 (.x 12 (.x 13 (.x 14 .nil)))))))))))))))) (by kernel_rfl) (by kernel_rfl) ?_;refine⟨adq,Om,by omega,[.bool b3,.slice a3 n3 c3,.bool b4,.slice a4 n4 c4],rfl,rdO hl L hD,?_,?_⟩
  ·refine⟨[.bool b3,.slice a3 n3 c3,.bool b4,.slice a4 n4 c4],rfl,rdO hl L hD,rfl,rfl,?_,?_⟩
   ·refine .inl ?_;refine⟨U.flatten,g1,g2,fun O J r LU=>?_,?_⟩
    ·obtain⟨u0,hu0⟩:∃u,U.flatten[0]? =some u:=⟨_,aA (by omega)⟩
     obtain⟨ad,ha,_,_⟩:=g5 0 u0 hu0;refine⟨ad,ha,fun j u hj=>?_⟩;obtain⟨ad2,M9,q1,q2⟩:=g5 j u hj;rw[ha]at M9;injection M9 with M9;subst M9;rw[cA (w:=w) (Y:=J) (by rw[dP];exact(L.tr r.cG).block _ (X _ q1))];exact q2
    refine⟨rfl,by omega,by unfold maxLen;omega,?_⟩;rw[aU x.length];refine⟨[.bool b3,.slice a3 n3 c3,.bool b4,.slice a4 n4 c4],rfl,rdO hl L hD,rfl,rfl,rfl,?_⟩;refine .inl ?_;refine⟨by rw[<-g1];rfl,by omega,by unfold maxLen;omega,rfl,[(1,.box T.dJ [.w 2 rv.length,.v (.int .i64 ((cols+1:Nat):Int))]),(2,.vec T.jC 1 rv),(0,.box T.dJ [.v (.slice am M.length cm),.v (.int .i64 cols)])],_,rfl,by simp,⟨rfl,rfl,rfl,trivial⟩,rfl,fun O J r=>?_⟩;have hv:=Cc (S:=S) (x:=x) (q:=q) (U:=U) r (id:=6) rfl ⟨Lo,fun j G q k1 k2=>(Le j G q k1 k2).br fun g R=>(L.tr r.cG).block g (X g R)⟩ (hF.br (kS L r X)).yT (by unfold maxLen;omega);refine⟨hv.1,_,qz (tl:=[(25,pP 1 0),(26,.o (.w 2 rv.length)),(20,iN i),(1,sV ab b.length cb),(2,pP 0 0),(6,pP 1 0),(18,sV am M.length cm),(19,iZ M.length)]) hv.1 (t:=35) (n:=x.length+1) rfl ⟨rfl,rfl,rfl,rfl,rfl,rfl,rfl,rfl,trivial⟩ (by simp[lj,SV.sc,At.sc]),?_⟩;replace hK:=(dL.bw (hK.rel r X) (fun g R=>R.mono fun p hp=>aB _ hp)).push rfl hv.2;rw[<-Kz]at hK;replace L:=L.tr r.cG;generalize (O 6).g=gx at*
    generalize (O 6).cap=cx at*
    generalize (gx,gx+1)::iv=Kx at*
    refine⟨rfl,?_⟩;refine .inl ?_;refine⟨by simp,by omega,by unfold maxLen;omega,((i+1:Nat):Int),wo,?_⟩;intro In w3 D;exact⟨(i+1,rv++[.slice (some ⟨gx,0,none⟩) (x.length+1) cx],w3,_),⟨Kp,L.tr D.cG,hK.rel D X⟩,Sub.gn [(2,8)] D ⟨by dsimp only;rw[List.length_append,List.length_singleton];rfl,rfl,rfl,trivial⟩,by dsimp only;omega⟩
   ·refine⟨rfl,?_⟩;refine .inl ?_;refine⟨U.flatten,g1,g2,fun O J r LU=>?_,?_⟩
    ·obtain⟨u0,hu0⟩:∃u,U.flatten[0]? =some u:=⟨_,aA (by omega)⟩
     obtain⟨ad,ha,_,_⟩:=g5 0 u0 hu0;refine⟨ad,ha,fun j u hj=>?_⟩;obtain⟨ad2,M9,q1,q2⟩:=g5 j u hj;rw[ha]at M9;injection M9 with M9;subst M9;rw[cA (w:=w) (Y:=J) (by rw[dP];exact(L.tr r.cG).block _ (X _ q1))];exact q2
    refine⟨rfl,by omega,by unfold maxLen;omega,?_⟩;rw[aU x.length];refine⟨rfl,?_⟩;refine .inl ?_;refine⟨by rw[<-g1];rfl,by omega,by unfold maxLen;omega,rfl,[(1,.box T.dJ [.w 2 rv.length,.v (.int .i64 ((cols+1:Nat):Int))]),(2,.vec T.jC 1 rv),(0,.box T.dJ [.v (.slice am M.length cm),.v (.int .i64 cols)])],_,rfl,by simp,⟨rfl,rfl,rfl,trivial⟩,rfl,fun O J r=>?_⟩;have hv:=Cc (S:=S) (x:=x) (q:=q) (U:=U) r (id:=6) rfl ⟨Lo,fun j G q k1 k2=>(Le j G q k1 k2).br fun g R=>(L.tr r.cG).block g (X g R)⟩ (hF.br (kS L r X)).yT (by unfold maxLen;omega);refine⟨hv.1,_,qz (tl:=[(25,pP 1 0),(26,.o (.w 2 rv.length)),(20,iN i),(1,sV ab b.length cb),(2,pP 0 0),(6,pP 1 0),(18,sV am M.length cm),(19,iZ M.length)]) hv.1 (t:=35) (n:=x.length+1) rfl ⟨rfl,rfl,rfl,rfl,rfl,rfl,rfl,rfl,trivial⟩ (by simp[lj,SV.sc,At.sc]),?_⟩;replace hK:=(dL.bw (hK.rel r X) (fun g R=>R.mono fun p hp=>aB _ hp)).push rfl hv.2;rw[<-Kz]at hK;replace L:=L.tr r.cG;generalize (O 6).g=gx at*
    generalize (O 6).cap=cx at*
    generalize (gx,gx+1)::iv=Kx at*
    refine⟨rfl,?_⟩;refine .inl ?_;refine⟨by simp,by omega,by unfold maxLen;omega,((i+1:Nat):Int),wo,?_⟩;intro In w3 D;exact⟨(i+1,rv++[.slice (some ⟨gx,0,none⟩) (x.length+1) cx],w3,_),⟨Kp,L.tr D.cG,hK.rel D X⟩,Sub.gn [(2,8)] D ⟨by dsimp only;rw[List.length_append,List.length_singleton];rfl,rfl,rfl,trivial⟩,by dsimp only;omega⟩
  ·refine⟨rfl,rfl,?_⟩;refine .inl ?_;refine⟨U.flatten,g1,g2,fun O J r LU=>?_,?_⟩
   ·obtain⟨u0,hu0⟩:∃u,U.flatten[0]? =some u:=⟨_,aA (by omega)⟩
    obtain⟨ad,ha,_,_⟩:=g5 0 u0 hu0;refine⟨ad,ha,fun j u hj=>?_⟩;obtain⟨ad2,M9,q1,q2⟩:=g5 j u hj;rw[ha]at M9;injection M9 with M9;subst M9;rw[cA (w:=w) (Y:=J) (by rw[dP];exact(L.tr r.cG).block _ (X _ q1))];exact q2
   refine⟨rfl,by omega,by unfold maxLen;omega,?_⟩;rw[aU x.length];refine⟨rfl,?_⟩;refine .inl ?_;refine⟨by rw[<-g1];rfl,by omega,by unfold maxLen;omega,rfl,[(1,.box T.dJ [.w 2 rv.length,.v (.int .i64 ((cols+1:Nat):Int))]),(2,.vec T.jC 1 rv),(0,.box T.dJ [.v (.slice am M.length cm),.v (.int .i64 cols)])],_,rfl,by simp,⟨rfl,rfl,rfl,trivial⟩,rfl,fun O J r=>?_⟩;have hv:=Cc (S:=S) (x:=x) (q:=q) (U:=U) r (id:=6) rfl ⟨Lo,fun j G q k1 k2=>(Le j G q k1 k2).br fun g R=>(L.tr r.cG).block g (X g R)⟩ (hF.br (kS L r X)).yT (by unfold maxLen;omega);refine⟨hv.1,_,qz (tl:=[(25,pP 1 0),(26,.o (.w 2 rv.length)),(20,iN i),(1,sV ab b.length cb),(2,pP 0 0),(6,pP 1 0),(18,sV am M.length cm),(19,iZ M.length)]) hv.1 (t:=35) (n:=x.length+1) rfl ⟨rfl,rfl,rfl,rfl,rfl,rfl,rfl,rfl,trivial⟩ (by simp[lj,SV.sc,At.sc]),?_⟩;replace hK:=(dL.bw (hK.rel r X) (fun g R=>R.mono fun p hp=>aB _ hp)).push rfl hv.2;rw[<-Kz]at hK;replace L:=L.tr r.cG;generalize (O 6).g=gx at*
   generalize (O 6).cap=cx at*
   generalize (gx,gx+1)::iv=Kx at*
   refine⟨rfl,?_⟩;refine .inl ?_;refine⟨by simp,by omega,by unfold maxLen;omega,((i+1:Nat):Int),wo,?_⟩;intro In w3 D;exact⟨(i+1,rv++[.slice (some ⟨gx,0,none⟩) (x.length+1) cx],w3,_),⟨Kp,L.tr D.cG,hK.rel D X⟩,Sub.gn [(2,8)] D ⟨by dsimp only;rw[List.length_append,List.length_singleton];rfl,rfl,rfl,trivial⟩,by dsimp only;omega⟩
 have Kp:i=M.length:=aS N (by simpa using Kp);rw[List.take_of_length_le (by rw[jl];omega)]at hK;have Ro:=E6 (b:=b) hlen;obtain⟨f1,f2,f3,f4,f5⟩:=pL (cols+1) Ro;generalize hA:(dI (jP M b) (cols+1)).1=FS at*
 generalize hP:(dI (jP M b) (cols+1)).2.1=pv at*
 refine⟨((cols+1:Nat):Int),wo,?_⟩
 refine bp (bz (Id:=fun _ J v Y=>∃vr vp vf,v= .agg #[vr,.int .i64 ((cols+1:Nat):Int),vp,vf]/\cQ Y (Nw (Cv S w.heap.size iv) J Y) vr FS/\dE Y (Nf J Y) vp pv/\dE Y (Nf J Y) vf (dI (jP M b) (cols+1)).2.2) (fun O J r=>by
  rw[<-hA,<-hP]
  exact yU (C:=fun g=>g<J.heap.size) (fun g R=>R) (Rel.old r X) ⟨rv,by rw[jl,<-Kp,<-Mz];exact(r.lB (id:=2) (sz:=1) (m:=rv.length) rfl (by simp) (by unfold maxLen;omega) (by decide) hK.2.1).bw fun g R=>R.2,hK.1,fun i u x V I=>cF.rel (hK.2.2 i u x V I) r X⟩ Ro (by omega) (by omega) (by rw[jl];omega) (aE _) hB hh) ?_)
 rintro O M5 v1 MS r Z LF ⟨vr,vp,vf,rfl,k1,k2,k3⟩;replace L:=L.tr LF;have hR:=cQ.old k1 r.bs;have hV:=dE.df (S:=FF) k2 r.bs (iv:=(M5.heap.size,MS.heap.size)::iv) aH;have hX:=dE.df (S:=FF) k3 r.bs (iv:=(M5.heap.size,MS.heap.size)::iv) aH;generalize (M5.heap.size,MS.heap.size)::iv=LC at*
 obtain⟨ar,cr,rfl,Ok,hmr⟩:=dZ.shape hR;obtain⟨ap,cp,rfl,hcp,hmp⟩:=dE.shape hV;obtain⟨af,cf,rfl,-,-⟩:=dE.shape hX;refine bp (bz (Id:=fun _ J v Y=>dV Y FF J.heap.size [(J.heap.size,Y.heap.size)] v cols (List.replicate cols 0)) (fun O J r=>BH cols J (by omega)) ?_);rintro O NX v2 MF r Z LF A;replace L:=L.tr LF;replace hR:=cQ.bw (S':=Bs S w.heap.size ((NX.heap.size,MF.heap.size)::LC) v2) (cQ.br (cQ.rel hR r X) fun g R=>Z.block g (Rel.old r X g R)) fun g R=>Bs.of r X (fun x F=>aB _ F) A R;replace hV:=dE.bw (S':=Bs FF w.heap.size ((NX.heap.size,MF.heap.size)::LC) v2) (dE.br (dE.rel hV r (bo w)) fun g R=>Z.block g (Rel.old r (bo w) g R)) fun g R=>Bs.of r (bo w) (fun x F=>aB _ F) A R;have hX:=A.df (S:=S) r.bs (iv:=(NX.heap.size,MF.heap.size)::LC) aH;generalize (NX.heap.size,MF.heap.size)::LC=Kx at*
 obtain⟨ax,cx,rfl,hcx⟩:=hX.row.form;have RK:=hX.row.le;unfold maxLen at RK
 refine⟨Nat×World×Iv,fun z=>⟨[(51,iN z.1),(2,pP 0 0),(9,pP 3 0),(10,sV ax cols cx),(49,sV ap pv.length cp),(50,iZ pv.length)],[(3,.box T.cU [.v (.slice ar FS.length cr),.v (.int .i64 ((cols+1:Nat):Int)),.v (.slice ap pv.length cp),.v (.slice af (dI (jP M b) (cols+1)).2.2.length cf)]),(0,.box T.dJ [.v (.slice am M.length cm),.v (.int .i64 cols)])],4,z.2.2,z.2.1⟩,fun z=>pv.length-z.1,
  fun z=>z.1<=pv.length/\(∀(t p:Nat),t<z.1->pv[t]? =some p->p≠cols)/\dO w.heap.size w z.2.1/\cQ z.2.1 (Bs S w.heap.size z.2.2 (.slice ax cols cx)) (.slice ar FS.length cr) FS/\dE z.2.1 (Bs FF w.heap.size z.2.2 (.slice ax cols cx)) (.slice ap pv.length cp) pv/\dV z.2.1 S w.heap.size z.2.2 (.slice ax cols cx) cols (fh FS pv cols z.1),?_,?_⟩
 ·intro O J r;exact⟨(0,J,_),⟨aP _,fun t p ht=>absurd ht (Nat.not_lt_zero t),L.tr r.cG,cQ.br hR (Bs.same r X),dE.br hV (Bs.same r (bo w)),hX.rel r X⟩,Sub.gn [] r⟩
 rintro⟨k,w3,iv⟩ ⟨W,PZ,L,hR,hV,hX⟩;dsimp only at W PZ L hR hV hX ⊢;refine ct.mk ?_ ?_<;>intro Ks
 ·have Ks:k<pv.length:=by simpa using Ks
  obtain⟨p,hp⟩:∃p,pv[k]? =some p:=⟨_,aA Ks⟩
  have NW:=f4 p (aD hp);obtain⟨adp,NN,kp1,kp2⟩:=hV.at hp;refine⟨adp,NN,by omega,.int .i64 (p:Int),fun O J r=>?_,?_⟩
  ·rw[aG,cA (w:=w3) (Y:=J) (by rw[dP];exact Rel.same r (bo w) kp1.1)];exact kp2
  refine ct.mk ?_ ?_<;>intro Z
  ·have Z:p=cols:=by
    have:(p:Int)=cols:=by simpa using Z
    omega
   intro I' we re;refine⟨_,rfl,L.tr re.cG,.inl ⟨?_,rfl⟩⟩;unfold mJ;simp only[hP]
   rw[if_pos (by rw[<-Z];exact aD hp)]
  have Z:p≠cols:=fun e=>by rw[e]at Z;simp at Z
  obtain⟨x,F⟩:∃x,FS[k]? =some x:=⟨_,aA (by omega)⟩
  have Mo:=f3 x (aD F);obtain⟨q,hq⟩:∃q,x[cols]? =some q:=⟨_,aA (by omega)⟩
  have OC:cT FS k cols=q:=by simp[cT,List.getD,F,hq]
  obtain⟨adm,um,Nk,Lj,km1,km2⟩:=dZ.load hR F;obtain⟨a0,c0,rfl,Mt,-⟩:=eE.shape Lj;obtain⟨adq,G,Om,hF,_,hl⟩:=eE.load Lj hq;obtain⟨g0,g1,g2,g3,g4,g5,g6,g7,rfl,hF⟩:=hF;refine cC hτ eG [.x 0,.x 1,.x 2,.x 3,.x 4,.x 5,.x 6,.x 7,.x 8,.x 9,.x 10,.x 11,.x 12,.x 13] (by kernel_rfl) (by kernel_rfl) ?_;refine⟨adm,Nk,by omega,.slice a0 x.length c0,fun O J r=>?_,?_⟩
  ·rw[aG,cA (w:=w3) (Y:=J) (by rw[dP];exact Rel.same r X km1.1)];exact km2
  refine⟨adq,Om,by omega,[.bool g0,.slice g1 g2 g3,.bool g4,.slice g5 g6 g7],rfl,fun O J r j u hu=>?_,?_⟩
  ·obtain⟨k1,k2⟩:=hl j u hu;rw[aG,cA (w:=w3) (Y:=J) (by rw[dP,dP];exact Rel.same r X k1.1)];exact k2
  obtain⟨gx,Rv⟩:∃g,ax=some ⟨g,0,none⟩:=by
   obtain⟨U,V,I,K⟩:=hX.row;rcases V.2 with⟨_,h0⟩|⟨g,cap,cur,e,_⟩
   ·omega
   ·injection e with e;exact⟨g,e⟩
  subst Rv;refine⟨⟨gx,0,none⟩,rfl,by omega,?_⟩;intro O J r;obtain⟨g,R,V,I,K,h4,h5⟩:=(hX.rel r X).store (j:=p) (by omega) (hF.br (Bs.same r X)) r X;injection R with R;injection R with R;subst R;refine⟨V,I,K,fun w5 OL=>?_⟩;obtain⟨k1,k2,k3⟩:=h5 w5 OL;have Ln:dO w.heap.size w w5:=(L.tr r.cG).tr (dO.grown k2 (fun g e=>by injection e with e;subst e;exact h4.elim (fun h=>h.elim) fun h=>h.1) r.bs);have NJ:=cQ.br hR (Bs.kept r X k2 fun g e=>e);have hV2:=dE.br hV (Bs.kept r (bo w) k2 fun g e=>e);have Kz:(fh FS pv cols k).set p q=fh FS pv cols (k+1):=by rw[fo,OC,List.getD,hp];rfl
  rw[Kz]at k1;refine⟨((k+1:Nat):Int),wo,?_⟩;intro In w6 D
  exact⟨(k+1,w6,_),⟨Ks,fun t p2 ht Mg=>by
   by_cases htk:t=k
   ·rw[htk,hp]at Mg;injection Mg with Mg;rw[<-Mg];exact Z
   ·exact PZ t p2 (by dsimp only at ht;omega) Mg,Ln.tr D.cG,cQ.br NJ (Bs.same D X),dE.br hV2 (Bs.same D (bo w)),k1.rel D X⟩,Sub.gn [] D,by dsimp only;omega⟩
 have Ks:k=pv.length:=aS W (by simpa using Ks);subst Ks;intro I' we re;refine⟨_,rfl,L.tr re.cG,.inr ⟨_,_,?_,rfl,hX.KQ re X⟩⟩;unfold mJ;simp only[hA,hP]
 rw[aF];intro hm;obtain⟨t,ht⟩:=aQ hm;exact PZ t cols (aC.1 ht).1 ht rfl
theorem Gb{u:Value}{cols:Nat}(hC:Old C w)(X:Old S w)(hM:mc w C S v M)(hb:cF w S u b)(MZ:b.length=M.length)(hlen:gH cols M)(A:cols<=999)(hR:M.length<=1000)(hB:BJ (jP M b) (cols+1) h)(hh:3*h<=90000):
  eF PG F'.gu #[.agg #[v,.int .i64 cols],u] w (eM w fun v' Y=>(mJ M b cols=none/\v'= .tuple #[.slice none 0 0,.bool false])\/∃x vx,mJ M b cols=some x/\v'= .tuple #[vx,.bool true]/\dV Y S w.heap.size [(w.heap.size,Y.heap.size)] vx cols x):=
 yV hC X X hM (cF.rc hb) MZ hlen A hR hB hh
def qD(pv:List Nat)(n i:Nat):List Value:=(List.range n).map fun c=>.bool (decide (c∈pv.take i))
theorem E7(pv:List Nat)(n:Nat):qD pv n 0=List.replicate n (.bool false):=by
 refine bJ fun j=>?_;rw[qD,aM,List.getElem?_replicate];by_cases h:j<n
 ·rw[b9 h,if_pos h];rfl
 ·rw[List.getElem?_eq_none (by simp;omega),aF h];rfl
theorem z4{n i c:Nat}(h:c<n):(qD pv n i)[c]? =some (.bool (decide (c∈pv.take i))):=by
 rw[qD,aM,b9 h];rfl
theorem E8{n i p:Nat}(hp:pv[i]? =some p):(qD pv n i).set p (.bool true)=qD pv n (i+1):=by
 refine bJ fun j=>?_;by_cases hj:j<n
 ·rw[z4 hj,List.take_add_one,hp];by_cases hpj:p=j
  ·subst hpj;rw[aR (by simp[qD];exact hj)];simp
  ·rw[aY hpj,z4 hj];have:j≠p:=fun e=>hpj e.symm;simp[this]
 ·rw[List.getElem?_eq_none (by simp[qD];omega),List.getElem?_eq_none (by simp[qD];omega)]
theorem dV.at{n:Nat}{cx:Nat}(h:dV w S B iv (.slice ax n cx) n qs)(h0:0<n):∃g,ax=some ⟨g,0,none⟩:=by
 obtain⟨U,V,I,K⟩:=h.row;rcases V.2 with⟨_,h0⟩|⟨g,cap,cur,e,_⟩
 ·omega
 ·injection e with e;exact⟨g,e⟩
set_option maxHeartbeats 2000000 in
theorem E9{n:Nat}(hC:Old C w)(X:Old S w)(hM:mc w C S v M)(hlen:gH n M)(hn0:0<n)(A:n<=1000)(hR:M.length<=1000)(hB:BJ M n h)(hAb:Ht (dI M n).1 h)(hh:3*h<=90000):
  eF PG F'.fP #[.agg #[v,.int .i64 n]] w (eM w fun v' Y=>cQ Y (Nf w Y) v' (jf M n)):=by
 have L:=bR w;obtain⟨am,cm,rfl,Og,PQ⟩:=mc.shape hM;unfold maxLen at PQ;obtain⟨f1,f2,f3,f4,f5⟩:=pL n hlen;refine iT (by simp) ?_;unfold jf;generalize hA:(dI M n).1=FS at*
 generalize hP:(dI M n).2.1=pv at*
 refine bp (bz (Id:=fun _ J v Y=>∃vr vp vf,v= .agg #[vr,.int .i64 n,vp,vf]/\cQ Y (Nw S J Y) vr FS/\dE Y (Nf J Y) vp pv/\dE Y (Nf J Y) vf (dI M n).2.2) (fun O J r=>by
  rw[<-hA,<-hP];obtain⟨rv,m1,m2,m3⟩:=hM
  exact yU (C:=C) (S:=S) (oS hC r) (oS X r) ⟨rv,m1.br fun g R=>(L.tr r.cG).block g (hC g R),m2,fun i u x V I=>cF.br (m3 i u x V I) fun g R=>(L.tr r.cG).block g (X g R)⟩ hlen hn0 A hR (aE _) hB hh) ?_)
 rintro O M5 v1 MS r Z LF ⟨vr,vp,vf,rfl,k1,k2,k3⟩;replace L:=L.tr LF;have hR:=cQ.old (cQ.bw k1 fun g R=>R.imp (fun h=>(Or.inl h:Cv S w.heap.size [] g)) id) r.bs;have hV:=dE.df (S:=FF) k2 r.bs (iv:=(M5.heap.size,MS.heap.size)::[]) aH;have hX:=dE.df (S:=FF) k3 r.bs (iv:=(M5.heap.size,MS.heap.size)::[]) aH;generalize (M5.heap.size,MS.heap.size)::[]=LC at*
 obtain⟨ar,cr,rfl,Ok,hmr⟩:=dZ.shape hR;obtain⟨ap,cp,rfl,hcp,hmp⟩:=dE.shape hV;obtain⟨af,cf,rfl,-,-⟩:=dE.shape hX
 refine⟨n,n,rfl,rfl,aE _,by omega,by omega,Nat×World×Iv,fun z=>⟨[(1,pP 0 0),(3,pP 1 0),(4,.o (.s 2 0 n n)),(20,sV ap pv.length cp),(21,iZ pv.length),(22,iN z.1)],[(2,.arr T.bool (qD pv n z.1)),(1,.box T.cU [.v (.slice ar FS.length cr),.v (.int .i64 n),.v (.slice ap pv.length cp),.v (.slice af (dI M n).2.2.length cf)]),(0,.box T.dJ [.v (.slice am M.length cm),.v (.int .i64 n)])],3,z.2.2,z.2.1⟩,fun z=>pv.length-z.1,
  fun z=>z.1<=pv.length/\dO w.heap.size w z.2.1/\cQ z.2.1 (Cv S w.heap.size z.2.2) (.slice ar FS.length cr) FS/\dE z.2.1 (Cf w z.2.2) (.slice ap pv.length cp) pv,?_,?_⟩
 ·intro O J D;exact⟨(0,J,_),⟨aP _,L.tr D.cG,cQ.rel hR D X,dE.rel hV D (bo w)⟩,Sub.gn [] D ⟨by dsimp only;rw[E7];rfl,rfl,rfl,trivial⟩⟩
 rintro⟨i,w1,iv⟩ ⟨N,L,hR,hV⟩;dsimp only at N L hR hV ⊢;refine ct.mk ?_ ?_<;>intro Kp
 ·have Kp:i<pv.length:=by simpa using Kp
  obtain⟨p,hp⟩:∃p,pv[i]? =some p:=⟨_,aA Kp⟩
  have NW:=f4 p (aD hp);obtain⟨adp,NN,kp1,kp2⟩:=hV.at hp;refine⟨adp,NN,by omega,.int .i64 (p:Int),fun O J r=>?_,?_⟩
  ·rw[aG,cA (w:=w1) (Y:=J) (by rw[dP];exact Rel.same r (bo w) kp1)];exact kp2
  refine⟨by omega,by simp[qD];omega,qD pv n (i+1),?_,?_⟩
  ·rw[aG,az,aU,<-E8 hp];exact gw (by simp[qD];omega)
  refine⟨((i+1:Nat):Int),wo,?_⟩;intro In w3 D;exact⟨(i+1,w3,_),⟨Kp,L.tr D.cG,cQ.rel hR D X,dE.rel hV D (bo w)⟩,Sub.gn [] D,by dsimp only;omega⟩
 have Kp:i=pv.length:=aS N (by simpa using Kp);subst Kp
 refine⟨Nat×List Value×World×Iv,fun z=>⟨[(32,iN z.1),(7,.o (.w 3 z.2.1.length)),(1,pP 0 0),(3,pP 1 0),(4,.o (.s 2 0 n n)),(31,iZ n)],[(2,.arr T.bool (qD pv n pv.length)),(3,.vec T.jC 1 z.2.1),(1,.box T.cU [.v (.slice ar FS.length cr),.v (.int .i64 n),.v (.slice ap pv.length cp),.v (.slice af (dI M n).2.2.length cf)]),(0,.box T.dJ [.v (.slice am M.length cm),.v (.int .i64 n)])],4,z.2.2.2,z.2.2.1⟩,fun z=>n-z.1,
  fun z=>z.1<=n/\dO w.heap.size w z.2.2.1/\cQ z.2.2.1 (Cv S w.heap.size z.2.2.2) (.slice ar FS.length cr) FS/\dE z.2.2.1 (Cf w z.2.2.2) (.slice ap pv.length cp) pv/\dL z.2.2.1 (Cf w z.2.2.2) z.2.1 (dX FS pv n z.1),?_,?_⟩
 ·intro O J r;exact⟨(0,[],J,_),⟨aP _,L.tr r.cG,cQ.rel hR r X,dE.rel hV r (bo w),by simp[dL,dX]⟩,Sub.nil 7 T.jC 1 rfl (by simp[lj,SV.sc,At.sc]) r fun If r1=>Sub.gn [] r1⟩
 rintro⟨c,rv,w1,iv⟩ ⟨hc,L,hR,hV,hK⟩;dsimp only at hc L hR hV hK ⊢;have Mz:rv.length=(dX FS pv n c).length:=hK.1;have hrc:=BN FS pv n c;refine ct.mk ?_ ?_<;>intro Nc
 ·have Nc:c<n:=by simpa using Nc
  refine⟨by omega,.bool (decide (c∈pv)),by rw[aG,az,aU,z4 Nc,bQ],?_⟩;refine ct.mk ?_ ?_<;>intro hm
  ·have hm:c∈pv:=by simpa using hm
   refine⟨((c+1:Nat):Int),wo,?_⟩;intro In w3 D;exact⟨(c+1,rv,w3,_),⟨Nc,L.tr D.cG,cQ.rel hR D X,dE.rel hV D (bo w),by dsimp only;rw[BO hm];exact hK.rel D (bo w)⟩,Sub.gn [] D,by dsimp only;omega⟩
  have hm:c∉pv:=by simpa using hm
  refine bp (bz (Id:=fun _ J v Y=>dV Y FF J.heap.size [(J.heap.size,Y.heap.size)] v n (List.replicate n 0)) (fun O J r=>BH n J (by omega)) ?_);rintro O NX v2 MF r Z LF OB;replace L:=L.tr LF;replace hR:=cQ.bw (S':=Bs S w.heap.size ((NX.heap.size,MF.heap.size)::iv) v2) (cQ.br (cQ.rel hR r X) fun g R=>Z.block g (Rel.old r X g R)) fun g R=>Bs.of r X (fun x F=>aB _ F) OB R;replace hV:=dE.bw (S':=Bs FF w.heap.size ((NX.heap.size,MF.heap.size)::iv) v2) (dE.br (dE.rel hV r (bo w)) fun g R=>Z.block g (Rel.old r (bo w) g R)) fun g R=>Bs.of r (bo w) (fun x F=>aB _ F) OB R;replace hK:=dL.bw (S':=Bs FF w.heap.size ((NX.heap.size,MF.heap.size)::iv) v2) (dL.br (dL.rel hK r (bo w)) fun g R=>Z.block g (Rel.old r (bo w) g R)) fun g R=>Bs.of r (bo w) (fun x F=>aB _ F) OB R;have hX:=OB.df (S:=FF) r.bs (iv:=(NX.heap.size,MF.heap.size)::iv) aH;generalize (NX.heap.size,MF.heap.size)::iv=Kx at*
  obtain⟨ax,cx,rfl,hcx⟩:=hX.row.form;obtain⟨gx,rfl⟩:=hX.at hn0;refine bp (bz (Id:=fun _ J v Y=>cI Y (Nf J Y) v ((1:Int):Rat)) (fun O J r=>jT 1 J (by decide) (by decide)) ?_);rintro O M4 v3 MY r Z LF OB;replace L:=L.tr LF;replace hR:=cQ.bw (S':=Bs S w.heap.size ((M4.heap.size,MY.heap.size)::Kx) (.slice (some ⟨gx,0,none⟩) n cx)) (cQ.br (cQ.br hR (Bs.same r X)) fun g R=>Z.block g (Rel.old r X g R.1)) fun g R=>Bs.mono (fun x F=>aB _ F) R;replace hV:=dE.bw (S':=Bs FF w.heap.size ((M4.heap.size,MY.heap.size)::Kx) (.slice (some ⟨gx,0,none⟩) n cx)) (dE.br (dE.br hV (Bs.same r (bo w))) fun g R=>Z.block g (Rel.old r (bo w) g R.1)) fun g R=>Bs.mono (fun x F=>aB _ F) R;replace hK:=dL.bw (S':=Bs FF w.heap.size ((M4.heap.size,MY.heap.size)::Kx) (.slice (some ⟨gx,0,none⟩) n cx)) (dL.br (dL.br hK (Bs.same r (bo w))) fun g R=>Z.block g (Rel.old r (bo w) g R.1)) fun g R=>Bs.mono (fun x F=>aB _ F) R;have hd:=(OB.bw (S':=Bs FF w.heap.size ((M4.heap.size,MY.heap.size)::Kx) (.slice (some ⟨gx,0,none⟩) n cx)) fun g R=>R.elim (fun h=>h.elim) fun h=>⟨.inr ⟨by have:=r.bs;omega,_,_,aH,h.1,h.2⟩,fun e=>by have:=Rel.old r (bo w) g (hX.new g e);omega⟩)
  replace hX:=hX.bu (E:=(M4.heap.size,MY.heap.size)::Kx) r (bo w) Z fun x F=>aB _ F;generalize (M4.heap.size,MY.heap.size)::Kx=LV at*
  obtain⟨A0,A1,A2,A3,A4,A5,A6,A7,rfl⟩:=hd.shape;refine⟨⟨gx,0,none⟩,rfl,by omega,?_⟩;intro O J r;obtain⟨g,R,V,I,K,h4,h5⟩:=(hX.rel r (bo w)).store (j:=c) Nc (hd.br (Bs.same r (bo w))) r (bo w);injection R with R;injection R with R;subst R;refine⟨V,I,K,fun w5 OL=>?_⟩;obtain⟨k1,k2,k3⟩:=h5 w5 OL;have Ln:dO w.heap.size w w5:=(L.tr r.cG).tr (dO.grown k2 (fun g e=>by injection e with e;subst e;exact h4.elim (fun h=>h.elim) fun h=>h.1) r.bs);have NJ:=cQ.br hR (Bs.kept r X k2 fun g e=>e);have hV2:=dE.br hV (Bs.kept r (bo w) k2 fun g e=>e);have Nl:=dL.br hK (Bs.kept r (bo w) k2 fun g e=>e);have Kz:(List.replicate n (0:Rat)).set c ((1:Int):Rat)=fC FS pv n c 0:=rfl;rw[Kz]at k1
  refine⟨Nat×World×Iv,fun z=>⟨[(49,iN z.1),(8,iN c),(9,.o (.v (.slice (some ⟨gx,0,none⟩) n cx))),(32,iN c),(47,sV ap pv.length cp),(48,iZ pv.length),(7,.o (.w 3 rv.length)),(1,pP 0 0),(3,pP 1 0),(4,.o (.s 2 0 n n)),(31,iZ n)],[(2,.arr T.bool (qD pv n pv.length)),(3,.vec T.jC 1 rv),(1,.box T.cU [.v (.slice ar FS.length cr),.v (.int .i64 n),.v (.slice ap pv.length cp),.v (.slice af (dI M n).2.2.length cf)]),(0,.box T.dJ [.v (.slice am M.length cm),.v (.int .i64 n)])],4,z.2.2,z.2.1⟩,fun z=>pv.length-z.1,
   fun z=>z.1<=pv.length/\dO w.heap.size w z.2.1/\cQ z.2.1 (Bs S w.heap.size z.2.2 (.slice (some ⟨gx,0,none⟩) n cx)) (.slice ar FS.length cr) FS/\dE z.2.1 (Bs FF w.heap.size z.2.2 (.slice (some ⟨gx,0,none⟩) n cx)) (.slice ap pv.length cp) pv/\dL z.2.1 (Bs FF w.heap.size z.2.2 (.slice (some ⟨gx,0,none⟩) n cx)) rv (dX FS pv n c)/\dV z.2.1 FF w.heap.size z.2.2 (.slice (some ⟨gx,0,none⟩) n cx) n (fC FS pv n c z.1),?_,?_⟩
  ·intro O J D;exact⟨(0,J,_),⟨aP _,Ln.tr D.cG,cQ.br NJ (Bs.same D X),dE.br hV2 (Bs.same D (bo w)),dL.br Nl (Bs.same D (bo w)),k1.rel D (bo w)⟩,Sub.gn [] D⟩
  rintro⟨k,w3,iv⟩ ⟨W,L,hR,hV,hK,hX⟩;dsimp only at W L hR hV hK hX ⊢;refine ct.mk ?_ ?_<;>intro Ks
  ·have Ks:k<pv.length:=by simpa using Ks
   obtain⟨p,hp⟩:∃p,pv[k]? =some p:=⟨_,aA Ks⟩
   have NW:=f4 p (aD hp);obtain⟨adp,NN,kp1,kp2⟩:=hV.at hp;obtain⟨x,F⟩:∃x,FS[k]? =some x:=⟨_,aA (by omega)⟩
   have Mo:=f3 x (aD F);obtain⟨q,hq⟩:∃q,x[c]? =some q:=⟨_,aA (by omega)⟩
   have OC:cT FS k c=q:=by simp[cT,List.getD,F,hq]
   have QP:=hAb x (aD F) q (aD hq);obtain⟨adm,um,Nk,Lj,km1,km2⟩:=dZ.load hR F;obtain⟨a0,c0,rfl,Mt,-⟩:=eE.shape Lj;obtain⟨adq,G,Om,hF,_,hl⟩:=eE.load Lj hq;obtain⟨g0,g1,g2,g3,g4,g5,g6,g7,rfl,hF⟩:=hF;refine⟨adp,NN,by omega,.int .i64 (p:Int),fun O J r=>?_,?_⟩
   ·rw[aG,cA (w:=w3) (Y:=J) (by rw[dP];exact Rel.same r (bo w) kp1.1)];exact kp2
   refine⟨adm,Nk,by omega,.slice a0 x.length c0,fun O J r=>?_,?_⟩
   ·rw[aG,cA (w:=w3) (Y:=J) (by rw[dP];exact Rel.same r X km1.1)];exact km2
   refine⟨adq,Om,by omega,[.bool g0,.slice g1 g2 g3,.bool g4,.slice g5 g6 g7],rfl,fun O J r j u hu=>?_,?_⟩
   ·obtain⟨k1,k2⟩:=hl j u hu;rw[aG,cA (w:=w3) (Y:=J) (by rw[dP,dP];exact Rel.same r X k1.1)];exact k2
   refine bp (bz (Id:=fun _ J v Y=>cI Y (Nf J Y) v (-q)) (fun O J r=>GV (S:=Bs S w.heap.size iv (.slice (some ⟨gx,0,none⟩) n cx)) (fun g R=>Rel.old r X g R.1) ((hF.br (Bs.same r X)).l (by omega))) ?_);rintro O Nm v4 NI r Z LF OB;replace L:=L.tr LF;replace hR:=cQ.bw (S':=Bs S w.heap.size ((Nm.heap.size,NI.heap.size)::iv) (.slice (some ⟨gx,0,none⟩) n cx)) (cQ.br (cQ.br hR (Bs.same r X)) fun g R=>Z.block g (Rel.old r X g R.1)) fun g R=>Bs.mono (fun x F=>aB _ F) R;replace hV:=dE.bw (S':=Bs FF w.heap.size ((Nm.heap.size,NI.heap.size)::iv) (.slice (some ⟨gx,0,none⟩) n cx)) (dE.br (dE.br hV (Bs.same r (bo w))) fun g R=>Z.block g (Rel.old r (bo w) g R.1)) fun g R=>Bs.mono (fun x F=>aB _ F) R;replace hK:=dL.bw (S':=Bs FF w.heap.size ((Nm.heap.size,NI.heap.size)::iv) (.slice (some ⟨gx,0,none⟩) n cx)) (dL.br (dL.br hK (Bs.same r (bo w))) fun g R=>Z.block g (Rel.old r (bo w) g R.1)) fun g R=>Bs.mono (fun x F=>aB _ F) R;have hd:=(OB.bw (S':=Bs FF w.heap.size ((Nm.heap.size,NI.heap.size)::iv) (.slice (some ⟨gx,0,none⟩) n cx)) fun g R=>R.elim (fun h=>h.elim) fun h=>⟨.inr ⟨by have:=r.bs;omega,_,_,aH,h.1,h.2⟩,fun e=>by have:=Rel.old r (bo w) g (hX.new g e);omega⟩)
   replace hX:=hX.bu (E:=(Nm.heap.size,NI.heap.size)::iv) r (bo w) Z fun x F=>aB _ F;generalize (Nm.heap.size,NI.heap.size)::iv=MD at*
   obtain⟨C0,C1,C2,C3,C4,C5,C6,C7,rfl⟩:=hd.shape;refine⟨⟨gx,0,none⟩,rfl,by omega,?_⟩;intro O J r;obtain⟨g,R,V,I,K,h4,h5⟩:=(hX.rel r (bo w)).store (j:=p) (by omega) (hd.br (Bs.same r (bo w))) r (bo w);injection R with R;injection R with R;subst R;refine⟨V,I,K,fun w5 OL=>?_⟩;obtain⟨k1,k2,k3⟩:=h5 w5 OL;have Ln:dO w.heap.size w w5:=(L.tr r.cG).tr (dO.grown k2 (fun g e=>by injection e with e;subst e;exact h4.elim (fun h=>h.elim) fun h=>h.1) r.bs);have NJ:=cQ.br hR (Bs.kept r X k2 fun g e=>e);have hV2:=dE.br hV (Bs.kept r (bo w) k2 fun g e=>e);have Nl:=dL.br hK (Bs.kept r (bo w) k2 fun g e=>e);have Kz:(fC FS pv n c k).set p (-q)=fC FS pv n c (k+1):=by rw[fm,OC,List.getD,hp];rfl
   rw[Kz]at k1;refine⟨((k+1:Nat):Int),wo,?_⟩;intro In w6 D;exact⟨(k+1,w6,_),⟨Ks,Ln.tr D.cG,cQ.br NJ (Bs.same D X),dE.br hV2 (Bs.same D (bo w)),dL.br Nl (Bs.same D (bo w)),k1.rel D (bo w)⟩,Sub.gn [] D,by dsimp only;omega⟩
  have Ks:k=pv.length:=aS W (by simpa using Ks);rw[Ks]at hX;replace hR:=cQ.bw hR fun g R=>R.1;replace hV:=dE.bw hV fun g R=>R.1;replace hK:=(dL.bw hK fun g R=>R.1).push (u:=(.slice (some ⟨gx,0,none⟩) n cx)) (x:=fC FS pv n c pv.length) rfl (by have:=hX.c;exact this);rw[<-z5 hm]at hK;refine .inl ?_;refine⟨by simp,by omega,by unfold maxLen;omega,((c+1:Nat):Int),wo,?_⟩;intro In w3 D;exact⟨(c+1,rv++[(.slice (some ⟨gx,0,none⟩) n cx)],w3,_),⟨Nc,L.tr D.cG,cQ.rel hR D X,dE.rel hV D (bo w),hK.rel D (bo w)⟩,Sub.gn [(3,5)] D (hE:=⟨rfl,by dsimp only;rw[List.length_append,List.length_singleton];rfl,rfl,rfl,rfl,rfl,trivial⟩),by dsimp only;omega⟩
 have Nc:c=n:=aS hc (by simpa using Nc);subst Nc;intro I' we re;refine⟨_,rfl,L.tr re.cG,rv,?_,hK.1,fun i u x k1 k2=>cF.bw (cF.rel (hK.2.2 i u x k1 k2) re (bo w)) fun g R=>Cv.nw R re⟩;rw[<-hK.1];exact(re.lB (id:=3) (sz:=1) (m:=rv.length) rfl (by simp) (by unfold maxLen;omega) (by decide) hK.2.1).bw fun g R=>.inr R
structure iD(w:World)(S:Nat->Prop)(B:Nat)(iv:Iv)(v:Value)(n i:Nat)(qs:List Rat):Prop where
 row:∃U,w.ownsRow 0 T.Rat 4 v n U.flatten/\fF w (Bs S B iv v) n i U qs
 new:∀g,v.ownBlock=some g->Cv FF B iv g
section
variable{S S':Nat->Prop}{H:Hp}{nx n i:Nat}{iv E:Iv}{B:Nat}{w J Y:World}{O:Nat->Sx.cd}{v:Value}{qs:List Rat}
theorem iD.br(h:iD w S B iv v n i qs)(W:∀g,Cv S B iv g->Y.heap[g]? =w.heap[g]?):iD Y S B iv v n i qs:=by
 obtain⟨⟨U,V,I⟩,K⟩:=h;exact⟨⟨U,ownsRow.br V fun g R=>W g (Hr (K g R)),I.br fun g R=>W g R.1⟩,K⟩
theorem iD.rel(h:iD w S B iv v n i qs)(r:Rel H nx iv B w O J)(X:∀g,S g->g<B):iD J S B iv v n i qs:=h.br fun _ R=>Rel.same r X R
theorem iD.mono(h:iD w S B iv v n i qs)(hm:∀p,p∈iv->p∈E):iD w S B E v n i qs:=by
 obtain⟨⟨U,V,I⟩,K⟩:=h;exact⟨⟨U,V,I.bw fun g R=>R.mono hm⟩,fun g R=>(K g R).mono hm⟩
theorem iD.bu(h:iD w S B iv v n i qs)(r:Rel H nx iv B w O J)(X:∀g,S g->g<B)(Z:Ext J Y)(hm:∀p,p∈iv->p∈E):iD Y S B E v n i qs:=
 ((h.rel r X).br fun g R=>Z.block g (Rel.old r X g R)).mono hm
theorem iD.wi(r:Rel H nx iv B w O J)(h:cO H id=some (.arr T.Rat (List.replicate n [Value.bool false,.slice none 0 0,.bool false,.slice none 0 0]).flatten))(A:n<=maxLen)(qs:List Rat):
  iD J S B (((O id).g,(O id).g+1)::iv) (.slice (some ⟨(O id).g,0,none⟩) n n) n 0 qs:=by
 have LD:=(r.fits h).1;have h4:∀G∈List.replicate n [Value.bool false,.slice none 0 0,.bool false,.slice none 0 0],G.length=4:=fun G hc=>by rw[bN hc];rfl
 have hf:=gD h4;rw[aa]at hf;refine⟨⟨List.replicate n [.bool false,.slice none 0 0,.bool false,.slice none 0 0],⟨hf,.inr ⟨(O id).g,n,_,rfl,aP _,r.arr id _ _ h,aE _,A,by simp,by rw[<-hf];exact bQ⟩⟩,fF.start J _ n qs⟩,fun g R=>?_⟩;injection R with R;have R:(O id).g=g:=R;subst R;exact .inr ⟨(r.low id _ h LD).1,_,_,aH,aE _,bV _⟩
theorem iD.store{a1 a2:Option Addr}{c j n1 c1 n2 c2:Nat}{b b2:Bool}(h:iD w S B iv (.slice a n c) n j qs)(hj:j<n)(hq:qs[j]? =some q)(hf:cI w (Bs S B iv (.slice a n c)) (.agg #[.bool b,.slice a1 n1 c1,.bool b2,.slice a2 n2 c2]) q)
  (r:Rel H nx iv B w O J) (X:∀g,S g->g<B):
  ∃g,a=some ⟨g,0,none⟩/\((⟨g,0,none⟩:Addr).add ((j:Int).toNat*4)).spot=none/\
   (∀k,k<4->(J.cell? (((⟨g,0,none⟩:Addr).add ((j:Int).toNat*4)).add k)).isSome=true/\J.frozen? (((⟨g,0,none⟩:Addr).add ((j:Int).toNat*4)).add k)=false)/\
   (∀id b,cO H id=some b->(O id).nil=false->(O id).g≠((⟨g,0,none⟩:Addr).add ((j:Int).toNat*4)).block)/\
   ∀Y,Y=setCells J ((⟨g,0,none⟩:Addr).add ((j:Int).toNat*4)) [.bool b,.slice a1 n1 c1,.bool b2,.slice a2 n2 c2]->iD Y S B iv (.slice a n c) n (j+1) qs/\J.grownBy Y (some g)/\dO B J Y/\Rel H nx iv B Y O Y:=by
 obtain⟨⟨U,V,I⟩,K⟩:=h.rel r X;have hf:=hf.br (Bs.same r X);obtain⟨g,rfl,Kt,MG,Ll,LL⟩:=nM (nv:=[.bool b,.slice a1 n1 c1,.bool b2,.slice a2 n2 c2]) V rfl hj rfl (by decide);have LH:(⟨g,0,none⟩:Addr).add ((j:Int).toNat*4)=⟨g,j*4,none⟩:=by rw[aG,cZ,aU]
 have Me:=Rel.not r (iC B) (K g rfl);refine⟨g,rfl,by rw[LH],fun k W=>by rw[LH];exact Kt k W,fun id b hb A=>by rw[LH];exact Me id b hb A,fun Y Ln=>?_⟩;rw[LH]at Ln;subst Ln;have QS:=jU (G:=[.bool b,.slice a1 n1 c1,.bool b2,.slice a2 n2 c2]) I.four (show j<U.length by rw[I.len];exact hj);rw[QS]at MG;have Ma:∀x,Bs S B iv (.slice (some ⟨g,0,none⟩) n c) x->(setCells J ⟨g,j*4,none⟩ [.bool b,.slice a1 n1 c1,.bool b2,.slice a2 n2 c2]).heap[x]? =J.heap[x]? :=fun x F=>
  Ll.block x (Rel.old r X x F.1) fun e=>F.2 e.symm
 refine⟨⟨⟨_,MG,(I.br Ma).next hj hq (hf.br Ma)⟩,K⟩,Ll,dO.grown Ll (fun x e=>by injection e with e;subst e;exact(K g rfl).elim (fun h=>h.elim) fun h=>h.1) r.bs,r.uX Me Ll⟩
theorem iD.done(h:iD w S B iv v n n qs)(hl:qs.length=n):dV w S B iv v n qs:=by
 obtain⟨⟨U,V,I⟩,K⟩:=h;exact⟨⟨U,V,I.len,by rw[I.len,hl],fun j G q k1 k2=>I.at_ j G q (by rw[<-hl];exact(aC.1 k2).1) k1 k2⟩,K⟩
end
end Go.Ex
namespace Go.Ex
variable{FS M:List (List Rat)}{pv:List Nat}{B j:Nat}{v:Nat->Rat}
theorem yF(f:Nat->Rat):∀n,cM f n=jA (List.range n) f
 |0=>rfl
 |n+1=>by
  rw[cM,yF f n,bc,sh];show _=_+(_+0)
  rw[bW]
theorem yG(g:Nat->Rat):∀l:List Nat,jA l g=cM (fun k=>g (l.getD k 0)) l.length
 |[]=>rfl
 |t::l=>by
  rw[bL,uq];show g t+jA l g=g t+_;rw[yG g l];rfl
def mulR(M:List (List Rat))(n:Nat)(x:Nat->Rat)(j:Nat):Rat:=cM (fun t=>cT M j t*x t) n
theorem dK.dot{G8:Mx}{r n:Nat}(h:dK G8 r n v):∃c:Nat->Rat,(∀t,t<n->v t=cM (fun i=>c i*G8 i t) r)/\∀x:Nat->Rat,cM (fun t=>v t*x t) n=cM (fun i=>c i*cM (fun t=>G8 i t*x t) n) r:=by
 obtain⟨c,hc⟩:=h;refine⟨c,hc,fun x=>?_⟩;rw[bq (g:=fun t=>cM (fun i=>c i*G8 i t*x t) r) fun t ht=>by rw[hc t ht,<-oY],nS];exact bq fun i _=>by rw[<-da];exact bq fun t _=>Rat.mul_assoc _ _ _
section
variable{M:List (List Rat)}{n:Nat}{x:Nat->Rat}{b:List Rat}
theorem Fo(hM:gH n M)(h:∀j,j<M.length->mulR M n x j=0){c:Nat}(hc:c<=n):∀i,i<M.length->mulR (cB M c).1 n x i=0:=fun i N=>by
 obtain⟨c,_,I⟩:=((jx hM c hc).1 i N).dot;unfold mulR;rw[I x,bq (g:=fun _=>0) fun j hj=>by rw[show cM (fun t=>cT M j t*x t) n=0 from h j hj,ai],dD]
theorem Ai(hM:gH n M){c:Nat}(hc:c<=n)(h:∀i,i<M.length->mulR (cB M c).1 n x i=0):∀j,j<M.length->mulR M n x j=0:=fun j hj=>by
 obtain⟨c,_,I⟩:=((jx hM c hc).2 j hj).dot;unfold mulR;rw[I x,bq (g:=fun _=>0) fun i N=>by rw[show cM (fun t=>cT (cB M _).1 i t*x t) n=0 from h i N,ai],dD]
theorem jr(hM:gH n M){t:Nat}(hj:j<M.length):(t<n->cT (dF M b) j t=cT M j t)/\cT (dF M b) j n=b.getD j 0:=by
 have hr:=aA hj;have hl:(M[j]).length=n:=hM _ (aV hj);have e:(dF M b).getD j []=M[j]++[b.getD j 0]:=by rw[dF,List.getD,List.getElem?_mapIdx,hr];rfl
 have e2:M.getD j []=M[j]:=by rw[List.getD,hr];rfl
 refine⟨fun ht=>?_,?_⟩
 ·rw[cT,cT,e,e2,List.getD,aJ (by omega),<-List.getD]
 ·rw[cT,e,List.getD,aN (by omega),hl,bC];rfl
def Aj(x:Nat->Rat)(n t:Nat):Rat:=if t<n then x t else -1
theorem CK(hM:gH n M)(hj:j<M.length):mulR (dF M b) (n+1) (Aj x n) j=mulR M n x j-b.getD j 0:=by
 have h:=fun t=>jr (b:=b) (t:=t) hM hj;unfold mulR;rw[cM,(h 0).2,show Aj x n n= -1 by unfold Aj;rw[aF (Nat.lt_irrefl n)],bq (g:=fun t=>cT M j t*x t) fun t ht=>by rw[(h t).1 ht];unfold Aj;rw[if_pos ht]];grind
def ff(M:List (List Rat))(b:List Rat)(n:Nat):Option (List Rat):=
 let e:=cB (dF M b) n
 if ∀j,j<M.length->e.2.length<=j->cT e.1 j n=0 then some (fh e.1 e.2 n e.2.length)else none
theorem jy{x:List Rat}(hM:gH n M)(h:ff M b n=some x):x.length=n/\∀j,j<M.length->mulR M n (fun t=>x.getD t 0) j=b.getD j 0:=by
 unfold ff at h;dsimp only at h;split at h
 ·rename_i h0;injection h with h;have hW:=iJ (b:=b) hM;obtain⟨r1,r2,D,r4,r5⟩:=dW hW n (Nat.le_succ n);have NW:=gb (dF M b) n;have Ro:=eH (M:=M) (b:=b);have hl:=fA (dF M b) n;have Mo:x.length=n:=by rw[<-h,jH]
  have MX:∀j,j<(cB (dF M b) n).2.length->x.getD ((cB (dF M b) n).2.getD j 0) 0=cT (cB (dF M b) n).1 j n:=fun j hj=>by
   rw[<-h];exact mG (D':=fh (cB (dF M b) n).1 (cB (dF M b) n).2 n) (f:=fun i=>cT (cB (dF M b) n).1 i n) (fun i=>fo _ _ n i) (jH _ _ n) NW.2.1 r4 _ (aE _) hj
  have Ms:∀t,t∉(cB (dF M b) n).2->x.getD t 0=0:=fun t ht=>by rw[<-h];exact qS ht
  refine⟨Mo,fun j hj=>?_⟩;have key:=Ai (M:=dF M b) (x:=Aj (fun t=>x.getD t 0) n) hW (c:=n) (Nat.le_succ n) (fun i N=>?_) j (by rw[Ro];exact hj)
  ·rw[CK hM hj]at key;grind
  ·unfold mulR;rw[cM,show Aj (fun t=>x.getD t 0) n n= -1 by unfold Aj;rw[aF (Nat.lt_irrefl n)],bq (g:=fun t=>cT (cB (dF M b) n).1 i t*x.getD t 0) fun t ht=>by unfold Aj;rw[if_pos ht]];rcases aO i (cB (dF M b) n).2.length with V|V
   ·rw[fD (i:=(cB (dF M b) n).2.getD i 0) (r4 _ (by rw[List.getD,aA V];exact aV _)) fun t ht Kq=>?_,r5 i i V (by omega),if_pos rfl,MX i V]
    ·grind
    ·by_cases hp:t∈(cB (dF M b) n).2
     ·obtain⟨k,W,rfl⟩:=pY hp;rw[r5 k i W (by omega),aF (fun e=>Kq (by rw[e])),bD]
     ·rw[Ms t hp,ai]
   ·rw[bq (g:=fun _=>0) fun t ht=>by rw[D i t V (by omega) ht,bD],dD,h0 i (by rw[<-Ro];exact N) V];grind
 ·cases h
theorem pg(hM:gH n M)(h:ff M b n=none):∃y:Nat->Rat,(∀t,t<n->cM (fun j=>y j*cT M j t) M.length=0)/\cM (fun j=>y j*b.getD j 0) M.length≠0:=by
 unfold ff at h;dsimp only at h;split at h
 ·cases h
 ·rename_i h0;obtain⟨i,N,V,I⟩:∃i,i<M.length/\(cB (dF M b) n).2.length<=i/\cT (cB (dF M b) n).1 i n≠0:=by
   refine Decidable.byContradiction fun Of=>h0 fun j hj hr=>Decidable.byContradiction fun I=>Of ⟨j,hj,hr,I⟩
  have hW:=iJ (b:=b) hM;have Ro:=eH (M:=M) (b:=b);have hl:=fA (dF M b) n;obtain⟨r1,r2,D,r4,r5⟩:=dW hW n (Nat.le_succ n);obtain⟨y,hy⟩:=(jx hW n (Nat.le_succ n)).1 i (by omega);rw[Ro]at hy;refine⟨y,fun t ht=>?_,?_⟩
  ·have K:=hy t (by omega);rw[D i t V (by omega) ht]at K;rw[K];exact bq fun j hj=>by rw[(jr (b:=b) hM hj).1 ht]
  ·have K:=hy n (by omega);rw[bq (g:=fun j=>y j*b.getD j 0) fun j hj=>by rw[(jr (b:=b) (t:=n) hM hj).2]]at K;rw[<-K];exact I
theorem lN{x:Nat->Rat}(hM:gH n M)(h:∀j,j<M.length->mulR M n x j=b.getD j 0):∃z,ff M b n=some z:=by
 cases e:ff M b n with
 |some z=>exact⟨z,rfl⟩
 |none=>
  obtain⟨y,V,I⟩:=pg hM e;refine absurd ?_ I;rw[bq fun j hj=>by rw[<-h j hj,mulR,<-da],nS,bq (g:=fun _=>0) fun t ht=>?_,dD];rw[bq (g:=fun j=>y j*cT M j t*x t) fun j _=>(Rat.mul_assoc _ _ _).symm,oY,V t ht,bD]
theorem Fp(M:List (List Rat))(n:Nat)(x y:Nat->Rat)(j:Nat):mulR M n (fun t=>x t-y t) j=mulR M n x j-mulR M n y j:=by
 unfold mulR;rw[<-Aa];exact bq fun t _=>by grind
theorem qY(M:List (List Rat))(b:List Rat):jP M b=dF M b:=rfl
theorem Ak{r i t:Nat}(h:i<r):cT (FS.take r) i t=cT FS i t:=by
 rw[cT,cT,show(FS.take r).getD i []=FS.getD i [] by rw[List.getD,bM h,<-List.getD]]
theorem so(FS:List (List Rat))(pv:List Nat)(n:Nat):∀k,k<=pv.length->fh (FS.take pv.length) pv n k=fh FS pv n k
 |0,_=>rfl
 |k+1,h=>by rw[fo,fo,so FS pv n k (by omega),Ak (by omega)]
theorem sq(FS:List (List Rat))(pv:List Nat)(n c:Nat):∀k,k<=pv.length->fC (FS.take pv.length) pv n c k=fC FS pv n c k
 |0,_=>rfl
 |k+1,h=>by rw[fm,fm,sq FS pv n c k (by omega),Ak (by omega)]
abbrev cH(M:List (List Rat))(n:Nat):List (List Rat):=dX (cB M n).1 (cB M n).2 n n
theorem CL(hM:gH n M)(hW:zz M n B):jf M n=cH M n:=by
 obtain⟨e1,e2⟩:=pf hM hW;unfold jf cH dX;rw[e1,e2];exact List.map_congr_left fun c _=>sq _ _ n c _ (aE _)
theorem yH(hM:gH n M)(hW:zz (dF M b) (n+1) B):mJ M b n=ff M b n:=by
 have hWl:=iJ (b:=b) hM;obtain⟨e1,e2⟩:=pf hWl hW;have hl:=fA (dF M b) n;have Ro:=eH (M:=M) (b:=b);obtain⟨r1,r2,D,r4,r5⟩:=dW hWl n (Nat.le_succ n);have e:cB (dF M b) (n+1)=dH (cB (dF M b) n) n:=by
  unfold cB;rw[bc,List.foldl_append];rfl
 unfold mJ ff;dsimp only
 rcases jO n r2 with⟨k1,k2⟩|⟨k,k1,k2,k3,k4⟩
 ·rw[aF (by rw[qY,e1,e,k1];exact fun h=>by have:=r4 n h;omega),if_pos fun j hj hr=>k2 j hr (by omega),qY,e1,e2,e,k1,so _ _ n _ (aE _)]
 ·rw[if_pos (by rw[qY,e1,e,k4];simp),aF fun h=>k3 (h k (by omega) k1)]
theorem Fq(hM:gH n M){x:List Rat}(h:∀j,j<M.length->mulR M n (fun t=>x.getD t 0) j=0):Diff (cB M n).1 (cB M n).2 n x:=by
 obtain⟨r1,r2,D,r4,r5⟩:=dW hM n (aE _);have NW:=gb M n;have hl:=fA M n;refine⟨NW.2.1,r4,r2,r5,fun j hj=>?_⟩;rw[<-yF];have V:=Fo hM h (aE n) j (by omega);unfold mulR at V;rw[V,cT,List.getD,List.getElem?_eq_none (by rw[r1.getD hj];exact aE _)];rfl
theorem lO(M:List (List Rat))(n:Nat):(cH M n).length=(gl (cB M n).2 n).length:=by unfold cH dX;rw[aK]
theorem vH(M:List (List Rat))(n:Nat){k:Nat}(W:k<(cH M n).length):(cH M n).getD k []=fC (cB M n).1 (cB M n).2 n ((gl (cB M n).2 n).getD k 0) (cB M n).2.length:=by
 obtain⟨r,hr⟩:∃r,(cH M n)[k]? =some r:=⟨_,aA W⟩
 rw[List.getD,hr];exact(mH hr).2
theorem mK(M:List (List Rat))(n:Nat):gH n (cH M n):=fun r hr=>by
 obtain⟨k,W⟩:=aQ hr;rw[(mH W).2,jG]
theorem vI(hM:gH n M){k:Nat}(W:k<(cH M n).length):∀j,j<M.length->mulR M n (cT (cH M n) k) j=0:=by
 obtain⟨r1,r2,D,r4,r5⟩:=dW hM n (aE _);have NW:=gb M n;have hl:=fA M n;have hf:=jw.1 (nR (by rw[<-lO];exact W));refine Ai hM (aE n) fun i N=>?_;have Kr:=vH M n W;generalize hc:(gl (cB M n).2 n).getD k 0=c at hf Kr;have MX:∀j,j<(cB M n).2.length->cT (cH M n) k ((cB M n).2.getD j 0)= -(cT (cB M n).1 j c):=fun j hj=>by
  rw[cT,Kr];exact mG (D':=fC (cB M n).1 (cB M n).2 n c) (f:=fun i=> -(cT (cB M n).1 i c)) (fun i=>fm _ _ n c i) (jG _ _ n c) NW.2.1 r4 _ (aE _) hj
 have Ms:∀t,t∉(cB M n).2->cT (cH M n) k t=if t=c then 1 else 0:=fun t ht=>by rw[cT,Kr];exact nQ ht hf.1
 unfold mulR;rcases aO i (cB M n).2.length with V|V
 ·have hpi:(cB M n).2.getD i 0∈(cB M n).2:=by rw[List.getD,aA V];exact aV _
  have Kq:(cB M n).2.getD i 0≠c:=fun e=>hf.2 (e▸hpi);have e:cM (fun t=>cT (cB M n).1 i t*cT (cH M n) k t) n=cM (fun t=>(if t=(cB M n).2.getD i 0 then -(cT (cB M n).1 i c)else 0)+(if t=c then cT (cB M n).1 i c else 0)) n:=by
   refine bq fun t ht=>?_;by_cases hp:t∈(cB M n).2
   ·obtain⟨j,hj,rfl⟩:=pY hp;rw[MX j hj,r5 j i hj (by omega),aF (show ¬(cB M n).2.getD j 0=c from fun e=>hf.2 (e▸hp)),bW];by_cases Lt:i=j
    ·rw[if_pos Lt,if_pos (by rw[Lt]),Lt,bm]
    ·have hne2:(cB M n).2.getD j 0≠(cB M n).2.getD i 0:=fun e2=>Lt (by
      rcases Nat.lt_trichotomy i j with h5|h5|h5
      ·have:(cB M n).2.getD i 0<(cB M n).2.getD j 0:=FV NW.2.1 h5 hj;omega
      ·exact h5
      ·have:(cB M n).2.getD j 0<(cB M n).2.getD i 0:=FV NW.2.1 h5 V
       omega)
     rw[aF Lt,aF hne2,bD]
   ·rw[Ms t hp,aF (show ¬t=(cB M n).2.getD i 0 from fun e2=>hp (e2▸hpi)),Rat.zero_add];by_cases htc:t=c
    ·rw[if_pos htc,if_pos htc,htc,Rat.mul_one]
    ·rw[aF htc,aF htc,ai]
  rw[e,fN,fD (i:=(cB M n).2.getD i 0) (r4 _ hpi) fun t _ Kq=>aF Kq,fD (i:=c) hf.1 fun t _ Kq=>aF Kq,if_pos rfl,if_pos rfl];grind
 ·rw[bq (g:=fun _=>0) fun t ht=>by rw[D i t V (by omega) ht,bD],dD]
theorem DO(hM:gH n M)(h:∀j,j<M.length->mulR M n x j=0):∃c:Nat->Rat,∀t,t<n->x t=cM (fun k=>c k*cT (cH M n) k t) (cH M n).length:=by
 obtain⟨l,hl⟩:∃l,l=(List.range n).map x:=⟨_,rfl⟩
 have F:∀t,t<n->l.getD t 0=x t:=fun t ht=>by rw[hl,List.getD,aM,b9 ht];rfl
 have hd:=Fq (x:=l) hM fun j hj=>Eq.trans (bq fun t ht=>congrArg (cT M j t* ·) (F t ht)) (h j hj);refine⟨fun k=>l.getD ((gl (cB M n).2 n).getD k 0) 0,fun t ht=>?_⟩;have V:=hd.rest ht;obtain⟨r1,r2,D,r4,r5⟩:=dW hM n (aE _);have h0:(fh (cB M n).1 (cB M n).2 n (cB M n).2.length).getD t 0=0:=by
  by_cases hp:t∈(cB M n).2
  ·obtain⟨j,hj,rfl⟩:=pY hp;rw[hd.Ke hj,cT,List.getD,List.getElem?_eq_none (by rw[r1.getD (by omega)];exact aE _)];rfl
  ·exact qS hp
 rw[h0,bD,bW,F t ht,yG]at V;rw[V,lO];exact bq fun k W=>by rw[cT,vH M n (by rw[lO];exact W)]
theorem H6{c:Nat->Rat}(h:∀t,t<n->cM (fun k=>c k*cT (cH M n) k t) (cH M n).length=0):∀k,k<(cH M n).length->c k=0:=fun k W=>by
 have Qy:k<(gl (cB M n).2 n).length:=by rw[<-lO];exact W
 have hf:=jw.1 (nR Qy);have V:=h _ hf.1;obtain⟨r,hr⟩:∃r,(cH M n)[k]? =some r:=⟨_,aA W⟩
 rw[fD W fun i N Kq=>?_]at V
 ·rw[cT,show(cH M n).getD k []=r by rw[List.getD,hr];rfl,uo hr hr,if_pos rfl,Rat.mul_one]at V;exact V
 ·obtain⟨s,hs⟩:∃s,(cH M n)[i]? =some s:=⟨_,aA N⟩
  rw[cT,show(cH M n).getD i []=s by rw[List.getD,hs];rfl,uo hr hs,aF Kq,ai]
end
theorem vJ(p:Nat->Bool):∀l:List Nat,l.length=(l.filter p).length+(l.filter fun c=> !p c).length
 |[]=>rfl
 |c::l=>by
  have ih:=vJ p l;rw[List.filter_cons,List.filter_cons]
  cases p c with
  |true=>simp;omega
  |false=>simp;omega
theorem Fs{n:Nat}(A:pv.Nodup)(hl:∀p∈pv,p<n):(gl pv n).length=n-pv.length:=by
 have V:(List.range n).length=((List.range n).filter fun c=>decide (c∉pv)).length+((List.range n).filter fun c=>decide (c∈pv)).length:=by
  refine(vJ (fun c=>decide (c∉pv)) (List.range n)).trans ?_;congr 2;refine List.filter_congr fun c _=>?_;by_cases h:c∈pv<;>simp[h]
 have I:((List.range n).filter fun c=>decide (c∈pv)).length=pv.length:=by
  refine(List.Perm.length_eq ?_);refine(List.perm_ext_iff_of_nodup (List.Pairwise.filter _ List.nodup_range) A).2 fun c=>?_;rw[List.mem_filter,List.mem_range,decide_eq_true_eq];exact⟨fun h=>h.2,fun h=>⟨hl c h,h⟩⟩
 rw[List.length_range]at V;unfold gl;omega
theorem CM{n:Nat}(hM:gH n M):(cH M n).length=n-(cB M n).2.length:=by
 obtain⟨r1,r2,D,r4,r5⟩:=dW hM n (aE _);have NW:=gb M n;rw[lO];exact Fs (NW.2.1.imp fun h=>Nat.ne_of_lt h) r4
end Go.Ex
namespace Go.Ex
open Go Go.Sx Go.Proofs
variable{after:Array Edge}{z:Int}{p:Int×Int×Rat}{M:List (List Rat)}{U:List (List Value)}{l:List Int}{G:List Value}{j:Nat}{C S S':Nat->Prop}{guard:Option (Nat×Bool)}{a:Option Addr}{dst:Option Tmp}{G9:SV->Hp->Nat->Iv->World->Prop}{v:Value}{w Y:World}{f:eS}
theorem cQ.nil:cQ w S (.slice none 0 0) []:=⟨[],⟨by decide,rfl,fun u hu=>absurd hu (by simp),none,0,rfl,aE _,fun j u hu=>absurd hu (by simp)⟩,rfl,fun i u x V I=>absurd I (by simp)⟩
theorem zi(M:List (List Rat)):jf M 0=[]:=by simp[jf,dX]
set_option maxHeartbeats 1000000 in
theorem BY(hC:Old C w)(X:Old S w)(hM:mc w C S v M)(hlen:gH 0 M)(hR:M.length<=1000):
  eF PG F'.gX #[.agg #[v,.int .i64 0],.int .i64 0] w (eM w fun v' Y=>v'= .agg #[.slice none 0 0,.int .i64 0,.slice none 0 0,.slice none 0 0]):=by
 have L:=bR w;obtain⟨am,cm,rfl,Og,PQ⟩:=mc.shape hM;unfold maxLen at PQ;refine iU (by simp) ?_;refine⟨0,0,rfl,rfl,aE _,by omega,by omega,World,fun z=>⟨[(1,iZ 0),(2,pP 0 0),(4,pP 1 0),(5,pP 2 0),(6,.o (.s 3 0 0 0)),(27,iZ 0),(28,iZ 0)],[(3,.arr T.int []),(2,.box T.cU [.v (.slice none 0 0),.v (.int .i64 0),.v (.slice none 0 0),.v (.slice none 0 0)]),(1,.box T.cU [.v (.slice none 0 0),.v (.int .i64 0),.v (.slice none 0 0),.v (.slice none 0 0)]),(0,.box T.dJ [.v (.slice am M.length cm),.v (.int .i64 0)])],4,[],z⟩,fun z=>0,fun z=>dO w.heap.size w z,?_,?_⟩
 ·intro O J D;exact⟨J,L.tr D.cG,Sub.gn [] D⟩
 rintro w1 L;dsimp only at L ⊢
 refine⟨Nat×World,fun z=>⟨[(38,iN z.1),(1,iZ 0),(2,pP 0 0),(4,pP 1 0),(5,pP 2 0),(6,.o (.s 3 0 0 0)),(36,sV am M.length cm),(37,iZ M.length)],[(3,.arr T.int []),(2,.box T.cU [.v (.slice none 0 0),.v (.int .i64 0),.v (.slice none 0 0),.v (.slice none 0 0)]),(1,.box T.cU [.v (.slice none 0 0),.v (.int .i64 0),.v (.slice none 0 0),.v (.slice none 0 0)]),(0,.box T.dJ [.v (.slice am M.length cm),.v (.int .i64 0)])],5,[],z.2⟩,fun z=>M.length-z.1,
  fun z=>z.1<=M.length/\dO w.heap.size w z.2,?_,?_⟩
 ·intro O J D;exact⟨(0,J),⟨aP _,L.tr D.cG⟩,Sub.gn [] D⟩
 rintro⟨i,w1⟩ ⟨N,L⟩;dsimp only at N L ⊢;refine ct.mk ?_ ?_<;>intro Kp
 ·have Kp:i<M.length:=by simpa using Kp
  obtain⟨x,F⟩:∃r,M[i]? =some r:=⟨_,aA Kp⟩
  have Mo:=hlen x (aD F);obtain rfl:=List.eq_nil_of_length_eq_zero Mo;obtain⟨adm,um,Nk,Lj,km1,km2⟩:=mc.load hM F;obtain⟨U,⟨-,g1,g2,a0,c0,rfl,g4,g5⟩,Lo,PU,Le⟩:=Lj;obtain rfl:=List.eq_nil_of_length_eq_zero Lo;refine⟨adm,Nk,by omega,.slice a0 0 c0,rd1 km2 L (hC _ km1),?_⟩;refine .inl ?_;refine⟨[],rfl,g2,fun O J r LU=>absurd LU (by simp),rfl,by omega,by unfold maxLen;omega,World,fun z=>⟨[(9,.o (.w 6 0)),(46,iZ 0),(47,iZ 0),(2,pP 0 0),(4,pP 1 0),(5,pP 2 0),(6,.o (.s 3 0 0 0)),(8,iN i),(36,sV am M.length cm),(37,iZ M.length),(38,iN i),(1,iZ 0)],[(6,.vec T.Rat 4 []),(3,.arr T.int []),(2,.box T.cU [.v (.slice none 0 0),.v (.int .i64 0),.v (.slice none 0 0),.v (.slice none 0 0)]),(1,.box T.cU [.v (.slice none 0 0),.v (.int .i64 0),.v (.slice none 0 0),.v (.slice none 0 0)]),(0,.box T.dJ [.v (.slice am M.length cm),.v (.int .i64 0)])],7,[],z⟩,fun z=>0,fun z=>dO w.heap.size w z,?_,?_⟩
  ·intro O J D;exact⟨J,L.tr D.cG,Sub.gn [] D⟩
  rintro w1 L;dsimp only at L ⊢;refine⟨World,fun z=>⟨[(9,.o (.w 6 0)),(12,iZ 0),(2,pP 0 0),(4,pP 1 0),(5,pP 2 0),(6,.o (.s 3 0 0 0)),(8,iN i),(36,sV am M.length cm),(37,iZ M.length),(38,iN i),(1,iZ 0)],[(6,.vec T.Rat 4 []),(3,.arr T.int []),(2,.box T.cU [.v (.slice none 0 0),.v (.int .i64 0),.v (.slice none 0 0),.v (.slice none 0 0)]),(1,.box T.cU [.v (.slice none 0 0),.v (.int .i64 0),.v (.slice none 0 0),.v (.slice none 0 0)]),(0,.box T.dJ [.v (.slice am M.length cm),.v (.int .i64 0)])],7,[],z⟩,fun z=>0,fun z=>dO w.heap.size w z,?_,?_⟩
  ·intro O J D;exact⟨J,L.tr D.cG,Sub.gn [] D⟩
  rintro w1 L;dsimp only at L ⊢;refine⟨((i+1:Nat):Int),wo,?_⟩;intro In w3 D;exact⟨(i+1,w3),⟨Kp,L.tr D.cG⟩,Sub.gn [] D,by dsimp only;omega⟩
 refine⟨World,fun z=>⟨[(4,pP 1 0),(5,pP 2 0),(17,pP 5 0),(159,.o (.s 3 0 0 0)),(160,iZ 0),(161,iZ 0)],[(5,.box T.cU [.v (.slice none 0 0),.v (.int .i64 0),.v (.slice none 0 0),.v (.slice none 0 0)]),(3,.arr T.int []),(2,.box T.cU [.v (.slice none 0 0),.v (.int .i64 0),.v (.slice none 0 0),.v (.slice none 0 0)]),(1,.box T.cU [.v (.slice none 0 0),.v (.int .i64 0),.v (.slice none 0 0),.v (.slice none 0 0)]),(0,.box T.dJ [.v (.slice am M.length cm),.v (.int .i64 0)])],6,[],z⟩,fun z=>0,fun z=>dO w.heap.size w z,?_,?_⟩
 ·intro O J D;exact⟨J,L.tr D.cG,Sub.gn [] D⟩
 rintro w1 L;dsimp only at L ⊢;exact rtn L fun I' we re=>rfl
set_option maxHeartbeats 1000000 in
theorem Cn(hC:Old C w)(X:Old S w)(hM:mc w C S v M)(hlen:gH 0 M)(hR:M.length<=1000):
  eF PG F'.fP #[.agg #[v,.int .i64 0]] w (eM w fun v' Y=>cQ Y (Nf w Y) v' (jf M 0)):=by
 have L:=bR w;obtain⟨am,cm,rfl,Og,PQ⟩:=mc.shape hM;unfold maxLen at PQ;refine iT (by simp) ?_
 refine bp (bz (Id:=fun _ J v Y=>v= .agg #[.slice none 0 0,.int .i64 0,.slice none 0 0,.slice none 0 0]) (fun O J r=>by
  obtain⟨rv,m1,m2,m3⟩:=hM
  exact BY (C:=C) (S:=S) (oS hC r) (oS X r) ⟨rv,m1.br fun g R=>(L.tr r.cG).block g (hC g R),m2,fun i u x V I=>cF.br (m3 i u x V I) fun g R=>(L.tr r.cG).block g (X g R)⟩ hlen hR) ?_)
 rintro O M5 v1 MS r Z LF rfl;replace L:=L.tr LF;generalize (M5.heap.size,MS.heap.size)::[]=LC at*
 refine⟨0,0,rfl,rfl,aE _,by omega,by omega,World×Iv,fun z=>⟨[(1,pP 0 0),(3,pP 1 0),(4,.o (.s 2 0 0 0)),(20,sV none 0 0),(21,iZ 0),(22,iZ 0)],[(2,.arr T.bool []),(1,.box T.cU [.v (.slice none 0 0),.v (.int .i64 0),.v (.slice none 0 0),.v (.slice none 0 0)]),(0,.box T.dJ [.v (.slice am M.length cm),.v (.int .i64 0)])],3,z.2,z.1⟩,fun z=>0,fun z=>dO w.heap.size w z.1,?_,?_⟩
 ·intro O J D;exact⟨(J,_),L.tr D.cG,Sub.gn [] D⟩
 rintro⟨w1,iv⟩ L;dsimp only at L ⊢;refine⟨World×Iv,fun z=>⟨[(32,iZ 0),(7,sV none 0 0),(1,pP 0 0),(3,pP 1 0),(4,.o (.s 2 0 0 0)),(31,iZ 0)],[(2,.arr T.bool []),(1,.box T.cU [.v (.slice none 0 0),.v (.int .i64 0),.v (.slice none 0 0),.v (.slice none 0 0)]),(0,.box T.dJ [.v (.slice am M.length cm),.v (.int .i64 0)])],3,z.2,z.1⟩,fun z=>0,fun z=>dO w.heap.size w z.1,?_,?_⟩
 ·intro O J D;exact⟨(J,_),L.tr D.cG,Sub.gn [] D⟩
 rintro⟨w1,iv⟩ L;dsimp only at L ⊢;intro I' we re;rw[zi];exact⟨_,rfl,L.tr re.cG,cQ.nil⟩
theorem Co{n h:Nat}(hC:Old C w)(X:Old S w)(hM:mc w C S v M)(hlen:gH n M)(hR:M.length<=1000)(A:n<=1000)(hB:BJ M n h)(hAb:Ht (dI M n).1 h)(hh:3*h<=90000):
  eF PG F'.fP #[.agg #[v,.int .i64 n]] w (eM w fun v' Y=>cQ Y (Nf w Y) v' (jf M n)):=by
 rcases bF n with h0|h0
 ·subst h0;exact Cn hC X hM hlen hR
 ·exact E9 hC X hM hlen h0 A hR hB hAb hh
theorem gj{k:Nat}(h:∀G∈U,G.length=k):U.flatten.length=U.length*k:=by
 induction U with
 |nil=>simp
 |cons c r ih=>rw[List.flatten_cons,List.length_append,h c aH,ih fun x F=>h x (aB _ F),bL,Nat.succ_mul];omega
theorem od{k:Nat}(h:∀G∈U,G.length=k)(hj:U[j]? =some G)(i:Nat)(u:Value)(hu:G[i]? =some u):U.flatten[j*k+i]? =some u:=by
 induction U generalizing j with
 |nil=>cases hj
 |cons c r ih=>
  have hc:=h c aH;have N:=(aC.1 hu).1
  cases j with
  |zero=>
   injection hj with hj;subst hj;rw[List.flatten_cons,Nat.zero_mul,aU,aJ N];exact hu
  |succ j=>
   rw[List.flatten_cons,aN (by rw[hc,Nat.succ_mul];omega),hc,show(j+1)*k+i-k=j*k+i by rw[Nat.succ_mul];omega];exact ih (fun x F=>h x (aB _ F)) hj
def dT{α:Type}(k:Nat)(P:World->(Nat->Prop)->List Value->α->Prop)(w:World)(S:Nat->Prop)(v:Value)(xs:List α):Prop:=
 ∃U:List (List Value),gi w S k v U.flatten xs.length/\U.length=xs.length/\(∀G∈U,G.length=k)/\∀(j:Nat) G x,U[j]? =some G->xs[j]? =some x->P w S G x
section
variable{α:Type}{k:Nat}{P:World->(Nat->Prop)->List Value->α->Prop}{w Y:World}{S S':Nat->Prop}{v:Value}{xs:List α}
theorem dT.br(hP:∀G x,P w S G x->P Y S G x)(h:dT k P w S v xs)(W:∀g,S g->Y.heap[g]? =w.heap[g]?):dT k P Y S v xs:=by
 obtain⟨U,V,I,K,h4⟩:=h;exact⟨U,V.br W,I,K,fun j G x k1 k2=>hP G x (h4 j G x k1 k2)⟩
theorem dT.bw(hP:∀G x,P w S G x->P w S' G x)(h:dT k P w S v xs)(W:∀g,S g->S' g):dT k P w S' v xs:=by
 obtain⟨U,V,I,K,h4⟩:=h;exact⟨U,V.bw W,I,K,fun j G x k1 k2=>hP G x (h4 j G x k1 k2)⟩
theorem dT.shape(h:dT k P w S v xs):∃a c,v= .slice a xs.length c/\xs.length<=c/\xs.length<=maxLen:=by
 obtain⟨U,⟨h0,_,_,a,c,V,I,_⟩,_⟩:=h;exact⟨a,c,V,I,h0⟩
theorem dT.load{m c:Nat}{x:α}(W:0<k)(h:dT k P w S (.slice a m c) xs)(hq:xs[j]? =some x):
  ∃ad G,a=some ad/\P w S G x/\G.length=k/\∀i u,G[i]? =some u->S ad.block/\w.cell? ((ad.add (j*k)).add i)=some u:=by
 obtain⟨U,⟨h0,V,I,a',c',e,K,h4⟩,hl,hl4,hf⟩:=h;injection e with e1 e2 e3;subst e1;obtain⟨G,Le⟩:∃G,U[j]? =some G:=⟨_,aA (by rw[hl];exact(aC.1 hq).1)⟩
 have hl:=hl4 G (aD Le);obtain⟨ad,k1,k2,k3⟩:=h4 (j*k+0) _ (od hl4 Le 0 _ (aA (show 0<G.length by omega)));refine⟨ad,G,k1,hf j G x Le hq,hl,fun i u hu=>?_⟩;obtain⟨ad2,m1,m2,m3⟩:=h4 (j*k+i) u (od hl4 Le i u hu);rw[k1]at m1;injection m1 with m1;subst m1;refine⟨m2,?_⟩;rw[<-m3];have:(ad.add (j*k)).add i=ad.add (j*k+i):=by
  unfold Addr.add;split<;>split<;>simp_all<;>omega
 rw[this]
end
def Df(_w:World)(_S:Nat->Prop)(G:List Value)(p:Int×Int×Int):Prop:=G=[.int .i64 p.1,.int .i64 p.2.1,.int .i64 p.2.2]
def mw(_w:World)(_S:Nat->Prop)(G:List Value)(p:Ld):Prop:=G=[.int .i64 p.1,.int .i64 p.2.1,.int .i64 p.2.2.1,.int .i64 p.2.2.2]
def z6(w:World)(S:Nat->Prop)(G:List Value)(p:Int×Int×Rat):Prop:=∃b a n c b2 a2 n2 c2,G=[.int .i64 p.1,.int .i64 p.2.1,.bool b,.slice a n c,.bool b2,.slice a2 n2 c2]/\eP w S (.agg #[.bool b,.slice a n c,.bool b2,.slice a2 n2 c2]) p.2.2
theorem z6.br(h:z6 w S G p)(W:∀g,S g->Y.heap[g]? =w.heap[g]?):z6 Y S G p:=by
 obtain⟨b,a,n,c,b2,a2,n2,c2,V,I⟩:=h;exact⟨b,a,n,c,b2,a2,n2,c2,V,I.br W⟩
theorem z6.bw(h:z6 w S G p)(W:∀g,S g->S' g):z6 w S' G p:=by
 obtain⟨b,a,n,c,b2,a2,n2,c2,V,I⟩:=h;exact⟨b,a,n,c,b2,a2,n2,c2,V,I.bw W⟩
abbrev lC:=dT 3 Df
abbrev dQ:=dT 4 mw
abbrev Gg:=dT 6 z6
structure dN(w:World)(S:Nat->Prop)(vn vb vs:Value)(f:eS):Prop where
 nodes:lC w S vn f.nodes
 bars:Gg w S vb f.bars
 cJ:Gg w S vs f.cJ
section
variable{S S':Nat->Prop}{H:Hp}{nx:Nat}{iv E:Iv}{B:Nat}{w J Y:World}{O:Nat->Sx.cd}{v vn vb vs:Value}{f:eS}{l:List Ld}
theorem dQ.br(h:dQ w S v l)(W:∀g,S g->Y.heap[g]? =w.heap[g]?):dQ Y S v l:=dT.br (w:=w) (fun _ _ h=>h) h W
theorem dQ.bw(h:dQ w S v l)(W:∀g,S g->S' g):dQ w S' v l:=dT.bw (S:=S) (fun _ _ h=>h) h W
theorem dN.br(h:dN w S vn vb vs f)(W:∀g,S g->Y.heap[g]? =w.heap[g]?):dN Y S vn vb vs f:=
 ⟨dT.br (w:=w) (fun _ _ h=>h) h.nodes W,dT.br (fun _ _ h=>h.br W) h.bars W,dT.br (fun _ _ h=>h.br W) h.cJ W⟩
theorem dN.bw(h:dN w S vn vb vs f)(W:∀g,S g->S' g):dN w S' vn vb vs f:=
 ⟨dT.bw (S:=S) (fun _ _ h=>h) h.nodes W,dT.bw (fun _ _ h=>h.bw W) h.bars W,dT.bw (fun _ _ h=>h.bw W) h.cJ W⟩
theorem dN.rel(h:dN w (Cv S B iv) vn vb vs f)(r:Rel H nx iv B w O J)(X:∀g,S g->g<B):dN J (Cv S B iv) vn vb vs f:=h.br fun _ R=>Rel.same r X R
theorem dN.shape(h:dN w S vn vb vs f):∃an cn ab cb aq G,vn= .slice an f.nodes.length cn/\vb= .slice ab f.bars.length cb/\vs= .slice aq f.cJ.length G/\f.nodes.length<=maxLen/\f.bars.length<=maxLen/\f.cJ.length<=maxLen:=by
 obtain⟨an,cn,V,_,I⟩:=h.nodes.shape;obtain⟨ab,cb,K,_,h4⟩:=h.bars.shape;obtain⟨aq,G,h5,_,h6⟩:=h.cJ.shape;exact⟨an,cn,ab,cb,aq,G,V,K,h5,I,h4,h6⟩
end
theorem wj{P:Program}{τ:l9}{B nx:Nat}{l:Env}{H:Hp}{iv:Iv}(hτ:ey P τ){t ty len e sz by_:Nat}{ag:Bool}{ze ze2:List Value}{ik ik2:IntKind}{b2 tag2 al2 e0:Nat}{fs fs2:List (Nat×Nat)}{x i:Operand}{pos:String}{vx:SV}{G:Array Value}{k:IntKind}{m:Int}{u:Value}
  (ht:τ t=some ⟨sz,ag,by_,ze,6,ik,e,len,fs⟩) (LY:τ e=some ⟨1,false,b2,ze2,tag2,ik2,e0,al2,fs2⟩) (F:ev l x=some vx) (Pc:∀O,vx.den O= .agg G) (N:ev l i=some (.o (.v (.int k m)))) (hm:0<=m/\m<len) (hc:G[m.toNat]? =some u)
  (hK:∀O J,Rel H nx iv B w O J->G9 (.o (.v u)) H nx iv J):tv P B ⟨dst,.index t x i,ty,pos,after,guard⟩ l H nx iv w G9:=by
 have hto:=(hτ t _ ht).i6 rfl;have Nh:=hτ e _ LY;refine Br hto (fun w=>Nh.sizeOf w) (fun w j v hv=>?_) F Pc N hm hc hK;simp[part,Nh.isAgg,hv]
structure iE(w:World)(B:Nat)(iv:Iv)(rv:List Value)(n:Nat)(M:List (List Int)):Prop where
 len:rv.length=M.length
 wid:∀l∈M,l.length=n
 row:∀(i:Nat) v l,rv[i]? =some v->M[i]? =some l->w.ownsRow 0 T.int 1 v n (l.map fun z=>.int .i64 z)
 wX:∀(i j:Nat) a b g,rv[i]? =some a->rv[j]? =some b->a.ownBlock=some g->b.ownBlock=some g->i=j
 new:∀g,Ob rv g->Cv FF B iv g
section
variable{H:Hp}{nx n:Nat}{iv E:Iv}{B:Nat}{w J Y:World}{O:Nat->Sx.cd}{rv:List Value}{M:List (List Int)}
theorem iE.nil:iE w B iv [] n []:=⟨rfl,fun l h=>(by cases h),fun i v l h=>(by cases h),fun i j a b g h=>(by cases h),fun g ⟨v,hv,_⟩=>by cases hv⟩
theorem iE.br(h:iE w B iv rv n M)(W:∀g,Cv FF B iv g->Y.heap[g]? =w.heap[g]?):iE Y B iv rv n M:=
 ⟨h.len,h.wid,fun i v l V I=>ownsRow.br (h.row i v l V I) fun g R=>W g (h.new g ⟨v,aD V,R⟩),h.wX,h.new⟩
theorem iE.rel(h:iE w B iv rv n M)(r:Rel H nx iv B w O J):iE J B iv rv n M:=h.br fun _ R=>Rel.same r (iC B) R
theorem iE.mono(h:iE w B iv rv n M)(hm:∀p,p∈iv->p∈E):iE w B E rv n M:=⟨h.len,h.wid,h.row,h.wX,fun g R=>(h.new g R).mono hm⟩
theorem iE.bu(h:iE w B iv rv n M)(r:Rel H nx iv B w O J)(Z:Ext J Y)(hm:∀p,p∈iv->p∈E):iE Y B E rv n M:=
 ((h.rel r).br fun g R=>Z.block g (Rel.old r (iC B) g R)).mono hm
theorem iE.form(hM:iE w B iv rv n M){i:Nat}(hv:rv[i]? =some v):∃a c,v= .slice a n c:=by
 obtain⟨l,hl⟩:∃l,M[i]? =some l:=⟨_,aA (by rw[<-hM.len];exact(aC.1 hv).1)⟩
 obtain⟨a,c,h,_⟩:=fQ (hM.row i v l hv hl);exact⟨a,c,h⟩
theorem iE.one(hM:iE w B iv rv n M):∀u∈rv,u.oneCell'=true:=fun u hu=>by
 obtain⟨i,N⟩:=aQ hu;obtain⟨a,c,rfl⟩:=hM.form N;rfl
theorem iE.load(hM:iE w B iv rv n M){i k:Nat}{c:Nat}(hv:rv[i]? =some (.slice a n c))(hl:M[i]? =some l)(W:l[k]? =some z):
  ∃ad,a=some ad/\Cv FF B iv ad.block/\w.cell? (ad.add (k*1))=some (.int .i64 z):=by
 have h:=hM.row i _ l hv hl;have hlen:=hM.wid l (aD hl);rcases h.2 with⟨_,h0⟩|⟨g,cap,cur,e,_⟩
 ·have:=(aC.1 W).1;omega
 ·injection e with e;refine⟨⟨g,0,none⟩,e,hM.new g ⟨_,aD hv,by rw[e];rfl⟩,?_⟩;have:=h.cells (g:=g) (by rw[e];rfl) k (.int .i64 z) (by rw[aM,W];rfl);rw[az];exact this
theorem iE.store(hM:iE w B iv rv n M)(r:Rel H nx iv B w O J){i k:Nat}{c:Nat}(hv:rv[i]? =some (.slice a n c))(hl:M[i]? =some l)(W:k<n):
  ∃g,a=some ⟨g,0,none⟩/\((⟨g,0,none⟩:Addr).add ((k:Int).toNat*1)).spot=none/\
   (∀j,j<1->(J.cell? (((⟨g,0,none⟩:Addr).add ((k:Int).toNat*1)).add j)).isSome=true/\J.frozen? (((⟨g,0,none⟩:Addr).add ((k:Int).toNat*1)).add j)=false)/\
   (∀id b,cO H id=some b->(O id).nil=false->(O id).g≠((⟨g,0,none⟩:Addr).add ((k:Int).toNat*1)).block)/\
   ∀Y,Y=setCells J ((⟨g,0,none⟩:Addr).add ((k:Int).toNat*1)) [.int .i64 z]->iE Y B iv rv n (M.set i (l.set k z))/\dO B J Y/\Rel H nx iv B Y O Y/\J.grownBy Y (some g)/\Ob rv g:=by
 have RF:=hM.rel r;have V:=RF.row i _ l hv hl;have hlen:=hM.wid l (aD hl);obtain⟨g,rfl,Kt,MG,Ll,LL⟩:=nM (nv:=[.int .i64 z]) V rfl W rfl (by decide);have M7:Ob rv g:=⟨_,aD hv,rfl⟩
 have LH:(⟨g,0,none⟩:Addr).add ((k:Int).toNat*1)=⟨g,k*1,none⟩:=by rw[aG,cZ,aU]
 have Me:=Rel.not r (iC B) (hM.new g M7);refine⟨g,rfl,by rw[LH],fun j hj=>by rw[LH];exact Kt j hj,fun id b hb A=>by rw[LH];exact Me id b hb A,fun Y Ln=>?_⟩;rw[LH]at Ln;subst Ln;refine⟨⟨by rw[bH];exact hM.len,fun x F=>?_,fun j v l2 K h4=>?_,hM.wX,hM.new⟩,dO.grown Ll (fun x e=>by injection e with e;subst e;exact(hM.new g M7).elim (fun h=>h.elim) fun h=>h.1) r.bs,r.uX Me Ll,Ll,M7⟩
 ·rcases bB F with F|rfl
  ·exact hM.wid x F
  ·rw[bH];exact hlen
 ·by_cases Lt:i=j
  ·subst Lt;rw[hv]at K;injection K with K;subst K;rw[aR (by rw[<-hM.len];exact(aC.1 hv).1)]at h4;injection h4 with h4;subst h4;rw[List.map_set,<-gw (by rw[aK];omega)];simp only[az]at MG ⊢;exact MG
  ·rw[aY Lt]at h4;refine ownsRow.br (RF.row j v l2 K h4) fun x F=>Ll.block x ?_ fun e=>?_
   ·exact Rel.old r (iC B) x (hM.new x ⟨v,aD K,F⟩)
   ·injection e with e;exact Lt (hM.wX i j _ v x hv K (by rw[<-e];rfl) F)
theorem iE.push(hM:iE w B iv rv n M){gx:Nat}(Rv:∀g,Cv FF B iv g->g≠gx)(hBx:B<=gx)(hl:l.length=n)(Kr:w.ownsRow 0 T.int 1 (.slice (some ⟨gx,0,none⟩) n n) n (l.map fun z=>.int .i64 z)):
  iE w B ((gx,gx+1)::iv) (rv++[.slice (some ⟨gx,0,none⟩) n n]) n (M++[l]):=by
 have M7:∀g,Ob rv g->g≠gx:=fun g R=>Rv g (hM.new g R);have key:∀(k:Nat) v,(rv++[Value.slice (some ⟨gx,0,none⟩) n n])[k]? =some v->(k<rv.length/\rv[k]? =some v)\/(k=rv.length/\v= .slice (some ⟨gx,0,none⟩) n n):=fun k v W=>by
  rcases aO k rv.length with N|N
  ·rw[aJ N]at W;exact .inl ⟨N,W⟩
  ·have NU:k=rv.length:=by have:=(aC.1 W).1;simp at this;omega
   rw[NU,aN (aE _),bC]at W;simp at W;exact .inr ⟨NU,W.symm⟩
 refine⟨by simp[hM.len],fun x F=>?_,fun i v x V I=>?_,fun i j a b g V I K h4=>?_,fun g R=>?_⟩
 ·rcases bG.1 F with F|F
  ·exact hM.wid x F
  ·rw[bK.1 F];exact hl
 ·rcases key i v V with⟨N,k1⟩|⟨e1,rfl⟩
  ·rw[aJ (by rw[<-hM.len];exact N)]at I;exact hM.row i v x k1 I
  ·rw[e1,hM.len,aN (aE _),bC]at I;simp at I;subst I;exact Kr
 ·rcases key i a V with⟨_,k1⟩|⟨e1,rfl⟩<;>rcases key j b I with⟨_,k2⟩|⟨e2,rfl⟩
  ·exact hM.wX i j a b g k1 k2 K h4
  ·injection h4 with h4;exact absurd h4.symm (M7 g ⟨a,aD k1,K⟩)
  ·injection K with K;exact absurd K.symm (M7 g ⟨b,aD k2,h4⟩)
  ·rw[e1,e2]
 ·rcases Ob.append.1 R with h|h
  ·exact(hM.new g h).mono fun p hp=>aB _ hp
  ·injection h with h;have h:gx=g:=h;subst h;exact .inr ⟨hBx,_,_,aH,aE _,bV _⟩
end
def me(w:World)(S:Nat->Prop)(v:Value)(l:List Int):Prop:=gi w S 1 v (l.map fun z=>.int .i64 z) l.length
abbrev Gc:=dZ me
theorem me.br(h:me w S v l)(W:∀g,S g->Y.heap[g]? =w.heap[g]?):me Y S v l:=gi.br h W
theorem me.bw(h:me w S v l)(W:∀g,S g->S' g):me w S' v l:=gi.bw h W
theorem Gc.br{M:List (List Int)}(h:Gc w S v M)(W:∀g,S g->Y.heap[g]? =w.heap[g]?):Gc Y S v M:=by
 obtain⟨rv,V,I,K⟩:=h;exact⟨rv,V.br W,I,fun i u x k1 k2=>(K i u x k1 k2).br W⟩
theorem Gc.bw{M:List (List Int)}(h:Gc w S v M)(W:∀g,S g->S' g):Gc w S' v M:=by
 obtain⟨rv,V,I,K⟩:=h;exact⟨rv,V.bw W,I,fun i u x k1 k2=>(K i u x k1 k2).bw W⟩
theorem me.at{m c:Nat}(h:me w S (.slice a m c) l)(hj:l[j]? =some z):∃ad,a=some ad/\S ad.block/\w.cell? (ad.add (j*1))=some (.int .i64 z):=by
 obtain⟨h0,V,I,a',c',e,K,h4⟩:=h;injection e with e1 e2 e3;subst e1;obtain⟨ad,k1,k2,k3⟩:=h4 j (.int .i64 z) (by rw[aM,hj];rfl);exact⟨ad,k1,k2,by rw[az];exact k3⟩
theorem me.shape(h:me w S v l):∃a c,v= .slice a l.length c/\l.length<=c/\l.length<=maxLen:=by
 obtain⟨h0,V,I,a,c,e,K,h4⟩:=h;exact⟨a,c,e,K,h0⟩
structure tL(f:eS):Prop where
 co:∀p∈f.nodes,(-1000000<=p.1/\p.1<=1000000)/\(-1000000<=p.2.1/\p.2.1<=1000000)/\(-1000000<=p.2.2/\p.2.2<=1000000)
 JZ:∀b∈f.bars,(0<=b.1/\b.1<f.nodes.length)/\(0<=b.2.1/\b.2.1<f.nodes.length)
 sup:∀s∈f.cJ,(0<=s.1/\s.1<f.nodes.length)/\(0<=s.2.1/\s.2.1<=2)
 n:f.nodes.length<=20
 b:f.bars.length<=60
 s:f.cJ.length<=60
theorem tL.node(h:tL f){i:Int}(h0:0<=i)(V:i<f.nodes.length):∃k:Nat,∃p,i=k/\k<f.nodes.length/\f.nodes[k]? =some p/\f.node i=p/\(-1000000<=p.1/\p.1<=1000000)/\(-1000000<=p.2.1/\p.2.1<=1000000)/\(-1000000<=p.2.2/\p.2.2<=1000000):=by
 obtain⟨k,rfl⟩:=Int.eq_ofNat_of_zero_le h0;have W:k<f.nodes.length:=by omega
 refine⟨k,f.nodes[k],rfl,W,aA W,?_,h.co _ (aV W)⟩;rw[eS.node,aG,List.getD,aA W];rfl
theorem xe{vn vb vs:Value}{a b:Int}{b3 b6:Bool}{a4 a7:Option Addr}{n4 c4 n7 c7:Nat}(X:Old S w)(A:lC w S vn f.nodes)(Kt:tL f)(hA:0<=a/\a<f.nodes.length)(hB:0<=b/\b<f.nodes.length):
  eF PG F'.kI #[.agg #[vn,vb,vs],.agg #[.int .i64 a,.int .i64 b,.bool b3,.slice a4 n4 c4,.bool b6,.slice a7 n7 c7]] w (eM w fun v' _=>v'= .agg #[.int .i64 ((f.node b).1-(f.node a).1),.int .i64 ((f.node b).2.1-(f.node a).2.1),.int .i64 ((f.node b).2.2-(f.node a).2.2)]):=by
 have L:=bR w;obtain⟨an,cn,rfl,hcn,Nd⟩:=A.shape;unfold maxLen at Nd;obtain⟨ka,pa,ea,hka,hpa,hna,⟨_,_⟩,⟨_,_⟩,⟨_,_⟩⟩:=Kt.node hA.1 hA.2;obtain⟨kb,pb,eb,Ks,Rx,hnb,⟨_,_⟩,⟨_,_⟩,⟨_,_⟩⟩:=Kt.node hB.1 hB.2;obtain⟨ada,csa,haa,hPa,-,NR⟩:=A.load (by decide) hpa;obtain⟨adb,csb,M8,hPb,-,MT⟩:=A.load (by decide) Rx;have hPa:csa=[.int .i64 pa.1,.int .i64 pa.2.1,.int .i64 pa.2.2]:=hPa;have hPb:csb=[.int .i64 pb.1,.int .i64 pb.2.1,.int .i64 pb.2.2]:=hPb;subst hPa hPb;rw[hna,hnb];subst ea eb;refine nD (by simp) ?_;refine iW hτ eG (.x 0 (.x 2 (.x 6 (.x 8 (.ld 1 49200 (.ld 3 49200 (.x 4 (.ld 5 49152 (.ld 7 35840 (.ld 9 35840 (.x 10 (.ld 11 32768 (.two 12 (.x 13 (.x 14 (.x 15 .nil))) 13 (.x 12 (.x 14 (.x 15 .nil)))))))))))))))) (by kernel_rfl) (by kernel_rfl) ?_;refine⟨ada,haa,by omega,[.int .i64 pa.1,.int .i64 pa.2.1,.int .i64 pa.2.2],rfl,rdO NR L X,adb,M8,by omega,[.int .i64 pb.1,.int .i64 pb.2.1,.int .i64 pb.2.2],rfl,rdO MT L X,?_,?_⟩
 ·refine⟨[.int .i64 pb.1,.int .i64 pb.2.1,.int .i64 pb.2.2],rfl,rdO MT L X,rfl,rfl,rfl,[.int .i64 pa.1,.int .i64 pa.2.1,.int .i64 pa.2.2],rfl,rdO NR L X,rfl,rfl,rfl,[.int .i64 pb.1,.int .i64 pb.2.1,.int .i64 pb.2.2],rfl,rdO MT L X,rfl,rfl,rfl,[.int .i64 pa.1,.int .i64 pa.2.1,.int .i64 pa.2.2],rfl,rdO NR L X,rfl,rfl,rfl,[.int .i64 pb.1,.int .i64 pb.2.1,.int .i64 pb.2.2],rfl,rdO MT L X,rfl,rfl,rfl,pb.1-pa.1,wo,pb.2.1-pa.2.1,wo,pb.2.2-pa.2.2,wo,?_⟩;exact rtn L fun I' we re=>rfl
 ·refine⟨[.int .i64 pb.1,.int .i64 pb.2.1,.int .i64 pb.2.2],rfl,rdO MT L X,rfl,rfl,rfl,[.int .i64 pa.1,.int .i64 pa.2.1,.int .i64 pa.2.2],rfl,rdO NR L X,rfl,rfl,rfl,[.int .i64 pb.1,.int .i64 pb.2.1,.int .i64 pb.2.2],rfl,rdO MT L X,rfl,rfl,rfl,[.int .i64 pa.1,.int .i64 pa.2.1,.int .i64 pa.2.2],rfl,rdO NR L X,rfl,rfl,rfl,[.int .i64 pb.1,.int .i64 pb.2.1,.int .i64 pb.2.2],rfl,rdO MT L X,rfl,rfl,rfl,pb.1-pa.1,wo,pb.2.1-pa.2.1,wo,pb.2.2-pa.2.2,wo,?_⟩;exact rtn L fun I' we re=>rfl
theorem Gd{α:Type}{rv:List α}{a b:α}{i m:Nat}(hl:rv.length=i)(h:i<m):(rv++List.replicate (m-i) b).take i++[a]++(rv++List.replicate (m-i) b).drop (i+1)=(rv++[a])++List.replicate (m-(i+1)) b:=by
 rw[List.take_left' hl,List.drop_append,hl,List.drop_of_length_le (by omega),List.nil_append,List.drop_replicate];congr 2;omega
end Go.Ex
namespace Go.Sx
open Go Go.Ex Go.Proofs
variable{G:List Value}{O:Nat->Sx.cd}
theorem Rel.De{H:Hp}{nx:Nat}{iv:Iv}{B:Nat}{w J:World}(r:Rel H nx iv B w O J){id t m sz:Nat}(h:cO H id=some (.arr t G))(hm:G.length=m*sz)(Ov:m<=maxLen)(V:∀u∈G,u.oneCell'=true):
  gi J (fun g=>B<=g/\g<J.heap.size) sz (.slice (some ⟨(O id).g,0,none⟩) m m) G m:=by
 have hl:=r.low id _ h (r.fits h).1;refine⟨Ov,hm,V,_,m,rfl,aE _,fun j u hu=>⟨_,rfl,hl,?_⟩⟩;rw[cZ,cell_of (r.arr id _ _ h),aU];exact hu
end Go.Sx
namespace Go.Ex
open Go Go.Sx Go.Proofs
variable{d:Int}{b s:Int×Int×Rat}{M:List (List Int)}{l:List Int}{r:Nat}{S:Nat->Prop}{f:eS}
theorem yW{c:Nat}:(vA M r c d).length=M.length:=bH ..
theorem Ea{c:Nat}:(putAt M r c d).length=M.length:=bH ..
def Hu(M:List (List Int))(t:Int):Prop:=∀l∈M,∀z∈l,-t<=z/\z<=t
theorem Hu.set{t t2:Int}{c:Nat}{z:Int}(h:Hu M t)(ht:t<=t2)(hl:M[r]? =some l)(hz: -t2<=z/\z<=t2):Hu (M.set r (l.set c z)) t2:=fun x F y hy=>by
 rcases bB F with F|rfl
 ·have:=h x F y hy;omega
 ·rcases bB hy with hy|rfl
  ·have:=h l (aD hl) y hy;omega
  ·exact hz
theorem BP(f:eS):∀i,(du f i).length=3*f.nodes.length
 |0=>aa ..
 |i+1=>by
  have h:=BP f i;have key:∀k,(ee f (du f i) i k).length=3*f.nodes.length:=fun k=>by
   induction k with
   |zero=>exact h
   |succ k ih=>rw[ee,yW,yW];exact ih
  exact key 3
theorem wk(f:eS):∀i,(eN f i).length=3*f.nodes.length
 |0=>BP f _
 |i+1=>by rw[eN,Ea];exact wk f i
theorem Ge{i k ka kb:Nat}{za zb:Int}{la lb:List Int}(hb:f.bars[i]? =some b)(ea:b.1=ka)(eb:b.2.1=kb)(hd:(uz f b).getD k 0=d)
  (NR:(ee f M i k)[3*ka+k]? =some la) (hza:la[i]? =some za) (MT:((ee f M i k).set (3*ka+k) (la.set i (za+d)))[3*kb+k]? =some lb) (Ry:lb[i]? =some zb):
  ((ee f M i k).set (3*ka+k) (la.set i (za+d))).set (3*kb+k) (lb.set i (zb-d))=ee f M i (k+1):=by
 have V:f.bars.getD i (0,0,0)=b:=by rw[List.getD,hb];rfl
 have e1:(3*b.1+(k:Int)).toNat=3*ka+k:=by rw[ea];omega
 have e2:(3*b.2.1+(k:Int)).toNat=3*kb+k:=by rw[eb];omega
 have ha:vA (ee f M i k) (3*ka+k) i d=(ee f M i k).set (3*ka+k) (la.set i (za+d)):=by
  rw[vA,show(ee f M i k).getD (3*ka+k) []=la by rw[List.getD,NR];rfl,show la.getD i 0=za by rw[List.getD,hza];rfl]
 rw[ee];simp only[V,hd,e1,e2,ha]
 rw[vA,show((ee f M i k).set (3*ka+k) (la.set i (za+d))).getD (3*kb+k) []=lb by rw[List.getD,MT];rfl,show lb.getD i 0=zb by rw[List.getD,Ry];rfl,Int.sub_eq_add_neg]
theorem Gf{i ks:Nat}(hs:f.cJ[i]? =some s)(es:3*s.1+s.2.1=ks)(hl:(eN f i)[ks]? =some l):(eN f i).set ks (l.set (f.bars.length+i) 1)=eN f (i+1):=by
 rw[eN,putAt];simp only[show f.cJ.getD i (0,0,0)=s by rw[List.getD,hs];rfl,es,aG,show(eN f i).getD ks []=l by rw[List.getD,hl];rfl]
set_option maxHeartbeats 2000000 in
theorem Eb{w:World}{vn vb vs:Value}(X:Old S w)(hf:dN w S vn vb vs f)(Kt:tL f):
  eF PG F'.nk #[.agg #[vn,vb,vs]] w (eM w fun v' Y=>Gc Y (Nf w Y) v' (iK f)/\Hu (iK f) 800000000/\(∀l∈iK f,l.length=f.cols)/\(iK f).length=3*f.nodes.length):=by
 have L:=bR w;obtain⟨an,cn,ab,cb,aq,cq,rfl,rfl,rfl,Nd,OK,PW⟩:=hf.shape;obtain⟨Pp,hb60,hs60⟩:=And.intro Kt.n (And.intro Kt.b Kt.s);refine qu (by simp) ?_;refine⟨((3*f.nodes.length:Nat):Int),wo,?_⟩;obtain⟨m,hm⟩:∃m,3*f.nodes.length=m:=⟨_,rfl⟩
 rw[hm]
 refine⟨m,m,rfl,rfl,aE _,by omega,by omega,Nat×List Value×World×Iv,fun z=>⟨[(1,pP 0 0),(3,.o (.s 1 0 m m)),(17,iZ m),(18,iN z.1)],[(1,.arr T.Lint (z.2.1++List.replicate (m-z.1) (.slice none 0 0))),(0,.box T.Frame [.v (.slice an f.nodes.length cn),.v (.slice ab f.bars.length cb),.v (.slice aq f.cJ.length cq)])],2,z.2.2.2,z.2.2.1⟩,fun z=>m-z.1,
  fun z=>z.1<=m/\z.2.1.length=z.1/\dO w.heap.size w z.2.2.1/\iE z.2.2.1 w.heap.size z.2.2.2 z.2.1 f.cols (List.replicate z.1 (List.replicate f.cols 0)),?_,?_⟩
 ·intro O J D;exact⟨(0,[],J,[]),⟨aP _,rfl,L.tr D.cG,iE.nil⟩,Sub.gn [] D⟩
 rintro⟨i,rv,w1,iv⟩ ⟨N,Mz,L,hE⟩;dsimp only at N Mz L hE ⊢;refine ct.mk ?_ ?_<;>intro Kp
 ·have Kp:i<m:=by simpa using Kp
  refine⟨((f.cols:Nat):Int),by rw[wrap64]<;>first|rfl|omega,f.cols,f.cols,rfl,rfl,aE _,by unfold eS.cols;omega,by unfold eS.cols;omega,by omega,?_⟩;refine EC hτ (id:=1) (id2:=2) (tH:=[(1,.arr T.Lint (rv++List.replicate (m-i) (.slice none 0 0))),(0,.box T.Frame [.v (.slice an f.nodes.length cn),.v (.slice ab f.bars.length cb),.v (.slice aq f.cJ.length cq)])]) rfl rfl (by decide) rfl ⟨rfl,rfl,trivial⟩ rfl (fun O J r=>?_);have A:=(r.fits (id:=2) rfl).1;have Kr:J.ownsRow 0 T.int 1 (.slice (some ⟨(O 2).g,0,none⟩) f.cols f.cols) f.cols ((List.replicate f.cols (0:Int)).map fun z=>.int .i64 z):=
   ⟨by simp,.inr ⟨(O 2).g,f.cols,(List.replicate f.cols (Value.int .i64 0)).toArray,rfl,aP _,r.arr 2 _ _ rfl,aE _,by unfold eS.cols maxLen;omega,by simp,by simp⟩⟩
  have LI:=(hE.rel r).push (gx:=(O 2).g) (l:=List.replicate f.cols 0) (fun g R e=>Rel.not r (iC _) R 2 _ rfl A e.symm) (r.low 2 _ rfl A).1 (by simp) Kr;rw[<-List.replicate_succ']at LI;have Ln:=L.tr r.cG;generalize (O 2).g=gx at*
  generalize (gx,gx+1)::iv=Kx at*
  refine⟨by simp[Mz];omega,(rv++[.slice (some ⟨gx,0,none⟩) f.cols f.cols])++List.replicate (m-(i+1)) (.slice none 0 0),?_,?_⟩
  ·rw[aG,az,aU];exact Gd Mz Kp
  refine⟨((i+1:Nat):Int),wo,?_⟩;intro In w3 D;exact⟨(i+1,rv++[.slice (some ⟨gx,0,none⟩) f.cols f.cols],w3,_),⟨Kp,by simp[Mz],Ln.tr D.cG,LI.rel D⟩,Sub.gn [] D,by dsimp only;omega⟩
 have Kp:i=m:=aS N (by simpa using Kp);subst Kp;have hE0:iE w1 w.heap.size iv rv f.cols (du f 0):=by rw[du,hm];exact hE
 have hbd0:Hu (du f 0) 0:=fun l hl z hz=>by
  rw[du]at hl;rw[bN hl]at hz;rw[bN hz];exact⟨Int.le_refl _,Int.le_refl _⟩
 refine⟨Nat×World×Iv,fun z=>⟨[(1,pP 0 0),(3,.o (.s 1 0 i i)),(34,sV ab f.bars.length cb),(35,iZ f.bars.length),(36,iN z.1)],[(1,.arr T.Lint rv),(0,.box T.Frame [.v (.slice an f.nodes.length cn),.v (.slice ab f.bars.length cb),.v (.slice aq f.cJ.length cq)])],2,z.2.2,z.2.1⟩,fun z=>f.bars.length-z.1,
  fun z=>z.1<=f.bars.length/\dO w.heap.size w z.2.1/\iE z.2.1 w.heap.size z.2.2 rv f.cols (du f z.1)/\Hu (du f z.1) (12000000*z.1),?_,?_⟩
 ·intro O J D;exact⟨(0,J,_),⟨aP _,L.tr D.cG,hE0.rel D,hbd0⟩,Sub.gn [] D ⟨by simp;rfl,rfl,trivial⟩⟩
 rintro⟨j,Y,iv⟩ ⟨hj,L,hE,ML⟩;dsimp only at hj L hE ML ⊢;refine ct.mk ?_ ?_<;>intro Lu
 ·have Lu:j<f.bars.length:=by simpa using Lu
  obtain⟨b,hb⟩:∃b,f.bars[j]? =some b:=⟨_,aA Lu⟩
  obtain⟨hA,hB⟩:=Kt.JZ b (aD hb);obtain⟨ka,pa,ea,hka,-,hna,⟨_,_⟩,⟨_,_⟩,⟨_,_⟩⟩:=Kt.node hA.1 hA.2;obtain⟨kb,pb,eb,Ks,-,hnb,⟨_,_⟩,⟨_,_⟩,⟨_,_⟩⟩:=Kt.node hB.1 hB.2;obtain⟨adb,G,M8,hF,-,MT⟩:=hf.bars.load (by decide) hb;obtain⟨g0,g1,g2,g3,g4,g5,g6,g7,rfl,hF⟩:=hF;refine⟨adb,M8,by omega,[.int .i64 b.1,.int .i64 b.2.1,.bool g0,.slice g1 g2 g3,.bool g4,.slice g5 g6 g7],rfl,rdO MT L X,?_⟩;refine bp (bz (Id:=fun _ J v Y=>v= .agg #[.int .i64 ((f.node b.2.1).1-(f.node b.1).1),.int .i64 ((f.node b.2.1).2.1-(f.node b.1).2.1),.int .i64 ((f.node b.2.1).2.2-(f.node b.1).2.2)]) (fun O J r=>xe (S:=S) (oS X r) (hf.br (kS L r X)).nodes Kt hA hB) ?_);rintro O M5 v1 MS r Z LF rfl;replace L:=L.tr LF;replace hE:=hE.bu (E:=(M5.heap.size,MS.heap.size)::iv) r Z fun x F=>aB _ F;generalize (M5.heap.size,MS.heap.size)::iv=LC at*
  rw[hna,hnb];have hbD:uz f b=[pb.1-pa.1,pb.2.1-pa.2.1,pb.2.2-pa.2.2]:=by rw[uz,hna,hnb]
  refine⟨Nat×World×Iv,fun z=>⟨[(1,pP 0 0),(3,.o (.s 1 0 i i)),(5,iN j),(6,pP 2 0),(43,.o (.v (.agg #[.int .i64 (pb.1-pa.1),.int .i64 (pb.2.1-pa.2.1),.int .i64 (pb.2.2-pa.2.2)]))),(34,sV ab f.bars.length cb),(35,iZ f.bars.length),(36,iN j),(44,iN z.1)],[(2,.box T.Jy [.v (.int .i64 b.1),.v (.int .i64 b.2.1),.v (.bool g0),.v (.slice g1 g2 g3),.v (.bool g4),.v (.slice g5 g6 g7)]),(1,.arr T.Lint rv),(0,.box T.Frame [.v (.slice an f.nodes.length cn),.v (.slice ab f.bars.length cb),.v (.slice aq f.cJ.length cq)])],3,z.2.2,z.2.1⟩,fun z=>3-z.1,
   fun z=>z.1<=3/\dO w.heap.size w z.2.1/\iE z.2.1 w.heap.size z.2.2 rv f.cols (ee f (du f j) j z.1)/\Hu (ee f (du f j) j z.1) (12000000*j+4000000*z.1),?_,?_⟩
  ·intro O J D;exact⟨(0,J,_),⟨aP _,L.tr D.cG,hE.rel D,ML⟩,Sub.gn [] D⟩
  rintro⟨k,w3,iv⟩ ⟨W,L,hE,ML⟩;dsimp only at W L hE ML ⊢;refine ct.mk ?_ ?_<;>intro Ks
  ·have Ks:k<3:=by have:=aL Ks;omega
   obtain⟨d,hd⟩:∃d,(uz f b).getD k 0=d:=⟨_,rfl⟩
   have hdb: -2000000<=d/\d<=2000000:=by
    rw[<-hd,hbD];rcases(show k=0\/k=1\/k=2 by omega)with rfl|rfl|rfl<;>simp[List.getD]<;>omega
   have hMl:(ee f (du f j) j k).length=3*f.nodes.length:=by rw[<-hE.len];have:=hE.len;omega
   have PT:f.cols=f.bars.length+f.cJ.length:=rfl;refine wj hτ rfl rfl rfl (fun _=>rfl) rfl ⟨by omega,by omega⟩ (u:=.int .i64 d) ?_ (fun O w4 r=>?_)
   ·rw[<-hd,hbD,aG];rcases(show k=0\/k=1\/k=2 by omega)with rfl|rfl|rfl<;>rfl
   replace L:=L.tr r.cG;replace hE:=hE.rel r;obtain⟨la,NR⟩:∃l,(ee f (du f j) j k)[3*ka+k]? =some l:=⟨_,aA (by first|omega|(rw [bH];omega))⟩
   have hlaw:=hE.wid la (aD NR);obtain⟨za,hza⟩:∃z,la[j]? =some z:=⟨_,aA (by omega)⟩
   have hzab:=ML la (aD NR) za (aD hza);obtain⟨va,hva⟩:∃v,rv[3*ka+k]? =some v:=⟨_,aA (by have:=(aC.1 NR).1;rw[hE.len];exact this)⟩
   obtain⟨aa5,ca5,rfl⟩:=hE.form hva;obtain⟨ada5,haa5,hxa1,hxa2⟩:=hE.load hva NR hza;refine⟨((3*ka:Nat):Int),by rw[ea,wrap64]<;>omega,((3*ka+k:Nat):Int),wo,by omega,.slice aa5 f.cols ca5,by rw[aG,az,aU];exact hva,ada5,haa5,by omega,.int .i64 za,fun O J r=>?_,?_⟩
   ·rw[aG,cA (w:=w4) (Y:=J) (by rw[dP];exact Rel.same r (iC _) hxa1)];exact hxa2
   refine⟨za+d,wo,ada5,haa5,by omega,?_⟩;intro O J r;obtain⟨g,R,V,I,K,h4⟩:=hE.store r (z:=za+d) hva NR (show j<f.cols by omega);rw[haa5]at R;injection R with R;subst R;refine⟨V,I,K,fun w5 OL=>?_⟩;obtain⟨k1,k2,k3,-,-⟩:=h4 w5 OL;replace L:=(L.tr r.cG).tr k2;replace ML:=ML.set (r:=3*ka+k) (c:=j) (z:=za+d) (t2:=12000000*j+4000000*k+2000000) (by omega) NR (by omega);replace hE:=k1;obtain⟨lb,MT⟩:∃l,((ee f (du f j) j k).set (3*ka+k) (la.set j (za+d)))[3*kb+k]? =some l:=⟨_,aA (by first|omega|(rw [bH];omega))⟩
   have hlbw:=hE.wid lb (aD MT);obtain⟨zb,Ry⟩:∃z,lb[j]? =some z:=⟨_,aA (by omega)⟩
   have hzbb:=ML lb (aD MT) zb (aD Ry);obtain⟨vb,hvb⟩:∃v,rv[3*kb+k]? =some v:=⟨_,aA (by have:=(aC.1 MT).1;rw[hE.len];exact this)⟩
   obtain⟨ab5,cb5,rfl⟩:=hE.form hvb;obtain⟨adb5,hab5,hxb1,hxb2⟩:=hE.load hvb MT Ry;refine⟨((3*kb:Nat):Int),by rw[eb,wrap64]<;>omega,((3*kb+k:Nat):Int),wo,by omega,.slice ab5 f.cols cb5,by rw[aG,az,aU];exact hvb,adb5,hab5,by omega,.int .i64 zb,fun O J r=>?_,?_⟩
   ·rw[aG,cA (w:=w5) (Y:=J) (by rw[dP];exact Rel.same r (iC _) hxb1)];exact hxb2
   refine⟨zb-d,wo,adb5,hab5,by omega,?_⟩;intro O J r;obtain⟨g,R,V,I,K,h4⟩:=hE.store r (z:=zb-d) hvb MT (show j<f.cols by omega);rw[hab5]at R;injection R with R;subst R;refine⟨V,I,K,fun w5 OL=>?_⟩;obtain⟨k1,k2,k3,-,-⟩:=h4 w5 OL;replace L:=(L.tr r.cG).tr k2;replace ML:=ML.set (r:=3*kb+k) (c:=j) (z:=zb-d) (t2:=12000000*j+4000000*(k+1:Nat)) (by omega) MT (by omega);replace hE:=k1;rw[Ge hb ea eb hd NR hza MT Ry]at hE ML;refine⟨((k+1:Nat):Int),wo,?_⟩;intro In w6 D;exact⟨(k+1,w6,_),⟨Ks,L.tr D.cG,hE.rel D,ML⟩,Sub.gn [] D,by dsimp only;omega⟩
  have Ks:k=3:=by have:=aI Ks;omega
  subst Ks;refine⟨((j+1:Nat):Int),wo,?_⟩;intro In w6 D;exact⟨(j+1,w6,_),⟨Lu,L.tr D.cG,hE.rel D,fun l hl z hz=>by have:=ML l hl z hz;dsimp only;omega⟩,Sub.gn [] D,by dsimp only;omega⟩
 have Lu:j=f.bars.length:=aS hj (by simpa using Lu);subst Lu
 refine⟨Nat×World×Iv,fun z=>⟨[(1,pP 0 0),(3,.o (.s 1 0 i i)),(79,sV aq f.cJ.length cq),(80,iZ f.cJ.length),(81,iN z.1)],[(1,.arr T.Lint rv),(0,.box T.Frame [.v (.slice an f.nodes.length cn),.v (.slice ab f.bars.length cb),.v (.slice aq f.cJ.length cq)])],2,z.2.2,z.2.1⟩,fun z=>f.cJ.length-z.1,
  fun z=>z.1<=f.cJ.length/\dO w.heap.size w z.2.1/\iE z.2.1 w.heap.size z.2.2 rv f.cols (eN f z.1)/\Hu (eN f z.1) 800000000,?_,?_⟩
 ·intro O J D;exact⟨(0,J,_),⟨aP _,L.tr D.cG,hE.rel D,fun l hl z hz=>by have:=ML l hl z hz;omega⟩,Sub.gn [] D⟩
 rintro⟨j,Y,iv⟩ ⟨hj,L,hE,ML⟩;dsimp only at hj L hE ML ⊢;refine ct.mk ?_ ?_<;>intro Lu
 ·have Lu:j<f.cJ.length:=by simpa using Lu
  obtain⟨s,hs⟩:∃b,f.cJ[j]? =some b:=⟨_,aA Lu⟩
  obtain⟨hA,hB⟩:=Kt.sup s (aD hs);obtain⟨ks,hks⟩:=Int.eq_ofNat_of_zero_le (show 0<=3*s.1+s.2.1 by omega);have PT:f.cols=f.bars.length+f.cJ.length:=rfl;have hMl:=wk f j;obtain⟨l,hl⟩:∃l,(eN f j)[ks]? =some l:=⟨_,aA (by omega)⟩
  have hlw:=hE.wid l (aD hl);obtain⟨v,hv⟩:∃v,rv[ks]? =some v:=⟨_,aA (by rw[hE.len];omega)⟩
  obtain⟨a5,c5,rfl⟩:=hE.form hv;obtain⟨z0,Ky⟩:∃z,l[f.bars.length+j]? =some z:=⟨_,aA (by omega)⟩
  obtain⟨ad5,ha5,-,-⟩:=hE.load hv hl Ky;obtain⟨adb,G,M8,hF,-,MT⟩:=hf.cJ.load (by decide) hs;obtain⟨g0,g1,g2,g3,g4,g5,g6,g7,rfl,hF⟩:=hF;refine⟨adb,M8,by omega,[.int .i64 s.1,.int .i64 s.2.1,.bool g0,.slice g1 g2 g3,.bool g4,.slice g5 g6 g7],rfl,rdO MT L X,?_⟩;refine cC hτ eG [.x 0,.x 1,.x 2,.x 3,.x 4,.x 5,.x 6,.x 7,.x 8,.x 9,.x 10,.x 11,.x 12,.x 13,.x 14,.x 15] (by kernel_rfl) (by kernel_rfl) ?_;refine⟨3*s.1,wo,((ks:Nat):Int),wo,by omega,.slice a5 f.cols c5,by rw[aG,az,aU];exact hv,((f.bars.length+j:Nat):Int),wo,ad5,ha5,by omega,?_⟩;intro O J r;obtain⟨g,R,V,I,K,h4⟩:=hE.store r (z:=1) hv hl (show f.bars.length+j<f.cols by omega);rw[ha5]at R;injection R with R;subst R;refine⟨V,I,K,fun w5 OL=>?_⟩;obtain⟨k1,k2,k3,-,-⟩:=h4 w5 OL;replace L:=(L.tr r.cG).tr k2;have QV:=ML.set (r:=ks) (c:=f.bars.length+j) (z:=1) (t2:=800000000) (by omega) hl (by omega);rw[Gf hs hks hl]at k1 QV;refine⟨((j+1:Nat):Int),wo,?_⟩;intro In w6 D;exact⟨(j+1,w6,_),⟨Lu,L.tr D.cG,k1.rel D,QV⟩,Sub.gn [] D,by dsimp only;omega⟩
 have Lu:j=f.cJ.length:=aS hj (by simpa using Lu);subst Lu;intro I' we re;have LI:=hE.rel re;have hMl:=wk f f.cJ.length;have Ow:=hE.len;refine⟨_,rfl,L.tr re.cG,⟨rv,?_,hE.len,fun i u x k1 k2=>?_⟩,ML,hE.wid,by rw[<-hm];exact hMl⟩
 ·rw[show (iK f).length=rv.length from hE.len.symm];have h5:=re.De (id:=1) (sz:=1) (m:=rv.length) rfl (by simp) (by unfold maxLen;omega) hE.one;rw[show (i:Nat)=rv.length by omega];exact h5.bw fun g R=>.inr R
 ·obtain⟨a,c,rfl⟩:=hE.form k1;have Mo:=hE.wid x (aD k2);refine⟨by rw[Mo];unfold eS.cols maxLen;omega,by simp,fun v hv=>by obtain⟨z,_,rfl⟩:=aT.1 hv;rfl,a,c,by rw[Mo],?_,fun t v hv=>?_⟩
  ·rw[Mo];obtain⟨a2,c2,e,h⟩:=fQ (hE.row i _ x k1 k2);injection e with e1 e2 e3;omega
  ·rw[aM]at hv
   cases ht:x[t]? with
   |none=>rw[ht]at hv;cases hv
   |some z=>
    rw[ht]at hv;simp only[Option.map_some,Option.some.injEq]at hv;subst hv;obtain⟨ad,V,I,K⟩:=LI.load k1 k2 ht;exact⟨ad,V,Cv.nw I re,by rw[az]at K;exact K⟩
end Go.Ex
