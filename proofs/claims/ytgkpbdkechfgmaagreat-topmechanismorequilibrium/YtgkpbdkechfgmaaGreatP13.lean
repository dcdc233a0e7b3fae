/- Texts X135 to X138: lemmas, each with its conditions. -/
import Derived.Test.YtgkpbdkechfgmaaGreatP12
namespace Go.Ex
open Go Go.Sx Go.Proofs
variable{iv:Iv}{M:List (List Rat)}{css:List (List Value)}{ps pv:List Nat}{b qs x:List Rat}{cs:List Value}{B g h id:Nat}{C S:Nat->Prop}{O:Nat->Sx.dw}{a ax:Option Addr}{row:Option Nat}{q:Rat}{v:Value}{w:World}
section
variable{S S':Nat->Prop}{H:Hp}{nx n:Nat}{iv iv':Iv}{B:Nat}{w w' w2:World}{O:Nat->Sx.dw}{v:Value}{qs:List Rat}
theorem eR.aAu{w0 w1:World}(h:eR w1 S w0.heap.size iv v n qs)(r:Rel H nx iv w0.heap.size w1 O w')(hS:Old S w0):eR w' S w0.heap.size [(w0.heap.size,w'.heap.size)] v n qs:=by
 have h2:=h.rel r hS;have key:∀g {X:Nat->Prop},Cv X w0.heap.size iv g->Cv X w0.heap.size [(w0.heap.size,w'.heap.size)] g:=fun g X hg=>by
  rcases hg with hg|⟨h1,lo,hi,h2,h3,h4⟩
  ·exact .inl hg
  ·exact .inr ⟨h1,_,_,bL.2 rfl,h1,by have:=r.pC lo hi h2;have:=r.size;omega⟩
 exact⟨h2.row.cL fun g hg=>⟨key g hg.1,hg.2⟩,fun g hg=>key g (h2.new g hg)⟩
theorem eR.aAv(h:eR w2 (Cv S B iv) w'.heap.size [(w'.heap.size,w2.heap.size)] v n qs)(hB:B<=w'.heap.size):eR w2 S B ((w'.heap.size,w2.heap.size)::iv) v n qs:=by
 have key:∀g {X Y:Nat->Prop},(∀g,Y g->Cv X B iv g)->Cv Y w'.heap.size [(w'.heap.size,w2.heap.size)] g->Cv X B ((w'.heap.size,w2.heap.size)::iv) g:=fun g X Y hY hg=>by
  rcases hg with hg|⟨h1,lo,hi,h2,h3,h4⟩
  ·exact(hY g hg).mono fun p hp=>aC _ hp
  ·simp at h2;obtain⟨rfl,rfl⟩:=h2;exact .inr ⟨by omega,_,_,aG,h3,h4⟩
 exact⟨h.row.cL fun g hg=>⟨key g (fun _ h=>h) hg.1,hg.2⟩,fun g hg=>key g (fun _ h=>h.elim) (h.new g hg)⟩
def Bs(S:Nat->Prop)(B:Nat)(iv:Iv)(v:Value)(g:Nat):Prop:=Cv S B iv g∧v.ownBlock≠some g
theorem Bs.kept(r:Rel H nx iv B w O w')(hS:∀g,S g->g<B)(hg:w'.grownBy w2 row)(OV:∀g,row=some g->v.ownBlock=some g):∀g,Bs S B iv v g->w2.heap[g]? =w.heap[g]? :=fun g h=>by
 rw[hg.block g (Rel.old r hS g h.1) fun e=>h.2 (OV g e.symm),Rel.same r hS h.1]
theorem Bs.same(r:Rel H nx iv B w O w')(hS:∀g,S g->g<B):∀g,Bs S B iv v g->w'.heap[g]? =w.heap[g]? :=fun g h=>Rel.same r hS h.1
theorem Bs.of(r:Rel H nx iv B w O w')(hS:∀g,S g->g<B)(hm:∀p,p∈iv->p∈iv')(hn:eR w2 FF w'.heap.size [(w'.heap.size,w2.heap.size)] v n qs)(h:Cv S B iv g):Bs S B iv' v g:=
 ⟨h.mono hm,fun e=>by
  have h1:=Rel.old r hS g h;rcases hn.new g e with h2|⟨h2,_⟩
  ·exact h2
  ·omega⟩
theorem Bs.mono(hm:∀p,p∈iv->p∈iv')(h:Bs S B iv v g):Bs S B iv' v g:=⟨h.1.mono hm,h.2⟩
theorem dU.at{m c j p:Nat}(h:dU w S (.slice a m c) ps)(hj:ps[j]? =some p):∃ad,a=some ad∧S ad.block∧w.cell? (ad.add (j*1))=some (.int .i64 (p:Int)):=by
 obtain⟨h0,h1,h2,a',c',e,h3,h4⟩:=h;injection e with e1 e2 e3;subst e1;obtain⟨ad,k1,k2,k3⟩:=h4 j (.int .i64 (p:Int)) (by rw[aM,hj];rfl);exact⟨ad,k1,k2,by rw[aZ];exact k3⟩
theorem dU.shape(h:dU w S v ps):∃a c,v= .slice a ps.length c∧ps.length<=c∧ps.length<=maxLen:=by
 obtain⟨h0,h1,h2,a,c,e,h3,h4⟩:=h;exact⟨a,c,e,h3,h0⟩
end
theorem Aq{E:List (List Rat)}{at_:List (Option Nat)}{fr:List Nat}{n:Nat}(hE:gX n E)(PF:∀(k r:Nat),at_[k]? =some (some r)->r<E.length):∀k,k<=at_.length->gX n (dL (E,at_,fr) k).1∧∀p∈(dL (E,at_,fr) k).2.1,p<k
 |0,_=>⟨(fun r hr=>by cases hr),fun p hp=>by cases hp⟩
 |k+1,hk=>by
  have ih:=Aq (fr:=fr) hE PF k (by omega);obtain⟨o,ho⟩:∃o,at_[k]? =some o:=⟨_,aA (by omega)⟩
  cases o with
  |none=>
   rw[me (s:=(E,at_,fr)) ho];exact⟨ih.1,fun p hp=>Nat.lt_succ_of_lt (ih.2 p hp)⟩
  |some r=>
   rw[mf (s:=(E,at_,fr)) ho];refine⟨fun x hx=>?_,fun p hp=>?_⟩
   ·rcases bE.1 hx with hx|hx
    ·exact ih.1 x hx
    ·rw[bL.1 hx];have:=PF k r ho;dsimp only
     rw[List.getD,aA this];exact hE _ (ah this)
   ·rcases bE.1 hp with hp|hp
    ·exact Nat.lt_succ_of_lt (ih.2 p hp)
    ·rw[bL.1 hp];exact bY _
theorem sI{n:Nat}(cols:Nat)(hM:gX n M):(eK M cols).1.length=(eK M cols).2.1.length∧(eK M cols).2.2.length=(eK M cols).2.1.length∧gX n (eK M cols).1∧(∀p∈(eK M cols).2.1,p<cols)∧(eK M cols).2.1.length<=cols:=by
 have OZ:=zZ cols hM M.length (Nat.le_refl _);unfold eK;generalize iT M cols M.length=s at*
 obtain⟨E,at_,fr⟩:=s;have Pp:at_.length=cols:=OZ.at_;obtain⟨q1,q2,-,q4⟩:=ug (E,at_,fr) [] cols (by show cols<=at_.length;omega);obtain⟨f1,f2⟩:=Aq (E:=E) (at_:=at_) (fr:=fr) OZ.len OZ.lt cols (by omega);exact⟨q1,q2,f1,f2,q4⟩
theorem lJ(M:List (List Rat))(b:List Rat):(k6 M b).length=M.length:=List.length_mapIdx
theorem JV{n:Nat}(h:gX n M):gX (n+1) (k6 M b):=fun r hr=>by
 obtain⟨i,hi⟩:=aN hr;rw[k6,List.getElem?_mapIdx]at hi
 cases hM:M[i]? with
 |none=>rw[hM]at hi;cases hi
 |some x=>
  rw[hM]at hi;simp only[bf,Option.some.injEq]at hi;rw[<-hi,List.length_append,h x (aD hM)];rfl
theorem HM{H:Hp}{nx:Nat}{w':World}(r:Rel H nx iv B w O w')(h:dD H id=some (.vec T.Rat 4 ([]++css.flatten++cs)))(hF:Fc w' S css x)(hq:iz w' S cs q)(hm:x.length<maxLen):
  (O id).nil=false∧cO w' (Cv S B (((O id).g,(O id).g+1)::iv)) (.slice (some ⟨(O id).g,0,none⟩) (x.length+1) (O id).cap) (x++[q]):=by
 have PA:=ei hF.mz;have hl:([]++css.flatten++cs).length=(x.length+1)*4:=by rw[List.nil_append,List.length_append,PA,hF.1,hq.len];omega
 have So:=hF.push hq;have he:[]++css.flatten++cs=(css++[cs]).flatten:=by simp
 have hv:=NI r (sz:=4) (m:=x.length+1) h hl (by omega) (by decide) (by omega) (fun u hu=>So.one u (by rw[<-he];exact hu));refine⟨hv.1,css++[cs],?_,So.1,So.mz,fun j c y k1 k2=>(So.2 j c y k1 k2).cL fun g hg=>.inl hg⟩;rw[List.length_append,List.length_singleton,<-he];exact hv.2.2.cL fun g hg=>.inr ⟨by have:=hv.2.1;omega,_,_,aG,by omega,by omega⟩
set_option maxHeartbeats 2000000 in
theorem CZ{D:Nat->Prop}{u:Value}{cols:Nat}(hC:Old C w)(hD:Old D w)(hS:Old S w)(hM:mH w C S v M)(hb:gW w D S u b)(PQ:b.length=M.length)(hlen:gX cols M)(hn:cols<=999)(hR:M.length<=1000)(hB:Ff (k6 M b) (cols+1) h)(hh:3*h<=90000):
  eG PG N.j0 #[.agg #[v,.int .i64 cols],u] w (eL w fun v' w2=>(oR M b cols=none∧v'= .tuple #[.slice none 0 0,.bool false])∨∃x vx,oR M b cols=some x∧v'= .tuple #[vx,.bool true]∧eR w2 S w.heap.size [(w.heap.size,w2.heap.size)] vx cols x):=by
 have hw:=bR w;obtain⟨am,cm,rfl,Rt,Ra⟩:=mH.shape hM;obtain⟨ab,cb,rfl,QT,Re⟩:=gW.shape hb;unfold maxLen at Ra Re;refine o8 (by simp) ?_
 refine⟨((cols+1:Nat):Int),wo,Nat×List Value×World×Iv,fun z=>⟨[(20,iN z.1),(1,sV ab b.length cb),(2,pP 0 0),(6,pP 1 0),(18,sV am M.length cm),(19,iZ M.length)],[(1,.box T.du [.w 2 z.2.1.length,.v (.int .i64 ((cols+1:Nat):Int))]),(2,.vec T.iQ 1 z.2.1),(0,.box T.du [.v (.slice am M.length cm),.v (.int .i64 cols)])],3,z.2.2.2,z.2.2.1⟩,fun z=>M.length-z.1,
  fun z=>z.1<=M.length∧dq w.heap.size w z.2.2.1∧de z.2.2.1 (Cv S w.heap.size z.2.2.2) z.2.1 ((k6 M b).take z.1),?_,?_⟩
 ·intro O w' r
  exact⟨(0,[],w',[]),⟨aR _,hw.tr r.cU,by simp[de]⟩,Sub.Dk 1 0 T.iQ 1 rfl rfl (by simp[kF,SV.sc,At.sc,fm]) r fun ρ1 r1=>
   Sub.gn [] r1⟩
 rintro⟨i,rv,w1,iv⟩ ⟨hi,hw,hK⟩;dsimp only at hi hw hK ⊢;have Pm:rv.length=i:=by rw[hK.1,ai,lJ];omega
 refine dN.mk ?_ ?_<;>intro OU
 ·have OU:i<M.length:=by simpa using OU
  obtain⟨x,hx⟩:∃r,M[i]? =some r:=⟨_,aA OU⟩
  have QO:=hlen x (aD hx);obtain⟨q,hq⟩:∃r,b[i]? =some r:=⟨_,aA (by omega)⟩
  have Ur:b.getD i 0=q:=by rw[List.getD,hq];rfl
  have Oi:(k6 M b).take (i+1)=(k6 M b).take i++[x++[q]]:=by
   rw[List.take_add_one,show(k6 M b)[i]? =some (x++[q]) by rw[k6,List.getElem?_mapIdx,hx,<-Ur];rfl];rfl
  obtain⟨adm,um,Qs,PD,km1,km2⟩:=mH.load hM hx;obtain⟨css,⟨-,g1,g2,a0,c0,rfl,g4,g5⟩,Pf,UC,PI⟩:=PD;have PA:=ei UC;obtain⟨adq,cs,We,hF,hl⟩:=gW.load hb hq;obtain⟨b3,a3,n3,c3,b4,a4,n4,c4,rfl,hF⟩:=hF;refine⟨adm,Qs,by omega,.slice a0 x.length c0,rd1 km2 hw (hC _ km1),?_⟩;refine jN hτ dx (.x 0 (.x 3 (.x 5 (.x 6 (.x 7 (.ld 1 28672 (.ld 8 32256 (.two 2 (.two 4 (.x 9 (.x 10 (.wI 6 (.x 11 (.x 12 (.x 13 (.x 14 .nil))))))) 9 (.x 4 (.x 10 (.wI 6 (.x 11 (.x 12 (.x 13 (.x 14 .nil)))))))) 9 (.x 2 (.x 4 (.x 10 (.wI 6 (.x 11 (.x 12 (.x 13 (.x 14 .nil)))))))))))))))) (by kernel_rfl) (by kernel_rfl) ?_;refine⟨adq,We,by omega,[.bool b3,.slice a3 n3 c3,.bool b4,.slice a4 n4 c4],rfl,rdO hl hw hD,?_,?_⟩
  ·refine⟨[.bool b3,.slice a3 n3 c3,.bool b4,.slice a4 n4 c4],rfl,rdO hl hw hD,rfl,rfl,?_,?_⟩
   ·refine .inl ?_;refine⟨css.flatten,g1,g2,fun O w' r Py=>?_,?_⟩
    ·obtain⟨u0,Uq⟩:∃u,css.flatten[0]? =some u:=⟨_,aA (by omega)⟩
     obtain⟨ad,ha,_,_⟩:=g5 0 u0 Uq;refine⟨ad,ha,fun j u hj=>?_⟩;obtain⟨ad2,RN,q1,q2⟩:=g5 j u hj;rw[ha]at RN;injection RN with RN;subst RN;rw[cI (w:=w) (w2:=w') (by rw[dC];exact(hw.tr r.cU).block _ (hS _ q1))];exact q2
    refine⟨rfl,by omega,by unfold maxLen;omega,?_⟩;rw[aW x.length];refine⟨[.bool b3,.slice a3 n3 c3,.bool b4,.slice a4 n4 c4],rfl,rdO hl hw hD,rfl,rfl,rfl,?_⟩;refine .inl ?_;refine⟨by rw[<-g1];rfl,by omega,by unfold maxLen;omega,rfl,[(1,.box T.du [.w 2 rv.length,.v (.int .i64 ((cols+1:Nat):Int))]),(2,.vec T.iQ 1 rv),(0,.box T.du [.v (.slice am M.length cm),.v (.int .i64 cols)])],_,rfl,by simp,⟨rfl,rfl,rfl,trivial⟩,rfl,fun O w' r=>?_⟩;have hv:=HM (S:=S) (x:=x) (q:=q) (css:=css) r (id:=6) rfl ⟨Pf,fun j cs q k1 k2=>(PI j cs q k1 k2).cJ fun g hg=>(hw.tr r.cU).block g (hS g hg)⟩ (hF.cJ (kS hw r hS)).sH (by unfold maxLen;omega);refine⟨hv.1,_,uc (tl:=[(25,pP 1 0),(26,.o (.w 2 rv.length)),(20,iN i),(1,sV ab b.length cb),(2,pP 0 0),(6,pP 1 0),(18,sV am M.length cm),(19,iZ M.length)]) hv.1 (t:=35) (n:=x.length+1) rfl ⟨rfl,rfl,rfl,rfl,rfl,rfl,rfl,rfl,trivial⟩ (by simp[kF,SV.sc,At.sc]),?_⟩;replace hK:=(de.cL (hK.rel r hS) (fun g hg=>hg.mono fun p hp=>aC _ hp)).push rfl hv.2;rw[<-Oi]at hK;replace hw:=hw.tr r.cU;generalize (O 6).g=gx at*
    generalize (O 6).cap=cx at*
    generalize (gx,gx+1)::iv=OX at*
    refine⟨rfl,?_⟩;refine .inl ?_;refine⟨by simp,by omega,by unfold maxLen;omega,((i+1:Nat):Int),wo,?_⟩;intro ρ3 w3 r3;exact⟨(i+1,rv++[.slice (some ⟨gx,0,none⟩) (x.length+1) cx],w3,_),⟨OU,hw.tr r3.cU,hK.rel r3 hS⟩,Sub.gn [(2,8)] r3 ⟨by dsimp only;rw[List.length_append,List.length_singleton];rfl,rfl,rfl,trivial⟩,by dsimp only;omega⟩
   ·refine⟨rfl,?_⟩;refine .inl ?_;refine⟨css.flatten,g1,g2,fun O w' r Py=>?_,?_⟩
    ·obtain⟨u0,Uq⟩:∃u,css.flatten[0]? =some u:=⟨_,aA (by omega)⟩
     obtain⟨ad,ha,_,_⟩:=g5 0 u0 Uq;refine⟨ad,ha,fun j u hj=>?_⟩;obtain⟨ad2,RN,q1,q2⟩:=g5 j u hj;rw[ha]at RN;injection RN with RN;subst RN;rw[cI (w:=w) (w2:=w') (by rw[dC];exact(hw.tr r.cU).block _ (hS _ q1))];exact q2
    refine⟨rfl,by omega,by unfold maxLen;omega,?_⟩;rw[aW x.length];refine⟨rfl,?_⟩;refine .inl ?_;refine⟨by rw[<-g1];rfl,by omega,by unfold maxLen;omega,rfl,[(1,.box T.du [.w 2 rv.length,.v (.int .i64 ((cols+1:Nat):Int))]),(2,.vec T.iQ 1 rv),(0,.box T.du [.v (.slice am M.length cm),.v (.int .i64 cols)])],_,rfl,by simp,⟨rfl,rfl,rfl,trivial⟩,rfl,fun O w' r=>?_⟩;have hv:=HM (S:=S) (x:=x) (q:=q) (css:=css) r (id:=6) rfl ⟨Pf,fun j cs q k1 k2=>(PI j cs q k1 k2).cJ fun g hg=>(hw.tr r.cU).block g (hS g hg)⟩ (hF.cJ (kS hw r hS)).sH (by unfold maxLen;omega);refine⟨hv.1,_,uc (tl:=[(25,pP 1 0),(26,.o (.w 2 rv.length)),(20,iN i),(1,sV ab b.length cb),(2,pP 0 0),(6,pP 1 0),(18,sV am M.length cm),(19,iZ M.length)]) hv.1 (t:=35) (n:=x.length+1) rfl ⟨rfl,rfl,rfl,rfl,rfl,rfl,rfl,rfl,trivial⟩ (by simp[kF,SV.sc,At.sc]),?_⟩;replace hK:=(de.cL (hK.rel r hS) (fun g hg=>hg.mono fun p hp=>aC _ hp)).push rfl hv.2;rw[<-Oi]at hK;replace hw:=hw.tr r.cU;generalize (O 6).g=gx at*
    generalize (O 6).cap=cx at*
    generalize (gx,gx+1)::iv=OX at*
    refine⟨rfl,?_⟩;refine .inl ?_;refine⟨by simp,by omega,by unfold maxLen;omega,((i+1:Nat):Int),wo,?_⟩;intro ρ3 w3 r3;exact⟨(i+1,rv++[.slice (some ⟨gx,0,none⟩) (x.length+1) cx],w3,_),⟨OU,hw.tr r3.cU,hK.rel r3 hS⟩,Sub.gn [(2,8)] r3 ⟨by dsimp only;rw[List.length_append,List.length_singleton];rfl,rfl,rfl,trivial⟩,by dsimp only;omega⟩
  ·refine⟨rfl,rfl,?_⟩;refine .inl ?_;refine⟨css.flatten,g1,g2,fun O w' r Py=>?_,?_⟩
   ·obtain⟨u0,Uq⟩:∃u,css.flatten[0]? =some u:=⟨_,aA (by omega)⟩
    obtain⟨ad,ha,_,_⟩:=g5 0 u0 Uq;refine⟨ad,ha,fun j u hj=>?_⟩;obtain⟨ad2,RN,q1,q2⟩:=g5 j u hj;rw[ha]at RN;injection RN with RN;subst RN;rw[cI (w:=w) (w2:=w') (by rw[dC];exact(hw.tr r.cU).block _ (hS _ q1))];exact q2
   refine⟨rfl,by omega,by unfold maxLen;omega,?_⟩;rw[aW x.length];refine⟨rfl,?_⟩;refine .inl ?_;refine⟨by rw[<-g1];rfl,by omega,by unfold maxLen;omega,rfl,[(1,.box T.du [.w 2 rv.length,.v (.int .i64 ((cols+1:Nat):Int))]),(2,.vec T.iQ 1 rv),(0,.box T.du [.v (.slice am M.length cm),.v (.int .i64 cols)])],_,rfl,by simp,⟨rfl,rfl,rfl,trivial⟩,rfl,fun O w' r=>?_⟩;have hv:=HM (S:=S) (x:=x) (q:=q) (css:=css) r (id:=6) rfl ⟨Pf,fun j cs q k1 k2=>(PI j cs q k1 k2).cJ fun g hg=>(hw.tr r.cU).block g (hS g hg)⟩ (hF.cJ (kS hw r hS)).sH (by unfold maxLen;omega);refine⟨hv.1,_,uc (tl:=[(25,pP 1 0),(26,.o (.w 2 rv.length)),(20,iN i),(1,sV ab b.length cb),(2,pP 0 0),(6,pP 1 0),(18,sV am M.length cm),(19,iZ M.length)]) hv.1 (t:=35) (n:=x.length+1) rfl ⟨rfl,rfl,rfl,rfl,rfl,rfl,rfl,rfl,trivial⟩ (by simp[kF,SV.sc,At.sc]),?_⟩;replace hK:=(de.cL (hK.rel r hS) (fun g hg=>hg.mono fun p hp=>aC _ hp)).push rfl hv.2;rw[<-Oi]at hK;replace hw:=hw.tr r.cU;generalize (O 6).g=gx at*
   generalize (O 6).cap=cx at*
   generalize (gx,gx+1)::iv=OX at*
   refine⟨rfl,?_⟩;refine .inl ?_;refine⟨by simp,by omega,by unfold maxLen;omega,((i+1:Nat):Int),wo,?_⟩;intro ρ3 w3 r3;exact⟨(i+1,rv++[.slice (some ⟨gx,0,none⟩) (x.length+1) cx],w3,_),⟨OU,hw.tr r3.cU,hK.rel r3 hS⟩,Sub.gn [(2,8)] r3 ⟨by dsimp only;rw[List.length_append,List.length_singleton];rfl,rfl,rfl,trivial⟩,by dsimp only;omega⟩
 have OU:i=M.length:=aU hi (by simpa using OU);rw[List.take_of_length_le (by rw[lJ];omega)]at hK;have Tz:=JV (b:=b) hlen;obtain⟨f1,f2,f3,f4,f5⟩:=sI (cols+1) Tz;generalize hA:(eK (k6 M b) (cols+1)).1=A at*
 generalize hP:(eK (k6 M b) (cols+1)).2.1=pv at*
 refine⟨((cols+1:Nat):Int),wo,?_⟩
 refine cH (cM (Φ:=fun _ w' v w2=>∃vr vp vf,v= .agg #[vr,.int .i64 ((cols+1:Nat):Int),vp,vf]∧cV w2 (Nw (Cv S w.heap.size iv) w' w2) vr A∧dU w2 (Nf w' w2) vp pv∧dU w2 (Nf w' w2) vf (eK (k6 M b) (cols+1)).2.2) (fun O w' r=>by
  rw[<-hA,<-hP]
  exact CY (C:=fun g=>g<w'.heap.size) (fun g hg=>hg) (Rel.old r hS) ⟨rv,by rw[lJ,<-OU,<-Pm];exact(r.iD (id:=2) (sz:=1) (m:=rv.length) rfl (by simp) (by unfold maxLen;omega) (by decide) hK.2.1).cL fun g hg=>hg.2,hK.1,fun i u x h1 h2=>cO.rel (hK.2.2 i u x h1 h2) r hS⟩ Tz (by omega) (by omega) (by rw[lJ];omega) (Nat.le_refl _) hB hh) ?_)
 rintro O QU v1 QJ r he Pa ⟨vr,vp,vf,rfl,k1,k2,k3⟩;replace hw:=hw.tr Pa;have hR:=cV.old k1 r.cG;have hV:=dU.dF (S:=FF) k2 r.cG (iv:=(QU.heap.size,QJ.heap.size)::iv) aG;have hX:=dU.dF (S:=FF) k3 r.cG (iv:=(QU.heap.size,QJ.heap.size)::iv) aG;generalize (QU.heap.size,QJ.heap.size)::iv=Og at*
 obtain⟨ar,cr,rfl,TJ,hmr⟩:=cd.shape hR;obtain⟨ap,cp,rfl,hcp,hmp⟩:=dU.shape hV;obtain⟨af,cf,rfl,-,-⟩:=dU.shape hX;refine cH (cM (Φ:=fun _ w' v w2=>eR w2 FF w'.heap.size [(w'.heap.size,w2.heap.size)] v cols (List.replicate cols 0)) (fun O w' r=>Fe cols w' (by omega)) ?_);rintro O QQ v2 Pn r he Pa hn;replace hw:=hw.tr Pa;replace hR:=cV.cL (S':=Bs S w.heap.size ((QQ.heap.size,Pn.heap.size)::Og) v2) (cV.cJ (cV.rel hR r hS) fun g hg=>he.block g (Rel.old r hS g hg)) fun g hg=>Bs.of r hS (fun x hx=>aC _ hx) hn hg;replace hV:=dU.cL (S':=Bs FF w.heap.size ((QQ.heap.size,Pn.heap.size)::Og) v2) (dU.cJ (dU.rel hV r (cF w)) fun g hg=>he.block g (Rel.old r (cF w) g hg)) fun g hg=>Bs.of r (cF w) (fun x hx=>aC _ hx) hn hg;have hX:=hn.dF (S:=S) r.cG (iv:=(QQ.heap.size,Pn.heap.size)::Og) aG;generalize (QQ.heap.size,Pn.heap.size)::Og=OX at*
 obtain⟨ax,cx,rfl,UW⟩:=hX.row.form;have hXl:=hX.row.le;unfold maxLen at hXl
 refine⟨Nat×World×Iv,fun z=>⟨[(51,iN z.1),(2,pP 0 0),(9,pP 3 0),(10,sV ax cols cx),(49,sV ap pv.length cp),(50,iZ pv.length)],[(3,.box T.dZ [.v (.slice ar A.length cr),.v (.int .i64 ((cols+1:Nat):Int)),.v (.slice ap pv.length cp),.v (.slice af (eK (k6 M b) (cols+1)).2.2.length cf)]),(0,.box T.du [.v (.slice am M.length cm),.v (.int .i64 cols)])],4,z.2.2,z.2.1⟩,fun z=>pv.length-z.1,
  fun z=>z.1<=pv.length∧(∀(t p:Nat),t<z.1->pv[t]? =some p->p≠cols)∧dq w.heap.size w z.2.1∧cV z.2.1 (Bs S w.heap.size z.2.2 (.slice ax cols cx)) (.slice ar A.length cr) A∧dU z.2.1 (Bs FF w.heap.size z.2.2 (.slice ax cols cx)) (.slice ap pv.length cp) pv∧eR z.2.1 S w.heap.size z.2.2 (.slice ax cols cx) cols (fD A pv cols z.1),?_,?_⟩
 ·intro O w' r;exact⟨(0,w',_),⟨aR _,fun t p ht=>absurd ht (Nat.not_lt_zero t),hw.tr r.cU,cV.cJ hR (Bs.same r hS),dU.cJ hV (Bs.same r (cF w)),hX.rel r hS⟩,Sub.gn [] r⟩
 rintro⟨k,w3,iv⟩ ⟨hk,TF,hw,hR,hV,hX⟩;dsimp only at hk TF hw hR hV hX ⊢;refine dN.mk ?_ ?_<;>intro Oc
 ·have Oc:k<pv.length:=by simpa using Oc
  obtain⟨p,hp⟩:∃p,pv[k]? =some p:=⟨_,aA Oc⟩
  have Qq:=f4 p (aD hp);obtain⟨adp,RY,kp1,kp2⟩:=hV.at hp;refine⟨adp,RY,by omega,.int .i64 (p:Int),fun O w' r=>?_,?_⟩
  ·rw[aF,cI (w:=w3) (w2:=w') (by rw[dC];exact Rel.same r (cF w) kp1.1)];exact kp2
  refine dN.mk ?_ ?_<;>intro he
  ·have he:p=cols:=by
    have:(p:Int)=cols:=by simpa using he
    omega
   intro ρe we re;refine⟨_,rfl,hw.tr re.cU,.inl ⟨?_,rfl⟩⟩;unfold oR;simp only[hP]
   rw[if_pos (by rw[<-he];exact aD hp)]
  have he:p≠cols:=fun e=>by rw[e]at he;simp at he
  obtain⟨x,hx⟩:∃x,A[k]? =some x:=⟨_,aA (by omega)⟩
  have QO:=f3 x (aD hx);obtain⟨q,hq⟩:∃q,x[cols]? =some q:=⟨_,aA (by omega)⟩
  have Pp:dK A k cols=q:=by simp[dK,List.getD,hx,hq]
  obtain⟨adm,um,Qs,PD,km1,km2⟩:=cd.load hR hx;obtain⟨a0,c0,rfl,XQ,-⟩:=dO.shape PD;obtain⟨adq,cs,We,hF,_,hl⟩:=dO.load PD hq;obtain⟨g0,g1,g2,g3,g4,g5,g6,g7,rfl,hF⟩:=hF;refine cQ hτ dx [.x 0,.x 1,.x 2,.x 3,.x 4,.x 5,.x 6,.x 7,.x 8,.x 9,.x 10,.x 11,.x 12,.x 13] (by kernel_rfl) (by kernel_rfl) ?_;refine⟨adm,Qs,by omega,.slice a0 x.length c0,fun O w' r=>?_,?_⟩
  ·rw[aF,cI (w:=w3) (w2:=w') (by rw[dC];exact Rel.same r hS km1.1)];exact km2
  refine⟨adq,We,by omega,[.bool g0,.slice g1 g2 g3,.bool g4,.slice g5 g6 g7],rfl,fun O w' r j u hu=>?_,?_⟩
  ·obtain⟨k1,k2⟩:=hl j u hu;rw[aF,cI (w:=w3) (w2:=w') (by rw[dC,dC];exact Rel.same r hS k1.1)];exact k2
  obtain⟨gx,Q3⟩:∃g,ax=some ⟨g,0,none⟩:=by
   obtain⟨css,h1,h2,h3⟩:=hX.row;rcases h1.2 with⟨_,h0⟩|⟨g,cap,cur,e,_⟩
   ·omega
   ·injection e with e;exact⟨g,e⟩
  subst Q3;refine⟨⟨gx,0,none⟩,rfl,by omega,?_⟩;intro O w' r;obtain⟨g,hg,h1,h2,h3,h4,h5⟩:=(hX.rel r hS).store (j:=p) (by omega) (hF.cJ (Bs.same r hS)) r hS;injection hg with hg;injection hg with hg;subst hg;refine⟨h1,h2,h3,fun w5 RP=>?_⟩;obtain⟨k1,k2,k3⟩:=h5 w5 RP;have Oz:dq w.heap.size w w5:=(hw.tr r.cU).tr (dq.grown k2 (fun g e=>by injection e with e;subst e;exact h4.elim (fun h=>h.elim) fun h=>h.1) r.cG);have Ri:=cV.cJ hR (Bs.kept r hS k2 fun g e=>e);have hV2:=dU.cJ hV (Bs.kept r (cF w) k2 fun g e=>e);have Oi:(fD A pv cols k).set p q=fD A pv cols (k+1):=by rw[gJ,Pp,List.getD,hp];rfl
  rw[Oi]at k1;refine⟨((k+1:Nat):Int),wo,?_⟩;intro ρ3 w6 r3
  exact⟨(k+1,w6,_),⟨Oc,fun t p2 ht Q6=>by
   by_cases UK:t=k
   ·rw[UK,hp]at Q6;injection Q6 with Q6;rw[<-Q6];exact he
   ·exact TF t p2 (by dsimp only at ht;omega) Q6,Oz.tr r3.cU,cV.cJ Ri (Bs.same r3 hS),dU.cJ hV2 (Bs.same r3 (cF w)),k1.rel r3 hS⟩,Sub.gn [] r3,by dsimp only;omega⟩
 have Oc:k=pv.length:=aU hk (by simpa using Oc);subst Oc;intro ρe we re;refine⟨_,rfl,hw.tr re.cU,.inr ⟨_,_,?_,rfl,hX.aAu re hS⟩⟩;unfold oR;simp only[hA,hP]
 rw[aJ];intro hm;obtain⟨t,ht⟩:=aN hm;exact TF t cols (aE.1 ht).1 ht rfl
theorem Fi{u:Value}{cols:Nat}(hC:Old C w)(hS:Old S w)(hM:mH w C S v M)(hb:cO w S u b)(PQ:b.length=M.length)(hlen:gX cols M)(hn:cols<=999)(hR:M.length<=1000)(hB:Ff (k6 M b) (cols+1) h)(hh:3*h<=90000):
  eG PG N.j0 #[.agg #[v,.int .i64 cols],u] w (eL w fun v' w2=>(oR M b cols=none∧v'= .tuple #[.slice none 0 0,.bool false])∨∃x vx,oR M b cols=some x∧v'= .tuple #[vx,.bool true]∧eR w2 S w.heap.size [(w.heap.size,w2.heap.size)] vx cols x):=
 CZ hC hS hS hM (cO.rc hb) PQ hlen hn hR hB hh
def tC(pv:List Nat)(n i:Nat):List Value:=(List.range n).map fun c=>.bool (decide (c∈pv.take i))
theorem JW(pv:List Nat)(n:Nat):tC pv n 0=List.replicate n (.bool false):=by
 refine bH fun j=>?_;rw[tC,aM,List.getElem?_replicate];by_cases h:j<n
 ·rw[List.getElem?_range h,if_pos h];rfl
 ·rw[List.getElem?_eq_none (by simp;omega),aJ h];rfl
theorem Dl{n i c:Nat}(h:c<n):(tC pv n i)[c]? =some (.bool (decide (c∈pv.take i))):=by
 rw[tC,aM,List.getElem?_range h];rfl
theorem JX{n i p:Nat}(hp:pv[i]? =some p):(tC pv n i).set p (.bool true)=tC pv n (i+1):=by
 refine bH fun j=>?_;by_cases hj:j<n
 ·rw[Dl hj,List.take_add_one,hp];by_cases hpj:p=j
  ·subst hpj;rw[aQ (by simp[tC];exact hj)];simp
  ·rw[aY hpj,Dl hj];have:j≠p:=fun e=>hpj e.symm;simp[this]
 ·rw[List.getElem?_eq_none (by simp[tC];omega),List.getElem?_eq_none (by simp[tC];omega)]
theorem eR.at{n:Nat}{cx:Nat}(h:eR w S B iv (.slice ax n cx) n qs)(h0:0<n):∃g,ax=some ⟨g,0,none⟩:=by
 obtain⟨css,h1,h2,h3⟩:=h.row;rcases h1.2 with⟨_,h0⟩|⟨g,cap,cur,e,_⟩
 ·omega
 ·injection e with e;exact⟨g,e⟩
set_option maxHeartbeats 2000000 in
theorem JY{n:Nat}(hC:Old C w)(hS:Old S w)(hM:mH w C S v M)(hlen:gX n M)(hn0:0<n)(hn:n<=1000)(hR:M.length<=1000)(hB:Ff M n h)(hAb:Ht (eK M n).1 h)(hh:3*h<=90000):
  eG PG N.gk #[.agg #[v,.int .i64 n]] w (eL w fun v' w2=>cV w2 (Nf w w2) v' (kQ M n)):=by
 have hw:=bR w;obtain⟨am,cm,rfl,Rt,Ra⟩:=mH.shape hM;unfold maxLen at Ra;obtain⟨f1,f2,f3,f4,f5⟩:=sI n hlen;refine jh (by simp) ?_;unfold kQ;generalize hA:(eK M n).1=A at*
 generalize hP:(eK M n).2.1=pv at*
 refine cH (cM (Φ:=fun _ w' v w2=>∃vr vp vf,v= .agg #[vr,.int .i64 n,vp,vf]∧cV w2 (Nw S w' w2) vr A∧dU w2 (Nf w' w2) vp pv∧dU w2 (Nf w' w2) vf (eK M n).2.2) (fun O w' r=>by
  rw[<-hA,<-hP];obtain⟨rv,m1,m2,m3⟩:=hM
  exact CY (C:=C) (S:=S) (oS hC r) (oS hS r) ⟨rv,m1.cJ fun g hg=>(hw.tr r.cU).block g (hC g hg),m2,fun i u x h1 h2=>cO.cJ (m3 i u x h1 h2) fun g hg=>(hw.tr r.cU).block g (hS g hg)⟩ hlen hn0 hn hR (Nat.le_refl _) hB hh) ?_)
 rintro O QU v1 QJ r he Pa ⟨vr,vp,vf,rfl,k1,k2,k3⟩;replace hw:=hw.tr Pa;have hR:=cV.old (cV.cL k1 fun g hg=>hg.imp (fun h=>(Or.inl h:Cv S w.heap.size [] g)) id) r.cG;have hV:=dU.dF (S:=FF) k2 r.cG (iv:=(QU.heap.size,QJ.heap.size)::[]) aG;have hX:=dU.dF (S:=FF) k3 r.cG (iv:=(QU.heap.size,QJ.heap.size)::[]) aG;generalize (QU.heap.size,QJ.heap.size)::[]=Og at*
 obtain⟨ar,cr,rfl,TJ,hmr⟩:=cd.shape hR;obtain⟨ap,cp,rfl,hcp,hmp⟩:=dU.shape hV;obtain⟨af,cf,rfl,-,-⟩:=dU.shape hX
 refine⟨n,n,rfl,rfl,Nat.le_refl _,by omega,by omega,Nat×World×Iv,fun z=>⟨[(1,pP 0 0),(3,pP 1 0),(4,.o (.s 2 0 n n)),(20,sV ap pv.length cp),(21,iZ pv.length),(22,iN z.1)],[(2,.arr T.bool (tC pv n z.1)),(1,.box T.dZ [.v (.slice ar A.length cr),.v (.int .i64 n),.v (.slice ap pv.length cp),.v (.slice af (eK M n).2.2.length cf)]),(0,.box T.du [.v (.slice am M.length cm),.v (.int .i64 n)])],3,z.2.2,z.2.1⟩,fun z=>pv.length-z.1,
  fun z=>z.1<=pv.length∧dq w.heap.size w z.2.1∧cV z.2.1 (Cv S w.heap.size z.2.2) (.slice ar A.length cr) A∧dU z.2.1 (Cf w z.2.2) (.slice ap pv.length cp) pv,?_,?_⟩
 ·intro O w' r3;exact⟨(0,w',_),⟨aR _,hw.tr r3.cU,cV.rel hR r3 hS,dU.rel hV r3 (cF w)⟩,Sub.gn [] r3 ⟨by dsimp only;rw[JW];rfl,rfl,rfl,trivial⟩⟩
 rintro⟨i,w1,iv⟩ ⟨hi,hw,hR,hV⟩;dsimp only at hi hw hR hV ⊢;refine dN.mk ?_ ?_<;>intro OU
 ·have OU:i<pv.length:=by simpa using OU
  obtain⟨p,hp⟩:∃p,pv[i]? =some p:=⟨_,aA OU⟩
  have Qq:=f4 p (aD hp);obtain⟨adp,RY,kp1,kp2⟩:=hV.at hp;refine⟨adp,RY,by omega,.int .i64 (p:Int),fun O w' r=>?_,?_⟩
  ·rw[aF,cI (w:=w1) (w2:=w') (by rw[dC];exact Rel.same r (cF w) kp1)];exact kp2
  refine⟨by omega,by simp[tC];omega,tC pv n (i+1),?_,?_⟩
  ·rw[aF,aZ,aW,<-JX hp];exact kO (by simp[tC];omega)
  refine⟨((i+1:Nat):Int),wo,?_⟩;intro ρ3 w3 r3;exact⟨(i+1,w3,_),⟨OU,hw.tr r3.cU,cV.rel hR r3 hS,dU.rel hV r3 (cF w)⟩,Sub.gn [] r3,by dsimp only;omega⟩
 have OU:i=pv.length:=aU hi (by simpa using OU);subst OU
 refine⟨Nat×List Value×World×Iv,fun z=>⟨[(32,iN z.1),(7,.o (.w 3 z.2.1.length)),(1,pP 0 0),(3,pP 1 0),(4,.o (.s 2 0 n n)),(31,iZ n)],[(2,.arr T.bool (tC pv n pv.length)),(3,.vec T.iQ 1 z.2.1),(1,.box T.dZ [.v (.slice ar A.length cr),.v (.int .i64 n),.v (.slice ap pv.length cp),.v (.slice af (eK M n).2.2.length cf)]),(0,.box T.du [.v (.slice am M.length cm),.v (.int .i64 n)])],4,z.2.2.2,z.2.2.1⟩,fun z=>n-z.1,
  fun z=>z.1<=n∧dq w.heap.size w z.2.2.1∧cV z.2.2.1 (Cv S w.heap.size z.2.2.2) (.slice ar A.length cr) A∧dU z.2.2.1 (Cf w z.2.2.2) (.slice ap pv.length cp) pv∧de z.2.2.1 (Cf w z.2.2.2) z.2.1 (dP A pv n z.1),?_,?_⟩
 ·intro O w' r;exact⟨(0,[],w',_),⟨aR _,hw.tr r.cU,cV.rel hR r hS,dU.rel hV r (cF w),by simp[de,dP]⟩,Sub.nil 7 T.iQ 1 rfl (by simp[kF,SV.sc,At.sc]) r fun ρ1 r1=>Sub.gn [] r1⟩
 rintro⟨c,rv,w1,iv⟩ ⟨hc,hw,hR,hV,hK⟩;dsimp only at hc hw hR hV hK ⊢;have Pm:rv.length=(dP A pv n c).length:=hK.1;have hrc:=xX A pv n c;refine dN.mk ?_ ?_<;>intro QT
 ·have QT:c<n:=by simpa using QT
  refine⟨by omega,.bool (decide (c∈pv)),by rw[aF,aZ,aW,Dl QT,bF],?_⟩;refine dN.mk ?_ ?_<;>intro hm
  ·have hm:c∈pv:=by simpa using hm
   refine⟨((c+1:Nat):Int),wo,?_⟩;intro ρ3 w3 r3;exact⟨(c+1,rv,w3,_),⟨QT,hw.tr r3.cU,cV.rel hR r3 hS,dU.rel hV r3 (cF w),by dsimp only;rw[qh hm];exact hK.rel r3 (cF w)⟩,Sub.gn [] r3,by dsimp only;omega⟩
  have hm:c∉pv:=by simpa using hm
  refine cH (cM (Φ:=fun _ w' v w2=>eR w2 FF w'.heap.size [(w'.heap.size,w2.heap.size)] v n (List.replicate n 0)) (fun O w' r=>Fe n w' (by omega)) ?_);rintro O QQ v2 Pn r he Pa Rx;replace hw:=hw.tr Pa;replace hR:=cV.cL (S':=Bs S w.heap.size ((QQ.heap.size,Pn.heap.size)::iv) v2) (cV.cJ (cV.rel hR r hS) fun g hg=>he.block g (Rel.old r hS g hg)) fun g hg=>Bs.of r hS (fun x hx=>aC _ hx) Rx hg;replace hV:=dU.cL (S':=Bs FF w.heap.size ((QQ.heap.size,Pn.heap.size)::iv) v2) (dU.cJ (dU.rel hV r (cF w)) fun g hg=>he.block g (Rel.old r (cF w) g hg)) fun g hg=>Bs.of r (cF w) (fun x hx=>aC _ hx) Rx hg;replace hK:=de.cL (S':=Bs FF w.heap.size ((QQ.heap.size,Pn.heap.size)::iv) v2) (de.cJ (de.rel hK r (cF w)) fun g hg=>he.block g (Rel.old r (cF w) g hg)) fun g hg=>Bs.of r (cF w) (fun x hx=>aC _ hx) Rx hg;have hX:=Rx.dF (S:=FF) r.cG (iv:=(QQ.heap.size,Pn.heap.size)::iv) aG;generalize (QQ.heap.size,Pn.heap.size)::iv=OX at*
  obtain⟨ax,cx,rfl,UW⟩:=hX.row.form;obtain⟨gx,rfl⟩:=hX.at hn0;refine cH (cM (Φ:=fun _ w' v w2=>dA w2 (Nf w' w2) v ((1:Int):Rat)) (fun O w' r=>jx 1 w' (by decide) (by decide)) ?_);rintro O Pz v3 Px r he Pa Rx;replace hw:=hw.tr Pa;replace hR:=cV.cL (S':=Bs S w.heap.size ((Pz.heap.size,Px.heap.size)::OX) (.slice (some ⟨gx,0,none⟩) n cx)) (cV.cJ (cV.cJ hR (Bs.same r hS)) fun g hg=>he.block g (Rel.old r hS g hg.1)) fun g hg=>Bs.mono (fun x hx=>aC _ hx) hg;replace hV:=dU.cL (S':=Bs FF w.heap.size ((Pz.heap.size,Px.heap.size)::OX) (.slice (some ⟨gx,0,none⟩) n cx)) (dU.cJ (dU.cJ hV (Bs.same r (cF w))) fun g hg=>he.block g (Rel.old r (cF w) g hg.1)) fun g hg=>Bs.mono (fun x hx=>aC _ hx) hg;replace hK:=de.cL (S':=Bs FF w.heap.size ((Pz.heap.size,Px.heap.size)::OX) (.slice (some ⟨gx,0,none⟩) n cx)) (de.cJ (de.cJ hK (Bs.same r (cF w))) fun g hg=>he.block g (Rel.old r (cF w) g hg.1)) fun g hg=>Bs.mono (fun x hx=>aC _ hx) hg;have hd:=(Rx.cL (S':=Bs FF w.heap.size ((Pz.heap.size,Px.heap.size)::OX) (.slice (some ⟨gx,0,none⟩) n cx)) fun g hg=>hg.elim (fun h=>h.elim) fun h=>⟨.inr ⟨by have:=r.cG;omega,_,_,aG,h.1,h.2⟩,fun e=>by have:=Rel.old r (cF w) g (hX.new g e);omega⟩)
  replace hX:=hX.cK (iv':=(Pz.heap.size,Px.heap.size)::OX) r (cF w) he fun x hx=>aC _ hx;generalize (Pz.heap.size,Px.heap.size)::OX=Oh at*
  obtain⟨A0,A1,A2,A3,A4,A5,A6,A7,rfl⟩:=hd.shape;refine⟨⟨gx,0,none⟩,rfl,by omega,?_⟩;intro O w' r;obtain⟨g,hg,h1,h2,h3,h4,h5⟩:=(hX.rel r (cF w)).store (j:=c) QT (hd.cJ (Bs.same r (cF w))) r (cF w);injection hg with hg;injection hg with hg;subst hg;refine⟨h1,h2,h3,fun w5 RP=>?_⟩;obtain⟨k1,k2,k3⟩:=h5 w5 RP;have Oz:dq w.heap.size w w5:=(hw.tr r.cU).tr (dq.grown k2 (fun g e=>by injection e with e;subst e;exact h4.elim (fun h=>h.elim) fun h=>h.1) r.cG);have Ri:=cV.cJ hR (Bs.kept r hS k2 fun g e=>e);have hV2:=dU.cJ hV (Bs.kept r (cF w) k2 fun g e=>e);have Q7:=de.cJ hK (Bs.kept r (cF w) k2 fun g e=>e);have Oi:(List.replicate n (0:Rat)).set c ((1:Int):Rat)=fo A pv n c 0:=rfl;rw[Oi]at k1
  refine⟨Nat×World×Iv,fun z=>⟨[(49,iN z.1),(8,iN c),(9,.o (.v (.slice (some ⟨gx,0,none⟩) n cx))),(32,iN c),(47,sV ap pv.length cp),(48,iZ pv.length),(7,.o (.w 3 rv.length)),(1,pP 0 0),(3,pP 1 0),(4,.o (.s 2 0 n n)),(31,iZ n)],[(2,.arr T.bool (tC pv n pv.length)),(3,.vec T.iQ 1 rv),(1,.box T.dZ [.v (.slice ar A.length cr),.v (.int .i64 n),.v (.slice ap pv.length cp),.v (.slice af (eK M n).2.2.length cf)]),(0,.box T.du [.v (.slice am M.length cm),.v (.int .i64 n)])],4,z.2.2,z.2.1⟩,fun z=>pv.length-z.1,
   fun z=>z.1<=pv.length∧dq w.heap.size w z.2.1∧cV z.2.1 (Bs S w.heap.size z.2.2 (.slice (some ⟨gx,0,none⟩) n cx)) (.slice ar A.length cr) A∧dU z.2.1 (Bs FF w.heap.size z.2.2 (.slice (some ⟨gx,0,none⟩) n cx)) (.slice ap pv.length cp) pv∧de z.2.1 (Bs FF w.heap.size z.2.2 (.slice (some ⟨gx,0,none⟩) n cx)) rv (dP A pv n c)∧eR z.2.1 FF w.heap.size z.2.2 (.slice (some ⟨gx,0,none⟩) n cx) n (fo A pv n c z.1),?_,?_⟩
  ·intro O w' r3;exact⟨(0,w',_),⟨aR _,Oz.tr r3.cU,cV.cJ Ri (Bs.same r3 hS),dU.cJ hV2 (Bs.same r3 (cF w)),de.cJ Q7 (Bs.same r3 (cF w)),k1.rel r3 (cF w)⟩,Sub.gn [] r3⟩
  rintro⟨k,w3,iv⟩ ⟨hk,hw,hR,hV,hK,hX⟩;dsimp only at hk hw hR hV hK hX ⊢;refine dN.mk ?_ ?_<;>intro Oc
  ·have Oc:k<pv.length:=by simpa using Oc
   obtain⟨p,hp⟩:∃p,pv[k]? =some p:=⟨_,aA Oc⟩
   have Qq:=f4 p (aD hp);obtain⟨adp,RY,kp1,kp2⟩:=hV.at hp;obtain⟨x,hx⟩:∃x,A[k]? =some x:=⟨_,aA (by omega)⟩
   have QO:=f3 x (aD hx);obtain⟨q,hq⟩:∃q,x[c]? =some q:=⟨_,aA (by omega)⟩
   have Pp:dK A k c=q:=by simp[dK,List.getD,hx,hq]
   have SJ:=hAb x (aD hx) q (aD hq);obtain⟨adm,um,Qs,PD,km1,km2⟩:=cd.load hR hx;obtain⟨a0,c0,rfl,XQ,-⟩:=dO.shape PD;obtain⟨adq,cs,We,hF,_,hl⟩:=dO.load PD hq;obtain⟨g0,g1,g2,g3,g4,g5,g6,g7,rfl,hF⟩:=hF;refine⟨adp,RY,by omega,.int .i64 (p:Int),fun O w' r=>?_,?_⟩
   ·rw[aF,cI (w:=w3) (w2:=w') (by rw[dC];exact Rel.same r (cF w) kp1.1)];exact kp2
   refine⟨adm,Qs,by omega,.slice a0 x.length c0,fun O w' r=>?_,?_⟩
   ·rw[aF,cI (w:=w3) (w2:=w') (by rw[dC];exact Rel.same r hS km1.1)];exact km2
   refine⟨adq,We,by omega,[.bool g0,.slice g1 g2 g3,.bool g4,.slice g5 g6 g7],rfl,fun O w' r j u hu=>?_,?_⟩
   ·obtain⟨k1,k2⟩:=hl j u hu;rw[aF,cI (w:=w3) (w2:=w') (by rw[dC,dC];exact Rel.same r hS k1.1)];exact k2
   refine cH (cM (Φ:=fun _ w' v w2=>dA w2 (Nf w' w2) v (-q)) (fun O w' r=>L0 (S:=Bs S w.heap.size iv (.slice (some ⟨gx,0,none⟩) n cx)) (fun g hg=>Rel.old r hS g hg.1) ((hF.cJ (Bs.same r hS)).l (by omega))) ?_);rintro O Ro v4 Qh r he Pa Rx;replace hw:=hw.tr Pa;replace hR:=cV.cL (S':=Bs S w.heap.size ((Ro.heap.size,Qh.heap.size)::iv) (.slice (some ⟨gx,0,none⟩) n cx)) (cV.cJ (cV.cJ hR (Bs.same r hS)) fun g hg=>he.block g (Rel.old r hS g hg.1)) fun g hg=>Bs.mono (fun x hx=>aC _ hx) hg;replace hV:=dU.cL (S':=Bs FF w.heap.size ((Ro.heap.size,Qh.heap.size)::iv) (.slice (some ⟨gx,0,none⟩) n cx)) (dU.cJ (dU.cJ hV (Bs.same r (cF w))) fun g hg=>he.block g (Rel.old r (cF w) g hg.1)) fun g hg=>Bs.mono (fun x hx=>aC _ hx) hg;replace hK:=de.cL (S':=Bs FF w.heap.size ((Ro.heap.size,Qh.heap.size)::iv) (.slice (some ⟨gx,0,none⟩) n cx)) (de.cJ (de.cJ hK (Bs.same r (cF w))) fun g hg=>he.block g (Rel.old r (cF w) g hg.1)) fun g hg=>Bs.mono (fun x hx=>aC _ hx) hg;have hd:=(Rx.cL (S':=Bs FF w.heap.size ((Ro.heap.size,Qh.heap.size)::iv) (.slice (some ⟨gx,0,none⟩) n cx)) fun g hg=>hg.elim (fun h=>h.elim) fun h=>⟨.inr ⟨by have:=r.cG;omega,_,_,aG,h.1,h.2⟩,fun e=>by have:=Rel.old r (cF w) g (hX.new g e);omega⟩)
   replace hX:=hX.cK (iv':=(Ro.heap.size,Qh.heap.size)::iv) r (cF w) he fun x hx=>aC _ hx;generalize (Ro.heap.size,Qh.heap.size)::iv=On at*
   obtain⟨C0,C1,C2,C3,C4,C5,C6,C7,rfl⟩:=hd.shape;refine⟨⟨gx,0,none⟩,rfl,by omega,?_⟩;intro O w' r;obtain⟨g,hg,h1,h2,h3,h4,h5⟩:=(hX.rel r (cF w)).store (j:=p) (by omega) (hd.cJ (Bs.same r (cF w))) r (cF w);injection hg with hg;injection hg with hg;subst hg;refine⟨h1,h2,h3,fun w5 RP=>?_⟩;obtain⟨k1,k2,k3⟩:=h5 w5 RP;have Oz:dq w.heap.size w w5:=(hw.tr r.cU).tr (dq.grown k2 (fun g e=>by injection e with e;subst e;exact h4.elim (fun h=>h.elim) fun h=>h.1) r.cG);have Ri:=cV.cJ hR (Bs.kept r hS k2 fun g e=>e);have hV2:=dU.cJ hV (Bs.kept r (cF w) k2 fun g e=>e);have Q7:=de.cJ hK (Bs.kept r (cF w) k2 fun g e=>e);have Oi:(fo A pv n c k).set p (-q)=fo A pv n c (k+1):=by rw[gI,Pp,List.getD,hp];rfl
   rw[Oi]at k1;refine⟨((k+1:Nat):Int),wo,?_⟩;intro ρ3 w6 r3;exact⟨(k+1,w6,_),⟨Oc,Oz.tr r3.cU,cV.cJ Ri (Bs.same r3 hS),dU.cJ hV2 (Bs.same r3 (cF w)),de.cJ Q7 (Bs.same r3 (cF w)),k1.rel r3 (cF w)⟩,Sub.gn [] r3,by dsimp only;omega⟩
  have Oc:k=pv.length:=aU hk (by simpa using Oc);rw[Oc]at hX;replace hR:=cV.cL hR fun g hg=>hg.1;replace hV:=dU.cL hV fun g hg=>hg.1;replace hK:=(de.cL hK fun g hg=>hg.1).push (u:=(.slice (some ⟨gx,0,none⟩) n cx)) (x:=fo A pv n c pv.length) rfl (by have:=hX.c;exact this);rw[<-oo hm]at hK;refine .inl ?_;refine⟨by simp,by omega,by unfold maxLen;omega,((c+1:Nat):Int),wo,?_⟩;intro ρ3 w3 r3;exact⟨(c+1,rv++[(.slice (some ⟨gx,0,none⟩) n cx)],w3,_),⟨QT,hw.tr r3.cU,cV.rel hR r3 hS,dU.rel hV r3 (cF w),hK.rel r3 (cF w)⟩,Sub.gn [(3,5)] r3 (hE:=⟨rfl,by dsimp only;rw[List.length_append,List.length_singleton];rfl,rfl,rfl,rfl,rfl,trivial⟩),by dsimp only;omega⟩
 have QT:c=n:=aU hc (by simpa using QT);subst QT;intro ρe we re;refine⟨_,rfl,hw.tr re.cU,rv,?_,hK.1,fun i u x k1 k2=>cO.cL (cO.rel (hK.2.2 i u x k1 k2) re (cF w)) fun g hg=>Cv.nw hg re⟩;rw[<-hK.1];exact(re.iD (id:=3) (sz:=1) (m:=rv.length) rfl (by simp) (by unfold maxLen;omega) (by decide) hK.2.1).cL fun g hg=>.inr hg
structure jO(w:World)(S:Nat->Prop)(B:Nat)(iv:Iv)(v:Value)(n i:Nat)(qs:List Rat):Prop where
 row:∃css,w.ownsRow 0 T.Rat 4 v n css.flatten∧gF w (Bs S B iv v) n i css qs
 new:∀g,v.ownBlock=some g->Cv FF B iv g
section
variable{S S':Nat->Prop}{H:Hp}{nx n i:Nat}{iv iv':Iv}{B:Nat}{w w' w2:World}{O:Nat->Sx.dw}{v:Value}{qs:List Rat}
theorem jO.cJ(h:jO w S B iv v n i qs)(hk:∀g,Cv S B iv g->w2.heap[g]? =w.heap[g]?):jO w2 S B iv v n i qs:=by
 obtain⟨⟨css,h1,h2⟩,h3⟩:=h;exact⟨⟨css,ownsRow.cJ h1 fun g hg=>hk g (EP (h3 g hg)),h2.cJ fun g hg=>hk g hg.1⟩,h3⟩
theorem jO.rel(h:jO w S B iv v n i qs)(r:Rel H nx iv B w O w')(hS:∀g,S g->g<B):jO w' S B iv v n i qs:=h.cJ fun _ hg=>Rel.same r hS hg
theorem jO.mono(h:jO w S B iv v n i qs)(hm:∀p,p∈iv->p∈iv'):jO w S B iv' v n i qs:=by
 obtain⟨⟨css,h1,h2⟩,h3⟩:=h;exact⟨⟨css,h1,h2.cL fun g hg=>hg.mono hm⟩,fun g hg=>(h3 g hg).mono hm⟩
theorem jO.cK(h:jO w S B iv v n i qs)(r:Rel H nx iv B w O w')(hS:∀g,S g->g<B)(he:Ext w' w2)(hm:∀p,p∈iv->p∈iv'):jO w2 S B iv' v n i qs:=
 ((h.rel r hS).cJ fun g hg=>he.block g (Rel.old r hS g hg)).mono hm
theorem jO.wI(r:Rel H nx iv B w O w')(h:dD H id=some (.arr T.Rat (List.replicate n [Value.bool false,.slice none 0 0,.bool false,.slice none 0 0]).flatten))(hn:n<=maxLen)(qs:List Rat):
  jO w' S B (((O id).g,(O id).g+1)::iv) (.slice (some ⟨(O id).g,0,none⟩) n n) n 0 qs:=by
 have Oo:=(r.fits h).1;have h4:∀cs∈List.replicate n [Value.bool false,.slice none 0 0,.bool false,.slice none 0 0],cs.length=4:=fun cs hc=>by rw[bJ hc];rfl
 have hf:=ei h4;rw[bc]at hf;refine⟨⟨List.replicate n [.bool false,.slice none 0 0,.bool false,.slice none 0 0],⟨hf,.inr ⟨(O id).g,n,_,rfl,aR _,r.arr id _ _ h,Nat.le_refl _,hn,by simp,by rw[<-hf];exact bF⟩⟩,gF.start w' _ n qs⟩,fun g hg=>?_⟩;injection hg with hg;have hg:(O id).g=g:=hg;subst hg;exact .inr ⟨(r.low id _ h Oo).1,_,_,aG,Nat.le_refl _,bY _⟩
theorem jO.store{a1 a2:Option Addr}{c j n1 c1 n2 c2:Nat}{b b2:Bool}(h:jO w S B iv (.slice a n c) n j qs)(hj:j<n)(hq:qs[j]? =some q)(hf:dA w (Bs S B iv (.slice a n c)) (.agg #[.bool b,.slice a1 n1 c1,.bool b2,.slice a2 n2 c2]) q)
  (r:Rel H nx iv B w O w') (hS:∀g,S g->g<B):
  ∃g,a=some ⟨g,0,none⟩∧((⟨g,0,none⟩:Addr).add ((j:Int).toNat*4)).spot=none∧
   (∀k,k<4->(w'.cell? (((⟨g,0,none⟩:Addr).add ((j:Int).toNat*4)).add k)).isSome=true∧w'.frozen? (((⟨g,0,none⟩:Addr).add ((j:Int).toNat*4)).add k)=false)∧
   (∀id b,dD H id=some b->(O id).nil=false->(O id).g≠((⟨g,0,none⟩:Addr).add ((j:Int).toNat*4)).block)∧
   ∀w2,w2=setCells w' ((⟨g,0,none⟩:Addr).add ((j:Int).toNat*4)) [.bool b,.slice a1 n1 c1,.bool b2,.slice a2 n2 c2]->jO w2 S B iv (.slice a n c) n (j+1) qs∧w'.grownBy w2 (some g)∧dq B w' w2∧Rel H nx iv B w2 O w2:=by
 obtain⟨⟨css,h1,h2⟩,h3⟩:=h.rel r hS;have hf:=hf.cJ (Bs.same r hS);obtain⟨g,rfl,OZ,QB,Ot,PH⟩:=j1 (nv:=[.bool b,.slice a1 n1 c1,.bool b2,.slice a2 n2 c2]) h1 rfl hj rfl (by decide);have Ox:(⟨g,0,none⟩:Addr).add ((j:Int).toNat*4)=⟨g,j*4,none⟩:=by rw[aF,dI,aW]
 have PR:=Rel.not r (gq B) (h3 g rfl);refine⟨g,rfl,by rw[Ox],fun k hk=>by rw[Ox];exact OZ k hk,fun id b hb hn=>by rw[Ox];exact PR id b hb hn,fun w2 Oz=>?_⟩;rw[Ox]at Oz;subst Oz;have Q1:=gp (cs:=[.bool b,.slice a1 n1 c1,.bool b2,.slice a2 n2 c2]) h2.four (show j<css.length by rw[h2.len];exact hj);rw[Q1]at QB;have PM:∀x,Bs S B iv (.slice (some ⟨g,0,none⟩) n c) x->(setCells w' ⟨g,j*4,none⟩ [.bool b,.slice a1 n1 c1,.bool b2,.slice a2 n2 c2]).heap[x]? =w'.heap[x]? :=fun x hx=>
  Ot.block x (Rel.old r hS x hx.1) fun e=>hx.2 e.symm
 refine⟨⟨⟨_,QB,(h2.cJ PM).next hj hq (hf.cJ PM)⟩,h3⟩,Ot,dq.grown Ot (fun x e=>by injection e with e;subst e;exact(h3 g rfl).elim (fun h=>h.elim) fun h=>h.1) r.cG,r.yu PR Ot⟩
theorem jO.done(h:jO w S B iv v n n qs)(hl:qs.length=n):eR w S B iv v n qs:=by
 obtain⟨⟨css,h1,h2⟩,h3⟩:=h;exact⟨⟨css,h1,h2.len,by rw[h2.len,hl],fun j cs q k1 k2=>h2.at_ j cs q (by rw[<-hl];exact(aE.1 k2).1) k1 k2⟩,h3⟩
end
theorem kU(M:List (List Rat))(n:Nat):(dY M n).length=n:=by simp[dY]
theorem JZ{n k:Nat}(h:k<n):(dY M n)[k]? =some (M.map fun r=>r.getD k 0):=by rw[dY,aM,List.getElem?_range h];rfl
set_option maxHeartbeats 1000000 in
theorem sJ{n:Nat}(hC:Old C w)(hS:Old S w)(hM:mH w C S v M)(hlen:gX n M)(hn:n<=1000)(hR:M.length<=1000):
  eG PG N.j7 #[.agg #[v,.int .i64 n]] w (eL w fun v' w2=>∃vr,v'= .agg #[vr,.int .i64 M.length]∧cV w2 (Nw S w w2) vr (dY M n)):=by
 have hw:=bR w;obtain⟨am,cm,rfl,Rt,Ra⟩:=mH.shape hM;unfold maxLen at Ra;refine lH (by simp) ?_
 refine⟨Nat×List Value×World×Iv,fun z=>⟨[(13,iN z.1),(1,pP 0 0),(2,pP 1 0),(3,pP 2 0),(12,iZ n)],[(2,.box T.du [.w 3 z.2.1.length,.v (.int .i64 M.length)]),(3,.vec T.iQ 1 z.2.1),(1,.box T.du [.v (.slice none 0 0),.v (.int .i64 0)]),(0,.box T.du [.v (.slice am M.length cm),.v (.int .i64 n)])],4,z.2.2.2,z.2.2.1⟩,fun z=>n-z.1,
  fun z=>z.1<=n∧dq w.heap.size w z.2.2.1∧de z.2.2.1 (Cv S w.heap.size z.2.2.2) z.2.1 ((dY M n).take z.1),?_,?_⟩
 ·intro O w' r;exact⟨(0,[],w',[]),⟨aR _,hw.tr r.cU,by simp[de]⟩,Sub.Dk 2 0 T.iQ 1 rfl rfl (by simp[kF,SV.sc,At.sc,fm]) r fun ρ1 r1=>Sub.gn [] r1⟩
 rintro⟨k,rv,w1,iv⟩ ⟨hk,hw,hK⟩;dsimp only at hk hw hK ⊢;have Pm:rv.length=k:=by rw[hK.1,ai,kU];omega
 refine dN.mk ?_ ?_<;>intro Oc
 ·have Oc:k<n:=by simpa using Oc
  have UK:=JZ (M:=M) Oc;have Oi:(dY M n).take (k+1)=(dY M n).take k++[M.map fun r=>r.getD k 0]:=by rw[List.take_add_one,UK];rfl
  refine⟨M.length,M.length,rfl,rfl,Nat.le_refl _,by omega,by omega,Nat×Nat×World×Iv,fun z=>⟨[(5,.o (.v (.slice (some ⟨z.2.1,0,none⟩) M.length M.length))),(4,iN k),(13,iN k),(22,iZ M.length),(23,iN z.1),(1,pP 0 0),(2,pP 1 0),(3,pP 2 0),(12,iZ n)],[(2,.box T.du [.w 3 rv.length,.v (.int .i64 M.length)]),(3,.vec T.iQ 1 rv),(1,.box T.du [.v (.slice none 0 0),.v (.int .i64 0)]),(0,.box T.du [.v (.slice am M.length cm),.v (.int .i64 n)])],5,z.2.2.2,z.2.2.1⟩,fun z=>M.length-z.1,
   fun z=>z.1<=M.length∧dq w.heap.size w z.2.2.1∧de z.2.2.1 (Bs S w.heap.size z.2.2.2 (.slice (some ⟨z.2.1,0,none⟩) M.length M.length)) rv ((dY M n).take k)∧jO z.2.2.1 S w.heap.size z.2.2.2 (.slice (some ⟨z.2.1,0,none⟩) M.length M.length) M.length z.1 (M.map fun r=>r.getD k 0),?_,?_⟩
  ·intro O w' r;have hf:=jO.wI (S:=S) (n:=M.length) r (id:=4) rfl (by unfold maxLen;omega) (M.map fun r=>r.getD k 0)
   exact⟨(0,(O 4).g,w',((O 4).g,(O 4).g+1)::iv),⟨aR _,hw.tr r.cU,de.cL (hK.rel r hS) fun g hg=>⟨hg.mono fun p hp=>aC _ hp,fun e=>Rel.not r hS hg 4 _ rfl (r.fits (id:=4) rfl).1 (by injection e)⟩,hf⟩,
    Sub.wI r (id:=4) (t:=5) rfl rfl ⟨rfl,rfl,rfl,rfl,trivial⟩ rfl ⟨rfl,rfl,rfl,rfl,rfl,rfl,rfl,rfl,trivial⟩ (by simp[kF,SV.sc,At.sc])⟩
  rintro⟨i,gx,w2,iv⟩ ⟨hi,hw,hK,hX⟩;dsimp only at hi hw hK hX ⊢;refine dN.mk ?_ ?_<;>intro OU
  ·have OU:i<M.length:=by simpa using OU
   obtain⟨x,hx⟩:∃r,M[i]? =some r:=⟨_,aA OU⟩
   have QO:=hlen x (aD hx);obtain⟨q,hq⟩:∃q,x[k]? =some q:=⟨_,aA (by omega)⟩
   have Ur:x.getD k 0=q:=by rw[List.getD,hq];rfl
   obtain⟨adm,um,Qs,PD,km1,km2⟩:=mH.load hM hx;obtain⟨a0,c0,rfl,XQ,-⟩:=dO.shape PD;obtain⟨adq,cs,We,hF,_,hl⟩:=dO.load PD hq;obtain⟨g0,g1,g2,g3,g4,g5,g6,g7,rfl,hF⟩:=hF;refine⟨adm,Qs,by omega,.slice a0 x.length c0,rd1 km2 hw (hC _ km1),adq,We,by omega,[.bool g0,.slice g1 g2 g3,.bool g4,.slice g5 g6 g7],rfl,rdO hl hw hS,⟨gx,0,none⟩,rfl,by omega,?_⟩;intro O w' r
   have So:dA w2 (Bs S w.heap.size iv (.slice (some ⟨gx,0,none⟩) M.length M.length)) (.agg #[.bool g0,.slice g1 g2 g3,.bool g4,.slice g5 g6 g7]) q:=(hF.cJ fun g hg=>hw.block g (hS g hg)).cL fun g hg=>⟨.inl hg,fun e=>by
    have h1:=hS g hg;rcases hX.new g e with h2|⟨h2,_⟩
    ·exact h2
    ·omega⟩
   obtain⟨g,hg,h1,h2,h3,h4⟩:=hX.store (j:=i) OU (by rw[aM,hx,<-Ur];rfl) So r hS;injection hg with hg;injection hg with hg;subst hg;refine⟨h1,h2,h3,fun w5 RP=>?_⟩;obtain⟨k1,k2,k3,k4⟩:=h4 w5 RP;have Oz:=(hw.tr r.cU).tr k3;have Q7:=de.cJ hK (Bs.kept r hS k2 fun g e=>e);refine⟨((i+1:Nat):Int),wo,?_⟩;intro ρ3 w6 r3;exact⟨(i+1,gx,w6,_),⟨OU,Oz.tr r3.cU,de.cJ Q7 (Bs.same r3 hS),k1.rel r3 hS⟩,Sub.gn [] r3,by dsimp only;omega⟩
  have OU:i=M.length:=aU hi (by simpa using OU);rw[OU]at hX;have hX2:=(hX.done (by simp)).c;replace hK:=(de.cL hK fun g hg=>hg.1).push (u:=(.slice (some ⟨gx,0,none⟩) M.length M.length)) (x:=M.map fun r=>r.getD k 0) rfl hX2;rw[<-Oi]at hK;refine .inl ?_;refine⟨by simp,by omega,by unfold maxLen;omega,((k+1:Nat):Int),wo,?_⟩;intro ρ3 w3 r3;exact⟨(k+1,rv++[(.slice (some ⟨gx,0,none⟩) M.length M.length)],w3,_),⟨Oc,hw.tr r3.cU,hK.rel r3 hS⟩,Sub.gn [(3,6)] r3 ⟨by dsimp only;rw[List.length_append,List.length_singleton];rfl,rfl,rfl,rfl,trivial⟩,by dsimp only;omega⟩
 have Oc:k=n:=aU hk (by simpa using Oc);rw[List.take_of_length_le (by rw[kU];omega)]at hK;intro ρe we re;refine⟨_,rfl,hw.tr re.cU,_,rfl,rv,?_,hK.1,fun i u x k1 k2=>cO.cL (cO.rel (hK.2.2 i u x k1 k2) re hS) fun g hg=>Cv.nw hg re⟩;rw[<-hK.1];exact(re.iD (id:=3) (sz:=1) (m:=rv.length) rfl (by simp) (by unfold maxLen;omega) (by decide) hK.2.1).cL fun g hg=>.inr hg
end Go.Ex
namespace Go.Ex
variable{A M:List (List Rat)}{pv:List Nat}{B j:Nat}{v:Nat->Rat}
theorem CK(f:Nat->Rat):∀n,dJ f n=kK (List.range n) f
 |0=>rfl
 |n+1=>by
  rw[dJ,CK f n,bS,wk];show _=_+(_+0)
  rw[bQ]
theorem CL(g:Nat->Rat):∀l:List Nat,kK l g=dJ (fun k=>g (l.getD k 0)) l.length
 |[]=>rfl
 |t::l=>by
  rw[List.length_cons,zU];show g t+kK l g=g t+_;rw[CL g l];rfl
def mulR(M:List (List Rat))(n:Nat)(x:Nat->Rat)(j:Nat):Rat:=dJ (fun t=>dK M j t*x t) n
theorem eQ.dot{E:Mx}{r n:Nat}(h:eQ E r n v):∃c:Nat->Rat,(∀t,t<n->v t=dJ (fun i=>c i*E i t) r)∧∀x:Nat->Rat,dJ (fun t=>v t*x t) n=dJ (fun i=>c i*dJ (fun t=>E i t*x t) n) r:=by
 obtain⟨c,hc⟩:=h;refine⟨c,hc,fun x=>?_⟩;rw[cR (g:=fun t=>dJ (fun i=>c i*E i t*x t) r) fun t ht=>by rw[hc t ht,<-nM],nN];exact cR fun i _=>by rw[<-e8];exact cR fun t _=>Rat.mul_assoc _ _ _
section
variable{M:List (List Rat)}{n:Nat}{x:Nat->Rat}{b:List Rat}
theorem Kq(hM:gX n M)(h:∀j,j<M.length->mulR M n x j=0){c:Nat}(hc:c<=n):∀i,i<M.length->mulR (cN M c).1 n x i=0:=fun i hi=>by
 obtain⟨c,_,h2⟩:=((lX hM c hc).1 i hi).dot;unfold mulR;rw[h2 x,cR (g:=fun _=>0) fun j hj=>by rw[show dJ (fun t=>dK M j t*x t) n=0 from h j hj,bD],eM]
theorem FD(hM:gX n M){c:Nat}(hc:c<=n)(h:∀i,i<M.length->mulR (cN M c).1 n x i=0):∀j,j<M.length->mulR M n x j=0:=fun j hj=>by
 obtain⟨c,_,h2⟩:=((lX hM c hc).2 j hj).dot;unfold mulR;rw[h2 x,cR (g:=fun _=>0) fun i hi=>by rw[show dJ (fun t=>dK (cN M _).1 i t*x t) n=0 from h i hi,bD],eM]
theorem nO(hM:gX n M){t:Nat}(hj:j<M.length):(t<n->dK (eE M b) j t=dK M j t)∧dK (eE M b) j n=b.getD j 0:=by
 have hr:=aA hj;have hl:(M[j]).length=n:=hM _ (ah hj);have e:(eE M b).getD j []=M[j]++[b.getD j 0]:=by rw[eE,List.getD,List.getElem?_mapIdx,hr];rfl
 have e2:M.getD j []=M[j]:=by rw[List.getD,hr];rfl
 refine⟨fun ht=>?_,?_⟩
 ·rw[dK,dK,e,e2,List.getD,aK (by omega),<-List.getD]
 ·rw[dK,e,List.getD,aO (by omega),hl,bK];rfl
def FE(x:Nat->Rat)(n t:Nat):Rat:=if t<n then x t else -1
theorem Gq(hM:gX n M)(hj:j<M.length):mulR (eE M b) (n+1) (FE x n) j=mulR M n x j-b.getD j 0:=by
 have h:=fun t=>nO (b:=b) (t:=t) hM hj;unfold mulR;rw[dJ,(h 0).2,show FE x n n= -1 by unfold FE;rw[aJ (Nat.lt_irrefl n)],cR (g:=fun t=>dK M j t*x t) fun t ht=>by rw[(h t).1 ht];unfold FE;rw[if_pos ht]];grind
def fz(M:List (List Rat))(b:List Rat)(n:Nat):Option (List Rat):=
 let e:=cN (eE M b) n
 if ∀j,j<M.length->e.2.length<=j->dK e.1 j n=0 then some (fD e.1 e.2 n e.2.length)else none
theorem oT{x:List Rat}(hM:gX n M)(h:fz M b n=some x):x.length=n∧∀j,j<M.length->mulR M n (fun t=>x.getD t 0) j=b.getD j 0:=by
 unfold fz at h;dsimp only at h;split at h
 ·rename_i h0;injection h with h;have hW:=jE (b:=b) hM;obtain⟨r1,r2,r3,r4,r5⟩:=eX hW n (Nat.le_succ n);have Qq:=jS (eE M b) n;have Tz:=fP (M:=M) (b:=b);have hl:=fR (eE M b) n;have QO:x.length=n:=by rw[<-h,j4]
  have RF:∀j,j<(cN (eE M b) n).2.length->x.getD ((cN (eE M b) n).2.getD j 0) 0=dK (cN (eE M b) n).1 j n:=fun j hj=>by
   rw[<-h];exact oN (F:=fD (cN (eE M b) n).1 (cN (eE M b) n).2 n) (f:=fun i=>dK (cN (eE M b) n).1 i n) (fun i=>gJ _ _ n i) (j4 _ _ n) Qq.2.1 r4 _ (Nat.le_refl _) hj
  have PK:∀t,t∉(cN (eE M b) n).2->x.getD t 0=0:=fun t ht=>by rw[<-h];exact tf ht
  refine⟨QO,fun j hj=>?_⟩;have key:=FD (M:=eE M b) (x:=FE (fun t=>x.getD t 0) n) hW (c:=n) (Nat.le_succ n) (fun i hi=>?_) j (by rw[Tz];exact hj)
  ·rw[Gq hM hj]at key;grind
  ·unfold mulR;rw[dJ,show FE (fun t=>x.getD t 0) n n= -1 by unfold FE;rw[aJ (Nat.lt_irrefl n)],cR (g:=fun t=>dK (cN (eE M b) n).1 i t*x.getD t 0) fun t ht=>by unfold FE;rw[if_pos ht]];rcases aS i (cN (eE M b) n).2.length with h1|h1
   ·rw[gh (i:=(cN (eE M b) n).2.getD i 0) (r4 _ (by rw[List.getD,aA h1];exact ah _)) fun t ht OY=>?_,r5 i i h1 (by omega),if_pos rfl,RF i h1]
    ·grind
    ·by_cases hp:t∈(cN (eE M b) n).2
     ·obtain⟨k,hk,rfl⟩:=sZ hp;rw[r5 k i hk (by omega),aJ (fun e=>OY (by rw[e])),bI]
     ·rw[PK t hp,bD]
   ·rw[cR (g:=fun _=>0) fun t ht=>by rw[r3 i t h1 (by omega) ht,bI],eM,h0 i (by rw[<-Tz];exact hi) h1];grind
 ·cases h
theorem s7(hM:gX n M)(h:fz M b n=none):∃y:Nat->Rat,(∀t,t<n->dJ (fun j=>y j*dK M j t) M.length=0)∧dJ (fun j=>y j*b.getD j 0) M.length≠0:=by
 unfold fz at h;dsimp only at h;split at h
 ·cases h
 ·rename_i h0;obtain⟨i,hi,h1,h2⟩:∃i,i<M.length∧(cN (eE M b) n).2.length<=i∧dK (cN (eE M b) n).1 i n≠0:=by
   refine Decidable.byContradiction fun SD=>h0 fun j hj hr=>Decidable.byContradiction fun h2=>SD ⟨j,hj,hr,h2⟩
  have hW:=jE (b:=b) hM;have Tz:=fP (M:=M) (b:=b);have hl:=fR (eE M b) n;obtain⟨r1,r2,r3,r4,r5⟩:=eX hW n (Nat.le_succ n);obtain⟨y,hy⟩:=(lX hW n (Nat.le_succ n)).1 i (by omega);rw[Tz]at hy;refine⟨y,fun t ht=>?_,?_⟩
  ·have h3:=hy t (by omega);rw[r3 i t h1 (by omega) ht]at h3;rw[h3];exact cR fun j hj=>by rw[(nO (b:=b) hM hj).1 ht]
  ·have h3:=hy n (by omega);rw[cR (g:=fun j=>y j*b.getD j 0) fun j hj=>by rw[(nO (b:=b) (t:=n) hM hj).2]]at h3;rw[<-h3];exact h2
theorem JO{x:Nat->Rat}(hM:gX n M)(h:∀j,j<M.length->mulR M n x j=b.getD j 0):∃z,fz M b n=some z:=by
 cases e:fz M b n with
 |some z=>exact⟨z,rfl⟩
 |none=>
  obtain⟨y,h1,h2⟩:=s7 hM e;refine absurd ?_ h2;rw[cR fun j hj=>by rw[<-h j hj,mulR,<-e8],nN,cR (g:=fun _=>0) fun t ht=>?_,eM];rw[cR (g:=fun j=>y j*dK M j t*x t) fun j _=>(Rat.mul_assoc _ _ _).symm,nM,h1 t ht,bI]
theorem Kr(M:List (List Rat))(n:Nat)(x y:Nat->Rat)(j:Nat):mulR M n (fun t=>x t-y t) j=mulR M n x j-mulR M n y j:=by
 unfold mulR;rw[<-Ey];exact cR fun t _=>by grind
theorem qA(M:List (List Rat))(b:List Rat):k6 M b=eE M b:=rfl
theorem FG{r i t:Nat}(h:i<r):dK (A.take r) i t=dK A i t:=by
 rw[dK,dK,show(A.take r).getD i []=A.getD i [] by rw[List.getD,bV h,<-List.getD]]
theorem wz(A:List (List Rat))(pv:List Nat)(n:Nat):∀k,k<=pv.length->fD (A.take pv.length) pv n k=fD A pv n k
 |0,_=>rfl
 |k+1,h=>by rw[gJ,gJ,wz A pv n k (by omega),FG (by omega)]
theorem xA(A:List (List Rat))(pv:List Nat)(n c:Nat):∀k,k<=pv.length->fo (A.take pv.length) pv n c k=fo A pv n c k
 |0,_=>rfl
 |k+1,h=>by rw[gI,gI,xA A pv n c k (by omega),FG (by omega)]
abbrev cX(M:List (List Rat))(n:Nat):List (List Rat):=dP (cN M n).1 (cN M n).2 n n
theorem s8(hM:gX n M)(hW:DM M n B):kQ M n=cX M n:=by
 obtain⟨e1,e2⟩:=s6 hM hW;unfold kQ cX dP;rw[e1,e2];exact List.map_congr_left fun c _=>xA _ _ n c _ (Nat.le_refl _)
theorem vS(hM:gX n M)(hW:DM (eE M b) (n+1) B):oR M b n=fz M b n:=by
 have hWl:=jE (b:=b) hM;obtain⟨e1,e2⟩:=s6 hWl hW;have hl:=fR (eE M b) n;have Tz:=fP (M:=M) (b:=b);obtain⟨r1,r2,r3,r4,r5⟩:=eX hWl n (Nat.le_succ n);have e:cN (eE M b) (n+1)=dX (cN (eE M b) n) n:=by
  unfold cN;rw[bS,List.foldl_append];rfl
 unfold oR fz;dsimp only
 rcases jf n r2 with⟨k1,k2⟩|⟨k,k1,k2,k3,k4⟩
 ·rw[aJ (by rw[qA,e1,e,k1];exact fun h=>by have:=r4 n h;omega),if_pos fun j hj hr=>k2 j hr (by omega),qA,e1,e2,e,k1,wz _ _ n _ (Nat.le_refl _)]
 ·rw[if_pos (by rw[qA,e1,e,k4];simp),aJ fun h=>k3 (h k (by omega) k1)]
theorem Ks(hM:gX n M){x:List Rat}(h:∀j,j<M.length->mulR M n (fun t=>x.getD t 0) j=0):Diff (cN M n).1 (cN M n).2 n x:=by
 obtain⟨r1,r2,r3,r4,r5⟩:=eX hM n (Nat.le_refl _);have Qq:=jS M n;have hl:=fR M n;refine⟨Qq.2.1,r4,r2,r5,fun j hj=>?_⟩;rw[<-CK];have h1:=Kq hM h (Nat.le_refl n) j (by omega);unfold mulR at h1;rw[h1,dK,List.getD,List.getElem?_eq_none (by rw[r1.getD hj];exact Nat.le_refl _)];rfl
theorem nP(M:List (List Rat))(n:Nat):(cX M n).length=(jX (cN M n).2 n).length:=by unfold cX dP;rw[aL]
theorem zf(M:List (List Rat))(n:Nat){k:Nat}(hk:k<(cX M n).length):(cX M n).getD k []=fo (cN M n).1 (cN M n).2 n ((jX (cN M n).2 n).getD k 0) (cN M n).2.length:=by
 obtain⟨r,hr⟩:∃r,(cX M n)[k]? =some r:=⟨_,aA hk⟩
 rw[List.getD,hr];exact(oO hr).2
theorem jG(M:List (List Rat))(n:Nat):gX n (cX M n):=fun r hr=>by
 obtain⟨k,hk⟩:=aN hr;rw[(oO hk).2,j3]
theorem zg(hM:gX n M){k:Nat}(hk:k<(cX M n).length):∀j,j<M.length->mulR M n (dK (cX M n) k) j=0:=by
 obtain⟨r1,r2,r3,r4,r5⟩:=eX hM n (Nat.le_refl _);have Qq:=jS M n;have hl:=fR M n;have hf:=lW.1 (pw (by rw[<-nP];exact hk));refine FD hM (Nat.le_refl n) fun i hi=>?_;have OV:=zf M n hk;generalize hc:(jX (cN M n).2 n).getD k 0=c at hf OV;have RF:∀j,j<(cN M n).2.length->dK (cX M n) k ((cN M n).2.getD j 0)= -(dK (cN M n).1 j c):=fun j hj=>by
  rw[dK,OV];exact oN (F:=fo (cN M n).1 (cN M n).2 n c) (f:=fun i=> -(dK (cN M n).1 i c)) (fun i=>gI _ _ n c i) (j3 _ _ n c) Qq.2.1 r4 _ (Nat.le_refl _) hj
 have PK:∀t,t∉(cN M n).2->dK (cX M n) k t=if t=c then 1 else 0:=fun t ht=>by rw[dK,OV];exact pt ht hf.1
 unfold mulR;rcases aS i (cN M n).2.length with h1|h1
 ·have Sc:(cN M n).2.getD i 0∈(cN M n).2:=by rw[List.getD,aA h1];exact ah _
  have OY:(cN M n).2.getD i 0≠c:=fun e=>hf.2 (e▸Sc);have e:dJ (fun t=>dK (cN M n).1 i t*dK (cX M n) k t) n=dJ (fun t=>(if t=(cN M n).2.getD i 0 then -(dK (cN M n).1 i c)else 0)+(if t=c then dK (cN M n).1 i c else 0)) n:=by
   refine cR fun t ht=>?_;by_cases hp:t∈(cN M n).2
   ·obtain⟨j,hj,rfl⟩:=sZ hp;rw[RF j hj,r5 j i hj (by omega),aJ (show ¬(cN M n).2.getD j 0=c from fun e=>hf.2 (e▸hp)),bQ];by_cases Pj:i=j
    ·rw[if_pos Pj,if_pos (by rw[Pj]),Pj,bz]
    ·have WV:(cN M n).2.getD j 0≠(cN M n).2.getD i 0:=fun e2=>Pj (by
      rcases cA i j with h5|h5|h5
      ·have:(cN M n).2.getD i 0<(cN M n).2.getD j 0:=KZ Qq.2.1 h5 hj;omega
      ·exact h5
      ·have:(cN M n).2.getD j 0<(cN M n).2.getD i 0:=KZ Qq.2.1 h5 h1
       omega)
     rw[aJ Pj,aJ WV,bI]
   ·rw[PK t hp,aJ (show ¬t=(cN M n).2.getD i 0 from fun e2=>hp (e2▸Sc)),Rat.zero_add];by_cases htc:t=c
    ·rw[if_pos htc,if_pos htc,htc,Rat.mul_one]
    ·rw[aJ htc,aJ htc,bD]
  rw[e,iI,gh (i:=(cN M n).2.getD i 0) (r4 _ Sc) fun t _ OY=>aJ OY,gh (i:=c) hf.1 fun t _ OY=>aJ OY,if_pos rfl,if_pos rfl];grind
 ·rw[cR (g:=fun _=>0) fun t ht=>by rw[r3 i t h1 (by omega) ht,bI],eM]
theorem IG(hM:gX n M)(h:∀j,j<M.length->mulR M n x j=0):∃c:Nat->Rat,∀t,t<n->x t=dJ (fun k=>c k*dK (cX M n) k t) (cX M n).length:=by
 obtain⟨l,hl⟩:∃l,l=(List.range n).map x:=⟨_,rfl⟩
 have hx:∀t,t<n->l.getD t 0=x t:=fun t ht=>by rw[hl,List.getD,aM,List.getElem?_range ht];rfl
 have hd:=Ks (x:=l) hM fun j hj=>Eq.trans (cR fun t ht=>congrArg (dK M j t* ·) (hx t ht)) (h j hj);refine⟨fun k=>l.getD ((jX (cN M n).2 n).getD k 0) 0,fun t ht=>?_⟩;have h1:=hd.rest ht;obtain⟨r1,r2,r3,r4,r5⟩:=eX hM n (Nat.le_refl _);have h0:(fD (cN M n).1 (cN M n).2 n (cN M n).2.length).getD t 0=0:=by
  by_cases hp:t∈(cN M n).2
  ·obtain⟨j,hj,rfl⟩:=sZ hp;rw[hd.xin hj,dK,List.getD,List.getElem?_eq_none (by rw[r1.getD (by omega)];exact Nat.le_refl _)];rfl
  ·exact tf hp
 rw[h0,bI,bQ,hx t ht,CL]at h1;rw[h1,nP];exact cR fun k hk=>by rw[dK,zf M n (by rw[nP];exact hk)]
theorem Mr{c:Nat->Rat}(h:∀t,t<n->dJ (fun k=>c k*dK (cX M n) k t) (cX M n).length=0):∀k,k<(cX M n).length->c k=0:=fun k hk=>by
 have TG:k<(jX (cN M n).2 n).length:=by rw[<-nP];exact hk
 have hf:=lW.1 (pw TG);have h1:=h _ hf.1;obtain⟨r,hr⟩:∃r,(cX M n)[k]? =some r:=⟨_,aA hk⟩
 rw[gh hk fun i hi OY=>?_]at h1
 ·rw[dK,show(cX M n).getD k []=r by rw[List.getD,hr];rfl,zT hr hr,if_pos rfl,Rat.mul_one]at h1;exact h1
 ·obtain⟨s,hs⟩:∃s,(cX M n)[i]? =some s:=⟨_,aA hi⟩
  rw[dK,show(cX M n).getD i []=s by rw[List.getD,hs];rfl,zT hr hs,aJ OY,bD]
end
theorem zh(p:Nat->Bool):∀l:List Nat,l.length=(l.filter p).length+(l.filter fun c=> !p c).length
 |[]=>rfl
 |c::l=>by
  have ih:=zh p l;rw[List.filter_cons,List.filter_cons]
  cases p c with
  |true=>simp;omega
  |false=>simp;omega
theorem Kt{n:Nat}(hn:pv.Nodup)(hl:∀p∈pv,p<n):(jX pv n).length=n-pv.length:=by
 have h1:(List.range n).length=((List.range n).filter fun c=>decide (c∉pv)).length+((List.range n).filter fun c=>decide (c∈pv)).length:=by
  refine(zh (fun c=>decide (c∉pv)) (List.range n)).trans ?_;congr 2;refine List.filter_congr fun c _=>?_;by_cases h:c∈pv<;>simp[h]
 have h2:((List.range n).filter fun c=>decide (c∈pv)).length=pv.length:=by
  refine(List.Perm.length_eq ?_);refine(List.perm_ext_iff_of_nodup (List.Pairwise.filter _ List.nodup_range) hn).2 fun c=>?_;rw[List.mem_filter,List.mem_range,decide_eq_true_eq];exact⟨fun h=>h.2,fun h=>⟨hl c h,h⟩⟩
 rw[List.length_range]at h1;unfold jX;omega
theorem Gr{n:Nat}(hM:gX n M):(cX M n).length=n-(cN M n).2.length:=by
 obtain⟨r1,r2,r3,r4,r5⟩:=eX hM n (Nat.le_refl _);have Qq:=jS M n;rw[nP];exact Kt (Qq.2.1.imp fun h=>Nat.ne_of_lt h) r4
end Go.Ex
namespace Go.Ex
open Go Go.Sx Go.Proofs
variable{after:Array Edge}{z:Int}{p:Int×Int×Rat}{M:List (List Rat)}{css:List (List Value)}{l:List Int}{cs:List Value}{i j:Nat}{C S S':Nat->Prop}{guard:Option (Nat×Bool)}{a:Option Addr}{dst:Option Tmp}{K:SV->Hp->Nat->Iv->World->Prop}{v:Value}{w w2:World}{f:eu}
theorem cV.nil:cV w S (.slice none 0 0) []:=⟨[],⟨by decide,rfl,fun u hu=>absurd hu (by simp),none,0,rfl,Nat.le_refl _,fun j u hu=>absurd hu (by simp)⟩,rfl,fun i u x h1 h2=>absurd h2 (by simp)⟩
theorem Dv(M:List (List Rat)):kQ M 0=[]:=by simp[kQ,dP]
set_option maxHeartbeats 1000000 in
theorem Fs(hC:Old C w)(hS:Old S w)(hM:mH w C S v M)(hlen:gX 0 M)(hR:M.length<=1000):
  eG PG N.jK #[.agg #[v,.int .i64 0],.int .i64 0] w (eL w fun v' w2=>v'= .agg #[.slice none 0 0,.int .i64 0,.slice none 0 0,.slice none 0 0]):=by
 have hw:=bR w;obtain⟨am,cm,rfl,Rt,Ra⟩:=mH.shape hM;unfold maxLen at Ra;refine ji (by simp) ?_;refine⟨0,0,rfl,rfl,Nat.le_refl _,by omega,by omega,World,fun z=>⟨[(1,iZ 0),(2,pP 0 0),(4,pP 1 0),(5,pP 2 0),(6,.o (.s 3 0 0 0)),(27,iZ 0),(28,iZ 0)],[(3,.arr T.int []),(2,.box T.dZ [.v (.slice none 0 0),.v (.int .i64 0),.v (.slice none 0 0),.v (.slice none 0 0)]),(1,.box T.dZ [.v (.slice none 0 0),.v (.int .i64 0),.v (.slice none 0 0),.v (.slice none 0 0)]),(0,.box T.du [.v (.slice am M.length cm),.v (.int .i64 0)])],4,[],z⟩,fun z=>0,fun z=>dq w.heap.size w z,?_,?_⟩
 ·intro O w' r3;exact⟨w',hw.tr r3.cU,Sub.gn [] r3⟩
 rintro w1 hw;dsimp only at hw ⊢
 refine⟨Nat×World,fun z=>⟨[(38,iN z.1),(1,iZ 0),(2,pP 0 0),(4,pP 1 0),(5,pP 2 0),(6,.o (.s 3 0 0 0)),(36,sV am M.length cm),(37,iZ M.length)],[(3,.arr T.int []),(2,.box T.dZ [.v (.slice none 0 0),.v (.int .i64 0),.v (.slice none 0 0),.v (.slice none 0 0)]),(1,.box T.dZ [.v (.slice none 0 0),.v (.int .i64 0),.v (.slice none 0 0),.v (.slice none 0 0)]),(0,.box T.du [.v (.slice am M.length cm),.v (.int .i64 0)])],5,[],z.2⟩,fun z=>M.length-z.1,
  fun z=>z.1<=M.length∧dq w.heap.size w z.2,?_,?_⟩
 ·intro O w' r3;exact⟨(0,w'),⟨aR _,hw.tr r3.cU⟩,Sub.gn [] r3⟩
 rintro⟨i,w1⟩ ⟨hi,hw⟩;dsimp only at hi hw ⊢;refine dN.mk ?_ ?_<;>intro OU
 ·have OU:i<M.length:=by simpa using OU
  obtain⟨x,hx⟩:∃r,M[i]? =some r:=⟨_,aA OU⟩
  have QO:=hlen x (aD hx);obtain rfl:=List.eq_nil_of_length_eq_zero QO;obtain⟨adm,um,Qs,PD,km1,km2⟩:=mH.load hM hx;obtain⟨css,⟨-,g1,g2,a0,c0,rfl,g4,g5⟩,Pf,UC,PI⟩:=PD;obtain rfl:=List.eq_nil_of_length_eq_zero Pf;refine⟨adm,Qs,by omega,.slice a0 0 c0,rd1 km2 hw (hC _ km1),?_⟩;refine .inl ?_;refine⟨[],rfl,g2,fun O w' r Py=>absurd Py (by simp),rfl,by omega,by unfold maxLen;omega,World,fun z=>⟨[(9,.o (.w 6 0)),(46,iZ 0),(47,iZ 0),(2,pP 0 0),(4,pP 1 0),(5,pP 2 0),(6,.o (.s 3 0 0 0)),(8,iN i),(36,sV am M.length cm),(37,iZ M.length),(38,iN i),(1,iZ 0)],[(6,.vec T.Rat 4 []),(3,.arr T.int []),(2,.box T.dZ [.v (.slice none 0 0),.v (.int .i64 0),.v (.slice none 0 0),.v (.slice none 0 0)]),(1,.box T.dZ [.v (.slice none 0 0),.v (.int .i64 0),.v (.slice none 0 0),.v (.slice none 0 0)]),(0,.box T.du [.v (.slice am M.length cm),.v (.int .i64 0)])],7,[],z⟩,fun z=>0,fun z=>dq w.heap.size w z,?_,?_⟩
  ·intro O w' r3;exact⟨w',hw.tr r3.cU,Sub.gn [] r3⟩
  rintro w1 hw;dsimp only at hw ⊢;refine⟨World,fun z=>⟨[(9,.o (.w 6 0)),(12,iZ 0),(2,pP 0 0),(4,pP 1 0),(5,pP 2 0),(6,.o (.s 3 0 0 0)),(8,iN i),(36,sV am M.length cm),(37,iZ M.length),(38,iN i),(1,iZ 0)],[(6,.vec T.Rat 4 []),(3,.arr T.int []),(2,.box T.dZ [.v (.slice none 0 0),.v (.int .i64 0),.v (.slice none 0 0),.v (.slice none 0 0)]),(1,.box T.dZ [.v (.slice none 0 0),.v (.int .i64 0),.v (.slice none 0 0),.v (.slice none 0 0)]),(0,.box T.du [.v (.slice am M.length cm),.v (.int .i64 0)])],7,[],z⟩,fun z=>0,fun z=>dq w.heap.size w z,?_,?_⟩
  ·intro O w' r3;exact⟨w',hw.tr r3.cU,Sub.gn [] r3⟩
  rintro w1 hw;dsimp only at hw ⊢;refine⟨((i+1:Nat):Int),wo,?_⟩;intro ρ3 w3 r3;exact⟨(i+1,w3),⟨OU,hw.tr r3.cU⟩,Sub.gn [] r3,by dsimp only;omega⟩
 refine⟨World,fun z=>⟨[(4,pP 1 0),(5,pP 2 0),(17,pP 5 0),(159,.o (.s 3 0 0 0)),(160,iZ 0),(161,iZ 0)],[(5,.box T.dZ [.v (.slice none 0 0),.v (.int .i64 0),.v (.slice none 0 0),.v (.slice none 0 0)]),(3,.arr T.int []),(2,.box T.dZ [.v (.slice none 0 0),.v (.int .i64 0),.v (.slice none 0 0),.v (.slice none 0 0)]),(1,.box T.dZ [.v (.slice none 0 0),.v (.int .i64 0),.v (.slice none 0 0),.v (.slice none 0 0)]),(0,.box T.du [.v (.slice am M.length cm),.v (.int .i64 0)])],6,[],z⟩,fun z=>0,fun z=>dq w.heap.size w z,?_,?_⟩
 ·intro O w' r3;exact⟨w',hw.tr r3.cU,Sub.gn [] r3⟩
 rintro w1 hw;dsimp only at hw ⊢;exact rtn hw fun ρe we re=>rfl
set_option maxHeartbeats 1000000 in
theorem HU(hC:Old C w)(hS:Old S w)(hM:mH w C S v M)(hlen:gX 0 M)(hR:M.length<=1000):
  eG PG N.gk #[.agg #[v,.int .i64 0]] w (eL w fun v' w2=>cV w2 (Nf w w2) v' (kQ M 0)):=by
 have hw:=bR w;obtain⟨am,cm,rfl,Rt,Ra⟩:=mH.shape hM;unfold maxLen at Ra;refine jh (by simp) ?_
 refine cH (cM (Φ:=fun _ w' v w2=>v= .agg #[.slice none 0 0,.int .i64 0,.slice none 0 0,.slice none 0 0]) (fun O w' r=>by
  obtain⟨rv,m1,m2,m3⟩:=hM
  exact Fs (C:=C) (S:=S) (oS hC r) (oS hS r) ⟨rv,m1.cJ fun g hg=>(hw.tr r.cU).block g (hC g hg),m2,fun i u x h1 h2=>cO.cJ (m3 i u x h1 h2) fun g hg=>(hw.tr r.cU).block g (hS g hg)⟩ hlen hR) ?_)
 rintro O QU v1 QJ r he Pa rfl;replace hw:=hw.tr Pa;generalize (QU.heap.size,QJ.heap.size)::[]=Og at*
 refine⟨0,0,rfl,rfl,Nat.le_refl _,by omega,by omega,World×Iv,fun z=>⟨[(1,pP 0 0),(3,pP 1 0),(4,.o (.s 2 0 0 0)),(20,sV none 0 0),(21,iZ 0),(22,iZ 0)],[(2,.arr T.bool []),(1,.box T.dZ [.v (.slice none 0 0),.v (.int .i64 0),.v (.slice none 0 0),.v (.slice none 0 0)]),(0,.box T.du [.v (.slice am M.length cm),.v (.int .i64 0)])],3,z.2,z.1⟩,fun z=>0,fun z=>dq w.heap.size w z.1,?_,?_⟩
 ·intro O w' r3;exact⟨(w',_),hw.tr r3.cU,Sub.gn [] r3⟩
 rintro⟨w1,iv⟩ hw;dsimp only at hw ⊢;refine⟨World×Iv,fun z=>⟨[(32,iZ 0),(7,sV none 0 0),(1,pP 0 0),(3,pP 1 0),(4,.o (.s 2 0 0 0)),(31,iZ 0)],[(2,.arr T.bool []),(1,.box T.dZ [.v (.slice none 0 0),.v (.int .i64 0),.v (.slice none 0 0),.v (.slice none 0 0)]),(0,.box T.du [.v (.slice am M.length cm),.v (.int .i64 0)])],3,z.2,z.1⟩,fun z=>0,fun z=>dq w.heap.size w z.1,?_,?_⟩
 ·intro O w' r3;exact⟨(w',_),hw.tr r3.cU,Sub.gn [] r3⟩
 rintro⟨w1,iv⟩ hw;dsimp only at hw ⊢;intro ρe we re;rw[Dv];exact⟨_,rfl,hw.tr re.cU,cV.nil⟩
theorem tI{n h:Nat}(hC:Old C w)(hS:Old S w)(hM:mH w C S v M)(hlen:gX n M)(hR:M.length<=1000)(hn:n<=1000)(hB:Ff M n h)(hAb:Ht (eK M n).1 h)(hh:3*h<=90000):
  eG PG N.gk #[.agg #[v,.int .i64 n]] w (eL w fun v' w2=>cV w2 (Nf w w2) v' (kQ M n)):=by
 rcases bN n with h0|h0
 ·subst h0;exact HU hC hS hM hlen hR
 ·exact JY hC hS hM hlen h0 hn hR hB hAb hh
theorem wJ{k:Nat}(h:∀cs∈css,cs.length=k):css.flatten.length=css.length*k:=by
 induction css with
 |nil=>simp
 |cons c r ih=>rw[List.flatten_cons,List.length_append,h c aG,ih fun x hx=>h x (aC _ hx),List.length_cons,Nat.succ_mul];omega
theorem wK{k:Nat}(h:∀cs∈css,cs.length=k)(hj:css[j]? =some cs)(i:Nat)(u:Value)(hu:cs[i]? =some u):css.flatten[j*k+i]? =some u:=by
 induction css generalizing j with
 |nil=>cases hj
 |cons c r ih=>
  have hc:=h c aG;have hi:=(aE.1 hu).1
  cases j with
  |zero=>
   injection hj with hj;subst hj;rw[List.flatten_cons,Nat.zero_mul,aW,aK hi];exact hu
  |succ j=>
   rw[List.flatten_cons,aO (by rw[hc,Nat.succ_mul];omega),hc,show(j+1)*k+i-k=j*k+i by rw[Nat.succ_mul];omega];exact ih (fun x hx=>h x (aC _ hx)) hj
def ed{α:Type}(k:Nat)(P:World->(Nat->Prop)->List Value->α->Prop)(w:World)(S:Nat->Prop)(v:Value)(xs:List α):Prop:=
 ∃css:List (List Value),iR w S k v css.flatten xs.length∧css.length=xs.length∧(∀cs∈css,cs.length=k)∧∀(j:Nat) cs x,css[j]? =some cs->xs[j]? =some x->P w S cs x
section
variable{α:Type}{k:Nat}{P:World->(Nat->Prop)->List Value->α->Prop}{w w2:World}{S S':Nat->Prop}{v:Value}{xs:List α}
theorem ed.cJ(hP:∀cs x,P w S cs x->P w2 S cs x)(h:ed k P w S v xs)(hk:∀g,S g->w2.heap[g]? =w.heap[g]?):ed k P w2 S v xs:=by
 obtain⟨css,h1,h2,h3,h4⟩:=h;exact⟨css,h1.cJ hk,h2,h3,fun j cs x k1 k2=>hP cs x (h4 j cs x k1 k2)⟩
theorem ed.cL(hP:∀cs x,P w S cs x->P w S' cs x)(h:ed k P w S v xs)(hk:∀g,S g->S' g):ed k P w S' v xs:=by
 obtain⟨css,h1,h2,h3,h4⟩:=h;exact⟨css,h1.cL hk,h2,h3,fun j cs x k1 k2=>hP cs x (h4 j cs x k1 k2)⟩
theorem ed.shape(h:ed k P w S v xs):∃a c,v= .slice a xs.length c∧xs.length<=c∧xs.length<=maxLen:=by
 obtain⟨css,⟨h0,_,_,a,c,h1,h2,_⟩,_⟩:=h;exact⟨a,c,h1,h2,h0⟩
theorem ed.load{m c:Nat}{x:α}(hk:0<k)(h:ed k P w S (.slice a m c) xs)(hq:xs[j]? =some x):
  ∃ad cs,a=some ad∧P w S cs x∧cs.length=k∧∀i u,cs[i]? =some u->S ad.block∧w.cell? ((ad.add (j*k)).add i)=some u:=by
 obtain⟨css,⟨h0,h1,h2,a',c',e,h3,h4⟩,hl,hl4,hf⟩:=h;injection e with e1 e2 e3;subst e1;obtain⟨cs,PI⟩:∃cs,css[j]? =some cs:=⟨_,aA (by rw[hl];exact(aE.1 hq).1)⟩
 have hl:=hl4 cs (aD PI);obtain⟨ad,k1,k2,k3⟩:=h4 (j*k+0) _ (wK hl4 PI 0 _ (aA (show 0<cs.length by omega)));refine⟨ad,cs,k1,hf j cs x PI hq,hl,fun i u hu=>?_⟩;obtain⟨ad2,m1,m2,m3⟩:=h4 (j*k+i) u (wK hl4 PI i u hu);rw[k1]at m1;injection m1 with m1;subst m1;refine⟨m2,?_⟩;rw[<-m3];have:(ad.add (j*k)).add i=ad.add (j*k+i):=by
  unfold Addr.add;split<;>split<;>simp_all<;>omega
 rw[this]
end
def IY(_w:World)(_S:Nat->Prop)(cs:List Value)(p:Int×Int×Int):Prop:=cs=[.int .i64 p.1,.int .i64 p.2.1,.int .i64 p.2.2]
def I0(_w:World)(_S:Nat->Prop)(cs:List Value)(p:Ld):Prop:=cs=[.int .i64 p.1,.int .i64 p.2.1,.int .i64 p.2.2.1,.int .i64 p.2.2.2]
def Dm(w:World)(S:Nat->Prop)(cs:List Value)(p:Int×Int×Rat):Prop:=∃b a n c b2 a2 n2 c2,cs=[.int .i64 p.1,.int .i64 p.2.1,.bool b,.slice a n c,.bool b2,.slice a2 n2 c2]∧fE w S (.agg #[.bool b,.slice a n c,.bool b2,.slice a2 n2 c2]) p.2.2
theorem Dm.cJ(h:Dm w S cs p)(hk:∀g,S g->w2.heap[g]? =w.heap[g]?):Dm w2 S cs p:=by
 obtain⟨b,a,n,c,b2,a2,n2,c2,h1,h2⟩:=h;exact⟨b,a,n,c,b2,a2,n2,c2,h1,h2.cJ hk⟩
theorem Dm.cL(h:Dm w S cs p)(hk:∀g,S g->S' g):Dm w S' cs p:=by
 obtain⟨b,a,n,c,b2,a2,n2,c2,h1,h2⟩:=h;exact⟨b,a,n,c,b2,a2,n2,c2,h1,h2.cL hk⟩
abbrev nA:=ed 3 IY
abbrev iE:=ed 4 I0
abbrev Lh:=ed 6 Dm
structure eF(w:World)(S:Nat->Prop)(vn vb vs:Value)(f:eu):Prop where
 nodes:nA w S vn f.nodes
 bars:Lh w S vb f.bars
 cY:Lh w S vs f.cY
section
variable{S S':Nat->Prop}{H:Hp}{nx:Nat}{iv iv':Iv}{B:Nat}{w w' w2:World}{O:Nat->Sx.dw}{v vn vb vs:Value}{f:eu}{l:List Ld}
theorem iE.cJ(h:iE w S v l)(hk:∀g,S g->w2.heap[g]? =w.heap[g]?):iE w2 S v l:=ed.cJ (w:=w) (fun _ _ h=>h) h hk
theorem iE.cL(h:iE w S v l)(hk:∀g,S g->S' g):iE w S' v l:=ed.cL (S:=S) (fun _ _ h=>h) h hk
theorem eF.cJ(h:eF w S vn vb vs f)(hk:∀g,S g->w2.heap[g]? =w.heap[g]?):eF w2 S vn vb vs f:=
 ⟨ed.cJ (w:=w) (fun _ _ h=>h) h.nodes hk,ed.cJ (fun _ _ h=>h.cJ hk) h.bars hk,ed.cJ (fun _ _ h=>h.cJ hk) h.cY hk⟩
theorem eF.cL(h:eF w S vn vb vs f)(hk:∀g,S g->S' g):eF w S' vn vb vs f:=
 ⟨ed.cL (S:=S) (fun _ _ h=>h) h.nodes hk,ed.cL (fun _ _ h=>h.cL hk) h.bars hk,ed.cL (fun _ _ h=>h.cL hk) h.cY hk⟩
theorem eF.rel(h:eF w (Cv S B iv) vn vb vs f)(r:Rel H nx iv B w O w')(hS:∀g,S g->g<B):eF w' (Cv S B iv) vn vb vs f:=h.cJ fun _ hg=>Rel.same r hS hg
theorem eF.shape(h:eF w S vn vb vs f):∃an cn ab cb aq cs,vn= .slice an f.nodes.length cn∧vb= .slice ab f.bars.length cb∧vs= .slice aq f.cY.length cs∧f.nodes.length<=maxLen∧f.bars.length<=maxLen∧f.cY.length<=maxLen:=by
 obtain⟨an,cn,h1,_,h2⟩:=h.nodes.shape;obtain⟨ab,cb,h3,_,h4⟩:=h.bars.shape;obtain⟨aq,cs,h5,_,h6⟩:=h.cY.shape;exact⟨an,cn,ab,cb,aq,cs,h1,h3,h5,h2,h4,h6⟩
end
theorem Ar{P:Program}{τ:nF}{B nx:Nat}{l:Env}{H:Hp}{iv:Iv}(hτ:fk P τ){t ty len e sz by_:Nat}{ag:Bool}{ze ze2:List Value}{ik ik2:IntKind}{b2 tag2 al2 e0:Nat}{fs fs2:List (Nat×Nat)}{x i:Operand}{pos:String}{vx:SV}{cs:Array Value}{k:IntKind}{m:Int}{u:Value}
  (ht:τ t=some ⟨sz,ag,by_,ze,6,ik,e,len,fs⟩) (Pr:τ e=some ⟨1,false,b2,ze2,tag2,ik2,e0,al2,fs2⟩) (hx:ev l x=some vx) (Uw:∀O,vx.den O= .agg cs) (hi:ev l i=some (.o (.v (.int k m)))) (hm:0<=m∧m<len) (hc:cs[m.toNat]? =some u)
  (hK:∀O w',Rel H nx iv B w O w'->K (.o (.v u)) H nx iv w'):xd P B ⟨dst,.index t x i,ty,pos,after,guard⟩ l H nx iv w K:=by
 have hto:=(hτ t _ ht).i6 rfl;have RZ:=hτ e _ Pr;refine Gd hto (fun w=>RZ.sizeOf w) (fun w j v hv=>?_) hx Uw hi hm hc hK;simp[part,RZ.isAgg,hv]
structure iS(w:World)(B:Nat)(iv:Iv)(rv:List Value)(n:Nat)(M:List (List Int)):Prop where
 len:rv.length=M.length
 wid:∀l∈M,l.length=n
 row:∀(i:Nat) v l,rv[i]? =some v->M[i]? =some l->w.ownsRow 0 T.int 1 v n (l.map fun z=>.int .i64 z)
 uf:∀(i j:Nat) a b g,rv[i]? =some a->rv[j]? =some b->a.ownBlock=some g->b.ownBlock=some g->i=j
 new:∀g,Ob rv g->Cv FF B iv g
section
variable{H:Hp}{nx n:Nat}{iv iv':Iv}{B:Nat}{w w' w2:World}{O:Nat->Sx.dw}{rv:List Value}{M:List (List Int)}
theorem iS.nil:iS w B iv [] n []:=⟨rfl,fun l h=>(by cases h),fun i v l h=>(by cases h),fun i j a b g h=>(by cases h),fun g ⟨v,hv,_⟩=>by cases hv⟩
theorem iS.cJ(h:iS w B iv rv n M)(hk:∀g,Cv FF B iv g->w2.heap[g]? =w.heap[g]?):iS w2 B iv rv n M:=
 ⟨h.len,h.wid,fun i v l h1 h2=>ownsRow.cJ (h.row i v l h1 h2) fun g hg=>hk g (h.new g ⟨v,aD h1,hg⟩),h.uf,h.new⟩
theorem iS.rel(h:iS w B iv rv n M)(r:Rel H nx iv B w O w'):iS w' B iv rv n M:=h.cJ fun _ hg=>Rel.same r (gq B) hg
theorem iS.mono(h:iS w B iv rv n M)(hm:∀p,p∈iv->p∈iv'):iS w B iv' rv n M:=⟨h.len,h.wid,h.row,h.uf,fun g hg=>(h.new g hg).mono hm⟩
theorem iS.cK(h:iS w B iv rv n M)(r:Rel H nx iv B w O w')(he:Ext w' w2)(hm:∀p,p∈iv->p∈iv'):iS w2 B iv' rv n M:=
 ((h.rel r).cJ fun g hg=>he.block g (Rel.old r (gq B) g hg)).mono hm
theorem iS.form(hM:iS w B iv rv n M)(hv:rv[i]? =some v):∃a c,v= .slice a n c:=by
 obtain⟨l,hl⟩:∃l,M[i]? =some l:=⟨_,aA (by rw[<-hM.len];exact(aE.1 hv).1)⟩
 obtain⟨a,c,h,_⟩:=fF (hM.row i v l hv hl);exact⟨a,c,h⟩
theorem iS.one(hM:iS w B iv rv n M):∀u∈rv,u.oneCell'=true:=fun u hu=>by
 obtain⟨i,hi⟩:=aN hu;obtain⟨a,c,rfl⟩:=hM.form hi;rfl
theorem iS.load(hM:iS w B iv rv n M){k:Nat}{c:Nat}(hv:rv[i]? =some (.slice a n c))(hl:M[i]? =some l)(hk:l[k]? =some z):
  ∃ad,a=some ad∧Cv FF B iv ad.block∧w.cell? (ad.add (k*1))=some (.int .i64 z):=by
 have h:=hM.row i _ l hv hl;have hlen:=hM.wid l (aD hl);rcases h.2 with⟨_,h0⟩|⟨g,cap,cur,e,_⟩
 ·have:=(aE.1 hk).1;omega
 ·injection e with e;refine⟨⟨g,0,none⟩,e,hM.new g ⟨_,aD hv,by rw[e];rfl⟩,?_⟩;have:=h.cells (g:=g) (by rw[e];rfl) k (.int .i64 z) (by rw[aM,hk];rfl);rw[aZ];exact this
theorem iS.store(hM:iS w B iv rv n M)(r:Rel H nx iv B w O w'){k:Nat}{c:Nat}(hv:rv[i]? =some (.slice a n c))(hl:M[i]? =some l)(hk:k<n):
  ∃g,a=some ⟨g,0,none⟩∧((⟨g,0,none⟩:Addr).add ((k:Int).toNat*1)).spot=none∧
   (∀j,j<1->(w'.cell? (((⟨g,0,none⟩:Addr).add ((k:Int).toNat*1)).add j)).isSome=true∧w'.frozen? (((⟨g,0,none⟩:Addr).add ((k:Int).toNat*1)).add j)=false)∧
   (∀id b,dD H id=some b->(O id).nil=false->(O id).g≠((⟨g,0,none⟩:Addr).add ((k:Int).toNat*1)).block)∧
   ∀w2,w2=setCells w' ((⟨g,0,none⟩:Addr).add ((k:Int).toNat*1)) [.int .i64 z]->iS w2 B iv rv n (M.set i (l.set k z))∧dq B w' w2∧Rel H nx iv B w2 O w2∧w'.grownBy w2 (some g)∧Ob rv g:=by
 have S4:=hM.rel r;have h1:=S4.row i _ l hv hl;have hlen:=hM.wid l (aD hl);obtain⟨g,rfl,OZ,QB,Ot,PH⟩:=j1 (nv:=[.int .i64 z]) h1 rfl hk rfl (by decide);have RE:Ob rv g:=⟨_,aD hv,rfl⟩
 have Ox:(⟨g,0,none⟩:Addr).add ((k:Int).toNat*1)=⟨g,k*1,none⟩:=by rw[aF,dI,aW]
 have PR:=Rel.not r (gq B) (hM.new g RE);refine⟨g,rfl,by rw[Ox],fun j hj=>by rw[Ox];exact OZ j hj,fun id b hb hn=>by rw[Ox];exact PR id b hb hn,fun w2 Oz=>?_⟩;rw[Ox]at Oz;subst Oz;refine⟨⟨by rw[bM];exact hM.len,fun x hx=>?_,fun j v l2 h3 h4=>?_,hM.uf,hM.new⟩,dq.grown Ot (fun x e=>by injection e with e;subst e;exact(hM.new g RE).elim (fun h=>h.elim) fun h=>h.1) r.cG,r.yu PR Ot,Ot,RE⟩
 ·rcases av hx with hx|rfl
  ·exact hM.wid x hx
  ·rw[bM];exact hlen
 ·by_cases Pj:i=j
  ·subst Pj;rw[hv]at h3;injection h3 with h3;subst h3;rw[aQ (by rw[<-hM.len];exact(aE.1 hv).1)]at h4;injection h4 with h4;subst h4;rw[List.map_set,<-kO (by rw[aL];omega)];simp only[aZ]at QB ⊢;exact QB
  ·rw[aY Pj]at h4;refine ownsRow.cJ (S4.row j v l2 h3 h4) fun x hx=>Ot.block x ?_ fun e=>?_
   ·exact Rel.old r (gq B) x (hM.new x ⟨v,aD h3,hx⟩)
   ·injection e with e;exact Pj (hM.uf i j _ v x hv h3 (by rw[<-e];rfl) hx)
theorem iS.push(hM:iS w B iv rv n M){gx:Nat}(Q3:∀g,Cv FF B iv g->g≠gx)(hBx:B<=gx)(hl:l.length=n)(OV:w.ownsRow 0 T.int 1 (.slice (some ⟨gx,0,none⟩) n n) n (l.map fun z=>.int .i64 z)):
  iS w B ((gx,gx+1)::iv) (rv++[.slice (some ⟨gx,0,none⟩) n n]) n (M++[l]):=by
 have RE:∀g,Ob rv g->g≠gx:=fun g hg=>Q3 g (hM.new g hg);have key:∀(k:Nat) v,(rv++[Value.slice (some ⟨gx,0,none⟩) n n])[k]? =some v->(k<rv.length∧rv[k]? =some v)∨(k=rv.length∧v= .slice (some ⟨gx,0,none⟩) n n):=fun k v hk=>by
  rcases aS k rv.length with hi|hi
  ·rw[aK hi]at hk;exact .inl ⟨hi,hk⟩
  ·have SF:k=rv.length:=by have:=(aE.1 hk).1;simp at this;omega
   rw[SF,aO (Nat.le_refl _),bK]at hk;simp at hk;exact .inr ⟨SF,hk.symm⟩
 refine⟨by simp[hM.len],fun x hx=>?_,fun i v x h1 h2=>?_,fun i j a b g h1 h2 h3 h4=>?_,fun g hg=>?_⟩
 ·rcases bE.1 hx with hx|hx
  ·exact hM.wid x hx
  ·rw[bL.1 hx];exact hl
 ·rcases key i v h1 with⟨hi,k1⟩|⟨e1,rfl⟩
  ·rw[aK (by rw[<-hM.len];exact hi)]at h2;exact hM.row i v x k1 h2
  ·rw[e1,hM.len,aO (Nat.le_refl _),bK]at h2;simp at h2;subst h2;exact OV
 ·rcases key i a h1 with⟨_,k1⟩|⟨e1,rfl⟩<;>rcases key j b h2 with⟨_,k2⟩|⟨e2,rfl⟩
  ·exact hM.uf i j a b g k1 k2 h3 h4
  ·injection h4 with h4;exact absurd h4.symm (RE g ⟨a,aD k1,h3⟩)
  ·injection h3 with h3;exact absurd h3.symm (RE g ⟨b,aD k2,h4⟩)
  ·rw[e1,e2]
 ·rcases Ob.append.1 hg with h|h
  ·exact(hM.new g h).mono fun p hp=>aC _ hp
  ·injection h with h;have h:gx=g:=h;subst h;exact .inr ⟨hBx,_,_,aG,Nat.le_refl _,bY _⟩
end
def HN(w:World)(S:Nat->Prop)(v:Value)(l:List Int):Prop:=iR w S 1 v (l.map fun z=>.int .i64 z) l.length
abbrev kV:=cd HN
theorem HN.cJ(h:HN w S v l)(hk:∀g,S g->w2.heap[g]? =w.heap[g]?):HN w2 S v l:=iR.cJ h hk
theorem HN.cL(h:HN w S v l)(hk:∀g,S g->S' g):HN w S' v l:=iR.cL h hk
theorem kV.cJ{M:List (List Int)}(h:kV w S v M)(hk:∀g,S g->w2.heap[g]? =w.heap[g]?):kV w2 S v M:=by
 obtain⟨rv,h1,h2,h3⟩:=h;exact⟨rv,h1.cJ hk,h2,fun i u x k1 k2=>(h3 i u x k1 k2).cJ hk⟩
theorem kV.cL{M:List (List Int)}(h:kV w S v M)(hk:∀g,S g->S' g):kV w S' v M:=by
 obtain⟨rv,h1,h2,h3⟩:=h;exact⟨rv,h1.cL hk,h2,fun i u x k1 k2=>(h3 i u x k1 k2).cL hk⟩
theorem HN.at{m c:Nat}(h:HN w S (.slice a m c) l)(hj:l[j]? =some z):∃ad,a=some ad∧S ad.block∧w.cell? (ad.add (j*1))=some (.int .i64 z):=by
 obtain⟨h0,h1,h2,a',c',e,h3,h4⟩:=h;injection e with e1 e2 e3;subst e1;obtain⟨ad,k1,k2,k3⟩:=h4 j (.int .i64 z) (by rw[aM,hj];rfl);exact⟨ad,k1,k2,by rw[aZ];exact k3⟩
theorem HN.shape(h:HN w S v l):∃a c,v= .slice a l.length c∧l.length<=c∧l.length<=maxLen:=by
 obtain⟨h0,h1,h2,a,c,e,h3,h4⟩:=h;exact⟨a,c,e,h3,h0⟩
structure uh(f:eu):Prop where
 co:∀p∈f.nodes,(-1000000<=p.1∧p.1<=1000000)∧(-1000000<=p.2.1∧p.2.1<=1000000)∧(-1000000<=p.2.2∧p.2.2<=1000000)
 Mv:∀b∈f.bars,(0<=b.1∧b.1<f.nodes.length)∧(0<=b.2.1∧b.2.1<f.nodes.length)
 sup:∀s∈f.cY,(0<=s.1∧s.1<f.nodes.length)∧(0<=s.2.1∧s.2.1<=2)
 n:f.nodes.length<=20
 b:f.bars.length<=60
 s:f.cY.length<=60
theorem uh.node(h:uh f){i:Int}(h0:0<=i)(h1:i<f.nodes.length):∃k:Nat,∃p,i=k∧k<f.nodes.length∧f.nodes[k]? =some p∧f.node i=p∧(-1000000<=p.1∧p.1<=1000000)∧(-1000000<=p.2.1∧p.2.1<=1000000)∧(-1000000<=p.2.2∧p.2.2<=1000000):=by
 obtain⟨k,rfl⟩:=Int.eq_ofNat_of_zero_le h0;have hk:k<f.nodes.length:=by omega
 refine⟨k,f.nodes[k],rfl,hk,aA hk,?_,h.co _ (ah hk)⟩;rw[eu.node,aF,List.getD,aA hk];rfl
theorem Ba{vn vb vs:Value}{a b:Int}{b3 b6:Bool}{a4 a7:Option Addr}{n4 c4 n7 c7:Nat}(hS:Old S w)(hn:nA w S vn f.nodes)(OZ:uh f)(hA:0<=a∧a<f.nodes.length)(hB:0<=b∧b<f.nodes.length):
  eG PG N.lf #[.agg #[vn,vb,vs],.agg #[.int .i64 a,.int .i64 b,.bool b3,.slice a4 n4 c4,.bool b6,.slice a7 n7 c7]] w (eL w fun v' _=>v'= .agg #[.int .i64 ((f.node b).1-(f.node a).1),.int .i64 ((f.node b).2.1-(f.node a).2.1),.int .i64 ((f.node b).2.2-(f.node a).2.2)]):=by
 have hw:=bR w;obtain⟨an,cn,rfl,hcn,RH⟩:=hn.shape;unfold maxLen at RH;obtain⟨ka,pa,ea,hka,hpa,Wf,⟨_,_⟩,⟨_,_⟩,⟨_,_⟩⟩:=OZ.node hA.1 hA.2;obtain⟨kb,pb,eb,Oc,TM,Wg,⟨_,_⟩,⟨_,_⟩,⟨_,_⟩⟩:=OZ.node hB.1 hB.2;obtain⟨ada,csa,haa,hPa,-,QM⟩:=hn.load (by decide) hpa;obtain⟨adb,csb,QP,hPb,-,PT⟩:=hn.load (by decide) TM;have hPa:csa=[.int .i64 pa.1,.int .i64 pa.2.1,.int .i64 pa.2.2]:=hPa;have hPb:csb=[.int .i64 pb.1,.int .i64 pb.2.1,.int .i64 pb.2.2]:=hPb;subst hPa hPb;rw[Wf,Wg];subst ea eb;refine pW (by simp) ?_;refine jN hτ dx (.x 0 (.x 2 (.x 6 (.x 8 (.ld 1 49200 (.ld 3 49200 (.x 4 (.ld 5 49152 (.ld 7 35840 (.ld 9 35840 (.x 10 (.ld 11 32768 (.two 12 (.x 13 (.x 14 (.x 15 .nil))) 13 (.x 12 (.x 14 (.x 15 .nil)))))))))))))))) (by kernel_rfl) (by kernel_rfl) ?_;refine⟨ada,haa,by omega,[.int .i64 pa.1,.int .i64 pa.2.1,.int .i64 pa.2.2],rfl,rdO QM hw hS,adb,QP,by omega,[.int .i64 pb.1,.int .i64 pb.2.1,.int .i64 pb.2.2],rfl,rdO PT hw hS,?_,?_⟩
 ·refine⟨[.int .i64 pb.1,.int .i64 pb.2.1,.int .i64 pb.2.2],rfl,rdO PT hw hS,rfl,rfl,rfl,[.int .i64 pa.1,.int .i64 pa.2.1,.int .i64 pa.2.2],rfl,rdO QM hw hS,rfl,rfl,rfl,[.int .i64 pb.1,.int .i64 pb.2.1,.int .i64 pb.2.2],rfl,rdO PT hw hS,rfl,rfl,rfl,[.int .i64 pa.1,.int .i64 pa.2.1,.int .i64 pa.2.2],rfl,rdO QM hw hS,rfl,rfl,rfl,[.int .i64 pb.1,.int .i64 pb.2.1,.int .i64 pb.2.2],rfl,rdO PT hw hS,rfl,rfl,rfl,pb.1-pa.1,wo,pb.2.1-pa.2.1,wo,pb.2.2-pa.2.2,wo,?_⟩;exact rtn hw fun ρe we re=>rfl
 ·refine⟨[.int .i64 pb.1,.int .i64 pb.2.1,.int .i64 pb.2.2],rfl,rdO PT hw hS,rfl,rfl,rfl,[.int .i64 pa.1,.int .i64 pa.2.1,.int .i64 pa.2.2],rfl,rdO QM hw hS,rfl,rfl,rfl,[.int .i64 pb.1,.int .i64 pb.2.1,.int .i64 pb.2.2],rfl,rdO PT hw hS,rfl,rfl,rfl,[.int .i64 pa.1,.int .i64 pa.2.1,.int .i64 pa.2.2],rfl,rdO QM hw hS,rfl,rfl,rfl,[.int .i64 pb.1,.int .i64 pb.2.1,.int .i64 pb.2.2],rfl,rdO PT hw hS,rfl,rfl,rfl,pb.1-pa.1,wo,pb.2.1-pa.2.1,wo,pb.2.2-pa.2.2,wo,?_⟩;exact rtn hw fun ρe we re=>rfl
end Go.Ex
