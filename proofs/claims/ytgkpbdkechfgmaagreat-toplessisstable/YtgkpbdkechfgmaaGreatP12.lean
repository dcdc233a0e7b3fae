/- Texts X135 to X139: lemmas, each with its conditions. -/
import Derived.Test.YtgkpbdkechfgmaaGreatP11
namespace Go.Ex
open Go Go.Sx Go.Proofs
variable{iv:Iv}{M:List (List Rat)}{css:List (List Value)}{ps pv:List Nat}{b qs x:List Rat}{cs:List Value}{B g h id:Nat}{C S:Nat->Prop}{O:Nat->Sx.dL}{a ax:Option Addr}{row:Option Nat}{q:Rat}{v:Value}{w:World}
section
variable{S S':Nat->Prop}{H:Hp}{nx n:Nat}{iv iv':Iv}{B:Nat}{w w' w2:World}{O:Nat->Sx.dL}{v:Value}{qs:List Rat}
theorem eE.aAW{w0 w1:World}(h:eE w1 S w0.heap.size iv v n qs)(r:Rel H nx iv w0.heap.size w1 O w')(hS:Old S w0):eE w' S w0.heap.size [(w0.heap.size,w'.heap.size)] v n qs:=by
 have h2:=h.rel r hS;have key:∀g {X:Nat->Prop},Cv X w0.heap.size iv g->Cv X w0.heap.size [(w0.heap.size,w'.heap.size)] g:=fun g X hg=>by
  rcases hg with hg|⟨h1,lo,hi,h2,h3,h4⟩
  ·exact .inl hg
  ·exact .inr ⟨h1,_,_,bF.2 rfl,h1,by have:=r.qW lo hi h2;have:=r.size;omega⟩
 exact⟨h2.row.cF fun g hg=>⟨key g hg.1,hg.2⟩,fun g hg=>key g (h2.new g hg)⟩
theorem eE.aAX(h:eE w2 (Cv S B iv) w'.heap.size [(w'.heap.size,w2.heap.size)] v n qs)(hB:B<=w'.heap.size):eE w2 S B ((w'.heap.size,w2.heap.size)::iv) v n qs:=by
 have key:∀g {X Y:Nat->Prop},(∀g,Y g->Cv X B iv g)->Cv Y w'.heap.size [(w'.heap.size,w2.heap.size)] g->Cv X B ((w'.heap.size,w2.heap.size)::iv) g:=fun g X Y hY hg=>by
  rcases hg with hg|⟨h1,lo,hi,h2,h3,h4⟩
  ·exact(hY g hg).mono fun p hp=>aC _ hp
  ·simp at h2;obtain⟨rfl,rfl⟩:=h2;exact .inr ⟨by omega,_,_,aG,h3,h4⟩
 exact⟨h.row.cF fun g hg=>⟨key g (fun _ h=>h) hg.1,hg.2⟩,fun g hg=>key g (fun _ h=>h.elim) (h.new g hg)⟩
def Bs(S:Nat->Prop)(B:Nat)(iv:Iv)(v:Value)(g:Nat):Prop:=Cv S B iv g∧v.ownBlock≠some g
theorem Bs.kept(r:Rel H nx iv B w O w')(hS:∀g,S g->g<B)(hg:w'.grownBy w2 row)(OR:∀g,row=some g->v.ownBlock=some g):∀g,Bs S B iv v g->w2.heap[g]? =w.heap[g]? :=fun g h=>by
 rw[hg.block g (Rel.old r hS g h.1) fun e=>h.2 (OR g e.symm),Rel.same r hS h.1]
theorem Bs.same(r:Rel H nx iv B w O w')(hS:∀g,S g->g<B):∀g,Bs S B iv v g->w'.heap[g]? =w.heap[g]? :=fun g h=>Rel.same r hS h.1
theorem Bs.of(r:Rel H nx iv B w O w')(hS:∀g,S g->g<B)(hm:∀p,p∈iv->p∈iv')(hn:eE w2 FF w'.heap.size [(w'.heap.size,w2.heap.size)] v n qs)(h:Cv S B iv g):Bs S B iv' v g:=
 ⟨h.mono hm,fun e=>by
  have h1:=Rel.old r hS g h;rcases hn.new g e with h2|⟨h2,_⟩
  ·exact h2
  ·omega⟩
theorem Bs.mono(hm:∀p,p∈iv->p∈iv')(h:Bs S B iv v g):Bs S B iv' v g:=⟨h.1.mono hm,h.2⟩
theorem dS.at{m c j p:Nat}(h:dS w S (.slice a m c) ps)(hj:ps[j]? =some p):∃ad,a=some ad∧S ad.block∧w.cell? (ad.add (j*1))=some (.int .i64 (p:Int)):=by
 obtain⟨h0,h1,h2,a',c',e,h3,h4⟩:=h;injection e with e1 e2 e3;subst e1;obtain⟨ad,k1,k2,k3⟩:=h4 j (.int .i64 (p:Int)) (by rw[aM,hj];rfl);exact⟨ad,k1,k2,by rw[aY];exact k3⟩
theorem dS.shape(h:dS w S v ps):∃a c,v= .slice a ps.length c∧ps.length<=c∧ps.length<=maxLen:=by
 obtain⟨h0,h1,h2,a,c,e,h3,h4⟩:=h;exact⟨a,c,e,h3,h0⟩
end
theorem zq{E:List (List Rat)}{at_:List (Option Nat)}{fr:List Nat}{n:Nat}(hE:gh n E)(Ou:∀(k r:Nat),at_[k]? =some (some r)->r<E.length):∀k,k<=at_.length->gh n (cZ (E,at_,fr) k).1∧∀p∈(cZ (E,at_,fr) k).2.1,p<k
 |0,_=>⟨(fun r hr=>by cases hr),fun p hp=>by cases hp⟩
 |k+1,hk=>by
  have ih:=zq (fr:=fr) hE Ou k (by omega);obtain⟨o,ho⟩:∃o,at_[k]? =some o:=⟨_,aB (by omega)⟩
  cases o with
  |none=>
   rw[mS (s:=(E,at_,fr)) ho];exact⟨ih.1,fun p hp=>Nat.lt_succ_of_lt (ih.2 p hp)⟩
  |some r=>
   rw[mT (s:=(E,at_,fr)) ho];refine⟨fun x hx=>?_,fun p hp=>?_⟩
   ·rcases List.mem_append.1 hx with hx|hx
    ·exact ih.1 x hx
    ·rw[bF.1 hx];have:=Ou k r ho;dsimp only
     rw[List.getD,aB this];exact hE _ (aX this)
   ·rcases List.mem_append.1 hp with hp|hp
    ·exact Nat.lt_succ_of_lt (ih.2 p hp)
    ·rw[bF.1 hp];exact bV _
theorem rY{n:Nat}(cols:Nat)(hM:gh n M):(dh M cols).1.length=(dh M cols).2.1.length∧(dh M cols).2.2.length=(dh M cols).2.1.length∧gh n (dh M cols).1∧(∀p∈(dh M cols).2.1,p<cols)∧(dh M cols).2.1.length<=cols:=by
 have OV:=ya cols hM M.length (Nat.le_refl _);unfold dh;generalize gq M cols M.length=s at*
 obtain⟨E,at_,fr⟩:=s;have Q4:at_.length=cols:=OV.at_;obtain⟨q1,q2,-,q4⟩:=uM (E,at_,fr) [] cols (by show cols<=at_.length;omega);obtain⟨f1,f2⟩:=zq (E:=E) (at_:=at_) (fr:=fr) OV.len OV.lt cols (by omega);exact⟨q1,q2,f1,f2,q4⟩
theorem kk(M:List (List Rat))(b:List Rat):(kG M b).length=M.length:=List.length_mapIdx
theorem Ih{n:Nat}(h:gh n M):gh (n+1) (kG M b):=fun r hr=>by
 obtain⟨i,hi⟩:=aQ hr;rw[kG,List.getElem?_mapIdx]at hi
 cases hM:M[i]? with
 |none=>rw[hM]at hi;cases hi
 |some x=>
  rw[hM]at hi;simp only[bY,Option.some.injEq]at hi;rw[<-hi,List.length_append,h x (aE hM)];rfl
theorem GQ{H:Hp}{nx:Nat}{w':World}(r:Rel H nx iv B w O w')(h:cV H id=some (.vec T.Rat 4 ([]++css.flatten++cs)))(hF:Fc w' S css x)(hq:jA w' S cs q)(hm:x.length<maxLen):
  (O id).nil=false∧cS w' (Cv S B (((O id).g,(O id).g+1)::iv)) (.slice (some ⟨(O id).g,0,none⟩) (x.length+1) (O id).cap) (x++[q]):=by
 have Ot:=eo hF.nH;have hl:([]++css.flatten++cs).length=(x.length+1)*4:=by rw[List.nil_append,List.length_append,Ot,hF.1,hq.len];omega
 have Rz:=hF.push hq;have he:[]++css.flatten++cs=(css++[cs]).flatten:=by simp
 have hv:=MR r (sz:=4) (m:=x.length+1) h hl (by omega) (by decide) (by omega) (fun u hu=>Rz.one u (by rw[<-he];exact hu));refine⟨hv.1,css++[cs],?_,Rz.1,Rz.nH,fun j c y k1 k2=>(Rz.2 j c y k1 k2).cF fun g hg=>.inl hg⟩;rw[List.length_append,List.length_singleton,<-he];exact hv.2.2.cF fun g hg=>.inr ⟨by have:=hv.2.1;omega,_,_,aG,by omega,by omega⟩
set_option maxHeartbeats 2000000 in
theorem B8{D:Nat->Prop}{u:Value}{cols:Nat}(hC:Old C w)(hD:Old D w)(hS:Old S w)(hM:oQ w C S v M)(hb:gB w D S u b)(QL:b.length=M.length)(hlen:gh cols M)(hn:cols<=999)(hR:M.length<=1000)(hB:Ef (kG M b) (cols+1) h)(hh:3*h<=90000):
  dx PG N.jD #[.agg #[v,.int .i64 cols],u] w (eH w fun v' w2=>(nm M b cols=none∧v'= .tuple #[.slice none 0 0,.bool false])∨∃x vx,nm M b cols=some x∧v'= .tuple #[vx,.bool true]∧eE w2 S w.heap.size [(w.heap.size,w2.heap.size)] vx cols x):=by
 have hw:=bR w;obtain⟨am,cm,rfl,S1,Rc⟩:=oQ.shape hM;obtain⟨ab,cb,rfl,PB,RN⟩:=gB.shape hb;unfold maxLen at Rc RN;refine oF (by simp) ?_
 refine⟨((cols+1:Nat):Int),wo,Nat×List Value×World×Iv,fun z=>⟨[(20,iN z.1),(1,sV ab b.length cb),(2,pP 0 0),(6,pP 1 0),(18,sV am M.length cm),(19,iZ M.length)],[(1,.box T.di [.w 2 z.2.1.length,.v (.int .i64 ((cols+1:Nat):Int))]),(2,.vec T.jC 1 z.2.1),(0,.box T.di [.v (.slice am M.length cm),.v (.int .i64 cols)])],3,z.2.2.2,z.2.2.1⟩,fun z=>M.length-z.1,
  fun z=>z.1<=M.length∧dT w.heap.size w z.2.2.1∧du z.2.2.1 (Cv S w.heap.size z.2.2.2) z.2.1 ((kG M b).take z.1),?_,?_⟩
 ·intro O w' r
  exact⟨(0,[],w',[]),⟨aS _,hw.tr r.cL,by simp[du]⟩,Sub.Ee 1 0 T.jC 1 rfl rfl (by simp[l6,SV.sc,At.sc,iW]) r fun ρ1 r1=>
   Sub.gn [] r1⟩
 rintro⟨i,rv,w1,iv⟩ ⟨hi,hw,hK⟩;dsimp only at hi hw hK ⊢;have Pk:rv.length=i:=by rw[hK.1,aZ,kk];omega
 refine dB.mk ?_ ?_<;>intro OQ
 ·have OQ:i<M.length:=by simpa using OQ
  obtain⟨x,hx⟩:∃r,M[i]? =some r:=⟨_,aB OQ⟩
  have QC:=hlen x (aE hx);obtain⟨q,hq⟩:∃r,b[i]? =some r:=⟨_,aB (by omega)⟩
  have Qt:b.getD i 0=q:=by rw[List.getD,hq];rfl
  have Oh:(kG M b).take (i+1)=(kG M b).take i++[x++[q]]:=by
   rw[List.take_add_one,show(kG M b)[i]? =some (x++[q]) by rw[kG,List.getElem?_mapIdx,hx,<-Qt];rfl];rfl
  obtain⟨adm,um,Un,Qc,km1,km2⟩:=oQ.load hM hx;obtain⟨css,⟨-,g1,g2,a0,c0,rfl,g4,g5⟩,PY,Tk,Ok⟩:=Qc;have Ot:=eo Tk;obtain⟨adq,cs,haq,hF,hl⟩:=gB.load hb hq;obtain⟨b3,a3,n3,c3,b4,a4,n4,c4,rfl,hF⟩:=hF;refine⟨adm,Un,by omega,.slice a0 x.length c0,rd1 km2 hw (hC _ km1),?_⟩;refine j1 hτ dN (.x 0 (.x 3 (.x 5 (.x 6 (.x 7 (.ld 1 28672 (.ld 8 32256 (.two 2 (.two 4 (.x 9 (.x 10 (.rK 6 (.x 11 (.x 12 (.x 13 (.x 14 .nil))))))) 9 (.x 4 (.x 10 (.rK 6 (.x 11 (.x 12 (.x 13 (.x 14 .nil)))))))) 9 (.x 2 (.x 4 (.x 10 (.rK 6 (.x 11 (.x 12 (.x 13 (.x 14 .nil)))))))))))))))) (by kernel_rfl) (by kernel_rfl) ?_;refine⟨adq,haq,by omega,[.bool b3,.slice a3 n3 c3,.bool b4,.slice a4 n4 c4],rfl,rdO hl hw hD,?_,?_⟩
  ·refine⟨[.bool b3,.slice a3 n3 c3,.bool b4,.slice a4 n4 c4],rfl,rdO hl hw hD,rfl,rfl,?_,?_⟩
   ·refine .inl ?_;refine⟨css.flatten,g1,g2,fun O w' r PF=>?_,?_⟩
    ·obtain⟨u0,hu0⟩:∃u,css.flatten[0]? =some u:=⟨_,aB (by omega)⟩
     obtain⟨ad,ha,_,_⟩:=g5 0 u0 hu0;refine⟨ad,ha,fun j u hj=>?_⟩;obtain⟨ad2,Qs,q1,q2⟩:=g5 j u hj;rw[ha]at Qs;injection Qs with Qs;subst Qs;rw[cJ (w:=w) (w2:=w') (by rw[c9];exact(hw.tr r.cL).block _ (hS _ q1))];exact q2
    refine⟨rfl,by omega,by unfold maxLen;omega,?_⟩;rw[aV x.length];refine⟨[.bool b3,.slice a3 n3 c3,.bool b4,.slice a4 n4 c4],rfl,rdO hl hw hD,rfl,rfl,rfl,?_⟩;refine .inl ?_;refine⟨by rw[<-g1];rfl,by omega,by unfold maxLen;omega,rfl,[(1,.box T.di [.w 2 rv.length,.v (.int .i64 ((cols+1:Nat):Int))]),(2,.vec T.jC 1 rv),(0,.box T.di [.v (.slice am M.length cm),.v (.int .i64 cols)])],_,rfl,by simp,⟨rfl,rfl,rfl,trivial⟩,rfl,fun O w' r=>?_⟩;have hv:=GQ (S:=S) (x:=x) (q:=q) (css:=css) r (id:=6) rfl ⟨PY,fun j cs q k1 k2=>(Ok j cs q k1 k2).cC fun g hg=>(hw.tr r.cL).block g (hS g hg)⟩ (hF.cC (kS hw r hS)).uK (by unfold maxLen;omega);refine⟨hv.1,_,uI (tl:=[(25,pP 1 0),(26,.o (.w 2 rv.length)),(20,iN i),(1,sV ab b.length cb),(2,pP 0 0),(6,pP 1 0),(18,sV am M.length cm),(19,iZ M.length)]) hv.1 (t:=35) (n:=x.length+1) rfl ⟨rfl,rfl,rfl,rfl,rfl,rfl,rfl,rfl,trivial⟩ (by simp[l6,SV.sc,At.sc]),?_⟩;replace hK:=(du.cF (hK.rel r hS) (fun g hg=>hg.mono fun p hp=>aC _ hp)).push rfl hv.2;rw[<-Oh]at hK;replace hw:=hw.tr r.cL;generalize (O 6).g=gx at*
    generalize (O 6).cap=cx at*
    generalize (gx,gx+1)::iv=OU at*
    refine⟨rfl,?_⟩;refine .inl ?_;refine⟨by simp,by omega,by unfold maxLen;omega,((i+1:Nat):Int),wo,?_⟩;intro ρ3 w3 r3;exact⟨(i+1,rv++[.slice (some ⟨gx,0,none⟩) (x.length+1) cx],w3,_),⟨OQ,hw.tr r3.cL,hK.rel r3 hS⟩,Sub.gn [(2,8)] r3 ⟨by dsimp only;rw[List.length_append,List.length_singleton];rfl,rfl,rfl,trivial⟩,by dsimp only;omega⟩
   ·refine⟨rfl,?_⟩;refine .inl ?_;refine⟨css.flatten,g1,g2,fun O w' r PF=>?_,?_⟩
    ·obtain⟨u0,hu0⟩:∃u,css.flatten[0]? =some u:=⟨_,aB (by omega)⟩
     obtain⟨ad,ha,_,_⟩:=g5 0 u0 hu0;refine⟨ad,ha,fun j u hj=>?_⟩;obtain⟨ad2,Qs,q1,q2⟩:=g5 j u hj;rw[ha]at Qs;injection Qs with Qs;subst Qs;rw[cJ (w:=w) (w2:=w') (by rw[c9];exact(hw.tr r.cL).block _ (hS _ q1))];exact q2
    refine⟨rfl,by omega,by unfold maxLen;omega,?_⟩;rw[aV x.length];refine⟨rfl,?_⟩;refine .inl ?_;refine⟨by rw[<-g1];rfl,by omega,by unfold maxLen;omega,rfl,[(1,.box T.di [.w 2 rv.length,.v (.int .i64 ((cols+1:Nat):Int))]),(2,.vec T.jC 1 rv),(0,.box T.di [.v (.slice am M.length cm),.v (.int .i64 cols)])],_,rfl,by simp,⟨rfl,rfl,rfl,trivial⟩,rfl,fun O w' r=>?_⟩;have hv:=GQ (S:=S) (x:=x) (q:=q) (css:=css) r (id:=6) rfl ⟨PY,fun j cs q k1 k2=>(Ok j cs q k1 k2).cC fun g hg=>(hw.tr r.cL).block g (hS g hg)⟩ (hF.cC (kS hw r hS)).uK (by unfold maxLen;omega);refine⟨hv.1,_,uI (tl:=[(25,pP 1 0),(26,.o (.w 2 rv.length)),(20,iN i),(1,sV ab b.length cb),(2,pP 0 0),(6,pP 1 0),(18,sV am M.length cm),(19,iZ M.length)]) hv.1 (t:=35) (n:=x.length+1) rfl ⟨rfl,rfl,rfl,rfl,rfl,rfl,rfl,rfl,trivial⟩ (by simp[l6,SV.sc,At.sc]),?_⟩;replace hK:=(du.cF (hK.rel r hS) (fun g hg=>hg.mono fun p hp=>aC _ hp)).push rfl hv.2;rw[<-Oh]at hK;replace hw:=hw.tr r.cL;generalize (O 6).g=gx at*
    generalize (O 6).cap=cx at*
    generalize (gx,gx+1)::iv=OU at*
    refine⟨rfl,?_⟩;refine .inl ?_;refine⟨by simp,by omega,by unfold maxLen;omega,((i+1:Nat):Int),wo,?_⟩;intro ρ3 w3 r3;exact⟨(i+1,rv++[.slice (some ⟨gx,0,none⟩) (x.length+1) cx],w3,_),⟨OQ,hw.tr r3.cL,hK.rel r3 hS⟩,Sub.gn [(2,8)] r3 ⟨by dsimp only;rw[List.length_append,List.length_singleton];rfl,rfl,rfl,trivial⟩,by dsimp only;omega⟩
  ·refine⟨rfl,rfl,?_⟩;refine .inl ?_;refine⟨css.flatten,g1,g2,fun O w' r PF=>?_,?_⟩
   ·obtain⟨u0,hu0⟩:∃u,css.flatten[0]? =some u:=⟨_,aB (by omega)⟩
    obtain⟨ad,ha,_,_⟩:=g5 0 u0 hu0;refine⟨ad,ha,fun j u hj=>?_⟩;obtain⟨ad2,Qs,q1,q2⟩:=g5 j u hj;rw[ha]at Qs;injection Qs with Qs;subst Qs;rw[cJ (w:=w) (w2:=w') (by rw[c9];exact(hw.tr r.cL).block _ (hS _ q1))];exact q2
   refine⟨rfl,by omega,by unfold maxLen;omega,?_⟩;rw[aV x.length];refine⟨rfl,?_⟩;refine .inl ?_;refine⟨by rw[<-g1];rfl,by omega,by unfold maxLen;omega,rfl,[(1,.box T.di [.w 2 rv.length,.v (.int .i64 ((cols+1:Nat):Int))]),(2,.vec T.jC 1 rv),(0,.box T.di [.v (.slice am M.length cm),.v (.int .i64 cols)])],_,rfl,by simp,⟨rfl,rfl,rfl,trivial⟩,rfl,fun O w' r=>?_⟩;have hv:=GQ (S:=S) (x:=x) (q:=q) (css:=css) r (id:=6) rfl ⟨PY,fun j cs q k1 k2=>(Ok j cs q k1 k2).cC fun g hg=>(hw.tr r.cL).block g (hS g hg)⟩ (hF.cC (kS hw r hS)).uK (by unfold maxLen;omega);refine⟨hv.1,_,uI (tl:=[(25,pP 1 0),(26,.o (.w 2 rv.length)),(20,iN i),(1,sV ab b.length cb),(2,pP 0 0),(6,pP 1 0),(18,sV am M.length cm),(19,iZ M.length)]) hv.1 (t:=35) (n:=x.length+1) rfl ⟨rfl,rfl,rfl,rfl,rfl,rfl,rfl,rfl,trivial⟩ (by simp[l6,SV.sc,At.sc]),?_⟩;replace hK:=(du.cF (hK.rel r hS) (fun g hg=>hg.mono fun p hp=>aC _ hp)).push rfl hv.2;rw[<-Oh]at hK;replace hw:=hw.tr r.cL;generalize (O 6).g=gx at*
   generalize (O 6).cap=cx at*
   generalize (gx,gx+1)::iv=OU at*
   refine⟨rfl,?_⟩;refine .inl ?_;refine⟨by simp,by omega,by unfold maxLen;omega,((i+1:Nat):Int),wo,?_⟩;intro ρ3 w3 r3;exact⟨(i+1,rv++[.slice (some ⟨gx,0,none⟩) (x.length+1) cx],w3,_),⟨OQ,hw.tr r3.cL,hK.rel r3 hS⟩,Sub.gn [(2,8)] r3 ⟨by dsimp only;rw[List.length_append,List.length_singleton];rfl,rfl,rfl,trivial⟩,by dsimp only;omega⟩
 have OQ:i=M.length:=aU hi (by simpa using OQ);rw[List.take_of_length_le (by rw[kk];omega)]at hK;have WN:=Ih (b:=b) hlen;obtain⟨f1,f2,f3,f4,f5⟩:=rY (cols+1) WN;generalize hA:(dh (kG M b) (cols+1)).1=A at*
 generalize hP:(dh (kG M b) (cols+1)).2.1=pv at*
 refine⟨((cols+1:Nat):Int),wo,?_⟩
 refine cB (cI (Φ:=fun _ w' v w2=>∃vr vp vf,v= .agg #[vr,.int .i64 ((cols+1:Nat):Int),vp,vf]∧cT w2 (Nw (Cv S w.heap.size iv) w' w2) vr A∧dS w2 (Nf w' w2) vp pv∧dS w2 (Nf w' w2) vf (dh (kG M b) (cols+1)).2.2) (fun O w' r=>by
  rw[<-hA,<-hP]
  exact B7 (C:=fun g=>g<w'.heap.size) (fun g hg=>hg) (Rel.old r hS) ⟨rv,by rw[kk,<-OQ,<-Pk];exact(r.kR (id:=2) (sz:=1) (m:=rv.length) rfl (by simp) (by unfold maxLen;omega) (by decide) hK.2.1).cF fun g hg=>hg.2,hK.1,fun i u x h1 h2=>cS.rel (hK.2.2 i u x h1 h2) r hS⟩ WN (by omega) (by omega) (by rw[kk];omega) (Nat.le_refl _) hB hh) ?_)
 rintro O PV v1 PL r he Oa ⟨vr,vp,vf,rfl,k1,k2,k3⟩;replace hw:=hw.tr Oa;have hR:=cT.old k1 r.bz;have hV:=dS.dD (S:=FF) k2 r.bz (iv:=(PV.heap.size,PL.heap.size)::iv) aG;have hX:=dS.dD (S:=FF) k3 r.bz (iv:=(PV.heap.size,PL.heap.size)::iv) aG;generalize (PV.heap.size,PL.heap.size)::iv=OZ at*
 obtain⟨ar,cr,rfl,Sq,hmr⟩:=dG.shape hR;obtain⟨ap,cp,rfl,hcp,hmp⟩:=dS.shape hV;obtain⟨af,cf,rfl,-,-⟩:=dS.shape hX;refine cB (cI (Φ:=fun _ w' v w2=>eE w2 FF w'.heap.size [(w'.heap.size,w2.heap.size)] v cols (List.replicate cols 0)) (fun O w' r=>zm cols w' (by omega)) ?_);rintro O QK v2 PR r he Oa hn;replace hw:=hw.tr Oa;replace hR:=cT.cF (S':=Bs S w.heap.size ((QK.heap.size,PR.heap.size)::OZ) v2) (cT.cC (cT.rel hR r hS) fun g hg=>he.block g (Rel.old r hS g hg)) fun g hg=>Bs.of r hS (fun x hx=>aC _ hx) hn hg;replace hV:=dS.cF (S':=Bs FF w.heap.size ((QK.heap.size,PR.heap.size)::OZ) v2) (dS.cC (dS.rel hV r (bw w)) fun g hg=>he.block g (Rel.old r (bw w) g hg)) fun g hg=>Bs.of r (bw w) (fun x hx=>aC _ hx) hn hg;have hX:=hn.dD (S:=S) r.bz (iv:=(QK.heap.size,PR.heap.size)::OZ) aG;generalize (QK.heap.size,PR.heap.size)::OZ=OU at*
 obtain⟨ax,cx,rfl,Tz⟩:=hX.row.form;have hXl:=hX.row.le;unfold maxLen at hXl
 refine⟨Nat×World×Iv,fun z=>⟨[(51,iN z.1),(2,pP 0 0),(9,pP 3 0),(10,sV ax cols cx),(49,sV ap pv.length cp),(50,iZ pv.length)],[(3,.box T.dE [.v (.slice ar A.length cr),.v (.int .i64 ((cols+1:Nat):Int)),.v (.slice ap pv.length cp),.v (.slice af (dh (kG M b) (cols+1)).2.2.length cf)]),(0,.box T.di [.v (.slice am M.length cm),.v (.int .i64 cols)])],4,z.2.2,z.2.1⟩,fun z=>pv.length-z.1,
  fun z=>z.1<=pv.length∧(∀(t p:Nat),t<z.1->pv[t]? =some p->p≠cols)∧dT w.heap.size w z.2.1∧cT z.2.1 (Bs S w.heap.size z.2.2 (.slice ax cols cx)) (.slice ar A.length cr) A∧dS z.2.1 (Bs FF w.heap.size z.2.2 (.slice ax cols cx)) (.slice ap pv.length cp) pv∧eE z.2.1 S w.heap.size z.2.2 (.slice ax cols cx) cols (gW A pv cols z.1),?_,?_⟩
 ·intro O w' r;exact⟨(0,w',_),⟨aS _,fun t p ht=>absurd ht (Nat.not_lt_zero t),hw.tr r.cL,cT.cC hR (Bs.same r hS),dS.cC hV (Bs.same r (bw w)),hX.rel r hS⟩,Sub.gn [] r⟩
 rintro⟨k,w3,iv⟩ ⟨hk,TY,hw,hR,hV,hX⟩;dsimp only at hk TY hw hR hV hX ⊢;refine dB.mk ?_ ?_<;>intro OT
 ·have OT:k<pv.length:=by simpa using OT
  obtain⟨p,hp⟩:∃p,pv[k]? =some p:=⟨_,aB OT⟩
  have Qe:=f4 p (aE hp);obtain⟨adp,Qx,kp1,kp2⟩:=hV.at hp;refine⟨adp,Qx,by omega,.int .i64 (p:Int),fun O w' r=>?_,?_⟩
  ·rw[aF,cJ (w:=w3) (w2:=w') (by rw[c9];exact Rel.same r (bw w) kp1.1)];exact kp2
  refine dB.mk ?_ ?_<;>intro he
  ·have he:p=cols:=by
    have:(p:Int)=cols:=by simpa using he
    omega
   intro ρe we re;refine⟨_,rfl,hw.tr re.cL,.inl ⟨?_,rfl⟩⟩;unfold nm;simp only[hP]
   rw[if_pos (by rw[<-he];exact aE hp)]
  have he:p≠cols:=fun e=>by rw[e]at he;simp at he
  obtain⟨x,hx⟩:∃x,A[k]? =some x:=⟨_,aB (by omega)⟩
  have QC:=f3 x (aE hx);obtain⟨q,hq⟩:∃q,x[cols]? =some q:=⟨_,aB (by omega)⟩
  have Q4:cW A k cols=q:=by simp[cW,List.getD,hx,hq]
  obtain⟨adm,um,Un,Qc,km1,km2⟩:=dG.load hR hx;obtain⟨a0,c0,rfl,hc0,-⟩:=eD.shape Qc;obtain⟨adq,cs,haq,hF,_,hl⟩:=eD.load Qc hq;obtain⟨g0,g1,g2,g3,g4,g5,g6,g7,rfl,hF⟩:=hF;refine cH hτ dN [.x 0,.x 1,.x 2,.x 3,.x 4,.x 5,.x 6,.x 7,.x 8,.x 9,.x 10,.x 11,.x 12,.x 13] (by kernel_rfl) (by kernel_rfl) ?_;refine⟨adm,Un,by omega,.slice a0 x.length c0,fun O w' r=>?_,?_⟩
  ·rw[aF,cJ (w:=w3) (w2:=w') (by rw[c9];exact Rel.same r hS km1.1)];exact km2
  refine⟨adq,haq,by omega,[.bool g0,.slice g1 g2 g3,.bool g4,.slice g5 g6 g7],rfl,fun O w' r j u hu=>?_,?_⟩
  ·obtain⟨k1,k2⟩:=hl j u hu;rw[aF,cJ (w:=w3) (w2:=w') (by rw[c9,c9];exact Rel.same r hS k1.1)];exact k2
  obtain⟨gx,WW⟩:∃g,ax=some ⟨g,0,none⟩:=by
   obtain⟨css,h1,h2,h3⟩:=hX.row;rcases h1.2 with⟨_,h0⟩|⟨g,cap,cur,e,_⟩
   ·omega
   ·injection e with e;exact⟨g,e⟩
  subst WW;refine⟨⟨gx,0,none⟩,rfl,by omega,?_⟩;intro O w' r;obtain⟨g,hg,h1,h2,h3,h4,h5⟩:=(hX.rel r hS).store (j:=p) (by omega) (hF.cC (Bs.same r hS)) r hS;injection hg with hg;injection hg with hg;subst hg;refine⟨h1,h2,h3,fun w5 Rp=>?_⟩;obtain⟨k1,k2,k3⟩:=h5 w5 Rp;have PO:dT w.heap.size w w5:=(hw.tr r.cL).tr (dT.grown k2 (fun g e=>by injection e with e;subst e;exact h4.elim (fun h=>h.elim) fun h=>h.1) r.bz);have RJ:=cT.cC hR (Bs.kept r hS k2 fun g e=>e);have hV2:=dS.cC hV (Bs.kept r (bw w) k2 fun g e=>e);have Oh:(gW A pv cols k).set p q=gW A pv cols (k+1):=by rw[gp,Q4,List.getD,hp];rfl
  rw[Oh]at k1;refine⟨((k+1:Nat):Int),wo,?_⟩;intro ρ3 w6 r3
  exact⟨(k+1,w6,_),⟨OT,fun t p2 ht QR=>by
   by_cases VX:t=k
   ·rw[VX,hp]at QR;injection QR with QR;rw[<-QR];exact he
   ·exact TY t p2 (by dsimp only at ht;omega) QR,PO.tr r3.cL,cT.cC RJ (Bs.same r3 hS),dS.cC hV2 (Bs.same r3 (bw w)),k1.rel r3 hS⟩,Sub.gn [] r3,by dsimp only;omega⟩
 have OT:k=pv.length:=aU hk (by simpa using OT);subst OT;intro ρe we re;refine⟨_,rfl,hw.tr re.cL,.inr ⟨_,_,?_,rfl,hX.aAW re hS⟩⟩;unfold nm;simp only[hA,hP]
 rw[aI];intro hm;obtain⟨t,ht⟩:=aQ hm;exact TY t cols (aD.1 ht).1 ht rfl
theorem Kn{u:Value}{cols:Nat}(hC:Old C w)(hS:Old S w)(hM:oQ w C S v M)(hb:cS w S u b)(QL:b.length=M.length)(hlen:gh cols M)(hn:cols<=999)(hR:M.length<=1000)(hB:Ef (kG M b) (cols+1) h)(hh:3*h<=90000):
  dx PG N.jD #[.agg #[v,.int .i64 cols],u] w (eH w fun v' w2=>(nm M b cols=none∧v'= .tuple #[.slice none 0 0,.bool false])∨∃x vx,nm M b cols=some x∧v'= .tuple #[vx,.bool true]∧eE w2 S w.heap.size [(w.heap.size,w2.heap.size)] vx cols x):=
 B8 hC hS hS hM (cS.rc hb) QL hlen hn hR hB hh
def s7(pv:List Nat)(n i:Nat):List Value:=(List.range n).map fun c=>.bool (decide (c∈pv.take i))
theorem Ii(pv:List Nat)(n:Nat):s7 pv n 0=List.replicate n (.bool false):=by
 refine bG fun j=>?_;rw[s7,aM,List.getElem?_replicate];by_cases h:j<n
 ·rw[bZ h,if_pos h];rfl
 ·rw[List.getElem?_eq_none (by simp;omega),aI h];rfl
theorem Co{n i c:Nat}(h:c<n):(s7 pv n i)[c]? =some (.bool (decide (c∈pv.take i))):=by
 rw[s7,aM,bZ h];rfl
theorem Ij{n i p:Nat}(hp:pv[i]? =some p):(s7 pv n i).set p (.bool true)=s7 pv n (i+1):=by
 refine bG fun j=>?_;by_cases hj:j<n
 ·rw[Co hj,List.take_add_one,hp];by_cases hpj:p=j
  ·subst hpj;rw[aO (by simp[s7];exact hj)];simp
  ·rw[aT hpj,Co hj];have:j≠p:=fun e=>hpj e.symm;simp[this]
 ·rw[List.getElem?_eq_none (by simp[s7];omega),List.getElem?_eq_none (by simp[s7];omega)]
theorem eE.at{n:Nat}{cx:Nat}(h:eE w S B iv (.slice ax n cx) n qs)(h0:0<n):∃g,ax=some ⟨g,0,none⟩:=by
 obtain⟨css,h1,h2,h3⟩:=h.row;rcases h1.2 with⟨_,h0⟩|⟨g,cap,cur,e,_⟩
 ·omega
 ·injection e with e;exact⟨g,e⟩
set_option maxHeartbeats 2000000 in
theorem Ik{n:Nat}(hC:Old C w)(hS:Old S w)(hM:oQ w C S v M)(hlen:gh n M)(hn0:0<n)(hn:n<=1000)(hR:M.length<=1000)(hB:Ef M n h)(hAb:Ht (dh M n).1 h)(hh:3*h<=90000):
  dx PG N.gJ #[.agg #[v,.int .i64 n]] w (eH w fun v' w2=>cT w2 (Nf w w2) v' (kc M n)):=by
 have hw:=bR w;obtain⟨am,cm,rfl,S1,Rc⟩:=oQ.shape hM;unfold maxLen at Rc;obtain⟨f1,f2,f3,f4,f5⟩:=rY n hlen;refine jZ (by simp) ?_;unfold kc;generalize hA:(dh M n).1=A at*
 generalize hP:(dh M n).2.1=pv at*
 refine cB (cI (Φ:=fun _ w' v w2=>∃vr vp vf,v= .agg #[vr,.int .i64 n,vp,vf]∧cT w2 (Nw S w' w2) vr A∧dS w2 (Nf w' w2) vp pv∧dS w2 (Nf w' w2) vf (dh M n).2.2) (fun O w' r=>by
  rw[<-hA,<-hP];obtain⟨rv,m1,m2,m3⟩:=hM
  exact B7 (C:=C) (S:=S) (oS hC r) (oS hS r) ⟨rv,m1.cC fun g hg=>(hw.tr r.cL).block g (hC g hg),m2,fun i u x h1 h2=>cS.cC (m3 i u x h1 h2) fun g hg=>(hw.tr r.cL).block g (hS g hg)⟩ hlen hn0 hn hR (Nat.le_refl _) hB hh) ?_)
 rintro O PV v1 PL r he Oa ⟨vr,vp,vf,rfl,k1,k2,k3⟩;replace hw:=hw.tr Oa;have hR:=cT.old (cT.cF k1 fun g hg=>hg.imp (fun h=>(Or.inl h:Cv S w.heap.size [] g)) id) r.bz;have hV:=dS.dD (S:=FF) k2 r.bz (iv:=(PV.heap.size,PL.heap.size)::[]) aG;have hX:=dS.dD (S:=FF) k3 r.bz (iv:=(PV.heap.size,PL.heap.size)::[]) aG;generalize (PV.heap.size,PL.heap.size)::[]=OZ at*
 obtain⟨ar,cr,rfl,Sq,hmr⟩:=dG.shape hR;obtain⟨ap,cp,rfl,hcp,hmp⟩:=dS.shape hV;obtain⟨af,cf,rfl,-,-⟩:=dS.shape hX
 refine⟨n,n,rfl,rfl,Nat.le_refl _,by omega,by omega,Nat×World×Iv,fun z=>⟨[(1,pP 0 0),(3,pP 1 0),(4,.o (.s 2 0 n n)),(20,sV ap pv.length cp),(21,iZ pv.length),(22,iN z.1)],[(2,.arr T.bool (s7 pv n z.1)),(1,.box T.dE [.v (.slice ar A.length cr),.v (.int .i64 n),.v (.slice ap pv.length cp),.v (.slice af (dh M n).2.2.length cf)]),(0,.box T.di [.v (.slice am M.length cm),.v (.int .i64 n)])],3,z.2.2,z.2.1⟩,fun z=>pv.length-z.1,
  fun z=>z.1<=pv.length∧dT w.heap.size w z.2.1∧cT z.2.1 (Cv S w.heap.size z.2.2) (.slice ar A.length cr) A∧dS z.2.1 (Cf w z.2.2) (.slice ap pv.length cp) pv,?_,?_⟩
 ·intro O w' r3;exact⟨(0,w',_),⟨aS _,hw.tr r3.cL,cT.rel hR r3 hS,dS.rel hV r3 (bw w)⟩,Sub.gn [] r3 ⟨by dsimp only;rw[Ii];rfl,rfl,rfl,trivial⟩⟩
 rintro⟨i,w1,iv⟩ ⟨hi,hw,hR,hV⟩;dsimp only at hi hw hR hV ⊢;refine dB.mk ?_ ?_<;>intro OQ
 ·have OQ:i<pv.length:=by simpa using OQ
  obtain⟨p,hp⟩:∃p,pv[i]? =some p:=⟨_,aB OQ⟩
  have Qe:=f4 p (aE hp);obtain⟨adp,Qx,kp1,kp2⟩:=hV.at hp;refine⟨adp,Qx,by omega,.int .i64 (p:Int),fun O w' r=>?_,?_⟩
  ·rw[aF,cJ (w:=w1) (w2:=w') (by rw[c9];exact Rel.same r (bw w) kp1)];exact kp2
  refine⟨by omega,by simp[s7];omega,s7 pv n (i+1),?_,?_⟩
  ·rw[aF,aY,aV,<-Ij hp];exact ju (by simp[s7];omega)
  refine⟨((i+1:Nat):Int),wo,?_⟩;intro ρ3 w3 r3;exact⟨(i+1,w3,_),⟨OQ,hw.tr r3.cL,cT.rel hR r3 hS,dS.rel hV r3 (bw w)⟩,Sub.gn [] r3,by dsimp only;omega⟩
 have OQ:i=pv.length:=aU hi (by simpa using OQ);subst OQ
 refine⟨Nat×List Value×World×Iv,fun z=>⟨[(32,iN z.1),(7,.o (.w 3 z.2.1.length)),(1,pP 0 0),(3,pP 1 0),(4,.o (.s 2 0 n n)),(31,iZ n)],[(2,.arr T.bool (s7 pv n pv.length)),(3,.vec T.jC 1 z.2.1),(1,.box T.dE [.v (.slice ar A.length cr),.v (.int .i64 n),.v (.slice ap pv.length cp),.v (.slice af (dh M n).2.2.length cf)]),(0,.box T.di [.v (.slice am M.length cm),.v (.int .i64 n)])],4,z.2.2.2,z.2.2.1⟩,fun z=>n-z.1,
  fun z=>z.1<=n∧dT w.heap.size w z.2.2.1∧cT z.2.2.1 (Cv S w.heap.size z.2.2.2) (.slice ar A.length cr) A∧dS z.2.2.1 (Cf w z.2.2.2) (.slice ap pv.length cp) pv∧du z.2.2.1 (Cf w z.2.2.2) z.2.1 (eL A pv n z.1),?_,?_⟩
 ·intro O w' r;exact⟨(0,[],w',_),⟨aS _,hw.tr r.cL,cT.rel hR r hS,dS.rel hV r (bw w),by simp[du,eL]⟩,Sub.nil 7 T.jC 1 rfl (by simp[l6,SV.sc,At.sc]) r fun ρ1 r1=>Sub.gn [] r1⟩
 rintro⟨c,rv,w1,iv⟩ ⟨hc,hw,hR,hV,hK⟩;dsimp only at hc hw hR hV hK ⊢;have Pk:rv.length=(eL A pv n c).length:=hK.1;have Tc:=Ei A pv n c;refine dB.mk ?_ ?_<;>intro PB
 ·have PB:c<n:=by simpa using PB
  refine⟨by omega,.bool (decide (c∈pv)),by rw[aF,aY,aV,Co PB,bH],?_⟩;refine dB.mk ?_ ?_<;>intro hm
  ·have hm:c∈pv:=by simpa using hm
   refine⟨((c+1:Nat):Int),wo,?_⟩;intro ρ3 w3 r3;exact⟨(c+1,rv,w3,_),⟨PB,hw.tr r3.cL,cT.rel hR r3 hS,dS.rel hV r3 (bw w),by dsimp only;rw[Ej hm];exact hK.rel r3 (bw w)⟩,Sub.gn [] r3,by dsimp only;omega⟩
  have hm:c∉pv:=by simpa using hm
  refine cB (cI (Φ:=fun _ w' v w2=>eE w2 FF w'.heap.size [(w'.heap.size,w2.heap.size)] v n (List.replicate n 0)) (fun O w' r=>zm n w' (by omega)) ?_);rintro O QK v2 PR r he Oa Qf;replace hw:=hw.tr Oa;replace hR:=cT.cF (S':=Bs S w.heap.size ((QK.heap.size,PR.heap.size)::iv) v2) (cT.cC (cT.rel hR r hS) fun g hg=>he.block g (Rel.old r hS g hg)) fun g hg=>Bs.of r hS (fun x hx=>aC _ hx) Qf hg;replace hV:=dS.cF (S':=Bs FF w.heap.size ((QK.heap.size,PR.heap.size)::iv) v2) (dS.cC (dS.rel hV r (bw w)) fun g hg=>he.block g (Rel.old r (bw w) g hg)) fun g hg=>Bs.of r (bw w) (fun x hx=>aC _ hx) Qf hg;replace hK:=du.cF (S':=Bs FF w.heap.size ((QK.heap.size,PR.heap.size)::iv) v2) (du.cC (du.rel hK r (bw w)) fun g hg=>he.block g (Rel.old r (bw w) g hg)) fun g hg=>Bs.of r (bw w) (fun x hx=>aC _ hx) Qf hg;have hX:=Qf.dD (S:=FF) r.bz (iv:=(QK.heap.size,PR.heap.size)::iv) aG;generalize (QK.heap.size,PR.heap.size)::iv=OU at*
  obtain⟨ax,cx,rfl,Tz⟩:=hX.row.form;obtain⟨gx,rfl⟩:=hX.at hn0;refine cB (cI (Φ:=fun _ w' v w2=>cN w2 (Nf w' w2) v ((1:Int):Rat)) (fun O w' r=>kL 1 w' (by decide) (by decide)) ?_);rintro O PX v3 PW r he Oa Qf;replace hw:=hw.tr Oa;replace hR:=cT.cF (S':=Bs S w.heap.size ((PX.heap.size,PW.heap.size)::OU) (.slice (some ⟨gx,0,none⟩) n cx)) (cT.cC (cT.cC hR (Bs.same r hS)) fun g hg=>he.block g (Rel.old r hS g hg.1)) fun g hg=>Bs.mono (fun x hx=>aC _ hx) hg;replace hV:=dS.cF (S':=Bs FF w.heap.size ((PX.heap.size,PW.heap.size)::OU) (.slice (some ⟨gx,0,none⟩) n cx)) (dS.cC (dS.cC hV (Bs.same r (bw w))) fun g hg=>he.block g (Rel.old r (bw w) g hg.1)) fun g hg=>Bs.mono (fun x hx=>aC _ hx) hg;replace hK:=du.cF (S':=Bs FF w.heap.size ((PX.heap.size,PW.heap.size)::OU) (.slice (some ⟨gx,0,none⟩) n cx)) (du.cC (du.cC hK (Bs.same r (bw w))) fun g hg=>he.block g (Rel.old r (bw w) g hg.1)) fun g hg=>Bs.mono (fun x hx=>aC _ hx) hg;have hd:=(Qf.cF (S':=Bs FF w.heap.size ((PX.heap.size,PW.heap.size)::OU) (.slice (some ⟨gx,0,none⟩) n cx)) fun g hg=>hg.elim (fun h=>h.elim) fun h=>⟨.inr ⟨by have:=r.bz;omega,_,_,aG,h.1,h.2⟩,fun e=>by have:=Rel.old r (bw w) g (hX.new g e);omega⟩)
  replace hX:=hX.cD (iv':=(PX.heap.size,PW.heap.size)::OU) r (bw w) he fun x hx=>aC _ hx;generalize (PX.heap.size,PW.heap.size)::OU=Oi at*
  obtain⟨A0,A1,A2,A3,A4,A5,A6,A7,rfl⟩:=hd.shape;refine⟨⟨gx,0,none⟩,rfl,by omega,?_⟩;intro O w' r;obtain⟨g,hg,h1,h2,h3,h4,h5⟩:=(hX.rel r (bw w)).store (j:=c) PB (hd.cC (Bs.same r (bw w))) r (bw w);injection hg with hg;injection hg with hg;subst hg;refine⟨h1,h2,h3,fun w5 Rp=>?_⟩;obtain⟨k1,k2,k3⟩:=h5 w5 Rp;have PO:dT w.heap.size w w5:=(hw.tr r.cL).tr (dT.grown k2 (fun g e=>by injection e with e;subst e;exact h4.elim (fun h=>h.elim) fun h=>h.1) r.bz);have RJ:=cT.cC hR (Bs.kept r hS k2 fun g e=>e);have hV2:=dS.cC hV (Bs.kept r (bw w) k2 fun g e=>e);have Rq:=du.cC hK (Bs.kept r (bw w) k2 fun g e=>e);have Oh:(List.replicate n (0:Rat)).set c ((1:Int):Rat)=fq A pv n c 0:=rfl;rw[Oh]at k1
  refine⟨Nat×World×Iv,fun z=>⟨[(49,iN z.1),(8,iN c),(9,.o (.v (.slice (some ⟨gx,0,none⟩) n cx))),(32,iN c),(47,sV ap pv.length cp),(48,iZ pv.length),(7,.o (.w 3 rv.length)),(1,pP 0 0),(3,pP 1 0),(4,.o (.s 2 0 n n)),(31,iZ n)],[(2,.arr T.bool (s7 pv n pv.length)),(3,.vec T.jC 1 rv),(1,.box T.dE [.v (.slice ar A.length cr),.v (.int .i64 n),.v (.slice ap pv.length cp),.v (.slice af (dh M n).2.2.length cf)]),(0,.box T.di [.v (.slice am M.length cm),.v (.int .i64 n)])],4,z.2.2,z.2.1⟩,fun z=>pv.length-z.1,
   fun z=>z.1<=pv.length∧dT w.heap.size w z.2.1∧cT z.2.1 (Bs S w.heap.size z.2.2 (.slice (some ⟨gx,0,none⟩) n cx)) (.slice ar A.length cr) A∧dS z.2.1 (Bs FF w.heap.size z.2.2 (.slice (some ⟨gx,0,none⟩) n cx)) (.slice ap pv.length cp) pv∧du z.2.1 (Bs FF w.heap.size z.2.2 (.slice (some ⟨gx,0,none⟩) n cx)) rv (eL A pv n c)∧eE z.2.1 FF w.heap.size z.2.2 (.slice (some ⟨gx,0,none⟩) n cx) n (fq A pv n c z.1),?_,?_⟩
  ·intro O w' r3;exact⟨(0,w',_),⟨aS _,PO.tr r3.cL,cT.cC RJ (Bs.same r3 hS),dS.cC hV2 (Bs.same r3 (bw w)),du.cC Rq (Bs.same r3 (bw w)),k1.rel r3 (bw w)⟩,Sub.gn [] r3⟩
  rintro⟨k,w3,iv⟩ ⟨hk,hw,hR,hV,hK,hX⟩;dsimp only at hk hw hR hV hK hX ⊢;refine dB.mk ?_ ?_<;>intro OT
  ·have OT:k<pv.length:=by simpa using OT
   obtain⟨p,hp⟩:∃p,pv[k]? =some p:=⟨_,aB OT⟩
   have Qe:=f4 p (aE hp);obtain⟨adp,Qx,kp1,kp2⟩:=hV.at hp;obtain⟨x,hx⟩:∃x,A[k]? =some x:=⟨_,aB (by omega)⟩
   have QC:=f3 x (aE hx);obtain⟨q,hq⟩:∃q,x[c]? =some q:=⟨_,aB (by omega)⟩
   have Q4:cW A k c=q:=by simp[cW,List.getD,hx,hq]
   have SA:=hAb x (aE hx) q (aE hq);obtain⟨adm,um,Un,Qc,km1,km2⟩:=dG.load hR hx;obtain⟨a0,c0,rfl,hc0,-⟩:=eD.shape Qc;obtain⟨adq,cs,haq,hF,_,hl⟩:=eD.load Qc hq;obtain⟨g0,g1,g2,g3,g4,g5,g6,g7,rfl,hF⟩:=hF;refine⟨adp,Qx,by omega,.int .i64 (p:Int),fun O w' r=>?_,?_⟩
   ·rw[aF,cJ (w:=w3) (w2:=w') (by rw[c9];exact Rel.same r (bw w) kp1.1)];exact kp2
   refine⟨adm,Un,by omega,.slice a0 x.length c0,fun O w' r=>?_,?_⟩
   ·rw[aF,cJ (w:=w3) (w2:=w') (by rw[c9];exact Rel.same r hS km1.1)];exact km2
   refine⟨adq,haq,by omega,[.bool g0,.slice g1 g2 g3,.bool g4,.slice g5 g6 g7],rfl,fun O w' r j u hu=>?_,?_⟩
   ·obtain⟨k1,k2⟩:=hl j u hu;rw[aF,cJ (w:=w3) (w2:=w') (by rw[c9,c9];exact Rel.same r hS k1.1)];exact k2
   refine cB (cI (Φ:=fun _ w' v w2=>cN w2 (Nf w' w2) v (-q)) (fun O w' r=>vU (S:=Bs S w.heap.size iv (.slice (some ⟨gx,0,none⟩) n cx)) (fun g hg=>Rel.old r hS g hg.1) ((hF.cC (Bs.same r hS)).l (by omega))) ?_);rintro O Qu v4 Q9 r he Oa Qf;replace hw:=hw.tr Oa;replace hR:=cT.cF (S':=Bs S w.heap.size ((Qu.heap.size,Q9.heap.size)::iv) (.slice (some ⟨gx,0,none⟩) n cx)) (cT.cC (cT.cC hR (Bs.same r hS)) fun g hg=>he.block g (Rel.old r hS g hg.1)) fun g hg=>Bs.mono (fun x hx=>aC _ hx) hg;replace hV:=dS.cF (S':=Bs FF w.heap.size ((Qu.heap.size,Q9.heap.size)::iv) (.slice (some ⟨gx,0,none⟩) n cx)) (dS.cC (dS.cC hV (Bs.same r (bw w))) fun g hg=>he.block g (Rel.old r (bw w) g hg.1)) fun g hg=>Bs.mono (fun x hx=>aC _ hx) hg;replace hK:=du.cF (S':=Bs FF w.heap.size ((Qu.heap.size,Q9.heap.size)::iv) (.slice (some ⟨gx,0,none⟩) n cx)) (du.cC (du.cC hK (Bs.same r (bw w))) fun g hg=>he.block g (Rel.old r (bw w) g hg.1)) fun g hg=>Bs.mono (fun x hx=>aC _ hx) hg;have hd:=(Qf.cF (S':=Bs FF w.heap.size ((Qu.heap.size,Q9.heap.size)::iv) (.slice (some ⟨gx,0,none⟩) n cx)) fun g hg=>hg.elim (fun h=>h.elim) fun h=>⟨.inr ⟨by have:=r.bz;omega,_,_,aG,h.1,h.2⟩,fun e=>by have:=Rel.old r (bw w) g (hX.new g e);omega⟩)
   replace hX:=hX.cD (iv':=(Qu.heap.size,Q9.heap.size)::iv) r (bw w) he fun x hx=>aC _ hx;generalize (Qu.heap.size,Q9.heap.size)::iv=Ow at*
   obtain⟨C0,C1,C2,C3,C4,C5,C6,C7,rfl⟩:=hd.shape;refine⟨⟨gx,0,none⟩,rfl,by omega,?_⟩;intro O w' r;obtain⟨g,hg,h1,h2,h3,h4,h5⟩:=(hX.rel r (bw w)).store (j:=p) (by omega) (hd.cC (Bs.same r (bw w))) r (bw w);injection hg with hg;injection hg with hg;subst hg;refine⟨h1,h2,h3,fun w5 Rp=>?_⟩;obtain⟨k1,k2,k3⟩:=h5 w5 Rp;have PO:dT w.heap.size w w5:=(hw.tr r.cL).tr (dT.grown k2 (fun g e=>by injection e with e;subst e;exact h4.elim (fun h=>h.elim) fun h=>h.1) r.bz);have RJ:=cT.cC hR (Bs.kept r hS k2 fun g e=>e);have hV2:=dS.cC hV (Bs.kept r (bw w) k2 fun g e=>e);have Rq:=du.cC hK (Bs.kept r (bw w) k2 fun g e=>e);have Oh:(fq A pv n c k).set p (-q)=fq A pv n c (k+1):=by rw[gl,Q4,List.getD,hp];rfl
   rw[Oh]at k1;refine⟨((k+1:Nat):Int),wo,?_⟩;intro ρ3 w6 r3;exact⟨(k+1,w6,_),⟨OT,PO.tr r3.cL,cT.cC RJ (Bs.same r3 hS),dS.cC hV2 (Bs.same r3 (bw w)),du.cC Rq (Bs.same r3 (bw w)),k1.rel r3 (bw w)⟩,Sub.gn [] r3,by dsimp only;omega⟩
  have OT:k=pv.length:=aU hk (by simpa using OT);rw[OT]at hX;replace hR:=cT.cF hR fun g hg=>hg.1;replace hV:=dS.cF hV fun g hg=>hg.1;replace hK:=(du.cF hK fun g hg=>hg.1).push (u:=(.slice (some ⟨gx,0,none⟩) n cx)) (x:=fq A pv n c pv.length) rfl (by have:=hX.c;exact this);rw[<-Cp hm]at hK;refine .inl ?_;refine⟨by simp,by omega,by unfold maxLen;omega,((c+1:Nat):Int),wo,?_⟩;intro ρ3 w3 r3;exact⟨(c+1,rv++[(.slice (some ⟨gx,0,none⟩) n cx)],w3,_),⟨PB,hw.tr r3.cL,cT.rel hR r3 hS,dS.rel hV r3 (bw w),hK.rel r3 (bw w)⟩,Sub.gn [(3,5)] r3 (hE:=⟨rfl,by dsimp only;rw[List.length_append,List.length_singleton];rfl,rfl,rfl,rfl,rfl,trivial⟩),by dsimp only;omega⟩
 have PB:c=n:=aU hc (by simpa using PB);subst PB;intro ρe we re;refine⟨_,rfl,hw.tr re.cL,rv,?_,hK.1,fun i u x k1 k2=>cS.cF (cS.rel (hK.2.2 i u x k1 k2) re (bw w)) fun g hg=>Cv.nw hg re⟩;rw[<-hK.1];exact(re.kR (id:=3) (sz:=1) (m:=rv.length) rfl (by simp) (by unfold maxLen;omega) (by decide) hK.2.1).cF fun g hg=>.inr hg
structure jJ(w:World)(S:Nat->Prop)(B:Nat)(iv:Iv)(v:Value)(n i:Nat)(qs:List Rat):Prop where
 row:∃css,w.ownsRow 0 T.Rat 4 v n css.flatten∧fz w (Bs S B iv v) n i css qs
 new:∀g,v.ownBlock=some g->Cv FF B iv g
section
variable{S S':Nat->Prop}{H:Hp}{nx n i:Nat}{iv iv':Iv}{B:Nat}{w w' w2:World}{O:Nat->Sx.dL}{v:Value}{qs:List Rat}
theorem jJ.cC(h:jJ w S B iv v n i qs)(hk:∀g,Cv S B iv g->w2.heap[g]? =w.heap[g]?):jJ w2 S B iv v n i qs:=by
 obtain⟨⟨css,h1,h2⟩,h3⟩:=h;exact⟨⟨css,ownsRow.cC h1 fun g hg=>hk g (Cg (h3 g hg)),h2.cC fun g hg=>hk g hg.1⟩,h3⟩
theorem jJ.rel(h:jJ w S B iv v n i qs)(r:Rel H nx iv B w O w')(hS:∀g,S g->g<B):jJ w' S B iv v n i qs:=h.cC fun _ hg=>Rel.same r hS hg
theorem jJ.mono(h:jJ w S B iv v n i qs)(hm:∀p,p∈iv->p∈iv'):jJ w S B iv' v n i qs:=by
 obtain⟨⟨css,h1,h2⟩,h3⟩:=h;exact⟨⟨css,h1,h2.cF fun g hg=>hg.mono hm⟩,fun g hg=>(h3 g hg).mono hm⟩
theorem jJ.cD(h:jJ w S B iv v n i qs)(r:Rel H nx iv B w O w')(hS:∀g,S g->g<B)(he:Ext w' w2)(hm:∀p,p∈iv->p∈iv'):jJ w2 S B iv' v n i qs:=
 ((h.rel r hS).cC fun g hg=>he.block g (Rel.old r hS g hg)).mono hm
theorem jJ.rK(r:Rel H nx iv B w O w')(h:cV H id=some (.arr T.Rat (List.replicate n [Value.bool false,.slice none 0 0,.bool false,.slice none 0 0]).flatten))(hn:n<=maxLen)(qs:List Rat):
  jJ w' S B (((O id).g,(O id).g+1)::iv) (.slice (some ⟨(O id).g,0,none⟩) n n) n 0 qs:=by
 have Oe:=(r.fits h).1;have h4:∀cs∈List.replicate n [Value.bool false,.slice none 0 0,.bool false,.slice none 0 0],cs.length=4:=fun cs hc=>by rw[b9 hc];rfl
 have hf:=eo h4;rw[bN]at hf;refine⟨⟨List.replicate n [.bool false,.slice none 0 0,.bool false,.slice none 0 0],⟨hf,.inr ⟨(O id).g,n,_,rfl,aS _,r.arr id _ _ h,Nat.le_refl _,hn,by simp,by rw[<-hf];exact bH⟩⟩,fz.start w' _ n qs⟩,fun g hg=>?_⟩;injection hg with hg;have hg:(O id).g=g:=hg;subst hg;exact .inr ⟨(r.low id _ h Oe).1,_,_,aG,Nat.le_refl _,bV _⟩
theorem jJ.store{a1 a2:Option Addr}{c j n1 c1 n2 c2:Nat}{b b2:Bool}(h:jJ w S B iv (.slice a n c) n j qs)(hj:j<n)(hq:qs[j]? =some q)(hf:cN w (Bs S B iv (.slice a n c)) (.agg #[.bool b,.slice a1 n1 c1,.bool b2,.slice a2 n2 c2]) q)
  (r:Rel H nx iv B w O w') (hS:∀g,S g->g<B):
  ∃g,a=some ⟨g,0,none⟩∧((⟨g,0,none⟩:Addr).add ((j:Int).toNat*4)).spot=none∧
   (∀k,k<4->(w'.cell? (((⟨g,0,none⟩:Addr).add ((j:Int).toNat*4)).add k)).isSome=true∧w'.frozen? (((⟨g,0,none⟩:Addr).add ((j:Int).toNat*4)).add k)=false)∧
   (∀id b,cV H id=some b->(O id).nil=false->(O id).g≠((⟨g,0,none⟩:Addr).add ((j:Int).toNat*4)).block)∧
   ∀w2,w2=setCells w' ((⟨g,0,none⟩:Addr).add ((j:Int).toNat*4)) [.bool b,.slice a1 n1 c1,.bool b2,.slice a2 n2 c2]->jJ w2 S B iv (.slice a n c) n (j+1) qs∧w'.grownBy w2 (some g)∧dT B w' w2∧Rel H nx iv B w2 O w2:=by
 obtain⟨⟨css,h1,h2⟩,h3⟩:=h.rel r hS;have hf:=hf.cC (Bs.same r hS);obtain⟨g,rfl,OV,QA,Oc,Oj⟩:=kC (nv:=[.bool b,.slice a1 n1 c1,.bool b2,.slice a2 n2 c2]) h1 rfl hj rfl (by decide);have Om:(⟨g,0,none⟩:Addr).add ((j:Int).toNat*4)=⟨g,j*4,none⟩:=by rw[aF,dA,aV]
 have Px:=Rel.not r (eI B) (h3 g rfl);refine⟨g,rfl,by rw[Om],fun k hk=>by rw[Om];exact OV k hk,fun id b hb hn=>by rw[Om];exact Px id b hb hn,fun w2 PO=>?_⟩;rw[Om]at PO;subst PO;have Se:=jI (cs:=[.bool b,.slice a1 n1 c1,.bool b2,.slice a2 n2 c2]) h2.four (show j<css.length by rw[h2.len];exact hj);rw[Se]at QA;have Pc:∀x,Bs S B iv (.slice (some ⟨g,0,none⟩) n c) x->(setCells w' ⟨g,j*4,none⟩ [.bool b,.slice a1 n1 c1,.bool b2,.slice a2 n2 c2]).heap[x]? =w'.heap[x]? :=fun x hx=>
  Oc.block x (Rel.old r hS x hx.1) fun e=>hx.2 e.symm
 refine⟨⟨⟨_,QA,(h2.cC Pc).next hj hq (hf.cC Pc)⟩,h3⟩,Oc,dT.grown Oc (fun x e=>by injection e with e;subst e;exact(h3 g rfl).elim (fun h=>h.elim) fun h=>h.1) r.bz,r.yH Px Oc⟩
theorem jJ.done(h:jJ w S B iv v n n qs)(hl:qs.length=n):eE w S B iv v n qs:=by
 obtain⟨⟨css,h1,h2⟩,h3⟩:=h;exact⟨⟨css,h1,h2.len,by rw[h2.len,hl],fun j cs q k1 k2=>h2.at_ j cs q (by rw[<-hl];exact(aD.1 k2).1) k1 k2⟩,h3⟩
end
end Go.Ex
namespace Go.Ex
variable{A M:List (List Rat)}{pv:List Nat}{B j:Nat}{v:Nat->Rat}
theorem BR(f:Nat->Rat):∀n,cQ f n=jn (List.range n) f
 |0=>rfl
 |n+1=>by
  rw[cQ,BR f n,bW,wA];show _=_+(_+0)
  rw[bD]
theorem BS(g:Nat->Rat):∀l:List Nat,jn l g=cQ (fun k=>g (l.getD k 0)) l.length
 |[]=>rfl
 |t::l=>by
  rw[List.length_cons,jQ];show g t+jn l g=g t+_;rw[BS g l];rfl
def mulR(M:List (List Rat))(n:Nat)(x:Nat->Rat)(j:Nat):Rat:=cQ (fun t=>cW M j t*x t) n
theorem dq.dot{E:Mx}{r n:Nat}(h:dq E r n v):∃c:Nat->Rat,(∀t,t<n->v t=cQ (fun i=>c i*E i t) r)∧∀x:Nat->Rat,cQ (fun t=>v t*x t) n=cQ (fun i=>c i*cQ (fun t=>E i t*x t) n) r:=by
 obtain⟨c,hc⟩:=h;refine⟨c,hc,fun x=>?_⟩;rw[cG (g:=fun t=>cQ (fun i=>c i*E i t*x t) r) fun t ht=>by rw[hc t ht,<-ko],mx];exact cG fun i _=>by rw[<-dY];exact cG fun t _=>Rat.mul_assoc _ _ _
section
variable{M:List (List Rat)}{n:Nat}{x:Nat->Rat}{b:List Rat}
theorem Jv(hM:gh n M)(h:∀j,j<M.length->mulR M n x j=0){c:Nat}(hc:c<=n):∀i,i<M.length->mulR (cK M c).1 n x i=0:=fun i hi=>by
 obtain⟨c,_,h2⟩:=((lD hM c hc).1 i hi).dot;unfold mulR;rw[h2 x,cG (g:=fun _=>0) fun j hj=>by rw[show cQ (fun t=>cW M j t*x t) n=0 from h j hj,az],dU]
theorem Dx(hM:gh n M){c:Nat}(hc:c<=n)(h:∀i,i<M.length->mulR (cK M c).1 n x i=0):∀j,j<M.length->mulR M n x j=0:=fun j hj=>by
 obtain⟨c,_,h2⟩:=((lD hM c hc).2 j hj).dot;unfold mulR;rw[h2 x,cG (g:=fun _=>0) fun i hi=>by rw[show cQ (fun t=>cW (cK M _).1 i t*x t) n=0 from h i hi,az],dU]
theorem my(hM:gh n M){t:Nat}(hj:j<M.length):(t<n->cW (dX M b) j t=cW M j t)∧cW (dX M b) j n=b.getD j 0:=by
 have hr:=aB hj;have hl:(M[j]).length=n:=hM _ (aX hj);have e:(dX M b).getD j []=M[j]++[b.getD j 0]:=by rw[dX,List.getD,List.getElem?_mapIdx,hr];rfl
 have e2:M.getD j []=M[j]:=by rw[List.getD,hr];rfl
 refine⟨fun ht=>?_,?_⟩
 ·rw[cW,cW,e,e2,List.getD,aJ (by omega),<-List.getD]
 ·rw[cW,e,List.getD,aN (by omega),hl,bB];rfl
def Dy(x:Nat->Rat)(n t:Nat):Rat:=if t<n then x t else -1
theorem Fq(hM:gh n M)(hj:j<M.length):mulR (dX M b) (n+1) (Dy x n) j=mulR M n x j-b.getD j 0:=by
 have h:=fun t=>my (b:=b) (t:=t) hM hj;unfold mulR;rw[cQ,(h 0).2,show Dy x n n= -1 by unfold Dy;rw[aI (Nat.lt_irrefl n)],cG (g:=fun t=>cW M j t*x t) fun t ht=>by rw[(h t).1 ht];unfold Dy;rw[if_pos ht]];grind
def jG(M:List (List Rat))(b:List Rat)(n:Nat):Option (List Rat):=
 let e:=cK (dX M b) n
 if ∀j,j<M.length->e.2.length<=j->cW e.1 j n=0 then some (gW e.1 e.2 n e.2.length)else none
theorem sK{x:List Rat}(hM:gh n M)(h:jG M b n=some x):x.length=n∧∀j,j<M.length->mulR M n (fun t=>x.getD t 0) j=b.getD j 0:=by
 unfold jG at h;dsimp only at h;split at h
 ·rename_i h0;injection h with h;have hW:=jP (b:=b) hM;obtain⟨r1,r2,r3,r4,r5⟩:=eK hW n (Nat.le_succ n);have Qe:=iq (dX M b) n;have WN:=fP (M:=M) (b:=b);have hl:=fp (dX M b) n;have QC:x.length=n:=by rw[<-h,jw]
  have Qy:∀j,j<(cK (dX M b) n).2.length->x.getD ((cK (dX M b) n).2.getD j 0) 0=cW (cK (dX M b) n).1 j n:=fun j hj=>by
   rw[<-h];exact nd (F:=gW (cK (dX M b) n).1 (cK (dX M b) n).2 n) (f:=fun i=>cW (cK (dX M b) n).1 i n) (fun i=>gp _ _ n i) (jw _ _ n) Qe.2.1 r4 _ (Nat.le_refl _) hj
  have PJ:∀t,t∉(cK (dX M b) n).2->x.getD t 0=0:=fun t ht=>by rw[<-h];exact tG ht
  refine⟨QC,fun j hj=>?_⟩;have key:=Dx (M:=dX M b) (x:=Dy (fun t=>x.getD t 0) n) hW (c:=n) (Nat.le_succ n) (fun i hi=>?_) j (by rw[WN];exact hj)
  ·rw[Fq hM hj]at key;grind
  ·unfold mulR;rw[cQ,show Dy (fun t=>x.getD t 0) n n= -1 by unfold Dy;rw[aI (Nat.lt_irrefl n)],cG (g:=fun t=>cW (cK (dX M b) n).1 i t*x.getD t 0) fun t ht=>by unfold Dy;rw[if_pos ht]];rcases aP i (cK (dX M b) n).2.length with h1|h1
   ·rw[fY (i:=(cK (dX M b) n).2.getD i 0) (r4 _ (by rw[List.getD,aB h1];exact aX _)) fun t ht OS=>?_,r5 i i h1 (by omega),if_pos rfl,Qy i h1]
    ·grind
    ·by_cases hp:t∈(cK (dX M b) n).2
     ·obtain⟨k,hk,rfl⟩:=sD hp;rw[r5 k i hk (by omega),aI (fun e=>OS (by rw[e])),bC]
     ·rw[PJ t hp,az]
   ·rw[cG (g:=fun _=>0) fun t ht=>by rw[r3 i t h1 (by omega) ht,bC],dU,h0 i (by rw[<-WN];exact hi) h1];grind
 ·cases h
theorem yi(hM:gh n M)(h:jG M b n=none):∃y:Nat->Rat,(∀t,t<n->cQ (fun j=>y j*cW M j t) M.length=0)∧cQ (fun j=>y j*b.getD j 0) M.length≠0:=by
 unfold jG at h;dsimp only at h;split at h
 ·cases h
 ·rename_i h0;obtain⟨i,hi,h1,h2⟩:∃i,i<M.length∧(cK (dX M b) n).2.length<=i∧cW (cK (dX M b) n).1 i n≠0:=by
   refine Decidable.byContradiction fun Rw=>h0 fun j hj hr=>Decidable.byContradiction fun h2=>Rw ⟨j,hj,hr,h2⟩
  have hW:=jP (b:=b) hM;have WN:=fP (M:=M) (b:=b);have hl:=fp (dX M b) n;obtain⟨r1,r2,r3,r4,r5⟩:=eK hW n (Nat.le_succ n);obtain⟨y,hy⟩:=(lD hW n (Nat.le_succ n)).1 i (by omega);rw[WN]at hy;refine⟨y,fun t ht=>?_,?_⟩
  ·have h3:=hy t (by omega);rw[r3 i t h1 (by omega) ht]at h3;rw[h3];exact cG fun j hj=>by rw[(my (b:=b) hM hj).1 ht]
  ·have h3:=hy n (by omega);rw[cG (g:=fun j=>y j*b.getD j 0) fun j hj=>by rw[(my (b:=b) (t:=n) hM hj).2]]at h3;rw[<-h3];exact h2
theorem IV{x:Nat->Rat}(hM:gh n M)(h:∀j,j<M.length->mulR M n x j=b.getD j 0):∃z,jG M b n=some z:=by
 cases e:jG M b n with
 |some z=>exact⟨z,rfl⟩
 |none=>
  obtain⟨y,h1,h2⟩:=yi hM e;refine absurd ?_ h2;rw[cG fun j hj=>by rw[<-h j hj,mulR,<-dY],mx,cG (g:=fun _=>0) fun t ht=>?_,dU];rw[cG (g:=fun j=>y j*cW M j t*x t) fun j _=>(Rat.mul_assoc _ _ _).symm,ko,h1 t ht,bC]
theorem Jw(M:List (List Rat))(n:Nat)(x y:Nat->Rat)(j:Nat):mulR M n (fun t=>x t-y t) j=mulR M n x j-mulR M n y j:=by
 unfold mulR;rw[<-tJ];exact cG fun t _=>by grind
theorem tP(M:List (List Rat))(b:List Rat):kG M b=dX M b:=rfl
theorem Dz{r i t:Nat}(h:i<r):cW (A.take r) i t=cW A i t:=by
 rw[cW,cW,show(A.take r).getD i []=A.getD i [] by rw[List.getD,bO h,<-List.getD]]
theorem wF(A:List (List Rat))(pv:List Nat)(n:Nat):∀k,k<=pv.length->gW (A.take pv.length) pv n k=gW A pv n k
 |0,_=>rfl
 |k+1,h=>by rw[gp,gp,wF A pv n k (by omega),Dz (by omega)]
theorem wG(A:List (List Rat))(pv:List Nat)(n c:Nat):∀k,k<=pv.length->fq (A.take pv.length) pv n c k=fq A pv n c k
 |0,_=>rfl
 |k+1,h=>by rw[gl,gl,wG A pv n c k (by omega),Dz (by omega)]
abbrev cR(M:List (List Rat))(n:Nat):List (List Rat):=eL (cK M n).1 (cK M n).2 n n
theorem Fs(hM:gh n M)(hW:Dw M n B):kc M n=cR M n:=by
 obtain⟨e1,e2⟩:=sJ hM hW;unfold kc cR eL;rw[e1,e2];exact List.map_congr_left fun c _=>wG _ _ n c _ (Nat.le_refl _)
theorem BT(hM:gh n M)(hW:Dw (dX M b) (n+1) B):nm M b n=jG M b n:=by
 have hWl:=jP (b:=b) hM;obtain⟨e1,e2⟩:=sJ hWl hW;have hl:=fp (dX M b) n;have WN:=fP (M:=M) (b:=b);obtain⟨r1,r2,r3,r4,r5⟩:=eK hWl n (Nat.le_succ n);have e:cK (dX M b) (n+1)=dg (cK (dX M b) n) n:=by
  unfold cK;rw[bW,List.foldl_append];rfl
 unfold nm jG;dsimp only
 rcases kF n r2 with⟨k1,k2⟩|⟨k,k1,k2,k3,k4⟩
 ·rw[aI (by rw[tP,e1,e,k1];exact fun h=>by have:=r4 n h;omega),if_pos fun j hj hr=>k2 j hr (by omega),tP,e1,e2,e,k1,wF _ _ n _ (Nat.le_refl _)]
 ·rw[if_pos (by rw[tP,e1,e,k4];simp),aI fun h=>k3 (h k (by omega) k1)]
theorem Jx(hM:gh n M){x:List Rat}(h:∀j,j<M.length->mulR M n (fun t=>x.getD t 0) j=0):Diff (cK M n).1 (cK M n).2 n x:=by
 obtain⟨r1,r2,r3,r4,r5⟩:=eK hM n (Nat.le_refl _);have Qe:=iq M n;have hl:=fp M n;refine⟨Qe.2.1,r4,r2,r5,fun j hj=>?_⟩;rw[<-BR];have h1:=Jv hM h (Nat.le_refl n) j (by omega);unfold mulR at h1;rw[h1,cW,List.getD,List.getElem?_eq_none (by rw[r1.getD hj];exact Nat.le_refl _)];rfl
theorem mz(M:List (List Rat))(n:Nat):(cR M n).length=(iz (cK M n).2 n).length:=by unfold cR eL;rw[aL]
theorem yj(M:List (List Rat))(n:Nat){k:Nat}(hk:k<(cR M n).length):(cR M n).getD k []=fq (cK M n).1 (cK M n).2 n ((iz (cK M n).2 n).getD k 0) (cK M n).2.length:=by
 obtain⟨r,hr⟩:∃r,(cR M n)[k]? =some r:=⟨_,aB hk⟩
 rw[List.getD,hr];exact(nf hr).2
theorem np(M:List (List Rat))(n:Nat):gh n (cR M n):=fun r hr=>by
 obtain⟨k,hk⟩:=aQ hr;rw[(nf hk).2,jv]
theorem EA(hM:gh n M){k:Nat}(hk:k<(cR M n).length):∀j,j<M.length->mulR M n (cW (cR M n) k) j=0:=by
 obtain⟨r1,r2,r3,r4,r5⟩:=eK hM n (Nat.le_refl _);have Qe:=iq M n;have hl:=fp M n;have hf:=ky.1 (pK (by rw[<-mz];exact hk));refine Dx hM (Nat.le_refl n) fun i hi=>?_;have OR:=yj M n hk;generalize hc:(iz (cK M n).2 n).getD k 0=c at hf OR;have Qy:∀j,j<(cK M n).2.length->cW (cR M n) k ((cK M n).2.getD j 0)= -(cW (cK M n).1 j c):=fun j hj=>by
  rw[cW,OR];exact nd (F:=fq (cK M n).1 (cK M n).2 n c) (f:=fun i=> -(cW (cK M n).1 i c)) (fun i=>gl _ _ n c i) (jv _ _ n c) Qe.2.1 r4 _ (Nat.le_refl _) hj
 have PJ:∀t,t∉(cK M n).2->cW (cR M n) k t=if t=c then 1 else 0:=fun t ht=>by rw[cW,OR];exact pJ ht hf.1
 unfold mulR;rcases aP i (cK M n).2.length with h1|h1
 ·have hpi:(cK M n).2.getD i 0∈(cK M n).2:=by rw[List.getD,aB h1];exact aX _
  have OS:(cK M n).2.getD i 0≠c:=fun e=>hf.2 (e▸hpi);have e:cQ (fun t=>cW (cK M n).1 i t*cW (cR M n) k t) n=cQ (fun t=>(if t=(cK M n).2.getD i 0 then -(cW (cK M n).1 i c)else 0)+(if t=c then cW (cK M n).1 i c else 0)) n:=by
   refine cG fun t ht=>?_;by_cases hp:t∈(cK M n).2
   ·obtain⟨j,hj,rfl⟩:=sD hp;rw[Qy j hj,r5 j i hj (by omega),aI (show ¬(cK M n).2.getD j 0=c from fun e=>hf.2 (e▸hp)),bD];by_cases PE:i=j
    ·rw[if_pos PE,if_pos (by rw[PE]),PE,bm]
    ·have hne2:(cK M n).2.getD j 0≠(cK M n).2.getD i 0:=fun e2=>PE (by
      rcases bp i j with h5|h5|h5
      ·have:(cK M n).2.getD i 0<(cK M n).2.getD j 0:=Jf Qe.2.1 h5 hj;omega
      ·exact h5
      ·have:(cK M n).2.getD j 0<(cK M n).2.getD i 0:=Jf Qe.2.1 h5 h1
       omega)
     rw[aI PE,aI hne2,bC]
   ·rw[PJ t hp,aI (show ¬t=(cK M n).2.getD i 0 from fun e2=>hp (e2▸hpi)),Rat.zero_add];by_cases htc:t=c
    ·rw[if_pos htc,if_pos htc,htc,Rat.mul_one]
    ·rw[aI htc,aI htc,az]
  rw[e,fK,fY (i:=(cK M n).2.getD i 0) (r4 _ hpi) fun t _ OS=>aI OS,fY (i:=c) hf.1 fun t _ OS=>aI OS,if_pos rfl,if_pos rfl];grind
 ·rw[cG (g:=fun _=>0) fun t ht=>by rw[r3 i t h1 (by omega) ht,bC],dU]
theorem Lx(hM:gh n M)(h:∀j,j<M.length->mulR M n x j=0):∃c:Nat->Rat,∀t,t<n->x t=cQ (fun k=>c k*cW (cR M n) k t) (cR M n).length:=by
 obtain⟨l,hl⟩:∃l,l=(List.range n).map x:=⟨_,rfl⟩
 have hx:∀t,t<n->l.getD t 0=x t:=fun t ht=>by rw[hl,List.getD,aM,bZ ht];rfl
 have hd:=Jx (x:=l) hM fun j hj=>Eq.trans (cG fun t ht=>congrArg (cW M j t* ·) (hx t ht)) (h j hj);refine⟨fun k=>l.getD ((iz (cK M n).2 n).getD k 0) 0,fun t ht=>?_⟩;have h1:=hd.rest ht;obtain⟨r1,r2,r3,r4,r5⟩:=eK hM n (Nat.le_refl _);have h0:(gW (cK M n).1 (cK M n).2 n (cK M n).2.length).getD t 0=0:=by
  by_cases hp:t∈(cK M n).2
  ·obtain⟨j,hj,rfl⟩:=sD hp;rw[hd.xin hj,cW,List.getD,List.getElem?_eq_none (by rw[r1.getD (by omega)];exact Nat.le_refl _)];rfl
  ·exact tG hp
 rw[h0,bC,bD,hx t ht,BS]at h1;rw[h1,mz];exact cG fun k hk=>by rw[cW,yj M n (by rw[mz];exact hk)]
theorem Ly{c:Nat->Rat}(h:∀t,t<n->cQ (fun k=>c k*cW (cR M n) k t) (cR M n).length=0):∀k,k<(cR M n).length->c k=0:=fun k hk=>by
 have UK:k<(iz (cK M n).2 n).length:=by rw[<-mz];exact hk
 have hf:=ky.1 (pK UK);have h1:=h _ hf.1;obtain⟨r,hr⟩:∃r,(cR M n)[k]? =some r:=⟨_,aB hk⟩
 rw[fY hk fun i hi OS=>?_]at h1
 ·rw[cW,show(cR M n).getD k []=r by rw[List.getD,hr];rfl,yW hr hr,if_pos rfl,Rat.mul_one]at h1;exact h1
 ·obtain⟨s,hs⟩:∃s,(cR M n)[i]? =some s:=⟨_,aB hi⟩
  rw[cW,show(cR M n).getD i []=s by rw[List.getD,hs];rfl,yW hr hs,aI OS,az]
end
theorem yl(p:Nat->Bool):∀l:List Nat,l.length=(l.filter p).length+(l.filter fun c=> !p c).length
 |[]=>rfl
 |c::l=>by
  have ih:=yl p l;rw[List.filter_cons,List.filter_cons]
  cases p c with
  |true=>simp;omega
  |false=>simp;omega
theorem Jy{n:Nat}(hn:pv.Nodup)(hl:∀p∈pv,p<n):(iz pv n).length=n-pv.length:=by
 have h1:(List.range n).length=((List.range n).filter fun c=>decide (c∉pv)).length+((List.range n).filter fun c=>decide (c∈pv)).length:=by
  refine(yl (fun c=>decide (c∉pv)) (List.range n)).trans ?_;congr 2;refine List.filter_congr fun c _=>?_;by_cases h:c∈pv<;>simp[h]
 have h2:((List.range n).filter fun c=>decide (c∈pv)).length=pv.length:=by
  refine(List.Perm.length_eq ?_);refine(List.perm_ext_iff_of_nodup (List.Pairwise.filter _ List.nodup_range) hn).2 fun c=>?_;rw[List.mem_filter,List.mem_range,decide_eq_true_eq];exact⟨fun h=>h.2,fun h=>⟨hl c h,h⟩⟩
 rw[List.length_range]at h1;unfold iz;omega
theorem Ft{n:Nat}(hM:gh n M):(cR M n).length=n-(cK M n).2.length:=by
 obtain⟨r1,r2,r3,r4,r5⟩:=eK hM n (Nat.le_refl _);have Qe:=iq M n;rw[mz];exact Jy (Qe.2.1.imp fun h=>Nat.ne_of_lt h) r4
end Go.Ex
namespace Go.Ex
open Go Go.Sx Go.Proofs
variable{after:Array Edge}{z:Int}{p:Int×Int×Rat}{M:List (List Rat)}{css:List (List Value)}{l:List Int}{cs:List Value}{j:Nat}{C S S':Nat->Prop}{guard:Option (Nat×Bool)}{a:Option Addr}{dst:Option Tmp}{K:SV->Hp->Nat->Iv->World->Prop}{v:Value}{w w2:World}{f:ed}
theorem cT.nil:cT w S (.slice none 0 0) []:=⟨[],⟨by decide,rfl,fun u hu=>absurd hu (by simp),none,0,rfl,Nat.le_refl _,fun j u hu=>absurd hu (by simp)⟩,rfl,fun i u x h1 h2=>absurd h2 (by simp)⟩
theorem Cz(M:List (List Rat)):kc M 0=[]:=by simp[kc,eL]
set_option maxHeartbeats 1000000 in
theorem Ev(hC:Old C w)(hS:Old S w)(hM:oQ w C S v M)(hlen:gh 0 M)(hR:M.length<=1000):
  dx PG N.ic #[.agg #[v,.int .i64 0],.int .i64 0] w (eH w fun v' w2=>v'= .agg #[.slice none 0 0,.int .i64 0,.slice none 0 0,.slice none 0 0]):=by
 have hw:=bR w;obtain⟨am,cm,rfl,S1,Rc⟩:=oQ.shape hM;unfold maxLen at Rc;refine j0 (by simp) ?_;refine⟨0,0,rfl,rfl,Nat.le_refl _,by omega,by omega,World,fun z=>⟨[(1,iZ 0),(2,pP 0 0),(4,pP 1 0),(5,pP 2 0),(6,.o (.s 3 0 0 0)),(27,iZ 0),(28,iZ 0)],[(3,.arr T.int []),(2,.box T.dE [.v (.slice none 0 0),.v (.int .i64 0),.v (.slice none 0 0),.v (.slice none 0 0)]),(1,.box T.dE [.v (.slice none 0 0),.v (.int .i64 0),.v (.slice none 0 0),.v (.slice none 0 0)]),(0,.box T.di [.v (.slice am M.length cm),.v (.int .i64 0)])],4,[],z⟩,fun z=>0,fun z=>dT w.heap.size w z,?_,?_⟩
 ·intro O w' r3;exact⟨w',hw.tr r3.cL,Sub.gn [] r3⟩
 rintro w1 hw;dsimp only at hw ⊢
 refine⟨Nat×World,fun z=>⟨[(38,iN z.1),(1,iZ 0),(2,pP 0 0),(4,pP 1 0),(5,pP 2 0),(6,.o (.s 3 0 0 0)),(36,sV am M.length cm),(37,iZ M.length)],[(3,.arr T.int []),(2,.box T.dE [.v (.slice none 0 0),.v (.int .i64 0),.v (.slice none 0 0),.v (.slice none 0 0)]),(1,.box T.dE [.v (.slice none 0 0),.v (.int .i64 0),.v (.slice none 0 0),.v (.slice none 0 0)]),(0,.box T.di [.v (.slice am M.length cm),.v (.int .i64 0)])],5,[],z.2⟩,fun z=>M.length-z.1,
  fun z=>z.1<=M.length∧dT w.heap.size w z.2,?_,?_⟩
 ·intro O w' r3;exact⟨(0,w'),⟨aS _,hw.tr r3.cL⟩,Sub.gn [] r3⟩
 rintro⟨i,w1⟩ ⟨hi,hw⟩;dsimp only at hi hw ⊢;refine dB.mk ?_ ?_<;>intro OQ
 ·have OQ:i<M.length:=by simpa using OQ
  obtain⟨x,hx⟩:∃r,M[i]? =some r:=⟨_,aB OQ⟩
  have QC:=hlen x (aE hx);obtain rfl:=List.eq_nil_of_length_eq_zero QC;obtain⟨adm,um,Un,Qc,km1,km2⟩:=oQ.load hM hx;obtain⟨css,⟨-,g1,g2,a0,c0,rfl,g4,g5⟩,PY,Tk,Ok⟩:=Qc;obtain rfl:=List.eq_nil_of_length_eq_zero PY;refine⟨adm,Un,by omega,.slice a0 0 c0,rd1 km2 hw (hC _ km1),?_⟩;refine .inl ?_;refine⟨[],rfl,g2,fun O w' r PF=>absurd PF (by simp),rfl,by omega,by unfold maxLen;omega,World,fun z=>⟨[(9,.o (.w 6 0)),(46,iZ 0),(47,iZ 0),(2,pP 0 0),(4,pP 1 0),(5,pP 2 0),(6,.o (.s 3 0 0 0)),(8,iN i),(36,sV am M.length cm),(37,iZ M.length),(38,iN i),(1,iZ 0)],[(6,.vec T.Rat 4 []),(3,.arr T.int []),(2,.box T.dE [.v (.slice none 0 0),.v (.int .i64 0),.v (.slice none 0 0),.v (.slice none 0 0)]),(1,.box T.dE [.v (.slice none 0 0),.v (.int .i64 0),.v (.slice none 0 0),.v (.slice none 0 0)]),(0,.box T.di [.v (.slice am M.length cm),.v (.int .i64 0)])],7,[],z⟩,fun z=>0,fun z=>dT w.heap.size w z,?_,?_⟩
  ·intro O w' r3;exact⟨w',hw.tr r3.cL,Sub.gn [] r3⟩
  rintro w1 hw;dsimp only at hw ⊢;refine⟨World,fun z=>⟨[(9,.o (.w 6 0)),(12,iZ 0),(2,pP 0 0),(4,pP 1 0),(5,pP 2 0),(6,.o (.s 3 0 0 0)),(8,iN i),(36,sV am M.length cm),(37,iZ M.length),(38,iN i),(1,iZ 0)],[(6,.vec T.Rat 4 []),(3,.arr T.int []),(2,.box T.dE [.v (.slice none 0 0),.v (.int .i64 0),.v (.slice none 0 0),.v (.slice none 0 0)]),(1,.box T.dE [.v (.slice none 0 0),.v (.int .i64 0),.v (.slice none 0 0),.v (.slice none 0 0)]),(0,.box T.di [.v (.slice am M.length cm),.v (.int .i64 0)])],7,[],z⟩,fun z=>0,fun z=>dT w.heap.size w z,?_,?_⟩
  ·intro O w' r3;exact⟨w',hw.tr r3.cL,Sub.gn [] r3⟩
  rintro w1 hw;dsimp only at hw ⊢;refine⟨((i+1:Nat):Int),wo,?_⟩;intro ρ3 w3 r3;exact⟨(i+1,w3),⟨OQ,hw.tr r3.cL⟩,Sub.gn [] r3,by dsimp only;omega⟩
 refine⟨World,fun z=>⟨[(4,pP 1 0),(5,pP 2 0),(17,pP 5 0),(159,.o (.s 3 0 0 0)),(160,iZ 0),(161,iZ 0)],[(5,.box T.dE [.v (.slice none 0 0),.v (.int .i64 0),.v (.slice none 0 0),.v (.slice none 0 0)]),(3,.arr T.int []),(2,.box T.dE [.v (.slice none 0 0),.v (.int .i64 0),.v (.slice none 0 0),.v (.slice none 0 0)]),(1,.box T.dE [.v (.slice none 0 0),.v (.int .i64 0),.v (.slice none 0 0),.v (.slice none 0 0)]),(0,.box T.di [.v (.slice am M.length cm),.v (.int .i64 0)])],6,[],z⟩,fun z=>0,fun z=>dT w.heap.size w z,?_,?_⟩
 ·intro O w' r3;exact⟨w',hw.tr r3.cL,Sub.gn [] r3⟩
 rintro w1 hw;dsimp only at hw ⊢;exact rtn hw fun ρe we re=>rfl
set_option maxHeartbeats 1000000 in
theorem GY(hC:Old C w)(hS:Old S w)(hM:oQ w C S v M)(hlen:gh 0 M)(hR:M.length<=1000):
  dx PG N.gJ #[.agg #[v,.int .i64 0]] w (eH w fun v' w2=>cT w2 (Nf w w2) v' (kc M 0)):=by
 have hw:=bR w;obtain⟨am,cm,rfl,S1,Rc⟩:=oQ.shape hM;unfold maxLen at Rc;refine jZ (by simp) ?_
 refine cB (cI (Φ:=fun _ w' v w2=>v= .agg #[.slice none 0 0,.int .i64 0,.slice none 0 0,.slice none 0 0]) (fun O w' r=>by
  obtain⟨rv,m1,m2,m3⟩:=hM
  exact Ev (C:=C) (S:=S) (oS hC r) (oS hS r) ⟨rv,m1.cC fun g hg=>(hw.tr r.cL).block g (hC g hg),m2,fun i u x h1 h2=>cS.cC (m3 i u x h1 h2) fun g hg=>(hw.tr r.cL).block g (hS g hg)⟩ hlen hR) ?_)
 rintro O PV v1 PL r he Oa rfl;replace hw:=hw.tr Oa;generalize (PV.heap.size,PL.heap.size)::[]=OZ at*
 refine⟨0,0,rfl,rfl,Nat.le_refl _,by omega,by omega,World×Iv,fun z=>⟨[(1,pP 0 0),(3,pP 1 0),(4,.o (.s 2 0 0 0)),(20,sV none 0 0),(21,iZ 0),(22,iZ 0)],[(2,.arr T.bool []),(1,.box T.dE [.v (.slice none 0 0),.v (.int .i64 0),.v (.slice none 0 0),.v (.slice none 0 0)]),(0,.box T.di [.v (.slice am M.length cm),.v (.int .i64 0)])],3,z.2,z.1⟩,fun z=>0,fun z=>dT w.heap.size w z.1,?_,?_⟩
 ·intro O w' r3;exact⟨(w',_),hw.tr r3.cL,Sub.gn [] r3⟩
 rintro⟨w1,iv⟩ hw;dsimp only at hw ⊢;refine⟨World×Iv,fun z=>⟨[(32,iZ 0),(7,sV none 0 0),(1,pP 0 0),(3,pP 1 0),(4,.o (.s 2 0 0 0)),(31,iZ 0)],[(2,.arr T.bool []),(1,.box T.dE [.v (.slice none 0 0),.v (.int .i64 0),.v (.slice none 0 0),.v (.slice none 0 0)]),(0,.box T.di [.v (.slice am M.length cm),.v (.int .i64 0)])],3,z.2,z.1⟩,fun z=>0,fun z=>dT w.heap.size w z.1,?_,?_⟩
 ·intro O w' r3;exact⟨(w',_),hw.tr r3.cL,Sub.gn [] r3⟩
 rintro⟨w1,iv⟩ hw;dsimp only at hw ⊢;intro ρe we re;rw[Cz];exact⟨_,rfl,hw.tr re.cL,cT.nil⟩
theorem GZ{n h:Nat}(hC:Old C w)(hS:Old S w)(hM:oQ w C S v M)(hlen:gh n M)(hR:M.length<=1000)(hn:n<=1000)(hB:Ef M n h)(hAb:Ht (dh M n).1 h)(hh:3*h<=90000):
  dx PG N.gJ #[.agg #[v,.int .i64 n]] w (eH w fun v' w2=>cT w2 (Nf w w2) v' (kc M n)):=by
 rcases bJ n with h0|h0
 ·subst h0;exact GY hC hS hM hlen hR
 ·exact Ik hC hS hM hlen h0 hn hR hB hAb hh
theorem vV{k:Nat}(h:∀cs∈css,cs.length=k):css.flatten.length=css.length*k:=by
 induction css with
 |nil=>simp
 |cons c r ih=>rw[List.flatten_cons,List.length_append,h c aG,ih fun x hx=>h x (aC _ hx),List.length_cons,Nat.succ_mul];omega
theorem vW{k:Nat}(h:∀cs∈css,cs.length=k)(hj:css[j]? =some cs)(i:Nat)(u:Value)(hu:cs[i]? =some u):css.flatten[j*k+i]? =some u:=by
 induction css generalizing j with
 |nil=>cases hj
 |cons c r ih=>
  have hc:=h c aG;have hi:=(aD.1 hu).1
  cases j with
  |zero=>
   injection hj with hj;subst hj;rw[List.flatten_cons,Nat.zero_mul,aV,aJ hi];exact hu
  |succ j=>
   rw[List.flatten_cons,aN (by rw[hc,Nat.succ_mul];omega),hc,show(j+1)*k+i-k=j*k+i by rw[Nat.succ_mul];omega];exact ih (fun x hx=>h x (aC _ hx)) hj
def eY{α:Type}(k:Nat)(P:World->(Nat->Prop)->List Value->α->Prop)(w:World)(S:Nat->Prop)(v:Value)(xs:List α):Prop:=
 ∃css:List (List Value),iu w S k v css.flatten xs.length∧css.length=xs.length∧(∀cs∈css,cs.length=k)∧∀(j:Nat) cs x,css[j]? =some cs->xs[j]? =some x->P w S cs x
section
variable{α:Type}{k:Nat}{P:World->(Nat->Prop)->List Value->α->Prop}{w w2:World}{S S':Nat->Prop}{v:Value}{xs:List α}
theorem eY.cC(hP:∀cs x,P w S cs x->P w2 S cs x)(h:eY k P w S v xs)(hk:∀g,S g->w2.heap[g]? =w.heap[g]?):eY k P w2 S v xs:=by
 obtain⟨css,h1,h2,h3,h4⟩:=h;exact⟨css,h1.cC hk,h2,h3,fun j cs x k1 k2=>hP cs x (h4 j cs x k1 k2)⟩
theorem eY.cF(hP:∀cs x,P w S cs x->P w S' cs x)(h:eY k P w S v xs)(hk:∀g,S g->S' g):eY k P w S' v xs:=by
 obtain⟨css,h1,h2,h3,h4⟩:=h;exact⟨css,h1.cF hk,h2,h3,fun j cs x k1 k2=>hP cs x (h4 j cs x k1 k2)⟩
theorem eY.shape(h:eY k P w S v xs):∃a c,v= .slice a xs.length c∧xs.length<=c∧xs.length<=maxLen:=by
 obtain⟨css,⟨h0,_,_,a,c,h1,h2,_⟩,_⟩:=h;exact⟨a,c,h1,h2,h0⟩
theorem eY.load{m c:Nat}{x:α}(hk:0<k)(h:eY k P w S (.slice a m c) xs)(hq:xs[j]? =some x):
  ∃ad cs,a=some ad∧P w S cs x∧cs.length=k∧∀i u,cs[i]? =some u->S ad.block∧w.cell? ((ad.add (j*k)).add i)=some u:=by
 obtain⟨css,⟨h0,h1,h2,a',c',e,h3,h4⟩,hl,VP,hf⟩:=h;injection e with e1 e2 e3;subst e1;obtain⟨cs,Ok⟩:∃cs,css[j]? =some cs:=⟨_,aB (by rw[hl];exact(aD.1 hq).1)⟩
 have hl:=VP cs (aE Ok);obtain⟨ad,k1,k2,k3⟩:=h4 (j*k+0) _ (vW VP Ok 0 _ (aB (show 0<cs.length by omega)));refine⟨ad,cs,k1,hf j cs x Ok hq,hl,fun i u hu=>?_⟩;obtain⟨ad2,m1,m2,m3⟩:=h4 (j*k+i) u (vW VP Ok i u hu);rw[k1]at m1;injection m1 with m1;subst m1;refine⟨m2,?_⟩;rw[<-m3];have:(ad.add (j*k)).add i=ad.add (j*k+i):=by
  unfold Addr.add;split<;>split<;>simp_all<;>omega
 rw[this]
end
def H9(_w:World)(_S:Nat->Prop)(cs:List Value)(p:Int×Int×Int):Prop:=cs=[.int .i64 p.1,.int .i64 p.2.1,.int .i64 p.2.2]
def aAF(_w:World)(_S:Nat->Prop)(cs:List Value)(p:Ld):Prop:=cs=[.int .i64 p.1,.int .i64 p.2.1,.int .i64 p.2.2.1,.int .i64 p.2.2.2]
def Cq(w:World)(S:Nat->Prop)(cs:List Value)(p:Int×Int×Rat):Prop:=∃b a n c b2 a2 n2 c2,cs=[.int .i64 p.1,.int .i64 p.2.1,.bool b,.slice a n c,.bool b2,.slice a2 n2 c2]∧eJ w S (.agg #[.bool b,.slice a n c,.bool b2,.slice a2 n2 c2]) p.2.2
theorem Cq.cC(h:Cq w S cs p)(hk:∀g,S g->w2.heap[g]? =w.heap[g]?):Cq w2 S cs p:=by
 obtain⟨b,a,n,c,b2,a2,n2,c2,h1,h2⟩:=h;exact⟨b,a,n,c,b2,a2,n2,c2,h1,h2.cC hk⟩
theorem Cq.cF(h:Cq w S cs p)(hk:∀g,S g->S' g):Cq w S' cs p:=by
 obtain⟨b,a,n,c,b2,a2,n2,c2,h1,h2⟩:=h;exact⟨b,a,n,c,b2,a2,n2,c2,h1,h2.cF hk⟩
abbrev mh:=eY 3 H9
abbrev jS:=eY 4 aAF
abbrev Ks:=eY 6 Cq
structure dm(w:World)(S:Nat->Prop)(vn vb vs:Value)(f:ed):Prop where
 nodes:mh w S vn f.nodes
 bars:Ks w S vb f.bars
 cM:Ks w S vs f.cM
section
variable{S S':Nat->Prop}{H:Hp}{nx:Nat}{iv iv':Iv}{B:Nat}{w w' w2:World}{O:Nat->Sx.dL}{v vn vb vs:Value}{f:ed}{l:List Ld}
theorem jS.cC(h:jS w S v l)(hk:∀g,S g->w2.heap[g]? =w.heap[g]?):jS w2 S v l:=eY.cC (w:=w) (fun _ _ h=>h) h hk
theorem dm.cC(h:dm w S vn vb vs f)(hk:∀g,S g->w2.heap[g]? =w.heap[g]?):dm w2 S vn vb vs f:=
 ⟨eY.cC (w:=w) (fun _ _ h=>h) h.nodes hk,eY.cC (fun _ _ h=>h.cC hk) h.bars hk,eY.cC (fun _ _ h=>h.cC hk) h.cM hk⟩
theorem dm.cF(h:dm w S vn vb vs f)(hk:∀g,S g->S' g):dm w S' vn vb vs f:=
 ⟨eY.cF (S:=S) (fun _ _ h=>h) h.nodes hk,eY.cF (fun _ _ h=>h.cF hk) h.bars hk,eY.cF (fun _ _ h=>h.cF hk) h.cM hk⟩
theorem dm.rel(h:dm w (Cv S B iv) vn vb vs f)(r:Rel H nx iv B w O w')(hS:∀g,S g->g<B):dm w' (Cv S B iv) vn vb vs f:=h.cC fun _ hg=>Rel.same r hS hg
theorem dm.shape(h:dm w S vn vb vs f):∃an cn ab cb aq cs,vn= .slice an f.nodes.length cn∧vb= .slice ab f.bars.length cb∧vs= .slice aq f.cM.length cs∧f.nodes.length<=maxLen∧f.bars.length<=maxLen∧f.cM.length<=maxLen:=by
 obtain⟨an,cn,h1,_,h2⟩:=h.nodes.shape;obtain⟨ab,cb,h3,_,h4⟩:=h.bars.shape;obtain⟨aq,cs,h5,_,h6⟩:=h.cM.shape;exact⟨an,cn,ab,cb,aq,cs,h1,h3,h5,h2,h4,h6⟩
end
theorem zt{P:Program}{τ:mo}{B nx:Nat}{l:Env}{H:Hp}{iv:Iv}(hτ:fT P τ){t ty len e sz by_:Nat}{ag:Bool}{ze ze2:List Value}{ik ik2:IntKind}{b2 tag2 al2 e0:Nat}{fs fs2:List (Nat×Nat)}{x i:Operand}{pos:String}{vx:SV}{cs:Array Value}{k:IntKind}{m:Int}{u:Value}
  (ht:τ t=some ⟨sz,ag,by_,ze,6,ik,e,len,fs⟩) (PU:τ e=some ⟨1,false,b2,ze2,tag2,ik2,e0,al2,fs2⟩) (hx:ev l x=some vx) (US:∀O,vx.den O= .agg cs) (hi:ev l i=some (.o (.v (.int k m)))) (hm:0<=m∧m<len) (hc:cs[m.toNat]? =some u)
  (hK:∀O w',Rel H nx iv B w O w'->K (.o (.v u)) H nx iv w'):yF P B ⟨dst,.index t x i,ty,pos,after,guard⟩ l H nx iv w K:=by
 have hto:=(hτ t _ ht).i6 rfl;have Rl:=hτ e _ PU;refine FU hto (fun w=>Rl.sizeOf w) (fun w j v hv=>?_) hx US hi hm hc hK;simp[part,Rl.isAgg,hv]
structure jK(w:World)(B:Nat)(iv:Iv)(rv:List Value)(n:Nat)(M:List (List Int)):Prop where
 len:rv.length=M.length
 wid:∀l∈M,l.length=n
 row:∀(i:Nat) v l,rv[i]? =some v->M[i]? =some l->w.ownsRow 0 T.int 1 v n (l.map fun z=>.int .i64 z)
 rW:∀(i j:Nat) a b g,rv[i]? =some a->rv[j]? =some b->a.ownBlock=some g->b.ownBlock=some g->i=j
 new:∀g,Ob rv g->Cv FF B iv g
section
variable{H:Hp}{nx n:Nat}{iv iv':Iv}{B:Nat}{w w' w2:World}{O:Nat->Sx.dL}{rv:List Value}{M:List (List Int)}
theorem jK.nil:jK w B iv [] n []:=⟨rfl,fun l h=>(by cases h),fun i v l h=>(by cases h),fun i j a b g h=>(by cases h),fun g ⟨v,hv,_⟩=>by cases hv⟩
theorem jK.cC(h:jK w B iv rv n M)(hk:∀g,Cv FF B iv g->w2.heap[g]? =w.heap[g]?):jK w2 B iv rv n M:=
 ⟨h.len,h.wid,fun i v l h1 h2=>ownsRow.cC (h.row i v l h1 h2) fun g hg=>hk g (h.new g ⟨v,aE h1,hg⟩),h.rW,h.new⟩
theorem jK.rel(h:jK w B iv rv n M)(r:Rel H nx iv B w O w'):jK w' B iv rv n M:=h.cC fun _ hg=>Rel.same r (eI B) hg
theorem jK.mono(h:jK w B iv rv n M)(hm:∀p,p∈iv->p∈iv'):jK w B iv' rv n M:=⟨h.len,h.wid,h.row,h.rW,fun g hg=>(h.new g hg).mono hm⟩
theorem jK.cD(h:jK w B iv rv n M)(r:Rel H nx iv B w O w')(he:Ext w' w2)(hm:∀p,p∈iv->p∈iv'):jK w2 B iv' rv n M:=
 ((h.rel r).cC fun g hg=>he.block g (Rel.old r (eI B) g hg)).mono hm
theorem jK.form(hM:jK w B iv rv n M){i:Nat}(hv:rv[i]? =some v):∃a c,v= .slice a n c:=by
 obtain⟨l,hl⟩:∃l,M[i]? =some l:=⟨_,aB (by rw[<-hM.len];exact(aD.1 hv).1)⟩
 obtain⟨a,c,h,_⟩:=ig (hM.row i v l hv hl);exact⟨a,c,h⟩
theorem jK.one(hM:jK w B iv rv n M):∀u∈rv,u.oneCell'=true:=fun u hu=>by
 obtain⟨i,hi⟩:=aQ hu;obtain⟨a,c,rfl⟩:=hM.form hi;rfl
theorem jK.load(hM:jK w B iv rv n M){i k:Nat}{c:Nat}(hv:rv[i]? =some (.slice a n c))(hl:M[i]? =some l)(hk:l[k]? =some z):
  ∃ad,a=some ad∧Cv FF B iv ad.block∧w.cell? (ad.add (k*1))=some (.int .i64 z):=by
 have h:=hM.row i _ l hv hl;have hlen:=hM.wid l (aE hl);rcases h.2 with⟨_,h0⟩|⟨g,cap,cur,e,_⟩
 ·have:=(aD.1 hk).1;omega
 ·injection e with e;refine⟨⟨g,0,none⟩,e,hM.new g ⟨_,aE hv,by rw[e];rfl⟩,?_⟩;have:=h.cells (g:=g) (by rw[e];rfl) k (.int .i64 z) (by rw[aM,hk];rfl);rw[aY];exact this
theorem jK.store(hM:jK w B iv rv n M)(r:Rel H nx iv B w O w'){i k:Nat}{c:Nat}(hv:rv[i]? =some (.slice a n c))(hl:M[i]? =some l)(hk:k<n):
  ∃g,a=some ⟨g,0,none⟩∧((⟨g,0,none⟩:Addr).add ((k:Int).toNat*1)).spot=none∧
   (∀j,j<1->(w'.cell? (((⟨g,0,none⟩:Addr).add ((k:Int).toNat*1)).add j)).isSome=true∧w'.frozen? (((⟨g,0,none⟩:Addr).add ((k:Int).toNat*1)).add j)=false)∧
   (∀id b,cV H id=some b->(O id).nil=false->(O id).g≠((⟨g,0,none⟩:Addr).add ((k:Int).toNat*1)).block)∧
   ∀w2,w2=setCells w' ((⟨g,0,none⟩:Addr).add ((k:Int).toNat*1)) [.int .i64 z]->jK w2 B iv rv n (M.set i (l.set k z))∧dT B w' w2∧Rel H nx iv B w2 O w2∧w'.grownBy w2 (some g)∧Ob rv g:=by
 have SW:=hM.rel r;have h1:=SW.row i _ l hv hl;have hlen:=hM.wid l (aE hl);obtain⟨g,rfl,OV,QA,Oc,Oj⟩:=kC (nv:=[.int .i64 z]) h1 rfl hk rfl (by decide);have RG:Ob rv g:=⟨_,aE hv,rfl⟩
 have Om:(⟨g,0,none⟩:Addr).add ((k:Int).toNat*1)=⟨g,k*1,none⟩:=by rw[aF,dA,aV]
 have Px:=Rel.not r (eI B) (hM.new g RG);refine⟨g,rfl,by rw[Om],fun j hj=>by rw[Om];exact OV j hj,fun id b hb hn=>by rw[Om];exact Px id b hb hn,fun w2 PO=>?_⟩;rw[Om]at PO;subst PO;refine⟨⟨by rw[bX];exact hM.len,fun x hx=>?_,fun j v l2 h3 h4=>?_,hM.rW,hM.new⟩,dT.grown Oc (fun x e=>by injection e with e;subst e;exact(hM.new g RG).elim (fun h=>h.elim) fun h=>h.1) r.bz,r.yH Px Oc,Oc,RG⟩
 ·rcases a9 hx with hx|rfl
  ·exact hM.wid x hx
  ·rw[bX];exact hlen
 ·by_cases PE:i=j
  ·subst PE;rw[hv]at h3;injection h3 with h3;subst h3;rw[aO (by rw[<-hM.len];exact(aD.1 hv).1)]at h4;injection h4 with h4;subst h4;rw[List.map_set,<-ju (by rw[aL];omega)];simp only[aY]at QA ⊢;exact QA
  ·rw[aT PE]at h4;refine ownsRow.cC (SW.row j v l2 h3 h4) fun x hx=>Oc.block x ?_ fun e=>?_
   ·exact Rel.old r (eI B) x (hM.new x ⟨v,aE h3,hx⟩)
   ·injection e with e;exact PE (hM.rW i j _ v x hv h3 (by rw[<-e];rfl) hx)
theorem jK.push(hM:jK w B iv rv n M){gx:Nat}(WW:∀g,Cv FF B iv g->g≠gx)(hBx:B<=gx)(hl:l.length=n)(OR:w.ownsRow 0 T.int 1 (.slice (some ⟨gx,0,none⟩) n n) n (l.map fun z=>.int .i64 z)):
  jK w B ((gx,gx+1)::iv) (rv++[.slice (some ⟨gx,0,none⟩) n n]) n (M++[l]):=by
 have RG:∀g,Ob rv g->g≠gx:=fun g hg=>WW g (hM.new g hg);have key:∀(k:Nat) v,(rv++[Value.slice (some ⟨gx,0,none⟩) n n])[k]? =some v->(k<rv.length∧rv[k]? =some v)∨(k=rv.length∧v= .slice (some ⟨gx,0,none⟩) n n):=fun k v hk=>by
  rcases aP k rv.length with hi|hi
  ·rw[aJ hi]at hk;exact .inl ⟨hi,hk⟩
  ·have RX:k=rv.length:=by have:=(aD.1 hk).1;simp at this;omega
   rw[RX,aN (Nat.le_refl _),bB]at hk;simp at hk;exact .inr ⟨RX,hk.symm⟩
 refine⟨by simp[hM.len],fun x hx=>?_,fun i v x h1 h2=>?_,fun i j a b g h1 h2 h3 h4=>?_,fun g hg=>?_⟩
 ·rcases List.mem_append.1 hx with hx|hx
  ·exact hM.wid x hx
  ·rw[bF.1 hx];exact hl
 ·rcases key i v h1 with⟨hi,k1⟩|⟨e1,rfl⟩
  ·rw[aJ (by rw[<-hM.len];exact hi)]at h2;exact hM.row i v x k1 h2
  ·rw[e1,hM.len,aN (Nat.le_refl _),bB]at h2;simp at h2;subst h2;exact OR
 ·rcases key i a h1 with⟨_,k1⟩|⟨e1,rfl⟩<;>rcases key j b h2 with⟨_,k2⟩|⟨e2,rfl⟩
  ·exact hM.rW i j a b g k1 k2 h3 h4
  ·injection h4 with h4;exact absurd h4.symm (RG g ⟨a,aE k1,h3⟩)
  ·injection h3 with h3;exact absurd h3.symm (RG g ⟨b,aE k2,h4⟩)
  ·rw[e1,e2]
 ·rcases Ob.append.1 hg with h|h
  ·exact(hM.new g h).mono fun p hp=>aC _ hp
  ·injection h with h;have h:gx=g:=h;subst h;exact .inr ⟨hBx,_,_,aG,Nat.le_refl _,bV _⟩
end
def DS(w:World)(S:Nat->Prop)(v:Value)(l:List Int):Prop:=iu w S 1 v (l.map fun z=>.int .i64 z) l.length
abbrev Ko:=dG DS
theorem DS.cC(h:DS w S v l)(hk:∀g,S g->w2.heap[g]? =w.heap[g]?):DS w2 S v l:=iu.cC h hk
theorem DS.cF(h:DS w S v l)(hk:∀g,S g->S' g):DS w S' v l:=iu.cF h hk
theorem Ko.cC{M:List (List Int)}(h:Ko w S v M)(hk:∀g,S g->w2.heap[g]? =w.heap[g]?):Ko w2 S v M:=by
 obtain⟨rv,h1,h2,h3⟩:=h;exact⟨rv,h1.cC hk,h2,fun i u x k1 k2=>(h3 i u x k1 k2).cC hk⟩
theorem Ko.cF{M:List (List Int)}(h:Ko w S v M)(hk:∀g,S g->S' g):Ko w S' v M:=by
 obtain⟨rv,h1,h2,h3⟩:=h;exact⟨rv,h1.cF hk,h2,fun i u x k1 k2=>(h3 i u x k1 k2).cF hk⟩
theorem DS.at{m c:Nat}(h:DS w S (.slice a m c) l)(hj:l[j]? =some z):∃ad,a=some ad∧S ad.block∧w.cell? (ad.add (j*1))=some (.int .i64 z):=by
 obtain⟨h0,h1,h2,a',c',e,h3,h4⟩:=h;injection e with e1 e2 e3;subst e1;obtain⟨ad,k1,k2,k3⟩:=h4 j (.int .i64 z) (by rw[aM,hj];rfl);exact⟨ad,k1,k2,by rw[aY];exact k3⟩
theorem DS.shape(h:DS w S v l):∃a c,v= .slice a l.length c∧l.length<=c∧l.length<=maxLen:=by
 obtain⟨h0,h1,h2,a,c,e,h3,h4⟩:=h;exact⟨a,c,e,h3,h0⟩
structure wY(f:ed):Prop where
 co:∀p∈f.nodes,(-1000000<=p.1∧p.1<=1000000)∧(-1000000<=p.2.1∧p.2.1<=1000000)∧(-1000000<=p.2.2∧p.2.2<=1000000)
 JH:∀b∈f.bars,(0<=b.1∧b.1<f.nodes.length)∧(0<=b.2.1∧b.2.1<f.nodes.length)
 sup:∀s∈f.cM,(0<=s.1∧s.1<f.nodes.length)∧(0<=s.2.1∧s.2.1<=2)
 n:f.nodes.length<=20
 b:f.bars.length<=60
 s:f.cM.length<=60
theorem wY.node(h:wY f){i:Int}(h0:0<=i)(h1:i<f.nodes.length):∃k:Nat,∃p,i=k∧k<f.nodes.length∧f.nodes[k]? =some p∧f.node i=p∧(-1000000<=p.1∧p.1<=1000000)∧(-1000000<=p.2.1∧p.2.1<=1000000)∧(-1000000<=p.2.2∧p.2.2<=1000000):=by
 obtain⟨k,rfl⟩:=Int.eq_ofNat_of_zero_le h0;have hk:k<f.nodes.length:=by omega
 refine⟨k,f.nodes[k],rfl,hk,aB hk,?_,h.co _ (aX hk)⟩;rw[ed.node,aF,List.getD,aB hk];rfl
theorem rZ{vn vb vs:Value}{a b:Int}{b3 b6:Bool}{a4 a7:Option Addr}{n4 c4 n7 c7:Nat}(hS:Old S w)(hn:mh w S vn f.nodes)(OV:wY f)(hA:0<=a∧a<f.nodes.length)(hB:0<=b∧b<f.nodes.length):
  dx PG N.lM #[.agg #[vn,vb,vs],.agg #[.int .i64 a,.int .i64 b,.bool b3,.slice a4 n4 c4,.bool b6,.slice a7 n7 c7]] w (eH w fun v' _=>v'= .agg #[.int .i64 ((f.node b).1-(f.node a).1),.int .i64 ((f.node b).2.1-(f.node a).2.1),.int .i64 ((f.node b).2.2-(f.node a).2.2)]):=by
 have hw:=bR w;obtain⟨an,cn,rfl,hcn,RV⟩:=hn.shape;unfold maxLen at RV;obtain⟨ka,pa,ea,Uc,hpa,hna,⟨_,_⟩,⟨_,_⟩,⟨_,_⟩⟩:=OV.node hA.1 hA.2;obtain⟨kb,pb,eb,OT,Ss,hnb,⟨_,_⟩,⟨_,_⟩,⟨_,_⟩⟩:=OV.node hB.1 hB.2;obtain⟨ada,csa,haa,hPa,-,RE⟩:=hn.load (by decide) hpa;obtain⟨adb,csb,QM,hPb,-,Pm⟩:=hn.load (by decide) Ss;have hPa:csa=[.int .i64 pa.1,.int .i64 pa.2.1,.int .i64 pa.2.2]:=hPa;have hPb:csb=[.int .i64 pb.1,.int .i64 pb.2.1,.int .i64 pb.2.2]:=hPb;subst hPa hPb;rw[hna,hnb];subst ea eb;refine ou (by simp) ?_;refine j1 hτ dN (.x 0 (.x 2 (.x 6 (.x 8 (.ld 1 49200 (.ld 3 49200 (.x 4 (.ld 5 49152 (.ld 7 35840 (.ld 9 35840 (.x 10 (.ld 11 32768 (.two 12 (.x 13 (.x 14 (.x 15 .nil))) 13 (.x 12 (.x 14 (.x 15 .nil)))))))))))))))) (by kernel_rfl) (by kernel_rfl) ?_;refine⟨ada,haa,by omega,[.int .i64 pa.1,.int .i64 pa.2.1,.int .i64 pa.2.2],rfl,rdO RE hw hS,adb,QM,by omega,[.int .i64 pb.1,.int .i64 pb.2.1,.int .i64 pb.2.2],rfl,rdO Pm hw hS,?_,?_⟩
 ·refine⟨[.int .i64 pb.1,.int .i64 pb.2.1,.int .i64 pb.2.2],rfl,rdO Pm hw hS,rfl,rfl,rfl,[.int .i64 pa.1,.int .i64 pa.2.1,.int .i64 pa.2.2],rfl,rdO RE hw hS,rfl,rfl,rfl,[.int .i64 pb.1,.int .i64 pb.2.1,.int .i64 pb.2.2],rfl,rdO Pm hw hS,rfl,rfl,rfl,[.int .i64 pa.1,.int .i64 pa.2.1,.int .i64 pa.2.2],rfl,rdO RE hw hS,rfl,rfl,rfl,[.int .i64 pb.1,.int .i64 pb.2.1,.int .i64 pb.2.2],rfl,rdO Pm hw hS,rfl,rfl,rfl,pb.1-pa.1,wo,pb.2.1-pa.2.1,wo,pb.2.2-pa.2.2,wo,?_⟩;exact rtn hw fun ρe we re=>rfl
 ·refine⟨[.int .i64 pb.1,.int .i64 pb.2.1,.int .i64 pb.2.2],rfl,rdO Pm hw hS,rfl,rfl,rfl,[.int .i64 pa.1,.int .i64 pa.2.1,.int .i64 pa.2.2],rfl,rdO RE hw hS,rfl,rfl,rfl,[.int .i64 pb.1,.int .i64 pb.2.1,.int .i64 pb.2.2],rfl,rdO Pm hw hS,rfl,rfl,rfl,[.int .i64 pa.1,.int .i64 pa.2.1,.int .i64 pa.2.2],rfl,rdO RE hw hS,rfl,rfl,rfl,[.int .i64 pb.1,.int .i64 pb.2.1,.int .i64 pb.2.2],rfl,rdO Pm hw hS,rfl,rfl,rfl,pb.1-pa.1,wo,pb.2.1-pa.2.1,wo,pb.2.2-pa.2.2,wo,?_⟩;exact rtn hw fun ρe we re=>rfl
theorem Kp{α:Type}{rv:List α}{a b:α}{i m:Nat}(hl:rv.length=i)(h:i<m):(rv++List.replicate (m-i) b).take i++[a]++(rv++List.replicate (m-i) b).drop (i+1)=(rv++[a])++List.replicate (m-(i+1)) b:=by
 rw[List.take_left' hl,List.drop_append,hl,List.drop_of_length_le (by omega),List.nil_append,List.drop_replicate];congr 2;omega
end Go.Ex
namespace Go.Sx
open Go Go.Ex Go.Proofs
variable{cs:List Value}{O:Nat->Sx.dL}
theorem Rel.MS{H:Hp}{nx:Nat}{iv:Iv}{B:Nat}{w w':World}(r:Rel H nx iv B w O w'){id t m sz:Nat}(h:cV H id=some (.arr t cs))(hm:cs.length=m*sz)(Sd:m<=maxLen)(h1:∀u∈cs,u.oneCell'=true):
  iu w' (fun g=>B<=g∧g<w'.heap.size) sz (.slice (some ⟨(O id).g,0,none⟩) m m) cs m:=by
 have hl:=r.low id _ h (r.fits h).1;refine⟨Sd,hm,h1,_,m,rfl,Nat.le_refl _,fun j u hu=>⟨_,rfl,hl,?_⟩⟩;rw[dA,cell_of (r.arr id _ _ h),aV];exact hu
end Go.Sx
namespace Go.Ex
open Go Go.Sx Go.Proofs
variable{d:Int}{b s:Int×Int×Rat}{M:List (List Int)}{l:List Int}{r:Nat}{S:Nat->Prop}{f:ed}
theorem B9{c:Nat}:(yb M r c d).length=M.length:=bX ..
theorem Il{c:Nat}:(putAt M r c d).length=M.length:=bX ..
def MT(M:List (List Int))(t:Int):Prop:=∀l∈M,∀z∈l,-t<=z∧z<=t
theorem MT.set{t t2:Int}{c:Nat}{z:Int}(h:MT M t)(ht:t<=t2)(hl:M[r]? =some l)(hz: -t2<=z∧z<=t2):MT (M.set r (l.set c z)) t2:=fun x hx y hy=>by
 rcases a9 hx with hx|rfl
 ·have:=h x hx y hy;omega
 ·rcases a9 hy with hy|rfl
  ·have:=h l (aE hl) y hy;omega
  ·exact hz
theorem Ek(f:ed):∀i,(eG f i).length=3*f.nodes.length
 |0=>bN ..
 |i+1=>by
  have h:=Ek f i;have key:∀k,(fD f (eG f i) i k).length=3*f.nodes.length:=fun k=>by
   induction k with
   |zero=>exact h
   |succ k ih=>rw[fD,B9,B9];exact ih
  exact key 3
theorem zu(f:ed):∀i,(fG f i).length=3*f.nodes.length
 |0=>Ek f _
 |i+1=>by rw[fG,Il];exact zu f i
theorem Kq{i k ka kb:Nat}{za zb:Int}{la lb:List Int}(hb:f.bars[i]? =some b)(ea:b.1=ka)(eb:b.2.1=kb)(hd:(jR f b).getD k 0=d)
  (RE:(fD f M i k)[3*ka+k]? =some la) (hza:la[i]? =some za) (Pm:((fD f M i k).set (3*ka+k) (la.set i (za+d)))[3*kb+k]? =some lb) (WX:lb[i]? =some zb):
  ((fD f M i k).set (3*ka+k) (la.set i (za+d))).set (3*kb+k) (lb.set i (zb-d))=fD f M i (k+1):=by
 have h1:f.bars.getD i (0,0,0)=b:=by rw[List.getD,hb];rfl
 have e1:(3*b.1+(k:Int)).toNat=3*ka+k:=by rw[ea];omega
 have e2:(3*b.2.1+(k:Int)).toNat=3*kb+k:=by rw[eb];omega
 have ha:yb (fD f M i k) (3*ka+k) i d=(fD f M i k).set (3*ka+k) (la.set i (za+d)):=by
  rw[yb,show(fD f M i k).getD (3*ka+k) []=la by rw[List.getD,RE];rfl,show la.getD i 0=za by rw[List.getD,hza];rfl]
 rw[fD];simp only[h1,hd,e1,e2,ha]
 rw[yb,show((fD f M i k).set (3*ka+k) (la.set i (za+d))).getD (3*kb+k) []=lb by rw[List.getD,Pm];rfl,show lb.getD i 0=zb by rw[List.getD,WX];rfl,Int.sub_eq_add_neg]
theorem Kr{i ks:Nat}(hs:f.cM[i]? =some s)(es:3*s.1+s.2.1=ks)(hl:(fG f i)[ks]? =some l):(fG f i).set ks (l.set (f.bars.length+i) 1)=fG f (i+1):=by
 rw[fG,putAt];simp only[show f.cM.getD i (0,0,0)=s by rw[List.getD,hs];rfl,es,aF,show(fG f i).getD ks []=l by rw[List.getD,hl];rfl]
set_option maxHeartbeats 2000000 in
theorem Im{w:World}{vn vb vs:Value}(hS:Old S w)(hf:dm w S vn vb vs f)(OV:wY f):
  dx PG N.pe #[.agg #[vn,vb,vs]] w (eH w fun v' w2=>Ko w2 (Nf w w2) v' (jF f)∧MT (jF f) 800000000∧(∀l∈jF f,l.length=f.cols)∧(jF f).length=3*f.nodes.length):=by
 have hw:=bR w;obtain⟨an,cn,ab,cb,aq,cq,rfl,rfl,rfl,RV,RN,Sg⟩:=hf.shape;obtain⟨hn20,hb60,hs60⟩:=And.intro OV.n (And.intro OV.b OV.s);refine uB (by simp) ?_;refine⟨((3*f.nodes.length:Nat):Int),wo,?_⟩;obtain⟨m,hm⟩:∃m,3*f.nodes.length=m:=⟨_,rfl⟩
 rw[hm]
 refine⟨m,m,rfl,rfl,Nat.le_refl _,by omega,by omega,Nat×List Value×World×Iv,fun z=>⟨[(1,pP 0 0),(3,.o (.s 1 0 m m)),(17,iZ m),(18,iN z.1)],[(1,.arr T.Lint (z.2.1++List.replicate (m-z.1) (.slice none 0 0))),(0,.box T.Frame [.v (.slice an f.nodes.length cn),.v (.slice ab f.bars.length cb),.v (.slice aq f.cM.length cq)])],2,z.2.2.2,z.2.2.1⟩,fun z=>m-z.1,
  fun z=>z.1<=m∧z.2.1.length=z.1∧dT w.heap.size w z.2.2.1∧jK z.2.2.1 w.heap.size z.2.2.2 z.2.1 f.cols (List.replicate z.1 (List.replicate f.cols 0)),?_,?_⟩
 ·intro O w' r3;exact⟨(0,[],w',[]),⟨aS _,rfl,hw.tr r3.cL,jK.nil⟩,Sub.gn [] r3⟩
 rintro⟨i,rv,w1,iv⟩ ⟨hi,Pk,hw,hE⟩;dsimp only at hi Pk hw hE ⊢;refine dB.mk ?_ ?_<;>intro OQ
 ·have OQ:i<m:=by simpa using OQ
  refine⟨((f.cols:Nat):Int),by rw[wrap64]<;>first|rfl|omega,f.cols,f.cols,rfl,rfl,Nat.le_refl _,by unfold ed.cols;omega,by unfold ed.cols;omega,by omega,?_⟩;refine Hx hτ (id:=1) (id2:=2) (tH:=[(1,.arr T.Lint (rv++List.replicate (m-i) (.slice none 0 0))),(0,.box T.Frame [.v (.slice an f.nodes.length cn),.v (.slice ab f.bars.length cb),.v (.slice aq f.cM.length cq)])]) rfl rfl (by decide) rfl ⟨rfl,rfl,trivial⟩ rfl (fun O w' r=>?_);have hn:=(r.fits (id:=2) rfl).1;have OR:w'.ownsRow 0 T.int 1 (.slice (some ⟨(O 2).g,0,none⟩) f.cols f.cols) f.cols ((List.replicate f.cols (0:Int)).map fun z=>.int .i64 z):=
   ⟨by simp,.inr ⟨(O 2).g,f.cols,(List.replicate f.cols (Value.int .i64 0)).toArray,rfl,aS _,r.arr 2 _ _ rfl,Nat.le_refl _,by unfold ed.cols maxLen;omega,by simp,by simp⟩⟩
  have Ov:=(hE.rel r).push (gx:=(O 2).g) (l:=List.replicate f.cols 0) (fun g hg e=>Rel.not r (eI _) hg 2 _ rfl hn e.symm) (r.low 2 _ rfl hn).1 (by simp) OR;rw[<-List.replicate_succ']at Ov;have PO:=hw.tr r.cL;generalize (O 2).g=gx at*
  generalize (gx,gx+1)::iv=OU at*
  refine⟨by simp[Pk];omega,(rv++[.slice (some ⟨gx,0,none⟩) f.cols f.cols])++List.replicate (m-(i+1)) (.slice none 0 0),?_,?_⟩
  ·rw[aF,aY,aV];exact Kp Pk OQ
  refine⟨((i+1:Nat):Int),wo,?_⟩;intro ρ3 w3 r3;exact⟨(i+1,rv++[.slice (some ⟨gx,0,none⟩) f.cols f.cols],w3,_),⟨OQ,by simp[Pk],PO.tr r3.cL,Ov.rel r3⟩,Sub.gn [] r3,by dsimp only;omega⟩
 have OQ:i=m:=aU hi (by simpa using OQ);subst OQ;have hE0:jK w1 w.heap.size iv rv f.cols (eG f 0):=by rw[eG,hm];exact hE
 have hbd0:MT (eG f 0) 0:=fun l hl z hz=>by
  rw[eG]at hl;rw[b9 hl]at hz;rw[b9 hz];exact⟨Int.le_refl _,Int.le_refl _⟩
 refine⟨Nat×World×Iv,fun z=>⟨[(1,pP 0 0),(3,.o (.s 1 0 i i)),(34,sV ab f.bars.length cb),(35,iZ f.bars.length),(36,iN z.1)],[(1,.arr T.Lint rv),(0,.box T.Frame [.v (.slice an f.nodes.length cn),.v (.slice ab f.bars.length cb),.v (.slice aq f.cM.length cq)])],2,z.2.2,z.2.1⟩,fun z=>f.bars.length-z.1,
  fun z=>z.1<=f.bars.length∧dT w.heap.size w z.2.1∧jK z.2.1 w.heap.size z.2.2 rv f.cols (eG f z.1)∧MT (eG f z.1) (12000000*z.1),?_,?_⟩
 ·intro O w' r3;exact⟨(0,w',_),⟨aS _,hw.tr r3.cL,hE0.rel r3,hbd0⟩,Sub.gn [] r3 ⟨by simp;rfl,rfl,trivial⟩⟩
 rintro⟨j,w2,iv⟩ ⟨hj,hw,hE,Pe⟩;dsimp only at hj hw hE Pe ⊢;refine dB.mk ?_ ?_<;>intro Pv
 ·have Pv:j<f.bars.length:=by simpa using Pv
  obtain⟨b,hb⟩:∃b,f.bars[j]? =some b:=⟨_,aB Pv⟩
  obtain⟨hA,hB⟩:=OV.JH b (aE hb);obtain⟨ka,pa,ea,Uc,-,hna,⟨_,_⟩,⟨_,_⟩,⟨_,_⟩⟩:=OV.node hA.1 hA.2;obtain⟨kb,pb,eb,OT,-,hnb,⟨_,_⟩,⟨_,_⟩,⟨_,_⟩⟩:=OV.node hB.1 hB.2;obtain⟨adb,cs,QM,hF,-,Pm⟩:=hf.bars.load (by decide) hb;obtain⟨g0,g1,g2,g3,g4,g5,g6,g7,rfl,hF⟩:=hF;refine⟨adb,QM,by omega,[.int .i64 b.1,.int .i64 b.2.1,.bool g0,.slice g1 g2 g3,.bool g4,.slice g5 g6 g7],rfl,rdO Pm hw hS,?_⟩;refine cB (cI (Φ:=fun _ w' v w2=>v= .agg #[.int .i64 ((f.node b.2.1).1-(f.node b.1).1),.int .i64 ((f.node b.2.1).2.1-(f.node b.1).2.1),.int .i64 ((f.node b.2.1).2.2-(f.node b.1).2.2)]) (fun O w' r=>rZ (S:=S) (oS hS r) (hf.cC (kS hw r hS)).nodes OV hA hB) ?_);rintro O PV v1 PL r he Oa rfl;replace hw:=hw.tr Oa;replace hE:=hE.cD (iv':=(PV.heap.size,PL.heap.size)::iv) r he fun x hx=>aC _ hx;generalize (PV.heap.size,PL.heap.size)::iv=OZ at*
  rw[hna,hnb];have hbD:jR f b=[pb.1-pa.1,pb.2.1-pa.2.1,pb.2.2-pa.2.2]:=by rw[jR,hna,hnb]
  refine⟨Nat×World×Iv,fun z=>⟨[(1,pP 0 0),(3,.o (.s 1 0 i i)),(5,iN j),(6,pP 2 0),(43,.o (.v (.agg #[.int .i64 (pb.1-pa.1),.int .i64 (pb.2.1-pa.2.1),.int .i64 (pb.2.2-pa.2.2)]))),(34,sV ab f.bars.length cb),(35,iZ f.bars.length),(36,iN j),(44,iN z.1)],[(2,.box T.Nx [.v (.int .i64 b.1),.v (.int .i64 b.2.1),.v (.bool g0),.v (.slice g1 g2 g3),.v (.bool g4),.v (.slice g5 g6 g7)]),(1,.arr T.Lint rv),(0,.box T.Frame [.v (.slice an f.nodes.length cn),.v (.slice ab f.bars.length cb),.v (.slice aq f.cM.length cq)])],3,z.2.2,z.2.1⟩,fun z=>3-z.1,
   fun z=>z.1<=3∧dT w.heap.size w z.2.1∧jK z.2.1 w.heap.size z.2.2 rv f.cols (fD f (eG f j) j z.1)∧MT (fD f (eG f j) j z.1) (12000000*j+4000000*z.1),?_,?_⟩
  ·intro O w' r3;exact⟨(0,w',_),⟨aS _,hw.tr r3.cL,hE.rel r3,Pe⟩,Sub.gn [] r3⟩
  rintro⟨k,w3,iv⟩ ⟨hk,hw,hE,Pe⟩;dsimp only at hk hw hE Pe ⊢;refine dB.mk ?_ ?_<;>intro OT
  ·have OT:k<3:=by have:=aK OT;omega
   obtain⟨d,hd⟩:∃d,(jR f b).getD k 0=d:=⟨_,rfl⟩
   have hdb: -2000000<=d∧d<=2000000:=by
    rw[<-hd,hbD];rcases(show k=0∨k=1∨k=2 by omega)with rfl|rfl|rfl<;>simp[List.getD]<;>omega
   have hMl:(fD f (eG f j) j k).length=3*f.nodes.length:=by rw[<-hE.len];have:=hE.len;omega
   have Q1:f.cols=f.bars.length+f.cM.length:=rfl;refine zt hτ rfl rfl rfl (fun _=>rfl) rfl ⟨by omega,by omega⟩ (u:=.int .i64 d) ?_ (fun O w4 r=>?_)
   ·rw[<-hd,hbD,aF];rcases(show k=0∨k=1∨k=2 by omega)with rfl|rfl|rfl<;>rfl
   replace hw:=hw.tr r.cL;replace hE:=hE.rel r;obtain⟨la,RE⟩:∃l,(fD f (eG f j) j k)[3*ka+k]? =some l:=⟨_,aB (by first|omega|(rw [bX];omega))⟩
   have hlaw:=hE.wid la (aE RE);obtain⟨za,hza⟩:∃z,la[j]? =some z:=⟨_,aB (by omega)⟩
   have hzab:=Pe la (aE RE) za (aE hza);obtain⟨va,hva⟩:∃v,rv[3*ka+k]? =some v:=⟨_,aB (by have:=(aD.1 RE).1;rw[hE.len];exact this)⟩
   obtain⟨aa5,ca5,rfl⟩:=hE.form hva;obtain⟨ada5,haa5,hxa1,hxa2⟩:=hE.load hva RE hza;refine⟨((3*ka:Nat):Int),by rw[ea,wrap64]<;>omega,((3*ka+k:Nat):Int),wo,by omega,.slice aa5 f.cols ca5,by rw[aF,aY,aV];exact hva,ada5,haa5,by omega,.int .i64 za,fun O w' r=>?_,?_⟩
   ·rw[aF,cJ (w:=w4) (w2:=w') (by rw[c9];exact Rel.same r (eI _) hxa1)];exact hxa2
   refine⟨za+d,wo,ada5,haa5,by omega,?_⟩;intro O w' r;obtain⟨g,hg,h1,h2,h3,h4⟩:=hE.store r (z:=za+d) hva RE (show j<f.cols by omega);rw[haa5]at hg;injection hg with hg;subst hg;refine⟨h1,h2,h3,fun w5 Rp=>?_⟩;obtain⟨k1,k2,k3,-,-⟩:=h4 w5 Rp;replace hw:=(hw.tr r.cL).tr k2;replace Pe:=Pe.set (r:=3*ka+k) (c:=j) (z:=za+d) (t2:=12000000*j+4000000*k+2000000) (by omega) RE (by omega);replace hE:=k1;obtain⟨lb,Pm⟩:∃l,((fD f (eG f j) j k).set (3*ka+k) (la.set j (za+d)))[3*kb+k]? =some l:=⟨_,aB (by first|omega|(rw [bX];omega))⟩
   have hlbw:=hE.wid lb (aE Pm);obtain⟨zb,WX⟩:∃z,lb[j]? =some z:=⟨_,aB (by omega)⟩
   have hzbb:=Pe lb (aE Pm) zb (aE WX);obtain⟨vb,hvb⟩:∃v,rv[3*kb+k]? =some v:=⟨_,aB (by have:=(aD.1 Pm).1;rw[hE.len];exact this)⟩
   obtain⟨ab5,cb5,rfl⟩:=hE.form hvb;obtain⟨adb5,hab5,hxb1,hxb2⟩:=hE.load hvb Pm WX;refine⟨((3*kb:Nat):Int),by rw[eb,wrap64]<;>omega,((3*kb+k:Nat):Int),wo,by omega,.slice ab5 f.cols cb5,by rw[aF,aY,aV];exact hvb,adb5,hab5,by omega,.int .i64 zb,fun O w' r=>?_,?_⟩
   ·rw[aF,cJ (w:=w5) (w2:=w') (by rw[c9];exact Rel.same r (eI _) hxb1)];exact hxb2
   refine⟨zb-d,wo,adb5,hab5,by omega,?_⟩;intro O w' r;obtain⟨g,hg,h1,h2,h3,h4⟩:=hE.store r (z:=zb-d) hvb Pm (show j<f.cols by omega);rw[hab5]at hg;injection hg with hg;subst hg;refine⟨h1,h2,h3,fun w5 Rp=>?_⟩;obtain⟨k1,k2,k3,-,-⟩:=h4 w5 Rp;replace hw:=(hw.tr r.cL).tr k2;replace Pe:=Pe.set (r:=3*kb+k) (c:=j) (z:=zb-d) (t2:=12000000*j+4000000*(k+1:Nat)) (by omega) Pm (by omega);replace hE:=k1;rw[Kq hb ea eb hd RE hza Pm WX]at hE Pe;refine⟨((k+1:Nat):Int),wo,?_⟩;intro ρ3 w6 r3;exact⟨(k+1,w6,_),⟨OT,hw.tr r3.cL,hE.rel r3,Pe⟩,Sub.gn [] r3,by dsimp only;omega⟩
  have OT:k=3:=by have:=aH OT;omega
  subst OT;refine⟨((j+1:Nat):Int),wo,?_⟩;intro ρ3 w6 r3;exact⟨(j+1,w6,_),⟨Pv,hw.tr r3.cL,hE.rel r3,fun l hl z hz=>by have:=Pe l hl z hz;dsimp only;omega⟩,Sub.gn [] r3,by dsimp only;omega⟩
 have Pv:j=f.bars.length:=aU hj (by simpa using Pv);subst Pv
 refine⟨Nat×World×Iv,fun z=>⟨[(1,pP 0 0),(3,.o (.s 1 0 i i)),(79,sV aq f.cM.length cq),(80,iZ f.cM.length),(81,iN z.1)],[(1,.arr T.Lint rv),(0,.box T.Frame [.v (.slice an f.nodes.length cn),.v (.slice ab f.bars.length cb),.v (.slice aq f.cM.length cq)])],2,z.2.2,z.2.1⟩,fun z=>f.cM.length-z.1,
  fun z=>z.1<=f.cM.length∧dT w.heap.size w z.2.1∧jK z.2.1 w.heap.size z.2.2 rv f.cols (fG f z.1)∧MT (fG f z.1) 800000000,?_,?_⟩
 ·intro O w' r3;exact⟨(0,w',_),⟨aS _,hw.tr r3.cL,hE.rel r3,fun l hl z hz=>by have:=Pe l hl z hz;omega⟩,Sub.gn [] r3⟩
 rintro⟨j,w2,iv⟩ ⟨hj,hw,hE,Pe⟩;dsimp only at hj hw hE Pe ⊢;refine dB.mk ?_ ?_<;>intro Pv
 ·have Pv:j<f.cM.length:=by simpa using Pv
  obtain⟨s,hs⟩:∃b,f.cM[j]? =some b:=⟨_,aB Pv⟩
  obtain⟨hA,hB⟩:=OV.sup s (aE hs);obtain⟨ks,hks⟩:=Int.eq_ofNat_of_zero_le (show 0<=3*s.1+s.2.1 by omega);have Q1:f.cols=f.bars.length+f.cM.length:=rfl;have hMl:=zu f j;obtain⟨l,hl⟩:∃l,(fG f j)[ks]? =some l:=⟨_,aB (by omega)⟩
  have hlw:=hE.wid l (aE hl);obtain⟨v,hv⟩:∃v,rv[ks]? =some v:=⟨_,aB (by rw[hE.len];omega)⟩
  obtain⟨a5,c5,rfl⟩:=hE.form hv;obtain⟨z0,Of⟩:∃z,l[f.bars.length+j]? =some z:=⟨_,aB (by omega)⟩
  obtain⟨ad5,ha5,-,-⟩:=hE.load hv hl Of;obtain⟨adb,cs,QM,hF,-,Pm⟩:=hf.cM.load (by decide) hs;obtain⟨g0,g1,g2,g3,g4,g5,g6,g7,rfl,hF⟩:=hF;refine⟨adb,QM,by omega,[.int .i64 s.1,.int .i64 s.2.1,.bool g0,.slice g1 g2 g3,.bool g4,.slice g5 g6 g7],rfl,rdO Pm hw hS,?_⟩;refine cH hτ dN [.x 0,.x 1,.x 2,.x 3,.x 4,.x 5,.x 6,.x 7,.x 8,.x 9,.x 10,.x 11,.x 12,.x 13,.x 14,.x 15] (by kernel_rfl) (by kernel_rfl) ?_;refine⟨3*s.1,wo,((ks:Nat):Int),wo,by omega,.slice a5 f.cols c5,by rw[aF,aY,aV];exact hv,((f.bars.length+j:Nat):Int),wo,ad5,ha5,by omega,?_⟩;intro O w' r;obtain⟨g,hg,h1,h2,h3,h4⟩:=hE.store r (z:=1) hv hl (show f.bars.length+j<f.cols by omega);rw[ha5]at hg;injection hg with hg;subst hg;refine⟨h1,h2,h3,fun w5 Rp=>?_⟩;obtain⟨k1,k2,k3,-,-⟩:=h4 w5 Rp;replace hw:=(hw.tr r.cL).tr k2;have Us:=Pe.set (r:=ks) (c:=f.bars.length+j) (z:=1) (t2:=800000000) (by omega) hl (by omega);rw[Kr hs hks hl]at k1 Us;refine⟨((j+1:Nat):Int),wo,?_⟩;intro ρ3 w6 r3;exact⟨(j+1,w6,_),⟨Pv,hw.tr r3.cL,k1.rel r3,Us⟩,Sub.gn [] r3,by dsimp only;omega⟩
 have Pv:j=f.cM.length:=aU hj (by simpa using Pv);subst Pv;intro ρe we re;have Ov:=hE.rel re;have hMl:=zu f f.cM.length;have TM:=hE.len;refine⟨_,rfl,hw.tr re.cL,⟨rv,?_,hE.len,fun i u x k1 k2=>?_⟩,Pe,hE.wid,by rw[<-hm];exact hMl⟩
 ·rw[show (jF f).length=rv.length from hE.len.symm];have h5:=re.MS (id:=1) (sz:=1) (m:=rv.length) rfl (by simp) (by unfold maxLen;omega) hE.one;rw[show (i:Nat)=rv.length by omega];exact h5.cF fun g hg=>.inr hg
 ·obtain⟨a,c,rfl⟩:=hE.form k1;have QC:=hE.wid x (aE k2);refine⟨by rw[QC];unfold ed.cols maxLen;omega,by simp,fun v hv=>by obtain⟨z,_,rfl⟩:=aR.1 hv;rfl,a,c,by rw[QC],?_,fun t v hv=>?_⟩
  ·rw[QC];obtain⟨a2,c2,e,h⟩:=ig (hE.row i _ x k1 k2);injection e with e1 e2 e3;omega
  ·rw[aM]at hv
   cases ht:x[t]? with
   |none=>rw[ht]at hv;cases hv
   |some z=>
    rw[ht]at hv;simp only[bY,Option.some.injEq]at hv;subst hv;obtain⟨ad,h1,h2,h3⟩:=Ov.load k1 k2 ht;exact⟨ad,h1,Cv.nw h2 re,by rw[aY]at h3;exact h3⟩
end Go.Ex
