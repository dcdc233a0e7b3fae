/- Texts X135 to X138: lemmas, each with its conditions. -/
import Derived.Test.YtgkpbdkechfgmaaGreatP12
namespace Go.Ex
open Go Go.Sx Go.Proofs
variable{iv:Iv}{M:List (List Rat)}{css:List (List Value)}{ps pv:List Nat}{b qs x:List Rat}{cs:List Value}{B g h id:Nat}{C S:Nat->Prop}{O:Nat->Sx.eE}{a ax:Option Addr}{row:Option Nat}{q:Rat}{v:Value}{w:World}
section
variable{S S':Nat->Prop}{H:Hp}{nx n:Nat}{iv iv':Iv}{B:Nat}{w w' w2:World}{O:Nat->Sx.eE}{v:Value}{qs:List Rat}
theorem eO.aDw{w0 w1:World}(h:eO w1 S w0.heap.size iv v n qs)(r:Rel H nx iv w0.heap.size w1 O w')(hS:Old S w0):eO w' S w0.heap.size [(w0.heap.size,w'.heap.size)] v n qs:=by
 have h2:=h.rel r hS;have key:∀g {X:Nat->Prop},Cv X w0.heap.size iv g->Cv X w0.heap.size [(w0.heap.size,w'.heap.size)] g:=fun g X hg=>by
  rcases hg with hg|⟨h1,lo,hi,h2,h3,h4⟩
  ·exact .inl hg
  ·exact .inr ⟨h1,_,_,bE.2 rfl,h1,by have:=r.so lo hi h2;have:=r.size;omega⟩
 exact⟨h2.row.cL fun g hg=>⟨key g hg.1,hg.2⟩,fun g hg=>key g (h2.new g hg)⟩
theorem eO.aDc(h:eO w2 (Cv S B iv) w'.heap.size [(w'.heap.size,w2.heap.size)] v n qs)(hB:B<=w'.heap.size):eO w2 S B ((w'.heap.size,w2.heap.size)::iv) v n qs:=by
 have key:∀g {X Y:Nat->Prop},(∀g,Y g->Cv X B iv g)->Cv Y w'.heap.size [(w'.heap.size,w2.heap.size)] g->Cv X B ((w'.heap.size,w2.heap.size)::iv) g:=fun g X Y hY hg=>by
  rcases hg with hg|⟨h1,lo,hi,h2,h3,h4⟩
  ·exact(hY g hg).mono fun p hp=>aC _ hp
  ·simp at h2;obtain⟨rfl,rfl⟩:=h2;exact .inr ⟨by omega,_,_,aI,h3,h4⟩
 exact⟨h.row.cL fun g hg=>⟨key g (fun _ h=>h) hg.1,hg.2⟩,fun g hg=>key g (fun _ h=>h.elim) (h.new g hg)⟩
def Bs(S:Nat->Prop)(B:Nat)(iv:Iv)(v:Value)(g:Nat):Prop:=Cv S B iv g∧v.ownBlock≠some g
theorem Bs.kept(r:Rel H nx iv B w O w')(hS:∀g,S g->g<B)(hg:w'.grownBy w2 row)(OX:∀g,row=some g->v.ownBlock=some g):∀g,Bs S B iv v g->w2.heap[g]? =w.heap[g]? :=fun g h=>by
 rw[hg.block g (Rel.old r hS g h.1) fun e=>h.2 (OX g e.symm),Rel.same r hS h.1]
theorem Bs.same(r:Rel H nx iv B w O w')(hS:∀g,S g->g<B):∀g,Bs S B iv v g->w'.heap[g]? =w.heap[g]? :=fun g h=>Rel.same r hS h.1
theorem Bs.of(r:Rel H nx iv B w O w')(hS:∀g,S g->g<B)(hm:∀p,p∈iv->p∈iv')(hn:eO w2 FF w'.heap.size [(w'.heap.size,w2.heap.size)] v n qs)(h:Cv S B iv g):Bs S B iv' v g:=
 ⟨h.mono hm,fun e=>by
  have h1:=Rel.old r hS g h;rcases hn.new g e with h2|⟨h2,_⟩
  ·exact h2
  ·omega⟩
theorem Bs.mono(hm:∀p,p∈iv->p∈iv')(h:Bs S B iv v g):Bs S B iv' v g:=⟨h.1.mono hm,h.2⟩
theorem dF.at{m c j p:Nat}(h:dF w S (.slice a m c) ps)(hj:ps[j]? =some p):∃ad,a=some ad∧S ad.block∧w.cell? (ad.add (j*1))=some (.int .i64 (p:Int)):=by
 obtain⟨h0,h1,h2,a',c',e,h3,h4⟩:=h;injection e with e1 e2 e3;subst e1;obtain⟨ad,k1,k2,k3⟩:=h4 j (.int .i64 (p:Int)) (by rw[aN,hj];rfl);exact⟨ad,k1,k2,by rw[aY];exact k3⟩
theorem dF.shape(h:dF w S v ps):∃a c,v= .slice a ps.length c∧ps.length<=c∧ps.length<=maxLen:=by
 obtain⟨h0,h1,h2,a,c,e,h3,h4⟩:=h;exact⟨a,c,e,h3,h0⟩
end
theorem DH{E:List (List Rat)}{at_:List (Option Nat)}{fr:List Nat}{n:Nat}(hE:fq n E)(PC:∀(k r:Nat),at_[k]? =some (some r)->r<E.length):∀k,k<=at_.length->fq n (dO (E,at_,fr) k).1∧∀p∈(dO (E,at_,fr) k).2.1,p<k
 |0,_=>⟨(fun r hr=>by cases hr),fun p hp=>by cases hp⟩
 |k+1,hk=>by
  have ih:=DH (fr:=fr) hE PC k (by omega);obtain⟨o,ho⟩:∃o,at_[k]? =some o:=⟨_,aB (by omega)⟩
  cases o with
  |none=>
   rw[oH (s:=(E,at_,fr)) ho];exact⟨ih.1,fun p hp=>Nat.lt_succ_of_lt (ih.2 p hp)⟩
  |some r=>
   rw[oI (s:=(E,at_,fr)) ho];refine⟨fun x hx=>?_,fun p hp=>?_⟩
   ·rcases List.mem_append.1 hx with hx|hx
    ·exact ih.1 x hx
    ·rw[bE.1 hx];have:=PC k r ho;dsimp only
     rw[List.getD,aB this];exact hE _ (a9 this)
   ·rcases List.mem_append.1 hp with hp|hp
    ·exact Nat.lt_succ_of_lt (ih.2 p hp)
    ·rw[bE.1 hp];exact bU _
theorem uG{n:Nat}(cols:Nat)(hM:fq n M):(db M cols).1.length=(db M cols).2.1.length∧(db M cols).2.2.length=(db M cols).2.1.length∧fq n (db M cols).1∧(∀p∈(db M cols).2.1,p<cols)∧(db M cols).2.1.length<=cols:=by
 have Oc:=Bo cols hM M.length (Nat.le_refl _);unfold db;generalize im M cols M.length=s at*
 obtain⟨E,at_,fr⟩:=s;have Qg:at_.length=cols:=Oc.at_;obtain⟨q1,q2,-,q4⟩:=xb (E,at_,fr) [] cols (by show cols<=at_.length;omega);obtain⟨f1,f2⟩:=DH (E:=E) (at_:=at_) (fr:=fr) Oc.len Oc.lt cols (by omega);exact⟨q1,q2,f1,f2,q4⟩
theorem mX(M:List (List Rat))(b:List Rat):(kl M b).length=M.length:=List.length_mapIdx
theorem Mt{n:Nat}(h:fq n M):fq (n+1) (kl M b):=fun r hr=>by
 obtain⟨i,hi⟩:=aS hr;rw[kl,List.getElem?_mapIdx]at hi
 cases hM:M[i]? with
 |none=>rw[hM]at hi;cases hi
 |some x=>
  rw[hM]at hi;simp only[bh,Option.some.injEq]at hi;rw[<-hi,List.length_append,h x (aD hM)];rfl
theorem KC{H:Hp}{nx:Nat}{w':World}(r:Rel H nx iv B w O w')(h:dM H id=some (.vec T.Rat 4 ([]++css.flatten++cs)))(hF:Fc w' S css x)(hq:jn w' S cs q)(hm:x.length<maxLen):
  (O id).nil=false∧cR w' (Cv S B (((O id).g,(O id).g+1)::iv)) (.slice (some ⟨(O id).g,0,none⟩) (x.length+1) (O id).cap) (x++[q]):=by
 have Ok:=eD hF.mV;have hl:([]++css.flatten++cs).length=(x.length+1)*4:=by rw[List.nil_append,List.length_append,Ok,hF.1,hq.len];omega
 have Rg:=hF.push hq;have he:[]++css.flatten++cs=(css++[cs]).flatten:=by simp
 have hv:=aBy r (sz:=4) (m:=x.length+1) h hl (by omega) (by decide) (by omega) (fun u hu=>Rg.one u (by rw[<-he];exact hu));refine⟨hv.1,css++[cs],?_,Rg.1,Rg.mV,fun j c y k1 k2=>(Rg.2 j c y k1 k2).cL fun g hg=>.inl hg⟩;rw[List.length_append,List.length_singleton,<-he];exact hv.2.2.cL fun g hg=>.inr ⟨by have:=hv.2.1;omega,_,_,aI,by omega,by omega⟩
set_option maxHeartbeats 2000000 in
theorem Et{D:Nat->Prop}{u:Value}{cols:Nat}(hC:Old C w)(hD:Old D w)(hS:Old S w)(hM:mW w C S v M)(hb:gj w D S u b)(QH:b.length=M.length)(hlen:fq cols M)(hn:cols<=999)(hR:M.length<=1000)(hB:Ga (kl M b) (cols+1) h)(hh:3*h<=90000):
  eA PG N.jo #[.agg #[v,.int .i64 cols],u] w (eL w fun v' w2=>(pf M b cols=none∧v'= .tuple #[.slice none 0 0,.bool false])∨∃x vx,pf M b cols=some x∧v'= .tuple #[vx,.bool true]∧eO w2 S w.heap.size [(w.heap.size,w2.heap.size)] vx cols x):=by
 have hw:=bR w;obtain⟨am,cm,rfl,Ri,Q9⟩:=mW.shape hM;obtain⟨ab,cb,rfl,PO,RJ⟩:=gj.shape hb;unfold maxLen at Q9 RJ;refine qD (by simp) ?_
 refine⟨((cols+1:Nat):Int),wo,Nat×List Value×World×Iv,fun z=>⟨[(20,iN z.1),(1,sV ab b.length cb),(2,pP 0 0),(6,pP 1 0),(18,sV am M.length cm),(19,iZ M.length)],[(1,.box T.eG [.w 2 z.2.1.length,.v (.int .i64 ((cols+1:Nat):Int))]),(2,.vec T.fz 1 z.2.1),(0,.box T.eG [.v (.slice am M.length cm),.v (.int .i64 cols)])],3,z.2.2.2,z.2.2.1⟩,fun z=>M.length-z.1,
  fun z=>z.1<=M.length∧dg w.heap.size w z.2.2.1∧dS z.2.2.1 (Cv S w.heap.size z.2.2.2) z.2.1 ((kl M b).take z.1),?_,?_⟩
 ·intro O w' r
  exact⟨(0,[],w',[]),⟨aO _,hw.tr r.cS,by simp[dS]⟩,Sub.Du 1 0 T.fz 1 rfl rfl (by simp[jw,SV.sc,At.sc,fQ]) r fun ρ1 r1=>
   Sub.gn [] r1⟩
 rintro⟨i,rv,w1,iv⟩ ⟨hi,hw,hK⟩;dsimp only at hi hw hK ⊢;have Ot:rv.length=i:=by rw[hK.1,aZ,mX];omega
 refine dG.mk ?_ ?_<;>intro OW
 ·have OW:i<M.length:=by simpa using OW
  obtain⟨x,hx⟩:∃r,M[i]? =some r:=⟨_,aB OW⟩
  have Pr:=hlen x (aD hx);obtain⟨q,hq⟩:∃r,b[i]? =some r:=⟨_,aB (by omega)⟩
  have RC:b.getD i 0=q:=by rw[List.getD,hq];rfl
  have Oq:(kl M b).take (i+1)=(kl M b).take i++[x++[q]]:=by
   rw[List.take_add_one,show(kl M b)[i]? =some (x++[q]) by rw[kl,List.getElem?_mapIdx,hx,<-RC];rfl];rfl
  obtain⟨adm,um,SN,QE,km1,km2⟩:=mW.load hM hx;obtain⟨css,⟨-,g1,g2,a0,c0,rfl,g4,g5⟩,QB,Uz,Ox⟩:=QE;have Ok:=eD Uz;obtain⟨adq,cs,UY,hF,hl⟩:=gj.load hb hq;obtain⟨b3,a3,n3,c3,b4,a4,n4,c4,rfl,hF⟩:=hF;refine⟨adm,SN,by omega,.slice a0 x.length c0,rd1 km2 hw (hC _ km1),?_⟩;refine ja hτ dZ (.x 0 (.x 3 (.x 5 (.x 6 (.x 7 (.ld 1 28672 (.ld 8 32256 (.two 2 (.two 4 (.x 9 (.x 10 (.pC 6 (.x 11 (.x 12 (.x 13 (.x 14 .nil))))))) 9 (.x 4 (.x 10 (.pC 6 (.x 11 (.x 12 (.x 13 (.x 14 .nil)))))))) 9 (.x 2 (.x 4 (.x 10 (.pC 6 (.x 11 (.x 12 (.x 13 (.x 14 .nil)))))))))))))))) (by kernel_rfl) (by kernel_rfl) ?_;refine⟨adq,UY,by omega,[.bool b3,.slice a3 n3 c3,.bool b4,.slice a4 n4 c4],rfl,rdO hl hw hD,?_,?_⟩
  ·refine⟨[.bool b3,.slice a3 n3 c3,.bool b4,.slice a4 n4 c4],rfl,rdO hl hw hD,rfl,rfl,?_,?_⟩
   ·refine .inl ?_;refine⟨css.flatten,g1,g2,fun O w' r PL=>?_,?_⟩
    ·obtain⟨u0,XR⟩:∃u,css.flatten[0]? =some u:=⟨_,aB (by omega)⟩
     obtain⟨ad,ha,_,_⟩:=g5 0 u0 XR;refine⟨ad,ha,fun j u hj=>?_⟩;obtain⟨ad2,RB,q1,q2⟩:=g5 j u hj;rw[ha]at RB;injection RB with RB;subst RB;rw[cM (w:=w) (w2:=w') (by rw[dD];exact(hw.tr r.cS).block _ (hS _ q1))];exact q2
    refine⟨rfl,by omega,by unfold maxLen;omega,?_⟩;rw[aW x.length];refine⟨[.bool b3,.slice a3 n3 c3,.bool b4,.slice a4 n4 c4],rfl,rdO hl hw hD,rfl,rfl,rfl,?_⟩;refine .inl ?_;refine⟨by rw[<-g1];rfl,by omega,by unfold maxLen;omega,rfl,[(1,.box T.eG [.w 2 rv.length,.v (.int .i64 ((cols+1:Nat):Int))]),(2,.vec T.fz 1 rv),(0,.box T.eG [.v (.slice am M.length cm),.v (.int .i64 cols)])],_,rfl,by simp,⟨rfl,rfl,rfl,trivial⟩,rfl,fun O w' r=>?_⟩;have hv:=KC (S:=S) (x:=x) (q:=q) (css:=css) r (id:=6) rfl ⟨QB,fun j cs q k1 k2=>(Ox j cs q k1 k2).cJ fun g hg=>(hw.tr r.cS).block g (hS g hg)⟩ (hF.cJ (kS hw r hS)).sX (by unfold maxLen;omega);refine⟨hv.1,_,x8 (tl:=[(25,pP 1 0),(26,.o (.w 2 rv.length)),(20,iN i),(1,sV ab b.length cb),(2,pP 0 0),(6,pP 1 0),(18,sV am M.length cm),(19,iZ M.length)]) hv.1 (t:=35) (n:=x.length+1) rfl ⟨rfl,rfl,rfl,rfl,rfl,rfl,rfl,rfl,trivial⟩ (by simp[jw,SV.sc,At.sc]),?_⟩;replace hK:=(dS.cL (hK.rel r hS) (fun g hg=>hg.mono fun p hp=>aC _ hp)).push rfl hv.2;rw[<-Oq]at hK;replace hw:=hw.tr r.cS;generalize (O 6).g=gx at*
    generalize (O 6).cap=cx at*
    generalize (gx,gx+1)::iv=Oa at*
    refine⟨rfl,?_⟩;refine .inl ?_;refine⟨by simp,by omega,by unfold maxLen;omega,((i+1:Nat):Int),wo,?_⟩;intro ρ3 w3 r3;exact⟨(i+1,rv++[.slice (some ⟨gx,0,none⟩) (x.length+1) cx],w3,_),⟨OW,hw.tr r3.cS,hK.rel r3 hS⟩,Sub.gn [(2,8)] r3 ⟨by dsimp only;rw[List.length_append,List.length_singleton];rfl,rfl,rfl,trivial⟩,by dsimp only;omega⟩
   ·refine⟨rfl,?_⟩;refine .inl ?_;refine⟨css.flatten,g1,g2,fun O w' r PL=>?_,?_⟩
    ·obtain⟨u0,XR⟩:∃u,css.flatten[0]? =some u:=⟨_,aB (by omega)⟩
     obtain⟨ad,ha,_,_⟩:=g5 0 u0 XR;refine⟨ad,ha,fun j u hj=>?_⟩;obtain⟨ad2,RB,q1,q2⟩:=g5 j u hj;rw[ha]at RB;injection RB with RB;subst RB;rw[cM (w:=w) (w2:=w') (by rw[dD];exact(hw.tr r.cS).block _ (hS _ q1))];exact q2
    refine⟨rfl,by omega,by unfold maxLen;omega,?_⟩;rw[aW x.length];refine⟨rfl,?_⟩;refine .inl ?_;refine⟨by rw[<-g1];rfl,by omega,by unfold maxLen;omega,rfl,[(1,.box T.eG [.w 2 rv.length,.v (.int .i64 ((cols+1:Nat):Int))]),(2,.vec T.fz 1 rv),(0,.box T.eG [.v (.slice am M.length cm),.v (.int .i64 cols)])],_,rfl,by simp,⟨rfl,rfl,rfl,trivial⟩,rfl,fun O w' r=>?_⟩;have hv:=KC (S:=S) (x:=x) (q:=q) (css:=css) r (id:=6) rfl ⟨QB,fun j cs q k1 k2=>(Ox j cs q k1 k2).cJ fun g hg=>(hw.tr r.cS).block g (hS g hg)⟩ (hF.cJ (kS hw r hS)).sX (by unfold maxLen;omega);refine⟨hv.1,_,x8 (tl:=[(25,pP 1 0),(26,.o (.w 2 rv.length)),(20,iN i),(1,sV ab b.length cb),(2,pP 0 0),(6,pP 1 0),(18,sV am M.length cm),(19,iZ M.length)]) hv.1 (t:=35) (n:=x.length+1) rfl ⟨rfl,rfl,rfl,rfl,rfl,rfl,rfl,rfl,trivial⟩ (by simp[jw,SV.sc,At.sc]),?_⟩;replace hK:=(dS.cL (hK.rel r hS) (fun g hg=>hg.mono fun p hp=>aC _ hp)).push rfl hv.2;rw[<-Oq]at hK;replace hw:=hw.tr r.cS;generalize (O 6).g=gx at*
    generalize (O 6).cap=cx at*
    generalize (gx,gx+1)::iv=Oa at*
    refine⟨rfl,?_⟩;refine .inl ?_;refine⟨by simp,by omega,by unfold maxLen;omega,((i+1:Nat):Int),wo,?_⟩;intro ρ3 w3 r3;exact⟨(i+1,rv++[.slice (some ⟨gx,0,none⟩) (x.length+1) cx],w3,_),⟨OW,hw.tr r3.cS,hK.rel r3 hS⟩,Sub.gn [(2,8)] r3 ⟨by dsimp only;rw[List.length_append,List.length_singleton];rfl,rfl,rfl,trivial⟩,by dsimp only;omega⟩
  ·refine⟨rfl,rfl,?_⟩;refine .inl ?_;refine⟨css.flatten,g1,g2,fun O w' r PL=>?_,?_⟩
   ·obtain⟨u0,XR⟩:∃u,css.flatten[0]? =some u:=⟨_,aB (by omega)⟩
    obtain⟨ad,ha,_,_⟩:=g5 0 u0 XR;refine⟨ad,ha,fun j u hj=>?_⟩;obtain⟨ad2,RB,q1,q2⟩:=g5 j u hj;rw[ha]at RB;injection RB with RB;subst RB;rw[cM (w:=w) (w2:=w') (by rw[dD];exact(hw.tr r.cS).block _ (hS _ q1))];exact q2
   refine⟨rfl,by omega,by unfold maxLen;omega,?_⟩;rw[aW x.length];refine⟨rfl,?_⟩;refine .inl ?_;refine⟨by rw[<-g1];rfl,by omega,by unfold maxLen;omega,rfl,[(1,.box T.eG [.w 2 rv.length,.v (.int .i64 ((cols+1:Nat):Int))]),(2,.vec T.fz 1 rv),(0,.box T.eG [.v (.slice am M.length cm),.v (.int .i64 cols)])],_,rfl,by simp,⟨rfl,rfl,rfl,trivial⟩,rfl,fun O w' r=>?_⟩;have hv:=KC (S:=S) (x:=x) (q:=q) (css:=css) r (id:=6) rfl ⟨QB,fun j cs q k1 k2=>(Ox j cs q k1 k2).cJ fun g hg=>(hw.tr r.cS).block g (hS g hg)⟩ (hF.cJ (kS hw r hS)).sX (by unfold maxLen;omega);refine⟨hv.1,_,x8 (tl:=[(25,pP 1 0),(26,.o (.w 2 rv.length)),(20,iN i),(1,sV ab b.length cb),(2,pP 0 0),(6,pP 1 0),(18,sV am M.length cm),(19,iZ M.length)]) hv.1 (t:=35) (n:=x.length+1) rfl ⟨rfl,rfl,rfl,rfl,rfl,rfl,rfl,rfl,trivial⟩ (by simp[jw,SV.sc,At.sc]),?_⟩;replace hK:=(dS.cL (hK.rel r hS) (fun g hg=>hg.mono fun p hp=>aC _ hp)).push rfl hv.2;rw[<-Oq]at hK;replace hw:=hw.tr r.cS;generalize (O 6).g=gx at*
   generalize (O 6).cap=cx at*
   generalize (gx,gx+1)::iv=Oa at*
   refine⟨rfl,?_⟩;refine .inl ?_;refine⟨by simp,by omega,by unfold maxLen;omega,((i+1:Nat):Int),wo,?_⟩;intro ρ3 w3 r3;exact⟨(i+1,rv++[.slice (some ⟨gx,0,none⟩) (x.length+1) cx],w3,_),⟨OW,hw.tr r3.cS,hK.rel r3 hS⟩,Sub.gn [(2,8)] r3 ⟨by dsimp only;rw[List.length_append,List.length_singleton];rfl,rfl,rfl,trivial⟩,by dsimp only;omega⟩
 have OW:i=M.length:=aQ hi (by simpa using OW);rw[List.take_of_length_le (by rw[mX];omega)]at hK;have Vc:=Mt (b:=b) hlen;obtain⟨f1,f2,f3,f4,f5⟩:=uG (cols+1) Vc;generalize hA:(db (kl M b) (cols+1)).1=A at*
 generalize hP:(db (kl M b) (cols+1)).2.1=pv at*
 refine⟨((cols+1:Nat):Int),wo,?_⟩
 refine cH (cP (Φ:=fun _ w' v w2=>∃vr vp vf,v= .agg #[vr,.int .i64 ((cols+1:Nat):Int),vp,vf]∧cW w2 (Nw (Cv S w.heap.size iv) w' w2) vr A∧dF w2 (Nf w' w2) vp pv∧dF w2 (Nf w' w2) vf (db (kl M b) (cols+1)).2.2) (fun O w' r=>by
  rw[<-hA,<-hP]
  exact yr (C:=fun g=>g<w'.heap.size) (fun g hg=>hg) (Rel.old r hS) ⟨rv,by rw[mX,<-OW,<-Ot];exact(r.gz (id:=2) (sz:=1) (m:=rv.length) rfl (by simp) (by unfold maxLen;omega) (by decide) hK.2.1).cL fun g hg=>hg.2,hK.1,fun i u x h1 h2=>cR.rel (hK.2.2 i u x h1 h2) r hS⟩ Vc (by omega) (by omega) (by rw[mX];omega) (Nat.le_refl _) hB hh) ?_)
 rintro O Pa v1 PJ r he Oh ⟨vr,vp,vf,rfl,k1,k2,k3⟩;replace hw:=hw.tr Oh;have hR:=cW.old k1 r.cI;have hV:=dF.dK (S:=FF) k2 r.cI (iv:=(Pa.heap.size,PJ.heap.size)::iv) aI;have hX:=dF.dK (S:=FF) k3 r.cI (iv:=(Pa.heap.size,PJ.heap.size)::iv) aI;generalize (Pa.heap.size,PJ.heap.size)::iv=Od at*
 obtain⟨ar,cr,rfl,UG,hmr⟩:=dA.shape hR;obtain⟨ap,cp,rfl,YD,hmp⟩:=dF.shape hV;obtain⟨af,cf,rfl,-,-⟩:=dF.shape hX;refine cH (cP (Φ:=fun _ w' v w2=>eO w2 FF w'.heap.size [(w'.heap.size,w2.heap.size)] v cols (List.replicate cols 0)) (fun O w' r=>DD cols w' (by omega)) ?_);rintro O QR v2 PY r he Oh hn;replace hw:=hw.tr Oh;replace hR:=cW.cL (S':=Bs S w.heap.size ((QR.heap.size,PY.heap.size)::Od) v2) (cW.cJ (cW.rel hR r hS) fun g hg=>he.block g (Rel.old r hS g hg)) fun g hg=>Bs.of r hS (fun x hx=>aC _ hx) hn hg;replace hV:=dF.cL (S':=Bs FF w.heap.size ((QR.heap.size,PY.heap.size)::Od) v2) (dF.cJ (dF.rel hV r (cG w)) fun g hg=>he.block g (Rel.old r (cG w) g hg)) fun g hg=>Bs.of r (cG w) (fun x hx=>aC _ hx) hn hg;have hX:=hn.dK (S:=S) r.cI (iv:=(QR.heap.size,PY.heap.size)::Od) aI;generalize (QR.heap.size,PY.heap.size)::Od=Oa at*
 obtain⟨ax,cx,rfl,TU⟩:=hX.row.form;have hXl:=hX.row.le;unfold maxLen at hXl
 refine⟨Nat×World×Iv,fun z=>⟨[(51,iN z.1),(2,pP 0 0),(9,pP 3 0),(10,sV ax cols cx),(49,sV ap pv.length cp),(50,iZ pv.length)],[(3,.box T.df [.v (.slice ar A.length cr),.v (.int .i64 ((cols+1:Nat):Int)),.v (.slice ap pv.length cp),.v (.slice af (db (kl M b) (cols+1)).2.2.length cf)]),(0,.box T.eG [.v (.slice am M.length cm),.v (.int .i64 cols)])],4,z.2.2,z.2.1⟩,fun z=>pv.length-z.1,
  fun z=>z.1<=pv.length∧(∀(t p:Nat),t<z.1->pv[t]? =some p->p≠cols)∧dg w.heap.size w z.2.1∧cW z.2.1 (Bs S w.heap.size z.2.2 (.slice ax cols cx)) (.slice ar A.length cr) A∧dF z.2.1 (Bs FF w.heap.size z.2.2 (.slice ax cols cx)) (.slice ap pv.length cp) pv∧eO z.2.1 S w.heap.size z.2.2 (.slice ax cols cx) cols (iR A pv cols z.1),?_,?_⟩
 ·intro O w' r;exact⟨(0,w',_),⟨aO _,fun t p ht=>absurd ht (Nat.not_lt_zero t),hw.tr r.cS,cW.cJ hR (Bs.same r hS),dF.cJ hV (Bs.same r (cG w)),hX.rel r hS⟩,Sub.gn [] r⟩
 rintro⟨k,w3,iv⟩ ⟨hk,Uq,hw,hR,hV,hX⟩;dsimp only at hk Uq hw hR hV hX ⊢;refine dG.mk ?_ ?_<;>intro OY
 ·have OY:k<pv.length:=by simpa using OY
  obtain⟨p,hp⟩:∃p,pv[k]? =some p:=⟨_,aB OY⟩
  have RQ:=f4 p (aD hp);obtain⟨adp,R6,kp1,kp2⟩:=hV.at hp;refine⟨adp,R6,by omega,.int .i64 (p:Int),fun O w' r=>?_,?_⟩
  ·rw[aF,cM (w:=w3) (w2:=w') (by rw[dD];exact Rel.same r (cG w) kp1.1)];exact kp2
  refine dG.mk ?_ ?_<;>intro he
  ·have he:p=cols:=by
    have:(p:Int)=cols:=by simpa using he
    omega
   intro ρe we re;refine⟨_,rfl,hw.tr re.cS,.inl ⟨?_,rfl⟩⟩;unfold pf;simp only[hP]
   rw[if_pos (by rw[<-he];exact aD hp)]
  have he:p≠cols:=fun e=>by rw[e]at he;simp at he
  obtain⟨x,hx⟩:∃x,A[k]? =some x:=⟨_,aB (by omega)⟩
  have Pr:=f3 x (aD hx);obtain⟨q,hq⟩:∃q,x[cols]? =some q:=⟨_,aB (by omega)⟩
  have Qg:cY A k cols=q:=by simp[cY,List.getD,hx,hq]
  obtain⟨adm,um,SN,QE,km1,km2⟩:=dA.load hR hx;obtain⟨a0,c0,rfl,Xs,-⟩:=dL.shape QE;obtain⟨adq,cs,UY,hF,_,hl⟩:=dL.load QE hq;obtain⟨g0,g1,g2,g3,g4,g5,g6,g7,rfl,hF⟩:=hF;refine cO hτ dZ [.x 0,.x 1,.x 2,.x 3,.x 4,.x 5,.x 6,.x 7,.x 8,.x 9,.x 10,.x 11,.x 12,.x 13] (by kernel_rfl) (by kernel_rfl) ?_;refine⟨adm,SN,by omega,.slice a0 x.length c0,fun O w' r=>?_,?_⟩
  ·rw[aF,cM (w:=w3) (w2:=w') (by rw[dD];exact Rel.same r hS km1.1)];exact km2
  refine⟨adq,UY,by omega,[.bool g0,.slice g1 g2 g3,.bool g4,.slice g5 g6 g7],rfl,fun O w' r j u hu=>?_,?_⟩
  ·obtain⟨k1,k2⟩:=hl j u hu;rw[aF,cM (w:=w3) (w2:=w') (by rw[dD,dD];exact Rel.same r hS k1.1)];exact k2
  obtain⟨gx,YC⟩:∃g,ax=some ⟨g,0,none⟩:=by
   obtain⟨css,h1,h2,h3⟩:=hX.row;rcases h1.2 with⟨_,h0⟩|⟨g,cap,cur,e,_⟩
   ·omega
   ·injection e with e;exact⟨g,e⟩
  subst YC;refine⟨⟨gx,0,none⟩,rfl,by omega,?_⟩;intro O w' r;obtain⟨g,hg,h1,h2,h3,h4,h5⟩:=(hX.rel r hS).store (j:=p) (by omega) (hF.cJ (Bs.same r hS)) r hS;injection hg with hg;injection hg with hg;subst hg;refine⟨h1,h2,h3,fun w5 Qd=>?_⟩;obtain⟨k1,k2,k3⟩:=h5 w5 Qd;have PI:dg w.heap.size w w5:=(hw.tr r.cS).tr (dg.grown k2 (fun g e=>by injection e with e;subst e;exact h4.elim (fun h=>h.elim) fun h=>h.1) r.cI);have QJ:=cW.cJ hR (Bs.kept r hS k2 fun g e=>e);have hV2:=dF.cJ hV (Bs.kept r (cG w) k2 fun g e=>e);have Oq:(iR A pv cols k).set p q=iR A pv cols (k+1):=by rw[il,Qg,List.getD,hp];rfl
  rw[Oq]at k1;refine⟨((k+1:Nat):Int),wo,?_⟩;intro ρ3 w6 r3
  exact⟨(k+1,w6,_),⟨OY,fun t p2 ht QQ=>by
   by_cases Vl:t=k
   ·rw[Vl,hp]at QQ;injection QQ with QQ;rw[<-QQ];exact he
   ·exact Uq t p2 (by dsimp only at ht;omega) QQ,PI.tr r3.cS,cW.cJ QJ (Bs.same r3 hS),dF.cJ hV2 (Bs.same r3 (cG w)),k1.rel r3 hS⟩,Sub.gn [] r3,by dsimp only;omega⟩
 have OY:k=pv.length:=aQ hk (by simpa using OY);subst OY;intro ρe we re;refine⟨_,rfl,hw.tr re.cS,.inr ⟨_,_,?_,rfl,hX.aDw re hS⟩⟩;unfold pf;simp only[hA,hP]
 rw[aK];intro hm;obtain⟨t,ht⟩:=aS hm;exact Uq t cols (aE.1 ht).1 ht rfl
theorem IY{u:Value}{cols:Nat}(hC:Old C w)(hS:Old S w)(hM:mW w C S v M)(hb:cR w S u b)(QH:b.length=M.length)(hlen:fq cols M)(hn:cols<=999)(hR:M.length<=1000)(hB:Ga (kl M b) (cols+1) h)(hh:3*h<=90000):
  eA PG N.jo #[.agg #[v,.int .i64 cols],u] w (eL w fun v' w2=>(pf M b cols=none∧v'= .tuple #[.slice none 0 0,.bool false])∨∃x vx,pf M b cols=some x∧v'= .tuple #[vx,.bool true]∧eO w2 S w.heap.size [(w.heap.size,w2.heap.size)] vx cols x):=
 Et hC hS hS hM (cR.rc hb) QH hlen hn hR hB hh
def vJ(pv:List Nat)(n i:Nat):List Value:=(List.range n).map fun c=>.bool (decide (c∈pv.take i))
theorem Mu(pv:List Nat)(n:Nat):vJ pv n 0=List.replicate n (.bool false):=by
 refine bL fun j=>?_;rw[vJ,aN,List.getElem?_replicate];by_cases h:j<n
 ·rw[bP h,if_pos h];rfl
 ·rw[List.getElem?_eq_none (by simp;omega),aK h];rfl
theorem Gb{n i c:Nat}(h:c<n):(vJ pv n i)[c]? =some (.bool (decide (c∈pv.take i))):=by
 rw[vJ,aN,bP h];rfl
theorem Mv{n i p:Nat}(hp:pv[i]? =some p):(vJ pv n i).set p (.bool true)=vJ pv n (i+1):=by
 refine bL fun j=>?_;by_cases hj:j<n
 ·rw[Gb hj,List.take_add_one,hp];by_cases hpj:p=j
  ·subst hpj;rw[aR (by simp[vJ];exact hj)];simp
  ·rw[aX hpj,Gb hj];have:j≠p:=fun e=>hpj e.symm;simp[this]
 ·rw[List.getElem?_eq_none (by simp[vJ];omega),List.getElem?_eq_none (by simp[vJ];omega)]
theorem eO.at{n:Nat}{cx:Nat}(h:eO w S B iv (.slice ax n cx) n qs)(h0:0<n):∃g,ax=some ⟨g,0,none⟩:=by
 obtain⟨css,h1,h2,h3⟩:=h.row;rcases h1.2 with⟨_,h0⟩|⟨g,cap,cur,e,_⟩
 ·omega
 ·injection e with e;exact⟨g,e⟩
set_option maxHeartbeats 2000000 in
theorem Mw{n:Nat}(hC:Old C w)(hS:Old S w)(hM:mW w C S v M)(hlen:fq n M)(hn0:0<n)(hn:n<=1000)(hR:M.length<=1000)(hB:Ga M n h)(hAb:Ht (db M n).1 h)(hh:3*h<=90000):
  eA PG N.iE #[.agg #[v,.int .i64 n]] w (eL w fun v' w2=>cW w2 (Nf w w2) v' (mO M n)):=by
 have hw:=bR w;obtain⟨am,cm,rfl,Ri,Q9⟩:=mW.shape hM;unfold maxLen at Q9;obtain⟨f1,f2,f3,f4,f5⟩:=uG n hlen;refine kK (by simp) ?_;unfold mO;generalize hA:(db M n).1=A at*
 generalize hP:(db M n).2.1=pv at*
 refine cH (cP (Φ:=fun _ w' v w2=>∃vr vp vf,v= .agg #[vr,.int .i64 n,vp,vf]∧cW w2 (Nw S w' w2) vr A∧dF w2 (Nf w' w2) vp pv∧dF w2 (Nf w' w2) vf (db M n).2.2) (fun O w' r=>by
  rw[<-hA,<-hP];obtain⟨rv,m1,m2,m3⟩:=hM
  exact yr (C:=C) (S:=S) (oS hC r) (oS hS r) ⟨rv,m1.cJ fun g hg=>(hw.tr r.cS).block g (hC g hg),m2,fun i u x h1 h2=>cR.cJ (m3 i u x h1 h2) fun g hg=>(hw.tr r.cS).block g (hS g hg)⟩ hlen hn0 hn hR (Nat.le_refl _) hB hh) ?_)
 rintro O Pa v1 PJ r he Oh ⟨vr,vp,vf,rfl,k1,k2,k3⟩;replace hw:=hw.tr Oh;have hR:=cW.old (cW.cL k1 fun g hg=>hg.imp (fun h=>(Or.inl h:Cv S w.heap.size [] g)) id) r.cI;have hV:=dF.dK (S:=FF) k2 r.cI (iv:=(Pa.heap.size,PJ.heap.size)::[]) aI;have hX:=dF.dK (S:=FF) k3 r.cI (iv:=(Pa.heap.size,PJ.heap.size)::[]) aI;generalize (Pa.heap.size,PJ.heap.size)::[]=Od at*
 obtain⟨ar,cr,rfl,UG,hmr⟩:=dA.shape hR;obtain⟨ap,cp,rfl,YD,hmp⟩:=dF.shape hV;obtain⟨af,cf,rfl,-,-⟩:=dF.shape hX
 refine⟨n,n,rfl,rfl,Nat.le_refl _,by omega,by omega,Nat×World×Iv,fun z=>⟨[(1,pP 0 0),(3,pP 1 0),(4,.o (.s 2 0 n n)),(20,sV ap pv.length cp),(21,iZ pv.length),(22,iN z.1)],[(2,.arr T.bool (vJ pv n z.1)),(1,.box T.df [.v (.slice ar A.length cr),.v (.int .i64 n),.v (.slice ap pv.length cp),.v (.slice af (db M n).2.2.length cf)]),(0,.box T.eG [.v (.slice am M.length cm),.v (.int .i64 n)])],3,z.2.2,z.2.1⟩,fun z=>pv.length-z.1,
  fun z=>z.1<=pv.length∧dg w.heap.size w z.2.1∧cW z.2.1 (Cv S w.heap.size z.2.2) (.slice ar A.length cr) A∧dF z.2.1 (Cf w z.2.2) (.slice ap pv.length cp) pv,?_,?_⟩
 ·intro O w' r3;exact⟨(0,w',_),⟨aO _,hw.tr r3.cS,cW.rel hR r3 hS,dF.rel hV r3 (cG w)⟩,Sub.gn [] r3 ⟨by dsimp only;rw[Mu];rfl,rfl,rfl,trivial⟩⟩
 rintro⟨i,w1,iv⟩ ⟨hi,hw,hR,hV⟩;dsimp only at hi hw hR hV ⊢;refine dG.mk ?_ ?_<;>intro OW
 ·have OW:i<pv.length:=by simpa using OW
  obtain⟨p,hp⟩:∃p,pv[i]? =some p:=⟨_,aB OW⟩
  have RQ:=f4 p (aD hp);obtain⟨adp,R6,kp1,kp2⟩:=hV.at hp;refine⟨adp,R6,by omega,.int .i64 (p:Int),fun O w' r=>?_,?_⟩
  ·rw[aF,cM (w:=w1) (w2:=w') (by rw[dD];exact Rel.same r (cG w) kp1)];exact kp2
  refine⟨by omega,by simp[vJ];omega,vJ pv n (i+1),?_,?_⟩
  ·rw[aF,aY,aW,<-Mv hp];exact gP (by simp[vJ];omega)
  refine⟨((i+1:Nat):Int),wo,?_⟩;intro ρ3 w3 r3;exact⟨(i+1,w3,_),⟨OW,hw.tr r3.cS,cW.rel hR r3 hS,dF.rel hV r3 (cG w)⟩,Sub.gn [] r3,by dsimp only;omega⟩
 have OW:i=pv.length:=aQ hi (by simpa using OW);subst OW
 refine⟨Nat×List Value×World×Iv,fun z=>⟨[(32,iN z.1),(7,.o (.w 3 z.2.1.length)),(1,pP 0 0),(3,pP 1 0),(4,.o (.s 2 0 n n)),(31,iZ n)],[(2,.arr T.bool (vJ pv n pv.length)),(3,.vec T.fz 1 z.2.1),(1,.box T.df [.v (.slice ar A.length cr),.v (.int .i64 n),.v (.slice ap pv.length cp),.v (.slice af (db M n).2.2.length cf)]),(0,.box T.eG [.v (.slice am M.length cm),.v (.int .i64 n)])],4,z.2.2.2,z.2.2.1⟩,fun z=>n-z.1,
  fun z=>z.1<=n∧dg w.heap.size w z.2.2.1∧cW z.2.2.1 (Cv S w.heap.size z.2.2.2) (.slice ar A.length cr) A∧dF z.2.2.1 (Cf w z.2.2.2) (.slice ap pv.length cp) pv∧dS z.2.2.1 (Cf w z.2.2.2) z.2.1 (eu A pv n z.1),?_,?_⟩
 ·intro O w' r;exact⟨(0,[],w',_),⟨aO _,hw.tr r.cS,cW.rel hR r hS,dF.rel hV r (cG w),by simp[dS,eu]⟩,Sub.nil 7 T.fz 1 rfl (by simp[jw,SV.sc,At.sc]) r fun ρ1 r1=>Sub.gn [] r1⟩
 rintro⟨c,rv,w1,iv⟩ ⟨hc,hw,hR,hV,hK⟩;dsimp only at hc hw hR hV hK ⊢;have Ot:rv.length=(eu A pv n c).length:=hK.1;have Ut:=I0 A pv n c;refine dG.mk ?_ ?_<;>intro PO
 ·have PO:c<n:=by simpa using PO
  refine⟨by omega,.bool (decide (c∈pv)),by rw[aF,aY,aW,Gb PO,bH],?_⟩;refine dG.mk ?_ ?_<;>intro hm
  ·have hm:c∈pv:=by simpa using hm
   refine⟨((c+1:Nat):Int),wo,?_⟩;intro ρ3 w3 r3;exact⟨(c+1,rv,w3,_),⟨PO,hw.tr r3.cS,cW.rel hR r3 hS,dF.rel hV r3 (cG w),by dsimp only;rw[I1 hm];exact hK.rel r3 (cG w)⟩,Sub.gn [] r3,by dsimp only;omega⟩
  have hm:c∉pv:=by simpa using hm
  refine cH (cP (Φ:=fun _ w' v w2=>eO w2 FF w'.heap.size [(w'.heap.size,w2.heap.size)] v n (List.replicate n 0)) (fun O w' r=>DD n w' (by omega)) ?_);rintro O QR v2 PY r he Oh RR;replace hw:=hw.tr Oh;replace hR:=cW.cL (S':=Bs S w.heap.size ((QR.heap.size,PY.heap.size)::iv) v2) (cW.cJ (cW.rel hR r hS) fun g hg=>he.block g (Rel.old r hS g hg)) fun g hg=>Bs.of r hS (fun x hx=>aC _ hx) RR hg;replace hV:=dF.cL (S':=Bs FF w.heap.size ((QR.heap.size,PY.heap.size)::iv) v2) (dF.cJ (dF.rel hV r (cG w)) fun g hg=>he.block g (Rel.old r (cG w) g hg)) fun g hg=>Bs.of r (cG w) (fun x hx=>aC _ hx) RR hg;replace hK:=dS.cL (S':=Bs FF w.heap.size ((QR.heap.size,PY.heap.size)::iv) v2) (dS.cJ (dS.rel hK r (cG w)) fun g hg=>he.block g (Rel.old r (cG w) g hg)) fun g hg=>Bs.of r (cG w) (fun x hx=>aC _ hx) RR hg;have hX:=RR.dK (S:=FF) r.cI (iv:=(QR.heap.size,PY.heap.size)::iv) aI;generalize (QR.heap.size,PY.heap.size)::iv=Oa at*
  obtain⟨ax,cx,rfl,TU⟩:=hX.row.form;obtain⟨gx,rfl⟩:=hX.at hn0;refine cH (cP (Φ:=fun _ w' v w2=>cT w2 (Nf w' w2) v ((1:Int):Rat)) (fun O w' r=>k8 1 w' (by decide) (by decide)) ?_);rintro O Pg v3 Pc r he Oh RR;replace hw:=hw.tr Oh;replace hR:=cW.cL (S':=Bs S w.heap.size ((Pg.heap.size,Pc.heap.size)::Oa) (.slice (some ⟨gx,0,none⟩) n cx)) (cW.cJ (cW.cJ hR (Bs.same r hS)) fun g hg=>he.block g (Rel.old r hS g hg.1)) fun g hg=>Bs.mono (fun x hx=>aC _ hx) hg;replace hV:=dF.cL (S':=Bs FF w.heap.size ((Pg.heap.size,Pc.heap.size)::Oa) (.slice (some ⟨gx,0,none⟩) n cx)) (dF.cJ (dF.cJ hV (Bs.same r (cG w))) fun g hg=>he.block g (Rel.old r (cG w) g hg.1)) fun g hg=>Bs.mono (fun x hx=>aC _ hx) hg;replace hK:=dS.cL (S':=Bs FF w.heap.size ((Pg.heap.size,Pc.heap.size)::Oa) (.slice (some ⟨gx,0,none⟩) n cx)) (dS.cJ (dS.cJ hK (Bs.same r (cG w))) fun g hg=>he.block g (Rel.old r (cG w) g hg.1)) fun g hg=>Bs.mono (fun x hx=>aC _ hx) hg;have hd:=(RR.cL (S':=Bs FF w.heap.size ((Pg.heap.size,Pc.heap.size)::Oa) (.slice (some ⟨gx,0,none⟩) n cx)) fun g hg=>hg.elim (fun h=>h.elim) fun h=>⟨.inr ⟨by have:=r.cI;omega,_,_,aI,h.1,h.2⟩,fun e=>by have:=Rel.old r (cG w) g (hX.new g e);omega⟩)
  replace hX:=hX.cK (iv':=(Pg.heap.size,Pc.heap.size)::Oa) r (cG w) he fun x hx=>aC _ hx;generalize (Pg.heap.size,Pc.heap.size)::Oa=Oj at*
  obtain⟨A0,A1,A2,A3,A4,A5,A6,A7,rfl⟩:=hd.shape;refine⟨⟨gx,0,none⟩,rfl,by omega,?_⟩;intro O w' r;obtain⟨g,hg,h1,h2,h3,h4,h5⟩:=(hX.rel r (cG w)).store (j:=c) PO (hd.cJ (Bs.same r (cG w))) r (cG w);injection hg with hg;injection hg with hg;subst hg;refine⟨h1,h2,h3,fun w5 Qd=>?_⟩;obtain⟨k1,k2,k3⟩:=h5 w5 Qd;have PI:dg w.heap.size w w5:=(hw.tr r.cS).tr (dg.grown k2 (fun g e=>by injection e with e;subst e;exact h4.elim (fun h=>h.elim) fun h=>h.1) r.cI);have QJ:=cW.cJ hR (Bs.kept r hS k2 fun g e=>e);have hV2:=dF.cJ hV (Bs.kept r (cG w) k2 fun g e=>e);have RM:=dS.cJ hK (Bs.kept r (cG w) k2 fun g e=>e);have Oq:(List.replicate n (0:Rat)).set c ((1:Int):Rat)=gZ A pv n c 0:=rfl;rw[Oq]at k1
  refine⟨Nat×World×Iv,fun z=>⟨[(49,iN z.1),(8,iN c),(9,.o (.v (.slice (some ⟨gx,0,none⟩) n cx))),(32,iN c),(47,sV ap pv.length cp),(48,iZ pv.length),(7,.o (.w 3 rv.length)),(1,pP 0 0),(3,pP 1 0),(4,.o (.s 2 0 n n)),(31,iZ n)],[(2,.arr T.bool (vJ pv n pv.length)),(3,.vec T.fz 1 rv),(1,.box T.df [.v (.slice ar A.length cr),.v (.int .i64 n),.v (.slice ap pv.length cp),.v (.slice af (db M n).2.2.length cf)]),(0,.box T.eG [.v (.slice am M.length cm),.v (.int .i64 n)])],4,z.2.2,z.2.1⟩,fun z=>pv.length-z.1,
   fun z=>z.1<=pv.length∧dg w.heap.size w z.2.1∧cW z.2.1 (Bs S w.heap.size z.2.2 (.slice (some ⟨gx,0,none⟩) n cx)) (.slice ar A.length cr) A∧dF z.2.1 (Bs FF w.heap.size z.2.2 (.slice (some ⟨gx,0,none⟩) n cx)) (.slice ap pv.length cp) pv∧dS z.2.1 (Bs FF w.heap.size z.2.2 (.slice (some ⟨gx,0,none⟩) n cx)) rv (eu A pv n c)∧eO z.2.1 FF w.heap.size z.2.2 (.slice (some ⟨gx,0,none⟩) n cx) n (gZ A pv n c z.1),?_,?_⟩
  ·intro O w' r3;exact⟨(0,w',_),⟨aO _,PI.tr r3.cS,cW.cJ QJ (Bs.same r3 hS),dF.cJ hV2 (Bs.same r3 (cG w)),dS.cJ RM (Bs.same r3 (cG w)),k1.rel r3 (cG w)⟩,Sub.gn [] r3⟩
  rintro⟨k,w3,iv⟩ ⟨hk,hw,hR,hV,hK,hX⟩;dsimp only at hk hw hR hV hK hX ⊢;refine dG.mk ?_ ?_<;>intro OY
  ·have OY:k<pv.length:=by simpa using OY
   obtain⟨p,hp⟩:∃p,pv[k]? =some p:=⟨_,aB OY⟩
   have RQ:=f4 p (aD hp);obtain⟨adp,R6,kp1,kp2⟩:=hV.at hp;obtain⟨x,hx⟩:∃x,A[k]? =some x:=⟨_,aB (by omega)⟩
   have Pr:=f3 x (aD hx);obtain⟨q,hq⟩:∃q,x[c]? =some q:=⟨_,aB (by omega)⟩
   have Qg:cY A k c=q:=by simp[cY,List.getD,hx,hq]
   have Sd:=hAb x (aD hx) q (aD hq);obtain⟨adm,um,SN,QE,km1,km2⟩:=dA.load hR hx;obtain⟨a0,c0,rfl,Xs,-⟩:=dL.shape QE;obtain⟨adq,cs,UY,hF,_,hl⟩:=dL.load QE hq;obtain⟨g0,g1,g2,g3,g4,g5,g6,g7,rfl,hF⟩:=hF;refine⟨adp,R6,by omega,.int .i64 (p:Int),fun O w' r=>?_,?_⟩
   ·rw[aF,cM (w:=w3) (w2:=w') (by rw[dD];exact Rel.same r (cG w) kp1.1)];exact kp2
   refine⟨adm,SN,by omega,.slice a0 x.length c0,fun O w' r=>?_,?_⟩
   ·rw[aF,cM (w:=w3) (w2:=w') (by rw[dD];exact Rel.same r hS km1.1)];exact km2
   refine⟨adq,UY,by omega,[.bool g0,.slice g1 g2 g3,.bool g4,.slice g5 g6 g7],rfl,fun O w' r j u hu=>?_,?_⟩
   ·obtain⟨k1,k2⟩:=hl j u hu;rw[aF,cM (w:=w3) (w2:=w') (by rw[dD,dD];exact Rel.same r hS k1.1)];exact k2
   refine cH (cP (Φ:=fun _ w' v w2=>cT w2 (Nf w' w2) v (-q)) (fun O w' r=>yq (S:=Bs S w.heap.size iv (.slice (some ⟨gx,0,none⟩) n cx)) (fun g hg=>Rel.old r hS g hg.1) ((hF.cJ (Bs.same r hS)).l (by omega))) ?_);rintro O Qh v4 Q6 r he Oh RR;replace hw:=hw.tr Oh;replace hR:=cW.cL (S':=Bs S w.heap.size ((Qh.heap.size,Q6.heap.size)::iv) (.slice (some ⟨gx,0,none⟩) n cx)) (cW.cJ (cW.cJ hR (Bs.same r hS)) fun g hg=>he.block g (Rel.old r hS g hg.1)) fun g hg=>Bs.mono (fun x hx=>aC _ hx) hg;replace hV:=dF.cL (S':=Bs FF w.heap.size ((Qh.heap.size,Q6.heap.size)::iv) (.slice (some ⟨gx,0,none⟩) n cx)) (dF.cJ (dF.cJ hV (Bs.same r (cG w))) fun g hg=>he.block g (Rel.old r (cG w) g hg.1)) fun g hg=>Bs.mono (fun x hx=>aC _ hx) hg;replace hK:=dS.cL (S':=Bs FF w.heap.size ((Qh.heap.size,Q6.heap.size)::iv) (.slice (some ⟨gx,0,none⟩) n cx)) (dS.cJ (dS.cJ hK (Bs.same r (cG w))) fun g hg=>he.block g (Rel.old r (cG w) g hg.1)) fun g hg=>Bs.mono (fun x hx=>aC _ hx) hg;have hd:=(RR.cL (S':=Bs FF w.heap.size ((Qh.heap.size,Q6.heap.size)::iv) (.slice (some ⟨gx,0,none⟩) n cx)) fun g hg=>hg.elim (fun h=>h.elim) fun h=>⟨.inr ⟨by have:=r.cI;omega,_,_,aI,h.1,h.2⟩,fun e=>by have:=Rel.old r (cG w) g (hX.new g e);omega⟩)
   replace hX:=hX.cK (iv':=(Qh.heap.size,Q6.heap.size)::iv) r (cG w) he fun x hx=>aC _ hx;generalize (Qh.heap.size,Q6.heap.size)::iv=Oz at*
   obtain⟨C0,C1,C2,C3,C4,C5,C6,C7,rfl⟩:=hd.shape;refine⟨⟨gx,0,none⟩,rfl,by omega,?_⟩;intro O w' r;obtain⟨g,hg,h1,h2,h3,h4,h5⟩:=(hX.rel r (cG w)).store (j:=p) (by omega) (hd.cJ (Bs.same r (cG w))) r (cG w);injection hg with hg;injection hg with hg;subst hg;refine⟨h1,h2,h3,fun w5 Qd=>?_⟩;obtain⟨k1,k2,k3⟩:=h5 w5 Qd;have PI:dg w.heap.size w w5:=(hw.tr r.cS).tr (dg.grown k2 (fun g e=>by injection e with e;subst e;exact h4.elim (fun h=>h.elim) fun h=>h.1) r.cI);have QJ:=cW.cJ hR (Bs.kept r hS k2 fun g e=>e);have hV2:=dF.cJ hV (Bs.kept r (cG w) k2 fun g e=>e);have RM:=dS.cJ hK (Bs.kept r (cG w) k2 fun g e=>e);have Oq:(gZ A pv n c k).set p (-q)=gZ A pv n c (k+1):=by rw[ij,Qg,List.getD,hp];rfl
   rw[Oq]at k1;refine⟨((k+1:Nat):Int),wo,?_⟩;intro ρ3 w6 r3;exact⟨(k+1,w6,_),⟨OY,PI.tr r3.cS,cW.cJ QJ (Bs.same r3 hS),dF.cJ hV2 (Bs.same r3 (cG w)),dS.cJ RM (Bs.same r3 (cG w)),k1.rel r3 (cG w)⟩,Sub.gn [] r3,by dsimp only;omega⟩
  have OY:k=pv.length:=aQ hk (by simpa using OY);rw[OY]at hX;replace hR:=cW.cL hR fun g hg=>hg.1;replace hV:=dF.cL hV fun g hg=>hg.1;replace hK:=(dS.cL hK fun g hg=>hg.1).push (u:=(.slice (some ⟨gx,0,none⟩) n cx)) (x:=gZ A pv n c pv.length) rfl (by have:=hX.c;exact this);rw[<-Gc hm]at hK;refine .inl ?_;refine⟨by simp,by omega,by unfold maxLen;omega,((c+1:Nat):Int),wo,?_⟩;intro ρ3 w3 r3;exact⟨(c+1,rv++[(.slice (some ⟨gx,0,none⟩) n cx)],w3,_),⟨PO,hw.tr r3.cS,cW.rel hR r3 hS,dF.rel hV r3 (cG w),hK.rel r3 (cG w)⟩,Sub.gn [(3,5)] r3 (hE:=⟨rfl,by dsimp only;rw[List.length_append,List.length_singleton];rfl,rfl,rfl,rfl,rfl,trivial⟩),by dsimp only;omega⟩
 have PO:c=n:=aQ hc (by simpa using PO);subst PO;intro ρe we re;refine⟨_,rfl,hw.tr re.cS,rv,?_,hK.1,fun i u x k1 k2=>cR.cL (cR.rel (hK.2.2 i u x k1 k2) re (cG w)) fun g hg=>Cv.nw hg re⟩;rw[<-hK.1];exact(re.gz (id:=3) (sz:=1) (m:=rv.length) rfl (by simp) (by unfold maxLen;omega) (by decide) hK.2.1).cL fun g hg=>.inr hg
structure jb(w:World)(S:Nat->Prop)(B:Nat)(iv:Iv)(v:Value)(n i:Nat)(qs:List Rat):Prop where
 row:∃css,w.ownsRow 0 T.Rat 4 v n css.flatten∧gh w (Bs S B iv v) n i css qs
 new:∀g,v.ownBlock=some g->Cv FF B iv g
section
variable{S S':Nat->Prop}{H:Hp}{nx n i:Nat}{iv iv':Iv}{B:Nat}{w w' w2:World}{O:Nat->Sx.eE}{v:Value}{qs:List Rat}
theorem jb.cJ(h:jb w S B iv v n i qs)(hk:∀g,Cv S B iv g->w2.heap[g]? =w.heap[g]?):jb w2 S B iv v n i qs:=by
 obtain⟨⟨css,h1,h2⟩,h3⟩:=h;exact⟨⟨css,ownsRow.cJ h1 fun g hg=>hk g (D3 (h3 g hg)),h2.cJ fun g hg=>hk g hg.1⟩,h3⟩
theorem jb.rel(h:jb w S B iv v n i qs)(r:Rel H nx iv B w O w')(hS:∀g,S g->g<B):jb w' S B iv v n i qs:=h.cJ fun _ hg=>Rel.same r hS hg
theorem jb.mono(h:jb w S B iv v n i qs)(hm:∀p,p∈iv->p∈iv'):jb w S B iv' v n i qs:=by
 obtain⟨⟨css,h1,h2⟩,h3⟩:=h;exact⟨⟨css,h1,h2.cL fun g hg=>hg.mono hm⟩,fun g hg=>(h3 g hg).mono hm⟩
theorem jb.cK(h:jb w S B iv v n i qs)(r:Rel H nx iv B w O w')(hS:∀g,S g->g<B)(he:Ext w' w2)(hm:∀p,p∈iv->p∈iv'):jb w2 S B iv' v n i qs:=
 ((h.rel r hS).cJ fun g hg=>he.block g (Rel.old r hS g hg)).mono hm
theorem jb.pC(r:Rel H nx iv B w O w')(h:dM H id=some (.arr T.Rat (List.replicate n [Value.bool false,.slice none 0 0,.bool false,.slice none 0 0]).flatten))(hn:n<=maxLen)(qs:List Rat):
  jb w' S B (((O id).g,(O id).g+1)::iv) (.slice (some ⟨(O id).g,0,none⟩) n n) n 0 qs:=by
 have On:=(r.fits h).1;have h4:∀cs∈List.replicate n [Value.bool false,.slice none 0 0,.bool false,.slice none 0 0],cs.length=4:=fun cs hc=>by rw[ah hc];rfl
 have hf:=eD h4;rw[aU]at hf;refine⟨⟨List.replicate n [.bool false,.slice none 0 0,.bool false,.slice none 0 0],⟨hf,.inr ⟨(O id).g,n,_,rfl,aO _,r.arr id _ _ h,Nat.le_refl _,hn,by simp,by rw[<-hf];exact bH⟩⟩,gh.start w' _ n qs⟩,fun g hg=>?_⟩;injection hg with hg;have hg:(O id).g=g:=hg;subst hg;exact .inr ⟨(r.low id _ h On).1,_,_,aI,Nat.le_refl _,bU _⟩
theorem jb.store{a1 a2:Option Addr}{c j n1 c1 n2 c2:Nat}{b b2:Bool}(h:jb w S B iv (.slice a n c) n j qs)(hj:j<n)(hq:qs[j]? =some q)(hf:cT w (Bs S B iv (.slice a n c)) (.agg #[.bool b,.slice a1 n1 c1,.bool b2,.slice a2 n2 c2]) q)
  (r:Rel H nx iv B w O w') (hS:∀g,S g->g<B):
  ∃g,a=some ⟨g,0,none⟩∧((⟨g,0,none⟩:Addr).add ((j:Int).toNat*4)).spot=none∧
   (∀k,k<4->(w'.cell? (((⟨g,0,none⟩:Addr).add ((j:Int).toNat*4)).add k)).isSome=true∧w'.frozen? (((⟨g,0,none⟩:Addr).add ((j:Int).toNat*4)).add k)=false)∧
   (∀id b,dM H id=some b->(O id).nil=false->(O id).g≠((⟨g,0,none⟩:Addr).add ((j:Int).toNat*4)).block)∧
   ∀w2,w2=setCells w' ((⟨g,0,none⟩:Addr).add ((j:Int).toNat*4)) [.bool b,.slice a1 n1 c1,.bool b2,.slice a2 n2 c2]->jb w2 S B iv (.slice a n c) n (j+1) qs∧w'.grownBy w2 (some g)∧dg B w' w2∧Rel H nx iv B w2 O w2:=by
 obtain⟨⟨css,h1,h2⟩,h3⟩:=h.rel r hS;have hf:=hf.cJ (Bs.same r hS);obtain⟨g,rfl,Oc,Q4,Oi,Oo⟩:=lT (nv:=[.bool b,.slice a1 n1 c1,.bool b2,.slice a2 n2 c2]) h1 rfl hj rfl (by decide);have Oy:(⟨g,0,none⟩:Addr).add ((j:Int).toNat*4)=⟨g,j*4,none⟩:=by rw[aF,dP,aW]
 have QX:=Rel.not r (dN B) (h3 g rfl);refine⟨g,rfl,by rw[Oy],fun k hk=>by rw[Oy];exact Oc k hk,fun id b hb hn=>by rw[Oy];exact QX id b hb hn,fun w2 PI=>?_⟩;rw[Oy]at PI;subst PI;have Tl:=jt (cs:=[.bool b,.slice a1 n1 c1,.bool b2,.slice a2 n2 c2]) h2.four (show j<css.length by rw[h2.len];exact hj);rw[Tl]at Q4;have Pb:∀x,Bs S B iv (.slice (some ⟨g,0,none⟩) n c) x->(setCells w' ⟨g,j*4,none⟩ [.bool b,.slice a1 n1 c1,.bool b2,.slice a2 n2 c2]).heap[x]? =w'.heap[x]? :=fun x hx=>
  Oi.block x (Rel.old r hS x hx.1) fun e=>hx.2 e.symm
 refine⟨⟨⟨_,Q4,(h2.cJ Pb).next hj hq (hf.cJ Pb)⟩,h3⟩,Oi,dg.grown Oi (fun x e=>by injection e with e;subst e;exact(h3 g rfl).elim (fun h=>h.elim) fun h=>h.1) r.cI,r.BS QX Oi⟩
theorem jb.done(h:jb w S B iv v n n qs)(hl:qs.length=n):eO w S B iv v n qs:=by
 obtain⟨⟨css,h1,h2⟩,h3⟩:=h;exact⟨⟨css,h1,h2.len,by rw[h2.len,hl],fun j cs q k1 k2=>h2.at_ j cs q (by rw[<-hl];exact(aE.1 k2).1) k1 k2⟩,h3⟩
end
theorem oW(M:List (List Rat))(n:Nat):(dq M n).length=n:=by simp[dq]
theorem My{n k:Nat}(h:k<n):(dq M n)[k]? =some (M.map fun r=>r.getD k 0):=by rw[dq,aN,bP h];rfl
set_option maxHeartbeats 1000000 in
theorem Dv{n:Nat}(hC:Old C w)(hS:Old S w)(hM:mW w C S v M)(hlen:fq n M)(hn:n<=1000)(hR:M.length<=1000):
  eA PG N.js #[.agg #[v,.int .i64 n]] w (eL w fun v' w2=>∃vr,v'= .agg #[vr,.int .i64 M.length]∧cW w2 (Nw S w w2) vr (dq M n)):=by
 have hw:=bR w;obtain⟨am,cm,rfl,Ri,Q9⟩:=mW.shape hM;unfold maxLen at Q9;refine mU (by simp) ?_
 refine⟨Nat×List Value×World×Iv,fun z=>⟨[(13,iN z.1),(1,pP 0 0),(2,pP 1 0),(3,pP 2 0),(12,iZ n)],[(2,.box T.eG [.w 3 z.2.1.length,.v (.int .i64 M.length)]),(3,.vec T.fz 1 z.2.1),(1,.box T.eG [.v (.slice none 0 0),.v (.int .i64 0)]),(0,.box T.eG [.v (.slice am M.length cm),.v (.int .i64 n)])],4,z.2.2.2,z.2.2.1⟩,fun z=>n-z.1,
  fun z=>z.1<=n∧dg w.heap.size w z.2.2.1∧dS z.2.2.1 (Cv S w.heap.size z.2.2.2) z.2.1 ((dq M n).take z.1),?_,?_⟩
 ·intro O w' r;exact⟨(0,[],w',[]),⟨aO _,hw.tr r.cS,by simp[dS]⟩,Sub.Du 2 0 T.fz 1 rfl rfl (by simp[jw,SV.sc,At.sc,fQ]) r fun ρ1 r1=>Sub.gn [] r1⟩
 rintro⟨k,rv,w1,iv⟩ ⟨hk,hw,hK⟩;dsimp only at hk hw hK ⊢;have Ot:rv.length=k:=by rw[hK.1,aZ,oW];omega
 refine dG.mk ?_ ?_<;>intro OY
 ·have OY:k<n:=by simpa using OY
  have Vl:=My (M:=M) OY;have Oq:(dq M n).take (k+1)=(dq M n).take k++[M.map fun r=>r.getD k 0]:=by rw[List.take_add_one,Vl];rfl
  refine⟨M.length,M.length,rfl,rfl,Nat.le_refl _,by omega,by omega,Nat×Nat×World×Iv,fun z=>⟨[(5,.o (.v (.slice (some ⟨z.2.1,0,none⟩) M.length M.length))),(4,iN k),(13,iN k),(22,iZ M.length),(23,iN z.1),(1,pP 0 0),(2,pP 1 0),(3,pP 2 0),(12,iZ n)],[(2,.box T.eG [.w 3 rv.length,.v (.int .i64 M.length)]),(3,.vec T.fz 1 rv),(1,.box T.eG [.v (.slice none 0 0),.v (.int .i64 0)]),(0,.box T.eG [.v (.slice am M.length cm),.v (.int .i64 n)])],5,z.2.2.2,z.2.2.1⟩,fun z=>M.length-z.1,
   fun z=>z.1<=M.length∧dg w.heap.size w z.2.2.1∧dS z.2.2.1 (Bs S w.heap.size z.2.2.2 (.slice (some ⟨z.2.1,0,none⟩) M.length M.length)) rv ((dq M n).take k)∧jb z.2.2.1 S w.heap.size z.2.2.2 (.slice (some ⟨z.2.1,0,none⟩) M.length M.length) M.length z.1 (M.map fun r=>r.getD k 0),?_,?_⟩
  ·intro O w' r;have hf:=jb.pC (S:=S) (n:=M.length) r (id:=4) rfl (by unfold maxLen;omega) (M.map fun r=>r.getD k 0)
   exact⟨(0,(O 4).g,w',((O 4).g,(O 4).g+1)::iv),⟨aO _,hw.tr r.cS,dS.cL (hK.rel r hS) fun g hg=>⟨hg.mono fun p hp=>aC _ hp,fun e=>Rel.not r hS hg 4 _ rfl (r.fits (id:=4) rfl).1 (by injection e)⟩,hf⟩,
    Sub.pC r (id:=4) (t:=5) rfl rfl ⟨rfl,rfl,rfl,rfl,trivial⟩ rfl ⟨rfl,rfl,rfl,rfl,rfl,rfl,rfl,rfl,trivial⟩ (by simp[jw,SV.sc,At.sc])⟩
  rintro⟨i,gx,w2,iv⟩ ⟨hi,hw,hK,hX⟩;dsimp only at hi hw hK hX ⊢;refine dG.mk ?_ ?_<;>intro OW
  ·have OW:i<M.length:=by simpa using OW
   obtain⟨x,hx⟩:∃r,M[i]? =some r:=⟨_,aB OW⟩
   have Pr:=hlen x (aD hx);obtain⟨q,hq⟩:∃q,x[k]? =some q:=⟨_,aB (by omega)⟩
   have RC:x.getD k 0=q:=by rw[List.getD,hq];rfl
   obtain⟨adm,um,SN,QE,km1,km2⟩:=mW.load hM hx;obtain⟨a0,c0,rfl,Xs,-⟩:=dL.shape QE;obtain⟨adq,cs,UY,hF,_,hl⟩:=dL.load QE hq;obtain⟨g0,g1,g2,g3,g4,g5,g6,g7,rfl,hF⟩:=hF;refine⟨adm,SN,by omega,.slice a0 x.length c0,rd1 km2 hw (hC _ km1),adq,UY,by omega,[.bool g0,.slice g1 g2 g3,.bool g4,.slice g5 g6 g7],rfl,rdO hl hw hS,⟨gx,0,none⟩,rfl,by omega,?_⟩;intro O w' r
   have Rg:cT w2 (Bs S w.heap.size iv (.slice (some ⟨gx,0,none⟩) M.length M.length)) (.agg #[.bool g0,.slice g1 g2 g3,.bool g4,.slice g5 g6 g7]) q:=(hF.cJ fun g hg=>hw.block g (hS g hg)).cL fun g hg=>⟨.inl hg,fun e=>by
    have h1:=hS g hg;rcases hX.new g e with h2|⟨h2,_⟩
    ·exact h2
    ·omega⟩
   obtain⟨g,hg,h1,h2,h3,h4⟩:=hX.store (j:=i) OW (by rw[aN,hx,<-RC];rfl) Rg r hS;injection hg with hg;injection hg with hg;subst hg;refine⟨h1,h2,h3,fun w5 Qd=>?_⟩;obtain⟨k1,k2,k3,k4⟩:=h4 w5 Qd;have PI:=(hw.tr r.cS).tr k3;have RM:=dS.cJ hK (Bs.kept r hS k2 fun g e=>e);refine⟨((i+1:Nat):Int),wo,?_⟩;intro ρ3 w6 r3;exact⟨(i+1,gx,w6,_),⟨OW,PI.tr r3.cS,dS.cJ RM (Bs.same r3 hS),k1.rel r3 hS⟩,Sub.gn [] r3,by dsimp only;omega⟩
  have OW:i=M.length:=aQ hi (by simpa using OW);rw[OW]at hX;have hX2:=(hX.done (by simp)).c;replace hK:=(dS.cL hK fun g hg=>hg.1).push (u:=(.slice (some ⟨gx,0,none⟩) M.length M.length)) (x:=M.map fun r=>r.getD k 0) rfl hX2;rw[<-Oq]at hK;refine .inl ?_;refine⟨by simp,by omega,by unfold maxLen;omega,((k+1:Nat):Int),wo,?_⟩;intro ρ3 w3 r3;exact⟨(k+1,rv++[(.slice (some ⟨gx,0,none⟩) M.length M.length)],w3,_),⟨OY,hw.tr r3.cS,hK.rel r3 hS⟩,Sub.gn [(3,6)] r3 ⟨by dsimp only;rw[List.length_append,List.length_singleton];rfl,rfl,rfl,rfl,trivial⟩,by dsimp only;omega⟩
 have OY:k=n:=aQ hk (by simpa using OY);rw[List.take_of_length_le (by rw[oW];omega)]at hK;intro ρe we re;refine⟨_,rfl,hw.tr re.cS,_,rfl,rv,?_,hK.1,fun i u x k1 k2=>cR.cL (cR.rel (hK.2.2 i u x k1 k2) re hS) fun g hg=>Cv.nw hg re⟩;rw[<-hK.1];exact(re.gz (id:=3) (sz:=1) (m:=rv.length) rfl (by simp) (by unfold maxLen;omega) (by decide) hK.2.1).cL fun g hg=>.inr hg
end Go.Ex
namespace Go.Ex
variable{A M:List (List Rat)}{pv:List Nat}{B j:Nat}{v:Nat->Rat}
theorem E5(f:Nat->Rat):∀n,cX f n=ku (List.range n) f
 |0=>rfl
 |n+1=>by
  rw[cX,E5 f n,bM,zK];show _=_+(_+0)
  rw[bN]
theorem E6(g:Nat->Rat):∀l:List Nat,ku l g=cX (fun k=>g (l.getD k 0)) l.length
 |[]=>rfl
 |t::l=>by
  rw[List.length_cons,kA];show g t+ku l g=g t+_;rw[E6 g l];rfl
def mulR(M:List (List Rat))(n:Nat)(x:Nat->Rat)(j:Nat):Rat:=cX (fun t=>cY M j t*x t) n
theorem eX.dot{E:Mx}{r n:Nat}(h:eX E r n v):∃c:Nat->Rat,(∀t,t<n->v t=cX (fun i=>c i*E i t) r)∧∀x:Nat->Rat,cX (fun t=>v t*x t) n=cX (fun i=>c i*cX (fun t=>E i t*x t) n) r:=by
 obtain⟨c,hc⟩:=h;refine⟨c,hc,fun x=>?_⟩;rw[cN (g:=fun t=>cX (fun i=>c i*E i t*x t) r) fun t ht=>by rw[hc t ht,<-jR],kW];exact cN fun i _=>by rw[<-eU];exact cN fun t _=>Rat.mul_assoc _ _ _
section
variable{M:List (List Rat)}{n:Nat}{x:Nat->Rat}{b:List Rat}
theorem OQ(hM:fq n M)(h:∀j,j<M.length->mulR M n x j=0){c:Nat}(hc:c<=n):∀i,i<M.length->mulR (cQ M c).1 n x i=0:=fun i hi=>by
 obtain⟨c,_,h2⟩:=((kC hM c hc).1 i hi).dot;unfold mulR;rw[h2 x,cN (g:=fun _=>0) fun j hj=>by rw[show cX (fun t=>cY M j t*x t) n=0 from h j hj,bB],dW]
theorem Hf(hM:fq n M){c:Nat}(hc:c<=n)(h:∀i,i<M.length->mulR (cQ M c).1 n x i=0):∀j,j<M.length->mulR M n x j=0:=fun j hj=>by
 obtain⟨c,_,h2⟩:=((kC hM c hc).2 j hj).dot;unfold mulR;rw[h2 x,cN (g:=fun _=>0) fun i hi=>by rw[show cX (fun t=>cY (cQ M _).1 i t*x t) n=0 from h i hi,bB],dW]
theorem lC(hM:fq n M){t:Nat}(hj:j<M.length):(t<n->cY (eN M b) j t=cY M j t)∧cY (eN M b) j n=b.getD j 0:=by
 have hr:=aB hj;have hl:(M[j]).length=n:=hM _ (a9 hj);have e:(eN M b).getD j []=M[j]++[b.getD j 0]:=by rw[eN,List.getD,List.getElem?_mapIdx,hr];rfl
 have e2:M.getD j []=M[j]:=by rw[List.getD,hr];rfl
 refine⟨fun ht=>?_,?_⟩
 ·rw[cY,cY,e,e2,List.getD,aJ (by omega),<-List.getD]
 ·rw[cY,e,List.getD,aM (by omega),hl,bI];rfl
def Hg(x:Nat->Rat)(n t:Nat):Rat:=if t<n then x t else -1
theorem JZ(hM:fq n M)(hj:j<M.length):mulR (eN M b) (n+1) (Hg x n) j=mulR M n x j-b.getD j 0:=by
 have h:=fun t=>lC (b:=b) (t:=t) hM hj;unfold mulR;rw[cX,(h 0).2,show Hg x n n= -1 by unfold Hg;rw[aK (Nat.lt_irrefl n)],cN (g:=fun t=>cY M j t*x t) fun t ht=>by rw[(h t).1 ht];unfold Hg;rw[if_pos ht]];grind
def gq(M:List (List Rat))(b:List Rat)(n:Nat):Option (List Rat):=
 let e:=cQ (eN M b) n
 if ∀j,j<M.length->e.2.length<=j->cY e.1 j n=0 then some (iR e.1 e.2 n e.2.length)else none
theorem mq{x:List Rat}(hM:fq n M)(h:gq M b n=some x):x.length=n∧∀j,j<M.length->mulR M n (fun t=>x.getD t 0) j=b.getD j 0:=by
 unfold gq at h;dsimp only at h;split at h
 ·rename_i h0;injection h with h;have hW:=j1 (b:=b) hM;obtain⟨r1,r2,r3,r4,r5⟩:=dc hW n (Nat.le_succ n);have RQ:=jA (eN M b) n;have Vc:=fA (M:=M) (b:=b);have hl:=da (eN M b) n;have Pr:x.length=n:=by rw[<-h,lJ]
  have Rj:∀j,j<(cQ (eN M b) n).2.length->x.getD ((cQ (eN M b) n).2.getD j 0) 0=cY (cQ (eN M b) n).1 j n:=fun j hj=>by
   rw[<-h];exact pY (F:=iR (cQ (eN M b) n).1 (cQ (eN M b) n).2 n) (f:=fun i=>cY (cQ (eN M b) n).1 i n) (fun i=>il _ _ n i) (lJ _ _ n) RQ.2.1 r4 _ (Nat.le_refl _) hj
  have Pn:∀t,t∉(cQ (eN M b) n).2->x.getD t 0=0:=fun t ht=>by rw[<-h];exact wD ht
  refine⟨Pr,fun j hj=>?_⟩;have key:=Hf (M:=eN M b) (x:=Hg (fun t=>x.getD t 0) n) hW (c:=n) (Nat.le_succ n) (fun i hi=>?_) j (by rw[Vc];exact hj)
  ·rw[JZ hM hj]at key;grind
  ·unfold mulR;rw[cX,show Hg (fun t=>x.getD t 0) n n= -1 by unfold Hg;rw[aK (Nat.lt_irrefl n)],cN (g:=fun t=>cY (cQ (eN M b) n).1 i t*x.getD t 0) fun t ht=>by unfold Hg;rw[if_pos ht]];rcases aP i (cQ (eN M b) n).2.length with h1|h1
   ·rw[eV (i:=(cQ (eN M b) n).2.getD i 0) (r4 _ (by rw[List.getD,aB h1];exact a9 _)) fun t ht OZ=>?_,r5 i i h1 (by omega),if_pos rfl,Rj i h1]
    ·grind
    ·by_cases hp:t∈(cQ (eN M b) n).2
     ·obtain⟨k,hk,rfl⟩:=uY hp;rw[r5 k i hk (by omega),aK (fun e=>OZ (by rw[e])),bC]
     ·rw[Pn t hp,bB]
   ·rw[cN (g:=fun _=>0) fun t ht=>by rw[r3 i t h1 (by omega) ht,bC],dW,h0 i (by rw[<-Vc];exact hi) h1];grind
 ·cases h
theorem pg(hM:fq n M)(h:gq M b n=none):∃y:Nat->Rat,(∀t,t<n->cX (fun j=>y j*cY M j t) M.length=0)∧cX (fun j=>y j*b.getD j 0) M.length≠0:=by
 unfold gq at h;dsimp only at h;split at h
 ·cases h
 ·rename_i h0;obtain⟨i,hi,h1,h2⟩:∃i,i<M.length∧(cQ (eN M b) n).2.length<=i∧cY (cQ (eN M b) n).1 i n≠0:=by
   refine Decidable.byContradiction fun SI=>h0 fun j hj hr=>Decidable.byContradiction fun h2=>SI ⟨j,hj,hr,h2⟩
  have hW:=j1 (b:=b) hM;have Vc:=fA (M:=M) (b:=b);have hl:=da (eN M b) n;obtain⟨r1,r2,r3,r4,r5⟩:=dc hW n (Nat.le_succ n);obtain⟨y,hy⟩:=(kC hW n (Nat.le_succ n)).1 i (by omega);rw[Vc]at hy;refine⟨y,fun t ht=>?_,?_⟩
  ·have h3:=hy t (by omega);rw[r3 i t h1 (by omega) ht]at h3;rw[h3];exact cN fun j hj=>by rw[(lC (b:=b) hM hj).1 ht]
  ·have h3:=hy n (by omega);rw[cN (g:=fun j=>y j*b.getD j 0) fun j hj=>by rw[(lC (b:=b) (t:=n) hM hj).2]]at h3;rw[<-h3];exact h2
theorem E7{x:Nat->Rat}(hM:fq n M)(h:∀j,j<M.length->mulR M n x j=b.getD j 0):∃z,gq M b n=some z:=by
 cases e:gq M b n with
 |some z=>exact⟨z,rfl⟩
 |none=>
  obtain⟨y,h1,h2⟩:=pg hM e;refine absurd ?_ h2;rw[cN fun j hj=>by rw[<-h j hj,mulR,<-eU],kW,cN (g:=fun _=>0) fun t ht=>?_,dW];rw[cN (g:=fun j=>y j*cY M j t*x t) fun j _=>(Rat.mul_assoc _ _ _).symm,jR,h1 t ht,bC]
theorem OR(M:List (List Rat))(n:Nat)(x y:Nat->Rat)(j:Nat):mulR M n (fun t=>x t-y t) j=mulR M n x j-mulR M n y j:=by
 unfold mulR;rw[<-oh];exact cN fun t _=>by grind
theorem wL(M:List (List Rat))(b:List Rat):kl M b=eN M b:=rfl
theorem Hh{r i t:Nat}(h:i<r):cY (A.take r) i t=cY A i t:=by
 rw[cY,cY,show(A.take r).getD i []=A.getD i [] by rw[List.getD,bZ h,<-List.getD]]
theorem zO(A:List (List Rat))(pv:List Nat)(n:Nat):∀k,k<=pv.length->iR (A.take pv.length) pv n k=iR A pv n k
 |0,_=>rfl
 |k+1,h=>by rw[il,il,zO A pv n k (by omega),Hh (by omega)]
theorem zP(A:List (List Rat))(pv:List Nat)(n c:Nat):∀k,k<=pv.length->gZ (A.take pv.length) pv n c k=gZ A pv n c k
 |0,_=>rfl
 |k+1,h=>by rw[ij,ij,zP A pv n c k (by omega),Hh (by omega)]
abbrev dC(M:List (List Rat))(n:Nat):List (List Rat):=eu (cQ M n).1 (cQ M n).2 n n
theorem Ja(hM:fq n M)(hW:Fm M n B):mO M n=dC M n:=by
 obtain⟨e1,e2⟩:=mo hM hW;unfold mO dC eu;rw[e1,e2];exact List.map_congr_left fun c _=>zP _ _ n c _ (Nat.le_refl _)
theorem yI(hM:fq n M)(hW:Fm (eN M b) (n+1) B):pf M b n=gq M b n:=by
 have hWl:=j1 (b:=b) hM;obtain⟨e1,e2⟩:=mo hWl hW;have hl:=da (eN M b) n;have Vc:=fA (M:=M) (b:=b);obtain⟨r1,r2,r3,r4,r5⟩:=dc hWl n (Nat.le_succ n);have e:cQ (eN M b) (n+1)=dm (cQ (eN M b) n) n:=by
  unfold cQ;rw[bM,List.foldl_append];rfl
 unfold pf gq;dsimp only
 rcases kH n r2 with⟨k1,k2⟩|⟨k,k1,k2,k3,k4⟩
 ·rw[aK (by rw[wL,e1,e,k1];exact fun h=>by have:=r4 n h;omega),if_pos fun j hj hr=>k2 j hr (by omega),wL,e1,e2,e,k1,zO _ _ n _ (Nat.le_refl _)]
 ·rw[if_pos (by rw[wL,e1,e,k4];simp),aK fun h=>k3 (h k (by omega) k1)]
theorem OS(hM:fq n M){x:List Rat}(h:∀j,j<M.length->mulR M n (fun t=>x.getD t 0) j=0):Diff (cQ M n).1 (cQ M n).2 n x:=by
 obtain⟨r1,r2,r3,r4,r5⟩:=dc hM n (Nat.le_refl _);have RQ:=jA M n;have hl:=da M n;refine⟨RQ.2.1,r4,r2,r5,fun j hj=>?_⟩;rw[<-E5];have h1:=OQ hM h (Nat.le_refl n) j (by omega);unfold mulR at h1;rw[h1,cY,List.getD,List.getElem?_eq_none (by rw[r1.getD hj];exact Nat.le_refl _)];rfl
theorem lZ(M:List (List Rat))(n:Nat):(dC M n).length=(jm (cQ M n).2 n).length:=by unfold dC eu;rw[aL]
theorem Bx(M:List (List Rat))(n:Nat){k:Nat}(hk:k<(dC M n).length):(dC M n).getD k []=gZ (cQ M n).1 (cQ M n).2 n ((jm (cQ M n).2 n).getD k 0) (cQ M n).2.length:=by
 obtain⟨r,hr⟩:∃r,(dC M n)[k]? =some r:=⟨_,aB hk⟩
 rw[List.getD,hr];exact(pZ hr).2
theorem ph(M:List (List Rat))(n:Nat):fq n (dC M n):=fun r hr=>by
 obtain⟨k,hk⟩:=aS hr;rw[(pZ hk).2,lI]
theorem rU(hM:fq n M){k:Nat}(hk:k<(dC M n).length):∀j,j<M.length->mulR M n (cY (dC M n) k) j=0:=by
 obtain⟨r1,r2,r3,r4,r5⟩:=dc hM n (Nat.le_refl _);have RQ:=jA M n;have hl:=da M n;have hf:=mj.1 (rP (by rw[<-lZ];exact hk));refine Hf hM (Nat.le_refl n) fun i hi=>?_;have OX:=Bx M n hk;generalize hc:(jm (cQ M n).2 n).getD k 0=c at hf OX;have Rj:∀j,j<(cQ M n).2.length->cY (dC M n) k ((cQ M n).2.getD j 0)= -(cY (cQ M n).1 j c):=fun j hj=>by
  rw[cY,OX];exact pY (F:=gZ (cQ M n).1 (cQ M n).2 n c) (f:=fun i=> -(cY (cQ M n).1 i c)) (fun i=>ij _ _ n c i) (lI _ _ n c) RQ.2.1 r4 _ (Nat.le_refl _) hj
 have Pn:∀t,t∉(cQ M n).2->cY (dC M n) k t=if t=c then 1 else 0:=fun t ht=>by rw[cY,OX];exact rO ht hf.1
 unfold mulR;rcases aP i (cQ M n).2.length with h1|h1
 ·have hpi:(cQ M n).2.getD i 0∈(cQ M n).2:=by rw[List.getD,aB h1];exact a9 _
  have OZ:(cQ M n).2.getD i 0≠c:=fun e=>hf.2 (e▸hpi);have e:cX (fun t=>cY (cQ M n).1 i t*cY (dC M n) k t) n=cX (fun t=>(if t=(cQ M n).2.getD i 0 then -(cY (cQ M n).1 i c)else 0)+(if t=c then cY (cQ M n).1 i c else 0)) n:=by
   refine cN fun t ht=>?_;by_cases hp:t∈(cQ M n).2
   ·obtain⟨j,hj,rfl⟩:=uY hp;rw[Rj j hj,r5 j i hj (by omega),aK (show ¬(cQ M n).2.getD j 0=c from fun e=>hf.2 (e▸hp)),bN];by_cases PZ:i=j
    ·rw[if_pos PZ,if_pos (by rw[PZ]),PZ,bf]
    ·have hne2:(cQ M n).2.getD j 0≠(cQ M n).2.getD i 0:=fun e2=>PZ (by
      rcases bs i j with h5|h5|h5
      ·have:(cQ M n).2.getD i 0<(cQ M n).2.getD j 0:=Nx RQ.2.1 h5 hj;omega
      ·exact h5
      ·have:(cQ M n).2.getD j 0<(cQ M n).2.getD i 0:=Nx RQ.2.1 h5 h1
       omega)
     rw[aK PZ,aK hne2,bC]
   ·rw[Pn t hp,aK (show ¬t=(cQ M n).2.getD i 0 from fun e2=>hp (e2▸hpi)),Rat.zero_add];by_cases htc:t=c
    ·rw[if_pos htc,if_pos htc,htc,Rat.mul_one]
    ·rw[aK htc,aK htc,bB]
  rw[e,fa,eV (i:=(cQ M n).2.getD i 0) (r4 _ hpi) fun t _ OZ=>aK OZ,eV (i:=c) hf.1 fun t _ OZ=>aK OZ,if_pos rfl,if_pos rfl];grind
 ·rw[cN (g:=fun _=>0) fun t ht=>by rw[r3 i t h1 (by omega) ht,bC],dW]
theorem LC(hM:fq n M)(h:∀j,j<M.length->mulR M n x j=0):∃c:Nat->Rat,∀t,t<n->x t=cX (fun k=>c k*cY (dC M n) k t) (dC M n).length:=by
 obtain⟨l,hl⟩:∃l,l=(List.range n).map x:=⟨_,rfl⟩
 have hx:∀t,t<n->l.getD t 0=x t:=fun t ht=>by rw[hl,List.getD,aN,bP ht];rfl
 have hd:=OS (x:=l) hM fun j hj=>Eq.trans (cN fun t ht=>congrArg (cY M j t* ·) (hx t ht)) (h j hj);refine⟨fun k=>l.getD ((jm (cQ M n).2 n).getD k 0) 0,fun t ht=>?_⟩;have h1:=hd.rest ht;obtain⟨r1,r2,r3,r4,r5⟩:=dc hM n (Nat.le_refl _);have h0:(iR (cQ M n).1 (cQ M n).2 n (cQ M n).2.length).getD t 0=0:=by
  by_cases hp:t∈(cQ M n).2
  ·obtain⟨j,hj,rfl⟩:=uY hp;rw[hd.xin hj,cY,List.getD,List.getElem?_eq_none (by rw[r1.getD (by omega)];exact Nat.le_refl _)];rfl
  ·exact wD hp
 rw[h0,bC,bN,hx t ht,E6]at h1;rw[h1,lZ];exact cN fun k hk=>by rw[cY,Bx M n (by rw[lZ];exact hk)]
theorem Fo{c:Nat->Rat}(h:∀t,t<n->cX (fun k=>c k*cY (dC M n) k t) (dC M n).length=0):∀k,k<(dC M n).length->c k=0:=fun k hk=>by
 have VY:k<(jm (cQ M n).2 n).length:=by rw[<-lZ];exact hk
 have hf:=mj.1 (rP VY);have h1:=h _ hf.1;obtain⟨r,hr⟩:∃r,(dC M n)[k]? =some r:=⟨_,aB hk⟩
 rw[eV hk fun i hi OZ=>?_]at h1
 ·rw[cY,show(dC M n).getD k []=r by rw[List.getD,hr];rfl,Bf hr hr,if_pos rfl,Rat.mul_one]at h1;exact h1
 ·obtain⟨s,hs⟩:∃s,(dC M n)[i]? =some s:=⟨_,aB hi⟩
  rw[cY,show(dC M n).getD i []=s by rw[List.getD,hs];rfl,Bf hr hs,aK OZ,bB]
end
theorem By(p:Nat->Bool):∀l:List Nat,l.length=(l.filter p).length+(l.filter fun c=> !p c).length
 |[]=>rfl
 |c::l=>by
  have ih:=By p l;rw[List.filter_cons,List.filter_cons]
  cases p c with
  |true=>simp;omega
  |false=>simp;omega
theorem OT{n:Nat}(hn:pv.Nodup)(hl:∀p∈pv,p<n):(jm pv n).length=n-pv.length:=by
 have h1:(List.range n).length=((List.range n).filter fun c=>decide (c∉pv)).length+((List.range n).filter fun c=>decide (c∈pv)).length:=by
  refine(By (fun c=>decide (c∉pv)) (List.range n)).trans ?_;congr 2;refine List.filter_congr fun c _=>?_;by_cases h:c∈pv<;>simp[h]
 have h2:((List.range n).filter fun c=>decide (c∈pv)).length=pv.length:=by
  refine(List.Perm.length_eq ?_);refine(List.perm_ext_iff_of_nodup (List.Pairwise.filter _ List.nodup_range) hn).2 fun c=>?_;rw[List.mem_filter,List.mem_range,decide_eq_true_eq];exact⟨fun h=>h.2,fun h=>⟨hl c h,h⟩⟩
 rw[List.length_range]at h1;unfold jm;omega
theorem ub{n:Nat}(hM:fq n M):(dC M n).length=n-(cQ M n).2.length:=by
 obtain⟨r1,r2,r3,r4,r5⟩:=dc hM n (Nat.le_refl _);have RQ:=jA M n;rw[lZ];exact OT (RQ.2.1.imp fun h=>Nat.ne_of_lt h) r4
end Go.Ex
namespace Go.Ex
open Go Go.Sx Go.Proofs
variable{after:Array Edge}{z:Int}{p:Int×Int×Rat}{M:List (List Rat)}{css:List (List Value)}{l:List Int}{cs:List Value}{i j:Nat}{C S S':Nat->Prop}{guard:Option (Nat×Bool)}{a:Option Addr}{dst:Option Tmp}{K:SV->Hp->Nat->Iv->World->Prop}{v:Value}{w w2:World}{f:eY}
theorem cW.nil:cW w S (.slice none 0 0) []:=⟨[],⟨by decide,rfl,fun u hu=>absurd hu (by simp),none,0,rfl,Nat.le_refl _,fun j u hu=>absurd hu (by simp)⟩,rfl,fun i u x h1 h2=>absurd h2 (by simp)⟩
theorem dF.nil:dF w S (.slice none 0 0) []:=⟨by decide,rfl,fun u hu=>absurd hu (by simp),none,0,rfl,Nat.le_refl _,fun j u hu=>absurd hu (by simp)⟩
theorem Gp(M:List (List Rat)):(db M 0).1=[]∧(db M 0).2.1=[]∧(db M 0).2.2=[]:=by simp[db,dO]
theorem Gq(M:List (List Rat)):mO M 0=[]:=by simp[mO,eu]
set_option maxHeartbeats 1000000 in
theorem zp(hC:Old C w)(hS:Old S w)(hM:mW w C S v M)(hlen:fq 0 M)(hR:M.length<=1000):
  eA PG N.gE #[.agg #[v,.int .i64 0],.int .i64 0] w (eL w fun v' w2=>v'= .agg #[.slice none 0 0,.int .i64 0,.slice none 0 0,.slice none 0 0]):=by
 have hw:=bR w;obtain⟨am,cm,rfl,Ri,Q9⟩:=mW.shape hM;unfold maxLen at Q9;refine kL (by simp) ?_;refine⟨0,0,rfl,rfl,Nat.le_refl _,by omega,by omega,World,fun z=>⟨[(1,iZ 0),(2,pP 0 0),(4,pP 1 0),(5,pP 2 0),(6,.o (.s 3 0 0 0)),(27,iZ 0),(28,iZ 0)],[(3,.arr T.int []),(2,.box T.df [.v (.slice none 0 0),.v (.int .i64 0),.v (.slice none 0 0),.v (.slice none 0 0)]),(1,.box T.df [.v (.slice none 0 0),.v (.int .i64 0),.v (.slice none 0 0),.v (.slice none 0 0)]),(0,.box T.eG [.v (.slice am M.length cm),.v (.int .i64 0)])],4,[],z⟩,fun z=>0,fun z=>dg w.heap.size w z,?_,?_⟩
 ·intro O w' r3;exact⟨w',hw.tr r3.cS,Sub.gn [] r3⟩
 rintro w1 hw;dsimp only at hw ⊢
 refine⟨Nat×World,fun z=>⟨[(38,iN z.1),(1,iZ 0),(2,pP 0 0),(4,pP 1 0),(5,pP 2 0),(6,.o (.s 3 0 0 0)),(36,sV am M.length cm),(37,iZ M.length)],[(3,.arr T.int []),(2,.box T.df [.v (.slice none 0 0),.v (.int .i64 0),.v (.slice none 0 0),.v (.slice none 0 0)]),(1,.box T.df [.v (.slice none 0 0),.v (.int .i64 0),.v (.slice none 0 0),.v (.slice none 0 0)]),(0,.box T.eG [.v (.slice am M.length cm),.v (.int .i64 0)])],5,[],z.2⟩,fun z=>M.length-z.1,
  fun z=>z.1<=M.length∧dg w.heap.size w z.2,?_,?_⟩
 ·intro O w' r3;exact⟨(0,w'),⟨aO _,hw.tr r3.cS⟩,Sub.gn [] r3⟩
 rintro⟨i,w1⟩ ⟨hi,hw⟩;dsimp only at hi hw ⊢;refine dG.mk ?_ ?_<;>intro OW
 ·have OW:i<M.length:=by simpa using OW
  obtain⟨x,hx⟩:∃r,M[i]? =some r:=⟨_,aB OW⟩
  have Pr:=hlen x (aD hx);obtain rfl:=List.eq_nil_of_length_eq_zero Pr;obtain⟨adm,um,SN,QE,km1,km2⟩:=mW.load hM hx;obtain⟨css,⟨-,g1,g2,a0,c0,rfl,g4,g5⟩,QB,Uz,Ox⟩:=QE;obtain rfl:=List.eq_nil_of_length_eq_zero QB;refine⟨adm,SN,by omega,.slice a0 0 c0,rd1 km2 hw (hC _ km1),?_⟩;refine .inl ?_;refine⟨[],rfl,g2,fun O w' r PL=>absurd PL (by simp),rfl,by omega,by unfold maxLen;omega,World,fun z=>⟨[(9,.o (.w 6 0)),(46,iZ 0),(47,iZ 0),(2,pP 0 0),(4,pP 1 0),(5,pP 2 0),(6,.o (.s 3 0 0 0)),(8,iN i),(36,sV am M.length cm),(37,iZ M.length),(38,iN i),(1,iZ 0)],[(6,.vec T.Rat 4 []),(3,.arr T.int []),(2,.box T.df [.v (.slice none 0 0),.v (.int .i64 0),.v (.slice none 0 0),.v (.slice none 0 0)]),(1,.box T.df [.v (.slice none 0 0),.v (.int .i64 0),.v (.slice none 0 0),.v (.slice none 0 0)]),(0,.box T.eG [.v (.slice am M.length cm),.v (.int .i64 0)])],7,[],z⟩,fun z=>0,fun z=>dg w.heap.size w z,?_,?_⟩
  ·intro O w' r3;exact⟨w',hw.tr r3.cS,Sub.gn [] r3⟩
  rintro w1 hw;dsimp only at hw ⊢;refine⟨World,fun z=>⟨[(9,.o (.w 6 0)),(12,iZ 0),(2,pP 0 0),(4,pP 1 0),(5,pP 2 0),(6,.o (.s 3 0 0 0)),(8,iN i),(36,sV am M.length cm),(37,iZ M.length),(38,iN i),(1,iZ 0)],[(6,.vec T.Rat 4 []),(3,.arr T.int []),(2,.box T.df [.v (.slice none 0 0),.v (.int .i64 0),.v (.slice none 0 0),.v (.slice none 0 0)]),(1,.box T.df [.v (.slice none 0 0),.v (.int .i64 0),.v (.slice none 0 0),.v (.slice none 0 0)]),(0,.box T.eG [.v (.slice am M.length cm),.v (.int .i64 0)])],7,[],z⟩,fun z=>0,fun z=>dg w.heap.size w z,?_,?_⟩
  ·intro O w' r3;exact⟨w',hw.tr r3.cS,Sub.gn [] r3⟩
  rintro w1 hw;dsimp only at hw ⊢;refine⟨((i+1:Nat):Int),wo,?_⟩;intro ρ3 w3 r3;exact⟨(i+1,w3),⟨OW,hw.tr r3.cS⟩,Sub.gn [] r3,by dsimp only;omega⟩
 refine⟨World,fun z=>⟨[(4,pP 1 0),(5,pP 2 0),(17,pP 5 0),(159,.o (.s 3 0 0 0)),(160,iZ 0),(161,iZ 0)],[(5,.box T.df [.v (.slice none 0 0),.v (.int .i64 0),.v (.slice none 0 0),.v (.slice none 0 0)]),(3,.arr T.int []),(2,.box T.df [.v (.slice none 0 0),.v (.int .i64 0),.v (.slice none 0 0),.v (.slice none 0 0)]),(1,.box T.df [.v (.slice none 0 0),.v (.int .i64 0),.v (.slice none 0 0),.v (.slice none 0 0)]),(0,.box T.eG [.v (.slice am M.length cm),.v (.int .i64 0)])],6,[],z⟩,fun z=>0,fun z=>dg w.heap.size w z,?_,?_⟩
 ·intro O w' r3;exact⟨w',hw.tr r3.cS,Sub.gn [] r3⟩
 rintro w1 hw;dsimp only at hw ⊢;exact rtn hw fun ρe we re=>rfl
theorem KU(hC:Old C w)(hS:Old S w)(hM:mW w C S v M)(hlen:fq 0 M)(hR:M.length<=1000):
  eA PG N.gE #[.agg #[v,.int .i64 0],.int .i64 0] w (eL w fun v' w2=>∃vr vp vf,v'= .agg #[vr,.int .i64 0,vp,vf]∧cW w2 (Nw S w w2) vr (db M 0).1∧dF w2 (Nf w w2) vp (db M 0).2.1∧dF w2 (Nf w w2) vf (db M 0).2.2):=by
 refine(zp hC hS hM hlen hR).mono fun v1 w1 h1=>?_;obtain⟨_,e,hb,rfl⟩:=h1;obtain⟨e1,e2,e3⟩:=Gp M;rw[e1,e2,e3];exact⟨_,e,hb,_,_,_,rfl,cW.nil,dF.nil,dF.nil⟩
theorem DM{n h:Nat}(hC:Old C w)(hS:Old S w)(hM:mW w C S v M)(hlen:fq n M)(hR:M.length<=1000)(hn:n<=1000)(hB:Ga M n h)(hh:3*h<=90000):
  eA PG N.gE #[.agg #[v,.int .i64 n],.int .i64 n] w (eL w fun v' w2=>∃vr vp vf,v'= .agg #[vr,.int .i64 n,vp,vf]∧cW w2 (Nw S w w2) vr (db M n).1∧dF w2 (Nf w w2) vp (db M n).2.1∧dF w2 (Nf w w2) vf (db M n).2.2):=by
 rcases bQ n with h0|h0
 ·subst h0;exact KU hC hS hM hlen hR
 ·exact yr hC hS hM hlen h0 hn hR (Nat.le_refl _) hB hh
set_option maxHeartbeats 1000000 in
theorem KV(hC:Old C w)(hS:Old S w)(hM:mW w C S v M)(hlen:fq 0 M)(hR:M.length<=1000):
  eA PG N.iE #[.agg #[v,.int .i64 0]] w (eL w fun v' w2=>cW w2 (Nf w w2) v' (mO M 0)):=by
 have hw:=bR w;obtain⟨am,cm,rfl,Ri,Q9⟩:=mW.shape hM;unfold maxLen at Q9;refine kK (by simp) ?_
 refine cH (cP (Φ:=fun _ w' v w2=>v= .agg #[.slice none 0 0,.int .i64 0,.slice none 0 0,.slice none 0 0]) (fun O w' r=>by
  obtain⟨rv,m1,m2,m3⟩:=hM
  exact zp (C:=C) (S:=S) (oS hC r) (oS hS r) ⟨rv,m1.cJ fun g hg=>(hw.tr r.cS).block g (hC g hg),m2,fun i u x h1 h2=>cR.cJ (m3 i u x h1 h2) fun g hg=>(hw.tr r.cS).block g (hS g hg)⟩ hlen hR) ?_)
 rintro O Pa v1 PJ r he Oh rfl;replace hw:=hw.tr Oh;generalize (Pa.heap.size,PJ.heap.size)::[]=Od at*
 refine⟨0,0,rfl,rfl,Nat.le_refl _,by omega,by omega,World×Iv,fun z=>⟨[(1,pP 0 0),(3,pP 1 0),(4,.o (.s 2 0 0 0)),(20,sV none 0 0),(21,iZ 0),(22,iZ 0)],[(2,.arr T.bool []),(1,.box T.df [.v (.slice none 0 0),.v (.int .i64 0),.v (.slice none 0 0),.v (.slice none 0 0)]),(0,.box T.eG [.v (.slice am M.length cm),.v (.int .i64 0)])],3,z.2,z.1⟩,fun z=>0,fun z=>dg w.heap.size w z.1,?_,?_⟩
 ·intro O w' r3;exact⟨(w',_),hw.tr r3.cS,Sub.gn [] r3⟩
 rintro⟨w1,iv⟩ hw;dsimp only at hw ⊢;refine⟨World×Iv,fun z=>⟨[(32,iZ 0),(7,sV none 0 0),(1,pP 0 0),(3,pP 1 0),(4,.o (.s 2 0 0 0)),(31,iZ 0)],[(2,.arr T.bool []),(1,.box T.df [.v (.slice none 0 0),.v (.int .i64 0),.v (.slice none 0 0),.v (.slice none 0 0)]),(0,.box T.eG [.v (.slice am M.length cm),.v (.int .i64 0)])],3,z.2,z.1⟩,fun z=>0,fun z=>dg w.heap.size w z.1,?_,?_⟩
 ·intro O w' r3;exact⟨(w',_),hw.tr r3.cS,Sub.gn [] r3⟩
 rintro⟨w1,iv⟩ hw;dsimp only at hw ⊢;intro ρe we re;rw[Gq];exact⟨_,rfl,hw.tr re.cS,cW.nil⟩
theorem KW{n h:Nat}(hC:Old C w)(hS:Old S w)(hM:mW w C S v M)(hlen:fq n M)(hR:M.length<=1000)(hn:n<=1000)(hB:Ga M n h)(hAb:Ht (db M n).1 h)(hh:3*h<=90000):
  eA PG N.iE #[.agg #[v,.int .i64 n]] w (eL w fun v' w2=>cW w2 (Nf w w2) v' (mO M n)):=by
 rcases bQ n with h0|h0
 ·subst h0;exact KV hC hS hM hlen hR
 ·exact Mw hC hS hM hlen h0 hn hR hB hAb hh
theorem yt{k:Nat}(h:∀cs∈css,cs.length=k):css.flatten.length=css.length*k:=by
 induction css with
 |nil=>simp
 |cons c r ih=>rw[List.flatten_cons,List.length_append,h c aI,ih fun x hx=>h x (aC _ hx),List.length_cons,Nat.succ_mul];omega
theorem yu{k:Nat}(h:∀cs∈css,cs.length=k)(hj:css[j]? =some cs)(i:Nat)(u:Value)(hu:cs[i]? =some u):css.flatten[j*k+i]? =some u:=by
 induction css generalizing j with
 |nil=>cases hj
 |cons c r ih=>
  have hc:=h c aI;have hi:=(aE.1 hu).1
  cases j with
  |zero=>
   injection hj with hj;subst hj;rw[List.flatten_cons,Nat.zero_mul,aW,aJ hi];exact hu
  |succ j=>
   rw[List.flatten_cons,aM (by rw[hc,Nat.succ_mul];omega),hc,show(j+1)*k+i-k=j*k+i by rw[Nat.succ_mul];omega];exact ih (fun x hx=>h x (aC _ hx)) hj
def fR{α:Type}(k:Nat)(P:World->(Nat->Prop)->List Value->α->Prop)(w:World)(S:Nat->Prop)(v:Value)(xs:List α):Prop:=
 ∃css:List (List Value),jY w S k v css.flatten xs.length∧css.length=xs.length∧(∀cs∈css,cs.length=k)∧∀(j:Nat) cs x,css[j]? =some cs->xs[j]? =some x->P w S cs x
section
variable{α:Type}{k:Nat}{P:World->(Nat->Prop)->List Value->α->Prop}{w w2:World}{S S':Nat->Prop}{v:Value}{xs:List α}
theorem fR.cJ(hP:∀cs x,P w S cs x->P w2 S cs x)(h:fR k P w S v xs)(hk:∀g,S g->w2.heap[g]? =w.heap[g]?):fR k P w2 S v xs:=by
 obtain⟨css,h1,h2,h3,h4⟩:=h;exact⟨css,h1.cJ hk,h2,h3,fun j cs x k1 k2=>hP cs x (h4 j cs x k1 k2)⟩
theorem fR.cL(hP:∀cs x,P w S cs x->P w S' cs x)(h:fR k P w S v xs)(hk:∀g,S g->S' g):fR k P w S' v xs:=by
 obtain⟨css,h1,h2,h3,h4⟩:=h;exact⟨css,h1.cL hk,h2,h3,fun j cs x k1 k2=>hP cs x (h4 j cs x k1 k2)⟩
theorem fR.shape(h:fR k P w S v xs):∃a c,v= .slice a xs.length c∧xs.length<=c∧xs.length<=maxLen:=by
 obtain⟨css,⟨h0,_,_,a,c,h1,h2,_⟩,_⟩:=h;exact⟨a,c,h1,h2,h0⟩
theorem fR.load{m c:Nat}{x:α}(hk:0<k)(h:fR k P w S (.slice a m c) xs)(hq:xs[j]? =some x):
  ∃ad cs,a=some ad∧P w S cs x∧cs.length=k∧∀i u,cs[i]? =some u->S ad.block∧w.cell? ((ad.add (j*k)).add i)=some u:=by
 obtain⟨css,⟨h0,h1,h2,a',c',e,h3,h4⟩,hl,Us,hf⟩:=h;injection e with e1 e2 e3;subst e1;obtain⟨cs,Ox⟩:∃cs,css[j]? =some cs:=⟨_,aB (by rw[hl];exact(aE.1 hq).1)⟩
 have hl:=Us cs (aD Ox);obtain⟨ad,k1,k2,k3⟩:=h4 (j*k+0) _ (yu Us Ox 0 _ (aB (show 0<cs.length by omega)));refine⟨ad,cs,k1,hf j cs x Ox hq,hl,fun i u hu=>?_⟩;obtain⟨ad2,m1,m2,m3⟩:=h4 (j*k+i) u (yu Us Ox i u hu);rw[k1]at m1;injection m1 with m1;subst m1;refine⟨m2,?_⟩;rw[<-m3];have:(ad.add (j*k)).add i=ad.add (j*k+i):=by
  unfold Addr.add;split<;>split<;>simp_all<;>omega
 rw[this]
end
def Lg(_w:World)(_S:Nat->Prop)(cs:List Value)(p:Int×Int×Int):Prop:=cs=[.int .i64 p.1,.int .i64 p.2.1,.int .i64 p.2.2]
def aDd(_w:World)(_S:Nat->Prop)(cs:List Value)(p:Ld):Prop:=cs=[.int .i64 p.1,.int .i64 p.2.1,.int .i64 p.2.2.1,.int .i64 p.2.2.2]
def Gd(w:World)(S:Nat->Prop)(cs:List Value)(p:Int×Int×Rat):Prop:=∃b a n c b2 a2 n2 c2,cs=[.int .i64 p.1,.int .i64 p.2.1,.bool b,.slice a n c,.bool b2,.slice a2 n2 c2]∧eS w S (.agg #[.bool b,.slice a n c,.bool b2,.slice a2 n2 c2]) p.2.2
theorem Gd.cJ(h:Gd w S cs p)(hk:∀g,S g->w2.heap[g]? =w.heap[g]?):Gd w2 S cs p:=by
 obtain⟨b,a,n,c,b2,a2,n2,c2,h1,h2⟩:=h;exact⟨b,a,n,c,b2,a2,n2,c2,h1,h2.cJ hk⟩
theorem Gd.cL(h:Gd w S cs p)(hk:∀g,S g->S' g):Gd w S' cs p:=by
 obtain⟨b,a,n,c,b2,a2,n2,c2,h1,h2⟩:=h;exact⟨b,a,n,c,b2,a2,n2,c2,h1,h2.cL hk⟩
abbrev oX:=fR 3 Lg
abbrev oY:=fR 4 aDd
abbrev aAh:=fR 6 Gd
structure dX(w:World)(S:Nat->Prop)(vn vb vs:Value)(f:eY):Prop where
 nodes:oX w S vn f.nodes
 bars:aAh w S vb f.bars
 cV:aAh w S vs f.cV
section
variable{S S':Nat->Prop}{H:Hp}{nx:Nat}{iv iv':Iv}{B:Nat}{w w' w2:World}{O:Nat->Sx.eE}{v vn vb vs:Value}{f:eY}{l:List Ld}
theorem oY.cJ(h:oY w S v l)(hk:∀g,S g->w2.heap[g]? =w.heap[g]?):oY w2 S v l:=fR.cJ (w:=w) (fun _ _ h=>h) h hk
theorem dX.cJ(h:dX w S vn vb vs f)(hk:∀g,S g->w2.heap[g]? =w.heap[g]?):dX w2 S vn vb vs f:=
 ⟨fR.cJ (w:=w) (fun _ _ h=>h) h.nodes hk,fR.cJ (fun _ _ h=>h.cJ hk) h.bars hk,fR.cJ (fun _ _ h=>h.cJ hk) h.cV hk⟩
theorem dX.cL(h:dX w S vn vb vs f)(hk:∀g,S g->S' g):dX w S' vn vb vs f:=
 ⟨fR.cL (S:=S) (fun _ _ h=>h) h.nodes hk,fR.cL (fun _ _ h=>h.cL hk) h.bars hk,fR.cL (fun _ _ h=>h.cL hk) h.cV hk⟩
theorem dX.rel(h:dX w (Cv S B iv) vn vb vs f)(r:Rel H nx iv B w O w')(hS:∀g,S g->g<B):dX w' (Cv S B iv) vn vb vs f:=h.cJ fun _ hg=>Rel.same r hS hg
theorem dX.shape(h:dX w S vn vb vs f):∃an cn ab cb aq cs,vn= .slice an f.nodes.length cn∧vb= .slice ab f.bars.length cb∧vs= .slice aq f.cV.length cs∧f.nodes.length<=maxLen∧f.bars.length<=maxLen∧f.cV.length<=maxLen:=by
 obtain⟨an,cn,h1,_,h2⟩:=h.nodes.shape;obtain⟨ab,cb,h3,_,h4⟩:=h.bars.shape;obtain⟨aq,cs,h5,_,h6⟩:=h.cV.shape;exact⟨an,cn,ab,cb,aq,cs,h1,h3,h5,h2,h4,h6⟩
end
theorem DI{P:Program}{τ:o8}{B nx:Nat}{l:Env}{H:Hp}{iv:Iv}(hτ:gH P τ){t ty len e sz by_:Nat}{ag:Bool}{ze ze2:List Value}{ik ik2:IntKind}{b2 tag2 al2 e0:Nat}{fs fs2:List (Nat×Nat)}{x i:Operand}{pos:String}{vx:SV}{cs:Array Value}{k:IntKind}{m:Int}{u:Value}
  (ht:τ t=some ⟨sz,ag,by_,ze,6,ik,e,len,fs⟩) (Py:τ e=some ⟨1,false,b2,ze2,tag2,ik2,e0,al2,fs2⟩) (hx:ev l x=some vx) (Vm:∀O,vx.den O= .agg cs) (hi:ev l i=some (.o (.v (.int k m)))) (hm:0<=m∧m<len) (hc:cs[m.toNat]? =some u)
  (hK:∀O w',Rel H nx iv B w O w'->K (.o (.v u)) H nx iv w'):BQ P B ⟨dst,.index t x i,ty,pos,after,guard⟩ l H nx iv w K:=by
 have hto:=(hτ t _ ht).i6 rfl;have Sa:=hτ e _ Py;refine JN hto (fun w=>Sa.sizeOf w) (fun w j v hv=>?_) hx Vm hi hm hc hK;simp[part,Sa.isAgg,hv]
structure ig(w:World)(B:Nat)(iv:Iv)(rv:List Value)(n:Nat)(M:List (List Int)):Prop where
 len:rv.length=M.length
 wid:∀l∈M,l.length=n
 row:∀(i:Nat) v l,rv[i]? =some v->M[i]? =some l->w.ownsRow 0 T.int 1 v n (l.map fun z=>.int .i64 z)
 uF:∀(i j:Nat) a b g,rv[i]? =some a->rv[j]? =some b->a.ownBlock=some g->b.ownBlock=some g->i=j
 new:∀g,Ob rv g->Cv FF B iv g
section
variable{H:Hp}{nx n:Nat}{iv iv':Iv}{B:Nat}{w w' w2:World}{O:Nat->Sx.eE}{rv:List Value}{M:List (List Int)}
theorem ig.nil:ig w B iv [] n []:=⟨rfl,fun l h=>(by cases h),fun i v l h=>(by cases h),fun i j a b g h=>(by cases h),fun g ⟨v,hv,_⟩=>by cases hv⟩
theorem ig.cJ(h:ig w B iv rv n M)(hk:∀g,Cv FF B iv g->w2.heap[g]? =w.heap[g]?):ig w2 B iv rv n M:=
 ⟨h.len,h.wid,fun i v l h1 h2=>ownsRow.cJ (h.row i v l h1 h2) fun g hg=>hk g (h.new g ⟨v,aD h1,hg⟩),h.uF,h.new⟩
theorem ig.rel(h:ig w B iv rv n M)(r:Rel H nx iv B w O w'):ig w' B iv rv n M:=h.cJ fun _ hg=>Rel.same r (dN B) hg
theorem ig.mono(h:ig w B iv rv n M)(hm:∀p,p∈iv->p∈iv'):ig w B iv' rv n M:=⟨h.len,h.wid,h.row,h.uF,fun g hg=>(h.new g hg).mono hm⟩
theorem ig.cK(h:ig w B iv rv n M)(r:Rel H nx iv B w O w')(he:Ext w' w2)(hm:∀p,p∈iv->p∈iv'):ig w2 B iv' rv n M:=
 ((h.rel r).cJ fun g hg=>he.block g (Rel.old r (dN B) g hg)).mono hm
theorem ig.form(hM:ig w B iv rv n M)(hv:rv[i]? =some v):∃a c,v= .slice a n c:=by
 obtain⟨l,hl⟩:∃l,M[i]? =some l:=⟨_,aB (by rw[<-hM.len];exact(aE.1 hv).1)⟩
 obtain⟨a,c,h,_⟩:=iX (hM.row i v l hv hl);exact⟨a,c,h⟩
theorem ig.one(hM:ig w B iv rv n M):∀u∈rv,u.oneCell'=true:=fun u hu=>by
 obtain⟨i,hi⟩:=aS hu;obtain⟨a,c,rfl⟩:=hM.form hi;rfl
theorem ig.load(hM:ig w B iv rv n M){k:Nat}{c:Nat}(hv:rv[i]? =some (.slice a n c))(hl:M[i]? =some l)(hk:l[k]? =some z):
  ∃ad,a=some ad∧Cv FF B iv ad.block∧w.cell? (ad.add (k*1))=some (.int .i64 z):=by
 have h:=hM.row i _ l hv hl;have hlen:=hM.wid l (aD hl);rcases h.2 with⟨_,h0⟩|⟨g,cap,cur,e,_⟩
 ·have:=(aE.1 hk).1;omega
 ·injection e with e;refine⟨⟨g,0,none⟩,e,hM.new g ⟨_,aD hv,by rw[e];rfl⟩,?_⟩;have:=h.cells (g:=g) (by rw[e];rfl) k (.int .i64 z) (by rw[aN,hk];rfl);rw[aY];exact this
theorem ig.store(hM:ig w B iv rv n M)(r:Rel H nx iv B w O w'){k:Nat}{c:Nat}(hv:rv[i]? =some (.slice a n c))(hl:M[i]? =some l)(hk:k<n):
  ∃g,a=some ⟨g,0,none⟩∧((⟨g,0,none⟩:Addr).add ((k:Int).toNat*1)).spot=none∧
   (∀j,j<1->(w'.cell? (((⟨g,0,none⟩:Addr).add ((k:Int).toNat*1)).add j)).isSome=true∧w'.frozen? (((⟨g,0,none⟩:Addr).add ((k:Int).toNat*1)).add j)=false)∧
   (∀id b,dM H id=some b->(O id).nil=false->(O id).g≠((⟨g,0,none⟩:Addr).add ((k:Int).toNat*1)).block)∧
   ∀w2,w2=setCells w' ((⟨g,0,none⟩:Addr).add ((k:Int).toNat*1)) [.int .i64 z]->ig w2 B iv rv n (M.set i (l.set k z))∧dg B w' w2∧Rel H nx iv B w2 O w2∧w'.grownBy w2 (some g)∧Ob rv g:=by
 have TD:=hM.rel r;have h1:=TD.row i _ l hv hl;have hlen:=hM.wid l (aD hl);obtain⟨g,rfl,Oc,Q4,Oi,Oo⟩:=lT (nv:=[.int .i64 z]) h1 rfl hk rfl (by decide);have R1:Ob rv g:=⟨_,aD hv,rfl⟩
 have Oy:(⟨g,0,none⟩:Addr).add ((k:Int).toNat*1)=⟨g,k*1,none⟩:=by rw[aF,dP,aW]
 have QX:=Rel.not r (dN B) (hM.new g R1);refine⟨g,rfl,by rw[Oy],fun j hj=>by rw[Oy];exact Oc j hj,fun id b hb hn=>by rw[Oy];exact QX id b hb hn,fun w2 PI=>?_⟩;rw[Oy]at PI;subst PI;refine⟨⟨by rw[bW];exact hM.len,fun x hx=>?_,fun j v l2 h3 h4=>?_,hM.uF,hM.new⟩,dg.grown Oi (fun x e=>by injection e with e;subst e;exact(hM.new g R1).elim (fun h=>h.elim) fun h=>h.1) r.cI,r.BS QX Oi,Oi,R1⟩
 ·rcases bA hx with hx|rfl
  ·exact hM.wid x hx
  ·rw[bW];exact hlen
 ·by_cases PZ:i=j
  ·subst PZ;rw[hv]at h3;injection h3 with h3;subst h3;rw[aR (by rw[<-hM.len];exact(aE.1 hv).1)]at h4;injection h4 with h4;subst h4;rw[List.map_set,<-gP (by rw[aL];omega)];simp only[aY]at Q4 ⊢;exact Q4
  ·rw[aX PZ]at h4;refine ownsRow.cJ (TD.row j v l2 h3 h4) fun x hx=>Oi.block x ?_ fun e=>?_
   ·exact Rel.old r (dN B) x (hM.new x ⟨v,aD h3,hx⟩)
   ·injection e with e;exact PZ (hM.uF i j _ v x hv h3 (by rw[<-e];rfl) hx)
theorem ig.push(hM:ig w B iv rv n M){gx:Nat}(YC:∀g,Cv FF B iv g->g≠gx)(hBx:B<=gx)(hl:l.length=n)(OX:w.ownsRow 0 T.int 1 (.slice (some ⟨gx,0,none⟩) n n) n (l.map fun z=>.int .i64 z)):
  ig w B ((gx,gx+1)::iv) (rv++[.slice (some ⟨gx,0,none⟩) n n]) n (M++[l]):=by
 have R1:∀g,Ob rv g->g≠gx:=fun g hg=>YC g (hM.new g hg);have key:∀(k:Nat) v,(rv++[Value.slice (some ⟨gx,0,none⟩) n n])[k]? =some v->(k<rv.length∧rv[k]? =some v)∨(k=rv.length∧v= .slice (some ⟨gx,0,none⟩) n n):=fun k v hk=>by
  rcases aP k rv.length with hi|hi
  ·rw[aJ hi]at hk;exact .inl ⟨hi,hk⟩
  ·have Ra:k=rv.length:=by have:=(aE.1 hk).1;simp at this;omega
   rw[Ra,aM (Nat.le_refl _),bI]at hk;simp at hk;exact .inr ⟨Ra,hk.symm⟩
 refine⟨by simp[hM.len],fun x hx=>?_,fun i v x h1 h2=>?_,fun i j a b g h1 h2 h3 h4=>?_,fun g hg=>?_⟩
 ·rcases List.mem_append.1 hx with hx|hx
  ·exact hM.wid x hx
  ·rw[bE.1 hx];exact hl
 ·rcases key i v h1 with⟨hi,k1⟩|⟨e1,rfl⟩
  ·rw[aJ (by rw[<-hM.len];exact hi)]at h2;exact hM.row i v x k1 h2
  ·rw[e1,hM.len,aM (Nat.le_refl _),bI]at h2;simp at h2;subst h2;exact OX
 ·rcases key i a h1 with⟨_,k1⟩|⟨e1,rfl⟩<;>rcases key j b h2 with⟨_,k2⟩|⟨e2,rfl⟩
  ·exact hM.uF i j a b g k1 k2 h3 h4
  ·injection h4 with h4;exact absurd h4.symm (R1 g ⟨a,aD k1,h3⟩)
  ·injection h3 with h3;exact absurd h3.symm (R1 g ⟨b,aD k2,h4⟩)
  ·rw[e1,e2]
 ·rcases Ob.append.1 hg with h|h
  ·exact(hM.new g h).mono fun p hp=>aC _ hp
  ·injection h with h;have h:gx=g:=h;subst h;exact .inr ⟨hBx,_,_,aI,Nat.le_refl _,bU _⟩
end
def DJ(w:World)(S:Nat->Prop)(v:Value)(l:List Int):Prop:=jY w S 1 v (l.map fun z=>.int .i64 z) l.length
abbrev o7:=dA DJ
theorem DJ.cJ(h:DJ w S v l)(hk:∀g,S g->w2.heap[g]? =w.heap[g]?):DJ w2 S v l:=jY.cJ h hk
theorem DJ.cL(h:DJ w S v l)(hk:∀g,S g->S' g):DJ w S' v l:=jY.cL h hk
theorem o7.cJ{M:List (List Int)}(h:o7 w S v M)(hk:∀g,S g->w2.heap[g]? =w.heap[g]?):o7 w2 S v M:=by
 obtain⟨rv,h1,h2,h3⟩:=h;exact⟨rv,h1.cJ hk,h2,fun i u x k1 k2=>(h3 i u x k1 k2).cJ hk⟩
theorem o7.cL{M:List (List Int)}(h:o7 w S v M)(hk:∀g,S g->S' g):o7 w S' v M:=by
 obtain⟨rv,h1,h2,h3⟩:=h;exact⟨rv,h1.cL hk,h2,fun i u x k1 k2=>(h3 i u x k1 k2).cL hk⟩
theorem DJ.at{m c:Nat}(h:DJ w S (.slice a m c) l)(hj:l[j]? =some z):∃ad,a=some ad∧S ad.block∧w.cell? (ad.add (j*1))=some (.int .i64 z):=by
 obtain⟨h0,h1,h2,a',c',e,h3,h4⟩:=h;injection e with e1 e2 e3;subst e1;obtain⟨ad,k1,k2,k3⟩:=h4 j (.int .i64 z) (by rw[aN,hj];rfl);exact⟨ad,k1,k2,by rw[aY];exact k3⟩
theorem DJ.shape(h:DJ w S v l):∃a c,v= .slice a l.length c∧l.length<=c∧l.length<=maxLen:=by
 obtain⟨h0,h1,h2,a,c,e,h3,h4⟩:=h;exact⟨a,c,e,h3,h0⟩
structure xc(f:eY):Prop where
 co:∀p∈f.nodes,(-1000000<=p.1∧p.1<=1000000)∧(-1000000<=p.2.1∧p.2.1<=1000000)∧(-1000000<=p.2.2∧p.2.2<=1000000)
 Hq:∀b∈f.bars,(0<=b.1∧b.1<f.nodes.length)∧(0<=b.2.1∧b.2.1<f.nodes.length)
 sup:∀s∈f.cV,(0<=s.1∧s.1<f.nodes.length)∧(0<=s.2.1∧s.2.1<=2)
 n:f.nodes.length<=20
 b:f.bars.length<=60
 s:f.cV.length<=60
theorem xc.node(h:xc f){i:Int}(h0:0<=i)(h1:i<f.nodes.length):∃k:Nat,∃p,i=k∧k<f.nodes.length∧f.nodes[k]? =some p∧f.node i=p∧(-1000000<=p.1∧p.1<=1000000)∧(-1000000<=p.2.1∧p.2.1<=1000000)∧(-1000000<=p.2.2∧p.2.2<=1000000):=by
 obtain⟨k,rfl⟩:=Int.eq_ofNat_of_zero_le h0;have hk:k<f.nodes.length:=by omega
 refine⟨k,f.nodes[k],rfl,hk,aB hk,?_,h.co _ (a9 hk)⟩;rw[eY.node,aF,List.getD,aB hk];rfl
theorem uH{vn vb vs:Value}{a b:Int}{b3 b6:Bool}{a4 a7:Option Addr}{n4 c4 n7 c7:Nat}(hS:Old S w)(hn:oX w S vn f.nodes)(Oc:xc f)(hA:0<=a∧a<f.nodes.length)(hB:0<=b∧b<f.nodes.length):
  eA PG N.nC #[.agg #[vn,vb,vs],.agg #[.int .i64 a,.int .i64 b,.bool b3,.slice a4 n4 c4,.bool b6,.slice a7 n7 c7]] w (eL w fun v' _=>v'= .agg #[.int .i64 ((f.node b).1-(f.node a).1),.int .i64 ((f.node b).2.1-(f.node a).2.1),.int .i64 ((f.node b).2.2-(f.node a).2.2)]):=by
 have hw:=bR w;obtain⟨an,cn,rfl,hcn,RN⟩:=hn.shape;unfold maxLen at RN;obtain⟨ka,pa,ea,US,hpa,Vh,⟨_,_⟩,⟨_,_⟩,⟨_,_⟩⟩:=Oc.node hA.1 hA.2;obtain⟨kb,pb,eb,OY,TV,S8,⟨_,_⟩,⟨_,_⟩,⟨_,_⟩⟩:=Oc.node hB.1 hB.2;obtain⟨ada,csa,haa,hPa,-,Qa⟩:=hn.load (by decide) hpa;obtain⟨adb,csb,QA,hPb,-,PA⟩:=hn.load (by decide) TV;have hPa:csa=[.int .i64 pa.1,.int .i64 pa.2.1,.int .i64 pa.2.2]:=hPa;have hPb:csb=[.int .i64 pb.1,.int .i64 pb.2.1,.int .i64 pb.2.2]:=hPb;subst hPa hPb;rw[Vh,S8];subst ea eb;refine qz (by simp) ?_;refine ja hτ dZ (.x 0 (.x 2 (.x 6 (.x 8 (.ld 1 49200 (.ld 3 49200 (.x 4 (.ld 5 49152 (.ld 7 35840 (.ld 9 35840 (.x 10 (.ld 11 32768 (.two 12 (.x 13 (.x 14 (.x 15 .nil))) 13 (.x 12 (.x 14 (.x 15 .nil)))))))))))))))) (by kernel_rfl) (by kernel_rfl) ?_;refine⟨ada,haa,by omega,[.int .i64 pa.1,.int .i64 pa.2.1,.int .i64 pa.2.2],rfl,rdO Qa hw hS,adb,QA,by omega,[.int .i64 pb.1,.int .i64 pb.2.1,.int .i64 pb.2.2],rfl,rdO PA hw hS,?_,?_⟩
 ·refine⟨[.int .i64 pb.1,.int .i64 pb.2.1,.int .i64 pb.2.2],rfl,rdO PA hw hS,rfl,rfl,rfl,[.int .i64 pa.1,.int .i64 pa.2.1,.int .i64 pa.2.2],rfl,rdO Qa hw hS,rfl,rfl,rfl,[.int .i64 pb.1,.int .i64 pb.2.1,.int .i64 pb.2.2],rfl,rdO PA hw hS,rfl,rfl,rfl,[.int .i64 pa.1,.int .i64 pa.2.1,.int .i64 pa.2.2],rfl,rdO Qa hw hS,rfl,rfl,rfl,[.int .i64 pb.1,.int .i64 pb.2.1,.int .i64 pb.2.2],rfl,rdO PA hw hS,rfl,rfl,rfl,pb.1-pa.1,wo,pb.2.1-pa.2.1,wo,pb.2.2-pa.2.2,wo,?_⟩;exact rtn hw fun ρe we re=>rfl
 ·refine⟨[.int .i64 pb.1,.int .i64 pb.2.1,.int .i64 pb.2.2],rfl,rdO PA hw hS,rfl,rfl,rfl,[.int .i64 pa.1,.int .i64 pa.2.1,.int .i64 pa.2.2],rfl,rdO Qa hw hS,rfl,rfl,rfl,[.int .i64 pb.1,.int .i64 pb.2.1,.int .i64 pb.2.2],rfl,rdO PA hw hS,rfl,rfl,rfl,[.int .i64 pa.1,.int .i64 pa.2.1,.int .i64 pa.2.2],rfl,rdO Qa hw hS,rfl,rfl,rfl,[.int .i64 pb.1,.int .i64 pb.2.1,.int .i64 pb.2.2],rfl,rdO PA hw hS,rfl,rfl,rfl,pb.1-pa.1,wo,pb.2.1-pa.2.1,wo,pb.2.2-pa.2.2,wo,?_⟩;exact rtn hw fun ρe we re=>rfl
end Go.Ex
