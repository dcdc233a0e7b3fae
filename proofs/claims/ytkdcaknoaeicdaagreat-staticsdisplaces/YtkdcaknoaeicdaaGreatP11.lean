/- Texts X135 to X138: lemmas, each with its conditions. -/
import Derived.Test.YtkdcaknoaeicdaaGreatP10
namespace Go.Ex
open Go Go.Sx Go.Proofs
variable{iv:Iv}{M:List (List Rat)}{css:List (List Value)}{ps pv:List Nat}{b qs x:List Rat}{cs:List Value}{B g h id:Nat}{C S:Nat->Prop}{O:Nat->Sx.dg}{a ax:Option Addr}{row:Option Nat}{q:Rat}{v:Value}{w:World}
section
variable{S S':Nat->Prop}{H:Hp}{nx n:Nat}{iv iv':Iv}{B:Nat}{w w' w2:World}{O:Nat->Sx.dg}{v:Value}{qs:List Rat}
theorem da.aAK{w0 w1:World}(h:da w1 S w0.heap.size iv v n qs)(r:Rel H nx iv w0.heap.size w1 O w')(hS:Old S w0):da w' S w0.heap.size [(w0.heap.size,w'.heap.size)] v n qs:=by
 have h2:=h.rel r hS;have key:∀g {X:Nat->Prop},Cv X w0.heap.size iv g->Cv X w0.heap.size [(w0.heap.size,w'.heap.size)] g:=fun g X hg=>by
  rcases hg with hg|⟨h1,lo,hi,h2,h3,h4⟩
  ·exact .inl hg
  ·exact .inr ⟨h1,_,_,aw.2 rfl,h1,by have:=r.oe lo hi h2;have:=r.size;omega⟩
 exact⟨h2.row.cJ fun g hg=>⟨key g hg.1,hg.2⟩,fun g hg=>key g (h2.new g hg)⟩
theorem da.Nk(h:da w2 (Cv S B iv) w'.heap.size [(w'.heap.size,w2.heap.size)] v n qs)(hB:B<=w'.heap.size):da w2 S B ((w'.heap.size,w2.heap.size)::iv) v n qs:=by
 have key:∀g {X Y:Nat->Prop},(∀g,Y g->Cv X B iv g)->Cv Y w'.heap.size [(w'.heap.size,w2.heap.size)] g->Cv X B ((w'.heap.size,w2.heap.size)::iv) g:=fun g X Y hY hg=>by
  rcases hg with hg|⟨h1,lo,hi,h2,h3,h4⟩
  ·exact(hY g hg).mono fun p hp=>List.mem_cons_of_mem _ hp
  ·simp at h2;obtain⟨rfl,rfl⟩:=h2;exact .inr ⟨by omega,_,_,aG,h3,h4⟩
 exact⟨h.row.cJ fun g hg=>⟨key g (fun _ h=>h) hg.1,hg.2⟩,fun g hg=>key g (fun _ h=>h.elim) (h.new g hg)⟩
def Bs(S:Nat->Prop)(B:Nat)(iv:Iv)(v:Value)(g:Nat):Prop:=Cv S B iv g∧v.ownBlock≠some g
theorem Bs.kept(r:Rel H nx iv B w O w')(hS:∀g,S g->g<B)(hg:w'.grownBy w2 row)(OH:∀g,row=some g->v.ownBlock=some g):∀g,Bs S B iv v g->w2.heap[g]? =w.heap[g]? :=fun g h=>by
 rw[hg.block g (Rel.old r hS g h.1) fun e=>h.2 (OH g e.symm),Rel.same r hS h.1]
theorem Bs.same(r:Rel H nx iv B w O w')(hS:∀g,S g->g<B):∀g,Bs S B iv v g->w'.heap[g]? =w.heap[g]? :=fun g h=>Rel.same r hS h.1
theorem Bs.of(r:Rel H nx iv B w O w')(hS:∀g,S g->g<B)(hm:∀p,p∈iv->p∈iv')(hn:da w2 FF w'.heap.size [(w'.heap.size,w2.heap.size)] v n qs)(h:Cv S B iv g):Bs S B iv' v g:=
 ⟨h.mono hm,fun e=>by
  have h1:=Rel.old r hS g h;rcases hn.new g e with h2|⟨h2,_⟩
  ·exact h2
  ·omega⟩
theorem Bs.mono(hm:∀p,p∈iv->p∈iv')(h:Bs S B iv v g):Bs S B iv' v g:=⟨h.1.mono hm,h.2⟩
theorem dK.at{m c j p:Nat}(h:dK w S (.slice a m c) ps)(hj:ps[j]? =some p):∃ad,a=some ad∧S ad.block∧w.cell? (ad.add (j*1))=some (.int .i64 (p:Int)):=by
 obtain⟨h0,h1,h2,a',c',e,h3,h4⟩:=h;injection e with e1 e2 e3;subst e1;obtain⟨ad,k1,k2,k3⟩:=h4 j (.int .i64 (p:Int)) (by rw[aN,hj];rfl);exact⟨ad,k1,k2,by rw[aS];exact k3⟩
theorem dK.shape(h:dK w S v ps):∃a c,v= .slice a ps.length c∧ps.length<=c∧ps.length<=maxLen:=by
 obtain⟨h0,h1,h2,a,c,e,h3,h4⟩:=h;exact⟨a,c,e,h3,h0⟩
end
theorem zt{E:List (List Rat)}{at_:List (Option Nat)}{fr:List Nat}{n:Nat}(hE:fX n E)(OU:∀(k r:Nat),at_[k]? =some (some r)->r<E.length):∀k,k<=at_.length->fX n (dC (E,at_,fr) k).1∧∀p∈(dC (E,at_,fr) k).2.1,p<k
 |0,_=>⟨(fun r hr=>by cases hr),fun p hp=>by cases hp⟩
 |k+1,hk=>by
  have ih:=zt (fr:=fr) hE OU k (by omega);obtain⟨o,ho⟩:∃o,at_[k]? =some o:=⟨_,aB (by omega)⟩
  cases o with
  |none=>
   rw[mJ (s:=(E,at_,fr)) ho];exact⟨ih.1,fun p hp=>Nat.lt_succ_of_lt (ih.2 p hp)⟩
  |some r=>
   rw[mK (s:=(E,at_,fr)) ho];refine⟨fun x hx=>?_,fun p hp=>?_⟩
   ·rcases bG.1 hx with hx|hx
    ·exact ih.1 x hx
    ·rw[aw.1 hx];have:=OU k r ho;dsimp only
     rw[List.getD,aB this];exact hE _ (aY this)
   ·rcases bG.1 hp with hp|hp
    ·exact Nat.lt_succ_of_lt (ih.2 p hp)
    ·rw[aw.1 hp];exact bY _
theorem rE{n:Nat}(cols:Nat)(hM:fX n M):(dR M cols).1.length=(dR M cols).2.1.length∧(dR M cols).2.2.length=(dR M cols).2.1.length∧fX n (dR M cols).1∧(∀p∈(dR M cols).2.1,p<cols)∧(dR M cols).2.1.length<=cols:=by
 have OJ:=yc cols hM M.length (aF _);unfold dR;generalize gq M cols M.length=s at*
 obtain⟨E,at_,fr⟩:=s;have QO:at_.length=cols:=OJ.at_;obtain⟨q1,q2,-,q4⟩:=tw (E,at_,fr) [] cols (by show cols<=at_.length;omega);obtain⟨f1,f2⟩:=zt (E:=E) (at_:=at_) (fr:=fr) OJ.len OJ.lt cols (by omega);exact⟨q1,q2,f1,f2,q4⟩
theorem kh(M:List (List Rat))(b:List Rat):(jl M b).length=M.length:=List.length_mapIdx
theorem IC{n:Nat}(h:fX n M):fX (n+1) (jl M b):=fun r hr=>by
 obtain⟨i,hi⟩:=aU hr;rw[jl,List.getElem?_mapIdx]at hi
 cases hM:M[i]? with
 |none=>rw[hM]at hi;cases hi
 |some x=>
  rw[hM]at hi;simp only[Option.map_some,Option.some.injEq]at hi;rw[<-hi,List.length_append,h x (aC hM)];rfl
theorem Fz{H:Hp}{nx:Nat}{w':World}(r:Rel H nx iv B w O w')(h:dB H id=some (.vec T.Rat 4 ([]++css.flatten++cs)))(hF:Fc w' S css x)(hq:iM w' S cs q)(hm:x.length<maxLen):
  (O id).nil=false∧cL w' (Cv S B (((O id).g,(O id).g+1)::iv)) (.slice (some ⟨(O id).g,0,none⟩) (x.length+1) (O id).cap) (x++[q]):=by
 have OX:=eH hF.tv;have hl:([]++css.flatten++cs).length=(x.length+1)*4:=by rw[List.nil_append,List.length_append,OX,hF.1,hq.len];omega
 have R6:=hF.push hq;have he:[]++css.flatten++cs=(css++[cs]).flatten:=by simp
 have hv:=oF r (sz:=4) (m:=x.length+1) h hl (by omega) (by decide) (by omega) (fun u hu=>R6.one u (by rw[<-he];exact hu));refine⟨hv.1,css++[cs],?_,R6.1,R6.tv,fun j c y k1 k2=>(R6.2 j c y k1 k2).cJ fun g hg=>.inl hg⟩;rw[List.length_append,List.length_singleton,<-he];exact hv.2.2.cJ fun g hg=>.inr ⟨by have:=hv.2.1;omega,_,_,aG,by omega,by omega⟩
set_option maxHeartbeats 2000000 in
theorem B9{D:Nat->Prop}{u:Value}{cols:Nat}(hC:Old C w)(hD:Old D w)(hS:Old S w)(hM:kg w C S v M)(hb:gM w D S u b)(Pf:b.length=M.length)(hlen:fX cols M)(hn:cols<=999)(hR:M.length<=1000)(hB:Cr (jl M b) (cols+1) h)(hh:3*h<=90000):
  eD PG N.jA #[.agg #[v,.int .i64 cols],u] w (eG w fun v' w2=>(nZ M b cols=none∧v'= .tuple #[.slice none 0 0,.bool false])∨∃x vx,nZ M b cols=some x∧v'= .tuple #[vx,.bool true]∧da w2 S w.heap.size [(w.heap.size,w2.heap.size)] vx cols x):=by
 have hw:=bR w;obtain⟨am,cm,rfl,SR,R1⟩:=kg.shape hM;obtain⟨ab,cb,rfl,Pu,RX⟩:=gM.shape hb;unfold maxLen at R1 RX;refine np (by simp) ?_
 refine⟨((cols+1:Nat):Int),wo,Nat×List Value×World×Iv,fun z=>⟨[(20,iN z.1),(1,sV ab b.length cb),(2,pP 0 0),(6,pP 1 0),(18,sV am M.length cm),(19,iZ M.length)],[(1,.box T.dq [.w 2 z.2.1.length,.v (.int .i64 ((cols+1:Nat):Int))]),(2,.vec T.fa 1 z.2.1),(0,.box T.dq [.v (.slice am M.length cm),.v (.int .i64 cols)])],3,z.2.2.2,z.2.2.1⟩,fun z=>M.length-z.1,
  fun z=>z.1<=M.length∧eB w.heap.size w z.2.2.1∧dV z.2.2.1 (Cv S w.heap.size z.2.2.2) z.2.1 ((jl M b).take z.1),?_,?_⟩
 ·intro O w' r
  exact⟨(0,[],w',[]),⟨aO _,hw.tr r.cQ,by simp[dV]⟩,Sub.Ak 1 0 T.fa 1 rfl rfl (by simp[jN,SV.sc,At.sc,fW]) r fun ρ1 r1=>
   Sub.gn [] r1⟩
 rintro⟨i,rv,w1,iv⟩ ⟨hi,hw,hK⟩;dsimp only at hi hw hK ⊢;have Oh:rv.length=i:=by rw[hK.1,aV,kh];omega
 refine dN.mk ?_ ?_<;>intro OF
 ·have OF:i<M.length:=by simpa using OF
  obtain⟨x,hx⟩:∃r,M[i]? =some r:=⟨_,aB OF⟩
  have PW:=hlen x (aC hx);obtain⟨q,hq⟩:∃r,b[i]? =some r:=⟨_,aB (by omega)⟩
  have Tt:b.getD i 0=q:=by rw[List.getD,hq];rfl
  have OO:(jl M b).take (i+1)=(jl M b).take i++[x++[q]]:=by
   rw[List.take_add_one,show(jl M b)[i]? =some (x++[q]) by rw[jl,List.getElem?_mapIdx,hx,<-Tt];rfl];rfl
  obtain⟨adm,um,RL,PS,km1,km2⟩:=kg.load hM hx;obtain⟨css,⟨-,g1,g2,a0,c0,rfl,g4,g5⟩,Po,R4,Om⟩:=PS;have OX:=eH R4;obtain⟨adq,cs,TM,hF,hl⟩:=gM.load hb hq;obtain⟨b3,a3,n3,c3,b4,a4,n4,c4,rfl,hF⟩:=hF;refine⟨adm,RL,by omega,.slice a0 x.length c0,rd1 km2 hw (hC _ km1),?_⟩;refine ic hτ dm (.x 0 (.x 3 (.x 5 (.x 6 (.x 7 (.ld 1 28672 (.ld 8 32256 (.two 2 (.two 4 (.x 9 (.x 10 (.jw 6 (.x 11 (.x 12 (.x 13 (.x 14 .nil))))))) 9 (.x 4 (.x 10 (.jw 6 (.x 11 (.x 12 (.x 13 (.x 14 .nil)))))))) 9 (.x 2 (.x 4 (.x 10 (.jw 6 (.x 11 (.x 12 (.x 13 (.x 14 .nil)))))))))))))))) (by kernel_rfl) (by kernel_rfl) ?_;refine⟨adq,TM,by omega,[.bool b3,.slice a3 n3 c3,.bool b4,.slice a4 n4 c4],rfl,rdO hl hw hD,?_,?_⟩
  ·refine⟨[.bool b3,.slice a3 n3 c3,.bool b4,.slice a4 n4 c4],rfl,rdO hl hw hD,rfl,rfl,?_,?_⟩
   ·refine .inl ?_;refine⟨css.flatten,g1,g2,fun O w' r Oo=>?_,?_⟩
    ·obtain⟨u0,RY⟩:∃u,css.flatten[0]? =some u:=⟨_,aB (by omega)⟩
     obtain⟨ad,ha,_,_⟩:=g5 0 u0 RY;refine⟨ad,ha,fun j u hj=>?_⟩;obtain⟨ad2,On,q1,q2⟩:=g5 j u hj;rw[ha]at On;injection On with On;subst On;rw[cH (w:=w) (w2:=w') (by rw[dH];exact(hw.tr r.cQ).block _ (hS _ q1))];exact q2
    refine⟨rfl,by omega,by unfold maxLen;omega,?_⟩;rw[aQ x.length];refine⟨[.bool b3,.slice a3 n3 c3,.bool b4,.slice a4 n4 c4],rfl,rdO hl hw hD,rfl,rfl,rfl,?_⟩;refine .inl ?_;refine⟨by rw[<-g1];rfl,by omega,by unfold maxLen;omega,rfl,[(1,.box T.dq [.w 2 rv.length,.v (.int .i64 ((cols+1:Nat):Int))]),(2,.vec T.fa 1 rv),(0,.box T.dq [.v (.slice am M.length cm),.v (.int .i64 cols)])],_,rfl,by simp,⟨rfl,rfl,rfl,trivial⟩,rfl,fun O w' r=>?_⟩;have hv:=Fz (S:=S) (x:=x) (q:=q) (css:=css) r (id:=6) rfl ⟨Po,fun j cs q k1 k2=>(Om j cs q k1 k2).cI fun g hg=>(hw.tr r.cQ).block g (hS g hg)⟩ (hF.cI (kS hw r hS)).rD (by unfold maxLen;omega);refine⟨hv.1,_,jG (tl:=[(25,pP 1 0),(26,.o (.w 2 rv.length)),(20,iN i),(1,sV ab b.length cb),(2,pP 0 0),(6,pP 1 0),(18,sV am M.length cm),(19,iZ M.length)]) hv.1 (t:=35) (n:=x.length+1) rfl ⟨rfl,rfl,rfl,rfl,rfl,rfl,rfl,rfl,trivial⟩ (by simp[jN,SV.sc,At.sc]),?_⟩;replace hK:=(dV.cJ (hK.rel r hS) (fun g hg=>hg.mono fun p hp=>List.mem_cons_of_mem _ hp)).push rfl hv.2;rw[<-OO]at hK;replace hw:=hw.tr r.cQ;generalize (O 6).g=gx at*
    generalize (O 6).cap=cx at*
    generalize (gx,gx+1)::iv=OK at*
    refine⟨rfl,?_⟩;refine .inl ?_;refine⟨by simp,by omega,by unfold maxLen;omega,((i+1:Nat):Int),wo,?_⟩;intro ρ3 w3 r3;exact⟨(i+1,rv++[.slice (some ⟨gx,0,none⟩) (x.length+1) cx],w3,_),⟨OF,hw.tr r3.cQ,hK.rel r3 hS⟩,Sub.gn [(2,8)] r3 ⟨by dsimp only;rw[List.length_append,List.length_singleton];rfl,rfl,rfl,trivial⟩,by dsimp only;omega⟩
   ·refine⟨rfl,?_⟩;refine .inl ?_;refine⟨css.flatten,g1,g2,fun O w' r Oo=>?_,?_⟩
    ·obtain⟨u0,RY⟩:∃u,css.flatten[0]? =some u:=⟨_,aB (by omega)⟩
     obtain⟨ad,ha,_,_⟩:=g5 0 u0 RY;refine⟨ad,ha,fun j u hj=>?_⟩;obtain⟨ad2,On,q1,q2⟩:=g5 j u hj;rw[ha]at On;injection On with On;subst On;rw[cH (w:=w) (w2:=w') (by rw[dH];exact(hw.tr r.cQ).block _ (hS _ q1))];exact q2
    refine⟨rfl,by omega,by unfold maxLen;omega,?_⟩;rw[aQ x.length];refine⟨rfl,?_⟩;refine .inl ?_;refine⟨by rw[<-g1];rfl,by omega,by unfold maxLen;omega,rfl,[(1,.box T.dq [.w 2 rv.length,.v (.int .i64 ((cols+1:Nat):Int))]),(2,.vec T.fa 1 rv),(0,.box T.dq [.v (.slice am M.length cm),.v (.int .i64 cols)])],_,rfl,by simp,⟨rfl,rfl,rfl,trivial⟩,rfl,fun O w' r=>?_⟩;have hv:=Fz (S:=S) (x:=x) (q:=q) (css:=css) r (id:=6) rfl ⟨Po,fun j cs q k1 k2=>(Om j cs q k1 k2).cI fun g hg=>(hw.tr r.cQ).block g (hS g hg)⟩ (hF.cI (kS hw r hS)).rD (by unfold maxLen;omega);refine⟨hv.1,_,jG (tl:=[(25,pP 1 0),(26,.o (.w 2 rv.length)),(20,iN i),(1,sV ab b.length cb),(2,pP 0 0),(6,pP 1 0),(18,sV am M.length cm),(19,iZ M.length)]) hv.1 (t:=35) (n:=x.length+1) rfl ⟨rfl,rfl,rfl,rfl,rfl,rfl,rfl,rfl,trivial⟩ (by simp[jN,SV.sc,At.sc]),?_⟩;replace hK:=(dV.cJ (hK.rel r hS) (fun g hg=>hg.mono fun p hp=>List.mem_cons_of_mem _ hp)).push rfl hv.2;rw[<-OO]at hK;replace hw:=hw.tr r.cQ;generalize (O 6).g=gx at*
    generalize (O 6).cap=cx at*
    generalize (gx,gx+1)::iv=OK at*
    refine⟨rfl,?_⟩;refine .inl ?_;refine⟨by simp,by omega,by unfold maxLen;omega,((i+1:Nat):Int),wo,?_⟩;intro ρ3 w3 r3;exact⟨(i+1,rv++[.slice (some ⟨gx,0,none⟩) (x.length+1) cx],w3,_),⟨OF,hw.tr r3.cQ,hK.rel r3 hS⟩,Sub.gn [(2,8)] r3 ⟨by dsimp only;rw[List.length_append,List.length_singleton];rfl,rfl,rfl,trivial⟩,by dsimp only;omega⟩
  ·refine⟨rfl,rfl,?_⟩;refine .inl ?_;refine⟨css.flatten,g1,g2,fun O w' r Oo=>?_,?_⟩
   ·obtain⟨u0,RY⟩:∃u,css.flatten[0]? =some u:=⟨_,aB (by omega)⟩
    obtain⟨ad,ha,_,_⟩:=g5 0 u0 RY;refine⟨ad,ha,fun j u hj=>?_⟩;obtain⟨ad2,On,q1,q2⟩:=g5 j u hj;rw[ha]at On;injection On with On;subst On;rw[cH (w:=w) (w2:=w') (by rw[dH];exact(hw.tr r.cQ).block _ (hS _ q1))];exact q2
   refine⟨rfl,by omega,by unfold maxLen;omega,?_⟩;rw[aQ x.length];refine⟨rfl,?_⟩;refine .inl ?_;refine⟨by rw[<-g1];rfl,by omega,by unfold maxLen;omega,rfl,[(1,.box T.dq [.w 2 rv.length,.v (.int .i64 ((cols+1:Nat):Int))]),(2,.vec T.fa 1 rv),(0,.box T.dq [.v (.slice am M.length cm),.v (.int .i64 cols)])],_,rfl,by simp,⟨rfl,rfl,rfl,trivial⟩,rfl,fun O w' r=>?_⟩;have hv:=Fz (S:=S) (x:=x) (q:=q) (css:=css) r (id:=6) rfl ⟨Po,fun j cs q k1 k2=>(Om j cs q k1 k2).cI fun g hg=>(hw.tr r.cQ).block g (hS g hg)⟩ (hF.cI (kS hw r hS)).rD (by unfold maxLen;omega);refine⟨hv.1,_,jG (tl:=[(25,pP 1 0),(26,.o (.w 2 rv.length)),(20,iN i),(1,sV ab b.length cb),(2,pP 0 0),(6,pP 1 0),(18,sV am M.length cm),(19,iZ M.length)]) hv.1 (t:=35) (n:=x.length+1) rfl ⟨rfl,rfl,rfl,rfl,rfl,rfl,rfl,rfl,trivial⟩ (by simp[jN,SV.sc,At.sc]),?_⟩;replace hK:=(dV.cJ (hK.rel r hS) (fun g hg=>hg.mono fun p hp=>List.mem_cons_of_mem _ hp)).push rfl hv.2;rw[<-OO]at hK;replace hw:=hw.tr r.cQ;generalize (O 6).g=gx at*
   generalize (O 6).cap=cx at*
   generalize (gx,gx+1)::iv=OK at*
   refine⟨rfl,?_⟩;refine .inl ?_;refine⟨by simp,by omega,by unfold maxLen;omega,((i+1:Nat):Int),wo,?_⟩;intro ρ3 w3 r3;exact⟨(i+1,rv++[.slice (some ⟨gx,0,none⟩) (x.length+1) cx],w3,_),⟨OF,hw.tr r3.cQ,hK.rel r3 hS⟩,Sub.gn [(2,8)] r3 ⟨by dsimp only;rw[List.length_append,List.length_singleton];rfl,rfl,rfl,trivial⟩,by dsimp only;omega⟩
 have OF:i=M.length:=aR hi (by simpa using OF);rw[List.take_of_length_le (by rw[kh];omega)]at hK;have TH:=IC (b:=b) hlen;obtain⟨f1,f2,f3,f4,f5⟩:=rE (cols+1) TH;generalize hA:(dR (jl M b) (cols+1)).1=A at*
 generalize hP:(dR (jl M b) (cols+1)).2.1=pv at*
 refine⟨((cols+1:Nat):Int),wo,?_⟩
 refine cD (cO (Φ:=fun _ w' v w2=>∃vr vp vf,v= .agg #[vr,.int .i64 ((cols+1:Nat):Int),vp,vf]∧cT w2 (Nw (Cv S w.heap.size iv) w' w2) vr A∧dK w2 (Nf w' w2) vp pv∧dK w2 (Nf w' w2) vf (dR (jl M b) (cols+1)).2.2) (fun O w' r=>by
  rw[<-hA,<-hP]
  exact vK (C:=fun g=>g<w'.heap.size) (fun g hg=>hg) (Rel.old r hS) ⟨rv,by rw[kh,<-OF,<-Oh];exact(r.ie (id:=2) (sz:=1) (m:=rv.length) rfl (by simp) (by unfold maxLen;omega) (by decide) hK.2.1).cJ fun g hg=>hg.2,hK.1,fun i u x h1 h2=>cL.rel (hK.2.2 i u x h1 h2) r hS⟩ TH (by omega) (by omega) (by rw[kh];omega) (aF _) hB hh) ?_)
 rintro O Pq v1 Pa r he PB ⟨vr,vp,vf,rfl,k1,k2,k3⟩;replace hw:=hw.tr PB;have hR:=cT.old k1 r.cF;have hV:=dK.dE (S:=FF) k2 r.cF (iv:=(Pq.heap.size,Pa.heap.size)::iv) aG;have hX:=dK.dE (S:=FF) k3 r.cF (iv:=(Pq.heap.size,Pa.heap.size)::iv) aG;generalize (Pq.heap.size,Pa.heap.size)::iv=OM at*
 obtain⟨ar,cr,rfl,Sg,hmr⟩:=db.shape hR;obtain⟨ap,cp,rfl,hcp,hmp⟩:=dK.shape hV;obtain⟨af,cf,rfl,-,-⟩:=dK.shape hX;refine cD (cO (Φ:=fun _ w' v w2=>da w2 FF w'.heap.size [(w'.heap.size,w2.heap.size)] v cols (List.replicate cols 0)) (fun O w' r=>EW cols w' (by omega)) ?_);rintro O Ph v2 PD r he PB hn;replace hw:=hw.tr PB;replace hR:=cT.cJ (S':=Bs S w.heap.size ((Ph.heap.size,PD.heap.size)::OM) v2) (cT.cI (cT.rel hR r hS) fun g hg=>he.block g (Rel.old r hS g hg)) fun g hg=>Bs.of r hS (fun x hx=>List.mem_cons_of_mem _ hx) hn hg;replace hV:=dK.cJ (S':=Bs FF w.heap.size ((Ph.heap.size,PD.heap.size)::OM) v2) (dK.cI (dK.rel hV r (cC w)) fun g hg=>he.block g (Rel.old r (cC w) g hg)) fun g hg=>Bs.of r (cC w) (fun x hx=>List.mem_cons_of_mem _ hx) hn hg;have hX:=hn.dE (S:=S) r.cF (iv:=(Ph.heap.size,PD.heap.size)::OM) aG;generalize (Ph.heap.size,PD.heap.size)::OM=OK at*
 obtain⟨ax,cx,rfl,Vk⟩:=hX.row.form;have hXl:=hX.row.le;unfold maxLen at hXl
 refine⟨Nat×World×Iv,fun z=>⟨[(51,iN z.1),(2,pP 0 0),(9,pP 3 0),(10,sV ax cols cx),(49,sV ap pv.length cp),(50,iZ pv.length)],[(3,.box T.dT [.v (.slice ar A.length cr),.v (.int .i64 ((cols+1:Nat):Int)),.v (.slice ap pv.length cp),.v (.slice af (dR (jl M b) (cols+1)).2.2.length cf)]),(0,.box T.dq [.v (.slice am M.length cm),.v (.int .i64 cols)])],4,z.2.2,z.2.1⟩,fun z=>pv.length-z.1,
  fun z=>z.1<=pv.length∧(∀(t p:Nat),t<z.1->pv[t]? =some p->p≠cols)∧eB w.heap.size w z.2.1∧cT z.2.1 (Bs S w.heap.size z.2.2 (.slice ax cols cx)) (.slice ar A.length cr) A∧dK z.2.1 (Bs FF w.heap.size z.2.2 (.slice ax cols cx)) (.slice ap pv.length cp) pv∧da z.2.1 S w.heap.size z.2.2 (.slice ax cols cx) cols (fp A pv cols z.1),?_,?_⟩
 ·intro O w' r;exact⟨(0,w',_),⟨aO _,fun t p ht=>absurd ht (Nat.not_lt_zero t),hw.tr r.cQ,cT.cI hR (Bs.same r hS),dK.cI hV (Bs.same r (cC w)),hX.rel r hS⟩,Sub.gn [] r⟩
 rintro⟨k,w3,iv⟩ ⟨hk,Tn,hw,hR,hV,hX⟩;dsimp only at hk Tn hw hR hV hX ⊢;refine dN.mk ?_ ?_<;>intro OI
 ·have OI:k<pv.length:=by simpa using OI
  obtain⟨p,hp⟩:∃p,pv[k]? =some p:=⟨_,aB OI⟩
  have RH:=f4 p (aC hp);obtain⟨adp,RA,kp1,kp2⟩:=hV.at hp;refine⟨adp,RA,by omega,.int .i64 (p:Int),fun O w' r=>?_,?_⟩
  ·rw[aE,cH (w:=w3) (w2:=w') (by rw[dH];exact Rel.same r (cC w) kp1.1)];exact kp2
  refine dN.mk ?_ ?_<;>intro he
  ·have he:p=cols:=by
    have:(p:Int)=cols:=by simpa using he
    omega
   intro ρe we re;refine⟨_,rfl,hw.tr re.cQ,.inl ⟨?_,rfl⟩⟩;unfold nZ;simp only[hP]
   rw[if_pos (by rw[<-he];exact aC hp)]
  have he:p≠cols:=fun e=>by rw[e]at he;simp at he
  obtain⟨x,hx⟩:∃x,A[k]? =some x:=⟨_,aB (by omega)⟩
  have PW:=f3 x (aC hx);obtain⟨q,hq⟩:∃q,x[cols]? =some q:=⟨_,aB (by omega)⟩
  have QO:dD A k cols=q:=by simp[dD,List.getD,hx,hq]
  obtain⟨adm,um,RL,PS,km1,km2⟩:=db.load hR hx;obtain⟨a0,c0,rfl,hc0,-⟩:=dM.shape PS;obtain⟨adq,cs,TM,hF,_,hl⟩:=dM.load PS hq;obtain⟨g0,g1,g2,g3,g4,g5,g6,g7,rfl,hF⟩:=hF;refine cN hτ dm [.x 0,.x 1,.x 2,.x 3,.x 4,.x 5,.x 6,.x 7,.x 8,.x 9,.x 10,.x 11,.x 12,.x 13] (by kernel_rfl) (by kernel_rfl) ?_;refine⟨adm,RL,by omega,.slice a0 x.length c0,fun O w' r=>?_,?_⟩
  ·rw[aE,cH (w:=w3) (w2:=w') (by rw[dH];exact Rel.same r hS km1.1)];exact km2
  refine⟨adq,TM,by omega,[.bool g0,.slice g1 g2 g3,.bool g4,.slice g5 g6 g7],rfl,fun O w' r j u hu=>?_,?_⟩
  ·obtain⟨k1,k2⟩:=hl j u hu;rw[aE,cH (w:=w3) (w2:=w') (by rw[dH,dH];exact Rel.same r hS k1.1)];exact k2
  obtain⟨gx,TL⟩:∃g,ax=some ⟨g,0,none⟩:=by
   obtain⟨css,h1,h2,h3⟩:=hX.row;rcases h1.2 with⟨_,h0⟩|⟨g,cap,cur,e,_⟩
   ·omega
   ·injection e with e;exact⟨g,e⟩
  subst TL;refine⟨⟨gx,0,none⟩,rfl,by omega,?_⟩;intro O w' r;obtain⟨g,hg,h1,h2,h3,h4,h5⟩:=(hX.rel r hS).store (j:=p) (by omega) (hF.cI (Bs.same r hS)) r hS;injection hg with hg;injection hg with hg;subst hg;refine⟨h1,h2,h3,fun w5 QZ=>?_⟩;obtain⟨k1,k2,k3⟩:=h5 w5 QZ;have Ow:eB w.heap.size w w5:=(hw.tr r.cQ).tr (eB.grown k2 (fun g e=>by injection e with e;subst e;exact h4.elim (fun h=>h.elim) fun h=>h.1) r.cF);have Qs:=cT.cI hR (Bs.kept r hS k2 fun g e=>e);have hV2:=dK.cI hV (Bs.kept r (cC w) k2 fun g e=>e);have OO:(fp A pv cols k).set p q=fp A pv cols (k+1):=by rw[gR,QO,List.getD,hp];rfl
  rw[OO]at k1;refine⟨((k+1:Nat):Int),wo,?_⟩;intro ρ3 w6 r3
  exact⟨(k+1,w6,_),⟨OI,fun t p2 ht QF=>by
   by_cases TP:t=k
   ·rw[TP,hp]at QF;injection QF with QF;rw[<-QF];exact he
   ·exact Tn t p2 (by dsimp only at ht;omega) QF,Ow.tr r3.cQ,cT.cI Qs (Bs.same r3 hS),dK.cI hV2 (Bs.same r3 (cC w)),k1.rel r3 hS⟩,Sub.gn [] r3,by dsimp only;omega⟩
 have OI:k=pv.length:=aR hk (by simpa using OI);subst OI;intro ρe we re;refine⟨_,rfl,hw.tr re.cQ,.inr ⟨_,_,?_,rfl,hX.aAK re hS⟩⟩;unfold nZ;simp only[hA,hP]
 rw[aK];intro hm;obtain⟨t,ht⟩:=aU hm;exact Tn t cols (aD.1 ht).1 ht rfl
theorem Ea{u:Value}{cols:Nat}(hC:Old C w)(hS:Old S w)(hM:kg w C S v M)(hb:cL w S u b)(Pf:b.length=M.length)(hlen:fX cols M)(hn:cols<=999)(hR:M.length<=1000)(hB:Cr (jl M b) (cols+1) h)(hh:3*h<=90000):
  eD PG N.jA #[.agg #[v,.int .i64 cols],u] w (eG w fun v' w2=>(nZ M b cols=none∧v'= .tuple #[.slice none 0 0,.bool false])∨∃x vx,nZ M b cols=some x∧v'= .tuple #[vx,.bool true]∧da w2 S w.heap.size [(w.heap.size,w2.heap.size)] vx cols x):=
 B9 hC hS hS hM (cL.rc hb) Pf hlen hn hR hB hh
def sK(pv:List Nat)(n i:Nat):List Value:=(List.range n).map fun c=>.bool (decide (c∈pv.take i))
theorem ID(pv:List Nat)(n:Nat):sK pv n 0=List.replicate n (.bool false):=by
 refine bM fun j=>?_;rw[sK,aN,List.getElem?_replicate];by_cases h:j<n
 ·rw[bq h,if_pos h];rfl
 ·rw[List.getElem?_eq_none (by simp;omega),aK h];rfl
theorem Cs{n i c:Nat}(h:c<n):(sK pv n i)[c]? =some (.bool (decide (c∈pv.take i))):=by
 rw[sK,aN,bq h];rfl
theorem IE{n i p:Nat}(hp:pv[i]? =some p):(sK pv n i).set p (.bool true)=sK pv n (i+1):=by
 refine bM fun j=>?_;by_cases hj:j<n
 ·rw[Cs hj,List.take_add_one,hp];by_cases hpj:p=j
  ·subst hpj;rw[aW (by simp[sK];exact hj)];simp
  ·rw[aX hpj,Cs hj];have:j≠p:=fun e=>hpj e.symm;simp[this]
 ·rw[List.getElem?_eq_none (by simp[sK];omega),List.getElem?_eq_none (by simp[sK];omega)]
theorem da.at{n:Nat}{cx:Nat}(h:da w S B iv (.slice ax n cx) n qs)(h0:0<n):∃g,ax=some ⟨g,0,none⟩:=by
 obtain⟨css,h1,h2,h3⟩:=h.row;rcases h1.2 with⟨_,h0⟩|⟨g,cap,cur,e,_⟩
 ·omega
 ·injection e with e;exact⟨g,e⟩
set_option maxHeartbeats 2000000 in
theorem IF{n:Nat}(hC:Old C w)(hS:Old S w)(hM:kg w C S v M)(hlen:fX n M)(hn0:0<n)(hn:n<=1000)(hR:M.length<=1000)(hB:Cr M n h)(hAb:Ht (dR M n).1 h)(hh:3*h<=90000):
  eD PG N.gS #[.agg #[v,.int .i64 n]] w (eG w fun v' w2=>cT w2 (Nf w w2) v' (k7 M n)):=by
 have hw:=bR w;obtain⟨am,cm,rfl,SR,R1⟩:=kg.shape hM;unfold maxLen at R1;obtain⟨f1,f2,f3,f4,f5⟩:=rE n hlen;refine j0 (by simp) ?_;unfold k7;generalize hA:(dR M n).1=A at*
 generalize hP:(dR M n).2.1=pv at*
 refine cD (cO (Φ:=fun _ w' v w2=>∃vr vp vf,v= .agg #[vr,.int .i64 n,vp,vf]∧cT w2 (Nw S w' w2) vr A∧dK w2 (Nf w' w2) vp pv∧dK w2 (Nf w' w2) vf (dR M n).2.2) (fun O w' r=>by
  rw[<-hA,<-hP];obtain⟨rv,m1,m2,m3⟩:=hM
  exact vK (C:=C) (S:=S) (oS hC r) (oS hS r) ⟨rv,m1.cI fun g hg=>(hw.tr r.cQ).block g (hC g hg),m2,fun i u x h1 h2=>cL.cI (m3 i u x h1 h2) fun g hg=>(hw.tr r.cQ).block g (hS g hg)⟩ hlen hn0 hn hR (aF _) hB hh) ?_)
 rintro O Pq v1 Pa r he PB ⟨vr,vp,vf,rfl,k1,k2,k3⟩;replace hw:=hw.tr PB;have hR:=cT.old (cT.cJ k1 fun g hg=>hg.imp (fun h=>(Or.inl h:Cv S w.heap.size [] g)) id) r.cF;have hV:=dK.dE (S:=FF) k2 r.cF (iv:=(Pq.heap.size,Pa.heap.size)::[]) aG;have hX:=dK.dE (S:=FF) k3 r.cF (iv:=(Pq.heap.size,Pa.heap.size)::[]) aG;generalize (Pq.heap.size,Pa.heap.size)::[]=OM at*
 obtain⟨ar,cr,rfl,Sg,hmr⟩:=db.shape hR;obtain⟨ap,cp,rfl,hcp,hmp⟩:=dK.shape hV;obtain⟨af,cf,rfl,-,-⟩:=dK.shape hX
 refine⟨n,n,rfl,rfl,aF _,by omega,by omega,Nat×World×Iv,fun z=>⟨[(1,pP 0 0),(3,pP 1 0),(4,.o (.s 2 0 n n)),(20,sV ap pv.length cp),(21,iZ pv.length),(22,iN z.1)],[(2,.arr T.bool (sK pv n z.1)),(1,.box T.dT [.v (.slice ar A.length cr),.v (.int .i64 n),.v (.slice ap pv.length cp),.v (.slice af (dR M n).2.2.length cf)]),(0,.box T.dq [.v (.slice am M.length cm),.v (.int .i64 n)])],3,z.2.2,z.2.1⟩,fun z=>pv.length-z.1,
  fun z=>z.1<=pv.length∧eB w.heap.size w z.2.1∧cT z.2.1 (Cv S w.heap.size z.2.2) (.slice ar A.length cr) A∧dK z.2.1 (Cf w z.2.2) (.slice ap pv.length cp) pv,?_,?_⟩
 ·intro O w' r3;exact⟨(0,w',_),⟨aO _,hw.tr r3.cQ,cT.rel hR r3 hS,dK.rel hV r3 (cC w)⟩,Sub.gn [] r3 ⟨by dsimp only;rw[ID];rfl,rfl,rfl,trivial⟩⟩
 rintro⟨i,w1,iv⟩ ⟨hi,hw,hR,hV⟩;dsimp only at hi hw hR hV ⊢;refine dN.mk ?_ ?_<;>intro OF
 ·have OF:i<pv.length:=by simpa using OF
  obtain⟨p,hp⟩:∃p,pv[i]? =some p:=⟨_,aB OF⟩
  have RH:=f4 p (aC hp);obtain⟨adp,RA,kp1,kp2⟩:=hV.at hp;refine⟨adp,RA,by omega,.int .i64 (p:Int),fun O w' r=>?_,?_⟩
  ·rw[aE,cH (w:=w1) (w2:=w') (by rw[dH];exact Rel.same r (cC w) kp1)];exact kp2
  refine⟨by omega,by simp[sK];omega,sK pv n (i+1),?_,?_⟩
  ·rw[aE,aS,aQ,<-IE hp];exact fu (by simp[sK];omega)
  refine⟨((i+1:Nat):Int),wo,?_⟩;intro ρ3 w3 r3;exact⟨(i+1,w3,_),⟨OF,hw.tr r3.cQ,cT.rel hR r3 hS,dK.rel hV r3 (cC w)⟩,Sub.gn [] r3,by dsimp only;omega⟩
 have OF:i=pv.length:=aR hi (by simpa using OF);subst OF
 refine⟨Nat×List Value×World×Iv,fun z=>⟨[(32,iN z.1),(7,.o (.w 3 z.2.1.length)),(1,pP 0 0),(3,pP 1 0),(4,.o (.s 2 0 n n)),(31,iZ n)],[(2,.arr T.bool (sK pv n pv.length)),(3,.vec T.fa 1 z.2.1),(1,.box T.dT [.v (.slice ar A.length cr),.v (.int .i64 n),.v (.slice ap pv.length cp),.v (.slice af (dR M n).2.2.length cf)]),(0,.box T.dq [.v (.slice am M.length cm),.v (.int .i64 n)])],4,z.2.2.2,z.2.2.1⟩,fun z=>n-z.1,
  fun z=>z.1<=n∧eB w.heap.size w z.2.2.1∧cT z.2.2.1 (Cv S w.heap.size z.2.2.2) (.slice ar A.length cr) A∧dK z.2.2.1 (Cf w z.2.2.2) (.slice ap pv.length cp) pv∧dV z.2.2.1 (Cf w z.2.2.2) z.2.1 (eP A pv n z.1),?_,?_⟩
 ·intro O w' r;exact⟨(0,[],w',_),⟨aO _,hw.tr r.cQ,cT.rel hR r hS,dK.rel hV r (cC w),by simp[dV,eP]⟩,Sub.nil 7 T.fa 1 rfl (by simp[jN,SV.sc,At.sc]) r fun ρ1 r1=>Sub.gn [] r1⟩
 rintro⟨c,rv,w1,iv⟩ ⟨hc,hw,hR,hV,hK⟩;dsimp only at hc hw hR hV hK ⊢;have Oh:rv.length=(eP A pv n c).length:=hK.1;have hrc:=Eb A pv n c;refine dN.mk ?_ ?_<;>intro Pu
 ·have Pu:c<n:=by simpa using Pu
  refine⟨by omega,.bool (decide (c∈pv)),by rw[aE,aS,aQ,Cs Pu,bF],?_⟩;refine dN.mk ?_ ?_<;>intro hm
  ·have hm:c∈pv:=by simpa using hm
   refine⟨((c+1:Nat):Int),wo,?_⟩;intro ρ3 w3 r3;exact⟨(c+1,rv,w3,_),⟨Pu,hw.tr r3.cQ,cT.rel hR r3 hS,dK.rel hV r3 (cC w),by dsimp only;rw[Ec hm];exact hK.rel r3 (cC w)⟩,Sub.gn [] r3,by dsimp only;omega⟩
  have hm:c∉pv:=by simpa using hm
  refine cD (cO (Φ:=fun _ w' v w2=>da w2 FF w'.heap.size [(w'.heap.size,w2.heap.size)] v n (List.replicate n 0)) (fun O w' r=>EW n w' (by omega)) ?_);rintro O Ph v2 PD r he PB Qj;replace hw:=hw.tr PB;replace hR:=cT.cJ (S':=Bs S w.heap.size ((Ph.heap.size,PD.heap.size)::iv) v2) (cT.cI (cT.rel hR r hS) fun g hg=>he.block g (Rel.old r hS g hg)) fun g hg=>Bs.of r hS (fun x hx=>List.mem_cons_of_mem _ hx) Qj hg;replace hV:=dK.cJ (S':=Bs FF w.heap.size ((Ph.heap.size,PD.heap.size)::iv) v2) (dK.cI (dK.rel hV r (cC w)) fun g hg=>he.block g (Rel.old r (cC w) g hg)) fun g hg=>Bs.of r (cC w) (fun x hx=>List.mem_cons_of_mem _ hx) Qj hg;replace hK:=dV.cJ (S':=Bs FF w.heap.size ((Ph.heap.size,PD.heap.size)::iv) v2) (dV.cI (dV.rel hK r (cC w)) fun g hg=>he.block g (Rel.old r (cC w) g hg)) fun g hg=>Bs.of r (cC w) (fun x hx=>List.mem_cons_of_mem _ hx) Qj hg;have hX:=Qj.dE (S:=FF) r.cF (iv:=(Ph.heap.size,PD.heap.size)::iv) aG;generalize (Ph.heap.size,PD.heap.size)::iv=OK at*
  obtain⟨ax,cx,rfl,Vk⟩:=hX.row.form;obtain⟨gx,rfl⟩:=hX.at hn0;refine cD (cO (Φ:=fun _ w' v w2=>cS w2 (Nf w' w2) v ((1:Int):Rat)) (fun O w' r=>lO 1 w' (by decide) (by decide)) ?_);rintro O PQ v3 PN r he PB Qj;replace hw:=hw.tr PB;replace hR:=cT.cJ (S':=Bs S w.heap.size ((PQ.heap.size,PN.heap.size)::OK) (.slice (some ⟨gx,0,none⟩) n cx)) (cT.cI (cT.cI hR (Bs.same r hS)) fun g hg=>he.block g (Rel.old r hS g hg.1)) fun g hg=>Bs.mono (fun x hx=>List.mem_cons_of_mem _ hx) hg;replace hV:=dK.cJ (S':=Bs FF w.heap.size ((PQ.heap.size,PN.heap.size)::OK) (.slice (some ⟨gx,0,none⟩) n cx)) (dK.cI (dK.cI hV (Bs.same r (cC w))) fun g hg=>he.block g (Rel.old r (cC w) g hg.1)) fun g hg=>Bs.mono (fun x hx=>List.mem_cons_of_mem _ hx) hg;replace hK:=dV.cJ (S':=Bs FF w.heap.size ((PQ.heap.size,PN.heap.size)::OK) (.slice (some ⟨gx,0,none⟩) n cx)) (dV.cI (dV.cI hK (Bs.same r (cC w))) fun g hg=>he.block g (Rel.old r (cC w) g hg.1)) fun g hg=>Bs.mono (fun x hx=>List.mem_cons_of_mem _ hx) hg;have hd:=(Qj.cJ (S':=Bs FF w.heap.size ((PQ.heap.size,PN.heap.size)::OK) (.slice (some ⟨gx,0,none⟩) n cx)) fun g hg=>hg.elim (fun h=>h.elim) fun h=>⟨.inr ⟨by have:=r.cF;omega,_,_,aG,h.1,h.2⟩,fun e=>by have:=Rel.old r (cC w) g (hX.new g e);omega⟩)
  replace hX:=hX.cG (iv':=(PQ.heap.size,PN.heap.size)::OK) r (cC w) he fun x hx=>List.mem_cons_of_mem _ hx;generalize (PQ.heap.size,PN.heap.size)::OK=OS at*
  obtain⟨A0,A1,A2,A3,A4,A5,A6,A7,rfl⟩:=hd.shape;refine⟨⟨gx,0,none⟩,rfl,by omega,?_⟩;intro O w' r;obtain⟨g,hg,h1,h2,h3,h4,h5⟩:=(hX.rel r (cC w)).store (j:=c) Pu (hd.cI (Bs.same r (cC w))) r (cC w);injection hg with hg;injection hg with hg;subst hg;refine⟨h1,h2,h3,fun w5 QZ=>?_⟩;obtain⟨k1,k2,k3⟩:=h5 w5 QZ;have Ow:eB w.heap.size w w5:=(hw.tr r.cQ).tr (eB.grown k2 (fun g e=>by injection e with e;subst e;exact h4.elim (fun h=>h.elim) fun h=>h.1) r.cF);have Qs:=cT.cI hR (Bs.kept r hS k2 fun g e=>e);have hV2:=dK.cI hV (Bs.kept r (cC w) k2 fun g e=>e);have Q1:=dV.cI hK (Bs.kept r (cC w) k2 fun g e=>e);have OO:(List.replicate n (0:Rat)).set c ((1:Int):Rat)=gC A pv n c 0:=rfl;rw[OO]at k1
  refine⟨Nat×World×Iv,fun z=>⟨[(49,iN z.1),(8,iN c),(9,.o (.v (.slice (some ⟨gx,0,none⟩) n cx))),(32,iN c),(47,sV ap pv.length cp),(48,iZ pv.length),(7,.o (.w 3 rv.length)),(1,pP 0 0),(3,pP 1 0),(4,.o (.s 2 0 n n)),(31,iZ n)],[(2,.arr T.bool (sK pv n pv.length)),(3,.vec T.fa 1 rv),(1,.box T.dT [.v (.slice ar A.length cr),.v (.int .i64 n),.v (.slice ap pv.length cp),.v (.slice af (dR M n).2.2.length cf)]),(0,.box T.dq [.v (.slice am M.length cm),.v (.int .i64 n)])],4,z.2.2,z.2.1⟩,fun z=>pv.length-z.1,
   fun z=>z.1<=pv.length∧eB w.heap.size w z.2.1∧cT z.2.1 (Bs S w.heap.size z.2.2 (.slice (some ⟨gx,0,none⟩) n cx)) (.slice ar A.length cr) A∧dK z.2.1 (Bs FF w.heap.size z.2.2 (.slice (some ⟨gx,0,none⟩) n cx)) (.slice ap pv.length cp) pv∧dV z.2.1 (Bs FF w.heap.size z.2.2 (.slice (some ⟨gx,0,none⟩) n cx)) rv (eP A pv n c)∧da z.2.1 FF w.heap.size z.2.2 (.slice (some ⟨gx,0,none⟩) n cx) n (gC A pv n c z.1),?_,?_⟩
  ·intro O w' r3;exact⟨(0,w',_),⟨aO _,Ow.tr r3.cQ,cT.cI Qs (Bs.same r3 hS),dK.cI hV2 (Bs.same r3 (cC w)),dV.cI Q1 (Bs.same r3 (cC w)),k1.rel r3 (cC w)⟩,Sub.gn [] r3⟩
  rintro⟨k,w3,iv⟩ ⟨hk,hw,hR,hV,hK,hX⟩;dsimp only at hk hw hR hV hK hX ⊢;refine dN.mk ?_ ?_<;>intro OI
  ·have OI:k<pv.length:=by simpa using OI
   obtain⟨p,hp⟩:∃p,pv[k]? =some p:=⟨_,aB OI⟩
   have RH:=f4 p (aC hp);obtain⟨adp,RA,kp1,kp2⟩:=hV.at hp;obtain⟨x,hx⟩:∃x,A[k]? =some x:=⟨_,aB (by omega)⟩
   have PW:=f3 x (aC hx);obtain⟨q,hq⟩:∃q,x[c]? =some q:=⟨_,aB (by omega)⟩
   have QO:dD A k c=q:=by simp[dD,List.getD,hx,hq]
   have UI:=hAb x (aC hx) q (aC hq);obtain⟨adm,um,RL,PS,km1,km2⟩:=db.load hR hx;obtain⟨a0,c0,rfl,hc0,-⟩:=dM.shape PS;obtain⟨adq,cs,TM,hF,_,hl⟩:=dM.load PS hq;obtain⟨g0,g1,g2,g3,g4,g5,g6,g7,rfl,hF⟩:=hF;refine⟨adp,RA,by omega,.int .i64 (p:Int),fun O w' r=>?_,?_⟩
   ·rw[aE,cH (w:=w3) (w2:=w') (by rw[dH];exact Rel.same r (cC w) kp1.1)];exact kp2
   refine⟨adm,RL,by omega,.slice a0 x.length c0,fun O w' r=>?_,?_⟩
   ·rw[aE,cH (w:=w3) (w2:=w') (by rw[dH];exact Rel.same r hS km1.1)];exact km2
   refine⟨adq,TM,by omega,[.bool g0,.slice g1 g2 g3,.bool g4,.slice g5 g6 g7],rfl,fun O w' r j u hu=>?_,?_⟩
   ·obtain⟨k1,k2⟩:=hl j u hu;rw[aE,cH (w:=w3) (w2:=w') (by rw[dH,dH];exact Rel.same r hS k1.1)];exact k2
   refine cD (cO (Φ:=fun _ w' v w2=>cS w2 (Nf w' w2) v (-q)) (fun O w' r=>Jy (S:=Bs S w.heap.size iv (.slice (some ⟨gx,0,none⟩) n cx)) (fun g hg=>Rel.old r hS g hg.1) ((hF.cI (Bs.same r hS)).l (by omega))) ?_);rintro O RE v4 Qr r he PB Qj;replace hw:=hw.tr PB;replace hR:=cT.cJ (S':=Bs S w.heap.size ((RE.heap.size,Qr.heap.size)::iv) (.slice (some ⟨gx,0,none⟩) n cx)) (cT.cI (cT.cI hR (Bs.same r hS)) fun g hg=>he.block g (Rel.old r hS g hg.1)) fun g hg=>Bs.mono (fun x hx=>List.mem_cons_of_mem _ hx) hg;replace hV:=dK.cJ (S':=Bs FF w.heap.size ((RE.heap.size,Qr.heap.size)::iv) (.slice (some ⟨gx,0,none⟩) n cx)) (dK.cI (dK.cI hV (Bs.same r (cC w))) fun g hg=>he.block g (Rel.old r (cC w) g hg.1)) fun g hg=>Bs.mono (fun x hx=>List.mem_cons_of_mem _ hx) hg;replace hK:=dV.cJ (S':=Bs FF w.heap.size ((RE.heap.size,Qr.heap.size)::iv) (.slice (some ⟨gx,0,none⟩) n cx)) (dV.cI (dV.cI hK (Bs.same r (cC w))) fun g hg=>he.block g (Rel.old r (cC w) g hg.1)) fun g hg=>Bs.mono (fun x hx=>List.mem_cons_of_mem _ hx) hg;have hd:=(Qj.cJ (S':=Bs FF w.heap.size ((RE.heap.size,Qr.heap.size)::iv) (.slice (some ⟨gx,0,none⟩) n cx)) fun g hg=>hg.elim (fun h=>h.elim) fun h=>⟨.inr ⟨by have:=r.cF;omega,_,_,aG,h.1,h.2⟩,fun e=>by have:=Rel.old r (cC w) g (hX.new g e);omega⟩)
   replace hX:=hX.cG (iv':=(RE.heap.size,Qr.heap.size)::iv) r (cC w) he fun x hx=>List.mem_cons_of_mem _ hx;generalize (RE.heap.size,Qr.heap.size)::iv=Oe at*
   obtain⟨C0,C1,C2,C3,C4,C5,C6,C7,rfl⟩:=hd.shape;refine⟨⟨gx,0,none⟩,rfl,by omega,?_⟩;intro O w' r;obtain⟨g,hg,h1,h2,h3,h4,h5⟩:=(hX.rel r (cC w)).store (j:=p) (by omega) (hd.cI (Bs.same r (cC w))) r (cC w);injection hg with hg;injection hg with hg;subst hg;refine⟨h1,h2,h3,fun w5 QZ=>?_⟩;obtain⟨k1,k2,k3⟩:=h5 w5 QZ;have Ow:eB w.heap.size w w5:=(hw.tr r.cQ).tr (eB.grown k2 (fun g e=>by injection e with e;subst e;exact h4.elim (fun h=>h.elim) fun h=>h.1) r.cF);have Qs:=cT.cI hR (Bs.kept r hS k2 fun g e=>e);have hV2:=dK.cI hV (Bs.kept r (cC w) k2 fun g e=>e);have Q1:=dV.cI hK (Bs.kept r (cC w) k2 fun g e=>e);have OO:(gC A pv n c k).set p (-q)=gC A pv n c (k+1):=by rw[gp,QO,List.getD,hp];rfl
   rw[OO]at k1;refine⟨((k+1:Nat):Int),wo,?_⟩;intro ρ3 w6 r3;exact⟨(k+1,w6,_),⟨OI,Ow.tr r3.cQ,cT.cI Qs (Bs.same r3 hS),dK.cI hV2 (Bs.same r3 (cC w)),dV.cI Q1 (Bs.same r3 (cC w)),k1.rel r3 (cC w)⟩,Sub.gn [] r3,by dsimp only;omega⟩
  have OI:k=pv.length:=aR hk (by simpa using OI);rw[OI]at hX;replace hR:=cT.cJ hR fun g hg=>hg.1;replace hV:=dK.cJ hV fun g hg=>hg.1;replace hK:=(dV.cJ hK fun g hg=>hg.1).push (u:=(.slice (some ⟨gx,0,none⟩) n cx)) (x:=gC A pv n c pv.length) rfl (by have:=hX.c;exact this);rw[<-Ct hm]at hK;refine .inl ?_;refine⟨by simp,by omega,by unfold maxLen;omega,((c+1:Nat):Int),wo,?_⟩;intro ρ3 w3 r3;exact⟨(c+1,rv++[(.slice (some ⟨gx,0,none⟩) n cx)],w3,_),⟨Pu,hw.tr r3.cQ,cT.rel hR r3 hS,dK.rel hV r3 (cC w),hK.rel r3 (cC w)⟩,Sub.gn [(3,5)] r3 (hE:=⟨rfl,by dsimp only;rw[List.length_append,List.length_singleton];rfl,rfl,rfl,rfl,rfl,trivial⟩),by dsimp only;omega⟩
 have Pu:c=n:=aR hc (by simpa using Pu);subst Pu;intro ρe we re;refine⟨_,rfl,hw.tr re.cQ,rv,?_,hK.1,fun i u x k1 k2=>cL.cJ (cL.rel (hK.2.2 i u x k1 k2) re (cC w)) fun g hg=>Cv.nw hg re⟩;rw[<-hK.1];exact(re.ie (id:=3) (sz:=1) (m:=rv.length) rfl (by simp) (by unfold maxLen;omega) (by decide) hK.2.1).cJ fun g hg=>.inr hg
structure ig(w:World)(S:Nat->Prop)(B:Nat)(iv:Iv)(v:Value)(n i:Nat)(qs:List Rat):Prop where
 row:∃css,w.ownsRow 0 T.Rat 4 v n css.flatten∧gG w (Bs S B iv v) n i css qs
 new:∀g,v.ownBlock=some g->Cv FF B iv g
section
variable{S S':Nat->Prop}{H:Hp}{nx n i:Nat}{iv iv':Iv}{B:Nat}{w w' w2:World}{O:Nat->Sx.dg}{v:Value}{qs:List Rat}
theorem ig.cI(h:ig w S B iv v n i qs)(hk:∀g,Cv S B iv g->w2.heap[g]? =w.heap[g]?):ig w2 S B iv v n i qs:=by
 obtain⟨⟨css,h1,h2⟩,h3⟩:=h;exact⟨⟨css,ownsRow.cI h1 fun g hg=>hk g (Aj (h3 g hg)),h2.cI fun g hg=>hk g hg.1⟩,h3⟩
theorem ig.rel(h:ig w S B iv v n i qs)(r:Rel H nx iv B w O w')(hS:∀g,S g->g<B):ig w' S B iv v n i qs:=h.cI fun _ hg=>Rel.same r hS hg
theorem ig.mono(h:ig w S B iv v n i qs)(hm:∀p,p∈iv->p∈iv'):ig w S B iv' v n i qs:=by
 obtain⟨⟨css,h1,h2⟩,h3⟩:=h;exact⟨⟨css,h1,h2.cJ fun g hg=>hg.mono hm⟩,fun g hg=>(h3 g hg).mono hm⟩
theorem ig.cG(h:ig w S B iv v n i qs)(r:Rel H nx iv B w O w')(hS:∀g,S g->g<B)(he:Ext w' w2)(hm:∀p,p∈iv->p∈iv'):ig w2 S B iv' v n i qs:=
 ((h.rel r hS).cI fun g hg=>he.block g (Rel.old r hS g hg)).mono hm
theorem ig.jw(r:Rel H nx iv B w O w')(h:dB H id=some (.arr T.Rat (List.replicate n [Value.bool false,.slice none 0 0,.bool false,.slice none 0 0]).flatten))(hn:n<=maxLen)(qs:List Rat):
  ig w' S B (((O id).g,(O id).g+1)::iv) (.slice (some ⟨(O id).g,0,none⟩) n n) n 0 qs:=by
 have PE:=(r.fits h).1;have h4:∀cs∈List.replicate n [Value.bool false,.slice none 0 0,.bool false,.slice none 0 0],cs.length=4:=fun cs hc=>by rw[bL hc];rfl
 have hf:=eH h4;rw[bC]at hf;refine⟨⟨List.replicate n [.bool false,.slice none 0 0,.bool false,.slice none 0 0],⟨hf,.inr ⟨(O id).g,n,_,rfl,aO _,r.arr id _ _ h,aF _,hn,by simp,by rw[<-hf];exact bF⟩⟩,gG.start w' _ n qs⟩,fun g hg=>?_⟩;injection hg with hg;have hg:(O id).g=g:=hg;subst hg;exact .inr ⟨(r.low id _ h PE).1,_,_,aG,aF _,bY _⟩
theorem ig.store{a1 a2:Option Addr}{c j n1 c1 n2 c2:Nat}{b b2:Bool}(h:ig w S B iv (.slice a n c) n j qs)(hj:j<n)(hq:qs[j]? =some q)(hf:cS w (Bs S B iv (.slice a n c)) (.agg #[.bool b,.slice a1 n1 c1,.bool b2,.slice a2 n2 c2]) q)
  (r:Rel H nx iv B w O w') (hS:∀g,S g->g<B):
  ∃g,a=some ⟨g,0,none⟩∧((⟨g,0,none⟩:Addr).add ((j:Int).toNat*4)).spot=none∧
   (∀k,k<4->(w'.cell? (((⟨g,0,none⟩:Addr).add ((j:Int).toNat*4)).add k)).isSome=true∧w'.frozen? (((⟨g,0,none⟩:Addr).add ((j:Int).toNat*4)).add k)=false)∧
   (∀id b,dB H id=some b->(O id).nil=false->(O id).g≠((⟨g,0,none⟩:Addr).add ((j:Int).toNat*4)).block)∧
   ∀w2,w2=setCells w' ((⟨g,0,none⟩:Addr).add ((j:Int).toNat*4)) [.bool b,.slice a1 n1 c1,.bool b2,.slice a2 n2 c2]->ig w2 S B iv (.slice a n c) n (j+1) qs∧w'.grownBy w2 (some g)∧eB B w' w2∧Rel H nx iv B w2 O w2:=by
 obtain⟨⟨css,h1,h2⟩,h3⟩:=h.rel r hS;have hf:=hf.cI (Bs.same r hS);obtain⟨g,rfl,OJ,QV,PX,Oq⟩:=ow (nv:=[.bool b,.slice a1 n1 c1,.bool b2,.slice a2 n2 c2]) h1 rfl hj rfl (by decide);have Od:(⟨g,0,none⟩:Addr).add ((j:Int).toNat*4)=⟨g,j*4,none⟩:=by rw[aE,dQ,aQ]
 have Q6:=Rel.not r (gH B) (h3 g rfl);refine⟨g,rfl,by rw[Od],fun k hk=>by rw[Od];exact OJ k hk,fun id b hb hn=>by rw[Od];exact Q6 id b hb hn,fun w2 Ow=>?_⟩;rw[Od]at Ow;subst Ow;have UL:=jH (cs:=[.bool b,.slice a1 n1 c1,.bool b2,.slice a2 n2 c2]) h2.four (show j<css.length by rw[h2.len];exact hj);rw[UL]at QV;have OW:∀x,Bs S B iv (.slice (some ⟨g,0,none⟩) n c) x->(setCells w' ⟨g,j*4,none⟩ [.bool b,.slice a1 n1 c1,.bool b2,.slice a2 n2 c2]).heap[x]? =w'.heap[x]? :=fun x hx=>
  PX.block x (Rel.old r hS x hx.1) fun e=>hx.2 e.symm
 refine⟨⟨⟨_,QV,(h2.cI OW).next hj hq (hf.cI OW)⟩,h3⟩,PX,eB.grown PX (fun x e=>by injection e with e;subst e;exact(h3 g rfl).elim (fun h=>h.elim) fun h=>h.1) r.cF,r.yD Q6 PX⟩
theorem ig.done(h:ig w S B iv v n n qs)(hl:qs.length=n):da w S B iv v n qs:=by
 obtain⟨⟨css,h1,h2⟩,h3⟩:=h;exact⟨⟨css,h1,h2.len,by rw[h2.len,hl],fun j cs q k1 k2=>h2.at_ j cs q (by rw[<-hl];exact(aD.1 k2).1) k1 k2⟩,h3⟩
end
theorem rF(M:List (List Rat))(n:Nat):(eK M n).length=n:=by simp[eK]
theorem IG{n k:Nat}(h:k<n):(eK M n)[k]? =some (M.map fun r=>r.getD k 0):=by rw[eK,aN,bq h];rfl
set_option maxHeartbeats 1000000 in
theorem Al{n:Nat}(hC:Old C w)(hS:Old S w)(hM:kg w C S v M)(hlen:fX n M)(hn:n<=1000)(hR:M.length<=1000):
  eD PG N.jF #[.agg #[v,.int .i64 n]] w (eG w fun v' w2=>∃vr,v'= .agg #[vr,.int .i64 M.length]∧cT w2 (Nw S w w2) vr (eK M n)):=by
 have hw:=bR w;obtain⟨am,cm,rfl,SR,R1⟩:=kg.shape hM;unfold maxLen at R1;refine kf (by simp) ?_
 refine⟨Nat×List Value×World×Iv,fun z=>⟨[(13,iN z.1),(1,pP 0 0),(2,pP 1 0),(3,pP 2 0),(12,iZ n)],[(2,.box T.dq [.w 3 z.2.1.length,.v (.int .i64 M.length)]),(3,.vec T.fa 1 z.2.1),(1,.box T.dq [.v (.slice none 0 0),.v (.int .i64 0)]),(0,.box T.dq [.v (.slice am M.length cm),.v (.int .i64 n)])],4,z.2.2.2,z.2.2.1⟩,fun z=>n-z.1,
  fun z=>z.1<=n∧eB w.heap.size w z.2.2.1∧dV z.2.2.1 (Cv S w.heap.size z.2.2.2) z.2.1 ((eK M n).take z.1),?_,?_⟩
 ·intro O w' r;exact⟨(0,[],w',[]),⟨aO _,hw.tr r.cQ,by simp[dV]⟩,Sub.Ak 2 0 T.fa 1 rfl rfl (by simp[jN,SV.sc,At.sc,fW]) r fun ρ1 r1=>Sub.gn [] r1⟩
 rintro⟨k,rv,w1,iv⟩ ⟨hk,hw,hK⟩;dsimp only at hk hw hK ⊢;have Oh:rv.length=k:=by rw[hK.1,aV,rF];omega
 refine dN.mk ?_ ?_<;>intro OI
 ·have OI:k<n:=by simpa using OI
  have TP:=IG (M:=M) OI;have OO:(eK M n).take (k+1)=(eK M n).take k++[M.map fun r=>r.getD k 0]:=by rw[List.take_add_one,TP];rfl
  refine⟨M.length,M.length,rfl,rfl,aF _,by omega,by omega,Nat×Nat×World×Iv,fun z=>⟨[(5,.o (.v (.slice (some ⟨z.2.1,0,none⟩) M.length M.length))),(4,iN k),(13,iN k),(22,iZ M.length),(23,iN z.1),(1,pP 0 0),(2,pP 1 0),(3,pP 2 0),(12,iZ n)],[(2,.box T.dq [.w 3 rv.length,.v (.int .i64 M.length)]),(3,.vec T.fa 1 rv),(1,.box T.dq [.v (.slice none 0 0),.v (.int .i64 0)]),(0,.box T.dq [.v (.slice am M.length cm),.v (.int .i64 n)])],5,z.2.2.2,z.2.2.1⟩,fun z=>M.length-z.1,
   fun z=>z.1<=M.length∧eB w.heap.size w z.2.2.1∧dV z.2.2.1 (Bs S w.heap.size z.2.2.2 (.slice (some ⟨z.2.1,0,none⟩) M.length M.length)) rv ((eK M n).take k)∧ig z.2.2.1 S w.heap.size z.2.2.2 (.slice (some ⟨z.2.1,0,none⟩) M.length M.length) M.length z.1 (M.map fun r=>r.getD k 0),?_,?_⟩
  ·intro O w' r;have hf:=ig.jw (S:=S) (n:=M.length) r (id:=4) rfl (by unfold maxLen;omega) (M.map fun r=>r.getD k 0)
   exact⟨(0,(O 4).g,w',((O 4).g,(O 4).g+1)::iv),⟨aO _,hw.tr r.cQ,dV.cJ (hK.rel r hS) fun g hg=>⟨hg.mono fun p hp=>List.mem_cons_of_mem _ hp,fun e=>Rel.not r hS hg 4 _ rfl (r.fits (id:=4) rfl).1 (by injection e)⟩,hf⟩,
    Sub.jw r (id:=4) (t:=5) rfl rfl ⟨rfl,rfl,rfl,rfl,trivial⟩ rfl ⟨rfl,rfl,rfl,rfl,rfl,rfl,rfl,rfl,trivial⟩ (by simp[jN,SV.sc,At.sc])⟩
  rintro⟨i,gx,w2,iv⟩ ⟨hi,hw,hK,hX⟩;dsimp only at hi hw hK hX ⊢;refine dN.mk ?_ ?_<;>intro OF
  ·have OF:i<M.length:=by simpa using OF
   obtain⟨x,hx⟩:∃r,M[i]? =some r:=⟨_,aB OF⟩
   have PW:=hlen x (aC hx);obtain⟨q,hq⟩:∃q,x[k]? =some q:=⟨_,aB (by omega)⟩
   have Tt:x.getD k 0=q:=by rw[List.getD,hq];rfl
   obtain⟨adm,um,RL,PS,km1,km2⟩:=kg.load hM hx;obtain⟨a0,c0,rfl,hc0,-⟩:=dM.shape PS;obtain⟨adq,cs,TM,hF,_,hl⟩:=dM.load PS hq;obtain⟨g0,g1,g2,g3,g4,g5,g6,g7,rfl,hF⟩:=hF;refine⟨adm,RL,by omega,.slice a0 x.length c0,rd1 km2 hw (hC _ km1),adq,TM,by omega,[.bool g0,.slice g1 g2 g3,.bool g4,.slice g5 g6 g7],rfl,rdO hl hw hS,⟨gx,0,none⟩,rfl,by omega,?_⟩;intro O w' r
   have R6:cS w2 (Bs S w.heap.size iv (.slice (some ⟨gx,0,none⟩) M.length M.length)) (.agg #[.bool g0,.slice g1 g2 g3,.bool g4,.slice g5 g6 g7]) q:=(hF.cI fun g hg=>hw.block g (hS g hg)).cJ fun g hg=>⟨.inl hg,fun e=>by
    have h1:=hS g hg;rcases hX.new g e with h2|⟨h2,_⟩
    ·exact h2
    ·omega⟩
   obtain⟨g,hg,h1,h2,h3,h4⟩:=hX.store (j:=i) OF (by rw[aN,hx,<-Tt];rfl) R6 r hS;injection hg with hg;injection hg with hg;subst hg;refine⟨h1,h2,h3,fun w5 QZ=>?_⟩;obtain⟨k1,k2,k3,k4⟩:=h4 w5 QZ;have Ow:=(hw.tr r.cQ).tr k3;have Q1:=dV.cI hK (Bs.kept r hS k2 fun g e=>e);refine⟨((i+1:Nat):Int),wo,?_⟩;intro ρ3 w6 r3;exact⟨(i+1,gx,w6,_),⟨OF,Ow.tr r3.cQ,dV.cI Q1 (Bs.same r3 hS),k1.rel r3 hS⟩,Sub.gn [] r3,by dsimp only;omega⟩
  have OF:i=M.length:=aR hi (by simpa using OF);rw[OF]at hX;have hX2:=(hX.done (by simp)).c;replace hK:=(dV.cJ hK fun g hg=>hg.1).push (u:=(.slice (some ⟨gx,0,none⟩) M.length M.length)) (x:=M.map fun r=>r.getD k 0) rfl hX2;rw[<-OO]at hK;refine .inl ?_;refine⟨by simp,by omega,by unfold maxLen;omega,((k+1:Nat):Int),wo,?_⟩;intro ρ3 w3 r3;exact⟨(k+1,rv++[(.slice (some ⟨gx,0,none⟩) M.length M.length)],w3,_),⟨OI,hw.tr r3.cQ,hK.rel r3 hS⟩,Sub.gn [(3,6)] r3 ⟨by dsimp only;rw[List.length_append,List.length_singleton];rfl,rfl,rfl,rfl,trivial⟩,by dsimp only;omega⟩
 have OI:k=n:=aR hk (by simpa using OI);rw[List.take_of_length_le (by rw[rF];omega)]at hK;intro ρe we re;refine⟨_,rfl,hw.tr re.cQ,_,rfl,rv,?_,hK.1,fun i u x k1 k2=>cL.cJ (cL.rel (hK.2.2 i u x k1 k2) re hS) fun g hg=>Cv.nw hg re⟩;rw[<-hK.1];exact(re.ie (id:=3) (sz:=1) (m:=rv.length) rfl (by simp) (by unfold maxLen;omega) (by decide) hK.2.1).cJ fun g hg=>.inr hg
end Go.Ex
namespace Go.Ex
variable{A M:List (List Rat)}{pv:List Nat}{B j:Nat}{v:Nat->Rat}
theorem BR(f:Nat->Rat):∀n,cY f n=jr (List.range n) f
 |0=>rfl
 |n+1=>by
  rw[cY,BR f n,bO,vg];show _=_+(_+0)
  rw[bX]
theorem BS(g:Nat->Rat):∀l:List Nat,jr l g=cY (fun k=>g (l.getD k 0)) l.length
 |[]=>rfl
 |t::l=>by
  rw[List.length_cons,yY];show g t+jr l g=g t+_;rw[BS g l];rfl
def mulR(M:List (List Rat))(n:Nat)(x:Nat->Rat)(j:Nat):Rat:=cY (fun t=>dD M j t*x t) n
theorem eF.dot{E:Mx}{r n:Nat}(h:eF E r n v):∃c:Nat->Rat,(∀t,t<n->v t=cY (fun i=>c i*E i t) r)∧∀x:Nat->Rat,cY (fun t=>v t*x t) n=cY (fun i=>c i*cY (fun t=>E i t*x t) n) r:=by
 obtain⟨c,hc⟩:=h;refine⟨c,hc,fun x=>?_⟩;rw[cK (g:=fun t=>cY (fun i=>c i*E i t*x t) r) fun t ht=>by rw[hc t ht,<-kl],mq];exact cK fun i _=>by rw[<-e9];exact cK fun t _=>Rat.mul_assoc _ _ _
section
variable{M:List (List Rat)}{n:Nat}{x:Nat->Rat}{b:List Rat}
theorem JU(hM:fX n M)(h:∀j,j<M.length->mulR M n x j=0){c:Nat}(hc:c<=n):∀i,i<M.length->mulR (cM M c).1 n x i=0:=fun i hi=>by
 obtain⟨c,_,h2⟩:=((jQ hM c hc).1 i hi).dot;unfold mulR;rw[h2 x,cK (g:=fun _=>0) fun j hj=>by rw[show cY (fun t=>dD M j t*x t) n=0 from h j hj,bD],di]
theorem Dr(hM:fX n M){c:Nat}(hc:c<=n)(h:∀i,i<M.length->mulR (cM M c).1 n x i=0):∀j,j<M.length->mulR M n x j=0:=fun j hj=>by
 obtain⟨c,_,h2⟩:=((jQ hM c hc).2 j hj).dot;unfold mulR;rw[h2 x,cK (g:=fun _=>0) fun i hi=>by rw[show cY (fun t=>dD (cM M _).1 i t*x t) n=0 from h i hi,bD],di]
theorem jt(hM:fX n M){t:Nat}(hj:j<M.length):(t<n->dD (dF M b) j t=dD M j t)∧dD (dF M b) j n=b.getD j 0:=by
 have hr:=aB hj;have hl:(M[j]).length=n:=hM _ (aY hj);have e:(dF M b).getD j []=M[j]++[b.getD j 0]:=by rw[dF,List.getD,List.getElem?_mapIdx,hr];rfl
 have e2:M.getD j []=M[j]:=by rw[List.getD,hr];rfl
 refine⟨fun ht=>?_,?_⟩
 ·rw[dD,dD,e,e2,List.getD,aL (by omega),<-List.getD]
 ·rw[dD,e,List.getD,aM (by omega),hl,bK];rfl
def Ds(x:Nat->Rat)(n t:Nat):Rat:=if t<n then x t else -1
theorem Fb(hM:fX n M)(hj:j<M.length):mulR (dF M b) (n+1) (Ds x n) j=mulR M n x j-b.getD j 0:=by
 have h:=fun t=>jt (b:=b) (t:=t) hM hj;unfold mulR;rw[cY,(h 0).2,show Ds x n n= -1 by unfold Ds;rw[aK (Nat.lt_irrefl n)],cK (g:=fun t=>dD M j t*x t) fun t ht=>by rw[(h t).1 ht];unfold Ds;rw[if_pos ht]];grind
def fE(M:List (List Rat))(b:List Rat)(n:Nat):Option (List Rat):=
 let e:=cM (dF M b) n
 if ∀j,j<M.length->e.2.length<=j->dD e.1 j n=0 then some (fp e.1 e.2 n e.2.length)else none
theorem jR{x:List Rat}(hM:fX n M)(h:fE M b n=some x):x.length=n∧∀j,j<M.length->mulR M n (fun t=>x.getD t 0) j=b.getD j 0:=by
 unfold fE at h;dsimp only at h;split at h
 ·rename_i h0;injection h with h;have hW:=gX (b:=b) hM;obtain⟨r1,r2,r3,r4,r5⟩:=dY hW n (Nat.le_succ n);have RH:=gz (dF M b) n;have TH:=eA (M:=M) (b:=b);have hl:=dh (dF M b) n;have PW:x.length=n:=by rw[<-h,jD]
  have Qv:∀j,j<(cM (dF M b) n).2.length->x.getD ((cM (dF M b) n).2.getD j 0) 0=dD (cM (dF M b) n).1 j n:=fun j hj=>by
   rw[<-h];exact nW (F:=fp (cM (dF M b) n).1 (cM (dF M b) n).2 n) (f:=fun i=>dD (cM (dF M b) n).1 i n) (fun i=>gR _ _ n i) (jD _ _ n) RH.2.1 r4 _ (aF _) hj
  have Qk:∀t,t∉(cM (dF M b) n).2->x.getD t 0=0:=fun t ht=>by rw[<-h];exact sf ht
  refine⟨PW,fun j hj=>?_⟩;have key:=Dr (M:=dF M b) (x:=Ds (fun t=>x.getD t 0) n) hW (c:=n) (Nat.le_succ n) (fun i hi=>?_) j (by rw[TH];exact hj)
  ·rw[Fb hM hj]at key;grind
  ·unfold mulR;rw[cY,show Ds (fun t=>x.getD t 0) n n= -1 by unfold Ds;rw[aK (Nat.lt_irrefl n)],cK (g:=fun t=>dD (cM (dF M b) n).1 i t*x.getD t 0) fun t ht=>by unfold Ds;rw[if_pos ht]];rcases aP i (cM (dF M b) n).2.length with h1|h1
   ·rw[ec (i:=(cM (dF M b) n).2.getD i 0) (r4 _ (by rw[List.getD,aB h1];exact aY _)) fun t ht OG=>?_,r5 i i h1 (by omega),if_pos rfl,Qv i h1]
    ·grind
    ·by_cases hp:t∈(cM (dF M b) n).2
     ·obtain⟨k,hk,rfl⟩:=rW hp;rw[r5 k i hk (by omega),aK (fun e=>OG (by rw[e])),bH]
     ·rw[Qk t hp,bD]
   ·rw[cK (g:=fun _=>0) fun t ht=>by rw[r3 i t h1 (by omega) ht,bH],di,h0 i (by rw[<-TH];exact hi) h1];grind
 ·cases h
theorem n9(hM:fX n M)(h:fE M b n=none):∃y:Nat->Rat,(∀t,t<n->cY (fun j=>y j*dD M j t) M.length=0)∧cY (fun j=>y j*b.getD j 0) M.length≠0:=by
 unfold fE at h;dsimp only at h;split at h
 ·cases h
 ·rename_i h0;obtain⟨i,hi,h1,h2⟩:∃i,i<M.length∧(cM (dF M b) n).2.length<=i∧dD (cM (dF M b) n).1 i n≠0:=by
   refine Decidable.byContradiction fun SK=>h0 fun j hj hr=>Decidable.byContradiction fun h2=>SK ⟨j,hj,hr,h2⟩
  have hW:=gX (b:=b) hM;have TH:=eA (M:=M) (b:=b);have hl:=dh (dF M b) n;obtain⟨r1,r2,r3,r4,r5⟩:=dY hW n (Nat.le_succ n);obtain⟨y,hy⟩:=(jQ hW n (Nat.le_succ n)).1 i (by omega);rw[TH]at hy;refine⟨y,fun t ht=>?_,?_⟩
  ·have h3:=hy t (by omega);rw[r3 i t h1 (by omega) ht]at h3;rw[h3];exact cK fun j hj=>by rw[(jt (b:=b) hM hj).1 ht]
  ·have h3:=hy n (by omega);rw[cK (g:=fun j=>y j*b.getD j 0) fun j hj=>by rw[(jt (b:=b) (t:=n) hM hj).2]]at h3;rw[<-h3];exact h2
theorem qR{x:Nat->Rat}(hM:fX n M)(h:∀j,j<M.length->mulR M n x j=b.getD j 0):∃z,fE M b n=some z:=by
 cases e:fE M b n with
 |some z=>exact⟨z,rfl⟩
 |none=>
  obtain⟨y,h1,h2⟩:=n9 hM e;refine absurd ?_ h2;rw[cK fun j hj=>by rw[<-h j hj,mulR,<-e9],mq,cK (g:=fun _=>0) fun t ht=>?_,di];rw[cK (g:=fun j=>y j*dD M j t*x t) fun j _=>(Rat.mul_assoc _ _ _).symm,kl,h1 t ht,bH]
def Inj(M:List (List Rat))(n:Nat):Prop:=∀x:Nat->Rat,(∀j,j<M.length->mulR M n x j=0)->∀t,t<n->x t=0
theorem Dt(M:List (List Rat))(n:Nat)(x y:Nat->Rat)(j:Nat):mulR M n (fun t=>x t-y t) j=mulR M n x j-mulR M n y j:=by
 unfold mulR;rw[<-sh];exact cK fun t _=>by grind
theorem Hv{x:List Rat}(hM:fX n M)(hi:Inj M n)(hx:x.length=n)(h:∀j,j<M.length->mulR M n (fun t=>x.getD t 0) j=b.getD j 0):fE M b n=some x:=by
 obtain⟨z,hz⟩:=qR hM h;obtain⟨h1,h2⟩:=jR hM hz;rw[hz];congr 1;refine ga 0 (by rw[h1,hx]) fun t ht=>?_;have:=hi (fun t=>z.getD t 0-x.getD t 0) (fun j hj=>by rw[Dt,h j hj,h2 j hj];grind) t (by omega);grind
theorem sw(M:List (List Rat))(b:List Rat):jl M b=dF M b:=rfl
theorem Du{r i t:Nat}(h:i<r):dD (A.take r) i t=dD A i t:=by
 rw[dD,dD,show(A.take r).getD i []=A.getD i [] by rw[List.getD,bU h,<-List.getD]]
theorem vw(A:List (List Rat))(pv:List Nat)(n:Nat):∀k,k<=pv.length->fp (A.take pv.length) pv n k=fp A pv n k
 |0,_=>rfl
 |k+1,h=>by rw[gR,gR,vw A pv n k (by omega),Du (by omega)]
theorem wA(A:List (List Rat))(pv:List Nat)(n c:Nat):∀k,k<=pv.length->gC (A.take pv.length) pv n c k=gC A pv n c k
 |0,_=>rfl
 |k+1,h=>by rw[gp,gp,wA A pv n c k (by omega),Du (by omega)]
abbrev cW(M:List (List Rat))(n:Nat):List (List Rat):=eP (cM M n).1 (cM M n).2 n n
theorem Fe(hM:fX n M)(hW:BP M n B):k7 M n=cW M n:=by
 obtain⟨e1,e2⟩:=lG hM hW;unfold k7 cW eP;rw[e1,e2];exact List.map_congr_left fun c _=>wA _ _ n c _ (aF _)
theorem uZ(hM:fX n M)(hW:BP (dF M b) (n+1) B):nZ M b n=fE M b n:=by
 have hWl:=gX (b:=b) hM;obtain⟨e1,e2⟩:=lG hWl hW;have hl:=dh (dF M b) n;have TH:=eA (M:=M) (b:=b);obtain⟨r1,r2,r3,r4,r5⟩:=dY hWl n (Nat.le_succ n);have e:cM (dF M b) (n+1)=dX (cM (dF M b) n) n:=by
  unfold cM;rw[bO,List.foldl_append];rfl
 unfold nZ fE;dsimp only
 rcases jX n r2 with⟨k1,k2⟩|⟨k,k1,k2,k3,k4⟩
 ·rw[aK (by rw[sw,e1,e,k1];exact fun h=>by have:=r4 n h;omega),if_pos fun j hj hr=>k2 j hr (by omega),sw,e1,e2,e,k1,vw _ _ n _ (aF _)]
 ·rw[if_pos (by rw[sw,e1,e,k4];simp),aK fun h=>k3 (h k (by omega) k1)]
theorem JV(hM:fX n M){x:List Rat}(h:∀j,j<M.length->mulR M n (fun t=>x.getD t 0) j=0):Diff (cM M n).1 (cM M n).2 n x:=by
 obtain⟨r1,r2,r3,r4,r5⟩:=dY hM n (aF _);have RH:=gz M n;have hl:=dh M n;refine⟨RH.2.1,r4,r2,r5,fun j hj=>?_⟩;rw[<-BR];have h1:=JU hM h (aF n) j (by omega);unfold mulR at h1;rw[h1,dD,List.getD,List.getElem?_eq_none (by rw[r1.getD hj];exact aF _)];rfl
theorem lH(M:List (List Rat))(n:Nat):(cW M n).length=(iy (cM M n).2 n).length:=by unfold cW eP;rw[aJ]
theorem yj(M:List (List Rat))(n:Nat){k:Nat}(hk:k<(cW M n).length):(cW M n).getD k []=gC (cM M n).1 (cM M n).2 n ((iy (cM M n).2 n).getD k 0) (cM M n).2.length:=by
 obtain⟨r,hr⟩:∃r,(cW M n)[k]? =some r:=⟨_,aB hk⟩
 rw[List.getD,hr];exact(nX hr).2
theorem nc(M:List (List Rat))(n:Nat):fX n (cW M n):=fun r hr=>by
 obtain⟨k,hk⟩:=aU hr;rw[(nX hk).2,kA]
theorem tA(hM:fX n M){k:Nat}(hk:k<(cW M n).length):∀j,j<M.length->mulR M n (dD (cW M n) k) j=0:=by
 obtain⟨r1,r2,r3,r4,r5⟩:=dY hM n (aF _);have RH:=gz M n;have hl:=dh M n;have hf:=lD.1 (pB (by rw[<-lH];exact hk));refine Dr hM (aF n) fun i hi=>?_;have OH:=yj M n hk;generalize hc:(iy (cM M n).2 n).getD k 0=c at hf OH;have Qv:∀j,j<(cM M n).2.length->dD (cW M n) k ((cM M n).2.getD j 0)= -(dD (cM M n).1 j c):=fun j hj=>by
  rw[dD,OH];exact nW (F:=gC (cM M n).1 (cM M n).2 n c) (f:=fun i=> -(dD (cM M n).1 i c)) (fun i=>gp _ _ n c i) (kA _ _ n c) RH.2.1 r4 _ (aF _) hj
 have Qk:∀t,t∉(cM M n).2->dD (cW M n) k t=if t=c then 1 else 0:=fun t ht=>by rw[dD,OH];exact pA ht hf.1
 unfold mulR;rcases aP i (cM M n).2.length with h1|h1
 ·have hpi:(cM M n).2.getD i 0∈(cM M n).2:=by rw[List.getD,aB h1];exact aY _
  have OG:(cM M n).2.getD i 0≠c:=fun e=>hf.2 (e▸hpi);have e:cY (fun t=>dD (cM M n).1 i t*dD (cW M n) k t) n=cY (fun t=>(if t=(cM M n).2.getD i 0 then -(dD (cM M n).1 i c)else 0)+(if t=c then dD (cM M n).1 i c else 0)) n:=by
   refine cK fun t ht=>?_;by_cases hp:t∈(cM M n).2
   ·obtain⟨j,hj,rfl⟩:=rW hp;rw[Qv j hj,r5 j i hj (by omega),aK (show ¬(cM M n).2.getD j 0=c from fun e=>hf.2 (e▸hp)),bX];by_cases Pb:i=j
    ·rw[if_pos Pb,if_pos (by rw[Pb]),Pb,bw]
    ·have hne2:(cM M n).2.getD j 0≠(cM M n).2.getD i 0:=fun e2=>Pb (by
      rcases bs i j with h5|h5|h5
      ·have:(cM M n).2.getD i 0<(cM M n).2.getD j 0:=JD RH.2.1 h5 hj;omega
      ·exact h5
      ·have:(cM M n).2.getD j 0<(cM M n).2.getD i 0:=JD RH.2.1 h5 h1
       omega)
     rw[aK Pb,aK hne2,bH]
   ·rw[Qk t hp,aK (show ¬t=(cM M n).2.getD i 0 from fun e2=>hp (e2▸hpi)),Rat.zero_add];by_cases htc:t=c
    ·rw[if_pos htc,if_pos htc,htc,Rat.mul_one]
    ·rw[aK htc,aK htc,bD]
  rw[e,gD,ec (i:=(cM M n).2.getD i 0) (r4 _ hpi) fun t _ OG=>aK OG,ec (i:=c) hf.1 fun t _ OG=>aK OG,if_pos rfl,if_pos rfl];grind
 ·rw[cK (g:=fun _=>0) fun t ht=>by rw[r3 i t h1 (by omega) ht,bH],di]
theorem Gs(hM:fX n M)(h:∀j,j<M.length->mulR M n x j=0):∃c:Nat->Rat,∀t,t<n->x t=cY (fun k=>c k*dD (cW M n) k t) (cW M n).length:=by
 obtain⟨l,hl⟩:∃l,l=(List.range n).map x:=⟨_,rfl⟩
 have hx:∀t,t<n->l.getD t 0=x t:=fun t ht=>by rw[hl,List.getD,aN,bq ht];rfl
 have hd:=JV (x:=l) hM fun j hj=>Eq.trans (cK fun t ht=>congrArg (dD M j t* ·) (hx t ht)) (h j hj);refine⟨fun k=>l.getD ((iy (cM M n).2 n).getD k 0) 0,fun t ht=>?_⟩;have h1:=hd.rest ht;obtain⟨r1,r2,r3,r4,r5⟩:=dY hM n (aF _);have h0:(fp (cM M n).1 (cM M n).2 n (cM M n).2.length).getD t 0=0:=by
  by_cases hp:t∈(cM M n).2
  ·obtain⟨j,hj,rfl⟩:=rW hp;rw[hd.xin hj,dD,List.getD,List.getElem?_eq_none (by rw[r1.getD (by omega)];exact aF _)];rfl
  ·exact sf hp
 rw[h0,bH,bX,hx t ht,BS]at h1;rw[h1,lH];exact cK fun k hk=>by rw[dD,yj M n (by rw[lH];exact hk)]
theorem Gt{c:Nat->Rat}(h:∀t,t<n->cY (fun k=>c k*dD (cW M n) k t) (cW M n).length=0):∀k,k<(cW M n).length->c k=0:=fun k hk=>by
 have VA:k<(iy (cM M n).2 n).length:=by rw[<-lH];exact hk
 have hf:=lD.1 (pB VA);have h1:=h _ hf.1;obtain⟨r,hr⟩:∃r,(cW M n)[k]? =some r:=⟨_,aB hk⟩
 rw[ec hk fun i hi OG=>?_]at h1
 ·rw[dD,show(cW M n).getD k []=r by rw[List.getD,hr];rfl,yX hr hr,if_pos rfl,Rat.mul_one]at h1;exact h1
 ·obtain⟨s,hs⟩:∃s,(cW M n)[i]? =some s:=⟨_,aB hi⟩
  rw[dD,show(cW M n).getD i []=s by rw[List.getD,hs];rfl,yX hr hs,aK OG,bD]
end
theorem yl(p:Nat->Bool):∀l:List Nat,l.length=(l.filter p).length+(l.filter fun c=> !p c).length
 |[]=>rfl
 |c::l=>by
  have ih:=yl p l;rw[List.filter_cons,List.filter_cons]
  cases p c with
  |true=>simp;omega
  |false=>simp;omega
theorem JW{n:Nat}(hn:pv.Nodup)(hl:∀p∈pv,p<n):(iy pv n).length=n-pv.length:=by
 have h1:(List.range n).length=((List.range n).filter fun c=>decide (c∉pv)).length+((List.range n).filter fun c=>decide (c∈pv)).length:=by
  refine(yl (fun c=>decide (c∉pv)) (List.range n)).trans ?_;congr 2;refine List.filter_congr fun c _=>?_;by_cases h:c∈pv<;>simp[h]
 have h2:((List.range n).filter fun c=>decide (c∈pv)).length=pv.length:=by
  refine(List.Perm.length_eq ?_);refine(List.perm_ext_iff_of_nodup (List.Pairwise.filter _ List.nodup_range) hn).2 fun c=>?_;rw[List.mem_filter,List.mem_range,decide_eq_true_eq];exact⟨fun h=>h.2,fun h=>⟨hl c h,h⟩⟩
 rw[List.length_range]at h1;unfold iy;omega
theorem ym{n:Nat}(hM:fX n M):(cW M n).length=n-(cM M n).2.length:=by
 obtain⟨r1,r2,r3,r4,r5⟩:=dY hM n (aF _);have RH:=gz M n;rw[lH];exact JW (RH.2.1.imp fun h=>Nat.ne_of_lt h) r4
end Go.Ex
namespace Go.Ex
open Go Go.Sx Go.Proofs
variable{after:Array Edge}{z:Int}{p:Int×Int×Rat}{M:List (List Rat)}{css:List (List Value)}{l:List Int}{cs:List Value}{i j:Nat}{C S S':Nat->Prop}{guard:Option (Nat×Bool)}{a:Option Addr}{dst:Option Tmp}{K:SV->Hp->Nat->Iv->World->Prop}{v:Value}{w w2:World}{f:fM}
theorem cT.nil:cT w S (.slice none 0 0) []:=⟨[],⟨by decide,rfl,fun u hu=>absurd hu (by simp),none,0,rfl,aF _,fun j u hu=>absurd hu (by simp)⟩,rfl,fun i u x h1 h2=>absurd h2 (by simp)⟩
theorem dK.nil:dK w S (.slice none 0 0) []:=⟨by decide,rfl,fun u hu=>absurd hu (by simp),none,0,rfl,aF _,fun j u hu=>absurd hu (by simp)⟩
theorem DF(M:List (List Rat)):(dR M 0).1=[]∧(dR M 0).2.1=[]∧(dR M 0).2.2=[]:=by simp[dR,dC]
theorem DG(M:List (List Rat)):k7 M 0=[]:=by simp[k7,eP]
set_option maxHeartbeats 1000000 in
theorem wZ(hC:Old C w)(hS:Old S w)(hM:kg w C S v M)(hlen:fX 0 M)(hR:M.length<=1000):
  eD PG N.fZ #[.agg #[v,.int .i64 0],.int .i64 0] w (eG w fun v' w2=>v'= .agg #[.slice none 0 0,.int .i64 0,.slice none 0 0,.slice none 0 0]):=by
 have hw:=bR w;obtain⟨am,cm,rfl,SR,R1⟩:=kg.shape hM;unfold maxLen at R1;refine jZ (by simp) ?_;refine⟨0,0,rfl,rfl,aF _,by omega,by omega,World,fun z=>⟨[(1,iZ 0),(2,pP 0 0),(4,pP 1 0),(5,pP 2 0),(6,.o (.s 3 0 0 0)),(27,iZ 0),(28,iZ 0)],[(3,.arr T.int []),(2,.box T.dT [.v (.slice none 0 0),.v (.int .i64 0),.v (.slice none 0 0),.v (.slice none 0 0)]),(1,.box T.dT [.v (.slice none 0 0),.v (.int .i64 0),.v (.slice none 0 0),.v (.slice none 0 0)]),(0,.box T.dq [.v (.slice am M.length cm),.v (.int .i64 0)])],4,[],z⟩,fun z=>0,fun z=>eB w.heap.size w z,?_,?_⟩
 ·intro O w' r3;exact⟨w',hw.tr r3.cQ,Sub.gn [] r3⟩
 rintro w1 hw;dsimp only at hw ⊢
 refine⟨Nat×World,fun z=>⟨[(38,iN z.1),(1,iZ 0),(2,pP 0 0),(4,pP 1 0),(5,pP 2 0),(6,.o (.s 3 0 0 0)),(36,sV am M.length cm),(37,iZ M.length)],[(3,.arr T.int []),(2,.box T.dT [.v (.slice none 0 0),.v (.int .i64 0),.v (.slice none 0 0),.v (.slice none 0 0)]),(1,.box T.dT [.v (.slice none 0 0),.v (.int .i64 0),.v (.slice none 0 0),.v (.slice none 0 0)]),(0,.box T.dq [.v (.slice am M.length cm),.v (.int .i64 0)])],5,[],z.2⟩,fun z=>M.length-z.1,
  fun z=>z.1<=M.length∧eB w.heap.size w z.2,?_,?_⟩
 ·intro O w' r3;exact⟨(0,w'),⟨aO _,hw.tr r3.cQ⟩,Sub.gn [] r3⟩
 rintro⟨i,w1⟩ ⟨hi,hw⟩;dsimp only at hi hw ⊢;refine dN.mk ?_ ?_<;>intro OF
 ·have OF:i<M.length:=by simpa using OF
  obtain⟨x,hx⟩:∃r,M[i]? =some r:=⟨_,aB OF⟩
  have PW:=hlen x (aC hx);obtain rfl:=List.eq_nil_of_length_eq_zero PW;obtain⟨adm,um,RL,PS,km1,km2⟩:=kg.load hM hx;obtain⟨css,⟨-,g1,g2,a0,c0,rfl,g4,g5⟩,Po,R4,Om⟩:=PS;obtain rfl:=List.eq_nil_of_length_eq_zero Po;refine⟨adm,RL,by omega,.slice a0 0 c0,rd1 km2 hw (hC _ km1),?_⟩;refine .inl ?_;refine⟨[],rfl,g2,fun O w' r Oo=>absurd Oo (by simp),rfl,by omega,by unfold maxLen;omega,World,fun z=>⟨[(9,.o (.w 6 0)),(46,iZ 0),(47,iZ 0),(2,pP 0 0),(4,pP 1 0),(5,pP 2 0),(6,.o (.s 3 0 0 0)),(8,iN i),(36,sV am M.length cm),(37,iZ M.length),(38,iN i),(1,iZ 0)],[(6,.vec T.Rat 4 []),(3,.arr T.int []),(2,.box T.dT [.v (.slice none 0 0),.v (.int .i64 0),.v (.slice none 0 0),.v (.slice none 0 0)]),(1,.box T.dT [.v (.slice none 0 0),.v (.int .i64 0),.v (.slice none 0 0),.v (.slice none 0 0)]),(0,.box T.dq [.v (.slice am M.length cm),.v (.int .i64 0)])],7,[],z⟩,fun z=>0,fun z=>eB w.heap.size w z,?_,?_⟩
  ·intro O w' r3;exact⟨w',hw.tr r3.cQ,Sub.gn [] r3⟩
  rintro w1 hw;dsimp only at hw ⊢;refine⟨World,fun z=>⟨[(9,.o (.w 6 0)),(12,iZ 0),(2,pP 0 0),(4,pP 1 0),(5,pP 2 0),(6,.o (.s 3 0 0 0)),(8,iN i),(36,sV am M.length cm),(37,iZ M.length),(38,iN i),(1,iZ 0)],[(6,.vec T.Rat 4 []),(3,.arr T.int []),(2,.box T.dT [.v (.slice none 0 0),.v (.int .i64 0),.v (.slice none 0 0),.v (.slice none 0 0)]),(1,.box T.dT [.v (.slice none 0 0),.v (.int .i64 0),.v (.slice none 0 0),.v (.slice none 0 0)]),(0,.box T.dq [.v (.slice am M.length cm),.v (.int .i64 0)])],7,[],z⟩,fun z=>0,fun z=>eB w.heap.size w z,?_,?_⟩
  ·intro O w' r3;exact⟨w',hw.tr r3.cQ,Sub.gn [] r3⟩
  rintro w1 hw;dsimp only at hw ⊢;refine⟨((i+1:Nat):Int),wo,?_⟩;intro ρ3 w3 r3;exact⟨(i+1,w3),⟨OF,hw.tr r3.cQ⟩,Sub.gn [] r3,by dsimp only;omega⟩
 refine⟨World,fun z=>⟨[(4,pP 1 0),(5,pP 2 0),(17,pP 5 0),(159,.o (.s 3 0 0 0)),(160,iZ 0),(161,iZ 0)],[(5,.box T.dT [.v (.slice none 0 0),.v (.int .i64 0),.v (.slice none 0 0),.v (.slice none 0 0)]),(3,.arr T.int []),(2,.box T.dT [.v (.slice none 0 0),.v (.int .i64 0),.v (.slice none 0 0),.v (.slice none 0 0)]),(1,.box T.dT [.v (.slice none 0 0),.v (.int .i64 0),.v (.slice none 0 0),.v (.slice none 0 0)]),(0,.box T.dq [.v (.slice am M.length cm),.v (.int .i64 0)])],6,[],z⟩,fun z=>0,fun z=>eB w.heap.size w z,?_,?_⟩
 ·intro O w' r3;exact⟨w',hw.tr r3.cQ,Sub.gn [] r3⟩
 rintro w1 hw;dsimp only at hw ⊢;exact rtn hw fun ρe we re=>rfl
theorem GM(hC:Old C w)(hS:Old S w)(hM:kg w C S v M)(hlen:fX 0 M)(hR:M.length<=1000):
  eD PG N.fZ #[.agg #[v,.int .i64 0],.int .i64 0] w (eG w fun v' w2=>∃vr vp vf,v'= .agg #[vr,.int .i64 0,vp,vf]∧cT w2 (Nw S w w2) vr (dR M 0).1∧dK w2 (Nf w w2) vp (dR M 0).2.1∧dK w2 (Nf w w2) vf (dR M 0).2.2):=by
 refine(wZ hC hS hM hlen hR).mono fun v1 w1 h1=>?_;obtain⟨_,e,hb,rfl⟩:=h1;obtain⟨e1,e2,e3⟩:=DF M;rw[e1,e2,e3];exact⟨_,e,hb,_,_,_,rfl,cT.nil,dK.nil,dK.nil⟩
theorem zz{n h:Nat}(hC:Old C w)(hS:Old S w)(hM:kg w C S v M)(hlen:fX n M)(hR:M.length<=1000)(hn:n<=1000)(hB:Cr M n h)(hh:3*h<=90000):
  eD PG N.fZ #[.agg #[v,.int .i64 n],.int .i64 n] w (eG w fun v' w2=>∃vr vp vf,v'= .agg #[vr,.int .i64 n,vp,vf]∧cT w2 (Nw S w w2) vr (dR M n).1∧dK w2 (Nf w w2) vp (dR M n).2.1∧dK w2 (Nf w w2) vf (dR M n).2.2):=by
 rcases bI n with h0|h0
 ·subst h0;exact GM hC hS hM hlen hR
 ·exact vK hC hS hM hlen h0 hn hR (aF _) hB hh
set_option maxHeartbeats 1000000 in
theorem GN(hC:Old C w)(hS:Old S w)(hM:kg w C S v M)(hlen:fX 0 M)(hR:M.length<=1000):
  eD PG N.gS #[.agg #[v,.int .i64 0]] w (eG w fun v' w2=>cT w2 (Nf w w2) v' (k7 M 0)):=by
 have hw:=bR w;obtain⟨am,cm,rfl,SR,R1⟩:=kg.shape hM;unfold maxLen at R1;refine j0 (by simp) ?_
 refine cD (cO (Φ:=fun _ w' v w2=>v= .agg #[.slice none 0 0,.int .i64 0,.slice none 0 0,.slice none 0 0]) (fun O w' r=>by
  obtain⟨rv,m1,m2,m3⟩:=hM
  exact wZ (C:=C) (S:=S) (oS hC r) (oS hS r) ⟨rv,m1.cI fun g hg=>(hw.tr r.cQ).block g (hC g hg),m2,fun i u x h1 h2=>cL.cI (m3 i u x h1 h2) fun g hg=>(hw.tr r.cQ).block g (hS g hg)⟩ hlen hR) ?_)
 rintro O Pq v1 Pa r he PB rfl;replace hw:=hw.tr PB;generalize (Pq.heap.size,Pa.heap.size)::[]=OM at*
 refine⟨0,0,rfl,rfl,aF _,by omega,by omega,World×Iv,fun z=>⟨[(1,pP 0 0),(3,pP 1 0),(4,.o (.s 2 0 0 0)),(20,sV none 0 0),(21,iZ 0),(22,iZ 0)],[(2,.arr T.bool []),(1,.box T.dT [.v (.slice none 0 0),.v (.int .i64 0),.v (.slice none 0 0),.v (.slice none 0 0)]),(0,.box T.dq [.v (.slice am M.length cm),.v (.int .i64 0)])],3,z.2,z.1⟩,fun z=>0,fun z=>eB w.heap.size w z.1,?_,?_⟩
 ·intro O w' r3;exact⟨(w',_),hw.tr r3.cQ,Sub.gn [] r3⟩
 rintro⟨w1,iv⟩ hw;dsimp only at hw ⊢;refine⟨World×Iv,fun z=>⟨[(32,iZ 0),(7,sV none 0 0),(1,pP 0 0),(3,pP 1 0),(4,.o (.s 2 0 0 0)),(31,iZ 0)],[(2,.arr T.bool []),(1,.box T.dT [.v (.slice none 0 0),.v (.int .i64 0),.v (.slice none 0 0),.v (.slice none 0 0)]),(0,.box T.dq [.v (.slice am M.length cm),.v (.int .i64 0)])],3,z.2,z.1⟩,fun z=>0,fun z=>eB w.heap.size w z.1,?_,?_⟩
 ·intro O w' r3;exact⟨(w',_),hw.tr r3.cQ,Sub.gn [] r3⟩
 rintro⟨w1,iv⟩ hw;dsimp only at hw ⊢;intro ρe we re;rw[DG];exact⟨_,rfl,hw.tr re.cQ,cT.nil⟩
theorem GO{n h:Nat}(hC:Old C w)(hS:Old S w)(hM:kg w C S v M)(hlen:fX n M)(hR:M.length<=1000)(hn:n<=1000)(hB:Cr M n h)(hAb:Ht (dR M n).1 h)(hh:3*h<=90000):
  eD PG N.gS #[.agg #[v,.int .i64 n]] w (eG w fun v' w2=>cT w2 (Nf w w2) v' (k7 M n)):=by
 rcases bI n with h0|h0
 ·subst h0;exact GN hC hS hM hlen hR
 ·exact IF hC hS hM hlen h0 hn hR hB hAb hh
theorem qV{k:Nat}(h:∀cs∈css,cs.length=k):css.flatten.length=css.length*k:=by
 induction css with
 |nil=>simp
 |cons c r ih=>rw[List.flatten_cons,List.length_append,h c aG,ih fun x hx=>h x (List.mem_cons_of_mem _ hx),List.length_cons,Nat.succ_mul];omega
theorem vL{k:Nat}(h:∀cs∈css,cs.length=k)(hj:css[j]? =some cs)(i:Nat)(u:Value)(hu:cs[i]? =some u):css.flatten[j*k+i]? =some u:=by
 induction css generalizing j with
 |nil=>cases hj
 |cons c r ih=>
  have hc:=h c aG;have hi:=(aD.1 hu).1
  cases j with
  |zero=>
   injection hj with hj;subst hj;rw[List.flatten_cons,Nat.zero_mul,aQ,aL hi];exact hu
  |succ j=>
   rw[List.flatten_cons,aM (by rw[hc,Nat.succ_mul];omega),hc,show(j+1)*k+i-k=j*k+i by rw[Nat.succ_mul];omega];exact ih (fun x hx=>h x (List.mem_cons_of_mem _ hx)) hj
def eX{α:Type}(k:Nat)(P:World->(Nat->Prop)->List Value->α->Prop)(w:World)(S:Nat->Prop)(v:Value)(xs:List α):Prop:=
 ∃css:List (List Value),iB w S k v css.flatten xs.length∧css.length=xs.length∧(∀cs∈css,cs.length=k)∧∀(j:Nat) cs x,css[j]? =some cs->xs[j]? =some x->P w S cs x
section
variable{α:Type}{k:Nat}{P:World->(Nat->Prop)->List Value->α->Prop}{w w2:World}{S S':Nat->Prop}{v:Value}{xs:List α}
theorem eX.cI(hP:∀cs x,P w S cs x->P w2 S cs x)(h:eX k P w S v xs)(hk:∀g,S g->w2.heap[g]? =w.heap[g]?):eX k P w2 S v xs:=by
 obtain⟨css,h1,h2,h3,h4⟩:=h;exact⟨css,h1.cI hk,h2,h3,fun j cs x k1 k2=>hP cs x (h4 j cs x k1 k2)⟩
theorem eX.cJ(hP:∀cs x,P w S cs x->P w S' cs x)(h:eX k P w S v xs)(hk:∀g,S g->S' g):eX k P w S' v xs:=by
 obtain⟨css,h1,h2,h3,h4⟩:=h;exact⟨css,h1.cJ hk,h2,h3,fun j cs x k1 k2=>hP cs x (h4 j cs x k1 k2)⟩
theorem eX.shape(h:eX k P w S v xs):∃a c,v= .slice a xs.length c∧xs.length<=c∧xs.length<=maxLen:=by
 obtain⟨css,⟨h0,_,_,a,c,h1,h2,_⟩,_⟩:=h;exact⟨a,c,h1,h2,h0⟩
theorem eX.load{m c:Nat}{x:α}(hk:0<k)(h:eX k P w S (.slice a m c) xs)(hq:xs[j]? =some x):
  ∃ad cs,a=some ad∧P w S cs x∧cs.length=k∧∀i u,cs[i]? =some u->S ad.block∧w.cell? ((ad.add (j*k)).add i)=some u:=by
 obtain⟨css,⟨h0,h1,h2,a',c',e,h3,h4⟩,hl,Uj,hf⟩:=h;injection e with e1 e2 e3;subst e1;obtain⟨cs,Om⟩:∃cs,css[j]? =some cs:=⟨_,aB (by rw[hl];exact(aD.1 hq).1)⟩
 have hl:=Uj cs (aC Om);obtain⟨ad,k1,k2,k3⟩:=h4 (j*k+0) _ (vL Uj Om 0 _ (aB (show 0<cs.length by omega)));refine⟨ad,cs,k1,hf j cs x Om hq,hl,fun i u hu=>?_⟩;obtain⟨ad2,m1,m2,m3⟩:=h4 (j*k+i) u (vL Uj Om i u hu);rw[k1]at m1;injection m1 with m1;subst m1;refine⟨m2,?_⟩;rw[<-m3];have:(ad.add (j*k)).add i=ad.add (j*k+i):=by
  unfold Addr.add;split<;>split<;>simp_all<;>omega
 rw[this]
end
def HN(_w:World)(_S:Nat->Prop)(cs:List Value)(p:Int×Int×Int):Prop:=cs=[.int .i64 p.1,.int .i64 p.2.1,.int .i64 p.2.2]
def HO(_w:World)(_S:Nat->Prop)(cs:List Value)(p:Ld):Prop:=cs=[.int .i64 p.1,.int .i64 p.2.1,.int .i64 p.2.2.1,.int .i64 p.2.2.2]
def Cw(w:World)(S:Nat->Prop)(cs:List Value)(p:Int×Int×Rat):Prop:=∃b a n c b2 a2 n2 c2,cs=[.int .i64 p.1,.int .i64 p.2.1,.bool b,.slice a n c,.bool b2,.slice a2 n2 c2]∧eR w S (.agg #[.bool b,.slice a n c,.bool b2,.slice a2 n2 c2]) p.2.2
theorem Cw.cI(h:Cw w S cs p)(hk:∀g,S g->w2.heap[g]? =w.heap[g]?):Cw w2 S cs p:=by
 obtain⟨b,a,n,c,b2,a2,n2,c2,h1,h2⟩:=h;exact⟨b,a,n,c,b2,a2,n2,c2,h1,h2.cI hk⟩
theorem Cw.cJ(h:Cw w S cs p)(hk:∀g,S g->S' g):Cw w S' cs p:=by
 obtain⟨b,a,n,c,b2,a2,n2,c2,h1,h2⟩:=h;exact⟨b,a,n,c,b2,a2,n2,c2,h1,h2.cJ hk⟩
abbrev mb:=eX 3 HN
abbrev jB:=eX 4 HO
abbrev KH:=eX 6 Cw
structure du(w:World)(S:Nat->Prop)(vn vb vs:Value)(f:fM):Prop where
 nodes:mb w S vn f.nodes
 bars:KH w S vb f.bars
 cU:KH w S vs f.cU
section
variable{S S':Nat->Prop}{H:Hp}{nx:Nat}{iv iv':Iv}{B:Nat}{w w' w2:World}{O:Nat->Sx.dg}{v vn vb vs:Value}{f:fM}{l:List Ld}
theorem jB.cI(h:jB w S v l)(hk:∀g,S g->w2.heap[g]? =w.heap[g]?):jB w2 S v l:=eX.cI (w:=w) (fun _ _ h=>h) h hk
theorem du.cI(h:du w S vn vb vs f)(hk:∀g,S g->w2.heap[g]? =w.heap[g]?):du w2 S vn vb vs f:=
 ⟨eX.cI (w:=w) (fun _ _ h=>h) h.nodes hk,eX.cI (fun _ _ h=>h.cI hk) h.bars hk,eX.cI (fun _ _ h=>h.cI hk) h.cU hk⟩
theorem du.cJ(h:du w S vn vb vs f)(hk:∀g,S g->S' g):du w S' vn vb vs f:=
 ⟨eX.cJ (S:=S) (fun _ _ h=>h) h.nodes hk,eX.cJ (fun _ _ h=>h.cJ hk) h.bars hk,eX.cJ (fun _ _ h=>h.cJ hk) h.cU hk⟩
theorem du.rel(h:du w (Cv S B iv) vn vb vs f)(r:Rel H nx iv B w O w')(hS:∀g,S g->g<B):du w' (Cv S B iv) vn vb vs f:=h.cI fun _ hg=>Rel.same r hS hg
theorem du.shape(h:du w S vn vb vs f):∃an cn ab cb aq cs,vn= .slice an f.nodes.length cn∧vb= .slice ab f.bars.length cb∧vs= .slice aq f.cU.length cs∧f.nodes.length<=maxLen∧f.bars.length<=maxLen∧f.cU.length<=maxLen:=by
 obtain⟨an,cn,h1,_,h2⟩:=h.nodes.shape;obtain⟨ab,cb,h3,_,h4⟩:=h.bars.shape;obtain⟨aq,cs,h5,_,h6⟩:=h.cU.shape;exact⟨an,cn,ab,cb,aq,cs,h1,h3,h5,h2,h4,h6⟩
end
theorem zu{P:Program}{τ:mg}{B nx:Nat}{l:Env}{H:Hp}{iv:Iv}(hτ:fH P τ){t ty len e sz by_:Nat}{ag:Bool}{ze ze2:List Value}{ik ik2:IntKind}{b2 tag2 al2 e0:Nat}{fs fs2:List (Nat×Nat)}{x i:Operand}{pos:String}{vx:SV}{cs:Array Value}{k:IntKind}{m:Int}{u:Value}
  (ht:τ t=some ⟨sz,ag,by_,ze,6,ik,e,len,fs⟩) (PK:τ e=some ⟨1,false,b2,ze2,tag2,ik2,e0,al2,fs2⟩) (hx:ev l x=some vx) (Ty:∀O,vx.den O= .agg cs) (hi:ev l i=some (.o (.v (.int k m)))) (hm:0<=m∧m<len) (hc:cs[m.toNat]? =some u)
  (hK:∀O w',Rel H nx iv B w O w'->K (.o (.v u)) H nx iv w'):yB P B ⟨dst,.index t x i,ty,pos,after,guard⟩ l H nx iv w K:=by
 have hto:=(hτ t _ ht).i6 rfl;have Ra:=hτ e _ PK;refine FR hto (fun w=>Ra.sizeOf w) (fun w j v hv=>?_) hx Ty hi hm hc hK;simp[part,Ra.isAgg,hv]
structure gl(w:World)(B:Nat)(iv:Iv)(rv:List Value)(n:Nat)(M:List (List Int)):Prop where
 len:rv.length=M.length
 wid:∀l∈M,l.length=n
 row:∀(i:Nat) v l,rv[i]? =some v->M[i]? =some l->w.ownsRow 0 T.int 1 v n (l.map fun z=>.int .i64 z)
 FE:∀(i j:Nat) a b g,rv[i]? =some a->rv[j]? =some b->a.ownBlock=some g->b.ownBlock=some g->i=j
 new:∀g,Ob rv g->Cv FF B iv g
section
variable{H:Hp}{nx n:Nat}{iv iv':Iv}{B:Nat}{w w' w2:World}{O:Nat->Sx.dg}{rv:List Value}{M:List (List Int)}
theorem gl.nil:gl w B iv [] n []:=⟨rfl,fun l h=>(by cases h),fun i v l h=>(by cases h),fun i j a b g h=>(by cases h),fun g ⟨v,hv,_⟩=>by cases hv⟩
theorem gl.cI(h:gl w B iv rv n M)(hk:∀g,Cv FF B iv g->w2.heap[g]? =w.heap[g]?):gl w2 B iv rv n M:=
 ⟨h.len,h.wid,fun i v l h1 h2=>ownsRow.cI (h.row i v l h1 h2) fun g hg=>hk g (h.new g ⟨v,aC h1,hg⟩),h.FE,h.new⟩
theorem gl.rel(h:gl w B iv rv n M)(r:Rel H nx iv B w O w'):gl w' B iv rv n M:=h.cI fun _ hg=>Rel.same r (gH B) hg
theorem gl.mono(h:gl w B iv rv n M)(hm:∀p,p∈iv->p∈iv'):gl w B iv' rv n M:=⟨h.len,h.wid,h.row,h.FE,fun g hg=>(h.new g hg).mono hm⟩
theorem gl.cG(h:gl w B iv rv n M)(r:Rel H nx iv B w O w')(he:Ext w' w2)(hm:∀p,p∈iv->p∈iv'):gl w2 B iv' rv n M:=
 ((h.rel r).cI fun g hg=>he.block g (Rel.old r (gH B) g hg)).mono hm
theorem gl.form(hM:gl w B iv rv n M)(hv:rv[i]? =some v):∃a c,v= .slice a n c:=by
 obtain⟨l,hl⟩:∃l,M[i]? =some l:=⟨_,aB (by rw[<-hM.len];exact(aD.1 hv).1)⟩
 obtain⟨a,c,h,_⟩:=jc (hM.row i v l hv hl);exact⟨a,c,h⟩
theorem gl.one(hM:gl w B iv rv n M):∀u∈rv,u.oneCell'=true:=fun u hu=>by
 obtain⟨i,hi⟩:=aU hu;obtain⟨a,c,rfl⟩:=hM.form hi;rfl
theorem gl.load(hM:gl w B iv rv n M){k:Nat}{c:Nat}(hv:rv[i]? =some (.slice a n c))(hl:M[i]? =some l)(hk:l[k]? =some z):
  ∃ad,a=some ad∧Cv FF B iv ad.block∧w.cell? (ad.add (k*1))=some (.int .i64 z):=by
 have h:=hM.row i _ l hv hl;have hlen:=hM.wid l (aC hl);rcases h.2 with⟨_,h0⟩|⟨g,cap,cur,e,_⟩
 ·have:=(aD.1 hk).1;omega
 ·injection e with e;refine⟨⟨g,0,none⟩,e,hM.new g ⟨_,aC hv,by rw[e];rfl⟩,?_⟩;have:=h.cells (g:=g) (by rw[e];rfl) k (.int .i64 z) (by rw[aN,hk];rfl);rw[aS];exact this
theorem gl.store(hM:gl w B iv rv n M)(r:Rel H nx iv B w O w'){k:Nat}{c:Nat}(hv:rv[i]? =some (.slice a n c))(hl:M[i]? =some l)(hk:k<n):
  ∃g,a=some ⟨g,0,none⟩∧((⟨g,0,none⟩:Addr).add ((k:Int).toNat*1)).spot=none∧
   (∀j,j<1->(w'.cell? (((⟨g,0,none⟩:Addr).add ((k:Int).toNat*1)).add j)).isSome=true∧w'.frozen? (((⟨g,0,none⟩:Addr).add ((k:Int).toNat*1)).add j)=false)∧
   (∀id b,dB H id=some b->(O id).nil=false->(O id).g≠((⟨g,0,none⟩:Addr).add ((k:Int).toNat*1)).block)∧
   ∀w2,w2=setCells w' ((⟨g,0,none⟩:Addr).add ((k:Int).toNat*1)) [.int .i64 z]->gl w2 B iv rv n (M.set i (l.set k z))∧eB B w' w2∧Rel H nx iv B w2 O w2∧w'.grownBy w2 (some g)∧Ob rv g:=by
 have Ug:=hM.rel r;have h1:=Ug.row i _ l hv hl;have hlen:=hM.wid l (aC hl);obtain⟨g,rfl,OJ,QV,PX,Oq⟩:=ow (nv:=[.int .i64 z]) h1 rfl hk rfl (by decide);have Qc:Ob rv g:=⟨_,aC hv,rfl⟩
 have Od:(⟨g,0,none⟩:Addr).add ((k:Int).toNat*1)=⟨g,k*1,none⟩:=by rw[aE,dQ,aQ]
 have Q6:=Rel.not r (gH B) (hM.new g Qc);refine⟨g,rfl,by rw[Od],fun j hj=>by rw[Od];exact OJ j hj,fun id b hb hn=>by rw[Od];exact Q6 id b hb hn,fun w2 Ow=>?_⟩;rw[Od]at Ow;subst Ow;refine⟨⟨by rw[bE];exact hM.len,fun x hx=>?_,fun j v l2 h3 h4=>?_,hM.FE,hM.new⟩,eB.grown PX (fun x e=>by injection e with e;subst e;exact(hM.new g Qc).elim (fun h=>h.elim) fun h=>h.1) r.cF,r.yD Q6 PX,PX,Qc⟩
 ·rcases bJ hx with hx|rfl
  ·exact hM.wid x hx
  ·rw[bE];exact hlen
 ·by_cases Pb:i=j
  ·subst Pb;rw[hv]at h3;injection h3 with h3;subst h3;rw[aW (by rw[<-hM.len];exact(aD.1 hv).1)]at h4;injection h4 with h4;subst h4;rw[List.map_set,<-fu (by rw[aJ];omega)];simp only[aS]at QV ⊢;exact QV
  ·rw[aX Pb]at h4;refine ownsRow.cI (Ug.row j v l2 h3 h4) fun x hx=>PX.block x ?_ fun e=>?_
   ·exact Rel.old r (gH B) x (hM.new x ⟨v,aC h3,hx⟩)
   ·injection e with e;exact Pb (hM.FE i j _ v x hv h3 (by rw[<-e];rfl) hx)
theorem gl.push(hM:gl w B iv rv n M){gx:Nat}(TL:∀g,Cv FF B iv g->g≠gx)(hBx:B<=gx)(hl:l.length=n)(OH:w.ownsRow 0 T.int 1 (.slice (some ⟨gx,0,none⟩) n n) n (l.map fun z=>.int .i64 z)):
  gl w B ((gx,gx+1)::iv) (rv++[.slice (some ⟨gx,0,none⟩) n n]) n (M++[l]):=by
 have Qc:∀g,Ob rv g->g≠gx:=fun g hg=>TL g (hM.new g hg);have key:∀(k:Nat) v,(rv++[Value.slice (some ⟨gx,0,none⟩) n n])[k]? =some v->(k<rv.length∧rv[k]? =some v)∨(k=rv.length∧v= .slice (some ⟨gx,0,none⟩) n n):=fun k v hk=>by
  rcases aP k rv.length with hi|hi
  ·rw[aL hi]at hk;exact .inl ⟨hi,hk⟩
  ·have RV:k=rv.length:=by have:=(aD.1 hk).1;simp at this;omega
   rw[RV,aM (aF _),bK]at hk;simp at hk;exact .inr ⟨RV,hk.symm⟩
 refine⟨by simp[hM.len],fun x hx=>?_,fun i v x h1 h2=>?_,fun i j a b g h1 h2 h3 h4=>?_,fun g hg=>?_⟩
 ·rcases bG.1 hx with hx|hx
  ·exact hM.wid x hx
  ·rw[aw.1 hx];exact hl
 ·rcases key i v h1 with⟨hi,k1⟩|⟨e1,rfl⟩
  ·rw[aL (by rw[<-hM.len];exact hi)]at h2;exact hM.row i v x k1 h2
  ·rw[e1,hM.len,aM (aF _),bK]at h2;simp at h2;subst h2;exact OH
 ·rcases key i a h1 with⟨_,k1⟩|⟨e1,rfl⟩<;>rcases key j b h2 with⟨_,k2⟩|⟨e2,rfl⟩
  ·exact hM.FE i j a b g k1 k2 h3 h4
  ·injection h4 with h4;exact absurd h4.symm (Qc g ⟨a,aC k1,h3⟩)
  ·injection h3 with h3;exact absurd h3.symm (Qc g ⟨b,aC k2,h4⟩)
  ·rw[e1,e2]
 ·rcases Ob.append.1 hg with h|h
  ·exact(hM.new g h).mono fun p hp=>List.mem_cons_of_mem _ hp
  ·injection h with h;have h:gx=g:=h;subst h;exact .inr ⟨hBx,_,_,aG,aF _,bY _⟩
end
def Cu(w:World)(S:Nat->Prop)(v:Value)(l:List Int):Prop:=iB w S 1 v (l.map fun z=>.int .i64 z) l.length
abbrev j1:=db Cu
theorem Cu.cI(h:Cu w S v l)(hk:∀g,S g->w2.heap[g]? =w.heap[g]?):Cu w2 S v l:=iB.cI h hk
theorem Cu.cJ(h:Cu w S v l)(hk:∀g,S g->S' g):Cu w S' v l:=iB.cJ h hk
theorem j1.cI{M:List (List Int)}(h:j1 w S v M)(hk:∀g,S g->w2.heap[g]? =w.heap[g]?):j1 w2 S v M:=by
 obtain⟨rv,h1,h2,h3⟩:=h;exact⟨rv,h1.cI hk,h2,fun i u x k1 k2=>(h3 i u x k1 k2).cI hk⟩
theorem j1.cJ{M:List (List Int)}(h:j1 w S v M)(hk:∀g,S g->S' g):j1 w S' v M:=by
 obtain⟨rv,h1,h2,h3⟩:=h;exact⟨rv,h1.cJ hk,h2,fun i u x k1 k2=>(h3 i u x k1 k2).cJ hk⟩
theorem Cu.at{m c:Nat}(h:Cu w S (.slice a m c) l)(hj:l[j]? =some z):∃ad,a=some ad∧S ad.block∧w.cell? (ad.add (j*1))=some (.int .i64 z):=by
 obtain⟨h0,h1,h2,a',c',e,h3,h4⟩:=h;injection e with e1 e2 e3;subst e1;obtain⟨ad,k1,k2,k3⟩:=h4 j (.int .i64 z) (by rw[aN,hj];rfl);exact⟨ad,k1,k2,by rw[aS];exact k3⟩
theorem Cu.shape(h:Cu w S v l):∃a c,v= .slice a l.length c∧l.length<=c∧l.length<=maxLen:=by
 obtain⟨h0,h1,h2,a,c,e,h3,h4⟩:=h;exact⟨a,c,e,h3,h0⟩
structure tx(f:fM):Prop where
 co:∀p∈f.nodes,(-1000000<=p.1∧p.1<=1000000)∧(-1000000<=p.2.1∧p.2.1<=1000000)∧(-1000000<=p.2.2∧p.2.2<=1000000)
 Lb:∀b∈f.bars,(0<=b.1∧b.1<f.nodes.length)∧(0<=b.2.1∧b.2.1<f.nodes.length)
 sup:∀s∈f.cU,(0<=s.1∧s.1<f.nodes.length)∧(0<=s.2.1∧s.2.1<=2)
 n:f.nodes.length<=20
 b:f.bars.length<=60
 s:f.cU.length<=60
theorem tx.node(h:tx f){i:Int}(h0:0<=i)(h1:i<f.nodes.length):∃k:Nat,∃p,i=k∧k<f.nodes.length∧f.nodes[k]? =some p∧f.node i=p∧(-1000000<=p.1∧p.1<=1000000)∧(-1000000<=p.2.1∧p.2.1<=1000000)∧(-1000000<=p.2.2∧p.2.2<=1000000):=by
 obtain⟨k,rfl⟩:=Int.eq_ofNat_of_zero_le h0;have hk:k<f.nodes.length:=by omega
 refine⟨k,f.nodes[k],rfl,hk,aB hk,?_,h.co _ (aY hk)⟩;rw[fM.node,aE,List.getD,aB hk];rfl
theorem Am{vn vb vs:Value}{a b:Int}{b3 b6:Bool}{a4 a7:Option Addr}{n4 c4 n7 c7:Nat}(hS:Old S w)(hn:mb w S vn f.nodes)(OJ:tx f)(hA:0<=a∧a<f.nodes.length)(hB:0<=b∧b<f.nodes.length):
  eD PG N.lK #[.agg #[vn,vb,vs],.agg #[.int .i64 a,.int .i64 b,.bool b3,.slice a4 n4 c4,.bool b6,.slice a7 n7 c7]] w (eG w fun v' _=>v'= .agg #[.int .i64 ((f.node b).1-(f.node a).1),.int .i64 ((f.node b).2.1-(f.node a).2.1),.int .i64 ((f.node b).2.2-(f.node a).2.2)]):=by
 have hw:=bR w;obtain⟨an,cn,rfl,hcn,Qw⟩:=hn.shape;unfold maxLen at Qw;obtain⟨ka,pa,ea,hka,hpa,VH,⟨_,_⟩,⟨_,_⟩,⟨_,_⟩⟩:=OJ.node hA.1 hA.2;obtain⟨kb,pb,eb,OI,Ui,VI,⟨_,_⟩,⟨_,_⟩,⟨_,_⟩⟩:=OJ.node hB.1 hB.2;obtain⟨ada,csa,haa,hPa,-,Pj⟩:=hn.load (by decide) hpa;obtain⟨adb,csb,Pg,hPb,-,Oa⟩:=hn.load (by decide) Ui;have hPa:csa=[.int .i64 pa.1,.int .i64 pa.2.1,.int .i64 pa.2.2]:=hPa;have hPb:csb=[.int .i64 pb.1,.int .i64 pb.2.1,.int .i64 pb.2.2]:=hPb;subst hPa hPb;rw[VH,VI];subst ea eb;refine o9 (by simp) ?_;refine ic hτ dm (.x 0 (.x 2 (.x 6 (.x 8 (.ld 1 49200 (.ld 3 49200 (.x 4 (.ld 5 49152 (.ld 7 35840 (.ld 9 35840 (.x 10 (.ld 11 32768 (.two 12 (.x 13 (.x 14 (.x 15 .nil))) 13 (.x 12 (.x 14 (.x 15 .nil)))))))))))))))) (by kernel_rfl) (by kernel_rfl) ?_;refine⟨ada,haa,by omega,[.int .i64 pa.1,.int .i64 pa.2.1,.int .i64 pa.2.2],rfl,rdO Pj hw hS,adb,Pg,by omega,[.int .i64 pb.1,.int .i64 pb.2.1,.int .i64 pb.2.2],rfl,rdO Oa hw hS,?_,?_⟩
 ·refine⟨[.int .i64 pb.1,.int .i64 pb.2.1,.int .i64 pb.2.2],rfl,rdO Oa hw hS,rfl,rfl,rfl,[.int .i64 pa.1,.int .i64 pa.2.1,.int .i64 pa.2.2],rfl,rdO Pj hw hS,rfl,rfl,rfl,[.int .i64 pb.1,.int .i64 pb.2.1,.int .i64 pb.2.2],rfl,rdO Oa hw hS,rfl,rfl,rfl,[.int .i64 pa.1,.int .i64 pa.2.1,.int .i64 pa.2.2],rfl,rdO Pj hw hS,rfl,rfl,rfl,[.int .i64 pb.1,.int .i64 pb.2.1,.int .i64 pb.2.2],rfl,rdO Oa hw hS,rfl,rfl,rfl,pb.1-pa.1,wo,pb.2.1-pa.2.1,wo,pb.2.2-pa.2.2,wo,?_⟩;exact rtn hw fun ρe we re=>rfl
 ·refine⟨[.int .i64 pb.1,.int .i64 pb.2.1,.int .i64 pb.2.2],rfl,rdO Oa hw hS,rfl,rfl,rfl,[.int .i64 pa.1,.int .i64 pa.2.1,.int .i64 pa.2.2],rfl,rdO Pj hw hS,rfl,rfl,rfl,[.int .i64 pb.1,.int .i64 pb.2.1,.int .i64 pb.2.2],rfl,rdO Oa hw hS,rfl,rfl,rfl,[.int .i64 pa.1,.int .i64 pa.2.1,.int .i64 pa.2.2],rfl,rdO Pj hw hS,rfl,rfl,rfl,[.int .i64 pb.1,.int .i64 pb.2.1,.int .i64 pb.2.2],rfl,rdO Oa hw hS,rfl,rfl,rfl,pb.1-pa.1,wo,pb.2.1-pa.2.1,wo,pb.2.2-pa.2.2,wo,?_⟩;exact rtn hw fun ρe we re=>rfl
end Go.Ex
