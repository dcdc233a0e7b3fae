/- Texts X135 to X138: lemmas, each with its conditions. -/
import Derived.Test.YtkdcaknoaeicdaaGreatP10
namespace Go.Ex
open Go Go.Sx Go.Proofs
variable{iv:Iv}{M:List (List Rat)}{css:List (List Value)}{ps pv:List Nat}{b qs x:List Rat}{cs:List Value}{B g h id:Nat}{C S:Nat->Prop}{O:Nat->Sx.dg}{a ax:Option Addr}{row:Option Nat}{q:Rat}{v:Value}{w:World}
section
variable{S S':Nat->Prop}{H:Hp}{nx n:Nat}{iv iv':Iv}{B:Nat}{w w' w2:World}{O:Nat->Sx.dg}{v:Value}{qs:List Rat}
theorem dP.aAk{w0 w1:World}(h:dP w1 S w0.heap.size iv v n qs)(r:Rel H nx iv w0.heap.size w1 O w')(hS:Old S w0):dP w' S w0.heap.size [(w0.heap.size,w'.heap.size)] v n qs:=by
 have h2:=h.rel r hS;have key:∀g {X:Nat->Prop},Cv X w0.heap.size iv g->Cv X w0.heap.size [(w0.heap.size,w'.heap.size)] g:=fun g X hg=>by
  rcases hg with hg|⟨h1,lo,hi,h2,h3,h4⟩
  ·exact .inl hg
  ·exact .inr ⟨h1,_,_,bB.2 rfl,h1,by have:=r.qd lo hi h2;have:=r.size;omega⟩
 exact⟨h2.row.cI fun g hg=>⟨key g hg.1,hg.2⟩,fun g hg=>key g (h2.new g hg)⟩
theorem dP.Np(h:dP w2 (Cv S B iv) w'.heap.size [(w'.heap.size,w2.heap.size)] v n qs)(hB:B<=w'.heap.size):dP w2 S B ((w'.heap.size,w2.heap.size)::iv) v n qs:=by
 have key:∀g {X Y:Nat->Prop},(∀g,Y g->Cv X B iv g)->Cv Y w'.heap.size [(w'.heap.size,w2.heap.size)] g->Cv X B ((w'.heap.size,w2.heap.size)::iv) g:=fun g X Y hY hg=>by
  rcases hg with hg|⟨h1,lo,hi,h2,h3,h4⟩
  ·exact(hY g hg).mono fun p hp=>List.mem_cons_of_mem _ hp
  ·simp at h2;obtain⟨rfl,rfl⟩:=h2;exact .inr ⟨by omega,_,_,aG,h3,h4⟩
 exact⟨h.row.cI fun g hg=>⟨key g (fun _ h=>h) hg.1,hg.2⟩,fun g hg=>key g (fun _ h=>h.elim) (h.new g hg)⟩
def Bs(S:Nat->Prop)(B:Nat)(iv:Iv)(v:Value)(g:Nat):Prop:=Cv S B iv g∧v.ownBlock≠some g
theorem Bs.kept(r:Rel H nx iv B w O w')(hS:∀g,S g->g<B)(hg:w'.grownBy w2 row)(OG:∀g,row=some g->v.ownBlock=some g):∀g,Bs S B iv v g->w2.heap[g]? =w.heap[g]? :=fun g h=>by
 rw[hg.block g (Rel.old r hS g h.1) fun e=>h.2 (OG g e.symm),Rel.same r hS h.1]
theorem Bs.same(r:Rel H nx iv B w O w')(hS:∀g,S g->g<B):∀g,Bs S B iv v g->w'.heap[g]? =w.heap[g]? :=fun g h=>Rel.same r hS h.1
theorem Bs.of(r:Rel H nx iv B w O w')(hS:∀g,S g->g<B)(hm:∀p,p∈iv->p∈iv')(hn:dP w2 FF w'.heap.size [(w'.heap.size,w2.heap.size)] v n qs)(h:Cv S B iv g):Bs S B iv' v g:=
 ⟨h.mono hm,fun e=>by
  have h1:=Rel.old r hS g h;rcases hn.new g e with h2|⟨h2,_⟩
  ·exact h2
  ·omega⟩
theorem Bs.mono(hm:∀p,p∈iv->p∈iv')(h:Bs S B iv v g):Bs S B iv' v g:=⟨h.1.mono hm,h.2⟩
theorem dH.at{m c j p:Nat}(h:dH w S (.slice a m c) ps)(hj:ps[j]? =some p):∃ad,a=some ad∧S ad.block∧w.cell? (ad.add (j*1))=some (.int .i64 (p:Int)):=by
 obtain⟨h0,h1,h2,a',c',e,h3,h4⟩:=h;injection e with e1 e2 e3;subst e1;obtain⟨ad,k1,k2,k3⟩:=h4 j (.int .i64 (p:Int)) (by rw[aM,hj];rfl);exact⟨ad,k1,k2,by rw[aT];exact k3⟩
theorem dH.shape(h:dH w S v ps):∃a c,v= .slice a ps.length c∧ps.length<=c∧ps.length<=maxLen:=by
 obtain⟨h0,h1,h2,a,c,e,h3,h4⟩:=h;exact⟨a,c,e,h3,h0⟩
end
theorem AU{E:List (List Rat)}{at_:List (Option Nat)}{fr:List Nat}{n:Nat}(hE:fg n E)(Od:∀(k r:Nat),at_[k]? =some (some r)->r<E.length):∀k,k<=at_.length->fg n (dG (E,at_,fr) k).1∧∀p∈(dG (E,at_,fr) k).2.1,p<k
 |0,_=>⟨(fun r hr=>by cases hr),fun p hp=>by cases hp⟩
 |k+1,hk=>by
  have ih:=AU (fr:=fr) hE Od k (by omega);obtain⟨o,ho⟩:∃o,at_[k]? =some o:=⟨_,aB (by omega)⟩
  cases o with
  |none=>
   rw[mi (s:=(E,at_,fr)) ho];exact⟨ih.1,fun p hp=>Nat.lt_succ_of_lt (ih.2 p hp)⟩
  |some r=>
   rw[mj (s:=(E,at_,fr)) ho];refine⟨fun x hx=>?_,fun p hp=>?_⟩
   ·rcases bG.1 hx with hx|hx
    ·exact ih.1 x hx
    ·rw[bB.1 hx];have:=Od k r ho;dsimp only
     rw[List.getD,aB this];exact hE _ (aX this)
   ·rcases bG.1 hp with hp|hp
    ·exact Nat.lt_succ_of_lt (ih.2 p hp)
    ·rw[bB.1 hp];exact bZ _
theorem rb{n:Nat}(cols:Nat)(hM:fg n M):(dX M cols).1.length=(dX M cols).2.1.length∧(dX M cols).2.2.length=(dX M cols).2.1.length∧fg n (dX M cols).1∧(∀p∈(dX M cols).2.1,p<cols)∧(dX M cols).2.1.length<=cols:=by
 have OI:=zH cols hM M.length (aF _);unfold dX;generalize gR M cols M.length=s at*
 obtain⟨E,at_,fr⟩:=s;have QG:at_.length=cols:=OI.at_;obtain⟨q1,q2,-,q4⟩:=uR (E,at_,fr) [] cols (by show cols<=at_.length;omega);obtain⟨f1,f2⟩:=AU (E:=E) (at_:=at_) (fr:=fr) OI.len OI.lt cols (by omega);exact⟨q1,q2,f1,f2,q4⟩
theorem lE(M:List (List Rat))(b:List Rat):(j5 M b).length=M.length:=List.length_mapIdx
theorem Iz{n:Nat}(h:fg n M):fg (n+1) (j5 M b):=fun r hr=>by
 obtain⟨i,hi⟩:=aS hr;rw[j5,List.getElem?_mapIdx]at hi
 cases hM:M[i]? with
 |none=>rw[hM]at hi;cases hi
 |some x=>
  rw[hM]at hi;simp only[Option.map_some,Option.some.injEq]at hi;rw[<-hi,List.length_append,h x (aC hM)];rfl
theorem HC{H:Hp}{nx:Nat}{w':World}(r:Rel H nx iv B w O w')(h:dC H id=some (.vec T.Rat 4 ([]++css.flatten++cs)))(hF:Fc w' S css x)(hq:iK w' S cs q)(hm:x.length<maxLen):
  (O id).nil=false∧cJ w' (Cv S B (((O id).g,(O id).g+1)::iv)) (.slice (some ⟨(O id).g,0,none⟩) (x.length+1) (O id).cap) (x++[q]):=by
 have OY:=eN hF.vq;have hl:([]++css.flatten++cs).length=(x.length+1)*4:=by rw[List.nil_append,List.length_append,OY,hF.1,hq.len];omega
 have Rc:=hF.push hq;have he:[]++css.flatten++cs=(css++[cs]).flatten:=by simp
 have hv:=oa r (sz:=4) (m:=x.length+1) h hl (by omega) (by decide) (by omega) (fun u hu=>Rc.one u (by rw[<-he];exact hu));refine⟨hv.1,css++[cs],?_,Rc.1,Rc.vq,fun j c y k1 k2=>(Rc.2 j c y k1 k2).cI fun g hg=>.inl hg⟩;rw[List.length_append,List.length_singleton,<-he];exact hv.2.2.cI fun g hg=>.inr ⟨by have:=hv.2.1;omega,_,_,aG,by omega,by omega⟩
set_option maxHeartbeats 2000000 in
theorem CJ{D:Nat->Prop}{u:Value}{cols:Nat}(hC:Old C w)(hD:Old D w)(hS:Old S w)(hM:ke w C S v M)(hb:gL w D S u b)(Pg:b.length=M.length)(hlen:fg cols M)(hn:cols<=999)(hR:M.length<=1000)(hB:uQ (j5 M b) (cols+1) h)(hh:3*h<=90000):
  di PG N.jM #[.agg #[v,.int .i64 cols],u] w (dw w fun v' w2=>(jK M b cols=none∧v'= .tuple #[.slice none 0 0,.bool false])∨∃x vx,jK M b cols=some x∧v'= .tuple #[vx,.bool true]∧dP w2 S w.heap.size [(w.heap.size,w2.heap.size)] vx cols x):=by
 have hw:=bR w;obtain⟨am,cm,rfl,Rb,RD⟩:=ke.shape hM;obtain⟨ab,cb,rfl,Pv,Qm⟩:=gL.shape hb;unfold maxLen at RD Qm;refine oV (by simp) ?_
 refine⟨((cols+1:Nat):Int),wo,Nat×List Value×World×Iv,fun z=>⟨[(20,iN z.1),(1,sV ab b.length cb),(2,pP 0 0),(6,pP 1 0),(18,sV am M.length cm),(19,iZ M.length)],[(1,.box T.dc [.w 2 z.2.1.length,.v (.int .i64 ((cols+1:Nat):Int))]),(2,.vec T.fU 1 z.2.1),(0,.box T.dc [.v (.slice am M.length cm),.v (.int .i64 cols)])],3,z.2.2.2,z.2.2.1⟩,fun z=>M.length-z.1,
  fun z=>z.1<=M.length∧dm w.heap.size w z.2.2.1∧dR z.2.2.1 (Cv S w.heap.size z.2.2.2) z.2.1 ((j5 M b).take z.1),?_,?_⟩
 ·intro O w' r
  exact⟨(0,[],w',[]),⟨aP _,hw.tr r.cP,by simp[dR]⟩,Sub.BK 1 0 T.fU 1 rfl rfl (by simp[jX,SV.sc,At.sc,fT]) r fun ρ1 r1=>
   Sub.gn [] r1⟩
 rintro⟨i,rv,w1,iv⟩ ⟨hi,hw,hK⟩;dsimp only at hi hw hK ⊢;have Ok:rv.length=i:=by rw[hK.1,aW,lE];omega
 refine dM.mk ?_ ?_<;>intro OF
 ·have OF:i<M.length:=by simpa using OF
  obtain⟨x,hx⟩:∃r,M[i]? =some r:=⟨_,aB OF⟩
  have PO:=hlen x (aC hx);obtain⟨q,hq⟩:∃r,b[i]? =some r:=⟨_,aB (by omega)⟩
  have Tx:b.getD i 0=q:=by rw[List.getD,hq];rfl
  have OO:(j5 M b).take (i+1)=(j5 M b).take i++[x++[q]]:=by
   rw[List.take_add_one,show(j5 M b)[i]? =some (x++[q]) by rw[j5,List.getElem?_mapIdx,hx,<-Tx];rfl];rfl
  obtain⟨adm,um,Qs,PK,km1,km2⟩:=ke.load hM hx;obtain⟨css,⟨-,g1,g2,a0,c0,rfl,g4,g5⟩,PV,Qt,Ov⟩:=PK;have OY:=eN Qt;obtain⟨adq,cs,Sm,hF,hl⟩:=gL.load hb hq;obtain⟨b3,a3,n3,c3,b4,a4,n4,c4,rfl,hF⟩:=hF;refine⟨adm,Qs,by omega,.slice a0 x.length c0,rd1 km2 hw (hC _ km1),?_⟩;refine iq hτ dZ (.x 0 (.x 3 (.x 5 (.x 6 (.x 7 (.ld 1 28672 (.ld 8 32256 (.two 2 (.two 4 (.x 9 (.x 10 (.jl 6 (.x 11 (.x 12 (.x 13 (.x 14 .nil))))))) 9 (.x 4 (.x 10 (.jl 6 (.x 11 (.x 12 (.x 13 (.x 14 .nil)))))))) 9 (.x 2 (.x 4 (.x 10 (.jl 6 (.x 11 (.x 12 (.x 13 (.x 14 .nil)))))))))))))))) (by kernel_rfl) (by kernel_rfl) ?_;refine⟨adq,Sm,by omega,[.bool b3,.slice a3 n3 c3,.bool b4,.slice a4 n4 c4],rfl,rdO hl hw hD,?_,?_⟩
  ·refine⟨[.bool b3,.slice a3 n3 c3,.bool b4,.slice a4 n4 c4],rfl,rdO hl hw hD,rfl,rfl,?_,?_⟩
   ·refine .inl ?_;refine⟨css.flatten,g1,g2,fun O w' r Ot=>?_,?_⟩
    ·obtain⟨u0,Rl⟩:∃u,css.flatten[0]? =some u:=⟨_,aB (by omega)⟩
     obtain⟨ad,ha,_,_⟩:=g5 0 u0 Rl;refine⟨ad,ha,fun j u hj=>?_⟩;obtain⟨ad2,Oq,q1,q2⟩:=g5 j u hj;rw[ha]at Oq;injection Oq with Oq;subst Oq;rw[cG (w:=w) (w2:=w') (by rw[dE];exact(hw.tr r.cP).block _ (hS _ q1))];exact q2
    refine⟨rfl,by omega,by unfold maxLen;omega,?_⟩;rw[aR x.length];refine⟨[.bool b3,.slice a3 n3 c3,.bool b4,.slice a4 n4 c4],rfl,rdO hl hw hD,rfl,rfl,rfl,?_⟩;refine .inl ?_;refine⟨by rw[<-g1];rfl,by omega,by unfold maxLen;omega,rfl,[(1,.box T.dc [.w 2 rv.length,.v (.int .i64 ((cols+1:Nat):Int))]),(2,.vec T.fU 1 rv),(0,.box T.dc [.v (.slice am M.length cm),.v (.int .i64 cols)])],_,rfl,by simp,⟨rfl,rfl,rfl,trivial⟩,rfl,fun O w' r=>?_⟩;have hv:=HC (S:=S) (x:=x) (q:=q) (css:=css) r (id:=6) rfl ⟨PV,fun j cs q k1 k2=>(Ov j cs q k1 k2).cH fun g hg=>(hw.tr r.cP).block g (hS g hg)⟩ (hF.cH (kS hw r hS)).pD (by unfold maxLen;omega);refine⟨hv.1,_,jR (tl:=[(25,pP 1 0),(26,.o (.w 2 rv.length)),(20,iN i),(1,sV ab b.length cb),(2,pP 0 0),(6,pP 1 0),(18,sV am M.length cm),(19,iZ M.length)]) hv.1 (t:=35) (n:=x.length+1) rfl ⟨rfl,rfl,rfl,rfl,rfl,rfl,rfl,rfl,trivial⟩ (by simp[jX,SV.sc,At.sc]),?_⟩;replace hK:=(dR.cI (hK.rel r hS) (fun g hg=>hg.mono fun p hp=>List.mem_cons_of_mem _ hp)).push rfl hv.2;rw[<-OO]at hK;replace hw:=hw.tr r.cP;generalize (O 6).g=gx at*
    generalize (O 6).cap=cx at*
    generalize (gx,gx+1)::iv=OJ at*
    refine⟨rfl,?_⟩;refine .inl ?_;refine⟨by simp,by omega,by unfold maxLen;omega,((i+1:Nat):Int),wo,?_⟩;intro ρ3 w3 r3;exact⟨(i+1,rv++[.slice (some ⟨gx,0,none⟩) (x.length+1) cx],w3,_),⟨OF,hw.tr r3.cP,hK.rel r3 hS⟩,Sub.gn [(2,8)] r3 ⟨by dsimp only;rw[List.length_append,List.length_singleton];rfl,rfl,rfl,trivial⟩,by dsimp only;omega⟩
   ·refine⟨rfl,?_⟩;refine .inl ?_;refine⟨css.flatten,g1,g2,fun O w' r Ot=>?_,?_⟩
    ·obtain⟨u0,Rl⟩:∃u,css.flatten[0]? =some u:=⟨_,aB (by omega)⟩
     obtain⟨ad,ha,_,_⟩:=g5 0 u0 Rl;refine⟨ad,ha,fun j u hj=>?_⟩;obtain⟨ad2,Oq,q1,q2⟩:=g5 j u hj;rw[ha]at Oq;injection Oq with Oq;subst Oq;rw[cG (w:=w) (w2:=w') (by rw[dE];exact(hw.tr r.cP).block _ (hS _ q1))];exact q2
    refine⟨rfl,by omega,by unfold maxLen;omega,?_⟩;rw[aR x.length];refine⟨rfl,?_⟩;refine .inl ?_;refine⟨by rw[<-g1];rfl,by omega,by unfold maxLen;omega,rfl,[(1,.box T.dc [.w 2 rv.length,.v (.int .i64 ((cols+1:Nat):Int))]),(2,.vec T.fU 1 rv),(0,.box T.dc [.v (.slice am M.length cm),.v (.int .i64 cols)])],_,rfl,by simp,⟨rfl,rfl,rfl,trivial⟩,rfl,fun O w' r=>?_⟩;have hv:=HC (S:=S) (x:=x) (q:=q) (css:=css) r (id:=6) rfl ⟨PV,fun j cs q k1 k2=>(Ov j cs q k1 k2).cH fun g hg=>(hw.tr r.cP).block g (hS g hg)⟩ (hF.cH (kS hw r hS)).pD (by unfold maxLen;omega);refine⟨hv.1,_,jR (tl:=[(25,pP 1 0),(26,.o (.w 2 rv.length)),(20,iN i),(1,sV ab b.length cb),(2,pP 0 0),(6,pP 1 0),(18,sV am M.length cm),(19,iZ M.length)]) hv.1 (t:=35) (n:=x.length+1) rfl ⟨rfl,rfl,rfl,rfl,rfl,rfl,rfl,rfl,trivial⟩ (by simp[jX,SV.sc,At.sc]),?_⟩;replace hK:=(dR.cI (hK.rel r hS) (fun g hg=>hg.mono fun p hp=>List.mem_cons_of_mem _ hp)).push rfl hv.2;rw[<-OO]at hK;replace hw:=hw.tr r.cP;generalize (O 6).g=gx at*
    generalize (O 6).cap=cx at*
    generalize (gx,gx+1)::iv=OJ at*
    refine⟨rfl,?_⟩;refine .inl ?_;refine⟨by simp,by omega,by unfold maxLen;omega,((i+1:Nat):Int),wo,?_⟩;intro ρ3 w3 r3;exact⟨(i+1,rv++[.slice (some ⟨gx,0,none⟩) (x.length+1) cx],w3,_),⟨OF,hw.tr r3.cP,hK.rel r3 hS⟩,Sub.gn [(2,8)] r3 ⟨by dsimp only;rw[List.length_append,List.length_singleton];rfl,rfl,rfl,trivial⟩,by dsimp only;omega⟩
  ·refine⟨rfl,rfl,?_⟩;refine .inl ?_;refine⟨css.flatten,g1,g2,fun O w' r Ot=>?_,?_⟩
   ·obtain⟨u0,Rl⟩:∃u,css.flatten[0]? =some u:=⟨_,aB (by omega)⟩
    obtain⟨ad,ha,_,_⟩:=g5 0 u0 Rl;refine⟨ad,ha,fun j u hj=>?_⟩;obtain⟨ad2,Oq,q1,q2⟩:=g5 j u hj;rw[ha]at Oq;injection Oq with Oq;subst Oq;rw[cG (w:=w) (w2:=w') (by rw[dE];exact(hw.tr r.cP).block _ (hS _ q1))];exact q2
   refine⟨rfl,by omega,by unfold maxLen;omega,?_⟩;rw[aR x.length];refine⟨rfl,?_⟩;refine .inl ?_;refine⟨by rw[<-g1];rfl,by omega,by unfold maxLen;omega,rfl,[(1,.box T.dc [.w 2 rv.length,.v (.int .i64 ((cols+1:Nat):Int))]),(2,.vec T.fU 1 rv),(0,.box T.dc [.v (.slice am M.length cm),.v (.int .i64 cols)])],_,rfl,by simp,⟨rfl,rfl,rfl,trivial⟩,rfl,fun O w' r=>?_⟩;have hv:=HC (S:=S) (x:=x) (q:=q) (css:=css) r (id:=6) rfl ⟨PV,fun j cs q k1 k2=>(Ov j cs q k1 k2).cH fun g hg=>(hw.tr r.cP).block g (hS g hg)⟩ (hF.cH (kS hw r hS)).pD (by unfold maxLen;omega);refine⟨hv.1,_,jR (tl:=[(25,pP 1 0),(26,.o (.w 2 rv.length)),(20,iN i),(1,sV ab b.length cb),(2,pP 0 0),(6,pP 1 0),(18,sV am M.length cm),(19,iZ M.length)]) hv.1 (t:=35) (n:=x.length+1) rfl ⟨rfl,rfl,rfl,rfl,rfl,rfl,rfl,rfl,trivial⟩ (by simp[jX,SV.sc,At.sc]),?_⟩;replace hK:=(dR.cI (hK.rel r hS) (fun g hg=>hg.mono fun p hp=>List.mem_cons_of_mem _ hp)).push rfl hv.2;rw[<-OO]at hK;replace hw:=hw.tr r.cP;generalize (O 6).g=gx at*
   generalize (O 6).cap=cx at*
   generalize (gx,gx+1)::iv=OJ at*
   refine⟨rfl,?_⟩;refine .inl ?_;refine⟨by simp,by omega,by unfold maxLen;omega,((i+1:Nat):Int),wo,?_⟩;intro ρ3 w3 r3;exact⟨(i+1,rv++[.slice (some ⟨gx,0,none⟩) (x.length+1) cx],w3,_),⟨OF,hw.tr r3.cP,hK.rel r3 hS⟩,Sub.gn [(2,8)] r3 ⟨by dsimp only;rw[List.length_append,List.length_singleton];rfl,rfl,rfl,trivial⟩,by dsimp only;omega⟩
 have OF:i=M.length:=aQ hi (by simpa using OF);rw[List.take_of_length_le (by rw[lE];omega)]at hK;have TQ:=Iz (b:=b) hlen;obtain⟨f1,f2,f3,f4,f5⟩:=rb (cols+1) TQ;generalize hA:(dX (j5 M b) (cols+1)).1=A at*
 generalize hP:(dX (j5 M b) (cols+1)).2.1=pv at*
 refine⟨((cols+1:Nat):Int),wo,?_⟩
 refine cC (cM (Φ:=fun _ w' v w2=>∃vr vp vf,v= .agg #[vr,.int .i64 ((cols+1:Nat):Int),vp,vf]∧cQ w2 (Nw (Cv S w.heap.size iv) w' w2) vr A∧dH w2 (Nf w' w2) vp pv∧dH w2 (Nf w' w2) vf (dX (j5 M b) (cols+1)).2.2) (fun O w' r=>by
  rw[<-hA,<-hP]
  exact qt (C:=fun g=>g<w'.heap.size) (fun g hg=>hg) (Rel.old r hS) ⟨rv,by rw[lE,<-OF,<-Ok];exact(r.iR (id:=2) (sz:=1) (m:=rv.length) rfl (by simp) (by unfold maxLen;omega) (by decide) hK.2.1).cI fun g hg=>hg.2,hK.1,fun i u x h1 h2=>cJ.rel (hK.2.2 i u x h1 h2) r hS⟩ TQ (by omega) (by omega) (by rw[lE];omega) (aF _) hB hh) ?_)
 rintro O Pq v1 Pe r he Of ⟨vr,vp,vf,rfl,k1,k2,k3⟩;replace hw:=hw.tr Of;have hR:=cQ.old k1 r.cD;have hV:=dH.dA (S:=FF) k2 r.cD (iv:=(Pq.heap.size,Pe.heap.size)::iv) aG;have hX:=dH.dA (S:=FF) k3 r.cD (iv:=(Pq.heap.size,Pe.heap.size)::iv) aG;generalize (Pq.heap.size,Pe.heap.size)::iv=OM at*
 obtain⟨ar,cr,rfl,Sk,hmr⟩:=dD.shape hR;obtain⟨ap,cp,rfl,WC,hmp⟩:=dH.shape hV;obtain⟨af,cf,rfl,-,-⟩:=dH.shape hX;refine cC (cM (Φ:=fun _ w' v w2=>dP w2 FF w'.heap.size [(w'.heap.size,w2.heap.size)] v cols (List.replicate cols 0)) (fun O w' r=>FM cols w' (by omega)) ?_);rintro O Pr v2 PB r he Of hn;replace hw:=hw.tr Of;replace hR:=cQ.cI (S':=Bs S w.heap.size ((Pr.heap.size,PB.heap.size)::OM) v2) (cQ.cH (cQ.rel hR r hS) fun g hg=>he.block g (Rel.old r hS g hg)) fun g hg=>Bs.of r hS (fun x hx=>List.mem_cons_of_mem _ hx) hn hg;replace hV:=dH.cI (S':=Bs FF w.heap.size ((Pr.heap.size,PB.heap.size)::OM) v2) (dH.cH (dH.rel hV r (cB w)) fun g hg=>he.block g (Rel.old r (cB w) g hg)) fun g hg=>Bs.of r (cB w) (fun x hx=>List.mem_cons_of_mem _ hx) hn hg;have hX:=hn.dA (S:=S) r.cD (iv:=(Pr.heap.size,PB.heap.size)::OM) aG;generalize (Pr.heap.size,PB.heap.size)::OM=OJ at*
 obtain⟨ax,cx,rfl,Sl⟩:=hX.row.form;have hXl:=hX.row.le;unfold maxLen at hXl
 refine⟨Nat×World×Iv,fun z=>⟨[(51,iN z.1),(2,pP 0 0),(9,pP 3 0),(10,sV ax cols cx),(49,sV ap pv.length cp),(50,iZ pv.length)],[(3,.box T.dU [.v (.slice ar A.length cr),.v (.int .i64 ((cols+1:Nat):Int)),.v (.slice ap pv.length cp),.v (.slice af (dX (j5 M b) (cols+1)).2.2.length cf)]),(0,.box T.dc [.v (.slice am M.length cm),.v (.int .i64 cols)])],4,z.2.2,z.2.1⟩,fun z=>pv.length-z.1,
  fun z=>z.1<=pv.length∧(∀(t p:Nat),t<z.1->pv[t]? =some p->p≠cols)∧dm w.heap.size w z.2.1∧cQ z.2.1 (Bs S w.heap.size z.2.2 (.slice ax cols cx)) (.slice ar A.length cr) A∧dH z.2.1 (Bs FF w.heap.size z.2.2 (.slice ax cols cx)) (.slice ap pv.length cp) pv∧dP z.2.1 S w.heap.size z.2.2 (.slice ax cols cx) cols (fp A pv cols z.1),?_,?_⟩
 ·intro O w' r;exact⟨(0,w',_),⟨aP _,fun t p ht=>absurd ht (Nat.not_lt_zero t),hw.tr r.cP,cQ.cH hR (Bs.same r hS),dH.cH hV (Bs.same r (cB w)),hX.rel r hS⟩,Sub.gn [] r⟩
 rintro⟨k,w3,iv⟩ ⟨hk,TW,hw,hR,hV,hX⟩;dsimp only at hk TW hw hR hV hX ⊢;refine dM.mk ?_ ?_<;>intro OK
 ·have OK:k<pv.length:=by simpa using OK
  obtain⟨p,hp⟩:∃p,pv[k]? =some p:=⟨_,aB OK⟩
  have Qy:=f4 p (aC hp);obtain⟨adp,Qv,kp1,kp2⟩:=hV.at hp;refine⟨adp,Qv,by omega,.int .i64 (p:Int),fun O w' r=>?_,?_⟩
  ·rw[aE,cG (w:=w3) (w2:=w') (by rw[dE];exact Rel.same r (cB w) kp1.1)];exact kp2
  refine dM.mk ?_ ?_<;>intro he
  ·have he:p=cols:=by
    have:(p:Int)=cols:=by simpa using he
    omega
   intro ρe we re;refine⟨_,rfl,hw.tr re.cP,.inl ⟨?_,rfl⟩⟩;unfold jK;simp only[hP]
   rw[if_pos (by rw[<-he];exact aC hp)]
  have he:p≠cols:=fun e=>by rw[e]at he;simp at he
  obtain⟨x,hx⟩:∃x,A[k]? =some x:=⟨_,aB (by omega)⟩
  have PO:=f3 x (aC hx);obtain⟨q,hq⟩:∃q,x[cols]? =some q:=⟨_,aB (by omega)⟩
  have QG:dL A k cols=q:=by simp[dL,List.getD,hx,hq]
  obtain⟨adm,um,Qs,PK,km1,km2⟩:=dD.load hR hx;obtain⟨a0,c0,rfl,VB,-⟩:=cY.shape PK;obtain⟨adq,cs,Sm,hF,_,hl⟩:=cY.load PK hq;obtain⟨g0,g1,g2,g3,g4,g5,g6,g7,rfl,hF⟩:=hF;refine cK hτ dZ [.x 0,.x 1,.x 2,.x 3,.x 4,.x 5,.x 6,.x 7,.x 8,.x 9,.x 10,.x 11,.x 12,.x 13] (by kernel_rfl) (by kernel_rfl) ?_;refine⟨adm,Qs,by omega,.slice a0 x.length c0,fun O w' r=>?_,?_⟩
  ·rw[aE,cG (w:=w3) (w2:=w') (by rw[dE];exact Rel.same r hS km1.1)];exact km2
  refine⟨adq,Sm,by omega,[.bool g0,.slice g1 g2 g3,.bool g4,.slice g5 g6 g7],rfl,fun O w' r j u hu=>?_,?_⟩
  ·obtain⟨k1,k2⟩:=hl j u hu;rw[aE,cG (w:=w3) (w2:=w') (by rw[dE,dE];exact Rel.same r hS k1.1)];exact k2
  obtain⟨gx,SB⟩:∃g,ax=some ⟨g,0,none⟩:=by
   obtain⟨css,h1,h2,h3⟩:=hX.row;rcases h1.2 with⟨_,h0⟩|⟨g,cap,cur,e,_⟩
   ·omega
   ·injection e with e;exact⟨g,e⟩
  subst SB;refine⟨⟨gx,0,none⟩,rfl,by omega,?_⟩;intro O w' r;obtain⟨g,hg,h1,h2,h3,h4,h5⟩:=(hX.rel r hS).store (j:=p) (by omega) (hF.cH (Bs.same r hS)) r hS;injection hg with hg;injection hg with hg;subst hg;refine⟨h1,h2,h3,fun w5 Qg=>?_⟩;obtain⟨k1,k2,k3⟩:=h5 w5 Qg;have PE:dm w.heap.size w w5:=(hw.tr r.cP).tr (dm.grown k2 (fun g e=>by injection e with e;subst e;exact h4.elim (fun h=>h.elim) fun h=>h.1) r.cD);have Qh:=cQ.cH hR (Bs.kept r hS k2 fun g e=>e);have hV2:=dH.cH hV (Bs.kept r (cB w) k2 fun g e=>e);have OO:(fp A pv cols k).set p q=fp A pv cols (k+1):=by rw[gQ,QG,List.getD,hp];rfl
  rw[OO]at k1;refine⟨((k+1:Nat):Int),wo,?_⟩;intro ρ3 w6 r3
  exact⟨(k+1,w6,_),⟨OK,fun t p2 ht QF=>by
   by_cases UC:t=k
   ·rw[UC,hp]at QF;injection QF with QF;rw[<-QF];exact he
   ·exact TW t p2 (by dsimp only at ht;omega) QF,PE.tr r3.cP,cQ.cH Qh (Bs.same r3 hS),dH.cH hV2 (Bs.same r3 (cB w)),k1.rel r3 hS⟩,Sub.gn [] r3,by dsimp only;omega⟩
 have OK:k=pv.length:=aQ hk (by simpa using OK);subst OK;intro ρe we re;refine⟨_,rfl,hw.tr re.cP,.inr ⟨_,_,?_,rfl,hX.aAk re hS⟩⟩;unfold jK;simp only[hA,hP]
 rw[aL];intro hm;obtain⟨t,ht⟩:=aS hm;exact TW t cols (aD.1 ht).1 ht rfl
theorem uS{u:Value}{cols:Nat}(hC:Old C w)(hS:Old S w)(hM:ke w C S v M)(hb:cJ w S u b)(Pg:b.length=M.length)(hlen:fg cols M)(hn:cols<=999)(hR:M.length<=1000)(hB:uQ (j5 M b) (cols+1) h)(hh:3*h<=90000):
  di PG N.jM #[.agg #[v,.int .i64 cols],u] w (dw w fun v' w2=>(jK M b cols=none∧v'= .tuple #[.slice none 0 0,.bool false])∨∃x vx,jK M b cols=some x∧v'= .tuple #[vx,.bool true]∧dP w2 S w.heap.size [(w.heap.size,w2.heap.size)] vx cols x):=
 CJ hC hS hS hM (cJ.rc hb) Pg hlen hn hR hB hh
def sh(pv:List Nat)(n i:Nat):List Value:=(List.range n).map fun c=>.bool (decide (c∈pv.take i))
theorem JA(pv:List Nat)(n:Nat):sh pv n 0=List.replicate n (.bool false):=by
 refine bM fun j=>?_;rw[sh,aM,List.getElem?_replicate];by_cases h:j<n
 ·rw[bp h,if_pos h];rfl
 ·rw[List.getElem?_eq_none (by simp;omega),aL h];rfl
theorem D3{n i c:Nat}(h:c<n):(sh pv n i)[c]? =some (.bool (decide (c∈pv.take i))):=by
 rw[sh,aM,bp h];rfl
theorem JB{n i p:Nat}(hp:pv[i]? =some p):(sh pv n i).set p (.bool true)=sh pv n (i+1):=by
 refine bM fun j=>?_;by_cases hj:j<n
 ·rw[D3 hj,List.take_add_one,hp];by_cases hpj:p=j
  ·subst hpj;rw[aV (by simp[sh];exact hj)];simp
  ·rw[aY hpj,D3 hj];have:j≠p:=fun e=>hpj e.symm;simp[this]
 ·rw[List.getElem?_eq_none (by simp[sh];omega),List.getElem?_eq_none (by simp[sh];omega)]
theorem dP.at{n:Nat}{cx:Nat}(h:dP w S B iv (.slice ax n cx) n qs)(h0:0<n):∃g,ax=some ⟨g,0,none⟩:=by
 obtain⟨css,h1,h2,h3⟩:=h.row;rcases h1.2 with⟨_,h0⟩|⟨g,cap,cur,e,_⟩
 ·omega
 ·injection e with e;exact⟨g,e⟩
set_option maxHeartbeats 2000000 in
theorem CK{n:Nat}(hC:Old C w)(hS:Old S w)(hM:ke w C S v M)(hlen:fg n M)(hn0:0<n)(hn:n<=1000)(hR:M.length<=1000)(hB:uQ M n h)(hAb:Ht (dX M n).1 h)(hh:3*h<=90000):
  di PG N.gS #[.agg #[v,.int .i64 n]] w (dw w fun v' w2=>cQ w2 (Nf w w2) v' (kJ M n)):=by
 have hw:=bR w;obtain⟨am,cm,rfl,Rb,RD⟩:=ke.shape hM;unfold maxLen at RD;obtain⟨f1,f2,f3,f4,f5⟩:=rb n hlen;refine j8 (by simp) ?_;unfold kJ;generalize hA:(dX M n).1=A at*
 generalize hP:(dX M n).2.1=pv at*
 refine cC (cM (Φ:=fun _ w' v w2=>∃vr vp vf,v= .agg #[vr,.int .i64 n,vp,vf]∧cQ w2 (Nw S w' w2) vr A∧dH w2 (Nf w' w2) vp pv∧dH w2 (Nf w' w2) vf (dX M n).2.2) (fun O w' r=>by
  rw[<-hA,<-hP];obtain⟨rv,m1,m2,m3⟩:=hM
  exact qt (C:=C) (S:=S) (oS hC r) (oS hS r) ⟨rv,m1.cH fun g hg=>(hw.tr r.cP).block g (hC g hg),m2,fun i u x h1 h2=>cJ.cH (m3 i u x h1 h2) fun g hg=>(hw.tr r.cP).block g (hS g hg)⟩ hlen hn0 hn hR (aF _) hB hh) ?_)
 rintro O Pq v1 Pe r he Of ⟨vr,vp,vf,rfl,k1,k2,k3⟩;replace hw:=hw.tr Of;have hR:=cQ.old (cQ.cI k1 fun g hg=>hg.imp (fun h=>(Or.inl h:Cv S w.heap.size [] g)) id) r.cD;have hV:=dH.dA (S:=FF) k2 r.cD (iv:=(Pq.heap.size,Pe.heap.size)::[]) aG;have hX:=dH.dA (S:=FF) k3 r.cD (iv:=(Pq.heap.size,Pe.heap.size)::[]) aG;generalize (Pq.heap.size,Pe.heap.size)::[]=OM at*
 obtain⟨ar,cr,rfl,Sk,hmr⟩:=dD.shape hR;obtain⟨ap,cp,rfl,WC,hmp⟩:=dH.shape hV;obtain⟨af,cf,rfl,-,-⟩:=dH.shape hX
 refine⟨n,n,rfl,rfl,aF _,by omega,by omega,Nat×World×Iv,fun z=>⟨[(1,pP 0 0),(3,pP 1 0),(4,.o (.s 2 0 n n)),(20,sV ap pv.length cp),(21,iZ pv.length),(22,iN z.1)],[(2,.arr T.bool (sh pv n z.1)),(1,.box T.dU [.v (.slice ar A.length cr),.v (.int .i64 n),.v (.slice ap pv.length cp),.v (.slice af (dX M n).2.2.length cf)]),(0,.box T.dc [.v (.slice am M.length cm),.v (.int .i64 n)])],3,z.2.2,z.2.1⟩,fun z=>pv.length-z.1,
  fun z=>z.1<=pv.length∧dm w.heap.size w z.2.1∧cQ z.2.1 (Cv S w.heap.size z.2.2) (.slice ar A.length cr) A∧dH z.2.1 (Cf w z.2.2) (.slice ap pv.length cp) pv,?_,?_⟩
 ·intro O w' r3;exact⟨(0,w',_),⟨aP _,hw.tr r3.cP,cQ.rel hR r3 hS,dH.rel hV r3 (cB w)⟩,Sub.gn [] r3 ⟨by dsimp only;rw[JA];rfl,rfl,rfl,trivial⟩⟩
 rintro⟨i,w1,iv⟩ ⟨hi,hw,hR,hV⟩;dsimp only at hi hw hR hV ⊢;refine dM.mk ?_ ?_<;>intro OF
 ·have OF:i<pv.length:=by simpa using OF
  obtain⟨p,hp⟩:∃p,pv[i]? =some p:=⟨_,aB OF⟩
  have Qy:=f4 p (aC hp);obtain⟨adp,Qv,kp1,kp2⟩:=hV.at hp;refine⟨adp,Qv,by omega,.int .i64 (p:Int),fun O w' r=>?_,?_⟩
  ·rw[aE,cG (w:=w1) (w2:=w') (by rw[dE];exact Rel.same r (cB w) kp1)];exact kp2
  refine⟨by omega,by simp[sh];omega,sh pv n (i+1),?_,?_⟩
  ·rw[aE,aT,aR,<-JB hp];exact fu (by simp[sh];omega)
  refine⟨((i+1:Nat):Int),wo,?_⟩;intro ρ3 w3 r3;exact⟨(i+1,w3,_),⟨OF,hw.tr r3.cP,cQ.rel hR r3 hS,dH.rel hV r3 (cB w)⟩,Sub.gn [] r3,by dsimp only;omega⟩
 have OF:i=pv.length:=aQ hi (by simpa using OF);subst OF
 refine⟨Nat×List Value×World×Iv,fun z=>⟨[(32,iN z.1),(7,.o (.w 3 z.2.1.length)),(1,pP 0 0),(3,pP 1 0),(4,.o (.s 2 0 n n)),(31,iZ n)],[(2,.arr T.bool (sh pv n pv.length)),(3,.vec T.fU 1 z.2.1),(1,.box T.dU [.v (.slice ar A.length cr),.v (.int .i64 n),.v (.slice ap pv.length cp),.v (.slice af (dX M n).2.2.length cf)]),(0,.box T.dc [.v (.slice am M.length cm),.v (.int .i64 n)])],4,z.2.2.2,z.2.2.1⟩,fun z=>n-z.1,
  fun z=>z.1<=n∧dm w.heap.size w z.2.2.1∧cQ z.2.2.1 (Cv S w.heap.size z.2.2.2) (.slice ar A.length cr) A∧dH z.2.2.1 (Cf w z.2.2.2) (.slice ap pv.length cp) pv∧dR z.2.2.1 (Cf w z.2.2.2) z.2.1 (dy A pv n z.1),?_,?_⟩
 ·intro O w' r;exact⟨(0,[],w',_),⟨aP _,hw.tr r.cP,cQ.rel hR r hS,dH.rel hV r (cB w),by simp[dR,dy]⟩,Sub.nil 7 T.fU 1 rfl (by simp[jX,SV.sc,At.sc]) r fun ρ1 r1=>Sub.gn [] r1⟩
 rintro⟨c,rv,w1,iv⟩ ⟨hc,hw,hR,hV,hK⟩;dsimp only at hc hw hR hV hK ⊢;have Ok:rv.length=(dy A pv n c).length:=hK.1;have hrc:=FQ A pv n c;refine dM.mk ?_ ?_<;>intro Pv
 ·have Pv:c<n:=by simpa using Pv
  refine⟨by omega,.bool (decide (c∈pv)),by rw[aE,aT,aR,D3 Pv,bC],?_⟩;refine dM.mk ?_ ?_<;>intro hm
  ·have hm:c∈pv:=by simpa using hm
   refine⟨((c+1:Nat):Int),wo,?_⟩;intro ρ3 w3 r3;exact⟨(c+1,rv,w3,_),⟨Pv,hw.tr r3.cP,cQ.rel hR r3 hS,dH.rel hV r3 (cB w),by dsimp only;rw[xM hm];exact hK.rel r3 (cB w)⟩,Sub.gn [] r3,by dsimp only;omega⟩
  have hm:c∉pv:=by simpa using hm
  refine cC (cM (Φ:=fun _ w' v w2=>dP w2 FF w'.heap.size [(w'.heap.size,w2.heap.size)] v n (List.replicate n 0)) (fun O w' r=>FM n w' (by omega)) ?_);rintro O Pr v2 PB r he Of RY;replace hw:=hw.tr Of;replace hR:=cQ.cI (S':=Bs S w.heap.size ((Pr.heap.size,PB.heap.size)::iv) v2) (cQ.cH (cQ.rel hR r hS) fun g hg=>he.block g (Rel.old r hS g hg)) fun g hg=>Bs.of r hS (fun x hx=>List.mem_cons_of_mem _ hx) RY hg;replace hV:=dH.cI (S':=Bs FF w.heap.size ((Pr.heap.size,PB.heap.size)::iv) v2) (dH.cH (dH.rel hV r (cB w)) fun g hg=>he.block g (Rel.old r (cB w) g hg)) fun g hg=>Bs.of r (cB w) (fun x hx=>List.mem_cons_of_mem _ hx) RY hg;replace hK:=dR.cI (S':=Bs FF w.heap.size ((Pr.heap.size,PB.heap.size)::iv) v2) (dR.cH (dR.rel hK r (cB w)) fun g hg=>he.block g (Rel.old r (cB w) g hg)) fun g hg=>Bs.of r (cB w) (fun x hx=>List.mem_cons_of_mem _ hx) RY hg;have hX:=RY.dA (S:=FF) r.cD (iv:=(Pr.heap.size,PB.heap.size)::iv) aG;generalize (Pr.heap.size,PB.heap.size)::iv=OJ at*
  obtain⟨ax,cx,rfl,Sl⟩:=hX.row.form;obtain⟨gx,rfl⟩:=hX.at hn0;refine cC (cM (Φ:=fun _ w' v w2=>cU w2 (Nf w' w2) v ((1:Int):Rat)) (fun O w' r=>k5 1 w' (by decide) (by decide)) ?_);rintro O PX v3 PU r he Of RY;replace hw:=hw.tr Of;replace hR:=cQ.cI (S':=Bs S w.heap.size ((PX.heap.size,PU.heap.size)::OJ) (.slice (some ⟨gx,0,none⟩) n cx)) (cQ.cH (cQ.cH hR (Bs.same r hS)) fun g hg=>he.block g (Rel.old r hS g hg.1)) fun g hg=>Bs.mono (fun x hx=>List.mem_cons_of_mem _ hx) hg;replace hV:=dH.cI (S':=Bs FF w.heap.size ((PX.heap.size,PU.heap.size)::OJ) (.slice (some ⟨gx,0,none⟩) n cx)) (dH.cH (dH.cH hV (Bs.same r (cB w))) fun g hg=>he.block g (Rel.old r (cB w) g hg.1)) fun g hg=>Bs.mono (fun x hx=>List.mem_cons_of_mem _ hx) hg;replace hK:=dR.cI (S':=Bs FF w.heap.size ((PX.heap.size,PU.heap.size)::OJ) (.slice (some ⟨gx,0,none⟩) n cx)) (dR.cH (dR.cH hK (Bs.same r (cB w))) fun g hg=>he.block g (Rel.old r (cB w) g hg.1)) fun g hg=>Bs.mono (fun x hx=>List.mem_cons_of_mem _ hx) hg;have hd:=(RY.cI (S':=Bs FF w.heap.size ((PX.heap.size,PU.heap.size)::OJ) (.slice (some ⟨gx,0,none⟩) n cx)) fun g hg=>hg.elim (fun h=>h.elim) fun h=>⟨.inr ⟨by have:=r.cD;omega,_,_,aG,h.1,h.2⟩,fun e=>by have:=Rel.old r (cB w) g (hX.new g e);omega⟩)
  replace hX:=hX.cF (iv':=(PX.heap.size,PU.heap.size)::OJ) r (cB w) he fun x hx=>List.mem_cons_of_mem _ hx;generalize (PX.heap.size,PU.heap.size)::OJ=OP at*
  obtain⟨A0,A1,A2,A3,A4,A5,A6,A7,rfl⟩:=hd.shape;refine⟨⟨gx,0,none⟩,rfl,by omega,?_⟩;intro O w' r;obtain⟨g,hg,h1,h2,h3,h4,h5⟩:=(hX.rel r (cB w)).store (j:=c) Pv (hd.cH (Bs.same r (cB w))) r (cB w);injection hg with hg;injection hg with hg;subst hg;refine⟨h1,h2,h3,fun w5 Qg=>?_⟩;obtain⟨k1,k2,k3⟩:=h5 w5 Qg;have PE:dm w.heap.size w w5:=(hw.tr r.cP).tr (dm.grown k2 (fun g e=>by injection e with e;subst e;exact h4.elim (fun h=>h.elim) fun h=>h.1) r.cD);have Qh:=cQ.cH hR (Bs.kept r hS k2 fun g e=>e);have hV2:=dH.cH hV (Bs.kept r (cB w) k2 fun g e=>e);have Qw:=dR.cH hK (Bs.kept r (cB w) k2 fun g e=>e);have OO:(List.replicate n (0:Rat)).set c ((1:Int):Rat)=fZ A pv n c 0:=rfl;rw[OO]at k1
  refine⟨Nat×World×Iv,fun z=>⟨[(49,iN z.1),(8,iN c),(9,.o (.v (.slice (some ⟨gx,0,none⟩) n cx))),(32,iN c),(47,sV ap pv.length cp),(48,iZ pv.length),(7,.o (.w 3 rv.length)),(1,pP 0 0),(3,pP 1 0),(4,.o (.s 2 0 n n)),(31,iZ n)],[(2,.arr T.bool (sh pv n pv.length)),(3,.vec T.fU 1 rv),(1,.box T.dU [.v (.slice ar A.length cr),.v (.int .i64 n),.v (.slice ap pv.length cp),.v (.slice af (dX M n).2.2.length cf)]),(0,.box T.dc [.v (.slice am M.length cm),.v (.int .i64 n)])],4,z.2.2,z.2.1⟩,fun z=>pv.length-z.1,
   fun z=>z.1<=pv.length∧dm w.heap.size w z.2.1∧cQ z.2.1 (Bs S w.heap.size z.2.2 (.slice (some ⟨gx,0,none⟩) n cx)) (.slice ar A.length cr) A∧dH z.2.1 (Bs FF w.heap.size z.2.2 (.slice (some ⟨gx,0,none⟩) n cx)) (.slice ap pv.length cp) pv∧dR z.2.1 (Bs FF w.heap.size z.2.2 (.slice (some ⟨gx,0,none⟩) n cx)) rv (dy A pv n c)∧dP z.2.1 FF w.heap.size z.2.2 (.slice (some ⟨gx,0,none⟩) n cx) n (fZ A pv n c z.1),?_,?_⟩
  ·intro O w' r3;exact⟨(0,w',_),⟨aP _,PE.tr r3.cP,cQ.cH Qh (Bs.same r3 hS),dH.cH hV2 (Bs.same r3 (cB w)),dR.cH Qw (Bs.same r3 (cB w)),k1.rel r3 (cB w)⟩,Sub.gn [] r3⟩
  rintro⟨k,w3,iv⟩ ⟨hk,hw,hR,hV,hK,hX⟩;dsimp only at hk hw hR hV hK hX ⊢;refine dM.mk ?_ ?_<;>intro OK
  ·have OK:k<pv.length:=by simpa using OK
   obtain⟨p,hp⟩:∃p,pv[k]? =some p:=⟨_,aB OK⟩
   have Qy:=f4 p (aC hp);obtain⟨adp,Qv,kp1,kp2⟩:=hV.at hp;obtain⟨x,hx⟩:∃x,A[k]? =some x:=⟨_,aB (by omega)⟩
   have PO:=f3 x (aC hx);obtain⟨q,hq⟩:∃q,x[c]? =some q:=⟨_,aB (by omega)⟩
   have QG:dL A k c=q:=by simp[dL,List.getD,hx,hq]
   have UQ:=hAb x (aC hx) q (aC hq);obtain⟨adm,um,Qs,PK,km1,km2⟩:=dD.load hR hx;obtain⟨a0,c0,rfl,VB,-⟩:=cY.shape PK;obtain⟨adq,cs,Sm,hF,_,hl⟩:=cY.load PK hq;obtain⟨g0,g1,g2,g3,g4,g5,g6,g7,rfl,hF⟩:=hF;refine⟨adp,Qv,by omega,.int .i64 (p:Int),fun O w' r=>?_,?_⟩
   ·rw[aE,cG (w:=w3) (w2:=w') (by rw[dE];exact Rel.same r (cB w) kp1.1)];exact kp2
   refine⟨adm,Qs,by omega,.slice a0 x.length c0,fun O w' r=>?_,?_⟩
   ·rw[aE,cG (w:=w3) (w2:=w') (by rw[dE];exact Rel.same r hS km1.1)];exact km2
   refine⟨adq,Sm,by omega,[.bool g0,.slice g1 g2 g3,.bool g4,.slice g5 g6 g7],rfl,fun O w' r j u hu=>?_,?_⟩
   ·obtain⟨k1,k2⟩:=hl j u hu;rw[aE,cG (w:=w3) (w2:=w') (by rw[dE,dE];exact Rel.same r hS k1.1)];exact k2
   refine cC (cM (Φ:=fun _ w' v w2=>cU w2 (Nf w' w2) v (-q)) (fun O w' r=>Ks (S:=Bs S w.heap.size iv (.slice (some ⟨gx,0,none⟩) n cx)) (fun g hg=>Rel.old r hS g hg.1) ((hF.cH (Bs.same r hS)).l (by omega))) ?_);rintro O QB v4 Pw r he Of RY;replace hw:=hw.tr Of;replace hR:=cQ.cI (S':=Bs S w.heap.size ((QB.heap.size,Pw.heap.size)::iv) (.slice (some ⟨gx,0,none⟩) n cx)) (cQ.cH (cQ.cH hR (Bs.same r hS)) fun g hg=>he.block g (Rel.old r hS g hg.1)) fun g hg=>Bs.mono (fun x hx=>List.mem_cons_of_mem _ hx) hg;replace hV:=dH.cI (S':=Bs FF w.heap.size ((QB.heap.size,Pw.heap.size)::iv) (.slice (some ⟨gx,0,none⟩) n cx)) (dH.cH (dH.cH hV (Bs.same r (cB w))) fun g hg=>he.block g (Rel.old r (cB w) g hg.1)) fun g hg=>Bs.mono (fun x hx=>List.mem_cons_of_mem _ hx) hg;replace hK:=dR.cI (S':=Bs FF w.heap.size ((QB.heap.size,Pw.heap.size)::iv) (.slice (some ⟨gx,0,none⟩) n cx)) (dR.cH (dR.cH hK (Bs.same r (cB w))) fun g hg=>he.block g (Rel.old r (cB w) g hg.1)) fun g hg=>Bs.mono (fun x hx=>List.mem_cons_of_mem _ hx) hg;have hd:=(RY.cI (S':=Bs FF w.heap.size ((QB.heap.size,Pw.heap.size)::iv) (.slice (some ⟨gx,0,none⟩) n cx)) fun g hg=>hg.elim (fun h=>h.elim) fun h=>⟨.inr ⟨by have:=r.cD;omega,_,_,aG,h.1,h.2⟩,fun e=>by have:=Rel.old r (cB w) g (hX.new g e);omega⟩)
   replace hX:=hX.cF (iv':=(QB.heap.size,Pw.heap.size)::iv) r (cB w) he fun x hx=>List.mem_cons_of_mem _ hx;generalize (QB.heap.size,Pw.heap.size)::iv=OR at*
   obtain⟨C0,C1,C2,C3,C4,C5,C6,C7,rfl⟩:=hd.shape;refine⟨⟨gx,0,none⟩,rfl,by omega,?_⟩;intro O w' r;obtain⟨g,hg,h1,h2,h3,h4,h5⟩:=(hX.rel r (cB w)).store (j:=p) (by omega) (hd.cH (Bs.same r (cB w))) r (cB w);injection hg with hg;injection hg with hg;subst hg;refine⟨h1,h2,h3,fun w5 Qg=>?_⟩;obtain⟨k1,k2,k3⟩:=h5 w5 Qg;have PE:dm w.heap.size w w5:=(hw.tr r.cP).tr (dm.grown k2 (fun g e=>by injection e with e;subst e;exact h4.elim (fun h=>h.elim) fun h=>h.1) r.cD);have Qh:=cQ.cH hR (Bs.kept r hS k2 fun g e=>e);have hV2:=dH.cH hV (Bs.kept r (cB w) k2 fun g e=>e);have Qw:=dR.cH hK (Bs.kept r (cB w) k2 fun g e=>e);have OO:(fZ A pv n c k).set p (-q)=fZ A pv n c (k+1):=by rw[gP,QG,List.getD,hp];rfl
   rw[OO]at k1;refine⟨((k+1:Nat):Int),wo,?_⟩;intro ρ3 w6 r3;exact⟨(k+1,w6,_),⟨OK,PE.tr r3.cP,cQ.cH Qh (Bs.same r3 hS),dH.cH hV2 (Bs.same r3 (cB w)),dR.cH Qw (Bs.same r3 (cB w)),k1.rel r3 (cB w)⟩,Sub.gn [] r3,by dsimp only;omega⟩
  have OK:k=pv.length:=aQ hk (by simpa using OK);rw[OK]at hX;replace hR:=cQ.cI hR fun g hg=>hg.1;replace hV:=dH.cI hV fun g hg=>hg.1;replace hK:=(dR.cI hK fun g hg=>hg.1).push (u:=(.slice (some ⟨gx,0,none⟩) n cx)) (x:=fZ A pv n c pv.length) rfl (by have:=hX.c;exact this);rw[<-uT hm]at hK;refine .inl ?_;refine⟨by simp,by omega,by unfold maxLen;omega,((c+1:Nat):Int),wo,?_⟩;intro ρ3 w3 r3;exact⟨(c+1,rv++[(.slice (some ⟨gx,0,none⟩) n cx)],w3,_),⟨Pv,hw.tr r3.cP,cQ.rel hR r3 hS,dH.rel hV r3 (cB w),hK.rel r3 (cB w)⟩,Sub.gn [(3,5)] r3 (hE:=⟨rfl,by dsimp only;rw[List.length_append,List.length_singleton];rfl,rfl,rfl,rfl,rfl,trivial⟩),by dsimp only;omega⟩
 have Pv:c=n:=aQ hc (by simpa using Pv);subst Pv;intro ρe we re;refine⟨_,rfl,hw.tr re.cP,rv,?_,hK.1,fun i u x k1 k2=>cJ.cI (cJ.rel (hK.2.2 i u x k1 k2) re (cB w)) fun g hg=>Cv.nw hg re⟩;rw[<-hK.1];exact(re.iR (id:=3) (sz:=1) (m:=rv.length) rfl (by simp) (by unfold maxLen;omega) (by decide) hK.2.1).cI fun g hg=>.inr hg
structure ir(w:World)(S:Nat->Prop)(B:Nat)(iv:Iv)(v:Value)(n i:Nat)(qs:List Rat):Prop where
 row:∃css,w.ownsRow 0 T.Rat 4 v n css.flatten∧fo w (Bs S B iv v) n i css qs
 new:∀g,v.ownBlock=some g->Cv FF B iv g
section
variable{S S':Nat->Prop}{H:Hp}{nx n i:Nat}{iv iv':Iv}{B:Nat}{w w' w2:World}{O:Nat->Sx.dg}{v:Value}{qs:List Rat}
theorem ir.cH(h:ir w S B iv v n i qs)(hk:∀g,Cv S B iv g->w2.heap[g]? =w.heap[g]?):ir w2 S B iv v n i qs:=by
 obtain⟨⟨css,h1,h2⟩,h3⟩:=h;exact⟨⟨css,ownsRow.cH h1 fun g hg=>hk g (ui (h3 g hg)),h2.cH fun g hg=>hk g hg.1⟩,h3⟩
theorem ir.rel(h:ir w S B iv v n i qs)(r:Rel H nx iv B w O w')(hS:∀g,S g->g<B):ir w' S B iv v n i qs:=h.cH fun _ hg=>Rel.same r hS hg
theorem ir.mono(h:ir w S B iv v n i qs)(hm:∀p,p∈iv->p∈iv'):ir w S B iv' v n i qs:=by
 obtain⟨⟨css,h1,h2⟩,h3⟩:=h;exact⟨⟨css,h1,h2.cI fun g hg=>hg.mono hm⟩,fun g hg=>(h3 g hg).mono hm⟩
theorem ir.cF(h:ir w S B iv v n i qs)(r:Rel H nx iv B w O w')(hS:∀g,S g->g<B)(he:Ext w' w2)(hm:∀p,p∈iv->p∈iv'):ir w2 S B iv' v n i qs:=
 ((h.rel r hS).cH fun g hg=>he.block g (Rel.old r hS g hg)).mono hm
theorem ir.jl(r:Rel H nx iv B w O w')(h:dC H id=some (.arr T.Rat (List.replicate n [Value.bool false,.slice none 0 0,.bool false,.slice none 0 0]).flatten))(hn:n<=maxLen)(qs:List Rat):
  ir w' S B (((O id).g,(O id).g+1)::iv) (.slice (some ⟨(O id).g,0,none⟩) n n) n 0 qs:=by
 have PC:=(r.fits h).1;have h4:∀cs∈List.replicate n [Value.bool false,.slice none 0 0,.bool false,.slice none 0 0],cs.length=4:=fun cs hc=>by rw[bP hc];rfl
 have hf:=eN h4;rw[bF]at hf;refine⟨⟨List.replicate n [.bool false,.slice none 0 0,.bool false,.slice none 0 0],⟨hf,.inr ⟨(O id).g,n,_,rfl,aP _,r.arr id _ _ h,aF _,hn,by simp,by rw[<-hf];exact bC⟩⟩,fo.start w' _ n qs⟩,fun g hg=>?_⟩;injection hg with hg;have hg:(O id).g=g:=hg;subst hg;exact .inr ⟨(r.low id _ h PC).1,_,_,aG,aF _,bZ _⟩
theorem ir.store{a1 a2:Option Addr}{c j n1 c1 n2 c2:Nat}{b b2:Bool}(h:ir w S B iv (.slice a n c) n j qs)(hj:j<n)(hq:qs[j]? =some q)(hf:cU w (Bs S B iv (.slice a n c)) (.agg #[.bool b,.slice a1 n1 c1,.bool b2,.slice a2 n2 c2]) q)
  (r:Rel H nx iv B w O w') (hS:∀g,S g->g<B):
  ∃g,a=some ⟨g,0,none⟩∧((⟨g,0,none⟩:Addr).add ((j:Int).toNat*4)).spot=none∧
   (∀k,k<4->(w'.cell? (((⟨g,0,none⟩:Addr).add ((j:Int).toNat*4)).add k)).isSome=true∧w'.frozen? (((⟨g,0,none⟩:Addr).add ((j:Int).toNat*4)).add k)=false)∧
   (∀id b,dC H id=some b->(O id).nil=false->(O id).g≠((⟨g,0,none⟩:Addr).add ((j:Int).toNat*4)).block)∧
   ∀w2,w2=setCells w' ((⟨g,0,none⟩:Addr).add ((j:Int).toNat*4)) [.bool b,.slice a1 n1 c1,.bool b2,.slice a2 n2 c2]->ir w2 S B iv (.slice a n c) n (j+1) qs∧w'.grownBy w2 (some g)∧dm B w' w2∧Rel H nx iv B w2 O w2:=by
 obtain⟨⟨css,h1,h2⟩,h3⟩:=h.rel r hS;have hf:=hf.cH (Bs.same r hS);obtain⟨g,rfl,OI,QD,PW,OX⟩:=pV (nv:=[.bool b,.slice a1 n1 c1,.bool b2,.slice a2 n2 c2]) h1 rfl hj rfl (by decide);have OW:(⟨g,0,none⟩:Addr).add ((j:Int).toNat*4)=⟨g,j*4,none⟩:=by rw[aE,dW,aR]
 have Qc:=Rel.not r (gV B) (h3 g rfl);refine⟨g,rfl,by rw[OW],fun k hk=>by rw[OW];exact OI k hk,fun id b hb hn=>by rw[OW];exact Qc id b hb hn,fun w2 PE=>?_⟩;rw[OW]at PE;subst PE;have UT:=iL (cs:=[.bool b,.slice a1 n1 c1,.bool b2,.slice a2 n2 c2]) h2.four (show j<css.length by rw[h2.len];exact hj);rw[UT]at QD;have Pk:∀x,Bs S B iv (.slice (some ⟨g,0,none⟩) n c) x->(setCells w' ⟨g,j*4,none⟩ [.bool b,.slice a1 n1 c1,.bool b2,.slice a2 n2 c2]).heap[x]? =w'.heap[x]? :=fun x hx=>
  PW.block x (Rel.old r hS x hx.1) fun e=>hx.2 e.symm
 refine⟨⟨⟨_,QD,(h2.cH Pk).next hj hq (hf.cH Pk)⟩,h3⟩,PW,dm.grown PW (fun x e=>by injection e with e;subst e;exact(h3 g rfl).elim (fun h=>h.elim) fun h=>h.1) r.cD,r.yd Qc PW⟩
theorem ir.done(h:ir w S B iv v n n qs)(hl:qs.length=n):dP w S B iv v n qs:=by
 obtain⟨⟨css,h1,h2⟩,h3⟩:=h;exact⟨⟨css,h1,h2.len,by rw[h2.len,hl],fun j cs q k1 k2=>h2.at_ j cs q (by rw[<-hl];exact(aD.1 k2).1) k1 k2⟩,h3⟩
end
theorem kM(M:List (List Rat))(n:Nat):(fa M n).length=n:=by simp[fa]
theorem JC{n k:Nat}(h:k<n):(fa M n)[k]? =some (M.map fun r=>r.getD k 0):=by rw[fa,aM,bp h];rfl
set_option maxHeartbeats 1000000 in
theorem BL{n:Nat}(hC:Old C w)(hS:Old S w)(hM:ke w C S v M)(hlen:fg n M)(hn:n<=1000)(hR:M.length<=1000):
  di PG N.jQ #[.agg #[v,.int .i64 n]] w (dw w fun v' w2=>∃vr,v'= .agg #[vr,.int .i64 M.length]∧cQ w2 (Nw S w w2) vr (fa M n)):=by
 have hw:=bR w;obtain⟨am,cm,rfl,Rb,RD⟩:=ke.shape hM;unfold maxLen at RD;refine lC (by simp) ?_
 refine⟨Nat×List Value×World×Iv,fun z=>⟨[(13,iN z.1),(1,pP 0 0),(2,pP 1 0),(3,pP 2 0),(12,iZ n)],[(2,.box T.dc [.w 3 z.2.1.length,.v (.int .i64 M.length)]),(3,.vec T.fU 1 z.2.1),(1,.box T.dc [.v (.slice none 0 0),.v (.int .i64 0)]),(0,.box T.dc [.v (.slice am M.length cm),.v (.int .i64 n)])],4,z.2.2.2,z.2.2.1⟩,fun z=>n-z.1,
  fun z=>z.1<=n∧dm w.heap.size w z.2.2.1∧dR z.2.2.1 (Cv S w.heap.size z.2.2.2) z.2.1 ((fa M n).take z.1),?_,?_⟩
 ·intro O w' r;exact⟨(0,[],w',[]),⟨aP _,hw.tr r.cP,by simp[dR]⟩,Sub.BK 2 0 T.fU 1 rfl rfl (by simp[jX,SV.sc,At.sc,fT]) r fun ρ1 r1=>Sub.gn [] r1⟩
 rintro⟨k,rv,w1,iv⟩ ⟨hk,hw,hK⟩;dsimp only at hk hw hK ⊢;have Ok:rv.length=k:=by rw[hK.1,aW,kM];omega
 refine dM.mk ?_ ?_<;>intro OK
 ·have OK:k<n:=by simpa using OK
  have UC:=JC (M:=M) OK;have OO:(fa M n).take (k+1)=(fa M n).take k++[M.map fun r=>r.getD k 0]:=by rw[List.take_add_one,UC];rfl
  refine⟨M.length,M.length,rfl,rfl,aF _,by omega,by omega,Nat×Nat×World×Iv,fun z=>⟨[(5,.o (.v (.slice (some ⟨z.2.1,0,none⟩) M.length M.length))),(4,iN k),(13,iN k),(22,iZ M.length),(23,iN z.1),(1,pP 0 0),(2,pP 1 0),(3,pP 2 0),(12,iZ n)],[(2,.box T.dc [.w 3 rv.length,.v (.int .i64 M.length)]),(3,.vec T.fU 1 rv),(1,.box T.dc [.v (.slice none 0 0),.v (.int .i64 0)]),(0,.box T.dc [.v (.slice am M.length cm),.v (.int .i64 n)])],5,z.2.2.2,z.2.2.1⟩,fun z=>M.length-z.1,
   fun z=>z.1<=M.length∧dm w.heap.size w z.2.2.1∧dR z.2.2.1 (Bs S w.heap.size z.2.2.2 (.slice (some ⟨z.2.1,0,none⟩) M.length M.length)) rv ((fa M n).take k)∧ir z.2.2.1 S w.heap.size z.2.2.2 (.slice (some ⟨z.2.1,0,none⟩) M.length M.length) M.length z.1 (M.map fun r=>r.getD k 0),?_,?_⟩
  ·intro O w' r;have hf:=ir.jl (S:=S) (n:=M.length) r (id:=4) rfl (by unfold maxLen;omega) (M.map fun r=>r.getD k 0)
   exact⟨(0,(O 4).g,w',((O 4).g,(O 4).g+1)::iv),⟨aP _,hw.tr r.cP,dR.cI (hK.rel r hS) fun g hg=>⟨hg.mono fun p hp=>List.mem_cons_of_mem _ hp,fun e=>Rel.not r hS hg 4 _ rfl (r.fits (id:=4) rfl).1 (by injection e)⟩,hf⟩,
    Sub.jl r (id:=4) (t:=5) rfl rfl ⟨rfl,rfl,rfl,rfl,trivial⟩ rfl ⟨rfl,rfl,rfl,rfl,rfl,rfl,rfl,rfl,trivial⟩ (by simp[jX,SV.sc,At.sc])⟩
  rintro⟨i,gx,w2,iv⟩ ⟨hi,hw,hK,hX⟩;dsimp only at hi hw hK hX ⊢;refine dM.mk ?_ ?_<;>intro OF
  ·have OF:i<M.length:=by simpa using OF
   obtain⟨x,hx⟩:∃r,M[i]? =some r:=⟨_,aB OF⟩
   have PO:=hlen x (aC hx);obtain⟨q,hq⟩:∃q,x[k]? =some q:=⟨_,aB (by omega)⟩
   have Tx:x.getD k 0=q:=by rw[List.getD,hq];rfl
   obtain⟨adm,um,Qs,PK,km1,km2⟩:=ke.load hM hx;obtain⟨a0,c0,rfl,VB,-⟩:=cY.shape PK;obtain⟨adq,cs,Sm,hF,_,hl⟩:=cY.load PK hq;obtain⟨g0,g1,g2,g3,g4,g5,g6,g7,rfl,hF⟩:=hF;refine⟨adm,Qs,by omega,.slice a0 x.length c0,rd1 km2 hw (hC _ km1),adq,Sm,by omega,[.bool g0,.slice g1 g2 g3,.bool g4,.slice g5 g6 g7],rfl,rdO hl hw hS,⟨gx,0,none⟩,rfl,by omega,?_⟩;intro O w' r
   have Rc:cU w2 (Bs S w.heap.size iv (.slice (some ⟨gx,0,none⟩) M.length M.length)) (.agg #[.bool g0,.slice g1 g2 g3,.bool g4,.slice g5 g6 g7]) q:=(hF.cH fun g hg=>hw.block g (hS g hg)).cI fun g hg=>⟨.inl hg,fun e=>by
    have h1:=hS g hg;rcases hX.new g e with h2|⟨h2,_⟩
    ·exact h2
    ·omega⟩
   obtain⟨g,hg,h1,h2,h3,h4⟩:=hX.store (j:=i) OF (by rw[aM,hx,<-Tx];rfl) Rc r hS;injection hg with hg;injection hg with hg;subst hg;refine⟨h1,h2,h3,fun w5 Qg=>?_⟩;obtain⟨k1,k2,k3,k4⟩:=h4 w5 Qg;have PE:=(hw.tr r.cP).tr k3;have Qw:=dR.cH hK (Bs.kept r hS k2 fun g e=>e);refine⟨((i+1:Nat):Int),wo,?_⟩;intro ρ3 w6 r3;exact⟨(i+1,gx,w6,_),⟨OF,PE.tr r3.cP,dR.cH Qw (Bs.same r3 hS),k1.rel r3 hS⟩,Sub.gn [] r3,by dsimp only;omega⟩
  have OF:i=M.length:=aQ hi (by simpa using OF);rw[OF]at hX;have hX2:=(hX.done (by simp)).c;replace hK:=(dR.cI hK fun g hg=>hg.1).push (u:=(.slice (some ⟨gx,0,none⟩) M.length M.length)) (x:=M.map fun r=>r.getD k 0) rfl hX2;rw[<-OO]at hK;refine .inl ?_;refine⟨by simp,by omega,by unfold maxLen;omega,((k+1:Nat):Int),wo,?_⟩;intro ρ3 w3 r3;exact⟨(k+1,rv++[(.slice (some ⟨gx,0,none⟩) M.length M.length)],w3,_),⟨OK,hw.tr r3.cP,hK.rel r3 hS⟩,Sub.gn [(3,6)] r3 ⟨by dsimp only;rw[List.length_append,List.length_singleton];rfl,rfl,rfl,rfl,trivial⟩,by dsimp only;omega⟩
 have OK:k=n:=aQ hk (by simpa using OK);rw[List.take_of_length_le (by rw[kM];omega)]at hK;intro ρe we re;refine⟨_,rfl,hw.tr re.cP,_,rfl,rv,?_,hK.1,fun i u x k1 k2=>cJ.cI (cJ.rel (hK.2.2 i u x k1 k2) re hS) fun g hg=>Cv.nw hg re⟩;rw[<-hK.1];exact(re.iR (id:=3) (sz:=1) (m:=rv.length) rfl (by simp) (by unfold maxLen;omega) (by decide) hK.2.1).cI fun g hg=>.inr hg
end Go.Ex
namespace Go.Ex
variable{A M:List (List Rat)}{pv:List Nat}{B j:Nat}{v:Nat->Rat}
theorem Bk(f:Nat->Rat):∀n,cd f n=jw (List.range n) f
 |0=>rfl
 |n+1=>by
  rw[cd,Bk f n,bT,wT];show _=_+(_+0)
  rw[bX]
theorem Bm(g:Nat->Rat):∀l:List Nat,jw l g=cd (fun k=>g (l.getD k 0)) l.length
 |[]=>rfl
 |t::l=>by
  rw[List.length_cons,zC];show g t+jw l g=g t+_;rw[Bm g l];rfl
def mulR(M:List (List Rat))(n:Nat)(x:Nat->Rat)(j:Nat):Rat:=cd (fun t=>dL M j t*x t) n
theorem eG.dot{E:Mx}{r n:Nat}(h:eG E r n v):∃c:Nat->Rat,(∀t,t<n->v t=cd (fun i=>c i*E i t) r)∧∀x:Nat->Rat,cd (fun t=>v t*x t) n=cd (fun i=>c i*cd (fun t=>E i t*x t) n) r:=by
 obtain⟨c,hc⟩:=h;refine⟨c,hc,fun x=>?_⟩;rw[cL (g:=fun t=>cd (fun i=>c i*E i t*x t) r) fun t ht=>by rw[hc t ht,<-qj],p9];exact cL fun i _=>by rw[<-ek];exact cL fun t _=>Rat.mul_assoc _ _ _
section
variable{M:List (List Rat)}{n:Nat}{x:Nat->Rat}{b:List Rat}
theorem KN(hM:fg n M)(h:∀j,j<M.length->mulR M n x j=0){c:Nat}(hc:c<=n):∀i,i<M.length->mulR (cN M c).1 n x i=0:=fun i hi=>by
 obtain⟨c,_,h2⟩:=((lT hM c hc).1 i hi).dot;unfold mulR;rw[h2 x,cL (g:=fun _=>0) fun j hj=>by rw[show cd (fun t=>dL M j t*x t) n=0 from h j hj,bD],eC]
theorem Ei(hM:fg n M){c:Nat}(hc:c<=n)(h:∀i,i<M.length->mulR (cN M c).1 n x i=0):∀j,j<M.length->mulR M n x j=0:=fun j hj=>by
 obtain⟨c,_,h2⟩:=((lT hM c hc).2 j hj).dot;unfold mulR;rw[h2 x,cL (g:=fun _=>0) fun i hi=>by rw[show cd (fun t=>dL (cN M _).1 i t*x t) n=0 from h i hi,bD],eC]
theorem jy(hM:fg n M){t:Nat}(hj:j<M.length):(t<n->dL (dJ M b) j t=dL M j t)∧dL (dJ M b) j n=b.getD j 0:=by
 have hr:=aB hj;have hl:(M[j]).length=n:=hM _ (aX hj);have e:(dJ M b).getD j []=M[j]++[b.getD j 0]:=by rw[dJ,List.getD,List.getElem?_mapIdx,hr];rfl
 have e2:M.getD j []=M[j]:=by rw[List.getD,hr];rfl
 refine⟨fun ht=>?_,?_⟩
 ·rw[dL,dL,e,e2,List.getD,aK (by omega),<-List.getD]
 ·rw[dL,e,List.getD,aN (by omega),hl,bH];rfl
def Ej(x:Nat->Rat)(n t:Nat):Rat:=if t<n then x t else -1
theorem Gf(hM:fg n M)(hj:j<M.length):mulR (dJ M b) (n+1) (Ej x n) j=mulR M n x j-b.getD j 0:=by
 have h:=fun t=>jy (b:=b) (t:=t) hM hj;unfold mulR;rw[cd,(h 0).2,show Ej x n n= -1 by unfold Ej;rw[aL (Nat.lt_irrefl n)],cL (g:=fun t=>dL M j t*x t) fun t ht=>by rw[(h t).1 ht];unfold Ej;rw[if_pos ht]];grind
def fD(M:List (List Rat))(b:List Rat)(n:Nat):Option (List Rat):=
 let e:=cN (dJ M b) n
 if ∀j,j<M.length->e.2.length<=j->dL e.1 j n=0 then some (fp e.1 e.2 n e.2.length)else none
theorem jz{x:List Rat}(hM:fg n M)(h:fD M b n=some x):x.length=n∧∀j,j<M.length->mulR M n (fun t=>x.getD t 0) j=b.getD j 0:=by
 unfold fD at h;dsimp only at h;split at h
 ·rename_i h0;injection h with h;have hW:=ga (b:=b) hM;obtain⟨r1,r2,r3,r4,r5⟩:=dx hW n (Nat.le_succ n);have Qy:=jA (dJ M b) n;have TQ:=eB (M:=M) (b:=b);have hl:=eQ (dJ M b) n;have PO:x.length=n:=by rw[<-h,jO]
  have Qz:∀j,j<(cN (dJ M b) n).2.length->x.getD ((cN (dJ M b) n).2.getD j 0) 0=dL (cN (dJ M b) n).1 j n:=fun j hj=>by
   rw[<-h];exact oH (F:=fp (cN (dJ M b) n).1 (cN (dJ M b) n).2 n) (f:=fun i=>dL (cN (dJ M b) n).1 i n) (fun i=>gQ _ _ n i) (jO _ _ n) Qy.2.1 r4 _ (aF _) hj
  have Qr:∀t,t∉(cN (dJ M b) n).2->x.getD t 0=0:=fun t ht=>by rw[<-h];exact tO ht
  refine⟨PO,fun j hj=>?_⟩;have key:=Ei (M:=dJ M b) (x:=Ej (fun t=>x.getD t 0) n) hW (c:=n) (Nat.le_succ n) (fun i hi=>?_) j (by rw[TQ];exact hj)
  ·rw[Gf hM hj]at key;grind
  ·unfold mulR;rw[cd,show Ej (fun t=>x.getD t 0) n n= -1 by unfold Ej;rw[aL (Nat.lt_irrefl n)],cL (g:=fun t=>dL (cN (dJ M b) n).1 i t*x.getD t 0) fun t ht=>by unfold Ej;rw[if_pos ht]];rcases aO i (cN (dJ M b) n).2.length with h1|h1
   ·rw[gE (i:=(cN (dJ M b) n).2.getD i 0) (r4 _ (by rw[List.getD,aB h1];exact aX _)) fun t ht OH=>?_,r5 i i h1 (by omega),if_pos rfl,Qz i h1]
    ·grind
    ·by_cases hp:t∈(cN (dJ M b) n).2
     ·obtain⟨k,hk,rfl⟩:=sM hp;rw[r5 k i hk (by omega),aL (fun e=>OH (by rw[e])),bL]
     ·rw[Qr t hp,bD]
   ·rw[cL (g:=fun _=>0) fun t ht=>by rw[r3 i t h1 (by omega) ht,bL],eC,h0 i (by rw[<-TQ];exact hi) h1];grind
 ·cases h
theorem sS(hM:fg n M)(h:fD M b n=none):∃y:Nat->Rat,(∀t,t<n->cd (fun j=>y j*dL M j t) M.length=0)∧cd (fun j=>y j*b.getD j 0) M.length≠0:=by
 unfold fD at h;dsimp only at h;split at h
 ·cases h
 ·rename_i h0;obtain⟨i,hi,h1,h2⟩:∃i,i<M.length∧(cN (dJ M b) n).2.length<=i∧dL (cN (dJ M b) n).1 i n≠0:=by
   refine Decidable.byContradiction fun R9=>h0 fun j hj hr=>Decidable.byContradiction fun h2=>R9 ⟨j,hj,hr,h2⟩
  have hW:=ga (b:=b) hM;have TQ:=eB (M:=M) (b:=b);have hl:=eQ (dJ M b) n;obtain⟨r1,r2,r3,r4,r5⟩:=dx hW n (Nat.le_succ n);obtain⟨y,hy⟩:=(lT hW n (Nat.le_succ n)).1 i (by omega);rw[TQ]at hy;refine⟨y,fun t ht=>?_,?_⟩
  ·have h3:=hy t (by omega);rw[r3 i t h1 (by omega) ht]at h3;rw[h3];exact cL fun j hj=>by rw[(jy (b:=b) hM hj).1 ht]
  ·have h3:=hy n (by omega);rw[cL (g:=fun j=>y j*b.getD j 0) fun j hj=>by rw[(jy (b:=b) (t:=n) hM hj).2]]at h3;rw[<-h3];exact h2
theorem kA{x:Nat->Rat}(hM:fg n M)(h:∀j,j<M.length->mulR M n x j=b.getD j 0):∃z,fD M b n=some z:=by
 cases e:fD M b n with
 |some z=>exact⟨z,rfl⟩
 |none=>
  obtain⟨y,h1,h2⟩:=sS hM e;refine absurd ?_ h2;rw[cL fun j hj=>by rw[<-h j hj,mulR,<-ek],p9,cL (g:=fun _=>0) fun t ht=>?_,eC];rw[cL (g:=fun j=>y j*dL M j t*x t) fun j _=>(Rat.mul_assoc _ _ _).symm,qj,h1 t ht,bL]
def Inj(M:List (List Rat))(n:Nat):Prop:=∀x:Nat->Rat,(∀j,j<M.length->mulR M n x j=0)->∀t,t<n->x t=0
theorem Ek(M:List (List Rat))(n:Nat)(x y:Nat->Rat)(j:Nat):mulR M n (fun t=>x t-y t) j=mulR M n x j-mulR M n y j:=by
 unfold mulR;rw[<-Ed];exact cL fun t _=>by grind
theorem Iq{x:List Rat}(hM:fg n M)(hi:Inj M n)(hx:x.length=n)(h:∀j,j<M.length->mulR M n (fun t=>x.getD t 0) j=b.getD j 0):fD M b n=some x:=by
 obtain⟨z,hz⟩:=kA hM h;obtain⟨h1,h2⟩:=jz hM hz;rw[hz];congr 1;refine fw 0 (by rw[h1,hx]) fun t ht=>?_;have:=hi (fun t=>z.getD t 0-x.getD t 0) (fun j hj=>by rw[Ek,h j hj,h2 j hj];grind) t (by omega);grind
theorem tV(M:List (List Rat))(b:List Rat):j5 M b=dJ M b:=rfl
theorem El{r i t:Nat}(h:i<r):dL (A.take r) i t=dL A i t:=by
 rw[dL,dL,show(A.take r).getD i []=A.getD i [] by rw[List.getD,bU h,<-List.getD]]
theorem wY(A:List (List Rat))(pv:List Nat)(n:Nat):∀k,k<=pv.length->fp (A.take pv.length) pv n k=fp A pv n k
 |0,_=>rfl
 |k+1,h=>by rw[gQ,gQ,wY A pv n k (by omega),El (by omega)]
theorem wZ(A:List (List Rat))(pv:List Nat)(n c:Nat):∀k,k<=pv.length->fZ (A.take pv.length) pv n c k=fZ A pv n c k
 |0,_=>rfl
 |k+1,h=>by rw[gP,gP,wZ A pv n c k (by omega),El (by omega)]
abbrev cS(M:List (List Rat))(n:Nat):List (List Rat):=dy (cN M n).1 (cN M n).2 n n
theorem zO(hM:fg n M)(hW:Bi M n B):kJ M n=cS M n:=by
 obtain⟨e1,e2⟩:=sQ hM hW;unfold kJ cS dy;rw[e1,e2];exact List.map_congr_left fun c _=>wZ _ _ n c _ (aF _)
theorem Bn(hM:fg n M)(hW:Bi (dJ M b) (n+1) B):jK M b n=fD M b n:=by
 have hWl:=ga (b:=b) hM;obtain⟨e1,e2⟩:=sQ hWl hW;have hl:=eQ (dJ M b) n;have TQ:=eB (M:=M) (b:=b);obtain⟨r1,r2,r3,r4,r5⟩:=dx hWl n (Nat.le_succ n);have e:cN (dJ M b) (n+1)=da (cN (dJ M b) n) n:=by
  unfold cN;rw[bT,List.foldl_append];rfl
 unfold jK fD;dsimp only
 rcases kT n r2 with⟨k1,k2⟩|⟨k,k1,k2,k3,k4⟩
 ·rw[aL (by rw[tV,e1,e,k1];exact fun h=>by have:=r4 n h;omega),if_pos fun j hj hr=>k2 j hr (by omega),tV,e1,e2,e,k1,wY _ _ n _ (aF _)]
 ·rw[if_pos (by rw[tV,e1,e,k4];simp),aL fun h=>k3 (h k (by omega) k1)]
theorem KO(hM:fg n M){x:List Rat}(h:∀j,j<M.length->mulR M n (fun t=>x.getD t 0) j=0):Diff (cN M n).1 (cN M n).2 n x:=by
 obtain⟨r1,r2,r3,r4,r5⟩:=dx hM n (aF _);have Qy:=jA M n;have hl:=eQ M n;refine⟨Qy.2.1,r4,r2,r5,fun j hj=>?_⟩;rw[<-Bk];have h1:=KN hM h (aF n) j (by omega);unfold mulR at h1;rw[h1,dL,List.getD,List.getElem?_eq_none (by rw[r1.getD hj];exact aF _)];rfl
theorem nQ(M:List (List Rat))(n:Nat):(cS M n).length=(jH (cN M n).2 n).length:=by unfold cS dy;rw[aJ]
theorem zP(M:List (List Rat))(n:Nat){k:Nat}(hk:k<(cS M n).length):(cS M n).getD k []=fZ (cN M n).1 (cN M n).2 n ((jH (cN M n).2 n).getD k 0) (cN M n).2.length:=by
 obtain⟨r,hr⟩:∃r,(cS M n)[k]? =some r:=⟨_,aB hk⟩
 rw[List.getD,hr];exact(oI hr).2
theorem ic(M:List (List Rat))(n:Nat):fg n (cS M n):=fun r hr=>by
 obtain⟨k,hk⟩:=aS hr;rw[(oI hk).2,kH]
theorem zQ(hM:fg n M){k:Nat}(hk:k<(cS M n).length):∀j,j<M.length->mulR M n (dL (cS M n) k) j=0:=by
 obtain⟨r1,r2,r3,r4,r5⟩:=dx hM n (aF _);have Qy:=jA M n;have hl:=eQ M n;have hf:=lS.1 (p8 (by rw[<-nQ];exact hk));refine Ei hM (aF n) fun i hi=>?_;have OG:=zP M n hk;generalize hc:(jH (cN M n).2 n).getD k 0=c at hf OG;have Qz:∀j,j<(cN M n).2.length->dL (cS M n) k ((cN M n).2.getD j 0)= -(dL (cN M n).1 j c):=fun j hj=>by
  rw[dL,OG];exact oH (F:=fZ (cN M n).1 (cN M n).2 n c) (f:=fun i=> -(dL (cN M n).1 i c)) (fun i=>gP _ _ n c i) (kH _ _ n c) Qy.2.1 r4 _ (aF _) hj
 have Qr:∀t,t∉(cN M n).2->dL (cS M n) k t=if t=c then 1 else 0:=fun t ht=>by rw[dL,OG];exact pZ ht hf.1
 unfold mulR;rcases aO i (cN M n).2.length with h1|h1
 ·have UM:(cN M n).2.getD i 0∈(cN M n).2:=by rw[List.getD,aB h1];exact aX _
  have OH:(cN M n).2.getD i 0≠c:=fun e=>hf.2 (e▸UM);have e:cd (fun t=>dL (cN M n).1 i t*dL (cS M n) k t) n=cd (fun t=>(if t=(cN M n).2.getD i 0 then -(dL (cN M n).1 i c)else 0)+(if t=c then dL (cN M n).1 i c else 0)) n:=by
   refine cL fun t ht=>?_;by_cases hp:t∈(cN M n).2
   ·obtain⟨j,hj,rfl⟩:=sM hp;rw[Qz j hj,r5 j i hj (by omega),aL (show ¬(cN M n).2.getD j 0=c from fun e=>hf.2 (e▸hp)),bX];by_cases Pm:i=j
    ·rw[if_pos Pm,if_pos (by rw[Pm]),Pm,bu]
    ·have hne2:(cN M n).2.getD j 0≠(cN M n).2.getD i 0:=fun e2=>Pm (by
      rcases bq i j with h5|h5|h5
      ·have:(cN M n).2.getD i 0<(cN M n).2.getD j 0:=Jy Qy.2.1 h5 hj;omega
      ·exact h5
      ·have:(cN M n).2.getD j 0<(cN M n).2.getD i 0:=Jy Qy.2.1 h5 h1
       omega)
     rw[aL Pm,aL hne2,bL]
   ·rw[Qr t hp,aL (show ¬t=(cN M n).2.getD i 0 from fun e2=>hp (e2▸UM)),Rat.zero_add];by_cases htc:t=c
    ·rw[if_pos htc,if_pos htc,htc,Rat.mul_one]
    ·rw[aL htc,aL htc,bD]
  rw[e,gj,gE (i:=(cN M n).2.getD i 0) (r4 _ UM) fun t _ OH=>aL OH,gE (i:=c) hf.1 fun t _ OH=>aL OH,if_pos rfl,if_pos rfl];grind
 ·rw[cL (g:=fun _=>0) fun t ht=>by rw[r3 i t h1 (by omega) ht,bL],eC]
theorem Hn(hM:fg n M)(h:∀j,j<M.length->mulR M n x j=0):∃c:Nat->Rat,∀t,t<n->x t=cd (fun k=>c k*dL (cS M n) k t) (cS M n).length:=by
 obtain⟨l,hl⟩:∃l,l=(List.range n).map x:=⟨_,rfl⟩
 have hx:∀t,t<n->l.getD t 0=x t:=fun t ht=>by rw[hl,List.getD,aM,bp ht];rfl
 have hd:=KO (x:=l) hM fun j hj=>Eq.trans (cL fun t ht=>congrArg (dL M j t* ·) (hx t ht)) (h j hj);refine⟨fun k=>l.getD ((jH (cN M n).2 n).getD k 0) 0,fun t ht=>?_⟩;have h1:=hd.rest ht;obtain⟨r1,r2,r3,r4,r5⟩:=dx hM n (aF _);have h0:(fp (cN M n).1 (cN M n).2 n (cN M n).2.length).getD t 0=0:=by
  by_cases hp:t∈(cN M n).2
  ·obtain⟨j,hj,rfl⟩:=sM hp;rw[hd.xin hj,dL,List.getD,List.getElem?_eq_none (by rw[r1.getD (by omega)];exact aF _)];rfl
  ·exact tO hp
 rw[h0,bL,bX,hx t ht,Bm]at h1;rw[h1,nQ];exact cL fun k hk=>by rw[dL,zP M n (by rw[nQ];exact hk)]
theorem MM{c:Nat->Rat}(h:∀t,t<n->cd (fun k=>c k*dL (cS M n) k t) (cS M n).length=0):∀k,k<(cS M n).length->c k=0:=fun k hk=>by
 have VN:k<(jH (cN M n).2 n).length:=by rw[<-nQ];exact hk
 have hf:=lS.1 (p8 VN);have h1:=h _ hf.1;obtain⟨r,hr⟩:∃r,(cS M n)[k]? =some r:=⟨_,aB hk⟩
 rw[gE hk fun i hi OH=>?_]at h1
 ·rw[dL,show(cS M n).getD k []=r by rw[List.getD,hr];rfl,zB hr hr,if_pos rfl,Rat.mul_one]at h1;exact h1
 ·obtain⟨s,hs⟩:∃s,(cS M n)[i]? =some s:=⟨_,aB hi⟩
  rw[dL,show(cS M n).getD i []=s by rw[List.getD,hs];rfl,zB hr hs,aL OH,bD]
end
theorem zR(p:Nat->Bool):∀l:List Nat,l.length=(l.filter p).length+(l.filter fun c=> !p c).length
 |[]=>rfl
 |c::l=>by
  have ih:=zR p l;rw[List.filter_cons,List.filter_cons]
  cases p c with
  |true=>simp;omega
  |false=>simp;omega
theorem KP{n:Nat}(hn:pv.Nodup)(hl:∀p∈pv,p<n):(jH pv n).length=n-pv.length:=by
 have h1:(List.range n).length=((List.range n).filter fun c=>decide (c∉pv)).length+((List.range n).filter fun c=>decide (c∈pv)).length:=by
  refine(zR (fun c=>decide (c∉pv)) (List.range n)).trans ?_;congr 2;refine List.filter_congr fun c _=>?_;by_cases h:c∈pv<;>simp[h]
 have h2:((List.range n).filter fun c=>decide (c∈pv)).length=pv.length:=by
  refine(List.Perm.length_eq ?_);refine(List.perm_ext_iff_of_nodup (List.Pairwise.filter _ List.nodup_range) hn).2 fun c=>?_;rw[List.mem_filter,List.mem_range,decide_eq_true_eq];exact⟨fun h=>h.2,fun h=>⟨hl c h,h⟩⟩
 rw[List.length_range]at h1;unfold jH;omega
theorem Gg{n:Nat}(hM:fg n M):(cS M n).length=n-(cN M n).2.length:=by
 obtain⟨r1,r2,r3,r4,r5⟩:=dx hM n (aF _);have Qy:=jA M n;rw[nQ];exact KP (Qy.2.1.imp fun h=>Nat.ne_of_lt h) r4
end Go.Ex
namespace Go.Ex
open Go Go.Sx Go.Proofs
variable{after:Array Edge}{z:Int}{p:Int×Int×Rat}{M:List (List Rat)}{css:List (List Value)}{l:List Int}{cs:List Value}{i j:Nat}{C S S':Nat->Prop}{guard:Option (Nat×Bool)}{a:Option Addr}{dst:Option Tmp}{K:SV->Hp->Nat->Iv->World->Prop}{v:Value}{w w2:World}{f:eh}
theorem cQ.nil:cQ w S (.slice none 0 0) []:=⟨[],⟨by decide,rfl,fun u hu=>absurd hu (by simp),none,0,rfl,aF _,fun j u hu=>absurd hu (by simp)⟩,rfl,fun i u x h1 h2=>absurd h2 (by simp)⟩
theorem Di(M:List (List Rat)):kJ M 0=[]:=by simp[kJ,dy]
set_option maxHeartbeats 1000000 in
theorem Fk(hC:Old C w)(hS:Old S w)(hM:ke w C S v M)(hlen:fg 0 M)(hR:M.length<=1000):
  di PG N.il #[.agg #[v,.int .i64 0],.int .i64 0] w (dw w fun v' w2=>v'= .agg #[.slice none 0 0,.int .i64 0,.slice none 0 0,.slice none 0 0]):=by
 have hw:=bR w;obtain⟨am,cm,rfl,Rb,RD⟩:=ke.shape hM;unfold maxLen at RD;refine j7 (by simp) ?_;refine⟨0,0,rfl,rfl,aF _,by omega,by omega,World,fun z=>⟨[(1,iZ 0),(2,pP 0 0),(4,pP 1 0),(5,pP 2 0),(6,.o (.s 3 0 0 0)),(27,iZ 0),(28,iZ 0)],[(3,.arr T.int []),(2,.box T.dU [.v (.slice none 0 0),.v (.int .i64 0),.v (.slice none 0 0),.v (.slice none 0 0)]),(1,.box T.dU [.v (.slice none 0 0),.v (.int .i64 0),.v (.slice none 0 0),.v (.slice none 0 0)]),(0,.box T.dc [.v (.slice am M.length cm),.v (.int .i64 0)])],4,[],z⟩,fun z=>0,fun z=>dm w.heap.size w z,?_,?_⟩
 ·intro O w' r3;exact⟨w',hw.tr r3.cP,Sub.gn [] r3⟩
 rintro w1 hw;dsimp only at hw ⊢
 refine⟨Nat×World,fun z=>⟨[(38,iN z.1),(1,iZ 0),(2,pP 0 0),(4,pP 1 0),(5,pP 2 0),(6,.o (.s 3 0 0 0)),(36,sV am M.length cm),(37,iZ M.length)],[(3,.arr T.int []),(2,.box T.dU [.v (.slice none 0 0),.v (.int .i64 0),.v (.slice none 0 0),.v (.slice none 0 0)]),(1,.box T.dU [.v (.slice none 0 0),.v (.int .i64 0),.v (.slice none 0 0),.v (.slice none 0 0)]),(0,.box T.dc [.v (.slice am M.length cm),.v (.int .i64 0)])],5,[],z.2⟩,fun z=>M.length-z.1,
  fun z=>z.1<=M.length∧dm w.heap.size w z.2,?_,?_⟩
 ·intro O w' r3;exact⟨(0,w'),⟨aP _,hw.tr r3.cP⟩,Sub.gn [] r3⟩
 rintro⟨i,w1⟩ ⟨hi,hw⟩;dsimp only at hi hw ⊢;refine dM.mk ?_ ?_<;>intro OF
 ·have OF:i<M.length:=by simpa using OF
  obtain⟨x,hx⟩:∃r,M[i]? =some r:=⟨_,aB OF⟩
  have PO:=hlen x (aC hx);obtain rfl:=List.eq_nil_of_length_eq_zero PO;obtain⟨adm,um,Qs,PK,km1,km2⟩:=ke.load hM hx;obtain⟨css,⟨-,g1,g2,a0,c0,rfl,g4,g5⟩,PV,Qt,Ov⟩:=PK;obtain rfl:=List.eq_nil_of_length_eq_zero PV;refine⟨adm,Qs,by omega,.slice a0 0 c0,rd1 km2 hw (hC _ km1),?_⟩;refine .inl ?_;refine⟨[],rfl,g2,fun O w' r Ot=>absurd Ot (by simp),rfl,by omega,by unfold maxLen;omega,World,fun z=>⟨[(9,.o (.w 6 0)),(46,iZ 0),(47,iZ 0),(2,pP 0 0),(4,pP 1 0),(5,pP 2 0),(6,.o (.s 3 0 0 0)),(8,iN i),(36,sV am M.length cm),(37,iZ M.length),(38,iN i),(1,iZ 0)],[(6,.vec T.Rat 4 []),(3,.arr T.int []),(2,.box T.dU [.v (.slice none 0 0),.v (.int .i64 0),.v (.slice none 0 0),.v (.slice none 0 0)]),(1,.box T.dU [.v (.slice none 0 0),.v (.int .i64 0),.v (.slice none 0 0),.v (.slice none 0 0)]),(0,.box T.dc [.v (.slice am M.length cm),.v (.int .i64 0)])],7,[],z⟩,fun z=>0,fun z=>dm w.heap.size w z,?_,?_⟩
  ·intro O w' r3;exact⟨w',hw.tr r3.cP,Sub.gn [] r3⟩
  rintro w1 hw;dsimp only at hw ⊢;refine⟨World,fun z=>⟨[(9,.o (.w 6 0)),(12,iZ 0),(2,pP 0 0),(4,pP 1 0),(5,pP 2 0),(6,.o (.s 3 0 0 0)),(8,iN i),(36,sV am M.length cm),(37,iZ M.length),(38,iN i),(1,iZ 0)],[(6,.vec T.Rat 4 []),(3,.arr T.int []),(2,.box T.dU [.v (.slice none 0 0),.v (.int .i64 0),.v (.slice none 0 0),.v (.slice none 0 0)]),(1,.box T.dU [.v (.slice none 0 0),.v (.int .i64 0),.v (.slice none 0 0),.v (.slice none 0 0)]),(0,.box T.dc [.v (.slice am M.length cm),.v (.int .i64 0)])],7,[],z⟩,fun z=>0,fun z=>dm w.heap.size w z,?_,?_⟩
  ·intro O w' r3;exact⟨w',hw.tr r3.cP,Sub.gn [] r3⟩
  rintro w1 hw;dsimp only at hw ⊢;refine⟨((i+1:Nat):Int),wo,?_⟩;intro ρ3 w3 r3;exact⟨(i+1,w3),⟨OF,hw.tr r3.cP⟩,Sub.gn [] r3,by dsimp only;omega⟩
 refine⟨World,fun z=>⟨[(4,pP 1 0),(5,pP 2 0),(17,pP 5 0),(159,.o (.s 3 0 0 0)),(160,iZ 0),(161,iZ 0)],[(5,.box T.dU [.v (.slice none 0 0),.v (.int .i64 0),.v (.slice none 0 0),.v (.slice none 0 0)]),(3,.arr T.int []),(2,.box T.dU [.v (.slice none 0 0),.v (.int .i64 0),.v (.slice none 0 0),.v (.slice none 0 0)]),(1,.box T.dU [.v (.slice none 0 0),.v (.int .i64 0),.v (.slice none 0 0),.v (.slice none 0 0)]),(0,.box T.dc [.v (.slice am M.length cm),.v (.int .i64 0)])],6,[],z⟩,fun z=>0,fun z=>dm w.heap.size w z,?_,?_⟩
 ·intro O w' r3;exact⟨w',hw.tr r3.cP,Sub.gn [] r3⟩
 rintro w1 hw;dsimp only at hw ⊢;exact rtn hw fun ρe we re=>rfl
set_option maxHeartbeats 1000000 in
theorem HS(hC:Old C w)(hS:Old S w)(hM:ke w C S v M)(hlen:fg 0 M)(hR:M.length<=1000):
  di PG N.gS #[.agg #[v,.int .i64 0]] w (dw w fun v' w2=>cQ w2 (Nf w w2) v' (kJ M 0)):=by
 have hw:=bR w;obtain⟨am,cm,rfl,Rb,RD⟩:=ke.shape hM;unfold maxLen at RD;refine j8 (by simp) ?_
 refine cC (cM (Φ:=fun _ w' v w2=>v= .agg #[.slice none 0 0,.int .i64 0,.slice none 0 0,.slice none 0 0]) (fun O w' r=>by
  obtain⟨rv,m1,m2,m3⟩:=hM
  exact Fk (C:=C) (S:=S) (oS hC r) (oS hS r) ⟨rv,m1.cH fun g hg=>(hw.tr r.cP).block g (hC g hg),m2,fun i u x h1 h2=>cJ.cH (m3 i u x h1 h2) fun g hg=>(hw.tr r.cP).block g (hS g hg)⟩ hlen hR) ?_)
 rintro O Pq v1 Pe r he Of rfl;replace hw:=hw.tr Of;generalize (Pq.heap.size,Pe.heap.size)::[]=OM at*
 refine⟨0,0,rfl,rfl,aF _,by omega,by omega,World×Iv,fun z=>⟨[(1,pP 0 0),(3,pP 1 0),(4,.o (.s 2 0 0 0)),(20,sV none 0 0),(21,iZ 0),(22,iZ 0)],[(2,.arr T.bool []),(1,.box T.dU [.v (.slice none 0 0),.v (.int .i64 0),.v (.slice none 0 0),.v (.slice none 0 0)]),(0,.box T.dc [.v (.slice am M.length cm),.v (.int .i64 0)])],3,z.2,z.1⟩,fun z=>0,fun z=>dm w.heap.size w z.1,?_,?_⟩
 ·intro O w' r3;exact⟨(w',_),hw.tr r3.cP,Sub.gn [] r3⟩
 rintro⟨w1,iv⟩ hw;dsimp only at hw ⊢;refine⟨World×Iv,fun z=>⟨[(32,iZ 0),(7,sV none 0 0),(1,pP 0 0),(3,pP 1 0),(4,.o (.s 2 0 0 0)),(31,iZ 0)],[(2,.arr T.bool []),(1,.box T.dU [.v (.slice none 0 0),.v (.int .i64 0),.v (.slice none 0 0),.v (.slice none 0 0)]),(0,.box T.dc [.v (.slice am M.length cm),.v (.int .i64 0)])],3,z.2,z.1⟩,fun z=>0,fun z=>dm w.heap.size w z.1,?_,?_⟩
 ·intro O w' r3;exact⟨(w',_),hw.tr r3.cP,Sub.gn [] r3⟩
 rintro⟨w1,iv⟩ hw;dsimp only at hw ⊢;intro ρe we re;rw[Di];exact⟨_,rfl,hw.tr re.cP,cQ.nil⟩
theorem Ab{n h:Nat}(hC:Old C w)(hS:Old S w)(hM:ke w C S v M)(hlen:fg n M)(hR:M.length<=1000)(hn:n<=1000)(hB:uQ M n h)(hAb:Ht (dX M n).1 h)(hh:3*h<=90000):
  di PG N.gS #[.agg #[v,.int .i64 n]] w (dw w fun v' w2=>cQ w2 (Nf w w2) v' (kJ M n)):=by
 rcases bK n with h0|h0
 ·subst h0;exact HS hC hS hM hlen hR
 ·exact CK hC hS hM hlen h0 hn hR hB hAb hh
theorem vz{k:Nat}(h:∀cs∈css,cs.length=k):css.flatten.length=css.length*k:=by
 induction css with
 |nil=>simp
 |cons c r ih=>rw[List.flatten_cons,List.length_append,h c aG,ih fun x hx=>h x (List.mem_cons_of_mem _ hx),List.length_cons,Nat.succ_mul];omega
theorem wA{k:Nat}(h:∀cs∈css,cs.length=k)(hj:css[j]? =some cs)(i:Nat)(u:Value)(hu:cs[i]? =some u):css.flatten[j*k+i]? =some u:=by
 induction css generalizing j with
 |nil=>cases hj
 |cons c r ih=>
  have hc:=h c aG;have hi:=(aD.1 hu).1
  cases j with
  |zero=>
   injection hj with hj;subst hj;rw[List.flatten_cons,Nat.zero_mul,aR,aK hi];exact hu
  |succ j=>
   rw[List.flatten_cons,aN (by rw[hc,Nat.succ_mul];omega),hc,show(j+1)*k+i-k=j*k+i by rw[Nat.succ_mul];omega];exact ih (fun x hx=>h x (List.mem_cons_of_mem _ hx)) hj
def eX{α:Type}(k:Nat)(P:World->(Nat->Prop)->List Value->α->Prop)(w:World)(S:Nat->Prop)(v:Value)(xs:List α):Prop:=
 ∃css:List (List Value),iM w S k v css.flatten xs.length∧css.length=xs.length∧(∀cs∈css,cs.length=k)∧∀(j:Nat) cs x,css[j]? =some cs->xs[j]? =some x->P w S cs x
section
variable{α:Type}{k:Nat}{P:World->(Nat->Prop)->List Value->α->Prop}{w w2:World}{S S':Nat->Prop}{v:Value}{xs:List α}
theorem eX.cH(hP:∀cs x,P w S cs x->P w2 S cs x)(h:eX k P w S v xs)(hk:∀g,S g->w2.heap[g]? =w.heap[g]?):eX k P w2 S v xs:=by
 obtain⟨css,h1,h2,h3,h4⟩:=h;exact⟨css,h1.cH hk,h2,h3,fun j cs x k1 k2=>hP cs x (h4 j cs x k1 k2)⟩
theorem eX.cI(hP:∀cs x,P w S cs x->P w S' cs x)(h:eX k P w S v xs)(hk:∀g,S g->S' g):eX k P w S' v xs:=by
 obtain⟨css,h1,h2,h3,h4⟩:=h;exact⟨css,h1.cI hk,h2,h3,fun j cs x k1 k2=>hP cs x (h4 j cs x k1 k2)⟩
theorem eX.shape(h:eX k P w S v xs):∃a c,v= .slice a xs.length c∧xs.length<=c∧xs.length<=maxLen:=by
 obtain⟨css,⟨h0,_,_,a,c,h1,h2,_⟩,_⟩:=h;exact⟨a,c,h1,h2,h0⟩
theorem eX.load{m c:Nat}{x:α}(hk:0<k)(h:eX k P w S (.slice a m c) xs)(hq:xs[j]? =some x):
  ∃ad cs,a=some ad∧P w S cs x∧cs.length=k∧∀i u,cs[i]? =some u->S ad.block∧w.cell? ((ad.add (j*k)).add i)=some u:=by
 obtain⟨css,⟨h0,h1,h2,a',c',e,h3,h4⟩,hl,hl4,hf⟩:=h;injection e with e1 e2 e3;subst e1;obtain⟨cs,Ov⟩:∃cs,css[j]? =some cs:=⟨_,aB (by rw[hl];exact(aD.1 hq).1)⟩
 have hl:=hl4 cs (aC Ov);obtain⟨ad,k1,k2,k3⟩:=h4 (j*k+0) _ (wA hl4 Ov 0 _ (aB (show 0<cs.length by omega)));refine⟨ad,cs,k1,hf j cs x Ov hq,hl,fun i u hu=>?_⟩;obtain⟨ad2,m1,m2,m3⟩:=h4 (j*k+i) u (wA hl4 Ov i u hu);rw[k1]at m1;injection m1 with m1;subst m1;refine⟨m2,?_⟩;rw[<-m3];have:(ad.add (j*k)).add i=ad.add (j*k+i):=by
  unfold Addr.add;split<;>split<;>simp_all<;>omega
 rw[this]
end
def IG(_w:World)(_S:Nat->Prop)(cs:List Value)(p:Int×Int×Int):Prop:=cs=[.int .i64 p.1,.int .i64 p.2.1,.int .i64 p.2.2]
def IH(_w:World)(_S:Nat->Prop)(cs:List Value)(p:Ld):Prop:=cs=[.int .i64 p.1,.int .i64 p.2.1,.int .i64 p.2.2.1,.int .i64 p.2.2.2]
def D4(w:World)(S:Nat->Prop)(cs:List Value)(p:Int×Int×Rat):Prop:=∃b a n c b2 a2 n2 c2,cs=[.int .i64 p.1,.int .i64 p.2.1,.bool b,.slice a n c,.bool b2,.slice a2 n2 c2]∧eM w S (.agg #[.bool b,.slice a n c,.bool b2,.slice a2 n2 c2]) p.2.2
theorem D4.cH(h:D4 w S cs p)(hk:∀g,S g->w2.heap[g]? =w.heap[g]?):D4 w2 S cs p:=by
 obtain⟨b,a,n,c,b2,a2,n2,c2,h1,h2⟩:=h;exact⟨b,a,n,c,b2,a2,n2,c2,h1,h2.cH hk⟩
theorem D4.cI(h:D4 w S cs p)(hk:∀g,S g->S' g):D4 w S' cs p:=by
 obtain⟨b,a,n,c,b2,a2,n2,c2,h1,h2⟩:=h;exact⟨b,a,n,c,b2,a2,n2,c2,h1,h2.cI hk⟩
abbrev nD:=eX 3 IG
abbrev ff:=eX 4 IH
abbrev Kz:=eX 6 D4
structure dS(w:World)(S:Nat->Prop)(vn vb vs:Value)(f:eh):Prop where
 nodes:nD w S vn f.nodes
 bars:Kz w S vb f.bars
 cV:Kz w S vs f.cV
section
variable{S S':Nat->Prop}{H:Hp}{nx:Nat}{iv iv':Iv}{B:Nat}{w w' w2:World}{O:Nat->Sx.dg}{v vn vb vs:Value}{f:eh}{l:List Ld}
theorem ff.cH(h:ff w S v l)(hk:∀g,S g->w2.heap[g]? =w.heap[g]?):ff w2 S v l:=eX.cH (w:=w) (fun _ _ h=>h) h hk
theorem ff.cI(h:ff w S v l)(hk:∀g,S g->S' g):ff w S' v l:=eX.cI (S:=S) (fun _ _ h=>h) h hk
theorem dS.cH(h:dS w S vn vb vs f)(hk:∀g,S g->w2.heap[g]? =w.heap[g]?):dS w2 S vn vb vs f:=
 ⟨eX.cH (w:=w) (fun _ _ h=>h) h.nodes hk,eX.cH (fun _ _ h=>h.cH hk) h.bars hk,eX.cH (fun _ _ h=>h.cH hk) h.cV hk⟩
theorem dS.cI(h:dS w S vn vb vs f)(hk:∀g,S g->S' g):dS w S' vn vb vs f:=
 ⟨eX.cI (S:=S) (fun _ _ h=>h) h.nodes hk,eX.cI (fun _ _ h=>h.cI hk) h.bars hk,eX.cI (fun _ _ h=>h.cI hk) h.cV hk⟩
theorem dS.rel(h:dS w (Cv S B iv) vn vb vs f)(r:Rel H nx iv B w O w')(hS:∀g,S g->g<B):dS w' (Cv S B iv) vn vb vs f:=h.cH fun _ hg=>Rel.same r hS hg
theorem dS.shape(h:dS w S vn vb vs f):∃an cn ab cb aq cs,vn= .slice an f.nodes.length cn∧vb= .slice ab f.bars.length cb∧vs= .slice aq f.cV.length cs∧f.nodes.length<=maxLen∧f.bars.length<=maxLen∧f.cV.length<=maxLen:=by
 obtain⟨an,cn,h1,_,h2⟩:=h.nodes.shape;obtain⟨ab,cb,h3,_,h4⟩:=h.bars.shape;obtain⟨aq,cs,h5,_,h6⟩:=h.cV.shape;exact⟨an,cn,ab,cb,aq,cs,h1,h3,h5,h2,h4,h6⟩
end
theorem AV{P:Program}{τ:nH}{B nx:Nat}{l:Env}{H:Hp}{iv:Iv}(hτ:fJ P τ){t ty len e sz by_:Nat}{ag:Bool}{ze ze2:List Value}{ik ik2:IntKind}{b2 tag2 al2 e0:Nat}{fs fs2:List (Nat×Nat)}{x i:Operand}{pos:String}{vx:SV}{cs:Array Value}{k:IntKind}{m:Int}{u:Value}
  (ht:τ t=some ⟨sz,ag,by_,ze,6,ik,e,len,fs⟩) (PM:τ e=some ⟨1,false,b2,ze2,tag2,ik2,e0,al2,fs2⟩) (hx:ev l x=some vx) (UD:∀O,vx.den O= .agg cs) (hi:ev l i=some (.o (.v (.int k m)))) (hm:0<=m∧m<len) (hc:cs[m.toNat]? =some u)
  (hK:∀O w',Rel H nx iv B w O w'->K (.o (.v u)) H nx iv w'):yb P B ⟨dst,.index t x i,ty,pos,after,guard⟩ l H nx iv w K:=by
 have hto:=(hτ t _ ht).i6 rfl;have Rg:=hτ e _ PM;refine GV hto (fun w=>Rg.sizeOf w) (fun w j v hv=>?_) hx UD hi hm hc hK;simp[part,Rg.isAgg,hv]
structure gv(w:World)(B:Nat)(iv:Iv)(rv:List Value)(n:Nat)(M:List (List Int)):Prop where
 len:rv.length=M.length
 wid:∀l∈M,l.length=n
 row:∀(i:Nat) v l,rv[i]? =some v->M[i]? =some l->w.ownsRow 0 T.int 1 v n (l.map fun z=>.int .i64 z)
 GJ:∀(i j:Nat) a b g,rv[i]? =some a->rv[j]? =some b->a.ownBlock=some g->b.ownBlock=some g->i=j
 new:∀g,Ob rv g->Cv FF B iv g
section
variable{H:Hp}{nx n:Nat}{iv iv':Iv}{B:Nat}{w w' w2:World}{O:Nat->Sx.dg}{rv:List Value}{M:List (List Int)}
theorem gv.nil:gv w B iv [] n []:=⟨rfl,fun l h=>(by cases h),fun i v l h=>(by cases h),fun i j a b g h=>(by cases h),fun g ⟨v,hv,_⟩=>by cases hv⟩
theorem gv.cH(h:gv w B iv rv n M)(hk:∀g,Cv FF B iv g->w2.heap[g]? =w.heap[g]?):gv w2 B iv rv n M:=
 ⟨h.len,h.wid,fun i v l h1 h2=>ownsRow.cH (h.row i v l h1 h2) fun g hg=>hk g (h.new g ⟨v,aC h1,hg⟩),h.GJ,h.new⟩
theorem gv.rel(h:gv w B iv rv n M)(r:Rel H nx iv B w O w'):gv w' B iv rv n M:=h.cH fun _ hg=>Rel.same r (gV B) hg
theorem gv.mono(h:gv w B iv rv n M)(hm:∀p,p∈iv->p∈iv'):gv w B iv' rv n M:=⟨h.len,h.wid,h.row,h.GJ,fun g hg=>(h.new g hg).mono hm⟩
theorem gv.cF(h:gv w B iv rv n M)(r:Rel H nx iv B w O w')(he:Ext w' w2)(hm:∀p,p∈iv->p∈iv'):gv w2 B iv' rv n M:=
 ((h.rel r).cH fun g hg=>he.block g (Rel.old r (gV B) g hg)).mono hm
theorem gv.form(hM:gv w B iv rv n M)(hv:rv[i]? =some v):∃a c,v= .slice a n c:=by
 obtain⟨l,hl⟩:∃l,M[i]? =some l:=⟨_,aB (by rw[<-hM.len];exact(aD.1 hv).1)⟩
 obtain⟨a,c,h,_⟩:=jk (hM.row i v l hv hl);exact⟨a,c,h⟩
theorem gv.one(hM:gv w B iv rv n M):∀u∈rv,u.oneCell'=true:=fun u hu=>by
 obtain⟨i,hi⟩:=aS hu;obtain⟨a,c,rfl⟩:=hM.form hi;rfl
theorem gv.load(hM:gv w B iv rv n M){k:Nat}{c:Nat}(hv:rv[i]? =some (.slice a n c))(hl:M[i]? =some l)(hk:l[k]? =some z):
  ∃ad,a=some ad∧Cv FF B iv ad.block∧w.cell? (ad.add (k*1))=some (.int .i64 z):=by
 have h:=hM.row i _ l hv hl;have hlen:=hM.wid l (aC hl);rcases h.2 with⟨_,h0⟩|⟨g,cap,cur,e,_⟩
 ·have:=(aD.1 hk).1;omega
 ·injection e with e;refine⟨⟨g,0,none⟩,e,hM.new g ⟨_,aC hv,by rw[e];rfl⟩,?_⟩;have:=h.cells (g:=g) (by rw[e];rfl) k (.int .i64 z) (by rw[aM,hk];rfl);rw[aT];exact this
theorem gv.store(hM:gv w B iv rv n M)(r:Rel H nx iv B w O w'){k:Nat}{c:Nat}(hv:rv[i]? =some (.slice a n c))(hl:M[i]? =some l)(hk:k<n):
  ∃g,a=some ⟨g,0,none⟩∧((⟨g,0,none⟩:Addr).add ((k:Int).toNat*1)).spot=none∧
   (∀j,j<1->(w'.cell? (((⟨g,0,none⟩:Addr).add ((k:Int).toNat*1)).add j)).isSome=true∧w'.frozen? (((⟨g,0,none⟩:Addr).add ((k:Int).toNat*1)).add j)=false)∧
   (∀id b,dC H id=some b->(O id).nil=false->(O id).g≠((⟨g,0,none⟩:Addr).add ((k:Int).toNat*1)).block)∧
   ∀w2,w2=setCells w' ((⟨g,0,none⟩:Addr).add ((k:Int).toNat*1)) [.int .i64 z]->gv w2 B iv rv n (M.set i (l.set k z))∧dm B w' w2∧Rel H nx iv B w2 O w2∧w'.grownBy w2 (some g)∧Ob rv g:=by
 have Uy:=hM.rel r;have h1:=Uy.row i _ l hv hl;have hlen:=hM.wid l (aC hl);obtain⟨g,rfl,OI,QD,PW,OX⟩:=pV (nv:=[.int .i64 z]) h1 rfl hk rfl (by decide);have RF:Ob rv g:=⟨_,aC hv,rfl⟩
 have OW:(⟨g,0,none⟩:Addr).add ((k:Int).toNat*1)=⟨g,k*1,none⟩:=by rw[aE,dW,aR]
 have Qc:=Rel.not r (gV B) (hM.new g RF);refine⟨g,rfl,by rw[OW],fun j hj=>by rw[OW];exact OI j hj,fun id b hb hn=>by rw[OW];exact Qc id b hb hn,fun w2 PE=>?_⟩;rw[OW]at PE;subst PE;refine⟨⟨by rw[bE];exact hM.len,fun x hx=>?_,fun j v l2 h3 h4=>?_,hM.GJ,hM.new⟩,dm.grown PW (fun x e=>by injection e with e;subst e;exact(hM.new g RF).elim (fun h=>h.elim) fun h=>h.1) r.cD,r.yd Qc PW,PW,RF⟩
 ·rcases bJ hx with hx|rfl
  ·exact hM.wid x hx
  ·rw[bE];exact hlen
 ·by_cases Pm:i=j
  ·subst Pm;rw[hv]at h3;injection h3 with h3;subst h3;rw[aV (by rw[<-hM.len];exact(aD.1 hv).1)]at h4;injection h4 with h4;subst h4;rw[List.map_set,<-fu (by rw[aJ];omega)];simp only[aT]at QD ⊢;exact QD
  ·rw[aY Pm]at h4;refine ownsRow.cH (Uy.row j v l2 h3 h4) fun x hx=>PW.block x ?_ fun e=>?_
   ·exact Rel.old r (gV B) x (hM.new x ⟨v,aC h3,hx⟩)
   ·injection e with e;exact Pm (hM.GJ i j _ v x hv h3 (by rw[<-e];rfl) hx)
theorem gv.push(hM:gv w B iv rv n M){gx:Nat}(SB:∀g,Cv FF B iv g->g≠gx)(hBx:B<=gx)(hl:l.length=n)(OG:w.ownsRow 0 T.int 1 (.slice (some ⟨gx,0,none⟩) n n) n (l.map fun z=>.int .i64 z)):
  gv w B ((gx,gx+1)::iv) (rv++[.slice (some ⟨gx,0,none⟩) n n]) n (M++[l]):=by
 have RF:∀g,Ob rv g->g≠gx:=fun g hg=>SB g (hM.new g hg);have key:∀(k:Nat) v,(rv++[Value.slice (some ⟨gx,0,none⟩) n n])[k]? =some v->(k<rv.length∧rv[k]? =some v)∨(k=rv.length∧v= .slice (some ⟨gx,0,none⟩) n n):=fun k v hk=>by
  rcases aO k rv.length with hi|hi
  ·rw[aK hi]at hk;exact .inl ⟨hi,hk⟩
  ·have RW:k=rv.length:=by have:=(aD.1 hk).1;simp at this;omega
   rw[RW,aN (aF _),bH]at hk;simp at hk;exact .inr ⟨RW,hk.symm⟩
 refine⟨by simp[hM.len],fun x hx=>?_,fun i v x h1 h2=>?_,fun i j a b g h1 h2 h3 h4=>?_,fun g hg=>?_⟩
 ·rcases bG.1 hx with hx|hx
  ·exact hM.wid x hx
  ·rw[bB.1 hx];exact hl
 ·rcases key i v h1 with⟨hi,k1⟩|⟨e1,rfl⟩
  ·rw[aK (by rw[<-hM.len];exact hi)]at h2;exact hM.row i v x k1 h2
  ·rw[e1,hM.len,aN (aF _),bH]at h2;simp at h2;subst h2;exact OG
 ·rcases key i a h1 with⟨_,k1⟩|⟨e1,rfl⟩<;>rcases key j b h2 with⟨_,k2⟩|⟨e2,rfl⟩
  ·exact hM.GJ i j a b g k1 k2 h3 h4
  ·injection h4 with h4;exact absurd h4.symm (RF g ⟨a,aC k1,h3⟩)
  ·injection h3 with h3;exact absurd h3.symm (RF g ⟨b,aC k2,h4⟩)
  ·rw[e1,e2]
 ·rcases Ob.append.1 hg with h|h
  ·exact(hM.new g h).mono fun p hp=>List.mem_cons_of_mem _ hp
  ·injection h with h;have h:gx=g:=h;subst h;exact .inr ⟨hBx,_,_,aG,aF _,bZ _⟩
end
def FR(w:World)(S:Nat->Prop)(v:Value)(l:List Int):Prop:=iM w S 1 v (l.map fun z=>.int .i64 z) l.length
abbrev si:=dD FR
theorem FR.cH(h:FR w S v l)(hk:∀g,S g->w2.heap[g]? =w.heap[g]?):FR w2 S v l:=iM.cH h hk
theorem FR.cI(h:FR w S v l)(hk:∀g,S g->S' g):FR w S' v l:=iM.cI h hk
theorem si.cH{M:List (List Int)}(h:si w S v M)(hk:∀g,S g->w2.heap[g]? =w.heap[g]?):si w2 S v M:=by
 obtain⟨rv,h1,h2,h3⟩:=h;exact⟨rv,h1.cH hk,h2,fun i u x k1 k2=>(h3 i u x k1 k2).cH hk⟩
theorem si.cI{M:List (List Int)}(h:si w S v M)(hk:∀g,S g->S' g):si w S' v M:=by
 obtain⟨rv,h1,h2,h3⟩:=h;exact⟨rv,h1.cI hk,h2,fun i u x k1 k2=>(h3 i u x k1 k2).cI hk⟩
theorem FR.at{m c:Nat}(h:FR w S (.slice a m c) l)(hj:l[j]? =some z):∃ad,a=some ad∧S ad.block∧w.cell? (ad.add (j*1))=some (.int .i64 z):=by
 obtain⟨h0,h1,h2,a',c',e,h3,h4⟩:=h;injection e with e1 e2 e3;subst e1;obtain⟨ad,k1,k2,k3⟩:=h4 j (.int .i64 z) (by rw[aM,hj];rfl);exact⟨ad,k1,k2,by rw[aT];exact k3⟩
theorem FR.shape(h:FR w S v l):∃a c,v= .slice a l.length c∧l.length<=c∧l.length<=maxLen:=by
 obtain⟨h0,h1,h2,a,c,e,h3,h4⟩:=h;exact⟨a,c,e,h3,h0⟩
structure rf(f:eh):Prop where
 co:∀p∈f.nodes,(-1000000<=p.1∧p.1<=1000000)∧(-1000000<=p.2.1∧p.2.1<=1000000)∧(-1000000<=p.2.2∧p.2.2<=1000000)
 MQ:∀b∈f.bars,(0<=b.1∧b.1<f.nodes.length)∧(0<=b.2.1∧b.2.1<f.nodes.length)
 sup:∀s∈f.cV,(0<=s.1∧s.1<f.nodes.length)∧(0<=s.2.1∧s.2.1<=2)
 n:f.nodes.length<=20
 b:f.bars.length<=60
 s:f.cV.length<=60
theorem rf.node(h:rf f){i:Int}(h0:0<=i)(h1:i<f.nodes.length):∃k:Nat,∃p,i=k∧k<f.nodes.length∧f.nodes[k]? =some p∧f.node i=p∧(-1000000<=p.1∧p.1<=1000000)∧(-1000000<=p.2.1∧p.2.1<=1000000)∧(-1000000<=p.2.2∧p.2.2<=1000000):=by
 obtain⟨k,rfl⟩:=Int.eq_ofNat_of_zero_le h0;have hk:k<f.nodes.length:=by omega
 refine⟨k,f.nodes[k],rfl,hk,aB hk,?_,h.co _ (aX hk)⟩;rw[eh.node,aE,List.getD,aB hk];rfl
theorem BM{vn vb vs:Value}{a b:Int}{b3 b6:Bool}{a4 a7:Option Addr}{n4 c4 n7 c7:Nat}(hS:Old S w)(hn:nD w S vn f.nodes)(OI:rf f)(hA:0<=a∧a<f.nodes.length)(hB:0<=b∧b<f.nodes.length):
  di PG N.lf #[.agg #[vn,vb,vs],.agg #[.int .i64 a,.int .i64 b,.bool b3,.slice a4 n4 c4,.bool b6,.slice a7 n7 c7]] w (dw w fun v' _=>v'= .agg #[.int .i64 ((f.node b).1-(f.node a).1),.int .i64 ((f.node b).2.1-(f.node a).2.1),.int .i64 ((f.node b).2.2-(f.node a).2.2)]):=by
 have hw:=bR w;obtain⟨an,cn,rfl,hcn,Q6⟩:=hn.shape;unfold maxLen at Q6;obtain⟨ka,pa,ea,hka,hpa,VW,⟨_,_⟩,⟨_,_⟩,⟨_,_⟩⟩:=OI.node hA.1 hA.2;obtain⟨kb,pb,eb,OK,VA,VX,⟨_,_⟩,⟨_,_⟩,⟨_,_⟩⟩:=OI.node hB.1 hB.2;obtain⟨ada,csa,VY,hPa,-,Pc⟩:=hn.load (by decide) hpa;obtain⟨adb,csb,PY,hPb,-,Oc⟩:=hn.load (by decide) VA;have hPa:csa=[.int .i64 pa.1,.int .i64 pa.2.1,.int .i64 pa.2.2]:=hPa;have hPb:csb=[.int .i64 pb.1,.int .i64 pb.2.1,.int .i64 pb.2.2]:=hPb;subst hPa hPb;rw[VW,VX];subst ea eb;refine pH (by simp) ?_;refine iq hτ dZ (.x 0 (.x 2 (.x 6 (.x 8 (.ld 1 49200 (.ld 3 49200 (.x 4 (.ld 5 49152 (.ld 7 35840 (.ld 9 35840 (.x 10 (.ld 11 32768 (.two 12 (.x 13 (.x 14 (.x 15 .nil))) 13 (.x 12 (.x 14 (.x 15 .nil)))))))))))))))) (by kernel_rfl) (by kernel_rfl) ?_;refine⟨ada,VY,by omega,[.int .i64 pa.1,.int .i64 pa.2.1,.int .i64 pa.2.2],rfl,rdO Pc hw hS,adb,PY,by omega,[.int .i64 pb.1,.int .i64 pb.2.1,.int .i64 pb.2.2],rfl,rdO Oc hw hS,?_,?_⟩
 ·refine⟨[.int .i64 pb.1,.int .i64 pb.2.1,.int .i64 pb.2.2],rfl,rdO Oc hw hS,rfl,rfl,rfl,[.int .i64 pa.1,.int .i64 pa.2.1,.int .i64 pa.2.2],rfl,rdO Pc hw hS,rfl,rfl,rfl,[.int .i64 pb.1,.int .i64 pb.2.1,.int .i64 pb.2.2],rfl,rdO Oc hw hS,rfl,rfl,rfl,[.int .i64 pa.1,.int .i64 pa.2.1,.int .i64 pa.2.2],rfl,rdO Pc hw hS,rfl,rfl,rfl,[.int .i64 pb.1,.int .i64 pb.2.1,.int .i64 pb.2.2],rfl,rdO Oc hw hS,rfl,rfl,rfl,pb.1-pa.1,wo,pb.2.1-pa.2.1,wo,pb.2.2-pa.2.2,wo,?_⟩;exact rtn hw fun ρe we re=>rfl
 ·refine⟨[.int .i64 pb.1,.int .i64 pb.2.1,.int .i64 pb.2.2],rfl,rdO Oc hw hS,rfl,rfl,rfl,[.int .i64 pa.1,.int .i64 pa.2.1,.int .i64 pa.2.2],rfl,rdO Pc hw hS,rfl,rfl,rfl,[.int .i64 pb.1,.int .i64 pb.2.1,.int .i64 pb.2.2],rfl,rdO Oc hw hS,rfl,rfl,rfl,[.int .i64 pa.1,.int .i64 pa.2.1,.int .i64 pa.2.2],rfl,rdO Pc hw hS,rfl,rfl,rfl,[.int .i64 pb.1,.int .i64 pb.2.1,.int .i64 pb.2.2],rfl,rdO Oc hw hS,rfl,rfl,rfl,pb.1-pa.1,wo,pb.2.1-pa.2.1,wo,pb.2.2-pa.2.2,wo,?_⟩;exact rtn hw fun ρe we re=>rfl
end Go.Ex
