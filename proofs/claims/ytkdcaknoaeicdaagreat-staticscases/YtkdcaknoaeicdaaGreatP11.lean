/- Texts X135 to X138: lemmas, each with its conditions. -/
import Derived.Test.YtkdcaknoaeicdaaGreatP10
namespace Go.Ex
open Go Go.Sx Go.Proofs
variable{iv:Iv}{M:List (List Rat)}{css:List (List Value)}{ps pv:List Nat}{b qs x:List Rat}{cs:List Value}{B g h id:Nat}{C S:Nat->Prop}{O:Nat->Sx.di}{a ax:Option Addr}{row:Option Nat}{q:Rat}{v:Value}{w:World}
section
variable{S S':Nat->Prop}{H:Hp}{nx n:Nat}{iv iv':Iv}{B:Nat}{w w' w2:World}{O:Nat->Sx.di}{v:Value}{qs:List Rat}
theorem df.aBV{w0 w1:World}(h:df w1 S w0.heap.size iv v n qs)(r:Rel H nx iv w0.heap.size w1 O w')(hS:Old S w0):df w' S w0.heap.size [(w0.heap.size,w'.heap.size)] v n qs:=by
 have h2:=h.rel r hS;have key:∀g {X:Nat->Prop},Cv X w0.heap.size iv g->Cv X w0.heap.size [(w0.heap.size,w'.heap.size)] g:=fun g X hg=>by
  rcases hg with hg|⟨h1,lo,hi,h2,h3,h4⟩
  ·exact .inl hg
  ·exact .inr ⟨h1,_,_,bB.2 rfl,h1,by have:=r.po lo hi h2;have:=r.size;omega⟩
 exact⟨h2.row.cJ fun g hg=>⟨key g hg.1,hg.2⟩,fun g hg=>key g (h2.new g hg)⟩
theorem df.aBA(h:df w2 (Cv S B iv) w'.heap.size [(w'.heap.size,w2.heap.size)] v n qs)(hB:B<=w'.heap.size):df w2 S B ((w'.heap.size,w2.heap.size)::iv) v n qs:=by
 have key:∀g {X Y:Nat->Prop},(∀g,Y g->Cv X B iv g)->Cv Y w'.heap.size [(w'.heap.size,w2.heap.size)] g->Cv X B ((w'.heap.size,w2.heap.size)::iv) g:=fun g X Y hY hg=>by
  rcases hg with hg|⟨h1,lo,hi,h2,h3,h4⟩
  ·exact(hY g hg).mono fun p hp=>List.mem_cons_of_mem _ hp
  ·simp at h2;obtain⟨rfl,rfl⟩:=h2;exact .inr ⟨by omega,_,_,aG,h3,h4⟩
 exact⟨h.row.cJ fun g hg=>⟨key g (fun _ h=>h) hg.1,hg.2⟩,fun g hg=>key g (fun _ h=>h.elim) (h.new g hg)⟩
def Bs(S:Nat->Prop)(B:Nat)(iv:Iv)(v:Value)(g:Nat):Prop:=Cv S B iv g∧v.ownBlock≠some g
theorem Bs.kept(r:Rel H nx iv B w O w')(hS:∀g,S g->g<B)(hg:w'.grownBy w2 row)(OK:∀g,row=some g->v.ownBlock=some g):∀g,Bs S B iv v g->w2.heap[g]? =w.heap[g]? :=fun g h=>by
 rw[hg.block g (Rel.old r hS g h.1) fun e=>h.2 (OK g e.symm),Rel.same r hS h.1]
theorem Bs.same(r:Rel H nx iv B w O w')(hS:∀g,S g->g<B):∀g,Bs S B iv v g->w'.heap[g]? =w.heap[g]? :=fun g h=>Rel.same r hS h.1
theorem Bs.of(r:Rel H nx iv B w O w')(hS:∀g,S g->g<B)(hm:∀p,p∈iv->p∈iv')(hn:df w2 FF w'.heap.size [(w'.heap.size,w2.heap.size)] v n qs)(h:Cv S B iv g):Bs S B iv' v g:=
 ⟨h.mono hm,fun e=>by
  have h1:=Rel.old r hS g h;rcases hn.new g e with h2|⟨h2,_⟩
  ·exact h2
  ·omega⟩
theorem Bs.mono(hm:∀p,p∈iv->p∈iv')(h:Bs S B iv v g):Bs S B iv' v g:=⟨h.1.mono hm,h.2⟩
theorem dC.at{m c j p:Nat}(h:dC w S (.slice a m c) ps)(hj:ps[j]? =some p):∃ad,a=some ad∧S ad.block∧w.cell? (ad.add (j*1))=some (.int .i64 (p:Int)):=by
 obtain⟨h0,h1,h2,a',c',e,h3,h4⟩:=h;injection e with e1 e2 e3;subst e1;obtain⟨ad,k1,k2,k3⟩:=h4 j (.int .i64 (p:Int)) (by rw[aM,hj];rfl);exact⟨ad,k1,k2,by rw[aU];exact k3⟩
theorem dC.shape(h:dC w S v ps):∃a c,v= .slice a ps.length c∧ps.length<=c∧ps.length<=maxLen:=by
 obtain⟨h0,h1,h2,a,c,e,h3,h4⟩:=h;exact⟨a,c,e,h3,h0⟩
end
theorem BR{E:List (List Rat)}{at_:List (Option Nat)}{fr:List Nat}{n:Nat}(hE:fZ n E)(Oc:∀(k r:Nat),at_[k]? =some (some r)->r<E.length):∀k,k<=at_.length->fZ n (dJ (E,at_,fr) k).1∧∀p∈(dJ (E,at_,fr) k).2.1,p<k
 |0,_=>⟨(fun r hr=>by cases hr),fun p hp=>by cases hp⟩
 |k+1,hk=>by
  have ih:=BR (fr:=fr) hE Oc k (by omega);obtain⟨o,ho⟩:∃o,at_[k]? =some o:=⟨_,aB (by omega)⟩
  cases o with
  |none=>
   rw[mz (s:=(E,at_,fr)) ho];exact⟨ih.1,fun p hp=>Nat.lt_succ_of_lt (ih.2 p hp)⟩
  |some r=>
   rw[nA (s:=(E,at_,fr)) ho];refine⟨fun x hx=>?_,fun p hp=>?_⟩
   ·rcases bK.1 hx with hx|hx
    ·exact ih.1 x hx
    ·rw[bB.1 hx];have:=Oc k r ho;dsimp only
     rw[List.getD,aB this];exact hE _ (aX this)
   ·rcases bK.1 hp with hp|hp
    ·exact Nat.lt_succ_of_lt (ih.2 p hp)
    ·rw[bB.1 hp];exact b9 _
theorem sT{n:Nat}(cols:Nat)(hM:fZ n M):(dS M cols).1.length=(dS M cols).2.1.length∧(dS M cols).2.2.length=(dS M cols).2.1.length∧fZ n (dS M cols).1∧(∀p∈(dS M cols).2.1,p<cols)∧(dS M cols).2.1.length<=cols:=by
 have OM:=AE cols hM M.length (aF _);unfold dS;generalize iG M cols M.length=s at*
 obtain⟨E,at_,fr⟩:=s;have QV:at_.length=cols:=OM.at_;obtain⟨q1,q2,-,q4⟩:=vK (E,at_,fr) [] cols (by show cols<=at_.length;omega);obtain⟨f1,f2⟩:=BR (E:=E) (at_:=at_) (fr:=fr) OM.len OM.lt cols (by omega);exact⟨q1,q2,f1,f2,q4⟩
theorem lZ(M:List (List Rat))(b:List Rat):(kP M b).length=M.length:=List.length_mapIdx
theorem Jv{n:Nat}(h:fZ n M):fZ (n+1) (kP M b):=fun r hr=>by
 obtain⟨i,hi⟩:=aR hr;rw[kP,List.getElem?_mapIdx]at hi
 cases hM:M[i]? with
 |none=>rw[hM]at hi;cases hi
 |some x=>
  rw[hM]at hi;simp only[Option.map_some,Option.some.injEq]at hi;rw[<-hi,List.length_append,h x (aC hM)];rfl
theorem Hh{H:Hp}{nx:Nat}{w':World}(r:Rel H nx iv B w O w')(h:dE H id=some (.vec T.Rat 4 ([]++css.flatten++cs)))(hF:Fc w' S css x)(hq:iB w' S cs q)(hm:x.length<maxLen):
  (O id).nil=false∧cN w' (Cv S B (((O id).g,(O id).g+1)::iv)) (.slice (some ⟨(O id).g,0,none⟩) (x.length+1) (O id).cap) (x++[q]):=by
 have OY:=eK hF.xC;have hl:([]++css.flatten++cs).length=(x.length+1)*4:=by rw[List.nil_append,List.length_append,OY,hF.1,hq.len];omega
 have SE:=hF.push hq;have he:[]++css.flatten++cs=(css++[cs]).flatten:=by simp
 have hv:=pD r (sz:=4) (m:=x.length+1) h hl (by omega) (by decide) (by omega) (fun u hu=>SE.one u (by rw[<-he];exact hu));refine⟨hv.1,css++[cs],?_,SE.1,SE.xC,fun j c y k1 k2=>(SE.2 j c y k1 k2).cJ fun g hg=>.inl hg⟩;rw[List.length_append,List.length_singleton,<-he];exact hv.2.2.cJ fun g hg=>.inr ⟨by have:=hv.2.1;omega,_,_,aG,by omega,by omega⟩
set_option maxHeartbeats 2000000 in
theorem DI{D:Nat->Prop}{u:Value}{cols:Nat}(hC:Old C w)(hD:Old D w)(hS:Old S w)(hM:lY w C S v M)(hb:gS w D S u b)(Pr:b.length=M.length)(hlen:fZ cols M)(hn:cols<=999)(hR:M.length<=1000)(hB:EZ (kP M b) (cols+1) h)(hh:3*h<=90000):
  eD PG N.jS #[.agg #[v,.int .i64 cols],u] w (eG w fun v' w2=>(od M b cols=none∧v'= .tuple #[.slice none 0 0,.bool false])∨∃x vx,od M b cols=some x∧v'= .tuple #[vx,.bool true]∧df w2 S w.heap.size [(w.heap.size,w2.heap.size)] vx cols x):=by
 have hw:=bR w;obtain⟨am,cm,rfl,SC,SA⟩:=lY.shape hM;obtain⟨ab,cb,rfl,QG,RJ⟩:=gS.shape hb;unfold maxLen at SA RJ;refine ou (by simp) ?_
 refine⟨((cols+1:Nat):Int),wo,Nat×List Value×World×Iv,fun z=>⟨[(20,iN z.1),(1,sV ab b.length cb),(2,pP 0 0),(6,pP 1 0),(18,sV am M.length cm),(19,iZ M.length)],[(1,.box T.dx [.w 2 z.2.1.length,.v (.int .i64 ((cols+1:Nat):Int))]),(2,.vec T.fc 1 z.2.1),(0,.box T.dx [.v (.slice am M.length cm),.v (.int .i64 cols)])],3,z.2.2.2,z.2.2.1⟩,fun z=>M.length-z.1,
  fun z=>z.1<=M.length∧dm w.heap.size w z.2.2.1∧dQ z.2.2.1 (Cv S w.heap.size z.2.2.2) z.2.1 ((kP M b).take z.1),?_,?_⟩
 ·intro O w' r
  exact⟨(0,[],w',[]),⟨aO _,hw.tr r.cQ,by simp[dQ]⟩,Sub.CF 1 0 T.fc 1 rfl rfl (by simp[jQ,SV.sc,At.sc,fP]) r fun ρ1 r1=>
   Sub.gn [] r1⟩
 rintro⟨i,rv,w1,iv⟩ ⟨hi,hw,hK⟩;dsimp only at hi hw hK ⊢;have Ou:rv.length=i:=by rw[hK.1,aW,lZ];omega
 refine dI.mk ?_ ?_<;>intro OI
 ·have OI:i<M.length:=by simpa using OI
  obtain⟨x,hx⟩:∃r,M[i]? =some r:=⟨_,aB OI⟩
  have Pk:=hlen x (aC hx);obtain⟨q,hq⟩:∃r,b[i]? =some r:=⟨_,aB (by omega)⟩
  have UX:b.getD i 0=q:=by rw[List.getD,hq];rfl
  have OR:(kP M b).take (i+1)=(kP M b).take i++[x++[q]]:=by
   rw[List.take_add_one,show(kP M b)[i]? =some (x++[q]) by rw[kP,List.getElem?_mapIdx,hx,<-UX];rfl];rfl
  obtain⟨adm,um,QE,Oj,km1,km2⟩:=lY.load hM hx;obtain⟨css,⟨-,g1,g2,a0,c0,rfl,g4,g5⟩,PQ,RL,PE⟩:=Oj;have OY:=eK RL;obtain⟨adq,cs,RP,hF,hl⟩:=gS.load hb hq;obtain⟨b3,a3,n3,c3,b4,a4,n4,c4,rfl,hF⟩:=hF;refine⟨adm,QE,by omega,.slice a0 x.length c0,rd1 km2 hw (hC _ km1),?_⟩;refine iz hτ da (.x 0 (.x 3 (.x 5 (.x 6 (.x 7 (.ld 1 28672 (.ld 8 32256 (.two 2 (.two 4 (.x 9 (.x 10 (.kD 6 (.x 11 (.x 12 (.x 13 (.x 14 .nil))))))) 9 (.x 4 (.x 10 (.kD 6 (.x 11 (.x 12 (.x 13 (.x 14 .nil)))))))) 9 (.x 2 (.x 4 (.x 10 (.kD 6 (.x 11 (.x 12 (.x 13 (.x 14 .nil)))))))))))))))) (by kernel_rfl) (by kernel_rfl) ?_;refine⟨adq,RP,by omega,[.bool b3,.slice a3 n3 c3,.bool b4,.slice a4 n4 c4],rfl,rdO hl hw hD,?_,?_⟩
  ·refine⟨[.bool b3,.slice a3 n3 c3,.bool b4,.slice a4 n4 c4],rfl,rdO hl hw hD,rfl,rfl,?_,?_⟩
   ·refine .inl ?_;refine⟨css.flatten,g1,g2,fun O w' r Od=>?_,?_⟩
    ·obtain⟨u0,SP⟩:∃u,css.flatten[0]? =some u:=⟨_,aB (by omega)⟩
     obtain⟨ad,ha,_,_⟩:=g5 0 u0 SP;refine⟨ad,ha,fun j u hj=>?_⟩;obtain⟨ad2,PC,q1,q2⟩:=g5 j u hj;rw[ha]at PC;injection PC with PC;subst PC;rw[cH (w:=w) (w2:=w') (by rw[dD];exact(hw.tr r.cQ).block _ (hS _ q1))];exact q2
    refine⟨rfl,by omega,by unfold maxLen;omega,?_⟩;rw[aS x.length];refine⟨[.bool b3,.slice a3 n3 c3,.bool b4,.slice a4 n4 c4],rfl,rdO hl hw hD,rfl,rfl,rfl,?_⟩;refine .inl ?_;refine⟨by rw[<-g1];rfl,by omega,by unfold maxLen;omega,rfl,[(1,.box T.dx [.w 2 rv.length,.v (.int .i64 ((cols+1:Nat):Int))]),(2,.vec T.fc 1 rv),(0,.box T.dx [.v (.slice am M.length cm),.v (.int .i64 cols)])],_,rfl,by simp,⟨rfl,rfl,rfl,trivial⟩,rfl,fun O w' r=>?_⟩;have hv:=Hh (S:=S) (x:=x) (q:=q) (css:=css) r (id:=6) rfl ⟨PQ,fun j cs q k1 k2=>(PE j cs q k1 k2).cI fun g hg=>(hw.tr r.cQ).block g (hS g hg)⟩ (hF.cI (kS hw r hS)).pW (by unfold maxLen;omega);refine⟨hv.1,_,jX (tl:=[(25,pP 1 0),(26,.o (.w 2 rv.length)),(20,iN i),(1,sV ab b.length cb),(2,pP 0 0),(6,pP 1 0),(18,sV am M.length cm),(19,iZ M.length)]) hv.1 (t:=35) (n:=x.length+1) rfl ⟨rfl,rfl,rfl,rfl,rfl,rfl,rfl,rfl,trivial⟩ (by simp[jQ,SV.sc,At.sc]),?_⟩;replace hK:=(dQ.cJ (hK.rel r hS) (fun g hg=>hg.mono fun p hp=>List.mem_cons_of_mem _ hp)).push rfl hv.2;rw[<-OR]at hK;replace hw:=hw.tr r.cQ;generalize (O 6).g=gx at*
    generalize (O 6).cap=cx at*
    generalize (gx,gx+1)::iv=ON at*
    refine⟨rfl,?_⟩;refine .inl ?_;refine⟨by simp,by omega,by unfold maxLen;omega,((i+1:Nat):Int),wo,?_⟩;intro ρ3 w3 r3;exact⟨(i+1,rv++[.slice (some ⟨gx,0,none⟩) (x.length+1) cx],w3,_),⟨OI,hw.tr r3.cQ,hK.rel r3 hS⟩,Sub.gn [(2,8)] r3 ⟨by dsimp only;rw[List.length_append,List.length_singleton];rfl,rfl,rfl,trivial⟩,by dsimp only;omega⟩
   ·refine⟨rfl,?_⟩;refine .inl ?_;refine⟨css.flatten,g1,g2,fun O w' r Od=>?_,?_⟩
    ·obtain⟨u0,SP⟩:∃u,css.flatten[0]? =some u:=⟨_,aB (by omega)⟩
     obtain⟨ad,ha,_,_⟩:=g5 0 u0 SP;refine⟨ad,ha,fun j u hj=>?_⟩;obtain⟨ad2,PC,q1,q2⟩:=g5 j u hj;rw[ha]at PC;injection PC with PC;subst PC;rw[cH (w:=w) (w2:=w') (by rw[dD];exact(hw.tr r.cQ).block _ (hS _ q1))];exact q2
    refine⟨rfl,by omega,by unfold maxLen;omega,?_⟩;rw[aS x.length];refine⟨rfl,?_⟩;refine .inl ?_;refine⟨by rw[<-g1];rfl,by omega,by unfold maxLen;omega,rfl,[(1,.box T.dx [.w 2 rv.length,.v (.int .i64 ((cols+1:Nat):Int))]),(2,.vec T.fc 1 rv),(0,.box T.dx [.v (.slice am M.length cm),.v (.int .i64 cols)])],_,rfl,by simp,⟨rfl,rfl,rfl,trivial⟩,rfl,fun O w' r=>?_⟩;have hv:=Hh (S:=S) (x:=x) (q:=q) (css:=css) r (id:=6) rfl ⟨PQ,fun j cs q k1 k2=>(PE j cs q k1 k2).cI fun g hg=>(hw.tr r.cQ).block g (hS g hg)⟩ (hF.cI (kS hw r hS)).pW (by unfold maxLen;omega);refine⟨hv.1,_,jX (tl:=[(25,pP 1 0),(26,.o (.w 2 rv.length)),(20,iN i),(1,sV ab b.length cb),(2,pP 0 0),(6,pP 1 0),(18,sV am M.length cm),(19,iZ M.length)]) hv.1 (t:=35) (n:=x.length+1) rfl ⟨rfl,rfl,rfl,rfl,rfl,rfl,rfl,rfl,trivial⟩ (by simp[jQ,SV.sc,At.sc]),?_⟩;replace hK:=(dQ.cJ (hK.rel r hS) (fun g hg=>hg.mono fun p hp=>List.mem_cons_of_mem _ hp)).push rfl hv.2;rw[<-OR]at hK;replace hw:=hw.tr r.cQ;generalize (O 6).g=gx at*
    generalize (O 6).cap=cx at*
    generalize (gx,gx+1)::iv=ON at*
    refine⟨rfl,?_⟩;refine .inl ?_;refine⟨by simp,by omega,by unfold maxLen;omega,((i+1:Nat):Int),wo,?_⟩;intro ρ3 w3 r3;exact⟨(i+1,rv++[.slice (some ⟨gx,0,none⟩) (x.length+1) cx],w3,_),⟨OI,hw.tr r3.cQ,hK.rel r3 hS⟩,Sub.gn [(2,8)] r3 ⟨by dsimp only;rw[List.length_append,List.length_singleton];rfl,rfl,rfl,trivial⟩,by dsimp only;omega⟩
  ·refine⟨rfl,rfl,?_⟩;refine .inl ?_;refine⟨css.flatten,g1,g2,fun O w' r Od=>?_,?_⟩
   ·obtain⟨u0,SP⟩:∃u,css.flatten[0]? =some u:=⟨_,aB (by omega)⟩
    obtain⟨ad,ha,_,_⟩:=g5 0 u0 SP;refine⟨ad,ha,fun j u hj=>?_⟩;obtain⟨ad2,PC,q1,q2⟩:=g5 j u hj;rw[ha]at PC;injection PC with PC;subst PC;rw[cH (w:=w) (w2:=w') (by rw[dD];exact(hw.tr r.cQ).block _ (hS _ q1))];exact q2
   refine⟨rfl,by omega,by unfold maxLen;omega,?_⟩;rw[aS x.length];refine⟨rfl,?_⟩;refine .inl ?_;refine⟨by rw[<-g1];rfl,by omega,by unfold maxLen;omega,rfl,[(1,.box T.dx [.w 2 rv.length,.v (.int .i64 ((cols+1:Nat):Int))]),(2,.vec T.fc 1 rv),(0,.box T.dx [.v (.slice am M.length cm),.v (.int .i64 cols)])],_,rfl,by simp,⟨rfl,rfl,rfl,trivial⟩,rfl,fun O w' r=>?_⟩;have hv:=Hh (S:=S) (x:=x) (q:=q) (css:=css) r (id:=6) rfl ⟨PQ,fun j cs q k1 k2=>(PE j cs q k1 k2).cI fun g hg=>(hw.tr r.cQ).block g (hS g hg)⟩ (hF.cI (kS hw r hS)).pW (by unfold maxLen;omega);refine⟨hv.1,_,jX (tl:=[(25,pP 1 0),(26,.o (.w 2 rv.length)),(20,iN i),(1,sV ab b.length cb),(2,pP 0 0),(6,pP 1 0),(18,sV am M.length cm),(19,iZ M.length)]) hv.1 (t:=35) (n:=x.length+1) rfl ⟨rfl,rfl,rfl,rfl,rfl,rfl,rfl,rfl,trivial⟩ (by simp[jQ,SV.sc,At.sc]),?_⟩;replace hK:=(dQ.cJ (hK.rel r hS) (fun g hg=>hg.mono fun p hp=>List.mem_cons_of_mem _ hp)).push rfl hv.2;rw[<-OR]at hK;replace hw:=hw.tr r.cQ;generalize (O 6).g=gx at*
   generalize (O 6).cap=cx at*
   generalize (gx,gx+1)::iv=ON at*
   refine⟨rfl,?_⟩;refine .inl ?_;refine⟨by simp,by omega,by unfold maxLen;omega,((i+1:Nat):Int),wo,?_⟩;intro ρ3 w3 r3;exact⟨(i+1,rv++[.slice (some ⟨gx,0,none⟩) (x.length+1) cx],w3,_),⟨OI,hw.tr r3.cQ,hK.rel r3 hS⟩,Sub.gn [(2,8)] r3 ⟨by dsimp only;rw[List.length_append,List.length_singleton];rfl,rfl,rfl,trivial⟩,by dsimp only;omega⟩
 have OI:i=M.length:=aP hi (by simpa using OI);rw[List.take_of_length_le (by rw[lZ];omega)]at hK;have Tn:=Jv (b:=b) hlen;obtain⟨f1,f2,f3,f4,f5⟩:=sT (cols+1) Tn;generalize hA:(dS (kP M b) (cols+1)).1=A at*
 generalize hP:(dS (kP M b) (cols+1)).2.1=pv at*
 refine⟨((cols+1:Nat):Int),wo,?_⟩
 refine cD (cO (Φ:=fun _ w' v w2=>∃vr vp vf,v= .agg #[vr,.int .i64 ((cols+1:Nat):Int),vp,vf]∧cR w2 (Nw (Cv S w.heap.size iv) w' w2) vr A∧dC w2 (Nf w' w2) vp pv∧dC w2 (Nf w' w2) vf (dS (kP M b) (cols+1)).2.2) (fun O w' r=>by
  rw[<-hA,<-hP]
  exact xE (C:=fun g=>g<w'.heap.size) (fun g hg=>hg) (Rel.old r hS) ⟨rv,by rw[lZ,<-OI,<-Ou];exact(r.iC (id:=2) (sz:=1) (m:=rv.length) rfl (by simp) (by unfold maxLen;omega) (by decide) hK.2.1).cJ fun g hg=>hg.2,hK.1,fun i u x h1 h2=>cN.rel (hK.2.2 i u x h1 h2) r hS⟩ Tn (by omega) (by omega) (by rw[lZ];omega) (aF _) hB hh) ?_)
 rintro O QA v1 Pg r he PL ⟨vr,vp,vf,rfl,k1,k2,k3⟩;replace hw:=hw.tr PL;have hR:=cR.old k1 r.cF;have hV:=dC.dB (S:=FF) k2 r.cF (iv:=(QA.heap.size,Pg.heap.size)::iv) aG;have hX:=dC.dB (S:=FF) k3 r.cF (iv:=(QA.heap.size,Pg.heap.size)::iv) aG;generalize (QA.heap.size,Pg.heap.size)::iv=OP at*
 obtain⟨ar,cr,rfl,TM,hmr⟩:=c9.shape hR;obtain⟨ap,cp,rfl,hcp,hmp⟩:=dC.shape hV;obtain⟨af,cf,rfl,-,-⟩:=dC.shape hX;refine cD (cO (Φ:=fun _ w' v w2=>df w2 FF w'.heap.size [(w'.heap.size,w2.heap.size)] v cols (List.replicate cols 0)) (fun O w' r=>GG cols w' (by omega)) ?_);rintro O QB v2 PI r he PL hn;replace hw:=hw.tr PL;replace hR:=cR.cJ (S':=Bs S w.heap.size ((QB.heap.size,PI.heap.size)::OP) v2) (cR.cI (cR.rel hR r hS) fun g hg=>he.block g (Rel.old r hS g hg)) fun g hg=>Bs.of r hS (fun x hx=>List.mem_cons_of_mem _ hx) hn hg;replace hV:=dC.cJ (S':=Bs FF w.heap.size ((QB.heap.size,PI.heap.size)::OP) v2) (dC.cI (dC.rel hV r (cC w)) fun g hg=>he.block g (Rel.old r (cC w) g hg)) fun g hg=>Bs.of r (cC w) (fun x hx=>List.mem_cons_of_mem _ hx) hn hg;have hX:=hn.dB (S:=S) r.cF (iv:=(QB.heap.size,PI.heap.size)::OP) aG;generalize (QB.heap.size,PI.heap.size)::OP=ON at*
 obtain⟨ax,cx,rfl,Wm⟩:=hX.row.form;have Rt:=hX.row.le;unfold maxLen at Rt
 refine⟨Nat×World×Iv,fun z=>⟨[(51,iN z.1),(2,pP 0 0),(9,pP 3 0),(10,sV ax cols cx),(49,sV ap pv.length cp),(50,iZ pv.length)],[(3,.box T.dX [.v (.slice ar A.length cr),.v (.int .i64 ((cols+1:Nat):Int)),.v (.slice ap pv.length cp),.v (.slice af (dS (kP M b) (cols+1)).2.2.length cf)]),(0,.box T.dx [.v (.slice am M.length cm),.v (.int .i64 cols)])],4,z.2.2,z.2.1⟩,fun z=>pv.length-z.1,
  fun z=>z.1<=pv.length∧(∀(t p:Nat),t<z.1->pv[t]? =some p->p≠cols)∧dm w.heap.size w z.2.1∧cR z.2.1 (Bs S w.heap.size z.2.2 (.slice ax cols cx)) (.slice ar A.length cr) A∧dC z.2.1 (Bs FF w.heap.size z.2.2 (.slice ax cols cx)) (.slice ap pv.length cp) pv∧df z.2.1 S w.heap.size z.2.2 (.slice ax cols cx) cols (gA A pv cols z.1),?_,?_⟩
 ·intro O w' r;exact⟨(0,w',_),⟨aO _,fun t p ht=>absurd ht (Nat.not_lt_zero t),hw.tr r.cQ,cR.cI hR (Bs.same r hS),dC.cI hV (Bs.same r (cC w)),hX.rel r hS⟩,Sub.gn [] r⟩
 rintro⟨k,w3,iv⟩ ⟨hk,Tu,hw,hR,hV,hX⟩;dsimp only at hk Tu hw hR hV hX ⊢;refine dI.mk ?_ ?_<;>intro OL
 ·have OL:k<pv.length:=by simpa using OL
  obtain⟨p,hp⟩:∃p,pv[k]? =some p:=⟨_,aB OL⟩
  have RQ:=f4 p (aC hp);obtain⟨adp,RO,kp1,kp2⟩:=hV.at hp;refine⟨adp,RO,by omega,.int .i64 (p:Int),fun O w' r=>?_,?_⟩
  ·rw[aE,cH (w:=w3) (w2:=w') (by rw[dD];exact Rel.same r (cC w) kp1.1)];exact kp2
  refine dI.mk ?_ ?_<;>intro he
  ·have he:p=cols:=by
    have:(p:Int)=cols:=by simpa using he
    omega
   intro ρe we re;refine⟨_,rfl,hw.tr re.cQ,.inl ⟨?_,rfl⟩⟩;unfold od;simp only[hP]
   rw[if_pos (by rw[<-he];exact aC hp)]
  have he:p≠cols:=fun e=>by rw[e]at he;simp at he
  obtain⟨x,hx⟩:∃x,A[k]? =some x:=⟨_,aB (by omega)⟩
  have Pk:=f3 x (aC hx);obtain⟨q,hq⟩:∃q,x[cols]? =some q:=⟨_,aB (by omega)⟩
  have QV:dF A k cols=q:=by simp[dF,List.getD,hx,hq]
  obtain⟨adm,um,QE,Oj,km1,km2⟩:=c9.load hR hx;obtain⟨a0,c0,rfl,Qw,-⟩:=dH.shape Oj;obtain⟨adq,cs,RP,hF,_,hl⟩:=dH.load Oj hq;obtain⟨g0,g1,g2,g3,g4,g5,g6,g7,rfl,hF⟩:=hF;refine cK hτ da [.x 0,.x 1,.x 2,.x 3,.x 4,.x 5,.x 6,.x 7,.x 8,.x 9,.x 10,.x 11,.x 12,.x 13] (by kernel_rfl) (by kernel_rfl) ?_;refine⟨adm,QE,by omega,.slice a0 x.length c0,fun O w' r=>?_,?_⟩
  ·rw[aE,cH (w:=w3) (w2:=w') (by rw[dD];exact Rel.same r hS km1.1)];exact km2
  refine⟨adq,RP,by omega,[.bool g0,.slice g1 g2 g3,.bool g4,.slice g5 g6 g7],rfl,fun O w' r j u hu=>?_,?_⟩
  ·obtain⟨k1,k2⟩:=hl j u hu;rw[aE,cH (w:=w3) (w2:=w') (by rw[dD,dD];exact Rel.same r hS k1.1)];exact k2
  obtain⟨gx,S4⟩:∃g,ax=some ⟨g,0,none⟩:=by
   obtain⟨css,h1,h2,h3⟩:=hX.row;rcases h1.2 with⟨_,h0⟩|⟨g,cap,cur,e,_⟩
   ·omega
   ·injection e with e;exact⟨g,e⟩
  subst S4;refine⟨⟨gx,0,none⟩,rfl,by omega,?_⟩;intro O w' r;obtain⟨g,hg,h1,h2,h3,h4,h5⟩:=(hX.rel r hS).store (j:=p) (by omega) (hF.cI (Bs.same r hS)) r hS;injection hg with hg;injection hg with hg;subst hg;refine⟨h1,h2,h3,fun w5 Qr=>?_⟩;obtain⟨k1,k2,k3⟩:=h5 w5 Qr;have PN:dm w.heap.size w w5:=(hw.tr r.cQ).tr (dm.grown k2 (fun g e=>by injection e with e;subst e;exact h4.elim (fun h=>h.elim) fun h=>h.1) r.cF);have Qc:=cR.cI hR (Bs.kept r hS k2 fun g e=>e);have hV2:=dC.cI hV (Bs.kept r (cC w) k2 fun g e=>e);have OR:(gA A pv cols k).set p q=gA A pv cols (k+1):=by rw[gY,QV,List.getD,hp];rfl
  rw[OR]at k1;refine⟨((k+1:Nat):Int),wo,?_⟩;intro ρ3 w6 r3
  exact⟨(k+1,w6,_),⟨OL,fun t p2 ht QU=>by
   by_cases Ud:t=k
   ·rw[Ud,hp]at QU;injection QU with QU;rw[<-QU];exact he
   ·exact Tu t p2 (by dsimp only at ht;omega) QU,PN.tr r3.cQ,cR.cI Qc (Bs.same r3 hS),dC.cI hV2 (Bs.same r3 (cC w)),k1.rel r3 hS⟩,Sub.gn [] r3,by dsimp only;omega⟩
 have OL:k=pv.length:=aP hk (by simpa using OL);subst OL;intro ρe we re;refine⟨_,rfl,hw.tr re.cQ,.inr ⟨_,_,?_,rfl,hX.aBV re hS⟩⟩;unfold od;simp only[hA,hP]
 rw[aK];intro hm;obtain⟨t,ht⟩:=aR hm;exact Tu t cols (aD.1 ht).1 ht rfl
theorem GK{u:Value}{cols:Nat}(hC:Old C w)(hS:Old S w)(hM:lY w C S v M)(hb:cN w S u b)(Pr:b.length=M.length)(hlen:fZ cols M)(hn:cols<=999)(hR:M.length<=1000)(hB:EZ (kP M b) (cols+1) h)(hh:3*h<=90000):
  eD PG N.jS #[.agg #[v,.int .i64 cols],u] w (eG w fun v' w2=>(od M b cols=none∧v'= .tuple #[.slice none 0 0,.bool false])∨∃x vx,od M b cols=some x∧v'= .tuple #[vx,.bool true]∧df w2 S w.heap.size [(w.heap.size,w2.heap.size)] vx cols x):=
 DI hC hS hS hM (cN.rc hb) Pr hlen hn hR hB hh
def tZ(pv:List Nat)(n i:Nat):List Value:=(List.range n).map fun c=>.bool (decide (c∈pv.take i))
theorem Jw(pv:List Nat)(n:Nat):tZ pv n 0=List.replicate n (.bool false):=by
 refine bM fun j=>?_;rw[tZ,aM,List.getElem?_replicate];by_cases h:j<n
 ·rw[bh h,if_pos h];rfl
 ·rw[List.getElem?_eq_none (by simp;omega),aK h];rfl
theorem E1{n i c:Nat}(h:c<n):(tZ pv n i)[c]? =some (.bool (decide (c∈pv.take i))):=by
 rw[tZ,aM,bh h];rfl
theorem Jx{n i p:Nat}(hp:pv[i]? =some p):(tZ pv n i).set p (.bool true)=tZ pv n (i+1):=by
 refine bM fun j=>?_;by_cases hj:j<n
 ·rw[E1 hj,List.take_add_one,hp];by_cases hpj:p=j
  ·subst hpj;rw[aV (by simp[tZ];exact hj)];simp
  ·rw[aZ hpj,E1 hj];have:j≠p:=fun e=>hpj e.symm;simp[this]
 ·rw[List.getElem?_eq_none (by simp[tZ];omega),List.getElem?_eq_none (by simp[tZ];omega)]
theorem df.at{n:Nat}{cx:Nat}(h:df w S B iv (.slice ax n cx) n qs)(h0:0<n):∃g,ax=some ⟨g,0,none⟩:=by
 obtain⟨css,h1,h2,h3⟩:=h.row;rcases h1.2 with⟨_,h0⟩|⟨g,cap,cur,e,_⟩
 ·omega
 ·injection e with e;exact⟨g,e⟩
set_option maxHeartbeats 2000000 in
theorem Jy{n:Nat}(hC:Old C w)(hS:Old S w)(hM:lY w C S v M)(hlen:fZ n M)(hn0:0<n)(hn:n<=1000)(hR:M.length<=1000)(hB:EZ M n h)(hAb:Ht (dS M n).1 h)(hh:3*h<=90000):
  eD PG N.gb #[.agg #[v,.int .i64 n]] w (eG w fun v' w2=>cR w2 (Nf w w2) v' (lQ M n)):=by
 have hw:=bR w;obtain⟨am,cm,rfl,SC,SA⟩:=lY.shape hM;unfold maxLen at SA;obtain⟨f1,f2,f3,f4,f5⟩:=sT n hlen;refine jm (by simp) ?_;unfold lQ;generalize hA:(dS M n).1=A at*
 generalize hP:(dS M n).2.1=pv at*
 refine cD (cO (Φ:=fun _ w' v w2=>∃vr vp vf,v= .agg #[vr,.int .i64 n,vp,vf]∧cR w2 (Nw S w' w2) vr A∧dC w2 (Nf w' w2) vp pv∧dC w2 (Nf w' w2) vf (dS M n).2.2) (fun O w' r=>by
  rw[<-hA,<-hP];obtain⟨rv,m1,m2,m3⟩:=hM
  exact xE (C:=C) (S:=S) (oS hC r) (oS hS r) ⟨rv,m1.cI fun g hg=>(hw.tr r.cQ).block g (hC g hg),m2,fun i u x h1 h2=>cN.cI (m3 i u x h1 h2) fun g hg=>(hw.tr r.cQ).block g (hS g hg)⟩ hlen hn0 hn hR (aF _) hB hh) ?_)
 rintro O QA v1 Pg r he PL ⟨vr,vp,vf,rfl,k1,k2,k3⟩;replace hw:=hw.tr PL;have hR:=cR.old (cR.cJ k1 fun g hg=>hg.imp (fun h=>(Or.inl h:Cv S w.heap.size [] g)) id) r.cF;have hV:=dC.dB (S:=FF) k2 r.cF (iv:=(QA.heap.size,Pg.heap.size)::[]) aG;have hX:=dC.dB (S:=FF) k3 r.cF (iv:=(QA.heap.size,Pg.heap.size)::[]) aG;generalize (QA.heap.size,Pg.heap.size)::[]=OP at*
 obtain⟨ar,cr,rfl,TM,hmr⟩:=c9.shape hR;obtain⟨ap,cp,rfl,hcp,hmp⟩:=dC.shape hV;obtain⟨af,cf,rfl,-,-⟩:=dC.shape hX
 refine⟨n,n,rfl,rfl,aF _,by omega,by omega,Nat×World×Iv,fun z=>⟨[(1,pP 0 0),(3,pP 1 0),(4,.o (.s 2 0 n n)),(20,sV ap pv.length cp),(21,iZ pv.length),(22,iN z.1)],[(2,.arr T.bool (tZ pv n z.1)),(1,.box T.dX [.v (.slice ar A.length cr),.v (.int .i64 n),.v (.slice ap pv.length cp),.v (.slice af (dS M n).2.2.length cf)]),(0,.box T.dx [.v (.slice am M.length cm),.v (.int .i64 n)])],3,z.2.2,z.2.1⟩,fun z=>pv.length-z.1,
  fun z=>z.1<=pv.length∧dm w.heap.size w z.2.1∧cR z.2.1 (Cv S w.heap.size z.2.2) (.slice ar A.length cr) A∧dC z.2.1 (Cf w z.2.2) (.slice ap pv.length cp) pv,?_,?_⟩
 ·intro O w' r3;exact⟨(0,w',_),⟨aO _,hw.tr r3.cQ,cR.rel hR r3 hS,dC.rel hV r3 (cC w)⟩,Sub.gn [] r3 ⟨by dsimp only;rw[Jw];rfl,rfl,rfl,trivial⟩⟩
 rintro⟨i,w1,iv⟩ ⟨hi,hw,hR,hV⟩;dsimp only at hi hw hR hV ⊢;refine dI.mk ?_ ?_<;>intro OI
 ·have OI:i<pv.length:=by simpa using OI
  obtain⟨p,hp⟩:∃p,pv[i]? =some p:=⟨_,aB OI⟩
  have RQ:=f4 p (aC hp);obtain⟨adp,RO,kp1,kp2⟩:=hV.at hp;refine⟨adp,RO,by omega,.int .i64 (p:Int),fun O w' r=>?_,?_⟩
  ·rw[aE,cH (w:=w1) (w2:=w') (by rw[dD];exact Rel.same r (cC w) kp1)];exact kp2
  refine⟨by omega,by simp[tZ];omega,tZ pv n (i+1),?_,?_⟩
  ·rw[aE,aU,aS,<-Jx hp];exact gC (by simp[tZ];omega)
  refine⟨((i+1:Nat):Int),wo,?_⟩;intro ρ3 w3 r3;exact⟨(i+1,w3,_),⟨OI,hw.tr r3.cQ,cR.rel hR r3 hS,dC.rel hV r3 (cC w)⟩,Sub.gn [] r3,by dsimp only;omega⟩
 have OI:i=pv.length:=aP hi (by simpa using OI);subst OI
 refine⟨Nat×List Value×World×Iv,fun z=>⟨[(32,iN z.1),(7,.o (.w 3 z.2.1.length)),(1,pP 0 0),(3,pP 1 0),(4,.o (.s 2 0 n n)),(31,iZ n)],[(2,.arr T.bool (tZ pv n pv.length)),(3,.vec T.fc 1 z.2.1),(1,.box T.dX [.v (.slice ar A.length cr),.v (.int .i64 n),.v (.slice ap pv.length cp),.v (.slice af (dS M n).2.2.length cf)]),(0,.box T.dx [.v (.slice am M.length cm),.v (.int .i64 n)])],4,z.2.2.2,z.2.2.1⟩,fun z=>n-z.1,
  fun z=>z.1<=n∧dm w.heap.size w z.2.2.1∧cR z.2.2.1 (Cv S w.heap.size z.2.2.2) (.slice ar A.length cr) A∧dC z.2.2.1 (Cf w z.2.2.2) (.slice ap pv.length cp) pv∧dQ z.2.2.1 (Cf w z.2.2.2) z.2.1 (eE A pv n z.1),?_,?_⟩
 ·intro O w' r;exact⟨(0,[],w',_),⟨aO _,hw.tr r.cQ,cR.rel hR r hS,dC.rel hV r (cC w),by simp[dQ,eE]⟩,Sub.nil 7 T.fc 1 rfl (by simp[jQ,SV.sc,At.sc]) r fun ρ1 r1=>Sub.gn [] r1⟩
 rintro⟨c,rv,w1,iv⟩ ⟨hc,hw,hR,hV,hK⟩;dsimp only at hc hw hR hV hK ⊢;have Ou:rv.length=(eE A pv n c).length:=hK.1;have hrc:=GL A pv n c;refine dI.mk ?_ ?_<;>intro QG
 ·have QG:c<n:=by simpa using QG
  refine⟨by omega,.bool (decide (c∈pv)),by rw[aE,aU,aS,E1 QG,bG],?_⟩;refine dI.mk ?_ ?_<;>intro hm
  ·have hm:c∈pv:=by simpa using hm
   refine⟨((c+1:Nat):Int),wo,?_⟩;intro ρ3 w3 r3;exact⟨(c+1,rv,w3,_),⟨QG,hw.tr r3.cQ,cR.rel hR r3 hS,dC.rel hV r3 (cC w),by dsimp only;rw[yF hm];exact hK.rel r3 (cC w)⟩,Sub.gn [] r3,by dsimp only;omega⟩
  have hm:c∉pv:=by simpa using hm
  refine cD (cO (Φ:=fun _ w' v w2=>df w2 FF w'.heap.size [(w'.heap.size,w2.heap.size)] v n (List.replicate n 0)) (fun O w' r=>GG n w' (by omega)) ?_);rintro O QB v2 PI r he PL Rr;replace hw:=hw.tr PL;replace hR:=cR.cJ (S':=Bs S w.heap.size ((QB.heap.size,PI.heap.size)::iv) v2) (cR.cI (cR.rel hR r hS) fun g hg=>he.block g (Rel.old r hS g hg)) fun g hg=>Bs.of r hS (fun x hx=>List.mem_cons_of_mem _ hx) Rr hg;replace hV:=dC.cJ (S':=Bs FF w.heap.size ((QB.heap.size,PI.heap.size)::iv) v2) (dC.cI (dC.rel hV r (cC w)) fun g hg=>he.block g (Rel.old r (cC w) g hg)) fun g hg=>Bs.of r (cC w) (fun x hx=>List.mem_cons_of_mem _ hx) Rr hg;replace hK:=dQ.cJ (S':=Bs FF w.heap.size ((QB.heap.size,PI.heap.size)::iv) v2) (dQ.cI (dQ.rel hK r (cC w)) fun g hg=>he.block g (Rel.old r (cC w) g hg)) fun g hg=>Bs.of r (cC w) (fun x hx=>List.mem_cons_of_mem _ hx) Rr hg;have hX:=Rr.dB (S:=FF) r.cF (iv:=(QB.heap.size,PI.heap.size)::iv) aG;generalize (QB.heap.size,PI.heap.size)::iv=ON at*
  obtain⟨ax,cx,rfl,Wm⟩:=hX.row.form;obtain⟨gx,rfl⟩:=hX.at hn0;refine cD (cO (Φ:=fun _ w' v w2=>cS w2 (Nf w' w2) v ((1:Int):Rat)) (fun O w' r=>kC 1 w' (by decide) (by decide)) ?_);rintro O PX v3 PT r he PL Rr;replace hw:=hw.tr PL;replace hR:=cR.cJ (S':=Bs S w.heap.size ((PX.heap.size,PT.heap.size)::ON) (.slice (some ⟨gx,0,none⟩) n cx)) (cR.cI (cR.cI hR (Bs.same r hS)) fun g hg=>he.block g (Rel.old r hS g hg.1)) fun g hg=>Bs.mono (fun x hx=>List.mem_cons_of_mem _ hx) hg;replace hV:=dC.cJ (S':=Bs FF w.heap.size ((PX.heap.size,PT.heap.size)::ON) (.slice (some ⟨gx,0,none⟩) n cx)) (dC.cI (dC.cI hV (Bs.same r (cC w))) fun g hg=>he.block g (Rel.old r (cC w) g hg.1)) fun g hg=>Bs.mono (fun x hx=>List.mem_cons_of_mem _ hx) hg;replace hK:=dQ.cJ (S':=Bs FF w.heap.size ((PX.heap.size,PT.heap.size)::ON) (.slice (some ⟨gx,0,none⟩) n cx)) (dQ.cI (dQ.cI hK (Bs.same r (cC w))) fun g hg=>he.block g (Rel.old r (cC w) g hg.1)) fun g hg=>Bs.mono (fun x hx=>List.mem_cons_of_mem _ hx) hg;have hd:=(Rr.cJ (S':=Bs FF w.heap.size ((PX.heap.size,PT.heap.size)::ON) (.slice (some ⟨gx,0,none⟩) n cx)) fun g hg=>hg.elim (fun h=>h.elim) fun h=>⟨.inr ⟨by have:=r.cF;omega,_,_,aG,h.1,h.2⟩,fun e=>by have:=Rel.old r (cC w) g (hX.new g e);omega⟩)
  replace hX:=hX.cG (iv':=(PX.heap.size,PT.heap.size)::ON) r (cC w) he fun x hx=>List.mem_cons_of_mem _ hx;generalize (PX.heap.size,PT.heap.size)::ON=OU at*
  obtain⟨A0,A1,A2,A3,A4,A5,A6,A7,rfl⟩:=hd.shape;refine⟨⟨gx,0,none⟩,rfl,by omega,?_⟩;intro O w' r;obtain⟨g,hg,h1,h2,h3,h4,h5⟩:=(hX.rel r (cC w)).store (j:=c) QG (hd.cI (Bs.same r (cC w))) r (cC w);injection hg with hg;injection hg with hg;subst hg;refine⟨h1,h2,h3,fun w5 Qr=>?_⟩;obtain⟨k1,k2,k3⟩:=h5 w5 Qr;have PN:dm w.heap.size w w5:=(hw.tr r.cQ).tr (dm.grown k2 (fun g e=>by injection e with e;subst e;exact h4.elim (fun h=>h.elim) fun h=>h.1) r.cF);have Qc:=cR.cI hR (Bs.kept r hS k2 fun g e=>e);have hV2:=dC.cI hV (Bs.kept r (cC w) k2 fun g e=>e);have RE:=dQ.cI hK (Bs.kept r (cC w) k2 fun g e=>e);have OR:(List.replicate n (0:Rat)).set c ((1:Int):Rat)=fo A pv n c 0:=rfl;rw[OR]at k1
  refine⟨Nat×World×Iv,fun z=>⟨[(49,iN z.1),(8,iN c),(9,.o (.v (.slice (some ⟨gx,0,none⟩) n cx))),(32,iN c),(47,sV ap pv.length cp),(48,iZ pv.length),(7,.o (.w 3 rv.length)),(1,pP 0 0),(3,pP 1 0),(4,.o (.s 2 0 n n)),(31,iZ n)],[(2,.arr T.bool (tZ pv n pv.length)),(3,.vec T.fc 1 rv),(1,.box T.dX [.v (.slice ar A.length cr),.v (.int .i64 n),.v (.slice ap pv.length cp),.v (.slice af (dS M n).2.2.length cf)]),(0,.box T.dx [.v (.slice am M.length cm),.v (.int .i64 n)])],4,z.2.2,z.2.1⟩,fun z=>pv.length-z.1,
   fun z=>z.1<=pv.length∧dm w.heap.size w z.2.1∧cR z.2.1 (Bs S w.heap.size z.2.2 (.slice (some ⟨gx,0,none⟩) n cx)) (.slice ar A.length cr) A∧dC z.2.1 (Bs FF w.heap.size z.2.2 (.slice (some ⟨gx,0,none⟩) n cx)) (.slice ap pv.length cp) pv∧dQ z.2.1 (Bs FF w.heap.size z.2.2 (.slice (some ⟨gx,0,none⟩) n cx)) rv (eE A pv n c)∧df z.2.1 FF w.heap.size z.2.2 (.slice (some ⟨gx,0,none⟩) n cx) n (fo A pv n c z.1),?_,?_⟩
  ·intro O w' r3;exact⟨(0,w',_),⟨aO _,PN.tr r3.cQ,cR.cI Qc (Bs.same r3 hS),dC.cI hV2 (Bs.same r3 (cC w)),dQ.cI RE (Bs.same r3 (cC w)),k1.rel r3 (cC w)⟩,Sub.gn [] r3⟩
  rintro⟨k,w3,iv⟩ ⟨hk,hw,hR,hV,hK,hX⟩;dsimp only at hk hw hR hV hK hX ⊢;refine dI.mk ?_ ?_<;>intro OL
  ·have OL:k<pv.length:=by simpa using OL
   obtain⟨p,hp⟩:∃p,pv[k]? =some p:=⟨_,aB OL⟩
   have RQ:=f4 p (aC hp);obtain⟨adp,RO,kp1,kp2⟩:=hV.at hp;obtain⟨x,hx⟩:∃x,A[k]? =some x:=⟨_,aB (by omega)⟩
   have Pk:=f3 x (aC hx);obtain⟨q,hq⟩:∃q,x[c]? =some q:=⟨_,aB (by omega)⟩
   have QV:dF A k c=q:=by simp[dF,List.getD,hx,hq]
   have Uq:=hAb x (aC hx) q (aC hq);obtain⟨adm,um,QE,Oj,km1,km2⟩:=c9.load hR hx;obtain⟨a0,c0,rfl,Qw,-⟩:=dH.shape Oj;obtain⟨adq,cs,RP,hF,_,hl⟩:=dH.load Oj hq;obtain⟨g0,g1,g2,g3,g4,g5,g6,g7,rfl,hF⟩:=hF;refine⟨adp,RO,by omega,.int .i64 (p:Int),fun O w' r=>?_,?_⟩
   ·rw[aE,cH (w:=w3) (w2:=w') (by rw[dD];exact Rel.same r (cC w) kp1.1)];exact kp2
   refine⟨adm,QE,by omega,.slice a0 x.length c0,fun O w' r=>?_,?_⟩
   ·rw[aE,cH (w:=w3) (w2:=w') (by rw[dD];exact Rel.same r hS km1.1)];exact km2
   refine⟨adq,RP,by omega,[.bool g0,.slice g1 g2 g3,.bool g4,.slice g5 g6 g7],rfl,fun O w' r j u hu=>?_,?_⟩
   ·obtain⟨k1,k2⟩:=hl j u hu;rw[aE,cH (w:=w3) (w2:=w') (by rw[dD,dD];exact Rel.same r hS k1.1)];exact k2
   refine cD (cO (Φ:=fun _ w' v w2=>cS w2 (Nf w' w2) v (-q)) (fun O w' r=>Lu (S:=Bs S w.heap.size iv (.slice (some ⟨gx,0,none⟩) n cx)) (fun g hg=>Rel.old r hS g hg.1) ((hF.cI (Bs.same r hS)).l (by omega))) ?_);rintro O Qd v4 Q5 r he PL Rr;replace hw:=hw.tr PL;replace hR:=cR.cJ (S':=Bs S w.heap.size ((Qd.heap.size,Q5.heap.size)::iv) (.slice (some ⟨gx,0,none⟩) n cx)) (cR.cI (cR.cI hR (Bs.same r hS)) fun g hg=>he.block g (Rel.old r hS g hg.1)) fun g hg=>Bs.mono (fun x hx=>List.mem_cons_of_mem _ hx) hg;replace hV:=dC.cJ (S':=Bs FF w.heap.size ((Qd.heap.size,Q5.heap.size)::iv) (.slice (some ⟨gx,0,none⟩) n cx)) (dC.cI (dC.cI hV (Bs.same r (cC w))) fun g hg=>he.block g (Rel.old r (cC w) g hg.1)) fun g hg=>Bs.mono (fun x hx=>List.mem_cons_of_mem _ hx) hg;replace hK:=dQ.cJ (S':=Bs FF w.heap.size ((Qd.heap.size,Q5.heap.size)::iv) (.slice (some ⟨gx,0,none⟩) n cx)) (dQ.cI (dQ.cI hK (Bs.same r (cC w))) fun g hg=>he.block g (Rel.old r (cC w) g hg.1)) fun g hg=>Bs.mono (fun x hx=>List.mem_cons_of_mem _ hx) hg;have hd:=(Rr.cJ (S':=Bs FF w.heap.size ((Qd.heap.size,Q5.heap.size)::iv) (.slice (some ⟨gx,0,none⟩) n cx)) fun g hg=>hg.elim (fun h=>h.elim) fun h=>⟨.inr ⟨by have:=r.cF;omega,_,_,aG,h.1,h.2⟩,fun e=>by have:=Rel.old r (cC w) g (hX.new g e);omega⟩)
   replace hX:=hX.cG (iv':=(Qd.heap.size,Q5.heap.size)::iv) r (cC w) he fun x hx=>List.mem_cons_of_mem _ hx;generalize (Qd.heap.size,Q5.heap.size)::iv=OW at*
   obtain⟨C0,C1,C2,C3,C4,C5,C6,C7,rfl⟩:=hd.shape;refine⟨⟨gx,0,none⟩,rfl,by omega,?_⟩;intro O w' r;obtain⟨g,hg,h1,h2,h3,h4,h5⟩:=(hX.rel r (cC w)).store (j:=p) (by omega) (hd.cI (Bs.same r (cC w))) r (cC w);injection hg with hg;injection hg with hg;subst hg;refine⟨h1,h2,h3,fun w5 Qr=>?_⟩;obtain⟨k1,k2,k3⟩:=h5 w5 Qr;have PN:dm w.heap.size w w5:=(hw.tr r.cQ).tr (dm.grown k2 (fun g e=>by injection e with e;subst e;exact h4.elim (fun h=>h.elim) fun h=>h.1) r.cF);have Qc:=cR.cI hR (Bs.kept r hS k2 fun g e=>e);have hV2:=dC.cI hV (Bs.kept r (cC w) k2 fun g e=>e);have RE:=dQ.cI hK (Bs.kept r (cC w) k2 fun g e=>e);have OR:(fo A pv n c k).set p (-q)=fo A pv n c (k+1):=by rw[gX,QV,List.getD,hp];rfl
   rw[OR]at k1;refine⟨((k+1:Nat):Int),wo,?_⟩;intro ρ3 w6 r3;exact⟨(k+1,w6,_),⟨OL,PN.tr r3.cQ,cR.cI Qc (Bs.same r3 hS),dC.cI hV2 (Bs.same r3 (cC w)),dQ.cI RE (Bs.same r3 (cC w)),k1.rel r3 (cC w)⟩,Sub.gn [] r3,by dsimp only;omega⟩
  have OL:k=pv.length:=aP hk (by simpa using OL);rw[OL]at hX;replace hR:=cR.cJ hR fun g hg=>hg.1;replace hV:=dC.cJ hV fun g hg=>hg.1;replace hK:=(dQ.cJ hK fun g hg=>hg.1).push (u:=(.slice (some ⟨gx,0,none⟩) n cx)) (x:=fo A pv n c pv.length) rfl (by have:=hX.c;exact this);rw[<-vL hm]at hK;refine .inl ?_;refine⟨by simp,by omega,by unfold maxLen;omega,((c+1:Nat):Int),wo,?_⟩;intro ρ3 w3 r3;exact⟨(c+1,rv++[(.slice (some ⟨gx,0,none⟩) n cx)],w3,_),⟨QG,hw.tr r3.cQ,cR.rel hR r3 hS,dC.rel hV r3 (cC w),hK.rel r3 (cC w)⟩,Sub.gn [(3,5)] r3 (hE:=⟨rfl,by dsimp only;rw[List.length_append,List.length_singleton];rfl,rfl,rfl,rfl,rfl,trivial⟩),by dsimp only;omega⟩
 have QG:c=n:=aP hc (by simpa using QG);subst QG;intro ρe we re;refine⟨_,rfl,hw.tr re.cQ,rv,?_,hK.1,fun i u x k1 k2=>cN.cJ (cN.rel (hK.2.2 i u x k1 k2) re (cC w)) fun g hg=>Cv.nw hg re⟩;rw[<-hK.1];exact(re.iC (id:=3) (sz:=1) (m:=rv.length) rfl (by simp) (by unfold maxLen;omega) (by decide) hK.2.1).cJ fun g hg=>.inr hg
structure jA(w:World)(S:Nat->Prop)(B:Nat)(iv:Iv)(v:Value)(n i:Nat)(qs:List Rat):Prop where
 row:∃css,w.ownsRow 0 T.Rat 4 v n css.flatten∧gM w (Bs S B iv v) n i css qs
 new:∀g,v.ownBlock=some g->Cv FF B iv g
section
variable{S S':Nat->Prop}{H:Hp}{nx n i:Nat}{iv iv':Iv}{B:Nat}{w w' w2:World}{O:Nat->Sx.di}{v:Value}{qs:List Rat}
theorem jA.cI(h:jA w S B iv v n i qs)(hk:∀g,Cv S B iv g->w2.heap[g]? =w.heap[g]?):jA w2 S B iv v n i qs:=by
 obtain⟨⟨css,h1,h2⟩,h3⟩:=h;exact⟨⟨css,ownsRow.cI h1 fun g hg=>hk g (yE (h3 g hg)),h2.cI fun g hg=>hk g hg.1⟩,h3⟩
theorem jA.rel(h:jA w S B iv v n i qs)(r:Rel H nx iv B w O w')(hS:∀g,S g->g<B):jA w' S B iv v n i qs:=h.cI fun _ hg=>Rel.same r hS hg
theorem jA.mono(h:jA w S B iv v n i qs)(hm:∀p,p∈iv->p∈iv'):jA w S B iv' v n i qs:=by
 obtain⟨⟨css,h1,h2⟩,h3⟩:=h;exact⟨⟨css,h1,h2.cJ fun g hg=>hg.mono hm⟩,fun g hg=>(h3 g hg).mono hm⟩
theorem jA.cG(h:jA w S B iv v n i qs)(r:Rel H nx iv B w O w')(hS:∀g,S g->g<B)(he:Ext w' w2)(hm:∀p,p∈iv->p∈iv'):jA w2 S B iv' v n i qs:=
 ((h.rel r hS).cI fun g hg=>he.block g (Rel.old r hS g hg)).mono hm
theorem jA.kD(r:Rel H nx iv B w O w')(h:dE H id=some (.arr T.Rat (List.replicate n [Value.bool false,.slice none 0 0,.bool false,.slice none 0 0]).flatten))(hn:n<=maxLen)(qs:List Rat):
  jA w' S B (((O id).g,(O id).g+1)::iv) (.slice (some ⟨(O id).g,0,none⟩) n n) n 0 qs:=by
 have Oa:=(r.fits h).1;have h4:∀cs∈List.replicate n [Value.bool false,.slice none 0 0,.bool false,.slice none 0 0],cs.length=4:=fun cs hc=>by rw[bH hc];rfl
 have hf:=eK h4;rw[bE]at hf;refine⟨⟨List.replicate n [.bool false,.slice none 0 0,.bool false,.slice none 0 0],⟨hf,.inr ⟨(O id).g,n,_,rfl,aO _,r.arr id _ _ h,aF _,hn,by simp,by rw[<-hf];exact bG⟩⟩,gM.start w' _ n qs⟩,fun g hg=>?_⟩;injection hg with hg;have hg:(O id).g=g:=hg;subst hg;exact .inr ⟨(r.low id _ h Oa).1,_,_,aG,aF _,b9 _⟩
theorem jA.store{a1 a2:Option Addr}{c j n1 c1 n2 c2:Nat}{b b2:Bool}(h:jA w S B iv (.slice a n c) n j qs)(hj:j<n)(hq:qs[j]? =some q)(hf:cS w (Bs S B iv (.slice a n c)) (.agg #[.bool b,.slice a1 n1 c1,.bool b2,.slice a2 n2 c2]) q)
  (r:Rel H nx iv B w O w') (hS:∀g,S g->g<B):
  ∃g,a=some ⟨g,0,none⟩∧((⟨g,0,none⟩:Addr).add ((j:Int).toNat*4)).spot=none∧
   (∀k,k<4->(w'.cell? (((⟨g,0,none⟩:Addr).add ((j:Int).toNat*4)).add k)).isSome=true∧w'.frozen? (((⟨g,0,none⟩:Addr).add ((j:Int).toNat*4)).add k)=false)∧
   (∀id b,dE H id=some b->(O id).nil=false->(O id).g≠((⟨g,0,none⟩:Addr).add ((j:Int).toNat*4)).block)∧
   ∀w2,w2=setCells w' ((⟨g,0,none⟩:Addr).add ((j:Int).toNat*4)) [.bool b,.slice a1 n1 c1,.bool b2,.slice a2 n2 c2]->jA w2 S B iv (.slice a n c) n (j+1) qs∧w'.grownBy w2 (some g)∧dm B w' w2∧Rel H nx iv B w2 O w2:=by
 obtain⟨⟨css,h1,h2⟩,h3⟩:=h.rel r hS;have hf:=hf.cI (Bs.same r hS);obtain⟨g,rfl,OM,Px,Pc,Om⟩:=qB (nv:=[.bool b,.slice a1 n1 c1,.bool b2,.slice a2 n2 c2]) h1 rfl hj rfl (by decide);have Ol:(⟨g,0,none⟩:Addr).add ((j:Int).toNat*4)=⟨g,j*4,none⟩:=by rw[aE,dZ,aS]
 have Qt:=Rel.not r (gg B) (h3 g rfl);refine⟨g,rfl,by rw[Ol],fun k hk=>by rw[Ol];exact OM k hk,fun id b hb hn=>by rw[Ol];exact Qt id b hb hn,fun w2 PN=>?_⟩;rw[Ol]at PN;subst PN;have Ut:=iy (cs:=[.bool b,.slice a1 n1 c1,.bool b2,.slice a2 n2 c2]) h2.four (show j<css.length by rw[h2.len];exact hj);rw[Ut]at Px;have Pn:∀x,Bs S B iv (.slice (some ⟨g,0,none⟩) n c) x->(setCells w' ⟨g,j*4,none⟩ [.bool b,.slice a1 n1 c1,.bool b2,.slice a2 n2 c2]).heap[x]? =w'.heap[x]? :=fun x hx=>
  Pc.block x (Rel.old r hS x hx.1) fun e=>hx.2 e.symm
 refine⟨⟨⟨_,Px,(h2.cI Pn).next hj hq (hf.cI Pn)⟩,h3⟩,Pc,dm.grown Pc (fun x e=>by injection e with e;subst e;exact(h3 g rfl).elim (fun h=>h.elim) fun h=>h.1) r.cF,r.z5 Qt Pc⟩
theorem jA.done(h:jA w S B iv v n n qs)(hl:qs.length=n):df w S B iv v n qs:=by
 obtain⟨⟨css,h1,h2⟩,h3⟩:=h;exact⟨⟨css,h1,h2.len,by rw[h2.len,hl],fun j cs q k1 k2=>h2.at_ j cs q (by rw[<-hl];exact(aD.1 k2).1) k1 k2⟩,h3⟩
end
theorem sU(M:List (List Rat))(n:Nat):(ee M n).length=n:=by simp[ee]
theorem Jz{n k:Nat}(h:k<n):(ee M n)[k]? =some (M.map fun r=>r.getD k 0):=by rw[ee,aM,bh h];rfl
set_option maxHeartbeats 1000000 in
theorem CG{n:Nat}(hC:Old C w)(hS:Old S w)(hM:lY w C S v M)(hlen:fZ n M)(hn:n<=1000)(hR:M.length<=1000):
  eD PG N.jW #[.agg #[v,.int .i64 n]] w (eG w fun v' w2=>∃vr,v'= .agg #[vr,.int .i64 M.length]∧cR w2 (Nw S w w2) vr (ee M n)):=by
 have hw:=bR w;obtain⟨am,cm,rfl,SC,SA⟩:=lY.shape hM;unfold maxLen at SA;refine lX (by simp) ?_
 refine⟨Nat×List Value×World×Iv,fun z=>⟨[(13,iN z.1),(1,pP 0 0),(2,pP 1 0),(3,pP 2 0),(12,iZ n)],[(2,.box T.dx [.w 3 z.2.1.length,.v (.int .i64 M.length)]),(3,.vec T.fc 1 z.2.1),(1,.box T.dx [.v (.slice none 0 0),.v (.int .i64 0)]),(0,.box T.dx [.v (.slice am M.length cm),.v (.int .i64 n)])],4,z.2.2.2,z.2.2.1⟩,fun z=>n-z.1,
  fun z=>z.1<=n∧dm w.heap.size w z.2.2.1∧dQ z.2.2.1 (Cv S w.heap.size z.2.2.2) z.2.1 ((ee M n).take z.1),?_,?_⟩
 ·intro O w' r;exact⟨(0,[],w',[]),⟨aO _,hw.tr r.cQ,by simp[dQ]⟩,Sub.CF 2 0 T.fc 1 rfl rfl (by simp[jQ,SV.sc,At.sc,fP]) r fun ρ1 r1=>Sub.gn [] r1⟩
 rintro⟨k,rv,w1,iv⟩ ⟨hk,hw,hK⟩;dsimp only at hk hw hK ⊢;have Ou:rv.length=k:=by rw[hK.1,aW,sU];omega
 refine dI.mk ?_ ?_<;>intro OL
 ·have OL:k<n:=by simpa using OL
  have Ud:=Jz (M:=M) OL;have OR:(ee M n).take (k+1)=(ee M n).take k++[M.map fun r=>r.getD k 0]:=by rw[List.take_add_one,Ud];rfl
  refine⟨M.length,M.length,rfl,rfl,aF _,by omega,by omega,Nat×Nat×World×Iv,fun z=>⟨[(5,.o (.v (.slice (some ⟨z.2.1,0,none⟩) M.length M.length))),(4,iN k),(13,iN k),(22,iZ M.length),(23,iN z.1),(1,pP 0 0),(2,pP 1 0),(3,pP 2 0),(12,iZ n)],[(2,.box T.dx [.w 3 rv.length,.v (.int .i64 M.length)]),(3,.vec T.fc 1 rv),(1,.box T.dx [.v (.slice none 0 0),.v (.int .i64 0)]),(0,.box T.dx [.v (.slice am M.length cm),.v (.int .i64 n)])],5,z.2.2.2,z.2.2.1⟩,fun z=>M.length-z.1,
   fun z=>z.1<=M.length∧dm w.heap.size w z.2.2.1∧dQ z.2.2.1 (Bs S w.heap.size z.2.2.2 (.slice (some ⟨z.2.1,0,none⟩) M.length M.length)) rv ((ee M n).take k)∧jA z.2.2.1 S w.heap.size z.2.2.2 (.slice (some ⟨z.2.1,0,none⟩) M.length M.length) M.length z.1 (M.map fun r=>r.getD k 0),?_,?_⟩
  ·intro O w' r;have hf:=jA.kD (S:=S) (n:=M.length) r (id:=4) rfl (by unfold maxLen;omega) (M.map fun r=>r.getD k 0)
   exact⟨(0,(O 4).g,w',((O 4).g,(O 4).g+1)::iv),⟨aO _,hw.tr r.cQ,dQ.cJ (hK.rel r hS) fun g hg=>⟨hg.mono fun p hp=>List.mem_cons_of_mem _ hp,fun e=>Rel.not r hS hg 4 _ rfl (r.fits (id:=4) rfl).1 (by injection e)⟩,hf⟩,
    Sub.kD r (id:=4) (t:=5) rfl rfl ⟨rfl,rfl,rfl,rfl,trivial⟩ rfl ⟨rfl,rfl,rfl,rfl,rfl,rfl,rfl,rfl,trivial⟩ (by simp[jQ,SV.sc,At.sc])⟩
  rintro⟨i,gx,w2,iv⟩ ⟨hi,hw,hK,hX⟩;dsimp only at hi hw hK hX ⊢;refine dI.mk ?_ ?_<;>intro OI
  ·have OI:i<M.length:=by simpa using OI
   obtain⟨x,hx⟩:∃r,M[i]? =some r:=⟨_,aB OI⟩
   have Pk:=hlen x (aC hx);obtain⟨q,hq⟩:∃q,x[k]? =some q:=⟨_,aB (by omega)⟩
   have UX:x.getD k 0=q:=by rw[List.getD,hq];rfl
   obtain⟨adm,um,QE,Oj,km1,km2⟩:=lY.load hM hx;obtain⟨a0,c0,rfl,Qw,-⟩:=dH.shape Oj;obtain⟨adq,cs,RP,hF,_,hl⟩:=dH.load Oj hq;obtain⟨g0,g1,g2,g3,g4,g5,g6,g7,rfl,hF⟩:=hF;refine⟨adm,QE,by omega,.slice a0 x.length c0,rd1 km2 hw (hC _ km1),adq,RP,by omega,[.bool g0,.slice g1 g2 g3,.bool g4,.slice g5 g6 g7],rfl,rdO hl hw hS,⟨gx,0,none⟩,rfl,by omega,?_⟩;intro O w' r
   have SE:cS w2 (Bs S w.heap.size iv (.slice (some ⟨gx,0,none⟩) M.length M.length)) (.agg #[.bool g0,.slice g1 g2 g3,.bool g4,.slice g5 g6 g7]) q:=(hF.cI fun g hg=>hw.block g (hS g hg)).cJ fun g hg=>⟨.inl hg,fun e=>by
    have h1:=hS g hg;rcases hX.new g e with h2|⟨h2,_⟩
    ·exact h2
    ·omega⟩
   obtain⟨g,hg,h1,h2,h3,h4⟩:=hX.store (j:=i) OI (by rw[aM,hx,<-UX];rfl) SE r hS;injection hg with hg;injection hg with hg;subst hg;refine⟨h1,h2,h3,fun w5 Qr=>?_⟩;obtain⟨k1,k2,k3,k4⟩:=h4 w5 Qr;have PN:=(hw.tr r.cQ).tr k3;have RE:=dQ.cI hK (Bs.kept r hS k2 fun g e=>e);refine⟨((i+1:Nat):Int),wo,?_⟩;intro ρ3 w6 r3;exact⟨(i+1,gx,w6,_),⟨OI,PN.tr r3.cQ,dQ.cI RE (Bs.same r3 hS),k1.rel r3 hS⟩,Sub.gn [] r3,by dsimp only;omega⟩
  have OI:i=M.length:=aP hi (by simpa using OI);rw[OI]at hX;have Vg:=(hX.done (by simp)).c;replace hK:=(dQ.cJ hK fun g hg=>hg.1).push (u:=(.slice (some ⟨gx,0,none⟩) M.length M.length)) (x:=M.map fun r=>r.getD k 0) rfl Vg;rw[<-OR]at hK;refine .inl ?_;refine⟨by simp,by omega,by unfold maxLen;omega,((k+1:Nat):Int),wo,?_⟩;intro ρ3 w3 r3;exact⟨(k+1,rv++[(.slice (some ⟨gx,0,none⟩) M.length M.length)],w3,_),⟨OL,hw.tr r3.cQ,hK.rel r3 hS⟩,Sub.gn [(3,6)] r3 ⟨by dsimp only;rw[List.length_append,List.length_singleton];rfl,rfl,rfl,rfl,trivial⟩,by dsimp only;omega⟩
 have OL:k=n:=aP hk (by simpa using OL);rw[List.take_of_length_le (by rw[sU];omega)]at hK;intro ρe we re;refine⟨_,rfl,hw.tr re.cQ,_,rfl,rv,?_,hK.1,fun i u x k1 k2=>cN.cJ (cN.rel (hK.2.2 i u x k1 k2) re hS) fun g hg=>Cv.nw hg re⟩;rw[<-hK.1];exact(re.iC (id:=3) (sz:=1) (m:=rv.length) rfl (by simp) (by unfold maxLen;omega) (by decide) hK.2.1).cJ fun g hg=>.inr hg
end Go.Ex
namespace Go.Ex
variable{A M:List (List Rat)}{pv:List Nat}{B j:Nat}{v:Nat->Rat}
theorem Cj(f:Nat->Rat):∀n,cZ f n=kV (List.range n) f
 |0=>rfl
 |n+1=>by
  rw[cZ,Cj f n,bT,x6];show _=_+(_+0)
  rw[bY]
theorem Ck(g:Nat->Rat):∀l:List Nat,kV l g=cZ (fun k=>g (l.getD k 0)) l.length
 |[]=>rfl
 |t::l=>by
  rw[List.length_cons,zx];show g t+kV l g=g t+_;rw[Ck g l];rfl
def mulR(M:List (List Rat))(n:Nat)(x:Nat->Rat)(j:Nat):Rat:=cZ (fun t=>dF M j t*x t) n
theorem eI.dot{E:Mx}{r n:Nat}(h:eI E r n v):∃c:Nat->Rat,(∀t,t<n->v t=cZ (fun i=>c i*E i t) r)∧∀x:Nat->Rat,cZ (fun t=>v t*x t) n=cZ (fun i=>c i*cZ (fun t=>E i t*x t) n) r:=by
 obtain⟨c,hc⟩:=h;refine⟨c,hc,fun x=>?_⟩;rw[cL (g:=fun t=>cZ (fun i=>c i*E i t*x t) r) fun t ht=>by rw[hc t ht,<-lg],nk];exact cL fun i _=>by rw[<-eo];exact cL fun t _=>Rat.mul_assoc _ _ _
section
variable{M:List (List Rat)}{n:Nat}{x:Nat->Rat}{b:List Rat}
theorem LN(hM:fZ n M)(h:∀j,j<M.length->mulR M n x j=0){c:Nat}(hc:c<=n):∀i,i<M.length->mulR (cM M c).1 n x i=0:=fun i hi=>by
 obtain⟨c,_,h2⟩:=((j6 hM c hc).1 i hi).dot;unfold mulR;rw[h2 x,cL (g:=fun _=>0) fun j hj=>by rw[show cZ (fun t=>dF M j t*x t) n=0 from h j hj,bD],dw]
theorem Fb(hM:fZ n M){c:Nat}(hc:c<=n)(h:∀i,i<M.length->mulR (cM M c).1 n x i=0):∀j,j<M.length->mulR M n x j=0:=fun j hj=>by
 obtain⟨c,_,h2⟩:=((j6 hM c hc).2 j hj).dot;unfold mulR;rw[h2 x,cL (g:=fun _=>0) fun i hi=>by rw[show cZ (fun t=>dF (cM M _).1 i t*x t) n=0 from h i hi,bD],dw]
theorem ji(hM:fZ n M){t:Nat}(hj:j<M.length):(t<n->dF (dL M b) j t=dF M j t)∧dF (dL M b) j n=b.getD j 0:=by
 have hr:=aB hj;have hl:(M[j]).length=n:=hM _ (aX hj);have e:(dL M b).getD j []=M[j]++[b.getD j 0]:=by rw[dL,List.getD,List.getElem?_mapIdx,hr];rfl
 have e2:M.getD j []=M[j]:=by rw[List.getD,hr];rfl
 refine⟨fun ht=>?_,?_⟩
 ·rw[dF,dF,e,e2,List.getD,aL (by omega),<-List.getD]
 ·rw[dF,e,List.getD,aN (by omega),hl,bL];rfl
def Fe(x:Nat->Rat)(n t:Nat):Rat:=if t<n then x t else -1
theorem HV(hM:fZ n M)(hj:j<M.length):mulR (dL M b) (n+1) (Fe x n) j=mulR M n x j-b.getD j 0:=by
 have h:=fun t=>ji (b:=b) (t:=t) hM hj;unfold mulR;rw[cZ,(h 0).2,show Fe x n n= -1 by unfold Fe;rw[aK (Nat.lt_irrefl n)],cL (g:=fun t=>dF M j t*x t) fun t ht=>by rw[(h t).1 ht];unfold Fe;rw[if_pos ht]];grind
def eW(M:List (List Rat))(b:List Rat)(n:Nat):Option (List Rat):=
 let e:=cM (dL M b) n
 if ∀j,j<M.length->e.2.length<=j->dF e.1 j n=0 then some (gA e.1 e.2 n e.2.length)else none
theorem kX{x:List Rat}(hM:fZ n M)(h:eW M b n=some x):x.length=n∧∀j,j<M.length->mulR M n (fun t=>x.getD t 0) j=b.getD j 0:=by
 unfold eW at h;dsimp only at h;split at h
 ·rename_i h0;injection h with h;have hW:=gI (b:=b) hM;obtain⟨r1,r2,r3,r4,r5⟩:=dV hW n (Nat.le_succ n);have RQ:=iK (dL M b) n;have Tn:=dy (M:=M) (b:=b);have hl:=dq (dL M b) n;have Pk:x.length=n:=by rw[<-h,jU]
  have QS:∀j,j<(cM (dL M b) n).2.length->x.getD ((cM (dL M b) n).2.getD j 0) 0=dF (cM (dL M b) n).1 j n:=fun j hj=>by
   rw[<-h];exact o9 (F:=gA (cM (dL M b) n).1 (cM (dL M b) n).2 n) (f:=fun i=>dF (cM (dL M b) n).1 i n) (fun i=>gY _ _ n i) (jU _ _ n) RQ.2.1 r4 _ (aF _) hj
  have QT:∀t,t∉(cM (dL M b) n).2->x.getD t 0=0:=fun t ht=>by rw[<-h];exact uF ht
  refine⟨Pk,fun j hj=>?_⟩;have key:=Fb (M:=dL M b) (x:=Fe (fun t=>x.getD t 0) n) hW (c:=n) (Nat.le_succ n) (fun i hi=>?_) j (by rw[Tn];exact hj)
  ·rw[HV hM hj]at key;grind
  ·unfold mulR;rw[cZ,show Fe (fun t=>x.getD t 0) n n= -1 by unfold Fe;rw[aK (Nat.lt_irrefl n)],cL (g:=fun t=>dF (cM (dL M b) n).1 i t*x.getD t 0) fun t ht=>by unfold Fe;rw[if_pos ht]];rcases aQ i (cM (dL M b) n).2.length with h1|h1
   ·rw[eu (i:=(cM (dL M b) n).2.getD i 0) (r4 _ (by rw[List.getD,aB h1];exact aX _)) fun t ht OJ=>?_,r5 i i h1 (by omega),if_pos rfl,QS i h1]
    ·grind
    ·by_cases hp:t∈(cM (dL M b) n).2
     ·obtain⟨k,hk,rfl⟩:=tB hp;rw[r5 k i hk (by omega),aK (fun e=>OJ (by rw[e])),bI]
     ·rw[QT t hp,bD]
   ·rw[cL (g:=fun _=>0) fun t ht=>by rw[r3 i t h1 (by omega) ht,bI],dw,h0 i (by rw[<-Tn];exact hi) h1];grind
 ·cases h
theorem oe(hM:fZ n M)(h:eW M b n=none):∃y:Nat->Rat,(∀t,t<n->cZ (fun j=>y j*dF M j t) M.length=0)∧cZ (fun j=>y j*b.getD j 0) M.length≠0:=by
 unfold eW at h;dsimp only at h;split at h
 ·cases h
 ·rename_i h0;obtain⟨i,hi,h1,h2⟩:∃i,i<M.length∧(cM (dL M b) n).2.length<=i∧dF (cM (dL M b) n).1 i n≠0:=by
   refine Decidable.byContradiction fun SB=>h0 fun j hj hr=>Decidable.byContradiction fun h2=>SB ⟨j,hj,hr,h2⟩
  have hW:=gI (b:=b) hM;have Tn:=dy (M:=M) (b:=b);have hl:=dq (dL M b) n;obtain⟨r1,r2,r3,r4,r5⟩:=dV hW n (Nat.le_succ n);obtain⟨y,hy⟩:=(j6 hW n (Nat.le_succ n)).1 i (by omega);rw[Tn]at hy;refine⟨y,fun t ht=>?_,?_⟩
  ·have h3:=hy t (by omega);rw[r3 i t h1 (by omega) ht]at h3;rw[h3];exact cL fun j hj=>by rw[(ji (b:=b) hM hj).1 ht]
  ·have h3:=hy n (by omega);rw[cL (g:=fun j=>y j*b.getD j 0) fun j hj=>by rw[(ji (b:=b) (t:=n) hM hj).2]]at h3;rw[<-h3];exact h2
theorem kY{x:Nat->Rat}(hM:fZ n M)(h:∀j,j<M.length->mulR M n x j=b.getD j 0):∃z,eW M b n=some z:=by
 cases e:eW M b n with
 |some z=>exact⟨z,rfl⟩
 |none=>
  obtain⟨y,h1,h2⟩:=oe hM e;refine absurd ?_ h2;rw[cL fun j hj=>by rw[<-h j hj,mulR,<-eo],nk,cL (g:=fun _=>0) fun t ht=>?_,dw];rw[cL (g:=fun j=>y j*dF M j t*x t) fun j _=>(Rat.mul_assoc _ _ _).symm,lg,h1 t ht,bI]
def Inj(M:List (List Rat))(n:Nat):Prop:=∀x:Nat->Rat,(∀j,j<M.length->mulR M n x j=0)->∀t,t<n->x t=0
theorem Ff(M:List (List Rat))(n:Nat)(x y:Nat->Rat)(j:Nat):mulR M n (fun t=>x t-y t) j=mulR M n x j-mulR M n y j:=by
 unfold mulR;rw[<-uG];exact cL fun t _=>by grind
theorem Jm{x:List Rat}(hM:fZ n M)(hi:Inj M n)(hx:x.length=n)(h:∀j,j<M.length->mulR M n (fun t=>x.getD t 0) j=b.getD j 0):eW M b n=some x:=by
 obtain⟨z,hz⟩:=kY hM h;obtain⟨h1,h2⟩:=kX hM hz;rw[hz];congr 1;refine gp 0 (by rw[h1,hx]) fun t ht=>?_;have:=hi (fun t=>z.getD t 0-x.getD t 0) (fun j hj=>by rw[Ff,h j hj,h2 j hj];grind) t (by omega);grind
theorem uN(M:List (List Rat))(b:List Rat):kP M b=dL M b:=rfl
theorem Fg{r i t:Nat}(h:i<r):dF (A.take r) i t=dF A i t:=by
 rw[dF,dF,show(A.take r).getD i []=A.getD i [] by rw[List.getD,bV h,<-List.getD]]
theorem xb(A:List (List Rat))(pv:List Nat)(n:Nat):∀k,k<=pv.length->gA (A.take pv.length) pv n k=gA A pv n k
 |0,_=>rfl
 |k+1,h=>by rw[gY,gY,xb A pv n k (by omega),Fg (by omega)]
theorem xc(A:List (List Rat))(pv:List Nat)(n c:Nat):∀k,k<=pv.length->fo (A.take pv.length) pv n c k=fo A pv n c k
 |0,_=>rfl
 |k+1,h=>by rw[gX,gX,xc A pv n c k (by omega),Fg (by omega)]
abbrev cT(M:List (List Rat))(n:Nat):List (List Rat):=eE (cM M n).1 (cM M n).2 n n
theorem HW(hM:fZ n M)(hW:Bp M n B):lQ M n=cT M n:=by
 obtain⟨e1,e2⟩:=mG hM hW;unfold lQ cT eE;rw[e1,e2];exact List.map_congr_left fun c _=>xc _ _ n c _ (aF _)
theorem wG(hM:fZ n M)(hW:Bp (dL M b) (n+1) B):od M b n=eW M b n:=by
 have hWl:=gI (b:=b) hM;obtain⟨e1,e2⟩:=mG hWl hW;have hl:=dq (dL M b) n;have Tn:=dy (M:=M) (b:=b);obtain⟨r1,r2,r3,r4,r5⟩:=dV hWl n (Nat.le_succ n);have e:cM (dL M b) (n+1)=db (cM (dL M b) n) n:=by
  unfold cM;rw[bT,List.foldl_append];rfl
 unfold od eW;dsimp only
 rcases jh n r2 with⟨k1,k2⟩|⟨k,k1,k2,k3,k4⟩
 ·rw[aK (by rw[uN,e1,e,k1];exact fun h=>by have:=r4 n h;omega),if_pos fun j hj hr=>k2 j hr (by omega),uN,e1,e2,e,k1,xb _ _ n _ (aF _)]
 ·rw[if_pos (by rw[uN,e1,e,k4];simp),aK fun h=>k3 (h k (by omega) k1)]
theorem LO(hM:fZ n M){x:List Rat}(h:∀j,j<M.length->mulR M n (fun t=>x.getD t 0) j=0):Diff (cM M n).1 (cM M n).2 n x:=by
 obtain⟨r1,r2,r3,r4,r5⟩:=dV hM n (aF _);have RQ:=iK M n;have hl:=dq M n;refine⟨RQ.2.1,r4,r2,r5,fun j hj=>?_⟩;rw[<-Cj];have h1:=LN hM h (aF n) j (by omega);unfold mulR at h1;rw[h1,dF,List.getD,List.getElem?_eq_none (by rw[r1.getD hj];exact aF _)];rfl
theorem mH(M:List (List Rat))(n:Nat):(cT M n).length=(jO (cM M n).2 n).length:=by unfold cT eE;rw[aJ]
theorem AM(M:List (List Rat))(n:Nat){k:Nat}(hk:k<(cT M n).length):(cT M n).getD k []=fo (cM M n).1 (cM M n).2 n ((jO (cM M n).2 n).getD k 0) (cM M n).2.length:=by
 obtain⟨r,hr⟩:∃r,(cT M n)[k]? =some r:=⟨_,aB hk⟩
 rw[List.getD,hr];exact(oa hr).2
theorem j7(M:List (List Rat))(n:Nat):fZ n (cT M n):=fun r hr=>by
 obtain⟨k,hk⟩:=aR hr;rw[(oa hk).2,k9]
theorem uO(hM:fZ n M){k:Nat}(hk:k<(cT M n).length):∀j,j<M.length->mulR M n (dF (cT M n) k) j=0:=by
 obtain⟨r1,r2,r3,r4,r5⟩:=dV hM n (aF _);have RQ:=iK M n;have hl:=dq M n;have hf:=mF.1 (qG (by rw[<-mH];exact hk));refine Fb hM (aF n) fun i hi=>?_;have OK:=AM M n hk;generalize hc:(jO (cM M n).2 n).getD k 0=c at hf OK;have QS:∀j,j<(cM M n).2.length->dF (cT M n) k ((cM M n).2.getD j 0)= -(dF (cM M n).1 j c):=fun j hj=>by
  rw[dF,OK];exact o9 (F:=fo (cM M n).1 (cM M n).2 n c) (f:=fun i=> -(dF (cM M n).1 i c)) (fun i=>gX _ _ n c i) (k9 _ _ n c) RQ.2.1 r4 _ (aF _) hj
 have QT:∀t,t∉(cM M n).2->dF (cT M n) k t=if t=c then 1 else 0:=fun t ht=>by rw[dF,OK];exact qF ht hf.1
 unfold mulR;rcases aQ i (cM M n).2.length with h1|h1
 ·have Um:(cM M n).2.getD i 0∈(cM M n).2:=by rw[List.getD,aB h1];exact aX _
  have OJ:(cM M n).2.getD i 0≠c:=fun e=>hf.2 (e▸Um);have e:cZ (fun t=>dF (cM M n).1 i t*dF (cT M n) k t) n=cZ (fun t=>(if t=(cM M n).2.getD i 0 then -(dF (cM M n).1 i c)else 0)+(if t=c then dF (cM M n).1 i c else 0)) n:=by
   refine cL fun t ht=>?_;by_cases hp:t∈(cM M n).2
   ·obtain⟨j,hj,rfl⟩:=tB hp;rw[QS j hj,r5 j i hj (by omega),aK (show ¬(cM M n).2.getD j 0=c from fun e=>hf.2 (e▸hp)),bY];by_cases Pt:i=j
    ·rw[if_pos Pt,if_pos (by rw[Pt]),Pt,bq]
    ·have hne2:(cM M n).2.getD j 0≠(cM M n).2.getD i 0:=fun e2=>Pt (by
      rcases bs i j with h5|h5|h5
      ·have:(cM M n).2.getD i 0<(cM M n).2.getD j 0:=Ku RQ.2.1 h5 hj;omega
      ·exact h5
      ·have:(cM M n).2.getD j 0<(cM M n).2.getD i 0:=Ku RQ.2.1 h5 h1
       omega)
     rw[aK Pt,aK hne2,bI]
   ·rw[QT t hp,aK (show ¬t=(cM M n).2.getD i 0 from fun e2=>hp (e2▸Um)),Rat.zero_add];by_cases htc:t=c
    ·rw[if_pos htc,if_pos htc,htc,Rat.mul_one]
    ·rw[aK htc,aK htc,bD]
  rw[e,gJ,eu (i:=(cM M n).2.getD i 0) (r4 _ Um) fun t _ OJ=>aK OJ,eu (i:=c) hf.1 fun t _ OJ=>aK OJ,if_pos rfl,if_pos rfl];grind
 ·rw[cL (g:=fun _=>0) fun t ht=>by rw[r3 i t h1 (by omega) ht,bI],dw]
theorem I8(hM:fZ n M)(h:∀j,j<M.length->mulR M n x j=0):∃c:Nat->Rat,∀t,t<n->x t=cZ (fun k=>c k*dF (cT M n) k t) (cT M n).length:=by
 obtain⟨l,hl⟩:∃l,l=(List.range n).map x:=⟨_,rfl⟩
 have hx:∀t,t<n->l.getD t 0=x t:=fun t ht=>by rw[hl,List.getD,aM,bh ht];rfl
 have hd:=LO (x:=l) hM fun j hj=>Eq.trans (cL fun t ht=>congrArg (dF M j t* ·) (hx t ht)) (h j hj);refine⟨fun k=>l.getD ((jO (cM M n).2 n).getD k 0) 0,fun t ht=>?_⟩;have h1:=hd.rest ht;obtain⟨r1,r2,r3,r4,r5⟩:=dV hM n (aF _);have h0:(gA (cM M n).1 (cM M n).2 n (cM M n).2.length).getD t 0=0:=by
  by_cases hp:t∈(cM M n).2
  ·obtain⟨j,hj,rfl⟩:=tB hp;rw[hd.xin hj,dF,List.getD,List.getElem?_eq_none (by rw[r1.getD (by omega)];exact aF _)];rfl
  ·exact uF hp
 rw[h0,bI,bY,hx t ht,Ck]at h1;rw[h1,mH];exact cL fun k hk=>by rw[dF,AM M n (by rw[mH];exact hk)]
theorem I9{c:Nat->Rat}(h:∀t,t<n->cZ (fun k=>c k*dF (cT M n) k t) (cT M n).length=0):∀k,k<(cT M n).length->c k=0:=fun k hk=>by
 have Vw:k<(jO (cM M n).2 n).length:=by rw[<-mH];exact hk
 have hf:=mF.1 (qG Vw);have h1:=h _ hf.1;obtain⟨r,hr⟩:∃r,(cT M n)[k]? =some r:=⟨_,aB hk⟩
 rw[eu hk fun i hi OJ=>?_]at h1
 ·rw[dF,show(cT M n).getD k []=r by rw[List.getD,hr];rfl,zw hr hr,if_pos rfl,Rat.mul_one]at h1;exact h1
 ·obtain⟨s,hs⟩:∃s,(cT M n)[i]? =some s:=⟨_,aB hi⟩
  rw[dF,show(cT M n).getD i []=s by rw[List.getD,hs];rfl,zw hr hs,aK OJ,bD]
end
theorem AN(p:Nat->Bool):∀l:List Nat,l.length=(l.filter p).length+(l.filter fun c=> !p c).length
 |[]=>rfl
 |c::l=>by
  have ih:=AN p l;rw[List.filter_cons,List.filter_cons]
  cases p c with
  |true=>simp;omega
  |false=>simp;omega
theorem LP{n:Nat}(hn:pv.Nodup)(hl:∀p∈pv,p<n):(jO pv n).length=n-pv.length:=by
 have h1:(List.range n).length=((List.range n).filter fun c=>decide (c∉pv)).length+((List.range n).filter fun c=>decide (c∈pv)).length:=by
  refine(AN (fun c=>decide (c∉pv)) (List.range n)).trans ?_;congr 2;refine List.filter_congr fun c _=>?_;by_cases h:c∈pv<;>simp[h]
 have h2:((List.range n).filter fun c=>decide (c∈pv)).length=pv.length:=by
  refine(List.Perm.length_eq ?_);refine(List.perm_ext_iff_of_nodup (List.Pairwise.filter _ List.nodup_range) hn).2 fun c=>?_;rw[List.mem_filter,List.mem_range,decide_eq_true_eq];exact⟨fun h=>h.2,fun h=>⟨hl c h,h⟩⟩
 rw[List.length_range]at h1;unfold jO;omega
theorem AO{n:Nat}(hM:fZ n M):(cT M n).length=n-(cM M n).2.length:=by
 obtain⟨r1,r2,r3,r4,r5⟩:=dV hM n (aF _);have RQ:=iK M n;rw[mH];exact LP (RQ.2.1.imp fun h=>Nat.ne_of_lt h) r4
end Go.Ex
namespace Go.Ex
open Go Go.Sx Go.Proofs
variable{after:Array Edge}{z:Int}{p:Int×Int×Rat}{M:List (List Rat)}{css:List (List Value)}{l:List Int}{cs:List Value}{i j:Nat}{C S S':Nat->Prop}{guard:Option (Nat×Bool)}{a:Option Addr}{dst:Option Tmp}{K:SV->Hp->Nat->Iv->World->Prop}{v:Value}{w w2:World}{f:ew}
theorem cR.nil:cR w S (.slice none 0 0) []:=⟨[],⟨by decide,rfl,fun u hu=>absurd hu (by simp),none,0,rfl,aF _,fun j u hu=>absurd hu (by simp)⟩,rfl,fun i u x h1 h2=>absurd h2 (by simp)⟩
theorem dC.nil:dC w S (.slice none 0 0) []:=⟨by decide,rfl,fun u hu=>absurd hu (by simp),none,0,rfl,aF _,fun j u hu=>absurd hu (by simp)⟩
theorem E9(M:List (List Rat)):(dS M 0).1=[]∧(dS M 0).2.1=[]∧(dS M 0).2.2=[]:=by simp[dS,dJ]
theorem Ea(M:List (List Rat)):lQ M 0=[]:=by simp[lQ,eE]
set_option maxHeartbeats 1000000 in
theorem yH(hC:Old C w)(hS:Old S w)(hM:lY w C S v M)(hlen:fZ 0 M)(hR:M.length<=1000):
  eD PG N.fe #[.agg #[v,.int .i64 0],.int .i64 0] w (eG w fun v' w2=>v'= .agg #[.slice none 0 0,.int .i64 0,.slice none 0 0,.slice none 0 0]):=by
 have hw:=bR w;obtain⟨am,cm,rfl,SC,SA⟩:=lY.shape hM;unfold maxLen at SA;refine jl (by simp) ?_;refine⟨0,0,rfl,rfl,aF _,by omega,by omega,World,fun z=>⟨[(1,iZ 0),(2,pP 0 0),(4,pP 1 0),(5,pP 2 0),(6,.o (.s 3 0 0 0)),(27,iZ 0),(28,iZ 0)],[(3,.arr T.int []),(2,.box T.dX [.v (.slice none 0 0),.v (.int .i64 0),.v (.slice none 0 0),.v (.slice none 0 0)]),(1,.box T.dX [.v (.slice none 0 0),.v (.int .i64 0),.v (.slice none 0 0),.v (.slice none 0 0)]),(0,.box T.dx [.v (.slice am M.length cm),.v (.int .i64 0)])],4,[],z⟩,fun z=>0,fun z=>dm w.heap.size w z,?_,?_⟩
 ·intro O w' r3;exact⟨w',hw.tr r3.cQ,Sub.gn [] r3⟩
 rintro w1 hw;dsimp only at hw ⊢
 refine⟨Nat×World,fun z=>⟨[(38,iN z.1),(1,iZ 0),(2,pP 0 0),(4,pP 1 0),(5,pP 2 0),(6,.o (.s 3 0 0 0)),(36,sV am M.length cm),(37,iZ M.length)],[(3,.arr T.int []),(2,.box T.dX [.v (.slice none 0 0),.v (.int .i64 0),.v (.slice none 0 0),.v (.slice none 0 0)]),(1,.box T.dX [.v (.slice none 0 0),.v (.int .i64 0),.v (.slice none 0 0),.v (.slice none 0 0)]),(0,.box T.dx [.v (.slice am M.length cm),.v (.int .i64 0)])],5,[],z.2⟩,fun z=>M.length-z.1,
  fun z=>z.1<=M.length∧dm w.heap.size w z.2,?_,?_⟩
 ·intro O w' r3;exact⟨(0,w'),⟨aO _,hw.tr r3.cQ⟩,Sub.gn [] r3⟩
 rintro⟨i,w1⟩ ⟨hi,hw⟩;dsimp only at hi hw ⊢;refine dI.mk ?_ ?_<;>intro OI
 ·have OI:i<M.length:=by simpa using OI
  obtain⟨x,hx⟩:∃r,M[i]? =some r:=⟨_,aB OI⟩
  have Pk:=hlen x (aC hx);obtain rfl:=List.eq_nil_of_length_eq_zero Pk;obtain⟨adm,um,QE,Oj,km1,km2⟩:=lY.load hM hx;obtain⟨css,⟨-,g1,g2,a0,c0,rfl,g4,g5⟩,PQ,RL,PE⟩:=Oj;obtain rfl:=List.eq_nil_of_length_eq_zero PQ;refine⟨adm,QE,by omega,.slice a0 0 c0,rd1 km2 hw (hC _ km1),?_⟩;refine .inl ?_;refine⟨[],rfl,g2,fun O w' r Od=>absurd Od (by simp),rfl,by omega,by unfold maxLen;omega,World,fun z=>⟨[(9,.o (.w 6 0)),(46,iZ 0),(47,iZ 0),(2,pP 0 0),(4,pP 1 0),(5,pP 2 0),(6,.o (.s 3 0 0 0)),(8,iN i),(36,sV am M.length cm),(37,iZ M.length),(38,iN i),(1,iZ 0)],[(6,.vec T.Rat 4 []),(3,.arr T.int []),(2,.box T.dX [.v (.slice none 0 0),.v (.int .i64 0),.v (.slice none 0 0),.v (.slice none 0 0)]),(1,.box T.dX [.v (.slice none 0 0),.v (.int .i64 0),.v (.slice none 0 0),.v (.slice none 0 0)]),(0,.box T.dx [.v (.slice am M.length cm),.v (.int .i64 0)])],7,[],z⟩,fun z=>0,fun z=>dm w.heap.size w z,?_,?_⟩
  ·intro O w' r3;exact⟨w',hw.tr r3.cQ,Sub.gn [] r3⟩
  rintro w1 hw;dsimp only at hw ⊢;refine⟨World,fun z=>⟨[(9,.o (.w 6 0)),(12,iZ 0),(2,pP 0 0),(4,pP 1 0),(5,pP 2 0),(6,.o (.s 3 0 0 0)),(8,iN i),(36,sV am M.length cm),(37,iZ M.length),(38,iN i),(1,iZ 0)],[(6,.vec T.Rat 4 []),(3,.arr T.int []),(2,.box T.dX [.v (.slice none 0 0),.v (.int .i64 0),.v (.slice none 0 0),.v (.slice none 0 0)]),(1,.box T.dX [.v (.slice none 0 0),.v (.int .i64 0),.v (.slice none 0 0),.v (.slice none 0 0)]),(0,.box T.dx [.v (.slice am M.length cm),.v (.int .i64 0)])],7,[],z⟩,fun z=>0,fun z=>dm w.heap.size w z,?_,?_⟩
  ·intro O w' r3;exact⟨w',hw.tr r3.cQ,Sub.gn [] r3⟩
  rintro w1 hw;dsimp only at hw ⊢;refine⟨((i+1:Nat):Int),wo,?_⟩;intro ρ3 w3 r3;exact⟨(i+1,w3),⟨OI,hw.tr r3.cQ⟩,Sub.gn [] r3,by dsimp only;omega⟩
 refine⟨World,fun z=>⟨[(4,pP 1 0),(5,pP 2 0),(17,pP 5 0),(159,.o (.s 3 0 0 0)),(160,iZ 0),(161,iZ 0)],[(5,.box T.dX [.v (.slice none 0 0),.v (.int .i64 0),.v (.slice none 0 0),.v (.slice none 0 0)]),(3,.arr T.int []),(2,.box T.dX [.v (.slice none 0 0),.v (.int .i64 0),.v (.slice none 0 0),.v (.slice none 0 0)]),(1,.box T.dX [.v (.slice none 0 0),.v (.int .i64 0),.v (.slice none 0 0),.v (.slice none 0 0)]),(0,.box T.dx [.v (.slice am M.length cm),.v (.int .i64 0)])],6,[],z⟩,fun z=>0,fun z=>dm w.heap.size w z,?_,?_⟩
 ·intro O w' r3;exact⟨w',hw.tr r3.cQ,Sub.gn [] r3⟩
 rintro w1 hw;dsimp only at hw ⊢;exact rtn hw fun ρe we re=>rfl
theorem Hv(hC:Old C w)(hS:Old S w)(hM:lY w C S v M)(hlen:fZ 0 M)(hR:M.length<=1000):
  eD PG N.fe #[.agg #[v,.int .i64 0],.int .i64 0] w (eG w fun v' w2=>∃vr vp vf,v'= .agg #[vr,.int .i64 0,vp,vf]∧cR w2 (Nw S w w2) vr (dS M 0).1∧dC w2 (Nf w w2) vp (dS M 0).2.1∧dC w2 (Nf w w2) vf (dS M 0).2.2):=by
 refine(yH hC hS hM hlen hR).mono fun v1 w1 h1=>?_;obtain⟨_,e,hb,rfl⟩:=h1;obtain⟨e1,e2,e3⟩:=E9 M;rw[e1,e2,e3];exact⟨_,e,hb,_,_,_,rfl,cR.nil,dC.nil,dC.nil⟩
theorem BX{n h:Nat}(hC:Old C w)(hS:Old S w)(hM:lY w C S v M)(hlen:fZ n M)(hR:M.length<=1000)(hn:n<=1000)(hB:EZ M n h)(hh:3*h<=90000):
  eD PG N.fe #[.agg #[v,.int .i64 n],.int .i64 n] w (eG w fun v' w2=>∃vr vp vf,v'= .agg #[vr,.int .i64 n,vp,vf]∧cR w2 (Nw S w w2) vr (dS M n).1∧dC w2 (Nf w w2) vp (dS M n).2.1∧dC w2 (Nf w w2) vf (dS M n).2.2):=by
 rcases bJ n with h0|h0
 ·subst h0;exact Hv hC hS hM hlen hR
 ·exact xE hC hS hM hlen h0 hn hR (aF _) hB hh
set_option maxHeartbeats 1000000 in
theorem Hw(hC:Old C w)(hS:Old S w)(hM:lY w C S v M)(hlen:fZ 0 M)(hR:M.length<=1000):
  eD PG N.gb #[.agg #[v,.int .i64 0]] w (eG w fun v' w2=>cR w2 (Nf w w2) v' (lQ M 0)):=by
 have hw:=bR w;obtain⟨am,cm,rfl,SC,SA⟩:=lY.shape hM;unfold maxLen at SA;refine jm (by simp) ?_
 refine cD (cO (Φ:=fun _ w' v w2=>v= .agg #[.slice none 0 0,.int .i64 0,.slice none 0 0,.slice none 0 0]) (fun O w' r=>by
  obtain⟨rv,m1,m2,m3⟩:=hM
  exact yH (C:=C) (S:=S) (oS hC r) (oS hS r) ⟨rv,m1.cI fun g hg=>(hw.tr r.cQ).block g (hC g hg),m2,fun i u x h1 h2=>cN.cI (m3 i u x h1 h2) fun g hg=>(hw.tr r.cQ).block g (hS g hg)⟩ hlen hR) ?_)
 rintro O QA v1 Pg r he PL rfl;replace hw:=hw.tr PL;generalize (QA.heap.size,Pg.heap.size)::[]=OP at*
 refine⟨0,0,rfl,rfl,aF _,by omega,by omega,World×Iv,fun z=>⟨[(1,pP 0 0),(3,pP 1 0),(4,.o (.s 2 0 0 0)),(20,sV none 0 0),(21,iZ 0),(22,iZ 0)],[(2,.arr T.bool []),(1,.box T.dX [.v (.slice none 0 0),.v (.int .i64 0),.v (.slice none 0 0),.v (.slice none 0 0)]),(0,.box T.dx [.v (.slice am M.length cm),.v (.int .i64 0)])],3,z.2,z.1⟩,fun z=>0,fun z=>dm w.heap.size w z.1,?_,?_⟩
 ·intro O w' r3;exact⟨(w',_),hw.tr r3.cQ,Sub.gn [] r3⟩
 rintro⟨w1,iv⟩ hw;dsimp only at hw ⊢;refine⟨World×Iv,fun z=>⟨[(32,iZ 0),(7,sV none 0 0),(1,pP 0 0),(3,pP 1 0),(4,.o (.s 2 0 0 0)),(31,iZ 0)],[(2,.arr T.bool []),(1,.box T.dX [.v (.slice none 0 0),.v (.int .i64 0),.v (.slice none 0 0),.v (.slice none 0 0)]),(0,.box T.dx [.v (.slice am M.length cm),.v (.int .i64 0)])],3,z.2,z.1⟩,fun z=>0,fun z=>dm w.heap.size w z.1,?_,?_⟩
 ·intro O w' r3;exact⟨(w',_),hw.tr r3.cQ,Sub.gn [] r3⟩
 rintro⟨w1,iv⟩ hw;dsimp only at hw ⊢;intro ρe we re;rw[Ea];exact⟨_,rfl,hw.tr re.cQ,cR.nil⟩
theorem Hx{n h:Nat}(hC:Old C w)(hS:Old S w)(hM:lY w C S v M)(hlen:fZ n M)(hR:M.length<=1000)(hn:n<=1000)(hB:EZ M n h)(hAb:Ht (dS M n).1 h)(hh:3*h<=90000):
  eD PG N.gb #[.agg #[v,.int .i64 n]] w (eG w fun v' w2=>cR w2 (Nf w w2) v' (lQ M n)):=by
 rcases bJ n with h0|h0
 ·subst h0;exact Hw hC hS hM hlen hR
 ·exact Jy hC hS hM hlen h0 hn hR hB hAb hh
theorem jo{k:Nat}(h:∀cs∈css,cs.length=k):css.flatten.length=css.length*k:=by
 induction css with
 |nil=>simp
 |cons c r ih=>rw[List.flatten_cons,List.length_append,h c aG,ih fun x hx=>h x (List.mem_cons_of_mem _ hx),List.length_cons,Nat.succ_mul];omega
theorem rT{k:Nat}(h:∀cs∈css,cs.length=k)(hj:css[j]? =some cs)(i:Nat)(u:Value)(hu:cs[i]? =some u):css.flatten[j*k+i]? =some u:=by
 induction css generalizing j with
 |nil=>cases hj
 |cons c r ih=>
  have hc:=h c aG;have hi:=(aD.1 hu).1
  cases j with
  |zero=>
   injection hj with hj;subst hj;rw[List.flatten_cons,Nat.zero_mul,aS,aL hi];exact hu
  |succ j=>
   rw[List.flatten_cons,aN (by rw[hc,Nat.succ_mul];omega),hc,show(j+1)*k+i-k=j*k+i by rw[Nat.succ_mul];omega];exact ih (fun x hx=>h x (List.mem_cons_of_mem _ hx)) hj
def eN{α:Type}(k:Nat)(P:World->(Nat->Prop)->List Value->α->Prop)(w:World)(S:Nat->Prop)(v:Value)(xs:List α):Prop:=
 ∃css:List (List Value),gO w S k v css.flatten xs.length∧css.length=xs.length∧(∀cs∈css,cs.length=k)∧∀(j:Nat) cs x,css[j]? =some cs->xs[j]? =some x->P w S cs x
section
variable{α:Type}{k:Nat}{P:World->(Nat->Prop)->List Value->α->Prop}{w w2:World}{S S':Nat->Prop}{v:Value}{xs:List α}
theorem eN.cI(hP:∀cs x,P w S cs x->P w2 S cs x)(h:eN k P w S v xs)(hk:∀g,S g->w2.heap[g]? =w.heap[g]?):eN k P w2 S v xs:=by
 obtain⟨css,h1,h2,h3,h4⟩:=h;exact⟨css,h1.cI hk,h2,h3,fun j cs x k1 k2=>hP cs x (h4 j cs x k1 k2)⟩
theorem eN.cJ(hP:∀cs x,P w S cs x->P w S' cs x)(h:eN k P w S v xs)(hk:∀g,S g->S' g):eN k P w S' v xs:=by
 obtain⟨css,h1,h2,h3,h4⟩:=h;exact⟨css,h1.cJ hk,h2,h3,fun j cs x k1 k2=>hP cs x (h4 j cs x k1 k2)⟩
theorem eN.shape(h:eN k P w S v xs):∃a c,v= .slice a xs.length c∧xs.length<=c∧xs.length<=maxLen:=by
 obtain⟨css,⟨h0,_,_,a,c,h1,h2,_⟩,_⟩:=h;exact⟨a,c,h1,h2,h0⟩
theorem eN.load{m c:Nat}{x:α}(hk:0<k)(h:eN k P w S (.slice a m c) xs)(hq:xs[j]? =some x):
  ∃ad cs,a=some ad∧P w S cs x∧cs.length=k∧∀i u,cs[i]? =some u->S ad.block∧w.cell? ((ad.add (j*k)).add i)=some u:=by
 obtain⟨css,⟨h0,h1,h2,a',c',e,h3,h4⟩,hl,hl4,hf⟩:=h;injection e with e1 e2 e3;subst e1;obtain⟨cs,PE⟩:∃cs,css[j]? =some cs:=⟨_,aB (by rw[hl];exact(aD.1 hq).1)⟩
 have hl:=hl4 cs (aC PE);obtain⟨ad,k1,k2,k3⟩:=h4 (j*k+0) _ (rT hl4 PE 0 _ (aB (show 0<cs.length by omega)));refine⟨ad,cs,k1,hf j cs x PE hq,hl,fun i u hu=>?_⟩;obtain⟨ad2,m1,m2,m3⟩:=h4 (j*k+i) u (rT hl4 PE i u hu);rw[k1]at m1;injection m1 with m1;subst m1;refine⟨m2,?_⟩;rw[<-m3];have:(ad.add (j*k)).add i=ad.add (j*k+i):=by
  unfold Addr.add;split<;>split<;>simp_all<;>omega
 rw[this]
end
def Iz(_w:World)(_S:Nat->Prop)(cs:List Value)(p:Int×Int×Int):Prop:=cs=[.int .i64 p.1,.int .i64 p.2.1,.int .i64 p.2.2]
def JA(_w:World)(_S:Nat->Prop)(cs:List Value)(p:Ld):Prop:=cs=[.int .i64 p.1,.int .i64 p.2.1,.int .i64 p.2.2.1,.int .i64 p.2.2.2]
def E2(w:World)(S:Nat->Prop)(cs:List Value)(p:Int×Int×Rat):Prop:=∃b a n c b2 a2 n2 c2,cs=[.int .i64 p.1,.int .i64 p.2.1,.bool b,.slice a n c,.bool b2,.slice a2 n2 c2]∧eS w S (.agg #[.bool b,.slice a n c,.bool b2,.slice a2 n2 c2]) p.2.2
theorem E2.cI(h:E2 w S cs p)(hk:∀g,S g->w2.heap[g]? =w.heap[g]?):E2 w2 S cs p:=by
 obtain⟨b,a,n,c,b2,a2,n2,c2,h1,h2⟩:=h;exact⟨b,a,n,c,b2,a2,n2,c2,h1,h2.cI hk⟩
theorem E2.cJ(h:E2 w S cs p)(hk:∀g,S g->S' g):E2 w S' cs p:=by
 obtain⟨b,a,n,c,b2,a2,n2,c2,h1,h2⟩:=h;exact⟨b,a,n,c,b2,a2,n2,c2,h1,h2.cJ hk⟩
abbrev nS:=eN 3 Iz
abbrev fu:=eN 4 JA
abbrev MC:=eN 6 E2
structure dT(w:World)(S:Nat->Prop)(vn vb vs:Value)(f:ew):Prop where
 nodes:nS w S vn f.nodes
 bars:MC w S vb f.bars
 cV:MC w S vs f.cV
section
variable{S S':Nat->Prop}{H:Hp}{nx:Nat}{iv iv':Iv}{B:Nat}{w w' w2:World}{O:Nat->Sx.di}{v vn vb vs:Value}{f:ew}{l:List Ld}
theorem fu.cI(h:fu w S v l)(hk:∀g,S g->w2.heap[g]? =w.heap[g]?):fu w2 S v l:=eN.cI (w:=w) (fun _ _ h=>h) h hk
theorem dT.cI(h:dT w S vn vb vs f)(hk:∀g,S g->w2.heap[g]? =w.heap[g]?):dT w2 S vn vb vs f:=
 ⟨eN.cI (w:=w) (fun _ _ h=>h) h.nodes hk,eN.cI (fun _ _ h=>h.cI hk) h.bars hk,eN.cI (fun _ _ h=>h.cI hk) h.cV hk⟩
theorem dT.cJ(h:dT w S vn vb vs f)(hk:∀g,S g->S' g):dT w S' vn vb vs f:=
 ⟨eN.cJ (S:=S) (fun _ _ h=>h) h.nodes hk,eN.cJ (fun _ _ h=>h.cJ hk) h.bars hk,eN.cJ (fun _ _ h=>h.cJ hk) h.cV hk⟩
theorem dT.rel(h:dT w (Cv S B iv) vn vb vs f)(r:Rel H nx iv B w O w')(hS:∀g,S g->g<B):dT w' (Cv S B iv) vn vb vs f:=h.cI fun _ hg=>Rel.same r hS hg
theorem dT.shape(h:dT w S vn vb vs f):∃an cn ab cb aq cs,vn= .slice an f.nodes.length cn∧vb= .slice ab f.bars.length cb∧vs= .slice aq f.cV.length cs∧f.nodes.length<=maxLen∧f.bars.length<=maxLen∧f.cV.length<=maxLen:=by
 obtain⟨an,cn,h1,_,h2⟩:=h.nodes.shape;obtain⟨ab,cb,h3,_,h4⟩:=h.bars.shape;obtain⟨aq,cs,h5,_,h6⟩:=h.cV.shape;exact⟨an,cn,ab,cb,aq,cs,h1,h3,h5,h2,h4,h6⟩
end
theorem BS{P:Program}{τ:nW}{B nx:Nat}{l:Env}{H:Hp}{iv:Iv}(hτ:fO P τ){t ty len e sz by_:Nat}{ag:Bool}{ze ze2:List Value}{ik ik2:IntKind}{b2 tag2 al2 e0:Nat}{fs fs2:List (Nat×Nat)}{x i:Operand}{pos:String}{vx:SV}{cs:Array Value}{k:IntKind}{m:Int}{u:Value}
  (ht:τ t=some ⟨sz,ag,by_,ze,6,ik,e,len,fs⟩) (PW:τ e=some ⟨1,false,b2,ze2,tag2,ik2,e0,al2,fs2⟩) (hx:ev l x=some vx) (Ue:∀O,vx.den O= .agg cs) (hi:ev l i=some (.o (.v (.int k m)))) (hm:0<=m∧m<len) (hc:cs[m.toNat]? =some u)
  (hK:∀O w',Rel H nx iv B w O w'->K (.o (.v u)) H nx iv w'):zZ P B ⟨dst,.index t x i,ty,pos,after,guard⟩ l H nx iv w K:=by
 have hto:=(hτ t _ ht).i6 rfl;have SJ:=hτ e _ PW;refine HM hto (fun w=>SJ.sizeOf w) (fun w j v hv=>?_) hx Ue hi hm hc hK;simp[part,SJ.isAgg,hv]
structure iE(w:World)(B:Nat)(iv:Iv)(rv:List Value)(n:Nat)(M:List (List Int)):Prop where
 len:rv.length=M.length
 wid:∀l∈M,l.length=n
 row:∀(i:Nat) v l,rv[i]? =some v->M[i]? =some l->w.ownsRow 0 T.int 1 v n (l.map fun z=>.int .i64 z)
 Bj:∀(i j:Nat) a b g,rv[i]? =some a->rv[j]? =some b->a.ownBlock=some g->b.ownBlock=some g->i=j
 new:∀g,Ob rv g->Cv FF B iv g
section
variable{H:Hp}{nx n:Nat}{iv iv':Iv}{B:Nat}{w w' w2:World}{O:Nat->Sx.di}{rv:List Value}{M:List (List Int)}
theorem iE.nil:iE w B iv [] n []:=⟨rfl,fun l h=>(by cases h),fun i v l h=>(by cases h),fun i j a b g h=>(by cases h),fun g ⟨v,hv,_⟩=>by cases hv⟩
theorem iE.cI(h:iE w B iv rv n M)(hk:∀g,Cv FF B iv g->w2.heap[g]? =w.heap[g]?):iE w2 B iv rv n M:=
 ⟨h.len,h.wid,fun i v l h1 h2=>ownsRow.cI (h.row i v l h1 h2) fun g hg=>hk g (h.new g ⟨v,aC h1,hg⟩),h.Bj,h.new⟩
theorem iE.rel(h:iE w B iv rv n M)(r:Rel H nx iv B w O w'):iE w' B iv rv n M:=h.cI fun _ hg=>Rel.same r (gg B) hg
theorem iE.mono(h:iE w B iv rv n M)(hm:∀p,p∈iv->p∈iv'):iE w B iv' rv n M:=⟨h.len,h.wid,h.row,h.Bj,fun g hg=>(h.new g hg).mono hm⟩
theorem iE.cG(h:iE w B iv rv n M)(r:Rel H nx iv B w O w')(he:Ext w' w2)(hm:∀p,p∈iv->p∈iv'):iE w2 B iv' rv n M:=
 ((h.rel r).cI fun g hg=>he.block g (Rel.old r (gg B) g hg)).mono hm
theorem iE.form(hM:iE w B iv rv n M)(hv:rv[i]? =some v):∃a c,v= .slice a n c:=by
 obtain⟨l,hl⟩:∃l,M[i]? =some l:=⟨_,aB (by rw[<-hM.len];exact(aD.1 hv).1)⟩
 obtain⟨a,c,h,_⟩:=fJ (hM.row i v l hv hl);exact⟨a,c,h⟩
theorem iE.one(hM:iE w B iv rv n M):∀u∈rv,u.oneCell'=true:=fun u hu=>by
 obtain⟨i,hi⟩:=aR hu;obtain⟨a,c,rfl⟩:=hM.form hi;rfl
theorem iE.load(hM:iE w B iv rv n M){k:Nat}{c:Nat}(hv:rv[i]? =some (.slice a n c))(hl:M[i]? =some l)(hk:l[k]? =some z):
  ∃ad,a=some ad∧Cv FF B iv ad.block∧w.cell? (ad.add (k*1))=some (.int .i64 z):=by
 have h:=hM.row i _ l hv hl;have hlen:=hM.wid l (aC hl);rcases h.2 with⟨_,h0⟩|⟨g,cap,cur,e,_⟩
 ·have:=(aD.1 hk).1;omega
 ·injection e with e;refine⟨⟨g,0,none⟩,e,hM.new g ⟨_,aC hv,by rw[e];rfl⟩,?_⟩;have:=h.cells (g:=g) (by rw[e];rfl) k (.int .i64 z) (by rw[aM,hk];rfl);rw[aU];exact this
theorem iE.store(hM:iE w B iv rv n M)(r:Rel H nx iv B w O w'){k:Nat}{c:Nat}(hv:rv[i]? =some (.slice a n c))(hl:M[i]? =some l)(hk:k<n):
  ∃g,a=some ⟨g,0,none⟩∧((⟨g,0,none⟩:Addr).add ((k:Int).toNat*1)).spot=none∧
   (∀j,j<1->(w'.cell? (((⟨g,0,none⟩:Addr).add ((k:Int).toNat*1)).add j)).isSome=true∧w'.frozen? (((⟨g,0,none⟩:Addr).add ((k:Int).toNat*1)).add j)=false)∧
   (∀id b,dE H id=some b->(O id).nil=false->(O id).g≠((⟨g,0,none⟩:Addr).add ((k:Int).toNat*1)).block)∧
   ∀w2,w2=setCells w' ((⟨g,0,none⟩:Addr).add ((k:Int).toNat*1)) [.int .i64 z]->iE w2 B iv rv n (M.set i (l.set k z))∧dm B w' w2∧Rel H nx iv B w2 O w2∧w'.grownBy w2 (some g)∧Ob rv g:=by
 have Vd:=hM.rel r;have h1:=Vd.row i _ l hv hl;have hlen:=hM.wid l (aC hl);obtain⟨g,rfl,OM,Px,Pc,Om⟩:=qB (nv:=[.int .i64 z]) h1 rfl hk rfl (by decide);have Q1:Ob rv g:=⟨_,aC hv,rfl⟩
 have Ol:(⟨g,0,none⟩:Addr).add ((k:Int).toNat*1)=⟨g,k*1,none⟩:=by rw[aE,dZ,aS]
 have Qt:=Rel.not r (gg B) (hM.new g Q1);refine⟨g,rfl,by rw[Ol],fun j hj=>by rw[Ol];exact OM j hj,fun id b hb hn=>by rw[Ol];exact Qt id b hb hn,fun w2 PN=>?_⟩;rw[Ol]at PN;subst PN;refine⟨⟨by rw[ah];exact hM.len,fun x hx=>?_,fun j v l2 h3 h4=>?_,hM.Bj,hM.new⟩,dm.grown Pc (fun x e=>by injection e with e;subst e;exact(hM.new g Q1).elim (fun h=>h.elim) fun h=>h.1) r.cF,r.z5 Qt Pc,Pc,Q1⟩
 ·rcases bF hx with hx|rfl
  ·exact hM.wid x hx
  ·rw[ah];exact hlen
 ·by_cases Pt:i=j
  ·subst Pt;rw[hv]at h3;injection h3 with h3;subst h3;rw[aV (by rw[<-hM.len];exact(aD.1 hv).1)]at h4;injection h4 with h4;subst h4;rw[List.map_set,<-gC (by rw[aJ];omega)];simp only[aU]at Px ⊢;exact Px
  ·rw[aZ Pt]at h4;refine ownsRow.cI (Vd.row j v l2 h3 h4) fun x hx=>Pc.block x ?_ fun e=>?_
   ·exact Rel.old r (gg B) x (hM.new x ⟨v,aC h3,hx⟩)
   ·injection e with e;exact Pt (hM.Bj i j _ v x hv h3 (by rw[<-e];rfl) hx)
theorem iE.push(hM:iE w B iv rv n M){gx:Nat}(S4:∀g,Cv FF B iv g->g≠gx)(hBx:B<=gx)(hl:l.length=n)(OK:w.ownsRow 0 T.int 1 (.slice (some ⟨gx,0,none⟩) n n) n (l.map fun z=>.int .i64 z)):
  iE w B ((gx,gx+1)::iv) (rv++[.slice (some ⟨gx,0,none⟩) n n]) n (M++[l]):=by
 have Q1:∀g,Ob rv g->g≠gx:=fun g hg=>S4 g (hM.new g hg);have key:∀(k:Nat) v,(rv++[Value.slice (some ⟨gx,0,none⟩) n n])[k]? =some v->(k<rv.length∧rv[k]? =some v)∨(k=rv.length∧v= .slice (some ⟨gx,0,none⟩) n n):=fun k v hk=>by
  rcases aQ k rv.length with hi|hi
  ·rw[aL hi]at hk;exact .inl ⟨hi,hk⟩
  ·have Rp:k=rv.length:=by have:=(aD.1 hk).1;simp at this;omega
   rw[Rp,aN (aF _),bL]at hk;simp at hk;exact .inr ⟨Rp,hk.symm⟩
 refine⟨by simp[hM.len],fun x hx=>?_,fun i v x h1 h2=>?_,fun i j a b g h1 h2 h3 h4=>?_,fun g hg=>?_⟩
 ·rcases bK.1 hx with hx|hx
  ·exact hM.wid x hx
  ·rw[bB.1 hx];exact hl
 ·rcases key i v h1 with⟨hi,k1⟩|⟨e1,rfl⟩
  ·rw[aL (by rw[<-hM.len];exact hi)]at h2;exact hM.row i v x k1 h2
  ·rw[e1,hM.len,aN (aF _),bL]at h2;simp at h2;subst h2;exact OK
 ·rcases key i a h1 with⟨_,k1⟩|⟨e1,rfl⟩<;>rcases key j b h2 with⟨_,k2⟩|⟨e2,rfl⟩
  ·exact hM.Bj i j a b g k1 k2 h3 h4
  ·injection h4 with h4;exact absurd h4.symm (Q1 g ⟨a,aC k1,h3⟩)
  ·injection h3 with h3;exact absurd h3.symm (Q1 g ⟨b,aC k2,h4⟩)
  ·rw[e1,e2]
 ·rcases Ob.append.1 hg with h|h
  ·exact(hM.new g h).mono fun p hp=>List.mem_cons_of_mem _ hp
  ·injection h with h;have h:gx=g:=h;subst h;exact .inr ⟨hBx,_,_,aG,aF _,b9 _⟩
end
def oR(w:World)(S:Nat->Prop)(v:Value)(l:List Int):Prop:=gO w S 1 v (l.map fun z=>.int .i64 z) l.length
abbrev ta:=c9 oR
theorem oR.cI(h:oR w S v l)(hk:∀g,S g->w2.heap[g]? =w.heap[g]?):oR w2 S v l:=gO.cI h hk
theorem oR.cJ(h:oR w S v l)(hk:∀g,S g->S' g):oR w S' v l:=gO.cJ h hk
theorem ta.cI{M:List (List Int)}(h:ta w S v M)(hk:∀g,S g->w2.heap[g]? =w.heap[g]?):ta w2 S v M:=by
 obtain⟨rv,h1,h2,h3⟩:=h;exact⟨rv,h1.cI hk,h2,fun i u x k1 k2=>(h3 i u x k1 k2).cI hk⟩
theorem ta.cJ{M:List (List Int)}(h:ta w S v M)(hk:∀g,S g->S' g):ta w S' v M:=by
 obtain⟨rv,h1,h2,h3⟩:=h;exact⟨rv,h1.cJ hk,h2,fun i u x k1 k2=>(h3 i u x k1 k2).cJ hk⟩
theorem oR.at{m c:Nat}(h:oR w S (.slice a m c) l)(hj:l[j]? =some z):∃ad,a=some ad∧S ad.block∧w.cell? (ad.add (j*1))=some (.int .i64 z):=by
 obtain⟨h0,h1,h2,a',c',e,h3,h4⟩:=h;injection e with e1 e2 e3;subst e1;obtain⟨ad,k1,k2,k3⟩:=h4 j (.int .i64 z) (by rw[aM,hj];rfl);exact⟨ad,k1,k2,by rw[aU];exact k3⟩
theorem oR.shape(h:oR w S v l):∃a c,v= .slice a l.length c∧l.length<=c∧l.length<=maxLen:=by
 obtain⟨h0,h1,h2,a,c,e,h3,h4⟩:=h;exact⟨a,c,e,h3,h0⟩
structure vM(f:ew):Prop where
 co:∀p∈f.nodes,(-1000000<=p.1∧p.1<=1000000)∧(-1000000<=p.2.1∧p.2.1<=1000000)∧(-1000000<=p.2.2∧p.2.2<=1000000)
 NH:∀b∈f.bars,(0<=b.1∧b.1<f.nodes.length)∧(0<=b.2.1∧b.2.1<f.nodes.length)
 sup:∀s∈f.cV,(0<=s.1∧s.1<f.nodes.length)∧(0<=s.2.1∧s.2.1<=2)
 n:f.nodes.length<=20
 b:f.bars.length<=60
 s:f.cV.length<=60
theorem vM.node(h:vM f){i:Int}(h0:0<=i)(h1:i<f.nodes.length):∃k:Nat,∃p,i=k∧k<f.nodes.length∧f.nodes[k]? =some p∧f.node i=p∧(-1000000<=p.1∧p.1<=1000000)∧(-1000000<=p.2.1∧p.2.1<=1000000)∧(-1000000<=p.2.2∧p.2.2<=1000000):=by
 obtain⟨k,rfl⟩:=Int.eq_ofNat_of_zero_le h0;have hk:k<f.nodes.length:=by omega
 refine⟨k,f.nodes[k],rfl,hk,aB hk,?_,h.co _ (aX hk)⟩;rw[ew.node,aE,List.getD,aB hk];rfl
theorem CH{vn vb vs:Value}{a b:Int}{b3 b6:Bool}{a4 a7:Option Addr}{n4 c4 n7 c7:Nat}(hS:Old S w)(hn:nS w S vn f.nodes)(OM:vM f)(hA:0<=a∧a<f.nodes.length)(hB:0<=b∧b<f.nodes.length):
  eD PG N.mO #[.agg #[vn,vb,vs],.agg #[.int .i64 a,.int .i64 b,.bool b3,.slice a4 n4 c4,.bool b6,.slice a7 n7 c7]] w (eG w fun v' _=>v'= .agg #[.int .i64 ((f.node b).1-(f.node a).1),.int .i64 ((f.node b).2.1-(f.node a).2.1),.int .i64 ((f.node b).2.2-(f.node a).2.2)]):=by
 have hw:=bR w;obtain⟨an,cn,rfl,hcn,Qj⟩:=hn.shape;unfold maxLen at Qj;obtain⟨ka,pa,ea,hka,hpa,WH,⟨_,_⟩,⟨_,_⟩,⟨_,_⟩⟩:=OM.node hA.1 hA.2;obtain⟨kb,pb,eb,OL,Vf,WI,⟨_,_⟩,⟨_,_⟩,⟨_,_⟩⟩:=OM.node hB.1 hB.2;obtain⟨ada,csa,haa,hPa,-,QC⟩:=hn.load (by decide) hpa;obtain⟨adb,csb,Py,hPb,-,Oq⟩:=hn.load (by decide) Vf;have hPa:csa=[.int .i64 pa.1,.int .i64 pa.2.1,.int .i64 pa.2.2]:=hPa;have hPb:csb=[.int .i64 pb.1,.int .i64 pb.2.1,.int .i64 pb.2.2]:=hPb;subst hPa hPb;rw[WH,WI];subst ea eb;refine pc (by simp) ?_;refine iz hτ da (.x 0 (.x 2 (.x 6 (.x 8 (.ld 1 49200 (.ld 3 49200 (.x 4 (.ld 5 49152 (.ld 7 35840 (.ld 9 35840 (.x 10 (.ld 11 32768 (.two 12 (.x 13 (.x 14 (.x 15 .nil))) 13 (.x 12 (.x 14 (.x 15 .nil)))))))))))))))) (by kernel_rfl) (by kernel_rfl) ?_;refine⟨ada,haa,by omega,[.int .i64 pa.1,.int .i64 pa.2.1,.int .i64 pa.2.2],rfl,rdO QC hw hS,adb,Py,by omega,[.int .i64 pb.1,.int .i64 pb.2.1,.int .i64 pb.2.2],rfl,rdO Oq hw hS,?_,?_⟩
 ·refine⟨[.int .i64 pb.1,.int .i64 pb.2.1,.int .i64 pb.2.2],rfl,rdO Oq hw hS,rfl,rfl,rfl,[.int .i64 pa.1,.int .i64 pa.2.1,.int .i64 pa.2.2],rfl,rdO QC hw hS,rfl,rfl,rfl,[.int .i64 pb.1,.int .i64 pb.2.1,.int .i64 pb.2.2],rfl,rdO Oq hw hS,rfl,rfl,rfl,[.int .i64 pa.1,.int .i64 pa.2.1,.int .i64 pa.2.2],rfl,rdO QC hw hS,rfl,rfl,rfl,[.int .i64 pb.1,.int .i64 pb.2.1,.int .i64 pb.2.2],rfl,rdO Oq hw hS,rfl,rfl,rfl,pb.1-pa.1,wo,pb.2.1-pa.2.1,wo,pb.2.2-pa.2.2,wo,?_⟩;exact rtn hw fun ρe we re=>rfl
 ·refine⟨[.int .i64 pb.1,.int .i64 pb.2.1,.int .i64 pb.2.2],rfl,rdO Oq hw hS,rfl,rfl,rfl,[.int .i64 pa.1,.int .i64 pa.2.1,.int .i64 pa.2.2],rfl,rdO QC hw hS,rfl,rfl,rfl,[.int .i64 pb.1,.int .i64 pb.2.1,.int .i64 pb.2.2],rfl,rdO Oq hw hS,rfl,rfl,rfl,[.int .i64 pa.1,.int .i64 pa.2.1,.int .i64 pa.2.2],rfl,rdO QC hw hS,rfl,rfl,rfl,[.int .i64 pb.1,.int .i64 pb.2.1,.int .i64 pb.2.2],rfl,rdO Oq hw hS,rfl,rfl,rfl,pb.1-pa.1,wo,pb.2.1-pa.2.1,wo,pb.2.2-pa.2.2,wo,?_⟩;exact rtn hw fun ρe we re=>rfl
end Go.Ex
