/- A part of the proof: texts X135 to X138. Each tells its conditions in its theorems. -/
import Derived.Test.YtkdcaknoaeicdaaGreatP2
import Derived.Test.YtkdcaknoaeicdaaGreatP8
import Derived.Test.YtkdcaknoaeicdaaGreatP9
import Derived.Test.YtkdcaknoaeicdaaGreatP10
namespace Go.Ex
open Go Go.Sx Go.Proofs
variable{iv:Iv}{M:List (List Rat)}{css:List (List Value)}{ps pv:List Nat}{b qs x:List Rat}{cs:List Value}{B g h id:Nat}{C S:Nat->Prop}{O:Nat->Sx.df}{a ax:Option Addr}{row:Option Nat}{q:Rat}{v:Value}{w:World}
section
variable{S S':Nat->Prop}{H:Hp}{nx n:Nat}{iv iv':Iv}{B:Nat}{w w' w2:World}{O:Nat->Sx.df}{v:Value}{qs:List Rat}
theorem dS.Md{w0 w1:World}(h:dS w1 S w0.heap.size iv v n qs)(r:Rel H nx iv w0.heap.size w1 O w')(hS:Old S w0):dS w' S w0.heap.size [(w0.heap.size,w'.heap.size)] v n qs:=by
 have h2:=h.rel r hS;have key:∀g {X:Nat->Prop},Cv X w0.heap.size iv g->Cv X w0.heap.size [(w0.heap.size,w'.heap.size)] g:=fun g X hg=>by
  rcases hg with hg|⟨h1,lo,hi,h2,h3,h4⟩
  ·exact .inl hg
  ·exact .inr ⟨h1,_,_,bD.2 rfl,h1,by have:=r.qV lo hi h2;have:=r.size;omega⟩
 exact⟨h2.row.cI fun g hg=>⟨key g hg.1,hg.2⟩,fun g hg=>key g (h2.new g hg)⟩
theorem dS.LL(h:dS w2 (Cv S B iv) w'.heap.size [(w'.heap.size,w2.heap.size)] v n qs)(hB:B<=w'.heap.size):dS w2 S B ((w'.heap.size,w2.heap.size)::iv) v n qs:=by
 have key:∀g {X Y:Nat->Prop},(∀g,Y g->Cv X B iv g)->Cv Y w'.heap.size [(w'.heap.size,w2.heap.size)] g->Cv X B ((w'.heap.size,w2.heap.size)::iv) g:=fun g X Y hY hg=>by
  rcases hg with hg|⟨h1,lo,hi,h2,h3,h4⟩
  ·exact(hY g hg).mono fun p hp=>aC _ hp
  ·simp at h2;obtain⟨rfl,rfl⟩:=h2;exact .inr ⟨by omega,_,_,aJ,h3,h4⟩
 exact⟨h.row.cI fun g hg=>⟨key g (fun _ h=>h) hg.1,hg.2⟩,fun g hg=>key g (fun _ h=>h.elim) (h.new g hg)⟩
def Bs(S:Nat->Prop)(B:Nat)(iv:Iv)(v:Value)(g:Nat):Prop:=Cv S B iv g∧v.ownBlock≠some g
theorem Bs.kept(r:Rel H nx iv B w O w')(hS:∀g,S g->g<B)(hg:w'.grownBy w2 row)(hrow:∀g,row=some g->v.ownBlock=some g):∀g,Bs S B iv v g->w2.heap[g]? =w.heap[g]? :=fun g h=>by
 rw[hg.block g (Rel.old r hS g h.1) fun e=>h.2 (hrow g e.symm),Rel.same r hS h.1]
theorem Bs.same(r:Rel H nx iv B w O w')(hS:∀g,S g->g<B):∀g,Bs S B iv v g->w'.heap[g]? =w.heap[g]? :=fun g h=>Rel.same r hS h.1
theorem Bs.of(r:Rel H nx iv B w O w')(hS:∀g,S g->g<B)(hm:∀p,p∈iv->p∈iv')(hn:dS w2 (fun _=>False) w'.heap.size [(w'.heap.size,w2.heap.size)] v n qs)(h:Cv S B iv g):Bs S B iv' v g:=
 ⟨h.mono hm,fun e=>by
  have h1:=Rel.old r hS g h;rcases hn.new g e with h2|⟨h2,_⟩
  ·exact h2
  ·omega⟩
theorem Bs.mono(hm:∀p,p∈iv->p∈iv')(h:Bs S B iv v g):Bs S B iv' v g:=⟨h.1.mono hm,h.2⟩
theorem dF.at{m c j p:Nat}(h:dF w S (.slice a m c) ps)(hj:ps[j]? =some p):∃ad,a=some ad∧S ad.block∧w.cell? (ad.add (j*1))=some (.int .i64 (p:Int)):=by
 obtain⟨h0,h1,h2,a',c',e,h3,h4⟩:=h;injection e with e1 e2 e3;subst e1;obtain⟨ad,k1,k2,k3⟩:=h4 j (.int .i64 (p:Int)) (by rw[aN,hj];rfl);exact⟨ad,k1,k2,by rw[aU];exact k3⟩
theorem dF.shape(h:dF w S v ps):∃a c,v= .slice a ps.length c∧ps.length<=c∧ps.length<=maxLen:=by
 obtain⟨h0,h1,h2,a,c,e,h3,h4⟩:=h;exact⟨a,c,e,h3,h0⟩
end
theorem zH{E:List (List Rat)}{at_:List (Option Nat)}{fr:List Nat}{n:Nat}(hE:fe n E)(hlt:∀(k r:Nat),at_[k]? =some (some r)->r<E.length):∀k,k<=at_.length->fe n (cd (E,at_,fr) k).1∧∀p∈(cd (E,at_,fr) k).2.1,p<k
 |0,_=>⟨(fun r hr=>by cases hr),fun p hp=>by cases hp⟩
 |k+1,hk=>by
  have ih:=zH (fr:=fr) hE hlt k (by omega);obtain⟨o,ho⟩:∃o,at_[k]? =some o:=⟨_,aB (by omega)⟩
  cases o with
  |none=>
   rw[l9 (s:=(E,at_,fr)) ho];exact⟨ih.1,fun p hp=>Nat.lt_succ_of_lt (ih.2 p hp)⟩
  |some r=>
   rw[lf (s:=(E,at_,fr)) ho];refine⟨fun x hx=>?_,fun p hp=>?_⟩
   ·rcases bQ.1 hx with hx|hx
    ·exact ih.1 x hx
    ·rw[bD.1 hx];have:=hlt k r ho;dsimp only
     rw[List.getD,aB this];exact hE _ (aX this)
   ·rcases bQ.1 hp with hp|hp
    ·exact Nat.lt_succ_of_lt (ih.2 p hp)
    ·rw[bD.1 hp];exact bf _
theorem qo{n:Nat}(cols:Nat)(hM:fe n M):(dR M cols).1.length=(dR M cols).2.1.length∧(dR M cols).2.2.length=(dR M cols).2.1.length∧fe n (dR M cols).1∧(∀p∈(dR M cols).2.1,p<cols)∧(dR M cols).2.1.length<=cols:=by
 have hok:=xz cols hM M.length (aG _);unfold dR;generalize fu M cols M.length=s at*
 obtain⟨E,at_,fr⟩:=s;have hat:at_.length=cols:=hok.at_;obtain⟨q1,q2,-,q4⟩:=tT (E,at_,fr) [] cols (by show cols<=at_.length;omega);obtain⟨f1,f2⟩:=zH (E:=E) (at_:=at_) (fr:=fr) hok.len hok.lt cols (by omega);exact⟨q1,q2,f1,f2,q4⟩
theorem kK(M:List (List Rat))(b:List Rat):(iz M b).length=M.length:=List.length_mapIdx
theorem Gn{n:Nat}(h:fe n M):fe (n+1) (iz M b):=fun r hr=>by
 obtain⟨i,hi⟩:=aS hr;rw[iz,List.getElem?_mapIdx]at hi
 cases hM:M[i]? with
 |none=>rw[hM]at hi;cases hi
 |some x=>
  rw[hM]at hi;simp only[Option.map_some,Option.some.injEq]at hi;rw[<-hi,List.length_append,h x (aD hM)];rfl
theorem Eo{H:Hp}{nx:Nat}{w':World}(r:Rel H nx iv B w O w')(h:dA H id=some (.vec T.Rat 4 ([]++css.flatten++cs)))(hF:Fc w' S css x)(hq:gg w' S cs q)(hm:x.length<maxLen):
  (O id).nil=false∧cO w' (Cv S B (((O id).g,(O id).g+1)::iv)) (.slice (some ⟨(O id).g,0,none⟩) (x.length+1) (O id).cap) (x++[q]):=by
 have hfl:=e9 hF.wW;have hl:([]++css.flatten++cs).length=(x.length+1)*4:=by rw[List.nil_append,List.length_append,hfl,hF.1,hq.len];omega
 have hF2:=hF.push hq;have he:[]++css.flatten++cs=(css++[cs]).flatten:=by simp
 have hv:=Js r (sz:=4) (m:=x.length+1) h hl (by omega) (by decide) (by omega) (fun u hu=>hF2.one u (by rw[<-he];exact hu));refine⟨hv.1,css++[cs],?_,hF2.1,hF2.wW,fun j c y k1 k2=>(hF2.2 j c y k1 k2).cI fun g hg=>.inl hg⟩;rw[List.length_append,List.length_singleton,<-he];exact hv.2.2.cI fun g hg=>.inr ⟨by have:=hv.2.1;omega,_,_,aJ,by omega,by omega⟩
set_option maxHeartbeats 2000000 in
theorem Aw{D:Nat->Prop}{u:Value}{cols:Nat}(hC:Old C w)(hD:Old D w)(hS:Old S w)(hM:jq w C S v M)(hb:fm w D S u b)(hbl:b.length=M.length)(hlen:fe cols M)(hn:cols<=999)(hR:M.length<=1000)(hB:tS (iz M b) (cols+1) h)(hh:3*h<=90000):
  dm PG N.iW #[.agg #[v,.int .i64 cols],u] w (eB w fun v' w2=>(iU M b cols=none∧v'= .tuple #[.slice none 0 0,.bool false])∨∃x vx,iU M b cols=some x∧v'= .tuple #[vx,.bool true]∧dS w2 S w.heap.size [(w.heap.size,w2.heap.size)] vx cols x):=by
 have hw:cV w.heap.size w w:=cV.refl;obtain⟨am,cm,rfl,hcm,hmm⟩:=jq.shape hM;obtain⟨ab,cb,rfl,hcb,hmb⟩:=fm.shape hb;unfold maxLen at hmm hmb;refine nQ (by simp) ?_
 refine⟨((cols+1:Nat):Int),wo,Nat×List Value×World×Iv,fun z=>⟨[(20,.o (.v (.int .i64 ((z.1:Nat):Int)))),(1,.o (.v (.slice ab b.length cb))),(2,.o (.p 0 0)),(6,.o (.p 1 0)),(18,.o (.v (.slice am M.length cm))),(19,.o (.v (.int .i64 M.length)))],[(1,.box T.dc [.w 2 z.2.1.length,.v (.int .i64 ((cols+1:Nat):Int))]),(2,.vec T.gO 1 z.2.1),(0,.box T.dc [.v (.slice am M.length cm),.v (.int .i64 cols)])],3,z.2.2.2,z.2.2.1⟩,fun z=>M.length-z.1,
  fun z=>z.1<=M.length∧cV w.heap.size w z.2.2.1∧dU z.2.2.1 (Cv S w.heap.size z.2.2.2) z.2.1 ((iz M b).take z.1),?_,?_⟩
 ·intro O w' r
  exact⟨(0,[],w',[]),⟨aP _,hw.tr r.cM,by simp[dU]⟩,Sub.zx 1 0 T.gO 1 rfl rfl (by simp[jn,SV.sc,At.sc,fW]) r fun ρ1 r1=>
   Sub.gn [] r1⟩
 rintro⟨i,rv,w1,iv⟩ ⟨hi,hw,hK⟩;dsimp only at hi hw hK ⊢;have hrl:rv.length=i:=by rw[hK.1,aY,kK];omega
 refine dI.mk (fun hib=>?_) (fun hib=>?_)
 ·have hib:i<M.length:=by simpa using hib
  obtain⟨x,hx⟩:∃r,M[i]? =some r:=⟨_,aB hib⟩
  have hxl:=hlen x (aD hx);obtain⟨q,hq⟩:∃r,b[i]? =some r:=⟨_,aB (by omega)⟩
  have hqd:b.getD i 0=q:=by rw[List.getD,hq];rfl
  have hnext:(iz M b).take (i+1)=(iz M b).take i++[x++[q]]:=by
   rw[List.take_add_one,show(iz M b)[i]? =some (x++[q]) by rw[iz,List.getElem?_mapIdx,hx,<-hqd];rfl];rfl
  obtain⟨adm,um,ham,hRm,km1,km2⟩:=jq.load hM hx;obtain⟨css,⟨-,g1,g2,a0,c0,rfl,g4,g5⟩,hcl,hc4,hcs⟩:=hRm;have hfl:=e9 hc4;obtain⟨adq,cs,haq,hF,hl⟩:=fm.load hb hq;obtain⟨b3,a3,n3,c3,b4,a4,n4,c4,rfl,hF⟩:=hF;refine⟨adm,ham,by omega,.slice a0 x.length c0,rd1 km2 hw (hC _ km1),?_⟩;refine iI hτ db (.x 0 (.x 3 (.x 5 (.x 6 (.x 7 (.ld 1 28672 (.ld 8 32256 (.two 2 (.two 4 (.x 9 (.x 10 (.oN 6 (.x 11 (.x 12 (.x 13 (.x 14 .nil))))))) 9 (.x 4 (.x 10 (.oN 6 (.x 11 (.x 12 (.x 13 (.x 14 .nil)))))))) 9 (.x 2 (.x 4 (.x 10 (.oN 6 (.x 11 (.x 12 (.x 13 (.x 14 .nil)))))))))))))))) (by kernel_rfl) (by kernel_rfl) ?_;refine⟨adq,haq,by omega,[.bool b3,.slice a3 n3 c3,.bool b4,.slice a4 n4 c4],rfl,rdO hl hw hD,?_,?_⟩
  ·refine⟨[.bool b3,.slice a3 n3 c3,.bool b4,.slice a4 n4 c4],rfl,rdO hl hw hD,rfl,rfl,?_,?_⟩
   ·refine .inl ?_;refine⟨css.flatten,g1,g2,fun O w' r hpos=>?_,?_⟩
    ·obtain⟨u0,hu0⟩:∃u,css.flatten[0]? =some u:=⟨_,aB (by omega)⟩
     obtain⟨ad,ha,_,_⟩:=g5 0 u0 hu0;refine⟨ad,ha,fun j u hj=>?_⟩;obtain⟨ad2,ha2,q1,q2⟩:=g5 j u hj;rw[ha]at ha2;injection ha2 with ha2;subst ha2;rw[cH (w:=w) (w2:=w') (by rw[dQ];exact(hw.tr r.cM).block _ (hS _ q1))];exact q2
    refine⟨rfl,by omega,by unfold maxLen;omega,?_⟩;rw[aV x.length];refine⟨[.bool b3,.slice a3 n3 c3,.bool b4,.slice a4 n4 c4],rfl,rdO hl hw hD,rfl,rfl,rfl,?_⟩;refine .inl ?_;refine⟨by rw[<-g1];rfl,by omega,by unfold maxLen;omega,rfl,[(1,.box T.dc [.w 2 rv.length,.v (.int .i64 ((cols+1:Nat):Int))]),(2,.vec T.gO 1 rv),(0,.box T.dc [.v (.slice am M.length cm),.v (.int .i64 cols)])],_,rfl,by simp,⟨rfl,rfl,rfl,trivial⟩,rfl,fun O w' r=>?_⟩;have hv:=Eo (S:=S) (x:=x) (q:=q) (css:=css) r (id:=6) rfl ⟨hcl,fun j cs q k1 k2=>(hcs j cs q k1 k2).cG fun g hg=>(hw.tr r.cM).block g (hS g hg)⟩ (hF.cG (kS hw r hS)).pS (by unfold maxLen;omega);refine⟨hv.1,_,tQ (tl:=[(25,.o (.p 1 0)),(26,.o (.w 2 rv.length)),(20,.o (.v (.int .i64 ((i:Nat):Int)))),(1,.o (.v (.slice ab b.length cb))),(2,.o (.p 0 0)),(6,.o (.p 1 0)),(18,.o (.v (.slice am M.length cm))),(19,.o (.v (.int .i64 M.length)))]) hv.1 (t:=35) (n:=x.length+1) rfl ⟨rfl,rfl,rfl,rfl,rfl,rfl,rfl,rfl,trivial⟩ (by simp[jn,SV.sc,At.sc]),?_⟩;replace hK:=(dU.cI (hK.rel r hS) (fun g hg=>hg.mono fun p hp=>aC _ hp)).push rfl hv.2;rw[<-hnext]at hK;replace hw:=hw.tr r.cM;generalize (O 6).g=gx at*
    generalize (O 6).cap=cx at*
    generalize (gx,gx+1)::iv=iv2 at*
    refine⟨rfl,?_⟩;refine .inl ?_;refine⟨by simp,by omega,by unfold maxLen;omega,((i+1:Nat):Int),wo,?_⟩;intro ρ3 w3 r3;exact⟨(i+1,rv++[.slice (some ⟨gx,0,none⟩) (x.length+1) cx],w3,_),⟨hib,hw.tr r3.cM,hK.rel r3 hS⟩,Sub.gn [(2,8)] r3 ⟨by dsimp only;rw[List.length_append,List.length_singleton];rfl,rfl,rfl,trivial⟩,by dsimp only;omega⟩
   ·refine⟨rfl,?_⟩;refine .inl ?_;refine⟨css.flatten,g1,g2,fun O w' r hpos=>?_,?_⟩
    ·obtain⟨u0,hu0⟩:∃u,css.flatten[0]? =some u:=⟨_,aB (by omega)⟩
     obtain⟨ad,ha,_,_⟩:=g5 0 u0 hu0;refine⟨ad,ha,fun j u hj=>?_⟩;obtain⟨ad2,ha2,q1,q2⟩:=g5 j u hj;rw[ha]at ha2;injection ha2 with ha2;subst ha2;rw[cH (w:=w) (w2:=w') (by rw[dQ];exact(hw.tr r.cM).block _ (hS _ q1))];exact q2
    refine⟨rfl,by omega,by unfold maxLen;omega,?_⟩;rw[aV x.length];refine⟨rfl,?_⟩;refine .inl ?_;refine⟨by rw[<-g1];rfl,by omega,by unfold maxLen;omega,rfl,[(1,.box T.dc [.w 2 rv.length,.v (.int .i64 ((cols+1:Nat):Int))]),(2,.vec T.gO 1 rv),(0,.box T.dc [.v (.slice am M.length cm),.v (.int .i64 cols)])],_,rfl,by simp,⟨rfl,rfl,rfl,trivial⟩,rfl,fun O w' r=>?_⟩;have hv:=Eo (S:=S) (x:=x) (q:=q) (css:=css) r (id:=6) rfl ⟨hcl,fun j cs q k1 k2=>(hcs j cs q k1 k2).cG fun g hg=>(hw.tr r.cM).block g (hS g hg)⟩ (hF.cG (kS hw r hS)).pS (by unfold maxLen;omega);refine⟨hv.1,_,tQ (tl:=[(25,.o (.p 1 0)),(26,.o (.w 2 rv.length)),(20,.o (.v (.int .i64 ((i:Nat):Int)))),(1,.o (.v (.slice ab b.length cb))),(2,.o (.p 0 0)),(6,.o (.p 1 0)),(18,.o (.v (.slice am M.length cm))),(19,.o (.v (.int .i64 M.length)))]) hv.1 (t:=35) (n:=x.length+1) rfl ⟨rfl,rfl,rfl,rfl,rfl,rfl,rfl,rfl,trivial⟩ (by simp[jn,SV.sc,At.sc]),?_⟩;replace hK:=(dU.cI (hK.rel r hS) (fun g hg=>hg.mono fun p hp=>aC _ hp)).push rfl hv.2;rw[<-hnext]at hK;replace hw:=hw.tr r.cM;generalize (O 6).g=gx at*
    generalize (O 6).cap=cx at*
    generalize (gx,gx+1)::iv=iv2 at*
    refine⟨rfl,?_⟩;refine .inl ?_;refine⟨by simp,by omega,by unfold maxLen;omega,((i+1:Nat):Int),wo,?_⟩;intro ρ3 w3 r3;exact⟨(i+1,rv++[.slice (some ⟨gx,0,none⟩) (x.length+1) cx],w3,_),⟨hib,hw.tr r3.cM,hK.rel r3 hS⟩,Sub.gn [(2,8)] r3 ⟨by dsimp only;rw[List.length_append,List.length_singleton];rfl,rfl,rfl,trivial⟩,by dsimp only;omega⟩
  ·refine⟨rfl,rfl,?_⟩;refine .inl ?_;refine⟨css.flatten,g1,g2,fun O w' r hpos=>?_,?_⟩
   ·obtain⟨u0,hu0⟩:∃u,css.flatten[0]? =some u:=⟨_,aB (by omega)⟩
    obtain⟨ad,ha,_,_⟩:=g5 0 u0 hu0;refine⟨ad,ha,fun j u hj=>?_⟩;obtain⟨ad2,ha2,q1,q2⟩:=g5 j u hj;rw[ha]at ha2;injection ha2 with ha2;subst ha2;rw[cH (w:=w) (w2:=w') (by rw[dQ];exact(hw.tr r.cM).block _ (hS _ q1))];exact q2
   refine⟨rfl,by omega,by unfold maxLen;omega,?_⟩;rw[aV x.length];refine⟨rfl,?_⟩;refine .inl ?_;refine⟨by rw[<-g1];rfl,by omega,by unfold maxLen;omega,rfl,[(1,.box T.dc [.w 2 rv.length,.v (.int .i64 ((cols+1:Nat):Int))]),(2,.vec T.gO 1 rv),(0,.box T.dc [.v (.slice am M.length cm),.v (.int .i64 cols)])],_,rfl,by simp,⟨rfl,rfl,rfl,trivial⟩,rfl,fun O w' r=>?_⟩;have hv:=Eo (S:=S) (x:=x) (q:=q) (css:=css) r (id:=6) rfl ⟨hcl,fun j cs q k1 k2=>(hcs j cs q k1 k2).cG fun g hg=>(hw.tr r.cM).block g (hS g hg)⟩ (hF.cG (kS hw r hS)).pS (by unfold maxLen;omega);refine⟨hv.1,_,tQ (tl:=[(25,.o (.p 1 0)),(26,.o (.w 2 rv.length)),(20,.o (.v (.int .i64 ((i:Nat):Int)))),(1,.o (.v (.slice ab b.length cb))),(2,.o (.p 0 0)),(6,.o (.p 1 0)),(18,.o (.v (.slice am M.length cm))),(19,.o (.v (.int .i64 M.length)))]) hv.1 (t:=35) (n:=x.length+1) rfl ⟨rfl,rfl,rfl,rfl,rfl,rfl,rfl,rfl,trivial⟩ (by simp[jn,SV.sc,At.sc]),?_⟩;replace hK:=(dU.cI (hK.rel r hS) (fun g hg=>hg.mono fun p hp=>aC _ hp)).push rfl hv.2;rw[<-hnext]at hK;replace hw:=hw.tr r.cM;generalize (O 6).g=gx at*
   generalize (O 6).cap=cx at*
   generalize (gx,gx+1)::iv=iv2 at*
   refine⟨rfl,?_⟩;refine .inl ?_;refine⟨by simp,by omega,by unfold maxLen;omega,((i+1:Nat):Int),wo,?_⟩;intro ρ3 w3 r3;exact⟨(i+1,rv++[.slice (some ⟨gx,0,none⟩) (x.length+1) cx],w3,_),⟨hib,hw.tr r3.cM,hK.rel r3 hS⟩,Sub.gn [(2,8)] r3 ⟨by dsimp only;rw[List.length_append,List.length_singleton];rfl,rfl,rfl,trivial⟩,by dsimp only;omega⟩
 have hib:i=M.length:=aR hi (by simpa using hib);rw[List.take_of_length_le (by rw[kK];omega)]at hK;have hwl:=Gn (b:=b) hlen;obtain⟨f1,f2,f3,f4,f5⟩:=qo (cols+1) hwl;generalize hA:(dR (iz M b) (cols+1)).1=A at*
 generalize hP:(dR (iz M b) (cols+1)).2.1=pv at*
 refine⟨((cols+1:Nat):Int),wo,?_⟩
 refine cC (cL (Φ:=fun _ w' v w2=>∃vr vp vf,v= .agg #[vr,.int .i64 ((cols+1:Nat):Int),vp,vf]∧cR w2 (Nw (Cv S w.heap.size iv) w' w2) vr A∧dF w2 (Nf w' w2) vp pv∧dF w2 (Nf w' w2) vf (dR (iz M b) (cols+1)).2.2) (fun O w' r=>by
  rw[<-hA,<-hP]
  exact qE (C:=fun g=>g<w'.heap.size) (fun g hg=>hg) (Rel.old r hS) ⟨rv,by rw[kK,<-hib,<-hrl];exact(r.iX (id:=2) (sz:=1) (m:=rv.length) rfl (by simp) (by unfold maxLen;omega) (by decide) hK.2.1).cI fun g hg=>hg.2,hK.1,fun i u x h1 h2=>cO.rel (hK.2.2 i u x h1 h2) r hS⟩ hwl (by omega) (by omega) (by rw[kK];omega) (aG _) hB hh) ?_)
 rintro O wa1 v1 wb1 r he hb1 ⟨vr,vp,vf,rfl,k1,k2,k3⟩;replace hw:=hw.tr hb1;have hR:=cR.old k1 r.cD;have hV:=dF.c9 (S:=fun _=>False) k2 r.cD (iv:=(wa1.heap.size,wb1.heap.size)::iv) aJ;have hX:=dF.c9 (S:=fun _=>False) k3 r.cD (iv:=(wa1.heap.size,wb1.heap.size)::iv) aJ;generalize (wa1.heap.size,wb1.heap.size)::iv=iv1 at*
 obtain⟨ar,cr,rfl,hcr,hmr⟩:=de.shape hR;obtain⟨ap,cp,rfl,hcp,hmp⟩:=dF.shape hV;obtain⟨af,cf,rfl,-,-⟩:=dF.shape hX;refine cC (cL (Φ:=fun _ w' v w2=>dS w2 (fun _=>False) w'.heap.size [(w'.heap.size,w2.heap.size)] v cols (List.replicate cols 0)) (fun O w' r=>D5 cols w' (by omega)) ?_);rintro O wa2 v2 wb2 r he hb1 hn;replace hw:=hw.tr hb1;replace hR:=cR.cI (S':=Bs S w.heap.size ((wa2.heap.size,wb2.heap.size)::iv1) v2) (cR.cG (cR.rel hR r hS) fun g hg=>he.block g (Rel.old r hS g hg)) fun g hg=>Bs.of r hS (fun x hx=>aC _ hx) hn hg;replace hV:=dF.cI (S':=Bs (fun _=>False) w.heap.size ((wa2.heap.size,wb2.heap.size)::iv1) v2) (dF.cG (dF.rel hV r (cB w)) fun g hg=>he.block g (Rel.old r (cB w) g hg)) fun g hg=>Bs.of r (cB w) (fun x hx=>aC _ hx) hn hg;have hX:=hn.c9 (S:=S) r.cD (iv:=(wa2.heap.size,wb2.heap.size)::iv1) aJ;generalize (wa2.heap.size,wb2.heap.size)::iv1=iv2 at*
 obtain⟨ax,cx,rfl,hcx⟩:=hX.row.form;have hXl:=hX.row.le;unfold maxLen at hXl
 refine⟨Nat×World×Iv,fun z=>⟨[(51,.o (.v (.int .i64 ((z.1:Nat):Int)))),(2,.o (.p 0 0)),(9,.o (.p 3 0)),(10,.o (.v (.slice ax cols cx))),(49,.o (.v (.slice ap pv.length cp))),(50,.o (.v (.int .i64 pv.length)))],[(3,.box T.dN [.v (.slice ar A.length cr),.v (.int .i64 ((cols+1:Nat):Int)),.v (.slice ap pv.length cp),.v (.slice af (dR (iz M b) (cols+1)).2.2.length cf)]),(0,.box T.dc [.v (.slice am M.length cm),.v (.int .i64 cols)])],4,z.2.2,z.2.1⟩,fun z=>pv.length-z.1,
  fun z=>z.1<=pv.length∧(∀(t p:Nat),t<z.1->pv[t]? =some p->p≠cols)∧cV w.heap.size w z.2.1∧cR z.2.1 (Bs S w.heap.size z.2.2 (.slice ax cols cx)) (.slice ar A.length cr) A∧dF z.2.1 (Bs (fun _=>False) w.heap.size z.2.2 (.slice ax cols cx)) (.slice ap pv.length cp) pv∧dS z.2.1 S w.heap.size z.2.2 (.slice ax cols cx) cols (gK A pv cols z.1),?_,?_⟩
 ·intro O w' r;exact⟨(0,w',_),⟨aP _,fun t p ht=>absurd ht (Nat.not_lt_zero t),hw.tr r.cM,cR.cG hR (Bs.same r hS),dF.cG hV (Bs.same r (cB w)),hX.rel r hS⟩,Sub.gn [] r⟩
 rintro⟨k,w3,iv⟩ ⟨hk,hnc,hw,hR,hV,hX⟩;dsimp only at hk hnc hw hR hV hX ⊢;refine dI.mk (fun hkb=>?_) (fun hkb=>?_)
 ·have hkb:k<pv.length:=by simpa using hkb
  obtain⟨p,hp⟩:∃p,pv[k]? =some p:=⟨_,aB hkb⟩
  have hpc:=f4 p (aD hp);obtain⟨adp,hap,kp1,kp2⟩:=hV.at hp;refine⟨adp,hap,by omega,.int .i64 (p:Int),fun O w' r=>?_,?_⟩
  ·rw[aF,cH (w:=w3) (w2:=w') (by rw[dQ];exact Rel.same r (cB w) kp1.1)];exact kp2
  refine dI.mk (fun he=>?_) (fun he=>?_)
  ·have he:p=cols:=by
    have:(p:Int)=cols:=by simpa using he
    omega
   intro ρe we re;refine⟨_,rfl,hw.tr re.cM,.inl ⟨?_,rfl⟩⟩;unfold iU;simp only[hP]
   rw[if_pos (by rw[<-he];exact aD hp)]
  have he:p≠cols:=fun e=>by rw[e]at he;simp at he
  obtain⟨x,hx⟩:∃x,A[k]? =some x:=⟨_,aB (by omega)⟩
  have hxl:=f3 x (aD hx);obtain⟨q,hq⟩:∃q,x[cols]? =some q:=⟨_,aB (by omega)⟩
  have hat:dG A k cols=q:=by simp[dG,List.getD,hx,hq]
  obtain⟨adm,um,ham,hRm,km1,km2⟩:=de.load hR hx;obtain⟨a0,c0,rfl,hc0,-⟩:=dL.shape hRm;obtain⟨adq,cs,haq,hF,_,hl⟩:=dL.load hRm hq;obtain⟨g0,g1,g2,g3,g4,g5,g6,g7,rfl,hF⟩:=hF;refine cJ hτ db [.x 0,.x 1,.x 2,.x 3,.x 4,.x 5,.x 6,.x 7,.x 8,.x 9,.x 10,.x 11,.x 12,.x 13] (by kernel_rfl) (by kernel_rfl) ?_;refine⟨adm,ham,by omega,.slice a0 x.length c0,fun O w' r=>?_,?_⟩
  ·rw[aF,cH (w:=w3) (w2:=w') (by rw[dQ];exact Rel.same r hS km1.1)];exact km2
  refine⟨adq,haq,by omega,[.bool g0,.slice g1 g2 g3,.bool g4,.slice g5 g6 g7],rfl,fun O w' r j u hu=>?_,?_⟩
  ·obtain⟨k1,k2⟩:=hl j u hu;rw[aF,cH (w:=w3) (w2:=w') (by rw[dQ,dQ];exact Rel.same r hS k1.1)];exact k2
  obtain⟨gx,hgx⟩:∃g,ax=some ⟨g,0,none⟩:=by
   obtain⟨css,h1,h2,h3⟩:=hX.row;rcases h1.2 with⟨_,h0⟩|⟨g,cap,cur,e,_⟩
   ·omega
   ·injection e with e;exact⟨g,e⟩
  subst hgx;refine⟨⟨gx,0,none⟩,rfl,by omega,?_⟩;intro O w' r;obtain⟨g,hg,h1,h2,h3,h4,h5⟩:=(hX.rel r hS).store (j:=p) (by omega) (hF.cG (Bs.same r hS)) r hS;injection hg with hg;injection hg with hg;subst hg;refine⟨h1,h2,h3,fun w5 hw5=>?_⟩;obtain⟨k1,k2,k3⟩:=h5 w5 hw5;have hw2:cV w.heap.size w w5:=(hw.tr r.cM).tr (cV.grown k2 (fun g e=>by injection e with e;subst e;exact h4.elim (fun h=>h.elim) fun h=>h.1) r.cD);have hR2:=cR.cG hR (Bs.kept r hS k2 fun g e=>e);have hV2:=dF.cG hV (Bs.kept r (cB w) k2 fun g e=>e);have hnext:(gK A pv cols k).set p q=gK A pv cols (k+1):=by rw[gQ,hat,List.getD,hp];rfl
  rw[hnext]at k1;refine⟨((k+1:Nat):Int),wo,?_⟩;intro ρ3 w6 r3
  exact⟨(k+1,w6,_),⟨hkb,fun t p2 ht hp2=>by
   by_cases htk:t=k
   ·rw[htk,hp]at hp2;injection hp2 with hp2;rw[<-hp2];exact he
   ·exact hnc t p2 (by dsimp only at ht;omega) hp2,hw2.tr r3.cM,cR.cG hR2 (Bs.same r3 hS),dF.cG hV2 (Bs.same r3 (cB w)),k1.rel r3 hS⟩,Sub.gn [] r3,by dsimp only;omega⟩
 have hkb:k=pv.length:=aR hk (by simpa using hkb);subst hkb;intro ρe we re;refine⟨_,rfl,hw.tr re.cM,.inr ⟨_,_,?_,rfl,hX.Md re hS⟩⟩;unfold iU;simp only[hA,hP]
 rw[aK];intro hm;obtain⟨t,ht⟩:=aS hm;exact hnc t cols (aE.1 ht).1 ht rfl
theorem tU{u:Value}{cols:Nat}(hC:Old C w)(hS:Old S w)(hM:jq w C S v M)(hb:cO w S u b)(hbl:b.length=M.length)(hlen:fe cols M)(hn:cols<=999)(hR:M.length<=1000)(hB:tS (iz M b) (cols+1) h)(hh:3*h<=90000):
  dm PG N.iW #[.agg #[v,.int .i64 cols],u] w (eB w fun v' w2=>(iU M b cols=none∧v'= .tuple #[.slice none 0 0,.bool false])∨∃x vx,iU M b cols=some x∧v'= .tuple #[vx,.bool true]∧dS w2 S w.heap.size [(w.heap.size,w2.heap.size)] vx cols x):=
 Aw hC hS hS hM (cO.rc hb) hbl hlen hn hR hB hh
def rn(pv:List Nat)(n i:Nat):List Value:=(List.range n).map fun c=>.bool (decide (c∈pv.take i))
theorem Gp(pv:List Nat)(n:Nat):rn pv n 0=List.replicate n (.bool false):=by
 refine bK fun j=>?_;rw[rn,aN,List.getElem?_replicate];by_cases h:j<n
 ·rw[bp h,if_pos h];rfl
 ·rw[List.getElem?_eq_none (by simp;omega),aK h];rfl
theorem CC{n i c:Nat}(h:c<n):(rn pv n i)[c]? =some (.bool (decide (c∈pv.take i))):=by
 rw[rn,aN,bp h];rfl
theorem Gq{n i p:Nat}(hp:pv[i]? =some p):(rn pv n i).set p (.bool true)=rn pv n (i+1):=by
 refine bK fun j=>?_;by_cases hj:j<n
 ·rw[CC hj,List.take_add_one,hp];by_cases hpj:p=j
  ·subst hpj;rw[aW (by simp[rn];exact hj)];simp
  ·rw[bA hpj,CC hj];have:j≠p:=fun e=>hpj e.symm;simp[this]
 ·rw[List.getElem?_eq_none (by simp[rn];omega),List.getElem?_eq_none (by simp[rn];omega)]
theorem dS.at{n:Nat}{cx:Nat}(h:dS w S B iv (.slice ax n cx) n qs)(h0:0<n):∃g,ax=some ⟨g,0,none⟩:=by
 obtain⟨css,h1,h2,h3⟩:=h.row;rcases h1.2 with⟨_,h0⟩|⟨g,cap,cur,e,_⟩
 ·omega
 ·injection e with e;exact⟨g,e⟩
set_option maxHeartbeats 2000000 in
theorem Ax{n:Nat}(hC:Old C w)(hS:Old S w)(hM:jq w C S v M)(hlen:fe n M)(hn0:0<n)(hn:n<=1000)(hR:M.length<=1000)(hB:tS M n h)(hAb:Ht (dR M n).1 h)(hh:3*h<=90000):
  dm PG N.fw #[.agg #[v,.int .i64 n]] w (eB w fun v' w2=>cR w2 (Nf w w2) v' (j7 M n)):=by
 have hw:cV w.heap.size w w:=cV.refl;obtain⟨am,cm,rfl,hcm,hmm⟩:=jq.shape hM;unfold maxLen at hmm;obtain⟨f1,f2,f3,f4,f5⟩:=qo n hlen;refine jC (by simp) ?_;unfold j7;generalize hA:(dR M n).1=A at*
 generalize hP:(dR M n).2.1=pv at*
 refine cC (cL (Φ:=fun _ w' v w2=>∃vr vp vf,v= .agg #[vr,.int .i64 n,vp,vf]∧cR w2 (Nw S w' w2) vr A∧dF w2 (Nf w' w2) vp pv∧dF w2 (Nf w' w2) vf (dR M n).2.2) (fun O w' r=>by
  rw[<-hA,<-hP];obtain⟨rv,m1,m2,m3⟩:=hM
  exact qE (C:=C) (S:=S) (oS hC r) (oS hS r) ⟨rv,m1.cG fun g hg=>(hw.tr r.cM).block g (hC g hg),m2,fun i u x h1 h2=>cO.cG (m3 i u x h1 h2) fun g hg=>(hw.tr r.cM).block g (hS g hg)⟩ hlen hn0 hn hR (aG _) hB hh) ?_)
 rintro O wa1 v1 wb1 r he hb1 ⟨vr,vp,vf,rfl,k1,k2,k3⟩;replace hw:=hw.tr hb1;have hR:=cR.old (cR.cI k1 fun g hg=>hg.imp (fun h=>(Or.inl h:Cv S w.heap.size [] g)) id) r.cD;have hV:=dF.c9 (S:=fun _=>False) k2 r.cD (iv:=(wa1.heap.size,wb1.heap.size)::[]) aJ;have hX:=dF.c9 (S:=fun _=>False) k3 r.cD (iv:=(wa1.heap.size,wb1.heap.size)::[]) aJ;generalize (wa1.heap.size,wb1.heap.size)::[]=iv1 at*
 obtain⟨ar,cr,rfl,hcr,hmr⟩:=de.shape hR;obtain⟨ap,cp,rfl,hcp,hmp⟩:=dF.shape hV;obtain⟨af,cf,rfl,-,-⟩:=dF.shape hX
 refine⟨n,n,rfl,rfl,aG _,by omega,by omega,Nat×World×Iv,fun z=>⟨[(1,.o (.p 0 0)),(3,.o (.p 1 0)),(4,.o (.s 2 0 n n)),(20,.o (.v (.slice ap pv.length cp))),(21,.o (.v (.int .i64 pv.length))),(22,.o (.v (.int .i64 ((z.1:Nat):Int))))],[(2,.arr T.bool (rn pv n z.1)),(1,.box T.dN [.v (.slice ar A.length cr),.v (.int .i64 n),.v (.slice ap pv.length cp),.v (.slice af (dR M n).2.2.length cf)]),(0,.box T.dc [.v (.slice am M.length cm),.v (.int .i64 n)])],3,z.2.2,z.2.1⟩,fun z=>pv.length-z.1,
  fun z=>z.1<=pv.length∧cV w.heap.size w z.2.1∧cR z.2.1 (Cv S w.heap.size z.2.2) (.slice ar A.length cr) A∧dF z.2.1 (Cf w z.2.2) (.slice ap pv.length cp) pv,?_,?_⟩
 ·intro O w' r3;exact⟨(0,w',_),⟨aP _,hw.tr r3.cM,cR.rel hR r3 hS,dF.rel hV r3 (cB w)⟩,Sub.gn [] r3 ⟨by dsimp only;rw[Gp];rfl,rfl,rfl,trivial⟩⟩
 rintro⟨i,w1,iv⟩ ⟨hi,hw,hR,hV⟩;dsimp only at hi hw hR hV ⊢;refine dI.mk (fun hib=>?_) (fun hib=>?_)
 ·have hib:i<pv.length:=by simpa using hib
  obtain⟨p,hp⟩:∃p,pv[i]? =some p:=⟨_,aB hib⟩
  have hpc:=f4 p (aD hp);obtain⟨adp,hap,kp1,kp2⟩:=hV.at hp;refine⟨adp,hap,by omega,.int .i64 (p:Int),fun O w' r=>?_,?_⟩
  ·rw[aF,cH (w:=w1) (w2:=w') (by rw[dQ];exact Rel.same r (cB w) kp1)];exact kp2
  refine⟨by omega,by simp[rn];omega,rn pv n (i+1),?_,?_⟩
  ·rw[aF,aU,aV,<-Gq hp];exact fT (by simp[rn];omega)
  refine⟨((i+1:Nat):Int),wo,?_⟩;intro ρ3 w3 r3;exact⟨(i+1,w3,_),⟨hib,hw.tr r3.cM,cR.rel hR r3 hS,dF.rel hV r3 (cB w)⟩,Sub.gn [] r3,by dsimp only;omega⟩
 have hib:i=pv.length:=aR hi (by simpa using hib);subst hib
 refine⟨Nat×List Value×World×Iv,fun z=>⟨[(32,.o (.v (.int .i64 ((z.1:Nat):Int)))),(7,.o (.w 3 z.2.1.length)),(1,.o (.p 0 0)),(3,.o (.p 1 0)),(4,.o (.s 2 0 n n)),(31,.o (.v (.int .i64 n)))],[(2,.arr T.bool (rn pv n pv.length)),(3,.vec T.gO 1 z.2.1),(1,.box T.dN [.v (.slice ar A.length cr),.v (.int .i64 n),.v (.slice ap pv.length cp),.v (.slice af (dR M n).2.2.length cf)]),(0,.box T.dc [.v (.slice am M.length cm),.v (.int .i64 n)])],4,z.2.2.2,z.2.2.1⟩,fun z=>n-z.1,
  fun z=>z.1<=n∧cV w.heap.size w z.2.2.1∧cR z.2.2.1 (Cv S w.heap.size z.2.2.2) (.slice ar A.length cr) A∧dF z.2.2.1 (Cf w z.2.2.2) (.slice ap pv.length cp) pv∧dU z.2.2.1 (Cf w z.2.2.2) z.2.1 (du A pv n z.1),?_,?_⟩
 ·intro O w' r;exact⟨(0,[],w',_),⟨aP _,hw.tr r.cM,cR.rel hR r hS,dF.rel hV r (cB w),by simp[dU,du]⟩,Sub.nil 7 T.gO 1 rfl (by simp[jn,SV.sc,At.sc]) r fun ρ1 r1=>Sub.gn [] r1⟩
 rintro⟨c,rv,w1,iv⟩ ⟨hc,hw,hR,hV,hK⟩;dsimp only at hc hw hR hV hK ⊢;have hrl:rv.length=(du A pv n c).length:=hK.1;have hrc:=D9 A pv n c;refine dI.mk (fun hcb=>?_) (fun hcb=>?_)
 ·have hcb:c<n:=by simpa using hcb
  refine⟨by omega,.bool (decide (c∈pv)),by rw[aF,aU,aV,CC hcb,bE],?_⟩;refine dI.mk (fun hm=>?_) (fun hm=>?_)
  ·have hm:c∈pv:=by simpa using hm
   refine⟨((c+1:Nat):Int),wo,?_⟩;intro ρ3 w3 r3;exact⟨(c+1,rv,w3,_),⟨hcb,hw.tr r3.cM,cR.rel hR r3 hS,dF.rel hV r3 (cB w),by dsimp only;rw[vZ hm];exact hK.rel r3 (cB w)⟩,Sub.gn [] r3,by dsimp only;omega⟩
  have hm:c∉pv:=by simpa using hm
  refine cC (cL (Φ:=fun _ w' v w2=>dS w2 (fun _=>False) w'.heap.size [(w'.heap.size,w2.heap.size)] v n (List.replicate n 0)) (fun O w' r=>D5 n w' (by omega)) ?_);rintro O wa2 v2 wb2 r he hb1 hn2;replace hw:=hw.tr hb1;replace hR:=cR.cI (S':=Bs S w.heap.size ((wa2.heap.size,wb2.heap.size)::iv) v2) (cR.cG (cR.rel hR r hS) fun g hg=>he.block g (Rel.old r hS g hg)) fun g hg=>Bs.of r hS (fun x hx=>aC _ hx) hn2 hg;replace hV:=dF.cI (S':=Bs (fun _=>False) w.heap.size ((wa2.heap.size,wb2.heap.size)::iv) v2) (dF.cG (dF.rel hV r (cB w)) fun g hg=>he.block g (Rel.old r (cB w) g hg)) fun g hg=>Bs.of r (cB w) (fun x hx=>aC _ hx) hn2 hg;replace hK:=dU.cI (S':=Bs (fun _=>False) w.heap.size ((wa2.heap.size,wb2.heap.size)::iv) v2) (dU.cG (dU.rel hK r (cB w)) fun g hg=>he.block g (Rel.old r (cB w) g hg)) fun g hg=>Bs.of r (cB w) (fun x hx=>aC _ hx) hn2 hg;have hX:=hn2.c9 (S:=fun _=>False) r.cD (iv:=(wa2.heap.size,wb2.heap.size)::iv) aJ;generalize (wa2.heap.size,wb2.heap.size)::iv=iv2 at*
  obtain⟨ax,cx,rfl,hcx⟩:=hX.row.form;obtain⟨gx,rfl⟩:=hX.at hn0;refine cC (cL (Φ:=fun _ w' v w2=>cP w2 (Nf w' w2) v ((1:Int):Rat)) (fun O w' r=>jK 1 w' (by decide) (by decide)) ?_);rintro O wa3 v3 wb3 r he hb1 hn2;replace hw:=hw.tr hb1;replace hR:=cR.cI (S':=Bs S w.heap.size ((wa3.heap.size,wb3.heap.size)::iv2) (.slice (some ⟨gx,0,none⟩) n cx)) (cR.cG (cR.cG hR (Bs.same r hS)) fun g hg=>he.block g (Rel.old r hS g hg.1)) fun g hg=>Bs.mono (fun x hx=>aC _ hx) hg;replace hV:=dF.cI (S':=Bs (fun _=>False) w.heap.size ((wa3.heap.size,wb3.heap.size)::iv2) (.slice (some ⟨gx,0,none⟩) n cx)) (dF.cG (dF.cG hV (Bs.same r (cB w))) fun g hg=>he.block g (Rel.old r (cB w) g hg.1)) fun g hg=>Bs.mono (fun x hx=>aC _ hx) hg;replace hK:=dU.cI (S':=Bs (fun _=>False) w.heap.size ((wa3.heap.size,wb3.heap.size)::iv2) (.slice (some ⟨gx,0,none⟩) n cx)) (dU.cG (dU.cG hK (Bs.same r (cB w))) fun g hg=>he.block g (Rel.old r (cB w) g hg.1)) fun g hg=>Bs.mono (fun x hx=>aC _ hx) hg;have hd:=(hn2.cI (S':=Bs (fun _=>False) w.heap.size ((wa3.heap.size,wb3.heap.size)::iv2) (.slice (some ⟨gx,0,none⟩) n cx)) fun g hg=>hg.elim (fun h=>h.elim) fun h=>⟨.inr ⟨by have:=r.cD;omega,_,_,aJ,h.1,h.2⟩,fun e=>by have:=Rel.old r (cB w) g (hX.new g e);omega⟩)
  replace hX:=hX.cF (iv':=(wa3.heap.size,wb3.heap.size)::iv2) r (cB w) he fun x hx=>aC _ hx;generalize (wa3.heap.size,wb3.heap.size)::iv2=iv3 at*
  obtain⟨s3_0,s3_1,s3_2,s3_3,s3_4,s3_5,s3_6,s3_7,rfl⟩:=hd.shape;refine⟨⟨gx,0,none⟩,rfl,by omega,?_⟩;intro O w' r;obtain⟨g,hg,h1,h2,h3,h4,h5⟩:=(hX.rel r (cB w)).store (j:=c) hcb (hd.cG (Bs.same r (cB w))) r (cB w);injection hg with hg;injection hg with hg;subst hg;refine⟨h1,h2,h3,fun w5 hw5=>?_⟩;obtain⟨k1,k2,k3⟩:=h5 w5 hw5;have hw2:cV w.heap.size w w5:=(hw.tr r.cM).tr (cV.grown k2 (fun g e=>by injection e with e;subst e;exact h4.elim (fun h=>h.elim) fun h=>h.1) r.cD);have hR2:=cR.cG hR (Bs.kept r hS k2 fun g e=>e);have hV2:=dF.cG hV (Bs.kept r (cB w) k2 fun g e=>e);have hK2:=dU.cG hK (Bs.kept r (cB w) k2 fun g e=>e);have hnext:(List.replicate n (0:Rat)).set c ((1:Int):Rat)=fK A pv n c 0:=rfl;rw[hnext]at k1
  refine⟨Nat×World×Iv,fun z=>⟨[(49,.o (.v (.int .i64 ((z.1:Nat):Int)))),(8,.o (.v (.int .i64 ((c:Nat):Int)))),(9,.o (.v (.slice (some ⟨gx,0,none⟩) n cx))),(32,.o (.v (.int .i64 ((c:Nat):Int)))),(47,.o (.v (.slice ap pv.length cp))),(48,.o (.v (.int .i64 pv.length))),(7,.o (.w 3 rv.length)),(1,.o (.p 0 0)),(3,.o (.p 1 0)),(4,.o (.s 2 0 n n)),(31,.o (.v (.int .i64 n)))],[(2,.arr T.bool (rn pv n pv.length)),(3,.vec T.gO 1 rv),(1,.box T.dN [.v (.slice ar A.length cr),.v (.int .i64 n),.v (.slice ap pv.length cp),.v (.slice af (dR M n).2.2.length cf)]),(0,.box T.dc [.v (.slice am M.length cm),.v (.int .i64 n)])],4,z.2.2,z.2.1⟩,fun z=>pv.length-z.1,
   fun z=>z.1<=pv.length∧cV w.heap.size w z.2.1∧cR z.2.1 (Bs S w.heap.size z.2.2 (.slice (some ⟨gx,0,none⟩) n cx)) (.slice ar A.length cr) A∧dF z.2.1 (Bs (fun _=>False) w.heap.size z.2.2 (.slice (some ⟨gx,0,none⟩) n cx)) (.slice ap pv.length cp) pv∧dU z.2.1 (Bs (fun _=>False) w.heap.size z.2.2 (.slice (some ⟨gx,0,none⟩) n cx)) rv (du A pv n c)∧dS z.2.1 (fun _=>False) w.heap.size z.2.2 (.slice (some ⟨gx,0,none⟩) n cx) n (fK A pv n c z.1),?_,?_⟩
  ·intro O w' r3;exact⟨(0,w',_),⟨aP _,hw2.tr r3.cM,cR.cG hR2 (Bs.same r3 hS),dF.cG hV2 (Bs.same r3 (cB w)),dU.cG hK2 (Bs.same r3 (cB w)),k1.rel r3 (cB w)⟩,Sub.gn [] r3⟩
  rintro⟨k,w3,iv⟩ ⟨hk,hw,hR,hV,hK,hX⟩;dsimp only at hk hw hR hV hK hX ⊢;refine dI.mk (fun hkb=>?_) (fun hkb=>?_)
  ·have hkb:k<pv.length:=by simpa using hkb
   obtain⟨p,hp⟩:∃p,pv[k]? =some p:=⟨_,aB hkb⟩
   have hpc:=f4 p (aD hp);obtain⟨adp,hap,kp1,kp2⟩:=hV.at hp;obtain⟨x,hx⟩:∃x,A[k]? =some x:=⟨_,aB (by omega)⟩
   have hxl:=f3 x (aD hx);obtain⟨q,hq⟩:∃q,x[c]? =some q:=⟨_,aB (by omega)⟩
   have hat:dG A k c=q:=by simp[dG,List.getD,hx,hq]
   have hql:=hAb x (aD hx) q (aD hq);obtain⟨adm,um,ham,hRm,km1,km2⟩:=de.load hR hx;obtain⟨a0,c0,rfl,hc0,-⟩:=dL.shape hRm;obtain⟨adq,cs,haq,hF,_,hl⟩:=dL.load hRm hq;obtain⟨g0,g1,g2,g3,g4,g5,g6,g7,rfl,hF⟩:=hF;refine⟨adp,hap,by omega,.int .i64 (p:Int),fun O w' r=>?_,?_⟩
   ·rw[aF,cH (w:=w3) (w2:=w') (by rw[dQ];exact Rel.same r (cB w) kp1.1)];exact kp2
   refine⟨adm,ham,by omega,.slice a0 x.length c0,fun O w' r=>?_,?_⟩
   ·rw[aF,cH (w:=w3) (w2:=w') (by rw[dQ];exact Rel.same r hS km1.1)];exact km2
   refine⟨adq,haq,by omega,[.bool g0,.slice g1 g2 g3,.bool g4,.slice g5 g6 g7],rfl,fun O w' r j u hu=>?_,?_⟩
   ·obtain⟨k1,k2⟩:=hl j u hu;rw[aF,cH (w:=w3) (w2:=w') (by rw[dQ,dQ];exact Rel.same r hS k1.1)];exact k2
   refine cC (cL (Φ:=fun _ w' v w2=>cP w2 (Nf w' w2) v (-q)) (fun O w' r=>I1 (S:=Bs S w.heap.size iv (.slice (some ⟨gx,0,none⟩) n cx)) (fun g hg=>Rel.old r hS g hg.1) ((hF.cG (Bs.same r hS)).l (by omega))) ?_);rintro O wa4 v4 wb4 r he hb1 hn2;replace hw:=hw.tr hb1;replace hR:=cR.cI (S':=Bs S w.heap.size ((wa4.heap.size,wb4.heap.size)::iv) (.slice (some ⟨gx,0,none⟩) n cx)) (cR.cG (cR.cG hR (Bs.same r hS)) fun g hg=>he.block g (Rel.old r hS g hg.1)) fun g hg=>Bs.mono (fun x hx=>aC _ hx) hg;replace hV:=dF.cI (S':=Bs (fun _=>False) w.heap.size ((wa4.heap.size,wb4.heap.size)::iv) (.slice (some ⟨gx,0,none⟩) n cx)) (dF.cG (dF.cG hV (Bs.same r (cB w))) fun g hg=>he.block g (Rel.old r (cB w) g hg.1)) fun g hg=>Bs.mono (fun x hx=>aC _ hx) hg;replace hK:=dU.cI (S':=Bs (fun _=>False) w.heap.size ((wa4.heap.size,wb4.heap.size)::iv) (.slice (some ⟨gx,0,none⟩) n cx)) (dU.cG (dU.cG hK (Bs.same r (cB w))) fun g hg=>he.block g (Rel.old r (cB w) g hg.1)) fun g hg=>Bs.mono (fun x hx=>aC _ hx) hg;have hd:=(hn2.cI (S':=Bs (fun _=>False) w.heap.size ((wa4.heap.size,wb4.heap.size)::iv) (.slice (some ⟨gx,0,none⟩) n cx)) fun g hg=>hg.elim (fun h=>h.elim) fun h=>⟨.inr ⟨by have:=r.cD;omega,_,_,aJ,h.1,h.2⟩,fun e=>by have:=Rel.old r (cB w) g (hX.new g e);omega⟩)
   replace hX:=hX.cF (iv':=(wa4.heap.size,wb4.heap.size)::iv) r (cB w) he fun x hx=>aC _ hx;generalize (wa4.heap.size,wb4.heap.size)::iv=iv4 at*
   obtain⟨s4_0,s4_1,s4_2,s4_3,s4_4,s4_5,s4_6,s4_7,rfl⟩:=hd.shape;refine⟨⟨gx,0,none⟩,rfl,by omega,?_⟩;intro O w' r;obtain⟨g,hg,h1,h2,h3,h4,h5⟩:=(hX.rel r (cB w)).store (j:=p) (by omega) (hd.cG (Bs.same r (cB w))) r (cB w);injection hg with hg;injection hg with hg;subst hg;refine⟨h1,h2,h3,fun w5 hw5=>?_⟩;obtain⟨k1,k2,k3⟩:=h5 w5 hw5;have hw2:cV w.heap.size w w5:=(hw.tr r.cM).tr (cV.grown k2 (fun g e=>by injection e with e;subst e;exact h4.elim (fun h=>h.elim) fun h=>h.1) r.cD);have hR2:=cR.cG hR (Bs.kept r hS k2 fun g e=>e);have hV2:=dF.cG hV (Bs.kept r (cB w) k2 fun g e=>e);have hK2:=dU.cG hK (Bs.kept r (cB w) k2 fun g e=>e);have hnext:(fK A pv n c k).set p (-q)=fK A pv n c (k+1):=by rw[fq,hat,List.getD,hp];rfl
   rw[hnext]at k1;refine⟨((k+1:Nat):Int),wo,?_⟩;intro ρ3 w6 r3;exact⟨(k+1,w6,_),⟨hkb,hw2.tr r3.cM,cR.cG hR2 (Bs.same r3 hS),dF.cG hV2 (Bs.same r3 (cB w)),dU.cG hK2 (Bs.same r3 (cB w)),k1.rel r3 (cB w)⟩,Sub.gn [] r3,by dsimp only;omega⟩
  have hkb:k=pv.length:=aR hk (by simpa using hkb);rw[hkb]at hX;replace hR:=cR.cI hR fun g hg=>hg.1;replace hV:=dF.cI hV fun g hg=>hg.1;replace hK:=(dU.cI hK fun g hg=>hg.1).push (u:=(.slice (some ⟨gx,0,none⟩) n cx)) (x:=fK A pv n c pv.length) rfl (by have:=hX.c;exact this);rw[<-tV hm]at hK;refine .inl ?_;refine⟨by simp,by omega,by unfold maxLen;omega,((c+1:Nat):Int),wo,?_⟩;intro ρ3 w3 r3;exact⟨(c+1,rv++[(.slice (some ⟨gx,0,none⟩) n cx)],w3,_),⟨hcb,hw.tr r3.cM,cR.rel hR r3 hS,dF.rel hV r3 (cB w),hK.rel r3 (cB w)⟩,Sub.gn [(3,5)] r3 (hE:=⟨rfl,by dsimp only;rw[List.length_append,List.length_singleton];rfl,rfl,rfl,rfl,rfl,trivial⟩),by dsimp only;omega⟩
 have hcb:c=n:=aR hc (by simpa using hcb);subst hcb;intro ρe we re;refine⟨_,rfl,hw.tr re.cM,rv,?_,hK.1,fun i u x k1 k2=>cO.cI (cO.rel (hK.2.2 i u x k1 k2) re (cB w)) fun g hg=>Cv.nw hg re⟩;rw[<-hK.1];exact(re.iX (id:=3) (sz:=1) (m:=rv.length) rfl (by simp) (by unfold maxLen;omega) (by decide) hK.2.1).cI fun g hg=>.inr hg
structure iJ(w:World)(S:Nat->Prop)(B:Nat)(iv:Iv)(v:Value)(n i:Nat)(qs:List Rat):Prop where
 row:∃css,w.ownsRow 0 T.Rat 4 v n css.flatten∧fb w (Bs S B iv v) n i css qs
 new:∀g,v.ownBlock=some g->Cv (fun _=>False) B iv g
section
variable{S S':Nat->Prop}{H:Hp}{nx n i:Nat}{iv iv':Iv}{B:Nat}{w w' w2:World}{O:Nat->Sx.df}{v:Value}{qs:List Rat}
theorem iJ.cG(h:iJ w S B iv v n i qs)(hk:∀g,Cv S B iv g->w2.heap[g]? =w.heap[g]?):iJ w2 S B iv v n i qs:=by
 obtain⟨⟨css,h1,h2⟩,h3⟩:=h;exact⟨⟨css,ownsRow.cG h1 fun g hg=>hk g (Av (h3 g hg)),h2.cG fun g hg=>hk g hg.1⟩,h3⟩
theorem iJ.rel(h:iJ w S B iv v n i qs)(r:Rel H nx iv B w O w')(hS:∀g,S g->g<B):iJ w' S B iv v n i qs:=h.cG fun _ hg=>Rel.same r hS hg
theorem iJ.mono(h:iJ w S B iv v n i qs)(hm:∀p,p∈iv->p∈iv'):iJ w S B iv' v n i qs:=by
 obtain⟨⟨css,h1,h2⟩,h3⟩:=h;exact⟨⟨css,h1,h2.cI fun g hg=>hg.mono hm⟩,fun g hg=>(h3 g hg).mono hm⟩
theorem iJ.cF(h:iJ w S B iv v n i qs)(r:Rel H nx iv B w O w')(hS:∀g,S g->g<B)(he:Ext w' w2)(hm:∀p,p∈iv->p∈iv'):iJ w2 S B iv' v n i qs:=
 ((h.rel r hS).cG fun g hg=>he.block g (Rel.old r hS g hg)).mono hm
theorem iJ.oN(r:Rel H nx iv B w O w')(h:dA H id=some (.arr T.Rat (List.replicate n [Value.bool false,.slice none 0 0,.bool false,.slice none 0 0]).flatten))(hn:n<=maxLen)(qs:List Rat):
  iJ w' S B (((O id).g,(O id).g+1)::iv) (.slice (some ⟨(O id).g,0,none⟩) n n) n 0 qs:=by
 have hnil:=(r.fits h).1;have h4:∀cs∈List.replicate n [Value.bool false,.slice none 0 0,.bool false,.slice none 0 0],cs.length=4:=fun cs hc=>by rw[bV hc];rfl
 have hf:=e9 h4;rw[bH]at hf;refine⟨⟨List.replicate n [.bool false,.slice none 0 0,.bool false,.slice none 0 0],⟨hf,.inr ⟨(O id).g,n,_,rfl,aP _,r.arr id _ _ h,aG _,hn,by simp,by rw[<-hf];exact bE⟩⟩,fb.start w' _ n qs⟩,fun g hg=>?_⟩;injection hg with hg;have hg:(O id).g=g:=hg;subst hg;exact .inr ⟨(r.low id _ h hnil).1,_,_,aJ,aG _,bf _⟩
theorem iJ.store{a1 a2:Option Addr}{c j n1 c1 n2 c2:Nat}{b b2:Bool}(h:iJ w S B iv (.slice a n c) n j qs)(hj:j<n)(hq:qs[j]? =some q)(hf:cP w (Bs S B iv (.slice a n c)) (.agg #[.bool b,.slice a1 n1 c1,.bool b2,.slice a2 n2 c2]) q)
  (r:Rel H nx iv B w O w') (hS:∀g,S g->g<B):
  ∃g,a=some ⟨g,0,none⟩∧((⟨g,0,none⟩:Addr).add ((j:Int).toNat*4)).spot=none∧
   (∀k,k<4->(w'.cell? (((⟨g,0,none⟩:Addr).add ((j:Int).toNat*4)).add k)).isSome=true∧w'.frozen? (((⟨g,0,none⟩:Addr).add ((j:Int).toNat*4)).add k)=false)∧
   (∀id b,dA H id=some b->(O id).nil=false->(O id).g≠((⟨g,0,none⟩:Addr).add ((j:Int).toNat*4)).block)∧
   ∀w2,w2=setCells w' ((⟨g,0,none⟩:Addr).add ((j:Int).toNat*4)) [.bool b,.slice a1 n1 c1,.bool b2,.slice a2 n2 c2]->iJ w2 S B iv (.slice a n c) n (j+1) qs∧w'.grownBy w2 (some g)∧cV B w' w2∧Rel H nx iv B w2 O w2:=by
 obtain⟨⟨css,h1,h2⟩,h3⟩:=h.rel r hS;have hf:=hf.cG (Bs.same r hS);obtain⟨g,rfl,hok,hst,hgr,hsz⟩:=oY (nv:=[.bool b,.slice a1 n1 c1,.bool b2,.slice a2 n2 c2]) h1 rfl hj rfl (by decide);have had:(⟨g,0,none⟩:Addr).add ((j:Int).toNat*4)=⟨g,j*4,none⟩:=by rw[aF,dP,aV]
 have hnot:=Rel.not r (fz B) (h3 g rfl);refine⟨g,rfl,by rw[had],fun k hk=>by rw[had];exact hok k hk,fun id b hb hn=>by rw[had];exact hnot id b hb hn,fun w2 hw2=>?_⟩;rw[had]at hw2;subst hw2;have hset:=ie (cs:=[.bool b,.slice a1 n1 c1,.bool b2,.slice a2 n2 c2]) h2.four (show j<css.length by rw[h2.len];exact hj);rw[hset]at hst;have hkeep:∀x,Bs S B iv (.slice (some ⟨g,0,none⟩) n c) x->(setCells w' ⟨g,j*4,none⟩ [.bool b,.slice a1 n1 c1,.bool b2,.slice a2 n2 c2]).heap[x]? =w'.heap[x]? :=fun x hx=>
  hgr.block x (Rel.old r hS x hx.1) fun e=>hx.2 e.symm
 refine⟨⟨⟨_,hst,(h2.cG hkeep).next hj hq (hf.cG hkeep)⟩,h3⟩,hgr,cV.grown hgr (fun x e=>by injection e with e;subst e;exact(h3 g rfl).elim (fun h=>h.elim) fun h=>h.1) r.cD,r.xY hnot hgr⟩
theorem iJ.done(h:iJ w S B iv v n n qs)(hl:qs.length=n):dS w S B iv v n qs:=by
 obtain⟨⟨css,h1,h2⟩,h3⟩:=h;exact⟨⟨css,h1,h2.len,by rw[h2.len,hl],fun j cs q k1 k2=>h2.at_ j cs q (by rw[<-hl];exact(aE.1 k2).1) k1 k2⟩,h3⟩
end
theorem jb(M:List (List Rat))(n:Nat):(fL M n).length=n:=by simp[fL]
theorem Gr{n k:Nat}(h:k<n):(fL M n)[k]? =some (M.map fun r=>r.getD k 0):=by rw[fL,aN,bp h];rfl
set_option maxHeartbeats 1000000 in
theorem zy{n:Nat}(hC:Old C w)(hS:Old S w)(hM:jq w C S v M)(hlen:fe n M)(hn:n<=1000)(hR:M.length<=1000):
  dm PG N.ic #[.agg #[v,.int .i64 n]] w (eB w fun v' w2=>∃vr,v'= .agg #[vr,.int .i64 M.length]∧cR w2 (Nw S w w2) vr (fL M n)):=by
 have hw:cV w.heap.size w w:=cV.refl;obtain⟨am,cm,rfl,hcm,hmm⟩:=jq.shape hM;unfold maxLen at hmm;refine kJ (by simp) ?_
 refine⟨Nat×List Value×World×Iv,fun z=>⟨[(13,.o (.v (.int .i64 ((z.1:Nat):Int)))),(1,.o (.p 0 0)),(2,.o (.p 1 0)),(3,.o (.p 2 0)),(12,.o (.v (.int .i64 n)))],[(2,.box T.dc [.w 3 z.2.1.length,.v (.int .i64 M.length)]),(3,.vec T.gO 1 z.2.1),(1,.box T.dc [.v (.slice none 0 0),.v (.int .i64 0)]),(0,.box T.dc [.v (.slice am M.length cm),.v (.int .i64 n)])],4,z.2.2.2,z.2.2.1⟩,fun z=>n-z.1,
  fun z=>z.1<=n∧cV w.heap.size w z.2.2.1∧dU z.2.2.1 (Cv S w.heap.size z.2.2.2) z.2.1 ((fL M n).take z.1),?_,?_⟩
 ·intro O w' r;exact⟨(0,[],w',[]),⟨aP _,hw.tr r.cM,by simp[dU]⟩,Sub.zx 2 0 T.gO 1 rfl rfl (by simp[jn,SV.sc,At.sc,fW]) r fun ρ1 r1=>Sub.gn [] r1⟩
 rintro⟨k,rv,w1,iv⟩ ⟨hk,hw,hK⟩;dsimp only at hk hw hK ⊢;have hrl:rv.length=k:=by rw[hK.1,aY,jb];omega
 refine dI.mk (fun hkb=>?_) (fun hkb=>?_)
 ·have hkb:k<n:=by simpa using hkb
  have htk:=Gr (M:=M) hkb;have hnext:(fL M n).take (k+1)=(fL M n).take k++[M.map fun r=>r.getD k 0]:=by rw[List.take_add_one,htk];rfl
  refine⟨M.length,M.length,rfl,rfl,aG _,by omega,by omega,Nat×Nat×World×Iv,fun z=>⟨[(5,.o (.v (.slice (some ⟨z.2.1,0,none⟩) M.length M.length))),(4,.o (.v (.int .i64 ((k:Nat):Int)))),(13,.o (.v (.int .i64 ((k:Nat):Int)))),(22,.o (.v (.int .i64 M.length))),(23,.o (.v (.int .i64 ((z.1:Nat):Int)))),(1,.o (.p 0 0)),(2,.o (.p 1 0)),(3,.o (.p 2 0)),(12,.o (.v (.int .i64 n)))],[(2,.box T.dc [.w 3 rv.length,.v (.int .i64 M.length)]),(3,.vec T.gO 1 rv),(1,.box T.dc [.v (.slice none 0 0),.v (.int .i64 0)]),(0,.box T.dc [.v (.slice am M.length cm),.v (.int .i64 n)])],5,z.2.2.2,z.2.2.1⟩,fun z=>M.length-z.1,
   fun z=>z.1<=M.length∧cV w.heap.size w z.2.2.1∧dU z.2.2.1 (Bs S w.heap.size z.2.2.2 (.slice (some ⟨z.2.1,0,none⟩) M.length M.length)) rv ((fL M n).take k)∧iJ z.2.2.1 S w.heap.size z.2.2.2 (.slice (some ⟨z.2.1,0,none⟩) M.length M.length) M.length z.1 (M.map fun r=>r.getD k 0),?_,?_⟩
  ·intro O w' r;have hf:=iJ.oN (S:=S) (n:=M.length) r (id:=4) rfl (by unfold maxLen;omega) (M.map fun r=>r.getD k 0)
   exact⟨(0,(O 4).g,w',((O 4).g,(O 4).g+1)::iv),⟨aP _,hw.tr r.cM,dU.cI (hK.rel r hS) fun g hg=>⟨hg.mono fun p hp=>aC _ hp,fun e=>Rel.not r hS hg 4 _ rfl (r.fits (id:=4) rfl).1 (by injection e)⟩,hf⟩,
    Sub.oN r (id:=4) (t:=5) rfl rfl ⟨rfl,rfl,rfl,rfl,trivial⟩ rfl ⟨rfl,rfl,rfl,rfl,rfl,rfl,rfl,rfl,trivial⟩ (by simp[jn,SV.sc,At.sc])⟩
  rintro⟨i,gx,w2,iv⟩ ⟨hi,hw,hK,hX⟩;dsimp only at hi hw hK hX ⊢;refine dI.mk (fun hib=>?_) (fun hib=>?_)
  ·have hib:i<M.length:=by simpa using hib
   obtain⟨x,hx⟩:∃r,M[i]? =some r:=⟨_,aB hib⟩
   have hxl:=hlen x (aD hx);obtain⟨q,hq⟩:∃q,x[k]? =some q:=⟨_,aB (by omega)⟩
   have hqd:x.getD k 0=q:=by rw[List.getD,hq];rfl
   obtain⟨adm,um,ham,hRm,km1,km2⟩:=jq.load hM hx;obtain⟨a0,c0,rfl,hc0,-⟩:=dL.shape hRm;obtain⟨adq,cs,haq,hF,_,hl⟩:=dL.load hRm hq;obtain⟨g0,g1,g2,g3,g4,g5,g6,g7,rfl,hF⟩:=hF;refine⟨adm,ham,by omega,.slice a0 x.length c0,rd1 km2 hw (hC _ km1),adq,haq,by omega,[.bool g0,.slice g1 g2 g3,.bool g4,.slice g5 g6 g7],rfl,rdO hl hw hS,⟨gx,0,none⟩,rfl,by omega,?_⟩;intro O w' r
   have hF2:cP w2 (Bs S w.heap.size iv (.slice (some ⟨gx,0,none⟩) M.length M.length)) (.agg #[.bool g0,.slice g1 g2 g3,.bool g4,.slice g5 g6 g7]) q:=(hF.cG fun g hg=>hw.block g (hS g hg)).cI fun g hg=>⟨.inl hg,fun e=>by
    have h1:=hS g hg;rcases hX.new g e with h2|⟨h2,_⟩
    ·exact h2
    ·omega⟩
   obtain⟨g,hg,h1,h2,h3,h4⟩:=hX.store (j:=i) hib (by rw[aN,hx,<-hqd];rfl) hF2 r hS;injection hg with hg;injection hg with hg;subst hg;refine⟨h1,h2,h3,fun w5 hw5=>?_⟩;obtain⟨k1,k2,k3,k4⟩:=h4 w5 hw5;have hw2:=(hw.tr r.cM).tr k3;have hK2:=dU.cG hK (Bs.kept r hS k2 fun g e=>e);refine⟨((i+1:Nat):Int),wo,?_⟩;intro ρ3 w6 r3;exact⟨(i+1,gx,w6,_),⟨hib,hw2.tr r3.cM,dU.cG hK2 (Bs.same r3 hS),k1.rel r3 hS⟩,Sub.gn [] r3,by dsimp only;omega⟩
  have hib:i=M.length:=aR hi (by simpa using hib);rw[hib]at hX;have hX2:=(hX.done (by simp)).c;replace hK:=(dU.cI hK fun g hg=>hg.1).push (u:=(.slice (some ⟨gx,0,none⟩) M.length M.length)) (x:=M.map fun r=>r.getD k 0) rfl hX2;rw[<-hnext]at hK;refine .inl ?_;refine⟨by simp,by omega,by unfold maxLen;omega,((k+1:Nat):Int),wo,?_⟩;intro ρ3 w3 r3;exact⟨(k+1,rv++[(.slice (some ⟨gx,0,none⟩) M.length M.length)],w3,_),⟨hkb,hw.tr r3.cM,hK.rel r3 hS⟩,Sub.gn [(3,6)] r3 ⟨by dsimp only;rw[List.length_append,List.length_singleton];rfl,rfl,rfl,rfl,trivial⟩,by dsimp only;omega⟩
 have hkb:k=n:=aR hk (by simpa using hkb);rw[List.take_of_length_le (by rw[jb];omega)]at hK;intro ρe we re;refine⟨_,rfl,hw.tr re.cM,_,rfl,rv,?_,hK.1,fun i u x k1 k2=>cO.cI (cO.rel (hK.2.2 i u x k1 k2) re hS) fun g hg=>Cv.nw hg re⟩;rw[<-hK.1];exact(re.iX (id:=3) (sz:=1) (m:=rv.length) rfl (by simp) (by unfold maxLen;omega) (by decide) hK.2.1).cI fun g hg=>.inr hg
end Go.Ex
namespace Go.Ex
variable{A M:List (List Rat)}{pv:List Nat}{B j:Nat}{v:Nat->Rat}
theorem A7(f:Nat->Rat):∀n,cZ f n=jZ (List.range n) f
 |0=>rfl
 |n+1=>by
  rw[cZ,A7 f n,bN,uz];show _=_+(_+0)
  rw[bX]
theorem A8(g:Nat->Rat):∀l:List Nat,jZ l g=cZ (fun k=>g (l.getD k 0)) l.length
 |[]=>rfl
 |t::l=>by
  rw[List.length_cons,xt];show g t+jZ l g=g t+_;rw[A8 g l];rfl
def mulR(M:List (List Rat))(n:Nat)(x:Nat->Rat)(j:Nat):Rat:=cZ (fun t=>dG M j t*x t) n
theorem eC.dot{E:Mx}{r n:Nat}(h:eC E r n v):∃c:Nat->Rat,(∀t,t<n->v t=cZ (fun i=>c i*E i t) r)∧∀x:Nat->Rat,cZ (fun t=>v t*x t) n=cZ (fun i=>c i*cZ (fun t=>E i t*x t) n) r:=by
 obtain⟨c,hc⟩:=h;refine⟨c,hc,fun x=>?_⟩;rw[cK (g:=fun t=>cZ (fun i=>c i*E i t*x t) r) fun t ht=>by rw[hc t ht,<-pq],o9];exact cK fun i _=>by rw[<-eN];exact cK fun t _=>Rat.mul_assoc _ _ _
section
variable{M:List (List Rat)}{n:Nat}{x:Nat->Rat}{b:List Rat}
theorem Hu(hM:fe n M)(h:∀j,j<M.length->mulR M n x j=0){c:Nat}(hc:c<=n):∀i,i<M.length->mulR (cN M c).1 n x i=0:=fun i hi=>by
 obtain⟨c,_,h2⟩:=((kX hM c hc).1 i hi).dot;unfold mulR;rw[h2 x,cK (g:=fun _=>0) fun j hj=>by rw[show cZ (fun t=>dG M j t*x t) n=0 from h j hj,bC],dx]
theorem DE(hM:fe n M){c:Nat}(hc:c<=n)(h:∀i,i<M.length->mulR (cN M c).1 n x i=0):∀j,j<M.length->mulR M n x j=0:=fun j hj=>by
 obtain⟨c,_,h2⟩:=((kX hM c hc).2 j hj).dot;unfold mulR;rw[h2 x,cK (g:=fun _=>0) fun i hi=>by rw[show cZ (fun t=>dG (cN M _).1 i t*x t) n=0 from h i hi,bC],dx]
theorem kO(hM:fe n M){t:Nat}(hj:j<M.length):(t<n->dG (dq M b) j t=dG M j t)∧dG (dq M b) j n=b.getD j 0:=by
 have hr:=aB hj;have hl:(M[j]).length=n:=hM _ (aX hj);have e:(dq M b).getD j []=M[j]++[b.getD j 0]:=by rw[dq,List.getD,List.getElem?_mapIdx,hr];rfl
 have e2:M.getD j []=M[j]:=by rw[List.getD,hr];rfl
 refine⟨fun ht=>?_,?_⟩
 ·rw[dG,dG,e,e2,List.getD,aM (by omega),<-List.getD]
 ·rw[dG,e,List.getD,aO (by omega),hl,bM];rfl
def DF(x:Nat->Rat)(n t:Nat):Rat:=if t<n then x t else -1
theorem E3(hM:fe n M)(hj:j<M.length):mulR (dq M b) (n+1) (DF x n) j=mulR M n x j-b.getD j 0:=by
 have h:=fun t=>kO (b:=b) (t:=t) hM hj;unfold mulR;rw[cZ,(h 0).2,show DF x n n= -1 by unfold DF;rw[aK (Nat.lt_irrefl n)],cK (g:=fun t=>dG M j t*x t) fun t ht=>by rw[(h t).1 ht];unfold DF;rw[if_pos ht]];grind
def gR(M:List (List Rat))(b:List Rat)(n:Nat):Option (List Rat):=
 let e:=cN (dq M b) n
 if ∀j,j<M.length->e.2.length<=j->dG e.1 j n=0 then some (gK e.1 e.2 n e.2.length)else none
theorem kY{x:List Rat}(hM:fe n M)(h:gR M b n=some x):x.length=n∧∀j,j<M.length->mulR M n (fun t=>x.getD t 0) j=b.getD j 0:=by
 unfold gR at h;dsimp only at h;split at h
 ·rename_i h0;injection h with h;have hW:=iw (b:=b) hM;obtain⟨r1,r2,r3,r4,r5⟩:=eA hW n (Nat.le_succ n);have hpc:=iN (dq M b) n;have hwl:=ef (M:=M) (b:=b);have hl:=eW (dq M b) n;have hxl:x.length=n:=by rw[<-h,j5]
  have hin:∀j,j<(cN (dq M b) n).2.length->x.getD ((cN (dq M b) n).2.getD j 0) 0=dG (cN (dq M b) n).1 j n:=fun j hj=>by
   rw[<-h];exact nE (F:=gK (cN (dq M b) n).1 (cN (dq M b) n).2 n) (f:=fun i=>dG (cN (dq M b) n).1 i n) (fun i=>gQ _ _ n i) (j5 _ _ n) hpc.2.1 r4 _ (aG _) hj
  have hout:∀t,t∉(cN (dq M b) n).2->x.getD t 0=0:=fun t ht=>by rw[<-h];exact sP ht
  refine⟨hxl,fun j hj=>?_⟩;have key:=DE (M:=dq M b) (x:=DF (fun t=>x.getD t 0) n) hW (c:=n) (Nat.le_succ n) (fun i hi=>?_) j (by rw[hwl];exact hj)
  ·rw[E3 hM hj]at key;grind
  ·unfold mulR;rw[cZ,show DF (fun t=>x.getD t 0) n n= -1 by unfold DF;rw[aK (Nat.lt_irrefl n)],cK (g:=fun t=>dG (cN (dq M b) n).1 i t*x.getD t 0) fun t ht=>by unfold DF;rw[if_pos ht]];rcases aQ i (cN (dq M b) n).2.length with h1|h1
   ·rw[fP (i:=(cN (dq M b) n).2.getD i 0) (r4 _ (by rw[List.getD,aB h1];exact aX _)) fun t ht hne=>?_,r5 i i h1 (by omega),if_pos rfl,hin i h1]
    ·grind
    ·by_cases hp:t∈(cN (dq M b) n).2
     ·obtain⟨k,hk,rfl⟩:=rK hp;rw[r5 k i hk (by omega),aK (fun e=>hne (by rw[e])),bG]
     ·rw[hout t hp,bC]
   ·rw[cK (g:=fun _=>0) fun t ht=>by rw[r3 i t h1 (by omega) ht,bG],dx,h0 i (by rw[<-hwl];exact hi) h1];grind
 ·cases h
theorem rP(hM:fe n M)(h:gR M b n=none):∃y:Nat->Rat,(∀t,t<n->cZ (fun j=>y j*dG M j t) M.length=0)∧cZ (fun j=>y j*b.getD j 0) M.length≠0:=by
 unfold gR at h;dsimp only at h;split at h
 ·cases h
 ·rename_i h0;obtain⟨i,hi,h1,h2⟩:∃i,i<M.length∧(cN (dq M b) n).2.length<=i∧dG (cN (dq M b) n).1 i n≠0:=by
   refine Decidable.byContradiction fun hno=>h0 fun j hj hr=>Decidable.byContradiction fun h2=>hno ⟨j,hj,hr,h2⟩
  have hW:=iw (b:=b) hM;have hwl:=ef (M:=M) (b:=b);have hl:=eW (dq M b) n;obtain⟨r1,r2,r3,r4,r5⟩:=eA hW n (Nat.le_succ n);obtain⟨y,hy⟩:=(kX hW n (Nat.le_succ n)).1 i (by omega);rw[hwl]at hy;refine⟨y,fun t ht=>?_,?_⟩
  ·have h3:=hy t (by omega);rw[r3 i t h1 (by omega) ht]at h3;rw[h3];exact cK fun j hj=>by rw[(kO (b:=b) hM hj).1 ht]
  ·have h3:=hy n (by omega);rw[cK (g:=fun j=>y j*b.getD j 0) fun j hj=>by rw[(kO (b:=b) (t:=n) hM hj).2]]at h3;rw[<-h3];exact h2
theorem A9{x:Nat->Rat}(hM:fe n M)(h:∀j,j<M.length->mulR M n x j=b.getD j 0):∃z,gR M b n=some z:=by
 cases e:gR M b n with
 |some z=>exact⟨z,rfl⟩
 |none=>
  obtain⟨y,h1,h2⟩:=rP hM e;refine absurd ?_ h2;rw[cK fun j hj=>by rw[<-h j hj,mulR,<-eN],o9,cK (g:=fun _=>0) fun t ht=>?_,dx];rw[cK (g:=fun j=>y j*dG M j t*x t) fun j _=>(Rat.mul_assoc _ _ _).symm,pq,h1 t ht,bG]
theorem Hv(M:List (List Rat))(n:Nat)(x y:Nat->Rat)(j:Nat):mulR M n (fun t=>x t-y t) j=mulR M n x j-mulR M n y j:=by
 unfold mulR;rw[<-Cz];exact cK fun t _=>by grind
theorem sW(M:List (List Rat))(b:List Rat):iz M b=dq M b:=rfl
theorem DG{r i t:Nat}(h:i<r):dG (A.take r) i t=dG A i t:=by
 rw[dG,dG,show(A.take r).getD i []=A.getD i [] by rw[List.getD,bP h,<-List.getD]]
theorem vD(A:List (List Rat))(pv:List Nat)(n:Nat):∀k,k<=pv.length->gK (A.take pv.length) pv n k=gK A pv n k
 |0,_=>rfl
 |k+1,h=>by rw[gQ,gQ,vD A pv n k (by omega),DG (by omega)]
theorem vE(A:List (List Rat))(pv:List Nat)(n c:Nat):∀k,k<=pv.length->fK (A.take pv.length) pv n c k=fK A pv n c k
 |0,_=>rfl
 |k+1,h=>by rw[fq,fq,vE A pv n c k (by omega),DG (by omega)]
abbrev cT(M:List (List Rat))(n:Nat):List (List Rat):=du (cN M n).1 (cN M n).2 n n
theorem E4(hM:fe n M)(hW:C3 M n B):j7 M n=cT M n:=by
 obtain⟨e1,e2⟩:=rO hM hW;unfold j7 cT du;rw[e1,e2];exact List.map_congr_left fun c _=>vE _ _ n c _ (aG _)
theorem Aa(hM:fe n M)(hW:C3 (dq M b) (n+1) B):iU M b n=gR M b n:=by
 have hWl:=iw (b:=b) hM;obtain⟨e1,e2⟩:=rO hWl hW;have hl:=eW (dq M b) n;have hwl:=ef (M:=M) (b:=b);obtain⟨r1,r2,r3,r4,r5⟩:=eA hWl n (Nat.le_succ n);have e:cN (dq M b) (n+1)=dW (cN (dq M b) n) n:=by
  unfold cN;rw[bN,List.foldl_append];rfl
 unfold iU gR;dsimp only
 rcases jg n r2 with⟨k1,k2⟩|⟨k,k1,k2,k3,k4⟩
 ·rw[aK (by rw[sW,e1,e,k1];exact fun h=>by have:=r4 n h;omega),if_pos fun j hj hr=>k2 j hr (by omega),sW,e1,e2,e,k1,vD _ _ n _ (aG _)]
 ·rw[if_pos (by rw[sW,e1,e,k4];simp),aK fun h=>k3 (h k (by omega) k1)]
theorem Hw(hM:fe n M){x:List Rat}(h:∀j,j<M.length->mulR M n (fun t=>x.getD t 0) j=0):Diff (cN M n).1 (cN M n).2 n x:=by
 obtain⟨r1,r2,r3,r4,r5⟩:=eA hM n (aG _);have hpc:=iN M n;have hl:=eW M n;refine⟨hpc.2.1,r4,r2,r5,fun j hj=>?_⟩;rw[<-A7];have h1:=Hu hM h (aG n) j (by omega);unfold mulR at h1;rw[h1,dG,List.getD,List.getElem?_eq_none (by rw[r1.getD hj];exact aG _)];rfl
theorem mU(M:List (List Rat))(n:Nat):(cT M n).length=(iS (cN M n).2 n).length:=by unfold cT du;rw[aL]
theorem yH(M:List (List Rat))(n:Nat){k:Nat}(hk:k<(cT M n).length):(cT M n).getD k []=fK (cN M n).1 (cN M n).2 n ((iS (cN M n).2 n).getD k 0) (cN M n).2.length:=by
 obtain⟨r,hr⟩:∃r,(cT M n)[k]? =some r:=⟨_,aB hk⟩
 rw[List.getD,hr];exact(nF hr).2
theorem kZ(M:List (List Rat))(n:Nat):fe n (cT M n):=fun r hr=>by
 obtain⟨k,hk⟩:=aS hr;rw[(nF hk).2,j4]
theorem sX(hM:fe n M){k:Nat}(hk:k<(cT M n).length):∀j,j<M.length->mulR M n (dG (cT M n) k) j=0:=by
 obtain⟨r1,r2,r3,r4,r5⟩:=eA hM n (aG _);have hpc:=iN M n;have hl:=eW M n;have hf:=kW.1 (o8 (by rw[<-mU];exact hk));refine DE hM (aG n) fun i hi=>?_;have hrow:=yH M n hk;generalize hc:(iS (cN M n).2 n).getD k 0=c at hf hrow;have hin:∀j,j<(cN M n).2.length->dG (cT M n) k ((cN M n).2.getD j 0)= -(dG (cN M n).1 j c):=fun j hj=>by
  rw[dG,hrow];exact nE (F:=fK (cN M n).1 (cN M n).2 n c) (f:=fun i=> -(dG (cN M n).1 i c)) (fun i=>fq _ _ n c i) (j4 _ _ n c) hpc.2.1 r4 _ (aG _) hj
 have hout:∀t,t∉(cN M n).2->dG (cT M n) k t=if t=c then 1 else 0:=fun t ht=>by rw[dG,hrow];exact o7 ht hf.1
 unfold mulR;rcases aQ i (cN M n).2.length with h1|h1
 ·have hpi:(cN M n).2.getD i 0∈(cN M n).2:=by rw[List.getD,aB h1];exact aX _
  have hne:(cN M n).2.getD i 0≠c:=fun e=>hf.2 (e▸hpi);have e:cZ (fun t=>dG (cN M n).1 i t*dG (cT M n) k t) n=cZ (fun t=>(if t=(cN M n).2.getD i 0 then -(dG (cN M n).1 i c)else 0)+(if t=c then dG (cN M n).1 i c else 0)) n:=by
   refine cK fun t ht=>?_;by_cases hp:t∈(cN M n).2
   ·obtain⟨j,hj,rfl⟩:=rK hp;rw[hin j hj,r5 j i hj (by omega),aK (show ¬(cN M n).2.getD j 0=c from fun e=>hf.2 (e▸hp)),bX];by_cases hij:i=j
    ·rw[if_pos hij,if_pos (by rw[hij]),hij,bu]
    ·have hne2:(cN M n).2.getD j 0≠(cN M n).2.getD i 0:=fun e2=>hij (by
      rcases bq i j with h5|h5|h5
      ·have:(cN M n).2.getD i 0<(cN M n).2.getD j 0:=Hd hpc.2.1 h5 hj;omega
      ·exact h5
      ·have:(cN M n).2.getD j 0<(cN M n).2.getD i 0:=Hd hpc.2.1 h5 h1
       omega)
     rw[aK hij,aK hne2,bG]
   ·rw[hout t hp,aK (show ¬t=(cN M n).2.getD i 0 from fun e2=>hp (e2▸hpi)),Rat.zero_add];by_cases htc:t=c
    ·rw[if_pos htc,if_pos htc,htc,Rat.mul_one]
    ·rw[aK htc,aK htc,bC]
  rw[e,fY,fP (i:=(cN M n).2.getD i 0) (r4 _ hpi) fun t _ hne=>aK hne,fP (i:=c) hf.1 fun t _ hne=>aK hne,if_pos rfl,if_pos rfl];grind
 ·rw[cK (g:=fun _=>0) fun t ht=>by rw[r3 i t h1 (by omega) ht,bG],dx]
theorem Fg(hM:fe n M)(h:∀j,j<M.length->mulR M n x j=0):∃c:Nat->Rat,∀t,t<n->x t=cZ (fun k=>c k*dG (cT M n) k t) (cT M n).length:=by
 obtain⟨l,hl⟩:∃l,l=(List.range n).map x:=⟨_,rfl⟩
 have hx:∀t,t<n->l.getD t 0=x t:=fun t ht=>by rw[hl,List.getD,aN,bp ht];rfl
 have hd:=Hw (x:=l) hM fun j hj=>Eq.trans (cK fun t ht=>congrArg (dG M j t* ·) (hx t ht)) (h j hj);refine⟨fun k=>l.getD ((iS (cN M n).2 n).getD k 0) 0,fun t ht=>?_⟩;have h1:=hd.rest ht;obtain⟨r1,r2,r3,r4,r5⟩:=eA hM n (aG _);have h0:(gK (cN M n).1 (cN M n).2 n (cN M n).2.length).getD t 0=0:=by
  by_cases hp:t∈(cN M n).2
  ·obtain⟨j,hj,rfl⟩:=rK hp;rw[hd.Mq hj,dG,List.getD,List.getElem?_eq_none (by rw[r1.getD (by omega)];exact aG _)];rfl
  ·exact sP hp
 rw[h0,bG,bX,hx t ht,A8]at h1;rw[h1,mU];exact cK fun k hk=>by rw[dG,yH M n (by rw[mU];exact hk)]
theorem Fh{c:Nat->Rat}(h:∀t,t<n->cZ (fun k=>c k*dG (cT M n) k t) (cT M n).length=0):∀k,k<(cT M n).length->c k=0:=fun k hk=>by
 have hk2:k<(iS (cN M n).2 n).length:=by rw[<-mU];exact hk
 have hf:=kW.1 (o8 hk2);have h1:=h _ hf.1;obtain⟨r,hr⟩:∃r,(cT M n)[k]? =some r:=⟨_,aB hk⟩
 rw[fP hk fun i hi hne=>?_]at h1
 ·rw[dG,show(cT M n).getD k []=r by rw[List.getD,hr];rfl,xq hr hr,if_pos rfl,Rat.mul_one]at h1;exact h1
 ·obtain⟨s,hs⟩:∃s,(cT M n)[i]? =some s:=⟨_,aB hi⟩
  rw[dG,show(cT M n).getD i []=s by rw[List.getD,hs];rfl,xq hr hs,aK hne,bC]
end
theorem yI(p:Nat->Bool):∀l:List Nat,l.length=(l.filter p).length+(l.filter fun c=> !p c).length
 |[]=>rfl
 |c::l=>by
  have ih:=yI p l;rw[List.filter_cons,List.filter_cons]
  cases p c with
  |true=>simp;omega
  |false=>simp;omega
theorem Hx{n:Nat}(hn:pv.Nodup)(hl:∀p∈pv,p<n):(iS pv n).length=n-pv.length:=by
 have h1:(List.range n).length=((List.range n).filter fun c=>decide (c∉pv)).length+((List.range n).filter fun c=>decide (c∈pv)).length:=by
  refine(yI (fun c=>decide (c∉pv)) (List.range n)).trans ?_;congr 2;refine List.filter_congr fun c _=>?_;by_cases h:c∈pv<;>simp[h]
 have h2:((List.range n).filter fun c=>decide (c∈pv)).length=pv.length:=by
  refine(List.Perm.length_eq ?_);refine(List.perm_ext_iff_of_nodup (List.Pairwise.filter _ List.nodup_range) hn).2 fun c=>?_;rw[List.mem_filter,List.mem_range,decide_eq_true_eq];exact⟨fun h=>h.2,fun h=>⟨hl c h,h⟩⟩
 rw[List.length_range]at h1;unfold iS;omega
theorem yJ{n:Nat}(hM:fe n M):(cT M n).length=n-(cN M n).2.length:=by
 obtain⟨r1,r2,r3,r4,r5⟩:=eA hM n (aG _);have hpc:=iN M n;rw[mU];exact Hx (hpc.2.1.imp fun h=>Nat.ne_of_lt h) r4
end Go.Ex
namespace Go.Ex
open Go Go.Sx Go.Proofs
variable{after:Array Edge}{z:Int}{p:Int×Int×Rat}{M:List (List Rat)}{css:List (List Value)}{l:List Int}{cs:List Value}{i j:Nat}{C S S':Nat->Prop}{guard:Option (Nat×Bool)}{a:Option Addr}{dst:Option Tmp}{K:SV->Hp->Nat->Iv->World->Prop}{v:Value}{w w2:World}{f:eh}
theorem cR.nil:cR w S (.slice none 0 0) []:=⟨[],⟨by decide,rfl,fun u hu=>absurd hu (by simp),none,0,rfl,aG _,fun j u hu=>absurd hu (by simp)⟩,rfl,fun i u x h1 h2=>absurd h2 (by simp)⟩
theorem CS(M:List (List Rat)):j7 M 0=[]:=by simp[j7,du]
set_option maxHeartbeats 1000000 in
theorem Dp(hC:Old C w)(hS:Old S w)(hM:jq w C S v M)(hlen:fe 0 M)(hR:M.length<=1000):
  dm PG N.iG #[.agg #[v,.int .i64 0],.int .i64 0] w (eB w fun v' w2=>v'= .agg #[.slice none 0 0,.int .i64 0,.slice none 0 0,.slice none 0 0]):=by
 have hw:cV w.heap.size w w:=cV.refl;obtain⟨am,cm,rfl,hcm,hmm⟩:=jq.shape hM;unfold maxLen at hmm;refine jB (by simp) ?_;refine⟨0,0,rfl,rfl,aG _,by omega,by omega,World,fun z=>⟨[(1,.o (.v (.int .i64 0))),(2,.o (.p 0 0)),(4,.o (.p 1 0)),(5,.o (.p 2 0)),(6,.o (.s 3 0 0 0)),(27,.o (.v (.int .i64 0))),(28,.o (.v (.int .i64 0)))],[(3,.arr T.int []),(2,.box T.dN [.v (.slice none 0 0),.v (.int .i64 0),.v (.slice none 0 0),.v (.slice none 0 0)]),(1,.box T.dN [.v (.slice none 0 0),.v (.int .i64 0),.v (.slice none 0 0),.v (.slice none 0 0)]),(0,.box T.dc [.v (.slice am M.length cm),.v (.int .i64 0)])],4,[],z⟩,fun z=>0,fun z=>cV w.heap.size w z,?_,?_⟩
 ·intro O w' r3;exact⟨w',hw.tr r3.cM,Sub.gn [] r3⟩
 rintro w1 hw;dsimp only at hw ⊢
 refine⟨Nat×World,fun z=>⟨[(38,.o (.v (.int .i64 ((z.1:Nat):Int)))),(1,.o (.v (.int .i64 0))),(2,.o (.p 0 0)),(4,.o (.p 1 0)),(5,.o (.p 2 0)),(6,.o (.s 3 0 0 0)),(36,.o (.v (.slice am M.length cm))),(37,.o (.v (.int .i64 M.length)))],[(3,.arr T.int []),(2,.box T.dN [.v (.slice none 0 0),.v (.int .i64 0),.v (.slice none 0 0),.v (.slice none 0 0)]),(1,.box T.dN [.v (.slice none 0 0),.v (.int .i64 0),.v (.slice none 0 0),.v (.slice none 0 0)]),(0,.box T.dc [.v (.slice am M.length cm),.v (.int .i64 0)])],5,[],z.2⟩,fun z=>M.length-z.1,
  fun z=>z.1<=M.length∧cV w.heap.size w z.2,?_,?_⟩
 ·intro O w' r3;exact⟨(0,w'),⟨aP _,hw.tr r3.cM⟩,Sub.gn [] r3⟩
 rintro⟨i,w1⟩ ⟨hi,hw⟩;dsimp only at hi hw ⊢;refine dI.mk (fun hib=>?_) (fun hib=>?_)
 ·have hib:i<M.length:=by simpa using hib
  obtain⟨x,hx⟩:∃r,M[i]? =some r:=⟨_,aB hib⟩
  have hxl:=hlen x (aD hx);obtain rfl:=List.eq_nil_of_length_eq_zero hxl;obtain⟨adm,um,ham,hRm,km1,km2⟩:=jq.load hM hx;obtain⟨css,⟨-,g1,g2,a0,c0,rfl,g4,g5⟩,hcl,hc4,hcs⟩:=hRm;obtain rfl:=List.eq_nil_of_length_eq_zero hcl;refine⟨adm,ham,by omega,.slice a0 0 c0,rd1 km2 hw (hC _ km1),?_⟩;refine .inl ?_;refine⟨[],rfl,g2,fun O w' r hpos=>absurd hpos (by simp),rfl,by omega,by unfold maxLen;omega,World,fun z=>⟨[(9,.o (.w 6 0)),(46,.o (.v (.int .i64 0))),(47,.o (.v (.int .i64 0))),(2,.o (.p 0 0)),(4,.o (.p 1 0)),(5,.o (.p 2 0)),(6,.o (.s 3 0 0 0)),(8,.o (.v (.int .i64 ((i:Nat):Int)))),(36,.o (.v (.slice am M.length cm))),(37,.o (.v (.int .i64 M.length))),(38,.o (.v (.int .i64 ((i:Nat):Int)))),(1,.o (.v (.int .i64 0)))],[(6,.vec T.Rat 4 []),(3,.arr T.int []),(2,.box T.dN [.v (.slice none 0 0),.v (.int .i64 0),.v (.slice none 0 0),.v (.slice none 0 0)]),(1,.box T.dN [.v (.slice none 0 0),.v (.int .i64 0),.v (.slice none 0 0),.v (.slice none 0 0)]),(0,.box T.dc [.v (.slice am M.length cm),.v (.int .i64 0)])],7,[],z⟩,fun z=>0,fun z=>cV w.heap.size w z,?_,?_⟩
  ·intro O w' r3;exact⟨w',hw.tr r3.cM,Sub.gn [] r3⟩
  rintro w1 hw;dsimp only at hw ⊢;refine⟨World,fun z=>⟨[(9,.o (.w 6 0)),(12,.o (.v (.int .i64 0))),(2,.o (.p 0 0)),(4,.o (.p 1 0)),(5,.o (.p 2 0)),(6,.o (.s 3 0 0 0)),(8,.o (.v (.int .i64 ((i:Nat):Int)))),(36,.o (.v (.slice am M.length cm))),(37,.o (.v (.int .i64 M.length))),(38,.o (.v (.int .i64 ((i:Nat):Int)))),(1,.o (.v (.int .i64 0)))],[(6,.vec T.Rat 4 []),(3,.arr T.int []),(2,.box T.dN [.v (.slice none 0 0),.v (.int .i64 0),.v (.slice none 0 0),.v (.slice none 0 0)]),(1,.box T.dN [.v (.slice none 0 0),.v (.int .i64 0),.v (.slice none 0 0),.v (.slice none 0 0)]),(0,.box T.dc [.v (.slice am M.length cm),.v (.int .i64 0)])],7,[],z⟩,fun z=>0,fun z=>cV w.heap.size w z,?_,?_⟩
  ·intro O w' r3;exact⟨w',hw.tr r3.cM,Sub.gn [] r3⟩
  rintro w1 hw;dsimp only at hw ⊢;refine⟨((i+1:Nat):Int),wo,?_⟩;intro ρ3 w3 r3;exact⟨(i+1,w3),⟨hib,hw.tr r3.cM⟩,Sub.gn [] r3,by dsimp only;omega⟩
 refine⟨World,fun z=>⟨[(4,.o (.p 1 0)),(5,.o (.p 2 0)),(17,.o (.p 5 0)),(159,.o (.s 3 0 0 0)),(160,.o (.v (.int .i64 0))),(161,.o (.v (.int .i64 0)))],[(5,.box T.dN [.v (.slice none 0 0),.v (.int .i64 0),.v (.slice none 0 0),.v (.slice none 0 0)]),(3,.arr T.int []),(2,.box T.dN [.v (.slice none 0 0),.v (.int .i64 0),.v (.slice none 0 0),.v (.slice none 0 0)]),(1,.box T.dN [.v (.slice none 0 0),.v (.int .i64 0),.v (.slice none 0 0),.v (.slice none 0 0)]),(0,.box T.dc [.v (.slice am M.length cm),.v (.int .i64 0)])],6,[],z⟩,fun z=>0,fun z=>cV w.heap.size w z,?_,?_⟩
 ·intro O w' r3;exact⟨w',hw.tr r3.cM,Sub.gn [] r3⟩
 rintro w1 hw;dsimp only at hw ⊢;intro ρe we re;exact⟨_,rfl,hw.tr re.cM,rfl⟩
set_option maxHeartbeats 1000000 in
theorem FJ(hC:Old C w)(hS:Old S w)(hM:jq w C S v M)(hlen:fe 0 M)(hR:M.length<=1000):
  dm PG N.fw #[.agg #[v,.int .i64 0]] w (eB w fun v' w2=>cR w2 (Nf w w2) v' (j7 M 0)):=by
 have hw:cV w.heap.size w w:=cV.refl;obtain⟨am,cm,rfl,hcm,hmm⟩:=jq.shape hM;unfold maxLen at hmm;refine jC (by simp) ?_
 refine cC (cL (Φ:=fun _ w' v w2=>v= .agg #[.slice none 0 0,.int .i64 0,.slice none 0 0,.slice none 0 0]) (fun O w' r=>by
  obtain⟨rv,m1,m2,m3⟩:=hM
  exact Dp (C:=C) (S:=S) (oS hC r) (oS hS r) ⟨rv,m1.cG fun g hg=>(hw.tr r.cM).block g (hC g hg),m2,fun i u x h1 h2=>cO.cG (m3 i u x h1 h2) fun g hg=>(hw.tr r.cM).block g (hS g hg)⟩ hlen hR) ?_)
 rintro O wa1 v1 wb1 r he hb1 rfl;replace hw:=hw.tr hb1;generalize (wa1.heap.size,wb1.heap.size)::[]=iv1 at*
 refine⟨0,0,rfl,rfl,aG _,by omega,by omega,World×Iv,fun z=>⟨[(1,.o (.p 0 0)),(3,.o (.p 1 0)),(4,.o (.s 2 0 0 0)),(20,.o (.v (.slice none 0 0))),(21,.o (.v (.int .i64 0))),(22,.o (.v (.int .i64 0)))],[(2,.arr T.bool []),(1,.box T.dN [.v (.slice none 0 0),.v (.int .i64 0),.v (.slice none 0 0),.v (.slice none 0 0)]),(0,.box T.dc [.v (.slice am M.length cm),.v (.int .i64 0)])],3,z.2,z.1⟩,fun z=>0,fun z=>cV w.heap.size w z.1,?_,?_⟩
 ·intro O w' r3;exact⟨(w',_),hw.tr r3.cM,Sub.gn [] r3⟩
 rintro⟨w1,iv⟩ hw;dsimp only at hw ⊢;refine⟨World×Iv,fun z=>⟨[(32,.o (.v (.int .i64 0))),(7,.o (.v (.slice none 0 0))),(1,.o (.p 0 0)),(3,.o (.p 1 0)),(4,.o (.s 2 0 0 0)),(31,.o (.v (.int .i64 0)))],[(2,.arr T.bool []),(1,.box T.dN [.v (.slice none 0 0),.v (.int .i64 0),.v (.slice none 0 0),.v (.slice none 0 0)]),(0,.box T.dc [.v (.slice am M.length cm),.v (.int .i64 0)])],3,z.2,z.1⟩,fun z=>0,fun z=>cV w.heap.size w z.1,?_,?_⟩
 ·intro O w' r3;exact⟨(w',_),hw.tr r3.cM,Sub.gn [] r3⟩
 rintro⟨w1,iv⟩ hw;dsimp only at hw ⊢;intro ρe we re;rw[CS];exact⟨_,rfl,hw.tr re.cM,cR.nil⟩
theorem FK{n h:Nat}(hC:Old C w)(hS:Old S w)(hM:jq w C S v M)(hlen:fe n M)(hR:M.length<=1000)(hn:n<=1000)(hB:tS M n h)(hAb:Ht (dR M n).1 h)(hh:3*h<=90000):
  dm PG N.fw #[.agg #[v,.int .i64 n]] w (eB w fun v' w2=>cR w2 (Nf w w2) v' (j7 M n)):=by
 rcases bJ n with h0|h0
 ·subst h0;exact FJ hC hS hM hlen hR
 ·exact Ax hC hS hM hlen h0 hn hR hB hAb hh
theorem ud{k:Nat}(h:∀cs∈css,cs.length=k):css.flatten.length=css.length*k:=by
 induction css with
 |nil=>simp
 |cons c r ih=>rw[List.flatten_cons,List.length_append,h c aJ,ih fun x hx=>h x (aC _ hx),List.length_cons,Nat.succ_mul];omega
theorem ue{k:Nat}(h:∀cs∈css,cs.length=k)(hj:css[j]? =some cs)(i:Nat)(u:Value)(hu:cs[i]? =some u):css.flatten[j*k+i]? =some u:=by
 induction css generalizing j with
 |nil=>cases hj
 |cons c r ih=>
  have hc:=h c aJ;have hi:=(aE.1 hu).1
  cases j with
  |zero=>
   injection hj with hj;subst hj;rw[List.flatten_cons,Nat.zero_mul,aV,aM hi];exact hu
  |succ j=>
   rw[List.flatten_cons,aO (by rw[hc,Nat.succ_mul];omega),hc,show(j+1)*k+i-k=j*k+i by rw[Nat.succ_mul];omega];exact ih (fun x hx=>h x (aC _ hx)) hj
def eS{α:Type}(k:Nat)(P:World->(Nat->Prop)->List Value->α->Prop)(w:World)(S:Nat->Prop)(v:Value)(xs:List α):Prop:=
 ∃css:List (List Value),ig w S k v css.flatten xs.length∧css.length=xs.length∧(∀cs∈css,cs.length=k)∧∀(j:Nat) cs x,css[j]? =some cs->xs[j]? =some x->P w S cs x
section
variable{α:Type}{k:Nat}{P:World->(Nat->Prop)->List Value->α->Prop}{w w2:World}{S S':Nat->Prop}{v:Value}{xs:List α}
theorem eS.cG(hP:∀cs x,P w S cs x->P w2 S cs x)(h:eS k P w S v xs)(hk:∀g,S g->w2.heap[g]? =w.heap[g]?):eS k P w2 S v xs:=by
 obtain⟨css,h1,h2,h3,h4⟩:=h;exact⟨css,h1.cG hk,h2,h3,fun j cs x k1 k2=>hP cs x (h4 j cs x k1 k2)⟩
theorem eS.cI(hP:∀cs x,P w S cs x->P w S' cs x)(h:eS k P w S v xs)(hk:∀g,S g->S' g):eS k P w S' v xs:=by
 obtain⟨css,h1,h2,h3,h4⟩:=h;exact⟨css,h1.cI hk,h2,h3,fun j cs x k1 k2=>hP cs x (h4 j cs x k1 k2)⟩
theorem eS.shape(h:eS k P w S v xs):∃a c,v= .slice a xs.length c∧xs.length<=c∧xs.length<=maxLen:=by
 obtain⟨css,⟨h0,_,_,a,c,h1,h2,_⟩,_⟩:=h;exact⟨a,c,h1,h2,h0⟩
theorem eS.load{m c:Nat}{x:α}(hk:0<k)(h:eS k P w S (.slice a m c) xs)(hq:xs[j]? =some x):
  ∃ad cs,a=some ad∧P w S cs x∧cs.length=k∧∀i u,cs[i]? =some u->S ad.block∧w.cell? ((ad.add (j*k)).add i)=some u:=by
 obtain⟨css,⟨h0,h1,h2,a',c',e,h3,h4⟩,hl,hl4,hf⟩:=h;injection e with e1 e2 e3;subst e1;obtain⟨cs,hcs⟩:∃cs,css[j]? =some cs:=⟨_,aB (by rw[hl];exact(aE.1 hq).1)⟩
 have hl:=hl4 cs (aD hcs);obtain⟨ad,k1,k2,k3⟩:=h4 (j*k+0) _ (ue hl4 hcs 0 _ (aB (show 0<cs.length by omega)));refine⟨ad,cs,k1,hf j cs x hcs hq,hl,fun i u hu=>?_⟩;obtain⟨ad2,m1,m2,m3⟩:=h4 (j*k+i) u (ue hl4 hcs i u hu);rw[k1]at m1;injection m1 with m1;subst m1;refine⟨m2,?_⟩;rw[<-m3];have:(ad.add (j*k)).add i=ad.add (j*k+i):=by
  unfold Addr.add;split<;>split<;>simp_all<;>omega
 rw[this]
end
def GB(_w:World)(_S:Nat->Prop)(cs:List Value)(p:Int×Int×Int):Prop:=cs=[.int .i64 p.1,.int .i64 p.2.1,.int .i64 p.2.2]
def GC(_w:World)(_S:Nat->Prop)(cs:List Value)(p:Ld):Prop:=cs=[.int .i64 p.1,.int .i64 p.2.1,.int .i64 p.2.2.1,.int .i64 p.2.2.2]
def CD(w:World)(S:Nat->Prop)(cs:List Value)(p:Int×Int×Rat):Prop:=∃b a n c b2 a2 n2 c2,cs=[.int .i64 p.1,.int .i64 p.2.1,.bool b,.slice a n c,.bool b2,.slice a2 n2 c2]∧eI w S (.agg #[.bool b,.slice a n c,.bool b2,.slice a2 n2 c2]) p.2.2
theorem CD.cG(h:CD w S cs p)(hk:∀g,S g->w2.heap[g]? =w.heap[g]?):CD w2 S cs p:=by
 obtain⟨b,a,n,c,b2,a2,n2,c2,h1,h2⟩:=h;exact⟨b,a,n,c,b2,a2,n2,c2,h1,h2.cG hk⟩
theorem CD.cI(h:CD w S cs p)(hk:∀g,S g->S' g):CD w S' cs p:=by
 obtain⟨b,a,n,c,b2,a2,n2,c2,h1,h2⟩:=h;exact⟨b,a,n,c,b2,a2,n2,c2,h1,h2.cI hk⟩
abbrev mF:=eS 3 GB
abbrev jM:=eS 4 GC
abbrev Ia:=eS 6 CD
structure dV(w:World)(S:Nat->Prop)(vn vb vs:Value)(f:eh):Prop where
 nodes:mF w S vn f.nodes
 bars:Ia w S vb f.bars
 cU:Ia w S vs f.cU
section
variable{S S':Nat->Prop}{H:Hp}{nx:Nat}{iv iv':Iv}{B:Nat}{w w' w2:World}{O:Nat->Sx.df}{v vn vb vs:Value}{f:eh}{l:List Ld}
theorem jM.cG(h:jM w S v l)(hk:∀g,S g->w2.heap[g]? =w.heap[g]?):jM w2 S v l:=eS.cG (w:=w) (fun _ _ h=>h) h hk
theorem dV.cG(h:dV w S vn vb vs f)(hk:∀g,S g->w2.heap[g]? =w.heap[g]?):dV w2 S vn vb vs f:=
 ⟨eS.cG (w:=w) (fun _ _ h=>h) h.nodes hk,eS.cG (fun _ _ h=>h.cG hk) h.bars hk,eS.cG (fun _ _ h=>h.cG hk) h.cU hk⟩
theorem dV.cI(h:dV w S vn vb vs f)(hk:∀g,S g->S' g):dV w S' vn vb vs f:=
 ⟨eS.cI (S:=S) (fun _ _ h=>h) h.nodes hk,eS.cI (fun _ _ h=>h.cI hk) h.bars hk,eS.cI (fun _ _ h=>h.cI hk) h.cU hk⟩
theorem dV.rel(h:dV w (Cv S B iv) vn vb vs f)(r:Rel H nx iv B w O w')(hS:∀g,S g->g<B):dV w' (Cv S B iv) vn vb vs f:=h.cG fun _ hg=>Rel.same r hS hg
theorem dV.shape(h:dV w S vn vb vs f):∃an cn ab cb aq cs,vn= .slice an f.nodes.length cn∧vb= .slice ab f.bars.length cb∧vs= .slice aq f.cU.length cs∧f.nodes.length<=maxLen∧f.bars.length<=maxLen∧f.cU.length<=maxLen:=by
 obtain⟨an,cn,h1,_,h2⟩:=h.nodes.shape;obtain⟨ab,cb,h3,_,h4⟩:=h.bars.shape;obtain⟨aq,cs,h5,_,h6⟩:=h.cU.shape;exact⟨an,cn,ab,cb,aq,cs,h1,h3,h5,h2,h4,h6⟩
end
theorem zI{P:Program}{τ:mL}{B nx:Nat}{l:Env}{H:Hp}{iv:Iv}(hτ:fG P τ){t ty len e sz by_:Nat}{ag:Bool}{ze ze2:List Value}{ik ik2:IntKind}{b2 tag2 al2 e0:Nat}{fs fs2:List (Nat×Nat)}{x i:Operand}{pos:String}{vx:SV}{cs:Array Value}{k:IntKind}{m:Int}{u:Value}
  (ht:τ t=some ⟨sz,ag,by_,ze,6,ik,e,len,fs⟩) (hte:τ e=some ⟨1,false,b2,ze2,tag2,ik2,e0,al2,fs2⟩) (hx:ev l x=some vx) (hxd:∀O,vx.den O= .agg cs) (hi:ev l i=some (.o (.v (.int k m)))) (hm:0<=m∧m<len) (hc:cs[m.toNat]? =some u)
  (hK:∀O w',Rel H nx iv B w O w'->K (.o (.v u)) H nx iv w'):xW P B ⟨dst,.index t x i,ty,pos,after,guard⟩ l H nx iv w K:=by
 have hto:=(hτ t _ ht).i6 rfl;have hteo:=hτ e _ hte;refine ET hto (fun w=>hteo.sizeOf w) (fun w j v hv=>?_) hx hxd hi hm hc hK;simp[part,hteo.isAgg,hv]
structure gP(w:World)(B:Nat)(iv:Iv)(rv:List Value)(n:Nat)(M:List (List Int)):Prop where
 len:rv.length=M.length
 wid:∀l∈M,l.length=n
 row:∀(i:Nat) v l,rv[i]? =some v->M[i]? =some l->w.ownsRow 0 T.int 1 v n (l.map fun z=>.int .i64 z)
 EG:∀(i j:Nat) a b g,rv[i]? =some a->rv[j]? =some b->a.ownBlock=some g->b.ownBlock=some g->i=j
 new:∀g,Ob rv g->Cv (fun _=>False) B iv g
section
variable{H:Hp}{nx n:Nat}{iv iv':Iv}{B:Nat}{w w' w2:World}{O:Nat->Sx.df}{rv:List Value}{M:List (List Int)}
theorem gP.nil:gP w B iv [] n []:=⟨rfl,fun l h=>(by cases h),fun i v l h=>(by cases h),fun i j a b g h=>(by cases h),fun g ⟨v,hv,_⟩=>by cases hv⟩
theorem gP.cG(h:gP w B iv rv n M)(hk:∀g,Cv (fun _=>False) B iv g->w2.heap[g]? =w.heap[g]?):gP w2 B iv rv n M:=
 ⟨h.len,h.wid,fun i v l h1 h2=>ownsRow.cG (h.row i v l h1 h2) fun g hg=>hk g (h.new g ⟨v,aD h1,hg⟩),h.EG,h.new⟩
theorem gP.rel(h:gP w B iv rv n M)(r:Rel H nx iv B w O w'):gP w' B iv rv n M:=h.cG fun _ hg=>Rel.same r (fz B) hg
theorem gP.mono(h:gP w B iv rv n M)(hm:∀p,p∈iv->p∈iv'):gP w B iv' rv n M:=⟨h.len,h.wid,h.row,h.EG,fun g hg=>(h.new g hg).mono hm⟩
theorem gP.cF(h:gP w B iv rv n M)(r:Rel H nx iv B w O w')(he:Ext w' w2)(hm:∀p,p∈iv->p∈iv'):gP w2 B iv' rv n M:=
 ((h.rel r).cG fun g hg=>he.block g (Rel.old r (fz B) g hg)).mono hm
theorem gP.form(hM:gP w B iv rv n M)(hv:rv[i]? =some v):∃a c,v= .slice a n c:=by
 obtain⟨l,hl⟩:∃l,M[i]? =some l:=⟨_,aB (by rw[<-hM.len];exact(aE.1 hv).1)⟩
 obtain⟨a,c,h,_⟩:=jL (hM.row i v l hv hl);exact⟨a,c,h⟩
theorem gP.one(hM:gP w B iv rv n M):∀u∈rv,u.oneCell'=true:=fun u hu=>by
 obtain⟨i,hi⟩:=aS hu;obtain⟨a,c,rfl⟩:=hM.form hi;rfl
theorem gP.load(hM:gP w B iv rv n M){k:Nat}{c:Nat}(hv:rv[i]? =some (.slice a n c))(hl:M[i]? =some l)(hk:l[k]? =some z):
  ∃ad,a=some ad∧Cv (fun _=>False) B iv ad.block∧w.cell? (ad.add (k*1))=some (.int .i64 z):=by
 have h:=hM.row i _ l hv hl;have hlen:=hM.wid l (aD hl);rcases h.2 with⟨_,h0⟩|⟨g,cap,cur,e,_⟩
 ·have:=(aE.1 hk).1;omega
 ·injection e with e;refine⟨⟨g,0,none⟩,e,hM.new g ⟨_,aD hv,by rw[e];rfl⟩,?_⟩;have:=h.cells (g:=g) (by rw[e];rfl) k (.int .i64 z) (by rw[aN,hk];rfl);rw[aU];exact this
theorem gP.store(hM:gP w B iv rv n M)(r:Rel H nx iv B w O w'){k:Nat}{c:Nat}(hv:rv[i]? =some (.slice a n c))(hl:M[i]? =some l)(hk:k<n):
  ∃g,a=some ⟨g,0,none⟩∧((⟨g,0,none⟩:Addr).add ((k:Int).toNat*1)).spot=none∧
   (∀j,j<1->(w'.cell? (((⟨g,0,none⟩:Addr).add ((k:Int).toNat*1)).add j)).isSome=true∧w'.frozen? (((⟨g,0,none⟩:Addr).add ((k:Int).toNat*1)).add j)=false)∧
   (∀id b,dA H id=some b->(O id).nil=false->(O id).g≠((⟨g,0,none⟩:Addr).add ((k:Int).toNat*1)).block)∧
   ∀w2,w2=setCells w' ((⟨g,0,none⟩:Addr).add ((k:Int).toNat*1)) [.int .i64 z]->gP w2 B iv rv n (M.set i (l.set k z))∧cV B w' w2∧Rel H nx iv B w2 O w2∧w'.grownBy w2 (some g)∧Ob rv g:=by
 have hMr:=hM.rel r;have h1:=hMr.row i _ l hv hl;have hlen:=hM.wid l (aD hl);obtain⟨g,rfl,hok,hst,hgr,hsz⟩:=oY (nv:=[.int .i64 z]) h1 rfl hk rfl (by decide);have hob:Ob rv g:=⟨_,aD hv,rfl⟩
 have had:(⟨g,0,none⟩:Addr).add ((k:Int).toNat*1)=⟨g,k*1,none⟩:=by rw[aF,dP,aV]
 have hnot:=Rel.not r (fz B) (hM.new g hob);refine⟨g,rfl,by rw[had],fun j hj=>by rw[had];exact hok j hj,fun id b hb hn=>by rw[had];exact hnot id b hb hn,fun w2 hw2=>?_⟩;rw[had]at hw2;subst hw2;refine⟨⟨by rw[bY];exact hM.len,fun x hx=>?_,fun j v l2 h3 h4=>?_,hM.EG,hM.new⟩,cV.grown hgr (fun x e=>by injection e with e;subst e;exact(hM.new g hob).elim (fun h=>h.elim) fun h=>h.1) r.cD,r.xY hnot hgr,hgr,hob⟩
 ·rcases bI hx with hx|rfl
  ·exact hM.wid x hx
  ·rw[bY];exact hlen
 ·by_cases hij:i=j
  ·subst hij;rw[hv]at h3;injection h3 with h3;subst h3;rw[aW (by rw[<-hM.len];exact(aE.1 hv).1)]at h4;injection h4 with h4;subst h4;rw[List.map_set,<-fT (by rw[aL];omega)];simp only[aU]at hst ⊢;exact hst
  ·rw[bA hij]at h4;refine ownsRow.cG (hMr.row j v l2 h3 h4) fun x hx=>hgr.block x ?_ fun e=>?_
   ·exact Rel.old r (fz B) x (hM.new x ⟨v,aD h3,hx⟩)
   ·injection e with e;exact hij (hM.EG i j _ v x hv h3 (by rw[<-e];rfl) hx)
theorem gP.push(hM:gP w B iv rv n M){gx:Nat}(hgx:∀g,Cv (fun _=>False) B iv g->g≠gx)(hBx:B<=gx)(hl:l.length=n)(hrow:w.ownsRow 0 T.int 1 (.slice (some ⟨gx,0,none⟩) n n) n (l.map fun z=>.int .i64 z)):
  gP w B ((gx,gx+1)::iv) (rv++[.slice (some ⟨gx,0,none⟩) n n]) n (M++[l]):=by
 have hob:∀g,Ob rv g->g≠gx:=fun g hg=>hgx g (hM.new g hg);have key:∀(k:Nat) v,(rv++[Value.slice (some ⟨gx,0,none⟩) n n])[k]? =some v->(k<rv.length∧rv[k]? =some v)∨(k=rv.length∧v= .slice (some ⟨gx,0,none⟩) n n):=fun k v hk=>by
  rcases aQ k rv.length with hi|hi
  ·rw[aM hi]at hk;exact .inl ⟨hi,hk⟩
  ·have hi0:k=rv.length:=by have:=(aE.1 hk).1;simp at this;omega
   rw[hi0,aO (aG _),bM]at hk;simp at hk;exact .inr ⟨hi0,hk.symm⟩
 refine⟨by simp[hM.len],fun x hx=>?_,fun i v x h1 h2=>?_,fun i j a b g h1 h2 h3 h4=>?_,fun g hg=>?_⟩
 ·rcases bQ.1 hx with hx|hx
  ·exact hM.wid x hx
  ·rw[bD.1 hx];exact hl
 ·rcases key i v h1 with⟨hi,k1⟩|⟨e1,rfl⟩
  ·rw[aM (by rw[<-hM.len];exact hi)]at h2;exact hM.row i v x k1 h2
  ·rw[e1,hM.len,aO (aG _),bM]at h2;simp at h2;subst h2;exact hrow
 ·rcases key i a h1 with⟨_,k1⟩|⟨e1,rfl⟩<;>rcases key j b h2 with⟨_,k2⟩|⟨e2,rfl⟩
  ·exact hM.EG i j a b g k1 k2 h3 h4
  ·injection h4 with h4;exact absurd h4.symm (hob g ⟨a,aD k1,h3⟩)
  ·injection h3 with h3;exact absurd h3.symm (hob g ⟨b,aD k2,h4⟩)
  ·rw[e1,e2]
 ·rcases Ob.append.1 hg with h|h
  ·exact(hM.new g h).mono fun p hp=>aC _ hp
  ·injection h with h;have h:gx=g:=h;subst h;exact .inr ⟨hBx,_,_,aJ,aG _,bf _⟩
end
def Da(w:World)(S:Nat->Prop)(v:Value)(l:List Int):Prop:=ig w S 1 v (l.map fun z=>.int .i64 z) l.length
abbrev wX:=de Da
theorem Da.cG(h:Da w S v l)(hk:∀g,S g->w2.heap[g]? =w.heap[g]?):Da w2 S v l:=ig.cG h hk
theorem Da.cI(h:Da w S v l)(hk:∀g,S g->S' g):Da w S' v l:=ig.cI h hk
theorem wX.cG{M:List (List Int)}(h:wX w S v M)(hk:∀g,S g->w2.heap[g]? =w.heap[g]?):wX w2 S v M:=by
 obtain⟨rv,h1,h2,h3⟩:=h;exact⟨rv,h1.cG hk,h2,fun i u x k1 k2=>(h3 i u x k1 k2).cG hk⟩
theorem wX.cI{M:List (List Int)}(h:wX w S v M)(hk:∀g,S g->S' g):wX w S' v M:=by
 obtain⟨rv,h1,h2,h3⟩:=h;exact⟨rv,h1.cI hk,h2,fun i u x k1 k2=>(h3 i u x k1 k2).cI hk⟩
theorem Da.at{m c:Nat}(h:Da w S (.slice a m c) l)(hj:l[j]? =some z):∃ad,a=some ad∧S ad.block∧w.cell? (ad.add (j*1))=some (.int .i64 z):=by
 obtain⟨h0,h1,h2,a',c',e,h3,h4⟩:=h;injection e with e1 e2 e3;subst e1;obtain⟨ad,k1,k2,k3⟩:=h4 j (.int .i64 z) (by rw[aN,hj];rfl);exact⟨ad,k1,k2,by rw[aU];exact k3⟩
theorem Da.shape(h:Da w S v l):∃a c,v= .slice a l.length c∧l.length<=c∧l.length<=maxLen:=by
 obtain⟨h0,h1,h2,a,c,e,h3,h4⟩:=h;exact⟨a,c,e,h3,h0⟩
structure qp(f:eh):Prop where
 co:∀p∈f.nodes,(-1000000<=p.1∧p.1<=1000000)∧(-1000000<=p.2.1∧p.2.1<=1000000)∧(-1000000<=p.2.2∧p.2.2<=1000000)
 Jg:∀b∈f.bars,(0<=b.1∧b.1<f.nodes.length)∧(0<=b.2.1∧b.2.1<f.nodes.length)
 sup:∀s∈f.cU,(0<=s.1∧s.1<f.nodes.length)∧(0<=s.2.1∧s.2.1<=2)
 n:f.nodes.length<=20
 b:f.bars.length<=60
 s:f.cU.length<=60
theorem qp.node(h:qp f){i:Int}(h0:0<=i)(h1:i<f.nodes.length):∃k:Nat,∃p,i=k∧k<f.nodes.length∧f.nodes[k]? =some p∧f.node i=p∧(-1000000<=p.1∧p.1<=1000000)∧(-1000000<=p.2.1∧p.2.1<=1000000)∧(-1000000<=p.2.2∧p.2.2<=1000000):=by
 obtain⟨k,rfl⟩:=Int.eq_ofNat_of_zero_le h0;have hk:k<f.nodes.length:=by omega
 refine⟨k,f.nodes[k],rfl,hk,aB hk,?_,h.co _ (aX hk)⟩;rw[eh.node,aF,List.getD,aB hk];rfl
theorem zz{vn vb vs:Value}{a b:Int}{b3 b6:Bool}{a4 a7:Option Addr}{n4 c4 n7 c7:Nat}(hS:Old S w)(hn:mF w S vn f.nodes)(hok:qp f)(hA:0<=a∧a<f.nodes.length)(hB:0<=b∧b<f.nodes.length):
  dm PG N.ke #[.agg #[vn,vb,vs],.agg #[.int .i64 a,.int .i64 b,.bool b3,.slice a4 n4 c4,.bool b6,.slice a7 n7 c7]] w (eB w fun v' _=>v'= .agg #[.int .i64 ((f.node b).1-(f.node a).1),.int .i64 ((f.node b).2.1-(f.node a).2.1),.int .i64 ((f.node b).2.2-(f.node a).2.2)]):=by
 have hw:cV w.heap.size w w:=cV.refl;obtain⟨an,cn,rfl,hcn,hmn⟩:=hn.shape;unfold maxLen at hmn;obtain⟨ka,pa,ea,hka,hpa,hna,⟨_,_⟩,⟨_,_⟩,⟨_,_⟩⟩:=hok.node hA.1 hA.2;obtain⟨kb,pb,eb,hkb,hpb,hnb,⟨_,_⟩,⟨_,_⟩,⟨_,_⟩⟩:=hok.node hB.1 hB.2;obtain⟨ada,csa,haa,hPa,-,hla⟩:=hn.load (by decide) hpa;obtain⟨adb,csb,hab,hPb,-,hlb⟩:=hn.load (by decide) hpb;have hPa:csa=[.int .i64 pa.1,.int .i64 pa.2.1,.int .i64 pa.2.2]:=hPa;have hPb:csb=[.int .i64 pb.1,.int .i64 pb.2.1,.int .i64 pb.2.2]:=hPb;subst hPa hPb;rw[hna,hnb];subst ea eb;refine oJ (by simp) ?_;refine iI hτ db (.x 0 (.x 2 (.x 6 (.x 8 (.ld 1 49200 (.ld 3 49200 (.x 4 (.ld 5 49152 (.ld 7 35840 (.ld 9 35840 (.x 10 (.ld 11 32768 (.two 12 (.x 13 (.x 14 (.x 15 .nil))) 13 (.x 12 (.x 14 (.x 15 .nil)))))))))))))))) (by kernel_rfl) (by kernel_rfl) ?_;refine⟨ada,haa,by omega,[.int .i64 pa.1,.int .i64 pa.2.1,.int .i64 pa.2.2],rfl,rdO hla hw hS,adb,hab,by omega,[.int .i64 pb.1,.int .i64 pb.2.1,.int .i64 pb.2.2],rfl,rdO hlb hw hS,?_,?_⟩
 ·refine⟨[.int .i64 pb.1,.int .i64 pb.2.1,.int .i64 pb.2.2],rfl,rdO hlb hw hS,rfl,rfl,rfl,[.int .i64 pa.1,.int .i64 pa.2.1,.int .i64 pa.2.2],rfl,rdO hla hw hS,rfl,rfl,rfl,[.int .i64 pb.1,.int .i64 pb.2.1,.int .i64 pb.2.2],rfl,rdO hlb hw hS,rfl,rfl,rfl,[.int .i64 pa.1,.int .i64 pa.2.1,.int .i64 pa.2.2],rfl,rdO hla hw hS,rfl,rfl,rfl,[.int .i64 pb.1,.int .i64 pb.2.1,.int .i64 pb.2.2],rfl,rdO hlb hw hS,rfl,rfl,rfl,pb.1-pa.1,wo,pb.2.1-pa.2.1,wo,pb.2.2-pa.2.2,wo,?_⟩;intro ρe we re;exact⟨_,rfl,hw.tr re.cM,rfl⟩
 ·refine⟨[.int .i64 pb.1,.int .i64 pb.2.1,.int .i64 pb.2.2],rfl,rdO hlb hw hS,rfl,rfl,rfl,[.int .i64 pa.1,.int .i64 pa.2.1,.int .i64 pa.2.2],rfl,rdO hla hw hS,rfl,rfl,rfl,[.int .i64 pb.1,.int .i64 pb.2.1,.int .i64 pb.2.2],rfl,rdO hlb hw hS,rfl,rfl,rfl,[.int .i64 pa.1,.int .i64 pa.2.1,.int .i64 pa.2.2],rfl,rdO hla hw hS,rfl,rfl,rfl,[.int .i64 pb.1,.int .i64 pb.2.1,.int .i64 pb.2.2],rfl,rdO hlb hw hS,rfl,rfl,rfl,pb.1-pa.1,wo,pb.2.1-pa.2.1,wo,pb.2.2-pa.2.2,wo,?_⟩;intro ρe we re;exact⟨_,rfl,hw.tr re.cM,rfl⟩
end Go.Ex
