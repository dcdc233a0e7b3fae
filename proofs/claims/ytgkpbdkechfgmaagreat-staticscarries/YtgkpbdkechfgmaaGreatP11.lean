/- Texts X134 to X137: lemmas, each with its conditions. -/
import Derived.Test.YtgkpbdkechfgmaaGreatP10
namespace Go.Ex
open Go Go.Sx Go.Proofs
variable{iv:Iv}{E M:List (List Rat)}{css:List (List Value)}{at_:List (Option Nat)}{fr ps pv:List Nat}{b qs r row u x y:List Rat}{cs rv:List Value}{B c cols g h i id j n p:Nat}{C S S0:Nat->Prop}{O:Nat->Sx.dx}{a ax:Option Addr}{q:Rat}{v:Value}{w:World}{s:xZ}
theorem LH{α:Type}(a b:α)(h:i<c):(List.replicate i a++List.replicate (c-i) b).take i++[a]++(List.replicate i a++List.replicate (c-i) b).drop (i+1)=List.replicate (i+1) a++List.replicate (c-(i+1)) b:=by
 rw[List.take_left' (bG ..),List.drop_append,bG,List.drop_of_length_le (by rw[bG];omega),List.nil_append,List.drop_replicate,List.replicate_succ'];congr 2;omega
def kz(w:World)(C S:Nat->Prop)(v:Value)(M:List (List Rat)):Prop:=∃rv,ij w C 1 v rv M.length∧rv.length=M.length∧∀(i:Nat) u x,rv[i]? =some u->M[i]? =some x->cI w S u x
theorem kz.shape(h:kz w C S v M):∃a c,v= .slice a M.length c∧M.length<=c∧M.length<=maxLen:=by
 obtain⟨rv,⟨h0,_,_,a,c,h1,h2,_⟩,_⟩:=h;exact⟨a,c,h1,h2,h0⟩
theorem kz.load{m:Nat}(h:kz w C S (.slice a m c) M)(hq:M[j]? =some x):
  ∃ad u,a=some ad∧cI w S u x∧C ad.block∧w.cell? (ad.add (j*1))=some u:=by
 obtain⟨rv,⟨h0,h1,h2,a',c',e,h3,h4⟩,hl,hf⟩:=h;injection e with e1 e2 e3;subst e1;obtain⟨u,hu⟩:∃u,rv[j]? =some u:=⟨_,aB (by rw[hl];exact(aD.1 hq).1)⟩
 obtain⟨ad,k1,k2,k3⟩:=h4 j u hu;exact⟨ad,u,k1,hf j u x hu hq,k2,by rw[aT];exact k3⟩
def MQ:Option Nat->Value
 |none=>.int .i64 (-1)
 |some j=>.int .i64 (j:Int)
structure D8(M:List (List Rat))(cols h:Nat):Prop where
 rows:∀i,i<=M.length->∀r∈(hJ M cols i).1,∀q∈r,rl q+1<=h
 mE:∀i,i<M.length->∀k,k<=cols->∀q∈fq (hJ M cols i).1 (hJ M cols i).2.1 (M.getD i []) k,rl q+1<=h
theorem Ac{k:Nat}(h:at_[k]? =some (some j)):fq E at_ row (k+1)=mL (fq E at_ row k) (E.getD j []) ((fq E at_ row k).getD k 0):=by
 rw[fq,show at_.getD k none=some j by rw[List.getD,h];rfl]
theorem Gw{k:Nat}(h:at_[k]? =some none):fq E at_ row (k+1)=fq E at_ row k:=by
 rw[fq,show at_.getD k none=none by rw[List.getD,h];rfl]
theorem LI{α:Type}{l:List α}(a b:α)(h:j<l.length):(l++[a]).set j b=l.set j b++[a]:=by rw[List.set_append,if_pos h]
theorem Gx(QA:(E,at_,fr)=hJ M cols i)(hx:M.getD i []=x)(hy:fq E at_ x cols=y)(hp:tU y cols=cols):(E,at_,fr)=hJ M cols (i+1):=by
 rw[hJ,<-QA,hx,kE];simp only[hy,hp,if_true]
theorem Gy(QA:(E,at_,fr)=hJ M cols i)(hx:M.getD i []=x)(hy:fq E at_ x cols=y)(hp:tU y cols=p)(OD:p≠cols):
  hJ M cols (i+1)=(gN E (y.map (· / y.getD p 0)) p E.length++[y.map (· / y.getD p 0)],at_.set p (some E.length),fr++[i]):=by
 rw[hJ,<-QA,hx,kE];simp only[hy,hp,aJ OD]
theorem LJ(q:Rat)(y:List Rat):iA y.length (fun _ r=>r / q) y=y.map (· / q):=by
 rw[vq];exact bK fun j=>by rw[List.getElem?_mapIdx,aM]
theorem Gz(h:E[i]? =some r)(h0:r.getD p 0=0):gN E u p (i+1)=gN E u p i:=by
 rw[zJ h,h0,zI];refine bK fun j=>?_;by_cases hj:i=j
 ·subst hj;rw[aV (by rw[fz];exact(aD.1 h).1),Ej h]
 ·rw[aZ hj]
def ki(rv:List Value)(at_:List (Option Nat)):Nat->List Value
 |0=>[]
 |k+1=>match at_.getD k none with
  |some r=>ki rv at_ k++[rv.getD r (.bool false)]
  |none=>ki rv at_ k
theorem mZ{k:Nat}(h:s.2.1[k]? =some none):dE s (k+1)=dE s k:=by
 rw[dE,show s.2.1.getD k none=none by rw[List.getD,h];rfl]
theorem ma{k r:Nat}(h:s.2.1[k]? =some (some r)):dE s (k+1)=((dE s k).1++[s.1.getD r []],(dE s k).2.1++[k],(dE s k).2.2++[s.2.2.getD r 0]):=by
 rw[dE,show s.2.1.getD k none=some r by rw[List.getD,h];rfl]
theorem sh{k:Nat}(h:at_[k]? =some none):ki rv at_ (k+1)=ki rv at_ k:=by
 rw[ki,show at_.getD k none=none by rw[List.getD,h];rfl]
theorem si{k r:Nat}(h:at_[k]? =some (some r)):ki rv at_ (k+1)=ki rv at_ k++[rv.getD r (.bool false)]:=by
 rw[ki,show at_.getD k none=some r by rw[List.getD,h];rfl]
theorem uT(s:xZ)(rv:List Value):∀k,k<=s.2.1.length->(dE s k).1.length=(dE s k).2.1.length∧(dE s k).2.2.length=(dE s k).2.1.length∧(ki rv s.2.1 k).length=(dE s k).2.1.length∧(dE s k).2.1.length<=k
 |0,_=>⟨rfl,rfl,rfl,aF _⟩
 |k+1,hk=>by
  have ih:=uT s rv k (by omega);obtain⟨o,ho⟩:∃o,s.2.1[k]? =some o:=⟨_,aB (by omega)⟩
  cases o with
  |none=>rw[mZ ho,sh ho];exact⟨ih.1,ih.2.1,ih.2.2.1,by have:=ih.2.2.2;omega⟩
  |some r=>rw[ma ho,si ho];simp only[List.length_append,List.length_singleton];omega
theorem Ad{E:List (List Rat)}{at_:List (Option Nat)}{fr:List Nat}{rv:List Value}(hl:rv.length=E.length)(OU:∀(k r:Nat),at_[k]? =some (some r)->r<E.length):∀k,k<=at_.length->∀(i:Nat) u x,(ki rv at_ k)[i]? =some u->(dE (E,at_,fr) k).1[i]? =some x->∃r:Nat,rv[r]? =some u∧E[r]? =some x
 |0,_,i,u,x,h,_=>by cases h
 |k+1,hk,i,u,x,h1,h2=>by
  have ih:=Ad (fr:=fr) hl OU k (by omega) i u x;obtain⟨o,ho⟩:∃o,at_[k]? =some o:=⟨_,aB (by omega)⟩
  cases o with
  |none=>
   rw[sh ho]at h1;rw[mZ (s:=(E,at_,fr)) ho]at h2;exact ih h1 h2
  |some r=>
   have hr:=OU k r ho;rw[si ho]at h1;rw[ma (s:=(E,at_,fr)) ho]at h2;obtain⟨q1,q2,q3,q4⟩:=uT (E,at_,fr) rv k (by dsimp only;omega);dsimp only at q1 q2 q3 q4 h2;rcases aP i (ki rv at_ k).length with hi|hi
   ·rw[aL hi]at h1;rw[aL (by omega)]at h2;exact ih h1 h2
   ·have RT:i=(ki rv at_ k).length:=by have:=(aD.1 h1).1;simp at this;omega
    rw[RT,aN (aF _),bI]at h1;rw[RT,q3,<-q1,aN (aF _),bI]at h2;simp only[List.getElem?_cons_zero,Option.some.injEq]at h1 h2;refine⟨r,?_,?_⟩
    ·rw[<-h1,List.getD,aB (by omega)];rfl
    ·rw[<-h2,List.getD,aB hr];rfl
theorem FQ{α:Type}(l:List α)(a b:α):(l++[a]).set l.length b=l++[b]:=by simp
section
variable{S S':Nat->Prop}{H:Hp}{nx:Nat}{iv iv':Iv}{B:Nat}{w w' w2:World}{O:Nat->Sx.dx}{rv:List Value}{v:Value}{q:Rat}
theorem cT.FR(h:cT w (Lr S B iv rv) v q)(r:Rel H nx iv B w O w')(hS:∀g,S g->g<B):cT w' (Lr S B iv rv) v q:=h.cJ fun _ hg=>Rel.same r hS hg.1
theorem cT.NP(h:cT w (Lr S B iv rv) v q)(r:Rel H nx iv B w O w')(hS:∀g,S g->g<B)(he:Ext w' w2)(hm:∀p,p∈iv->p∈iv'):cT w2 (Lr S B iv' rv) v q:=
 ((h.FR r hS).cJ fun g hg=>he.block g (Rel.old r hS g hg.1)).cK fun _ hg=>⟨hg.1.mono hm,hg.2⟩
theorem Lr.old(r:Rel H nx iv B w O w')(hS:∀g,S g->g<B):Old (Lr S B iv rv) w':=fun g hg=>Rel.old r hS g hg.1
theorem cT.aAp(h:cT w2 (Nf w' w2) v q)(hM:lg w S B iv rv n M)(r:Rel H nx iv B w O w'):cT w2 (Lr S0 B ((w'.heap.size,w2.heap.size)::iv) rv) v q:=
 h.cK fun g hg=>by
  rcases hg with hg|hg
  ·exact hg.elim
  ·exact⟨.inr ⟨by have:=r.cD;omega,_,_,aG,hg.1,hg.2⟩,fun hm=>by have:=hM.lt r hm;omega⟩
end
set_option maxHeartbeats 2000000 in
theorem vv(hC:Old C w)(hS:Old S w)(hM:kz w C S v M)(hlen:fZ n M)(hn0:0<n)(hn:n<=1000)(hR:M.length<=1000)(Px:cols<=n)(hB:D8 M cols h)(hh:3*h<=90000):
  eA PG N.fe #[.agg #[v,.int .i64 n],.int .i64 cols] w (eF w fun v' w2=>∃vr vp vf,v'= .agg #[vr,.int .i64 n,vp,vf]∧cR w2 (Nw S w w2) vr (dT M cols).1∧dR w2 (Nf w w2) vp (dT M cols).2.1∧dR w2 (Nf w w2) vf (dT M cols).2.2):=by
 have hw:=bR w;obtain⟨am,cm,rfl,Rk,Qg⟩:=kz.shape hM;unfold maxLen at Qg;refine j4 (by simp) ?_
 refine⟨cols,cols,rfl,rfl,aF _,by omega,by omega,Nat×World,fun z=>⟨[(1,iZ cols),(2,pP 0 0),(4,pP 1 0),(5,pP 2 0),(6,.o (.s 3 0 cols cols)),(27,iZ cols),(28,iN z.1)],
   [(3,.arr T.int (List.replicate z.1 (.int .i64 (-1))++List.replicate (cols-z.1) (.int .i64 0))),(2,.box T.dX [.v (.slice none 0 0),.v (.int .i64 n),.v (.slice none 0 0),.v (.slice none 0 0)]),(1,.box T.dX [.v (.slice none 0 0),.v (.int .i64 0),.v (.slice none 0 0),.v (.slice none 0 0)]),(0,.box T.dw [.v (.slice am M.length cm),.v (.int .i64 n)])],4,[],z.2⟩,fun z=>cols-z.1,
  fun z=>z.1<=cols∧eE w.heap.size w z.2,?_,?_⟩
 ·intro O w' r;exact⟨(0,w'),⟨aQ _,hw.tr r.cQ⟩,Sub.gn [] r ⟨by simp;rfl,rfl,rfl,rfl,trivial⟩⟩
 rintro⟨i,w1⟩ ⟨hi,hw⟩;dsimp only at hi hw ⊢;refine dK.mk ?_ ?_<;>intro OC
 ·have OC:i<cols:=by simpa using OC
  refine⟨by omega,by simp;omega,List.replicate (i+1) (.int .i64 (-1))++List.replicate (cols-(i+1)) (.int .i64 0),?_,?_⟩
  ·rw[aE,aT,aR];exact LH _ _ OC
  refine⟨((i+1:Nat):Int),wo,?_⟩;intro ρ3 w3 r3;exact⟨(i+1,w3),⟨OC,hw.tr r3.cQ⟩,Sub.gn [] r3,by dsimp only;omega⟩
 have OC:i=cols:=aO hi (by simpa using OC);rw[OC]
 refine⟨Nat×List Value×List (List Rat)×List (Option Nat)×List Nat×World×Iv,fun z=>⟨[(38,iN z.1),(1,iZ cols),(2,pP 0 0),(4,pP 1 0),(5,pP 2 0),(6,.o (.s 3 0 cols cols)),(36,sV am M.length cm),(37,iZ M.length)],[(2,.box T.dX [.w 4 z.2.1.length,.v (.int .i64 n),.v (.slice none 0 0),.w 5 z.2.2.2.2.1.length]),(5,.vec T.int 1 (z.2.2.2.2.1.map fun c:Nat=>.int .i64 (c:Int))),(4,.vec T.gA 1 z.2.1),(0,.box T.dw [.v (.slice am M.length cm),.v (.int .i64 n)]),(1,.box T.dX [.v (.slice none 0 0),.v (.int .i64 0),.v (.slice none 0 0),.v (.slice none 0 0)]),(3,.arr T.int (z.2.2.2.1.map MQ))],6,z.2.2.2.2.2.2,z.2.2.2.2.2.1⟩,fun z=>M.length-z.1,
  fun z=>z.1<=M.length∧(z.2.2.1,z.2.2.2.1,z.2.2.2.2.1)=hJ M cols z.1∧eE w.heap.size w z.2.2.2.2.2.1∧lg z.2.2.2.2.2.1 S w.heap.size z.2.2.2.2.2.2 z.2.1 n z.2.2.1,?_,?_⟩
 ·intro O w' r
  exact⟨(0,[],[],List.replicate cols none,[],w',[]),⟨aQ _,rfl,hw.tr r.cQ,lg.nil⟩,Sub.BT 2 0 T.gA 1 rfl rfl (by simp[j8,SV.sc,At.sc]) r fun ρ1 r1=>Sub.BT 2 3 T.int 1 rfl rfl (by simp[j8,SV.sc,At.sc]) r1 fun ρ2 r2=>
   Sub.gn [] r2 ⟨rfl,rfl,rfl,rfl,rfl,by simp[MQ];rfl,trivial⟩⟩
 rintro⟨i,rv,E,at_,fr,w1,iv⟩ ⟨hi,QA,hw,hE⟩;dsimp only at hi QA hw hE ⊢;have OF:=zK cols hlen i hi;rw[<-QA]at OF;have hatl:at_.length=cols:=OF.at_;have hfrl:fr.length=E.length:=OF.ug;have hEi:E.length<=i:=OF.le;have Of:rv.length=E.length:=hE.len;have hEb:∀r∈E,∀q∈r,rl q+1<=h:=by have:=hB.rows i hi;rwa [<-QA]at this
 refine dK.mk ?_ ?_<;>intro OC
 ·have OC:i<M.length:=by simpa using OC
  obtain⟨x,hx⟩:∃r,M[i]? =some r:=⟨_,aB OC⟩
  have PZ:=hlen x (aC hx);have UA:M.getD i []=x:=by rw[List.getD,hx];rfl
  have Pq:∀k,k<=cols->∀q∈fq E at_ x k,rl q+1<=h:=by have:=hB.mE i OC;rwa [<-QA,UA]at this
  have hcll:∀k,(fq E at_ x k).length=n:=fun k=>by rw[iE,PZ]
  obtain⟨adm,um,Qd,Oh,km1,km2⟩:=kz.load hM hx;obtain⟨css,⟨-,g1,g2,a0,c0,rfl,g4,g5⟩,PU,R4,On⟩:=Oh;have OX:=eY R4;refine⟨adm,Qd,by omega,.slice a0 x.length c0,rd1 km2 hw (hC _ km1),?_⟩;refine .inl ?_;refine⟨css.flatten,g1,g2,fun O w' r Ol=>?_,?_⟩
  ·obtain⟨u0,Qv⟩:∃u,css.flatten[0]? =some u:=⟨_,aB (by omega)⟩
   obtain⟨ad,ha,_,_⟩:=g5 0 u0 Qv;refine⟨ad,ha,fun j u hj=>?_⟩;obtain⟨ad2,Ok,q1,q2⟩:=g5 j u hj;rw[ha]at Ok;injection Ok with Ok;subst Ok;rw[cH (w:=w) (w2:=w') (by rw[dN];exact(hw.tr r.cQ).block _ (hS _ q1))];exact q2
  refine⟨rfl,by omega,by unfold maxLen;omega,?_⟩;rw[aR x.length,PZ]
  refine⟨Nat×Nat×Nat×World×Iv,fun z=>⟨[(9,.o (.v (.slice (some ⟨z.2.1,0,none⟩) n z.2.2.1))),(46,iZ cols),(47,iN z.1),(2,pP 0 0),(4,pP 1 0),(5,pP 2 0),(6,.o (.s 3 0 cols cols)),(8,iN i),(36,sV am M.length cm),(37,iZ M.length),(38,iN i),(1,iZ cols)],[(2,.box T.dX [.w 4 rv.length,.v (.int .i64 n),.v (.slice none 0 0),.w 5 fr.length]),(5,.vec T.int 1 (fr.map fun c:Nat=>.int .i64 (c:Int))),(4,.vec T.gA 1 rv),(0,.box T.dw [.v (.slice am M.length cm),.v (.int .i64 n)]),(1,.box T.dX [.v (.slice none 0 0),.v (.int .i64 0),.v (.slice none 0 0),.v (.slice none 0 0)]),(3,.arr T.int (at_.map MQ))],8,z.2.2.2.2,z.2.2.2.1⟩,fun z=>cols-z.1,
   fun z=>z.1<=cols∧eE w.heap.size w z.2.2.2.1∧lg z.2.2.2.1 S w.heap.size z.2.2.2.2 (rv++[.slice (some ⟨z.2.1,0,none⟩) n z.2.2.1]) n (E++[fq E at_ x z.1]),?_,?_⟩
  ·intro O w' r;have hv:=aA5 (S:=S) (m:=n) (qs:=x) (css:=css) r (id:=7) rfl (by omega) hn0 (by unfold maxLen;omega) ⟨PU,fun j cs q k1 k2=>(On j cs q k1 k2).cJ fun g hg=>(hw.tr r.cQ).block g (hS g hg)⟩
   exact⟨(0,(O 7).g,(O 7).cap,w',((O 7).g,(O 7).g+1)::iv),⟨aQ _,hw.tr r.cQ,(hE.rel r hS).push (fun g hg e=>Rel.not r hS hg 7 _ rfl hv.1 e.symm) hv.2.1 hv.2.2.2 hS⟩,
    Sub.aA4 r (id:=7) (t:=9) (cs:=css.flatten) rfl hv.1 rfl ⟨rfl,rfl,rfl,rfl,rfl,rfl,trivial⟩ rfl ⟨rfl,rfl,rfl,rfl,rfl,rfl,rfl,rfl,rfl,rfl,rfl,trivial⟩ (by simp[j8,SV.sc,At.sc])⟩
  rintro⟨k,gx,cx,w2,iv⟩ ⟨hk,hw,hE⟩;dsimp only at hk hw hE ⊢;refine dK.mk ?_ ?_<;>intro OH
  ·have OH:k<cols:=by simpa using OH
   obtain⟨o,ho⟩:∃o,at_[k]? =some o:=⟨_,aB (by omega)⟩
   refine⟨by omega,MQ o,by rw[aE,aT,aR,aM,ho];rfl,?_⟩
   cases o with
   |none=>
    refine⟨((k+1:Nat):Int),wo,?_⟩;intro ρ3 w3 r3;exact⟨(k+1,gx,cx,w3,_),⟨OH,hw.tr r3.cQ,by dsimp only;rw[Gw ho];exact hE.rel r3 hS⟩,Sub.gn [] r3,by dsimp only;omega⟩
   |some j=>
    have hj:j<E.length:=OF.lt k j ho;have hq:∃q,(fq E at_ x k)[k]? =some q:=⟨_,aB (by rw[hcll];omega)⟩
    obtain⟨q,hq⟩:=hq;have Tt:(fq E at_ x k).getD k 0=q:=by rw[List.getD,hq];rfl
    have UM:=Pq k hk q (aC hq);have TQ:(rv++[.slice (some ⟨gx,0,none⟩) n cx])[rv.length]? =some (.slice (some ⟨gx,0,none⟩) n cx):=by simp
    have Rr:(E++[fq E at_ x k])[rv.length]? =some (fq E at_ x k):=by rw[Of];simp
    obtain⟨ad,cs,OY,hF,hl⟩:=hE.load TQ Rr hq;obtain⟨f0,f1,f2,f3,f4,f5,f6,f7,rfl,hF⟩:=hF;refine⟨ad,OY,by omega,[.bool f0,.slice f1 f2 f3,.bool f4,.slice f5 f6 f7],rfl,fun O w' r t u hu=>?_,?_⟩
    ·obtain⟨k1,k2⟩:=hl t u hu;rw[aE,cH (w:=w2) (w2:=w') (by rw[dN,dN];exact Rel.same r (gQ _) k1)];exact k2
    refine cF (cE hw (fun _ w' v w2=>∃d,v= .bool d∧(d=true↔q=0)) (fun O w' r=>kx (Lr.old r hS) ((hF.FR r hS).l (by omega))) ?_);rintro O _ _ PS OJ r he hw h_ ⟨d,rfl,hz⟩;replace hE:=hE.cG r hS he (mC h_);replace hF:=hF.NP r hS he (mC h_)
    cases d
    ·have hq0:q≠0:=fun e=>by have:=hz.2 e;cases this
     obtain⟨vj,SX⟩:∃v,rv[j]? =some v:=⟨_,aB (by omega)⟩
     have Sl:(rv++[.slice (some ⟨gx,0,none⟩) n cx])[j]? =some vj:=by rw[aL (by omega)];exact SX
     obtain⟨ej,UQ⟩:∃v,E[j]? =some v:=⟨_,aB hj⟩
     have UR:(E++[fq E at_ x k])[j]? =some ej:=by rw[aL hj];exact UQ
     have hejd:E.getD j []=ej:=by rw[List.getD,UQ];rfl
     obtain⟨aj,cj,rfl⟩:=hE.form Sl;obtain⟨ad,cs,OY,hF,hl⟩:=hE.load TQ Rr hq;obtain⟨f0,f1,f2,f3,f4,f5,f6,f7,rfl,hF⟩:=hF;refine cM hτ df [.x 0,.x 1,.x 2,.x 3,.x 4,.x 5,.x 6,.x 7,.x 8,.x 9,.x 10,.x 11] (by kernel_rfl) (by kernel_rfl) ?_;refine⟨by simp,by omega,.slice aj n cj,by simpa using SX,ad,OY,by omega,[.bool f0,.slice f1 f2 f3,.bool f4,.slice f5 f6 f7],rfl,fun O w' r t u hu=>?_,?_⟩
     ·obtain⟨k1,k2⟩:=hl t u hu;rw[aE,cH (w:=PS) (w2:=w') (by rw[dN,dN];exact Rel.same r (gQ _) k1)];exact k2
     refine⟨fun O w' r=>?_⟩;refine(hE.D2 r hS (i:=rv.length) (j:=j) (h:=h) (by omega) TQ Sl Rr UR (hF.l (by omega)) (fun y hy=>Pq k hk y hy) (fun y hy=>hEb ej (aC UQ) y hy) UM hh).mono fun e w8 he=>?_;obtain⟨rfl,PV,TE,OT⟩:=he;have Oz:=(hw.tr r.cQ).tr (hE.cQ r PV TE);refine⟨.tuple #[],_,(w'.heap.size,w8.heap.size)::OJ,rfl,r.FT (fun x hx=>Rel.not r (gQ _) (hE.new x (TE x hx))) PV,?_⟩;have OL:(E++[fq E at_ x k]).set rv.length (mL (fq E at_ x k) ej q)=E++[fq E at_ x (k+1)]:=by rw[Of,FQ,Ac ho,hejd,Tt]
     rw[OL]at OT;generalize (w'.heap.size,w8.heap.size)::OJ=SK at*
     refine⟨((k+1:Nat):Int),wo,?_⟩;intro ρ3 w3 r3;exact⟨(k+1,gx,cx,w3,_),⟨OH,Oz.tr r3.cQ,OT.rel r3 hS⟩,Sub.gn [] r3,by dsimp only;omega⟩
    ·have hq0:q=0:=hz.1 rfl;refine⟨((k+1:Nat):Int),wo,?_⟩;intro ρ3 w3 r3;exact⟨(k+1,gx,cx,w3,_),⟨OH,hw.tr r3.cQ,by dsimp only;rw[Ac ho,Tt,hq0,zI];exact hE.rel r3 hS⟩,Sub.gn [] r3,by dsimp only;omega⟩
  have OH:k=cols:=aO hk (by simpa using OH);rw[OH]at hE;obtain⟨y,hy⟩:∃y,fq E at_ x cols=y:=⟨_,rfl⟩
  have VA:y.length=n:=by rw[<-hy];exact hcll cols
  have UF:∀q∈y,rl q+1<=h:=by rw[<-hy];exact Pq cols (aF _)
  rw[hy]at hE;have TQ:(rv++[.slice (some ⟨gx,0,none⟩) n cx])[rv.length]? =some (.slice (some ⟨gx,0,none⟩) n cx):=by simp
  refine⟨Nat×World×Iv,fun z=>⟨[(9,.o (.v (.slice (some ⟨gx,0,none⟩) n cx))),(12,iN z.1),(2,pP 0 0),(4,pP 1 0),(5,pP 2 0),(6,.o (.s 3 0 cols cols)),(8,iN i),(36,sV am M.length cm),(37,iZ M.length),(38,iN i),(1,iZ cols)],[(2,.box T.dX [.w 4 rv.length,.v (.int .i64 n),.v (.slice none 0 0),.w 5 fr.length]),(5,.vec T.int 1 (fr.map fun c:Nat=>.int .i64 (c:Int))),(4,.vec T.gA 1 rv),(0,.box T.dw [.v (.slice am M.length cm),.v (.int .i64 n)]),(1,.box T.dX [.v (.slice none 0 0),.v (.int .i64 0),.v (.slice none 0 0),.v (.slice none 0 0)]),(3,.arr T.int (at_.map MQ))],8,z.2.2,z.2.1⟩,fun z=>cols-z.1,
   fun z=>z.1<=cols∧(∀t,t<z.1->y.getD t 0=0)∧eE w.heap.size w z.2.1∧lg z.2.1 S w.heap.size z.2.2 (rv++[.slice (some ⟨gx,0,none⟩) n cx]) n (E++[y]),?_,?_⟩
  ·intro O w' r3;exact⟨(0,w',_),⟨aQ _,fun t ht=>absurd ht (cB t),hw.tr r3.cQ,hE.rel r3 hS⟩,Sub.gn [] r3⟩
  rintro⟨pv,w3,iv⟩ ⟨hp,Ul,hw,hE⟩;dsimp only at hp Ul hw hE ⊢;have Rr:(E++[y])[rv.length]? =some y:=by rw[Of];simp
  refine dK.mk ?_ ?_<;>intro Um
  ·have Um:pv<cols:=by simpa using Um
   obtain⟨q,hq⟩:∃q,y[pv]? =some q:=⟨_,aB (by omega)⟩
   have Tt:y.getD pv 0=q:=by rw[List.getD,hq];rfl
   have UM:=UF q (aC hq);obtain⟨ad,cs,OY,hF,hl⟩:=hE.load TQ Rr hq;obtain⟨f0,f1,f2,f3,f4,f5,f6,f7,rfl,hF⟩:=hF;refine⟨ad,OY,by omega,[.bool f0,.slice f1 f2 f3,.bool f4,.slice f5 f6 f7],rfl,fun O w' r t u hu=>?_,?_⟩
   ·obtain⟨k1,k2⟩:=hl t u hu;rw[aE,cH (w:=w3) (w2:=w') (by rw[dN,dN];exact Rel.same r (gQ _) k1)];exact k2
   refine cF (cE hw (fun _ w' v w2=>∃d,v= .bool d∧(d=true↔q=0)) (fun O w' r=>kx (Lr.old r hS) ((hF.FR r hS).l (by omega))) ?_);rintro O _ _ PJ OG r he hw h_ ⟨d,rfl,hz⟩;replace hE:=hE.cG r hS he (mC h_)
   cases d
   ·have hq0:q≠0:=fun e=>by have:=hz.2 e;cases this
    refine dK.mk ?_ ?_<;>intro he
    ·have he:(pv:Int)=cols:=by simpa using he
     omega
    have TN:tU y cols=pv:=Hf Ul hp fun _=>by rw[Tt];exact hq0
    have Rs:=Gy QA UA hy TN (by omega);rw[Tt]at Rs;obtain⟨u,hu⟩:∃u,y.map (· / q)=u:=⟨_,rfl⟩
    rw[hu]at Rs;have Vi:u.length=n:=by rw[<-hu,aK,VA]
    have hub:∀q∈u,rl q+1<=h:=by
     have:=hB.rows (i+1) OC u (by rw[Rs];simp);exact this
    obtain⟨ad,cs,OY,hF,hl⟩:=hE.load TQ Rr hq;obtain⟨f0,f1,f2,f3,f4,f5,f6,f7,rfl,hF⟩:=hF;refine⟨ad,OY,by omega,[.bool f0,.slice f1 f2 f3,.bool f4,.slice f5 f6 f7],rfl,fun O w' r t u hu=>?_,?_⟩
    ·obtain⟨k1,k2⟩:=hl t u hu;rw[aE,cH (w:=PJ) (w2:=w') (by rw[dN,dN];exact Rel.same r (gQ _) k1)];exact k2
    refine⟨Nat×World×Iv,fun z=>⟨[(9,.o (.v (.slice (some ⟨gx,0,none⟩) n cx))),(12,iN pv),(13,pP 8 0),(97,iZ n),(98,iN z.1),(2,pP 0 0),(4,pP 1 0),(5,pP 2 0),(6,.o (.s 3 0 cols cols)),(8,iN i),(36,sV am M.length cm),(37,iZ M.length),(38,iN i),(1,iZ cols)],[(8,.box T.Rat [.v (.bool f0),.v (.slice f1 f2 f3),.v (.bool f4),.v (.slice f5 f6 f7)]),(2,.box T.dX [.w 4 rv.length,.v (.int .i64 n),.v (.slice none 0 0),.w 5 fr.length]),(5,.vec T.int 1 (fr.map fun c:Nat=>.int .i64 (c:Int))),(4,.vec T.gA 1 rv),(0,.box T.dw [.v (.slice am M.length cm),.v (.int .i64 n)]),(1,.box T.dX [.v (.slice none 0 0),.v (.int .i64 0),.v (.slice none 0 0),.v (.slice none 0 0)]),(3,.arr T.int (at_.map MQ))],9,z.2.2,z.2.1⟩,fun z=>n-z.1,
     fun z=>z.1<=n∧eE w.heap.size w z.2.1∧lg z.2.1 S w.heap.size z.2.2 (rv++[.slice (some ⟨gx,0,none⟩) n cx]) n (E++[iA z.1 (fun _ r=>r / q) y])∧cT z.2.1 (Lr S w.heap.size z.2.2 (rv++[.slice (some ⟨gx,0,none⟩) n cx])) (.agg #[.bool f0,.slice f1 f2 f3,.bool f4,.slice f5 f6 f7]) q,?_,?_⟩
    ·intro O w' r3;exact⟨(0,w',_),⟨aQ _,hw.tr r3.cQ,by dsimp only;rw[sf];exact hE.rel r3 hS,hF.FR r3 hS⟩,Sub.gn [] r3⟩
    rintro⟨k,w4,iv⟩ ⟨hk,hw,hE,hF⟩;dsimp only at hk hw hE hF ⊢;have Rr:(E++[iA k (fun _ r=>r / q) y])[rv.length]? =some (iA k (fun _ r=>r / q) y):=by rw[Of];simp
    refine dK.mk ?_ ?_<;>intro OH
    ·have OH:k<n:=by simpa using OH
     obtain⟨t,ht⟩:∃q,y[k]? =some q:=⟨_,aB (by omega)⟩
     have RD:=UF t (aC ht);obtain⟨ad,cs,OY,hG,hl⟩:=hE.load TQ Rr (Ab ht);obtain⟨g0,g1,g2,g3,g4,g5,g6,g7,rfl,hG⟩:=hG;refine cM hτ df [.x 0,.x 1,.x 2,.x 3,.x 4,.x 5,.x 6,.x 7,.x 8,.x 9] (by kernel_rfl) (by kernel_rfl) ?_;refine⟨ad,OY,by omega,[.bool g0,.slice g1 g2 g3,.bool g4,.slice g5 g6 g7],rfl,fun O w' r t u hu=>?_,?_⟩
     ·obtain⟨k1,k2⟩:=hl t u hu;rw[aE,cH (w:=w4) (w2:=w') (by rw[dN,dN];exact Rel.same r (gQ _) k1)];exact k2
     refine cO (Φ:=fun _ w' v w2=>cT w2 (Nf w' w2) v (t / q)) (fun O w' r=>LD (Lr.old r hS) ((hG.FR r hS).l (by omega)) ((hF.FR r hS).l (by omega)) hq0) ?_;rintro O PH v3 PD r he hb RV;replace hw:=hw.tr hb;have hd:=RV.aAp (S0:=S) hE r;replace hE:=hE.cG (iv':=(PH.heap.size,PD.heap.size)::iv) r hS he fun x hx=>List.mem_cons_of_mem _ hx;replace hF:=hF.NP (iv':=(PH.heap.size,PD.heap.size)::iv) r hS he fun x hx=>List.mem_cons_of_mem _ hx;generalize (PH.heap.size,PD.heap.size)::iv=ON at*
     obtain⟨A0,A1,A2,A3,A4,A5,A6,A7,rfl⟩:=hd.shape;refine⟨⟨gx,0,none⟩,rfl,by omega,?_⟩;intro O w' r;obtain⟨g,hg,h1,h2,h3,h4⟩:=hE.store r hS TQ Rr OH hd;injection hg with hg;injection hg with hg;subst hg;refine⟨h1,h2,h3,fun w5 QZ=>?_⟩;obtain⟨k1,k2,k3,k4⟩:=h4 w5 QZ;have Oz:=(hw.tr r.cQ).tr k2;have R5:=hF.cJ k4;have OL:(E++[iA k (fun _ r=>r / q) y]).set rv.length ((iA k (fun _ r=>r / q) y).set k (t / q))=E++[iA (k+1) (fun _ r=>r / q) y]:=by rw[Of,FQ,<-o6 ht]
     rw[OL]at k1;refine⟨((k+1:Nat):Int),wo,?_⟩;intro ρ3 w6 r3;exact⟨(k+1,w6,_),⟨OH,Oz.tr r3.cQ,k1.rel r3 hS,R5.FR r3 hS⟩,Sub.gn [] r3,by dsimp only;omega⟩
    have OH:k=n:=aO hk (by simpa using OH);rw[OH,<-VA,LJ,hu,VA]at hE
    refine⟨by simp,Nat×World×Iv,fun z=>⟨[(9,.o (.v (.slice (some ⟨gx,0,none⟩) n cx))),(12,iN pv),(113,.o (.w 4 rv.length)),(114,iZ rv.length),(115,iN z.1),(2,pP 0 0),(4,pP 1 0),(5,pP 2 0),(6,.o (.s 3 0 cols cols)),(8,iN i),(36,sV am M.length cm),(37,iZ M.length),(38,iN i),(1,iZ cols)],[(2,.box T.dX [.w 4 rv.length,.v (.int .i64 n),.v (.slice none 0 0),.w 5 fr.length]),(5,.vec T.int 1 (fr.map fun c:Nat=>.int .i64 (c:Int))),(4,.vec T.gA 1 rv),(0,.box T.dw [.v (.slice am M.length cm),.v (.int .i64 n)]),(1,.box T.dX [.v (.slice none 0 0),.v (.int .i64 0),.v (.slice none 0 0),.v (.slice none 0 0)]),(3,.arr T.int (at_.map MQ))],9,z.2.2,z.2.1⟩,fun z=>rv.length-z.1,
     fun z=>z.1<=rv.length∧eE w.heap.size w z.2.1∧lg z.2.1 S w.heap.size z.2.2 (rv++[.slice (some ⟨gx,0,none⟩) n cx]) n (gN E u pv z.1++[u]),?_,?_⟩
    ·intro O w' r3;exact⟨(0,w',_),⟨aQ _,hw.tr r3.cQ,by dsimp only;rw[GZ];exact hE.rel r3 hS⟩,Sub.gn [] r3⟩
    rintro⟨j,w5,iv⟩ ⟨hj,hw,hE⟩;dsimp only at hj hw hE ⊢;refine dK.mk ?_ ?_<;>intro PT
    ·have PT:j<rv.length:=by simpa using PT
     obtain⟨ej,UQ⟩:∃v,E[j]? =some v:=⟨_,aB (by omega)⟩
     have Qj:ej.length=n:=OF.len ej (aC UQ);have heb:=hEb ej (aC UQ);obtain⟨vj,SX⟩:∃v,rv[j]? =some v:=⟨_,aB PT⟩
     have Sl:(rv++[.slice (some ⟨gx,0,none⟩) n cx])[j]? =some vj:=by rw[aL PT];exact SX
     have UR:(gN E u pv j++[u])[j]? =some ej:=by rw[aL (by rw[fz];omega)];exact Ej UQ
     have Sm:(gN E u pv j++[u])[rv.length]? =some u:=by rw[Of,<-fz E u pv j];simp
     obtain⟨t,ht⟩:∃q,ej[pv]? =some q:=⟨_,aB (by omega)⟩
     have htd:ej.getD pv 0=t:=by rw[List.getD,ht];rfl
     have RD:=heb t (aC ht);obtain⟨aj,cj,rfl⟩:=hE.form Sl;obtain⟨ad,cs,OY,hG,hl⟩:=hE.load Sl UR ht;obtain⟨g0,g1,g2,g3,g4,g5,g6,g7,rfl,hG⟩:=hG;refine⟨by simp,by omega,.slice aj n cj,by simpa using SX,ad,OY,by omega,[.bool g0,.slice g1 g2 g3,.bool g4,.slice g5 g6 g7],rfl,fun O w' r t u hu=>?_,?_⟩
     ·obtain⟨k1,k2⟩:=hl t u hu;rw[aE,cH (w:=w5) (w2:=w') (by rw[dN,dN];exact Rel.same r (gQ _) k1)];exact k2
     refine cF (cE hw (fun _ w' v w2=>∃d,v= .bool d∧(d=true↔t=0)) (fun O w' r=>kx (Lr.old r hS) ((hG.FR r hS).l (by omega))) ?_);rintro O _ _ Qk OZ r he hw h_ ⟨d,rfl,hz⟩;replace hE:=hE.cG r hS he (mC h_)
     cases d
     ·have ht0:t≠0:=fun e=>by have:=hz.2 e;cases this
      obtain⟨ad,cs,OY,hG,hl⟩:=hE.load Sl UR ht;obtain⟨g0,g1,g2,g3,g4,g5,g6,g7,rfl,hG⟩:=hG;refine⟨ad,OY,by omega,[.bool g0,.slice g1 g2 g3,.bool g4,.slice g5 g6 g7],rfl,fun O w' r t u hu=>?_,?_⟩
      ·obtain⟨k1,k2⟩:=hl t u hu;rw[aE,cH (w:=Qk) (w2:=w') (by rw[dN,dN];exact Rel.same r (gQ _) k1)];exact k2
      refine⟨fun O w' r=>?_⟩;refine(hE.D2 r hS (i:=j) (j:=rv.length) (h:=h) (by omega) Sl TQ UR Sm (hG.l (by omega)) heb hub RD hh).mono fun e w8 he=>?_;obtain⟨rfl,PV,TE,OT⟩:=he;have Oz:=(hw.tr r.cQ).tr (hE.cQ r PV TE);refine⟨.tuple #[],_,(w'.heap.size,w8.heap.size)::OZ,rfl,r.FT (fun x hx=>Rel.not r (gQ _) (hE.new x (TE x hx))) PV,?_⟩;have OL:(gN E u pv j++[u]).set j (mL ej u t)=gN E u pv (j+1)++[u]:=by rw[LI _ _ (by rw[fz];omega),zJ UQ,htd]
      rw[OL]at OT;generalize (w'.heap.size,w8.heap.size)::OZ=SK at*
      refine⟨((j+1:Nat):Int),wo,?_⟩;intro ρ3 w6 r3;exact⟨(j+1,w6,_),⟨PT,Oz.tr r3.cQ,OT.rel r3 hS⟩,Sub.gn [] r3,by dsimp only;omega⟩
     ·have ht0:t=0:=hz.1 rfl;refine⟨((j+1:Nat):Int),wo,?_⟩;intro ρ3 w6 r3;exact⟨(j+1,w6,_),⟨PT,hw.tr r3.cQ,by dsimp only;rw[Gz UQ (by rw[htd,ht0])];exact hE.rel r3 hS⟩,Sub.gn [] r3,by dsimp only;omega⟩
    have PT:j=E.length:=by have:=aO hj (by simpa using PT);omega
    rw[PT]at hE;refine⟨by simp,by omega,by simp;omega,(at_.set pv (some rv.length)).map MQ,?_,?_⟩
    ·rw[aE,aT,aR,List.map_set];exact gC (by simp;omega)
    refine il hτ df (.x 0 (.x 1 (.x 3 (.x 6 (.x 8 (.ld 2 64544 (.ld 7 64512 (.two 4 (.two 5 (.x 11 (.x 12 (.x 9 (.x 10 (.x 13 (.x 14 (.x 15 .nil))))))) 9 (.x 5 (.x 11 (.x 12 (.x 10 (.x 13 (.x 14 (.x 15 .nil)))))))) 9 (.x 4 (.x 5 (.x 11 (.x 12 (.x 10 (.x 13 (.x 14 (.x 15 .nil)))))))))))))))) (by kernel_rfl) (by kernel_rfl) ?_;refine⟨?_,?_⟩
    ·refine⟨rfl,rfl,?_,?_⟩
     ·refine .inl ?_;refine⟨by simp,by omega,by unfold maxLen;omega,rfl,rfl,?_⟩;refine .inl ?_;refine⟨by simp,by omega,by unfold maxLen;omega,((i+1:Nat):Int),wo,?_⟩;intro ρ3 w6 r3;exact⟨(i+1,rv++[.slice (some ⟨gx,0,none⟩) n cx],gN E u pv E.length++[u],at_.set pv (some E.length),fr++[i],w6,_),⟨OC,Rs.symm,hw.tr r3.cQ,hE.rel r3 hS⟩,Sub.gn [(4,10),(5,12)] r3 ⟨by dsimp only;rw[List.length_append,List.length_append,List.length_singleton,List.length_singleton];rfl,by dsimp only;rw[List.map_append];rfl,rfl,rfl,rfl,by dsimp only;rw[<-Of];rfl,trivial⟩,by dsimp only;omega⟩
     ·refine⟨rfl,rfl,?_⟩;refine .inl ?_;refine⟨by simp,by omega,by unfold maxLen;omega,rfl,?_⟩;refine .inl ?_;refine⟨by simp,by omega,by unfold maxLen;omega,((i+1:Nat):Int),wo,?_⟩;intro ρ3 w6 r3;exact⟨(i+1,rv++[.slice (some ⟨gx,0,none⟩) n cx],gN E u pv E.length++[u],at_.set pv (some E.length),fr++[i],w6,_),⟨OC,Rs.symm,hw.tr r3.cQ,hE.rel r3 hS⟩,Sub.gn [(4,11),(5,12)] r3 ⟨by dsimp only;rw[List.length_append,List.length_append,List.length_singleton,List.length_singleton];rfl,by dsimp only;rw[List.map_append];rfl,rfl,rfl,rfl,by dsimp only;rw[<-Of];rfl,trivial⟩,by dsimp only;omega⟩
    ·refine⟨rfl,rfl,rfl,rfl,?_⟩;refine .inl ?_;refine⟨by simp,by omega,by unfold maxLen;omega,rfl,?_⟩;refine .inl ?_;refine⟨by simp,by omega,by unfold maxLen;omega,((i+1:Nat):Int),wo,?_⟩;intro ρ3 w6 r3;exact⟨(i+1,rv++[.slice (some ⟨gx,0,none⟩) n cx],gN E u pv E.length++[u],at_.set pv (some E.length),fr++[i],w6,_),⟨OC,Rs.symm,hw.tr r3.cQ,hE.rel r3 hS⟩,Sub.gn [(4,11),(5,12)] r3 ⟨by dsimp only;rw[List.length_append,List.length_append,List.length_singleton,List.length_singleton];rfl,by dsimp only;rw[List.map_append];rfl,rfl,rfl,rfl,by dsimp only;rw[<-Of];rfl,trivial⟩,by dsimp only;omega⟩
   ·have hq0:q=0:=hz.1 rfl;refine⟨((pv+1:Nat):Int),wo,?_⟩;intro ρ3 w4 r3
    exact⟨(pv+1,w4,_),⟨Um,fun t ht=>by
     by_cases htp:t=pv
     ·rw[htp,Tt,hq0]
     ·exact Ul t (by dsimp only at ht;omega),hw.tr r3.cQ,hE.rel r3 hS⟩,Sub.gn [] r3,by dsimp only;omega⟩
  have Um:pv=cols:=aO hp (by simpa using Um);have TN:tU y cols=cols:=Hf (k:=cols) (fun t ht=>Ul t (by omega)) (aF _) (fun h=>absurd h (Nat.lt_irrefl _));have hskip:=Gx QA UA hy TN;refine dK.mk (fun he=>?_) (fun he=>by rw[Um]at he;simp at he);refine⟨((i+1:Nat):Int),wo,?_⟩;intro ρ3 w4 r3;exact⟨(i+1,rv,E,at_,fr,w4,_),⟨OC,hskip,hw.tr r3.cQ,hE.drop.rel r3 hS⟩,Sub.gn [] r3,by dsimp only;omega⟩
 have OC:i=M.length:=aO hi (by simpa using OC);subst OC;have hredS:dT M cols=dE (E,at_,fr) cols:=by rw[dT,<-QA]
 have OU:∀(k r:Nat),at_[k]? =some (some r)->r<E.length:=OF.lt;have R1:∀k,k<=cols->(dE (E,at_,fr) k).1.length=(dE (E,at_,fr) k).2.1.length∧(dE (E,at_,fr) k).2.2.length=(dE (E,at_,fr) k).2.1.length∧(ki rv at_ k).length=(dE (E,at_,fr) k).2.1.length∧(dE (E,at_,fr) k).2.1.length<=k:=fun k hk=>uT (E,at_,fr) rv k (by dsimp only;omega)
 refine⟨Nat×World,fun z=>⟨[(4,pP 1 0),(5,pP 2 0),(17,pP 6 0),(159,.o (.s 3 0 cols cols)),(160,iZ cols),(161,iN z.1)],[(6,.box T.dX [.w 7 (dE (E,at_,fr) z.1).2.1.length,.v (.int .i64 n),.w 8 (dE (E,at_,fr) z.1).2.1.length,.w 9 (dE (E,at_,fr) z.1).2.1.length]),(9,.vec T.int 1 ((dE (E,at_,fr) z.1).2.2.map fun c:Nat=>.int .i64 (c:Int))),(8,.vec T.int 1 ((dE (E,at_,fr) z.1).2.1.map fun c:Nat=>.int .i64 (c:Int))),(7,.vec T.gA 1 (ki rv at_ z.1)),(2,.box T.dX [.w 4 rv.length,.v (.int .i64 n),.v (.slice none 0 0),.w 5 fr.length]),(5,.vec T.int 1 (fr.map fun c:Nat=>.int .i64 (c:Int))),(4,.vec T.gA 1 rv),(1,.box T.dX [.v (.slice none 0 0),.v (.int .i64 0),.v (.slice none 0 0),.v (.slice none 0 0)]),(3,.arr T.int (at_.map MQ))],10,iv,z.2⟩,fun z=>cols-z.1,
  fun z=>z.1<=cols∧eE w.heap.size w z.2∧lg z.2 S w.heap.size iv rv n E,?_,?_⟩
 ·intro O w' r
  exact⟨(0,w'),⟨aQ _,hw.tr r.cQ,hE.rel r hS⟩,Sub.BT 6 0 T.gA 1 rfl rfl (by simp[j8,SV.sc,At.sc]) r fun ρ1 r1=>Sub.BT 6 2 T.int 1 rfl rfl (by simp[j8,SV.sc,At.sc]) r1 fun ρ2 r2=>Sub.BT 6 3 T.int 1 rfl rfl (by simp[j8,SV.sc,At.sc]) r2 fun ρ3 r3=>
   Sub.gn [] r3⟩
 rintro⟨k,w1⟩ ⟨hk,hw,hE⟩;dsimp only at hk hw hE ⊢;obtain⟨q1,q2,q3,q4⟩:=R1 k hk;refine dK.mk ?_ ?_<;>intro OH
 ·have OH:k<cols:=by simpa using OH
  obtain⟨o,ho⟩:∃o,at_[k]? =some o:=⟨_,aB (by omega)⟩
  refine⟨by omega,MQ o,by rw[aE,aT,aR,aM,ho];rfl,?_⟩
  cases o with
  |none=>
   refine⟨((k+1:Nat):Int),wo,?_⟩;have PI:=mZ (s:=(E,at_,fr)) ho;have QS:=sh (rv:=rv) ho;intro ρ3 w3 r3;exact⟨(k+1,w3),⟨OH,hw.tr r3.cQ,hE.rel r3 hS⟩,Sub.gn [] r3 ⟨by dsimp only;rw[PI];rfl,by dsimp only;rw[PI];rfl,by dsimp only;rw[PI];rfl,by dsimp only;rw[QS];rfl,rfl,rfl,rfl,rfl,rfl,trivial⟩,by dsimp only;omega⟩
  |some j=>
   have hj:j<E.length:=OU k j ho;obtain⟨vj,SX⟩:∃v,rv[j]? =some v:=⟨_,aB (by omega)⟩
   have hvjd:rv.getD j (.bool false)=vj:=by rw[List.getD,SX];rfl
   obtain⟨aj,cj,rfl⟩:=hE.form SX;obtain⟨fj,Sa⟩:∃v,fr[j]? =some v:=⟨_,aB (by omega)⟩
   have hfjd:fr.getD j 0=fj:=by rw[List.getD,Sa];rfl
   have PI:=ma (s:=(E,at_,fr)) ho;have QS:=si (rv:=rv) ho;dsimp only at PI;rw[hvjd]at QS;rw[hfjd]at PI;refine il hτ df (.x 0 (.x 1 (.x 3 (.x 4 (.x 6 (.x 11 (.x 13 (.x 16 (.x 18 (.x 20 (.ld 2 4278223872 (.ld 5 4278224768 (.x 7 (.ld 8 4278224384 (.ld 12 4278222848 (.ld 17 4278190080 (.ld 19 4192206848 (.x 21 (.ld 22 4185915392 (.three 9 (.three 10 (.x 25 (.x 26 (.two 14 (.two 15 (.x 23 (.x 24 (.x 27 (.x 28 (.x 29 (.x 30 (.x 31 .nil))))))) 23 (.x 15 (.x 24 (.x 27 (.x 28 (.x 29 (.x 30 (.x 31 .nil)))))))) 23 (.x 14 (.x 15 (.x 24 (.x 27 (.x 28 (.x 29 (.x 30 (.x 31 .nil))))))))))) 14 (.two 10 (.x 25 (.x 26 (.two 15 (.x 23 (.x 24 (.x 27 (.x 28 (.x 29 (.x 30 (.x 31 .nil))))))) 23 (.x 15 (.x 24 (.x 27 (.x 28 (.x 29 (.x 30 (.x 31 .nil)))))))))) 23 (.x 10 (.x 25 (.x 26 (.x 15 (.x 24 (.x 27 (.x 28 (.x 29 (.x 30 (.x 31 .nil))))))))))) 23 (.two 10 (.x 25 (.x 26 (.x 14 (.x 15 (.x 24 (.x 27 (.x 28 (.x 29 (.x 30 (.x 31 .nil)))))))))) 14 (.x 10 (.x 25 (.x 26 (.x 15 (.x 24 (.x 27 (.x 28 (.x 29 (.x 30 (.x 31 .nil)))))))))))) 14 (.two 9 (.two 10 (.x 25 (.x 26 (.two 15 (.x 23 (.x 24 (.x 27 (.x 28 (.x 29 (.x 30 (.x 31 .nil))))))) 23 (.x 15 (.x 24 (.x 27 (.x 28 (.x 29 (.x 30 (.x 31 .nil)))))))))) 23 (.x 10 (.x 25 (.x 26 (.x 15 (.x 24 (.x 27 (.x 28 (.x 29 (.x 30 (.x 31 .nil))))))))))) 23 (.x 9 (.x 10 (.x 25 (.x 26 (.x 15 (.x 24 (.x 27 (.x 28 (.x 29 (.x 30 (.x 31 .nil)))))))))))) 23 (.two 9 (.two 10 (.x 25 (.x 26 (.x 14 (.x 15 (.x 24 (.x 27 (.x 28 (.x 29 (.x 30 (.x 31 .nil)))))))))) 14 (.x 10 (.x 25 (.x 26 (.x 15 (.x 24 (.x 27 (.x 28 (.x 29 (.x 30 (.x 31 .nil))))))))))) 14 (.x 9 (.x 10 (.x 25 (.x 26 (.x 15 (.x 24 (.x 27 (.x 28 (.x 29 (.x 30 (.x 31 .nil)))))))))))))))))))))))))))))))) (by kernel_rfl) (by kernel_rfl) ?_;refine⟨by simp,by omega,.slice aj n cj,by simpa using SX,by simp,by omega,.int .i64 (fj:Int),by simp[Sa],?_,?_,?_⟩
   ·refine⟨.int .i64 (fj:Int),by simp[Sa],rfl,rfl,rfl,rfl,rfl,?_,?_,?_⟩
    ·refine .inl ?_;refine⟨by simp[q2,q3],by omega,by unfold maxLen;omega,.int .i64 (fj:Int),by simp[Sa],rfl,rfl,rfl,rfl,?_,?_⟩
     ·refine⟨.int .i64 (fj:Int),by simp[Sa],rfl,rfl,rfl,rfl,?_,?_⟩
      ·refine .inl ?_;refine⟨by simp[q2,q3],by omega,by unfold maxLen;omega,.int .i64 (fj:Int),by simp[Sa],rfl,rfl,rfl,rfl,?_⟩;refine .inl ?_;refine⟨by simp[q2,q3],by omega,by unfold maxLen;omega,((k+1:Nat):Int),wo,?_⟩;intro ρ3 w3 r3;exact⟨(k+1,w3),⟨OH,hw.tr r3.cQ,hE.rel r3 hS⟩,Sub.gn [(7,11),(8,13),(9,15)] r3 ⟨by dsimp only;rw[PI,List.length_append,List.length_singleton];rfl,by dsimp only;rw[PI,List.map_append];rfl,by dsimp only;rw[PI,List.map_append];rfl,by dsimp only;rw[QS];rfl,rfl,rfl,rfl,rfl,rfl,trivial⟩,by dsimp only;omega⟩
      ·refine⟨rfl,rfl,?_⟩;refine .inl ?_;refine⟨by simp[q2,q3],by omega,by unfold maxLen;omega,rfl,?_⟩;refine .inl ?_;refine⟨by simp[q2,q3],by omega,by unfold maxLen;omega,((k+1:Nat):Int),wo,?_⟩;intro ρ3 w3 r3;exact⟨(k+1,w3),⟨OH,hw.tr r3.cQ,hE.rel r3 hS⟩,Sub.gn [(7,11),(8,14),(9,15)] r3 ⟨by dsimp only;rw[PI,List.length_append,List.length_singleton];rfl,by dsimp only;rw[PI,List.map_append];rfl,by dsimp only;rw[PI,List.map_append];rfl,by dsimp only;rw[QS];rfl,rfl,rfl,rfl,rfl,rfl,trivial⟩,by dsimp only;omega⟩
     ·refine⟨rfl,rfl,rfl,rfl,?_⟩;refine .inl ?_;refine⟨by simp[q2,q3],by omega,by unfold maxLen;omega,rfl,?_⟩;refine .inl ?_;refine⟨by simp[q2,q3],by omega,by unfold maxLen;omega,((k+1:Nat):Int),wo,?_⟩;intro ρ3 w3 r3;exact⟨(k+1,w3),⟨OH,hw.tr r3.cQ,hE.rel r3 hS⟩,Sub.gn [(7,11),(8,14),(9,15)] r3 ⟨by dsimp only;rw[PI,List.length_append,List.length_singleton];rfl,by dsimp only;rw[PI,List.map_append];rfl,by dsimp only;rw[PI,List.map_append];rfl,by dsimp only;rw[QS];rfl,rfl,rfl,rfl,rfl,rfl,trivial⟩,by dsimp only;omega⟩
    ·refine⟨.int .i64 (fj:Int),by simp[Sa],rfl,rfl,rfl,rfl,rfl,?_,?_⟩
     ·refine .inl ?_;refine⟨by simp[q2,q3],by omega,by unfold maxLen;omega,.int .i64 (fj:Int),by simp[Sa],rfl,rfl,rfl,rfl,?_,?_⟩
      ·refine .inl ?_;refine⟨by simp[q2,q3],by omega,by unfold maxLen;omega,.int .i64 (fj:Int),by simp[Sa],rfl,rfl,rfl,rfl,?_⟩;refine .inl ?_;refine⟨by simp[q2,q3],by omega,by unfold maxLen;omega,((k+1:Nat):Int),wo,?_⟩;intro ρ3 w3 r3;exact⟨(k+1,w3),⟨OH,hw.tr r3.cQ,hE.rel r3 hS⟩,Sub.gn [(7,12),(8,13),(9,15)] r3 ⟨by dsimp only;rw[PI,List.length_append,List.length_singleton];rfl,by dsimp only;rw[PI,List.map_append];rfl,by dsimp only;rw[PI,List.map_append];rfl,by dsimp only;rw[QS];rfl,rfl,rfl,rfl,rfl,rfl,trivial⟩,by dsimp only;omega⟩
      ·refine⟨rfl,rfl,?_⟩;refine .inl ?_;refine⟨by simp[q2,q3],by omega,by unfold maxLen;omega,rfl,?_⟩;refine .inl ?_;refine⟨by simp[q2,q3],by omega,by unfold maxLen;omega,((k+1:Nat):Int),wo,?_⟩;intro ρ3 w3 r3;exact⟨(k+1,w3),⟨OH,hw.tr r3.cQ,hE.rel r3 hS⟩,Sub.gn [(7,12),(8,14),(9,15)] r3 ⟨by dsimp only;rw[PI,List.length_append,List.length_singleton];rfl,by dsimp only;rw[PI,List.map_append];rfl,by dsimp only;rw[PI,List.map_append];rfl,by dsimp only;rw[QS];rfl,rfl,rfl,rfl,rfl,rfl,trivial⟩,by dsimp only;omega⟩
     ·refine⟨rfl,rfl,rfl,?_⟩;refine .inl ?_;refine⟨by simp[q2,q3],by omega,by unfold maxLen;omega,rfl,rfl,?_⟩;refine .inl ?_;refine⟨by simp[q2,q3],by omega,by unfold maxLen;omega,rfl,?_⟩;refine .inl ?_;refine⟨by simp[q2,q3],by omega,by unfold maxLen;omega,((k+1:Nat):Int),wo,?_⟩;intro ρ3 w3 r3;exact⟨(k+1,w3),⟨OH,hw.tr r3.cQ,hE.rel r3 hS⟩,Sub.gn [(7,13),(8,14),(9,15)] r3 ⟨by dsimp only;rw[PI,List.length_append,List.length_singleton];rfl,by dsimp only;rw[PI,List.map_append];rfl,by dsimp only;rw[PI,List.map_append];rfl,by dsimp only;rw[QS];rfl,rfl,rfl,rfl,rfl,rfl,trivial⟩,by dsimp only;omega⟩
    ·refine⟨rfl,rfl,rfl,?_,?_⟩
     ·refine .inl ?_;refine⟨by simp[q2,q3],by omega,by unfold maxLen;omega,rfl,rfl,rfl,rfl,?_⟩;refine .inl ?_;refine⟨by simp[q2,q3],by omega,by unfold maxLen;omega,rfl,?_⟩;refine .inl ?_;refine⟨by simp[q2,q3],by omega,by unfold maxLen;omega,((k+1:Nat):Int),wo,?_⟩;intro ρ3 w3 r3;exact⟨(k+1,w3),⟨OH,hw.tr r3.cQ,hE.rel r3 hS⟩,Sub.gn [(7,12),(8,14),(9,15)] r3 ⟨by dsimp only;rw[PI,List.length_append,List.length_singleton];rfl,by dsimp only;rw[PI,List.map_append];rfl,by dsimp only;rw[PI,List.map_append];rfl,by dsimp only;rw[QS];rfl,rfl,rfl,rfl,rfl,rfl,trivial⟩,by dsimp only;omega⟩
     ·refine⟨rfl,rfl,rfl,?_⟩;refine .inl ?_;refine⟨by simp[q2,q3],by omega,by unfold maxLen;omega,rfl,rfl,?_⟩;refine .inl ?_;refine⟨by simp[q2,q3],by omega,by unfold maxLen;omega,rfl,?_⟩;refine .inl ?_;refine⟨by simp[q2,q3],by omega,by unfold maxLen;omega,((k+1:Nat):Int),wo,?_⟩;intro ρ3 w3 r3;exact⟨(k+1,w3),⟨OH,hw.tr r3.cQ,hE.rel r3 hS⟩,Sub.gn [(7,13),(8,14),(9,15)] r3 ⟨by dsimp only;rw[PI,List.length_append,List.length_singleton];rfl,by dsimp only;rw[PI,List.map_append];rfl,by dsimp only;rw[PI,List.map_append];rfl,by dsimp only;rw[QS];rfl,rfl,rfl,rfl,rfl,rfl,trivial⟩,by dsimp only;omega⟩
   ·refine⟨.int .i64 (fj:Int),by simp[Sa],rfl,rfl,rfl,rfl,.slice aj n cj,by simpa using SX,rfl,rfl,rfl,?_,?_⟩
    ·refine⟨.int .i64 (fj:Int),by simp[Sa],rfl,rfl,rfl,rfl,rfl,?_,?_⟩
     ·refine .inl ?_;refine⟨by simp[q2,q3],by omega,by unfold maxLen;omega,.int .i64 (fj:Int),by simp[Sa],rfl,rfl,rfl,rfl,?_,?_⟩
      ·refine .inl ?_;refine⟨by simp[q2,q3],by omega,by unfold maxLen;omega,.int .i64 (fj:Int),by simp[Sa],rfl,rfl,rfl,rfl,?_⟩;refine .inl ?_;refine⟨by simp[q2,q3],by omega,by unfold maxLen;omega,((k+1:Nat):Int),wo,?_⟩;intro ρ3 w3 r3;exact⟨(k+1,w3),⟨OH,hw.tr r3.cQ,hE.rel r3 hS⟩,Sub.gn [(7,12),(8,13),(9,15)] r3 ⟨by dsimp only;rw[PI,List.length_append,List.length_singleton];rfl,by dsimp only;rw[PI,List.map_append];rfl,by dsimp only;rw[PI,List.map_append];rfl,by dsimp only;rw[QS];rfl,rfl,rfl,rfl,rfl,rfl,trivial⟩,by dsimp only;omega⟩
      ·refine⟨rfl,rfl,?_⟩;refine .inl ?_;refine⟨by simp[q2,q3],by omega,by unfold maxLen;omega,rfl,?_⟩;refine .inl ?_;refine⟨by simp[q2,q3],by omega,by unfold maxLen;omega,((k+1:Nat):Int),wo,?_⟩;intro ρ3 w3 r3;exact⟨(k+1,w3),⟨OH,hw.tr r3.cQ,hE.rel r3 hS⟩,Sub.gn [(7,12),(8,14),(9,15)] r3 ⟨by dsimp only;rw[PI,List.length_append,List.length_singleton];rfl,by dsimp only;rw[PI,List.map_append];rfl,by dsimp only;rw[PI,List.map_append];rfl,by dsimp only;rw[QS];rfl,rfl,rfl,rfl,rfl,rfl,trivial⟩,by dsimp only;omega⟩
     ·refine⟨rfl,rfl,rfl,?_⟩;refine .inl ?_;refine⟨by simp[q2,q3],by omega,by unfold maxLen;omega,rfl,rfl,?_⟩;refine .inl ?_;refine⟨by simp[q2,q3],by omega,by unfold maxLen;omega,rfl,?_⟩;refine .inl ?_;refine⟨by simp[q2,q3],by omega,by unfold maxLen;omega,((k+1:Nat):Int),wo,?_⟩;intro ρ3 w3 r3;exact⟨(k+1,w3),⟨OH,hw.tr r3.cQ,hE.rel r3 hS⟩,Sub.gn [(7,13),(8,14),(9,15)] r3 ⟨by dsimp only;rw[PI,List.length_append,List.length_singleton];rfl,by dsimp only;rw[PI,List.map_append];rfl,by dsimp only;rw[PI,List.map_append];rfl,by dsimp only;rw[QS];rfl,rfl,rfl,rfl,rfl,rfl,trivial⟩,by dsimp only;omega⟩
    ·refine⟨rfl,rfl,.slice aj n cj,by simpa using SX,rfl,rfl,rfl,rfl,rfl,rfl,?_⟩;refine .inl ?_;refine⟨by simp[q2,q3],by omega,by unfold maxLen;omega,rfl,rfl,?_⟩;refine .inl ?_;refine⟨by simp[q2,q3],by omega,by unfold maxLen;omega,rfl,?_⟩;refine .inl ?_;refine⟨by simp[q2,q3],by omega,by unfold maxLen;omega,((k+1:Nat):Int),wo,?_⟩;intro ρ3 w3 r3;exact⟨(k+1,w3),⟨OH,hw.tr r3.cQ,hE.rel r3 hS⟩,Sub.gn [(7,13),(8,14),(9,15)] r3 ⟨by dsimp only;rw[PI,List.length_append,List.length_singleton];rfl,by dsimp only;rw[PI,List.map_append];rfl,by dsimp only;rw[PI,List.map_append];rfl,by dsimp only;rw[QS];rfl,rfl,rfl,rfl,rfl,rfl,trivial⟩,by dsimp only;omega⟩
   ·refine⟨rfl,rfl,.slice aj n cj,by simpa using SX,rfl,rfl,rfl,?_,?_⟩
    ·refine⟨rfl,rfl,rfl,?_,?_⟩
     ·refine .inl ?_;refine⟨by simp[q2,q3],by omega,by unfold maxLen;omega,rfl,rfl,rfl,rfl,?_⟩;refine .inl ?_;refine⟨by simp[q2,q3],by omega,by unfold maxLen;omega,rfl,?_⟩;refine .inl ?_;refine⟨by simp[q2,q3],by omega,by unfold maxLen;omega,((k+1:Nat):Int),wo,?_⟩;intro ρ3 w3 r3;exact⟨(k+1,w3),⟨OH,hw.tr r3.cQ,hE.rel r3 hS⟩,Sub.gn [(7,12),(8,14),(9,15)] r3 ⟨by dsimp only;rw[PI,List.length_append,List.length_singleton];rfl,by dsimp only;rw[PI,List.map_append];rfl,by dsimp only;rw[PI,List.map_append];rfl,by dsimp only;rw[QS];rfl,rfl,rfl,rfl,rfl,rfl,trivial⟩,by dsimp only;omega⟩
     ·refine⟨rfl,rfl,rfl,?_⟩;refine .inl ?_;refine⟨by simp[q2,q3],by omega,by unfold maxLen;omega,rfl,rfl,?_⟩;refine .inl ?_;refine⟨by simp[q2,q3],by omega,by unfold maxLen;omega,rfl,?_⟩;refine .inl ?_;refine⟨by simp[q2,q3],by omega,by unfold maxLen;omega,((k+1:Nat):Int),wo,?_⟩;intro ρ3 w3 r3;exact⟨(k+1,w3),⟨OH,hw.tr r3.cQ,hE.rel r3 hS⟩,Sub.gn [(7,13),(8,14),(9,15)] r3 ⟨by dsimp only;rw[PI,List.length_append,List.length_singleton];rfl,by dsimp only;rw[PI,List.map_append];rfl,by dsimp only;rw[PI,List.map_append];rfl,by dsimp only;rw[QS];rfl,rfl,rfl,rfl,rfl,rfl,trivial⟩,by dsimp only;omega⟩
    ·refine⟨rfl,rfl,.slice aj n cj,by simpa using SX,rfl,rfl,rfl,rfl,rfl,rfl,?_⟩;refine .inl ?_;refine⟨by simp[q2,q3],by omega,by unfold maxLen;omega,rfl,rfl,?_⟩;refine .inl ?_;refine⟨by simp[q2,q3],by omega,by unfold maxLen;omega,rfl,?_⟩;refine .inl ?_;refine⟨by simp[q2,q3],by omega,by unfold maxLen;omega,((k+1:Nat):Int),wo,?_⟩;intro ρ3 w3 r3;exact⟨(k+1,w3),⟨OH,hw.tr r3.cQ,hE.rel r3 hS⟩,Sub.gn [(7,13),(8,14),(9,15)] r3 ⟨by dsimp only;rw[PI,List.length_append,List.length_singleton];rfl,by dsimp only;rw[PI,List.map_append];rfl,by dsimp only;rw[PI,List.map_append];rfl,by dsimp only;rw[QS];rfl,rfl,rfl,rfl,rfl,rfl,trivial⟩,by dsimp only;omega⟩
 have OH:k=cols:=aO hk (by simpa using OH);subst OH;intro ρe we re;have Pm:∀u∈ki rv at_ k,u.oneCell'=true:=fun u hu=>by
  obtain⟨i,hi⟩:=aS hu;obtain⟨x,hx⟩:∃x,(dE (E,at_,fr) k).1[i]? =some x:=⟨_,aB (by have:=(aD.1 hi).1;omega)⟩
  obtain⟨r,h1,h2⟩:=Ad Of OU k (by omega) i u x hi hx;obtain⟨a,c,rfl⟩:=hE.form h1;rfl
 have h7:=re.iG (id:=7) (sz:=1) (m:=(dE (E,at_,fr) k).2.1.length) rfl (by simp[q3]) (by unfold maxLen;omega) (by decide) Pm;have h8:=re.iG (id:=8) (sz:=1) (m:=(dE (E,at_,fr) k).2.1.length) rfl (by simp) (by unfold maxLen;omega) (by decide) (fun u hu=>by obtain⟨c,_,rfl⟩:=aU.1 hu;rfl);have h9:=re.iG (id:=9) (sz:=1) (m:=(dE (E,at_,fr) k).2.1.length) rfl (by simp[q2]) (by unfold maxLen;omega) (by decide) (fun u hu=>by obtain⟨c,_,rfl⟩:=aU.1 hu;rfl);have OT:=hE.rel re hS;rw[hredS];refine⟨_,rfl,hw.tr re.cQ,_,_,_,rfl,⟨ki rv at_ k,?_,by omega,fun i u x k1 k2=>?_⟩,?_,?_⟩
 ·rw[q1];exact h7.cK fun g hg=>.inr hg
 ·obtain⟨r,h1,h2⟩:=Ad Of OU k (by omega) i u x k1 k2;refine((OT.row r u x h1 h2).read.cK (S':=Nw S w we) (C':=Nw S w we) (fun g hg=>?_) fun g hg=>Cv.nw hg.1 re).c;exact Cv.nw (D7 (OT.new g ⟨u,aC h1,hg⟩)) re
 ·exact h8.cK fun g hg=>.inr hg
 ·show ij we _ 1 _ _ (dE (E,at_,fr) k).2.2.length;rw[q2];exact h9.cK fun g hg=>.inr hg
section
variable{S S':Nat->Prop}{H:Hp}{nx n:Nat}{iv iv':Iv}{B:Nat}{w w' w2:World}{O:Nat->Sx.dx}{v:Value}{qs:List Rat}
theorem dg.aAq{w0 w1:World}(h:dg w1 S w0.heap.size iv v n qs)(r:Rel H nx iv w0.heap.size w1 O w')(hS:Old S w0):dg w' S w0.heap.size [(w0.heap.size,w'.heap.size)] v n qs:=by
 have h2:=h.rel r hS;have key:∀g {X:Nat->Prop},Cv X w0.heap.size iv g->Cv X w0.heap.size [(w0.heap.size,w'.heap.size)] g:=fun g X hg=>by
  rcases hg with hg|⟨h1,lo,hi,h2,h3,h4⟩
  ·exact .inl hg
  ·exact .inr ⟨h1,_,_,bB.2 rfl,h1,by have:=r.rM lo hi h2;have:=r.size;omega⟩
 exact⟨h2.row.cK fun g hg=>⟨key g hg.1,hg.2⟩,fun g hg=>key g (h2.new g hg)⟩
theorem dg.aA6(h:dg w2 (Cv S B iv) w'.heap.size [(w'.heap.size,w2.heap.size)] v n qs)(hB:B<=w'.heap.size):dg w2 S B ((w'.heap.size,w2.heap.size)::iv) v n qs:=by
 have key:∀g {X Y:Nat->Prop},(∀g,Y g->Cv X B iv g)->Cv Y w'.heap.size [(w'.heap.size,w2.heap.size)] g->Cv X B ((w'.heap.size,w2.heap.size)::iv) g:=fun g X Y hY hg=>by
  rcases hg with hg|⟨h1,lo,hi,h2,h3,h4⟩
  ·exact(hY g hg).mono fun p hp=>List.mem_cons_of_mem _ hp
  ·simp at h2;obtain⟨rfl,rfl⟩:=h2;exact .inr ⟨by omega,_,_,aG,h3,h4⟩
 exact⟨h.row.cK fun g hg=>⟨key g (fun _ h=>h) hg.1,hg.2⟩,fun g hg=>key g (fun _ h=>h.elim) (h.new g hg)⟩
def Bs(S:Nat->Prop)(B:Nat)(iv:Iv)(v:Value)(g:Nat):Prop:=Cv S B iv g∧v.ownBlock≠some g
theorem Bs.kept(r:Rel H nx iv B w O w')(hS:∀g,S g->g<B){row:Option Nat}(hg:w'.grownBy w2 row)(OE:∀g,row=some g->v.ownBlock=some g):∀g,Bs S B iv v g->w2.heap[g]? =w.heap[g]? :=fun g h=>by
 rw[hg.block g (Rel.old r hS g h.1) fun e=>h.2 (OE g e.symm),Rel.same r hS h.1]
theorem Bs.same(r:Rel H nx iv B w O w')(hS:∀g,S g->g<B):∀g,Bs S B iv v g->w'.heap[g]? =w.heap[g]? :=fun g h=>Rel.same r hS h.1
theorem Bs.of(r:Rel H nx iv B w O w')(hS:∀g,S g->g<B)(hm:∀p,p∈iv->p∈iv')(hn:dg w2 FF w'.heap.size [(w'.heap.size,w2.heap.size)] v n qs)(h:Cv S B iv g):Bs S B iv' v g:=
 ⟨h.mono hm,fun e=>by
  have h1:=Rel.old r hS g h;rcases hn.new g e with h2|⟨h2,_⟩
  ·exact h2
  ·omega⟩
theorem Bs.mono(hm:∀p,p∈iv->p∈iv')(h:Bs S B iv v g):Bs S B iv' v g:=⟨h.1.mono hm,h.2⟩
theorem dR.at{m:Nat}(h:dR w S (.slice a m c) ps)(hj:ps[j]? =some p):∃ad,a=some ad∧S ad.block∧w.cell? (ad.add (j*1))=some (.int .i64 (p:Int)):=by
 obtain⟨h0,h1,h2,a',c',e,h3,h4⟩:=h;injection e with e1 e2 e3;subst e1;obtain⟨ad,k1,k2,k3⟩:=h4 j (.int .i64 (p:Int)) (by rw[aM,hj];rfl);exact⟨ad,k1,k2,by rw[aT];exact k3⟩
theorem dR.shape(h:dR w S v ps):∃a c,v= .slice a ps.length c∧ps.length<=c∧ps.length<=maxLen:=by
 obtain⟨h0,h1,h2,a,c,e,h3,h4⟩:=h;exact⟨a,c,e,h3,h0⟩
end
theorem Ae{E:List (List Rat)}{at_:List (Option Nat)}{fr:List Nat}{n:Nat}(hE:fZ n E)(OU:∀(k r:Nat),at_[k]? =some (some r)->r<E.length):∀k,k<=at_.length->fZ n (dE (E,at_,fr) k).1∧∀p∈(dE (E,at_,fr) k).2.1,p<k
 |0,_=>⟨(fun r hr=>by cases hr),fun p hp=>by cases hp⟩
 |k+1,hk=>by
  have ih:=Ae (fr:=fr) hE OU k (by omega);obtain⟨o,ho⟩:∃o,at_[k]? =some o:=⟨_,aB (by omega)⟩
  cases o with
  |none=>
   rw[mZ (s:=(E,at_,fr)) ho];exact⟨ih.1,fun p hp=>Nat.lt_succ_of_lt (ih.2 p hp)⟩
  |some r=>
   rw[ma (s:=(E,at_,fr)) ho];refine⟨fun x hx=>?_,fun p hp=>?_⟩
   ·rcases bS.1 hx with hx|hx
    ·exact ih.1 x hx
    ·rw[bB.1 hx];have:=OU k r ho;dsimp only
     rw[List.getD,aB this];exact hE _ (aY this)
   ·rcases bS.1 hp with hp|hp
    ·exact Nat.lt_succ_of_lt (ih.2 p hp)
    ·rw[bB.1 hp];exact bZ _
theorem rn(cols:Nat)(hM:fZ n M):(dT M cols).1.length=(dT M cols).2.1.length∧(dT M cols).2.2.length=(dT M cols).2.1.length∧fZ n (dT M cols).1∧(∀p∈(dT M cols).2.1,p<cols)∧(dT M cols).2.1.length<=cols:=by
 have OF:=zK cols hM M.length (aF _);unfold dT;generalize hJ M cols M.length=s at*
 obtain⟨E,at_,fr⟩:=s;have QJ:at_.length=cols:=OF.at_;obtain⟨q1,q2,-,q4⟩:=uT (E,at_,fr) [] cols (by show cols<=at_.length;omega);obtain⟨f1,f2⟩:=Ae (E:=E) (at_:=at_) (fr:=fr) OF.len OF.lt cols (by omega);exact⟨q1,q2,f1,f2,q4⟩
theorem lA(M:List (List Rat))(b:List Rat):(jo M b).length=M.length:=List.length_mapIdx
theorem JB(h:fZ n M):fZ (n+1) (jo M b):=fun r hr=>by
 obtain⟨i,hi⟩:=aS hr;rw[jo,List.getElem?_mapIdx]at hi
 cases hM:M[i]? with
 |none=>rw[hM]at hi;cases hi
 |some x=>
  rw[hM]at hi;simp only[Option.map_some,Option.some.injEq]at hi;rw[<-hi,List.length_append,h x (aC hM)];rfl
theorem HA{H:Hp}{nx:Nat}{w':World}(r:Rel H nx iv B w O w')(h:dF H id=some (.vec T.Rat 4 ([]++css.flatten++cs)))(hF:Fc w' S css x)(hq:iU w' S cs q)(hm:x.length<maxLen):
  (O id).nil=false∧cI w' (Cv S B (((O id).g,(O id).g+1)::iv)) (.slice (some ⟨(O id).g,0,none⟩) (x.length+1) (O id).cap) (x++[q]):=by
 have OX:=eY hF.uS;have hl:([]++css.flatten++cs).length=(x.length+1)*4:=by rw[List.nil_append,List.length_append,OX,hF.1,hq.len];omega
 have R5:=hF.push hq;have he:[]++css.flatten++cs=(css++[cs]).flatten:=by simp
 have hv:=o7 r (sz:=4) (m:=x.length+1) h hl (by omega) (by decide) (by omega) (fun u hu=>R5.one u (by rw[<-he];exact hu));refine⟨hv.1,css++[cs],?_,R5.1,R5.uS,fun j c y k1 k2=>(R5.2 j c y k1 k2).cK fun g hg=>.inl hg⟩;rw[List.length_append,List.length_singleton,<-he];exact hv.2.2.cK fun g hg=>.inr ⟨by have:=hv.2.1;omega,_,_,aG,by omega,by omega⟩
set_option maxHeartbeats 2000000 in
theorem CL{D:Nat->Prop}{u:Value}(hC:Old C w)(hD:Old D w)(hS:Old S w)(hM:kz w C S v M)(hb:gP w D S u b)(PX:b.length=M.length)(hlen:fZ cols M)(hn:cols<=999)(hR:M.length<=1000)(hB:D8 (jo M b) (cols+1) h)(hh:3*h<=90000):
  eA PG N.jF #[.agg #[v,.int .i64 cols],u] w (eF w fun v' w2=>(oI M b cols=none∧v'= .tuple #[.slice none 0 0,.bool false])∨∃x vx,oI M b cols=some x∧v'= .tuple #[vx,.bool true]∧dg w2 S w.heap.size [(w.heap.size,w2.heap.size)] vx cols x):=by
 have hw:=bR w;obtain⟨am,cm,rfl,Rk,Qg⟩:=kz.shape hM;obtain⟨ab,cb,rfl,Pq,Qh⟩:=gP.shape hb;unfold maxLen at Qg Qh;refine oQ (by simp) ?_
 refine⟨((cols+1:Nat):Int),wo,Nat×List Value×World×Iv,fun z=>⟨[(20,iN z.1),(1,sV ab b.length cb),(2,pP 0 0),(6,pP 1 0),(18,sV am M.length cm),(19,iZ M.length)],[(1,.box T.dw [.w 2 z.2.1.length,.v (.int .i64 ((cols+1:Nat):Int))]),(2,.vec T.gA 1 z.2.1),(0,.box T.dw [.v (.slice am M.length cm),.v (.int .i64 cols)])],3,z.2.2.2,z.2.2.1⟩,fun z=>M.length-z.1,
  fun z=>z.1<=M.length∧eE w.heap.size w z.2.2.1∧dh z.2.2.1 (Cv S w.heap.size z.2.2.2) z.2.1 ((jo M b).take z.1),?_,?_⟩
 ·intro O w' r
  exact⟨(0,[],w',[]),⟨aQ _,hw.tr r.cQ,by simp[dh]⟩,Sub.BT 1 0 T.gA 1 rfl rfl (by simp[j8,SV.sc,At.sc,fa]) r fun ρ1 r1=>
   Sub.gn [] r1⟩
 rintro⟨i,rv,w1,iv⟩ ⟨hi,hw,hK⟩;dsimp only at hi hw hK ⊢;have Of:rv.length=i:=by rw[hK.1,aW,lA];omega
 refine dK.mk ?_ ?_<;>intro OC
 ·have OC:i<M.length:=by simpa using OC
  obtain⟨x,hx⟩:∃r,M[i]? =some r:=⟨_,aB OC⟩
  have PZ:=hlen x (aC hx);obtain⟨q,hq⟩:∃r,b[i]? =some r:=⟨_,aB (by omega)⟩
  have Tt:b.getD i 0=q:=by rw[List.getD,hq];rfl
  have OL:(jo M b).take (i+1)=(jo M b).take i++[x++[q]]:=by
   rw[List.take_add_one,show(jo M b)[i]? =some (x++[q]) by rw[jo,List.getElem?_mapIdx,hx,<-Tt];rfl];rfl
  obtain⟨adm,um,Qd,Oh,km1,km2⟩:=kz.load hM hx;obtain⟨css,⟨-,g1,g2,a0,c0,rfl,g4,g5⟩,PU,R4,On⟩:=Oh;have OX:=eY R4;obtain⟨adq,cs,TG,hF,hl⟩:=gP.load hb hq;obtain⟨b3,a3,n3,c3,b4,a4,n4,c4,rfl,hF⟩:=hF;refine⟨adm,Qd,by omega,.slice a0 x.length c0,rd1 km2 hw (hC _ km1),?_⟩;refine il hτ df (.x 0 (.x 3 (.x 5 (.x 6 (.x 7 (.ld 1 28672 (.ld 8 32256 (.two 2 (.two 4 (.x 9 (.x 10 (.kA 6 (.x 11 (.x 12 (.x 13 (.x 14 .nil))))))) 9 (.x 4 (.x 10 (.kA 6 (.x 11 (.x 12 (.x 13 (.x 14 .nil)))))))) 9 (.x 2 (.x 4 (.x 10 (.kA 6 (.x 11 (.x 12 (.x 13 (.x 14 .nil)))))))))))))))) (by kernel_rfl) (by kernel_rfl) ?_;refine⟨adq,TG,by omega,[.bool b3,.slice a3 n3 c3,.bool b4,.slice a4 n4 c4],rfl,rdO hl hw hD,?_,?_⟩
  ·refine⟨[.bool b3,.slice a3 n3 c3,.bool b4,.slice a4 n4 c4],rfl,rdO hl hw hD,rfl,rfl,?_,?_⟩
   ·refine .inl ?_;refine⟨css.flatten,g1,g2,fun O w' r Ol=>?_,?_⟩
    ·obtain⟨u0,Qv⟩:∃u,css.flatten[0]? =some u:=⟨_,aB (by omega)⟩
     obtain⟨ad,ha,_,_⟩:=g5 0 u0 Qv;refine⟨ad,ha,fun j u hj=>?_⟩;obtain⟨ad2,Ok,q1,q2⟩:=g5 j u hj;rw[ha]at Ok;injection Ok with Ok;subst Ok;rw[cH (w:=w) (w2:=w') (by rw[dN];exact(hw.tr r.cQ).block _ (hS _ q1))];exact q2
    refine⟨rfl,by omega,by unfold maxLen;omega,?_⟩;rw[aR x.length];refine⟨[.bool b3,.slice a3 n3 c3,.bool b4,.slice a4 n4 c4],rfl,rdO hl hw hD,rfl,rfl,rfl,?_⟩;refine .inl ?_;refine⟨by rw[<-g1];rfl,by omega,by unfold maxLen;omega,rfl,[(1,.box T.dw [.w 2 rv.length,.v (.int .i64 ((cols+1:Nat):Int))]),(2,.vec T.gA 1 rv),(0,.box T.dw [.v (.slice am M.length cm),.v (.int .i64 cols)])],_,rfl,by simp,⟨rfl,rfl,rfl,trivial⟩,rfl,fun O w' r=>?_⟩;have hv:=HA (S:=S) (x:=x) (q:=q) (css:=css) r (id:=6) rfl ⟨PU,fun j cs q k1 k2=>(On j cs q k1 k2).cJ fun g hg=>(hw.tr r.cQ).block g (hS g hg)⟩ (hF.cJ (kS hw r hS)).qS (by unfold maxLen;omega);refine⟨hv.1,_,jL (tl:=[(25,pP 1 0),(26,.o (.w 2 rv.length)),(20,iN i),(1,sV ab b.length cb),(2,pP 0 0),(6,pP 1 0),(18,sV am M.length cm),(19,iZ M.length)]) hv.1 (t:=35) (n:=x.length+1) rfl ⟨rfl,rfl,rfl,rfl,rfl,rfl,rfl,rfl,trivial⟩ (by simp[j8,SV.sc,At.sc]),?_⟩;replace hK:=(dh.cK (hK.rel r hS) (fun g hg=>hg.mono fun p hp=>List.mem_cons_of_mem _ hp)).push rfl hv.2;rw[<-OL]at hK;replace hw:=hw.tr r.cQ;generalize (O 6).g=gx at*
    generalize (O 6).cap=cx at*
    generalize (gx,gx+1)::iv=OG at*
    refine⟨rfl,?_⟩;refine .inl ?_;refine⟨by simp,by omega,by unfold maxLen;omega,((i+1:Nat):Int),wo,?_⟩;intro ρ3 w3 r3;exact⟨(i+1,rv++[.slice (some ⟨gx,0,none⟩) (x.length+1) cx],w3,_),⟨OC,hw.tr r3.cQ,hK.rel r3 hS⟩,Sub.gn [(2,8)] r3 ⟨by dsimp only;rw[List.length_append,List.length_singleton];rfl,rfl,rfl,trivial⟩,by dsimp only;omega⟩
   ·refine⟨rfl,?_⟩;refine .inl ?_;refine⟨css.flatten,g1,g2,fun O w' r Ol=>?_,?_⟩
    ·obtain⟨u0,Qv⟩:∃u,css.flatten[0]? =some u:=⟨_,aB (by omega)⟩
     obtain⟨ad,ha,_,_⟩:=g5 0 u0 Qv;refine⟨ad,ha,fun j u hj=>?_⟩;obtain⟨ad2,Ok,q1,q2⟩:=g5 j u hj;rw[ha]at Ok;injection Ok with Ok;subst Ok;rw[cH (w:=w) (w2:=w') (by rw[dN];exact(hw.tr r.cQ).block _ (hS _ q1))];exact q2
    refine⟨rfl,by omega,by unfold maxLen;omega,?_⟩;rw[aR x.length];refine⟨rfl,?_⟩;refine .inl ?_;refine⟨by rw[<-g1];rfl,by omega,by unfold maxLen;omega,rfl,[(1,.box T.dw [.w 2 rv.length,.v (.int .i64 ((cols+1:Nat):Int))]),(2,.vec T.gA 1 rv),(0,.box T.dw [.v (.slice am M.length cm),.v (.int .i64 cols)])],_,rfl,by simp,⟨rfl,rfl,rfl,trivial⟩,rfl,fun O w' r=>?_⟩;have hv:=HA (S:=S) (x:=x) (q:=q) (css:=css) r (id:=6) rfl ⟨PU,fun j cs q k1 k2=>(On j cs q k1 k2).cJ fun g hg=>(hw.tr r.cQ).block g (hS g hg)⟩ (hF.cJ (kS hw r hS)).qS (by unfold maxLen;omega);refine⟨hv.1,_,jL (tl:=[(25,pP 1 0),(26,.o (.w 2 rv.length)),(20,iN i),(1,sV ab b.length cb),(2,pP 0 0),(6,pP 1 0),(18,sV am M.length cm),(19,iZ M.length)]) hv.1 (t:=35) (n:=x.length+1) rfl ⟨rfl,rfl,rfl,rfl,rfl,rfl,rfl,rfl,trivial⟩ (by simp[j8,SV.sc,At.sc]),?_⟩;replace hK:=(dh.cK (hK.rel r hS) (fun g hg=>hg.mono fun p hp=>List.mem_cons_of_mem _ hp)).push rfl hv.2;rw[<-OL]at hK;replace hw:=hw.tr r.cQ;generalize (O 6).g=gx at*
    generalize (O 6).cap=cx at*
    generalize (gx,gx+1)::iv=OG at*
    refine⟨rfl,?_⟩;refine .inl ?_;refine⟨by simp,by omega,by unfold maxLen;omega,((i+1:Nat):Int),wo,?_⟩;intro ρ3 w3 r3;exact⟨(i+1,rv++[.slice (some ⟨gx,0,none⟩) (x.length+1) cx],w3,_),⟨OC,hw.tr r3.cQ,hK.rel r3 hS⟩,Sub.gn [(2,8)] r3 ⟨by dsimp only;rw[List.length_append,List.length_singleton];rfl,rfl,rfl,trivial⟩,by dsimp only;omega⟩
  ·refine⟨rfl,rfl,?_⟩;refine .inl ?_;refine⟨css.flatten,g1,g2,fun O w' r Ol=>?_,?_⟩
   ·obtain⟨u0,Qv⟩:∃u,css.flatten[0]? =some u:=⟨_,aB (by omega)⟩
    obtain⟨ad,ha,_,_⟩:=g5 0 u0 Qv;refine⟨ad,ha,fun j u hj=>?_⟩;obtain⟨ad2,Ok,q1,q2⟩:=g5 j u hj;rw[ha]at Ok;injection Ok with Ok;subst Ok;rw[cH (w:=w) (w2:=w') (by rw[dN];exact(hw.tr r.cQ).block _ (hS _ q1))];exact q2
   refine⟨rfl,by omega,by unfold maxLen;omega,?_⟩;rw[aR x.length];refine⟨rfl,?_⟩;refine .inl ?_;refine⟨by rw[<-g1];rfl,by omega,by unfold maxLen;omega,rfl,[(1,.box T.dw [.w 2 rv.length,.v (.int .i64 ((cols+1:Nat):Int))]),(2,.vec T.gA 1 rv),(0,.box T.dw [.v (.slice am M.length cm),.v (.int .i64 cols)])],_,rfl,by simp,⟨rfl,rfl,rfl,trivial⟩,rfl,fun O w' r=>?_⟩;have hv:=HA (S:=S) (x:=x) (q:=q) (css:=css) r (id:=6) rfl ⟨PU,fun j cs q k1 k2=>(On j cs q k1 k2).cJ fun g hg=>(hw.tr r.cQ).block g (hS g hg)⟩ (hF.cJ (kS hw r hS)).qS (by unfold maxLen;omega);refine⟨hv.1,_,jL (tl:=[(25,pP 1 0),(26,.o (.w 2 rv.length)),(20,iN i),(1,sV ab b.length cb),(2,pP 0 0),(6,pP 1 0),(18,sV am M.length cm),(19,iZ M.length)]) hv.1 (t:=35) (n:=x.length+1) rfl ⟨rfl,rfl,rfl,rfl,rfl,rfl,rfl,rfl,trivial⟩ (by simp[j8,SV.sc,At.sc]),?_⟩;replace hK:=(dh.cK (hK.rel r hS) (fun g hg=>hg.mono fun p hp=>List.mem_cons_of_mem _ hp)).push rfl hv.2;rw[<-OL]at hK;replace hw:=hw.tr r.cQ;generalize (O 6).g=gx at*
   generalize (O 6).cap=cx at*
   generalize (gx,gx+1)::iv=OG at*
   refine⟨rfl,?_⟩;refine .inl ?_;refine⟨by simp,by omega,by unfold maxLen;omega,((i+1:Nat):Int),wo,?_⟩;intro ρ3 w3 r3;exact⟨(i+1,rv++[.slice (some ⟨gx,0,none⟩) (x.length+1) cx],w3,_),⟨OC,hw.tr r3.cQ,hK.rel r3 hS⟩,Sub.gn [(2,8)] r3 ⟨by dsimp only;rw[List.length_append,List.length_singleton];rfl,rfl,rfl,trivial⟩,by dsimp only;omega⟩
 have OC:i=M.length:=aO hi (by simpa using OC);rw[List.take_of_length_le (by rw[lA];omega)]at hK;have Sb:=JB (b:=b) hlen;obtain⟨f1,f2,f3,f4,f5⟩:=rn (cols+1) Sb;generalize hA:(dT (jo M b) (cols+1)).1=A at*
 generalize hP:(dT (jo M b) (cols+1)).2.1=pv at*
 refine⟨((cols+1:Nat):Int),wo,?_⟩
 refine cF (cO (Φ:=fun _ w' v w2=>∃vr vp vf,v= .agg #[vr,.int .i64 ((cols+1:Nat):Int),vp,vf]∧cR w2 (Nw (Cv S w.heap.size iv) w' w2) vr A∧dR w2 (Nf w' w2) vp pv∧dR w2 (Nf w' w2) vf (dT (jo M b) (cols+1)).2.2) (fun O w' r=>by
  rw[<-hA,<-hP]
  exact vv (C:=fun g=>g<w'.heap.size) (fun g hg=>hg) (Rel.old r hS) ⟨rv,by rw[lA,<-OC,<-Of];exact(r.iG (id:=2) (sz:=1) (m:=rv.length) rfl (by simp) (by unfold maxLen;omega) (by decide) hK.2.1).cK fun g hg=>hg.2,hK.1,fun i u x h1 h2=>cI.rel (hK.2.2 i u x h1 h2) r hS⟩ Sb (by omega) (by omega) (by rw[lA];omega) (aF _) hB hh) ?_)
 rintro O Pg v1 PS r he Oe ⟨vr,vp,vf,rfl,k1,k2,k3⟩;replace hw:=hw.tr Oe;have hR:=cR.old k1 r.cD;have hV:=dR.dB (S:=FF) k2 r.cD (iv:=(Pg.heap.size,PS.heap.size)::iv) aG;have hX:=dR.dB (S:=FF) k3 r.cD (iv:=(Pg.heap.size,PS.heap.size)::iv) aG;generalize (Pg.heap.size,PS.heap.size)::iv=OJ at*
 obtain⟨ar,cr,rfl,Se,hmr⟩:=dM.shape hR;obtain⟨ap,cp,rfl,hcp,hmp⟩:=dR.shape hV;obtain⟨af,cf,rfl,-,-⟩:=dR.shape hX;refine cF (cO (Φ:=fun _ w' v w2=>dg w2 FF w'.heap.size [(w'.heap.size,w2.heap.size)] v cols (List.replicate cols 0)) (fun O w' r=>FP cols w' (by omega)) ?_);rintro O Pn v2 PJ r he Oe hn;replace hw:=hw.tr Oe;replace hR:=cR.cK (S':=Bs S w.heap.size ((Pn.heap.size,PJ.heap.size)::OJ) v2) (cR.cJ (cR.rel hR r hS) fun g hg=>he.block g (Rel.old r hS g hg)) fun g hg=>Bs.of r hS (fun x hx=>List.mem_cons_of_mem _ hx) hn hg;replace hV:=dR.cK (S':=Bs FF w.heap.size ((Pn.heap.size,PJ.heap.size)::OJ) v2) (dR.cJ (dR.rel hV r (cC w)) fun g hg=>he.block g (Rel.old r (cC w) g hg)) fun g hg=>Bs.of r (cC w) (fun x hx=>List.mem_cons_of_mem _ hx) hn hg;have hX:=hn.dB (S:=S) r.cD (iv:=(Pn.heap.size,PJ.heap.size)::OJ) aG;generalize (Pn.heap.size,PJ.heap.size)::OJ=OG at*
 obtain⟨ax,cx,rfl,Sf⟩:=hX.row.form;have hXl:=hX.row.le;unfold maxLen at hXl
 refine⟨Nat×World×Iv,fun z=>⟨[(51,iN z.1),(2,pP 0 0),(9,pP 3 0),(10,sV ax cols cx),(49,sV ap pv.length cp),(50,iZ pv.length)],[(3,.box T.dX [.v (.slice ar A.length cr),.v (.int .i64 ((cols+1:Nat):Int)),.v (.slice ap pv.length cp),.v (.slice af (dT (jo M b) (cols+1)).2.2.length cf)]),(0,.box T.dw [.v (.slice am M.length cm),.v (.int .i64 cols)])],4,z.2.2,z.2.1⟩,fun z=>pv.length-z.1,
  fun z=>z.1<=pv.length∧(∀(t p:Nat),t<z.1->pv[t]? =some p->p≠cols)∧eE w.heap.size w z.2.1∧cR z.2.1 (Bs S w.heap.size z.2.2 (.slice ax cols cx)) (.slice ar A.length cr) A∧dR z.2.1 (Bs FF w.heap.size z.2.2 (.slice ax cols cx)) (.slice ap pv.length cp) pv∧dg z.2.1 S w.heap.size z.2.2 (.slice ax cols cx) cols (fy A pv cols z.1),?_,?_⟩
 ·intro O w' r;exact⟨(0,w',_),⟨aQ _,fun t p ht=>absurd ht (cB t),hw.tr r.cQ,cR.cJ hR (Bs.same r hS),dR.cJ hV (Bs.same r (cC w)),hX.rel r hS⟩,Sub.gn [] r⟩
 rintro⟨k,w3,iv⟩ ⟨hk,Tk,hw,hR,hV,hX⟩;dsimp only at hk Tk hw hR hV hX ⊢;refine dK.mk ?_ ?_<;>intro OH
 ·have OH:k<pv.length:=by simpa using OH
  obtain⟨p,hp⟩:∃p,pv[k]? =some p:=⟨_,aB OH⟩
  have Qz:=f4 p (aC hp);obtain⟨adp,Qr,kp1,kp2⟩:=hV.at hp;refine⟨adp,Qr,by omega,.int .i64 (p:Int),fun O w' r=>?_,?_⟩
  ·rw[aE,cH (w:=w3) (w2:=w') (by rw[dN];exact Rel.same r (cC w) kp1.1)];exact kp2
  refine dK.mk ?_ ?_<;>intro he
  ·have he:p=cols:=by
    have:(p:Int)=cols:=by simpa using he
    omega
   intro ρe we re;refine⟨_,rfl,hw.tr re.cQ,.inl ⟨?_,rfl⟩⟩;unfold oI;simp only[hP]
   rw[if_pos (by rw[<-he];exact aC hp)]
  have he:p≠cols:=fun e=>by rw[e]at he;simp at he
  obtain⟨x,hx⟩:∃x,A[k]? =some x:=⟨_,aB (by omega)⟩
  have PZ:=f3 x (aC hx);obtain⟨q,hq⟩:∃q,x[cols]? =some q:=⟨_,aB (by omega)⟩
  have QJ:dD A k cols=q:=by simp[dD,List.getD,hx,hq]
  obtain⟨adm,um,Qd,Oh,km1,km2⟩:=dM.load hR hx;obtain⟨a0,c0,rfl,Tu,-⟩:=cY.shape Oh;obtain⟨adq,cs,TG,hF,_,hl⟩:=cY.load Oh hq;obtain⟨g0,g1,g2,g3,g4,g5,g6,g7,rfl,hF⟩:=hF;refine cM hτ df [.x 0,.x 1,.x 2,.x 3,.x 4,.x 5,.x 6,.x 7,.x 8,.x 9,.x 10,.x 11,.x 12,.x 13] (by kernel_rfl) (by kernel_rfl) ?_;refine⟨adm,Qd,by omega,.slice a0 x.length c0,fun O w' r=>?_,?_⟩
  ·rw[aE,cH (w:=w3) (w2:=w') (by rw[dN];exact Rel.same r hS km1.1)];exact km2
  refine⟨adq,TG,by omega,[.bool g0,.slice g1 g2 g3,.bool g4,.slice g5 g6 g7],rfl,fun O w' r j u hu=>?_,?_⟩
  ·obtain⟨k1,k2⟩:=hl j u hu;rw[aE,cH (w:=w3) (w2:=w') (by rw[dN,dN];exact Rel.same r hS k1.1)];exact k2
  obtain⟨gx,TF⟩:∃g,ax=some ⟨g,0,none⟩:=by
   obtain⟨css,h1,h2,h3⟩:=hX.row;rcases h1.2 with⟨_,h0⟩|⟨g,cap,cur,e,_⟩
   ·omega
   ·injection e with e;exact⟨g,e⟩
  subst TF;refine⟨⟨gx,0,none⟩,rfl,by omega,?_⟩;intro O w' r;obtain⟨g,hg,h1,h2,h3,h4,h5⟩:=(hX.rel r hS).store (j:=p) (by omega) (hF.cJ (Bs.same r hS)) r hS;injection hg with hg;injection hg with hg;subst hg;refine⟨h1,h2,h3,fun w5 QZ=>?_⟩;obtain⟨k1,k2,k3⟩:=h5 w5 QZ;have Oz:eE w.heap.size w w5:=(hw.tr r.cQ).tr (eE.grown k2 (fun g e=>by injection e with e;subst e;exact h4.elim (fun h=>h.elim) fun h=>h.1) r.cD);have Ql:=cR.cJ hR (Bs.kept r hS k2 fun g e=>e);have hV2:=dR.cJ hV (Bs.kept r (cC w) k2 fun g e=>e);have OL:(fy A pv cols k).set p q=fy A pv cols (k+1):=by rw[gV,QJ,List.getD,hp];rfl
  rw[OL]at k1;refine⟨((k+1:Nat):Int),wo,?_⟩;intro ρ3 w6 r3
  exact⟨(k+1,w6,_),⟨OH,fun t p2 ht QB=>by
   by_cases Tz:t=k
   ·rw[Tz,hp]at QB;injection QB with QB;rw[<-QB];exact he
   ·exact Tk t p2 (by dsimp only at ht;omega) QB,Oz.tr r3.cQ,cR.cJ Ql (Bs.same r3 hS),dR.cJ hV2 (Bs.same r3 (cC w)),k1.rel r3 hS⟩,Sub.gn [] r3,by dsimp only;omega⟩
 have OH:k=pv.length:=aO hk (by simpa using OH);subst OH;intro ρe we re;refine⟨_,rfl,hw.tr re.cQ,.inr ⟨_,_,?_,rfl,hX.aAq re hS⟩⟩;unfold oI;simp only[hA,hP]
 rw[aJ];intro hm;obtain⟨t,ht⟩:=aS hm;exact Tk t cols (aD.1 ht).1 ht rfl
theorem Af{u:Value}(hC:Old C w)(hS:Old S w)(hM:kz w C S v M)(hb:cI w S u b)(PX:b.length=M.length)(hlen:fZ cols M)(hn:cols<=999)(hR:M.length<=1000)(hB:D8 (jo M b) (cols+1) h)(hh:3*h<=90000):
  eA PG N.jF #[.agg #[v,.int .i64 cols],u] w (eF w fun v' w2=>(oI M b cols=none∧v'= .tuple #[.slice none 0 0,.bool false])∨∃x vx,oI M b cols=some x∧v'= .tuple #[vx,.bool true]∧dg w2 S w.heap.size [(w.heap.size,w2.heap.size)] vx cols x):=
 CL hC hS hS hM (cI.rc hb) PX hlen hn hR hB hh
def sj(pv:List Nat)(n i:Nat):List Value:=(List.range n).map fun c=>.bool (decide (c∈pv.take i))
theorem JC(pv:List Nat)(n:Nat):sj pv n 0=List.replicate n (.bool false):=by
 refine bK fun j=>?_;rw[sj,aM,List.getElem?_replicate];by_cases h:j<n
 ·rw[bq h,if_pos h];rfl
 ·rw[List.getElem?_eq_none (by simp;omega),aJ h];rfl
theorem D9(h:c<n):(sj pv n i)[c]? =some (.bool (decide (c∈pv.take i))):=by
 rw[sj,aM,bq h];rfl
theorem JD(hp:pv[i]? =some p):(sj pv n i).set p (.bool true)=sj pv n (i+1):=by
 refine bK fun j=>?_;by_cases hj:j<n
 ·rw[D9 hj,List.take_add_one,hp];by_cases hpj:p=j
  ·subst hpj;rw[aV (by simp[sj];exact hj)];simp
  ·rw[aZ hpj,D9 hj];have:j≠p:=fun e=>hpj e.symm;simp[this]
 ·rw[List.getElem?_eq_none (by simp[sj];omega),List.getElem?_eq_none (by simp[sj];omega)]
theorem dg.at{cx:Nat}(h:dg w S B iv (.slice ax n cx) n qs)(h0:0<n):∃g,ax=some ⟨g,0,none⟩:=by
 obtain⟨css,h1,h2,h3⟩:=h.row;rcases h1.2 with⟨_,h0⟩|⟨g,cap,cur,e,_⟩
 ·omega
 ·injection e with e;exact⟨g,e⟩
set_option maxHeartbeats 2000000 in
theorem JE(hC:Old C w)(hS:Old S w)(hM:kz w C S v M)(hlen:fZ n M)(hn0:0<n)(hn:n<=1000)(hR:M.length<=1000)(hB:D8 M n h)(hAb:Ht (dT M n).1 h)(hh:3*h<=90000):
  eA PG N.gW #[.agg #[v,.int .i64 n]] w (eF w fun v' w2=>cR w2 (Nf w w2) v' (ko M n)):=by
 have hw:=bR w;obtain⟨am,cm,rfl,Rk,Qg⟩:=kz.shape hM;unfold maxLen at Qg;obtain⟨f1,f2,f3,f4,f5⟩:=rn n hlen;refine j3 (by simp) ?_;unfold ko;generalize hA:(dT M n).1=A at*
 generalize hP:(dT M n).2.1=pv at*
 refine cF (cO (Φ:=fun _ w' v w2=>∃vr vp vf,v= .agg #[vr,.int .i64 n,vp,vf]∧cR w2 (Nw S w' w2) vr A∧dR w2 (Nf w' w2) vp pv∧dR w2 (Nf w' w2) vf (dT M n).2.2) (fun O w' r=>by
  rw[<-hA,<-hP];obtain⟨rv,m1,m2,m3⟩:=hM
  exact vv (C:=C) (S:=S) (oS hC r) (oS hS r) ⟨rv,m1.cJ fun g hg=>(hw.tr r.cQ).block g (hC g hg),m2,fun i u x h1 h2=>cI.cJ (m3 i u x h1 h2) fun g hg=>(hw.tr r.cQ).block g (hS g hg)⟩ hlen hn0 hn hR (aF _) hB hh) ?_)
 rintro O Pg v1 PS r he Oe ⟨vr,vp,vf,rfl,k1,k2,k3⟩;replace hw:=hw.tr Oe;have hR:=cR.old (cR.cK k1 fun g hg=>hg.imp (fun h=>(Or.inl h:Cv S w.heap.size [] g)) id) r.cD;have hV:=dR.dB (S:=FF) k2 r.cD (iv:=(Pg.heap.size,PS.heap.size)::[]) aG;have hX:=dR.dB (S:=FF) k3 r.cD (iv:=(Pg.heap.size,PS.heap.size)::[]) aG;generalize (Pg.heap.size,PS.heap.size)::[]=OJ at*
 obtain⟨ar,cr,rfl,Se,hmr⟩:=dM.shape hR;obtain⟨ap,cp,rfl,hcp,hmp⟩:=dR.shape hV;obtain⟨af,cf,rfl,-,-⟩:=dR.shape hX
 refine⟨n,n,rfl,rfl,aF _,by omega,by omega,Nat×World×Iv,fun z=>⟨[(1,pP 0 0),(3,pP 1 0),(4,.o (.s 2 0 n n)),(20,sV ap pv.length cp),(21,iZ pv.length),(22,iN z.1)],[(2,.arr T.bool (sj pv n z.1)),(1,.box T.dX [.v (.slice ar A.length cr),.v (.int .i64 n),.v (.slice ap pv.length cp),.v (.slice af (dT M n).2.2.length cf)]),(0,.box T.dw [.v (.slice am M.length cm),.v (.int .i64 n)])],3,z.2.2,z.2.1⟩,fun z=>pv.length-z.1,
  fun z=>z.1<=pv.length∧eE w.heap.size w z.2.1∧cR z.2.1 (Cv S w.heap.size z.2.2) (.slice ar A.length cr) A∧dR z.2.1 (Cf w z.2.2) (.slice ap pv.length cp) pv,?_,?_⟩
 ·intro O w' r3;exact⟨(0,w',_),⟨aQ _,hw.tr r3.cQ,cR.rel hR r3 hS,dR.rel hV r3 (cC w)⟩,Sub.gn [] r3 ⟨by dsimp only;rw[JC];rfl,rfl,rfl,trivial⟩⟩
 rintro⟨i,w1,iv⟩ ⟨hi,hw,hR,hV⟩;dsimp only at hi hw hR hV ⊢;refine dK.mk ?_ ?_<;>intro OC
 ·have OC:i<pv.length:=by simpa using OC
  obtain⟨p,hp⟩:∃p,pv[i]? =some p:=⟨_,aB OC⟩
  have Qz:=f4 p (aC hp);obtain⟨adp,Qr,kp1,kp2⟩:=hV.at hp;refine⟨adp,Qr,by omega,.int .i64 (p:Int),fun O w' r=>?_,?_⟩
  ·rw[aE,cH (w:=w1) (w2:=w') (by rw[dN];exact Rel.same r (cC w) kp1)];exact kp2
  refine⟨by omega,by simp[sj];omega,sj pv n (i+1),?_,?_⟩
  ·rw[aE,aT,aR,<-JD hp];exact gC (by simp[sj];omega)
  refine⟨((i+1:Nat):Int),wo,?_⟩;intro ρ3 w3 r3;exact⟨(i+1,w3,_),⟨OC,hw.tr r3.cQ,cR.rel hR r3 hS,dR.rel hV r3 (cC w)⟩,Sub.gn [] r3,by dsimp only;omega⟩
 have OC:i=pv.length:=aO hi (by simpa using OC);subst OC
 refine⟨Nat×List Value×World×Iv,fun z=>⟨[(32,iN z.1),(7,.o (.w 3 z.2.1.length)),(1,pP 0 0),(3,pP 1 0),(4,.o (.s 2 0 n n)),(31,iZ n)],[(2,.arr T.bool (sj pv n pv.length)),(3,.vec T.gA 1 z.2.1),(1,.box T.dX [.v (.slice ar A.length cr),.v (.int .i64 n),.v (.slice ap pv.length cp),.v (.slice af (dT M n).2.2.length cf)]),(0,.box T.dw [.v (.slice am M.length cm),.v (.int .i64 n)])],4,z.2.2.2,z.2.2.1⟩,fun z=>n-z.1,
  fun z=>z.1<=n∧eE w.heap.size w z.2.2.1∧cR z.2.2.1 (Cv S w.heap.size z.2.2.2) (.slice ar A.length cr) A∧dR z.2.2.1 (Cf w z.2.2.2) (.slice ap pv.length cp) pv∧dh z.2.2.1 (Cf w z.2.2.2) z.2.1 (eU A pv n z.1),?_,?_⟩
 ·intro O w' r;exact⟨(0,[],w',_),⟨aQ _,hw.tr r.cQ,cR.rel hR r hS,dR.rel hV r (cC w),by simp[dh,eU]⟩,Sub.nil 7 T.gA 1 rfl (by simp[j8,SV.sc,At.sc]) r fun ρ1 r1=>Sub.gn [] r1⟩
 rintro⟨c,rv,w1,iv⟩ ⟨hc,hw,hR,hV,hK⟩;dsimp only at hc hw hR hV hK ⊢;have Of:rv.length=(eU A pv n c).length:=hK.1;have hrc:=FU A pv n c;refine dK.mk ?_ ?_<;>intro Pq
 ·have Pq:c<n:=by simpa using Pq
  refine⟨by omega,.bool (decide (c∈pv)),by rw[aE,aT,aR,D9 Pq,bD],?_⟩;refine dK.mk ?_ ?_<;>intro hm
  ·have hm:c∈pv:=by simpa using hm
   refine⟨((c+1:Nat):Int),wo,?_⟩;intro ρ3 w3 r3;exact⟨(c+1,rv,w3,_),⟨Pq,hw.tr r3.cQ,cR.rel hR r3 hS,dR.rel hV r3 (cC w),by dsimp only;rw[FV hm];exact hK.rel r3 (cC w)⟩,Sub.gn [] r3,by dsimp only;omega⟩
  have hm:c∉pv:=by simpa using hm
  refine cF (cO (Φ:=fun _ w' v w2=>dg w2 FF w'.heap.size [(w'.heap.size,w2.heap.size)] v n (List.replicate n 0)) (fun O w' r=>FP n w' (by omega)) ?_);rintro O Pn v2 PJ r he Oe RV;replace hw:=hw.tr Oe;replace hR:=cR.cK (S':=Bs S w.heap.size ((Pn.heap.size,PJ.heap.size)::iv) v2) (cR.cJ (cR.rel hR r hS) fun g hg=>he.block g (Rel.old r hS g hg)) fun g hg=>Bs.of r hS (fun x hx=>List.mem_cons_of_mem _ hx) RV hg;replace hV:=dR.cK (S':=Bs FF w.heap.size ((Pn.heap.size,PJ.heap.size)::iv) v2) (dR.cJ (dR.rel hV r (cC w)) fun g hg=>he.block g (Rel.old r (cC w) g hg)) fun g hg=>Bs.of r (cC w) (fun x hx=>List.mem_cons_of_mem _ hx) RV hg;replace hK:=dh.cK (S':=Bs FF w.heap.size ((Pn.heap.size,PJ.heap.size)::iv) v2) (dh.cJ (dh.rel hK r (cC w)) fun g hg=>he.block g (Rel.old r (cC w) g hg)) fun g hg=>Bs.of r (cC w) (fun x hx=>List.mem_cons_of_mem _ hx) RV hg;have hX:=RV.dB (S:=FF) r.cD (iv:=(Pn.heap.size,PJ.heap.size)::iv) aG;generalize (Pn.heap.size,PJ.heap.size)::iv=OG at*
  obtain⟨ax,cx,rfl,Sf⟩:=hX.row.form;obtain⟨gx,rfl⟩:=hX.at hn0;refine cF (cO (Φ:=fun _ w' v w2=>cT w2 (Nf w' w2) v ((1:Int):Rat)) (fun O w' r=>jM 1 w' (by decide) (by decide)) ?_);rintro O PH v3 PD r he Oe RV;replace hw:=hw.tr Oe;replace hR:=cR.cK (S':=Bs S w.heap.size ((PH.heap.size,PD.heap.size)::OG) (.slice (some ⟨gx,0,none⟩) n cx)) (cR.cJ (cR.cJ hR (Bs.same r hS)) fun g hg=>he.block g (Rel.old r hS g hg.1)) fun g hg=>Bs.mono (fun x hx=>List.mem_cons_of_mem _ hx) hg;replace hV:=dR.cK (S':=Bs FF w.heap.size ((PH.heap.size,PD.heap.size)::OG) (.slice (some ⟨gx,0,none⟩) n cx)) (dR.cJ (dR.cJ hV (Bs.same r (cC w))) fun g hg=>he.block g (Rel.old r (cC w) g hg.1)) fun g hg=>Bs.mono (fun x hx=>List.mem_cons_of_mem _ hx) hg;replace hK:=dh.cK (S':=Bs FF w.heap.size ((PH.heap.size,PD.heap.size)::OG) (.slice (some ⟨gx,0,none⟩) n cx)) (dh.cJ (dh.cJ hK (Bs.same r (cC w))) fun g hg=>he.block g (Rel.old r (cC w) g hg.1)) fun g hg=>Bs.mono (fun x hx=>List.mem_cons_of_mem _ hx) hg;have hd:=(RV.cK (S':=Bs FF w.heap.size ((PH.heap.size,PD.heap.size)::OG) (.slice (some ⟨gx,0,none⟩) n cx)) fun g hg=>hg.elim (fun h=>h.elim) fun h=>⟨.inr ⟨by have:=r.cD;omega,_,_,aG,h.1,h.2⟩,fun e=>by have:=Rel.old r (cC w) g (hX.new g e);omega⟩)
  replace hX:=hX.cG (iv':=(PH.heap.size,PD.heap.size)::OG) r (cC w) he fun x hx=>List.mem_cons_of_mem _ hx;generalize (PH.heap.size,PD.heap.size)::OG=ON at*
  obtain⟨A0,A1,A2,A3,A4,A5,A6,A7,rfl⟩:=hd.shape;refine⟨⟨gx,0,none⟩,rfl,by omega,?_⟩;intro O w' r;obtain⟨g,hg,h1,h2,h3,h4,h5⟩:=(hX.rel r (cC w)).store (j:=c) Pq (hd.cJ (Bs.same r (cC w))) r (cC w);injection hg with hg;injection hg with hg;subst hg;refine⟨h1,h2,h3,fun w5 QZ=>?_⟩;obtain⟨k1,k2,k3⟩:=h5 w5 QZ;have Oz:eE w.heap.size w w5:=(hw.tr r.cQ).tr (eE.grown k2 (fun g e=>by injection e with e;subst e;exact h4.elim (fun h=>h.elim) fun h=>h.1) r.cD);have Ql:=cR.cJ hR (Bs.kept r hS k2 fun g e=>e);have hV2:=dR.cJ hV (Bs.kept r (cC w) k2 fun g e=>e);have Qe:=dh.cJ hK (Bs.kept r (cC w) k2 fun g e=>e);have OL:(List.replicate n (0:Rat)).set c ((1:Int):Rat)=gI A pv n c 0:=rfl;rw[OL]at k1
  refine⟨Nat×World×Iv,fun z=>⟨[(49,iN z.1),(8,iN c),(9,.o (.v (.slice (some ⟨gx,0,none⟩) n cx))),(32,iN c),(47,sV ap pv.length cp),(48,iZ pv.length),(7,.o (.w 3 rv.length)),(1,pP 0 0),(3,pP 1 0),(4,.o (.s 2 0 n n)),(31,iZ n)],[(2,.arr T.bool (sj pv n pv.length)),(3,.vec T.gA 1 rv),(1,.box T.dX [.v (.slice ar A.length cr),.v (.int .i64 n),.v (.slice ap pv.length cp),.v (.slice af (dT M n).2.2.length cf)]),(0,.box T.dw [.v (.slice am M.length cm),.v (.int .i64 n)])],4,z.2.2,z.2.1⟩,fun z=>pv.length-z.1,
   fun z=>z.1<=pv.length∧eE w.heap.size w z.2.1∧cR z.2.1 (Bs S w.heap.size z.2.2 (.slice (some ⟨gx,0,none⟩) n cx)) (.slice ar A.length cr) A∧dR z.2.1 (Bs FF w.heap.size z.2.2 (.slice (some ⟨gx,0,none⟩) n cx)) (.slice ap pv.length cp) pv∧dh z.2.1 (Bs FF w.heap.size z.2.2 (.slice (some ⟨gx,0,none⟩) n cx)) rv (eU A pv n c)∧dg z.2.1 FF w.heap.size z.2.2 (.slice (some ⟨gx,0,none⟩) n cx) n (gI A pv n c z.1),?_,?_⟩
  ·intro O w' r3;exact⟨(0,w',_),⟨aQ _,Oz.tr r3.cQ,cR.cJ Ql (Bs.same r3 hS),dR.cJ hV2 (Bs.same r3 (cC w)),dh.cJ Qe (Bs.same r3 (cC w)),k1.rel r3 (cC w)⟩,Sub.gn [] r3⟩
  rintro⟨k,w3,iv⟩ ⟨hk,hw,hR,hV,hK,hX⟩;dsimp only at hk hw hR hV hK hX ⊢;refine dK.mk ?_ ?_<;>intro OH
  ·have OH:k<pv.length:=by simpa using OH
   obtain⟨p,hp⟩:∃p,pv[k]? =some p:=⟨_,aB OH⟩
   have Qz:=f4 p (aC hp);obtain⟨adp,Qr,kp1,kp2⟩:=hV.at hp;obtain⟨x,hx⟩:∃x,A[k]? =some x:=⟨_,aB (by omega)⟩
   have PZ:=f3 x (aC hx);obtain⟨q,hq⟩:∃q,x[c]? =some q:=⟨_,aB (by omega)⟩
   have QJ:dD A k c=q:=by simp[dD,List.getD,hx,hq]
   have UM:=hAb x (aC hx) q (aC hq);obtain⟨adm,um,Qd,Oh,km1,km2⟩:=dM.load hR hx;obtain⟨a0,c0,rfl,Tu,-⟩:=cY.shape Oh;obtain⟨adq,cs,TG,hF,_,hl⟩:=cY.load Oh hq;obtain⟨g0,g1,g2,g3,g4,g5,g6,g7,rfl,hF⟩:=hF;refine⟨adp,Qr,by omega,.int .i64 (p:Int),fun O w' r=>?_,?_⟩
   ·rw[aE,cH (w:=w3) (w2:=w') (by rw[dN];exact Rel.same r (cC w) kp1.1)];exact kp2
   refine⟨adm,Qd,by omega,.slice a0 x.length c0,fun O w' r=>?_,?_⟩
   ·rw[aE,cH (w:=w3) (w2:=w') (by rw[dN];exact Rel.same r hS km1.1)];exact km2
   refine⟨adq,TG,by omega,[.bool g0,.slice g1 g2 g3,.bool g4,.slice g5 g6 g7],rfl,fun O w' r j u hu=>?_,?_⟩
   ·obtain⟨k1,k2⟩:=hl j u hu;rw[aE,cH (w:=w3) (w2:=w') (by rw[dN,dN];exact Rel.same r hS k1.1)];exact k2
   refine cF (cO (Φ:=fun _ w' v w2=>cT w2 (Nf w' w2) v (-q)) (fun O w' r=>LF (S:=Bs S w.heap.size iv (.slice (some ⟨gx,0,none⟩) n cx)) (fun g hg=>Rel.old r hS g hg.1) ((hF.cJ (Bs.same r hS)).l (by omega))) ?_);rintro O Qw v4 Qk r he Oe RV;replace hw:=hw.tr Oe;replace hR:=cR.cK (S':=Bs S w.heap.size ((Qw.heap.size,Qk.heap.size)::iv) (.slice (some ⟨gx,0,none⟩) n cx)) (cR.cJ (cR.cJ hR (Bs.same r hS)) fun g hg=>he.block g (Rel.old r hS g hg.1)) fun g hg=>Bs.mono (fun x hx=>List.mem_cons_of_mem _ hx) hg;replace hV:=dR.cK (S':=Bs FF w.heap.size ((Qw.heap.size,Qk.heap.size)::iv) (.slice (some ⟨gx,0,none⟩) n cx)) (dR.cJ (dR.cJ hV (Bs.same r (cC w))) fun g hg=>he.block g (Rel.old r (cC w) g hg.1)) fun g hg=>Bs.mono (fun x hx=>List.mem_cons_of_mem _ hx) hg;replace hK:=dh.cK (S':=Bs FF w.heap.size ((Qw.heap.size,Qk.heap.size)::iv) (.slice (some ⟨gx,0,none⟩) n cx)) (dh.cJ (dh.cJ hK (Bs.same r (cC w))) fun g hg=>he.block g (Rel.old r (cC w) g hg.1)) fun g hg=>Bs.mono (fun x hx=>List.mem_cons_of_mem _ hx) hg;have hd:=(RV.cK (S':=Bs FF w.heap.size ((Qw.heap.size,Qk.heap.size)::iv) (.slice (some ⟨gx,0,none⟩) n cx)) fun g hg=>hg.elim (fun h=>h.elim) fun h=>⟨.inr ⟨by have:=r.cD;omega,_,_,aG,h.1,h.2⟩,fun e=>by have:=Rel.old r (cC w) g (hX.new g e);omega⟩)
   replace hX:=hX.cG (iv':=(Qw.heap.size,Qk.heap.size)::iv) r (cC w) he fun x hx=>List.mem_cons_of_mem _ hx;generalize (Qw.heap.size,Qk.heap.size)::iv=OZ at*
   obtain⟨C0,C1,C2,C3,C4,C5,C6,C7,rfl⟩:=hd.shape;refine⟨⟨gx,0,none⟩,rfl,by omega,?_⟩;intro O w' r;obtain⟨g,hg,h1,h2,h3,h4,h5⟩:=(hX.rel r (cC w)).store (j:=p) (by omega) (hd.cJ (Bs.same r (cC w))) r (cC w);injection hg with hg;injection hg with hg;subst hg;refine⟨h1,h2,h3,fun w5 QZ=>?_⟩;obtain⟨k1,k2,k3⟩:=h5 w5 QZ;have Oz:eE w.heap.size w w5:=(hw.tr r.cQ).tr (eE.grown k2 (fun g e=>by injection e with e;subst e;exact h4.elim (fun h=>h.elim) fun h=>h.1) r.cD);have Ql:=cR.cJ hR (Bs.kept r hS k2 fun g e=>e);have hV2:=dR.cJ hV (Bs.kept r (cC w) k2 fun g e=>e);have Qe:=dh.cJ hK (Bs.kept r (cC w) k2 fun g e=>e);have OL:(gI A pv n c k).set p (-q)=gI A pv n c (k+1):=by rw[gz,QJ,List.getD,hp];rfl
   rw[OL]at k1;refine⟨((k+1:Nat):Int),wo,?_⟩;intro ρ3 w6 r3;exact⟨(k+1,w6,_),⟨OH,Oz.tr r3.cQ,cR.cJ Ql (Bs.same r3 hS),dR.cJ hV2 (Bs.same r3 (cC w)),dh.cJ Qe (Bs.same r3 (cC w)),k1.rel r3 (cC w)⟩,Sub.gn [] r3,by dsimp only;omega⟩
  have OH:k=pv.length:=aO hk (by simpa using OH);rw[OH]at hX;replace hR:=cR.cK hR fun g hg=>hg.1;replace hV:=dR.cK hV fun g hg=>hg.1;replace hK:=(dh.cK hK fun g hg=>hg.1).push (u:=(.slice (some ⟨gx,0,none⟩) n cx)) (x:=gI A pv n c pv.length) rfl (by have:=hX.c;exact this);rw[<-Da hm]at hK;refine .inl ?_;refine⟨by simp,by omega,by unfold maxLen;omega,((c+1:Nat):Int),wo,?_⟩;intro ρ3 w3 r3;exact⟨(c+1,rv++[(.slice (some ⟨gx,0,none⟩) n cx)],w3,_),⟨Pq,hw.tr r3.cQ,cR.rel hR r3 hS,dR.rel hV r3 (cC w),hK.rel r3 (cC w)⟩,Sub.gn [(3,5)] r3 (hE:=⟨rfl,by dsimp only;rw[List.length_append,List.length_singleton];rfl,rfl,rfl,rfl,rfl,trivial⟩),by dsimp only;omega⟩
 have Pq:c=n:=aO hc (by simpa using Pq);subst Pq;intro ρe we re;refine⟨_,rfl,hw.tr re.cQ,rv,?_,hK.1,fun i u x k1 k2=>cI.cK (cI.rel (hK.2.2 i u x k1 k2) re (cC w)) fun g hg=>Cv.nw hg re⟩;rw[<-hK.1];exact(re.iG (id:=3) (sz:=1) (m:=rv.length) rfl (by simp) (by unfold maxLen;omega) (by decide) hK.2.1).cK fun g hg=>.inr hg
structure im(w:World)(S:Nat->Prop)(B:Nat)(iv:Iv)(v:Value)(n i:Nat)(qs:List Rat):Prop where
 row:∃css,w.ownsRow 0 T.Rat 4 v n css.flatten∧fw w (Bs S B iv v) n i css qs
 new:∀g,v.ownBlock=some g->Cv FF B iv g
section
variable{S S':Nat->Prop}{H:Hp}{nx n i:Nat}{iv iv':Iv}{B:Nat}{w w' w2:World}{O:Nat->Sx.dx}{v:Value}{qs:List Rat}
theorem im.cJ(h:im w S B iv v n i qs)(hk:∀g,Cv S B iv g->w2.heap[g]? =w.heap[g]?):im w2 S B iv v n i qs:=by
 obtain⟨⟨css,h1,h2⟩,h3⟩:=h;exact⟨⟨css,ownsRow.cJ h1 fun g hg=>hk g (D7 (h3 g hg)),h2.cJ fun g hg=>hk g hg.1⟩,h3⟩
theorem im.rel(h:im w S B iv v n i qs)(r:Rel H nx iv B w O w')(hS:∀g,S g->g<B):im w' S B iv v n i qs:=h.cJ fun _ hg=>Rel.same r hS hg
theorem im.mono(h:im w S B iv v n i qs)(hm:∀p,p∈iv->p∈iv'):im w S B iv' v n i qs:=by
 obtain⟨⟨css,h1,h2⟩,h3⟩:=h;exact⟨⟨css,h1,h2.cK fun g hg=>hg.mono hm⟩,fun g hg=>(h3 g hg).mono hm⟩
theorem im.cG(h:im w S B iv v n i qs)(r:Rel H nx iv B w O w')(hS:∀g,S g->g<B)(he:Ext w' w2)(hm:∀p,p∈iv->p∈iv'):im w2 S B iv' v n i qs:=
 ((h.rel r hS).cJ fun g hg=>he.block g (Rel.old r hS g hg)).mono hm
theorem im.kA(r:Rel H nx iv B w O w')(h:dF H id=some (.arr T.Rat (List.replicate n [Value.bool false,.slice none 0 0,.bool false,.slice none 0 0]).flatten))(hn:n<=maxLen)(qs:List Rat):
  im w' S B (((O id).g,(O id).g+1)::iv) (.slice (some ⟨(O id).g,0,none⟩) n n) n 0 qs:=by
 have PA:=(r.fits h).1;have h4:∀cs∈List.replicate n [Value.bool false,.slice none 0 0,.bool false,.slice none 0 0],cs.length=4:=fun cs hc=>by rw[bP hc];rfl
 have hf:=eY h4;rw[bG]at hf;refine⟨⟨List.replicate n [.bool false,.slice none 0 0,.bool false,.slice none 0 0],⟨hf,.inr ⟨(O id).g,n,_,rfl,aQ _,r.arr id _ _ h,aF _,hn,by simp,by rw[<-hf];exact bD⟩⟩,fw.start w' _ n qs⟩,fun g hg=>?_⟩;injection hg with hg;have hg:(O id).g=g:=hg;subst hg;exact .inr ⟨(r.low id _ h PA).1,_,_,aG,aF _,bZ _⟩
theorem im.store{a1 a2:Option Addr}{n1 c1 n2 c2:Nat}{b b2:Bool}(h:im w S B iv (.slice a n c) n j qs)(hj:j<n)(hq:qs[j]? =some q)(hf:cT w (Bs S B iv (.slice a n c)) (.agg #[.bool b,.slice a1 n1 c1,.bool b2,.slice a2 n2 c2]) q)
  (r:Rel H nx iv B w O w') (hS:∀g,S g->g<B):
  ∃g,a=some ⟨g,0,none⟩∧((⟨g,0,none⟩:Addr).add ((j:Int).toNat*4)).spot=none∧
   (∀k,k<4->(w'.cell? (((⟨g,0,none⟩:Addr).add ((j:Int).toNat*4)).add k)).isSome=true∧w'.frozen? (((⟨g,0,none⟩:Addr).add ((j:Int).toNat*4)).add k)=false)∧
   (∀id b,dF H id=some b->(O id).nil=false->(O id).g≠((⟨g,0,none⟩:Addr).add ((j:Int).toNat*4)).block)∧
   ∀w2,w2=setCells w' ((⟨g,0,none⟩:Addr).add ((j:Int).toNat*4)) [.bool b,.slice a1 n1 c1,.bool b2,.slice a2 n2 c2]->im w2 S B iv (.slice a n c) n (j+1) qs∧w'.grownBy w2 (some g)∧eE B w' w2∧Rel H nx iv B w2 O w2:=by
 obtain⟨⟨css,h1,h2⟩,h3⟩:=h.rel r hS;have hf:=hf.cJ (Bs.same r hS);obtain⟨g,rfl,OF,QX,PV,Oy⟩:=pT (nv:=[.bool b,.slice a1 n1 c1,.bool b2,.slice a2 n2 c2]) h1 rfl hj rfl (by decide);have OY:(⟨g,0,none⟩:Addr).add ((j:Int).toNat*4)=⟨g,j*4,none⟩:=by rw[aE,dV,aR]
 have Q4:=Rel.not r (gQ B) (h3 g rfl);refine⟨g,rfl,by rw[OY],fun k hk=>by rw[OY];exact OF k hk,fun id b hb hn=>by rw[OY];exact Q4 id b hb hn,fun w2 Oz=>?_⟩;rw[OY]at Oz;subst Oz;have UP:=jN (cs:=[.bool b,.slice a1 n1 c1,.bool b2,.slice a2 n2 c2]) h2.four (show j<css.length by rw[h2.len];exact hj);rw[UP]at QX;have QY:∀x,Bs S B iv (.slice (some ⟨g,0,none⟩) n c) x->(setCells w' ⟨g,j*4,none⟩ [.bool b,.slice a1 n1 c1,.bool b2,.slice a2 n2 c2]).heap[x]? =w'.heap[x]? :=fun x hx=>
  PV.block x (Rel.old r hS x hx.1) fun e=>hx.2 e.symm
 refine⟨⟨⟨_,QX,(h2.cJ QY).next hj hq (hf.cJ QY)⟩,h3⟩,PV,eE.grown PV (fun x e=>by injection e with e;subst e;exact(h3 g rfl).elim (fun h=>h.elim) fun h=>h.1) r.cD,r.yg Q4 PV⟩
theorem im.done(h:im w S B iv v n n qs)(hl:qs.length=n):dg w S B iv v n qs:=by
 obtain⟨⟨css,h1,h2⟩,h3⟩:=h;exact⟨⟨css,h1,h2.len,by rw[h2.len,hl],fun j cs q k1 k2=>h2.at_ j cs q (by rw[<-hl];exact(aD.1 k2).1) k1 k2⟩,h3⟩
end
theorem kI(M:List (List Rat))(n:Nat):(cd M n).length=n:=by simp[cd]
theorem JF{k:Nat}(h:k<n):(cd M n)[k]? =some (M.map fun r=>r.getD k 0):=by rw[cd,aM,bq h];rfl
set_option maxHeartbeats 1000000 in
theorem mr(hC:Old C w)(hS:Old S w)(hM:kz w C S v M)(hlen:fZ n M)(hn:n<=1000)(hR:M.length<=1000):
  eA PG N.jK #[.agg #[v,.int .i64 n]] w (eF w fun v' w2=>∃vr,v'= .agg #[vr,.int .i64 M.length]∧cR w2 (Nw S w w2) vr (cd M n)):=by
 have hw:=bR w;obtain⟨am,cm,rfl,Rk,Qg⟩:=kz.shape hM;unfold maxLen at Qg;refine kv (by simp) ?_
 refine⟨Nat×List Value×World×Iv,fun z=>⟨[(13,iN z.1),(1,pP 0 0),(2,pP 1 0),(3,pP 2 0),(12,iZ n)],[(2,.box T.dw [.w 3 z.2.1.length,.v (.int .i64 M.length)]),(3,.vec T.gA 1 z.2.1),(1,.box T.dw [.v (.slice none 0 0),.v (.int .i64 0)]),(0,.box T.dw [.v (.slice am M.length cm),.v (.int .i64 n)])],4,z.2.2.2,z.2.2.1⟩,fun z=>n-z.1,
  fun z=>z.1<=n∧eE w.heap.size w z.2.2.1∧dh z.2.2.1 (Cv S w.heap.size z.2.2.2) z.2.1 ((cd M n).take z.1),?_,?_⟩
 ·intro O w' r;exact⟨(0,[],w',[]),⟨aQ _,hw.tr r.cQ,by simp[dh]⟩,Sub.BT 2 0 T.gA 1 rfl rfl (by simp[j8,SV.sc,At.sc,fa]) r fun ρ1 r1=>Sub.gn [] r1⟩
 rintro⟨k,rv,w1,iv⟩ ⟨hk,hw,hK⟩;dsimp only at hk hw hK ⊢;have Of:rv.length=k:=by rw[hK.1,aW,kI];omega
 refine dK.mk ?_ ?_<;>intro OH
 ·have OH:k<n:=by simpa using OH
  have Tz:=JF (M:=M) OH;have OL:(cd M n).take (k+1)=(cd M n).take k++[M.map fun r=>r.getD k 0]:=by rw[List.take_add_one,Tz];rfl
  refine⟨M.length,M.length,rfl,rfl,aF _,by omega,by omega,Nat×Nat×World×Iv,fun z=>⟨[(5,.o (.v (.slice (some ⟨z.2.1,0,none⟩) M.length M.length))),(4,iN k),(13,iN k),(22,iZ M.length),(23,iN z.1),(1,pP 0 0),(2,pP 1 0),(3,pP 2 0),(12,iZ n)],[(2,.box T.dw [.w 3 rv.length,.v (.int .i64 M.length)]),(3,.vec T.gA 1 rv),(1,.box T.dw [.v (.slice none 0 0),.v (.int .i64 0)]),(0,.box T.dw [.v (.slice am M.length cm),.v (.int .i64 n)])],5,z.2.2.2,z.2.2.1⟩,fun z=>M.length-z.1,
   fun z=>z.1<=M.length∧eE w.heap.size w z.2.2.1∧dh z.2.2.1 (Bs S w.heap.size z.2.2.2 (.slice (some ⟨z.2.1,0,none⟩) M.length M.length)) rv ((cd M n).take k)∧im z.2.2.1 S w.heap.size z.2.2.2 (.slice (some ⟨z.2.1,0,none⟩) M.length M.length) M.length z.1 (M.map fun r=>r.getD k 0),?_,?_⟩
  ·intro O w' r;have hf:=im.kA (S:=S) (n:=M.length) r (id:=4) rfl (by unfold maxLen;omega) (M.map fun r=>r.getD k 0)
   exact⟨(0,(O 4).g,w',((O 4).g,(O 4).g+1)::iv),⟨aQ _,hw.tr r.cQ,dh.cK (hK.rel r hS) fun g hg=>⟨hg.mono fun p hp=>List.mem_cons_of_mem _ hp,fun e=>Rel.not r hS hg 4 _ rfl (r.fits (id:=4) rfl).1 (by injection e)⟩,hf⟩,
    Sub.kA r (id:=4) (t:=5) rfl rfl ⟨rfl,rfl,rfl,rfl,trivial⟩ rfl ⟨rfl,rfl,rfl,rfl,rfl,rfl,rfl,rfl,trivial⟩ (by simp[j8,SV.sc,At.sc])⟩
  rintro⟨i,gx,w2,iv⟩ ⟨hi,hw,hK,hX⟩;dsimp only at hi hw hK hX ⊢;refine dK.mk ?_ ?_<;>intro OC
  ·have OC:i<M.length:=by simpa using OC
   obtain⟨x,hx⟩:∃r,M[i]? =some r:=⟨_,aB OC⟩
   have PZ:=hlen x (aC hx);obtain⟨q,hq⟩:∃q,x[k]? =some q:=⟨_,aB (by omega)⟩
   have Tt:x.getD k 0=q:=by rw[List.getD,hq];rfl
   obtain⟨adm,um,Qd,Oh,km1,km2⟩:=kz.load hM hx;obtain⟨a0,c0,rfl,Tu,-⟩:=cY.shape Oh;obtain⟨adq,cs,TG,hF,_,hl⟩:=cY.load Oh hq;obtain⟨g0,g1,g2,g3,g4,g5,g6,g7,rfl,hF⟩:=hF;refine⟨adm,Qd,by omega,.slice a0 x.length c0,rd1 km2 hw (hC _ km1),adq,TG,by omega,[.bool g0,.slice g1 g2 g3,.bool g4,.slice g5 g6 g7],rfl,rdO hl hw hS,⟨gx,0,none⟩,rfl,by omega,?_⟩;intro O w' r
   have R5:cT w2 (Bs S w.heap.size iv (.slice (some ⟨gx,0,none⟩) M.length M.length)) (.agg #[.bool g0,.slice g1 g2 g3,.bool g4,.slice g5 g6 g7]) q:=(hF.cJ fun g hg=>hw.block g (hS g hg)).cK fun g hg=>⟨.inl hg,fun e=>by
    have h1:=hS g hg;rcases hX.new g e with h2|⟨h2,_⟩
    ·exact h2
    ·omega⟩
   obtain⟨g,hg,h1,h2,h3,h4⟩:=hX.store (j:=i) OC (by rw[aM,hx,<-Tt];rfl) R5 r hS;injection hg with hg;injection hg with hg;subst hg;refine⟨h1,h2,h3,fun w5 QZ=>?_⟩;obtain⟨k1,k2,k3,k4⟩:=h4 w5 QZ;have Oz:=(hw.tr r.cQ).tr k3;have Qe:=dh.cJ hK (Bs.kept r hS k2 fun g e=>e);refine⟨((i+1:Nat):Int),wo,?_⟩;intro ρ3 w6 r3;exact⟨(i+1,gx,w6,_),⟨OC,Oz.tr r3.cQ,dh.cJ Qe (Bs.same r3 hS),k1.rel r3 hS⟩,Sub.gn [] r3,by dsimp only;omega⟩
  have OC:i=M.length:=aO hi (by simpa using OC);rw[OC]at hX;have hX2:=(hX.done (by simp)).c;replace hK:=(dh.cK hK fun g hg=>hg.1).push (u:=(.slice (some ⟨gx,0,none⟩) M.length M.length)) (x:=M.map fun r=>r.getD k 0) rfl hX2;rw[<-OL]at hK;refine .inl ?_;refine⟨by simp,by omega,by unfold maxLen;omega,((k+1:Nat):Int),wo,?_⟩;intro ρ3 w3 r3;exact⟨(k+1,rv++[(.slice (some ⟨gx,0,none⟩) M.length M.length)],w3,_),⟨OH,hw.tr r3.cQ,hK.rel r3 hS⟩,Sub.gn [(3,6)] r3 ⟨by dsimp only;rw[List.length_append,List.length_singleton];rfl,rfl,rfl,rfl,trivial⟩,by dsimp only;omega⟩
 have OH:k=n:=aO hk (by simpa using OH);rw[List.take_of_length_le (by rw[kI];omega)]at hK;intro ρe we re;refine⟨_,rfl,hw.tr re.cQ,_,rfl,rv,?_,hK.1,fun i u x k1 k2=>cI.cK (cI.rel (hK.2.2 i u x k1 k2) re hS) fun g hg=>Cv.nw hg re⟩;rw[<-hK.1];exact(re.iG (id:=3) (sz:=1) (m:=rv.length) rfl (by simp) (by unfold maxLen;omega) (by decide) hK.2.1).cK fun g hg=>.inr hg
end Go.Ex
