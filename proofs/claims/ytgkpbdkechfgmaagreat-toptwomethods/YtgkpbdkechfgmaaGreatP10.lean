/- Texts X89 to XTg: lemmas, each with its conditions. -/
import Derived.Test.YtgkpbdkechfgmaaGreatP9
namespace Go.Ex
open Go Go.Sx Go.Proofs
variable{Fn M:List (List Rat)}{qs xs ys:List Rat}{W:List Value}{h:Nat}{C S:Nat->Prop}{a:Option Addr}{p q:Rat}{u v:Value}{w:World}
theorem aAu(X:Old S w)(F:eD w S v xs)(hy:eD w S u ys)(hl:xs.length=ys.length)(hqx:∀q∈xs,rl q+1<=h)(hqy:∀q∈ys,rl q+1<=h)(G:2<=h)(hb:2*h*xs.length<=90000):
  eI PG F'.Cn #[v,u] w (eO w fun v' V=>dA V (Nf w V) v' (e7 xs ys xs.length)):=by
 have I:=bR w;obtain⟨ax,cx,rfl,XW,hmx⟩:=F.shape;obtain⟨ay,cy,rfl,hcy,-⟩:=hy.shape;unfold maxLen at hmx;refine Dy (by simp) ?_;refine cJ (cE I (fun _ J v V=>dA V (Nf J V) v (((0:Int):Rat))) (fun O J r=>Gm 0 J (by decide) (by decide)) ?_);rintro O _ _ _ Oo r U I h_ R;have hd:=R.dK (S:=FF) r.cI (mN h_);obtain⟨A0,A1,A2,A3,A4,A5,A6,A7,rfl⟩:=hd.shape;rw[show ((0:Int):Rat)=e7 xs ys 0 from rfl]at hd
 refine⟨Nat×(Bool×Bool)×(Option Addr×Option Addr)×(Nat×Nat×Nat×Nat)×World×Iv,fun z=>⟨[(0,sV ax xs.length cx),(1,sV ay ys.length cy),(4,pP 0 0),(5,pP 1 0),(6,iN z.1)],[(1,.box T.Rat [.v (.bool z.2.1.1),.v (.slice z.2.2.1.1 z.2.2.2.1.1 z.2.2.2.1.2.1),.v (.bool z.2.1.2),.v (.slice z.2.2.1.2 z.2.2.2.1.2.2.1 z.2.2.2.1.2.2.2)]),(0,.box T.Rat [.v (.bool false),.v (.slice none 0 0),.v (.bool false),.v (.slice none 0 0)])],2,z.2.2.2.2.2,z.2.2.2.2.1⟩,fun z=>xs.length-z.1,
  fun z=>z.1<=xs.length/\dw w.heap.size w z.2.2.2.2.1/\dA z.2.2.2.2.1 (Cf w z.2.2.2.2.2) (.agg #[.bool z.2.1.1,.slice z.2.2.1.1 z.2.2.2.1.1 z.2.2.2.1.2.1,.bool z.2.1.2,.slice z.2.2.1.2 z.2.2.2.1.2.2.1 z.2.2.2.1.2.2.2]) (e7 xs ys z.1),?_,?_⟩
 ·intro O J r;exact⟨(0,(A0,A4),(A1,A5),(A2,A3,A6,A7),J,Oo),⟨by simp,I.tr r.cU,hd.rel r (cH w)⟩,Sub.gn [] r⟩
 rintro⟨i,⟨p0,p4⟩,⟨p1,p5⟩,⟨p2,p3,p6,p7⟩,w1,iv⟩ ⟨A,I,hd⟩;dsimp only at A I hd ⊢;refine dQ.mk ?_ ?_<;>intro OZ
 ·have OZ:i<xs.length:=by simpa using OZ
  have hs:=qm hqx hqy G i;have Qm:2*h*i<=2*h*xs.length:=bY _ A;have hs3:2*h*1<=2*h*xs.length:=bY _ (by omega);obtain⟨x,QK⟩:∃x,xs[i]? =some x:=⟨_,aA OZ⟩
  obtain⟨y,TB⟩:∃x,ys[i]? =some x:=⟨_,aA (by omega)⟩
  have hx3:=hqx x (aC QK);have hy3:=hqy y (aC TB);have RP:xs.getD i 0=x:=by rw[List.getD,QK];rfl
  have hy2:ys.getD i 0=y:=by rw[List.getD,TB];rfl
  have hm:=iA x y;obtain⟨adx,csx,QE,RQ,-,PU⟩:=dV.load F QK;obtain⟨ady,csy,VD,Rs,-,Qu⟩:=dV.load hy TB;obtain⟨f0,f1,f2,f3,f4,f5,f6,f7,rfl,RQ⟩:=RQ;obtain⟨q0,q1,q2,q3,q4,q5,q6,q7,rfl,Rs⟩:=Rs;refine cR hτ dx [.x 0,.x 1,.x 2,.x 3,.x 4,.x 5,.x 6,.x 7,.x 8,.x 9,.x 10,.x 11] (by kernel_rfl) (by kernel_rfl) ?_;refine⟨adx,QE,by omega,[.bool f0,.slice f1 f2 f3,.bool f4,.slice f5 f6 f7],rfl,rdO PU I X,ady,VD,by omega,[.bool q0,.slice q1 q2 q3,.bool q4,.slice q5 q6 q7],rfl,rdO Qu I X,?_⟩;refine cE I (fun _ J v V=>dA V (Nf J V) v (x*y)) (fun O J r=>Ei (oS X r) (RQ.cK (kS I r X)) (Rs.cK (kS I r X))) ?_;rintro O _ _ _ Od r U I h_ R;replace hd:=hd.cM r (cH w) U (mC h_);have hp:=R.dK (S:=FF) r.cI (mN h_);obtain⟨C0,C1,C2,C3,C4,C5,C6,C7,rfl⟩:=hp.shape;refine cE I (fun _ J v V=>dA V (Nf J V) v (e7 xs ys i+x*y)) (fun O J r=>ID (Rel.old r (cH w)) ((hd.rel r (cH w)).l (by omega)) ((hp.rel r (cH w)).l (by omega))) ?_;rintro O _ _ _ Oq r U I h_ R;have Pn:=R.dK (S:=FF) r.cI (mN h_);obtain⟨E0,E1,E2,E3,E4,E5,E6,E7,rfl⟩:=Pn.shape;rw[show e7 xs ys i+x*y=e7 xs ys (i+1) by rw[e7,RP,hy2]]at Pn;refine⟨((i+1:Nat):Int),wo,?_⟩;intro GT w3 E;exact⟨(i+1,(E0,E4),(E1,E5),(E2,E3,E6,E7),w3,_),⟨OZ,I.tr E.cU,Pn.rel E (cH w)⟩,Sub.gn [] E,by dsimp only;omega⟩
 have OZ:i=xs.length:=aR A (by simpa using OZ);subst OZ;exact rtn I fun IR we re=>hd.out re (cH w)
section
variable{S:Nat->Prop}{H:Hp}{nx:Nat}{iv K:Iv}{B:Nat}{w J V:World}{O:Nat->Sx.dq}{Z:List (List Value)}{qs:List Rat}
theorem Fc.rel(h:Fc w (Cv S B iv) Z qs)(r:Rel H nx iv B w O J)(X:∀g,S g->g<B):Fc J (Cv S B iv) Z qs:=h.cK fun _ Y=>Rel.same r X Y
theorem Fc.cM(h:Fc w (Cv S B iv) Z qs)(r:Rel H nx iv B w O J)(X:∀g,S g->g<B)(U:Ext J V)(hm:∀p,p∈iv->p∈K):Fc V (Cv S B K) Z qs:=
 ((h.rel r X).cK fun g Y=>U.block g (Rel.old r X g Y)).cN fun _ Y=>Y.mono hm
theorem Fc.push(h:Fc w S Z qs)(hc:jD w S W q):Fc w S (Z++[W]) (qs++[q]):=by
 refine⟨by simp[h.1],fun j x p L G=>?_⟩;rcases aO j Z.length with A|A
 ·rw[aI A]at L;rw[aI (by rw[<-h.1];exact A)]at G;exact h.2 j x p L G
 ·have SR:j=Z.length:=by have:=(aD.1 L).1;simp at this;omega
  subst SR;rw[aM (Nat.le_refl _),bJ]at L;rw[h.1,aM (Nat.le_refl _),bJ]at G;simp at L G;subst L G;exact hc
end
section
variable{S S':Nat->Prop}{H:Hp}{nx:Nat}{iv K:Iv}{B:Nat}{w J V:World}{O:Nat->Sx.dq}{v:Value}{b:List (Int×Int)}
end
def jN(qs:List Rat):List (Int×Int):=qs.map fun q=>(q.num,(q.den:Int))
theorem rS(qs:List Rat):(jN qs).length=qs.length:=aJ ..
theorem rB(qs:List Rat):(jN qs).map eY=qs:=by
 unfold jN;rw[List.map_map];exact(List.map_congr_left fun q _=>pJ q).trans (List.map_id qs)
theorem Ml(Fn:List (List Rat)):ju (Fn.map jN)=Fn:=by
 unfold ju;rw[List.map_map];exact(List.map_congr_left fun q _=>rB q).trans (List.map_id Fn)
theorem cS.jN(h:cS w S v qs):eV w S v (jN qs):=by
 obtain⟨Z,L,G,N,h4⟩:=h;refine⟨Z,by unfold Go.Ex.jN;rw[aJ];exact L,by unfold Go.Ex.jN;rw[aJ];exact G,N,fun j W x k1 k2=>?_⟩;unfold Go.Ex.jN at k2;rw[aL]at k2;obtain⟨q,hq,rfl⟩:=Option.map_eq_some_iff.1 k2;obtain⟨b,a,n,c,b2,a2,n2,c2,rfl,hr⟩:=h4 j W q k1 hq;exact hr.four
theorem cV.jN(h:cV w S v Fn):eL w S v (Fn.map jN):=by
 obtain⟨rv,L,G,N⟩:=h;refine⟨rv,by rw[aJ];exact L,by rw[aJ];exact G,fun i u x k1 k2=>?_⟩;rw[aL]at k2;obtain⟨q,hq,rfl⟩:=Option.map_eq_some_iff.1 k2;exact(N i u q k1 hq).jN
theorem DK(h:∀q∈qs,rl q<=10000000000):Few (jN qs):=fun x F=>by
 obtain⟨q,hq,rfl⟩:=aU.1 F;exact⟨aW (gG q) (h q hq),aW (fR q) (h q hq)⟩
section
variable{S:Nat->Prop}{w:World}{v u:Value}{M:List (List (Int×Int))}{b:List (Int×Int)}
end
theorem cV.l(h:cV w S v Fn)(hq:∀r∈Fn,∀q∈r,rl q<=100000):DJ w S v Fn:=by
 obtain⟨rv,L,G,N⟩:=h;exact⟨rv,L,G,fun i u x k1 k2=>(N i u x k1 k2).l (hq x (aC k2))⟩
theorem nN(M:List (List Rat))(x:List Rat):(jh M x).length=M.length:=aJ ..
theorem ed.zero:ed w S (.agg #[.bool false,.slice none 0 0,.bool false,.slice none 0 0]) 0:=
 ⟨_,_,_,_,0,0,rfl,⟨false,[],⟨_,rfl,dT.nil _ _⟩,rfl,aQ _⟩,⟨false,[],⟨_,rfl,dT.nil _ _⟩,rfl,aQ _⟩,by decide⟩
theorem Mj{x:List Rat}(X:Old S w)(hM:DJ w S v M)(F:eD w S u x)(Oa:∀r∈M,r.length=x.length)(hqM:Ht M h)(hqx:∀q∈x,rl q+1<=h)(G:2<=h)(hb:2*h*x.length<=90000)(hR:M.length<=1000000):
  eI PG F'.xc #[v,u] w (eO w fun v' V=>cS V (Nf w V) v' (jh M x)):=by
 have I:=bR w;obtain⟨am,cm,rfl,So,SC⟩:=dC.shape hM;obtain⟨ax,cx,rfl,XW,-⟩:=dV.shape F;unfold maxLen at SC;refine An (by simp) ?_
 refine⟨Nat×List (List Value)×World×Iv,fun z=>⟨[(0,sV am M.length cm),(1,sV ax x.length cx),(5,.o (.w 0 z.2.1.length)),(6,iN z.1)],[(0,.vec T.Rat 4 z.2.1.flatten)],1,z.2.2.2,z.2.2.1⟩,fun z=>M.length-z.1,
  fun z=>z.1<=M.length/\dw w.heap.size w z.2.2.1/\Fc z.2.2.1 (Cf w z.2.2.2) z.2.1 ((jh M x).take z.1),?_,?_⟩
 ·intro O J r
  exact⟨(0,[],J,[]),⟨aQ _,I.tr r.cU,by simp[Fc]⟩,Sub.nil 5 T.Rat 4 rfl (by simp[jw,SV.sc,At.sc,fW]) r fun Id r1=>
   Sub.gn [] r1⟩
 rintro⟨i,Z,w1,iv⟩ ⟨A,I,hC⟩;dsimp only at A I hC ⊢;have Pu:Z.length=i:=by rw[hC.1,aX,nN];omega
 have PL:=ef hC.mR;refine dQ.mk ?_ ?_<;>intro OZ
 ·have OZ:i<M.length:=by simpa using OZ
  obtain⟨ra,UD⟩:∃r,M[i]? =some r:=⟨_,aA OZ⟩
  have XG:=Oa ra (aC UD);obtain⟨adm,um,Rn,Pj,km1,km2⟩:=dC.load hM UD;obtain⟨au,cu,rfl,hcu,-⟩:=dV.shape Pj;refine⟨adm,Rn,by omega,.slice au ra.length cu,rd1 km2 I (X _ km1),?_⟩;refine cJ (cE I (fun _ J v V=>dA V (Nf J V) v (e7 ra x ra.length)) (fun O J r=>aAu (oS X r) (eD.cK Pj ((kS I r X))) (eD.cK F ((kS I r X))) XG (hqM ra (aC UD)) hqx G (by rw[XG];exact hb)) ?_);rintro O _ _ QT Oo r U I h_ R;replace hC:=hC.cM r (cH w) U (mC h_);have hd:=R.dK (S:=FF) r.cI (mN h_);obtain⟨A0,A1,A2,A3,A4,A5,A6,A7,rfl⟩:=hd.shape;have Ud:Fc QT (Cf w Oo) (Z++[[.bool A0,.slice A1 A2 A3,.bool A4,.slice A5 A6 A7]]) ((jh M x).take (i+1)):=by
   have e:(jh M x)[i]? =some (e7 ra x ra.length):=by rw[jh,aL,UD];rfl
   rw[List.take_add_one,e];exact hC.push hd.sR
  have Qc:Z.flatten++([.bool A0,.slice A1 A2 A3,.bool A4,.slice A5 A6 A7]:List Value)=(Z++([[.bool A0,.slice A1 A2 A3,.bool A4,.slice A5 A6 A7]]:List (List Value))).flatten:=by simp
  refine .inl ?_;refine⟨by omega,by omega,by unfold maxLen;omega,((i+1:Nat):Int),wo,?_⟩;intro GT w3 E;exact⟨(i+1,Z++[[.bool A0,.slice A1 A2 A3,.bool A4,.slice A5 A6 A7]],w3,_),⟨OZ,I.tr E.cU,Ud.rel E (cH w)⟩,Sub.gn [(0,2)] E ⟨by dsimp only;rw[<-Qc];rfl,trivial⟩ ⟨rfl,rfl,by dsimp only;rw[List.length_append,List.length_singleton];rfl,rfl,trivial⟩,by dsimp only;omega⟩
 have OZ:i=M.length:=aR A (by simpa using OZ);intro IR we re;refine⟨_,rfl,I.tr re.cU,?_⟩;rw[List.take_of_length_le (by rw[nN];omega)]at hC;have h5:=re.iK (id:=0) (sz:=4) (m:=Z.length) rfl PL (by unfold maxLen;omega) (by decide) hC.one;have h6:=hC.rel re (cH w);refine⟨Z,?_,h6.1,h6.mR,fun j W q k1 k2=>(h6.2 j W q k1 k2).cN fun _ Y=>Cv.nw Y re⟩;rw[<-hC.1];exact h5.cN fun g Y=>.inr Y
section
variable{S:Nat->Prop}{w:World}{v u:Value}{M:List (List (Int×Int))}{x:List Rat}
end
theorem ql(q:Rat):rs (q-0)=rs q:=by rw[show q-0=q by grind]
theorem mB(n:Int)(w:World)(h1n: -9223372036854775808<=n)(h2n:n<=9223372036854775807):eI PG F'.sJ #[.int .i64 n] w (eO w fun v' V=>dA V (Nf w V) v' (n:Rat)):=by
 have I:=bR w;refine wL (by simp) ?_;refine cJ (cE I (fun _ J v V=>dA V (Nf J V) v ((n:Rat))) (fun O J r=>H4 n J h1n h2n) ?_);rintro O _ _ _ Oo r U I h_ R;have hd:=R.dK (S:=FF) r.cI (mN h_);obtain⟨A0,A1,A2,A3,A4,A5,A6,A7,rfl⟩:=hd.shape;exact rtn I fun IR we re=>hd.out re (cH w)
theorem rT(X:Old S w)(hq:ed w S v q):eI PG F'.uK #[v] w (eO w fun v' _=>∃d,v'= .bool d/\(d=true↔q=0)):=by
 have I:=bR w;obtain⟨f0,f1,f2,f3,f4,f5,f6,f7,rfl⟩:=hq.shape;refine yG (by simp) ?_;refine cJ (cE I (fun _ J v V=>v= .int .i64 (rs q)) (fun O J r=>(H5 (oS X r) (hq.v.cK (kS I r X)) (ed.zero (S:=S)).v).mono fun _ _ ⟨v2,e1,e2,e3⟩=>⟨v2,e1,e2,by rw[e3,ql]⟩) ?_);rintro O _ _ _ Oo r U I h_ rfl;intro IR we re;refine⟨_,rfl,I.tr re.cU,_,rfl,?_⟩;rw[beq_iff_eq];exact EM
theorem aAb(X:Old S w)(hp:ed w S v p)(hq:ed w S u q)(h0:q≠0):eI PG F'.xZ #[v,u] w (eO w fun v' V=>dA V (Nf w V) v' (p / q)):=by
 have I:=bR w;obtain⟨f0,f1,f2,f3,f4,f5,f6,f7,rfl⟩:=hp.shape;obtain⟨g0,g1,g2,g3,g4,g5,g6,g7,rfl⟩:=hq.shape;refine Ai (by simp) ?_;refine cJ (cE I (fun _ J v V=>∃r,v= .tuple #[r,.int .i64 0]/\dA V (Nf J V) r (p / q)) (fun O J r=>(aAc (oS X r) (hp.v.cK (kS I r X)) (hq.v.cK (kS I r X))).mono fun _ _ ⟨v2,e1,e2,e3⟩=>⟨v2,e1,e2,e3.elim (fun h=>absurd h.1 h0) fun h=>h.2⟩) ?_);rintro O _ _ _ Oo r U I h_ ⟨q1,rfl,k1⟩;have hd:=k1.dK (S:=FF) r.cI (mN h_);obtain⟨s1_0a,s1_0b,s1_0c,s1_0d,s1_0e,s1_0f,s1_0g,s1_0h,rfl⟩:=hd.shape;exact rtn I fun IR we re=>hd.out re (cH w)
theorem ML(X:Old S w)(hq:ed w S v q):eI PG F'.xf #[v] w (eO w fun v' V=>dA V (Nf w V) v' (-q)):=by
 have I:=bR w;obtain⟨f0,f1,f2,f3,f4,f5,f6,f7,rfl⟩:=hq.shape;refine Aq (by simp) ?_;refine cJ (cE I (fun _ J v V=>dA V (Nf J V) v (-q)) (fun O J r=>(MM (oS X r) (ed.zero (S:=S)).v (hq.v.cK (kS I r X))).mono fun _ _ ⟨v2,e1,e2,e3⟩=>⟨v2,e1,e2,by rwa [show (0:Rat)-q= -q by grind]at e3⟩) ?_);rintro O _ _ _ Oo r U I h_ R;have hd:=R.dK (S:=FF) r.cI (mN h_);obtain⟨A0,A1,A2,A3,A4,A5,A6,A7,rfl⟩:=hd.shape;exact rtn I fun IR we re=>hd.out re (cH w)
theorem MN(X:Old S w)(F:eD w S v xs)(hy:eD w S u ys)(hl:xs.length<=ys.length)(hqx:∀q∈xs,rl q+1<=h)(hqy:∀q∈ys,rl q+1<=h)(G:2<=h)(hb:2*h*xs.length<=90000):
  eI PG F'.xY #[v,u] w (eO w fun v' V=>dA V (Nf w V) v' (e7 xs ys xs.length)):=by
 have I:=bR w;obtain⟨ax,cx,rfl,XW,hmx⟩:=dV.shape F;obtain⟨ay,cy,rfl,hcy,-⟩:=dV.shape hy;unfold maxLen at hmx;refine Ah (by simp) ?_;refine cJ (cE I (fun _ J v V=>dA V (Nf J V) v (((0:Int):Rat))) (fun O J r=>mB 0 J (by decide) (by decide)) ?_);rintro O _ _ _ Oo r U I h_ R;have hd:=R.dK (S:=FF) r.cI (mN h_);obtain⟨A0,A1,A2,A3,A4,A5,A6,A7,rfl⟩:=hd.shape;rw[show ((0:Int):Rat)=e7 xs ys 0 from rfl]at hd
 refine⟨Nat×(Bool×Bool)×(Option Addr×Option Addr)×(Nat×Nat×Nat×Nat)×World×Iv,fun z=>⟨[(1,sV ay ys.length cy),(4,pP 0 0),(5,pP 1 0),(9,sV ax xs.length cx),(10,iZ xs.length),(11,iN z.1)],[(1,.box T.Rat [.v (.bool z.2.1.1),.v (.slice z.2.2.1.1 z.2.2.2.1.1 z.2.2.2.1.2.1),.v (.bool z.2.1.2),.v (.slice z.2.2.1.2 z.2.2.2.1.2.2.1 z.2.2.2.1.2.2.2)]),(0,.box T.Rat [.v (.bool false),.v (.slice none 0 0),.v (.bool false),.v (.slice none 0 0)])],2,z.2.2.2.2.2,z.2.2.2.2.1⟩,fun z=>xs.length-z.1,
  fun z=>z.1<=xs.length/\dw w.heap.size w z.2.2.2.2.1/\dA z.2.2.2.2.1 (Cf w z.2.2.2.2.2) (.agg #[.bool z.2.1.1,.slice z.2.2.1.1 z.2.2.2.1.1 z.2.2.2.1.2.1,.bool z.2.1.2,.slice z.2.2.1.2 z.2.2.2.1.2.2.1 z.2.2.2.1.2.2.2]) (e7 xs ys z.1),?_,?_⟩
 ·intro O J r;exact⟨(0,(A0,A4),(A1,A5),(A2,A3,A6,A7),J,Oo),⟨by simp,I.tr r.cU,hd.rel r (cH w)⟩,Sub.gn [] r⟩
 rintro⟨i,⟨p0,p4⟩,⟨p1,p5⟩,⟨p2,p3,p6,p7⟩,w1,iv⟩ ⟨A,I,hd⟩;dsimp only at A I hd ⊢;refine dQ.mk ?_ ?_<;>intro OZ
 ·have OZ:i<xs.length:=by simpa using OZ
  have hs:=qm hqx hqy G i;have Qm:2*h*i<=2*h*xs.length:=bY _ A;have hs3:2*h*1<=2*h*xs.length:=bY _ (by omega);obtain⟨x,QK⟩:∃x,xs[i]? =some x:=⟨_,aA OZ⟩
  obtain⟨y,TB⟩:∃x,ys[i]? =some x:=⟨_,aA (by omega)⟩
  have hx3:=hqx x (aC QK);have hy3:=hqy y (aC TB);have RP:xs.getD i 0=x:=by rw[List.getD,QK];rfl
  have hy2:ys.getD i 0=y:=by rw[List.getD,TB];rfl
  have hm:=iA x y;obtain⟨adx,csx,QE,RQ,-,PU⟩:=dV.load F QK;obtain⟨ady,csy,VD,Rs,-,Qu⟩:=dV.load hy TB;obtain⟨f0,f1,f2,f3,f4,f5,f6,f7,rfl,RQ⟩:=RQ;obtain⟨q0,q1,q2,q3,q4,q5,q6,q7,rfl,Rs⟩:=Rs;refine⟨adx,QE,by omega,[.bool f0,.slice f1 f2 f3,.bool f4,.slice f5 f6 f7],rfl,rdO PU I X,?_⟩;refine cJ (cE I (fun _ J v V=>∃d,v= .bool d/\(d=true↔x=0)) (fun O J r=>rT (oS X r) (RQ.cK (kS I r X))) ?_);rintro O _ _ _ Od r U I h_ ⟨d1,rfl,PF⟩;replace hd:=hd.cM r (cH w) U (mC h_)
  cases d1
  ·refine⟨ady,VD,by omega,[.bool q0,.slice q1 q2 q3,.bool q4,.slice q5 q6 q7],rfl,rdO Qu I X,?_⟩;refine cJ (cE I (fun _ J v V=>∃d,v= .bool d/\(d=true↔y=0)) (fun O J r=>rT (oS X r) (Rs.cK (kS I r X))) ?_);rintro O _ _ _ Oq r U I h_ ⟨d2,rfl,QD⟩;replace hd:=hd.cM r (cH w) U (mC h_)
   cases d2
   ·refine cR hτ dx [.x 0,.x 1,.x 2,.x 3,.x 4,.x 5,.x 6,.x 7,.x 8] (by kernel_rfl) (by kernel_rfl) ?_;refine⟨ady,VD,by omega,[.bool q0,.slice q1 q2 q3,.bool q4,.slice q5 q6 q7],rfl,rdO Qu I X,?_⟩;refine cE I (fun _ J v V=>dA V (Nf J V) v (x*y)) (fun O J r=>wV (oS X r) (RQ.v.cK (kS I r X)) (Rs.v.cK (kS I r X))) ?_;rintro O _ _ _ Ox r U I h_ R;replace hd:=hd.cM r (cH w) U (mC h_);have hp:=R.dK (S:=FF) r.cI (mN h_);obtain⟨C0,C1,C2,C3,C4,C5,C6,C7,rfl⟩:=hp.shape;refine cE I (fun _ J v V=>dA V (Nf J V) v (e7 xs ys i+x*y)) (fun O J r=>MO (Rel.old r (cH w)) ((hd.rel r (cH w)).v (by omega)) ((hp.rel r (cH w)).v (by omega))) ?_;rintro O _ _ _ PX r U I h_ R;have Pn:=R.dK (S:=FF) r.cI (mN h_);obtain⟨E0,E1,E2,E3,E4,E5,E6,E7,rfl⟩:=Pn.shape;rw[show e7 xs ys i+x*y=e7 xs ys (i+1) by rw[e7,RP,hy2]]at Pn;refine⟨((i+1:Nat):Int),wo,?_⟩;intro GT w3 E;exact⟨(i+1,(E0,E4),(E1,E5),(E2,E3,E6,E7),w3,_),⟨OZ,I.tr E.cU,Pn.rel E (cH w)⟩,Sub.gn [] E,by dsimp only;omega⟩
   ·have QQ:y=0:=QD.1 rfl;rw[show e7 xs ys i=e7 xs ys (i+1) by rw[e7,RP,hy2,QQ,ah,bU]]at hd;refine⟨((i+1:Nat):Int),wo,?_⟩;intro GT w3 E;exact⟨(i+1,(p0,p4),(p1,p5),(p2,p3,p6,p7),w3,_),⟨OZ,I.tr E.cU,hd.rel E (cH w)⟩,Sub.gn [] E,by dsimp only;omega⟩
  ·have TM:x=0:=PF.1 rfl;rw[show e7 xs ys i=e7 xs ys (i+1) by rw[e7,RP,hy2,TM,bE,bU]]at hd;refine⟨((i+1:Nat):Int),wo,?_⟩;intro GT w3 E;exact⟨(i+1,(p0,p4),(p1,p5),(p2,p3,p6,p7),w3,_),⟨OZ,I.tr E.cU,hd.rel E (cH w)⟩,Sub.gn [] E,by dsimp only;omega⟩
 have OZ:i=xs.length:=aR A (by simpa using OZ);subst OZ;exact rtn I fun IR we re=>hd.out re (cH w)
structure gR(w:World)(S:Nat->Prop)(n i:Nat)(Z:List (List Value))(qs:List Rat):Prop where
 len:Z.length=n
 four:∀W∈Z,W.length=4
 one:∀W∈Z,∀u∈W,u.oneCell'=true
 at_:∀(j:Nat) W q,j<i->Z[j]? =some W->qs[j]? =some q->jD w S W q
section
variable{S S':Nat->Prop}{H:Hp}{nx n i:Nat}{iv K:Iv}{B:Nat}{w w1 J V:World}{O:Nat->Sx.dq}{Z:List (List Value)}{qs:List Rat}
theorem gR.cK(h:gR w S n i Z qs)(D:∀g,S g->V.heap[g]? =w.heap[g]?):gR V S n i Z qs:=⟨h.len,h.four,h.one,fun j W q hj L G=>(h.at_ j W q hj L G).cK D⟩
theorem gR.cN(h:gR w S n i Z qs)(D:∀g,S g->S' g):gR w S' n i Z qs:=⟨h.len,h.four,h.one,fun j W q hj L G=>(h.at_ j W q hj L G).cN D⟩
theorem gR.rel(h:gR w (Cv S B iv) n i Z qs)(r:Rel H nx iv B w O J)(X:∀g,S g->g<B):gR J (Cv S B iv) n i Z qs:=h.cK fun _ Y=>Rel.same r X Y
theorem gR.cM(h:gR w (Cv S B iv) n i Z qs)(r:Rel H nx iv B w O J)(X:∀g,S g->g<B)(U:Ext J V)(hm:∀p,p∈iv->p∈K):gR V (Cv S B K) n i Z qs:=
 ((h.rel r X).cK fun g Y=>U.block g (Rel.old r X g Y)).cN fun _ Y=>Y.mono hm
theorem gR.start(w:World)(S:Nat->Prop)(n:Nat)(qs:List Rat):gR w S n 0 (List.replicate n f0) qs:=
 ⟨by simp,fun W hc=>by rw[bI hc];rfl,fun W hc u hu=>by rw[bI hc]at hu;simp[f0]at hu;rcases hu with rfl|rfl|rfl|rfl<;>rfl,fun j W q hj=>by omega⟩
theorem gR.next{b b2:Bool}{a2:Option Addr}{m c m2 c2:Nat}(h:gR w S n i Z qs)(A:i<n)(hq:qs[i]? =some q)(hf:dA w S (.agg #[.bool b,.slice a m c,.bool b2,.slice a2 m2 c2]) q):
  gR w S n (i+1) (Z.set i [.bool b,.slice a m c,.bool b2,.slice a2 m2 c2]) qs:=by
 refine⟨by simp[h.len],fun W hc=>?_,fun W hc u hu=>?_,fun j W p hj L G=>?_⟩
 ·rcases bC hc with hc|rfl
  ·exact h.four W hc
  ·rfl
 ·rcases bC hc with hc|rfl
  ·exact h.one W hc u hu
  ·simp at hu;rcases hu with rfl|rfl|rfl|rfl<;>rfl
 ·by_cases Pr:i=j
  ·subst Pr;rw[aP (by rw[h.len];exact A)]at L;rw[hq]at G;injection L with L;injection G with G;subst L G;exact hf.sR
  ·rw[aS Pr]at L;exact h.at_ j W p (by omega) L G
theorem gR.flat(h:gR w S n i Z qs):Z.flatten.length=n*4:=by rw[ef h.four,h.len]
theorem gR.done{w0:World}(h:gR w1 (Cf w0 iv) n n Z qs)(hl:qs.length=n)(R:n<=maxLen)(r:Rel H nx iv w0.heap.size w1 O J){id:Nat}(hH:dG H id=some (.arr T.Rat Z.flatten))(PA:(O id).nil=false):
  eU J FF w0.heap.size [(w0.heap.size,J.heap.size)] (.slice (some ⟨(O id).g,0,none⟩) n n) n qs:=by
 have G:=h.rel r (cH w0);have Og:=r.low id _ hH PA;refine⟨⟨Z,⟨h.flat,.inr ⟨(O id).g,n,Z.flatten.toArray,rfl,aQ _,r.arr id _ _ hH,Nat.le_refl _,R,by simpa using h.flat,?_⟩⟩,h.len,?_⟩,fun g Y=>?_⟩
 ·rw[<-h.flat];exact bA
 ·refine⟨by rw[h.len,hl],fun j W q N h4=>?_⟩;refine(G.at_ j W q (by rw[<-hl];exact(aD.1 h4).1) N h4).cN fun g Y=>⟨?_,fun e=>?_⟩
  ·rcases Y with Y|⟨k1,lo,A,k2,k3,k4⟩
   ·exact Y.elim
   ·exact .inr ⟨k1,_,_,bD.2 rfl,k1,by have:=r.oJ lo A k2;have:=r.size;omega⟩
  ·injection e with e;exact Rel.not r (cH w0) Y id _ hH PA e
 ·injection Y with Y;subst Y;exact .inr ⟨Og.1,_,_,bD.2 rfl,Og.1,Og.2⟩
theorem gX.c(h:gX w S S v qs):cS w S v qs:=by
 obtain⟨Z,L,G⟩:=h;exact⟨Z,L,G.1,G.mR,G.2⟩
theorem eU.c(h:eU w S B iv v n qs):cS w (Cv S B iv) v qs:=h.read.c
theorem cS.rc(h:cS w S v qs):gX w S S v qs:=by
 obtain⟨Z,L,G,N,h4⟩:=h;exact⟨Z,L,G,h4⟩
theorem gX.rel(h:gX w (Cv C B iv) (Cv S B iv) v qs)(r:Rel H nx iv B w O J)(hC:∀g,C g->g<B)(X:∀g,S g->g<B):gX J (Cv C B iv) (Cv S B iv) v qs:=
 h.cK fun _ Y=>Y.elim (Rel.same r hC) (Rel.same r X)
theorem gX.cM(h:gX w (Cv C B iv) (Cv S B iv) v qs)(r:Rel H nx iv B w O J)(hC:∀g,C g->g<B)(X:∀g,S g->g<B)(U:Ext J V)(hm:∀p,p∈iv->p∈K):gX V (Cv C B K) (Cv S B K) v qs:=
 ((h.rel r hC X).cK fun g Y=>U.block g (Y.elim (Rel.old r hC g) (Rel.old r X g))).cN (fun _ Y=>Y.mono hm) (fun _ Y=>Y.mono hm)
theorem gX.arg(h:gX w C S v qs)(iv:Iv):gX w (Cv C w.heap.size iv) (Cv S w.heap.size iv) v qs:=h.cN (fun _ h=>.inl h) (fun _ h=>.inl h)
theorem gX.shape(h:gX w C S v qs):∃a c,v= .slice a qs.length c/\qs.length<=c/\qs.length<=maxLen:=by
 obtain⟨Z,⟨h0,_,_,a,c,L,G,_⟩,_⟩:=h;exact⟨a,c,L,G,h0⟩
theorem gX.load{n c j:Nat}(h:gX w C S (.slice a n c) qs)(hq:qs[j]? =some q):
  ∃ad W,a=some ad/\jD w S W q/\∀k u,W[k]? =some u->C ad.block/\w.cell? ((ad.add (j*4)).add k)=some u:=by
 obtain⟨Z,⟨h0,L,G,a',c',e,N,h4⟩,hf⟩:=h;injection e with e1 e2 e3;subst e1;obtain⟨W,PS⟩:∃W,Z[j]? =some W:=⟨_,aA (by rw[hf.1];exact(aD.1 hq).1)⟩
 have hF:=hf.2 j W q PS hq;have hl:=hF.len;obtain⟨ad,k1,k2,k3⟩:=h4 (j*4+0) _ (flat_get hf.mR PS 0 _ (aA (show 0<W.length by omega)));refine⟨ad,W,k1,hF,fun k u hu=>?_⟩;obtain⟨ad2,m1,m2,m3⟩:=h4 (j*4+k) u (flat_get hf.mR PS k u hu);rw[k1]at m1;injection m1 with m1;subst m1;refine⟨m2,?_⟩;rw[<-m3];have:(ad.add (j*4)).add k=ad.add (j*4+k):=by
  unfold Addr.add;split<;>split<;>simp_all<;>omega
 rw[this]
theorem GI{j:Nat}{c:Nat}(h:w.ownsRow 0 T.Rat 4 (.slice a n c) n Z.flatten)(hf:Fc w S Z qs)(hj:Z[j]? =some W):
  ∃g,a=some ⟨g,0,none⟩/\∀k u,W[k]? =some u->w.cell? ((Addr.add ⟨g,0,none⟩ (j*4)).add k)=some u:=by
 rcases h.2 with⟨L,h0⟩|⟨g,cap,cur,Rh,_⟩
 ·have:=h.1;rw[ef hf.mR]at this;have:=(aD.1 hj).1;omega
 ·injection Rh with L G N;subst L;refine⟨g,rfl,fun k u hu=>?_⟩;have:=h.cells (g:=g) rfl (j*4+k) u (flat_get hf.mR hj k u hu);rw[dL,dL];rw[dL]at this;rw[Nat.add_assoc];exact this
end
theorem GJ(n:Nat)(w:World)(R:n<=1000000):eI PG F'.sL #[.int .i64 n] w (eO w fun v' V=>eU V FF w.heap.size [(w.heap.size,V.heap.size)] v' n (List.replicate n 0)):=by
 have I:=bR w;refine wO (by simp) ?_
 refine⟨n,n,rfl,rfl,Nat.le_refl _,by omega,by omega,Nat×List (List Value)×Iv×World,fun z=>⟨[(3,.o (.s 0 0 n n)),(8,iZ n),(9,iN z.1)],[(0,.arr T.Rat z.2.1.flatten)],1,z.2.2.1,z.2.2.2⟩,fun z=>n-z.1,
  fun z=>z.1<=n/\dw w.heap.size w z.2.2.2/\gR z.2.2.2 (Cf w z.2.2.1) (n) z.1 z.2.1 (List.replicate n 0),?_,?_⟩
 ·intro O J r;exact⟨(0,List.replicate (n) f0,_,J),⟨by simp,I.tr r.cU,gR.start _ _ _ _⟩,Sub.gn [] r⟩
 rintro⟨i,Z,iv,w1⟩ ⟨A,I,hF⟩;dsimp only at A I hF ⊢;refine dQ.mk ?_ ?_<;>intro h
 ·have h:i<n:=by simpa using h
  refine cJ (cE I (fun _ J v V=>dA V (Nf J V) v (((0:Int):Rat))) (fun O J r=>mB 0 J (by decide) (by decide)) ?_);rintro O _ _ _ Oo r U I h_ R;replace hF:=hF.cM r (cH w) U (mC h_);have hd:=R.dK (S:=FF) r.cI (mN h_);obtain⟨A0,A1,A2,A3,A4,A5,A6,A7,rfl⟩:=hd.shape;have Ou:=hF.next h (q:=_) (by simp[h]) hd
  refine⟨by omega,by have:=hF.flat;omega,(Z.set i [.bool A0,.slice A1 A2 A3,.bool A4,.slice A5 A6 A7]).flatten,?_,?_⟩
  ·have:=iI (W:=[.bool A0,.slice A1 A2 A3,.bool A4,.slice A5 A6 A7]) hF.four (show i<Z.length by rw[hF.len];exact h);rw[<-this];simp
  refine⟨((i+1:Nat):Int),wo,?_⟩;intro GT w3 E;exact⟨(i+1,Z.set i [.bool A0,.slice A1 A2 A3,.bool A4,.slice A5 A6 A7],_,w3),⟨h,I.tr E.cU,Ou.rel E (cH w)⟩,Sub.gn [] E,by dsimp only;omega⟩
 have h:i=n:=aR A (by simpa using h);subst h;exact rtn I fun IR we re=>hF.done (by simp) (by unfold maxLen;omega) re (id:=0) rfl (re.nn 0 _ rfl (by intros;simp) (by simp))
theorem Ct{b:Rat}(X:Old S w)(F:eD w S v xs)(hb:ed w S u b)(R:xs.length<=1000000):
  eI PG F'.qP #[v,u] w (eO w fun v' V=>eU V FF w.heap.size [(w.heap.size,V.heap.size)] v' xs.length (dE xs b)):=by
 have I:=bR w;obtain⟨ax,cx,rfl,XW,hmx⟩:=dV.shape F;obtain⟨g0,g1,g2,g3,g4,g5,g6,g7,rfl⟩:=hb.shape;have PB:rl b<=100000:=hb.rl;refine ud (by simp) ?_
 refine⟨xs.length,xs.length,rfl,rfl,Nat.le_refl _,by omega,by omega,Nat×List (List Value)×Iv×World,fun z=>⟨[(3,pP 0 0),(5,.o (.s 1 0 xs.length xs.length)),(11,sV ax xs.length cx),(12,iZ xs.length),(13,iN z.1)],[(0,.box T.Rat [.v (.bool g0),.v (.slice g1 g2 g3),.v (.bool g4),.v (.slice g5 g6 g7)]),(1,.arr T.Rat z.2.1.flatten)],2,z.2.2.1,z.2.2.2⟩,fun z=>xs.length-z.1,
  fun z=>z.1<=xs.length/\dw w.heap.size w z.2.2.2/\gR z.2.2.2 (Cf w z.2.2.1) (xs.length) z.1 z.2.1 (dE xs b),?_,?_⟩
 ·intro O J r;exact⟨(0,List.replicate (xs.length) f0,_,J),⟨by simp,I.tr r.cU,gR.start _ _ _ _⟩,Sub.gn [] r⟩
 rintro⟨i,Z,iv,w1⟩ ⟨A,I,hF⟩;dsimp only at A I hF ⊢;refine dQ.mk ?_ ?_<;>intro h
 ·have h:i<xs.length:=by simpa using h
  obtain⟨x,QK⟩:∃x,xs[i]? =some x:=⟨_,aA h⟩
  obtain⟨adx,csx,QE,RQ,-,PU⟩:=dV.load F QK;obtain⟨f0,f1,f2,f3,f4,f5,f6,f7,rfl,RQ⟩:=RQ;refine⟨adx,QE,by omega,[.bool f0,.slice f1 f2 f3,.bool f4,.slice f5 f6 f7],rfl,rdO PU I X,?_⟩;refine cJ (cE I (fun _ J v V=>dA V (Nf J V) v (x*b)) (fun O J r=>wV (oS X r) (RQ.v.cK (kS I r X)) (hb.v.cK (kS I r X))) ?_);rintro O _ _ _ Oo r U I h_ R;replace hF:=hF.cM r (cH w) U (mC h_);have hd:=R.dK (S:=FF) r.cI (mN h_);obtain⟨A0,A1,A2,A3,A4,A5,A6,A7,rfl⟩:=hd.shape;have Ou:=hF.next h (q:=_) (by rw[dE,aL,QK];rfl) hd
  refine⟨by omega,by have:=hF.flat;omega,(Z.set i [.bool A0,.slice A1 A2 A3,.bool A4,.slice A5 A6 A7]).flatten,?_,?_⟩
  ·have:=iI (W:=[.bool A0,.slice A1 A2 A3,.bool A4,.slice A5 A6 A7]) hF.four (show i<Z.length by rw[hF.len];exact h);rw[<-this];simp
  refine⟨((i+1:Nat):Int),wo,?_⟩;intro GT w3 E;exact⟨(i+1,Z.set i [.bool A0,.slice A1 A2 A3,.bool A4,.slice A5 A6 A7],_,w3),⟨h,I.tr E.cU,Ou.rel E (cH w)⟩,Sub.gn [] E,by dsimp only;omega⟩
 have h:i=xs.length:=aR A (by simpa using h);subst h;exact rtn I fun IR we re=>hF.done (by simp[dE]) (by unfold maxLen;omega) re (id:=1) rfl (re.nn 1 _ rfl (by intros;simp) (by simp))
theorem Iq(X:Old S w)(F:eD w S v xs)(hy:eD w S u ys)(hl:xs.length<=ys.length)(R:xs.length<=1000000):
  eI PG F'.uQ #[v,u] w (eO w fun v' V=>eU V FF w.heap.size [(w.heap.size,V.heap.size)] v' xs.length (fJ xs ys)):=by
 have I:=bR w;obtain⟨ax,cx,rfl,XW,hmx⟩:=dV.shape F;obtain⟨ay,cy,rfl,hcy,hmy⟩:=dV.shape hy;refine yM (by simp) ?_
 refine⟨xs.length,xs.length,rfl,rfl,Nat.le_refl _,by omega,by omega,Nat×List (List Value)×Iv×World,fun z=>⟨[(0,sV ax xs.length cx),(1,sV ay ys.length cy),(5,.o (.s 0 0 xs.length xs.length)),(11,iZ xs.length),(12,iN z.1)],[(0,.arr T.Rat z.2.1.flatten)],1,z.2.2.1,z.2.2.2⟩,fun z=>xs.length-z.1,
  fun z=>z.1<=xs.length/\dw w.heap.size w z.2.2.2/\gR z.2.2.2 (Cf w z.2.2.1) (xs.length) z.1 z.2.1 (fJ xs ys),?_,?_⟩
 ·intro O J r;exact⟨(0,List.replicate (xs.length) f0,_,J),⟨by simp,I.tr r.cU,gR.start _ _ _ _⟩,Sub.gn [] r⟩
 rintro⟨i,Z,iv,w1⟩ ⟨A,I,hF⟩;dsimp only at A I hF ⊢;refine dQ.mk ?_ ?_<;>intro h
 ·have h:i<xs.length:=by simpa using h
  obtain⟨x,QK⟩:∃x,xs[i]? =some x:=⟨_,aA h⟩
  obtain⟨y,TB⟩:∃x,ys[i]? =some x:=⟨_,aA (by omega)⟩
  obtain⟨adx,csx,QE,RQ,-,PU⟩:=dV.load F QK;obtain⟨f0,f1,f2,f3,f4,f5,f6,f7,rfl,RQ⟩:=RQ;obtain⟨ady,csy,VD,Rs,-,Qu⟩:=dV.load hy TB;obtain⟨q0,q1,q2,q3,q4,q5,q6,q7,rfl,Rs⟩:=Rs;refine cR hτ dx [.x 0,.x 1,.x 2,.x 3,.x 4,.x 5,.x 6,.x 7,.x 8,.x 9,.x 10,.x 11,.x 12] (by kernel_rfl) (by kernel_rfl) ?_;refine⟨adx,QE,by omega,[.bool f0,.slice f1 f2 f3,.bool f4,.slice f5 f6 f7],rfl,rdO PU I X,ady,VD,by omega,[.bool q0,.slice q1 q2 q3,.bool q4,.slice q5 q6 q7],rfl,rdO Qu I X,?_⟩;refine cE I (fun _ J v V=>dA V (Nf J V) v (x*y)) (fun O J r=>wV (oS X r) (RQ.v.cK (kS I r X)) (Rs.v.cK (kS I r X))) ?_;rintro O _ _ _ Oo r U I h_ R;replace hF:=hF.cM r (cH w) U (mC h_);have hd:=R.dK (S:=FF) r.cI (mN h_);obtain⟨A0,A1,A2,A3,A4,A5,A6,A7,rfl⟩:=hd.shape;have Ou:=hF.next h (q:=_) (by rw[fJ,List.getElem?_mapIdx,QK,List.getD,TB];rfl) hd
  refine⟨by omega,by have:=hF.flat;omega,(Z.set i [.bool A0,.slice A1 A2 A3,.bool A4,.slice A5 A6 A7]).flatten,?_,?_⟩
  ·have:=iI (W:=[.bool A0,.slice A1 A2 A3,.bool A4,.slice A5 A6 A7]) hF.four (show i<Z.length by rw[hF.len];exact h);rw[<-this];simp
  refine⟨((i+1:Nat):Int),wo,?_⟩;intro GT w3 E;exact⟨(i+1,Z.set i [.bool A0,.slice A1 A2 A3,.bool A4,.slice A5 A6 A7],_,w3),⟨h,I.tr E.cU,Ou.rel E (cH w)⟩,Sub.gn [] E,by dsimp only;omega⟩
 have h:i=xs.length:=aR A (by simpa using h);subst h;exact rtn I fun IR we re=>hF.done (by simp[fJ]) (by unfold maxLen;omega) re (id:=0) rfl (re.nn 0 _ rfl (by intros;simp) (by simp))
theorem Ns{vby vs:Value}{n:Nat}{ps:List Rat}(hC:Old C w)(X:Old S w)(hrw:ir w S v n qs)(PB:ed w S vby p)
  (hs:gX w C S vs ps) (Pv:ps.length=n) (SG:∀g,v.ownBlock=some g->¬S g) (hdc:∀g,v.ownBlock=some g->¬C g) (hq:∀q∈qs,rl q+1<=h) (hps:∀q∈ps,rl q+1<=h) (hb:rl p+1<=h) (hh:3*h<=90000):
  eI PG F'.oo #[v,vs,vby] w (fun e V=>e= .returned (.tuple #[])/\w.grownBy V v.ownBlock/\ir V (Nw S w V) v n (mW qs ps p)):=by
 obtain⟨Z,Oa,Pu,PW⟩:=hrw;have Og:∀g,v.ownBlock=some g->g<w.heap.size:=fun g Y=>(ownsRow.low Oa g Y).2;have PQ:∀iv g,v.ownBlock=some g->Out w.heap.size iv g:=fun iv g Y=>.inl (Og g Y);have TN:∀iv g,v.ownBlock=some g->¬Cv S w.heap.size iv g:=fun iv g Y h=>by
  rcases h with h|⟨h,_⟩
  ·exact SG g Y h
  ·have:=Og g Y;omega
 have VY:∀iv g,v.ownBlock=some g->¬Cv C w.heap.size iv g:=fun iv g Y h=>by
  rcases h with h|⟨h,_⟩
  ·exact hdc g Y h
  ·have:=Og g Y;omega
 have SZ:qs.length=n:=by rw[<-PW.1,Pu]
 obtain⟨a,c,rfl,Tl⟩:=fF Oa;obtain⟨b1,a1,n1,c1,b2,a2,n2,c2,rfl⟩:=PB.shape;obtain⟨asl,cs0,rfl,RS,Uc⟩:=hs.shape;rw[Pv]at RS Uc hs ⊢;unfold maxLen at Uc;replace PW:=PW.cN (S':=Cv S w.heap.size []) fun _ h=>.inl h;replace PB:=PB.arg [];replace hs:=hs.arg [];refine yV (by simp) ?_;have PR:=Oa;have Y:w.grownBy w (Value.slice a n c).ownBlock:=⟨rfl,rfl,rfl,Nat.le_refl _,fun _ _ _=>rfl⟩
 have hbyl:rl p<=100000:=PB.rl
 refine⟨Nat×List (List Value)×Iv×World,fun z=>⟨[(0,sV a n c),(5,pP 0 0),(8,sV asl n cs0),(9,iZ n),(10,iZ z.1)],
   [(0,.box T.Rat [.v (.bool b1),.v (.slice a1 n1 c1),.v (.bool b2),.v (.slice a2 n2 c2)])],1,z.2.2.1,z.2.2.2⟩,fun z=>n-z.1,
  fun z=>z.1<=n/\w.grownBy z.2.2.2 (Value.slice a n c).ownBlock/\z.2.2.2.ownsRow 0 T.Rat 4 (.slice a n c) n z.2.1.flatten/\z.2.1.length=n/\Fc z.2.2.2 (Cv S w.heap.size z.2.2.1) z.2.1 (iJ z.1 (tj (-p) ps) qs)/\
   ed z.2.2.2 (Cv S w.heap.size z.2.2.1) (.agg #[.bool b1,.slice a1 n1 c1,.bool b2,.slice a2 n2 c2]) p/\gX z.2.2.2 (Cv C w.heap.size z.2.2.1) (Cv S w.heap.size z.2.2.1) (.slice asl n cs0) ps,?_,?_⟩
 ·intro O J r
  refine⟨(0,Z,[],J),⟨by simp,df Y r.cU,fc PR (PQ []) r,Pu,by rw[oz];exact PW.rel r X,PB.rel r X,hs.rel r hC X⟩,
   Sub.gn [] r⟩
 rintro⟨i,Z,iv,w1⟩ ⟨A,Y,Oa,Pu,PW,PB,hs⟩;dsimp only at A Y Oa Pu PW PB hs ⊢;refine dQ.mk ?_ ?_<;>intro h
 ·have h:i<n:=by simpa using h
  obtain⟨W,PS⟩:∃W,Z[i]? =some W:=⟨_,aA (by omega)⟩
  obtain⟨q,SA⟩:∃q,qs[i]? =some q:=⟨_,aA (by omega)⟩
  obtain⟨f,Tm⟩:∃f,ps[i]? =some f:=⟨_,aA (by omega)⟩
  have hF:=PW.2 i W q PS (uv SA);have VZ:tj (-p) ps i q=q-p*f:=by simp only[tj,List.getD,Tm,Option.getD_some];grind
  obtain⟨d1,e1,m1,k1,d2,e2,m2,k2,rfl,hF⟩:=hF;have Wk:=hq q (aC SA);have hrlf:=hps f (aC Tm);obtain⟨ad,fcs,PI,UM,PL⟩:=hs.load Tm;obtain⟨f1,g1,o1,u1,f2,g2,o2,u2,rfl,UM⟩:=UM;refine⟨ad,PI,by omega,[.bool f1,.slice g1 o1 u1,.bool f2,.slice g2 o2 u2],rfl,fun O J r j x F=>?_,?_⟩
  ·have Qm:=hs.rel r hC X;obtain⟨k2',k3⟩:=PL j x F;have:=Rel.same r hC k2';rw[aE,cL (w:=w1) (V:=J) (by rw[dF,dF];exact this)];exact k3
  refine cJ (cO (If:=fun _ _ v _=>∃d,v= .bool d/\(d=true↔f=0)) (fun O J r=>rT (Rel.old r X) ((UM.rel r X).l (by omega))) ?_);rintro O wa v1 wb r U PD ⟨dz,rfl,hz⟩;replace PB:=PB.cM (K:=(wa.heap.size,wb.heap.size)::iv) r X U fun x F=>aB _ F;replace PW:=PW.cM (K:=(wa.heap.size,wb.heap.size)::iv) r X U fun x F=>aB _ F;replace hs:=hs.cM (K:=(wa.heap.size,wb.heap.size)::iv) r hC X U fun x F=>aB _ F;replace UM:=UM.cM (K:=(wa.heap.size,wb.heap.size)::iv) r X U fun x F=>aB _ F;replace hF:=hF.cM (K:=(wa.heap.size,wb.heap.size)::iv) r X U fun x F=>aB _ F;replace Oa:wb.ownsRow 0 T.Rat 4 (.slice a n c) n Z.flatten:=ownsRow.cK (fc Oa (PQ iv) r) fun b hb=>U.block b (by have:=Og b hb;have:=r.cI;omega);replace Y:w.grownBy wb _:=df Y PD;generalize (wa.heap.size,wb.heap.size)::iv=Od at*
  cases dz
  ·refine cR hτ dx [.x 0,.x 1,.x 2,.x 3,.x 4,.x 5,.x 6,.x 7,.x 8,.x 9,.x 10,.x 11] (by kernel_rfl) (by kernel_rfl) ?_;obtain⟨g,rfl,PK⟩:=GI Oa PW PS;refine⟨⟨g,0,none⟩,rfl,by omega,[.bool d1,.slice e1 m1 k1,.bool d2,.slice e2 m2 k2],rfl,fun O J r j x F=>?_,?_⟩
   ·have:=GI (fc Oa (PQ Od) r) (PW.rel r X) PS;obtain⟨g',L,G⟩:=this;injection L with L;rw[<-L]at G;exact G j x F
   have R6:=iA p f;refine cO (If:=fun _ J v V=>dA V (Nf J V) v (p*f)) (fun O J r=>wV (Rel.old r X) (PB.rel r X).v ((UM.rel r X).v (by omega))) ?_;rintro O wa v1 wb r U PD hP;have Rl:=hP.dK (S:=S) r.cI (iv:=(wa.heap.size,wb.heap.size)::Od) aF;replace PB:=PB.cM (K:=(wa.heap.size,wb.heap.size)::Od) r X U fun x F=>aB _ F;replace PW:=PW.cM (K:=(wa.heap.size,wb.heap.size)::Od) r X U fun x F=>aB _ F;replace hs:=hs.cM (K:=(wa.heap.size,wb.heap.size)::Od) r hC X U fun x F=>aB _ F;replace hF:=hF.cM (K:=(wa.heap.size,wb.heap.size)::Od) r X U fun x F=>aB _ F;replace Oa:wb.ownsRow 0 T.Rat 4 (.slice (some ⟨g,0,none⟩) n c) n Z.flatten:=ownsRow.cK (fc Oa (PQ Od) r) fun b hb=>U.block b (by have:=Og b hb;have:=r.cI;omega);replace Y:w.grownBy wb _:=df Y PD;generalize (wa.heap.size,wb.heap.size)::Od=Oq at*
   obtain⟨b5,a5,n5,c5,b6,a6,n6,c6,rfl⟩:=Rl.shape;refine cO (If:=fun _ J v V=>dA V (Nf J V) v (q-p*f)) (fun O J r=>MM (Rel.old r X) ((hF.rel r X).v (by omega)) ((Rl.rel r X).v (by omega))) ?_;rintro O wc v2 wd r U PD hQ;have Va:=hQ.dK (S:=S) r.cI (iv:=(wc.heap.size,wd.heap.size)::Oq) aF;replace PB:=PB.cM (K:=(wc.heap.size,wd.heap.size)::Oq) r X U fun x F=>aB _ F;replace PW:=PW.cM (K:=(wc.heap.size,wd.heap.size)::Oq) r X U fun x F=>aB _ F;replace hs:=hs.cM (K:=(wc.heap.size,wd.heap.size)::Oq) r hC X U fun x F=>aB _ F;replace Oa:wd.ownsRow 0 T.Rat 4 (.slice (some ⟨g,0,none⟩) n c) n Z.flatten:=ownsRow.cK (fc Oa (PQ Oq) r) fun b hb=>U.block b (by have:=Og b hb;have:=r.cI;omega);replace Y:w.grownBy wd _:=df Y PD;generalize (wc.heap.size,wd.heap.size)::Oq=Ox at*
   obtain⟨b7,a7,n7,c7,b8,a8,n8,c8,rfl⟩:=Va.shape;rw[<-VZ]at Va;refine⟨⟨g,0,none⟩,rfl,by omega,?_⟩;intro O J r;have RX:=fc Oa (PQ Ox) r;have hF5:=(Va.rel r X).sR;obtain⟨g',Qr,Of,QW,PC,PN⟩:=j3 (nv:=[.bool b7,.slice a7 n7 c7,.bool b8,.slice a8 n8 c8]) RX rfl h rfl (by decide);injection Qr with Qr;injection Qr with Qr;subst Qr;have Qb:=iI (W:=[.bool b7,.slice a7 n7 c7,.bool b8,.slice a8 n8 c8]) PW.mR (show i<Z.length by omega);rw[Qb]at QW;have Oi:∀x,Cv S w.heap.size Ox x->(setCells J ⟨g,i*4,none⟩ [.bool b7,.slice a7 n7 c7,.bool b8,.slice a8 n8 c8]).heap[x]? =J.heap[x]? :=fun x F=>
    PC.block x (Rel.old r X x F) fun e=>TN Ox g rfl (by injection e with e;rw[<-e];exact F)
   have Pg:(⟨g,0,none⟩:Addr).add ((i:Int).toNat*4)=⟨g,i*4,none⟩:=by rw[aE,dL,aT]
   have Vb:=((PW.rel r X).cK Oi).set (j:=i) (hF5.cK Oi);rw[mD (f:=tj (-p) ps) SA]at Vb;have TO:=(PB.rel r X).cK Oi;have Su:∀x,Cv C w.heap.size Ox x->(setCells J ⟨g,i*4,none⟩ [.bool b7,.slice a7 n7 c7,.bool b8,.slice a8 n8 c8]).heap[x]? =J.heap[x]? :=fun x F=>
    PC.block x (Rel.old r hC x F) fun e=>VY Ox g rfl (by injection e with e;rw[<-e];exact F)
   have hs6:=(hs.rel r hC X).cK fun x F=>F.elim (Su x) (Oi x);replace Y:w.grownBy (setCells J ⟨g,i*4,none⟩ [.bool b7,.slice a7 n7 c7,.bool b8,.slice a8 n8 c8]) (some g):=fg (df Y r.cU) PC;have Pa:=fun id b hb R=>Rel.not r (fun _ h=>h) (PQ Ox g rfl) id b hb R;refine⟨by rw[Pg],fun k D=>by rw[Pg];exact Of k D,fun id b hb R=>by rw[Pg];exact Pa id b hb R,fun V PE=>?_⟩;have PE:V=setCells J ⟨g,i*4,none⟩ [.bool b7,.slice a7 n7 c7,.bool b8,.slice a8 n8 c8]:=by rw[PE];exact congrArg (fun x=>setCells J x _) Pg
   rw[<-PE]at Vb TO QW Y PN hs6;refine⟨((i+1:Nat):Int),wo,?_⟩;intro GT w3 E
   exact⟨(i+1,Z.set i [.bool b7,.slice a7 n7 c7,.bool b8,.slice a8 n8 c8],Ox,w3),⟨h,df Y E.cU,fc QW (PQ Ox) E,by simpa using Pu,Vb.rel E X,TO.rel E X,hs6.rel E hC X⟩,
    Sub.gn [] E,by dsimp only;omega⟩
  ·have Wl:f=0:=hz.1 rfl;have Oh:tj (-p) ps i q=q:=by rw[VZ,Wl];grind
   refine⟨((i+1:Nat):Int),wo,?_⟩;intro GT w3 E
   exact⟨(i+1,Z,Od,w3),⟨h,df Y E.cU,fc Oa (PQ Od) E,Pu,by rw[<-Aw SA Oh];exact PW.rel E X,PB.rel E X,hs.rel E hC X⟩,
    Sub.gn [] E,by dsimp only;omega⟩
 ·have h:i=n:=by
   have:¬i<n:=by simpa using h
   omega
  subst h;intro In w5 r5;refine⟨rfl,df Y r5.cU,Z,fc Oa (PQ iv) r5,Pu,?_⟩;have:=(PW.rel r5 X).cN (S':=Nw S w w5) fun g Y=>Cv.nw Y r5
  rwa [<-SZ,rU]at this
section
variable{S:Nat->Prop}{w:World}{v u vx vk vp:Value}{z:Int}{M Fn:List (List (Int×Int))}{b Do P:List (Int×Int)}
end
end Go.Ex
namespace Go.Sx
open Go Go.Ex Go.Proofs
variable{W:List Value}{O:Nat->Sx.dq}
theorem Sub.aBF{B:Nat}{l tl:Env}{nx:Nat}{H tH:Hp}{iv:Iv}{w J:World}{id t n sz:Nat}{e:TypeId}(r:Rel H nx iv B w O J)(PY:dG H id=some (.vec e sz W))(R:(O id).nil=false)(ht:fm l t=some (.o (.w id n)))
  (hs:vT H tH) (ho:DZ id tH=true) (L:FC l tl) (G:jw nx tl):
  Sub B l nx O J ⟨(t,.o (.v (.slice (some ⟨(O id).g,0,none⟩) n (O id).cap)))::tl,tH,nx,((O id).g,(O id).g+1)::iv,J⟩:=
 ⟨O,r.free PY (by simp) R hs ho,fun u v hv=>uq R ht L G u v hv⟩
end Go.Sx
namespace Go.Ex
open Go Go.Sx Go.Proofs
end Go.Ex
namespace Go.Ex
open Go Go.Sx Go.Proofs
variable{Z:List (List Value)}{qs ri:List Rat}{rv:List Value}{i:Nat}{a:Option Addr}{row:Option Nat}{q:Rat}{v:Value}
def Ob(rv:List Value)(g:Nat):Prop:=∃v∈rv,v.ownBlock=some g
def Lr(S:Nat->Prop)(B:Nat)(iv:Iv)(rv:List Value)(g:Nat):Prop:=Cv S B iv g/\¬Ob rv g
structure mE(w:World)(S:Nat->Prop)(B:Nat)(iv:Iv)(rv:List Value)(n:Nat)(M:List (List Rat)):Prop where
 len:rv.length=M.length
 row:∀(i:Nat) v qs,rv[i]? =some v->M[i]? =some qs->ir w (Lr S B iv rv) v n qs
 uw:∀(i j:Nat) a b g,rv[i]? =some a->rv[j]? =some b->a.ownBlock=some g->b.ownBlock=some g->i=j
 new:∀g,Ob rv g->Cv FF B iv g
theorem Ob.append{g:Nat}:Ob (rv++[v]) g↔Ob rv g\/v.ownBlock=some g:=by
 unfold Ob;simp[or_and_right,exists_or]
section
variable{S S':Nat->Prop}{H:Hp}{nx n:Nat}{iv K:Iv}{B:Nat}{w J V:World}{O:Nat->Sx.dq}{rv:List Value}{M:List (List Rat)}
theorem mE.nil:mE w S B iv [] n []:=⟨rfl,fun i v qs h=>(by cases h),fun i j a b g h=>(by cases h),fun g ⟨v,hv,_⟩=>by cases hv⟩
theorem mE.cK(h:mE w S B iv rv n M)(D:∀g,Cv S B iv g->V.heap[g]? =w.heap[g]?):mE V S B iv rv n M:=
 ⟨h.len,fun i v qs L G=>(h.row i v qs L G).cK fun g Y=>Y.elim (fun Y=>D g Y.1) fun Y=>D g (Er (h.new g ⟨v,aC L,Y⟩)),h.uw,h.new⟩
theorem mE.rel(h:mE w S B iv rv n M)(r:Rel H nx iv B w O J)(X:∀g,S g->g<B):mE J S B iv rv n M:=h.cK fun _ Y=>Rel.same r X Y
theorem mE.mono(h:mE w S B iv rv n M)(hm:∀p,p∈iv->p∈K):mE w S B K rv n M:=
 ⟨h.len,fun i v qs L G=>(h.row i v qs L G).cN fun _ Y=>⟨Y.1.mono hm,Y.2⟩,h.uw,fun g Y=>(h.new g Y).mono hm⟩
theorem mE.cM(h:mE w S B iv rv n M)(r:Rel H nx iv B w O J)(X:∀g,S g->g<B)(U:Ext J V)(hm:∀p,p∈iv->p∈K):mE V S B K rv n M:=
 ((h.rel r X).cK fun g Y=>U.block g (Rel.old r X g Y)).mono hm
theorem mE.low(h:mE w S B iv rv n M){g:Nat}(Y:Ob rv g):B<=g:=(h.new g Y).elim (fun h=>h.elim) fun h=>h.1
theorem mE.lt(h:mE w S B iv rv n M)(r:Rel H nx iv B w O J){g:Nat}(Y:Ob rv g):g<J.heap.size:=Rel.old r (gY B) g (h.new g Y)
theorem Lr.grown(r:Rel H nx iv B w O J)(X:∀g,S g->g<B)(Y:J.grownBy V row)(Oa:∀g,row=some g->Ob rv g):∀g,Lr S B iv rv g->V.heap[g]? =w.heap[g]? :=fun g h=>by
 rw[Y.block g (Rel.old r X g h.1) fun e=>h.2 (Oa g e.symm),Rel.same r X h.1]
theorem mE.cU(h:mE w S B iv rv n M)(r:Rel H nx iv B w O J)(Y:J.grownBy V row)(Oa:∀g,row=some g->Ob rv g):dw B J V:=
 dw.grown Y (fun g e=>h.low (Oa g e)) r.cI
theorem mE.setRow(h:mE J S B iv rv n M)(Ow:∀g,Cv S B iv g->g<J.heap.size){vi:Value}(Uj:rv[i]? =some vi)(PC:J.grownBy V vi.ownBlock)(hB:B<=J.heap.size)
  (hq:ir V (Nw (Lr S B iv rv) J V) vi n qs):mE V S B ((J.heap.size,V.heap.size)::iv) rv n (M.set i qs):=by
 have hnw:∀g,Nw (Lr S B iv rv) J V g->Lr S B ((J.heap.size,V.heap.size)::iv) rv g:=fun g Y=>by
  rcases Y with Y|Y
  ·exact⟨Y.1.mono fun p hp=>aB _ hp,Y.2⟩
  ·exact⟨.inr ⟨by omega,_,_,aF,Y.1,Y.2⟩,fun hm=>by have:=Ow g (Er (h.new g hm));omega⟩
 refine⟨by rw[bL];exact h.len,fun k v ps L G=>?_,h.uw,fun g Y=>(h.new g Y).mono fun p hp=>aB _ hp⟩;by_cases D:i=k
 ·subst D;rw[Uj]at L;injection L with L;subst L;rw[aP (by rw[<-h.len];exact(aD.1 Uj).1)]at G;injection G with G;subst G;exact hq.cN hnw
 ·rw[aS D]at G;refine((h.row k v ps L G).cK fun g Y=>?_).cN fun g Y=>⟨Y.1.mono fun p hp=>aB _ hp,Y.2⟩
  rcases Y with Y|Y
  ·exact PC.block g (Ow g Y.1) fun e=>Y.2 ⟨vi,aC Uj,e.symm⟩
  ·exact PC.block g (Ow g (Er (h.new g ⟨v,aC L,Y⟩))) fun e=>D (h.uw i k vi v g Uj L e.symm Y)
theorem mE.EI(hM:mE w S B iv rv n M)(r:Rel H nx iv B w O J)(X:∀g,S g->g<B){i j h:Nat}{vi vj vby:Value}{ri rj:List Rat}{p:Rat}(Pr:i≠j)(Uj:rv[i]? =some vi)(TP:rv[j]? =some vj)(hri:M[i]? =some ri)(hrj:M[j]? =some rj)
  (PB:ed w (Lr S B iv rv) vby p) (hq:∀q∈ri,rl q+1<=h) (hqj:∀q∈rj,rl q+1<=h) (hb:rl p+1<=h) (hh:3*h<=90000):
  eI PG F'.oo #[vi,vj,vby] J (fun e V=>e= .returned (.tuple #[])/\J.grownBy V vi.ownBlock/\(∀g,vi.ownBlock=some g->Ob rv g)/\mE V S B ((J.heap.size,V.heap.size)::iv) rv n (M.set i (mW ri rj p))):=by
 have Sd:=hM.rel r X;have L:=Sd.row i vi ri Uj hri;have G:=Sd.row j vj rj TP hrj;have Tc:∀g,vi.ownBlock=some g->Ob rv g:=fun g Y=>⟨_,aC Uj,Y⟩
 have hmj:∀g,vj.ownBlock=some g->Ob rv g:=fun g Y=>⟨_,aC TP,Y⟩
 refine(Ns (C:=fun g=>vj.ownBlock=some g) (S:=Lr S B iv rv) (fun x F=>hM.lt r (hmj x F)) (fun g Y=>Rel.old r X g Y.1) L (ed.cK PB fun g Y=>Rel.same r X Y.1) G.read G.len (fun g Y F=>F.2 (Tc g Y)) (fun g Y F=>Pr (hM.uw i j _ _ g Uj TP Y F)) hq hqj hb hh).mono fun e w8 U=>?_;obtain⟨rfl,PC,Oa⟩:=U;exact⟨rfl,PC,Tc,Sd.setRow (fun g Y=>Rel.old r X g Y) Uj PC r.cI Oa⟩
theorem mE.form(hM:mE w S B iv rv n M)(hv:rv[i]? =some v):∃a c,v= .slice a n c:=by
 obtain⟨qs,hq⟩:∃qs,M[i]? =some qs:=⟨_,aA (by rw[<-hM.len];exact(aD.1 hv).1)⟩
 obtain⟨a,c,h,_⟩:=(hM.row i v qs hv hq).form;exact⟨a,c,h⟩
theorem mE.load(hM:mE w S B iv rv n M){k:Nat}{c:Nat}(hv:rv[i]? =some (.slice a n c))(hq:M[i]? =some qs)(D:qs[k]? =some q):
  ∃ad W,a=some ad/\jD w (Lr S B iv rv) W q/\∀j u,W[j]? =some u->Cv FF B iv ad.block/\w.cell? ((ad.add (k*4)).add j)=some u:=by
 obtain⟨ad,W,L,G,N⟩:=gX.load (hM.row i _ qs hv hq).read D;refine⟨ad,W,L,G,fun j u hu=>⟨?_,(N j u hu).2⟩⟩;have:=(N j u hu).1;exact hM.new _ ⟨_,aC hv,this⟩
theorem mE.store(hM:mE w S B iv rv n M)(r:Rel H nx iv B w O J)(X:∀g,S g->g<B){k:Nat}{a1 a2:Option Addr}{c n1 c1 n2 c2:Nat}{b b2:Bool}(Uj:rv[i]? =some (.slice a n c))(hri:M[i]? =some ri)(D:k<n)
  (hf:dA w (Lr S B iv rv) (.agg #[.bool b,.slice a1 n1 c1,.bool b2,.slice a2 n2 c2]) q):
  ∃g,a=some ⟨g,0,none⟩/\((⟨g,0,none⟩:Addr).add ((k:Int).toNat*4)).spot=none/\
   (∀j,j<4->(J.cell? (((⟨g,0,none⟩:Addr).add ((k:Int).toNat*4)).add j)).isSome=true/\J.frozen? (((⟨g,0,none⟩:Addr).add ((k:Int).toNat*4)).add j)=false)/\
   (∀id b,dG H id=some b->(O id).nil=false->(O id).g≠((⟨g,0,none⟩:Addr).add ((k:Int).toNat*4)).block)/\
   ∀V,V=setCells J ((⟨g,0,none⟩:Addr).add ((k:Int).toNat*4)) [.bool b,.slice a1 n1 c1,.bool b2,.slice a2 n2 c2]->mE V S B iv rv n (M.set i (ri.set k q))/\dw B J V/\Rel H nx iv B V O V/\∀g,Lr S B iv rv g->V.heap[g]? =w.heap[g]? :=by
 have Sd:=hM.rel r X;have Tc:∀g,(Value.slice a n c).ownBlock=some g->Ob rv g:=fun g Y=>⟨_,aC Uj,Y⟩
 obtain⟨g,rfl,L,G,N,h4⟩:=(Sd.row i _ ri Uj hri).store D (hf.cK fun g Y=>Rel.same r X Y.1) (fun g Y F=>F.2 (Tc g Y)) (fun x F=>Rel.old r X x F.1);refine⟨g,rfl,L,N,fun id b hb R=>by rw[G];exact Rel.not r (gY B) (hM.new g (Tc g rfl)) id b hb R,fun V PE=>?_⟩;obtain⟨k1,k2,k3⟩:=h4 V PE;have hs:=Sd.setRow (fun g Y=>Rel.old r X g Y) Uj k2 r.cI (k1.cN fun g Y=>.inl Y);refine⟨?_,hM.cU r k2 Tc,r.zJ (fun id b hb R=>Rel.not r (gY B) (hM.new g (Tc g rfl)) id b hb R) k2,Lr.grown r X k2 Tc⟩;refine⟨hs.len,fun j v qs h5 h6=>(hs.row j v qs h5 h6).cN fun x F=>⟨?_,F.2⟩,hs.uw,fun x F=>hM.new x F⟩;rcases F.1 with F|⟨m1,lo,A,m2,m3,m4⟩
 ·exact .inl F
 ·rcases List.mem_cons.1 m2 with e|m2
  ·injection e with e1 e2;subst e1 e2;omega
  ·exact .inr ⟨m1,lo,A,m2,m3,m4⟩
theorem mE.push(hM:mE w S B iv rv n M){gx c:Nat}(Qe:∀g,Cv S B iv g->g≠gx)(hBx:B<=gx)(Oa:ir w S (.slice (some ⟨gx,0,none⟩) n c) n qs)(X:∀g,S g->g<B):
  mE w S B ((gx,gx+1)::iv) (rv++[.slice (some ⟨gx,0,none⟩) n c]) n (M++[qs]):=by
 have RN:∀g,Ob rv g->g≠gx:=fun g Y=>Qe g (Er (hM.new g Y))
 have WJ:∀g,Lr S B iv rv g->Lr S B ((gx,gx+1)::iv) (rv++[.slice (some ⟨gx,0,none⟩) n c]) g:=fun g Y=>⟨Y.1.mono fun p hp=>aB _ hp,fun h=>by
  rcases Ob.append.1 h with h|h
  ·exact Y.2 h
  ·injection h with h;exact Qe g Y.1 h.symm⟩
 refine⟨by simp[hM.len],fun i v ps L G=>?_,fun i j a b g L G N h4=>?_,fun g Y=>?_⟩
 ·rcases aO i rv.length with A|A
  ·rw[aI A]at L;rw[aI (by rw[<-hM.len];exact A)]at G;exact(hM.row i v ps L G).cN WJ
  ·have SR:i=rv.length:=by have:=(aD.1 L).1;simp at this;omega
   rw[SR,aM (Nat.le_refl _),bJ]at L;rw[SR,hM.len,aM (Nat.le_refl _),bJ]at G;simp at L G;subst L G;refine Oa.cN fun g Y=>⟨.inl Y,fun h=>?_⟩
   have:=X g Y;rcases Ob.append.1 h with h|h
   ·have:=hM.low h;omega
   ·injection h with h;have h:gx=g:=h;omega
 ·have key:∀(k:Nat) v,(rv++[Value.slice (some ⟨gx,0,none⟩) n c])[k]? =some v->(k<rv.length/\rv[k]? =some v)\/(k=rv.length/\v= .slice (some ⟨gx,0,none⟩) n c):=fun k v D=>by
   rcases aO k rv.length with A|A
   ·rw[aI A]at D;exact .inl ⟨A,D⟩
   ·have SR:k=rv.length:=by have:=(aD.1 D).1;simp at this;omega
    rw[SR,aM (Nat.le_refl _),bJ]at D;simp at D;exact .inr ⟨SR,D.symm⟩
  rcases key i a L with⟨_,k1⟩|⟨e1,rfl⟩<;>rcases key j b G with⟨_,k2⟩|⟨e2,rfl⟩
  ·exact hM.uw i j a b g k1 k2 N h4
  ·injection h4 with h4;exact absurd h4.symm (RN g ⟨a,aC k1,N⟩)
  ·injection N with N;exact absurd N.symm (RN g ⟨b,aC k2,h4⟩)
  ·rw[e1,e2]
 ·rcases Ob.append.1 Y with h|h
  ·exact(hM.new g h).mono fun p hp=>aB _ hp
  ·injection h with h;have h:gx=g:=h;subst h;exact .inr ⟨hBx,_,_,aF,Nat.le_refl _,bQ _⟩
theorem mE.drop(hM:mE w S B iv (rv++[v]) n (M++[qs])):mE w S B iv rv n M:=by
 have hl:rv.length=M.length:=by have:=hM.len;simpa using this
 have RN:∀g,Ob rv g->Ob (rv++[v]) g:=fun g Y=>Ob.append.2 (.inl Y);refine⟨hl,fun i u ps L G=>?_,fun i j a b g L G=>hM.uw i j a b g ?_ ?_,fun g Y=>hM.new g (RN g Y)⟩
 ·have A:=(aD.1 L).1;exact(hM.row i u ps (by rw[aI A];exact L) (by rw[aI (by rw[<-hl];exact A)];exact G)).cN fun g Y=>⟨Y.1,fun h=>Y.2 (RN g h)⟩
 ·rw[aI (aD.1 L).1];exact L
 ·rw[aI (aD.1 G).1];exact G
theorem aBY{id m:Nat}(r:Rel H nx iv B w O J)(h:dG H id=some (.vec T.Rat 4 Z.flatten))(hl:Z.length=m)(h0:0<m)(hm:m<=maxLen)(hF:Fc J S Z qs):
  (O id).nil=false/\B<=(O id).g/\(∀g,Out B iv g->g≠(O id).g)/\ir J S (.slice (some ⟨(O id).g,0,none⟩) m (O id).cap) m qs:=by
 have PL:=ef hF.mR;rcases r.vec id _ _ _ h with⟨_,G⟩|⟨L,spare,G,N,h4⟩
 ·rw[G]at PL;rw[hl]at PL;simp at PL;omega
 ·refine⟨L,(r.low id _ h L).1,fun g Y e=>?_,Z,⟨by rw[PL,hl],.inr ⟨(O id).g,(O id).cap,_,rfl,aQ _,G,?_,h4,by simpa using N,by rw[show m*4=Z.flatten.length by rw[PL,hl]];simp⟩⟩,hl,hF⟩
  ·exact Rel.not r (fun _ h=>h) Y id _ h L e.symm
  ·rw[List.length_append,PL,hl]at N;omega
end
end Go.Ex
namespace Go.Sx
open Go Go.Ex Go.Proofs
variable{O:Nat->Sx.dq}
theorem Sub.EN{B nx:Nat}{l:Env}{H:Hp}{iv:Iv}{w J:World}{t:xD}(id p e sz:Nat){bt:Nat}{W:List At}(PY:dG H id=some (.box bt W))(hp:W[p]? =some (.v (.slice none 0 0)))(RS:jw nx l)(r:Rel H nx iv B w O J)
  (h:∀Id,Rel ((id,.box bt (W.set p (.w nx 0)))::(nx,.vec e sz [])::H) (nx+1) iv B w Id J->Sx.Sub B l (nx+1) Id J t):Sx.Sub B l nx O J t:=by
 have r1:=r.push (.vec e sz []) ⟨0,0,true⟩ (V:=J) rfl rfl rfl (Nat.le_refl _) (fun _ _=>rfl) (fun h=>by cases h) (.inl ⟨rfl,rfl⟩) trivial;have Oe:id≠nx:=Nat.ne_of_lt (r.keys id _ PY);have Wm:dG ((nx,.vec e sz [])::H) id=some (.box bt W):=by rw[dB,aH (fun h=>Oe h.symm)];exact PY
 have WK:=r1.nn id _ Wm (by intros;simp) (by simp);have PT:=r1.box id bt W Wm;have RF:(W.set p (.w nx 0)).map (At.den (Sx.gT O nx ⟨0,0,true⟩))=W.map (At.den (Sx.gT O nx ⟨0,0,true⟩)):=by
  refine bF fun j=>?_;rw[aL,aL];by_cases hj:p=j
  ·subst hj;rw[aP (aD.1 hp).1,hp];simp[At.den,eR]
  ·rw[aS hj]
 have r2:=r1.store (b':=.box bt (W.set p (.w nx 0))) (H':=(id,.box bt (W.set p (.w nx 0)))::(nx,.vec e sz [])::H) (V:=J) Wm (by simp) WK (fun j=>by
  rw[dB];by_cases hj:id=j
  ·subst hj;rw[if_pos rfl]
  ·rw[aH hj,aH (fun h=>hj h.symm)]) rfl rfl rfl rfl (fun _ _=>rfl) ⟨WK,by rw[RF];exact PT⟩ (fun x F=>by
   rcases bC F with F|rfl
   ·exact r1.Kh id bt W Wm x F
   ·exact bQ nx)
 obtain⟨G8,L,G⟩:=h _ r2;refine⟨G8,L,fun x v hv=>?_⟩;obtain⟨N,v0,h4,h5⟩:=G x v hv;refine⟨N,v0,h4,?_⟩;rw[<-h5];exact SV.jT (fun id PY=>gD id PY) (RS.get _ _ h4)
end Go.Sx
namespace Go.Ex
open Go Go.Sx Go.Proofs
end Go.Ex
namespace Go.Ex
open Go Go.Sx Go.Proofs
variable{a:Act}{Fn:Act->World->Prop}{la lx:Array Bool}{A':Array Bool->World->Prop}{Q:Exit->Act->World->Prop}{b i j:Nat}{oi:Oper}{Do:Sem Next}{v:Value}{w:World}{AC:World->Prop}
inductive Tq where
 |nil
 |x (i:Nat) (t:Tq)
 |two (i:Nat) (t:Tq) (j:Nat) (u:Tq)
 |three (i:Nat) (t:Tq) (j:Nat) (u:Tq) (k:Nat) (v:Tq)
section
variable{P:Program}{τ:nR}{ops:Array Oper}{B n nx:Nat}{l:Env}{H:Hp}{iv:Iv}{w J:World}{O:Nat->Sx.dq}{a:Act}
end
section
variable{P:Program}{ops:Array Oper}{Q:Exit->Act->World->Prop}{md:Region.Mode}
theorem Kd{oj:Oper}(hj:ops[j]? =some oj)(R5:oi.apart ops oj=true)
  (hsi:∀W b,oi.op≠ .select W b) (hsj:∀W b,oj.op≠ .select W b)
  (hQ:∀c a w,Q (.panic c) (a.put oi.dst v) w->Q (.panic c) a w)
  (hy:Region.wanted oi (yielded ops a.tmps)=true/\execOp a.eval oi=Do) (h:wpOp P ops Q j Fn (a.put oi.dst v) w):
  wpOp P ops Q j (fun a' J=>(Region.wanted oi (yielded ops a'.tmps)=true/\execOp a'.eval oi=Do)/\Fn (a'.put oi.dst v) J) a w:=by
 obtain⟨L,G,N⟩:=Oper.apart_spec R5;have cK:∀(a:Act),(Region.wanted oi (yielded ops a.tmps)=true/\execOp a.eval oi=Do)->∀u,(Region.wanted oi (yielded ops (a.put oj.dst u).tmps)=true/\execOp (a.put oj.dst u).eval oi=Do):=fun a hy u=>
  ⟨(wanted_put oi a oj.dst u N).trans hy.1,(execOp_put oi hsi a oj.dst u N).trans hy.2⟩
 have keepD:∀d:Deferred,(Region.wanted oi (yielded ops ({a with defers:=d::a.defers}:Act).tmps)=true/\execOp ({a with defers:=d::a.defers}:Act).eval oi=Do):=fun d=>hy;unfold wpOp at*
 simp only[hj]at*
 rw[wanted_put oj a oi.dst v L]at h;split
 ·rename_i I;simp only[I,if_true]at h;rcases h with h|⟨TJ,VQ⟩
  case inr=>exact .inr ⟨by unfold Oper.asks at *;rw[execOp_put oj hsj a oi.dst v L]at TJ;exact TJ,VQ⟩
  refine .inl ?_;unfold Oper.wp at*
  rw[execOp_put oj hsj a oi.dst v L]at h;generalize (execOp a.eval oj).run P w=r at*
  cases r with
  |ok n J=>
   cases n<;>simp only[Oper.upon]at h ⊢
   case value u=>exact⟨cK a hy u,by rw[<-Act.put_comm a v u G];exact h⟩
   case skip=>exact⟨cK a hy _,by rw[<-Act.put_comm a v undef G];exact h⟩
   case defer d=>
    refine⟨cK ({a with defers:=d::a.defers}:Act) (keepD d) undef,?_⟩;rw[<-Act.put_comm _ v undef G,<-Act.put_defers];exact h
   case enter f args=>
    refine Calls.mono h fun e w'' U=>?_
    cases e with
    |returned u=>exact⟨cK a hy u,by rw[<-Act.put_comm a v u G];exact U⟩
    |panicked c=>exact hQ _ _ _ U
    |outgrown=>exact U
   case row row args=>exact Rows.mono h fun u w'' U=>⟨cK a hy u,by rw[<-Act.put_comm a v u G];exact U⟩
  |halt x J=>
   cases x<;>simp only[Oper.upon]at h ⊢
   case panic u=>exact hQ _ _ _ h
 ·rename_i I;simp only[I]at h;exact⟨cK a hy _,by rw[<-Act.put_comm a v undef G];exact h⟩
def rE(P:Program)(md:Region.Mode)(ops:Array Oper)(Q:Exit->Act->World->Prop)(A':Array Bool->World->Prop):Nat->Array Bool->Act->World->Prop
 |0,lx,a,w=>A' lx w/\Region.ready md ops lx=[]/\Q .normal a w
 |fuel+1,lx,a,w=>A' lx w/\(Region.ready md ops lx=[]->Q .normal a w)/\∀i∈Region.ready md ops lx,wpOp P ops Q i (fun a' J=>rE P md ops Q A' fuel (lx.setIfInBounds i true) a' J) a w
theorem B2{A':Array Bool->World->Prop}:∀(fuel:Nat) (lx:Array Bool) (a:Act) (w:World),rE P md ops Q A' fuel lx a w->wpAny P md ops Q fuel lx a w
 |0,_,_,_,h=>h.2
 |fuel+1,_,_,_,h=>⟨h.2.1,fun i A=>wpOp_mono (fun _ _ h'=>B2 fuel _ _ _ h') (h.2.2 i A)⟩
theorem kj{A' A8:Array Bool->World->Prop}(hIJ:∀lx w,A' lx w->A8 lx w):∀(fuel:Nat) (lx:Array Bool) (a:Act) (w:World),rE P md ops Q A' fuel lx a w->rE P md ops Q A8 fuel lx a w
 |0,_,_,_,h=>⟨hIJ _ _ h.1,h.2⟩
 |fuel+1,_,_,_,h=>⟨hIJ _ _ h.1,h.2.1,fun i A=>wpOp_mono (fun _ _ h'=>kj hIJ fuel _ _ _ h') (h.2.2 i A)⟩
theorem Gp(hI:A' lx w)(hr:Region.ready md ops lx=[])(h:Q .normal a w):∀fuel,rE P md ops Q A' fuel lx a w
 |0=>⟨hI,hr,h⟩
 |_+1=>⟨hI,fun _=>h,by rw[hr];simp⟩
def nP(ops:Array Oper)(b:Nat)(lx:Array Bool):Prop:=∀(k:Nat) o,tb b k=true->ops[k]? =some o->vQ o.op=false->lx.getD k false=false
theorem jl(A:ops[i]? =some oi)(hR:vQ oi.op=true):nP ops b (lx.setIfInBounds i true)↔nP ops b lx:=by
 have key:∀(k:Nat) o,ops[k]? =some o->vQ o.op=false->(lx.setIfInBounds i true).getD k false=lx.getD k false:=fun k o ho hr=>by
  have:i≠k:=fun e=>by subst e;rw[A]at ho;injection ho with ho;subst ho;rw[hR]at hr;cases hr
  exact getD_set_ne false this
 exact⟨fun h k o L G N=>by rw[<-key k o G N];exact h k o L G N,fun h k o L G N=>by rw[key k o G N];exact h k o L G N⟩
theorem vN(A:ops[i]? =some oi)(hR:vQ oi.op=true)(Pb:∀(j:Nat) (o:Oper) W b,ops[j]? =some o->o.op≠ .select W b)
  (hQ:∀c a w,Q (.panic c) (a.put oi.dst v) w->Q (.panic c) a w) (QM:∀j,tb b j=true->∃oj e,ops[j]? =some oj/\e∈oj.after/\Region.binds md e=true/\(e.on=i\/tb b e.on=true))
  (hY:∀w,AC w->Do.run P w= .ok (.value v) w) (hI:∀lx w,A' (lx.setIfInBounds i true) w->A' lx w):
  ∀(fuel:Nat) (lx:Array Bool) (a:Act) (w:World),(∀j,tb b j=true->lx.getD j false=false)->
   (∀j oj,ops[j]? =some oj->j≠i->lx.getD j true=false->tb b j=false->oi.apart ops oj=true)->
   i∈Region.ready md ops lx->(Region.wanted oi (yielded ops a.tmps)=true/\execOp a.eval oi=Do)->
   rE P md ops Q (fun lx w=>A' lx w/\(nP ops b lx->AC w)) fuel (lx.setIfInBounds i true) (a.put oi.dst v) w->rE P md ops Q A' (fuel+1) lx a w:=by
 intro fuel;have run:∀(lx:Array Bool) (a:Act) (w:World),(∀j,tb b j=true->lx.getD j false=false)->(Region.wanted oi (yielded ops a.tmps)=true/\execOp a.eval oi=Do)->(A' (lx.setIfInBounds i true) w/\(nP ops b (lx.setIfInBounds i true)->AC w))->
   ∀Fn:Act->World->Prop,Fn (a.put oi.dst v) w->wpOp P ops Q i Fn a w:=fun lx a w PD hy hH Fn hK=>by
  have hYw:=hH.2 ((jl A hR).2 fun k o L _ _=>PD k L);unfold wpOp;simp only[A,hy.1,if_true]
  refine .inl ?_;unfold Oper.wp;rw[hy.2,hY w hYw];exact hK
 induction fuel with
 |zero=>
  intro lx a w PD _ hr hy H;refine⟨hI _ _ H.1.1,fun h=>(by rw[h]at hr;cases hr),fun j hj=>?_⟩;by_cases Ph:j=i
  ·subst Ph;exact run lx a w PD hy H.1 _ (kj (fun _ _ h=>h.1) 0 _ _ _ H)
  ·have:=ready_mono hj Ph;rw[H.2.1]at this
   cases this
 |succ fuel ih=>
  intro lx a w PD Rg hr hy H;refine⟨hI _ _ H.1.1,fun h=>(by rw[h]at hr;cases hr),fun j hj=>?_⟩;by_cases Ph:j=i
  ·subst Ph;exact run lx a w PD hy H.1 _ (kj (fun _ _ h=>h.1) (fuel+1) _ _ _ H)
  ·have L:=H.2.2 j (ready_mono hj Ph);obtain⟨VR,oj,R1,Pc⟩:=mem_ready.1 hj;have Pa:tb b j=false:=by
    cases hb:tb b j with
    |false=>rfl
    |true=>
     exfalso;obtain⟨oj',e,S8,U,hbi,VB⟩:=QM j hb;rw[R1]at S8;injection S8 with S8;subst S8;have L:=Pc e U hbi;rcases VB with heq|Q5
     ·have h0:=(mem_ready.1 hr).1;rw[heq]at L;rcases aO i lx.size with h'|h'
      ·simp[h']at h0 L;rw[h0]at L;cases L
      ·simp[Array.getElem?_eq_none h']at L
     ·rw[PD _ Q5]at L;cases L
   have G:=Kd R1 (Rg j oj R1 Ph VR Pa) (fun W b=>Pb i oi W b A) (fun W b=>Pb j oj W b R1) hQ hy L;have hbl':∀k,tb b k=true->(lx.setIfInBounds j true).getD k false=false:=fun k D=>by
    rw[getD_set_ne false (fun e=>(by subst e;rw[Pa]at D;cases D))];exact PD k D
   have To:∀k ok,ops[k]? =some ok->k≠i->(lx.setIfInBounds j true).getD k true=false->tb b k=false->oi.apart ops ok=true:=fun k ok D WI VL TA=>by
    refine Rg k ok D WI ?_ TA;by_cases Sb:j=k
    ·subst Sb;exact VR
    ·rw[getD_set_ne true Sb]at VL;exact VL
   refine wpOp_mono (fun a' J N=>?_) G;refine ih (lx.setIfInBounds j true) a' J hbl' To (ready_mono hr (Ne.symm Ph)) N.1 ?_;rw[Array.setIfInBounds_comm _ _ Ph];exact N.2
end
structure Gh where
 u:Nat
 d:Nat
 T:Nat
 b:Nat
def Eo(τ:nR)(B:Nat):List Gh->Env->Hp->Nat->Iv->World->Prop->Prop
 |[],_,_,_,_,_,Fn=>Fn
 |g::r,l,H,nx,iv,w,Fn=>match fm l g.u with
  |some su=>CL τ B g.T su H nx iv w (fun v=>fm l g.d=some v/\Eo τ B r l H nx iv w Fn)
  |none=>False
inductive Tg where
 |nil
 |x (i:Nat) (t:Tg)
 |two (i:Nat) (t:Tg) (j:Nat) (u:Tg)
 |three (i:Nat) (t:Tg) (j:Nat) (u:Tg) (k:Nat) (v:Tg)
 |ld (i b:Nat) (t:Tg)
 |wX (id:Nat) (t:Tg)
def DV(j:Nat):List Gh->List Gh
 |[]=>[]
 |g::r=>match tb g.b j with
  |true=>DV j r
  |false=>g::DV j r
def stepG(τ:nR)(B:Nat)(rd:Bool)(C9:List Gh)(j:Nat)(l:Env)(H:Hp)(nx:Nat)(iv:Iv)(w:World)(Fn:List Gh->Prop):Prop:=match rd with
 |true=>Fn C9
 |false=>Eo τ B (DV j C9) l H nx iv w (Fn (DV j C9))
def Gq(ops:Array Oper)(m i:Nat)(oi:Oper)(b:Nat):List Oper->Nat->Bool
 |[],_=>true
 |oj::r,j=>(Nat.beq j i||tb m j||tb b j||oi.apart ops oj)&&Gq ops m i oi b r (j+1)
def JI(m i u d:Nat):List Oper->Nat->Bool
 |[],_=>true
 |oj::r,j=>(tb m j||match oj.dst with
   |none=>true
   |some e=> !Nat.beq e u&&(Nat.beq j i|| !Nat.beq e d))&&JI m i u d r (j+1)
def NI(o:Oper):Option (Nat×Nat×Nat):=match o with
 |⟨some d,.load T (.tmp u),_,_,_,none⟩=>some (d,T,u)
 |_=>none
def mO(ops:Array Oper):Tg->Array Bool->Bool
 | .nil,lx=>(Region.ready .any ops lx).isEmpty
 | .x i t,lx=>match ops[i]? with
  |none=>false
  |some o=>(Region.ready .any ops lx).contains i&&((Region.ready .any ops lx).all (fun j=>Nat.beq j i)||JK o.op&&o.guard.isNone&&Gq ops (jF lx.toList 0) i o (B5 (jF lx.toList 0) i ops.toList 0 0) ops.toList 0)&&mO ops t (lx.setIfInBounds i true)
 | .two i t j u,lx=>match Region.ready .any ops lx with
  |[a,b]=>Nat.beq a i&&(Nat.beq b j&&(mO ops t (lx.setIfInBounds i true)&&mO ops u (lx.setIfInBounds j true)))
  |_=>false
 | .three i t j u k v,lx=>match Region.ready .any ops lx with
  |[a,b,c]=>Nat.beq a i&&(Nat.beq b j&&(Nat.beq c k&&(mO ops t (lx.setIfInBounds i true)&&(mO ops u (lx.setIfInBounds j true)&&mO ops v (lx.setIfInBounds k true)))))
  |_=>false
 | .ld i b t,lx=>match ops[i]? with
  |none=>false
  |some o=>match NI o with
   |none=>false
   |some (d,_,u)=>(Region.ready .any ops lx).contains i&&Nat.beq b (B5 (jF lx.toList 0) i ops.toList 0 0)&&Gq ops (jF lx.toList 0) i o b ops.toList 0&&JI (jF lx.toList 0) i u d ops.toList 0&&mO ops t (lx.setIfInBounds i true)
 | .wX _ t,lx=>mO ops t lx
def CE(P:Program)(τ:nR)(B:Nat)(all:List Oper):Tg->List Gh->Env->Hp->Nat->Iv->World->KT->Prop
 | .nil,_,l,H,nx,iv,w,Fn=>Fn l H nx iv w
 | .x i t,C9,l,H,nx,iv,w,Fn=>sU all i (fun o=>iR (!gL o) P τ B all o l H nx iv w (fun l' H' On K J=>stepG τ B (vQ o.op) C9 i l' H' On K J (fun G'=>CE P τ B all t G' l' H' On K J Fn)))
 | .two i t j u,C9,l,H,nx,iv,w,Fn=>sU all i (fun o=>iR (!gL o) P τ B all o l H nx iv w (fun l' H' On K J=>stepG τ B (vQ o.op) C9 i l' H' On K J (fun G'=>CE P τ B all t G' l' H' On K J Fn)))/\
   sU all j (fun o=>iR (!gL o) P τ B all o l H nx iv w (fun l' H' On K J=>stepG τ B (vQ o.op) C9 j l' H' On K J (fun G'=>CE P τ B all u G' l' H' On K J Fn)))
 | .three i t j u k v,C9,l,H,nx,iv,w,Fn=>sU all i (fun o=>iR (!gL o) P τ B all o l H nx iv w (fun l' H' On K J=>stepG τ B (vQ o.op) C9 i l' H' On K J (fun G'=>CE P τ B all t G' l' H' On K J Fn)))/\
   (sU all j (fun o=>iR (!gL o) P τ B all o l H nx iv w (fun l' H' On K J=>stepG τ B (vQ o.op) C9 j l' H' On K J (fun G'=>CE P τ B all u G' l' H' On K J Fn)))/\
   sU all k (fun o=>iR (!gL o) P τ B all o l H nx iv w (fun l' H' On K J=>stepG τ B (vQ o.op) C9 k l' H' On K J (fun G'=>CE P τ B all v G' l' H' On K J Fn))))
 | .ld i b t,C9,l,H,nx,iv,w,Fn=>sU all i (fun o=>match NI o with
  |some (d,T,u)=>match fm l u with
   |some su=>CL τ B T su H nx iv w (fun v=>CE P τ B all t (⟨u,d,T,b⟩::C9) ((d,v)::l) H nx iv w Fn)
   |none=>False
  |none=>False)
 | .wX id t,C9,l,H,nx,iv,w,Fn=>∃H' b,dG H id=some b/\b≠ .dead/\vT H H'/\DZ id H'=true/\∀O J,Rel H nx iv B w O J->(O id).nil=false/\∃l',(∀u v,fm l' u=some v->v.sc nx/\∃v',fm l u=some v'/\v'.den O=v.den O)/\CE P τ B all t C9 l' H' nx (((O id).g,(O id).g+1)::iv) J Fn
section
variable{P:Program}{τ:nR}{ops:Array Oper}{B n nx:Nat}{l:Env}{H:Hp}{iv:Iv}{w J:World}{O:Nat->Sx.dq}{a:Act}
theorem aBP(hτ:fo P τ){o:Oper}(ho:ops[i]? =some o)(hd:∀d,o.dst=some d->d<n){Fn:KT}{next:Act->World->Prop}
  (L:iR (!gL o) P τ B ops.toList o l H nx iv w Fn) (sat:Sat n l H nx iv B w O a J)
  (R:∀l' H' On K V G8 x w3,Fn l' H' On K V->Sat n l' H' On K B V G8 (a.put o.dst x) w3->(vQ o.op=true->w3=J)->next (a.put o.dst x) w3):
  wpOp P ops Q i next a J:=by
 unfold iR at L;refine pj ho ?_;rcases lA sat L with⟨I,l1,G,sat1⟩|⟨I,l1,G,sat1⟩
 ·refine .inl ⟨I,?_⟩
  cases hR:vQ o.op with
  |true=>
   obtain⟨v,hK,R4,Ot⟩:=(mS hτ G sat1 hR).resolve_right (fun hh=>by have:=hh.1;rw[sY hR]at this;cases this);obtain⟨l2,N,sat2⟩:=ix sat1 hK hd R4;exact nC (Ot J (.inr sat1.rel)) (R _ _ _ _ _ _ _ _ N sat2 fun _=>rfl)
  |false=>
   have nr:∀w3:World,vQ o.op=true->w3=J:=fun w3 h=>by rw[hR]at h;cases h
   cases hA:NJ o.op with
   |true=>
    obtain⟨b,v,mk,obj,hK,PH,hb,hv,WT,QZ,WU⟩:=oL hτ G sat1 hA;have Pf:Rel ((nx,b)::H) (nx+1) iv B w (Sx.gT O nx ⟨J.heap.size,0,false⟩) (J.alloc obj):=
     sat1.rel.push b _ rfl rfl rfl (by simp) (fun k D=>heap_alloc_old _ _ D) (fun _=>⟨Nat.le_refl _,by simp⟩) (QZ _ _ (heap_alloc_new _ _)) hb
    obtain⟨l2,N,sat2⟩:=ix (sat1.next Pf (Nat.le_succ _) (fun id PY=>gD id PY)) hK hd hv;rw[WT]at sat2;exact nC (v:=mk J.heap.size) (V:=J.alloc obj) (WU J) (R _ _ _ _ _ _ _ _ N sat2 (by rw[hR];exact fun h=>by cases h))
   |false=>
    cases hH:rf o with
    |false=>
     rw[sC hH]at G;refine zC G sat1 hR hA hH fun v V hK U hs=>?_;obtain⟨l2,N,sat2⟩:=ix (v:=.o (.v v)) hs hK hd trivial;exact R _ _ _ _ _ _ _ _ N sat2 (by rw[hR];exact fun h=>by cases h)
    |true=>
     refine oM hτ G sat1 fun v H' On K V G8 w3 hK sat2 hv=>?_;obtain⟨l2,N,sat3⟩:=ix sat2 hK hd hv;exact R _ _ _ _ _ _ _ _ N sat3 (by rw[hR];exact fun h=>by cases h)
 ·obtain⟨l2,h4,sat3⟩:=ix sat1 G hd trivial;exact .inr ⟨I,R _ _ _ _ _ _ _ _ h4 sat3 fun _=>rfl⟩
theorem xw(hτ:fo P τ)(sat:Sat n l H nx iv B w O a J){Fn:Prop}:∀(C9:List Gh),Eo τ B C9 l H nx iv w Fn->
  Fn/\∀g∈C9,∃su sv,fm l g.u=some su/\fm l g.d=some sv/\(Instr.loadAt g.T (su.den O)).run P J= .ok (sv.den O) J
 |[],h=>⟨h,fun g Y=>by cases Y⟩
 |g::r,h=>by
  unfold Eo at h;split at h
  ·rename_i su hsu;obtain⟨v,⟨L,G⟩,hv,Ot⟩:=oR hτ sat.rel (sat.sc _ _ hsu) h;obtain⟨N,h4⟩:=xw hτ sat r G;refine⟨N,fun g' Y=>?_⟩;rcases List.mem_cons.1 Y with rfl|Y
   ·exact⟨su,v,hsu,L,Ot J sat.rel⟩
   ·exact h4 g' Y
  ·exact h.elim
theorem rb{j:Nat}{g:Gh}:∀{C9:List Gh},g∈C9->tb g.b j=false->g∈DV j C9
 |g'::r,h,hb=>by
  unfold DV;rcases List.mem_cons.1 h with rfl|h
  ·rw[hb];exact aF
  ·split
   ·exact rb h hb
   ·exact aB _ (rb h hb)
abbrev Zh:=Gh×Value×Value
def Yz(P:Program)(z:Zh)(w:World):Prop:=(Instr.loadAt z.1.T z.2.1).run P w= .ok z.2.2 w
structure GOk(ops:Array Oper)(la:Array Bool)(a:Act)(z:Zh):Prop where
 u:a.tmps[z.1.u]? =some z.2.1
 d:a.tmps[z.1.d]? =some z.2.2
 no:∀(j:Nat) oj,ops[j]? =some oj->la.getD j false=false->oj.dst≠some z.1.u/\oj.dst≠some z.1.d
theorem GOk.step{z:Zh}{oj:Oper}{x:Value}(h:GOk ops la a z)(hj:ops[j]? =some oj)(hl:la.getD j false=false):GOk ops (la.setIfInBounds j true) (a.put oj.dst x) z:=by
 obtain⟨L,G⟩:=h.no j oj hj hl;refine⟨rG L h.u,rG G h.d,fun k ok D hlk=>h.no k ok D ?_⟩;by_cases Sb:j=k
 ·subst Sb;exact hl
 ·rwa [getD_set_ne false Sb]at hlk
def IZ(P:Program)(ops:Array Oper)(F8:List Zh)(lx:Array Bool)(w:World):Prop:=∀z∈F8,nP ops z.1.b lx->Yz P z w
theorem vO(h:i∈Region.ready .any ops la):la.getD i false=false:=by
 have:=(ew.1 h).1;rw[ai,this];rfl
theorem pK{o:Oper}(ho:ops[i]? =some o)(hl:la[i]? =some false)(h:nP ops b (la.setIfInBounds i true)):nP ops b la/\(vQ o.op=false->tb b i=false):=by
 refine⟨fun k ok L G N=>?_,fun hR=>?_⟩
 ·by_cases hik:i=k
  ·subst hik;rw[ai,hl];rfl
  ·rw[<-getD_set_ne false hik];exact h k ok L G N
 ·cases hb:tb b i with
  |false=>rfl
  |true=>
   have:=h i o hb ho hR;have A:=(aZ.1 hl).1;rw[ai,Array.getElem?_setIfInBounds_self_of_lt A]at this
   cases this
theorem DW(hτ:fo P τ){o:Oper}{C9:List Gh}{F8:List Zh}(ho:ops[i]? =some o)(hd:∀d,o.dst=some d->d<n)(hr:i∈Region.ready .any ops la){next:Act->World->Prop}{Fn:Env->Hp->Nat->Iv->World->List Gh->Prop}
  (L:iR (!gL o) P τ B ops.toList o l H nx iv w (fun l' H' On K J=>stepG τ B (vQ o.op) C9 i l' H' On K J (Fn l' H' On K J))) (sat:Sat n l H nx iv B w O a J)
  (hG:∀z∈F8,nP ops z.1.b la->z.1∈C9) (hZ:∀z∈F8,GOk ops la a z) (hI:IZ P ops F8 la J)
  (R:∀l' H' On K V G8 x w3 G',Fn l' H' On K V G'->Sat n l' H' On K B V G8 (a.put o.dst x) w3->(∀z∈F8,nP ops z.1.b (la.setIfInBounds i true)->z.1∈G')->(∀z∈F8,GOk ops (la.setIfInBounds i true) (a.put o.dst x) z)->IZ P ops F8 (la.setIfInBounds i true) w3->next (a.put o.dst x) w3):
  wpOp P ops Q i next a J:=by
 have hl:=(ew.1 hr).1;refine aBP hτ ho hd L sat fun l' H' On K V G8 x w3 hK sat2 I=>?_;have hZ2:∀z∈F8,GOk ops (la.setIfInBounds i true) (a.put o.dst x) z:=fun z hz=>(hZ z hz).step ho (vO hr)
 cases hR:vQ o.op with
 |true=>
  rw[hR]at hK;have I:=I hR;subst I;refine R _ _ _ _ _ _ _ _ C9 hK sat2 (fun z hz h=>hG z hz (pK ho hl h).1) hZ2 fun z hz h=>hI z hz (pK ho hl h).1
 |false=>
  rw[hR]at hK;obtain⟨G,N⟩:=xw hτ sat2 _ hK;refine R _ _ _ _ _ _ _ _ _ G sat2 (fun z hz h=>?_) hZ2 fun z hz h=>?_
  ·obtain⟨k1,k2⟩:=pK ho hl h;exact rb (hG z hz k1) (k2 hR)
  ·obtain⟨k1,k2⟩:=pK ho hl h;obtain⟨su,sv,e1,e2,e3⟩:=N z.1 (rb (hG z hz k1) (k2 hR));have h4:=sat2.env _ _ e1;have h5:=sat2.env _ _ e2;rw[(hZ2 z hz).u]at h4;rw[(hZ2 z hz).d]at h5;injection h4 with h4;injection h5 with h5;unfold Yz;rw[h4,h5];exact e3
end
section
variable{P:Program}{τ:nR}{ops:Array Oper}{B n nx:Nat}{l:Env}{H:Hp}{iv:Iv}{w J:World}{O:Nat->Sx.dq}{a:Act}
theorem tQ{m i b:Nat}{oi:Oper}:∀(l:List Oper) (k:Nat),Gq ops m i oi b l k=true->∀(j:Nat) oj,l[j]? =some oj->k+j≠i->tb m (k+j)=false->tb b (k+j)=false->oi.apart ops oj=true
 |[],_,_,j,oj,h,_,_,_=>by cases h
 |o::r,k,h,j,oj,hj,L,G,N=>by
  simp only[Gq,av,Bool.or_eq_true]at h
  cases j with
  |zero=>
   injection hj with hj;subst hj;rcases h.1 with((h4|h4)|h4)|h4
   ·exact absurd (bP h4) L
   ·rw[cF]at G;rw[G]at h4;cases h4
   ·rw[cF]at N;rw[N]at h4;cases h4
   ·exact h4
  |succ j=>
   have e:k+(j+1)=k+1+j:=by omega
   rw[e]at L G N;exact tQ r (k+1) h.2 j oj (by simpa using hj) L G N
theorem B3{m i u d:Nat}:∀(l:List Oper) (k:Nat),JI m i u d l k=true->∀(j:Nat) oj,l[j]? =some oj->tb m (k+j)=false->oj.dst≠some u/\(k+j≠i->oj.dst≠some d)
 |[],_,_,j,oj,h,_=>by cases h
 |o::r,k,h,j,oj,hj,G=>by
  simp only[JI,av,Bool.or_eq_true]at h
  cases j with
  |zero=>
   injection hj with hj;subst hj;rcases h.1 with h4|h4
   ·rw[cF]at G;rw[G]at h4;cases h4
   ·cases ho:o.dst with
    |none=>exact⟨by simp,by simp⟩
    |some e=>
     rw[ho]at h4;simp only[av,Bool.not_eq_true',Bool.or_eq_true]at h4;refine⟨fun hh=>?_,fun Oe hh=>?_⟩
     ·injection hh with hh;subst hh;have:=h4.1;simp at this
     ·injection hh with hh;subst hh;rcases h4.2 with h5|h5
      ·exact Oe (bP h5)
      ·simp at h5
  |succ j=>
   have e:k+(j+1)=k+1+j:=by omega
   rw[e]at G ⊢;exact B3 r (k+1) h.2 j oj (by simpa using hj) G
theorem Ke{o:Oper}{d T u:Nat}(h:NI o=some (d,T,u)):o.dst=some d/\o.op= .load T (.tmp u)/\o.guard=none:=by
 unfold NI at h;split at h
 ·injection h with h;injection h with L G;injection G with G N;subst L G N;exact⟨rfl,rfl,rfl⟩
 ·cases h
theorem jb(hτ:fo P τ)(Of:∀(j:Nat) o,ops[j]? =some o->∀d,o.dst=some d->d<n)(Pb:∀(j:Nat) (o:Oper) W b,ops[j]? =some o->o.op≠ .select W b){Fn:KT}{Q0:Act->World->Prop}
  (hQ:∀l' H' On K V G8 a' w3,Fn l' H' On K V->Sat n l' H' On K B V G8 a' w3->Q0 a' w3):
  ∀(t:Tg) (fuel:Nat) (la:Array Bool) (l:Env) (H:Hp) (nx:Nat) (iv:Iv) (w:World) (O:Nat->Sx.dq) (a:Act) (J:World) (C9:List Gh) (F8:List Zh),unl la<=fuel->la.size=ops.size->mO ops t la=true->CE P τ B ops.toList t C9 l H nx iv w Fn->Sat n l H nx iv B w O a J->
   (∀z∈F8,nP ops z.1.b la->z.1∈C9)->(∀z∈F8,GOk ops la a z)->IZ P ops F8 la J->rE P .any ops (QN Q0) (IZ P ops F8) fuel la a J
 | .nil,fuel,la,l,H,nx,iv,w,O,a,J,C9,F8,_,_,hc,h,s,hG,hZ,hI=>by
  simp only[mO,List.isEmpty_iff]at hc;exact Gp hI hc ⟨rfl,hQ _ _ _ _ _ _ _ _ h s⟩ fuel
 | .x i t,fuel,la,l,H,nx,iv,w,O,a,J,C9,F8,hf,hz,hc,h,s,hG,hZ,hI=>by
  unfold mO at hc;obtain⟨o,ho,L⟩:=iF h;rw[bG]at ho;simp only[ho,av,Bool.or_eq_true]at hc;obtain⟨⟨c1,c2⟩,c3⟩:=hc;have c1:i∈Region.ready .any ops la:=by simpa using c1
  obtain⟨Q1,-⟩:=ew.1 c1;have VL:=kz Q1;obtain⟨f,rfl⟩:∃f,fuel=f+1:=⟨fuel-1,by omega⟩
  have QD:(la.setIfInBounds i true).size=ops.size:=by rw[bW,hz]
  rcases c2 with c2|⟨⟨hP,Ra⟩,c4⟩
  ·refine⟨hI,fun h0=>(by rw[h0]at c1;cases c1),fun j hj=>?_⟩;have Ph:j=i:=eX (List.all_eq_true.1 c2 j hj);subst Ph;exact DW hτ ho (Of j o ho) c1 L s hG hZ hI fun _ _ _ _ _ _ _ _ G' D hs WB WC WD=>jb hτ Of Pb hQ t f _ _ _ _ _ _ _ _ _ G' F8 (by omega) QD c3 D hs WB WC WD
  ·have hR:vQ o.op=true:=by
    unfold JK at hP;split at hP
    ·cases hP
    ·exact hP
   have hm:=ya la;have hb:=nU (ops:=ops) (m:=jF la.toList 0) (i:=i) ops.toList 0 0 (fun n o R=>by rw[aT];rwa [bG]at R) (fun j hj=>by rw[tT]at hj;cases hj);generalize B5 (jF la.toList 0) i ops.toList 0 0=b at*
   have Th:o.guard=none:=by simpa using Ra
   unfold iR tU at L;rw[Th]at L;obtain⟨v,hK,R4,Ot⟩:=(mS hτ L s hR).resolve_right (fun hh=>by have:=hh.1;rw[sY hR]at this;cases this);obtain⟨l2,N,sat2⟩:=ix s hK (Of i o ho) R4;rw[hR]at N;have I:Region.wanted o (yielded ops a.tmps)=true:=by simp[Region.wanted,Th]
   refine vN (v:=v.den O) (b:=b) (AC:=fun _=>True) (Do:=execOp a.eval o) ho hR Pb (fun c a w hq=>absurd hq.1 (by simp)) (fun j hj=>(hb j hj).2.2) (fun w3 _=>Ot w3 (.inl hP)) (fun lx w h z hz ha=>h z hz ((jl ho hR).2 ha))
    f la a J (fun j hj=>(hm j).symm.trans (hb j hj).1) (fun j oj R1 Ph hl D=>tQ ops.toList 0 c4 j oj (by rw[bG];exact R1) (by omega) (by
     have hj:=(aZ.1 R1).1
     rw[aT,hm,nS (by omega) false true];exact hl) (by rw[aT];exact D)) c1 ⟨I,rfl⟩ ?_
   refine kj (fun lx w h=>⟨h,fun _=>trivial⟩) _ _ _ _ ?_;exact jb hτ Of Pb hQ t f _ _ _ _ _ _ _ _ _ C9 F8 (by omega) QD c3 N sat2 (fun z hz h=>hG z hz ((jl ho hR).1 h)) (fun z hz=>(hZ z hz).step ho (vO c1)) (fun z hz h=>hI z hz ((jl ho hR).1 h))
 | .two i t k u,fuel,la,l,H,nx,iv,w,O,a,J,C9,F8,hf,hz,hc,h,s,hG,hZ,hI=>by
  simp only[mO]at hc;split at hc
  ·rename_i x y hr;simp only[av]at hc;obtain⟨c1,c2,c3,c4⟩:=hc;have F:=bP c1;have hy:=bP c2;subst F;subst hy;obtain⟨L,G⟩:=h;obtain⟨o1,WR,L⟩:=iF L;obtain⟨o2,UX,G⟩:=iF G;rw[bG]at WR UX;have SX:x∈Region.ready .any ops la:=by rw[hr];simp
   have Vm:y∈Region.ready .any ops la:=by rw[hr];simp
   have u1:=kz (ew.1 SX).1;have u2:=kz (ew.1 Vm).1;obtain⟨f,rfl⟩:∃f,fuel=f+1:=⟨fuel-1,by omega⟩
   refine⟨hI,fun h0=>(by rw[hr]at h0;cases h0),fun j hj=>?_⟩;rw[hr,List.mem_cons,bD]at hj;rcases hj with rfl|rfl
   ·exact DW hτ WR (Of _ o1 WR) SX L s hG hZ hI fun _ _ _ _ _ _ _ _ G' D hs WB WC WD=>jb hτ Of Pb hQ t f _ _ _ _ _ _ _ _ _ G' F8 (by omega) (by rw[bW,hz]) c3 D hs WB WC WD
   ·exact DW hτ UX (Of _ o2 UX) Vm G s hG hZ hI fun _ _ _ _ _ _ _ _ G' D hs WB WC WD=>jb hτ Of Pb hQ u f _ _ _ _ _ _ _ _ _ G' F8 (by omega) (by rw[bW,hz]) c4 D hs WB WC WD
  ·cases hc
 | .three i t k u m v,fuel,la,l,H,nx,iv,w,O,a,J,C9,F8,hf,hz,hc,h,s,hG,hZ,hI=>by
  simp only[mO]at hc;split at hc
  ·rename_i x y z9 hr;simp only[av]at hc;obtain⟨c1,c2,c6,c3,c4,c5⟩:=hc;have F:=bP c1;have hy:=bP c2;have hz9:=bP c6;subst F;subst hy;subst hz9;obtain⟨L,G,N⟩:=h;obtain⟨o1,WR,L⟩:=iF L;obtain⟨o2,UX,G⟩:=iF G;obtain⟨o3,ho3,N⟩:=iF N;rw[bG]at WR UX ho3;have SX:x∈Region.ready .any ops la:=by rw[hr];simp
   have Vm:y∈Region.ready .any ops la:=by rw[hr];simp
   have hm3:z9∈Region.ready .any ops la:=by rw[hr];simp
   have u1:=kz (ew.1 SX).1;have u2:=kz (ew.1 Vm).1;have u3:=kz (ew.1 hm3).1;obtain⟨f,rfl⟩:∃f,fuel=f+1:=⟨fuel-1,by omega⟩
   refine⟨hI,fun h0=>(by rw[hr]at h0;cases h0),fun j hj=>?_⟩;rw[hr,List.mem_cons,List.mem_cons,bD]at hj;rcases hj with rfl|rfl|rfl
   ·exact DW hτ WR (Of _ o1 WR) SX L s hG hZ hI fun _ _ _ _ _ _ _ _ G' D hs WB WC WD=>jb hτ Of Pb hQ t f _ _ _ _ _ _ _ _ _ G' F8 (by omega) (by rw[bW,hz]) c3 D hs WB WC WD
   ·exact DW hτ UX (Of _ o2 UX) Vm G s hG hZ hI fun _ _ _ _ _ _ _ _ G' D hs WB WC WD=>jb hτ Of Pb hQ u f _ _ _ _ _ _ _ _ _ G' F8 (by omega) (by rw[bW,hz]) c4 D hs WB WC WD
   ·exact DW hτ ho3 (Of _ o3 ho3) hm3 N s hG hZ hI fun _ _ _ _ _ _ _ _ G' D hs WB WC WD=>jb hτ Of Pb hQ v f _ _ _ _ _ _ _ _ _ G' F8 (by omega) (by rw[bW,hz]) c5 D hs WB WC WD
  ·cases hc
 | .ld i b t,fuel,la,l,H,nx,iv,w,O,a,J,C9,F8,hf,hz,hc,h,s,hG,hZ,hI=>by
  unfold mO at hc;obtain⟨o,ho,L⟩:=iF h;rw[bG]at ho;simp only[ho]at hc
  cases RW:NI o with
  |none=>rw[RW]at hc;cases hc
  |some q=>
   obtain⟨d,T,u⟩:=q;rw[RW]at hc L;simp only[av]at hc;obtain⟨⟨⟨⟨c1,c2⟩,c4⟩,c5⟩,c3⟩:=hc;obtain⟨e1,e2,e3⟩:=Ke RW;have c1:i∈Region.ready .any ops la:=by simpa using c1
   obtain⟨Q1,-⟩:=ew.1 c1;have VL:=kz Q1;obtain⟨f,rfl⟩:∃f,fuel=f+1:=⟨fuel-1,by omega⟩
   have QD:(la.setIfInBounds i true).size=ops.size:=by rw[bW,hz]
   have hR:vQ o.op=true:=by rw[e2];rfl
   have hm:=ya la;have hb:=nU (ops:=ops) (m:=jF la.toList 0) (i:=i) ops.toList 0 0 (fun n o R=>by rw[aT];rwa [bG]at R) (fun j hj=>by rw[tT]at hj;cases hj);rw[<-bP c2]at hb
   cases hsu:fm l u with
   |none=>simp only[hsu]at L
   |some su=>
    simp only[hsu]at L;obtain⟨v,hK,R4,Ot⟩:=oR hτ s.rel (s.sc _ _ hsu) L;have hau:=s.env _ _ hsu;have WE:=Of i o ho d e1;have sat2:Sat n ((d,v)::l) H nx iv B w O (a.put o.dst (v.den O)) J:=by rw[e1];exact s.put WE R4
    have I:Region.wanted o (yielded ops a.tmps)=true:=by simp[Region.wanted,e3]
    have Qt:a.eval (.tmp u)=su.den O:=by rw[Act.eval,ai,hau];rfl
    have hui:tb (jF la.toList 0) i=false:=by rw[hm];exact vO c1
    have TA:=B3 ops.toList 0 c5;refine vN (v:=v.den O) (b:=b) (AC:=Yz P (⟨u,d,T,b⟩,su.den O,v.den O)) (Do:=execOp a.eval o) ho hR Pb (fun c a w hq=>absurd hq.1 (by simp)) (fun j hj=>(hb j hj).2.2) (fun w3 hY=>?_) (fun lx w h z hz ha=>h z hz ((jl ho hR).2 ha))
     f la a J (fun j hj=>(hm j).symm.trans (hb j hj).1) (fun j oj R1 Ph hl D=>tQ ops.toList 0 c4 j oj (by rw[bG];exact R1) (by omega) (by
      have hj:=(aZ.1 R1).1
      rw[aT,hm,nS (by omega) false true];exact hl) (by rw[aT];exact D)) c1 ⟨I,rfl⟩ ?_
    ·unfold Yz at hY;obtain⟨dst,op,ty,pos,after,guard⟩:=o;simp only at e2;subst e2;simp only[execOp,Qt]
     exact mU hY
    ·refine kj (A':=IZ P ops ((⟨u,d,T,b⟩,su.den O,v.den O)::F8)) (fun lx w h=>⟨fun z hz=>h z (aB _ hz),h _ aF⟩) _ _ _ _ ?_;refine jb hτ Of Pb hQ t f _ _ _ _ _ _ _ _ _ (⟨u,d,T,b⟩::C9) ((⟨u,d,T,b⟩,su.den O,v.den O)::F8) (by omega) QD c3 hK sat2 (fun z hz h=>?_) (fun z hz=>?_) (fun z hz h=>?_)
     ·rcases List.mem_cons.1 hz with rfl|hz
      ·exact aF
      ·exact aB _ (hG z hz ((jl ho hR).1 h))
     ·rcases List.mem_cons.1 hz with rfl|hz
      ·have h7:=(TA i o (by rw[bG];exact ho) (by rw[aT];exact hui)).1;refine⟨rG h7 hau,?_,fun j oj R1 SK=>?_⟩
       ·rw[e1];show(a.tmps.setIfInBounds d _)[d]? =_;rw[Array.getElem?_setIfInBounds_self_of_lt (by rw[s.size];exact WE)]
       ·have Ph:i≠j:=fun e=>by
         subst e;have A:=(aZ.1 Q1).1;rw[ai,Array.getElem?_setIfInBounds_self_of_lt A]at SK
         cases SK
        rw[getD_set_ne false Ph]at SK;obtain⟨k1,k2⟩:=TA j oj (by rw[bG];exact R1) (by rw[aT,hm];exact SK);exact⟨k1,k2 (by omega)⟩
      ·exact(hZ z hz).step ho (vO c1)
     ·rcases List.mem_cons.1 hz with rfl|hz
      ·exact Ot J s.rel
      ·exact hI z hz ((jl ho hR).1 h)
 | .wX id t,fuel,la,l,H,nx,iv,w,O,a,J,C9,F8,hf,hz,hc,h,s,hG,hZ,hI=>by
  obtain⟨H',b,PY,hd,hs,ho,h⟩:=h;obtain⟨R,l',hl,h⟩:=h _ _ s.rel;exact jb hτ Of Pb hQ t fuel la l' H' nx _ J O a J C9 F8 hf hz hc h ⟨s.rel.free PY hd R hs ho,s.size,s.defers,fun u v hv=>by obtain⟨-,v',L,G⟩:=hl u v hv;rw[<-G];exact s.env u v' L,fun u v hv=>(hl u v hv).1⟩ hG hZ hI
theorem jQ(hτ:fo P τ)(hm:P.follows .mixedOrders=true){Fn:KT}(t:Tg)(hs:Region.noSelect ops=true)(hc:mO ops t (Array.replicate ops.size false)=true)
  (h:CE P τ B ops.toList t [] l H nx iv w Fn):zE P B ops l H nx iv w Fn:=by
 refine⟨fun n O a J Of sat Q hQ id=>?_⟩;refine wp_mono (Q':=Q) (c:=.region id ops true) (wp_region_any (Q:=QN (Q .normal)) hm (B2 (A':=IZ P ops []) _ _ _ _ ?_)) (fun e a w hq=>by obtain⟨rfl,hq⟩:=hq;exact hq);refine jb (Q0:=Q .normal) hτ (fun j o ho d hd=>?_) (Region.noSelect_spec hs) hQ t _ _ _ _ _ _ _ O _ _ [] [] ?_ (by simp) hc h ⟨sat.rel.drew,sat.size,sat.defers,sat.env,sat.sc⟩ (fun z hz=>by cases hz) (fun z hz=>by cases hz) (fun z hz=>by cases hz)
 ·have:=List.all_eq_true.1 Of o (aC (by rw[bG];exact ho));rw[hd]at this;have h5:d+1<=n:=by simpa [Nat.blt]using this
  exact h5
 ·unfold unl;refine aW List.countP_le_length ?_;simp
end
end Go.Ex
