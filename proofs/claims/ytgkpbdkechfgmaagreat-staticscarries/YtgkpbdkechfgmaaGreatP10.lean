/- Texts X131 to XTg: lemmas, each with its conditions. -/
import Derived.Test.YtgkpbdkechfgmaaGreatP9
namespace Go.Ex
open Go Go.Sx Go.Proofs
variable{xs:List Rat}{cs:List Value}{C S:Nat->Prop}{a:Option Addr}{q:Rat}{v:Value}{w:World}
structure fw(w:World)(S:Nat->Prop)(n i:Nat)(css:List (List Value))(qs:List Rat):Prop where
 len:css.length=n
 four:∀cs∈css,cs.length=4
 one:∀cs∈css,∀u∈cs,u.oneCell'=true
 at_:∀(j:Nat) cs q,j<i->css[j]? =some cs->qs[j]? =some q->iU w S cs q
section
variable{S S':Nat->Prop}{H:Hp}{nx n i:Nat}{iv iv':Iv}{B:Nat}{w w1 w' w2:World}{O:Nat->Sx.dx}{css:List (List Value)}{qs:List Rat}
theorem fw.cJ(h:fw w S n i css qs)(hk:∀g,S g->w2.heap[g]? =w.heap[g]?):fw w2 S n i css qs:=⟨h.len,h.four,h.one,fun j cs q hj h1 h2=>(h.at_ j cs q hj h1 h2).cJ hk⟩
theorem fw.cK(h:fw w S n i css qs)(hk:∀g,S g->S' g):fw w S' n i css qs:=⟨h.len,h.four,h.one,fun j cs q hj h1 h2=>(h.at_ j cs q hj h1 h2).cK hk⟩
theorem fw.rel(h:fw w (Cv S B iv) n i css qs)(r:Rel H nx iv B w O w')(hS:∀g,S g->g<B):fw w' (Cv S B iv) n i css qs:=h.cJ fun _ hg=>Rel.same r hS hg
theorem fw.cG(h:fw w (Cv S B iv) n i css qs)(r:Rel H nx iv B w O w')(hS:∀g,S g->g<B)(he:Ext w' w2)(hm:∀p,p∈iv->p∈iv'):fw w2 (Cv S B iv') n i css qs:=
 ((h.rel r hS).cJ fun g hg=>he.block g (Rel.old r hS g hg)).cK fun _ hg=>hg.mono hm
theorem fw.start(w:World)(S:Nat->Prop)(n:Nat)(qs:List Rat):fw w S n 0 (List.replicate n f0) qs:=
 ⟨by simp,fun cs hc=>by rw[bP hc];rfl,fun cs hc u hu=>by rw[bP hc]at hu;simp[f0]at hu;rcases hu with rfl|rfl|rfl|rfl<;>rfl,fun j cs q hj=>by omega⟩
theorem fw.next{b b2:Bool}{a2:Option Addr}{m c m2 c2:Nat}(h:fw w S n i css qs)(hi:i<n)(hq:qs[i]? =some q)(hf:cT w S (.agg #[.bool b,.slice a m c,.bool b2,.slice a2 m2 c2]) q):
  fw w S n (i+1) (css.set i [.bool b,.slice a m c,.bool b2,.slice a2 m2 c2]) qs:=by
 refine⟨by simp[h.len],fun cs hc=>?_,fun cs hc u hu=>?_,fun j cs p hj h1 h2=>?_⟩
 ·rcases bJ hc with hc|rfl
  ·exact h.four cs hc
  ·rfl
 ·rcases bJ hc with hc|rfl
  ·exact h.one cs hc u hu
  ·simp at hu;rcases hu with rfl|rfl|rfl|rfl<;>rfl
 ·by_cases Pa:i=j
  ·subst Pa;rw[aV (by rw[h.len];exact hi)]at h1;rw[hq]at h2;injection h1 with h1;injection h2 with h2;subst h1 h2;exact hf.qS
  ·rw[aZ Pa]at h1;exact h.at_ j cs p (by omega) h1 h2
theorem fw.flat(h:fw w S n i css qs):css.flatten.length=n*4:=by rw[eY h.four,h.len]
theorem fw.done{w0:World}(h:fw w1 (Cf w0 iv) n n css qs)(hl:qs.length=n)(hn:n<=maxLen)(r:Rel H nx iv w0.heap.size w1 O w'){id:Nat}(hH:dF H id=some (.arr T.Rat css.flatten))(PA:(O id).nil=false):
  dg w' FF w0.heap.size [(w0.heap.size,w'.heap.size)] (.slice (some ⟨(O id).g,0,none⟩) n n) n qs:=by
 have h2:=h.rel r (cC w0);have PB:=r.low id _ hH PA;refine⟨⟨css,⟨h.flat,.inr ⟨(O id).g,n,css.flatten.toArray,rfl,aQ _,r.arr id _ _ hH,aF _,hn,by simpa using h.flat,?_⟩⟩,h.len,?_⟩,fun g hg=>?_⟩
 ·rw[<-h.flat];exact bD
 ·refine⟨by rw[h.len,hl],fun j cs q h3 h4=>?_⟩;refine(h2.at_ j cs q (by rw[<-hl];exact(aD.1 h4).1) h3 h4).cK fun g hg=>⟨?_,fun e=>?_⟩
  ·rcases hg with hg|⟨k1,lo,hi,k2,k3,k4⟩
   ·exact hg.elim
   ·exact .inr ⟨k1,_,_,bB.2 rfl,k1,by have:=r.rM lo hi k2;have:=r.size;omega⟩
  ·injection e with e;exact Rel.not r (cC w0) hg id _ hH PA e
 ·injection hg with hg;subst hg;exact .inr ⟨PB.1,_,_,bB.2 rfl,PB.1,PB.2⟩
theorem gP.c(h:gP w S S v qs):cI w S v qs:=by
 obtain⟨css,h1,h2⟩:=h;exact⟨css,h1,h2.1,h2.uS,h2.2⟩
theorem dg.c(h:dg w S B iv v n qs):cI w (Cv S B iv) v qs:=h.read.c
theorem cI.rc(h:cI w S v qs):gP w S S v qs:=by
 obtain⟨css,h1,h2,h3,h4⟩:=h;exact⟨css,h1,h2,h4⟩
theorem gP.rel(h:gP w (Cv C B iv) (Cv S B iv) v qs)(r:Rel H nx iv B w O w')(hC:∀g,C g->g<B)(hS:∀g,S g->g<B):gP w' (Cv C B iv) (Cv S B iv) v qs:=
 h.cJ fun _ hg=>hg.elim (Rel.same r hC) (Rel.same r hS)
theorem gP.cG(h:gP w (Cv C B iv) (Cv S B iv) v qs)(r:Rel H nx iv B w O w')(hC:∀g,C g->g<B)(hS:∀g,S g->g<B)(he:Ext w' w2)(hm:∀p,p∈iv->p∈iv'):gP w2 (Cv C B iv') (Cv S B iv') v qs:=
 ((h.rel r hC hS).cJ fun g hg=>he.block g (hg.elim (Rel.old r hC g) (Rel.old r hS g))).cK (fun _ hg=>hg.mono hm) (fun _ hg=>hg.mono hm)
theorem gP.arg(h:gP w C S v qs)(iv:Iv):gP w (Cv C w.heap.size iv) (Cv S w.heap.size iv) v qs:=h.cK (fun _ h=>.inl h) (fun _ h=>.inl h)
theorem gP.shape(h:gP w C S v qs):∃a c,v= .slice a qs.length c∧qs.length<=c∧qs.length<=maxLen:=by
 obtain⟨css,⟨h0,_,_,a,c,h1,h2,_⟩,_⟩:=h;exact⟨a,c,h1,h2,h0⟩
theorem gP.load{n c j:Nat}(h:gP w C S (.slice a n c) qs)(hq:qs[j]? =some q):
  ∃ad cs,a=some ad∧iU w S cs q∧∀k u,cs[k]? =some u->C ad.block∧w.cell? ((ad.add (j*4)).add k)=some u:=by
 obtain⟨css,⟨h0,h1,h2,a',c',e,h3,h4⟩,hf⟩:=h;injection e with e1 e2 e3;subst e1;obtain⟨cs,On⟩:∃cs,css[j]? =some cs:=⟨_,aB (by rw[hf.1];exact(aD.1 hq).1)⟩
 have hF:=hf.2 j cs q On hq;have hl:=hF.len;obtain⟨ad,k1,k2,k3⟩:=h4 (j*4+0) _ (flat_get hf.uS On 0 _ (aB (show 0<cs.length by omega)));refine⟨ad,cs,k1,hF,fun k u hu=>?_⟩;obtain⟨ad2,m1,m2,m3⟩:=h4 (j*4+k) u (flat_get hf.uS On k u hu);rw[k1]at m1;injection m1 with m1;subst m1;refine⟨m2,?_⟩;rw[<-m3];have:(ad.add (j*4)).add k=ad.add (j*4+k):=by
  unfold Addr.add;split<;>split<;>simp_all<;>omega
 rw[this]
theorem FO{j:Nat}{c:Nat}(h:w.ownsRow 0 T.Rat 4 (.slice a n c) n css.flatten)(hf:Fc w S css qs)(hj:css[j]? =some cs):
  ∃g,a=some ⟨g,0,none⟩∧∀k u,cs[k]? =some u->w.cell? ((Addr.add ⟨g,0,none⟩ (j*4)).add k)=some u:=by
 rcases h.2 with⟨h1,h0⟩|⟨g,cap,cur,RK,_⟩
 ·have:=h.1;rw[eY hf.uS]at this;have:=(aD.1 hj).1;omega
 ·injection RK with h1 h2 h3;subst h1;refine⟨g,rfl,fun k u hu=>?_⟩;have:=h.cells (g:=g) rfl (j*4+k) u (flat_get hf.uS hj k u hu);rw[dV,dV];rw[dV]at this;rw[Nat.add_assoc];exact this
end
theorem FP(n:Nat)(w:World)(hn:n<=1000000):eA PG N.r8 #[.int .i64 n] w (eF w fun v' w2=>dg w2 FF w.heap.size [(w.heap.size,w2.heap.size)] v' n (List.replicate n 0)):=by
 have hw:=bR w;refine vX (by simp) ?_
 refine⟨n,n,rfl,rfl,aF _,by omega,by omega,Nat×List (List Value)×Iv×World,fun z=>⟨[(3,.o (.s 0 0 n n)),(8,iZ n),(9,iN z.1)],[(0,.arr T.Rat z.2.1.flatten)],1,z.2.2.1,z.2.2.2⟩,fun z=>n-z.1,
  fun z=>z.1<=n∧eE w.heap.size w z.2.2.2∧fw z.2.2.2 (Cf w z.2.2.1) (n) z.1 z.2.1 (List.replicate n 0),?_,?_⟩
 ·intro O w' r;exact⟨(0,List.replicate (n) f0,_,w'),⟨by simp,hw.tr r.cQ,fw.start _ _ _ _⟩,Sub.gn [] r⟩
 rintro⟨i,css,iv,w1⟩ ⟨hi,hw,hF⟩;dsimp only at hi hw hF ⊢;refine dK.mk ?_ ?_<;>intro h
 ·have h:i<n:=by simpa using h
  refine cF (cE hw (fun _ w' v w2=>cT w2 (Nf w' w2) v (((0:Int):Rat))) (fun O w' r=>jM 0 w' (by decide) (by decide)) ?_);rintro O _ _ _ OJ r he hw h_ hn;replace hF:=hF.cG r (cC w) he (mC h_);have hd:=hn.dB (S:=FF) r.cD (mN h_);obtain⟨A0,A1,A2,A3,A4,A5,A6,A7,rfl⟩:=hd.shape;have OL:=hF.next h (q:=_) (by simp[h]) hd
  refine⟨by omega,by have:=hF.flat;omega,(css.set i [.bool A0,.slice A1 A2 A3,.bool A4,.slice A5 A6 A7]).flatten,?_,?_⟩
  ·have:=jN (cs:=[.bool A0,.slice A1 A2 A3,.bool A4,.slice A5 A6 A7]) hF.four (show i<css.length by rw[hF.len];exact h);rw[<-this];simp
  refine⟨((i+1:Nat):Int),wo,?_⟩;intro ρ3 w3 r3;exact⟨(i+1,css.set i [.bool A0,.slice A1 A2 A3,.bool A4,.slice A5 A6 A7],_,w3),⟨h,hw.tr r3.cQ,OL.rel r3 (cC w)⟩,Sub.gn [] r3,by dsimp only;omega⟩
 have h:i=n:=aO hi (by simpa using h);subst h;exact rtn hw fun ρe we re=>hF.done (by simp) (by unfold maxLen;omega) re (id:=0) rfl (re.nn 0 _ rfl (by intros;simp) (by simp))
theorem qu{u:Value}{b:Rat}(hS:Old S w)(hx:cS w S v xs)(hb:eS w S u b)(hn:xs.length<=1000000):
  eA PG N.qA #[v,u] w (eF w fun v' w2=>dg w2 FF w.heap.size [(w.heap.size,w2.heap.size)] v' xs.length (cW xs b)):=by
 have hw:=bR w;obtain⟨ax,cx,rfl,Sf,SI⟩:=cY.shape hx;obtain⟨g0,g1,g2,g3,g4,g5,g6,g7,rfl⟩:=hb.shape;have PN:rl b<=100000:=hb.rl;refine uJ (by simp) ?_
 refine⟨xs.length,xs.length,rfl,rfl,aF _,by omega,by omega,Nat×List (List Value)×Iv×World,fun z=>⟨[(3,pP 0 0),(5,.o (.s 1 0 xs.length xs.length)),(11,sV ax xs.length cx),(12,iZ xs.length),(13,iN z.1)],[(0,.box T.Rat [.v (.bool g0),.v (.slice g1 g2 g3),.v (.bool g4),.v (.slice g5 g6 g7)]),(1,.arr T.Rat z.2.1.flatten)],2,z.2.2.1,z.2.2.2⟩,fun z=>xs.length-z.1,
  fun z=>z.1<=xs.length∧eE w.heap.size w z.2.2.2∧fw z.2.2.2 (Cf w z.2.2.1) (xs.length) z.1 z.2.1 (cW xs b),?_,?_⟩
 ·intro O w' r;exact⟨(0,List.replicate (xs.length) f0,_,w'),⟨by simp,hw.tr r.cQ,fw.start _ _ _ _⟩,Sub.gn [] r⟩
 rintro⟨i,css,iv,w1⟩ ⟨hi,hw,hF⟩;dsimp only at hi hw hF ⊢;refine dK.mk ?_ ?_<;>intro h
 ·have h:i<xs.length:=by simpa using h
  obtain⟨x,PL⟩:∃x,xs[i]? =some x:=⟨_,aB h⟩
  obtain⟨adx,csx,PC,Qn,-,Oa⟩:=cY.load hx PL;obtain⟨f0,f1,f2,f3,f4,f5,f6,f7,rfl,Qn⟩:=Qn;refine⟨adx,PC,by omega,[.bool f0,.slice f1 f2 f3,.bool f4,.slice f5 f6 f7],rfl,rdO Oa hw hS,?_⟩;refine cF (cE hw (fun _ w' v w2=>cT w2 (Nf w' w2) v (x*b)) (fun O w' r=>Aa (oS hS r) (Qn.v.cJ (kS hw r hS)) (hb.v.cJ (kS hw r hS))) ?_);rintro O _ _ _ OJ r he hw h_ hn;replace hF:=hF.cG r (cC w) he (mC h_);have hd:=hn.dB (S:=FF) r.cD (mN h_);obtain⟨A0,A1,A2,A3,A4,A5,A6,A7,rfl⟩:=hd.shape;have OL:=hF.next h (q:=_) (by rw[cW,aM,PL];rfl) hd
  refine⟨by omega,by have:=hF.flat;omega,(css.set i [.bool A0,.slice A1 A2 A3,.bool A4,.slice A5 A6 A7]).flatten,?_,?_⟩
  ·have:=jN (cs:=[.bool A0,.slice A1 A2 A3,.bool A4,.slice A5 A6 A7]) hF.four (show i<css.length by rw[hF.len];exact h);rw[<-this];simp
  refine⟨((i+1:Nat):Int),wo,?_⟩;intro ρ3 w3 r3;exact⟨(i+1,css.set i [.bool A0,.slice A1 A2 A3,.bool A4,.slice A5 A6 A7],_,w3),⟨h,hw.tr r3.cQ,OL.rel r3 (cC w)⟩,Sub.gn [] r3,by dsimp only;omega⟩
 have h:i=xs.length:=aO hi (by simpa using h);subst h;exact rtn hw fun ρe we re=>hF.done (by simp[cW]) (by unfold maxLen;omega) re (id:=1) rfl (re.nn 1 _ rfl (by intros;simp) (by simp))
theorem IF{u:Value}{ys:List Rat}(hS:Old S w)(hx:cS w S v xs)(hy:cS w S u ys)(hl:xs.length<=ys.length)(hn:xs.length<=1000000):
  eA PG N.tt #[v,u] w (eF w fun v' w2=>dg w2 FF w.heap.size [(w.heap.size,w2.heap.size)] v' xs.length (fR xs ys)):=by
 have hw:=bR w;obtain⟨ax,cx,rfl,Sf,SI⟩:=cY.shape hx;obtain⟨ay,cy,rfl,hcy,hmy⟩:=cY.shape hy;refine xh (by simp) ?_
 refine⟨xs.length,xs.length,rfl,rfl,aF _,by omega,by omega,Nat×List (List Value)×Iv×World,fun z=>⟨[(0,sV ax xs.length cx),(1,sV ay ys.length cy),(5,.o (.s 0 0 xs.length xs.length)),(11,iZ xs.length),(12,iN z.1)],[(0,.arr T.Rat z.2.1.flatten)],1,z.2.2.1,z.2.2.2⟩,fun z=>xs.length-z.1,
  fun z=>z.1<=xs.length∧eE w.heap.size w z.2.2.2∧fw z.2.2.2 (Cf w z.2.2.1) (xs.length) z.1 z.2.1 (fR xs ys),?_,?_⟩
 ·intro O w' r;exact⟨(0,List.replicate (xs.length) f0,_,w'),⟨by simp,hw.tr r.cQ,fw.start _ _ _ _⟩,Sub.gn [] r⟩
 rintro⟨i,css,iv,w1⟩ ⟨hi,hw,hF⟩;dsimp only at hi hw hF ⊢;refine dK.mk ?_ ?_<;>intro h
 ·have h:i<xs.length:=by simpa using h
  obtain⟨x,PL⟩:∃x,xs[i]? =some x:=⟨_,aB h⟩
  obtain⟨y,SJ⟩:∃x,ys[i]? =some x:=⟨_,aB (by omega)⟩
  obtain⟨adx,csx,PC,Qn,-,Oa⟩:=cY.load hx PL;obtain⟨f0,f1,f2,f3,f4,f5,f6,f7,rfl,Qn⟩:=Qn;obtain⟨ady,csy,Ts,RE,-,QP⟩:=cY.load hy SJ;obtain⟨q0,q1,q2,q3,q4,q5,q6,q7,rfl,RE⟩:=RE;refine cM hτ df [.x 0,.x 1,.x 2,.x 3,.x 4,.x 5,.x 6,.x 7,.x 8,.x 9,.x 10,.x 11,.x 12] (by kernel_rfl) (by kernel_rfl) ?_;refine⟨adx,PC,by omega,[.bool f0,.slice f1 f2 f3,.bool f4,.slice f5 f6 f7],rfl,rdO Oa hw hS,ady,Ts,by omega,[.bool q0,.slice q1 q2 q3,.bool q4,.slice q5 q6 q7],rfl,rdO QP hw hS,?_⟩;refine cE hw (fun _ w' v w2=>cT w2 (Nf w' w2) v (x*y)) (fun O w' r=>Aa (oS hS r) (Qn.v.cJ (kS hw r hS)) (RE.v.cJ (kS hw r hS))) ?_;rintro O _ _ _ OJ r he hw h_ hn;replace hF:=hF.cG r (cC w) he (mC h_);have hd:=hn.dB (S:=FF) r.cD (mN h_);obtain⟨A0,A1,A2,A3,A4,A5,A6,A7,rfl⟩:=hd.shape;have OL:=hF.next h (q:=_) (by rw[fR,List.getElem?_mapIdx,PL,List.getD,SJ];rfl) hd
  refine⟨by omega,by have:=hF.flat;omega,(css.set i [.bool A0,.slice A1 A2 A3,.bool A4,.slice A5 A6 A7]).flatten,?_,?_⟩
  ·have:=jN (cs:=[.bool A0,.slice A1 A2 A3,.bool A4,.slice A5 A6 A7]) hF.four (show i<css.length by rw[hF.len];exact h);rw[<-this];simp
  refine⟨((i+1:Nat):Int),wo,?_⟩;intro ρ3 w3 r3;exact⟨(i+1,css.set i [.bool A0,.slice A1 A2 A3,.bool A4,.slice A5 A6 A7],_,w3),⟨h,hw.tr r3.cQ,OL.rel r3 (cC w)⟩,Sub.gn [] r3,by dsimp only;omega⟩
 have h:i=xs.length:=aO hi (by simpa using h);subst h;exact rtn hw fun ρe we re=>hF.done (by simp[fR]) (by unfold maxLen;omega) re (id:=0) rfl (re.nn 0 _ rfl (by intros;simp) (by simp))
theorem Mk{vby vs:Value}{n h:Nat}{qs ps:List Rat}{p:Rat}(hC:Old C w)(hS:Old S w)(hrw:iV w S v n qs)(PN:eS w S vby p)
  (hs:gP w C S vs ps) (PR:ps.length=n) (hdis:∀g,v.ownBlock=some g->¬S g) (hdc:∀g,v.ownBlock=some g->¬C g) (hq:∀q∈qs,rl q+1<=h) (hps:∀q∈ps,rl q+1<=h) (hb:rl p+1<=h) (hh:3*h<=90000):
  eA PG N.oP #[v,vs,vby] w (fun e w2=>e= .returned (.tuple #[])∧w.grownBy w2 v.ownBlock∧iV w2 (Nw S w w2) v n (mL qs ps p)):=by
 obtain⟨css,OE,PU,Rb⟩:=hrw;have PB:∀g,v.ownBlock=some g->g<w.heap.size:=fun g hg=>(ownsRow.low OE g hg).2;have Qc:∀iv g,v.ownBlock=some g->Out w.heap.size iv g:=fun iv g hg=>.inl (PB g hg);have hdis2:∀iv g,v.ownBlock=some g->¬Cv S w.heap.size iv g:=fun iv g hg h=>by
  rcases h with h|⟨h,_⟩
  ·exact hdis g hg h
  ·have:=PB g hg;omega
 have hdis3:∀iv g,v.ownBlock=some g->¬Cv C w.heap.size iv g:=fun iv g hg h=>by
  rcases h with h|⟨h,_⟩
  ·exact hdc g hg h
  ·have:=PB g hg;omega
 have UM:qs.length=n:=by rw[<-Rb.1,PU]
 obtain⟨a,c,rfl,Tk⟩:=je OE;obtain⟨b1,a1,n1,c1,b2,a2,n2,c2,rfl⟩:=PN.shape;obtain⟨asl,cs0,rfl,SG,Vh⟩:=hs.shape;rw[PR]at SG Vh hs ⊢;unfold maxLen at Vh;replace Rb:=Rb.cK (S':=Cv S w.heap.size []) fun _ h=>.inl h;replace PN:=PN.arg [];replace hs:=hs.arg [];refine xp (by simp) ?_;have Pw:=OE;have hg:w.grownBy w (Value.slice a n c).ownBlock:=⟨rfl,rfl,rfl,aF _,fun _ _ _=>rfl⟩
 have hbyl:rl p<=100000:=PN.rl
 refine⟨Nat×List (List Value)×Iv×World,fun z=>⟨[(0,sV a n c),(5,pP 0 0),(8,sV asl n cs0),(9,iZ n),(10,iZ z.1)],
   [(0,.box T.Rat [.v (.bool b1),.v (.slice a1 n1 c1),.v (.bool b2),.v (.slice a2 n2 c2)])],1,z.2.2.1,z.2.2.2⟩,fun z=>n-z.1,
  fun z=>z.1<=n∧w.grownBy z.2.2.2 (Value.slice a n c).ownBlock∧z.2.2.2.ownsRow 0 T.Rat 4 (.slice a n c) n z.2.1.flatten∧z.2.1.length=n∧Fc z.2.2.2 (Cv S w.heap.size z.2.2.1) z.2.1 (iA z.1 (sM (-p) ps) qs)∧
   eS z.2.2.2 (Cv S w.heap.size z.2.2.1) (.agg #[.bool b1,.slice a1 n1 c1,.bool b2,.slice a2 n2 c2]) p∧gP z.2.2.2 (Cv C w.heap.size z.2.2.1) (Cv S w.heap.size z.2.2.1) (.slice asl n cs0) ps,?_,?_⟩
 ·intro O w' r
  refine⟨(0,css,[],w'),⟨by simp,gX hg r.cQ,o0 Pw (Qc []) r,PU,by rw[sf];exact Rb.rel r hS,PN.rel r hS,hs.rel r hC hS⟩,
   Sub.gn [] r⟩
 rintro⟨i,css,iv,w1⟩ ⟨hi,hg,OE,PU,Rb,PN,hs⟩;dsimp only at hi hg OE PU Rb PN hs ⊢;refine dK.mk ?_ ?_<;>intro h
 ·have h:i<n:=by simpa using h
  obtain⟨cs,On⟩:∃cs,css[i]? =some cs:=⟨_,aB (by omega)⟩
  obtain⟨q,hqi⟩:∃q,qs[i]? =some q:=⟨_,aB (by omega)⟩
  obtain⟨f,UC⟩:∃f,ps[i]? =some f:=⟨_,aB (by omega)⟩
  have hF:=Rb.2 i cs q On (Ab hqi);have hadd:sM (-p) ps i q=q-p*f:=by simp only[sM,List.getD,UC,Option.getD_some];grind
  obtain⟨d1,e1,m1,k1,d2,e2,m2,k2,rfl,hF⟩:=hF;have hrlq:=hq q (aC hqi);have hrlf:=hps f (aC UC);obtain⟨ad,fcs,OY,hff,OX⟩:=hs.load UC;obtain⟨f1,g1,o1,u1,f2,g2,o2,u2,rfl,hff⟩:=hff;refine⟨ad,OY,by omega,[.bool f1,.slice g1 o1 u1,.bool f2,.slice g2 o2 u2],rfl,fun O w' r j x hx=>?_,?_⟩
  ·have QS:=hs.rel r hC hS;obtain⟨k2',k3⟩:=OX j x hx;have:=Rel.same r hC k2';rw[aE,cH (w:=w1) (w2:=w') (by rw[dN,dN];exact this)];exact k3
  refine cF (cO (Φ:=fun _ _ v _=>∃d,v= .bool d∧(d=true↔f=0)) (fun O w' r=>kx (Rel.old r hS) ((hff.rel r hS).l (by omega))) ?_);rintro O wa v1 wb r he PX ⟨dz,rfl,hz⟩;replace PN:=PN.cG (iv':=(wa.heap.size,wb.heap.size)::iv) r hS he fun x hx=>List.mem_cons_of_mem _ hx;replace Rb:=Rb.cG (iv':=(wa.heap.size,wb.heap.size)::iv) r hS he fun x hx=>List.mem_cons_of_mem _ hx;replace hs:=hs.cG (iv':=(wa.heap.size,wb.heap.size)::iv) r hC hS he fun x hx=>List.mem_cons_of_mem _ hx;replace hff:=hff.cG (iv':=(wa.heap.size,wb.heap.size)::iv) r hS he fun x hx=>List.mem_cons_of_mem _ hx;replace hF:=hF.cG (iv':=(wa.heap.size,wb.heap.size)::iv) r hS he fun x hx=>List.mem_cons_of_mem _ hx;replace OE:wb.ownsRow 0 T.Rat 4 (.slice a n c) n css.flatten:=ownsRow.cJ (o0 OE (Qc iv) r) fun b hb=>he.block b (by have:=PB b hb;have:=r.cD;omega);replace hg:w.grownBy wb _:=gX hg PX;generalize (wa.heap.size,wb.heap.size)::iv=OG at*
  cases dz
  ·refine cM hτ df [.x 0,.x 1,.x 2,.x 3,.x 4,.x 5,.x 6,.x 7,.x 8,.x 9,.x 10,.x 11] (by kernel_rfl) (by kernel_rfl) ?_;obtain⟨g,rfl,Oo⟩:=FO OE Rb On;refine⟨⟨g,0,none⟩,rfl,by omega,[.bool d1,.slice e1 m1 k1,.bool d2,.slice e2 m2 k2],rfl,fun O w' r j x hx=>?_,?_⟩
   ·have:=FO (o0 OE (Qc OG) r) (Rb.rel r hS) On;obtain⟨g',h1,h2⟩:=this;injection h1 with h1;rw[<-h1]at h2;exact h2 j x hx
   have Pz:=jE p f;refine cO (Φ:=fun _ w' v w2=>cT w2 (Nf w' w2) v (p*f)) (fun O w' r=>Aa (Rel.old r hS) (PN.rel r hS).v ((hff.rel r hS).v (by omega))) ?_;rintro O wa v1 wb r he PX hP;have hPN:=hP.dB (S:=S) r.cD (iv:=(wa.heap.size,wb.heap.size)::OG) aG;replace PN:=PN.cG (iv':=(wa.heap.size,wb.heap.size)::OG) r hS he fun x hx=>List.mem_cons_of_mem _ hx;replace Rb:=Rb.cG (iv':=(wa.heap.size,wb.heap.size)::OG) r hS he fun x hx=>List.mem_cons_of_mem _ hx;replace hs:=hs.cG (iv':=(wa.heap.size,wb.heap.size)::OG) r hC hS he fun x hx=>List.mem_cons_of_mem _ hx;replace hF:=hF.cG (iv':=(wa.heap.size,wb.heap.size)::OG) r hS he fun x hx=>List.mem_cons_of_mem _ hx;replace OE:wb.ownsRow 0 T.Rat 4 (.slice (some ⟨g,0,none⟩) n c) n css.flatten:=ownsRow.cJ (o0 OE (Qc OG) r) fun b hb=>he.block b (by have:=PB b hb;have:=r.cD;omega);replace hg:w.grownBy wb _:=gX hg PX;generalize (wa.heap.size,wb.heap.size)::OG=ON at*
   obtain⟨b5,a5,n5,c5,b6,a6,n6,c6,rfl⟩:=hPN.shape;refine cO (Φ:=fun _ w' v w2=>cT w2 (Nf w' w2) v (q-p*f)) (fun O w' r=>LG (Rel.old r hS) ((hF.rel r hS).v (by omega)) ((hPN.rel r hS).v (by omega))) ?_;rintro O wc v2 wd r he PX hQ;have hQN:=hQ.dB (S:=S) r.cD (iv:=(wc.heap.size,wd.heap.size)::ON) aG;replace PN:=PN.cG (iv':=(wc.heap.size,wd.heap.size)::ON) r hS he fun x hx=>List.mem_cons_of_mem _ hx;replace Rb:=Rb.cG (iv':=(wc.heap.size,wd.heap.size)::ON) r hS he fun x hx=>List.mem_cons_of_mem _ hx;replace hs:=hs.cG (iv':=(wc.heap.size,wd.heap.size)::ON) r hC hS he fun x hx=>List.mem_cons_of_mem _ hx;replace OE:wd.ownsRow 0 T.Rat 4 (.slice (some ⟨g,0,none⟩) n c) n css.flatten:=ownsRow.cJ (o0 OE (Qc ON) r) fun b hb=>he.block b (by have:=PB b hb;have:=r.cD;omega);replace hg:w.grownBy wd _:=gX hg PX;generalize (wc.heap.size,wd.heap.size)::ON=OZ at*
   obtain⟨b7,a7,n7,c7,b8,a8,n8,c8,rfl⟩:=hQN.shape;rw[<-hadd]at hQN;refine⟨⟨g,0,none⟩,rfl,by omega,?_⟩;intro O w' r;have UN:=o0 OE (Qc OZ) r;have hF5:=(hQN.rel r hS).qS;obtain⟨g',UO,OF,QX,PV,Oy⟩:=pT (nv:=[.bool b7,.slice a7 n7 c7,.bool b8,.slice a8 n8 c8]) UN rfl h rfl (by decide);injection UO with UO;injection UO with UO;subst UO;have UP:=jN (cs:=[.bool b7,.slice a7 n7 c7,.bool b8,.slice a8 n8 c8]) Rb.uS (show i<css.length by omega);rw[UP]at QX;have QY:∀x,Cv S w.heap.size OZ x->(setCells w' ⟨g,i*4,none⟩ [.bool b7,.slice a7 n7 c7,.bool b8,.slice a8 n8 c8]).heap[x]? =w'.heap[x]? :=fun x hx=>
    PV.block x (Rel.old r hS x hx) fun e=>hdis2 OZ g rfl (by injection e with e;rw[<-e];exact hx)
   have Pc:(⟨g,0,none⟩:Addr).add ((i:Int).toNat*4)=⟨g,i*4,none⟩:=by rw[aE,dV,aR]
   have hF6:=((Rb.rel r hS).cJ QY).set (j:=i) (hF5.cJ QY);rw[o6 (f:=sM (-p) ps) hqi]at hF6;have hby6:=(PN.rel r hS).cJ QY;have hkeep3:∀x,Cv C w.heap.size OZ x->(setCells w' ⟨g,i*4,none⟩ [.bool b7,.slice a7 n7 c7,.bool b8,.slice a8 n8 c8]).heap[x]? =w'.heap[x]? :=fun x hx=>
    PV.block x (Rel.old r hC x hx) fun e=>hdis3 OZ g rfl (by injection e with e;rw[<-e];exact hx)
   have hs6:=(hs.rel r hC hS).cJ fun x hx=>hx.elim (hkeep3 x) (QY x);replace hg:w.grownBy (setCells w' ⟨g,i*4,none⟩ [.bool b7,.slice a7 n7 c7,.bool b8,.slice a8 n8 c8]) (some g):=gj (gX hg r.cQ) PV;have Q4:=fun id b hb hn=>Rel.not r (fun _ h=>h) (Qc OZ g rfl) id b hb hn;refine⟨by rw[Pc],fun k hk=>by rw[Pc];exact OF k hk,fun id b hb hn=>by rw[Pc];exact Q4 id b hb hn,fun w2 Oz=>?_⟩;have Oz:w2=setCells w' ⟨g,i*4,none⟩ [.bool b7,.slice a7 n7 c7,.bool b8,.slice a8 n8 c8]:=by rw[Oz];exact congrArg (fun x=>setCells w' x _) Pc
   rw[<-Oz]at hF6 hby6 QX hg Oy hs6;refine⟨((i+1:Nat):Int),wo,?_⟩;intro ρ3 w3 r3
   exact⟨(i+1,css.set i [.bool b7,.slice a7 n7 c7,.bool b8,.slice a8 n8 c8],OZ,w3),⟨h,gX hg r3.cQ,o0 QX (Qc OZ) r3,by simpa using PU,hF6.rel r3 hS,hby6.rel r3 hS,hs6.rel r3 hC hS⟩,
    Sub.gn [] r3,by dsimp only;omega⟩
  ·have hf0:f=0:=hz.1 rfl;have SN:sM (-p) ps i q=q:=by rw[hadd,hf0];grind
   refine⟨((i+1:Nat):Int),wo,?_⟩;intro ρ3 w3 r3
   exact⟨(i+1,css,OG,w3),⟨h,gX hg r3.cQ,o0 OE (Qc OG) r3,PU,by rw[<-Gv hqi SN];exact Rb.rel r3 hS,PN.rel r3 hS,hs.rel r3 hC hS⟩,
    Sub.gn [] r3,by dsimp only;omega⟩
 ·have h:i=n:=by
   have:¬i<n:=by simpa using h
   omega
  subst h;intro ρ5 w5 r5;refine⟨rfl,gX hg r5.cQ,css,o0 OE (Qc iv) r5,PU,?_⟩;have:=(Rb.rel r5 hS).cK (S':=Nw S w w5) fun g hg=>Cv.nw hg r5
  rwa [<-UM,vq]at this
section
variable{S:Nat->Prop}{w:World}{v u vx vk vp:Value}{z:Int}{M K:List (List (Int×Int))}{b X P:List (Int×Int)}
end
end Go.Ex
namespace Go.Sx
open Go Go.Ex Go.Proofs
variable{cs:List Value}{O:Nat->Sx.dx}
theorem Sub.aA4{B:Nat}{l tl:Env}{nx:Nat}{H tH:Hp}{iv:Iv}{w w':World}{id t n sz:Nat}{e:TypeId}(r:Rel H nx iv B w O w')(Om:dF H id=some (.vec e sz cs))(hn:(O id).nil=false)(ht:fX l t=some (.o (.w id n)))
  (hs:uj H tH) (ho:EB id tH=true) (h1:EN l tl) (h2:j8 nx tl):
  Sub B l nx O w' ⟨(t,.o (.v (.slice (some ⟨(O id).g,0,none⟩) n (O id).cap)))::tl,tH,nx,((O id).g,(O id).g+1)::iv,w'⟩:=
 ⟨O,r.free Om (by simp) hn hs ho,fun u v hv=>jL hn ht h1 h2 u v hv⟩
end Go.Sx
namespace Go.Ex
open Go Go.Sx Go.Proofs
end Go.Ex
namespace Go.Ex
open Go Go.Sx Go.Proofs
variable{css:List (List Value)}{qs ri:List Rat}{rv:List Value}{i:Nat}{a:Option Addr}{row:Option Nat}{q:Rat}{v:Value}
def Ob(rv:List Value)(g:Nat):Prop:=∃v∈rv,v.ownBlock=some g
def Lr(S:Nat->Prop)(B:Nat)(iv:Iv)(rv:List Value)(g:Nat):Prop:=Cv S B iv g∧¬Ob rv g
structure lg(w:World)(S:Nat->Prop)(B:Nat)(iv:Iv)(rv:List Value)(n:Nat)(M:List (List Rat)):Prop where
 len:rv.length=M.length
 row:∀(i:Nat) v qs,rv[i]? =some v->M[i]? =some qs->iV w (Lr S B iv rv) v n qs
 GH:∀(i j:Nat) a b g,rv[i]? =some a->rv[j]? =some b->a.ownBlock=some g->b.ownBlock=some g->i=j
 new:∀g,Ob rv g->Cv FF B iv g
theorem Ob.append{g:Nat}:Ob (rv++[v]) g↔Ob rv g∨v.ownBlock=some g:=by
 unfold Ob;simp[or_and_right,exists_or]
section
variable{S S':Nat->Prop}{H:Hp}{nx n:Nat}{iv iv':Iv}{B:Nat}{w w' w2:World}{O:Nat->Sx.dx}{rv:List Value}{M:List (List Rat)}
theorem lg.nil:lg w S B iv [] n []:=⟨rfl,fun i v qs h=>(by cases h),fun i j a b g h=>(by cases h),fun g ⟨v,hv,_⟩=>by cases hv⟩
theorem lg.cJ(h:lg w S B iv rv n M)(hk:∀g,Cv S B iv g->w2.heap[g]? =w.heap[g]?):lg w2 S B iv rv n M:=
 ⟨h.len,fun i v qs h1 h2=>(h.row i v qs h1 h2).cJ fun g hg=>hg.elim (fun hg=>hk g hg.1) fun hg=>hk g (D7 (h.new g ⟨v,aC h1,hg⟩)),h.GH,h.new⟩
theorem lg.rel(h:lg w S B iv rv n M)(r:Rel H nx iv B w O w')(hS:∀g,S g->g<B):lg w' S B iv rv n M:=h.cJ fun _ hg=>Rel.same r hS hg
theorem lg.mono(h:lg w S B iv rv n M)(hm:∀p,p∈iv->p∈iv'):lg w S B iv' rv n M:=
 ⟨h.len,fun i v qs h1 h2=>(h.row i v qs h1 h2).cK fun _ hg=>⟨hg.1.mono hm,hg.2⟩,h.GH,fun g hg=>(h.new g hg).mono hm⟩
theorem lg.cG(h:lg w S B iv rv n M)(r:Rel H nx iv B w O w')(hS:∀g,S g->g<B)(he:Ext w' w2)(hm:∀p,p∈iv->p∈iv'):lg w2 S B iv' rv n M:=
 ((h.rel r hS).cJ fun g hg=>he.block g (Rel.old r hS g hg)).mono hm
theorem lg.low(h:lg w S B iv rv n M){g:Nat}(hg:Ob rv g):B<=g:=(h.new g hg).elim (fun h=>h.elim) fun h=>h.1
theorem lg.lt(h:lg w S B iv rv n M)(r:Rel H nx iv B w O w'){g:Nat}(hg:Ob rv g):g<w'.heap.size:=Rel.old r (gQ B) g (h.new g hg)
theorem Lr.grown(r:Rel H nx iv B w O w')(hS:∀g,S g->g<B)(hg:w'.grownBy w2 row)(OE:∀g,row=some g->Ob rv g):∀g,Lr S B iv rv g->w2.heap[g]? =w.heap[g]? :=fun g h=>by
 rw[hg.block g (Rel.old r hS g h.1) fun e=>h.2 (OE g e.symm),Rel.same r hS h.1]
theorem lg.cQ(h:lg w S B iv rv n M)(r:Rel H nx iv B w O w')(hg:w'.grownBy w2 row)(OE:∀g,row=some g->Ob rv g):eE B w' w2:=
 eE.grown hg (fun g e=>h.low (OE g e)) r.cD
theorem lg.setRow(h:lg w' S B iv rv n M)(OU:∀g,Cv S B iv g->g<w'.heap.size){vi:Value}(TP:rv[i]? =some vi)(PV:w'.grownBy w2 vi.ownBlock)(hB:B<=w'.heap.size)
  (hq:iV w2 (Nw (Lr S B iv rv) w' w2) vi n qs):lg w2 S B ((w'.heap.size,w2.heap.size)::iv) rv n (M.set i qs):=by
 have hnw:∀g,Nw (Lr S B iv rv) w' w2 g->Lr S B ((w'.heap.size,w2.heap.size)::iv) rv g:=fun g hg=>by
  rcases hg with hg|hg
  ·exact⟨hg.1.mono fun p hp=>List.mem_cons_of_mem _ hp,hg.2⟩
  ·exact⟨.inr ⟨by omega,_,_,aG,hg.1,hg.2⟩,fun hm=>by have:=OU g (D7 (h.new g hm));omega⟩
 refine⟨by rw[bF];exact h.len,fun k v ps h1 h2=>?_,h.GH,fun g hg=>(h.new g hg).mono fun p hp=>List.mem_cons_of_mem _ hp⟩;by_cases hk:i=k
 ·subst hk;rw[TP]at h1;injection h1 with h1;subst h1;rw[aV (by rw[<-h.len];exact(aD.1 TP).1)]at h2;injection h2 with h2;subst h2;exact hq.cK hnw
 ·rw[aZ hk]at h2;refine((h.row k v ps h1 h2).cJ fun g hg=>?_).cK fun g hg=>⟨hg.1.mono fun p hp=>List.mem_cons_of_mem _ hp,hg.2⟩
  rcases hg with hg|hg
  ·exact PV.block g (OU g hg.1) fun e=>hg.2 ⟨vi,aC TP,e.symm⟩
  ·exact PV.block g (OU g (D7 (h.new g ⟨v,aC h1,hg⟩))) fun e=>hk (h.GH i k vi v g TP h1 e.symm hg)
theorem lg.D2(hM:lg w S B iv rv n M)(r:Rel H nx iv B w O w')(hS:∀g,S g->g<B){i j h:Nat}{vi vj vby:Value}{ri rj:List Rat}{p:Rat}(Pa:i≠j)(TP:rv[i]? =some vi)(SX:rv[j]? =some vj)(hri:M[i]? =some ri)(hrj:M[j]? =some rj)
  (PN:eS w (Lr S B iv rv) vby p) (hq:∀q∈ri,rl q+1<=h) (hqj:∀q∈rj,rl q+1<=h) (hb:rl p+1<=h) (hh:3*h<=90000):
  eA PG N.oP #[vi,vj,vby] w' (fun e w2=>e= .returned (.tuple #[])∧w'.grownBy w2 vi.ownBlock∧(∀g,vi.ownBlock=some g->Ob rv g)∧lg w2 S B ((w'.heap.size,w2.heap.size)::iv) rv n (M.set i (mL ri rj p))):=by
 have Uk:=hM.rel r hS;have h1:=Uk.row i vi ri TP hri;have h2:=Uk.row j vj rj SX hrj;have TE:∀g,vi.ownBlock=some g->Ob rv g:=fun g hg=>⟨_,aC TP,hg⟩
 have hmj:∀g,vj.ownBlock=some g->Ob rv g:=fun g hg=>⟨_,aC SX,hg⟩
 refine(Mk (C:=fun g=>vj.ownBlock=some g) (S:=Lr S B iv rv) (fun x hx=>hM.lt r (hmj x hx)) (fun g hg=>Rel.old r hS g hg.1) h1 (eS.cJ PN fun g hg=>Rel.same r hS hg.1) h2.read h2.len (fun g hg hx=>hx.2 (TE g hg)) (fun g hg hx=>Pa (hM.GH i j _ _ g TP SX hg hx)) hq hqj hb hh).mono fun e w8 he=>?_;obtain⟨rfl,PV,OE⟩:=he;exact⟨rfl,PV,TE,Uk.setRow (fun g hg=>Rel.old r hS g hg) TP PV r.cD OE⟩
theorem lg.form(hM:lg w S B iv rv n M)(hv:rv[i]? =some v):∃a c,v= .slice a n c:=by
 obtain⟨qs,hq⟩:∃qs,M[i]? =some qs:=⟨_,aB (by rw[<-hM.len];exact(aD.1 hv).1)⟩
 obtain⟨a,c,h,_⟩:=(hM.row i v qs hv hq).form;exact⟨a,c,h⟩
theorem lg.load(hM:lg w S B iv rv n M){k:Nat}{c:Nat}(hv:rv[i]? =some (.slice a n c))(hq:M[i]? =some qs)(hk:qs[k]? =some q):
  ∃ad cs,a=some ad∧iU w (Lr S B iv rv) cs q∧∀j u,cs[j]? =some u->Cv FF B iv ad.block∧w.cell? ((ad.add (k*4)).add j)=some u:=by
 obtain⟨ad,cs,h1,h2,h3⟩:=gP.load (hM.row i _ qs hv hq).read hk;refine⟨ad,cs,h1,h2,fun j u hu=>⟨?_,(h3 j u hu).2⟩⟩;have:=(h3 j u hu).1;exact hM.new _ ⟨_,aC hv,this⟩
theorem lg.store(hM:lg w S B iv rv n M)(r:Rel H nx iv B w O w')(hS:∀g,S g->g<B){k:Nat}{a1 a2:Option Addr}{c n1 c1 n2 c2:Nat}{b b2:Bool}(TP:rv[i]? =some (.slice a n c))(hri:M[i]? =some ri)(hk:k<n)
  (hf:cT w (Lr S B iv rv) (.agg #[.bool b,.slice a1 n1 c1,.bool b2,.slice a2 n2 c2]) q):
  ∃g,a=some ⟨g,0,none⟩∧((⟨g,0,none⟩:Addr).add ((k:Int).toNat*4)).spot=none∧
   (∀j,j<4->(w'.cell? (((⟨g,0,none⟩:Addr).add ((k:Int).toNat*4)).add j)).isSome=true∧w'.frozen? (((⟨g,0,none⟩:Addr).add ((k:Int).toNat*4)).add j)=false)∧
   (∀id b,dF H id=some b->(O id).nil=false->(O id).g≠((⟨g,0,none⟩:Addr).add ((k:Int).toNat*4)).block)∧
   ∀w2,w2=setCells w' ((⟨g,0,none⟩:Addr).add ((k:Int).toNat*4)) [.bool b,.slice a1 n1 c1,.bool b2,.slice a2 n2 c2]->lg w2 S B iv rv n (M.set i (ri.set k q))∧eE B w' w2∧Rel H nx iv B w2 O w2∧∀g,Lr S B iv rv g->w2.heap[g]? =w.heap[g]? :=by
 have Uk:=hM.rel r hS;have TE:∀g,(Value.slice a n c).ownBlock=some g->Ob rv g:=fun g hg=>⟨_,aC TP,hg⟩
 obtain⟨g,rfl,h1,h2,h3,h4⟩:=(Uk.row i _ ri TP hri).store hk (hf.cJ fun g hg=>Rel.same r hS hg.1) (fun g hg hx=>hx.2 (TE g hg)) (fun x hx=>Rel.old r hS x hx.1);refine⟨g,rfl,h1,h3,fun id b hb hn=>by rw[h2];exact Rel.not r (gQ B) (hM.new g (TE g rfl)) id b hb hn,fun w2 Oz=>?_⟩;obtain⟨k1,k2,k3⟩:=h4 w2 Oz;have hs:=Uk.setRow (fun g hg=>Rel.old r hS g hg) TP k2 r.cD (k1.cK fun g hg=>.inl hg);refine⟨?_,hM.cQ r k2 TE,r.yg (fun id b hb hn=>Rel.not r (gQ B) (hM.new g (TE g rfl)) id b hb hn) k2,Lr.grown r hS k2 TE⟩;refine⟨hs.len,fun j v qs h5 h6=>(hs.row j v qs h5 h6).cK fun x hx=>⟨?_,hx.2⟩,hs.GH,fun x hx=>hM.new x hx⟩;rcases hx.1 with hx|⟨m1,lo,hi,m2,m3,m4⟩
 ·exact .inl hx
 ·rcases List.mem_cons.1 m2 with e|m2
  ·injection e with e1 e2;subst e1 e2;omega
  ·exact .inr ⟨m1,lo,hi,m2,m3,m4⟩
theorem lg.push(hM:lg w S B iv rv n M){gx c:Nat}(TF:∀g,Cv S B iv g->g≠gx)(hBx:B<=gx)(OE:iV w S (.slice (some ⟨gx,0,none⟩) n c) n qs)(hS:∀g,S g->g<B):
  lg w S B ((gx,gx+1)::iv) (rv++[.slice (some ⟨gx,0,none⟩) n c]) n (M++[qs]):=by
 have Qt:∀g,Ob rv g->g≠gx:=fun g hg=>TF g (D7 (hM.new g hg))
 have hlr:∀g,Lr S B iv rv g->Lr S B ((gx,gx+1)::iv) (rv++[.slice (some ⟨gx,0,none⟩) n c]) g:=fun g hg=>⟨hg.1.mono fun p hp=>List.mem_cons_of_mem _ hp,fun h=>by
  rcases Ob.append.1 h with h|h
  ·exact hg.2 h
  ·injection h with h;exact TF g hg.1 h.symm⟩
 refine⟨by simp[hM.len],fun i v ps h1 h2=>?_,fun i j a b g h1 h2 h3 h4=>?_,fun g hg=>?_⟩
 ·rcases aP i rv.length with hi|hi
  ·rw[aL hi]at h1;rw[aL (by rw[<-hM.len];exact hi)]at h2;exact(hM.row i v ps h1 h2).cK hlr
  ·have RT:i=rv.length:=by have:=(aD.1 h1).1;simp at this;omega
   rw[RT,aN (aF _),bI]at h1;rw[RT,hM.len,aN (aF _),bI]at h2;simp at h1 h2;subst h1 h2;refine OE.cK fun g hg=>⟨.inl hg,fun h=>?_⟩
   have:=hS g hg;rcases Ob.append.1 h with h|h
   ·have:=hM.low h;omega
   ·injection h with h;have h:gx=g:=h;omega
 ·have key:∀(k:Nat) v,(rv++[Value.slice (some ⟨gx,0,none⟩) n c])[k]? =some v->(k<rv.length∧rv[k]? =some v)∨(k=rv.length∧v= .slice (some ⟨gx,0,none⟩) n c):=fun k v hk=>by
   rcases aP k rv.length with hi|hi
   ·rw[aL hi]at hk;exact .inl ⟨hi,hk⟩
   ·have RT:k=rv.length:=by have:=(aD.1 hk).1;simp at this;omega
    rw[RT,aN (aF _),bI]at hk;simp at hk;exact .inr ⟨RT,hk.symm⟩
  rcases key i a h1 with⟨_,k1⟩|⟨e1,rfl⟩<;>rcases key j b h2 with⟨_,k2⟩|⟨e2,rfl⟩
  ·exact hM.GH i j a b g k1 k2 h3 h4
  ·injection h4 with h4;exact absurd h4.symm (Qt g ⟨a,aC k1,h3⟩)
  ·injection h3 with h3;exact absurd h3.symm (Qt g ⟨b,aC k2,h4⟩)
  ·rw[e1,e2]
 ·rcases Ob.append.1 hg with h|h
  ·exact(hM.new g h).mono fun p hp=>List.mem_cons_of_mem _ hp
  ·injection h with h;have h:gx=g:=h;subst h;exact .inr ⟨hBx,_,_,aG,aF _,bZ _⟩
theorem lg.drop(hM:lg w S B iv (rv++[v]) n (M++[qs])):lg w S B iv rv n M:=by
 have hl:rv.length=M.length:=by have:=hM.len;simpa using this
 have Qt:∀g,Ob rv g->Ob (rv++[v]) g:=fun g hg=>Ob.append.2 (.inl hg);refine⟨hl,fun i u ps h1 h2=>?_,fun i j a b g h1 h2=>hM.GH i j a b g ?_ ?_,fun g hg=>hM.new g (Qt g hg)⟩
 ·have hi:=(aD.1 h1).1;exact(hM.row i u ps (by rw[aL hi];exact h1) (by rw[aL (by rw[<-hl];exact hi)];exact h2)).cK fun g hg=>⟨hg.1,fun h=>hg.2 (Qt g h)⟩
 ·rw[aL (aD.1 h1).1];exact h1
 ·rw[aL (aD.1 h2).1];exact h2
theorem aA5{id m:Nat}(r:Rel H nx iv B w O w')(h:dF H id=some (.vec T.Rat 4 css.flatten))(hl:css.length=m)(h0:0<m)(hm:m<=maxLen)(hF:Fc w' S css qs):
  (O id).nil=false∧B<=(O id).g∧(∀g,Out B iv g->g≠(O id).g)∧iV w' S (.slice (some ⟨(O id).g,0,none⟩) m (O id).cap) m qs:=by
 have OX:=eY hF.uS;rcases r.vec id _ _ _ h with⟨_,h2⟩|⟨h1,spare,h2,h3,h4⟩
 ·rw[h2]at OX;rw[hl]at OX;simp at OX;omega
 ·refine⟨h1,(r.low id _ h h1).1,fun g hg e=>?_,css,⟨by rw[OX,hl],.inr ⟨(O id).g,(O id).cap,_,rfl,aQ _,h2,?_,h4,by simpa using h3,by rw[show m*4=css.flatten.length by rw[OX,hl]];simp⟩⟩,hl,hF⟩
  ·exact Rel.not r (fun _ h=>h) hg id _ h h1 e.symm
  ·rw[List.length_append,OX,hl]at h3;omega
end
end Go.Ex
namespace Go.Sx
open Go Go.Ex Go.Proofs
variable{O:Nat->Sx.dx}
theorem Sub.BT{B nx:Nat}{l:Env}{H:Hp}{iv:Iv}{w w':World}{t:Bh}(id p e sz:Nat){bt:Nat}{cs:List At}(Om:dF H id=some (.box bt cs))(hp:cs[p]? =some (.v (.slice none 0 0)))(SG:j8 nx l)(r:Rel H nx iv B w O w')
  (h:∀ρ1,Rel ((id,.box bt (cs.set p (.w nx 0)))::(nx,.vec e sz [])::H) (nx+1) iv B w ρ1 w'->Sx.Sub B l (nx+1) ρ1 w' t):Sx.Sub B l nx O w' t:=by
 have r1:=r.push (.vec e sz []) ⟨0,0,true⟩ (w2:=w') rfl rfl rfl (aF _) (fun _ _=>rfl) (fun h=>by cases h) (.inl ⟨rfl,rfl⟩) trivial;have OD:id≠nx:=Nat.ne_of_lt (r.keys id _ Om);have VF:dF ((nx,.vec e sz [])::H) id=some (.box bt cs):=by rw[dJ,aJ (fun h=>OD h.symm)];exact Om
 have hnn:=r1.nn id _ VF (by intros;simp) (by simp);have Ov:=r1.box id bt cs VF;have Qo:(cs.set p (.w nx 0)).map (At.den (Sx.gl O nx ⟨0,0,true⟩))=cs.map (At.den (Sx.gl O nx ⟨0,0,true⟩)):=by
  refine bK fun j=>?_;rw[aM,aM];by_cases hj:p=j
  ·subst hj;rw[aV (aD.1 hp).1,hp];simp[At.den,fJ]
  ·rw[aZ hj]
 have r2:=r1.store (b':=.box bt (cs.set p (.w nx 0))) (H':=(id,.box bt (cs.set p (.w nx 0)))::(nx,.vec e sz [])::H) (w2:=w') VF (by simp) hnn (fun j=>by
  rw[dJ];by_cases hj:id=j
  ·subst hj;rw[if_pos rfl]
  ·rw[aJ hj,aJ (fun h=>hj h.symm)]) rfl rfl rfl rfl (fun _ _=>rfl) ⟨hnn,by rw[Qo];exact Ov⟩ (fun x hx=>by
   rcases bJ hx with hx|rfl
   ·exact r1.MN id bt cs VF x hx
   ·exact bZ nx)
 obtain⟨ρ',h1,h2⟩:=h _ r2;refine⟨ρ',h1,fun x v hv=>?_⟩;obtain⟨h3,v0,h4,h5⟩:=h2 x v hv;refine⟨h3,v0,h4,?_⟩;rw[<-h5];exact SV.jt (fun id Om=>gb id Om) (SG.get _ _ h4)
end Go.Sx
namespace Go.Ex
open Go Go.Sx Go.Proofs
end Go.Ex
namespace Go.Ex
open Go Go.Sx Go.Proofs
variable{a:Act}{K:Act->World->Prop}{la lx:Array Bool}{I:Array Bool->World->Prop}{Q:Exit->Act->World->Prop}{b i j:Nat}{oi:Oper}{X:Sem Next}{v:Value}{w:World}{Y:World->Prop}
inductive Tq where
 |nil
 |x (i:Nat) (t:Tq)
 |two (i:Nat) (t:Tq) (j:Nat) (u:Tq)
 |three (i:Nat) (t:Tq) (j:Nat) (u:Tq) (k:Nat) (v:Tq)
section
variable{P:Program}{τ:mz}{ops:Array Oper}{B n nx:Nat}{l:Env}{H:Hp}{iv:Iv}{w w':World}{O:Nat->Sx.dx}{a:Act}
end
section
variable{P:Program}{ops:Array Oper}{Q:Exit->Act->World->Prop}{md:Region.Mode}
theorem Jd{oj:Oper}(hj:ops[j]? =some oj)(Qr:oi.apart ops oj=true)
  (hsi:∀cs b,oi.op≠ .select cs b) (hsj:∀cs b,oj.op≠ .select cs b)
  (hQ:∀c a w,Q (.panic c) (a.put oi.dst v) w->Q (.panic c) a w)
  (hy:Region.wanted oi (yielded ops a.tmps)=true∧execOp a.eval oi=X) (h:wpOp P ops Q j K (a.put oi.dst v) w):
  wpOp P ops Q j (fun a' w'=>(Region.wanted oi (yielded ops a'.tmps)=true∧execOp a'.eval oi=X)∧K (a'.put oi.dst v) w') a w:=by
 obtain⟨h1,h2,h3⟩:=Oper.apart_spec Qr;have cJ:∀(a:Act),(Region.wanted oi (yielded ops a.tmps)=true∧execOp a.eval oi=X)->∀u,(Region.wanted oi (yielded ops (a.put oj.dst u).tmps)=true∧execOp (a.put oj.dst u).eval oi=X):=fun a hy u=>
  ⟨(wanted_put oi a oj.dst u h3).trans hy.1,(execOp_put oi hsi a oj.dst u h3).trans hy.2⟩
 have keepD:∀d:Deferred,(Region.wanted oi (yielded ops ({a with defers:=d::a.defers}:Act).tmps)=true∧execOp ({a with defers:=d::a.defers}:Act).eval oi=X):=fun d=>hy;unfold wpOp at*
 simp only[hj]at*
 rw[wanted_put oj a oi.dst v h1]at h;split
 ·rename_i hw;simp only[hw,if_true]at h;rcases h with h|⟨SQ,UG⟩
  case inr=>exact .inr ⟨by unfold Oper.asks at *;rw[execOp_put oj hsj a oi.dst v h1]at SQ;exact SQ,UG⟩
  refine .inl ?_;unfold Oper.wp at*
  rw[execOp_put oj hsj a oi.dst v h1]at h;generalize (execOp a.eval oj).run P w=r at*
  cases r with
  |ok n w'=>
   cases n<;>simp only[Oper.upon]at h ⊢
   case value u=>exact⟨cJ a hy u,by rw[<-Act.put_comm a v u h2];exact h⟩
   case skip=>exact⟨cJ a hy _,by rw[<-Act.put_comm a v undef h2];exact h⟩
   case defer d=>
    refine⟨cJ ({a with defers:=d::a.defers}:Act) (keepD d) undef,?_⟩;rw[<-Act.put_comm _ v undef h2,<-Act.put_defers];exact h
   case enter f args=>
    refine Calls.mono h fun e w'' he=>?_
    cases e with
    |returned u=>exact⟨cJ a hy u,by rw[<-Act.put_comm a v u h2];exact he⟩
    |panicked c=>exact hQ _ _ _ he
    |outgrown=>exact he
   case row row args=>exact Rows.mono h fun u w'' he=>⟨cJ a hy u,by rw[<-Act.put_comm a v u h2];exact he⟩
  |halt x w'=>
   cases x<;>simp only[Oper.upon]at h ⊢
   case panic u=>exact hQ _ _ _ h
 ·rename_i hw;simp only[hw]at h;exact⟨cJ a hy _,by rw[<-Act.put_comm a v undef h2];exact h⟩
def qd(P:Program)(md:Region.Mode)(ops:Array Oper)(Q:Exit->Act->World->Prop)(I:Array Bool->World->Prop):Nat->Array Bool->Act->World->Prop
 |0,lx,a,w=>I lx w∧Region.ready md ops lx=[]∧Q .normal a w
 |fuel+1,lx,a,w=>I lx w∧(Region.ready md ops lx=[]->Q .normal a w)∧∀i∈Region.ready md ops lx,wpOp P ops Q i (fun a' w'=>qd P md ops Q I fuel (lx.setIfInBounds i true) a' w') a w
theorem BA{I:Array Bool->World->Prop}:∀(fuel:Nat) (lx:Array Bool) (a:Act) (w:World),qd P md ops Q I fuel lx a w->wpAny P md ops Q fuel lx a w
 |0,_,_,_,h=>h.2
 |fuel+1,_,_,_,h=>⟨h.2.1,fun i hi=>wpOp_mono (fun _ _ h'=>BA fuel _ _ _ h') (h.2.2 i hi)⟩
theorem kZ{I J:Array Bool->World->Prop}(hIJ:∀lx w,I lx w->J lx w):∀(fuel:Nat) (lx:Array Bool) (a:Act) (w:World),qd P md ops Q I fuel lx a w->qd P md ops Q J fuel lx a w
 |0,_,_,_,h=>⟨hIJ _ _ h.1,h.2⟩
 |fuel+1,_,_,_,h=>⟨hIJ _ _ h.1,h.2.1,fun i hi=>wpOp_mono (fun _ _ h'=>kZ hIJ fuel _ _ _ h') (h.2.2 i hi)⟩
theorem GD(hI:I lx w)(hr:Region.ready md ops lx=[])(h:Q .normal a w):∀fuel,qd P md ops Q I fuel lx a w
 |0=>⟨hI,hr,h⟩
 |_+1=>⟨hI,fun _=>h,by rw[hr];simp⟩
def my(ops:Array Oper)(b:Nat)(lx:Array Bool):Prop:=∀(k:Nat) o,tb b k=true->ops[k]? =some o->tB o.op=false->lx.getD k false=false
theorem jY(hi:ops[i]? =some oi)(hR:tB oi.op=true):my ops b (lx.setIfInBounds i true)↔my ops b lx:=by
 have key:∀(k:Nat) o,ops[k]? =some o->tB o.op=false->(lx.setIfInBounds i true).getD k false=lx.getD k false:=fun k o ho hr=>by
  have:i≠k:=fun e=>by subst e;rw[hi]at ho;injection ho with ho;subst ho;rw[hR]at hr;cases hr
  exact getD_set_ne false this
 exact⟨fun h k o h1 h2 h3=>by rw[<-key k o h2 h3];exact h k o h1 h2 h3,fun h k o h1 h2 h3=>by rw[key k o h2 h3];exact h k o h1 h2 h3⟩
theorem ue(hi:ops[i]? =some oi)(hR:tB oi.op=true)(OS:∀(j:Nat) (o:Oper) cs b,ops[j]? =some o->o.op≠ .select cs b)
  (hQ:∀c a w,Q (.panic c) (a.put oi.dst v) w->Q (.panic c) a w) (SO:∀j,tb b j=true->∃oj e,ops[j]? =some oj∧e∈oj.after∧Region.binds md e=true∧(e.on=i∨tb b e.on=true))
  (hY:∀w,Y w->X.run P w= .ok (.value v) w) (hI:∀lx w,I (lx.setIfInBounds i true) w->I lx w):
  ∀(fuel:Nat) (lx:Array Bool) (a:Act) (w:World),(∀j,tb b j=true->lx.getD j false=false)->
   (∀j oj,ops[j]? =some oj->j≠i->lx.getD j true=false->tb b j=false->oi.apart ops oj=true)->
   i∈Region.ready md ops lx->(Region.wanted oi (yielded ops a.tmps)=true∧execOp a.eval oi=X)->
   qd P md ops Q (fun lx w=>I lx w∧(my ops b lx->Y w)) fuel (lx.setIfInBounds i true) (a.put oi.dst v) w->qd P md ops Q I (fuel+1) lx a w:=by
 intro fuel;have run:∀(lx:Array Bool) (a:Act) (w:World),(∀j,tb b j=true->lx.getD j false=false)->(Region.wanted oi (yielded ops a.tmps)=true∧execOp a.eval oi=X)->(I (lx.setIfInBounds i true) w∧(my ops b (lx.setIfInBounds i true)->Y w))->
   ∀K:Act->World->Prop,K (a.put oi.dst v) w->wpOp P ops Q i K a w:=fun lx a w PX hy hH K hK=>by
  have hYw:=hH.2 ((jY hi hR).2 fun k o h1 _ _=>PX k h1);unfold wpOp;simp only[hi,hy.1,if_true]
  refine .inl ?_;unfold Oper.wp;rw[hy.2,hY w hYw];exact hK
 induction fuel with
 |zero=>
  intro lx a w PX _ hr hy H;refine⟨hI _ _ H.1.1,fun h=>(by rw[h]at hr;cases hr),fun j hj=>?_⟩;by_cases Ox:j=i
  ·subst Ox;exact run lx a w PX hy H.1 _ (kZ (fun _ _ h=>h.1) 0 _ _ _ H)
  ·have:=ready_mono hj Ox;rw[H.2.1]at this
   cases this
 |succ fuel ih=>
  intro lx a w PX PM hr hy H;refine⟨hI _ _ H.1.1,fun h=>(by rw[h]at hr;cases hr),fun j hj=>?_⟩;by_cases Ox:j=i
  ·subst Ox;exact run lx a w PX hy H.1 _ (kZ (fun _ _ h=>h.1) (fuel+1) _ _ _ H)
  ·have h1:=H.2.2 j (ready_mono hj Ox);obtain⟨UH,oj,Qf,Ph⟩:=mem_ready.1 hj;have Q4:tb b j=false:=by
    cases hb:tb b j with
    |false=>rfl
    |true=>
     exfalso;obtain⟨oj',e,Rj,he,hbi,Tl⟩:=SO j hb;rw[Qf]at Rj;injection Rj with Rj;subst Rj;have h1:=Ph e he hbi;rcases Tl with heq|QE
     ·have h0:=(mem_ready.1 hr).1;rw[heq]at h1;rcases aP i lx.size with h'|h'
      ·simp[h']at h0 h1;rw[h0]at h1;cases h1
      ·simp[Array.getElem?_eq_none h']at h1
     ·rw[PX _ QE]at h1;cases h1
   have h2:=Jd Qf (PM j oj Qf Ox UH Q4) (fun cs b=>OS i oi cs b hi) (fun cs b=>OS j oj cs b Qf) hQ hy h1;have hbl':∀k,tb b k=true->(lx.setIfInBounds j true).getD k false=false:=fun k hk=>by
    rw[getD_set_ne false (fun e=>(by subst e;rw[Q4]at hk;cases hk))];exact PX k hk
   have Sj:∀k ok,ops[k]? =some ok->k≠i->(lx.setIfInBounds j true).getD k true=false->tb b k=false->oi.apart ops ok=true:=fun k ok hk hki Ti Qy=>by
    refine PM k ok hk hki ?_ Qy;by_cases Ro:j=k
    ·subst Ro;exact UH
    ·rw[getD_set_ne true Ro]at Ti;exact Ti
   refine wpOp_mono (fun a' w' h3=>?_) h2;refine ih (lx.setIfInBounds j true) a' w' hbl' Sj (ready_mono hr (Ne.symm Ox)) h3.1 ?_;rw[Array.setIfInBounds_comm _ _ Ox];exact h3.2
end
structure Gh where
 u:Nat
 d:Nat
 T:Nat
 b:Nat
def Dz(τ:mz)(B:Nat):List Gh->Env->Hp->Nat->Iv->World->Prop->Prop
 |[],_,_,_,_,_,K=>K
 |g::r,l,H,nx,iv,w,K=>match fX l g.u with
  |some su=>Bf τ B g.T su H nx iv w (fun v=>fX l g.d=some v∧Dz τ B r l H nx iv w K)
  |none=>False
inductive Tg where
 |nil
 |x (i:Nat) (t:Tg)
 |two (i:Nat) (t:Tg) (j:Nat) (u:Tg)
 |three (i:Nat) (t:Tg) (j:Nat) (u:Tg) (k:Nat) (v:Tg)
 |ld (i b:Nat) (t:Tg)
 |kA (id:Nat) (t:Tg)
def Cj(j:Nat):List Gh->List Gh
 |[]=>[]
 |g::r=>match tb g.b j with
  |true=>Cj j r
  |false=>g::Cj j r
def stepG(τ:mz)(B:Nat)(rd:Bool)(G:List Gh)(j:Nat)(l:Env)(H:Hp)(nx:Nat)(iv:Iv)(w:World)(K:List Gh->Prop):Prop:=match rd with
 |true=>K G
 |false=>Dz τ B (Cj j G) l H nx iv w (K (Cj j G))
def GF(ops:Array Oper)(m i:Nat)(oi:Oper)(b:Nat):List Oper->Nat->Bool
 |[],_=>true
 |oj::r,j=>(Nat.beq j i||tb m j||tb b j||oi.apart ops oj)&&GF ops m i oi b r (j+1)
def IT(m i u d:Nat):List Oper->Nat->Bool
 |[],_=>true
 |oj::r,j=>(tb m j||match oj.dst with
   |none=>true
   |some e=> !Nat.beq e u&&(Nat.beq j i|| !Nat.beq e d))&&IT m i u d r (j+1)
def MM(o:Oper):Option (Nat×Nat×Nat):=match o with
 |⟨some d,.load T (.tmp u),_,_,_,none⟩=>some (d,T,u)
 |_=>none
def mD(ops:Array Oper):Tg->Array Bool->Bool
 | .nil,lx=>(Region.ready .any ops lx).isEmpty
 | .x i t,lx=>match ops[i]? with
  |none=>false
  |some o=>(Region.ready .any ops lx).contains i&&((Region.ready .any ops lx).all (fun j=>Nat.beq j i)||GJ o.op&&o.guard.isNone&&GF ops (iR lx.toList 0) i o (BC (iR lx.toList 0) i ops.toList 0 0) ops.toList 0)&&mD ops t (lx.setIfInBounds i true)
 | .two i t j u,lx=>match Region.ready .any ops lx with
  |[a,b]=>Nat.beq a i&&(Nat.beq b j&&(mD ops t (lx.setIfInBounds i true)&&mD ops u (lx.setIfInBounds j true)))
  |_=>false
 | .three i t j u k v,lx=>match Region.ready .any ops lx with
  |[a,b,c]=>Nat.beq a i&&(Nat.beq b j&&(Nat.beq c k&&(mD ops t (lx.setIfInBounds i true)&&(mD ops u (lx.setIfInBounds j true)&&mD ops v (lx.setIfInBounds k true)))))
  |_=>false
 | .ld i b t,lx=>match ops[i]? with
  |none=>false
  |some o=>match MM o with
   |none=>false
   |some (d,_,u)=>(Region.ready .any ops lx).contains i&&Nat.beq b (BC (iR lx.toList 0) i ops.toList 0 0)&&GF ops (iR lx.toList 0) i o b ops.toList 0&&IT (iR lx.toList 0) i u d ops.toList 0&&mD ops t (lx.setIfInBounds i true)
 | .kA _ t,lx=>mD ops t lx
def B6(P:Program)(τ:mz)(B:Nat)(all:List Oper):Tg->List Gh->Env->Hp->Nat->Iv->World->KT->Prop
 | .nil,_,l,H,nx,iv,w,K=>K l H nx iv w
 | .x i t,G,l,H,nx,iv,w,K=>nh all i (fun o=>fh (!fI o) P τ B all o l H nx iv w (fun l' H' OI iv' w'=>stepG τ B (tB o.op) G i l' H' OI iv' w' (fun G'=>B6 P τ B all t G' l' H' OI iv' w' K)))
 | .two i t j u,G,l,H,nx,iv,w,K=>nh all i (fun o=>fh (!fI o) P τ B all o l H nx iv w (fun l' H' OI iv' w'=>stepG τ B (tB o.op) G i l' H' OI iv' w' (fun G'=>B6 P τ B all t G' l' H' OI iv' w' K)))∧
   nh all j (fun o=>fh (!fI o) P τ B all o l H nx iv w (fun l' H' OI iv' w'=>stepG τ B (tB o.op) G j l' H' OI iv' w' (fun G'=>B6 P τ B all u G' l' H' OI iv' w' K)))
 | .three i t j u k v,G,l,H,nx,iv,w,K=>nh all i (fun o=>fh (!fI o) P τ B all o l H nx iv w (fun l' H' OI iv' w'=>stepG τ B (tB o.op) G i l' H' OI iv' w' (fun G'=>B6 P τ B all t G' l' H' OI iv' w' K)))∧
   (nh all j (fun o=>fh (!fI o) P τ B all o l H nx iv w (fun l' H' OI iv' w'=>stepG τ B (tB o.op) G j l' H' OI iv' w' (fun G'=>B6 P τ B all u G' l' H' OI iv' w' K)))∧
   nh all k (fun o=>fh (!fI o) P τ B all o l H nx iv w (fun l' H' OI iv' w'=>stepG τ B (tB o.op) G k l' H' OI iv' w' (fun G'=>B6 P τ B all v G' l' H' OI iv' w' K))))
 | .ld i b t,G,l,H,nx,iv,w,K=>nh all i (fun o=>match MM o with
  |some (d,T,u)=>match fX l u with
   |some su=>Bf τ B T su H nx iv w (fun v=>B6 P τ B all t (⟨u,d,T,b⟩::G) ((d,v)::l) H nx iv w K)
   |none=>False
  |none=>False)
 | .kA id t,G,l,H,nx,iv,w,K=>∃H' b,dF H id=some b∧b≠ .dead∧uj H H'∧EB id H'=true∧∀O w',Rel H nx iv B w O w'->(O id).nil=false∧∃l',(∀u v,fX l' u=some v->v.sc nx∧∃v',fX l u=some v'∧v'.den O=v.den O)∧B6 P τ B all t G l' H' nx (((O id).g,(O id).g+1)::iv) w' K
section
variable{P:Program}{τ:mz}{ops:Array Oper}{B n nx:Nat}{l:Env}{H:Hp}{iv:Iv}{w w':World}{O:Nat->Sx.dx}{a:Act}
theorem aAh(hτ:fQ P τ){o:Oper}(ho:ops[i]? =some o)(hd:∀d,o.dst=some d->d<n){K:KT}{next:Act->World->Prop}
  (h1:fh (!fI o) P τ B ops.toList o l H nx iv w K) (sat:Sat n l H nx iv B w O a w')
  (hn:∀l' H' OI iv' w2 ρ' x w3,K l' H' OI iv' w2->Sat n l' H' OI iv' B w2 ρ' (a.put o.dst x) w3->(tB o.op=true->w3=w')->next (a.put o.dst x) w3):
  wpOp P ops Q i next a w':=by
 unfold fh at h1;refine mH ho ?_;rcases iu sat h1 with⟨hw,l1,h2,sat1⟩|⟨hw,l1,h2,sat1⟩
 ·refine .inl ⟨hw,?_⟩
  cases hR:tB o.op with
  |true=>
   obtain⟨v,hK,QW,OK⟩:=(j0 hτ h2 sat1 hR).resolve_right (fun hh=>by have:=hh.1;rw[lH hR]at this;cases this);obtain⟨l2,h3,sat2⟩:=fC sat1 hK hd QW;exact k5 (OK w' (.inr sat1.rel)) (hn _ _ _ _ _ _ _ _ h3 sat2 fun _=>rfl)
  |false=>
   have nr:∀w3:World,tB o.op=true->w3=w':=fun w3 h=>by rw[hR]at h;cases h
   cases hA:Jh o.op with
   |true=>
    obtain⟨b,v,mk,obj,hK,OW,hb,hv,Tx,Pb,Ty⟩:=lG hτ h2 sat1 hA;have Og:Rel ((nx,b)::H) (nx+1) iv B w (Sx.gl O nx ⟨w'.heap.size,0,false⟩) (w'.alloc obj):=
     sat1.rel.push b _ rfl rfl rfl (by simp) (fun k hk=>heap_alloc_old _ _ hk) (fun _=>⟨aF _,by simp⟩) (Pb _ _ (heap_alloc_new _ _)) hb
    obtain⟨l2,h3,sat2⟩:=fC (sat1.next Og (Nat.le_succ _) (fun id Om=>gb id Om)) hK hd hv;rw[Tx]at sat2;exact k5 (v:=mk w'.heap.size) (w2:=w'.alloc obj) (Ty w') (hn _ _ _ _ _ _ _ _ h3 sat2 (by rw[hR];exact fun h=>by cases h))
   |false=>
    cases hH:pC o with
    |false=>
     rw[mi hH]at h2;refine sF h2 sat1 hR hA hH fun v w2 hK he hs=>?_;obtain⟨l2,h3,sat2⟩:=fC (v:=.o (.v v)) hs hK hd trivial;exact hn _ _ _ _ _ _ _ _ h3 sat2 (by rw[hR];exact fun h=>by cases h)
    |true=>
     refine lI hτ h2 sat1 fun v H' OI iv' w2 ρ' w3 hK sat2 hv=>?_;obtain⟨l2,h3,sat3⟩:=fC sat2 hK hd hv;exact hn _ _ _ _ _ _ _ _ h3 sat3 (by rw[hR];exact fun h=>by cases h)
 ·obtain⟨l2,h4,sat3⟩:=fC sat1 h2 hd trivial;exact .inr ⟨hw,hn _ _ _ _ _ _ _ _ h4 sat3 fun _=>rfl⟩
theorem xV(hτ:fQ P τ)(sat:Sat n l H nx iv B w O a w'){K:Prop}:∀(G:List Gh),Dz τ B G l H nx iv w K->
  K∧∀g∈G,∃su sv,fX l g.u=some su∧fX l g.d=some sv∧(Instr.loadAt g.T (su.den O)).run P w'= .ok (sv.den O) w'
 |[],h=>⟨h,fun g hg=>by cases hg⟩
 |g::r,h=>by
  unfold Dz at h;split at h
  ·rename_i su hsu;obtain⟨v,⟨h1,h2⟩,hv,OK⟩:=nu hτ sat.rel (sat.sc _ _ hsu) h;obtain⟨h3,h4⟩:=xV hτ sat r h2;refine⟨h3,fun g' hg=>?_⟩;rcases List.mem_cons.1 hg with rfl|hg
   ·exact⟨su,v,hsu,h1,OK w' sat.rel⟩
   ·exact h4 g' hg
  ·exact h.elim
theorem rE{j:Nat}{g:Gh}:∀{G:List Gh},g∈G->tb g.b j=false->g∈Cj j G
 |g'::r,h,hb=>by
  unfold Cj;rcases List.mem_cons.1 h with rfl|h
  ·rw[hb];exact aG
  ·split
   ·exact rE h hb
   ·exact List.mem_cons_of_mem _ (rE h hb)
abbrev Zh:=Gh×Value×Value
def Yz(P:Program)(z:Zh)(w:World):Prop:=(Instr.loadAt z.1.T z.2.1).run P w= .ok z.2.2 w
structure GOk(ops:Array Oper)(la:Array Bool)(a:Act)(z:Zh):Prop where
 u:a.tmps[z.1.u]? =some z.2.1
 d:a.tmps[z.1.d]? =some z.2.2
 no:∀(j:Nat) oj,ops[j]? =some oj->la.getD j false=false->oj.dst≠some z.1.u∧oj.dst≠some z.1.d
theorem GOk.step{z:Zh}{oj:Oper}{x:Value}(h:GOk ops la a z)(hj:ops[j]? =some oj)(hl:la.getD j false=false):GOk ops (la.setIfInBounds j true) (a.put oj.dst x) z:=by
 obtain⟨h1,h2⟩:=h.no j oj hj hl;refine⟨qf h1 h.u,qf h2 h.d,fun k ok hk hlk=>h.no k ok hk ?_⟩;by_cases Ro:j=k
 ·subst Ro;exact hl
 ·rwa [getD_set_ne false Ro]at hlk
def IZ(P:Program)(ops:Array Oper)(Z:List Zh)(lx:Array Bool)(w:World):Prop:=∀z∈Z,my ops z.1.b lx->Yz P z w
theorem uf(h:i∈Region.ready .any ops la):la.getD i false=false:=by
 have:=(eK.1 h).1;rw[ah,this];rfl
theorem oq{o:Oper}(ho:ops[i]? =some o)(hl:la[i]? =some false)(h:my ops b (la.setIfInBounds i true)):my ops b la∧(tB o.op=false->tb b i=false):=by
 refine⟨fun k ok h1 h2 h3=>?_,fun hR=>?_⟩
 ·by_cases hik:i=k
  ·subst hik;rw[ah,hl];rfl
  ·rw[<-getD_set_ne false hik];exact h k ok h1 h2 h3
 ·cases hb:tb b i with
  |false=>rfl
  |true=>
   have:=h i o hb ho hR;have hi:=(ai.1 hl).1;rw[ah,Array.getElem?_setIfInBounds_self_of_lt hi]at this
   cases this
theorem Ck(hτ:fQ P τ){o:Oper}{G:List Gh}{Z:List Zh}(ho:ops[i]? =some o)(hd:∀d,o.dst=some d->d<n)(hr:i∈Region.ready .any ops la){next:Act->World->Prop}{K:Env->Hp->Nat->Iv->World->List Gh->Prop}
  (h1:fh (!fI o) P τ B ops.toList o l H nx iv w (fun l' H' OI iv' w'=>stepG τ B (tB o.op) G i l' H' OI iv' w' (K l' H' OI iv' w'))) (sat:Sat n l H nx iv B w O a w')
  (hG:∀z∈Z,my ops z.1.b la->z.1∈G) (hZ:∀z∈Z,GOk ops la a z) (hI:IZ P ops Z la w')
  (hn:∀l' H' OI iv' w2 ρ' x w3 G',K l' H' OI iv' w2 G'->Sat n l' H' OI iv' B w2 ρ' (a.put o.dst x) w3->(∀z∈Z,my ops z.1.b (la.setIfInBounds i true)->z.1∈G')->(∀z∈Z,GOk ops (la.setIfInBounds i true) (a.put o.dst x) z)->IZ P ops Z (la.setIfInBounds i true) w3->next (a.put o.dst x) w3):
  wpOp P ops Q i next a w':=by
 have hl:=(eK.1 hr).1;refine aAh hτ ho hd h1 sat fun l' H' OI iv' w2 ρ' x w3 hK sat2 hw=>?_;have hZ2:∀z∈Z,GOk ops (la.setIfInBounds i true) (a.put o.dst x) z:=fun z hz=>(hZ z hz).step ho (uf hr)
 cases hR:tB o.op with
 |true=>
  rw[hR]at hK;have hw:=hw hR;subst hw;refine hn _ _ _ _ _ _ _ _ G hK sat2 (fun z hz h=>hG z hz (oq ho hl h).1) hZ2 fun z hz h=>hI z hz (oq ho hl h).1
 |false=>
  rw[hR]at hK;obtain⟨h2,h3⟩:=xV hτ sat2 _ hK;refine hn _ _ _ _ _ _ _ _ _ h2 sat2 (fun z hz h=>?_) hZ2 fun z hz h=>?_
  ·obtain⟨k1,k2⟩:=oq ho hl h;exact rE (hG z hz k1) (k2 hR)
  ·obtain⟨k1,k2⟩:=oq ho hl h;obtain⟨su,sv,e1,e2,e3⟩:=h3 z.1 (rE (hG z hz k1) (k2 hR));have h4:=sat2.env _ _ e1;have h5:=sat2.env _ _ e2;rw[(hZ2 z hz).u]at h4;rw[(hZ2 z hz).d]at h5;injection h4 with h4;injection h5 with h5;unfold Yz;rw[h4,h5];exact e3
end
section
variable{P:Program}{τ:mz}{ops:Array Oper}{B n nx:Nat}{l:Env}{H:Hp}{iv:Iv}{w w':World}{O:Nat->Sx.dx}{a:Act}
theorem tA{m i b:Nat}{oi:Oper}:∀(l:List Oper) (k:Nat),GF ops m i oi b l k=true->∀(j:Nat) oj,l[j]? =some oj->k+j≠i->tb m (k+j)=false->tb b (k+j)=false->oi.apart ops oj=true
 |[],_,_,j,oj,h,_,_,_=>by cases h
 |o::r,k,h,j,oj,hj,h1,h2,h3=>by
  simp only[GF,a9,Bool.or_eq_true]at h
  cases j with
  |zero=>
   injection hj with hj;subst hj;rcases h.1 with((h4|h4)|h4)|h4
   ·exact absurd (bQ h4) h1
   ·rw[bw]at h2;rw[h2]at h4;cases h4
   ·rw[bw]at h3;rw[h3]at h4;cases h4
   ·exact h4
  |succ j=>
   have e:k+(j+1)=k+1+j:=by omega
   rw[e]at h1 h2 h3;exact tA r (k+1) h.2 j oj (by simpa using hj) h1 h2 h3
theorem BB{m i u d:Nat}:∀(l:List Oper) (k:Nat),IT m i u d l k=true->∀(j:Nat) oj,l[j]? =some oj->tb m (k+j)=false->oj.dst≠some u∧(k+j≠i->oj.dst≠some d)
 |[],_,_,j,oj,h,_=>by cases h
 |o::r,k,h,j,oj,hj,h2=>by
  simp only[IT,a9,Bool.or_eq_true]at h
  cases j with
  |zero=>
   injection hj with hj;subst hj;rcases h.1 with h4|h4
   ·rw[bw]at h2;rw[h2]at h4;cases h4
   ·cases ho:o.dst with
    |none=>exact⟨by simp,by simp⟩
    |some e=>
     rw[ho]at h4;simp only[a9,Bool.not_eq_true',Bool.or_eq_true]at h4;refine⟨fun hh=>?_,fun OD hh=>?_⟩
     ·injection hh with hh;subst hh;have:=h4.1;simp at this
     ·injection hh with hh;subst hh;rcases h4.2 with h5|h5
      ·exact OD (bQ h5)
      ·simp at h5
  |succ j=>
   have e:k+(j+1)=k+1+j:=by omega
   rw[e]at h2 ⊢;exact BB r (k+1) h.2 j oj (by simpa using hj) h2
theorem Je{o:Oper}{d T u:Nat}(h:MM o=some (d,T,u)):o.dst=some d∧o.op= .load T (.tmp u)∧o.guard=none:=by
 unfold MM at h;split at h
 ·injection h with h;injection h with h1 h2;injection h2 with h2 h3;subst h1 h2 h3;exact⟨rfl,rfl,rfl⟩
 ·cases h
theorem jP(hτ:fQ P τ)(OF:∀(j:Nat) o,ops[j]? =some o->∀d,o.dst=some d->d<n)(OS:∀(j:Nat) (o:Oper) cs b,ops[j]? =some o->o.op≠ .select cs b){K:KT}{Q0:Act->World->Prop}
  (hQ:∀l' H' OI iv' w2 ρ' a' w3,K l' H' OI iv' w2->Sat n l' H' OI iv' B w2 ρ' a' w3->Q0 a' w3):
  ∀(t:Tg) (fuel:Nat) (la:Array Bool) (l:Env) (H:Hp) (nx:Nat) (iv:Iv) (w:World) (O:Nat->Sx.dx) (a:Act) (w':World) (G:List Gh) (Z:List Zh),MS la<=fuel->la.size=ops.size->mD ops t la=true->B6 P τ B ops.toList t G l H nx iv w K->Sat n l H nx iv B w O a w'->
   (∀z∈Z,my ops z.1.b la->z.1∈G)->(∀z∈Z,GOk ops la a z)->IZ P ops Z la w'->qd P .any ops (QN Q0) (IZ P ops Z) fuel la a w'
 | .nil,fuel,la,l,H,nx,iv,w,O,a,w',G,Z,_,_,hc,h,s,hG,hZ,hI=>by
  simp only[mD,List.isEmpty_iff]at hc;exact GD hI hc ⟨rfl,hQ _ _ _ _ _ _ _ _ h s⟩ fuel
 | .x i t,fuel,la,l,H,nx,iv,w,O,a,w',G,Z,hf,hz,hc,h,s,hG,hZ,hI=>by
  unfold mD at hc;obtain⟨o,ho,h1⟩:=gE h;rw[bA]at ho;simp only[ho,a9,Bool.or_eq_true]at hc;obtain⟨⟨c1,c2⟩,c3⟩:=hc;have c1:i∈Region.ready .any ops la:=by simpa using c1
  obtain⟨PW,-⟩:=eK.1 c1;have Ti:=jQ PW;obtain⟨f,rfl⟩:∃f,fuel=f+1:=⟨fuel-1,by omega⟩
  have Oq:(la.setIfInBounds i true).size=ops.size:=by rw[bO,hz]
  rcases c2 with c2|⟨⟨hP,Qu⟩,c4⟩
  ·refine⟨hI,fun h0=>(by rw[h0]at c1;cases c1),fun j hj=>?_⟩;have Ox:j=i:=eM (List.all_eq_true.1 c2 j hj);subst Ox;exact Ck hτ ho (OF j o ho) c1 h1 s hG hZ hI fun _ _ _ _ _ _ _ _ G' hk hs Ue Uf Ug=>jP hτ OF OS hQ t f _ _ _ _ _ _ _ _ _ G' Z (by omega) Oq c3 hk hs Ue Uf Ug
  ·have hR:tB o.op=true:=by
    unfold GJ at hP;split at hP
    ·cases hP
    ·exact hP
   have hm:=yB la;have hb:=nD (ops:=ops) (m:=iR la.toList 0) (i:=i) ops.toList 0 0 (fun n o hn=>by rw[aR];rwa [bA]at hn) (fun j hj=>by rw[tE]at hj;cases hj);generalize BC (iR la.toList 0) i ops.toList 0 0=b at*
   have Sh:o.guard=none:=by simpa using Qu
   unfold fh tF at h1;rw[Sh]at h1;obtain⟨v,hK,QW,OK⟩:=(j0 hτ h1 s hR).resolve_right (fun hh=>by have:=hh.1;rw[lH hR]at this;cases this);obtain⟨l2,h3,sat2⟩:=fC s hK (OF i o ho) QW;rw[hR]at h3;have hw:Region.wanted o (yielded ops a.tmps)=true:=by simp[Region.wanted,Sh]
   refine ue (v:=v.den O) (b:=b) (Y:=fun _=>True) (X:=execOp a.eval o) ho hR OS (fun c a w hq=>absurd hq.1 (by simp)) (fun j hj=>(hb j hj).2.2) (fun w3 _=>OK w3 (.inl hP)) (fun lx w h z hz ha=>h z hz ((jY ho hR).2 ha))
    f la a w' (fun j hj=>(hm j).symm.trans (hb j hj).1) (fun j oj Qf Ox hl hk=>tA ops.toList 0 c4 j oj (by rw[bA];exact Qf) (by omega) (by
     have hj:=(ai.1 Qf).1
     rw[aR,hm,nB (by omega) false true];exact hl) (by rw[aR];exact hk)) c1 ⟨hw,rfl⟩ ?_
   refine kZ (fun lx w h=>⟨h,fun _=>trivial⟩) _ _ _ _ ?_;exact jP hτ OF OS hQ t f _ _ _ _ _ _ _ _ _ G Z (by omega) Oq c3 h3 sat2 (fun z hz h=>hG z hz ((jY ho hR).1 h)) (fun z hz=>(hZ z hz).step ho (uf c1)) (fun z hz h=>hI z hz ((jY ho hR).1 h))
 | .two i t k u,fuel,la,l,H,nx,iv,w,O,a,w',G,Z,hf,hz,hc,h,s,hG,hZ,hI=>by
  simp only[mD]at hc;split at hc
  ·rename_i x y hr;simp only[a9]at hc;obtain⟨c1,c2,c3,c4⟩:=hc;have hx:=bQ c1;have hy:=bQ c2;subst hx;subst hy;obtain⟨h1,h2⟩:=h;obtain⟨o1,Up,h1⟩:=gE h1;obtain⟨o2,TK,h2⟩:=gE h2;rw[bA]at Up TK;have Ra:x∈Region.ready .any ops la:=by rw[hr];simp
   have Un:y∈Region.ready .any ops la:=by rw[hr];simp
   have u1:=jQ (eK.1 Ra).1;have u2:=jQ (eK.1 Un).1;obtain⟨f,rfl⟩:∃f,fuel=f+1:=⟨fuel-1,by omega⟩
   refine⟨hI,fun h0=>(by rw[hr]at h0;cases h0),fun j hj=>?_⟩;rw[hr,List.mem_cons,bB]at hj;rcases hj with rfl|rfl
   ·exact Ck hτ Up (OF _ o1 Up) Ra h1 s hG hZ hI fun _ _ _ _ _ _ _ _ G' hk hs Ue Uf Ug=>jP hτ OF OS hQ t f _ _ _ _ _ _ _ _ _ G' Z (by omega) (by rw[bO,hz]) c3 hk hs Ue Uf Ug
   ·exact Ck hτ TK (OF _ o2 TK) Un h2 s hG hZ hI fun _ _ _ _ _ _ _ _ G' hk hs Ue Uf Ug=>jP hτ OF OS hQ u f _ _ _ _ _ _ _ _ _ G' Z (by omega) (by rw[bO,hz]) c4 hk hs Ue Uf Ug
  ·cases hc
 | .three i t k u m v,fuel,la,l,H,nx,iv,w,O,a,w',G,Z,hf,hz,hc,h,s,hG,hZ,hI=>by
  simp only[mD]at hc;split at hc
  ·rename_i x y z9 hr;simp only[a9]at hc;obtain⟨c1,c2,c6,c3,c4,c5⟩:=hc;have hx:=bQ c1;have hy:=bQ c2;have hz9:=bQ c6;subst hx;subst hy;subst hz9;obtain⟨h1,h2,h3⟩:=h;obtain⟨o1,Up,h1⟩:=gE h1;obtain⟨o2,TK,h2⟩:=gE h2;obtain⟨o3,ho3,h3⟩:=gE h3;rw[bA]at Up TK ho3;have Ra:x∈Region.ready .any ops la:=by rw[hr];simp
   have Un:y∈Region.ready .any ops la:=by rw[hr];simp
   have hm3:z9∈Region.ready .any ops la:=by rw[hr];simp
   have u1:=jQ (eK.1 Ra).1;have u2:=jQ (eK.1 Un).1;have u3:=jQ (eK.1 hm3).1;obtain⟨f,rfl⟩:∃f,fuel=f+1:=⟨fuel-1,by omega⟩
   refine⟨hI,fun h0=>(by rw[hr]at h0;cases h0),fun j hj=>?_⟩;rw[hr,List.mem_cons,List.mem_cons,bB]at hj;rcases hj with rfl|rfl|rfl
   ·exact Ck hτ Up (OF _ o1 Up) Ra h1 s hG hZ hI fun _ _ _ _ _ _ _ _ G' hk hs Ue Uf Ug=>jP hτ OF OS hQ t f _ _ _ _ _ _ _ _ _ G' Z (by omega) (by rw[bO,hz]) c3 hk hs Ue Uf Ug
   ·exact Ck hτ TK (OF _ o2 TK) Un h2 s hG hZ hI fun _ _ _ _ _ _ _ _ G' hk hs Ue Uf Ug=>jP hτ OF OS hQ u f _ _ _ _ _ _ _ _ _ G' Z (by omega) (by rw[bO,hz]) c4 hk hs Ue Uf Ug
   ·exact Ck hτ ho3 (OF _ o3 ho3) hm3 h3 s hG hZ hI fun _ _ _ _ _ _ _ _ G' hk hs Ue Uf Ug=>jP hτ OF OS hQ v f _ _ _ _ _ _ _ _ _ G' Z (by omega) (by rw[bO,hz]) c5 hk hs Ue Uf Ug
  ·cases hc
 | .ld i b t,fuel,la,l,H,nx,iv,w,O,a,w',G,Z,hf,hz,hc,h,s,hG,hZ,hI=>by
  unfold mD at hc;obtain⟨o,ho,h1⟩:=gE h;rw[bA]at ho;simp only[ho]at hc
  cases PE:MM o with
  |none=>rw[PE]at hc;cases hc
  |some q=>
   obtain⟨d,T,u⟩:=q;rw[PE]at hc h1;simp only[a9]at hc;obtain⟨⟨⟨⟨c1,c2⟩,c4⟩,c5⟩,c3⟩:=hc;obtain⟨e1,e2,e3⟩:=Je PE;have c1:i∈Region.ready .any ops la:=by simpa using c1
   obtain⟨PW,-⟩:=eK.1 c1;have Ti:=jQ PW;obtain⟨f,rfl⟩:∃f,fuel=f+1:=⟨fuel-1,by omega⟩
   have Oq:(la.setIfInBounds i true).size=ops.size:=by rw[bO,hz]
   have hR:tB o.op=true:=by rw[e2];rfl
   have hm:=yB la;have hb:=nD (ops:=ops) (m:=iR la.toList 0) (i:=i) ops.toList 0 0 (fun n o hn=>by rw[aR];rwa [bA]at hn) (fun j hj=>by rw[tE]at hj;cases hj);rw[<-bQ c2]at hb
   cases hsu:fX l u with
   |none=>simp only[hsu]at h1
   |some su=>
    simp only[hsu]at h1;obtain⟨v,hK,QW,OK⟩:=nu hτ s.rel (s.sc _ _ hsu) h1;have hau:=s.env _ _ hsu;have Uh:=OF i o ho d e1;have sat2:Sat n ((d,v)::l) H nx iv B w O (a.put o.dst (v.den O)) w':=by rw[e1];exact s.put Uh QW
    have hw:Region.wanted o (yielded ops a.tmps)=true:=by simp[Region.wanted,e3]
    have Qa:a.eval (.tmp u)=su.den O:=by rw[Act.eval,ah,hau];rfl
    have hui:tb (iR la.toList 0) i=false:=by rw[hm];exact uf c1
    have Qy:=BB ops.toList 0 c5;refine ue (v:=v.den O) (b:=b) (Y:=Yz P (⟨u,d,T,b⟩,su.den O,v.den O)) (X:=execOp a.eval o) ho hR OS (fun c a w hq=>absurd hq.1 (by simp)) (fun j hj=>(hb j hj).2.2) (fun w3 hY=>?_) (fun lx w h z hz ha=>h z hz ((jY ho hR).2 ha))
     f la a w' (fun j hj=>(hm j).symm.trans (hb j hj).1) (fun j oj Qf Ox hl hk=>tA ops.toList 0 c4 j oj (by rw[bA];exact Qf) (by omega) (by
      have hj:=(ai.1 Qf).1
      rw[aR,hm,nB (by omega) false true];exact hl) (by rw[aR];exact hk)) c1 ⟨hw,rfl⟩ ?_
    ·unfold Yz at hY;obtain⟨dst,op,ty,pos,after,guard⟩:=o;simp only at e2;subst e2;simp only[execOp,Qa]
     exact mJ hY
    ·refine kZ (I:=IZ P ops ((⟨u,d,T,b⟩,su.den O,v.den O)::Z)) (fun lx w h=>⟨fun z hz=>h z (List.mem_cons_of_mem _ hz),h _ aG⟩) _ _ _ _ ?_;refine jP hτ OF OS hQ t f _ _ _ _ _ _ _ _ _ (⟨u,d,T,b⟩::G) ((⟨u,d,T,b⟩,su.den O,v.den O)::Z) (by omega) Oq c3 hK sat2 (fun z hz h=>?_) (fun z hz=>?_) (fun z hz h=>?_)
     ·rcases List.mem_cons.1 hz with rfl|hz
      ·exact aG
      ·exact List.mem_cons_of_mem _ (hG z hz ((jY ho hR).1 h))
     ·rcases List.mem_cons.1 hz with rfl|hz
      ·have h7:=(Qy i o (by rw[bA];exact ho) (by rw[aR];exact hui)).1;refine⟨qf h7 hau,?_,fun j oj Qf TH=>?_⟩
       ·rw[e1];show(a.tmps.setIfInBounds d _)[d]? =_;rw[Array.getElem?_setIfInBounds_self_of_lt (by rw[s.size];exact Uh)]
       ·have Ox:i≠j:=fun e=>by
         subst e;have hi:=(ai.1 PW).1;rw[ah,Array.getElem?_setIfInBounds_self_of_lt hi]at TH
         cases TH
        rw[getD_set_ne false Ox]at TH;obtain⟨k1,k2⟩:=Qy j oj (by rw[bA];exact Qf) (by rw[aR,hm];exact TH);exact⟨k1,k2 (by omega)⟩
      ·exact(hZ z hz).step ho (uf c1)
     ·rcases List.mem_cons.1 hz with rfl|hz
      ·exact OK w' s.rel
      ·exact hI z hz ((jY ho hR).1 h)
 | .kA id t,fuel,la,l,H,nx,iv,w,O,a,w',G,Z,hf,hz,hc,h,s,hG,hZ,hI=>by
  obtain⟨H',b,Om,hd,hs,ho,h⟩:=h;obtain⟨hn,l',hl,h⟩:=h _ _ s.rel;exact jP hτ OF OS hQ t fuel la l' H' nx _ w' O a w' G Z hf hz hc h ⟨s.rel.free Om hd hn hs ho,s.size,s.defers,fun u v hv=>by obtain⟨-,v',h1,h2⟩:=hl u v hv;rw[<-h2];exact s.env u v' h1,fun u v hv=>(hl u v hv).1⟩ hG hZ hI
theorem il(hτ:fQ P τ)(hm:P.follows .mixedOrders=true){K:KT}(t:Tg)(hs:Region.noSelect ops=true)(hc:mD ops t (Array.replicate ops.size false)=true)
  (h:B6 P τ B ops.toList t [] l H nx iv w K):ui P B ops l H nx iv w K:=by
 refine⟨fun n O a w' OF sat Q hQ id=>?_⟩;refine wp_mono (Q':=Q) (c:=.region id ops true) (wp_region_any (Q:=QN (Q .normal)) hm (BA (I:=IZ P ops []) _ _ _ _ ?_)) (fun e a w hq=>by obtain⟨rfl,hq⟩:=hq;exact hq);refine jP (Q0:=Q .normal) hτ (fun j o ho d hd=>?_) (Region.noSelect_spec hs) hQ t _ _ _ _ _ _ _ O _ _ [] [] ?_ (by simp) hc h ⟨sat.rel.drew,sat.size,sat.defers,sat.env,sat.sc⟩ (fun z hz=>by cases hz) (fun z hz=>by cases hz) (fun z hz=>by cases hz)
 ·have:=List.all_eq_true.1 OF o (aC (by rw[bA];exact ho));rw[hd]at this;have h5:d+1<=n:=by simpa [Nat.blt]using this
  exact h5
 ·unfold MS;refine aX List.countP_le_length ?_;simp
end
end Go.Ex
