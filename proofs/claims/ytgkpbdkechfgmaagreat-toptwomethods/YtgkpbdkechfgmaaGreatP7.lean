/- Texts X47 to L11: lemmas, each with its conditions. -/
import Derived.Test.YtgkpbdkechfgmaaGreatP6
namespace Go.Ex
open Go Go.Sx Go.Proofs
variable{H:Hp}{z:Int}{iv:Iv}{W:List Int}{b ds ls:List Nat}{xs:List Value}{B i nx:Nat}{S:Nat->Prop}{O:Nat->Sx.dq}{a a2:Option Addr}{q:Rat}{u:Value}{w J:World}
theorem vI{V:World}{v v':Value}(hc:BQ iv v)(r:Rel H nx iv B w O J)(RN:∀g,v'.ownBlock=some g->g<V.heap.size/\(v.ownBlock=some g\/g=J.heap.size)):
  ∀lo A,(lo,A)∈mL v'->A<=V.heap.size/\∀id b,dG H id=some b->(O id).nil=false->¬(lo<=(O id).g/\(O id).g<A):=fun lo A hm=>by
 obtain⟨Y,rfl⟩:=rY.1 hm;obtain⟨L,G⟩:=RN _ Y;refine⟨by omega,fun id c hc' R U=>?_⟩;rcases G with G|G
 ·exact hc.not r G id c hc' R (by omega)
 ·have:=(r.low id c hc' R).2;omega
theorem dT.out{w1:World}{v:Value}(h:dT w1 (Cv S w.heap.size iv) v ls)(r:Rel H nx iv w.heap.size w1 O J)(X:Old S w):dT J (Nw S w J) v ls:=
 (dT.rel h r X).cN fun _ Y=>Cv.nw Y r
theorem JG{B' e sz m:Nat}{v:Value}(h:w.ownsRow B e sz v m xs)(hb:B'<=B):w.ownsRow B' e sz v m xs:=⟨h.1,h.2.imp id fun⟨g,cap,cur,k1,k2,k3⟩=>⟨g,cap,cur,k1,by omega,k3⟩⟩
theorem vJ(a b:List Nat):eM (a++b)=eM a++eM b:=by simp[eM]
theorem rZ{m:Nat}{v:Value}(h:w.ownsRow B T.int 1 v m (W.map (Value.int .i64)))(hm:m=W.length)(hl:m<=maxLen):eF w (fun g=>v.ownBlock=some g) v W:=by
 subst hm;rcases h.2 with⟨rfl,h0⟩|⟨g,cap,cur,rfl,hb,hc,VO,Q2,PN,RU⟩
 ·have:W=[]:=List.eq_nil_of_length_eq_zero h0;subst this;exact⟨by simp[maxLen],by simp,by simp,none,0,rfl,Nat.le_refl _,by simp⟩
 ·refine⟨hl,h.1,fun u hu=>by simp at hu;obtain⟨_,_,rfl⟩:=hu;rfl,_,cap,rfl,VO,fun j u hu=>⟨_,rfl,rfl,?_⟩⟩;exact h.cells (g:=g) rfl j u hu
theorem Dg.append{a:List Nat}(ha:Dg a)(hb:Dg b):Dg (a++b):=fun x F=>(bB.1 F).elim (ha x) (hb x)
theorem xq(a b:List Nat):mQ (a++b)=mQ a+up a.length*mQ b:=by
 unfold mQ;rw[List.map_append,B9,aJ]
theorem BS(hd:Dg ds):Nz (eC (iH ds))/\(val (eC (iH ds)):Int)=mQ ds:=by
 obtain⟨L,G,_⟩:=AJ ds hd;obtain⟨k1,k2,_⟩:=fK (iH ds);exact⟨k2,by rw[k1,L]⟩
theorem xA{v:Value}(X:Old S w)(h:eF w S v W)(hb:∀c∈W,-1152921504606846976<=c/\c<=1152921504606846976)(hl:W.length<=100000000):
  eI PG F'.kZ #[v] w (eO w fun v' V=>dR V (Nf w V) v' (dU W)):=by
 obtain⟨a,c,rfl,hc⟩:=h.shape;obtain⟨Xg,hdg,Sc⟩:=lE W 0;obtain⟨hk1,Sp⟩:=kY W 0 hb (by decide) (by decide);rw[Int.add_zero]at Xg;refine wP (by simp) ?_;refine cJ (cO (If:=fun _ J v' V=>∃o,v'= .tuple #[o,.int .i64 (de W 0).2]/\V.ownsRow J.heap.size T.int 1 o W.length ((eM (de W 0).1).map (Value.int .i64))) (fun O J r=>DO (oS X r) (eF.cK h fun g Y=>Rel.same (S:=S) r X (.inl Y)) hb (by omega)) ?_);rintro O wa v1 wb r U I ⟨o,rfl,Oa⟩;have Qf:BQ [(wa.heap.size,wb.heap.size)] o:=fun g Y=>⟨_,_,bD.2 rfl,(ownsRow.low Oa g Y).1,(ownsRow.low Oa g Y).2⟩
 replace Oa:=JG Oa r.cI;generalize [(wa.heap.size,wb.heap.size)]=iv at*
 generalize hds:(de W 0).1=ds at*
 generalize D:(de W 0).2=k at*
 obtain⟨ao,co,rfl,hco⟩:=fF Oa;refine dQ.mk ?_ ?_<;>intro RC
 ·have RC:=aK RC;have hV:dU W<0:=by
   have L:=(AI hdg).2;rw[Sc]at L;have G:=Lu W.length;have N:up W.length*k<=up W.length*(-1):=Int.mul_le_mul_of_nonneg_left (by omega) (by omega);omega
  obtain⟨Vz,Xh,hdl2⟩:=lE (W.map (- ·)) 0;have Q5:∀c∈W.map (- ·),-1152921504606846976<=c/\c<=1152921504606846976:=fun c hc=>by
   obtain⟨x,F,rfl⟩:=aU.1 hc;have:=hb x F;omega
  obtain⟨hk1',hk2'⟩:=kY (W.map (- ·)) 0 Q5 (by decide) (by decide);rw[Int.add_zero,HX,aJ]at Vz;rw[aJ]at hdl2;have Ts:0<=(de (W.map (- ·)) 0).2:=by
   have L:=(AI Xh).2;rw[hdl2]at L;have G:=Lu W.length;apply Decidable.byContradiction;intro N;have h4:up W.length*(de (W.map (- ·)) 0).2<=up W.length*(-1):=Int.mul_le_mul_of_nonneg_left (by omega) (by omega);omega
  refine⟨Nat×World,fun z=>⟨[(0,sV a W.length c),(2,pP 0 0),(3,sV ao W.length co),(5,iZ z.1)],[(0,.box T.Int [.v (.bool false),.v (.slice none 0 0)])],1,iv,z.2⟩,fun z=>W.length-z.1,
   fun z=>z.1<=W.length/\dw w.heap.size w z.2/\z.2.ownsRow w.heap.size T.int 1 (.slice ao W.length co) W.length (((W.take z.1).map (- ·)++(eM ds).drop z.1).map (Value.int .i64)),?_,?_⟩
  ·intro O J r;exact⟨(0,J),⟨by simp,I.tr r.cU,by simpa using gq Oa Qf r⟩,Sub.gn [] r⟩
  rintro⟨i,w1⟩ ⟨A,I,Oa⟩;dsimp only at A I Oa ⊢;have hR:eF w1 S (.slice a W.length c) W:=eF.cK h fun g Y=>I.block g (X g Y);refine dQ.mk ?_ ?_<;>intro OZ
  ·have OZ:i<W.length:=by simpa using OZ
   obtain⟨x,F⟩:∃x,W[i]? =some x:=⟨_,aA OZ⟩
   obtain⟨SS,RP⟩:=hb x (aC F);obtain⟨ad,rfl,q1,q2⟩:=hR.load F;obtain⟨go,WN⟩:∃g,ao=some ⟨g,0,none⟩:=by
    rcases Oa.2 with⟨_,h0⟩|⟨g,cap,cur,e,_⟩
    ·omega
    ·injection e with e;exact⟨g,e⟩
   subst WN;refine⟨ad,rfl,by omega,.int .i64 x,fun O J r=>?_,?_⟩
   ·rw[aE,cL (w:=w1) (V:=J) (by rw[dF];exact Rel.same (S:=S) r X (.inl q1))];exact q2
   refine⟨-x,wo,⟨go,0,none⟩,rfl,by omega,?_⟩;intro O J r;have RX:=gq Oa Qf r;obtain⟨g',Qr,Of,QW,PC,PN⟩:=j3 (nv:=[.int .i64 (-x)]) RX rfl OZ rfl (by decide);injection Qr with Qr;injection Qr with Qr;subst Qr;rw[Eg (by rw[aJ,List.length_append,aJ,aX,List.length_drop,fI,Sc];omega)]at QW;have PI:(⟨go,0,none⟩:Addr).add ((i:Int).toNat*1)=⟨go,i*1,none⟩:=by rw[aE,dL,aT]
   have Pa:=fun id b hb R=>Qf.not r (b:=go) rfl id b hb R;have hgoB:=(ownsRow.low Oa go rfl).1;have hw':dw w.heap.size w (setCells J ⟨go,i*1,none⟩ [.int .i64 (-x)]):=(I.tr r.cU).tr (dw.grown PC (fun g Y=>by injection Y with Y;subst Y;exact hgoB) r.cI);have hlist:(((W.take i).map (- ·)++(eM ds).drop i).map (Value.int .i64)).set i (.int .i64 (-x))=((W.take (i+1)).map (- ·)++(eM ds).drop (i+1)).map (Value.int .i64):=by
    rw[<-List.map_set];congr 1;have R6:((W.take i).map (- ·)).length=i:=by rw[aJ,aX];omega
    obtain⟨d,hd⟩:∃d,(eM ds)[i]? =some d:=⟨_,aA (by rw[fI,Sc];exact OZ)⟩
    have Pn:(eM ds).drop i=d::(eM ds).drop (i+1):=by
     rw[List.drop_eq_getElem_cons (by rw[fI,Sc];exact OZ)];congr 1;have:=aA (l:=eM ds) (i:=i) (by rw[fI,Sc];exact OZ);rw[hd]at this;injection this with this;exact this.symm
    rw[List.take_add_one,F,List.map_append,Pn,List.set_append_right _ _ (by omega),R6,bJ];simp
   refine⟨by rw[PI],fun j hj=>by rw[PI];exact Of j hj,fun id b hb R=>by rw[PI];exact Pa id b hb R,fun V PE=>?_⟩;have PE:V=setCells J ⟨go,i*1,none⟩ [.int .i64 (-x)]:=by rw[PE];exact congrArg (fun x=>setCells J x _) PI
   rw[<-PE]at QW hw'
   erw [hlist]at QW
   refine⟨((i+1:Nat):Int),wo,?_⟩;intro GT w3 E;exact⟨(i+1,w3),⟨OZ,hw'.tr E.cU,gq QW Qf E⟩,Sub.gn [] E,by dsimp only;omega⟩
  have OZ:i=W.length:=by
   have:¬i<W.length:=by simpa using OZ
   omega
  subst OZ;rw[bA,List.drop_of_length_le (by rw[fI,Sc];exact Nat.le_refl _),List.append_nil]at Oa;refine⟨⟨by omega,by omega,by omega⟩,ao,W.length,co,GH ao co,by omega,by omega,?_⟩;refine cJ (cO (If:=fun _ J v' V=>∃o,v'= .tuple #[o,.int .i64 (de (W.map (- ·)) 0).2]/\V.ownsRow J.heap.size T.int 1 o W.length ((eM (de (W.map (- ·)) 0).1).map (Value.int .i64))) (fun O J r=>?_) ?_)
  ·have h8:=gq Oa Qf r;have h9:=rZ h8 (by rw[aJ]) (by unfold maxLen;omega);have h10:=DO (fun g Y=>(ownsRow.low h8 g Y).2) h9 Q5 (by rw[aJ];omega);rw[aJ]at h10;exact h10
  rintro O wc v1 wd r U Oz ⟨o2,rfl,PR⟩;have RK:BQ ((wc.heap.size,wd.heap.size)::iv) o2:=fun g Y=>⟨_,_,aF,(ownsRow.low PR g Y).1,(ownsRow.low PR g Y).2⟩
  replace PR:=JG PR r.cI;replace I:=I.tr Oz;generalize (wc.heap.size,wd.heap.size)::iv=Od at*
  generalize hds2:(de (W.map (- ·)) 0).1=ds2 at*
  generalize hkk2:(de (W.map (- ·)) 0).2=k2 at*
  obtain⟨kn,rfl⟩:∃kn:Nat,k2=kn:=⟨k2.toNat,by omega⟩
  obtain⟨ao2,co2,rfl,hco2⟩:=fF PR;have ds2_len:ds2.length=W.length:=hdl2;have ds2_dg:Dg ds2:=Xh;refine cJ (cO (If:=fun _ J v V=>eF V (Nf J V) v (eM (dP kn))) (fun O J r=>by exact Gj kn J (by omega)) ?_);rintro O ws vs wt r U hb XQ;have UG:eF wt (Cf w ((ws.heap.size,wt.heap.size)::Od)) vs (eM (dP kn)):=eF.cN XQ fun g Y=>Y.dK r.cI aF;replace PR:=ownsRow.cK (gq PR RK r) fun g Y=>U.block g (by have:=(ownsRow.low (gq PR RK r) g Y).2;exact this);replace RK:BQ ((ws.heap.size,wt.heap.size)::Od) _:=RK.mono fun p hp=>aB _ hp;replace I:=I.tr hb;generalize (ws.heap.size,wt.heap.size)::Od=oJ at*
  obtain⟨asp,csp,rfl,-⟩:=UG.shape;rw[fI]at UG ⊢;have SE:=jq (n:=kn) (k:=4) (by omega);have hsd:=(lG kn).2
  refine .inr (sZ hτ (Nat.le_refl _) (xs:=(eM ds2).map (Value.int .i64)) (news:=(eM (dP kn)).map (Value.int .i64)) (m:=W.length) (k:=(dP kn).length) (by rfl) (by rfl) (by decide) (by rfl) (by rfl) (fun O J r=>⟨gq PR RK r,fun g Y=>RK.not r Y⟩) (by simp[eM]) (by intro u hu;simp at hu;obtain⟨_,_,rfl⟩:=hu;rfl) (by unfold maxLen;omega) (by omega)
   (fun O J r=>?_) (fun v' V=>mL v') (fun O J v' V r PN RN=>vI RK r RN) (fun O J v' V r h5 h6 h7=>?_))
  ·obtain⟨_,_,_,a2,c2,e2,_,e3⟩:=UG;injection e2 with e4 e5 e6;subst e4 e6
   cases asp with
   |none=>
    have h0:(dP kn).length=0:=by
     rcases bK (dP kn).length with h0|h0
     ·exact h0
     ·obtain⟨ad2,q1,_⟩:=e3 0 _ (aA (show 0<((eM (dP kn)).map (Value.int .i64)).length by simp[eM];exact h0))
      cases q1
    exact .inl ⟨csp,by rw[h0];rfl,h0⟩
   |some ad3=>
    refine .inr ⟨ad3,csp,rfl,fun j u hu=>?_⟩;obtain⟨ad2,q1,q2,q3⟩:=e3 j u hu;injection q1 with q1;subst q1;rw[cL (w:=wt) (V:=J) (by rw[dF];exact Rel.same r (cH w) q2)];exact q3
  replace I:dw w.heap.size w V:=(I.tr r.cU).tr (dw.grown h6 (fun g Y=>by
   have:=(ownsRow.low PR g Y).1;omega) r.cI)
  have hcat:(eM ds2).map (Value.int .i64)++(eM (dP kn)).map (Value.int .i64)=(eM (ds2++dP kn)).map (Value.int .i64):=by rw[vJ,List.map_append]
  rw[hcat]at h5;have Ry:W.length+(dP kn).length=(eM (ds2++dP kn)).length:=by rw[fI,List.length_append,ds2_len]
  have WA:Dg (ds2++dP kn):=ds2_dg.append hsd;have QV:(ds2++dP kn).length<=1000000000:=by rw[List.length_append,ds2_len];omega
  obtain⟨a3,c3,rfl,-⟩:=fF h5;refine cJ (cO (If:=fun _ J v' V=>∃lv,v'= .agg #[.bool false,lv]/\dT V (Nf J V) lv (eC (iH (ds2++dP kn)))) (fun O J r=>?_) ?_)
  ·have h8:=gq h5 (BQ.row _) r;have h9:=rZ h8 Ry (by unfold maxLen;omega);have h10:=Gk (w:=J) (fun g Y=>(ownsRow.low h8 g Y).2) h9 WA QV;exact h10
  rintro O wp v1 wq r U hb ⟨lv,rfl,hL⟩;have Xi:=hL.dK (S:=FF) r.cI (iv:=[(wp.heap.size,wq.heap.size)]) aF;have Xi:dT wq (Cf w ((wp.heap.size,wq.heap.size)::mL (.slice a3 (W.length+(dP kn).length) c3))) lv (eC (iH (ds2++dP kn))):=hL.cN fun g Y=>Y.dK r.cI aF;replace I:=I.tr hb;generalize (wp.heap.size,wq.heap.size)::mL (.slice a3 (W.length+(dP kn).length) c3)=ivq at*
  obtain⟨hnz,hvv⟩:=BS WA;obtain⟨a4,n4,c4,rfl⟩:=Xi.shape;have hcv: -dU W=mQ (ds2++dP kn):=by rw[Vz,xq,(lG kn).1,ds2_len]
  obtain⟨pp,hpe,hpp⟩:=Xi.la;injection hpe with Vu hpe2 Vv;subst Vu hpe2 Vv;have hlenpos:0<pp.ls.length:=by
   rw[hpp];rcases bK (eC (iH (ds2++dP kn))).length with h0|h0
   ·rw[List.eq_nil_of_length_eq_zero h0]at hvv;simp[val]at hvv;omega
   ·exact h0
  intro IR we re;refine⟨_,rfl,I.tr re.cU,eC (iH (ds2++dP kn)),⟨_,?_,Xi.out re (cH w)⟩,hnz,?_⟩
  ·rw[bX hV];have:decide ((pp.ls.length:Int)>0)=true:=bX (by omega);rw[<-this];rfl
  ·have:((val (eC (iH (ds2++dP kn))):Nat):Int)= -dU W:=by rw[hvv,hcv]
   omega
 ·have RC:=aG RC;obtain⟨kn,rfl⟩:∃kn:Nat,k=kn:=⟨k.toNat,by omega⟩
  have ds_len:ds.length=W.length:=Sc;have ds_dg:Dg ds:=hdg;refine cJ (cO (If:=fun _ J v V=>eF V (Nf J V) v (eM (dP kn))) (fun O J r=>by exact Gj kn J (by omega)) ?_);rintro O ws vs wt r U hb XQ;have UG:eF wt (Cf w ((ws.heap.size,wt.heap.size)::iv)) vs (eM (dP kn)):=eF.cN XQ fun g Y=>Y.dK r.cI aF;replace Oa:=ownsRow.cK (gq Oa Qf r) fun g Y=>U.block g (by have:=(ownsRow.low (gq Oa Qf r) g Y).2;exact this);replace Qf:BQ ((ws.heap.size,wt.heap.size)::iv) _:=Qf.mono fun p hp=>aB _ hp;replace I:=I.tr hb;generalize (ws.heap.size,wt.heap.size)::iv=oJ at*
  obtain⟨asp,csp,rfl,-⟩:=UG.shape;rw[fI]at UG ⊢;have SE:=jq (n:=kn) (k:=4) (by omega);have hsd:=(lG kn).2
  refine .inr (sZ hτ (Nat.le_refl _) (xs:=(eM ds).map (Value.int .i64)) (news:=(eM (dP kn)).map (Value.int .i64)) (m:=W.length) (k:=(dP kn).length) (by rfl) (by rfl) (by decide) (by rfl) (by rfl) (fun O J r=>⟨gq Oa Qf r,fun g Y=>Qf.not r Y⟩) (by simp[eM]) (by intro u hu;simp at hu;obtain⟨_,_,rfl⟩:=hu;rfl) (by unfold maxLen;omega) (by omega)
   (fun O J r=>?_) (fun v' V=>mL v') (fun O J v' V r PN RN=>vI Qf r RN) (fun O J v' V r h5 h6 h7=>?_))
  ·obtain⟨_,_,_,a2,c2,e2,_,e3⟩:=UG;injection e2 with e4 e5 e6;subst e4 e6
   cases asp with
   |none=>
    have h0:(dP kn).length=0:=by
     rcases bK (dP kn).length with h0|h0
     ·exact h0
     ·obtain⟨ad2,q1,_⟩:=e3 0 _ (aA (show 0<((eM (dP kn)).map (Value.int .i64)).length by simp[eM];exact h0))
      cases q1
    exact .inl ⟨csp,by rw[h0];rfl,h0⟩
   |some ad3=>
    refine .inr ⟨ad3,csp,rfl,fun j u hu=>?_⟩;obtain⟨ad2,q1,q2,q3⟩:=e3 j u hu;injection q1 with q1;subst q1;rw[cL (w:=wt) (V:=J) (by rw[dF];exact Rel.same r (cH w) q2)];exact q3
  replace I:dw w.heap.size w V:=(I.tr r.cU).tr (dw.grown h6 (fun g Y=>by
   have:=(ownsRow.low Oa g Y).1;omega) r.cI)
  have hcat:(eM ds).map (Value.int .i64)++(eM (dP kn)).map (Value.int .i64)=(eM (ds++dP kn)).map (Value.int .i64):=by rw[vJ,List.map_append]
  rw[hcat]at h5;have Ry:W.length+(dP kn).length=(eM (ds++dP kn)).length:=by rw[fI,List.length_append,ds_len]
  have WA:Dg (ds++dP kn):=ds_dg.append hsd;have QV:(ds++dP kn).length<=1000000000:=by rw[List.length_append,ds_len];omega
  obtain⟨a3,c3,rfl,-⟩:=fF h5;refine cJ (cO (If:=fun _ J v' V=>∃lv,v'= .agg #[.bool false,lv]/\dT V (Nf J V) lv (eC (iH (ds++dP kn)))) (fun O J r=>?_) ?_)
  ·have h8:=gq h5 (BQ.row _) r;have h9:=rZ h8 Ry (by unfold maxLen;omega);have h10:=Gk (w:=J) (fun g Y=>(ownsRow.low h8 g Y).2) h9 WA QV;exact h10
  rintro O wp v1 wq r U hb ⟨lv,rfl,hL⟩;have Xi:=hL.dK (S:=FF) r.cI (iv:=[(wp.heap.size,wq.heap.size)]) aF;have Xi:dT wq (Cf w ((wp.heap.size,wq.heap.size)::mL (.slice a3 (W.length+(dP kn).length) c3))) lv (eC (iH (ds++dP kn))):=hL.cN fun g Y=>Y.dK r.cI aF;replace I:=I.tr hb;generalize (wp.heap.size,wq.heap.size)::mL (.slice a3 (W.length+(dP kn).length) c3)=ivq at*
  obtain⟨hnz,hvv⟩:=BS WA;obtain⟨a4,n4,c4,rfl⟩:=Xi.shape;intro IR we re;have hcv:dU W=mQ (ds++dP kn):=by rw[Xg,xq,(lG kn).1,ds_len]
  refine⟨_,rfl,I.tr re.cU,eC (iH (ds++dP kn)),⟨_,?_,Xi.out re (cH w)⟩,hnz,?_⟩
  ·have:¬dU W<0:=by rw[hcv,<-hvv];omega
   rw[bM this];rfl
  ·rw[hcv,<-hvv];rfl
theorem aAp(n:Int):dU [n.tmod 65536,(n.tdiv 65536).tmod 65536,(n.tdiv 65536).tdiv 65536]=n:=by
 simp only[dU]
 have L:=Int.mul_tdiv_add_tmod n 65536;have G:=Int.mul_tdiv_add_tmod (n.tdiv 65536) 65536;omega
theorem mz(n:Int)(w:World)(L: -9223372036854775808<=n)(G:n<=9223372036854775807):
  eI PG F'.GB #[.int .i64 n] w (eO w fun v V=>dR V (Nf w V) v n):=by
 refine GD (by simp) ?_;have b1:=wz n;have b2:=wz (n.tdiv 65536);have e1:=Int.mul_tdiv_add_tmod n 65536;have e2:=Int.mul_tdiv_add_tmod (n.tdiv 65536) 65536;have hsum:=aAp n;refine⟨by decide,n.tmod 65536,rfl,by decide,n.tdiv 65536,wo,by decide,_,rfl,by decide,n.tdiv 65536,wo,by decide,(n.tdiv 65536).tdiv 65536,wo,?_⟩;generalize n.tmod 65536=c0 at*
 generalize (n.tdiv 65536).tmod 65536=c1 at*
 generalize (n.tdiv 65536).tdiv 65536=c2 at*
 refine cJ (cO (If:=fun _ J v V=>dR V (Nf J V) v n) (fun O J r=>?_) ?_)
 ·rw[<-hsum];have ha:=r.wm (id:=1) (sz:=1) (n:=3) rfl rfl (by decide) (by intro u hu;simp at hu;rcases hu with rfl|rfl|rfl<;>rfl)
  exact xA (S:=fun g=>g=(O 1).g) (fun g Y=>by rw[Y];exact(r.low 1 _ rfl (r.nn 1 _ rfl (by intros;simp) (by simp))).2) (W:=[c0,c1,c2]) ha (by
   intro c hc;simp at hc
   rcases hc with rfl|rfl|rfl<;>omega) (by simp)
 rintro O wa v1 wb r U hb hI;have hI:=hI.dK (S:=FF) r.cI (iv:=(wa.heap.size,wb.heap.size)::[]) aF;generalize (wa.heap.size,wb.heap.size)::[]=iv at*
 obtain⟨b,a,m,c,rfl⟩:=hI.shape;intro IR we re;exact⟨_,rfl,hb.tr re.cU,hI.out re (cH w)⟩
def kJ(z:Int):Value:=if z.natAbs<1073741824 then .tuple #[.int .i64 z,.bool true]else .tuple #[.int .i64 0,.bool false]
theorem jx.Gl{v:Value}(h:jx w S v z):∃b a ls c,v= .agg #[.bool b,.slice a ls.length c]/\dT w S (.slice a ls.length c) ls/\sg b (val ls)=z:=by
 obtain⟨b,ls,⟨lv,L,G⟩,N⟩:=h;obtain⟨a,c,rfl,_⟩:=G.sl;exact⟨b,a,ls,c,L,G,N⟩
theorem OJ{x:Nat}(h:ls[i]? =some x):wt i*x<=val ls:=by
 have A:=(aD.1 h).1;have L:=fD ls (i+1) A;rw[dh h]at L;omega
theorem aBO(h:0<i):4294967296<=wt i:=by
 obtain⟨k,rfl⟩:∃k,i=k+1:=⟨i-1,by omega⟩
 have:=zR k;rw[jU];omega
theorem oI{v:Value}(X:Old S w)(hI:jx w S v z):
  eI PG F'.xh #[v] w (eO w fun v' _=>v'=kJ z):=by
 obtain⟨b,a,ls,c,rfl,hL,hz⟩:=hI.Gl;refine As (by simp) ?_;have hlen:=hL.le
 refine⟨Nat×World,fun y=>⟨[(1,pP 0 0),(4,.o (.v (.int .i64 (val (ls.take y.1))))),(5,iZ y.1)],[(0,.box T.Int [.v (.bool b),.v (.slice a ls.length c)])],1,[],y.2⟩,fun y=>ls.length-y.1,
  fun y=>y.1<=ls.length/\dw w.heap.size w y.2/\val (ls.take y.1)<1073741824/\(∀j,0<j->j<y.1->ls[j]? =some 0),?_,?_⟩
 ·intro O J r;exact⟨(0,J),⟨by simp,r.cU,by simp[val],by omega⟩,Sub.gn [] r⟩
 rintro⟨i,w1⟩ ⟨A,I,hv,h0⟩;dsimp only at A I hv h0 ⊢;refine dQ.mk ?_ ?_<;>intro OZ
 ·have OZ:i<ls.length:=by simpa using OZ
  obtain⟨a',c',e,_,PT⟩:=hL.sl;injection e with e1 e2 e3;subst e1 e3;obtain⟨x,F⟩:∃x,ls[i]? =some x:=⟨_,aA OZ⟩
  have Qa:=hL.lm x (aC F);obtain⟨ad,rfl,q1,q2⟩:=PT i x F;have RW:∀{H nx iv O J},Rel H nx iv w.heap.size w1 O J->J.cell? (ad.add ((i:Int).toNat*1))=some (.int .u32 x):=fun r=>by
   rw[aE,aV];exact j0 X I r q1 q2
  have hge:=OJ F;refine dQ.mk ?_ ?_<;>intro hp
  ·have hp:0<i:=by
    have:(i:Int)>0:=aK hp;omega
   have hw1:=aBO hp;refine⟨ad,rfl,by omega,.int .u32 x,fun O J r=>RW r,?_⟩;refine dQ.mk ?_ ?_<;>intro Oe
   ·have Oe:x≠0:=by simpa using Oe
    intro IR we re;refine⟨_,rfl,I.tr re.cU,?_⟩;have:¬z.natAbs<1073741824:=by
     have:=Nat.mul_le_mul hw1 (show 1<=x by omega);rw[<-hz,tN];omega
    show _=kJ z;rw[kJ,aH this];rfl
   ·have Oe:x=0:=by simpa using Oe
    subst Oe;refine⟨ad,rfl,by omega,.int .u32 0,fun O J r=>RW r,?_⟩;have RD:val (ls.take (i+1))=val (ls.take i):=by rw[dh F];omega
    have Rh:val (ls.take (i+1))<1073741824:=by rw[RD];exact hv
    have h02:∀j,0<j->j<i+1->ls[j]? =some 0:=fun j L G=>by
     rcases aO j i with N|N
     ·exact h0 j L N
     ·have:j=i:=by omega
      rw[this];exact F
    refine⟨ad,rfl,by omega,.int .u32 0,fun O J r=>RW r,((0:Nat):Int),by decide,((val (ls.take (i+1)):Nat):Int),by rw[RD,wrap64]<;>omega,((i+1:Nat):Int),wo,?_⟩;intro GT w3 E;exact⟨(i+1,w3),⟨OZ,I.tr E.cU,Rh,h02⟩,Sub.gn [] E,by dsimp only;omega⟩
  ·have hp:i=0:=by
    have:¬((i:Int)>0):=aG hp;omega
   subst hp;refine⟨ad,rfl,by omega,.int .u32 x,fun O J r=>RW r,?_⟩;refine dQ.mk ?_ ?_<;>intro XI
   ·have XI:=aK XI;intro IR we re;refine⟨_,rfl,I.tr re.cU,?_⟩;have:¬z.natAbs<1073741824:=by
     rw[<-hz,tN];rw[jc]at hge;omega
    show _=kJ z;rw[kJ,aH this];rfl
   ·have XI:=aG XI;have RD:val (ls.take (0+1))=x:=by rw[dh F];simp[val,jc]
    have Rh:val (ls.take (0+1))<1073741824:=by rw[RD];omega
    have h02:∀j,0<j->j<0+1->ls[j]? =some 0:=fun j L G=>by
     omega
    refine⟨ad,rfl,by omega,.int .u32 x,fun O J r=>RW r,((x:Nat):Int),wo,((val (ls.take (0+1)):Nat):Int),by rw[RD,wrap64]<;>simp[val]<;>omega,((0+1:Nat):Int),wo,?_⟩;intro GT w3 E;exact⟨(0+1,w3),⟨OZ,I.tr E.cU,Rh,h02⟩,Sub.gn [] E,by dsimp only;omega⟩
 ·have OZ:i=ls.length:=by
   have:¬i<ls.length:=by simpa using OZ
   omega
  subst OZ;rw[bA]at hv ⊢;have Ow:z.natAbs<1073741824:=by rw[<-hz,tN];exact hv
  cases b with
  |true=>
   refine⟨-(val ls:Int),wo,?_⟩;intro IR we re;refine⟨_,rfl,I.tr re.cU,?_⟩;show _=kJ z;rw[kJ,if_pos Ow,<-hz,MW];rfl
  |false=>
   intro IR we re;refine⟨_,rfl,I.tr re.cU,?_⟩;show _=kJ z;rw[kJ,if_pos Ow,<-hz,aAd];rfl
theorem DP{a b:Int}(hb:b≠0):a.tdiv (b.sign*(Nat.gcd a.natAbs b.natAbs:Nat))=(Rat.divInt a b).num/\b.tdiv (b.sign*(Nat.gcd a.natAbs b.natAbs:Nat))=((Rat.divInt a b).den:Int):=by
 have Y:0<Nat.gcd a.natAbs b.natAbs:=bw _ (by omega);obtain⟨k,D⟩:((Nat.gcd a.natAbs b.natAbs:Nat):Int) ∣ a:=by rw[<-Int.natAbs_dvd_natAbs];exact Nat.gcd_dvd_left _ _
 obtain⟨l,hl⟩:((Nat.gcd a.natAbs b.natAbs:Nat):Int) ∣ b:=by rw[<-Int.natAbs_dvd_natAbs];exact Nat.gcd_dvd_right _ _
 have hc:(b.gcd a:Int)=(Nat.gcd a.natAbs b.natAbs:Nat):=by rw[Int.gcd_comm];rfl
 have XE:b.gcd a=Nat.gcd a.natAbs b.natAbs:=by rw[Int.gcd_comm];rfl
 rw[Rat.num_divInt,Rat.den_divInt,aH hb,hc,XE];generalize Nat.gcd a.natAbs b.natAbs=g at*
 have hgi:(g:Int)≠0:=by omega
 have hs:b.sign*b.sign=1:=by
  rcases Int.lt_or_gt_of_ne hb with h|h
  ·rw[bh h];rfl
  ·rw[bq h];rfl
 have WM:b.sign≠0:=fun e=>by rw[e]at hs;simp at hs
 have Oe:b.sign*g≠0:=Int.mul_ne_zero WM hgi;have QS:((b.natAbs / g:Nat):Int)=b.sign*l:=by
  rw[Int.natCast_ediv,show((b.natAbs:Nat):Int)=b.sign*b by
   rcases Int.lt_or_gt_of_ne hb with h|h
   ·rw[bh h];omega
   ·rw[bq h];omega]
  conv=>lhs;lhs;rhs;rw[hl]
  rw[show b.sign*(↑g*l)= ↑g*(b.sign*l) by rw[<-Int.mul_assoc,<-Int.mul_assoc,Int.mul_comm b.sign]];exact Int.mul_ediv_cancel_left _ hgi
 constructor
 ·rw[show b.sign*a / (g:Int)=b.sign*k by
   conv=>lhs;lhs;rhs;rw[D]
   rw[show b.sign*(↑g*k)= ↑g*(b.sign*k) by rw[<-Int.mul_assoc,<-Int.mul_assoc,Int.mul_comm b.sign]]
   exact Int.mul_ediv_cancel_left _ hgi]
  conv=>lhs;lhs;rw[D,show(g:Int)*k=(b.sign*g)*(b.sign*k) by
   rw[show (b.sign* ↑g)*(b.sign*k)=(b.sign*b.sign)*(↑g*k) by simp only[Int.mul_assoc,Int.mul_comm,Int.mul_left_comm],hs,Int.one_mul]]
  exact Int.mul_tdiv_cancel_left _ Oe
 ·rw[QS]
  conv=>lhs;lhs;rw[hl,show(g:Int)*l=(b.sign*g)*(b.sign*l) by
   rw[show (b.sign* ↑g)*(b.sign*l)=(b.sign*b.sign)*(↑g*l) by simp only[Int.mul_assoc,Int.mul_comm,Int.mul_left_comm],hs,Int.one_mul]]
  exact Int.mul_tdiv_cancel_left _ Oe
theorem r8(a b:Int)(w:World)(ha:a.natAbs<4611686018427387904)(hb:b.natAbs<4611686018427387904)(hb0:b≠0):
  eI PG F'.uS #[.int .i64 a,.int .i64 b] w (eO w fun v V=>dA V (Nf w V) v (Rat.divInt a b)):=by
 refine yO (by simp) ?_;refine⟨-a,wo,-b,wo,?_⟩;conv=>whnf
 rw[show max a (-a)=(a.natAbs:Int) by omega,show max b (-b)=(b.natAbs:Int) by omega]
 refine⟨Nat×Nat×World,fun z=>⟨[(0,iZ a),(1,iZ b),(4,pP 0 0),(5,iZ z.1),(6,iZ z.2.1)],[(0,.box T.Rat [.v (.bool false),.v (.slice none 0 0),.v (.bool false),.v (.slice none 0 0)])],1,[],z.2.2⟩,fun z=>z.2.1,
  fun z=>dw w.heap.size w z.2.2/\Nat.gcd z.1 z.2.1=Nat.gcd a.natAbs b.natAbs/\z.1<4611686018427387904/\z.2.1<4611686018427387904,?_,?_⟩
 ·intro O J r;exact⟨(a.natAbs,b.natAbs,J),⟨r.cU,rfl,ha,hb⟩,Sub.gn [] r⟩
 rintro⟨x,y,w1⟩ ⟨I,Y,F,hy⟩;dsimp only at I Y F hy ⊢;conv=>whnf
 refine dQ.mk ?_ ?_<;>intro h
 ·have h:0<y:=by
   have:(y:Int)>0:=aK h;omega
  refine cR hτ dx [.x 0,.x 1,.x 2,.x 3,.x 4,.x 5] (by kernel_rfl) (by kernel_rfl) ?_;have hm:=cD x h;refine⟨by omega,((x % y:Nat):Int),rfl,?_⟩;intro GT w3 E;exact⟨(y,x % y,w3),⟨I.tr E.cU,by dsimp only;rw[<-Y,Nat.gcd_comm x y,Nat.gcd_rec y x,Nat.gcd_comm],hy,by dsimp only;omega⟩,Sub.gn [] E,by dsimp only;omega⟩
 have h:y=0:=by
  have:¬(y:Int)>0:=aG h;omega
 subst h;rw[Nat.gcd_zero_right]at Y;have TM:x≠0:=by rw[Y];exact Nat.pos_iff_ne_zero.1 (bw _ (by omega))
 obtain⟨R,hd⟩:=DP (a:=a) hb0;rw[<-Y]at R hd;have bn:(Rat.divInt a b).num.natAbs<=a.natAbs:=by rw[<-R];exact Int.natAbs_tdiv_le_natAbs _ _
 have bd:((Rat.divInt a b).den:Int).natAbs<=b.natAbs:=by rw[<-hd];exact Int.natAbs_tdiv_le_natAbs _ _
 refine dQ.mk ?_ ?_<;>intro Py
 ·have Py:=aK Py;rw[bh Py,Int.neg_one_mul]at R hd;refine⟨-(x:Int),wo,?_⟩;refine cR hτ dx [.x 0,.x 1,.x 2,.x 4,.x 5,.x 6,.x 3,.x 7,.x 8,.x 9] (by kernel_rfl) (by kernel_rfl) ?_;refine⟨by omega,(Rat.divInt a b).num,by rw[R,wrap64]<;>omega,by omega,((Rat.divInt a b).den:Int),by rw[hd,wrap64]<;>omega,?_⟩;refine cO (If:=fun _ J v V=>dR V (Nf J V) v (Rat.divInt a b).num) (fun O J r=>mz _ J (by omega) (by omega)) ?_;rintro O wa v1 wb r U Oz hI;replace I:=I.tr Oz;have hN:=hI.dK (S:=FF) r.cI (iv:=(wa.heap.size,wb.heap.size)::[]) aF;generalize (wa.heap.size,wb.heap.size)::[]=iv at*
  obtain⟨b1,a1,m1,c1,rfl⟩:=hN.shape;refine cO (If:=fun _ J v V=>dR V (Nf J V) v ((Rat.divInt a b).den:Int)) (fun O J r=>mz _ J (by omega) (by omega)) ?_;rintro O wa v1 Pt r U Oz hI;replace I:=I.tr Oz;replace hN:=hN.cM (K:=(wa.heap.size,Pt.heap.size)::iv) r (cH w) U fun x F=>aB _ F;have hD:=hI.dK (S:=FF) r.cI (iv:=(wa.heap.size,Pt.heap.size)::iv) aF;generalize (wa.heap.size,Pt.heap.size)::iv=Od at*
  obtain⟨b2,a2,m2,c2,rfl⟩:=hD.shape;exact rtn I fun IR we re=>(dA.of hN hD).out re (cH w)
 ·have Py:=aG Py;rw[bq (by omega),Int.one_mul]at R hd;refine cR hτ dx [.x 0,.x 1,.x 2,.x 4,.x 5,.x 6,.x 3,.x 7,.x 8,.x 9] (by kernel_rfl) (by kernel_rfl) ?_;refine⟨by omega,(Rat.divInt a b).num,by rw[R,wrap64]<;>omega,by omega,((Rat.divInt a b).den:Int),by rw[hd,wrap64]<;>omega,?_⟩;refine cO (If:=fun _ J v V=>dR V (Nf J V) v (Rat.divInt a b).num) (fun O J r=>mz _ J (by omega) (by omega)) ?_;rintro O wa v1 wb r U Oz hI;replace I:=I.tr Oz;have hN:=hI.dK (S:=FF) r.cI (iv:=(wa.heap.size,wb.heap.size)::[]) aF;generalize (wa.heap.size,wb.heap.size)::[]=iv at*
  obtain⟨b1,a1,m1,c1,rfl⟩:=hN.shape;refine cO (If:=fun _ J v V=>dR V (Nf J V) v ((Rat.divInt a b).den:Int)) (fun O J r=>mz _ J (by omega) (by omega)) ?_;rintro O wa v1 Pt r U Oz hI;replace I:=I.tr Oz;replace hN:=hN.cM (K:=(wa.heap.size,Pt.heap.size)::iv) r (cH w) U fun x F=>aB _ F;have hD:=hI.dK (S:=FF) r.cI (iv:=(wa.heap.size,Pt.heap.size)::iv) aF;generalize (wa.heap.size,Pt.heap.size)::iv=Od at*
  obtain⟨b2,a2,m2,c2,rfl⟩:=hD.shape;exact rtn I fun IR we re=>(dA.of hN hD).out re (cH w)
theorem vK(h:z.natAbs<1073741824):kJ z= .tuple #[.int .i64 z,.bool true]:=if_pos h
theorem El{v:Value}{x y:Int}(X:Old S w)(F:jx w S v x)(hy:jx w S u y)(hxs:x.natAbs<1073741824)(hys:y.natAbs<1073741824)(QQ:y≠0):
  eI PG F'.sn #[v,u] w (eO w fun v' V=>dA V (Nf w V) v' (Rat.divInt x y)):=by
 have I:=bR w;replace F:=F.cN (S':=Cv S w.heap.size []) fun _ h=>.inl h;replace hy:=hy.cN (S':=Cv S w.heap.size []) fun _ h=>.inl h;obtain⟨bx,ax,lx,cx,rfl⟩:=F.shape;obtain⟨b2,ay,ly,cy,rfl⟩:=hy.shape;refine sQ (by simp) ?_;refine cJ (cE I (fun _ J v V=>v= .tuple #[.int .i64 x,.bool true]) (fun O J r=>(oI (Rel.old r X) (F.rel r X)).mono fun e V ⟨v2,e1,e2,e3⟩=>⟨v2,e1,e2,by rw[e3,vK hxs]⟩) ?_);rintro O Q6 v1 QT Oo r U I h_ rfl;replace F:=F.cM r X U (mC h_);replace hy:=hy.cM r X U (mC h_);refine cJ (cE I (fun _ J v V=>v= .tuple #[.int .i64 y,.bool true]) (fun O J r=>(oI (Rel.old r X) (hy.rel r X)).mono fun e V ⟨v2,e1,e2,e3⟩=>⟨v2,e1,e2,by rw[e3,vK hys]⟩) ?_);rintro O _ v1 _ Od r U I h_ rfl;refine cJ (cE I (fun _ J v V=>dA V (Nf J V) v (Rat.divInt x y)) (fun O J r=>r8 x y J (by omega) (by omega) QQ) ?_);rintro O _ _ _ iv r U I h_ hI;have hR:=hI.dK (S:=FF) r.cI (mN h_);obtain⟨b1,a1,m1,c1,b3,a3,m3,c3,rfl⟩:=hR.shape;exact rtn I fun IR we re=>hR.out re (cH w)
theorem BT(n:Int):Rat.divInt n 1=(n:Rat):=by
 have:=Rat.num_divInt_den (n:Rat);rw[Rat.num_intCast,Rat.den_intCast]at this;exact this
theorem ki(n:Int)(w:World)(R:n.natAbs<1073741824):
  eI PG F'.qK #[.int .i64 n] w (eO w fun v' V=>dA V (Nf w V) v' (n:Rat)):=by
 have I:=bR w;refine qY (by simp) ?_;refine cJ (cO (If:=fun _ J v V=>dR V (Nf J V) v n) (fun O J r=>mz _ J (by omega) (by omega)) ?_);rintro O wa v1 wb r U Oz hI;replace I:=I.tr Oz;have hN:=hI.dK (S:=FF) r.cI (iv:=(wa.heap.size,wb.heap.size)::[]) aF;generalize (wa.heap.size,wb.heap.size)::[]=iv at*
 obtain⟨b1,a1,m1,c1,rfl⟩:=hN.shape;refine cJ (cO (If:=fun _ J v V=>dR V (Nf J V) v 1) (fun O J r=>mz _ J (by omega) (by omega)) ?_);rintro O wa v1 Pt r U Oz hI;replace I:=I.tr Oz;replace hN:=hN.cM (K:=(wa.heap.size,Pt.heap.size)::iv) r (cH w) U fun x F=>aB _ F;have hD:=hI.dK (S:=FF) r.cI (iv:=(wa.heap.size,Pt.heap.size)::iv) aF;generalize (wa.heap.size,Pt.heap.size)::iv=Od at*
 obtain⟨b2,a2,m2,c2,rfl⟩:=hD.shape;refine cJ (cE I (fun _ J v V=>dA V (Nf J V) v (Rat.divInt n 1)) (fun O J r=>El (Rel.old r (cH w)) (hN.rel r (cH w)).r (hD.rel r (cH w)).r R (by decide) (by decide)) ?_);rintro O _ _ _ iv r U I h_ hI;have hR:=hI.dK (S:=FF) r.cI (mN h_);obtain⟨b1,a1,m1,c1,b3,a3,m3,c3,rfl⟩:=hR.shape;rw[BT]at hR;exact rtn I fun IR we re=>hR.out re (cH w)
theorem OK{v:Value}{n1 n2:Bool}{ms:List Nat}(X:Old S w)(F:vA w S v n1 ls)(hy:vA w S u n2 ms):
  eI PG F'.nH #[v,u] w (eO w fun v' _=>v'= .bool (decide (n1=n2/\ls=ms))):=by
 obtain⟨lv,rfl,L⟩:=F;obtain⟨mv,rfl,G⟩:=hy;obtain⟨a,c,rfl,_,ha⟩:=L.sl;obtain⟨b,e,rfl,_,hb⟩:=G.sl;have hle1:=L.le;have Vx:=G.le;have I:=bR w;refine wN (by simp) ?_;refine dQ.mk ?_ ?_<;>intro R
 ·have R:n1≠n2:=fun h=>by rw[h]at R;simp at R
  intro O V r;exact⟨_,rfl,r.cU,by rw[bM (fun h=>R h.1)];rfl⟩
 have R:n1=n2:=by simpa using R
 subst R;refine dQ.mk ?_ ?_<;>intro h
 ·have h:ls.length≠ms.length:=fun U=>by rw[U]at h;simp at h
  intro O V r;exact⟨_,rfl,r.cU,by rw[bM (fun e=>h (by rw[e.2]))];rfl⟩
 have h:ls.length=ms.length:=by
  have:(ls.length:Int)=ms.length:=by simpa using h
  omega
 refine⟨Nat×World,fun z=>⟨[(2,pP 0 0),(3,pP 1 0),(5,iZ z.1)],[(1,.box T.Int [.v (.bool n1),.v (.slice b ms.length e)]),(0,.box T.Int [.v (.bool n1),.v (.slice a ls.length c)])],2,[],z.2⟩,fun z=>ls.length-z.1,
  fun z=>z.1<=ls.length/\dw w.heap.size w z.2/\ls.take z.1=ms.take z.1,?_,?_⟩
 ·intro O J r;exact⟨(0,J),⟨by simp,r.cU,by simp⟩,Sub.gn [] r⟩
 rintro⟨i,w1⟩ ⟨A,I,ht⟩;dsimp only at A I ht ⊢;refine dQ.mk ?_ ?_<;>intro OZ
 ·have OZ:i<ls.length:=by simpa using OZ
  obtain⟨x,F⟩:∃x,ls[i]? =some x:=⟨_,aA OZ⟩
  obtain⟨y,hy⟩:∃x,ms[i]? =some x:=⟨_,aA (by omega)⟩
  obtain⟨ad,rfl,q1,q2⟩:=ha i x F;obtain⟨ad2,rfl,q3,q4⟩:=hb i y hy;have PU:∀{H nx iv O J},Rel H nx iv w.heap.size w1 O J->J.cell? (ad.add ((i:Int).toNat*1))=some (.int .u32 x):=fun r=>by
   rw[aE,aV];exact j0 X I r q1 q2
  have Qu:∀{H nx iv O J},Rel H nx iv w.heap.size w1 O J->J.cell? (ad2.add ((i:Int).toNat*1))=some (.int .u32 y):=fun r=>by
   rw[aE,aV];exact j0 X I r q3 q4
  refine cR hτ dx [.x 0,.x 1,.x 2,.x 3,.x 4,.x 5,.x 6,.x 7,.x 8,.x 9,.x 10] (by kernel_rfl) (by kernel_rfl) ?_;refine⟨ad,rfl,by omega,.int .u32 x,fun O J r=>PU r,ad2,rfl,by omega,.int .u32 y,fun O J r=>Qu r,?_⟩;refine dQ.mk ?_ ?_<;>intro Oe
  ·have Oe:x≠y:=fun h=>by rw[h]at Oe;simp at Oe
   intro O V r;refine⟨_,rfl,I.tr r.cU,?_⟩
   rw[bM (fun e=>Oe (by
    have:=e.2;rw[this,hy]at F;injection F with F
    exact F.symm))]
   rfl
  have Oe:x=y:=by
   have:(x:Int)=y:=by simpa using Oe
   omega
  subst Oe;have TK:ls.take (i+1)=ms.take (i+1):=by rw[List.take_add_one,List.take_add_one,ht,F,hy]
  refine⟨((i+1:Nat):Int),wo,?_⟩;intro GT w3 E;exact⟨(i+1,w3),⟨OZ,I.tr E.cU,TK⟩,Sub.gn [] E,by dsimp only;omega⟩
 have OZ:i=ls.length:=by
  have:¬i<ls.length:=by simpa using OZ
  omega
 subst OZ;rw[bA,h,bA]at ht;intro O V r;exact⟨_,rfl,I.tr r.cU,by rw[bX ⟨rfl,ht⟩];rfl⟩
theorem KX{a:List Nat}(la:Lm a)(lb:Lm b)(na:Nz a)(nb:Nz b)(h:val a=val b):a=b:=by
 have:a.length=b.length:=by
  rcases cC a.length b.length with L|L|L
  ·have:=jV la nb L;omega
  ·exact L
  ·have:=jV lb na L;omega
 exact val_inj la lb this h
theorem DQ{v:Value}{x y:Int}(X:Old S w)(F:dR w S v x)(hy:dR w S u y):
  eI PG F'.nH #[v,u] w (eO w fun v' _=>v'= .bool (decide (x=y))):=by
 obtain⟨ls,L,G,N⟩:=F;obtain⟨ms,k1,k2,k3⟩:=hy;have e:decide (decide (x<0)=decide (y<0)/\ls=ms)=decide (x=y):=by
  refine decide_eq_decide.2 ⟨fun ⟨e1,e2⟩=>?_,fun e1=>?_⟩
  ·have e1:=decide_eq_decide.1 e1;rw[e2]at N;omega
  ·subst e1;obtain⟨_,_,l1⟩:=L;obtain⟨_,_,l2⟩:=k1;exact⟨rfl,KX l1.lm l2.lm G k2 (by omega)⟩
 exact(OK X L k1).mono fun _ V ⟨v2,e1,e2,e3⟩=>⟨v2,e1,e2,by rw[e3,e]⟩
theorem Ho{v:Value}{p:Rat}(X:Old S w)(F:dA w S v p)(hy:dA w S u q):
  eI PG F'.AQ #[v,u] w (eO w fun v' _=>v'= .bool (decide (p=q))):=by
 obtain⟨b1,a1,n1,c1,b2,a2,n2,c2,rfl⟩:=F.shape;obtain⟨b3,a3,n3,c3,b4,a4,n4,c4,rfl⟩:=hy.shape;refine Be (by simp) ?_;refine cJ (cO (If:=fun _ J v V=>v= .bool (decide (p.num=q.num))) (fun O J r=>DQ (oS X r) (F.num.cK fun g Y=>r.cU.block g (X g Y)) (hy.num.cK fun g Y=>r.cU.block g (X g Y))) ?_);rintro O wa v1 wb r U hb rfl;have I:=hb;generalize (wa.heap.size,wb.heap.size)::[]=iv at*
 refine dQ.mk ?_ ?_<;>intro h
 ·have h:=aK h;refine cJ (cE I (fun _ J v V=>v= .bool (decide ((p.den:Int)=q.den))) (fun O J r=>DQ (oS X r) (F.den.cK (kS I r X)) (hy.den.cK (kS I r X))) ?_);rintro O _ _ _ Od r U I h_ rfl;intro IR we re;refine⟨_,rfl,I.tr re.cU,?_⟩;have:decide (p=q)=decide ((p.den:Int)=q.den):=decide_eq_decide.2 ⟨fun e=>by rw[e],fun e=>Rat.ext h (by omega)⟩;rw[this];rfl
 ·have h:=aG h;intro IR we re;refine⟨_,rfl,I.tr re.cU,?_⟩;rw[bM (fun e=>h (by rw[e]))];rfl
theorem BP{v:Value}{xs ys:List Rat}(X:Old S w)(F:cS w S v xs)(hy:cS w S u ys):
  eI PG F'.qJ #[v,u] w (eO w fun v' _=>v'= .bool (decide (xs=ys))):=by
 obtain⟨a,c,rfl,hc,hm⟩:=dV.shape F;obtain⟨b,e,rfl,XE,Vm⟩:=dV.shape hy;unfold maxLen at hm Vm;refine u9 (by simp) ?_;refine dQ.mk ?_ ?_<;>intro h
 ·have h:xs.length≠ys.length:=fun U=>by rw[U]at h;simp at h
  intro O V r;exact⟨_,rfl,r.cU,by rw[bM (fun e=>h (by rw[e]))];rfl⟩
 have h:xs.length=ys.length:=by
  have:(xs.length:Int)=ys.length:=by simpa using h
  omega
 refine⟨Nat×World,fun z=>⟨[(0,sV a xs.length c),(1,sV b ys.length e),(5,iZ z.1)],[],0,[],z.2⟩,fun z=>xs.length-z.1,
  fun z=>z.1<=xs.length/\dw w.heap.size w z.2/\xs.take z.1=ys.take z.1,?_,?_⟩
 ·intro O J r;exact⟨(0,J),⟨by simp,r.cU,by simp⟩,Sub.gn [] r⟩
 rintro⟨i,w1⟩ ⟨A,I,ht⟩;dsimp only at A I ht ⊢;refine dQ.mk ?_ ?_<;>intro OZ
 ·have OZ:i<xs.length:=by simpa using OZ
  obtain⟨x,QK⟩:∃x,xs[i]? =some x:=⟨_,aA OZ⟩
  obtain⟨y,TB⟩:∃x,ys[i]? =some x:=⟨_,aA (by omega)⟩
  obtain⟨ad2,cs2,rfl,Qs,-,QV⟩:=dV.load hy TB;obtain⟨p2,q2,r2,s2,t2,u2,v2,V,rfl,Qs⟩:=Qs;obtain⟨ad,W,rfl,hR,-,hl⟩:=dV.load F QK;obtain⟨p1,q1,r1,s1,t1,u1,v1,w1,rfl,hR⟩:=hR;refine cR hτ dx [.x 0,.x 1,.x 2,.x 3,.x 4,.x 5,.x 6,.x 7,.x 8,.x 9] (by kernel_rfl) (by kernel_rfl) ?_;refine⟨ad,rfl,by omega,[.bool p1,.slice q1 r1 s1,.bool t1,.slice u1 v1 w1],rfl,rdO hl I X,ad2,rfl,by omega,[.bool p2,.slice q2 r2 s2,.bool t2,.slice u2 v2 V],rfl,rdO QV I X,?_⟩;refine cE I (fun _ J v V=>v= .bool (decide (x=y))) (fun O J r=>Ho (oS X r) (hR.cK (kS I r X)) (Qs.cK (kS I r X))) ?_;rintro O _ _ _ Od r U I h_ rfl;refine dQ.mk ?_ ?_<;>intro Oe
  ·have Oe:x≠y:=fun h=>by rw[h]at Oe;simp at Oe
   intro O V r;refine⟨_,rfl,I.tr r.cU,?_⟩
   rw[bM (fun e=>Oe (by
    rw[e,TB]at QK;injection QK with QK
    exact QK.symm))]
   rfl
  have Oe:x=y:=by simpa using Oe
  subst Oe;have TK:xs.take (i+1)=ys.take (i+1):=by rw[List.take_add_one,List.take_add_one,ht,QK,TB]
  refine⟨((i+1:Nat):Int),wo,?_⟩;intro GT w3 E;exact⟨(i+1,w3),⟨OZ,I.tr E.cU,TK⟩,Sub.gn [] E,by dsimp only;omega⟩
 have OZ:i=xs.length:=by
  have:¬i<xs.length:=by simpa using OZ
  omega
 subst OZ;rw[bA,h,bA]at ht;intro O V r;exact⟨_,rfl,I.tr r.cU,by rw[bX ht];rfl⟩
theorem dA.four{b b2:Bool}{n c n2 c2:Nat}(h:dA w S (.agg #[.bool b,.slice a n c,.bool b2,.slice a2 n2 c2]) q):Ej w S [.bool b,.slice a n c,.bool b2,.slice a2 n2 c2] (q.num,(q.den:Int)):=
 ⟨b,a,n,c,b2,a2,n2,c2,rfl,h.r⟩
theorem dA.sR{b b2:Bool}{n c n2 c2:Nat}(h:dA w S (.agg #[.bool b,.slice a n c,.bool b2,.slice a2 n2 c2]) q):jD w S [.bool b,.slice a n c,.bool b2,.slice a2 n2 c2] q:=
 ⟨b,a,n,c,b2,a2,n2,c2,rfl,h⟩
theorem Rel.lt(r:Rel H nx iv B w O J){id t:Nat}{W:List At}(h:dG H id=some (.box t W)):(O id).g<J.heap.size:=(r.low id _ h (r.nn id _ h (by intros;simp) (by simp))).2
end Go.Ex
namespace Go.Ex
variable{W:List Int}{ls:List Nat}{i:Nat}{f:Nat->Int}
def fz(f:Nat->Int):Nat->Int
 |0=>0
 |n+1=>f 0+65536*fz (fun i=>f (i+1)) n
theorem AK(f:Nat->Int)(n:Nat):dU ((List.range n).map f)=fz f n:=by
 induction n generalizing f with
 |zero=>rfl
 |succ n ih=>
  rw[List.range_succ_eq_map,List.map_cons,List.map_map,dU,fz,<-ih];rfl
theorem AM(f g:Nat->Int)(n:Nat):fz (fun i=>f i+g i) n=fz f n+fz g n:=by
 induction n generalizing f g with
 |zero=>rfl
 |succ n ih=>simp only[fz,ih];omega
theorem HY(k:Int)(f:Nat->Int)(n:Nat):fz (fun i=>k*f i) n=k*fz f n:=by
 induction n generalizing f with
 |zero=>simp[fz]
 |succ n ih=>simp only[fz,ih,Int.mul_add];rw[Int.mul_left_comm]
theorem xS{n:Nat}(h:∀i,i<n->f i=0):fz f n=0:=by
 induction n generalizing f with
 |zero=>rfl
 |succ n ih=>rw[fz,h 0 (by omega),ih fun i A=>h (i+1) (by omega)];rfl
theorem qG(a:List Int)(n:Nat)(h:a.length<=n):fz (fun i=>a.getD i 0) n=dU a:=by
 induction a generalizing n with
 |nil=>exact xS fun i _=>by simp
 |cons c r ih=>
  obtain⟨m,rfl⟩:∃m,n=m+1:=⟨n-1,by simp at h;omega⟩
  have e:=ih m (by simpa using h);rw[fz,dU,<-e];simp[List.getD]
def jC(a b:List Int)(i:Nat):Nat->Int
 |0=>0
 |k+1=>jC a b i k+a.getD k 0*(if k<=i then b.getD (i-k) 0 else 0)
def gQ(a b:List Int)(i:Nat):Int:=jC a b i (i+1)
theorem Jt(b:List Int)(i k:Nat):jC [] b i k=0:=by
 induction k with
 |zero=>rfl
 |succ k ih=>rw[jC,ih];simp
theorem HZ(c:Int)(r b:List Int)(i k:Nat):jC (c::r) b (i+1) (k+1)=c*b.getD (i+1) 0+jC r b i k:=by
 induction k with
 |zero=>simp[jC]
 |succ k ih=>
  rw[jC,ih,jC];have e:(c::r).getD (k+1) 0=r.getD k 0:=by simp[List.getD]
  rw[e];have e2:(if k+1<=i+1 then b.getD (i+1-(k+1)) 0 else 0)=(if k<=i then b.getD (i-k) 0 else 0):=by
   by_cases h:k<=i
   ·rw[if_pos h,if_pos (by omega),show i+1-(k+1)=i-k by omega]
   ·rw[aH h,aH (by omega)]
  rw[e2,Int.add_assoc]
theorem Fy(c:Int)(r b:List Int)(i:Nat):gQ (c::r) b (i+1)=c*b.getD (i+1) 0+gQ r b i:=HZ c r b i (i+1)
theorem Fz(c:Int)(r b:List Int):gQ (c::r) b 0=c*b.getD 0 0:=by simp[gQ,jC]
theorem Lz(a b:List Int)(n:Nat)(h:a.length+b.length<=n+1):fz (gQ a b) n=dU a*dU b:=by
 induction a generalizing n with
 |nil=>
  rw[show gQ [] b=fun _=>(0:Int)from funext fun i=>Jt b i _,xS fun _ _=>rfl];simp[dU]
 |cons c r ih=>
  cases n with
  |zero=>
   have hb:b=[]:=List.eq_nil_of_length_eq_zero (by simp at h;omega);subst hb;simp[fz,dU]
  |succ m=>
   have e1:fz (gQ (c::r) b) (m+1)=fz (fun i=>c*b.getD i 0) (m+1)+65536*fz (gQ r b) m:=by
    have e2:fz (fun i=>gQ (c::r) b (i+1)) m=fz (fun i=>c*b.getD (i+1) 0) m+fz (gQ r b) m:=by
     rw[<-AM];congr 1
     funext i
     exact Fy c r b i
    rw[fz,fz,e2,Fz,Int.mul_add];omega
   have h':r.length+b.length<=m+1:=by simp at h;omega
   rw[e1,ih m h',HY,qG b (m+1) (by omega),dU,Int.add_mul,Int.mul_assoc]
theorem H0(a b:List Int)(i k k0:Nat)(h0:∀j,j<k0->b.length<=i-j)(D:k0<=i+1)(h:k<=k0):jC a b i k=0:=by
 induction k with
 |zero=>rfl
 |succ k ih=>
  rw[jC,ih (by omega),if_pos (by omega)];have:b.getD (i-k) 0=0:=by rw[List.getD,List.getElem?_eq_none (h0 k (by omega))];rfl
  rw[this];simp
theorem H3(a b:List Int)(i k m:Nat)(h:a.length<=k):jC a b i (k+m)=jC a b i k:=by
 induction m with
 |zero=>rfl
 |succ m ih=>
  rw[<-Nat.add_assoc,jC,ih];have:a.getD (k+m) 0=0:=by rw[List.getD,List.getElem?_eq_none (by omega)];rfl
  rw[this];simp
theorem mb{a b:List Int}(ha:∀x∈a,-65535<=x/\x<=65535)(hb:∀x∈b,-65535<=x/\x<=65535)(k:Nat):(jC a b i k).natAbs<=4294836225*k:=by
 have key:∀(l:List Int) (j:Nat),(∀x∈l,-65535<=x/\x<=65535)->(l.getD j 0).natAbs<=65535:=fun l j h=>by
  rw[List.getD]
  cases hj:l[j]? with
  |none=>simp
  |some d=>have:=h d (aC hj);simp;omega
 induction k with
 |zero=>simp[jC]
 |succ k ih=>
  rw[jC];have L:=key a k ha;have G:(if k<=i then b.getD (i-k) 0 else 0).natAbs<=65535:=by
   split
   ·exact key b _ hb
   ·simp
  have N:=Nat.mul_le_mul L G;rw[<-Int.natAbs_mul]at N;generalize a.getD k 0*(if k<=i then b.getD (i-k) 0 else 0)=p at*
  omega
def eK(s:Int):List Nat->List Int
 |[]=>[]
 |l::r=>s*((l % 65536:Nat):Int)::s*((l / 65536:Nat):Int)::eK s r
theorem Dn(s:Int)(ls:List Nat):dU (eK s ls)=s*(val ls:Int):=by
 induction ls with
 |nil=>simp[eK,dU,val]
 |cons l r ih=>
  rw[eK,dU,dU,ih,val];have e1:((l+4294967296*val r:Nat):Int)=((l % 65536:Nat):Int)+65536*((l / 65536:Nat):Int)+4294967296*((val r:Nat):Int):=by omega
  rw[e1,Int.mul_add,Int.mul_add,Int.mul_add];rw[Int.mul_left_comm 65536 s,Int.mul_left_comm s 65536,Int.mul_left_comm s 4294967296];omega
theorem pO(s:Int)(a b:List Nat):eK s (a++b)=eK s a++eK s b:=by
 induction a with
 |nil=>rfl
 |cons l r ih=>simp[eK,ih]
theorem im(s:Int)(ls:List Nat):(eK s ls).length=2*ls.length:=by
 induction ls with
 |nil=>rfl
 |cons l r ih=>simp[eK,ih];omega
theorem AN{s:Int}(hs:s=1\/s= -1)(h:Lm ls):∀c∈eK s ls,-65535<=c/\c<=65535:=by
 induction ls with
 |nil=>intro c hc;cases hc
 |cons l r ih=>
  have hl:=h l aF;intro c hc;rw[eK]at hc;rcases List.mem_cons.1 hc with rfl|hc
  ·rcases hs with rfl|rfl<;>omega
  rcases List.mem_cons.1 hc with rfl|hc
  ·rcases hs with rfl|rfl<;>omega
  ·exact ih (fun x F=>h x (aB _ F)) c hc
theorem yC(h:Lm ls):∀c∈eK 1 ls,0<=c/\c<=65535:=fun c hc=>by
 induction ls with
 |nil=>cases hc
 |cons l r ih=>
  have hl:=h l aF;rw[eK]at hc;rcases List.mem_cons.1 hc with rfl|hc
  ·omega
  rcases List.mem_cons.1 hc with rfl|hc
  ·omega
  ·exact ih (fun x F=>h x (aB _ F)) hc
theorem GA{c:Int}(h:W[i]? =some c):dU (W.drop i)=c+65536*dU (W.drop (i+1)):=by
 rw[List.drop_eq_getElem_cons (aD.1 h).1,dU];have:=(aD.1 h).2;rw[this]
end Go.Ex
namespace Go.Ex
open Go Go.Sx Go.Proofs
variable{x1 x2 y1 y2:Int}{ls:List Nat}{S:Nat->Prop}{p q:Rat}{u:Value}{w:World}
theorem Mu{k:Nat}(h:Lm ls)(hl:ls.length<=k):ln (val ls)<=k:=gU.2 (Nat.lt_of_lt_of_le (oU h) (CP hl))
theorem Cv.false{B:Nat}{iv:Iv}{g:Nat}(h:Cv FF B iv g):Cv S B iv g:=h.elim (fun h=>h.elim) .inr
theorem Mv{v:Value}(X:Old S w)(F:iM w S v x1 x2)(hy:iM w S u y1 y2)(hl0:ln x1.natAbs<=100000)(R6:ln x2.natAbs<=100000)(QV:ln y1.natAbs<=100000)(QU:ln y2.natAbs<=100000):
  eI PG F'.wI #[v,u] w (eO w fun v' V=>dA V (Nf w V) v' ((ratio x1 x2)+(ratio y1 y2))):=by
 have I:=bR w;have r1:=il x1 x2;have r2:=il y1 y2;have E:=oh (ratio x1 x2) (ratio y1 y2);have r4:=iA (ratio x1 x2) (ratio y1 y2);have r5:=lh (ratio y1 y2);have r6:=AD (ratio x1 x2) (ratio y1 y2);replace F:=F.cN (S':=Cv S w.heap.size []) fun _ h=>.inl h;replace hy:=hy.cN (S':=Cv S w.heap.size []) fun _ h=>.inl h;obtain⟨b1,a1,n1,c1,b2,a2,n2,c2,rfl⟩:=F.shape;obtain⟨b3,a3,n3,c3,b4,a4,n4,c4,rfl⟩:=hy.shape;refine Dz (by simp) ?_;refine cR hτ dx [.x 0,.x 2,.x 1,.x 3,.x 4,.x 5,.x 6] (by kernel_rfl) (by kernel_rfl) ?_;refine cE I (fun _ J v V=>cd V (Nf J V) v ((ratio x1 x2))) (fun O J r=>jd (Rel.old r X) (F.rel r X) (by omega) (by omega)) ?_;rintro O _ _ _ Oo r U I h_ R;replace hy:=hy.cM r X U (mC h_);have hX:=R.dK (S:=FF) r.cI (mN h_);obtain⟨A0,A1,A2,A3,A4,A5,A6,A7,rfl⟩:=hX.shape;refine cE I (fun _ J v V=>cd V (Nf J V) v ((ratio y1 y2))) (fun O J r=>jd (Rel.old r X) (hy.rel r X) (by omega) (by omega)) ?_;rintro O _ _ _ Od r U I h_ R;replace hX:=hX.cM r (cH w) U (mC h_);have hY:=R.dK (S:=FF) r.cI (mN h_);obtain⟨C0,C1,C2,C3,C4,C5,C6,C7,rfl⟩:=hY.shape;refine cE I (fun _ J v V=>cd V (Nf J V) v ((ratio x1 x2)+(ratio y1 y2))) (fun O J r=>Ee (Rel.old r (cH w)) (hX.rel r (cH w)) (hY.rel r (cH w)) (by omega) (by omega)) ?_;rintro O _ _ _ Oq r U I h_ R;have hP:=R.dK (S:=FF) r.cI (mN h_);obtain⟨E0,E1,E2,E3,E4,E5,E6,E7,rfl⟩:=hP.shape;refine cE I (fun _ J v V=>dA V (Nf J V) v ((ratio x1 x2)+(ratio y1 y2))) (fun O J r=>rW (Rel.old r (cH w)) (hP.rel r (cH w)) (by omega)) ?_;rintro O _ _ _ Ox r U I h_ R;have hC:=R.dK (S:=FF) r.cI (mN h_);obtain⟨F0,F1,F2,F3,F4,F5,F6,F7,rfl⟩:=hC.shape;exact rtn I fun IR we re=>hC.out re (cH w)
theorem Mw{v:Value}(X:Old S w)(F:iM w S v x1 x2)(hy:iM w S u y1 y2)(hl0:ln x1.natAbs<=100000)(R6:ln x2.natAbs<=100000)(QV:ln y1.natAbs<=100000)(QU:ln y2.natAbs<=100000):
  eI PG F'.wH #[v,u] w (eO w fun v' V=>dA V (Nf w V) v' ((ratio x1 x2)*(ratio y1 y2))):=by
 have I:=bR w;have r1:=il x1 x2;have r2:=il y1 y2;have E:=oh (ratio x1 x2) (ratio y1 y2);have r4:=iA (ratio x1 x2) (ratio y1 y2);have r5:=lh (ratio y1 y2);have r6:=AD (ratio x1 x2) (ratio y1 y2);replace F:=F.cN (S':=Cv S w.heap.size []) fun _ h=>.inl h;replace hy:=hy.cN (S':=Cv S w.heap.size []) fun _ h=>.inl h;obtain⟨b1,a1,n1,c1,b2,a2,n2,c2,rfl⟩:=F.shape;obtain⟨b3,a3,n3,c3,b4,a4,n4,c4,rfl⟩:=hy.shape;refine Du (by simp) ?_;refine cR hτ dx [.x 0,.x 2,.x 1,.x 3,.x 4,.x 5,.x 6] (by kernel_rfl) (by kernel_rfl) ?_;refine cE I (fun _ J v V=>cd V (Nf J V) v ((ratio x1 x2))) (fun O J r=>jd (Rel.old r X) (F.rel r X) (by omega) (by omega)) ?_;rintro O _ _ _ Oo r U I h_ R;replace hy:=hy.cM r X U (mC h_);have hX:=R.dK (S:=FF) r.cI (mN h_);obtain⟨A0,A1,A2,A3,A4,A5,A6,A7,rfl⟩:=hX.shape;refine cE I (fun _ J v V=>cd V (Nf J V) v ((ratio y1 y2))) (fun O J r=>jd (Rel.old r X) (hy.rel r X) (by omega) (by omega)) ?_;rintro O _ _ _ Od r U I h_ R;replace hX:=hX.cM r (cH w) U (mC h_);have hY:=R.dK (S:=FF) r.cI (mN h_);obtain⟨C0,C1,C2,C3,C4,C5,C6,C7,rfl⟩:=hY.shape;refine cE I (fun _ J v V=>cd V (Nf J V) v ((ratio x1 x2)*(ratio y1 y2))) (fun O J r=>BL (Rel.old r (cH w)) (hX.rel r (cH w)) (hY.rel r (cH w)) (by omega) (by omega)) ?_;rintro O _ _ _ Oq r U I h_ R;have hP:=R.dK (S:=FF) r.cI (mN h_);obtain⟨E0,E1,E2,E3,E4,E5,E6,E7,rfl⟩:=hP.shape;refine cE I (fun _ J v V=>dA V (Nf J V) v ((ratio x1 x2)*(ratio y1 y2))) (fun O J r=>rW (Rel.old r (cH w)) (hP.rel r (cH w)) (by omega)) ?_;rintro O _ _ _ Ox r U I h_ R;have hC:=R.dK (S:=FF) r.cI (mN h_);obtain⟨F0,F1,F2,F3,F4,F5,F6,F7,rfl⟩:=hC.shape;exact rtn I fun IR we re=>hC.out re (cH w)
theorem My{v:Value}(X:Old S w)(F:iM w S v x1 x2)(hy:iM w S u y1 y2)(hl0:ln x1.natAbs<=100000)(R6:ln x2.natAbs<=100000)(QV:ln y1.natAbs<=100000)(QU:ln y2.natAbs<=100000):
  eI PG F'.wK #[v,u] w (eO w fun v' V=>dA V (Nf w V) v' ((ratio x1 x2)-(ratio y1 y2))):=by
 have I:=bR w;have r1:=il x1 x2;have r2:=il y1 y2;have E:=oh (ratio x1 x2) (ratio y1 y2);have r4:=iA (ratio x1 x2) (ratio y1 y2);have r5:=lh (ratio y1 y2);have r6:=AD (ratio x1 x2) (ratio y1 y2);replace F:=F.cN (S':=Cv S w.heap.size []) fun _ h=>.inl h;replace hy:=hy.cN (S':=Cv S w.heap.size []) fun _ h=>.inl h;obtain⟨b1,a1,n1,c1,b2,a2,n2,c2,rfl⟩:=F.shape;obtain⟨b3,a3,n3,c3,b4,a4,n4,c4,rfl⟩:=hy.shape;refine EG (by simp) ?_;refine cR hτ dx [.x 0,.x 2,.x 1,.x 3,.x 4,.x 5,.x 6,.x 7] (by kernel_rfl) (by kernel_rfl) ?_;refine cE I (fun _ J v V=>cd V (Nf J V) v ((ratio x1 x2))) (fun O J r=>jd (Rel.old r X) (F.rel r X) (by omega) (by omega)) ?_;rintro O _ _ _ Oo r U I h_ R;replace hy:=hy.cM r X U (mC h_);have hX:=R.dK (S:=FF) r.cI (mN h_);obtain⟨A0,A1,A2,A3,A4,A5,A6,A7,rfl⟩:=hX.shape;refine cE I (fun _ J v V=>cd V (Nf J V) v ((ratio y1 y2))) (fun O J r=>jd (Rel.old r X) (hy.rel r X) (by omega) (by omega)) ?_;rintro O _ _ _ Od r U I h_ R;replace hX:=hX.cM r (cH w) U (mC h_);have hY:=R.dK (S:=FF) r.cI (mN h_);obtain⟨C0,C1,C2,C3,C4,C5,C6,C7,rfl⟩:=hY.shape;refine cO (If:=fun _ J v V=>cd V (Nw (Cf w Od) J V) v (-(ratio y1 y2))) (fun O J r=>BK (Rel.old r (cH w)) (hY.rel r (cH w))) ?_;rintro O QF v3 Pw r U hb R;replace I:=I.tr hb;replace hX:=hX.cM (K:=(QF.heap.size,Pw.heap.size)::Od) r (cH w) U fun x F=>aB _ F;have hM:=R.old r.cI;generalize (QF.heap.size,Pw.heap.size)::Od=Oq at*
 obtain⟨E0,E1,E2,E3,E4,E5,E6,E7,rfl⟩:=hM.shape;refine cE I (fun _ J v V=>cd V (Nf J V) v ((ratio x1 x2)-(ratio y1 y2))) (fun O J r=>(Rat.sub_eq_add_neg (ratio x1 x2) (ratio y1 y2))▸Ee (Rel.old r (cH w)) (hX.rel r (cH w)) (hM.rel r (cH w)) (by omega) (by omega)) ?_;rintro O _ _ _ Ox r U I h_ R;have hP:=R.dK (S:=FF) r.cI (mN h_);obtain⟨F0,F1,F2,F3,F4,F5,F6,F7,rfl⟩:=hP.shape;refine cE I (fun _ J v V=>dA V (Nf J V) v ((ratio x1 x2)-(ratio y1 y2))) (fun O J r=>rW (Rel.old r (cH w)) (hP.rel r (cH w)) (by omega)) ?_;rintro O _ _ _ PX r U I h_ R;have hC:=R.dK (S:=FF) r.cI (mN h_);obtain⟨G0,G1,G2,G3,G4,G5,G6,G7,rfl⟩:=hC.shape;exact rtn I fun IR we re=>hC.out re (cH w)
theorem aAq{v:Value}{f g:Rat}(X:Old S w)(hf:cd w S v f)(Y:cd w S u g)(hlf:rl f<=10000000000)(hlg:rl g<=10000000000):
  eI PG F'.lr #[v,u] w (eO w fun v' V=>v'= .int .i64 (rs (f-g))):=by
 have I:=bR w;have l1:=gG f;have l2:=fR f;have l3:=gG g;have l4:=fR g;have m0:=dH f.num g.den;have m1:=dH g.num f.den;replace hf:=hf.cN (S':=Cv S w.heap.size []) fun _ h=>.inl h;replace Y:=Y.cN (S':=Cv S w.heap.size []) fun _ h=>.inl h;obtain⟨b1,a1,n1,c1,b2,a2,n2,c2,rfl⟩:=hf.shape;obtain⟨b3,a3,n3,c3,b4,a4,n4,c4,rfl⟩:=Y.shape;have Uv:=hf.num;have Ql:=hf.den;have TG:=Y.num;have Ra:=Y.den;refine pZ (by simp) ?_;refine cR hτ dx [.x 0,.x 1,.x 2,.x 3,.x 5,.x 6,.x 7,.x 8,.x 4,.x 9,.x 10,.x 11] (by kernel_rfl) (by kernel_rfl) ?_;refine cE I (fun _ J v V=>e9 V (Nf J V) v (f.num*(g.den:Int))) (fun O J r=>ig (Rel.old r X) (Uv.rel r X) (Ra.rel r X) (by omega) (by omega)) ?_;rintro O _ _ _ Oo r U I h_ R;replace Ql:=Ql.cM r X U (mC h_);replace TG:=TG.cM r X U (mC h_);have hA:=R.dK (S:=FF) r.cI (mN h_);obtain⟨A0,A1,A2,A3,rfl⟩:=hA.shape;refine cE I (fun _ J v V=>e9 V (Nf J V) v (g.num*(f.den:Int))) (fun O J r=>ig (Rel.old r X) (TG.rel r X) (Ql.rel r X) (by omega) (by omega)) ?_;rintro O _ _ _ Od r U I h_ R;replace hA:=hA.cM r (cH w) U (mC h_);have hB:=R.dK (S:=FF) r.cI (mN h_);obtain⟨C0,C1,C2,C3,rfl⟩:=hB.shape;refine cE I (fun _ J v V=>v= .int .i64 (rs (f-g))) (fun O J r=>(Nh f g)▸MZ (Rel.old r (cH w)) (hA.rel r (cH w)) (hB.rel r (cH w)) (by omega) (by omega)) ?_;rintro O _ _ _ Oq r U I h_ rfl;exact rtn I fun IR we re=>rfl
theorem Mz{v:Value}(X:Old S w)(F:iM w S v x1 x2)(hy:iM w S u y1 y2)(hl0:ln x1.natAbs<=100000)(R6:ln x2.natAbs<=100000)(QV:ln y1.natAbs<=100000)(QU:ln y2.natAbs<=100000):
  eI PG F'.wG #[v,u] w (eO w fun v' V=>v'= .int .i64 (rs ((ratio x1 x2)-(ratio y1 y2)))):=by
 have I:=bR w;have r1:=il x1 x2;have r2:=il y1 y2;have E:=oh (ratio x1 x2) (ratio y1 y2);have r4:=iA (ratio x1 x2) (ratio y1 y2);have r5:=lh (ratio y1 y2);have r6:=AD (ratio x1 x2) (ratio y1 y2);replace F:=F.cN (S':=Cv S w.heap.size []) fun _ h=>.inl h;replace hy:=hy.cN (S':=Cv S w.heap.size []) fun _ h=>.inl h;obtain⟨b1,a1,n1,c1,b2,a2,n2,c2,rfl⟩:=F.shape;obtain⟨b3,a3,n3,c3,b4,a4,n4,c4,rfl⟩:=hy.shape;refine Ds (by simp) ?_;refine cR hτ dx [.x 0,.x 2,.x 1,.x 3,.x 4,.x 5] (by kernel_rfl) (by kernel_rfl) ?_;refine cE I (fun _ J v V=>cd V (Nf J V) v ((ratio x1 x2))) (fun O J r=>jd (Rel.old r X) (F.rel r X) (by omega) (by omega)) ?_;rintro O _ _ _ Oo r U I h_ R;replace hy:=hy.cM r X U (mC h_);have hX:=R.dK (S:=FF) r.cI (mN h_);obtain⟨A0,A1,A2,A3,A4,A5,A6,A7,rfl⟩:=hX.shape;refine cE I (fun _ J v V=>cd V (Nf J V) v ((ratio y1 y2))) (fun O J r=>jd (Rel.old r X) (hy.rel r X) (by omega) (by omega)) ?_;rintro O _ _ _ Od r U I h_ R;replace hX:=hX.cM r (cH w) U (mC h_);have hY:=R.dK (S:=FF) r.cI (mN h_);obtain⟨C0,C1,C2,C3,C4,C5,C6,C7,rfl⟩:=hY.shape;refine cE I (fun _ J v V=>v= .int .i64 (rs ((ratio x1 x2)-(ratio y1 y2)))) (fun O J r=>aAq (Rel.old r (cH w)) (hX.rel r (cH w)) (hY.rel r (cH w)) (by omega) (by omega)) ?_;rintro O _ _ _ Oq r U I h_ rfl;exact rtn I fun IR we re=>rfl
theorem EM:rs q=0↔q=0:=by rw[rs,bo,Rat.num_eq_zero]
theorem NA{v:Value}(X:Old S w)(F:iM w S v x1 x2)(hy:iM w S u y1 y2)(hl0:ln x1.natAbs<=100000)(R6:ln x2.natAbs<=100000)(QV:ln y1.natAbs<=100000)(QU:ln y2.natAbs<=100000):
  eI PG F'.wJ #[v,u] w (eO w fun v' V=>((ratio y1 y2)=0/\v'= .tuple #[Mp,.int .i64 9])\/((ratio y1 y2)≠0/\∃q,v'= .tuple #[q,.int .i64 0]/\dA V (Nf w V) q ((ratio x1 x2) / (ratio y1 y2)))):=by
 have I:=bR w;have r1:=il x1 x2;have r2:=il y1 y2;have E:=oh (ratio x1 x2) (ratio y1 y2);have r4:=iA (ratio x1 x2) (ratio y1 y2);have r5:=lh (ratio y1 y2);have r6:=AD (ratio x1 x2) (ratio y1 y2);replace F:=F.cN (S':=Cv S w.heap.size []) fun _ h=>.inl h;replace hy:=hy.cN (S':=Cv S w.heap.size []) fun _ h=>.inl h;obtain⟨b1,a1,n1,c1,b2,a2,n2,c2,rfl⟩:=F.shape;obtain⟨b3,a3,n3,c3,b4,a4,n4,c4,rfl⟩:=hy.shape;refine EC (by simp) ?_;refine cJ (cE I (fun _ J v V=>cd V (Nf J V) v ((ratio y1 y2))) (fun O J r=>jd (Rel.old r X) (hy.rel r X) (by omega) (by omega)) ?_);rintro O _ _ _ Oo r U I h_ R;replace F:=F.cM r X U (mC h_);have hY:=R.dK (S:=FF) r.cI (mN h_);obtain⟨A0,A1,A2,A3,A4,A5,A6,A7,rfl⟩:=hY.shape;refine cJ (cE I (fun _ J v V=>v= .int .i64 (rs (ratio y1 y2))) (fun O J r=>vG (Rel.old r (cH w)) (hY.rel r (cH w))) ?_);rintro O _ _ _ Od r U I h_ rfl;replace F:=F.cM r X U (mC h_);replace hY:=hY.cM r (cH w) U (mC h_);refine dQ.mk ?_ ?_<;>intro h
 ·have h:rs (ratio y1 y2)=0:=by simpa using h
  exact rtn I fun IR we re=>.inl ⟨EM.1 h,rfl⟩
 have h:(ratio y1 y2)≠0:=fun e=>by rw[e]at h;exact absurd h (by decide)
 have r7:=Lk (ratio x1 x2) h;refine cR hτ dx [.x 0,.x 2,.x 1,.x 3,.x 4,.x 5,.x 6] (by kernel_rfl) (by kernel_rfl) ?_;refine cE I (fun _ J v V=>cd V (Nf J V) v ((ratio x1 x2))) (fun O J r=>jd (Rel.old r X) (F.rel r X) (by omega) (by omega)) ?_;rintro O _ _ _ Oq r U I h_ R;replace hY:=hY.cM r (cH w) U (mC h_);have hX:=R.dK (S:=FF) r.cI (mN h_);obtain⟨C0,C1,C2,C3,C4,C5,C6,C7,rfl⟩:=hX.shape;refine cE I (fun _ J v V=>cd V (Nf J V) v ((ratio x1 x2) / (ratio y1 y2))) (fun O J r=>Ma (Rel.old r (cH w)) (hX.rel r (cH w)) (hY.rel r (cH w)) (by omega) (by omega) h) ?_;rintro O _ _ _ Ox r U I h_ R;have hP:=R.dK (S:=FF) r.cI (mN h_);obtain⟨E0,E1,E2,E3,E4,E5,E6,E7,rfl⟩:=hP.shape;refine cE I (fun _ J v V=>dA V (Nf J V) v ((ratio x1 x2) / (ratio y1 y2))) (fun O J r=>rW (Rel.old r (cH w)) (hP.rel r (cH w)) (by omega)) ?_;rintro O _ _ _ PX r U I h_ R;have hC:=R.dK (S:=FF) r.cI (mN h_);obtain⟨F0,F1,F2,F3,F4,F5,F6,F7,rfl⟩:=hC.shape;exact rtn I fun IR we re=>.inr ⟨h,_,rfl,hC.out re (cH w)⟩
theorem NB{n:Int}(L: -9223372036854775808<=n)(G:n<=9223372036854775807):rl (n:Rat)<=2:=by
 have:=BE L G;unfold rl;rw[Rat.num_intCast,Rat.den_intCast];have:ln 1=1:=by decide
 omega
theorem H4(n:Int)(w:World)(L: -9223372036854775808<=n)(G:n<=9223372036854775807):
  eI PG F'.xV #[.int .i64 n] w (eO w fun v' V=>dA V (Nf w V) v' (n:Rat)):=by
 have I:=bR w;have hl:=NB L G;refine Ac (by simp) ?_;refine cJ (cE I (fun _ J v V=>cd V (Nf J V) v (n)) (fun O J r=>rX n J L G) ?_);rintro O _ _ _ Oo r U I h_ R;have hX:=R.dK (S:=FF) r.cI (mN h_);obtain⟨A0,A1,A2,A3,A4,A5,A6,A7,rfl⟩:=hX.shape;refine cJ (cE I (fun _ J v V=>dA V (Nf J V) v (n)) (fun O J r=>rW (Rel.old r (cH w)) (hX.rel r (cH w)) (by omega)) ?_);rintro O _ _ _ Od r U I h_ R;have hC:=R.dK (S:=FF) r.cI (mN h_);obtain⟨C0,C1,C2,C3,C4,C5,C6,C7,rfl⟩:=hC.shape;exact rtn I fun IR we re=>hC.out re (cH w)
theorem NC(ad:Addr)(i j:Nat):(ad.add i).add j=ad.add (i+j):=by
 unfold Addr.add;split<;>split<;>simp_all<;>omega
def nM(w:World)(S:Nat->Prop)(v:Value)(q:Rat):Prop:=∃a b,iM w S v a b/\ratio a b=q/\ln a.natAbs<=100000/\ln b.natAbs<=100000
theorem nM.cK{V:World}{v:Value}(h:nM w S v q)(D:∀g,S g->V.heap[g]? =w.heap[g]?):nM V S v q:=by
 obtain⟨a,b,L,G⟩:=h;exact⟨a,b,L.cK D,G⟩
theorem nM.cN{S':Nat->Prop}{v:Value}(h:nM w S v q)(D:∀g,S g->S' g):nM w S' v q:=by
 obtain⟨a,b,L,G⟩:=h;exact⟨a,b,L.cN D,G⟩
theorem nM.shape{v:Value}(h:nM w S v q):∃b a n c b2 a2 n2 c2,v= .agg #[.bool b,.slice a n c,.bool b2,.slice a2 n2 c2]:=by
 obtain⟨a,b,L,_⟩:=h;exact L.shape
theorem pJ(q:Rat):ratio q.num q.den=q:=by rw[ratio,aH (ga q),Rat.num_divInt_den]
theorem dA.v{v:Value}(h:dA w S v q)(hl:rl q<=100000):nM w S v q:=
 ⟨_,_,h.r,pJ q,aW (gG q) hl,aW (fR q) hl⟩
section
variable{S S':Nat->Prop}{H:Hp}{nx:Nat}{iv K:Iv}{B:Nat}{w J V:World}{O:Nat->Sx.dq}{v:Value}{q:Rat}
end
theorem MO{v:Value}(X:Old S w)(hp:nM w S v p)(hq:nM w S u q):eI PG F'.wI #[v,u] w (eO w fun v' V=>dA V (Nf w V) v' (p+q)):=by
 obtain⟨a,b,L,rfl,G,N⟩:=hp;obtain⟨c,d,k1,rfl,k2,k3⟩:=hq;exact Mv X L k1 G N k2 k3
theorem wV{v:Value}(X:Old S w)(hp:nM w S v p)(hq:nM w S u q):eI PG F'.wH #[v,u] w (eO w fun v' V=>dA V (Nf w V) v' (p*q)):=by
 obtain⟨a,b,L,rfl,G,N⟩:=hp;obtain⟨c,d,k1,rfl,k2,k3⟩:=hq;exact Mw X L k1 G N k2 k3
theorem MM{v:Value}(X:Old S w)(hp:nM w S v p)(hq:nM w S u q):eI PG F'.wK #[v,u] w (eO w fun v' V=>dA V (Nf w V) v' (p-q)):=by
 obtain⟨a,b,L,rfl,G,N⟩:=hp;obtain⟨c,d,k1,rfl,k2,k3⟩:=hq;exact My X L k1 G N k2 k3
theorem H5{v:Value}(X:Old S w)(hp:nM w S v p)(hq:nM w S u q):eI PG F'.wG #[v,u] w (eO w fun v' _=>v'= .int .i64 (rs (p-q))):=by
 obtain⟨a,b,L,rfl,G,N⟩:=hp;obtain⟨c,d,k1,rfl,k2,k3⟩:=hq;exact Mz X L k1 G N k2 k3
theorem aAc{v:Value}(X:Old S w)(hp:nM w S v p)(hq:nM w S u q):eI PG F'.wJ #[v,u] w (eO w fun v' V=>(q=0/\v'= .tuple #[Mp,.int .i64 9])\/(q≠0/\∃r,v'= .tuple #[r,.int .i64 0]/\dA V (Nf w V) r (p / q))):=by
 obtain⟨a,b,L,rfl,G,N⟩:=hp;obtain⟨c,d,k1,rfl,k2,k3⟩:=hq;exact NA X L k1 G N k2 k3
end Go.Ex
namespace Go.Ex
theorem aAT(q:Rat):rs (-q)= -rs q:=by rw[rs,rs,Rat.neg_num,Int.sign_neg]
end Go.Ex
namespace Go.Ex
open Go Go.Sx Go.Proofs
variable{b:Bool}{x z:Int}{W:List Int}{ls:List Nat}{S:Nat->Prop}{lv:Value}{w:World}
def fk(w:World)(S:Nat->Prop)(v:Value)(k:Nat)(z:Int):Prop:=∃neg ls,vA w S v neg ls/\sg neg (val ls)=z/\ls.length<=k
theorem fk.cK{V:World}{v:Value}{k:Nat}(h:fk w S v k z)(D:∀g,S g->V.heap[g]? =w.heap[g]?):fk V S v k z:=by
 obtain⟨n,l,L,G⟩:=h;exact⟨n,l,L.cK D,G⟩
theorem fk.cN{S':Nat->Prop}{v:Value}{k:Nat}(h:fk w S v k z)(D:∀g,S g->S' g):fk w S' v k z:=by
 obtain⟨n,l,L,G⟩:=h;exact⟨n,l,L.cN D,G⟩
theorem fk.r{v:Value}{k:Nat}(h:fk w S v k z):jx w S v z:=by
 obtain⟨n,l,L,G,_⟩:=h;exact⟨n,l,L,G⟩
theorem fk.shape{v:Value}{k:Nat}(h:fk w S v k z):∃b a n c,v= .agg #[.bool b,.slice a n c]:=h.r.shape
theorem dR.l{v:Value}{k:Nat}(h:dR w S v z)(D:ln z.natAbs<=k):fk w S v k z:=by
 obtain⟨l,L,G,N⟩:=h;obtain⟨_,_,hl⟩:=L;have:=eW hl.lm G;rw[N]at this;exact⟨_,l,⟨_,‹_›,hl⟩,by rw[N,DE],by omega⟩
section
variable{S S':Nat->Prop}{H:Hp}{nx:Nat}{iv K:Iv}{B:Nat}{w J V:World}{O:Nat->Sx.dq}{v:Value}{k:Nat}{z:Int}
theorem fk.rel(h:fk w (Cv S B iv) v k z)(r:Rel H nx iv B w O J)(X:∀g,S g->g<B):fk J (Cv S B iv) v k z:=h.cK fun _ Y=>Rel.same r X Y
theorem fk.cM(h:fk w (Cv S B iv) v k z)(r:Rel H nx iv B w O J)(X:∀g,S g->g<B)(U:Ext J V)(hm:∀p,p∈iv->p∈K):fk V (Cv S B K) v k z:=
 ((h.rel r X).cK fun g Y=>U.block g (Rel.old r X g Y)).cN fun _ Y=>Y.mono hm
end
section
variable{S S':Nat->Prop}{H:Hp}{nx:Nat}{iv K:Iv}{B:Nat}{w J V:World}{O:Nat->Sx.dq}{v:Value}{W:List Int}
theorem eF.rel(h:eF w (Cv S B iv) v W)(r:Rel H nx iv B w O J)(X:∀g,S g->g<B):eF J (Cv S B iv) v W:=eF.cK h fun _ Y=>Rel.same r X Y
theorem eF.cM(h:eF w (Cv S B iv) v W)(r:Rel H nx iv B w O J)(X:∀g,S g->g<B)(U:Ext J V)(hm:∀p,p∈iv->p∈K):eF V (Cv S B K) v W:=
 (eF.cK (h.rel r X) fun g Y=>U.block g (Rel.old r X g Y)).cN fun _ Y=>Y.mono hm
theorem eF.dK(h:eF V (Nf J V) v W)(hB:B<=J.heap.size)(hm:(J.heap.size,V.heap.size)∈iv):eF V (Cv S B iv) v W:=eF.cN h fun _ Y=>Y.dK hB hm
end
def sgn(b:Bool):Int:=if b then -1 else 1
theorem aAr(b:Bool):sgn b=1\/sgn b= -1:=by cases b<;>simp[sgn]
theorem OL(b:Bool)(n:Nat):sgn b*(n:Int)=sg b n:=by cases b<;>simp[sgn,sg]
theorem Hy{v:Value}{neg:Bool}(X:Old S w)(h:vA w S v neg ls)(hl:ls.length<=40000000):
  eI PG F'.nI #[v] w (eO w fun v' V=>eF V (Nf w V) v' (eK (sgn neg) ls)):=by
 obtain⟨lv,rfl,hL⟩:=h;have QG:=hL.lm;obtain⟨a,c,rfl,hc,PT⟩:=hL.sl;refine wS (by simp) ?_
 cases neg with
 |true=>
  refine⟨Nat×World,fun z=>⟨[(1,pP 0 0),(3,.o (.v (.int .i64 (-1)))),(4,.o (.w 1 (2*z.1))),(5,iZ z.1)],[(1,.vec T.int 1 ((eK (-1) (ls.take z.1)).map (Value.int .i64))),(0,.box T.Int [.v (.bool true),.v (.slice a ls.length c)])],2,[],z.2⟩,fun z=>ls.length-z.1,
   fun z=>dw w.heap.size w z.2/\z.1<=ls.length,?_,?_⟩
  ·intro O J r
   exact⟨(0,J),⟨r.cU,by simp⟩,Sub.nil 4 T.int 1 rfl (by simp[jw,SV.sc,At.sc,fW]) r fun Id r1=>
    Sub.gn [] r1⟩
  rintro⟨i,w1⟩ ⟨I,A⟩;dsimp only at I A ⊢;have Sr:((eK (-1) (ls.take i)).map (Value.int .i64)).length=2*i:=by rw[aJ,im,aX];omega
  refine dQ.mk ?_ ?_<;>intro h
  ·have h:i<ls.length:=by simpa using h
   obtain⟨x,F⟩:∃x,ls[i]? =some x:=⟨_,aA h⟩
   have Qa:=QG x (aC F);obtain⟨ad,rfl,q1,q2⟩:=PT i x F;have UU:eK (-1) (ls.take (i+1))=eK (-1) (ls.take i)++[(-1)*((x % 65536:Nat):Int),(-1)*((x / 65536:Nat):Int)]:=by rw[List.take_add_one,F,Option.toList_some,pO];rfl
   refine⟨ad,rfl,by omega,.int .u32 x,fun O J r=>?_,?_⟩
   ·rw[aE,aV];exact j0 X I r q1 q2
   refine⟨(x:Int),wo,by decide,((x % 65536:Nat):Int),rfl,(-1)*((x % 65536:Nat):Int),wo,by decide,((x / 65536:Nat):Int),by rw[show (x:Int).tdiv 65536=((x / 65536:Nat):Int)from rfl,wrap64]<;>omega,(-1)*((x / 65536:Nat):Int),wo,?_⟩;refine .inl ?_;refine⟨by rw[Sr,aV],by omega,by unfold maxLen;omega,((i+1:Nat):Int),wo,?_⟩;intro GT w3 E;have TW:(eK (-1) (ls.take (i+1))).map (Value.int .i64)=(eK (-1) (ls.take i)).map (Value.int .i64)++[.int .i64 ((-1)*((x % 65536:Nat):Int)),.int .i64 ((-1)*((x / 65536:Nat):Int))]:=by
    rw[UU];simp
   exact⟨(i+1,w3),⟨I.tr E.cU,by dsimp only;omega⟩,Sub.gn [(1,3)] E ⟨by dsimp only;rw[TW];rfl,rfl,trivial⟩,by dsimp only;omega⟩
  have h:i=ls.length:=by
   have:¬i<ls.length:=by simpa using h
   omega
  subst h;rw[bA]at Sr ⊢;intro IR we re;have Oa:=re.Ek (id:=1) (m:=2*ls.length) rfl (by rw[Sr,aV]) (by decide);have Pp:=rZ Oa (by rw[im]) (by unfold maxLen;omega);refine⟨_,rfl,I.tr re.cU,eF.cN Pp fun g Y=>.inr ?_⟩;have:=ownsRow.low Oa g Y;exact this
 |false=>
  refine⟨Nat×World,fun z=>⟨[(1,pP 0 0),(3,.o (.v (.int .i64 (1)))),(4,.o (.w 1 (2*z.1))),(5,iZ z.1)],[(1,.vec T.int 1 ((eK (1) (ls.take z.1)).map (Value.int .i64))),(0,.box T.Int [.v (.bool false),.v (.slice a ls.length c)])],2,[],z.2⟩,fun z=>ls.length-z.1,
   fun z=>dw w.heap.size w z.2/\z.1<=ls.length,?_,?_⟩
  ·intro O J r
   exact⟨(0,J),⟨r.cU,by simp⟩,Sub.nil 4 T.int 1 rfl (by simp[jw,SV.sc,At.sc,fW]) r fun Id r1=>
    Sub.gn [] r1⟩
  rintro⟨i,w1⟩ ⟨I,A⟩;dsimp only at I A ⊢;have Sr:((eK (1) (ls.take i)).map (Value.int .i64)).length=2*i:=by rw[aJ,im,aX];omega
  refine dQ.mk ?_ ?_<;>intro h
  ·have h:i<ls.length:=by simpa using h
   obtain⟨x,F⟩:∃x,ls[i]? =some x:=⟨_,aA h⟩
   have Qa:=QG x (aC F);obtain⟨ad,rfl,q1,q2⟩:=PT i x F;have UU:eK (1) (ls.take (i+1))=eK (1) (ls.take i)++[(1)*((x % 65536:Nat):Int),(1)*((x / 65536:Nat):Int)]:=by rw[List.take_add_one,F,Option.toList_some,pO];rfl
   refine⟨ad,rfl,by omega,.int .u32 x,fun O J r=>?_,?_⟩
   ·rw[aE,aV];exact j0 X I r q1 q2
   refine⟨(x:Int),wo,by decide,((x % 65536:Nat):Int),rfl,(1)*((x % 65536:Nat):Int),wo,by decide,((x / 65536:Nat):Int),by rw[show (x:Int).tdiv 65536=((x / 65536:Nat):Int)from rfl,wrap64]<;>omega,(1)*((x / 65536:Nat):Int),wo,?_⟩;refine .inl ?_;refine⟨by rw[Sr,aV],by omega,by unfold maxLen;omega,((i+1:Nat):Int),wo,?_⟩;intro GT w3 E;have TW:(eK (1) (ls.take (i+1))).map (Value.int .i64)=(eK (1) (ls.take i)).map (Value.int .i64)++[.int .i64 ((1)*((x % 65536:Nat):Int)),.int .i64 ((1)*((x / 65536:Nat):Int))]:=by
    rw[UU];simp
   exact⟨(i+1,w3),⟨I.tr E.cU,by dsimp only;omega⟩,Sub.gn [(1,3)] E ⟨by dsimp only;rw[TW];rfl,rfl,trivial⟩,by dsimp only;omega⟩
  have h:i=ls.length:=by
   have:¬i<ls.length:=by simpa using h
   omega
  subst h;rw[bA]at Sr ⊢;intro IR we re;have Oa:=re.Ek (id:=1) (m:=2*ls.length) rfl (by rw[Sr,aV]) (by decide);have Pp:=rZ Oa (by rw[im]) (by unfold maxLen;omega);refine⟨_,rfl,I.tr re.cU,eF.cN Pp fun g Y=>.inr ?_⟩;have:=ownsRow.low Oa g Y;exact this
def Bx(W:List Int)(n:Nat)(z:Int):Prop:=dU W=z/\W.length<=n/\(∀c∈W,-65535<=c/\c<=65535)/\(0<=z->∀c∈W,0<=c)
theorem By(s:Int)(h:val ls=0):∀c∈eK s ls,c=0:=fun c hc=>by
 induction ls with
 |nil=>cases hc
 |cons l r ih=>
  have h:l+4294967296*val r=0:=h;have L:l=0:=by omega
  have G:val r=0:=by omega
  subst L;rw[eK]at hc;rcases List.mem_cons.1 hc with rfl|hc
  ·simp
  rcases List.mem_cons.1 hc with rfl|hc
  ·simp
  ·exact ih G hc
theorem fk.Gl{v:Value}{k:Nat}(h:fk w S v k z):∃b a ls c,v= .agg #[.bool b,.slice a ls.length c]/\dT w S (.slice a ls.length c) ls/\sg b (val ls)=z/\ls.length<=k:=by
 obtain⟨b,ls,⟨lv,rfl,hl⟩,hz,D⟩:=h;obtain⟨a,c,rfl,_⟩:=hl.sl;exact⟨b,a,ls,c,rfl,hl,hz,D⟩
theorem fk.ln{v:Value}{k:Nat}(h:fk w S v k z):ln z.natAbs<=k:=by
 obtain⟨b,a,ls,c,_,hl,hz,D⟩:=h.Gl;rw[<-hz,tN];exact Mu hl.lm D
theorem fk.neg{k:Nat}(h:fk w S (.agg #[.bool b,lv]) k z):fk w S (.agg #[.bool (!b),lv]) k (-z):=by
 obtain⟨b,ls,⟨lv,e,hl⟩,hz,D⟩:=h;simp only[Value.agg.injEq,Array.mk.injEq,List.cons.injEq,Value.bool.injEq,and_true]at e;obtain⟨rfl,rfl⟩:=e;refine⟨_,ls,⟨_,rfl,hl⟩,?_,D⟩;rw[<-hz]
 cases b<;>simp[sg]
theorem fk.abs{k:Nat}(h:fk w S (.agg #[.bool b,lv]) k z):fk w S (.agg #[.bool false,lv]) k (z.natAbs:Int):=by
 obtain⟨b,ls,⟨lv,e,hl⟩,hz,D⟩:=h;simp only[Value.agg.injEq,Array.mk.injEq,List.cons.injEq,Value.bool.injEq,and_true]at e;obtain⟨rfl,rfl⟩:=e;exact⟨_,ls,⟨_,rfl,hl⟩,by rw[<-hz,tN];rfl,D⟩
theorem r9{v:Value}{k:Nat}(X:Old S w)(h:fk w S v k z)(D:k<=40000000):
  eI PG F'.nI #[v] w (eO w fun v' V=>∃W,eF V (Nf w V) v' W/\Bx W (2*k) z):=by
 obtain⟨b,ls,A,hz,hl⟩:=h;have QG:Lm ls:=by obtain⟨_,_,h⟩:=A;exact h.lm
 refine(Hy X A (by omega)).mono fun _ V ⟨v2,e1,e2,e3⟩=>⟨v2,e1,e2,_,e3,by rw[Dn,OL,hz],by rw[im];omega,AN (aAr b) QG,fun h0=>?_⟩
 cases b with
 |false=>exact fun c hc=>(yC QG c hc).1
 |true=>
  rw[MW]at hz;exact fun c hc=>by rw[By _ (show val ls=0 by omega) c hc];decide
theorem Hz{v:Value}{n:Nat}(X:Old S w)(h:eF w S v W)(hb:Bx W n z)(R:n<=100000000):
  eI PG F'.kZ #[v] w (eO w fun v' V=>dR V (Nf w V) v' z):=by
 have:=xA X h (fun c hc=>by have:=hb.2.2.1 c hc;omega) (by have:=hb.2.1;omega);rw[hb.1]at this;exact this
theorem ND{v:Value}{k:Nat}(X:Old S w)(F:fk w S v k x)(D:k<=40000000):
  eI PG F'.Cr #[v] w (eO w fun v' V=>dR V (Nf w V) v' x):=by
 have I:=bR w;replace F:=F.cN (S':=Cv S w.heap.size []) fun _ h=>.inl h;obtain⟨b1,a1,n1,c1,rfl⟩:=F.shape;refine EF (by simp) ?_;refine cJ (cE I (fun _ J v V=>∃W,eF V (Nf J V) v W/\Bx W (2*k) (x)) (fun O J r=>r9 (Rel.old r X) (F.rel r X) (by omega)) ?_);rintro O _ _ _ Oo r U I h_ ⟨W,k1,bcs⟩;have hc:=k1.dK (S:=FF) r.cI (mN h_);obtain⟨acs,ccs,rfl,lcs⟩:=hc.shape;refine cJ (cE I (fun _ J v V=>dR V (Nf J V) v (x)) (fun O J r=>Hz (Rel.old r (cH w)) (hc.rel r (cH w)) bcs (by omega)) ?_);rintro O _ _ _ Od r U I h_ R;have hC:=R.dK (S:=FF) r.cI (mN h_);obtain⟨A0,A1,A2,A3,rfl⟩:=hC.shape;exact rtn I fun IR we re=>hC.out re (cH w)
theorem mM{v:Value}{k:Nat}(X:Old S w)(F:fk w S v k x)(D:k<=40000000):
  eI PG F'.xd #[v] w (eO w fun v' V=>dR V (Nf w V) v' (-x)):=by
 have I:=bR w;replace F:=F.cN (S':=Cv S w.heap.size []) fun _ h=>.inl h;obtain⟨b1,a1,n1,c1,rfl⟩:=F.shape;replace F:=F.neg;refine Ao (by simp) ?_;refine cJ (cE I (fun _ J v V=>dR V (Nf J V) v (-x)) (fun O J r=>ND (Rel.old r X) (F.rel r X) D) ?_);rintro O _ _ _ Oo r U I h_ R;have hC:=R.dK (S:=FF) r.cI (mN h_);obtain⟨A0,A1,A2,A3,rfl⟩:=hC.shape;exact rtn I fun IR we re=>hC.out re (cH w)
theorem yt{v:Value}{k:Nat}(X:Old S w)(F:fk w S v k x)(D:k<=40000000):
  eI PG F'.AV #[v] w (eO w fun v' V=>dR V (Nf w V) v' ((x.natAbs:Int))):=by
 have I:=bR w;replace F:=F.cN (S':=Cv S w.heap.size []) fun _ h=>.inl h;obtain⟨b1,a1,n1,c1,rfl⟩:=F.shape;replace F:=F.abs;refine Bi (by simp) ?_;refine cJ (cE I (fun _ J v V=>dR V (Nf J V) v ((x.natAbs:Int))) (fun O J r=>ND (Rel.old r X) (F.rel r X) D) ?_);rintro O _ _ _ Oo r U I h_ R;have hC:=R.dK (S:=FF) r.cI (mN h_);obtain⟨A0,A1,A2,A3,rfl⟩:=hC.shape;exact rtn I fun IR we re=>hC.out re (cH w)
theorem aAK{v:Value}{i:Nat}(X:Old S w)(h:eF w S v W):
  eI PG F'.GC #[v,.int .i64 i] w (eO w fun v' _=>v'= .int .i64 (W.getD i 0)):=by
 obtain⟨a,c,rfl,hc⟩:=h.shape;refine GG (by simp) ?_;refine dQ.mk ?_ ?_<;>intro A
 ·have A:i<W.length:=by simpa using A
  obtain⟨x,F⟩:∃x,W[i]? =some x:=⟨_,aA A⟩
  obtain⟨ad,rfl,q1,q2⟩:=h.load F;refine⟨ad,rfl,by omega,.int .i64 x,fun O J r=>?_,?_⟩
  ·rw[aE];exact j0 X dw.refl r q1 q2
  intro O V r;exact⟨_,rfl,r.cU,by rw[List.getD,F];rfl⟩
 ·have A:W.length<=i:=by
   have:¬i<W.length:=by simpa using A
   omega
  intro O V r;exact⟨_,rfl,r.cU,by rw[List.getD,List.getElem?_eq_none A];rfl⟩
theorem val_zero(h:∀x∈ls,x=0):val ls=0:=by
 induction ls with
 |nil=>rfl
 |cons l r ih=>rw[val,h l aF,ih fun x F=>h x (aB _ F)]
theorem OM{x:Nat}(h:x∈ls)(F:x≠0):0<val ls:=by
 induction ls with
 |nil=>cases h
 |cons l r ih=>
  rw[val];rcases List.mem_cons.1 h with rfl|h
  ·omega
  ·have:=ih h;omega
theorem gu{v:Value}(X:Old S w)(F:jx w S v x):
  eI PG F'.AS #[v] w (eO w fun v' _=>v'= .int .i64 x.sign):=by
 obtain⟨b,ls,⟨lv,rfl,L⟩,hz⟩:=F;obtain⟨a,c,rfl,_,ha⟩:=L.sl;have hle1:=L.le;refine Bg (by simp) ?_
 refine⟨Nat×World,fun z=>⟨[(1,pP 0 0),(3,iZ z.1)],[(0,.box T.Int [.v (.bool b),.v (.slice a ls.length c)])],1,[],z.2⟩,fun z=>ls.length-z.1,
  fun z=>z.1<=ls.length/\dw w.heap.size w z.2/\∀x∈ls.take z.1,x=0,?_,?_⟩
 ·intro O J r;exact⟨(0,J),⟨by simp,r.cU,by simp⟩,Sub.gn [] r⟩
 rintro⟨i,w1⟩ ⟨A,I,ht⟩;dsimp only at A I ht ⊢;refine dQ.mk ?_ ?_<;>intro OZ
 ·have OZ:i<ls.length:=by simpa using OZ
  obtain⟨y,hy⟩:∃x,ls[i]? =some x:=⟨_,aA OZ⟩
  obtain⟨ad,rfl,q1,q2⟩:=ha i y hy;refine⟨ad,rfl,by omega,.int .u32 y,fun O J r=>by rw[aE,aV];exact j0 X I r q1 q2,?_⟩;refine dQ.mk ?_ ?_<;>intro Oe
  ·have Oe:y≠0:=fun h=>by rw[h]at Oe;simp at Oe
   have hp:=OM (aC hy) Oe
   cases b with
   |true=>
    rw[MW]at hz;intro O V r;exact⟨_,rfl,I.tr r.cU,by rw[bh (by omega)];rfl⟩
   |false=>
    rw[aAd]at hz;intro O V r;exact⟨_,rfl,I.tr r.cU,by rw[bq (by omega)];rfl⟩
  have Oe:y=0:=by simpa using Oe
  subst Oe;have TK:∀x∈ls.take (i+1),x=0:=fun x F=>by
   rw[List.take_add_one,hy]at F;rcases bB.1 F with F|F
   ·exact ht x F
   ·simpa using F
  refine⟨((i+1:Nat):Int),wo,?_⟩;intro GT w3 E;exact⟨(i+1,w3),⟨OZ,I.tr E.cU,TK⟩,Sub.gn [] E,by dsimp only;omega⟩
 have OZ:i=ls.length:=by
  have:¬i<ls.length:=by simpa using OZ
  omega
 subst OZ;rw[bA]at ht;intro O V r;refine⟨_,rfl,I.tr r.cU,?_⟩;rw[<-hz,val_zero ht]
 cases b<;>rfl
theorem Bx.at{n:Nat}(h:Bx W n z)(i:Nat): -65535<=W.getD i 0/\W.getD i 0<=65535:=by
 rw[List.getD]
 cases hj:W[i]? with
 |none=>simp
 |some d=>exact h.2.2.1 d (aC hj)
end Go.Ex
namespace Go.Sx
open Go Go.Ex Go.Proofs
variable{W:List Int}{O:Nat->Sx.dq}
theorem Rel.ON{H:Hp}{nx:Nat}{iv:Iv}{B:Nat}{w J:World}(r:Rel H nx iv B w O J){id m:Nat}(h:dG H id=some (.vec T.int 1 (W.map (Value.int .i64))))(hm:m=W.length)(hl:m<=maxLen):
  ∃S',Old S' J/\eF J S' ((SV.o (.w id m)).den O) W:=by
 have Oa:=r.Ek (m:=m) h (by rw[aJ,hm,aV]) (by decide);exact⟨_,fun g Y=>(ownsRow.low Oa g Y).2,rZ Oa hm hl⟩
end Go.Sx
namespace Go.Ex
open Go Go.Sx Go.Proofs
variable{x y:Int}{W:List Int}{S:Nat->Prop}{O:Nat->Sx.dq}{u:Value}{w:World}
theorem nO{H:Hp}{nx:Nat}{iv:Iv}{B:Nat}{J:World}(r:Rel H nx iv B w O J){id m:Nat}{z:Int}(h:dG H id=some (.vec T.int 1 (W.map (Value.int .i64))))(hm:m=W.length)(hl:m<=100000000)
  (hb:∀c∈W,-1152921504606846976<=c/\c<=1152921504606846976) (hz:dU W=z):eI PG F'.kZ #[(SV.o (.w id m)).den O] J (eO J fun v' V=>dR V (Nf J V) v' z):=by
 subst hz;obtain⟨S',L,G⟩:=r.ON h hm (by unfold maxLen;omega);exact xA L G hb (by omega)
theorem BV{v:Value}{k l:Nat}(X:Old S w)(F:fk w S v k x)(hy:fk w S u l y)(D:k<=10000000)(hl:l<=10000000):
  eI PG F'.Cq #[v,u] w (eO w fun v' V=>dR V (Nf w V) v' (x+y)):=by
 have I:=bR w;replace F:=F.cN (S':=Cv S w.heap.size []) fun _ h=>.inl h;replace hy:=hy.cN (S':=Cv S w.heap.size []) fun _ h=>.inl h;obtain⟨b1,a1,n1,c1,rfl⟩:=F.shape;obtain⟨b2,a2,n2,c2,rfl⟩:=hy.shape;refine ED (by simp) ?_;refine cR hτ dx [.x 0,.x 2,.x 1,.x 3,.x 4,.x 5] (by kernel_rfl) (by kernel_rfl) ?_;refine cE I (fun _ J v V=>∃W,eF V (Nf J V) v W/\Bx W (2*k) (x)) (fun O J r=>r9 (Rel.old r X) (F.rel r X) (by omega)) ?_;rintro O _ _ _ Oo r U I h_ ⟨ca,k1,bca⟩;replace hy:=hy.cM r X U (mC h_);have Pk:=k1.dK (S:=FF) r.cI (mN h_);obtain⟨aca,cca,rfl,lca⟩:=Pk.shape;refine cE I (fun _ J v V=>∃W,eF V (Nf J V) v W/\Bx W (2*l) (y)) (fun O J r=>r9 (Rel.old r X) (hy.rel r X) (by omega)) ?_;rintro O _ _ _ Od r U I h_ ⟨cb,k1,bcb⟩;replace Pk:=Pk.cM r (cH w) U (mC h_);have Q3:=k1.dK (S:=FF) r.cI (mN h_);obtain⟨acb,ccb,rfl,lcb⟩:=Q3.shape
 refine⟨Nat×World×Iv,fun z=>⟨[(4,pP 2 0),(5,sV aca ca.length cca),(6,sV acb cb.length ccb),(7,.o (.w 3 z.1)),(8,iZ z.1)],[(3,.vec T.int 1 (((List.range z.1).map fun j=>ca.getD j 0+cb.getD j 0).map (Value.int .i64))),(2,.box T.Int [.v (.bool false),.v (.slice none 0 0)])],4,z.2.2,z.2.1⟩,fun z=>max ca.length cb.length-z.1,
  fun z=>z.1<=max ca.length cb.length/\dw w.heap.size w z.2.1/\eF z.2.1 (Cf w z.2.2) (.slice aca ca.length cca) ca/\eF z.2.1 (Cf w z.2.2) (.slice acb cb.length ccb) cb,?_,?_⟩
 ·intro O J r
  exact⟨(0,J,Od),⟨by simp,I.tr r.cU,Pk.rel r (cH w),Q3.rel r (cH w)⟩,Sub.nil 7 T.int 1 rfl (by simp[jw,SV.sc,At.sc,fW]) r fun Id r1=>
   Sub.gn [] r1⟩
 rintro⟨i,w1,iv⟩ ⟨A,I,Pk,Q3⟩;dsimp only at A I Pk Q3 ⊢;have l1:=bca.2.1;have l2:=bcb.2.1;refine dQ.mk ?_ ?_<;>intro OZ
 ·have OZ:i<max ca.length cb.length:=by
   have:=aK OZ;omega
  have q1:=bca.at i;have q2:=bcb.at i;refine cJ (cE I (fun _ J v V=>v= .int .i64 (ca.getD i 0)) (fun O J r=>aAK (Rel.old r (cH w)) (Pk.rel r (cH w))) ?_);rintro O QF v3 Pw Oq r U I h_ rfl;replace Pk:=Pk.cM r (cH w) U (mC h_);replace Q3:=Q3.cM r (cH w) U (mC h_);refine cJ (cE I (fun _ J v V=>v= .int .i64 (cb.getD i 0)) (fun O J r=>aAK (Rel.old r (cH w)) (Q3.rel r (cH w))) ?_);rintro O _ _ _ Ox r U I h_ rfl;replace Pk:=Pk.cM r (cH w) U (mC h_);replace Q3:=Q3.cM r (cH w) U (mC h_);refine⟨ca.getD i 0+cb.getD i 0,wo,?_⟩;refine .inl ?_;refine⟨by simp,by omega,by unfold maxLen;omega,((i+1:Nat):Int),wo,?_⟩;intro GT w3 E;have TW:((List.range (i+1)).map fun j=>ca.getD j 0+cb.getD j 0).map (Value.int .i64)=((List.range i).map fun j=>ca.getD j 0+cb.getD j 0).map (Value.int .i64)++[.int .i64 (ca.getD i 0+cb.getD i 0)]:=by
   rw[bO,List.map_append,List.map_append];rfl
  exact⟨(i+1,w3,_),⟨OZ,I.tr E.cU,Pk.rel E (cH w),Q3.rel E (cH w)⟩,Sub.gn [(3,5)] E ⟨by dsimp only;rw[TW];rfl,rfl,trivial⟩,by dsimp only;omega⟩
 have OZ:i=max ca.length cb.length:=by
  have:=aG OZ;omega
 generalize PS:((List.range i).map fun j=>ca.getD j 0+cb.getD j 0)=W;have hz:dU W=x+y:=by
  rw[<-PS,AK,AM,qG ca i (by omega),qG cb i (by omega),bca.1,bcb.1]
 have hlen:i=W.length:=by rw[<-PS];simp
 have PH:∀c∈W,-1152921504606846976<=c/\c<=1152921504606846976:=fun c hc=>by
  rw[<-PS]at hc;obtain⟨j,_,rfl⟩:=aU.1 hc;have:=bca.at j;have:=bcb.at j;omega
 refine cJ (cE I (fun _ J v V=>dR V (Nf J V) v (x+y)) (fun O J r=>nO r rfl hlen (by omega) PH hz) ?_);rintro O _ _ _ Oq r U I h_ R;have hC:=R.dK (S:=FF) r.cI (mN h_);obtain⟨A0,A1,A2,A3,rfl⟩:=hC.shape;exact rtn I fun IR we re=>hC.out re (cH w)
theorem Em{v:Value}{k l:Nat}(X:Old S w)(F:fk w S v k x)(hy:fk w S u l y)(D:k<=10000000)(hl:l<=10000000):
  eI PG F'.AW #[v,u] w (eO w fun v' V=>dR V (Nf w V) v' (x-y)):=by
 have Qu:=hy.ln;have I:=bR w;replace F:=F.cN (S':=Cv S w.heap.size []) fun _ h=>.inl h;replace hy:=hy.cN (S':=Cv S w.heap.size []) fun _ h=>.inl h;obtain⟨b1,a1,n1,c1,rfl⟩:=F.shape;obtain⟨b2,a2,n2,c2,rfl⟩:=hy.shape;refine Bj (by simp) ?_;refine cR hτ dx [.x 0,.x 1,.x 2,.x 3,.x 4] (by kernel_rfl) (by kernel_rfl) ?_;refine cE I (fun _ J v V=>dR V (Nf J V) v (-y)) (fun O J r=>mM (Rel.old r X) (hy.rel r X) (by omega)) ?_;rintro O _ _ _ Oo r U I h_ R;replace F:=F.cM r X U (mC h_);have hm:=R.dK (S:=FF) r.cI (mN h_);obtain⟨A0,A1,A2,A3,rfl⟩:=hm.shape;refine cE I (fun _ J v V=>dR V (Nf J V) v (x-y)) (fun O J r=>?_) ?_
 ·have h:=BV (Rel.old r X) (F.rel r X) (((hm.rel r (cH w)).l (k:=l) (by rw[cG];exact Qu)).cN fun g Y=>Cv.false Y) D hl;rw[<-Int.sub_eq_add_neg]at h;exact h
 rintro O _ _ _ Od r U I h_ R;have hC:=R.dK (S:=FF) r.cI (mN h_);obtain⟨C0,C1,C2,C3,rfl⟩:=hC.shape;exact rtn I fun IR we re=>hC.out re (cH w)
theorem KZ{v:Value}{k l:Nat}(X:Old S w)(F:fk w S v k x)(hy:fk w S u l y)(D:k<=10000000)(hl:l<=10000000):
  eI PG F'.uY #[v,u] w (eO w fun v' _=>v'= .int .i64 (x-y).sign):=by
 have I:=bR w;replace F:=F.cN (S':=Cv S w.heap.size []) fun _ h=>.inl h;replace hy:=hy.cN (S':=Cv S w.heap.size []) fun _ h=>.inl h;obtain⟨b1,a1,n1,c1,rfl⟩:=F.shape;obtain⟨b2,a2,n2,c2,rfl⟩:=hy.shape;refine yW (by simp) ?_;refine cJ (cE I (fun _ J v V=>dR V (Nf J V) v (x-y)) (fun O J r=>Em (Rel.old r X) (F.rel r X) (hy.rel r X) D hl) ?_);rintro O _ _ _ Oo r U I h_ R;have hd:=R.dK (S:=FF) r.cI (mN h_);obtain⟨A0,A1,A2,A3,rfl⟩:=hd.shape;refine cJ (cE I (fun _ J v V=>v= .int .i64 (x-y).sign) (fun O J r=>gu (Rel.old r (cH w)) (hd.rel r (cH w)).r) ?_);rintro O _ _ _ Od r U I h_ rfl;exact rtn I fun IR we re=>rfl
end Go.Ex
namespace Go.Ex
open Go Go.Sx Go.Proofs
variable{S:Nat->Prop}
theorem Ka{x y:Int}(F: -65535<=x/\x<=65535)(hy: -65535<=y/\y<=65535):(x*y).natAbs<=4294836225:=by
 rw[Int.natAbs_mul];exact Nat.mul_le_mul (show x.natAbs<=65535 by omega) (show y.natAbs<=65535 by omega)
theorem DR{a b:List Int}{i k:Nat}(D:k<=i+1)(h:i<k\/a.length<=k):jC a b i k=gQ a b i:=by
 rcases h with h|h
 ·rw[gQ,show i+1=k by omega]
 ·obtain⟨m,hm⟩:∃m,i+1=k+m:=⟨i+1-k,by omega⟩
  rw[gQ,hm,H3 a b i k m h]
theorem jX{w:World}{v u:Value}{k l:Nat}{x y:Int}(X:Old S w)(F:fk w S v k x)(hy:fk w S u l y)(D:k<=10000000)(hl:l<=10000000):
  eI PG F'.AT #[v,u] w (eO w fun v' V=>dR V (Nf w V) v' (x*y)):=by
 have I:=bR w;replace F:=F.cN (S':=Cv S w.heap.size []) fun _ h=>.inl h;replace hy:=hy.cN (S':=Cv S w.heap.size []) fun _ h=>.inl h;obtain⟨b1,a1,n1,c1,rfl⟩:=F.shape;obtain⟨b2,a2,n2,c2,rfl⟩:=hy.shape;refine Bh (by simp) ?_;refine cR hτ dx [.x 0,.x 2,.x 1,.x 3,.x 4,.x 5] (by kernel_rfl) (by kernel_rfl) ?_;refine cE I (fun _ J v V=>∃W,eF V (Nf J V) v W/\Bx W (2*k) (x)) (fun O J r=>r9 (Rel.old r X) (F.rel r X) (by omega)) ?_;rintro O _ _ _ Oo r U I h_ ⟨ca,k1,bca⟩;replace hy:=hy.cM r X U (mC h_);have Pk:=k1.dK (S:=FF) r.cI (mN h_);obtain⟨aca,cca,rfl,lca⟩:=Pk.shape;refine cE I (fun _ J v V=>∃W,eF V (Nf J V) v W/\Bx W (2*l) (y)) (fun O J r=>r9 (Rel.old r X) (hy.rel r X) (by omega)) ?_;rintro O _ _ _ Od r U I h_ ⟨cb,k1,bcb⟩;replace Pk:=Pk.cM r (cH w) U (mC h_);have Q3:=k1.dK (S:=FF) r.cI (mN h_);obtain⟨acb,ccb,rfl,lcb⟩:=Q3.shape;have l1:=bca.2.1;have l2:=bcb.2.1
 refine⟨Nat×World,fun z=>⟨[(4,pP 2 0),(5,sV aca ca.length cca),(6,sV acb cb.length ccb),(7,.o (.w 3 z.1)),(8,iN z.1)],[(3,.vec T.int 1 (((List.range z.1).map (gQ ca cb)).map (Value.int .i64))),(2,.box T.Int [.v (.bool false),.v (.slice none 0 0)])],4,Od,z.2⟩,fun z=>ca.length+cb.length-z.1,
  fun z=>(z.1+1<=ca.length+cb.length\/z.1=0)/\dw w.heap.size w z.2/\eF z.2 (Cf w Od) (.slice aca ca.length cca) ca/\eF z.2 (Cf w Od) (.slice acb cb.length ccb) cb,?_,?_⟩
 ·intro O J r
  exact⟨(0,J),⟨by simp,I.tr r.cU,Pk.rel r (cH w),Q3.rel r (cH w)⟩,Sub.nil 7 T.int 1 rfl (by simp[jw,SV.sc,At.sc,fW]) r fun Id r1=>
   Sub.gn [] r1⟩
 rintro⟨i,w1⟩ ⟨A,I,Pk,Q3⟩;dsimp only at A I Pk Q3 ⊢;refine⟨((i+1:Nat):Int),wo,((ca.length+cb.length:Nat):Int),wo,?_⟩;refine dQ.mk ?_ ?_<;>intro OZ
 ·have OZ:i+1<ca.length+cb.length:=by
   have:=aK OZ;omega
  refine⟨(i:Int)-cb.length,wo,(i:Int)-cb.length+1,wo,?_⟩;conv=>whnf
  rw[show max 0 ((i:Int)-cb.length+1)=((i+1-cb.length:Nat):Int) by omega];obtain⟨k0,Ts⟩:∃k0,k0=i+1-cb.length:=⟨_,rfl⟩
  rw[<-Ts]
  refine⟨Nat×World,fun z=>⟨[(4,pP 2 0),(5,sV aca ca.length cca),(6,sV acb cb.length ccb),(7,.o (.w 3 i)),(8,iN i),(9,.o (.v (.int .i64 (jC ca cb i z.1)))),(10,iN z.1)],[(3,.vec T.int 1 (((List.range i).map (gQ ca cb)).map (Value.int .i64))),(2,.box T.Int [.v (.bool false),.v (.slice none 0 0)])],4,Od,z.2⟩,fun z=>i+1-z.1,
   fun z=>k0<=z.1/\z.1<=i+1/\dw w.heap.size w z.2/\eF z.2 (Cf w Od) (.slice aca ca.length cca) ca/\eF z.2 (Cf w Od) (.slice acb cb.length ccb) cb,?_,?_⟩
  ·intro O J r;refine⟨(k0,J),⟨by simp,by dsimp only;omega,I.tr r.cU,Pk.rel r (cH w),Q3.rel r (cH w)⟩,Sub.gn [] r (hE:=⟨rfl,rfl,rfl,rfl,rfl,?_,rfl,trivial⟩)⟩;dsimp only
   rw[H0 ca cb i k0 k0 (fun j hj=>by omega) (by omega) (Nat.le_refl _)];rfl
  rintro⟨j,V⟩ ⟨VT,hj1,I,Pk,Q3⟩;dsimp only at VT hj1 I Pk Q3 ⊢;conv=>whnf
  refine dQ.mk ?_ ?_<;>intro Ph
  ·have Ph:j<=i:=by
    have:=aK Ph;omega
   refine dQ.mk ?_ ?_<;>intro Wh
   ·have Wh:j<ca.length:=by
     have:=aK Wh;omega
    obtain⟨p,hp⟩:∃p,ca[j]? =some p:=⟨_,aA Wh⟩
    obtain⟨q,hq⟩:∃q,cb[i-j]? =some q:=⟨_,aA (by omega)⟩
    obtain⟨ad,rfl,q1,q2⟩:=Pk.load hp;obtain⟨ad2,rfl,q3,q4⟩:=Q3.load hq;have e1:ca.getD j 0=p:=by rw[List.getD,hp];rfl
    have e2:cb.getD (i-j) 0=q:=by rw[List.getD,hq];rfl
    have e3:jC ca cb i (j+1)=jC ca cb i j+p*q:=by rw[jC,e1,if_pos Ph,e2]
    have m1:=bca.at j;have m2:=bcb.at (i-j);rw[e1]at m1;rw[e2]at m2;have m3:=Ka m1 m2;have m4:=mb (a:=ca) (b:=cb) (i:=i) bca.2.2.1 bcb.2.2.1 j;refine cR hτ dx [.x 0,.x 1,.x 2,.x 3,.x 4,.x 5,.x 6,.x 7,.x 8,.x 9,.x 10,.x 11,.x 12,.x 13] (by kernel_rfl) (by kernel_rfl) ?_;refine⟨ad,rfl,by omega,.int .i64 p,fun O J r=>?_,?_⟩
    ·rw[aE,cL (w:=V) (V:=J) (by rw[dF];exact Rel.same (S:=FF) r (cH w) q1)];exact q2
    refine⟨((i-j:Nat):Int),wo,ad2,rfl,by omega,.int .i64 q,fun O J r=>?_,?_⟩
    ·rw[aE,cL (w:=V) (V:=J) (by rw[dF];exact Rel.same (S:=FF) r (cH w) q3)];exact q4
    refine⟨p*q,wo,jC ca cb i (j+1),by rw[e3,wrap64]<;>omega,((j+1:Nat):Int),wo,?_⟩;intro GT w3 E;exact⟨(j+1,w3),⟨by dsimp only;omega,by dsimp only;omega,I.tr E.cU,Pk.rel E (cH w),Q3.rel E (cH w)⟩,Sub.gn [] E,by dsimp only;omega⟩
   have Wh:ca.length<=j:=by
    have:=aG Wh;omega
   rw[DR hj1 (.inr Wh)];have m4:=mb (a:=ca) (b:=cb) (i:=i) bca.2.2.1 bcb.2.2.1 (i+1);refine .inl ?_;refine⟨by simp,by omega,by unfold maxLen;omega,((i+1:Nat):Int),wo,?_⟩;intro GT w3 E;have TW:((List.range (i+1)).map (gQ ca cb)).map (Value.int .i64)=((List.range i).map (gQ ca cb)).map (Value.int .i64)++[.int .i64 (gQ ca cb i)]:=by
    rw[bO,List.map_append,List.map_append];rfl
   exact⟨(i+1,w3),⟨.inl OZ,I.tr E.cU,Pk.rel E (cH w),Q3.rel E (cH w)⟩,Sub.gn [(3,5)] E ⟨by dsimp only;rw[TW];rfl,rfl,trivial⟩,by dsimp only;omega⟩
  have Ph:i<j:=by
   have:=aG Ph;omega
  rw[DR hj1 (.inl Ph)];have m4:=mb (a:=ca) (b:=cb) (i:=i) bca.2.2.1 bcb.2.2.1 (i+1);refine .inl ?_;refine⟨by simp,by omega,by unfold maxLen;omega,((i+1:Nat):Int),wo,?_⟩;intro GT w3 E;have TW:((List.range (i+1)).map (gQ ca cb)).map (Value.int .i64)=((List.range i).map (gQ ca cb)).map (Value.int .i64)++[.int .i64 (gQ ca cb i)]:=by
   rw[bO,List.map_append,List.map_append];rfl
  exact⟨(i+1,w3),⟨.inl OZ,I.tr E.cU,Pk.rel E (cH w),Q3.rel E (cH w)⟩,Sub.gn [(3,5)] E ⟨by dsimp only;rw[TW];rfl,rfl,trivial⟩,by dsimp only;omega⟩
 have OZ:ca.length+cb.length<=i+1:=by
  have:=aG OZ;omega
 generalize PS:((List.range i).map (gQ ca cb))=W;have hz:dU W=x*y:=by
  rw[<-PS,AK,Lz ca cb i OZ,bca.1,bcb.1]
 have hlen:i=W.length:=by rw[<-PS];simp
 have PH:∀c∈W,-1152921504606846976<=c/\c<=1152921504606846976:=fun c hc=>by
  rw[<-PS]at hc;obtain⟨j,hj,rfl⟩:=aU.1 hc;have hj:=List.mem_range.1 hj;have:=mb (a:=ca) (b:=cb) (i:=j) bca.2.2.1 bcb.2.2.1 (j+1);rw[gQ];omega
 refine cJ (cE I (fun _ J v V=>dR V (Nf J V) v (x*y)) (fun O J r=>nO r rfl hlen (by omega) PH hz) ?_);rintro O _ _ _ Oq r U I h_ R;have hC:=R.dK (S:=FF) r.cI (mN h_);obtain⟨A0,A1,A2,A3,rfl⟩:=hC.shape;exact rtn I fun IR we re=>hC.out re (cH w)
end Go.Ex
namespace Go.Ex
theorem Jb{b r r2 q Do n c:Int}(h:Do=b*q+r)(hr:r*65536+c=b*n+r2):c+65536*Do=b*(n+65536*q)+r2:=by
 rw[h,Int.mul_add,Int.mul_add,Int.mul_left_comm b 65536 q];omega
theorem Kx{x y Q EQ:Int}(hy:y≠0)(h:(x.natAbs:Int)=(y.natAbs:Int)*Q+EQ)(h0:0<=EQ)(L:EQ<(y.natAbs:Int)):
  (if x<0/\0<EQ then(if (x<0)↔(y<0)then(Q+1)else -(Q+1))else(if (x<0)↔(y<0)then Q else -Q))=x / y/\(if x<0/\0<EQ then(y.natAbs:Int)-EQ else EQ)=x % y:=by
 have key:∀q r:Int,r+y*q=x->0<=r->r<(y.natAbs:Int)->q=x / y/\r=x % y:=by
  intro q r e1 e2 e3;have m:x % y=r:=by
   rw[<-e1,Int.add_mul_emod_self_left];rcases Int.lt_or_lt_of_ne hy with h|h
   ·rw[<-Int.emod_neg,Int.emod_eq_of_lt e2 (by omega)]
   ·exact Int.emod_eq_of_lt e2 (by omega)
  have d:=Int.mul_ediv_add_emod x y;rw[m]at d;exact⟨(Int.eq_of_mul_eq_mul_left hy (by omega)),m.symm⟩
 by_cases F:x<0
 ·have ex:(x.natAbs:Int)= -x:=by omega
  by_cases hy':y<0
  ·have ey:(y.natAbs:Int)= -y:=by omega
   rw[ex,ey,Int.neg_mul]at h;by_cases hR:0<EQ
   ·rw[if_pos (show x<0/\0<EQ from⟨F,hR⟩),if_pos (show x<0/\0<EQ from⟨F,hR⟩),if_pos (show (x<0)↔(y<0) by simp[F,hy'])];exact key _ _ (by rw[Int.mul_add,Int.mul_one];omega) (by omega) (by omega)
   ·rw[aH (show ¬(x<0/\0<EQ) by omega),aH (show ¬(x<0/\0<EQ) by omega),if_pos (show (x<0)↔(y<0) by simp[F,hy'])];exact key _ _ (by omega) h0 L
  ·have ey:(y.natAbs:Int)=y:=by omega
   rw[ex,ey]at h;have R:¬((x<0)↔(y<0)):=by simp[F,hy']
   by_cases hR:0<EQ
   ·rw[if_pos (show x<0/\0<EQ from⟨F,hR⟩),if_pos (show x<0/\0<EQ from⟨F,hR⟩),aH R];exact key _ _ (by rw[Int.mul_neg,Int.mul_add,Int.mul_one];omega) (by omega) (by omega)
   ·rw[aH (show ¬(x<0/\0<EQ) by omega),aH (show ¬(x<0/\0<EQ) by omega),aH R];exact key _ _ (by rw[Int.mul_neg];omega) h0 L
 ·have ex:(x.natAbs:Int)=x:=by omega
  rw[aH (show ¬(x<0/\0<EQ) by omega),aH (show ¬(x<0/\0<EQ) by omega)];by_cases hy':y<0
  ·have ey:(y.natAbs:Int)= -y:=by omega
   rw[ex,ey,Int.neg_mul]at h;rw[aH (show ¬((x<0)↔(y<0)) by simp[F,hy'])];exact key _ _ (by rw[Int.mul_neg];omega) h0 L
  ·have ey:(y.natAbs:Int)=y:=by omega
   rw[ex,ey]at h;rw[if_pos (show (x<0)↔(y<0) by simp[F,hy'])];exact key _ _ (by omega) h0 L
theorem gN(z:Int):(z<0/\z.sign= -1)\/(z=0/\z.sign=0)\/(0<z/\z.sign=1):=by
 rcases Int.lt_trichotomy z 0 with h|h|h
 ·exact .inl ⟨h,bh h⟩
 ·exact .inr (.inl ⟨h,by rw[h];rfl⟩)
 ·exact .inr (.inr ⟨h,bq h⟩)
end Go.Ex
