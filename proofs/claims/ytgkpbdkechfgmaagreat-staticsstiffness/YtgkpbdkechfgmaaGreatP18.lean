/- Texts X107 to X221: lemmas, each with its conditions. -/
import Derived.Test.YtgkpbdkechfgmaaGreatP17
set_option maxHeartbeats 2000000
set_option maxRecDepth 8000
namespace Go.Ex
open Go Go.Sx Go.Proofs
variable{xs:List (Int×Int)}{M:List (List Rat)}{h:Nat}{S:Nat->Prop}{vm:Value}{w:World}
theorem NL(F:Old S w)(hM:fT w S vm M)(Ov:∀r∈M,r.length=M.length)(hR:M.length<=1000)(Qd:Ht M h)(G:2<=h)(hBd:ll h M.length<=90000):
  eH PG GT.xG #[vm] w (eR w fun v' Y=>cX Y (Nf w Y) v' (fk M)):=by
 have V:=bR w;obtain⟨am,cm,rfl,SB,Qr⟩:=dI.shape hM;obtain⟨Fn,Vg⟩:∃Fn,Fn=M.length:=⟨_,rfl⟩
 have hmf:=k7 M;rw[<-Vg]at SB Qr Ov hR hBd hM hmf ⊢;unfold maxLen at Qr;refine Aa bv ?_
 refine⟨Nat×List (List Value)×World×Iv,fun z=>⟨[(0,sV am Fn cm),(3,.o (.w 0 z.2.1.length)),(4,iN (z.1+1))],[(0,.vec T.Rat 4 z.2.1.flatten)],1,z.2.2.2,z.2.2.1⟩,fun z=>Fn-z.1,
  fun z=>z.1<=Fn/\Bq w z.2.2.1/\Fc z.2.2.1 (Cf w z.2.2.2) z.2.1 ((fk M).take z.1),?_,?_⟩
 .intro O J r
  exact⟨(0,[],J,[]),⟨aR _,V.tr r.cZ,by simp[Fc]⟩,Sub.nil 3 T.Rat 4 rfl (by simp[kK,SV.sc,At.sc,fc]) r fun In r1=>
   sbgn [] r1⟩
 clear V;rintro⟨k,A,w1,iv⟩ ⟨K,V,hC⟩;dsimp only at K V hC ⊢;have QW:A.length=k:=by rw[hC.1,ah];omega
 have PM:=eP hC.ma;apply bS<;>intro Ow
 .have Ow:k<Fn:=by have:((k+1:Nat):Int)<=(Fn:Int):=aK Ow;omega
  refine cQ (cE V (pR cY (eO (k+1) (dF M))) (fun O J r=>aA1 G (k+1) (oS F r) (fT.cR hM ((kS V r F))) be (fun r hr=>by rw[Ov r hr];omega) Qd be (aX (NH be) hBd)) ?_);rintro O _ _ Pa PA r L V E W;replace hC:=hC.cS r oF L (mC E);have hd:=W.cP (nw r E);clear r;obtain⟨A0,A1,A2,A3,A4,A5,A6,A7,rfl⟩:=hd.shape;have TH:Fc Pa (Cf w PA) (A++[rC A0 A1 A2 A3 A4 A5 A6 A7]) ((fk M).take (k+1)):=by
   rw[bB,l7 be,Bx];exact hC.push hd.sd
  have QI:A.flatten++(rC A0 A1 A2 A3 A4 A5 A6 A7:List Value)=(A++([rC A0 A1 A2 A3 A4 A5 A6 A7]:List (List Value))).flatten:=by simp
  clear hC hd;refine .inl ?_;refine⟨be,be,mx,((k+1+1:Nat):Int),wo,?_⟩;intro I' w3 R;exact⟨(k+1,A++[rC A0 A1 A2 A3 A4 A5 A6 A7],w3,_),⟨Ow,V.tr R.cZ,TH.rel R oF⟩,sbgn [(0,2)] R ⟨by dsimp only;rw[<-QI];rfl,trivial⟩ ⟨rfl,by dsimp only;rw[l1];rfl,rfl,trivial⟩,dec Ow⟩
 have Ow:k=Fn:=by have:¬((k+1:Nat):Int)<=(Fn:Int):=aG Ow;omega
 intro J8 we re;refine⟨_,rfl,V.tr re.cZ,?_⟩;rw[bH be]at hC;have h5:=re.iD (id:=0) (sz:=4) (m:=A.length) rfl PM mx bi hC.one;have h6:=hC.rel re oF;refine⟨A,?_,h6.1,h6.ma,fun j Z q k1 k2=>(h6.2 j Z q k1 k2).cP fun _ X=>Cv.nw X re⟩;rw[<-hC.1];exact h5.cP fun g X=>.inr X
theorem Ie(F:Old S w)(hM:fT w S vm M)(Ov:∀r∈M,r.length=M.length)(hR:M.length<=1000)(Qd:Ht M h)(G:2<=h)(hBd:ll h M.length<=90000):
  eH PG GT.sG #[vm] w (eR w fun v' _=>∃d,v'= .bool d/\(d=true->Bw M)/\(Bw M->d=true)):=by
 have V:=bR w;obtain⟨am,cm,rfl,SB,Qr⟩:=dI.shape hM;have We:=hM;have hrow1:=Ov;obtain⟨Fn,Vg⟩:∃Fn,Fn=M.length:=⟨_,rfl⟩
 have hmf:=k7 M;rw[<-Vg]at SB Qr Ov hM hmf ⊢;unfold maxLen at Qr;refine xW bv ?_
 refine⟨Nat×World×Iv,fun z=>⟨[(0,sV am Fn cm),(3,iN z.1)],[],0,z.2.2,z.2.1⟩,fun z=>Fn-z.1,
  fun z=>z.1<=Fn/\Bq w z.2.1/\∀i k,i<z.1->k<i->dF M i k=dF M k i,?_,?_⟩
 .intro O J r;exact⟨(0,J,[]),⟨aR _,V.tr r.cZ,fun i k D=>by dsimp only at D;omega⟩,sbgn [] r⟩
 clear V;rintro⟨i,w1,iv⟩ ⟨D,V,hs⟩;dsimp only at D V hs ⊢;apply bS<;>intro Ou
 .have Ou:=dL Ou
  refine⟨Nat×World×Iv,fun z=>⟨[(0,sV am Fn cm),(3,iN i),(4,iN z.1)],[],0,z.2.2,z.2.1⟩,fun z=>i-z.1,
   fun z=>z.1<=i/\Bq w z.2.1/\∀k,k<z.1->dF M i k=dF M k i,?_,?_⟩
  .intro O J r;exact⟨(0,J,_),⟨aR _,V.tr r.cZ,fun k K=>by dsimp only at K;omega⟩,sbgn [] r⟩
  clear V;rintro⟨k,w1,iv⟩ ⟨K,V,ht⟩;dsimp only at K V ht ⊢;apply bS<;>intro Ow
  .have Ow:=dL Ow;obtain⟨rd,XF⟩:=gO M i;have S8:=Ov rd (aC XF);obtain⟨qd,RU⟩:=gO rd k;have hed:dF M i k=qd:=by unfold dF;simp[List.getD,XF,RU]
   obtain⟨add,ud,PU,hRd,k1d,k2d⟩:=dI.load hM XF;obtain⟨aud,cud,rfl,-,-⟩:=dT.shape hRd;obtain⟨aed,csd,haed,Xh,-,Wc⟩:=dT.load hRd RU;obtain⟨d0,d1,d2,d3,d4,d5,d6,d7,rfl,Xh⟩:=Xh;obtain⟨re,YY⟩:=gO M k;have hle:=Ov re (aC YY);obtain⟨qe,Tm⟩:=gO re i;have hee:dF M k i=qe:=by unfold dF;simp[List.getD,YY,Tm]
   obtain⟨ade,ue,hae,Vg,k1e,k2e⟩:=dI.load hM YY;obtain⟨aue,cue,rfl,-,-⟩:=dT.shape Vg;obtain⟨aee,cse,haee,Xi,-,Wd⟩:=dT.load Vg Tm;obtain⟨e0,e1,e2,e3,e4,e5,e6,e7,rfl,Xi⟩:=Xi;refine dP (idO 16) ?_;refine⟨add,PU,be,.slice aud rd.length cud,fun O J r=>?_,?_⟩
   .rw[aF,cV (w:=w) (Y:=J) (by rw[dO];exact(V.tr r.cZ).block _<|F _<|k1d)];exact k2d
   refine⟨aed,haed,be,rC d0 d1 d2 d3 d4 d5 d6 d7,rfl,fun O J r j u hu=>?_,?_⟩
   .obtain⟨z1,z2⟩:=Wc j u hu;rw[aF,cV (w:=w) (Y:=J) (by rw[dO,dO];exact(V.tr r.cZ).block _<|F _<|z1)];exact z2
   refine⟨ade,hae,be,.slice aue re.length cue,fun O J r=>?_,?_⟩
   .rw[aF,cV (w:=w) (Y:=J) (by rw[dO];exact(V.tr r.cZ).block _<|F _<|k1e)];exact k2e
   refine⟨aee,haee,be,rC e0 e1 e2 e3 e4 e5 e6 e7,rfl,fun O J r j u hu=>?_,?_⟩
   .obtain⟨z1,z2⟩:=Wd j u hu;rw[aF,cV (w:=w) (Y:=J) (by rw[dO,dO];exact(V.tr r.cZ).block _<|F _<|z1)];exact z2
   refine cE V (pE (iV (rs (qd-qe)))) (fun O J r=>aDC (oS F r) (Xh.cR ((kS V r F))) (Xi.cR ((kS V r F)))) ?_;rintro O _ _ _ Pp r L V E rfl;clear r;clear hRd Vg Xh Xi Wc Wd k1d k1e k2d k2e;apply bS<;>intro hc
   .have hc:qd≠qe:=fun e=>by rw[Lv.2 e]at hc;simp at hc
    exact rtn V fun J8 we re=>⟨false,rfl,fun h=>(by cases h),fun h=>absurd (by rw[<-hed,<-hee];exact h.1 i k be Ow) hc⟩
   have hc:qd=qe:=Lv.1 (by simpa using hc);refine inc k ?_;intro I' w3 R;refine⟨(k+1,w3,_),⟨Ow,V.tr R.cZ,fun j hj=>?_⟩,sbgn [] R,by dsimp only;omega⟩;rcases aS j k with I|I
   .exact ht j I
   .rw[show j=k by dsimp only at hj;omega,hed,hee,hc]
  have Ow:=dE K Ow;refine inc i ?_;intro I' w3 R;refine⟨(i+1,w3,_),⟨Ou,V.tr R.cZ,fun i2 k2 I G=>?_⟩,sbgn [] R,by dsimp only;omega⟩;rcases aS i2 i with h3|h3
  .exact hs i2 k2 h3 G
  .obtain rfl:i2=i:=by dsimp only at I;omega
   exact ht k2 be
 have Ou:=dE D Ou;refine cQ (cE V (pR cX (fk M)) (fun O J r=>NL (oS F r) (fT.cR hM ((kS V r F))) hrow1 hR Qd G hBd) ?_);rintro O _ _ _ R8 r L V E W;have Q5:=cX.cP W (nw r E);clear r;clear W;obtain⟨a1,c1,rfl,-,-⟩:=dT.shape Q5;rw[hmf]at Q5 ⊢
 refine⟨Nat×World×Iv,fun z=>⟨[(5,sV a1 Fn c1),(6,iN z.1)],[],0,z.2.2,z.2.1⟩,fun z=>Fn-z.1,
  fun z=>z.1<=Fn/\Bq w z.2.1/\cX z.2.1 (Cf w z.2.2) (.slice a1 Fn c1) (fk M)/\∀j q,j<z.1->(fk M)[j]? =some q->0<q,?_,?_⟩
 .intro O J r;exact⟨(0,J,_),⟨aR _,V.tr r.cZ,cX.rel Q5 r oF,fun j q hj=>by dsimp only at hj;omega⟩,sbgn [] r⟩
 clear V Q5;rintro⟨k,Y,iv⟩ ⟨K,V,Q5,hp⟩;dsimp only at K V Q5 hp ⊢;apply bS<;>intro Ow
 .have Ow:=dL Ow;obtain⟨q,hq⟩:=gO (fk M) k;obtain⟨ad1,cs1,ha1,hF1,_,Qe⟩:=dT.load Q5 hq;obtain⟨f0,f1,f2,f3,f4,f5,f6,f7,rfl,hF1⟩:=hF1;refine⟨ad1,ha1,be,rC f0 f1 f2 f3 f4 f5 f6 f7,rfl,fun O J r j u hu=>?_,?_⟩
  .obtain⟨z1,z2⟩:=Qe j u hu;rw[aF,cV (w:=Y) (Y:=J) (by rw[dO,dO];exact rls r oF z1)];exact z2
  refine cQ (cE V (pE (iV (rs q))) (fun O J r=>zF (rlo r oF) (hF1.rel r oF)) ?_);rintro O _ _ _ TU r L V E rfl;replace Q5:=cX.cS Q5 r oF L (mC E);clear r;clear hF1 Qe;apply bS<;>intro hc
  .have hc:¬0<q:=fun e=>by have I:=jc.2 e;have G:rs q<=0:=aK hc;omega
   exact rtn V fun J8 we re=>⟨false,rfl,fun h=>(by cases h),fun h=>absurd (h.2 q (aC hq)) hc⟩
  have hc:0<q:=jc.1 (by have G:¬rs q<=0:=aG hc;omega);refine inc k ?_;intro I' w3 R;refine⟨(k+1,w3,_),⟨Ow,V.tr R.cZ,cX.rel Q5 R oF,fun j p hj WU=>?_⟩,sbgn [] R,by dsimp only;omega⟩;rcases aS j k with I|I
  .exact hp j p I WU
  .obtain rfl:j=k:=by dsimp only at hj;omega
   rw[hq]at WU;injection WU with WU;exact WU▸hc
 have Ow:=dE K Ow;intro J8 we re
 exact⟨_,rfl,V.tr re.cZ,true,rfl,fun _=>⟨fun i k D K=>hs i k be K,fun q hq=>by
   obtain⟨j,hj⟩:=aU hq;have Tu:=(aE.1 hj).1
   exact hp j q be hj⟩,fun _=>rfl⟩
def aBB:List Int:=[0,0,0,0,0,0,-1,0,0]
def FZ:List Int:=[-3,3,9,0,0,-9,0,12,0]
def Nj:List Ld:=[(2,0,0,-12)]
abbrev aDi:List Rat:=(dQ aBB).set 8 (Rat.divInt (-3) 2)
theorem aDj:Rat.divInt 2000 1000=((2:Int):Rat):=by decide +kernel
theorem BO:mK gH Nj=0:=by decide +kernel
theorem JH:qo gH:=aAz (.inr ⟨bi,bi⟩) (by decide +kernel) (by decide +kernel) (q8 BO).1
theorem HE:nA (c9 gH) gH.cols (aAy gH) (eI (ko gH Nj) (-1)) (dQ FZ):=⟨by decide +kernel,by decide +kernel,by decide +kernel⟩
theorem JI:kM (c9 gH) gH.cols=9:=by decide +kernel
theorem aDk:iB (eA (c9 gH) gH.cols) (eI (fu (dQ FZ) (dM gH)) (-1)) (c9 gH).length=some aDi:=by decide +kernel
theorem pU(w:World):eH PG GT.zf #[] w (eR w fun v' _=>v'= .bool true):=by
 have V:=bR w;refine Cq bv ?_;refine cQ (cE V (fun _ J v Y=>∃vn vb vs,v= .agg #[vn,vb,vs]/\dw Y (Nf J Y) vn vb vs gH) (fun O J r=>zK J) ?_);rintro O _ _ _ PA r L V E ⟨vn1,vb1,vs1,rfl,W⟩;have hf:=W.iR r.dA (mN E);clear r;clear W;obtain⟨an1,cn1,ab1,cb1,aq1,cq1,rfl,rfl,rfl,-,-,-⟩:=hf.shape;refine cQ (cE V (fun _ J v Y=>∃vx,v= .tuple #[vx,iV 0]/\cX Y (Nf J Y) vx (dQ FZ)) (fun O J r=>(Ks (S:=(fun g=>Cf w PA g\/g=(O 0).g)) (l:=Nj) (fun g X=>X.elim (rlo r oF g) fun e=>by subst e;exact Rel.lt r (id:=0) rfl) (dw.cP (dw.rel hf r oF) fun g X=>.inl X) (show o9 J (fun g=>Cf w PA g\/g=(O 0).g) (.slice (some ⟨(O 0).g,0,none⟩) 1 1) Nj from⟨[[iV 2,iV 0,iV 0,iV (-12)]],(r.qW (id:=0) (sz:=4) (n:=1) rfl rfl bi (by repeat' first|refine List.forall_mem_cons.2 ⟨rfl,?_⟩|exact fun u hu=>absurd hu List.not_mem_nil)).cP fun g X=>.inr X,rfl,bv,fun j Z x I G=>by cases j with|zero=>(cases I;cases G;rfl)|succ j=>cases G⟩) (fun _=>JH)).mono fun _ _ ⟨v2,e1,e2,e3⟩=>⟨v2,e1,e2,e3.elim (fun h=>absurd BO h.1) fun h=>h.2.elim (fun g=>by obtain⟨z,hz⟩:=Ej (gE gH) (x:=fun t=>(dQ FZ).getD t 0) HE.eq;rw[g.1]at hz;cases hz) fun⟨x,vx,g,k1,k2⟩=>⟨vx,k1,JH.aBj.one g HE▸k2⟩⟩) ?_);rintro O _ v2 _ Oy r L V E ⟨vx1,rfl,W⟩;clear hf;have U:=cX.cP W (nw r E);clear r;clear W;obtain⟨ax1,cx1,rfl,-,-⟩:=dT.shape U;refine cQ (cE V (fun _ J v Y=>∃vn vb vs,v= .agg #[vn,vb,vs]/\dw Y (Nf J Y) vn vb vs gH) (fun O J r=>zK J) ?_);rintro O _ _ _ PH r L V E ⟨vn2,vb2,vs2,rfl,W⟩;replace U:=cX.cS U r oF L (mC E);have hf:=W.iR r.dA (mN E);clear r;clear W;obtain⟨an2,cn2,ab2,cb2,aq2,cq2,rfl,rfl,rfl,-,-,-⟩:=hf.shape
 refine cQ (cE V (fun _ J v Y=>∃vu vx,v= .tuple #[vu,vx,iV 0]/\cX Y (Nf J Y) vu aDi/\∃a n c,vx= .slice a n c) (fun O J r=>(JG (S:=(fun g=>Cf w PH g\/g=(O 0).g)) (l:=Nj) (fun g X=>X.elim (rlo r oF g) fun e=>by subst e;exact Rel.lt r (id:=0) rfl) (dw.cP (dw.rel hf r oF) fun g X=>.inl X) (show o9 J (fun g=>Cf w PH g\/g=(O 0).g) (.slice (some ⟨(O 0).g,0,none⟩) 1 1) Nj from⟨[[iV 2,iV 0,iV 0,iV (-12)]],(r.qW (id:=0) (sz:=4) (n:=1) rfl rfl bi (by repeat' first|refine List.forall_mem_cons.2 ⟨rfl,?_⟩|exact fun u hu=>absurd hu List.not_mem_nil)).cP fun g X=>.inr X,rfl,bv,fun j Z x I G=>by cases j with|zero=>(cases I;cases G;rfl)|succ j=>cases G⟩) (fun _=>JH)).mono fun _ _ ⟨v2,e1,e2,e3⟩=>⟨v2,e1,e2,e3.elim (fun h=>absurd BO h.1) fun h=>h.2.elim (fun g=>absurd g.1 (by rw[JI];decide)) fun⟨_,x,u,vx,vu,g1,g2,e3,e4,e5⟩=>by
  obtain rfl:=JH.aBj.one g1 HE;rw[aDk]at g2;injection g2 with g2;subst g2;obtain⟨a,c,h,_⟩:=dT.shape e5
  exact⟨vu,vx,e3,e4,a,_,c,h⟩⟩) ?_)
 rintro O _ _ _ PV r L V E ⟨vu1,_,rfl,W,ay1,ny1,cy1,rfl⟩;replace U:=cX.cS U r oF L (mC E);clear hf;have hu:=cX.cP W (nw r E);clear r;clear W;obtain⟨au1,cu1,rfl,-,-⟩:=dT.shape hu;refine cQ (cE V (fun _ J v Y=>∃vn vb vs,v= .agg #[vn,vb,vs]/\dw Y (Nf J Y) vn vb vs gH) (fun O J r=>zK J) ?_);rintro O _ _ _ Qk r L V E ⟨vn3,vb3,vs3,rfl,W⟩;replace U:=cX.cS U r oF L (mC E);replace hu:=cX.cS hu r oF L (mC E);have hf:=W.iR r.dA (mN E);clear r;clear W;obtain⟨an3,cn3,ab3,cb3,aq3,cq3,rfl,rfl,rfl,-,-,-⟩:=hf.shape;refine cQ (cE V (pE (.tuple #[Kf 9 0 0,iV 0])) (fun O J r=>(Ng (S:=Cf w Qk) (rlo r oF) (dw.rel hf r oF) (fun _=>JH.toFrS)).mono fun _ _ ⟨v2,e1,e2,e3⟩=>⟨v2,e1,e2,e3.elim (fun h=>absurd (q8 BO).1 h.1) fun h=>by rw[h.2,JI];rfl⟩) ?_);rintro O _ _ _ RM r L V E rfl;replace U:=cX.cS U r oF L (mC E);replace hu:=cX.cS hu r oF L (mC E);clear hf;clear r
 refine cQ (cE V (fun _ J v Y=>∃vr,v= .tuple #[vr,iV 0]/\cY Y (Nf J Y) vr ((2:Int):Rat)) (fun O J r=>(Kd 25 10 J bi bi bi).mono fun _ _ ⟨v2,e1,e2,vr,rt,e3,e4,e5,e6⟩=>⟨v2,e1,e2,vr,e3,by
  have:rt=2000:=aDG e4 e5 bi bi;rw[this]at e6
  exact aDj▸e6⟩) ?_)
 rintro O _ _ _ Rj r L V E ⟨vr1,rfl,W⟩;replace U:=cX.cS U r oF L (mC E);replace hu:=cX.cS hu r oF L (mC E);have hl:=W.cP (nw r E);clear r;obtain⟨s7_0a,s7_0b,s7_0c,s7_0d,s7_0e,s7_0f,s7_0g,s7_0h,rfl⟩:=hl.shape;clear W;refine cQ (cE V (fun _ J v Y=>∃q,v= .tuple #[q,iV 0]/\cY Y (Nf J Y) q (Rat.divInt (-3) 2)) (fun O J r=>(aBC (-3) 2 J bi bi bi bi).mono fun _ _ ⟨v2,e1,e2,e3⟩=>⟨v2,e1,e2,e3.elim (fun k=>absurd k.1 bi) fun h=>h.2⟩) ?_);rintro O _ _ _ R5 r L V E ⟨q1,rfl,W⟩;replace U:=cX.cS U r oF L (mC E);replace hu:=cX.cS hu r oF L (mC E);replace hl:=hl.cS r oF L (mC E);have hh:=W.cP (nw r E);clear r;obtain⟨s8_0a,s8_0b,s8_0c,s8_0d,s8_0e,s8_0f,s8_0g,s8_0h,rfl⟩:=hh.shape;clear W;refine cQ (cU (J9:=fun _ J v Y=>eV Y FF J.heap.size [(J.heap.size,Y.heap.size)] v 9 (dQ aBB)) (fun O J r=>Iw (S:=fun g=>g=(O 4).g) (fun g X=>by subst X;exact Rel.lt r (id:=4) rfl) (aC6 r (id:=4) (n:=9) (l:=aBB) rfl rfl bi) bi bi bi) ?_);rintro O Rc v9 Rl r L hb W;replace V:=V.tr hb;replace U:=cX.cP (S':=Bs FF w.heap.size ((Rc.heap.size,Rl.heap.size)::R5) v9) (cX.cR (cX.rel U r oF) fun g X=>L.block g (rlo r oF g X)) fun g X=>Bs.of r oF (fun x U=>aB _ U) W X;replace hu:=cX.cP (S':=Bs FF w.heap.size ((Rc.heap.size,Rl.heap.size)::R5) v9) (cX.cR (cX.rel hu r oF) fun g X=>L.block g (rlo r oF g X)) fun g X=>Bs.of r oF (fun x U=>aB _ U) W X;replace hl:=cY.cP (S':=Bs FF w.heap.size ((Rc.heap.size,Rl.heap.size)::R5) v9) (cY.cR (hl.rel r oF) fun g X=>L.block g (rlo r oF g X)) fun g X=>Bs.of r oF (fun x U=>aB _ U) W X;replace hh:=cY.cP (S':=Bs FF w.heap.size ((Rc.heap.size,Rl.heap.size)::R5) v9) (cY.cR (hh.rel r oF) fun g X=>L.block g (rlo r oF g X)) fun g X=>Bs.of r oF (fun x U=>aB _ U) W X;have hX:=W.iR (S:=FF) r.dA (iv:=(Rc.heap.size,Rl.heap.size)::R5) aH;clear r L hb W;generalize (Rc.heap.size,Rl.heap.size)::R5=RZ at*
 obtain⟨ax,cx,rfl,To⟩:=hX.row.form;obtain⟨gx,rfl⟩:=hX.at bi;refine⟨⟨gx,0,none⟩,rfl,be,?_⟩;intro O J r;obtain⟨g,X,I,G,h3,h4,h5⟩:=(hX.rel r oF).store (j:=8) bi (hh.cR (Bs.same r oF)) r oF;injection X with X;injection X with X;subst X;refine⟨I,G,h3,fun w5 Qv=>?_⟩;obtain⟨k1,k2,k3⟩:=h5 w5 Qv;have Pf:Bq w w5:=(V.tr r.cZ).tr (ju.grown k2 (fun g e=>by injection e with e;subst e;exact h4.elim (fun h=>h.elim) fun h=>h.1) r.dA);have RX:=cX.cP (S':=Cf w RZ) (cX.cR U (Bs.kept r oF k2 fun g e=>e)) fun g X=>X.1;have Uo:=cX.cP (S':=Cf w RZ) (cX.cR hu (Bs.kept r oF k2 fun g e=>e)) fun g X=>X.1;have Ps:=cY.cP (S':=Cf w RZ) (cY.cR hl (Bs.kept r oF k2 fun g e=>e)) fun g X=>X.1;have Pc:=k1.c;clear hX U hu hl hh V I G h3 h4 h5 Qv k1 k2 k3 r;have V:=Pf;have U:=RX;have hu:=Uo;have hl:=Ps;have hd:=Pc;clear Pf RX Uo Ps Pc;refine dP (idO 36) ?_;refine cE V (fun _ J v Y=>eV Y FF J.heap.size [(J.heap.size,Y.heap.size)] v 9 (dQ FZ)) (fun O J r=>Iw (S:=fun g=>g=(O 5).g) (fun g X=>by subst X;exact Rel.lt r (id:=5) rfl) (aC6 r (id:=5) (n:=9) (l:=FZ) rfl rfl bi) bi bi bi) ?_;rintro O _ _ _ Qc r L V E W;replace U:=cX.cS U r oF L (mC E);replace hu:=cX.cS hu r oF L (mC E);replace hl:=hl.cS r oF L (mC E);replace hd:=cX.cS hd r oF L (mC E);have hX:=W.iR (S:=FF) r.dA (mN E);clear r L W;have hv:=hX.c;clear hX;obtain⟨av,cv,rfl,-,-⟩:=dT.shape hv;refine cE V (pE (.bool true)) (fun O J r=>(vq (S:=Cf w Qc) (rlo r oF) (cX.rel U r oF) (cX.rel hv r oF)).mono fun _ _ ⟨v2,e1,e2,e3⟩=>⟨v2,e1,e2,by rw[e3];exact congrArg _ (bf rfl)⟩) ?_;rintro O _ _ _ Pp r L V E rfl;clear U;replace hu:=cX.cS hu r oF L (mC E);replace hl:=hl.cS r oF L (mC E);replace hd:=cX.cS hd r oF L (mC E);clear hv;clear r L;refine cE V (pE (.bool true)) (fun O J r=>(vq (S:=Cf w Pp) (rlo r oF) (cX.rel hu r oF) (cX.rel hd r oF)).mono fun _ _ ⟨v2,e1,e2,e3⟩=>⟨v2,e1,e2,by rw[e3];exact congrArg _ (bf rfl)⟩) ?_;rintro O _ _ _ Wb r L V E rfl;clear hu;replace hl:=hl.cS r oF L (mC E);clear hd;clear r L;refine⟨true,fun O w o1 o2=>aCE 9 0 0 9 0 0 w o1 o2,?_⟩;refine cE V (pR cY ((2:Int):Rat)) (fun O J r=>jf 2 J bi) ?_;rintro O _ _ _ Sf r L V E W;replace hl:=hl.cS r oF L (mC E);have ht:=W.cP (nw r E);clear r L W;obtain⟨A0,A1,A2,A3,A4,A5,A6,A7,rfl⟩:=ht.shape;refine cE V (pE (.bool true)) (fun O J r=>(aBD (S:=Cf w Sf) (rlo r oF) (hl.rel r oF) (ht.rel r oF)).mono fun _ _ ⟨v2,e1,e2,e3⟩=>⟨v2,e1,e2,by rw[e3];exact congrArg _ (bf rfl)⟩) ?_;rintro O _ _ _ Vi r L V E rfl;clear hl;clear ht;clear r L;exact rtn V fun J8 we re=>rfl
theorem JK{m:Nat}(h:m<=5):ll 44 m<=ll 44 5:=by
 rcases(show m=0\/m=1\/m=2\/m=3\/m=4\/m=5 by omega)with rfl|rfl|rfl|rfl|rfl|rfl<;>decide
theorem vw{vn vb vs v:Value}{f:Kh}(F:Old S w)(hF:sn w S vn vb vs f)(U:fy w S v xs):
  eH PG GT.ke #[.agg #[vn,vb,vs],v] w (eR w fun v' _=>v'= .bool true):=by
 have V:=bR w;obtain⟨an,cn,rfl,-,-⟩:=hF.nodes.shape;obtain⟨ab,cb,rfl,-,-⟩:=hF.bars.shape;obtain⟨aq,cq,rfl,-,-⟩:=hF.dB.shape;obtain⟨ax,cx,rfl,To,UJ⟩:=dT.shape U;refine nX bv ?_;refine cQ (cE V (fun _ J v Y=>∃d,v= .bool d/\(d=true->dw w S (.slice an f.nodes.length cn) (.slice ab f.bars.length cb) (.slice aq f.dB.length cq) f.val/\(∀b∈f.val.bars,rl b.2.2<=3)/\(∀b∈f.val.dB,rl b.2.2<=3)/\(eW f.val≠0\/f.val.nodes.length<=4/\f.val.bars.length<=6))) (fun O J r=>NZ F V r hF) ?_);rintro O _ _ _ PA r L V E ⟨d1,rfl,Pj⟩;clear r
 cases d1
 .conv=>whnf
  refine cQ (cE V (pE (.bool true)) (fun O J r=>pU J) ?_);rintro O Qb v2 Px Oy r L V E rfl;clear r;exact rtn V fun J8 we re=>rfl
 have Pj:=Pj rfl;refine cQ (cE V (fun _ J v Y=>∃d,v= .bool d/\(d=true->xs.length<=80/\dK w S (.slice ax xs.length cx) (xs.map rq)/\∀q∈xs.map rq,rl q<=3)) (fun O J r=>Na F V r U) ?_);rintro O _ v2 _ Oy r L V E ⟨d2,rfl,QY⟩;clear r
 cases d2
 .conv=>whnf
  refine cQ (cE V (pE (.bool true)) (fun O J r=>pU J) ?_);rintro O QD v3 QC PH r L V E rfl;clear r;exact rtn V fun J8 we re=>rfl
 have QY:=QY rfl;obtain⟨hR,hrb,XX,Si⟩:=Pj;obtain⟨fv,hfv⟩:=exq f.val;rw[hfv]at hR hrb XX Si;obtain⟨en,eb,es⟩:f.nodes.length=fv.nodes.length/\f.bars.length=fv.bars.length/\f.dB.length=fv.dB.length:=by rw[<-hfv];exact⟨rfl,(aL ..).symm,(aL ..).symm⟩
 rw[en,eb,es]at hR ⊢;clear hF hfv en eb es;obtain⟨e0,EE⟩:=exq (eW fv);have YF:eW fv=0->qo fv:=aAz Si hrb XX;obtain⟨hx80,hX,Ri⟩:=QY;obtain⟨xv,hxv⟩:=exq (xs.map rq);rw[hxv]at hX Ri;have QM:xs.length=xv.length:=by rw[<-hxv,aL]
 rw[QM]at hX hx80 ⊢;clear U hxv UJ To QM;by_cases XL:e0=0
 .rw[XL]at EE;have QK:=YF EE;have PS:=QK.toFrS;have hv:=PS.toFrV;have hn4:=PS.n4;have SU:=wx (f:=fv);have US:=PS.Mp;by_cases PR:xv.length=fv.cols
  .have Qd:=IU QK PS.b6 Ri;obtain⟨d,YG⟩:∃d:Bool,(d=true↔Bw (gB fv xv)):=by
    by_cases h:Bw (gB fv xv)
    .exact⟨true,iff_of_true rfl h⟩
    .exact⟨false,iff_of_false bi h⟩
   refine cQ (cE V (fun _ J v Y=>∃vm,v= .tuple #[vm,iV 0]/\dD Y (Nf J Y) vm (gB fv xv)) (fun O J r=>(lX (oS F r) (hR.cR (kS V r F)) YF (dK.cR hX (kS V r F)) Ri).mono fun _ _ ⟨v2,e1,e2,e3⟩=>⟨v2,e1,e2,e3.elim (fun h=>absurd EE h.1) fun h=>h.2.elim (fun g=>absurd PR g.1) fun g=>g.2⟩) ?_);rintro O QD v3 QC PH r L V E ⟨vm,rfl,W⟩;have hM:=dD.cP W (nw r E);clear r;clear W;obtain⟨am,cm,rfl,-,-⟩:=dI.shape hM;refine cQ (cE V (pE (.tuple #[.bool d,iV 0])) (fun O J r=>(pV (oS F r) (hR.cR (kS V r F)) YF (dK.cR hX (kS V r F)) Ri).mono fun _ _ ⟨v2,e1,e2,e3⟩=>⟨v2,e1,e2,e3.elim (fun h=>absurd EE h.1) fun h=>h.2.elim (fun g=>absurd PR g.1) fun⟨_,d1,k1,k2⟩=>by rw[k1,Bool.eq_iff_iff.2 (k2.trans YG.symm)]⟩) ?_);rintro O RF v4 Qw PV r L V E rfl;replace hM:=dD.cS hM r oF L (mC E);clear r;refine cQ (cE V (pE (iV 0)) (fun O J r=>(xz (oS F r) (hR.cR (kS V r F))).mono fun _ _ ⟨v2,e1,e2,e3⟩=>⟨v2,e1,e2,by rw[e3,EE]⟩) ?_);rintro O SZ v5 SP Qk r L V E rfl;replace hM:=dD.cS hM r oF L (mC E);clear r;refine cQ (cE V (pE (iV fv.cols)) (fun O J r=>kT (hR.cR (kS V r F)) ⟨PS.b,PS.s⟩) ?_);rintro O Rv v6 Rk RM r L V E rfl;replace hM:=dD.cS hM r oF L (mC E);clear r;rw[PR];refine tG.mk (fun hd=>by simp at hd) (fun _=>?_);rw[<-PR];refine cQ (cE V (pR dD (gB fv xv)) (fun O J r=>HG (oS F r) (hR.cR (kS V r F)) EE QK (dK.cR hX (kS V r F)) PR Ri) ?_);rintro O Ta v7 Tb Rj r L V E W;replace hM:=dD.cS hM r oF L (mC E);have hW:=dD.cP W (nw r E);clear r;clear W;obtain⟨aw,cw,rfl,-,-⟩:=dI.shape hW;refine cQ (cE V (pE (.bool true)) (fun O J r=>(JL (S:=Cf w Rj) (rlo r oF) (dD.rel hM r oF) (dD.rel hW r oF)).mono fun _ _ ⟨v2,e1,e2,e3⟩=>⟨v2,e1,e2,by rw[e3];exact congrArg _ (bf rfl)⟩) ?_);rintro O _ _ _ R5 r L V E rfl;clear hM;replace hW:=dD.cS hW r oF L (mC E);clear r;obtain⟨m,hm⟩:=exq ((gB fv xv).length);have hm12:m<=12:=by rw[<-hm,jU];omega
   have hmr:∀r∈gB fv xv,r.length=(gB fv xv).length:=fun r hr=>by rw[jU];exact vA r hr
   rw[hm]at hW ⊢;apply bS<;>intro hle
   .have hle:m<=5:=by have:=aK hle;omega
    refine cQ (cE V (pE (.bool d)) (fun O J r=>(Ie (S:=Cf w R5) (h:=44) (rlo r oF) (dD.l (dD.rel hW r oF) fun y hy q hq=>by have:=Qd y hy q hq;omega) hmr be Qd bi (by rw[hm];exact aX (JK hle) bi)).mono fun _ _ ⟨v2,e1,e2,e3⟩=>⟨v2,e1,e2,by obtain⟨d1,k1,k2,k3⟩:=e3;rw[k1,Bool.eq_iff_iff.2 (Iff.trans ⟨k2,k3⟩ YG.symm)]⟩) ?_);rintro O _ _ _ RZ r L V E rfl;clear hW;clear r;refine tG.mk (fun hd=>by simp at hd) (fun _=>?_)
    refine⟨Nat×List (List Value)×World×Iv,fun z=>⟨[(1,sV ax xv.length cx),(2,pP 0 0),(11,.o (.w 1 z.2.1.length)),(12,iN z.1)],[(1,.vec T.Rat 4 z.2.1.flatten),(0,.box T.Frame [.v (.slice an fv.nodes.length cn),.v (.slice ab fv.bars.length cb),.v (.slice aq fv.dB.length cq)])],2,z.2.2.2,z.2.2.1⟩,fun z=>xv.length-z.1,
     fun z=>z.1<=xv.length/\Bq w z.2.2.1/\dq z.2.2.1 (Cf w z.2.2.2) z.2.1 (List.replicate z.1 0),?_,?_⟩
    .intro O J r;exact⟨(0,[],J,_),⟨aR _,V.tr r.cZ,dq.nil⟩,Sub.nil 11 T.Rat 4 rfl (by simp[kK,SV.sc,At.sc,fc]) r fun In r1=>sbgn [] r1⟩
    clear V;rintro⟨i,A,w9,iv⟩ ⟨D,V,hG⟩;dsimp only at D V hG ⊢;have PM:=eP hG.four;have SG:A.length=i:=by rw[hG.len,bD]
    apply bS<;>intro Ou
    .have Ou:=dL Ou;refine cQ (cE V (pR cY (((0:Int)):Rat)) (fun O J r=>jf 0 J bi) ?_);rintro O TT v21 Se R8 r L V E W;replace hG:=hG.cS r oF L (mC E);have hd:=W.cP (nw r E);clear r;obtain⟨A0,A1,A2,A3,A4,A5,A6,A7,rfl⟩:=hd.shape;have Rz:=hG.push (Z:=rC A0 A1 A2 A3 A4 A5 A6 A7) (q:=((0:Int):Rat)) ⟨_,_,_,_,_,_,_,_,rfl,hd⟩ rfl;rw[show List.replicate i (0:Rat)++[((0:Int):Rat)]=List.replicate (i+1) 0 by rw[List.replicate_succ'];rfl]at Rz;have QI:A.flatten++(rC A0 A1 A2 A3 A4 A5 A6 A7:List Value)=(A++([rC A0 A1 A2 A3 A4 A5 A6 A7]:List (List Value))).flatten:=by simp
     refine .inl ?_;refine⟨be,be,mx,((i+1:Nat):Int),wo,?_⟩;intro I' w6 R;exact⟨(i+1,A++[rC A0 A1 A2 A3 A4 A5 A6 A7],w6,_),⟨Ou,V.tr R.cZ,Rz.rel R oF⟩,sbgn [(1,3)] R ⟨by dsimp only;rw[<-QI];rfl,rfl,trivial⟩ ⟨rfl,rfl,by dsimp only;rw[l1];rfl,rfl,trivial⟩,dec Ou⟩
    have Ou:=dE D Ou;subst Ou;have TO:=CS (x:=List.replicate xv.length (0:Rat)) hv fun i=>by rw[List.getD,List.getElem?_replicate];split<;>rfl
    have Xa:kM (c9 fv) fv.cols<=3*fv.nodes.length:=by have:=(jg (c9 fv) fv.cols (gE fv)).1;rw[eC,gl]at this;exact this
    refine cQ (cE V (pE (.tuple #[.bool (((3*fv.nodes.length:Nat):Int)-(kM (c9 fv) fv.cols:Int)==0),iV 0])) (fun O J r=>(pV (S:=fun g=>g<J.heap.size) (x:=List.replicate xv.length (0:Rat)) (fun g X=>X) (dw.cP (hR.cR (kS V r F)) fun g X=>by have:=F g X;have:=r.dA;omega) YF (cX.l (dq.list (dq.cP (hG.rel r oF) fun g X=>rlo r oF g X) (hG.len.trans (bD ..)▸r.yC (T:=fun g=>g<J.heap.size) (id:=1) (sz:=4) (m:=A.length) rfl PM mx bi hG.one fun W=>(r.low 1 _ rfl W).2)) fun q hq=>by rw[bW hq];decide) (fun q hq=>by rw[bW hq];decide)).mono fun _ _ ⟨v2,e1,e2,e3⟩=>⟨v2,e1,e2,e3.elim (fun h=>absurd EE h.1) fun h=>h.2.elim (fun g=>absurd ((bD ..).trans PR) g.1) fun⟨_,d1,k1,k2⟩=>by rw[k1,show d1=(((3*fv.nodes.length:Nat):Int)-(kM (c9 fv) fv.cols:Int)==0)from Bool.eq_iff_iff.2 ((k2.trans TO).trans (by rw[beq_iff_eq];exact⟨fun h=>be,fun h=>be⟩))]⟩) ?_);rintro O TT v21 Se R8 r L V E rfl;clear hG;clear r;refine cQ (cE V (pE (.agg #[iV (kM (c9 fv) fv.cols),iV ((fv.cols:Int)-kM (c9 fv) fv.cols),iV (((3*fv.nodes.length:Nat):Int)-(kM (c9 fv) fv.cols:Int))])) (fun O J r=>JA (oS F r) (hR.cR (kS V r F)) EE PS) ?_);rintro O UB v22 UC TU r L V E rfl;clear r;refine tG.mk (fun _=>?_) (fun hd=>by simp at hd);refine cQ (cE V (pE (.bool true)) (fun O J r=>pU J) ?_);rintro O UF v23 UG St r L V E rfl;clear r;exact rtn V fun J8 we re=>rfl
   clear hW
   refine⟨Nat×List (List Value)×World×Iv,fun z=>⟨[(1,sV ax xv.length cx),(2,pP 0 0),(11,.o (.w 1 z.2.1.length)),(12,iN z.1)],[(1,.vec T.Rat 4 z.2.1.flatten),(0,.box T.Frame [.v (.slice an fv.nodes.length cn),.v (.slice ab fv.bars.length cb),.v (.slice aq fv.dB.length cq)])],2,z.2.2.2,z.2.2.1⟩,fun z=>xv.length-z.1,
    fun z=>z.1<=xv.length/\Bq w z.2.2.1/\dq z.2.2.1 (Cf w z.2.2.2) z.2.1 (List.replicate z.1 0),?_,?_⟩
   .intro O J r;exact⟨(0,[],J,_),⟨aR _,V.tr r.cZ,dq.nil⟩,Sub.nil 11 T.Rat 4 rfl (by simp[kK,SV.sc,At.sc,fc]) r fun In r1=>sbgn [] r1⟩
   clear V;rintro⟨i,A,w9,iv⟩ ⟨D,V,hG⟩;dsimp only at D V hG ⊢;have PM:=eP hG.four;have SG:A.length=i:=by rw[hG.len,bD]
   apply bS<;>intro Ou
   .have Ou:=dL Ou;refine cQ (cE V (pR cY (((0:Int)):Rat)) (fun O J r=>jf 0 J bi) ?_);rintro O TT v21 Se R8 r L V E W;replace hG:=hG.cS r oF L (mC E);have hd:=W.cP (nw r E);clear r W;obtain⟨A0,A1,A2,A3,A4,A5,A6,A7,rfl⟩:=hd.shape;have Rz:=hG.push (Z:=rC A0 A1 A2 A3 A4 A5 A6 A7) (q:=((0:Int):Rat)) ⟨_,_,_,_,_,_,_,_,rfl,hd⟩ rfl;rw[show List.replicate i (0:Rat)++[((0:Int):Rat)]=List.replicate (i+1) 0 by rw[List.replicate_succ'];rfl]at Rz;have QI:A.flatten++(rC A0 A1 A2 A3 A4 A5 A6 A7:List Value)=(A++([rC A0 A1 A2 A3 A4 A5 A6 A7]:List (List Value))).flatten:=by simp
    refine .inl ?_;refine⟨be,be,mx,((i+1:Nat):Int),wo,?_⟩;intro I' w6 R;exact⟨(i+1,A++[rC A0 A1 A2 A3 A4 A5 A6 A7],w6,_),⟨Ou,V.tr R.cZ,Rz.rel R oF⟩,sbgn [(1,3)] R ⟨by dsimp only;rw[<-QI];rfl,rfl,trivial⟩ ⟨rfl,rfl,by dsimp only;rw[l1];rfl,rfl,trivial⟩,dec Ou⟩
   have Ou:=dE D Ou;subst Ou;have TO:=CS (x:=List.replicate xv.length (0:Rat)) hv fun i=>by rw[List.getD,List.getElem?_replicate];split<;>rfl
   have Xa:kM (c9 fv) fv.cols<=3*fv.nodes.length:=by have:=(jg (c9 fv) fv.cols (gE fv)).1;rw[eC,gl]at this;exact this
   refine cQ (cE V (pE (.tuple #[.bool (((3*fv.nodes.length:Nat):Int)-(kM (c9 fv) fv.cols:Int)==0),iV 0])) (fun O J r=>(pV (S:=fun g=>g<J.heap.size) (x:=List.replicate xv.length (0:Rat)) (fun g X=>X) (dw.cP (hR.cR (kS V r F)) fun g X=>by have:=F g X;have:=r.dA;omega) YF (cX.l (dq.list (dq.cP (hG.rel r oF) fun g X=>rlo r oF g X) (hG.len.trans (bD ..)▸r.yC (T:=fun g=>g<J.heap.size) (id:=1) (sz:=4) (m:=A.length) rfl PM mx bi hG.one fun W=>(r.low 1 _ rfl W).2)) fun q hq=>by rw[bW hq];decide) (fun q hq=>by rw[bW hq];decide)).mono fun _ _ ⟨v2,e1,e2,e3⟩=>⟨v2,e1,e2,e3.elim (fun h=>absurd EE h.1) fun h=>h.2.elim (fun g=>absurd ((bD ..).trans PR) g.1) fun⟨_,d1,k1,k2⟩=>by rw[k1,show d1=(((3*fv.nodes.length:Nat):Int)-(kM (c9 fv) fv.cols:Int)==0)from Bool.eq_iff_iff.2 ((k2.trans TO).trans (by rw[beq_iff_eq];exact⟨fun h=>be,fun h=>be⟩))]⟩) ?_);rintro O _ _ _ R8 r L V E rfl;clear hG;clear r;refine cQ (cE V (pE (.agg #[iV (kM (c9 fv) fv.cols),iV ((fv.cols:Int)-kM (c9 fv) fv.cols),iV (((3*fv.nodes.length:Nat):Int)-(kM (c9 fv) fv.cols:Int))])) (fun O J r=>JA (oS F r) (hR.cR (kS V r F)) EE PS) ?_);rintro O _ _ _ TU r L V E rfl;clear r;refine tG.mk (fun _=>?_) (fun hd=>by simp at hd);refine cQ (cE V (pE (.bool true)) (fun O J r=>pU J) ?_);rintro O _ _ _ St r L V E rfl;clear r;exact rtn V fun J8 we re=>rfl
  refine cQ (cE V (pE (.tuple #[nls,iV 11])) (fun O J r=>(lX (oS F r) (hR.cR (kS V r F)) YF (dK.cR hX (kS V r F)) Ri).mono fun _ _ ⟨v2,e1,e2,e3⟩=>⟨v2,e1,e2,e3.elim (fun h=>absurd EE h.1) fun h=>h.2.elim (fun g=>g.2) fun g=>absurd g.1 PR⟩) ?_);rintro O QD v3 QC PH r L V E rfl;clear r;refine cQ (cE V (pE (.tuple #[.bool false,iV 11])) (fun O J r=>(pV (oS F r) (hR.cR (kS V r F)) YF (dK.cR hX (kS V r F)) Ri).mono fun _ _ ⟨v2,e1,e2,e3⟩=>⟨v2,e1,e2,e3.elim (fun h=>absurd EE h.1) fun h=>h.2.elim (fun g=>g.2) fun g=>absurd g.1 PR⟩) ?_);rintro O RF v4 Qw PV r L V E rfl;clear r;refine cQ (cE V (pE (iV 0)) (fun O J r=>(xz (oS F r) (hR.cR (kS V r F))).mono fun _ _ ⟨v2,e1,e2,e3⟩=>⟨v2,e1,e2,by rw[e3,EE]⟩) ?_);rintro O SZ v5 SP Qk r L V E rfl;clear r;refine cQ (cE V (pE (iV fv.cols)) (fun O J r=>kT (hR.cR (kS V r F)) ⟨PS.b,PS.s⟩) ?_);rintro O Rv v6 Rk RM r L V E rfl;clear r;refine tG.mk (fun _=>?_) (fun hd=>absurd (by have hd:=(show (xv.length:Int)=(fv.cols:Int)from(by simpa using hd));omega) PR);refine cQ (cE V (pE (.bool true)) (fun O J r=>pU J) ?_);rintro O _ _ _ Rj r L V E rfl;clear r;exact rtn V fun J8 we re=>rfl
 refine cQ (cE V (pE (.tuple #[nls,iV e0])) (fun O J r=>(lX (oS F r) (hR.cR (kS V r F)) YF (dK.cR hX (kS V r F)) Ri).mono fun _ _ ⟨v2,e1,e2,e3⟩=>⟨v2,e1,e2,e3.elim (fun h=>by rw[h.2,EE]) fun h=>absurd (EE.symm.trans h.1) XL⟩) ?_);rintro O _ _ _ PH r L V E rfl;clear r;refine cQ (cE V (pE (.tuple #[.bool false,iV e0])) (fun O J r=>(pV (oS F r) (hR.cR (kS V r F)) YF (dK.cR hX (kS V r F)) Ri).mono fun _ _ ⟨v2,e1,e2,e3⟩=>⟨v2,e1,e2,e3.elim (fun h=>by rw[h.2,EE]) fun h=>absurd (EE.symm.trans h.1) XL⟩) ?_);rintro O _ _ _ PV r L V E rfl;clear r;refine cQ (cE V (pE (iV e0)) (fun O J r=>(xz (oS F r) (hR.cR (kS V r F))).mono fun _ _ ⟨v2,e1,e2,e3⟩=>⟨v2,e1,e2,by rw[e3,EE]⟩) ?_);rintro O _ _ _ Qk r L V E rfl;clear r;refine tG.mk (fun hd=>absurd (by simpa using hd) XL) (fun _=>?_);refine tG.mk (fun _=>?_) (fun hd=>absurd (by simpa using hd) XL);refine tG.mk (fun _=>?_) (fun hd=>by simp at hd);refine tG.mk (fun _=>?_) (fun hd=>by simp at hd);refine cQ (cE V (pE (.bool true)) (fun O J r=>pU J) ?_);rintro O _ _ _ RM r L V E rfl;clear r;exact rtn V fun J8 we re=>rfl
end Go.Ex
