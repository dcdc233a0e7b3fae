/- Texts X201 to X232: lemmas, each with its conditions. -/
import Derived.Test.YtgkpbdkechfgmaaGreatP12
set_option maxHeartbeats 2000000
set_option maxRecDepth 8000
namespace Go.Ex
open Go Go.Sx Go.Proofs
variable{S:Nat->Prop}
theorem EG{w:World}{vn vb vs vl:Value}{f:fc}{l:List Ld}(U:Old S w)(hf:dq w S vn vb vs f)(hl:cU w S vl l)(UF:eJ f=0->vT f):
  eC PG Fn.me #[.agg #[vn,vb,vs],vl] w (eI w fun v' I=>(kH f l≠0/\v'= .tuple #[nls,nls,iV (kH f l)])\/(kH f l=0/\((mu (cQ f) f.cols<(cQ f).length/\v'= .tuple #[nls,nls,iV 17])\/
   (mu (cQ f) f.cols=(cQ f).length/\∃x u vx vu,kj (cQ f) f.cols (Js f) (dV (j0 f l) (-1)) x/\fu (eS (cQ f) f.cols) (dV (fD x (dC f)) (-1)) (cQ f).length=some u/\v'= .tuple #[vu,vx,iV 0]/\cP I (Nf w I) vu u/\cP I (Nf w I) vx x)))):=by
 have V:=bR w;obtain⟨an,cn,ab,cb,aq,cq,rfl,rfl,rfl,RH,Rh,Si⟩:=hf.shape;obtain⟨al,cl,rfl,OR,Qo⟩:=hl.shape;obtain⟨e0,EE⟩:=exq (kH f l);refine q9 bv ?_;refine cD (cE V (pE (iV e0)) (fun O J r=>(ph (oS U r) (hf.cK (kS V r U)) (hl.cK (kS V r U))).mono fun _ _ ⟨v2,e1,e2,e3⟩=>⟨v2,e1,e2,by rw[e3,EE]⟩) ?_);rintro O _ _ _ OK r R V h_ rfl;clear r;apply bS<;>intro R
 .have R:e0≠0:=by simpa using R
  exact rtn V fun GT we re=>.inl ⟨by rw[EE];exact R,by rw[EE];rfl⟩
 have R:e0=0:=by simpa using R
 have RG:kH f l=0:=by rw[EE,R]
 obtain⟨Q5,RE⟩:=ns RG;have PM:=UF Q5;have Qs:=PM.toFrS;have RE:=xU RE;clear EE R;have hc18:=Qs.Ko;have hr12:=Qs.La;have UA:=kk f;have hlen:=gi f;have hn4:=Qs.n4;have OE:=so Q5;have VK:=wH f l;have Sv:f.cols=f.bars.length+f.cV.length:=rfl;refine cD (cE V (fun _ J v I=>∃vr,v= .agg #[vr,iV f.cols]/\cT I (Nf J I) vr (cQ f)) (fun O J r=>(sF (S:=S) (oS U r) (hf.cK (kS V r U)) OE).mono fun _ _ ⟨v2,e1,e2,e3,_⟩=>⟨v2,e1,e2,e3⟩) ?_);rintro O _ v2 _ OH r R V h_ ⟨vr,rfl,Z⟩;have hM:=cT.cF Z (nw r h_);clear r R;clear Z;obtain⟨am,cm,rfl,-,-⟩:=eH.shape hM;refine dP [.x 0,.x 1,.x 2,.x 7,.x 8,.x 9,.x 3,.x 4,.x 5,.x 6,.x 10] ?_;refine cE V (fun _ J v I=>∃vr vp vf,v= .agg #[vr,iV f.cols,vp,vf]/\cT I (Nw (Cf w OH) J I) vr (dJ (cQ f) f.cols).1) (fun O J r=>(zY (C:=Cf w OH) (S:=Cf w OH) (h:=20) (rlo r oF) (rlo r oF) (cT.rel hM r oF) hlen be be (mo hlen Qs.lW bi (by have:=Qs.size;omega)) bi).mono fun _ _ ⟨v2,e1,e2,vr,vp,vf,k1,k2,_,_⟩=>⟨v2,e1,e2,vr,vp,vf,k1,k2⟩) ?_;rintro O _ _ _ OW r R V h_ ⟨vr2,vp2,vf2,rfl,Z⟩;replace hM:=cT.cH hM r oF R (mC h_);clear r R;obtain⟨ar,cr,rfl,-,-⟩:=eH.shape Z;have hrk:(dJ (cQ f) f.cols).1.length=mu (cQ f) f.cols:=by
  rw[(kg hlen Qs.lW).2,aZ,Nat.min_eq_left (mB _ _ hlen).1]
 rw[hrk];obtain⟨nr,hnr⟩:=exq (mu (cQ f) f.cols);rw[hnr];clear Z hrk;apply bS<;>intro OT
 .have OT:nr<(cQ f).length:=by have:=aE OT;omega
  exact rtn V fun GT we re=>.inr ⟨RG,.inl ⟨OT,rfl⟩⟩
 have OT:(cQ f).length<=nr:=by have:=aC OT;omega
 have VL:mu (cQ f) f.cols=(cQ f).length:=by
  have Y:=Ez hlen;have X:=(mB (eS (cQ f) f.cols) (cQ f).length (iY _ _)).2;rw[hnr]at Y ⊢;have Y:(cL (eS (cQ f) f.cols) (cQ f).length).2.length=nr:=Y;omega
 have Po:=Fh RE;have hbll:(dV (j0 f l) (-1)).length=(cQ f).length:=by rw[dV,aM,VK,UA]
 refine dP (idO 10) ?_;refine cE V (fun _ J v I=>cP I (Nf J I) v (j0 f l)/\∀q∈j0 f l,rl q<=1) (fun O J r=>(BK (oS U r) (hl.cK (kS V r U)) Qs.n RE rfl rfl).mono fun _ _ ⟨v2,e1,e2,e3,e4⟩=>⟨v2,e1,e2,cP.cF e3.c fun g F=>F.new,e4⟩) ?_;rintro O _ _ _ Ow r R V h_ ⟨Z,hvq⟩;replace hM:=cT.cH hM r oF R (mC h_);have hP:=cP.cF Z (nw r h_);clear r R;clear Z;obtain⟨ap,cp,rfl,-,-⟩:=eM.shape hP;rw[VK];refine cM (If:=fun _ J v I=>(fu (cQ f) (dV (j0 f l) (-1)) f.cols=none/\v= .tuple #[nls,.bool false])\/∃x vx,kj (cQ f) f.cols (Js f) (dV (j0 f l) (-1)) x/\v= .tuple #[vx,.bool true]/\cP I (Nf J I) vx x) (fun O J r=>BT (S:=fun g=>S g\/Cf w Ow g) (fun g F=>F.elim (oS U r g) (rlo r oF g)) (dq.cF (hf.cK (kS V r U)) fun g F=>.inl F) Q5 PM (cP.cF (by have:=cP.rel hP r oF;rw[VK]at this;exact this) fun g F=>.inr F) VK (fun q hq=>by have:=hvq q hq;omega) (Fh RE)) ?_;rintro O Rr v5 SH r R hb (⟨Qm,rfl⟩|⟨x,vx,G,rfl,Z⟩)
 .obtain⟨x,G⟩:=H7 (b:=dV (j0 f l) (-1)) hlen VL;rw[Qm]at G
  cases G
 replace V:=V.tr hb;replace hM:=cT.cH (K:=(Rr.heap.size,SH.heap.size)::Ow) hM r oF R fun x G=>aA _ G;have hX:=cP.iR (S:=FF) Z r.cR (iv:=(Rr.heap.size,SH.heap.size)::Ow) aI;clear r R hb Z;generalize (Rr.heap.size,SH.heap.size)::Ow=ivx at*
 obtain⟨ax,cx,rfl,-,-⟩:=eM.shape hX;have PJ:=G.len;have TK:=PM.Mw Po hbll G;obtain⟨u,hu⟩:=G.Ms hlen;have hwT:=PM.H8 PJ (PM.JI Po hbll G);have hzT:ln (fB (wt 156) (j3 (eS (cQ f) f.cols) (dV (fD x (dC f)) (-1))).length)<=2827:=PM.FA;have QJ:=uO (M:=eS (cQ f) f.cols) (b:=dV (fD x (dC f)) (-1)) (iY _ _) hwT;rw[hu]at QJ;have hbr:=Jt PM (Nat.le_of_eq PJ) TK;refine dP [.x 0,.x 2,.x 3,.x 1,.x 4,.x 5,.x 6,.x 7,.x 8,.x 9,.x 10,.x 11,.x 12,.x 13] ?_;refine cM (If:=fun _ J v I=>∃vr,v= .agg #[vr,iV (cQ f).length]/\cT I (Nw (Cf w ivx) J I) vr (eS (cQ f) f.cols)) (fun O J r=>AN (C:=Cf w ivx) (S:=Cf w ivx) (rlo r oF) (rlo r oF) (cT.rel hM r oF) hlen be be) ?_;rintro O SI v6 SX r R hb ⟨vt,rfl,Z⟩;replace V:=V.tr hb;clear hM;replace hX:=cP.cH (K:=(SI.heap.size,SX.heap.size)::ivx) hX r oF R fun x G=>aA _ G;have hT:=cT.old Z r.cR;clear r R hb;generalize (SI.heap.size,SX.heap.size)::ivx=SY at*
 clear Z;obtain⟨at_,ct,rfl,-,-⟩:=eH.shape hT;refine cM (If:=fun _ J v I=>eL I (Nw S J I) v (dC f)) (fun O J r=>BL (S:=S) (oS U r) (hf.cK (kS V r U)) OE) ?_;rintro O wa7 v7 wb7 r R hb Z;replace V:=V.tr hb;replace hX:=cP.cH (K:=(wa7.heap.size,wb7.heap.size)::SY) hX r oF R fun x G=>aA _ G;replace hT:=cT.cH (K:=(wa7.heap.size,wb7.heap.size)::SY) hT r oF R fun x G=>aA _ G;have hL:=eL.cF (S':=Cv S w.heap.size ((wa7.heap.size,wb7.heap.size)::SY)) Z fun g F=>F.elim .inl fun h=>.inr ⟨by have:=r.cR;omega,_,_,aI,h.1,h.2⟩;clear r R hb;generalize (wa7.heap.size,wb7.heap.size)::SY=Ul at*
 clear Z;obtain⟨afl,cfl,rfl,-,-⟩:=eM.shape hL;refine cE V (pR cP (fD x (dC f))) (fun O J r=>(Gm (S:=Cv S w.heap.size Ul) (rlo r U) (eL.cF (cP.l (cP.rel hX r oF) fun q hq=>by have:=TK q hq;omega) fun g F=>KW F) (eL.rel hL r U) (by rw[PJ,np];exact aN _) be).mono fun _ _ ⟨v2,e1,e2,e3⟩=>⟨v2,e1,e2,cP.cF e3.c fun g F=>F.new⟩) ?_;rintro O _ _ _ Sj r R V h_ Z;replace hX:=cP.cH hX r oF R (mC h_);replace hT:=cT.cH hT r oF R (mC h_);clear hL;have hE:=cP.cF Z (nw r h_);clear r R;clear Z;obtain⟨ae,ce,rfl,-,-⟩:=eM.shape hE;refine cE V (pR cY ((-1:Int):Rat)) (fun O J r=>lA (-1) J bi bi) ?_;rintro O _ _ _ Sh r R V h_ Z;replace hX:=cP.cH hX r oF R (mC h_);replace hT:=cT.cH hT r oF R (mC h_);replace hE:=cP.cH hE r oF R (mC h_);have hd:=Z.cF (nw r h_);clear r R Z;obtain⟨A0,A1,A2,A3,A4,A5,A6,A7,rfl⟩:=hd.shape;refine cE V (pR cP (dV (fD x (dC f)) (-1))) (fun O J r=>(BG (S:=Cf w Sh) (rlo r oF) (cP.l (cP.rel hE r oF) fun q hq=>by have:=hbr q hq;omega) ((hd.rel r oF).l bi) (by rw[jX];omega)).mono fun _ _ ⟨v2,e1,e2,e3⟩=>⟨v2,e1,e2,cP.cF e3.c fun g F=>F.new⟩) ?_;rintro O _ _ _ Q6 r R V h_ Z;replace hX:=cP.cH hX r oF R (mC h_);replace hT:=cT.cH hT r oF R (mC h_);clear hE;clear hd;have hG:=cP.cF Z (nw r h_);clear r R;clear Z;obtain⟨ag,cg,rfl,-,-⟩:=eM.shape hG
 refine cM (If:=fun _ J v I=>∃vu,v= .tuple #[vu,.bool true]/\eA I (Cf w Q6) J.heap.size [(J.heap.size,I.heap.size)] vu (cQ f).length u) (fun O J r=>(Dt (C:=Cf w Q6) (S:=Cf w Q6) (h:=2830) (rlo r oF) (rlo r oF) (cT.rel hT r oF) (cP.rel hG r oF) (by rw[dV,aM,jX,eP];exact PJ) (iY _ _) be (by rw[eP];omega) (mo (iL (iY _ _)) hwT nQ be) bi).mono fun _ _ ⟨v2,e1,e2,e3⟩=>⟨v2,e1,e2,by
  rcases e3 with⟨k1,_⟩|⟨x2,vx,k1,k2,k3⟩
  .rw[QJ]at k1;cases k1
  .rw[QJ]at k1;injection k1 with k1;subst k1;exact⟨vx,k2,k3⟩⟩) ?_
 rintro O QK v11 QV r R hb ⟨vu,rfl,Z⟩;replace V:=V.tr hb;replace hX:=cP.cH (K:=(QK.heap.size,QV.heap.size)::Q6) hX r oF R fun x G=>aA _ G;clear hT;clear hG;have hU:=Z.ND r.cR;clear r R hb;generalize (QK.heap.size,QV.heap.size)::Q6=PQ at*
 clear Z;obtain⟨au,cu,rfl,hcu⟩:=hU.row.form;exact rtn V fun GT we re=>.inr ⟨RG,.inr ⟨hnr.symm.trans VL,x,u,_,_,G,hu,rfl,cP.out hU.c re oF,cP.out hX re oF⟩⟩
def Ju:List Int:=[0,0,0,0,0,0,-1,0,0]
def BU:List Int:=[-3,3,9,0,0,-9,0,12,0]
def Hw:List Ld:=[(2,0,0,-12)]
abbrev NI:List Rat:=(dx Ju).set 8 (Rat.divInt (-3) 2)
theorem NJ:Rat.divInt 2000 1000=((2:Int):Rat):=by decide +kernel
theorem xW:kH fJ Hw=0:=by decide +kernel
theorem EH:vT fJ:=M9 (.inr ⟨bi,bi⟩) (by decide +kernel) (by decide +kernel) (ns xW).1
theorem CW:kj (cQ fJ) fJ.cols (Js fJ) (dV (j0 fJ Hw) (-1)) (dx BU):=⟨by decide +kernel,by decide +kernel,by decide +kernel⟩
theorem EI:mu (cQ fJ) fJ.cols=9:=by decide +kernel
theorem NK:fu (eS (cQ fJ) fJ.cols) (dV (fD (dx BU) (dC fJ)) (-1)) (cQ fJ).length=some NI:=by decide +kernel
theorem lH(w:World):eC PG Fn.vV #[] w (eI w fun v' _=>v'= .bool true):=by
 have V:=bR w;refine yu bv ?_;refine cD (cE V (fun _ J v I=>∃vn vb vs,v= .agg #[vn,vb,vs]/\dq I (Nf J I) vn vb vs fJ) (fun O J r=>ux J) ?_);rintro O _ _ _ OK r R V h_ ⟨vn1,vb1,vs1,rfl,Z⟩;have hf:=Z.iR r.cR (mN h_);clear r;clear Z;obtain⟨an1,cn1,ab1,cb1,aq1,cq1,rfl,rfl,rfl,-,-,-⟩:=hf.shape;refine cD (cE V (fun _ J v I=>∃vx,v= .tuple #[vx,iV 0]/\cP I (Nf J I) vx (dx BU)) (fun O J r=>(Fi (S:=(fun g=>Cf w OK g\/g=(O 0).g)) (l:=Hw) (fun g F=>F.elim (rlo r oF g) fun e=>by subst e;exact Rel.lt r (id:=0) rfl) (dq.cF (dq.rel hf r oF) fun g F=>.inl F) (show cU J (fun g=>Cf w OK g\/g=(O 0).g) (.slice (some ⟨(O 0).g,0,none⟩) 1 1) Hw from⟨[[iV 2,iV 0,iV 0,iV (-12)]],(r.mO (id:=0) (sz:=4) (n:=1) rfl rfl bi (by repeat' first|refine List.forall_mem_cons.2 ⟨rfl,?_⟩|exact fun u hu=>absurd hu List.not_mem_nil)).cF fun g F=>.inr F,rfl,bv,fun j L x Y X=>by cases j with|zero=>(cases Y;cases X;rfl)|succ j=>cases X⟩) (fun _=>EH)).mono fun _ _ ⟨v2,e1,e2,e3⟩=>⟨v2,e1,e2,e3.elim (fun h=>absurd xW h.1) fun h=>h.2.elim (fun g=>by obtain⟨z,hz⟩:=As (gi fJ) (x:=fun t=>(dx BU).getD t 0) CW.eq;rw[g.1]at hz;cases hz) fun⟨x,vx,g,k1,k2⟩=>⟨vx,k1,EH.Kn.one g CW▸k2⟩⟩) ?_);rintro O _ v2 _ OH r R V h_ ⟨vx1,rfl,Z⟩;clear hf;have G:=cP.cF Z (nw r h_);clear r;clear Z;obtain⟨ax1,cx1,rfl,-,-⟩:=eM.shape G;refine cD (cE V (fun _ J v I=>∃vn vb vs,v= .agg #[vn,vb,vs]/\dq I (Nf J I) vn vb vs fJ) (fun O J r=>ux J) ?_);rintro O _ _ _ OW r R V h_ ⟨vn2,vb2,vs2,rfl,Z⟩;replace G:=cP.cH G r oF R (mC h_);have hf:=Z.iR r.cR (mN h_);clear r;clear Z;obtain⟨an2,cn2,ab2,cb2,aq2,cq2,rfl,rfl,rfl,-,-,-⟩:=hf.shape
 refine cD (cE V (fun _ J v I=>∃vu vx,v= .tuple #[vu,vx,iV 0]/\cP I (Nf J I) vu NI/\∃a n c,vx= .slice a n c) (fun O J r=>(EG (S:=(fun g=>Cf w OW g\/g=(O 0).g)) (l:=Hw) (fun g F=>F.elim (rlo r oF g) fun e=>by subst e;exact Rel.lt r (id:=0) rfl) (dq.cF (dq.rel hf r oF) fun g F=>.inl F) (show cU J (fun g=>Cf w OW g\/g=(O 0).g) (.slice (some ⟨(O 0).g,0,none⟩) 1 1) Hw from⟨[[iV 2,iV 0,iV 0,iV (-12)]],(r.mO (id:=0) (sz:=4) (n:=1) rfl rfl bi (by repeat' first|refine List.forall_mem_cons.2 ⟨rfl,?_⟩|exact fun u hu=>absurd hu List.not_mem_nil)).cF fun g F=>.inr F,rfl,bv,fun j L x Y X=>by cases j with|zero=>(cases Y;cases X;rfl)|succ j=>cases X⟩) (fun _=>EH)).mono fun _ _ ⟨v2,e1,e2,e3⟩=>⟨v2,e1,e2,e3.elim (fun h=>absurd xW h.1) fun h=>h.2.elim (fun g=>absurd g.1 (by rw[EI];decide)) fun⟨_,x,u,vx,vu,g1,g2,e3,e4,e5⟩=>by
  obtain rfl:=EH.Kn.one g1 CW;rw[NK]at g2;injection g2 with g2;subst g2;obtain⟨a,c,h,_⟩:=eM.shape e5
  exact⟨vu,vx,e3,e4,a,_,c,h⟩⟩) ?_)
 rintro O _ _ _ Ow r R V h_ ⟨vu1,_,rfl,Z,ay1,ny1,cy1,rfl⟩;replace G:=cP.cH G r oF R (mC h_);clear hf;have hu:=cP.cF Z (nw r h_);clear r;clear Z;obtain⟨au1,cu1,rfl,-,-⟩:=eM.shape hu;refine cD (cE V (fun _ J v I=>∃vn vb vs,v= .agg #[vn,vb,vs]/\dq I (Nf J I) vn vb vs fJ) (fun O J r=>ux J) ?_);rintro O _ _ _ Qg r R V h_ ⟨vn3,vb3,vs3,rfl,Z⟩;replace G:=cP.cH G r oF R (mC h_);replace hu:=cP.cH hu r oF R (mC h_);have hf:=Z.iR r.cR (mN h_);clear r;clear Z;obtain⟨an3,cn3,ab3,cb3,aq3,cq3,rfl,rfl,rfl,-,-,-⟩:=hf.shape;refine cD (cE V (pE (.tuple #[FV 9 0 0,iV 0])) (fun O J r=>(Hv (S:=Cf w Qg) (rlo r oF) (dq.rel hf r oF) (fun _=>EH.toFrS)).mono fun _ _ ⟨v2,e1,e2,e3⟩=>⟨v2,e1,e2,e3.elim (fun h=>absurd (ns xW).1 h.1) fun h=>by rw[h.2,EI];rfl⟩) ?_);rintro O _ _ _ SY r R V h_ rfl;replace G:=cP.cH G r oF R (mC h_);replace hu:=cP.cH hu r oF R (mC h_);clear hf;clear r
 refine cD (cE V (fun _ J v I=>∃vr,v= .tuple #[vr,iV 0]/\cY I (Nf J I) vr ((2:Int):Rat)) (fun O J r=>(FT 25 10 J bi bi bi).mono fun _ _ ⟨v2,e1,e2,vr,rt,e3,e4,e5,e6⟩=>⟨v2,e1,e2,vr,e3,by
  have:rt=2000:=M0 e4 e5 bi bi;rw[this]at e6
  exact NJ▸e6⟩) ?_)
 rintro O _ _ _ Ul r R V h_ ⟨vr1,rfl,Z⟩;replace G:=cP.cH G r oF R (mC h_);replace hu:=cP.cH hu r oF R (mC h_);have hl:=Z.cF (nw r h_);clear r;obtain⟨s7_0a,s7_0b,s7_0c,s7_0d,s7_0e,s7_0f,s7_0g,s7_0h,rfl⟩:=hl.shape;clear Z;refine cD (cE V (fun _ J v I=>∃q,v= .tuple #[q,iV 0]/\cY I (Nf J I) q (Rat.divInt (-3) 2)) (fun O J r=>(Jv (-3) 2 J bi bi bi bi).mono fun _ _ ⟨v2,e1,e2,e3⟩=>⟨v2,e1,e2,e3.elim (fun k=>absurd k.1 bi) fun h=>h.2⟩) ?_);rintro O _ _ _ Sj r R V h_ ⟨q1,rfl,Z⟩;replace G:=cP.cH G r oF R (mC h_);replace hu:=cP.cH hu r oF R (mC h_);replace hl:=hl.cH r oF R (mC h_);have hh:=Z.cF (nw r h_);clear r;obtain⟨s8_0a,s8_0b,s8_0c,s8_0d,s8_0e,s8_0f,s8_0g,s8_0h,rfl⟩:=hh.shape;clear Z;refine cD (cM (If:=fun _ J v I=>eA I FF J.heap.size [(J.heap.size,I.heap.size)] v 9 (dx Ju)) (fun O J r=>EB (S:=fun g=>g=(O 4).g) (fun g F=>by subst F;exact Rel.lt r (id:=4) rfl) (Li r (id:=4) (n:=9) (l:=Ju) rfl rfl bi) bi bi bi) ?_);rintro O RV v9 R8 r R hb Z;replace V:=V.tr hb;replace G:=cP.cF (S':=Bs FF w.heap.size ((RV.heap.size,R8.heap.size)::Sj) v9) (cP.cK (cP.rel G r oF) fun g F=>R.block g (rlo r oF g F)) fun g F=>Bs.of r oF (fun x G=>aA _ G) Z F;replace hu:=cP.cF (S':=Bs FF w.heap.size ((RV.heap.size,R8.heap.size)::Sj) v9) (cP.cK (cP.rel hu r oF) fun g F=>R.block g (rlo r oF g F)) fun g F=>Bs.of r oF (fun x G=>aA _ G) Z F;replace hl:=cY.cF (S':=Bs FF w.heap.size ((RV.heap.size,R8.heap.size)::Sj) v9) (cY.cK (hl.rel r oF) fun g F=>R.block g (rlo r oF g F)) fun g F=>Bs.of r oF (fun x G=>aA _ G) Z F;replace hh:=cY.cF (S':=Bs FF w.heap.size ((RV.heap.size,R8.heap.size)::Sj) v9) (cY.cK (hh.rel r oF) fun g F=>R.block g (rlo r oF g F)) fun g F=>Bs.of r oF (fun x G=>aA _ G) Z F;have hX:=Z.iR (S:=FF) r.cR (iv:=(RV.heap.size,R8.heap.size)::Sj) aI;clear r R hb Z;generalize (RV.heap.size,R8.heap.size)::Sj=Sh at*
 obtain⟨ax,cx,rfl,hcx⟩:=hX.row.form;obtain⟨gx,rfl⟩:=hX.at bi;refine⟨⟨gx,0,none⟩,rfl,be,?_⟩;intro O J r;obtain⟨g,F,Y,X,N,h4,h5⟩:=(hX.rel r oF).store (j:=8) bi (hh.cK (Bs.same r oF)) r oF;injection F with F;injection F with F;subst F;refine⟨Y,X,N,fun w5 Qy=>?_⟩;obtain⟨k1,k2,k3⟩:=h5 w5 Qy;have PA:Bq w w5:=(V.tr r.cN).tr (jv.grown k2 (fun g e=>by injection e with e;subst e;exact h4.elim (fun h=>h.elim) fun h=>h.1) r.cR);have QH:=cP.cF (S':=Cf w Sh) (cP.cK G (Bs.kept r oF k2 fun g e=>e)) fun g F=>F.1;have UU:=cP.cF (S':=Cf w Sh) (cP.cK hu (Bs.kept r oF k2 fun g e=>e)) fun g F=>F.1;have Ps:=cY.cF (S':=Cf w Sh) (cY.cK hl (Bs.kept r oF k2 fun g e=>e)) fun g F=>F.1;have Ot:=k1.c;clear hX G hu hl hh V Y X N h4 h5 Qy k1 k2 k3 r;have V:=PA;have G:=QH;have hu:=UU;have hl:=Ps;have hd:=Ot;clear PA QH UU Ps Ot;refine dP (idO 36) ?_;refine cE V (fun _ J v I=>eA I FF J.heap.size [(J.heap.size,I.heap.size)] v 9 (dx BU)) (fun O J r=>EB (S:=fun g=>g=(O 5).g) (fun g F=>by subst F;exact Rel.lt r (id:=5) rfl) (Li r (id:=5) (n:=9) (l:=BU) rfl rfl bi) bi bi bi) ?_;rintro O _ _ _ Q6 r R V h_ Z;replace G:=cP.cH G r oF R (mC h_);replace hu:=cP.cH hu r oF R (mC h_);replace hl:=hl.cH r oF R (mC h_);replace hd:=cP.cH hd r oF R (mC h_);have hX:=Z.iR (S:=FF) r.cR (mN h_);clear r R Z;have hv:=hX.c;clear hX;obtain⟨av,cv,rfl,-,-⟩:=eM.shape hv;refine cE V (pE (.bool true)) (fun O J r=>(zZ (S:=Cf w Q6) (rlo r oF) (cP.rel G r oF) (cP.rel hv r oF)).mono fun _ _ ⟨v2,e1,e2,e3⟩=>⟨v2,e1,e2,by rw[e3];exact congrArg _ (bc rfl)⟩) ?_;rintro O _ _ _ PQ r R V h_ rfl;clear G;replace hu:=cP.cH hu r oF R (mC h_);replace hl:=hl.cH r oF R (mC h_);replace hd:=cP.cH hd r oF R (mC h_);clear hv;clear r R;refine cE V (pE (.bool true)) (fun O J r=>(zZ (S:=Cf w PQ) (rlo r oF) (cP.rel hu r oF) (cP.rel hd r oF)).mono fun _ _ ⟨v2,e1,e2,e3⟩=>⟨v2,e1,e2,by rw[e3];exact congrArg _ (bc rfl)⟩) ?_;rintro O _ _ _ RM r R V h_ rfl;clear hu;replace hl:=hl.cH r oF R (mC h_);clear hd;clear r R;refine⟨true,fun O w o1 o2=>LH 9 0 0 9 0 0 w o1 o2,?_⟩;refine cE V (pR cY ((2:Int):Rat)) (fun O J r=>zU 2 J bi) ?_;rintro O _ _ _ Tm r R V h_ Z;replace hl:=hl.cH r oF R (mC h_);have ht:=Z.cF (nw r h_);clear r R Z;obtain⟨A0,A1,A2,A3,A4,A5,A6,A7,rfl⟩:=ht.shape;refine cE V (pE (.bool true)) (fun O J r=>(Jw (S:=Cf w Tm) (rlo r oF) (hl.rel r oF) (ht.rel r oF)).mono fun _ _ ⟨v2,e1,e2,e3⟩=>⟨v2,e1,e2,by rw[e3];exact congrArg _ (bc rfl)⟩) ?_;rintro O _ _ _ iv14 r R V h_ rfl;clear hl;clear ht;clear r R;exact rtn V fun GT we re=>rfl
def c3(p:I3)(k:Nat):Int:=([p.1,p.2.1,p.2.2]:List Int).getD k 0
end Go.Ex
namespace Go.Ex
variable{a:Int}
abbrev Lc:=Int×Int×Int×Int
def wS(d:Lc):List Int:=[d.1,d.2.1,d.2.2.1,d.2.2.2]
def fw(a p:Int):Int:=((a*p+1000000-1) / 1000000+4-1) / 4
def oI(a:Int):Int:=if 0<=a/\a<=1000000000 then 0 else 2
def fU(n:Nat)(d:Lc)(a:Int):Int:=if ∀x∈wS d,gA n x then oI a else 6
abbrev Dk:=Lc×Int
def lY(n:Nat)(p:Int)(d:Dk):Int:=if fU n d.1 d.2≠0 then fU n d.1 d.2 else if 1000000<fw d.2 p then 8 else 0
def j5(p:Int)(d:Dk):List Ld:=(wS d.1).map fun x=>(x,0,0,-fw d.2 p)
def zw(n:Nat)(p:Int)(ds:List Dk):Int:=if ¬(0<=p/\p<=100000)then 2 else if 50<ds.length then 8 else cX (fun _=>lY n p) [] ds
def jl{α:Type}(g:α->List Ld):List α->List Ld
 |[]=>[]
 |x::r=>g x++jl g r
theorem Ha{α:Type}(g:α->List Ld)(l:List α)(x:α):jl g (l++[x])=jl g l++g x:=by
 induction l with
 |nil=>simp[jl]
 |cons y r ih=>rw[List.cons_append,jl,jl,ih,bI]
abbrev Wd:=Int×Int
def lZ(seen:List Wd)(w:Wd):Int:=if(∃v,seen.getLast? =some v/\w.1<=v.1)then 10 else if 0<=w.2/\w.2<=100000 then 0 else 2
def jZ(t:List Wd):Int:=if 100<t.length then 8 else cX lZ [] t
def iy(t:List Wd)(h:Int):Nat->Int
 |0=>0
 |i+1=>if(t.getD i (0,0)).1<=h then(t.getD i (0,0)).2 else iy t h i
abbrev Hb:=Lc×Int×Int×Int×Int
def zx(x:Hb):Prop:=(x.2.2.2.1=0\/x.2.2.2.1=1)/\(x.2.2.2.2=1\/x.2.2.2.2= -1)
instance (x : Hb) : Decidable (zx x) := by unfold zx; infer_instance
def kl(t:List Wd)(x:Hb):Int:=fw x.2.1 (iy t x.2.2.1 t.length)
def fM(n:Nat)(t:List Wd)(x:Hb):Int:=if fU n x.1 x.2.1≠0 then fU n x.1 x.2.1 else if ¬zx x then 2 else if 1000000<kl t x then 8 else 0
def eo(t:List Wd)(x:Hb):List Ld:=(wS x.1).map fun m=>if x.2.2.2.1=0 then(m,x.2.2.2.2*kl t x,0,0)else(m,0,x.2.2.2.2*kl t x,0)
def JN(n:Nat)(fs:List Hb)(t:List Wd):Int:=if jZ t≠0 then jZ t else if 50<fs.length then 8 else cX (fun _=>fM n t) [] fs
theorem Bu{p:Int}(Y:0<=a/\a<=1000000000)(X:0<=p/\p<=100000):0<=a*p/\a*p<=100000000000000:=by
 have e:(a*p).natAbs<=1000000000*100000:=by rw[Int.natAbs_mul];exact Nat.mul_le_mul be be
 exact⟨Int.mul_nonneg Y.1 X.1,be⟩
theorem jm{p:Int}(Y:0<=a/\a<=1000000000)(X:0<=p/\p<=100000):0<=fw a p/\fw a p<=100000000:=by
 have:=Bu Y X;unfold fw;omega
theorem ic{t:List Wd}(h:∀w∈t,0<=w.2/\w.2<=100000)(z:Int):∀i,i<=t.length->0<=iy t z i/\iy t z i<=100000
 |0,_=>⟨Int.le_refl 0,by show(0:Int)<=100000;decide⟩
 |i+1,D=>by
  have G:t.getD i (0,0)∈t:=by rw[List.getD,aB (show i<t.length by omega)];exact a9 _
  rw[iy];split
  .exact h _ G
  .exact ic h z i be
theorem Gd{t:List Wd}(h:jZ t=0):t.length<=100/\∀w∈t,0<=w.2/\w.2<=100000:=by
 unfold jZ at h;split at h
 .cases h
 .rename_i hl;refine⟨be,fun w V=>?_⟩;obtain⟨k,E⟩:=aT V;have:=fL h k w E;unfold lZ at this;split at this
  .cases this
  .split at this
   .assumption
   .cases this
theorem BB(w:Wd):lZ [] w=if 0<=w.2/\w.2<=100000 then 0 else 2:=by
 unfold lZ;rw[aF (by rintro⟨v,h,-⟩;cases h)]
theorem Dd{t:List Wd}{k:Nat}{v w:Wd}(h:t[k]? =some v):lZ (t.take (k+1)) w=if w.1<=v.1 then 10 else if 0<=w.2/\w.2<=100000 then 0 else 2:=by
 have hl:(t.take (k+1)).getLast? =some v:=by rw[aY,h];simp
 unfold lZ;rw[hl];by_cases Y:w.1<=v.1
 .rw[aH ⟨v,rfl,Y⟩,aH Y]
 .rw[aF (by rintro⟨x,G,X⟩;injection G with G;subst G;exact Y X),aF Y]
theorem k5{t:List Wd}{z:Int}{i:Nat}{x:Wd}(h:t[i]? =some x):iy t z (i+1)=if x.1<=z then x.2 else iy t z i:=by
 rw[iy,show t.getD i (0,0)=x by rw[List.getD,h];rfl]
theorem tA{n:Nat}{d:Lc}(h:fU n d a=0):(∀x∈wS d,gA n x)/\0<=a/\a<=1000000000:=by
 unfold fU oI at h;split at h
 .rename_i Y;split at h
  .exact⟨Y,by assumption⟩
  .cases h
 .cases h
end Go.Ex
namespace Go.Ex
open Go Go.Sx Go.Proofs
variable{a p:Int}{r:List Sx.At}{k:Nat}{S:Nat->Prop}{v:Value}{w:World}{f:fc}
def Gu(_w:World)(_S:Nat->Prop)(L:List Value)(p:Wd):Prop:=L=[iV p.1,iV p.2]
def Gv(_w:World)(_S:Nat->Prop)(L:List Value)(p:Dk):Prop:=L=[iV p.1.1,iV p.1.2.1,iV p.1.2.2.1,iV p.1.2.2.2,iV p.2]
def Gw(_w:World)(_S:Nat->Prop)(L:List Value)(p:Hb):Prop:=L=[iV p.1.1,iV p.1.2.1,iV p.1.2.2.1,iV p.1.2.2.2,iV p.2.1,iV p.2.2.1,iV p.2.2.2.1,iV p.2.2.2.2]
abbrev oC:=dW 2 Gu
abbrev sJ:=dW 5 Gv
abbrev sK:=dW 8 Gw
theorem qT{d:Lc}{x:Int}(h:(wS d)[k]? =some x):(#[iV d.1,iV d.2.1,iV d.2.2.1,iV d.2.2.2]:Array Value)[((k:Nat):Int).toNat]? =some (iV x):=by
 rw[aJ];rcases k with _|_|_|_|k
 .injection h with h;subst h;rfl
 .injection h with h;subst h;rfl
 .injection h with h;subst h;rfl
 .injection h with h;subst h;rfl
 .cases h
theorem z4{b:Int}(h:0<=a):a.tdiv b=a / b:=Int.tdiv_eq_ediv_of_nonneg h
theorem Lo{n b:Int}(w:World)(Z:0<=n/\n<=1000000000000000)(hb:1<=b/\b<=1000000):eC PG Fn.ym #[iV n,iV b] w (eI w fun v' _=>v'=iV ((n+b-1) / b)):=by
 have V:=bR w;have hq:=Int.ediv_le_self (a:=n+b-1) b be;have VE:0<=(n+b-1) / b:=Int.ediv_nonneg be be;refine AD bv ?_;refine⟨n+b,wo,n+b-1,wo,be,(n+b-1) / b,by rw[z4 be,wrap64]<;>omega,?_⟩;exact rtn V fun GT we re=>rfl
theorem lI(w:World)(ha:0<=a/\a<=1000000000)(hp:0<=p/\p<=100000):eC PG Fn.oN #[iV a,iV p] w (eI w fun v' _=>v'=iV (fw a p)):=by
 have V:=bR w;have Q7:=Bu ha hp;refine rb bv ?_;refine⟨a*p,wo,?_⟩;refine cD (cE V (pE (iV ((a*p+1000000-1) / 1000000))) (fun O J r=>Lo J be bi) ?_);rintro O _ _ _ OK r R V h_ rfl;clear r;refine cD (cE V (pE (iV (fw a p))) (fun O J r=>Lo J (n:=(a*p+1000000-1) / 1000000) be bi) ?_);rintro O _ _ _ OH r R V h_ rfl;clear r;exact rtn V fun GT we re=>rfl
theorem sL(w:World)(ha:0<=a/\a<=1000000000)(hp:0<=p/\p<=100000):eC PG Fn.qn #[iV a,iV p] w (eI w fun v' _=>v'=iV (fw a p)):=by
 have V:=bR w;have Q7:=Bu ha hp;obtain⟨t,ht⟩:=exq ((a*p+999999) / 1000000);have hq:fw a p=(t+3) / 4:=by unfold fw;omega
 refine uf bv ?_;refine⟨a*p,wo,a*p+999999,wo,bi,t,by rw[z4 be,ht,wrap64]<;>omega,t+3,wo,bi,(t+3) / 4,by rw[z4 be,wrap64]<;>omega,?_⟩;exact rtn V fun GT we re=>by rw[hq];rfl
theorem rD(d:Lc)(a:Int)(w:World)(an ab aq:Option Addr)(ln cn nb cb nq cq:Nat):eC PG Fn.kv #[.agg #[.slice an ln cn,.slice ab nb cb,.slice aq nq cq],.agg #[iV d.1,iV d.2.1,iV d.2.2.1,iV d.2.2.2],iV a] w (eI w fun v' _=>v'=iV (fU ln d a)):=by
 have V:=bR w;refine oY bv ?_
 refine⟨Nat×World×Iv,fun z=>⟨[(2,iZ a),(3,pP 0 0),(9,.a [.v (iV d.1),.v (iV d.2.1),.v (iV d.2.2.1),.v (iV d.2.2.2)]),(10,iN z.1)],[(0,.box T.Frame [.v (.slice an ln cn),.v (.slice ab nb cb),.v (.slice aq nq cq)])],1,z.2.2,z.2.1⟩,fun z=>4-z.1,
  fun z=>z.1<=4/\Bq w z.2.1/\∀(j:Nat) x,j<z.1->(wS d)[j]? =some x->gA ln x,?_,?_⟩
 .intro O J A;exact⟨(0,J,_),⟨aP _,V.tr A.cN,fun j x hj=>be⟩,sbgn [] A⟩
 clear V;rintro⟨k,w1,iv⟩ ⟨E,V,hN⟩;dsimp only at E V hN ⊢;apply bS<;>intro OA
 .have OA:k<4:=by have:=aE OA;omega
  obtain⟨x,G⟩:∃x,(wS d)[k]? =some x:=⟨_,aB (show k<4 from OA)⟩
  refine iT hτ (L:= #[iV d.1,iV d.2.1,iV d.2.2.1,iV d.2.2.2]) rfl rfl rfl (fun _=>rfl) rfl ⟨be,be⟩ (qT G) (fun O w4 r=>?_);replace V:=V.tr r.cN;clear r;refine cD (cE V (fun _ J v I=>∃d,v= .bool d/\(d=true↔gA ln x)) (fun O J r=>CM x J an ab aq ln cn nb cb nq cq) ?_);rintro O _ _ _ OK r R V h_ ⟨d1,rfl,OG⟩;clear r
  cases d1
  .have Qm:fU ln d a=6:=by
    unfold fU;rw[aF fun h=>by have:=OG.2 (h x (aG G));cases this]
   exact rtn V fun GT we re=>by rw[Qm];rfl
  have TM:∀(j:Nat) y,j<k+1->(wS d)[j]? =some y->gA ln y:=fun j y hj hy=>by
   rcases aR j k with g|g
   .exact hN j y g hy
   .have e:j=k:=by omega
    subst e;rw[G]at hy;injection hy with hy;exact hy▸OG.1 rfl
  refine inc k ?_;intro IR w6 A;exact⟨(k+1,w6,_),⟨OA,V.tr A.cN,TM⟩,sbgn [] A,dec OA⟩
 have OA:k=4:=by have:=aC OA;omega
 subst OA;have hE:fU ln d a=oI a:=by
  unfold fU
  rw[aH fun x G=>by
   obtain⟨j,hj⟩:=aT G
   exact hN j x (aD.1 hj).1 hj]
 apply bS<;>intro Y
 .conv=>whnf
  have Y:=aE Y;exact rtn V fun GT we re=>by rw[hE,oI,aF be];rfl
 apply bS<;>intro X
 .conv=>whnf
  have X:=aE X;exact rtn V fun GT we re=>by rw[hE,oI,aF be];rfl
 have Y:=aC Y;have X:=aC X;exact rtn V fun GT we re=>by rw[hE,oI,aH be];rfl
theorem CX{t:List Wd}(U:Old S w)(hT:oC w S v t):eC PG Fn.l6 #[v] w (eI w fun v' _=>v'=iV (jZ t)):=by
 have V:=bR w;obtain⟨a,c,rfl,-,hmt⟩:=hT.shape;unfold maxLen at hmt;obtain⟨e0,EE⟩:=exq (jZ t);rw[EE];refine pT bv ?_;apply bS<;>intro Y
 .have Y:=aE Y;have OC:jZ t=8:=by rw[jZ,aH be]
  rw[OC]at EE;subst EE;exact rtn V fun GT we re=>rfl
 have Y:¬100<t.length:=by have:=aC Y;omega
 have OC:jZ t=cX lZ [] t:=by rw[jZ,aF Y]
 refine⟨Nat×World×Iv,fun z=>⟨[(0,sV a t.length c),(8,sV a t.length c),(9,iZ t.length),(10,iN z.1)],[],0,z.2.2,z.2.1⟩,fun z=>t.length-z.1,
  fun z=>z.1<=t.length/\Bq w z.2.1/\cX lZ [] t=cX lZ (t.take z.1) (t.drop z.1),?_,?_⟩
 .intro O J A;exact⟨(0,J,_),⟨aP _,V.tr A.cN,rfl⟩,sbgn [] A⟩
 clear V;rintro⟨i,w1,iv⟩ ⟨D,V,hE⟩;dsimp only at D V hE ⊢;apply bS<;>intro Ny
 .have Ny:=dL Ny;obtain⟨x,G⟩:=gO t i;obtain⟨adx,csx,Od,hP,-,OZ⟩:=hT.load bi G;have hP:csx=[iV x.1,iV x.2]:=hP;subst hP;refine⟨adx,Od,be,[iV x.1,iV x.2],rfl,rdO OZ V U,?_⟩;refine dP (idO 14) ?_;apply bS<;>intro N
  .obtain⟨k,rfl⟩:∃k,i=k+1:=⟨i-1,by have:=aE N;omega⟩
   obtain⟨v,hv⟩:=gO t k;obtain⟨adv,csv,hav,hP,-,hlv⟩:=hT.load bi hv;have hP:csv=[iV v.1,iV v.2]:=hP;subst hP;have S2:=Dd (w:=x) hv;refine⟨((k:Nat):Int),wo,adv,hav,be,iV v.1,rdF (hlv 0 _ rfl) V U,?_⟩;apply bS<;>intro h4
   .have h4:=aE h4;have OC:jZ t=10:=by rw[OC,hE];exact cJ G (by rw[S2,aH h4]) bi
    rw[OC]at EE;subst EE;exact rtn V fun GT we re=>rfl
   have h4:=aC h4;apply bS<;>intro h5
   .have h5:=aE h5;have OC:jZ t=2:=by rw[OC,hE];exact cJ G (by rw[S2,aF h4,aF be]) bi
    rw[OC]at EE;subst EE;exact rtn V fun GT we re=>rfl
   apply bS<;>intro h6
   .have h6:=aE h6;have OC:jZ t=2:=by rw[OC,hE];exact cJ G (by rw[S2,aF h4,aF be]) bi
    rw[OC]at EE;subst EE;exact rtn V fun GT we re=>rfl
   have h5:=aC h5;have h6:=aC h6;rw[dH G (by rw[S2,aF h4,aH be])]at hE;refine⟨((k+1+1:Nat):Int),wo,?_⟩;intro IR w6 A;exact⟨(k+1+1,w6,_),⟨Ny,V.tr A.cN,hE⟩,sbgn [] A,by dsimp only;omega⟩
  have N:i=0:=by have:=aC N;omega
  subst N;have S2:lZ (t.take 0) x=_:=BB x;apply bS<;>intro h5
  .have h5:=aE h5;have OC:jZ t=2:=by rw[OC,hE];exact cJ G (by rw[S2,aF be]) bi
   rw[OC]at EE;subst EE;exact rtn V fun GT we re=>rfl
  apply bS<;>intro h6
  .have h6:=aE h6;have OC:jZ t=2:=by rw[OC,hE];exact cJ G (by rw[S2,aF be]) bi
   rw[OC]at EE;subst EE;exact rtn V fun GT we re=>rfl
  have h5:=aC h5;have h6:=aC h6;rw[dH G (by rw[S2,aH be])]at hE;refine inc 0 ?_;intro IR w6 A;exact⟨(0+1,w6,_),⟨Ny,V.tr A.cN,hE⟩,sbgn [] A,by dsimp only;omega⟩
 have Ny:t.length<=i:=by have:=aC Ny;omega
 rw[dy Ny]at hE;have OC:jZ t=0:=by rw[OC,hE]
 rw[OC]at EE;subst EE;exact rtn V fun GT we re=>rfl
theorem jP{α:Type}{g:α->List Ld}{l:List α}{i:Nat}{x:α}(h:l[i]? =some x):jl g (l.take (i+1))=jl g (l.take i)++g x:=by
 rw[aY,h];exact Ha g _ x
theorem z5{d:Dk}{x:Int}(h:(wS d.1)[k]? =some x):(j5 p d).take (k+1)=(j5 p d).take k++[(x,0,0,-fw d.2 p)]:=by
 rw[aY,j5,aO,h];rfl
theorem z6{d:Lc}{x:Int}(h:(wS d)[k]? =some x):zo (.v (iV d.1):: .v (iV d.2.1):: .v (iV d.2.2.1):: .v (iV d.2.2.2)::r) (0+0+((k:Nat):Int).toNat*1)=some (.v (iV x)):=by
 rw[aJ,aw,aX];rcases k with _|_|_|_|k
 .injection h with h;subst h;rfl
 .injection h with h;subst h;rfl
 .injection h with h;subst h;rfl
 .injection h with h;subst h;rfl
 .cases h
theorem tq{vn vb vs:Value}{ds:List Dk}{e0:Int}(U:Old S w)(hf:dq w S vn vb vs f)(hD:sJ w S v ds)(OJ:e0=if eJ f≠0 then eJ f else zw f.nodes.length p ds):
  eC PG Fn.l0 #[.agg #[vn,vb,vs],v,iV p] w (eI w fun v' I=>(e0≠0/\v'= .tuple #[nls,iV e0])\/(e0=0/\∃vr,v'= .tuple #[vr,iV 0]/\cU I (Nf w I) vr (jl (j5 p) ds))):=by
 have V:=bR w;obtain⟨an,cn,ab,cb,aq,cq,rfl,rfl,rfl,RH,Rh,Si⟩:=hf.shape;obtain⟨ad,cd,rfl,-,hmd⟩:=hD.shape;unfold maxLen at hmd;obtain⟨ef,TD⟩:=exq (eJ f);rw[TD]at OJ;refine pQ bv ?_;conv=>whnf
 refine cD (cE V (pE (iV ef)) (fun O J r=>(tk (oS U r) (hf.cK (kS V r U))).mono fun _ _ ⟨v2,e1,e2,e3⟩=>⟨v2,e1,e2,by rw[e3,TD]⟩) ?_);rintro O _ _ _ OK r R V h_ rfl;clear r;conv=>whnf
 apply bS<;>intro Y
 .have Y:ef≠0:=by simpa using Y
  have OC:e0=ef:=by rw[OJ,aH Y]
  conv=>whnf
  exact rtn V fun GT we re=>.inl ⟨by rw[OC];exact Y,by rw[OC];rfl⟩
 have Y:ef=0:=by simpa using Y
 rw[aF (fun h=>h Y)]at OJ;conv=>whnf
 apply bS<;>intro X
 .have X:=aE X;have OC:e0=2:=by rw[OJ,zw,aH be]
  conv=>whnf
  exact rtn V fun GT we re=>.inl ⟨by rw[OC];decide,by rw[OC];rfl⟩
 have hp0:=aC X;conv=>whnf
 apply bS<;>intro X
 .have X:=aE X;have OC:e0=2:=by rw[OJ,zw,aH be]
  conv=>whnf
  exact rtn V fun GT we re=>.inl ⟨by rw[OC];decide,by rw[OC];rfl⟩
 have QC:=aC X;conv=>whnf
 have hp:0<=p/\p<=100000:=by omega
 apply bS<;>intro X
 .have X:=aE X;have OC:e0=8:=by rw[OJ,zw,aF (fun h=>h hp),aH be]
  conv=>whnf
  exact rtn V fun GT we re=>.inl ⟨by rw[OC];decide,by rw[OC];rfl⟩
 have h50:¬50<ds.length:=by have:=aC X;omega
 rw[zw,aF (fun h=>h hp),aF h50]at OJ;conv=>whnf
 refine⟨Nat×List (List Value)×World×Iv,fun z=>⟨[(2,iZ p),(3,pP 0 0),(9,.o (.w 1 z.2.1.length)),(32,sV ad ds.length cd),(33,iZ ds.length),(34,iN z.1)],[(1,.vec T.gV 4 z.2.1.flatten),(0,.box T.Frame [.v (.slice an f.nodes.length cn),.v (.slice ab f.bars.length cb),.v (.slice aq f.cV.length cq)])],2,z.2.2.2,z.2.2.1⟩,fun z=>ds.length-z.1,
  fun z=>z.1<=ds.length/\Bq w z.2.2.1/\dR 4 dD z.2.2.1 S z.2.1 (jl (j5 p) (ds.take z.1))/\z.2.1.length=4*z.1/\e0=cX (fun _=>lY f.nodes.length p) (ds.take z.1) (ds.drop z.1),?_,?_⟩
 .intro O J r;exact⟨(0,[],J,_),⟨aP _,V.tr r.cN,dR.nil,rfl,OJ⟩,Sub.nil 9 T.gV 4 rfl (by simp[kL,SV.sc,At.sc,fp]) r fun Id r1=>sbgn [] r1⟩
 clear V OJ;rintro⟨i,W,w1,iv⟩ ⟨D,V,hG,OR,OJ⟩;dsimp only at D V hG OR OJ ⊢;have OL:=ed hG.wid;conv=>whnf
 apply bS<;>intro Ny
 .have Ny:=dL Ny;obtain⟨d,hd⟩:=gO ds i;obtain⟨adx,csx,Od,hP,-,OZ⟩:=hD.load bi hd;have hP:csx=[iV d.1.1,iV d.1.2.1,iV d.1.2.2.1,iV d.1.2.2.2,iV d.2]:=hP;subst hP;conv=>whnf
  refine⟨adx,Od,be,?_⟩;conv=>whnf
  refine⟨[iV d.1.1,iV d.1.2.1,iV d.1.2.2.1,iV d.1.2.2.2,iV d.2],rfl,rdO OZ V U,?_⟩;conv=>whnf
  refine cD (cE V (pE (iV (fU f.nodes.length d.1 d.2))) (fun O J r=>rD d.1 d.2 J an ab aq _ cn _ cb _ cq) ?_);rintro O _ _ _ PQ r R V h_ rfl;clear r;obtain⟨pe,Px⟩:=exq (fU f.nodes.length d.1 d.2);rw[Px];conv=>whnf
  apply bS<;>intro X
  .have X:pe≠0:=by simpa using X
   have OC:e0=pe:=by rw[OJ];exact cJ hd (by rw[lY,Px,aH X]) X
   conv=>whnf
   exact rtn V fun GT we re=>.inl ⟨by rw[OC];exact X,by rw[OC];rfl⟩
  have X:pe=0:=by simpa using X
  subst X;obtain⟨-,Q4,Qk⟩:=tA Px;conv=>whnf
  refine cD (cE V (pE (iV (fw d.2 p))) (fun O J r=>lI J ⟨Q4,Qk⟩ hp) ?_);rintro O _ _ _ RM r R V h_ rfl;clear r;have S3:=jm (a:=d.2) (p:=p) ⟨Q4,Qk⟩ hp;obtain⟨q,QL⟩:=exq (fw d.2 p);rw[QL]at S3;conv=>whnf
  rw[QL];conv=>whnf
  apply bS<;>intro N
  .have N:=aE N;have OC:e0=8:=by rw[OJ];exact cJ hd (by rw[lY,aF (fun h=>h Px),aH be]) bi
   conv=>whnf
   exact rtn V fun GT we re=>.inl ⟨by rw[OC];decide,by rw[OC];rfl⟩
  have N:=aC N;have S4:lY f.nodes.length p d=0:=by rw[lY,aF (fun h=>h Px),aF be]
  have Pw:=OJ;rw[dH (e:=fun _=>lY f.nodes.length p) hd S4]at Pw;have S5:=jP (g:=j5 p) hd;conv=>whnf
  refine⟨Nat×List (List Value)×World×Iv,fun z=>⟨[(2,iZ p),(3,pP 0 0),(9,.o (.w 1 z.2.1.length)),(13,iZ q),(32,sV ad ds.length cd),(33,iZ ds.length),(34,iN i),(54,.a [.v (iV d.1.1),.v (iV d.1.2.1),.v (iV d.1.2.2.1),.v (iV d.1.2.2.2)]),(55,iN z.1)],[(1,.vec T.gV 4 z.2.1.flatten),(0,.box T.Frame [.v (.slice an f.nodes.length cn),.v (.slice ab f.bars.length cb),.v (.slice aq f.cV.length cq)])],2,z.2.2.2,z.2.2.1⟩,fun z=>4-z.1,
   fun z=>z.1<=4/\Bq w z.2.2.1/\dR 4 dD z.2.2.1 S z.2.1 (jl (j5 p) (ds.take i)++(j5 p d).take z.1)/\z.2.1.length=4*i+z.1,?_,?_⟩
  .intro O J r;exact⟨(0,W,J,_),⟨aP _,V.tr r.cN,by dsimp only;rw[List.take_zero,List.append_nil];exact dR.map (P:=dD) (P':=dD) (I:=J) (S':=S) hG fun _ _ h=>h,OR⟩,sbgn [] r⟩
  clear V hG OR OL;rintro⟨k,W,I,iv⟩ ⟨E,V,hG,OR⟩;dsimp only at E V hG OR ⊢;have OL:=ed hG.wid;conv=>whnf
  apply bS<;>intro OA
  .have OA:k<4:=by have:=aE OA;omega
   obtain⟨x,G⟩:∃x,(wS d.1)[k]? =some x:=⟨_,aB (show k<4 from OA)⟩
   conv=>whnf
   refine iT hτ (L:= #[iV d.1.1,iV d.1.2.1,iV d.1.2.2.1,iV d.1.2.2.2]) rfl rfl rfl (fun _=>rfl) rfl ⟨be,be⟩ (qT G) (fun O w4 r=>?_);replace V:=V.tr r.cN;clear r;conv=>whnf
   refine⟨-q,wo,?_⟩;conv=>whnf
   have PF:=hG.push (L:=[iV x,iV 0,iV 0,iV (-q)]) (q:=(x,0,0,-q)) rfl rfl;rw[bI,show((x,0,0,-q):Ld)=(x,0,0,-fw d.2 p) by rw[QL],<-z5 G]at PF;have OV:W.flatten++([iV x,iV 0,iV 0,iV (-q)]:List Value)=(W++([[iV x,iV 0,iV 0,iV (-q)]]:List (List Value))).flatten:=by simp
   conv=>whnf
   refine .inl ?_;conv=>whnf
   refine⟨be,be,mx,?_⟩;conv=>whnf
   refine inc k ?_;conv=>whnf
   intro IR w6 A;exact⟨(k+1,W++([[iV x,iV 0,iV 0,iV (-q)]]:List (List Value)),w6,_),⟨OA,V.tr A.cN,dR.map (P:=dD) (P':=dD) (I:=w6) (S':=S) PF fun _ _ h=>h,by dsimp only;rw[List.length_append,List.length_singleton,OR];omega⟩,sbgn [(1,3)] A ⟨by dsimp only;rw[<-OV];rfl,rfl,trivial⟩ ⟨rfl,rfl,by dsimp only;rw[l1];rfl,rfl,rfl,rfl,rfl,rfl,rfl,trivial⟩,dec OA⟩
  have OA:k=4:=by have:=aC OA;omega
  subst OA;rw[show (j5 p d).take 4=j5 p d from rfl,<-S5]at hG;conv=>whnf
  refine inc i ?_;conv=>whnf
  intro IR w6 A;exact⟨(i+1,W,w6,_),⟨Ny,V.tr A.cN,dR.map (P:=dD) (P':=dD) (I:=w6) (S':=S) hG fun _ _ h=>h,by dsimp only;omega,Pw⟩,sbgn [] A,dec Ny⟩
 have Ny:i=ds.length:=by have:=aC Ny;omega
 rw[dy be]at OJ;rw[Ny,bG]at hG;conv=>whnf
 have OC:e0=0:=by exact OJ
 conv=>whnf
 intro GT we re;have h5:=re.iq (id:=1) (sz:=4) (m:=W.length) rfl OL mx bi (hG.one fun L q h=>dD.one h);exact⟨_,rfl,V.tr re.cN,.inr ⟨OC,_,rfl,dR.list (hG.map fun L q h=>h) (h5.cF fun g F=>.inr F)⟩⟩
theorem CY{vn vb vs:Value}{ds:List Dk}{e0:Int}(U:Old S w)(hf:dq w S vn vb vs f)(hD:sJ w S v ds)(OJ:e0=zw f.nodes.length p ds):
  eC PG Fn.oJ #[.agg #[vn,vb,vs],v,iV p] w (eI w fun v' I=>(e0≠0/\v'= .tuple #[nls,iV e0])\/(e0=0/\∃vr,v'= .tuple #[vr,iV 0]/\cU I (Nf w I) vr (jl (j5 p) ds))):=by
 have V:=bR w;obtain⟨an,cn,ab,cb,aq,cq,rfl,rfl,rfl,RH,Rh,Si⟩:=hf.shape;obtain⟨ad,cd,rfl,-,hmd⟩:=hD.shape;unfold maxLen at hmd;refine rZ bv ?_;conv=>whnf
 refine cD (cE V (fun _ J v I=>∃d,v= .bool d/\(d=true↔0<=p/\p<=100000)) (fun O J r=>fm p 0 100000 J) ?_);rintro O _ _ _ OK r R V h_ ⟨d1,rfl,OG⟩;clear r
 cases d1
 .have OG:¬(0<=p/\p<=100000):=fun h=>by have:=OG.2 h;cases this
  have OC:e0=2:=by rw[OJ,zw,aH OG]
  conv=>whnf
  exact rtn V fun GT we re=>.inl ⟨by rw[OC];decide,by rw[OC];rfl⟩
 have hp:=OG.1 rfl;conv=>whnf
 have hp:0<=p/\p<=100000:=by omega
 apply bS<;>intro X
 .have X:=aE X;have OC:e0=8:=by rw[OJ,zw,aF (fun h=>h hp),aH be]
  conv=>whnf
  exact rtn V fun GT we re=>.inl ⟨by rw[OC];decide,by rw[OC];rfl⟩
 have h50:¬50<ds.length:=by have:=aC X;omega
 rw[zw,aF (fun h=>h hp),aF h50]at OJ;conv=>whnf
 refine⟨Nat×List (List Value)×World×Iv,fun z=>⟨[(1,sV ad ds.length cd),(2,iZ p),(3,pP 0 0),(8,.o (.w 1 z.2.1.length)),(9,iN z.1)],[(1,.vec T.gV 4 z.2.1.flatten),(0,.box T.Frame [.v (.slice an f.nodes.length cn),.v (.slice ab f.bars.length cb),.v (.slice aq f.cV.length cq)])],2,z.2.2.2,z.2.2.1⟩,fun z=>ds.length-z.1,
  fun z=>z.1<=ds.length/\Bq w z.2.2.1/\dR 4 dD z.2.2.1 S z.2.1 (jl (j5 p) (ds.take z.1))/\z.2.1.length=4*z.1/\e0=cX (fun _=>lY f.nodes.length p) (ds.take z.1) (ds.drop z.1),?_,?_⟩
 .intro O J r;exact⟨(0,[],J,_),⟨aP _,V.tr r.cN,dR.nil,rfl,OJ⟩,Sub.nil 8 T.gV 4 rfl (by simp[kL,SV.sc,At.sc,fp]) r fun Id r1=>sbgn [] r1⟩
 clear V OJ;rintro⟨i,W,w1,iv⟩ ⟨D,V,hG,OR,OJ⟩;dsimp only at D V hG OR OJ ⊢;have OL:=ed hG.wid;conv=>whnf
 apply bS<;>intro Ny
 .have Ny:=dL Ny;obtain⟨d,hd⟩:=gO ds i;obtain⟨adx,csx,Od,hP,-,OZ⟩:=hD.load bi hd;have hP:csx=[iV d.1.1,iV d.1.2.1,iV d.1.2.2.1,iV d.1.2.2.2,iV d.2]:=hP;subst hP;conv=>whnf
  refine⟨adx,Od,be,?_⟩;conv=>whnf
  refine⟨[iV d.1.1,iV d.1.2.1,iV d.1.2.2.1,iV d.1.2.2.2,iV d.2],rfl,rdO OZ V U,?_⟩;conv=>whnf
  refine⟨Nat×World×Iv,fun z=>⟨[(1,sV ad ds.length cd),(2,iZ p),(3,pP 0 0),(8,.o (.w 1 W.length)),(9,iN i),(10,pP 2 0),(11,iN z.1)],[(2,.box T.Mz [.v (iV d.1.1),.v (iV d.1.2.1),.v (iV d.1.2.2.1),.v (iV d.1.2.2.2),.v (iV d.2)]),(1,.vec T.gV 4 W.flatten),(0,.box T.Frame [.v (.slice an f.nodes.length cn),.v (.slice ab f.bars.length cb),.v (.slice aq f.cV.length cq)])],3,z.2.2,z.2.1⟩,fun z=>4-z.1,
   fun z=>z.1<=4/\Bq w z.2.1/\∀(j:Nat) x,j<z.1->(wS d.1)[j]? =some x->gA f.nodes.length x,?_,?_⟩
  .intro O J A;exact⟨(0,J,_),⟨aP _,V.tr A.cN,fun j x hj=>be⟩,sbgn [] A⟩
  clear V;rintro⟨k,I,iv⟩ ⟨E,V,hN⟩;dsimp only at E V hN ⊢;conv=>whnf
  apply bS<;>intro OA
  .have OA:k<4:=by have:=aE OA;omega
   obtain⟨x,G⟩:∃x,(wS d.1)[k]? =some x:=⟨_,aB (show k<4 from OA)⟩
   conv=>whnf
   refine dP (idO 7) ?_;conv=>whnf
   refine⟨be,?_⟩;conv=>whnf
   rw[z6 G];conv=>whnf
   refine cE V (fun _ J v I=>∃d,v= .bool d/\(d=true↔gA f.nodes.length x)) (fun O J r=>mn x an ab aq _ cn _ cb _ cq J) ?_;rintro O QK v11 QV PQ r R V h_ ⟨d2,rfl,OQ⟩;clear r
   cases d2
   .have Qm:fU f.nodes.length d.1 d.2=6:=by
     unfold fU;rw[aF fun h=>by have:=OQ.2 (h x (aG G));cases this]
    have OC:e0=6:=by rw[OJ];exact cJ hd (by rw[lY,Qm,aH bi]) bi
    conv=>whnf
    exact rtn V fun GT we re=>.inl ⟨by rw[OC];decide,by rw[OC];rfl⟩
   have TM:∀(j:Nat) y,j<k+1->(wS d.1)[j]? =some y->gA f.nodes.length y:=fun j y hj hy=>by
    rcases aR j k with g|g
    .exact hN j y g hy
    .have e:j=k:=by omega
     subst e;rw[G]at hy;injection hy with hy;exact hy▸OQ.1 rfl
   conv=>whnf
   refine inc k ?_;conv=>whnf
   intro IR w6 A;exact⟨(k+1,w6,_),⟨OA,V.tr A.cN,TM⟩,sbgn [] A,dec OA⟩
  have OA:k=4:=by have:=aC OA;omega
  subst OA;have hE:fU f.nodes.length d.1 d.2=oI d.2:=by
   unfold fU
   rw[aH fun x G=>by
    obtain⟨j,hj⟩:=aT G
    exact hN j x (aD.1 hj).1 hj]
  clear hN E;conv=>whnf
  refine cD (cE V (fun _ J v I=>∃b,v= .bool b/\(b=true↔0<=d.2/\d.2<=1000000000)) (fun O J r=>fm d.2 0 1000000000 J) ?_);rintro O _ _ _ PQ r R V h_ ⟨d2,rfl,OQ⟩;clear r
  cases d2
  .have OQ:¬(0<=d.2/\d.2<=1000000000):=fun h=>by have:=OQ.2 h;cases this
   have OC:e0=2:=by rw[OJ];exact cJ hd (by rw[lY,hE,oI,aF OQ,aH bi]) bi
   conv=>whnf
   exact rtn V fun GT we re=>.inl ⟨by rw[OC];decide,by rw[OC];rfl⟩
  have Px:fU f.nodes.length d.1 d.2=0:=by rw[hE,oI,aH (OQ.1 rfl)]
  obtain⟨-,Q4,Qk⟩:=tA Px;conv=>whnf
  refine cD (cE V (pE (iV (fw d.2 p))) (fun O J r=>sL J ⟨Q4,Qk⟩ hp) ?_);rintro O _ _ _ RM r R V h_ rfl;clear r;have S3:=jm (a:=d.2) (p:=p) ⟨Q4,Qk⟩ hp;obtain⟨q,QL⟩:=exq (fw d.2 p);rw[QL]at S3;conv=>whnf
  rw[QL];conv=>whnf
  apply bS<;>intro N
  .have N:=aE N;have OC:e0=8:=by rw[OJ];exact cJ hd (by rw[lY,aF (fun h=>h Px),aH be]) bi
   conv=>whnf
   exact rtn V fun GT we re=>.inl ⟨by rw[OC];decide,by rw[OC];rfl⟩
  have N:=aC N;have S4:lY f.nodes.length p d=0:=by rw[lY,aF (fun h=>h Px),aF be]
  have Pw:=OJ;rw[dH (e:=fun _=>lY f.nodes.length p) hd S4]at Pw;have S5:=jP (g:=j5 p) hd;conv=>whnf
  refine⟨Nat×List (List Value)×World×Iv,fun z=>⟨[(1,sV ad ds.length cd),(2,iZ p),(3,pP 0 0),(8,.o (.w 1 z.2.1.length)),(9,iN i),(10,pP 2 0),(12,iZ q),(13,iN z.1)],[(1,.vec T.gV 4 z.2.1.flatten),(2,.box T.Mz [.v (iV d.1.1),.v (iV d.1.2.1),.v (iV d.1.2.2.1),.v (iV d.1.2.2.2),.v (iV d.2)]),(0,.box T.Frame [.v (.slice an f.nodes.length cn),.v (.slice ab f.bars.length cb),.v (.slice aq f.cV.length cq)])],3,z.2.2.2,z.2.2.1⟩,fun z=>4-z.1,
   fun z=>z.1<=4/\Bq w z.2.2.1/\dR 4 dD z.2.2.1 S z.2.1 (jl (j5 p) (ds.take i)++(j5 p d).take z.1)/\z.2.1.length=4*i+z.1,?_,?_⟩
  .intro O J r;exact⟨(0,W,J,_),⟨aP _,V.tr r.cN,by dsimp only;rw[List.take_zero,List.append_nil];exact dR.map (P:=dD) (P':=dD) (I:=J) (S':=S) hG fun _ _ h=>h,OR⟩,sbgn [] r⟩
  clear V hG OR OL;rintro⟨k,W,I,iv⟩ ⟨E,V,hG,OR⟩;dsimp only at E V hG OR ⊢;have OL:=ed hG.wid;conv=>whnf
  apply bS<;>intro OA
  .have OA:k<4:=by have:=aE OA;omega
   obtain⟨x,G⟩:∃x,(wS d.1)[k]? =some x:=⟨_,aB (show k<4 from OA)⟩
   conv=>whnf
   refine⟨be,?_⟩;conv=>whnf
   rw[z6 G];conv=>whnf
   refine⟨-q,wo,?_⟩;conv=>whnf
   have PF:=hG.push (L:=[iV x,iV 0,iV 0,iV (-q)]) (q:=(x,0,0,-q)) rfl rfl;rw[bI,show((x,0,0,-q):Ld)=(x,0,0,-fw d.2 p) by rw[QL],<-z5 G]at PF;have OV:W.flatten++([iV x,iV 0,iV 0,iV (-q)]:List Value)=(W++([[iV x,iV 0,iV 0,iV (-q)]]:List (List Value))).flatten:=by simp
   conv=>whnf
   refine .inl ?_;conv=>whnf
   refine⟨be,be,mx,?_⟩;conv=>whnf
   refine inc k ?_;conv=>whnf
   intro IR w6 A;exact⟨(k+1,W++([[iV x,iV 0,iV 0,iV (-q)]]:List (List Value)),w6,_),⟨OA,V.tr A.cN,dR.map (P:=dD) (P':=dD) (I:=w6) (S':=S) PF fun _ _ h=>h,by dsimp only;rw[List.length_append,List.length_singleton,OR];omega⟩,sbgn [(1,4)] A ⟨by dsimp only;rw[<-OV];rfl,rfl,rfl,trivial⟩ ⟨rfl,rfl,rfl,by dsimp only;rw[l1];rfl,rfl,rfl,rfl,rfl,trivial⟩,dec OA⟩
  have OA:k=4:=by have:=aC OA;omega
  subst OA;rw[show (j5 p d).take 4=j5 p d from rfl,<-S5]at hG;conv=>whnf
  refine inc i ?_;conv=>whnf
  intro IR w6 A;exact⟨(i+1,W,w6,_),⟨Ny,V.tr A.cN,dR.map (P:=dD) (P':=dD) (I:=w6) (S':=S) hG fun _ _ h=>h,by dsimp only;omega,Pw⟩,sbgn [] A,dec Ny⟩
 have Ny:i=ds.length:=by have:=aC Ny;omega
 rw[dy be]at OJ;rw[Ny,bG]at hG;conv=>whnf
 have OC:e0=0:=by exact OJ
 conv=>whnf
 intro GT we re;have h5:=re.iq (id:=1) (sz:=4) (m:=W.length) rfl OL mx bi (hG.one fun L q h=>dD.one h);exact⟨_,rfl,V.tr re.cN,.inr ⟨OC,_,rfl,dR.list (hG.map fun L q h=>h) (h5.cF fun g F=>.inr F)⟩⟩
end Go.Ex
