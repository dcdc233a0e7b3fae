/- Texts X97 to L63: lemmas, each with its conditions. -/
import Derived.Test.YtbffinhkognefaaGreatDoorP11
namespace Go.Ex
open Go Go.Sx Go.Proofs
variable{M:List (List (Int×Int))}{S:Nat->Prop}
theorem gT(n:Nat):(dg n).length=n:=aj ..
theorem HQ{n h:Nat}(I:2<=h):∀q∈dg n,rl q+1<=h:=fun q hq=>by rw[aY hq];exact aR bv I
set_option maxRecDepth 4000 in
set_option maxHeartbeats 1000000 in
theorem Bt{w:World}{vm vb vc vx vy vr:Value}{z p1 p2:Int}{b c X C9 F9:List (Int×Int)}{g1 g5:Option Addr}{g2 g3 g6 g7 h:Nat}{g0 g4:Bool}(W:Old S w)
  (hm:dR w S vm M) (hB:dK w S vb b) (hc:dK w S vc c) (E:dK w S vx X) (hy:dK w S vy C9) (hr:dK w S vr F9) (hv:ky w S (.agg #[.bool g0,.slice g1 g2 g3,.bool g4,.slice g5 g6 g7]) p1 p2) (I:2<=h) (hh:h<=1000000)
  (hf:gR M b c=0->((∀r∈M,vN r)/\vN b/\vN c/\vN X/\vN C9/\vN F9/\ln p1.natAbs<=10000000000/\ln p2.natAbs<=10000000000)/\Ht (dT M) h/\(∀q∈b.map dD,rl q+1<=h)/\(∀q∈c.map dD,rl q+1<=h)/\
   (∀q∈X.map dD,rl q+1<=h)/\(∀q∈C9.map dD,rl q+1<=h)/\(∀q∈F9.map dD,rl q+1<=h)/\rl (ratio p1 p2)+1<=h/\X.length<=1000000/\C9.length<=1000000/\F9.length<=1000000):
  eL PG FS.nZ #[.agg #[vm,vb,vc],.agg #[iV z,vx,vy,vr,.bool g0,.slice g1 g2 g3,.bool g4,.slice g5 g6 g7]] w (eY w fun v' _=>∃e:Nat,v'=iV e/\
   (gR M b c=0->(iF (dT M) (b.map dD) (c.map dD) z (X.map dD) (C9.map dD) (F9.map dD) (ratio p1 p2)->e=0)/\(¬iF (dT M) (b.map dD) (c.map dD) z (X.map dD) (C9.map dD) (F9.map dD) (ratio p1 p2)->e=25))/\(gR M b c≠0->e=gR M b c)):=by
 have G:=bR w;obtain⟨am,cm,rfl,SF,TG⟩:=dH.shape hm;obtain⟨ab,cb,rfl,RK,Te⟩:=dN.shape hB;obtain⟨ac,cc,rfl,Vd,SR⟩:=dN.shape hc;obtain⟨ax,cx,rfl,XC,Uy⟩:=dN.shape E;obtain⟨ay,cy,rfl,Yq,hmy⟩:=dN.shape hy;obtain⟨ar,cr,rfl,VM,hmr⟩:=dN.shape hr;refine rM ce ?_;conv=>whnf
 refine cW (cE G (pE (iV ((gR M b c:Nat):Int))) (fun O J r=>tD (oS W r) (dR.cX hm ((kS G r W))) (dK.cX hB ((kS G r W))) (dK.cX hc ((kS G r W)))) ?_);rintro O _ _ _ Pv r L G h_ rfl;clear r;conv=>whnf
 apply bS<;>intro h0
 .have h0:gR M b c≠0:=fun e=>by rw[e]at h0;simp at h0
  conv=>whnf
  exact rtn G fun GE we re=>⟨_,rfl,fun h=>absurd h h0,fun _=>rfl⟩
 have h0:gR M b c=0:=by
  have h4:((gR M b c:Int)==0)=true:=by simpa using h0
  have:=eq_of_beq h4;omega
 obtain⟨⟨hfM,WZ,hfc,hfX,hfY,hfR,Tc,Sh⟩,TA,XP,XH,Zb,WR,hqR,hqv,hX6,hY6,hR6⟩:=hf h0;obtain⟨hE,Pw,UE,UW,Pm⟩:=nK h0;conv=>whnf
 refine dP [.x 0,.x 1,.x 3,.x 4,.x 6,.x 7,.x 9,.x 10,.x 12,.x 13,.x 15,.x 16,.x 18,.x 19,.p 22,.x 2,.x 5,.x 8,.x 11,.x 14,.x 17,.x 20,.x 21,.x 22,.x 23] ?_;conv=>whnf
 refine cE G (pR mK (dT M)) (fun O J r=>LN (oS W r) (dR.cX hm ((kS G r W))) hfM (fun r hr=>by have:=Pm r hr;omega) be) ?_;rintro O _ _ _ iv2 r L G h_ U;have gA:=U.cV (nw r h_);clear r;obtain⟨aA,cA,rfl⟩:=gA.shape;conv=>whnf
 refine cE G (fun _ J v F=>eu F FF J.heap.size [(J.heap.size,F.heap.size)] v b.length (b.map dD)) (fun O J r=>kr (oS W r) (dK.cX hB ((kS G r W))) WZ be) ?_;rintro O _ _ _ Pu r L G h_ U;replace gA:=gA.cS r oF L (mC h_);have gb:=(show fO _ _ _ _ from(eu.ep (S:=FF) (B:=w.heap.size) U r.cZ (mN h_)).read)
 clear r;obtain⟨agb,cgb,rfl⟩:=gb.shape;conv=>whnf
 refine cE G (fun _ J v F=>eu F FF J.heap.size [(J.heap.size,F.heap.size)] v c.length (c.map dD)) (fun O J r=>kr (oS W r) (dK.cX hc ((kS G r W))) hfc be) ?_;rintro O _ _ _ QD r L G h_ U;replace gA:=gA.cS r oF L (mC h_);replace gb:=gb.cS r oF L (mC h_);have gc:=(show fO _ _ _ _ from(eu.ep (S:=FF) (B:=w.heap.size) U r.cZ (mN h_)).read)
 clear r;obtain⟨agc,cgc,rfl⟩:=gc.shape;conv=>whnf
 refine cE G (fun _ J v F=>eu F FF J.heap.size [(J.heap.size,F.heap.size)] v X.length (X.map dD)) (fun O J r=>kr (oS W r) (dK.cX E ((kS G r W))) hfX hX6) ?_;rintro O _ _ _ QH r L G h_ U;replace gA:=gA.cS r oF L (mC h_);replace gb:=gb.cS r oF L (mC h_);replace gc:=gc.cS r oF L (mC h_);have gx:=(show fO _ _ _ _ from(eu.ep (S:=FF) (B:=w.heap.size) U r.cZ (mN h_)).read)
 clear r;obtain⟨agx,cgx,rfl⟩:=gx.shape;conv=>whnf
 refine cE G (fun _ J v F=>eu F FF J.heap.size [(J.heap.size,F.heap.size)] v C9.length (C9.map dD)) (fun O J r=>kr (oS W r) (dK.cX hy ((kS G r W))) hfY hY6) ?_;rintro O _ _ _ Qe r L G h_ U;replace gA:=gA.cS r oF L (mC h_);replace gb:=gb.cS r oF L (mC h_);replace gc:=gc.cS r oF L (mC h_);replace gx:=gx.cS r oF L (mC h_);have gy:=(show fO _ _ _ _ from(eu.ep (S:=FF) (B:=w.heap.size) U r.cZ (mN h_)).read)
 clear r;obtain⟨agy,cgy,rfl⟩:=gy.shape;conv=>whnf
 refine cE G (fun _ J v F=>eu F FF J.heap.size [(J.heap.size,F.heap.size)] v F9.length (F9.map dD)) (fun O J r=>kr (oS W r) (dK.cX hr ((kS G r W))) hfR hR6) ?_;rintro O _ _ _ RS r L G h_ U;replace gA:=gA.cS r oF L (mC h_);replace gb:=gb.cS r oF L (mC h_);replace gc:=gc.cS r oF L (mC h_);replace gx:=gx.cS r oF L (mC h_);replace gy:=gy.cS r oF L (mC h_);have gr:=(show fO _ _ _ _ from(eu.ep (S:=FF) (B:=w.heap.size) U r.cZ (mN h_)).read)
 clear r;obtain⟨agr,cgr,rfl⟩:=gr.shape;conv=>whnf
 refine cE G (pR cz (ratio p1 p2)) (fun O J r=>zd (oS W r) (hv.cX ((kS G r W))) be be) ?_;rintro O _ _ _ Sw r L G h_ U;replace gA:=gA.cS r oF L (mC h_);replace gb:=gb.cS r oF L (mC h_);replace gc:=gc.cS r oF L (mC h_);replace gx:=gx.cS r oF L (mC h_);replace gy:=gy.cS r oF L (mC h_);replace gr:=gr.cS r oF L (mC h_);have gq:=U.cV (nw r h_);clear r;obtain⟨A0,A1,A2,A3,A4,A5,A6,A7,rfl⟩:=gq.shape;conv=>whnf
 have Ul:(dT M).length=M.length:=by simp[dT]
 have SQ:∀r∈dT M,r.length=(c.map dD).length:=fun r hr=>by
  obtain⟨x,E,rfl⟩:=bE.1 hr;rw[aO,aO];exact Pm x E
 have TS:(b.map dD).length=(dT M).length:=by rw[aO,Pw,Ul]
 replace UE:(c.map dD).length<=60:=by rw[aO];exact UE
 replace UW:(dT M).length<=60:=by rw[Ul];exact UW
 replace hX6:(X.map dD).length<=1000000:=by rw[aO];exact hX6
 replace hY6:(C9.map dD).length<=1000000:=by rw[aO];exact hY6
 replace hR6:(F9.map dD).length<=1000000:=by rw[aO];exact hR6
 clear hm hB hc E hy hr hv hf hfM WZ hfc hfX hfY hfR Ul Pm Pw SF TG RK Te Vd SR XC Uy Yq hmy VM hmr;generalize dT M=Fn at*
 generalize b.map dD=bs at*
 generalize c.map dD=cs at*
 generalize X.map dD=xs at*
 generalize C9.map dD=ys at*
 generalize F9.map dD=rs' at*
 generalize ratio p1 p2=q at*
 conv=>whnf
 apply bS<;>intro hz
 .have hz:z=0:=by simpa using hz
  subst hz;have Ps:(rs'=[]/\iT Fn cs.length xs bs/\qk Fn ys cs/\dY cs xs cs.length=q/\dY ys bs ys.length=q)↔iF Fn bs cs 0 xs ys rs' q:=by
   unfold iF;constructor
   .exact fun h=>.inl ⟨rfl,h⟩
   .rintro(⟨-,h⟩|⟨h,-⟩|⟨h,-⟩)
    .exact h
    .exact absurd h bv
    .exact absurd h bv
  conv=>whnf
  refine dP [.x 0,.x 1,.x 2,.x 3,.x 4,.x 5,.x 6,.x 7,.x 8,.x 9,.x 10,.x 11,.x 12,.x 13,.x 14,.x 15,.x 16,.x 17,.x 18,.x 19,.x 20,.x 21,.x 22,.x 24,.x 25,.x 23,.x 26,.x 27,.x 28,.x 29,.x 30,.x 31,.x 32,.x 33,.x 35,.x 36,.x 34,.x 37,.x 38,.x 39,.x 40] ?_;conv=>whnf
  apply bS<;>intro RW
  .have RW:rs'=[]:=List.eq_nil_of_length_eq_zero (by have:(rs'.length:Int)=0:=(by simpa using RW);omega);conv=>whnf
   refine cE G (fun _ J v F=>∃d,v= .bool d/\(d=true->iT Fn cs.length xs bs)/\(iT Fn cs.length xs bs->d=true)) (fun O J r=>vQ (h:=h) (rlo r oF) (mK.rel gA r oF) (fO.rel gx r oF) (fO.rel gb r oF) TS SQ TA Zb XP I be (by have:=bC (2*h) UE;omega) hX6) ?_;rintro O UB v9 UC VE r L G h_ ⟨d,rfl,QM,QJ⟩;replace gA:=gA.cS r oF L (mC h_);replace gb:=gb.cS r oF L (mC h_);replace gc:=gc.cS r oF L (mC h_);replace gx:=gx.cS r oF L (mC h_);replace gy:=gy.cS r oF L (mC h_);replace gr:=gr.cS r oF L (mC h_);replace gq:=gq.cS r oF L (mC h_);clear r;conv=>whnf
   cases d with
   |false=>
    have Up:¬(iT Fn cs.length xs bs):=fun h=>absurd (QJ h) bv;clear QM QJ;conv=>whnf
    conv=>whnf
    exact rtn G fun GE we re=>⟨25,rfl,fun _=>⟨fun h=>absurd h (fun h=>Up (Ps.2 h).2.1),fun _=>rfl⟩,fun h=>absurd h0 h⟩
   |true=>
    have Up:iT Fn cs.length xs bs:=QM rfl;clear QM QJ;conv=>whnf
    refine cE G (fun _ J v F=>∃d,v= .bool d/\(d=true->qk Fn ys cs)/\(qk Fn ys cs->d=true)) (fun O J r=>HP (h:=h) (rlo r oF) TS (mK.rel gA r oF) (fO.rel gy r oF) (fO.rel gc r oF) SQ TA WR XH I be (by have:=bC (2*h) UW;omega) hY6 be) ?_;rintro O UT v10 UU VF r L G h_ ⟨d,rfl,QM,QJ⟩;replace gA:=gA.cS r oF L (mC h_);replace gb:=gb.cS r oF L (mC h_);replace gc:=gc.cS r oF L (mC h_);replace gx:=gx.cS r oF L (mC h_);replace gy:=gy.cS r oF L (mC h_);replace gr:=gr.cS r oF L (mC h_);replace gq:=gq.cS r oF L (mC h_);clear r;conv=>whnf
    cases d with
    |false=>
     have Uc:¬(qk Fn ys cs):=fun h=>absurd (QJ h) bv;clear QM QJ;conv=>whnf
     conv=>whnf
     exact rtn G fun GE we re=>⟨25,rfl,fun _=>⟨fun h=>absurd h (fun h=>Uc (Ps.2 h).2.2.1),fun _=>rfl⟩,fun h=>absurd h0 h⟩
    |true=>
     have Uc:qk Fn ys cs:=QM rfl;clear QM QJ;conv=>whnf
     refine cE G (pR cz (dY cs xs cs.length)) (fun O J r=>HM (h:=h) (rlo r oF) (fO.rel gc r oF) (fO.rel gx r oF) Up.1.symm XH Zb I (by have:=bC (2*h) UE;omega)) ?_;rintro O wa11 v11 wb11 XL r L G h_ U;replace gA:=gA.cS r oF L (mC h_);replace gb:=gb.cS r oF L (mC h_);replace gc:=gc.cS r oF L (mC h_);replace gx:=gx.cS r oF L (mC h_);replace gy:=gy.cS r oF L (mC h_);replace gr:=gr.cS r oF L (mC h_);replace gq:=gq.cS r oF L (mC h_);have hd:=U.cV (nw r h_);clear r;obtain⟨C0,C1,C2,C3,C4,C5,C6,C7,rfl⟩:=hd.shape;conv=>whnf
     have S5:=fo XH Zb I cs.length;have Wb:=bC (2*h) UE;refine cE G (pE (iV (rs (dY cs xs cs.length-q)))) (fun O J r=>vM (rlo r oF) (hd.rel r oF) (gq.rel r oF) be be) ?_;rintro O wa12 v12 wb12 ZY r L G h_ rfl;replace gA:=gA.cS r oF L (mC h_);replace gb:=gb.cS r oF L (mC h_);replace gc:=gc.cS r oF L (mC h_);replace gx:=gx.cS r oF L (mC h_);replace gy:=gy.cS r oF L (mC h_);replace gr:=gr.cS r oF L (mC h_);replace gq:=gq.cS r oF L (mC h_);clear hd;clear r;conv=>whnf
     apply bS<;>intro TN
     .have TN:dY cs xs cs.length=q:=ym.1 (by simpa using TN);conv=>whnf
      refine cE G (pR cz (dY ys bs ys.length)) (fun O J r=>HM (h:=h) (rlo r oF) (fO.rel gy r oF) (fO.rel gb r oF) (Uc.1.trans TS.symm) WR XP I (by have:=bC (2*h) (show ys.length<=60 from Uc.1▸UW);omega)) ?_;rintro O wa13 v13 wb13 ZZ r L G h_ U;replace gA:=gA.cS r oF L (mC h_);replace gb:=gb.cS r oF L (mC h_);replace gc:=gc.cS r oF L (mC h_);replace gx:=gx.cS r oF L (mC h_);replace gy:=gy.cS r oF L (mC h_);replace gr:=gr.cS r oF L (mC h_);replace gq:=gq.cS r oF L (mC h_);have hd:=U.cV (nw r h_);clear r;obtain⟨E0,E1,E2,E3,E4,E5,E6,E7,rfl⟩:=hd.shape;conv=>whnf
      have S5:=fo WR XP I ys.length;have Wb:=bC (2*h) (show ys.length<=60 from Uc.1▸UW);refine cE G (pE (iV (rs (dY ys bs ys.length-q)))) (fun O J r=>vM (rlo r oF) (hd.rel r oF) (gq.rel r oF) be be) ?_;rintro O wa14 v14 wb14 iv14 r L G h_ rfl;replace gA:=gA.cS r oF L (mC h_);replace gb:=gb.cS r oF L (mC h_);replace gc:=gc.cS r oF L (mC h_);replace gx:=gx.cS r oF L (mC h_);replace gy:=gy.cS r oF L (mC h_);replace gr:=gr.cS r oF L (mC h_);replace gq:=gq.cS r oF L (mC h_);clear hd;clear r;conv=>whnf
      apply bS<;>intro Rb
      .have Rb:dY ys bs ys.length≠q:=fun e=>by rw[ym.2 e]at Rb;simp at Rb
       conv=>whnf
       exact rtn G fun GE we re=>⟨25,rfl,fun _=>⟨fun h=>absurd h (fun h=>Rb (Ps.2 h).2.2.2.2),fun _=>rfl⟩,fun h=>absurd h0 h⟩
      have Rb:dY ys bs ys.length=q:=ym.1 (by simpa using Rb);conv=>whnf
      exact rtn G fun GE we re=>⟨0,rfl,fun _=>⟨fun _=>rfl,fun h=>absurd (Ps.1 ⟨RW,Up,Uc,TN,Rb⟩) h⟩,fun h=>absurd h0 h⟩
     have TN:dY cs xs cs.length≠q:=fun e=>by rw[ym.2 e]at TN;simp at TN
     conv=>whnf
     exact rtn G fun GE we re=>⟨25,rfl,fun _=>⟨fun h=>absurd h (fun h=>TN (Ps.2 h).2.2.2.1),fun _=>rfl⟩,fun h=>absurd h0 h⟩
  have RW:rs'≠[]:=fun e=>by rw[e]at RW;simp at RW
  conv=>whnf
  exact rtn G fun GE we re=>⟨25,rfl,fun _=>⟨fun h=>absurd h (fun h=>RW (Ps.2 h).1),fun _=>rfl⟩,fun h=>absurd h0 h⟩
 have hz:z≠0:=by simpa using hz
 conv=>whnf
 apply bS<;>intro Uz
 .have Uz:z=1:=by simpa using Uz
  subst Uz;have Ps:(xs=[]/\rs'=[]/\q=0/\qk Fn ys (dg cs.length)/\dY ys bs ys.length<0)↔iF Fn bs cs 1 xs ys rs' q:=by
   unfold iF;constructor
   .exact fun h=>.inr (.inl ⟨rfl,h⟩)
   .rintro(⟨h,-⟩|⟨-,h⟩|⟨h,-⟩)
    .exact absurd h bv
    .exact h
    .exact absurd h bv
  conv=>whnf
  refine dP (idO 34) ?_;conv=>whnf
  apply bS<;>intro Qd
  .have Qd:xs=[]:=List.eq_nil_of_length_eq_zero (by have:(xs.length:Int)=0:=(by simpa using Qd);omega);conv=>whnf
   apply bS<;>intro RW
   .have RW:rs'=[]:=List.eq_nil_of_length_eq_zero (by have:(rs'.length:Int)=0:=(by simpa using RW);omega);conv=>whnf
    refine cE G (pE (iV (rs q))) (fun O J r=>jE (rlo r oF) (gq.rel r oF)) ?_;rintro O UB v9 UC VE r L G h_ rfl;replace gA:=gA.cS r oF L (mC h_);replace gb:=gb.cS r oF L (mC h_);replace gc:=gc.cS r oF L (mC h_);replace gx:=gx.cS r oF L (mC h_);replace gy:=gy.cS r oF L (mC h_);replace gr:=gr.cS r oF L (mC h_);replace gq:=gq.cS r oF L (mC h_);clear r;conv=>whnf
    apply bS<;>intro SB
    .have SB:q=0:=gL.1 (by simpa using SB);conv=>whnf
     refine cE G (fun _ J v F=>eu F FF J.heap.size [(J.heap.size,F.heap.size)] v cs.length (dg cs.length)) (fun O J r=>jh cs.length J be) ?_;rintro O UT v10 UU VF r L G h_ U;replace gA:=gA.cS r oF L (mC h_);replace gb:=gb.cS r oF L (mC h_);replace gc:=gc.cS r oF L (mC h_);replace gx:=gx.cS r oF L (mC h_);replace gy:=gy.cS r oF L (mC h_);replace gr:=gr.cS r oF L (mC h_);replace gq:=gq.cS r oF L (mC h_);have hz:=(show fO _ _ _ _ from(eu.ep (S:=FF) (B:=w.heap.size) U r.cZ (mN h_)).read)
     clear r;obtain⟨ahz,chz,rfl⟩:=hz.shape;rw[aj]at hz ⊢;conv=>whnf
     refine cE G (fun _ J v F=>∃d,v= .bool d/\(d=true->qk Fn ys (dg cs.length))/\(qk Fn ys (dg cs.length)->d=true)) (fun O J r=>HP (h:=h) (rlo r oF) TS (mK.rel gA r oF) (fO.rel gy r oF) (fO.rel hz r oF) (fun r hr=>(SQ r hr).trans (gT _).symm) TA WR (HQ I) I be (by have:=bC (2*h) UW;omega) hY6 (by rw[gT];omega)) ?_;rintro O wa11 v11 wb11 XL r L G h_ ⟨d,rfl,QM,QJ⟩;replace gA:=gA.cS r oF L (mC h_);replace gb:=gb.cS r oF L (mC h_);replace gc:=gc.cS r oF L (mC h_);replace gx:=gx.cS r oF L (mC h_);replace gy:=gy.cS r oF L (mC h_);replace gr:=gr.cS r oF L (mC h_);replace gq:=gq.cS r oF L (mC h_);clear hz;clear r;conv=>whnf
     cases d with
     |false=>
      have Uc:¬(qk Fn ys (dg cs.length)):=fun h=>absurd (QJ h) bv;clear QM QJ;conv=>whnf
      conv=>whnf
      exact rtn G fun GE we re=>⟨25,rfl,fun _=>⟨fun h=>absurd h (fun h=>Uc (Ps.2 h).2.2.2.1),fun _=>rfl⟩,fun h=>absurd h0 h⟩
     |true=>
      have Uc:qk Fn ys (dg cs.length):=QM rfl;clear QM QJ;conv=>whnf
      refine cE G (pR cz (dY ys bs ys.length)) (fun O J r=>HM (h:=h) (rlo r oF) (fO.rel gy r oF) (fO.rel gb r oF) (Uc.1.trans TS.symm) WR XP I (by have:=bC (2*h) (show ys.length<=60 from Uc.1▸UW);omega)) ?_;rintro O wa12 v12 wb12 ZY r L G h_ U;replace gA:=gA.cS r oF L (mC h_);replace gb:=gb.cS r oF L (mC h_);replace gc:=gc.cS r oF L (mC h_);replace gx:=gx.cS r oF L (mC h_);replace gy:=gy.cS r oF L (mC h_);replace gr:=gr.cS r oF L (mC h_);replace gq:=gq.cS r oF L (mC h_);have hd:=U.cV (nw r h_);clear r;obtain⟨F0,F1,F2,F3,F4,F5,F6,F7,rfl⟩:=hd.shape;conv=>whnf
      have S5:=fo WR XP I ys.length;have Wb:=bC (2*h) (show ys.length<=60 from Uc.1▸UW);refine cE G (pE (iV (rs (dY ys bs ys.length)))) (fun O J r=>jE (rlo r oF) (hd.rel r oF)) ?_;rintro O wa13 v13 wb13 ZZ r L G h_ rfl;replace gA:=gA.cS r oF L (mC h_);replace gb:=gb.cS r oF L (mC h_);replace gc:=gc.cS r oF L (mC h_);replace gx:=gx.cS r oF L (mC h_);replace gy:=gy.cS r oF L (mC h_);replace gr:=gr.cS r oF L (mC h_);replace gq:=gq.cS r oF L (mC h_);clear hd;clear r;conv=>whnf
      apply bS<;>intro Rb
      .have Rb:¬dY ys bs ys.length<0:=fun e=>absurd (j5.2 e) (by simpa using Rb);conv=>whnf
       exact rtn G fun GE we re=>⟨25,rfl,fun _=>⟨fun h=>absurd h (fun h=>Rb (Ps.2 h).2.2.2.2),fun _=>rfl⟩,fun h=>absurd h0 h⟩
      have Rb:dY ys bs ys.length<0:=j5.1 (by simpa using Rb);conv=>whnf
      exact rtn G fun GE we re=>⟨0,rfl,fun _=>⟨fun _=>rfl,fun h=>absurd (Ps.1 ⟨Qd,RW,SB,Uc,Rb⟩) h⟩,fun h=>absurd h0 h⟩
    have SB:q≠0:=fun e=>by rw[gL.2 e]at SB;simp at SB
    conv=>whnf
    exact rtn G fun GE we re=>⟨25,rfl,fun _=>⟨fun h=>absurd h (fun h=>SB (Ps.2 h).2.2.1),fun _=>rfl⟩,fun h=>absurd h0 h⟩
   have RW:rs'≠[]:=fun e=>by rw[e]at RW;simp at RW
   conv=>whnf
   exact rtn G fun GE we re=>⟨25,rfl,fun _=>⟨fun h=>absurd h (fun h=>RW (Ps.2 h).2.1),fun _=>rfl⟩,fun h=>absurd h0 h⟩
  have Qd:xs≠[]:=fun e=>by rw[e]at Qd;simp at Qd
  conv=>whnf
  exact rtn G fun GE we re=>⟨25,rfl,fun _=>⟨fun h=>absurd h (fun h=>Qd (Ps.2 h).1),fun _=>rfl⟩,fun h=>absurd h0 h⟩
 have Uz:z≠1:=by simpa using Uz
 conv=>whnf
 apply bS<;>intro Ro
 .have Ro:z=2:=by simpa using Ro
  subst Ro;have Ps:(ys=[]/\q=0/\iT Fn cs.length xs bs/\iT Fn cs.length rs' (dg bs.length)/\0<dY cs rs' cs.length)↔iF Fn bs cs 2 xs ys rs' q:=by
   unfold iF;constructor
   .exact fun h=>.inr (.inr ⟨rfl,h⟩)
   .rintro(⟨h,-⟩|⟨h,-⟩|⟨-,h⟩)
    .exact absurd h bv
    .exact absurd h bv
    .exact h
  conv=>whnf
  refine dP (idO 38) ?_;conv=>whnf
  apply bS<;>intro Qz
  .have Qz:ys=[]:=List.eq_nil_of_length_eq_zero (by have:(ys.length:Int)=0:=(by simpa using Qz);omega);conv=>whnf
   refine cE G (pE (iV (rs q))) (fun O J r=>jE (rlo r oF) (gq.rel r oF)) ?_;rintro O _ _ _ VE r L G h_ rfl;replace gA:=gA.cS r oF L (mC h_);replace gb:=gb.cS r oF L (mC h_);replace gc:=gc.cS r oF L (mC h_);replace gx:=gx.cS r oF L (mC h_);replace gy:=gy.cS r oF L (mC h_);replace gr:=gr.cS r oF L (mC h_);replace gq:=gq.cS r oF L (mC h_);clear r;conv=>whnf
   apply bS<;>intro SB
   .have SB:q=0:=gL.1 (by simpa using SB);conv=>whnf
    refine cE G (fun _ J v F=>∃d,v= .bool d/\(d=true->iT Fn cs.length xs bs)/\(iT Fn cs.length xs bs->d=true)) (fun O J r=>vQ (h:=h) (rlo r oF) (mK.rel gA r oF) (fO.rel gx r oF) (fO.rel gb r oF) TS SQ TA Zb XP I be (by have:=bC (2*h) UE;omega) hX6) ?_;rintro O _ _ _ VF r L G h_ ⟨d,rfl,QM,QJ⟩;replace gA:=gA.cS r oF L (mC h_);replace gb:=gb.cS r oF L (mC h_);replace gc:=gc.cS r oF L (mC h_);replace gx:=gx.cS r oF L (mC h_);replace gy:=gy.cS r oF L (mC h_);replace gr:=gr.cS r oF L (mC h_);replace gq:=gq.cS r oF L (mC h_);clear r;conv=>whnf
    cases d with
    |false=>
     have Up:¬(iT Fn cs.length xs bs):=fun h=>absurd (QJ h) bv;clear QM QJ;conv=>whnf
     conv=>whnf
     exact rtn G fun GE we re=>⟨25,rfl,fun _=>⟨fun h=>absurd h (fun h=>Up (Ps.2 h).2.2.1),fun _=>rfl⟩,fun h=>absurd h0 h⟩
    |true=>
     have Up:iT Fn cs.length xs bs:=QM rfl;clear QM QJ;conv=>whnf
     refine cE G (fun _ J v F=>eu F FF J.heap.size [(J.heap.size,F.heap.size)] v bs.length (dg bs.length)) (fun O J r=>jh bs.length J be) ?_;rintro O _ _ _ XL r L G h_ U;replace gA:=gA.cS r oF L (mC h_);replace gb:=gb.cS r oF L (mC h_);replace gc:=gc.cS r oF L (mC h_);replace gx:=gx.cS r oF L (mC h_);replace gy:=gy.cS r oF L (mC h_);replace gr:=gr.cS r oF L (mC h_);replace gq:=gq.cS r oF L (mC h_);have hz:=(show fO _ _ _ _ from(eu.ep (S:=FF) (B:=w.heap.size) U r.cZ (mN h_)).read)
     clear r;obtain⟨ahz,chz,rfl⟩:=hz.shape;rw[aj]at hz ⊢;conv=>whnf
     refine cE G (fun _ J v F=>∃d,v= .bool d/\(d=true->iT Fn cs.length rs' (dg bs.length))/\(iT Fn cs.length rs' (dg bs.length)->d=true)) (fun O J r=>vQ (h:=h) (rlo r oF) (mK.rel gA r oF) (fO.rel gr r oF) (fO.rel hz r oF) ((gT _).trans TS) SQ TA hqR (HQ I) I be (by have:=bC (2*h) UE;omega) hR6) ?_;rintro O _ _ _ ZY r L G h_ ⟨d,rfl,QM,QJ⟩;replace gA:=gA.cS r oF L (mC h_);replace gb:=gb.cS r oF L (mC h_);replace gc:=gc.cS r oF L (mC h_);replace gx:=gx.cS r oF L (mC h_);replace gy:=gy.cS r oF L (mC h_);replace gr:=gr.cS r oF L (mC h_);replace gq:=gq.cS r oF L (mC h_);clear hz;clear r;conv=>whnf
     cases d with
     |false=>
      have Zc:¬(iT Fn cs.length rs' (dg bs.length)):=fun h=>absurd (QJ h) bv;clear QM QJ;conv=>whnf
      conv=>whnf
      exact rtn G fun GE we re=>⟨25,rfl,fun _=>⟨fun h=>absurd h (fun h=>Zc (Ps.2 h).2.2.2.1),fun _=>rfl⟩,fun h=>absurd h0 h⟩
     |true=>
      have Zc:iT Fn cs.length rs' (dg bs.length):=QM rfl;clear QM QJ;conv=>whnf
      refine cE G (pR cz (dY cs rs' cs.length)) (fun O J r=>HM (h:=h) (rlo r oF) (fO.rel gc r oF) (fO.rel gr r oF) Zc.1.symm XH hqR I (by have:=bC (2*h) UE;omega)) ?_;rintro O _ _ _ ZZ r L G h_ U;replace gA:=gA.cS r oF L (mC h_);replace gb:=gb.cS r oF L (mC h_);replace gc:=gc.cS r oF L (mC h_);replace gx:=gx.cS r oF L (mC h_);replace gy:=gy.cS r oF L (mC h_);replace gr:=gr.cS r oF L (mC h_);replace gq:=gq.cS r oF L (mC h_);have hd:=U.cV (nw r h_);clear r;obtain⟨E0,E1,E2,E3,E4,E5,E6,E7,rfl⟩:=hd.shape;conv=>whnf
      have S5:=fo XH hqR I cs.length;have Wb:=bC (2*h) UE;refine cE G (pE (iV (rs (dY cs rs' cs.length)))) (fun O J r=>jE (rlo r oF) (hd.rel r oF)) ?_;rintro O _ _ _ iv14 r L G h_ rfl;replace gA:=gA.cS r oF L (mC h_);replace gb:=gb.cS r oF L (mC h_);replace gc:=gc.cS r oF L (mC h_);replace gx:=gx.cS r oF L (mC h_);replace gy:=gy.cS r oF L (mC h_);replace gr:=gr.cS r oF L (mC h_);replace gq:=gq.cS r oF L (mC h_);clear hd;clear r;conv=>whnf
      apply bS<;>intro Rb
      .have Rb:¬0<dY cs rs' cs.length:=fun e=>absurd (gv.2 e) (by simpa using Rb);conv=>whnf
       exact rtn G fun GE we re=>⟨25,rfl,fun _=>⟨fun h=>absurd h (fun h=>Rb (Ps.2 h).2.2.2.2),fun _=>rfl⟩,fun h=>absurd h0 h⟩
      have Rb:0<dY cs rs' cs.length:=gv.1 (by simpa using Rb);conv=>whnf
      exact rtn G fun GE we re=>⟨0,rfl,fun _=>⟨fun _=>rfl,fun h=>absurd (Ps.1 ⟨Qz,SB,Up,Zc,Rb⟩) h⟩,fun h=>absurd h0 h⟩
   have SB:q≠0:=fun e=>by rw[gL.2 e]at SB;simp at SB
   conv=>whnf
   exact rtn G fun GE we re=>⟨25,rfl,fun _=>⟨fun h=>absurd h (fun h=>SB (Ps.2 h).2.1),fun _=>rfl⟩,fun h=>absurd h0 h⟩
  have Qz:ys≠[]:=fun e=>by rw[e]at Qz;simp at Qz
  conv=>whnf
  exact rtn G fun GE we re=>⟨25,rfl,fun _=>⟨fun h=>absurd h (fun h=>Qz (Ps.2 h).1),fun _=>rfl⟩,fun h=>absurd h0 h⟩
 have Ro:z≠2:=by simpa using Ro
 conv=>whnf
 exact rtn G fun GE we re=>⟨25,rfl,fun _=>⟨fun h=>absurd h (fun h=>h.elim (fun h=>hz h.1) fun h=>h.elim (fun h=>Uz h.1) fun h=>Ro h.1),fun _=>rfl⟩,fun h=>absurd h0 h⟩
end Go.Ex
namespace Go.Ex
variable{M:List (List Rat)}{pv:List Nat}{l IR:List Rat}{E9 m:Mx}{B j r:Nat}{Fn:Nat->Nat->Rat}{P:Nat->Prop}{v x:Nat->Rat}{a p q:Rat}
def aAd:List Nat->(Nat->Rat)->Rat
 |[],_=>0
 |t::l,g=>g t+aAd l g
theorem AQ{i t:Nat}{v:Rat}:(l.set i v).getD t 0=if i=t/\i<l.length then v else l.getD t 0:=by
 simp only[List.getD,List.getElem?_set]
 by_cases h:i=t
 .subst h;by_cases hl:i<l.length
  .simp[hl]
  .simp[hl]
 .simp[h]
theorem AR{AC:Nat->List Rat}{pv:List Nat}{f:Nat->Rat}(hF:∀i,AC (i+1)=(AC i).set (pv.getD i 0) (f i)){t:Nat}(ht:t∉pv):∀i,i<=pv.length->(AC i).getD t 0=(AC 0).getD t 0
 |0,_=>rfl
 |i+1,h=>by
  rw[hF,AQ,aI fun e=>ht (by rw[<-e.1,List.getD,aE be];exact bp _)];exact AR hF ht i be
theorem Ln(hp:pv.Pairwise (· < ·)){i:Nat}(R0:j<i)(N:i<pv.length):pv.getD j 0<pv.getD i 0:=by
 rw[List.getD,List.getD,aE N,aE be];exact List.pairwise_iff_getElem.1 hp j i _ _ R0
theorem EK{AC:Nat->List Rat}{pv:List Nat}{f:Nat->Rat}{n:Nat}(hF:∀i,AC (i+1)=(AC i).set (pv.getD i 0) (f i))(hl:∀i,(AC i).length=n)(hp:pv.Pairwise (· < ·))(U:∀p∈pv,p<n){j:Nat}:∀i,i<=pv.length->j<i->(AC i).getD (pv.getD j 0) 0=f j
 |0,_,h=>by omega
 |i+1,h,hj=>by
  rw[hF,AQ];rcases aW j i with Y|Y
  .have:=Ln hp Y be;rw[aI be];exact EK hF hl hp U i be Y
  .have e:j=i:=by omega
   subst e;have hm:pv.getD j 0<(AC j).length:=by rw[hl];exact U _ (by rw[List.getD,aE be];exact bp _)
   rw[aM ⟨rfl,hm⟩]
def jB(M:List (List Rat))(x:List Rat):List Rat:=M.map fun r=>dY r x r.length
abbrev ki(pv:List Nat)(n:Nat):List Nat:=(List.range n).filter fun c=>decide (c∉pv)
section
variable{M:List (List Rat)}{x:List Rat}{n:Nat}
end
structure Diff(Fn:List (List Rat))(pv:List Nat)(n:Nat)(x:List Rat):Prop where
 up:pv.Pairwise (· < ·)
 lt:∀p∈pv,p<n
 le:pv.length<=Fn.length
 unit:∀i j,i<pv.length->j<Fn.length->dU Fn j (pv.getD i 0)=if j=i then 1 else 0
 sum:∀j,j<Fn.length->aAd (List.range n) (fun t=>dU Fn j t*x.getD t 0)=dU Fn j n
section
variable{Fn:List (List Rat)}{pv:List Nat}{n:Nat}{x:List Rat}
theorem Lo{t:Nat}(h:t∈pv):∃j,j<pv.length/\pv.getD j 0=t:=by
 obtain⟨j,hj,rfl⟩:=List.mem_iff_getElem.1 h;exact⟨j,hj,by rw[List.getD,aE hj];rfl⟩
theorem Ft{c t:Nat}(ht:t∉pv)(hc:c<n):(kG Fn pv n c pv.length).getD t 0=if t=c then 1 else 0:=by
 rw[AR (AC:=kG Fn pv n c) (fun i=>ll Fn pv n c i) ht _ (aq _)];show((List.replicate n (0:Rat)).set c 1).getD t 0=_;rw[AQ,aj];by_cases h:c=t
 .rw[aM ⟨h,hc⟩,aM h.symm]
 .rw[aI (fun e=>h e.1),aI (fun e=>h e.symm)];simp only[List.getD,List.getElem?_replicate]
  split<;>rfl
theorem Lp{t:Nat}(ht:t∉pv):(iD Fn pv n pv.length).getD t 0=0:=by
 rw[AR (AC:=iD Fn pv n) (fun i=>kO Fn pv n i) ht _ (aq _)];show(List.replicate n (0:Rat)).getD t 0=0;simp only[List.getD,List.getElem?_replicate]
 split<;>rfl
theorem AS:(ki pv n).Nodup:=List.Pairwise.filter _ List.nodup_range
theorem vu{c:Nat}:c∈ki pv n↔c<n/\c∉pv:=by
 unfold ki;rw[List.mem_filter,List.mem_range,decide_eq_true_eq]
theorem vw{k:Nat}(R:k<(ki pv n).length):(ki pv n).getD k 0∈ki pv n:=by rw[List.getD,aE R];exact bp R
theorem uf{k:Nat}{r:List Rat}(h:(dz Fn pv n n)[k]? =some r):k<(ki pv n).length/\r=kG Fn pv n ((ki pv n).getD k 0) pv.length:=by
 unfold dz at h;rw[aU]at h;obtain⟨c,hc,rfl⟩:=Option.map_eq_some_iff.1 h;refine⟨(aH.1 hc).1,?_⟩;rw[List.getD,hc];rfl
theorem Lq{i k:Nat}(N:i<(ki pv n).length)(R:k<(ki pv n).length)(e:(ki pv n).getD i 0=(ki pv n).getD k 0):i=k:=by
 rw[List.getD,List.getD,aE N,aE R]at e;rcases cP i k with h|h|h
 .exact absurd e (List.pairwise_iff_getElem.1 AS i k N R h)
 .exact h
 .exact absurd e.symm (List.pairwise_iff_getElem.1 AS k i R N h)
theorem AT{k i:Nat}{r s:List Rat}(hr:(dz Fn pv n n)[k]? =some r)(hs:(dz Fn pv n n)[i]? =some s):s.getD ((ki pv n).getD k 0) 0=if i=k then 1 else 0:=by
 obtain⟨R,-⟩:=uf hr;obtain⟨N,rfl⟩:=uf hs;have hm:=vu.1 (vw R);rw[Ft hm.2 (vu.1 (vw N)).1];by_cases h:i=k
 .rw[h,aM rfl,aM rfl]
 .rw[aI (fun e=>h (Lq N R e.symm)),aI h]
end
theorem jt(f:Nat->Nat->Rat)(m:Nat):∀n,cw (fun i=>cw (f i) m) n=cw (fun j=>cw (fun i=>f i j) n) m
 |0=>(dh m).symm
 |n+1=>by
  show cw (fun i=>cw (f i) m) n+cw (f n) m=cw (fun j=>cw (fun i=>f i j) n+f n j) m;rw[gD,jt f m n]
theorem gY(x y:List Rat):∀n,dY x y n=cw (fun t=>x.getD t 0*y.getD t 0) n
 |0=>rfl
 |n+1=>by rw[dY,gY x y n];rfl
theorem jX{f:Nat->Rat}:∀{n:Nat},(∀k,k<n->0<=f k)->0<=cw f n
 |0,_=>Rat.le_refl
 |n+1,h=>by
  have Y:=jX (n:=n) fun k R=>h k be;have I:=h n be;show 0<=cw f n+f n;grind
theorem ry{f:Nat->Rat}:∀{n:Nat},(∀k,k<n->0<=f k)->cw f n<=0->∀k,k<n->f k=0
 |0,_,_,k,R=>by omega
 |n+1,h,h0,k,R=>by
  have Y:=jX (n:=n) fun k R=>h k be;have I:=h n be;have h3:cw f n+f n<=0:=h0;rcases aW k n with h4|h4
  .exact ry (fun k R=>h k be) (by grind) k h4
  .rw[show k=n by omega];grind
section
variable{m m':Mx}{n w p:Nat}{κ:Rat}{q:Nat->Rat}
end
def iB(E9:Mx)(r n:Nat)(v:Nat->Rat):Prop:=∃c:Nat->Rat,∀t,t<n->v t=cw (fun i=>c i*E9 i t) r
structure Rf(E9:Mx)(p:Nat->Nat)(r n:Nat):Prop where
 lt:∀i,i<r->p i<n
 mono:∀i j,i<j->j<r->p i<p j
 unit:∀i j,i<r->j<r->E9 j (p i)=if j=i then 1 else 0
 lead:∀i t,i<r->t<p i->E9 i t=0
section
variable{E9 AC:Mx}{p q:Nat->Nat}{r s n:Nat}{v:Nat->Rat}
end
theorem iB.row{n i:Nat}(N:i<r):iB E9 r n (E9 i):=⟨fun k=>if k=i then 1 else 0,fun t _=>by
 rw[eR N fun k _ Po=>by simp only[aI Po,bj]]
 simp only[aM,cR]⟩
theorem iB.add{n:Nat}{u:Nat->Rat}(h:iB E9 r n u)(k:iB E9 r n v)(x:Rat):iB E9 r n fun t=>u t+x*v t:=by
 obtain⟨c,hc⟩:=h;obtain⟨d,hd⟩:=k;refine⟨fun i=>c i+x*d i,fun t ht=>?_⟩;show u t+x*v t=cw (fun i=>(c i+x*d i)*E9 i t) r;rw[hc t ht,hd t ht,<-fV,<-gD];exact cY fun i _=>by grind
theorem iB.mul{n:Nat}{u:Nat->Rat}(h:iB E9 r n u)(x:Rat):iB E9 r n fun t=>u t*x:=by
 obtain⟨c,hc⟩:=h;refine⟨fun i=>c i*x,fun t ht=>?_⟩;show u t*x=cw (fun i=>(c i*x)*E9 i t) r;rw[hc t ht,<-jN];exact cY fun i _=>by grind
theorem iB.congr{n:Nat}{u:Nat->Rat}(h:iB E9 r n u)(e:∀t,t<n->v t=u t):iB E9 r n v:=by
 obtain⟨c,hc⟩:=h;exact⟨c,fun t ht=>by rw[e t ht,hc t ht]⟩
theorem iB.trans{AC:Mx}{s n:Nat}(h:iB E9 r n v)(k:∀i,i<r->iB AC s n (E9 i)):iB AC s n v:=by
 obtain⟨c,hc⟩:=h;have key:∀m,m<=r->iB AC s n fun t=>cw (fun i=>c i*E9 i t) m:=by
  intro m
  induction m with
  |zero=>intro _;exact⟨fun _=>0,fun t _=>by rw[cY (g:=fun _=>0) fun i _=>bj _,dh];rfl⟩
  |succ m ih=>
   intro hm;exact(ih be).add (k m be) (c m)
 exact(key r (aq _)).congr fun t ht=>hc t ht
def aBU(s:List (List Rat)×List Nat):Prop:=(∀i j,i<j->j<s.2.length->s.2.getD i 0<s.2.getD j 0)/\∀i t,i<s.2.length->t<s.2.getD i 0->dU s.1 i t=0
theorem Nn{s:List (List Rat)×List Nat}{c n:Nat}(hl:iq n s.1)(hle:s.2.length<=s.1.length):(∀j,j<s.1.length->iB (dU s.1) s.1.length n (dU (e9 s c).1 j))/\∀j,j<s.1.length->iB (dU (e9 s c).1) s.1.length n (dU s.1 j):=by
 rcases yJ c hle with⟨e,-⟩|⟨k,Y,I,h3,e⟩
 .rw[e];exact⟨fun j hj=>iB.row hj,fun j hj=>iB.row hj⟩
 .obtain⟨r1,r2⟩:=AO hl Y I h3 e;have hp:s.2.length<s.1.length:=by omega
  have a1:iB (dU s.1) s.1.length n (dU (e9 s c).1 s.2.length):=((iB.row I).mul (1 / dU s.1 k c)).congr fun t _=>r1 t;have b1:iB (dU (e9 s c).1) s.1.length n (dU s.1 k):=((iB.row hp).mul (dU s.1 k c)).congr fun t _=>by rw[r1,Rat.mul_assoc,Rat.mul_comm (1 / _),AP h3,Rat.mul_one]
  refine⟨fun j hj=>?_,fun j hj=>?_⟩
  .by_cases h4:j=s.2.length
   .rw[h4];exact a1
   .exact((iB.row (show (if j=k then s.2.length else j)<s.1.length by split<;>omega)).add (iB.row I) (-(dU s.1 (if j=k then s.2.length else j) c)*(1 / dU s.1 k c))).congr fun t ht=>by rw[r2 j hj h4 t ht];grind
  .by_cases h4:j=k
   .rw[h4];exact b1
   .obtain⟨i,N,Po,R0⟩:∃i,i<s.1.length/\i≠s.2.length/\(if i=k then s.2.length else i)=j:=by
     by_cases h5:j=s.2.length
     .exact⟨k,I,fun e6=>h4 (h5.trans e6.symm),by rw[aM rfl,h5]⟩
     .exact⟨j,hj,h5,aI h4⟩
    refine((iB.row N).add (iB.row hp) (dU s.1 j c)).congr fun t ht=>?_;rw[r2 i N Po t ht,R0,r1];grind
theorem uh{M:List (List Rat)}{n:Nat}(hl:iq n M):∀cols,cols<=n->(∀j,j<M.length->iB (dU M) M.length n (dU (dG M cols).1 j))/\∀j,j<M.length->iB (dU (dG M cols).1) M.length n (dU M j)
 |0,_=>⟨fun j hj=>iB.row hj,fun j hj=>iB.row hj⟩
 |c+1,h=>by
  obtain⟨i1,i2⟩:=uh hl c be;have hr:=kN hl c be;have Y:=kh M c;have I:=Nn (c:=c) hr.1 hr.2.1;rw[Y]at I;have e:(dG M (c+1))=e9 (dG M c) c:=by unfold dG;rw[bz,List.foldl_append];rfl
  rw[e];exact⟨fun j hj=>(I.1 j hj).trans i1,fun j hj=>(i2 j hj).trans I.2⟩
structure Ru(E9:Mx)(p:Nat->Nat)(r n:Nat):Prop where
 lt:∀i,i<r->p i<n
 inj:∀i j,i<r->j<r->p i=p j->i=j
 unit:∀i j,i<r->j<r->E9 j (p i)=if j=i then 1 else 0
 lead:∀i t,i<r->t<p i->E9 i t=0
def clr(E9:Mx)(p:Nat->Nat)(r:Nat)(v:Nat->Rat)(k t:Nat):Rat:=v t-cw (fun i=>if p i<k then v (p i)*E9 i t else 0) r
section
variable{E9:Mx}{p:Nat->Nat}{r n:Nat}{v:Nat->Rat}
end
section
variable{E9:Mx}{p:Nat->Nat}{r n k:Nat}{u v:Nat->Rat}
end
abbrev PZ:=List (List Rat)×List (Option Nat)×List Nat
structure aAe(n cols i:Nat)(s:PZ):Prop where
 len:iq n s.1
 at_:s.2.1.length=cols
 Dz:s.2.2.length=s.1.length
 lt:∀(k r:Nat),s.2.1[k]? =some (some r)->r<s.1.length
 le:s.1.length<=i
 fr:∀j∈s.2.2,j<i
structure Frm where
 nodes:List (Int×Int×Int)
 bars:List (Int×Int×Rat)
 aBV:List (Int×Int×Rat)
def Frm.cols(f:Frm):Nat:=f.bars.length+f.aBV.length
def Ib(B:Nat)(q:Rat):Prop:=∃z:Int,q=(z:Rat)/\z.natAbs<=B
theorem Ib.add{C:Nat}(h:Ib B p)(k:Ib C q):Ib (B+C) (p+q):=by
 obtain⟨z,rfl,b⟩:=h;obtain⟨y,rfl,c⟩:=k;exact⟨z+y,by rw[Rat.intCast_add],be⟩
theorem Ib.mul{C:Nat}(h:Ib B p)(k:Ib C q):Ib (B*C) (p*q):=by
 obtain⟨z,rfl,b⟩:=h;obtain⟨y,rfl,c⟩:=k;exact⟨z*y,by rw[Rat.intCast_mul],by rw[Int.natAbs_mul];exact Nat.mul_le_mul b c⟩
theorem Ib.neg(h:Ib B p):Ib B (-p):=by
 obtain⟨z,rfl,b⟩:=h;exact⟨-z,by rw[Rat.intCast_neg],be⟩
theorem Ib.zero(B:Nat):Ib B 0:=⟨0,rfl,ae _⟩
theorem Ib.one(h:1<=B):Ib B 1:=⟨1,rfl,h⟩
theorem Ib.int{z:Int}(h:z.natAbs<=B):Ib B (z:Rat):=⟨z,rfl,h⟩
theorem Ib.sum{B:Nat}{f:Nat->Rat}:∀(n:Nat),(∀k,k<n->Ib B (f k))->Ib (n*B) (cw f n)
 |0,_=>Ib.zero _
 |n+1,h=>by rw[cw,Nat.succ_mul];exact(Ib.sum n fun k R=>h k be).add (h n be)
def fB(B:Nat):Nat->Nat
 |0=>1
 |n+1=>(n+1)*(B*fB B n)
theorem Ib.ug{k:Nat}(h:Ib B q):Ib B (ug k*q):=by
 unfold Go.Ex.ug;split
 .rw[show (-1:Rat)*q= -q by grind];exact h.neg
 .rw[cR];exact h
theorem Ib.det{B:Nat}:∀(n:Nat) {m:Mx},(∀i j,i<n->j<n->Ib B (m i j))->Ib (fB B n) (fz n m)
 |0,_,_=>Ib.one (aq _)
 |n+1,m,h=>by
  unfold fz fB;exact Ib.sum (n+1) fun k R=>((h 0 k be R).mul (Ib.det n fun i j N hj=>h (i+1) (skip k j) be (Iw hj))).ug
theorem Ou{B F9:Nat}:∀{n:Nat},n<=F9->fB B n<=(F9*B)^n
 |0,_=>aq _
 |n+1,h=>by
  rw[fB,Nat.pow_succ,<-bu,bc _ (F9*B)];exact Nat.mul_le_mul (Nat.mul_le_mul_right B h) (Ou be)
theorem aAf{F9 l n:Nat}(U:n<=F9)(h:F9*B<=wt l):ln (fB B n)<=l*n+1:=by
 rw[iH,jb];have Y:=aR (Ou (B:=B) U) (Nat.pow_le_pow_left h n);rw[rk,<-Nat.pow_mul]at Y;have I:=rk (l*n);have h3:=AG (l*n);rw[show 32*l*n=32*(l*n) by rw[bu]]at Y;omega
theorem Np{Fd:Nat}{D:Rat}(h0:D≠0)(hD:Ib Fd D)(hq:Ib Fd (D*q)):rl q<=ln Fd:=by
 obtain⟨d,rfl,b⟩:=hD;obtain⟨z,e,c⟩:=hq;have hd:d≠0:=fun e=>h0 (by rw[e];rfl);have e2:q=Rat.divInt z d:=by
  rw[Rat.divInt_eq_div,<-e,bV,Rat.mul_comm (d:Rat) q,Rat.mul_assoc,Rat.mul_inv_cancel _ h0,Rat.mul_one]
 have:=lK (a:=z) hd;have:=fP b;have:=fP c;rw[e2];omega
theorem KM{n:Nat}(h:r<n):fz n (jG m r fun _=>0)=0:=by
 have Y:=rn 1 n r m h (fun _=>0) fun _=>0;rw[show (fun _:Nat=>(0:Rat)+1*0)=fun _=>0 from funext fun _=>by grind]at Y;grind
theorem Fx{n r:Nat}{m:Mx}(h:r<n)(c:Nat->Rat)(v:Nat->Nat->Rat):∀s,fz n (jG m r fun j=>cw (fun k=>c k*v k j) s)=cw (fun k=>c k*fz n (jG m r (v k))) s
 |0=>KM h
 |s+1=>by
  have Y:=rn (c s) n r m h (fun j=>cw (fun k=>c k*v k j) s) (v s);rw[Fx h c v s]at Y;exact Y
theorem Ix{n a b:Nat}(A:b<n)(Td:a<b)(L:∀j,j<n->m a j=m b j):fz n m=0:=by
 obtain⟨b,rfl⟩:∃k,b=k+1:=⟨b-1,be⟩
 cases a with
 |zero=>exact qK b n m A L
 |succ a=>
  have Y:=KI (m:=m) (k:=a) (n:=n) be;rw[qK b n _ A fun j hj=>?_]at Y
  .grind
  .rw[show yK 0 (a+1) 0=a+1 by unfold yK;rw[aM rfl],show yK 0 (a+1) (b+1)=b+1 by unfold yK;rw[aI be,aI be]];exact L j hj
theorem Lt{n a b:Nat}(ha:a<n)(A:b<n)(Td:a≠b)(L:∀j,j<n->m a j=m b j):fz n m=0:=by
 rcases Nat.lt_or_gt_of_ne Td with h|h
 .exact Ix A h L
 .exact Ix ha h fun j hj=>(L j hj).symm
section
variable{E9 F8:Mx}{p:Nat->Nat}{r n:Nat}{v:Nat->Rat}
def tu(F8:Mx)(p:Nat->Nat)(r:Nat):Rat:=fz r fun j i=>F8 (r-1-i) (p (r-1-j))
end
structure Crm(E9:Mx)(p:Nat->Nat)(r n B:Nat)(F8:Mx):Prop where
 ru:Ru E9 p r n
 sp:∀i,i<r->iB E9 r n (F8 i)
 ib:∀i t,i<r->t<n->Ib B (F8 i t)
 nz:tu F8 p r≠0
section
variable{E9 F8:Mx}{p:Nat->Nat}{r n B k:Nat}{v u:Nat->Rat}
end
structure aBm(M:List (List Rat))(n B i:Nat)(s:PZ)(p:Nat->Nat)(F8:Mx):Prop where
 ok:aAe n n i s
 gZ:∀k,k<n->∀r:Nat,s.2.1[k]? =some (some r)↔r<s.1.length/\p r=k
 crm:Crm (dU s.1) p s.1.length n B F8
 up:∀r,r<s.1.length->iB (dU M) i n (dU s.1 r)
 dn:∀j,j<i->iB (dU s.1) s.1.length n (dU M j)
section
variable{M:List (List Rat)}{n B i:Nat}{s:PZ}{p:Nat->Nat}{F8:Mx}
end
theorem CR{α:Type}{a b:List α}(d:α)(hl:a.length=b.length)(h:∀i,i<a.length->a.getD i d=b.getD i d):a=b:=by
 refine List.ext_getElem hl fun i Y I=>?_;have:=h i Y
 rwa [List.getD,List.getD,aE Y,aE I]at this
structure ElI(M:List (List Rat))(n B c:Nat)(s:List (List Rat)×List Nat)(σ:Nat->Nat)(F8:Mx):Prop where
 red:Red n c s
 mon:aBU s
 len:s.1.length=M.length
 crm:Crm (dU s.1) (fun i=>s.2.getD i 0) s.2.length n B F8
 org:∀j,j<M.length->σ j<M.length
 rest:∀j,s.2.length<=j->j<M.length->∀t,t<n->dU s.1 j t=clr (dU s.1) (fun i=>s.2.getD i 0) s.2.length (dU M (σ j)) n t
def mulR(M:List (List Rat))(n:Nat)(x:Nat->Rat)(j:Nat):Rat:=cw (fun t=>dU M j t*x t) n
theorem iB.dot{n:Nat}(h:iB E9 r n v):∃c:Nat->Rat,(∀t,t<n->v t=cw (fun i=>c i*E9 i t) r)/\∀x:Nat->Rat,cw (fun t=>v t*x t) n=cw (fun i=>c i*cw (fun t=>E9 i t*x t) n) r:=by
 obtain⟨c,hc⟩:=h;refine⟨c,hc,fun x=>?_⟩;rw[cY (g:=fun t=>cw (fun i=>c i*E9 i t*x t) r) fun t ht=>by rw[hc t ht,<-jN],jt];exact cY fun i _=>by rw[<-fV];exact cY fun t _=>Rat.mul_assoc _ _ _
section
variable{M:List (List Rat)}{n:Nat}{x:Nat->Rat}{b:List Rat}
theorem Fy(hM:iq n M){c:Nat}(hc:c<=n)(h:∀i,i<M.length->mulR (dG M c).1 n x i=0):∀j,j<M.length->mulR M n x j=0:=fun j hj=>by
 obtain⟨c,_,I⟩:=((uh hM c hc).2 j hj).dot;unfold mulR;rw[I x,cY (g:=fun _=>0) fun i N=>by rw[show cw (fun t=>dU (dG M _).1 i t*x t) n=0 from h i N,bL],dh]
theorem xT(hM:iq n M){t:Nat}(hj:j<M.length):(t<n->dU (eM M b) j t=dU M j t)/\dU (eM M b) j n=b.getD j 0:=by
 have hr:=aE hj;have hl:(M[j]).length=n:=hM _ (bp hj);have e:(eM M b).getD j []=M[j]++[b.getD j 0]:=by rw[eM,List.getD,List.getElem?_mapIdx,hr];rfl
 have e2:M.getD j []=M[j]:=by rw[List.getD,hr];rfl
 refine⟨fun ht=>?_,?_⟩
 .rw[dU,dU,e,e2,List.getD,aN be,<-List.getD]
 .rw[dU,e,List.getD,aP be,hl,bY];rfl
def Fz(x:Nat->Rat)(n t:Nat):Rat:=if t<n then x t else -1
theorem Hf(hM:iq n M)(hj:j<M.length):mulR (eM M b) (n+1) (Fz x n) j=mulR M n x j-b.getD j 0:=by
 have h:=fun t=>xT (b:=b) (t:=t) hM hj;unfold mulR;rw[cw,(h 0).2,show Fz x n n= -1 by unfold Fz;rw[aI (Nat.lt_irrefl n)],cY (g:=fun t=>dU M j t*x t) fun t ht=>by rw[(h t).1 ht];unfold Fz;rw[aM ht]];grind
def lu(M:List (List Rat))(b:List Rat)(n:Nat):Option (List Rat):=
 let e:=dG (eM M b) n
 if ∀j,j<M.length->e.2.length<=j->dU e.1 j n=0 then some (iD e.1 e.2 n e.2.length)else none
theorem ui{x:List Rat}(hM:iq n M)(h:lu M b n=some x):x.length=n/\∀j,j<M.length->mulR M n (fun t=>x.getD t 0) j=b.getD j 0:=by
 unfold lu at h;dsimp only at h;split at h
 .rename_i h0;injection h with h;have hW:=ue (b:=b) hM;obtain⟨r1,r2,r3,r4,r5⟩:=kN hW n (Nat.le_succ n);have Ty:=mw (eM M b) n;have Yy:=jM (M:=M) (b:=b);have hl:=kh (eM M b) n;have SS:x.length=n:=by rw[<-h,ju]
  have VL:∀j,j<(dG (eM M b) n).2.length->x.getD ((dG (eM M b) n).2.getD j 0) 0=dU (dG (eM M b) n).1 j n:=fun j hj=>by
   rw[<-h];exact EK (AC:=iD (dG (eM M b) n).1 (dG (eM M b) n).2 n) (f:=fun i=>dU (dG (eM M b) n).1 i n) (fun i=>kO _ _ n i) (ju _ _ n) Ty.2.1 r4 _ (aq _) hj
  have RJ:∀t,t∉(dG (eM M b) n).2->x.getD t 0=0:=fun t ht=>by rw[<-h];exact Lp ht
  refine⟨SS,fun j hj=>?_⟩;have key:=Fy (M:=eM M b) (x:=Fz (fun t=>x.getD t 0) n) hW (c:=n) (Nat.le_succ n) (fun i N=>?_) j (by rw[Yy];exact hj)
  .rw[Hf hM hj]at key;grind
  .unfold mulR;rw[cw,show Fz (fun t=>x.getD t 0) n n= -1 by unfold Fz;rw[aI (Nat.lt_irrefl n)],cY (g:=fun t=>dU (dG (eM M b) n).1 i t*x.getD t 0) fun t ht=>by unfold Fz;rw[aM ht]];rcases aW i (dG (eM M b) n).2.length with Y|Y
   .rw[eR (i:=(dG (eM M b) n).2.getD i 0) (r4 _ (by rw[List.getD,aE Y];exact bp _)) fun t ht Po=>?_,r5 i i Y be,aM rfl,VL i Y]
    .grind
    .by_cases hp:t∈(dG (eM M b) n).2
     .obtain⟨k,R,rfl⟩:=Lo hp;rw[r5 k i R be,aI (fun e=>Po (by rw[e])),bj]
     .rw[RJ t hp,bL]
   .rw[cY (g:=fun _=>0) fun t ht=>by rw[r3 i t Y be ht,bj],dh,h0 i (by rw[<-Yy];exact N) Y];grind
 .cases h
theorem Hg(hM:iq n M)(h:lu M b n=none):∃y:Nat->Rat,(∀t,t<n->cw (fun j=>y j*dU M j t) M.length=0)/\cw (fun j=>y j*b.getD j 0) M.length≠0:=by
 unfold lu at h;dsimp only at h;split at h
 .cases h
 .rename_i h0;obtain⟨i,N,Y,I⟩:∃i,i<M.length/\(dG (eM M b) n).2.length<=i/\dU (dG (eM M b) n).1 i n≠0:=by
   refine Decidable.byContradiction fun Ta=>h0 fun j hj hr=>Decidable.byContradiction fun I=>Ta ⟨j,hj,hr,I⟩
  have hW:=ue (b:=b) hM;have Yy:=jM (M:=M) (b:=b);have hl:=kh (eM M b) n;obtain⟨r1,r2,r3,r4,r5⟩:=kN hW n (Nat.le_succ n);obtain⟨y,hy⟩:=(uh hW n (Nat.le_succ n)).1 i be;rw[Yy]at hy;refine⟨y,fun t ht=>?_,?_⟩
  .have h3:=hy t be;rw[r3 i t Y be ht]at h3;rw[h3];exact cY fun j hj=>by rw[(xT (b:=b) hM hj).1 ht]
  .have h3:=hy n be;rw[cY (g:=fun j=>y j*b.getD j 0) fun j hj=>by rw[(xT (b:=b) (t:=n) hM hj).2]]at h3;rw[<-h3];exact I
theorem DH{x:Nat->Rat}(hM:iq n M)(h:∀j,j<M.length->mulR M n x j=b.getD j 0):∃z,lu M b n=some z:=by
 cases e:lu M b n with
 |some z=>exact⟨z,rfl⟩
 |none=>
  obtain⟨y,Y,I⟩:=Hg hM e;refine absurd ?_ I;rw[cY fun j hj=>by rw[<-h j hj,mulR,<-fV],jt,cY (g:=fun _=>0) fun t ht=>?_,dh];rw[cY (g:=fun j=>y j*dU M j t*x t) fun j _=>(Rat.mul_assoc _ _ _).symm,jN,Y t ht,bj]
def Inj(M:List (List Rat))(n:Nat):Prop:=∀x:Nat->Rat,(∀j,j<M.length->mulR M n x j=0)->∀t,t<n->x t=0
theorem Lu(M:List (List Rat))(n:Nat)(x y:Nat->Rat)(j:Nat):mulR M n (fun t=>x t-y t) j=mulR M n x j-mulR M n y j:=by
 unfold mulR;rw[<-js];exact cY fun t _=>by grind
theorem KN{x:List Rat}(hM:iq n M)(N:Inj M n)(E:x.length=n)(h:∀j,j<M.length->mulR M n (fun t=>x.getD t 0) j=b.getD j 0):lu M b n=some x:=by
 obtain⟨z,hz⟩:=DH hM h;obtain⟨Y,I⟩:=ui hM hz;rw[hz];congr 1;refine CR 0 (by rw[Y,E]) fun t ht=>?_;have:=N (fun t=>z.getD t 0-x.getD t 0) (fun j hj=>by rw[Lu,h j hj,I j hj];grind) t be;grind
abbrev oh(M:List (List Rat))(n:Nat):List (List Rat):=dz (dG M n).1 (dG M n).2 n n
theorem AY(M:List (List Rat))(n:Nat):(oh M n).length=(ki (dG M n).2 n).length:=by unfold oh dz;rw[aO]
theorem Lw(M:List (List Rat))(n:Nat){k:Nat}(R:k<(oh M n).length):(oh M n).getD k []=kG (dG M n).1 (dG M n).2 n ((ki (dG M n).2 n).getD k 0) (dG M n).2.length:=by
 obtain⟨r,hr⟩:∃r,(oh M n)[k]? =some r:=⟨_,aE R⟩
 rw[List.getD,hr];exact(uf hr).2
theorem Lx(hM:iq n M){k:Nat}(R:k<(oh M n).length):∀j,j<M.length->mulR M n (dU (oh M n) k) j=0:=by
 obtain⟨r1,r2,r3,r4,r5⟩:=kN hM n (aq _);have Ty:=mw M n;have hl:=kh M n;have hf:=vu.1 (vw (by rw[<-AY];exact R));refine Fy hM (aq n) fun i N=>?_;have Pm:=Lw M n R;generalize hc:(ki (dG M n).2 n).getD k 0=c at hf Pm;have VL:∀j,j<(dG M n).2.length->dU (oh M n) k ((dG M n).2.getD j 0)= -(dU (dG M n).1 j c):=fun j hj=>by
  rw[dU,Pm];exact EK (AC:=kG (dG M n).1 (dG M n).2 n c) (f:=fun i=> -(dU (dG M n).1 i c)) (fun i=>ll _ _ n c i) (uE _ _ n c) Ty.2.1 r4 _ (aq _) hj
 have RJ:∀t,t∉(dG M n).2->dU (oh M n) k t=if t=c then 1 else 0:=fun t ht=>by rw[dU,Pm];exact Ft ht hf.1
 unfold mulR;rcases aW i (dG M n).2.length with Y|Y
 .have Si:(dG M n).2.getD i 0∈(dG M n).2:=by rw[List.getD,aE Y];exact bp _
  have Po:(dG M n).2.getD i 0≠c:=fun e=>hf.2 (e▸Si);have e:cw (fun t=>dU (dG M n).1 i t*dU (oh M n) k t) n=cw (fun t=>(if t=(dG M n).2.getD i 0 then -(dU (dG M n).1 i c)else 0)+(if t=c then dU (dG M n).1 i c else 0)) n:=by
   refine cY fun t ht=>?_;by_cases hp:t∈(dG M n).2
   .obtain⟨j,hj,rfl⟩:=Lo hp;rw[VL j hj,r5 j i hj be,aI (show ¬(dG M n).2.getD j 0=c from fun e=>hf.2 (e▸hp)),cI];by_cases R0:i=j
    .rw[aM R0,aM (by rw[R0]),R0,cR]
    .have VA:(dG M n).2.getD j 0≠(dG M n).2.getD i 0:=fun e2=>R0 (by
      rcases cP i j with h5|h5|h5
      .have:(dG M n).2.getD i 0<(dG M n).2.getD j 0:=Ln Ty.2.1 h5 hj;omega
      .exact h5
      .have:(dG M n).2.getD j 0<(dG M n).2.getD i 0:=Ln Ty.2.1 h5 Y
       omega)
     rw[aI R0,aI VA,bj]
   .rw[RJ t hp,aI (show ¬t=(dG M n).2.getD i 0 from fun e2=>hp (e2▸Si)),Rat.zero_add];by_cases htc:t=c
    .rw[aM htc,aM htc,htc,Rat.mul_one]
    .rw[aI htc,aI htc,bL]
  rw[e,gD,eR (i:=(dG M n).2.getD i 0) (r4 _ Si) fun t _ Po=>aI Po,eR (i:=c) hf.1 fun t _ Po=>aI Po,aM rfl,aM rfl];grind
 .rw[cY (g:=fun _=>0) fun t ht=>by rw[r3 i t Y be ht,bj],dh]
theorem Nq{c:Nat->Rat}(h:∀t,t<n->cw (fun k=>c k*dU (oh M n) k t) (oh M n).length=0):∀k,k<(oh M n).length->c k=0:=fun k R=>by
 have Tm:k<(ki (dG M n).2 n).length:=by rw[<-AY];exact R
 have hf:=vu.1 (vw Tm);have Y:=h _ hf.1;obtain⟨r,hr⟩:∃r,(oh M n)[k]? =some r:=⟨_,aE R⟩
 rw[eR R fun i N Po=>?_]at Y
 .rw[dU,show(oh M n).getD k []=r by rw[List.getD,hr];rfl,AT hr hr,aM rfl,Rat.mul_one]at Y;exact Y
 .obtain⟨s,hs⟩:∃s,(oh M n)[i]? =some s:=⟨_,aE N⟩
  rw[dU,show(oh M n).getD i []=s by rw[List.getD,hs];rfl,AT hr hs,aI Po,bL]
end
theorem AZ(p:Nat->Bool):∀l:List Nat,l.length=(l.filter p).length+(l.filter fun c=> !p c).length
 |[]=>rfl
 |c::l=>by
  have ih:=AZ p l;rw[List.filter_cons,List.filter_cons]
  cases p c with
  |true=>simp;omega
  |false=>simp;omega
theorem Ly{n:Nat}(U:pv.Nodup)(hl:∀p∈pv,p<n):(ki pv n).length=n-pv.length:=by
 have Y:(List.range n).length=((List.range n).filter fun c=>decide (c∉pv)).length+((List.range n).filter fun c=>decide (c∈pv)).length:=by
  refine(AZ (fun c=>decide (c∉pv)) (List.range n)).trans ?_;congr 2;refine List.filter_congr fun c _=>?_;by_cases h:c∈pv<;>simp[h]
 have I:((List.range n).filter fun c=>decide (c∈pv)).length=pv.length:=by
  refine(List.Perm.length_eq ?_);refine(List.perm_ext_iff_of_nodup (List.Pairwise.filter _ List.nodup_range) U).2 fun c=>?_;rw[List.mem_filter,List.mem_range,decide_eq_true_eq];exact⟨fun h=>h.2,fun h=>⟨hl c h,h⟩⟩
 rw[List.length_range]at Y;unfold ki;omega
theorem Hh{n:Nat}(hM:iq n M):(oh M n).length=n-(dG M n).2.length:=by
 obtain⟨r1,r2,r3,r4,r5⟩:=kN hM n (aq _);have Ty:=mw M n;rw[AY];exact Ly (Ty.2.1.imp fun h=>Nat.ne_of_lt h) r4
theorem tS{b:Rat}(ha:a≠0)(A:b≠0):a*b≠0:=fun e=>by
 rcases Rat.mul_eq_zero.1 e with h|h
 .exact ha h
 .exact A h
def Den(Fd:Nat)(D:Rat)(l:List Rat):Prop:=D≠0/\Ib Fd D/\∀t,Ib Fd (D*l.getD t 0)
theorem Aa{t:Nat}(h:l.length<=t):l.getD t 0=0:=by rw[List.getD,List.getElem?_eq_none h];rfl
section
variable{M:List (List Rat)}{n B:Nat}{b:List Rat}
end
def uF(IR:List Rat):Nat->Rat
 |0=>1
 |t+1=>uF IR t*((IR.getD t 0).den:Rat)
theorem GA(IR:List Rat):∀k,uF IR k≠0
 |0=>by show(1:Rat)≠0;decide
 |k+1=>tS (GA IR k) (by have:=(IR.getD k 0).den_nz;exact_mod_cast this)
theorem Ab{IR:List Rat}{B:Nat}(h:∀t,(IR.getD t 0).den<=B):∀k,Ib (B^k) (uF IR k)
 |0=>Ib.one (aq _)
 |k+1=>by
  rw[Nat.pow_succ];exact(Ab h k).mul ⟨((IR.getD k 0).den:Int),rfl,by rw[Int.natAbs_natCast];exact h k⟩
theorem Nr(q:Rat):(q.den:Rat)*q=(q.num:Rat):=by
 have h:=Rat.num_divInt_den q;have h0:((q.den:Int):Rat)≠0:=by have:=q.den_nz;exact_mod_cast this
 rw[Rat.divInt_eq_div]at h;have Y:(q.num:Rat) / ((q.den:Int):Rat)*((q.den:Int):Rat)=(q.num:Rat):=Rat.div_mul_cancel h0;rw[h,Rat.mul_comm]at Y;exact Y
theorem DI{IR:List Rat}{B:Nat}(h:∀t,(IR.getD t 0).den<=B)(U:∀t,(IR.getD t 0).num.natAbs<=B)(hB:1<=B):∀k t,t<k->Ib (B^k) (uF IR k*IR.getD t 0)
 |0,t,ht=>by omega
 |k+1,t,ht=>by
  rw[uF,Nat.pow_succ];rcases aW t k with Y|Y
  .rw[show ∀a b c:Rat,a*b*c=(a*c)*b from fun a b c=>by grind];exact(DI h U hB k t Y).mul ⟨((IR.getD k 0).den:Int),rfl,by rw[Int.natAbs_natCast];exact h k⟩
  .rw[show t=k by omega,Rat.mul_assoc,Nr];exact(Ab h k).mul (Ib.int (U k))
theorem Lz{l:Nat}:1<=wt l:=AG l
theorem Ov{l:Nat}(h:rl q<=l):q.num.natAbs<wt l/\q.den<wt l:=⟨iH.1 (aR (fv q) h),iH.1 (aR (Pa q) h)⟩
theorem MA(l k:Nat):wt l^k=wt (l*k):=by rw[rk,rk,<-Nat.pow_mul,bu]
theorem GB{n:Nat}(hl:IR.length<=n)(h:∀q∈IR,rl q<=3):Den (wt (3*n)) (uF IR n) IR:=by
 have h3:∀t,rl (IR.getD t 0)<=3:=fun t=>by
  rw[List.getD]
  cases ht:IR[t]? with
  |none=>show rl 0<=3;decide
  |some q=>exact h q (aG ht)
 have Y:∀t,(IR.getD t 0).den<=wt 3:=fun t=>Nat.le_of_lt (Ov (h3 t)).2;have I:∀t,(IR.getD t 0).num.natAbs<=wt 3:=fun t=>Nat.le_of_lt (Ov (h3 t)).1;refine⟨GA IR n,by rw[<-MA];exact Ab Y n,fun t=>?_⟩;rcases aW t n with ht|ht
 .rw[<-MA];exact DI Y I Lz n t ht
 .rw[Aa be,bL];exact Ib.zero _
theorem getD_some{α:Type}{l:List α}{i:Nat}{x d:α}(h:l[i]? =some x):l.getD i d=x:=by rw[List.getD,h];rfl
structure aBn(M:List (List Rat))(n:Nat)(IR:Nat->Rat):Prop where
 len:iq n M
 pos:∀t,t<n->0<=IR t
 aBo:∀x:Nat->Rat,(∀j,j<M.length->mulR M n x j=0)->cw (fun t=>IR t*(x t*x t)) n=0->∀t,t<n->x t=0
theorem MB(M:List (List Rat))(n:Nat)(x y:Nat->Rat)(j:Nat):mulR M n (fun t=>x t+y t) j=mulR M n x j+mulR M n y j:=by
 unfold mulR;rw[<-gD];exact cY fun t _=>by grind
theorem Hi{n:Nat}{y:Nat->Rat}(h:∀t,t<n->x t=y t)(j:Nat):mulR M n x j=mulR M n y j:=cY fun t ht=>by rw[h t ht]
def wrk(IR x y:Nat->Rat)(n:Nat):Rat:=cw (fun t=>IR t*(x t*y t)) n
section
variable{M:List (List Rat)}{n:Nat}{IR:Nat->Rat}{b:List Rat}
def dx(k:Nat):List Rat:=List.replicate k 0
theorem MC(b:List Rat)(k j:Nat):(b++dx k).getD j 0=b.getD j 0:=by
 unfold dx;rcases aW j b.length with h|h
 .rw[List.getD,aN h,<-List.getD]
 .rw[Aa h,List.getD,aP h,List.getElem?_replicate];split<;>rfl
structure aBj(M:List (List Rat))(n:Nat)(IR:Nat->Rat)(b x:List Rat):Prop where
 len:x.length=n
 eq:∀j,j<M.length->mulR M n (fun t=>x.getD t 0) j=b.getD j 0
 st:∀k,k<(oh M n).length->wrk IR (dU (oh M n) k) (fun t=>x.getD t 0) n=0
end
section
variable{M:List (List Rat)}{n:Nat}{fl b:List Rat}
end
theorem getD_set_ne{α:Type}{l:List α}{i:Nat}{x d:α}(h:i≠j):(l.set i x).getD j d=l.getD j d:=by rw[List.getD,aZ h,<-List.getD]
theorem GC{α:Type}{l:List α}{i:Nat}{x d:α}(h:i<l.length):(l.set i x).getD i d=x:=by rw[List.getD,aQ h];rfl
theorem xU:∀(FS m:Nat) (g:Nat->Nat),(∀i,i<m->g i<FS)->(∀i j,i<m->j<m->g i=g j->i=j)->m<=FS
 |0,m,g,Y,_=>by
  rcases bH m with h|h
  .omega
  .exact absurd (Y 0 h) (Nat.not_lt_zero _)
 |FS+1,m,g,Y,I=>by
  by_cases h:∃i,i<m/\g i=FS
  .obtain⟨i0,N,e⟩:=h
   have:=xU FS (m-1) (fun i=>if i<i0 then g i else g (i+1)) (fun i Rc=>by
    show(if i<i0 then g i else g (i+1))<FS;split
    .rename_i QZ;have:=Y i be;have:g i≠FS:=fun e2=>by have:=I i i0 be N (by rw[e2,e]);omega
     omega
    .have:=Y (i+1) be;have:g (i+1)≠FS:=fun e2=>by have:=I (i+1) i0 be N (by rw[e2,e]);omega
     omega) (fun i j Rc Ys e2=>by
    have e3:(if i<i0 then g i else g (i+1))=(if j<i0 then g j else g (j+1)):=e2;split at e3<;>split at e3
    .exact I _ _ be be e3
    .have:=I _ _ be be e3;omega
    .have:=I _ _ be be e3;omega
    .have:=I _ _ be be e3;omega)
   omega
  .exact Nat.le_succ_of_le (xU FS m g (fun i N=>by
    have:=Y i N;have:g i≠FS:=fun e=>h ⟨i,N,e⟩
    omega) I)
theorem qL(f:Nat->Rat)(a:Nat):∀b,cw f (a+b)=cw f a+cw (fun k=>f (a+k)) b
 |0=>(cI _).symm
 |b+1=>by rw[show a+(b+1)=a+b+1 by omega,cw,cw,qL f a b,Rat.add_assoc]
abbrev Ng(M:List (List Rat))(n:Nat):Nat:=(dG M n).2.length
section
variable{M:List (List Rat)}{n:Nat}
end
section
variable{M:List (List Rat)}{n:Nat}{fl b:List Rat}
end
structure Dc where
 m:Nat
 q:Nat
 fF:Nat->Nat
 eV:Nat->Nat
 a:Nat->Nat->Rat
 b:Nat->Rat
 c:Nat->Rat
 top:Rat
structure Dc.Ok(D:Dc):Prop where
 bl:∀i,i<D.m->D.fF i<D.m+D.q
 fl:∀j,j<D.q->D.eV j<D.m+D.q
 bi:∀i k,i<D.m->k<D.m->D.fF i=D.fF k->i=k
 fi:∀j k,j<D.q->k<D.q->D.eV j=D.eV k->j=k
 bf:∀i j,i<D.m->j<D.q->D.fF i≠D.eV j
 all:∀v,v<D.m+D.q->(∃i,i<D.m/\D.fF i=v)\/∃j,j<D.q/\D.eV j=v
def Dc.row(D:Dc)(x:Nat->Rat)(i:Nat):Rat:=cw (fun j=>D.a i j*x (D.eV j)) D.q
def Dc.yL(D:Dc)(x:Nat->Rat)(z:Rat):Prop:=(∀i,i<D.m->x (D.fF i)=D.b i-D.row x i)/\z=D.top+cw (fun j=>D.c j*x (D.eV j)) D.q
def Dc.gZ(D:Dc)(r s:Nat):Dc where
 m:=D.m
 q:=D.q
 fF:=fun i=>if i=r then D.eV s else D.fF i
 eV:=fun j=>if j=s then D.fF r else D.eV j
 a:=fun i j=>if i=r then(if j=s then 1 / D.a r s else D.a r j / D.a r s)else if j=s then -(D.a i s / D.a r s)else D.a i j-D.a i s*(D.a r j / D.a r s)
 b:=fun i=>if i=r then D.b r / D.a r s else D.b i-D.a i s*(D.b r / D.a r s)
 c:=fun j=>if j=s then -(D.c s / D.a r s)else D.c j-D.c s*(D.a r j / D.a r s)
 top:=D.top+D.c s*(D.b r / D.a r s)
theorem GF{g:Nat->Rat}{u:Rat}{s:Nat}:∀{n:Nat},s<n->cw (fun j=>if j=s then u else g j) n=cw g n-g s+u
 |0,h=>by omega
 |n+1,h=>by
  by_cases e:s=n
  .subst e;show cw (fun j=>if j=s then u else g j) s+(if s=s then u else g s)=cw g s+g s-g s+u;rw[aM rfl,cY (g:=g) fun k R=>aI be];grind
  .show cw (fun j=>if j=s then u else g j) n+(if n=s then u else g n)=cw g n+g n-g s+u;rw[aI (fun h=>e h.symm),GF (show s<n by omega)];grind
section
variable{D:Dc}{r s:Nat}{x:Nat->Rat}{z:Rat}
theorem Dc.Ok.gZ(h:D.Ok)(hr:r<D.m)(hs:s<D.q):(D.gZ r s).Ok:=by
 have A:∀i,(D.gZ r s).fF i=if i=r then D.eV s else D.fF i:=fun _=>rfl
 have hf:∀j,(D.gZ r s).eV j=if j=s then D.fF r else D.eV j:=fun _=>rfl
 refine⟨fun i N=>?_,fun j hj=>?_,fun i k N R e=>?_,fun j k hj R e=>?_,fun i j N hj e=>?_,fun v hv=>?_⟩
 .rw[A];split
  .exact h.fl s hs
  .exact h.bl i N
 .rw[hf];split
  .exact h.bl r hr
  .exact h.fl j hj
 .rw[A,A]at e;split at e<;>split at e
  .omega
  .exact absurd e.symm (h.bf k s R hs)
  .exact absurd e (h.bf i s N hs)
  .exact h.bi i k N R e
 .rw[hf,hf]at e;split at e<;>split at e
  .omega
  .exact absurd e (h.bf r k hr R)
  .exact absurd e.symm (h.bf r j hr hj)
  .exact h.fi j k hj R e
 .rw[A,hf]at e;split at e<;>split at e
  .exact h.bf r s hr hs e.symm
  .rename_i Y I;exact I (h.fi s j hs hj e).symm
  .rename_i Y I;exact Y (h.bi i r N hr e)
  .exact h.bf i j N hj e
 .rcases h.all v hv with⟨i,N,rfl⟩|⟨j,hj,rfl⟩
  .by_cases e:i=r
   .subst e;exact .inr ⟨s,hs,by rw[hf,aM rfl]⟩
   .exact .inl ⟨i,N,by rw[A,aI e]⟩
  .by_cases e:j=s
   .subst e;exact .inl ⟨r,hr,by rw[A,aM rfl]⟩
   .exact .inr ⟨j,hj,by rw[hf,aI e]⟩
theorem Dc.EO(hs:s<D.q)(g:Nat->Rat)(u:Rat):cw (fun j=>(if j=s then u else g j)*x ((D.gZ r s).eV j)) D.q=cw (fun j=>g j*x (D.eV j)) D.q-g s*x (D.eV s)+u*x (D.fF r):=by
 rw[<-GF (g:=fun j=>g j*x (D.eV j)) hs];refine cY fun j _=>?_;show _*x (if j=s then D.fF r else D.eV j)=_;split<;>rfl
theorem Dc.DJ(hs:s<D.q):(D.gZ r s).row x r=(D.row x r-D.a r s*x (D.eV s)+x (D.fF r)) / D.a r s:=by
 have e:(D.gZ r s).row x r=cw (fun j=>(if j=s then 1 / D.a r s else D.a r j / D.a r s)*x ((D.gZ r s).eV j)) D.q:=cY fun j _=>by
  show(if r=r then _ else _)*_=_;rw[aM rfl]
 rw[e,D.EO hs];unfold Dc.row;rw[cY (f:=fun j=>D.a r j / D.a r s*x (D.eV j)) (g:=fun j=>(D.a r j*x (D.eV j))*(1 / D.a r s)) fun j _=>by rw[bV,bV];grind,jN];rw[bV,bV,bV];grind
theorem Dc.DK(hs:s<D.q){i:Nat}(N:i≠r)(hp:D.a r s≠0):(D.gZ r s).row x i=D.row x i-D.a i s / D.a r s*(D.row x r+x (D.fF r)):=by
 have e:(D.gZ r s).row x i=cw (fun j=>(if j=s then -(D.a i s / D.a r s)else D.a i j-D.a i s*(D.a r j / D.a r s))*x ((D.gZ r s).eV j)) D.q:=cY fun j _=>by
  show(if i=r then _ else _)*_=_;rw[aI N]
 rw[e,D.EO hs];unfold Dc.row;rw[cY (f:=fun j=>(D.a i j-D.a i s*(D.a r j / D.a r s))*x (D.eV j)) (g:=fun j=>D.a i j*x (D.eV j)-(D.a i s / D.a r s)*(D.a r j*x (D.eV j))) fun j _=>by rw[bV,bV];grind,js,fV];have Y:D.a r s / D.a r s=1:=by rw[bV];exact Rat.mul_inv_cancel _ hp
 rw[Y];grind
theorem Dc.Iy(hs:s<D.q)(hp:D.a r s≠0):cw (fun j=>(D.gZ r s).c j*x ((D.gZ r s).eV j)) D.q=cw (fun j=>D.c j*x (D.eV j)) D.q-D.c s / D.a r s*(D.row x r+x (D.fF r)):=by
 have e:cw (fun j=>(D.gZ r s).c j*x ((D.gZ r s).eV j)) D.q=cw (fun j=>(if j=s then -(D.c s / D.a r s)else D.c j-D.c s*(D.a r j / D.a r s))*x ((D.gZ r s).eV j)) D.q:=rfl;rw[e,D.EO hs];unfold Dc.row;rw[cY (f:=fun j=>(D.c j-D.c s*(D.a r j / D.a r s))*x (D.eV j)) (g:=fun j=>D.c j*x (D.eV j)-(D.c s / D.a r s)*(D.a r j*x (D.eV j))) fun j _=>by rw[bV,bV];grind,js,fV];have Y:D.a r s / D.a r s=1:=by rw[bV];exact Rat.mul_inv_cancel _ hp
 rw[Y];grind
theorem Dc.Iz(hr:r<D.m)(hs:s<D.q)(hp:D.a r s≠0):(D.gZ r s).yL x z↔D.yL x z:=by
 obtain⟨p,Xp⟩:∃p,D.a r s=p:=⟨_,rfl⟩
 have hp':=hp;rw[Xp]at hp';have hinv:p*p⁻¹=1:=Rat.mul_inv_cancel _ hp';have Pm:((D.gZ r s).fF r=D.eV s)/\(D.gZ r s).b r=D.b r / D.a r s:=by
  constructor
  .show(if r=r then _ else _)=_;rw[aM rfl]
  .show(if r=r then _ else _)=_;rw[aM rfl]
 have key:x (D.eV s)=D.b r / D.a r s-(D.gZ r s).row x r↔x (D.fF r)=D.b r-D.row x r:=by
  rw[D.DJ hs,bV,bV,Xp];constructor
  .intro h;have:p*x (D.eV s)=p*(D.b r*p⁻¹-(D.row x r-p*x (D.eV s)+x (D.fF r))*p⁻¹):=by rw[<-h]
   grind
  .intro h;rw[h];grind
 have hoth:∀i,i≠r->x (D.fF r)=D.b r-D.row x r->(x ((D.gZ r s).fF i)=(D.gZ r s).b i-(D.gZ r s).row x i↔x (D.fF i)=D.b i-D.row x i):=fun i N h=>by
  have e1:(D.gZ r s).fF i=D.fF i:=aI N;have e2:(D.gZ r s).b i=D.b i-D.a i s*(D.b r / D.a r s):=aI N;rw[e1,e2,D.DK hs N hp,h,bV,bV];constructor
  .intro k;grind
  .intro k;grind
 have Xq:x (D.fF r)=D.b r-D.row x r->(D.gZ r s).top+cw (fun j=>(D.gZ r s).c j*x ((D.gZ r s).eV j)) D.q=D.top+cw (fun j=>D.c j*x (D.eV j)) D.q:=fun h=>by
  rw[D.Iy hs hp,h];show D.top+D.c s*(D.b r / D.a r s)+_=_;rw[bV,bV];grind
 constructor
 .rintro⟨Y,I⟩;have RP:x (D.fF r)=D.b r-D.row x r:=key.1 (by have:=Y r hr;rw[Pm.1,Pm.2]at this;exact this);refine⟨fun i N=>?_,I.trans (Xq RP)⟩;by_cases e:i=r
  .subst e;exact RP
  .exact(hoth i e RP).1 (Y i N)
 .rintro⟨Y,I⟩;have RP:=Y r hr;refine⟨fun i N=>?_,I.trans (Xq RP).symm⟩;by_cases e:i=r
  .subst e;rw[Pm.1,Pm.2];exact key.2 RP
  .exact(hoth i e RP).2 (Y i N)
end
def Dc.uo(D:Dc)(v:Nat):Prop:=∃i,i<D.m/\D.fF i=v
def Dc.val(D:Dc)(v:Nat):Rat:=cw (fun i=>if D.fF i=v then D.b i else 0) D.m
def Dc.dir(D:Dc)(s v:Nat):Rat:=(if v=D.eV s then 1 else 0)-cw (fun i=>if D.fF i=v then D.a i s else 0) D.m
structure Dc.Step(D:Dc)(r s:Nat):Prop where
 hr:r<D.m
 hs:s<D.q
 cs:0<D.c s
 HV:∀j,j<D.q->0<D.c j->D.eV s<=D.eV j
 ars:0<D.a r s
 Hk:∀i,i<D.m->0<D.a i s->D.b r / D.a r s<=D.b i / D.a i s/\(D.b r / D.a r s=D.b i / D.a i s->D.fF r<=D.fF i)
def Dc.uq(D:Dc):Prop:=∀i,i<D.m->0<=D.b i
theorem qM(h:0<a):a≠0:=fun e=>by rw[e]at h;exact absurd h bv
theorem rz{b:Rat}(h:b≠0):a / b*b=a:=by rw[bV,Rat.mul_assoc,Rat.inv_mul_cancel _ h,Rat.mul_one]
theorem sA{b:Rat}(ha:0<=a)(A:0<b):0<=a / b:=by
 rw[bV];exact Rat.mul_nonneg ha (Rat.le_of_lt (Rat.inv_pos.2 A))
section
variable{D:Dc}{r s:Nat}{x:Nat->Rat}
theorem Dc.wE(h:D.Ok){i:Nat}(N:i<D.m):D.val (D.fF i)=D.b i:=by
 unfold Dc.val;rw[eR N fun k R e=>aI fun g=>e (h.bi k i R N g),aM rfl]
theorem Dc.wF{v:Nat}(h:¬D.uo v):D.val v=0:=by
 unfold Dc.val;rw[cY (g:=fun _=>0) fun i N=>aI fun e=>h ⟨i,N,e⟩,dh]
theorem Dc.Ok.tT(h:D.Ok)(hj:j<D.q):¬D.uo (D.eV j):=fun⟨i,N,e⟩=>h.bf i j N hj e
theorem Dc.JA(h:D.Ok)(hs:s<D.q){i:Nat}(N:i<D.m):D.dir s (D.fF i)= -(D.a i s):=by
 unfold Dc.dir;rw[aI (h.bf i s N hs),eR N fun k R e=>aI fun g=>e (h.bi k i R N g),aM rfl];grind
theorem Dc.z4(h:D.Ok)(hs:s<D.q)(hj:j<D.q):D.dir s (D.eV j)=if j=s then 1 else 0:=by
 unfold Dc.dir;rw[cY (g:=fun _=>0) fun i N=>aI (h.bf i j N hj),dh];by_cases e:j=s
 .subst e;rw[aM rfl,aM rfl];grind
 .rw[aI fun g=>e (h.fi j s hj hs g),aI e];grind
theorem Dc.line(h:D.Ok)(hs:s<D.q)(y:Rat):D.yL (fun v=>D.val v+y*D.dir s v) (D.top+D.c s*y):=by
 have hv:∀j,j<D.q->D.val (D.eV j)+y*D.dir s (D.eV j)=if j=s then y else 0:=fun j hj=>by
  rw[D.wF (h.tT hj),D.z4 h hs hj];split<;>grind
 have Wp:∀g:Nat->Rat,cw (fun j=>g j*(D.val (D.eV j)+y*D.dir s (D.eV j))) D.q=g s*y:=fun g=>by
  rw[eR (i:=s) hs fun k R e=>by rw[hv k R,aI e,bL],hv s hs,aM rfl]
 refine⟨fun i N=>?_,?_⟩
 .show D.val (D.fF i)+y*D.dir s (D.fF i)=D.b i-cw (fun j=>D.a i j*(D.val (D.eV j)+y*D.dir s (D.eV j))) D.q;rw[Wp,D.wE h N,D.JA h hs N];grind
 .rw[Wp]
theorem Dc.wG(h:D.Ok):D.yL D.val D.top:=by
 have h0:∀g:Nat->Rat,cw (fun j=>g j*D.val (D.eV j)) D.q=0:=fun g=>by
  rw[cY (g:=fun _=>0) fun j hj=>by rw[D.wF (h.tT hj),bL],dh]
 refine⟨fun i N=>?_,?_⟩
 .unfold Dc.row;rw[h0,D.wE h N];grind
 .rw[h0];grind
theorem Dc.Step.ne(h:D.Step r s):D.a r s≠0:=qM h.ars
theorem Dc.Step.ratio(h:D.Step r s)(hf:D.uq):0<=D.b r / D.a r s:=sA (hf r h.hr) h.ars
theorem Dc.Step.fea(h:D.Step r s)(hf:D.uq):(D.gZ r s).uq:=fun i N=>by
 show 0<=if i=r then _ else _
 split
 .exact h.ratio hf
 .by_cases Y:0<D.a i s
  .have I:=(h.Hk i N Y).1;have h3:=Rat.mul_le_mul_of_nonneg_right I (Rat.le_of_lt Y);rw[rz (qM Y)]at h3;grind
  .have Y:=Rat.not_lt.1 Y;have I:=h.ratio hf;have h3:=hf i N;have h4:0<= -(D.a i s)*(D.b r / D.a r s):=Rat.mul_nonneg (by grind) I;grind
theorem Dc.Step.top(h:D.Step r s)(hf:D.uq):D.top<=(D.gZ r s).top/\((D.gZ r s).top=D.top->D.b r=0):=by
 have I:=h.ratio hf;have h3:0<=D.c s*(D.b r / D.a r s):=Rat.mul_nonneg (Rat.le_of_lt h.cs) I;refine⟨by show _<=D.top+_;grind,fun e=>?_⟩;have e:D.top+D.c s*(D.b r / D.a r s)=D.top:=e;have e2:D.c s*(D.b r / D.a r s)=0:=by grind
 have e3:=(Rat.mul_eq_zero.1 e2).resolve_left (qM h.cs);rw[<-rz (a:=D.b r) h.ne,e3,bj]
theorem Dc.Step.val(h:D.Step r s)(A:D.b r=0)(v:Nat):(D.gZ r s).val v=D.val v:=by
 refine cY fun i N=>?_;show(if (if i=r then D.eV s else D.fF i)=v then(if i=r then D.b r / D.a r s else D.b i-D.a i s*(D.b r / D.a r s))else 0)=_;have h0:D.b r / D.a r s=0:=by rw[A,bV,bj]
 rw[h0];by_cases e:i=r
 .subst e;rw[aM rfl,aM rfl,A];split<;>split<;>rfl
 .rw[aI e,aI e,bL];split
  .grind
  .rfl
theorem Dc.Nt{v:Nat}(h:D.uo v)(U:¬(D.gZ r s).uo v):v=D.fF r:=by
 obtain⟨i,N,rfl⟩:=h;by_cases e:i=r
 .rw[e]
 .exact absurd ⟨i,N,aI e⟩ U
theorem Dc.Nu{v:Nat}(h:(D.gZ r s).uo v)(U:¬D.uo v):v=D.eV s:=by
 obtain⟨i,N,e0⟩:=h;have e0:(if i=r then D.eV s else D.fF i)=v:=e0;split at e0
 .exact e0.symm
 .exact absurd ⟨i,N,e0⟩ U
theorem Dc.Step.enters(h:D.Step r s):(D.gZ r s).uo (D.eV s):=⟨r,h.hr,aM rfl⟩
end
structure yt(D:Nat->Dc)(r s:Nat->Nat)(k:Nat):Prop where
 ok:(D 0).Ok
 fea:(D 0).uq
 step:∀t,t<k->(D t).Step (r t) (s t)/\D (t+1)=(D t).gZ (r t) (s t)
section
variable{D:Nat->Dc}{r s:Nat->Nat}{k:Nat}
theorem yt.at_(h:yt D r s k):∀t,t<=k->(D t).Ok/\(D t).uq/\(D t).m=(D 0).m/\(D t).q=(D 0).q/\∀x z,(D t).yL x z↔(D 0).yL x z
 |0,_=>⟨h.ok,h.fea,rfl,rfl,fun _ _=>Iff.rfl⟩
 |t+1,ht=>by
  obtain⟨Y,I,h3,h4,h5⟩:=h.at_ t be;obtain⟨k1,k2⟩:=h.step t be;rw[k2];exact⟨Y.gZ k1.hr k1.hs,k1.fea I,h3,h4,fun x z=>(Dc.Iz k1.hr k1.hs k1.ne).trans (h5 x z)⟩
theorem yt.mono(h:yt D r s k):∀u t,t<=u->u<=k->(D t).top<=(D u).top
 |0,t,ht,_=>by
  have:t=0:=by omega
  subst this;exact Rat.le_refl
 |u+1,t,ht,hu=>by
  by_cases e:t=u+1
  .subst e;exact Rat.le_refl
  .obtain⟨k1,k2⟩:=h.step u be;have:=h.mono u t be be;rw[k2];exact Rat.le_trans this (k1.top (h.at_ u be).2.1).1
theorem yt.shift(h:yt D r s k){a b:Nat}(Td:a+b<=k):yt (fun t=>D (a+t)) (fun t=>r (a+t)) (fun t=>s (a+t)) b:=
 ⟨(h.at_ a be).1,(h.at_ a be).2.1,fun t ht=>h.step (a+t) be⟩
theorem chg{P:Nat->Prop} [DecidablePred P]{a:Nat}(ha:P a):∀b,a<=b->¬P b->∃t,a<=t/\t<b/\P t/\¬P (t+1)
 |0,Y,h3=>by
  have:a=0:=by omega
  subst this;exact absurd ha h3
 |b+1,Y,h3=>by
  by_cases e:a=b+1
  .subst e;exact absurd ha h3
  .by_cases A:P b
   .exact⟨b,be,be,A,h3⟩
   .obtain⟨t,t1,t2,t3⟩:=chg ha b be A;exact⟨t,t1,be,t3⟩
theorem Hl{FS:Nat}(hP:∀v,P v->v<FS)(h:∃v,P v):∃t,P t/\∀v,P v->v<=t:=by
 classical
 have key:∀n,(∃t,P t/\FS<=t+n)->∃t,P t/\∀v,P v->v<=t:=fun n=>by
  induction n with
  |zero=>exact fun⟨t,Y,I⟩=>absurd (hP t Y) be
  |succ n ih=>
   rintro⟨t,Y,I⟩;by_cases hm:∀v,P v->v<=t
   .exact⟨t,Y,hm⟩
   .simp only[Classical.not_forall]at hm;obtain⟨v,hv,QZ⟩:=hm;exact ih ⟨v,hv,be⟩
 obtain⟨v,hv⟩:=h;exact key FS ⟨v,hv,be⟩
theorem yt.aAh(h:yt D r s k)(R:0<k)(hB:∀v,(D 0).uo v↔(D k).uo v):False:=by
 classical
 have Py:=fun t ht=>(h.at_ t ht).1;have hfe:=fun t ht=>(h.at_ t ht).2.1;have hm:=fun t ht=>(h.at_ t ht).2.2.1;have hq:=fun t ht=>(h.at_ t ht).2.2.2.1;have Xr:=fun t ht=>(h.at_ t ht).2.2.2.2;have htop0:(D k).top=(D 0).top:=by
  have Y:=((Xr k (aq _)) _ _).2 (Dc.wG (Py 0 (ae _)));have I:=Y.2;rw[cY (g:=fun _=>0) fun j hj=>by rw[(D 0).wF fun g=>(Py k (aq _)).tT hj ((hB _).1 g),bL],dh]at I;rw[I];grind
 have Vc:∀t,t<=k->(D t).top=(D 0).top:=fun t ht=>Rat.le_antisymm (htop0▸h.mono k t ht (aq _)) (h.mono t 0 (ae _) ht);have Tz:∀t,t<k->(D t).b (r t)=0:=fun t ht=>by
  obtain⟨k1,k2⟩:=h.step t ht;refine(k1.top (hfe t be)).2 ?_;rw[<-k2,Vc t be,Vc (t+1) be]
 have SH:∀t,t<=k->∀v,(D t).val v=(D 0).val v:=fun t=>by
  induction t with
  |zero=>intro _ _;rfl
  |succ t ih=>
   intro ht v;obtain⟨k1,k2⟩:=h.step t be;rw[k2,k1.val (Tz t be) v,ih be v]
 have hzero:∀t u,t<=k->u<=k->∀i,i<(D t).m->¬(D u).uo ((D t).fF i)->(D t).b i=0:=fun t u ht hu i N U=>by
  rw[<-Dc.wE (Py t ht) N,SH t ht,<-SH u hu,(D u).wF U]
 obtain⟨T,⟨⟨p,hp,hPp⟩,⟨u,hu,hPu⟩,hTN⟩,ZA⟩:=Hl (P:=fun v=>(∃t,t<=k/\(D t).uo v)/\(∃t,t<=k/\¬(D t).uo v)/\v<(D 0).m+(D 0).q) (FS:=(D 0).m+(D 0).q) (fun v hv=>hv.2.2) ⟨(D 0).eV (s 0),⟨1,R,by
  obtain⟨k1,k2⟩:=h.step 0 R;have k2:D 1=(D 0).gZ (r 0) (s 0):=k2
  rw[k2];exact k1.enters⟩,⟨0,ae _,h.ok.tT (h.step 0 R).1.hs⟩,h.ok.fl _ (h.step 0 R).1.hs⟩
 have ZA:∀v t w,t<=k->w<=k->(D t).uo v->¬(D w).uo v->v<(D 0).m+(D 0).q->v<=T:=fun v t w ht G Y I h3=>ZA v ⟨⟨t,ht,Y⟩,⟨w,G,I⟩,h3⟩;have two:(∃t,t<k/\(D t).uo T/\¬(D (t+1)).uo T)/\∃t,t<k/\¬(D t).uo T/\(D (t+1)).uo T:=by
  by_cases h0:(D 0).uo T
  .obtain⟨t,_,t1,t2,t3⟩:=chg (P:=fun t=>(D t).uo T) h0 u (ae _) hPu;obtain⟨w,_,w1,F,w3⟩:=chg (P:=fun t=>¬(D t).uo T) hPu k hu (fun g=>g ((hB T).1 h0));exact⟨⟨t,be,t2,t3⟩,⟨w,be,F,Decidable.byContradiction w3⟩⟩
  .obtain⟨w,_,w1,F,w3⟩:=chg (P:=fun t=>¬(D t).uo T) h0 p (ae _) (fun g=>g hPp);obtain⟨t,_,t1,t2,t3⟩:=chg (P:=fun t=>(D t).uo T) hPp k hp (fun g=>h0 ((hB T).2 g));exact⟨⟨t,be,t2,t3⟩,⟨w,be,F,Decidable.byContradiction w3⟩⟩
 obtain⟨⟨t1,Zp,hin1,Zq⟩,t2,WW,hout2,hin2⟩:=two;obtain⟨S1,e1⟩:=h.step t1 Zp;obtain⟨S2,e2⟩:=h.step t2 WW;rw[e1]at Zq;rw[e2]at hin2;have hT1:=Dc.Nt hin1 Zq;have Xs:=Dc.Nu hin2 hout2;have VB:=Py t1 be;have Wq:=Py t2 be;have Zr:∀y:Rat,(D t1).top+(D t1).c (s t1)*y=(D t2).top+cw (fun j=>(D t2).c j*((D t1).val ((D t2).eV j)+y*(D t1).dir (s t1) ((D t2).eV j))) (D t2).q:=fun y=>
  (((Xr t2 be) _ _).2 (((Xr t1 be) _ _).1 (Dc.line VB S1.hs y))).2
 have hc:(D t1).c (s t1)=cw (fun j=>(D t2).c j*(D t1).dir (s t1) ((D t2).eV j)) (D t2).q:=by
  have l0:=Zr 0;have l1:=Zr 1;rw[cY (g:=fun j=>(D t2).c j*(D t1).val ((D t2).eV j)) fun j _=>by grind]at l0;rw[cY (g:=fun j=>(D t2).c j*(D t1).val ((D t2).eV j)+(D t2).c j*(D t1).dir (s t1) ((D t2).eV j)) fun j _=>by grind,gD]at l1;grind
 obtain⟨j,hj,QU⟩:∃j,j<(D t2).q/\0<(D t2).c j*(D t1).dir (s t1) ((D t2).eV j):=by
  refine Decidable.byContradiction fun Ta=>?_;have Y:0<=cw (fun j=> -((D t2).c j*(D t1).dir (s t1) ((D t2).eV j))) (D t2).q:=jX fun j hj=>by
   have:¬0<(D t2).c j*(D t1).dir (s t1) ((D t2).eV j):=fun g=>Ta ⟨j,hj,g⟩;have:=Rat.not_lt.1 this;grind
  rw[gX,<-hc]at Y;have:=S1.cs;grind
 have hvN:(D t2).eV j<(D t1).m+(D t1).q:=by
  have:=Wq.fl j hj;rw[hm t2 be,hq t2 be]at this;rw[hm t1 be,hq t1 be];exact this
 have hvN0:(D t2).eV j<(D 0).m+(D 0).q:=by rwa [hm t1 be,hq t1 be]at hvN
 have Xt:¬(D t2).uo ((D t2).eV j):=Wq.tT hj;rcases VB.all _ hvN with⟨i,N,ei⟩|⟨j',Ys,ej⟩
 ·
  have hle:(D t2).eV j<=T:=ZA _ t1 t2 be be ⟨i,N,ei⟩ Xt hvN0;rw[<-ei,Dc.JA VB S1.hs N]at QU;by_cases hcj:0<(D t2).c j
  .have Y:=S2.HV j hj hcj;have hTv:(D t1).fF (r t1)=(D t1).fF i:=by rw[<-hT1,ei,Xs];rw[Xs]at hle;omega
   have:=VB.bi _ _ S1.hr N hTv;subst this;have I:=Rat.mul_pos hcj S1.ars;grind
  .have hcj:=Rat.not_lt.1 hcj;have ha:0<(D t1).a i (s t1):=by
    refine Decidable.byContradiction fun g=>?_;have g:=Rat.not_lt.1 g;have I:0<= -(D t2).c j* -((D t1).a i (s t1)):=Rat.mul_nonneg (by grind) (by grind);grind
   have Wo:=hzero t1 t2 be be i N (by rw[ei];exact Xt);obtain⟨k1,k2⟩:=S1.Hk i N ha;have h3:=k2 (by rw[Tz t1 Zp,Wo,bV,bV,bj,bj]);rw[<-hT1,ei]at h3;have hTv:(D t2).eV (s t2)=(D t2).eV j:=by omega
   have:=Wq.fi _ _ S2.hs hj hTv;subst this;have:=S2.cs;grind
 ·
  rw[<-ej,Dc.z4 VB S1.hs Ys]at QU;by_cases e:j'=s t1
  .rw[aM e]at QU;have hcj:0<(D t2).c j:=by grind
   have Y:=S2.HV j hj hcj;have VL:(D (t1+1)).uo ((D t2).eV j):=by rw[e1,<-ej,e];exact S1.enters
   have hle:(D t2).eV j<=T:=ZA _ (t1+1) t2 be be VL Xt hvN0;have hTv:(D t1).fF (r t1)=(D t1).eV j':=by rw[<-hT1,ej,Xs];rw[Xs]at hle;omega
   exact VB.bf _ _ S1.hr Ys hTv
  .rw[aI e]at QU;grind
noncomputable def yu (P:Nat->Prop):Nat->Nat
 |0=>0
 |n+1=>yu P n+(by classical exact if P n then 2^n else 0)
theorem z5(P:Nat->Prop):∀n,yu P n<2^n
 |0=>cG 0
 |n+1=>by
  have:=z5 P n;rw[yu,Nat.pow_succ];split<;>omega
theorem GG{P Q:Nat->Prop}:∀n,yu P n=yu Q n->∀v,v<n->(P v↔Q v)
 |0,_,v,hv=>by omega
 |n+1,h,v,hv=>by
  have Y:=z5 P n;have I:=z5 Q n;rw[yu,yu]at h;have key:(P n↔Q n)/\yu P n=yu Q n:=by
   split at h<;>split at h<;>rename_i p q
   .exact⟨⟨fun _=>q,fun _=>p⟩,be⟩
   .omega
   .omega
   .exact⟨⟨fun g=>absurd g p,fun g=>absurd g q⟩,be⟩
  rcases aW v n with h3|h3
  .exact GG n key.2 v h3
  .have:v=n:=by omega
   subst this;exact key.1
theorem yt.short(h:yt D r s k):k<2^((D 0).m+(D 0).q):=by
 refine xU _ (k+1) (fun t=>yu (D t).uo ((D 0).m+(D 0).q)) (fun t _=>z5 _ _) ?_;have key:∀a b,a<b->b<=k->yu (D a).uo ((D 0).m+(D 0).q)≠yu (D b).uo ((D 0).m+(D 0).q):=fun a b Td A e=>by
  have hr:=h.shift (a:=a) (b:=b-a) be;refine hr.aAh be fun v=>?_;show(D (a+0)).uo v↔(D (a+(b-a))).uo v;rw[show a+(b-a)=b by omega,cN];rcases aW v ((D 0).m+(D 0).q)with hv|hv
  .exact GG _ e v hv
  .have Ta:∀t,t<=k->¬(D t).uo v:=fun t ht ⟨i,N,ei⟩=>by
    obtain⟨Y,-,h3,h4,-⟩:=h.at_ t ht;have:=Y.bl i N;rw[h3,h4]at this;omega
   exact⟨fun g=>absurd g (Ta a be),fun g=>absurd g (Ta b A)⟩
 intro i j N hj e;rcases cP i j with Y|Y|Y
 .exact absurd e (key i j Y be)
 .exact Y
 .exact absurd e.symm (key j i Y be)
end
def my(c:Nat->Rat)(f:Nat->Nat):Nat->Option Nat
 |0=>none
 |n+1=>match my c f n with
  |none=>if 0<c n then some n else none
  |some k=>if 0<c n/\f n<f k then some n else some k
theorem tU{c:Nat->Rat}{f:Nat->Nat}:∀{n:Nat},my c f n=none->∀j,j<n->¬0<c j
 |0,_,j,hj=>by omega
 |n+1,h,j,hj=>by
  rw[my]at h;split at h
  .rename_i e;split at h
   .cases h
   .rename_i g;rcases aW j n with Y|Y
    .exact tU e j Y
    .obtain rfl:j=n:=by omega
     exact g
  .split at h<;>cases h
theorem kP{c:Nat->Rat}{f:Nat->Nat}:∀{n k:Nat},my c f n=some k->k<n/\0<c k/\∀j,j<n->0<c j->f k<=f j
 |0,_,h=>by cases h
 |n+1,k,h=>by
  rw[my]at h;split at h
  .rename_i e;split at h
   .rename_i g;injection h with h;subst h;refine⟨be,g,fun j hj hc=>?_⟩;rcases aW j n with Y|Y
    .exact absurd hc (tU e j Y)
    .obtain rfl:j=n:=by omega
     exact aq _
   .cases h
  .rename_i k' e;obtain⟨Y,I,h3⟩:=kP e;split at h
   .rename_i g;injection h with h;subst h;refine⟨be,g.1,fun j hj hc=>?_⟩;rcases aW j n with h4|h4
    .have:=h3 j h4 hc;omega
    .obtain rfl:j=n:=by omega
     exact aq _
   .rename_i g;injection h with h;subst h;refine⟨be,I,fun j hj hc=>?_⟩;rcases aW j n with h4|h4
    .exact h3 j h4 hc
    .obtain rfl:j=n:=by omega
     have:¬f j<f k':=fun g2=>g ⟨hc,g2⟩;omega
def kc(a b:Nat->Rat)(f:Nat->Nat):Nat->Option Nat
 |0=>none
 |n+1=>if a n<=0 then kc a b f n else match kc a b f n with
  |none=>some n
  |some k=>if b n / a n<b k / a k\/(b n / a n=b k / a k/\f n<f k)then some n else some k
theorem tV{a b:Nat->Rat}{f:Nat->Nat}:∀{n:Nat},kc a b f n=none->∀i,i<n->a i<=0
 |0,_,i,N=>by omega
 |n+1,h,i,N=>by
  rw[kc]at h;split at h
  .rename_i g;rcases aW i n with Y|Y
   .exact tV h i Y
   .obtain rfl:i=n:=by omega
    exact g
  .split at h
   .cases h
   .split at h<;>cases h
theorem pI{a b:Nat->Rat}{f:Nat->Nat}:∀{n k:Nat},kc a b f n=some k->k<n/\0<a k/\∀i,i<n->0<a i->b k / a k<=b i / a i/\(b k / a k=b i / a i->f k<=f i)
 |0,_,h=>by cases h
 |n+1,k,h=>by
  rw[kc]at h;split at h
  .rename_i g;obtain⟨Y,I,h3⟩:=pI h;refine⟨be,I,fun i N ha=>?_⟩;rcases aW i n with h4|h4
   .exact h3 i h4 ha
   .obtain rfl:i=n:=by omega
    exact absurd ha (Rat.not_lt.2 g)
  .rename_i g;have g:=Rat.not_le.1 g;split at h
   .rename_i e;injection h with h;subst h;refine⟨be,g,fun i N ha=>?_⟩;rcases aW i n with h4|h4
    .exact absurd ha (Rat.not_lt.2 (tV e i h4))
    .obtain rfl:i=n:=by omega
     exact⟨Rat.le_refl,fun _=>aq _⟩
   .rename_i k' e;obtain⟨Y,I,h3⟩:=pI e;split at h
    .rename_i g2;injection h with h;subst h;refine⟨be,g,fun i N ha=>?_⟩;rcases aW i n with h4|h4
     .obtain⟨k1,k2⟩:=h3 i h4 ha;rcases g2 with g2|⟨g2,g3⟩
      .have:b n / a n<b i / a i:=by grind
       exact⟨Rat.le_of_lt this,fun e=>by rw[e]at this;exact absurd this (Rat.lt_irrefl)⟩
      .exact⟨g2▸k1,fun e=>by have:=k2 (g2▸e);omega⟩
     .obtain rfl:i=n:=by omega
      exact⟨Rat.le_refl,fun _=>aq _⟩
    .rename_i g2;injection h with h;subst h;refine⟨be,I,fun i N ha=>?_⟩;rcases aW i n with h4|h4
     .exact h3 i h4 ha
     .obtain rfl:i=n:=by omega
      have k1:¬b i / a i<b k' / a k':=fun h=>g2 (.inl h);refine⟨Rat.not_lt.1 k1,fun e=>?_⟩;have k2:¬f i<f k':=fun h=>g2 (.inr ⟨e.symm,h⟩);omega
theorem Dc.JB{D:Dc}{s:Nat}(hs:my D.c D.eV D.q=some s)(hr:kc (fun i=>D.a i s) D.b D.fF D.m=some r):D.Step r s:=by
 obtain⟨Y,I,h3⟩:=kP hs;obtain⟨k1,k2,k3⟩:=pI hr;exact⟨k1,Y,I,h3,k2,k3⟩
theorem yt.more{D:Nat->Dc}{r s:Nat->Nat}{k:Nat}(h:yt D r s k){r' s':Nat}(RN:(D k).Step r' s'):
  ∃D' r2 s2,yt D' r2 s2 (k+1)/\D' 0=D 0/\D' (k+1)=(D k).gZ r' s':=by
 refine⟨fun t=>if t<=k then D t else(D k).gZ r' s',fun t=>if t<k then r t else r',fun t=>if t<k then s t else s',⟨?_,?_,fun t ht=>?_⟩,?_,?_⟩
 .rw[aM (ae _)];exact h.ok
 .rw[aM (ae _)];exact h.fea
 .rcases aW t k with Y|Y
  .rw[aM be,aM Y,aM Y,aM be];exact h.step t Y
  .obtain rfl:t=k:=by omega
   rw[aM (aq _),aI be,aI be,aI be];exact⟨RN,rfl⟩
 .dsimp only;rw[if_pos (Nat.zero_le _)]
 .dsimp only;rw[if_neg be]
inductive Dc.End (D:Dc):Prop
 |CS (h:∀j,j<D.q->¬0<D.c j)
 |MD (s:Nat) (hs:s<D.q) (hc:0<D.c s) (ha:∀i,i<D.m->D.a i s<=0)
theorem yt.ends{D0:Dc}(Py:D0.Ok)(hf:D0.uq):∃D r s k,yt D r s k/\D 0=D0/\(D k).End:=by
 have key:∀n k,2^(D0.m+D0.q)<=k+n->(∃D r s,yt D r s k/\D 0=D0)->∃D r s k,yt D r s k/\D 0=D0/\(D k).End:=fun n=>by
  induction n with
  |zero=>
   rintro k R ⟨D,r,s,h,rfl⟩;exact absurd h.short be
  |succ n ih=>
   rintro k R ⟨D,r,s,h,h0⟩
   cases hs:my (D k).c (D k).eV (D k).q with
   |none=>exact⟨D,r,s,k,h,h0,.CS (tU hs)⟩
   |some s'=>
    cases hr:kc (fun i=>(D k).a i s') (D k).b (D k).fF (D k).m with
    |none=>
     obtain⟨Y,I,-⟩:=kP hs;exact⟨D,r,s,k,h,h0,.MD s' Y I (tV hr)⟩
    |some r'=>
     obtain⟨D',r2,s2,k1,k2,-⟩:=h.more (Dc.JB hs hr);exact ih (k+1) be ⟨D',r2,s2,k1,k2.trans h0⟩
 exact key (2^(D0.m+D0.q)) 0 be ⟨fun _=>D0,fun _=>0,fun _=>0,⟨Py,hf,fun t ht=>be⟩,rfl⟩
def Dc.mY(D:Dc)(v:Nat):Rat:=cw (fun j=>if D.eV j=v then D.c j else 0) D.q
def iE(m n:Nat)(Fn:Nat->Nat->Rat)(b c:Nat->Rat):Dc:=⟨m,n,fun i=>n+i,fun j=>j,Fn,b,c,0⟩
def eI(m n:Nat)(Fn:Nat->Nat->Rat)(b:Nat->Rat):Dc:=⟨m,n+1,fun i=>n+i,fun j=>if j<n then j else n+m,fun i j=>if j<n then Fn i j else -1,b,fun j=>if j<n then 0 else -1,0⟩
theorem tW(m n:Nat)(Fn:Nat->Nat->Rat)(b c:Nat->Rat):(iE m n Fn b c).Ok:=by
 refine⟨fun i (N:i<m)=>show n+i<m+n by omega,fun j (hj:j<n)=>show j<m+n by omega,fun i k _ _ (e:n+i=n+k)=>be,fun j k _ _ e=>e,fun i j N (hj:j<n) (e:n+i=j)=>be,fun v (hv:v<m+n)=>?_⟩;rcases aW v n with h|h
 .exact .inr ⟨v,h,rfl⟩
 .exact .inl ⟨v-n,show v-n<m by omega,show n+(v-n)=v by omega⟩
theorem tX(m n:Nat)(Fn:Nat->Nat->Rat)(b:Nat->Rat):(eI m n Fn b).Ok:=by
 have hf:∀j,(eI m n Fn b).eV j=if j<n then j else n+m:=fun _=>rfl
 refine⟨fun i (N:i<m)=>show n+i<m+(n+1) by omega,fun j (hj:j<n+1)=>?_,fun i k _ _ (e:n+i=n+k)=>be,fun j k (hj:j<n+1) (R:k<n+1) e=>?_,fun i j (N:i<m) (hj:j<n+1) (e:n+i=if j<n then j else n+m)=>?_,fun v (hv:v<m+(n+1))=>?_⟩
 .show(if j<n then j else n+m)<m+(n+1)
  split<;>omega
 .rw[hf,hf]at e;split at e<;>split at e<;>omega
 .split at e<;>omega
 .rcases aW v n with h|h
  .exact .inr ⟨v,show v<n+1 by omega,by rw[hf,aM h]⟩
  .rcases aW v (n+m)with I|I
   .exact .inl ⟨v-n,show v-n<m by omega,show n+(v-n)=v by omega⟩
   .exact .inr ⟨n,show n<n+1 by omega,by rw[hf,aI (Nat.lt_irrefl n)];omega⟩
theorem qN{m n:Nat}{b:Nat->Rat}{z:Rat}:(eI m n Fn b).yL x z↔(∀i,i<m->x (n+i)=b i-(cw (fun j=>Fn i j*x j) n-x (n+m)))/\z= -x (n+m):=by
 have Y:∀g:Nat->Rat,∀u:Rat,cw (fun j=>(if j<n then g j else u)*x ((eI m n Fn b).eV j)) (n+1)=cw (fun j=>g j*x j) n+u*x (n+m):=fun g u=>by
  show cw _ n+(if n<n then g n else u)*x (if n<n then n else n+m)=_;rw[aI (Nat.lt_irrefl n),aI (Nat.lt_irrefl n)];congr 1;refine cY fun j hj=>?_;show(if j<n then g j else u)*x (if j<n then j else n+m)=_;rw[aM hj,aM hj]
 have I:∀i,(eI m n Fn b).row x i=cw (fun j=>Fn i j*x j) n+(-1)*x (n+m):=fun i=>Y (Fn i) (-1);have h3:cw (fun j=>(eI m n Fn b).c j*x ((eI m n Fn b).eV j)) (n+1)=cw (fun j=>(0:Rat)*x j) n+(-1)*x (n+m):=Y (fun _=>0) (-1);rw[cY (g:=fun _=>0) fun j _=>bj _,dh]at h3;constructor
 .rintro⟨k1,k2⟩;refine⟨fun i N=>?_,?_⟩
  .have:=k1 i N;rw[I]at this;rw[show x (n+i)=x ((eI m n Fn b).fF i)from rfl,this];show b i-_=b i-_;grind
  .have k2:z=0+_:=k2;rw[k2];have:=h3;show 0+cw (fun j=>(eI m n Fn b).c j*x ((eI m n Fn b).eV j)) (n+1)=_;rw[h3];grind
 .rintro⟨k1,k2⟩;refine⟨fun i N=>?_,?_⟩
  .rw[I];show x (n+i)=b i-_;rw[k1 i N];grind
  .show z=0+cw (fun j=>(eI m n Fn b).c j*x ((eI m n Fn b).eV j)) (n+1);rw[h3,k2];grind
section
variable{D:Dc}{m n:Nat}{Fn:Nat->Nat->Rat}{b c x:Nat->Rat}
theorem Dc.JC(h:D.Ok)(x:Nat->Rat):cw (fun j=>D.c j*x (D.eV j)) D.q=cw (fun v=>D.mY v*x v) (D.m+D.q):=by
 rw[cY (f:=fun v=>D.mY v*x v) (g:=fun v=>cw (fun j=>(if D.eV j=v then D.c j else 0)*x v) D.q) fun v _=>by unfold Dc.mY;rw[jN],jt];refine cY fun j hj=>?_;rw[eR (h.fl j hj) fun v _ e=>by rw[aI fun g=>e g.symm,bj],aM rfl]
theorem Dc.EP(h:∀j,j<D.q->¬0<D.c j)(v:Nat):D.mY v<=0:=by
 have:0<=cw (fun j=> -(if D.eV j=v then D.c j else 0)) D.q:=jX fun j hj=>by
  have:=Rat.not_lt.1 (h j hj);split<;>grind
 rw[gX]at this;unfold Dc.mY;grind
theorem Dc.ER(h:D.uq)(v:Nat):0<=D.val v:=jX fun i N=>by
 split
 .exact h i N
 .exact Rat.le_refl
def full(m n:Nat)(Fn:Nat->Nat->Rat)(b x:Nat->Rat)(v:Nat):Rat:=if v<n then x v else b (v-n)-cw (fun j=>Fn (v-n) j*x j) n
theorem tY{v:Nat}(h:v<n):full m n Fn b x v=x v:=aM h
theorem z6(i:Nat):full m n Fn b x (n+i)=b i-cw (fun j=>Fn i j*x j) n:=by
 unfold full;rw[aI be,Nat.add_sub_cancel_left]
theorem GH(x:Nat->Rat):(iE m n Fn b c).yL (full m n Fn b x) (cw (fun j=>c j*x j) n):=by
 refine⟨fun i (N:i<m)=>?_,?_⟩
 .show full m n Fn b x (n+i)=b i-cw (fun j=>Fn i j*full m n Fn b x j) n;rw[z6,cY (f:=fun j=>Fn i j*full m n Fn b x j) (g:=fun j=>Fn i j*x j) fun j hj=>by rw[tY hj]]
 .show _=0+cw (fun j=>c j*full m n Fn b x j) n;rw[cY (f:=fun j=>c j*full m n Fn b x j) (g:=fun j=>c j*x j) fun j hj=>by rw[tY hj],Rat.zero_add]
structure jZ(D:Dc)(m n:Nat)(Fn:Nat->Nat->Rat)(b c:Nat->Rat):Prop where
 ok:D.Ok
 em:D.m=m
 eq:D.q=n
 GI:∀x z,D.yL x z↔(iE m n Fn b c).yL x z
theorem jZ.obj(h:jZ D m n Fn b c)(x:Nat->Rat):cw (fun j=>c j*x j) n=D.top+cw (fun v=>D.mY v*x v) n+cw (fun i=>D.mY (n+i)*(b i-cw (fun j=>Fn i j*x j) n)) m:=by
 have Y:=((h.GI _ _).2 (GH x)).2;rw[D.JC h.ok,h.em,h.eq,Nat.add_comm m n,qL,cY (f:=fun v=>D.mY v*full m n Fn b x v) (g:=fun v=>D.mY v*x v) fun v hv=>by rw[tY hv],cY (f:=fun k=>D.mY (n+k)*full m n Fn b x (n+k)) (g:=fun i=>D.mY (n+i)*(b i-cw (fun j=>Fn i j*x j) n)) fun i _=>by rw[z6]]at Y;rw[Y];grind
theorem jZ.aAi(h:jZ D m n Fn b c)(A:∀j,j<D.q->¬0<D.c j):(∀i,0<= -(D.mY (n+i)))/\cw (fun i=> -(D.mY (n+i))*b i) m=D.top/\∀j,j<n->c j<=cw (fun i=> -(D.mY (n+i))*Fn i j) m:=by
 have h0:=h.obj fun _=>0;have hz:∀g:Nat->Rat,cw (fun j=>g j*(0:Rat)) n=0:=fun g=>by rw[cY (g:=fun _=>0) fun j _=>bL _,dh]
 rw[hz,hz,cY (g:=fun i=>D.mY (n+i)*b i) fun i _=>by rw[hz];grind]at h0;have Vc:cw (fun i=> -(D.mY (n+i))*b i) m=D.top:=by
  rw[cY (g:=fun i=> -(D.mY (n+i)*b i)) fun i _=>by grind,gX];grind
 refine⟨fun i=>by have:=D.EP A (n+i);grind,Vc,fun j hj=>?_⟩;have Y:=h.obj fun v=>if v=j then 1 else 0
 have L:∀g:Nat->Rat,cw (fun v=>g v*(if v=j then(1:Rat)else 0)) n=g j:=fun g=>by
  rw[eR hj fun k _ e=>by rw[aI e,bL],aM rfl,Rat.mul_one]
 rw[L,L,cY (g:=fun i=>D.mY (n+i)*b i-D.mY (n+i)*Fn i j) fun i _=>by rw[L];grind,js]at Y;have I:=D.EP A j;rw[cY (f:=fun i=> -(D.mY (n+i))*Fn i j) (g:=fun i=> -(D.mY (n+i)*Fn i j)) fun i _=>by grind,gX];grind
theorem jZ.jv(h:jZ D m n Fn b c)(hf:D.uq):(∀v,0<=D.val v)/\(∀i,i<m->cw (fun j=>Fn i j*D.val j) n<=b i)/\cw (fun j=>c j*D.val j) n=D.top:=by
 obtain⟨Y,I⟩:=(h.GI _ _).1 (Dc.wG h.ok);refine⟨D.ER hf,fun i N=>?_,?_⟩
 .have h3:D.val (n+i)=b i-cw (fun j=>Fn i j*D.val j) n:=Y i N;have:=D.ER hf (n+i);grind
 .have I:D.top=0+cw (fun j=>c j*D.val j) n:=I;rw[I,Rat.zero_add]
theorem jZ.ray(h:jZ D m n Fn b c){s:Nat}(hs:s<D.q)(ha:∀i,i<D.m->D.a i s<=0):(∀v,0<=D.dir s v)/\(∀i,i<m->cw (fun j=>Fn i j*D.dir s j) n<=0)/\cw (fun j=>c j*D.dir s j) n=D.c s:=by
 have hnn:∀v,0<=D.dir s v:=fun v=>by
  have Y:0<=cw (fun i=> -(if D.fF i=v then D.a i s else 0)) D.m:=jX fun i N=>by
   have:=ha i N;split<;>grind
  rw[gX]at Y;unfold Dc.dir;split<;>grind
 have hl:=fun y=>(h.GI _ _).1 (Dc.line h.ok hs y);have e:∀g:Nat->Rat,∀y:Rat,cw (fun j=>g j*(D.val j+y*D.dir s j)) n=cw (fun j=>g j*D.val j) n+y*cw (fun j=>g j*D.dir s j) n:=fun g y=>by
  rw[cY (g:=fun j=>g j*D.val j+y*(g j*D.dir s j)) fun j _=>by grind,gD,fV]
 refine⟨hnn,fun i N=>?_,?_⟩
 .have k0:D.val (n+i)+0*D.dir s (n+i)=b i-cw (fun j=>Fn i j*(D.val j+0*D.dir s j)) n:=(hl 0).1 i N;have k1:D.val (n+i)+1*D.dir s (n+i)=b i-cw (fun j=>Fn i j*(D.val j+1*D.dir s j)) n:=(hl 1).1 i N;rw[e]at k0 k1;have:=hnn (n+i);grind
 .have k0:D.top+D.c s*0=0+cw (fun j=>c j*(D.val j+0*D.dir s j)) n:=(hl 0).2;have k1:D.top+D.c s*1=0+cw (fun j=>c j*(D.val j+1*D.dir s j)) n:=(hl 1).2;rw[e]at k0 k1;grind
end
end Go.Ex
