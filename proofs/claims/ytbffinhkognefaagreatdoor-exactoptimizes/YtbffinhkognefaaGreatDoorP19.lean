/- Texts X99 to X271: lemmas, each with its conditions. -/
import Derived.Test.YtbffinhkognefaaGreatDoorP18
namespace Go.Ex
open Go Go.Sx Go.Proofs
variable{b c:List (Int×Int)}{M:List (List (Int×Int))}{Fn:List (List Rat)}{S:Nat->Prop}{v vb vc vm:Value}{w J:World}
set_option maxRecDepth 4000 in
set_option maxHeartbeats 1000000 in
theorem zP{vx vy vr:Value}{z:Int}{bs cs xs ys rs':List Rat}{q:Rat}{g1 g5:Option Addr}{g2 g3 g6 g7 h:Nat}{g0 g4:Bool}(W:Old S w)
  (hm:dS w S vm Fn) (hB:dC w S vb bs) (hc:dC w S vc cs) (E:dC w S vx xs) (hy:dC w S vy ys) (hr:dC w S vr rs') (hv:gG w S (.agg #[.bool g0,.slice g1 g2 g3,.bool g4,.slice g5 g6 g7]) q) (TS:bs.length=Fn.length) (SQ:∀r∈Fn,r.length=cs.length)
  (I:2<=h) (TA:Ht Fn h) (XP:∀q∈bs,rl q+1<=h) (XH:∀q∈cs,rl q+1<=h) (Zb:∀q∈xs,rl q+1<=h) (WR:∀q∈ys,rl q+1<=h) (hqR:∀q∈rs',rl q+1<=h) (Ss:2*h*cs.length<=90000) (UM:2*h*Fn.length<=90000) (hM6:Fn.length<=1000000) (hc6:cs.length<=1000000) (hx6:xs.length<=1000000) (Xe:rs'.length<=1000000):
  eL PG FS.nY #[.agg #[vm,vb,vc],.agg #[iV z,vx,vy,vr,.bool g0,.slice g1 g2 g3,.bool g4,.slice g5 g6 g7]] w (eY w fun v' _=>∃e:Nat,v'=iV e/\(iF Fn bs cs z xs ys rs' q->e=0)/\(¬iF Fn bs cs z xs ys rs' q->e=25)):=by
 have G:=bR w;obtain⟨am,cm,rfl,SF,TG⟩:=dH.shape hm;obtain⟨ab,cb,rfl,RK,Te⟩:=dN.shape hB;obtain⟨ac,cc,rfl,Vd,SR⟩:=dN.shape hc;obtain⟨ax,cx,rfl,XC,Uy⟩:=dN.shape E;obtain⟨ay,cy,rfl,Yq,hmy⟩:=dN.shape hy;obtain⟨ar,cr,rfl,VM,hmr⟩:=dN.shape hr;unfold maxLen at TG Te SR;refine rL ce ?_;conv=>whnf
 refine dP (idO 8) ?_;conv=>whnf
 apply bS<;>intro hz
 .have hz:z=0:=by simpa using hz
  subst hz;have Ps:(rs'=[]/\iT Fn cs.length xs bs/\qk Fn ys cs/\dY cs xs cs.length=q/\dY ys bs ys.length=q)↔iF Fn bs cs 0 xs ys rs' q:=by
   unfold iF;constructor
   .exact fun h=>.inl ⟨rfl,h⟩
   .rintro(⟨-,h⟩|⟨h,-⟩|⟨h,-⟩)
    .exact h
    .exact absurd h bv
    .exact absurd h bv
  conv=>whnf
  refine dP [.x 0,.x 1,.x 2,.x 3,.x 4,.x 5,.x 6,.x 7,.x 8,.x 9,.x 10,.x 11,.x 12,.x 13,.x 14,.x 15,.x 16,.x 17,.x 18,.x 19,.x 20,.x 21,.x 22,.x 23,.x 24,.x 26,.x 27,.x 25,.x 28,.x 29,.x 30,.x 31,.x 32,.x 33,.x 34,.x 36,.x 37,.x 35,.x 38,.x 39,.x 40,.x 41,.x 42,.x 43,.x 44,.x 45,.x 47,.x 48,.x 46,.x 49,.x 50,.x 51,.x 52] ?_;conv=>whnf
  apply bS<;>intro RW
  .have RW:rs'=[]:=List.eq_nil_of_length_eq_zero (by have:(rs'.length:Int)=0:=(by simpa using RW);omega);conv=>whnf
   refine cE G (fun _ J v F=>∃d,v= .bool d/\(d=true->iT Fn cs.length xs bs)/\(iT Fn cs.length xs bs->d=true)) (fun O J r=>mI (h:=h) (rlo r W) (dS.cV (dS.cX hm ((kS G r W))) fun _ V=>(.inl V:Cv S w.heap.size _ _)) (dC.cV (dC.cX E ((kS G r W))) fun _ V=>(.inl V:Cv S w.heap.size _ _)) (dC.cV (dC.cX hB ((kS G r W))) fun _ V=>(.inl V:Cv S w.heap.size _ _)) TS SQ TA Zb I Ss be be) ?_;rintro O QP v1 QL Pv r L G h_ ⟨d,rfl,QM,QJ⟩;clear r;conv=>whnf
   cases d with
   |false=>
    have Up:¬(iT Fn cs.length xs bs):=fun h=>absurd (QJ h) bv;clear QM QJ;conv=>whnf
    conv=>whnf
    exact rtn G fun GE we re=>⟨25,rfl,fun h=>absurd h (fun h=>Up (Ps.2 h).2.1),fun _=>rfl⟩
   |true=>
    have Up:iT Fn cs.length xs bs:=QM rfl;clear QM QJ;conv=>whnf
    refine cE G (pR cg (dg Fn.length)) (fun O J r=>tJ Fn.length J be) ?_;rintro O Qq v2 QT iv2 r L G h_ U;have hz:=cg.cV U (nw r h_);clear r;obtain⟨ahz,chz,rfl,-,-⟩:=dN.shape hz;rw[aj]at hz ⊢;conv=>whnf
    refine cE G (fun _ J v F=>∃d,v= .bool d/\(d=true->ys.length=(dg Fn.length).length/\nL ys (dg Fn.length))/\(ys.length=(dg Fn.length).length/\nL ys (dg Fn.length)->d=true)) (fun O J r=>lO (rlo r W) (dC.cV (dC.cX hy ((kS G r W))) fun _ V=>(.inl V:Cv S w.heap.size _ _)) (dC.cV (cg.l (cg.rel hz r oF) (fun q hq=>by rw[aY hq];decide)) fun _ V=>(qj V:Cv S w.heap.size _ _))) ?_;rintro O Qo v3 Qc Pu r L G h_ ⟨d,rfl,QM,QJ⟩;clear hz;clear r;conv=>whnf
    cases d with
    |false=>
     have TC:¬(ys.length=(dg Fn.length).length/\nL ys (dg Fn.length)):=fun h=>absurd (QJ h) bv;clear QM QJ;conv=>whnf
     conv=>whnf
     exact rtn G fun GE we re=>⟨25,rfl,fun h=>absurd h (fun h=>TC (by have h:=(Ps.2 h).2.2.1;exact⟨h.1.trans (gT _).symm,h.1▸h.2.1⟩)),fun _=>rfl⟩
    |true=>
     have TC:ys.length=(dg Fn.length).length/\nL ys (dg Fn.length):=QM rfl;clear QM QJ;conv=>whnf
     have Sv:ys.length=Fn.length:=TC.1.trans (gT _);have RY:nL ys (dg ys.length):=Sv.symm▸TC.2;refine cE G (pR cg (da ys Fn cs.length Fn.length)) (fun O J r=>Dv (h:=h) (oS W r) (dC.cX hy ((kS G r W))) (dS.cX hm ((kS G r W))) Sv SQ be WR TA I UM) ?_;rintro O Rl v4 R4 QD r L G h_ U;have hT:=cg.cV U (nw r h_);clear r;clear U;obtain⟨aT,cT,rfl,-,-⟩:=dN.shape hT;rw[ff]at hT ⊢;conv=>whnf
     refine cE G (fun _ J v F=>∃d,v= .bool d/\(d=true->(da ys Fn cs.length Fn.length).length=cs.length/\nL (da ys Fn cs.length Fn.length) cs)/\((da ys Fn cs.length Fn.length).length=cs.length/\nL (da ys Fn cs.length Fn.length) cs->d=true)) (fun O J r=>lO (rlo r W) (dC.cV (cg.l (cg.rel hT r oF) (fun q hq=>by have:=ob WR TA I cs.length Fn.length q hq;omega)) fun _ V=>(qj V:Cv S w.heap.size _ _)) (dC.cV (dC.cX hc ((kS G r W))) fun _ V=>(.inl V:Cv S w.heap.size _ _))) ?_;rintro O Vs v5 VP QH r L G h_ ⟨d,rfl,QM,QJ⟩;clear hT;clear r;conv=>whnf
     cases d with
     |false=>
      have Uc:¬((da ys Fn cs.length Fn.length).length=cs.length/\nL (da ys Fn cs.length Fn.length) cs):=fun h=>absurd (QJ h) bv;clear QM QJ;conv=>whnf
      conv=>whnf
      exact rtn G fun GE we re=>⟨25,rfl,fun h=>absurd h (fun h=>Uc ⟨ff ..,(Ps.2 h).2.2.1.2.2⟩),fun _=>rfl⟩
     |true=>
      have Uc:(da ys Fn cs.length Fn.length).length=cs.length/\nL (da ys Fn cs.length Fn.length) cs:=QM rfl;clear QM QJ;conv=>whnf
      refine cE G (pR dI (dY cs xs cs.length)) (fun O J r=>tF (h:=h) (oS W r) (dC.cX hc ((kS G r W))) (dC.cX E ((kS G r W))) Up.1.symm XH Zb I Ss) ?_;rintro O VQ v6 VR Qe r L G h_ U;have hd:=U.cV (nw r h_);clear r;obtain⟨A0,A1,A2,A3,A4,A5,A6,A7,rfl⟩:=hd.shape;conv=>whnf
      have S5:=fo XH Zb I cs.length;have Wb:=Ss;refine cE G (pE (iV (rs (dY cs xs cs.length-q)))) (fun O J r=>Bs (rlo r W) (dI.l (dI.cV (dI.rel hd r oF) fun _ V=>(qj V:Cv S w.heap.size _ _)) be) (gG.cV (gG.cX hv ((kS G r W))) fun _ V=>(.inl V:Cv S w.heap.size _ _))) ?_;rintro O Wy v7 Wz RS r L G h_ rfl;clear hd;clear r;conv=>whnf
      apply bS<;>intro TN
      .have TN:dY cs xs cs.length=q:=ym.1 (by simpa using TN);conv=>whnf
       refine cE G (pR dI (dY ys bs ys.length)) (fun O J r=>tF (h:=h) (oS W r) (dC.cX hy ((kS G r W))) (dC.cX hB ((kS G r W))) (Sv.trans TS.symm) WR XP I (show 2*h*ys.length<=90000 by rw[Sv];exact UM)) ?_;rintro O wa8 v8 wb8 Sw r L G h_ U;have hd:=U.cV (nw r h_);clear r;obtain⟨C0,C1,C2,C3,C4,C5,C6,C7,rfl⟩:=hd.shape;conv=>whnf
       have S5:=fo WR XP I ys.length;have Wb:=(show 2*h*ys.length<=90000 by rw[Sv];exact UM)
       refine cE G (pE (iV (rs (dY ys bs ys.length-q)))) (fun O J r=>Bs (rlo r W) (dI.l (dI.cV (dI.rel hd r oF) fun _ V=>(qj V:Cv S w.heap.size _ _)) be) (gG.cV (gG.cX hv ((kS G r W))) fun _ V=>(.inl V:Cv S w.heap.size _ _))) ?_;rintro O _ _ _ VE r L G h_ rfl;clear hd;clear r;conv=>whnf
       apply bS<;>intro Rb
       .have Rb:dY ys bs ys.length≠q:=fun e=>by rw[ym.2 e]at Rb;simp at Rb
        conv=>whnf
        exact rtn G fun GE we re=>⟨25,rfl,fun h=>absurd h (fun h=>Rb (Ps.2 h).2.2.2.2),fun _=>rfl⟩
       have Rb:dY ys bs ys.length=q:=ym.1 (by simpa using Rb);conv=>whnf
       exact rtn G fun GE we re=>⟨0,rfl,fun _=>rfl,fun h=>absurd (Ps.1 ⟨RW,Up,⟨Sv,RY,Uc.2⟩,TN,Rb⟩) h⟩
      have TN:dY cs xs cs.length≠q:=fun e=>by rw[ym.2 e]at TN;simp at TN
      conv=>whnf
      exact rtn G fun GE we re=>⟨25,rfl,fun h=>absurd h (fun h=>TN (Ps.2 h).2.2.2.1),fun _=>rfl⟩
  have RW:rs'≠[]:=fun e=>by rw[e]at RW;simp at RW
  conv=>whnf
  exact rtn G fun GE we re=>⟨25,rfl,fun h=>absurd h (fun h=>RW (Ps.2 h).1),fun _=>rfl⟩
 have hz:z≠0:=by simpa using hz
 conv=>whnf
 apply bS<;>intro Uz
 .have Uz:z=1:=by simpa using Uz
  subst Uz;have Ps:(xs=[]/\rs'=[]/\q=0/\qk Fn ys (dg cs.length)/\dY ys bs ys.length<0)↔iF Fn bs cs 1 xs ys rs' q:=by
   unfold iF;constructor
   .exact fun h=>.inr (.inl ⟨rfl,h⟩)
   .rintro(⟨h,-⟩|⟨-,h⟩|⟨h,-⟩)
    .exact absurd h bv
    .exact h
    .exact absurd h bv
  conv=>whnf
  refine dP [.x 0,.x 1,.x 2,.x 3,.x 4,.x 5,.x 6,.x 7,.x 8,.x 9,.x 10,.x 11,.x 12,.x 13,.x 14,.x 15,.x 16,.x 17,.x 18,.x 19,.x 20,.x 21,.x 22,.x 23,.x 24,.x 25,.x 26,.x 28,.x 27,.x 29,.x 30,.x 31,.x 32,.x 33,.x 34,.x 35,.x 36,.x 37,.x 38,.x 39,.x 40,.x 41] ?_;conv=>whnf
  refine⟨((xs.length+rs'.length:Nat):Int),wo,?_⟩;conv=>whnf
  apply bS<;>intro Qd
  .have Qd:xs.length+rs'.length=0:=by have:((xs.length+rs'.length:Nat):Int)=0:=(by simpa using Qd);omega
   have RW:rs'=[]:=List.eq_nil_of_length_eq_zero be;replace Qd:xs=[]:=List.eq_nil_of_length_eq_zero be;conv=>whnf
   refine cE G (pE (iV (rs q))) (fun O J r=>kL (oS W r) (gG.cX hv ((kS G r W)))) ?_;rintro O QP v1 QL Pv r L G h_ rfl;clear r;conv=>whnf
   apply bS<;>intro SB
   .have SB:q=0:=gL.1 (by simpa using SB);conv=>whnf
    refine cE G (pR cg (dg Fn.length)) (fun O J r=>tJ Fn.length J be) ?_;rintro O Qq v2 QT iv2 r L G h_ U;have hz:=cg.cV U (nw r h_);clear r;obtain⟨ahz,chz,rfl,-,-⟩:=dN.shape hz;rw[aj]at hz ⊢;conv=>whnf
    refine cE G (fun _ J v F=>∃d,v= .bool d/\(d=true->ys.length=(dg Fn.length).length/\nL ys (dg Fn.length))/\(ys.length=(dg Fn.length).length/\nL ys (dg Fn.length)->d=true)) (fun O J r=>lO (rlo r W) (dC.cV (dC.cX hy ((kS G r W))) fun _ V=>(.inl V:Cv S w.heap.size _ _)) (dC.cV (cg.l (cg.rel hz r oF) (fun q hq=>by rw[aY hq];decide)) fun _ V=>(qj V:Cv S w.heap.size _ _))) ?_;rintro O Qo v3 Qc Pu r L G h_ ⟨d,rfl,QM,QJ⟩;clear hz;clear r;conv=>whnf
    cases d with
    |false=>
     have TC:¬(ys.length=(dg Fn.length).length/\nL ys (dg Fn.length)):=fun h=>absurd (QJ h) bv;clear QM QJ;conv=>whnf
     conv=>whnf
     exact rtn G fun GE we re=>⟨25,rfl,fun h=>absurd h (fun h=>TC (by have h:=(Ps.2 h).2.2.2.1;exact⟨h.1.trans (gT _).symm,h.1▸h.2.1⟩)),fun _=>rfl⟩
    |true=>
     have TC:ys.length=(dg Fn.length).length/\nL ys (dg Fn.length):=QM rfl;clear QM QJ;conv=>whnf
     have Sv:ys.length=Fn.length:=TC.1.trans (gT _);have RY:nL ys (dg ys.length):=Sv.symm▸TC.2;refine cE G (pR cg (da ys Fn cs.length Fn.length)) (fun O J r=>Dv (h:=h) (oS W r) (dC.cX hy ((kS G r W))) (dS.cX hm ((kS G r W))) Sv SQ be WR TA I UM) ?_;rintro O Rl v4 R4 QD r L G h_ U;have hT:=cg.cV U (nw r h_);clear r;clear U;obtain⟨aT,cT,rfl,-,-⟩:=dN.shape hT;rw[ff]at hT ⊢;conv=>whnf
     refine cE G (pR cg (dg cs.length)) (fun O J r=>tJ cs.length J be) ?_;rintro O Vs v5 VP QH r L G h_ U;replace hT:=cg.cS hT r oF L (mC h_);have hz:=cg.cV U (nw r h_);clear r;obtain⟨ahz,chz,rfl,-,-⟩:=dN.shape hz;rw[aj]at hz ⊢;conv=>whnf
     refine cE G (fun _ J v F=>∃d,v= .bool d/\(d=true->(da ys Fn cs.length Fn.length).length=(dg cs.length).length/\nL (da ys Fn cs.length Fn.length) (dg cs.length))/\((da ys Fn cs.length Fn.length).length=(dg cs.length).length/\nL (da ys Fn cs.length Fn.length) (dg cs.length)->d=true)) (fun O J r=>lO (rlo r W) (dC.cV (cg.l (cg.rel hT r oF) (fun q hq=>by have:=ob WR TA I cs.length Fn.length q hq;omega)) fun _ V=>(qj V:Cv S w.heap.size _ _)) (dC.cV (cg.l (cg.rel hz r oF) (fun q hq=>by rw[aY hq];decide)) fun _ V=>(qj V:Cv S w.heap.size _ _))) ?_;rintro O VQ v6 VR Qe r L G h_ ⟨d,rfl,QM,QJ⟩;clear hT;clear hz;clear r;conv=>whnf
     cases d with
     |false=>
      have Uc:¬((da ys Fn cs.length Fn.length).length=(dg cs.length).length/\nL (da ys Fn cs.length Fn.length) (dg cs.length)):=fun h=>absurd (QJ h) bv;clear QM QJ;conv=>whnf
      conv=>whnf
      exact rtn G fun GE we re=>⟨25,rfl,fun h=>absurd h (fun h=>Uc ⟨(ff ..).trans (gT _).symm,by have h:=(Ps.2 h).2.2.2.1.2.2;rw[gT]at h;exact h⟩),fun _=>rfl⟩
     |true=>
      have Uc:(da ys Fn cs.length Fn.length).length=(dg cs.length).length/\nL (da ys Fn cs.length Fn.length) (dg cs.length):=QM rfl;clear QM QJ;conv=>whnf
      refine cE G (pR dI (dY ys bs ys.length)) (fun O J r=>tF (h:=h) (oS W r) (dC.cX hy ((kS G r W))) (dC.cX hB ((kS G r W))) (Sv.trans TS.symm) WR XP I (show 2*h*ys.length<=90000 by rw[Sv];exact UM)) ?_;rintro O _ _ _ RS r L G h_ U;have hd:=U.cV (nw r h_);clear r;obtain⟨E0,E1,E2,E3,E4,E5,E6,E7,rfl⟩:=hd.shape;conv=>whnf
      have S5:=fo WR XP I ys.length;have Wb:=(show 2*h*ys.length<=90000 by rw[Sv];exact UM)
      refine cE G (pE (iV (rs (dY ys bs ys.length)))) (fun O J r=>tm (rlo r oF) (hd.rel r oF)) ?_;rintro O _ _ _ Sw r L G h_ rfl;clear hd;clear r;conv=>whnf
      apply bS<;>intro Rb
      .have Rb:¬dY ys bs ys.length<0:=fun e=>absurd (j5.2 e) (by simpa using Rb);conv=>whnf
       exact rtn G fun GE we re=>⟨25,rfl,fun h=>absurd h (fun h=>Rb (Ps.2 h).2.2.2.2),fun _=>rfl⟩
      have Rb:dY ys bs ys.length<0:=j5.1 (by simpa using Rb);conv=>whnf
      exact rtn G fun GE we re=>⟨0,rfl,fun _=>rfl,fun h=>absurd (Ps.1 ⟨Qd,RW,SB,⟨Sv,RY,by rw[gT];exact Uc.2⟩,Rb⟩) h⟩
   have SB:q≠0:=fun e=>by rw[gL.2 e]at SB;simp at SB
   conv=>whnf
   exact rtn G fun GE we re=>⟨25,rfl,fun h=>absurd h (fun h=>SB (Ps.2 h).2.2.1),fun _=>rfl⟩
  have Qd:¬(xs=[]/\rs'=[]):=fun⟨e1,e2⟩=>by rw[e1,e2]at Qd;simp at Qd
  conv=>whnf
  exact rtn G fun GE we re=>⟨25,rfl,fun h=>absurd h (fun h=>Qd ⟨(Ps.2 h).1,(Ps.2 h).2.1⟩),fun _=>rfl⟩
 have Uz:z≠1:=by simpa using Uz
 conv=>whnf
 apply bS<;>intro Ro
 .have Ro:z=2:=by simpa using Ro
  subst Ro;have Ps:(ys=[]/\q=0/\iT Fn cs.length xs bs/\iT Fn cs.length rs' (dg bs.length)/\0<dY cs rs' cs.length)↔iF Fn bs cs 2 xs ys rs' q:=by
   unfold iF;constructor
   .exact fun h=>.inr (.inr ⟨rfl,h⟩)
   .rintro(⟨h,-⟩|⟨h,-⟩|⟨-,h⟩)
    .exact absurd h bv
    .exact absurd h bv
    .exact h
  rw[TS]at Ps;conv=>whnf
  refine dP (idO 36) ?_;conv=>whnf
  apply bS<;>intro Qz
  .have Qz:ys=[]:=List.eq_nil_of_length_eq_zero (by have:(ys.length:Int)=0:=(by simpa using Qz);omega);conv=>whnf
   refine cE G (pE (iV (rs q))) (fun O J r=>kL (oS W r) (gG.cX hv ((kS G r W)))) ?_;rintro O _ _ _ Pv r L G h_ rfl;clear r;conv=>whnf
   apply bS<;>intro SB
   .have SB:q=0:=gL.1 (by simpa using SB);conv=>whnf
    refine cE G (fun _ J v F=>∃d,v= .bool d/\(d=true->iT Fn cs.length xs bs)/\(iT Fn cs.length xs bs->d=true)) (fun O J r=>mI (h:=h) (rlo r W) (dS.cV (dS.cX hm ((kS G r W))) fun _ V=>(.inl V:Cv S w.heap.size _ _)) (dC.cV (dC.cX E ((kS G r W))) fun _ V=>(.inl V:Cv S w.heap.size _ _)) (dC.cV (dC.cX hB ((kS G r W))) fun _ V=>(.inl V:Cv S w.heap.size _ _)) TS SQ TA Zb I Ss be be) ?_;rintro O _ _ _ iv2 r L G h_ ⟨d,rfl,QM,QJ⟩;clear r;conv=>whnf
    cases d with
    |false=>
     have Up:¬(iT Fn cs.length xs bs):=fun h=>absurd (QJ h) bv;clear QM QJ;conv=>whnf
     conv=>whnf
     exact rtn G fun GE we re=>⟨25,rfl,fun h=>absurd h (fun h=>Up (Ps.2 h).2.2.1),fun _=>rfl⟩
    |true=>
     have Up:iT Fn cs.length xs bs:=QM rfl;clear QM QJ;conv=>whnf
     refine cE G (pR cg (dg Fn.length)) (fun O J r=>tJ Fn.length J be) ?_;rintro O _ _ _ Pu r L G h_ U;have hz:=cg.cV U (nw r h_);clear r;obtain⟨ahz,chz,rfl,-,-⟩:=dN.shape hz;rw[aj]at hz ⊢;conv=>whnf
     refine cE G (fun _ J v F=>∃d,v= .bool d/\(d=true->iT Fn cs.length rs' (dg Fn.length))/\(iT Fn cs.length rs' (dg Fn.length)->d=true)) (fun O J r=>mI (h:=h) (rlo r W) (dS.cV (dS.cX hm ((kS G r W))) fun _ V=>(.inl V:Cv S w.heap.size _ _)) (dC.cV (dC.cX hr ((kS G r W))) fun _ V=>(.inl V:Cv S w.heap.size _ _)) (show dC _ _ (Value.slice ahz Fn.length chz) _ from(dC.cV (cg.l (cg.rel hz r oF) (fun q hq=>by rw[aY hq];decide)) fun _ V=>(qj V:Cv S w.heap.size _ _))) (gT _) SQ TA hqR I Ss be be) ?_;rintro O _ _ _ QD r L G h_ ⟨d,rfl,QM,QJ⟩;clear hz;clear r;conv=>whnf
     cases d with
     |false=>
      have Zc:¬(iT Fn cs.length rs' (dg Fn.length)):=fun h=>absurd (QJ h) bv;clear QM QJ;conv=>whnf
      conv=>whnf
      exact rtn G fun GE we re=>⟨25,rfl,fun h=>absurd h (fun h=>Zc (Ps.2 h).2.2.2.1),fun _=>rfl⟩
     |true=>
      have Zc:iT Fn cs.length rs' (dg Fn.length):=QM rfl;clear QM QJ;conv=>whnf
      refine cE G (pR dI (dY cs rs' cs.length)) (fun O J r=>tF (h:=h) (oS W r) (dC.cX hc ((kS G r W))) (dC.cX hr ((kS G r W))) Zc.1.symm XH hqR I Ss) ?_;rintro O _ _ _ QH r L G h_ U;have hd:=U.cV (nw r h_);clear r;obtain⟨F0,F1,F2,F3,F4,F5,F6,F7,rfl⟩:=hd.shape;conv=>whnf
      have S5:=fo XH hqR I cs.length;have Wb:=Ss;refine cE G (pE (iV (rs (dY cs rs' cs.length)))) (fun O J r=>tm (rlo r oF) (hd.rel r oF)) ?_;rintro O _ _ _ Qe r L G h_ rfl;clear hd;clear r;conv=>whnf
      apply bS<;>intro Rb
      .have Rb:¬0<dY cs rs' cs.length:=fun e=>absurd (gv.2 e) (by simpa using Rb);conv=>whnf
       exact rtn G fun GE we re=>⟨25,rfl,fun h=>absurd h (fun h=>Rb (Ps.2 h).2.2.2.2),fun _=>rfl⟩
      have Rb:0<dY cs rs' cs.length:=gv.1 (by simpa using Rb);conv=>whnf
      exact rtn G fun GE we re=>⟨0,rfl,fun _=>rfl,fun h=>absurd (Ps.1 ⟨Qz,SB,Up,Zc,Rb⟩) h⟩
   have SB:q≠0:=fun e=>by rw[gL.2 e]at SB;simp at SB
   conv=>whnf
   exact rtn G fun GE we re=>⟨25,rfl,fun h=>absurd h (fun h=>SB (Ps.2 h).2.1),fun _=>rfl⟩
  have Qz:ys≠[]:=fun e=>by rw[e]at Qz;simp at Qz
  conv=>whnf
  exact rtn G fun GE we re=>⟨25,rfl,fun h=>absurd h (fun h=>Qz (Ps.2 h).1),fun _=>rfl⟩
 have Ro:z≠2:=by simpa using Ro
 conv=>whnf
 exact rtn G fun GE we re=>⟨25,rfl,fun h=>absurd h (fun h=>h.elim (fun h=>hz h.1) fun h=>h.elim (fun h=>Uz h.1) fun h=>Ro h.1),fun _=>rfl⟩
theorem M7(W:Old S J)(R:∀g,S g->J.heap[g]? =w.heap[g]?)(h:dR w S v M):
  eL PG FS.sL #[v] J (eY J fun v' _=>∃d,v'= .bool d/\(d=true->nk w S v M)):=
 (NV W (dR.cX h R)).mono fun _ _ ⟨v2,e1,e2,d,e3,e4⟩=>⟨v2,e1,e2,d,e3,fun hd=>(e4 hd).cX fun g V=>(R g V).symm⟩
theorem B5(W:Old S J)(R:∀g,S g->J.heap[g]? =w.heap[g]?)(h:dK w S v b):
  eL PG FS.sJ #[v] J (eY J fun v' _=>∃d,v'= .bool d/\(d=true->qf w S v b)):=by
 obtain⟨ks,Za,XU⟩:=dK.HK h;exact(xJ W (Za.cX R)).mono fun _ _ ⟨v2,e1,e2,e3⟩=>⟨v2,e1,e2,_,e3,fun hd=>XU (aJ hd)⟩
section
variable{S:Nat->Prop}{w:World}{v u vx vk vp:Value}{z:Int}{M Fd:List (List (Int×Int))}{b X P:List (Int×Int)}
end
def Hy(w:World)(S:Nat->Prop)(vm vb vc:Value)(M:List (List (Int×Int)))(b c:List (Int×Int)):Prop:=
 nk w S vm M/\(gR M b c=0->M.length<=4/\c.length<=3/\qf w S vb b/\qf w S vc c)
theorem OI(W:Old S w)(hm:dR w S vm M)(hB:dK w S vb b)(hc:dK w S vc c):
  eL PG FS.sI #[.agg #[vm,vb,vc]] w (eY w fun v' _=>∃d,v'= .bool d/\(d=true->Hy w S vm vb vc M b c)):=by
 have G:=bR w;obtain⟨am,cm,rfl,SF,TG⟩:=dH.shape hm;obtain⟨ab,cb,rfl,RK,Te⟩:=dN.shape hB;obtain⟨ac,cc,rfl,Vd,SR⟩:=dN.shape hc;unfold maxLen at TG Te SR;refine BG ce ?_;conv=>whnf
 refine cW (cE G (fun _ J v F=>∃d,v= .bool d/\(d=true->nk w S (.slice am M.length cm) M)) (fun O J r=>M7 (oS W r) ((kS G r W)) hm) ?_);rintro O _ _ _ Pv r L G h_ ⟨d,rfl,hd⟩;clear r;conv=>whnf
 cases d with
 |false=>
  conv=>whnf
  exact rtn G fun GE we re=>⟨false,rfl,fun h=>(by cases h)⟩
 |true=>
  have hM:=hd rfl;clear hd;conv=>whnf
  apply bS<;>intro hb70
  .conv=>whnf
   exact rtn G fun GE we re=>⟨false,rfl,fun h=>(by cases h)⟩
  have hb70:=aL hb70;conv=>whnf
  apply bS<;>intro hc70
  .conv=>whnf
   exact rtn G fun GE we re=>⟨false,rfl,fun h=>(by cases h)⟩
  have hc70:=aL hc70;conv=>whnf
  apply bS<;>intro h5b
  .conv=>whnf
   refine cW (cE G (fun _ J v F=>∃d,v= .bool d/\(d=true->qf w S (.slice ab b.length cb) b)) (fun O J r=>B5 (oS W r) ((kS G r W)) hB) ?_);rintro O Qq v2 QT iv2 r L G h_ ⟨d,rfl,hd⟩;clear r;conv=>whnf
   cases d with
   |false=>
    conv=>whnf
    exact rtn G fun GE we re=>⟨false,rfl,fun h=>(by cases h)⟩
   |true=>
    have hBs:=hd rfl;clear hd;conv=>whnf
    apply bS<;>intro h5c
    .conv=>whnf
     refine cW (cE G (fun _ J v F=>∃d,v= .bool d/\(d=true->qf w S (.slice ac c.length cc) c)) (fun O J r=>B5 (oS W r) ((kS G r W)) hc) ?_);rintro O Qo v3 Qc Pu r L G h_ ⟨d,rfl,hd⟩;clear r;conv=>whnf
     cases d with
     |false=>
      conv=>whnf
      exact rtn G fun GE we re=>⟨false,rfl,fun h=>(by cases h)⟩
     |true=>
      have hC:=hd rfl;clear hd;conv=>whnf
      refine cW (cE G (pE (iV (gR M b c))) (fun O J r=>iG (oS W r) (dR.cX hm ((kS G r W))) (dK.cX hB ((kS G r W))) (dK.cX hc ((kS G r W)))) ?_);rintro O _ _ _ QD r L G h_ rfl;clear r;conv=>whnf
      apply bS<;>intro L
      .have L:gR M b c≠0:=fun e=>by rw[e]at L;simp at L
       conv=>whnf
       exact rtn G fun GE we re=>⟨true,rfl,fun _=>⟨hM,fun e=>absurd e L⟩⟩
      conv=>whnf
      apply bS<;>intro h4
      .have h4:M.length<=4:=by have:(M.length:Int)<=4:=(by simpa using h4);omega
       conv=>whnf
       conv=>whnf
       exact rtn G fun GE we re=>⟨_,rfl,fun h3=>⟨hM,fun e=>⟨h4,(by have:(c.length:Int)<=3:=aJ h3;omega),hBs,hC⟩⟩⟩
      conv=>whnf
      exact rtn G fun GE we re=>⟨false,rfl,fun h=>(by cases h)⟩
    have h5c:¬c.length<=5:=fun h=>aL h5c be;conv=>whnf
    refine cW (cE G (pE (iV (gR M b c))) (fun O J r=>iG (oS W r) (dR.cX hm ((kS G r W))) (dK.cX hB ((kS G r W))) (dK.cX hc ((kS G r W)))) ?_);rintro O Qo v3 Qc Pu r L G h_ rfl;clear r L;conv=>whnf
    apply bS<;>intro L
    .have L:gR M b c≠0:=fun e=>by rw[e]at L;simp at L
     conv=>whnf
     exact rtn G fun GE we re=>⟨true,rfl,fun _=>⟨hM,fun e=>absurd e L⟩⟩
    conv=>whnf
    apply bS<;>intro h4
    .have h4:M.length<=4:=by have:(M.length:Int)<=4:=(by simpa using h4);omega
     conv=>whnf
     conv=>whnf
     exact rtn G fun GE we re=>⟨_,rfl,fun h3=>⟨hM,fun e=>⟨h4,(by have:(c.length:Int)<=3:=aJ h3;omega),hBs,absurd (show c.length<=5 by have:(c.length:Int)<=3:=aJ h3;omega) h5c⟩⟩⟩
    conv=>whnf
    exact rtn G fun GE we re=>⟨false,rfl,fun h=>(by cases h)⟩
  have h5b:¬b.length<=5:=fun h=>aL h5b be;conv=>whnf
  apply bS<;>intro h5c
  .conv=>whnf
   refine cW (cE G (fun _ J v F=>∃d,v= .bool d/\(d=true->qf w S (.slice ac c.length cc) c)) (fun O J r=>B5 (oS W r) ((kS G r W)) hc) ?_);rintro O Qq v2 QT iv2 r L G h_ ⟨d,rfl,hd⟩;clear r L;conv=>whnf
   cases d with
   |false=>
    conv=>whnf
    exact rtn G fun GE we re=>⟨false,rfl,fun h=>(by cases h)⟩
   |true=>
    have hC:=hd rfl;clear hd;conv=>whnf
    refine cW (cE G (pE (iV (gR M b c))) (fun O J r=>iG (oS W r) (dR.cX hm ((kS G r W))) (dK.cX hB ((kS G r W))) (dK.cX hc ((kS G r W)))) ?_);rintro O _ _ _ Pu r L G h_ rfl;clear r L;conv=>whnf
    apply bS<;>intro L
    .have L:gR M b c≠0:=fun e=>by rw[e]at L;simp at L
     conv=>whnf
     exact rtn G fun GE we re=>⟨true,rfl,fun _=>⟨hM,fun e=>absurd e L⟩⟩
    conv=>whnf
    apply bS<;>intro h4
    .have h4:M.length<=4:=by have:(M.length:Int)<=4:=(by simpa using h4);omega
     conv=>whnf
     conv=>whnf
     exact rtn G fun GE we re=>⟨_,rfl,fun h3=>⟨hM,fun e=>⟨h4,(by have:(c.length:Int)<=3:=aJ h3;omega),absurd (show b.length<=5 by have:=(nK e).2.1;omega) h5b,hC⟩⟩⟩
    conv=>whnf
    exact rtn G fun GE we re=>⟨false,rfl,fun h=>(by cases h)⟩
  have h5c:¬c.length<=5:=fun h=>aL h5c be;conv=>whnf
  refine cW (cE G (pE (iV (gR M b c))) (fun O J r=>iG (oS W r) (dR.cX hm ((kS G r W))) (dK.cX hB ((kS G r W))) (dK.cX hc ((kS G r W)))) ?_);rintro O _ _ _ iv2 r L G h_ rfl;clear r L;conv=>whnf
  apply bS<;>intro L
  .have L:gR M b c≠0:=fun e=>by rw[e]at L;simp at L
   conv=>whnf
   exact rtn G fun GE we re=>⟨true,rfl,fun _=>⟨hM,fun e=>absurd e L⟩⟩
  conv=>whnf
  apply bS<;>intro h4
  .have h4:M.length<=4:=by have:(M.length:Int)<=4:=(by simpa using h4);omega
   conv=>whnf
   conv=>whnf
   exact rtn G fun GE we re=>⟨_,rfl,fun h3=>⟨hM,fun e=>⟨h4,(by have:(c.length:Int)<=3:=aJ h3;omega),absurd (show b.length<=5 by have:=(nK e).2.1;omega) h5b,absurd (show c.length<=5 by have:(c.length:Int)<=3:=aJ h3;omega) h5c⟩⟩⟩
  conv=>whnf
  exact rtn G fun GE we re=>⟨false,rfl,fun h=>(by cases h)⟩
theorem M8(W:Old S J)(R:∀g,S g->J.heap[g]? =w.heap[g]?)(hm:dR w S vm M)(hB:dK w S vb b)(hc:dK w S vc c):
  eL PG FS.sI #[.agg #[vm,vb,vc]] J (eY J fun v' _=>∃d,v'= .bool d/\(d=true->Hy w S vm vb vc M b c)):=
 (OI W (dR.cX hm R) (dK.cX hB R) (dK.cX hc R)).mono fun _ _ ⟨v2,e1,e2,d,e3,e4⟩=>⟨v2,e1,e2,d,e3,fun hd=>⟨(e4 hd).1.cX fun g V=>(R g V).symm,fun e=>
  have h:=(e4 hd).2 e
  ⟨h.1,h.2.1,h.2.2.1.cX fun g V=>(R g V).symm,h.2.2.2.cX fun g V=>(R g V).symm⟩⟩⟩
end Go.Ex
namespace Go.Ex
variable{l:List Rat}
section
variable{Fn:List (List Rat)}{b c:List Rat}{n:Nat}
theorem MT{k:Nat}(h:∀q∈l,rl q<=k)(R:1<=k)(t:Nat):rl (l.getD t 0)<=k:=by
 rw[List.getD]
 cases e:l[t]? with
 |none=>exact aR (by decide:rl 0<=1) R
 |some q=>exact h q (aG e)
theorem KY(hA:iq n Fn)(U:n<=4)(hc:c.length<=5)(rA:∀r∈Fn,∀q∈r,rl q<=3)(rb:∀q∈b,rl q<=3)(rc:∀q∈c,rl q<=3):
  ∃d,LS Fn.length n (wt 15) (dU Fn) (fun i=>b.getD i 0) (fun j=>c.getD j 0) d:=by
 have WU:=MT rb bv;have Pm:∀i,i<Fn.length->Den (wt 15) (uF (Fn.getD i []++[b.getD i 0]) 5) (Fn.getD i []++[b.getD i 0]):=fun i N=>by
  refine GB (n:=5) (by rw[aV,hA.getD N];show n+1<=5;omega) fun q hq=>?_;rcases bB.1 hq with hq|hq
  .refine rA _ ?_ q hq;rw[List.getD,aE N];exact bp _
  .rw[aX.1 hq];exact WU i
 have UA:Den (wt 15) (uF c 5) c:=GB (n:=5) hc rc;refine⟨fun i=>if i<Fn.length then uF (Fn.getD i []++[b.getD i 0]) 5 else uF c 5,fun i _=>?_,fun i _=>?_,fun i j N hj=>?_,fun i N=>?_,fun j _=>?_,Lz⟩
 .split
  .rename_i g;exact(Pm i g).1
  .exact UA.1
 .split
  .rename_i g;exact(Pm i g).2.1
  .exact UA.2.1
 .rw[aM N];have Y:=(Pm i N).2.2 j
  rwa [pK (by rw[hA.getD N];omega),aM (by rw[hA.getD N];exact hj)]at Y
 .rw[aM N];have Y:=(Pm i N).2.2 n
  rwa [pK (by rw[hA.getD N];exact aq _),aI (by rw[hA.getD N];omega)]at Y
 .rw[aI (Nat.lt_irrefl _)];exact UA.2.2 j
theorem Hq{m:Nat}(hm:m<=5):ln (fB (wt 15) (m+1))<=97:=(aAg (l:=16) (F9:=6) be bv bv bv).1
end
end Go.Ex
namespace Go.Ex
open Go Go.Sx Go.Proofs
variable{b c:List (Int×Int)}{M:List (List (Int×Int))}{Fn:List (List Rat)}{S:Nat->Prop}{w:World}
theorem De.cV{b c:List Rat}{Fd:Nat}{F:World}{Do L':Nat->Prop}{s:Value}(h:De Fn b c Fd F Do s)(R:∀g,Do g->L' g):De Fn b c Fd F L' s:=by
 obtain⟨z,vx,vy,vr,g0,g1,g2,g3,g4,g5,g6,g7,X,C9,F9,q,e,Y,I,h3,h4,h5⟩:=h;exact⟨z,vx,vy,vr,g0,g1,g2,g3,g4,g5,g6,g7,X,C9,F9,q,e,cg.cV Y R,cg.cV I R,cg.cV h3 R,dI.cV h4 R,h5⟩
theorem Gu{vm vb vc:Value}(W:Old S w)(hm:dR w S vm M)(A:dK w S vb b)(hc:dK w S vc c)(L:gR M b c=0)(hM:∀r∈M,vN r)(WZ:vN b)(hfc:vN c)
  (ZM:M.length<=4) (Vt:c.length<=4) (r1:∀r∈dT M,∀q∈r,rl q<=3) (r2:∀q∈b.map dD,rl q<=3) (r3:∀q∈c.map dD,rl q<=3):
  eL PG FS.nX #[.agg #[vm,vb,vc]] w (eY w fun v F=>∃s,v= .tuple #[s,iV 0]/\De (dT M) (b.map dD) (c.map dD) 97 F (Nf w F) s):=by
 obtain⟨-,-,-,-,Pm⟩:=nK L;have hA:iq c.length (dT M):=fun r hr=>by
  obtain⟨x,E,rfl⟩:=bE.1 hr;rw[aO];exact Pm x E
 obtain⟨d,hd⟩:=KY (c:=c.map dD) hA Vt (by rw[aO];omega) r1 r2 r3;rw[nM]at hd;exact(Bl (Fd:=97) (Bz:=wt 15) (d:=d) W hm A hc fun _=>⟨hM,WZ,hfc,hd,Hq be,bv,bv⟩).mono fun _ F ⟨v2,e1,e2,h⟩=>⟨v2,e1,e2,h.elim (fun h=>absurd L h.1) fun h=>h.2⟩
theorem IQ(w:World):eL PG FS.uz #[.agg #[.bool false,nls,.bool false,nls],.agg #[.bool false,nls,.bool false,nls]] w (eY w fun v' _=>v'= .bool true):=by
 have G:=bR w;refine uQ ce ?_;conv=>whnf
 refine cW (cE G (pE (.bool true)) (fun O J r=>nN (Mf J) (dX.nil J _) (dX.nil J _)) ?_);rintro O _ _ _ Pv r L G h_ rfl;clear r;conv=>whnf
 refine cW (cE G (pE (.bool true)) (fun O J r=>nN (Mf J) (dX.nil J _) (dX.nil J _)) ?_);rintro O _ _ _ iv2 r L G h_ rfl;clear r;conv=>whnf
 exact rtn G fun GE we re=>rfl
theorem aAQ(w:World):eL PG FS.Av #[.agg #[iV 0,nls,nls,nls,.bool false,nls,.bool false,nls]] w (eY w fun v' _=>v'= .bool true):=by
 have G:=bR w;refine CV ce ?_;refine⟨((0:Nat):Int),bv,((0:Nat):Int),bv,?_⟩;refine cW (cU (GT:=fun _ J v F=>v= .bool true) (fun O J r=>IQ J) ?_);rintro O QP v1 QL r L A rfl;replace G:=G.tr A;exact rtn G fun GE we re=>rfl
theorem xu{vm vb vc:Value}(W:Old S w)(hm:dR w S vm M)(hB:dK w S vb b)(hc:dK w S vc c):
  eL PG FS.mA #[.agg #[vm,vb,vc]] w (eY w fun v' _=>v'= .bool true):=by
 have G:=bR w;have hF:=iw w.heap.size;obtain⟨am,cm,rfl,SF,TG⟩:=dH.shape hm;obtain⟨ab,cb,rfl,RK,Te⟩:=dN.shape hB;obtain⟨ac,cc,rfl,Vd,SR⟩:=dN.shape hc;unfold maxLen at TG Te SR;refine pU ce ?_;conv=>whnf
 refine cW (cE G (fun _ J v F=>∃d,v= .bool d/\(d=true->Hy w S (.slice am M.length cm) (.slice ab b.length cb) (.slice ac c.length cc) M b c)) (fun O J r=>M8 (oS W r) ((kS G r W)) hm hB hc) ?_);rintro O _ _ _ Pv r L G h_ ⟨d,rfl,hd⟩;clear r;conv=>whnf
 cases d with
 |false=>
  conv=>whnf
  refine cW (cE G (pE (.bool true)) (fun O J r=>Ev J) ?_);rintro O Qq v2 QT iv2 r L G h_ rfl;clear r;conv=>whnf
  exact rtn G fun GE we re=>rfl
 |true=>
  have hL:=hd rfl;clear hd;conv=>whnf
  obtain⟨hM,hL⟩:=hL;rcases bH (gR M b c)with L|L
  .obtain⟨ZM,Yk,hbs,Q4⟩:=hL L;obtain⟨e1,e2,e3,e4,e5⟩:=nK L;have hrA:iq c.length (dT M):=fun r hr=>by
    obtain⟨x,E,rfl⟩:=bE.1 hr;rw[aO];exact e5 x E
   have Zy:(b.map dD).length=(dT M).length:=by rw[aO,nM];exact e2
   have Qg:(c.map dD).length=c.length:=aO ..;have Ul:(dT M).length=M.length:=nM M;obtain⟨m1,m2,m3,m4,-⟩:=hM.aBK e1;refine cW (cU (GT:=fun _ J v F=>∃s,v= .tuple #[s,iV 0]/\De (dT M) (b.map dD) (c.map dD) 97 F (Nf J F) s) (fun O J r=>Gu (oS W r) (dR.cX hm ((kS G r W))) (dK.cX hB ((kS G r W))) (dK.cX hc ((kS G r W))) L hM.2.2.2.2 hbs.2.2 Q4.2.2 ZM be hM.2.2.2.1 hbs.2.1 Q4.2.1) ?_);rintro O Qq v2 QT r L A ⟨s,rfl,hO⟩;replace G:=G.tr A;have Sy:=hO.cV (L':=Cv S w.heap.size ((Qq.heap.size,QT.heap.size)::Pv)) fun g V=>V.ep r.cZ aF;clear r L A;generalize (Qq.heap.size,QT.heap.size)::Pv=iv2 at*
   obtain⟨z,vx,vy,vr,k0,k1,k2,k3,k4,k5,k6,k7,X,C9,F9,p,rfl,E,hy,hr,hV,hR,hXh,hYh,hRh,hph,hXl,hYl,hRl⟩:=Sy;obtain⟨_,_,rfl,-,-⟩:=dN.shape E;obtain⟨_,_,rfl,-,-⟩:=dN.shape hy;obtain⟨_,_,rfl,-,-⟩:=dN.shape hr;conv=>whnf
   refine cW (cE G (pE (iV ((0:Nat):Int))) (fun O J r=>(show gR M b c=0 from L)▸iG (oS W r) (dR.cX hm ((kS G r W))) (dK.cX hB ((kS G r W))) (dK.cX hc ((kS G r W)))) ?_);rintro O Qo v3 Qc Pu r L G h_ rfl;replace E:=cg.cS E r W L (mC h_);replace hy:=cg.cS hy r W L (mC h_);replace hr:=cg.cS hr r W L (mC h_);replace hV:=dI.cS hV r W L (mC h_);clear r L;conv=>whnf
   refine cW (cE G (fun _ J v F=>∃(kk:Nat) (q:Rat) (q0:Bool) (q1:Option Addr) (q2 q3:Nat) (q4:Bool) (q5:Option Addr) (q6 q7:Nat),v= .tuple #[iV kk,.agg #[.bool q0,.slice q1 q2 q3,.bool q4,.slice q5 q6 q7]]/\dI F (Nf J F) (.agg #[.bool q0,.slice q1 q2 q3,.bool q4,.slice q5 q6 q7]) q/\rl q<=2000/\Pj (dT M) (b.map dD) (c.map dD) kk q) (fun O J r=>(by
     have h:=Kt (w:=J) (b:=b.map dD) (c:=c.map dD) (oS W r) (dS.cX hM.2.2.1 ((kS G r W))) (dC.cX hbs.1 ((kS G r W))) (dC.cX Q4.1 ((kS G r W))) (by rw[Qg];exact hrA) Zy be be hM.2.2.2.1 hbs.2.1 Q4.2.1
     exact h)) ?_)
   rintro O Rl v4 R4 QD r L G h_ ⟨kk,q,q0,q1,q2,q3,q4,q5,q6,q7,rfl,hq,VC,hAns⟩;replace E:=cg.cS E r W L (mC h_);replace hy:=cg.cS hy r W L (mC h_);replace hr:=cg.cS hr r W L (mC h_);replace hV:=dI.cS hV r W L (mC h_);have hQ:=dI.ep (S:=S) hq r.cZ (mN h_);clear r L;obtain⟨k9,hz,Ro,hCert⟩:=hR.cert (by rw[Qg];exact hrA) Zy;obtain rfl:z=k9:=by omega
   obtain⟨rfl,rfl⟩:=M0 (by rw[Qg];exact hrA) Zy hCert hAns;conv=>whnf
   refine zk.mk (fun _=>?_) (fun Po=>by simp at Po);conv=>whnf
   refine cW (cE G (pE (iV 0)) (fun O J r=>(show rs (p-p)=0 from sw.2 rfl)▸Bs (rlo r W) (dI.l (dI.rel hV r W) be) (dI.l (dI.rel hQ r W) be)) ?_);rintro O Vs v5 VP QH r L G h_ rfl;replace E:=cg.cS E r W L (mC h_);replace hy:=cg.cS hy r W L (mC h_);replace hr:=cg.cS hr r W L (mC h_);replace hV:=dI.cS hV r W L (mC h_);clear hQ;clear r L;conv=>whnf
   refine cW (cE G (pE (iV 0)) (fun O J r=>(zP (z:=(z:Int)) (h:=98) (rlo r W) (dS.cV (dS.cX hM.2.2.1 ((kS G r W))) fun g V=>(.inl V:Cv S w.heap.size _ g)) (dC.cV (dC.cX hbs.1 ((kS G r W))) fun g V=>(.inl V:Cv S w.heap.size _ g)) (dC.cV (dC.cX Q4.1 ((kS G r W))) fun g V=>(.inl V:Cv S w.heap.size _ g)) (cg.l (cg.rel E r W) fun q hq=>by have:=hXh q hq;omega) (cg.l (cg.rel hy r W) fun q hq=>by have:=hYh q hq;omega) (cg.l (cg.rel hr r W) fun q hq=>by have:=hRh q hq;omega) (dI.l (dI.rel hV r W) be) Zy (by rw[Qg];exact hrA) bv (m4.mono bv) (fun q hq=>by have:=hbs.2.1 q hq;omega) (fun q hq=>by have:=Q4.2.1 q hq;omega) hXh hYh hRh be be be be be be).mono fun _ F ⟨v2,e1,e2,e,e3,e4,_⟩=>⟨v2,e1,e2,by rw[e3,e4 hR];rfl⟩) ?_);rintro O _ _ _ Qe r L G h_ rfl;replace E:=cg.cS E r W L (mC h_);replace hy:=cg.cS hy r W L (mC h_);replace hr:=cg.cS hr r W L (mC h_);replace hV:=dI.cS hV r W L (mC h_);clear r L;conv=>whnf
   refine cW (cE G (pE (iV 0)) (fun O J r=>(Bt (z:=(z:Int)) (h:=98) (X:=nu X) (C9:=nu C9) (F9:=nu F9) (p1:=p.num) (p2:=(p.den:Int)) (rlo r W) (dR.cV (dR.cX hm ((kS G r W))) fun g V=>(.inl V:Cv S w.heap.size _ g)) (dK.cV (dK.cX hB ((kS G r W))) fun g V=>(.inl V:Cv S w.heap.size _ g)) (dK.cV (dK.cX hc ((kS G r W))) fun g V=>(.inl V:Cv S w.heap.size _ g)) (cg.rel E r W).nu (cg.rel hy r W).nu (cg.rel hr r W).nu (dI.rel hV r W).r bv bv fun _=>by
     rw[ka,ka,ka,oA,xw,xw,xw]
     exact⟨⟨hM.2.2.2.2,hbs.2.2,Q4.2.2,xx fun q hq=>by have:=hXh q hq;omega,xx fun q hq=>by have:=hYh q hq;omega,xx fun q hq=>by have:=hRh q hq;omega,by have:=fv p;omega,by have:=fI p;omega⟩,m4.mono bv,(fun q hq=>by have:=hbs.2.1 q hq;omega),(fun q hq=>by have:=Q4.2.1 q hq;omega),hXh,hYh,hRh,be,be,be,be⟩).mono fun _ F ⟨v2,e1,e2,e,e3,e4,_⟩=>⟨v2,e1,e2,by rw[e3,(e4 L).1 (by rw[ka,ka,ka,oA];exact hR)];rfl⟩) ?_)
   rintro O _ _ _ RS r L G h_ rfl;replace E:=cg.cS E r W L (mC h_);replace hy:=cg.cS hy r W L (mC h_);replace hr:=cg.cS hr r W L (mC h_);replace hV:=dI.cS hV r W L (mC h_);clear r L;conv=>whnf
   refine cW (cE G (pE (.bool true)) (fun O J r=>Ev J) ?_);rintro O _ _ _ Sw r L G h_ rfl;replace E:=cg.cS E r W L (mC h_);replace hy:=cg.cS hy r W L (mC h_);replace hr:=cg.cS hr r W L (mC h_);replace hV:=dI.cS hV r W L (mC h_);clear r L;conv=>whnf
   exact rtn G fun GE we re=>rfl
  refine cW (cE G (pE (.tuple #[.agg #[iV 0,nls,nls,nls,.bool false,nls,.bool false,nls],iV (gR M b c)])) (fun O J r=>(Bl (Fd:=97) (Bz:=wt 15) (d:=fun _=>0) (oS W r) (dR.cX hm ((kS G r W))) (dK.cX hB ((kS G r W))) (dK.cX hc ((kS G r W))) fun e=>absurd e be).mono fun _ F ⟨v2,e1,e2,e3⟩=>⟨v2,e1,e2,e3.elim (fun h=>h.2) fun h=>absurd h.1 be⟩) ?_);rintro O _ _ _ iv2 r L G h_ rfl;clear r L;conv=>whnf
  refine cW (cE G (pE (iV ((gR M b c:Nat):Int))) (fun O J r=>iG (oS W r) (dR.cX hm ((kS G r W))) (dK.cX hB ((kS G r W))) (dK.cX hc ((kS G r W)))) ?_);rintro O _ _ _ Pu r L G h_ rfl;clear r L;conv=>whnf
  refine zk.mk (fun _=>?_) (fun h=>absurd (show gR M b c=0 by simpa using h) be);conv=>whnf
  refine zk.mk (fun _=>?_) (fun Po=>by simp at Po);conv=>whnf
  refine cW (cE G (pE (.bool true)) (fun O J r=>aAQ J) ?_);rintro O _ _ _ QD r L G h_ rfl;clear r L;conv=>whnf
  refine cW (cE G (pE (.bool true)) (fun O J r=>Ev J) ?_);rintro O _ _ _ QH r L G h_ rfl;clear r L;conv=>whnf
  exact rtn G fun GE we re=>rfl
end Go.Ex
