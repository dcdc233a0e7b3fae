/- Texts X229 to X229: lemmas, each with its conditions. -/
import Derived.Test.YtgkpbdkechfgmaaGreatP16
namespace Go.Ex
open Go Go.Sx Go.Proofs
variable{u:List Rat}{S:Nat->Prop}{vb:Value}{w:World}{f:fC}
theorem wy(h:FrS f):Ht (da (cT f) f.cols) 2831:=fun r hr q hq=>by have:=M5 h r hr q hq;omega
theorem KO{vn vs:Value}(X:Old S w)(hf:eG w S vn vb vs f)(PJ:e8 f=0)(QC:FrS f){vu:Value}(hu:eD w S vu u)(huq:∀q∈u,rl q<=2830)(hu80:u.length<=80)(hul:u.length=3*f.nodes.length):
  eI PG F'.xW #[.agg #[vn,vb,vs],vu] w (eO w fun v' V=>cS V (Nf w V) v' (jh (da (cT f) f.cols) u)):=by
 have I:=bR w;obtain⟨an,cn,ab,cb,aq,cq,rfl,rfl,rfl,RR,Rk,SM⟩:=hf.shape;obtain⟨au,cu,rfl,hcu,hmu⟩:=dV.shape hu;unfold maxLen at hmu;have Uo:=QC.Kf;have Vj:=QC.Lj;have St:=iX f;have hlen:=fQ f;have hn4:=QC.n4;have Of:=mZ PJ;have hc0:f.cols=f.bars.length+f.cZ.length:=rfl;refine Ae (by simp) ?_;refine cJ (cE I (fun _ J v V=>cV V (Nf J V) v (da (cT f) f.cols)) (fun O J r=>KG (oS X r) (hf.cK (kS I r X)) PJ) ?_);rintro O _ _ _ Oo r U I h_ R;have hM:=cV.dK (S:=FF) R r.cI (mN h_);clear r;clear R;obtain⟨am,cm,rfl,-,-⟩:=dC.shape hM;refine cJ (cE I (fun _ J v V=>cS V (Nf J V) v (jh (da (cT f) f.cols) u)) (fun O J r=>Mj (S:=fun g=>S g\/Cf w Oo g) (h:=2831) (fun g Y=>Y.elim (oS X r g) (Rel.old r (cH w) g)) (DJ.cN (cV.l (cV.rel hM r (cH w)) fun y hy q hq=>by have:=(wy QC) y hy q hq;omega) fun g Y=>.inr Y) (eD.cN (eD.cK hu (kS I r X)) fun g Y=>.inl Y) (fun y hy=>by rw[fa _ _ y hy,hul,St]) (wy QC) (fun q hq=>by have:=huq q hq;omega) (by decide) (by omega) (by rw[eJ];omega)) ?_);rintro O _ _ _ Od r U I h_ R;clear hM;have hT:=cS.dK (S:=FF) R r.cI (mN h_);clear r;clear R;obtain⟨at_,ct,rfl,-,-⟩:=dV.shape hT;exact rtn I fun IR we re=>cS.out hT re (cH w)
theorem Mk{vm:Value}{fv:fC}{b x:List Rat}(X:Old S w)(QB:nd fv)(hM:cV w S vm (iD (cT fv) fv.cols fun t=>(cY fv).getD t 0))(hB:cS w S vb (b++fL (cW (cT fv) fv.cols).length))(hb:Bl b)(PD:b.length=(cT fv).length)(Vk:∀q∈b,rl q<=5)(F:jB (cT fv) fv.cols (Gc fv) b x):
  eI PG F'.qL #[vm,vb] w (eO w fun v' V=>∃vx ak ck,v'= .tuple #[.agg #[.int .i64 0,vx,.slice ak 0 ck,.slice none 0 0],.int .i64 0]/\cS V (Nf w V) vx x):=by
 have QC:=QB.toFrS;have hlen:=fQ fv;have St:=iX fv;have Vj:=QC.Lj;have hk18:=QB.Fv;have Uo:=QC.Kf;have hFl:=rP (I':=fun t=>(cY fv).getD t 0) hlen;have hfl3:(iD (cT fv) fv.cols fun t=>(cY fv).getD t 0).length=(cT fv).length+(cW (cT fv) fv.cols).length:=iW;have hinj:Inj (iD (cT fv) fv.cols fun t=>(cY fv).getD t 0) fv.cols:=QB.B8.inj;have Sk:=QB.B8.base PD F;have Sv:(b++fL (cW (cT fv) fv.cols).length).length=(iD (cT fv) fv.cols fun t=>(cY fv).getD t 0).length:=by rw[hfl3,List.length_append,fL,bH,PD]
 have UA:db ((iD (cT fv) fv.cols fun t=>(cY fv).getD t 0).map jN)=fv.cols:=MA hFl fun h0=>by
  have L:=Me QC.toFrV;rw[(List.append_eq_nil_iff.1 h0).1]at L;exact L.symm
 have PJ:BO ((iD (cT fv) fv.cols fun t=>(cY fv).getD t 0).map jN) (jN (b++fL (cW (cT fv) fv.cols).length))=0:=by
  have hE:sB ((iD (cT fv) fv.cols fun t=>(cY fv).getD t 0).map jN)=0:=by
   unfold sB;rw[if_pos fun r hr=>by rw[UA];obtain⟨y,hy,rfl⟩:=aU.1 hr;rw[rS];exact hFl y hy,aH (by rw[UA,aJ];omega)]
  unfold BO;rw[hE,aH (by simp),rS,aJ,aH (by simp[Sv])]
 have Pc:=fun c (hc:c<=fv.cols)=>MC QB hb PD hc;have Wc:=MB (b:=b++fL (cW (cT fv) fv.cols).length) hFl hinj;have hht:=QB.aAj
 refine(Ge (h0:=2080) X (cV.jN hM) (cS.jN hB) fun _=>⟨fun y hy=>by obtain⟨y0,QQ,rfl⟩:=aU.1 hy;exact DK fun q hq=>by have:=hht y0 QQ q hq;omega,DK fun q hq=>by
  rcases bB.1 hq with h|h
  ·have:=Vk q h;omega
  ·rw[bI h];decide,by rw[Ml,rB,UA];exact Pc,by decide,by decide⟩).mono fun _ V ⟨v2,e1,e2,e3⟩=>⟨v2,e1,e2,?_⟩
 rcases e3 with⟨h,_⟩|⟨_,s,rfl,F9,pv,hA,hs⟩
 ·exact absurd PJ h
 rw[Ml,rB,UA]at hA;rw[UA]at hs;simp only[aJ]at hs;have e1:F9=(cQ (gO (iD (cT fv) fv.cols fun t=>(cY fv).getD t 0) (b++fL (cW (cT fv) fv.cols).length)) fv.cols).1:=congrArg Prod.fst hA;have e2:pv=(cQ (gO (iD (cT fv) fv.cols fun t=>(cY fv).getD t 0) (b++fL (cW (cT fv) fv.cols).length)) fv.cols).2:=congrArg Prod.snd hA;subst e1 e2;rcases hs with⟨j,vp,L,G,N,-⟩|⟨vx,vk,L,rfl,G,N⟩
 ·have h4:=Ly hFl L G N;rw[h4]at Sk
  cases Sk
 ·have h4:=Lx hFl L;rw[h4]at Sk;injection Sk with Sk;rw[Sk]at G;obtain⟨ak,ck,rfl,-,-⟩:=dC.shape N;exact⟨vx,ak,ck,by rw[Wc],G⟩
theorem KP(h:e8 f=0):iu f []=0:=by
 unfold iu;rw[aH (by simp[h])];unfold tL;rw[aH (by simp)];rfl
set_option maxHeartbeats 4000000 in
set_option maxRecDepth 8000 in
theorem topTwo_c{vn vs vl:Value}{f:Hg}{l:List Ld}(X:Old S w)(hF:qu w S vn vb vs f)(hl:jA w S vl l):
  eI PG F'.top_TopTwoMethods #[.agg #[vn,vb,vs],vl] w (eO w fun v' _=>v'= .bool true):=by
 have I:=bR w;obtain⟨an,cn,rfl,-,-⟩:=hF.nodes.shape;obtain⟨ab,cb,rfl,-,-⟩:=hF.bars.shape;obtain⟨aq,cq,rfl,-,-⟩:=hF.cZ.shape;obtain⟨al,cl,rfl,-,-⟩:=hl.shape;refine qX (by simp) ?_;conv=>whnf
 refine cJ (cE I (fun _ J v V=>∃d,v= .bool d/\(d=true->eG w S (.slice an f.nodes.length cn) (.slice ab f.bars.length cb) (.slice aq f.cZ.length cq) f.val/\(∀b∈f.val.bars,rl b.2.2<=3)/\(∀b∈f.val.cZ,rl b.2.2<=3)/\f.nodes.length<=4/\f.val.bars.length<=6/\iu f.val l=0)) (fun O J r=>(KK (most:=4) X I r hF hl).mono fun _ _ ⟨v2,e1,e2,d,e3,e4⟩=>⟨v2,e1,e2,d,e3,fun h=>let k:=e4 h;⟨k.1,k.2.1,k.2.2.1,k.2.2.2.1,k.2.2.2.2.1,k.2.2.2.2.2.2.2⟩⟩) ?_);rintro O _ _ _ Oo r U I h_ ⟨d1,rfl,PF⟩;clear r
 cases d1
 ·conv=>whnf
  refine cJ (cE I (fun _ J v V=>v= .bool true) (fun O J r=>yq J) ?_);rintro O Q7 v2 Pt Od r U I h_ rfl;clear r;conv=>whnf
  exact rtn I fun IR we re=>rfl
 obtain⟨hR,hrb,Wb,hn4,XV,Sg⟩:=PF rfl;clear PF;obtain⟨fv,hfv⟩:∃fv,f.val=fv:=⟨_,rfl⟩
 rw[hfv]at hR hrb Wb XV Sg;obtain⟨en,eb,es⟩:f.nodes.length=fv.nodes.length/\f.bars.length=fv.bars.length/\f.cZ.length=fv.cZ.length:=by rw[<-hfv];exact⟨rfl,(aJ ..).symm,(aJ ..).symm⟩
 rw[en]at hn4;rw[en,eb,es]at hR ⊢;clear hF hfv en eb es;obtain⟨PJ,RW⟩:=pC Sg;have hel0:=KP PJ;have RW:=EU RW;have QB:nd fv:=M8 (.inr ⟨hn4,XV⟩) hrb Wb PJ;have QC:=QB.toFrS;have hv:=QC.toFrV;have SH:=QC.n;have Uo:=QC.Kf;have Pp:fv.cols=fv.bars.length+fv.cZ.length:=rfl;have PD:=Ec RW;have St:=iX fv;have Vn:(fV fv l).length=3*fv.nodes.length:=qt fv l;have VF:∀q∈fV fv l,rl q<=1:=Ix SH RW;have Vk:=M7 SH RW;have TT:(dE (fV fv l) (-1)).length=(cT fv).length:=by rw[dE,aJ,Vn,St]
 have hlen:=fQ fv;have hK18:=QB.Fv;have hKl:=jk (cT fv) fv.cols;conv=>whnf
 obtain⟨o,ho⟩:∃o,fM (cT fv) (dE (fV fv l) (-1)) fv.cols=o:=⟨_,rfl⟩
 cases o with
 |none=>
  conv=>whnf
  refine cJ (cE I (fun _ J v V=>v= .tuple #[.slice none 0 0,.int .i64 17]) (fun O J r=>(pH (oS X r) (hR.cK (kS I r X)) (hl.cK (kS I r X)) (fun _=>QB)).mono fun _ _ ⟨v2,e1,e2,e3⟩=>⟨v2,e1,e2,e3.elim (fun h=>absurd Sg h.1) fun h=>h.2.elim (fun g=>g.2) fun⟨x,_,g,_⟩=>by obtain⟨z,hz⟩:=nY hlen (x:=fun t=>x.getD t 0) g.eq;rw[hz]at ho;cases ho⟩) ?_);rintro O Q7 v2 Pt Od r U I h_ rfl;clear r;conv=>whnf
  refine cJ (cE I (fun _ J v V=>v= .bool true) (fun O J r=>yq J) ?_);rintro O QF v3 Pw Oq r U I h_ rfl;clear r;conv=>whnf
  exact rtn I fun IR we re=>rfl
 |some x0=>
  conv=>whnf
  refine cJ (cE I (fun _ J v V=>∃x vx,jB (cT fv) fv.cols (Gc fv) (dE (fV fv l) (-1)) x/\v= .tuple #[vx,.int .i64 0]/\cS V (Nf J V) vx x) (fun O J r=>(pH (oS X r) (hR.cK (kS I r X)) (hl.cK (kS I r X)) (fun _=>QB)).mono fun _ _ ⟨v2,e1,e2,e3⟩=>⟨v2,e1,e2,e3.elim (fun h=>absurd Sg h.1) fun h=>h.2.elim (fun g=>by rw[ho]at g;cases g.1) id⟩) ?_);rintro O _ v2 Pt Od r U I h_ ⟨x,vx,F,rfl,R⟩;have hX:=cS.dK (S:=FF) R r.cI (mN h_);clear r;clear R ho;have Se:=QB.OV PD TT F;have QJ:=F.len;obtain⟨ax,cx,rfl,-,-⟩:=dV.shape hX;conv=>whnf
  refine cJ (cO (If:=fun _ J v V=>∃vm,v= .tuple #[vm,.bool true]/\GU V J.heap.size [(J.heap.size,V.heap.size)] vm (cT fv)) (fun O J r=>Md (oS X r) (hR.cK (kS I r X)) PJ QC) ?_);rintro O QF v3 Pw r U hb ⟨vm,rfl,R⟩;replace I:=I.tr hb;have Ol:∀p,p∈Od->p∈(QF.heap.size,Pw.heap.size)::Od:=fun p hp=>aB _ hp;have Oi:∀g,Cf w Od g->Pw.heap[g]? =Pt.heap[g]? :=fun g Y=>(U.block g (Rel.old r (cH w) g Y)).trans (Rel.same r (cH w) Y);have Ow:∀g,Cf w Od g->g<QF.heap.size:=fun g Y=>Rel.old r (cH w) g Y;have hMy:=GU.dK (B:=w.heap.size) R r.cI (iv:=(QF.heap.size,Pw.heap.size)::Od) aF;obtain⟨am,cm,rfl,-,-⟩:=dC.shape hMy.c;obtain⟨⟨rv,m1,m2,m3,m4⟩,TF⟩:=hMy;have VK:=m1;have QY:dS Pw (Bs FF w.heap.size ((QF.heap.size,Pw.heap.size)::Od) (.slice am (cT fv).length cm)) rv (cT fv):=⟨m2,m3,m4⟩
  replace hX:=cS.cN (S':=(Bs FF w.heap.size ((QF.heap.size,Pw.heap.size)::Od) (.slice am (cT fv).length cm))) (cS.cK hX Oi) fun g Y=>⟨Y.mono Ol,fun e=>by
   have L:=Ow g Y;rcases(R.new g e).new with h|h
   ·exact h
   ·omega⟩
  clear m1 m2 m3 m4;clear r U hb Ol Oi Ow R;generalize (QF.heap.size,Pw.heap.size)::Od=Oq at*
  conv=>whnf
  refine cJ (cO (If:=fun _ J v V=>∃vk,v= .tuple #[vk,.int .i64 0]/\cV V (Nf J V) vk (cW (cT fv) fv.cols)) (fun O J r=>(GW (oS X r) (hR.cK (kS I r X)) (fun _=>QC)).mono fun _ _ ⟨v2,e1,e2,e3⟩=>⟨v2,e1,e2,e3.elim (fun h=>absurd PJ h.1) fun h=>h.2⟩) ?_);rintro O RG v4 QX r U hb ⟨vk,rfl,R⟩;replace I:=I.tr hb;have Ol:∀p,p∈Oq->p∈(RG.heap.size,QX.heap.size)::Oq:=fun p hp=>aB _ hp;have Oi:∀g,Cf w Oq g->QX.heap[g]? =Pw.heap[g]? :=fun g Y=>(U.block g (Rel.old r (cH w) g Y)).trans (Rel.same r (cH w) Y);have Ow:∀g,Cf w Oq g->g<RG.heap.size:=fun g Y=>Rel.old r (cH w) g Y;replace hX:=cS.cN (S':=(Bs FF w.heap.size ((RG.heap.size,QX.heap.size)::Oq) (.slice am (cT fv).length cm))) (cS.cK hX fun g Y=>Oi g Y.1) fun g Y=>⟨Y.1.mono Ol,Y.2⟩
  replace QY:=dS.cN (S':=(Bs FF w.heap.size ((RG.heap.size,QX.heap.size)::Oq) (.slice am (cT fv).length cm))) (dS.cK QY fun g Y=>Oi g Y.1) fun g Y=>⟨Y.1.mono Ol,Y.2⟩
  replace VK:=ownsRow.cK VK fun g Y=>Oi g (TF g Y);have hK:cV QX (Bs FF w.heap.size ((RG.heap.size,QX.heap.size)::Oq) (.slice am (cT fv).length cm)) vk (cW (cT fv) fv.cols):=cV.cN R fun g Y=>Bs.fresh r (fun g e=>Ow g (TF g e)) Y;obtain⟨ak,ck,rfl,-,hkm⟩:=dC.shape hK;unfold maxLen at hkm;replace TF:=fun g Y=>(TF g Y).mono Ol;clear r U hb Ol Oi Ow R;generalize (RG.heap.size,QX.heap.size)::Oq=Ox at*
  conv=>whnf
  refine cJ (cO (If:=fun _ J v V=>v= .int .i64 fv.cols) (fun O J r=>my (hR.cK (kS I r X)) ⟨QC.b,QC.s⟩) ?_);rintro O Rt v5 Rv r U hb rfl;replace I:=I.tr hb;have Ol:∀p,p∈Ox->p∈(Rt.heap.size,Rv.heap.size)::Ox:=fun p hp=>aB _ hp;have Oi:∀g,Cf w Ox g->Rv.heap[g]? =QX.heap[g]? :=fun g Y=>(U.block g (Rel.old r (cH w) g Y)).trans (Rel.same r (cH w) Y);have Ow:∀g,Cf w Ox g->g<Rt.heap.size:=fun g Y=>Rel.old r (cH w) g Y;replace hX:=cS.cN (S':=(Bs FF w.heap.size ((Rt.heap.size,Rv.heap.size)::Ox) (.slice am (cT fv).length cm))) (cS.cK hX fun g Y=>Oi g Y.1) fun g Y=>⟨Y.1.mono Ol,Y.2⟩
  replace QY:=dS.cN (S':=(Bs FF w.heap.size ((Rt.heap.size,Rv.heap.size)::Ox) (.slice am (cT fv).length cm))) (dS.cK QY fun g Y=>Oi g Y.1) fun g Y=>⟨Y.1.mono Ol,Y.2⟩
  replace hK:=cV.cN (S':=(Bs FF w.heap.size ((Rt.heap.size,Rv.heap.size)::Ox) (.slice am (cT fv).length cm))) (cV.cK hK fun g Y=>Oi g Y.1) fun g Y=>⟨Y.1.mono Ol,Y.2⟩
  replace VK:=ownsRow.cK VK fun g Y=>Oi g (TF g Y);replace TF:=fun g Y=>(TF g Y).mono Ol;clear r U hb Ol Oi Ow;generalize (Rt.heap.size,Rv.heap.size)::Ox=PX at*
  conv=>whnf
  refine dQ.mk (fun hd=>absurd (show (x.length:Int)=(fv.cols:Int) by omega) (by simpa using hd)) (fun _=>?_);conv=>whnf
  refine cJ (cO (If:=fun _ J v V=>cS V (Nf J V) v (fV fv l)) (fun O J r=>KH (oS X r) (hR.cK (kS I r X)) (hl.cK (kS I r X)) SH RW) ?_);rintro O Ro v6 Rq r U hb R;replace I:=I.tr hb;have Ol:∀p,p∈PX->p∈(Ro.heap.size,Rq.heap.size)::PX:=fun p hp=>aB _ hp;have Oi:∀g,Cf w PX g->Rq.heap[g]? =Rv.heap[g]? :=fun g Y=>(U.block g (Rel.old r (cH w) g Y)).trans (Rel.same r (cH w) Y);have Ow:∀g,Cf w PX g->g<Ro.heap.size:=fun g Y=>Rel.old r (cH w) g Y;replace hX:=cS.cN (S':=(Bs FF w.heap.size ((Ro.heap.size,Rq.heap.size)::PX) (.slice am (cT fv).length cm))) (cS.cK hX fun g Y=>Oi g Y.1) fun g Y=>⟨Y.1.mono Ol,Y.2⟩
  replace QY:=dS.cN (S':=(Bs FF w.heap.size ((Ro.heap.size,Rq.heap.size)::PX) (.slice am (cT fv).length cm))) (dS.cK QY fun g Y=>Oi g Y.1) fun g Y=>⟨Y.1.mono Ol,Y.2⟩
  replace hK:=cV.cN (S':=(Bs FF w.heap.size ((Ro.heap.size,Rq.heap.size)::PX) (.slice am (cT fv).length cm))) (cV.cK hK fun g Y=>Oi g Y.1) fun g Y=>⟨Y.1.mono Ol,Y.2⟩
  replace VK:=ownsRow.cK VK fun g Y=>Oi g (TF g Y);have hP:=cS.dK (S:=FF) R r.cI (iv:=(Ro.heap.size,Rq.heap.size)::PX) aF;obtain⟨ap,cp,rfl,-,-⟩:=dV.shape hP;replace TF:=fun g Y=>(TF g Y).mono Ol;clear r U hb Ol Oi Ow R;generalize (Ro.heap.size,Rq.heap.size)::PX=Q8 at*
  conv=>whnf
  refine cJ (cO (If:=fun _ J v V=>dA V (Nf J V) v ((-1:Int):Rat)) (fun O J r=>ki (-1) J (by decide)) ?_);rintro O TU v7 TD r U hb R;replace I:=I.tr hb;have Ol:∀p,p∈Q8->p∈(TU.heap.size,TD.heap.size)::Q8:=fun p hp=>aB _ hp;have Oi:∀g,Cf w Q8 g->TD.heap[g]? =Rq.heap[g]? :=fun g Y=>(U.block g (Rel.old r (cH w) g Y)).trans (Rel.same r (cH w) Y);have Ow:∀g,Cf w Q8 g->g<TU.heap.size:=fun g Y=>Rel.old r (cH w) g Y;replace hX:=cS.cN (S':=(Bs FF w.heap.size ((TU.heap.size,TD.heap.size)::Q8) (.slice am (cT fv).length cm))) (cS.cK hX fun g Y=>Oi g Y.1) fun g Y=>⟨Y.1.mono Ol,Y.2⟩
  replace QY:=dS.cN (S':=(Bs FF w.heap.size ((TU.heap.size,TD.heap.size)::Q8) (.slice am (cT fv).length cm))) (dS.cK QY fun g Y=>Oi g Y.1) fun g Y=>⟨Y.1.mono Ol,Y.2⟩
  replace hK:=cV.cN (S':=(Bs FF w.heap.size ((TU.heap.size,TD.heap.size)::Q8) (.slice am (cT fv).length cm))) (cV.cK hK fun g Y=>Oi g Y.1) fun g Y=>⟨Y.1.mono Ol,Y.2⟩
  replace VK:=ownsRow.cK VK fun g Y=>Oi g (TF g Y);have SX:=dA.dK (S:=FF) R r.cI (iv:=(TU.heap.size,TD.heap.size)::Q8) aF;replace hP:=cS.cM hP r (cH w) U Ol;obtain⟨A0,A1,A2,A3,A4,A5,A6,A7,rfl⟩:=SX.shape;replace TF:=fun g Y=>(TF g Y).mono Ol;clear r U hb Ol Oi Ow R;generalize (TU.heap.size,TD.heap.size)::Q8=Qj at*
  conv=>whnf
  refine cJ (cO (If:=fun _ J v V=>eU V FF J.heap.size [(J.heap.size,V.heap.size)] v (3*fv.nodes.length) (dE (fV fv l) (-1))) (fun O J r=>((show vH [] (fV fv l) ((-1:Int):Rat)=dE (fV fv l) (-1)from KQ _ _)▸Mm (S:=Cf w Qj) (Rel.old r (cH w)) (eD.nil _ _) (cS.l (cS.rel hP r (cH w)) fun q hq=>by have:=VF q hq;omega) ((SX.rel r (cH w)).l (by decide)) (.inl rfl) (by omega) (fun y hy=>by have:=VF y hy;have:rl ((-1:Int):Rat)<=1:=(by decide);omega)).mono fun _ _ ⟨v2,e1,e2,_,e3⟩=>⟨v2,e1,e2,e3.x (by rw[dE,aJ,Vn])⟩) ?_);rintro O SN v8 SO r U hb R;replace I:=I.tr hb;have Ol:∀p,p∈Qj->p∈(SN.heap.size,SO.heap.size)::Qj:=fun p hp=>aB _ hp;have Oi:∀g,Cf w Qj g->SO.heap[g]? =TD.heap[g]? :=fun g Y=>(U.block g (Rel.old r (cH w) g Y)).trans (Rel.same r (cH w) Y);have Ow:∀g,Cf w Qj g->g<SN.heap.size:=fun g Y=>Rel.old r (cH w) g Y;obtain⟨⟨Z,b1,b2,b3⟩,b4⟩:=R;have hBn0:∀g,v8.ownBlock=some g->SN.heap.size<=g:=fun g Y=>by
   rcases(b4 g Y).new with h|h
   ·exact h.elim
   ·exact h.1
  have TE:∀g,v8.ownBlock=some g->Cf w ((SN.heap.size,SO.heap.size)::Qj) g:=fun g Y=>(b4 g Y).new.dK r.cI aF;obtain⟨a8,c8,rfl,hc8⟩:∃a c,v8= .slice a (3*fv.nodes.length) c/\3*fv.nodes.length<=c:=by
   rcases b1.2 with⟨e,h0⟩|⟨g,cap,cur,e,_,_,R,_⟩
   ·exact⟨none,0,by rw[e,h0],by omega⟩
   ·exact⟨_,_,e,R⟩
  have SG:∀g,Cf w Qj g->(Value.slice a8 (3*fv.nodes.length) c8).ownBlock≠some g:=fun g Y e=>by
   have L:=Ow g Y;have:=hBn0 g e;omega
  replace hX:=cS.cN (S':=(fun g=>Bs FF w.heap.size ((SN.heap.size,SO.heap.size)::Qj) (.slice am (cT fv).length cm) g/\(Value.slice a8 (3*fv.nodes.length) c8).ownBlock≠some g)) (cS.cK hX fun g Y=>Oi g Y.1) fun g Y=>⟨⟨Y.1.mono Ol,Y.2⟩,SG g Y.1⟩
  replace QY:=dS.cN (S':=(fun g=>Bs FF w.heap.size ((SN.heap.size,SO.heap.size)::Qj) (.slice am (cT fv).length cm) g/\(Value.slice a8 (3*fv.nodes.length) c8).ownBlock≠some g)) (dS.cK QY fun g Y=>Oi g Y.1) fun g Y=>⟨⟨Y.1.mono Ol,Y.2⟩,SG g Y.1⟩
  replace hK:=cV.cN (S':=(fun g=>Bs FF w.heap.size ((SN.heap.size,SO.heap.size)::Qj) (.slice am (cT fv).length cm) g/\(Value.slice a8 (3*fv.nodes.length) c8).ownBlock≠some g)) (cV.cK hK fun g Y=>Oi g Y.1) fun g Y=>⟨⟨Y.1.mono Ol,Y.2⟩,SG g Y.1⟩
  replace VK:=ownsRow.cK VK fun g Y=>Oi g (TF g Y);have Vw:∀g,(Value.slice am (cT fv).length cm).ownBlock=some g->Cf w ((SN.heap.size,SO.heap.size)::Qj) g/\(Value.slice a8 (3*fv.nodes.length) c8).ownBlock≠some g:=fun g Y=>⟨(TF g Y).mono Ol,SG g (TF g Y)⟩
  have hGb:eS SO (fun g=>Bs FF w.heap.size ((SN.heap.size,SO.heap.size)::Qj) (.slice am (cT fv).length cm) g/\(Value.slice a8 (3*fv.nodes.length) c8).ownBlock≠some g) Z (dE (fV fv l) (-1)):=
   ⟨b3.1,b3.mR,fun j W q k1 k2=>(b3.2 j W q k1 k2).cN fun g Y=>⟨⟨Y.1.new.dK r.cI aF,fun e=>by
    have L:=Ow g (TF g e);rcases Y.1.new with h|h
    ·exact h
    ·omega⟩,Y.2⟩⟩
  clear TF SG hP SX b3 b4 hBn0;clear r U hb Ol Oi Ow;generalize (SN.heap.size,SO.heap.size)::Qj=SP at*
  conv=>whnf
  refine⟨Nat×List Value×List (List Value)×World×Iv,fun z=>⟨[(1,sV al l.length cl),(2,pP 0 0),(5,sV ax x.length cx),(7,.o (.w 1 z.2.1.length)),(9,.o (.v (.slice ak (cW (cT fv) fv.cols).length ck))),(11,.o (.w 2 z.2.2.1.length)),(12,iN z.1)],[(1,.vec T.iB 1 z.2.1),(2,.vec T.Rat 4 z.2.2.1.flatten),(0,.box T.Frame [.v (.slice an fv.nodes.length cn),.v (.slice ab fv.bars.length cb),.v (.slice aq fv.cZ.length cq)])],3,z.2.2.2.2,z.2.2.2.1⟩,fun z=>(cW (cT fv) fv.cols).length-z.1,
   fun z=>z.1<=(cW (cT fv) fv.cols).length/\dw w.heap.size w z.2.2.2.1/\dS z.2.2.2.1 (Cf w z.2.2.2.2) z.2.1 (cT fv++((cW (cT fv) fv.cols).take z.1).map (tP fv))/\eS z.2.2.2.1 (Cf w z.2.2.2.2) z.2.2.1 (dE (fV fv l) (-1)++fL z.1)/\cV z.2.2.2.1 (Cf w z.2.2.2.2) (.slice ak (cW (cT fv) fv.cols).length ck) (cW (cT fv) fv.cols)/\cS z.2.2.2.1 (Cf w z.2.2.2.2) (.slice ax x.length cx) x,?_,?_⟩
  ·intro O J E;have Uu:∀g,(fun g=>Bs FF w.heap.size (SP) (.slice am (cT fv).length cm) g/\(Value.slice a8 (3*fv.nodes.length) c8).ownBlock≠some g) g->Cf w (wk (.slice a8 (3*fv.nodes.length) c8) (wk (.slice am (cT fv).length cm) SP)) g:=fun g Y=>(Y.1.1.cut Y.1.2).cut Y.2;have Oh:∀g,(fun g=>Bs FF w.heap.size (SP) (.slice am (cT fv).length cm) g/\(Value.slice a8 (3*fv.nodes.length) c8).ownBlock≠some g) g->J.heap[g]? =SO.heap[g]? :=fun g Y=>Rel.same E (cH w) Y.1.1;refine⟨(0,rv,Z,J,wk (.slice a8 (3*fv.nodes.length) c8) (wk (.slice am (cT fv).length cm) SP)),⟨aQ _,I.tr E.cU,by dsimp only;rw[List.take_zero,List.map_nil,List.append_nil];exact dS.cN (dS.cK QY Oh) Uu,by dsimp only;rw[show dE (fV fv l) (-1)++fL 0=dE (fV fv l) (-1)from List.append_nil _];exact eS.cN (eS.cK hGb Oh) Uu,cV.cN (cV.cK hK Oh) Uu,cS.cN (cS.cK hX Oh) Uu⟩,?_⟩;refine Sub.zA 7 (cT fv).length rfl (by simp[jw,SV.sc,At.sc,fW]) E (ownsRow.cK VK fun g Y=>Rel.same E (cH w) (Vw g Y).1) (fun g Y=>(Vw g Y).1.elim (fun h=>h.elim) fun h=>h.1) (fun g Y=>Rel.not E (cH w) (Vw g Y).1) fun Id r1=>?_;refine Sub.zA 11 (3*fv.nodes.length) rfl (by simp[jw,SV.sc,At.sc,fW]) r1 (ownsRow.cK b1 fun g Y=>Rel.same E (cH w) (TE g Y)) (fun g Y=>(TE g Y).elim (fun h=>h.elim) fun h=>h.1) (fun g Y=>Rel.not r1 (cH w) ((TE g Y).cut fun e=>(Vw g e).2 Y)) fun GE r2=>?_;exact Sub.gn [] r2 (hE:=⟨rfl,rfl,rfl,by dsimp only;rw[QY.1];rfl,rfl,by dsimp only;rw[b2];rfl,rfl,trivial⟩)
  clear I VK Vw b1 b2 TE QY hGb hK hX;rintro⟨i,rv,rc,w10,iv⟩ ⟨A,I,hQ,hG,hK,hX⟩;dsimp only at A I hQ hG hK hX ⊢;have Po:rv.length=(cT fv).length+i:=by rw[hQ.1,List.length_append,aJ,aX];omega
  have hgl:rc.length=(cT fv).length+i:=by rw[hG.len,List.length_append,fL,bH,TT]
  have hgf:=ef hG.four;conv=>whnf
  refine dQ.mk ?_ ?_<;>intro OZ
  ·have OZ:i<(cW (cT fv) fv.cols).length:=by have:=aK OZ;omega
   obtain⟨s,hs⟩:∃s,(cW (cT fv) fv.cols)[i]? =some s:=⟨_,aA OZ⟩
   have SE:s.length=fv.cols:=hKl s (aC hs);have XS:=QB.aAE s (aC hs);obtain⟨adm,um,Rn,Pj,km,kn⟩:=dC.load hK hs;obtain⟨as1,cs1,rfl,-,-⟩:=dV.shape Pj;conv=>whnf
   refine⟨adm,Rn,by omega,?_⟩;conv=>whnf
   refine⟨.slice as1 s.length cs1,fun O J r=>?_,?_⟩
   ·rw[aE,cL (w:=w10) (V:=J) (by rw[dF];exact Rel.same r (cH w) km)];exact kn
   conv=>whnf
   refine dQ.mk (fun hd=>absurd (show (s.length:Int)=(x.length:Int) by omega) (by simpa using hd)) (fun _=>?_);conv=>whnf
   clear Pj km kn
   refine⟨Nat×List (List Value)×World×Iv,fun z=>⟨[(1,sV al l.length cl),(2,pP 0 0),(5,sV ax x.length cx),(7,.o (.w 1 rv.length)),(9,.o (.v (.slice ak (cW (cT fv) fv.cols).length ck))),(11,.o (.w 2 rc.length)),(12,iN i),(13,.o (.w 3 z.2.1.length)),(14,iN z.1)],(3,.vec T.Rat 4 z.2.1.flatten)::[(1,.vec T.iB 1 rv),(2,.vec T.Rat 4 rc.flatten),(0,.box T.Frame [.v (.slice an fv.nodes.length cn),.v (.slice ab fv.bars.length cb),.v (.slice aq fv.cZ.length cq)])],4,z.2.2.2,z.2.2.1⟩,fun z=>x.length-z.1,
    fun z=>z.1<=x.length/\dw w.heap.size w z.2.2.1/\eS z.2.2.1 (Cf w z.2.2.2) z.2.1 ((tP fv s).take z.1)/\dS z.2.2.1 (Cf w z.2.2.2) rv (cT fv++((cW (cT fv) fv.cols).take i).map (tP fv))/\eS z.2.2.1 (Cf w z.2.2.2) rc (dE (fV fv l) (-1)++fL i)/\cV z.2.2.1 (Cf w z.2.2.2) (.slice ak (cW (cT fv) fv.cols).length ck) (cW (cT fv) fv.cols)/\cS z.2.2.1 (Cf w z.2.2.2) (.slice ax x.length cx) x,?_,?_⟩
   ·intro O J r;exact⟨(0,[],J,_),⟨aQ _,I.tr r.cU,eS.nil,hQ.rel r (cH w),hG.rel r (cH w),cV.rel hK r (cH w),cS.rel hX r (cH w)⟩,Sub.nil 13 T.Rat 4 rfl (by simp[jw,SV.sc,At.sc,fW]) r fun Id r1=>Sub.gn [] r1⟩
   clear I hQ hG hK hX;rintro⟨k,Z,w11,iv⟩ ⟨D,I,hC,hQ,hG,hK,hX⟩;dsimp only at D I hC hQ hG hK hX ⊢;have PL:=ef hC.four;have Wt:Z.length=k:=by rw[hC.len,aX,BI];omega
   conv=>whnf
   refine dQ.mk ?_ ?_<;>intro Oj
   ·have Oj:k<x.length:=by simpa using Oj
    have VA:k<s.length:=by omega
    obtain⟨q,hq⟩:∃q,s[k]? =some q:=⟨_,aA VA⟩
    have hqr:=XS q (aC hq);have hsn:(tP fv s).take (k+1)=(tP fv s).take k++[(cY fv).getD k 0*q]:=by
     rw[List.take_add_one,tP,aL,bm VA,<-getD_some (d:=0) hq];rfl
    obtain⟨adm,um,Rn,Pj,km,kn⟩:=dC.load hK hs;obtain⟨as1,cs1,rfl,-,-⟩:=dV.shape Pj;obtain⟨adx,csx,QE,RQ,-,PU⟩:=dV.load Pj hq;obtain⟨f0,f1,f2,f3,f4,f5,f6,f7,rfl,RQ⟩:=RQ;conv=>whnf
    refine cR hτ dx [.x 0,.x 1,.x 2,.x 4,.x 5,.x 6,.x 7,.x 8,.x 9,.x 10,.x 3,.x 11,.x 12,.x 13,.x 14] (by kernel_rfl) (by kernel_rfl) ?_;conv=>whnf
    refine⟨adm,Rn,by omega,?_⟩;conv=>whnf
    refine⟨.slice as1 s.length cs1,fun O J r=>?_,?_⟩
    ·rw[aE,cL (w:=w11) (V:=J) (by rw[dF];exact Rel.same r (cH w) km)];exact kn
    conv=>whnf
    refine⟨adx,QE,by omega,?_⟩;conv=>whnf
    refine⟨[.bool f0,.slice f1 f2 f3,.bool f4,.slice f5 f6 f7],rfl,fun O J r j u hu=>?_,?_⟩
    ·obtain⟨k1,k2⟩:=PU j u hu;rw[aE,cL (w:=w11) (V:=J) (by rw[dF,dF];exact Rel.same r (cH w) k1)];exact k2
    conv=>whnf
    clear Pj km kn PU;refine cE I (fun _ J v V=>ed V S v ((cY fv).getD k 0)) (fun O J r=>Iz (oS X r) (hR.cK (kS I r X)) ⟨QC.b,QC.s⟩ (by omega)) ?_;rintro O wa21 v21 wb21 iv21 r U I h_ hL;replace RQ:=RQ.cM r (cH w) U (mC h_);replace hC:=hC.cM r (cH w) U (mC h_);replace hQ:=hQ.cM r (cH w) U (mC h_);replace hG:=hG.cM r (cH w) U (mC h_);replace hK:=cV.cM hK r (cH w) U (mC h_);replace hX:=cS.cM hX r (cH w) U (mC h_);clear r U;obtain⟨l0,l1,l2,l3,l4,l5,l6,l7,rfl⟩:=hL.shape;conv=>whnf
    refine cE I (fun _ J v V=>dA V (Nf J V) v ((cY fv).getD k 0*q)) (fun O J r=>wV (S:=fun g=>S g\/Cf w iv21 g) (fun g Y=>Y.elim (oS X r g) (Rel.old r (cH w) g)) (ed.cN (hL.cK fun g Y=>Rel.same r X (.inl Y)) fun g Y=>.inl Y).v (nM.cN ((RQ.rel r (cH w)).v (by omega)) fun g Y=>.inr Y)) ?_;rintro O _ _ _ iv22 r U I h_ R;clear RQ;replace hC:=hC.cM r (cH w) U (mC h_);replace hQ:=hQ.cM r (cH w) U (mC h_);replace hG:=hG.cM r (cH w) U (mC h_);replace hK:=cV.cM hK r (cH w) U (mC h_);replace hX:=cS.cM hX r (cH w) U (mC h_);have hd:=R.dK (S:=FF) r.cI (mN h_);clear r U R;obtain⟨C0,C1,C2,C3,C4,C5,C6,C7,rfl⟩:=hd.shape;have Ud:=hC.push (W:=[.bool C0,.slice C1 C2 C3,.bool C4,.slice C5 C6 C7]) (q:=(cY fv).getD k 0*q) ⟨_,_,_,_,_,_,_,_,rfl,hd⟩ rfl;rw[<-hsn]at Ud;have Qc:Z.flatten++([.bool C0,.slice C1 C2 C3,.bool C4,.slice C5 C6 C7]:List Value)=(Z++([[.bool C0,.slice C1 C2 C3,.bool C4,.slice C5 C6 C7]]:List (List Value))).flatten:=by simp
    conv=>whnf
    refine .inl ?_;conv=>whnf
    refine⟨by omega,by omega,by unfold maxLen;omega,?_⟩;conv=>whnf
    refine⟨((k+1:Nat):Int),wo,?_⟩;conv=>whnf
    intro GT w6 E;exact⟨(k+1,Z++[[.bool C0,.slice C1 C2 C3,.bool C4,.slice C5 C6 C7]],w6,_),⟨Oj,I.tr E.cU,Ud.rel E (cH w),hQ.rel E (cH w),hG.rel E (cH w),cV.rel hK E (cH w),cS.rel hX E (cH w)⟩,Sub.gn [(3,5)] E ⟨by dsimp only;rw[<-Qc];rfl,rfl,rfl,rfl,trivial⟩ ⟨rfl,rfl,rfl,rfl,rfl,rfl,rfl,by dsimp only;rw[List.length_append,List.length_singleton];rfl,rfl,trivial⟩,by dsimp only;omega⟩
   have Oj:k=x.length:=aR D (by simpa using Oj);rw[List.take_of_length_le (by rw[BI];omega)]at hC;have Tv:(tP fv s).length=Z.length:=by rw[BI];omega
   conv=>whnf
   refine lQ hτ (id3:=4) (id2:=3) (tH:=[(1,.vec T.iB 1 rv),(2,.vec T.Rat 4 rc.flatten),(0,.box T.Frame [.v (.slice an fv.nodes.length cn),.v (.slice ab fv.bars.length cb),.v (.slice aq fv.cZ.length cq)])]) rfl rfl rfl rfl (by simp) (by first|exact⟨rfl,trivial⟩|exact⟨rfl,rfl,trivial⟩|exact⟨rfl,rfl,rfl,trivial⟩) rfl rfl (fun O J r r2 SI=>?_);have Oa:=eS.list ((hC.rel r (cH w)).cN fun g Y=>Cv.mono (K:=((O 4).g,(O 4).g+1)::jf (O 3) iv) Y fun p hp=>aB _ (kN p hp)) ((r.Hh (id:=3) (sz:=4) (m:=Z.length) rfl PL (by unfold maxLen;omega) (by decide) hC.one).cN fun g Y=>Cv.mono Y fun p hp=>aB _ hp);have PZ:((At.w 3 Z.length).den O).oneCell'=true:=At.Iw;have Rb:=r.low 4 _ rfl (r.fits (id:=4) rfl).1;have hC3:Cf w (((O 4).g,(O 4).g+1)::jf (O 3) iv) (O 4).g:=.inr ⟨Rb.1,_,_,aF,Nat.le_refl _,bQ _⟩;have Ol:∀p,p∈iv->p∈((O 4).g,(O 4).g+1)::jf (O 3) iv:=fun p hp=>aB _ (kN p hp);have PE:=I.tr r.cU;have US:=(hQ.rel r (cH w)).cN fun g Y=>Cv.mono Y Ol;have hG1:=(hG.rel r (cH w)).cN fun g Y=>Cv.mono Y Ol;have Vi:=cV.cN (cV.rel hK r (cH w)) fun g Y=>Cv.mono Y Ol;have hX1:=cS.cN (cS.rel hX r (cH w)) fun g Y=>Cv.mono Y Ol;clear r2 Rb;generalize (At.w 3 Z.length).den O=ur at*
   generalize (O 4).g=gy at*
   generalize (gy,gy+1)::jf (O 3) iv=Od at*
   conv=>whnf
   refine⟨[ur],rfl,by simpa using PZ,fun GE V r2 _=>⟨_,rfl,fun j u hu=>?_⟩,?_⟩
   ·have h5:=Rel.same r2 (gY _) hC3;rw[dL,cell_of (h5.trans SI)];rcases j with _|j
    ·exact hu
    ·cases hu
   conv=>whnf
   refine⟨by simp,by omega,by unfold maxLen;omega,?_⟩;conv=>whnf
   have Qs:=US.push PZ Oa;rw[bZ,show((cW (cT fv) fv.cols).take i).map (tP fv)++[tP fv s]=((cW (cT fv) fv.cols).take (i+1)).map (tP fv) by rw[List.take_add_one,hs];simp]at Qs;clear I hQ hG hK hX hC US;have I:=PE;clear PE;refine cJ (cE I (fun _ J v V=>dA V (Nf J V) v (((0:Int)):Rat)) (fun O J r=>ki 0 J (by decide)) ?_);rintro O _ _ _ iv21 r U I h_ R;replace Qs:=Qs.cM r (cH w) U (mC h_);replace hG1:=hG1.cM r (cH w) U (mC h_);replace Vi:=cV.cM Vi r (cH w) U (mC h_);replace hX1:=cS.cM hX1 r (cH w) U (mC h_);have hd:=R.dK (S:=FF) r.cI (mN h_);clear r U R;obtain⟨E0,E1,E2,E3,E4,E5,E6,E7,rfl⟩:=hd.shape;have UP:=hG1.push (W:=[.bool E0,.slice E1 E2 E3,.bool E4,.slice E5 E6 E7]) (q:=((0:Int):Rat)) ⟨_,_,_,_,_,_,_,_,rfl,hd⟩ rfl;rw[show (dE (fV fv l) (-1)++fL i)++[((0:Int):Rat)]=dE (fV fv l) (-1)++fL (i+1) by rw[fL,fL,List.replicate_succ',bZ];rfl]at UP;have Qc:rc.flatten++([.bool E0,.slice E1 E2 E3,.bool E4,.slice E5 E6 E7]:List Value)=(rc++([[.bool E0,.slice E1 E2 E3,.bool E4,.slice E5 E6 E7]]:List (List Value))).flatten:=by simp
   conv=>whnf
   refine .inl ?_;conv=>whnf
   refine⟨by omega,by omega,by unfold maxLen;omega,?_⟩;conv=>whnf
   refine⟨((i+1:Nat):Int),wo,?_⟩;conv=>whnf
   intro GT w6 E;exact⟨(i+1,rv++[ur],rc++[[.bool E0,.slice E1 E2 E3,.bool E4,.slice E5 E6 E7]],w6,_),⟨OZ,I.tr E.cU,Qs.rel E (cH w),UP.rel E (cH w),cV.rel Vi E (cH w),cS.rel hX1 E (cH w)⟩,Sub.gn [(1,5),(2,7)] E ⟨rfl,by dsimp only;rw[<-Qc];rfl,rfl,trivial⟩ ⟨rfl,rfl,rfl,by dsimp only;rw[List.length_append,List.length_singleton];rfl,rfl,by dsimp only;rw[List.length_append,List.length_singleton];rfl,rfl,trivial⟩,by dsimp only;omega⟩
  have OZ:i=(cW (cT fv) fv.cols).length:=by have:=aG OZ;omega
  rw[OZ,bA,<-Gb]at hQ;rw[OZ]at hG;have hfl3:(iD (cT fv) fv.cols fun t=>(cY fv).getD t 0).length=(cT fv).length+(cW (cT fv) fv.cols).length:=iW;conv=>whnf
  refine cJ (cE I (fun _ J v V=>∃vx ak ck,v= .tuple #[.agg #[.int .i64 0,vx,.slice ak 0 ck,.slice none 0 0],.int .i64 0]/\cS V (Nf J V) vx x) (fun O J r=>Mk (S:=(fun g=>g<J.heap.size)) (fv:=fv) (b:=dE (fV fv l) (-1)) (fun g Y=>Y) QB ⟨rv,by rw[<-hQ.1];exact r.vF (T:=(fun g=>g<J.heap.size)) (id:=1) (sz:=1) (m:=rv.length) rfl (by simp) (by unfold maxLen;omega) (by decide) hQ.2.1 fun R=>(r.low 1 _ rfl R).2,hQ.1,fun a u x L G=>cS.cN (cS.rel (hQ.2.2 a u x L G) r (cH w)) fun g Y=>Rel.old r (cH w) g Y⟩ (eS.list ((hG.rel r (cH w)).cN fun g Y=>Rel.old r (cH w) g Y) (r.vF (T:=(fun g=>g<J.heap.size)) (id:=2) (sz:=4) (m:=rc.length) rfl hgf (by unfold maxLen;omega) (by decide) hG.one fun R=>(r.low 2 _ rfl R).2)) PD TT Vk F) ?_);rintro O _ _ _ iv30 r U I h_ ⟨vx2,ak2,ck2,rfl,R⟩;replace hX:=cS.cM hX r (cH w) U (mC h_);have hY:=cS.dK (S:=FF) R r.cI (mN h_);clear r U;clear R hQ hG;obtain⟨ay,cy,rfl,-,-⟩:=dV.shape hY;conv=>whnf
  refine cJ (cE I (fun _ J v V=>v= .bool true) (fun O J r=>(BP (S:=Cf w iv30) (Rel.old r (cH w)) (cS.rel hY r (cH w)) (cS.rel hX r (cH w))).mono fun _ _ ⟨v2,e1,e2,e3⟩=>⟨v2,e1,e2,by rw[e3];exact congrArg _ (bX rfl)⟩) ?_);rintro O _ _ _ iv31 r U I h_ rfl;replace hX:=cS.cM hX r (cH w) U (mC h_);clear hY;clear r U;conv=>whnf
  refine cJ (cE I (fun _ J v V=>∃z vz,(∀q∈z,q=0)/\z.length=fv.cols/\v= .tuple #[vz,.int .i64 0]/\cS V (Nf J V) vz z) (fun O J r=>(pH (l:=[]) (oS X r) (hR.cK (kS I r X)) jA.aB3 (fun _=>QB)).mono fun _ _ ⟨v2,e1,e2,e3⟩=>⟨v2,e1,e2,e3.elim (fun h=>absurd hel0 h.1) fun h=>h.2.elim (fun g=>by obtain⟨z,hz⟩:=nY hlen (x:=fun _=>0) (b:=dE (fV fv []) (-1)) fun j _=>by{rw[Ii];show cw (fun t=>dD (cT fv) j t*0) fv.cols=0;rw[cP (g:=fun _=>0) fun t _=>ah _,dc]};rw[hz]at g;cases g.1) fun⟨z,vz,g,k1,k2⟩=>⟨z,vz,Nm QB g,g.len,k1,k2⟩⟩) ?_);rintro O _ _ _ iv32 r U I h_ ⟨z0,vz,Ov,R9,rfl,R⟩;replace hX:=cS.cM hX r (cH w) U (mC h_);have hZ:=cS.dK (S:=FF) R r.cI (mN h_);clear r U;clear R;obtain⟨az,cz,rfl,-,-⟩:=dV.shape hZ;conv=>whnf
  refine dQ.mk (fun hd=>absurd (show (z0.length:Int)=(x.length:Int) by omega) (by simpa using hd)) (fun _=>?_);conv=>whnf
  refine⟨Nat×World×Iv,fun z=>⟨[(1,sV al l.length cl),(2,pP 0 0),(5,sV ax x.length cx),(17,sV az z0.length cz),(19,iN z.1)],[(0,.box T.Frame [.v (.slice an fv.nodes.length cn),.v (.slice ab fv.bars.length cb),.v (.slice aq fv.cZ.length cq)])],1,z.2.2,z.2.1⟩,fun z=>z0.length-z.1,
   fun z=>z.1<=z0.length/\dw w.heap.size w z.2.1/\cS z.2.1 (Cf w z.2.2) (.slice ax x.length cx) x/\cS z.2.1 (Cf w z.2.2) (.slice az z0.length cz) z0,?_,?_⟩
  ·intro O J r;exact⟨(0,J,_),⟨aQ _,I.tr r.cU,cS.rel hX r (cH w),cS.rel hZ r (cH w)⟩,Sub.gn [] r⟩
  clear I hX hZ;rintro⟨i,w12,iv⟩ ⟨A,I,hX,hZ⟩;dsimp only at A I hX hZ ⊢;conv=>whnf
  refine dQ.mk ?_ ?_<;>intro OZ
  ·have OZ:i<z0.length:=by simpa using OZ
   obtain⟨q,hq⟩:∃q,z0[i]? =some q:=⟨_,aA OZ⟩
   have VW:=Ov q (aC hq);subst VW;obtain⟨adxa,csxa,haxa,TX,-,XD⟩:=dV.load hZ hq;obtain⟨fa0,fa1,fa2,fa3,fa4,fa5,fa6,fa7,rfl,TX⟩:=TX;conv=>whnf
   refine⟨adxa,haxa,by omega,?_⟩;conv=>whnf
   refine⟨[.bool fa0,.slice fa1 fa2 fa3,.bool fa4,.slice fa5 fa6 fa7],rfl,fun O J r j u hu=>?_,?_⟩
   ·obtain⟨k1,k2⟩:=XD j u hu;rw[aE,cL (w:=w12) (V:=J) (by rw[dF,dF];exact Rel.same r (cH w) k1)];exact k2
   conv=>whnf
   refine cJ (cE I (fun _ J v V=>v= .int .i64 0) (fun O J r=>(DL (S:=Cf w iv) (Rel.old r (cH w)) (TX.rel r (cH w))).mono fun _ _ ⟨v2,e1,e2,e3⟩=>⟨v2,e1,e2,by rw[e3];rfl⟩) ?_);rintro O wa41 v41 wb41 iv41 r U I h_ rfl;replace hX:=cS.cM hX r (cH w) U (mC h_);replace hZ:=cS.cM hZ r (cH w) U (mC h_);clear r U;conv=>whnf
   refine⟨((i+1:Nat):Int),wo,?_⟩;conv=>whnf
   intro GT w6 E;exact⟨(i+1,w6,_),⟨OZ,I.tr E.cU,cS.rel hX E (cH w),cS.rel hZ E (cH w)⟩,Sub.gn [] E,by dsimp only;omega⟩
  clear hZ R9 Ov;by_cases Sh:og (cT fv) fv.cols=(cT fv).length
  ·obtain⟨x1,u,SS,hu,-,-⟩:=QC.KJ (b:=dE (fV fv l) (-1)) TT Sh;obtain rfl:=QB.B8.one SS F;clear SS;have PZ:∀{x2 u2},jB (cT fv) fv.cols (Gc fv) (dE (fV fv l) (-1)) x2->fM (da (cT fv) fv.cols) (dE (fJ x2 (cY fv)) (-1)) (cT fv).length=some u2->x2=x1/\u2=u:=fun g1 g2=>by
    obtain rfl:=QB.B8.one g1 F;rw[hu]at g2;injection g2 with g2;exact⟨rfl,g2.symm⟩
   have hur:=QB.aA3 PD TT F hu;have hul:u.length=3*fv.nodes.length:=by rw[(iV (fa _ _) hu).1,St]
   conv=>whnf
   refine cJ (cE I (fun _ J v V=>∃vu vx,v= .tuple #[vu,vx,.int .i64 0]/\cS V (Nf J V) vu u/\cS V (Nf J V) vx x1) (fun O J r=>(xo (oS X r) (hR.cK (kS I r X)) (hl.cK (kS I r X)) (fun _=>QB)).mono fun _ _ ⟨v2,e1,e2,e3⟩=>⟨v2,e1,e2,e3.elim (fun h=>absurd Sg h.1) fun h=>h.2.elim (fun g=>absurd g.1 (by omega)) fun⟨_,x2,u2,vx,vu,g1,g2,e3,e4,e5⟩=>by obtain⟨rfl,rfl⟩:=PZ g1 g2;exact⟨vu,vx,e3,e4,e5⟩⟩) ?_);rintro O wa41 v41 wb41 iv41 r U I h_ ⟨vu,vy,rfl,R,Ri⟩;replace hX:=cS.cM hX r (cH w) U (mC h_);have hU:=cS.dK (S:=FF) R r.cI (mN h_);have hY:=cS.dK (S:=FF) Ri r.cI (mN h_);clear r U;obtain⟨au,cu,rfl,-,-⟩:=dV.shape hU;obtain⟨ay,cy,rfl,-,-⟩:=dV.shape hY;clear R Ri;conv=>whnf
   refine⟨((3*fv.nodes.length:Nat):Int),wo,?_⟩;conv=>whnf
   refine dQ.mk (fun hd=>absurd (show (u.length:Int)=((3*fv.nodes.length:Nat):Int) by omega) (by simpa using hd)) (fun _=>?_);conv=>whnf
   refine cJ (cE I (fun _ J v V=>v= .bool true) (fun O J r=>(BP (S:=Cf w iv41) (Rel.old r (cH w)) (cS.rel hX r (cH w)) (cS.rel hY r (cH w))).mono fun _ _ ⟨v2,e1,e2,e3⟩=>⟨v2,e1,e2,by rw[e3];exact congrArg _ (bX rfl)⟩) ?_);rintro O wa42 v42 wb42 iv42 r U I h_ rfl;replace hX:=cS.cM hX r (cH w) U (mC h_);replace hU:=cS.cM hU r (cH w) U (mC h_);clear hY;clear r U;conv=>whnf
   refine cJ (cE I (fun _ J v V=>cS V (Nf J V) v (Nk fv u)) (fun O J r=>KO (S:=fun g=>S g\/Cf w iv42 g) (fun g Y=>Y.elim (oS X r g) (Rel.old r (cH w) g)) (eG.cN (hR.cK (kS I r X)) fun g Y=>.inl Y) PJ QC (eD.cN (cS.l (cS.rel hU r (cH w)) fun q hq=>by have:=hur q hq;omega) fun g Y=>.inr Y) (fun q hq=>by have:=hur q hq;omega) (by omega) hul) ?_);rintro O _ _ _ iv43 r U I h_ R;replace hX:=cS.cM hX r (cH w) U (mC h_);clear hU;have hA:=cS.dK (S:=FF) R r.cI (mN h_);clear r U;clear R;have VI:(Nk fv u).length=fv.cols:=by rw[Nk,nN,eJ]
   have hAr:=KI (x:=u) (fa (cT fv) fv.cols) (wy QC) (fun q hq=>by have:=hur q hq;omega) (by decide);have hmv:=fun k (D:k<fv.cols)=>MD F hu D;obtain⟨F9,hA0⟩:∃F9,Nk fv u=F9:=⟨_,rfl⟩
   rw[show jh (da (cT fv) fv.cols) u=F9 from hA0]at hAr hmv;rw[hA0]at hA VI;obtain⟨aa,ca,rfl,-,-⟩:=dV.shape hA;conv=>whnf
   refine⟨Nat×World×Iv,fun z=>⟨[(2,pP 0 0),(5,sV ax x1.length cx),(23,sV aa F9.length ca),(24,iN z.1)],[(0,.box T.Frame [.v (.slice an fv.nodes.length cn),.v (.slice ab fv.bars.length cb),.v (.slice aq fv.cZ.length cq)])],1,z.2.2,z.2.1⟩,fun z=>F9.length-z.1,
    fun z=>z.1<=F9.length/\dw w.heap.size w z.2.1/\cS z.2.1 (Cf w z.2.2) (.slice ax x1.length cx) x1/\cS z.2.1 (Cf w z.2.2) (.slice aa F9.length ca) F9,?_,?_⟩
   ·intro O J r;exact⟨(0,J,_),⟨aQ _,I.tr r.cU,cS.rel hX r (cH w),cS.rel hA r (cH w)⟩,Sub.gn [] r⟩
   clear I hX hA;rintro⟨i,w13,iv⟩ ⟨A,I,hX,hA⟩;dsimp only at A I hX hA ⊢;conv=>whnf
   refine dQ.mk ?_ ?_<;>intro OZ
   ·have OZ:i<F9.length:=by simpa using OZ
    have hix:i<x1.length:=by omega
    obtain⟨p,hp⟩:∃q,F9[i]? =some q:=⟨_,aA OZ⟩
    obtain⟨q,hq⟩:∃q,x1[i]? =some q:=⟨_,aA hix⟩
    have VH:=hmv i (by omega);rw[getD_some hp,getD_some hq]at VH;have hpr:=hAr p (aC hp);have hqr:=Se q (aC hq);have PW:=QB.fxD (t:=i) (by omega);obtain⟨adxa,csxa,haxa,TX,-,XD⟩:=dV.load hA hp;obtain⟨fa0,fa1,fa2,fa3,fa4,fa5,fa6,fa7,rfl,TX⟩:=TX;conv=>whnf
    obtain⟨adxb,csxb,haxb,TY,-,hlxb⟩:=dV.load hX hq;obtain⟨fb0,fb1,fb2,fb3,fb4,fb5,fb6,fb7,rfl,TY⟩:=TY;conv=>whnf
    refine cR hτ dx [.x 0,.x 1,.x 2,.x 3,.x 5,.x 6,.x 8,.x 9,.x 10,.x 11,.x 4,.x 7,.x 12,.x 13,.x 14] (by kernel_rfl) (by kernel_rfl) ?_;conv=>whnf
    refine⟨adxa,haxa,by omega,?_⟩;conv=>whnf
    refine⟨[.bool fa0,.slice fa1 fa2 fa3,.bool fa4,.slice fa5 fa6 fa7],rfl,fun O J r j u hu=>?_,?_⟩
    ·obtain⟨k1,k2⟩:=XD j u hu;rw[aE,cL (w:=w13) (V:=J) (by rw[dF,dF];exact Rel.same r (cH w) k1)];exact k2
    conv=>whnf
    refine⟨adxb,haxb,by omega,?_⟩;conv=>whnf
    refine⟨[.bool fb0,.slice fb1 fb2 fb3,.bool fb4,.slice fb5 fb6 fb7],rfl,fun O J r j u hu=>?_,?_⟩
    ·obtain⟨k1,k2⟩:=hlxb j u hu;rw[aE,cL (w:=w13) (V:=J) (by rw[dF,dF];exact Rel.same r (cH w) k1)];exact k2
    conv=>whnf
    clear XD hlxb;refine cE I (fun _ J v V=>dA V (Nf J V) v (-p)) (fun O J r=>Mn (S:=Cf w iv) (Rel.old r (cH w)) ((TX.rel r (cH w)).l (by omega))) ?_;rintro O wa51 v51 wb51 iv51 r U I h_ R;replace hX:=cS.cM hX r (cH w) U (mC h_);replace hA:=cS.cM hA r (cH w) U (mC h_);clear TX;replace TY:=TY.cM r (cH w) U (mC h_);have hm:=R.dK (S:=FF) r.cI (mN h_);clear r U R;obtain⟨F0,F1,F2,F3,F4,F5,F6,F7,rfl⟩:=hm.shape;conv=>whnf
    refine cE I (fun _ J v V=>ed V S v ((cY fv).getD i 0)) (fun O J r=>Iz (oS X r) (hR.cK (kS I r X)) ⟨QC.b,QC.s⟩ (by omega)) ?_;rintro O _ _ _ iv52 r U I h_ hL;replace hX:=cS.cM hX r (cH w) U (mC h_);replace hA:=cS.cM hA r (cH w) U (mC h_);replace TY:=TY.cM r (cH w) U (mC h_);replace hm:=hm.cM r (cH w) U (mC h_);clear r U;obtain⟨l0,l1,l2,l3,l4,l5,l6,l7,rfl⟩:=hL.shape;conv=>whnf
    refine cE I (fun _ J v V=>dA V (Nf J V) v ((cY fv).getD i 0*q)) (fun O J r=>Ei (S:=fun g=>S g\/Cf w iv52 g) (fun g Y=>Y.elim (oS X r g) (Rel.old r (cH w) g)) (ed.cN (hL.cK fun g Y=>Rel.same r X (.inl Y)) fun g Y=>.inl Y) (ed.cN ((TY.rel r (cH w)).l (by omega)) fun g Y=>.inr Y)) ?_;rintro O _ _ _ iv53 r U I h_ R;replace hX:=cS.cM hX r (cH w) U (mC h_);replace hA:=cS.cM hA r (cH w) U (mC h_);clear TY;replace hm:=hm.cM r (cH w) U (mC h_);have hd:=R.dK (S:=FF) r.cI (mN h_);clear r U R;obtain⟨G0,G1,G2,G3,G4,G5,G6,G7,rfl⟩:=hd.shape;conv=>whnf
    refine cE I (fun _ J v V=>v= .int .i64 0) (fun O J r=>(aAn (S:=Cf w iv53) (Rel.old r (cH w)) ((hm.rel r (cH w)).l (by rw[lh];omega)) ((hd.rel r (cH w)).l (by have:=iA ((cY fv).getD i 0) q;omega))).mono fun _ _ ⟨v2,e1,e2,e3⟩=>⟨v2,e1,e2,by rw[e3,VH,Rat.sub_self];rfl⟩) ?_;rintro O _ _ _ iv54 r U I h_ rfl;replace hX:=cS.cM hX r (cH w) U (mC h_);replace hA:=cS.cM hA r (cH w) U (mC h_);clear hm;clear hd;clear r U;conv=>whnf
    refine⟨((i+1:Nat):Int),wo,?_⟩;conv=>whnf
    intro GT w6 E;exact⟨(i+1,w6,_),⟨OZ,I.tr E.cU,cS.rel hX E (cH w),cS.rel hA E (cH w)⟩,Sub.gn [] E,by dsimp only;omega⟩
   refine cJ (cE I (fun _ J v V=>v= .bool true) (fun O J r=>yq J) ?_);rintro O _ _ _ iv51 r U I h_ rfl;clear r U;conv=>whnf
   exact rtn I fun IR we re=>rfl
  have Ow:og (cT fv) fv.cols<(cT fv).length:=by have:=(qv (cT fv) fv.cols (fQ fv)).1;rw[eP]at this;exact Nat.lt_of_le_of_ne this Sh
  conv=>whnf
  refine cJ (cE I (fun _ J v V=>v= .tuple #[.slice none 0 0,.slice none 0 0,.int .i64 17]) (fun O J r=>(xo (oS X r) (hR.cK (kS I r X)) (hl.cK (kS I r X)) (fun _=>QB)).mono fun _ _ ⟨v2,e1,e2,e3⟩=>⟨v2,e1,e2,e3.elim (fun h=>absurd Sg h.1) fun h=>h.2.elim (fun g=>g.2) fun g=>absurd g.1 Sh⟩) ?_);rintro O _ _ _ iv41 r U I h_ rfl;clear hX;clear r U;conv=>whnf
  refine cJ (cE I (fun _ J v V=>v= .bool true) (fun O J r=>yq J) ?_);rintro O _ _ _ iv42 r U I h_ rfl;clear r U;conv=>whnf
  exact rtn I fun IR we re=>rfl
end Go.Ex
