/- Texts X193 to X208: lemmas, each with its conditions. -/
import Derived.Test.YtgkpbdkechfgmaaGreatP11
namespace Go.Ex
open Go Go.Sx Go.Proofs
end Go.Ex
namespace Go.Sx
open Go Go.Ex Go.Proofs
variable{G:List Value}{O:Nat->Sx.cd}
theorem Rel.jm{H:Hp}{nx:Nat}{iv:Iv}{B:Nat}{w J:World}(r:Rel H nx iv B w O J){T:Nat->Prop}{id t m sz:Nat}(h:cO H id=some (.vec t sz G))(hm:G.length=m*sz)(Ov:m<=maxLen)(hs:0<sz)(V:∀u∈G,u.oneCell'=true)(hT:(O id).nil=false->T (O id).g):
  gi J T sz ((At.w id m).den O) G m:=by
 rcases r.fits h with⟨A,rfl⟩|⟨A,spare,I,K,h4⟩
 ·have QM:m=0:=by
   rcases bF m with h|h
   ·exact h
   ·have:=Nat.mul_pos h hs;simp at hm;omega
  subst QM;have OE:(At.w id 0).den O= .slice none 0 0:=by simp[At.den,A]
  rw[OE];exact⟨aP _,by simp,by simp,none,0,rfl,aE _,fun j u h=>by cases h⟩
 ·have OE:(At.w id m).den O= .slice (some ⟨(O id).g,0,none⟩) m (O id).cap:=by simp[At.den,A]
  rw[OE];refine⟨Ov,hm,V,_,_,rfl,?_,fun j u hu=>⟨_,rfl,hT A,?_⟩⟩
  ·rw[List.length_append,hm]at K;exact Nat.le_of_mul_le_mul_right (show m*sz<=(O id).cap*sz by omega) hs
  ·rw[cZ,cell_of I,aU,aJ (aC.1 hu).1];exact hu
end Go.Sx
namespace Go.Ex
open Go Go.Sx Go.Proofs
variable{p:List Rat}{g:Nat}{S:Nat->Prop}
section
variable{S:Nat->Prop}{H:Hp}{nx:Nat}{iv E:Iv}{B n:Nat}{w J Y:World}{O:Nat->Sx.cd}{v:Value}{qs:List Rat}
theorem Bs.fresh(r:Rel H nx iv B w O J)(F:∀g,v.ownBlock=some g->g<J.heap.size)(R:Nf J Y g):Bs S B ((J.heap.size,Y.heap.size)::iv) v g:=by
 rcases R with R|R
 ·exact R.elim
 ·exact⟨.inr ⟨by have:=r.bs;omega,_,_,aH,R.1,R.2⟩,fun e=>by have:=F g e;omega⟩
theorem Bs.solved{T:Nat->Prop}(r:Rel H nx iv B w O J)(F:∀g,v.ownBlock=some g->g<J.heap.size)(hT:∀g,T g->Bs S B iv v g)(R:Cv T J.heap.size [(J.heap.size,Y.heap.size)] g):Bs S B ((J.heap.size,Y.heap.size)::iv) v g:=by
 rcases R with R|⟨V,lo,N,I,K,h4⟩
 ·exact Bs.mono (fun p hp=>aB _ hp) (hT g R)
 ·simp at I;obtain⟨rfl,rfl⟩:=I;exact Bs.fresh r F (.inr ⟨K,h4⟩)
end
section
variable{S:Nat->Prop}{H:Hp}{nx:Nat}{iv E:Iv}{B:Nat}{w J Y:World}{O:Nat->Sx.cd}{v v0:Value}{q:Rat}
theorem kO.rel(h:cI w (Bs S B iv v) v0 q)(r:Rel H nx iv B w O J)(X:∀g,S g->g<B):cI J (Bs S B iv v) v0 q:=cI.br h (Bs.same r X)
theorem kO.fresh(h:cI Y (Nf J Y) v0 q)(r:Rel H nx iv B w O J)(F:∀g,v.ownBlock=some g->g<J.heap.size):cI Y (Bs S B ((J.heap.size,Y.heap.size)::iv) v) v0 q:=cI.bw h fun _ R=>Bs.fresh r F R
theorem kO.cv(h:cI w (Bs S B iv v) v0 q):cI w (Cv S B iv) v0 q:=cI.bw h fun _ R=>R.1
end
section
variable{S:Nat->Prop}{H:Hp}{nx:Nat}{iv E:Iv}{B:Nat}{w J Y:World}{O:Nat->Sx.cd}{v v0:Value}{G9:List (List Rat)}
theorem fG.rel(h:cQ w (Bs S B iv v) v0 G9)(r:Rel H nx iv B w O J)(X:∀g,S g->g<B):cQ J (Bs S B iv v) v0 G9:=cQ.br h (Bs.same r X)
theorem fG.bu(h:cQ w (Bs S B iv v) v0 G9)(r:Rel H nx iv B w O J)(X:∀g,S g->g<B)(Z:Ext J Y)(hm:∀p,p∈iv->p∈E):cQ Y (Bs S B E v) v0 G9:=
 cQ.bw (cQ.br (fG.rel h r X) fun g R=>Z.block g (Rel.old r X g R.1)) fun _ R=>Bs.mono hm R
theorem fG.fresh(h:cQ Y (Nf J Y) v0 G9)(r:Rel H nx iv B w O J)(F:∀g,v.ownBlock=some g->g<J.heap.size):cQ Y (Bs S B ((J.heap.size,Y.heap.size)::iv) v) v0 G9:=cQ.bw h fun _ R=>Bs.fresh r F R
theorem fG.kept(h:cQ w (Bs S B iv v) v0 G9)(r:Rel H nx iv B w O J)(X:∀g,S g->g<B)(R:J.grownBy Y v.ownBlock):cQ Y (Bs S B iv v) v0 G9:=cQ.br h (Bs.kept r X R fun _ e=>e)
end
section
variable{S:Nat->Prop}{H:Hp}{nx:Nat}{iv E:Iv}{B:Nat}{w J Y:World}{O:Nat->Sx.cd}{v v0:Value}{xs:List Rat}
theorem dg.rel(h:cF w (Bs S B iv v) v0 xs)(r:Rel H nx iv B w O J)(X:∀g,S g->g<B):cF J (Bs S B iv v) v0 xs:=cF.br h (Bs.same r X)
theorem dg.bu(h:cF w (Bs S B iv v) v0 xs)(r:Rel H nx iv B w O J)(X:∀g,S g->g<B)(Z:Ext J Y)(hm:∀p,p∈iv->p∈E):cF Y (Bs S B E v) v0 xs:=
 cF.bw (cF.br (dg.rel h r X) fun g R=>Z.block g (Rel.old r X g R.1)) fun _ R=>Bs.mono hm R
theorem dg.fresh(h:cF Y (Nf J Y) v0 xs)(r:Rel H nx iv B w O J)(F:∀g,v.ownBlock=some g->g<J.heap.size):cF Y (Bs S B ((J.heap.size,Y.heap.size)::iv) v) v0 xs:=cF.bw h fun _ R=>Bs.fresh r F R
theorem dg.cv(h:cF w (Bs S B iv v) v0 xs):cF w (Cv S B iv) v0 xs:=cF.bw h fun _ R=>R.1
theorem dg.kept(h:cF w (Bs S B iv v) v0 xs)(r:Rel H nx iv B w O J)(X:∀g,S g->g<B)(R:J.grownBy Y v.ownBlock):cF Y (Bs S B iv v) v0 xs:=cF.br h (Bs.kept r X R fun _ e=>e)
end
section
variable{S:Nat->Prop}{H:Hp}{nx:Nat}{iv E:Iv}{B:Nat}{w J Y:World}{O:Nat->Sx.cd}{v v0:Value}{rv:List Value}{G9:List (List Rat)}
theorem lE.rel(h:dL w (Bs S B iv v) rv G9)(r:Rel H nx iv B w O J)(X:∀g,S g->g<B):dL J (Bs S B iv v) rv G9:=dL.br h (Bs.same r X)
theorem lE.bu(h:dL w (Bs S B iv v) rv G9)(r:Rel H nx iv B w O J)(X:∀g,S g->g<B)(Z:Ext J Y)(hm:∀p,p∈iv->p∈E):dL Y (Bs S B E v) rv G9:=
 dL.bw (dL.br (lE.rel h r X) fun g R=>Z.block g (Rel.old r X g R.1)) fun _ R=>Bs.mono hm R
end
section
variable{S:Nat->Prop}{H:Hp}{nx:Nat}{iv E:Iv}{B:Nat}{w J Y:World}{O:Nat->Sx.cd}{v v0:Value}{U:List (List Value)}{xs:List Rat}
theorem ir.rel(h:fS w (Bs S B iv v) U xs)(r:Rel H nx iv B w O J)(X:∀g,S g->g<B):fS J (Bs S B iv v) U xs:=fS.br h (Bs.same r X)
theorem ir.bu(h:fS w (Bs S B iv v) U xs)(r:Rel H nx iv B w O J)(X:∀g,S g->g<B)(Z:Ext J Y)(hm:∀p,p∈iv->p∈E):fS Y (Bs S B E v) U xs:=
 fS.bw (fS.br (ir.rel h r X) fun g R=>Z.block g (Rel.old r X g R.1)) fun _ R=>Bs.mono hm R
end
theorem BZ{st:List (List Rat)}{c x:List Rat}{a b:Nat}(F:∀q∈x,rl q<=a)(hs:∀r∈st,∀q∈r,rl q<=b)(hc:∀q∈c,rl q<=b):∀i,∀q∈j6 st c x i,rl q<=a+i*(2*b+5)
 |0,q,hq=>by have:=F q hq;omega
 |i+1,q,hq=>by
  rw[j6]at hq;obtain⟨k,W⟩:=aQ hq;rw[List.getElem?_mapIdx]at W;obtain⟨p,hp,rfl⟩:=Option.map_eq_some_iff.1 W;have V:=BZ F hs hc i p (aD hp);have h0:rl 0<=2:=by decide
  have I:rl (c.getD i 0)<=b+2:=by
   rcases aO i c.length with h|h
   ·rw[getD_some (aA h)];have:=hc _ (aV h);omega
   ·rw[gV h];omega
  have K:rl ((st.getD i []).getD k 0)<=b+2:=by
   rcases aO i st.length with h|h
   ·rw[getD_some (d:=[]) (aA h)];rcases aO k (st[i]).length with h4|h4
    ·rw[getD_some (aA h4)];have:=hs _ (aV h) _ (aV h4);omega
    ·rw[gV h4];omega
   ·rw[show st.getD i []=[] by rw[List.getD,List.getElem?_eq_none h];rfl];exact a9 h0 (Nat.le_add_left _ _)
  have h4:=kz p (c.getD i 0*(st.getD i []).getD k 0);have h5:=jz (c.getD i 0) ((st.getD i []).getD k 0);rw[Nat.add_mul];omega
set_option maxHeartbeats 2000000 in
set_option maxRecDepth 8000 in
theorem sU{w:World}{vn vb vs u:Value}{f:eS}(X:Old S w)(hf:dN w S vn vb vs f)(Mu:eB f=0)(Lb:uF f)(hp:cF w S u p)(MC:p.length=3*f.nodes.length)(hpq:∀q∈p,rl q<=100000)(hb:Bl (cz p (-1))):
  eF PG F'.nd #[.agg #[vn,vb,vs],u] w (eM w fun v' Y=>(ff (cK f) (cz p (-1)) f.cols=none/\v'= .tuple #[.slice none 0 0,.bool false])\/∃x vx,gz (cK f) f.cols (fun t=>(cX f).getD t 0) (cz p (-1)) x/\v'= .tuple #[vx,.bool true]/\cF Y (Nf w Y) vx x):=by
 have L:=bR w;obtain⟨an,cn,ab,cb,aq,cq,rfl,rfl,rfl,Nd,OK,PW⟩:=hf.shape;have Kt:=uD Mu;have hlen:=fH f;have Rp:=fE f;have hc18:=Lb.IU;have hr12:=Lb.JA;have LN:=rC f;have PT:f.cols=f.bars.length+f.cJ.length:=rfl;obtain⟨ap,cp,rfl,hcp,hmp⟩:=eE.shape hp;have MZ:(cz p (-1)).length=(cK f).length:=by rw[cz,aK,Rp];exact MC
 have hw0:=Lb.D2 hb;have Ky:=Lb.GA (b:=cz p (-1));refine qo (by simp) ?_;refine bp (cE L (fun _ J v Y=>(∃vr,v= .agg #[vr,.int .i64 f.cols]/\cQ Y (Nf J Y) vr (cK f))/\gH f.cols (cK f)/\Ht (cK f) 2) (fun O J r=>Cd (S:=S) (oS X r) (hf.br (kS L r X)) Kt) ?_);rintro O _ _ _ LC r Z L h_ ⟨⟨vr,rfl,k1⟩,-,-⟩;have hM:=cQ.df (S:=FF) k1 r.bs (mN h_);clear r;obtain⟨am,cm,rfl,Og,PQ⟩:=dZ.shape hM;refine cC hτ eG [.x 0,.x 1,.x 2,.x 3,.x 4,.x 5,.x 6,.x 7,.x 8,.x 9] (by kernel_rfl) (by kernel_rfl) ?_;refine cE L (fun _ J v Y=>cI Y (Nf J Y) v ((-1:Int):Rat)) (fun O J r=>jT (-1) J (by decide) (by decide)) ?_;rintro O _ v2 _ Kx r Z L h_ A;replace hM:=cQ.bu hM r (bo w) Z (mC h_);have hd:=A.df (S:=FF) r.bs (mN h_);clear r;obtain⟨A0,A1,A2,A3,A4,A5,A6,A7,rfl⟩:=hd.shape;refine cE L (fun _ J v Y=>dV Y FF J.heap.size [(J.heap.size,Y.heap.size)] v p.length (cz p (-1))) (fun O J r=>E5 (S:=Cv S w.heap.size Kx) (Rel.old r X) (dx.bw (cF.l (cF.br hp (kS L r X)) fun q hq=>by have:=hpq q hq;omega) fun g R=>.inl R) (((hd.rel r (bo w)).l (by decide)).bw fun g R=>Hr R) (by omega)) ?_;rintro O _ _ _ LV r Z L h_ A;replace hM:=cQ.bu hM r (bo w) Z (mC h_);clear hd;have hB:=A.df (S:=FF) r.bs (mN h_);clear r;clear A;obtain⟨a3,c3,rfl,hc3⟩:=hB.row.form;refine bz (Id:=fun _ J v Y=>(ff (cK f) (cz p (-1)) f.cols=none/\v= .tuple #[.slice none 0 0,.bool false])\/∃x vx,ff (cK f) (cz p (-1)) f.cols=some x/\v= .tuple #[vx,.bool true]/\dV Y (Cf w LV) J.heap.size [(J.heap.size,Y.heap.size)] vx f.cols x) (fun O J r=>yH (M:=cK f) (b:=cz p (-1)) hlen hw0▸Gb (C:=Cf w LV) (S:=Cf w LV) (h:=30) (Rel.old r (bo w)) (Rel.old r (bo w)) (cQ.rel hM r (bo w)) ((hB.rel r (bo w)).c) MZ hlen (by omega) (by omega) (wx (iJ hlen) hw0 nU (by rw[qY]at *;omega)) (by decide)) ?_;rintro O Nm v4 NI r Z hb (⟨Of,rfl⟩|⟨x0,vx,hx0,rfl,k2⟩)
 ·replace L:=L.tr hb;clear r Z hb;exact rtn L fun I' we re=>.inl ⟨Of,rfl⟩
 replace L:=L.tr hb;replace hM:=cQ.bu (E:=(Nm.heap.size,NI.heap.size)::LV) hM r (bo w) Z fun x F=>aB _ F;have hX:=k2.KR r.bs;clear r Z hb k2 hB;generalize (Nm.heap.size,NI.heap.size)::LV=MD at*
 obtain⟨ax,cx,rfl,hcx⟩:=hX.row.form;obtain⟨hx0l,-⟩:=jy hlen hx0;have hx0D:=Lb.Jj hb hx0;have RO:∀q∈x0,rl q<=26:=fun q hq=>by
  obtain⟨Fn,hD⟩:=hx0D;have V:=hD.rl q hq;have I:ln (wt 25)<=26:=fc.2 (FQ (by decide));omega
 have hw1:=Lb.GB hx0D;have Kw:=Lb.D3 (b:=fW (cH (cK f) f.cols) (cX f) x0);obtain⟨c,hc,Lo,hfrc⟩:=Lb.Au.force (fl:=cX f) hx0;have Ok:=Lb.JC hx0D hc;have hKr:∀r∈cH (cK f) f.cols,∀q∈r,rl q<=14:=fun r hr q hq=>by
  obtain⟨Fn,hD⟩:=Lb.Kf;have V:=hD.rl r hr q hq;have I:ln (wt 13)<=14:=fc.2 (FQ (by decide));omega
 have hKl:=mK (cK f) f.cols;have hK18:=Lb.IV;have hSl:=mM (cH (cK f) f.cols) (cX f);have hfx:=Lb.fx;have PB:=yH (M:=dY (cH (cK f) f.cols) (cX f)) (b:=fW (cH (cK f) f.cols) (cX f) x0) hSl hw1;rw[hc]at PB;have hredB:=wx (M:=dF (dY (cH (cK f) f.cols) (cX f)) (fW (cH (cK f) f.cols) (cX f) x0)) (h:=1930) (iJ hSl) hw1 nU (by omega);refine cC hτ eG [.x 0,.x 2,.x 1,.x 3,.x 4,.x 5] (by kernel_rfl) (by kernel_rfl) ?_;refine bz (Id:=fun _ J v Y=>cQ Y (Nf J Y) v (cH (cK f) f.cols)) (fun O J r=>CL (M:=cK f) (n:=f.cols) hlen Lb.uE▸Co (C:=Cf w MD) (S:=Cf w MD) (h:=20) (Rel.old r (bo w)) (Rel.old r (bo w)) (cQ.rel hM r (bo w)) hlen (by omega) (by omega) (wx hlen Lb.uE (by decide) (by have:=Lb.size;omega)) (Cp hlen Lb.uE (by decide) (by have:=Lb.size;omega)) (by decide)) ?_;rintro O SD v5 wb5 r Z LF A;replace L:=L.tr LF;have NL:∀g,(Value.slice ax f.cols cx).ownBlock=some g->g<SD.heap.size:=fun g e=>Rel.old r (bo w) g (hX.new g e);clear hM;replace hX:=hX.bu (E:=(SD.heap.size,wb5.heap.size)::MD) r (bo w) Z fun x F=>aB _ F;have hK:=fG.fresh (S:=FF) (v:=(.slice ax f.cols cx)) A r NL;clear r Z LF NL A;generalize (SD.heap.size,wb5.heap.size)::MD=OT at*
 obtain⟨ak,ck,rfl,hck,Qs⟩:=dZ.shape hK;refine bz (Id:=fun _ J v Y=>dx Y (Nw S J Y) v (cX f)) (fun O J r=>Ec (S:=S) (oS X r) (hf.br (kS L r X)) Kt) ?_;rintro O RP v6 SE r Z LF A;replace L:=L.tr LF;have NL:∀g,(Value.slice ax f.cols cx).ownBlock=some g->g<RP.heap.size:=fun g e=>Rel.old r (bo w) g (hX.new g e);replace hX:=hX.bu (E:=(RP.heap.size,SE.heap.size)::OT) r (bo w) Z fun x F=>aB _ F;replace hK:=fG.bu (E:=(RP.heap.size,SE.heap.size)::OT) hK r (bo w) Z fun x F=>aB _ F;have hL:=dx.bw (S':=Cv S w.heap.size ((RP.heap.size,SE.heap.size)::OT)) A fun g R=>R.elim .inl fun h=>.inr ⟨by have:=r.bs;omega,_,_,aH,h.1,h.2⟩;clear r Z LF NL A;generalize (RP.heap.size,SE.heap.size)::OT=iv6 at*
 obtain⟨al,cl,rfl,hcl2,ND⟩:=eE.shape hL;rw[LN]
 refine⟨Nat×List Value×List (List Value)×World×Iv,fun z=>⟨[(7,sV ax f.cols cx),(9,.o (.v (.slice ak (cH (cK f) f.cols).length ck))),(10,sV al f.cols cl),(11,pP 2 0),(43,.o (.v (.slice ak (cH (cK f) f.cols).length ck))),(44,.o (.v (.int .i64 (cH (cK f) f.cols).length))),(12,.o (.w 4 z.2.2.1.length)),(45,iN z.1)],[(2,.box T.dJ [.w 3 z.2.1.length,.v (.int .i64 (cH (cK f) f.cols).length)]),(3,.vec T.jC 1 z.2.1),(4,.vec T.Rat 4 z.2.2.1.flatten)],5,z.2.2.2.2,z.2.2.2.1⟩,fun z=>(cH (cK f) f.cols).length-z.1,
  fun z=>z.1<=(cH (cK f) f.cols).length/\dO w.heap.size w z.2.2.2.1/\dV z.2.2.2.1 FF w.heap.size z.2.2.2.2 (.slice ax f.cols cx) f.cols x0/\cQ z.2.2.2.1 (Bs FF w.heap.size z.2.2.2.2 (.slice ax f.cols cx)) (.slice ak (cH (cK f) f.cols).length ck) (cH (cK f) f.cols)/\dx z.2.2.2.1 (Cv S w.heap.size z.2.2.2.2) (.slice al f.cols cl) (cX f)/\dL z.2.2.2.1 (Bs FF w.heap.size z.2.2.2.2 (.slice ax f.cols cx)) z.2.1 ((dY (cH (cK f) f.cols) (cX f)).take z.1)/\fS z.2.2.2.1 (Bs FF w.heap.size z.2.2.2.2 (.slice ax f.cols cx)) z.2.2.1 ((fW (cH (cK f) f.cols) (cX f) x0).take z.1),?_,?_⟩
 ·intro O J D;exact⟨(0,[],[],J,_),⟨aP _,L.tr D.cG,hX.rel D (bo w),fG.rel hK D (bo w),by have:=dx.rel hL D X;rw[LN]at this;exact this,by simp[dL],fS.nil⟩,Sub.BI 2 0 T.jC 1 rfl rfl (by simp[lj,SV.sc,At.sc,ij]) D fun If r1=>Sub.nil 12 T.Rat 4 rfl (by simp[lj,SV.sc,At.sc,ij]) r1 fun IR r2=>Sub.gn [] r2⟩
 clear L hX hK hL;rintro⟨i,rv,rc,w7,iv⟩ ⟨N,L,hX,hK,hL,hR,hG⟩;dsimp only at N L hX hK hL hR hG ⊢;have Mz:rv.length=i:=by rw[hR.1,ah,dY,aK];omega
 have hgl:rc.length=i:=by rw[hG.len,ah,fW,aK];omega
 have hgf:=gD hG.four;refine ct.mk ?_ ?_<;>intro Kp
 ·have Kp:i<(cH (cK f) f.cols).length:=by have:=aL Kp;omega
  obtain⟨s,hs⟩:∃s,(cH (cK f) f.cols)[i]? =some s:=⟨_,aA Kp⟩
  have NT:s.length=f.cols:=hKl s (aD hs);have hsr:=hKr s (aD hs);obtain⟨adm1,um,ham1,Lj,km1,kn1⟩:=dZ.load hK hs;obtain⟨as1,cs1,rfl,-,-⟩:=eE.shape Lj;obtain⟨bent,OX⟩:∃b,fe s (cX f)=b:=⟨_,rfl⟩
  have PC:bent.length=f.cols:=by rw[<-OX,rE,NT]
  have hbr:∀q∈bent,rl q<=20:=fun q hq=>by
   rw[<-OX]at hq;obtain⟨t,ht⟩:=aQ hq;have htl2:t<s.length:=by have:=(aC.1 ht).1;rw[rE]at this;exact this
   have V:=nW (a:=s) (b:=cX f) htl2;rw[getD_some ht]at V;have I:=jz (s.getD t 0) ((cX f).getD t 0);have K:=hsr (s.getD t 0) (by rw[getD_some (aA htl2)];exact aV _);have h4:=Lb.Kg (t:=t) (by omega);rw[V];omega
  refine⟨adm1,ham1,by omega,.slice as1 s.length cs1,fun O J r=>?_,?_⟩
  ·rw[aG,cA (w:=w7) (Y:=J) (by rw[dP];exact Rel.same r (bo w) km1.1)];exact kn1
  refine bp (bz (Id:=fun _ J v Y=>cF Y (Nf J Y) v bent) (fun O J r=>(OX▸Ho (S:=Cv S w.heap.size iv) (Rel.old r X) (dx.bw (cF.l (dg.cv (dg.rel Lj r (bo w))) fun q hq=>by have:=hsr q hq;omega) fun g R=>Hr R) (dx.rel hL r X) (by rw[NT,LN];exact aE _) (by omega)).mono fun _ _ ⟨v2,e1,e2,e3⟩=>⟨v2,e1,e2,cF.bw e3.c fun g R=>R.elim (fun h=>h.elim) fun⟨_,lo,N,I,K,h4⟩=>by
   simp at I;obtain⟨rfl,rfl⟩:=I
   exact .inr ⟨K,h4⟩⟩) ?_)
  rintro O wa8 v8 wb8 r Z LF A;replace L:=L.tr LF;have NL:∀g,(Value.slice ax f.cols cx).ownBlock=some g->g<wa8.heap.size:=fun g e=>Rel.old r (bo w) g (hX.new g e);replace hX:=hX.bu (E:=(wa8.heap.size,wb8.heap.size)::iv) r (bo w) Z fun x F=>aB _ F;replace hK:=fG.bu (E:=(wa8.heap.size,wb8.heap.size)::iv) hK r (bo w) Z fun x F=>aB _ F;replace hL:=dx.bu (E:=(wa8.heap.size,wb8.heap.size)::iv) hL r X Z fun x F=>aB _ F;replace hR:=lE.bu (E:=(wa8.heap.size,wb8.heap.size)::iv) hR r (bo w) Z fun x F=>aB _ F;replace hG:=ir.bu (E:=(wa8.heap.size,wb8.heap.size)::iv) hG r (bo w) Z fun x F=>aB _ F;have hE:=dg.fresh (S:=FF) (v:=(.slice ax f.cols cx)) A r NL;clear r Z LF NL A;generalize (wa8.heap.size,wb8.heap.size)::iv=iv8 at*
  clear Lj;obtain⟨ae,ce,rfl,-,-⟩:=eE.shape hE;rw[PC]
  refine⟨Nat×List (List Value)×World×Iv,fun z=>⟨[(7,sV ax f.cols cx),(9,.o (.v (.slice ak (cH (cK f) f.cols).length ck))),(10,sV al f.cols cl),(11,pP 2 0),(43,.o (.v (.slice ak (cH (cK f) f.cols).length ck))),(44,.o (.v (.int .i64 (cH (cK f) f.cols).length))),(12,.o (.w 4 rc.length)),(45,iN i),(15,sV ae f.cols ce),(52,.o (.v (.slice ak (cH (cK f) f.cols).length ck))),(53,.o (.v (.int .i64 (cH (cK f) f.cols).length))),(16,.o (.w 5 z.2.1.length)),(54,iN z.1)],[(5,.vec T.Rat 4 z.2.1.flatten),(2,.box T.dJ [.w 3 rv.length,.v (.int .i64 (cH (cK f) f.cols).length)]),(3,.vec T.jC 1 rv),(4,.vec T.Rat 4 rc.flatten)],6,z.2.2.2,z.2.2.1⟩,fun z=>(cH (cK f) f.cols).length-z.1,
   fun z=>z.1<=(cH (cK f) f.cols).length/\dO w.heap.size w z.2.2.1/\(dV z.2.2.1 FF w.heap.size z.2.2.2 (.slice ax f.cols cx) f.cols x0/\cQ z.2.2.1 (Bs FF w.heap.size z.2.2.2 (.slice ax f.cols cx)) (.slice ak (cH (cK f) f.cols).length ck) (cH (cK f) f.cols)/\dx z.2.2.1 (Cv S w.heap.size z.2.2.2) (.slice al f.cols cl) (cX f)/\dL z.2.2.1 (Bs FF w.heap.size z.2.2.2 (.slice ax f.cols cx)) rv ((dY (cH (cK f) f.cols) (cX f)).take i)/\fS z.2.2.1 (Bs FF w.heap.size z.2.2.2 (.slice ax f.cols cx)) rc ((fW (cH (cK f) f.cols) (cX f) x0).take i)/\cF z.2.2.1 (Bs FF w.heap.size z.2.2.2 (.slice ax f.cols cx)) (.slice ae f.cols ce) bent)/\fS z.2.2.1 (Bs FF w.heap.size z.2.2.2 (.slice ax f.cols cx)) z.2.1 (((cH (cK f) f.cols).map fun r=>eL bent r f.cols).take z.1),?_,?_⟩
  ·intro O J D;exact⟨(0,[],J,_),⟨aP _,L.tr D.cG,⟨hX.rel D (bo w),fG.rel hK D (bo w),dx.rel hL D X,lE.rel hR D (bo w),ir.rel hG D (bo w),by have:=dg.rel hE D (bo w);rw[PC]at this;exact this⟩,fS.nil⟩,Sub.nil 16 T.Rat 4 rfl (by simp[lj,SV.sc,At.sc,ij]) D fun IR r2=>Sub.gn [] r2⟩
  clear L hX hK hL hR hG hE;rintro⟨j,U,w8,iv⟩ ⟨hj,L,⟨hX,hK,hL,hR,hG,hE⟩,hD⟩;dsimp only at hj L hX hK hL hR hG hE hD ⊢;have Oj:U.length=j:=by rw[hD.len,ah,aK];omega
  have hdf:=gD hD.four;refine ct.mk ?_ ?_<;>intro Lu
  ·have Lu:j<(cH (cK f) f.cols).length:=by have:=aL Lu;omega
   obtain⟨t,ht⟩:∃s,(cH (cK f) f.cols)[j]? =some s:=⟨_,aA Lu⟩
   have htl2:t.length=f.cols:=hKl t (aD ht);have htr:=hKr t (aD ht);obtain⟨adm2,um2,ham2,Lj,km2,kn2⟩:=dZ.load hK ht;obtain⟨as2,cs2,rfl,-,-⟩:=eE.shape Lj;refine⟨adm2,ham2,by omega,.slice as2 t.length cs2,fun O J r=>?_,?_⟩
   ·rw[aG,cA (w:=w8) (Y:=J) (by rw[dP];exact Rel.same r (bo w) km2.1)];exact kn2
   refine bp (bz (Id:=fun _ J v Y=>cI Y (Nf J Y) v (eL bent t f.cols)) (fun O J r=>PC▸GX (S:=Cf w iv) (h:=21) (Rel.old r (bo w)) (cF.l (by have:=dg.cv (dg.rel hE r (bo w));rw[<-PC]at this;exact this) fun q hq=>by have:=hbr q hq;omega) (cF.l (dg.cv (dg.rel Lj r (bo w))) fun q hq=>by have:=htr q hq;omega) (by omega) (fun q hq=>by have:=hbr q hq;omega) (fun q hq=>by have:=htr q hq;omega) (by decide) (by omega)) ?_);rintro O RQ v9 SF r Z LF A;replace L:=L.tr LF;have NL:∀g,(Value.slice ax f.cols cx).ownBlock=some g->g<RQ.heap.size:=fun g e=>Rel.old r (bo w) g (hX.new g e);replace hX:=hX.bu (E:=(RQ.heap.size,SF.heap.size)::iv) r (bo w) Z fun x F=>aB _ F;replace hK:=fG.bu (E:=(RQ.heap.size,SF.heap.size)::iv) hK r (bo w) Z fun x F=>aB _ F;replace hL:=dx.bu (E:=(RQ.heap.size,SF.heap.size)::iv) hL r X Z fun x F=>aB _ F;replace hR:=lE.bu (E:=(RQ.heap.size,SF.heap.size)::iv) hR r (bo w) Z fun x F=>aB _ F;replace hG:=ir.bu (E:=(RQ.heap.size,SF.heap.size)::iv) hG r (bo w) Z fun x F=>aB _ F;replace hE:=dg.bu (E:=(RQ.heap.size,SF.heap.size)::iv) hE r (bo w) Z fun x F=>aB _ F;replace hD:=ir.bu (E:=(RQ.heap.size,SF.heap.size)::iv) hD r (bo w) Z fun x F=>aB _ F;have hd:=kO.fresh (S:=FF) (v:=(.slice ax f.cols cx)) A r NL;clear r Z LF NL A;generalize (RQ.heap.size,SF.heap.size)::iv=iv9 at*
   obtain⟨C0,C1,C2,C3,C4,C5,C6,C7,rfl⟩:=hd.shape;clear Lj;have hD2:=hD.push (G:=[.bool C0,.slice C1 C2 C3,.bool C4,.slice C5 C6 C7]) (q:=eL bent t f.cols) ⟨_,_,_,_,_,_,_,_,rfl,hd⟩ rfl;rw[show (((cH (cK f) f.cols).map fun r=>eL bent r f.cols).take j)++[eL bent t f.cols]=((cH (cK f) f.cols).map fun r=>eL bent r f.cols).take (j+1) by rw[List.take_add_one,aM,ht];rfl]at hD2;have OF:U.flatten++([.bool C0,.slice C1 C2 C3,.bool C4,.slice C5 C6 C7]:List Value)=(U++([[.bool C0,.slice C1 C2 C3,.bool C4,.slice C5 C6 C7]]:List (List Value))).flatten:=by simp
   refine .inl ?_;refine⟨by omega,by omega,by unfold maxLen;omega,((j+1:Nat):Int),wo,?_⟩;intro In w6 D;exact⟨(j+1,U++[[.bool C0,.slice C1 C2 C3,.bool C4,.slice C5 C6 C7]],w6,_),⟨Lu,L.tr D.cG,⟨hX.rel D (bo w),fG.rel hK D (bo w),dx.rel hL D X,lE.rel hR D (bo w),ir.rel hG D (bo w),dg.rel hE D (bo w)⟩,ir.rel hD2 D (bo w)⟩,Sub.gn [(5,7)] D ⟨by dsimp only;rw[<-OF];rfl,rfl,rfl,rfl,trivial⟩ ⟨rfl,rfl,rfl,rfl,rfl,rfl,rfl,rfl,rfl,rfl,rfl,by dsimp only;rw[List.length_append,List.length_singleton];rfl,rfl,trivial⟩,by dsimp only;omega⟩
  have Lu:j=(cH (cK f) f.cols).length:=by have:=aI Lu;omega
  rw[Lu,List.take_of_length_le (by rw[aK];exact aE _)]at hD;have Kr:(dY (cH (cK f) f.cols) (cX f)).take i++[((cH (cK f) f.cols).map fun r=>eL bent r f.cols)]=(dY (cH (cK f) f.cols) (cX f)).take (i+1):=by
   rw[List.take_add_one,dY,aM,hs,<-OX,<-NT];rfl
  have hrgt:(fW (cH (cK f) f.cols) (cX f) x0).take i++[-(eL bent x0 f.cols)]=(fW (cH (cK f) f.cols) (cX f) x0).take (i+1):=by
   rw[List.take_add_one,fW,aM,hs,<-OX,<-NT];rfl
  refine Bt hτ (id3:=6) (id2:=5) (tH:=[(2,.box T.dJ [.w 3 rv.length,.v (.int .i64 (cH (cK f) f.cols).length)]),(3,.vec T.jC 1 rv),(4,.vec T.Rat 4 rc.flatten)]) rfl rfl rfl rfl (by simp) ⟨rfl,rfl,rfl,trivial⟩ rfl rfl (fun O J r r2 RN=>?_);have MA:∀g,(Value.slice ax f.cols cx).ownBlock=some g->∀id b,cO [(6,.box T.jC [.w 5 U.length]),(5,.vec T.Rat 4 U.flatten),(2,.box T.dJ [.w 3 rv.length,.v (.int .i64 (cH (cK f) f.cols).length)]),(3,.vec T.jC 1 rv),(4,.vec T.Rat 4 rc.flatten)] id=some b->(O id).nil=false->(O id).g≠g:=fun g e id b V I=>Rel.not r (bo w) (hX.new g e) id b V I;have hlo3:=r.low 6 _ rfl (r.fits (id:=6) rfl).1;have hB3:Bs FF w.heap.size (((O 6).g,(O 6).g+1)::ot (O 5) iv) (.slice ax f.cols cx) (O 6).g:=⟨.inr ⟨hlo3.1,_,_,aH,aE _,bV _⟩,fun e=>MA _ e 6 _ rfl (r.fits (id:=6) rfl).1 rfl⟩
  have MU:∀p,p∈iv->p∈((O 6).g,(O 6).g+1)::ot (O 5) iv:=fun p hp=>aB _ (ED p hp);have SG:=fS.list ((ir.rel hD r (bo w)).bw fun g R=>Bs.mono MU R) (r.jm (T:=Bs FF w.heap.size (((O 6).g,(O 6).g+1)::ot (O 5) iv) (.slice ax f.cols cx)) (id:=5) (sz:=4) (m:=U.length) rfl hdf (by unfold maxLen;omega) (by decide) hD.one fun A=>⟨.inr ⟨(r.low 5 _ rfl A).1,_,_,aB _ (FK A),aE _,bV _⟩,fun e=>MA _ e 5 _ rfl A rfl⟩);have Mq:((At.w 5 U.length).den O).oneCell'=true:=At.Jp;have Ln:=L.tr r.cG;replace hX:dV J FF w.heap.size (((O 6).g,(O 6).g+1)::ot (O 5) iv) (.slice ax f.cols cx) f.cols x0:=by
   have V:=hX.rel r (bo w);exact⟨V.row.bw fun g R=>⟨R.1.mono MU,R.2⟩,fun g R=>(V.new g R).mono MU⟩
  replace hK:=cQ.bw (fG.rel hK r (bo w)) fun g R=>Bs.mono MU R;replace hL:=dx.bw (dx.rel hL r X) fun g R=>R.mono MU;replace hR:=dL.bw (lE.rel hR r (bo w)) fun g R=>Bs.mono MU R;replace hG:=fS.bw (ir.rel hG r (bo w)) fun g R=>Bs.mono MU R;replace hE:=cF.bw (dg.rel hE r (bo w)) fun g R=>Bs.mono MU R;clear r2 hlo3 hD MA L;generalize (At.w 5 U.length).den O=ur at*
  generalize (O 6).g=gy at*
  generalize (gy,gy+1)::ot (O 5) iv=ivg at*
  clear r;refine⟨[ur],rfl,by simpa using Mq,fun IR Y r2 _=>⟨_,rfl,fun j u hu=>?_⟩,?_⟩
  ·have h5:=Rel.same r2 (iC _) hB3.1;rw[cZ,cell_of (h5.trans RN)];rcases j with _|j
   ·exact hu
   ·cases hu
  refine⟨by simp,by omega,by unfold maxLen;omega,?_⟩;have NJ:=hR.push Mq SG;rw[Kr]at NJ;clear SG hR RN hB3;rename_i wg _;have L:=Ln;clear Ln;refine bp (bz (Id:=fun _ J v Y=>cI Y (Nf J Y) v (eL bent x0 f.cols)) (fun O J r=>PC▸GX (S:=Cf w ivg) (h:=30) (Rel.old r (bo w)) (cF.l (by have:=dg.cv (dg.rel hE r (bo w));rw[<-PC]at this;exact this) fun q hq=>by have:=hbr q hq;omega) (cF.l (by have:=(hX.rel r (bo w)).c;rw[<-PC]at this;exact this) fun q hq=>by have:=RO q hq;omega) (by omega) (fun q hq=>by have:=hbr q hq;omega) (fun q hq=>by have:=RO q hq;omega) (by decide) (by omega)) ?_);rintro O OY v11 PD r Z LF A;replace L:=L.tr LF;have NL:∀g,(Value.slice ax f.cols cx).ownBlock=some g->g<OY.heap.size:=fun g e=>Rel.old r (bo w) g (hX.new g e);replace hX:=hX.bu (E:=(OY.heap.size,PD.heap.size)::ivg) r (bo w) Z fun x F=>aB _ F;replace hK:=fG.bu (E:=(OY.heap.size,PD.heap.size)::ivg) hK r (bo w) Z fun x F=>aB _ F;replace hL:=dx.bu (E:=(OY.heap.size,PD.heap.size)::ivg) hL r X Z fun x F=>aB _ F;replace NJ:=lE.bu (E:=(OY.heap.size,PD.heap.size)::ivg) NJ r (bo w) Z fun x F=>aB _ F;replace hG:=ir.bu (E:=(OY.heap.size,PD.heap.size)::ivg) hG r (bo w) Z fun x F=>aB _ F;replace hE:=dg.bu (E:=(OY.heap.size,PD.heap.size)::ivg) hE r (bo w) Z fun x F=>aB _ F;have hd:=kO.fresh (S:=FF) (v:=(.slice ax f.cols cx)) A r NL;clear r Z LF NL A;generalize (OY.heap.size,PD.heap.size)::ivg=NM at*
  obtain⟨F0,F1,F2,F3,F4,F5,F6,F7,rfl⟩:=hd.shape;have hdr:=wU (h:=30) (xs:=bent) (ys:=x0) (fun q hq=>by have:=hbr q hq;omega) (fun q hq=>by have:=RO q hq;omega) (by decide) f.cols;refine bp (bz (Id:=fun _ J v Y=>cI Y (Nf J Y) v (-(eL bent x0 f.cols))) (fun O J r=>GV (S:=Cf w NM) (Rel.old r (bo w)) (cI.l (kO.cv (kO.rel hd r (bo w))) (by omega))) ?_);rintro O NA v12 Mh r Z LF A;replace L:=L.tr LF;have NL:∀g,(Value.slice ax f.cols cx).ownBlock=some g->g<NA.heap.size:=fun g e=>Rel.old r (bo w) g (hX.new g e);replace hX:=hX.bu (E:=(NA.heap.size,Mh.heap.size)::NM) r (bo w) Z fun x F=>aB _ F;replace hK:=fG.bu (E:=(NA.heap.size,Mh.heap.size)::NM) hK r (bo w) Z fun x F=>aB _ F;replace hL:=dx.bu (E:=(NA.heap.size,Mh.heap.size)::NM) hL r X Z fun x F=>aB _ F;replace NJ:=lE.bu (E:=(NA.heap.size,Mh.heap.size)::NM) NJ r (bo w) Z fun x F=>aB _ F;replace hG:=ir.bu (E:=(NA.heap.size,Mh.heap.size)::NM) hG r (bo w) Z fun x F=>aB _ F;replace hE:=dg.bu (E:=(NA.heap.size,Mh.heap.size)::NM) hE r (bo w) Z fun x F=>aB _ F;clear hd;have LZ:=kO.fresh (S:=FF) (v:=(.slice ax f.cols cx)) A r NL;clear r Z LF NL A;generalize (NA.heap.size,Mh.heap.size)::NM=PE at*
  obtain⟨G0,G1,G2,G3,G4,G5,G6,G7,rfl⟩:=LZ.shape;have hG2:=hG.push (G:=[.bool G0,.slice G1 G2 G3,.bool G4,.slice G5 G6 G7]) (q:= -(eL bent x0 f.cols)) ⟨_,_,_,_,_,_,_,_,rfl,LZ⟩ rfl;rw[hrgt]at hG2;have OF:rc.flatten++([.bool G0,.slice G1 G2 G3,.bool G4,.slice G5 G6 G7]:List Value)=(rc++([[.bool G0,.slice G1 G2 G3,.bool G4,.slice G5 G6 G7]]:List (List Value))).flatten:=by simp
  refine .inl ?_;refine⟨by omega,by omega,by unfold maxLen;omega,((i+1:Nat):Int),wo,?_⟩;intro In w6 D;exact⟨(i+1,rv++[ur],rc++[[.bool G0,.slice G1 G2 G3,.bool G4,.slice G5 G6 G7]],w6,_),⟨Kp,L.tr D.cG,hX.rel D (bo w),fG.rel hK D (bo w),dx.rel hL D X,lE.rel NJ D (bo w),ir.rel hG2 D (bo w)⟩,Sub.gn [(3,7),(4,9)] D ⟨by dsimp only;rw[List.length_append,List.length_singleton];rfl,rfl,by dsimp only;rw[<-OF];rfl,trivial⟩ ⟨rfl,rfl,rfl,rfl,rfl,rfl,by dsimp only;rw[List.length_append,List.length_singleton];rfl,rfl,trivial⟩,by dsimp only;omega⟩
 have Kp:i=(cH (cK f) f.cols).length:=by have:=aI Kp;omega
 rw[Kp,List.take_of_length_le (by rw[dY,aK];exact aE _)]at hR;rw[Kp,List.take_of_length_le (by rw[fW,aK];exact aE _)]at hG;have Ow:rv.length=(dY (cH (cK f) f.cols) (cX f)).length:=hR.1
 refine bp (bz (Id:=fun _ J v Y=>∃vc,v= .tuple #[vc,.bool true]/\dV Y (Bs FF w.heap.size iv (.slice ax f.cols cx)) J.heap.size [(J.heap.size,Y.heap.size)] vc (cH (cK f) f.cols).length c) (fun O J r=>(yV (C:=(fun g=>g<J.heap.size)) (Fn:=(fun g=>g<J.heap.size)) (S:=Bs FF w.heap.size iv (.slice ax f.cols cx)) (M:=dY (cH (cK f) f.cols) (cX f)) (b:=fW (cH (cK f) f.cols) (cX f) x0) (cols:=(cH (cK f) f.cols).length) (h:=1930) (fun g R=>R) (fun g R=>R) (fun g R=>Rel.old r (bo w) g R.1) ⟨rv,by rw[<-Ow];exact r.jm (T:=(fun g=>g<J.heap.size)) (id:=3) (sz:=1) (m:=rv.length) rfl (by simp) (by unfold maxLen;omega) (by decide) hR.2.1 fun A=>(r.low 3 _ rfl A).2,hR.1,fun a u x V I=>dg.rel (hR.2.2 a u x V I) r (bo w)⟩ ⟨rc,by rw[<-hG.len];exact r.jm (T:=(fun g=>g<J.heap.size)) (id:=4) (sz:=4) (m:=rc.length) rfl hgf (by unfold maxLen;omega) (by decide) hG.one fun A=>(r.low 4 _ rfl A).2,hG.len,fun a G x V I=>(ir.rel hG r (bo w)).at_ a G x V I⟩ (by rw[fW,dY,aK,aK]) hSl (by omega) (by rw[dY,aK];omega) hredB (by decide)).mono fun _ _ ⟨v2,e1,e2,e3⟩=>⟨v2,e1,e2,by
  rcases e3 with⟨V,_⟩|⟨x2,vx,V,I,K⟩
  ·rw[PB]at V;cases V
  ·rw[PB]at V;injection V with V;subst V;exact⟨vx,I,K⟩⟩) ?_)
 rintro O QY v13 RR r Z LF ⟨vc,rfl,A⟩;replace L:=L.tr LF;have NL:∀g,(Value.slice ax f.cols cx).ownBlock=some g->g<QY.heap.size:=fun g e=>Rel.old r (bo w) g (hX.new g e);replace hX:=hX.bu (E:=(QY.heap.size,RR.heap.size)::iv) r (bo w) Z fun x F=>aB _ F;replace hK:=fG.bu (E:=(QY.heap.size,RR.heap.size)::iv) hK r (bo w) Z fun x F=>aB _ F;have hC:=cF.bw A.c fun g R=>Bs.solved r NL (fun _ h=>h) R;clear r Z LF NL;generalize (QY.heap.size,RR.heap.size)::iv=iv13 at*
 clear A hR hG hL;obtain⟨ac,cc,rfl,-,-⟩:=eE.shape hC;rw[Lo]
 refine⟨Nat×World×Iv,fun z=>⟨[(7,sV ax f.cols cx),(19,.o (.v (.slice ac (cH (cK f) f.cols).length cc))),(87,.o (.v (.slice ak (cH (cK f) f.cols).length ck))),(88,.o (.v (.int .i64 (cH (cK f) f.cols).length))),(89,iN z.1)],[],0,z.2.2,z.2.1⟩,fun z=>(cH (cK f) f.cols).length-z.1,
  fun z=>z.1<=(cH (cK f) f.cols).length/\dO w.heap.size w z.2.1/\dV z.2.1 FF w.heap.size z.2.2 (.slice ax f.cols cx) f.cols (j6 (cH (cK f) f.cols) c x0 z.1)/\cQ z.2.1 (Bs FF w.heap.size z.2.2 (.slice ax f.cols cx)) (.slice ak (cH (cK f) f.cols).length ck) (cH (cK f) f.cols)/\cF z.2.1 (Bs FF w.heap.size z.2.2 (.slice ax f.cols cx)) (.slice ac (cH (cK f) f.cols).length cc) c,?_,?_⟩
 ·intro O J D;exact⟨(0,J,_),⟨aP _,L.tr D.cG,hX.rel D (bo w),fG.rel hK D (bo w),by have:=dg.rel hC D (bo w);rw[Lo]at this;exact this⟩,Sub.gn [] D⟩
 clear L hX hK hC;rintro⟨i,w13,iv⟩ ⟨N,L,hX,hK,hC⟩;dsimp only at N L hX hK hC ⊢;refine ct.mk ?_ ?_<;>intro Kp
 ·have Kp:i<(cH (cK f) f.cols).length:=by have:=aL Kp;omega
  obtain⟨s,hs⟩:∃s,(cH (cK f) f.cols)[i]? =some s:=⟨_,aA Kp⟩
  have NT:s.length=f.cols:=hKl s (aD hs);have hsr:=hKr s (aD hs);obtain⟨ci,hci⟩:∃q,c[i]? =some q:=⟨_,aA (by omega)⟩
  have hcir:=Ok ci (aD hci);obtain⟨y0,Nt⟩:∃y,j6 (cH (cK f) f.cols) c x0 i=y:=⟨_,rfl⟩
  have hy0l:y0.length=f.cols:=by rw[<-Nt,o7,hx0l]
  have hy0r:∀q∈y0,rl q<=75000:=fun q hq=>by
   rw[<-Nt]at hq;have V:=BZ (a:=26) (b:=1927) RO (fun r hr q hq=>by have:=hKr r hr q hq;omega) Ok i q hq;have I:i*(2*1927+5)<=18*(2*1927+5):=Nat.mul_le_mul_right _ (by omega);omega
  have hnextA:j6 (cH (cK f) f.cols) c x0 (i+1)=y0.mapIdx fun k q=>q+ci*s.getD k 0:=by rw[j6,Nt,getD_some hci,getD_some (d:=[]) hs]
  rw[Nt]at hX;obtain⟨adm3,um,ham3,Lj,km3,kn3⟩:=dZ.load hK hs;obtain⟨as3,cs3,rfl,-,-⟩:=eE.shape Lj;refine⟨adm3,ham3,by omega,.slice as3 s.length cs3,fun O J r=>?_,?_⟩
  ·rw[aG,cA (w:=w13) (Y:=J) (by rw[dP];exact Rel.same r (bo w) km3.1)];exact kn3
  rw[NT]
  refine⟨Nat×World×Iv,fun z=>⟨[(7,sV ax f.cols cx),(19,.o (.v (.slice ac (cH (cK f) f.cols).length cc))),(87,.o (.v (.slice ak (cH (cK f) f.cols).length ck))),(88,.o (.v (.int .i64 (cH (cK f) f.cols).length))),(89,iN i),(20,iN i),(94,sV as3 f.cols cs3),(95,iZ f.cols),(96,iN z.1)],[],0,z.2.2,z.2.1⟩,fun z=>f.cols-z.1,
   fun z=>z.1<=f.cols/\dO w.heap.size w z.2.1/\dV z.2.1 FF w.heap.size z.2.2 (.slice ax f.cols cx) f.cols ((fq z.1 (fun k q=>q+ci*s.getD k 0) y0))/\cQ z.2.1 (Bs FF w.heap.size z.2.2 (.slice ax f.cols cx)) (.slice ak (cH (cK f) f.cols).length ck) (cH (cK f) f.cols)/\cF z.2.1 (Bs FF w.heap.size z.2.2 (.slice ax f.cols cx)) (.slice ac (cH (cK f) f.cols).length cc) c/\cF z.2.1 (Bs FF w.heap.size z.2.2 (.slice ax f.cols cx)) (.slice as3 f.cols cs3) s,?_,?_⟩
  ·intro O J D;exact⟨(0,J,_),⟨aP _,L.tr D.cG,by dsimp only;rw[qA];exact hX.rel D (bo w),fG.rel hK D (bo w),dg.rel hC D (bo w),by have:=dg.rel Lj D (bo w);rw[NT]at this;exact this⟩,Sub.gn [] D⟩
  clear L hX hK hC Lj;rintro⟨k,w14,iv⟩ ⟨W,L,hX,hK,hC,Lj⟩;dsimp only at W L hX hK hC Lj ⊢;refine ct.mk ?_ ?_<;>intro Ks
  ·have Ks:k<f.cols:=by have:=aL Ks;omega
   obtain⟨gx,rfl⟩:=hX.at (by omega);obtain⟨q,hq⟩:∃q,s[k]? =some q:=⟨_,aA (by omega)⟩
   obtain⟨y,hy⟩:∃q,y0[k]? =some q:=⟨_,aA (by omega)⟩
   have hyu:=wW (f:=fun k q=>q+ci*s.getD k 0) hy;have hqr:=hsr q (aD hq);have hyr:=hy0r y (aD hy);obtain⟨adq,csq,Om,Lf,_,hlq⟩:=eE.load Lj hq;obtain⟨q0,q1,q2,q3,q4,q5,q6,q7,rfl,Lf⟩:=Lf;obtain⟨ady,csy,Rt,Ox,_,NQ⟩:=eE.load hX.c hyu;obtain⟨y0',y1,y2,y3,y4,y5,y6,y7,rfl,Ox⟩:=Ox;obtain⟨adc,csc,SB,hFc,_,OS⟩:=eE.load hC hci;obtain⟨c0,c1,c2,c3,c4,c5,c6,c7,rfl,hFc⟩:=hFc;refine⟨adq,Om,by omega,[.bool q0,.slice q1 q2 q3,.bool q4,.slice q5 q6 q7],rfl,fun O J r j u hu=>?_,?_⟩
   ·obtain⟨k1,k2⟩:=hlq j u hu;rw[aG,cA (w:=w14) (Y:=J) (by rw[dP,dP];exact Rel.same r (bo w) k1.1)];exact k2
   refine cC hτ eG [.x 0,.x 1,.x 2,.x 3,.x 4,.x 5,.x 6,.x 7,.x 8,.x 9,.x 10,.x 11,.x 12,.x 13,.x 14] (by kernel_rfl) (by kernel_rfl) ?_;refine⟨ady,Rt,by omega,[.bool y0',.slice y1 y2 y3,.bool y4,.slice y5 y6 y7],rfl,fun O J r j u hu=>?_,?_⟩
   ·obtain⟨k1,k2⟩:=NQ j u hu;rw[aG,cA (w:=w14) (Y:=J) (by rw[dP,dP];exact Rel.same r (bo w) k1)];exact k2
   refine⟨adc,SB,by omega,[.bool c0,.slice c1 c2 c3,.bool c4,.slice c5 c6 c7],rfl,fun O J r j u hu=>?_,?_⟩
   ·obtain⟨k1,k2⟩:=OS j u hu;rw[aG,cA (w:=w14) (Y:=J) (by rw[dP,dP];exact Rel.same r (bo w) k1.1)];exact k2
   refine bz (Id:=fun _ J v Y=>cI Y (Nf J Y) v (ci*q)) (fun O J r=>wV (S:=Cf w iv) (Rel.old r (bo w)) ((cI.l (kO.cv (kO.rel hFc r (bo w))) (by omega)).v) ((cI.l (kO.cv (kO.rel Lf r (bo w))) (by omega)).v)) ?_;rintro O PF v15 Ps r Z LF A;replace L:=L.tr LF;have NL:∀g,(Value.slice (some ⟨gx,0,none⟩) f.cols cx).ownBlock=some g->g<PF.heap.size:=fun g e=>Rel.old r (bo w) g (hX.new g e);replace hX:=hX.bu (E:=(PF.heap.size,Ps.heap.size)::iv) r (bo w) Z fun x F=>aB _ F;replace hK:=fG.bu (E:=(PF.heap.size,Ps.heap.size)::iv) hK r (bo w) Z fun x F=>aB _ F;replace hC:=dg.bu (E:=(PF.heap.size,Ps.heap.size)::iv) hC r (bo w) Z fun x F=>aB _ F;replace Lj:=dg.bu (E:=(PF.heap.size,Ps.heap.size)::iv) Lj r (bo w) Z fun x F=>aB _ F;replace Ox:=cI.bu (E:=(PF.heap.size,Ps.heap.size)::iv) Ox r (bo w) Z fun x F=>aB _ F;have hm:=kO.fresh (S:=FF) (v:=(.slice (some ⟨gx,0,none⟩) f.cols cx)) A r NL;clear r Z LF NL A;generalize (PF.heap.size,Ps.heap.size)::iv=Pt at*
   obtain⟨J0,J1,J2,J3,J4,J5,J6,J7,rfl⟩:=hm.shape;refine bz (Id:=fun _ J v Y=>cI Y (Nf J Y) v (y+ci*q)) (fun O J r=>zZ (S:=Cf w Pt) (Rel.old r (bo w)) ((cI.l (cI.rel Ox r (bo w)) (by omega)).v) ((cI.l (kO.cv (kO.rel hm r (bo w))) (by have:=jz ci q;omega)).v)) ?_;rintro O Pu v16 QZ r Z LF A;replace L:=L.tr LF;have NL:∀g,(Value.slice (some ⟨gx,0,none⟩) f.cols cx).ownBlock=some g->g<Pu.heap.size:=fun g e=>Rel.old r (bo w) g (hX.new g e);replace hX:=hX.bu (E:=(Pu.heap.size,QZ.heap.size)::Pt) r (bo w) Z fun x F=>aB _ F;replace hK:=fG.bu (E:=(Pu.heap.size,QZ.heap.size)::Pt) hK r (bo w) Z fun x F=>aB _ F;replace hC:=dg.bu (E:=(Pu.heap.size,QZ.heap.size)::Pt) hC r (bo w) Z fun x F=>aB _ F;replace Lj:=dg.bu (E:=(Pu.heap.size,QZ.heap.size)::Pt) Lj r (bo w) Z fun x F=>aB _ F;clear Ox;clear hm;have hd:=kO.fresh (S:=FF) (v:=(.slice (some ⟨gx,0,none⟩) f.cols cx)) A r NL;clear r Z LF NL A;generalize (Pu.heap.size,QZ.heap.size)::Pt=iv16 at*
   obtain⟨K0,K1,K2,K3,K4,K5,K6,K7,rfl⟩:=hd.shape;refine⟨⟨gx,0,none⟩,rfl,by omega,?_⟩;intro O J r;obtain⟨g,R,V,I,K,h4,h5⟩:=(hX.rel r (bo w)).store (j:=k) Ks (hd.br (Bs.same r (bo w))) r (bo w);injection R with R;injection R with R;subst R;refine⟨V,I,K,fun w5 OL=>?_⟩;obtain⟨k1,k2,k3⟩:=h5 w5 OL;have Ln:dO w.heap.size w w5:=(L.tr r.cG).tr (dO.grown k2 (fun g e=>by injection e with e;subst e;exact h4.elim (fun h=>h.elim) fun h=>h.1) r.bs);have Nl:=fG.kept hK r (bo w) k2;have Rn:=dg.kept hC r (bo w) k2;have NJ:=dg.kept Lj r (bo w) k2;have Kz:(fq k (fun k q=>q+ci*s.getD k 0) y0).set k (y+ci*q)=(fq (k+1) (fun k q=>q+ci*s.getD k 0) y0):=by rw[<-mb hy,getD_some hq]
   rw[Kz]at k1;clear hX hK hC Lj L V I K h4 h5 OL k2 k3 r hd;refine⟨((k+1:Nat):Int),wo,?_⟩;intro In w6 D;exact⟨(k+1,w6,_),⟨Ks,Ln.tr D.cG,k1.rel D (bo w),fG.rel Nl D (bo w),dg.rel Rn D (bo w),dg.rel NJ D (bo w)⟩,Sub.gn [] D,by dsimp only;omega⟩
  have Ks:k=f.cols:=by have:=aI Ks;omega
  rw[Ks,<-hy0l,sP,<-hnextA,hy0l]at hX;refine⟨((i+1:Nat):Int),wo,?_⟩;intro In w6 D;exact⟨(i+1,w6,_),⟨Kp,L.tr D.cG,hX.rel D (bo w),fG.rel hK D (bo w),dg.rel hC D (bo w)⟩,Sub.gn [] D,by dsimp only;omega⟩
 have Kp:i=(cH (cK f) f.cols).length:=by have:=aI Kp;omega
 rw[Kp]at hX;exact rtn L fun I' we re=>.inr ⟨_,_,hfrc,rfl,cF.out hX.c re (bo w)⟩
end Go.Ex
namespace Go.Ex
open Go Go.Sx Go.Proofs
def Gs(g:Nat):Iv->Iv
 |[]=>[]
 |(lo,N)::iv=>(lo,min N g)::(max lo (g+1),N)::Gs g iv
def Ej(v:Value)(iv:Iv):Iv:=match v.ownBlock with
 |some g=>Gs g iv
 |none=>iv
theorem ye{g lo N:Nat}:∀{iv:Iv},(lo,N)∈Gs g iv->∃a b,(a,b)∈iv/\a<=lo/\N<=b/\¬(lo<=g/\g<N)
 |[],h=>by cases h
 |(x,y)::iv,h=>by
  rcases List.mem_cons.1 h with h|h
  ·injection h with V I;exact⟨x,y,aH,by omega,by omega,by omega⟩
  ·rcases List.mem_cons.1 h with h|h
   ·injection h with V I;exact⟨x,y,aH,by omega,by omega,by omega⟩
   ·obtain⟨a,b,V,I⟩:=ye h;exact⟨a,b,aB _ V,I⟩
theorem wy{v:Value}{iv:Iv}{lo N:Nat}(h:(lo,N)∈Ej v iv):∃a b,(a,b)∈iv/\a<=lo/\N<=b/\∀g,v.ownBlock=some g->¬(lo<=g/\g<N):=by
 unfold Ej at h
 cases e:v.ownBlock with
 |none=>rw[e]at h;exact⟨lo,N,h,aE _,aE _,fun g e2=>by cases e2⟩
 |some g=>
  rw[e]at h;obtain⟨a,b,V,I,K,h4⟩:=ye h;exact⟨a,b,V,I,K,fun g2 e2=>by injection e2 with e2;subst e2;exact h4⟩
end Go.Ex
namespace Go.Sx
open Go Go.Ex Go.Proofs
variable{xs:List Value}{O:Nat->Sx.cd}
theorem Rel.FB{H:Hp}{nx:Nat}{iv:Iv}{B:Nat}{w J:World}(r:Rel H nx iv B w O J){e sz n:Nat}{v:Value}(Kr:J.ownsRow 0 e sz v n xs)(LR:∀g,v.ownBlock=some g->B<=g)
  (Kq:∀g,v.ownBlock=some g->∀id b,cO H id=some b->(O id).nil=false->(O id).g≠g):
  ∃u:Sx.cd,Rel ((nx,.vec e sz xs)::H) (nx+1) (Ej v iv) B J (Sx.fI O nx u) J/\(At.w nx n).den (Sx.fI O nx u)=v:=by
 have r0:Rel H nx (Ej v iv) B J O J:=Rel.mk' rfl rfl rfl (aE _) (by have:=r.base;have:=r.size;omega)
  (fun lo N hm=>by obtain⟨a,b,V,I,K,_⟩:=wy hm;have:=r.oR a b V;have:=r.size;omega) r.keys (fun j c h=>r.fits h) (fun j c h=>r.scopd h) r.inj r.low (fun _ _ _=>rfl)
  (fun lo N hm id b h A hh=>by obtain⟨a,c,V,I,K,_⟩:=wy hm;exact r.ie a c V id b h A ⟨by omega,by omega⟩)
 have hcut:∀lo N,(lo,N)∈Ej v iv->∀g,v.ownBlock=some g->¬(lo<=g/\g<N):=fun lo N hm=>by obtain⟨a,c,V,I,K,h4⟩:=wy hm;exact h4
 obtain⟨V,I⟩:=Kr;rcases I with⟨rfl,rfl⟩|⟨g,cap,cur,rfl,_,hc,A,hm,hs,ht⟩
 ·have:xs=[]:=List.eq_nil_of_length_eq_zero (by rw[V,Nat.zero_mul]);subst this;exact⟨⟨0,0,true⟩,r0.push (.vec e sz []) ⟨0,0,true⟩ rfl rfl rfl (aE _) (fun _ _=>rfl) (fun h=>by cases h) (.inl ⟨rfl,rfl⟩) trivial,by simp[At.den,Sx.fI]⟩
 ·generalize Ej (.slice (some ⟨g,0,none⟩) n cap) iv=Kx at*
  have Kq:=Kq g rfl;have LR:=LR g rfl;have hgl:g<J.heap.size:=(aW.1 hc).1;have LG:∀id b,cO H id=some b->id≠nx:=fun id b h=>Nat.ne_of_lt (r.keys id b h);have Lg:∀id b,cO H id=some b->Sx.fI O nx ⟨g,cap,false⟩ id=O id:=fun id b h=>by simp[Sx.fI,LG id b h]
  have Rk:xs++cur.toList.drop (n*sz)=cur.toList:=by rw[<-ht,List.take_append_drop]
  refine⟨⟨g,cap,false⟩,Rel.mk' rfl rfl rfl (aE _) r0.base r0.oR ?_ ?_ ?_ ?_ ?_ (fun _ _ _=>rfl) ?_,by simp[At.den,Sx.fI]⟩
  ·intro id b' h;rw[cL]at h;split at h
   ·omega
   ·have:=r.keys id b' h;omega
  ·intro id b' h;rw[cL]at h;split at h
   ·rename_i e2;subst e2;injection h with h;subst h;rw[Sx.dM];exact .inr ⟨rfl,cur.toList.drop (n*sz),by rw[Rk];simpa using hc,by rw[Rk];simpa using hs,hm⟩
   ·rw[Lg id b' h];exact ix.fg (r.fits h) Sx.ew (r.scopd h) (fun _ _=>rfl)
  ·intro id b' h;rw[cL]at h;split at h
   ·injection h with h;subst h;exact trivial
   ·exact ix.gT (by omega) (r.scopd h)
  ·intro id id' b1 b2 V I d1 d2 n1 n2 e2;rw[cL]at V I;split at V<;>split at I
   ·omega
   ·rename_i e1 e3;subst e1;rw[Sx.dM]at e2 n1;rw[Lg id' b2 I]at e2 n2;exact absurd e2.symm (Kq id' b2 I n2)
   ·rename_i e1 e3;subst e3;rw[Sx.dM]at e2 n2;rw[Lg id b1 V]at e2 n1;exact absurd e2 (Kq id b1 V n1)
   ·rw[Lg id b1 V]at e2 n1;rw[Lg id' b2 I]at e2 n2;exact r.inj id id' b1 b2 V I d1 d2 n1 n2 e2
  ·intro id b' h n1;rw[cL]at h;split at h
   ·rename_i e2;subst e2;rw[Sx.dM];exact⟨LR,hgl⟩
   ·rw[Lg id b' h]at n1 ⊢;exact r.low id b' h n1
  ·intro lo N SH id b' h n1;rw[cL]at h;split at h
   ·rename_i e2;subst e2;rw[Sx.dM];exact hcut lo N SH g rfl
   ·rw[Lg id b' h]at n1 ⊢;exact r0.ie lo N SH id b' h n1
end Go.Sx
namespace Go.Ex
open Go Go.Sx Go.Proofs
end Go.Ex
namespace Go.Ex
open Go Go.Sx Go.Proofs
variable{l:List Ld}{S:Nat->Prop}{f:eS}
theorem sW(Kt:gP f.nodes.length l):Bl (cz (gg f l) (-1)):=fun t=>by
 rcases aO t (cz (gg f l) (-1)).length with h|h
 ·have I:t<(gg f l).length:=by rw[cz,aK]at h;exact h
  have K:(gg f l)[t]∈gg f l:=aV I;rw[getD_some (show (cz (gg f l) (-1))[t]? =some ((gg f l)[t]* -1) by rw[cz,aM,aA I];rfl)];obtain⟨z,hz,LQ⟩:=aT.1 K;have hb:=yd Kt l.length (aE _) z hz;have hl:=Kt.len;rw[<-LQ,show(z:Rat)* -1=((-z:Int):Rat) by rw[Rat.intCast_neg];grind];exact Ib.int (by omega)
 ·rw[gV h];exact Ib.zero _
abbrev Az(f:eS):Nat->Rat:=fun t=>(cX f).getD t 0
set_option maxRecDepth 8000 in
theorem wz{w:World}{vn vb vs vl:Value}(X:Old S w)(hf:dN w S vn vb vs f)(hl:dQ w S vl l)(hsm:eB f=0->uF f):
  eF PG F'.nc #[.agg #[vn,vb,vs],vl] w (eM w fun v' Y=>(gZ f l≠0/\v'= .tuple #[.slice none 0 0,.int .i64 (gZ f l)])\/(gZ f l=0/\((ff (cK f) (cz (gg f l) (-1)) f.cols=none/\v'= .tuple #[.slice none 0 0,.int .i64 17])\/∃x vx,gz (cK f) f.cols (Az f) (cz (gg f l) (-1)) x/\v'= .tuple #[vx,.int .i64 0]/\cF Y (Nf w Y) vx x))):=by
 have L:=bR w;obtain⟨an,cn,ab,cb,aq,cq,rfl,rfl,rfl,Nd,OK,PW⟩:=hf.shape;obtain⟨al,cl,rfl,Lo,ND⟩:=hl.shape;obtain⟨e0,EE⟩:∃e,gZ f l=e:=⟨_,rfl⟩
 refine qn (by simp) ?_;refine bp (cE L (fun _ J v Y=>v= .int .i64 e0) (fun O J r=>(wm (oS X r) (hf.br (kS L r X)) (hl.br (kS L r X))).mono fun _ _ ⟨v2,e1,e2,e3⟩=>⟨v2,e1,e2,by rw[e3,EE]⟩) ?_);rintro O _ _ _ LC r Z L h_ rfl;refine ct.mk ?_ ?_<;>intro Z
 ·have Z:e0≠0:=by simpa using Z
  exact rtn L fun I' we re=>.inl ⟨by rw[EE];exact Z,by rw[EE];rfl⟩
 have Z:e0=0:=by simpa using Z
 have Ol:gZ f l=0:=by rw[EE,Z]
 obtain⟨Mu,Ni⟩:=mf Ol;have Lb:=hsm Mu;have Nx:=Lb.toFrS;have Ni:=uK Ni;have hc18:=Nx.IU;have hr12:=Nx.JA;have Rp:=fE f;have hlen:=fH f;have hn4:=Nx.n4;have Kt:=uD Mu;have RS:=jW f l;have Mt:f.cols=f.bars.length+f.cJ.length:=rfl;refine cC hτ eG [.x 0,.x 1,.x 2,.x 3,.x 4,.x 5,.x 6,.x 7,.x 8,.x 9] (by kernel_rfl) (by kernel_rfl) ?_;refine cE L (fun _ J v Y=>cF Y (Nf J Y) v (gg f l)/\∀q∈gg f l,rl q<=1) (fun O J r=>(yY (oS X r) (hl.br (kS L r X)) Nx.n Ni rfl rfl).mono fun _ _ ⟨v2,e1,e2,e3,e4⟩=>⟨v2,e1,e2,cF.bw e3.c fun g R=>R.new,e4⟩) ?_;rintro O _ _ _ Kx r Z L h_ ⟨A,hvq⟩;have hP:=cF.df (S:=FF) A r.bs (mN h_);obtain⟨ap,cp,rfl,-,-⟩:=eE.shape hP;rw[RS];refine bz (Id:=fun _ J v Y=>(ff (cK f) (cz (gg f l) (-1)) f.cols=none/\v= .tuple #[.slice none 0 0,.bool false])\/∃x vx,gz (cK f) f.cols (Az f) (cz (gg f l) (-1)) x/\v= .tuple #[vx,.bool true]/\cF Y (Nf J Y) vx x) (fun O J r=>sU (S:=fun g=>S g\/Cf w Kx g) (fun g R=>R.elim (oS X r g) (Rel.old r (bo w) g)) (dN.bw (hf.br (kS L r X)) fun g R=>.inl R) Mu Lb (cF.bw (by have:=cF.rel hP r (bo w);rw[RS]at this;exact this) fun g R=>.inr R) RS (fun q hq=>by have:=hvq q hq;omega) (sW Ni)) ?_;rintro O M4 v3 MY r Z hb (⟨Of,rfl⟩|⟨x,vx,F,rfl,A⟩)
 ·replace L:=L.tr hb;exact rtn L fun I' we re=>.inr ⟨Ol,.inl ⟨Of,rfl⟩⟩
 replace L:=L.tr hb;have hX:=cF.df (S:=FF) A r.bs (iv:=(M4.heap.size,MY.heap.size)::Kx) aH;generalize (M4.heap.size,MY.heap.size)::Kx=ivx at*
 obtain⟨ax,cx,rfl,-,-⟩:=eE.shape hX;exact rtn L fun I' we re=>.inr ⟨Ol,.inr ⟨x,_,F,rfl,cF.out hX re (bo w)⟩⟩
end Go.Ex
namespace Go.Ex
section
variable{w:Nat->Rat}{e:Nat->Nat->Rat}{c:Nat->Rat}{d:Nat->Nat}{F' n:Nat}
end
section
variable{f:eS}{x y z:List Rat}
end
structure Sqr(n:Nat)(M:List (List Rat)):Prop where
 l:M.length=n
 w:gH n M
section
variable{f:eS}{x:List Rat}{M:List (List Rat)}
end
section
variable{f:eS}{x:List Rat}
end
end Go.Ex
namespace Go.Ex
open Go Go.Sx Go.Proofs
section
variable{f:eS}{x:List Rat}{M:List (List Rat)}
end
def Lq(S:Nat->Prop)(rv:List Value)(g:Nat):Prop:=S g/\∀v∈rv,v.ownBlock≠some g
structure SqM(w:World)(S:Nat->Prop)(rv:List Value)(n:Nat)(M:List (List Rat)):Prop where
 len:rv.length=M.length
 row:∀(i:Nat) v x,rv[i]? =some v->M[i]? =some x->gE w (Lq S rv) v n x
 wX:∀(i j:Nat) a b g,rv[i]? =some a->rv[j]? =some b->a.ownBlock=some g->b.ownBlock=some g->i=j
section
variable{S S':Nat->Prop}{H:Hp}{nx n:Nat}{iv E:Iv}{B:Nat}{w J Y:World}{O:Nat->Sx.cd}{rv:List Value}{M:List (List Rat)}
end
end Go.Ex
namespace Go.Ex
section
variable{f:eS}
end
end Go.Ex
namespace Go.Ex
open Go Go.Sx Go.Proofs
theorem Gt{f:eS}(h:eB f≠0\/f.nodes.length<=4/\f.bars.length<=6)(hb:∀b∈f.bars,rl b.2.2<=3)(hs:∀b∈f.cJ,rl b.2.2<=3)(h0:eB f=0):uF f:=
 ⟨JQ h h0,fun q hq=>by
  rcases bG.1 hq with h|h
  ·obtain⟨b,Mn,rfl⟩:=aT.1 h;exact hb b Mn
  ·obtain⟨b,Mn,rfl⟩:=aT.1 h;exact hs b Mn⟩
end Go.Ex
namespace Go.Ex
section
variable{f:eS}{b y s z:List Rat}{c:Rat}
end
end Go.Ex
namespace Go.Ex
open Go Go.Sx Go.Proofs
end Go.Ex
namespace Go.Ex
section
variable{M:List (List Rat)}{n:Nat}{fl p q x y u v:List Rat}
theorem vW(p:List Rat)(c:Rat)(i:Nat):(cz p c).getD i 0=p.getD i 0*c:=by
 rw[cz,List.getD,aM,List.getD]
 cases p[i]? with
 |none=>exact(bD c).symm
 |some a=>rfl
end
end Go.Ex
namespace Go.Ex
open Go Go.Sx Go.Proofs
variable{xs:List Value}{S:Nat->Prop}{O:Nat->Sx.cd}{v:Value}{w:World}
section
variable{f:eS}{x:List Rat}
end
section
variable{S:Nat->Prop}{H:Hp}{nx n:Nat}{iv E:Iv}{B:Nat}{w J Y:World}{O:Nat->Sx.cd}{rv:List Value}{M:List (List Rat)}
end
section
variable{H:Hp}{nx n m:Nat}{iv:Iv}{B:Nat}{w J Y:World}{O:Nat->Sx.cd}{rv:List Value}{M:List (List Rat)}{pl:List Int}
end
section
variable{S:Nat->Prop}{w:World}{v u:Value}{M:List (List Rat)}{b:List Rat}{n h0:Nat}
end
theorem ownsRow.seq{e sz n:Nat}(h:w.ownsRow 0 e sz v n xs)(Mq:∀u∈xs,u.oneCell'=true)(X:∀g,v.ownBlock=some g->S g):gi w S sz v xs n:=by
 rcases h.2 with⟨e,h0⟩|⟨g,cap,cur,e,_,hc,A,hm,hs,ht⟩
 ·have:xs=[]:=List.eq_nil_of_length_eq_zero (by rw[h.1,h0,Nat.zero_mul]);subst this;rw[e,h0];exact⟨aP _,by rw[Nat.zero_mul];rfl,by simp,none,0,rfl,aE _,fun j u h=>by cases h⟩
 ·subst e;exact⟨a9 A hm,h.1,Mq,_,cap,rfl,A,fun j u hu=>⟨_,rfl,X g rfl,h.cells (g:=g) rfl j u hu⟩⟩
theorem gi.src{sz k:Nat}(h:gi w S sz v xs k)(LL:0<sz):(∃c,v= .slice none 0 c/\k=0)\/∃ad c,v= .slice (some ad) k c/\∀(j:Nat) u,xs[j]? =some u->S ad.block/\w.cell? (ad.add j)=some u:=by
 obtain⟨_,hl,_,a,c,rfl,_,e3⟩:=h
 cases a with
 |none=>
  have h0:k=0:=by
   rcases bF k with h0|h0
   ·exact h0
   ·have:=Nat.mul_pos h0 LL;obtain⟨ad2,q1,_⟩:=e3 0 _ (aA (show 0<xs.length by omega))
    cases q1
  subst h0;exact .inl ⟨c,rfl,rfl⟩
 |some ad=>
  refine .inr ⟨ad,c,rfl,fun j u hu=>?_⟩;obtain⟨ad2,q1,q2,q3⟩:=e3 j u hu;injection q1 with q1;subst q1;exact⟨q2,q3⟩
theorem Gu{H:Hp}{nx:Nat}{iv:Iv}{B:Nat}{J Y:World}{v':Value}(r:Rel H nx iv B w O J)(Kq:∀g,v.ownBlock=some g->∀id b,cO H id=some b->(O id).nil=false->(O id).g≠g)(LL:J.heap.size<=Y.heap.size)(M7:∀g,v'.ownBlock=some g->g<Y.heap.size/\(v.ownBlock=some g\/g=J.heap.size)):
  ∀lo N,(lo,N)∈jY v'++iv->N<=Y.heap.size/\∀id b,cO H id=some b->(O id).nil=false->¬(lo<=(O id).g/\(O id).g<N):=fun lo N hm=>by
 rcases bG.1 hm with hm|hm
 ·obtain⟨R,rfl⟩:=og.1 hm;obtain⟨V,I⟩:=M7 _ R;refine⟨by omega,fun id c hc A Z=>?_⟩;rcases I with I|I
  ·exact Kq _ I id c hc A (by omega)
  ·have:=(r.low id c hc A).2;omega
 ·have:=r.oR lo N hm;have:=r.size;exact⟨by omega,fun id c hc A=>r.ie lo N hm id c hc A⟩
def IB:List Ld:=[(2,0,0,-12)]
end Go.Ex
namespace Go.Sx
open Go Go.Ex Go.Proofs
variable{vs:List Value}{O:Nat->Sx.cd}
theorem Sub.KX{B nx:Nat}{l:Env}{H H':Hp}{iv:Iv}{w J:World}{t:uY}(id fid p e sz n:Nat){ft:Nat}{G:List At}
  (LK:cO H id=some (.box e (vs.map At.v))) (hs:rS H H') (ho:yx id H'=true) (hf:cO H' fid=some (.box ft G)) (hp:G[p]? =some (.s id 0 n n)) (A:vs.length=n*sz) (hn1:n<=maxLen) (Nq:lj nx l) (r:Rel H nx iv B w O J)
  (h:∀If,Rel ((fid,.box ft (G.set p (.w nx n)))::(nx,.vec e sz vs)::H') (nx+1) iv B J If J->Sx.Sub B l (nx+1) If J t):Sx.Sub B l nx O J t:=by
 have Ql:=r.nn id _ LK (by intros;simp) (by simp);have La:=r.box id _ _ LK;have PI:(vs.map At.v).map (At.den O)=vs:=by
  rw[List.map_map];exact List.map_id _
 rw[PI]at La;have hidn:id<nx:=r.keys id _ LK;have r0:=r.free LK (by simp) Ql hs ho;have Kr:J.ownsRow 0 e sz (.slice (some ⟨(O id).g,0,none⟩) n n) n vs:=⟨A,.inr ⟨(O id).g,n,vs.toArray,rfl,aP _,La,aE _,hn1,by simpa using A,by rw[<-A];simp⟩⟩
 obtain⟨u,r1,L⟩:=r0.FB Kr (fun g R=>by injection R with R;subst R;exact(r.low id _ LK Ql).1) (fun g R j c hj Re Z=>by
  injection R with R;subst R;obtain⟨I,K⟩:=yx.get ho hj
  exact I (r.inj j id c _ (hs.get hj) LK K (by simp) Re Ql Z))
 have hug:u.nil=false/\u.g=(O id).g:=by
  simp only[At.den,Sx.dM]at L
  cases hu:u.nil with
  |true=>rw[hu]at L;cases L
  |false=>
   rw[hu]at L;injection L with V;injection V with V;injection V with V;exact⟨rfl,V⟩
 have Lg:∀j,j<nx->Sx.fI O nx u j=O j:=fun j hj=>(ew j hj).symm
 have r2:Rel ((nx,.vec e sz vs)::H') (nx+1) iv B J (Sx.fI O nx u) J:=Rel.mk' rfl rfl rfl (aE _) r1.base (fun lo N hm=>by have:=r.oR lo N hm;have:=r.size;omega) r1.keys (fun j c h=>r1.fits h) (fun j c h=>r1.scopd h) r1.inj r1.low (fun _ _ _=>rfl) (fun lo N hm j c hj Re=>by
  rw[cL]at hj;split at hj
  ·rename_i e2;subst e2;rw[Sx.dM,hug.2];exact r.ie lo N hm id _ LK Ql
  ·have hjx:=r.keys j c (hs.get hj);rw[Lg j hjx]at Re ⊢
   exact r.ie lo N hm j c (hs.get hj) Re)
 have hfx:fid≠nx:=Nat.ne_of_lt (r.keys fid _ (hs.get hf));have hf1:cO ((nx,.vec e sz vs)::H') fid=some (.box ft G):=by rw[cL,aF (fun h=>hfx h.symm)];exact hf
 have hnf:=r2.nn fid _ hf1 (by intros;simp) (by simp);have RL:=r2.box fid ft G hf1;have OE:(G.set p (.w nx n)).map (At.den (Sx.fI O nx u))=G.map (At.den (Sx.fI O nx u)):=by
  refine bJ fun j=>?_;rw[aM,aM];by_cases hj:p=j
  ·subst hj;rw[aR (aC.1 hp).1,hp,Option.map_some,Option.map_some,L];simp only[At.den,Lg id hidn]
  ·rw[aY hj]
 have D:=r2.store (b':=.box ft (G.set p (.w nx n))) (H':=(fid,.box ft (G.set p (.w nx n)))::(nx,.vec e sz vs)::H') (Y:=J) hf1 (by simp) hnf (fun j=>by
  rw[cL];by_cases hj:fid=j
  ·subst hj;rw[if_pos rfl]
  ·rw[aF hj,aF (fun h=>hj h.symm)]) rfl rfl rfl rfl (fun _ _=>rfl) ⟨hnf,by rw[OE];exact RL⟩ (fun x F=>by
   rcases bB F with F|rfl
   ·exact r2.Eu fid ft G hf1 x F
   ·exact bV nx)
 obtain⟨GE,V,I⟩:=h _ D;refine⟨GE,V,fun x v hv=>?_⟩;obtain⟨K,v0,h4,h5⟩:=I x v hv;refine⟨K,v0,h4,?_⟩;rw[<-h5];exact SV.iQ (fun id LK=>ew id LK) (Nq.get _ _ h4)
end Go.Sx
namespace Go.Ex
open Go Go.Sx Go.Proofs
end Go.Ex
namespace Go.Ex
open Go Go.Sx Go.Proofs
variable{F9:List (List Rat)}{U:List (List Value)}{l:List Ld}{qs x:List Rat}{G nv:List Value}{a g j most o off:Nat}{S S':Nat->Prop}{O:Nat->Sx.cd}{a2:Option Addr}{q:Rat×Rat}{v vb vn vs:Value}{w:World}{f:eS}
def IF(n k:Nat):List Value:=[.int .i64 ((n:Nat):Int),.int .i64 ((k:Nat):Int),.bool false,.slice none 0 0,.bool false,.slice none 0 0]
def kQ:Nat->List (List Value)
 |0=>[IF 2 1]
 |k+1=>kQ k++[IF 0 k,IF 1 k]
theorem xF:∀k,(kQ k).length=2*k+1
 |0=>rfl
 |k+1=>by rw[kQ,List.length_append,xF k];simp;omega
theorem xG:∀k,∀G∈kQ k,G.length=6
 |0,G,h=>by simp[kQ]at h;subst h;rfl
 |k+1,G,h=>by
  rw[kQ]at h;rcases bG.1 h with h|h
  ·exact xG k G h
  ·simp at h;rcases h with rfl|rfl<;>rfl
theorem B6(k:Nat):(kQ k).flatten++[.int .i64 0,.int .i64 (k:Int),.bool false,.slice none 0 0,.bool false,.slice none 0 0,.int .i64 1,.int .i64 (k:Int),.bool false,.slice none 0 0,.bool false,.slice none 0 0]=(kQ (k+1)).flatten:=by
 rw[kQ,List.flatten_append];rfl
def zm:eS:=⟨[(0,0,0),(0,0,4),(3,0,0)],[(0,2,1),(1,2,1)],[(2,1,0),(0,0,0),(1,0,0),(0,1,0),(1,1,0),(0,2,0),(1,2,0)]⟩
def IG:List Int:=[-3,3,0,9,-9,0,0,0,12]
theorem Dl:gZ zm IB=0:=by decide +kernel
theorem I7:uF zm:=Gt (.inr ⟨by decide,by decide⟩) (by decide +kernel) (by decide +kernel) (mf Dl).1
theorem Dm:gz (cK zm) zm.cols (Az zm) (cz (gg zm IB) (-1)) (dh IG):=⟨by decide +kernel,by decide +kernel,by decide +kernel⟩
theorem Cs(w:World):eF PG F'.top_bracket #[] w (eM w fun v' Y=>∃vn vb vs,v'= .agg #[vn,vb,vs]/\dN Y (Nf w Y) vn vb vs zm):=by
 have L:=bR w;refine wK (by simp) ?_;conv=>whnf
 refine bp (cE L (fun _ J v Y=>cI Y (Nf J Y) v ((1:Int):Rat)) (fun O J r=>xH 1 J (by decide)) ?_);rintro O _ _ _ LC r Z L h_ A;have hd:=A.df (S:=FF) r.bs (mN h_);clear r;obtain⟨A0,A1,A2,A3,A4,A5,A6,A7,rfl⟩:=hd.shape;conv=>whnf
 refine⟨Nat×World,fun z=>⟨[(0,pP 0 0),(2,pP 5 0),(3,iN z.1)],[(5,.box T.Frame [.s 2 0 3 3,.s 3 0 2 2,.w 6 (2*(z.1)+1)]),(6,.vec T.zK 6 (kQ (z.1)).flatten),(3,.box T.Jy [.v (.int .i64 0),.v (.int .i64 2),.v (.bool A0),.v (.slice A1 A2 A3),.v (.bool A4),.v (.slice A5 A6 A7),.v (.int .i64 1),.v (.int .i64 2),.v (.bool A0),.v (.slice A1 A2 A3),.v (.bool A4),.v (.slice A5 A6 A7)]),(2,.box T.Node [.v (.int .i64 0),.v (.int .i64 0),.v (.int .i64 0),.v (.int .i64 0),.v (.int .i64 0),.v (.int .i64 4),.v (.int .i64 3),.v (.int .i64 0),.v (.int .i64 0)]),(0,.box T.Frame [.v (.slice none 0 0),.v (.slice none 0 0),.v (.slice none 0 0)])],7,LC,z.2⟩,fun z=>3-z.1,
  fun z=>z.1<=3/\dO w.heap.size w z.2/\cI z.2 (Cf w LC) (.agg #[.bool A0,.slice A1 A2 A3,.bool A4,.slice A5 A6 A7]) ((1:Int):Rat),?_,?_⟩
 ·intro O J r;exact⟨(0,J),⟨aP _,L.tr r.cG,hd.rel r (bo w)⟩,Sub.KX (H':=[(5,.box T.Frame [.s 2 0 3 3,.s 3 0 2 2,.s 4 0 1 1]),(3,.box T.Jy [.v (.int .i64 0),.v (.int .i64 2),.v (.bool A0),.v (.slice A1 A2 A3),.v (.bool A4),.v (.slice A5 A6 A7),.v (.int .i64 1),.v (.int .i64 2),.v (.bool A0),.v (.slice A1 A2 A3),.v (.bool A4),.v (.slice A5 A6 A7)]),(2,.box T.Node [.v (.int .i64 0),.v (.int .i64 0),.v (.int .i64 0),.v (.int .i64 0),.v (.int .i64 0),.v (.int .i64 4),.v (.int .i64 3),.v (.int .i64 0),.v (.int .i64 0)]),(0,.box T.Frame [.v (.slice none 0 0),.v (.slice none 0 0),.v (.slice none 0 0)])]) 4 5 2 T.zK 6 1 (vs:=IF 2 1) rfl ⟨rfl,rfl,rfl,rfl,trivial⟩ rfl rfl rfl rfl (by decide) (by simp[lj,SV.sc,At.sc,ij]) r fun If r1=>Sub.gn [] r1⟩
 clear L hd;rintro⟨k,w1⟩ ⟨W,L,hd⟩;dsimp only at W L hd ⊢;conv=>whnf
 refine ct.mk ?_ ?_<;>intro Ks
 ·have Ks:k<3:=by have:=aL Ks;omega
  have hs:=B6 k;have LN:=gj (xG k);have NT:=xF k;conv=>whnf
  refine .inl ?_;conv=>whnf
  refine⟨by omega,by omega,by unfold maxLen;omega,?_⟩;conv=>whnf
  refine⟨((k+1:Nat):Int),wo,?_⟩;conv=>whnf
  intro In w6 D;exact⟨(k+1,w6),⟨Ks,L.tr D.cG,hd.rel D (bo w)⟩,Sub.gn [(6,8)] D ⟨by dsimp only;rw[show 2*(k+1)+1=2*k+1+2 by omega];rfl,by dsimp only;rw[<-hs];rfl,rfl,rfl,rfl,trivial⟩,by dsimp only;omega⟩
 have Ks:k=3:=by have:=aI Ks;omega
 subst Ks;conv=>whnf
 intro I' we re;have hN:∀{id:Nat} {bk:ix},cO _ id=some bk->(I' id).nil=false->Nf w we (I' id).g:=fun h A=>by
  obtain⟨V,I⟩:=re.low _ _ h A;exact .inr ⟨V,I⟩
 have hR:=hd.out re (bo w);have hL:eP we (Nf w we) (.agg #[.bool A0,.slice A1 A2 A3,.bool A4,.slice A5 A6 A7]) 1:=hR.l (by decide);refine⟨_,rfl,L.tr re.cG,_,_,_,rfl,?_,?_,?_⟩
 ·refine⟨[[.int .i64 0,.int .i64 0,.int .i64 0],[.int .i64 0,.int .i64 0,.int .i64 4],[.int .i64 3,.int .i64 0,.int .i64 0]],(re.sX (id:=2) (sz:=3) (n:=3) rfl rfl (by decide) (by repeat' first|refine List.forall_mem_cons.2 ⟨rfl,?_⟩|exact fun u hu=>absurd hu List.not_mem_nil)).bw fun g R=>by subst R;exact hN (id:=2) rfl (re.nn 2 _ rfl (by intros;simp) (by simp)),rfl,by simp,fun j G x V I=>?_⟩;rcases j with _|_|_|j
  ·cases V;cases I;rfl
  ·cases V;cases I;rfl
  ·cases V;cases I;rfl
  ·cases I
 ·refine⟨[[.int .i64 0,.int .i64 2,.bool A0,.slice A1 A2 A3,.bool A4,.slice A5 A6 A7],[.int .i64 1,.int .i64 2,.bool A0,.slice A1 A2 A3,.bool A4,.slice A5 A6 A7]],(re.sX (id:=3) (sz:=6) (n:=2) rfl rfl (by decide) (by repeat' first|refine List.forall_mem_cons.2 ⟨rfl,?_⟩|exact fun u hu=>absurd hu List.not_mem_nil)).bw fun g R=>by subst R;exact hN (id:=3) rfl (re.nn 3 _ rfl (by intros;simp) (by simp)),rfl,by simp,fun j G x V I=>?_⟩;rcases j with _|_|j
  ·cases V;cases I;exact⟨_,_,_,_,_,_,_,_,rfl,hL⟩
  ·cases V;cases I;exact⟨_,_,_,_,_,_,_,_,rfl,hL⟩
  ·cases I
 ·refine⟨kQ 3,?_,rfl,by decide,fun j G x V I=>?_⟩
  ·have h5:=re.lB (id:=6) (sz:=6) (m:=7) rfl (by decide) (by decide) (by decide) (by decide);exact h5.bw fun g R=>.inr R
  ·rcases j with _|_|_|_|_|_|_|j
   ·cases V;cases I;exact⟨_,_,_,_,_,_,_,_,rfl,eP.zeroV⟩
   ·cases V;cases I;exact⟨_,_,_,_,_,_,_,_,rfl,eP.zeroV⟩
   ·cases V;cases I;exact⟨_,_,_,_,_,_,_,_,rfl,eP.zeroV⟩
   ·cases V;cases I;exact⟨_,_,_,_,_,_,_,_,rfl,eP.zeroV⟩
   ·cases V;cases I;exact⟨_,_,_,_,_,_,_,_,rfl,eP.zeroV⟩
   ·cases V;cases I;exact⟨_,_,_,_,_,_,_,_,rfl,eP.zeroV⟩
   ·cases V;cases I;exact⟨_,_,_,_,_,_,_,_,rfl,eP.zeroV⟩
   ·cases I
theorem om(w:World):eF PG F'.top_bears #[] w (eM w fun v' _=>v'= .bool true):=by
 have L:=bR w;refine zM (by simp) ?_;conv=>whnf
 refine bp (cE L (fun _ J v Y=>∃vn vb vs,v= .agg #[vn,vb,vs]/\dN Y (Nf J Y) vn vb vs zm) (fun O J r=>Cs J) ?_);rintro O _ _ _ LC r Z L h_ ⟨vn,vb,vs,rfl,A⟩;have hf:=A.df r.bs (mN h_);clear r;clear A;obtain⟨an,cn,ab,cb,aq,cq,rfl,rfl,rfl,-,-,-⟩:=hf.shape;conv=>whnf
 refine bp (cE L (fun _ J v Y=>∃vx,v= .tuple #[vx,.int .i64 0]/\cF Y (Nf J Y) vx (dh IG)) (fun O J r=>(wz (S:=(fun g=>Cf w LC g\/g=(O 0).g)) (l:=IB) (fun g R=>R.elim (Rel.old r (bo w) g) fun e=>by subst e;exact Rel.lt r (id:=0) rfl) (dN.bw (dN.rel hf r (bo w)) fun g R=>.inl R) (show dQ J (fun g=>Cf w LC g\/g=(O 0).g) (.slice (some ⟨(O 0).g,0,none⟩) 1 1) IB from⟨[[.int .i64 2,.int .i64 0,.int .i64 0,.int .i64 (-12)]],(r.sX (id:=0) (sz:=4) (n:=1) rfl rfl (by decide) (by repeat' first|refine List.forall_mem_cons.2 ⟨rfl,?_⟩|exact fun u hu=>absurd hu List.not_mem_nil)).bw fun g R=>.inr R,rfl,by simp,fun j G x V I=>by cases j with|zero=>(cases V;cases I;rfl)|succ j=>cases I⟩) (fun _=>I7)).mono fun _ _ ⟨v2,e1,e2,e3⟩=>⟨v2,e1,e2,e3.elim (fun h=>absurd Dl h.1) fun h=>h.2.elim (fun g=>by obtain⟨z,hz⟩:=lN (fH zm) (x:=fun t=>(dh IG).getD t 0) Dm.eq;rw[g.1]at hz;cases hz) fun⟨x,vx,g,k1,k2⟩=>⟨vx,k1,I7.Au.one g Dm▸k2⟩⟩) ?_);rintro O _ v2 MF Kx r Z L h_ ⟨vx,rfl,A⟩;clear hf;have hX:=cF.df (S:=FF) A r.bs (mN h_);clear r;clear A;obtain⟨ax,cx,rfl,-,-⟩:=eE.shape hX;have hl9:(dh IG).length=9:=rfl;obtain⟨ad0,cs0,ha0,hF0,hS0,hl0⟩:=eE.load hX (j:=0) (x:=((-3:Int):Rat)) rfl;obtain⟨x0,x1,x2,x3,x4,x5,x6,x7,rfl,hF0⟩:=hF0;rw[hl9];conv=>whnf
 refine cC hτ eG [.x 0,.x 1,.x 2,.x 3,.x 4,.x 5,.x 6,.x 7,.x 8,.x 9,.x 10,.x 11,.x 12,.x 13,.x 14,.x 15,.x 16,.x 17,.x 18,.x 19,.x 20,.x 21] (by kernel_rfl) (by kernel_rfl) ?_;conv=>whnf
 refine⟨ad0,ha0,⟨by decide,by decide⟩,?_⟩;conv=>whnf
 refine⟨[.bool x0,.slice x1 x2 x3,.bool x4,.slice x5 x6 x7],rfl,fun O J r j u hu=>?_,?_⟩
 ·obtain⟨k1,k2⟩:=hl0 j u hu;rw[show (0:Int).toNat=0 from rfl,cA (w:=MF) (Y:=J) (by rw[dP,dP];exact Rel.same r (bo w) k1)];exact k2
 conv=>whnf
 refine cE L (fun _ J v Y=>cI Y (Nf J Y) v (((-3):Int):Rat)) (fun O J r=>xH (-3) J (by decide)) ?_;rintro O _ _ _ LV r Z L h_ A;replace hF0:=hF0.bu r (bo w) Z (mC h_);replace hX:=cF.bu hX r (bo w) Z (mC h_);have PI:=A.df (S:=FF) r.bs (mN h_);clear r;obtain⟨A0,A1,A2,A3,A4,A5,A6,A7,rfl⟩:=PI.shape;conv=>whnf
 refine cE L (fun _ J v Y=>v= .bool true) (fun O J r=>(Gz (S:=Cf w LV) (Rel.old r (bo w)) (hF0.rel r (bo w)) (PI.rel r (bo w))).mono fun _ _ ⟨v2,e1,e2,e3⟩=>⟨v2,e1,e2,by rw[e3];exact congrArg _ (bY rfl)⟩) ?_;rintro O _ _ NI MD r Z L h_ rfl;clear hF0;replace hX:=cF.bu hX r (bo w) Z (mC h_);clear PI;clear r;conv=>whnf
 obtain⟨ad1,cs1,ha1,hF1,hS1,NG⟩:=eE.load hX (j:=1) (x:=((3:Int):Rat)) rfl;obtain⟨y0,y1,y2,y3,y4,y5,y6,y7,rfl,hF1⟩:=hF1;refine⟨ad1,ha1,⟨by decide,by decide⟩,?_⟩;conv=>whnf
 refine⟨[.bool y0,.slice y1 y2 y3,.bool y4,.slice y5 y6 y7],rfl,fun O J r j u hu=>?_,?_⟩
 ·obtain⟨k1,k2⟩:=NG j u hu;rw[show (1:Int).toNat=1 from rfl,cA (w:=NI) (Y:=J) (by rw[dP,dP];exact Rel.same r (bo w) k1)];exact k2
 conv=>whnf
 refine cE L (fun _ J v Y=>cI Y (Nf J Y) v ((3:Int):Rat)) (fun O J r=>xH 3 J (by decide)) ?_;rintro O _ _ _ OT r Z L h_ A;replace hF1:=hF1.bu r (bo w) Z (mC h_);have OP:=A.df (S:=FF) r.bs (mN h_);clear r;obtain⟨C0,C1,C2,C3,C4,C5,C6,C7,rfl⟩:=OP.shape;conv=>whnf
 refine cE L (fun _ J v Y=>v= .bool true) (fun O J r=>(Gz (S:=Cf w OT) (Rel.old r (bo w)) (hF1.rel r (bo w)) (OP.rel r (bo w))).mono fun _ _ ⟨v2,e1,e2,e3⟩=>⟨v2,e1,e2,by rw[e3];exact congrArg _ (bY rfl)⟩) ?_;rintro O _ _ _ iv6 r Z L h_ rfl;clear hF1;clear OP;clear r;conv=>whnf
 exact rtn L fun I' we re=>rfl
theorem Dp{b:Bool}{a:Option Addr}{n c:Nat}{b2:Bool}{n2 c2:Nat}(V:n<=2)(I:n2<=2):BU [.bool b,.slice a n c,.bool b2,.slice a2 n2 c2]:=⟨_,_,_,_,_,_,_,_,rfl,by omega,by omega⟩
theorem HA{vl:Value}{f:Ck}(X:Old S w)(hf:oI w S vn vb vs f)(hl:dQ w S vl l):eF PG F'.top_slight #[.agg #[vn,vb,vs],vl,.int .i64 most] w (eM w fun v' _=>∃d,v'= .bool d/\
  (d=true->dN w S vn vb vs f.val/\(∀b∈f.val.bars,rl b.2.2<=3)/\(∀b∈f.val.cJ,rl b.2.2<=3)/\f.nodes.length<=most/\f.val.bars.length<=6/\f.val.cJ.length<=12/\l.length<=12/\gZ f.val l=0)):=by
 have L:=bR w;obtain⟨an,cn,rfl,hcn,Nd⟩:=hf.nodes.shape;obtain⟨bcs,MZ,hbz,OJ,hbQ⟩:=hf.bars.cells;obtain⟨qcs,QP,hqz,hq4,hqQ⟩:=hf.cJ.cells;obtain⟨ab,cb,rfl,Nc,OK⟩:=hf.bars.shape;obtain⟨aq,cq,rfl,hcq,PW⟩:=hf.cJ.shape;obtain⟨al,cl,rfl,Lo,ND⟩:=hl.shape;unfold maxLen at Nd OK PW ND;refine xW (by simp) ?_;conv=>whnf
 refine ct.mk ?_ ?_<;>intro h0
 ·conv=>whnf
  exact rtn L fun I' we re=>⟨_,rfl,fun h=>by cases h⟩
 have h0:=aI h0;conv=>whnf
 refine ct.mk ?_ ?_<;>intro V
 ·conv=>whnf
  exact rtn L fun I' we re=>⟨_,rfl,fun h=>by cases h⟩
 have V:=aI V;conv=>whnf
 refine ct.mk ?_ ?_<;>intro I
 ·conv=>whnf
  exact rtn L fun I' we re=>⟨_,rfl,fun h=>by cases h⟩
 have I:=aI I;conv=>whnf
 refine ct.mk ?_ ?_<;>intro K
 ·conv=>whnf
  exact rtn L fun I' we re=>⟨_,rfl,fun h=>by cases h⟩
 have K:=aI K;conv=>whnf
 refine⟨Nat×World×Iv,fun z=>⟨[(1,sV al l.length cl),(3,pP 0 0),(7,iN z.1)],[(0,.box T.Frame [.v (.slice an f.nodes.length cn),.v (.slice ab f.bars.length cb),.v (.slice aq f.cJ.length cq)])],1,z.2.2,z.2.1⟩,fun z=>f.bars.length-z.1,
  fun z=>z.1<=f.bars.length/\dO w.heap.size w z.2.1/\∀(j:Nat) (G:List Value),j<z.1->bcs[j]? =some G->BU (G.drop 2),?_,?_⟩
 ·intro O J r;exact⟨(0,J,_),⟨aP _,L.tr r.cG,fun j G hj=>absurd hj (Nat.not_lt_zero j)⟩,Sub.gn [] r⟩
 clear L;rintro⟨i,w1,iv⟩ ⟨N,L,hB⟩;dsimp only at N L hB ⊢;conv=>whnf
 refine ct.mk ?_ ?_<;>intro Kp
 ·have Kp:i<f.bars.length:=by simpa using Kp
  obtain⟨G,Le⟩:∃G,bcs[i]? =some G:=⟨_,aA (by omega)⟩
  obtain⟨p,hp⟩:∃p,f.bars[i]? =some p:=⟨_,aA Kp⟩
  obtain⟨g0,g1,g2,g3,g4,g5,g6,g7,rfl,-⟩:=OJ i G p Le hp;obtain⟨adx,cs2,Ly,⟨he2,-⟩,-,OC⟩:=hbz.load (by decide) (show (bcs.zip f.bars)[i]? =some (_,p) by rw[List.getElem?_zip_eq_some];exact⟨Le,hp⟩);have he2:cs2=[.int .i64 p.1,.int .i64 p.2.1,.bool g0,.slice g1 g2 g3,.bool g4,.slice g5 g6 g7]:=he2;subst he2;conv=>whnf
  refine⟨adx,Ly,by omega,?_⟩;conv=>whnf
  refine⟨.slice g1 g2 g3,fun O J r=>?_,?_⟩
  ·obtain⟨k1,k2⟩:=OC 3 _ rfl;rw[cA (w:=w) (Y:=J) (by simp only[dP];exact(L.tr r.cG).block _ (X _ k1))];simp only[aG,kK]at k2 ⊢
   first|exact k2|(rw [<-k2];congr 2;omega)
  conv=>whnf
  refine ct.mk ?_ ?_<;>intro k3
  ·conv=>whnf
   exact rtn L fun I' we re=>⟨_,rfl,fun h=>by cases h⟩
  have k3:=aI k3;conv=>whnf
  refine⟨adx,Ly,by omega,?_⟩;conv=>whnf
  refine⟨.slice g5 g6 g7,fun O J r=>?_,?_⟩
  ·obtain⟨k1,k2⟩:=OC 5 _ rfl;rw[cA (w:=w) (Y:=J) (by simp only[dP];exact(L.tr r.cG).block _ (X _ k1))];simp only[aG,kK]at k2 ⊢
   first|exact k2|(rw [<-k2];congr 2;omega)
  conv=>whnf
  refine ct.mk ?_ ?_<;>intro k5
  ·conv=>whnf
   exact rtn L fun I' we re=>⟨_,rfl,fun h=>by cases h⟩
  have k5:=aI k5;conv=>whnf
  have LI:∀j G,j<i+1->bcs[j]? =some G->BU (G.drop 2):=fun j G hj hc=>by
   rcases aO j i with h|h
   ·exact hB j G h hc
   ·have:j=i:=by omega
    subst this;rw[Le]at hc;injection hc with hc;subst hc;exact Dp (by omega) (by omega)
  refine⟨((i+1:Nat):Int),wo,?_⟩;conv=>whnf
  intro In w6 D;exact⟨(i+1,w6,_),⟨Kp,L.tr D.cG,LI⟩,Sub.gn [] D,by dsimp only;omega⟩
 have Kp:i=f.bars.length:=aS N (by simpa using Kp);subst Kp;clear N;conv=>whnf
 refine⟨Nat×World×Iv,fun z=>⟨[(1,sV al l.length cl),(3,pP 0 0),(8,iN z.1)],[(0,.box T.Frame [.v (.slice an f.nodes.length cn),.v (.slice ab f.bars.length cb),.v (.slice aq f.cJ.length cq)])],1,z.2.2,z.2.1⟩,fun z=>f.cJ.length-z.1,
  fun z=>z.1<=f.cJ.length/\dO w.heap.size w z.2.1/\∀(j:Nat) (G:List Value),j<z.1->qcs[j]? =some G->BU (G.drop 2),?_,?_⟩
 ·intro O J r;exact⟨(0,J,_),⟨aP _,L.tr r.cG,fun j G hj=>absurd hj (Nat.not_lt_zero j)⟩,Sub.gn [] r⟩
 clear L;rintro⟨i,w1,iv⟩ ⟨N,L,hQ⟩;dsimp only at N L hQ ⊢;conv=>whnf
 refine ct.mk ?_ ?_<;>intro Kp
 ·have Kp:i<f.cJ.length:=by simpa using Kp
  obtain⟨G,Le⟩:∃G,qcs[i]? =some G:=⟨_,aA (by omega)⟩
  obtain⟨p,hp⟩:∃p,f.cJ[i]? =some p:=⟨_,aA Kp⟩
  obtain⟨g0,g1,g2,g3,g4,g5,g6,g7,rfl,-⟩:=hq4 i G p Le hp;obtain⟨adx,cs2,Ly,⟨he2,-⟩,-,OC⟩:=hqz.load (by decide) (show (qcs.zip f.cJ)[i]? =some (_,p) by rw[List.getElem?_zip_eq_some];exact⟨Le,hp⟩);have he2:cs2=[.int .i64 p.1,.int .i64 p.2.1,.bool g0,.slice g1 g2 g3,.bool g4,.slice g5 g6 g7]:=he2;subst he2;conv=>whnf
  refine⟨adx,Ly,by omega,?_⟩;conv=>whnf
  refine⟨.slice g1 g2 g3,fun O J r=>?_,?_⟩
  ·obtain⟨k1,k2⟩:=OC 3 _ rfl;rw[cA (w:=w) (Y:=J) (by simp only[dP];exact(L.tr r.cG).block _ (X _ k1))];simp only[aG,kK]at k2 ⊢
   first|exact k2|(rw [<-k2];congr 2;omega)
  conv=>whnf
  refine ct.mk ?_ ?_<;>intro k3
  ·conv=>whnf
   exact rtn L fun I' we re=>⟨_,rfl,fun h=>by cases h⟩
  have k3:=aI k3;conv=>whnf
  refine⟨adx,Ly,by omega,?_⟩;conv=>whnf
  refine⟨.slice g5 g6 g7,fun O J r=>?_,?_⟩
  ·obtain⟨k1,k2⟩:=OC 5 _ rfl;rw[cA (w:=w) (Y:=J) (by simp only[dP];exact(L.tr r.cG).block _ (X _ k1))];simp only[aG,kK]at k2 ⊢
   first|exact k2|(rw [<-k2];congr 2;omega)
  conv=>whnf
  refine ct.mk ?_ ?_<;>intro k5
  ·conv=>whnf
   exact rtn L fun I' we re=>⟨_,rfl,fun h=>by cases h⟩
  have k5:=aI k5;conv=>whnf
  have LI:∀j G,j<i+1->qcs[j]? =some G->BU (G.drop 2):=fun j G hj hc=>by
   rcases aO j i with h|h
   ·exact hQ j G h hc
   ·have:j=i:=by omega
    subst this;rw[Le]at hc;injection hc with hc;subst hc;exact Dp (by omega) (by omega)
  refine⟨((i+1:Nat):Int),wo,?_⟩;conv=>whnf
  intro In w6 D;exact⟨(i+1,w6,_),⟨Kp,L.tr D.cG,LI⟩,Sub.gn [] D,by dsimp only;omega⟩
 have Kp:i=f.cJ.length:=aS N (by simpa using Kp);subst Kp;clear N;conv=>whnf
 obtain⟨kb,kb2⟩:=I2.of OJ hbQ MZ hB;obtain⟨kq,kq2⟩:=I2.of hq4 hqQ QP hQ;have hR:dN w S (.slice an f.nodes.length cn) (.slice ab f.bars.length cb) (.slice aq f.cJ.length cq) f.val:=⟨hf.nodes,kb,kq⟩
 refine bp (cE L (fun _ J v Y=>v= .int .i64 (gZ f.val l)) (fun O J r=>zj (oS X r) (hR.br (kS L r X)) (hl.br (kS L r X))) ?_);rintro O _ _ _ Kx r Z L h_ rfl;clear r;conv=>whnf
 exact rtn L fun I' we re=>⟨_,rfl,fun h=>⟨hR,kb2,kq2,by omega,by show(f.bars.map BV).length<=6;rw[aK];omega,by show(f.cJ.map BV).length<=12;rw[aK];omega,by omega,by simpa using h⟩⟩
theorem yi{H:Hp}{nx:Nat}{iv:Iv}{w1 J:World}{vl:Value}{f:Ck}(X:Old S w)(L:dO w.heap.size w w1)(r:Rel H nx iv w.heap.size w1 O J)(hf:oI w S vn vb vs f)(hl:dQ w S vl l):eF PG F'.top_slight #[.agg #[vn,vb,vs],vl,.int .i64 most] J (eM J fun v' _=>∃d,v'= .bool d/\
  (d=true->dN w S vn vb vs f.val/\(∀b∈f.val.bars,rl b.2.2<=3)/\(∀b∈f.val.cJ,rl b.2.2<=3)/\f.nodes.length<=most/\f.val.bars.length<=6/\f.val.cJ.length<=12/\l.length<=12/\gZ f.val l=0)):=by
 have W:∀g,S g->J.heap[g]? =w.heap[g]? :=fun g R=>(L.tr r.cG).block g (X g R);have hO:Old S J:=fun g R=>by have:=X g R;have:=r.bs;omega
 refine(HA hO (hf.br W) (hl.br W)).mono fun _ _ ⟨v2,e1,e2,d,e3,e4⟩=>⟨v2,e1,e2,d,e3,fun h=>?_⟩
 obtain⟨V,I⟩:=e4 h;exact⟨V.br fun g R=>(W g R).symm,I⟩
abbrev gR:=(Rat×Rat)×List Int×List Int
def slot(G:List Value)(k:Bool):Value:=G.getD (if k then 9 else 8) (.slice none 0 0)
def ia(e:gR)(k:Bool):List Int:=if k then e.2.2 else e.2.1
structure Rz(w:World)(B:Nat)(iv:Iv)(U:List (List Value))(G8:List gR):Prop where
 len:U.length=G8.length
 row:∀(j:Nat) G e k,U[j]? =some G->G8[j]? =some e->w.ownsRow 0 T.int 1 (slot G k) (ia e k).length (zv (ia e k))/\∀g,(slot G k).ownBlock=some g->Cv FF B iv g
 wX:∀(i j:Nat) G ds k m g,U[i]? =some G->U[j]? =some ds->(slot G k).ownBlock=some g->(slot ds m).ownBlock=some g->i=j/\k=m
def Os(U:List (List Value))(B:Nat)(iv:Iv)(g:Nat):Prop:=Cv FF B iv g/\∀G∈U,∀k,(slot G k).ownBlock≠some g
section
variable{H:Hp}{nx:Nat}{iv E:Iv}{B:Nat}{w J Y:World}{O:Nat->Sx.cd}{U:List (List Value)}{G8:List gR}
theorem Os.same(r:Rel H nx iv B w O J)(h:Os U B iv g):J.heap[g]? =w.heap[g]? :=Rel.same r (fun _ h=>h.elim) h.1
theorem Os.old(r:Rel H nx iv B w O J)(h:Os U B iv g):g<J.heap.size:=Rel.old r (fun _ h=>h.elim) g h.1
theorem Os.mono(hm:∀p,p∈iv->p∈E)(h:Os U B iv g):Os U B E g:=⟨h.1.mono hm,h.2⟩
theorem Rz.rel(h:Rz w B iv U G8)(r:Rel H nx iv B w O J):Rz J B iv U G8:=
 ⟨h.len,fun j G e k V I=>⟨ownsRow.br (h.row j G e k V I).1 fun g R=>Rel.same r (fun _ h=>h.elim) ((h.row j G e k V I).2 g R),(h.row j G e k V I).2⟩,h.wX⟩
theorem Rz.bu(h:Rz w B iv U G8)(r:Rel H nx iv B w O J)(_:∀g,(fun _:Nat=>False) g->g<B)(Z:Ext J Y)(hm:∀p,p∈iv->p∈E):Rz Y B E U G8:=
 ⟨h.len,fun j G e k V I=>⟨ownsRow.br (h.row j G e k V I).1 fun g R=>(Z.block g (Rel.old r (fun _ h=>h.elim) g ((h.row j G e k V I).2 g R))).trans (Rel.same r (fun _ h=>h.elim) ((h.row j G e k V I).2 g R)),fun g R=>((h.row j G e k V I).2 g R).mono hm⟩,h.wX⟩
theorem Rz.lt(h:Rz w B iv U G8)(r:Rel H nx iv B w O J)(hc:G∈U)(k:Bool)(R:(slot G k).ownBlock=some g):g<J.heap.size/\Cv FF B iv g:=by
 obtain⟨j,hj⟩:=aQ hc;obtain⟨e,Z⟩:∃e,G8[j]? =some e:=⟨_,aA (by have:=(aC.1 hj).1;have:=h.len;omega)⟩
 have:=(h.row j G e k hj Z).2 g R;exact⟨Rel.old r (fun _ h=>h.elim) g this,this⟩
theorem Os.df(h:Rz w B iv U G8)(r:Rel H nx iv B w O J)(hB:B<=J.heap.size)(hm:(J.heap.size,Y.heap.size)∈E)(R:Nf J Y g):Os U B E g:=
 ⟨R.df hB hm,fun G hc k e=>by
  have V:=(h.lt r hc k e).1;rcases R with R|R
  ·exact R
  ·omega⟩
theorem Rz.app(h:Rz w B iv U G8)(r:Rel H nx iv B w O J)(hB:B<=J.heap.size){k:Bool}{cs2:List Value}{e e2:gR}{v':Value}{z:Int}(hc:U[a]? =some G)(Z:G8[a]? =some e)(W:slot cs2 k=v')(hnk:slot cs2 (!k)=slot G (!k))(hek:ia e2 k=ia e k++[z])(henk:ia e2 (!k)=ia e (!k))
  (h5:Y.ownsRow 0 T.int 1 v' ((ia e k).length+1) (zv (ia e k)++[.int .i64 z])) (h6:J.grownBy Y (slot G k).ownBlock) (h7:v'.ownBlock=(slot G k).ownBlock\/v'.ownBlock=some J.heap.size):
  Rz Y B (jY v'++iv) (U.set a cs2) (G8.set a e2)/\∀g,Os U B iv g->Y.heap[g]? =w.heap[g]? /\Os (U.set a cs2) B (jY v'++iv) g:=by
 have Og:=aD hc;have Qc:=(aC.1 hc).1;have Ol:=(aC.1 Z).1;have MU:∀p,p∈iv->p∈jY v'++iv:=fun p hp=>List.mem_append_right _ hp
 have hv:∀g,v'.ownBlock=some g->Cv FF B (jY v'++iv) g:=fun g R=>.inr ⟨by
  rcases h7 with h7|h7
  ·exact((h.lt r Og k (h7▸R)).2).elim (fun h=>h.elim) fun h=>h.1
  ·rw[h7]at R;injection R with R;omega,g,g+1,List.mem_append_left _ (og.2 ⟨R,rfl⟩),aE _,bV _⟩
 have key:∀(j:Nat) ds m g,U[j]? =some ds->(slot ds m).ownBlock=some g->¬(j=a/\m=k)->Y.heap[g]? =w.heap[g]? /\v'.ownBlock≠some g:=fun j ds m g V I K=>by
  have h4:=h.lt r (aD V) m I;refine⟨(h6.block g h4.1 fun e0=>K ((h.wX j a ds G m k g V hc I e0.symm))).trans (Rel.same r (fun _ h=>h.elim) h4.2),fun e0=>?_⟩;rcases h7 with h7|h7
  ·exact K (h.wX j a ds G m k g V hc I (h7▸e0))
  ·rw[h7]at e0;injection e0 with e0;omega
 have SI:∀m:Bool,m=k\/m= !k:=fun m=>by cases m<;>cases k<;>simp
 have hs:∀(j:Nat) ds m,(U.set a cs2)[j]? =some ds->(j=a/\m=k/\slot ds m=v')\/(¬(j=a/\m=k)/\∃ds0,U[j]? =some ds0/\slot ds m=slot ds0 m):=fun j ds m V=>by
  rw[List.getElem?_set]at V;split at V
  ·rename_i e0;subst e0;injection V with V;subst V;rcases SI m with rfl|rfl
   ·exact .inl ⟨rfl,rfl,W⟩
   ·exact .inr ⟨fun g=>(by have g2:=g.2;cases k<;>cases g2),G,hc,hnk⟩
  ·rename_i e0;exact .inr ⟨fun g=>e0 g.1.symm,ds,V,rfl⟩
 refine⟨⟨by rw[bH,bH,h.len],fun j ds d m V I=>?_,fun i j ds dt m n g V I K h4=>?_⟩,fun g R=>⟨(h6.block g (Os.old r R) fun e0=>R.2 G Og k e0.symm).trans (Os.same r R),R.1.mono MU,fun ds hd m e0=>?_⟩⟩
 ·rw[List.getElem?_set]at I;rcases hs j ds m V with⟨rfl,rfl,e0⟩|⟨K,ds0,h4,e0⟩
  ·rw[if_pos rfl,if_pos Ol]at I;injection I with I;subst I;rw[e0,hek,List.length_append,List.length_singleton];exact⟨by rw[zv,List.map_append];exact h5,hv⟩
  ·obtain⟨d0,PI,hl⟩:∃d0,G8[j]? =some d0/\ia d m=ia d0 m:=by
    split at I
    ·rename_i e1;subst e1;injection I with I;subst I;refine⟨e,Z,?_⟩;rcases SI m with rfl|rfl
     ·exact absurd ⟨rfl,rfl⟩ K
     ·exact henk
    ·exact⟨d,I,rfl⟩
   rw[e0,hl];obtain⟨k1,k2⟩:=h.row j ds0 d0 m h4 PI;exact⟨ownsRow.br k1 fun g R=>(key j ds0 m g h4 R K).1,fun g R=>(k2 g R).mono MU⟩
 ·rcases hs i ds m V with⟨rfl,rfl,e0⟩|⟨k1,ds0,k2,e0⟩<;>rcases hs j dt n I with⟨rfl,rfl,e1⟩|⟨q1,dt0,q2,e1⟩
  ·exact⟨rfl,rfl⟩
  ·rw[e0]at K;rw[e1]at h4;exact absurd K (key j dt0 n g q2 h4 q1).2
  ·rw[e0]at K;rw[e1]at h4;exact absurd h4 (key i ds0 m g k2 K k1).2
  ·rw[e0]at K;rw[e1]at h4;exact h.wX i j ds0 dt0 m n g k2 q2 K h4
 ·obtain⟨j,hj⟩:=aQ hd;rcases hs j ds m hj with⟨rfl,rfl,e1⟩|⟨k1,ds0,k2,e1⟩
  ·rw[e1]at e0;rcases h7 with h7|h7
   ·exact R.2 G Og _ (h7▸e0)
   ·rw[h7]at e0;injection e0 with e0;have:=Os.old r R;omega
  ·rw[e1]at e0;exact R.2 ds0 (aD k2) m e0
end
def xA(w:World)(S:Nat->Prop)(G:List Value)(q:Rat×Rat):Prop:=∃lo N vl vh,G=lo++N++[vl,vh]/\iB w S lo q.1/\iB w S N q.2
theorem xA.len(h:xA w S G q):G.length=10:=by
 obtain⟨_,_,_,_,rfl,⟨_,_,_,_,_,_,_,_,rfl,_⟩,⟨_,_,_,_,_,_,_,_,rfl,_⟩⟩:=h;rfl
def iu(w:World)(S:Nat->Prop)(U:List (List Value))(G8:List gR):Prop:=U.length=G8.length/\∀(j:Nat) G e,U[j]? =some G->G8[j]? =some e->xA w S G e.1
theorem iu.map{Y:World}{G8:List gR}(h:iu w S U G8)(W:∀g,S g->Y.heap[g]? =w.heap[g]? /\S' g):iu Y S' U G8:=
 ⟨h.1,fun j G e V I=>by
  obtain⟨lo,N,vl,vh,e0,k1,k2⟩:=h.2 j G e V I
  exact⟨lo,N,vl,vh,e0,(k1.br fun g R=>(W g R).1).bw fun g R=>(W g R).2,(k2.br fun g R=>(W g R).1).bw fun g R=>(W g R).2⟩⟩
theorem iu.wid{G8:List gR}(h:iu w S U G8):∀G∈U,G.length=10:=fun G hc=>by
 obtain⟨j,hj⟩:=aQ hc;obtain⟨e,Z⟩:∃e,G8[j]? =some e:=⟨_,aA (by have:=(aC.1 hj).1;have:=h.1;omega)⟩
 exact(h.2 j G e hj Z).len
theorem iu.set{G8:List gR}{e:gR}(h:iu w S U G8)(hc:xA w S G e.1):iu w S (U.set a G) (G8.set a e):=
 ⟨by rw[bH,bH,h.1],fun j ds d V I=>by
  rw[List.getElem?_set]at V I;split at V
  ·rename_i e0;subst e0;rw[if_pos rfl]at I;split at V
   ·injection V with V;rw[if_pos (by rw[<-h.1];assumption)]at I;injection I with I;subst V I;exact hc
   ·cases V
  ·rename_i e0;rw[aF e0]at I
   exact h.2 j ds d V I⟩
theorem xA.map{Y:World}(h:xA w S G q)(W:∀g,S g->Y.heap[g]? =w.heap[g]? /\S' g):xA Y S' G q:=by
 obtain⟨lo,N,vl,vh,e0,k1,k2⟩:=h;exact⟨lo,N,vl,vh,e0,(k1.br fun g R=>(W g R).1).bw fun g R=>(W g R).2,(k2.br fun g R=>(W g R).1).bw fun g R=>(W g R).2⟩
section
variable{H:Hp}{nx:Nat}{iv E:Iv}{B:Nat}{w J Y:World}{O:Nat->Sx.cd}{U:List (List Value)}{G8:List gR}
theorem Os.bu(r:Rel H nx iv B w O J)(Z:Ext J Y)(hm:∀p,p∈iv->p∈E)(h:Os U B iv g):Y.heap[g]? =w.heap[g]? /\Os U B E g:=⟨(Z.block g (Os.old r h)).trans (Os.same r h),h.mono hm⟩
theorem iu.rel(h:iu w (Os U B iv) U G8)(r:Rel H nx iv B w O J):iu J (Os U B iv) U G8:=h.map fun _ R=>⟨Os.same r R,R⟩
theorem iu.bu(h:iu w (Os U B iv) U G8)(r:Rel H nx iv B w O J)(_:∀g,(fun _:Nat=>False) g->g<B)(Z:Ext J Y)(hm:∀p,p∈iv->p∈E):iu Y (Os U B E) U G8:=h.map fun _ R=>R.bu r Z hm
theorem lY.map(h:cF w S v qs)(W:∀g,S g->Y.heap[g]? =w.heap[g]? /\S' g):cF Y S' v qs:=cF.bw (cF.br h fun g R=>(W g R).1) fun g R=>(W g R).2
theorem lY.bu(h:cF w (Os U B iv) v qs)(r:Rel H nx iv B w O J)(_:∀g,(fun _:Nat=>False) g->g<B)(Z:Ext J Y)(hm:∀p,p∈iv->p∈E):cF Y (Os U B E) v qs:=lY.map h fun _ R=>R.bu r Z hm
theorem lZ.map{q:Rat}(h:cI w S v q)(W:∀g,S g->Y.heap[g]? =w.heap[g]? /\S' g):cI Y S' v q:=(h.br fun g R=>(W g R).1).bw fun g R=>(W g R).2
theorem lZ.bu{q:Rat}(h:cI w (Os U B iv) v q)(r:Rel H nx iv B w O J)(_:∀g,(fun _:Nat=>False) g->g<B)(Z:Ext J Y)(hm:∀p,p∈iv->p∈E):cI Y (Os U B E) v q:=lZ.map h fun _ R=>R.bu r Z hm
def B1(w:World)(S:Nat->Prop)(U:List (List Value))(i:Nat):Prop:=∀(j:Nat) G,j<i->U[j]? =some G->xA w S G (0,0)
theorem B1.bu{i:Nat}(h:B1 w (Cv S B iv) U i)(r:Rel H nx iv B w O J)(X:∀g,S g->g<B)(Z:Ext J Y)(hm:∀p,p∈iv->p∈E):B1 Y (Cv S B E) U i:=
 fun j G V I=>(h j G V I).map fun g R=>⟨(Z.block g (Rel.old r X g R)).trans (Rel.same r X R),R.mono hm⟩
end
theorem Jr(h:G.length=10):G.drop 8=[slot G false,slot G true]:=by
 match G,h with
 |[_,_,_,_,_,_,_,_,a,b],_=>rfl
theorem xB{k:Nat}:∀{U:List (List Value)} {j:Nat} {G:List Value},(∀G∈U,G.length=k)->U[j]? =some G->∃p s,U.flatten=p++(G++s)/\p.length=j*k/\∀cs2:List Value,(U.set j cs2).flatten=p++(cs2++s)
 |[],j,G,_,hj=>by simp at hj
 |c::r,0,G,h,hj=>by
  simp at hj;subst hj;exact⟨[],r.flatten,rfl,by simp,fun cs2=>rfl⟩
 |c::r,j+1,G,h,hj=>by
  obtain⟨p,s,V,I,K⟩:=xB (fun x F=>h x (aB _ F)) (show r[j]? =some G by simpa using hj);refine⟨c++p,s,by rw[List.flatten_cons,V,bP],by rw[List.length_append,h c aH,I,Nat.succ_mul];omega,fun cs2=>?_⟩;rw[List.set_cons_succ,List.flatten_cons,K,bP]
theorem Ek{k:Nat}{m:Nat}(h:∀G∈U,G.length=k)(hj:U[j]? =some G)(ho:o+m<=k):(U.flatten.drop (j*k+o)).take m=(G.drop o).take m:=by
 obtain⟨p,s,V,I,-⟩:=xB h hj;have hc:=h G (aD hj);rw[V,<-I,<-List.drop_drop,List.drop_left,List.drop_append_of_le_length (by omega),List.take_append_of_le_length (by rw[List.length_drop];omega)]
theorem Gv{k:Nat}(h:∀G∈U,G.length=k)(hj:U[j]? =some G)(ho:o+nv.length<=k):
  U.flatten.take (j*k+o)++nv++U.flatten.drop (j*k+o+nv.length)=(U.set j (G.take o++nv++G.drop (o+nv.length))).flatten:=by
 obtain⟨p,s,V,I,K⟩:=xB h hj;have hc:=h G (aD hj);rw[K,V,<-I,List.take_append,List.take_of_length_le (by omega),Nat.add_sub_cancel_left,List.take_append_of_le_length (by omega),show p.length+o+nv.length=p.length+(o+nv.length) by omega,<-List.drop_drop,List.drop_left,List.drop_append_of_le_length (by omega)];simp only[bP]
theorem l8{k:Nat}{m:Nat}(h:∀G∈U,G.length=k)(hj:U[j]? =some G)(PJ:off=j*k+o)(hm:nv.length=m)(ho:o+m<=k):
  U.flatten.take off++nv++U.flatten.drop (off+m)=(U.set j (G.take o++nv++G.drop (o+m))).flatten:=by
 subst PJ hm;exact Gv h hj ho
theorem xC{k:Nat}{m:Nat}(h:∀G∈U,G.length=k)(hj:U[j]? =some G)(PJ:off=j*k+o)(ho:o+m<=k):(U.flatten.drop off).take m=(G.drop o).take m:=by
 subst PJ;exact Ek h hj ho
theorem yf{k:Nat}{u:Value}(h:∀G∈U,G.length=k)(hj:U[j]? =some G)(PJ:off=j*k+o)(hu:G[o]? =some u):U.flatten[off]? =some u:=by
 subst PJ;exact od h hj o u hu
def ei(e:gR)(q:Rat)(c:Int):gR:=if q<0 then((e.1.1+q,e.1.2),e.2.1++[c],e.2.2)else if 0<q then((e.1.1,e.1.2+q),e.2.1,e.2.2++[c])else e
def gL(G8:List gR)(x:List Rat)(c:Int):Nat->List gR
 |0=>G8
 |i+1=>(gL G8 x c i).set i (ei ((gL G8 x c i).getD i ((0,0),[],[])) (x.getD i 0) c)
def eK(n:Nat)(F9:List (List Rat)):Nat->List gR
 |0=>List.replicate n ((0,0),[],[])
 |c+1=>gL (eK n F9 c) (F9.getD c []) c n
def jQ(l:List Rat):Nat->gR
 |0=>((0,0),[],[])
 |i+1=>ei (jQ l i) (l.getD i 0) i
theorem iO(G8:List gR)(x:List Rat)(c:Int):∀i,(gL G8 x c i).length=G8.length
 |0=>rfl
 |i+1=>by rw[gL,bH];exact iO G8 x c i
theorem oh(G8:List gR)(x:List Rat)(c:Int){k:Nat}(W:k<G8.length)(d:gR):∀i,(gL G8 x c i).getD k d=if k<i then ei (G8.getD k d) (x.getD k 0) c else G8.getD k d
 |0=>by rw[aF (by omega)];rfl
 |i+1=>by
  rw[gL];by_cases e:i=k
  ·subst e;rw[if_pos (by omega),List.getD,aR (by rw[iO];exact W),Option.getD_some,show(gL G8 x c i).getD i ((0,0),[],[])=(gL G8 x c i).getD i d by rw[List.getD,List.getD,aA (by rw[iO];exact W)];rfl,oh G8 x c W d i,aF (by omega)]
  ·rw[List.getD,aY e,<-List.getD,oh G8 x c W d i];by_cases h:k<i
   ·rw[if_pos h,if_pos (by omega)]
   ·rw[aF h,aF (by omega)]
theorem iY(n:Nat)(F9:List (List Rat)):∀c,(eK n F9 c).length=n
 |0=>aa
 |c+1=>by rw[eK,iO];exact iY n F9 c
theorem yg{n:Nat}{F9:List (List Rat)}{k:Nat}(W:k<n)(d:gR):∀c,c<=F9.length->(eK n F9 c).getD k d=jQ (F9.map fun x=>x.getD k 0) c
 |0,_=>by
  show(List.replicate n (((0,0),[],[]):gR)).getD k d=_;rw[List.getD,List.getElem?_replicate,if_pos W];rfl
 |c+1,hc=>by
  obtain⟨x,F⟩:∃x,F9[c]? =some x:=⟨_,aA (by omega)⟩
  rw[eK,oh _ _ _ (by rw[iY];exact W),if_pos W,yg W d c (by omega),jQ,getD_some F,getD_some (show (F9.map fun x=>x.getD k 0)[c]? =some (x.getD k 0) by rw[aM,F];rfl)]
theorem Cq{e:gR}{q:Rat}{c:Int}{h:Nat}(hq:rl q<=152)(V:rl e.1.1<=h)(I:rl e.1.2<=h):rl (ei e q c).1.1<=h+153/\rl (ei e q c).1.2<=h+153:=by
 unfold ei;split
 ·have:=kz e.1.1 q;exact⟨by dsimp only;omega,by dsimp only;omega⟩
 ·split
  ·have:=kz e.1.2 q;exact⟨by dsimp only;omega,by dsimp only;omega⟩
  ·exact⟨by omega,by omega⟩
def jZ(f:eS)(G:List (List Ld)):Int:=if eB f≠0 then eB f else if 16<G.length then 8 else cS (fun _=>gp f.nodes.length) [] G
def kP(f:eS)(G:List (List Ld))(F9:List (List Rat)):Prop:=∀(c:Nat) x,F9[c]? =some x->gz (cK f) f.cols (Az f) (cz (gg f (G.getD c [])) (-1)) x
def xD(f:eS)(G:List (List Ld)):Prop:=∃(c:Nat),∃l,G[c]? =some l/\ff (cK f) (cz (gg f l) (-1)) f.cols=none
theorem kP.push{G:List (List Ld)}(h:kP f G F9)(hl:G[F9.length]? =some l)(F:gz (cK f) f.cols (Az f) (cz (gg f l) (-1)) x):kP f G (F9++[x]):=fun c y hy=>by
 rcases aO c F9.length with V|V
 ·rw[aJ V]at hy;exact h c y hy
 ·rw[aN V]at hy;have h0:=(aC.1 hy).1;simp at h0;obtain rfl:c=F9.length:=by omega
  rw[bC]at hy;injection hy with hy;subst hy;rw[getD_some hl];exact F
theorem kP.one{G:List (List Ld)}{AC:List (List Rat)}(Lb:uF f)(h:kP f G F9)(k:kP f G AC)(hl:F9.length=AC.length):F9=AC:=by
 refine bJ fun c=>?_;rcases aO c F9.length with V|V
 ·rw[aA V,aA (by omega)];exact congrArg some (Lb.Au.one (h c _ (aA V)) (k c _ (aA (by omega))))
 ·rw[List.getElem?_eq_none V,List.getElem?_eq_none (by omega)]
theorem kP.not{G:List (List Ld)}(h:kP f G F9)(hl:F9.length=G.length):¬xD f G:=fun⟨c,l,V,I⟩=>by
 have hc:=(aC.1 V).1;have F:=h c _ (aA (show c<F9.length by omega));rw[getD_some V]at F;obtain⟨z,hz⟩:=lN (fH f) (x:=fun t=>F9[c].getD t 0) F.eq;rw[I]at hz
 cases hz
theorem kP.exists{G:List (List Ld)}(Lb:uF f)(h:¬xD f G):∃F9,kP f G F9/\F9.length=G.length:=by
 have key:∀k,k<=G.length->∃F9,kP f G F9/\F9.length=k:=fun k=>by
  induction k with
  |zero=>exact fun _=>⟨[],fun c x F=>by simp at F,rfl⟩
  |succ k ih=>
   intro W;obtain⟨F9,V,I⟩:=ih (by omega);obtain⟨l,hl⟩:∃l,G[k]? =some l:=⟨_,aA (by omega)⟩
   cases e:ff (cK f) (cz (gg f l) (-1)) f.cols with
   |none=>exact absurd ⟨k,l,hl,e⟩ h
   |some x0=>
    obtain⟨c,-,-,hy⟩:=Lb.Au.force (fl:=cX f) e;exact⟨_,V.push (by rw[I];exact hl) hy,by rw[List.length_append,I];rfl⟩
 exact key G.length (aE _)
theorem xg{G:List (List Ld)}(X:Old S w)(hf:dN w S vn vb vs f)(hC:gB w S v G):
  eF PG F'.kB #[.agg #[vn,vb,vs],v] w (eM w fun v' _=>v'= .int .i64 (jZ f G)):=by
 have L:=bR w;obtain⟨an,cn,ab,cb,aq,cq,rfl,rfl,rfl,Nd,OK,PW⟩:=hf.shape;obtain⟨ac,cc,rfl,-,Ph⟩:=dZ.shape hC;unfold maxLen at Ph;refine mx (by simp) ?_;obtain⟨e0,EE⟩:∃e,eB f=e:=⟨_,rfl⟩
 refine bp (cE L (fun _ J v Y=>v= .int .i64 e0) (fun O J r=>(BT (oS X r) (hf.br (kS L r X))).mono fun _ _ ⟨v2,e1,e2,e3⟩=>⟨v2,e1,e2,by rw[e3,EE]⟩) ?_);rintro O _ _ _ LC r Z L h_ rfl;clear r;refine ct.mk ?_ ?_<;>intro hd
 ·have hd:e0≠0:=by simpa using hd
  have Mc:jZ f G=e0:=by rw[jZ,EE,if_pos hd]
  exact rtn L fun I' we re=>by rw[Mc];rfl
 have hd:e0=0:=by simpa using hd
 rw[hd]at EE;have NY:¬eB f≠0:=fun h=>h EE;refine ct.mk ?_ ?_<;>intro V
 ·have V:=aL V;have Mc:jZ f G=8:=by rw[jZ,aF NY,if_pos (by omega)]
  exact rtn L fun I' we re=>by rw[Mc];rfl
 have V:=aI V;have h16:¬16<G.length:=by omega
 refine⟨Nat×World×Iv,fun z=>⟨[(1,sV ac G.length cc),(2,pP 0 0),(17,sV ac G.length cc),(18,iZ G.length),(19,iN z.1)],[(0,.box T.Frame [.v (.slice an f.nodes.length cn),.v (.slice ab f.bars.length cb),.v (.slice aq f.cJ.length cq)])],1,z.2.2,z.2.1⟩,fun z=>G.length-z.1,
  fun z=>z.1<=G.length/\dO w.heap.size w z.2.1/\cS (fun _=>gp f.nodes.length) [] G=cS (fun _=>gp f.nodes.length) (G.take z.1) (G.drop z.1),?_,?_⟩
 ·intro O J D;exact⟨(0,J,_),⟨aP _,L.tr D.cG,rfl⟩,Sub.gn [] D⟩
 clear L;rintro⟨i,w1,iv⟩ ⟨N,L,hE⟩;dsimp only at N L hE ⊢;refine ct.mk ?_ ?_<;>intro Kp
 ·have Kp:i<G.length:=by simpa using Kp
  obtain⟨x,F⟩:∃x,G[i]? =some x:=⟨_,aA Kp⟩
  obtain⟨adm,um,Nk,Lj,km1,km2⟩:=dZ.load hC F;obtain⟨al,cl,rfl,-,ND⟩:=Lj.shape;refine⟨adm,Nk,by omega,.slice al x.length cl,rd1 km2 L (X _ km1),?_⟩;refine bp (cE L (fun _ J v Y=>v= .int .i64 (gp f.nodes.length x)) (fun O J r=>lD (oS X r) (dQ.br Lj (kS L r X))) ?_);rintro O _ _ _ Kx r Z L h_ rfl;clear r;obtain⟨e,Z⟩:∃e,gp f.nodes.length x=e:=⟨_,rfl⟩
  rw[Z];refine ct.mk ?_ ?_<;>intro hd
  ·have hd:e≠0:=by simpa using hd
   have Mc:jZ f G=e:=by rw[jZ,aF NY,aF h16,hE];exact cD F Z hd
   exact rtn L fun I' we re=>by rw[Mc];rfl
  have hd:e=0:=by simpa using hd
  subst hd;rw[di (e:=fun _=>gp f.nodes.length) F Z]at hE;refine⟨((i+1:Nat):Int),wo,?_⟩;intro In w6 D;exact⟨(i+1,w6,_),⟨Kp,L.tr D.cG,hE⟩,Sub.gn [] D,by dsimp only;omega⟩
 have Kp:i=G.length:=aS N (by simpa using Kp);rw[eQ (by omega)]at hE;have Mc:jZ f G=0:=by rw[jZ,aF NY,aF h16,hE]
 exact rtn L fun I' we re=>by rw[Mc];rfl
theorem Cr{G:List (List Ld)}(h:jZ f G=0):eB f=0/\G.length<=16/\∀(c:Nat) l,G[c]? =some l->gP f.nodes.length l:=by
 unfold jZ at h;by_cases V:eB f=0
 ·rw[aF (fun g=>g V)]at h;split at h
  ·cases h
  ·exact⟨V,by omega,fun c l hl=>uK (eV h c l hl)⟩
 ·rw[if_pos V]at h;exact absurd h V
end Go.Ex
