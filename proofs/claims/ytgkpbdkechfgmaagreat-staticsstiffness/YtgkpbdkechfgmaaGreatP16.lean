/- Texts X193 to L55: lemmas, each with its conditions. -/
import Derived.Test.YtgkpbdkechfgmaaGreatP15
set_option maxHeartbeats 2000000
set_option maxRecDepth 8000
namespace Go.Sx
open Go Go.Ex Go.Proofs
variable{Z:List Value}{O:Nat->Sx.eG}
theorem Rel.yC{H:Hp}{nx:Nat}{iv:Iv}{B:Nat}{w J:World}(r:Rel H nx iv B w O J){T:Nat->Prop}{id t m sz:Nat}(h:dU H id=some (.vec t sz Z))(hm:Z.length=m*sz)(S9:m<=maxLen)(hs:0<sz)(I:∀u∈Z,u.oneCell'=true)(hT:(O id).nil=false->T (O id).g):
  j1 J T sz ((At.w id m).den O) Z m:=by
 rcases r.fits h with⟨W,rfl⟩|⟨W,spare,G,h3,h4⟩
 .have Uu:m=0:=by
   rcases bZ m with h|h
   .exact h
   .have:=Nat.mul_pos h hs;simp at hm;omega
  subst Uu;have SI:(At.w id 0).den O=nls:=by simp[At.den,W]
  rw[SI];exact⟨aR _,bv,bv,none,0,rfl,lr,fun j u h=>by cases h⟩
 .have SI:(At.w id m).den O= .slice (some ⟨(O id).g,0,none⟩) m (O id).cap:=by simp[At.den,W]
  rw[SI];refine⟨S9,hm,I,_,_,rfl,?_,fun j u hu=>⟨_,rfl,hT W,?_⟩⟩
  .rw[aQ,hm]at h3;exact cL (show m*sz<=(O id).cap*sz by omega) hs
  .rw[dX,cell_of G,aW,aI (aE.1 hu).1];exact hu
end Go.Sx
namespace Go.Ex
open Go Go.Sx Go.Proofs
section
variable{p:List Rat}{g:Nat}{S:Nat->Prop}
section
variable{S:Nat->Prop}{H:Hp}{nx:Nat}{iv N:Iv}{B n:Nat}{w J Y:World}{O:Nat->Sx.eG}{v:Value}{qs:List Rat}
theorem Bs.fresh(r:Rel H nx iv B w O J)(U:∀g,v.ownBlock=some g->g<J.heap.size)(X:Nf J Y g):Bs S B ((J.heap.size,Y.heap.size)::iv) v g:=by
 rcases X with X|X
 .exact X.elim
 .exact⟨.inr ⟨by have:=r.dA;omega,_,_,aH,X.1,X.2⟩,fun e=>by have:=U g e;omega⟩
theorem Bs.solved{T:Nat->Prop}(r:Rel H nx iv B w O J)(U:∀g,v.ownBlock=some g->g<J.heap.size)(hT:∀g,T g->Bs S B iv v g)(X:Cv T J.heap.size [(J.heap.size,Y.heap.size)] g):Bs S B ((J.heap.size,Y.heap.size)::iv) v g:=by
 rcases X with X|⟨I,lo,D,G,h3,h4⟩
 .exact Bs.mono (fun p hp=>aB _ hp) (hT g X)
 .simp at G;obtain⟨rfl,rfl⟩:=G;exact Bs.fresh r U (.inr ⟨h3,h4⟩)
end
section
variable{S:Nat->Prop}{H:Hp}{nx:Nat}{iv N:Iv}{B:Nat}{w J Y:World}{O:Nat->Sx.eG}{v v0:Value}{q:Rat}
theorem nP.rel(h:cY w (Bs S B iv v) v0 q)(r:Rel H nx iv B w O J)(F:∀g,S g->g<B):cY J (Bs S B iv v) v0 q:=cY.cR h (Bs.same r F)
theorem nP.fresh(h:cY Y (Nf J Y) v0 q)(r:Rel H nx iv B w O J)(U:∀g,v.ownBlock=some g->g<J.heap.size):cY Y (Bs S B ((J.heap.size,Y.heap.size)::iv) v) v0 q:=cY.cP h fun _ X=>Bs.fresh r U X
theorem nP.cv(h:cY w (Bs S B iv v) v0 q):cY w (Cv S B iv) v0 q:=cY.cP h fun _ X=>X.1
end
section
variable{S:Nat->Prop}{H:Hp}{nx:Nat}{iv N:Iv}{B:Nat}{w J Y:World}{O:Nat->Sx.eG}{v v0:Value}{GE:List (List Rat)}
theorem hJ.rel(h:dD w (Bs S B iv v) v0 GE)(r:Rel H nx iv B w O J)(F:∀g,S g->g<B):dD J (Bs S B iv v) v0 GE:=dD.cR h (Bs.same r F)
theorem hJ.cS(h:dD w (Bs S B iv v) v0 GE)(r:Rel H nx iv B w O J)(F:∀g,S g->g<B)(L:Ext J Y)(hm:∀p,p∈iv->p∈N):dD Y (Bs S B N v) v0 GE:=
 dD.cP (dD.cR (hJ.rel h r F) fun g X=>L.block g (rlo r F g X.1)) fun _ X=>Bs.mono hm X
theorem hJ.fresh(h:dD Y (Nf J Y) v0 GE)(r:Rel H nx iv B w O J)(U:∀g,v.ownBlock=some g->g<J.heap.size):dD Y (Bs S B ((J.heap.size,Y.heap.size)::iv) v) v0 GE:=dD.cP h fun _ X=>Bs.fresh r U X
theorem hJ.kept(h:dD w (Bs S B iv v) v0 GE)(r:Rel H nx iv B w O J)(F:∀g,S g->g<B)(X:J.grownBy Y v.ownBlock):dD Y (Bs S B iv v) v0 GE:=dD.cR h (Bs.kept r F X fun _ e=>e)
end
section
variable{S:Nat->Prop}{H:Hp}{nx:Nat}{iv N:Iv}{B:Nat}{w J Y:World}{O:Nat->Sx.eG}{v v0:Value}{xs:List Rat}
theorem fO.rel(h:cX w (Bs S B iv v) v0 xs)(r:Rel H nx iv B w O J)(F:∀g,S g->g<B):cX J (Bs S B iv v) v0 xs:=cX.cR h (Bs.same r F)
theorem fO.cS(h:cX w (Bs S B iv v) v0 xs)(r:Rel H nx iv B w O J)(F:∀g,S g->g<B)(L:Ext J Y)(hm:∀p,p∈iv->p∈N):cX Y (Bs S B N v) v0 xs:=
 cX.cP (cX.cR (fO.rel h r F) fun g X=>L.block g (rlo r F g X.1)) fun _ X=>Bs.mono hm X
theorem fO.fresh(h:cX Y (Nf J Y) v0 xs)(r:Rel H nx iv B w O J)(U:∀g,v.ownBlock=some g->g<J.heap.size):cX Y (Bs S B ((J.heap.size,Y.heap.size)::iv) v) v0 xs:=cX.cP h fun _ X=>Bs.fresh r U X
theorem fO.cv(h:cX w (Bs S B iv v) v0 xs):cX w (Cv S B iv) v0 xs:=cX.cP h fun _ X=>X.1
theorem fO.kept(h:cX w (Bs S B iv v) v0 xs)(r:Rel H nx iv B w O J)(F:∀g,S g->g<B)(X:J.grownBy Y v.ownBlock):cX Y (Bs S B iv v) v0 xs:=cX.cR h (Bs.kept r F X fun _ e=>e)
end
section
variable{S:Nat->Prop}{H:Hp}{nx:Nat}{iv N:Iv}{B:Nat}{w J Y:World}{O:Nat->Sx.eG}{v v0:Value}{rv:List Value}{GE:List (List Rat)}
theorem oa.rel(h:dZ w (Bs S B iv v) rv GE)(r:Rel H nx iv B w O J)(F:∀g,S g->g<B):dZ J (Bs S B iv v) rv GE:=dZ.cR h (Bs.same r F)
theorem oa.cS(h:dZ w (Bs S B iv v) rv GE)(r:Rel H nx iv B w O J)(F:∀g,S g->g<B)(L:Ext J Y)(hm:∀p,p∈iv->p∈N):dZ Y (Bs S B N v) rv GE:=
 dZ.cP (dZ.cR (oa.rel h r F) fun g X=>L.block g (rlo r F g X.1)) fun _ X=>Bs.mono hm X
end
section
variable{S:Nat->Prop}{H:Hp}{nx:Nat}{iv N:Iv}{B:Nat}{w J Y:World}{O:Nat->Sx.eG}{v v0:Value}{A:List (List Value)}{xs:List Rat}
theorem kj.rel(h:dq w (Bs S B iv v) A xs)(r:Rel H nx iv B w O J)(F:∀g,S g->g<B):dq J (Bs S B iv v) A xs:=dq.cR h (Bs.same r F)
theorem kj.cS(h:dq w (Bs S B iv v) A xs)(r:Rel H nx iv B w O J)(F:∀g,S g->g<B)(L:Ext J Y)(hm:∀p,p∈iv->p∈N):dq Y (Bs S B N v) A xs:=
 dq.cP (dq.cR (kj.rel h r F) fun g X=>L.block g (rlo r F g X.1)) fun _ X=>Bs.mono hm X
end
theorem JD{st:List (List Rat)}{c x:List Rat}{a b:Nat}(U:∀q∈x,rl q<=a)(hs:∀r∈st,∀q∈r,rl q<=b)(hc:∀q∈c,rl q<=b):∀i,∀q∈mu st c x i,rl q<=a+i*(2*b+5)
 |0,q,hq=>by have:=U q hq;omega
 |i+1,q,hq=>by
  rw[mu]at hq;obtain⟨k,K⟩:=aU hq;rw[List.getElem?_mapIdx]at K;obtain⟨p,hp,rfl⟩:=Option.map_eq_some_iff.1 K;have I:=JD U hs hc i p (aC hp);have h0:rl 0<=2:=by decide
  have G:rl (c.getD i 0)<=b+2:=by
   rcases aS i c.length with h|h
   .rw[getD_some (aD h)];have:=hc _ (bA h);omega
   .rw[jL h];omega
  have h3:rl ((st.getD i []).getD k 0)<=b+2:=by
   rcases aS i st.length with h|h
   .rw[getD_some (d:=[]) (aD h)];rcases aS k (st[i]).length with h4|h4
    .rw[getD_some (aD h4)];have:=hs _ (bA h) _ (bA h4);omega
    .rw[jL h4];omega
   .rw[show st.getD i []=[] by rw[List.getD,List.getElem?_eq_none h];rfl];exact aX h0 (Nat.le_add_left _ _)
  have h4:=lE p (c.getD i 0*(st.getD i []).getD k 0);have h5:=fh (c.getD i 0) ((st.getD i []).getD k 0);rw[Nat.add_mul];omega
theorem FY{w:World}{vn vb vs u:Value}{f:eh}(F:Old S w)(hf:dw w S vn vb vs f)(PJ:eW f=0)(QK:qo f)(hp:cX w S u p)(Q4:p.length=3*f.nodes.length)(Xy:∀q∈p,rl q<=100000)(hb:Bl (eI p (-1))):
  eH PG GT.sH #[.agg #[vn,vb,vs],u] w (eR w fun v' Y=>(iB (c9 f) (eI p (-1)) f.cols=none/\v'= .tuple #[nls,.bool false])\/∃x vx,nA (c9 f) f.cols (fun t=>(dM f).getD t 0) (eI p (-1)) x/\v'= .tuple #[vx,.bool true]/\cX Y (Nf w Y) vx x):=by
 have V:=bR w;obtain⟨an,cn,ab,cb,aq,cq,rfl,rfl,rfl,R4,RY,SX⟩:=hf.shape;have Oz:=lQ PJ;have hlen:=gE f;have VR:=gl f;have US:=QK.Mp;have Vm:=QK.r12;have PM:=qZ f;have QP:f.cols=f.bars.length+f.dB.length:=rfl;obtain⟨ap,cp,rfl,Yd,hmp⟩:=dT.shape hp;have Q3:(eI p (-1)).length=(c9 f).length:=by rw[eI,aL,VR];exact Q4
 have hw0:=QK.La hb;have PQ:=QK.aAD (b:=eI p (-1));refine xX bv ?_;refine cQ (cE V (fun _ J v Y=>(∃vr,v= .agg #[vr,iV f.cols]/\dD Y (Nf J Y) vr (c9 f))/\fz f.cols (c9 f)/\Ht (c9 f) 2) (fun O J r=>vY (S:=S) (oS F r) (hf.cR (kS V r F)) Oz) ?_);rintro O _ _ _ PA r L V E ⟨⟨vr,rfl,k1⟩,-,-⟩;have hM:=dD.cP k1 (nw r E);clear r;obtain⟨am,cm,rfl,SB,Qr⟩:=dI.shape hM;refine dP (idO 10) ?_;refine cE V (pR cY ((-1:Int):Rat)) (fun O J r=>kh (-1) J bi bi) ?_;rintro O _ v2 _ Oy r L V E W;replace hM:=dD.cS hM r oF L (mC E);have hd:=W.cP (nw r E);clear r;obtain⟨A0,A1,A2,A3,A4,A5,A6,A7,rfl⟩:=hd.shape;refine cE V (fun _ J v Y=>eV Y FF J.heap.size [(J.heap.size,Y.heap.size)] v p.length (eI p (-1))) (fun O J r=>FG (S:=Cv S w.heap.size Oy) (rlo r F) (dK.cP (cX.l (cX.cR hp (kS V r F)) fun q hq=>by have:=Xy q hq;omega) fun g X=>.inl X) (((hd.rel r oF).l bi).cP fun g X=>Dh X) be) ?_;rintro O _ _ _ PH r L V E W;replace hM:=dD.cS hM r oF L (mC E);clear hd;have hB:=W.iR (S:=FF) r.dA (mN E);clear r;clear W;obtain⟨a3,c3,rfl,Xw⟩:=hB.row.form;refine cU (J9:=fun _ J v Y=>(iB (c9 f) (eI p (-1)) f.cols=none/\v= .tuple #[nls,.bool false])\/∃x vx,iB (c9 f) (eI p (-1)) f.cols=some x/\v= .tuple #[vx,.bool true]/\eV Y (Cf w PH) J.heap.size [(J.heap.size,Y.heap.size)] vx f.cols x) (fun O J r=>yW (M:=c9 f) (b:=eI p (-1)) hlen hw0▸Ij (C:=Cf w PH) (S:=Cf w PH) (h:=30) (rlo r oF) (rlo r oF) (dD.rel hM r oF) ((hB.rel r oF).c) Q3 hlen be be (pT (j4 hlen) hw0 qD (by rw[wX]at *;omega)) bi) ?_;rintro O RF v4 Qw r L hb (⟨S2,rfl⟩|⟨x0,vx,SS,rfl,k2⟩)
 .replace V:=V.tr hb;clear r L hb;exact rtn V fun J8 we re=>.inl ⟨S2,rfl⟩
 replace V:=V.tr hb;replace hM:=dD.cS (N:=(RF.heap.size,Qw.heap.size)::PH) hM r oF L fun x U=>aB _ U;have hX:=k2.aDc r.dA;clear r L hb k2 hB;generalize (RF.heap.size,Qw.heap.size)::PH=PV at*
 obtain⟨ax,cx,rfl,To⟩:=hX.row.form;obtain⟨hx0l,-⟩:=my hlen SS;have hx0D:=QK.aD5 hb SS;have Xz:∀q∈x0,rl q<=26:=fun q hq=>by
  obtain⟨Fd,hD⟩:=hx0D;have I:=hD.rl q hq;have G:ln (wt 25)<=26:=gg.2 (LN bi);omega
 have hw1:=QK.aAE hx0D;have Pj:=QK.Lb (b:=iP (dJ (c9 f) f.cols) (dM f) x0);obtain⟨c,hc,QW,hfrc⟩:=QK.aBj.force (fl:=dM f) SS;have Ud:=QK.aCv hx0D hc;have hKr:∀r∈dJ (c9 f) f.cols,∀q∈r,rl q<=14:=fun r hr q hq=>by
  obtain⟨Fd,hD⟩:=QK.ker;have I:=hD.rl r hr q hq;have G:ln (wt 13)<=14:=gg.2 (LN bi);omega
 have hKl:=qC (c9 f) f.cols;have hK18:=QK.aC1;have hSl:=qE (dJ (c9 f) f.cols) (dM f);have hfx:=QK.fx;have Rb:=yW (M:=fJ (dJ (c9 f) f.cols) (dM f)) (b:=iP (dJ (c9 f) f.cols) (dM f) x0) hSl hw1;rw[hc]at Rb;have hredB:=pT (M:=eU (fJ (dJ (c9 f) f.cols) (dM f)) (iP (dJ (c9 f) f.cols) (dM f) x0)) (h:=1930) (j4 hSl) hw1 qD be;refine dP [.x 0,.x 2,.x 1,.x 3,.x 4,.x 5] ?_;refine cU (J9:=fun _ J v Y=>dD Y (Nf J Y) v (dJ (c9 f) f.cols)) (fun O J r=>Js (M:=c9 f) (n:=f.cols) hlen QK.mV▸Kp (C:=Cf w PV) (S:=Cf w PV) (h:=20) (rlo r oF) (rlo r oF) (dD.rel hM r oF) hlen be be (pT hlen QK.mV bi (by have:=QK.size;omega)) (Kq hlen QK.mV bi (by have:=QK.size;omega)) bi) ?_;rintro O SZ v5 SP r L PE W;replace V:=V.tr PE;have S1:∀g,(Value.slice ax f.cols cx).ownBlock=some g->g<SZ.heap.size:=fun g e=>rlo r oF g (hX.new g e);clear hM;replace hX:=hX.cS (N:=(SZ.heap.size,SP.heap.size)::PV) r oF L fun x U=>aB _ U;have hK:=hJ.fresh (S:=FF) (v:=(.slice ax f.cols cx)) W r S1;clear r L PE S1 W;generalize (SZ.heap.size,SP.heap.size)::PV=Qk at*
 obtain⟨ak,ck,rfl,Th,XO⟩:=dI.shape hK;refine cU (J9:=fun _ J v Y=>dK Y (Nw S J Y) v (dM f)) (fun O J r=>FL (S:=S) (oS F r) (hf.cR (kS V r F)) Oz) ?_;rintro O Rv v6 Rk r L PE W;replace V:=V.tr PE;have S1:∀g,(Value.slice ax f.cols cx).ownBlock=some g->g<Rv.heap.size:=fun g e=>rlo r oF g (hX.new g e);replace hX:=hX.cS (N:=(Rv.heap.size,Rk.heap.size)::Qk) r oF L fun x U=>aB _ U;replace hK:=hJ.cS (N:=(Rv.heap.size,Rk.heap.size)::Qk) hK r oF L fun x U=>aB _ U;have hL:=dK.cP (S':=Cv S w.heap.size ((Rv.heap.size,Rk.heap.size)::Qk)) W fun g X=>X.elim .inl fun h=>.inr ⟨by have:=r.dA;omega,_,_,aH,h.1,h.2⟩;clear r L PE S1 W;generalize (Rv.heap.size,Rk.heap.size)::Qk=RM at*
 obtain⟨al,cl,rfl,SG,SA⟩:=dT.shape hL;rw[PM]
 refine⟨Nat×List Value×List (List Value)×World×Iv,fun z=>⟨[(7,sV ax f.cols cx),(9,.o (.v (.slice ak (dJ (c9 f) f.cols).length ck))),(10,sV al f.cols cl),(11,pP 2 0),(43,.o (.v (.slice ak (dJ (c9 f) f.cols).length ck))),(44,.o (.v (iV (dJ (c9 f) f.cols).length))),(12,.o (.w 4 z.2.2.1.length)),(45,iN z.1)],[(2,.box T.eL [.w 3 z.2.1.length,.v (iV (dJ (c9 f) f.cols).length)]),(3,.vec T.gF 1 z.2.1),(4,.vec T.Rat 4 z.2.2.1.flatten)],5,z.2.2.2.2,z.2.2.2.1⟩,fun z=>(dJ (c9 f) f.cols).length-z.1,
  fun z=>z.1<=(dJ (c9 f) f.cols).length/\Bq w z.2.2.2.1/\eV z.2.2.2.1 FF w.heap.size z.2.2.2.2 (.slice ax f.cols cx) f.cols x0/\dD z.2.2.2.1 (Bs FF w.heap.size z.2.2.2.2 (.slice ax f.cols cx)) (.slice ak (dJ (c9 f) f.cols).length ck) (dJ (c9 f) f.cols)/\dK z.2.2.2.1 (Cv S w.heap.size z.2.2.2.2) (.slice al f.cols cl) (dM f)/\dZ z.2.2.2.1 (Bs FF w.heap.size z.2.2.2.2 (.slice ax f.cols cx)) z.2.1 ((fJ (dJ (c9 f) f.cols) (dM f)).take z.1)/\dq z.2.2.2.1 (Bs FF w.heap.size z.2.2.2.2 (.slice ax f.cols cx)) z.2.2.1 ((iP (dJ (c9 f) f.cols) (dM f) x0).take z.1),?_,?_⟩
 .intro O J R;exact⟨(0,[],[],J,_),⟨aR _,V.tr R.cZ,hX.rel R oF,hJ.rel hK R oF,by have:=dK.rel hL R F;rw[PM]at this;exact this,by simp[dZ],dq.nil⟩,Sub.EH 2 0 T.gF 1 rfl rfl (by simp[kK,SV.sc,At.sc,fc]) R fun In r1=>Sub.nil 12 T.Rat 4 rfl (by simp[kK,SV.sc,At.sc,fc]) r1 fun If r2=>sbgn [] r2⟩
 clear V hX hK hL;rintro⟨i,rv,rc,w7,iv⟩ ⟨D,V,hX,hK,hL,hR,hG⟩;dsimp only at D V hX hK hL hR hG ⊢;have PN:rv.length=i:=by rw[hR.1,ah,fJ,aL];omega
 have hgl:rc.length=i:=by rw[hG.len,ah,iP,aL];omega
 have XH:=eP hG.four;apply bS<;>intro Ou
 .have Ou:i<(dJ (c9 f) f.cols).length:=by have:=aK Ou;omega
  obtain⟨s,hs⟩:=gO (dJ (c9 f) f.cols) i;have TE:s.length=f.cols:=hKl s (aC hs);have WA:=hKr s (aC hs);obtain⟨adm1,um,ham1,QZ,km1,kn1⟩:=dI.load hK hs;obtain⟨as1,cs1,rfl,-,-⟩:=dT.shape QZ;obtain⟨bent,UT⟩:=exq (fu s (dM f));have VE:bent.length=f.cols:=by rw[<-UT,ki,TE]
  have Yj:∀q∈bent,rl q<=20:=fun q hq=>by
   rw[<-UT]at hq;obtain⟨t,ht⟩:=aU hq;have Vn:t<s.length:=by have:=(aE.1 ht).1;rw[ki]at this;exact this
   have I:=ox (a:=s) (b:=dM f) Vn;rw[getD_some ht]at I;have G:=fh (s.getD t 0) ((dM f).getD t 0);have h3:=WA (s.getD t 0) (by rw[getD_some (aD Vn)];exact bA _);have h4:=QK.fxD (t:=t) be;rw[I];omega
  refine⟨adm1,ham1,be,.slice as1 s.length cs1,fun O J r=>?_,?_⟩
  .rw[aF,cV (w:=w7) (Y:=J) (by rw[dO];exact rls r oF km1.1)];exact kn1
  refine cQ (cU (J9:=fun _ J v Y=>cX Y (Nf J Y) v bent) (fun O J r=>(UT▸MA (S:=Cv S w.heap.size iv) (rlo r F) (dK.cP (cX.l (fO.cv (fO.rel QZ r oF)) fun q hq=>by have:=WA q hq;omega) fun g X=>Dh X) (dK.rel hL r F) (by rw[TE,PM];exact aP _) be).mono fun _ _ ⟨v2,e1,e2,e3⟩=>⟨v2,e1,e2,cX.cP e3.c fun g X=>X.elim (fun h=>h.elim) fun⟨_,lo,D,G,h3,h4⟩=>by
   simp at G;obtain⟨rfl,rfl⟩:=G
   exact .inr ⟨h3,h4⟩⟩) ?_)
  rintro O Sv v8 TN r L PE W;replace V:=V.tr PE;have S1:∀g,(Value.slice ax f.cols cx).ownBlock=some g->g<Sv.heap.size:=fun g e=>rlo r oF g (hX.new g e);replace hX:=hX.cS (N:=(Sv.heap.size,TN.heap.size)::iv) r oF L fun x U=>aB _ U;replace hK:=hJ.cS (N:=(Sv.heap.size,TN.heap.size)::iv) hK r oF L fun x U=>aB _ U;replace hL:=dK.cS (N:=(Sv.heap.size,TN.heap.size)::iv) hL r F L fun x U=>aB _ U;replace hR:=oa.cS (N:=(Sv.heap.size,TN.heap.size)::iv) hR r oF L fun x U=>aB _ U;replace hG:=kj.cS (N:=(Sv.heap.size,TN.heap.size)::iv) hG r oF L fun x U=>aB _ U;have hE:=fO.fresh (S:=FF) (v:=(.slice ax f.cols cx)) W r S1;clear r L PE S1 W;generalize (Sv.heap.size,TN.heap.size)::iv=R5 at*
  clear QZ;obtain⟨ae,ce,rfl,-,-⟩:=dT.shape hE;rw[VE]
  refine⟨Nat×List (List Value)×World×Iv,fun z=>⟨[(7,sV ax f.cols cx),(9,.o (.v (.slice ak (dJ (c9 f) f.cols).length ck))),(10,sV al f.cols cl),(11,pP 2 0),(43,.o (.v (.slice ak (dJ (c9 f) f.cols).length ck))),(44,.o (.v (iV (dJ (c9 f) f.cols).length))),(12,.o (.w 4 rc.length)),(45,iN i),(15,sV ae f.cols ce),(52,.o (.v (.slice ak (dJ (c9 f) f.cols).length ck))),(53,.o (.v (iV (dJ (c9 f) f.cols).length))),(16,.o (.w 5 z.2.1.length)),(54,iN z.1)],[(5,.vec T.Rat 4 z.2.1.flatten),(2,.box T.eL [.w 3 rv.length,.v (iV (dJ (c9 f) f.cols).length)]),(3,.vec T.gF 1 rv),(4,.vec T.Rat 4 rc.flatten)],6,z.2.2.2,z.2.2.1⟩,fun z=>(dJ (c9 f) f.cols).length-z.1,
   fun z=>z.1<=(dJ (c9 f) f.cols).length/\Bq w z.2.2.1/\(eV z.2.2.1 FF w.heap.size z.2.2.2 (.slice ax f.cols cx) f.cols x0/\dD z.2.2.1 (Bs FF w.heap.size z.2.2.2 (.slice ax f.cols cx)) (.slice ak (dJ (c9 f) f.cols).length ck) (dJ (c9 f) f.cols)/\dK z.2.2.1 (Cv S w.heap.size z.2.2.2) (.slice al f.cols cl) (dM f)/\dZ z.2.2.1 (Bs FF w.heap.size z.2.2.2 (.slice ax f.cols cx)) rv ((fJ (dJ (c9 f) f.cols) (dM f)).take i)/\dq z.2.2.1 (Bs FF w.heap.size z.2.2.2 (.slice ax f.cols cx)) rc ((iP (dJ (c9 f) f.cols) (dM f) x0).take i)/\cX z.2.2.1 (Bs FF w.heap.size z.2.2.2 (.slice ax f.cols cx)) (.slice ae f.cols ce) bent)/\dq z.2.2.1 (Bs FF w.heap.size z.2.2.2 (.slice ax f.cols cx)) z.2.1 (((dJ (c9 f) f.cols).map fun r=>fD bent r f.cols).take z.1),?_,?_⟩
  .intro O J R;exact⟨(0,[],J,_),⟨aR _,V.tr R.cZ,⟨hX.rel R oF,hJ.rel hK R oF,dK.rel hL R F,oa.rel hR R oF,kj.rel hG R oF,by have:=fO.rel hE R oF;rw[VE]at this;exact this⟩,dq.nil⟩,Sub.nil 16 T.Rat 4 rfl (by simp[kK,SV.sc,At.sc,fc]) R fun If r2=>sbgn [] r2⟩
  clear V hX hK hL hR hG hE;rintro⟨j,A,w8,iv⟩ ⟨hj,V,⟨hX,hK,hL,hR,hG,hE⟩,hD⟩;dsimp only at hj V hX hK hL hR hG hE hD ⊢;have SU:A.length=j:=by rw[hD.len,ah,aL];omega
  have hdf:=eP hD.four;apply bS<;>intro Pn
  .have Pn:j<(dJ (c9 f) f.cols).length:=by have:=aK Pn;omega
   obtain⟨t,ht⟩:=gO (dJ (c9 f) f.cols) j;have Vn:t.length=f.cols:=hKl t (aC ht);have htr:=hKr t (aC ht);obtain⟨adm2,um2,ham2,QZ,km2,kn2⟩:=dI.load hK ht;obtain⟨as2,cs2,rfl,-,-⟩:=dT.shape QZ;refine⟨adm2,ham2,be,.slice as2 t.length cs2,fun O J r=>?_,?_⟩
   .rw[aF,cV (w:=w8) (Y:=J) (by rw[dO];exact rls r oF km2.1)];exact kn2
   refine cQ (cU (J9:=fun _ J v Y=>cY Y (Nf J Y) v (fD bent t f.cols)) (fun O J r=>VE▸aA9 (S:=Cf w iv) (h:=21) (rlo r oF) (cX.l (by have:=fO.cv (fO.rel hE r oF);rw[<-VE]at this;exact this) fun q hq=>by have:=Yj q hq;omega) (cX.l (fO.cv (fO.rel QZ r oF)) fun q hq=>by have:=htr q hq;omega) be (fun q hq=>by have:=Yj q hq;omega) (fun q hq=>by have:=htr q hq;omega) bi be) ?_);rintro O Rc v9 Rl r L PE W;replace V:=V.tr PE;have S1:∀g,(Value.slice ax f.cols cx).ownBlock=some g->g<Rc.heap.size:=fun g e=>rlo r oF g (hX.new g e);replace hX:=hX.cS (N:=(Rc.heap.size,Rl.heap.size)::iv) r oF L fun x U=>aB _ U;replace hK:=hJ.cS (N:=(Rc.heap.size,Rl.heap.size)::iv) hK r oF L fun x U=>aB _ U;replace hL:=dK.cS (N:=(Rc.heap.size,Rl.heap.size)::iv) hL r F L fun x U=>aB _ U;replace hR:=oa.cS (N:=(Rc.heap.size,Rl.heap.size)::iv) hR r oF L fun x U=>aB _ U;replace hG:=kj.cS (N:=(Rc.heap.size,Rl.heap.size)::iv) hG r oF L fun x U=>aB _ U;replace hE:=fO.cS (N:=(Rc.heap.size,Rl.heap.size)::iv) hE r oF L fun x U=>aB _ U;replace hD:=kj.cS (N:=(Rc.heap.size,Rl.heap.size)::iv) hD r oF L fun x U=>aB _ U;have hd:=nP.fresh (S:=FF) (v:=(.slice ax f.cols cx)) W r S1;clear r L PE S1 W;generalize (Rc.heap.size,Rl.heap.size)::iv=RZ at*
   obtain⟨C0,C1,C2,C3,C4,C5,C6,C7,rfl⟩:=hd.shape;clear QZ;have Xb:=hD.push (Z:=rC C0 C1 C2 C3 C4 C5 C6 C7) (q:=fD bent t f.cols) ⟨_,_,_,_,_,_,_,_,rfl,hd⟩ rfl;rw[show (((dJ (c9 f) f.cols).map fun r=>fD bent r f.cols).take j)++[fD bent t f.cols]=((dJ (c9 f) f.cols).map fun r=>fD bent r f.cols).take (j+1) by rw[bB,aO,ht];rfl]at Xb;have QI:A.flatten++(rC C0 C1 C2 C3 C4 C5 C6 C7:List Value)=(A++([rC C0 C1 C2 C3 C4 C5 C6 C7]:List (List Value))).flatten:=by simp
   refine .inl ?_;refine⟨be,be,mx,((j+1:Nat):Int),wo,?_⟩;intro I' w6 R;exact⟨(j+1,A++[rC C0 C1 C2 C3 C4 C5 C6 C7],w6,_),⟨Pn,V.tr R.cZ,⟨hX.rel R oF,hJ.rel hK R oF,dK.rel hL R F,oa.rel hR R oF,kj.rel hG R oF,fO.rel hE R oF⟩,kj.rel Xb R oF⟩,sbgn [(5,7)] R ⟨by dsimp only;rw[<-QI];rfl,rfl,rfl,rfl,trivial⟩ ⟨rfl,rfl,rfl,rfl,rfl,rfl,rfl,rfl,rfl,rfl,rfl,by dsimp only;rw[l1];rfl,rfl,trivial⟩,dec Pn⟩
  have Pn:j=(dJ (c9 f) f.cols).length:=by have:=aG Pn;omega
  rw[Pn,bH (by rw[aL];exact aP _)]at hD;have Ov:(fJ (dJ (c9 f) f.cols) (dM f)).take i++[((dJ (c9 f) f.cols).map fun r=>fD bent r f.cols)]=(fJ (dJ (c9 f) f.cols) (dM f)).take (i+1):=by
   rw[bB,fJ,aO,hs,<-UT,<-TE];rfl
  have hrgt:(iP (dJ (c9 f) f.cols) (dM f) x0).take i++[-(fD bent x0 f.cols)]=(iP (dJ (c9 f) f.cols) (dM f) x0).take (i+1):=by
   rw[bB,iP,aO,hs,<-UT,<-TE];rfl
  refine mi hτ (id3:=6) (id2:=5) (tH:=[(2,.box T.eL [.w 3 rv.length,.v (iV (dJ (c9 f) f.cols).length)]),(3,.vec T.gF 1 rv),(4,.vec T.Rat 4 rc.flatten)]) rfl rfl rfl rfl bv ⟨rfl,rfl,rfl,trivial⟩ rfl rfl (fun O J r r2 TZ=>?_);have Qf:∀g,(Value.slice ax f.cols cx).ownBlock=some g->∀id b,dU [(6,.box T.gF [.w 5 A.length]),(5,.vec T.Rat 4 A.flatten),(2,.box T.eL [.w 3 rv.length,.v (iV (dJ (c9 f) f.cols).length)]),(3,.vec T.gF 1 rv),(4,.vec T.Rat 4 rc.flatten)] id=some b->(O id).nil=false->(O id).g≠g:=fun g e id b I G=>Rel.not r oF (hX.new g e) id b I G;have SK:=r.low 6 _ rfl (r.fits (id:=6) rfl).1;have hB3:Bs FF w.heap.size (((O 6).g,(O 6).g+1)::kC (O 5) iv) (.slice ax f.cols cx) (O 6).g:=⟨.inr ⟨SK.1,_,_,aH,lr,bc _⟩,fun e=>Qf _ e 6 _ rfl (r.fits (id:=6) rfl).1 rfl⟩
  have Q2:∀p,p∈iv->p∈((O 6).g,(O 6).g+1)::kC (O 5) iv:=fun p hp=>aB _ (kx p hp);have Yk:=dq.list ((kj.rel hD r oF).cP fun g X=>Bs.mono Q2 X) (r.yC (T:=Bs FF w.heap.size (((O 6).g,(O 6).g+1)::kC (O 5) iv) (.slice ax f.cols cx)) (id:=5) (sz:=4) (m:=A.length) rfl hdf mx bi hD.one fun W=>⟨.inr ⟨(r.low 5 _ rfl W).1,_,_,aB _ (Ha W),lr,bc _⟩,fun e=>Qf _ e 5 _ rfl W rfl⟩);have PX:((At.w 5 A.length).den O).oneCell'=true:=At.MF;have Pf:=V.tr r.cZ;replace hX:eV J FF w.heap.size (((O 6).g,(O 6).g+1)::kC (O 5) iv) (.slice ax f.cols cx) f.cols x0:=by
   have I:=hX.rel r oF;exact⟨I.row.cP fun g X=>⟨X.1.mono Q2,X.2⟩,fun g X=>(I.new g X).mono Q2⟩
  replace hK:=dD.cP (hJ.rel hK r oF) fun g X=>Bs.mono Q2 X;replace hL:=dK.cP (dK.rel hL r F) fun g X=>X.mono Q2;replace hR:=dZ.cP (oa.rel hR r oF) fun g X=>Bs.mono Q2 X;replace hG:=dq.cP (kj.rel hG r oF) fun g X=>Bs.mono Q2 X;replace hE:=cX.cP (fO.rel hE r oF) fun g X=>Bs.mono Q2 X;clear r2 SK hD Qf V;generalize (At.w 5 A.length).den O=ur at*
  generalize (O 6).g=gy at*
  generalize (gy,gy+1)::kC (O 5) iv=ivg at*
  clear r;refine⟨[ur],rfl,by simpa using PX,fun If Y r2 _=>⟨_,rfl,fun j u hu=>?_⟩,?_⟩
  .have h5:=rls r2 (dV _) hB3.1;rw[dX,cell_of (h5.trans TZ)];rcases j with _|j
   .exact hu
   .cases hu
  refine⟨bv,be,mx,?_⟩;have Q5:=hR.push PX Yk;rw[Ov]at Q5;clear Yk hR TZ hB3;rename_i wg _;have V:=Pf;clear Pf;refine cQ (cU (J9:=fun _ J v Y=>cY Y (Nf J Y) v (fD bent x0 f.cols)) (fun O J r=>VE▸aA9 (S:=Cf w ivg) (h:=30) (rlo r oF) (cX.l (by have:=fO.cv (fO.rel hE r oF);rw[<-VE]at this;exact this) fun q hq=>by have:=Yj q hq;omega) (cX.l (by have:=(hX.rel r oF).c;rw[<-VE]at this;exact this) fun q hq=>by have:=Xz q hq;omega) be (fun q hq=>by have:=Yj q hq;omega) (fun q hq=>by have:=Xz q hq;omega) bi be) ?_);rintro O Q9 v11 Qi r L PE W;replace V:=V.tr PE;have S1:∀g,(Value.slice ax f.cols cx).ownBlock=some g->g<Q9.heap.size:=fun g e=>rlo r oF g (hX.new g e);replace hX:=hX.cS (N:=(Q9.heap.size,Qi.heap.size)::ivg) r oF L fun x U=>aB _ U;replace hK:=hJ.cS (N:=(Q9.heap.size,Qi.heap.size)::ivg) hK r oF L fun x U=>aB _ U;replace hL:=dK.cS (N:=(Q9.heap.size,Qi.heap.size)::ivg) hL r F L fun x U=>aB _ U;replace Q5:=oa.cS (N:=(Q9.heap.size,Qi.heap.size)::ivg) Q5 r oF L fun x U=>aB _ U;replace hG:=kj.cS (N:=(Q9.heap.size,Qi.heap.size)::ivg) hG r oF L fun x U=>aB _ U;replace hE:=fO.cS (N:=(Q9.heap.size,Qi.heap.size)::ivg) hE r oF L fun x U=>aB _ U;have hd:=nP.fresh (S:=FF) (v:=(.slice ax f.cols cx)) W r S1;clear r L PE S1 W;generalize (Q9.heap.size,Qi.heap.size)::ivg=Pp at*
  obtain⟨F0,F1,F2,F3,F4,F5,F6,F7,rfl⟩:=hd.shape;have hdr:=si (h:=30) (xs:=bent) (ys:=x0) (fun q hq=>by have:=Yj q hq;omega) (fun q hq=>by have:=Xz q hq;omega) bi f.cols;refine cQ (cU (J9:=fun _ J v Y=>cY Y (Nf J Y) v (-(fD bent x0 f.cols))) (fun O J r=>zG (S:=Cf w Pp) (rlo r oF) (cY.l (nP.cv (nP.rel hd r oF)) be)) ?_);rintro O R9 v12 Rs r L PE W;replace V:=V.tr PE;have S1:∀g,(Value.slice ax f.cols cx).ownBlock=some g->g<R9.heap.size:=fun g e=>rlo r oF g (hX.new g e);replace hX:=hX.cS (N:=(R9.heap.size,Rs.heap.size)::Pp) r oF L fun x U=>aB _ U;replace hK:=hJ.cS (N:=(R9.heap.size,Rs.heap.size)::Pp) hK r oF L fun x U=>aB _ U;replace hL:=dK.cS (N:=(R9.heap.size,Rs.heap.size)::Pp) hL r F L fun x U=>aB _ U;replace Q5:=oa.cS (N:=(R9.heap.size,Rs.heap.size)::Pp) Q5 r oF L fun x U=>aB _ U;replace hG:=kj.cS (N:=(R9.heap.size,Rs.heap.size)::Pp) hG r oF L fun x U=>aB _ U;replace hE:=fO.cS (N:=(R9.heap.size,Rs.heap.size)::Pp) hE r oF L fun x U=>aB _ U;clear hd;have Pc:=nP.fresh (S:=FF) (v:=(.slice ax f.cols cx)) W r S1;clear r L PE S1 W;generalize (R9.heap.size,Rs.heap.size)::Pp=Wb at*
  obtain⟨J0,J1,J2,J3,J4,J5,J6,J7,rfl⟩:=Pc.shape;have Rz:=hG.push (Z:=rC J0 J1 J2 J3 J4 J5 J6 J7) (q:= -(fD bent x0 f.cols)) ⟨_,_,_,_,_,_,_,_,rfl,Pc⟩ rfl;rw[hrgt]at Rz;have QI:rc.flatten++(rC J0 J1 J2 J3 J4 J5 J6 J7:List Value)=(rc++([rC J0 J1 J2 J3 J4 J5 J6 J7]:List (List Value))).flatten:=by simp
  refine .inl ?_;refine⟨be,be,mx,((i+1:Nat):Int),wo,?_⟩;intro I' w6 R;exact⟨(i+1,rv++[ur],rc++[rC J0 J1 J2 J3 J4 J5 J6 J7],w6,_),⟨Ou,V.tr R.cZ,hX.rel R oF,hJ.rel hK R oF,dK.rel hL R F,oa.rel Q5 R oF,kj.rel Rz R oF⟩,sbgn [(3,7),(4,9)] R ⟨by dsimp only;rw[l1];rfl,rfl,by dsimp only;rw[<-QI];rfl,trivial⟩ ⟨rfl,rfl,rfl,rfl,rfl,rfl,by dsimp only;rw[l1];rfl,rfl,trivial⟩,dec Ou⟩
 have Ou:i=(dJ (c9 f) f.cols).length:=by have:=aG Ou;omega
 rw[Ou,bH (by rw[fJ,aL];exact aP _)]at hR;rw[Ou,bH (by rw[iP,aL];exact aP _)]at hG;have R0:rv.length=(fJ (dJ (c9 f) f.cols) (dM f)).length:=hR.1
 refine cQ (cU (J9:=fun _ J v Y=>∃vc,v= .tuple #[vc,.bool true]/\eV Y (Bs FF w.heap.size iv (.slice ax f.cols cx)) J.heap.size [(J.heap.size,Y.heap.size)] vc (dJ (c9 f) f.cols).length c) (fun O J r=>(FH (C:=(fun g=>g<J.heap.size)) (Fd:=(fun g=>g<J.heap.size)) (S:=Bs FF w.heap.size iv (.slice ax f.cols cx)) (M:=fJ (dJ (c9 f) f.cols) (dM f)) (b:=iP (dJ (c9 f) f.cols) (dM f) x0) (cols:=(dJ (c9 f) f.cols).length) (h:=1930) (fun g X=>X) (fun g X=>X) (fun g X=>rlo r oF g X.1) ⟨rv,by rw[<-R0];exact r.yC (T:=(fun g=>g<J.heap.size)) (id:=3) (sz:=1) (m:=rv.length) rfl bv mx bi hR.2.1 fun W=>(r.low 3 _ rfl W).2,hR.1,fun a u x I G=>fO.rel (hR.2.2 a u x I G) r oF⟩ ⟨rc,by rw[<-hG.len];exact r.yC (T:=(fun g=>g<J.heap.size)) (id:=4) (sz:=4) (m:=rc.length) rfl XH mx bi hG.one fun W=>(r.low 4 _ rfl W).2,hG.len,fun a Z x I G=>(kj.rel hG r oF).at_ a Z x I G⟩ (by rw[iP,fJ,aL,aL]) hSl be (by rw[fJ,aL];omega) hredB bi).mono fun _ _ ⟨v2,e1,e2,e3⟩=>⟨v2,e1,e2,by
  rcases e3 with⟨I,_⟩|⟨x2,vx,I,G,h3⟩
  .rw[Rb]at I;cases I
  .rw[Rb]at I;injection I with I;subst I;exact⟨vx,G,h3⟩⟩) ?_)
 rintro O Su v13 TV r L PE ⟨vc,rfl,W⟩;replace V:=V.tr PE;have S1:∀g,(Value.slice ax f.cols cx).ownBlock=some g->g<Su.heap.size:=fun g e=>rlo r oF g (hX.new g e);replace hX:=hX.cS (N:=(Su.heap.size,TV.heap.size)::iv) r oF L fun x U=>aB _ U;replace hK:=hJ.cS (N:=(Su.heap.size,TV.heap.size)::iv) hK r oF L fun x U=>aB _ U;have hC:=cX.cP W.c fun g X=>Bs.solved r S1 (fun _ h=>h) X;clear r L PE S1;generalize (Su.heap.size,TV.heap.size)::iv=Sf at*
 clear W hR hG hL;obtain⟨ac,cc,rfl,-,-⟩:=dT.shape hC;rw[QW]
 refine⟨Nat×World×Iv,fun z=>⟨[(7,sV ax f.cols cx),(19,.o (.v (.slice ac (dJ (c9 f) f.cols).length cc))),(87,.o (.v (.slice ak (dJ (c9 f) f.cols).length ck))),(88,.o (.v (iV (dJ (c9 f) f.cols).length))),(89,iN z.1)],[],0,z.2.2,z.2.1⟩,fun z=>(dJ (c9 f) f.cols).length-z.1,
  fun z=>z.1<=(dJ (c9 f) f.cols).length/\Bq w z.2.1/\eV z.2.1 FF w.heap.size z.2.2 (.slice ax f.cols cx) f.cols (mu (dJ (c9 f) f.cols) c x0 z.1)/\dD z.2.1 (Bs FF w.heap.size z.2.2 (.slice ax f.cols cx)) (.slice ak (dJ (c9 f) f.cols).length ck) (dJ (c9 f) f.cols)/\cX z.2.1 (Bs FF w.heap.size z.2.2 (.slice ax f.cols cx)) (.slice ac (dJ (c9 f) f.cols).length cc) c,?_,?_⟩
 .intro O J R;exact⟨(0,J,_),⟨aR _,V.tr R.cZ,hX.rel R oF,hJ.rel hK R oF,by have:=fO.rel hC R oF;rw[QW]at this;exact this⟩,sbgn [] R⟩
 clear V hX hK hC;rintro⟨i,w13,iv⟩ ⟨D,V,hX,hK,hC⟩;dsimp only at D V hX hK hC ⊢;apply bS<;>intro Ou
 .have Ou:i<(dJ (c9 f) f.cols).length:=by have:=aK Ou;omega
  obtain⟨s,hs⟩:=gO (dJ (c9 f) f.cols) i;have TE:s.length=f.cols:=hKl s (aC hs);have WA:=hKr s (aC hs);obtain⟨ci,Us⟩:=gO c i;have hcir:=Ud ci (aC Us);obtain⟨y0,Q8⟩:=exq (mu (dJ (c9 f) f.cols) c x0 i);have hy0l:y0.length=f.cols:=by rw[<-Q8,tT,hx0l]
  have hy0r:∀q∈y0,rl q<=75000:=fun q hq=>by
   rw[<-Q8]at hq;have I:=JD (a:=26) (b:=1927) Xz (fun r hr q hq=>by have:=hKr r hr q hq;omega) Ud i q hq;have G:i*(2*1927+5)<=18*(2*1927+5):=Nat.mul_le_mul_right _ be;omega
  have hnextA:mu (dJ (c9 f) f.cols) c x0 (i+1)=y0.mapIdx fun k q=>q+ci*s.getD k 0:=by rw[mu,Q8,getD_some Us,getD_some (d:=[]) hs]
  rw[Q8]at hX;obtain⟨adm3,um,ham3,QZ,km3,kn3⟩:=dI.load hK hs;obtain⟨as3,cs3,rfl,-,-⟩:=dT.shape QZ;refine⟨adm3,ham3,be,.slice as3 s.length cs3,fun O J r=>?_,?_⟩
  .rw[aF,cV (w:=w13) (Y:=J) (by rw[dO];exact rls r oF km3.1)];exact kn3
  rw[TE]
  refine⟨Nat×World×Iv,fun z=>⟨[(7,sV ax f.cols cx),(19,.o (.v (.slice ac (dJ (c9 f) f.cols).length cc))),(87,.o (.v (.slice ak (dJ (c9 f) f.cols).length ck))),(88,.o (.v (iV (dJ (c9 f) f.cols).length))),(89,iN i),(20,iN i),(94,sV as3 f.cols cs3),(95,iZ f.cols),(96,iN z.1)],[],0,z.2.2,z.2.1⟩,fun z=>f.cols-z.1,
   fun z=>z.1<=f.cols/\Bq w z.2.1/\eV z.2.1 FF w.heap.size z.2.2 (.slice ax f.cols cx) f.cols ((ig z.1 (fun k q=>q+ci*s.getD k 0) y0))/\dD z.2.1 (Bs FF w.heap.size z.2.2 (.slice ax f.cols cx)) (.slice ak (dJ (c9 f) f.cols).length ck) (dJ (c9 f) f.cols)/\cX z.2.1 (Bs FF w.heap.size z.2.2 (.slice ax f.cols cx)) (.slice ac (dJ (c9 f) f.cols).length cc) c/\cX z.2.1 (Bs FF w.heap.size z.2.2 (.slice ax f.cols cx)) (.slice as3 f.cols cs3) s,?_,?_⟩
  .intro O J R;exact⟨(0,J,_),⟨aR _,V.tr R.cZ,by dsimp only;rw[qX];exact hX.rel R oF,hJ.rel hK R oF,fO.rel hC R oF,by have:=fO.rel QZ R oF;rw[TE]at this;exact this⟩,sbgn [] R⟩
  clear V hX hK hC QZ;rintro⟨k,w14,iv⟩ ⟨K,V,hX,hK,hC,QZ⟩;dsimp only at K V hX hK hC QZ ⊢;apply bS<;>intro Ow
  .have Ow:=dL Ow;obtain⟨gx,rfl⟩:=hX.at be;obtain⟨q,hq⟩:=gO s k;obtain⟨y,hy⟩:=gO y0 k;have hyu:=xp (f:=fun k q=>q+ci*s.getD k 0) hy;have hqr:=WA q (aC hq);have hyr:=hy0r y (aC hy);obtain⟨adq,csq,Ut,hFq,_,hlq⟩:=dT.load QZ hq;obtain⟨q0,q1,q2,q3,q4,q5,q6,q7,rfl,hFq⟩:=hFq;obtain⟨ady,csy,VS,Rt,_,RL⟩:=dT.load hX.c hyu;obtain⟨y0',y1,y2,y3,y4,y5,y6,y7,rfl,Rt⟩:=Rt;obtain⟨adc,csc,Yg,hFc,_,Ty⟩:=dT.load hC Us;obtain⟨c0,c1,c2,c3,c4,c5,c6,c7,rfl,hFc⟩:=hFc;refine⟨adq,Ut,be,rC q0 q1 q2 q3 q4 q5 q6 q7,rfl,fun O J r j u hu=>?_,?_⟩
   .obtain⟨k1,k2⟩:=hlq j u hu;rw[aF,cV (w:=w14) (Y:=J) (by rw[dO,dO];exact rls r oF k1.1)];exact k2
   refine dP (idO 15) ?_;refine⟨ady,VS,be,rC y0' y1 y2 y3 y4 y5 y6 y7,rfl,fun O J r j u hu=>?_,?_⟩
   .obtain⟨k1,k2⟩:=RL j u hu;rw[aF,cV (w:=w14) (Y:=J) (by rw[dO,dO];exact rls r oF k1)];exact k2
   refine⟨adc,Yg,be,rC c0 c1 c2 c3 c4 c5 c6 c7,rfl,fun O J r j u hu=>?_,?_⟩
   .obtain⟨k1,k2⟩:=Ty j u hu;rw[aF,cV (w:=w14) (Y:=J) (by rw[dO,dO];exact rls r oF k1.1)];exact k2
   refine cU (J9:=fun _ J v Y=>cY Y (Nf J Y) v (ci*q)) (fun O J r=>DP (S:=Cf w iv) (rlo r oF) ((cY.l (nP.cv (nP.rel hFc r oF)) be).v) ((cY.l (nP.cv (nP.rel hFq r oF)) be).v)) ?_;rintro O VF v15 Vo r L PE W;replace V:=V.tr PE;have S1:∀g,(Value.slice (some ⟨gx,0,none⟩) f.cols cx).ownBlock=some g->g<VF.heap.size:=fun g e=>rlo r oF g (hX.new g e);replace hX:=hX.cS (N:=(VF.heap.size,Vo.heap.size)::iv) r oF L fun x U=>aB _ U;replace hK:=hJ.cS (N:=(VF.heap.size,Vo.heap.size)::iv) hK r oF L fun x U=>aB _ U;replace hC:=fO.cS (N:=(VF.heap.size,Vo.heap.size)::iv) hC r oF L fun x U=>aB _ U;replace QZ:=fO.cS (N:=(VF.heap.size,Vo.heap.size)::iv) QZ r oF L fun x U=>aB _ U;replace Rt:=cY.cS (N:=(VF.heap.size,Vo.heap.size)::iv) Rt r oF L fun x U=>aB _ U;have hm:=nP.fresh (S:=FF) (v:=(.slice (some ⟨gx,0,none⟩) f.cols cx)) W r S1;clear r L PE S1 W;generalize (VF.heap.size,Vo.heap.size)::iv=Vp at*
   obtain⟨K0,K1,K2,K3,K4,K5,K6,K7,rfl⟩:=hm.shape;refine cU (J9:=fun _ J v Y=>cY Y (Nf J Y) v (y+ci*q)) (fun O J r=>Gm (S:=Cf w Vp) (rlo r oF) ((cY.l (cY.rel Rt r oF) be).v) ((cY.l (nP.cv (nP.rel hm r oF)) (by have:=fh ci q;omega)).v)) ?_;rintro O Vq v16 Wu r L PE W;replace V:=V.tr PE;have S1:∀g,(Value.slice (some ⟨gx,0,none⟩) f.cols cx).ownBlock=some g->g<Vq.heap.size:=fun g e=>rlo r oF g (hX.new g e);replace hX:=hX.cS (N:=(Vq.heap.size,Wu.heap.size)::Vp) r oF L fun x U=>aB _ U;replace hK:=hJ.cS (N:=(Vq.heap.size,Wu.heap.size)::Vp) hK r oF L fun x U=>aB _ U;replace hC:=fO.cS (N:=(Vq.heap.size,Wu.heap.size)::Vp) hC r oF L fun x U=>aB _ U;replace QZ:=fO.cS (N:=(Vq.heap.size,Wu.heap.size)::Vp) QZ r oF L fun x U=>aB _ U;clear Rt;clear hm;have hd:=nP.fresh (S:=FF) (v:=(.slice (some ⟨gx,0,none⟩) f.cols cx)) W r S1;clear r L PE S1 W;generalize (Vq.heap.size,Wu.heap.size)::Vp=iv16 at*
   obtain⟨N0,N1,N2,N3,N4,N5,N6,N7,rfl⟩:=hd.shape;refine⟨⟨gx,0,none⟩,rfl,be,?_⟩;intro O J r;obtain⟨g,X,I,G,h3,h4,h5⟩:=(hX.rel r oF).store (j:=k) Ow (hd.cR (Bs.same r oF)) r oF;injection X with X;injection X with X;subst X;refine⟨I,G,h3,fun w5 Qv=>?_⟩;obtain⟨k1,k2,k3⟩:=h5 w5 Qv;have Pf:Bq w w5:=(V.tr r.cZ).tr (ju.grown k2 (fun g e=>by injection e with e;subst e;exact h4.elim (fun h=>h.elim) fun h=>h.1) r.dA);have R1:=hJ.kept hK r oF k2;have TH:=fO.kept hC r oF k2;have Q5:=fO.kept QZ r oF k2;have PL:(ig k (fun k q=>q+ci*s.getD k 0) y0).set k (y+ci*q)=(ig (k+1) (fun k q=>q+ci*s.getD k 0) y0):=by rw[<-nJ hy,getD_some hq]
   rw[PL]at k1;clear hX hK hC QZ V I G h3 h4 h5 Qv k2 k3 r hd;refine inc k ?_;intro I' w6 R;exact⟨(k+1,w6,_),⟨Ow,Pf.tr R.cZ,k1.rel R oF,hJ.rel R1 R oF,fO.rel TH R oF,fO.rel Q5 R oF⟩,sbgn [] R,dec Ow⟩
  have Ow:k=f.cols:=by have:=aG Ow;omega
  rw[Ow,<-hy0l,tZ,<-hnextA,hy0l]at hX;refine inc i ?_;intro I' w6 R;exact⟨(i+1,w6,_),⟨Ou,V.tr R.cZ,hX.rel R oF,hJ.rel hK R oF,fO.rel hC R oF⟩,sbgn [] R,dec Ou⟩
 have Ou:i=(dJ (c9 f) f.cols).length:=by have:=aG Ou;omega
 rw[Ou]at hX;exact rtn V fun J8 we re=>.inr ⟨_,_,hfrc,rfl,cX.out hX.c re oF⟩
end
variable{b:Int×Int×Rat}{l:List Ld}{S:Nat->Prop}{w:World}{f:eh}
theorem JE{i:Nat}(h:f.bars[i]? =some b):(dM f).getD i 0=b.2.2:=by
 have hl:=(aE.1 h).1;rw[List.getD,dM,aI (by rw[aL];exact hl),aO,h];rfl
theorem JF{i:Nat}(h:f.dB[i]? =some b):(dM f).getD (f.bars.length+i) 0=b.2.2:=by
 rw[List.getD,dM,aN (by rw[aL];omega),aL,Nat.add_sub_cancel_left,aO,h];rfl
theorem MG{vn vb vs:Value}(F:Old S w)(hf:dw w S vn vb vs f)(Pm:f.bars.length<=60/\f.dB.length<=60){i:Nat}(D:i<f.cols):
  eH PG GT.Cc #[.agg #[vn,vb,vs],iV i] w (eR w fun v' Y=>e9 Y S v' ((dM f).getD i 0)):=by
 have V:=bR w;have Xn:=hf;obtain⟨an,cn,ab,cb,aq,cq,rfl,rfl,rfl,R4,RY,SX⟩:=hf.shape;have QP:f.cols=f.bars.length+f.dB.length:=rfl;refine Dp bv ?_;apply bS<;>intro Ou
 .have K:i<f.bars.length:=by have:=aK Ou;omega
  obtain⟨b,hb⟩:=gO f.bars i;obtain⟨adb,Z,QV,hF,-,PW⟩:=Xn.bars.load bi hb;obtain⟨g0,g1,g2,g3,g4,g5,g6,g7,rfl,hF⟩:=hF;refine⟨adb,QV,be,rC g0 g1 g2 g3 g4 g5 g6 g7,rfl,fun O J r j u hu=>?_,?_⟩
  .have Wp:=(aE.1 hu).1;obtain⟨k1,k2⟩:=PW (2+j) u (by rcases j with _|_|_|_|j<;>first|exact hu|(have:j+4<4:=Wp;omega));rw[cV (w:=w) (Y:=J) (by simp only[dO];exact(V.tr r.cZ).block _ (F _ k1))];simp only[aF,Int.toNat_zero,Nat.zero_mul,aAl]at k2 ⊢
   first|exact k2|(rw [<-k2];congr 2;omega)
  exact rtn V fun J8 we re=>by rw[JE hb];exact hF.cR fun g X=>(V.tr re.cZ).block g (F g X)
 have Ou:f.bars.length<=i:=by have:=aG Ou;omega
 obtain⟨k,rfl⟩:∃k,i=f.bars.length+k:=⟨i-f.bars.length,be⟩
 have K:k<f.dB.length:=by omega
 refine⟨(k:Int),wo,?_⟩;obtain⟨b,hb⟩:=gO f.dB k;obtain⟨adb,Z,QV,hF,-,PW⟩:=Xn.dB.load bi hb;obtain⟨g0,g1,g2,g3,g4,g5,g6,g7,rfl,hF⟩:=hF;refine⟨adb,QV,be,rC g0 g1 g2 g3 g4 g5 g6 g7,rfl,fun O J r j u hu=>?_,?_⟩
 .have Wp:=(aE.1 hu).1;obtain⟨k1,k2⟩:=PW (2+j) u (by rcases j with _|_|_|_|j<;>first|exact hu|(have:j+4<4:=Wp;omega));rw[cV (w:=w) (Y:=J) (by simp only[dO];exact(V.tr r.cZ).block _ (F _ k1))];simp only[aF,Int.toNat_zero,Nat.zero_mul,aAl]at k2 ⊢
  first|exact k2|(rw [<-k2];congr 2;omega)
 exact rtn V fun J8 we re=>by rw[JF hb];exact hF.cR fun g X=>(V.tr re.cZ).block g (F g X)
theorem Kr(Oz:Ir f.nodes.length l):Bl (eI (ko f l) (-1)):=fun t=>by
 rcases aS t (eI (ko f l) (-1)).length with h|h
 .have G:t<(ko f l).length:=by rw[eI,aL]at h;exact h
  have h3:(ko f l)[t]∈ko f l:=bA G;rw[getD_some (show (eI (ko f l) (-1))[t]? =some ((ko f l)[t]* -1) by rw[eI,aO,aD G];rfl)];obtain⟨z,hz,QY⟩:=aV.1 h3;have hb:=FX Oz l.length lr z hz;have hl:=Oz.len;rw[<-QY,show(z:Rat)* -1=((-z:Int):Rat) by rw[Rat.intCast_neg];grind];exact Ib.int be
 .rw[jL h];exact Ib.zero _
abbrev aAy(f:eh):Nat->Rat:=fun t=>(dM f).getD t 0
theorem Ks{vn vb vs vl:Value}(F:Old S w)(hf:dw w S vn vb vs f)(hl:o9 w S vl l)(Si:eW f=0->qo f):
  eH PG GT.sA #[.agg #[vn,vb,vs],vl] w (eR w fun v' Y=>(mK f l≠0/\v'= .tuple #[nls,iV (mK f l)])\/(mK f l=0/\((iB (c9 f) (eI (ko f l) (-1)) f.cols=none/\v'= .tuple #[nls,iV 17])\/∃x vx,nA (c9 f) f.cols (aAy f) (eI (ko f l) (-1)) x/\v'= .tuple #[vx,iV 0]/\cX Y (Nf w Y) vx x))):=by
 have V:=bR w;obtain⟨an,cn,ab,cb,aq,cq,rfl,rfl,rfl,R4,RY,SX⟩:=hf.shape;obtain⟨al,cl,rfl,QW,SA⟩:=hl.shape;obtain⟨e0,EE⟩:=exq (mK f l);refine xS bv ?_;refine cQ (cE V (pE (iV e0)) (fun O J r=>(sk (oS F r) (hf.cR (kS V r F)) (hl.cR (kS V r F))).mono fun _ _ ⟨v2,e1,e2,e3⟩=>⟨v2,e1,e2,by rw[e3,EE]⟩) ?_);rintro O _ _ _ PA r L V E rfl;apply bS<;>intro L
 .have L:e0≠0:=by simpa using L
  exact rtn V fun J8 we re=>.inl ⟨by rw[EE];exact L,by rw[EE];rfl⟩
 have L:e0=0:=by simpa using L
 have Ux:mK f l=0:=by rw[EE,L]
 obtain⟨PJ,S8⟩:=q8 Ux;have QK:=Si PJ;have PS:=QK.toFrS;have S8:=MD S8;have US:=PS.Mp;have Vm:=PS.r12;have VR:=gl f;have hlen:=gE f;have hn4:=PS.n4;have Oz:=lQ PJ;have VV:=AF f l;have YS:f.cols=f.bars.length+f.dB.length:=rfl;refine dP (idO 10) ?_;refine cE V (fun _ J v Y=>cX Y (Nf J Y) v (ko f l)/\∀q∈ko f l,rl q<=1) (fun O J r=>(FK (oS F r) (hl.cR (kS V r F)) PS.n S8 rfl rfl).mono fun _ _ ⟨v2,e1,e2,e3,e4⟩=>⟨v2,e1,e2,cX.cP e3.c fun g X=>X.new,e4⟩) ?_;rintro O _ _ _ Oy r L V E ⟨W,YA⟩;have hP:=cX.cP W (nw r E);obtain⟨ap,cp,rfl,-,-⟩:=dT.shape hP;rw[VV];refine cU (J9:=fun _ J v Y=>(iB (c9 f) (eI (ko f l) (-1)) f.cols=none/\v= .tuple #[nls,.bool false])\/∃x vx,nA (c9 f) f.cols (aAy f) (eI (ko f l) (-1)) x/\v= .tuple #[vx,.bool true]/\cX Y (Nf J Y) vx x) (fun O J r=>FY (S:=fun g=>S g\/Cf w Oy g) (fun g X=>X.elim (oS F r g) (rlo r oF g)) (dw.cP (hf.cR (kS V r F)) fun g X=>.inl X) PJ QK (cX.cP (by have:=cX.rel hP r oF;rw[VV]at this;exact this) fun g X=>.inr X) VV (fun q hq=>by have:=YA q hq;omega) (Kr S8)) ?_;rintro O QD v3 QC r L hb (⟨S2,rfl⟩|⟨x,vx,U,rfl,W⟩)
 .replace V:=V.tr hb;exact rtn V fun J8 we re=>.inr ⟨Ux,.inl ⟨S2,rfl⟩⟩
 replace V:=V.tr hb;have hX:=cX.iR (S:=FF) W r.dA (iv:=(QD.heap.size,QC.heap.size)::Oy) aH;generalize (QD.heap.size,QC.heap.size)::Oy=ivx at*
 obtain⟨ax,cx,rfl,-,-⟩:=dT.shape hX;exact rtn V fun J8 we re=>.inr ⟨Ux,.inr ⟨x,_,U,rfl,cX.out hX re oF⟩⟩
end Go.Ex
namespace Go.Ex
variable{b:Int×Int×Rat}{M:List (List Rat)}{pl:List Int}{l:Nat}{q:Rat}{f:eh}
def grm(w:Nat->Rat)(e:Nat->Nat->Rat)(GT i k:Nat):Rat:=dC (fun l=>w l*(e l i*e l k)) GT
def rB(e:Nat->Nat->Rat)(d:Nat->Nat)(c:Nat->Rat)(n l:Nat):Rat:=dC (fun i=>c i*e l (d i)) n
section
variable{w:Nat->Rat}{e:Nat->Nat->Rat}{c:Nat->Rat}{d:Nat->Nat}{GT n:Nat}
theorem aAH:qf (fun i k=>grm w e GT (d i) (d k)) c n=dC (fun l=>w l*(rB e d c n l*rB e d c n l)) GT:=by
 unfold qf;rw[cT (g:=fun i=>dC (fun l=>c i*(w l*e l (d i)*rB e d c n l)) GT) fun i _=>?_,k8]
 .refine cT fun l _=>?_;rw[cT (g:=fun i=>(c i*e l (d i))*(w l*rB e d c n l)) fun i _=>by grind,jT];show rB e d c n l*_=_;grind
 .rw[ec];congr 1;rw[cT (g:=fun k=>dC (fun l=>w l*e l (d i)*(c k*e l (d k))) GT) fun k _=>?_,k8]
  .exact cT fun l _=>ec ..
  .unfold grm;rw[<-jT];exact cT fun l _=>by grind
theorem IP(i k:Nat):grm w e GT i k=grm w e GT k i:=cT fun l _=>by grind
theorem aCw(m m':Mx):qf (fun i k=>m i k+m' i k) c n=qf m c n+qf m' c n:=by
 unfold qf;rw[<-fg];refine cT fun i _=>?_;rw[cT (g:=fun j=>m i j*c j+m' i j*c j) fun j _=>by grind,fg];grind
end
theorem zc(p:Nat->Bool)(g:Nat->Rat):∀m:Nat,dC (fun i=>g (((List.range m).filter p).getD i 0)) ((List.range m).filter p).length=dC (fun r=>if p r then g r else 0) m
 |0=>rfl
 |m+1=>by
  rw[bU,List.filter_append];show _=dC (fun r=>if p r then g r else 0) m+(if p m then g m else 0)
  rw[<-zc p g m];by_cases h:p m
  .rw[aM h,show [m].filter p=[m] by simp[h],aQ];show dC _ (((List.range m).filter p).length)+g ((((List.range m).filter p)++[m]).getD ((List.range m).filter p).length 0)=_;congr 1
   .refine cT fun i D=>?_;rw[List.getD,List.getD,aI D]
   .rw[List.getD,aN (aP _),bO];rfl
  .rw[aJ h,show [m].filter p=[] by simp[h],List.append_nil,bV]
def iG(f:eh)(r:Nat):Bool:=f.dB.any fun s=>decide (eD s=r)&&decide (s.2.2=0)
theorem IQ{r:Nat}:iG f r=true↔∃s∈f.dB,eD s=r/\s.2.2=0:=by
 unfold iG;simp
def eN(f:eh):List Nat:=(List.range (3*f.nodes.length)).filter fun r=> !iG f r
def fS(f:eh)(i:Nat):Nat:=(eN f).getD i 0
theorem wu{i:Nat}(h:i<(eN f).length):fS f i<3*f.nodes.length/\iG f (fS f i)=false:=by
 have I:fS f i∈eN f:=by
  unfold fS;rw[List.getD,aD h];exact bA h
 unfold eN at I;rw[List.mem_filter,List.mem_range]at I;exact⟨I.1,by simpa using I.2⟩
theorem Lc{i k:Nat}(D:i<(eN f).length)(K:k<(eN f).length)(e:fS f i=fS f k):i=k:=by
 have I:(eN f).Nodup:=List.nodup_range.filter _;unfold fS at e;rw[List.getD,aD D,List.getD,aD K]at e;have G:=List.pairwise_iff_getElem.1 I;rcases cH i k with g|g|g
 .exact absurd e (G i k D K g)
 .exact g
 .exact absurd e.symm (G k i K D g)
theorem aBm{r:Nat}(hr:r<3*f.nodes.length)(h:iG f r=false):∃i,i<(eN f).length/\fS f i=r:=by
 have I:r∈eN f:=by
  unfold eN;rw[List.mem_filter,List.mem_range];exact⟨hr,by simp[h]⟩
 obtain⟨i,D,e⟩:=List.getElem_of_mem I;exact⟨i,D,by unfold fS;rw[List.getD,aD D];exact e⟩
def nV(f:eh)(l r:Nat):Rat:=(if (r:Int)=3*(f.bars.getD (l / 3) (0,0,0)).2.1+(l % 3:Nat)then 1 else 0)-if(r:Int)=3*(f.bars.getD (l / 3) (0,0,0)).1+(l % 3:Nat)then 1 else 0
def kV(f:eh)(l r:Nat):Rat:=dF (c9 f) r l
def wE(f:eh)(l:Nat):Rat:=((dM f).getD l 0)⁻¹
def BD(f:eh)(x:List Rat)(r s:Nat):Rat:=grm (wE f) (kV f) f.cols r s+grm (fun l=>x.getD (l / 3) 0) (nV f) (3*f.bars.length) r s
def gB(f:eh)(x:List Rat):List (List Rat):=(eN f).map fun r=>(eN f).map fun s=>BD f x r s
section
variable{f:eh}{x y z:List Rat}
theorem jU:(gB f x).length=(eN f).length:=aL ..
theorem vA:fz (eN f).length (gB f x):=fun r hr=>by
 obtain⟨_,_,rfl⟩:=aV.1 hr;exact aL ..
theorem oz{i k:Nat}(D:i<(eN f).length)(K:k<(eN f).length):dF (gB f x) i k=BD f x (fS f i) (fS f k):=by
 unfold dF gB fS;simp only[List.getD,aO,aD D,aD K,bw,Option.getD_some]
theorem aAI(r s:Nat):BD f x r s=BD f x s r:=by unfold BD;rw[IP,IP (i:=r)]
theorem Ms:Bw (gB f x)↔Qp (fun i k=>BD f x (fS f i) (fS f k)) (eN f).length:=by
 rw[OV,jU];have hs:Sy (dF (gB f x)) (eN f).length:=fun i j D hj=>by rw[oz D hj,oz hj D,aAI]
 have hc:Qp (dF (gB f x)) (eN f).length↔Qp (fun i k=>BD f x (fS f i) (fS f k)) (eN f).length:=by
  constructor<;>intro h c hc<;>have I:=h c hc
  .rwa [Hq fun i j D hj=>oz D hj]at I
  .rwa [<-Hq fun i j D hj=>oz D hj]at I
 rw[<-hc];exact⟨fun h=>aDX _ _ hs h.2,fun h=>⟨hs,aDY _ _ hs h⟩⟩
theorem aCx(c:Nat->Rat)(n:Nat):qf (fun i k=>BD f x (fS f i) (fS f k)) c n=dC (fun l=>wE f l*(rB (kV f) (fS f) c n l*rB (kV f) (fS f) c n l)) f.cols+dC (fun l=>x.getD (l / 3) 0*(rB (nV f) (fS f) c n l*rB (nV f) (fS f) c n l)) (3*f.bars.length):=by
 unfold BD;rw[aCw (fun i k=>grm (wE f) (kV f) f.cols (fS f i) (fS f k)) fun i k=>grm (fun l=>x.getD (l / 3) 0) (nV f) (3*f.bars.length) (fS f i) (fS f k),aAH,aAH]
theorem CS(h:FrV f)(U:∀i,x.getD i 0=0):Bw (gB f x)↔kM (c9 f) f.cols=3*f.nodes.length:=by
 have hT:=gE f;have hTl:=gl f;have SS:∀(c:Nat->Rat) (n:Nat),qf (fun i k=>BD f x (fS f i) (fS f k)) c n=dC (fun l=>wE f l*(rB (kV f) (fS f) c n l*rB (kV f) (fS f) c n l)) f.cols:=fun c n=>by
  rw[aCx,cT (f:=fun l=>x.getD (l / 3) 0*_) (g:=fun _=>0) fun l _=>by rw[U,bI],df,bV]
 have hrig:∀l,l<f.cols->(dM f).getD l 0=0->∃i s,l=f.bars.length+i/\f.dB[i]? =some s/\s.2.2=0:=fun l hl h0=>by
  rcases aS l f.bars.length with I|I
  .have:=h.IK I;rw[h0]at this;exact absurd this (Rat.lt_irrefl)
  .obtain⟨i,rfl⟩:∃i,l=f.bars.length+i:=⟨l-f.bars.length,be⟩
   have D:i<f.dB.length:=by unfold eh.cols at hl;omega
   have hs:=aD D;refine⟨i,_,rfl,hs,?_⟩;rw[dM,List.getD,aN (by rw[aL];omega),aL,Nat.add_sub_cancel_left,aO,hs]at h0;exact h0
 rw[Ms];constructor
 .intro hq;refine Decidable.byContradiction fun Ox=>?_;have hr:=CO hT;have hTr:=ga (c9 f) f.cols;have Vu:=uv hTr;have Sc:0<(dJ (eA (c9 f) f.cols) (c9 f).length).length:=by
   obtain⟨-,t2,-⟩:=di hTr (c9 f).length (aP _);have YR:=l8 (eA (c9 f) f.cols) (c9 f).length;obtain⟨-,t3,-⟩:=di hT f.cols (aP _);have Q7:=eC (c9 f) f.cols;have VN:kM (c9 f) f.cols=(cW (c9 f) f.cols).2.length:=rfl;have:kM (eA (c9 f) f.cols) (c9 f).length=(cW (eA (c9 f) f.cols) (c9 f).length).2.length:=rfl;omega
  obtain⟨u,hu⟩:∃u,dF (dJ (eA (c9 f) f.cols) (c9 f).length) 0=u:=⟨_,rfl⟩
  have TJ:∀l,l<f.cols->dC (fun r=>dF (c9 f) r l*u r) (c9 f).length=0:=fun l hl=>by
   have I:=rh hTr Sc l (by rw[eK];exact hl);rw[En hl,hu]at I;exact I
  obtain⟨r,PN,hur⟩:∃r,r<(c9 f).length/\u r≠0:=by
   refine Decidable.byContradiction fun S2=>?_
   have h3:=GB (M:=eA (c9 f) f.cols) (n:=(c9 f).length) (c:=fun k=>if k=0 then 1 else 0) (fun t ht=>by
    rw[ed Sc fun k _ Ox=>by rw[aJ Ox,bI],aM rfl,bs,hu]
    exact Decidable.byContradiction fun g=>S2 ⟨t,ht,g⟩) 0 Sc
   exact absurd h3 bi
  have hzero:∀r,iG f r=true->u r=0:=fun r hr=>by
   obtain⟨s,hs,WA,WB⟩:=IQ.1 hr;obtain⟨i,D⟩:=GD hs;have hil:=(aE.1 D).1;have I:=TJ (f.bars.length+i) (by unfold eh.cols;omega);rw[ed (i:=r) (by rw[hTl,<-WA];exact(h.sup s hs).1) fun k _ e=>by rw[nB,h.oY D,aJ fun g=>e (g.trans WA)];exact bI _,nB,h.oY D,aM WA.symm]at I;exact(bs _).symm.trans I
  have hlin:∀l,l<f.cols->rB (kV f) (fS f) (fun i=>u (fS f i)) (eN f).length l=0:=fun l hl=>by
   unfold rB fS eN;rw[zc (fun r=> !iG f r) (fun r=>u r*kV f l r),cT (g:=fun r=>dF (c9 f) r l*u r) fun r _=>?_,<-hTl]
   .exact TJ l hl
   .unfold kV
    cases e:iG f r with
    |true=>rw[hzero r e];grind
    |false=>show u r*_=_;exact cB _ _
  have hrf:iG f r=false:=by
   cases e:iG f r with
   |true=>exact absurd (hzero r e) hur
   |false=>rfl
  obtain⟨i,D,L⟩:=aBm be hrf;have I:=hq (fun i=>u (fS f i)) ⟨i,D,by rw[L];exact hur⟩;rw[SS,cT (g:=fun _=>0) fun l hl=>by rw[hlin l hl,bF,bF],df]at I;exact Rat.lt_irrefl I
 .intro hr c hc;obtain⟨i0,Rr,YS⟩:=hc;rw[SS];have WW:∀l,0<=wE f l:=fun l=>by
   have I:=h.rn l;unfold wE;rcases Decidable.em ((dM f).getD l 0=0)with G|G
   .rw[G];decide +kernel
   .exact Rat.le_of_lt (Rat.inv_pos.2 (by grind))
  refine Rat.not_le.1 fun hle=>YS ?_;have h0:=rb (f:=fun l=>wE f l*(rB (kV f) (fS f) c (eN f).length l*rB (kV f) (fS f) c (eN f).length l)) (n:=f.cols) (fun l _=>Rat.mul_nonneg (WW l) (sq_nonneg _)) hle;have hlin:∀l,l<f.cols->rB (kV f) (fS f) c (eN f).length l=0:=fun l hl=>by
   rcases Decidable.em ((dM f).getD l 0=0)with G|G
   .obtain⟨i,s,rfl,hs,WB⟩:=hrig l hl G;unfold rB kV;rw[cT (g:=fun _=>0) fun k K=>?_,df];rw[nB,h.oY hs,aJ fun g=>?_]
    .exact bF _
    .have h3:=(wu K).2;rw[IQ.2 ⟨s,aC hs,g.symm,WB⟩]at h3
     cases h3
   .have h3:=h0 l hl;rcases Rat.mul_eq_zero.1 h3 with h4|h4
    .unfold wE at h4;have:=Rat.inv_pos.2 (show 0<(dM f).getD l 0 by have:=h.rn l;grind);rw[h4]at this;exact absurd this (Rat.lt_irrefl)
    .rcases Rat.mul_eq_zero.1 h4 with h5|h5<;>exact h5
  have hind:=IM hT (by rw[hTl];exact hr);obtain⟨u,hu⟩:∃u,(fun r=>dC (fun i=>if fS f i=r then c i else 0) (eN f).length)=u:=⟨_,rfl⟩
  have h5:=hind u (fun t ht=>by
   rw[<-hlin t ht,<-hu];unfold rB;rw[cT (g:=fun r=>dC (fun i=>(if fS f i=r then c i else 0)*dF (c9 f) r t) (eN f).length) fun r _=>by rw[jT],k8];refine cT fun i D=>?_;rw[ed (i:=fS f i) (by rw[hTl];exact(wu D).1) fun k _ e=>by rw[aJ fun g=>e g.symm,bI],aM rfl]
   rfl) (fS f i0) (by rw[hTl];exact(wu Rr).1)
  rw[<-hu]at h5;dsimp only at h5;rw[ed Rr fun k K e=>aJ fun g=>e (Lc K Rr g),aM rfl]at h5;exact h5
end
def tj(p i:Nat):Rat:=if p=i then 1 else 0
def k9(f:eh)(r:Nat):Nat:=((List.range r).filter fun r=> !iG f r).length
def placeF(f:eh):List Int:=(List.range (3*f.nodes.length)).map fun r=>if iG f r then -1 else(k9 f r:Int)
theorem BE{r:Nat}(hr:r<3*f.nodes.length)(h:iG f r=false):k9 f r<(eN f).length/\fS f (k9 f r)=r:=by
 have e:(eN f)[k9 f r]? =some r:=by
  obtain⟨k,K⟩:∃k,3*f.nodes.length=r+(k+1):=⟨3*f.nodes.length-r-1,be⟩
  unfold eN k9;rw[K,List.range_add,List.filter_append,aN (aP _),bO,List.range_succ_eq_map,List.map_cons,List.filter_cons,aM (by simp[h])];rfl
 refine⟨(aE.1 e).1,?_⟩;unfold fS;rw[List.getD,e];rfl
theorem IS{r:Nat}(hr:r<3*f.nodes.length):(placeF f).getD r 0=if iG f r then -1 else(k9 f r:Int):=by
 unfold placeF;rw[List.getD,aO,bY hr];rfl
def fb(pl:List Int)(M:List (List Rat))(i k:Nat)(q:Rat):List (List Rat):=
 if 0<=pl.getD i 0/\0<=pl.getD k 0 then M.set (pl.getD i 0).toNat ((M.getD (pl.getD i 0).toNat []).set (pl.getD k 0).toNat (dF M (pl.getD i 0).toNat (pl.getD k 0).toNat+q))else M
structure wA(n:Nat)(M:List (List Rat)):Prop where
 l:M.length=n
 w:fz n M
theorem wA.fb{n:Nat}(h:wA n M)(i k:Nat)(q:Rat):wA n (fb pl M i k q):=by
 unfold Ex.fb;split
 .rcases aS (pl.getD i 0).toNat M.length with I|I
  .refine⟨by rw[bj];exact h.l,fun r hr=>?_⟩;rcases bE hr with hr|hr
   .exact h.w r hr
   .rw[hr,bj];exact h.w.getD I
  .rw[List.set_eq_of_length_le I];exact h
 .exact h
theorem wA.zero(n:Nat):wA n (List.replicate n (List.replicate n 0)):=⟨bD,fun r hr=>by rw[(List.mem_replicate.1 hr).2,bD]⟩
theorem aAJ(n i k:Nat):dF (List.replicate n (List.replicate n (0:Rat))) i k=0:=by
 unfold dF;rcases aS i n with h|h
 .rw[show (List.replicate n (List.replicate n (0:Rat))).getD i []=List.replicate n 0 by rw[List.getD,List.getElem?_replicate,aM h];rfl,List.getD,List.getElem?_replicate];split<;>rfl
 .rw[show (List.replicate n (List.replicate n (0:Rat))).getD i []=[] by rw[List.getD,List.getElem?_replicate,aJ be];rfl];rfl
theorem aBn{n:Nat}(h:wA n M){r c a b:Nat}(hr:r<n)(hc:c<n):dF (M.set r ((M.getD r []).set c (dF M r c+q))) a b=dF M a b+if a=r/\b=c then q else 0:=by
 have hl:=h.w.getD (show r<M.length by rw[h.l];exact hr);by_cases e:a=r
 .subst e;unfold dF;rw[j6 (by rw[h.l];exact hr)];by_cases e2:b=c
  .subst e2;rw[j6 (by rw[hl];exact hc),aM ⟨rfl,rfl⟩]
  .rw[getD_set_ne (Ne.symm e2),aJ fun g=>e2 g.2,bV]
 .unfold dF;rw[getD_set_ne (Ne.symm e),aJ fun g=>e g.1,bV]
section
variable{f:eh}{x:List Rat}{M:List (List Rat)}
theorem Le{a i:Nat}(ha:a<(eN f).length)(D:i<3*f.nodes.length):tj (fS f a) i=if iG f i then 0 else tj a (k9 f i):=by
 unfold tj
 cases e:iG f i with
 |true=>
  rw[aM rfl,aJ fun g=>?_];have:=(wu ha).2;rw[g,e]at this
  cases this
 |false=>
  obtain⟨I,G⟩:=BE D e;simp only[Bool.false_eq_true,if_false]
  by_cases g:a=k9 f i
  .rw[aM g,aM (by rw[g];exact G)]
  .rw[aJ g,aJ fun k=>g (Lc ha I (k.trans G.symm))]
theorem wv(h:wA (eN f).length M){a b i k:Nat}(ha:a<(eN f).length)(hb:b<(eN f).length)(D:i<3*f.nodes.length)(K:k<3*f.nodes.length):
  dF (fb (placeF f) M i k q) a b=dF M a b+q*(tj (fS f a) i*tj (fS f b) k):=by
 rw[Le ha D,Le hb K];unfold fb;rw[IS D,IS K]
 cases ei:iG f i with
 |true=>
  rw[aJ (by rw[aM rfl];omega),aM rfl];grind
 |false=>
  cases ek:iG f k with
  |true=>
   rw[aJ (by rw[aM (rfl:true=true)];omega),aM (rfl:true=true)];grind
  |false=>
   simp only[Bool.false_eq_true,if_false,aF]
   rw[aM ⟨be,be⟩,aBn h (BE D ei).1 (BE K ek).1];congr 1;unfold tj;by_cases g1:a=k9 f i
   .by_cases g2:b=k9 f k
    .rw[aM ⟨g1,g2⟩,aM g1,aM g2];grind
    .rw[aJ fun g=>g2 g.2,aJ g2];grind
   .rw[aJ fun g=>g1 g.1,aJ g1];grind
def kB(f:eh)(x:List Rat)(i r c:Nat):Rat:=if r=c then((((j5 f (f.bars.getD i (0,0,0))).getD r 0*(j5 f (f.bars.getD i (0,0,0))).getD c 0:Int)):Rat) / (f.bars.getD i (0,0,0)).2.2+x.getD i 0 else((((j5 f (f.bars.getD i (0,0,0))).getD r 0*(j5 f (f.bars.getD i (0,0,0))).getD c 0:Int)):Rat) / (f.bars.getD i (0,0,0)).2.2
def iw(f:eh)(x:List Rat)(i r:Nat)(M:List (List Rat)):Nat->List (List Rat)
 |0=>M
 |c+1=>
  let b:=f.bars.getD i (0,0,0)
  fb (placeF f) (fb (placeF f) (fb (placeF f) (fb (placeF f) (iw f x i r M c) (3*b.1+r).toNat (3*b.1+c).toNat (kB f x i r c)) (3*b.2.1+r).toNat (3*b.2.1+c).toNat (kB f x i r c)) (3*b.1+r).toNat (3*b.2.1+c).toNat (-(kB f x i r c))) (3*b.2.1+r).toNat (3*b.1+c).toNat (-(kB f x i r c))
def lg(f:eh)(x:List Rat)(i:Nat)(M:List (List Rat)):Nat->List (List Rat)
 |0=>M
 |r+1=>iw f x i r (lg f x i M r) 3
def iH(f:eh)(x:List Rat):Nat->List (List Rat)
 |0=>List.replicate (eN f).length (List.replicate (eN f).length 0)
 |i+1=>lg f x i (iH f x i) 3
def kN(f:eh)(x:List Rat):Nat->List (List Rat)
 |0=>iH f x f.bars.length
 |i+1=>
  let s:=f.dB.getD i (0,0,0)
  if s.2.2=0 then kN f x i else fb (placeF f) (kN f x i) (eD s) (eD s) (1 / s.2.2)
def Jy(f:eh)(x:List Rat):List (List Rat):=kN f x f.dB.length
theorem wA.cell{n i r:Nat}(h:wA n M):∀c,wA n (iw f x i r M c)
 |0=>h
 |c+1=>(((((wA.cell h c).fb _ _ _).fb _ _ _).fb _ _ _).fb _ _ _)
theorem wA.row{n i:Nat}(h:wA n M):∀r,wA n (lg f x i M r)
 |0=>h
 |r+1=>(wA.row h r).cell 3
theorem wA.bars:∀i,wA (eN f).length (iH f x i)
 |0=>wA.zero _
 |i+1=>(wA.bars i).row 3
theorem wA.dB:∀i,wA (eN f).length (kN f x i)
 |0=>wA.bars _
 |i+1=>by
  rw[kN];split
  .exact wA.dB i
  .exact(wA.dB i).fb _ _ _
theorem BF{i r p:Nat}(hr:r<3){ka kb:Nat}(hb:f.bars[i]? =some b)(ea:b.1=ka)(eb:b.2.1=kb):nV f (3*i+r) p=tj p (3*kb+r)-tj p (3*ka+r):=by
 unfold nV tj;rw[show (3*i+r) / 3=i by omega,show(3*i+r) % 3=r by omega,jm hb,ea,eb];congr 1
 .by_cases e:p=3*kb+r
  .rw[aM e,aM be]
  .rw[aJ e,aJ be]
 .by_cases e:p=3*ka+r
  .rw[aM e,aM be]
  .rw[aJ e,aJ be]
theorem Lf(h:wA (eN f).length M){a b' i r:Nat}{b:Int×Int×Rat}{ka kb:Nat}(hb:f.bars[i]? =some b)(ea:b.1=ka)(eb:b.2.1=kb)(Up:ka<f.nodes.length)(Ow:kb<f.nodes.length)(hr:r<3)(ha:a<(eN f).length)(QX:b'<(eN f).length):
  ∀c,c<=3->dF (iw f x i r M c) a b'=dF M a b'+dC (fun c=>kB f x i r c*(nV f (3*i+r) (fS f a)*nV f (3*i+c) (fS f b'))) c
 |0,_=>by rw[iw];exact(bV _).symm
 |c+1,hc=>by
  have h0:=wA.cell (f:=f) (x:=x) (i:=i) (r:=r) h c;rw[iw,dC];rw[jm hb,toNat_add ea,toNat_add eb,toNat_add ea,toNat_add eb];rw[wv (((h0.fb _ _ _).fb _ _ _).fb _ _ _) ha QX be be,wv ((h0.fb _ _ _).fb _ _ _) ha QX be be,wv (h0.fb _ _ _) ha QX be be,wv h0 ha QX be be,Lf h hb ea eb Up Ow hr ha QX c be,BF hr hb ea eb,BF (show c<3 by omega) hb ea eb];grind
theorem aAK(h:wA (eN f).length M){a b' i:Nat}{b:Int×Int×Rat}{ka kb:Nat}(hb:f.bars[i]? =some b)(ea:b.1=ka)(eb:b.2.1=kb)(Up:ka<f.nodes.length)(Ow:kb<f.nodes.length)(ha:a<(eN f).length)(QX:b'<(eN f).length):
  ∀r,r<=3->dF (lg f x i M r) a b'=dF M a b'+dC (fun r=>dC (fun c=>kB f x i r c*(nV f (3*i+r) (fS f a)*nV f (3*i+c) (fS f b'))) 3) r
 |0,_=>by rw[lg];exact(bV _).symm
 |r+1,hr=>by
  rw[lg,Lf (h.row r) hb ea eb Up Ow be ha QX 3 (aP _),aAK h hb ea eb Up Ow ha QX r be];show _=_+(dC _ r+_)
  rw[Rat.add_assoc]
theorem Lg(hf:FrV f){a b':Nat}(ha:a<(eN f).length)(QX:b'<(eN f).length):
  ∀i,i<=f.bars.length->dF (iH f x i) a b'=dC (fun i=>dC (fun r=>dC (fun c=>kB f x i r c*(nV f (3*i+r) (fS f a)*nV f (3*i+c) (fS f b'))) 3) 3) i
 |0,_=>aAJ _ _ _
 |i+1,D=>by
  have hb:=aD (show i<f.bars.length by omega);obtain⟨ka,kb,ea,eb,I,G,-,-⟩:=hf.IG _ (bA (show i<f.bars.length by omega));rw[iH,aAK (wA.bars i) hb ea eb I G ha QX 3 (aP _),Lg hf ha QX i be];rfl
theorem Lh(hf:FrV f){a b':Nat}(ha:a<(eN f).length)(QX:b'<(eN f).length):
  ∀i,i<=f.dB.length->dF (kN f x i) a b'=dF (iH f x f.bars.length) a b'+dC (fun i=>(f.dB.getD i (0,0,0)).2.2⁻¹*(tj (fS f a) (eD (f.dB.getD i (0,0,0)))*tj (fS f b') (eD (f.dB.getD i (0,0,0))))) i
 |0,_=>by rw[kN];exact(bV _).symm
 |i+1,D=>by
  have hs:=aD (show i<f.dB.length by omega);have I:=(hf.sup _ (bA (show i<f.dB.length by omega))).1;have ih:=Lh hf ha QX i be;rw[kN,dC];rw[getD_some hs];split
  .rename_i e;rw[ih,e,show((0:Rat))⁻¹=0 by decide +kernel,bI,bV]
  .rw[wv (wA.dB i) ha QX I I,ih,bh,bs,Rat.add_assoc]
theorem CT(g:Nat->Rat):∀n,dC g (3*n)=dC (fun i=>dC (fun r=>g (3*i+r)) 3) n
 |0=>rfl
 |n+1=>by
  rw[show 3*(n+1)=3*n+3 by omega,lI,CT g n];rfl
theorem IT{M:List (List Int)}{i p ka kb:Nat}{b:Int×Int×Rat}(V:Wid f.cols M)(hl:M.length=3*f.nodes.length)(D:i<f.cols)(hb:f.bars[i]? =some b)(ea:b.1=ka)(eb:b.2.1=kb)(Up:ka<f.nodes.length)(Ow:kb<f.nodes.length)(Ox:ka≠kb):
  ∀k,k<=3->((ez (eo f M i k) p i:Int):Rat)=((ez M p i:Int):Rat)-dC (fun r=>(((j5 f b).getD r 0:Int):Rat)*nV f (3*i+r) p) k
 |0,_=>by rw[eo];show _=_-(0:Rat);grind
 |k+1,K=>by
  have ih:=IT (p:=p) V hl D hb ea eb Up Ow Ox k be;have Qe:=qG f M i k;have hw1:=y9 (f:=f) (i:=i) V k;have hwr:∀{GT:List (List Int)} {r:Nat},Wid f.cols GT->r<GT.length->(GT.getD r []).length=f.cols:=fun I G=>by
   rw[List.getD,aD G];exact I _ (bA G)
  rw[eo,dC];rw[jm hb,toNat_add ea,toNat_add eb,gZ,gZ,BF (show k<3 by omega) hb ea eb];have hA:3*ka+k<(eo f M i k).length:=by rw[Qe,hl];omega
  have hB:3*kb+k<(putAt (eo f M i k) (3*ka+k) i (ez (eo f M i k) (3*ka+k) i+(j5 f b).getD k 0)).length:=by rw[mU,Qe,hl];omega
  have hneq:3*kb+k≠3*ka+k:=by omega
  unfold tj;by_cases e1:p=3*kb+k
  .subst e1;rw[wi hB (by rw[hwr hw1.put hB];exact D),iX (.inl hneq),aM rfl,aJ hneq,Rat.intCast_add,Rat.intCast_neg,ih];grind
  .rw[iX (.inl e1),aJ e1];by_cases e2:p=3*ka+k
   .subst e2;rw[wi hA (by rw[hwr hw1 hA];exact D),aM rfl,Rat.intCast_add,ih];grind
   .rw[iX (.inl e2),aJ e2,ih];grind
theorem CU{i p:Nat}:∀j,i<j->ez (dx f j) p i=ez (dx f (i+1)) p i
 |0,h=>by omega
 |j+1,h=>by
  rcases aS i j with I|I
  .rw[dx,tU be];exact CU j I
  .obtain rfl:i=j:=by omega
   rfl
theorem Li(hf:FrV f){i p:Nat}(D:i<f.bars.length):dF (c9 f) p i= -(dC (fun r=>(((j5 f (f.bars.getD i (0,0,0))).getD r 0:Int):Rat)*nV f (3*i+r) p) 3):=by
 have hb:=aD D;obtain⟨ka,kb,ea,eb,I,G,h3,-⟩:=hf.IG _ (bA D);have e:=IT (p:=p) (uz f i) (oX f i) (by unfold eh.cols;omega) hb ea eb I G h3 3 (aP _);rw[nB,show iW f=fY f f.dB.length from rfl,uy D,CU _ D,dx,e,l9 f i (aP _),jm hb];show(0:Rat)-_=_;grind
theorem Jz(hf:FrV f):Jy f x=gB f x:=by
 have hs:=wA.dB (f:=f) (x:=x) f.dB.length;refine gW [] (by rw[jU];exact hs.l) fun a ha=>?_;have ha:a<(eN f).length:=by rw[<-hs.l];exact ha
 have S6:=hs.w.getD (show a<(kN f x f.dB.length).length by rw[hs.l];exact ha);refine gW 0 (by rw[vA.getD (by rw[jU];exact ha)];exact S6) fun b hb=>?_;have hb:b<(eN f).length:=by rw[<-S6];exact hb
 show dF (kN f x f.dB.length) a b=dF (gB f x) a b;rw[oz ha hb,Lh hf ha hb _ (aP _),Lg hf ha hb _ (aP _)];unfold BD grm;rw[CT,show f.cols=f.bars.length+f.dB.length from rfl,lI];have e2:dC (fun k=>wE f (f.bars.length+k)*(kV f (f.bars.length+k) (fS f a)*kV f (f.bars.length+k) (fS f b))) f.dB.length=dC (fun i=>(f.dB.getD i (0,0,0)).2.2⁻¹*(tj (fS f a) (eD (f.dB.getD i (0,0,0)))*tj (fS f b) (eD (f.dB.getD i (0,0,0))))) f.dB.length:=cT fun i D=>by
  have I:=aD D;unfold wE kV tj;rw[nB,nB,hf.oY I,hf.oY I,getD_some I,dM,List.getD,aN (by rw[aL];omega),aL,Nat.add_sub_cancel_left,aO,I];split<;>split<;>rfl
 have e1:dC (fun i=>dC (fun r=>dC (fun c=>kB f x i r c*(nV f (3*i+r) (fS f a)*nV f (3*i+c) (fS f b))) 3) 3) f.bars.length=dC (fun l=>wE f l*(kV f l (fS f a)*kV f l (fS f b))) f.bars.length+dC (fun i=>dC (fun r=>x.getD ((3*i+r) / 3) 0*(nV f (3*i+r) (fS f a)*nV f (3*i+r) (fS f b))) 3) f.bars.length:=by
  rw[<-fg];refine cT fun i D=>?_;have I:=aD D;unfold wE kV;rw[Li hf D,Li hf D,show(dM f).getD i 0=(f.bars.getD i (0,0,0)).2.2 by rw[dM,List.getD,aI (by rw[aL];exact D),aO,I,getD_some I];rfl];show 0+(0+_+_+_)+(0+_+_+_)+(0+_+_+_)=_*(-(0+_+_+_)* -(0+_+_+_))+(0+_+_+_)
  unfold kB;simp only[show 3*i / 3=i by omega,show(3*i+0) / 3=i by omega,show(3*i+1) / 3=i by omega,show(3*i+2) / 3=i by omega,bh,Rat.intCast_mul,show((0:Nat)=1)=False by simp,show((0:Nat)=2)=False by simp,show((1:Nat)=0)=False by simp,show((1:Nat)=2)=False by simp,show((2:Nat)=0)=False by simp,show((2:Nat)=1)=False by simp,if_true,if_false]
  grind
 rw[e1,e2];grind
end
theorem GJ(h:rl q<=l):rl q⁻¹<=l:=by
 rcases Decidable.em (q=0)with h0|h0
 .rw[h0,show((0:Rat))⁻¹=0 by decide +kernel];rw[h0]at h;exact h
 .have I:=IA h;have W:(q.num:Rat)≠0:=fun e=>by
   have G:=BB q;rw[e]at G;rcases Rat.mul_eq_zero.1 G with h3|h3
   .exact GI q h3
   .exact h0 h3
  have e:(q.num:Rat)*q⁻¹=(q.den:Rat):=by
   rw[<-BB q,Rat.mul_assoc,Rat.mul_inv_cancel _ h0,Rat.mul_one]
  have G:=tR (GE:=wt l-1) W (Ib.int be) (by rw[e];exact⟨(q.den:Int),rfl,by rw[Int.natAbs_natCast];omega⟩);exact aX G (gg.2 (by have:=yR l;omega))
section
variable{f:eh}{x:List Rat}
theorem aBo(h:FrV f)(p:Nat):∃σ:Rat,(∀l,(∀q∈dM f,rl q<=l)->rl σ<=l\/σ=0)/\∀i,i<f.dB.length->dF (c9 f) p (f.bars.length+i)=0\/(dF (c9 f) p (f.bars.length+i)=1/\wE f (f.bars.length+i)=σ):=by
 have V:∀i s,f.dB[i]? =some s->wE f (f.bars.length+i)=s.2.2⁻¹:=fun i s hs=>by
  unfold wE;rw[dM,List.getD,aN (by rw[aL];omega),aL,Nat.add_sub_cancel_left,aO,hs];rfl
 by_cases g:∃(i:Nat) (s:_),f.dB[i]? =some s/\p=eD s
 .obtain⟨i0,s0,WB,hp⟩:=g;refine⟨s0.2.2⁻¹,fun l hl=>.inl (GJ (hl _ (List.mem_append_right _ (aV.2 ⟨s0,aC WB,rfl⟩)))),fun i D=>?_⟩;have hs:=aD D;rw[nB,h.oY hs];by_cases e:p=eD f.dB[i]
  .rw[aM e];have:=h.one i i0 _ _ hs WB (e.symm.trans hp);subst this;exact .inr ⟨rfl,V _ _ WB⟩
  .rw[aJ e];exact .inl rfl
 .refine⟨0,fun _ _=>.inr rfl,fun i D=>.inl ?_⟩;have hs:=aD D;rw[nB,h.oY hs,aJ fun e=>g ⟨i,_,hs,e⟩];rfl
theorem Lj(h:FrV f)(hl:l<3*f.bars.length)(p:Nat):Ib 1 (nV f l p):=by
 have D:l / 3<f.bars.length:=by omega
 have hb:=aD D;obtain⟨ka,kb,ea,eb,I,G,h3,-⟩:=h.IG _ (bA D);have e:=BF (f:=f) (p:=p) (show l % 3<3 by omega) hb ea eb;rw[show 3*(l / 3)+l % 3=l by omega]at e;rw[e];unfold tj;split<;>split
 .rw[show (1:Rat)-1=0 by decide +kernel];exact Ib.zero _
 .rw[show (1:Rat)-0=1 by decide +kernel];exact Ib.one (aP _)
 .rw[show (0:Rat)-1= -1 by decide +kernel];exact(Ib.one (aP _)).neg
 .rw[show (0:Rat)-0=0 by decide +kernel];exact Ib.zero _
theorem aCy(h:qo f)(WX:f.bars.length<=6)(U:∀q∈x,rl q<=3)(p s:Nat):rl (BD f x p s)<=43:=by
 have hv:=h.toFrS.toFrV;have hx3:∀t,rl (x.getD t 0)<=3:=fun t=>by
  rw[List.getD]
  cases ht:x[t]? with
  |none=>show rl 0<=3;decide
  |some q=>exact U q (aC ht)
 obtain⟨σ,hσ,hs⟩:=aBo hv p;have hσ:=hσ 3 h.fx;have hσ:rl σ<=3:=hσ.elim id fun e=>by rw[e];decide
 obtain⟨D',hL⟩:∃D',((List.range 6).map fun i=>wE f i)++((List.range 6).map fun i=>x.getD i 0)++[σ]=D':=⟨_,rfl⟩
 have hflex:∀t,rl ((dM f).getD t 0)<=3:=fun t=>by
  rw[List.getD]
  cases ht:(dM f)[t]? with
  |none=>show rl 0<=3;decide
  |some q=>exact h.fx q (aC ht)
 obtain⟨YT,hD1,Xb⟩:=IB (K8:=D') (n:=13) (by rw[<-hL];exact aP _) fun q hq=>by
  rw[<-hL]at hq;rcases bG.1 hq with hq|hq
  .rcases bG.1 hq with hq|hq
   .obtain⟨i,_,rfl⟩:=aV.1 hq;exact GJ (hflex i)
   .obtain⟨i,_,rfl⟩:=aV.1 hq;exact hx3 i
  .rw[bK.1 hq];exact hσ
 obtain⟨Fd,hD⟩:∃Fd,mz D' 13=Fd:=⟨_,rfl⟩
 rw[hD]at YT hD1 Xb;have a1:∀i,i<6->Ib (wt 39) (Fd*wE f i):=fun i D=>by
  have e:D'.getD i 0=wE f i:=by
   rw[<-hL,List.getD,aI (by simp;omega),aI (by simp;omega),aO,bY D];rfl
  rw[<-e];exact Xb i
 have a2:∀i,i<6->Ib (wt 39) (Fd*x.getD i 0):=fun i D=>by
  have e:D'.getD (6+i) 0=x.getD i 0:=by
   rw[<-hL,List.getD,aI (by simp;omega),aN bv,show 6+i-((List.range 6).map fun i=>wE f i).length=i by simp,aO,bY D];rfl
  rw[<-e];exact Xb _
 have a3:Ib (wt 39) (Fd*σ):=by
  have e:D'.getD 12 0=σ:=by rw[<-hL];rfl
  rw[<-e];exact Xb _
 have k1:Ib (6*wt 41) (Fd*dC (fun l=>wE f l*(kV f l p*kV f l s)) f.bars.length):=by
  rw[<-ec];refine(Ib.sum _ fun l hl=>?_).mono (Nat.mul_le_mul_right _ WX);rw[show Fd*(wE f l*(kV f l p*kV f l s))=(Fd*wE f l)*(kV f l p*kV f l s) by grind];exact((a1 l be).mul ((hv.qH p l).mul (hv.qH s l))).mono (aX (bX _ (show 2000000*2000000<=wt 2 by decide)) (lK 39 2 (aP _)))
 have k2:Ib (12*wt 41) (Fd*dC (fun i=>wE f (f.bars.length+i)*(kV f (f.bars.length+i) p*kV f (f.bars.length+i) s)) f.dB.length):=by
  rw[<-ec];refine(Ib.sum _ fun i D=>?_).mono (Nat.mul_le_mul_right _ h.s12);unfold kV;rcases hs i D with e|⟨e,e2⟩
  .rw[e,bI,bF,bF];exact Ib.zero _
  .rw[e,e2,bs,<-Rat.mul_assoc];exact(a3.mul (hv.qH s _)).mono (aX (bX _ (show 2000000<=wt 2 by decide)) (lK 39 2 (aP _)))
 have k3:Ib (18*wt 41) (Fd*dC (fun l=>x.getD (l / 3) 0*(nV f l p*nV f l s)) (3*f.bars.length)):=by
  rw[<-ec];refine(Ib.sum _ fun l hl=>?_).mono (Nat.mul_le_mul_right _ (show 3*f.bars.length<=18 by omega));rw[<-Rat.mul_assoc];exact((a2 (l / 3) be).mul ((Lj hv hl p).mul (Lj hv hl s))).mono (aX (bX _ (show 1*1<=wt 2 by decide)) (lK 39 2 (aP _)))
 have k:Ib (wt 42) (Fd*BD f x p s):=by
  unfold BD grm;rw[show f.cols=f.bars.length+f.dB.length from rfl,lI,show ∀a b c:Rat,Fd*(a+b+c)=Fd*a+Fd*b+Fd*c from fun a b c=>by grind];refine((k1.add k2).add k3).mono ?_;rw[<-Nat.add_mul,<-Nat.add_mul];exact aX (Nat.mul_le_mul_right _ (show 6+12+18<=wt 1 by decide)) (lK 1 41 (aP _))
 have h9:=tR YT (hD1.mono (Bd (by decide:3*13<=42))) k;exact aX h9 (gg.2 (LN bi))
theorem IU(h:qo f)(WX:f.bars.length<=6)(U:∀q∈x,rl q<=3):Ht (gB f x) 44:=fun r hr q hq=>by
 obtain⟨p,-,rfl⟩:=aV.1 hr;obtain⟨s,-,rfl⟩:=aV.1 hq;exact Nat.succ_le_succ (aCy h WX U p s)
theorem wx:(eN f).length<=3*f.nodes.length:=by
 unfold eN;exact aX (List.length_filter_le _ _) (by rw[List.length_range];exact aP _)
end
end Go.Ex
namespace Go.Ex
open Go Go.Sx Go.Proofs
variable{M:List (List Rat)}{pl:List Int}{x:List Rat}{Z rv:List Value}{S:Nat->Prop}{a:Option Addr}{q:Rat}{u v:Value}{w:World}
theorem aCz{a:Nat}(h:Ht M a)(ha:2<=a)(r c:Nat):rl (dF M r c)+1<=a:=by
 unfold dF;rcases aS r M.length with I|I
 .rw[getD_some (aD I)];rcases aS c (M[r]).length with G|G
  .rw[getD_some (aD G)];exact h _ (bA I) _ (bA G)
  .rw[jL G,show rl 0=1 by decide];exact ha
 .rw[show M.getD r []=[] by rw[List.getD,List.getElem?_eq_none I];rfl,jL (aR _),show rl 0=1 by decide];exact ha
theorem kc{i k a b:Nat}(h:Ht M a)(ha:2<=a)(hq:rl q<=b):Ht (fb pl M i k q) (a+(b+1)):=by
 have h0:Ht M (a+(b+1)):=h.mono be;unfold fb;split
 .intro r hr p hp;rcases bE hr with hr|hr
  .exact h0 r hr p hp
  .subst hr;rcases bE hp with hp|hp
   .rcases aS (pl.getD i 0).toNat M.length with I|I
    .rw[getD_some (aD I)]at hp;exact h0 _ (bA I) p hp
    .rw[show M.getD (pl.getD i 0).toNat []=[] by rw[List.getD,List.getElem?_eq_none I];rfl]at hp
     cases hp
   .rw[hp];have I:=lE (dF M (pl.getD i 0).toNat (pl.getD k 0).toNat) q;have G:=aCz h ha (pl.getD i 0).toNat (pl.getD k 0).toNat;omega
 .exact h0
section
variable{f:eh}{x:List Rat}{M:List (List Rat)}
theorem Lk(h:qo f)(U:∀q∈x,rl q<=3){i:Nat}(D:i<f.bars.length)(r c:Nat):rl (kB f x i r c)<=9:=by
 have hb:=aD D;have hm:=bA D;have hv:=h.toFrV;obtain⟨ka,kb,-,-,-,-,-,Ph⟩:=hv.IG _ hm;have Ox:(f.bars[i]).2.2≠0:=fun e=>by rw[e]at Ph;exact absurd Ph bi
 have PM:rl (f.bars[i]).2.2<=3:=h.fx _ (List.mem_append_left _ (aV.2 ⟨_,hm,rfl⟩));have SS:rl (x.getD i 0)<=3:=by
  rw[List.getD]
  cases ht:x[i]? with
  |none=>show rl 0<=3;decide
  |some q=>exact U q (aC ht)
 have I:=hv.dif hm r;have G:=hv.dif hm c
 have h3:rl (((j5 f f.bars[i]).getD r 0*(j5 f f.bars[i]).getD c 0:Int):Rat)<=2:=GQ (by
  have a1:((j5 f f.bars[i]).getD r 0).natAbs<=2000000:=by omega
  have a2:((j5 f f.bars[i]).getD c 0).natAbs<=2000000:=by omega
  rw[Int.natAbs_mul];have:=Nat.mul_le_mul a1 a2
  omega)
 have h4:=pw (((j5 f f.bars[i]).getD r 0*(j5 f f.bars[i]).getD c 0:Int):Rat) Ox;have h5:=lE ((((j5 f f.bars[i]).getD r 0*(j5 f f.bars[i]).getD c 0:Int):Rat) / (f.bars[i]).2.2) (x.getD i 0);unfold kB;rw[jm hb];split<;>omega
theorem GR{a i r:Nat}(h:Ht M a)(ha:2<=a)(K:∀c,rl (kB f x i r c)<=9):∀c,Ht (iw f x i r M c) (a+c*40)
 |0=>by rw[iw,Nat.zero_mul];exact h
 |c+1=>by
  have h0:=GR h ha K c;have W:rl (-(kB f x i r c))<=9:=by rw[jE];exact K c
  rw[iw];exact(kc (kc (kc (kc h0 be (K c)) be (K c)) be W) be W).mono be
theorem KC{a i:Nat}(h:Ht M a)(ha:2<=a)(K:∀r c,rl (kB f x i r c)<=9):∀r,Ht (lg f x i M r) (a+r*120)
 |0=>by rw[lg,Nat.zero_mul];exact h
 |r+1=>by
  rw[lg];exact(GR (KC h ha K r) be (K r) 3).mono be
theorem GS(h:qo f)(U:∀q∈x,rl q<=3):∀i,i<=f.bars.length->Ht (iH f x i) (3+i*360)
 |0,_=>by
  rw[iH,Nat.zero_mul];intro r hr q hq;rw[(List.mem_replicate.1 hr).2]at hq;rw[(List.mem_replicate.1 hq).2];decide
 |i+1,D=>by
  rw[iH];exact(KC (GS h U i be) be (fun r c=>Lk h U be r c) 3).mono be
theorem Ll(h:rl q<=3)(h0:q≠0):rl (1 / q)<=4:=by have:=aAL h0;omega
theorem Ln(h:qo f)(U:∀q∈x,rl q<=3):∀i,i<=f.dB.length->Ht (kN f x i) (3+f.bars.length*360+i*5)
 |0,_=>by rw[kN,Nat.zero_mul];exact GS h U _ (aP _)
 |i+1,D=>by
  have h0:=Ln h U i be;have hs:=aD (show i<f.dB.length by omega);rw[kN];split
  .exact h0.mono be
  .rename_i Ox;rw[getD_some hs]at Ox ⊢;have PM:rl (f.dB[i]).2.2<=3:=h.fx _ (List.mem_append_right _ (aV.2 ⟨_,bA _,rfl⟩));exact(kc h0 be (Ll PM Ox)).mono be
end
def Lq(S:Nat->Prop)(rv:List Value)(g:Nat):Prop:=S g/\∀v∈rv,v.ownBlock≠some g
structure mM(w:World)(S:Nat->Prop)(rv:List Value)(n:Nat)(M:List (List Rat)):Prop where
 len:rv.length=M.length
 row:∀(i:Nat) v x,rv[i]? =some v->M[i]? =some x->iJ w (Lq S rv) v n x
 uR:∀(i j:Nat) a b g,rv[i]? =some a->rv[j]? =some b->a.ownBlock=some g->b.ownBlock=some g->i=j
section
variable{S S':Nat->Prop}{H:Hp}{nx n:Nat}{iv N:Iv}{B:Nat}{w J Y:World}{O:Nat->Sx.eG}{rv:List Value}{M:List (List Rat)}
theorem mM.cR(h:mM w S rv n M)(K:∀g,S g\/(∃v∈rv,v.ownBlock=some g)->Y.heap[g]? =w.heap[g]?):mM Y S rv n M:=
 ⟨h.len,fun i v x I G=>(h.row i v x I G).cR fun g X=>K g (X.imp (fun X=>X.1) fun X=>⟨v,aC I,X⟩),h.uR⟩
theorem mM.cP(h:mM w S rv n M)(K:∀g,S g->S' g):mM w S' rv n M:=
 ⟨h.len,fun i v x I G=>(h.row i v x I G).cP fun g X=>⟨K g X.1,X.2⟩,h.uR⟩
theorem mM.low(h:mM w S rv n M):∀v∈rv,∀g,v.ownBlock=some g->g<w.heap.size:=fun v hv g X=>by
 obtain⟨i,D⟩:=aU hv;exact(h.row i v _ D (aD (by rw[<-h.len];exact(aE.1 D).1))).low g X
theorem mM.put(h:mM w S rv n M){i:Nat}(hv:rv[i]? =some v)(X:w.grownBy Y v.ownBlock)(F:Old S w)(hSS:∀g,S g->S' g)(Ov:iJ Y (Lq S' rv) v n x):mM Y S' rv n (M.set i x):=by
 refine⟨by rw[bj];exact h.len,fun j u y I G=>?_,h.uR⟩;by_cases Py:i=j
 .subst Py;rw[hv]at I;injection I with I;subst I;rw[aT (by rw[<-h.len];exact(aE.1 hv).1)]at G;injection G with G;subst G;exact Ov
 .rw[aY Py]at G;have h0:=h.row j u y I G;refine(h0.cR fun g hgg=>?_).cP fun g X=>⟨hSS g X.1,X.2⟩
  rcases hgg with hgg|hgg
  .exact X.block g (F g hgg.1) fun e=>hgg.2 v (aC hv) e.symm
  .exact X.block g (h0.low g hgg) fun e=>Py (h.uR i j v u g hv I e.symm hgg)
theorem mM.push(h:mM J (Cv FF B iv) rv n M)(r:Rel H nx iv B w O J)(L:Ext J Y)(PB:∀v∈rv,∀g,v.ownBlock=some g->Cv FF B iv g)(U:eV Y FF J.heap.size [(J.heap.size,Y.heap.size)] v n x):
  mM Y (Cv FF B ((J.heap.size,Y.heap.size)::iv)) (rv++[v]) n (M++[x])/\∀u∈rv++[v],∀g,u.ownBlock=some g->Cv FF B ((J.heap.size,Y.heap.size)::iv) g:=by
 have RB:∀g,Cv FF J.heap.size [(J.heap.size,Y.heap.size)] g->J.heap.size<=g/\g<Y.heap.size:=fun g X=>by
  rcases X with X|⟨_,lo,D,G,h3,h4⟩
  .exact X.elim
  .simp at G;obtain⟨rfl,rfl⟩:=G;exact⟨h3,h4⟩
 have Yl:∀g,J.heap.size<=g/\g<Y.heap.size->Cv FF B ((J.heap.size,Y.heap.size)::iv) g:=fun g X=>.inr ⟨by have:=r.dA;omega,_,_,aH,X.1,X.2⟩;have hold:∀g,Cv FF B iv g->g<J.heap.size:=fun g X=>rlo r (dV B) g X;refine⟨⟨by rw[aQ,aQ,h.len];rfl,fun i u y I G=>?_,fun i j a b g I G h3 h4=>?_⟩,fun u hu g X=>?_⟩
 .rcases aS i rv.length with D|D
  .rw[aI D]at I;rw[aI (by rw[<-h.len];exact D)]at G;have h0:=h.row i u y I G;refine(h0.cR fun g X=>L.block g ?_).cP fun g X=>⟨X.1.mono fun p hp=>aB _ hp,fun z hz e=>?_⟩
   .rcases X with X|X
    .exact hold g X.1
    .exact h0.low g X
   .rcases bG.1 hz with hz|hz
    .exact X.2 z hz e
    .simp at hz;subst hz;have:=RB g (U.new g e);have:=hold g X.1;omega
  .have e1:i=rv.length:=by have:=(aE.1 I).1;simp at this;omega
   subst e1;rw[aN lr,bO]at I;rw[h.len,aN lr,bO]at G;injection I with I;injection G with G;subst I G;refine U.row.cP fun g X=>⟨Yl g (RB g X.1),fun z hz e=>?_⟩
   rcases bG.1 hz with hz|hz
   .have:=hold g (PB z hz g e);have:=RB g X.1;omega
   .simp at hz;subst hz;exact X.2 e
 .rcases aS i rv.length with D|D<;>rcases aS j rv.length with hj|hj
  .rw[aI D]at I;rw[aI hj]at G;exact h.uR i j a b g I G h3 h4
  .rw[aI D]at I;have e1:j=rv.length:=by have:=(aE.1 G).1;simp at this;omega
   subst e1;rw[aN lr,bO]at G;injection G with G;subst G;have:=hold g (PB a (aC I) g h3);have:=RB g (U.new g h4);omega
  .rw[aI hj]at G;have e1:i=rv.length:=by have:=(aE.1 I).1;simp at this;omega
   subst e1;rw[aN lr,bO]at I;injection I with I;subst I;have:=hold g (PB b (aC G) g h4);have:=RB g (U.new g h3);omega
  .have e1:i=rv.length:=by have:=(aE.1 I).1;simp at this;omega
   have e2:j=rv.length:=by have:=(aE.1 G).1;simp at this;omega
   omega
 .rcases bG.1 hu with hu|hu
  .exact(PB u hu g X).mono fun p hp=>aB _ hp
  .simp at hu;subst hu;exact Yl g (RB g (U.new g X))
theorem mM.rel(h:mM w (Cv FF B iv) rv n M)(PB:∀v∈rv,∀g,v.ownBlock=some g->Cv FF B iv g)(r:Rel H nx iv B w O J):mM J (Cv FF B iv) rv n M:=
 h.cR fun g X=>rls r (dV B) (X.elim id fun⟨v,hv,e⟩=>PB v hv g e)
theorem mM.cS(h:mM w (Cv FF B iv) rv n M)(PB:∀v∈rv,∀g,v.ownBlock=some g->Cv FF B iv g)(r:Rel H nx iv B w O J)(L:Ext J Y)(hm:∀p,p∈iv->p∈N):mM Y (Cv FF B N) rv n M:=
 ((h.rel PB r).cR fun g X=>L.block g (rlo r (dV B) g (X.elim id fun⟨v,hv,e⟩=>PB v hv g e))).cP fun _ X=>X.mono hm
end
theorem ju.aCb{Y:World}(h:Bq w Y):w.grownBy Y none:=⟨h.os,h.tape,h.output,h.size,fun k K _=>h.block k K⟩
theorem HF{n c j:Nat}(h:iJ w S (.slice a n c) n x)(hj:j<n):∃g,a=some ⟨g,0,none⟩:=by
 obtain⟨A,I,G,h3⟩:=h;rcases I.2 with⟨_,h0⟩|⟨g,cap,cur,e,_⟩
 .omega
 .injection e with e;exact⟨g,e⟩
theorem j1.at1{m c j:Nat}(h:j1 w S 1 (.slice a m c) Z m)(hj:Z[j]? =some u):∃ad,a=some ad/\S ad.block/\w.cell? (ad.add (j*1))=some u:=by
 obtain⟨h0,I,G,a',c',e,h3,h4⟩:=h;injection e with e1 e2 e3;subst e1;obtain⟨ad,e,h5,h6⟩:=h4 j u hj;exact⟨ad,e,h5,by rw[aZ];exact h6⟩
theorem aBE{C:Nat->Prop}{ap ao:Addr}{apl aot:Option Addr}{m cpl cot n i k h:Nat}(hC:Old C w)(F:Old S w)(Yd:w.cell? ap=some (.slice apl m cpl))(Rn:C ap.block)(hP:DW w C (.slice apl m cpl) pl)(YQ:pl.length=m)(hco:w.cell? ao=some (.slice aot n cot))(hao:C ao.block)(hO:j1 w C 1 (.slice aot n cot) rv n)(hM:mM w S rv n M)(PN:rv.length=n)(D:i<pl.length)(K:k<pl.length)(hm:m<=1000)(W:n<=1000)(Ts:∀z∈pl,-1<=z/\z<n)(Qd:Ht M h)(hh:h<=80000)(hu:cY w S u q)(hq:rl q<=80000):
  eH PG GT.fN #[iV i,.int .i64 k,u,.pointer (some ap),.pointer (some ao)] w (fun e Y=>∃v row,e= .returned v/\w.grownBy Y row/\(∀g,row=some g->∃v∈rv,v.ownBlock=some g)/\mM Y (Nw S w Y) rv n (fb pl M i k q)):=by
 have V:=bR w;obtain⟨u0,u1,u2,u3,u4,u5,u6,u7,rfl⟩:=hu.shape;obtain⟨zi,hzi⟩:=gO pl i;obtain⟨zk,hzk⟩:=gO pl k;obtain⟨hi1,TG⟩:=Ts zi (aC hzi);obtain⟨hk1,Vv⟩:=Ts zk (aC hzk);have XY:pl.getD i 0=zi:=by rw[List.getD,hzi];rfl
 have hgk:pl.getD k 0=zk:=by rw[List.getD,hzk];rfl
 obtain⟨ai,hai,hSi,UY⟩:=DW.at hP hzi;obtain⟨ak,hak,hSk,hlk⟩:=DW.at hP hzk;have SA:M.length=n:=by rw[<-hM.len,PN]
 refine qQ bv ?_;refine dP (idO 10) ?_;refine⟨.slice apl m cpl,fun O J r=>?_,?_⟩
 .rw[cV (w:=w) (Y:=J) ((V.tr r.cZ).block _ (hC _ Rn))];exact Yd
 refine⟨ai,hai,be,iV zi,rd1 UY V (hC _ hSi),.slice apl m cpl,fun O J r=>?_,?_⟩
 .rw[cV (w:=w) (Y:=J) ((V.tr r.cZ).block _ (hC _ Rn))];exact Yd
 refine⟨ak,hak,be,iV zk,rd1 hlk V (hC _ hSk),?_⟩;apply bS<;>intro Wr
 .have Wr:0<=zi:=by simpa using Wr
  apply bS<;>intro Tn
  .have Tn:0<=zk:=by simpa using Tn
   obtain⟨r,rfl⟩:=Int.eq_ofNat_of_zero_le Wr;obtain⟨c,rfl⟩:=Int.eq_ofNat_of_zero_le Tn;have hr:r<n:=by omega
   have hc:c<n:=by omega
   obtain⟨vr,Ue⟩:=gO rv r;obtain⟨x,U⟩:=gO M r;have Ov:=hM.row r vr x Ue U;have QM:=Ov.len;obtain⟨y,hy⟩:=gO x c;obtain⟨ar,cr,rfl,-⟩:=Ov.form;have hyr:rl y<=80000:=by have:=Qd x (aC U) y (aC hy);omega
   obtain⟨ady,csy,VS,Rt,RL⟩:=gz.load Ov.read hy;obtain⟨y0,y1,y2,y3,y4,y5,y6,y7,rfl,Rt⟩:=Rt;obtain⟨ao2,hao2,hSo,Sm⟩:=j1.at1 hO Ue;have PI:∀g,(Value.slice ar n cr).ownBlock=some g->g<w.heap.size:=Ov.low;refine dP (idO 16) ?_;refine⟨.slice aot n cot,fun O J r=>?_,?_⟩
   .rw[cV (w:=w) (Y:=J) ((V.tr r.cZ).block _ (hC _ hao))];exact hco
   refine⟨ao2,hao2,be,.slice ar n cr,rd1 Sm V (hC _ hSo),.slice aot n cot,fun O J r=>?_,?_⟩
   .rw[cV (w:=w) (Y:=J) ((V.tr r.cZ).block _ (hC _ hao))];exact hco
   refine⟨ao2,hao2,be,.slice ar n cr,rd1 Sm V (hC _ hSo),ady,VS,be,rC y0 y1 y2 y3 y4 y5 y6 y7,rfl,rdO RL V PI,?_⟩;refine cE V (pR cY (y+q)) (fun O J r=>Gm (S:=S) (oS F r) ((cY.l (cY.cR (cY.cP Rt fun g X=>X.1) (kS V r F)) be).v) ((cY.l (cY.cR hu (kS V r F)) be).v)) ?_;rintro O _ _ _ PA r L V E W;have hd:=W.cP (nw r E);clear r W;obtain⟨A0,A1,A2,A3,A4,A5,A6,A7,rfl⟩:=hd.shape;obtain⟨g,X⟩:∃g,ar=some ⟨g,0,none⟩:=HF Ov hc;subst X;refine⟨⟨g,0,none⟩,rfl,be,?_⟩;intro O J r0;have hbw:=V.tr r0.cZ;have Wv:∀v∈rv,∀g,v.ownBlock=some g->g<w.heap.size:=hM.low;have Yf:∃v∈rv,v.ownBlock=some g:=⟨_,aC Ue,rfl⟩
   have hglow:g<w.heap.size:=PI g rfl;have hMk:mM J (Cv S w.heap.size PA) rv n M:=(hM.cR fun z hz=>hbw.block z (hz.elim (F z) fun⟨v,hv,e⟩=>Wv v hv z e)).cP fun z hz=>.inl hz;have Ym:Old (Cv S w.heap.size PA) J:=rlo r0 F;have hdk:cY J (Lq (Cv S w.heap.size PA) rv) (.agg #[.bool A0,.slice A1 A2 A3,.bool A4,.slice A5 A6 A7]) (y+q):=cY.cP (hd.rel r0 oF) fun z hz=>by
    have I:w.heap.size<=z:=hz.elim (fun h=>h.elim) fun h=>h.1;have G:z<J.heap.size:=rlo r0 oF z hz;exact⟨Dh hz,fun v hv e=>by have:=Wv v hv z e;omega⟩
   obtain⟨g',Sg,I,G,h3,h5⟩:=(hMk.row r _ x Ue U).store (j:=c) hc hdk (fun z e hz=>hz.2 _ (aC Ue) e) (fun z hz=>Ym z hz.1);injection Sg with Sg;injection Sg with Sg;subst Sg;refine⟨I,h3,fun id b hb W=>by rw[G];have:=(r0.low id b hb W).1;omega,fun w5 Qv=>?_⟩;obtain⟨k1,k2,k3⟩:=h5 w5 Qv;have hP2:=hMk.put (S':=Cv S w.heap.size PA) Ue k2 Ym (fun z hz=>hz) k1;have Uv:fb pl M i k q=M.set r (x.set c (y+q)):=by
    unfold fb;rw[XY,hgk,aM ⟨Int.natCast_nonneg _,Int.natCast_nonneg _⟩,aF,aF,dF,show M.getD r []=x by rw[List.getD,U];rfl,show x.getD c 0=y by rw[List.getD,hy];rfl]
   rw[<-Uv]at hP2;clear hMk hdk I G h3 h5 Qv k1;intro J8 we re;have hb5:=re.cZ;refine⟨_,some g,rfl,⟨(re.os.trans k2.os).trans hbw.os,(re.tape.trans k2.tape).trans hbw.tape,(re.output.trans k2.output).trans hbw.output,aX hbw.size (aX k2.size hb5.size),fun z hz Ox=>((hb5.block z hz).trans (k2.block z (Nat.lt_of_lt_of_le hz hbw.size) Ox)).trans (hbw.block z hz)⟩,fun z e=>by injection e with e;subst e;exact Yf,?_⟩;exact(hP2.cR fun z hz=>hz.elim (fun h=>rls re F h) fun⟨v,hv,e⟩=>hb5.block z (Wv v hv z e)).cP fun z hz=>Cv.nw hz re
  have Tn:zk<0:=by simpa using Tn
  have S2:fb pl M i k q=M:=by
   unfold fb;rw[XY,hgk,aJ be]
  intro J8 we re;refine⟨_,none,rfl,ju.aCb (V.tr re.cZ),(fun g X=>by cases X),?_⟩;rw[S2];exact(hM.cR fun g X=>(V.tr re.cZ).block g (X.elim (F g) fun⟨v,hv,e⟩=>hM.low v hv g e)).cP fun g X=>.inl X
 have Wr:zi<0:=by simpa using Wr
 have S2:fb pl M i k q=M:=by
  unfold fb;rw[XY,hgk,aJ be]
 intro J8 we re;refine⟨_,none,rfl,ju.aCb (V.tr re.cZ),(fun g X=>by cases X),?_⟩;rw[S2];exact(hM.cR fun g X=>(V.tr re.cZ).block g (X.elim (F g) fun⟨v,hv,e⟩=>hM.low v hv g e)).cP fun g X=>.inl X
end Go.Ex
namespace Go.Ex
variable{s:Int×Int×Rat}
def ni(f:eh)(k r:Nat):Bool:=(f.dB.take k).any fun s=>decide (eD s=r)&&decide (s.2.2=0)
def ye(f:eh)(k:Nat):List Int:=(List.range (3*f.nodes.length)).map fun r=>if ni f k r then -1 else 0
def rD(f:eh)(i:Nat):List Int:=(List.range (3*f.nodes.length)).map fun r=>if iG f r then -1 else if r<i then(k9 f r:Int)else 0
section
variable{f:eh}
theorem IX(k:Nat):(ye f k).length=3*f.nodes.length:=by rw[ye,aL,List.length_range]
theorem CX(i:Nat):(rD f i).length=3*f.nodes.length:=by rw[rD,aL,List.length_range]
theorem Mt:ye f 0=List.replicate (3*f.nodes.length) 0:=by
 rw[List.eq_replicate_iff];refine⟨IX 0,fun b hb=>?_⟩;obtain⟨r,-,rfl⟩:=aV.1 hb;rfl
theorem qJ{k r:Nat}(hs:f.dB[k]? =some s):ni f (k+1) r=(ni f k r||(decide (eD s=r)&&decide (s.2.2=0))):=by
 unfold ni;rw[bB,hs,List.any_append];simp
theorem Mu{k:Nat}(hs:f.dB[k]? =some s)(h:s.2.2≠0):ye f (k+1)=ye f k:=by
 unfold ye;exact List.map_congr_left fun r _=>by rw[qJ hs,bP h,Bool.and_false,Bool.or_false]
theorem aAQ{k:Nat}(hs:f.dB[k]? =some s)(h:s.2.2=0):ye f (k+1)=(ye f k).set (eD s) (-1):=by
 refine bT fun r=>?_;unfold ye;by_cases e:eD s=r
 .subst e;rcases aS (eD s) (3*f.nodes.length)with I|I
  .rw[aT (by rw[aL,List.length_range];exact I),aO,bY I];show some (if ni f (k+1) (eD s)then -1 else 0)=_;rw[qJ hs,bf rfl,bf h];simp
  .rw[List.getElem?_eq_none (by simpa using I),List.getElem?_eq_none (by simpa using I)]
 .rw[aY e,aO,aO]
  cases hr:(List.range (3*f.nodes.length))[r]? with
  |none=>rfl
  |some r'=>
   have:r'=r:=by
    have I:=(aE.1 hr).1;rw[List.length_range]at I;rw[bY I]at hr;injection hr with hr;exact hr.symm
   subst this;show some (if ni f (k+1) r' then(-1:Int)else 0)=some (if ni f k r' then -1 else 0);rw[qJ hs,bP e,Bool.false_and,Bool.or_false]
theorem Er(r:Nat):ni f f.dB.length r=iG f r:=by
 unfold ni iG;rw[bN]
theorem Mv:rD f 0=ye f f.dB.length:=by
 unfold ye rD;exact List.map_congr_left fun r _=>by rw[Er,aJ (Nat.not_lt_zero r)]
theorem aAR:rD f (3*f.nodes.length)=placeF f:=by
 unfold rD placeF;exact List.map_congr_left fun r hr=>by rw[aM (List.mem_range.1 hr)]
theorem aBq{i:Nat}(D:i<3*f.nodes.length):(rD f i)[i]? =some (if iG f i then -1 else 0):=by
 unfold rD;rw[aO,bY D];show some (if iG f i then -1 else if i<i then(k9 f i:Int)else 0)=_;rw[aJ (Nat.lt_irrefl i)]
theorem aAS(i:Nat):k9 f (i+1)=k9 f i+if iG f i then 0 else 1:=by
 unfold k9;rw[bU,List.filter_append,aQ]
 cases h:iG f i<;>simp[h]
theorem Lo{i r:Nat}{x:Int}(e:r≠i):(if r<i+1 then x else 0)=if r<i then x else 0:=by
 by_cases e2:r<i
 .rw[aM e2,aM be]
 .rw[aJ e2,aJ be]
theorem Mw{i:Nat}(h:iG f i=true):rD f (i+1)=rD f i:=by
 unfold rD;refine List.map_congr_left fun r _=>?_;by_cases e:r=i
 .subst e;rw[aM h,aM h]
 .rw[Lo e]
theorem aAT{i:Nat}(D:i<3*f.nodes.length)(h:iG f i=false):rD f (i+1)=(rD f i).set i (k9 f i):=by
 refine bT fun r=>?_;by_cases e:i=r
 .subst e;rw[aT (by rw[CX];exact D)];unfold rD;rw[aO,bY D];show some (if iG f i then -1 else if i<i+1 then(k9 f i:Int)else 0)=_;rw[h,aJ bi,aM (bc i)]
 .rw[aY e];unfold rD;rw[aO,aO]
  cases hr:(List.range (3*f.nodes.length))[r]? with
  |none=>rfl
  |some r'=>
   have:r'=r:=by
    have I:=(aE.1 hr).1;rw[List.length_range]at I;rw[bY I]at hr;injection hr with hr;exact hr.symm
   subst this;show some (if iG f r' then(-1:Int)else if r'<i+1 then(k9 f r':Int)else 0)=some (if iG f r' then -1 else if r'<i then(k9 f r':Int)else 0);rw[Lo (Ne.symm e)]
end
end Go.Ex
namespace Go.Ex
open Go Go.Sx Go.Proofs
variable{s:Int×Int×Rat}{S:Nat->Prop}{f:eh}
theorem aCJ(hv:FrV f)(hs:s∈f.dB)(Oz:0<=s.1/\0<=s.2.1){i:Nat}:(3*s.1+s.2.1=(i:Int))↔eD s=i:=by
 unfold eD;omega
theorem Kt{q:Rat}:decide (q=0)=(rs q==0):=by
 by_cases h:q=0
 .subst h;rfl
 .rw[bP h];exact(beq_eq_false_iff_ne.2 fun e=>h (Rat.num_eq_zero.1 (cM.1 e))).symm
theorem Nk{i:Nat}:((List.range (i+1)).filter fun r=> !iG f r)=((List.range i).filter fun r=> !iG f r)++if iG f i then []else [i]:=by
 rw[bU,List.filter_append]
 cases h:iG f i<;>simp[h]
theorem EL{w:World}{vn vb vs:Value}(F:Old S w)(hf:dw w S vn vb vs f)(PJ:eW f=0):
  eH PG GT.pB #[.agg #[vn,vb,vs]] w (eR w fun v' Y=>dN Y (Nf w Y) v' (eN f)):=by
 have V:=bR w;obtain⟨an,cn,ab,cb,aq,cq,rfl,rfl,rfl,R4,RY,SX⟩:=hf.shape;have hv:=Ju PJ;have Oz:=lQ PJ;have Vk:=hv.n;have TY:=hv.s;refine tp bv ?_
 refine⟨Nat×World×Iv,fun z=>⟨[(1,pP 0 0),(3,.o (.w 1 ((List.range z.1).filter fun r=> !iG f r).length)),(4,iN z.1)],[(1,.vec T.int 1 (((List.range z.1).filter fun r=> !iG f r).map fun c:Nat=>iV (c:Int))),(0,.box T.Frame [.v (.slice an f.nodes.length cn),.v (.slice ab f.bars.length cb),.v (.slice aq f.dB.length cq)])],2,z.2.2,z.2.1⟩,fun z=>3*f.nodes.length-z.1,
  fun z=>z.1<=3*f.nodes.length/\Bq w z.2.1,?_,?_⟩
 .intro O J r;exact⟨(0,J,_),⟨aR _,V.tr r.cZ⟩,Sub.nil 3 T.int 1 rfl (by simp[kK,SV.sc,At.sc,fc]) r fun In r1=>sbgn [] r1⟩
 clear V;rintro⟨i,w1,iv⟩ ⟨D,V⟩;dsimp only at D V ⊢;refine⟨((3*f.nodes.length:Nat):Int),wo,?_⟩;apply bS<;>intro Ou
 .have Ou:i<3*f.nodes.length:=by have:=aK Ou;omega
  refine⟨Nat×World×Iv,fun z=>⟨[(1,pP 0 0),(3,.o (.w 1 ((List.range i).filter fun r=> !iG f r).length)),(4,iN i),(5,.o (.v (.bool (ni f z.1 i)))),(6,iN z.1)],[(1,.vec T.int 1 (((List.range i).filter fun r=> !iG f r).map fun c:Nat=>iV (c:Int))),(0,.box T.Frame [.v (.slice an f.nodes.length cn),.v (.slice ab f.bars.length cb),.v (.slice aq f.dB.length cq)])],2,z.2.2,z.2.1⟩,fun z=>f.dB.length-z.1,
   fun z=>z.1<=f.dB.length/\Bq w z.2.1,?_,?_⟩
  .intro O J r;exact⟨(0,J,_),⟨aR _,V.tr r.cZ⟩,sbgn [] r⟩
  clear V;rintro⟨k,Y,iv⟩ ⟨K,V⟩;dsimp only at K V ⊢;apply bS<;>intro Ow
  .have Ow:=dL Ow;obtain⟨s,hs⟩:=gO f.dB k;obtain⟨adb,Z,QV,hF,-,PW⟩:=hf.dB.load bi hs;obtain⟨g0,g1,g2,g3,g4,g5,g6,g7,rfl,hF⟩:=hF;have hsok:=Oz.sup s (aC hs);have VW:=qJ (r:=i) hs;have Ov:=aCJ (i:=i) hv (aC hs) be;refine⟨adb,QV,be,[iV s.1,iV s.2.1,.bool g0,.slice g1 g2 g3,.bool g4,.slice g5 g6 g7],rfl,rdO PW V F,?_⟩;obtain⟨d,hd⟩:=exq (ni f k i);rw[hd]at VW ⊢
   cases d
   .conv=>whnf
    refine⟨3*s.1,wo,3*s.1+s.2.1,wo,?_⟩;apply bS<;>intro L
    .have L:eD s=i:=Ov.1 (by simpa using L);refine cQ (cE V (pE (iV (rs s.2.2))) (fun O J r=>qg (oS F r) (hF.cR (kS V r F))) ?_);rintro O _ _ _ PV r L V E rfl;clear r L;have SF:ni f (k+1) i=(rs s.2.2==0):=by
      rw[VW,bf L,Bool.false_or,Bool.true_and];exact Kt
     refine inc k ?_;intro I' w6 R;exact⟨(k+1,w6,_),⟨Ow,V.tr R.cZ⟩,sbgn [] R (hE:=⟨rfl,rfl,rfl,by dsimp only;rw[SF];rfl,rfl,trivial⟩),dec Ow⟩
    have L:eD s≠i:=fun h=>by have:=Ov.2 h;simp[this]at L
    have SF:ni f (k+1) i=false:=by rw[VW,bP L];rfl
    refine inc k ?_;intro I' w6 R;exact⟨(k+1,w6,_),⟨Ow,V.tr R.cZ⟩,sbgn [] R (hE:=⟨rfl,rfl,rfl,by dsimp only;rw[SF];rfl,rfl,trivial⟩),dec Ow⟩
   have SF:ni f (k+1) i=true:=by rw[VW];rfl
   refine inc k ?_;intro I' w6 R;exact⟨(k+1,w6,_),⟨Ow,V.tr R.cZ⟩,sbgn [] R (hE:=⟨rfl,rfl,rfl,by dsimp only;rw[SF];rfl,rfl,trivial⟩),dec Ow⟩
  have Ow:k=f.dB.length:=by have:=aG Ow;omega
  rw[Ow,Er];have Tc:=Nk (f:=f) (i:=i);obtain⟨D',hL⟩:=exq (((List.range i).filter fun r=> !iG f r));have hLl:D'.length<=i:=by rw[<-hL];exact aX (List.length_filter_le _ _) (by rw[List.length_range];exact aP _)
  rw[hL]at Tc ⊢;obtain⟨d,hd⟩:=exq (iG f i);rw[hd]at Tc ⊢
  cases d
  .conv=>whnf
   have Tc:((List.range (i+1)).filter fun r=> !iG f r)=D'++[i]:=Tc;refine .inl ?_;refine⟨bv,be,mx,((i+1:Nat):Int),wo,?_⟩;intro I' w6 R;exact⟨(i+1,w6,_),⟨Ou,V.tr R.cZ⟩,sbgn [(1,3)] R ⟨by dsimp only;rw[Tc,List.map_append];rfl,rfl,trivial⟩ ⟨rfl,by dsimp only;rw[Tc,List.length_append,List.length_singleton];rfl,rfl,trivial⟩,dec Ou⟩
  have Tc:((List.range (i+1)).filter fun r=> !iG f r)=D':=Tc.trans (List.append_nil _);refine inc i ?_;intro I' w6 R;exact⟨(i+1,w6,_),⟨Ou,V.tr R.cZ⟩,sbgn [] R ⟨by dsimp only;rw[Tc];rfl,rfl,trivial⟩ ⟨rfl,by dsimp only;rw[Tc];rfl,rfl,trivial⟩,dec Ou⟩
 have Ou:i=3*f.nodes.length:=by have:=aG Ou;omega
 rw[Ou];intro J8 we re;have SU:(eN f).length<=60:=by have:=wx (f:=f);omega
 have h5:=re.iD (id:=1) (sz:=1) (m:=(eN f).length) rfl (by simp[eN]) mx bi (fun u hu=>by obtain⟨c,-,rfl⟩:=aV.1 hu;rfl);exact⟨_,rfl,V.tr re.cZ,h5.cP fun g X=>.inr X⟩
theorem aAz(h:eW f≠0\/f.nodes.length<=4/\f.bars.length<=6)(hb:∀b∈f.bars,rl b.2.2<=3)(hs:∀b∈f.dB,rl b.2.2<=3)(h0:eW f=0):qo f:=
 ⟨aDL h h0,fun q hq=>by
  rcases bG.1 hq with h|h
  .obtain⟨b,RW,rfl⟩:=aV.1 h;exact hb b RW
  .obtain⟨b,RW,rfl⟩:=aV.1 h;exact hs b RW⟩
end Go.Ex
namespace Go.Ex
section
variable{f:eh}{b y s z:List Rat}{c:Rat}
end
end Go.Ex
namespace Go.Ex
open Go Go.Sx Go.Proofs
variable{x:List Rat}
theorem aBA{f:eh}(h:qo f){h0:Nat}(U:x.length<=f.cols)(hq:∀q∈x,rl q<=h0):∀q∈fu x (dM f),rl q<=h0+3:=fun q Qn=>by
 obtain⟨t,ht⟩:=aU Qn;have Vn:t<x.length:=by have:=(aE.1 ht).1;rw[ki]at this;exact this
 have I:=ox (a:=x) (b:=dM f) Vn;rw[getD_some ht]at I;have G:=fh (x.getD t 0) ((dM f).getD t 0);have h3:=hq (x.getD t 0) (by rw[getD_some (aD Vn)];exact bA _);have h4:=h.fxD (t:=t) be;rw[I];omega
end Go.Ex
namespace Go.Ex
section
variable{M:List (List Rat)}{n:Nat}{fl p q x y u v:List Rat}
end
end Go.Ex
namespace Go.Ex
open Go Go.Sx Go.Proofs
variable{M:List (List Rat)}
theorem Jx{n:Nat}(hM:fz n M)(x:List Rat){j:Nat}(hj:j<M.length):(lA M x).getD j 0=mulR M n (fun t=>x.getD t 0) j:=by
 have hr:=aD hj;rw[getD_some (Mr hr),IE,hM _ (bA hj)];exact cT fun t _=>by rw[dF,getD_some hr]
end Go.Ex
