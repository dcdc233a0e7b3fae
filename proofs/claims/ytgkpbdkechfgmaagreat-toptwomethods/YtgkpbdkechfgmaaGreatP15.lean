/- Texts X193 to L89: lemmas, each with its conditions. -/
import Derived.Test.YtgkpbdkechfgmaaGreatP14
namespace Go.Ex
open Go Go.Sx Go.Proofs
end Go.Ex
namespace Go.Sx
open Go Go.Ex Go.Proofs
variable{W:List Value}{O:Nat->Sx.dq}
theorem Rel.vF{H:Hp}{nx:Nat}{iv:Iv}{B:Nat}{w J:World}(r:Rel H nx iv B w O J){T:Nat->Prop}{id t m sz:Nat}(h:dG H id=some (.vec t sz W))(hm:W.length=m*sz)(SX:m<=maxLen)(hs:0<sz)(L:∀u∈W,u.oneCell'=true)(hT:(O id).nil=false->T (O id).g):
  ie J T sz ((At.w id m).den O) W m:=by
 rcases r.fits h with⟨R,rfl⟩|⟨R,spare,G,N,h4⟩
 ·have Uf:m=0:=by
   rcases bK m with h|h
   ·exact h
   ·have:=Nat.mul_pos h hs;simp at hm;omega
  subst Uf;have RF:(At.w id 0).den O= .slice none 0 0:=by simp[At.den,R]
  rw[RF];exact⟨aQ _,by simp,by simp,none,0,rfl,Nat.le_refl _,fun j u h=>by cases h⟩
 ·have RF:(At.w id m).den O= .slice (some ⟨(O id).g,0,none⟩) m (O id).cap:=by simp[At.den,R]
  rw[RF];refine⟨SX,hm,L,_,_,rfl,?_,fun j u hu=>⟨_,rfl,hT R,?_⟩⟩
  ·rw[List.length_append,hm]at N;exact cA (show m*sz<=(O id).cap*sz by omega) hs
  ·rw[dL,cell_of G,aT,aI (aD.1 hu).1];exact hu
end Go.Sx
namespace Go.Ex
open Go Go.Sx Go.Proofs
variable{p:List Rat}{g:Nat}{S:Nat->Prop}
section
variable{S:Nat->Prop}{H:Hp}{nx:Nat}{iv K:Iv}{B n:Nat}{w J V:World}{O:Nat->Sx.dq}{v:Value}{qs:List Rat}
theorem Bs.fresh(r:Rel H nx iv B w O J)(F:∀g,v.ownBlock=some g->g<J.heap.size)(Y:Nf J V g):Bs S B ((J.heap.size,V.heap.size)::iv) v g:=by
 rcases Y with Y|Y
 ·exact Y.elim
 ·exact⟨.inr ⟨by have:=r.cI;omega,_,_,aF,Y.1,Y.2⟩,fun e=>by have:=F g e;omega⟩
theorem Bs.solved{T:Nat->Prop}(r:Rel H nx iv B w O J)(F:∀g,v.ownBlock=some g->g<J.heap.size)(hT:∀g,T g->Bs S B iv v g)(Y:Cv T J.heap.size [(J.heap.size,V.heap.size)] g):Bs S B ((J.heap.size,V.heap.size)::iv) v g:=by
 rcases Y with Y|⟨L,lo,A,G,N,h4⟩
 ·exact Bs.mono (fun p hp=>aB _ hp) (hT g Y)
 ·simp at G;obtain⟨rfl,rfl⟩:=G;exact Bs.fresh r F (.inr ⟨N,h4⟩)
end
section
variable{S:Nat->Prop}{H:Hp}{nx:Nat}{iv K:Iv}{B:Nat}{w J V:World}{O:Nat->Sx.dq}{v v0:Value}{q:Rat}
theorem mJ.rel(h:dA w (Bs S B iv v) v0 q)(r:Rel H nx iv B w O J)(X:∀g,S g->g<B):dA J (Bs S B iv v) v0 q:=dA.cK h (Bs.same r X)
theorem mJ.fresh(h:dA V (Nf J V) v0 q)(r:Rel H nx iv B w O J)(F:∀g,v.ownBlock=some g->g<J.heap.size):dA V (Bs S B ((J.heap.size,V.heap.size)::iv) v) v0 q:=dA.cN h fun _ Y=>Bs.fresh r F Y
theorem mJ.cv(h:dA w (Bs S B iv v) v0 q):dA w (Cv S B iv) v0 q:=dA.cN h fun _ Y=>Y.1
end
section
variable{S:Nat->Prop}{H:Hp}{nx:Nat}{iv K:Iv}{B:Nat}{w J V:World}{O:Nat->Sx.dq}{v v0:Value}{Fn:List (List Rat)}
theorem gS.rel(h:cV w (Bs S B iv v) v0 Fn)(r:Rel H nx iv B w O J)(X:∀g,S g->g<B):cV J (Bs S B iv v) v0 Fn:=cV.cK h (Bs.same r X)
theorem gS.cM(h:cV w (Bs S B iv v) v0 Fn)(r:Rel H nx iv B w O J)(X:∀g,S g->g<B)(U:Ext J V)(hm:∀p,p∈iv->p∈K):cV V (Bs S B K v) v0 Fn:=
 cV.cN (cV.cK (gS.rel h r X) fun g Y=>U.block g (Rel.old r X g Y.1)) fun _ Y=>Bs.mono hm Y
theorem gS.fresh(h:cV V (Nf J V) v0 Fn)(r:Rel H nx iv B w O J)(F:∀g,v.ownBlock=some g->g<J.heap.size):cV V (Bs S B ((J.heap.size,V.heap.size)::iv) v) v0 Fn:=cV.cN h fun _ Y=>Bs.fresh r F Y
theorem gS.kept(h:cV w (Bs S B iv v) v0 Fn)(r:Rel H nx iv B w O J)(X:∀g,S g->g<B)(Y:J.grownBy V v.ownBlock):cV V (Bs S B iv v) v0 Fn:=cV.cK h (Bs.kept r X Y fun _ e=>e)
end
section
variable{S:Nat->Prop}{H:Hp}{nx:Nat}{iv K:Iv}{B:Nat}{w J V:World}{O:Nat->Sx.dq}{v v0:Value}{xs:List Rat}
theorem fA.rel(h:cS w (Bs S B iv v) v0 xs)(r:Rel H nx iv B w O J)(X:∀g,S g->g<B):cS J (Bs S B iv v) v0 xs:=cS.cK h (Bs.same r X)
theorem fA.cM(h:cS w (Bs S B iv v) v0 xs)(r:Rel H nx iv B w O J)(X:∀g,S g->g<B)(U:Ext J V)(hm:∀p,p∈iv->p∈K):cS V (Bs S B K v) v0 xs:=
 cS.cN (cS.cK (fA.rel h r X) fun g Y=>U.block g (Rel.old r X g Y.1)) fun _ Y=>Bs.mono hm Y
theorem fA.fresh(h:cS V (Nf J V) v0 xs)(r:Rel H nx iv B w O J)(F:∀g,v.ownBlock=some g->g<J.heap.size):cS V (Bs S B ((J.heap.size,V.heap.size)::iv) v) v0 xs:=cS.cN h fun _ Y=>Bs.fresh r F Y
theorem fA.cv(h:cS w (Bs S B iv v) v0 xs):cS w (Cv S B iv) v0 xs:=cS.cN h fun _ Y=>Y.1
theorem fA.kept(h:cS w (Bs S B iv v) v0 xs)(r:Rel H nx iv B w O J)(X:∀g,S g->g<B)(Y:J.grownBy V v.ownBlock):cS V (Bs S B iv v) v0 xs:=cS.cK h (Bs.kept r X Y fun _ e=>e)
end
section
variable{S:Nat->Prop}{H:Hp}{nx:Nat}{iv K:Iv}{B:Nat}{w J V:World}{O:Nat->Sx.dq}{v v0:Value}{rv:List Value}{Fn:List (List Rat)}
theorem nL.rel(h:dS w (Bs S B iv v) rv Fn)(r:Rel H nx iv B w O J)(X:∀g,S g->g<B):dS J (Bs S B iv v) rv Fn:=dS.cK h (Bs.same r X)
theorem nL.cM(h:dS w (Bs S B iv v) rv Fn)(r:Rel H nx iv B w O J)(X:∀g,S g->g<B)(U:Ext J V)(hm:∀p,p∈iv->p∈K):dS V (Bs S B K v) rv Fn:=
 dS.cN (dS.cK (nL.rel h r X) fun g Y=>U.block g (Rel.old r X g Y.1)) fun _ Y=>Bs.mono hm Y
end
section
variable{S:Nat->Prop}{H:Hp}{nx:Nat}{iv K:Iv}{B:Nat}{w J V:World}{O:Nat->Sx.dq}{v v0:Value}{Z:List (List Value)}{xs:List Rat}
theorem kG.rel(h:eS w (Bs S B iv v) Z xs)(r:Rel H nx iv B w O J)(X:∀g,S g->g<B):eS J (Bs S B iv v) Z xs:=eS.cK h (Bs.same r X)
theorem kG.cM(h:eS w (Bs S B iv v) Z xs)(r:Rel H nx iv B w O J)(X:∀g,S g->g<B)(U:Ext J V)(hm:∀p,p∈iv->p∈K):eS V (Bs S B K v) Z xs:=
 eS.cN (eS.cK (kG.rel h r X) fun g Y=>U.block g (Rel.old r X g Y.1)) fun _ Y=>Bs.mono hm Y
end
theorem GX{st:List (List Rat)}{c x:List Rat}{a b:Nat}(F:∀q∈x,rl q<=a)(hs:∀r∈st,∀q∈r,rl q<=b)(hc:∀q∈c,rl q<=b):∀i,∀q∈l8 st c x i,rl q<=a+i*(2*b+5)
 |0,q,hq=>by have:=F q hq;omega
 |i+1,q,hq=>by
  rw[l8]at hq;obtain⟨k,D⟩:=aN hq;rw[List.getElem?_mapIdx]at D;obtain⟨p,hp,rfl⟩:=Option.map_eq_some_iff.1 D;have L:=GX F hs hc i p (aC hp);have h0:rl 0<=2:=by decide
  have G:rl (c.getD i 0)<=b+2:=by
   rcases aO i c.length with h|h
   ·rw[getD_some (aA h)];have:=hc _ (aY h);omega
   ·rw[ij h];omega
  have N:rl ((st.getD i []).getD k 0)<=b+2:=by
   rcases aO i st.length with h|h
   ·rw[getD_some (d:=[]) (aA h)];rcases aO k (st[i]).length with h4|h4
    ·rw[getD_some (aA h4)];have:=hs _ (aY h) _ (aY h4);omega
    ·rw[ij h4];omega
   ·rw[show st.getD i []=[] by rw[List.getD,List.getElem?_eq_none h];rfl];exact aW h0 (Nat.le_add_left _ _)
  have h4:=oh p (c.getD i 0*(st.getD i []).getD k 0);have h5:=iA (c.getD i 0) ((st.getD i []).getD k 0);rw[Nat.add_mul];omega
set_option maxHeartbeats 2000000 in
set_option maxRecDepth 8000 in
theorem DG{w:World}{vn vb vs u:Value}{f:fC}(X:Old S w)(hf:eG w S vn vb vs f)(PJ:e8 f=0)(QB:nd f)(hp:cS w S u p)(Pv:p.length=3*f.nodes.length)(VH:∀q∈p,rl q<=100000)(hb:Bl (dE p (-1))):
  eI PG F'.qM #[.agg #[vn,vb,vs],u] w (eO w fun v' V=>(fM (cT f) (dE p (-1)) f.cols=none/\v'= .tuple #[.slice none 0 0,.bool false])\/∃x vx,jB (cT f) f.cols (fun t=>(cY f).getD t 0) (dE p (-1)) x/\v'= .tuple #[vx,.bool true]/\cS V (Nf w V) vx x):=by
 have I:=bR w;obtain⟨an,cn,ab,cb,aq,cq,rfl,rfl,rfl,RR,Rk,SM⟩:=hf.shape;have Of:=mZ PJ;have hlen:=fQ f;have St:=iX f;have Uo:=QB.Kf;have Vj:=QB.Lj;have PL:=pB f;have Pp:f.cols=f.bars.length+f.cZ.length:=rfl;obtain⟨ap,cp,rfl,hcp,hmp⟩:=dV.shape hp;have PD:(dE p (-1)).length=(cT f).length:=by rw[dE,aJ,St];exact Pv
 have hw0:=QB.Ia hb;have Ov:=QB.Ll (b:=dE p (-1));refine ua (by simp) ?_;refine cJ (cE I (fun _ J v V=>(∃vr,v= .agg #[vr,.int .i64 f.cols]/\cV V (Nf J V) vr (cT f))/\fZ f.cols (cT f)/\Ht (cT f) 2) (fun O J r=>tJ (S:=S) (oS X r) (hf.cK (kS I r X)) Of) ?_);rintro O _ _ _ Oo r U I h_ ⟨⟨vr,rfl,k1⟩,-,-⟩;have hM:=cV.dK (S:=FF) k1 r.cI (mN h_);clear r;obtain⟨am,cm,rfl,So,SC⟩:=dC.shape hM;refine cR hτ dx [.x 0,.x 1,.x 2,.x 3,.x 4,.x 5,.x 6,.x 7,.x 8,.x 9] (by kernel_rfl) (by kernel_rfl) ?_;refine cE I (fun _ J v V=>dA V (Nf J V) v ((-1:Int):Rat)) (fun O J r=>mB (-1) J (by decide) (by decide)) ?_;rintro O _ v2 _ Od r U I h_ R;replace hM:=cV.cM hM r (cH w) U (mC h_);have hd:=R.dK (S:=FF) r.cI (mN h_);clear r;obtain⟨A0,A1,A2,A3,A4,A5,A6,A7,rfl⟩:=hd.shape;refine cE I (fun _ J v V=>eU V FF J.heap.size [(J.heap.size,V.heap.size)] v p.length (dE p (-1))) (fun O J r=>Ct (S:=Cv S w.heap.size Od) (Rel.old r X) (eD.cN (cS.l (cS.cK hp (kS I r X)) fun q hq=>by have:=VH q hq;omega) fun g Y=>.inl Y) (((hd.rel r (cH w)).l (by decide)).cN fun g Y=>Er Y) (by omega)) ?_;rintro O _ _ _ Oq r U I h_ R;replace hM:=cV.cM hM r (cH w) U (mC h_);clear hd;have hB:=R.dK (S:=FF) r.cI (mN h_);clear r;clear R;obtain⟨a3,c3,rfl,hc3⟩:=hB.row.form;refine cO (If:=fun _ J v V=>(fM (cT f) (dE p (-1)) f.cols=none/\v= .tuple #[.slice none 0 0,.bool false])\/∃x vx,fM (cT f) (dE p (-1)) f.cols=some x/\v= .tuple #[vx,.bool true]/\eU V (Cf w Oq) J.heap.size [(J.heap.size,V.heap.size)] vx f.cols x) (fun O J r=>vo (M:=cT f) (b:=dE p (-1)) hlen hw0▸GM (C:=Cf w Oq) (S:=Cf w Oq) (h:=30) (Rel.old r (cH w)) (Rel.old r (cH w)) (cV.rel hM r (cH w)) ((hB.rel r (cH w)).c) PD hlen (by omega) (by omega) (oE (jI hlen) hw0 kQ (by rw[uB]at *;omega)) (by decide)) ?_;rintro O RG v4 QX r U hb (⟨TA,rfl⟩|⟨x0,vx,TM,rfl,k2⟩)
 ·replace I:=I.tr hb;clear r U hb;exact rtn I fun IR we re=>.inl ⟨TA,rfl⟩
 replace I:=I.tr hb;replace hM:=cV.cM (K:=(RG.heap.size,QX.heap.size)::Oq) hM r (cH w) U fun x F=>aB _ F;have hX:=k2.aBG r.cI;clear r U hb k2 hB;generalize (RG.heap.size,QX.heap.size)::Oq=Ox at*
 obtain⟨ax,cx,rfl,XW⟩:=hX.row.form;obtain⟨hx0l,-⟩:=iV hlen TM;have hx0D:=QB.aBB hb TM;have Wu:∀q∈x0,rl q<=26:=fun q hq=>by
  obtain⟨Fd,hD⟩:=hx0D;have L:=hD.rl q hq;have G:ln (wt 25)<=26:=gU.2 (IP (by decide));omega
 have hw1:=QB.Ln hx0D;have PF:=QB.Ic (b:=gw (cW (cT f) f.cols) (cY f) x0);obtain⟨c,hc,Pu,hfrc⟩:=QB.B8.force (fl:=cY f) TM;have Ta:=QB.aA2 hx0D hc;have hKr:∀r∈cW (cT f) f.cols,∀q∈r,rl q<=14:=fun r hr q hq=>by
  obtain⟨Fd,hD⟩:=QB.ker;have L:=hD.rl r hr q hq;have G:ln (wt 13)<=14:=gU.2 (IP (by decide));omega
 have hKl:=jk (cT f) f.cols;have hK18:=QB.Fv;have hSl:=oa (cW (cT f) f.cols) (cY f);have hfx:=QB.fx;have RH:=vo (M:=ei (cW (cT f) f.cols) (cY f)) (b:=gw (cW (cT f) f.cols) (cY f) x0) hSl hw1;rw[hc]at RH;have hredB:=oE (M:=dg (ei (cW (cT f) f.cols) (cY f)) (gw (cW (cT f) f.cols) (cY f) x0)) (h:=1930) (jI hSl) hw1 kQ (by omega);refine cR hτ dx [.x 0,.x 2,.x 1,.x 3,.x 4,.x 5] (by kernel_rfl) (by kernel_rfl) ?_;refine cO (If:=fun _ J v V=>cV V (Nf J V) v (cW (cT f) f.cols)) (fun O J r=>zp (M:=cT f) (n:=f.cols) hlen QB.lD▸BF (C:=Cf w Ox) (S:=Cf w Ox) (h:=20) (Rel.old r (cH w)) (Rel.old r (cH w)) (cV.rel hM r (cH w)) hlen (by omega) (by omega) (oE hlen QB.lD (by decide) (by have:=QB.size;omega)) (BG hlen QB.lD (by decide) (by have:=QB.size;omega)) (by decide)) ?_;rintro O Rt v5 Rv r U Py R;replace I:=I.tr Py;have RI:∀g,(Value.slice ax f.cols cx).ownBlock=some g->g<Rt.heap.size:=fun g e=>Rel.old r (cH w) g (hX.new g e);clear hM;replace hX:=hX.cM (K:=(Rt.heap.size,Rv.heap.size)::Ox) r (cH w) U fun x F=>aB _ F;have hK:=gS.fresh (S:=FF) (v:=(.slice ax f.cols cx)) R r RI;clear r U Py RI R;generalize (Rt.heap.size,Rv.heap.size)::Ox=PX at*
 obtain⟨ak,ck,rfl,hck,WT⟩:=dC.shape hK;refine cO (If:=fun _ J v V=>eD V (Nw S J V) v (cY f)) (fun O J r=>DA (S:=S) (oS X r) (hf.cK (kS I r X)) Of) ?_;rintro O Ro v6 Rq r U Py R;replace I:=I.tr Py;have RI:∀g,(Value.slice ax f.cols cx).ownBlock=some g->g<Ro.heap.size:=fun g e=>Rel.old r (cH w) g (hX.new g e);replace hX:=hX.cM (K:=(Ro.heap.size,Rq.heap.size)::PX) r (cH w) U fun x F=>aB _ F;replace hK:=gS.cM (K:=(Ro.heap.size,Rq.heap.size)::PX) hK r (cH w) U fun x F=>aB _ F;have hL:=eD.cN (S':=Cv S w.heap.size ((Ro.heap.size,Rq.heap.size)::PX)) R fun g Y=>Y.elim .inl fun h=>.inr ⟨by have:=r.cI;omega,_,_,aF,h.1,h.2⟩;clear r U Py RI R;generalize (Ro.heap.size,Rq.heap.size)::PX=Q8 at*
 obtain⟨al,cl,rfl,Wt,RM⟩:=dV.shape hL;rw[PL]
 refine⟨Nat×List Value×List (List Value)×World×Iv,fun z=>⟨[(7,sV ax f.cols cx),(9,.o (.v (.slice ak (cW (cT f) f.cols).length ck))),(10,sV al f.cols cl),(11,pP 2 0),(43,.o (.v (.slice ak (cW (cT f) f.cols).length ck))),(44,.o (.v (.int .i64 (cW (cT f) f.cols).length))),(12,.o (.w 4 z.2.2.1.length)),(45,iN z.1)],[(2,.box T.dy [.w 3 z.2.1.length,.v (.int .i64 (cW (cT f) f.cols).length)]),(3,.vec T.iB 1 z.2.1),(4,.vec T.Rat 4 z.2.2.1.flatten)],5,z.2.2.2.2,z.2.2.2.1⟩,fun z=>(cW (cT f) f.cols).length-z.1,
  fun z=>z.1<=(cW (cT f) f.cols).length/\dw w.heap.size w z.2.2.2.1/\eU z.2.2.2.1 FF w.heap.size z.2.2.2.2 (.slice ax f.cols cx) f.cols x0/\cV z.2.2.2.1 (Bs FF w.heap.size z.2.2.2.2 (.slice ax f.cols cx)) (.slice ak (cW (cT f) f.cols).length ck) (cW (cT f) f.cols)/\eD z.2.2.2.1 (Cv S w.heap.size z.2.2.2.2) (.slice al f.cols cl) (cY f)/\dS z.2.2.2.1 (Bs FF w.heap.size z.2.2.2.2 (.slice ax f.cols cx)) z.2.1 ((ei (cW (cT f) f.cols) (cY f)).take z.1)/\eS z.2.2.2.1 (Bs FF w.heap.size z.2.2.2.2 (.slice ax f.cols cx)) z.2.2.1 ((gw (cW (cT f) f.cols) (cY f) x0).take z.1),?_,?_⟩
 ·intro O J E;exact⟨(0,[],[],J,_),⟨aQ _,I.tr E.cU,hX.rel E (cH w),gS.rel hK E (cH w),by have:=eD.rel hL E X;rw[PL]at this;exact this,by simp[dS],eS.nil⟩,Sub.EN 2 0 T.iB 1 rfl rfl (by simp[jw,SV.sc,At.sc,fW]) E fun Id r1=>Sub.nil 12 T.Rat 4 rfl (by simp[jw,SV.sc,At.sc,fW]) r1 fun GE r2=>Sub.gn [] r2⟩
 clear I hX hK hL;rintro⟨i,rv,rc,w7,iv⟩ ⟨A,I,hX,hK,hL,hR,hG⟩;dsimp only at A I hX hK hL hR hG ⊢;have Po:rv.length=i:=by rw[hR.1,aX,ei,aJ];omega
 have hgl:rc.length=i:=by rw[hG.len,aX,gw,aJ];omega
 have hgf:=ef hG.four;refine dQ.mk ?_ ?_<;>intro OZ
 ·have OZ:i<(cW (cT f) f.cols).length:=by have:=aK OZ;omega
  obtain⟨s,hs⟩:∃s,(cW (cT f) f.cols)[i]? =some s:=⟨_,aA OZ⟩
  have SE:s.length=f.cols:=hKl s (aC hs);have XS:=hKr s (aC hs);obtain⟨adm1,um,ham1,Pj,km1,kn1⟩:=dC.load hK hs;obtain⟨as1,cs1,rfl,-,-⟩:=dV.shape Pj;obtain⟨bent,TR⟩:∃b,fJ s (cY f)=b:=⟨_,rfl⟩
  have Sv:bent.length=f.cols:=by rw[<-TR,kE,SE]
  have Vk:∀q∈bent,rl q<=20:=fun q hq=>by
   rw[<-TR]at hq;obtain⟨t,ht⟩:=aN hq;have Up:t<s.length:=by have:=(aD.1 ht).1;rw[kE]at this;exact this
   have L:=lf (a:=s) (b:=cY f) Up;rw[getD_some ht]at L;have G:=iA (s.getD t 0) ((cY f).getD t 0);have N:=XS (s.getD t 0) (by rw[getD_some (aA Up)];exact aY _);have h4:=QB.fxD (t:=t) (by omega);rw[L];omega
  refine⟨adm1,ham1,by omega,.slice as1 s.length cs1,fun O J r=>?_,?_⟩
  ·rw[aE,cL (w:=w7) (V:=J) (by rw[dF];exact Rel.same r (cH w) km1.1)];exact kn1
  refine cJ (cO (If:=fun _ J v V=>cS V (Nf J V) v bent) (fun O J r=>(TR▸Iq (S:=Cv S w.heap.size iv) (Rel.old r X) (eD.cN (cS.l (fA.cv (fA.rel Pj r (cH w))) fun q hq=>by have:=XS q hq;omega) fun g Y=>Er Y) (eD.rel hL r X) (by rw[SE,PL];exact Nat.le_refl _) (by omega)).mono fun _ _ ⟨v2,e1,e2,e3⟩=>⟨v2,e1,e2,cS.cN e3.c fun g Y=>Y.elim (fun h=>h.elim) fun⟨_,lo,A,G,N,h4⟩=>by
   simp at G;obtain⟨rfl,rfl⟩:=G
   exact .inr ⟨N,h4⟩⟩) ?_)
  rintro O SN v8 SO r U Py R;replace I:=I.tr Py;have RI:∀g,(Value.slice ax f.cols cx).ownBlock=some g->g<SN.heap.size:=fun g e=>Rel.old r (cH w) g (hX.new g e);replace hX:=hX.cM (K:=(SN.heap.size,SO.heap.size)::iv) r (cH w) U fun x F=>aB _ F;replace hK:=gS.cM (K:=(SN.heap.size,SO.heap.size)::iv) hK r (cH w) U fun x F=>aB _ F;replace hL:=eD.cM (K:=(SN.heap.size,SO.heap.size)::iv) hL r X U fun x F=>aB _ F;replace hR:=nL.cM (K:=(SN.heap.size,SO.heap.size)::iv) hR r (cH w) U fun x F=>aB _ F;replace hG:=kG.cM (K:=(SN.heap.size,SO.heap.size)::iv) hG r (cH w) U fun x F=>aB _ F;have hE:=fA.fresh (S:=FF) (v:=(.slice ax f.cols cx)) R r RI;clear r U Py RI R;generalize (SN.heap.size,SO.heap.size)::iv=SP at*
  clear Pj;obtain⟨ae,ce,rfl,-,-⟩:=dV.shape hE;rw[Sv]
  refine⟨Nat×List (List Value)×World×Iv,fun z=>⟨[(7,sV ax f.cols cx),(9,.o (.v (.slice ak (cW (cT f) f.cols).length ck))),(10,sV al f.cols cl),(11,pP 2 0),(43,.o (.v (.slice ak (cW (cT f) f.cols).length ck))),(44,.o (.v (.int .i64 (cW (cT f) f.cols).length))),(12,.o (.w 4 rc.length)),(45,iN i),(15,sV ae f.cols ce),(52,.o (.v (.slice ak (cW (cT f) f.cols).length ck))),(53,.o (.v (.int .i64 (cW (cT f) f.cols).length))),(16,.o (.w 5 z.2.1.length)),(54,iN z.1)],[(5,.vec T.Rat 4 z.2.1.flatten),(2,.box T.dy [.w 3 rv.length,.v (.int .i64 (cW (cT f) f.cols).length)]),(3,.vec T.iB 1 rv),(4,.vec T.Rat 4 rc.flatten)],6,z.2.2.2,z.2.2.1⟩,fun z=>(cW (cT f) f.cols).length-z.1,
   fun z=>z.1<=(cW (cT f) f.cols).length/\dw w.heap.size w z.2.2.1/\(eU z.2.2.1 FF w.heap.size z.2.2.2 (.slice ax f.cols cx) f.cols x0/\cV z.2.2.1 (Bs FF w.heap.size z.2.2.2 (.slice ax f.cols cx)) (.slice ak (cW (cT f) f.cols).length ck) (cW (cT f) f.cols)/\eD z.2.2.1 (Cv S w.heap.size z.2.2.2) (.slice al f.cols cl) (cY f)/\dS z.2.2.1 (Bs FF w.heap.size z.2.2.2 (.slice ax f.cols cx)) rv ((ei (cW (cT f) f.cols) (cY f)).take i)/\eS z.2.2.1 (Bs FF w.heap.size z.2.2.2 (.slice ax f.cols cx)) rc ((gw (cW (cT f) f.cols) (cY f) x0).take i)/\cS z.2.2.1 (Bs FF w.heap.size z.2.2.2 (.slice ax f.cols cx)) (.slice ae f.cols ce) bent)/\eS z.2.2.1 (Bs FF w.heap.size z.2.2.2 (.slice ax f.cols cx)) z.2.1 (((cW (cT f) f.cols).map fun r=>e7 bent r f.cols).take z.1),?_,?_⟩
  ·intro O J E;exact⟨(0,[],J,_),⟨aQ _,I.tr E.cU,⟨hX.rel E (cH w),gS.rel hK E (cH w),eD.rel hL E X,nL.rel hR E (cH w),kG.rel hG E (cH w),by have:=fA.rel hE E (cH w);rw[Sv]at this;exact this⟩,eS.nil⟩,Sub.nil 16 T.Rat 4 rfl (by simp[jw,SV.sc,At.sc,fW]) E fun GE r2=>Sub.gn [] r2⟩
  clear I hX hK hL hR hG hE;rintro⟨j,Z,w8,iv⟩ ⟨hj,I,⟨hX,hK,hL,hR,hG,hE⟩,hD⟩;dsimp only at hj I hX hK hL hR hG hE hD ⊢;have Sc:Z.length=j:=by rw[hD.len,aX,aJ];omega
  have hdf:=ef hD.four;refine dQ.mk ?_ ?_<;>intro Pz
  ·have Pz:j<(cW (cT f) f.cols).length:=by have:=aK Pz;omega
   obtain⟨t,ht⟩:∃s,(cW (cT f) f.cols)[j]? =some s:=⟨_,aA Pz⟩
   have Up:t.length=f.cols:=hKl t (aC ht);have htr:=hKr t (aC ht);obtain⟨adm2,um2,ham2,Pj,km2,kn2⟩:=dC.load hK ht;obtain⟨as2,cs2,rfl,-,-⟩:=dV.shape Pj;refine⟨adm2,ham2,by omega,.slice as2 t.length cs2,fun O J r=>?_,?_⟩
   ·rw[aE,cL (w:=w8) (V:=J) (by rw[dF];exact Rel.same r (cH w) km2.1)];exact kn2
   refine cJ (cO (If:=fun _ J v V=>dA V (Nf J V) v (e7 bent t f.cols)) (fun O J r=>Sv▸MN (S:=Cf w iv) (h:=21) (Rel.old r (cH w)) (cS.l (by have:=fA.cv (fA.rel hE r (cH w));rw[<-Sv]at this;exact this) fun q hq=>by have:=Vk q hq;omega) (cS.l (fA.cv (fA.rel Pj r (cH w))) fun q hq=>by have:=htr q hq;omega) (by omega) (fun q hq=>by have:=Vk q hq;omega) (fun q hq=>by have:=htr q hq;omega) (by decide) (by omega)) ?_);rintro O UQ v9 Uq r U Py R;replace I:=I.tr Py;have RI:∀g,(Value.slice ax f.cols cx).ownBlock=some g->g<UQ.heap.size:=fun g e=>Rel.old r (cH w) g (hX.new g e);replace hX:=hX.cM (K:=(UQ.heap.size,Uq.heap.size)::iv) r (cH w) U fun x F=>aB _ F;replace hK:=gS.cM (K:=(UQ.heap.size,Uq.heap.size)::iv) hK r (cH w) U fun x F=>aB _ F;replace hL:=eD.cM (K:=(UQ.heap.size,Uq.heap.size)::iv) hL r X U fun x F=>aB _ F;replace hR:=nL.cM (K:=(UQ.heap.size,Uq.heap.size)::iv) hR r (cH w) U fun x F=>aB _ F;replace hG:=kG.cM (K:=(UQ.heap.size,Uq.heap.size)::iv) hG r (cH w) U fun x F=>aB _ F;replace hE:=fA.cM (K:=(UQ.heap.size,Uq.heap.size)::iv) hE r (cH w) U fun x F=>aB _ F;replace hD:=kG.cM (K:=(UQ.heap.size,Uq.heap.size)::iv) hD r (cH w) U fun x F=>aB _ F;have hd:=mJ.fresh (S:=FF) (v:=(.slice ax f.cols cx)) R r RI;clear r U Py RI R;generalize (UQ.heap.size,Uq.heap.size)::iv=Uk at*
   obtain⟨C0,C1,C2,C3,C4,C5,C6,C7,rfl⟩:=hd.shape;clear Pj;have hD2:=hD.push (W:=[.bool C0,.slice C1 C2 C3,.bool C4,.slice C5 C6 C7]) (q:=e7 bent t f.cols) ⟨_,_,_,_,_,_,_,_,rfl,hd⟩ rfl;rw[show (((cW (cT f) f.cols).map fun r=>e7 bent r f.cols).take j)++[e7 bent t f.cols]=((cW (cT f) f.cols).map fun r=>e7 bent r f.cols).take (j+1) by rw[List.take_add_one,aL,ht];rfl]at hD2;have Qc:Z.flatten++([.bool C0,.slice C1 C2 C3,.bool C4,.slice C5 C6 C7]:List Value)=(Z++([[.bool C0,.slice C1 C2 C3,.bool C4,.slice C5 C6 C7]]:List (List Value))).flatten:=by simp
   refine .inl ?_;refine⟨by omega,by omega,by unfold maxLen;omega,((j+1:Nat):Int),wo,?_⟩;intro GT w6 E;exact⟨(j+1,Z++[[.bool C0,.slice C1 C2 C3,.bool C4,.slice C5 C6 C7]],w6,_),⟨Pz,I.tr E.cU,⟨hX.rel E (cH w),gS.rel hK E (cH w),eD.rel hL E X,nL.rel hR E (cH w),kG.rel hG E (cH w),fA.rel hE E (cH w)⟩,kG.rel hD2 E (cH w)⟩,Sub.gn [(5,7)] E ⟨by dsimp only;rw[<-Qc];rfl,rfl,rfl,rfl,trivial⟩ ⟨rfl,rfl,rfl,rfl,rfl,rfl,rfl,rfl,rfl,rfl,rfl,by dsimp only;rw[List.length_append,List.length_singleton];rfl,rfl,trivial⟩,by dsimp only;omega⟩
  have Pz:j=(cW (cT f) f.cols).length:=by have:=aG Pz;omega
  rw[Pz,List.take_of_length_le (by rw[aJ];exact Nat.le_refl _)]at hD;have Oa:(ei (cW (cT f) f.cols) (cY f)).take i++[((cW (cT f) f.cols).map fun r=>e7 bent r f.cols)]=(ei (cW (cT f) f.cols) (cY f)).take (i+1):=by
   rw[List.take_add_one,ei,aL,hs,<-TR,<-SE];rfl
  have hrgt:(gw (cW (cT f) f.cols) (cY f) x0).take i++[-(e7 bent x0 f.cols)]=(gw (cW (cT f) f.cols) (cY f) x0).take (i+1):=by
   rw[List.take_add_one,gw,aL,hs,<-TR,<-SE];rfl
  refine lQ hτ (id3:=6) (id2:=5) (tH:=[(2,.box T.dy [.w 3 rv.length,.v (.int .i64 (cW (cT f) f.cols).length)]),(3,.vec T.iB 1 rv),(4,.vec T.Rat 4 rc.flatten)]) rfl rfl rfl rfl (by simp) ⟨rfl,rfl,rfl,trivial⟩ rfl rfl (fun O J r r2 SI=>?_);have RD:∀g,(Value.slice ax f.cols cx).ownBlock=some g->∀id b,dG [(6,.box T.iB [.w 5 Z.length]),(5,.vec T.Rat 4 Z.flatten),(2,.box T.dy [.w 3 rv.length,.v (.int .i64 (cW (cT f) f.cols).length)]),(3,.vec T.iB 1 rv),(4,.vec T.Rat 4 rc.flatten)] id=some b->(O id).nil=false->(O id).g≠g:=fun g e id b L G=>Rel.not r (cH w) (hX.new g e) id b L G;have Rb:=r.low 6 _ rfl (r.fits (id:=6) rfl).1;have hB3:Bs FF w.heap.size (((O 6).g,(O 6).g+1)::jf (O 5) iv) (.slice ax f.cols cx) (O 6).g:=⟨.inr ⟨Rb.1,_,_,aF,Nat.le_refl _,bQ _⟩,fun e=>RD _ e 6 _ rfl (r.fits (id:=6) rfl).1 rfl⟩
  have Ol:∀p,p∈iv->p∈((O 6).g,(O 6).g+1)::jf (O 5) iv:=fun p hp=>aB _ (kN p hp);have XZ:=eS.list ((kG.rel hD r (cH w)).cN fun g Y=>Bs.mono Ol Y) (r.vF (T:=Bs FF w.heap.size (((O 6).g,(O 6).g+1)::jf (O 5) iv) (.slice ax f.cols cx)) (id:=5) (sz:=4) (m:=Z.length) rfl hdf (by unfold maxLen;omega) (by decide) hD.one fun R=>⟨.inr ⟨(r.low 5 _ rfl R).1,_,_,aB _ (FH R),Nat.le_refl _,bQ _⟩,fun e=>RD _ e 5 _ rfl R rfl⟩);have PZ:((At.w 5 Z.length).den O).oneCell'=true:=At.Iw;have PE:=I.tr r.cU;replace hX:eU J FF w.heap.size (((O 6).g,(O 6).g+1)::jf (O 5) iv) (.slice ax f.cols cx) f.cols x0:=by
   have L:=hX.rel r (cH w);exact⟨L.row.cN fun g Y=>⟨Y.1.mono Ol,Y.2⟩,fun g Y=>(L.new g Y).mono Ol⟩
  replace hK:=cV.cN (gS.rel hK r (cH w)) fun g Y=>Bs.mono Ol Y;replace hL:=eD.cN (eD.rel hL r X) fun g Y=>Y.mono Ol;replace hR:=dS.cN (nL.rel hR r (cH w)) fun g Y=>Bs.mono Ol Y;replace hG:=eS.cN (kG.rel hG r (cH w)) fun g Y=>Bs.mono Ol Y;replace hE:=cS.cN (fA.rel hE r (cH w)) fun g Y=>Bs.mono Ol Y;clear r2 Rb hD RD I;generalize (At.w 5 Z.length).den O=ur at*
  generalize (O 6).g=gy at*
  generalize (gy,gy+1)::jf (O 5) iv=ivg at*
  clear r;refine⟨[ur],rfl,by simpa using PZ,fun GE V r2 _=>⟨_,rfl,fun j u hu=>?_⟩,?_⟩
  ·have h5:=Rel.same r2 (gY _) hB3.1;rw[dL,cell_of (h5.trans SI)];rcases j with _|j
   ·exact hu
   ·cases hu
  refine⟨by simp,by omega,by unfold maxLen;omega,?_⟩;have Qs:=hR.push PZ XZ;rw[Oa]at Qs;clear XZ hR SI hB3;rename_i wg _;have I:=PE;clear PE;refine cJ (cO (If:=fun _ J v V=>dA V (Nf J V) v (e7 bent x0 f.cols)) (fun O J r=>Sv▸MN (S:=Cf w ivg) (h:=30) (Rel.old r (cH w)) (cS.l (by have:=fA.cv (fA.rel hE r (cH w));rw[<-Sv]at this;exact this) fun q hq=>by have:=Vk q hq;omega) (cS.l (by have:=(hX.rel r (cH w)).c;rw[<-Sv]at this;exact this) fun q hq=>by have:=Wu q hq;omega) (by omega) (fun q hq=>by have:=Vk q hq;omega) (fun q hq=>by have:=Wu q hq;omega) (by decide) (by omega)) ?_);rintro O Rc v11 Rw r U Py R;replace I:=I.tr Py;have RI:∀g,(Value.slice ax f.cols cx).ownBlock=some g->g<Rc.heap.size:=fun g e=>Rel.old r (cH w) g (hX.new g e);replace hX:=hX.cM (K:=(Rc.heap.size,Rw.heap.size)::ivg) r (cH w) U fun x F=>aB _ F;replace hK:=gS.cM (K:=(Rc.heap.size,Rw.heap.size)::ivg) hK r (cH w) U fun x F=>aB _ F;replace hL:=eD.cM (K:=(Rc.heap.size,Rw.heap.size)::ivg) hL r X U fun x F=>aB _ F;replace Qs:=nL.cM (K:=(Rc.heap.size,Rw.heap.size)::ivg) Qs r (cH w) U fun x F=>aB _ F;replace hG:=kG.cM (K:=(Rc.heap.size,Rw.heap.size)::ivg) hG r (cH w) U fun x F=>aB _ F;replace hE:=fA.cM (K:=(Rc.heap.size,Rw.heap.size)::ivg) hE r (cH w) U fun x F=>aB _ F;have hd:=mJ.fresh (S:=FF) (v:=(.slice ax f.cols cx)) R r RI;clear r U Py RI R;generalize (Rc.heap.size,Rw.heap.size)::ivg=Rx at*
  obtain⟨E0,E1,E2,E3,E4,E5,E6,E7,rfl⟩:=hd.shape;have hdr:=qm (h:=30) (xs:=bent) (ys:=x0) (fun q hq=>by have:=Vk q hq;omega) (fun q hq=>by have:=Wu q hq;omega) (by decide) f.cols;refine cJ (cO (If:=fun _ J v V=>dA V (Nf J V) v (-(e7 bent x0 f.cols))) (fun O J r=>ML (S:=Cf w Rx) (Rel.old r (cH w)) (dA.l (mJ.cv (mJ.rel hd r (cH w))) (by omega))) ?_);rintro O TS v12 UB r U Py R;replace I:=I.tr Py;have RI:∀g,(Value.slice ax f.cols cx).ownBlock=some g->g<TS.heap.size:=fun g e=>Rel.old r (cH w) g (hX.new g e);replace hX:=hX.cM (K:=(TS.heap.size,UB.heap.size)::Rx) r (cH w) U fun x F=>aB _ F;replace hK:=gS.cM (K:=(TS.heap.size,UB.heap.size)::Rx) hK r (cH w) U fun x F=>aB _ F;replace hL:=eD.cM (K:=(TS.heap.size,UB.heap.size)::Rx) hL r X U fun x F=>aB _ F;replace Qs:=nL.cM (K:=(TS.heap.size,UB.heap.size)::Rx) Qs r (cH w) U fun x F=>aB _ F;replace hG:=kG.cM (K:=(TS.heap.size,UB.heap.size)::Rx) hG r (cH w) U fun x F=>aB _ F;replace hE:=fA.cM (K:=(TS.heap.size,UB.heap.size)::Rx) hE r (cH w) U fun x F=>aB _ F;clear hd;have Pn:=mJ.fresh (S:=FF) (v:=(.slice ax f.cols cx)) R r RI;clear r U Py RI R;generalize (TS.heap.size,UB.heap.size)::Rx=iv12 at*
  obtain⟨F0,F1,F2,F3,F4,F5,F6,F7,rfl⟩:=Pn.shape;have UP:=hG.push (W:=[.bool F0,.slice F1 F2 F3,.bool F4,.slice F5 F6 F7]) (q:= -(e7 bent x0 f.cols)) ⟨_,_,_,_,_,_,_,_,rfl,Pn⟩ rfl;rw[hrgt]at UP;have Qc:rc.flatten++([.bool F0,.slice F1 F2 F3,.bool F4,.slice F5 F6 F7]:List Value)=(rc++([[.bool F0,.slice F1 F2 F3,.bool F4,.slice F5 F6 F7]]:List (List Value))).flatten:=by simp
  refine .inl ?_;refine⟨by omega,by omega,by unfold maxLen;omega,((i+1:Nat):Int),wo,?_⟩;intro GT w6 E;exact⟨(i+1,rv++[ur],rc++[[.bool F0,.slice F1 F2 F3,.bool F4,.slice F5 F6 F7]],w6,_),⟨OZ,I.tr E.cU,hX.rel E (cH w),gS.rel hK E (cH w),eD.rel hL E X,nL.rel Qs E (cH w),kG.rel UP E (cH w)⟩,Sub.gn [(3,7),(4,9)] E ⟨by dsimp only;rw[List.length_append,List.length_singleton];rfl,rfl,by dsimp only;rw[<-Qc];rfl,trivial⟩ ⟨rfl,rfl,rfl,rfl,rfl,rfl,by dsimp only;rw[List.length_append,List.length_singleton];rfl,rfl,trivial⟩,by dsimp only;omega⟩
 have OZ:i=(cW (cT f) f.cols).length:=by have:=aG OZ;omega
 rw[OZ,List.take_of_length_le (by rw[ei,aJ];exact Nat.le_refl _)]at hR;rw[OZ,List.take_of_length_le (by rw[gw,aJ];exact Nat.le_refl _)]at hG;have SY:rv.length=(ei (cW (cT f) f.cols) (cY f)).length:=hR.1
 refine cJ (cO (If:=fun _ J v V=>∃vc,v= .tuple #[vc,.bool true]/\eU V (Bs FF w.heap.size iv (.slice ax f.cols cx)) J.heap.size [(J.heap.size,V.heap.size)] vc (cW (cT f) f.cols).length c) (fun O J r=>(Cu (C:=(fun g=>g<J.heap.size)) (Fd:=(fun g=>g<J.heap.size)) (S:=Bs FF w.heap.size iv (.slice ax f.cols cx)) (M:=ei (cW (cT f) f.cols) (cY f)) (b:=gw (cW (cT f) f.cols) (cY f) x0) (cols:=(cW (cT f) f.cols).length) (h:=1930) (fun g Y=>Y) (fun g Y=>Y) (fun g Y=>Rel.old r (cH w) g Y.1) ⟨rv,by rw[<-SY];exact r.vF (T:=(fun g=>g<J.heap.size)) (id:=3) (sz:=1) (m:=rv.length) rfl (by simp) (by unfold maxLen;omega) (by decide) hR.2.1 fun R=>(r.low 3 _ rfl R).2,hR.1,fun a u x L G=>fA.rel (hR.2.2 a u x L G) r (cH w)⟩ ⟨rc,by rw[<-hG.len];exact r.vF (T:=(fun g=>g<J.heap.size)) (id:=4) (sz:=4) (m:=rc.length) rfl hgf (by unfold maxLen;omega) (by decide) hG.one fun R=>(r.low 4 _ rfl R).2,hG.len,fun a W x L G=>(kG.rel hG r (cH w)).at_ a W x L G⟩ (by rw[gw,ei,aJ,aJ]) hSl (by omega) (by rw[ei,aJ];omega) hredB (by decide)).mono fun _ _ ⟨v2,e1,e2,e3⟩=>⟨v2,e1,e2,by
  rcases e3 with⟨L,_⟩|⟨x2,vx,L,G,N⟩
  ·rw[RH]at L;cases L
  ·rw[RH]at L;injection L with L;subst L;exact⟨vx,G,N⟩⟩) ?_)
 rintro O Wv v13 wb13 r U Py ⟨vc,rfl,R⟩;replace I:=I.tr Py;have RI:∀g,(Value.slice ax f.cols cx).ownBlock=some g->g<Wv.heap.size:=fun g e=>Rel.old r (cH w) g (hX.new g e);replace hX:=hX.cM (K:=(Wv.heap.size,wb13.heap.size)::iv) r (cH w) U fun x F=>aB _ F;replace hK:=gS.cM (K:=(Wv.heap.size,wb13.heap.size)::iv) hK r (cH w) U fun x F=>aB _ F;have hC:=cS.cN R.c fun g Y=>Bs.solved r RI (fun _ h=>h) Y;clear r U Py RI;generalize (Wv.heap.size,wb13.heap.size)::iv=iv13 at*
 clear R hR hG hL;obtain⟨ac,cc,rfl,-,-⟩:=dV.shape hC;rw[Pu]
 refine⟨Nat×World×Iv,fun z=>⟨[(7,sV ax f.cols cx),(19,.o (.v (.slice ac (cW (cT f) f.cols).length cc))),(87,.o (.v (.slice ak (cW (cT f) f.cols).length ck))),(88,.o (.v (.int .i64 (cW (cT f) f.cols).length))),(89,iN z.1)],[],0,z.2.2,z.2.1⟩,fun z=>(cW (cT f) f.cols).length-z.1,
  fun z=>z.1<=(cW (cT f) f.cols).length/\dw w.heap.size w z.2.1/\eU z.2.1 FF w.heap.size z.2.2 (.slice ax f.cols cx) f.cols (l8 (cW (cT f) f.cols) c x0 z.1)/\cV z.2.1 (Bs FF w.heap.size z.2.2 (.slice ax f.cols cx)) (.slice ak (cW (cT f) f.cols).length ck) (cW (cT f) f.cols)/\cS z.2.1 (Bs FF w.heap.size z.2.2 (.slice ax f.cols cx)) (.slice ac (cW (cT f) f.cols).length cc) c,?_,?_⟩
 ·intro O J E;exact⟨(0,J,_),⟨aQ _,I.tr E.cU,hX.rel E (cH w),gS.rel hK E (cH w),by have:=fA.rel hC E (cH w);rw[Pu]at this;exact this⟩,Sub.gn [] E⟩
 clear I hX hK hC;rintro⟨i,w13,iv⟩ ⟨A,I,hX,hK,hC⟩;dsimp only at A I hX hK hC ⊢;refine dQ.mk ?_ ?_<;>intro OZ
 ·have OZ:i<(cW (cT f) f.cols).length:=by have:=aK OZ;omega
  obtain⟨s,hs⟩:∃s,(cW (cT f) f.cols)[i]? =some s:=⟨_,aA OZ⟩
  have SE:s.length=f.cols:=hKl s (aC hs);have XS:=hKr s (aC hs);obtain⟨ci,hci⟩:∃q,c[i]? =some q:=⟨_,aA (by omega)⟩
  have hcir:=Ta ci (aC hci);obtain⟨y0,QQ⟩:∃y,l8 (cW (cT f) f.cols) c x0 i=y:=⟨_,rfl⟩
  have hy0l:y0.length=f.cols:=by rw[<-QQ,rQ,hx0l]
  have hy0r:∀q∈y0,rl q<=75000:=fun q hq=>by
   rw[<-QQ]at hq;have L:=GX (a:=26) (b:=1927) Wu (fun r hr q hq=>by have:=hKr r hr q hq;omega) Ta i q hq;have G:i*(2*1927+5)<=18*(2*1927+5):=Nat.mul_le_mul_right _ (by omega);omega
  have hnextA:l8 (cW (cT f) f.cols) c x0 (i+1)=y0.mapIdx fun k q=>q+ci*s.getD k 0:=by rw[l8,QQ,getD_some hci,getD_some (d:=[]) hs]
  rw[QQ]at hX;obtain⟨adm3,um,ham3,Pj,km3,kn3⟩:=dC.load hK hs;obtain⟨as3,cs3,rfl,-,-⟩:=dV.shape Pj;refine⟨adm3,ham3,by omega,.slice as3 s.length cs3,fun O J r=>?_,?_⟩
  ·rw[aE,cL (w:=w13) (V:=J) (by rw[dF];exact Rel.same r (cH w) km3.1)];exact kn3
  rw[SE]
  refine⟨Nat×World×Iv,fun z=>⟨[(7,sV ax f.cols cx),(19,.o (.v (.slice ac (cW (cT f) f.cols).length cc))),(87,.o (.v (.slice ak (cW (cT f) f.cols).length ck))),(88,.o (.v (.int .i64 (cW (cT f) f.cols).length))),(89,iN i),(20,iN i),(94,sV as3 f.cols cs3),(95,iZ f.cols),(96,iN z.1)],[],0,z.2.2,z.2.1⟩,fun z=>f.cols-z.1,
   fun z=>z.1<=f.cols/\dw w.heap.size w z.2.1/\eU z.2.1 FF w.heap.size z.2.2 (.slice ax f.cols cx) f.cols ((iJ z.1 (fun k q=>q+ci*s.getD k 0) y0))/\cV z.2.1 (Bs FF w.heap.size z.2.2 (.slice ax f.cols cx)) (.slice ak (cW (cT f) f.cols).length ck) (cW (cT f) f.cols)/\cS z.2.1 (Bs FF w.heap.size z.2.2 (.slice ax f.cols cx)) (.slice ac (cW (cT f) f.cols).length cc) c/\cS z.2.1 (Bs FF w.heap.size z.2.2 (.slice ax f.cols cx)) (.slice as3 f.cols cs3) s,?_,?_⟩
  ·intro O J E;exact⟨(0,J,_),⟨aQ _,I.tr E.cU,by dsimp only;rw[oz];exact hX.rel E (cH w),gS.rel hK E (cH w),fA.rel hC E (cH w),by have:=fA.rel Pj E (cH w);rw[SE]at this;exact this⟩,Sub.gn [] E⟩
  clear I hX hK hC Pj;rintro⟨k,w14,iv⟩ ⟨D,I,hX,hK,hC,Pj⟩;dsimp only at D I hX hK hC Pj ⊢;refine dQ.mk ?_ ?_<;>intro Oj
  ·have Oj:k<f.cols:=by have:=aK Oj;omega
   obtain⟨gx,rfl⟩:=hX.at (by omega);obtain⟨q,hq⟩:∃q,s[k]? =some q:=⟨_,aA (by omega)⟩
   obtain⟨y,hy⟩:∃q,y0[k]? =some q:=⟨_,aA (by omega)⟩
   have hyu:=uv (f:=fun k q=>q+ci*s.getD k 0) hy;have hqr:=XS q (aC hq);have hyr:=hy0r y (aC hy);obtain⟨adq,csq,Wn,hFq,_,hlq⟩:=dV.load Pj hq;obtain⟨q0,q1,q2,q3,q4,q5,q6,q7,rfl,hFq⟩:=hFq;obtain⟨ady,csy,VD,Rs,_,Qu⟩:=dV.load hX.c hyu;obtain⟨y0',y1,y2,y3,y4,y5,y6,y7,rfl,Rs⟩:=Rs;obtain⟨adc,csc,XY,hFc,_,Tt⟩:=dV.load hC hci;obtain⟨c0,c1,c2,c3,c4,c5,c6,c7,rfl,hFc⟩:=hFc;refine⟨adq,Wn,by omega,[.bool q0,.slice q1 q2 q3,.bool q4,.slice q5 q6 q7],rfl,fun O J r j u hu=>?_,?_⟩
   ·obtain⟨k1,k2⟩:=hlq j u hu;rw[aE,cL (w:=w14) (V:=J) (by rw[dF,dF];exact Rel.same r (cH w) k1.1)];exact k2
   refine cR hτ dx [.x 0,.x 1,.x 2,.x 3,.x 4,.x 5,.x 6,.x 7,.x 8,.x 9,.x 10,.x 11,.x 12,.x 13,.x 14] (by kernel_rfl) (by kernel_rfl) ?_;refine⟨ady,VD,by omega,[.bool y0',.slice y1 y2 y3,.bool y4,.slice y5 y6 y7],rfl,fun O J r j u hu=>?_,?_⟩
   ·obtain⟨k1,k2⟩:=Qu j u hu;rw[aE,cL (w:=w14) (V:=J) (by rw[dF,dF];exact Rel.same r (cH w) k1)];exact k2
   refine⟨adc,XY,by omega,[.bool c0,.slice c1 c2 c3,.bool c4,.slice c5 c6 c7],rfl,fun O J r j u hu=>?_,?_⟩
   ·obtain⟨k1,k2⟩:=Tt j u hu;rw[aE,cL (w:=w14) (V:=J) (by rw[dF,dF];exact Rel.same r (cH w) k1.1)];exact k2
   refine cO (If:=fun _ J v V=>dA V (Nf J V) v (ci*q)) (fun O J r=>wV (S:=Cf w iv) (Rel.old r (cH w)) ((dA.l (mJ.cv (mJ.rel hFc r (cH w))) (by omega)).v) ((dA.l (mJ.cv (mJ.rel hFq r (cH w))) (by omega)).v)) ?_;rintro O UC v15 Ur r U Py R;replace I:=I.tr Py;have RI:∀g,(Value.slice (some ⟨gx,0,none⟩) f.cols cx).ownBlock=some g->g<UC.heap.size:=fun g e=>Rel.old r (cH w) g (hX.new g e);replace hX:=hX.cM (K:=(UC.heap.size,Ur.heap.size)::iv) r (cH w) U fun x F=>aB _ F;replace hK:=gS.cM (K:=(UC.heap.size,Ur.heap.size)::iv) hK r (cH w) U fun x F=>aB _ F;replace hC:=fA.cM (K:=(UC.heap.size,Ur.heap.size)::iv) hC r (cH w) U fun x F=>aB _ F;replace Pj:=fA.cM (K:=(UC.heap.size,Ur.heap.size)::iv) Pj r (cH w) U fun x F=>aB _ F;replace Rs:=dA.cM (K:=(UC.heap.size,Ur.heap.size)::iv) Rs r (cH w) U fun x F=>aB _ F;have hm:=mJ.fresh (S:=FF) (v:=(.slice (some ⟨gx,0,none⟩) f.cols cx)) R r RI;clear r U Py RI R;generalize (UC.heap.size,Ur.heap.size)::iv=Us at*
   obtain⟨G0,G1,G2,G3,G4,G5,G6,G7,rfl⟩:=hm.shape;refine cO (If:=fun _ J v V=>dA V (Nf J V) v (y+ci*q)) (fun O J r=>MO (S:=Cf w Us) (Rel.old r (cH w)) ((dA.l (dA.rel Rs r (cH w)) (by omega)).v) ((dA.l (mJ.cv (mJ.rel hm r (cH w))) (by have:=iA ci q;omega)).v)) ?_;rintro O Ut v16 Vl r U Py R;replace I:=I.tr Py;have RI:∀g,(Value.slice (some ⟨gx,0,none⟩) f.cols cx).ownBlock=some g->g<Ut.heap.size:=fun g e=>Rel.old r (cH w) g (hX.new g e);replace hX:=hX.cM (K:=(Ut.heap.size,Vl.heap.size)::Us) r (cH w) U fun x F=>aB _ F;replace hK:=gS.cM (K:=(Ut.heap.size,Vl.heap.size)::Us) hK r (cH w) U fun x F=>aB _ F;replace hC:=fA.cM (K:=(Ut.heap.size,Vl.heap.size)::Us) hC r (cH w) U fun x F=>aB _ F;replace Pj:=fA.cM (K:=(Ut.heap.size,Vl.heap.size)::Us) Pj r (cH w) U fun x F=>aB _ F;clear Rs;clear hm;have hd:=mJ.fresh (S:=FF) (v:=(.slice (some ⟨gx,0,none⟩) f.cols cx)) R r RI;clear r U Py RI R;generalize (Ut.heap.size,Vl.heap.size)::Us=iv16 at*
   obtain⟨J0,J1,J2,J3,J4,J5,J6,J7,rfl⟩:=hd.shape;refine⟨⟨gx,0,none⟩,rfl,by omega,?_⟩;intro O J r;obtain⟨g,Y,L,G,N,h4,h5⟩:=(hX.rel r (cH w)).store (j:=k) Oj (hd.cK (Bs.same r (cH w))) r (cH w);injection Y with Y;injection Y with Y;subst Y;refine⟨L,G,N,fun w5 RY=>?_⟩;obtain⟨k1,k2,k3⟩:=h5 w5 RY;have PE:dw w.heap.size w w5:=(I.tr r.cU).tr (dw.grown k2 (fun g e=>by injection e with e;subst e;exact h4.elim (fun h=>h.elim) fun h=>h.1) r.cI);have Qh:=gS.kept hK r (cH w) k2;have Ud:=fA.kept hC r (cH w) k2;have Qs:=fA.kept Pj r (cH w) k2;have Ou:(iJ k (fun k q=>q+ci*s.getD k 0) y0).set k (y+ci*q)=(iJ (k+1) (fun k q=>q+ci*s.getD k 0) y0):=by rw[<-mD hy,getD_some hq]
   rw[Ou]at k1;clear hX hK hC Pj I L G N h4 h5 RY k2 k3 r hd;refine⟨((k+1:Nat):Int),wo,?_⟩;intro GT w6 E;exact⟨(k+1,w6,_),⟨Oj,PE.tr E.cU,k1.rel E (cH w),gS.rel Qh E (cH w),fA.rel Ud E (cH w),fA.rel Qs E (cH w)⟩,Sub.gn [] E,by dsimp only;omega⟩
  have Oj:k=f.cols:=by have:=aG Oj;omega
  rw[Oj,<-hy0l,rU,<-hnextA,hy0l]at hX;refine⟨((i+1:Nat):Int),wo,?_⟩;intro GT w6 E;exact⟨(i+1,w6,_),⟨OZ,I.tr E.cU,hX.rel E (cH w),gS.rel hK E (cH w),fA.rel hC E (cH w)⟩,Sub.gn [] E,by dsimp only;omega⟩
 have OZ:i=(cW (cT f) f.cols).length:=by have:=aG OZ;omega
 rw[OZ]at hX;exact rtn I fun IR we re=>.inr ⟨_,_,hfrc,rfl,cS.out hX.c re (cH w)⟩
end Go.Ex
namespace Go.Ex
open Go Go.Sx Go.Proofs
variable{iv:Iv}{S:Nat->Prop}{v:Value}
def Iy(g:Nat):Iv->Iv
 |[]=>[]
 |(lo,A)::iv=>(lo,min A g)::(max lo (g+1),A)::Iy g iv
def wk(v:Value)(iv:Iv):Iv:=match v.ownBlock with
 |some g=>Iy g iv
 |none=>iv
theorem DH{g lo A:Nat}:∀{iv:Iv},(lo,A)∈Iy g iv->∃a b,(a,b)∈iv/\a<=lo/\A<=b/\¬(lo<=g/\g<A)
 |[],h=>by cases h
 |(x,y)::iv,h=>by
  rcases List.mem_cons.1 h with h|h
  ·injection h with L G;exact⟨x,y,aF,by omega,by omega,by omega⟩
  ·rcases List.mem_cons.1 h with h|h
   ·injection h with L G;exact⟨x,y,aF,by omega,by omega,by omega⟩
   ·obtain⟨a,b,L,G⟩:=DH h;exact⟨a,b,aB _ L,G⟩
theorem GY{g x lo A:Nat}(L:lo<=x)(G:x<A)(Oe:x≠g):∀{iv:Iv},(lo,A)∈iv->∃a b,(a,b)∈Iy g iv/\a<=x/\x<b
 |[],h=>by cases h
 |(p,q)::iv,h=>by
  rcases List.mem_cons.1 h with h|h
  ·injection h with e1 e2;subst e1 e2;rcases aO x g with N|N
   ·exact⟨_,_,aF,L,by omega⟩
   ·exact⟨_,_,aB _ aF,by omega,G⟩
  ·obtain⟨a,b,N,h4⟩:=GY L G Oe h;exact⟨a,b,aB _ (aB _ N),h4⟩
theorem Cv.cut{B x:Nat}(h:Cv S B iv x)(Oe:v.ownBlock≠some x):Cv S B (wk v iv) x:=by
 rcases h with h|⟨hb,lo,A,L,G,N⟩
 ·exact .inl h
 ·refine .inr ⟨hb,?_⟩;unfold wk
  cases e:v.ownBlock with
  |none=>exact⟨lo,A,L,G,N⟩
  |some g=>
   obtain⟨a,b,k1,k2,k3⟩:=GY G N (fun e2=>Oe (by rw[e,e2])) L;exact⟨a,b,k1,k2,k3⟩
theorem BH{lo A:Nat}(h:(lo,A)∈wk v iv):∃a b,(a,b)∈iv/\a<=lo/\A<=b/\∀g,v.ownBlock=some g->¬(lo<=g/\g<A):=by
 unfold wk at h
 cases e:v.ownBlock with
 |none=>rw[e]at h;exact⟨lo,A,h,Nat.le_refl _,Nat.le_refl _,fun g e2=>by cases e2⟩
 |some g=>
  rw[e]at h;obtain⟨a,b,L,G,N,h4⟩:=DH h;exact⟨a,b,L,G,N,fun g2 e2=>by injection e2 with e2;subst e2;exact h4⟩
end Go.Ex
namespace Go.Sx
open Go Go.Ex Go.Proofs
variable{xs:List Value}{O:Nat->Sx.dq}
theorem Rel.zA{H:Hp}{nx:Nat}{iv:Iv}{B:Nat}{w J:World}(r:Rel H nx iv B w O J){e sz n:Nat}{v:Value}(Oa:J.ownsRow 0 e sz v n xs)(Og:∀g,v.ownBlock=some g->B<=g)
  (Oe:∀g,v.ownBlock=some g->∀id b,dG H id=some b->(O id).nil=false->(O id).g≠g):
  ∃u:Sx.dq,Rel ((nx,.vec e sz xs)::H) (nx+1) (wk v iv) B J (Sx.gT O nx u) J/\(At.w nx n).den (Sx.gT O nx u)=v:=by
 have r0:Rel H nx (wk v iv) B J O J:=Rel.mk' rfl rfl rfl (Nat.le_refl _) (by have:=r.base;have:=r.size;omega)
  (fun lo A hm=>by obtain⟨a,b,L,G,N,_⟩:=BH hm;have:=r.oJ a b L;have:=r.size;omega) r.keys (fun j c h=>r.fits h) (fun j c h=>r.scopd h) r.inj r.low (fun _ _ _=>rfl)
  (fun lo A hm id b h R hh=>by obtain⟨a,c,L,G,N,_⟩:=BH hm;exact r.je a c L id b h R ⟨by omega,by omega⟩)
 have Uu:∀lo A,(lo,A)∈wk v iv->∀g,v.ownBlock=some g->¬(lo<=g/\g<A):=fun lo A hm=>by obtain⟨a,c,L,G,N,h4⟩:=BH hm;exact h4
 obtain⟨L,G⟩:=Oa;rcases G with⟨rfl,rfl⟩|⟨g,cap,cur,rfl,_,hc,R,hm,hs,ht⟩
 ·have:xs=[]:=List.eq_nil_of_length_eq_zero (by rw[L,Nat.zero_mul]);subst this;exact⟨⟨0,0,true⟩,r0.push (.vec e sz []) ⟨0,0,true⟩ rfl rfl rfl (Nat.le_refl _) (fun _ _=>rfl) (fun h=>by cases h) (.inl ⟨rfl,rfl⟩) trivial,by simp[At.den,Sx.gT]⟩
 ·generalize wk (.slice (some ⟨g,0,none⟩) n cap) iv=Od at*
  have Oe:=Oe g rfl;have Og:=Og g rfl;have hgl:g<J.heap.size:=(aZ.1 hc).1;have Ow:∀id b,dG H id=some b->id≠nx:=fun id b h=>Nat.ne_of_lt (r.keys id b h);have QL:∀id b,dG H id=some b->Sx.gT O nx ⟨g,cap,false⟩ id=O id:=fun id b h=>by simp[Sx.gT,Ow id b h]
  have XQ:xs++cur.toList.drop (n*sz)=cur.toList:=by rw[<-ht,List.take_append_drop]
  refine⟨⟨g,cap,false⟩,Rel.mk' rfl rfl rfl (Nat.le_refl _) r0.base r0.oJ ?_ ?_ ?_ ?_ ?_ (fun _ _ _=>rfl) ?_,by simp[At.den,Sx.gT]⟩
  ·intro id b' h;rw[dB]at h;split at h
   ·omega
   ·have:=r.keys id b' h;omega
  ·intro id b' h;rw[dB]at h;split at h
   ·rename_i e2;subst e2;injection h with h;subst h;rw[Sx.eR];exact .inr ⟨rfl,cur.toList.drop (n*sz),by rw[XQ];simpa using hc,by rw[XQ];simpa using hs,hm⟩
   ·rw[QL id b' h];exact jz.gg (r.fits h) Sx.gD (r.scopd h) (fun _ _=>rfl)
  ·intro id b' h;rw[dB]at h;split at h
   ·injection h with h;subst h;exact trivial
   ·exact jz.jG (by omega) (r.scopd h)
  ·intro id id' b1 b2 L G d1 d2 n1 n2 e2;rw[dB]at L G;split at L<;>split at G
   ·omega
   ·rename_i e1 e3;subst e1;rw[Sx.eR]at e2 n1;rw[QL id' b2 G]at e2 n2;exact absurd e2.symm (Oe id' b2 G n2)
   ·rename_i e1 e3;subst e3;rw[Sx.eR]at e2 n2;rw[QL id b1 L]at e2 n1;exact absurd e2 (Oe id b1 L n1)
   ·rw[QL id b1 L]at e2 n1;rw[QL id' b2 G]at e2 n2;exact r.inj id id' b1 b2 L G d1 d2 n1 n2 e2
  ·intro id b' h n1;rw[dB]at h;split at h
   ·rename_i e2;subst e2;rw[Sx.eR];exact⟨Og,hgl⟩
   ·rw[QL id b' h]at n1 ⊢;exact r.low id b' h n1
  ·intro lo A Vm id b' h n1;rw[dB]at h;split at h
   ·rename_i e2;subst e2;rw[Sx.eR];exact Uu lo A Vm g rfl
   ·rw[QL id b' h]at n1 ⊢;exact r0.je lo A Vm id b' h n1
end Go.Sx
namespace Go.Ex
open Go Go.Sx Go.Proofs
end Go.Ex
namespace Go.Sx
open Go Go.Ex Go.Proofs
variable{xs:List Value}{O:Nat->Sx.dq}
theorem Sub.zA{B nx:Nat}{l:Env}{H:Hp}{iv:Iv}{w J:World}{t:xD}(u n:Nat){e sz:Nat}{v:Value}(h9:fm l u=some (.o (.v v)))(RS:jw nx l)(r:Rel H nx iv B w O J)(Oa:J.ownsRow 0 e sz v n xs)
  (Og:∀g,v.ownBlock=some g->B<=g) (Oe:∀g,v.ownBlock=some g->∀id b,dG H id=some b->(O id).nil=false->(O id).g≠g)
  (h:∀Id,Rel ((nx,.vec e sz xs)::H) (nx+1) (wk v iv) B J Id J->Sx.Sub B ((u,.o (.w nx n))::l) (nx+1) Id J t):Sx.Sub B l nx O J t:=by
 obtain⟨u2,r1,RF⟩:=r.zA Oa Og Oe;obtain⟨G8,L,G⟩:=h _ r1;refine⟨G8,L,fun x v2 hv=>?_⟩;obtain⟨N,v0,h4,h5⟩:=G x v2 hv;refine⟨N,?_⟩;rw[eh]at h4;split at h4
 ·rename_i e2;subst e2;injection h4 with h4;subst h4;refine⟨_,h9,?_⟩;rw[<-h5];show v=(At.w nx n).den _;exact RF.symm
 ·refine⟨v0,h4,?_⟩;rw[<-h5];exact SV.jT (fun id PY=>gD id PY) (RS.get _ _ h4)
end Go.Sx
namespace Go.Ex
open Go Go.Sx Go.Proofs
end Go.Ex
namespace Go.Ex
open Go Go.Sx Go.Proofs
variable{b:Int×Int×Rat}{M:List (List Rat)}{l:List Ld}{s:List Rat}{S:Nat->Prop}{w:World}{f:fC}
def tP(f:fC)(x:List Rat):List Rat:=(List.range x.length).map fun t=>(cY f).getD t 0*x.getD t 0
theorem BI(f:fC)(x:List Rat):(tP f x).length=x.length:=by rw[tP,aJ,List.length_range]
theorem GZ{i:Nat}(h:f.bars[i]? =some b):(cY f).getD i 0=b.2.2:=by
 have hl:=(aD.1 h).1;rw[List.getD,cY,aI (by rw[aJ];exact hl),aL,h];rfl
theorem Ga{i:Nat}(h:f.cZ[i]? =some b):(cY f).getD (f.bars.length+i) 0=b.2.2:=by
 rw[List.getD,cY,aM (by rw[aJ];omega),aJ,Nat.add_sub_cancel_left,aL,h];rfl
theorem Iz{vn vb vs:Value}(X:Old S w)(hf:eG w S vn vb vs f)(PH:f.bars.length<=60/\f.cZ.length<=60){i:Nat}(A:i<f.cols):
  eI PG F'.AP #[.agg #[vn,vb,vs],.int .i64 i] w (eO w fun v' V=>ed V S v' ((cY f).getD i 0)):=by
 have I:=bR w;have Wl:=hf;obtain⟨an,cn,ab,cb,aq,cq,rfl,rfl,rfl,RR,Rk,SM⟩:=hf.shape;have Pp:f.cols=f.bars.length+f.cZ.length:=rfl;refine Bd (by simp) ?_;refine dQ.mk ?_ ?_<;>intro OZ
 ·have D:i<f.bars.length:=by have:=aK OZ;omega
  obtain⟨b,hb⟩:∃b,f.bars[i]? =some b:=⟨_,aA D⟩
  obtain⟨adb,W,QS,hF,-,PV⟩:=Wl.bars.load (by decide) hb;obtain⟨g0,g1,g2,g3,g4,g5,g6,g7,rfl,hF⟩:=hF;refine⟨adb,QS,by omega,[.bool g0,.slice g1 g2 g3,.bool g4,.slice g5 g6 g7],rfl,fun O J r j u hu=>?_,?_⟩
  ·have Xa:=(aD.1 hu).1;obtain⟨k1,k2⟩:=PV (2+j) u (by rcases j with _|_|_|_|j<;>first|exact hu|(have:j+4<4:=Xa;omega));rw[cL (w:=w) (V:=J) (by simp only[dF];exact(I.tr r.cU).block _ (X _ k1))];simp only[aE,Int.toNat_zero,Nat.zero_mul,kF]at k2 ⊢
   first|exact k2|(rw [<-k2];congr 2;omega)
  exact rtn I fun IR we re=>by rw[GZ hb];exact hF.cK fun g Y=>(I.tr re.cU).block g (X g Y)
 have OZ:f.bars.length<=i:=by have:=aG OZ;omega
 obtain⟨k,rfl⟩:∃k,i=f.bars.length+k:=⟨i-f.bars.length,by omega⟩
 have D:k<f.cZ.length:=by omega
 refine⟨(k:Int),wo,?_⟩;obtain⟨b,hb⟩:∃b,f.cZ[k]? =some b:=⟨_,aA D⟩
 obtain⟨adb,W,QS,hF,-,PV⟩:=Wl.cZ.load (by decide) hb;obtain⟨g0,g1,g2,g3,g4,g5,g6,g7,rfl,hF⟩:=hF;refine⟨adb,QS,by omega,[.bool g0,.slice g1 g2 g3,.bool g4,.slice g5 g6 g7],rfl,fun O J r j u hu=>?_,?_⟩
 ·have Xa:=(aD.1 hu).1;obtain⟨k1,k2⟩:=PV (2+j) u (by rcases j with _|_|_|_|j<;>first|exact hu|(have:j+4<4:=Xa;omega));rw[cL (w:=w) (V:=J) (by simp only[dF];exact(I.tr r.cU).block _ (X _ k1))];simp only[aE,Int.toNat_zero,Nat.zero_mul,kF]at k2 ⊢
  first|exact k2|(rw [<-k2];congr 2;omega)
 exact rtn I fun IR we re=>by rw[Ga hb];exact hF.cK fun g Y=>(I.tr re.cU).block g (X g Y)
theorem Ec(Of:xm f.nodes.length l):Bl (dE (fV f l) (-1)):=fun t=>by
 rcases aO t (dE (fV f l) (-1)).length with h|h
 ·have G:t<(fV f l).length:=by rw[dE,aJ]at h;exact h
  have N:(fV f l)[t]∈fV f l:=aY G;rw[getD_some (show (dE (fV f l) (-1))[t]? =some ((fV f l)[t]* -1) by rw[dE,aL,aA G];rfl)];obtain⟨z,hz,QD⟩:=aU.1 N;have hb:=wj Of l.length (Nat.le_refl _) z hz;have hl:=Of.len;rw[<-QD,show(z:Rat)* -1=((-z:Int):Rat) by rw[Rat.intCast_neg];grind];exact Ib.int (by omega)
 ·rw[ij h];exact Ib.zero _
theorem M7(R:f.nodes.length<=20)(Of:xm f.nodes.length l):∀q∈dE (fV f l) (-1),rl q<=5:=fun q hq=>by
 obtain⟨y,hy,rfl⟩:=aU.1 hq;have L:=Ix R Of y hy;have G:=iA y (-1);have N:rl (-1)=1:=by decide
 omega
theorem Gb:iD (cT f) f.cols (fun t=>(cY f).getD t 0)=cT f++(cW (cT f) f.cols).map (tP f):=by
 unfold iD;congr 1;refine List.map_congr_left fun s hs=>?_;rw[tP,jk _ _ s hs]
theorem aAi(h:nd f)(hl:s.length=f.cols)(hs:∀q∈s,rl q<=14):∀q∈tP f s,rl q<=20:=fun q hq=>by
 obtain⟨t,ht,rfl⟩:=aU.1 hq;have ht:=List.mem_range.1 ht;have L:=iA ((cY f).getD t 0) (s.getD t 0);have G:=h.fxD (t:=t) (by omega);have N:=hs (s.getD t 0) (by rw[getD_some (aA ht)];exact aY _);omega
theorem nd.aAE(h:nd f):∀r∈cW (cT f) f.cols,∀q∈r,rl q<=14:=fun r hr q hq=>by
 obtain⟨Fd,hD⟩:=h.ker;have L:=hD.rl r hr q hq;have G:ln (wt 13)<=14:=gU.2 (IP (by decide));omega
theorem nd.aAj(h:nd f):Ht (iD (cT f) f.cols fun t=>(cY f).getD t 0) 21:=fun r hr q hq=>by
 rw[Gb]at hr;rcases bB.1 hr with hr|hr
 ·have:=aAh h.toFrS r hr q hq;omega
 ·obtain⟨s,hs,rfl⟩:=aU.1 hr;have:=aAi h (jk _ _ s hs) (h.aAE s hs) q hq;omega
theorem aBD{n B h0 c:Nat}(hM:fZ n M)(hW:zl M n B)(hB:1<=B)(hs:ln (fB B M.length)+1<=h0)(hc:c<=n):Ht (cQ M c).1 h0:=fun r hr q hq=>by
 have:=zo hM hW hB hc r hr q hq;omega
abbrev Gc(f:fC):Nat->Rat:=fun t=>(cY f).getD t 0
set_option maxRecDepth 8000 in
theorem pH{vn vb vs vl:Value}(X:Old S w)(hf:eG w S vn vb vs f)(hl:jA w S vl l)(Tf:e8 f=0->nd f):
  eI PG F'.qI #[.agg #[vn,vb,vs],vl] w (eO w fun v' V=>(iu f l≠0/\v'= .tuple #[.slice none 0 0,.int .i64 (iu f l)])\/(iu f l=0/\((fM (cT f) (dE (fV f l) (-1)) f.cols=none/\v'= .tuple #[.slice none 0 0,.int .i64 17])\/∃x vx,jB (cT f) f.cols (Gc f) (dE (fV f l) (-1)) x/\v'= .tuple #[vx,.int .i64 0]/\cS V (Nf w V) vx x))):=by
 have I:=bR w;obtain⟨an,cn,ab,cb,aq,cq,rfl,rfl,rfl,RR,Rk,SM⟩:=hf.shape;obtain⟨al,cl,rfl,Pu,RM⟩:=hl.shape;obtain⟨e0,EE⟩:∃e,iu f l=e:=⟨_,rfl⟩
 refine u7 (by simp) ?_;refine cJ (cE I (fun _ J v V=>v= .int .i64 e0) (fun O J r=>(qq (oS X r) (hf.cK (kS I r X)) (hl.cK (kS I r X))).mono fun _ _ ⟨v2,e1,e2,e3⟩=>⟨v2,e1,e2,by rw[e3,EE]⟩) ?_);rintro O _ _ _ Oo r U I h_ rfl;refine dQ.mk ?_ ?_<;>intro U
 ·have U:e0≠0:=by simpa using U
  exact rtn I fun IR we re=>.inl ⟨by rw[EE];exact U,by rw[EE];rfl⟩
 have U:e0=0:=by simpa using U
 have Sg:iu f l=0:=by rw[EE,U]
 obtain⟨PJ,RW⟩:=pC Sg;have QB:=Tf PJ;have QC:=QB.toFrS;have RW:=EU RW;have Uo:=QC.Kf;have Vj:=QC.Lj;have St:=iX f;have hlen:=fQ f;have hn4:=QC.n4;have Of:=mZ PJ;have Vn:=qt f l;have hc0:f.cols=f.bars.length+f.cZ.length:=rfl;refine cR hτ dx [.x 0,.x 1,.x 2,.x 3,.x 4,.x 5,.x 6,.x 7,.x 8,.x 9] (by kernel_rfl) (by kernel_rfl) ?_;refine cE I (fun _ J v V=>cS V (Nf J V) v (fV f l)/\∀q∈fV f l,rl q<=1) (fun O J r=>(Cz (oS X r) (hl.cK (kS I r X)) QC.n RW rfl rfl).mono fun _ _ ⟨v2,e1,e2,e3,e4⟩=>⟨v2,e1,e2,cS.cN e3.c fun g Y=>Y.new,e4⟩) ?_;rintro O _ _ _ Od r U I h_ ⟨R,hvq⟩;have hP:=cS.dK (S:=FF) R r.cI (mN h_);obtain⟨ap,cp,rfl,-,-⟩:=dV.shape hP;rw[Vn];refine cO (If:=fun _ J v V=>(fM (cT f) (dE (fV f l) (-1)) f.cols=none/\v= .tuple #[.slice none 0 0,.bool false])\/∃x vx,jB (cT f) f.cols (Gc f) (dE (fV f l) (-1)) x/\v= .tuple #[vx,.bool true]/\cS V (Nf J V) vx x) (fun O J r=>DG (S:=fun g=>S g\/Cf w Od g) (fun g Y=>Y.elim (oS X r g) (Rel.old r (cH w) g)) (eG.cN (hf.cK (kS I r X)) fun g Y=>.inl Y) PJ QB (cS.cN (by have:=cS.rel hP r (cH w);rw[Vn]at this;exact this) fun g Y=>.inr Y) Vn (fun q hq=>by have:=hvq q hq;omega) (Ec RW)) ?_;rintro O QF v3 Pw r U hb (⟨TA,rfl⟩|⟨x,vx,F,rfl,R⟩)
 ·replace I:=I.tr hb;exact rtn I fun IR we re=>.inr ⟨Sg,.inl ⟨TA,rfl⟩⟩
 replace I:=I.tr hb;have hX:=cS.dK (S:=FF) R r.cI (iv:=(QF.heap.size,Pw.heap.size)::Od) aF;generalize (QF.heap.size,Pw.heap.size)::Od=ivx at*
 obtain⟨ax,cx,rfl,-,-⟩:=dV.shape hX;exact rtn I fun IR we re=>.inr ⟨Sg,.inr ⟨x,_,F,rfl,cS.out hX re (cH w)⟩⟩
end Go.Ex
namespace Go.Ex
section
variable{f:fC}{b y s z:List Rat}{c:Rat}
end
section
variable{M:List (List Rat)}{n:Nat}{fl p q x y u v:List Rat}
theorem AG(p:List Rat)(c:Rat)(i:Nat):(dE p c).getD i 0=p.getD i 0*c:=by
 rw[dE,List.getD,aL,List.getD]
 cases p[i]? with
 |none=>exact(bE c).symm
 |some a=>rfl
end
theorem nd.aA3{f:fC}{b x u:List Rat}(h:nd f)(hb:Bl b)(PD:b.length=(cT f).length)(F:jB (cT f) f.cols (fun t=>(cY f).getD t 0) b x)(hu:fM (da (cT f) f.cols) (dE (fJ x (cY f)) (-1)) (cT f).length=some u):∀q∈u,rl q<=2827:=fun q hq=>by
 obtain⟨Fd,hD⟩:=uC (fa _ _) (h.Cj F.len (h.HU hb PD F)) kQ hu;have L:=hD.rl q hq;have G:=h.AF (b:=dE (fJ x (cY f)) (-1));rw[show (dg (da (cT f) f.cols) (dE (fJ x (cY f)) (-1))).length=(da (cT f) f.cols).length from List.length_mapIdx ..]at G;omega
end Go.Ex
namespace Go.Ex
open Go Go.Sx Go.Proofs
variable{M:List (List Rat)}
theorem HV{n:Nat}(hM:fZ n M)(x:List Rat){j:Nat}(hj:j<M.length):(jh M x).getD j 0=mulR M n (fun t=>x.getD t 0) j:=by
 have hr:=aA hj;rw[getD_some (Js hr),Fj,hM _ (aY hj)];exact cP fun t _=>by rw[dD,getD_some hr]
end Go.Ex
namespace Go.Ex
section
variable{w:Nat->Rat}{e:Nat->Nat->Rat}{c:Nat->Rat}{d:Nat->Nat}{F' n:Nat}
end
section
variable{f:fC}{x y z:List Rat}
end
structure Sqr(n:Nat)(M:List (List Rat)):Prop where
 l:M.length=n
 w:fZ n M
section
variable{f:fC}{x:List Rat}{M:List (List Rat)}
end
section
variable{f:fC}{x:List Rat}
end
end Go.Ex
namespace Go.Ex
open Go Go.Sx Go.Proofs
section
variable{f:fC}{x:List Rat}{M:List (List Rat)}
end
def Lq(S:Nat->Prop)(rv:List Value)(g:Nat):Prop:=S g/\∀v∈rv,v.ownBlock≠some g
structure SqM(w:World)(S:Nat->Prop)(rv:List Value)(n:Nat)(M:List (List Rat)):Prop where
 len:rv.length=M.length
 row:∀(i:Nat) v x,rv[i]? =some v->M[i]? =some x->ir w (Lq S rv) v n x
 uw:∀(i j:Nat) a b g,rv[i]? =some a->rv[j]? =some b->a.ownBlock=some g->b.ownBlock=some g->i=j
section
variable{S S':Nat->Prop}{H:Hp}{nx n:Nat}{iv K:Iv}{B:Nat}{w J V:World}{O:Nat->Sx.dq}{rv:List Value}{M:List (List Rat)}
end
end Go.Ex
namespace Go.Ex
section
variable{f:fC}
end
end Go.Ex
namespace Go.Ex
open Go Go.Sx Go.Proofs
variable{b x:List Rat}{S:Nat->Prop}{f:fC}
theorem M8(h:e8 f≠0\/f.nodes.length<=4/\f.bars.length<=6)(hb:∀b∈f.bars,rl b.2.2<=3)(hs:∀b∈f.cZ,rl b.2.2<=3)(h0:e8 f=0):nd f:=
 ⟨aAg h h0,fun q hq=>by
  rcases bB.1 hq with h|h
  ·obtain⟨b,Q5,rfl⟩:=aU.1 h;exact hb b Q5
  ·obtain⟨b,Q5,rfl⟩:=aU.1 h;exact hs b Q5⟩
theorem M9(h:nd f){h0:Nat}(F:x.length<=f.cols)(hq:∀q∈x,rl q<=h0):∀q∈fJ x (cY f),rl q<=h0+3:=fun q Qd=>by
 obtain⟨t,ht⟩:=aN Qd;have Up:t<x.length:=by have:=(aD.1 ht).1;rw[kE]at this;exact this
 have L:=lf (a:=x) (b:=cY f) Up;rw[getD_some ht]at L;have G:=iA (x.getD t 0) ((cY f).getD t 0);have N:=hq (x.getD t 0) (by rw[getD_some (aA Up)];exact aY _);have h4:=h.fxD (t:=t) (by omega);rw[L];omega
def Nk(f:fC)(u:List Rat):List Rat:=jh (da (cT f) f.cols) u
section
variable{f:fC}{x:List Rat}
end
section
variable{S:Nat->Prop}{H:Hp}{nx n:Nat}{iv K:Iv}{B:Nat}{w J V:World}{O:Nat->Sx.dq}{rv:List Value}{M:List (List Rat)}
end
section
variable{H:Hp}{nx n m:Nat}{iv:Iv}{B:Nat}{w J V:World}{O:Nat->Sx.dq}{rv:List Value}{M:List (List Rat)}{pl:List Int}
end
set_option maxRecDepth 8000 in
set_option maxHeartbeats 1000000 in
theorem xo{w:World}{vn vb vs vl:Value}{l:List Ld}(X:Old S w)(hf:eG w S vn vb vs f)(hl:jA w S vl l)(Tf:e8 f=0->nd f):
  eI PG F'.nh #[.agg #[vn,vb,vs],vl] w (eO w fun v' V=>(iu f l≠0/\v'= .tuple #[.slice none 0 0,.slice none 0 0,.int .i64 (iu f l)])\/(iu f l=0/\((og (cT f) f.cols<(cT f).length/\v'= .tuple #[.slice none 0 0,.slice none 0 0,.int .i64 17])\/
   (og (cT f) f.cols=(cT f).length/\∃x u vx vu,jB (cT f) f.cols (Gc f) (dE (fV f l) (-1)) x/\fM (da (cT f) f.cols) (dE (fJ x (cY f)) (-1)) (cT f).length=some u/\v'= .tuple #[vu,vx,.int .i64 0]/\cS V (Nf w V) vu u/\cS V (Nf w V) vx x)))):=by
 have I:=bR w;obtain⟨an,cn,ab,cb,aq,cq,rfl,rfl,rfl,RR,Rk,SM⟩:=hf.shape;obtain⟨al,cl,rfl,Pu,RM⟩:=hl.shape;obtain⟨e0,EE⟩:∃e,iu f l=e:=⟨_,rfl⟩
 refine rn (by simp) ?_;conv=>whnf
 refine cJ (cE I (fun _ J v V=>v= .int .i64 e0) (fun O J r=>(qq (oS X r) (hf.cK (kS I r X)) (hl.cK (kS I r X))).mono fun _ _ ⟨v2,e1,e2,e3⟩=>⟨v2,e1,e2,by rw[e3,EE]⟩) ?_);rintro O _ _ _ Oo r U I h_ rfl;clear r;conv=>whnf
 refine dQ.mk ?_ ?_<;>intro U
 ·have U:e0≠0:=by simpa using U
  conv=>whnf
  exact rtn I fun IR we re=>.inl ⟨by rw[EE];exact U,by rw[EE];rfl⟩
 have U:e0=0:=by simpa using U
 have Sg:iu f l=0:=by rw[EE,U]
 obtain⟨PJ,RW⟩:=pC Sg;have QB:=Tf PJ;have QC:=QB.toFrS;have RW:=EU RW;clear EE U;have Uo:=QC.Kf;have Vj:=QC.Lj;have St:=iX f;have hlen:=fQ f;have hn4:=QC.n4;have Of:=mZ PJ;have Vn:=qt f l;have hc0:f.cols=f.bars.length+f.cZ.length:=rfl;conv=>whnf
 refine cJ (cE I (fun _ J v V=>∃vr,v= .agg #[vr,.int .i64 f.cols]/\cV V (Nf J V) vr (cT f)) (fun O J r=>(tJ (S:=S) (oS X r) (hf.cK (kS I r X)) Of).mono fun _ _ ⟨v2,e1,e2,e3,_⟩=>⟨v2,e1,e2,e3⟩) ?_);rintro O _ v2 _ Od r U I h_ ⟨vr,rfl,R⟩;have hM:=cV.dK (S:=FF) R r.cI (mN h_);clear r U;clear R;obtain⟨am,cm,rfl,-,-⟩:=dC.shape hM;conv=>whnf
 refine cR hτ dx [.x 0,.x 1,.x 2,.x 7,.x 8,.x 9,.x 3,.x 4,.x 5,.x 6,.x 10] (by kernel_rfl) (by kernel_rfl) ?_;conv=>whnf
 refine cE I (fun _ J v V=>∃vr vp vf,v= .agg #[vr,.int .i64 f.cols,vp,vf]/\cV V (Nw (Cf w Od) J V) vr (dY (cT f) f.cols).1) (fun O J r=>(Hk (C:=Cf w Od) (S:=Cf w Od) (h:=20) (Rel.old r (cH w)) (Rel.old r (cH w)) (cV.rel hM r (cH w)) hlen (by omega) (by omega) (oE hlen QC.lD (by decide) (by have:=QC.size;omega)) (by decide)).mono fun _ _ ⟨v2,e1,e2,vr,vp,vf,k1,k2,_,_⟩=>⟨v2,e1,e2,vr,vp,vf,k1,k2⟩) ?_;rintro O _ _ _ Oq r U I h_ ⟨vr2,vp2,vf2,rfl,R⟩;replace hM:=cV.cM hM r (cH w) U (mC h_);clear r U;obtain⟨ar,cr,rfl,-,-⟩:=dC.shape R;have Wf:(dY (cT f) f.cols).1.length=og (cT f) f.cols:=by
  rw[(o7 hlen QC.lD).2,aX,Nat.min_eq_left (qv _ _ hlen).1]
 rw[Wf];obtain⟨nr,hnr⟩:∃nr,og (cT f) f.cols=nr:=⟨_,rfl⟩
 rw[hnr];clear R Wf;conv=>whnf
 refine dQ.mk ?_ ?_<;>intro Ow
 ·have Ow:nr<(cT f).length:=by have:=aK Ow;omega
  conv=>whnf
  exact rtn I fun IR we re=>.inr ⟨Sg,.inl ⟨Ow,rfl⟩⟩
 have Ow:(cT f).length<=nr:=by have:=aG Ow;omega
 have Sh:og (cT f) f.cols=(cT f).length:=by
  have L:=HS hlen;have G:=(qv (da (cT f) f.cols) (cT f).length (fa _ _)).2;rw[hnr]at L ⊢;have L:(cQ (da (cT f) f.cols) (cT f).length).2.length=nr:=L;omega
 have PD:=Ec RW;have TT:(dE (fV f l) (-1)).length=(cT f).length:=by rw[dE,aJ,Vn,St]
 conv=>whnf
 refine cR hτ dx [.x 0,.x 1,.x 2,.x 3,.x 4,.x 5,.x 6,.x 7,.x 8,.x 9] (by kernel_rfl) (by kernel_rfl) ?_;conv=>whnf
 refine cE I (fun _ J v V=>cS V (Nf J V) v (fV f l)/\∀q∈fV f l,rl q<=1) (fun O J r=>(Cz (oS X r) (hl.cK (kS I r X)) QC.n RW rfl rfl).mono fun _ _ ⟨v2,e1,e2,e3,e4⟩=>⟨v2,e1,e2,cS.cN e3.c fun g Y=>Y.new,e4⟩) ?_;rintro O _ _ _ Ox r U I h_ ⟨R,hvq⟩;replace hM:=cV.cM hM r (cH w) U (mC h_);have hP:=cS.dK (S:=FF) R r.cI (mN h_);clear r U;clear R;obtain⟨ap,cp,rfl,-,-⟩:=dV.shape hP;rw[Vn];conv=>whnf
 refine cO (If:=fun _ J v V=>(fM (cT f) (dE (fV f l) (-1)) f.cols=none/\v= .tuple #[.slice none 0 0,.bool false])\/∃x vx,jB (cT f) f.cols (Gc f) (dE (fV f l) (-1)) x/\v= .tuple #[vx,.bool true]/\cS V (Nf J V) vx x) (fun O J r=>DG (S:=fun g=>S g\/Cf w Ox g) (fun g Y=>Y.elim (oS X r g) (Rel.old r (cH w) g)) (eG.cN (hf.cK (kS I r X)) fun g Y=>.inl Y) PJ QB (cS.cN (by have:=cS.rel hP r (cH w);rw[Vn]at this;exact this) fun g Y=>.inr Y) Vn (fun q hq=>by have:=hvq q hq;omega) (Ec RW)) ?_;rintro O Rt v5 Rv r U hb (⟨TA,rfl⟩|⟨x,vx,F,rfl,R⟩)
 ·obtain⟨x,F⟩:=Ch (b:=dE (fV f l) (-1)) hlen Sh;rw[TA]at F
  cases F
 replace I:=I.tr hb;replace hM:=cV.cM (K:=(Rt.heap.size,Rv.heap.size)::Ox) hM r (cH w) U fun x F=>aB _ F;have hX:=cS.dK (S:=FF) R r.cI (iv:=(Rt.heap.size,Rv.heap.size)::Ox) aF;clear r U hb R;generalize (Rt.heap.size,Rv.heap.size)::Ox=ivx at*
 obtain⟨ax,cx,rfl,-,-⟩:=dV.shape hX;have QJ:=F.len;have Se:=QB.OV PD TT F;obtain⟨u,hu⟩:=F.aA1 hlen;have hwT:=QB.Cj QJ (QB.HU PD TT F);have hzT:ln (fB (wt 156) (kM (da (cT f) f.cols) (dE (fJ x (cY f)) (-1))).length)<=2827:=QB.AF;have RH:=vo (M:=da (cT f) f.cols) (b:=dE (fJ x (cY f)) (-1)) (fa _ _) hwT;rw[hu]at RH;have Vk:=M9 QB (Nat.le_of_eq QJ) Se;conv=>whnf
 refine cR hτ dx [.x 0,.x 2,.x 3,.x 1,.x 4,.x 5,.x 6,.x 7,.x 8,.x 9,.x 10,.x 11,.x 12,.x 13] (by kernel_rfl) (by kernel_rfl) ?_;conv=>whnf
 refine cO (If:=fun _ J v V=>∃vr,v= .agg #[vr,.int .i64 (cT f).length]/\cV V (Nw (Cf w ivx) J V) vr (da (cT f) f.cols)) (fun O J r=>Bp (C:=Cf w ivx) (S:=Cf w ivx) (Rel.old r (cH w)) (Rel.old r (cH w)) (cV.rel hM r (cH w)) hlen (by omega) (by omega)) ?_;rintro O Ro v6 Rq r U hb ⟨vt,rfl,R⟩;replace I:=I.tr hb;clear hM;replace hX:=cS.cM (K:=(Ro.heap.size,Rq.heap.size)::ivx) hX r (cH w) U fun x F=>aB _ F;have hT:=cV.old R r.cI;clear r U hb;generalize (Ro.heap.size,Rq.heap.size)::ivx=Q8 at*
 clear R;obtain⟨at_,ct,rfl,-,-⟩:=dC.shape hT;conv=>whnf
 refine cO (If:=fun _ J v V=>eD V (Nw S J V) v (cY f)) (fun O J r=>DA (S:=S) (oS X r) (hf.cK (kS I r X)) Of) ?_;rintro O TU v7 TD r U hb R;replace I:=I.tr hb;replace hX:=cS.cM (K:=(TU.heap.size,TD.heap.size)::Q8) hX r (cH w) U fun x F=>aB _ F;replace hT:=cV.cM (K:=(TU.heap.size,TD.heap.size)::Q8) hT r (cH w) U fun x F=>aB _ F;have hL:=eD.cN (S':=Cv S w.heap.size ((TU.heap.size,TD.heap.size)::Q8)) R fun g Y=>Y.elim .inl fun h=>.inr ⟨by have:=r.cI;omega,_,_,aF,h.1,h.2⟩;clear r U hb;generalize (TU.heap.size,TD.heap.size)::Q8=Qj at*
 clear R;obtain⟨afl,cfl,rfl,-,-⟩:=dV.shape hL;conv=>whnf
 refine cE I (fun _ J v V=>cS V (Nf J V) v (fJ x (cY f))) (fun O J r=>(Iq (S:=Cv S w.heap.size Qj) (Rel.old r X) (eD.cN (cS.l (cS.rel hX r (cH w)) fun q hq=>by have:=Se q hq;omega) fun g Y=>Er Y) (eD.rel hL r X) (by rw[QJ,pB];exact Nat.le_refl _) (by omega)).mono fun _ _ ⟨v2,e1,e2,e3⟩=>⟨v2,e1,e2,cS.cN e3.c fun g Y=>Y.new⟩) ?_;rintro O _ _ _ SP r U I h_ R;replace hX:=cS.cM hX r (cH w) U (mC h_);replace hT:=cV.cM hT r (cH w) U (mC h_);clear hL;have hE:=cS.dK (S:=FF) R r.cI (mN h_);clear r U;clear R;obtain⟨ae,ce,rfl,-,-⟩:=dV.shape hE;conv=>whnf
 refine cE I (fun _ J v V=>dA V (Nf J V) v ((-1:Int):Rat)) (fun O J r=>mB (-1) J (by decide) (by decide)) ?_;rintro O _ _ _ Uk r U I h_ R;replace hX:=cS.cM hX r (cH w) U (mC h_);replace hT:=cV.cM hT r (cH w) U (mC h_);replace hE:=cS.cM hE r (cH w) U (mC h_);have hd:=R.dK (S:=FF) r.cI (mN h_);clear r U R;obtain⟨A0,A1,A2,A3,A4,A5,A6,A7,rfl⟩:=hd.shape;conv=>whnf
 refine cE I (fun _ J v V=>cS V (Nf J V) v (dE (fJ x (cY f)) (-1))) (fun O J r=>(Ct (S:=Cf w Uk) (Rel.old r (cH w)) (cS.l (cS.rel hE r (cH w)) fun q hq=>by have:=Vk q hq;omega) ((hd.rel r (cH w)).l (by decide)) (by rw[kE];omega)).mono fun _ _ ⟨v2,e1,e2,e3⟩=>⟨v2,e1,e2,cS.cN e3.c fun g Y=>Y.new⟩) ?_;rintro O _ _ _ Sw r U I h_ R;replace hX:=cS.cM hX r (cH w) U (mC h_);replace hT:=cV.cM hT r (cH w) U (mC h_);clear hE;clear hd;have hG:=cS.dK (S:=FF) R r.cI (mN h_);clear r U;clear R;obtain⟨ag,cg,rfl,-,-⟩:=dV.shape hG;conv=>whnf
 refine cO (If:=fun _ J v V=>∃vu,v= .tuple #[vu,.bool true]/\eU V (Cf w Sw) J.heap.size [(J.heap.size,V.heap.size)] vu (cT f).length u) (fun O J r=>(GM (C:=Cf w Sw) (S:=Cf w Sw) (h:=2830) (Rel.old r (cH w)) (Rel.old r (cH w)) (cV.rel hT r (cH w)) (cS.rel hG r (cH w)) (by rw[dE,aJ,kE,eJ];exact QJ) (fa _ _) (by omega) (by rw[eJ];omega) (oE (jI (fa _ _)) hwT kQ (by omega)) (by decide)).mono fun _ _ ⟨v2,e1,e2,e3⟩=>⟨v2,e1,e2,by
  rcases e3 with⟨k1,_⟩|⟨x2,vx,k1,k2,k3⟩
  ·rw[RH]at k1;cases k1
  ·rw[RH]at k1;injection k1 with k1;subst k1;exact⟨vx,k2,k3⟩⟩) ?_
 rintro O Rc v11 Rw r U hb ⟨vu,rfl,R⟩;replace I:=I.tr hb;replace hX:=cS.cM (K:=(Rc.heap.size,Rw.heap.size)::Sw) hX r (cH w) U fun x F=>aB _ F;clear hT;clear hG;have hU:=R.aBG r.cI;clear r U hb;generalize (Rc.heap.size,Rw.heap.size)::Sw=Rx at*
 clear R;obtain⟨au,cu,rfl,hcu⟩:=hU.row.form;conv=>whnf
 exact rtn I fun IR we re=>.inr ⟨Sg,.inr ⟨hnr.symm.trans Sh,x,u,_,_,F,hu,rfl,cS.out hU.c re (cH w),cS.out hX re (cH w)⟩⟩
section
variable{S:Nat->Prop}{w:World}{v u:Value}{M:List (List Rat)}{b:List Rat}{n h0:Nat}
end
theorem FrV.KJ(h:FrV f)(hb:b.length=(cT f).length)(hr:og (cT f) f.cols=(cT f).length):
  ∃x u,jB (cT f) f.cols (fun t=>(cY f).getD t 0) b x/\fM (da (cT f) f.cols) (dE (fJ x (cY f)) (-1)) (cT f).length=some u/\u.length=(cT f).length/\
   fM (jo (cT f) f.cols (cY f)) (b++fL f.cols) ((cT f).length+f.cols)=some (u++x):=by
 have hM:=fQ f;obtain⟨x0,h0⟩:=Ch (b:=b) hM hr;obtain⟨c,-,-,F⟩:=h.B8.force h0;obtain⟨u,hu⟩:=F.aA1 hM;obtain⟨k1,k2⟩:=Fu hM hb F hu;exact⟨_,u,F,hu,(iV (fa _ _) hu).1,CX (nc hM _) (Li h.B8 hr) k1 k2⟩
def OB:List Ld:=[(2,0,0,-12)]
end Go.Ex
namespace Go.Sx
open Go Go.Ex Go.Proofs
variable{vs:List Value}{O:Nat->Sx.dq}
theorem Sub.aB4{B nx:Nat}{l:Env}{H H':Hp}{iv:Iv}{w J:World}{t:xD}(id fid p e sz n:Nat){ft:Nat}{W:List At}
  (PY:dG H id=some (.box e (vs.map At.v))) (hs:vT H H') (ho:DZ id H'=true) (hf:dG H' fid=some (.box ft W)) (hp:W[p]? =some (.s id 0 n n)) (R:vs.length=n*sz) (WV:n<=maxLen) (RS:jw nx l) (r:Rel H nx iv B w O J)
  (h:∀Id,Rel ((fid,.box ft (W.set p (.w nx n)))::(nx,.vec e sz vs)::H') (nx+1) iv B J Id J->Sx.Sub B l (nx+1) Id J t):Sx.Sub B l nx O J t:=by
 have WK:=r.nn id _ PY (by intros;simp) (by simp);have PT:=r.box id _ _ PY;have UR:(vs.map At.v).map (At.den O)=vs:=by
  rw[List.map_map];exact List.map_id _
 rw[UR]at PT;have hidn:id<nx:=r.keys id _ PY;have r0:=r.free PY (by simp) WK hs ho;have Oa:J.ownsRow 0 e sz (.slice (some ⟨(O id).g,0,none⟩) n n) n vs:=⟨R,.inr ⟨(O id).g,n,vs.toArray,rfl,aQ _,PT,Nat.le_refl _,WV,by simpa using R,by rw[<-R];simp⟩⟩
 obtain⟨u,r1,I⟩:=r0.zA Oa (fun g Y=>by injection Y with Y;subst Y;exact(r.low id _ PY WK).1) (fun g Y j c hj XL U=>by
  injection Y with Y;subst Y;obtain⟨G,N⟩:=DZ.get ho hj
  exact G (r.inj j id c _ (hs.get hj) PY N (by simp) XL WK U))
 have hug:u.nil=false/\u.g=(O id).g:=by
  simp only[At.den,Sx.eR]at I
  cases hu:u.nil with
  |true=>rw[hu]at I;cases I
  |false=>
   rw[hu]at I;injection I with L;injection L with L;injection L with L;exact⟨rfl,L⟩
 have QL:∀j,j<nx->Sx.gT O nx u j=O j:=fun j hj=>(gD j hj).symm
 have r2:Rel ((nx,.vec e sz vs)::H') (nx+1) iv B J (Sx.gT O nx u) J:=Rel.mk' rfl rfl rfl (Nat.le_refl _) r1.base (fun lo A hm=>by have:=r.oJ lo A hm;have:=r.size;omega) r1.keys (fun j c h=>r1.fits h) (fun j c h=>r1.scopd h) r1.inj r1.low (fun _ _ _=>rfl) (fun lo A hm j c hj XL=>by
  rw[dB]at hj;split at hj
  ·rename_i e2;subst e2;rw[Sx.eR,hug.2];exact r.je lo A hm id _ PY WK
  ·have hjx:=r.keys j c (hs.get hj);rw[QL j hjx]at XL ⊢
   exact r.je lo A hm j c (hs.get hj) XL)
 have hfx:fid≠nx:=Nat.ne_of_lt (r.keys fid _ (hs.get hf));have hf1:dG ((nx,.vec e sz vs)::H') fid=some (.box ft W):=by rw[dB,aH (fun h=>hfx h.symm)];exact hf
 have hnf:=r2.nn fid _ hf1 (by intros;simp) (by simp);have Wr:=r2.box fid ft W hf1;have RF:(W.set p (.w nx n)).map (At.den (Sx.gT O nx u))=W.map (At.den (Sx.gT O nx u)):=by
  refine bF fun j=>?_;rw[aL,aL];by_cases hj:p=j
  ·subst hj;rw[aP (aD.1 hp).1,hp,bc,bc,I];simp only[At.den,QL id hidn]
  ·rw[aS hj]
 have E:=r2.store (b':=.box ft (W.set p (.w nx n))) (H':=(fid,.box ft (W.set p (.w nx n)))::(nx,.vec e sz vs)::H') (V:=J) hf1 (by simp) hnf (fun j=>by
  rw[dB];by_cases hj:fid=j
  ·subst hj;rw[if_pos rfl]
  ·rw[aH hj,aH (fun h=>hj h.symm)]) rfl rfl rfl rfl (fun _ _=>rfl) ⟨hnf,by rw[RF];exact Wr⟩ (fun x F=>by
   rcases bC F with F|rfl
   ·exact r2.Kh fid ft W hf1 x F
   ·exact bQ nx)
 obtain⟨G8,L,G⟩:=h _ E;refine⟨G8,L,fun x v hv=>?_⟩;obtain⟨N,v0,h4,h5⟩:=G x v hv;refine⟨N,v0,h4,?_⟩;rw[<-h5];exact SV.jT (fun id PY=>gD id PY) (RS.get _ _ h4)
end Go.Sx
namespace Go.Ex
open Go Go.Sx Go.Proofs
end Go.Ex
namespace Go.Ex
open Go Go.Sx Go.Proofs
variable{f:Hg}{l:List Ld}{most:Nat}{S:Nat->Prop}{O:Nat->Sx.dq}{a a2:Option Addr}{vb vn vs:Value}{w:World}
def OC(n k:Nat):List Value:=[.int .i64 ((n:Nat):Int),.int .i64 ((k:Nat):Int),.bool false,.slice none 0 0,.bool false,.slice none 0 0]
def mK:Nat->List (List Value)
 |0=>[OC 2 1]
 |k+1=>mK k++[OC 0 k,OC 1 k]
theorem BM:∀k,(mK k).length=2*k+1
 |0=>rfl
 |k+1=>by rw[mK,List.length_append,BM k];simp;omega
theorem BN:∀k,∀W∈mK k,W.length=6
 |0,W,h=>by simp[mK]at h;subst h;rfl
 |k+1,W,h=>by
  rw[mK]at h;rcases bB.1 h with h|h
  ·exact BN k W h
  ·simp at h;rcases h with rfl|rfl<;>rfl
theorem Gd(k:Nat):(mK k).flatten++[.int .i64 0,.int .i64 (k:Int),.bool false,.slice none 0 0,.bool false,.slice none 0 0,.int .i64 1,.int .i64 (k:Int),.bool false,.slice none 0 0,.bool false,.slice none 0 0]=(mK (k+1)).flatten:=by
 rw[mK,List.flatten_append];rfl
def Ef:fC:=⟨[(0,0,0),(0,0,4),(3,0,0)],[(0,2,1),(1,2,1)],[(2,1,0),(0,0,0),(1,0,0),(0,1,0),(1,1,0),(0,2,0),(1,2,0)]⟩
def OD:List Int:=[-3,3,0,9,-9,0,0,0,12]
theorem JC:iu Ef OB=0:=by decide +kernel
theorem aAI:nd Ef:=M8 (.inr ⟨by decide,by decide⟩) (by decide +kernel) (by decide +kernel) (pC JC).1
theorem JD:jB (cT Ef) Ef.cols (Gc Ef) (dE (fV Ef OB) (-1)) (dI OD):=⟨by decide +kernel,by decide +kernel,by decide +kernel⟩
theorem Hn(w:World):eI PG F'.top_bracket #[] w (eO w fun v' V=>∃vn vb vs,v'= .agg #[vn,vb,vs]/\eG V (Nf w V) vn vb vs Ef):=by
 have I:=bR w;refine Af (by simp) ?_;conv=>whnf
 refine cJ (cE I (fun _ J v V=>dA V (Nf J V) v ((1:Int):Rat)) (fun O J r=>ki 1 J (by decide)) ?_);rintro O _ _ _ Oo r U I h_ R;have hd:=R.dK (S:=FF) r.cI (mN h_);clear r;obtain⟨A0,A1,A2,A3,A4,A5,A6,A7,rfl⟩:=hd.shape;conv=>whnf
 refine⟨Nat×World,fun z=>⟨[(0,pP 0 0),(2,pP 5 0),(3,iN z.1)],[(5,.box T.Frame [.s 2 0 3 3,.s 3 0 2 2,.w 6 (2*(z.1)+1)]),(6,.vec T.Dp 6 (mK (z.1)).flatten),(3,.box T.Bar [.v (.int .i64 0),.v (.int .i64 2),.v (.bool A0),.v (.slice A1 A2 A3),.v (.bool A4),.v (.slice A5 A6 A7),.v (.int .i64 1),.v (.int .i64 2),.v (.bool A0),.v (.slice A1 A2 A3),.v (.bool A4),.v (.slice A5 A6 A7)]),(2,.box T.Node [.v (.int .i64 0),.v (.int .i64 0),.v (.int .i64 0),.v (.int .i64 0),.v (.int .i64 0),.v (.int .i64 4),.v (.int .i64 3),.v (.int .i64 0),.v (.int .i64 0)]),(0,.box T.Frame [.v (.slice none 0 0),.v (.slice none 0 0),.v (.slice none 0 0)])],7,Oo,z.2⟩,fun z=>3-z.1,
  fun z=>z.1<=3/\dw w.heap.size w z.2/\dA z.2 (Cf w Oo) (.agg #[.bool A0,.slice A1 A2 A3,.bool A4,.slice A5 A6 A7]) ((1:Int):Rat),?_,?_⟩
 ·intro O J r;exact⟨(0,J),⟨aQ _,I.tr r.cU,hd.rel r (cH w)⟩,Sub.aB4 (H':=[(5,.box T.Frame [.s 2 0 3 3,.s 3 0 2 2,.s 4 0 1 1]),(3,.box T.Bar [.v (.int .i64 0),.v (.int .i64 2),.v (.bool A0),.v (.slice A1 A2 A3),.v (.bool A4),.v (.slice A5 A6 A7),.v (.int .i64 1),.v (.int .i64 2),.v (.bool A0),.v (.slice A1 A2 A3),.v (.bool A4),.v (.slice A5 A6 A7)]),(2,.box T.Node [.v (.int .i64 0),.v (.int .i64 0),.v (.int .i64 0),.v (.int .i64 0),.v (.int .i64 0),.v (.int .i64 4),.v (.int .i64 3),.v (.int .i64 0),.v (.int .i64 0)]),(0,.box T.Frame [.v (.slice none 0 0),.v (.slice none 0 0),.v (.slice none 0 0)])]) 4 5 2 T.Dp 6 1 (vs:=OC 2 1) rfl ⟨rfl,rfl,rfl,rfl,trivial⟩ rfl rfl rfl rfl (by decide) (by simp[jw,SV.sc,At.sc,fW]) r fun Id r1=>Sub.gn [] r1⟩
 clear I hd;rintro⟨k,w1⟩ ⟨D,I,hd⟩;dsimp only at D I hd ⊢;conv=>whnf
 refine dQ.mk ?_ ?_<;>intro Oj
 ·have Oj:k<3:=by have:=aK Oj;omega
  have hs:=Gd k;have PL:=wY (BN k);have SE:=BM k;conv=>whnf
  refine .inl ?_;conv=>whnf
  refine⟨by omega,by omega,by unfold maxLen;omega,?_⟩;conv=>whnf
  refine⟨((k+1:Nat):Int),wo,?_⟩;conv=>whnf
  intro GT w6 E;exact⟨(k+1,w6),⟨Oj,I.tr E.cU,hd.rel E (cH w)⟩,Sub.gn [(6,8)] E ⟨by dsimp only;rw[show 2*(k+1)+1=2*k+1+2 by omega];rfl,by dsimp only;rw[<-hs];rfl,rfl,rfl,rfl,trivial⟩,by dsimp only;omega⟩
 have Oj:k=3:=by have:=aG Oj;omega
 subst Oj;conv=>whnf
 intro IR we re;have hN:∀{id:Nat} {bk:jz},dG _ id=some bk->(IR id).nil=false->Nf w we (IR id).g:=fun h R=>by
  obtain⟨L,G⟩:=re.low _ _ h R;exact .inr ⟨L,G⟩
 have hR:=hd.out re (cH w);have hL:ed we (Nf w we) (.agg #[.bool A0,.slice A1 A2 A3,.bool A4,.slice A5 A6 A7]) 1:=hR.l (by decide);refine⟨_,rfl,I.tr re.cU,_,_,_,rfl,?_,?_,?_⟩
 ·refine⟨[[.int .i64 0,.int .i64 0,.int .i64 0],[.int .i64 0,.int .i64 0,.int .i64 4],[.int .i64 3,.int .i64 0,.int .i64 0]],(re.wm (id:=2) (sz:=3) (n:=3) rfl rfl (by decide) (by repeat' first|refine List.forall_mem_cons.2 ⟨rfl,?_⟩|exact fun u hu=>absurd hu List.not_mem_nil)).cN fun g Y=>by subst Y;exact hN (id:=2) rfl (re.nn 2 _ rfl (by intros;simp) (by simp)),rfl,by simp,fun j W x L G=>?_⟩;rcases j with _|_|_|j
  ·cases L;cases G;rfl
  ·cases L;cases G;rfl
  ·cases L;cases G;rfl
  ·cases G
 ·refine⟨[[.int .i64 0,.int .i64 2,.bool A0,.slice A1 A2 A3,.bool A4,.slice A5 A6 A7],[.int .i64 1,.int .i64 2,.bool A0,.slice A1 A2 A3,.bool A4,.slice A5 A6 A7]],(re.wm (id:=3) (sz:=6) (n:=2) rfl rfl (by decide) (by repeat' first|refine List.forall_mem_cons.2 ⟨rfl,?_⟩|exact fun u hu=>absurd hu List.not_mem_nil)).cN fun g Y=>by subst Y;exact hN (id:=3) rfl (re.nn 3 _ rfl (by intros;simp) (by simp)),rfl,by simp,fun j W x L G=>?_⟩;rcases j with _|_|j
  ·cases L;cases G;exact⟨_,_,_,_,_,_,_,_,rfl,hL⟩
  ·cases L;cases G;exact⟨_,_,_,_,_,_,_,_,rfl,hL⟩
  ·cases G
 ·refine⟨mK 3,?_,rfl,by decide,fun j W x L G=>?_⟩
  ·have h5:=re.iK (id:=6) (sz:=6) (m:=7) rfl (by decide) (by decide) (by decide) (by decide);exact h5.cN fun g Y=>.inr Y
  ·rcases j with _|_|_|_|_|_|_|j
   ·cases L;cases G;exact⟨_,_,_,_,_,_,_,_,rfl,ed.zeroV⟩
   ·cases L;cases G;exact⟨_,_,_,_,_,_,_,_,rfl,ed.zeroV⟩
   ·cases L;cases G;exact⟨_,_,_,_,_,_,_,_,rfl,ed.zeroV⟩
   ·cases L;cases G;exact⟨_,_,_,_,_,_,_,_,rfl,ed.zeroV⟩
   ·cases L;cases G;exact⟨_,_,_,_,_,_,_,_,rfl,ed.zeroV⟩
   ·cases L;cases G;exact⟨_,_,_,_,_,_,_,_,rfl,ed.zeroV⟩
   ·cases L;cases G;exact⟨_,_,_,_,_,_,_,_,rfl,ed.zeroV⟩
   ·cases G
theorem yq(w:World):eI PG F'.top_bears #[] w (eO w fun v' _=>v'= .bool true):=by
 have I:=bR w;refine Dr (by simp) ?_;conv=>whnf
 refine cJ (cE I (fun _ J v V=>∃vn vb vs,v= .agg #[vn,vb,vs]/\eG V (Nf J V) vn vb vs Ef) (fun O J r=>Hn J) ?_);rintro O _ _ _ Oo r U I h_ ⟨vn,vb,vs,rfl,R⟩;have hf:=R.dK r.cI (mN h_);clear r;clear R;obtain⟨an,cn,ab,cb,aq,cq,rfl,rfl,rfl,-,-,-⟩:=hf.shape;conv=>whnf
 refine cJ (cE I (fun _ J v V=>∃vx,v= .tuple #[vx,.int .i64 0]/\cS V (Nf J V) vx (dI OD)) (fun O J r=>(pH (S:=(fun g=>Cf w Oo g\/g=(O 0).g)) (l:=OB) (fun g Y=>Y.elim (Rel.old r (cH w) g) fun e=>by subst e;exact Rel.lt r (id:=0) rfl) (eG.cN (eG.rel hf r (cH w)) fun g Y=>.inl Y) (show jA J (fun g=>Cf w Oo g\/g=(O 0).g) (.slice (some ⟨(O 0).g,0,none⟩) 1 1) OB from⟨[[.int .i64 2,.int .i64 0,.int .i64 0,.int .i64 (-12)]],(r.wm (id:=0) (sz:=4) (n:=1) rfl rfl (by decide) (by repeat' first|refine List.forall_mem_cons.2 ⟨rfl,?_⟩|exact fun u hu=>absurd hu List.not_mem_nil)).cN fun g Y=>.inr Y,rfl,by simp,fun j W x L G=>by cases j with|zero=>(cases L;cases G;rfl)|succ j=>cases G⟩) (fun _=>aAI)).mono fun _ _ ⟨v2,e1,e2,e3⟩=>⟨v2,e1,e2,e3.elim (fun h=>absurd JC h.1) fun h=>h.2.elim (fun g=>by obtain⟨z,hz⟩:=nY (fQ Ef) (x:=fun t=>(dI OD).getD t 0) JD.eq;rw[g.1]at hz;cases hz) fun⟨x,vx,g,k1,k2⟩=>⟨vx,k1,aAI.B8.one g JD▸k2⟩⟩) ?_);rintro O _ v2 Pt Od r U I h_ ⟨vx,rfl,R⟩;clear hf;have hX:=cS.dK (S:=FF) R r.cI (mN h_);clear r;clear R;obtain⟨ax,cx,rfl,-,-⟩:=dV.shape hX;have hl9:(dI OD).length=9:=rfl;obtain⟨ad0,cs0,ha0,hF0,hS0,hl0⟩:=dV.load hX (j:=0) (x:=((-3:Int):Rat)) rfl;obtain⟨x0,x1,x2,x3,x4,x5,x6,x7,rfl,hF0⟩:=hF0;rw[hl9];conv=>whnf
 refine cR hτ dx [.x 0,.x 1,.x 2,.x 3,.x 4,.x 5,.x 6,.x 7,.x 8,.x 9,.x 10,.x 11,.x 12,.x 13,.x 14,.x 15,.x 16,.x 17,.x 18,.x 19,.x 20,.x 21] (by kernel_rfl) (by kernel_rfl) ?_;conv=>whnf
 refine⟨ad0,ha0,⟨by decide,by decide⟩,?_⟩;conv=>whnf
 refine⟨[.bool x0,.slice x1 x2 x3,.bool x4,.slice x5 x6 x7],rfl,fun O J r j u hu=>?_,?_⟩
 ·obtain⟨k1,k2⟩:=hl0 j u hu;rw[show (0:Int).toNat=0 from rfl,cL (w:=Pt) (V:=J) (by rw[dF,dF];exact Rel.same r (cH w) k1)];exact k2
 conv=>whnf
 refine cE I (fun _ J v V=>dA V (Nf J V) v (((-3):Int):Rat)) (fun O J r=>ki (-3) J (by decide)) ?_;rintro O _ _ _ Oq r U I h_ R;replace hF0:=hF0.cM r (cH w) U (mC h_);replace hX:=cS.cM hX r (cH w) U (mC h_);have UR:=R.dK (S:=FF) r.cI (mN h_);clear r;obtain⟨A0,A1,A2,A3,A4,A5,A6,A7,rfl⟩:=UR.shape;conv=>whnf
 refine cE I (fun _ J v V=>v= .bool true) (fun O J r=>(Ho (S:=Cf w Oq) (Rel.old r (cH w)) (hF0.rel r (cH w)) (UR.rel r (cH w))).mono fun _ _ ⟨v2,e1,e2,e3⟩=>⟨v2,e1,e2,by rw[e3];exact congrArg _ (bX rfl)⟩) ?_;rintro O _ _ QX Ox r U I h_ rfl;clear hF0;replace hX:=cS.cM hX r (cH w) U (mC h_);clear UR;clear r;conv=>whnf
 obtain⟨ad1,cs1,ha1,hF1,hS1,R6⟩:=dV.load hX (j:=1) (x:=((3:Int):Rat)) rfl;obtain⟨y0,y1,y2,y3,y4,y5,y6,y7,rfl,hF1⟩:=hF1;refine⟨ad1,ha1,⟨by decide,by decide⟩,?_⟩;conv=>whnf
 refine⟨[.bool y0,.slice y1 y2 y3,.bool y4,.slice y5 y6 y7],rfl,fun O J r j u hu=>?_,?_⟩
 ·obtain⟨k1,k2⟩:=R6 j u hu;rw[show (1:Int).toNat=1 from rfl,cL (w:=QX) (V:=J) (by rw[dF,dF];exact Rel.same r (cH w) k1)];exact k2
 conv=>whnf
 refine cE I (fun _ J v V=>dA V (Nf J V) v ((3:Int):Rat)) (fun O J r=>ki 3 J (by decide)) ?_;rintro O _ _ _ PX r U I h_ R;replace hF1:=hF1.cM r (cH w) U (mC h_);have SL:=R.dK (S:=FF) r.cI (mN h_);clear r;obtain⟨C0,C1,C2,C3,C4,C5,C6,C7,rfl⟩:=SL.shape;conv=>whnf
 refine cE I (fun _ J v V=>v= .bool true) (fun O J r=>(Ho (S:=Cf w PX) (Rel.old r (cH w)) (hF1.rel r (cH w)) (SL.rel r (cH w))).mono fun _ _ ⟨v2,e1,e2,e3⟩=>⟨v2,e1,e2,by rw[e3];exact congrArg _ (bX rfl)⟩) ?_;rintro O _ _ _ Q8 r U I h_ rfl;clear hF1;clear SL;clear r;conv=>whnf
 exact rtn I fun IR we re=>rfl
theorem JE{b:Bool}{n c:Nat}{b2:Bool}{n2 c2:Nat}(L:n<=2)(G:n2<=2):GR [.bool b,.slice a n c,.bool b2,.slice a2 n2 c2]:=⟨_,_,_,_,_,_,_,_,rfl,by omega,by omega⟩
theorem Mc{vl:Value}(X:Old S w)(hf:qu w S vn vb vs f)(hl:jA w S vl l):eI PG F'.top_slight #[.agg #[vn,vb,vs],vl,.int .i64 most] w (eO w fun v' _=>∃d,v'= .bool d/\
  (d=true->eG w S vn vb vs f.val/\(∀b∈f.val.bars,rl b.2.2<=3)/\(∀b∈f.val.cZ,rl b.2.2<=3)/\f.nodes.length<=most/\f.val.bars.length<=6/\f.val.cZ.length<=12/\l.length<=12/\iu f.val l=0)):=by
 have I:=bR w;obtain⟨an,cn,rfl,hcn,RR⟩:=hf.nodes.shape;obtain⟨bcs,PD,hbz,S9,hbQ⟩:=hf.bars.cells;obtain⟨qcs,SZ,hqz,hq4,hqQ⟩:=hf.cZ.cells;obtain⟨ab,cb,rfl,Q3,Rk⟩:=hf.bars.shape;obtain⟨aq,cq,rfl,hcq,SM⟩:=hf.cZ.shape;obtain⟨al,cl,rfl,Pu,RM⟩:=hl.shape;unfold maxLen at RR Rk SM RM;refine Ba (by simp) ?_;conv=>whnf
 refine dQ.mk ?_ ?_<;>intro h0
 ·conv=>whnf
  exact rtn I fun IR we re=>⟨_,rfl,fun h=>by cases h⟩
 have h0:=aG h0;conv=>whnf
 refine dQ.mk ?_ ?_<;>intro L
 ·conv=>whnf
  exact rtn I fun IR we re=>⟨_,rfl,fun h=>by cases h⟩
 have L:=aG L;conv=>whnf
 refine dQ.mk ?_ ?_<;>intro G
 ·conv=>whnf
  exact rtn I fun IR we re=>⟨_,rfl,fun h=>by cases h⟩
 have G:=aG G;conv=>whnf
 refine dQ.mk ?_ ?_<;>intro N
 ·conv=>whnf
  exact rtn I fun IR we re=>⟨_,rfl,fun h=>by cases h⟩
 have N:=aG N;conv=>whnf
 refine⟨Nat×World×Iv,fun z=>⟨[(1,sV al l.length cl),(3,pP 0 0),(7,iN z.1)],[(0,.box T.Frame [.v (.slice an f.nodes.length cn),.v (.slice ab f.bars.length cb),.v (.slice aq f.cZ.length cq)])],1,z.2.2,z.2.1⟩,fun z=>f.bars.length-z.1,
  fun z=>z.1<=f.bars.length/\dw w.heap.size w z.2.1/\∀(j:Nat) (W:List Value),j<z.1->bcs[j]? =some W->GR (W.drop 2),?_,?_⟩
 ·intro O J r;exact⟨(0,J,_),⟨aQ _,I.tr r.cU,fun j W hj=>absurd hj (Nat.not_lt_zero j)⟩,Sub.gn [] r⟩
 clear I;rintro⟨i,w1,iv⟩ ⟨A,I,hB⟩;dsimp only at A I hB ⊢;conv=>whnf
 refine dQ.mk ?_ ?_<;>intro OZ
 ·have OZ:i<f.bars.length:=by simpa using OZ
  obtain⟨W,PS⟩:∃W,bcs[i]? =some W:=⟨_,aA (by omega)⟩
  obtain⟨p,hp⟩:∃p,f.bars[i]? =some p:=⟨_,aA OZ⟩
  obtain⟨g0,g1,g2,g3,g4,g5,g6,g7,rfl,-⟩:=S9 i W p PS hp;obtain⟨adx,cs2,QE,⟨he2,-⟩,-,QH⟩:=hbz.load (by decide) (show (bcs.zip f.bars)[i]? =some (_,p) by rw[List.getElem?_zip_eq_some];exact⟨PS,hp⟩);have he2:cs2=[.int .i64 p.1,.int .i64 p.2.1,.bool g0,.slice g1 g2 g3,.bool g4,.slice g5 g6 g7]:=he2;subst he2;conv=>whnf
  refine⟨adx,QE,by omega,?_⟩;conv=>whnf
  refine⟨.slice g1 g2 g3,fun O J r=>?_,?_⟩
  ·obtain⟨k1,k2⟩:=QH 3 _ rfl;rw[cL (w:=w) (V:=J) (by simp only[dF];exact(I.tr r.cU).block _ (X _ k1))];simp only[aE,kF]at k2 ⊢
   first|exact k2|(rw [<-k2];congr 2;omega)
  conv=>whnf
  refine dQ.mk ?_ ?_<;>intro k3
  ·conv=>whnf
   exact rtn I fun IR we re=>⟨_,rfl,fun h=>by cases h⟩
  have k3:=aG k3;conv=>whnf
  refine⟨adx,QE,by omega,?_⟩;conv=>whnf
  refine⟨.slice g5 g6 g7,fun O J r=>?_,?_⟩
  ·obtain⟨k1,k2⟩:=QH 5 _ rfl;rw[cL (w:=w) (V:=J) (by simp only[dF];exact(I.tr r.cU).block _ (X _ k1))];simp only[aE,kF]at k2 ⊢
   first|exact k2|(rw [<-k2];congr 2;omega)
  conv=>whnf
  refine dQ.mk ?_ ?_<;>intro k5
  ·conv=>whnf
   exact rtn I fun IR we re=>⟨_,rfl,fun h=>by cases h⟩
  have k5:=aG k5;conv=>whnf
  have PM:∀j W,j<i+1->bcs[j]? =some W->GR (W.drop 2):=fun j W hj hc=>by
   rcases aO j i with h|h
   ·exact hB j W h hc
   ·have:j=i:=by omega
    subst this;rw[PS]at hc;injection hc with hc;subst hc;exact JE (by omega) (by omega)
  refine⟨((i+1:Nat):Int),wo,?_⟩;conv=>whnf
  intro GT w6 E;exact⟨(i+1,w6,_),⟨OZ,I.tr E.cU,PM⟩,Sub.gn [] E,by dsimp only;omega⟩
 have OZ:i=f.bars.length:=aR A (by simpa using OZ);subst OZ;clear A;conv=>whnf
 refine⟨Nat×World×Iv,fun z=>⟨[(1,sV al l.length cl),(3,pP 0 0),(8,iN z.1)],[(0,.box T.Frame [.v (.slice an f.nodes.length cn),.v (.slice ab f.bars.length cb),.v (.slice aq f.cZ.length cq)])],1,z.2.2,z.2.1⟩,fun z=>f.cZ.length-z.1,
  fun z=>z.1<=f.cZ.length/\dw w.heap.size w z.2.1/\∀(j:Nat) (W:List Value),j<z.1->qcs[j]? =some W->GR (W.drop 2),?_,?_⟩
 ·intro O J r;exact⟨(0,J,_),⟨aQ _,I.tr r.cU,fun j W hj=>absurd hj (Nat.not_lt_zero j)⟩,Sub.gn [] r⟩
 clear I;rintro⟨i,w1,iv⟩ ⟨A,I,hQ⟩;dsimp only at A I hQ ⊢;conv=>whnf
 refine dQ.mk ?_ ?_<;>intro OZ
 ·have OZ:i<f.cZ.length:=by simpa using OZ
  obtain⟨W,PS⟩:∃W,qcs[i]? =some W:=⟨_,aA (by omega)⟩
  obtain⟨p,hp⟩:∃p,f.cZ[i]? =some p:=⟨_,aA OZ⟩
  obtain⟨g0,g1,g2,g3,g4,g5,g6,g7,rfl,-⟩:=hq4 i W p PS hp;obtain⟨adx,cs2,QE,⟨he2,-⟩,-,QH⟩:=hqz.load (by decide) (show (qcs.zip f.cZ)[i]? =some (_,p) by rw[List.getElem?_zip_eq_some];exact⟨PS,hp⟩);have he2:cs2=[.int .i64 p.1,.int .i64 p.2.1,.bool g0,.slice g1 g2 g3,.bool g4,.slice g5 g6 g7]:=he2;subst he2;conv=>whnf
  refine⟨adx,QE,by omega,?_⟩;conv=>whnf
  refine⟨.slice g1 g2 g3,fun O J r=>?_,?_⟩
  ·obtain⟨k1,k2⟩:=QH 3 _ rfl;rw[cL (w:=w) (V:=J) (by simp only[dF];exact(I.tr r.cU).block _ (X _ k1))];simp only[aE,kF]at k2 ⊢
   first|exact k2|(rw [<-k2];congr 2;omega)
  conv=>whnf
  refine dQ.mk ?_ ?_<;>intro k3
  ·conv=>whnf
   exact rtn I fun IR we re=>⟨_,rfl,fun h=>by cases h⟩
  have k3:=aG k3;conv=>whnf
  refine⟨adx,QE,by omega,?_⟩;conv=>whnf
  refine⟨.slice g5 g6 g7,fun O J r=>?_,?_⟩
  ·obtain⟨k1,k2⟩:=QH 5 _ rfl;rw[cL (w:=w) (V:=J) (by simp only[dF];exact(I.tr r.cU).block _ (X _ k1))];simp only[aE,kF]at k2 ⊢
   first|exact k2|(rw [<-k2];congr 2;omega)
  conv=>whnf
  refine dQ.mk ?_ ?_<;>intro k5
  ·conv=>whnf
   exact rtn I fun IR we re=>⟨_,rfl,fun h=>by cases h⟩
  have k5:=aG k5;conv=>whnf
  have PM:∀j W,j<i+1->qcs[j]? =some W->GR (W.drop 2):=fun j W hj hc=>by
   rcases aO j i with h|h
   ·exact hQ j W h hc
   ·have:j=i:=by omega
    subst this;rw[PS]at hc;injection hc with hc;subst hc;exact JE (by omega) (by omega)
  refine⟨((i+1:Nat):Int),wo,?_⟩;conv=>whnf
  intro GT w6 E;exact⟨(i+1,w6,_),⟨OZ,I.tr E.cU,PM⟩,Sub.gn [] E,by dsimp only;omega⟩
 have OZ:i=f.cZ.length:=aR A (by simpa using OZ);subst OZ;clear A;conv=>whnf
 obtain⟨kb,kb2⟩:=aAD.of S9 hbQ PD hB;obtain⟨kq,kq2⟩:=aAD.of hq4 hqQ SZ hQ;have hR:eG w S (.slice an f.nodes.length cn) (.slice ab f.bars.length cb) (.slice aq f.cZ.length cq) f.val:=⟨hf.nodes,kb,kq⟩
 refine cJ (cE I (fun _ J v V=>v= .int .i64 (iu f.val l)) (fun O J r=>Eb (oS X r) (hR.cK (kS I r X)) (hl.cK (kS I r X))) ?_);rintro O _ _ _ Od r U I h_ rfl;clear r;conv=>whnf
 exact rtn I fun IR we re=>⟨_,rfl,fun h=>⟨hR,kb2,kq2,by omega,by show(f.bars.map GS).length<=6;rw[aJ];omega,by show(f.cZ.map GS).length<=12;rw[aJ];omega,by omega,by simpa using h⟩⟩
theorem KK{H:Hp}{nx:Nat}{iv:Iv}{w1 J:World}{vl:Value}(X:Old S w)(I:dw w.heap.size w w1)(r:Rel H nx iv w.heap.size w1 O J)(hf:qu w S vn vb vs f)(hl:jA w S vl l):eI PG F'.top_slight #[.agg #[vn,vb,vs],vl,.int .i64 most] J (eO J fun v' _=>∃d,v'= .bool d/\
  (d=true->eG w S vn vb vs f.val/\(∀b∈f.val.bars,rl b.2.2<=3)/\(∀b∈f.val.cZ,rl b.2.2<=3)/\f.nodes.length<=most/\f.val.bars.length<=6/\f.val.cZ.length<=12/\l.length<=12/\iu f.val l=0)):=by
 have D:∀g,S g->J.heap[g]? =w.heap[g]? :=fun g Y=>(I.tr r.cU).block g (X g Y);have hO:Old S J:=fun g Y=>by have:=X g Y;have:=r.cI;omega
 refine(Mc hO (hf.cK D) (hl.cK D)).mono fun _ _ ⟨v2,e1,e2,d,e3,e4⟩=>⟨v2,e1,e2,d,e3,fun h=>?_⟩
 obtain⟨L,G⟩:=e4 h;exact⟨L.cK fun g Y=>(D g Y).symm,G⟩
theorem HR{f:fC}(hv:FrV f):∀l∈gZ f,∀z∈l,z.natAbs<=2000000:=fun l hl z hz=>by
 obtain⟨i,A⟩:=aN hl;obtain⟨k,D⟩:=aN hz;obtain⟨y,L,G⟩:=hv.oe i k;have N:dD (cT f) i k=((z:Int):Rat):=by
  unfold dD cT;rw[show (List.map dI (gZ f)).getD i []=dI l by rw[List.getD,aL,A];rfl,dI,List.getD,aL,D];rfl
 rw[N]at L;have:z=y:=by have:=congrArg Rat.num L;simpa using this
 rw[this];exact G
set_option maxHeartbeats 1000000 in
theorem Md{f:fC}(X:Old S w)(hf:eG w S vn vb vs f)(PJ:e8 f=0)(QC:FrS f):
  eI PG F'.top_table #[.agg #[vn,vb,vs]] w (eO w fun v' V=>∃vm,v'= .tuple #[vm,.bool true]/\GU V w.heap.size [(w.heap.size,V.heap.size)] vm (cT f)):=by
 have I:=bR w;have hv:=QC.toFrV;obtain⟨an,cn,ab,cb,aq,cq,rfl,rfl,rfl,RR,Rk,SM⟩:=hf.shape;obtain⟨SH,S1,S2⟩:=And.intro hv.n (And.intro hv.b hv.s);have Pp:f.cols=f.bars.length+f.cZ.length:=rfl;have hZl:(gZ f).length=3*f.nodes.length:=j9 f _;refine Dt (by simp) ?_;conv=>whnf
 refine cJ (cE I (fun _ J v V=>∃vz,v= .tuple #[vz,.int .i64 0]/\k6 V (Nf J V) vz (gZ f)) (fun O J r=>(Hm (S:=S) (oS X r) (hf.cK (kS I r X)) (fun _=>QC)).mono fun _ _ ⟨v2,e1,e2,e3⟩=>⟨v2,e1,e2,e3.elim (fun h=>absurd PJ h.1) fun h=>h.2⟩) ?_);rintro O _ _ _ Oo r U I h_ ⟨vz,rfl,R⟩;have hM:=k6.dK (S:=FF) R r.cI (mN h_);clear r;clear R;obtain⟨am,cm,rfl,-,SC⟩:=dC.shape hM;have PH:=HR hv;obtain⟨F8,hZ⟩:∃F8,gZ f=F8:=⟨_,rfl⟩
 have htab:cT f=F8.map dI:=by rw[cT,hZ]
 have Um:∀l∈F8,l.length=f.cols:=by rw[<-hZ];exact kR f _
 rw[hZ]at hM PH hZl SC ⊢;conv=>whnf
 refine⟨((3*f.nodes.length:Nat):Int),wo,?_⟩;conv=>whnf
 refine dQ.mk (fun hd=>absurd (show (F8.length:Int)=((3*f.nodes.length:Nat):Int) by omega) (by simpa using hd)) (fun _=>?_);conv=>whnf
 refine⟨Nat×List Value×World×Iv,fun z=>⟨[(1,pP 0 0),(4,sV am F8.length cm),(6,.o (.w 1 z.2.1.length)),(7,iN z.1)],[(1,.vec T.iB 1 z.2.1),(0,.box T.Frame [.v (.slice an f.nodes.length cn),.v (.slice ab f.bars.length cb),.v (.slice aq f.cZ.length cq)])],2,z.2.2.2,z.2.2.1⟩,fun z=>F8.length-z.1,
  fun z=>z.1<=F8.length/\dw w.heap.size w z.2.2.1/\k6 z.2.2.1 (Cf w z.2.2.2) (.slice am F8.length cm) F8/\dS z.2.2.1 (Cf w z.2.2.2) z.2.1 ((F8.take z.1).map dI),?_,?_⟩
 ·intro O J r;exact⟨(0,[],J,_),⟨aQ _,I.tr r.cU,k6.rel hM r (cH w),by simp[dS]⟩,Sub.nil 6 T.iB 1 rfl (by simp[jw,SV.sc,At.sc,fW]) r fun Id r1=>Sub.gn [] r1⟩
 clear I hM;rintro⟨i,rv,w1,iv⟩ ⟨A,I,hM,hK⟩;dsimp only at A I hM hK ⊢;have Po:rv.length=i:=by rw[hK.1,aJ,aX];omega
 conv=>whnf
 refine dQ.mk ?_ ?_<;>intro OZ
 ·have OZ:i<F8.length:=by simpa using OZ
  obtain⟨l,hl⟩:∃x,F8[i]? =some x:=⟨_,aA OZ⟩
  have hlw:=Um l (aC hl);obtain⟨adm,um,Rn,Pj,km1,km2⟩:=dC.load hM hl;obtain⟨al,cl,rfl,-,RM⟩:=Pj.shape;conv=>whnf
  refine cR hτ dx [.x 0,.x 1,.x 2,.x 3,.x 4,.x 5,.x 6,.x 7] (by kernel_rfl) (by kernel_rfl) ?_;conv=>whnf
  refine⟨adm,Rn,by omega,?_⟩;conv=>whnf
  refine⟨.slice al l.length cl,fun O J r=>?_,?_⟩
  ·rw[aE,cL (w:=w1) (V:=J) (by rw[dF];exact Rel.same r (cH w) km1)];exact km2
  conv=>whnf
  clear Pj km1 km2;refine cE I (fun _ J v V=>v= .int .i64 f.cols) (fun O J r=>my (hf.cK (kS I r X)) ⟨S1,S2⟩) ?_;rintro O _ _ _ Od r U I h_ rfl;replace hM:=k6.cM hM r (cH w) U (mC h_);replace hK:=hK.cM r (cH w) U (mC h_);clear r;conv=>whnf
  refine dQ.mk (fun hd=>absurd (show (l.length:Int)=(f.cols:Int) by omega) (by simpa using hd)) (fun _=>?_);conv=>whnf
  refine⟨Nat×List (List Value)×World×Iv,fun z=>⟨[(1,pP 0 0),(4,sV am F8.length cm),(6,.o (.w 1 rv.length)),(7,iN i),(8,.o (.w 2 z.2.1.length)),(9,iN z.1)],[(2,.vec T.Rat 4 z.2.1.flatten),(1,.vec T.iB 1 rv),(0,.box T.Frame [.v (.slice an f.nodes.length cn),.v (.slice ab f.bars.length cb),.v (.slice aq f.cZ.length cq)])],3,z.2.2.2,z.2.2.1⟩,fun z=>l.length-z.1,
   fun z=>z.1<=l.length/\dw w.heap.size w z.2.2.1/\k6 z.2.2.1 (Cf w z.2.2.2) (.slice am F8.length cm) F8/\dS z.2.2.1 (Cf w z.2.2.2) rv ((F8.take i).map dI)/\eS z.2.2.1 (Cf w z.2.2.2) z.2.1 (dI (l.take z.1)),?_,?_⟩
  ·intro O J r;exact⟨(0,[],J,_),⟨aQ _,I.tr r.cU,k6.rel hM r (cH w),hK.rel r (cH w),eS.nil⟩,Sub.nil 8 T.Rat 4 rfl (by simp[jw,SV.sc,At.sc,fW]) r fun Id r1=>Sub.gn [] r1⟩
  clear I hM hK;rintro⟨k,Z,w3,iv⟩ ⟨D,I,hM,hK,hG⟩;dsimp only at D I hM hK hG ⊢;have PL:=ef hG.four;have Wt:Z.length=k:=by rw[hG.len,dI,aJ,aX];omega
  obtain⟨adm,um,Rn,Pj,km1,km2⟩:=dC.load hM hl;obtain⟨al2,cl2,rfl,-,hml2⟩:=Pj.shape;conv=>whnf
  refine⟨adm,Rn,by omega,?_⟩;conv=>whnf
  refine⟨.slice al2 l.length cl2,fun O J r=>?_,?_⟩
  ·rw[aE,cL (w:=w3) (V:=J) (by rw[dF];exact Rel.same r (cH w) km1)];exact km2
  conv=>whnf
  refine dQ.mk ?_ ?_<;>intro Oj
  ·have Oj:k<l.length:=by simpa using Oj
   obtain⟨z,hz⟩:∃x,l[k]? =some x:=⟨_,aA Oj⟩
   have Ul:=PH l (aC hl) z (aC hz);obtain⟨adx,QE,hSx,PU⟩:=Hb.at Pj hz;conv=>whnf
   refine⟨adm,Rn,by omega,?_⟩;conv=>whnf
   refine⟨.slice al2 l.length cl2,fun O J r=>?_,?_⟩
   ·rw[aE,cL (w:=w3) (V:=J) (by rw[dF];exact Rel.same r (cH w) km1)];exact km2
   conv=>whnf
   refine⟨adx,QE,by omega,?_⟩;conv=>whnf
   refine⟨.int .i64 z,fun O J r=>?_,?_⟩
   ·rw[aE,cL (w:=w3) (V:=J) (by rw[dF];exact Rel.same r (cH w) hSx)];exact PU
   conv=>whnf
   clear Pj km1 km2 hSx PU;refine cJ (cE I (fun _ J v V=>dA V (Nf J V) v (z:Rat)) (fun O J r=>ki z J (by omega)) ?_);rintro O _ _ _ Oq r U I h_ R;replace hM:=k6.cM hM r (cH w) U (mC h_);replace hK:=hK.cM r (cH w) U (mC h_);replace hG:=hG.cM r (cH w) U (mC h_);have hd:=R.dK (S:=FF) r.cI (mN h_);clear r;obtain⟨A0,A1,A2,A3,A4,A5,A6,A7,rfl⟩:=hd.shape;conv=>whnf
   have UP:=hG.push (W:=[.bool A0,.slice A1 A2 A3,.bool A4,.slice A5 A6 A7]) (q:=(z:Rat)) ⟨_,_,_,_,_,_,_,_,rfl,hd⟩ rfl;rw[<-pG hz]at UP;have Qc:Z.flatten++([.bool A0,.slice A1 A2 A3,.bool A4,.slice A5 A6 A7]:List Value)=(Z++([[.bool A0,.slice A1 A2 A3,.bool A4,.slice A5 A6 A7]]:List (List Value))).flatten:=by simp
   refine .inl ?_;conv=>whnf
   refine⟨by omega,by omega,by unfold maxLen;omega,?_⟩;conv=>whnf
   refine⟨((k+1:Nat):Int),wo,?_⟩;conv=>whnf
   intro GT w6 E;exact⟨(k+1,Z++[[.bool A0,.slice A1 A2 A3,.bool A4,.slice A5 A6 A7]],w6,_),⟨Oj,I.tr E.cU,k6.rel hM E (cH w),hK.rel E (cH w),UP.rel E (cH w)⟩,Sub.gn [(2,4)] E ⟨by dsimp only;rw[<-Qc];rfl,rfl,rfl,trivial⟩ ⟨rfl,rfl,rfl,rfl,by dsimp only;rw[List.length_append,List.length_singleton];rfl,rfl,trivial⟩,by dsimp only;omega⟩
  have Oj:k=l.length:=aR D (by simpa using Oj);have Tv:dI (l.take k)=dI l:=by rw[Oj,bA]
  rw[Tv]at hG;clear Pj km1 km2;conv=>whnf
  refine lQ hτ (id3:=3) (id2:=2) (tH:=[(1,.vec T.iB 1 rv),(0,.box T.Frame [.v (.slice an f.nodes.length cn),.v (.slice ab f.bars.length cb),.v (.slice aq f.cZ.length cq)])]) rfl rfl rfl rfl (by simp) (by first|exact⟨rfl,trivial⟩|exact⟨rfl,rfl,trivial⟩) rfl rfl (fun O J r r2 SI=>?_);have Oa:=eS.list ((hG.rel r (cH w)).cN fun g Y=>Cv.mono (K:=((O 3).g,(O 3).g+1)::jf (O 2) iv) Y fun p hp=>aB _ (kN p hp)) ((r.Hh (id:=2) (sz:=4) (m:=Z.length) rfl PL (by unfold maxLen;omega) (by decide) hG.one).cN fun g Y=>Cv.mono Y fun p hp=>aB _ hp);have PZ:((At.w 2 Z.length).den O).oneCell'=true:=At.Iw;have Rb:=r.low 3 _ rfl (r.fits (id:=3) rfl).1;have hC3:Cf w (((O 3).g,(O 3).g+1)::jf (O 2) iv) (O 3).g:=.inr ⟨Rb.1,_,_,aF,Nat.le_refl _,bQ _⟩;have Ol:∀p,p∈iv->p∈((O 3).g,(O 3).g+1)::jf (O 2) iv:=fun p hp=>aB _ (kN p hp);have PE:=I.tr r.cU;have Vi:=(hK.rel r (cH w)).cN fun g Y=>Cv.mono Y Ol;have hM1:=k6.cN (k6.rel hM r (cH w)) fun g Y=>Cv.mono Y Ol;clear r2 Rb;generalize (At.w 2 Z.length).den O=ur at*
  generalize (O 3).g=gy at*
  generalize (gy,gy+1)::jf (O 2) iv=Od at*
  conv=>whnf
  refine⟨[ur],rfl,by simpa using PZ,fun GE V r2 _=>⟨_,rfl,fun j u hu=>?_⟩,?_⟩
  ·have h5:=Rel.same r2 (gY _) hC3;rw[dL,cell_of (h5.trans SI)];rcases j with _|j
   ·exact hu
   ·cases hu
  conv=>whnf
  refine⟨by simp,by omega,by unfold maxLen;omega,?_⟩;conv=>whnf
  have Qh:=Vi.push PZ Oa;rw[show (F8.take i).map dI++[dI l]=(F8.take (i+1)).map dI by rw[List.take_add_one,hl];simp]at Qh;refine⟨((i+1:Nat):Int),wo,?_⟩;conv=>whnf
  intro GT w6 E;exact⟨(i+1,rv++[ur],w6,_),⟨OZ,PE.tr E.cU,k6.rel hM1 E (cH w),Qh.rel E (cH w)⟩,Sub.gn [(1,4)] E (hE:=⟨rfl,rfl,by dsimp only;rw[List.length_append,List.length_singleton];rfl,rfl,trivial⟩),by dsimp only;omega⟩
 have OZ:i=F8.length:=aR A (by simpa using OZ);rw[OZ,bA]at hK;rw[htab];conv=>whnf
 intro IR we re;refine⟨_,rfl,I.tr re.cU,_,rfl,⟨rv,by rw[<-hK.1];exact vE (zO re (id:=1) rfl (by simp) (by decide)),hK.1,hK.2.1,fun i u x k1 k2=>cS.cN (cS.cK (hK.2.2 i u x k1 k2) fun g Y=>Rel.same re (cH w) Y) fun g Y=>⟨Y.fin re,fun e=>Rel.not re (cH w) Y 1 _ rfl (DI e).1 (DI e).2⟩⟩,fun g e=>?_⟩;have hl:=re.low 1 _ rfl (DI e).1;rw[(DI e).2]at hl;exact .inr ⟨hl.1,_,_,bD.2 rfl,hl.1,hl.2⟩
section
variable{M:List (List Rat)}{b:List Rat}{n:Nat}
theorem Lx(hl:fZ n M)(hz:∀k,(cQ (gO M b) n).2.length<=k->k<M.length->dD (cQ (gO M b) n).1 k n=0):fM M b n=some (fE (cQ (gO M b) n).1 (cQ (gO M b) n).2 n (cQ (gO M b) n).2.length):=by
 unfold fM;rw[sF hl];dsimp only
 rw[if_pos fun j hj h=>by rw[ve (bQ n)];exact hz j h hj,Je]
theorem Ly(hl:fZ n M){j:Nat}(hj:(cQ (gO M b) n).2.length<=j)(Tj:j<M.length)(h0:dD (cQ (gO M b) n).1 j n≠0):fM M b n=none:=by
 unfold fM;rw[sF hl];dsimp only
 rw[aH fun h=>h0 (by have:=h j Tj hj;rwa [ve (bQ n)]at this)]
end
section
variable{f:fC}{l:List Ld}
end
end Go.Ex
