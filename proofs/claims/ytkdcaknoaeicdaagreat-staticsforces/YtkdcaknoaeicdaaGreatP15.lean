/- Texts X193 to X197: lemmas, each with its conditions. -/
import Derived.Test.YtkdcaknoaeicdaaGreatP14
namespace Go.Ex
open Go Go.Sx Go.Proofs
end Go.Ex
namespace Go.Sx
open Go Go.Ex Go.Proofs
variable{cs:List Value}{T:Nat->Prop}{O:Nat->Sx.dg}
theorem Rel.ua{H:Hp}{nx:Nat}{iv:Iv}{B:Nat}{w w':World}(r:Rel H nx iv B w O w'){id t m sz:Nat}(h:dC H id=some (.vec t sz cs))(hm:cs.length=m*sz)(Ri:m<=maxLen)(hs:0<sz)(h1:∀u∈cs,u.oneCell'=true)(hT:(O id).nil=false->T (O id).g):
  iM w' T sz ((At.w id m).den O) cs m:=by
 rcases r.fits h with⟨hn,rfl⟩|⟨hn,spare,h2,h3,h4⟩
 ·have St:m=0:=by
   rcases bK m with h|h
   ·exact h
   ·have:=Nat.mul_pos h hs;simp at hm;omega
  subst St;have Qf:(At.w id 0).den O= .slice none 0 0:=by simp[At.den,hn]
  rw[Qf];exact⟨aP _,by simp,by simp,none,0,rfl,aF _,fun j u h=>by cases h⟩
 ·have Qf:(At.w id m).den O= .slice (some ⟨(O id).g,0,none⟩) m (O id).cap:=by simp[At.den,hn]
  rw[Qf];refine⟨Ri,hm,h1,_,_,rfl,?_,fun j u hu=>⟨_,rfl,hT hn,?_⟩⟩
  ·rw[List.length_append,hm]at h3;exact bm (show m*sz<=(O id).cap*sz by omega) hs
  ·rw[dW,cell_of h2,aR,aK (aD.1 hu).1];exact hu
end Go.Sx
namespace Go.Ex
open Go Go.Sx Go.Proofs
variable{p:List Rat}{g:Nat}{S T:Nat->Prop}
section
variable{S:Nat->Prop}{H:Hp}{nx:Nat}{iv iv':Iv}{B n:Nat}{w w' w2:World}{O:Nat->Sx.dg}{v:Value}{qs:List Rat}
theorem Bs.fresh(r:Rel H nx iv B w O w')(hx:∀g,v.ownBlock=some g->g<w'.heap.size)(hg:Nf w' w2 g):Bs S B ((w'.heap.size,w2.heap.size)::iv) v g:=by
 rcases hg with hg|hg
 ·exact hg.elim
 ·exact⟨.inr ⟨by have:=r.cD;omega,_,_,aG,hg.1,hg.2⟩,fun e=>by have:=hx g e;omega⟩
theorem Bs.solved(r:Rel H nx iv B w O w')(hx:∀g,v.ownBlock=some g->g<w'.heap.size)(hT:∀g,T g->Bs S B iv v g)(hg:Cv T w'.heap.size [(w'.heap.size,w2.heap.size)] g):Bs S B ((w'.heap.size,w2.heap.size)::iv) v g:=by
 rcases hg with hg|⟨h1,lo,hi,h2,h3,h4⟩
 ·exact Bs.mono (fun p hp=>List.mem_cons_of_mem _ hp) (hT g hg)
 ·simp at h2;obtain⟨rfl,rfl⟩:=h2;exact Bs.fresh r hx (.inr ⟨h3,h4⟩)
end
section
variable{S:Nat->Prop}{H:Hp}{nx:Nat}{iv iv':Iv}{B:Nat}{w w' w2:World}{O:Nat->Sx.dg}{v v0:Value}{q:Rat}
theorem mF.rel(h:cU w (Bs S B iv v) v0 q)(r:Rel H nx iv B w O w')(hS:∀g,S g->g<B):cU w' (Bs S B iv v) v0 q:=cU.cH h (Bs.same r hS)
theorem mF.fresh(h:cU w2 (Nf w' w2) v0 q)(r:Rel H nx iv B w O w')(hx:∀g,v.ownBlock=some g->g<w'.heap.size):cU w2 (Bs S B ((w'.heap.size,w2.heap.size)::iv) v) v0 q:=cU.cI h fun _ hg=>Bs.fresh r hx hg
theorem mF.cv(h:cU w (Bs S B iv v) v0 q):cU w (Cv S B iv) v0 q:=cU.cI h fun _ hg=>hg.1
end
section
variable{S:Nat->Prop}{H:Hp}{nx:Nat}{iv iv':Iv}{B:Nat}{w w' w2:World}{O:Nat->Sx.dg}{v v0:Value}{K:List (List Rat)}
theorem gH.rel(h:cQ w (Bs S B iv v) v0 K)(r:Rel H nx iv B w O w')(hS:∀g,S g->g<B):cQ w' (Bs S B iv v) v0 K:=cQ.cH h (Bs.same r hS)
theorem gH.cF(h:cQ w (Bs S B iv v) v0 K)(r:Rel H nx iv B w O w')(hS:∀g,S g->g<B)(he:Ext w' w2)(hm:∀p,p∈iv->p∈iv'):cQ w2 (Bs S B iv' v) v0 K:=
 cQ.cI (cQ.cH (gH.rel h r hS) fun g hg=>he.block g (Rel.old r hS g hg.1)) fun _ hg=>Bs.mono hm hg
theorem gH.fresh(h:cQ w2 (Nf w' w2) v0 K)(r:Rel H nx iv B w O w')(hx:∀g,v.ownBlock=some g->g<w'.heap.size):cQ w2 (Bs S B ((w'.heap.size,w2.heap.size)::iv) v) v0 K:=cQ.cI h fun _ hg=>Bs.fresh r hx hg
theorem gH.kept(h:cQ w (Bs S B iv v) v0 K)(r:Rel H nx iv B w O w')(hS:∀g,S g->g<B)(hg:w'.grownBy w2 v.ownBlock):cQ w2 (Bs S B iv v) v0 K:=cQ.cH h (Bs.kept r hS hg fun _ e=>e)
end
section
variable{S:Nat->Prop}{H:Hp}{nx:Nat}{iv iv':Iv}{B:Nat}{w w' w2:World}{O:Nat->Sx.dg}{v v0:Value}{xs:List Rat}
theorem e8.rel(h:cJ w (Bs S B iv v) v0 xs)(r:Rel H nx iv B w O w')(hS:∀g,S g->g<B):cJ w' (Bs S B iv v) v0 xs:=cJ.cH h (Bs.same r hS)
theorem e8.cF(h:cJ w (Bs S B iv v) v0 xs)(r:Rel H nx iv B w O w')(hS:∀g,S g->g<B)(he:Ext w' w2)(hm:∀p,p∈iv->p∈iv'):cJ w2 (Bs S B iv' v) v0 xs:=
 cJ.cI (cJ.cH (e8.rel h r hS) fun g hg=>he.block g (Rel.old r hS g hg.1)) fun _ hg=>Bs.mono hm hg
theorem e8.fresh(h:cJ w2 (Nf w' w2) v0 xs)(r:Rel H nx iv B w O w')(hx:∀g,v.ownBlock=some g->g<w'.heap.size):cJ w2 (Bs S B ((w'.heap.size,w2.heap.size)::iv) v) v0 xs:=cJ.cI h fun _ hg=>Bs.fresh r hx hg
theorem e8.cv(h:cJ w (Bs S B iv v) v0 xs):cJ w (Cv S B iv) v0 xs:=cJ.cI h fun _ hg=>hg.1
theorem e8.kept(h:cJ w (Bs S B iv v) v0 xs)(r:Rel H nx iv B w O w')(hS:∀g,S g->g<B)(hg:w'.grownBy w2 v.ownBlock):cJ w2 (Bs S B iv v) v0 xs:=cJ.cH h (Bs.kept r hS hg fun _ e=>e)
end
section
variable{S:Nat->Prop}{H:Hp}{nx:Nat}{iv iv':Iv}{B:Nat}{w w' w2:World}{O:Nat->Sx.dg}{v v0:Value}{rv:List Value}{K:List (List Rat)}
theorem nE.rel(h:dR w (Bs S B iv v) rv K)(r:Rel H nx iv B w O w')(hS:∀g,S g->g<B):dR w' (Bs S B iv v) rv K:=dR.cH h (Bs.same r hS)
theorem nE.cF(h:dR w (Bs S B iv v) rv K)(r:Rel H nx iv B w O w')(hS:∀g,S g->g<B)(he:Ext w' w2)(hm:∀p,p∈iv->p∈iv'):dR w2 (Bs S B iv' v) rv K:=
 dR.cI (dR.cH (nE.rel h r hS) fun g hg=>he.block g (Rel.old r hS g hg.1)) fun _ hg=>Bs.mono hm hg
end
section
variable{S:Nat->Prop}{H:Hp}{nx:Nat}{iv iv':Iv}{B:Nat}{w w' w2:World}{O:Nat->Sx.dg}{v v0:Value}{css:List (List Value)}{xs:List Rat}
theorem jn.rel(h:eD w (Bs S B iv v) css xs)(r:Rel H nx iv B w O w')(hS:∀g,S g->g<B):eD w' (Bs S B iv v) css xs:=eD.cH h (Bs.same r hS)
theorem jn.cF(h:eD w (Bs S B iv v) css xs)(r:Rel H nx iv B w O w')(hS:∀g,S g->g<B)(he:Ext w' w2)(hm:∀p,p∈iv->p∈iv'):eD w2 (Bs S B iv' v) css xs:=
 eD.cI (eD.cH (jn.rel h r hS) fun g hg=>he.block g (Rel.old r hS g hg.1)) fun _ hg=>Bs.mono hm hg
end
theorem Fq{st:List (List Rat)}{c x:List Rat}{a b:Nat}(hx:∀q∈x,rl q<=a)(hs:∀r∈st,∀q∈r,rl q<=b)(hc:∀q∈c,rl q<=b):∀i,∀q∈kU st c x i,rl q<=a+i*(2*b+5)
 |0,q,hq=>by have:=hx q hq;omega
 |i+1,q,hq=>by
  rw[kU]at hq;obtain⟨k,hk⟩:=aS hq;rw[List.getElem?_mapIdx]at hk;obtain⟨p,hp,rfl⟩:=Option.map_eq_some_iff.1 hk;have h1:=Fq hx hs hc i p (aC hp);have h0:rl 0<=2:=by decide
  have h2:rl (c.getD i 0)<=b+2:=by
   rcases aO i c.length with h|h
   ·rw[getD_some (aB h)];have:=hc _ (aX h);omega
   ·rw[iH h];omega
  have h3:rl ((st.getD i []).getD k 0)<=b+2:=by
   rcases aO i st.length with h|h
   ·rw[getD_some (d:=[]) (aB h)];rcases aO k (st[i]).length with h4|h4
    ·rw[getD_some (aB h4)];have:=hs _ (aX h) _ (aX h4);omega
    ·rw[iH h4];omega
   ·rw[show st.getD i []=[] by rw[List.getD,List.getElem?_eq_none h];rfl];exact aZ h0 (Nat.le_add_left _ _)
  have h4:=oO p (c.getD i 0*(st.getD i []).getD k 0);have h5:=j0 (c.getD i 0) ((st.getD i []).getD k 0);rw[Nat.add_mul];omega
set_option maxHeartbeats 2000000 in
set_option maxRecDepth 8000 in
theorem JU{w:World}{vn vb vs u:Value}{f:eh}(hS:Old S w)(hf:dS w S vn vb vs f)(Oh:eV f=0)(PF:rO f)(hp:cJ w S u p)(PN:p.length=3*f.nodes.length)(UY:∀q∈p,rl q<=100000)(hb:Bl (cX p (-1))):
  di PG N.lZ #[.agg #[vn,vb,vs],u] w (dw w fun v' w2=>(fD (cO f) (cX p (-1)) f.cols=none∧v'= .tuple #[.slice none 0 0,.bool false])∨∃x vx,jt (cO f) f.cols (fun t=>(cW f).getD t 0) (cX p (-1)) x∧v'= .tuple #[vx,.bool true]∧cJ w2 (Nf w w2) vx x):=by
 have hw:=bR w;obtain⟨an,cn,ab,cb,aq,cq,rfl,rfl,rfl,Q6,Qm,RH⟩:=hf.shape;have OI:=mS Oh;have hlen:=ed f;have Qe:=fc f;have Uk:=PF.Lw;have S8:=PF.Ka;have OY:=lF f;have PT:f.cols=f.bars.length+f.cV.length:=rfl;obtain⟨ap,cp,rfl,WC,hmp⟩:=cY.shape hp;have Pg:(cX p (-1)).length=(cO f).length:=by rw[cX,aJ,Qe];exact PN
 have hw0:=PF.Cx hb;have OQ:=PF.Ez (b:=cX p (-1));refine mg (by simp) ?_;refine cC (cE hw (fun _ w' v w2=>(∃vr,v= .agg #[vr,.int .i64 f.cols]∧cQ w2 (Nf w' w2) vr (cO f))∧fg f.cols (cO f)∧Ht (cO f) 2) (fun O w' r=>ll (S:=S) (oS hS r) (hf.cH (kS hw r hS)) OI) ?_);rintro O _ _ _ OM r he hw h_ ⟨⟨vr,rfl,k1⟩,-,-⟩;have hM:=cQ.dA (S:=FF) k1 r.cD (mN h_);clear r;obtain⟨am,cm,rfl,Rb,RD⟩:=dD.shape hM;refine cK hτ dZ [.x 0,.x 1,.x 2,.x 3,.x 4,.x 5,.x 6,.x 7,.x 8,.x 9] (by kernel_rfl) (by kernel_rfl) ?_;refine cE hw (fun _ w' v w2=>cU w2 (Nf w' w2) v ((-1:Int):Rat)) (fun O w' r=>k5 (-1) w' (by decide) (by decide)) ?_;rintro O _ v2 _ OJ r he hw h_ hn;replace hM:=cQ.cF hM r (cB w) he (mC h_);have hd:=hn.dA (S:=FF) r.cD (mN h_);clear r;obtain⟨A0,A1,A2,A3,A4,A5,A6,A7,rfl⟩:=hd.shape;refine cE hw (fun _ w' v w2=>dP w2 FF w'.heap.size [(w'.heap.size,w2.heap.size)] v p.length (cX p (-1))) (fun O w' r=>vv (S:=Cv S w.heap.size OJ) (Rel.old r hS) (cR.cI (cJ.l (cJ.cH hp (kS hw r hS)) fun q hq=>by have:=UY q hq;omega) fun g hg=>.inl hg) (((hd.rel r (cB w)).l (by decide)).cI fun g hg=>ui hg) (by omega)) ?_;rintro O _ _ _ OP r he hw h_ hn;replace hM:=cQ.cF hM r (cB w) he (mC h_);clear hd;have hB:=hn.dA (S:=FF) r.cD (mN h_);clear r;clear hn;obtain⟨a3,c3,rfl,hc3⟩:=hB.row.form;refine cM (Φ:=fun _ w' v w2=>(fD (cO f) (cX p (-1)) f.cols=none∧v= .tuple #[.slice none 0 0,.bool false])∨∃x vx,fD (cO f) (cX p (-1)) f.cols=some x∧v= .tuple #[vx,.bool true]∧dP w2 (Cf w OP) w'.heap.size [(w'.heap.size,w2.heap.size)] vx f.cols x) (fun O w' r=>Bn (M:=cO f) (b:=cX p (-1)) hlen hw0▸uS (C:=Cf w OP) (S:=Cf w OP) (h:=30) (Rel.old r (cB w)) (Rel.old r (cB w)) (cQ.rel hM r (cB w)) ((hB.rel r (cB w)).c) Pg hlen (by omega) (by omega) (u9 (ga hlen) hw0 lV (by rw[tV]at *;omega)) (by decide)) ?_;rintro O QB v4 Pw r he hb (⟨R9,rfl⟩|⟨x0,vx,R0,rfl,k2⟩)
 ·replace hw:=hw.tr hb;clear r he hb;exact rtn hw fun ρe we re=>.inl ⟨R9,rfl⟩
 replace hw:=hw.tr hb;replace hM:=cQ.cF (iv':=(QB.heap.size,Pw.heap.size)::OP) hM r (cB w) he fun x hx=>List.mem_cons_of_mem _ hx;have hX:=k2.Np r.cD;clear r he hb k2 hB;generalize (QB.heap.size,Pw.heap.size)::OP=OR at*
 obtain⟨ax,cx,rfl,Sl⟩:=hX.row.form;obtain⟨hx0l,-⟩:=jz hlen R0;have hx0D:=PF.aAV hb R0;have Ve:∀q∈x0,rl q<=26:=fun q hq=>by
  obtain⟨D,hD⟩:=hx0D;have h1:=hD.rl q hq;have h2:ln (wt 25)<=26:=gI.2 (Hf (by decide));omega
 have hw1:=PF.Kd hx0D;have OU:=PF.Hy (b:=gf (cS (cO f) f.cols) (cW f) x0);obtain⟨c,hc,PV,Vf⟩:=PF.xV.force (fl:=cW f) R0;have Sk:=PF.Ng hx0D hc;have Vg:∀r∈cS (cO f) f.cols,∀q∈r,rl q<=14:=fun r hr q hq=>by
  obtain⟨D,hD⟩:=PF.ker;have h1:=hD.rl r hr q hq;have h2:ln (wt 13)<=14:=gI.2 (Hf (by decide));omega
 have Vh:=ic (cO f) f.cols;have hK18:=PF.Hx;have hSl:=oL (cS (cO f) f.cols) (cW f);have hfx:=PF.fx;have TE:=Bn (M:=eU (cS (cO f) f.cols) (cW f)) (b:=gf (cS (cO f) f.cols) (cW f) x0) hSl hw1;rw[hc]at TE;have hredB:=u9 (M:=dJ (eU (cS (cO f) f.cols) (cW f)) (gf (cS (cO f) f.cols) (cW f) x0)) (h:=1930) (ga hSl) hw1 lV (by omega);refine cK hτ dZ [.x 0,.x 2,.x 1,.x 3,.x 4,.x 5] (by kernel_rfl) (by kernel_rfl) ?_;refine cM (Φ:=fun _ w' v w2=>cQ w2 (Nf w' w2) v (cS (cO f) f.cols)) (fun O w' r=>zO (M:=cO f) (n:=f.cols) hlen PF.mT▸Ab (C:=Cf w OR) (S:=Cf w OR) (h:=20) (Rel.old r (cB w)) (Rel.old r (cB w)) (cQ.rel hM r (cB w)) hlen (by omega) (by omega) (u9 hlen PF.mT (by decide) (by have:=PF.size;omega)) (Ac hlen PF.mT (by decide) (by have:=PF.size;omega)) (by decide)) ?_;rintro O RL v5 RI r he Of hn;replace hw:=hw.tr Of;have Q2:∀g,(Value.slice ax f.cols cx).ownBlock=some g->g<RL.heap.size:=fun g e=>Rel.old r (cB w) g (hX.new g e);clear hM;replace hX:=hX.cF (iv':=(RL.heap.size,RI.heap.size)::OR) r (cB w) he fun x hx=>List.mem_cons_of_mem _ hx;have hK:=gH.fresh (S:=FF) (v:=(.slice ax f.cols cx)) hn r Q2;clear r he Of Q2 hn;generalize (RL.heap.size,RI.heap.size)::OR=Ou at*
 obtain⟨ak,ck,rfl,hck,TU⟩:=dD.shape hK;refine cM (Φ:=fun _ w' v w2=>cR w2 (Nw S w' w2) v (cW f)) (fun O w' r=>qv (S:=S) (oS hS r) (hf.cH (kS hw r hS)) OI) ?_;rintro O Qx v6 RA r he Of hn;replace hw:=hw.tr Of;have Q2:∀g,(Value.slice ax f.cols cx).ownBlock=some g->g<Qx.heap.size:=fun g e=>Rel.old r (cB w) g (hX.new g e);replace hX:=hX.cF (iv':=(Qx.heap.size,RA.heap.size)::Ou) r (cB w) he fun x hx=>List.mem_cons_of_mem _ hx;replace hK:=gH.cF (iv':=(Qx.heap.size,RA.heap.size)::Ou) hK r (cB w) he fun x hx=>List.mem_cons_of_mem _ hx;have hL:=cR.cI (S':=Cv S w.heap.size ((Qx.heap.size,RA.heap.size)::Ou)) hn fun g hg=>hg.elim .inl fun h=>.inr ⟨by have:=r.cD;omega,_,_,aG,h.1,h.2⟩;clear r he Of Q2 hn;generalize (Qx.heap.size,RA.heap.size)::Ou=Q7 at*
 obtain⟨al,cl,rfl,Sy,Ql⟩:=cY.shape hL;rw[OY]
 refine⟨Nat×List Value×List (List Value)×World×Iv,fun z=>⟨[(7,sV ax f.cols cx),(9,.o (.v (.slice ak (cS (cO f) f.cols).length ck))),(10,sV al f.cols cl),(11,pP 2 0),(43,.o (.v (.slice ak (cS (cO f) f.cols).length ck))),(44,.o (.v (.int .i64 (cS (cO f) f.cols).length))),(12,.o (.w 4 z.2.2.1.length)),(45,iN z.1)],[(2,.box T.dc [.w 3 z.2.1.length,.v (.int .i64 (cS (cO f) f.cols).length)]),(3,.vec T.fU 1 z.2.1),(4,.vec T.Rat 4 z.2.2.1.flatten)],5,z.2.2.2.2,z.2.2.2.1⟩,fun z=>(cS (cO f) f.cols).length-z.1,
  fun z=>z.1<=(cS (cO f) f.cols).length∧dm w.heap.size w z.2.2.2.1∧dP z.2.2.2.1 FF w.heap.size z.2.2.2.2 (.slice ax f.cols cx) f.cols x0∧cQ z.2.2.2.1 (Bs FF w.heap.size z.2.2.2.2 (.slice ax f.cols cx)) (.slice ak (cS (cO f) f.cols).length ck) (cS (cO f) f.cols)∧cR z.2.2.2.1 (Cv S w.heap.size z.2.2.2.2) (.slice al f.cols cl) (cW f)∧dR z.2.2.2.1 (Bs FF w.heap.size z.2.2.2.2 (.slice ax f.cols cx)) z.2.1 ((eU (cS (cO f) f.cols) (cW f)).take z.1)∧eD z.2.2.2.1 (Bs FF w.heap.size z.2.2.2.2 (.slice ax f.cols cx)) z.2.2.1 ((gf (cS (cO f) f.cols) (cW f) x0).take z.1),?_,?_⟩
 ·intro O w' r3;exact⟨(0,[],[],w',_),⟨aP _,hw.tr r3.cP,hX.rel r3 (cB w),gH.rel hK r3 (cB w),by have:=cR.rel hL r3 hS;rw[OY]at this;exact this,by simp[dR],eD.nil⟩,Sub.BK 2 0 T.fU 1 rfl rfl (by simp[jX,SV.sc,At.sc,fT]) r3 fun ρ1 r1=>Sub.nil 12 T.Rat 4 rfl (by simp[jX,SV.sc,At.sc,fT]) r1 fun ρ2 r2=>Sub.gn [] r2⟩
 clear hw hX hK hL;rintro⟨i,rv,rc,w7,iv⟩ ⟨hi,hw,hX,hK,hL,hR,hG⟩;dsimp only at hi hw hX hK hL hR hG ⊢;have Ok:rv.length=i:=by rw[hR.1,aW,eU,aJ];omega
 have hgl:rc.length=i:=by rw[hG.len,aW,gf,aJ];omega
 have hgf:=eN hG.four;refine dM.mk ?_ ?_<;>intro OF
 ·have OF:i<(cS (cO f) f.cols).length:=by have:=aI OF;omega
  obtain⟨s,hs⟩:∃s,(cS (cO f) f.cols)[i]? =some s:=⟨_,aB OF⟩
  have RS:s.length=f.cols:=Vh s (aC hs);have UO:=Vg s (aC hs);obtain⟨adm1,um,ham1,PK,km1,kn1⟩:=dD.load hK hs;obtain⟨as1,cs1,rfl,-,-⟩:=cY.shape PK;obtain⟨bent,S9⟩:∃b,eO s (cW f)=b:=⟨_,rfl⟩
  have SP:bent.length=f.cols:=by rw[<-S9,iD,RS]
  have Rr:∀q∈bent,rl q<=20:=fun q hq=>by
   rw[<-S9]at hq;obtain⟨t,ht⟩:=aS hq;have Tk:t<s.length:=by have:=(aD.1 ht).1;rw[iD]at this;exact this
   have h1:=lW (a:=s) (b:=cW f) Tk;rw[getD_some ht]at h1;have h2:=j0 (s.getD t 0) ((cW f).getD t 0);have h3:=UO (s.getD t 0) (by rw[getD_some (aB Tk)];exact aX _);have h4:=PF.fxD (t:=t) (by omega);rw[h1];omega
  refine⟨adm1,ham1,by omega,.slice as1 s.length cs1,fun O w' r=>?_,?_⟩
  ·rw[aE,cG (w:=w7) (w2:=w') (by rw[dE];exact Rel.same r (cB w) km1.1)];exact kn1
  refine cC (cM (Φ:=fun _ w' v w2=>cJ w2 (Nf w' w2) v bent) (fun O w' r=>(S9▸D2 (S:=Cv S w.heap.size iv) (Rel.old r hS) (cR.cI (cJ.l (e8.cv (e8.rel PK r (cB w))) fun q hq=>by have:=UO q hq;omega) fun g hg=>ui hg) (cR.rel hL r hS) (by rw[RS,OY];exact aF _) (by omega)).mono fun _ _ ⟨v2,e1,e2,e3⟩=>⟨v2,e1,e2,cJ.cI e3.c fun g hg=>hg.elim (fun h=>h.elim) fun⟨_,lo,hi,h2,h3,h4⟩=>by
   simp at h2;obtain⟨rfl,rfl⟩:=h2
   exact .inr ⟨h3,h4⟩⟩) ?_)
  rintro O R7 v8 RN r he Of hn;replace hw:=hw.tr Of;have Q2:∀g,(Value.slice ax f.cols cx).ownBlock=some g->g<R7.heap.size:=fun g e=>Rel.old r (cB w) g (hX.new g e);replace hX:=hX.cF (iv':=(R7.heap.size,RN.heap.size)::iv) r (cB w) he fun x hx=>List.mem_cons_of_mem _ hx;replace hK:=gH.cF (iv':=(R7.heap.size,RN.heap.size)::iv) hK r (cB w) he fun x hx=>List.mem_cons_of_mem _ hx;replace hL:=cR.cF (iv':=(R7.heap.size,RN.heap.size)::iv) hL r hS he fun x hx=>List.mem_cons_of_mem _ hx;replace hR:=nE.cF (iv':=(R7.heap.size,RN.heap.size)::iv) hR r (cB w) he fun x hx=>List.mem_cons_of_mem _ hx;replace hG:=jn.cF (iv':=(R7.heap.size,RN.heap.size)::iv) hG r (cB w) he fun x hx=>List.mem_cons_of_mem _ hx;have hE:=e8.fresh (S:=FF) (v:=(.slice ax f.cols cx)) hn r Q2;clear r he Of Q2 hn;generalize (R7.heap.size,RN.heap.size)::iv=QZ at*
  clear PK;obtain⟨ae,ce,rfl,-,-⟩:=cY.shape hE;rw[SP]
  refine⟨Nat×List (List Value)×World×Iv,fun z=>⟨[(7,sV ax f.cols cx),(9,.o (.v (.slice ak (cS (cO f) f.cols).length ck))),(10,sV al f.cols cl),(11,pP 2 0),(43,.o (.v (.slice ak (cS (cO f) f.cols).length ck))),(44,.o (.v (.int .i64 (cS (cO f) f.cols).length))),(12,.o (.w 4 rc.length)),(45,iN i),(15,sV ae f.cols ce),(52,.o (.v (.slice ak (cS (cO f) f.cols).length ck))),(53,.o (.v (.int .i64 (cS (cO f) f.cols).length))),(16,.o (.w 5 z.2.1.length)),(54,iN z.1)],[(5,.vec T.Rat 4 z.2.1.flatten),(2,.box T.dc [.w 3 rv.length,.v (.int .i64 (cS (cO f) f.cols).length)]),(3,.vec T.fU 1 rv),(4,.vec T.Rat 4 rc.flatten)],6,z.2.2.2,z.2.2.1⟩,fun z=>(cS (cO f) f.cols).length-z.1,
   fun z=>z.1<=(cS (cO f) f.cols).length∧dm w.heap.size w z.2.2.1∧(dP z.2.2.1 FF w.heap.size z.2.2.2 (.slice ax f.cols cx) f.cols x0∧cQ z.2.2.1 (Bs FF w.heap.size z.2.2.2 (.slice ax f.cols cx)) (.slice ak (cS (cO f) f.cols).length ck) (cS (cO f) f.cols)∧cR z.2.2.1 (Cv S w.heap.size z.2.2.2) (.slice al f.cols cl) (cW f)∧dR z.2.2.1 (Bs FF w.heap.size z.2.2.2 (.slice ax f.cols cx)) rv ((eU (cS (cO f) f.cols) (cW f)).take i)∧eD z.2.2.1 (Bs FF w.heap.size z.2.2.2 (.slice ax f.cols cx)) rc ((gf (cS (cO f) f.cols) (cW f) x0).take i)∧cJ z.2.2.1 (Bs FF w.heap.size z.2.2.2 (.slice ax f.cols cx)) (.slice ae f.cols ce) bent)∧eD z.2.2.1 (Bs FF w.heap.size z.2.2.2 (.slice ax f.cols cx)) z.2.1 (((cS (cO f) f.cols).map fun r=>eF bent r f.cols).take z.1),?_,?_⟩
  ·intro O w' r3;exact⟨(0,[],w',_),⟨aP _,hw.tr r3.cP,⟨hX.rel r3 (cB w),gH.rel hK r3 (cB w),cR.rel hL r3 hS,nE.rel hR r3 (cB w),jn.rel hG r3 (cB w),by have:=e8.rel hE r3 (cB w);rw[SP]at this;exact this⟩,eD.nil⟩,Sub.nil 16 T.Rat 4 rfl (by simp[jX,SV.sc,At.sc,fT]) r3 fun ρ2 r2=>Sub.gn [] r2⟩
  clear hw hX hK hL hR hG hE;rintro⟨j,css,w8,iv⟩ ⟨hj,hw,⟨hX,hK,hL,hR,hG,hE⟩,hD⟩;dsimp only at hj hw hX hK hL hR hG hE hD ⊢;have Si:css.length=j:=by rw[hD.len,aW,aJ];omega
  have hdf:=eN hD.four;refine dM.mk ?_ ?_<;>intro Pf
  ·have Pf:j<(cS (cO f) f.cols).length:=by have:=aI Pf;omega
   obtain⟨t,ht⟩:∃s,(cS (cO f) f.cols)[j]? =some s:=⟨_,aB Pf⟩
   have Tk:t.length=f.cols:=Vh t (aC ht);have htr:=Vg t (aC ht);obtain⟨adm2,um2,ham2,PK,km2,kn2⟩:=dD.load hK ht;obtain⟨as2,cs2,rfl,-,-⟩:=cY.shape PK;refine⟨adm2,ham2,by omega,.slice as2 t.length cs2,fun O w' r=>?_,?_⟩
   ·rw[aE,cG (w:=w8) (w2:=w') (by rw[dE];exact Rel.same r (cB w) km2.1)];exact kn2
   refine cC (cM (Φ:=fun _ w' v w2=>cU w2 (Nf w' w2) v (eF bent t f.cols)) (fun O w' r=>SP▸DZ (S:=Cf w iv) (h:=21) (Rel.old r (cB w)) (cJ.l (by have:=e8.cv (e8.rel hE r (cB w));rw[<-SP]at this;exact this) fun q hq=>by have:=Rr q hq;omega) (cJ.l (e8.cv (e8.rel PK r (cB w))) fun q hq=>by have:=htr q hq;omega) (by omega) (fun q hq=>by have:=Rr q hq;omega) (fun q hq=>by have:=htr q hq;omega) (by decide) (by omega)) ?_);rintro O Q1 v9 QU r he Of hn;replace hw:=hw.tr Of;have Q2:∀g,(Value.slice ax f.cols cx).ownBlock=some g->g<Q1.heap.size:=fun g e=>Rel.old r (cB w) g (hX.new g e);replace hX:=hX.cF (iv':=(Q1.heap.size,QU.heap.size)::iv) r (cB w) he fun x hx=>List.mem_cons_of_mem _ hx;replace hK:=gH.cF (iv':=(Q1.heap.size,QU.heap.size)::iv) hK r (cB w) he fun x hx=>List.mem_cons_of_mem _ hx;replace hL:=cR.cF (iv':=(Q1.heap.size,QU.heap.size)::iv) hL r hS he fun x hx=>List.mem_cons_of_mem _ hx;replace hR:=nE.cF (iv':=(Q1.heap.size,QU.heap.size)::iv) hR r (cB w) he fun x hx=>List.mem_cons_of_mem _ hx;replace hG:=jn.cF (iv':=(Q1.heap.size,QU.heap.size)::iv) hG r (cB w) he fun x hx=>List.mem_cons_of_mem _ hx;replace hE:=e8.cF (iv':=(Q1.heap.size,QU.heap.size)::iv) hE r (cB w) he fun x hx=>List.mem_cons_of_mem _ hx;replace hD:=jn.cF (iv':=(Q1.heap.size,QU.heap.size)::iv) hD r (cB w) he fun x hx=>List.mem_cons_of_mem _ hx;have hd:=mF.fresh (S:=FF) (v:=(.slice ax f.cols cx)) hn r Q2;clear r he Of Q2 hn;generalize (Q1.heap.size,QU.heap.size)::iv=Qn at*
   obtain⟨C0,C1,C2,C3,C4,C5,C6,C7,rfl⟩:=hd.shape;clear PK;have hD2:=hD.push (cs:=[.bool C0,.slice C1 C2 C3,.bool C4,.slice C5 C6 C7]) (q:=eF bent t f.cols) ⟨_,_,_,_,_,_,_,_,rfl,hd⟩ rfl;rw[show (((cS (cO f) f.cols).map fun r=>eF bent r f.cols).take j)++[eF bent t f.cols]=((cS (cO f) f.cols).map fun r=>eF bent r f.cols).take (j+1) by rw[List.take_add_one,aM,ht];rfl]at hD2;have QR:css.flatten++([.bool C0,.slice C1 C2 C3,.bool C4,.slice C5 C6 C7]:List Value)=(css++([[.bool C0,.slice C1 C2 C3,.bool C4,.slice C5 C6 C7]]:List (List Value))).flatten:=by simp
   refine .inl ?_;refine⟨by omega,by omega,by unfold maxLen;omega,((j+1:Nat):Int),wo,?_⟩;intro ρ3 w6 r3;exact⟨(j+1,css++[[.bool C0,.slice C1 C2 C3,.bool C4,.slice C5 C6 C7]],w6,_),⟨Pf,hw.tr r3.cP,⟨hX.rel r3 (cB w),gH.rel hK r3 (cB w),cR.rel hL r3 hS,nE.rel hR r3 (cB w),jn.rel hG r3 (cB w),e8.rel hE r3 (cB w)⟩,jn.rel hD2 r3 (cB w)⟩,Sub.gn [(5,7)] r3 ⟨by dsimp only;rw[<-QR];rfl,rfl,rfl,rfl,trivial⟩ ⟨rfl,rfl,rfl,rfl,rfl,rfl,rfl,rfl,rfl,rfl,rfl,by dsimp only;rw[List.length_append,List.length_singleton];rfl,rfl,trivial⟩,by dsimp only;omega⟩
  have Pf:j=(cS (cO f) f.cols).length:=by have:=aH Pf;omega
  rw[Pf,List.take_of_length_le (by rw[aJ];exact aF _)]at hD;have OG:(eU (cS (cO f) f.cols) (cW f)).take i++[((cS (cO f) f.cols).map fun r=>eF bent r f.cols)]=(eU (cS (cO f) f.cols) (cW f)).take (i+1):=by
   rw[List.take_add_one,eU,aM,hs,<-S9,<-RS];rfl
  have hrgt:(gf (cS (cO f) f.cols) (cW f) x0).take i++[-(eF bent x0 f.cols)]=(gf (cS (cO f) f.cols) (cW f) x0).take (i+1):=by
   rw[List.take_add_one,gf,aM,hs,<-S9,<-RS];rfl
  refine sE hτ (id3:=6) (id2:=5) (tH:=[(2,.box T.dc [.w 3 rv.length,.v (.int .i64 (cS (cO f) f.cols).length)]),(3,.vec T.fU 1 rv),(4,.vec T.Rat 4 rc.flatten)]) rfl rfl rfl rfl (by simp) ⟨rfl,rfl,rfl,trivial⟩ rfl rfl (fun O w' r r2 Sz=>?_);have Q3:∀g,(Value.slice ax f.cols cx).ownBlock=some g->∀id b,dC [(6,.box T.fU [.w 5 css.length]),(5,.vec T.Rat 4 css.flatten),(2,.box T.dc [.w 3 rv.length,.v (.int .i64 (cS (cO f) f.cols).length)]),(3,.vec T.fU 1 rv),(4,.vec T.Rat 4 rc.flatten)] id=some b->(O id).nil=false->(O id).g≠g:=fun g e id b h1 h2=>Rel.not r (cB w) (hX.new g e) id b h1 h2;have S7:=r.low 6 _ rfl (r.fits (id:=6) rfl).1;have hB3:Bs FF w.heap.size (((O 6).g,(O 6).g+1)::lN (O 5) iv) (.slice ax f.cols cx) (O 6).g:=⟨.inr ⟨S7.1,_,_,aG,aF _,bZ _⟩,fun e=>Q3 _ e 6 _ rfl (r.fits (id:=6) rfl).1 rfl⟩
  have PI:∀p,p∈iv->p∈((O 6).g,(O 6).g+1)::lN (O 5) iv:=fun p hp=>List.mem_cons_of_mem _ (uu p hp);have WL:=eD.list ((jn.rel hD r (cB w)).cI fun g hg=>Bs.mono PI hg) (r.ua (T:=Bs FF w.heap.size (((O 6).g,(O 6).g+1)::lN (O 5) iv) (.slice ax f.cols cx)) (id:=5) (sz:=4) (m:=css.length) rfl hdf (by unfold maxLen;omega) (by decide) hD.one fun hn=>⟨.inr ⟨(r.low 5 _ rfl hn).1,_,_,List.mem_cons_of_mem _ (EP hn),aF _,bZ _⟩,fun e=>Q3 _ e 5 _ rfl hn rfl⟩);have QQ:((At.w 5 css.length).den O).oneCell'=true:=At.NC;have PE:=hw.tr r.cP;replace hX:dP w' FF w.heap.size (((O 6).g,(O 6).g+1)::lN (O 5) iv) (.slice ax f.cols cx) f.cols x0:=by
   have h1:=hX.rel r (cB w);exact⟨h1.row.cI fun g hg=>⟨hg.1.mono PI,hg.2⟩,fun g hg=>(h1.new g hg).mono PI⟩
  replace hK:=cQ.cI (gH.rel hK r (cB w)) fun g hg=>Bs.mono PI hg;replace hL:=cR.cI (cR.rel hL r hS) fun g hg=>hg.mono PI;replace hR:=dR.cI (nE.rel hR r (cB w)) fun g hg=>Bs.mono PI hg;replace hG:=eD.cI (jn.rel hG r (cB w)) fun g hg=>Bs.mono PI hg;replace hE:=cJ.cI (e8.rel hE r (cB w)) fun g hg=>Bs.mono PI hg;clear r2 S7 hD Q3 hw;generalize (At.w 5 css.length).den O=ur at*
  generalize (O 6).g=gy at*
  generalize (gy,gy+1)::lN (O 5) iv=ivg at*
  clear r;refine⟨[ur],rfl,by simpa using QQ,fun ρ2 w2 r2 _=>⟨_,rfl,fun j u hu=>?_⟩,?_⟩
  ·have h5:=Rel.same r2 (gV _) hB3.1;rw[dW,cell_of (h5.trans Sz)];rcases j with _|j
   ·exact hu
   ·cases hu
  refine⟨by simp,by omega,by unfold maxLen;omega,?_⟩;have Qh:=hR.push QQ WL;rw[OG]at Qh;clear WL hR Sz hB3;rename_i wg _;have hw:=PE;clear PE;refine cC (cM (Φ:=fun _ w' v w2=>cU w2 (Nf w' w2) v (eF bent x0 f.cols)) (fun O w' r=>SP▸DZ (S:=Cf w ivg) (h:=30) (Rel.old r (cB w)) (cJ.l (by have:=e8.cv (e8.rel hE r (cB w));rw[<-SP]at this;exact this) fun q hq=>by have:=Rr q hq;omega) (cJ.l (by have:=(hX.rel r (cB w)).c;rw[<-SP]at this;exact this) fun q hq=>by have:=Ve q hq;omega) (by omega) (fun q hq=>by have:=Rr q hq;omega) (fun q hq=>by have:=Ve q hq;omega) (by decide) (by omega)) ?_);rintro O RO v11 R8 r he Of hn;replace hw:=hw.tr Of;have Q2:∀g,(Value.slice ax f.cols cx).ownBlock=some g->g<RO.heap.size:=fun g e=>Rel.old r (cB w) g (hX.new g e);replace hX:=hX.cF (iv':=(RO.heap.size,R8.heap.size)::ivg) r (cB w) he fun x hx=>List.mem_cons_of_mem _ hx;replace hK:=gH.cF (iv':=(RO.heap.size,R8.heap.size)::ivg) hK r (cB w) he fun x hx=>List.mem_cons_of_mem _ hx;replace hL:=cR.cF (iv':=(RO.heap.size,R8.heap.size)::ivg) hL r hS he fun x hx=>List.mem_cons_of_mem _ hx;replace Qh:=nE.cF (iv':=(RO.heap.size,R8.heap.size)::ivg) Qh r (cB w) he fun x hx=>List.mem_cons_of_mem _ hx;replace hG:=jn.cF (iv':=(RO.heap.size,R8.heap.size)::ivg) hG r (cB w) he fun x hx=>List.mem_cons_of_mem _ hx;replace hE:=e8.cF (iv':=(RO.heap.size,R8.heap.size)::ivg) hE r (cB w) he fun x hx=>List.mem_cons_of_mem _ hx;have hd:=mF.fresh (S:=FF) (v:=(.slice ax f.cols cx)) hn r Q2;clear r he Of Q2 hn;generalize (RO.heap.size,R8.heap.size)::ivg=QV at*
  obtain⟨E0,E1,E2,E3,E4,E5,E6,E7,rfl⟩:=hd.shape;have hdr:=qS (h:=30) (xs:=bent) (ys:=x0) (fun q hq=>by have:=Rr q hq;omega) (fun q hq=>by have:=Ve q hq;omega) (by decide) f.cols;refine cC (cM (Φ:=fun _ w' v w2=>cU w2 (Nf w' w2) v (-(eF bent x0 f.cols))) (fun O w' r=>Ks (S:=Cf w QV) (Rel.old r (cB w)) (cU.l (mF.cv (mF.rel hd r (cB w))) (by omega))) ?_);rintro O Sa v12 TF r he Of hn;replace hw:=hw.tr Of;have Q2:∀g,(Value.slice ax f.cols cx).ownBlock=some g->g<Sa.heap.size:=fun g e=>Rel.old r (cB w) g (hX.new g e);replace hX:=hX.cF (iv':=(Sa.heap.size,TF.heap.size)::QV) r (cB w) he fun x hx=>List.mem_cons_of_mem _ hx;replace hK:=gH.cF (iv':=(Sa.heap.size,TF.heap.size)::QV) hK r (cB w) he fun x hx=>List.mem_cons_of_mem _ hx;replace hL:=cR.cF (iv':=(Sa.heap.size,TF.heap.size)::QV) hL r hS he fun x hx=>List.mem_cons_of_mem _ hx;replace Qh:=nE.cF (iv':=(Sa.heap.size,TF.heap.size)::QV) Qh r (cB w) he fun x hx=>List.mem_cons_of_mem _ hx;replace hG:=jn.cF (iv':=(Sa.heap.size,TF.heap.size)::QV) hG r (cB w) he fun x hx=>List.mem_cons_of_mem _ hx;replace hE:=e8.cF (iv':=(Sa.heap.size,TF.heap.size)::QV) hE r (cB w) he fun x hx=>List.mem_cons_of_mem _ hx;clear hd;have PD:=mF.fresh (S:=FF) (v:=(.slice ax f.cols cx)) hn r Q2;clear r he Of Q2 hn;generalize (Sa.heap.size,TF.heap.size)::QV=iv12 at*
  obtain⟨F0,F1,F2,F3,F4,F5,F6,F7,rfl⟩:=PD.shape;have S5:=hG.push (cs:=[.bool F0,.slice F1 F2 F3,.bool F4,.slice F5 F6 F7]) (q:= -(eF bent x0 f.cols)) ⟨_,_,_,_,_,_,_,_,rfl,PD⟩ rfl;rw[hrgt]at S5;have QR:rc.flatten++([.bool F0,.slice F1 F2 F3,.bool F4,.slice F5 F6 F7]:List Value)=(rc++([[.bool F0,.slice F1 F2 F3,.bool F4,.slice F5 F6 F7]]:List (List Value))).flatten:=by simp
  refine .inl ?_;refine⟨by omega,by omega,by unfold maxLen;omega,((i+1:Nat):Int),wo,?_⟩;intro ρ3 w6 r3;exact⟨(i+1,rv++[ur],rc++[[.bool F0,.slice F1 F2 F3,.bool F4,.slice F5 F6 F7]],w6,_),⟨OF,hw.tr r3.cP,hX.rel r3 (cB w),gH.rel hK r3 (cB w),cR.rel hL r3 hS,nE.rel Qh r3 (cB w),jn.rel S5 r3 (cB w)⟩,Sub.gn [(3,7),(4,9)] r3 ⟨by dsimp only;rw[List.length_append,List.length_singleton];rfl,rfl,by dsimp only;rw[<-QR];rfl,trivial⟩ ⟨rfl,rfl,rfl,rfl,rfl,rfl,by dsimp only;rw[List.length_append,List.length_singleton];rfl,rfl,trivial⟩,by dsimp only;omega⟩
 have OF:i=(cS (cO f) f.cols).length:=by have:=aH OF;omega
 rw[OF,List.take_of_length_le (by rw[eU,aJ];exact aF _)]at hR;rw[OF,List.take_of_length_le (by rw[gf,aJ];exact aF _)]at hG;have Q5:rv.length=(eU (cS (cO f) f.cols) (cW f)).length:=hR.1
 refine cC (cM (Φ:=fun _ w' v w2=>∃vc,v= .tuple #[vc,.bool true]∧dP w2 (Bs FF w.heap.size iv (.slice ax f.cols cx)) w'.heap.size [(w'.heap.size,w2.heap.size)] vc (cS (cO f) f.cols).length c) (fun O w' r=>(CJ (C:=(fun g=>g<w'.heap.size)) (D:=(fun g=>g<w'.heap.size)) (S:=Bs FF w.heap.size iv (.slice ax f.cols cx)) (M:=eU (cS (cO f) f.cols) (cW f)) (b:=gf (cS (cO f) f.cols) (cW f) x0) (cols:=(cS (cO f) f.cols).length) (h:=1930) (fun g hg=>hg) (fun g hg=>hg) (fun g hg=>Rel.old r (cB w) g hg.1) ⟨rv,by rw[<-Q5];exact r.ua (T:=(fun g=>g<w'.heap.size)) (id:=3) (sz:=1) (m:=rv.length) rfl (by simp) (by unfold maxLen;omega) (by decide) hR.2.1 fun hn=>(r.low 3 _ rfl hn).2,hR.1,fun a u x h1 h2=>e8.rel (hR.2.2 a u x h1 h2) r (cB w)⟩ ⟨rc,by rw[<-hG.len];exact r.ua (T:=(fun g=>g<w'.heap.size)) (id:=4) (sz:=4) (m:=rc.length) rfl hgf (by unfold maxLen;omega) (by decide) hG.one fun hn=>(r.low 4 _ rfl hn).2,hG.len,fun a cs x h1 h2=>(jn.rel hG r (cB w)).at_ a cs x h1 h2⟩ (by rw[gf,eU,aJ,aJ]) hSl (by omega) (by rw[eU,aJ];omega) hredB (by decide)).mono fun _ _ ⟨v2,e1,e2,e3⟩=>⟨v2,e1,e2,by
  rcases e3 with⟨h1,_⟩|⟨x2,vx,h1,h2,h3⟩
  ·rw[TE]at h1;cases h1
  ·rw[TE]at h1;injection h1 with h1;subst h1;exact⟨vx,h2,h3⟩⟩) ?_)
 rintro O Vi v13 wb13 r he Of ⟨vc,rfl,hn⟩;replace hw:=hw.tr Of;have Q2:∀g,(Value.slice ax f.cols cx).ownBlock=some g->g<Vi.heap.size:=fun g e=>Rel.old r (cB w) g (hX.new g e);replace hX:=hX.cF (iv':=(Vi.heap.size,wb13.heap.size)::iv) r (cB w) he fun x hx=>List.mem_cons_of_mem _ hx;replace hK:=gH.cF (iv':=(Vi.heap.size,wb13.heap.size)::iv) hK r (cB w) he fun x hx=>List.mem_cons_of_mem _ hx;have hC:=cJ.cI hn.c fun g hg=>Bs.solved r Q2 (fun _ h=>h) hg;clear r he Of Q2;generalize (Vi.heap.size,wb13.heap.size)::iv=iv13 at*
 clear hn hR hG hL;obtain⟨ac,cc,rfl,-,-⟩:=cY.shape hC;rw[PV]
 refine⟨Nat×World×Iv,fun z=>⟨[(7,sV ax f.cols cx),(19,.o (.v (.slice ac (cS (cO f) f.cols).length cc))),(87,.o (.v (.slice ak (cS (cO f) f.cols).length ck))),(88,.o (.v (.int .i64 (cS (cO f) f.cols).length))),(89,iN z.1)],[],0,z.2.2,z.2.1⟩,fun z=>(cS (cO f) f.cols).length-z.1,
  fun z=>z.1<=(cS (cO f) f.cols).length∧dm w.heap.size w z.2.1∧dP z.2.1 FF w.heap.size z.2.2 (.slice ax f.cols cx) f.cols (kU (cS (cO f) f.cols) c x0 z.1)∧cQ z.2.1 (Bs FF w.heap.size z.2.2 (.slice ax f.cols cx)) (.slice ak (cS (cO f) f.cols).length ck) (cS (cO f) f.cols)∧cJ z.2.1 (Bs FF w.heap.size z.2.2 (.slice ax f.cols cx)) (.slice ac (cS (cO f) f.cols).length cc) c,?_,?_⟩
 ·intro O w' r3;exact⟨(0,w',_),⟨aP _,hw.tr r3.cP,hX.rel r3 (cB w),gH.rel hK r3 (cB w),by have:=e8.rel hC r3 (cB w);rw[PV]at this;exact this⟩,Sub.gn [] r3⟩
 clear hw hX hK hC;rintro⟨i,w13,iv⟩ ⟨hi,hw,hX,hK,hC⟩;dsimp only at hi hw hX hK hC ⊢;refine dM.mk ?_ ?_<;>intro OF
 ·have OF:i<(cS (cO f) f.cols).length:=by have:=aI OF;omega
  obtain⟨s,hs⟩:∃s,(cS (cO f) f.cols)[i]? =some s:=⟨_,aB OF⟩
  have RS:s.length=f.cols:=Vh s (aC hs);have UO:=Vg s (aC hs);obtain⟨ci,hci⟩:∃q,c[i]? =some q:=⟨_,aB (by omega)⟩
  have hcir:=Sk ci (aC hci);obtain⟨y0,Pp⟩:∃y,kU (cS (cO f) f.cols) c x0 i=y:=⟨_,rfl⟩
  have hy0l:y0.length=f.cols:=by rw[<-Pp,qo,hx0l]
  have hy0r:∀q∈y0,rl q<=75000:=fun q hq=>by
   rw[<-Pp]at hq;have h1:=Fq (a:=26) (b:=1927) Ve (fun r hr q hq=>by have:=Vg r hr q hq;omega) Sk i q hq;have h2:i*(2*1927+5)<=18*(2*1927+5):=Nat.mul_le_mul_right _ (by omega);omega
  have hnextA:kU (cS (cO f) f.cols) c x0 (i+1)=y0.mapIdx fun k q=>q+ci*s.getD k 0:=by rw[kU,Pp,getD_some hci,getD_some (d:=[]) hs]
  rw[Pp]at hX;obtain⟨adm3,um,ham3,PK,km3,kn3⟩:=dD.load hK hs;obtain⟨as3,cs3,rfl,-,-⟩:=cY.shape PK;refine⟨adm3,ham3,by omega,.slice as3 s.length cs3,fun O w' r=>?_,?_⟩
  ·rw[aE,cG (w:=w13) (w2:=w') (by rw[dE];exact Rel.same r (cB w) km3.1)];exact kn3
  rw[RS]
  refine⟨Nat×World×Iv,fun z=>⟨[(7,sV ax f.cols cx),(19,.o (.v (.slice ac (cS (cO f) f.cols).length cc))),(87,.o (.v (.slice ak (cS (cO f) f.cols).length ck))),(88,.o (.v (.int .i64 (cS (cO f) f.cols).length))),(89,iN i),(20,iN i),(94,sV as3 f.cols cs3),(95,iZ f.cols),(96,iN z.1)],[],0,z.2.2,z.2.1⟩,fun z=>f.cols-z.1,
   fun z=>z.1<=f.cols∧dm w.heap.size w z.2.1∧dP z.2.1 FF w.heap.size z.2.2 (.slice ax f.cols cx) f.cols ((gw z.1 (fun k q=>q+ci*s.getD k 0) y0))∧cQ z.2.1 (Bs FF w.heap.size z.2.2 (.slice ax f.cols cx)) (.slice ak (cS (cO f) f.cols).length ck) (cS (cO f) f.cols)∧cJ z.2.1 (Bs FF w.heap.size z.2.2 (.slice ax f.cols cx)) (.slice ac (cS (cO f) f.cols).length cc) c∧cJ z.2.1 (Bs FF w.heap.size z.2.2 (.slice ax f.cols cx)) (.slice as3 f.cols cs3) s,?_,?_⟩
  ·intro O w' r3;exact⟨(0,w',_),⟨aP _,hw.tr r3.cP,by dsimp only;rw[sd];exact hX.rel r3 (cB w),gH.rel hK r3 (cB w),e8.rel hC r3 (cB w),by have:=e8.rel PK r3 (cB w);rw[RS]at this;exact this⟩,Sub.gn [] r3⟩
  clear hw hX hK hC PK;rintro⟨k,w14,iv⟩ ⟨hk,hw,hX,hK,hC,PK⟩;dsimp only at hk hw hX hK hC PK ⊢;refine dM.mk ?_ ?_<;>intro OK
  ·have OK:k<f.cols:=by have:=aI OK;omega
   obtain⟨gx,rfl⟩:=hX.at (by omega);obtain⟨q,hq⟩:∃q,s[k]? =some q:=⟨_,aB (by omega)⟩
   obtain⟨y,hy⟩:∃q,y0[k]? =some q:=⟨_,aB (by omega)⟩
   have hyu:=AR (f:=fun k q=>q+ci*s.getD k 0) hy;have hqr:=UO q (aC hq);have Vj:=hy0r y (aC hy);obtain⟨adq,csq,Sm,hFq,_,hlq⟩:=cY.load PK hq;obtain⟨q0,q1,q2,q3,q4,q5,q6,q7,rfl,hFq⟩:=hFq;obtain⟨ady,csy,Ux,Rk,_,Qa⟩:=cY.load hX.c hyu;obtain⟨y0',y1,y2,y3,y4,y5,y6,y7,rfl,Rk⟩:=Rk;obtain⟨adc,csc,WE,hFc,_,SY⟩:=cY.load hC hci;obtain⟨c0,c1,c2,c3,c4,c5,c6,c7,rfl,hFc⟩:=hFc;refine⟨adq,Sm,by omega,[.bool q0,.slice q1 q2 q3,.bool q4,.slice q5 q6 q7],rfl,fun O w' r j u hu=>?_,?_⟩
   ·obtain⟨k1,k2⟩:=hlq j u hu;rw[aE,cG (w:=w14) (w2:=w') (by rw[dE,dE];exact Rel.same r (cB w) k1.1)];exact k2
   refine cK hτ dZ [.x 0,.x 1,.x 2,.x 3,.x 4,.x 5,.x 6,.x 7,.x 8,.x 9,.x 10,.x 11,.x 12,.x 13,.x 14] (by kernel_rfl) (by kernel_rfl) ?_;refine⟨ady,Ux,by omega,[.bool y0',.slice y1 y2 y3,.bool y4,.slice y5 y6 y7],rfl,fun O w' r j u hu=>?_,?_⟩
   ·obtain⟨k1,k2⟩:=Qa j u hu;rw[aE,cG (w:=w14) (w2:=w') (by rw[dE,dE];exact Rel.same r (cB w) k1)];exact k2
   refine⟨adc,WE,by omega,[.bool c0,.slice c1 c2 c3,.bool c4,.slice c5 c6 c7],rfl,fun O w' r j u hu=>?_,?_⟩
   ·obtain⟨k1,k2⟩:=SY j u hu;rw[aE,cG (w:=w14) (w2:=w') (by rw[dE,dE];exact Rel.same r (cB w) k1.1)];exact k2
   refine cM (Φ:=fun _ w' v w2=>cU w2 (Nf w' w2) v (ci*q)) (fun O w' r=>AQ (S:=Cf w iv) (Rel.old r (cB w)) ((cU.l (mF.cv (mF.rel hFc r (cB w))) (by omega)).v) ((cU.l (mF.cv (mF.rel hFq r (cB w))) (by omega)).v)) ?_;rintro O TG v15 Tl r he Of hn;replace hw:=hw.tr Of;have Q2:∀g,(Value.slice (some ⟨gx,0,none⟩) f.cols cx).ownBlock=some g->g<TG.heap.size:=fun g e=>Rel.old r (cB w) g (hX.new g e);replace hX:=hX.cF (iv':=(TG.heap.size,Tl.heap.size)::iv) r (cB w) he fun x hx=>List.mem_cons_of_mem _ hx;replace hK:=gH.cF (iv':=(TG.heap.size,Tl.heap.size)::iv) hK r (cB w) he fun x hx=>List.mem_cons_of_mem _ hx;replace hC:=e8.cF (iv':=(TG.heap.size,Tl.heap.size)::iv) hC r (cB w) he fun x hx=>List.mem_cons_of_mem _ hx;replace PK:=e8.cF (iv':=(TG.heap.size,Tl.heap.size)::iv) PK r (cB w) he fun x hx=>List.mem_cons_of_mem _ hx;replace Rk:=cU.cF (iv':=(TG.heap.size,Tl.heap.size)::iv) Rk r (cB w) he fun x hx=>List.mem_cons_of_mem _ hx;have hm:=mF.fresh (S:=FF) (v:=(.slice (some ⟨gx,0,none⟩) f.cols cx)) hn r Q2;clear r he Of Q2 hn;generalize (TG.heap.size,Tl.heap.size)::iv=Tm at*
   obtain⟨G0,G1,G2,G3,G4,G5,G6,G7,rfl⟩:=hm.shape;refine cM (Φ:=fun _ w' v w2=>cU w2 (Nf w' w2) v (y+ci*q)) (fun O w' r=>Gw (S:=Cf w Tm) (Rel.old r (cB w)) ((cU.l (cU.rel Rk r (cB w)) (by omega)).v) ((cU.l (mF.cv (mF.rel hm r (cB w))) (by have:=j0 ci q;omega)).v)) ?_;rintro O Tn v16 Um r he Of hn;replace hw:=hw.tr Of;have Q2:∀g,(Value.slice (some ⟨gx,0,none⟩) f.cols cx).ownBlock=some g->g<Tn.heap.size:=fun g e=>Rel.old r (cB w) g (hX.new g e);replace hX:=hX.cF (iv':=(Tn.heap.size,Um.heap.size)::Tm) r (cB w) he fun x hx=>List.mem_cons_of_mem _ hx;replace hK:=gH.cF (iv':=(Tn.heap.size,Um.heap.size)::Tm) hK r (cB w) he fun x hx=>List.mem_cons_of_mem _ hx;replace hC:=e8.cF (iv':=(Tn.heap.size,Um.heap.size)::Tm) hC r (cB w) he fun x hx=>List.mem_cons_of_mem _ hx;replace PK:=e8.cF (iv':=(Tn.heap.size,Um.heap.size)::Tm) PK r (cB w) he fun x hx=>List.mem_cons_of_mem _ hx;clear Rk;clear hm;have hd:=mF.fresh (S:=FF) (v:=(.slice (some ⟨gx,0,none⟩) f.cols cx)) hn r Q2;clear r he Of Q2 hn;generalize (Tn.heap.size,Um.heap.size)::Tm=iv16 at*
   obtain⟨J0,J1,J2,J3,J4,J5,J6,J7,rfl⟩:=hd.shape;refine⟨⟨gx,0,none⟩,rfl,by omega,?_⟩;intro O w' r;obtain⟨g,hg,h1,h2,h3,h4,h5⟩:=(hX.rel r (cB w)).store (j:=k) OK (hd.cH (Bs.same r (cB w))) r (cB w);injection hg with hg;injection hg with hg;subst hg;refine⟨h1,h2,h3,fun w5 Qg=>?_⟩;obtain⟨k1,k2,k3⟩:=h5 w5 Qg;have PE:dm w.heap.size w w5:=(hw.tr r.cP).tr (dm.grown k2 (fun g e=>by injection e with e;subst e;exact h4.elim (fun h=>h.elim) fun h=>h.1) r.cD);have Qw:=gH.kept hK r (cB w) k2;have Vz:=e8.kept hC r (cB w) k2;have Qh:=e8.kept PK r (cB w) k2;have OO:(gw k (fun k q=>q+ci*s.getD k 0) y0).set k (y+ci*q)=(gw (k+1) (fun k q=>q+ci*s.getD k 0) y0):=by rw[<-o9 hy,getD_some hq]
   rw[OO]at k1;clear hX hK hC PK hw h1 h2 h3 h4 h5 Qg k2 k3 r hd;refine⟨((k+1:Nat):Int),wo,?_⟩;intro ρ3 w6 r3;exact⟨(k+1,w6,_),⟨OK,PE.tr r3.cP,k1.rel r3 (cB w),gH.rel Qw r3 (cB w),e8.rel Vz r3 (cB w),e8.rel Qh r3 (cB w)⟩,Sub.gn [] r3,by dsimp only;omega⟩
  have OK:k=f.cols:=by have:=aH OK;omega
  rw[OK,<-hy0l,vw,<-hnextA,hy0l]at hX;refine⟨((i+1:Nat):Int),wo,?_⟩;intro ρ3 w6 r3;exact⟨(i+1,w6,_),⟨OF,hw.tr r3.cP,hX.rel r3 (cB w),gH.rel hK r3 (cB w),e8.rel hC r3 (cB w)⟩,Sub.gn [] r3,by dsimp only;omega⟩
 have OF:i=(cS (cO f) f.cols).length:=by have:=aH OF;omega
 rw[OF]at hX;exact rtn hw fun ρe we re=>.inr ⟨_,_,Vf,rfl,cJ.out hX.c re (cB w)⟩
end Go.Ex
namespace Go.Ex
open Go Go.Sx Go.Proofs
variable{iv:Iv}{S:Nat->Prop}{v:Value}
def IK(g:Nat):Iv->Iv
 |[]=>[]
 |(lo,hi)::iv=>(lo,min hi g)::(max lo (g+1),hi)::IK g iv
def wH(v:Value)(iv:Iv):Iv:=match v.ownBlock with
 |some g=>IK g iv
 |none=>iv
theorem CY{g lo hi:Nat}:∀{iv:Iv},(lo,hi)∈IK g iv->∃a b,(a,b)∈iv∧a<=lo∧hi<=b∧¬(lo<=g∧g<hi)
 |[],h=>by cases h
 |(x,y)::iv,h=>by
  rcases List.mem_cons.1 h with h|h
  ·injection h with h1 h2;exact⟨x,y,aG,by omega,by omega,by omega⟩
  ·rcases List.mem_cons.1 h with h|h
   ·injection h with h1 h2;exact⟨x,y,aG,by omega,by omega,by omega⟩
   ·obtain⟨a,b,h1,h2⟩:=CY h;exact⟨a,b,List.mem_cons_of_mem _ h1,h2⟩
theorem Fs{g x lo hi:Nat}(h1:lo<=x)(h2:x<hi)(OH:x≠g):∀{iv:Iv},(lo,hi)∈iv->∃a b,(a,b)∈IK g iv∧a<=x∧x<b
 |[],h=>by cases h
 |(p,q)::iv,h=>by
  rcases List.mem_cons.1 h with h|h
  ·injection h with e1 e2;subst e1 e2;rcases aO x g with h3|h3
   ·exact⟨_,_,aG,h1,by omega⟩
   ·exact⟨_,_,List.mem_cons_of_mem _ aG,by omega,h2⟩
  ·obtain⟨a,b,h3,h4⟩:=Fs h1 h2 OH h;exact⟨a,b,List.mem_cons_of_mem _ (List.mem_cons_of_mem _ h3),h4⟩
theorem Cv.cut{B x:Nat}(h:Cv S B iv x)(OH:v.ownBlock≠some x):Cv S B (wH v iv) x:=by
 rcases h with h|⟨hb,lo,hi,h1,h2,h3⟩
 ·exact .inl h
 ·refine .inr ⟨hb,?_⟩;unfold wH
  cases e:v.ownBlock with
  |none=>exact⟨lo,hi,h1,h2,h3⟩
  |some g=>
   obtain⟨a,b,k1,k2,k3⟩:=Fs h2 h3 (fun e2=>OH (by rw[e,e2])) h1;exact⟨a,b,k1,k2,k3⟩
theorem Ae{lo hi:Nat}(h:(lo,hi)∈wH v iv):∃a b,(a,b)∈iv∧a<=lo∧hi<=b∧∀g,v.ownBlock=some g->¬(lo<=g∧g<hi):=by
 unfold wH at h
 cases e:v.ownBlock with
 |none=>rw[e]at h;exact⟨lo,hi,h,aF _,aF _,fun g e2=>by cases e2⟩
 |some g=>
  rw[e]at h;obtain⟨a,b,h1,h2,h3,h4⟩:=CY h;exact⟨a,b,h1,h2,h3,fun g2 e2=>by injection e2 with e2;subst e2;exact h4⟩
end Go.Ex
namespace Go.Sx
open Go Go.Ex Go.Proofs
variable{xs:List Value}{O:Nat->Sx.dg}
theorem Rel.B4{H:Hp}{nx:Nat}{iv:Iv}{B:Nat}{w w':World}(r:Rel H nx iv B w O w'){e sz n:Nat}{v:Value}(OG:w'.ownsRow 0 e sz v n xs)(Og:∀g,v.ownBlock=some g->B<=g)
  (OH:∀g,v.ownBlock=some g->∀id b,dC H id=some b->(O id).nil=false->(O id).g≠g):
  ∃u:Sx.dg,Rel ((nx,.vec e sz xs)::H) (nx+1) (wH v iv) B w' (Sx.gO O nx u) w'∧(At.w nx n).den (Sx.gO O nx u)=v:=by
 have r0:Rel H nx (wH v iv) B w' O w':=Rel.mk' rfl rfl rfl (aF _) (by have:=r.base;have:=r.size;omega)
  (fun lo hi hm=>by obtain⟨a,b,h1,h2,h3,_⟩:=Ae hm;have:=r.qd a b h1;have:=r.size;omega) r.keys (fun j c h=>r.fits h) (fun j c h=>r.scopd h) r.inj r.low (fun _ _ _=>rfl)
  (fun lo hi hm id b h hn hh=>by obtain⟨a,c,h1,h2,h3,_⟩:=Ae hm;exact r.kP a c h1 id b h hn ⟨by omega,by omega⟩)
 have Un:∀lo hi,(lo,hi)∈wH v iv->∀g,v.ownBlock=some g->¬(lo<=g∧g<hi):=fun lo hi hm=>by obtain⟨a,c,h1,h2,h3,h4⟩:=Ae hm;exact h4
 obtain⟨h1,h2⟩:=OG;rcases h2 with⟨rfl,rfl⟩|⟨g,cap,cur,rfl,_,hc,hn,hm,hs,ht⟩
 ·have:xs=[]:=List.eq_nil_of_length_eq_zero (by rw[h1,Nat.zero_mul]);subst this;exact⟨⟨0,0,true⟩,r0.push (.vec e sz []) ⟨0,0,true⟩ rfl rfl rfl (aF _) (fun _ _=>rfl) (fun h=>by cases h) (.inl ⟨rfl,rfl⟩) trivial,by simp[At.den,Sx.gO]⟩
 ·generalize wH (.slice (some ⟨g,0,none⟩) n cap) iv=OJ at*
  have OH:=OH g rfl;have Og:=Og g rfl;have hgl:g<w'.heap.size:=(ah.1 hc).1;have Od:∀id b,dC H id=some b->id≠nx:=fun id b h=>Nat.ne_of_lt (r.keys id b h);have Pa:∀id b,dC H id=some b->Sx.gO O nx ⟨g,cap,false⟩ id=O id:=fun id b h=>by simp[Sx.gO,Od id b h]
  have Vy:xs++cur.toList.drop (n*sz)=cur.toList:=by rw[<-ht,List.take_append_drop]
  refine⟨⟨g,cap,false⟩,Rel.mk' rfl rfl rfl (aF _) r0.base r0.qd ?_ ?_ ?_ ?_ ?_ (fun _ _ _=>rfl) ?_,by simp[At.den,Sx.gO]⟩
  ·intro id b' h;rw[c9]at h;split at h
   ·omega
   ·have:=r.keys id b' h;omega
  ·intro id b' h;rw[c9]at h;split at h
   ·rename_i e2;subst e2;injection h with h;subst h;rw[Sx.eL];exact .inr ⟨rfl,cur.toList.drop (n*sz),by rw[Vy];simpa using hc,by rw[Vy];simpa using hs,hm⟩
   ·rw[Pa id b' h];exact jr.gi (r.fits h) Sx.gC (r.scopd h) (fun _ _=>rfl)
  ·intro id b' h;rw[c9]at h;split at h
   ·injection h with h;subst h;exact trivial
   ·exact jr.iX (by omega) (r.scopd h)
  ·intro id id' b1 b2 h1 h2 d1 d2 n1 n2 e2;rw[c9]at h1 h2;split at h1<;>split at h2
   ·omega
   ·rename_i e1 e3;subst e1;rw[Sx.eL]at e2 n1;rw[Pa id' b2 h2]at e2 n2;exact absurd e2.symm (OH id' b2 h2 n2)
   ·rename_i e1 e3;subst e3;rw[Sx.eL]at e2 n2;rw[Pa id b1 h1]at e2 n1;exact absurd e2 (OH id b1 h1 n1)
   ·rw[Pa id b1 h1]at e2 n1;rw[Pa id' b2 h2]at e2 n2;exact r.inj id id' b1 b2 h1 h2 d1 d2 n1 n2 e2
  ·intro id b' h n1;rw[c9]at h;split at h
   ·rename_i e2;subst e2;rw[Sx.eL];exact⟨Og,hgl⟩
   ·rw[Pa id b' h]at n1 ⊢;exact r.low id b' h n1
  ·intro lo hi Tf id b' h n1;rw[c9]at h;split at h
   ·rename_i e2;subst e2;rw[Sx.eL];exact Un lo hi Tf g rfl
   ·rw[Pa id b' h]at n1 ⊢;exact r0.kP lo hi Tf id b' h n1
end Go.Sx
namespace Go.Ex
open Go Go.Sx Go.Proofs
end Go.Ex
namespace Go.Sx
open Go Go.Ex Go.Proofs
variable{xs:List Value}{O:Nat->Sx.dg}
theorem Sub.B4{B nx:Nat}{l:Env}{H:Hp}{iv:Iv}{w w':World}{t:ye}(u n:Nat){e sz:Nat}{v:Value}(h9:fM l u=some (.o (.v v)))(Rx:jX nx l)(r:Rel H nx iv B w O w')(OG:w'.ownsRow 0 e sz v n xs)
  (Og:∀g,v.ownBlock=some g->B<=g) (OH:∀g,v.ownBlock=some g->∀id b,dC H id=some b->(O id).nil=false->(O id).g≠g)
  (h:∀ρ1,Rel ((nx,.vec e sz xs)::H) (nx+1) (wH v iv) B w' ρ1 w'->Sx.Sub B ((u,.o (.w nx n))::l) (nx+1) ρ1 w' t):Sx.Sub B l nx O w' t:=by
 obtain⟨u2,r1,Qf⟩:=r.B4 OG Og OH;obtain⟨ρ',h1,h2⟩:=h _ r1;refine⟨ρ',h1,fun x v2 hv=>?_⟩;obtain⟨h3,v0,h4,h5⟩:=h2 x v2 hv;refine⟨h3,?_⟩;rw[eS]at h4;split at h4
 ·rename_i e2;subst e2;injection h4 with h4;subst h4;refine⟨_,h9,?_⟩;rw[<-h5];show v=(At.w nx n).den _;exact Qf.symm
 ·refine⟨v0,h4,?_⟩;rw[<-h5];exact SV.j4 (fun id Om=>gC id Om) (Rx.get _ _ h4)
end Go.Sx
namespace Go.Ex
open Go Go.Sx Go.Proofs
end Go.Ex
namespace Go.Ex
open Go Go.Sx Go.Proofs
variable{ad:Addr}{b:Int×Int×Rat}{K M:List (List Rat)}{l:List Ld}{bent s x:List Rat}{S:Nat->Prop}{v vb vl vn vs:Value}{w:World}{f:eh}
def pL(f:eh)(x:List Rat):List Rat:=(List.range x.length).map fun t=>(cW f).getD t 0*x.getD t 0
theorem Ft(f:eh)(x:List Rat):(pL f x).length=x.length:=by rw[pL,aJ,List.length_range]
theorem Fu{i:Nat}(h:f.bars[i]? =some b):(cW f).getD i 0=b.2.2:=by
 have hl:=(aD.1 h).1;rw[List.getD,cW,aK (by rw[aJ];exact hl),aM,h];rfl
theorem Fv{i:Nat}(h:f.cV[i]? =some b):(cW f).getD (f.bars.length+i) 0=b.2.2:=by
 rw[List.getD,cW,aN (by rw[aJ];omega),aJ,Nat.add_sub_cancel_left,aM,h];rfl
theorem Mf(hS:Old S w)(hf:dS w S vn vb vs f)(Oe:f.bars.length<=60∧f.cV.length<=60){i:Nat}(hi:i<f.cols):
  di PG N.zg #[.agg #[vn,vb,vs],.int .i64 i] w (dw w fun v' w2=>eM w2 S v' ((cW f).getD i 0)):=by
 have hw:=bR w;have hf0:=hf;obtain⟨an,cn,ab,cb,aq,cq,rfl,rfl,rfl,Q6,Qm,RH⟩:=hf.shape;have PT:f.cols=f.bars.length+f.cV.length:=rfl;refine Az (by simp) ?_;refine dM.mk ?_ ?_<;>intro OF
 ·have hk:i<f.bars.length:=by have:=aI OF;omega
  obtain⟨b,hb⟩:∃b,f.bars[i]? =some b:=⟨_,aB hk⟩
  obtain⟨adb,cs,PY,hF,-,Oc⟩:=hf0.bars.load (by decide) hb;obtain⟨g0,g1,g2,g3,g4,g5,g6,g7,rfl,hF⟩:=hF;refine⟨adb,PY,by omega,[.bool g0,.slice g1 g2 g3,.bool g4,.slice g5 g6 g7],rfl,fun O w' r j u hu=>?_,?_⟩
  ·have Ud:=(aD.1 hu).1;obtain⟨k1,k2⟩:=Oc (2+j) u (by rcases j with _|_|_|_|j<;>first|exact hu|(have:j+4<4:=Ud;omega));rw[cG (w:=w) (w2:=w') (by simp only[dE];exact(hw.tr r.cP).block _ (hS _ k1))];simp only[aE,Int.toNat_zero,Nat.zero_mul,kE]at k2 ⊢
   first|exact k2|(rw [<-k2];congr 2;omega)
  exact rtn hw fun ρe we re=>by rw[Fu hb];exact hF.cH fun g hg=>(hw.tr re.cP).block g (hS g hg)
 have OF:f.bars.length<=i:=by have:=aH OF;omega
 obtain⟨k,rfl⟩:∃k,i=f.bars.length+k:=⟨i-f.bars.length,by omega⟩
 have hk:k<f.cV.length:=by omega
 refine⟨(k:Int),wo,?_⟩;obtain⟨b,hb⟩:∃b,f.cV[k]? =some b:=⟨_,aB hk⟩
 obtain⟨adb,cs,PY,hF,-,Oc⟩:=hf0.cV.load (by decide) hb;obtain⟨g0,g1,g2,g3,g4,g5,g6,g7,rfl,hF⟩:=hF;refine⟨adb,PY,by omega,[.bool g0,.slice g1 g2 g3,.bool g4,.slice g5 g6 g7],rfl,fun O w' r j u hu=>?_,?_⟩
 ·have Ud:=(aD.1 hu).1;obtain⟨k1,k2⟩:=Oc (2+j) u (by rcases j with _|_|_|_|j<;>first|exact hu|(have:j+4<4:=Ud;omega));rw[cG (w:=w) (w2:=w') (by simp only[dE];exact(hw.tr r.cP).block _ (hS _ k1))];simp only[aE,Int.toNat_zero,Nat.zero_mul,kE]at k2 ⊢
  first|exact k2|(rw [<-k2];congr 2;omega)
 exact rtn hw fun ρe we re=>by rw[Fv hb];exact hF.cH fun g hg=>(hw.tr re.cP).block g (hS g hg)
theorem Fw(hS:Old S w)(hf:dS w S vn vb vs f)(Oe:f.bars.length<=60∧f.cV.length<=60){u:Value}(hx:cR w S u x)(PO:x.length<=f.cols):
  di PG N.qA #[.agg #[vn,vb,vs],u] w (dw w fun v' w2=>cJ w2 (Nf w w2) v' (pL f x)):=by
 have hw:=bR w;obtain⟨an,cn,ab,cb,aq,cq,rfl,rfl,rfl,Q6,Qm,RH⟩:=hf.shape;obtain⟨ax,cx,rfl,Sl,Uw⟩:=cY.shape hx;have PT:f.cols=f.bars.length+f.cV.length:=rfl;refine uI (by simp) ?_
 refine⟨Nat×List (List Value)×World×Iv,fun z=>⟨[(1,sV ax x.length cx),(2,pP 0 0),(5,.o (.w 1 z.2.1.length)),(6,iN z.1)],[(1,.vec T.Rat 4 z.2.1.flatten),(0,.box T.Frame [.v (.slice an f.nodes.length cn),.v (.slice ab f.bars.length cb),.v (.slice aq f.cV.length cq)])],2,z.2.2.2,z.2.2.1⟩,fun z=>x.length-z.1,
  fun z=>z.1<=x.length∧dm w.heap.size w z.2.2.1∧eD z.2.2.1 (Cf w z.2.2.2) z.2.1 ((pL f x).take z.1),?_,?_⟩
 ·intro O w' r;exact⟨(0,[],w',[]),⟨aP _,hw.tr r.cP,eD.nil⟩,Sub.nil 5 T.Rat 4 rfl (by simp[jX,SV.sc,At.sc,fT]) r fun ρ1 r1=>Sub.gn [] r1⟩
 rintro⟨i,css,w1,iv⟩ ⟨hi,hw,hG⟩;dsimp only at hi hw hG ⊢;have OY:=eN hG.four;have Sy:css.length=i:=by rw[hG.len,aW,Ft];omega
 refine dM.mk ?_ ?_<;>intro OF
 ·have OF:i<x.length:=by simpa using OF
  obtain⟨q,hq⟩:∃q,x[i]? =some q:=⟨_,aB OF⟩
  have hsn:(pL f x).take (i+1)=(pL f x).take i++[(cW f).getD i 0*q]:=by
   rw[List.take_add_one,pL,aM,bp OF,<-getD_some (d:=0) hq];rfl
  obtain⟨adx,csx,PS,RZ,-,Oj⟩:=cY.load hx hq;obtain⟨f0,f1,f2,f3,f4,f5,f6,f7,rfl,RZ⟩:=RZ;refine cK hτ dZ [.x 0,.x 1,.x 2,.x 4,.x 5,.x 6,.x 7,.x 3,.x 8,.x 9,.x 10,.x 11] (by kernel_rfl) (by kernel_rfl) ?_;refine⟨adx,PS,by omega,[.bool f0,.slice f1 f2 f3,.bool f4,.slice f5 f6 f7],rfl,rdO Oj hw hS,?_⟩;refine cE hw (fun _ w' v w2=>eM w2 S v ((cW f).getD i 0)) (fun O w' r=>Mf (oS hS r) (hf.cH (kS hw r hS)) Oe (by omega)) ?_;rintro O _ _ _ OM r he hw h_ hL;replace hG:=hG.cF r (cB w) he (mC h_);obtain⟨l0,l1,l2,l3,l4,l5,l6,l7,rfl⟩:=hL.shape;refine cE hw (fun _ w' v w2=>cU w2 (Nf w' w2) v ((cW f).getD i 0*q)) (fun O w' r=>HV (oS hS r) (hL.cH fun g hg=>Rel.same r hS (.inl hg)) (RZ.cH (kS hw r hS))) ?_;rintro O _ _ _ OJ r he hw h_ hn;replace hG:=hG.cF r (cB w) he (mC h_);have hd:=hn.dA (S:=FF) r.cD (mN h_);obtain⟨A0,A1,A2,A3,A4,A5,A6,A7,rfl⟩:=hd.shape;have S5:=hG.push (cs:=[.bool A0,.slice A1 A2 A3,.bool A4,.slice A5 A6 A7]) (q:=(cW f).getD i 0*q) ⟨_,_,_,_,_,_,_,_,rfl,hd⟩ rfl;rw[<-hsn]at S5;have QR:css.flatten++([.bool A0,.slice A1 A2 A3,.bool A4,.slice A5 A6 A7]:List Value)=(css++([[.bool A0,.slice A1 A2 A3,.bool A4,.slice A5 A6 A7]]:List (List Value))).flatten:=by simp
  refine .inl ?_;refine⟨by omega,by omega,by unfold maxLen;omega,((i+1:Nat):Int),wo,?_⟩;intro ρ3 w6 r3;exact⟨(i+1,css++[[.bool A0,.slice A1 A2 A3,.bool A4,.slice A5 A6 A7]],w6,_),⟨OF,hw.tr r3.cP,S5.rel r3 (cB w)⟩,Sub.gn [(1,3)] r3 ⟨by dsimp only;rw[<-QR];rfl,rfl,trivial⟩ ⟨rfl,rfl,by dsimp only;rw[List.length_append,List.length_singleton];rfl,rfl,trivial⟩,by dsimp only;omega⟩
 have OF:i=x.length:=aQ hi (by simpa using OF);rw[List.take_of_length_le (by rw[Ft];omega)]at hG;intro ρe we re;refine⟨_,rfl,hw.tr re.cP,?_⟩;have h5:=re.iR (id:=1) (sz:=4) (m:=css.length) rfl OY (by unfold maxLen;omega) (by decide) hG.one;exact eD.list ((hG.rel re (cB w)).cI fun g hg=>Cv.nw hg re) (h5.cI fun g hg=>.inr hg)
theorem Dl(OI:rh f.nodes.length l):Bl (cX (eY f l) (-1)):=fun t=>by
 rcases aO t (cX (eY f l) (-1)).length with h|h
 ·have h2:t<(eY f l).length:=by rw[cX,aJ]at h;exact h
  have h3:(eY f l)[t]∈eY f l:=aX h2;rw[getD_some (show (cX (eY f l) (-1))[t]? =some ((eY f l)[t]* -1) by rw[cX,aM,aB h2];rfl)];obtain⟨z,hz,Ox⟩:=aU.1 h3;have hb:=wG OI l.length (aF _) z hz;have hl:=OI.len;rw[<-Ox,show(z:Rat)* -1=((-z:Int):Rat) by rw[Rat.intCast_neg];grind];exact Ib.int (by omega)
 ·rw[iH h];exact Ib.zero _
theorem Fx(hn:f.nodes.length<=20)(OI:rh f.nodes.length l):∀q∈cX (eY f l) (-1),rl q<=5:=fun q hq=>by
 obtain⟨y,hy,rfl⟩:=aU.1 hq;have h1:=Dk hn OI y hy;have h2:=j0 y (-1);have h3:rl (-1)=1:=by decide
 omega
theorem Fy:jh (cO f) f.cols (fun t=>(cW f).getD t 0)=cO f++(cS (cO f) f.cols).map (pL f):=by
 unfold jh;congr 1;refine List.map_congr_left fun s hs=>?_;rw[pL,ic _ _ s hs]
theorem aAE(h:rO f)(hl:s.length=f.cols)(hs:∀q∈s,rl q<=14):∀q∈pL f s,rl q<=20:=fun q hq=>by
 obtain⟨t,ht,rfl⟩:=aU.1 hq;have ht:=List.mem_range.1 ht;have h1:=j0 ((cW f).getD t 0) (s.getD t 0);have h2:=h.fxD (t:=t) (by omega);have h3:=hs (s.getD t 0) (by rw[getD_some (aB ht)];exact aX _);omega
theorem rO.LU(h:rO f):∀r∈cS (cO f) f.cols,∀q∈r,rl q<=14:=fun r hr q hq=>by
 obtain⟨D,hD⟩:=h.ker;have h1:=hD.rl r hr q hq;have h2:ln (wt 13)<=14:=gI.2 (Hf (by decide));omega
theorem rO.aAF(h:rO f):Ht (jh (cO f) f.cols fun t=>(cW f).getD t 0) 21:=fun r hr q hq=>by
 rw[Fy]at hr;rcases bG.1 hr with hr|hr
 ·have:=HU h.toFrS r hr q hq;omega
 ·obtain⟨s,hs,rfl⟩:=aU.1 hr;have:=aAE h (ic _ _ s hs) (h.LU s hs) q hq;omega
theorem ND{n B h0 c:Nat}(hM:fg n M)(hW:Bi M n B)(hB:1<=B)(hs:ln (fB B M.length)+1<=h0)(hc:c<=n):Ht (cN M c).1 h0:=fun r hr q hq=>by
 have:=sR hM hW hB hc r hr q hq;omega
set_option maxRecDepth 8000 in
theorem HW(hS:Old S w)(hf:dS w S vn vb vs f)(hl:ff w S vl l)(Oh:eV f=0)(PH:FrS f)(Pu:rh f.nodes.length l):
  di PG N.rU #[.agg #[vn,vb,vs],vl] w (dw w fun v' w2=>(fD (cO f) (cX (eY f l) (-1)) f.cols=none∧v'= .tuple #[.slice none 0 0,.bool false])∨∃x vx,fD (cO f) (cX (eY f l) (-1)) f.cols=some x∧v'= .tuple #[vx,.bool true]∧cJ w2 (Nf w w2) vx x):=by
 have hw:=bR w;obtain⟨an,cn,ab,cb,aq,cq,rfl,rfl,rfl,Q6,Qm,RH⟩:=hf.shape;obtain⟨al,cl,rfl,PV,Ql⟩:=hl.shape;have Uk:=PH.Lw;have S8:=PH.Ka;have Qe:=fc f;have hlen:=ed f;have hn4:=PH.n4;have OI:=mS Oh;have SD:=fz f l;have VB:f.cols=f.bars.length+f.cV.length:=rfl;have Pg:=Dl Pu;have Rr:=Fx PH.n Pu;have Sb:(cX (eY f l) (-1)).length=(cO f).length:=by rw[cX,aJ,SD,Qe]
 refine vV (by simp) ?_;refine cK hτ dZ [.x 0,.x 3,.x 4,.x 1,.x 2,.x 5,.x 6,.x 7,.x 8,.x 9,.x 10,.x 11] (by kernel_rfl) (by kernel_rfl) ?_;refine cE hw (fun _ w' v w2=>si w2 (Nf w' w2) v (gu f)∧FT (gu f) 2000000) (fun O w' r=>wE (oS hS r) (hf.cH (kS hw r hS)) Oh) ?_;rintro O _ _ _ OM r he hw h_ ⟨hn,SO⟩;have hZ:=si.dA (S:=FF) hn r.cD (mN h_);obtain⟨az,cz,rfl,-,-⟩:=dD.shape hZ;refine cE hw (fun _ w' v w2=>cQ w2 (Nf w' w2) v (cO f)) (fun O w' r=>IJ (Rel.old r (cB w)) (si.rel hZ r (cB w)) (by rw[<-aJ (f:=dN)];exact aZ S8 (by decide)) (fun l hl=>by rw[jZ f _ l hl];omega) (fun l hl z hz=>by have:=SO l hl z hz;omega)) ?_;rintro O _ _ _ OJ r he hw h_ hn;have hM:=cQ.dA (S:=FF) hn r.cD (mN h_);obtain⟨am,cm,rfl,-,-⟩:=dD.shape hM;refine cE hw (fun _ w' v w2=>cJ w2 (Nf w' w2) v (eY f l)) (fun O w' r=>CS (oS hS r) (hf.cH (kS hw r hS)) (hl.cH (kS hw r hS)) PH.n Pu) ?_;rintro O _ _ _ OP r he hw h_ hn;replace hM:=cQ.cF hM r (cB w) he (mC h_);have hP:=cJ.dA (S:=FF) hn r.cD (mN h_);obtain⟨ap,cp,rfl,-,-⟩:=cY.shape hP;have TT:=Dk PH.n Pu
 (try rw[SD])
 refine cE hw (fun _ w' v w2=>cJ w2 (Nf w' w2) v (cX (eY f l) (-1))) (fun O w' r=>Fj (Rel.old r (cB w)) (cJ.l (by have:=cJ.rel hP r (cB w);try rw[SD]at this;exact this) fun q hq=>by have:=TT q hq;omega) (by omega) (fun q hq=>by have:=TT q hq;omega)) ?_;rintro O _ _ _ OR r he hw h_ hn;replace hM:=cQ.cF hM r (cB w) he (mC h_);have hB:=cJ.dA (S:=FF) hn r.cD (mN h_);obtain⟨ab2,cb2,rfl,-,-⟩:=cY.shape hB;refine cM (Φ:=fun _ w' v w2=>(fD (cO f) (cX (eY f l) (-1)) f.cols=none∧v= .tuple #[.slice none 0 0,.bool false])∨∃x vx,fD (cO f) (cX (eY f l) (-1)) f.cols=some x∧v= .tuple #[vx,.bool true]∧cJ w2 (Nf w' w2) vx x) (fun O w' r=>CU (h0:=30) (Rel.old r (cB w)) (cQ.rel hM r (cB w)) (cJ.rel hB r (cB w)) hlen (by rw[Qe];exact PH.col) Sb (fun q hq=>by have:=Rr q hq;omega) (fun r hr q hq=>by have:=HU PH r hr q hq;omega) (by omega) (by omega) (fun c hc=>ND (ga hlen) (PH.Cx Pg) lV (by have:=PH.Ez (b:=cX (eY f l) (-1));omega) (by omega)) (by decide)) ?_;rintro O RL v5 RI r he hb (⟨R9,rfl⟩|⟨x,vx,hx,rfl,hn⟩)
 ·replace hw:=hw.tr hb;exact rtn hw fun ρe we re=>.inl ⟨R9,rfl⟩
 replace hw:=hw.tr hb;have hX:=cJ.dA (S:=FF) hn r.cD (iv:=(RL.heap.size,RI.heap.size)::OR) aG;generalize (RL.heap.size,RI.heap.size)::OR=ivx at*
 obtain⟨ax,cx,rfl,-,-⟩:=cY.shape hX;exact rtn hw fun ρe we re=>.inr ⟨x,_,hx,rfl,cJ.out hX re (cB w)⟩
set_option maxRecDepth 8000 in
set_option maxHeartbeats 2000000 in
theorem ni(hS:Old S w)(hf:dS w S vn vb vs f)(hl:ff w S vl l)(Oh:eV f=0)(PF:rO f)(Pu:rh f.nodes.length l):
  di PG N.th #[.agg #[vn,vb,vs],vl] w (dw w fun v' w2=>(fD (cO f) (cX (eY f l) (-1)) f.cols=none∧v'= .tuple #[.slice none 0 0,.int .i64 17])∨∃x vx,jt (cO f) f.cols (fun t=>(cW f).getD t 0) (cX (eY f l) (-1)) x∧v'= .tuple #[vx,.int .i64 0]∧cJ w2 (Nf w w2) vx x):=by
 have hw:=bR w;obtain⟨an,cn,ab,cb,aq,cq,rfl,rfl,rfl,Q6,Qm,RH⟩:=hf.shape;obtain⟨al,cl,rfl,PV,Ql⟩:=hl.shape;have PH:=PF.toFrS;have Uk:=PH.Lw;have S8:=PH.Ka;have Qe:=fc f;have hlen:=ed f;have hn4:=PH.n4;have OI:=mS Oh;have SD:=fz f l;have VB:f.cols=f.bars.length+f.cV.length:=rfl;have Pg:=Dl Pu;have Rr:=Fx PH.n Pu;have Sb:(cX (eY f l) (-1)).length=(cO f).length:=by rw[cX,aJ,SD,Qe]
 refine x8 (by simp) ?_;refine cC (cM (Φ:=fun _ w' v w2=>(fD (cO f) (cX (eY f l) (-1)) f.cols=none∧v= .tuple #[.slice none 0 0,.bool false])∨∃x vx,fD (cO f) (cX (eY f l) (-1)) f.cols=some x∧v= .tuple #[vx,.bool true]∧cJ w2 (Nf w' w2) vx x) (fun O w' r=>HW (oS hS r) (hf.cH (kS hw r hS)) (hl.cH (kS hw r hS)) Oh PH Pu) ?_);rintro O Pq v1 Pe r he hb (⟨R9,rfl⟩|⟨x0,vx,R0,rfl,hn⟩)
 ·replace hw:=hw.tr hb;exact rtn hw fun ρe we re=>.inl ⟨R9,rfl⟩
 replace hw:=hw.tr hb;obtain⟨ax,cx,rfl,-,-⟩:=cY.shape hn;generalize (Pq.heap.size,Pe.heap.size)::[]=OM at*
 obtain⟨c,hc,PV,Vf⟩:=PF.xV.force (fl:=cW f) R0;have WM:=PF.xV.base Sb Vf;have hK18:=PF.Hx;have Vh:=ic (cO f) f.cols;refine cK hτ dZ [.x 0,.x 3,.x 4,.x 1,.x 2,.x 5,.x 6,.x 7,.x 8] (by kernel_rfl) (by kernel_rfl) ?_;refine cE hw (fun _ w' v w2=>si w2 (Nf w' w2) v (gu f)∧FT (gu f) 2000000) (fun O w' r=>wE (oS hS r) (hf.cH (kS hw r hS)) Oh) ?_;rintro O _ v2 _ OJ r he hw h_ ⟨hn,SO⟩;have hZ:=si.dA (S:=FF) hn r.cD (mN h_);obtain⟨az,cz,rfl,-,-⟩:=dD.shape hZ;refine cE hw (fun _ w' v w2=>nh w2 w'.heap.size [(w'.heap.size,w2.heap.size)] v (cO f)) (fun O w' r=>Fh (Rel.old r (cB w)) (si.rel hZ r (cB w)) (by rw[<-aJ (f:=dN)];exact aZ S8 (by decide)) (fun l hl=>by rw[jZ f _ l hl];omega) (fun l hl z hz=>by have:=SO l hl z hz;omega)) ?_;rintro O _ _ _ OP r he hw h_ hn;have hM:=nh.dA hn r.cD (mN h_);obtain⟨am,cm,rfl,-,-⟩:=dD.shape hM.c;refine cE hw (fun _ w' v w2=>cJ w2 (Nf w' w2) v (eY f l)) (fun O w' r=>CS (oS hS r) (hf.cH (kS hw r hS)) (hl.cH (kS hw r hS)) PH.n Pu) ?_;rintro O _ _ _ OR r he hw h_ hn;replace hM:=hM.cF r (cB w) he (mC h_);have hP:=cJ.dA (S:=FF) hn r.cD (mN h_);obtain⟨ap,cp,rfl,-,-⟩:=cY.shape hP;have TT:=Dk PH.n Pu
 (try rw[SD])
 refine cM (Φ:=fun _ w' v w2=>dP w2 FF w'.heap.size [(w'.heap.size,w2.heap.size)] v (3*f.nodes.length) (cX (eY f l) (-1))) (fun O w' r=>(u7 (Rel.old r (cB w)) (cJ.l (by have:=cJ.rel hP r (cB w);try rw[SD]at this;exact this) fun q hq=>by have:=TT q hq;omega) (by omega) (fun q hq=>by have:=TT q hq;omega)).mono fun _ _ ⟨v2,e1,e2,e3⟩=>⟨v2,e1,e2,SD▸e3⟩) ?_;rintro O R7 v8 RN r he hb hn;replace hw:=hw.tr hb;have VT:∀g,Cf w OR g->v8.ownBlock≠some g:=fun g hg e=>by
  have h1:=Rel.old r (cB w) g hg;rcases(hn.new g e).new with h|h
  ·exact h
  ·omega
 obtain⟨⟨rv,m1,m2,m3,m4⟩,m5⟩:=hM.rel r (cB w);have PI:∀p,p∈OR->p∈(R7.heap.size,RN.heap.size)::OR:=fun p hp=>List.mem_cons_of_mem _ hp;have hMo:RN.ownsRow 0 T.fU 1 (.slice am (cO f).length cm) (cO f).length rv:=ownsRow.cH m1 fun g hg=>he.block g (Rel.old r (cB w) g (m5 g hg));have Vk:∀g,(Value.slice am (cO f).length cm).ownBlock=some g->Cf w ((R7.heap.size,RN.heap.size)::OR) g∧v8.ownBlock≠some g:=fun g hg=>⟨(m5 g hg).mono PI,VT g (m5 g hg)⟩
 have hRr:dR RN (fun g=>Bs FF w.heap.size ((R7.heap.size,RN.heap.size)::OR) (.slice am (cO f).length cm) g∧v8.ownBlock≠some g) rv (cO f):=
  ⟨m2,m3,fun i u x k1 k2=>cJ.cI (cJ.cH (m4 i u x k1 k2) fun g hg=>he.block g (Rel.old r (cB w) g hg.1)) fun g hg=>⟨Bs.mono PI hg,VT g hg.1⟩⟩
 have hvo:∀g,(Value.slice am (cO f).length cm).ownBlock=some g->g<R7.heap.size:=fun g hg=>Rel.old r (cB w) g (m5 g hg);obtain⟨⟨css,b1,b2,b3⟩,b4⟩:=hn;have Rs:∀g,v8.ownBlock=some g->Cf w ((R7.heap.size,RN.heap.size)::OR) g:=fun g hg=>(b4 g hg).new.dA r.cD aG;have hGb:eD RN (fun g=>Bs FF w.heap.size ((R7.heap.size,RN.heap.size)::OR) (.slice am (cO f).length cm) g∧v8.ownBlock≠some g) css (cX (eY f l) (-1)):=
  ⟨b3.1,b3.vq,fun j cs q k1 k2=>(b3.2 j cs q k1 k2).cI fun g hg=>⟨⟨hg.1.new.dA r.cD aG,fun e=>by
   have h1:=hvo g e;rcases hg.1.new with h|h
   ·exact h
   ·omega⟩,hg.2⟩⟩
 generalize (R7.heap.size,RN.heap.size)::OR=QZ at*
 obtain⟨a8,c8,rfl,hc8⟩:∃a c,v8= .slice a (3*f.nodes.length) c∧3*f.nodes.length<=c:=by
  rcases b1.2 with⟨e,h0⟩|⟨g,cap,cur,e,_,_,hn,_⟩
  ·exact⟨none,0,by rw[e,h0],by omega⟩
  ·exact⟨_,_,e,hn⟩
 refine cC (cM (Φ:=fun _ w' v w2=>cQ w2 (Nf w' w2) v (cS (cO f) f.cols)) (fun O w' r=>Fo (oS hS r) (hf.cH (kS hw r hS)) Oh PH) ?_);rintro O Q1 v9 QU r he hb hn;replace hw:=hw.tr hb;have PI:∀p,p∈QZ->p∈(Q1.heap.size,QU.heap.size)::QZ:=fun p hp=>List.mem_cons_of_mem _ hp;have Pk:∀g,Cf w QZ g->QU.heap[g]? =RN.heap[g]? :=fun g hg=>(he.block g (Rel.old r (cB w) g hg)).trans (Rel.same r (cB w) hg);have Od:∀g,Cf w QZ g->g<Q1.heap.size:=fun g hg=>Rel.old r (cB w) g hg;replace hMo:=ownsRow.cH hMo fun g hg=>Pk g (Vk g hg).1;replace b1:=ownsRow.cH b1 fun g hg=>Pk g (Rs g hg);replace hRr:=dR.cI (S':=(fun g=>Bs FF w.heap.size ((Q1.heap.size,QU.heap.size)::QZ) (.slice am (cO f).length cm) g∧(Value.slice a8 (3*f.nodes.length) c8).ownBlock≠some g)) (dR.cH hRr fun g hg=>Pk g hg.1.1) fun g hg=>⟨Bs.mono PI hg.1,hg.2⟩
 replace hGb:=eD.cI (S':=(fun g=>Bs FF w.heap.size ((Q1.heap.size,QU.heap.size)::QZ) (.slice am (cO f).length cm) g∧(Value.slice a8 (3*f.nodes.length) c8).ownBlock≠some g)) (eD.cH hGb fun g hg=>Pk g hg.1.1) fun g hg=>⟨Bs.mono PI hg.1,hg.2⟩
 have hK:cQ QU (fun g=>Bs FF w.heap.size ((Q1.heap.size,QU.heap.size)::QZ) (.slice am (cO f).length cm) g∧(Value.slice a8 (3*f.nodes.length) c8).ownBlock≠some g) v9 (cS (cO f) f.cols):=cQ.cI hn fun g hg=>⟨Bs.fresh r (fun g e=>Od g (Vk g e).1) hg,fun e=>by
  have h1:=Od g (Rs g e);rcases hg with h|h
  ·exact h
  ·omega⟩
 replace Vk:∀g,(Value.slice am (cO f).length cm).ownBlock=some g->Cf w ((Q1.heap.size,QU.heap.size)::QZ) g∧(Value.slice a8 (3*f.nodes.length) c8).ownBlock≠some g:=fun g hg=>⟨(Vk g hg).1.mono PI,(Vk g hg).2⟩
 replace Rs:∀g,(Value.slice a8 (3*f.nodes.length) c8).ownBlock=some g->Cf w ((Q1.heap.size,QU.heap.size)::QZ) g:=fun g hg=>(Rs g hg).mono PI;generalize (Q1.heap.size,QU.heap.size)::QZ=Qn at*
 obtain⟨ak,ck,rfl,-,-⟩:=dD.shape hK
 refine⟨Nat×List Value×List (List Value)×World×Iv,fun z=>⟨[(2,pP 0 0),(8,.o (.w 1 z.2.1.length)),(9,.o (.w 2 z.2.2.1.length)),(10,.o (.v (.slice ak (cS (cO f) f.cols).length ck))),(11,iN z.1)],[(1,.vec T.fU 1 z.2.1),(2,.vec T.Rat 4 z.2.2.1.flatten),(0,.box T.Frame [.v (.slice an f.nodes.length cn),.v (.slice ab f.bars.length cb),.v (.slice aq f.cV.length cq)])],3,z.2.2.2.2,z.2.2.2.1⟩,fun z=>(cS (cO f) f.cols).length-z.1,
  fun z=>z.1<=(cS (cO f) f.cols).length∧dm w.heap.size w z.2.2.2.1∧dR z.2.2.2.1 (Cf w z.2.2.2.2) z.2.1 (cO f++((cS (cO f) f.cols).take z.1).map (pL f))∧eD z.2.2.2.1 (Cf w z.2.2.2.2) z.2.2.1 (cX (eY f l) (-1)++iB z.1)∧cQ z.2.2.2.1 (Cf w z.2.2.2.2) (.slice ak (cS (cO f) f.cols).length ck) (cS (cO f) f.cols),?_,?_⟩
 ·intro O w' r3;have Un:∀g,((fun g=>Bs FF w.heap.size Qn (.slice am (cO f).length cm) g∧(Value.slice a8 (3*f.nodes.length) c8).ownBlock≠some g)) g->Cf w (wH (.slice a8 (3*f.nodes.length) c8) (wH (.slice am (cO f).length cm) Qn)) g:=fun g hg=>(hg.1.1.cut hg.1.2).cut hg.2;have Qo:∀g,((fun g=>Bs FF w.heap.size Qn (.slice am (cO f).length cm) g∧(Value.slice a8 (3*f.nodes.length) c8).ownBlock≠some g)) g->w'.heap[g]? =QU.heap[g]? :=fun g hg=>Rel.same r3 (cB w) hg.1.1;refine⟨(0,rv,css,w',wH (.slice a8 (3*f.nodes.length) c8) (wH (.slice am (cO f).length cm) Qn)),⟨aP _,hw.tr r3.cP,by dsimp only;rw[List.take_zero,List.map_nil,List.append_nil];exact dR.cI (dR.cH hRr Qo) Un,by dsimp only;rw[show cX (eY f l) (-1)++iB 0=cX (eY f l) (-1)from List.append_nil _];exact eD.cI (eD.cH hGb Qo) Un,cQ.cI (cQ.cH hK Qo) Un⟩,?_⟩;refine Sub.B4 8 (cO f).length rfl (by simp[jX,SV.sc,At.sc,fT]) r3 (ownsRow.cH hMo fun g hg=>Rel.same r3 (cB w) (Vk g hg).1) (fun g hg=>(Vk g hg).1.elim (fun h=>h.elim) fun h=>h.1) (fun g hg=>Rel.not r3 (cB w) (Vk g hg).1) fun ρ1 r1=>?_;refine Sub.B4 9 (3*f.nodes.length) rfl (by simp[jX,SV.sc,At.sc,fT]) r1 (ownsRow.cH b1 fun g hg=>Rel.same r3 (cB w) (Rs g hg)) (fun g hg=>(Rs g hg).elim (fun h=>h.elim) fun h=>h.1) (fun g hg=>Rel.not r1 (cB w) ((Rs g hg).cut fun e=>(Vk g e).2 hg)) fun ρ2 r2=>?_;exact Sub.gn [] r2 (hE:=⟨rfl,by dsimp only;rw[hRr.1];rfl,by dsimp only;rw[b2];rfl,rfl,rfl,trivial⟩)
 rintro⟨i,rv,rc,w10,iv⟩ ⟨hi,hw,hR,hG,hK⟩;dsimp only at hi hw hR hG hK ⊢;have Ok:rv.length=(cO f).length+i:=by rw[hR.1,List.length_append,aJ,aW];omega
 have hgl:rc.length=(cO f).length+i:=by rw[hG.len,List.length_append,iB,bF,Sb]
 have hgf:=eN hG.four;refine dM.mk ?_ ?_<;>intro OF
 ·have OF:i<(cS (cO f) f.cols).length:=by have:=aI OF;omega
  obtain⟨s,hs⟩:∃s,(cS (cO f) f.cols)[i]? =some s:=⟨_,aB OF⟩
  have RS:s.length=f.cols:=Vh s (aC hs);have UO:=PF.LU s (aC hs);obtain⟨adm,um,Qs,PK,km,kn⟩:=dD.load hK hs;obtain⟨as1,cs1,rfl,-,-⟩:=cY.shape PK;refine cK hτ dZ [.x 0,.x 1,.x 2,.x 3,.x 4,.x 5,.x 9,.x 6,.x 7,.x 8,.x 10,.x 11,.x 12,.x 13,.x 14] (by kernel_rfl) (by kernel_rfl) ?_;refine⟨adm,Qs,by omega,.slice as1 s.length cs1,fun O w' r=>?_,?_⟩
  ·rw[aE,cG (w:=w10) (w2:=w') (by rw[dE];exact Rel.same r (cB w) km)];exact kn
  refine cE hw (fun _ w' v w2=>cJ w2 (Nf w' w2) v (pL f s)) (fun O w' r=>Fw (S:=fun g=>S g∨Cf w iv g) (fun g hg=>hg.elim (oS hS r g) (Rel.old r (cB w) g)) (dS.cI (hf.cH (kS hw r hS)) fun g hg=>.inl hg) ⟨PH.b,PH.s⟩ (cR.cI (cJ.l (cJ.rel PK r (cB w)) fun q hq=>by have:=UO q hq;omega) fun g hg=>.inr hg) (by omega)) ?_;rintro O _ _ _ QV r he hw h_ hn;replace hR:=dR.cF hR r (cB w) he (mC h_);replace hG:=eD.cF hG r (cB w) he (mC h_);replace hK:=cQ.cF hK r (cB w) he (mC h_);have hW:=cJ.dA (S:=FF) hn r.cD (mN h_);obtain⟨aw,cw,rfl,-,-⟩:=cY.shape hW;refine .inl ?_;refine⟨by simp,by omega,by unfold maxLen;omega,?_⟩;refine cE hw (fun _ w' v w2=>cU w2 (Nf w' w2) v (((0:Int)):Rat)) (fun O w' r=>lz 0 w' (by decide)) ?_;rintro O _ _ _ iv12 r he hw h_ hn;replace hR:=dR.cF hR r (cB w) he (mC h_);replace hG:=eD.cF hG r (cB w) he (mC h_);replace hK:=cQ.cF hK r (cB w) he (mC h_);replace hW:=cJ.cF hW r (cB w) he (mC h_);have hd:=hn.dA (S:=FF) r.cD (mN h_);obtain⟨A0,A1,A2,A3,A4,A5,A6,A7,rfl⟩:=hd.shape;have S5:=hG.push (cs:=[.bool A0,.slice A1 A2 A3,.bool A4,.slice A5 A6 A7]) (q:=((0:Int):Rat)) ⟨_,_,_,_,_,_,_,_,rfl,hd⟩ rfl;rw[show (cX (eY f l) (-1)++iB i)++[((0:Int):Rat)]=cX (eY f l) (-1)++iB (i+1) by rw[iB,iB,List.replicate_succ',bY];rfl]at S5;have QR:rc.flatten++([.bool A0,.slice A1 A2 A3,.bool A4,.slice A5 A6 A7]:List Value)=(rc++([[.bool A0,.slice A1 A2 A3,.bool A4,.slice A5 A6 A7]]:List (List Value))).flatten:=by simp
  have Qh:=hR.push (u:=.slice aw (pL f s).length cw) (x:=pL f s) rfl hW;rw[bY,show((cS (cO f) f.cols).take i).map (pL f)++[pL f s]=((cS (cO f) f.cols).take (i+1)).map (pL f) by rw[List.take_add_one,hs];simp]at Qh;refine .inl ?_;refine⟨by omega,by omega,by unfold maxLen;omega,((i+1:Nat):Int),wo,?_⟩;intro ρ3 w6 r3;exact⟨(i+1,rv++[.slice aw (pL f s).length cw],rc++[[.bool A0,.slice A1 A2 A3,.bool A4,.slice A5 A6 A7]],w6,_),⟨OF,hw.tr r3.cP,Qh.rel r3 (cB w),S5.rel r3 (cB w),cQ.rel hK r3 (cB w)⟩,Sub.gn [(1,4),(2,6)] r3 ⟨rfl,by dsimp only;rw[<-QR];rfl,rfl,trivial⟩ ⟨rfl,by dsimp only;rw[List.length_append,List.length_singleton];rfl,by dsimp only;rw[List.length_append,List.length_singleton];rfl,rfl,rfl,trivial⟩,by dsimp only;omega⟩
 have OF:i=(cS (cO f) f.cols).length:=by have:=aH OF;omega
 rw[OF,bC,<-Fy]at hR;rw[OF]at hG;have hfl3:(jh (cO f) f.cols fun t=>(cW f).getD t 0).length=(cO f).length+(cS (cO f) f.cols).length:=jB;have hwF:=PF.MS Pg Sb;have hzF:=PF.Ke (b:=cX (eY f l) (-1)++iB (cS (cO f) f.cols).length)
 refine cC (cE hw (fun _ w' v w2=>∃vx,v= .tuple #[vx,.bool true]∧cJ w2 (Nf w' w2) vx (kU (cS (cO f) f.cols) c x0 (cS (cO f) f.cols).length)) (fun O w' r=>(CU (S:=(fun g=>g<w'.heap.size)) (M:=jh (cO f) f.cols fun t=>(cW f).getD t 0) (b:=cX (eY f l) (-1)++iB (cS (cO f) f.cols).length) (n:=f.cols) (h0:=2080) (fun g hg=>hg) ⟨rv,by rw[<-hR.1];exact r.ua (T:=(fun g=>g<w'.heap.size)) (id:=1) (sz:=1) (m:=rv.length) rfl (by simp) (by unfold maxLen;omega) (by decide) hR.2.1 fun hn=>(r.low 1 _ rfl hn).2,hR.1,fun a u x h1 h2=>cJ.cI (cJ.rel (hR.2.2 a u x h1 h2) r (cB w)) fun g hg=>Rel.old r (cB w) g hg⟩ (eD.list ((hG.rel r (cB w)).cI fun g hg=>Rel.old r (cB w) g hg) (r.ua (T:=(fun g=>g<w'.heap.size)) (id:=2) (sz:=4) (m:=rc.length) rfl hgf (by unfold maxLen;omega) (by decide) hG.one fun hn=>(r.low 2 _ rfl hn).2)) (qn hlen) (PH.col.imp (fun h=>by rw[hfl3,Qe];omega) id) (by rw[hfl3,List.length_append,Sb,iB,bF]) (fun q hq=>by
  rcases bG.1 hq with h|h
  ·have:=Rr q h;omega
  ·rw[bP h];decide) (fun r hr q hq=>by have:=PF.aAF r hr q hq;omega) (by omega) (by omega) (fun c hc=>ND (ga (qn hlen)) hwF lV (by omega) (by omega)) (by decide)).mono fun _ _ ⟨v2,e1,e2,e3⟩=>⟨v2,e1,e2,by
  rcases e3 with⟨h1,_⟩|⟨x2,vx,h1,h2,h3⟩
  ·rw[WM]at h1;cases h1
  ·rw[WM]at h1;injection h1 with h1;subst h1;exact⟨vx,h2,h3⟩⟩) ?_)
 rintro O _ _ _ iv14 r he hw h_ ⟨vx2,rfl,hn⟩;have hX:=cJ.dA (S:=FF) hn r.cD (mN h_);obtain⟨ax2,cx2,rfl,-,-⟩:=cY.shape hX;exact rtn hw fun ρe we re=>.inr ⟨_,_,Vf,rfl,cJ.out hX re (cB w)⟩
abbrev HX(f:eh):Nat->Rat:=fun t=>(cW f).getD t 0
theorem Dm(hx:x.length=f.cols):(EqB f l 1 x∧¬∃s∈cS (cO f) f.cols,eF (eO x (cW f)) s (eO x (cW f)).length≠0)↔jt (cO f) f.cols (HX f) (cX (eY f l) (-1)) x:=by
 have SN:(eO x (cW f)).length=f.cols:=by rw[iD,hx]
 have hmul:∀j,j<(cO f).length->(jg (cO f) x).getD j 0=mulR (cO f) f.cols (fun t=>x.getD t 0) j:=fun j hj=>by
  have hr:=aB hj;rw[getD_some (CV hr),wh,ed f _ (aX hj)];exact cL fun t _=>by rw[dL,getD_some hr]
 have QD:∀s∈cS (cO f) f.cols,∀k,(cS (cO f) f.cols)[k]? =some s->eF (eO x (cW f)) s (eO x (cW f)).length=tA (HX f) (dL (cS (cO f) f.cols) k) (fun t=>x.getD t 0) f.cols:=fun s _ k hk=>by
  rw[wh,SN];refine cL fun t ht=>?_;rw[lW (by omega),dL,getD_some hk];show x.getD t 0*(cW f).getD t 0*s.getD t 0=(cW f).getD t 0*(s.getD t 0*x.getD t 0)
  grind
 constructor
 ·rintro⟨⟨h1,h2⟩,h3⟩;refine⟨hx,fun j hj=>?_,fun k hk=>?_⟩
  ·rw[<-hmul j hj,h2]
  ·have hs:=aB hk;rw[<-QD _ (aX hk) k hs];exact Decidable.byContradiction fun h=>h3 ⟨_,aX hk,h⟩
 ·intro h;refine⟨⟨hx,fw 0 (by rw[iQ,cX,aJ,fz,fc]) fun j hj=>?_⟩,?_⟩
  ·rw[iQ]at hj;rw[hmul j hj];exact h.eq j hj
  ·rintro⟨s,hs,h0⟩;obtain⟨k,hk⟩:=aS hs;exact h0 (by rw[QD s hs k hk];exact h.st k (aD.1 hk).1)
set_option maxRecDepth 8000 in
theorem kF(hS:Old S w)(hf:dS w S vn vb vs f)(hl:ff w S vl l)(Rq:eV f=0->rO f):
  di PG N.lX #[.agg #[vn,vb,vs],vl] w (dw w fun v' w2=>(jI f l≠0∧v'= .tuple #[.slice none 0 0,.int .i64 (jI f l)])∨(jI f l=0∧((fD (cO f) (cX (eY f l) (-1)) f.cols=none∧v'= .tuple #[.slice none 0 0,.int .i64 17])∨∃x vx,jt (cO f) f.cols (HX f) (cX (eY f l) (-1)) x∧v'= .tuple #[vx,.int .i64 0]∧cJ w2 (Nf w w2) vx x))):=by
 have hw:=bR w;obtain⟨an,cn,ab,cb,aq,cq,rfl,rfl,rfl,Q6,Qm,RH⟩:=hf.shape;obtain⟨al,cl,rfl,PV,Ql⟩:=hl.shape;obtain⟨e0,EE⟩:∃e,jI f l=e:=⟨_,rfl⟩
 refine mf (by simp) ?_;refine cC (cE hw (fun _ w' v w2=>v= .int .i64 e0) (fun O w' r=>(jm (oS hS r) (hf.cH (kS hw r hS)) (hl.cH (kS hw r hS))).mono fun _ _ ⟨v2,e1,e2,e3⟩=>⟨v2,e1,e2,by rw[e3,EE]⟩) ?_);rintro O _ _ _ OM r he hw h_ rfl;refine dM.mk ?_ ?_<;>intro he
 ·have he:e0≠0:=by simpa using he
  exact rtn hw fun ρe we re=>.inl ⟨by rw[EE];exact he,by rw[EE];rfl⟩
 have he:e0=0:=by simpa using he
 have SN:jI f l=0:=by rw[EE,he]
 obtain⟨Oh,Pu⟩:=kD SN;have PF:=Rq Oh;have PH:=PF.toFrS;have Pu:=yP Pu;have Uk:=PH.Lw;have S8:=PH.Ka;have Qe:=fc f;have hlen:=ed f;have hn4:=PH.n4;have OI:=mS Oh;have SD:=fz f l;have VB:f.cols=f.bars.length+f.cV.length:=rfl;refine cK hτ dZ [.x 0,.x 1,.x 2,.x 3,.x 4,.x 5,.x 6,.x 7,.x 8,.x 9] (by kernel_rfl) (by kernel_rfl) ?_;refine cE hw (fun _ w' v w2=>cJ w2 (Nf w' w2) v (eY f l)∧∀q∈eY f l,rl q<=1) (fun O w' r=>(qu (oS hS r) (hl.cH (kS hw r hS)) PH.n Pu rfl rfl).mono fun _ _ ⟨v2,e1,e2,e3,e4⟩=>⟨v2,e1,e2,cJ.cI e3.c fun g hg=>hg.new,e4⟩) ?_;rintro O _ _ _ OJ r he hw h_ ⟨hn,TT⟩;have hP:=cJ.dA (S:=FF) hn r.cD (mN h_);obtain⟨ap,cp,rfl,-,-⟩:=cY.shape hP;rw[SD];refine cM (Φ:=fun _ w' v w2=>(fD (cO f) (cX (eY f l) (-1)) f.cols=none∧v= .tuple #[.slice none 0 0,.bool false])∨∃x vx,jt (cO f) f.cols (HX f) (cX (eY f l) (-1)) x∧v= .tuple #[vx,.bool true]∧cJ w2 (Nf w' w2) vx x) (fun O w' r=>JU (S:=fun g=>S g∨Cf w OJ g) (fun g hg=>hg.elim (oS hS r g) (Rel.old r (cB w) g)) (dS.cI (hf.cH (kS hw r hS)) fun g hg=>.inl hg) Oh PF (cJ.cI (by have:=cJ.rel hP r (cB w);rw[SD]at this;exact this) fun g hg=>.inr hg) SD (fun q hq=>by have:=TT q hq;omega) (Dl Pu)) ?_;rintro O PX v3 PU r he hb (⟨R9,rfl⟩|⟨x,vx,hx,rfl,hn⟩)
 ·replace hw:=hw.tr hb;exact rtn hw fun ρe we re=>.inr ⟨SN,.inl ⟨R9,rfl⟩⟩
 replace hw:=hw.tr hb;have hX:=cJ.dA (S:=FF) hn r.cD (iv:=(PX.heap.size,PU.heap.size)::OJ) aG;generalize (PX.heap.size,PU.heap.size)::OJ=ivx at*
 obtain⟨ax,cx,rfl,-,-⟩:=cY.shape hX;exact rtn hw fun ρe we re=>.inr ⟨SN,.inr ⟨x,_,hx,rfl,cJ.out hX re (cB w)⟩⟩
theorem LV(hS:Old S w)(hb:cR w S vb bent)(OW:S ad.block)(OS:w.cell? ad=some vb)(Rr:∀q∈bent,rl q<=159)(Pg:bent.length<=18)(hs:cR w S v s)(RS:s.length=bent.length)(UO:∀q∈s,rl q<=14):
  di PG N.fK #[v,.pointer (some ad)] w (dw w fun v' _=>v'= .bool (decide (eF bent s bent.length≠0))):=by
 have hw:=bR w;obtain⟨as_,cs,rfl,-,-⟩:=cY.shape hs;obtain⟨ab,cb,rfl,-,-⟩:=cY.shape hb;refine nC (by simp) ?_;refine⟨.slice ab bent.length cb,fun O w' r=>?_,?_⟩
 ·rw[cG (w:=w) (w2:=w') ((hw.tr r.cP).block _ (hS _ OW))];exact OS
 refine cC (cE hw (fun _ w' v w2=>cU w2 (Nf w' w2) v (eF bent s bent.length)) (fun O w' r=>DZ (h:=160) (oS hS r) (cR.cH hb (kS hw r hS)) (cR.cH hs (kS hw r hS)) (by omega) (fun q hq=>by have:=Rr q hq;omega) (fun q hq=>by have:=UO q hq;omega) (by decide) (by omega)) ?_);rintro O _ _ _ OM r he hw h_ hn;have hd:=hn.dA (S:=FF) r.cD (mN h_);obtain⟨A0,A1,A2,A3,A4,A5,A6,A7,rfl⟩:=hd.shape;have hdr:=qS (h:=160) (xs:=bent) (ys:=s) (fun q hq=>by have:=Rr q hq;omega) (fun q hq=>by have:=UO q hq;omega) (by decide) bent.length;refine cC (cE hw (fun _ w' v w2=>∃d,v= .bool d∧(d=true↔eF bent s bent.length=0)) (fun O w' r=>mh (S:=Cf w OM) (Rel.old r (cB w)) ((hd.rel r (cB w)).l (by omega))) ?_);rintro O _ _ _ OJ r he hw h_ ⟨d,rfl,RT⟩;intro ρe we re
 exact⟨_,rfl,hw.tr re.cP,by show Value.bool (!d)=_;cases d with
  |true=>simp[RT.1 rfl]
  |false=>
   have h0:eF bent s bent.length≠0:=fun h=>by have:=RT.2 h;cases this
   simp[h0]⟩
theorem Dn(hS:Old S w)(hb:cR w S vb bent)(OW:S ad.block)(OS:w.cell? ad=some vb)(Rr:∀q∈bent,rl q<=159)(Pg:bent.length<=18)(hK:cQ w S v K)(Vh:∀s∈K,s.length=bent.length)(Vg:∀s∈K,∀q∈s,rl q<=14):
  di PG N.fG #[v,(.func (.func N.fK) #[] #[.pointer (some ad)])] w (dw w fun v' _=>∃z:Int,v'= .int .i64 z∧ -1<=z∧z<=9223372036854775807∧(0<=z↔∃x∈K,eF bent x bent.length≠0)):=by
 have hw:=bR w;obtain⟨ak,ck,rfl,-,TU⟩:=dD.shape hK;unfold maxLen at TU;refine gq (by simp) ?_
 refine⟨Nat×World×Iv,fun z=>⟨[(0,sV ak K.length ck),(1,.o (.v (.func (.func N.fK) #[] #[.pointer (some ad)]))),(7,iZ K.length),(8,iN z.1)],[],0,z.2.2,z.2.1⟩,fun z=>K.length-z.1,
  fun z=>z.1<=K.length∧dm w.heap.size w z.2.1∧∀j x,j<z.1->K[j]? =some x->eF bent x bent.length=0,?_,?_⟩
 ·intro O w' r;exact⟨(0,w',[]),⟨by simp,r.cP,by simp⟩,Sub.gn [] r⟩
 rintro⟨i,w1,iv⟩ ⟨hi,hw,ht⟩;dsimp only at hi hw ht ⊢;refine dM.mk ?_ ?_<;>intro OF
 ·have OF:i<K.length:=by simpa using OF
  obtain⟨x,PZ⟩:∃x,K[i]? =some x:=⟨_,aB OF⟩
  have hxm:=aC PZ;obtain⟨adm,um,Qs,PK,km,kn⟩:=dD.load hK PZ;obtain⟨as1,cs1,rfl,-,-⟩:=cY.shape PK;refine⟨adm,Qs,by omega,.slice as1 x.length cs1,rd1 kn hw (hS _ km),?_⟩;refine cC (cE hw (fun _ w' v w2=>v= .bool (decide (eF bent x bent.length≠0))) (fun O w' r=>LV (oS hS r) (cR.cH hb (kS hw r hS)) OW (by rw[cG (w:=w) ((hw.tr r.cP).block _ (hS _ OW))];exact OS) Rr Pg (cR.cH (cJ.l PK fun q hq=>by have:=Vg x hxm q hq;omega) (kS hw r hS)) (Vh x hxm) (Vg x hxm)) ?_);rintro O _ _ _ OM r he hw h_ rfl;refine dM.mk ?_ ?_<;>intro he
  ·have Tb:eF bent x bent.length≠0:=by simpa using he
   exact rtn hw fun ρe we re=>⟨_,rfl,by omega,by omega,iff_of_true (by omega) ⟨x,hxm,Tb⟩⟩
  have Tb:eF bent x bent.length=0:=by simpa using he
  refine⟨((i+1:Nat):Int),wo,?_⟩;intro ρ3 w3 r3;refine⟨(i+1,w3,_),⟨OF,hw.tr r3.cP,fun j y hj hy=>?_⟩,Sub.gn [] r3,by dsimp only;omega⟩;rcases aO j i with h|h
  ·exact ht j y h hy
  obtain rfl:j=i:=by dsimp only at hj;omega
  rw[PZ]at hy;injection hy with hy;rw[<-hy,Tb]
 have OF:i=K.length:=aQ hi (by simpa using OF);intro ρe we re
 exact⟨_,rfl,hw.tr re.cP,⟨_,rfl,by omega,by omega,iff_of_false (by omega) fun⟨x,hm,h0⟩=>by
   obtain⟨j,hj⟩:=aS hm;have Sf:j<K.length:=(aD.1 hj).1
   exact h0 (ht j x (by omega) hj)⟩⟩
theorem xy(hS:Old S w)(hb:cR w S vb bent)(OW:S ad.block)(OS:w.cell? ad=some vb)(Rr:∀q∈bent,rl q<=159)(Pg:bent.length<=18)(hK:cQ w S v K)(Vh:∀s∈K,s.length=bent.length)(Vg:∀s∈K,∀q∈s,rl q<=14):
  di PG N.eo #[v,(.func (.func N.fK) #[] #[.pointer (some ad)])] w (dw w fun v' _=>v'= .bool (decide (∃x∈K,eF bent x bent.length≠0))):=by
 have hw:=bR w;have R0:=hK;obtain⟨ax,cx,rfl,Sl,-⟩:=dD.shape R0;refine gT (by simp) ?_;refine cC (cE hw (fun _ w' v w2=>∃z:Int,v= .int .i64 z∧ -1<=z∧z<=9223372036854775807∧(0<=z↔∃x∈K,eF bent x bent.length≠0)) (fun O w' r=>Dn (oS hS r) (cR.cH hb (kS hw r hS)) OW (by rw[cG (w:=w) ((hw.tr r.cP).block _ (hS _ OW))];exact OS) Rr Pg (cQ.cH hK (kS hw r hS)) Vh Vg) ?_);rintro O _ _ _ OM r he hw h_ ⟨z,rfl,OU,Ox,hz⟩;exact rtn hw fun ρe we re=>by rw[show decide (∃x∈K,eF bent x bent.length≠0)=decide (z≥0)from Bool.eq_iff_iff.2 (by rw[decide_eq_true_eq,decide_eq_true_eq];exact hz.symm)];rfl
set_option maxRecDepth 8000 in
set_option maxHeartbeats 1000000 in
theorem fF(hS:Old S w)(hf:dS w S vn vb vs f)(hl:ff w S vl l)(Rq:eV f=0->rO f){vx:Value}(hx:cR w S vx x)(UA:∀q∈x,rl q<=152):
  di PG N.kh #[.agg #[vn,vb,vs],vl,vx] w (dw w fun v' _=>(jI f l≠0∧v'= .int .i64 (jI f l))∨(jI f l=0∧((x.length≠f.cols∧v'= .int .i64 11)∨(x.length=f.cols∧((v'= .int .i64 0∧jt (cO f) f.cols (HX f) (cX (eY f l) (-1)) x)∨(v'= .int .i64 25∧¬jt (cO f) f.cols (HX f) (cX (eY f l) (-1)) x)))))):=by
 have hw:=bR w;obtain⟨an,cn,ab,cb,aq,cq,rfl,rfl,rfl,Q6,Qm,RH⟩:=hf.shape;obtain⟨al,cl,rfl,PV,Ql⟩:=hl.shape;obtain⟨e0,EE⟩:∃e,jI f l=e:=⟨_,rfl⟩
 obtain⟨ax,cx,rfl,Sl,Uw⟩:=cY.shape hx;unfold maxLen at Uw;refine oU (by simp) ?_;refine cC (cE hw (fun _ w' v w2=>v= .int .i64 e0) (fun O w' r=>(jm (oS hS r) (hf.cH (kS hw r hS)) (hl.cH (kS hw r hS))).mono fun _ _ ⟨v2,e1,e2,e3⟩=>⟨v2,e1,e2,by rw[e3,EE]⟩) ?_);rintro O _ _ _ OM r he hw h_ rfl;refine dM.mk ?_ ?_<;>intro he
 ·have he:e0≠0:=by simpa using he
  exact rtn hw fun ρe we re=>.inl ⟨by rw[EE];exact he,by rw[EE];rfl⟩
 have he:e0=0:=by simpa using he
 have SN:jI f l=0:=by rw[EE,he]
 obtain⟨Oh,Pu⟩:=kD SN;have PF:=Rq Oh;have PH:=PF.toFrS;have Pu:=yP Pu;have Uk:=PH.Lw;have S8:=PH.Ka;have Qe:=fc f;have hlen:=ed f;have hn4:=PH.n4;have OI:=mS Oh;have SD:=fz f l;have VB:f.cols=f.bars.length+f.cV.length:=rfl;refine cC (cE hw (fun _ w' v w2=>v= .int .i64 (if x.length≠f.cols then 11 else 0)) (fun O w' r=>Dh (hf.cH (kS hw r hS)) ⟨PH.b,PH.s⟩) ?_);rintro O _ v2 _ OJ r he hw h_ rfl;by_cases OX:x.length≠f.cols
 ·rw[if_pos OX];exact rtn hw fun ρe we re=>.inr ⟨SN,.inl ⟨OX,rfl⟩⟩
 rw[aL OX];have PO:x.length=f.cols:=by simpa using OX
 refine cC (cE hw (fun _ w' v w2=>∃vr,v= .agg #[vr,.int .i64 f.cols]∧cQ w2 (Nf w' w2) vr (cO f)) (fun O w' r=>(ll (S:=S) (oS hS r) (hf.cH (kS hw r hS)) OI).mono fun _ _ ⟨v2,e1,e2,e3,_⟩=>⟨v2,e1,e2,e3⟩) ?_);rintro O _ _ _ OP r he hw h_ ⟨vr,rfl,hn⟩;have hM:=cQ.dA (S:=FF) hn r.cD (mN h_);obtain⟨am,cm,rfl,-,-⟩:=dD.shape hM;refine cK hτ dZ [.x 0,.x 1,.x 2,.x 3,.x 4,.x 5,.x 6] (by kernel_rfl) (by kernel_rfl) ?_;refine cE hw (fun _ w' v w2=>cJ w2 (Nf w' w2) v (eY f l)∧∀q∈eY f l,rl q<=1) (fun O w' r=>(qu (oS hS r) (hl.cH (kS hw r hS)) PH.n Pu rfl rfl).mono fun _ _ ⟨v2,e1,e2,e3,e4⟩=>⟨v2,e1,e2,cJ.cI e3.c fun g hg=>hg.new,e4⟩) ?_;rintro O _ _ _ OR r he hw h_ ⟨hn,TT⟩;replace hM:=cQ.cF hM r (cB w) he (mC h_);have hP:=cJ.dA (S:=FF) hn r.cD (mN h_);obtain⟨ap,cp,rfl,-,-⟩:=cY.shape hP;rw[SD];refine cE hw (fun _ w' v w2=>∃d,v= .bool d∧(d=true↔EqB f l 1 x)) (fun O w' r=>(Fp (S:=fun g=>S g∨Cf w OR g) (h0:=160) (p:=eY f l) hlen (fun y hy q hq=>by have:=HU PH y hy q hq;omega) (fun q hq=>by have:=UA q hq;omega) (by decide) (by omega) (by decide) (by omega) (fun g hg=>hg.elim (oS hS r g) (Rel.old r (cB w) g)) (cQ.cI (cQ.rel hM r (cB w)) fun g hg=>.inr hg) (cR.cI (cR.cH hx (kS hw r hS)) fun g hg=>.inl hg) (cR.cI (cJ.l (by have:=cJ.rel hP r (cB w);rw[SD]at this;exact this) fun q hq=>by have:=TT q hq;omega) fun g hg=>.inr hg) (by rw[SD,Qe]) TT).mono fun _ _ ⟨v2,e1,e2,d,e3,e4⟩=>⟨v2,e1,e2,d,e3,e4.trans Dj⟩) ?_;rintro O _ _ _ Ou r he hw h_ ⟨d,rfl,hd⟩;replace hM:=cQ.cF hM r (cB w) he (mC h_)
 cases d
 ·exact rtn hw fun ρe we re=>.inr ⟨SN,.inr ⟨PO,.inr ⟨rfl,fun h=>by have:=hd.2 ((Dm PO).2 h).1;cases this⟩⟩⟩
 have heq:=hd.1 rfl;refine cC (cM (Φ:=fun _ w' v w2=>cR w2 (Nw S w' w2) v (cW f)) (fun O w' r=>qv (S:=S) (oS hS r) (hf.cH (kS hw r hS)) OI) ?_);rintro O Qx v6 RA r he hb hn;replace hw:=hw.tr hb;replace hM:=cQ.cF (iv':=(Qx.heap.size,RA.heap.size)::Ou) hM r (cB w) he fun x hx=>List.mem_cons_of_mem _ hx;have hL:=cR.cI (S':=Cv S w.heap.size ((Qx.heap.size,RA.heap.size)::Ou)) hn fun g hg=>hg.elim .inl fun h=>.inr ⟨by have:=r.cD;omega,_,_,aG,h.1,h.2⟩;generalize (Qx.heap.size,RA.heap.size)::Ou=Q7 at*
 obtain⟨afl,cfl,rfl,-,-⟩:=cY.shape hL;have Rr:∀q∈eO x (cW f),rl q<=159:=fun q hq=>by
  obtain⟨t,ht⟩:=aS hq;have Tk:t<x.length:=by have:=(aD.1 ht).1;rw[iD]at this;exact this
  have h1:=lW (a:=x) (b:=cW f) Tk;rw[getD_some ht]at h1;have h2:=j0 (x.getD t 0) ((cW f).getD t 0);have h3:=UA (x.getD t 0) (by rw[getD_some (aB Tk)];exact aX _);have h4:=PF.fxD (t:=t) (by omega);rw[h1];omega
 have hel2:(eO x (cW f)).length=x.length:=iD _ _;refine cC (cE hw (fun _ w' v w2=>cJ w2 (Nf w' w2) v (eO x (cW f))) (fun O w' r=>(D2 (S:=Cv S w.heap.size Q7) (Rel.old r hS) (cR.cI (cR.cH hx (kS hw r hS)) fun g hg=>.inl hg) (cR.rel hL r hS) (by rw[PO,lF];exact aF _) (by omega)).mono fun _ _ ⟨v2,e1,e2,e3⟩=>⟨v2,e1,e2,cJ.cI e3.c fun g hg=>hg.new⟩) ?_);rintro O _ _ _ R4 r he hw h_ hn;replace hM:=cQ.cF hM r (cB w) he (mC h_);have hE:=cJ.dA (S:=FF) hn r.cD (mN h_);obtain⟨ae,ce,rfl,-,-⟩:=cY.shape hE;refine cC (cE hw (fun _ w' v w2=>cQ w2 (Nf w' w2) v (cS (cO f) f.cols)) (fun O w' r=>zO (M:=cO f) (n:=f.cols) hlen PF.mT▸Ab (C:=Cf w R4) (S:=Cf w R4) (h:=20) (Rel.old r (cB w)) (Rel.old r (cB w)) (cQ.rel hM r (cB w)) hlen (by omega) (by omega) (u9 hlen PF.mT (by decide) (by have:=PF.size;omega)) (Ac hlen PF.mT (by decide) (by have:=PF.size;omega)) (by decide)) ?_);rintro O _ _ _ QZ r he hw h_ hn;replace hE:=cJ.cF hE r (cB w) he (mC h_);have hK:=cQ.dA (S:=FF) hn r.cD (mN h_);obtain⟨ak,ck,rfl,-,-⟩:=dD.shape hK;obtain⟨b,UK⟩:∃b,decide (∃s∈cS (cO f) f.cols,eF (eO x (cW f)) s (eO x (cW f)).length≠0)=b:=⟨_,rfl⟩
 refine cC (cE hw (fun _ w' v w2=>v= .bool b) (fun O w' r=>(xy (S:=fun g=>g<w'.heap.size) (bent:=eO x (cW f)) (fun g hg=>hg) (cR.cI (cJ.l (cJ.rel hE r (cB w)) fun q hq=>by have:=Rr q hq;omega) fun g hg=>Rel.old r (cB w) g hg) (r.low 2 _ rfl (r.nn 2 _ rfl (by intros;simp) (by simp))).2 (by rw[cell_of (r.box 2 T.fU _ rfl)];rfl) Rr (by omega) (cQ.cI (cQ.rel hK r (cB w)) fun g hg=>Rel.old r (cB w) g hg) (fun s hs=>by rw[hel2,PO];exact ic _ _ s hs) (PF.LU)).mono fun _ _ ⟨v2,e1,e2,e3⟩=>⟨v2,e1,e2,by rw[e3,<-UK]⟩) ?_);rintro O _ _ _ Qn r he hw h_ rfl
 cases b
 ·exact rtn hw fun ρe we re=>.inr ⟨SN,.inr ⟨PO,.inl ⟨rfl,(Dm PO).1 ⟨heq,aH UK⟩⟩⟩⟩
 exact rtn hw fun ρe we re=>.inr ⟨SN,.inr ⟨PO,.inr ⟨rfl,fun h=>((Dm PO).2 h).2 (aI UK)⟩⟩⟩
end Go.Ex
