/- Texts L55 to X213: lemmas, each with its conditions. -/
import Derived.Test.YtgkpbdkechfgmaaGreatP15
namespace Go.Ex
open Go Go.Sx Go.Proofs
variable{M:List (List Rat)}{l:List Ld}{u x:List Rat}{n:Nat}{S:Nat->Prop}{O:Nat->Sx.dx}{v vb vn vs:Value}{w:World}{f:fA}
theorem zd(hM:fZ n M)(x:List Rat){j:Nat}(hj:j<M.length):(ew M x).getD j 0=mulR M n (fun t=>x.getD t 0) j:=by
 have hr:=aB hj;rw[getD_some (CA hr),kO,hM _ (aY hj)];exact cL fun t _=>by rw[dD,getD_some hr]
theorem Kn(h:ed (cP f) (cW (dI f l) (-1)) f.cols=some x):EqB f l 1 x:=by
 obtain⟨h1,h2⟩:=jx (fE f) h;refine⟨h1,fH 0 (by rw[ei,cW,aK,fM,e9]) fun i hi=>?_⟩;rw[ei]at hi;rw[zd (fE f) x hi,h2 i hi]
theorem Gk(h:ed (cP f) (cW (dI f l) (-1)) f.cols=none):
  ∃u∈cV (cd (cP f) f.cols) (cP f).length,dP (dI f l) u (dI f l).length≠0:=by
 obtain⟨y,y1,y2⟩:=lT (fE f) h;have hT:=eP (cP f) f.cols;obtain⟨c,hc⟩:=Cw (x:=y) hT fun j hj=>by
  rw[dY]at hj;rw[Bx hj];exact Eq.trans (cL fun i _=>bg _ _) (y1 j hj)
 refine Decidable.byContradiction fun Qy=>y2 ?_;have h0:∀k,k<(cV (cd (cP f) f.cols) (cP f).length).length->cZ (fun t=>dD (cV (cd (cP f) f.cols) (cP f).length) k t*(cW (dI f l) (-1)).getD t 0) (cP f).length=0:=fun k hk=>by
  have hz:dP (dI f l) (cV (cd (cP f) f.cols) (cP f).length)[k] (dI f l).length=0:=Decidable.byContradiction fun OD=>Qy ⟨_,aY hk,OD⟩;rw[kO,fM,<-e9 f]at hz;rw[cL (g:=fun t=>(-1)*((dI f l).getD t 0*((cV (cd (cP f) f.cols) (cP f).length)[k]).getD t 0)) fun t _=>by rw[dD,getD_some (aB hk),oN];grind,eR,hz];grind
 rw[cL (g:=fun t=>cZ (fun k=>c k*(dD (cV (cd (cP f) f.cols) (cP f).length) k t*(cW (dI f l) (-1)).getD t 0)) (cV (cd (cP f) f.cols) (cP f).length).length) fun t ht=>by
  rw[hc t ht,<-iy]
  exact cL fun k _=>by rw[Rat.mul_assoc],lP,cL (g:=fun _=>0) fun k hk=>by rw[eR,h0 k hk,bC],dm]
theorem Gl(hu:u∈cV (cd (cP f) f.cols) (cP f).length)(hw:dP (dI f l) u (dI f l).length≠0):Hx f l (cW u (1 / dP (dI f l) u (dI f l).length)):=by
 have hT:=eP (cP f) f.cols;have Vi:=jy _ _ u hu;obtain⟨k,hk⟩:=aS hu;have VC:=(aD.1 hk).1;refine⟨by rw[cW,aK,Vi,e9],fH 0 (by rw[ei,dY,bG]) fun i hi=>?_,?_⟩
 ·rw[ei]at hi;have h0:=p9 hT VC i hi;unfold mulR at h0;rw[zd hT _ hi];unfold mulR
  rw[cL (g:=fun t=>(dD (cd (cP f) f.cols) i t*dD (cV (cd (cP f) f.cols) (cP f).length) k t)*(1 / dP (dI f l) u (dI f l).length)) fun t _=>by
   dsimp only;rw[oN,<-Rat.mul_assoc,show dD (cV (cd (cP f) f.cols) (cP f).length) k t=u.getD t 0 by rw[dD,getD_some hk]],iy,h0,bE]
  rw[List.getD,List.getElem?_replicate];split<;>rfl
 ·rw[kO,cL (g:=fun t=>((dI f l).getD t 0*u.getD t 0)*(1 / dP (dI f l) u (dI f l).length)) fun t _=>by rw[oN,<-Rat.mul_assoc],iy,<-kO];rw[b9,bp,Rat.mul_inv_cancel _ hw]
theorem Kt(h:FrS f)(PE:nL f.nodes.length l)(hu:u∈cV (cd (cP f) f.cols) (cP f).length)(hw:dP (dI f l) u (dI f l).length≠0):
  ∀q∈cW u (1 / dP (dI f l) u (dI f l).length),rl q<=22:=fun q hq=>by
 obtain⟨D,hD0,hDB,hDK⟩:=Cx (eP (cP f) f.cols) h.pf (by decide);have hwt:=Nat.le_of_lt (gB.1 h.Hu);obtain⟨k,hk⟩:=aS hu;have hU:∀t,Ib (wt 19) (D*u.getD t 0):=fun t=>by
  have:=(hDK k t).mono hwt
  rwa [dD,show(cV (cd (cP f) f.cols) (cP f).length).getD k []=u by rw[List.getD,hk];rfl]at this
 have hP:∀t,Ib (wt 1) ((dI f l).getD t 0):=fun t=>by
  have:=(sX PE t).neg.mono (Kj (a:=1000000000) (k:=1) (by decide) (by decide));rw[oN]at this
  rwa [show -((dI f l).getD t 0* -1)=(dI f l).getD t 0 by grind]at this
 have hn:(dI f l).length<=18:=by rw[fM];have:=h.n4;omega
 have hW:Ib (wt 21) (D*dP (dI f l) u (dI f l).length):=by
  rw[kO,<-eR];refine Ib.Nt (a:=20) hn (fun t _=>?_) (by decide);rw[show D*((dI f l).getD t 0*u.getD t 0)=(dI f l).getD t 0*(D*u.getD t 0) by grind];exact(hP t).sW (hU t) (by decide)
 obtain⟨t,ht⟩:=aS hq;rw[cW,aM]at ht;obtain⟨x,hx,rfl⟩:=Option.map_eq_some_iff.1 ht
 have:=tX (K:=wt 21) (q:=x*(1 / dP (dI f l) u (dI f l).length)) (qo hD0 hw) hW (by
  rw[show D*dP (dI f l) u (dI f l).length*(x*(1 / dP (dI f l) u (dI f l).length))=D*x*(dP (dI f l) u (dI f l).length*(dP (dI f l) u (dI f l).length)⁻¹) by rw[b9];grind,Rat.mul_inv_cancel _ hw,Rat.mul_one];have:=hU t;rw[List.getD,hx]at this
  exact this.up (by decide))
 have h2:ln (wt 21)<=22:=gB.2 (Ec (by decide));exact aX this h2
theorem dg.cvc{H:Hp}{nx:Nat}{iv:Iv}{B:Nat}{w' w2:World}(h:dg w2 (Cv FF B iv) w'.heap.size [(w'.heap.size,w2.heap.size)] v n x)(r:Rel H nx iv B w O w'):cI w2 (Cv FF B ((w'.heap.size,w2.heap.size)::iv)) v x:=
 cI.cK h.c fun g hg=>by
  rcases hg with hg|⟨h1,lo,hi,h2,h3,h4⟩
  ·exact hg.mono fun p hp=>List.mem_cons_of_mem _ hp
  ·simp at h2;obtain⟨rfl,rfl⟩:=h2;exact .inr ⟨by have:=r.cD;omega,_,_,aG,h3,h4⟩
theorem Mu(h:FrS f):∀u∈cV (cd (cP f) f.cols) (cP f).length,∀q∈u,rl q<=19:=fun u hu q hq=>by
 obtain⟨D,hD⟩:=Cx (eP (cP f) f.cols) h.pf (by decide);exact aX (hD.rl u hu q hq) h.Hu
set_option maxRecDepth 8000 in
set_option maxHeartbeats 1000000 in
theorem Ao{vl:Value}(hS:Old S w)(hf:dU w S vn vb vs f)(hl:fL w S vl l)(R7:eL f=0->uh f):
  eA PG N.rS #[.agg #[vn,vb,vs],vl] w (eF w fun v' w2=>(gR f l≠0∧v'= .tuple #[.agg #[.int .i64 0,.slice none 0 0,.slice none 0 0],.int .i64 (gR f l)])∨(gR f l=0∧((∃x vx,ed (cP f) (cW (dI f l) (-1)) f.cols=some x∧v'= .tuple #[.agg #[.int .i64 0,vx,.slice none 0 0],.int .i64 0]∧cI w2 (Nf w w2) vx x)∨(ed (cP f) (cW (dI f l) (-1)) f.cols=none∧∃u vu,u∈cV (cd (cP f) f.cols) (cP f).length∧dP (dI f l) u (dI f l).length≠0∧v'= .tuple #[.agg #[.int .i64 1,.slice none 0 0,vu],.int .i64 0]∧cI w2 (Nf w w2) vu (cW u (1 / dP (dI f l) u (dI f l).length)))))):=by
 have hw:=bR w;obtain⟨an,cn,ab,cb,aq,cq,rfl,rfl,rfl,Q1,Qh,RN⟩:=hf.shape;obtain⟨al,cl,rfl,PU,QO⟩:=hl.shape;obtain⟨e0,EE⟩:∃e,gR f l=e:=⟨_,rfl⟩
 refine vO (by simp) ?_;conv=>whnf
 refine cF (cE hw (fun _ w' v w2=>v= .int .i64 e0) (fun O w' r=>(jf (oS hS r) (hf.cJ (kS hw r hS)) (hl.cJ (kS hw r hS))).mono fun _ _ ⟨v2,e1,e2,e3⟩=>⟨v2,e1,e2,by rw[e3,EE]⟩) ?_);rintro O _ _ _ OJ r he hw h_ rfl;clear r;conv=>whnf
 refine dK.mk ?_ ?_<;>intro he
 ·have he:e0≠0:=by simpa using he
  conv=>whnf
  exact rtn hw fun ρe we re=>.inl ⟨by rw[EE];exact he,by rw[EE];rfl⟩
 have he:e0=0:=by simpa using he
 have Qj:gR f l=0:=by rw[EE,he]
 obtain⟨OP,PE⟩:=jX Qj;have QU:=R7 OP;have OO:=QU.toFrS;have PE:=uW PE;clear EE he;have Re:=OO.FA;have RX:=OO.Hs;have RD:=e9 f;have hlen:=fE f;have Vt:=OO.n4;have OF:=jS OP;have QQ:=fM f l;have Tu:f.cols=f.bars.length+f.cX.length:=rfl;conv=>whnf
 have PX:=sX PE;have Tb:(cW (dI f l) (-1)).length=(cP f).length:=by rw[cW,aK,QQ,RD]
 have hw0:=OO.yL PX;have OM:=OO.z8 (b:=cW (dI f l) (-1));refine cM hτ df [.x 0,.x 2,.x 3,.p 5,.x 1,.x 4,.x 5,.x 6,.x 7] (by kernel_rfl) (by kernel_rfl) ?_;conv=>whnf
 refine cE hw (fun _ w' v w2=>∃vr,v= .agg #[vr,.int .i64 f.cols]∧cR w2 (Nf w' w2) vr (cP f)) (fun O w' r=>(lh (S:=S) (oS hS r) (hf.cJ (kS hw r hS)) OF).mono fun _ _ ⟨v2,e1,e2,e3,_⟩=>⟨v2,e1,e2,e3⟩) ?_;rintro O _ v2 _ OG r he hw h_ ⟨vr,rfl,hn⟩;have hM:=cR.dB (S:=FF) hn r.cD (mN h_);clear r he;clear hn;obtain⟨am,cm,rfl,-,-⟩:=dM.shape hM;conv=>whnf
 refine cE hw (fun _ w' v w2=>cI w2 (Nf w' w2) v (dI f l)∧∀q∈dI f l,rl q<=1) (fun O w' r=>(qv (oS hS r) (hl.cJ (kS hw r hS)) OO.n PE rfl rfl).mono fun _ _ ⟨v2,e1,e2,e3,e4⟩=>⟨v2,e1,e2,cI.cK e3.c fun g hg=>hg.new,e4⟩) ?_;rintro O _ _ _ ON r he hw h_ ⟨hn,RQ⟩;replace hM:=cR.cG hM r (cC w) he (mC h_);have hP:=cI.dB (S:=FF) hn r.cD (mN h_);clear r he;clear hn;obtain⟨ap,cp,rfl,-,-⟩:=cY.shape hP;rw[QQ];conv=>whnf
 refine cM hτ df [.x 0,.x 1,.x 2,.x 3,.x 4,.x 5,.x 6,.x 7,.x 8,.x 9] (by kernel_rfl) (by kernel_rfl) ?_;conv=>whnf
 refine cE hw (fun _ w' v w2=>cT w2 (Nf w' w2) v ((-1:Int):Rat)) (fun O w' r=>jM (-1) w' (by decide) (by decide)) ?_;rintro O _ _ _ OZ r he hw h_ hn;replace hM:=cR.cG hM r (cC w) he (mC h_);replace hP:=cI.cG hP r (cC w) he (mC h_);have hd:=hn.dB (S:=FF) r.cD (mN h_);clear r he;obtain⟨A0,A1,A2,A3,A4,A5,A6,A7,rfl⟩:=hd.shape;conv=>whnf
 refine cE hw (fun _ w' v w2=>cI w2 (Nf w' w2) v (cW (dI f l) (-1))) (fun O w' r=>(qu (S:=Cf w OZ) (Rel.old r (cC w)) (cI.l (by have:=cI.rel hP r (cC w);rw[QQ]at this;exact this) fun q hq=>by have:=RQ q hq;omega) ((hd.rel r (cC w)).l (by decide)) (by omega)).mono fun _ _ ⟨v2,e1,e2,e3⟩=>⟨v2,e1,e2,cI.cK e3.c fun g hg=>hg.new⟩) ?_;rintro O _ _ _ PF r he hw h_ hn;replace hM:=cR.cG hM r (cC w) he (mC h_);replace hP:=cI.cG hP r (cC w) he (mC h_);clear hd;have hG:=cI.dB (S:=FF) hn r.cD (mN h_);clear r he;clear hn;obtain⟨ag,cg,rfl,-,-⟩:=cY.shape hG;conv=>whnf
 refine cO (Φ:=fun _ w' v w2=>(ed (cP f) (cW (dI f l) (-1)) f.cols=none∧v= .tuple #[.slice none 0 0,.bool false])∨∃x vx,ed (cP f) (cW (dI f l) (-1)) f.cols=some x∧v= .tuple #[vx,.bool true]∧dg w2 (Cf w PF) w'.heap.size [(w'.heap.size,w2.heap.size)] vx f.cols x) (fun O w' r=>qn (M:=cP f) (b:=cW (dI f l) (-1)) hlen hw0▸Af (C:=Cf w PF) (S:=Cf w PF) (h:=30) (Rel.old r (cC w)) (Rel.old r (cC w)) (cR.rel hM r (cC w)) (cI.rel hG r (cC w)) Tb hlen (by omega) (by omega) (kY (gH hlen) hw0 lW (by rw[p8]at *;omega)) (by decide)) ?_;rintro O RR v6 RZ r he hb (⟨Qy,rfl⟩|⟨x0,vx,Qi,rfl,k2⟩)
 ·replace hw:=hw.tr hb;replace hM:=cR.cG (iv':=(RR.heap.size,RZ.heap.size)::PF) hM r (cC w) he fun x hx=>List.mem_cons_of_mem _ hx;replace hP:=cI.cG (iv':=(RR.heap.size,RZ.heap.size)::PF) hP r (cC w) he fun x hx=>List.mem_cons_of_mem _ hx;clear hG r he hb;generalize (RR.heap.size,RZ.heap.size)::PF=ivn at*
  conv=>whnf
  refine cF (cO (Φ:=fun _ w' v w2=>∃vr,v= .agg #[vr,.int .i64 (cP f).length]∧cR w2 (Nw (Cf w ivn) w' w2) vr (cd (cP f) f.cols)) (fun O w' r=>mr (C:=Cf w ivn) (S:=Cf w ivn) (Rel.old r (cC w)) (Rel.old r (cC w)) (cR.rel hM r (cC w)) hlen (by omega) (by omega)) ?_);rintro O Tc v7 Td r he hb ⟨vt,rfl,hn⟩;replace hw:=hw.tr hb;clear hM;replace hP:=cI.cG (iv':=(Tc.heap.size,Td.heap.size)::ivn) hP r (cC w) he fun x hx=>List.mem_cons_of_mem _ hx;have hT:=cR.old hn r.cD;clear r he hb;generalize (Tc.heap.size,Td.heap.size)::ivn=RP at*
  clear hn;obtain⟨at_,ct,rfl,-,-⟩:=dM.shape hT;conv=>whnf
  refine cF (cE hw (fun _ w' v w2=>cR w2 (Nf w' w2) v (cV (cd (cP f) f.cols) (cP f).length)) (fun O w' r=>zS (M:=cd (cP f) f.cols) (n:=(cP f).length) (eP _ _) OO.pf▸Ak (C:=Cf w RP) (S:=Cf w RP) (h:=20) (Rel.old r (cC w)) (Rel.old r (cC w)) (cR.rel hT r (cC w)) (eP (cP f) f.cols) (by simp only[kI];omega) (by omega) (kY (eP (cP f) f.cols) OO.pf (by decide) (by have:=OO.Hu;omega)) (Al (eP (cP f) f.cols) OO.pf (by decide) (by have:=OO.Hu;omega)) (by decide)) ?_);rintro O _ _ _ Rg r he hw h_ hn;replace hP:=cI.cG hP r (cC w) he (mC h_);clear hT;have hK:=cR.dB (S:=FF) hn r.cD (mN h_);clear r he;clear hn;obtain⟨ak,ck,rfl,-,hKm⟩:=dM.shape hK;unfold maxLen at hKm;have hKl:=jy (cd (cP f) f.cols) (cP f).length;have hKr:=Mu OO;obtain⟨y,hy1,To⟩:=Gk Qy;have Ph:∃u∈cV (cd (cP f) f.cols) (cP f).length,dP (dI f l) u (dI f l).length≠0:=⟨y,hy1,To⟩
  clear hy1 To;obtain⟨K,hK0⟩:∃K,cV (cd (cP f) f.cols) (cP f).length=K:=⟨_,rfl⟩
  obtain⟨P,hP0⟩:∃P,dI f l=P:=⟨_,rfl⟩
  have hmem:∀u,u∈K->u∈cV (cd (cP f) f.cols) (cP f).length:=fun u hu=>by rw[hK0];exact hu
  rw[hK0]at hK hKl hKr Ph hKm;rw[hP0]at hP RQ QQ Ph;rw[hK0];conv=>whnf
  refine⟨Nat×World×Iv,fun z=>⟨[(4,pP 1 0),(5,iZ 0),(8,.o (.v (.slice ap (3*f.nodes.length) cp))),(39,sV ak K.length ck),(40,iZ K.length),(41,iN z.1)],[(1,.box T.aA2 [.v (.int .i64 0),.v (.slice none 0 0),.v (.slice none 0 0)])],3,z.2.2,z.2.1⟩,fun z=>K.length-z.1,
   fun z=>z.1<=K.length∧eE w.heap.size w z.2.1∧cI z.2.1 (Cf w z.2.2) (.slice ap (3*f.nodes.length) cp) P∧cR z.2.1 (Cf w z.2.2) (.slice ak K.length ck) K∧∀(j:Nat) u,j<z.1->K[j]? =some u->dP P u P.length=0,?_,?_⟩
  ·intro O w' r;exact⟨(0,w',_),⟨aQ _,hw.tr r.cQ,cI.rel (by rw[QQ]at hP;exact hP) r (cC w),cR.rel hK r (cC w),fun j u h=>absurd h (cB j)⟩,Sub.gn [] r⟩
  clear hw hP hK;rintro⟨i,w9,iv⟩ ⟨hi,hw,hP,hK,hz⟩;dsimp only at hi hw hP hK hz ⊢;conv=>whnf
  refine dK.mk ?_ ?_<;>intro OC
  ·have OC:i<K.length:=by have:=aI OC;omega
   obtain⟨u,hu⟩:∃u,K[i]? =some u:=⟨_,aB OC⟩
   have hum:=aC hu;have Vi:=hKl u hum;have Sm:=hKr u hum;obtain⟨adm,um,Qd,Oh,km1,km2⟩:=dM.load hK hu;obtain⟨au,cu,rfl,-,-⟩:=cY.shape Oh;conv=>whnf
   refine⟨adm,Qd,by omega,?_⟩;conv=>whnf
   refine⟨.slice au u.length cu,fun O w' r=>?_,?_⟩
   ·rw[aE,cH (w:=w9) (w2:=w') (by rw[dN];exact Rel.same r (cC w) km1)];exact km2
   conv=>whnf
   clear km1 km2;rw[<-QQ]at hP;have TQ:∀q∈P,rl q<=19:=fun q hq=>by have:=RQ q hq;omega
   rw[show (3*f.nodes.length)=P.length from QQ.symm];conv=>whnf
   refine cF (cE hw (fun _ w' v w2=>cT w2 (Nf w' w2) v (dP P u P.length)) (fun O w' r=>AZ (S:=Cf w iv) (h:=20) (Rel.old r (cC w)) (cI.l (cI.rel hP r (cC w)) fun q hq=>by have:=TQ q hq;omega) (cI.l (cI.rel Oh r (cC w)) fun q hq=>by have:=Sm q hq;omega) (by omega) (fun q hq=>by have:=TQ q hq;omega) (fun q hq=>by have:=Sm q hq;omega) (by decide) (by omega)) ?_);rintro O _ _ _ SK r he hw h_ hn;replace hP:=cI.cG hP r (cC w) he (mC h_);replace hK:=cR.cG hK r (cC w) he (mC h_);replace Oh:=cI.cG Oh r (cC w) he (mC h_);have hd:=hn.dB (S:=FF) r.cD (mN h_);clear r he;obtain⟨C0,C1,C2,C3,C4,C5,C6,C7,rfl⟩:=hd.shape;have hdr:=kW (h:=20) (xs:=P) (ys:=u) (fun q hq=>by have:=TQ q hq;omega) (fun q hq=>by have:=Sm q hq;omega) (by decide) P.length;conv=>whnf
   refine cF (cE hw (fun _ w' v w2=>∃d,v= .bool d∧(d=true↔dP P u P.length=0)) (fun O w' r=>kx (S:=Cf w SK) (Rel.old r (cC w)) ((hd.rel r (cC w)).l (by omega))) ?_);rintro O _ _ _ RH r he hw h_ ⟨d,rfl,RL⟩;replace hP:=cI.cG hP r (cC w) he (mC h_);replace hK:=cR.cG hK r (cC w) he (mC h_);replace Oh:=cI.cG Oh r (cC w) he (mC h_);replace hd:=hd.cG r (cC w) he (mC h_);clear r he
   cases d
   ·have OD:dP P u P.length≠0:=fun e=>by have:=RL.2 e;cases this
    conv=>whnf
    refine cM hτ df [.x 0,.x 2,.x 1,.x 3,.x 4,.x 5,.x 6,.x 7] (by kernel_rfl) (by kernel_rfl) ?_;conv=>whnf
    refine cE hw (fun _ w' v w2=>cT w2 (Nf w' w2) v ((1:Int):Rat)) (fun O w' r=>jM 1 w' (by decide) (by decide)) ?_;rintro O _ _ _ QV r he hw h_ hn;replace hP:=cI.cG hP r (cC w) he (mC h_);replace hK:=cR.cG hK r (cC w) he (mC h_);replace Oh:=cI.cG Oh r (cC w) he (mC h_);replace hd:=hd.cG r (cC w) he (mC h_);have h1:=hn.dB (S:=FF) r.cD (mN h_);clear r he;obtain⟨E0,E1,E2,E3,E4,E5,E6,E7,rfl⟩:=h1.shape;conv=>whnf
    refine cE hw (fun _ w' v w2=>cT w2 (Nf w' w2) v (1 / dP P u P.length)) (fun O w' r=>LD (S:=Cf w QV) (Rel.old r (cC w)) ((h1.rel r (cC w)).l (by decide)) ((hd.rel r (cC w)).l (by omega)) OD) ?_;rintro O _ _ _ VU r he hw h_ hn;replace hP:=cI.cG hP r (cC w) he (mC h_);replace hK:=cR.cG hK r (cC w) he (mC h_);replace Oh:=cI.cG Oh r (cC w) he (mC h_);clear hd;clear h1;have hq:=hn.dB (S:=FF) r.cD (mN h_);clear r he;obtain⟨F0,F1,F2,F3,F4,F5,F6,F7,rfl⟩:=hq.shape;have hqr:=Kp OD;conv=>whnf
    refine cE hw (fun _ w' v w2=>cI w2 (Nf w' w2) v (cW u (1 / dP P u P.length))) (fun O w' r=>(qu (S:=Cf w VU) (Rel.old r (cC w)) (cI.l (cI.rel Oh r (cC w)) fun q hq=>by have:=Sm q hq;omega) ((hq.rel r (cC w)).l (by omega)) (by omega)).mono fun _ _ ⟨v2,e1,e2,e3⟩=>⟨v2,e1,e2,cI.cK e3.c fun g hg=>hg.new⟩) ?_;rintro O _ _ _ VW r he hw h_ hn;clear hP;clear hK;clear Oh;clear hq;have hG:=cI.dB (S:=FF) hn r.cD (mN h_);clear r he;clear hn;obtain⟨ag2,cg2,rfl,-,-⟩:=cY.shape hG;conv=>whnf
    exact rtn hw fun ρe we re=>.inr ⟨Qj,.inr ⟨Qy,u,_,hum,by rw[hP0];exact OD,rfl,by rw[hP0];exact cI.out hG re (cC w)⟩⟩
   have he0:dP P u P.length=0:=RL.1 rfl;conv=>whnf
   refine⟨((i+1:Nat):Int),wo,?_⟩;conv=>whnf
   intro ρ3 w6 r3;exact⟨(i+1,w6,_),⟨OC,hw.tr r3.cQ,cI.rel hP r3 (cC w),cR.rel hK r3 (cC w),fun j u2 h1 h2=>by rcases aP j i with h|h;exact hz j u2 h h2;obtain rfl:j=i:=aO (Nat.le_of_lt_succ h1) h;rw[hu]at h2;injection h2 with h2;rw[<-h2];exact he0⟩,Sub.gn [] r3,by dsimp only;omega⟩
  have OC:i=K.length:=by have:=aH OC;omega
  obtain⟨u,hu1,TD⟩:=Ph;obtain⟨j,hj⟩:=aS hu1;exact absurd (hz j u (by rw[OC];exact(aD.1 hj).1) hj) TD
 replace hw:=hw.tr hb;have hX:=dg.cvc k2 r;clear hG hM hP k2 r he hb;generalize (RR.heap.size,RZ.heap.size)::PF=ivn at*
 obtain⟨ax,cx,rfl,-,-⟩:=cY.shape hX;conv=>whnf
 exact rtn hw fun ρe we re=>.inr ⟨Qj,.inl ⟨x0,_,Qi,rfl,cI.out hX re (cC w)⟩⟩
theorem Ln(h:eL f≠0∨f.nodes.length<=4∧f.bars.length<=6)(hb:∀b∈f.bars,rl b.2.2<=3)(hs:∀b∈f.cX,rl b.2.2<=3)(h0:eL f=0):uh f:=
 ⟨aAK h h0,fun q hq=>by
  rcases bS.1 hq with h|h
  ·obtain⟨b,QE,rfl⟩:=aU.1 h;exact hb b QE
  ·obtain⟨b,QE,rfl⟩:=aU.1 h;exact hs b QE⟩
theorem Lo(h:uh f){h0:Nat}(hx:x.length<=f.cols)(hq:∀q∈x,rl q<=h0):∀q∈fR x (dO f),rl q<=h0+3:=fun q Pv=>by
 obtain⟨t,ht⟩:=aS Pv;have TX:t<x.length:=by have:=(aD.1 ht).1;rw[jg]at this;exact this
 have h1:=nJ (a:=x) (b:=dO f) TX;rw[getD_some ht]at h1;have h2:=jE (x.getD t 0) ((dO f).getD t 0);have h3:=hq (x.getD t 0) (by rw[getD_some (aB TX)];exact aY _);have h4:=h.fxD (t:=t) (by omega);rw[h1];omega
set_option maxRecDepth 8000 in
set_option maxHeartbeats 1000000 in
theorem Fv{vl:Value}(hS:Old S w)(hf:dU w S vn vb vs f)(hl:fL w S vl l)(R7:eL f=0->uh f):
  eA PG N.nN #[.agg #[vn,vb,vs],vl] w (eF w fun v' w2=>(gR f l≠0∧v'= .tuple #[.slice none 0 0,.slice none 0 0,.int .i64 (gR f l)])∨(gR f l=0∧((nf (cP f) f.cols<(cP f).length∧v'= .tuple #[.slice none 0 0,.slice none 0 0,.int .i64 17])∨
   (nf (cP f) f.cols=(cP f).length∧∃x u vx vu,lX (cP f) f.cols (Ll f) (cW (dI f l) (-1)) x∧ed (cd (cP f) f.cols) (cW (fR x (dO f)) (-1)) (cP f).length=some u∧v'= .tuple #[vu,vx,.int .i64 0]∧cI w2 (Nf w w2) vu u∧cI w2 (Nf w w2) vx x)))):=by
 have hw:=bR w;obtain⟨an,cn,ab,cb,aq,cq,rfl,rfl,rfl,Q1,Qh,RN⟩:=hf.shape;obtain⟨al,cl,rfl,PU,QO⟩:=hl.shape;obtain⟨e0,EE⟩:∃e,gR f l=e:=⟨_,rfl⟩
 refine rG (by simp) ?_;conv=>whnf
 refine cF (cE hw (fun _ w' v w2=>v= .int .i64 e0) (fun O w' r=>(jf (oS hS r) (hf.cJ (kS hw r hS)) (hl.cJ (kS hw r hS))).mono fun _ _ ⟨v2,e1,e2,e3⟩=>⟨v2,e1,e2,by rw[e3,EE]⟩) ?_);rintro O _ _ _ OJ r he hw h_ rfl;clear r;conv=>whnf
 refine dK.mk ?_ ?_<;>intro he
 ·have he:e0≠0:=by simpa using he
  conv=>whnf
  exact rtn hw fun ρe we re=>.inl ⟨by rw[EE];exact he,by rw[EE];rfl⟩
 have he:e0=0:=by simpa using he
 have Qj:gR f l=0:=by rw[EE,he]
 obtain⟨OP,PE⟩:=jX Qj;have QU:=R7 OP;have OO:=QU.toFrS;have PE:=uW PE;clear EE he;have Re:=OO.FA;have RX:=OO.Hs;have RD:=e9 f;have hlen:=fE f;have Vt:=OO.n4;have OF:=jS OP;have QQ:=fM f l;have Tu:f.cols=f.bars.length+f.cX.length:=rfl;conv=>whnf
 refine cF (cE hw (fun _ w' v w2=>∃vr,v= .agg #[vr,.int .i64 f.cols]∧cR w2 (Nf w' w2) vr (cP f)) (fun O w' r=>(lh (S:=S) (oS hS r) (hf.cJ (kS hw r hS)) OF).mono fun _ _ ⟨v2,e1,e2,e3,_⟩=>⟨v2,e1,e2,e3⟩) ?_);rintro O _ v2 _ OG r he hw h_ ⟨vr,rfl,hn⟩;have hM:=cR.dB (S:=FF) hn r.cD (mN h_);clear r he;clear hn;obtain⟨am,cm,rfl,-,-⟩:=dM.shape hM;conv=>whnf
 refine cM hτ df [.x 0,.x 1,.x 2,.x 7,.x 8,.x 9,.x 3,.x 4,.x 5,.x 6,.x 10] (by kernel_rfl) (by kernel_rfl) ?_;conv=>whnf
 refine cE hw (fun _ w' v w2=>∃vr vp vf,v= .agg #[vr,.int .i64 f.cols,vp,vf]∧cR w2 (Nw (Cf w OG) w' w2) vr (dT (cP f) f.cols).1) (fun O w' r=>(Aj (C:=Cf w OG) (S:=Cf w OG) (h:=20) (Rel.old r (cC w)) (Rel.old r (cC w)) (cR.rel hM r (cC w)) hlen (by omega) (by omega) (kY hlen OO.mQ (by decide) (by have:=OO.size;omega)) (by decide)).mono fun _ _ ⟨v2,e1,e2,vr,vp,vf,k1,k2,_,_⟩=>⟨v2,e1,e2,vr,vp,vf,k1,k2⟩) ?_;rintro O _ _ _ ON r he hw h_ ⟨vr2,vp2,vf2,rfl,hn⟩;replace hM:=cR.cG hM r (cC w) he (mC h_);clear r he;obtain⟨ar,cr,rfl,-,-⟩:=dM.shape hn;have hrk:(dT (cP f) f.cols).1.length=nf (cP f) f.cols:=by
  rw[(lS hlen OO.mQ).2,aW,Nat.min_eq_left (mf _ _ hlen).1]
 rw[hrk];obtain⟨nr,hnr⟩:∃nr,nf (cP f) f.cols=nr:=⟨_,rfl⟩
 rw[hnr];clear hn hrk;conv=>whnf
 refine dK.mk ?_ ?_<;>intro OU
 ·have OU:nr<(cP f).length:=by have:=aI OU;omega
  conv=>whnf
  exact rtn hw fun ρe we re=>.inr ⟨Qj,.inl ⟨OU,rfl⟩⟩
 have OU:(cP f).length<=nr:=by have:=aH OU;omega
 have Vv:nf (cP f) f.cols=(cP f).length:=by
  have h1:=Gg hlen;have h2:=(mf (cd (cP f) f.cols) (cP f).length (eP _ _)).2;rw[hnr]at h1 ⊢;have h1:(cN (cd (cP f) f.cols) (cP f).length).2.length=nr:=h1;omega
 have PX:=sX PE;have Tb:(cW (dI f l) (-1)).length=(cP f).length:=by rw[cW,aK,QQ,RD]
 conv=>whnf
 refine cM hτ df [.x 0,.x 1,.x 2,.x 3,.x 4,.x 5,.x 6,.x 7,.x 8,.x 9] (by kernel_rfl) (by kernel_rfl) ?_;conv=>whnf
 refine cE hw (fun _ w' v w2=>cI w2 (Nf w' w2) v (dI f l)∧∀q∈dI f l,rl q<=1) (fun O w' r=>(qv (oS hS r) (hl.cJ (kS hw r hS)) OO.n PE rfl rfl).mono fun _ _ ⟨v2,e1,e2,e3,e4⟩=>⟨v2,e1,e2,cI.cK e3.c fun g hg=>hg.new,e4⟩) ?_;rintro O _ _ _ OZ r he hw h_ ⟨hn,RQ⟩;replace hM:=cR.cG hM r (cC w) he (mC h_);have hP:=cI.dB (S:=FF) hn r.cD (mN h_);clear r he;clear hn;obtain⟨ap,cp,rfl,-,-⟩:=cY.shape hP;rw[QQ];conv=>whnf
 refine cO (Φ:=fun _ w' v w2=>(ed (cP f) (cW (dI f l) (-1)) f.cols=none∧v= .tuple #[.slice none 0 0,.bool false])∨∃x vx,lX (cP f) f.cols (Ll f) (cW (dI f l) (-1)) x∧v= .tuple #[vx,.bool true]∧cI w2 (Nf w' w2) vx x) (fun O w' r=>CW (S:=fun g=>S g∨Cf w OZ g) (fun g hg=>hg.elim (oS hS r g) (Rel.old r (cC w) g)) (dU.cK (hf.cJ (kS hw r hS)) fun g hg=>.inl hg) OP QU (cI.cK (by have:=cI.rel hP r (cC w);rw[QQ]at this;exact this) fun g hg=>.inr hg) QQ (fun q hq=>by have:=RQ q hq;omega) (sX PE)) ?_;rintro O RY v5 RO r he hb (⟨Qy,rfl⟩|⟨x,vx,hx,rfl,hn⟩)
 ·obtain⟨x,hx⟩:=Iw (b:=cW (dI f l) (-1)) hlen Vv;rw[Qy]at hx
  cases hx
 replace hw:=hw.tr hb;replace hM:=cR.cG (iv':=(RY.heap.size,RO.heap.size)::OZ) hM r (cC w) he fun x hx=>List.mem_cons_of_mem _ hx;have hX:=cI.dB (S:=FF) hn r.cD (iv:=(RY.heap.size,RO.heap.size)::OZ) aG;clear r he hb hn;generalize (RY.heap.size,RO.heap.size)::OZ=ivx at*
 obtain⟨ax,cx,rfl,-,-⟩:=cY.shape hX;have PZ:=hx.len;have Rr:=QU.aA0 PX Tb hx;obtain⟨u,hu⟩:=hx.aAZ hlen;have hwT:=QU.Ix PZ (QU.Km PX Tb hx);have hzT:ln (fB (wt 156) (jo (cd (cP f) f.cols) (cW (fR x (dO f)) (-1))).length)<=2827:=QU.Gj;have Q6:=qn (M:=cd (cP f) f.cols) (b:=cW (fR x (dO f)) (-1)) (eP _ _) hwT;rw[hu]at Q6;have VT:=Lo QU (Nat.le_of_eq PZ) Rr;conv=>whnf
 refine cM hτ df [.x 0,.x 2,.x 3,.x 1,.x 4,.x 5,.x 6,.x 7,.x 8,.x 9,.x 10,.x 11,.x 12,.x 13] (by kernel_rfl) (by kernel_rfl) ?_;conv=>whnf
 refine cO (Φ:=fun _ w' v w2=>∃vr,v= .agg #[vr,.int .i64 (cP f).length]∧cR w2 (Nw (Cf w ivx) w' w2) vr (cd (cP f) f.cols)) (fun O w' r=>mr (C:=Cf w ivx) (S:=Cf w ivx) (Rel.old r (cC w)) (Rel.old r (cC w)) (cR.rel hM r (cC w)) hlen (by omega) (by omega)) ?_;rintro O RR v6 RZ r he hb ⟨vt,rfl,hn⟩;replace hw:=hw.tr hb;clear hM;replace hX:=cI.cG (iv':=(RR.heap.size,RZ.heap.size)::ivx) hX r (cC w) he fun x hx=>List.mem_cons_of_mem _ hx;have hT:=cR.old hn r.cD;clear r he hb;generalize (RR.heap.size,RZ.heap.size)::ivx=Q2 at*
 clear hn;obtain⟨at_,ct,rfl,-,-⟩:=dM.shape hT;conv=>whnf
 refine cO (Φ:=fun _ w' v w2=>cS w2 (Nw S w' w2) v (dO f)) (fun O w' r=>CO (S:=S) (oS hS r) (hf.cJ (kS hw r hS)) OF) ?_;rintro O Tc v7 Td r he hb hn;replace hw:=hw.tr hb;replace hX:=cI.cG (iv':=(Tc.heap.size,Td.heap.size)::Q2) hX r (cC w) he fun x hx=>List.mem_cons_of_mem _ hx;replace hT:=cR.cG (iv':=(Tc.heap.size,Td.heap.size)::Q2) hT r (cC w) he fun x hx=>List.mem_cons_of_mem _ hx;have hL:=cS.cK (S':=Cv S w.heap.size ((Tc.heap.size,Td.heap.size)::Q2)) hn fun g hg=>hg.elim .inl fun h=>.inr ⟨by have:=r.cD;omega,_,_,aG,h.1,h.2⟩;clear r he hb;generalize (Tc.heap.size,Td.heap.size)::Q2=RP at*
 clear hn;obtain⟨afl,cfl,rfl,-,-⟩:=cY.shape hL;conv=>whnf
 refine cE hw (fun _ w' v w2=>cI w2 (Nf w' w2) v (fR x (dO f))) (fun O w' r=>(IF (S:=Cv S w.heap.size RP) (Rel.old r hS) (cS.cK (cI.l (cI.rel hX r (cC w)) fun q hq=>by have:=Rr q hq;omega) fun g hg=>D7 hg) (cS.rel hL r hS) (by rw[PZ,o8];exact aF _) (by omega)).mono fun _ _ ⟨v2,e1,e2,e3⟩=>⟨v2,e1,e2,cI.cK e3.c fun g hg=>hg.new⟩) ?_;rintro O _ _ _ Rg r he hw h_ hn;replace hX:=cI.cG hX r (cC w) he (mC h_);replace hT:=cR.cG hT r (cC w) he (mC h_);clear hL;have hE:=cI.dB (S:=FF) hn r.cD (mN h_);clear r he;clear hn;obtain⟨ae,ce,rfl,-,-⟩:=cY.shape hE;conv=>whnf
 refine cE hw (fun _ w' v w2=>cT w2 (Nf w' w2) v ((-1:Int):Rat)) (fun O w' r=>jM (-1) w' (by decide) (by decide)) ?_;rintro O _ _ _ SK r he hw h_ hn;replace hX:=cI.cG hX r (cC w) he (mC h_);replace hT:=cR.cG hT r (cC w) he (mC h_);replace hE:=cI.cG hE r (cC w) he (mC h_);have hd:=hn.dB (S:=FF) r.cD (mN h_);clear r he hn;obtain⟨A0,A1,A2,A3,A4,A5,A6,A7,rfl⟩:=hd.shape;conv=>whnf
 refine cE hw (fun _ w' v w2=>cI w2 (Nf w' w2) v (cW (fR x (dO f)) (-1))) (fun O w' r=>(qu (S:=Cf w SK) (Rel.old r (cC w)) (cI.l (cI.rel hE r (cC w)) fun q hq=>by have:=VT q hq;omega) ((hd.rel r (cC w)).l (by decide)) (by rw[jg];omega)).mono fun _ _ ⟨v2,e1,e2,e3⟩=>⟨v2,e1,e2,cI.cK e3.c fun g hg=>hg.new⟩) ?_;rintro O _ _ _ RH r he hw h_ hn;replace hX:=cI.cG hX r (cC w) he (mC h_);replace hT:=cR.cG hT r (cC w) he (mC h_);clear hE;clear hd;have hG:=cI.dB (S:=FF) hn r.cD (mN h_);clear r he;clear hn;obtain⟨ag,cg,rfl,-,-⟩:=cY.shape hG;conv=>whnf
 refine cO (Φ:=fun _ w' v w2=>∃vu,v= .tuple #[vu,.bool true]∧dg w2 (Cf w RH) w'.heap.size [(w'.heap.size,w2.heap.size)] vu (cP f).length u) (fun O w' r=>(Af (C:=Cf w RH) (S:=Cf w RH) (h:=2830) (Rel.old r (cC w)) (Rel.old r (cC w)) (cR.rel hT r (cC w)) (cI.rel hG r (cC w)) (by rw[cW,aK,jg,dY];exact PZ) (eP _ _) (by omega) (by rw[dY];omega) (kY (gH (eP _ _)) hwT lW (by omega)) (by decide)).mono fun _ _ ⟨v2,e1,e2,e3⟩=>⟨v2,e1,e2,by
  rcases e3 with⟨k1,_⟩|⟨x2,vx,k1,k2,k3⟩
  ·rw[Q6]at k1;cases k1
  ·rw[Q6]at k1;injection k1 with k1;subst k1;exact⟨vx,k2,k3⟩⟩) ?_
 rintro O Qq v11 RG r he hb ⟨vu,rfl,hn⟩;replace hw:=hw.tr hb;replace hX:=cI.cG (iv':=(Qq.heap.size,RG.heap.size)::RH) hX r (cC w) he fun x hx=>List.mem_cons_of_mem _ hx;clear hT;clear hG;have hU:=hn.aA6 r.cD;clear r he hb;generalize (Qq.heap.size,RG.heap.size)::RH=QV at*
 clear hn;obtain⟨au,cu,rfl,hcu⟩:=hU.row.form;conv=>whnf
 exact rtn hw fun ρe we re=>.inr ⟨Qj,.inr ⟨hnr.symm.trans Vv,x,u,_,_,hx,hu,rfl,cI.out hU.c re (cC w),cI.out hX re (cC w)⟩⟩
def Lp:List Int:=[0,0,0,0,0,0,-1,0,0]
def CX:List Int:=[-3,3,9,0,0,-9,0,12,0]
def JW:List Ld:=[(2,0,0,-12)]
abbrev aAb:List Rat:=(c9 Lp).set 8 (Rat.divInt (-3) 2)
theorem aAc:Rat.divInt 2000 1000=((2:Int):Rat):=by decide +kernel
theorem yT:gR fb JW=0:=by decide +kernel
theorem Fw:uh fb:=Ln (.inr ⟨by decide,by decide⟩) (by decide +kernel) (by decide +kernel) (jX yT).1
theorem Ds:lX (cP fb) fb.cols (Ll fb) (cW (dI fb JW) (-1)) (c9 CX):=⟨by decide +kernel,by decide +kernel,by decide +kernel⟩
theorem Fx:nf (cP fb) fb.cols=9:=by decide +kernel
theorem aAd:ed (cd (cP fb) fb.cols) (cW (fR (c9 CX) (dO fb)) (-1)) (cP fb).length=some aAb:=by decide +kernel
set_option maxHeartbeats 1000000 in
theorem qZ(w:World):eA PG N.wm #[] w (eF w fun v' _=>v'= .bool true):=by
 have hw:=bR w;refine zz (by simp) ?_;refine cF (cE hw (fun _ w' v w2=>∃vn vb vs,v= .agg #[vn,vb,vs]∧dU w2 (Nf w' w2) vn vb vs fb) (fun O w' r=>wB w') ?_);rintro O _ _ _ OJ r he hw h_ ⟨vn1,vb1,vs1,rfl,hn⟩;have hf:=hn.dB r.cD (mN h_);clear r;clear hn;obtain⟨an1,cn1,ab1,cb1,aq1,cq1,rfl,rfl,rfl,-,-,-⟩:=hf.shape;refine cF (cE hw (fun _ w' v w2=>∃vx,v= .tuple #[vx,.int .i64 0]∧cI w2 (Nf w' w2) vx (c9 CX)) (fun O w' r=>(HR (S:=(fun g=>Cf w OJ g∨g=(O 0).g)) (l:=JW) (fun g hg=>hg.elim (Rel.old r (cC w) g) fun e=>by subst e;exact Rel.lt r (id:=0) rfl) (dU.cK (dU.rel hf r (cC w)) fun g hg=>.inl hg) (show fL w' (fun g=>Cf w OJ g∨g=(O 0).g) (.slice (some ⟨(O 0).g,0,none⟩) 1 1) JW from⟨[[.int .i64 2,.int .i64 0,.int .i64 0,.int .i64 (-12)]],(r.qU (id:=0) (sz:=4) (n:=1) rfl rfl (by decide) (by repeat' first|refine List.forall_mem_cons.2 ⟨rfl,?_⟩|exact fun u hu=>absurd hu List.not_mem_nil)).cK fun g hg=>.inr hg,rfl,by simp,fun j cs x h1 h2=>by cases j with|zero=>(cases h1;cases h2;rfl)|succ j=>cases h2⟩) (fun _=>Fw)).mono fun _ _ ⟨v2,e1,e2,e3⟩=>⟨v2,e1,e2,e3.elim (fun h=>absurd yT h.1) fun h=>h.2.elim (fun g=>by obtain⟨z,hz⟩:=Br (fE fb) (x:=fun t=>(c9 CX).getD t 0) Ds.eq;rw[g.1]at hz;cases hz) fun⟨x,vx,g,k1,k2⟩=>⟨vx,k1,Fw.Mc.one g Ds▸k2⟩⟩) ?_);rintro O _ v2 _ OG r he hw h_ ⟨vx1,rfl,hn⟩;clear hf;have hx:=cI.dB (S:=FF) hn r.cD (mN h_);clear r;clear hn;obtain⟨ax1,cx1,rfl,-,-⟩:=cY.shape hx;refine cF (cE hw (fun _ w' v w2=>∃vn vb vs,v= .agg #[vn,vb,vs]∧dU w2 (Nf w' w2) vn vb vs fb) (fun O w' r=>wB w') ?_);rintro O _ _ _ ON r he hw h_ ⟨vn2,vb2,vs2,rfl,hn⟩;replace hx:=cI.cG hx r (cC w) he (mC h_);have hf:=hn.dB r.cD (mN h_);clear r;clear hn;obtain⟨an2,cn2,ab2,cb2,aq2,cq2,rfl,rfl,rfl,-,-,-⟩:=hf.shape
 refine cF (cE hw (fun _ w' v w2=>∃vu vx,v= .tuple #[vu,vx,.int .i64 0]∧cI w2 (Nf w' w2) vu aAb∧∃a n c,vx= .slice a n c) (fun O w' r=>(Fv (S:=(fun g=>Cf w ON g∨g=(O 0).g)) (l:=JW) (fun g hg=>hg.elim (Rel.old r (cC w) g) fun e=>by subst e;exact Rel.lt r (id:=0) rfl) (dU.cK (dU.rel hf r (cC w)) fun g hg=>.inl hg) (show fL w' (fun g=>Cf w ON g∨g=(O 0).g) (.slice (some ⟨(O 0).g,0,none⟩) 1 1) JW from⟨[[.int .i64 2,.int .i64 0,.int .i64 0,.int .i64 (-12)]],(r.qU (id:=0) (sz:=4) (n:=1) rfl rfl (by decide) (by repeat' first|refine List.forall_mem_cons.2 ⟨rfl,?_⟩|exact fun u hu=>absurd hu List.not_mem_nil)).cK fun g hg=>.inr hg,rfl,by simp,fun j cs x h1 h2=>by cases j with|zero=>(cases h1;cases h2;rfl)|succ j=>cases h2⟩) (fun _=>Fw)).mono fun _ _ ⟨v2,e1,e2,e3⟩=>⟨v2,e1,e2,e3.elim (fun h=>absurd yT h.1) fun h=>h.2.elim (fun g=>absurd g.1 (by rw[Fx];decide)) fun⟨_,x,u,vx,vu,g1,g2,e3,e4,e5⟩=>by
  obtain rfl:=Fw.Mc.one g1 Ds;rw[aAd]at g2;injection g2 with g2;subst g2;obtain⟨a,c,h,_⟩:=cY.shape e5
  exact⟨vu,vx,e3,e4,a,_,c,h⟩⟩) ?_)
 rintro O _ _ _ OZ r he hw h_ ⟨vu1,_,rfl,hn,ay1,ny1,cy1,rfl⟩;replace hx:=cI.cG hx r (cC w) he (mC h_);clear hf;have hu:=cI.dB (S:=FF) hn r.cD (mN h_);clear r;clear hn;obtain⟨au1,cu1,rfl,-,-⟩:=cY.shape hu;refine cF (cE hw (fun _ w' v w2=>∃vn vb vs,v= .agg #[vn,vb,vs]∧dU w2 (Nf w' w2) vn vb vs fb) (fun O w' r=>wB w') ?_);rintro O _ _ _ PF r he hw h_ ⟨vn3,vb3,vs3,rfl,hn⟩;replace hx:=cI.cG hx r (cC w) he (mC h_);replace hu:=cI.cG hu r (cC w) he (mC h_);have hf:=hn.dB r.cD (mN h_);clear r;clear hn;obtain⟨an3,cn3,ab3,cb3,aq3,cq3,rfl,rfl,rfl,-,-,-⟩:=hf.shape;refine cF (cE hw (fun _ w' v w2=>v= .tuple #[HH 9 0 0,.int .i64 0]) (fun O w' r=>(JR (S:=Cf w PF) (Rel.old r (cC w)) (dU.rel hf r (cC w)) (fun _=>Fw.toFrS)).mono fun _ _ ⟨v2,e1,e2,e3⟩=>⟨v2,e1,e2,e3.elim (fun h=>absurd (jX yT).1 h.1) fun h=>by rw[h.2,Fx];rfl⟩) ?_);rintro O _ _ _ Q2 r he hw h_ rfl;replace hx:=cI.cG hx r (cC w) he (mC h_);replace hu:=cI.cG hu r (cC w) he (mC h_);clear hf;clear r
 refine cF (cE hw (fun _ w' v w2=>∃vr,v= .tuple #[vr,.int .i64 0]∧cT w2 (Nf w' w2) vr ((2:Int):Rat)) (fun O w' r=>(HF 25 10 w' (by decide) (by decide) (by decide)).mono fun _ _ ⟨v2,e1,e2,vr,rt,e3,e4,e5,e6⟩=>⟨v2,e1,e2,vr,e3,by
  have:rt=2000:=aAD e4 e5 (by decide) (by decide);rw[this]at e6
  exact aAc▸e6⟩) ?_)
 rintro O _ _ _ RP r he hw h_ ⟨vr1,rfl,hn⟩;replace hx:=cI.cG hx r (cC w) he (mC h_);replace hu:=cI.cG hu r (cC w) he (mC h_);have hl:=hn.dB (S:=FF) r.cD (mN h_);clear r;obtain⟨s7_0a,s7_0b,s7_0c,s7_0d,s7_0e,s7_0f,s7_0g,s7_0h,rfl⟩:=hl.shape;clear hn;refine cF (cE hw (fun _ w' v w2=>∃q,v= .tuple #[q,.int .i64 0]∧cT w2 (Nf w' w2) q (Rat.divInt (-3) 2)) (fun O w' r=>(Lq (-3) 2 w' (by decide) (by decide) (by decide) (by decide)).mono fun _ _ ⟨v2,e1,e2,e3⟩=>⟨v2,e1,e2,e3.elim (fun k=>absurd k.1 (by decide)) fun h=>h.2⟩) ?_);rintro O _ _ _ Rg r he hw h_ ⟨q1,rfl,hn⟩;replace hx:=cI.cG hx r (cC w) he (mC h_);replace hu:=cI.cG hu r (cC w) he (mC h_);replace hl:=hl.cG r (cC w) he (mC h_);have hh:=hn.dB (S:=FF) r.cD (mN h_);clear r;obtain⟨s8_0a,s8_0b,s8_0c,s8_0d,s8_0e,s8_0f,s8_0g,s8_0h,rfl⟩:=hh.shape;clear hn;refine cF (cO (Φ:=fun _ w' v w2=>dg w2 FF w'.heap.size [(w'.heap.size,w2.heap.size)] v 9 (c9 Lp)) (fun O w' r=>Ff (S:=fun g=>g=(O 4).g) (fun g hg=>by subst hg;exact Rel.lt r (id:=4) rfl) (NR r (id:=4) (n:=9) (l:=Lp) rfl rfl (by decide)) (by decide) (by decide) (by decide)) ?_);rintro O Rh v9 Rv r he hb hn;replace hw:=hw.tr hb;replace hx:=cI.cK (S':=Bs FF w.heap.size ((Rh.heap.size,Rv.heap.size)::Rg) v9) (cI.cJ (cI.rel hx r (cC w)) fun g hg=>he.block g (Rel.old r (cC w) g hg)) fun g hg=>Bs.of r (cC w) (fun x hx=>List.mem_cons_of_mem _ hx) hn hg;replace hu:=cI.cK (S':=Bs FF w.heap.size ((Rh.heap.size,Rv.heap.size)::Rg) v9) (cI.cJ (cI.rel hu r (cC w)) fun g hg=>he.block g (Rel.old r (cC w) g hg)) fun g hg=>Bs.of r (cC w) (fun x hx=>List.mem_cons_of_mem _ hx) hn hg;replace hl:=cT.cK (S':=Bs FF w.heap.size ((Rh.heap.size,Rv.heap.size)::Rg) v9) (cT.cJ (hl.rel r (cC w)) fun g hg=>he.block g (Rel.old r (cC w) g hg)) fun g hg=>Bs.of r (cC w) (fun x hx=>List.mem_cons_of_mem _ hx) hn hg;replace hh:=cT.cK (S':=Bs FF w.heap.size ((Rh.heap.size,Rv.heap.size)::Rg) v9) (cT.cJ (hh.rel r (cC w)) fun g hg=>he.block g (Rel.old r (cC w) g hg)) fun g hg=>Bs.of r (cC w) (fun x hx=>List.mem_cons_of_mem _ hx) hn hg;have hX:=hn.dB (S:=FF) r.cD (iv:=(Rh.heap.size,Rv.heap.size)::Rg) aG;clear r he hb hn;generalize (Rh.heap.size,Rv.heap.size)::Rg=SK at*
 obtain⟨ax,cx,rfl,Sf⟩:=hX.row.form;obtain⟨gx,rfl⟩:=hX.at (by decide);refine⟨⟨gx,0,none⟩,rfl,by omega,?_⟩;intro O w' r;obtain⟨g,hg,h1,h2,h3,h4,h5⟩:=(hX.rel r (cC w)).store (j:=8) (by decide) (hh.cJ (Bs.same r (cC w))) r (cC w);injection hg with hg;injection hg with hg;subst hg;refine⟨h1,h2,h3,fun w5 QZ=>?_⟩;obtain⟨k1,k2,k3⟩:=h5 w5 QZ;have Oz:eE w.heap.size w w5:=(hw.tr r.cQ).tr (eE.grown k2 (fun g e=>by injection e with e;subst e;exact h4.elim (fun h=>h.elim) fun h=>h.1) r.cD);have RM:=cI.cK (S':=Cf w SK) (cI.cJ hx (Bs.kept r (cC w) k2 fun g e=>e)) fun g hg=>hg.1;have TD:=cI.cK (S':=Cf w SK) (cI.cJ hu (Bs.kept r (cC w) k2 fun g e=>e)) fun g hg=>hg.1;have PQ:=cT.cK (S':=Cf w SK) (cT.cJ hl (Bs.kept r (cC w) k2 fun g e=>e)) fun g hg=>hg.1;have Oc:=k1.c;clear hX hx hu hl hh hw h1 h2 h3 h4 h5 QZ k1 k2 k3 r;have hw:=Oz;have hx:=RM;have hu:=TD;have hl:=PQ;have hd:=Oc;clear Oz RM TD PQ Oc;refine cM hτ df [.x 0,.x 1,.x 2,.x 3,.x 4,.x 5,.x 6,.x 7,.x 8,.x 9,.x 10,.x 11,.x 12,.x 13,.x 14,.x 15,.x 16,.x 17,.x 18,.x 19,.x 20,.x 21,.x 22,.x 23,.x 24,.x 25,.x 26,.x 27,.x 28,.x 29,.x 30,.x 31,.x 32,.x 33,.x 34,.x 35] (by kernel_rfl) (by kernel_rfl) ?_;refine cE hw (fun _ w' v w2=>dg w2 FF w'.heap.size [(w'.heap.size,w2.heap.size)] v 9 (c9 CX)) (fun O w' r=>Ff (S:=fun g=>g=(O 5).g) (fun g hg=>by subst hg;exact Rel.lt r (id:=5) rfl) (NR r (id:=5) (n:=9) (l:=CX) rfl rfl (by decide)) (by decide) (by decide) (by decide)) ?_;rintro O _ _ _ RH r he hw h_ hn;replace hx:=cI.cG hx r (cC w) he (mC h_);replace hu:=cI.cG hu r (cC w) he (mC h_);replace hl:=hl.cG r (cC w) he (mC h_);replace hd:=cI.cG hd r (cC w) he (mC h_);have hX:=hn.dB (S:=FF) r.cD (mN h_);clear r he hn;have hv:=hX.c;clear hX;obtain⟨av,cv,rfl,-,-⟩:=cY.shape hv;refine cE hw (fun _ w' v w2=>v= .bool true) (fun O w' r=>(sw (S:=Cf w RH) (Rel.old r (cC w)) (cI.rel hx r (cC w)) (cI.rel hv r (cC w))).mono fun _ _ ⟨v2,e1,e2,e3⟩=>⟨v2,e1,e2,by rw[e3];exact congrArg _ (bX rfl)⟩) ?_;rintro O _ _ _ QV r he hw h_ rfl;clear hx;replace hu:=cI.cG hu r (cC w) he (mC h_);replace hl:=hl.cG r (cC w) he (mC h_);replace hd:=cI.cG hd r (cC w) he (mC h_);clear hv;clear r he;refine cE hw (fun _ w' v w2=>v= .bool true) (fun O w' r=>(sw (S:=Cf w QV) (Rel.old r (cC w)) (cI.rel hu r (cC w)) (cI.rel hd r (cC w))).mono fun _ _ ⟨v2,e1,e2,e3⟩=>⟨v2,e1,e2,by rw[e3];exact congrArg _ (bX rfl)⟩) ?_;rintro O _ _ _ VU r he hw h_ rfl;clear hu;replace hl:=hl.cG r (cC w) he (mC h_);clear hd;clear r he;refine⟨true,fun O w o1 o2=>Mq 9 0 0 9 0 0 w o1 o2,?_⟩;refine cE hw (fun _ w' v w2=>cT w2 (Nf w' w2) v ((2:Int):Rat)) (fun O w' r=>jO 2 w' (by decide)) ?_;rintro O _ _ _ VW r he hw h_ hn;replace hl:=hl.cG r (cC w) he (mC h_);have ht:=hn.dB (S:=FF) r.cD (mN h_);clear r he hn;obtain⟨A0,A1,A2,A3,A4,A5,A6,A7,rfl⟩:=ht.shape;refine cE hw (fun _ w' v w2=>v= .bool true) (fun O w' r=>(Ls (S:=Cf w VW) (Rel.old r (cC w)) (hl.rel r (cC w)) (ht.rel r (cC w))).mono fun _ _ ⟨v2,e1,e2,e3⟩=>⟨v2,e1,e2,by rw[e3];exact congrArg _ (bX rfl)⟩) ?_;rintro O _ _ _ iv14 r he hw h_ rfl;clear hl;clear ht;clear r he;exact rtn hw fun ρe we re=>rfl
set_option maxHeartbeats 2000000 in
set_option maxRecDepth 8000 in
theorem wK{f:HI}(hS:Old S w)(hF:qV w S vn vb vs f)(hl:fL w S v l):
  eA PG N.kQ #[.agg #[vn,vb,vs],v] w (eF w fun v' _=>v'= .bool true):=by
 have hw:=bR w;obtain⟨an,cn,rfl,-,-⟩:=hF.nodes.shape;obtain⟨ab,cb,rfl,-,-⟩:=hF.bars.shape;obtain⟨aq,cq,rfl,-,-⟩:=hF.cX.shape;obtain⟨al,cl,rfl,-,-⟩:=hl.shape;refine nT (by simp) ?_;conv=>whnf
 refine cF (cE hw (fun _ w' v w2=>∃d,v= .bool d∧(d=true->dU w S (.slice an f.nodes.length cn) (.slice ab f.bars.length cb) (.slice aq f.cX.length cq) f.val∧(∀b∈f.val.bars,rl b.2.2<=3)∧(∀b∈f.val.cX,rl b.2.2<=3)∧(eL f.val≠0∨f.val.nodes.length<=4∧f.val.bars.length<=6))) (fun O w' r=>JL hS hw r hF) ?_);rintro O _ _ _ OJ r he hw h_ ⟨d1,rfl,OR⟩;clear r
 cases d1
 ·conv=>whnf
  refine cF (cE hw (fun _ w' v w2=>v= .bool true) (fun O w' r=>qZ w') ?_);rintro O Pn v2 PJ OG r he hw h_ rfl;clear r;conv=>whnf
  exact rtn hw fun ρe we re=>rfl
 have OR:=OR rfl;conv=>whnf
 refine cF (cE hw (fun _ w' v w2=>∃d,v= .bool d) (fun O w' r=>aAJ (hl.cJ (kS hw r hS))) ?_);rintro O _ v2 _ OG r he hw h_ ⟨d2,rfl⟩;clear r
 cases d2
 ·conv=>whnf
  refine cF (cE hw (fun _ w' v w2=>v= .bool true) (fun O w' r=>qZ w') ?_);rintro O PH v3 PD ON r he hw h_ rfl;clear r;conv=>whnf
  exact rtn hw fun ρe we re=>rfl
 obtain⟨hR,hrb,Uz,R7⟩:=OR;obtain⟨fv,hfv⟩:∃fv,f.val=fv:=⟨_,rfl⟩
 rw[hfv]at hR hrb Uz R7;obtain⟨en,eb,es⟩:f.nodes.length=fv.nodes.length∧f.bars.length=fv.bars.length∧f.cX.length=fv.cX.length:=by rw[<-hfv];exact⟨rfl,(aK ..).symm,(aK ..).symm⟩
 rw[en,eb,es]at hR ⊢;clear hF hfv en eb es;have hsf:eL fv=0->uh fv:=Ln R7 hrb Uz;have hsf2:eL fv=0->FrS fv:=fun h=>(hsf h).toFrS;obtain⟨e0,EE⟩:∃e,gR fv l=e:=⟨_,rfl⟩
 by_cases he0:e0=0
 ·rw[he0]at EE;obtain⟨OP,PE⟩:=jX EE;have QU:=hsf OP;have OO:=QU.toFrS;have PE:=uW PE;have PX:=sX PE;obtain⟨o,ho⟩:∃o,ed (cP fv) (cW (dI fv l) (-1)) fv.cols=o:=⟨_,rfl⟩
  cases o with
  |none=>
   conv=>whnf
   refine cF (cE hw (fun _ w' v w2=>∃u vu,u∈cV (cd (cP fv) fv.cols) (cP fv).length∧dP (dI fv l) u (dI fv l).length≠0∧v= .tuple #[.agg #[.int .i64 1,.slice none 0 0,vu],.int .i64 0]∧cI w2 (Nf w' w2) vu (cW u (1 / dP (dI fv l) u (dI fv l).length))) (fun O w' r=>(Ao (oS hS r) (hR.cJ (kS hw r hS)) (hl.cJ (kS hw r hS)) hsf).mono fun _ _ ⟨v2,e1,e2,e3⟩=>⟨v2,e1,e2,e3.elim (fun h=>absurd EE h.1) fun h=>h.2.elim (fun ⟨x,vx,g,_⟩=>by rw[ho]at g;cases g) fun h=>h.2⟩) ?_);rintro O PH v3 PD ON r he hw h_ ⟨u,vu,hu,hwk,rfl,hn⟩;have hU:=cI.dB (S:=FF) hn r.cD (mN h_);clear r;clear hn;have PM:=Gl hu hwk;have Sm:=Kt OO PE hu hwk;obtain⟨m,hm⟩:∃m,cW u (1 / dP (dI fv l) u (dI fv l).length)=m:=⟨_,rfl⟩
   rw[hm]at hU PM Sm;have QO:=PM.1;have Vt:=OO.n4;obtain⟨au,cu,rfl,-,-⟩:=cY.shape hU;conv=>whnf
   refine cF (cE hw (fun _ w' v w2=>v= .int .i64 0) (fun O w' r=>(oh (oS hS r) (hR.cJ (kS hw r hS)) (hl.cJ (kS hw r hS))).mono fun _ _ ⟨v2,e1,e2,e3⟩=>⟨v2,e1,e2,by rw[e3,EE]⟩) ?_);rintro O Qw v4 Qk OZ r he hw h_ rfl;replace hU:=cI.cG hU r (cC w) he (mC h_);clear r;conv=>whnf
   refine cF (cE hw (fun _ w' v w2=>v= .tuple #[.slice none 0 0,.bool false]) (fun O w' r=>(An (oS hS r) (hR.cJ (kS hw r hS)) (hl.cJ (kS hw r hS)) OP OO PE).mono fun _ _ ⟨v2,e1,e2,e3⟩=>⟨v2,e1,e2,e3.elim (fun h=>h.2) fun⟨x,vx,g,_⟩=>by rw[ho]at g;cases g⟩) ?_);rintro O RY v5 RO PF r he hw h_ rfl;replace hU:=cI.cG hU r (cC w) he (mC h_);clear r;conv=>whnf
   refine cF (cE hw (fun _ w' v w2=>v= .int .i64 0) (fun O w' r=>(ry (S:=fun g=>S g∨Cf w PF g) (fun g hg=>hg.elim (oS hS r g) (Rel.old r (cC w) g)) (dU.cK (hR.cJ (kS hw r hS)) fun g hg=>.inl hg) (fL.cK (hl.cJ (kS hw r hS)) fun g hg=>.inl hg) hsf2 (cS.nil _ _) (cS.cK (cI.l (cI.rel hU r (cC w)) fun q hq=>by have:=Sm q hq;omega) fun g hg=>.inr hg) (fun q hq=>by cases hq) (fun q hq=>by have:=Sm q hq;omega) (by decide) (by omega)).mono fun _ _ ⟨v2,e1,e2,e3⟩=>⟨v2,e1,e2,e3.elim (fun h=>absurd EE h.1) fun h=>h.2.elim (fun g=>g.1) fun g=>absurd (.inr ⟨rfl,rfl,PM⟩) g.2⟩) ?_);rintro O RR v6 RZ Q2 r he hw h_ rfl;replace hU:=cI.cG hU r (cC w) he (mC h_);clear r;conv=>whnf
   refine cF (cE hw (fun _ w' v w2=>v= .int .i64 0) (fun O w' r=>(rz (S:=fun g=>S g∨Cf w Q2 g) (fun g hg=>hg.elim (oS hS r g) (Rel.old r (cC w) g)) (dU.cK (hR.cJ (kS hw r hS)) fun g hg=>.inl hg) (fL.cK (hl.cJ (kS hw r hS)) fun g hg=>.inl hg) OP OO PE (cS.nil _ _) (cS.cK (cI.l (cI.rel hU r (cC w)) fun q hq=>by have:=Sm q hq;omega) fun g hg=>.inr hg) (fun q hq=>by cases hq) (fun q hq=>by have:=Sm q hq;omega) (by decide) (by omega)).mono fun _ _ ⟨v2,e1,e2,e3⟩=>⟨v2,e1,e2,e3.elim (fun g=>g.1) fun g=>absurd (.inr ⟨rfl,rfl,PM⟩) g.2⟩) ?_);rintro O Tc v7 Td RP r he hw h_ rfl;replace hU:=cI.cG hU r (cC w) he (mC h_);clear r;conv=>whnf
   refine cF (cE hw (fun _ w' v w2=>v= .bool true) (fun O w' r=>qZ w') ?_);rintro O Tw v8 UZ Rg r he hw h_ rfl;replace hU:=cI.cG hU r (cC w) he (mC h_);clear r;conv=>whnf
   exact rtn hw fun ρe we re=>rfl
  |some x0=>
   conv=>whnf
   refine cF (cE hw (fun _ w' v w2=>∃vx,v= .tuple #[.agg #[.int .i64 0,vx,.slice none 0 0],.int .i64 0]∧cI w2 (Nf w' w2) vx x0) (fun O w' r=>(Ao (oS hS r) (hR.cJ (kS hw r hS)) (hl.cJ (kS hw r hS)) hsf).mono fun _ _ ⟨v2,e1,e2,e3⟩=>⟨v2,e1,e2,e3.elim (fun h=>absurd EE h.1) fun h=>h.2.elim (fun ⟨x,vx,g,k1,k2⟩=>by rw[ho]at g;injection g with g;subst g;exact⟨vx,k1,k2⟩) fun h=>by rw[ho]at h;cases h.1⟩) ?_);rintro O PH v3 PD ON r he hw h_ ⟨vx,rfl,hn⟩;have hX:=cI.dB (S:=FF) hn r.cD (mN h_);clear r;clear hn;have heq:=Kn ho;obtain⟨Dn,hD⟩:=OO.NM PX ho;have Rr:∀q∈x0,rl q<=26:=fun q hq=>by have:=hD.rl q hq;have h2:ln (wt 25)<=26:=gB.2 (Ec (by decide));omega
   have PZ:=heq.1;have Re:=OO.FA;obtain⟨ax,cx,rfl,-,-⟩:=cY.shape hX;conv=>whnf
   refine cF (cE hw (fun _ w' v w2=>v= .int .i64 0) (fun O w' r=>(oh (oS hS r) (hR.cJ (kS hw r hS)) (hl.cJ (kS hw r hS))).mono fun _ _ ⟨v2,e1,e2,e3⟩=>⟨v2,e1,e2,by rw[e3,EE]⟩) ?_);rintro O Qw v4 Qk OZ r he hw h_ rfl;replace hX:=cI.cG hX r (cC w) he (mC h_);clear r;conv=>whnf
   refine cF (cE hw (fun _ w' v w2=>∃vx,v= .tuple #[vx,.bool true]∧cI w2 (Nf w' w2) vx x0) (fun O w' r=>(An (oS hS r) (hR.cJ (kS hw r hS)) (hl.cJ (kS hw r hS)) OP OO PE).mono fun _ _ ⟨v2,e1,e2,e3⟩=>⟨v2,e1,e2,e3.elim (fun h=>by rw[ho]at h;cases h.1) fun⟨x,vx,g,k1,k2⟩=>by rw[ho]at g;injection g with g;subst g;exact⟨vx,k1,k2⟩⟩) ?_);rintro O RY v5 RO PF r he hw h_ ⟨vy,rfl,hn⟩;replace hX:=cI.cG hX r (cC w) he (mC h_);have hY:=cI.dB (S:=FF) hn r.cD (mN h_);clear r;clear hn;obtain⟨ay,cy,rfl,-,-⟩:=cY.shape hY;conv=>whnf
   refine cF (cE hw (fun _ w' v w2=>v= .int .i64 0) (fun O w' r=>(ry (S:=fun g=>S g∨Cf w PF g) (fun g hg=>hg.elim (oS hS r g) (Rel.old r (cC w) g)) (dU.cK (hR.cJ (kS hw r hS)) fun g hg=>.inl hg) (fL.cK (hl.cJ (kS hw r hS)) fun g hg=>.inl hg) hsf2 (cS.cK (cI.l (cI.rel hX r (cC w)) fun q hq=>by have:=Rr q hq;omega) fun g hg=>.inr hg) (cS.nil _ _) (fun q hq=>by have:=Rr q hq;omega) (fun q hq=>by cases hq) (by omega) (by decide)).mono fun _ _ ⟨v2,e1,e2,e3⟩=>⟨v2,e1,e2,e3.elim (fun h=>absurd EE h.1) fun h=>h.2.elim (fun g=>g.1) fun g=>absurd (.inl ⟨rfl,rfl,heq⟩) g.2⟩) ?_);rintro O _ _ _ Q2 r he hw h_ rfl;replace hX:=cI.cG hX r (cC w) he (mC h_);replace hY:=cI.cG hY r (cC w) he (mC h_);clear r;conv=>whnf
   refine cF (cE hw (fun _ w' v w2=>v= .int .i64 0) (fun O w' r=>(rz (S:=fun g=>S g∨Cf w Q2 g) (fun g hg=>hg.elim (oS hS r g) (Rel.old r (cC w) g)) (dU.cK (hR.cJ (kS hw r hS)) fun g hg=>.inl hg) (fL.cK (hl.cJ (kS hw r hS)) fun g hg=>.inl hg) OP OO PE (cS.cK (cI.l (cI.rel hX r (cC w)) fun q hq=>by have:=Rr q hq;omega) fun g hg=>.inr hg) (cS.nil _ _) (fun q hq=>by have:=Rr q hq;omega) (fun q hq=>by cases hq) (by omega) (by decide)).mono fun _ _ ⟨v2,e1,e2,e3⟩=>⟨v2,e1,e2,e3.elim (fun g=>g.1) fun g=>absurd (.inl ⟨rfl,rfl,heq⟩) g.2⟩) ?_);rintro O _ _ _ RP r he hw h_ rfl;replace hX:=cI.cG hX r (cC w) he (mC h_);replace hY:=cI.cG hY r (cC w) he (mC h_);clear r;conv=>whnf
   refine cF (cE hw (fun _ w' v w2=>v= .bool true) (fun O w' r=>(sw (S:=Cf w RP) (Rel.old r (cC w)) (cI.rel hX r (cC w)) (cI.rel hY r (cC w))).mono fun _ _ ⟨v2,e1,e2,e3⟩=>⟨v2,e1,e2,by rw[e3];exact congrArg _ (bX rfl)⟩) ?_);rintro O _ _ _ Rg r he hw h_ rfl;replace hX:=cI.cG hX r (cC w) he (mC h_);replace hY:=cI.cG hY r (cC w) he (mC h_);clear r;conv=>whnf
   refine cF (cE hw (fun _ w' v w2=>v= .bool true) (fun O w' r=>qZ w') ?_);rintro O _ _ _ SK r he hw h_ rfl;replace hX:=cI.cG hX r (cC w) he (mC h_);replace hY:=cI.cG hY r (cC w) he (mC h_);clear r;conv=>whnf
   exact rtn hw fun ρe we re=>rfl
 conv=>whnf
 refine cF (cE hw (fun _ w' v w2=>v= .tuple #[.agg #[.int .i64 0,.slice none 0 0,.slice none 0 0],.int .i64 e0]) (fun O w' r=>(Ao (oS hS r) (hR.cJ (kS hw r hS)) (hl.cJ (kS hw r hS)) hsf).mono fun _ _ ⟨v2,e1,e2,e3⟩=>⟨v2,e1,e2,e3.elim (fun h=>by rw[h.2,EE]) fun h=>absurd (EE.symm.trans h.1) he0⟩) ?_);rintro O _ _ _ ON r he hw h_ rfl;clear r;conv=>whnf
 refine cF (cE hw (fun _ w' v w2=>v= .int .i64 e0) (fun O w' r=>(oh (oS hS r) (hR.cJ (kS hw r hS)) (hl.cJ (kS hw r hS))).mono fun _ _ ⟨v2,e1,e2,e3⟩=>⟨v2,e1,e2,by rw[e3,EE]⟩) ?_);rintro O _ _ _ OZ r he hw h_ rfl;clear r;conv=>whnf
 refine dK.mk (fun _=>?_) (fun hd=>absurd (by simpa using hd) he0);conv=>whnf
 refine dK.mk (fun _=>?_) (fun hd=>by simp at hd);conv=>whnf
 refine⟨0,by rw[wrap64]<;>decide,?_⟩;conv=>whnf
 refine cF (cE hw (fun _ w' v w2=>v= .bool true) (fun O w' r=>qZ w') ?_);rintro O _ _ _ PF r he hw h_ rfl;clear r;conv=>whnf
 exact rtn hw fun ρe we re=>rfl
end Go.Ex
