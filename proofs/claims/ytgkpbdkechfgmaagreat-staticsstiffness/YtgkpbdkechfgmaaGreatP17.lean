/- Texts X197 to X217: lemmas, each with its conditions. -/
import Derived.Test.YtgkpbdkechfgmaaGreatP16
namespace Go.Ex
open Go Go.Sx Go.Proofs
variable{S:Nat->Prop}
abbrev aAy(f:eY):Nat->Rat:=fun t=>(dE f).getD t 0
set_option maxRecDepth 8000 in
theorem KZ{w:World}{vn vb vs vl:Value}{f:eY}{l:List Ld}(hS:Old S w)(hf:dX w S vn vb vs f)(hl:oY w S vl l)(SY:eP f=0->qc f):
  eA PG N.r8 #[.agg #[vn,vb,vs],vl] w (eL w fun v' w2=>(mF f l≠0∧v'= .tuple #[.slice none 0 0,.int .i64 (mF f l)])∨(mF f l=0∧((gq (cU f) (eB (ki f l) (-1)) f.cols=none∧v'= .tuple #[.slice none 0 0,.int .i64 17])∨∃x vx,mu (cU f) f.cols (aAy f) (eB (ki f l) (-1)) x∧v'= .tuple #[vx,.int .i64 0]∧cR w2 (Nf w w2) vx x))):=by
 have hw:=bR w;obtain⟨an,cn,ab,cb,aq,cq,rfl,rfl,rfl,RN,RJ,SF⟩:=hf.shape;obtain⟨al,cl,rfl,QB,Rh⟩:=hl.shape;obtain⟨e0,EE⟩:∃e,mF f l=e:=⟨_,rfl⟩
 refine xG (by simp) ?_;refine cH (cE hw (fun _ w' v w2=>v= .int .i64 e0) (fun O w' r=>(s6 (oS hS r) (hf.cJ (kS hw r hS)) (hl.cJ (kS hw r hS))).mono fun _ _ ⟨v2,e1,e2,e3⟩=>⟨v2,e1,e2,by rw[e3,EE]⟩) ?_);rintro O _ _ _ Od r he hw h_ rfl;refine dG.mk ?_ ?_<;>intro he
 ·have he:e0≠0:=by simpa using he
  exact rtn hw fun ρe we re=>.inl ⟨by rw[EE];exact he,by rw[EE];rfl⟩
 have he:e0=0:=by simpa using he
 have Uc:mF f l=0:=by rw[EE,he]
 obtain⟨Om,SO⟩:=qR Uc;have Ph:=SY Om;have Ou:=Ph.toFrS;have SO:=Li SO;have Tv:=Ou.M5;have VP:=Ou.r12;have Uw:=fu f;have hlen:=fe f;have hn4:=Ou.n4;have Oc:=lM Om;have VA:=zo f l;have Xs:f.cols=f.bars.length+f.cV.length:=rfl;refine cO hτ dZ [.x 0,.x 1,.x 2,.x 3,.x 4,.x 5,.x 6,.x 7,.x 8,.x 9] (by kernel_rfl) (by kernel_rfl) ?_;refine cE hw (fun _ w' v w2=>cR w2 (Nf w' w2) v (ki f l)∧∀q∈ki f l,rl q<=1) (fun O w' r=>(Ew (oS hS r) (hl.cJ (kS hw r hS)) Ou.n SO rfl rfl).mono fun _ _ ⟨v2,e1,e2,e3,e4⟩=>⟨v2,e1,e2,cR.cL e3.c fun g hg=>hg.new,e4⟩) ?_;rintro O _ _ _ Oa r he hw h_ ⟨hn,Xb⟩;have hP:=cR.dK (S:=FF) hn r.cI (mN h_);obtain⟨ap,cp,rfl,-,-⟩:=dL.shape hP;rw[VA];refine cP (Φ:=fun _ w' v w2=>(gq (cU f) (eB (ki f l) (-1)) f.cols=none∧v= .tuple #[.slice none 0 0,.bool false])∨∃x vx,mu (cU f) f.cols (aAy f) (eB (ki f l) (-1)) x∧v= .tuple #[vx,.bool true]∧cR w2 (Nf w' w2) vx x) (fun O w' r=>FL (S:=fun g=>S g∨Cf w Oa g) (fun g hg=>hg.elim (oS hS r g) (Rel.old r (cG w) g)) (dX.cL (hf.cJ (kS hw r hS)) fun g hg=>.inl hg) Om Ph (cR.cL (by have:=cR.rel hP r (cG w);rw[VA]at this;exact this) fun g hg=>.inr hg) VA (fun q hq=>by have:=Xb q hq;omega) (KY SO)) ?_;rintro O Pg v3 Pc r he hb (⟨SI,rfl⟩|⟨x,vx,hx,rfl,hn⟩)
 ·replace hw:=hw.tr hb;exact rtn hw fun ρe we re=>.inr ⟨Uc,.inl ⟨SI,rfl⟩⟩
 replace hw:=hw.tr hb;have hX:=cR.dK (S:=FF) hn r.cI (iv:=(Pg.heap.size,Pc.heap.size)::Oa) aI;generalize (Pg.heap.size,Pc.heap.size)::Oa=ivx at*
 obtain⟨ax,cx,rfl,-,-⟩:=dL.shape hX;exact rtn hw fun ρe we re=>.inr ⟨Uc,.inr ⟨x,_,hx,rfl,cR.out hX re (cG w)⟩⟩
end Go.Ex
namespace Go.Ex
variable{b:Int×Int×Rat}{M:List (List Rat)}{pl:List Int}{l:Nat}{q:Rat}{f:eY}
def grm(w:Nat->Rat)(e:Nat->Nat->Rat)(N i k:Nat):Rat:=cX (fun l=>w l*(e l i*e l k)) N
def qo(e:Nat->Nat->Rat)(d:Nat->Nat)(c:Nat->Rat)(n l:Nat):Rat:=cX (fun i=>c i*e l (d i)) n
section
variable{w:Nat->Rat}{e:Nat->Nat->Rat}{c:Nat->Rat}{d:Nat->Nat}{N n:Nat}
theorem aAJ:qf (fun i k=>grm w e N (d i) (d k)) c n=cX (fun l=>w l*(qo e d c n l*qo e d c n l)) N:=by
 unfold qf;rw[cN (g:=fun i=>cX (fun l=>c i*(w l*e l (d i)*qo e d c n l)) N) fun i _=>?_,kW]
 ·refine cN fun l _=>?_;rw[cN (g:=fun i=>(c i*e l (d i))*(w l*qo e d c n l)) fun i _=>by grind,jR];show qo e d c n l*_=_;grind
 ·rw[eU];congr 1;rw[cN (g:=fun k=>cX (fun l=>w l*e l (d i)*(c k*e l (d k))) N) fun k _=>?_,kW]
  ·exact cN fun l _=>eU ..
  ·unfold grm;rw[<-jR];exact cN fun l _=>by grind
theorem Hz(i k:Nat):grm w e N i k=grm w e N k i:=cN fun l _=>by grind
theorem aCw(m m':Mx):qf (fun i k=>m i k+m' i k) c n=qf m c n+qf m' c n:=by
 unfold qf;rw[<-fa];refine cN fun i _=>?_;rw[cN (g:=fun j=>m i j*c j+m' i j*c j) fun j _=>by grind,fa];grind
end
theorem zR(p:Nat->Bool)(g:Nat->Rat):∀m:Nat,cX (fun i=>g (((List.range m).filter p).getD i 0)) ((List.range m).filter p).length=cX (fun r=>if p r then g r else 0) m
 |0=>rfl
 |m+1=>by
  rw[bM,List.filter_append];show _=cX (fun r=>if p r then g r else 0) m+(if p m then g m else 0)
  rw[<-zR p g m];by_cases h:p m
  ·rw[if_pos h,show [m].filter p=[m] by simp[h],List.length_append];show cX _ (((List.range m).filter p).length)+g ((((List.range m).filter p)++[m]).getD ((List.range m).filter p).length 0)=_;congr 1
   ·refine cN fun i hi=>?_;rw[List.getD,List.getD,aJ hi]
   ·rw[List.getD,aM (Nat.le_refl _),bI];rfl
  ·rw[aK h,show [m].filter p=[] by simp[h],List.append_nil,bN]
def iC(f:eY)(r:Nat):Bool:=f.cV.any fun s=>decide (dw s=r)&&decide (s.2.2=0)
theorem IA{r:Nat}:iC f r=true↔∃s∈f.cV,dw s=r∧s.2.2=0:=by
 unfold iC;simp
def eI(f:eY):List Nat:=(List.range (3*f.nodes.length)).filter fun r=> !iC f r
def fM(f:eY)(i:Nat):Nat:=(eI f).getD i 0
theorem wT{i:Nat}(h:i<(eI f).length):fM f i<3*f.nodes.length∧iC f (fM f i)=false:=by
 have h1:fM f i∈eI f:=by
  unfold fM;rw[List.getD,aB h];exact a9 h
 unfold eI at h1;rw[List.mem_filter,List.mem_range]at h1;exact⟨h1.1,by simpa using h1.2⟩
theorem LK{i k:Nat}(hi:i<(eI f).length)(hk:k<(eI f).length)(e:fM f i=fM f k):i=k:=by
 have h1:(eI f).Nodup:=List.nodup_range.filter _;unfold fM at e;rw[List.getD,aB hi,List.getD,aB hk]at e;have h2:=List.pairwise_iff_getElem.1 h1;rcases bs i k with g|g|g
 ·exact absurd e (h2 i k hi hk g)
 ·exact g
 ·exact absurd e.symm (h2 k i hk hi g)
theorem aBm{r:Nat}(hr:r<3*f.nodes.length)(h:iC f r=false):∃i,i<(eI f).length∧fM f i=r:=by
 have h1:r∈eI f:=by
  unfold eI;rw[List.mem_filter,List.mem_range];exact⟨hr,by simp[h]⟩
 obtain⟨i,hi,e⟩:=List.getElem_of_mem h1;exact⟨i,hi,by unfold fM;rw[List.getD,aB hi];exact e⟩
def nQ(f:eY)(l r:Nat):Rat:=(if (r:Int)=3*(f.bars.getD (l / 3) (0,0,0)).2.1+(l % 3:Nat)then 1 else 0)-if(r:Int)=3*(f.bars.getD (l / 3) (0,0,0)).1+(l % 3:Nat)then 1 else 0
def kO(f:eY)(l r:Nat):Rat:=cY (cU f) r l
def wE(f:eY)(l:Nat):Rat:=((dE f).getD l 0)⁻¹
def Ar(f:eY)(x:List Rat)(r s:Nat):Rat:=grm (wE f) (kO f) f.cols r s+grm (fun l=>x.getD (l / 3) 0) (nQ f) (3*f.bars.length) r s
def fU(f:eY)(x:List Rat):List (List Rat):=(eI f).map fun r=>(eI f).map fun s=>Ar f x r s
section
variable{f:eY}{x y z:List Rat}
theorem gR:(fU f x).length=(eI f).length:=aL ..
theorem pw:fq (eI f).length (fU f x):=fun r hr=>by
 obtain⟨_,_,rfl⟩:=aT.1 hr;exact aL ..
theorem oq{i k:Nat}(hi:i<(eI f).length)(hk:k<(eI f).length):cY (fU f x) i k=Ar f x (fM f i) (fM f k):=by
 unfold cY fU fM;simp only[List.getD,aN,aB hi,aB hk,bh,Option.getD_some]
theorem aAK(r s:Nat):Ar f x r s=Ar f x s r:=by unfold Ar;rw[Hz,Hz (i:=r)]
theorem M8:D8 (fU f x)↔Qp (fun i k=>Ar f x (fM f i) (fM f k)) (eI f).length:=by
 rw[OD,gR];have hs:Sy (cY (fU f x)) (eI f).length:=fun i j hi hj=>by rw[oq hi hj,oq hj hi,aAK]
 have hc:Qp (cY (fU f x)) (eI f).length↔Qp (fun i k=>Ar f x (fM f i) (fM f k)) (eI f).length:=by
  constructor<;>intro h c hc<;>have h1:=h c hc
  ·rwa [Ha fun i j hi hj=>oq hi hj]at h1
  ·rwa [<-Ha fun i j hi hj=>oq hi hj]at h1
 rw[<-hc];exact⟨fun h=>aDX _ _ hs h.2,fun h=>⟨hs,aDY _ _ hs h⟩⟩
theorem aCx(c:Nat->Rat)(n:Nat):qf (fun i k=>Ar f x (fM f i) (fM f k)) c n=cX (fun l=>wE f l*(qo (kO f) (fM f) c n l*qo (kO f) (fM f) c n l)) f.cols+cX (fun l=>x.getD (l / 3) 0*(qo (nQ f) (fM f) c n l*qo (nQ f) (fM f) c n l)) (3*f.bars.length):=by
 unfold Ar;rw[aCw (fun i k=>grm (wE f) (kO f) f.cols (fM f i) (fM f k)) fun i k=>grm (fun l=>x.getD (l / 3) 0) (nQ f) (3*f.bars.length) (fM f i) (fM f k),aAJ,aAJ]
theorem pz(h:FrV f)(hx:∀i,x.getD i 0=0):D8 (fU f x)↔iO (cU f) f.cols=3*f.nodes.length:=by
 have hT:=fe f;have hTl:=fu f;have SC:∀(c:Nat->Rat) (n:Nat),qf (fun i k=>Ar f x (fM f i) (fM f k)) c n=cX (fun l=>wE f l*(qo (kO f) (fM f) c n l*qo (kO f) (fM f) c n l)) f.cols:=fun c n=>by
  rw[aCx,cN (f:=fun l=>x.getD (l / 3) 0*_) (g:=fun _=>0) fun l _=>by rw[hx,bC],dW,bN]
 have hrig:∀l,l<f.cols->(dE f).getD l 0=0->∃i s,l=f.bars.length+i∧f.cV[i]? =some s∧s.2.2=0:=fun l hl h0=>by
  rcases aP l f.bars.length with h1|h1
  ·have:=h.Hv h1;rw[h0]at this;exact absurd this (Rat.lt_irrefl)
  ·obtain⟨i,rfl⟩:∃i,l=f.bars.length+i:=⟨l-f.bars.length,by omega⟩
   have hi:i<f.cV.length:=by unfold eY.cols at hl;omega
   have hs:=aB hi;refine⟨i,_,rfl,hs,?_⟩;rw[dE,List.getD,aM (by rw[aL];omega),aL,Nat.add_sub_cancel_left,aN,hs]at h0;exact h0
 rw[M8];constructor
 ·intro hq;refine Decidable.byContradiction fun OZ=>?_;have hr:=CC hT;have hTr:=gV (cU f) f.cols;have VX:=ub hTr;have SS:0<(dC (dq (cU f) f.cols) (cU f).length).length:=by
   obtain⟨-,t2,-⟩:=dc hTr (cU f).length (Nat.le_refl _);have Xr:=lZ (dq (cU f) f.cols) (cU f).length;obtain⟨-,t3,-⟩:=dc hT f.cols (Nat.le_refl _);have QL:=da (cU f) f.cols;have Us:iO (cU f) f.cols=(cQ (cU f) f.cols).2.length:=rfl;have:iO (dq (cU f) f.cols) (cU f).length=(cQ (dq (cU f) f.cols) (cU f).length).2.length:=rfl;omega
  obtain⟨u,hu⟩:∃u,cY (dC (dq (cU f) f.cols) (cU f).length) 0=u:=⟨_,rfl⟩
  have Ss:∀l,l<f.cols->cX (fun r=>cY (cU f) r l*u r) (cU f).length=0:=fun l hl=>by
   have h1:=rU hTr SS l (by rw[eF];exact hl);rw[Eb hl,hu]at h1;exact h1
  obtain⟨r,Ot,hur⟩:∃r,r<(cU f).length∧u r≠0:=by
   refine Decidable.byContradiction fun SI=>?_
   have h3:=Fo (M:=dq (cU f) f.cols) (n:=(cU f).length) (c:=fun k=>if k=0 then 1 else 0) (fun t ht=>by
    rw[eV SS fun k _ OZ=>by rw[aK OZ,bC],if_pos rfl,bf,hu]
    exact Decidable.byContradiction fun g=>SI ⟨t,ht,g⟩) 0 SS
   exact absurd h3 (by decide)
  have hzero:∀r,iC f r=true->u r=0:=fun r hr=>by
   obtain⟨s,hs,Vd,Ve⟩:=IA.1 hr;obtain⟨i,hi⟩:=Fq hs;have hil:=(aE.1 hi).1;have h1:=Ss (f.bars.length+i) (by unfold eY.cols;omega);rw[eV (i:=r) (by rw[hTl,<-Vd];exact(h.sup s hs).1) fun k _ e=>by rw[mw,h.oR hi,aK fun g=>e (g.trans Vd)];exact bC _,mw,h.oR hi,if_pos Vd.symm]at h1;exact(bf _).symm.trans h1
  have hlin:∀l,l<f.cols->qo (kO f) (fM f) (fun i=>u (fM f i)) (eI f).length l=0:=fun l hl=>by
   unfold qo fM eI;rw[zR (fun r=> !iC f r) (fun r=>u r*kO f l r),cN (g:=fun r=>cY (cU f) r l*u r) fun r _=>?_,<-hTl]
   ·exact Ss l hl
   ·unfold kO
    cases e:iC f r with
    |true=>rw[hzero r e];grind
    |false=>show u r*_=_;exact bl _ _
  have hrf:iC f r=false:=by
   cases e:iC f r with
   |true=>exact absurd (hzero r e) hur
   |false=>rfl
  obtain⟨i,hi,he⟩:=aBm (by omega) hrf;have h1:=hq (fun i=>u (fM f i)) ⟨i,hi,by rw[he];exact hur⟩;rw[SC,cN (g:=fun _=>0) fun l hl=>by rw[hlin l hl,bB,bB],dW]at h1;exact Rat.lt_irrefl h1
 ·intro hr c hc;obtain⟨i0,Ra,Xs⟩:=hc;rw[SC];have Wl:∀l,0<=wE f l:=fun l=>by
   have h1:=h.rW l;unfold wE;rcases Decidable.em ((dE f).getD l 0=0)with h2|h2
   ·rw[h2];decide +kernel
   ·exact Rat.le_of_lt (Rat.inv_pos.2 (by grind))
  refine Rat.not_le.1 fun hle=>Xs ?_;have h0:=rS (f:=fun l=>wE f l*(qo (kO f) (fM f) c (eI f).length l*qo (kO f) (fM f) c (eI f).length l)) (n:=f.cols) (fun l _=>Rat.mul_nonneg (Wl l) (sq_nonneg _)) hle;have hlin:∀l,l<f.cols->qo (kO f) (fM f) c (eI f).length l=0:=fun l hl=>by
   rcases Decidable.em ((dE f).getD l 0=0)with h2|h2
   ·obtain⟨i,s,rfl,hs,Ve⟩:=hrig l hl h2;unfold qo kO;rw[cN (g:=fun _=>0) fun k hk=>?_,dW];rw[mw,h.oR hs,aK fun g=>?_]
    ·exact bB _
    ·have h3:=(wT hk).2;rw[IA.2 ⟨s,aD hs,g.symm,Ve⟩]at h3
     cases h3
   ·have h3:=h0 l hl;rcases Rat.mul_eq_zero.1 h3 with h4|h4
    ·unfold wE at h4;have:=Rat.inv_pos.2 (show 0<(dE f).getD l 0 by have:=h.rW l;grind);rw[h4]at this;exact absurd this (Rat.lt_irrefl)
    ·rcases Rat.mul_eq_zero.1 h4 with h5|h5<;>exact h5
  have hind:=Hx hT (by rw[hTl];exact hr);obtain⟨u,hu⟩:∃u,(fun r=>cX (fun i=>if fM f i=r then c i else 0) (eI f).length)=u:=⟨_,rfl⟩
  have h5:=hind u (fun t ht=>by
   rw[<-hlin t ht,<-hu];unfold qo;rw[cN (g:=fun r=>cX (fun i=>(if fM f i=r then c i else 0)*cY (cU f) r t) (eI f).length) fun r _=>by rw[jR],kW];refine cN fun i hi=>?_;rw[eV (i:=fM f i) (by rw[hTl];exact(wT hi).1) fun k _ e=>by rw[aK fun g=>e g.symm,bC],if_pos rfl]
   rfl) (fM f i0) (by rw[hTl];exact(wT Ra).1)
  rw[<-hu]at h5;dsimp only at h5;rw[eV Ra fun k hk e=>aK fun g=>e (LK hk Ra g),if_pos rfl]at h5;exact h5
end
def tW(p i:Nat):Rat:=if p=i then 1 else 0
def kX(f:eY)(r:Nat):Nat:=((List.range r).filter fun r=> !iC f r).length
def placeF(f:eY):List Int:=(List.range (3*f.nodes.length)).map fun r=>if iC f r then -1 else(kX f r:Int)
theorem As{r:Nat}(hr:r<3*f.nodes.length)(h:iC f r=false):kX f r<(eI f).length∧fM f (kX f r)=r:=by
 have e:(eI f)[kX f r]? =some r:=by
  obtain⟨k,hk⟩:∃k,3*f.nodes.length=r+(k+1):=⟨3*f.nodes.length-r-1,by omega⟩
  unfold eI kX;rw[hk,List.range_add,List.filter_append,aM (Nat.le_refl _),bI,List.range_succ_eq_map,List.map_cons,List.filter_cons,if_pos (by simp[h])];rfl
 refine⟨(aE.1 e).1,?_⟩;unfold fM;rw[List.getD,e];rfl
theorem IB{r:Nat}(hr:r<3*f.nodes.length):(placeF f).getD r 0=if iC f r then -1 else(kX f r:Int):=by
 unfold placeF;rw[List.getD,aN,bP hr];rfl
def fX(pl:List Int)(M:List (List Rat))(i k:Nat)(q:Rat):List (List Rat):=
 if 0<=pl.getD i 0∧0<=pl.getD k 0 then M.set (pl.getD i 0).toNat ((M.getD (pl.getD i 0).toNat []).set (pl.getD k 0).toNat (cY M (pl.getD i 0).toNat (pl.getD k 0).toNat+q))else M
structure vV(n:Nat)(M:List (List Rat)):Prop where
 l:M.length=n
 w:fq n M
theorem vV.fX{n:Nat}(h:vV n M)(i k:Nat)(q:Rat):vV n (fX pl M i k q):=by
 unfold Ex.fX;split
 ·rcases aP (pl.getD i 0).toNat M.length with h1|h1
  ·refine⟨by rw[bW];exact h.l,fun r hr=>?_⟩;rcases bA hr with hr|hr
   ·exact h.w r hr
   ·rw[hr,bW];exact h.w.getD h1
  ·rw[List.set_eq_of_length_le h1];exact h
 ·exact h
theorem vV.zero(n:Nat):vV n (List.replicate n (List.replicate n 0)):=⟨aU,fun r hr=>by rw[(List.mem_replicate.1 hr).2,aU]⟩
theorem aAL(n i k:Nat):cY (List.replicate n (List.replicate n (0:Rat))) i k=0:=by
 unfold cY;rcases aP i n with h|h
 ·rw[show (List.replicate n (List.replicate n (0:Rat))).getD i []=List.replicate n 0 by rw[List.getD,List.getElem?_replicate,if_pos h];rfl,List.getD,List.getElem?_replicate];split<;>rfl
 ·rw[show (List.replicate n (List.replicate n (0:Rat))).getD i []=[] by rw[List.getD,List.getElem?_replicate,aK (by omega)];rfl];rfl
theorem aBn{n:Nat}(h:vV n M){r c a b:Nat}(hr:r<n)(hc:c<n):cY (M.set r ((M.getD r []).set c (cY M r c+q))) a b=cY M a b+if a=r∧b=c then q else 0:=by
 have hl:=h.w.getD (show r<M.length by rw[h.l];exact hr);by_cases e:a=r
 ·subst e;unfold cY;rw[j3 (by rw[h.l];exact hr)];by_cases e2:b=c
  ·subst e2;rw[j3 (by rw[hl];exact hc),if_pos ⟨rfl,rfl⟩]
  ·rw[getD_set_ne (Ne.symm e2),aK fun g=>e2 g.2,bN]
 ·unfold cY;rw[getD_set_ne (Ne.symm e),aK fun g=>e g.1,bN]
section
variable{f:eY}{x:List Rat}{M:List (List Rat)}
theorem LL{a i:Nat}(ha:a<(eI f).length)(hi:i<3*f.nodes.length):tW (fM f a) i=if iC f i then 0 else tW a (kX f i):=by
 unfold tW
 cases e:iC f i with
 |true=>
  rw[if_pos rfl,aK fun g=>?_];have:=(wT ha).2;rw[g,e]at this
  cases this
 |false=>
  obtain⟨h1,h2⟩:=As hi e;simp only[Bool.false_eq_true,if_false]
  by_cases g:a=kX f i
  ·rw[if_pos g,if_pos (by rw[g];exact h2)]
  ·rw[aK g,aK fun k=>g (LK ha h1 (k.trans h2.symm))]
theorem wU(h:vV (eI f).length M){a b i k:Nat}(ha:a<(eI f).length)(hb:b<(eI f).length)(hi:i<3*f.nodes.length)(hk:k<3*f.nodes.length):
  cY (fX (placeF f) M i k q) a b=cY M a b+q*(tW (fM f a) i*tW (fM f b) k):=by
 rw[LL ha hi,LL hb hk];unfold fX;rw[IB hi,IB hk]
 cases ei:iC f i with
 |true=>
  rw[aK (by rw[if_pos rfl];omega),if_pos rfl];grind
 |false=>
  cases ek:iC f k with
  |true=>
   rw[aK (by rw[if_pos (rfl:true=true)];omega),if_pos (rfl:true=true)];grind
  |false=>
   simp only[Bool.false_eq_true,if_false,aF]
   rw[if_pos ⟨by omega,by omega⟩,aBn h (As hi ei).1 (As hk ek).1];congr 1;unfold tW;by_cases g1:a=kX f i
   ·by_cases g2:b=kX f k
    ·rw[if_pos ⟨g1,g2⟩,if_pos g1,if_pos g2];grind
    ·rw[aK fun g=>g2 g.2,aK g2];grind
   ·rw[aK fun g=>g1 g.1,aK g1];grind
def kB(f:eY)(x:List Rat)(i r c:Nat):Rat:=if r=c then((((j2 f (f.bars.getD i (0,0,0))).getD r 0*(j2 f (f.bars.getD i (0,0,0))).getD c 0:Int)):Rat) / (f.bars.getD i (0,0,0)).2.2+x.getD i 0 else((((j2 f (f.bars.getD i (0,0,0))).getD r 0*(j2 f (f.bars.getD i (0,0,0))).getD c 0:Int)):Rat) / (f.bars.getD i (0,0,0)).2.2
def iq(f:eY)(x:List Rat)(i r:Nat)(M:List (List Rat)):Nat->List (List Rat)
 |0=>M
 |c+1=>
  let b:=f.bars.getD i (0,0,0)
  fX (placeF f) (fX (placeF f) (fX (placeF f) (fX (placeF f) (iq f x i r M c) (3*b.1+r).toNat (3*b.1+c).toNat (kB f x i r c)) (3*b.2.1+r).toNat (3*b.2.1+c).toNat (kB f x i r c)) (3*b.1+r).toNat (3*b.2.1+c).toNat (-(kB f x i r c))) (3*b.2.1+r).toNat (3*b.1+c).toNat (-(kB f x i r c))
def l6(f:eY)(x:List Rat)(i:Nat)(M:List (List Rat)):Nat->List (List Rat)
 |0=>M
 |r+1=>iq f x i r (l6 f x i M r) 3
def iD(f:eY)(x:List Rat):Nat->List (List Rat)
 |0=>List.replicate (eI f).length (List.replicate (eI f).length 0)
 |i+1=>l6 f x i (iD f x i) 3
def kI(f:eY)(x:List Rat):Nat->List (List Rat)
 |0=>iD f x f.bars.length
 |i+1=>
  let s:=f.cV.getD i (0,0,0)
  if s.2.2=0 then kI f x i else fX (placeF f) (kI f x i) (dw s) (dw s) (1 / s.2.2)
def Jg(f:eY)(x:List Rat):List (List Rat):=kI f x f.cV.length
theorem vV.cell{n i r:Nat}(h:vV n M):∀c,vV n (iq f x i r M c)
 |0=>h
 |c+1=>(((((vV.cell h c).fX _ _ _).fX _ _ _).fX _ _ _).fX _ _ _)
theorem vV.row{n i:Nat}(h:vV n M):∀r,vV n (l6 f x i M r)
 |0=>h
 |r+1=>(vV.row h r).cell 3
theorem vV.bars:∀i,vV (eI f).length (iD f x i)
 |0=>vV.zero _
 |i+1=>(vV.bars i).row 3
theorem vV.cV:∀i,vV (eI f).length (kI f x i)
 |0=>vV.bars _
 |i+1=>by
  rw[kI];split
  ·exact vV.cV i
  ·exact(vV.cV i).fX _ _ _
theorem Au{i r p:Nat}(hr:r<3){ka kb:Nat}(hb:f.bars[i]? =some b)(ea:b.1=ka)(eb:b.2.1=kb):nQ f (3*i+r) p=tW p (3*kb+r)-tW p (3*ka+r):=by
 unfold nQ tW;rw[show (3*i+r) / 3=i by omega,show(3*i+r) % 3=r by omega,jh hb,ea,eb];congr 1
 ·by_cases e:p=3*kb+r
  ·rw[if_pos e,if_pos (by omega)]
  ·rw[aK e,aK (by omega)]
 ·by_cases e:p=3*ka+r
  ·rw[if_pos e,if_pos (by omega)]
  ·rw[aK e,aK (by omega)]
theorem LM(h:vV (eI f).length M){a b' i r:Nat}{b:Int×Int×Rat}{ka kb:Nat}(hb:f.bars[i]? =some b)(ea:b.1=ka)(eb:b.2.1=kb)(US:ka<f.nodes.length)(OY:kb<f.nodes.length)(hr:r<3)(ha:a<(eI f).length)(QC:b'<(eI f).length):
  ∀c,c<=3->cY (iq f x i r M c) a b'=cY M a b'+cX (fun c=>kB f x i r c*(nQ f (3*i+r) (fM f a)*nQ f (3*i+c) (fM f b'))) c
 |0,_=>by rw[iq];exact(bN _).symm
 |c+1,hc=>by
  have h0:=vV.cell (f:=f) (x:=x) (i:=i) (r:=r) h c;rw[iq,cX];rw[jh hb,toNat_add ea,toNat_add eb,toNat_add ea,toNat_add eb];rw[wU (((h0.fX _ _ _).fX _ _ _).fX _ _ _) ha QC (by omega) (by omega),wU ((h0.fX _ _ _).fX _ _ _) ha QC (by omega) (by omega),wU (h0.fX _ _ _) ha QC (by omega) (by omega),wU h0 ha QC (by omega) (by omega),LM h hb ea eb US OY hr ha QC c (by omega),Au hr hb ea eb,Au (show c<3 by omega) hb ea eb];grind
theorem aAM(h:vV (eI f).length M){a b' i:Nat}{b:Int×Int×Rat}{ka kb:Nat}(hb:f.bars[i]? =some b)(ea:b.1=ka)(eb:b.2.1=kb)(US:ka<f.nodes.length)(OY:kb<f.nodes.length)(ha:a<(eI f).length)(QC:b'<(eI f).length):
  ∀r,r<=3->cY (l6 f x i M r) a b'=cY M a b'+cX (fun r=>cX (fun c=>kB f x i r c*(nQ f (3*i+r) (fM f a)*nQ f (3*i+c) (fM f b'))) 3) r
 |0,_=>by rw[l6];exact(bN _).symm
 |r+1,hr=>by
  rw[l6,LM (h.row r) hb ea eb US OY (by omega) ha QC 3 (Nat.le_refl _),aAM h hb ea eb US OY ha QC r (by omega)];show _=_+(cX _ r+_)
  rw[Rat.add_assoc]
theorem LN(hf:FrV f){a b':Nat}(ha:a<(eI f).length)(QC:b'<(eI f).length):
  ∀i,i<=f.bars.length->cY (iD f x i) a b'=cX (fun i=>cX (fun r=>cX (fun c=>kB f x i r c*(nQ f (3*i+r) (fM f a)*nQ f (3*i+c) (fM f b'))) 3) 3) i
 |0,_=>aAL _ _ _
 |i+1,hi=>by
  have hb:=aB (show i<f.bars.length by omega);obtain⟨ka,kb,ea,eb,h1,h2,-,-⟩:=hf.Hq _ (a9 (show i<f.bars.length by omega));rw[iD,aAM (vV.bars i) hb ea eb h1 h2 ha QC 3 (Nat.le_refl _),LN hf ha QC i (by omega)];rfl
theorem LO(hf:FrV f){a b':Nat}(ha:a<(eI f).length)(QC:b'<(eI f).length):
  ∀i,i<=f.cV.length->cY (kI f x i) a b'=cY (iD f x f.bars.length) a b'+cX (fun i=>(f.cV.getD i (0,0,0)).2.2⁻¹*(tW (fM f a) (dw (f.cV.getD i (0,0,0)))*tW (fM f b') (dw (f.cV.getD i (0,0,0))))) i
 |0,_=>by rw[kI];exact(bN _).symm
 |i+1,hi=>by
  have hs:=aB (show i<f.cV.length by omega);have h1:=(hf.sup _ (a9 (show i<f.cV.length by omega))).1;have ih:=LO hf ha QC i (by omega);rw[kI,cX];rw[getD_some hs];split
  ·rename_i e;rw[ih,e,show((0:Rat))⁻¹=0 by decide +kernel,bC,bN]
  ·rw[wU (vV.cV i) ha QC h1 h1,ih,bV,bf,Rat.add_assoc]
theorem CG(g:Nat->Rat):∀n,cX g (3*n)=cX (fun i=>cX (fun r=>g (3*i+r)) 3) n
 |0=>rfl
 |n+1=>by
  rw[show 3*(n+1)=3*n+3 by omega,lE,CG g n];rfl
theorem IC{M:List (List Int)}{i p ka kb:Nat}{b:Int×Int×Rat}(hw:Wid f.cols M)(hl:M.length=3*f.nodes.length)(hi:i<f.cols)(hb:f.bars[i]? =some b)(ea:b.1=ka)(eb:b.2.1=kb)(US:ka<f.nodes.length)(OY:kb<f.nodes.length)(OZ:ka≠kb):
  ∀k,k<=3->((ez (e9 f M i k) p i:Int):Rat)=((ez M p i:Int):Rat)-cX (fun r=>(((j2 f b).getD r 0:Int):Rat)*nQ f (3*i+r) p) k
 |0,_=>by rw[e9];show _=_-(0:Rat);grind
 |k+1,hk=>by
  have ih:=IC (p:=p) hw hl hi hb ea eb US OY OZ k (by omega);have QV:=pq f M i k;have hw1:=yN (f:=f) (i:=i) hw k;have hwr:∀{N:List (List Int)} {r:Nat},Wid f.cols N->r<N.length->(N.getD r []).length=f.cols:=fun h1 h2=>by
   rw[List.getD,aB h2];exact h1 _ (a9 h2)
  rw[e9,cX];rw[jh hb,toNat_add ea,toNat_add eb,gU,gU,Au (show k<3 by omega) hb ea eb];have hA:3*ka+k<(e9 f M i k).length:=by rw[QV,hl];omega
  have hB:3*kb+k<(putAt (e9 f M i k) (3*ka+k) i (ez (e9 f M i k) (3*ka+k) i+(j2 f b).getD k 0)).length:=by rw[mP,QV,hl];omega
  have hneq:3*kb+k≠3*ka+k:=by omega
  unfold tW;by_cases e1:p=3*kb+k
  ·subst e1;rw[wP hB (by rw[hwr hw1.put hB];exact hi),iT (.inl hneq),if_pos rfl,aK hneq,Rat.intCast_add,Rat.intCast_neg,ih];grind
  ·rw[iT (.inl e1),aK e1];by_cases e2:p=3*ka+k
   ·subst e2;rw[wP hA (by rw[hwr hw1 hA];exact hi),if_pos rfl,Rat.intCast_add,ih];grind
   ·rw[iT (.inl e2),aK e2,ih];grind
theorem CH{i p:Nat}:∀j,i<j->ez (di f j) p i=ez (di f (i+1)) p i
 |0,h=>by omega
 |j+1,h=>by
  rcases aP i j with h1|h1
  ·rw[di,tK (by omega)];exact CH j h1
  ·obtain rfl:i=j:=by omega
   rfl
theorem LP(hf:FrV f){i p:Nat}(hi:i<f.bars.length):cY (cU f) p i= -(cX (fun r=>(((j2 f (f.bars.getD i (0,0,0))).getD r 0:Int):Rat)*nQ f (3*i+r) p) 3):=by
 have hb:=aB hi;obtain⟨ka,kb,ea,eb,h1,h2,h3,-⟩:=hf.Hq _ (a9 hi);have e:=IC (p:=p) (ug f i) (oQ f i) (by unfold eY.cols;omega) hb ea eb h1 h2 h3 3 (Nat.le_refl _);rw[mw,show iS f=fT f f.cV.length from rfl,uf hi,CH _ hi,di,e,l0 f i (Nat.le_refl _),jh hb];show(0:Rat)-_=_;grind
theorem Jh(hf:FrV f):Jg f x=fU f x:=by
 have hs:=vV.cV (f:=f) (x:=x) f.cV.length;refine gQ [] (by rw[gR];exact hs.l) fun a ha=>?_;have ha:a<(eI f).length:=by rw[<-hs.l];exact ha
 have SM:=hs.w.getD (show a<(kI f x f.cV.length).length by rw[hs.l];exact ha);refine gQ 0 (by rw[pw.getD (by rw[gR];exact ha)];exact SM) fun b hb=>?_;have hb:b<(eI f).length:=by rw[<-SM];exact hb
 show cY (kI f x f.cV.length) a b=cY (fU f x) a b;rw[oq ha hb,LO hf ha hb _ (Nat.le_refl _),LN hf ha hb _ (Nat.le_refl _)];unfold Ar grm;rw[CG,show f.cols=f.bars.length+f.cV.length from rfl,lE];have e2:cX (fun k=>wE f (f.bars.length+k)*(kO f (f.bars.length+k) (fM f a)*kO f (f.bars.length+k) (fM f b))) f.cV.length=cX (fun i=>(f.cV.getD i (0,0,0)).2.2⁻¹*(tW (fM f a) (dw (f.cV.getD i (0,0,0)))*tW (fM f b) (dw (f.cV.getD i (0,0,0))))) f.cV.length:=cN fun i hi=>by
  have h1:=aB hi;unfold wE kO tW;rw[mw,mw,hf.oR h1,hf.oR h1,getD_some h1,dE,List.getD,aM (by rw[aL];omega),aL,Nat.add_sub_cancel_left,aN,h1];split<;>split<;>rfl
 have e1:cX (fun i=>cX (fun r=>cX (fun c=>kB f x i r c*(nQ f (3*i+r) (fM f a)*nQ f (3*i+c) (fM f b))) 3) 3) f.bars.length=cX (fun l=>wE f l*(kO f l (fM f a)*kO f l (fM f b))) f.bars.length+cX (fun i=>cX (fun r=>x.getD ((3*i+r) / 3) 0*(nQ f (3*i+r) (fM f a)*nQ f (3*i+r) (fM f b))) 3) f.bars.length:=by
  rw[<-fa];refine cN fun i hi=>?_;have h1:=aB hi;unfold wE kO;rw[LP hf hi,LP hf hi,show(dE f).getD i 0=(f.bars.getD i (0,0,0)).2.2 by rw[dE,List.getD,aJ (by rw[aL];exact hi),aN,h1,getD_some h1];rfl];show 0+(0+_+_+_)+(0+_+_+_)+(0+_+_+_)=_*(-(0+_+_+_)* -(0+_+_+_))+(0+_+_+_)
  unfold kB;simp only[show 3*i / 3=i by omega,show(3*i+0) / 3=i by omega,show(3*i+1) / 3=i by omega,show(3*i+2) / 3=i by omega,bV,Rat.intCast_mul,show((0:Nat)=1)=False by simp,show((0:Nat)=2)=False by simp,show((1:Nat)=0)=False by simp,show((1:Nat)=2)=False by simp,show((2:Nat)=0)=False by simp,show((2:Nat)=1)=False by simp,if_true,if_false]
  grind
 rw[e1,e2];grind
end
theorem Fw(h:rl q<=l):rl q⁻¹<=l:=by
 rcases Decidable.em (q=0)with h0|h0
 ·rw[h0,show((0:Rat))⁻¹=0 by decide +kernel];rw[h0]at h;exact h
 ·have h1:=Hj h;have hn:(q.num:Rat)≠0:=fun e=>by
   have h2:=Ap q;rw[e]at h2;rcases Rat.mul_eq_zero.1 h2 with h3|h3
   ·exact Fv q h3
   ·exact h0 h3
  have e:(q.num:Rat)*q⁻¹=(q.den:Rat):=by
   rw[<-Ap q,Rat.mul_assoc,Rat.mul_inv_cancel _ h0,Rat.mul_one]
  have h2:=tG (K:=wt l-1) hn (Ib.int (by omega)) (by rw[e];exact⟨(q.den:Int),rfl,by rw[Int.natAbs_natCast];omega⟩);exact aV h2 (gX.2 (by have:=yD l;omega))
section
variable{f:eY}{x:List Rat}
theorem aBo(h:FrV f)(p:Nat):∃σ:Rat,(∀l,(∀q∈dE f,rl q<=l)->rl σ<=l∨σ=0)∧∀i,i<f.cV.length->cY (cU f) p (f.bars.length+i)=0∨(cY (cU f) p (f.bars.length+i)=1∧wE f (f.bars.length+i)=σ):=by
 have hw:∀i s,f.cV[i]? =some s->wE f (f.bars.length+i)=s.2.2⁻¹:=fun i s hs=>by
  unfold wE;rw[dE,List.getD,aM (by rw[aL];omega),aL,Nat.add_sub_cancel_left,aN,hs];rfl
 by_cases g:∃(i:Nat) (s:_),f.cV[i]? =some s∧p=dw s
 ·obtain⟨i0,s0,Ve,hp⟩:=g;refine⟨s0.2.2⁻¹,fun l hl=>.inl (Fw (hl _ (List.mem_append_right _ (aT.2 ⟨s0,aD Ve,rfl⟩)))),fun i hi=>?_⟩;have hs:=aB hi;rw[mw,h.oR hs];by_cases e:p=dw f.cV[i]
  ·rw[if_pos e];have:=h.one i i0 _ _ hs Ve (e.symm.trans hp);subst this;exact .inr ⟨rfl,hw _ _ Ve⟩
  ·rw[aK e];exact .inl rfl
 ·refine⟨0,fun _ _=>.inr rfl,fun i hi=>.inl ?_⟩;have hs:=aB hi;rw[mw,h.oR hs,aK fun e=>g ⟨i,_,hs,e⟩];rfl
theorem LQ(h:FrV f)(hl:l<3*f.bars.length)(p:Nat):Ib 1 (nQ f l p):=by
 have hi:l / 3<f.bars.length:=by omega
 have hb:=aB hi;obtain⟨ka,kb,ea,eb,h1,h2,h3,-⟩:=h.Hq _ (a9 hi);have e:=Au (f:=f) (p:=p) (show l % 3<3 by omega) hb ea eb;rw[show 3*(l / 3)+l % 3=l by omega]at e;rw[e];unfold tW;split<;>split
 ·rw[show (1:Rat)-1=0 by decide +kernel];exact Ib.zero _
 ·rw[show (1:Rat)-0=1 by decide +kernel];exact Ib.one (Nat.le_refl _)
 ·rw[show (0:Rat)-1= -1 by decide +kernel];exact(Ib.one (Nat.le_refl _)).neg
 ·rw[show (0:Rat)-0=0 by decide +kernel];exact Ib.zero _
theorem aCy(h:qc f)(Vx:f.bars.length<=6)(hx:∀q∈x,rl q<=3)(p s:Nat):rl (Ar f x p s)<=43:=by
 have hv:=h.toFrS.toFrV;have hx3:∀t,rl (x.getD t 0)<=3:=fun t=>by
  rw[List.getD]
  cases ht:x[t]? with
  |none=>show rl 0<=3;decide
  |some q=>exact hx q (aD ht)
 obtain⟨σ,hσ,hs⟩:=aBo hv p;have hσ:=hσ 3 h.fx;have hσ:rl σ<=3:=hσ.elim id fun e=>by rw[e];decide
 obtain⟨L,hL⟩:∃L,((List.range 6).map fun i=>wE f i)++((List.range 6).map fun i=>x.getD i 0)++[σ]=L:=⟨_,rfl⟩
 have hflex:∀t,rl ((dE f).getD t 0)<=3:=fun t=>by
  rw[List.getD]
  cases ht:(dE f)[t]? with
  |none=>show rl 0<=3;decide
  |some q=>exact h.fx q (aD ht)
 obtain⟨Xt,hD1,XF⟩:=Hk (φ:=L) (n:=13) (by rw[<-hL];exact Nat.le_refl _) fun q hq=>by
  rw[<-hL]at hq;rcases List.mem_append.1 hq with hq|hq
  ·rcases List.mem_append.1 hq with hq|hq
   ·obtain⟨i,_,rfl⟩:=aT.1 hq;exact Fw (hflex i)
   ·obtain⟨i,_,rfl⟩:=aT.1 hq;exact hx3 i
  ·rw[bE.1 hq];exact hσ
 obtain⟨D,hD⟩:∃D,mr L 13=D:=⟨_,rfl⟩
 rw[hD]at Xt hD1 XF;have a1:∀i,i<6->Ib (wt 39) (D*wE f i):=fun i hi=>by
  have e:L.getD i 0=wE f i:=by
   rw[<-hL,List.getD,aJ (by simp;omega),aJ (by simp;omega),aN,bP hi];rfl
  rw[<-e];exact XF i
 have a2:∀i,i<6->Ib (wt 39) (D*x.getD i 0):=fun i hi=>by
  have e:L.getD (6+i) 0=x.getD i 0:=by
   rw[<-hL,List.getD,aJ (by simp;omega),aM (by simp),show 6+i-((List.range 6).map fun i=>wE f i).length=i by simp,aN,bP hi];rfl
  rw[<-e];exact XF _
 have a3:Ib (wt 39) (D*σ):=by
  have e:L.getD 12 0=σ:=by rw[<-hL];rfl
  rw[<-e];exact XF _
 have k1:Ib (6*wt 41) (D*cX (fun l=>wE f l*(kO f l p*kO f l s)) f.bars.length):=by
  rw[<-eU];refine(Ib.sum _ fun l hl=>?_).mono (Nat.mul_le_mul_right _ Vx);rw[show D*(wE f l*(kO f l p*kO f l s))=(D*wE f l)*(kO f l p*kO f l s) by grind];exact((a1 l (by omega)).mul ((hv.pr p l).mul (hv.pr s l))).mono (aV (bO _ (show 2000000*2000000<=wt 2 by decide)) (lG 39 2 (Nat.le_refl _)))
 have k2:Ib (12*wt 41) (D*cX (fun i=>wE f (f.bars.length+i)*(kO f (f.bars.length+i) p*kO f (f.bars.length+i) s)) f.cV.length):=by
  rw[<-eU];refine(Ib.sum _ fun i hi=>?_).mono (Nat.mul_le_mul_right _ h.s12);unfold kO;rcases hs i hi with e|⟨e,e2⟩
  ·rw[e,bC,bB,bB];exact Ib.zero _
  ·rw[e,e2,bf,<-Rat.mul_assoc];exact(a3.mul (hv.pr s _)).mono (aV (bO _ (show 2000000<=wt 2 by decide)) (lG 39 2 (Nat.le_refl _)))
 have k3:Ib (18*wt 41) (D*cX (fun l=>x.getD (l / 3) 0*(nQ f l p*nQ f l s)) (3*f.bars.length)):=by
  rw[<-eU];refine(Ib.sum _ fun l hl=>?_).mono (Nat.mul_le_mul_right _ (show 3*f.bars.length<=18 by omega));rw[<-Rat.mul_assoc];exact((a2 (l / 3) (by omega)).mul ((LQ hv hl p).mul (LQ hv hl s))).mono (aV (bO _ (show 1*1<=wt 2 by decide)) (lG 39 2 (Nat.le_refl _)))
 have k:Ib (wt 42) (D*Ar f x p s):=by
  unfold Ar grm;rw[show f.cols=f.bars.length+f.cV.length from rfl,lE,show ∀a b c:Rat,D*(a+b+c)=D*a+D*b+D*c from fun a b c=>by grind];refine((k1.add k2).add k3).mono ?_;rw[<-Nat.add_mul,<-Nat.add_mul];exact aV (Nat.mul_le_mul_right _ (show 6+12+18<=wt 1 by decide)) (lG 1 41 (Nat.le_refl _))
 have h9:=tG Xt (hD1.mono (B2 (by decide:3*13<=42))) k;exact aV h9 (gX.2 (Kt (by decide)))
theorem ID(h:qc f)(Vx:f.bars.length<=6)(hx:∀q∈x,rl q<=3):Ht (fU f x) 44:=fun r hr q hq=>by
 obtain⟨p,-,rfl⟩:=aT.1 hr;obtain⟨s,-,rfl⟩:=aT.1 hq;exact Nat.succ_le_succ (aCy h Vx hx p s)
theorem wV:(eI f).length<=3*f.nodes.length:=by
 unfold eI;exact aV (List.length_filter_le _ _) (by rw[List.length_range];exact Nat.le_refl _)
end
end Go.Ex
namespace Go.Ex
open Go Go.Sx Go.Proofs
variable{M:List (List Rat)}{pl:List Int}{x:List Rat}{cs rv:List Value}{S:Nat->Prop}{a:Option Addr}{q:Rat}{u v:Value}{w:World}
theorem aCz{a:Nat}(h:Ht M a)(ha:2<=a)(r c:Nat):rl (cY M r c)+1<=a:=by
 unfold cY;rcases aP r M.length with h1|h1
 ·rw[getD_some (aB h1)];rcases aP c (M[r]).length with h2|h2
  ·rw[getD_some (aB h2)];exact h _ (a9 h1) _ (a9 h2)
  ·rw[jI h2,show rl 0=1 by decide];exact ha
 ·rw[show M.getD r []=[] by rw[List.getD,List.getElem?_eq_none h1];rfl,jI (aO _),show rl 0=1 by decide];exact ha
theorem kY{i k a b:Nat}(h:Ht M a)(ha:2<=a)(hq:rl q<=b):Ht (fX pl M i k q) (a+(b+1)):=by
 have h0:Ht M (a+(b+1)):=h.mono (by omega);unfold fX;split
 ·intro r hr p hp;rcases bA hr with hr|hr
  ·exact h0 r hr p hp
  ·subst hr;rcases bA hp with hp|hp
   ·rcases aP (pl.getD i 0).toNat M.length with h1|h1
    ·rw[getD_some (aB h1)]at hp;exact h0 _ (a9 h1) p hp
    ·rw[show M.getD (pl.getD i 0).toNat []=[] by rw[List.getD,List.getElem?_eq_none h1];rfl]at hp
     cases hp
   ·rw[hp];have h1:=kz (cY M (pl.getD i 0).toNat (pl.getD k 0).toNat) q;have h2:=aCz h ha (pl.getD i 0).toNat (pl.getD k 0).toNat;omega
 ·exact h0
section
variable{f:eY}{x:List Rat}{M:List (List Rat)}
theorem LR(h:qc f)(hx:∀q∈x,rl q<=3){i:Nat}(hi:i<f.bars.length)(r c:Nat):rl (kB f x i r c)<=9:=by
 have hb:=aB hi;have hm:=a9 hi;have hv:=h.toFrV;obtain⟨ka,kb,-,-,-,-,-,PL⟩:=hv.Hq _ hm;have OZ:(f.bars[i]).2.2≠0:=fun e=>by rw[e]at PL;exact absurd PL (by decide)
 have Ok:rl (f.bars[i]).2.2<=3:=h.fx _ (List.mem_append_left _ (aT.2 ⟨_,hm,rfl⟩));have SC:rl (x.getD i 0)<=3:=by
  rw[List.getD]
  cases ht:x[i]? with
  |none=>show rl 0<=3;decide
  |some q=>exact hx q (aD ht)
 have h1:=hv.dif hm r;have h2:=hv.dif hm c
 have h3:rl (((j2 f f.bars[i]).getD r 0*(j2 f f.bars[i]).getD c 0:Int):Rat)<=2:=GD (by
  have a1:((j2 f f.bars[i]).getD r 0).natAbs<=2000000:=by omega
  have a2:((j2 f f.bars[i]).getD c 0).natAbs<=2000000:=by omega
  rw[Int.natAbs_mul];have:=Nat.mul_le_mul a1 a2
  omega)
 have h4:=pc (((j2 f f.bars[i]).getD r 0*(j2 f f.bars[i]).getD c 0:Int):Rat) OZ;have h5:=kz ((((j2 f f.bars[i]).getD r 0*(j2 f f.bars[i]).getD c 0:Int):Rat) / (f.bars[i]).2.2) (x.getD i 0);unfold kB;rw[jh hb];split<;>omega
theorem GF{a i r:Nat}(h:Ht M a)(ha:2<=a)(hk:∀c,rl (kB f x i r c)<=9):∀c,Ht (iq f x i r M c) (a+c*40)
 |0=>by rw[iq,Nat.zero_mul];exact h
 |c+1=>by
  have h0:=GF h ha hk c;have hn:rl (-(kB f x i r c))<=9:=by rw[jB];exact hk c
  rw[iq];exact(kY (kY (kY (kY h0 (by omega) (hk c)) (by omega) (hk c)) (by omega) hn) (by omega) hn).mono (by omega)
theorem Jk{a i:Nat}(h:Ht M a)(ha:2<=a)(hk:∀r c,rl (kB f x i r c)<=9):∀r,Ht (l6 f x i M r) (a+r*120)
 |0=>by rw[l6,Nat.zero_mul];exact h
 |r+1=>by
  rw[l6];exact(GF (Jk h ha hk r) (by omega) (hk r) 3).mono (by omega)
theorem GG(h:qc f)(hx:∀q∈x,rl q<=3):∀i,i<=f.bars.length->Ht (iD f x i) (3+i*360)
 |0,_=>by
  rw[iD,Nat.zero_mul];intro r hr q hq;rw[(List.mem_replicate.1 hr).2]at hq;rw[(List.mem_replicate.1 hq).2];decide
 |i+1,hi=>by
  rw[iD];exact(Jk (GG h hx i (by omega)) (by omega) (fun r c=>LR h hx (by omega) r c) 3).mono (by omega)
theorem LS(h:rl q<=3)(h0:q≠0):rl (1 / q)<=4:=by have:=aAN h0;omega
theorem LU(h:qc f)(hx:∀q∈x,rl q<=3):∀i,i<=f.cV.length->Ht (kI f x i) (3+f.bars.length*360+i*5)
 |0,_=>by rw[kI,Nat.zero_mul];exact GG h hx _ (Nat.le_refl _)
 |i+1,hi=>by
  have h0:=LU h hx i (by omega);have hs:=aB (show i<f.cV.length by omega);rw[kI];split
  ·exact h0.mono (by omega)
  ·rename_i OZ;rw[getD_some hs]at OZ ⊢;have Ok:rl (f.cV[i]).2.2<=3:=h.fx _ (List.mem_append_right _ (aT.2 ⟨_,a9 _,rfl⟩));exact(kY h0 (by omega) (LS Ok OZ)).mono (by omega)
end
def Lq(S:Nat->Prop)(rv:List Value)(g:Nat):Prop:=S g∧∀v∈rv,v.ownBlock≠some g
structure mH(w:World)(S:Nat->Prop)(rv:List Value)(n:Nat)(M:List (List Rat)):Prop where
 len:rv.length=M.length
 row:∀(i:Nat) v x,rv[i]? =some v->M[i]? =some x->iF w (Lq S rv) v n x
 uF:∀(i j:Nat) a b g,rv[i]? =some a->rv[j]? =some b->a.ownBlock=some g->b.ownBlock=some g->i=j
section
variable{S S':Nat->Prop}{H:Hp}{nx n:Nat}{iv iv':Iv}{B:Nat}{w w' w2:World}{O:Nat->Sx.eE}{rv:List Value}{M:List (List Rat)}
theorem mH.cJ(h:mH w S rv n M)(hk:∀g,S g∨(∃v∈rv,v.ownBlock=some g)->w2.heap[g]? =w.heap[g]?):mH w2 S rv n M:=
 ⟨h.len,fun i v x h1 h2=>(h.row i v x h1 h2).cJ fun g hg=>hk g (hg.imp (fun hg=>hg.1) fun hg=>⟨v,aD h1,hg⟩),h.uF⟩
theorem mH.cL(h:mH w S rv n M)(hk:∀g,S g->S' g):mH w S' rv n M:=
 ⟨h.len,fun i v x h1 h2=>(h.row i v x h1 h2).cL fun g hg=>⟨hk g hg.1,hg.2⟩,h.uF⟩
theorem mH.low(h:mH w S rv n M):∀v∈rv,∀g,v.ownBlock=some g->g<w.heap.size:=fun v hv g hg=>by
 obtain⟨i,hi⟩:=aS hv;exact(h.row i v _ hi (aB (by rw[<-h.len];exact(aE.1 hi).1))).low g hg
theorem mH.put(h:mH w S rv n M){i:Nat}(hv:rv[i]? =some v)(hg:w.grownBy w2 v.ownBlock)(hS:Old S w)(hSS:∀g,S g->S' g)(OX:iF w2 (Lq S' rv) v n x):mH w2 S' rv n (M.set i x):=by
 refine⟨by rw[bW];exact h.len,fun j u y h1 h2=>?_,h.uF⟩;by_cases PZ:i=j
 ·subst PZ;rw[hv]at h1;injection h1 with h1;subst h1;rw[aR (by rw[<-h.len];exact(aE.1 hv).1)]at h2;injection h2 with h2;subst h2;exact OX
 ·rw[aX PZ]at h2;have h0:=h.row j u y h1 h2;refine(h0.cJ fun g hgg=>?_).cL fun g hg=>⟨hSS g hg.1,hg.2⟩
  rcases hgg with hgg|hgg
  ·exact hg.block g (hS g hgg.1) fun e=>hgg.2 v (aD hv) e.symm
  ·exact hg.block g (h0.low g hgg) fun e=>PZ (h.uF i j v u g hv h1 e.symm hgg)
theorem mH.push(h:mH w' (Cv FF B iv) rv n M)(r:Rel H nx iv B w O w')(he:Ext w' w2)(Oe:∀v∈rv,∀g,v.ownBlock=some g->Cv FF B iv g)(hx:eO w2 FF w'.heap.size [(w'.heap.size,w2.heap.size)] v n x):
  mH w2 (Cv FF B ((w'.heap.size,w2.heap.size)::iv)) (rv++[v]) n (M++[x])∧∀u∈rv++[v],∀g,u.ownBlock=some g->Cv FF B ((w'.heap.size,w2.heap.size)::iv) g:=by
 have Qj:∀g,Cv FF w'.heap.size [(w'.heap.size,w2.heap.size)] g->w'.heap.size<=g∧g<w2.heap.size:=fun g hg=>by
  rcases hg with hg|⟨_,lo,hi,h2,h3,h4⟩
  ·exact hg.elim
  ·simp at h2;obtain⟨rfl,rfl⟩:=h2;exact⟨h3,h4⟩
 have YL:∀g,w'.heap.size<=g∧g<w2.heap.size->Cv FF B ((w'.heap.size,w2.heap.size)::iv) g:=fun g hg=>.inr ⟨by have:=r.cI;omega,_,_,aI,hg.1,hg.2⟩;have hold:∀g,Cv FF B iv g->g<w'.heap.size:=fun g hg=>Rel.old r (dN B) g hg;refine⟨⟨by rw[List.length_append,List.length_append,h.len];rfl,fun i u y h1 h2=>?_,fun i j a b g h1 h2 h3 h4=>?_⟩,fun u hu g hg=>?_⟩
 ·rcases aP i rv.length with hi|hi
  ·rw[aJ hi]at h1;rw[aJ (by rw[<-h.len];exact hi)]at h2;have h0:=h.row i u y h1 h2;refine(h0.cJ fun g hg=>he.block g ?_).cL fun g hg=>⟨hg.1.mono fun p hp=>aC _ hp,fun z hz e=>?_⟩
   ·rcases hg with hg|hg
    ·exact hold g hg.1
    ·exact h0.low g hg
   ·rcases List.mem_append.1 hz with hz|hz
    ·exact hg.2 z hz e
    ·simp at hz;subst hz;have:=Qj g (hx.new g e);have:=hold g hg.1;omega
  ·have e1:i=rv.length:=by have:=(aE.1 h1).1;simp at this;omega
   subst e1;rw[aM (Nat.le_refl _),bI]at h1;rw[h.len,aM (Nat.le_refl _),bI]at h2;injection h1 with h1;injection h2 with h2;subst h1 h2;refine hx.row.cL fun g hg=>⟨YL g (Qj g hg.1),fun z hz e=>?_⟩
   rcases List.mem_append.1 hz with hz|hz
   ·have:=hold g (Oe z hz g e);have:=Qj g hg.1;omega
   ·simp at hz;subst hz;exact hg.2 e
 ·rcases aP i rv.length with hi|hi<;>rcases aP j rv.length with hj|hj
  ·rw[aJ hi]at h1;rw[aJ hj]at h2;exact h.uF i j a b g h1 h2 h3 h4
  ·rw[aJ hi]at h1;have e1:j=rv.length:=by have:=(aE.1 h2).1;simp at this;omega
   subst e1;rw[aM (Nat.le_refl _),bI]at h2;injection h2 with h2;subst h2;have:=hold g (Oe a (aD h1) g h3);have:=Qj g (hx.new g h4);omega
  ·rw[aJ hj]at h2;have e1:i=rv.length:=by have:=(aE.1 h1).1;simp at this;omega
   subst e1;rw[aM (Nat.le_refl _),bI]at h1;injection h1 with h1;subst h1;have:=hold g (Oe b (aD h2) g h4);have:=Qj g (hx.new g h3);omega
  ·have e1:i=rv.length:=by have:=(aE.1 h1).1;simp at this;omega
   have e2:j=rv.length:=by have:=(aE.1 h2).1;simp at this;omega
   omega
 ·rcases List.mem_append.1 hu with hu|hu
  ·exact(Oe u hu g hg).mono fun p hp=>aC _ hp
  ·simp at hu;subst hu;exact YL g (Qj g (hx.new g hg))
theorem mH.rel(h:mH w (Cv FF B iv) rv n M)(Oe:∀v∈rv,∀g,v.ownBlock=some g->Cv FF B iv g)(r:Rel H nx iv B w O w'):mH w' (Cv FF B iv) rv n M:=
 h.cJ fun g hg=>Rel.same r (dN B) (hg.elim id fun⟨v,hv,e⟩=>Oe v hv g e)
theorem mH.cK(h:mH w (Cv FF B iv) rv n M)(Oe:∀v∈rv,∀g,v.ownBlock=some g->Cv FF B iv g)(r:Rel H nx iv B w O w')(he:Ext w' w2)(hm:∀p,p∈iv->p∈iv'):mH w2 (Cv FF B iv') rv n M:=
 ((h.rel Oe r).cJ fun g hg=>he.block g (Rel.old r (dN B) g (hg.elim id fun⟨v,hv,e⟩=>Oe v hv g e))).cL fun _ hg=>hg.mono hm
end
theorem dg.aCb{w2:World}(h:dg w.heap.size w w2):w.grownBy w2 none:=⟨h.os,h.tape,h.output,h.size,fun k hk _=>h.block k hk⟩
theorem Gt{n c j:Nat}(h:iF w S (.slice a n c) n x)(hj:j<n):∃g,a=some ⟨g,0,none⟩:=by
 obtain⟨css,h1,h2,h3⟩:=h;rcases h1.2 with⟨_,h0⟩|⟨g,cap,cur,e,_⟩
 ·omega
 ·injection e with e;exact⟨g,e⟩
theorem jY.at1{m c j:Nat}(h:jY w S 1 (.slice a m c) cs m)(hj:cs[j]? =some u):∃ad,a=some ad∧S ad.block∧w.cell? (ad.add (j*1))=some u:=by
 obtain⟨h0,h1,h2,a',c',e,h3,h4⟩:=h;injection e with e1 e2 e3;subst e1;obtain⟨ad,e,h5,h6⟩:=h4 j u hj;exact⟨ad,e,h5,by rw[aY];exact h6⟩
set_option maxHeartbeats 1000000 in
theorem aBE{C:Nat->Prop}{ap ao:Addr}{apl aot:Option Addr}{m cpl cot n i k h:Nat}(hC:Old C w)(hS:Old S w)(YD:w.cell? ap=some (.slice apl m cpl))(R6:C ap.block)(hP:DJ w C (.slice apl m cpl) pl)(Xq:pl.length=m)(hco:w.cell? ao=some (.slice aot n cot))(hao:C ao.block)(hO:jY w C 1 (.slice aot n cot) rv n)(hM:mH w S rv n M)(Ot:rv.length=n)(hi:i<pl.length)(hk:k<pl.length)(hm:m<=1000)(hn:n<=1000)(TV:∀z∈pl,-1<=z∧z<n)(QO:Ht M h)(hh:h<=80000)(hu:cT w S u q)(hq:rl q<=80000):
  eA PG N.fH #[.int .i64 i,.int .i64 k,u,.pointer (some ap),.pointer (some ao)] w (fun e w2=>∃v row,e= .returned v∧w.grownBy w2 row∧(∀g,row=some g->∃v∈rv,v.ownBlock=some g)∧mH w2 (Nw S w w2) rv n (fX pl M i k q)):=by
 have hw:=bR w;obtain⟨u0,u1,u2,u3,u4,u5,u6,u7,rfl⟩:=hu.shape;obtain⟨zi,hzi⟩:∃z,pl[i]? =some z:=⟨_,aB hi⟩
 obtain⟨zk,hzk⟩:∃z,pl[k]? =some z:=⟨_,aB hk⟩
 obtain⟨hi1,Sq⟩:=TV zi (aD hzi);obtain⟨hk1,VY⟩:=TV zk (aD hzk);have XD:pl.getD i 0=zi:=by rw[List.getD,hzi];rfl
 have hgk:pl.getD k 0=zk:=by rw[List.getD,hzk];rfl
 obtain⟨ai,hai,hSi,UB⟩:=DJ.at hP hzi;obtain⟨ak,hak,hSk,hlk⟩:=DJ.at hP hzk;have Rh:M.length=n:=by rw[<-hM.len,Ot]
 refine qH (by simp) ?_;conv=>whnf
 refine cO hτ dZ [.x 0,.x 1,.x 2,.x 3,.x 4,.x 5,.x 6,.x 7,.x 8,.x 9] (by kernel_rfl) (by kernel_rfl) ?_;conv=>whnf
 refine⟨.slice apl m cpl,fun O w' r=>?_,?_⟩
 ·rw[cM (w:=w) (w2:=w') ((hw.tr r.cS).block _ (hC _ R6))];exact YD
 conv=>whnf
 refine⟨ai,hai,by omega,?_⟩;conv=>whnf
 refine⟨.int .i64 zi,rd1 UB hw (hC _ hSi),?_⟩;conv=>whnf
 refine⟨.slice apl m cpl,fun O w' r=>?_,?_⟩
 ·rw[cM (w:=w) (w2:=w') ((hw.tr r.cS).block _ (hC _ R6))];exact YD
 conv=>whnf
 refine⟨ak,hak,by omega,?_⟩;conv=>whnf
 refine⟨.int .i64 zk,rd1 hlk hw (hC _ hSk),?_⟩;conv=>whnf
 refine dG.mk ?_ ?_<;>intro WU
 ·have WU:0<=zi:=by simpa using WU
  conv=>whnf
  refine dG.mk ?_ ?_<;>intro TT
  ·have TT:0<=zk:=by simpa using TT
   obtain⟨r,rfl⟩:=Int.eq_ofNat_of_zero_le WU;obtain⟨c,rfl⟩:=Int.eq_ofNat_of_zero_le TT;have hr:r<n:=by omega
   have hc:c<n:=by omega
   obtain⟨vr,UH⟩:∃v,rv[r]? =some v:=⟨_,aB (by omega)⟩
   obtain⟨x,hx⟩:∃x,M[r]? =some x:=⟨_,aB (by omega)⟩
   have OX:=hM.row r vr x UH hx;have Pr:=OX.len;obtain⟨y,hy⟩:∃y,x[c]? =some y:=⟨_,aB (by omega)⟩
   obtain⟨ar,cr,rfl,-⟩:=OX.form;have hyr:rl y<=80000:=by have:=QO x (aD hx) y (aD hy);omega
   obtain⟨ady,csy,Ux,Rb,Qu⟩:=gj.load OX.read hy;obtain⟨y0,y1,y2,y3,y4,y5,y6,y7,rfl,Rb⟩:=Rb;obtain⟨ao2,hao2,hSo,S6⟩:=jY.at1 hO UH;have Ol:∀g,(Value.slice ar n cr).ownBlock=some g->g<w.heap.size:=OX.low;conv=>whnf
   refine cO hτ dZ [.x 0,.x 1,.x 2,.x 3,.x 4,.x 5,.x 6,.x 7,.x 8,.x 9,.x 10,.x 11,.x 12,.x 13,.x 14,.x 15] (by kernel_rfl) (by kernel_rfl) ?_;conv=>whnf
   refine⟨.slice aot n cot,fun O w' r=>?_,?_⟩
   ·rw[cM (w:=w) (w2:=w') ((hw.tr r.cS).block _ (hC _ hao))];exact hco
   conv=>whnf
   refine⟨ao2,hao2,by omega,?_⟩;conv=>whnf
   refine⟨.slice ar n cr,rd1 S6 hw (hC _ hSo),?_⟩;conv=>whnf
   refine⟨.slice aot n cot,fun O w' r=>?_,?_⟩
   ·rw[cM (w:=w) (w2:=w') ((hw.tr r.cS).block _ (hC _ hao))];exact hco
   conv=>whnf
   refine⟨ao2,hao2,by omega,?_⟩;conv=>whnf
   refine⟨.slice ar n cr,rd1 S6 hw (hC _ hSo),?_⟩;conv=>whnf
   refine⟨ady,Ux,by omega,?_⟩;conv=>whnf
   refine⟨[.bool y0,.slice y1 y2 y3,.bool y4,.slice y5 y6 y7],rfl,rdO Qu hw Ol,?_⟩;conv=>whnf
   refine cE hw (fun _ w' v w2=>cT w2 (Nf w' w2) v (y+q)) (fun O w' r=>G9 (S:=S) (oS hS r) ((cT.l (cT.cJ (cT.cL Rb fun g hg=>hg.1) (kS hw r hS)) (by omega)).v) ((cT.l (cT.cJ hu (kS hw r hS)) (by omega)).v)) ?_;rintro O _ _ _ Od r he hw h_ hn;have hd:=hn.dK (S:=FF) r.cI (mN h_);clear r hn;obtain⟨A0,A1,A2,A3,A4,A5,A6,A7,rfl⟩:=hd.shape;conv=>whnf
   obtain⟨g,hg⟩:∃g,ar=some ⟨g,0,none⟩:=Gt OX hc;subst hg;refine⟨⟨g,0,none⟩,rfl,by omega,?_⟩;conv=>whnf
   intro O w' r0;have hbw:=hw.tr r0.cS;have WY:∀v∈rv,∀g,v.ownBlock=some g->g<w.heap.size:=hM.low;have YF:∃v∈rv,v.ownBlock=some g:=⟨_,aD UH,rfl⟩
   have hglow:g<w.heap.size:=Ol g rfl;have hMk:mH w' (Cv S w.heap.size Od) rv n M:=(hM.cJ fun z hz=>hbw.block z (hz.elim (hS z) fun⟨v,hv,e⟩=>WY v hv z e)).cL fun z hz=>.inl hz;have YM:Old (Cv S w.heap.size Od) w':=Rel.old r0 hS;have hdk:cT w' (Lq (Cv S w.heap.size Od) rv) (.agg #[.bool A0,.slice A1 A2 A3,.bool A4,.slice A5 A6 A7]) (y+q):=cT.cL (hd.rel r0 (cG w)) fun z hz=>by
    have h1:w.heap.size<=z:=hz.elim (fun h=>h.elim) fun h=>h.1;have h2:z<w'.heap.size:=Rel.old r0 (cG w) z hz;exact⟨D3 hz,fun v hv e=>by have:=WY v hv z e;omega⟩
   obtain⟨g',SW,h1,h2,h3,h5⟩:=(hMk.row r _ x UH hx).store (j:=c) hc hdk (fun z e hz=>hz.2 _ (aD UH) e) (fun z hz=>YM z hz.1);injection SW with SW;injection SW with SW;subst SW;refine⟨h1,h3,fun id b hb hn=>by rw[h2];have:=(r0.low id b hb hn).1;omega,fun w5 Qd=>?_⟩;obtain⟨k1,k2,k3⟩:=h5 w5 Qd;have hP2:=hMk.put (S':=Cv S w.heap.size Od) UH k2 YM (fun z hz=>hz) k1;have Ua:fX pl M i k q=M.set r (x.set c (y+q)):=by
    unfold fX;rw[XD,hgk,if_pos ⟨Int.natCast_nonneg _,Int.natCast_nonneg _⟩,aF,aF,cY,show M.getD r []=x by rw[List.getD,hx];rfl,show x.getD c 0=y by rw[List.getD,hy];rfl]
   rw[<-Ua]at hP2;clear hMk hdk h1 h2 h3 h5 Qd k1;conv=>whnf
   intro ρe we re;have hb5:=re.cS;refine⟨_,some g,rfl,⟨(re.os.trans k2.os).trans hbw.os,(re.tape.trans k2.tape).trans hbw.tape,(re.output.trans k2.output).trans hbw.output,aV hbw.size (aV k2.size hb5.size),fun z hz OZ=>((hb5.block z hz).trans (k2.block z (Nat.lt_of_lt_of_le hz hbw.size) OZ)).trans (hbw.block z hz)⟩,fun z e=>by injection e with e;subst e;exact YF,?_⟩;exact(hP2.cJ fun z hz=>hz.elim (fun h=>Rel.same re hS h) fun⟨v,hv,e⟩=>hb5.block z (WY v hv z e)).cL fun z hz=>Cv.nw hz re
  have TT:zk<0:=by simpa using TT
  conv=>whnf
  have SI:fX pl M i k q=M:=by
   unfold fX;rw[XD,hgk,aK (by omega)]
  intro ρe we re;refine⟨_,none,rfl,dg.aCb (hw.tr re.cS),(fun g hg=>by cases hg),?_⟩;rw[SI];exact(hM.cJ fun g hg=>(hw.tr re.cS).block g (hg.elim (hS g) fun⟨v,hv,e⟩=>hM.low v hv g e)).cL fun g hg=>.inl hg
 have WU:zi<0:=by simpa using WU
 conv=>whnf
 have SI:fX pl M i k q=M:=by
  unfold fX;rw[XD,hgk,aK (by omega)]
 intro ρe we re;refine⟨_,none,rfl,dg.aCb (hw.tr re.cS),(fun g hg=>by cases hg),?_⟩;rw[SI];exact(hM.cJ fun g hg=>(hw.tr re.cS).block g (hg.elim (hS g) fun⟨v,hv,e⟩=>hM.low v hv g e)).cL fun g hg=>.inl hg
end Go.Ex
namespace Go.Ex
variable{s:Int×Int×Rat}
def n9(f:eY)(k r:Nat):Bool:=(f.cV.take k).any fun s=>decide (dw s=r)&&decide (s.2.2=0)
def yS(f:eY)(k:Nat):List Int:=(List.range (3*f.nodes.length)).map fun r=>if n9 f k r then -1 else 0
def qp(f:eY)(i:Nat):List Int:=(List.range (3*f.nodes.length)).map fun r=>if iC f r then -1 else if r<i then(kX f r:Int)else 0
section
variable{f:eY}
theorem IG(k:Nat):(yS f k).length=3*f.nodes.length:=by rw[yS,aL,List.length_range]
theorem CK(i:Nat):(qp f i).length=3*f.nodes.length:=by rw[qp,aL,List.length_range]
theorem M9:yS f 0=List.replicate (3*f.nodes.length) 0:=by
 rw[List.eq_replicate_iff];refine⟨IG 0,fun b hb=>?_⟩;obtain⟨r,-,rfl⟩:=aT.1 hb;rfl
theorem qA{k r:Nat}(hs:f.cV[k]? =some s):n9 f (k+1) r=(n9 f k r||(decide (dw s=r)&&decide (s.2.2=0))):=by
 unfold n9;rw[List.take_add_one,hs,List.any_append];simp
theorem Ma{k:Nat}(hs:f.cV[k]? =some s)(h:s.2.2≠0):yS f (k+1)=yS f k:=by
 unfold yS;exact List.map_congr_left fun r _=>by rw[qA hs,bJ h,Bool.and_false,Bool.or_false]
theorem aAS{k:Nat}(hs:f.cV[k]? =some s)(h:s.2.2=0):yS f (k+1)=(yS f k).set (dw s) (-1):=by
 refine bL fun r=>?_;unfold yS;by_cases e:dw s=r
 ·subst e;rcases aP (dw s) (3*f.nodes.length)with h1|h1
  ·rw[aR (by rw[aL,List.length_range];exact h1),aN,bP h1];show some (if n9 f (k+1) (dw s)then -1 else 0)=_;rw[qA hs,bS rfl,bS h];simp
  ·rw[List.getElem?_eq_none (by simpa using h1),List.getElem?_eq_none (by simpa using h1)]
 ·rw[aX e,aN,aN]
  cases hr:(List.range (3*f.nodes.length))[r]? with
  |none=>rfl
  |some r'=>
   have:r'=r:=by
    have h1:=(aE.1 hr).1;rw[List.length_range]at h1;rw[bP h1]at hr;injection hr with hr;exact hr.symm
   subst this;show some (if n9 f (k+1) r' then(-1:Int)else 0)=some (if n9 f k r' then -1 else 0);rw[qA hs,bJ e,Bool.false_and,Bool.or_false]
theorem Ee(r:Nat):n9 f f.cV.length r=iC f r:=by
 unfold n9 iC;rw[bH]
theorem Mc:qp f 0=yS f f.cV.length:=by
 unfold yS qp;exact List.map_congr_left fun r _=>by rw[Ee,aK (Nat.not_lt_zero r)]
theorem aAT:qp f (3*f.nodes.length)=placeF f:=by
 unfold qp placeF;exact List.map_congr_left fun r hr=>by rw[if_pos (List.mem_range.1 hr)]
theorem aBq{i:Nat}(hi:i<3*f.nodes.length):(qp f i)[i]? =some (if iC f i then -1 else 0):=by
 unfold qp;rw[aN,bP hi];show some (if iC f i then -1 else if i<i then(kX f i:Int)else 0)=_;rw[aK (Nat.lt_irrefl i)]
theorem aAU(i:Nat):kX f (i+1)=kX f i+if iC f i then 0 else 1:=by
 unfold kX;rw[bM,List.filter_append,List.length_append]
 cases h:iC f i<;>simp[h]
theorem LV{i r:Nat}{x:Int}(e:r≠i):(if r<i+1 then x else 0)=if r<i then x else 0:=by
 by_cases e2:r<i
 ·rw[if_pos e2,if_pos (by omega)]
 ·rw[aK e2,aK (by omega)]
theorem Md{i:Nat}(h:iC f i=true):qp f (i+1)=qp f i:=by
 unfold qp;refine List.map_congr_left fun r _=>?_;by_cases e:r=i
 ·subst e;rw[if_pos h,if_pos h]
 ·rw[LV e]
theorem aAV{i:Nat}(hi:i<3*f.nodes.length)(h:iC f i=false):qp f (i+1)=(qp f i).set i (kX f i):=by
 refine bL fun r=>?_;by_cases e:i=r
 ·subst e;rw[aR (by rw[CK];exact hi)];unfold qp;rw[aN,bP hi];show some (if iC f i then -1 else if i<i+1 then(kX f i:Int)else 0)=_;rw[h,aK (by decide),if_pos (bU i)]
 ·rw[aX e];unfold qp;rw[aN,aN]
  cases hr:(List.range (3*f.nodes.length))[r]? with
  |none=>rfl
  |some r'=>
   have:r'=r:=by
    have h1:=(aE.1 hr).1;rw[List.length_range]at h1;rw[bP h1]at hr;injection hr with hr;exact hr.symm
   subst this;show some (if iC f r' then(-1:Int)else if r'<i+1 then(kX f r':Int)else 0)=some (if iC f r' then -1 else if r'<i then(kX f r':Int)else 0);rw[LV (Ne.symm e)]
end
end Go.Ex
namespace Go.Ex
open Go Go.Sx Go.Proofs
variable{s:Int×Int×Rat}{S:Nat->Prop}{f:eY}
theorem aCJ(hv:FrV f)(hs:s∈f.cV)(Oc:0<=s.1∧0<=s.2.1){i:Nat}:(3*s.1+s.2.1=(i:Int))↔dw s=i:=by
 unfold dw;omega
theorem Ka{q:Rat}:decide (q=0)=(rs q==0):=by
 by_cases h:q=0
 ·subst h;rfl
 ·rw[bJ h];exact(beq_eq_false_iff_ne.2 fun e=>h (Rat.num_eq_zero.1 (cC.1 e))).symm
theorem NP{i:Nat}:((List.range (i+1)).filter fun r=> !iC f r)=((List.range i).filter fun r=> !iC f r)++if iC f i then []else [i]:=by
 rw[bM,List.filter_append]
 cases h:iC f i<;>simp[h]
set_option maxHeartbeats 1000000 in
theorem Dy{w:World}{vn vb vs:Value}(hS:Old S w)(hf:dX w S vn vb vs f)(Om:eP f=0):
  eA PG N.ou #[.agg #[vn,vb,vs]] w (eL w fun v' w2=>dF w2 (Nf w w2) v' (eI f)):=by
 have hw:=bR w;obtain⟨an,cn,ab,cb,aq,cq,rfl,rfl,rfl,RN,RJ,SF⟩:=hf.shape;have hv:=Jc Om;have Oc:=lM Om;have VN:=hv.n;have TG:=hv.s;refine tZ (by simp) ?_;conv=>whnf
 refine⟨Nat×World×Iv,fun z=>⟨[(1,pP 0 0),(3,.o (.w 1 ((List.range z.1).filter fun r=> !iC f r).length)),(4,iN z.1)],[(1,.vec T.int 1 (((List.range z.1).filter fun r=> !iC f r).map fun c:Nat=>.int .i64 (c:Int))),(0,.box T.Frame [.v (.slice an f.nodes.length cn),.v (.slice ab f.bars.length cb),.v (.slice aq f.cV.length cq)])],2,z.2.2,z.2.1⟩,fun z=>3*f.nodes.length-z.1,
  fun z=>z.1<=3*f.nodes.length∧dg w.heap.size w z.2.1,?_,?_⟩
 ·intro O w' r;exact⟨(0,w',_),⟨aO _,hw.tr r.cS⟩,Sub.nil 3 T.int 1 rfl (by simp[jw,SV.sc,At.sc,fQ]) r fun ρ1 r1=>Sub.gn [] r1⟩
 clear hw;rintro⟨i,w1,iv⟩ ⟨hi,hw⟩;dsimp only at hi hw ⊢;conv=>whnf
 refine⟨((3*f.nodes.length:Nat):Int),wo,?_⟩;conv=>whnf
 refine dG.mk ?_ ?_<;>intro OW
 ·have OW:i<3*f.nodes.length:=by have:=aH OW;omega
  conv=>whnf
  refine⟨Nat×World×Iv,fun z=>⟨[(1,pP 0 0),(3,.o (.w 1 ((List.range i).filter fun r=> !iC f r).length)),(4,iN i),(5,.o (.v (.bool (n9 f z.1 i)))),(6,iN z.1)],[(1,.vec T.int 1 (((List.range i).filter fun r=> !iC f r).map fun c:Nat=>.int .i64 (c:Int))),(0,.box T.Frame [.v (.slice an f.nodes.length cn),.v (.slice ab f.bars.length cb),.v (.slice aq f.cV.length cq)])],2,z.2.2,z.2.1⟩,fun z=>f.cV.length-z.1,
   fun z=>z.1<=f.cV.length∧dg w.heap.size w z.2.1,?_,?_⟩
  ·intro O w' r;exact⟨(0,w',_),⟨aO _,hw.tr r.cS⟩,Sub.gn [] r⟩
  clear hw;rintro⟨k,w2,iv⟩ ⟨hk,hw⟩;dsimp only at hk hw ⊢;conv=>whnf
  refine dG.mk ?_ ?_<;>intro OY
  ·have OY:k<f.cV.length:=by have:=aH OY;omega
   obtain⟨s,hs⟩:∃s,f.cV[k]? =some s:=⟨_,aB OY⟩
   obtain⟨adb,cs,QA,hF,-,PA⟩:=hf.cV.load (by decide) hs;obtain⟨g0,g1,g2,g3,g4,g5,g6,g7,rfl,hF⟩:=hF;have hsok:=Oc.sup s (aD hs);have VB:=qA (r:=i) hs;have OX:=aCJ (i:=i) hv (aD hs) (by omega);conv=>whnf
   refine⟨adb,QA,by omega,?_⟩;conv=>whnf
   refine⟨[.int .i64 s.1,.int .i64 s.2.1,.bool g0,.slice g1 g2 g3,.bool g4,.slice g5 g6 g7],rfl,rdO PA hw hS,?_⟩;conv=>whnf
   obtain⟨d,hd⟩:∃d,n9 f k i=d:=⟨_,rfl⟩
   rw[hd]at VB ⊢
   cases d
   ·conv=>whnf
    refine⟨3*s.1,wo,?_⟩;conv=>whnf
    refine⟨3*s.1+s.2.1,wo,?_⟩;conv=>whnf
    refine dG.mk ?_ ?_<;>intro he
    ·have he:dw s=i:=OX.1 (by simpa using he);conv=>whnf
     refine cH (cE hw (fun _ w' v w2=>v= .int .i64 (rs s.2.2)) (fun O w' r=>qU (oS hS r) (hF.cJ (kS hw r hS))) ?_);rintro O _ _ _ Oz r he hw h_ rfl;clear r he;conv=>whnf
     have Ro:n9 f (k+1) i=(rs s.2.2==0):=by
      rw[VB,bS he,Bool.false_or,Bool.true_and];exact Ka
     refine⟨((k+1:Nat):Int),wo,?_⟩;conv=>whnf
     intro ρ3 w6 r3;exact⟨(k+1,w6,_),⟨OY,hw.tr r3.cS⟩,Sub.gn [] r3 (hE:=⟨rfl,rfl,rfl,by dsimp only;rw[Ro];rfl,rfl,trivial⟩),by dsimp only;omega⟩
    have he:dw s≠i:=fun h=>by have:=OX.2 h;simp[this]at he
    have Ro:n9 f (k+1) i=false:=by rw[VB,bJ he];rfl
    conv=>whnf
    refine⟨((k+1:Nat):Int),wo,?_⟩;conv=>whnf
    intro ρ3 w6 r3;exact⟨(k+1,w6,_),⟨OY,hw.tr r3.cS⟩,Sub.gn [] r3 (hE:=⟨rfl,rfl,rfl,by dsimp only;rw[Ro];rfl,rfl,trivial⟩),by dsimp only;omega⟩
   have Ro:n9 f (k+1) i=true:=by rw[VB];rfl
   conv=>whnf
   refine⟨((k+1:Nat):Int),wo,?_⟩;conv=>whnf
   intro ρ3 w6 r3;exact⟨(k+1,w6,_),⟨OY,hw.tr r3.cS⟩,Sub.gn [] r3 (hE:=⟨rfl,rfl,rfl,by dsimp only;rw[Ro];rfl,rfl,trivial⟩),by dsimp only;omega⟩
  have OY:k=f.cV.length:=by have:=aG OY;omega
  rw[OY,Ee];have TJ:=NP (f:=f) (i:=i);obtain⟨L,hL⟩:∃L,((List.range i).filter fun r=> !iC f r)=L:=⟨_,rfl⟩
  have hLl:L.length<=i:=by rw[<-hL];exact aV (List.length_filter_le _ _) (by rw[List.length_range];exact Nat.le_refl _)
  rw[hL]at TJ ⊢;obtain⟨d,hd⟩:∃d,iC f i=d:=⟨_,rfl⟩
  rw[hd]at TJ ⊢
  cases d
  ·conv=>whnf
   have TJ:((List.range (i+1)).filter fun r=> !iC f r)=L++[i]:=TJ;conv=>whnf
   refine .inl ?_;conv=>whnf
   refine⟨by simp,by omega,by unfold maxLen;omega,?_⟩;conv=>whnf
   refine⟨((i+1:Nat):Int),wo,?_⟩;conv=>whnf
   intro ρ3 w6 r3;exact⟨(i+1,w6,_),⟨OW,hw.tr r3.cS⟩,Sub.gn [(1,3)] r3 ⟨by dsimp only;rw[TJ,List.map_append];rfl,rfl,trivial⟩ ⟨rfl,by dsimp only;rw[TJ,List.length_append,List.length_singleton];rfl,rfl,trivial⟩,by dsimp only;omega⟩
  have TJ:((List.range (i+1)).filter fun r=> !iC f r)=L:=TJ.trans (List.append_nil _);conv=>whnf
  refine⟨((i+1:Nat):Int),wo,?_⟩;conv=>whnf
  intro ρ3 w6 r3;exact⟨(i+1,w6,_),⟨OW,hw.tr r3.cS⟩,Sub.gn [] r3 ⟨by dsimp only;rw[TJ];rfl,rfl,trivial⟩ ⟨rfl,by dsimp only;rw[TJ];rfl,rfl,trivial⟩,by dsimp only;omega⟩
 have OW:i=3*f.nodes.length:=by have:=aG OW;omega
 rw[OW];conv=>whnf
 intro ρe we re;have SD:(eI f).length<=60:=by have:=wV (f:=f);omega
 have h5:=re.gz (id:=1) (sz:=1) (m:=(eI f).length) rfl (by simp[eI]) (by unfold maxLen;omega) (by decide) (fun u hu=>by obtain⟨c,-,rfl⟩:=aT.1 hu;rfl);exact⟨_,rfl,hw.tr re.cS,h5.cL fun g hg=>.inr hg⟩
theorem aAz(h:eP f≠0∨f.nodes.length<=4∧f.bars.length<=6)(hb:∀b∈f.bars,rl b.2.2<=3)(hs:∀b∈f.cV,rl b.2.2<=3)(h0:eP f=0):qc f:=
 ⟨aDL h h0,fun q hq=>by
  rcases List.mem_append.1 hq with h|h
  ·obtain⟨b,RG,rfl⟩:=aT.1 h;exact hb b RG
  ·obtain⟨b,RG,rfl⟩:=aT.1 h;exact hs b RG⟩
end Go.Ex
namespace Go.Ex
section
variable{f:eY}{b y s z:List Rat}{c:Rat}
end
end Go.Ex
namespace Go.Ex
open Go Go.Sx Go.Proofs
variable{x:List Rat}
theorem aBA{f:eY}(h:qc f){h0:Nat}(hx:x.length<=f.cols)(hq:∀q∈x,rl q<=h0):∀q∈fm x (dE f),rl q<=h0+3:=fun q Q5=>by
 obtain⟨t,ht⟩:=aS Q5;have VQ:t<x.length:=by have:=(aE.1 ht).1;rw[k9]at this;exact this
 have h1:=om (a:=x) (b:=dE f) VQ;rw[getD_some ht]at h1;have h2:=fb (x.getD t 0) ((dE f).getD t 0);have h3:=hq (x.getD t 0) (by rw[getD_some (aB VQ)];exact a9 _);have h4:=h.fxD (t:=t) (by omega);rw[h1];omega
end Go.Ex
namespace Go.Ex
section
variable{M:List (List Rat)}{n:Nat}{fl p q x y u v:List Rat}
end
end Go.Ex
namespace Go.Ex
open Go Go.Sx Go.Proofs
variable{b:Int×Int×Rat}{M:List (List Rat)}{a u v x:List Rat}{S:Nat->Prop}{f:eY}
theorem Jf{n:Nat}(hM:fq n M)(x:List Rat){j:Nat}(hj:j<M.length):(kv M x).getD j 0=mulR M n (fun t=>x.getD t 0) j:=by
 have hr:=aB hj;rw[getD_some (M7 hr),Hn,hM _ (a9 hj)];exact cN fun t _=>by rw[cY,getD_some hr]
def tn(n r:Nat):List Rat:=(List.replicate n 0).set r 1
theorem IE(n r:Nat):(tn n r).length=n:=by rw[tn,bW,aU]
theorem wW{n r:Nat}(hr:r<n)(k:Nat):(tn n r).getD k 0=if k=r then 1 else 0:=by
 unfold tn;by_cases h:k=r
 ·subst h;rw[if_pos rfl,j3 (by rw[aU];exact hr)]
 ·rw[aK h,getD_set_ne (Ne.symm h),List.getD,List.getElem?_replicate];split<;>rfl
theorem Aw(n r:Nat):∀q∈tn n r,rl q<=1:=fun q hq=>by
 rcases bA hq with hq|rfl
 ·rw[(List.mem_replicate.1 hq).2];decide
 ·decide
def uh(f:eY)(a b:List Rat)(n:Nat):Rat:=cX (fun l=>wE f l*(a.getD l 0*b.getD l 0)) n
def Jl(f:eY)(x u v:List Rat)(l:Nat):Rat:=x.getD (l / 3) 0*((u.getD (3*(f.bars.getD (l / 3) (0,0,0)).2.1+(l % 3:Nat)).toNat 0-u.getD (3*(f.bars.getD (l / 3) (0,0,0)).1+(l % 3:Nat)).toNat 0)*(v.getD (3*(f.bars.getD (l / 3) (0,0,0)).2.1+(l % 3:Nat)).toNat 0-v.getD (3*(f.bars.getD (l / 3) (0,0,0)).1+(l % 3:Nat)).toNat 0))
def yR(f:eY)(x u v:List Rat)(n:Nat):Rat:=cX (Jl f x u v) n
def GH(f:eY)(u:List Rat):List Rat:=kv (dq (cU f) f.cols) u
def aBp(f:eY)(x u v:List Rat):Rat:=uh f (GH f u) (GH f v) f.cols+yR f x u v (3*f.bars.length)
section
variable{f:eY}{x:List Rat}
theorem IF{r l:Nat}(hr:r<3*f.nodes.length)(hl:l<f.cols):(GH f (tn (3*f.nodes.length) r)).getD l 0=kO f l r:=by
 have hT:=gV (cU f) f.cols;unfold GH kO;rw[Jf hT _ (by rw[eF];exact hl)];unfold mulR
 rw[cN (g:=fun t=>if t=r then cY (cU f) r l else 0) fun t _=>by
  dsimp only;rw[wW hr,l5 hl];by_cases h:t=r
  ·subst h;rw[if_pos rfl,if_pos rfl,Rat.mul_one]
  ·rw[aK h,aK h,bB]]
 rw[eV (i:=r) (by rw[fu];exact hr) fun k _ hk=>aK hk];exact if_pos rfl
theorem aAR(hf:FrV f){r s:Nat}(hr:r<3*f.nodes.length)(hs:s<3*f.nodes.length):aBp f x (tn (3*f.nodes.length) r) (tn (3*f.nodes.length) s)=Ar f x r s:=by
 unfold aBp Ar uh yR grm;congr 1
 ·exact cN fun l hl=>by rw[IF hr hl,IF hs hl]
 ·refine cN fun l hl=>?_;have hb:=aB (show l / 3<f.bars.length by omega);obtain⟨ka,kb,ea,eb,US,OY,-,-⟩:=hf.Hq _ (a9 (show l / 3<f.bars.length by omega));unfold Jl nQ;rw[jh hb,toNat_add ea,toNat_add eb,ea,eb,wW hr,wW hr,wW hs,wW hs];have key:∀r k:Nat,(if 3*k+l % 3=r then(1:Rat)else 0)=if(r:Int)=3*(k:Int)+((l % 3:Nat):Int)then 1 else 0:=fun r k=>by
   by_cases h:3*k+l % 3=r
   ·rw[if_pos h,if_pos (by omega)]
   ·rw[aK h,aK (by omega)]
  rw[key,key,key,key]
end
theorem aBF{q:Rat}:0<rs q↔0<q:=by
 have h:=NF (p:=q) (q:=0);rw[oF]at h;constructor
 ·intro h1;exact Rat.not_le.1 fun h2=>by have:=h.2 h2;omega
 ·intro h1;have h2:¬rs q<=0:=fun h2=>absurd (h.1 h2) (Rat.not_le.2 h1);omega
theorem aDM{j k ka kb:Nat}(hk:k<3)(hb:f.bars[j]? =some b)(ea:b.1=ka)(eb:b.2.1=kb):Jl f x u v (3*j+k)=x.getD j 0*((u.getD (3*kb+k) 0-u.getD (3*ka+k) 0)*(v.getD (3*kb+k) 0-v.getD (3*ka+k) 0)):=by
 unfold Jl;rw[show (3*j+k) / 3=j by omega,show(3*j+k) % 3=k by omega,jh hb,toNat_add ea,toNat_add eb]
theorem aBG{b:List Rat}{i:Nat}:uh f a b (i+1)=uh f a b i+wE f i*(a.getD i 0*b.getD i 0):=rfl
theorem aBH{i:Nat}:yR f x u v (i+1)=yR f x u v i+Jl f x u v i:=rfl
theorem aBI(Ph:qc f){b:List Rat}(ha:∀q∈a,rl q<=100)(hb:∀q∈b,rl q<=100){n:Nat}(hn:n<=18):rl (uh f a b n)<=4000:=by
 have h0:∀{l:List Rat} {m:Nat},(∀q∈l,rl q<=m)->1<=m->∀t,rl (l.getD t 0)<=m:=fun{l m} h h1 t=>by
  rw[List.getD]
  cases ht:l[t]? with
  |none=>exact aV (by decide:rl 0<=1) h1
  |some q=>exact h q (aD ht)
 have h:=xZ (f:=fun l=>wE f l*(a.getD l 0*b.getD l 0)) (b:=203) n fun k _=>by
  have h1:rl (wE f k)<=3:=Fw (h0 Ph.fx (by decide) k);have h2:=h0 ha (by decide) k;have h3:=h0 hb (by decide) k;have h4:=fb (a.getD k 0) (b.getD k 0);have h5:=fb (wE f k) (a.getD k 0*b.getD k 0);omega
 have:n*(203+1)<=18*204:=Nat.mul_le_mul_right _ hn;have h6:rl (uh f a b n)<=n*(203+1)+2:=h;omega
theorem aDN(hx:∀q∈x,rl q<=3)(hu:∀q∈u,rl q<=1)(hv:∀q∈v,rl q<=1){n:Nat}(hn:n<=18):rl (yR f x u v n)<=300:=by
 have h0:∀{l:List Rat} {m:Nat},(∀q∈l,rl q<=m)->1<=m->∀t,rl (l.getD t 0)<=m:=fun{l m} h h1 t=>by
  rw[List.getD]
  cases ht:l[t]? with
  |none=>exact aV (by decide:rl 0<=1) h1
  |some q=>exact h q (aD ht)
 have h:=xZ (f:=Jl f x u v) (b:=12) n fun k _=>by
  unfold Jl;have a1:=h0 hx (by decide) (k / 3);have a2:=h0 hu (by decide) (3*(f.bars.getD (k / 3) (0,0,0)).2.1+(k % 3:Nat)).toNat;have a3:=h0 hu (by decide) (3*(f.bars.getD (k / 3) (0,0,0)).1+(k % 3:Nat)).toNat;have a4:=h0 hv (by decide) (3*(f.bars.getD (k / 3) (0,0,0)).2.1+(k % 3:Nat)).toNat;have a5:=h0 hv (by decide) (3*(f.bars.getD (k / 3) (0,0,0)).1+(k % 3:Nat)).toNat;have b1:=pt (u.getD (3*(f.bars.getD (k / 3) (0,0,0)).2.1+(k % 3:Nat)).toNat 0) (u.getD (3*(f.bars.getD (k / 3) (0,0,0)).1+(k % 3:Nat)).toNat 0);have b2:=pt (v.getD (3*(f.bars.getD (k / 3) (0,0,0)).2.1+(k % 3:Nat)).toNat 0) (v.getD (3*(f.bars.getD (k / 3) (0,0,0)).1+(k % 3:Nat)).toNat 0);have b3:=fb (u.getD (3*(f.bars.getD (k / 3) (0,0,0)).2.1+(k % 3:Nat)).toNat 0-u.getD (3*(f.bars.getD (k / 3) (0,0,0)).1+(k % 3:Nat)).toNat 0) (v.getD (3*(f.bars.getD (k / 3) (0,0,0)).2.1+(k % 3:Nat)).toNat 0-v.getD (3*(f.bars.getD (k / 3) (0,0,0)).1+(k % 3:Nat)).toNat 0);exact aV (fb _ _) (by omega)
 have:n*(12+1)<=18*13:=Nat.mul_le_mul_right _ hn;have h6:rl (yR f x u v n)<=n*(12+1)+2:=h;omega
theorem aBJ(Ou:FrS f)(hu:∀q∈u,rl q<=3):∀q∈GH f u,rl q<=100:=fun q hq=>by
 have h:=NQ (h:=4) (n:=12) (Ih Ou) (fun q hq=>by have:=hu q hq;omega) (by decide) (fun r hr=>by rw[gV (cU f) f.cols r hr];exact Ou.r12) q hq;omega
set_option maxHeartbeats 1000000 in
theorem aCK{w:World}{vn vb vs vx vu vv:Value}(hS:Old S w)(hf:dX w S vn vb vs f)(Om:eP f=0)(Ph:qc f)(hx:dB w S vx x)(Pr:x.length=f.cols)(RH:∀q∈x,rl q<=3)(hu:dB w S vu u)(hul:u.length=3*f.nodes.length)(huq:∀q∈u,rl q<=1)(hv:dB w S vv v)(VA:v.length=3*f.nodes.length)(Xb:∀q∈v,rl q<=1):
  eA PG N.CS #[.agg #[vn,vb,vs],vx,vu,vv] w (eL w fun v' w2=>cT w2 (Nf w w2) v' (aBp f x u v)):=by
 have hw:=bR w;obtain⟨an,cn,ab,cb,aq,cq,rfl,rfl,rfl,RN,RJ,SF⟩:=hf.shape;obtain⟨ax,cx,rfl,TU,Tj⟩:=dL.shape hx;obtain⟨au,cu,rfl,hcu,hmu⟩:=dL.shape hu;obtain⟨av,cv,rfl,YL,hmv⟩:=dL.shape hv;have Ou:=Ph.toFrS;have Tv:=Ou.M5;have hn4:=Ou.n4;have Vx:=Ou.b6;have Oc:=lM Om;have Pt:f.cols=f.bars.length+f.cV.length:=rfl;have Xd:=aBJ Ou (u:=u) fun q hq=>by have:=huq q hq;omega
 have Xe:=aBJ Ou (u:=v) fun q hq=>by have:=Xb q hq;omega
 obtain⟨A,hA0⟩:∃A,GH f u=A:=⟨_,rfl⟩
 obtain⟨B,hB0⟩:∃B,GH f v=B:=⟨_,rfl⟩
 have hAl:A.length=f.cols:=by rw[<-hA0,GH,lQ,eF]
 have hBl:B.length=f.cols:=by rw[<-hB0,GH,lQ,eF]
 rw[hA0]at Xd;rw[hB0]at Xe;refine Df (by simp) ?_;conv=>whnf
 refine cH (cE hw (fun _ w' v w2=>cT w2 (Nf w' w2) v ((0:Int):Rat)) (fun O w' r=>ic 0 w' (by decide)) ?_);rintro O _ _ _ Od r he hw h_ hn;have hs:=hn.dK (S:=FF) r.cI (mN h_);clear r;obtain⟨A0,A1,A2,A3,A4,A5,A6,A7,rfl⟩:=hs.shape;conv=>whnf
 refine cO hτ dZ [.x 0,.x 1,.x 3,.x 4,.x 2,.x 5,.x 6,.x 7] (by kernel_rfl) (by kernel_rfl) ?_;conv=>whnf
 refine cE hw (fun _ w' v w2=>cR w2 (Nf w' w2) v A) (fun O w' r=>hA0▸Ii (oS hS r) (hf.cJ (kS hw r hS)) Om Ou (dB.cJ hu (kS hw r hS)) (fun q hq=>by have:=huq q hq;omega) (by omega) hul) ?_;rintro O _ v2 _ Oa r he hw h_ hn;replace hs:=hs.cK r (cG w) he (mC h_);have hA:=cR.dK (S:=FF) hn r.cI (mN h_);clear r;clear hn;obtain⟨aa2,ca2,rfl,-,-⟩:=dL.shape hA;conv=>whnf
 refine cE hw (fun _ w' v w2=>cR w2 (Nf w' w2) v B) (fun O w' r=>hB0▸Ii (oS hS r) (hf.cJ (kS hw r hS)) Om Ou (dB.cJ hv (kS hw r hS)) (fun q hq=>by have:=Xb q hq;omega) (by omega) VA) ?_;rintro O _ _ _ Oj r he hw h_ hn;replace hs:=hs.cK r (cG w) he (mC h_);replace hA:=cR.cK hA r (cG w) he (mC h_);have hB:=cR.dK (S:=FF) hn r.cI (mN h_);clear r;clear hn;obtain⟨ab2,cb2,rfl,-,-⟩:=dL.shape hB;conv=>whnf
 refine⟨Nat×((Bool×Bool)×(Option Addr×Option Addr)×(Nat×Nat×Nat×Nat))×World×Iv,fun z=>⟨[(1,sV ax x.length cx),(2,sV au u.length cu),(3,sV av v.length cv),(4,pP 0 0),(8,pP 1 0),(9,pP 2 0),(10,sV aa2 A.length ca2),(11,sV ab2 B.length cb2),(12,iN z.1)],[(2,.box T.Rat [.v (.bool z.2.1.1.1),.v (.slice z.2.1.2.1.1 z.2.1.2.2.1 z.2.1.2.2.2.1),.v (.bool z.2.1.1.2),.v (.slice z.2.1.2.1.2 z.2.1.2.2.2.2.1 z.2.1.2.2.2.2.2)]),(1,.box T.Rat [.v (.bool false),.v (.slice none 0 0),.v (.bool false),.v (.slice none 0 0)]),(0,.box T.Frame [.v (.slice an f.nodes.length cn),.v (.slice ab f.bars.length cb),.v (.slice aq f.cV.length cq)])],3,z.2.2.2,z.2.2.1⟩,fun z=>f.cols-z.1,
  fun z=>z.1<=f.cols∧dg w.heap.size w z.2.2.1∧cR z.2.2.1 (Cf w z.2.2.2) (.slice aa2 A.length ca2) A∧cR z.2.2.1 (Cf w z.2.2.2) (.slice ab2 B.length cb2) B∧cT z.2.2.1 (Cf w z.2.2.2) (.agg #[.bool z.2.1.1.1,.slice z.2.1.2.1.1 z.2.1.2.2.1 z.2.1.2.2.2.1,.bool z.2.1.1.2,.slice z.2.1.2.1.2 z.2.1.2.2.2.2.1 z.2.1.2.2.2.2.2]) (uh f A B z.1),?_,?_⟩
 ·intro O w' r;exact⟨(0,((A0,A4),(A1,A5),(A2,A3,A6,A7)),w',_),⟨aO _,hw.tr r.cS,cR.rel hA r (cG w),cR.rel hB r (cG w),hs.rel r (cG w)⟩,Sub.gn [] r⟩
 clear hw hA hB hs;rintro⟨i,⟨⟨p0,p4⟩,⟨p1,p5⟩,⟨p2,p3,p6,p7⟩⟩,w1,iv⟩ ⟨hi,hw,hA,hB,hs⟩;dsimp only at hi hw hA hB hs ⊢;conv=>whnf
 refine cH (cE hw (fun _ w' v w2=>v= .int .i64 f.cols) (fun O w' r=>jc (hf.cJ (kS hw r hS)) ⟨Ou.b,Ou.s⟩) ?_);rintro O _ _ _ Oz r he hw h_ rfl;replace hA:=cR.cK hA r (cG w) he (mC h_);replace hB:=cR.cK hB r (cG w) he (mC h_);replace hs:=hs.cK r (cG w) he (mC h_);clear r;conv=>whnf
 refine dG.mk ?_ ?_<;>intro OW
 ·have OW:i<f.cols:=by simpa using OW
  have hfl3:rl ((dE f).getD i 0)<=3:=Ph.fxD OW;have Vd:=aBI Ph Xd Xe (n:=i) (by omega);obtain⟨p,hp⟩:∃q,A[i]? =some q:=⟨_,aB (by omega)⟩
  obtain⟨q,hq⟩:∃q,B[i]? =some q:=⟨_,aB (by omega)⟩
  have hpr:=Xd p (aD hp);have hqr:=Xe q (aD hq);have hpg:A.getD i 0=p:=getD_some hp;have hqg:B.getD i 0=q:=getD_some hq;have QW:uh f A B (i+1)=uh f A B i+wE f i*(p*q):=by rw[aBG,hpg,hqg]
  conv=>whnf
  refine cH (cE hw (fun _ w' v w2=>eS w2 S v ((dE f).getD i 0)) (fun O w' r=>Ll (oS hS r) (hf.cJ (kS hw r hS)) ⟨Ou.b,Ou.s⟩ OW) ?_);rintro O Rz v5 Rs QT r he hw h_ hL;replace hA:=cR.cK hA r (cG w) he (mC h_);replace hB:=cR.cK hB r (cG w) he (mC h_);replace hs:=hs.cK r (cG w) he (mC h_);clear r;obtain⟨hL0,hL1,hL2,hL3,hL4,hL5,hL6,hL7,rfl⟩:=hL.shape;conv=>whnf
  refine cH (cE hw (fun _ w' v w2=>v= .int .i64 (rs ((dE f).getD i 0))) (fun O w' r=>qU (oS hS r) (hL.cJ fun g hg=>Rel.same r hS (.inl hg))) ?_);rintro O R5 v6 RX Qr r he hw h_ rfl;replace hA:=cR.cK hA r (cG w) he (mC h_);replace hB:=cR.cK hB r (cG w) he (mC h_);replace hs:=hs.cK r (cG w) he (mC h_);clear r;conv=>whnf
  refine dG.mk ?_ ?_<;>intro PL
  ·have PL:0<(dE f).getD i 0:=aBF.1 (by simpa using PL);have OZ:(dE f).getD i 0≠0:=fun e=>by rw[e]at PL;exact absurd PL (by decide)
   obtain⟨adp,csp,R6,hFp,hSp,hlp⟩:=dL.load hA hp;obtain⟨x0,x1,x2,x3,x4,x5,x6,x7,rfl,hFp⟩:=hFp;obtain⟨adq,csq,UY,hFq,hSq,hlq⟩:=dL.load hB hq;obtain⟨y0,y1,y2,y3,y4,y5,y6,y7,rfl,hFq⟩:=hFq;conv=>whnf
   refine cO hτ dZ [.x 0,.x 1,.x 2,.x 3,.x 4,.x 5,.x 6,.x 7,.x 9,.x 10,.p 16,.x 8,.x 11,.x 12,.x 13,.x 14,.x 15,.x 16,.x 17,.x 18] (by kernel_rfl) (by kernel_rfl) ?_;conv=>whnf
   refine⟨adp,R6,by omega,?_⟩;conv=>whnf
   refine⟨[.bool x0,.slice x1 x2 x3,.bool x4,.slice x5 x6 x7],rfl,fun O w' r j u hu=>?_,?_⟩
   ·obtain⟨k1,k2⟩:=hlp j u hu;rw[aF,cM (w:=RX) (w2:=w') (by rw[dD,dD];exact Rel.same r (cG w) k1)];exact k2
   conv=>whnf
   refine⟨adq,UY,by omega,?_⟩;conv=>whnf
   refine⟨[.bool y0,.slice y1 y2 y3,.bool y4,.slice y5 y6 y7],rfl,fun O w' r j u hu=>?_,?_⟩
   ·obtain⟨k1,k2⟩:=hlq j u hu;rw[aF,cM (w:=RX) (w2:=w') (by rw[dD,dD];exact Rel.same r (cG w) k1)];exact k2
   conv=>whnf
   refine cE hw (fun _ w' v w2=>cT w2 (Nf w' w2) v (p*q)) (fun O w' r=>vC (S:=Cf w Qr) (Rel.old r (cG w)) ((cT.rel hFp r (cG w)).l (by omega)) ((cT.rel hFq r (cG w)).l (by omega))) ?_;rintro O Sw v7 Sz RO r he hw h_ hn;replace hA:=cR.cK hA r (cG w) he (mC h_);replace hB:=cR.cK hB r (cG w) he (mC h_);replace hs:=hs.cK r (cG w) he (mC h_);have hm:=hn.dK (S:=FF) r.cI (mN h_);clear r;obtain⟨C0,C1,C2,C3,C4,C5,C6,C7,rfl⟩:=hm.shape;have hmr:=fb p q;conv=>whnf
   refine cE hw (fun _ w' v w2=>eS w2 S v ((dE f).getD i 0)) (fun O w' r=>Ll (oS hS r) (hf.cJ (kS hw r hS)) ⟨Ou.b,Ou.s⟩ OW) ?_;rintro O S9 v8 Se RF r he hw h_ hN;replace hA:=cR.cK hA r (cG w) he (mC h_);replace hB:=cR.cK hB r (cG w) he (mC h_);replace hs:=hs.cK r (cG w) he (mC h_);replace hm:=hm.cK r (cG w) he (mC h_);clear r;obtain⟨hN0,hN1,hN2,hN3,hN4,hN5,hN6,hN7,rfl⟩:=hN.shape;conv=>whnf
   refine cE hw (fun _ w' v w2=>∃q2,v= .tuple #[q2,.int .i64 0]∧cT w2 (Nf w' w2) q2 (p*q / (dE f).getD i 0)) (fun O w' r=>FC (S:=fun g=>S g∨Cf w RF g) (fun g hg=>hg.elim (oS hS r g) (Rel.old r (cG w) g)) (eS.cL ((hm.rel r (cG w)).l (by omega)) fun g hg=>.inr hg) (eS.cL (hN.cJ fun g hg=>Rel.same r hS (.inl hg)) fun g hg=>.inl hg) OZ) ?_;rintro O RP v9 RY RD r he hw h_ ⟨q2,rfl,hn⟩;replace hA:=cR.cK hA r (cG w) he (mC h_);replace hB:=cR.cK hB r (cG w) he (mC h_);replace hs:=hs.cK r (cG w) he (mC h_);clear hm;have Q5:=cT.dK (S:=FF) hn r.cI (mN h_);clear r;clear hn;have hqr2:=pc (p*q) OZ;have hnx3:uh f A B (i+1)=uh f A B i+p*q / (dE f).getD i 0:=by rw[QW,wE,bV,bl]
   obtain⟨t0,t1,t2,t3,t4,t5,t6,t7,rfl⟩:=Q5.shape;conv=>whnf
   refine cH (cE hw (fun _ w' v w2=>cT w2 (Nf w' w2) v (uh f A B (i+1))) (fun O w' r=>(vD (S:=Cf w RD) (Rel.old r (cG w)) ((hs.rel r (cG w)).l (by omega)) ((Q5.rel r (cG w)).l (by omega))).mono fun _ _ ⟨v2,e1,e2,e3⟩=>⟨v2,e1,e2,by rw[hnx3];exact e3⟩) ?_);rintro O _ _ _ QS r he hw h_ hn;replace hA:=cR.cK hA r (cG w) he (mC h_);replace hB:=cR.cK hB r (cG w) he (mC h_);clear hs;clear Q5;have Qf:=hn.dK (S:=FF) r.cI (mN h_);clear r;obtain⟨F0,F1,F2,F3,F4,F5,F6,F7,rfl⟩:=Qf.shape;conv=>whnf
   refine⟨((i+1:Nat):Int),wo,?_⟩;conv=>whnf
   intro ρ3 w6 r3;exact⟨(i+1,((F0,F4),(F1,F5),(F2,F3,F6,F7)),w6,_),⟨OW,hw.tr r3.cS,cR.rel hA r3 (cG w),cR.rel hB r3 (cG w),Qf.rel r3 (cG w)⟩,Sub.gn [] r3,by dsimp only;omega⟩
  have hz:(dE f).getD i 0=0:=by
   have h1:¬0<(dE f).getD i 0:=fun h=>aG PL (aBF.2 h);exact Rat.le_antisymm (Rat.not_lt.1 h1) (Ou.toFrV.rW i)
  have hnx2:uh f A B (i+1)=uh f A B i:=by rw[QW,wE,hz];show _+(0:Rat)⁻¹*_=_;rw[Rat.inv_zero,bC,bN]
  conv=>whnf
  refine⟨((i+1:Nat):Int),wo,?_⟩;conv=>whnf
  intro ρ3 w6 r3;exact⟨(i+1,((p0,p4),(p1,p5),(p2,p3,p6,p7)),w6,_),⟨OW,hw.tr r3.cS,cR.rel hA r3 (cG w),cR.rel hB r3 (cG w),by dsimp only;rw[hnx2];exact hs.rel r3 (cG w)⟩,Sub.gn [] r3,by dsimp only;omega⟩
 have OW:i=f.cols:=aQ hi (by simpa using OW);rw[OW]at hs;have her:=aBI Ph Xd Xe (n:=f.cols) Tv;obtain⟨E0,hE0⟩:∃q,uh f A B f.cols=q:=⟨_,rfl⟩
 rw[hE0]at hs her;clear hA hB;conv=>whnf
 refine⟨Nat×((Bool×Bool)×(Option Addr×Option Addr)×(Nat×Nat×Nat×Nat))×World×Iv,fun z=>⟨[(1,sV ax x.length cx),(2,sV au u.length cu),(3,sV av v.length cv),(4,pP 0 0),(8,pP 1 0),(9,pP 2 0),(15,iN z.1)],[(2,.box T.Rat [.v (.bool z.2.1.1.1),.v (.slice z.2.1.2.1.1 z.2.1.2.2.1 z.2.1.2.2.2.1),.v (.bool z.2.1.1.2),.v (.slice z.2.1.2.1.2 z.2.1.2.2.2.2.1 z.2.1.2.2.2.2.2)]),(1,.box T.Rat [.v (.bool false),.v (.slice none 0 0),.v (.bool false),.v (.slice none 0 0)]),(0,.box T.Frame [.v (.slice an f.nodes.length cn),.v (.slice ab f.bars.length cb),.v (.slice aq f.cV.length cq)])],3,z.2.2.2,z.2.2.1⟩,fun z=>f.bars.length-z.1,
  fun z=>z.1<=f.bars.length∧dg w.heap.size w z.2.2.1∧cT z.2.2.1 (Cf w z.2.2.2) (.agg #[.bool z.2.1.1.1,.slice z.2.1.2.1.1 z.2.1.2.2.1 z.2.1.2.2.2.1,.bool z.2.1.1.2,.slice z.2.1.2.1.2 z.2.1.2.2.2.2.1 z.2.1.2.2.2.2.2]) (E0+yR f x u v (3*z.1)),?_,?_⟩
 ·intro O w' r;exact⟨(0,((p0,p4),(p1,p5),(p2,p3,p6,p7)),w',_),⟨aO _,hw.tr r.cS,by rw[show yR f x u v (3*0)=0 from rfl,bN];exact hs.rel r (cG w)⟩,Sub.gn [] r⟩
 clear hw hs hi OW;rintro⟨j,⟨⟨p0,p4⟩,⟨p1,p5⟩,⟨p2,p3,p6,p7⟩⟩,w1,iv⟩ ⟨hj,hw,hs⟩;dsimp only at hj hw hs ⊢;conv=>whnf
 refine dG.mk ?_ ?_<;>intro PQ
 ·have PQ:j<f.bars.length:=by have:=aH PQ;omega
  obtain⟨b,hb⟩:∃b,f.bars[j]? =some b:=⟨_,aB PQ⟩
  obtain⟨ka,kb,ea,eb,US,OY,-,-⟩:=Ou.toFrV.Hq b (aD hb);obtain⟨adb,cs,WV,hF,-,PA⟩:=hf.bars.load (by decide) hb;obtain⟨g0,g1,g2,g3,g4,g5,g6,g7,rfl,hF⟩:=hF;rw[ea,eb]at PA;obtain⟨xj,hxj⟩:∃q,x[j]? =some q:=⟨_,aB (by omega)⟩
  obtain⟨adx,csx,Pz,Qc,-,PS⟩:=dL.load hx hxj;obtain⟨x0,x1,x2,x3,x4,x5,x6,x7,rfl,Qc⟩:=Qc;have hxg:x.getD j 0=xj:=getD_some hxj;have UI:=RH xj (aD hxj);conv=>whnf
  refine⟨Nat×((Bool×Bool)×(Option Addr×Option Addr)×(Nat×Nat×Nat×Nat))×World×Iv,fun z=>⟨[(1,sV ax x.length cx),(2,sV au u.length cu),(3,sV av v.length cv),(4,pP 0 0),(8,pP 1 0),(9,pP 2 0),(15,iN j),(16,iN z.1)],[(2,.box T.Rat [.v (.bool z.2.1.1.1),.v (.slice z.2.1.2.1.1 z.2.1.2.2.1 z.2.1.2.2.2.1),.v (.bool z.2.1.1.2),.v (.slice z.2.1.2.1.2 z.2.1.2.2.2.2.1 z.2.1.2.2.2.2.2)]),(1,.box T.Rat [.v (.bool false),.v (.slice none 0 0),.v (.bool false),.v (.slice none 0 0)]),(0,.box T.Frame [.v (.slice an f.nodes.length cn),.v (.slice ab f.bars.length cb),.v (.slice aq f.cV.length cq)])],3,z.2.2.2,z.2.2.1⟩,fun z=>3-z.1,
   fun z=>z.1<=3∧dg w.heap.size w z.2.2.1∧cT z.2.2.1 (Cf w z.2.2.2) (.agg #[.bool z.2.1.1.1,.slice z.2.1.2.1.1 z.2.1.2.2.1 z.2.1.2.2.2.1,.bool z.2.1.1.2,.slice z.2.1.2.1.2 z.2.1.2.2.2.2.1 z.2.1.2.2.2.2.2]) (E0+yR f x u v (3*j+z.1)),?_,?_⟩
  ·intro O w' r;exact⟨(0,((p0,p4),(p1,p5),(p2,p3,p6,p7)),w',_),⟨aO _,hw.tr r.cS,hs.rel r (cG w)⟩,Sub.gn [] r⟩
  clear hw hs;rintro⟨k,⟨⟨p0,p4⟩,⟨p1,p5⟩,⟨p2,p3,p6,p7⟩⟩,w1,iv⟩ ⟨hk,hw,hs⟩;dsimp only at hk hw hs ⊢;conv=>whnf
  refine dG.mk ?_ ?_<;>intro Tu
  ·have hk3:k<3:=by have:=aH Tu;omega
   have Oi:=aDN (f:=f) RH huq Xb (n:=3*j+k) (by omega);have Vd:=kz E0 (yR f x u v (3*j+k));have hgt:=aDM (x:=x) (u:=u) (v:=v) hk3 hb ea eb;obtain⟨uQ,huQ⟩:∃q,u[3*kb+k]? =some q:=⟨_,aB (by omega)⟩
   obtain⟨aduQ,csuQ,hauQ,hFuQ,-,hluQ⟩:=dL.load hu huQ;obtain⟨uQ0,uQ1,uQ2,uQ3,uQ4,uQ5,uQ6,uQ7,rfl,hFuQ⟩:=hFuQ;have hguQ:u.getD (3*kb+k) 0=uQ:=getD_some huQ;have hruQ:=huq uQ (aD huQ);obtain⟨uP,huP⟩:∃q,u[3*ka+k]? =some q:=⟨_,aB (by omega)⟩
   obtain⟨aduP,csuP,hauP,hFuP,-,hluP⟩:=dL.load hu huP;obtain⟨uP0,uP1,uP2,uP3,uP4,uP5,uP6,uP7,rfl,hFuP⟩:=hFuP;have hguP:u.getD (3*ka+k) 0=uP:=getD_some huP;have hruP:=huq uP (aD huP);obtain⟨vQ,hvQ⟩:∃q,v[3*kb+k]? =some q:=⟨_,aB (by omega)⟩
   obtain⟨advQ,csvQ,havQ,hFvQ,-,hlvQ⟩:=dL.load hv hvQ;obtain⟨vQ0,vQ1,vQ2,vQ3,vQ4,vQ5,vQ6,vQ7,rfl,hFvQ⟩:=hFvQ;have hgvQ:v.getD (3*kb+k) 0=vQ:=getD_some hvQ;have hrvQ:=Xb vQ (aD hvQ);obtain⟨vP,hvP⟩:∃q,v[3*ka+k]? =some q:=⟨_,aB (by omega)⟩
   obtain⟨advP,csvP,havP,hFvP,-,hlvP⟩:=dL.load hv hvP;obtain⟨vP0,vP1,vP2,vP3,vP4,vP5,vP6,vP7,rfl,hFvP⟩:=hFvP;have hgvP:v.getD (3*ka+k) 0=vP:=getD_some hvP;have hrvP:=Xb vP (aD hvP);rw[hxg,hguQ,hguP,hgvQ,hgvP]at hgt;have QW:E0+yR f x u v (3*j+(k+1))=E0+yR f x u v (3*j+k)+xj*((uQ-uP)*(vQ-vP)):=by rw[<-Nat.add_assoc,aBH,hgt,Rat.add_assoc]
   obtain⟨G1,hG1⟩:∃q,E0+yR f x u v (3*j+(k+1))=q:=⟨_,rfl⟩
   conv=>whnf
   refine cO hτ dZ [.x 0,.x 1,.x 2,.x 3,.x 4,.x 5,.x 6,.x 7,.x 8,.x 9,.x 10,.x 11,.x 12,.x 13,.x 14,.x 15,.x 16,.x 17,.x 18,.x 19] (by kernel_rfl) (by kernel_rfl) ?_;conv=>whnf
   refine⟨adb,WV,by omega,?_⟩;conv=>whnf
   refine⟨.int .i64 (ka:Int),fun O w' r=>?_,?_⟩
   ·obtain⟨k1,k2⟩:=PA 0 _ rfl;rw[cM (w:=w) (w2:=w') (by simp only[dD];exact(hw.tr r.cS).block _ (hS _ k1))];simp only[aF,mY]at k2 ⊢;exact k2
   conv=>whnf
   refine⟨((3*ka:Nat):Int),wo,?_⟩;conv=>whnf
   refine⟨((3*ka+k:Nat):Int),wo,?_⟩;conv=>whnf
   refine⟨adb,WV,by omega,?_⟩;conv=>whnf
   refine⟨.int .i64 (kb:Int),fun O w' r=>?_,?_⟩
   ·obtain⟨k1,k2⟩:=PA 1 _ rfl;rw[cM (w:=w) (w2:=w') (by simp only[dD];exact(hw.tr r.cS).block _ (hS _ k1))];simp only[aF,mY]at k2 ⊢;exact k2
   conv=>whnf
   refine⟨((3*kb:Nat):Int),wo,?_⟩;conv=>whnf
   refine⟨((3*kb+k:Nat):Int),wo,?_⟩;conv=>whnf
   refine cO hτ dZ [.x 0,.x 1,.x 2,.x 3,.x 4,.x 5,.x 6,.x 7,.x 8,.x 9,.x 10,.x 11,.x 12,.x 14,.x 15,.x 16,.x 17,.x 18,.x 19,.x 20,.x 21,.x 13,.x 22,.x 23,.x 24,.x 25,.x 26] (by kernel_rfl) (by kernel_rfl) ?_;conv=>whnf
   refine⟨adx,Pz,by omega,?_⟩;conv=>whnf
   refine⟨[.bool x0,.slice x1 x2 x3,.bool x4,.slice x5 x6 x7],rfl,rdO PS hw hS,?_⟩;conv=>whnf
   refine⟨aduQ,hauQ,by omega,?_⟩;conv=>whnf
   refine⟨[.bool uQ0,.slice uQ1 uQ2 uQ3,.bool uQ4,.slice uQ5 uQ6 uQ7],rfl,rdO hluQ hw hS,?_⟩;conv=>whnf
   refine⟨aduP,hauP,by omega,?_⟩;conv=>whnf
   refine⟨[.bool uP0,.slice uP1 uP2 uP3,.bool uP4,.slice uP5 uP6 uP7],rfl,rdO hluP hw hS,?_⟩;conv=>whnf
   refine⟨advQ,havQ,by omega,?_⟩;conv=>whnf
   refine⟨[.bool vQ0,.slice vQ1 vQ2 vQ3,.bool vQ4,.slice vQ5 vQ6 vQ7],rfl,rdO hlvQ hw hS,?_⟩;conv=>whnf
   refine⟨advP,havP,by omega,?_⟩;conv=>whnf
   refine⟨[.bool vP0,.slice vP1 vP2 vP3,.bool vP4,.slice vP5 vP6 vP7],rfl,rdO hlvP hw hS,?_⟩;conv=>whnf
   refine cE hw (fun _ w' v w2=>cT w2 (Nf w' w2) v (uQ-uP)) (fun O w' r=>Kb (oS hS r) (hFuQ.cJ (kS hw r hS)) (hFuP.cJ (kS hw r hS))) ?_;rintro O _ _ _ QT r he hw h_ hn;replace hs:=hs.cK r (cG w) he (mC h_);have R4:=hn.dK (S:=FF) r.cI (mN h_);clear r;obtain⟨J0,J1,J2,J3,J4,J5,J6,J7,rfl⟩:=R4.shape;conv=>whnf
   refine cE hw (fun _ w' v w2=>cT w2 (Nf w' w2) v (vQ-vP)) (fun O w' r=>Kb (oS hS r) (hFvQ.cJ (kS hw r hS)) (hFvP.cJ (kS hw r hS))) ?_;rintro O _ _ _ Qr r he hw h_ hn;replace hs:=hs.cK r (cG w) he (mC h_);replace R4:=R4.cK r (cG w) he (mC h_);have PF:=hn.dK (S:=FF) r.cI (mN h_);clear r;obtain⟨K0,K1,K2,K3,K4,K5,K6,K7,rfl⟩:=PF.shape;have b1:=pt uQ uP;have b2:=pt vQ vP;have b3:=fb (uQ-uP) (vQ-vP);have b4:=fb xj ((uQ-uP)*(vQ-vP));conv=>whnf
   refine cE hw (fun _ w' v w2=>cT w2 (Nf w' w2) v ((uQ-uP)*(vQ-vP))) (fun O w' r=>vC (S:=Cf w Qr) (Rel.old r (cG w)) ((R4.rel r (cG w)).l (by omega)) ((PF.rel r (cG w)).l (by omega))) ?_;rintro O _ _ _ RO r he hw h_ hn;replace hs:=hs.cK r (cG w) he (mC h_);clear R4;clear PF;have SP:=hn.dK (S:=FF) r.cI (mN h_);clear r;obtain⟨C0,C1,C2,C3,C4,C5,C6,C7,rfl⟩:=SP.shape;conv=>whnf
   refine cE hw (fun _ w' v w2=>cT w2 (Nf w' w2) v (xj*((uQ-uP)*(vQ-vP)))) (fun O w' r=>vC (S:=fun g=>S g∨Cf w RO g) (fun g hg=>hg.elim (oS hS r g) (Rel.old r (cG w) g)) (eS.cL (Qc.cJ (kS hw r hS)) fun g hg=>.inl hg) (eS.cL ((SP.rel r (cG w)).l (by omega)) fun g hg=>.inr hg)) ?_;rintro O _ _ _ RF r he hw h_ hn;replace hs:=hs.cK r (cG w) he (mC h_);clear SP;have Th:=hn.dK (S:=FF) r.cI (mN h_);clear r;obtain⟨N0,N1,N2,N3,N4,N5,N6,N7,rfl⟩:=Th.shape;conv=>whnf
   refine cE hw (fun _ w' v w2=>cT w2 (Nf w' w2) v G1) (fun O w' r=>(vD (S:=Cf w RF) (Rel.old r (cG w)) ((hs.rel r (cG w)).l (by omega)) ((Th.rel r (cG w)).l (by omega))).mono fun _ _ ⟨v2,e1,e2,e3⟩=>⟨v2,e1,e2,by rw[<-hG1,QW];exact e3⟩) ?_;rintro O _ _ _ RD r he hw h_ hn;clear hs;clear Th;have Qf:=hn.dK (S:=FF) r.cI (mN h_);clear r;obtain⟨O0,O1,O2,O3,O4,O5,O6,O7,rfl⟩:=Qf.shape;conv=>whnf
   refine⟨((k+1:Nat):Int),wo,?_⟩;conv=>whnf
   intro ρ3 w6 r3;exact⟨(k+1,((O0,O4),(O1,O5),(O2,O3,O6,O7)),w6,_),⟨hk3,hw.tr r3.cS,by dsimp only;rw[hG1];exact Qf.rel r3 (cG w)⟩,Sub.gn [] r3,by dsimp only;omega⟩
  have hk3:k=3:=by have:=aG Tu;omega
  rw[hk3]at hs;conv=>whnf
  refine⟨((j+1:Nat):Int),wo,?_⟩;conv=>whnf
  intro ρ3 w6 r3;exact⟨(j+1,((p0,p4),(p1,p5),(p2,p3,p6,p7)),w6,_),⟨PQ,hw.tr r3.cS,hs.rel r3 (cG w)⟩,Sub.gn [] r3,by dsimp only;omega⟩
 have PQ:j=f.bars.length:=by have:=aG PQ;omega
 rw[PQ]at hs;conv=>whnf
 intro ρe we re;refine⟨_,rfl,hw.tr re.cS,?_⟩;unfold aBp;rw[hA0,hB0,hE0];exact hs.out re (cG w)
end Go.Ex
