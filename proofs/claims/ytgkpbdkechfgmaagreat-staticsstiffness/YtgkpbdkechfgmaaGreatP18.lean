/- Texts X218 to X107: lemmas, each with its conditions. -/
import Derived.Test.YtgkpbdkechfgmaaGreatP17
namespace Go.Ex
open Go Go.Sx Go.Proofs
variable{args:(Nat->Sx.eE)->Array Value}{Φ:(Nat->Sx.eE)->World->Value->World->Prop}{M:List (List Rat)}{l:List Nat}{x:List Rat}{cs:List Value}{g h i n:Nat}{S T X:Nat->Prop}{row:Option Nat}{q:Rat}{K:SV->Hp->Iv->World->Prop}{v vb vm vn vs vx:Value}{w:World}{f:eY}
section
variable{S:Nat->Prop}{H:Hp}{nx n:Nat}{iv iv':Iv}{B:Nat}{w w' w2:World}{O:Nat->Sx.eE}{rv:List Value}{M:List (List Rat)}
theorem mH.nil:mH w S [] n []:=⟨rfl,fun _ _ _ h=>(by cases h),fun _ _ _ _ _ h=>by cases h⟩
theorem Lq.push(r:Rel H nx iv B w O w')(hx:∀g,v.ownBlock=some g->w'.heap.size<=g)(hg:Lq (Cv FF B iv) rv g):Lq (Cv FF B ((w'.heap.size,w2.heap.size)::iv)) (rv++[v]) g:=
 ⟨hg.1.mono fun p hp=>aC _ hp,fun u hu e=>by
  rcases List.mem_append.1 hu with hu|hu
  ·exact hg.2 u hu e
  ·simp at hu;subst hu;have:=hx g e;have:=Rel.old r (dN B) g hg.1
   omega⟩
theorem Lq.mono(hg:Lq (Cv FF B iv) rv g)(hm:∀p,p∈iv->p∈iv'):Lq (Cv FF B iv') rv g:=⟨hg.1.mono hm,hg.2⟩
theorem Lq.fresh(h:cT w2 (Nf w' w2) v q)(r:Rel H nx iv B w O w')(Oe:∀v∈rv,∀g,v.ownBlock=some g->Cv FF B iv g):cT w2 (Lq (Cv FF B ((w'.heap.size,w2.heap.size)::iv)) rv) v q:=
 cT.cL h fun g hg=>hg.elim (fun h=>h.elim) fun h=>⟨.inr ⟨by have:=r.cI;omega,_,_,aI,h.1,h.2⟩,fun u hu e=>by have:=Rel.old r (dN B) g (Oe u hu g e);omega⟩
theorem mH.aBK{a a1 a2:Option Addr}{c j n1 c1 n2 c2:Nat}{b b2:Bool}(h:mH w (Cv FF B iv) rv n M)(Oe:∀v∈rv,∀g,v.ownBlock=some g->Cv FF B iv g)(r:Rel H nx iv B w O w')(hv:rv[i]? =some (.slice a n c))(hx:M[i]? =some x)(hj:j<n)(hf:cT w (Lq (Cv FF B iv) rv) (.agg #[.bool b,.slice a1 n1 c1,.bool b2,.slice a2 n2 c2]) q):
  ∃g,a=some ⟨g,0,none⟩∧((⟨g,0,none⟩:Addr).add ((j:Int).toNat*4)).spot=none∧
   (∀k,k<4->(w'.cell? (((⟨g,0,none⟩:Addr).add ((j:Int).toNat*4)).add k)).isSome=true∧w'.frozen? (((⟨g,0,none⟩:Addr).add ((j:Int).toNat*4)).add k)=false)∧
   (∀id b,dM H id=some b->(O id).nil=false->(O id).g≠((⟨g,0,none⟩:Addr).add ((j:Int).toNat*4)).block)∧
   ∀w2,w2=setCells w' ((⟨g,0,none⟩:Addr).add ((j:Int).toNat*4)) [.bool b,.slice a1 n1 c1,.bool b2,.slice a2 n2 c2]->mH w2 (Cv FF B iv) rv n (M.set i (x.set j q))∧dg B w' w2∧∀z,Lq (Cv FF B iv) rv z->w2.heap[z]? =w'.heap[z]? :=by
 have hr:=h.rel Oe r;obtain⟨g,rfl,h1,h2,h3,h5⟩:=(hr.row i _ x hv hx).store (j:=j) hj (hf.cJ fun z hz=>Rel.same r (dN B) hz.1) (fun z e hz=>hz.2 _ (aD hv) e) (fun z hz=>Rel.old r (dN B) z hz.1);have hgc:=Oe _ (aD hv) g rfl;refine⟨g,rfl,h1,h3,fun id b hb hn=>by rw[h2];exact Rel.not r (dN B) hgc id b hb hn,fun w2 PI=>?_⟩;obtain⟨k1,k2,k3⟩:=h5 w2 PI
 exact⟨hr.put hv k2 (Rel.old r (dN B)) (fun z hz=>hz) k1,dg.grown k2 (fun z e=>by injection e with e;subst e;exact hgc.elim (fun h=>h.elim) fun h=>h.1) r.cI,
  fun z hz=>k2.block z (Rel.old r (dN B) z hz.1) fun e=>hz.2 _ (aD hv) e.symm⟩
theorem mH.rat(h:mH w (Cv FF B iv) rv n M)(Oe:∀v∈rv,∀g,v.ownBlock=some g->Cv FF B iv g)(hv:rv[i]? =some v)(hx:M[i]? =some x):cR w (Cv FF B iv) v x:=
 ((h.row i v x hv hx).read.cL (fun g hg=>Oe v (aD hv) g hg) (fun g hg=>hg.1)).c
end
theorem Iq{α:Type}{l:List α}{g:α->List Rat}{a:α}(h:l[i]? =some a):(l.take i).map g++[g a]=(l.take (i+1)).map g:=by
 rw[List.take_add_one,h,List.map_append];rfl
theorem aBL{g:Nat->Rat}{a:Nat}(h:l[i]? =some a):(l.take i).map g++[g a]=(l.take (i+1)).map g:=by
 rw[List.take_add_one,h,List.map_append];rfl
set_option maxHeartbeats 1000000 in
theorem xm(hS:Old S w)(hf:dX w S vn vb vs f)(Om:eP f=0)(Ph:qc f)(hx:dB w S vx x)(Pr:x.length=f.cols)(RH:∀q∈x,rl q<=3):
  eA PG N.qh #[.agg #[vn,vb,vs],vx] w (eL w fun v' w2=>cW w2 (Nf w w2) v' (fU f x)):=by
 have hw:=bR w;obtain⟨an,cn,ab,cb,aq,cq,rfl,rfl,rfl,RN,RJ,SF⟩:=hf.shape;obtain⟨ax,cx,rfl,TU,Tj⟩:=dL.shape hx;have Ou:=Ph.toFrS;have hv:=Ou.toFrV;have hn4:=Ou.n4;have SD:=wV (f:=f);refine uu (by simp) ?_;conv=>whnf
 refine cH (cE hw (fun _ w' v w2=>dF w2 (Nf w' w2) v (eI f)) (fun O w' r=>Dy (oS hS r) (hf.cJ (kS hw r hS)) Om) ?_);rintro O Pa v1 PJ Od r he hw h_ hn;have hL:=dF.dK (S:=FF) hn r.cI (mN h_);clear r;clear hn;obtain⟨al,cl,rfl,-,-⟩:=dF.shape hL;have Xf:∀(i:Nat) r,(eI f)[i]? =some r->r<3*f.nodes.length:=fun i r h=>by
  have:=(wT (f:=f) (aE.1 h).1).1;unfold fM at this
  rwa [getD_some h]at this
 obtain⟨L,hL0⟩:∃L,eI f=L:=⟨_,rfl⟩
 rw[hL0]at hL SD Xf ⊢;conv=>whnf
 refine⟨Nat×List Value×World×Iv,fun z=>⟨[(1,sV ax x.length cx),(2,pP 0 0),(5,sV al L.length cl),(6,.o (.w 1 z.2.1.length)),(7,iN z.1)],[(1,.vec T.fz 1 z.2.1),(0,.box T.Frame [.v (.slice an f.nodes.length cn),.v (.slice ab f.bars.length cb),.v (.slice aq f.cV.length cq)])],2,z.2.2.2,z.2.2.1⟩,fun z=>L.length-z.1,
  fun z=>z.1<=L.length∧dg w.heap.size w z.2.2.1∧dF z.2.2.1 (Cf w z.2.2.2) (.slice al L.length cl) L∧dS z.2.2.1 (Cf w z.2.2.2) z.2.1 ((L.take z.1).map fun r=>L.map fun s=>Ar f x r s),?_,?_⟩
 ·intro O w' r;exact⟨(0,[],w',_),⟨aO _,hw.tr r.cS,dF.rel hL r (cG w),by simp[dS]⟩,Sub.nil 6 T.fz 1 rfl (by simp[jw,SV.sc,At.sc,fQ]) r fun ρ1 r1=>Sub.gn [] r1⟩
 clear hw hL;rintro⟨i,rv,w1,iv⟩ ⟨hi,hw,hL,hK⟩;dsimp only at hi hw hL hK ⊢;have Ot:rv.length=i:=by rw[hK.1,aL,aZ];omega
 conv=>whnf
 refine dG.mk ?_ ?_<;>intro OW
 ·have OW:i<L.length:=by simpa using OW
  obtain⟨r0,hr0⟩:∃r,L[i]? =some r:=⟨_,aB OW⟩
  have Xz:=Xf i r0 hr0;conv=>whnf
  refine⟨Nat×List (List Value)×World×Iv,fun z=>⟨[(1,sV ax x.length cx),(2,pP 0 0),(5,sV al L.length cl),(6,.o (.w 1 rv.length)),(7,iN i),(8,.o (.w 2 z.2.1.length)),(9,iN z.1)],[(2,.vec T.Rat 4 z.2.1.flatten),(1,.vec T.fz 1 rv),(0,.box T.Frame [.v (.slice an f.nodes.length cn),.v (.slice ab f.bars.length cb),.v (.slice aq f.cV.length cq)])],3,z.2.2.2,z.2.2.1⟩,fun z=>L.length-z.1,
   fun z=>z.1<=L.length∧dg w.heap.size w z.2.2.1∧dF z.2.2.1 (Cf w z.2.2.2) (.slice al L.length cl) L∧dS z.2.2.1 (Cf w z.2.2.2) rv ((L.take i).map fun r=>L.map fun s=>Ar f x r s)∧dR z.2.2.1 (Cf w z.2.2.2) z.2.1 ((L.take z.1).map fun s=>Ar f x r0 s),?_,?_⟩
  ·intro O w' r;exact⟨(0,[],w',_),⟨aO _,hw.tr r.cS,dF.rel hL r (cG w),hK.rel r (cG w),dR.nil⟩,Sub.nil 8 T.Rat 4 rfl (by simp[jw,SV.sc,At.sc,fQ]) r fun ρ1 r1=>Sub.gn [] r1⟩
  clear hw hL hK;rintro⟨k,css,w3,iv⟩ ⟨hk,hw,hL,hK,hG⟩;dsimp only at hk hw hL hK hG ⊢;have Ok:=eD hG.four;have RT:css.length=k:=by rw[hG.len,aL,aZ];omega
  conv=>whnf
  refine dG.mk ?_ ?_<;>intro OY
  ·have OY:k<L.length:=by simpa using OY
   obtain⟨s0,Ve⟩:∃r,L[k]? =some r:=⟨_,aB OY⟩
   have TJ:=Xf k s0 Ve;have hunit:=aAR (x:=x) hv Xz TJ;have hM:mH w3 (Cf w iv) [] (3*f.nodes.length) []:=mH.nil;have Oe:∀v∈([]:List Value),∀g,v.ownBlock=some g->Cf w iv g:=fun v hv=>by cases hv
   replace hL:=dF.cL (S':=Lq (Cf w iv) []) hL fun g hg=>⟨hg,fun v hv=>by cases hv⟩
   replace hK:=dS.cL (S':=Lq (Cf w iv) []) hK fun g hg=>⟨hg,fun v hv=>by cases hv⟩
   replace hG:=dR.cL (S':=Lq (Cf w iv) []) hG fun g hg=>⟨hg,fun v hv=>by cases hv⟩
   conv=>whnf
   refine cO hτ dZ [.x 0,.x 1,.x 2,.x 3,.x 5,.x 6,.x 7,.x 8,.x 4,.x 9,.x 10,.x 11] (by kernel_rfl) (by kernel_rfl) ?_;conv=>whnf
   refine⟨((3*f.nodes.length:Nat):Int),wo,?_⟩;conv=>whnf
   refine⟨((3*f.nodes.length:Nat):Int),wo,?_⟩;conv=>whnf
   refine cP (Φ:=fun _ w' v w2=>eO w2 FF w'.heap.size [(w'.heap.size,w2.heap.size)] v (3*f.nodes.length) (List.replicate (3*f.nodes.length) 0)) (fun O w' r=>FG (3*f.nodes.length) w' (by omega) (by omega)) ?_;rintro O Pa v1 PJ r he hb hn;replace hw:=hw.tr hb;have S8:∀g,v1.ownBlock=some g->Pa.heap.size<=g:=fun g e=>(hn.new g e).elim (fun h=>h.elim) fun h=>h.1;replace hL:=dF.cL (dF.cJ (dF.cJ hL fun g hg=>Rel.same r (dN _) hg.1) fun g hg=>he.block g (Rel.old r (dN _) g hg.1)) fun g hg=>Lq.push (w2:=PJ) r S8 hg;replace hK:=dS.cL (dS.cJ (dS.cJ hK fun g hg=>Rel.same r (dN _) hg.1) fun g hg=>he.block g (Rel.old r (dN _) g hg.1)) fun g hg=>Lq.push (w2:=PJ) r S8 hg;replace hG:=dR.cL (dR.cJ (dR.cJ hG fun g hg=>Rel.same r (dN _) hg.1) fun g hg=>he.block g (Rel.old r (dN _) g hg.1)) fun g hg=>Lq.push (w2:=PJ) r S8 hg;obtain⟨WG,Tx⟩:=(hM.rel Oe r).push r he Oe hn;clear hM Oe r he hb hn S8;generalize (Pa.heap.size,PJ.heap.size)::iv=Od at*
   have hM:=WG;have Oe:=Tx;clear WG Tx;conv=>whnf
   refine cP (Φ:=fun _ w' v w2=>eO w2 FF w'.heap.size [(w'.heap.size,w2.heap.size)] v (3*f.nodes.length) (List.replicate (3*f.nodes.length) 0)) (fun O w' r=>FG (3*f.nodes.length) w' (by omega) (by omega)) ?_;rintro O QR v2 PY r he hb hn;replace hw:=hw.tr hb;have S8:∀g,v2.ownBlock=some g->QR.heap.size<=g:=fun g e=>(hn.new g e).elim (fun h=>h.elim) fun h=>h.1;replace hL:=dF.cL (dF.cJ (dF.cJ hL fun g hg=>Rel.same r (dN _) hg.1) fun g hg=>he.block g (Rel.old r (dN _) g hg.1)) fun g hg=>Lq.push (w2:=PY) r S8 hg;replace hK:=dS.cL (dS.cJ (dS.cJ hK fun g hg=>Rel.same r (dN _) hg.1) fun g hg=>he.block g (Rel.old r (dN _) g hg.1)) fun g hg=>Lq.push (w2:=PY) r S8 hg;replace hG:=dR.cL (dR.cJ (dR.cJ hG fun g hg=>Rel.same r (dN _) hg.1) fun g hg=>he.block g (Rel.old r (dN _) g hg.1)) fun g hg=>Lq.push (w2:=PY) r S8 hg;obtain⟨WG,Tx⟩:=(hM.rel Oe r).push r he Oe hn;clear hM Oe r he hb hn S8;generalize (QR.heap.size,PY.heap.size)::Od=Oa at*
   have hM:=WG;have Oe:=Tx;clear WG Tx;conv=>whnf
   obtain⟨au,cu,rfl,-⟩:=(hM.row 0 v1 _ rfl rfl).form;obtain⟨gu,rfl⟩:=Gt (hM.row 0 _ _ rfl rfl) Xz;obtain⟨av,cv,rfl,-⟩:=(hM.row 1 v2 _ rfl rfl).form;obtain⟨gv,rfl⟩:=Gt (hM.row 1 _ _ rfl rfl) Xz;obtain⟨RV,Q3⟩:∃RV,(([]++[(Value.slice (some ⟨gu,0,none⟩) (3*f.nodes.length) cu)])++[(Value.slice (some ⟨gv,0,none⟩) (3*f.nodes.length) cv)])=RV:=⟨_,rfl⟩
   have hR0:RV[0]? =some (.slice (some ⟨gu,0,none⟩) (3*f.nodes.length) cu):=by rw[<-Q3];rfl
   have VH:RV[1]? =some (.slice (some ⟨gv,0,none⟩) (3*f.nodes.length) cv):=by rw[<-Q3];rfl
   rw[Q3]at hM Oe hL hK hG;obtain⟨adr,har,hSr,Wo⟩:=dF.at hL hr0;obtain⟨ads,has_,hSs,hls⟩:=dF.at hL Ve;conv=>whnf
   refine cO hτ dZ [.x 0,.x 1,.x 2,.x 3,.x 4,.x 5,.x 6,.x 7,.x 8,.x 9,.x 10,.x 11,.x 12,.x 13,.x 14,.x 15] (by kernel_rfl) (by kernel_rfl) ?_;conv=>whnf
   refine⟨adr,har,by omega,?_⟩;conv=>whnf
   refine⟨.int .i64 (r0:Int),fun O w' r=>?_,?_⟩
   ·rw[aF,cM (w:=PY) (w2:=w') (by rw[dD];exact Rel.same r (dN _) hSr.1)];exact Wo
   conv=>whnf
   refine⟨ads,has_,by omega,?_⟩;conv=>whnf
   refine⟨.int .i64 (s0:Int),fun O w' r=>?_,?_⟩
   ·rw[aF,cM (w:=PY) (w2:=w') (by rw[dD];exact Rel.same r (dN _) hSs.1)];exact hls
   conv=>whnf
   clear hSr Wo hSs hls;refine cP (Φ:=fun _ w' v w2=>cT w2 (Nf w' w2) v ((1:Int):Rat)) (fun O w' r=>ic 1 w' (by decide)) ?_;rintro O Pg v3 Pc r he hb hn;replace hw:=hw.tr hb;replace hL:=dF.cL (dF.cJ (dF.cJ hL fun g hg=>Rel.same r (dN _) hg.1) fun g hg=>he.block g (Rel.old r (dN _) g hg.1)) fun g hg=>Lq.mono (iv':=(Pg.heap.size,Pc.heap.size)::Oa) hg fun p hp=>aC _ hp;replace hK:=dS.cL (dS.cJ (dS.cJ hK fun g hg=>Rel.same r (dN _) hg.1) fun g hg=>he.block g (Rel.old r (dN _) g hg.1)) fun g hg=>Lq.mono (iv':=(Pg.heap.size,Pc.heap.size)::Oa) hg fun p hp=>aC _ hp;replace hG:=dR.cL (dR.cJ (dR.cJ hG fun g hg=>Rel.same r (dN _) hg.1) fun g hg=>he.block g (Rel.old r (dN _) g hg.1)) fun g hg=>Lq.mono (iv':=(Pg.heap.size,Pc.heap.size)::Oa) hg fun p hp=>aC _ hp;have R4:=Lq.fresh hn r Oe;replace hM:=hM.cK (iv':=(Pg.heap.size,Pc.heap.size)::Oa) Oe r he fun p hp=>aC _ hp;replace Oe:∀v∈RV,∀g,v.ownBlock=some g->Cf w ((Pg.heap.size,Pc.heap.size)::Oa) g:=fun v hv g e=>(Oe v hv g e).mono fun p hp=>aC _ hp;clear r he hb hn;generalize (Pg.heap.size,Pc.heap.size)::Oa=Oj at*
   obtain⟨A0,A1,A2,A3,A4,A5,A6,A7,rfl⟩:=R4.shape;conv=>whnf
   refine cP (Φ:=fun _ w' v w2=>cT w2 (Nf w' w2) v ((1:Int):Rat)) (fun O w' r=>ic 1 w' (by decide)) ?_;rintro O Qh v4 Q6 r he hb hn;replace hw:=hw.tr hb;replace hL:=dF.cL (dF.cJ (dF.cJ hL fun g hg=>Rel.same r (dN _) hg.1) fun g hg=>he.block g (Rel.old r (dN _) g hg.1)) fun g hg=>Lq.mono (iv':=(Qh.heap.size,Q6.heap.size)::Oj) hg fun p hp=>aC _ hp;replace hK:=dS.cL (dS.cJ (dS.cJ hK fun g hg=>Rel.same r (dN _) hg.1) fun g hg=>he.block g (Rel.old r (dN _) g hg.1)) fun g hg=>Lq.mono (iv':=(Qh.heap.size,Q6.heap.size)::Oj) hg fun p hp=>aC _ hp;replace hG:=dR.cL (dR.cJ (dR.cJ hG fun g hg=>Rel.same r (dN _) hg.1) fun g hg=>he.block g (Rel.old r (dN _) g hg.1)) fun g hg=>Lq.mono (iv':=(Qh.heap.size,Q6.heap.size)::Oj) hg fun p hp=>aC _ hp;replace R4:=cT.cL (cT.cJ (cT.cJ R4 fun g hg=>Rel.same r (dN _) hg.1) fun g hg=>he.block g (Rel.old r (dN _) g hg.1)) fun g hg=>Lq.mono (iv':=(Qh.heap.size,Q6.heap.size)::Oj) hg fun p hp=>aC _ hp;have PF:=Lq.fresh hn r Oe;replace hM:=hM.cK (iv':=(Qh.heap.size,Q6.heap.size)::Oj) Oe r he fun p hp=>aC _ hp;replace Oe:∀v∈RV,∀g,v.ownBlock=some g->Cf w ((Qh.heap.size,Q6.heap.size)::Oj) g:=fun v hv g e=>(Oe v hv g e).mono fun p hp=>aC _ hp;clear r he hb hn;generalize (Qh.heap.size,Q6.heap.size)::Oj=Oz at*
   obtain⟨C0,C1,C2,C3,C4,C5,C6,C7,rfl⟩:=PF.shape;conv=>whnf
   refine⟨⟨gu,0,none⟩,rfl,by omega,?_⟩;conv=>whnf
   intro O w' r;obtain⟨g,hg,h1,h2,h3,h5⟩:=hM.aBK Oe r (j:=r0) hR0 rfl Xz R4;injection hg with hg;injection hg with hg;subst hg;refine⟨h1,h2,h3,fun w5 Qd=>?_⟩;obtain⟨k1,k2,k3⟩:=h5 w5 Qd;replace hw:=(hw.tr r.cS).tr k2;replace hL:=dF.cJ (dF.cJ hL fun g hg=>Rel.same r (dN _) hg.1) k3;replace hK:=dS.cJ (dS.cJ hK fun g hg=>Rel.same r (dN _) hg.1) k3;replace hG:=dR.cJ (dR.cJ hG fun g hg=>Rel.same r (dN _) hg.1) k3;replace PF:=cT.cJ (cT.cJ PF fun g hg=>Rel.same r (dN _) hg.1) k3;clear hM h1 h2 h3 h5 Qd k2 k3 r R4;have hM:=k1;clear k1;rename_i w80 _;conv=>whnf
   refine⟨⟨gv,0,none⟩,rfl,by omega,?_⟩;conv=>whnf
   intro O w' r;obtain⟨g,hg,h1,h2,h3,h5⟩:=hM.aBK Oe r (j:=s0) VH rfl TJ PF;injection hg with hg;injection hg with hg;subst hg;refine⟨h1,h2,h3,fun w5 Qd=>?_⟩;obtain⟨k1,k2,k3⟩:=h5 w5 Qd;replace hw:=(hw.tr r.cS).tr k2;replace hL:=dF.cJ (dF.cJ hL fun g hg=>Rel.same r (dN _) hg.1) k3;replace hK:=dS.cJ (dS.cJ hK fun g hg=>Rel.same r (dN _) hg.1) k3;replace hG:=dR.cJ (dR.cJ hG fun g hg=>Rel.same r (dN _) hg.1) k3;clear hM h1 h2 h3 h5 Qd k2 k3 r PF;have hM:=k1;clear k1;rename_i w81 _;conv=>whnf
   replace hL:=dF.cL hL fun g hg=>hg.1;replace hK:=dS.cL hK fun g hg=>hg.1;replace hG:=dR.cL hG fun g hg=>hg.1;refine cH (cE hw (fun _ w' v w2=>cT w2 (Nf w' w2) v (Ar f x r0 s0)) (fun O w' r=>hunit▸aCK (u:=tn (3*f.nodes.length) r0) (v:=tn (3*f.nodes.length) s0) (S:=fun g=>S g∨Cf w Oz g) (fun g hg=>hg.elim (oS hS r g) (Rel.old r (cG w) g)) (dX.cL (hf.cJ (kS hw r hS)) fun g hg=>.inl hg) Om Ph (dB.cL (dB.cJ hx (kS hw r hS)) fun g hg=>.inl hg) Pr RH (dB.cL (cR.l ((hM.rel Oe r).rat Oe hR0 rfl) fun q hq=>by have:=Aw _ _ q hq;omega) fun g hg=>.inr hg) (IE _ _) (Aw _ _) (dB.cL (cR.l ((hM.rel Oe r).rat Oe VH rfl) fun q hq=>by have:=Aw _ _ q hq;omega) fun g hg=>.inr hg) (IE _ _) (Aw _ _)) ?_);rintro O _ _ _ RO r he hw h_ hn;replace hL:=dF.cK hL r (cG w) he (mC h_);replace hK:=hK.cK r (cG w) he (mC h_);replace hG:=hG.cK r (cG w) he (mC h_);have hd:=hn.dK (S:=FF) r.cI (mN h_);clear r he hn;obtain⟨F0,F1,F2,F3,F4,F5,F6,F7,rfl⟩:=hd.shape;conv=>whnf
   have RE:=hG.push (cs:=[.bool F0,.slice F1 F2 F3,.bool F4,.slice F5 F6 F7]) (q:=Ar f x r0 s0) ⟨_,_,_,_,_,_,_,_,rfl,hd⟩ rfl;rw[aBL (g:=fun s=>Ar f x r0 s) Ve]at RE;have PR:css.flatten++([.bool F0,.slice F1 F2 F3,.bool F4,.slice F5 F6 F7]:List Value)=(css++([[.bool F0,.slice F1 F2 F3,.bool F4,.slice F5 F6 F7]]:List (List Value))).flatten:=by simp
   refine .inl ?_;conv=>whnf
   refine⟨by omega,by omega,by unfold maxLen;omega,?_⟩;conv=>whnf
   refine⟨((k+1:Nat):Int),wo,?_⟩;conv=>whnf
   intro ρ3 w6 r3;exact⟨(k+1,css++[[.bool F0,.slice F1 F2 F3,.bool F4,.slice F5 F6 F7]],w6,_),⟨OY,hw.tr r3.cS,dF.rel hL r3 (cG w),hK.rel r3 (cG w),RE.rel r3 (cG w)⟩,Sub.gn [(2,4)] r3 ⟨by dsimp only;rw[<-PR];rfl,rfl,rfl,trivial⟩ ⟨rfl,rfl,rfl,rfl,rfl,by dsimp only;rw[List.length_append,List.length_singleton];rfl,rfl,trivial⟩,by dsimp only;omega⟩
  have OY:k=L.length:=aQ hk (by simpa using OY);rw[OY,bH]at hG;conv=>whnf
  refine me hτ (id3:=3) (id2:=2) (tH:=[(1,.vec T.fz 1 rv),(0,.box T.Frame [.v (.slice an f.nodes.length cn),.v (.slice ab f.bars.length cb),.v (.slice aq f.cV.length cq)])]) rfl rfl rfl rfl (by simp) (by first|exact⟨rfl,trivial⟩|exact⟨rfl,rfl,trivial⟩) rfl rfl (fun O w' r r2 TH=>?_);have OX:=dR.list ((hG.rel r (cG w)).cL fun g hg=>Cv.mono (iv':=((O 3).g,(O 3).g+1)::jy (O 2) iv) hg fun p hp=>aC _ (kp p hp)) ((r.KQ (id:=2) (sz:=4) (m:=css.length) rfl Ok (by unfold maxLen;omega) (by decide) hG.one).cL fun g hg=>Cv.mono hg fun p hp=>aC _ hp);have PB:((At.w 2 css.length).den O).oneCell'=true:=At.Lk;have Rt:=r.low 3 _ rfl (r.fits (id:=3) rfl).1;have hC3:Cf w (((O 3).g,(O 3).g+1)::jy (O 2) iv) (O 3).g:=.inr ⟨Rt.1,_,_,aI,Nat.le_refl _,bU _⟩;have QG:∀p,p∈iv->p∈((O 3).g,(O 3).g+1)::jy (O 2) iv:=fun p hp=>aC _ (kp p hp);have PI:=hw.tr r.cS;have hK1:=(hK.rel r (cG w)).cL fun g hg=>Cv.mono hg QG;have hL1:=dF.cL (dF.rel hL r (cG w)) fun g hg=>Cv.mono hg QG;clear r2 Rt;generalize (At.w 2 css.length).den O=ur at*
  generalize (O 3).g=gy at*
  generalize (gy,gy+1)::jy (O 2) iv=Oa at*
  conv=>whnf
  refine⟨[ur],rfl,by simpa using PB,fun ρ2 w2 r2 _=>⟨_,rfl,fun j u hu=>?_⟩,?_⟩
  ·have h5:=Rel.same r2 (dN _) hC3;rw[dP,cell_of (h5.trans TH)];rcases j with _|j
   ·exact hu
   ·cases hu
  conv=>whnf
  refine⟨by simp,by omega,by unfold maxLen;omega,?_⟩;conv=>whnf
  have RM:=hK1.push PB OX;rw[Iq (g:=fun r=>L.map fun s=>Ar f x r s) hr0]at RM;refine⟨((i+1:Nat):Int),wo,?_⟩;conv=>whnf
  intro ρ3 w6 r3;exact⟨(i+1,rv++[ur],w6,_),⟨OW,PI.tr r3.cS,dF.rel hL1 r3 (cG w),RM.rel r3 (cG w)⟩,Sub.gn [(1,4)] r3 (hE:=⟨rfl,rfl,rfl,by dsimp only;rw[List.length_append,List.length_singleton];rfl,rfl,trivial⟩),by dsimp only;omega⟩
 have OW:i=L.length:=aQ hi (by simpa using OW);rw[OW,bH]at hK;unfold fU;rw[hL0];conv=>whnf
 intro ρe we re;refine⟨_,rfl,hw.tr re.cS,rv,?_,hK.1,fun i u x k1 k2=>cR.out (hK.2.2 i u x k1 k2) re (cG w)⟩;have h5:=re.gz (id:=1) (sz:=1) (m:=rv.length) rfl (by simp) (by unfold maxLen;omega) (by decide) hK.2.1;rw[show (L.map fun r=>L.map fun s=>Ar f x r s).length=rv.length from hK.1.symm];exact h5.cL fun g hg=>.inr hg
theorem NR{α:Type}{rv:List α}{e v:α}(h:rv.length=i)(hi:i<n):(rv++List.replicate (n-i) e).take i++[v]++(rv++List.replicate (n-i) e).drop (i+1)=(rv++[v])++List.replicate (n-(i+1)) e:=by
 subst h;rw[List.take_left' rfl,show n-rv.length=(n-(rv.length+1))+1 by omega,List.replicate_succ,List.drop_append];simp
theorem aBM(hn:(eI f).length=n):∀z∈placeF f,-1<=z∧z<(n:Int):=fun z hz=>by
 obtain⟨r,hr,rfl⟩:=aT.1 hz
 cases h:iC f r with
 |true=>rw[if_pos rfl];omega
 |false=>
  have:=(As (List.mem_range.1 hr) h).1;rw[aK (by decide)];omega
section
variable{H:Hp}{nx n m:Nat}{iv:Iv}{B:Nat}{w w' w2:World}{O:Nat->Sx.eE}{rv:List Value}{M:List (List Rat)}{pl:List Int}
theorem Lq.kept(r:Rel H nx iv B w O w')(Oi:w'.grownBy w2 row)(hx:∀x,row=some x->∃v∈rv,v.ownBlock=some x)(hg:Lq (Cv FF B iv) rv g):w2.heap[g]? =w.heap[g]? :=
 (Oi.block g (Rel.old r (dN B) g hg.1) fun e=>let⟨v,hv,e2⟩:=hx g e.symm;hg.2 v hv e2).trans (Rel.same r (dN B) hg.1)
theorem jG(hX:∀x,X x->Cv FF B iv x)
  (h:∀O w',Rel H nx iv B w O w'->eA PG g (args O) w' (fun e w2=>∃v row,e= .returned v∧w'.grownBy w2 row∧(∀x,row=some x->X x)∧Φ O w' v w2))
  (hK:∀O w' v w2 row,Rel H nx iv B w O w'->w'.grownBy w2 row->(∀x,row=some x->X x)->dg B w w2->Φ O w' v w2->K (.o (.v v)) H ((w'.heap.size,w2.heap.size)::iv) w2):ER PG B g args H nx iv w K:=
 ⟨fun O w' r=>(h O w' r).mono fun e w2 ⟨v,row,h1,h2,h3,h4⟩=>⟨v,H,(w'.heap.size,w2.heap.size)::iv,h1,r.pE (fun x hx=>Rel.not r (dN _) (hX x (h3 x hx))) h2,
  hK O w' v w2 row r h2 h3 (r.cS.tr (dg.grown h2 (fun x hx=>(hX x (h3 x hx)).elim (fun h=>h.elim) fun h=>h.1) r.cI)) h4⟩⟩
theorem DO(r:Rel H nx iv B w O w'){id t sz k:Nat}(h:dM H id=some (.arr t cs))(hm:cs.length=k*sz)(SP:k<=maxLen)(h1:∀u∈cs,u.oneCell'=true)(hT:T (O id).g):
  jY w' T sz (.slice (some ⟨(O id).g,0,none⟩) k k) cs k:=by
 refine⟨SP,hm,h1,_,_,rfl,Nat.le_refl _,fun j u hu=>⟨_,rfl,hT,?_⟩⟩;rw[dP,cell_of (r.arr id t cs h),aW];exact hu
theorem kf{k:Nat}{u:Value}(r:Rel H nx iv B w O w')(h1:dM H 1=some (.arr T.int (zv pl)))(h2:dM H 2=some (.box T.Lint [.s 1 0 m m]))(h3:dM H 3=some (.arr T.fz rv))(h4:dM H 4=some (.box T.Ef [.s 3 0 n n]))
  (hM:mH w (Cv FF B iv) rv n M) (Oe:∀v∈rv,∀g,v.ownBlock=some g->Cv FF B iv g) (PB:∀u∈rv,u.oneCell'=true) (Xq:pl.length=m) (Ot:rv.length=n) (hi:i<m) (hk:k<m) (hm:m<=1000) (hn:n<=1000) (TV:∀z∈pl,-1<=z∧z<n) (QO:Ht M h) (hh:h<=80000) (hu:cT w (Cv FF B iv) u q) (hq:rl q<=80000):
  eA PG N.fH #[.int .i64 i,.int .i64 k,u,.pointer (some ⟨(O 2).g,0,none⟩),.pointer (some ⟨(O 4).g,0,none⟩)] w' (fun e w2=>∃v row,e= .returned v∧w'.grownBy w2 row∧(∀x,row=some x->∃v∈rv,v.ownBlock=some x)∧mH w2 (Cv FF B ((w'.heap.size,w2.heap.size)::iv)) rv n (fX pl M i k q)):=by
 have n1:=r.nn 1 _ h1 (by intros;simp) (by simp);have n2:=r.nn 2 _ h2 (by intros;simp) (by simp);have n3:=r.nn 3 _ h3 (by intros;simp) (by simp);have n4:=r.nn 4 _ h4 (by intros;simp) (by simp);have hP:DJ w' (fun g=>g<w'.heap.size) (.slice (some ⟨(O 1).g,0,none⟩) m m) pl:=by
  have:=DO (T:=fun g=>g<w'.heap.size) (sz:=1) (k:=m) r h1 (by rw[Ge,Xq,aY]) (by unfold maxLen;omega) (fun u hu=>by obtain⟨z,-,rfl⟩:=aT.1 hu;rfl) (r.low 1 _ h1 n1).2;unfold DJ;rw[Xq];exact this
 have hO:=DO (T:=fun g=>g<w'.heap.size) (sz:=1) (k:=n) r h3 (by rw[Ot,aY]) (by unfold maxLen;omega) PB (r.low 3 _ h3 n3).2;have c2:w'.cell? ⟨(O 2).g,0,none⟩=some (.slice (some ⟨(O 1).g,0,none⟩) m m):=cell_of (r.box 2 _ _ h2);have c4:w'.cell? ⟨(O 4).g,0,none⟩=some (.slice (some ⟨(O 3).g,0,none⟩) n n):=cell_of (r.box 4 _ _ h4);refine(aBE (C:=fun g=>g<w'.heap.size) (S:=Cv FF B iv) (fun g hg=>hg) (Rel.old r (dN B)) c2 (r.low 2 _ h2 n2).2 hP Xq c4 (r.low 4 _ h4 n4).2 hO (hM.rel Oe r) Ot (by omega) (by omega) hm hn TV QO hh (cT.cJ hu fun g hg=>Rel.same r (dN B) hg) hq).mono fun e w2 ⟨v,row,e1,e2,e3,e4⟩=>⟨v,row,e1,e2,e3,e4.cL fun g hg=>?_⟩
 rcases hg with hg|hg
 ·exact hg.mono fun p hp=>aC _ hp
 ·exact .inr ⟨by have:=r.cI;omega,_,_,aI,hg.1,hg.2⟩
end
set_option maxHeartbeats 1000000 in
theorem Dz(hS:Old S w)(hf:dX w S vn vb vs f)(Om:eP f=0)(Ph:qc f)(hx:dB w S vx x)(Pr:x.length=f.cols)(RH:∀q∈x,rl q<=3):
  eA PG N.ni #[.agg #[vn,vb,vs],vx] w (eL w fun v' w2=>cW w2 (Nf w w2) v' (Jg f x)):=by
 have hw:=bR w;obtain⟨an,cn,ab,cb,aq,cq,rfl,rfl,rfl,RN,RJ,SF⟩:=hf.shape;obtain⟨ax,cx,rfl,TU,Tj⟩:=dL.shape hx;have Ou:=Ph.toFrS;have hv:=Ou.toFrV;have Oc:=lM Om;have hn4:=Ou.n4;have Vx:=Ou.b6;have hs12:=Ou.s12;have SD:=wV (f:=f);have Pt:f.cols=f.bars.length+f.cV.length:=rfl;refine sJ (by simp) ?_;conv=>whnf
 refine⟨((3*f.nodes.length:Nat):Int),wo,?_⟩;conv=>whnf
 obtain⟨m,hm⟩:∃m,3*f.nodes.length=m:=⟨_,rfl⟩
 rw[hm]at SD ⊢;refine⟨m,m,rfl,rfl,Nat.le_refl _,by omega,by omega,?_⟩;conv=>whnf
 refine⟨Nat×World×Iv,fun z=>⟨[(1,sV ax x.length cx),(2,pP 0 0),(5,pP 2 0),(29,sV aq f.cV.length cq),(30,iZ f.cV.length),(31,iN z.1)],[(1,.arr T.int (zv (yS f z.1))),(2,.box T.Lint [.s 1 0 m m]),(0,.box T.Frame [.v (.slice an f.nodes.length cn),.v (.slice ab f.bars.length cb),.v (.slice aq f.cV.length cq)])],3,z.2.2,z.2.1⟩,fun z=>f.cV.length-z.1,
  fun z=>z.1<=f.cV.length∧dg w.heap.size w z.2.1,?_,?_⟩
 ·intro O w' r;exact⟨(0,w',_),⟨aO _,hw.tr r.cS⟩,Sub.gn [] r ⟨by dsimp only;rw[M9,hm,zv,List.map_replicate];rfl,rfl,rfl,trivial⟩⟩
 clear hw;rintro⟨k,w1,iv⟩ ⟨hk,hw⟩;dsimp only at hk hw ⊢;conv=>whnf
 refine dG.mk ?_ ?_<;>intro OY
 ·have OY:k<f.cV.length:=by have:=aH OY;omega
  obtain⟨s,hs⟩:∃s,f.cV[k]? =some s:=⟨_,aB OY⟩
  have SY:=aD hs;obtain⟨OX,PL⟩:=hv.sup s SY;obtain⟨adb,cs,QA,hF,-,PA⟩:=hf.cV.load (by decide) hs;obtain⟨g0,g1,g2,g3,g4,g5,g6,g7,rfl,hF⟩:=hF;have hsok:=Oc.sup s SY;have Ok:rl s.2.2<=3:=Ph.fx _ (List.mem_append_right _ (aT.2 ⟨_,SY,rfl⟩));have hrr:3*s.1+s.2.1=((dw s:Nat):Int):=by unfold dw;omega
  have QI:=IG (f:=f) k;conv=>whnf
  refine⟨adb,QA,by omega,?_⟩;conv=>whnf
  refine⟨[.int .i64 s.1,.int .i64 s.2.1,.bool g0,.slice g1 g2 g3,.bool g4,.slice g5 g6 g7],rfl,rdO PA hw hS,?_⟩;conv=>whnf
  refine cH (cE hw (fun _ w' v w2=>∃d,v= .bool d∧(d=true↔s.2.2=0)) (fun O w' r=>oG (oS hS r) (hF.cJ (kS hw r hS))) ?_);rintro O _ v2 _ Oa r he hw h_ ⟨d,rfl,hd⟩;clear r
  cases d
  ·have OZ:s.2.2≠0:=fun e=>by have:=hd.2 e;cases this
   have QW:=Ma hs OZ;conv=>whnf
   refine⟨((k+1:Nat):Int),wo,?_⟩;conv=>whnf
   intro ρ3 w6 r3;exact⟨(k+1,w6,_),⟨OY,hw.tr r3.cS⟩,Sub.gn [] r3 ⟨by dsimp only;rw[QW];rfl,rfl,rfl,trivial⟩,by dsimp only;omega⟩
  have Wq:s.2.2=0:=hd.1 rfl;have QW:=aAS hs Wq;conv=>whnf
  refine⟨3*s.1,wo,?_⟩;conv=>whnf
  refine⟨((dw s:Nat):Int),by rw[hrr,wrap64]<;>omega,?_⟩;conv=>whnf
  refine⟨by omega,?_⟩;conv=>whnf
  refine⟨by rw[Ge];omega,zv ((yS f k).set (dw s) (-1)),?_,?_⟩
  ·rw[aF,aY,aW];exact KD (by omega)
  conv=>whnf
  refine⟨((k+1:Nat):Int),wo,?_⟩;conv=>whnf
  intro ρ3 w6 r3;exact⟨(k+1,w6,_),⟨OY,hw.tr r3.cS⟩,Sub.gn [] r3 ⟨by dsimp only;rw[QW];rfl,rfl,rfl,trivial⟩,by dsimp only;omega⟩
 have OY:k=f.cV.length:=by have:=aG OY;omega
 rw[OY,<-Mc];conv=>whnf
 refine⟨Nat×World×Iv,fun z=>⟨[(1,sV ax x.length cx),(2,pP 0 0),(5,pP 2 0),(8,iN (kX f z.1)),(47,.o (.s 1 0 m m)),(48,.o (.v (.int .i64 (m:Int)))),(49,iN z.1)],[(1,.arr T.int (zv (qp f z.1))),(2,.box T.Lint [.s 1 0 m m]),(0,.box T.Frame [.v (.slice an f.nodes.length cn),.v (.slice ab f.bars.length cb),.v (.slice aq f.cV.length cq)])],3,z.2.2,z.2.1⟩,fun z=>m-z.1,
  fun z=>z.1<=m∧dg w.heap.size w z.2.1,?_,?_⟩
 ·intro O w' r;exact⟨(0,w',_),⟨aO _,hw.tr r.cS⟩,Sub.gn [] r⟩
 clear hw;rintro⟨i,w1,iv⟩ ⟨hi,hw⟩;dsimp only at hi hw ⊢;conv=>whnf
 refine dG.mk ?_ ?_<;>intro OW
 ·have OW:i<m:=by have:=aH OW;omega
  have Qg:=aBq (f:=f) (i:=i) (by omega);have QI:=CK (f:=f) i;have Ox:=aAU (f:=f) i;have PO:kX f i<=60:=by
   have:kX f i<=(List.range i).length:=List.length_filter_le _ _;rw[List.length_range]at this;omega
  conv=>whnf
  refine⟨by omega,?_⟩;conv=>whnf
  obtain⟨d,hd⟩:∃d,iC f i=d:=⟨_,rfl⟩
  rw[hd]at Qg Ox
  cases d
  ·have QW:=aAV (f:=f) (i:=i) (by omega) hd;have Ox:kX f (i+1)=kX f i+1:=Ox;refine⟨.int .i64 0,by rw[aF,aY,aW];exact Lh Qg,?_⟩;conv=>whnf
   refine⟨by omega,?_⟩;conv=>whnf
   refine⟨by rw[Ge];omega,zv ((qp f i).set i (kX f i)),?_,?_⟩
   ·rw[aF,aY,aW];exact KD (by omega)
   conv=>whnf
   refine⟨((kX f i+1:Nat):Int),wo,?_⟩;conv=>whnf
   refine⟨((i+1:Nat):Int),wo,?_⟩;conv=>whnf
   intro ρ3 w6 r3;exact⟨(i+1,w6,_),⟨OW,hw.tr r3.cS⟩,Sub.gn [] r3 ⟨by dsimp only;rw[QW];rfl,rfl,rfl,trivial⟩ ⟨rfl,rfl,rfl,by dsimp only;rw[Ox];rfl,rfl,rfl,rfl,trivial⟩,by dsimp only;omega⟩
  have QW:=Md hd;have Ox:kX f (i+1)=kX f i:=Ox;refine⟨.int .i64 (-1),by rw[aF,aY,aW];exact Lh Qg,?_⟩;conv=>whnf
  refine⟨((i+1:Nat):Int),wo,?_⟩;conv=>whnf
  intro ρ3 w6 r3;exact⟨(i+1,w6,_),⟨OW,hw.tr r3.cS⟩,Sub.gn [] r3 ⟨by dsimp only;rw[QW];rfl,rfl,rfl,trivial⟩ ⟨rfl,rfl,rfl,by dsimp only;rw[Ox];rfl,rfl,rfl,rfl,trivial⟩,by dsimp only;omega⟩
 have OW:i=m:=by have:=aG OW;omega
 have hcn:kX f m=(eI f).length:=by rw[<-hm];rfl
 have hpB:qp f m=placeF f:=by rw[<-hm];exact aAT
 have TK:(placeF f).length=m:=by rw[<-hpB,CK,hm]
 obtain⟨n,hn⟩:∃n,(eI f).length=n:=⟨_,rfl⟩
 rw[hn]at SD;have TL:=aBM hn;rw[OW,hcn,hn,hpB];conv=>whnf
 refine⟨n,n,rfl,rfl,Nat.le_refl _,by omega,by omega,?_⟩;conv=>whnf
 refine⟨Nat×List Value×World×Iv,fun z=>⟨[(1,sV ax x.length cx),(2,pP 0 0),(5,pP 2 0),(8,.o (.v (.int .i64 (n:Int)))),(11,pP 4 0),(65,.o (.s 3 0 n n)),(66,.o (.v (.int .i64 (n:Int)))),(67,iN z.1)],[(3,.arr T.fz (z.2.1++List.replicate (n-z.1) (Value.slice none 0 0))),(4,.box T.Ef [.s 3 0 n n]),(1,.arr T.int (zv (placeF f))),(2,.box T.Lint [.s 1 0 m m]),(0,.box T.Frame [.v (.slice an f.nodes.length cn),.v (.slice ab f.bars.length cb),.v (.slice aq f.cV.length cq)])],5,z.2.2.2,z.2.2.1⟩,fun z=>n-z.1,
  fun z=>z.1<=n∧dg w.heap.size w z.2.2.1∧z.2.1.length=z.1∧mH z.2.2.1 (Cf w z.2.2.2) z.2.1 n (List.replicate z.1 (List.replicate n (0:Rat)))∧(∀v∈z.2.1,∀g,v.ownBlock=some g->Cf w z.2.2.2 g)∧(∀u∈z.2.1,u.oneCell'=true),?_,?_⟩
 ·intro O w' r;exact⟨(0,[],w',_),⟨aO _,hw.tr r.cS,rfl,mH.nil,fun v hv=>(by cases hv),fun v hv=>(by cases hv)⟩,Sub.gn [] r⟩
 clear hw hi OW;rintro⟨i,rv,w1,iv⟩ ⟨hi,hw,Ot,hM,Oe,PB⟩;dsimp only at hi hw Ot hM Oe PB ⊢;conv=>whnf
 refine dG.mk ?_ ?_<;>intro OW
 ·have OW:i<n:=by have:=aH OW;omega
  conv=>whnf
  refine cO hτ dZ [.x 0,.x 1,.x 2,.x 3,.x 4,.x 5] (by kernel_rfl) (by kernel_rfl) ?_;conv=>whnf
  refine cE hw (fun _ w' v w2=>eO w2 FF w'.heap.size [(w'.heap.size,w2.heap.size)] v n (List.replicate n 0)) (fun O w' r=>DD n w' (by omega)) ?_;rintro O _ _ _ Od r he hw h_ Wl;obtain⟨WG,Tx⟩:=(hM.rel Oe r).push r he Oe Wl;obtain⟨av,cv,rfl,-⟩:=Wl.row.form;rw[<-List.replicate_succ']at WG;clear hM Oe r;conv=>whnf
  refine⟨by omega,?_⟩;conv=>whnf
  refine⟨by rw[List.length_append,aU];omega,(rv++[.slice av n cv])++List.replicate (n-(i+1)) (Value.slice none 0 0),?_,?_⟩
  ·rw[aF,aY,aW];exact NR Ot OW
  conv=>whnf
  refine⟨((i+1:Nat):Int),wo,?_⟩;conv=>whnf
  intro ρ3 w6 r3;exact⟨(i+1,rv++[.slice av n cv],w6,_),⟨OW,hw.tr r3.cS,by dsimp only;rw[List.length_append,Ot];rfl,WG.rel Tx r3,Tx,fun u hu=>(List.mem_append.1 hu).elim (PB u) fun h=>by simp at h;subst h;rfl⟩,Sub.gn [] r3,by dsimp only;omega⟩
 have OW:i=n:=by have:=aG OW;omega
 rw[OW,bI,List.replicate_zero,List.append_nil];rw[OW]at hM Ot;clear hi OW;conv=>whnf
 have TR:mH w1 (Cf w iv) rv n (iD f x 0):=by rw[iD,hn];exact hM
 clear hM
 refine⟨Nat×World×Iv,fun z=>⟨[(1,sV ax x.length cx),(2,pP 0 0),(13,.o (.fn N.fH [2,4])),(11,pP 4 0),(78,sV ab f.bars.length cb),(79,iZ f.bars.length),(80,iN z.1)],[(3,.arr T.fz rv),(4,.box T.Ef [.s 3 0 n n]),(1,.arr T.int (zv (placeF f))),(2,.box T.Lint [.s 1 0 m m]),(0,.box T.Frame [.v (.slice an f.nodes.length cn),.v (.slice ab f.bars.length cb),.v (.slice aq f.cV.length cq)])],5,z.2.2,z.2.1⟩,fun z=>f.bars.length-z.1,
  fun z=>z.1<=f.bars.length∧dg w.heap.size w z.2.1∧mH z.2.1 (Cf w z.2.2) rv n (iD f x z.1)∧∀v∈rv,∀g,v.ownBlock=some g->Cf w z.2.2 g,?_,?_⟩
 ·intro O w' r;exact⟨(0,w',_),⟨aO _,hw.tr r.cS,TR.rel Oe r,Oe⟩,Sub.gn [] r⟩
 clear hw TR Oe;rintro⟨j,w2,iv⟩ ⟨hj,hw,hM,Oe⟩;dsimp only at hj hw hM Oe ⊢;conv=>whnf
 refine dG.mk ?_ ?_<;>intro PQ
 ·have PQ:j<f.bars.length:=by have:=aH PQ;omega
  obtain⟨b,hb⟩:∃b,f.bars[j]? =some b:=⟨_,aB PQ⟩
  have hbm:=aD hb;obtain⟨hA,hB⟩:=Oc.Hq b hbm;obtain⟨ka,pa,ea,US,-,Vh,⟨_,_⟩,⟨_,_⟩,⟨_,_⟩⟩:=Oc.node hA.1 hA.2;obtain⟨kb,pb,eb,OY,-,S8,⟨_,_⟩,⟨_,_⟩,⟨_,_⟩⟩:=Oc.node hB.1 hB.2;have hka2:ka<f.nodes.length:=by omega
  have Tu:kb<f.nodes.length:=by omega
  obtain⟨_,_,_,_,_,_,_,YN⟩:=hv.Hq b hbm;have hbne:b.2.2≠0:=fun e=>by rw[e]at YN;exact absurd YN (by decide)
  have YJ:rl b.2.2<=3:=Ph.fx _ (List.mem_append_left _ (aT.2 ⟨_,hbm,rfl⟩));have hbht:=GG Ph RH j (by omega);obtain⟨xj,hxj⟩:∃q,x[j]? =some q:=⟨_,aB (by omega)⟩
  have hxjr:=RH xj (aD hxj);obtain⟨adb,cs,QA,hF,-,PA⟩:=hf.bars.load (by decide) hb;obtain⟨g0,g1,g2,g3,g4,g5,g6,g7,rfl,hF⟩:=hF;conv=>whnf
  refine⟨adb,QA,by omega,?_⟩;conv=>whnf
  refine⟨[.int .i64 b.1,.int .i64 b.2.1,.bool g0,.slice g1 g2 g3,.bool g4,.slice g5 g6 g7],rfl,rdO PA hw hS,?_⟩;conv=>whnf
  refine cH (cP (Φ:=fun _ w' v w2=>v= .agg #[.int .i64 (pb.1-pa.1),.int .i64 (pb.2.1-pa.2.1),.int .i64 (pb.2.2-pa.2.2)]) (fun O w' r=>(uH (S:=S) (b3:=g0) (b6:=g4) (a4:=g1) (a7:=g5) (n4:=g2) (c4:=g3) (n7:=g6) (c7:=g7) (oS hS r) (hf.cJ (kS hw r hS)).nodes Oc hA hB).mono fun _ _ ⟨v2,e1,e2,e3⟩=>⟨v2,e1,e2,by rw[e3,Vh,S8]⟩) ?_);rintro O Pg v3 Pc r he Oh rfl;replace hw:=hw.tr Oh;replace hM:=hM.cK (iv':=(Pg.heap.size,Pc.heap.size)::iv) Oe r he fun x hx=>aC _ hx;replace Oe:∀v∈rv,∀g,v.ownBlock=some g->Cf w ((Pg.heap.size,Pc.heap.size)::iv) g:=fun v hv g e=>(Oe v hv g e).mono fun p hp=>aC _ hp;clear r he Oh;generalize (Pg.heap.size,Pc.heap.size)::iv=Oj at*
  conv=>whnf
  have hbD:j2 f b=[pb.1-pa.1,pb.2.1-pa.2.1,pb.2.2-pa.2.2]:=by rw[j2,Vh,S8]
  obtain⟨ds,Vk⟩:∃ds:List Value,ds=[.int .i64 (pb.1-pa.1),.int .i64 (pb.2.1-pa.2.1),.int .i64 (pb.2.2-pa.2.2)]:=⟨_,rfl⟩
  have hdat:∀k,k<3->ds[k]? =some (.int .i64 ((j2 f b).getD k 0)):=fun k hk=>by
   rw[Vk,hbD];rcases(show k=0∨k=1∨k=2 by omega)with rfl|rfl|rfl<;>rfl
  have hdl3:ds.length=3:=by rw[Vk];rfl
  refine⟨Nat×World×Iv,fun z=>⟨[(1,sV ax x.length cx),(2,pP 0 0),(13,.o (.fn N.fH [2,4])),(11,pP 4 0),(78,sV ab f.bars.length cb),(79,iZ f.bars.length),(80,iN j),(14,iN j),(15,pP 5 0),(16,pP 6 0),(88,iN z.1)],[(5,.box T.Bar [.v (.int .i64 b.1),.v (.int .i64 b.2.1),.v (.bool g0),.v (.slice g1 g2 g3),.v (.bool g4),.v (.slice g5 g6 g7)]),(6,.arr T.aAX ds),(3,.arr T.fz rv),(4,.box T.Ef [.s 3 0 n n]),(1,.arr T.int (zv (placeF f))),(2,.box T.Lint [.s 1 0 m m]),(0,.box T.Frame [.v (.slice an f.nodes.length cn),.v (.slice ab f.bars.length cb),.v (.slice aq f.cV.length cq)])],7,z.2.2,z.2.1⟩,fun z=>3-z.1,
   fun z=>z.1<=3∧dg w.heap.size w z.2.1∧mH z.2.1 (Cf w z.2.2) rv n (l6 f x j (iD f x j) z.1)∧∀v∈rv,∀g,v.ownBlock=some g->Cf w z.2.2 g,?_,?_⟩
  ·intro O w' r;exact⟨(0,w',_),⟨aO _,hw.tr r.cS,hM.rel Oe r,Oe⟩,Sub.aDg 6 (vs:=ds) (by rw[Vk];rfl) r fun r4=>Sub.gn [] r4⟩
  clear hw hM Oe;rintro⟨p,w3,iv⟩ ⟨hp,hw,hM,Oe⟩;dsimp only at hp hw hM Oe ⊢;conv=>whnf
  refine dG.mk ?_ ?_<;>intro TV
  ·have hp3:p<3:=by have:=aH TV;omega
   have hrht:=Jk (r:=p) (i:=j) hbht (by omega) (fun r c=>LR Ph RH PQ r c);conv=>whnf
   refine⟨Nat×World×Iv,fun z=>⟨[(1,sV ax x.length cx),(2,pP 0 0),(13,.o (.fn N.fH [2,4])),(11,pP 4 0),(78,sV ab f.bars.length cb),(79,iZ f.bars.length),(80,iN j),(14,iN j),(15,pP 5 0),(16,pP 6 0),(88,iN p),(17,iN p),(91,iN z.1)],[(5,.box T.Bar [.v (.int .i64 b.1),.v (.int .i64 b.2.1),.v (.bool g0),.v (.slice g1 g2 g3),.v (.bool g4),.v (.slice g5 g6 g7)]),(6,.arr T.aAX ds),(3,.arr T.fz rv),(4,.box T.Ef [.s 3 0 n n]),(1,.arr T.int (zv (placeF f))),(2,.box T.Lint [.s 1 0 m m]),(0,.box T.Frame [.v (.slice an f.nodes.length cn),.v (.slice ab f.bars.length cb),.v (.slice aq f.cV.length cq)])],7,z.2.2,z.2.1⟩,fun z=>3-z.1,
    fun z=>z.1<=3∧dg w.heap.size w z.2.1∧mH z.2.1 (Cf w z.2.2) rv n (iq f x j p (l6 f x j (iD f x j) p) z.1)∧∀v∈rv,∀g,v.ownBlock=some g->Cf w z.2.2 g,?_,?_⟩
   ·intro O w' r;exact⟨(0,w',_),⟨aO _,hw.tr r.cS,hM.rel Oe r,Oe⟩,Sub.gn [] r⟩
   clear hw hM Oe;rintro⟨c,w4,iv⟩ ⟨hc,hw,hM,Oe⟩;dsimp only at hc hw hM Oe ⊢;conv=>whnf
   refine dG.mk ?_ ?_<;>intro PO
   ·have hc3:c<3:=by have:=aH PO;omega
    have hcht:=GF (c:=c) (i:=j) (r:=p) hrht (by omega) (fun c=>LR Ph RH PQ p c);have hkr:=LR Ph RH PQ p c;obtain⟨d,hd⟩:∃d,(j2 f b).getD p 0=d:=⟨_,rfl⟩
    obtain⟨e,Wq⟩:∃d,(j2 f b).getD c 0=d:=⟨_,rfl⟩
    have hdp:=hdat p hp3;have Vf:=hdat c hc3;have hdb:=hv.dif hbm p;have heb:=hv.dif hbm c;rw[hd]at hdp hdb;rw[Wq]at Vf heb;have hde:(d*e).natAbs<=4000000000000:=by
     have a1:d.natAbs<=2000000:=by omega
     have a2:e.natAbs<=2000000:=by omega
     rw[Int.natAbs_mul];have:=Nat.mul_le_mul a1 a2;omega
    obtain⟨de,hde0⟩:∃z,d*e=z:=⟨_,rfl⟩
    rw[hde0]at hde;have hder:rl ((de:Int):Rat)<=2:=GD (by omega);have hkq:kB f x j p c=if p=c then(de:Rat) / b.2.2+xj else(de:Rat) / b.2.2:=by
     unfold kB;rw[jh hb,hd,Wq,hde0,show x.getD j 0=xj from getD_some hxj]
    conv=>whnf
    refine cO hτ dZ [.x 0,.x 1,.x 2,.x 3,.x 4,.x 5,.x 6,.x 8,.x 9,.p 11,.x 7,.x 10,.x 11,.x 12] (by kernel_rfl) (by kernel_rfl) ?_;conv=>whnf
    refine⟨by omega,?_⟩;conv=>whnf
    refine⟨.int .i64 d,by rw[aF,aY,aW];exact hdp,?_⟩;conv=>whnf
    refine⟨by omega,?_⟩;conv=>whnf
    refine⟨.int .i64 e,by rw[aF,aY,aW];exact Vf,?_⟩;conv=>whnf
    rw[hde0];refine⟨de,wo,?_⟩;conv=>whnf
    refine cP (Φ:=fun _ w' v w2=>cT w2 (Nf w' w2) v (de:Rat)) (fun O w' r=>k8 de w' (by omega) (by omega)) ?_;rintro O Qh v4 Q6 r he Oh hn;replace hw:=hw.tr Oh;replace hM:=hM.cK (iv':=(Qh.heap.size,Q6.heap.size)::iv) Oe r he fun x hx=>aC _ hx;replace Oe:∀v∈rv,∀g,v.ownBlock=some g->Cf w ((Qh.heap.size,Q6.heap.size)::iv) g:=fun v hv g e=>(Oe v hv g e).mono fun p hp=>aC _ hp;have hwd:=hn.dK (S:=FF) r.cI (iv:=(Qh.heap.size,Q6.heap.size)::iv) aI;clear r he Oh hn;generalize (Qh.heap.size,Q6.heap.size)::iv=Oz at*
    obtain⟨A0,A1,A2,A3,A4,A5,A6,A7,rfl⟩:=hwd.shape;have hqr:=pc (de:Rat) hbne;conv=>whnf
    refine cP (Φ:=fun _ w' v w2=>cT w2 (Nf w' w2) v ((de:Rat) / b.2.2)) (fun O w' r=>Jx (S:=fun g=>S g∨Cf w Oz g) (fun g hg=>hg.elim (oS hS r g) (Rel.old r (cG w) g)) (eS.cL ((hwd.rel r (cG w)).l (by omega)) fun g hg=>.inr hg) (eS.cL (hF.cJ (kS hw r hS)) fun g hg=>.inl hg) hbne) ?_;rintro O Rz v5 Rs r he Oh hn;replace hw:=hw.tr Oh;have hq:=Lq.fresh hn r Oe;replace hM:=hM.cK (iv':=(Rz.heap.size,Rs.heap.size)::Oz) Oe r he fun x hx=>aC _ hx;replace Oe:∀v∈rv,∀g,v.ownBlock=some g->Cf w ((Rz.heap.size,Rs.heap.size)::Oz) g:=fun v hv g e=>(Oe v hv g e).mono fun p hp=>aC _ hp;clear r he Oh hn hwd;generalize (Rz.heap.size,Rs.heap.size)::Oz=QT at*
    obtain⟨C0,C1,C2,C3,C4,C5,C6,C7,rfl⟩:=hq.shape;conv=>whnf
    obtain⟨adx,csx,Pz,Qc,-,PS⟩:=dL.load hx hxj;obtain⟨x0,x1,x2,x3,x4,x5,x6,x7,rfl,Qc⟩:=Qc;refine dG.mk ?_ ?_<;>intro RQ
    ·have RQ:p=c:=by have:=eq_of_beq RQ;omega
     rw[if_pos RQ]at hkq;conv=>whnf
     refine cO hτ dZ [.x 0,.x 1,.x 2,.x 3,.x 4,.x 5,.x 6] (by kernel_rfl) (by kernel_rfl) ?_;conv=>whnf
     refine⟨adx,Pz,by omega,?_⟩;conv=>whnf
     refine⟨[.bool x0,.slice x1 x2 x3,.bool x4,.slice x5 x6 x7],rfl,rdO PS hw hS,?_⟩;conv=>whnf
     refine cP (Φ:=fun _ w' v w2=>cT w2 (Nf w' w2) v (kB f x j p c)) (fun O w' r=>(G9 (S:=fun g=>S g∨Cf w QT g) (fun g hg=>hg.elim (oS hS r g) (Rel.old r (cG w) g)) (eS.cL (cT.l (cT.cJ (cT.cL hq fun g hg=>hg.1) fun g hg=>Rel.same r (cG w) hg) (by omega)) fun g hg=>.inr hg).v (eS.cL (Qc.cJ (kS hw r hS)) fun g hg=>.inl hg).v).mono fun _ _ ⟨v2,e1,e2,e3⟩=>⟨v2,e1,e2,by rw[hkq];exact e3⟩) ?_;rintro O R5 v6 RX r he Oh hn;replace hw:=hw.tr Oh;have SB:=Lq.fresh hn r Oe;replace hM:=hM.cK (iv':=(R5.heap.size,RX.heap.size)::QT) Oe r he fun x hx=>aC _ hx;replace Oe:∀v∈rv,∀g,v.ownBlock=some g->Cf w ((R5.heap.size,RX.heap.size)::QT) g:=fun v hv g e=>(Oe v hv g e).mono fun p hp=>aC _ hp;clear r he Oh hn hq;generalize (R5.heap.size,RX.heap.size)::QT=Qr at*
     obtain⟨F0,F1,F2,F3,F4,F5,F6,F7,rfl⟩:=SB.shape;conv=>whnf
     have t0:Ht (iq f x j p (l6 f x j (iD f x j) p) c) 4000:=hcht.mono (by omega);have t1:=kY (pl:=placeF f) (i:=3*ka+p) (k:=3*ka+c) t0 (by omega) hkr;have t2:=kY (pl:=placeF f) (i:=3*kb+p) (k:=3*kb+c) t1 (by omega) hkr;have Vb:rl (-(kB f x j p c))<=9:=by rw[jB];exact hkr
     have t3:=kY (pl:=placeF f) (i:=3*ka+p) (k:=3*kb+c) t2 (by omega) Vb;have hcq:iq f x j p (l6 f x j (iD f x j) p) (c+1)=fX (placeF f) (fX (placeF f) (fX (placeF f) (fX (placeF f) (iq f x j p (l6 f x j (iD f x j) p) c) (3*ka+p) (3*ka+c) (kB f x j p c)) (3*kb+p) (3*kb+c) (kB f x j p c)) (3*ka+p) (3*kb+c) (-(kB f x j p c))) (3*kb+p) (3*ka+c) (-(kB f x j p c)):=by rw[iq,jh hb,toNat_add ea,toNat_add ea,toNat_add eb,toNat_add eb]
     refine⟨3*b.1,wo,?_⟩;conv=>whnf
     refine⟨((3*ka+p:Nat):Int),by rw[show 3*b.1+(p:Int)=((3*ka+p:Nat):Int) by omega,wrap64]<;>omega,?_⟩;conv=>whnf
     refine⟨3*b.1,wo,?_⟩;conv=>whnf
     refine⟨((3*ka+c:Nat):Int),by rw[show 3*b.1+(c:Int)=((3*ka+c:Nat):Int) by omega,wrap64]<;>omega,?_⟩;conv=>whnf
     refine jG (Φ:=fun _ w' v w2=>mH w2 (Cf w ((w'.heap.size,w2.heap.size)::Qr)) rv n (fX (placeF f) (iq f x j p (l6 f x j (iD f x j) p) c) (3*ka+p) (3*ka+c) (kB f x j p c))) (X:=fun g=>∃v∈rv,v.ownBlock=some g) (fun g ⟨v,hv,e⟩=>Oe v hv g e) (fun O w' r=>kf r rfl rfl rfl rfl hM Oe PB TK Ot (by omega) (by omega) (by omega) (by omega) TL t0 (by omega) (cT.cL SB fun g hg=>hg.1) (by omega)) ?_;rintro O Sw v7 Sz row r Oi hx Oh Q2;replace hw:=hw.tr Oh;replace SB:=cT.cL (cT.cJ SB fun g hg=>Lq.kept r Oi hx hg) fun g hg=>Lq.mono (iv':=(Sw.heap.size,Sz.heap.size)::Qr) hg fun p hp=>aC _ hp;replace Oe:∀v∈rv,∀g,v.ownBlock=some g->Cf w ((Sw.heap.size,Sz.heap.size)::Qr) g:=fun v hv g e=>(Oe v hv g e).mono fun p hp=>aC _ hp;clear hM r Oi hx Oh;have hM:=Q2;clear Q2;generalize (Sw.heap.size,Sz.heap.size)::Qr=RO at*
     conv=>whnf
     refine⟨3*b.2.1,wo,?_⟩;conv=>whnf
     refine⟨((3*kb+p:Nat):Int),by rw[show 3*b.2.1+(p:Int)=((3*kb+p:Nat):Int) by omega,wrap64]<;>omega,?_⟩;conv=>whnf
     refine⟨3*b.2.1,wo,?_⟩;conv=>whnf
     refine⟨((3*kb+c:Nat):Int),by rw[show 3*b.2.1+(c:Int)=((3*kb+c:Nat):Int) by omega,wrap64]<;>omega,?_⟩;conv=>whnf
     refine jG (Φ:=fun _ w' v w2=>mH w2 (Cf w ((w'.heap.size,w2.heap.size)::RO)) rv n (fX (placeF f) (fX (placeF f) (iq f x j p (l6 f x j (iD f x j) p) c) (3*ka+p) (3*ka+c) (kB f x j p c)) (3*kb+p) (3*kb+c) (kB f x j p c))) (X:=fun g=>∃v∈rv,v.ownBlock=some g) (fun g ⟨v,hv,e⟩=>Oe v hv g e) (fun O w' r=>kf r rfl rfl rfl rfl hM Oe PB TK Ot (by omega) (by omega) (by omega) (by omega) TL t1 (by omega) (cT.cL SB fun g hg=>hg.1) (by omega)) ?_;rintro O S9 v8 Se row r Oi hx Oh Q2;replace hw:=hw.tr Oh;replace SB:=cT.cL (cT.cJ SB fun g hg=>Lq.kept r Oi hx hg) fun g hg=>Lq.mono (iv':=(S9.heap.size,Se.heap.size)::RO) hg fun p hp=>aC _ hp;replace Oe:∀v∈rv,∀g,v.ownBlock=some g->Cf w ((S9.heap.size,Se.heap.size)::RO) g:=fun v hv g e=>(Oe v hv g e).mono fun p hp=>aC _ hp;clear hM r Oi hx Oh;have hM:=Q2;clear Q2;generalize (S9.heap.size,Se.heap.size)::RO=RF at*
     conv=>whnf
     refine cO hτ dZ [.x 0,.x 1,.x 2,.x 3,.x 4,.x 5,.x 6,.x 7,.x 8,.x 9,.x 10,.x 11,.x 12,.x 13] (by kernel_rfl) (by kernel_rfl) ?_;conv=>whnf
     refine⟨3*b.1,wo,?_⟩;conv=>whnf
     refine⟨((3*ka+p:Nat):Int),by rw[show 3*b.1+(p:Int)=((3*ka+p:Nat):Int) by omega,wrap64]<;>omega,?_⟩;conv=>whnf
     refine⟨3*b.2.1,wo,?_⟩;conv=>whnf
     refine⟨((3*kb+c:Nat):Int),by rw[show 3*b.2.1+(c:Int)=((3*kb+c:Nat):Int) by omega,wrap64]<;>omega,?_⟩;conv=>whnf
     refine cP (Φ:=fun _ w' v w2=>cT w2 (Nf w' w2) v (-(kB f x j p c))) (fun O w' r=>yq (S:=Cf w RF) (Rel.old r (cG w)) (cT.l (cT.cJ (cT.cL SB fun g hg=>hg.1) fun g hg=>Rel.same r (cG w) hg) (by omega))) ?_;rintro O RP v9 RY r he Oh hn;replace hw:=hw.tr Oh;have WZ:=Lq.fresh hn r Oe;replace SB:=cT.cL (cT.cJ (cT.cJ SB fun g hg=>Rel.same r (dN _) hg.1) fun g hg=>he.block g (Rel.old r (dN _) g hg.1)) fun g hg=>Lq.mono (iv':=(RP.heap.size,RY.heap.size)::RF) hg fun p hp=>aC _ hp;replace hM:=hM.cK (iv':=(RP.heap.size,RY.heap.size)::RF) Oe r he fun x hx=>aC _ hx;replace Oe:∀v∈rv,∀g,v.ownBlock=some g->Cf w ((RP.heap.size,RY.heap.size)::RF) g:=fun v hv g e=>(Oe v hv g e).mono fun p hp=>aC _ hp;clear r he Oh hn;generalize (RP.heap.size,RY.heap.size)::RF=RD at*
     obtain⟨J0,J1,J2,J3,J4,J5,J6,J7,rfl⟩:=WZ.shape;conv=>whnf
     refine jG (Φ:=fun _ w' v w2=>mH w2 (Cf w ((w'.heap.size,w2.heap.size)::RD)) rv n (fX (placeF f) (fX (placeF f) (fX (placeF f) (iq f x j p (l6 f x j (iD f x j) p) c) (3*ka+p) (3*ka+c) (kB f x j p c)) (3*kb+p) (3*kb+c) (kB f x j p c)) (3*ka+p) (3*kb+c) (-(kB f x j p c)))) (X:=fun g=>∃v∈rv,v.ownBlock=some g) (fun g ⟨v,hv,e⟩=>Oe v hv g e) (fun O w' r=>kf r rfl rfl rfl rfl hM Oe PB TK Ot (by omega) (by omega) (by omega) (by omega) TL t2 (by omega) (cT.cL WZ fun g hg=>hg.1) (by omega)) ?_;rintro O S1 v10 S2 row r Oi hx Oh Q2;replace hw:=hw.tr Oh;replace SB:=cT.cL (cT.cJ SB fun g hg=>Lq.kept r Oi hx hg) fun g hg=>Lq.mono (iv':=(S1.heap.size,S2.heap.size)::RD) hg fun p hp=>aC _ hp;replace Oe:∀v∈rv,∀g,v.ownBlock=some g->Cf w ((S1.heap.size,S2.heap.size)::RD) g:=fun v hv g e=>(Oe v hv g e).mono fun p hp=>aC _ hp;clear hM r Oi hx Oh;have hM:=Q2;clear Q2;generalize (S1.heap.size,S2.heap.size)::RD=QS at*
     conv=>whnf
     refine cO hτ dZ [.x 0,.x 1,.x 2,.x 3,.x 4,.x 5,.x 6,.x 7,.x 8,.x 9,.x 10,.x 11,.x 12,.x 13] (by kernel_rfl) (by kernel_rfl) ?_;conv=>whnf
     refine⟨3*b.2.1,wo,?_⟩;conv=>whnf
     refine⟨((3*kb+p:Nat):Int),by rw[show 3*b.2.1+(p:Int)=((3*kb+p:Nat):Int) by omega,wrap64]<;>omega,?_⟩;conv=>whnf
     refine⟨3*b.1,wo,?_⟩;conv=>whnf
     refine⟨((3*ka+c:Nat):Int),by rw[show 3*b.1+(c:Int)=((3*ka+c:Nat):Int) by omega,wrap64]<;>omega,?_⟩;conv=>whnf
     refine cP (Φ:=fun _ w' v w2=>cT w2 (Nf w' w2) v (-(kB f x j p c))) (fun O w' r=>yq (S:=Cf w QS) (Rel.old r (cG w)) (cT.l (cT.cJ (cT.cL SB fun g hg=>hg.1) fun g hg=>Rel.same r (cG w) hg) (by omega))) ?_;rintro O QP v11 QZ r he Oh hn;replace hw:=hw.tr Oh;have Wa:=Lq.fresh hn r Oe;replace SB:=cT.cL (cT.cJ (cT.cJ SB fun g hg=>Rel.same r (dN _) hg.1) fun g hg=>he.block g (Rel.old r (dN _) g hg.1)) fun g hg=>Lq.mono (iv':=(QP.heap.size,QZ.heap.size)::QS) hg fun p hp=>aC _ hp;replace hM:=hM.cK (iv':=(QP.heap.size,QZ.heap.size)::QS) Oe r he fun x hx=>aC _ hx;replace Oe:∀v∈rv,∀g,v.ownBlock=some g->Cf w ((QP.heap.size,QZ.heap.size)::QS) g:=fun v hv g e=>(Oe v hv g e).mono fun p hp=>aC _ hp;clear r he Oh hn;generalize (QP.heap.size,QZ.heap.size)::QS=Pw at*
     obtain⟨K0,K1,K2,K3,K4,K5,K6,K7,rfl⟩:=Wa.shape;conv=>whnf
     refine jG (Φ:=fun _ w' v w2=>mH w2 (Cf w ((w'.heap.size,w2.heap.size)::Pw)) rv n (fX (placeF f) (fX (placeF f) (fX (placeF f) (fX (placeF f) (iq f x j p (l6 f x j (iD f x j) p) c) (3*ka+p) (3*ka+c) (kB f x j p c)) (3*kb+p) (3*kb+c) (kB f x j p c)) (3*ka+p) (3*kb+c) (-(kB f x j p c))) (3*kb+p) (3*ka+c) (-(kB f x j p c)))) (X:=fun g=>∃v∈rv,v.ownBlock=some g) (fun g ⟨v,hv,e⟩=>Oe v hv g e) (fun O w' r=>kf r rfl rfl rfl rfl hM Oe PB TK Ot (by omega) (by omega) (by omega) (by omega) TL t3 (by omega) (cT.cL Wa fun g hg=>hg.1) (by omega)) ?_;rintro O SZ v12 Sf row r Oi hx Oh Q2;replace hw:=hw.tr Oh;replace Oe:∀v∈rv,∀g,v.ownBlock=some g->Cf w ((SZ.heap.size,Sf.heap.size)::Pw) g:=fun v hv g e=>(Oe v hv g e).mono fun p hp=>aC _ hp;clear hM r Oi hx Oh;have hM:=Q2;clear Q2;generalize (SZ.heap.size,Sf.heap.size)::Pw=WB at*
     conv=>whnf
     rw[<-hcq]at hM;refine⟨((c+1:Nat):Int),wo,?_⟩;conv=>whnf
     intro ρ3 w6 r3;exact⟨(c+1,w6,_),⟨hc3,hw.tr r3.cS,hM.rel Oe r3,Oe⟩,Sub.gn [] r3,by dsimp only;omega⟩
    have RQ:p≠c:=fun e=>by rw[e]at RQ;simp at RQ
    rw[aK RQ]at hkq;rw[<-hkq]at hq;conv=>whnf
    have t0:Ht (iq f x j p (l6 f x j (iD f x j) p) c) 4000:=hcht.mono (by omega);have t1:=kY (pl:=placeF f) (i:=3*ka+p) (k:=3*ka+c) t0 (by omega) hkr;have t2:=kY (pl:=placeF f) (i:=3*kb+p) (k:=3*kb+c) t1 (by omega) hkr;have Vb:rl (-(kB f x j p c))<=9:=by rw[jB];exact hkr
    have t3:=kY (pl:=placeF f) (i:=3*ka+p) (k:=3*kb+c) t2 (by omega) Vb;have hcq:iq f x j p (l6 f x j (iD f x j) p) (c+1)=fX (placeF f) (fX (placeF f) (fX (placeF f) (fX (placeF f) (iq f x j p (l6 f x j (iD f x j) p) c) (3*ka+p) (3*ka+c) (kB f x j p c)) (3*kb+p) (3*kb+c) (kB f x j p c)) (3*ka+p) (3*kb+c) (-(kB f x j p c))) (3*kb+p) (3*ka+c) (-(kB f x j p c)):=by rw[iq,jh hb,toNat_add ea,toNat_add ea,toNat_add eb,toNat_add eb]
    refine⟨3*b.1,wo,?_⟩;conv=>whnf
    refine⟨((3*ka+p:Nat):Int),by rw[show 3*b.1+(p:Int)=((3*ka+p:Nat):Int) by omega,wrap64]<;>omega,?_⟩;conv=>whnf
    refine⟨3*b.1,wo,?_⟩;conv=>whnf
    refine⟨((3*ka+c:Nat):Int),by rw[show 3*b.1+(c:Int)=((3*ka+c:Nat):Int) by omega,wrap64]<;>omega,?_⟩;conv=>whnf
    refine jG (Φ:=fun _ w' v w2=>mH w2 (Cf w ((w'.heap.size,w2.heap.size)::QT)) rv n (fX (placeF f) (iq f x j p (l6 f x j (iD f x j) p) c) (3*ka+p) (3*ka+c) (kB f x j p c))) (X:=fun g=>∃v∈rv,v.ownBlock=some g) (fun g ⟨v,hv,e⟩=>Oe v hv g e) (fun O w' r=>kf r rfl rfl rfl rfl hM Oe PB TK Ot (by omega) (by omega) (by omega) (by omega) TL t0 (by omega) (cT.cL hq fun g hg=>hg.1) (by omega)) ?_;rintro O R5 v6 RX row r Oi hx Oh Q2;replace hw:=hw.tr Oh;replace hq:=cT.cL (cT.cJ hq fun g hg=>Lq.kept r Oi hx hg) fun g hg=>Lq.mono (iv':=(R5.heap.size,RX.heap.size)::QT) hg fun p hp=>aC _ hp;replace Oe:∀v∈rv,∀g,v.ownBlock=some g->Cf w ((R5.heap.size,RX.heap.size)::QT) g:=fun v hv g e=>(Oe v hv g e).mono fun p hp=>aC _ hp;clear hM r Oi hx Oh;have hM:=Q2;clear Q2;generalize (R5.heap.size,RX.heap.size)::QT=Qr at*
    conv=>whnf
    refine⟨3*b.2.1,wo,?_⟩;conv=>whnf
    refine⟨((3*kb+p:Nat):Int),by rw[show 3*b.2.1+(p:Int)=((3*kb+p:Nat):Int) by omega,wrap64]<;>omega,?_⟩;conv=>whnf
    refine⟨3*b.2.1,wo,?_⟩;conv=>whnf
    refine⟨((3*kb+c:Nat):Int),by rw[show 3*b.2.1+(c:Int)=((3*kb+c:Nat):Int) by omega,wrap64]<;>omega,?_⟩;conv=>whnf
    refine jG (Φ:=fun _ w' v w2=>mH w2 (Cf w ((w'.heap.size,w2.heap.size)::Qr)) rv n (fX (placeF f) (fX (placeF f) (iq f x j p (l6 f x j (iD f x j) p) c) (3*ka+p) (3*ka+c) (kB f x j p c)) (3*kb+p) (3*kb+c) (kB f x j p c))) (X:=fun g=>∃v∈rv,v.ownBlock=some g) (fun g ⟨v,hv,e⟩=>Oe v hv g e) (fun O w' r=>kf r rfl rfl rfl rfl hM Oe PB TK Ot (by omega) (by omega) (by omega) (by omega) TL t1 (by omega) (cT.cL hq fun g hg=>hg.1) (by omega)) ?_;rintro O Sw v7 Sz row r Oi hx Oh Q2;replace hw:=hw.tr Oh;replace hq:=cT.cL (cT.cJ hq fun g hg=>Lq.kept r Oi hx hg) fun g hg=>Lq.mono (iv':=(Sw.heap.size,Sz.heap.size)::Qr) hg fun p hp=>aC _ hp;replace Oe:∀v∈rv,∀g,v.ownBlock=some g->Cf w ((Sw.heap.size,Sz.heap.size)::Qr) g:=fun v hv g e=>(Oe v hv g e).mono fun p hp=>aC _ hp;clear hM r Oi hx Oh;have hM:=Q2;clear Q2;generalize (Sw.heap.size,Sz.heap.size)::Qr=RO at*
    conv=>whnf
    refine cO hτ dZ [.x 0,.x 1,.x 2,.x 3,.x 4,.x 5,.x 6,.x 7,.x 8,.x 9,.x 10,.x 11,.x 12,.x 13] (by kernel_rfl) (by kernel_rfl) ?_;conv=>whnf
    refine⟨3*b.1,wo,?_⟩;conv=>whnf
    refine⟨((3*ka+p:Nat):Int),by rw[show 3*b.1+(p:Int)=((3*ka+p:Nat):Int) by omega,wrap64]<;>omega,?_⟩;conv=>whnf
    refine⟨3*b.2.1,wo,?_⟩;conv=>whnf
    refine⟨((3*kb+c:Nat):Int),by rw[show 3*b.2.1+(c:Int)=((3*kb+c:Nat):Int) by omega,wrap64]<;>omega,?_⟩;conv=>whnf
    refine cP (Φ:=fun _ w' v w2=>cT w2 (Nf w' w2) v (-(kB f x j p c))) (fun O w' r=>yq (S:=Cf w RO) (Rel.old r (cG w)) (cT.l (cT.cJ (cT.cL hq fun g hg=>hg.1) fun g hg=>Rel.same r (cG w) hg) (by omega))) ?_;rintro O S9 v8 Se r he Oh hn;replace hw:=hw.tr Oh;have WZ:=Lq.fresh hn r Oe;replace hq:=cT.cL (cT.cJ (cT.cJ hq fun g hg=>Rel.same r (dN _) hg.1) fun g hg=>he.block g (Rel.old r (dN _) g hg.1)) fun g hg=>Lq.mono (iv':=(S9.heap.size,Se.heap.size)::RO) hg fun p hp=>aC _ hp;replace hM:=hM.cK (iv':=(S9.heap.size,Se.heap.size)::RO) Oe r he fun x hx=>aC _ hx;replace Oe:∀v∈rv,∀g,v.ownBlock=some g->Cf w ((S9.heap.size,Se.heap.size)::RO) g:=fun v hv g e=>(Oe v hv g e).mono fun p hp=>aC _ hp;clear r he Oh hn;generalize (S9.heap.size,Se.heap.size)::RO=RF at*
    obtain⟨N0,N1,N2,N3,N4,N5,N6,N7,rfl⟩:=WZ.shape;conv=>whnf
    refine jG (Φ:=fun _ w' v w2=>mH w2 (Cf w ((w'.heap.size,w2.heap.size)::RF)) rv n (fX (placeF f) (fX (placeF f) (fX (placeF f) (iq f x j p (l6 f x j (iD f x j) p) c) (3*ka+p) (3*ka+c) (kB f x j p c)) (3*kb+p) (3*kb+c) (kB f x j p c)) (3*ka+p) (3*kb+c) (-(kB f x j p c)))) (X:=fun g=>∃v∈rv,v.ownBlock=some g) (fun g ⟨v,hv,e⟩=>Oe v hv g e) (fun O w' r=>kf r rfl rfl rfl rfl hM Oe PB TK Ot (by omega) (by omega) (by omega) (by omega) TL t2 (by omega) (cT.cL WZ fun g hg=>hg.1) (by omega)) ?_;rintro O RP v9 RY row r Oi hx Oh Q2;replace hw:=hw.tr Oh;replace hq:=cT.cL (cT.cJ hq fun g hg=>Lq.kept r Oi hx hg) fun g hg=>Lq.mono (iv':=(RP.heap.size,RY.heap.size)::RF) hg fun p hp=>aC _ hp;replace Oe:∀v∈rv,∀g,v.ownBlock=some g->Cf w ((RP.heap.size,RY.heap.size)::RF) g:=fun v hv g e=>(Oe v hv g e).mono fun p hp=>aC _ hp;clear hM r Oi hx Oh;have hM:=Q2;clear Q2;generalize (RP.heap.size,RY.heap.size)::RF=RD at*
    conv=>whnf
    refine cO hτ dZ [.x 0,.x 1,.x 2,.x 3,.x 4,.x 5,.x 6,.x 7,.x 8,.x 9,.x 10,.x 11,.x 12,.x 13] (by kernel_rfl) (by kernel_rfl) ?_;conv=>whnf
    refine⟨3*b.2.1,wo,?_⟩;conv=>whnf
    refine⟨((3*kb+p:Nat):Int),by rw[show 3*b.2.1+(p:Int)=((3*kb+p:Nat):Int) by omega,wrap64]<;>omega,?_⟩;conv=>whnf
    refine⟨3*b.1,wo,?_⟩;conv=>whnf
    refine⟨((3*ka+c:Nat):Int),by rw[show 3*b.1+(c:Int)=((3*ka+c:Nat):Int) by omega,wrap64]<;>omega,?_⟩;conv=>whnf
    refine cP (Φ:=fun _ w' v w2=>cT w2 (Nf w' w2) v (-(kB f x j p c))) (fun O w' r=>yq (S:=Cf w RD) (Rel.old r (cG w)) (cT.l (cT.cJ (cT.cL hq fun g hg=>hg.1) fun g hg=>Rel.same r (cG w) hg) (by omega))) ?_;rintro O S1 v10 S2 r he Oh hn;replace hw:=hw.tr Oh;have Wa:=Lq.fresh hn r Oe;replace hq:=cT.cL (cT.cJ (cT.cJ hq fun g hg=>Rel.same r (dN _) hg.1) fun g hg=>he.block g (Rel.old r (dN _) g hg.1)) fun g hg=>Lq.mono (iv':=(S1.heap.size,S2.heap.size)::RD) hg fun p hp=>aC _ hp;replace hM:=hM.cK (iv':=(S1.heap.size,S2.heap.size)::RD) Oe r he fun x hx=>aC _ hx;replace Oe:∀v∈rv,∀g,v.ownBlock=some g->Cf w ((S1.heap.size,S2.heap.size)::RD) g:=fun v hv g e=>(Oe v hv g e).mono fun p hp=>aC _ hp;clear r he Oh hn;generalize (S1.heap.size,S2.heap.size)::RD=QS at*
    obtain⟨O0,O1,O2,O3,O4,O5,O6,O7,rfl⟩:=Wa.shape;conv=>whnf
    refine jG (Φ:=fun _ w' v w2=>mH w2 (Cf w ((w'.heap.size,w2.heap.size)::QS)) rv n (fX (placeF f) (fX (placeF f) (fX (placeF f) (fX (placeF f) (iq f x j p (l6 f x j (iD f x j) p) c) (3*ka+p) (3*ka+c) (kB f x j p c)) (3*kb+p) (3*kb+c) (kB f x j p c)) (3*ka+p) (3*kb+c) (-(kB f x j p c))) (3*kb+p) (3*ka+c) (-(kB f x j p c)))) (X:=fun g=>∃v∈rv,v.ownBlock=some g) (fun g ⟨v,hv,e⟩=>Oe v hv g e) (fun O w' r=>kf r rfl rfl rfl rfl hM Oe PB TK Ot (by omega) (by omega) (by omega) (by omega) TL t3 (by omega) (cT.cL Wa fun g hg=>hg.1) (by omega)) ?_;rintro O QP v11 QZ row r Oi hx Oh Q2;replace hw:=hw.tr Oh;replace Oe:∀v∈rv,∀g,v.ownBlock=some g->Cf w ((QP.heap.size,QZ.heap.size)::QS) g:=fun v hv g e=>(Oe v hv g e).mono fun p hp=>aC _ hp;clear hM r Oi hx Oh;have hM:=Q2;clear Q2;generalize (QP.heap.size,QZ.heap.size)::QS=Pw at*
    conv=>whnf
    rw[<-hcq]at hM;refine⟨((c+1:Nat):Int),wo,?_⟩;conv=>whnf
    intro ρ3 w6 r3;exact⟨(c+1,w6,_),⟨hc3,hw.tr r3.cS,hM.rel Oe r3,Oe⟩,Sub.gn [] r3,by dsimp only;omega⟩
   have hc3:c=3:=by have:=aG PO;omega
   rw[hc3,<-l6]at hM;conv=>whnf
   refine⟨((p+1:Nat):Int),wo,?_⟩;conv=>whnf
   intro ρ3 w6 r3;exact⟨(p+1,w6,_),⟨hp3,hw.tr r3.cS,hM.rel Oe r3,Oe⟩,Sub.gn [] r3,by dsimp only;omega⟩
  have hp3:p=3:=by have:=aG TV;omega
  rw[hp3,<-iD]at hM;conv=>whnf
  refine⟨((j+1:Nat):Int),wo,?_⟩;conv=>whnf
  intro ρ3 w6 r3;exact⟨(j+1,w6,_),⟨PQ,hw.tr r3.cS,hM.rel Oe r3,Oe⟩,Sub.gn [] r3,by dsimp only;omega⟩
 have PQ:j=f.bars.length:=by have:=aG PQ;omega
 rw[PQ,<-kI]at hM;clear hj PQ;conv=>whnf
 refine⟨Nat×World×Iv,fun z=>⟨[(1,sV ax x.length cx),(2,pP 0 0),(13,.o (.fn N.fH [2,4])),(11,pP 4 0),(172,sV aq f.cV.length cq),(173,iZ f.cV.length),(174,iN z.1)],[(3,.arr T.fz rv),(4,.box T.Ef [.s 3 0 n n]),(1,.arr T.int (zv (placeF f))),(2,.box T.Lint [.s 1 0 m m]),(0,.box T.Frame [.v (.slice an f.nodes.length cn),.v (.slice ab f.bars.length cb),.v (.slice aq f.cV.length cq)])],5,z.2.2,z.2.1⟩,fun z=>f.cV.length-z.1,
  fun z=>z.1<=f.cV.length∧dg w.heap.size w z.2.1∧mH z.2.1 (Cf w z.2.2) rv n (kI f x z.1)∧∀v∈rv,∀g,v.ownBlock=some g->Cf w z.2.2 g,?_,?_⟩
 ·intro O w' r;exact⟨(0,w',_),⟨aO _,hw.tr r.cS,hM.rel Oe r,Oe⟩,Sub.gn [] r⟩
 clear hw hM Oe;rintro⟨k,w5,iv⟩ ⟨hk,hw,hM,Oe⟩;dsimp only at hk hw hM Oe ⊢;conv=>whnf
 refine dG.mk ?_ ?_<;>intro OY
 ·have OY:k<f.cV.length:=by have:=aH OY;omega
  obtain⟨s,hs⟩:∃s,f.cV[k]? =some s:=⟨_,aB OY⟩
  have SY:=aD hs;obtain⟨OX,PL⟩:=hv.sup s SY;obtain⟨adb,cs,QA,hF,-,PA⟩:=hf.cV.load (by decide) hs;obtain⟨g0,g1,g2,g3,g4,g5,g6,g7,rfl,hF⟩:=hF;have hsok:=Oc.sup s SY;have Ok:rl s.2.2<=3:=Ph.fx _ (List.mem_append_right _ (aT.2 ⟨_,SY,rfl⟩));have hrr:3*s.1+s.2.1=((dw s:Nat):Int):=by unfold dw;omega
  have hsht:=LU Ph RH k (by omega);have hsq:kI f x (k+1)=if s.2.2=0 then kI f x k else fX (placeF f) (kI f x k) (dw s) (dw s) (1 / s.2.2):=by rw[kI,getD_some hs]
  conv=>whnf
  refine⟨adb,QA,by omega,?_⟩;conv=>whnf
  refine⟨[.int .i64 s.1,.int .i64 s.2.1,.bool g0,.slice g1 g2 g3,.bool g4,.slice g5 g6 g7],rfl,rdO PA hw hS,?_⟩;conv=>whnf
  refine⟨3*s.1,wo,?_⟩;conv=>whnf
  refine⟨((dw s:Nat):Int),by rw[hrr,wrap64]<;>omega,?_⟩;conv=>whnf
  refine cH (cP (Φ:=fun _ w' v w2=>∃d,v= .bool d∧(d=true↔s.2.2=0)) (fun O w' r=>oG (oS hS r) (hF.cJ (kS hw r hS))) ?_);rintro O Rc v21 RK r he Oh ⟨d,rfl,hd⟩;replace hw:=hw.tr Oh;replace hM:=hM.cK (iv':=(Rc.heap.size,RK.heap.size)::iv) Oe r he fun x hx=>aC _ hx;replace Oe:∀v∈rv,∀g,v.ownBlock=some g->Cf w ((Rc.heap.size,RK.heap.size)::iv) g:=fun v hv g e=>(Oe v hv g e).mono fun p hp=>aC _ hp;clear r he Oh;generalize (Rc.heap.size,RK.heap.size)::iv=Q1 at*
  cases d
  ·have OZ:s.2.2≠0:=fun e=>by have:=hd.2 e;cases this
   rw[aK OZ]at hsq;have TO:=LS Ok OZ;conv=>whnf
   refine cO hτ dZ [.x 0,.x 1,.x 2,.x 4,.x 5,.x 3,.x 6,.x 7] (by kernel_rfl) (by kernel_rfl) ?_;conv=>whnf
   refine cP (Φ:=fun _ w' v w2=>cT w2 (Nf w' w2) v ((1:Int):Rat)) (fun O w' r=>k8 1 w' (by decide) (by decide)) ?_;rintro O S3 v22 S4 r he Oh hn;replace hw:=hw.tr Oh;replace hM:=hM.cK (iv':=(S3.heap.size,S4.heap.size)::Q1) Oe r he fun x hx=>aC _ hx;replace Oe:∀v∈rv,∀g,v.ownBlock=some g->Cf w ((S3.heap.size,S4.heap.size)::Q1) g:=fun v hv g e=>(Oe v hv g e).mono fun p hp=>aC _ hp;have hwd:=hn.dK (S:=FF) r.cI (iv:=(S3.heap.size,S4.heap.size)::Q1) aI;clear r he Oh hn;generalize (S3.heap.size,S4.heap.size)::Q1=RS at*
   obtain⟨P0,P1,P2,P3,P4,P5,P6,P7,rfl⟩:=hwd.shape;conv=>whnf
   refine cP (Φ:=fun _ w' v w2=>cT w2 (Nf w' w2) v (1 / s.2.2)) (fun O w' r=>Jx (S:=fun g=>S g∨Cf w RS g) (fun g hg=>hg.elim (oS hS r g) (Rel.old r (cG w) g)) (eS.cL ((hwd.rel r (cG w)).l (by decide)) fun g hg=>.inr hg) (eS.cL (hF.cJ (kS hw r hS)) fun g hg=>.inl hg) OZ) ?_;rintro O Sg v23 Sh r he Oh hn;replace hw:=hw.tr Oh;have hq:=Lq.fresh hn r Oe;replace hM:=hM.cK (iv':=(Sg.heap.size,Sh.heap.size)::RS) Oe r he fun x hx=>aC _ hx;replace Oe:∀v∈rv,∀g,v.ownBlock=some g->Cf w ((Sg.heap.size,Sh.heap.size)::RS) g:=fun v hv g e=>(Oe v hv g e).mono fun p hp=>aC _ hp;clear r he Oh hn hwd;generalize (Sg.heap.size,Sh.heap.size)::RS=Rn at*
   obtain⟨T0,T1,T2,T3,T4,T5,T6,T7,rfl⟩:=hq.shape;conv=>whnf
   refine jG (Φ:=fun _ w' v w2=>mH w2 (Cf w ((w'.heap.size,w2.heap.size)::Rn)) rv n (fX (placeF f) (kI f x k) (dw s) (dw s) (1 / s.2.2))) (X:=fun g=>∃v∈rv,v.ownBlock=some g) (fun g ⟨v,hv,e⟩=>Oe v hv g e) (fun O w' r=>kf r rfl rfl rfl rfl hM Oe PB TK Ot (by omega) (by omega) (by omega) (by omega) TL hsht (by omega) (cT.cL hq fun g hg=>hg.1) (by omega)) ?_;rintro O wa24 v24 wb24 row r Oi hx Oh Q2;replace hw:=hw.tr Oh;replace Oe:∀v∈rv,∀g,v.ownBlock=some g->Cf w ((wa24.heap.size,wb24.heap.size)::Rn) g:=fun v hv g e=>(Oe v hv g e).mono fun p hp=>aC _ hp;clear hM r Oi hx Oh;have hM:=Q2;clear Q2;generalize (wa24.heap.size,wb24.heap.size)::Rn=XH at*
   conv=>whnf
   rw[<-hsq]at hM;refine⟨((k+1:Nat):Int),wo,?_⟩;conv=>whnf
   intro ρ3 w6 r3;exact⟨(k+1,w6,_),⟨OY,hw.tr r3.cS,hM.rel Oe r3,Oe⟩,Sub.gn [] r3,by dsimp only;omega⟩
  rw[if_pos (hd.1 rfl)]at hsq;rw[<-hsq]at hM;conv=>whnf
  refine⟨((k+1:Nat):Int),wo,?_⟩;conv=>whnf
  intro ρ3 w6 r3;exact⟨(k+1,w6,_),⟨OY,hw.tr r3.cS,hM.rel Oe r3,Oe⟩,Sub.gn [] r3,by dsimp only;omega⟩
 have OY:k=f.cV.length:=by have:=aG OY;omega
 rw[OY]at hM;conv=>whnf
 intro ρe we re;refine⟨_,rfl,hw.tr re.cS,rv,?_,hM.len,fun i u y k1 k2=>cR.out (hM.rat Oe k1 k2) re (cG w)⟩;have n3:=re.nn 3 _ rfl (by intros;simp) (by simp);have h5:=DO (T:=Nf w we) (sz:=1) (k:=n) re (id:=3) rfl (by rw[Ot,aY]) (by unfold maxLen;omega) PB (.inr (re.low 3 _ rfl n3));rw[show (Jg f x).length=n from(hM.len.symm.trans Ot)];exact h5
set_option maxRecDepth 8000 in
set_option maxHeartbeats 1000000 in
theorem Im{vl:Value}{l:List Ld}(hS:Old S w)(hf:dX w S vn vb vs f)(hl:oY w S vl l)(SY:eP f=0->qc f):
  eA PG N.ot #[.agg #[vn,vb,vs],vl] w (eL w fun v' w2=>(mF f l≠0∧v'= .tuple #[.slice none 0 0,.slice none 0 0,.int .i64 (mF f l)])∨(mF f l=0∧((iO (cU f) f.cols<(cU f).length∧v'= .tuple #[.slice none 0 0,.slice none 0 0,.int .i64 17])∨
   (iO (cU f) f.cols=(cU f).length∧∃x u vx vu,mu (cU f) f.cols (aAy f) (eB (ki f l) (-1)) x∧gq (dq (cU f) f.cols) (eB (fm x (dE f)) (-1)) (cU f).length=some u∧v'= .tuple #[vu,vx,.int .i64 0]∧cR w2 (Nf w w2) vu u∧cR w2 (Nf w w2) vx x)))):=by
 have hw:=bR w;obtain⟨an,cn,ab,cb,aq,cq,rfl,rfl,rfl,RN,RJ,SF⟩:=hf.shape;obtain⟨al,cl,rfl,QB,Rh⟩:=hl.shape;obtain⟨e0,EE⟩:∃e,mF f l=e:=⟨_,rfl⟩
 refine tX (by simp) ?_;conv=>whnf
 refine cH (cE hw (fun _ w' v w2=>v= .int .i64 e0) (fun O w' r=>(s6 (oS hS r) (hf.cJ (kS hw r hS)) (hl.cJ (kS hw r hS))).mono fun _ _ ⟨v2,e1,e2,e3⟩=>⟨v2,e1,e2,by rw[e3,EE]⟩) ?_);rintro O _ _ _ Od r he hw h_ rfl;clear r;conv=>whnf
 refine dG.mk ?_ ?_<;>intro he
 ·have he:e0≠0:=by simpa using he
  conv=>whnf
  exact rtn hw fun ρe we re=>.inl ⟨by rw[EE];exact he,by rw[EE];rfl⟩
 have he:e0=0:=by simpa using he
 have Uc:mF f l=0:=by rw[EE,he]
 obtain⟨Om,SO⟩:=qR Uc;have Ph:=SY Om;have Ou:=Ph.toFrS;have SO:=Li SO;clear EE he;have Tv:=Ou.M5;have VP:=Ou.r12;have Uw:=fu f;have hlen:=fe f;have hn4:=Ou.n4;have Oc:=lM Om;have VA:=zo f l;have Xs:f.cols=f.bars.length+f.cV.length:=rfl;conv=>whnf
 refine cH (cE hw (fun _ w' v w2=>∃vr,v= .agg #[vr,.int .i64 f.cols]∧cW w2 (Nf w' w2) vr (cU f)) (fun O w' r=>(vK (S:=S) (oS hS r) (hf.cJ (kS hw r hS)) Oc).mono fun _ _ ⟨v2,e1,e2,e3,_⟩=>⟨v2,e1,e2,e3⟩) ?_);rintro O _ v2 _ Oa r he hw h_ ⟨vr,rfl,hn⟩;have hM:=cW.dK (S:=FF) hn r.cI (mN h_);clear r he;clear hn;obtain⟨am,cm,rfl,-,-⟩:=dA.shape hM;conv=>whnf
 refine cO hτ dZ [.x 0,.x 1,.x 2,.x 7,.x 8,.x 9,.x 3,.x 4,.x 5,.x 6,.x 10] (by kernel_rfl) (by kernel_rfl) ?_;conv=>whnf
 refine cE hw (fun _ w' v w2=>∃vr vp vf,v= .agg #[vr,.int .i64 f.cols,vp,vf]∧cW w2 (Nw (Cf w Oa) w' w2) vr (db (cU f) f.cols).1) (fun O w' r=>(DM (C:=Cf w Oa) (S:=Cf w Oa) (h:=20) (Rel.old r (cG w)) (Rel.old r (cG w)) (cW.rel hM r (cG w)) hlen (by omega) (by omega) (pJ hlen Ou.mQ (by decide) (by have:=Ou.size;omega)) (by decide)).mono fun _ _ ⟨v2,e1,e2,vr,vp,vf,k1,k2,_,_⟩=>⟨v2,e1,e2,vr,vp,vf,k1,k2⟩) ?_;rintro O _ _ _ Oj r he hw h_ ⟨vr2,vp2,vf2,rfl,hn⟩;replace hM:=cW.cK hM r (cG w) he (mC h_);clear r he;obtain⟨ar,cr,rfl,-,-⟩:=dA.shape hn;have Vw:(db (cU f) f.cols).1.length=iO (cU f) f.cols:=by
  rw[(mo hlen Ou.mQ).2,aZ,Nat.min_eq_left (iG _ _ hlen).1]
 rw[Vw];obtain⟨nr,hnr⟩:∃nr,iO (cU f) f.cols=nr:=⟨_,rfl⟩
 rw[hnr];clear hn Vw;conv=>whnf
 refine dG.mk ?_ ?_<;>intro PC
 ·have PC:nr<(cU f).length:=by have:=aH PC;omega
  conv=>whnf
  exact rtn hw fun ρe we re=>.inr ⟨Uc,.inl ⟨PC,rfl⟩⟩
 have PC:(cU f).length<=nr:=by have:=aG PC;omega
 have QU:iO (cU f) f.cols=(cU f).length:=by
  have h1:=CC hlen;have h2:=(iG (dq (cU f) f.cols) (cU f).length (gV _ _)).2;rw[hnr]at h1 ⊢;have h1:(cQ (dq (cU f) f.cols) (cU f).length).2.length=nr:=h1;omega
 have QH:=KY SO;have hbll:(eB (ki f l) (-1)).length=(cU f).length:=by rw[eB,aL,VA,Uw]
 conv=>whnf
 refine cO hτ dZ [.x 0,.x 1,.x 2,.x 3,.x 4,.x 5,.x 6,.x 7,.x 8,.x 9] (by kernel_rfl) (by kernel_rfl) ?_;conv=>whnf
 refine cE hw (fun _ w' v w2=>cR w2 (Nf w' w2) v (ki f l)∧∀q∈ki f l,rl q<=1) (fun O w' r=>(Ew (oS hS r) (hl.cJ (kS hw r hS)) Ou.n SO rfl rfl).mono fun _ _ ⟨v2,e1,e2,e3,e4⟩=>⟨v2,e1,e2,cR.cL e3.c fun g hg=>hg.new,e4⟩) ?_;rintro O _ _ _ Oz r he hw h_ ⟨hn,Xb⟩;replace hM:=cW.cK hM r (cG w) he (mC h_);have hP:=cR.dK (S:=FF) hn r.cI (mN h_);clear r he;clear hn;obtain⟨ap,cp,rfl,-,-⟩:=dL.shape hP;rw[VA];conv=>whnf
 refine cP (Φ:=fun _ w' v w2=>(gq (cU f) (eB (ki f l) (-1)) f.cols=none∧v= .tuple #[.slice none 0 0,.bool false])∨∃x vx,mu (cU f) f.cols (aAy f) (eB (ki f l) (-1)) x∧v= .tuple #[vx,.bool true]∧cR w2 (Nf w' w2) vx x) (fun O w' r=>FL (S:=fun g=>S g∨Cf w Oz g) (fun g hg=>hg.elim (oS hS r g) (Rel.old r (cG w) g)) (dX.cL (hf.cJ (kS hw r hS)) fun g hg=>.inl hg) Om Ph (cR.cL (by have:=cR.rel hP r (cG w);rw[VA]at this;exact this) fun g hg=>.inr hg) VA (fun q hq=>by have:=Xb q hq;omega) (KY SO)) ?_;rintro O Rz v5 Rs r he hb (⟨SI,rfl⟩|⟨x,vx,hx,rfl,hn⟩)
 ·obtain⟨x,hx⟩:=M4 (b:=eB (ki f l) (-1)) hlen QU;rw[SI]at hx
  cases hx
 replace hw:=hw.tr hb;replace hM:=cW.cK (iv':=(Rz.heap.size,Rs.heap.size)::Oz) hM r (cG w) he fun x hx=>aC _ hx;have hX:=cR.dK (S:=FF) hn r.cI (iv:=(Rz.heap.size,Rs.heap.size)::Oz) aI;clear r he hb hn;generalize (Rz.heap.size,Rs.heap.size)::Oz=ivx at*
 obtain⟨ax,cx,rfl,-,-⟩:=dL.shape hX;have Pr:=hx.len;have UI:=Ph.aD6 QH hbll hx;obtain⟨u,hu⟩:=hx.aD2 hlen;have hwT:=Ph.M6 Pr (Ph.aAI QH hbll hx);have hzT:ln (fB (wt 156) (kl (dq (cU f) f.cols) (eB (fm x (dE f)) (-1))).length)<=2827:=Ph.Je;have RW:=yI (M:=dq (cU f) f.cols) (b:=eB (fm x (dE f)) (-1)) (gV _ _) hwT;rw[hu]at RW;have YJ:=aBA Ph (Nat.le_of_eq Pr) UI;conv=>whnf
 refine cO hτ dZ [.x 0,.x 2,.x 3,.x 1,.x 4,.x 5,.x 6,.x 7,.x 8,.x 9,.x 10,.x 11,.x 12,.x 13] (by kernel_rfl) (by kernel_rfl) ?_;conv=>whnf
 refine cP (Φ:=fun _ w' v w2=>∃vr,v= .agg #[vr,.int .i64 (cU f).length]∧cW w2 (Nw (Cf w ivx) w' w2) vr (dq (cU f) f.cols)) (fun O w' r=>Dv (C:=Cf w ivx) (S:=Cf w ivx) (Rel.old r (cG w)) (Rel.old r (cG w)) (cW.rel hM r (cG w)) hlen (by omega) (by omega)) ?_;rintro O R5 v6 RX r he hb ⟨vt,rfl,hn⟩;replace hw:=hw.tr hb;clear hM;replace hX:=cR.cK (iv':=(R5.heap.size,RX.heap.size)::ivx) hX r (cG w) he fun x hx=>aC _ hx;have hT:=cW.old hn r.cI;clear r he hb;generalize (R5.heap.size,RX.heap.size)::ivx=Qr at*
 clear hn;obtain⟨at_,ct,rfl,-,-⟩:=dA.shape hT;conv=>whnf
 refine cP (Φ:=fun _ w' v w2=>dB w2 (Nw S w' w2) v (dE f)) (fun O w' r=>Ey (S:=S) (oS hS r) (hf.cJ (kS hw r hS)) Oc) ?_;rintro O Sw v7 Sz r he hb hn;replace hw:=hw.tr hb;replace hX:=cR.cK (iv':=(Sw.heap.size,Sz.heap.size)::Qr) hX r (cG w) he fun x hx=>aC _ hx;replace hT:=cW.cK (iv':=(Sw.heap.size,Sz.heap.size)::Qr) hT r (cG w) he fun x hx=>aC _ hx;have hL:=dB.cL (S':=Cv S w.heap.size ((Sw.heap.size,Sz.heap.size)::Qr)) hn fun g hg=>hg.elim .inl fun h=>.inr ⟨by have:=r.cI;omega,_,_,aI,h.1,h.2⟩;clear r he hb;generalize (Sw.heap.size,Sz.heap.size)::Qr=RO at*
 clear hn;obtain⟨afl,cfl,rfl,-,-⟩:=dL.shape hL;conv=>whnf
 refine cE hw (fun _ w' v w2=>cR w2 (Nf w' w2) v (fm x (dE f))) (fun O w' r=>(Lf (S:=Cv S w.heap.size RO) (Rel.old r hS) (dB.cL (cR.l (cR.rel hX r (cG w)) fun q hq=>by have:=UI q hq;omega) fun g hg=>D3 hg) (dB.rel hL r hS) (by rw[Pr,qQ];exact Nat.le_refl _) (by omega)).mono fun _ _ ⟨v2,e1,e2,e3⟩=>⟨v2,e1,e2,cR.cL e3.c fun g hg=>hg.new⟩) ?_;rintro O _ _ _ RF r he hw h_ hn;replace hX:=cR.cK hX r (cG w) he (mC h_);replace hT:=cW.cK hT r (cG w) he (mC h_);clear hL;have hE:=cR.dK (S:=FF) hn r.cI (mN h_);clear r he;clear hn;obtain⟨ae,ce,rfl,-,-⟩:=dL.shape hE;conv=>whnf
 refine cE hw (fun _ w' v w2=>cT w2 (Nf w' w2) v ((-1:Int):Rat)) (fun O w' r=>k8 (-1) w' (by decide) (by decide)) ?_;rintro O _ _ _ RD r he hw h_ hn;replace hX:=cR.cK hX r (cG w) he (mC h_);replace hT:=cW.cK hT r (cG w) he (mC h_);replace hE:=cR.cK hE r (cG w) he (mC h_);have hd:=hn.dK (S:=FF) r.cI (mN h_);clear r he hn;obtain⟨A0,A1,A2,A3,A4,A5,A6,A7,rfl⟩:=hd.shape;conv=>whnf
 refine cE hw (fun _ w' v w2=>cR w2 (Nf w' w2) v (eB (fm x (dE f)) (-1))) (fun O w' r=>(Es (S:=Cf w RD) (Rel.old r (cG w)) (cR.l (cR.rel hE r (cG w)) fun q hq=>by have:=YJ q hq;omega) ((hd.rel r (cG w)).l (by decide)) (by rw[k9];omega)).mono fun _ _ ⟨v2,e1,e2,e3⟩=>⟨v2,e1,e2,cR.cL e3.c fun g hg=>hg.new⟩) ?_;rintro O _ _ _ QS r he hw h_ hn;replace hX:=cR.cK hX r (cG w) he (mC h_);replace hT:=cW.cK hT r (cG w) he (mC h_);clear hE;clear hd;have hG:=cR.dK (S:=FF) hn r.cI (mN h_);clear r he;clear hn;obtain⟨ag,cg,rfl,-,-⟩:=dL.shape hG;conv=>whnf
 refine cP (Φ:=fun _ w' v w2=>∃vu,v= .tuple #[vu,.bool true]∧eO w2 (Cf w QS) w'.heap.size [(w'.heap.size,w2.heap.size)] vu (cU f).length u) (fun O w' r=>(IY (C:=Cf w QS) (S:=Cf w QS) (h:=2830) (Rel.old r (cG w)) (Rel.old r (cG w)) (cW.rel hT r (cG w)) (cR.rel hG r (cG w)) (by rw[eB,aL,k9,eF];exact Pr) (gV _ _) (by omega) (by rw[eF];omega) (pJ (j1 (gV _ _)) hwT pj (by omega)) (by decide)).mono fun _ _ ⟨v2,e1,e2,e3⟩=>⟨v2,e1,e2,by
  rcases e3 with⟨k1,_⟩|⟨x2,vx,k1,k2,k3⟩
  ·rw[RW]at k1;cases k1
  ·rw[RW]at k1;injection k1 with k1;subst k1;exact⟨vx,k2,k3⟩⟩) ?_
 rintro O QP v11 QZ r he hb ⟨vu,rfl,hn⟩;replace hw:=hw.tr hb;replace hX:=cR.cK (iv':=(QP.heap.size,QZ.heap.size)::QS) hX r (cG w) he fun x hx=>aC _ hx;clear hT;clear hG;have hU:=hn.aDc r.cI;clear r he hb;generalize (QP.heap.size,QZ.heap.size)::QS=Pw at*
 clear hn;obtain⟨au,cu,rfl,hcu⟩:=hU.row.form;conv=>whnf
 exact rtn hw fun ρe we re=>.inr ⟨Uc,.inr ⟨hnr.symm.trans QU,x,u,_,_,hx,hu,rfl,cR.out hU.c re (cG w),cR.out hX re (cG w)⟩⟩
theorem pick{α β γ:Type}{P:β->γ->Prop}(f:γ->α):∀(cs:List β) (xs:List α),cs.length=xs.length->(∀(j:Nat) c x,cs[j]? =some c->xs[j]? =some x->∃y,P c y∧f y=x)->∃ys:List γ,ys.map f=xs∧∀(j:Nat) c y,cs[j]? =some c->ys[j]? =some y->P c y
 |[],[],_,_=>⟨[],rfl,fun _ _ _ h=>by simp at h⟩
 |c::cs,x::xs,hl,h=>by
  obtain⟨y,h1,h2⟩:=h 0 c x rfl rfl;obtain⟨ys,h3,h4⟩:=pick f cs xs (by simpa using hl) fun j=>h (j+1);refine⟨y::ys,by rw[List.map_cons,h2,h3],fun j=>?_⟩
  cases j with
  |zero=>intro c' y' e1 e2;injection e1 with e1;injection e2 with e2;subst e1 e2;exact h1
  |succ j=>exact h4 j
 |[],_::_,hl,_=>by cases hl
 |_::_,[],hl,_=>by cases hl
section
variable{S:Nat->Prop}{w:World}{v u:Value}{M:List (List Rat)}{b:List Rat}{n h0:Nat}
end
theorem aCL{α:Type}{M:List (List α)}(hl:M.length=n)(hw:∀r∈M,r.length=n)(hn:n<=60):sW M=0:=by
 have hc:fg M=M.length:=by
  cases M with
  |nil=>rfl
  |cons r t=>rw[hl];exact hw r (aI ..)
 have hE:vE M=0:=by
  unfold vE;rw[if_pos fun r hr=>by rw[hc,hl];exact hw r hr,aK (by omega)]
 unfold sW;rw[hE,hc];simp
theorem aCM(h:n<=12):4^n*44<=800000000:=aV (Nat.mul_le_mul_right 44 (Nat.pow_le_pow_right (by decide) h)) (by decide)
theorem ju(hS:Old S w)(hf:dX w S vn vb vs f)(SY:eP f=0->qc f)(hx:dB w S vx x)(RH:∀q∈x,rl q<=3):
  eA PG N.nd #[.agg #[vn,vb,vs],vx] w (eL w fun v' w2=>(eP f≠0∧v'= .tuple #[.slice none 0 0,.int .i64 (eP f)])∨(eP f=0∧((x.length≠f.cols∧v'= .tuple #[.slice none 0 0,.int .i64 11])∨(x.length=f.cols∧∃vm,v'= .tuple #[vm,.int .i64 0]∧cW w2 (Nf w w2) vm (fU f x))))):=by
 have hw:=bR w;obtain⟨an,cn,ab,cb,aq,cq,rfl,rfl,rfl,RN,RJ,SF⟩:=hf.shape;obtain⟨ax,cx,rfl,TU,Tj⟩:=dL.shape hx;unfold maxLen at Tj;have Pt:f.cols=f.bars.length+f.cV.length:=rfl;obtain⟨e0,EE⟩:∃e,eP f=e:=⟨_,rfl⟩
 refine sH (by simp) ?_;conv=>whnf
 refine cH (cE hw (fun _ w' v w2=>v= .int .i64 e0) (fun O w' r=>(DK (oS hS r) (hf.cJ (kS hw r hS))).mono fun _ _ ⟨v2,e1,e2,e3⟩=>⟨v2,e1,e2,by rw[e3,EE]⟩) ?_);rintro O _ _ _ Od r he hw h_ rfl;clear r;conv=>whnf
 refine dG.mk ?_ ?_<;>intro he
 ·have he:e0≠0:=by simpa using he
  conv=>whnf
  exact rtn hw fun ρe we re=>.inl ⟨by rw[EE];exact he,by rw[EE];rfl⟩
 have he:e0=0:=by simpa using he
 have Om:eP f=0:=by rw[EE,he]
 have Ph:=SY Om;have Ou:=Ph.toFrS;clear EE he;conv=>whnf
 refine cH (cE hw (fun _ w' v w2=>v= .int .i64 (if x.length≠f.cols then 11 else 0)) (fun O w' r=>Gm (hf.cJ (kS hw r hS)) ⟨Ou.b,Ou.s⟩) ?_);rintro O _ _ _ Oa r he hw h_ rfl;clear r he;by_cases Oo:x.length≠f.cols
 ·rw[if_pos Oo];conv=>whnf
  exact rtn hw fun ρe we re=>.inr ⟨Om,.inl ⟨Oo,rfl⟩⟩
 rw[aK Oo];have Pr:x.length=f.cols:=by simpa using Oo
 conv=>whnf
 refine cH (cE hw (fun _ w' v w2=>cW w2 (Nf w' w2) v (fU f x)) (fun O w' r=>Jh Ou.toFrV▸Dz (oS hS r) (hf.cJ (kS hw r hS)) Om Ph (dB.cJ hx (kS hw r hS)) Pr RH) ?_);rintro O _ _ _ Oj r he hw h_ hn;have hM:=cW.dK (S:=FF) hn r.cI (mN h_);clear r he;clear hn;obtain⟨am,cm,rfl,-,-⟩:=dA.shape hM;conv=>whnf
 exact rtn hw fun ρe we re=>.inr ⟨Om,.inr ⟨Pr,_,rfl,cW.out hM re (cG w)⟩⟩
theorem iA(hS:Old S w)(hf:dX w S vn vb vs f)(SY:eP f=0->qc f)(hx:dB w S vx x)(RH:∀q∈x,rl q<=3):
  eA PG N.rf #[.agg #[vn,vb,vs],vx] w (eL w fun v' _=>(eP f≠0∧v'= .tuple #[.bool false,.int .i64 (eP f)])∨(eP f=0∧((x.length≠f.cols∧v'= .tuple #[.bool false,.int .i64 11])∨(x.length=f.cols∧∃d,v'= .tuple #[.bool d,.int .i64 0]∧(d=true↔D8 (fU f x)))))):=by
 have hw:=bR w;obtain⟨an,cn,ab,cb,aq,cq,rfl,rfl,rfl,RN,RJ,SF⟩:=hf.shape;obtain⟨ax,cx,rfl,TU,Tj⟩:=dL.shape hx;unfold maxLen at Tj;have Pt:f.cols=f.bars.length+f.cV.length:=rfl;refine xI (by simp) ?_;conv=>whnf
 refine cH (cP (Φ:=fun _ w' v w2=>(eP f≠0∧v= .tuple #[.slice none 0 0,.int .i64 (eP f)])∨(eP f=0∧((x.length≠f.cols∧v= .tuple #[.slice none 0 0,.int .i64 11])∨(x.length=f.cols∧∃vm,v= .tuple #[vm,.int .i64 0]∧cW w2 (Nf w' w2) vm (fU f x))))) (fun O w' r=>ju (oS hS r) (hf.cJ (kS hw r hS)) SY (dB.cJ hx (kS hw r hS)) RH) ?_);rintro O Pa v1 PJ r he hb (⟨h0,rfl⟩|⟨Om,⟨Oo,rfl⟩|⟨Pr,vm,rfl,hn⟩⟩)
 ·replace hw:=hw.tr hb;clear r he hb;generalize (Pa.heap.size,PJ.heap.size)::[]=Od at*
  conv=>whnf
  refine dG.mk (fun _=>?_) (fun hd=>absurd (by simpa using hd) h0);conv=>whnf
  exact rtn hw fun ρe we re=>.inl ⟨h0,rfl⟩
 ·replace hw:=hw.tr hb;clear r he hb;generalize (Pa.heap.size,PJ.heap.size)::[]=Od at*
  conv=>whnf
  exact rtn hw fun ρe we re=>.inr ⟨Om,.inl ⟨Oo,rfl⟩⟩
 replace hw:=hw.tr hb;have hM:=cW.dK (S:=FF) hn r.cI (iv:=(Pa.heap.size,PJ.heap.size)::[]) aI;clear hn r he hb;generalize (Pa.heap.size,PJ.heap.size)::[]=Od at*
 have Ph:=SY Om;have Ou:=Ph.toFrS;have hn4:=Ou.n4;have SD:=wV (f:=f);have QO:=ID Ph Ou.b6 RH;have Rh:((fU f x).map jd).length=(eI f).length:=by rw[aL,gR]
 have XS:sW ((fU f x).map jd)=0:=aCL (n:=(eI f).length) Rh (fun r hr=>by obtain⟨y,hy,rfl⟩:=aT.1 hr;rw[yz];exact pw y hy) (by omega);obtain⟨am,cm,rfl,-,-⟩:=dA.shape hM;conv=>whnf
 refine cH (cE hw (fun _ w' v w2=>∃d,v= .tuple #[.bool d,.int .i64 0]∧(d=true↔D8 (fU f x))) (fun O w' r=>(Dt (S:=Cf w Od) (h0:=44) (Rel.old r (cG w)) (cW.jd (cW.rel hM r (cG w))) (fun _=>⟨fun y hy=>by obtain⟨y0,QM,rfl⟩:=aT.1 hy;exact NS fun q hq=>by have:=QO y0 QM q hq;omega,by rw[DN];exact QO,by decide,by rw[Rh];exact aCM (by omega)⟩) (by decide)).mono fun _ _ ⟨v2,e1,e2,e3⟩=>⟨v2,e1,e2,e3.elim (fun h=>absurd XS h.1) fun⟨_,d,k1,k2,k3⟩=>⟨d,k1,by rw[DN]at k2 k3;exact⟨k2,k3⟩⟩⟩) ?_);rintro O _ _ _ Oa r he hw h_ ⟨d,rfl,hd⟩;clear hM;clear r he;conv=>whnf
 exact rtn hw fun ρe we re=>.inr ⟨Om,.inr ⟨Pr,d,rfl,hd⟩⟩
theorem Mq(hS:Old S w)(hM:fN w S vm M)(OX:∀r∈M,r.length=M.length)(hR:M.length<=1000)(QO:Ht M h)(h2:2<=h)(hBd:lf h M.length<=90000):
  eA PG N.wm #[vm] w (eL w fun v' w2=>cR w2 (Nf w w2) v' (fc M)):=by
 have hw:=bR w;obtain⟨am,cm,rfl,Ri,Q9⟩:=dA.shape hM;obtain⟨R,VJ⟩:∃R,R=M.length:=⟨_,rfl⟩
 have hmf:=kV M;rw[<-VJ]at Ri Q9 OX hR hBd hM hmf ⊢;unfold maxLen at Q9;refine AP (by simp) ?_;conv=>whnf
 refine⟨Nat×List (List Value)×World×Iv,fun z=>⟨[(0,sV am R cm),(3,.o (.w 0 z.2.1.length)),(4,iN (z.1+1))],[(0,.vec T.Rat 4 z.2.1.flatten)],1,z.2.2.2,z.2.2.1⟩,fun z=>R-z.1,
  fun z=>z.1<=R∧dg w.heap.size w z.2.2.1∧Fc z.2.2.1 (Cf w z.2.2.2) z.2.1 ((fc M).take z.1),?_,?_⟩
 ·intro O w' r
  exact⟨(0,[],w',[]),⟨aO _,hw.tr r.cS,by simp[Fc]⟩,Sub.nil 3 T.Rat 4 rfl (by simp[jw,SV.sc,At.sc,fQ]) r fun ρ1 r1=>
   Sub.gn [] r1⟩
 clear hw;rintro⟨k,css,w1,iv⟩ ⟨hk,hw,hC⟩;dsimp only at hk hw hC ⊢;have QB:css.length=k:=by rw[hC.1,aZ];omega
 have Ok:=eD hC.mV;conv=>whnf
 refine dG.mk ?_ ?_<;>intro OY
 ·have OY:k<R:=by have:((k+1:Nat):Int)<=(R:Int):=aH OY;omega
  conv=>whnf
  refine cH (cE hw (fun _ w' v w2=>cT w2 (Nf w' w2) v (eJ (k+1) (cY M))) (fun O w' r=>aA3 h2 (k+1) (oS hS r) (fN.cJ hM ((kS hw r hS))) (by omega) (fun r hr=>by rw[OX r hr];omega) QO (by omega) (aV (Mm (by omega)) hBd)) ?_);rintro O _ _ PJ Od r he hw h_ hn;replace hC:=hC.cK r (cG w) he (mC h_);have hd:=hn.dK (S:=FF) r.cI (mN h_);clear r;obtain⟨A0,A1,A2,A3,A4,A5,A6,A7,rfl⟩:=hd.shape;conv=>whnf
  have Sr:Fc PJ (Cf w Od) (css++[[.bool A0,.slice A1 A2 A3,.bool A4,.slice A5 A6 A7]]) ((fc M).take (k+1)):=by
   rw[List.take_add_one,lY (by omega),Bj];exact hC.push hd.sX
  have PR:css.flatten++([.bool A0,.slice A1 A2 A3,.bool A4,.slice A5 A6 A7]:List Value)=(css++([[.bool A0,.slice A1 A2 A3,.bool A4,.slice A5 A6 A7]]:List (List Value))).flatten:=by simp
  clear hC hd;refine .inl ?_;conv=>whnf
  refine⟨by omega,by omega,by unfold maxLen;omega,?_⟩;conv=>whnf
  refine⟨((k+1+1:Nat):Int),wo,?_⟩;conv=>whnf
  intro ρ3 w3 r3;exact⟨(k+1,css++[[.bool A0,.slice A1 A2 A3,.bool A4,.slice A5 A6 A7]],w3,_),⟨OY,hw.tr r3.cS,Sr.rel r3 (cG w)⟩,Sub.gn [(0,2)] r3 ⟨by dsimp only;rw[<-PR];rfl,trivial⟩ ⟨rfl,by dsimp only;rw[List.length_append,List.length_singleton];rfl,rfl,trivial⟩,by dsimp only;omega⟩
 have OY:k=R:=by have:¬((k+1:Nat):Int)<=(R:Int):=aG OY;omega
 conv=>whnf
 intro ρe we re;refine⟨_,rfl,hw.tr re.cS,?_⟩;rw[List.take_of_length_le (by omega)]at hC;have h5:=re.gz (id:=0) (sz:=4) (m:=css.length) rfl Ok (by unfold maxLen;omega) (by decide) hC.one;have h6:=hC.rel re (cG w);refine⟨css,?_,h6.1,h6.mV,fun j cs q k1 k2=>(h6.2 j cs q k1 k2).cL fun _ hg=>Cv.nw hg re⟩;rw[<-hC.1];exact h5.cL fun g hg=>.inr hg
theorem zn(hS:Old S w)(hM:fN w S vm M)(OX:∀r∈M,r.length=M.length)(hR:M.length<=1000)(QO:Ht M h)(h2:2<=h)(hBd:lf h M.length<=90000):
  eA PG N.rn #[vm] w (eL w fun v' _=>∃d,v'= .bool d∧(d=true->D8 M)∧(D8 M->d=true)):=by
 have hw:=bR w;obtain⟨am,cm,rfl,Ri,Q9⟩:=dA.shape hM;have WG:=hM;have hrow1:=OX;obtain⟨R,VJ⟩:∃R,R=M.length:=⟨_,rfl⟩
 have hmf:=kV M;rw[<-VJ]at Ri Q9 OX hM hmf ⊢;unfold maxLen at Q9;refine xK (by simp) ?_;conv=>whnf
 refine⟨Nat×World×Iv,fun z=>⟨[(0,sV am R cm),(3,iN z.1)],[],0,z.2.2,z.2.1⟩,fun z=>R-z.1,
  fun z=>z.1<=R∧dg w.heap.size w z.2.1∧∀i k,i<z.1->k<i->cY M i k=cY M k i,?_,?_⟩
 ·intro O w' r;exact⟨(0,w',[]),⟨aO _,hw.tr r.cS,fun i k hi=>by dsimp only at hi;omega⟩,Sub.gn [] r⟩
 clear hw;rintro⟨i,w1,iv⟩ ⟨hi,hw,hs⟩;dsimp only at hi hw hs ⊢;conv=>whnf
 refine dG.mk ?_ ?_<;>intro OW
 ·have OW:i<R:=by simpa using OW
  conv=>whnf
  refine⟨Nat×World×Iv,fun z=>⟨[(0,sV am R cm),(3,iN i),(4,iN z.1)],[],0,z.2.2,z.2.1⟩,fun z=>i-z.1,
   fun z=>z.1<=i∧dg w.heap.size w z.2.1∧∀k,k<z.1->cY M i k=cY M k i,?_,?_⟩
  ·intro O w' r;exact⟨(0,w',_),⟨aO _,hw.tr r.cS,fun k hk=>by dsimp only at hk;omega⟩,Sub.gn [] r⟩
  clear hw;rintro⟨k,w1,iv⟩ ⟨hk,hw,ht⟩;dsimp only at hk hw ht ⊢;conv=>whnf
  refine dG.mk ?_ ?_<;>intro OY
  ·have OY:k<i:=by simpa using OY
   obtain⟨rd,Wj⟩:∃r,M[i]? =some r:=⟨_,aB (by omega)⟩
   have SO:=OX rd (aD Wj);obtain⟨qd,RC⟩:∃q,rd[k]? =some q:=⟨_,aB (by omega)⟩
   have hed:cY M i k=qd:=by unfold cY;simp[List.getD,Wj,RC]
   obtain⟨add,ud,Oy,hRd,k1d,k2d⟩:=dA.load hM Wj;obtain⟨aud,cud,rfl,-,-⟩:=dL.shape hRd;obtain⟨aed,csd,haed,XJ,-,WD⟩:=dL.load hRd RC;obtain⟨d0,d1,d2,d3,d4,d5,d6,d7,rfl,XJ⟩:=XJ;obtain⟨re,Xy⟩:∃r,M[k]? =some r:=⟨_,aB (by omega)⟩
   have hle:=OX re (aD Xy);obtain⟨qe,TS⟩:∃q,re[i]? =some q:=⟨_,aB (by omega)⟩
   have hee:cY M k i=qe:=by unfold cY;simp[List.getD,Xy,TS]
   obtain⟨ade,ue,hae,VJ,k1e,k2e⟩:=dA.load hM Xy;obtain⟨aue,cue,rfl,-,-⟩:=dL.shape VJ;obtain⟨aee,cse,haee,XK,-,WE⟩:=dL.load VJ TS;obtain⟨e0,e1,e2,e3,e4,e5,e6,e7,rfl,XK⟩:=XK;conv=>whnf
   refine cO hτ dZ [.x 0,.x 1,.x 2,.x 3,.x 4,.x 5,.x 6,.x 7,.x 8,.x 9,.x 10,.x 11,.x 12,.x 13,.x 14,.x 15] (by kernel_rfl) (by kernel_rfl) ?_;conv=>whnf
   refine⟨add,Oy,by omega,?_⟩;conv=>whnf
   refine⟨.slice aud rd.length cud,fun O w' r=>?_,?_⟩
   ·rw[aF,cM (w:=w) (w2:=w') (by rw[dD];exact(hw.tr r.cS).block _<|hS _<|k1d)];exact k2d
   conv=>whnf
   refine⟨aed,haed,by omega,?_⟩;conv=>whnf
   refine⟨[.bool d0,.slice d1 d2 d3,.bool d4,.slice d5 d6 d7],rfl,fun O w' r j u hu=>?_,?_⟩
   ·obtain⟨z1,z2⟩:=WD j u hu;rw[aF,cM (w:=w) (w2:=w') (by rw[dD,dD];exact(hw.tr r.cS).block _<|hS _<|z1)];exact z2
   conv=>whnf
   refine⟨ade,hae,by omega,?_⟩;conv=>whnf
   refine⟨.slice aue re.length cue,fun O w' r=>?_,?_⟩
   ·rw[aF,cM (w:=w) (w2:=w') (by rw[dD];exact(hw.tr r.cS).block _<|hS _<|k1e)];exact k2e
   conv=>whnf
   refine⟨aee,haee,by omega,?_⟩;conv=>whnf
   refine⟨[.bool e0,.slice e1 e2 e3,.bool e4,.slice e5 e6 e7],rfl,fun O w' r j u hu=>?_,?_⟩
   ·obtain⟨z1,z2⟩:=WE j u hu;rw[aF,cM (w:=w) (w2:=w') (by rw[dD,dD];exact(hw.tr r.cS).block _<|hS _<|z1)];exact z2
   conv=>whnf
   refine cE hw (fun _ w' v w2=>v= .int .i64 (rs (qd-qe))) (fun O w' r=>aDC (oS hS r) (XJ.cJ ((kS hw r hS))) (XK.cJ ((kS hw r hS)))) ?_;rintro O _ _ _ Pw r he hw h_ rfl;clear r;conv=>whnf
   clear hRd VJ XJ XK WD WE k1d k1e k2d k2e;refine dG.mk ?_ ?_<;>intro hc
   ·have hc:qd≠qe:=fun e=>by rw[L0.2 e]at hc;simp at hc
    conv=>whnf
    exact rtn hw fun ρe we re=>⟨false,rfl,fun h=>(by cases h),fun h=>absurd (by rw[<-hed,<-hee];exact h.1 i k (by omega) OY) hc⟩
   have hc:qd=qe:=L0.1 (by simpa using hc);conv=>whnf
   refine⟨((k+1:Nat):Int),wo,?_⟩;conv=>whnf
   intro ρ3 w3 r3;refine⟨(k+1,w3,_),⟨OY,hw.tr r3.cS,fun j hj=>?_⟩,Sub.gn [] r3,by dsimp only;omega⟩;rcases aP j k with h1|h1
   ·exact ht j h1
   ·rw[show j=k by dsimp only at hj;omega,hed,hee,hc]
  have OY:k=i:=aQ hk (by simpa using OY);conv=>whnf
  refine⟨((i+1:Nat):Int),wo,?_⟩;conv=>whnf
  intro ρ3 w3 r3;refine⟨(i+1,w3,_),⟨OW,hw.tr r3.cS,fun i2 k2 h1 h2=>?_⟩,Sub.gn [] r3,by dsimp only;omega⟩;rcases aP i2 i with h3|h3
  ·exact hs i2 k2 h3 h2
  ·obtain rfl:i2=i:=by dsimp only at h1;omega
   exact ht k2 (by omega)
 have OW:i=R:=aQ hi (by simpa using OW);conv=>whnf
 refine cH (cE hw (fun _ w' v w2=>cR w2 (Nf w' w2) v (fc M)) (fun O w' r=>Mq (oS hS r) (fN.cJ hM ((kS hw r hS))) hrow1 hR QO h2 hBd) ?_);rintro O _ _ _ Q1 r he hw h_ hn;have QJ:=cR.dK (S:=FF) hn r.cI (mN h_);clear r;clear hn;obtain⟨a1,c1,rfl,-,-⟩:=dL.shape QJ;rw[hmf]at QJ ⊢;conv=>whnf
 refine⟨Nat×World×Iv,fun z=>⟨[(5,sV a1 R c1),(6,iN z.1)],[],0,z.2.2,z.2.1⟩,fun z=>R-z.1,
  fun z=>z.1<=R∧dg w.heap.size w z.2.1∧cR z.2.1 (Cf w z.2.2) (.slice a1 R c1) (fc M)∧∀j q,j<z.1->(fc M)[j]? =some q->0<q,?_,?_⟩
 ·intro O w' r;exact⟨(0,w',_),⟨aO _,hw.tr r.cS,cR.rel QJ r (cG w),fun j q hj=>by dsimp only at hj;omega⟩,Sub.gn [] r⟩
 clear hw QJ;rintro⟨k,w2,iv⟩ ⟨hk,hw,QJ,hp⟩;dsimp only at hk hw QJ hp ⊢;conv=>whnf
 refine dG.mk ?_ ?_<;>intro OY
 ·have OY:k<R:=by simpa using OY
  obtain⟨q,hq⟩:∃q,(fc M)[k]? =some q:=⟨_,aB (by omega)⟩
  obtain⟨ad1,cs1,ha1,hF1,_,QV⟩:=dL.load QJ hq;obtain⟨f0,f1,f2,f3,f4,f5,f6,f7,rfl,hF1⟩:=hF1;conv=>whnf
  refine⟨ad1,ha1,by omega,?_⟩;conv=>whnf
  refine⟨[.bool f0,.slice f1 f2 f3,.bool f4,.slice f5 f6 f7],rfl,fun O w' r j u hu=>?_,?_⟩
  ·obtain⟨z1,z2⟩:=QV j u hu;rw[aF,cM (w:=w2) (w2:=w') (by rw[dD,dD];exact Rel.same r (cG w) z1)];exact z2
  conv=>whnf
  refine cH (cE hw (fun _ w' v w2=>v= .int .i64 (rs q)) (fun O w' r=>yp (Rel.old r (cG w)) (hF1.rel r (cG w))) ?_);rintro O _ _ _ RS r he hw h_ rfl;replace QJ:=cR.cK QJ r (cG w) he (mC h_);clear r;conv=>whnf
  clear hF1 QV;refine dG.mk ?_ ?_<;>intro hc
  ·have hc:¬0<q:=fun e=>by have h1:=j9.2 e;have h2:rs q<=0:=aH hc;omega
   conv=>whnf
   exact rtn hw fun ρe we re=>⟨false,rfl,fun h=>(by cases h),fun h=>absurd (h.2 q (aD hq)) hc⟩
  have hc:0<q:=j9.1 (by have h2:¬rs q<=0:=aG hc;omega);conv=>whnf
  refine⟨((k+1:Nat):Int),wo,?_⟩;conv=>whnf
  intro ρ3 w3 r3;refine⟨(k+1,w3,_),⟨OY,hw.tr r3.cS,cR.rel QJ r3 (cG w),fun j p hj Vu=>?_⟩,Sub.gn [] r3,by dsimp only;omega⟩;rcases aP j k with h1|h1
  ·exact hp j p h1 Vu
  ·obtain rfl:j=k:=by dsimp only at hj;omega
   rw[hq]at Vu;injection Vu with Vu;exact Vu▸hc
 have OY:k=R:=aQ hk (by simpa using OY);conv=>whnf
 intro ρe we re
 exact⟨_,rfl,hw.tr re.cS,true,rfl,fun _=>⟨fun i k hi hk=>hs i k (by omega) hk,fun q hq=>by
   obtain⟨j,hj⟩:=aS hq;have TX:=(aE.1 hj).1
   exact hp j q (by omega) hj⟩,fun _=>rfl⟩
end Go.Ex
