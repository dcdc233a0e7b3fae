/- A part of the proof: texts X193 to X200. Each tells its conditions in its theorems. -/
import Derived.Test.YtkdcaknoaeicdaaGreatP14
namespace Go.Ex
open Go Go.Sx Go.Proofs
end Go.Ex
namespace Go.Sx
open Go Go.Ex Go.Proofs
variable{cs:List Value}{T:Nat->Prop}{O:Nat->Sx.df}
theorem Rel.CT{H:Hp}{nx:Nat}{iv:Iv}{B:Nat}{w w':World}(r:Rel H nx iv B w O w'){id t m sz:Nat}(h:dA H id=some (.vec t sz cs))(hm:cs.length=m*sz)(hm1:m<=maxLen)(hs:0<sz)(h1:∀u∈cs,u.oneCell'=true)(hT:(O id).nil=false->T (O id).g):
  ig w' T sz ((At.w id m).den O) cs m:=by
 rcases r.fits h with⟨hn,rfl⟩|⟨hn,spare,h2,h3,h4⟩
 ·have hm0:m=0:=by
   rcases bJ m with h|h
   ·exact h
   ·have:=Nat.mul_pos h hs;simp at hm;omega
  subst hm0;have hden:(At.w id 0).den O= .slice none 0 0:=by simp[At.den,hn]
  rw[hden];exact⟨aP _,by simp,by simp,none,0,rfl,aG _,fun j u h=>by cases h⟩
 ·have hden:(At.w id m).den O= .slice (some ⟨(O id).g,0,none⟩) m (O id).cap:=by simp[At.den,hn]
  rw[hden];refine⟨hm1,hm,h1,_,_,rfl,?_,fun j u hu=>⟨_,rfl,hT hn,?_⟩⟩
  ·rw[List.length_append,hm]at h3;exact bo (show m*sz<=(O id).cap*sz by omega) hs
  ·rw[dP,cell_of h2,aV,aM (aE.1 hu).1];exact hu
end Go.Sx
namespace Go.Ex
open Go Go.Sx Go.Proofs
variable{p:List Rat}{g:Nat}{S T:Nat->Prop}
section
variable{S:Nat->Prop}{H:Hp}{nx:Nat}{iv iv':Iv}{B n:Nat}{w w' w2:World}{O:Nat->Sx.df}{v:Value}{qs:List Rat}
theorem Bs.fresh(r:Rel H nx iv B w O w')(hx:∀g,v.ownBlock=some g->g<w'.heap.size)(hg:Nf w' w2 g):Bs S B ((w'.heap.size,w2.heap.size)::iv) v g:=by
 rcases hg with hg|hg
 ·exact hg.elim
 ·exact⟨.inr ⟨by have:=r.cD;omega,_,_,aJ,hg.1,hg.2⟩,fun e=>by have:=hx g e;omega⟩
theorem Bs.solved(r:Rel H nx iv B w O w')(hx:∀g,v.ownBlock=some g->g<w'.heap.size)(hT:∀g,T g->Bs S B iv v g)(hg:Cv T w'.heap.size [(w'.heap.size,w2.heap.size)] g):Bs S B ((w'.heap.size,w2.heap.size)::iv) v g:=by
 rcases hg with hg|⟨h1,lo,hi,h2,h3,h4⟩
 ·exact Bs.mono (fun p hp=>aC _ hp) (hT g hg)
 ·simp at h2;obtain⟨rfl,rfl⟩:=h2;exact Bs.fresh r hx (.inr ⟨h3,h4⟩)
end
section
variable{S:Nat->Prop}{H:Hp}{nx:Nat}{iv iv':Iv}{B:Nat}{w w' w2:World}{O:Nat->Sx.df}{v v0:Value}{q:Rat}
theorem lA.rel(h:cP w (Bs S B iv v) v0 q)(r:Rel H nx iv B w O w')(hS:∀g,S g->g<B):cP w' (Bs S B iv v) v0 q:=cP.cG h (Bs.same r hS)
theorem lA.fresh(h:cP w2 (Nf w' w2) v0 q)(r:Rel H nx iv B w O w')(hx:∀g,v.ownBlock=some g->g<w'.heap.size):cP w2 (Bs S B ((w'.heap.size,w2.heap.size)::iv) v) v0 q:=cP.cI h fun _ hg=>Bs.fresh r hx hg
theorem lA.cv(h:cP w (Bs S B iv v) v0 q):cP w (Cv S B iv) v0 q:=cP.cI h fun _ hg=>hg.1
end
section
variable{S:Nat->Prop}{H:Hp}{nx:Nat}{iv iv':Iv}{B:Nat}{w w' w2:World}{O:Nat->Sx.df}{v v0:Value}{K:List (List Rat)}
theorem fc.rel(h:cR w (Bs S B iv v) v0 K)(r:Rel H nx iv B w O w')(hS:∀g,S g->g<B):cR w' (Bs S B iv v) v0 K:=cR.cG h (Bs.same r hS)
theorem fc.cF(h:cR w (Bs S B iv v) v0 K)(r:Rel H nx iv B w O w')(hS:∀g,S g->g<B)(he:Ext w' w2)(hm:∀p,p∈iv->p∈iv'):cR w2 (Bs S B iv' v) v0 K:=
 cR.cI (cR.cG (fc.rel h r hS) fun g hg=>he.block g (Rel.old r hS g hg.1)) fun _ hg=>Bs.mono hm hg
theorem fc.fresh(h:cR w2 (Nf w' w2) v0 K)(r:Rel H nx iv B w O w')(hx:∀g,v.ownBlock=some g->g<w'.heap.size):cR w2 (Bs S B ((w'.heap.size,w2.heap.size)::iv) v) v0 K:=cR.cI h fun _ hg=>Bs.fresh r hx hg
theorem fc.kept(h:cR w (Bs S B iv v) v0 K)(r:Rel H nx iv B w O w')(hS:∀g,S g->g<B)(hg:w'.grownBy w2 v.ownBlock):cR w2 (Bs S B iv v) v0 K:=cR.cG h (Bs.kept r hS hg fun _ e=>e)
end
section
variable{S:Nat->Prop}{H:Hp}{nx:Nat}{iv iv':Iv}{B:Nat}{w w' w2:World}{O:Nat->Sx.df}{v v0:Value}{xs:List Rat}
theorem eR.rel(h:cO w (Bs S B iv v) v0 xs)(r:Rel H nx iv B w O w')(hS:∀g,S g->g<B):cO w' (Bs S B iv v) v0 xs:=cO.cG h (Bs.same r hS)
theorem eR.cF(h:cO w (Bs S B iv v) v0 xs)(r:Rel H nx iv B w O w')(hS:∀g,S g->g<B)(he:Ext w' w2)(hm:∀p,p∈iv->p∈iv'):cO w2 (Bs S B iv' v) v0 xs:=
 cO.cI (cO.cG (eR.rel h r hS) fun g hg=>he.block g (Rel.old r hS g hg.1)) fun _ hg=>Bs.mono hm hg
theorem eR.fresh(h:cO w2 (Nf w' w2) v0 xs)(r:Rel H nx iv B w O w')(hx:∀g,v.ownBlock=some g->g<w'.heap.size):cO w2 (Bs S B ((w'.heap.size,w2.heap.size)::iv) v) v0 xs:=cO.cI h fun _ hg=>Bs.fresh r hx hg
theorem eR.cv(h:cO w (Bs S B iv v) v0 xs):cO w (Cv S B iv) v0 xs:=cO.cI h fun _ hg=>hg.1
theorem eR.kept(h:cO w (Bs S B iv v) v0 xs)(r:Rel H nx iv B w O w')(hS:∀g,S g->g<B)(hg:w'.grownBy w2 v.ownBlock):cO w2 (Bs S B iv v) v0 xs:=cO.cG h (Bs.kept r hS hg fun _ e=>e)
end
section
variable{S:Nat->Prop}{H:Hp}{nx:Nat}{iv iv':Iv}{B:Nat}{w w' w2:World}{O:Nat->Sx.df}{v v0:Value}{rv:List Value}{K:List (List Rat)}
theorem mG.rel(h:dU w (Bs S B iv v) rv K)(r:Rel H nx iv B w O w')(hS:∀g,S g->g<B):dU w' (Bs S B iv v) rv K:=dU.cG h (Bs.same r hS)
theorem mG.cF(h:dU w (Bs S B iv v) rv K)(r:Rel H nx iv B w O w')(hS:∀g,S g->g<B)(he:Ext w' w2)(hm:∀p,p∈iv->p∈iv'):dU w2 (Bs S B iv' v) rv K:=
 dU.cI (dU.cG (mG.rel h r hS) fun g hg=>he.block g (Rel.old r hS g hg.1)) fun _ hg=>Bs.mono hm hg
end
section
variable{S:Nat->Prop}{H:Hp}{nx:Nat}{iv iv':Iv}{B:Nat}{w w' w2:World}{O:Nat->Sx.df}{v v0:Value}{css:List (List Value)}{xs:List Rat}
theorem jP.rel(h:eP w (Bs S B iv v) css xs)(r:Rel H nx iv B w O w')(hS:∀g,S g->g<B):eP w' (Bs S B iv v) css xs:=eP.cG h (Bs.same r hS)
theorem jP.cF(h:eP w (Bs S B iv v) css xs)(r:Rel H nx iv B w O w')(hS:∀g,S g->g<B)(he:Ext w' w2)(hm:∀p,p∈iv->p∈iv'):eP w2 (Bs S B iv' v) css xs:=
 eP.cI (eP.cG (jP.rel h r hS) fun g hg=>he.block g (Rel.old r hS g hg.1)) fun _ hg=>Bs.mono hm hg
end
theorem Dr{st:List (List Rat)}{c x:List Rat}{a b:Nat}(hx:∀q∈x,rl q<=a)(hs:∀r∈st,∀q∈r,rl q<=b)(hc:∀q∈c,rl q<=b):∀i,∀q∈js st c x i,rl q<=a+i*(2*b+5)
 |0,q,hq=>by have:=hx q hq;omega
 |i+1,q,hq=>by
  rw[js]at hq;obtain⟨k,hk⟩:=aS hq;rw[List.getElem?_mapIdx]at hk;obtain⟨p,hp,rfl⟩:=Option.map_eq_some_iff.1 hk;have h1:=Dr hx hs hc i p (aD hp);have h0:rl 0<=2:=by decide
  have h2:rl (c.getD i 0)<=b+2:=by
   rcases aQ i c.length with h|h
   ·rw[getD_some (aB h)];have:=hc _ (aX h);omega
   ·rw[iZ h];omega
  have h3:rl ((st.getD i []).getD k 0)<=b+2:=by
   rcases aQ i st.length with h|h
   ·rw[getD_some (d:=[]) (aB h)];rcases aQ k (st[i]).length with h4|h4
    ·rw[getD_some (aB h4)];have:=hs _ (aX h) _ (aX h4);omega
    ·rw[iZ h4];omega
   ·rw[show st.getD i []=[] by rw[List.getD,List.getElem?_eq_none h];rfl];exact a9 h0 (Nat.le_add_left _ _)
  have h4:=nL p (c.getD i 0*(st.getD i []).getD k 0);have h5:=iF (c.getD i 0) ((st.getD i []).getD k 0);rw[Nat.add_mul];omega
set_option maxHeartbeats 2000000 in
set_option maxRecDepth 8000 in
theorem HJ{w:World}{vn vb vs u:Value}{f:eh}(hS:Old S w)(hf:dV w S vn vb vs f)(herr:eK f=0)(hfb:uF f)(hp:cO w S u p)(hpl:p.length=3*f.nodes.length)(hpq:∀q∈p,rl q<=100000)(hb:Bl (da p (-1))):
  dm PG N.k9 #[.agg #[vn,vb,vs],u] w (eB w fun v' w2=>(gR (cQ f) (da p (-1)) f.cols=none∧v'= .tuple #[.slice none 0 0,.bool false])∨∃x vx,mV (cQ f) f.cols (fun t=>(cW f).getD t 0) (da p (-1)) x∧v'= .tuple #[vx,.bool true]∧cO w2 (Nf w w2) vx x):=by
 have hw:cV w.heap.size w w:=cV.refl;obtain⟨an,cn,ab,cb,aq,cq,rfl,rfl,rfl,hmn,hmb,hms⟩:=hf.shape;have hok:=qA herr;have hlen:=ff f;have htl:=j1 f;have hc18:=hfb.IG;have hr12:=hfb.Kz;have hfl:=kL f;have hcols:f.cols=f.bars.length+f.cU.length:=rfl;obtain⟨ap,cp,rfl,hcp,hmp⟩:=dL.shape hp;have hbl:(da p (-1)).length=(cQ f).length:=by rw[da,aL,htl];exact hpl
 have hw0:=hfb.Fs hb;have hz0:=hfb.II (b:=da p (-1));refine l8 (by simp) ?_;refine cC (cE hw (fun _ w' v w2=>(∃vr,v= .agg #[vr,.int .i64 f.cols]∧cR w2 (Nf w' w2) vr (cQ f))∧fe f.cols (cQ f)∧Ht (cQ f) 2) (fun O w' r=>n9 (S:=S) (oS hS r) (hf.cG (kS hw r hS)) hok) ?_);rintro O wa1 v1 wb1 iv1 r he hw h_ ⟨⟨vr,rfl,k1⟩,-,-⟩;have hM:=cR.c9 (S:=fun _=>False) k1 r.cD (mN h_);clear r;obtain⟨am,cm,rfl,hcm,hmm⟩:=de.shape hM;refine cJ hτ db [.x 0,.x 1,.x 2,.x 3,.x 4,.x 5,.x 6,.x 7,.x 8,.x 9] (by kernel_rfl) (by kernel_rfl) ?_;refine cE hw (fun _ w' v w2=>cP w2 (Nf w' w2) v ((-1:Int):Rat)) (fun O w' r=>jK (-1) w' (by decide) (by decide)) ?_;rintro O wa2 v2 wb2 iv2 r he hw h_ hn;replace hM:=cR.cF hM r (cB w) he (mC h_);have hd:=hn.c9 (S:=fun _=>False) r.cD (mN h_);clear r;obtain⟨s2_0,s2_1,s2_2,s2_3,s2_4,s2_5,s2_6,s2_7,rfl⟩:=hd.shape;refine cE hw (fun _ w' v w2=>dS w2 (fun _=>False) w'.heap.size [(w'.heap.size,w2.heap.size)] v p.length (da p (-1))) (fun O w' r=>ub (S:=Cv S w.heap.size iv2) (Rel.old r hS) (cX.cI (cO.l (cO.cG hp (kS hw r hS)) fun q hq=>by have:=hpq q hq;omega) fun g hg=>.inl hg) (((hd.rel r (cB w)).l (by decide)).cI fun g hg=>Av hg) (by omega)) ?_;rintro O wa3 v3 wb3 iv3 r he hw h_ hn;replace hM:=cR.cF hM r (cB w) he (mC h_);clear hd;have hB:=hn.c9 (S:=fun _=>False) r.cD (mN h_);clear r;clear hn;obtain⟨a3,c3,rfl,hc3⟩:=hB.row.form;refine cL (Φ:=fun _ w' v w2=>(gR (cQ f) (da p (-1)) f.cols=none∧v= .tuple #[.slice none 0 0,.bool false])∨∃x vx,gR (cQ f) (da p (-1)) f.cols=some x∧v= .tuple #[vx,.bool true]∧dS w2 (Cf w iv3) w'.heap.size [(w'.heap.size,w2.heap.size)] vx f.cols x) (fun O w' r=>Aa (M:=cQ f) (b:=da p (-1)) hlen hw0▸tU (C:=Cf w iv3) (S:=Cf w iv3) (h:=30) (Rel.old r (cB w)) (Rel.old r (cB w)) (cR.rel hM r (cB w)) ((hB.rel r (cB w)).c) hbl hlen (by omega) (by omega) (zP (iw hlen) hw0 od (by rw[sW]at *;omega)) (by decide)) ?_;rintro O wa4 v4 wb4 r he hb (⟨hno,rfl⟩|⟨x0,vx,hx0,rfl,k2⟩)
 ·replace hw:=hw.tr hb;clear r he hb;intro ρe we re;exact⟨_,rfl,hw.tr re.cM,.inl ⟨hno,rfl⟩⟩
 replace hw:=hw.tr hb;replace hM:=cR.cF (iv':=(wa4.heap.size,wb4.heap.size)::iv3) hM r (cB w) he fun x hx=>aC _ hx;have hX:=k2.LL r.cD;clear r he hb k2 hB;generalize (wa4.heap.size,wb4.heap.size)::iv3=iv4 at*
 obtain⟨ax,cx,rfl,hcx⟩:=hX.row.form;obtain⟨hx0l,-⟩:=kY hlen hx0;have hx0D:=hfb.MA hb hx0;have hx0r:∀q∈x0,rl q<=26:=fun q hq=>by
  obtain⟨D,hD⟩:=hx0D;have h1:=hD.rl q hq;have h2:ln (wt 25)<=26:=fg.2 (F6 (by decide));omega
 have hw1:=hfb.IJ hx0D;have hz1:=hfb.Ft (b:=gE (cT (cQ f) f.cols) (cW f) x0);obtain⟨c,hc,hcl,hfrc⟩:=hfb.Gf.force (fl:=cW f) hx0;have hcr:=hfb.LB hx0D hc;have hKr:∀r∈cT (cQ f) f.cols,∀q∈r,rl q<=14:=fun r hr q hq=>by
  obtain⟨D,hD⟩:=hfb.M7;have h1:=hD.rl r hr q hq;have h2:ln (wt 13)<=14:=fg.2 (F6 (by decide));omega
 have hKl:=kZ (cQ f) f.cols;have hK18:=hfb.KZ;have hSl:=nI (cT (cQ f) f.cols) (cW f);have hfx:=hfb.fx;have hsolve:=Aa (M:=eM (cT (cQ f) f.cols) (cW f)) (b:=gE (cT (cQ f) f.cols) (cW f) x0) hSl hw1;rw[hc]at hsolve;have hredB:=zP (M:=dq (eM (cT (cQ f) f.cols) (cW f)) (gE (cT (cQ f) f.cols) (cW f) x0)) (h:=1930) (iw hSl) hw1 od (by omega);refine cJ hτ db [.x 0,.x 2,.x 1,.x 3,.x 4,.x 5] (by kernel_rfl) (by kernel_rfl) ?_;refine cL (Φ:=fun _ w' v w2=>cR w2 (Nf w' w2) v (cT (cQ f) f.cols)) (fun O w' r=>E4 (M:=cQ f) (n:=f.cols) hlen hfb.s3▸FK (C:=Cf w iv4) (S:=Cf w iv4) (h:=20) (Rel.old r (cB w)) (Rel.old r (cB w)) (cR.rel hM r (cB w)) hlen (by omega) (by omega) (zP hlen hfb.s3 (by decide) (by have:=hfb.size;omega)) (FL hlen hfb.s3 (by decide) (by have:=hfb.size;omega)) (by decide)) ?_;rintro O wa5 v5 wb5 r he hb1 hn;replace hw:=hw.tr hb1;have hxo:∀g,(Value.slice ax f.cols cx).ownBlock=some g->g<wa5.heap.size:=fun g e=>Rel.old r (cB w) g (hX.new g e);clear hM;replace hX:=hX.cF (iv':=(wa5.heap.size,wb5.heap.size)::iv4) r (cB w) he fun x hx=>aC _ hx;have hK:=fc.fresh (S:=fun _=>False) (v:=(.slice ax f.cols cx)) hn r hxo;clear r he hb1 hxo hn;generalize (wa5.heap.size,wb5.heap.size)::iv4=iv5 at*
 obtain⟨ak,ck,rfl,hck,hmk⟩:=de.shape hK;refine cL (Φ:=fun _ w' v w2=>cX w2 (Nw S w' w2) v (cW f)) (fun O w' r=>qF (S:=S) (oS hS r) (hf.cG (kS hw r hS)) hok) ?_;rintro O wa6 v6 wb6 r he hb1 hn;replace hw:=hw.tr hb1;have hxo:∀g,(Value.slice ax f.cols cx).ownBlock=some g->g<wa6.heap.size:=fun g e=>Rel.old r (cB w) g (hX.new g e);replace hX:=hX.cF (iv':=(wa6.heap.size,wb6.heap.size)::iv5) r (cB w) he fun x hx=>aC _ hx;replace hK:=fc.cF (iv':=(wa6.heap.size,wb6.heap.size)::iv5) hK r (cB w) he fun x hx=>aC _ hx;have hL:=cX.cI (S':=Cv S w.heap.size ((wa6.heap.size,wb6.heap.size)::iv5)) hn fun g hg=>hg.elim .inl fun h=>.inr ⟨by have:=r.cD;omega,_,_,aJ,h.1,h.2⟩;clear r he hb1 hxo hn;generalize (wa6.heap.size,wb6.heap.size)::iv5=iv6 at*
 obtain⟨al,cl,rfl,hcl2,hml⟩:=dL.shape hL;rw[hfl]
 refine⟨Nat×List Value×List (List Value)×World×Iv,fun z=>⟨[(7,.o (.v (.slice ax f.cols cx))),(9,.o (.v (.slice ak (cT (cQ f) f.cols).length ck))),(10,.o (.v (.slice al f.cols cl))),(11,.o (.p 2 0)),(43,.o (.v (.slice ak (cT (cQ f) f.cols).length ck))),(44,.o (.v (.int .i64 (cT (cQ f) f.cols).length))),(12,.o (.w 4 z.2.2.1.length)),(45,.o (.v (.int .i64 ((z.1:Nat):Int))))],[(2,.box T.dc [.w 3 z.2.1.length,.v (.int .i64 (cT (cQ f) f.cols).length)]),(3,.vec T.gO 1 z.2.1),(4,.vec T.Rat 4 z.2.2.1.flatten)],5,z.2.2.2.2,z.2.2.2.1⟩,fun z=>(cT (cQ f) f.cols).length-z.1,
  fun z=>z.1<=(cT (cQ f) f.cols).length∧cV w.heap.size w z.2.2.2.1∧dS z.2.2.2.1 (fun _=>False) w.heap.size z.2.2.2.2 (.slice ax f.cols cx) f.cols x0∧cR z.2.2.2.1 (Bs (fun _=>False) w.heap.size z.2.2.2.2 (.slice ax f.cols cx)) (.slice ak (cT (cQ f) f.cols).length ck) (cT (cQ f) f.cols)∧cX z.2.2.2.1 (Cv S w.heap.size z.2.2.2.2) (.slice al f.cols cl) (cW f)∧dU z.2.2.2.1 (Bs (fun _=>False) w.heap.size z.2.2.2.2 (.slice ax f.cols cx)) z.2.1 ((eM (cT (cQ f) f.cols) (cW f)).take z.1)∧eP z.2.2.2.1 (Bs (fun _=>False) w.heap.size z.2.2.2.2 (.slice ax f.cols cx)) z.2.2.1 ((gE (cT (cQ f) f.cols) (cW f) x0).take z.1),?_,?_⟩
 ·intro O w' r3;exact⟨(0,[],[],w',_),⟨aP _,hw.tr r3.cM,hX.rel r3 (cB w),fc.rel hK r3 (cB w),by have:=cX.rel hL r3 hS;rw[hfl]at this;exact this,by simp[dU],eP.nil⟩,Sub.zx 2 0 T.gO 1 rfl rfl (by simp[jn,SV.sc,At.sc,fW]) r3 fun ρ1 r1=>Sub.nil 12 T.Rat 4 rfl (by simp[jn,SV.sc,At.sc,fW]) r1 fun ρ2 r2=>Sub.gn [] r2⟩
 clear hw hX hK hL;rintro⟨i,rv,rc,w7,iv⟩ ⟨hi,hw,hX,hK,hL,hR,hG⟩;dsimp only at hi hw hX hK hL hR hG ⊢;have hrl:rv.length=i:=by rw[hR.1,aY,eM,aL];omega
 have hgl:rc.length=i:=by rw[hG.len,aY,gE,aL];omega
 have hgf:=e9 hG.four;refine dI.mk (fun hib=>?_) (fun hib=>?_)
 ·have hib:i<(cT (cQ f) f.cols).length:=by have:=aI hib;omega
  obtain⟨s,hs⟩:∃s,(cT (cQ f) f.cols)[i]? =some s:=⟨_,aB hib⟩
  have hsl:s.length=f.cols:=hKl s (aD hs);have hsr:=hKr s (aD hs);obtain⟨adm1,um,ham1,hRm,km1,kn1⟩:=de.load hK hs;obtain⟨as1,cs1,rfl,-,-⟩:=dL.shape hRm;obtain⟨bent,hbent⟩:∃b,eJ s (cW f)=b:=⟨_,rfl⟩
  have hbl2:bent.length=f.cols:=by rw[<-hbent,iQ,hsl]
  have hbr:∀q∈bent,rl q<=20:=fun q hq=>by
   rw[<-hbent]at hq;obtain⟨t,ht⟩:=aS hq;have htl2:t<s.length:=by have:=(aE.1 ht).1;rw[iQ]at this;exact this
   have h1:=k5 (a:=s) (b:=cW f) htl2;rw[getD_some ht]at h1;have h2:=iF (s.getD t 0) ((cW f).getD t 0);have h3:=hsr (s.getD t 0) (by rw[getD_some (aB htl2)];exact aX _);have h4:=hfb.MT (t:=t) (by omega);rw[h1];omega
  refine⟨adm1,ham1,by omega,.slice as1 s.length cs1,fun O w' r=>?_,?_⟩
  ·rw[aF,cH (w:=w7) (w2:=w') (by rw[dQ];exact Rel.same r (cB w) km1.1)];exact kn1
  refine cC (cL (Φ:=fun _ w' v w2=>cO w2 (Nf w' w2) v bent) (fun O w' r=>(hbent▸CB (S:=Cv S w.heap.size iv) (Rel.old r hS) (cX.cI (cO.l (eR.cv (eR.rel hRm r (cB w))) fun q hq=>by have:=hsr q hq;omega) fun g hg=>Av hg) (cX.rel hL r hS) (by rw[hsl,hfl];exact aG _) (by omega)).mono fun _ _ ⟨v2,e1,e2,e3⟩=>⟨v2,e1,e2,cO.cI e3.c fun g hg=>hg.elim (fun h=>h.elim) fun⟨_,lo,hi,h2,h3,h4⟩=>by
   simp at h2;obtain⟨rfl,rfl⟩:=h2
   exact .inr ⟨h3,h4⟩⟩) ?_)
  rintro O wa8 v8 wb8 r he hb1 hn;replace hw:=hw.tr hb1;have hxo:∀g,(Value.slice ax f.cols cx).ownBlock=some g->g<wa8.heap.size:=fun g e=>Rel.old r (cB w) g (hX.new g e);replace hX:=hX.cF (iv':=(wa8.heap.size,wb8.heap.size)::iv) r (cB w) he fun x hx=>aC _ hx;replace hK:=fc.cF (iv':=(wa8.heap.size,wb8.heap.size)::iv) hK r (cB w) he fun x hx=>aC _ hx;replace hL:=cX.cF (iv':=(wa8.heap.size,wb8.heap.size)::iv) hL r hS he fun x hx=>aC _ hx;replace hR:=mG.cF (iv':=(wa8.heap.size,wb8.heap.size)::iv) hR r (cB w) he fun x hx=>aC _ hx;replace hG:=jP.cF (iv':=(wa8.heap.size,wb8.heap.size)::iv) hG r (cB w) he fun x hx=>aC _ hx;have hE:=eR.fresh (S:=fun _=>False) (v:=(.slice ax f.cols cx)) hn r hxo;clear r he hb1 hxo hn;generalize (wa8.heap.size,wb8.heap.size)::iv=iv8 at*
  clear hRm;obtain⟨ae,ce,rfl,-,-⟩:=dL.shape hE;rw[hbl2]
  refine⟨Nat×List (List Value)×World×Iv,fun z=>⟨[(7,.o (.v (.slice ax f.cols cx))),(9,.o (.v (.slice ak (cT (cQ f) f.cols).length ck))),(10,.o (.v (.slice al f.cols cl))),(11,.o (.p 2 0)),(43,.o (.v (.slice ak (cT (cQ f) f.cols).length ck))),(44,.o (.v (.int .i64 (cT (cQ f) f.cols).length))),(12,.o (.w 4 rc.length)),(45,.o (.v (.int .i64 ((i:Nat):Int)))),(15,.o (.v (.slice ae f.cols ce))),(52,.o (.v (.slice ak (cT (cQ f) f.cols).length ck))),(53,.o (.v (.int .i64 (cT (cQ f) f.cols).length))),(16,.o (.w 5 z.2.1.length)),(54,.o (.v (.int .i64 ((z.1:Nat):Int))))],[(5,.vec T.Rat 4 z.2.1.flatten),(2,.box T.dc [.w 3 rv.length,.v (.int .i64 (cT (cQ f) f.cols).length)]),(3,.vec T.gO 1 rv),(4,.vec T.Rat 4 rc.flatten)],6,z.2.2.2,z.2.2.1⟩,fun z=>(cT (cQ f) f.cols).length-z.1,
   fun z=>z.1<=(cT (cQ f) f.cols).length∧cV w.heap.size w z.2.2.1∧(dS z.2.2.1 (fun _=>False) w.heap.size z.2.2.2 (.slice ax f.cols cx) f.cols x0∧cR z.2.2.1 (Bs (fun _=>False) w.heap.size z.2.2.2 (.slice ax f.cols cx)) (.slice ak (cT (cQ f) f.cols).length ck) (cT (cQ f) f.cols)∧cX z.2.2.1 (Cv S w.heap.size z.2.2.2) (.slice al f.cols cl) (cW f)∧dU z.2.2.1 (Bs (fun _=>False) w.heap.size z.2.2.2 (.slice ax f.cols cx)) rv ((eM (cT (cQ f) f.cols) (cW f)).take i)∧eP z.2.2.1 (Bs (fun _=>False) w.heap.size z.2.2.2 (.slice ax f.cols cx)) rc ((gE (cT (cQ f) f.cols) (cW f) x0).take i)∧cO z.2.2.1 (Bs (fun _=>False) w.heap.size z.2.2.2 (.slice ax f.cols cx)) (.slice ae f.cols ce) bent)∧eP z.2.2.1 (Bs (fun _=>False) w.heap.size z.2.2.2 (.slice ax f.cols cx)) z.2.1 (((cT (cQ f) f.cols).map fun r=>eH bent r f.cols).take z.1),?_,?_⟩
  ·intro O w' r3;exact⟨(0,[],w',_),⟨aP _,hw.tr r3.cM,⟨hX.rel r3 (cB w),fc.rel hK r3 (cB w),cX.rel hL r3 hS,mG.rel hR r3 (cB w),jP.rel hG r3 (cB w),by have:=eR.rel hE r3 (cB w);rw[hbl2]at this;exact this⟩,eP.nil⟩,Sub.nil 16 T.Rat 4 rfl (by simp[jn,SV.sc,At.sc,fW]) r3 fun ρ2 r2=>Sub.gn [] r2⟩
  clear hw hX hK hL hR hG hE;rintro⟨j,css,w8,iv⟩ ⟨hj,hw,⟨hX,hK,hL,hR,hG,hE⟩,hD⟩;dsimp only at hj hw hX hK hL hR hG hE hD ⊢;have hdl:css.length=j:=by rw[hD.len,aY,aL];omega
  have hdf:=e9 hD.four;refine dI.mk (fun hjb=>?_) (fun hjb=>?_)
  ·have hjb:j<(cT (cQ f) f.cols).length:=by have:=aI hjb;omega
   obtain⟨t,ht⟩:∃s,(cT (cQ f) f.cols)[j]? =some s:=⟨_,aB hjb⟩
   have htl2:t.length=f.cols:=hKl t (aD ht);have htr:=hKr t (aD ht);obtain⟨adm2,um2,ham2,hRm,km2,kn2⟩:=de.load hK ht;obtain⟨as2,cs2,rfl,-,-⟩:=dL.shape hRm;refine⟨adm2,ham2,by omega,.slice as2 t.length cs2,fun O w' r=>?_,?_⟩
   ·rw[aF,cH (w:=w8) (w2:=w') (by rw[dQ];exact Rel.same r (cB w) km2.1)];exact kn2
   refine cC (cL (Φ:=fun _ w' v w2=>cP w2 (Nf w' w2) v (eH bent t f.cols)) (fun O w' r=>hbl2▸Ei (S:=Cf w iv) (h:=21) (Rel.old r (cB w)) (cO.l (by have:=eR.cv (eR.rel hE r (cB w));rw[<-hbl2]at this;exact this) fun q hq=>by have:=hbr q hq;omega) (cO.l (eR.cv (eR.rel hRm r (cB w))) fun q hq=>by have:=htr q hq;omega) (by omega) (fun q hq=>by have:=hbr q hq;omega) (fun q hq=>by have:=htr q hq;omega) (by decide) (by omega)) ?_);rintro O wa9 v9 wb9 r he hb1 hn;replace hw:=hw.tr hb1;have hxo:∀g,(Value.slice ax f.cols cx).ownBlock=some g->g<wa9.heap.size:=fun g e=>Rel.old r (cB w) g (hX.new g e);replace hX:=hX.cF (iv':=(wa9.heap.size,wb9.heap.size)::iv) r (cB w) he fun x hx=>aC _ hx;replace hK:=fc.cF (iv':=(wa9.heap.size,wb9.heap.size)::iv) hK r (cB w) he fun x hx=>aC _ hx;replace hL:=cX.cF (iv':=(wa9.heap.size,wb9.heap.size)::iv) hL r hS he fun x hx=>aC _ hx;replace hR:=mG.cF (iv':=(wa9.heap.size,wb9.heap.size)::iv) hR r (cB w) he fun x hx=>aC _ hx;replace hG:=jP.cF (iv':=(wa9.heap.size,wb9.heap.size)::iv) hG r (cB w) he fun x hx=>aC _ hx;replace hE:=eR.cF (iv':=(wa9.heap.size,wb9.heap.size)::iv) hE r (cB w) he fun x hx=>aC _ hx;replace hD:=jP.cF (iv':=(wa9.heap.size,wb9.heap.size)::iv) hD r (cB w) he fun x hx=>aC _ hx;have hd:=lA.fresh (S:=fun _=>False) (v:=(.slice ax f.cols cx)) hn r hxo;clear r he hb1 hxo hn;generalize (wa9.heap.size,wb9.heap.size)::iv=iv9 at*
   obtain⟨s9_0,s9_1,s9_2,s9_3,s9_4,s9_5,s9_6,s9_7,rfl⟩:=hd.shape;clear hRm;have hD2:=hD.push (cs:=[.bool s9_0,.slice s9_1 s9_2 s9_3,.bool s9_4,.slice s9_5 s9_6 s9_7]) (q:=eH bent t f.cols) ⟨_,_,_,_,_,_,_,_,rfl,hd⟩ rfl;rw[show (((cT (cQ f) f.cols).map fun r=>eH bent r f.cols).take j)++[eH bent t f.cols]=((cT (cQ f) f.cols).map fun r=>eH bent r f.cols).take (j+1) by rw[List.take_add_one,aN,ht];rfl]at hD2;have hfl2:css.flatten++([.bool s9_0,.slice s9_1 s9_2 s9_3,.bool s9_4,.slice s9_5 s9_6 s9_7]:List Value)=(css++([[.bool s9_0,.slice s9_1 s9_2 s9_3,.bool s9_4,.slice s9_5 s9_6 s9_7]]:List (List Value))).flatten:=by simp
   refine .inl ?_;refine⟨by omega,by omega,by unfold maxLen;omega,((j+1:Nat):Int),wo,?_⟩;intro ρ3 w6 r3;exact⟨(j+1,css++[[.bool s9_0,.slice s9_1 s9_2 s9_3,.bool s9_4,.slice s9_5 s9_6 s9_7]],w6,_),⟨hjb,hw.tr r3.cM,⟨hX.rel r3 (cB w),fc.rel hK r3 (cB w),cX.rel hL r3 hS,mG.rel hR r3 (cB w),jP.rel hG r3 (cB w),eR.rel hE r3 (cB w)⟩,jP.rel hD2 r3 (cB w)⟩,Sub.gn [(5,7)] r3 ⟨by dsimp only;rw[<-hfl2];rfl,rfl,rfl,rfl,trivial⟩ ⟨rfl,rfl,rfl,rfl,rfl,rfl,rfl,rfl,rfl,rfl,rfl,by dsimp only;rw[List.length_append,List.length_singleton];rfl,rfl,trivial⟩,by dsimp only;omega⟩
  have hjb:j=(cT (cQ f) f.cols).length:=by have:=aH hjb;omega
  rw[hjb,List.take_of_length_le (by rw[aL];exact aG _)]at hD;have hrow:(eM (cT (cQ f) f.cols) (cW f)).take i++[((cT (cQ f) f.cols).map fun r=>eH bent r f.cols)]=(eM (cT (cQ f) f.cols) (cW f)).take (i+1):=by
   rw[List.take_add_one,eM,aN,hs,<-hbent,<-hsl];rfl
  have hrgt:(gE (cT (cQ f) f.cols) (cW f) x0).take i++[-(eH bent x0 f.cols)]=(gE (cT (cQ f) f.cols) (cW f) x0).take (i+1):=by
   rw[List.take_add_one,gE,aN,hs,<-hbent,<-hsl];rfl
  refine rC hτ (id3:=6) (id2:=5) (tH:=[(2,.box T.dc [.w 3 rv.length,.v (.int .i64 (cT (cQ f) f.cols).length)]),(3,.vec T.gO 1 rv),(4,.vec T.Rat 4 rc.flatten)]) rfl rfl rfl rfl (by simp) ⟨rfl,rfl,rfl,trivial⟩ rfl rfl (fun O w' r r2 hbx=>?_);have hnx:∀g,(Value.slice ax f.cols cx).ownBlock=some g->∀id b,dA [(6,.box T.gO [.w 5 css.length]),(5,.vec T.Rat 4 css.flatten),(2,.box T.dc [.w 3 rv.length,.v (.int .i64 (cT (cQ f) f.cols).length)]),(3,.vec T.gO 1 rv),(4,.vec T.Rat 4 rc.flatten)] id=some b->(O id).nil=false->(O id).g≠g:=fun g e id b h1 h2=>Rel.not r (cB w) (hX.new g e) id b h1 h2;have hlo3:=r.low 6 _ rfl (r.fits (id:=6) rfl).1;have hB3:Bs (fun _=>False) w.heap.size (((O 6).g,(O 6).g+1)::kR (O 5) iv) (.slice ax f.cols cx) (O 6).g:=⟨.inr ⟨hlo3.1,_,_,aJ,aG _,bf _⟩,fun e=>hnx _ e 6 _ rfl (r.fits (id:=6) rfl).1 rfl⟩
  have hmono:∀p,p∈iv->p∈((O 6).g,(O 6).g+1)::kR (O 5) iv:=fun p hp=>aC _ (tq p hp);have hrowR:=eP.list ((jP.rel hD r (cB w)).cI fun g hg=>Bs.mono hmono hg) (r.CT (T:=Bs (fun _=>False) w.heap.size (((O 6).g,(O 6).g+1)::kR (O 5) iv) (.slice ax f.cols cx)) (id:=5) (sz:=4) (m:=css.length) rfl hdf (by unfold maxLen;omega) (by decide) hD.one fun hn=>⟨.inr ⟨(r.low 5 _ rfl hn).1,_,_,aC _ (Cl hn),aG _,bf _⟩,fun e=>hnx _ e 5 _ rfl hn rfl⟩);have hone:((At.w 5 css.length).den O).oneCell'=true:=At.K6;have hw2:=hw.tr r.cM;replace hX:dS w' (fun _=>False) w.heap.size (((O 6).g,(O 6).g+1)::kR (O 5) iv) (.slice ax f.cols cx) f.cols x0:=by
   have h1:=hX.rel r (cB w);exact⟨h1.row.cI fun g hg=>⟨hg.1.mono hmono,hg.2⟩,fun g hg=>(h1.new g hg).mono hmono⟩
  replace hK:=cR.cI (fc.rel hK r (cB w)) fun g hg=>Bs.mono hmono hg;replace hL:=cX.cI (cX.rel hL r hS) fun g hg=>hg.mono hmono;replace hR:=dU.cI (mG.rel hR r (cB w)) fun g hg=>Bs.mono hmono hg;replace hG:=eP.cI (jP.rel hG r (cB w)) fun g hg=>Bs.mono hmono hg;replace hE:=cO.cI (eR.rel hE r (cB w)) fun g hg=>Bs.mono hmono hg;clear r2 hlo3 hD hnx hw;generalize (At.w 5 css.length).den O=ur at*
  generalize (O 6).g=gy at*
  generalize (gy,gy+1)::kR (O 5) iv=ivg at*
  clear r;refine⟨[ur],rfl,by simpa using hone,fun ρ2 w2 r2 _=>⟨_,rfl,fun j u hu=>?_⟩,?_⟩
  ·have h5:=Rel.same r2 (fz _) hB3.1;rw[dP,cell_of (h5.trans hbx)];rcases j with _|j
   ·exact hu
   ·cases hu
  refine⟨by simp,by omega,by unfold maxLen;omega,?_⟩;have hR2:=hR.push hone hrowR;rw[hrow]at hR2;clear hrowR hR hbx hB3;rename_i wg _;have hw:=hw2;clear hw2;refine cC (cL (Φ:=fun _ w' v w2=>cP w2 (Nf w' w2) v (eH bent x0 f.cols)) (fun O w' r=>hbl2▸Ei (S:=Cf w ivg) (h:=30) (Rel.old r (cB w)) (cO.l (by have:=eR.cv (eR.rel hE r (cB w));rw[<-hbl2]at this;exact this) fun q hq=>by have:=hbr q hq;omega) (cO.l (by have:=(hX.rel r (cB w)).c;rw[<-hbl2]at this;exact this) fun q hq=>by have:=hx0r q hq;omega) (by omega) (fun q hq=>by have:=hbr q hq;omega) (fun q hq=>by have:=hx0r q hq;omega) (by decide) (by omega)) ?_);rintro O wa11 v11 wb11 r he hb1 hn;replace hw:=hw.tr hb1;have hxo:∀g,(Value.slice ax f.cols cx).ownBlock=some g->g<wa11.heap.size:=fun g e=>Rel.old r (cB w) g (hX.new g e);replace hX:=hX.cF (iv':=(wa11.heap.size,wb11.heap.size)::ivg) r (cB w) he fun x hx=>aC _ hx;replace hK:=fc.cF (iv':=(wa11.heap.size,wb11.heap.size)::ivg) hK r (cB w) he fun x hx=>aC _ hx;replace hL:=cX.cF (iv':=(wa11.heap.size,wb11.heap.size)::ivg) hL r hS he fun x hx=>aC _ hx;replace hR2:=mG.cF (iv':=(wa11.heap.size,wb11.heap.size)::ivg) hR2 r (cB w) he fun x hx=>aC _ hx;replace hG:=jP.cF (iv':=(wa11.heap.size,wb11.heap.size)::ivg) hG r (cB w) he fun x hx=>aC _ hx;replace hE:=eR.cF (iv':=(wa11.heap.size,wb11.heap.size)::ivg) hE r (cB w) he fun x hx=>aC _ hx;have hd:=lA.fresh (S:=fun _=>False) (v:=(.slice ax f.cols cx)) hn r hxo;clear r he hb1 hxo hn;generalize (wa11.heap.size,wb11.heap.size)::ivg=iv11 at*
  obtain⟨s11_0,s11_1,s11_2,s11_3,s11_4,s11_5,s11_6,s11_7,rfl⟩:=hd.shape;have hdr:=ki (h:=30) (xs:=bent) (ys:=x0) (fun q hq=>by have:=hbr q hq;omega) (fun q hq=>by have:=hx0r q hq;omega) (by decide) f.cols;refine cC (cL (Φ:=fun _ w' v w2=>cP w2 (Nf w' w2) v (-(eH bent x0 f.cols))) (fun O w' r=>I1 (S:=Cf w iv11) (Rel.old r (cB w)) (cP.l (lA.cv (lA.rel hd r (cB w))) (by omega))) ?_);rintro O wa12 v12 wb12 r he hb1 hn;replace hw:=hw.tr hb1;have hxo:∀g,(Value.slice ax f.cols cx).ownBlock=some g->g<wa12.heap.size:=fun g e=>Rel.old r (cB w) g (hX.new g e);replace hX:=hX.cF (iv':=(wa12.heap.size,wb12.heap.size)::iv11) r (cB w) he fun x hx=>aC _ hx;replace hK:=fc.cF (iv':=(wa12.heap.size,wb12.heap.size)::iv11) hK r (cB w) he fun x hx=>aC _ hx;replace hL:=cX.cF (iv':=(wa12.heap.size,wb12.heap.size)::iv11) hL r hS he fun x hx=>aC _ hx;replace hR2:=mG.cF (iv':=(wa12.heap.size,wb12.heap.size)::iv11) hR2 r (cB w) he fun x hx=>aC _ hx;replace hG:=jP.cF (iv':=(wa12.heap.size,wb12.heap.size)::iv11) hG r (cB w) he fun x hx=>aC _ hx;replace hE:=eR.cF (iv':=(wa12.heap.size,wb12.heap.size)::iv11) hE r (cB w) he fun x hx=>aC _ hx;clear hd;have hd2:=lA.fresh (S:=fun _=>False) (v:=(.slice ax f.cols cx)) hn r hxo;clear r he hb1 hxo hn;generalize (wa12.heap.size,wb12.heap.size)::iv11=iv12 at*
  obtain⟨s12_0,s12_1,s12_2,s12_3,s12_4,s12_5,s12_6,s12_7,rfl⟩:=hd2.shape;have hG2:=hG.push (cs:=[.bool s12_0,.slice s12_1 s12_2 s12_3,.bool s12_4,.slice s12_5 s12_6 s12_7]) (q:= -(eH bent x0 f.cols)) ⟨_,_,_,_,_,_,_,_,rfl,hd2⟩ rfl;rw[hrgt]at hG2;have hfl2:rc.flatten++([.bool s12_0,.slice s12_1 s12_2 s12_3,.bool s12_4,.slice s12_5 s12_6 s12_7]:List Value)=(rc++([[.bool s12_0,.slice s12_1 s12_2 s12_3,.bool s12_4,.slice s12_5 s12_6 s12_7]]:List (List Value))).flatten:=by simp
  refine .inl ?_;refine⟨by omega,by omega,by unfold maxLen;omega,((i+1:Nat):Int),wo,?_⟩;intro ρ3 w6 r3;exact⟨(i+1,rv++[ur],rc++[[.bool s12_0,.slice s12_1 s12_2 s12_3,.bool s12_4,.slice s12_5 s12_6 s12_7]],w6,_),⟨hib,hw.tr r3.cM,hX.rel r3 (cB w),fc.rel hK r3 (cB w),cX.rel hL r3 hS,mG.rel hR2 r3 (cB w),jP.rel hG2 r3 (cB w)⟩,Sub.gn [(3,7),(4,9)] r3 ⟨by dsimp only;rw[List.length_append,List.length_singleton];rfl,rfl,by dsimp only;rw[<-hfl2];rfl,trivial⟩ ⟨rfl,rfl,rfl,rfl,rfl,rfl,by dsimp only;rw[List.length_append,List.length_singleton];rfl,rfl,trivial⟩,by dsimp only;omega⟩
 have hib:i=(cT (cQ f) f.cols).length:=by have:=aH hib;omega
 rw[hib,List.take_of_length_le (by rw[eM,aL];exact aG _)]at hR;rw[hib,List.take_of_length_le (by rw[gE,aL];exact aG _)]at hG;have hrl2:rv.length=(eM (cT (cQ f) f.cols) (cW f)).length:=hR.1
 refine cC (cL (Φ:=fun _ w' v w2=>∃vc,v= .tuple #[vc,.bool true]∧dS w2 (Bs (fun _=>False) w.heap.size iv (.slice ax f.cols cx)) w'.heap.size [(w'.heap.size,w2.heap.size)] vc (cT (cQ f) f.cols).length c) (fun O w' r=>(Aw (C:=(fun g=>g<w'.heap.size)) (D:=(fun g=>g<w'.heap.size)) (S:=Bs (fun _=>False) w.heap.size iv (.slice ax f.cols cx)) (M:=eM (cT (cQ f) f.cols) (cW f)) (b:=gE (cT (cQ f) f.cols) (cW f) x0) (cols:=(cT (cQ f) f.cols).length) (h:=1930) (fun g hg=>hg) (fun g hg=>hg) (fun g hg=>Rel.old r (cB w) g hg.1) ⟨rv,by rw[<-hrl2];exact r.CT (T:=(fun g=>g<w'.heap.size)) (id:=3) (sz:=1) (m:=rv.length) rfl (by simp) (by unfold maxLen;omega) (by decide) hR.2.1 fun hn=>(r.low 3 _ rfl hn).2,hR.1,fun a u x h1 h2=>eR.rel (hR.2.2 a u x h1 h2) r (cB w)⟩ ⟨rc,by rw[<-hG.len];exact r.CT (T:=(fun g=>g<w'.heap.size)) (id:=4) (sz:=4) (m:=rc.length) rfl hgf (by unfold maxLen;omega) (by decide) hG.one fun hn=>(r.low 4 _ rfl hn).2,hG.len,fun a cs x h1 h2=>(jP.rel hG r (cB w)).at_ a cs x h1 h2⟩ (by rw[gE,eM,aL,aL]) hSl (by omega) (by rw[eM,aL];omega) hredB (by decide)).mono fun _ _ ⟨v2,e1,e2,e3⟩=>⟨v2,e1,e2,by
  rcases e3 with⟨h1,_⟩|⟨x2,vx,h1,h2,h3⟩
  ·rw[hsolve]at h1;cases h1
  ·rw[hsolve]at h1;injection h1 with h1;subst h1;exact⟨vx,h2,h3⟩⟩) ?_)
 rintro O wa13 v13 wb13 r he hb1 ⟨vc,rfl,hn⟩;replace hw:=hw.tr hb1;have hxo:∀g,(Value.slice ax f.cols cx).ownBlock=some g->g<wa13.heap.size:=fun g e=>Rel.old r (cB w) g (hX.new g e);replace hX:=hX.cF (iv':=(wa13.heap.size,wb13.heap.size)::iv) r (cB w) he fun x hx=>aC _ hx;replace hK:=fc.cF (iv':=(wa13.heap.size,wb13.heap.size)::iv) hK r (cB w) he fun x hx=>aC _ hx;have hC:=cO.cI hn.c fun g hg=>Bs.solved r hxo (fun _ h=>h) hg;clear r he hb1 hxo;generalize (wa13.heap.size,wb13.heap.size)::iv=iv13 at*
 clear hn hR hG hL;obtain⟨ac,cc,rfl,-,-⟩:=dL.shape hC;rw[hcl]
 refine⟨Nat×World×Iv,fun z=>⟨[(7,.o (.v (.slice ax f.cols cx))),(19,.o (.v (.slice ac (cT (cQ f) f.cols).length cc))),(87,.o (.v (.slice ak (cT (cQ f) f.cols).length ck))),(88,.o (.v (.int .i64 (cT (cQ f) f.cols).length))),(89,.o (.v (.int .i64 ((z.1:Nat):Int))))],[],0,z.2.2,z.2.1⟩,fun z=>(cT (cQ f) f.cols).length-z.1,
  fun z=>z.1<=(cT (cQ f) f.cols).length∧cV w.heap.size w z.2.1∧dS z.2.1 (fun _=>False) w.heap.size z.2.2 (.slice ax f.cols cx) f.cols (js (cT (cQ f) f.cols) c x0 z.1)∧cR z.2.1 (Bs (fun _=>False) w.heap.size z.2.2 (.slice ax f.cols cx)) (.slice ak (cT (cQ f) f.cols).length ck) (cT (cQ f) f.cols)∧cO z.2.1 (Bs (fun _=>False) w.heap.size z.2.2 (.slice ax f.cols cx)) (.slice ac (cT (cQ f) f.cols).length cc) c,?_,?_⟩
 ·intro O w' r3;exact⟨(0,w',_),⟨aP _,hw.tr r3.cM,hX.rel r3 (cB w),fc.rel hK r3 (cB w),by have:=eR.rel hC r3 (cB w);rw[hcl]at this;exact this⟩,Sub.gn [] r3⟩
 clear hw hX hK hC;rintro⟨i,w13,iv⟩ ⟨hi,hw,hX,hK,hC⟩;dsimp only at hi hw hX hK hC ⊢;refine dI.mk (fun hib=>?_) (fun hib=>?_)
 ·have hib:i<(cT (cQ f) f.cols).length:=by have:=aI hib;omega
  obtain⟨s,hs⟩:∃s,(cT (cQ f) f.cols)[i]? =some s:=⟨_,aB hib⟩
  have hsl:s.length=f.cols:=hKl s (aD hs);have hsr:=hKr s (aD hs);obtain⟨ci,hci⟩:∃q,c[i]? =some q:=⟨_,aB (by omega)⟩
  have hcir:=hcr ci (aD hci);obtain⟨y0,hy0⟩:∃y,js (cT (cQ f) f.cols) c x0 i=y:=⟨_,rfl⟩
  have hy0l:y0.length=f.cols:=by rw[<-hy0,pz,hx0l]
  have hy0r:∀q∈y0,rl q<=75000:=fun q hq=>by
   rw[<-hy0]at hq;have h1:=Dr (a:=26) (b:=1927) hx0r (fun r hr q hq=>by have:=hKr r hr q hq;omega) hcr i q hq;have h2:i*(2*1927+5)<=18*(2*1927+5):=Nat.mul_le_mul_right _ (by omega);omega
  have hnextA:js (cT (cQ f) f.cols) c x0 (i+1)=y0.mapIdx fun k q=>q+ci*s.getD k 0:=by rw[js,hy0,getD_some hci,getD_some (d:=[]) hs]
  rw[hy0]at hX;obtain⟨adm3,um,ham3,hRm,km3,kn3⟩:=de.load hK hs;obtain⟨as3,cs3,rfl,-,-⟩:=dL.shape hRm;refine⟨adm3,ham3,by omega,.slice as3 s.length cs3,fun O w' r=>?_,?_⟩
  ·rw[aF,cH (w:=w13) (w2:=w') (by rw[dQ];exact Rel.same r (cB w) km3.1)];exact kn3
  rw[hsl]
  refine⟨Nat×World×Iv,fun z=>⟨[(7,.o (.v (.slice ax f.cols cx))),(19,.o (.v (.slice ac (cT (cQ f) f.cols).length cc))),(87,.o (.v (.slice ak (cT (cQ f) f.cols).length ck))),(88,.o (.v (.int .i64 (cT (cQ f) f.cols).length))),(89,.o (.v (.int .i64 ((i:Nat):Int)))),(20,.o (.v (.int .i64 ((i:Nat):Int)))),(94,.o (.v (.slice as3 f.cols cs3))),(95,.o (.v (.int .i64 f.cols))),(96,.o (.v (.int .i64 ((z.1:Nat):Int))))],[],0,z.2.2,z.2.1⟩,fun z=>f.cols-z.1,
   fun z=>z.1<=f.cols∧cV w.heap.size w z.2.1∧dS z.2.1 (fun _=>False) w.heap.size z.2.2 (.slice ax f.cols cx) f.cols ((gS z.1 (fun k q=>q+ci*s.getD k 0) y0))∧cR z.2.1 (Bs (fun _=>False) w.heap.size z.2.2 (.slice ax f.cols cx)) (.slice ak (cT (cQ f) f.cols).length ck) (cT (cQ f) f.cols)∧cO z.2.1 (Bs (fun _=>False) w.heap.size z.2.2 (.slice ax f.cols cx)) (.slice ac (cT (cQ f) f.cols).length cc) c∧cO z.2.1 (Bs (fun _=>False) w.heap.size z.2.2 (.slice ax f.cols cx)) (.slice as3 f.cols cs3) s,?_,?_⟩
  ·intro O w' r3;exact⟨(0,w',_),⟨aP _,hw.tr r3.cM,by dsimp only;rw[rf];exact hX.rel r3 (cB w),fc.rel hK r3 (cB w),eR.rel hC r3 (cB w),by have:=eR.rel hRm r3 (cB w);rw[hsl]at this;exact this⟩,Sub.gn [] r3⟩
  clear hw hX hK hC hRm;rintro⟨k,w14,iv⟩ ⟨hk,hw,hX,hK,hC,hRm⟩;dsimp only at hk hw hX hK hC hRm ⊢;refine dI.mk (fun hkb=>?_) (fun hkb=>?_)
  ·have hkb:k<f.cols:=by have:=aI hkb;omega
   obtain⟨gx,rfl⟩:=hX.at (by omega);obtain⟨q,hq⟩:∃q,s[k]? =some q:=⟨_,aB (by omega)⟩
   obtain⟨y,hy⟩:∃q,y0[k]? =some q:=⟨_,aB (by omega)⟩
   have hyu:=zE (f:=fun k q=>q+ci*s.getD k 0) hy;have hqr:=hsr q (aD hq);have hyr:=hy0r y (aD hy);obtain⟨adq,csq,haq,hFq,_,hlq⟩:=dL.load hRm hq;obtain⟨q0,q1,q2,q3,q4,q5,q6,q7,rfl,hFq⟩:=hFq;obtain⟨ady,csy,hay,hFy,_,hly⟩:=dL.load hX.c hyu;obtain⟨y0',y1,y2,y3,y4,y5,y6,y7,rfl,hFy⟩:=hFy;obtain⟨adc,csc,hac,hFc,_,hlc⟩:=dL.load hC hci;obtain⟨c0,c1,c2,c3,c4,c5,c6,c7,rfl,hFc⟩:=hFc;refine⟨adq,haq,by omega,[.bool q0,.slice q1 q2 q3,.bool q4,.slice q5 q6 q7],rfl,fun O w' r j u hu=>?_,?_⟩
   ·obtain⟨k1,k2⟩:=hlq j u hu;rw[aF,cH (w:=w14) (w2:=w') (by rw[dQ,dQ];exact Rel.same r (cB w) k1.1)];exact k2
   refine cJ hτ db [.x 0,.x 1,.x 2,.x 3,.x 4,.x 5,.x 6,.x 7,.x 8,.x 9,.x 10,.x 11,.x 12,.x 13,.x 14] (by kernel_rfl) (by kernel_rfl) ?_;refine⟨ady,hay,by omega,[.bool y0',.slice y1 y2 y3,.bool y4,.slice y5 y6 y7],rfl,fun O w' r j u hu=>?_,?_⟩
   ·obtain⟨k1,k2⟩:=hly j u hu;rw[aF,cH (w:=w14) (w2:=w') (by rw[dQ,dQ];exact Rel.same r (cB w) k1)];exact k2
   refine⟨adc,hac,by omega,[.bool c0,.slice c1 c2 c3,.bool c4,.slice c5 c6 c7],rfl,fun O w' r j u hu=>?_,?_⟩
   ·obtain⟨k1,k2⟩:=hlc j u hu;rw[aF,cH (w:=w14) (w2:=w') (by rw[dQ,dQ];exact Rel.same r (cB w) k1.1)];exact k2
   refine cL (Φ:=fun _ w' v w2=>cP w2 (Nf w' w2) v (ci*q)) (fun O w' r=>zD (S:=Cf w iv) (Rel.old r (cB w)) ((cP.l (lA.cv (lA.rel hFc r (cB w))) (by omega)).v) ((cP.l (lA.cv (lA.rel hFq r (cB w))) (by omega)).v)) ?_;rintro O wa15 v15 wb15 r he hb1 hn;replace hw:=hw.tr hb1;have hxo:∀g,(Value.slice (some ⟨gx,0,none⟩) f.cols cx).ownBlock=some g->g<wa15.heap.size:=fun g e=>Rel.old r (cB w) g (hX.new g e);replace hX:=hX.cF (iv':=(wa15.heap.size,wb15.heap.size)::iv) r (cB w) he fun x hx=>aC _ hx;replace hK:=fc.cF (iv':=(wa15.heap.size,wb15.heap.size)::iv) hK r (cB w) he fun x hx=>aC _ hx;replace hC:=eR.cF (iv':=(wa15.heap.size,wb15.heap.size)::iv) hC r (cB w) he fun x hx=>aC _ hx;replace hRm:=eR.cF (iv':=(wa15.heap.size,wb15.heap.size)::iv) hRm r (cB w) he fun x hx=>aC _ hx;replace hFy:=cP.cF (iv':=(wa15.heap.size,wb15.heap.size)::iv) hFy r (cB w) he fun x hx=>aC _ hx;have hm:=lA.fresh (S:=fun _=>False) (v:=(.slice (some ⟨gx,0,none⟩) f.cols cx)) hn r hxo;clear r he hb1 hxo hn;generalize (wa15.heap.size,wb15.heap.size)::iv=iv15 at*
   obtain⟨s15_0,s15_1,s15_2,s15_3,s15_4,s15_5,s15_6,s15_7,rfl⟩:=hm.shape;refine cL (Φ:=fun _ w' v w2=>cP w2 (Nf w' w2) v (y+ci*q)) (fun O w' r=>I4 (S:=Cf w iv15) (Rel.old r (cB w)) ((cP.l (cP.rel hFy r (cB w)) (by omega)).v) ((cP.l (lA.cv (lA.rel hm r (cB w))) (by have:=iF ci q;omega)).v)) ?_;rintro O wa16 v16 wb16 r he hb1 hn;replace hw:=hw.tr hb1;have hxo:∀g,(Value.slice (some ⟨gx,0,none⟩) f.cols cx).ownBlock=some g->g<wa16.heap.size:=fun g e=>Rel.old r (cB w) g (hX.new g e);replace hX:=hX.cF (iv':=(wa16.heap.size,wb16.heap.size)::iv15) r (cB w) he fun x hx=>aC _ hx;replace hK:=fc.cF (iv':=(wa16.heap.size,wb16.heap.size)::iv15) hK r (cB w) he fun x hx=>aC _ hx;replace hC:=eR.cF (iv':=(wa16.heap.size,wb16.heap.size)::iv15) hC r (cB w) he fun x hx=>aC _ hx;replace hRm:=eR.cF (iv':=(wa16.heap.size,wb16.heap.size)::iv15) hRm r (cB w) he fun x hx=>aC _ hx;clear hFy;clear hm;have hd:=lA.fresh (S:=fun _=>False) (v:=(.slice (some ⟨gx,0,none⟩) f.cols cx)) hn r hxo;clear r he hb1 hxo hn;generalize (wa16.heap.size,wb16.heap.size)::iv15=iv16 at*
   obtain⟨s16_0,s16_1,s16_2,s16_3,s16_4,s16_5,s16_6,s16_7,rfl⟩:=hd.shape;refine⟨⟨gx,0,none⟩,rfl,by omega,?_⟩;intro O w' r;obtain⟨g,hg,h1,h2,h3,h4,h5⟩:=(hX.rel r (cB w)).store (j:=k) hkb (hd.cG (Bs.same r (cB w))) r (cB w);injection hg with hg;injection hg with hg;subst hg;refine⟨h1,h2,h3,fun w5 hw5=>?_⟩;obtain⟨k1,k2,k3⟩:=h5 w5 hw5;have hw2:cV w.heap.size w w5:=(hw.tr r.cM).tr (cV.grown k2 (fun g e=>by injection e with e;subst e;exact h4.elim (fun h=>h.elim) fun h=>h.1) r.cD);have hK2:=fc.kept hK r (cB w) k2;have hC2:=eR.kept hC r (cB w) k2;have hR2:=eR.kept hRm r (cB w) k2;have hnext:(gS k (fun k q=>q+ci*s.getD k 0) y0).set k (y+ci*q)=(gS (k+1) (fun k q=>q+ci*s.getD k 0) y0):=by rw[<-nZ hy,getD_some hq]
   rw[hnext]at k1;clear hX hK hC hRm hw h1 h2 h3 h4 h5 hw5 k2 k3 r hd;refine⟨((k+1:Nat):Int),wo,?_⟩;intro ρ3 w6 r3;exact⟨(k+1,w6,_),⟨hkb,hw2.tr r3.cM,k1.rel r3 (cB w),fc.rel hK2 r3 (cB w),eR.rel hC2 r3 (cB w),eR.rel hR2 r3 (cB w)⟩,Sub.gn [] r3,by dsimp only;omega⟩
  have hkb:k=f.cols:=by have:=aH hkb;omega
  rw[hkb,<-hy0l,uc,<-hnextA,hy0l]at hX;refine⟨((i+1:Nat):Int),wo,?_⟩;intro ρ3 w6 r3;exact⟨(i+1,w6,_),⟨hib,hw.tr r3.cM,hX.rel r3 (cB w),fc.rel hK r3 (cB w),eR.rel hC r3 (cB w)⟩,Sub.gn [] r3,by dsimp only;omega⟩
 have hib:i=(cT (cQ f) f.cols).length:=by have:=aH hib;omega
 rw[hib]at hX;intro ρe we re;exact⟨_,rfl,hw.tr re.cM,.inr ⟨_,_,hfrc,rfl,cO.out hX.c re (cB w)⟩⟩
end Go.Ex
namespace Go.Ex
open Go Go.Sx Go.Proofs
variable{b:Int×Int×Rat}{l:List Ld}{x:List Rat}{S:Nat->Prop}{vb vn vs:Value}{w:World}{f:eh}
def qU(f:eh)(x:List Rat):List Rat:=(List.range x.length).map fun t=>(cW f).getD t 0*x.getD t 0
theorem zQ(f:eh)(x:List Rat):(qU f x).length=x.length:=by rw[qU,aL,List.length_range]
theorem Ds{i:Nat}(h:f.bars[i]? =some b):(cW f).getD i 0=b.2.2:=by
 have hl:=(aE.1 h).1;rw[List.getD,cW,aM (by rw[aL];exact hl),aN,h];rfl
theorem Dt{i:Nat}(h:f.cU[i]? =some b):(cW f).getD (f.bars.length+i) 0=b.2.2:=by
 rw[List.getD,cW,aO (by rw[aL];omega),aL,Nat.add_sub_cancel_left,aN,h];rfl
theorem KE(hS:Old S w)(hf:dV w S vn vb vs f)(hbd:f.bars.length<=60∧f.cU.length<=60){i:Nat}(hi:i<f.cols):
  dm PG N.yZ #[.agg #[vn,vb,vs],.int .i64 i] w (eB w fun v' w2=>eI w2 S v' ((cW f).getD i 0)):=by
 have hw:cV w.heap.size w w:=cV.refl;have hf0:=hf;obtain⟨an,cn,ab,cb,aq,cq,rfl,rfl,rfl,hmn,hmb,hms⟩:=hf.shape;have hcols:f.cols=f.bars.length+f.cU.length:=rfl;refine zj (by simp) ?_;refine dI.mk (fun hib=>?_) (fun hib=>?_)
 ·have hk:i<f.bars.length:=by have:=aI hib;omega
  obtain⟨b,hb⟩:∃b,f.bars[i]? =some b:=⟨_,aB hk⟩
  obtain⟨adb,cs,hab,hF,-,hlb⟩:=hf0.bars.load (by decide) hb;obtain⟨g0,g1,g2,g3,g4,g5,g6,g7,rfl,hF⟩:=hF;refine⟨adb,hab,by omega,[.bool g0,.slice g1 g2 g3,.bool g4,.slice g5 g6 g7],rfl,fun O w' r j u hu=>?_,?_⟩
  ·have hj4:=(aE.1 hu).1;obtain⟨k1,k2⟩:=hlb (2+j) u (by rcases j with _|_|_|_|j<;>first|exact hu|(have:j+4<4:=hj4;omega));rw[cH (w:=w) (w2:=w') (by simp only[dQ];exact(hw.tr r.cM).block _ (hS _ k1))];simp only[aF,Int.toNat_zero,Nat.zero_mul,ku]at k2 ⊢
   first|exact k2|(rw [<-k2];congr 2;omega)
  intro ρe we re;exact⟨_,rfl,hw.tr re.cM,by rw[Ds hb];exact hF.cG fun g hg=>(hw.tr re.cM).block g (hS g hg)⟩
 have hib:f.bars.length<=i:=by have:=aH hib;omega
 obtain⟨k,rfl⟩:∃k,i=f.bars.length+k:=⟨i-f.bars.length,by omega⟩
 have hk:k<f.cU.length:=by omega
 refine⟨(k:Int),wo,?_⟩;obtain⟨b,hb⟩:∃b,f.cU[k]? =some b:=⟨_,aB hk⟩
 obtain⟨adb,cs,hab,hF,-,hlb⟩:=hf0.cU.load (by decide) hb;obtain⟨g0,g1,g2,g3,g4,g5,g6,g7,rfl,hF⟩:=hF;refine⟨adb,hab,by omega,[.bool g0,.slice g1 g2 g3,.bool g4,.slice g5 g6 g7],rfl,fun O w' r j u hu=>?_,?_⟩
 ·have hj4:=(aE.1 hu).1;obtain⟨k1,k2⟩:=hlb (2+j) u (by rcases j with _|_|_|_|j<;>first|exact hu|(have:j+4<4:=hj4;omega));rw[cH (w:=w) (w2:=w') (by simp only[dQ];exact(hw.tr r.cM).block _ (hS _ k1))];simp only[aF,Int.toNat_zero,Nat.zero_mul,ku]at k2 ⊢
  first|exact k2|(rw [<-k2];congr 2;omega)
 intro ρe we re;exact⟨_,rfl,hw.tr re.cM,by rw[Dt hb];exact hF.cG fun g hg=>(hw.tr re.cM).block g (hS g hg)⟩
theorem Du(hS:Old S w)(hf:dV w S vn vb vs f)(hbd:f.bars.length<=60∧f.cU.length<=60){u:Value}(hx:cX w S u x)(hxl:x.length<=f.cols):
  dm PG N.pA #[.agg #[vn,vb,vs],u] w (eB w fun v' w2=>cO w2 (Nf w w2) v' (qU f x)):=by
 have hw:cV w.heap.size w w:=cV.refl;obtain⟨an,cn,ab,cb,aq,cq,rfl,rfl,rfl,hmn,hmb,hms⟩:=hf.shape;obtain⟨ax,cx,rfl,hcx,hmx⟩:=dL.shape hx;have hcols:f.cols=f.bars.length+f.cU.length:=rfl;refine tJ (by simp) ?_
 refine⟨Nat×List (List Value)×World×Iv,fun z=>⟨[(1,.o (.v (.slice ax x.length cx))),(2,.o (.p 0 0)),(5,.o (.w 1 z.2.1.length)),(6,.o (.v (.int .i64 ((z.1:Nat):Int))))],[(1,.vec T.Rat 4 z.2.1.flatten),(0,.box T.Frame [.v (.slice an f.nodes.length cn),.v (.slice ab f.bars.length cb),.v (.slice aq f.cU.length cq)])],2,z.2.2.2,z.2.2.1⟩,fun z=>x.length-z.1,
  fun z=>z.1<=x.length∧cV w.heap.size w z.2.2.1∧eP z.2.2.1 (Cf w z.2.2.2) z.2.1 ((qU f x).take z.1),?_,?_⟩
 ·intro O w' r;exact⟨(0,[],w',[]),⟨aP _,hw.tr r.cM,eP.nil⟩,Sub.nil 5 T.Rat 4 rfl (by simp[jn,SV.sc,At.sc,fW]) r fun ρ1 r1=>Sub.gn [] r1⟩
 rintro⟨i,css,w1,iv⟩ ⟨hi,hw,hG⟩;dsimp only at hi hw hG ⊢;have hfl:=e9 hG.four;have hcl2:css.length=i:=by rw[hG.len,aY,zQ];omega
 refine dI.mk (fun hib=>?_) (fun hib=>?_)
 ·have hib:i<x.length:=by simpa using hib
  obtain⟨q,hq⟩:∃q,x[i]? =some q:=⟨_,aB hib⟩
  have hsn:(qU f x).take (i+1)=(qU f x).take i++[(cW f).getD i 0*q]:=by
   rw[List.take_add_one,qU,aN,bp hib,<-getD_some (d:=0) hq];rfl
  obtain⟨adx,csx,hax,hFx,-,hlx⟩:=dL.load hx hq;obtain⟨f0,f1,f2,f3,f4,f5,f6,f7,rfl,hFx⟩:=hFx;refine cJ hτ db [.x 0,.x 1,.x 2,.x 4,.x 5,.x 6,.x 7,.x 3,.x 8,.x 9,.x 10,.x 11] (by kernel_rfl) (by kernel_rfl) ?_;refine⟨adx,hax,by omega,[.bool f0,.slice f1 f2 f3,.bool f4,.slice f5 f6 f7],rfl,rdO hlx hw hS,?_⟩;refine cE hw (fun _ w' v w2=>eI w2 S v ((cW f).getD i 0)) (fun O w' r=>KE (oS hS r) (hf.cG (kS hw r hS)) hbd (by omega)) ?_;rintro O wa1 v1 wb1 iv1 r he hw h_ hL;replace hG:=hG.cF r (cB w) he (mC h_);obtain⟨l0,l1,l2,l3,l4,l5,l6,l7,rfl⟩:=hL.shape;refine cE hw (fun _ w' v w2=>cP w2 (Nf w' w2) v ((cW f).getD i 0*q)) (fun O w' r=>zR (oS hS r) (hL.cG fun g hg=>Rel.same r hS (.inl hg)) (hFx.cG (kS hw r hS))) ?_;rintro O wa2 v2 wb2 iv2 r he hw h_ hn;replace hG:=hG.cF r (cB w) he (mC h_);have hd:=hn.c9 (S:=fun _=>False) r.cD (mN h_);obtain⟨s2_0,s2_1,s2_2,s2_3,s2_4,s2_5,s2_6,s2_7,rfl⟩:=hd.shape;have hG2:=hG.push (cs:=[.bool s2_0,.slice s2_1 s2_2 s2_3,.bool s2_4,.slice s2_5 s2_6 s2_7]) (q:=(cW f).getD i 0*q) ⟨_,_,_,_,_,_,_,_,rfl,hd⟩ rfl;rw[<-hsn]at hG2;have hfl2:css.flatten++([.bool s2_0,.slice s2_1 s2_2 s2_3,.bool s2_4,.slice s2_5 s2_6 s2_7]:List Value)=(css++([[.bool s2_0,.slice s2_1 s2_2 s2_3,.bool s2_4,.slice s2_5 s2_6 s2_7]]:List (List Value))).flatten:=by simp
  refine .inl ?_;refine⟨by omega,by omega,by unfold maxLen;omega,((i+1:Nat):Int),wo,?_⟩;intro ρ3 w6 r3;exact⟨(i+1,css++[[.bool s2_0,.slice s2_1 s2_2 s2_3,.bool s2_4,.slice s2_5 s2_6 s2_7]],w6,_),⟨hib,hw.tr r3.cM,hG2.rel r3 (cB w)⟩,Sub.gn [(1,3)] r3 ⟨by dsimp only;rw[<-hfl2];rfl,rfl,trivial⟩ ⟨rfl,rfl,by dsimp only;rw[List.length_append,List.length_singleton];rfl,rfl,trivial⟩,by dsimp only;omega⟩
 have hib:i=x.length:=aR hi (by simpa using hib);rw[List.take_of_length_le (by rw[zQ];omega)]at hG;intro ρe we re;refine⟨_,rfl,hw.tr re.cM,?_⟩;have h5:=re.iX (id:=1) (sz:=4) (m:=css.length) rfl hfl (by unfold maxLen;omega) (by decide) hG.one;exact eP.list ((hG.rel re (cB w)).cI fun g hg=>Cv.nw hg re) (h5.cI fun g hg=>.inr hg)
theorem Ix(hok:De f.nodes.length l):Bl (da (jT f l) (-1)):=fun t=>by
 rcases aQ t (da (jT f l) (-1)).length with h|h
 ·have h2:t<(jT f l).length:=by rw[da,aL]at h;exact h
  have h3:(jT f l)[t]∈jT f l:=aX h2;rw[getD_some (show (da (jT f l) (-1))[t]? =some ((jT f l)[t]* -1) by rw[da,aN,aB h2];rfl)];obtain⟨z,hz,hz2⟩:=aT.1 h3;have hb:=BH hok l.length (aG _) z hz;have hl:=hok.len;rw[<-hz2,show(z:Rat)* -1=((-z:Int):Rat) by rw[Rat.intCast_neg];grind];exact Ib.int (by omega)
 ·rw[iZ h];exact Ib.zero _
theorem uF.MK(h:uF f):∀r∈cT (cQ f) f.cols,∀q∈r,rl q<=14:=fun r hr q hq=>by
 obtain⟨D,hD⟩:=h.M7;have h1:=hD.rl r hr q hq;have h2:ln (wt 13)<=14:=fg.2 (F6 (by decide));omega
abbrev ML(f:eh):Nat->Rat:=fun t=>(cW f).getD t 0
set_option maxRecDepth 8000 in
theorem zS{vl:Value}(hS:Old S w)(hf:dV w S vn vb vs f)(hl:jM w S vl l)(hsm:eK f=0->uF f):
  dm PG N.k7 #[.agg #[vn,vb,vs],vl] w (eB w fun v' w2=>(kl f l≠0∧v'= .tuple #[.slice none 0 0,.int .i64 (kl f l)])∨(kl f l=0∧((gR (cQ f) (da (jT f l) (-1)) f.cols=none∧v'= .tuple #[.slice none 0 0,.int .i64 17])∨∃x vx,mV (cQ f) f.cols (ML f) (da (jT f l) (-1)) x∧v'= .tuple #[vx,.int .i64 0]∧cO w2 (Nf w w2) vx x))):=by
 have hw:cV w.heap.size w w:=cV.refl;obtain⟨an,cn,ab,cb,aq,cq,rfl,rfl,rfl,hmn,hmb,hms⟩:=hf.shape;obtain⟨al,cl,rfl,hcl,hml⟩:=hl.shape;obtain⟨e0,EE⟩:∃e,kl f l=e:=⟨_,rfl⟩
 refine lZ (by simp) ?_;refine cC (cE hw (fun _ w' v w2=>v= .int .i64 e0) (fun O w' r=>(kr (oS hS r) (hf.cG (kS hw r hS)) (hl.cG (kS hw r hS))).mono fun _ _ ⟨v2,e1,e2,e3⟩=>⟨v2,e1,e2,by rw[e3,EE]⟩) ?_);rintro O wa1 v1 wb1 iv1 r he hw h_ rfl;refine dI.mk (fun he=>?_) (fun he=>?_)
 ·have he:e0≠0:=by simpa using he
  intro ρe we re;exact⟨_,rfl,hw.tr re.cM,.inl ⟨by rw[EE];exact he,by rw[EE];rfl⟩⟩
 have he:e0=0:=by simpa using he
 have hel:kl f l=0:=by rw[EE,he]
 obtain⟨herr,hld⟩:=nd hel;have hfb:=hsm herr;have hfs:=hfb.toFrS;have hld:=CE hld;have hc18:=hfs.IG;have hr12:=hfs.Kz;have htl:=j1 f;have hlen:=ff f;have hn4:=hfs.n4;have hok:=qA herr;have hvl:=lh f l;have hc0:f.cols=f.bars.length+f.cU.length:=rfl;refine cJ hτ db [.x 0,.x 1,.x 2,.x 3,.x 4,.x 5,.x 6,.x 7,.x 8,.x 9] (by kernel_rfl) (by kernel_rfl) ?_;refine cE hw (fun _ w' v w2=>cO w2 (Nf w' w2) v (jT f l)∧∀q∈jT f l,rl q<=1) (fun O w' r=>(uf (oS hS r) (hl.cG (kS hw r hS)) hfs.n hld rfl rfl).mono fun _ _ ⟨v2,e1,e2,e3,e4⟩=>⟨v2,e1,e2,cO.cI e3.c fun g hg=>hg.new,e4⟩) ?_;rintro O wa2 v2 wb2 iv2 r he hw h_ ⟨hn,hvq⟩;have hP:=cO.c9 (S:=fun _=>False) hn r.cD (mN h_);obtain⟨ap,cp,rfl,-,-⟩:=dL.shape hP;rw[hvl];refine cL (Φ:=fun _ w' v w2=>(gR (cQ f) (da (jT f l) (-1)) f.cols=none∧v= .tuple #[.slice none 0 0,.bool false])∨∃x vx,mV (cQ f) f.cols (ML f) (da (jT f l) (-1)) x∧v= .tuple #[vx,.bool true]∧cO w2 (Nf w' w2) vx x) (fun O w' r=>HJ (S:=fun g=>S g∨Cf w iv2 g) (fun g hg=>hg.elim (oS hS r g) (Rel.old r (cB w) g)) (dV.cI (hf.cG (kS hw r hS)) fun g hg=>.inl hg) herr hfb (cO.cI (by have:=cO.rel hP r (cB w);rw[hvl]at this;exact this) fun g hg=>.inr hg) hvl (fun q hq=>by have:=hvq q hq;omega) (Ix hld)) ?_;rintro O wa3 v3 wb3 r he hb (⟨hno,rfl⟩|⟨x,vx,hx,rfl,hn⟩)
 ·replace hw:=hw.tr hb;intro ρe we re;exact⟨_,rfl,hw.tr re.cM,.inr ⟨hel,.inl ⟨hno,rfl⟩⟩⟩
 replace hw:=hw.tr hb;have hX:=cO.c9 (S:=fun _=>False) hn r.cD (iv:=(wa3.heap.size,wb3.heap.size)::iv2) aJ;generalize (wa3.heap.size,wb3.heap.size)::iv2=ivx at*
 obtain⟨ax,cx,rfl,-,-⟩:=dL.shape hX;intro ρe we re;exact⟨_,rfl,hw.tr re.cM,.inr ⟨hel,.inr ⟨x,_,hx,rfl,cO.out hX re (cB w)⟩⟩⟩
theorem Lc(h:eK f≠0∨f.nodes.length<=4∧f.bars.length<=6)(hb:∀b∈f.bars,rl b.2.2<=3)(hs:∀b∈f.cU,rl b.2.2<=3)(h0:eK f=0):uF f:=
 ⟨Lb h h0,fun q hq=>by
  rcases bQ.1 hq with h|h
  ·obtain⟨b,hb2,rfl⟩:=aT.1 h;exact hb b hb2
  ·obtain⟨b,hb2,rfl⟩:=aT.1 h;exact hs b hb2⟩
end Go.Ex
namespace Go.Ex
variable{x:List Rat}{k:Nat}
def C4(f:eh)(x:List Rat):Rat:=oG (fun t=>(cW f).getD t 0) (fun t=>x.getD t 0) (fun t=>x.getD t 0) f.cols*Rat.divInt 1 2
theorem Jk{f:eh}(hx:x.length=f.cols):eH (eJ x (cW f)) x (eJ x (cW f)).length / ((2:Int):Rat)=C4 f x:=by
 have hl:(eJ x (cW f)).length=f.cols:=by rw[eJ,List.length_mapIdx,hx]
 rw[vF,hl,C4,oG,cK (g:=fun t=>(cW f).getD t 0*(x.getD t 0*x.getD t 0)) fun t ht=>by rw[k5 (by omega)];grind,Rat.divInt_eq_div,bc,bc];have:((1:Int):Rat)=1:=rfl;rw[this,bu]
theorem B5{q:Rat}(h:0<q):0<q*Rat.divInt 1 2:=Rat.mul_pos h (by decide)
section
variable{f:eh}{b y s z:List Rat}{c:Rat}
theorem Af.Jl(h:Af f)(hy:mV (cQ f) f.cols (fun t=>(cW f).getD t 0) b y)(hk:k<(cT (cQ f) f.cols).length)(hs:(cT (cQ f) f.cols)[k]? =some s)(hz:∀t,t<f.cols->z.getD t 0=y.getD t 0+s.getD t 0*c):
  C4 f z=C4 f y+c*c*C4 f s:=by
 have h0:=hy.st k hk;have e:∀t,dG (cT (cQ f) f.cols) k t=s.getD t 0:=fun t=>by rw[dG,getD_some hs]
 unfold C4;have h1:oG (fun t=>(cW f).getD t 0) (fun t=>z.getD t 0) (fun t=>z.getD t 0) f.cols=oG (fun t=>(cW f).getD t 0) (fun t=>y.getD t 0) (fun t=>y.getD t 0) f.cols+(2*c*oG (fun t=>(cW f).getD t 0) (dG (cT (cQ f) f.cols) k) (fun t=>y.getD t 0) f.cols+c*c*oG (fun t=>(cW f).getD t 0) (fun t=>s.getD t 0) (fun t=>s.getD t 0) f.cols):=by
  unfold oG;rw[<-eN,<-eN,<-fY,<-fY];refine cK fun t ht=>?_;dsimp only
  rw[hz t ht,e t];grind
 rw[h1,h0];grind
theorem Af.LF(h:Af f)(hk:k<(cT (cQ f) f.cols).length)(hs:(cT (cQ f) f.cols)[k]? =some s):0<C4 f s:=by
 have e:∀t,dG (cT (cQ f) f.cols) k t=s.getD t 0:=fun t=>by rw[dG,getD_some hs]
 refine B5 ?_;have h1:=h.Gf.self (fun t=>s.getD t 0);have h1:0<=oG (fun t=>(cW f).getD t 0) (fun t=>s.getD t 0) (fun t=>s.getD t 0) f.cols:=h1;rcases Rat.le_iff_lt_or_eq.1 h1 with h2|h2
 ·exact h2
 ·have h3:=h.Gf.Kv (fun t=>s.getD t 0) (fun j hj=>by
   have:=sX (ff f) hk j hj
   rwa [show dG (cT (cQ f) f.cols) k=fun t=>s.getD t 0 from funext e]at this) h2.symm
  have h4:=Fh (M:=cQ f) (n:=f.cols) (c:=fun i=>if i=k then 1 else 0) (fun t ht=>by
   rw[fP hk fun i hi hne=>by rw[aK hne,bG],if_pos rfl,e t,h3 t ht,bC]) k hk
  rw[if_pos rfl]at h4;exact absurd h4 (by decide)
end
end Go.Ex
namespace Go.Ex
open Go Go.Sx Go.Proofs
variable{xs:List (Int×Int)}{x ys:List Rat}{h0:Nat}{S:Nat->Prop}{b:Rat}{w:World}{f:eh}
theorem Iy(h:uF f)(hx:x.length<=f.cols)(hq:∀q∈x,rl q<=h0):∀q∈eJ x (cW f),rl q<=h0+3:=fun q hq2=>by
 obtain⟨t,ht⟩:=aS hq2;have htl2:t<x.length:=by have:=(aE.1 ht).1;rw[iQ]at this;exact this
 have h1:=k5 (a:=x) (b:=cW f) htl2;rw[getD_some ht]at h1;have h2:=iF (x.getD t 0) ((cW f).getD t 0);have h3:=hq (x.getD t 0) (by rw[getD_some (aB htl2)];exact aX _);have h4:=h.MT (t:=t) (by omega);rw[h1];omega
theorem GD(h:uF f)(hx:x.length<=f.cols)(hq:∀q∈x,rl q<=h0):∀q∈qU f x,rl q<=h0+3:=fun q hq2=>by
 obtain⟨t,ht,rfl⟩:=aT.1 hq2;have ht:=List.mem_range.1 ht;have h1:=iF ((cW f).getD t 0) (x.getD t 0);have h2:=h.MT (t:=t) (by omega);have h3:=hq (x.getD t 0) (by rw[getD_some (aB ht)];exact aX _);omega
theorem Iz(hx:x.length=f.cols):Rat.divInt 1 2*eH x (qU f x) x.length=C4 f x:=by
 rw[vF,hx,C4,oG,bl];congr 1;refine cK fun t ht=>?_;have h1:(qU f x).getD t 0=(cW f).getD t 0*x.getD t 0:=getD_some (by rw[qU,aN,bp (by omega)];rfl);rw[h1];grind
theorem mj{vn vb vs vx:Value}(hS:Old S w)(hf:dV w S vn vb vs f)(hsm:eK f=0->uF f)(hx:cX w S vx x)(hxq:∀q∈x,rl q<=200):
  dm PG N.ot #[.agg #[vn,vb,vs],vx] w (eB w fun v' w2=>(eK f≠0∧v'= .tuple #[mH,.int .i64 (eK f)])∨(eK f=0∧((x.length≠f.cols∧v'= .tuple #[mH,.int .i64 11])∨(x.length=f.cols∧∃r,v'= .tuple #[r,.int .i64 0]∧cP w2 (Nf w w2) r (C4 f x))))):=by
 have hw:cV w.heap.size w w:=cV.refl;obtain⟨an,cn,ab,cb,aq,cq,rfl,rfl,rfl,hmn,hmb,hms⟩:=hf.shape;obtain⟨ax,cx,rfl,hcx,hmx⟩:=dL.shape hx;unfold maxLen at hmx;have hcols:f.cols=f.bars.length+f.cU.length:=rfl;obtain⟨e0,EE⟩:∃e,eK f=e:=⟨_,rfl⟩
 refine tC (by simp) ?_;refine cC (cE hw (fun _ w' v w2=>v= .int .i64 e0) (fun O w' r=>(zK (oS hS r) (hf.cG (kS hw r hS))).mono fun _ _ ⟨v2,e1,e2,e3⟩=>⟨v2,e1,e2,by rw[e3,EE]⟩) ?_);rintro O wa1 v1 wb1 iv1 r he hw h_ rfl;refine dI.mk (fun he=>?_) (fun he=>?_)
 ·have he:e0≠0:=by simpa using he
  intro ρe we re;exact⟨_,rfl,hw.tr re.cM,.inl ⟨by rw[EE];exact he,by rw[EE];rfl⟩⟩
 have he:e0=0:=by simpa using he
 have herr:eK f=0:=by rw[EE,he]
 have hfb:=hsm herr;have hfs:=hfb.toFrS;have hok:=qA herr;have hc18:=hfs.IG;refine cC (cE hw (fun _ w' v w2=>v= .int .i64 (if x.length≠f.cols then 11 else 0)) (fun O w' r=>CO (hf.cG (kS hw r hS)) ⟨hfs.b,hfs.s⟩) ?_);rintro O wa2 v2 wb2 iv2 r he hw h_ rfl;by_cases hsz:x.length≠f.cols
 ·rw[if_pos hsz];intro ρe we re;exact⟨_,rfl,hw.tr re.cM,.inr ⟨herr,.inl ⟨hsz,rfl⟩⟩⟩
 rw[aK hsz];have hxl:x.length=f.cols:=by simpa using hsz
 refine cC (cL (Φ:=fun _ w' v w2=>cX w2 (Nw S w' w2) v (cW f)) (fun O w' r=>qF (S:=S) (oS hS r) (hf.cG (kS hw r hS)) hok) ?_);rintro O wa3 v3 wb3 r he hb hn;replace hw:=hw.tr hb;have hL:=cX.cI (S':=Cv S w.heap.size ((wa3.heap.size,wb3.heap.size)::iv2)) hn fun g hg=>hg.elim .inl fun h=>.inr ⟨by have:=r.cD;omega,_,_,aJ,h.1,h.2⟩;generalize (wa3.heap.size,wb3.heap.size)::iv2=iv3 at*
 obtain⟨afl,cfl,rfl,-,-⟩:=dL.shape hL;have hbr:=Iy hfb (Nat.le_of_eq hxl) hxq;have hel2:(eJ x (cW f)).length=x.length:=iQ _ _;refine cC (cE hw (fun _ w' v w2=>cO w2 (Nf w' w2) v (eJ x (cW f))) (fun O w' r=>(CB (S:=Cv S w.heap.size iv3) (Rel.old r hS) (cX.cI (cX.cG hx (kS hw r hS)) fun g hg=>.inl hg) (cX.rel hL r hS) (by rw[hxl,kL];exact aG _) (by omega)).mono fun _ _ ⟨v2,e1,e2,e3⟩=>⟨v2,e1,e2,cO.cI e3.c fun g hg=>hg.new⟩) ?_);rintro O wa4 v4 wb4 iv4 r he hw h_ hn;have hE:=cO.c9 (S:=fun _=>False) hn r.cD (mN h_);obtain⟨ae,ce,rfl,-,-⟩:=dL.shape hE;refine cC (cE hw (fun _ w' v w2=>cP w2 (Nf w' w2) v (eH (eJ x (cW f)) x (eJ x (cW f)).length)) (fun O w' r=>Ei (S:=fun g=>S g∨Cf w iv4 g) (h:=204) (fun g hg=>hg.elim (oS hS r g) (Rel.old r (cB w) g)) (cX.cI (cO.l (cO.rel hE r (cB w)) fun q hq=>by have:=hbr q hq;omega) fun g hg=>.inr hg) (cX.cI (cX.cG hx (kS hw r hS)) fun g hg=>.inl hg) (by omega) (fun q hq=>by have:=hbr q hq;omega) (fun q hq=>by have:=hxq q hq;omega) (by decide) (by omega)) ?_);rintro O wa5 v5 wb5 iv5 r he hw h_ hn;have hd:=hn.c9 (S:=fun _=>False) r.cD (mN h_);obtain⟨s5_0,s5_1,s5_2,s5_3,s5_4,s5_5,s5_6,s5_7,rfl⟩:=hd.shape;have hdr:=ki (h:=204) (xs:=eJ x (cW f)) (ys:=x) (fun q hq=>by have:=hbr q hq;omega) (fun q hq=>by have:=hxq q hq;omega) (by decide) (eJ x (cW f)).length;refine cC (cE hw (fun _ w' v w2=>cP w2 (Nf w' w2) v ((2:Int):Rat)) (fun O w' r=>jK 2 w' (by decide) (by decide)) ?_);rintro O wa6 v6 wb6 iv6 r he hw h_ hn;replace hd:=hd.cF r (cB w) he (mC h_);have h2:=hn.c9 (S:=fun _=>False) r.cD (mN h_);obtain⟨s6_0,s6_1,s6_2,s6_3,s6_4,s6_5,s6_6,s6_7,rfl⟩:=h2.shape;refine cC (cE hw (fun _ w' v w2=>cP w2 (Nf w' w2) v (C4 f x)) (fun O w' r=>Jk hxl▸I0 (S:=Cf w iv6) (Rel.old r (cB w)) ((hd.rel r (cB w)).l (by omega)) ((h2.rel r (cB w)).l (by decide)) (by decide)) ?_);rintro O wa7 v7 wb7 iv7 r he hw h_ hn;have hq:=hn.c9 (S:=fun _=>False) r.cD (mN h_);obtain⟨s7_0,s7_1,s7_2,s7_3,s7_4,s7_5,s7_6,s7_7,rfl⟩:=hq.shape;intro ρe we re;exact⟨_,rfl,hw.tr re.cM,.inr ⟨herr,.inr ⟨hxl,_,rfl,cP.out hq re (cB w)⟩⟩⟩
theorem HK{vn vb vs vx:Value}(hS:Old S w)(hf:dV w S vn vb vs f)(hfb:uF f)(hx:cX w S vx x)(hxq:∀q∈x,rl q<=200)(hxl:x.length=f.cols):
  dm PG N.s7 #[.agg #[vn,vb,vs],vx] w (eB w fun v' w2=>cP w2 (Nf w w2) v' (C4 f x)):=by
 have hw:cV w.heap.size w w:=cV.refl;obtain⟨an,cn,ab,cb,aq,cq,rfl,rfl,rfl,hmn,hmb,hms⟩:=hf.shape;obtain⟨ax,cx,rfl,hcx,hmx⟩:=dL.shape hx;unfold maxLen at hmx;have hcols:f.cols=f.bars.length+f.cU.length:=rfl;have hfs:=hfb.toFrS;have hc18:=hfs.IG;refine wC (by simp) ?_;refine cC (cE hw (fun _ w' v w2=>∃q,v= .tuple #[q,.int .i64 0]∧cP w2 (Nf w' w2) q (Rat.divInt 1 2)) (fun O w' r=>(Dl 1 2 w' (by decide) (by decide) (by decide) (by decide)).mono fun _ _ ⟨v2,e1,e2,e3⟩=>⟨v2,e1,e2,e3.elim (fun h=>absurd h.1 (by decide)) fun h=>h.2⟩) ?_);rintro O wa1 v1 wb1 iv1 r he hw h_ ⟨q1,rfl,hn⟩;have hh:=cP.c9 (S:=fun _=>False) hn r.cD (mN h_);obtain⟨u0,u1,u2,u3,u4,u5,u6,u7,rfl⟩:=hh.shape;refine cJ hτ db [.x 0,.x 1,.x 2,.x 3,.x 4,.x 5,.x 6,.x 7] (by kernel_rfl) (by kernel_rfl) ?_;refine cE hw (fun _ w' v w2=>cO w2 (Nf w' w2) v (qU f x)) (fun O w' r=>Du (oS hS r) (hf.cG (kS hw r hS)) ⟨hfs.b,hfs.s⟩ (cX.cG hx (kS hw r hS)) (by omega)) ?_;rintro O wa2 v2 wb2 iv2 r he hw h_ hn;replace hh:=hh.cF r (cB w) he (mC h_);have hW:=cO.c9 (S:=fun _=>False) hn r.cD (mN h_);obtain⟨aw,cw,rfl,-,-⟩:=dL.shape hW;have hwr:=GD hfb (Nat.le_of_eq hxl) hxq;have hwl:=zQ f x;refine cE hw (fun _ w' v w2=>cP w2 (Nf w' w2) v (eH x (qU f x) x.length)) (fun O w' r=>Le (S:=fun g=>S g∨Cf w iv2 g) (h:=204) (fun g hg=>hg.elim (oS hS r g) (Rel.old r (cB w) g)) (cX.cI (cX.cG hx (kS hw r hS)) fun g hg=>.inl hg) (cX.cI (cO.l (cO.rel hW r (cB w)) fun q hq=>by have:=hwr q hq;omega) fun g hg=>.inr hg) hwl.symm (fun q hq=>by have:=hxq q hq;omega) (fun q hq=>by have:=hwr q hq;omega) (by decide) (by omega)) ?_;rintro O wa3 v3 wb3 iv3 r he hw h_ hn;replace hh:=hh.cF r (cB w) he (mC h_);have hd:=hn.c9 (S:=fun _=>False) r.cD (mN h_);obtain⟨s3_0,s3_1,s3_2,s3_3,s3_4,s3_5,s3_6,s3_7,rfl⟩:=hd.shape;have hdr:=ki (h:=204) (xs:=x) (ys:=qU f x) (fun q hq=>by have:=hxq q hq;omega) (fun q hq=>by have:=hwr q hq;omega) (by decide) x.length;refine cE hw (fun _ w' v w2=>cP w2 (Nf w' w2) v (C4 f x)) (fun O w' r=>Iz hxl▸zR (S:=Cf w iv3) (Rel.old r (cB w)) ((hh.rel r (cB w)).l (by decide)) ((hd.rel r (cB w)).l (by omega))) ?_;rintro O wa4 v4 wb4 iv4 r he hw h_ hn;have hq:=hn.c9 (S:=fun _=>False) r.cD (mN h_);obtain⟨s4_0,s4_1,s4_2,s4_3,s4_4,s4_5,s4_6,s4_7,rfl⟩:=hq.shape;intro ρe we re;exact⟨_,rfl,hw.tr re.cM,cP.out hq re (cB w)⟩
theorem Ka(h:uF f)(hx:x.length=f.cols)(hq:∀q∈x,rl q<=200):rl (C4 f x)<=8000:=by
 have hc:=h.IG;have h1:=ki (h:=204) (xs:=x) (ys:=qU f x) (fun q hq2=>by have:=hq q hq2;omega) (fun q hq2=>by have:=GD h (Nat.le_of_eq hx) hq q hq2;omega) (by decide) x.length;have h2:=iF (Rat.divInt 1 2) (eH x (qU f x) x.length);have h3:rl (Rat.divInt 1 2)<=2:=by decide
 rw[Iz hx]at h2;omega
theorem KG(h:b≠0):0<b*b:=by
 rcases Rat.le_iff_lt_or_eq.1 (sq_nonneg b)with h2|h2
 ·exact h2
 ·exact absurd ((Rat.mul_eq_zero.1 h2.symm).elim id id) h
theorem KH{q:Rat}(h:0<q):rs q=1:=by
 have h1:=ko.2 h;have h2:=Ha q;omega
theorem Dv{xs:List Rat}{t:Nat}(h0:0<xs.length)(ht:t<ys.length):(iT xs ys b).getD t 0=xs.getD t 0+ys.getD t 0*b:=by
 rw[getD_some (qH ht),if_pos h0]
theorem JA{xs:List Rat}{h1 h2 h3:Nat}(hx:∀q∈xs,rl q<=h1)(hy:∀q∈ys,rl q<=h2)(hb:rl b<=h3)(hl:xs.length=ys.length):∀q∈iT xs ys b,rl q<=h1+h2+h3+1:=fun q hq=>by
 obtain⟨t,ht⟩:=aS hq;have htl:t<ys.length:=by have:=(aE.1 ht).1;rwa [jQ]at this
 have e:=Dv (xs:=xs) (b:=b) (show 0<xs.length by omega) htl;rw[getD_some ht]at e;have k1:=hx (xs.getD t 0) (by rw[getD_some (aB (show t<xs.length by omega))];exact aX _);have k2:=hy (ys.getD t 0) (by rw[getD_some (aB htl)];exact aX _);have k3:=nL (xs.getD t 0) (ys.getD t 0*b);have k4:=iF (ys.getD t 0) b;rw[e];omega
set_option maxHeartbeats 2000000 in
set_option maxRecDepth 8000 in
theorem wi{vn vb vs v vx:Value}{f:FD}{l:List Ld}(hS:Old S w)(hF:pW w S vn vb vs f)(hl:jM w S v l)(hx:jz w S vx xs):
  dm PG N.jt #[.agg #[vn,vb,vs],v,vx] w (eB w fun v' _=>v'= .bool true):=by
 have hw:cV w.heap.size w w:=cV.refl;obtain⟨an,cn,rfl,-,-⟩:=hF.nodes.shape;obtain⟨ab,cb,rfl,-,-⟩:=hF.bars.shape;obtain⟨aq,cq,rfl,-,-⟩:=hF.cU.shape;obtain⟨al,cl,rfl,-,-⟩:=hl.shape;obtain⟨ax,cx,rfl,hcx,hmx⟩:=dL.shape hx;refine nP (by simp) ?_;refine cC (cE hw (fun _ w' v w2=>∃d,v= .bool d∧(d=true->dV w S (.slice an f.nodes.length cn) (.slice ab f.bars.length cb) (.slice aq f.cU.length cq) f.val∧(∀b∈f.val.bars,rl b.2.2<=3)∧(∀b∈f.val.cU,rl b.2.2<=3)∧(eK f.val≠0∨f.val.nodes.length<=4∧f.val.bars.length<=6))) (fun O w' r=>HB hS hw r hF) ?_);rintro O wa1 v1 wb1 iv1 r he hw h_ ⟨d1,rfl,hz1⟩
 cases d1
 ·refine cC (cL (Φ:=fun _ w' v w2=>v= .bool true) (fun O w' r=>ij w') ?_);rintro O wa2 v2 wb2 r he hb rfl;replace hw:=hw.tr hb;generalize (wa2.heap.size,wb2.heap.size)::iv1=iv2 at*
  intro ρe we re;exact⟨_,rfl,hw.tr re.cM,rfl⟩
 have hz1:=hz1 rfl;refine cC (cE hw (fun _ w' v w2=>∃d,v= .bool d) (fun O w' r=>La (hl.cG (kS hw r hS))) ?_);rintro O wa2 v2 wb2 iv2 r he hw h_ ⟨d2,rfl⟩
 cases d2
 ·refine cC (cL (Φ:=fun _ w' v w2=>v= .bool true) (fun O w' r=>ij w') ?_);rintro O wa3 v3 wb3 r he hb rfl;replace hw:=hw.tr hb;generalize (wa3.heap.size,wb3.heap.size)::iv2=iv3 at*
  intro ρe we re;exact⟨_,rfl,hw.tr re.cM,rfl⟩
 refine cC (cE hw (fun _ w' v w2=>∃d,v= .bool d∧(d=true->xs.length<=80∧cX w S (.slice ax xs.length cx) (xs.map rq)∧∀q∈xs.map rq,rl q<=3)) (fun O w' r=>HC hS hw r hx) ?_);rintro O wa3 v3 wb3 iv3 r he hw h_ ⟨d3,rfl,hz3⟩
 cases d3
 ·refine cC (cL (Φ:=fun _ w' v w2=>v= .bool true) (fun O w' r=>ij w') ?_);rintro O wa4 v4 wb4 r he hb rfl;replace hw:=hw.tr hb;generalize (wa4.heap.size,wb4.heap.size)::iv3=iv4 at*
  intro ρe we re;exact⟨_,rfl,hw.tr re.cM,rfl⟩
 have hz3:=hz3 rfl;obtain⟨hR,hrb,hrs,hsm⟩:=hz1;obtain⟨fv,hfv⟩:∃fv,f.val=fv:=⟨_,rfl⟩
 rw[hfv]at hR hrb hrs hsm;obtain⟨en,eb,es⟩:f.nodes.length=fv.nodes.length∧f.bars.length=fv.bars.length∧f.cU.length=fv.cU.length:=by rw[<-hfv];exact⟨rfl,(aL ..).symm,(aL ..).symm⟩
 rw[en,eb,es]at hR ⊢;obtain⟨hx80,hVx,hxq⟩:=hz3;obtain⟨xv,hxv⟩:∃xv,xs.map rq=xv:=⟨_,rfl⟩
 rw[hxv]at hVx hxq;have hxl:xs.length=xv.length:=by rw[<-hxv,aL]
 rw[hxl]at hVx hx80 ⊢;obtain⟨e0,EE⟩:∃e,eK fv=e:=⟨_,rfl⟩
 have hsf:eK fv=0->uF fv:=Lc hsm hrb hrs;have hsf2:eK fv=0->FrS fv:=fun h=>(hsf h).toFrS;by_cases he0:e0=0
 ·rw[he0]at EE;have hfb:=hsf EE;have hfs:=hfb.toFrS;have hc18:=hfs.IG;by_cases hsz:xv.length=fv.cols
  ·refine cC (cL (Φ:=fun _ w' v w2=>∃q,v= .tuple #[q,.int .i64 0]∧cP w2 (Nf w' w2) q (C4 fv xv)) (fun O w' r=>(mj (oS hS r) (hR.cG (kS hw r hS)) hsf (cX.cG hVx (kS hw r hS)) (fun q hq=>by have:=hxq q hq;omega)).mono fun _ _ ⟨v2,e1,e2,e3⟩=>⟨v2,e1,e2,e3.elim (fun h=>absurd EE h.1) fun h=>h.2.elim (fun g=>absurd hsz g.1) fun g=>g.2⟩) ?_);rintro O wa4 v4 wb4 r he hb ⟨qhn1,rfl,hn⟩;replace hw:=hw.tr hb;have hn1:=cP.c9 (S:=fun _=>False) hn r.cD (iv:=(wa4.heap.size,wb4.heap.size)::iv3) aJ;generalize (wa4.heap.size,wb4.heap.size)::iv3=iv4 at*
   obtain⟨hn10,hn11,hn12,hn13,hn14,hn15,hn16,hn17,rfl⟩:=hn1.shape;refine cC (cE hw (fun _ w' v w2=>v= .int .i64 0) (fun O w' r=>(ta (oS hS r) (hR.cG (kS hw r hS))).mono fun _ _ ⟨v2,e1,e2,e3⟩=>⟨v2,e1,e2,by rw[e3,EE]⟩) ?_);rintro O wa5 v5 wb5 iv5 r he hw h_ rfl;replace hn1:=hn1.cF r (cB w) he (mC h_);refine cC (cE hw (fun _ w' v w2=>v= .int .i64 fv.cols) (fun O w' r=>pX (hR.cG (kS hw r hS)) ⟨hfs.b,hfs.s⟩) ?_);rintro O wa6 v6 wb6 iv6 r he hw h_ rfl;replace hn1:=hn1.cF r (cB w) he (mC h_);refine dI.mk (fun hd=>by rw[hsz]at hd;simp at hd) (fun _=>?_);refine cJ hτ db [.x 0,.x 1,.x 2,.x 3,.x 4,.x 5,.x 6,.x 7,.x 8,.x 9] (by kernel_rfl) (by kernel_rfl) ?_;refine cE hw (fun _ w' v w2=>cP w2 (Nf w' w2) v (C4 fv xv)) (fun O w' r=>HK (oS hS r) (hR.cG (kS hw r hS)) hfb (cX.cG hVx (kS hw r hS)) (fun q hq=>by have:=hxq q hq;omega) hsz) ?_;rintro O wa7 v7 wb7 iv7 r he hw h_ hn;replace hn1:=hn1.cF r (cB w) he (mC h_);have hn2:=hn.c9 (S:=fun _=>False) r.cD (mN h_);obtain⟨s7_0,s7_1,s7_2,s7_3,s7_4,s7_5,s7_6,s7_7,rfl⟩:=hn2.shape;refine cE hw (fun _ w' v w2=>v= .bool true) (fun O w' r=>(FC (S:=Cf w iv7) (Rel.old r (cB w)) (hn1.rel r (cB w)) (hn2.rel r (cB w))).mono fun _ _ ⟨v2,e1,e2,e3⟩=>⟨v2,e1,e2,by rw[e3];exact congrArg _ (bR rfl)⟩) ?_;rintro O wa8 v8 wb8 iv8 r he hw h_ rfl;obtain⟨e1,EL⟩:∃e,tW fv.nodes.length l=e:=⟨_,rfl⟩
   refine cC (cE hw (fun _ w' v w2=>v= .int .i64 e1) (fun O w' r=>(AD (oS hS r) (hR.cG (kS hw r hS)) (hl.cG (kS hw r hS))).mono fun _ _ ⟨v2,e1,e2,e3⟩=>⟨v2,e1,e2,by rw[e3,EL]⟩) ?_);rintro O wa9 v9 wb9 iv9 r he hw h_ rfl;refine dI.mk (fun he1=>?_) (fun he1=>?_)
   ·refine cC (cL (Φ:=fun _ w' v w2=>v= .bool true) (fun O w' r=>ij w') ?_);rintro O wa10 v10 wb10 r he hb rfl;replace hw:=hw.tr hb;generalize (wa10.heap.size,wb10.heap.size)::iv9=iv10 at*
    intro ρe we re;exact⟨_,rfl,hw.tr re.cM,rfl⟩
   have he1:e1=0:=by simpa using he1
   rw[he1]at EL;have EFL:kl fv l=0:=by rw[kl,aK (by rw[EE];decide),EL]
   have hld:=CE EL;have hbl2:=Ix hld;have hbll:(da (jT fv l) (-1)).length=(cQ fv).length:=by rw[da,aL,lh,j1]
   obtain⟨o,ho⟩:∃o,gR (cQ fv) (da (jT fv l) (-1)) fv.cols=o:=⟨_,rfl⟩
   cases o with
   |none=>
    refine cC (cE hw (fun _ w' v w2=>v= .tuple #[.slice none 0 0,.int .i64 17]) (fun O w' r=>(zS (oS hS r) (hR.cG (kS hw r hS)) (hl.cG (kS hw r hS)) hsf).mono fun _ _ ⟨v2,e1,e2,e3⟩=>⟨v2,e1,e2,e3.elim (fun h=>absurd EFL h.1) fun h=>h.2.elim (fun g=>g.2) fun⟨x,vx,g,_⟩=>by obtain⟨z,hz⟩:=A9 (ff fv) (x:=fun t=>x.getD t 0) g.eq;rw[ho]at hz;cases hz⟩) ?_);rintro O wa10 v10 wb10 iv10 r he hw h_ rfl;refine cC (cE hw (fun _ w' v w2=>v= .bool true) (fun O w' r=>ij w') ?_);rintro O wa11 v11 wb11 iv11 r he hw h_ rfl;intro ρe we re;exact⟨_,rfl,hw.tr re.cM,rfl⟩
   |some x0=>
    obtain⟨c,-,-,hy⟩:=hfb.Gf.force (fl:=cW fv) ho;obtain⟨y,hye⟩:∃y,js (cT (cQ fv) fv.cols) c x0 (cT (cQ fv) fv.cols).length=y:=⟨_,rfl⟩
    rw[hye]at hy;have hyr:=hfb.MB hbl2 hbll hy;have hyl:=hy.len;refine cC (cE hw (fun _ w' v w2=>∃vx,v= .tuple #[vx,.int .i64 0]∧cO w2 (Nf w' w2) vx y) (fun O w' r=>(zS (oS hS r) (hR.cG (kS hw r hS)) (hl.cG (kS hw r hS)) hsf).mono fun _ _ ⟨v2,e1,e2,e3⟩=>⟨v2,e1,e2,e3.elim (fun h=>absurd EFL h.1) fun h=>h.2.elim (fun g=>by rw[ho]at g;cases g.1) fun⟨x,vx,g,k1,k2⟩=>⟨vx,k1,hfb.Gf.one g hy▸k2⟩⟩) ?_);rintro O wa10 v10 wb10 iv10 r he hw h_ ⟨vy,rfl,hn⟩;have hY:=cO.c9 (S:=fun _=>False) hn r.cD (mN h_);obtain⟨ay,cy,rfl,-,-⟩:=dL.shape hY;refine cC (cE hw (fun _ w' v w2=>∃q,v= .tuple #[q,.int .i64 0]∧cP w2 (Nf w' w2) q (C4 fv y)) (fun O w' r=>(mj (S:=fun g=>S g∨Cf w iv10 g) (fun g hg=>hg.elim (oS hS r g) (Rel.old r (cB w) g)) (dV.cI (hR.cG (kS hw r hS)) fun g hg=>.inl hg) hsf (cX.cI (cO.l (cO.rel hY r (cB w)) fun q hq=>by have:=hyr q hq;omega) fun g hg=>.inr hg) (fun q hq=>by have:=hyr q hq;omega)).mono fun _ _ ⟨v2,e1,e2,e3⟩=>⟨v2,e1,e2,e3.elim (fun h=>absurd EE h.1) fun h=>h.2.elim (fun g=>absurd hyl g.1) fun g=>g.2⟩) ?_);rintro O wa11 v11 wb11 iv11 r he hw h_ ⟨qhn3,rfl,hn⟩;replace hY:=cO.cF hY r (cB w) he (mC h_);have hn3:=cP.c9 (S:=fun _=>False) hn r.cD (mN h_);obtain⟨hn30,hn31,hn32,hn33,hn34,hn35,hn36,hn37,rfl⟩:=hn3.shape;refine cC (cE hw (fun _ w' v w2=>cR w2 (Nf w' w2) v (cT (cQ fv) fv.cols)) (fun O w' r=>Dq (oS hS r) (hR.cG (kS hw r hS)) EE hfs) ?_);rintro O wa12 v12 wb12 iv12 r he hw h_ hn;replace hY:=cO.cF hY r (cB w) he (mC h_);replace hn3:=hn3.cF r (cB w) he (mC h_);have hK:=cR.c9 (S:=fun _=>False) hn r.cD (mN h_);obtain⟨ak,ck,rfl,-,-⟩:=de.shape hK;refine dI.mk (fun hk0=>?_) (fun hk0=>?_)
    ·refine cC (cL (Φ:=fun _ w' v w2=>v= .bool true) (fun O w' r=>ij w') ?_);rintro O wa13 v13 wb13 r he hb rfl;replace hw:=hw.tr hb;replace hY:=cO.cF (iv':=(wa13.heap.size,wb13.heap.size)::iv12) hY r (cB w) he fun x hx=>aC _ hx;replace hn3:=hn3.cF (iv':=(wa13.heap.size,wb13.heap.size)::iv12) r (cB w) he fun x hx=>aC _ hx;replace hK:=cR.cF (iv':=(wa13.heap.size,wb13.heap.size)::iv12) hK r (cB w) he fun x hx=>aC _ hx;generalize (wa13.heap.size,wb13.heap.size)::iv12=iv13 at*
     intro ρe we re;exact⟨_,rfl,hw.tr re.cM,rfl⟩
    have hk0:0<(cT (cQ fv) fv.cols).length:=by have:=(show ¬((cT (cQ fv) fv.cols).length:Int)=0 from(by simpa using hk0));omega
    have hcp:0<fv.cols:=by
     have:=yJ (ff fv);omega
    obtain⟨s,hs⟩:∃s,(cT (cQ fv) fv.cols)[0]? =some s:=⟨_,aB hk0⟩
    have hsl:s.length=fv.cols:=kZ _ _ s (aD hs);have hsr:=hfb.MK s (aD hs);obtain⟨b,hb1⟩:∃q,xv[0]? =some q:=⟨_,aB (by omega)⟩
    have hbr:=hxq b (aD hb1);obtain⟨adb,csb,hab,hFb,-,hlb⟩:=dL.load hVx hb1;obtain⟨q0,q1,q2,q3,q4,q5,q6,q7,rfl,hFb⟩:=hFb;refine cC (cE hw (fun _ w' v w2=>cP w2 (Nf w' w2) v ((1:Int):Rat)) (fun O w' r=>pU 1 w' (by decide)) ?_);rintro O wa13 v13 wb13 iv13 r he hw h_ hn;replace hY:=cO.cF hY r (cB w) he (mC h_);replace hn3:=hn3.cF r (cB w) he (mC h_);replace hK:=cR.cF hK r (cB w) he (mC h_);have ho1:=hn.c9 (S:=fun _=>False) r.cD (mN h_);obtain⟨s13_0,s13_1,s13_2,s13_3,s13_4,s13_5,s13_6,s13_7,rfl⟩:=ho1.shape;refine dI.mk (fun _=>?_) (fun hd=>absurd (aH hd) (by omega));refine⟨adb,hab,by omega,[.bool q0,.slice q1 q2 q3,.bool q4,.slice q5 q6 q7],rfl,fun O w' r j u hu=>?_,?_⟩
    ·obtain⟨k1,k2⟩:=hlb j u hu;rw[cH (w:=w) (w2:=w') (by simp only[dQ];exact(hw.tr r.cM).block _ (hS _ k1))];exact k2
    obtain⟨adm,um,ham,hRm,km,kn⟩:=de.load hK hs;obtain⟨as1,cs1,rfl,-,-⟩:=dL.shape hRm;refine cJ hτ db [.x 0,.x 1,.x 2,.x 3,.x 4,.x 5,.p 11,.x 6,.x 7,.x 8,.x 9,.x 10,.x 11,.x 12,.x 13] (by kernel_rfl) (by kernel_rfl) ?_;refine⟨adm,ham,by omega,.slice as1 s.length cs1,fun O w' r=>?_,?_⟩
    ·rw[cH (w:=wb13) (w2:=w') (by simp only[dQ];exact Rel.same r (cB w) km)]
     first|exact kn|(simp only[Int.toNat_zero,Nat.zero_mul];exact kn)
    refine cE hw (fun _ w' v w2=>cO w2 (Nf w' w2) v (iT y s b)) (fun O w' r=>CP (S:=fun g=>S g∨Cf w iv13 g) (fun g hg=>hg.elim (oS hS r g) (Rel.old r (cB w) g)) (cX.cI (cO.l (cO.rel hY r (cB w)) fun q hq=>by have:=hyr q hq;omega) fun g hg=>.inr hg) (cX.cI (cO.l (cO.rel hRm r (cB w)) fun q hq=>by have:=hsr q hq;omega) fun g hg=>.inr hg) ((hFb.cG (kS hw r hS)).cI fun g hg=>.inl hg) (.inr (by omega)) (by omega) (fun q hq=>by have:=hsr q hq;omega)) ?_;rintro O wa14 v14 wb14 iv14 r he hw h_ hn;replace hn3:=hn3.cF r (cB w) he (mC h_);have hZ:=cO.c9 (S:=fun _=>False) hn r.cD (mN h_);obtain⟨az,cz,rfl,-,-⟩:=dL.shape hZ;have hzr:=JA hyr hsr hbr (show y.length=s.length by omega);have hzl:(iT y s b).length=fv.cols:=by rw[jQ,hsl]
    refine cE hw (fun _ w' v w2=>∃q,v= .tuple #[q,.int .i64 0]∧cP w2 (Nf w' w2) q (C4 fv (iT y s b))) (fun O w' r=>(mj (S:=fun g=>S g∨Cf w iv14 g) (fun g hg=>hg.elim (oS hS r g) (Rel.old r (cB w) g)) (dV.cI (hR.cG (kS hw r hS)) fun g hg=>.inl hg) hsf (cX.cI (cO.l (cO.rel hZ r (cB w)) fun q hq=>by have:=hzr q hq;omega) fun g hg=>.inr hg) (fun q hq=>by have:=hzr q hq;omega)).mono fun _ _ ⟨v2,e1,e2,e3⟩=>⟨v2,e1,e2,e3.elim (fun h=>absurd EE h.1) fun h=>h.2.elim (fun g=>absurd hzl g.1) fun g=>g.2⟩) ?_;rintro O wa15 v15 wb15 iv15 r he hw h_ ⟨qhn4,rfl,hn⟩;replace hn3:=hn3.cF r (cB w) he (mC h_);replace hZ:=cO.cF hZ r (cB w) he (mC h_);have hn4:=cP.c9 (S:=fun _=>False) hn r.cD (mN h_);obtain⟨hn40,hn41,hn42,hn43,hn44,hn45,hn46,hn47,rfl⟩:=hn4.shape;have hmore:=hfs.Jl (z:=iT y s b) (c:=b) hy hk0 hs (fun t ht=>Dv (by omega) (by omega));have hpos:=hfs.LF hk0 hs;have hr4:=Ka hfb hzl (fun q hq=>by have:=hzr q hq;omega);have hr3:=Ka hfb hyl (fun q hq=>by have:=hyr q hq;omega);by_cases hb0:b=0
    ·refine cC (cL (Φ:=fun _ w' v w2=>v= .int .i64 0) (fun O w' r=>(JB (S:=Cf w iv15) (Rel.old r (cB w)) ((hn4.rel r (cB w)).l (by omega)) ((hn3.rel r (cB w)).l (by omega))).mono fun _ _ ⟨v2,e1,e2,e3⟩=>⟨v2,e1,e2,by rw[e3];congr 1;rw[hmore,hb0];refine nX.2 ?_;grind⟩) ?_);rintro O wa16 v16 wb16 r he hb rfl;replace hw:=hw.tr hb;replace hn3:=hn3.cF (iv':=(wa16.heap.size,wb16.heap.size)::iv15) r (cB w) he fun x hx=>aC _ hx;replace hZ:=cO.cF (iv':=(wa16.heap.size,wb16.heap.size)::iv15) hZ r (cB w) he fun x hx=>aC _ hx;replace hn4:=hn4.cF (iv':=(wa16.heap.size,wb16.heap.size)::iv15) r (cB w) he fun x hx=>aC _ hx;generalize (wa16.heap.size,wb16.heap.size)::iv15=iv16 at*
     refine cC (cE hw (fun _ w' v w2=>v= .int .i64 0) (fun O w' r=>(ni (oS hS r) (hFb.cG (kS hw r hS))).mono fun _ _ ⟨v2,e1,e2,e3⟩=>⟨v2,e1,e2,by rw[e3,hb0];rfl⟩) ?_);rintro O wa17 v17 wb17 iv17 r he hw h_ rfl;replace hn3:=hn3.cF r (cB w) he (mC h_);replace hZ:=cO.cF hZ r (cB w) he (mC h_);replace hn4:=hn4.cF r (cB w) he (mC h_);refine cC (cE hw (fun _ w' v w2=>v= .bool true) (fun O w' r=>ij w') ?_);rintro O wa18 v18 wb18 iv18 r he hw h_ rfl;replace hn3:=hn3.cF r (cB w) he (mC h_);replace hZ:=cO.cF hZ r (cB w) he (mC h_);replace hn4:=hn4.cF r (cB w) he (mC h_);intro ρe we re;exact⟨_,rfl,hw.tr re.cM,rfl⟩
    refine cC (cE hw (fun _ w' v w2=>v= .int .i64 1) (fun O w' r=>(JB (S:=Cf w iv15) (Rel.old r (cB w)) ((hn4.rel r (cB w)).l (by omega)) ((hn3.rel r (cB w)).l (by omega))).mono fun _ _ ⟨v2,e1,e2,e3⟩=>⟨v2,e1,e2,by rw[e3];congr 1;refine KH ?_;rw[hmore];have:=Rat.mul_pos (KG hb0) hpos;grind⟩) ?_);rintro O wa16 v16 wb16 iv16 r he hw h_ rfl;replace hn3:=hn3.cF r (cB w) he (mC h_);replace hZ:=cO.cF hZ r (cB w) he (mC h_);replace hn4:=hn4.cF r (cB w) he (mC h_);refine cC (cE hw (fun _ w' v w2=>v= .bool true) (fun O w' r=>ij w') ?_);rintro O wa17 v17 wb17 iv17 r he hw h_ rfl;replace hn3:=hn3.cF r (cB w) he (mC h_);replace hZ:=cO.cF hZ r (cB w) he (mC h_);replace hn4:=hn4.cF r (cB w) he (mC h_);intro ρe we re;exact⟨_,rfl,hw.tr re.cM,rfl⟩
  refine cC (cE hw (fun _ w' v w2=>v= .tuple #[mH,.int .i64 11]) (fun O w' r=>(mj (oS hS r) (hR.cG (kS hw r hS)) hsf (cX.cG hVx (kS hw r hS)) (fun q hq=>by have:=hxq q hq;omega)).mono fun _ _ ⟨v2,e1,e2,e3⟩=>⟨v2,e1,e2,e3.elim (fun h=>absurd EE h.1) fun h=>h.2.elim (fun g=>g.2) fun g=>absurd g.1 hsz⟩) ?_);rintro O wa4 v4 wb4 iv4 r he hw h_ rfl;refine cC (cE hw (fun _ w' v w2=>v= .int .i64 0) (fun O w' r=>(ta (oS hS r) (hR.cG (kS hw r hS))).mono fun _ _ ⟨v2,e1,e2,e3⟩=>⟨v2,e1,e2,by rw[e3,EE]⟩) ?_);rintro O wa5 v5 wb5 iv5 r he hw h_ rfl;refine cC (cE hw (fun _ w' v w2=>v= .int .i64 fv.cols) (fun O w' r=>pX (hR.cG (kS hw r hS)) ⟨hfs.b,hfs.s⟩) ?_);rintro O wa6 v6 wb6 iv6 r he hw h_ rfl;refine dI.mk (fun _=>?_) (fun hd=>absurd (by have hd:=(show (xv.length:Int)=(fv.cols:Int)from(by simpa using hd));omega) hsz);refine cC (cE hw (fun _ w' v w2=>v= .bool true) (fun O w' r=>(GH (S:=fun _=>False) (cB w') (Dw.nil w' _) (Dw.nil w' _)).mono fun _ _ ⟨v2,e1,e2,e3⟩=>⟨v2,e1,e2,by rw[e3];rfl⟩) ?_);rintro O wa7 v7 wb7 iv7 r he hw h_ rfl;refine cC (cE hw (fun _ w' v w2=>v= .bool true) (fun O w' r=>ij w') ?_);rintro O wa8 v8 wb8 iv8 r he hw h_ rfl;intro ρe we re;exact⟨_,rfl,hw.tr re.cM,rfl⟩
 refine cC (cE hw (fun _ w' v w2=>v= .tuple #[mH,.int .i64 e0]) (fun O w' r=>(mj (oS hS r) (hR.cG (kS hw r hS)) hsf (cX.cG hVx (kS hw r hS)) (fun q hq=>by have:=hxq q hq;omega)).mono fun _ _ ⟨v2,e1,e2,e3⟩=>⟨v2,e1,e2,e3.elim (fun h=>by rw[h.2,EE]) fun h=>absurd (EE.symm.trans h.1) he0⟩) ?_);rintro O wa4 v4 wb4 iv4 r he hw h_ rfl;refine cC (cE hw (fun _ w' v w2=>v= .int .i64 e0) (fun O w' r=>(ta (oS hS r) (hR.cG (kS hw r hS))).mono fun _ _ ⟨v2,e1,e2,e3⟩=>⟨v2,e1,e2,by rw[e3,EE]⟩) ?_);rintro O wa5 v5 wb5 iv5 r he hw h_ rfl;refine dI.mk (fun _=>?_) (fun hd=>absurd (by simpa using hd) he0);refine dI.mk (fun _=>?_) (fun hd=>by simp at hd);refine cC (cE hw (fun _ w' v w2=>v= .bool true) (fun O w' r=>(GH (S:=fun _=>False) (cB w') (Dw.nil w' _) (Dw.nil w' _)).mono fun _ _ ⟨v2,e1,e2,e3⟩=>⟨v2,e1,e2,by rw[e3];rfl⟩) ?_);rintro O wa6 v6 wb6 iv6 r he hw h_ rfl;refine cC (cE hw (fun _ w' v w2=>v= .bool true) (fun O w' r=>ij w') ?_);rintro O wa7 v7 wb7 iv7 r he hw h_ rfl;intro ρe we re;exact⟨_,rfl,hw.tr re.cM,rfl⟩
end Go.Ex
