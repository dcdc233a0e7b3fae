/- A part of the proof: texts X193 to X206. Each tells its conditions in its theorems. -/
import Derived.Test.YtkdcaknoaeicdaaGreatP12
import Derived.Test.YtkdcaknoaeicdaaGreatP13
namespace Go.Ex
open Go Go.Sx Go.Proofs
end Go.Ex
namespace Go.Sx
open Go Go.Ex Go.Proofs
variable{cs:List Value}{T:Nat->Prop}{O:Nat->Sx.dU}
theorem Rel.BW{H:Hp}{nx:Nat}{iv:Iv}{B:Nat}{w w':World}(r:Rel H nx iv B w O w'){id t m sz:Nat}(h:cY H id=some (.vec t sz cs))(hm:cs.length=m*sz)(hm1:m<=maxLen)(hs:0<sz)(h1:∀u∈cs,u.oneCell'=true)(hT:(O id).nil=false->T (O id).g):
  jN w' T sz ((At.w id m).den O) cs m:=by
 rcases r.fits h with⟨hn,rfl⟩|⟨hn,spare,h2,h3,h4⟩
 ·have hm0:m=0:=by
   rcases bJ m with h|h
   ·exact h
   ·have:=Nat.mul_pos h hs;simp at hm;omega
  subst hm0;have hden:(At.w id 0).den O= .slice none 0 0:=by simp[At.den,hn]
  rw[hden];exact⟨aP _,by simp,by simp,none,0,rfl,aE _,fun j u h=>by cases h⟩
 ·have hden:(At.w id m).den O= .slice (some ⟨(O id).g,0,none⟩) m (O id).cap:=by simp[At.den,hn]
  rw[hden];refine⟨hm1,hm,h1,_,_,rfl,?_,fun j u hu=>⟨_,rfl,hT hn,?_⟩⟩
  ·rw[List.length_append,hm]at h3;exact Nat.le_of_mul_le_mul_right (show m*sz<=(O id).cap*sz by omega) hs
  ·rw[dN,cell_of h2,aU,aK (aC.1 hu).1];exact hu
end Go.Sx
namespace Go.Ex
open Go Go.Sx Go.Proofs
variable{p:List Rat}{g:Nat}{S T:Nat->Prop}
section
variable{S:Nat->Prop}{H:Hp}{nx:Nat}{iv iv':Iv}{B n:Nat}{w w' w2:World}{O:Nat->Sx.dU}{v:Value}{qs:List Rat}
theorem Bs.fresh(r:Rel H nx iv B w O w')(hx:∀g,v.ownBlock=some g->g<w'.heap.size)(hg:Nf w' w2 g):Bs S B ((w'.heap.size,w2.heap.size)::iv) v g:=by
 rcases hg with hg|hg
 ·exact hg.elim
 ·exact⟨.inr ⟨by have:=r.bw;omega,_,_,aI,hg.1,hg.2⟩,fun e=>by have:=hx g e;omega⟩
theorem Bs.solved(r:Rel H nx iv B w O w')(hx:∀g,v.ownBlock=some g->g<w'.heap.size)(hT:∀g,T g->Bs S B iv v g)(hg:Cv T w'.heap.size [(w'.heap.size,w2.heap.size)] g):Bs S B ((w'.heap.size,w2.heap.size)::iv) v g:=by
 rcases hg with hg|⟨h1,lo,hi,h2,h3,h4⟩
 ·exact Bs.mono (fun p hp=>aB _ hp) (hT g hg)
 ·simp at h2;obtain⟨rfl,rfl⟩:=h2;exact Bs.fresh r hx (.inr ⟨h3,h4⟩)
end
section
variable{S:Nat->Prop}{H:Hp}{nx:Nat}{iv iv':Iv}{B:Nat}{w w' w2:World}{O:Nat->Sx.dU}{v v0:Value}{q:Rat}
theorem kk.rel(h:cP w (Bs S B iv v) v0 q)(r:Rel H nx iv B w O w')(hS:∀g,S g->g<B):cP w' (Bs S B iv v) v0 q:=cP.cB h (Bs.same r hS)
theorem kk.fresh(h:cP w2 (Nf w' w2) v0 q)(r:Rel H nx iv B w O w')(hx:∀g,v.ownBlock=some g->g<w'.heap.size):cP w2 (Bs S B ((w'.heap.size,w2.heap.size)::iv) v) v0 q:=cP.cC h fun _ hg=>Bs.fresh r hx hg
theorem kk.cv(h:cP w (Bs S B iv v) v0 q):cP w (Cv S B iv) v0 q:=cP.cC h fun _ hg=>hg.1
end
section
variable{S:Nat->Prop}{H:Hp}{nx:Nat}{iv iv':Iv}{B:Nat}{w w' w2:World}{O:Nat->Sx.dU}{v v0:Value}{K:List (List Rat)}
theorem fe.rel(h:cO w (Bs S B iv v) v0 K)(r:Rel H nx iv B w O w')(hS:∀g,S g->g<B):cO w' (Bs S B iv v) v0 K:=cO.cB h (Bs.same r hS)
theorem fe.bz(h:cO w (Bs S B iv v) v0 K)(r:Rel H nx iv B w O w')(hS:∀g,S g->g<B)(he:Ext w' w2)(hm:∀p,p∈iv->p∈iv'):cO w2 (Bs S B iv' v) v0 K:=
 cO.cC (cO.cB (fe.rel h r hS) fun g hg=>he.block g (Rel.old r hS g hg.1)) fun _ hg=>Bs.mono hm hg
theorem fe.fresh(h:cO w2 (Nf w' w2) v0 K)(r:Rel H nx iv B w O w')(hx:∀g,v.ownBlock=some g->g<w'.heap.size):cO w2 (Bs S B ((w'.heap.size,w2.heap.size)::iv) v) v0 K:=cO.cC h fun _ hg=>Bs.fresh r hx hg
theorem fe.kept(h:cO w (Bs S B iv v) v0 K)(r:Rel H nx iv B w O w')(hS:∀g,S g->g<B)(hg:w'.grownBy w2 v.ownBlock):cO w2 (Bs S B iv v) v0 K:=cO.cB h (Bs.kept r hS hg fun _ e=>e)
end
section
variable{S:Nat->Prop}{H:Hp}{nx:Nat}{iv iv':Iv}{B:Nat}{w w' w2:World}{O:Nat->Sx.dU}{v v0:Value}{xs:List Rat}
theorem eO.rel(h:cF w (Bs S B iv v) v0 xs)(r:Rel H nx iv B w O w')(hS:∀g,S g->g<B):cF w' (Bs S B iv v) v0 xs:=cF.cB h (Bs.same r hS)
theorem eO.bz(h:cF w (Bs S B iv v) v0 xs)(r:Rel H nx iv B w O w')(hS:∀g,S g->g<B)(he:Ext w' w2)(hm:∀p,p∈iv->p∈iv'):cF w2 (Bs S B iv' v) v0 xs:=
 cF.cC (cF.cB (eO.rel h r hS) fun g hg=>he.block g (Rel.old r hS g hg.1)) fun _ hg=>Bs.mono hm hg
theorem eO.fresh(h:cF w2 (Nf w' w2) v0 xs)(r:Rel H nx iv B w O w')(hx:∀g,v.ownBlock=some g->g<w'.heap.size):cF w2 (Bs S B ((w'.heap.size,w2.heap.size)::iv) v) v0 xs:=cF.cC h fun _ hg=>Bs.fresh r hx hg
theorem eO.cv(h:cF w (Bs S B iv v) v0 xs):cF w (Cv S B iv) v0 xs:=cF.cC h fun _ hg=>hg.1
theorem eO.kept(h:cF w (Bs S B iv v) v0 xs)(r:Rel H nx iv B w O w')(hS:∀g,S g->g<B)(hg:w'.grownBy w2 v.ownBlock):cF w2 (Bs S B iv v) v0 xs:=cF.cB h (Bs.kept r hS hg fun _ e=>e)
end
section
variable{S:Nat->Prop}{H:Hp}{nx:Nat}{iv iv':Iv}{B:Nat}{w w' w2:World}{O:Nat->Sx.dU}{v v0:Value}{rv:List Value}{K:List (List Rat)}
theorem lk.rel(h:da w (Bs S B iv v) rv K)(r:Rel H nx iv B w O w')(hS:∀g,S g->g<B):da w' (Bs S B iv v) rv K:=da.cB h (Bs.same r hS)
theorem lk.bz(h:da w (Bs S B iv v) rv K)(r:Rel H nx iv B w O w')(hS:∀g,S g->g<B)(he:Ext w' w2)(hm:∀p,p∈iv->p∈iv'):da w2 (Bs S B iv' v) rv K:=
 da.cC (da.cB (lk.rel h r hS) fun g hg=>he.block g (Rel.old r hS g hg.1)) fun _ hg=>Bs.mono hm hg
end
section
variable{S:Nat->Prop}{H:Hp}{nx:Nat}{iv iv':Iv}{B:Nat}{w w' w2:World}{O:Nat->Sx.dU}{v v0:Value}{css:List (List Value)}{xs:List Rat}
theorem jP.rel(h:ec w (Bs S B iv v) css xs)(r:Rel H nx iv B w O w')(hS:∀g,S g->g<B):ec w' (Bs S B iv v) css xs:=ec.cB h (Bs.same r hS)
theorem jP.bz(h:ec w (Bs S B iv v) css xs)(r:Rel H nx iv B w O w')(hS:∀g,S g->g<B)(he:Ext w' w2)(hm:∀p,p∈iv->p∈iv'):ec w2 (Bs S B iv' v) css xs:=
 ec.cC (ec.cB (jP.rel h r hS) fun g hg=>he.block g (Rel.old r hS g hg.1)) fun _ hg=>Bs.mono hm hg
end
theorem Ct{st:List (List Rat)}{c x:List Rat}{a b:Nat}(hx:∀q∈x,rl q<=a)(hs:∀r∈st,∀q∈r,rl q<=b)(hc:∀q∈c,rl q<=b):∀i,∀q∈jV st c x i,rl q<=a+i*(2*b+5)
 |0,q,hq=>by have:=hx q hq;omega
 |i+1,q,hq=>by
  rw[jV]at hq;obtain⟨k,hk⟩:=aR hq;rw[List.getElem?_mapIdx]at hk;obtain⟨p,hp,rfl⟩:=Option.map_eq_some_iff.1 hk;have h1:=Ct hx hs hc i p (aD hp);have h0:rl 0<=2:=by decide
  have h2:rl (c.getD i 0)<=b+2:=by
   rcases aO i c.length with h|h
   ·rw[getD_some (aA h)];have:=hc _ (aV h);omega
   ·rw[iY h];omega
  have h3:rl ((st.getD i []).getD k 0)<=b+2:=by
   rcases aO i st.length with h|h
   ·rw[getD_some (d:=[]) (aA h)];rcases aO k (st[i]).length with h4|h4
    ·rw[getD_some (aA h4)];have:=hs _ (aV h) _ (aV h4);omega
    ·rw[iY h4];omega
   ·rw[show st.getD i []=[] by rw[List.getD,List.getElem?_eq_none h];rfl];exact ah h0 (Nat.le_add_left _ _)
  have h4:=oQ p (c.getD i 0*(st.getD i []).getD k 0);have h5:=jL (c.getD i 0) ((st.getD i []).getD k 0);rw[Nat.add_mul];omega
set_option maxHeartbeats 2000000 in
set_option maxRecDepth 8000 in
theorem A0{w:World}{vn vb vs u:Value}{f:fT}(hS:Old S w)(hf:dY w S vn vb vs f)(herr:eK f=0)(hfb:tU f)(hp:cF w S u p)(hpl:p.length=3*f.nodes.length)(hpq:∀q∈p,rl q<=100000)(hb:Bl (dC p (-1))):
  du PG N.oZ #[.agg #[vn,vb,vs],u] w (eD w fun v' w2=>(fU (cM f) (dC p (-1)) f.cols=none∧v'= .tuple #[.slice none 0 0,.bool false])∨∃x vx,iZ (cM f) f.cols (fun t=>(cX f).getD t 0) (dC p (-1)) x∧v'= .tuple #[vx,.bool true]∧cF w2 (Nf w w2) vx x):=by
 have hw:cQ w.heap.size w w:=cQ.refl;obtain⟨an,cn,ab,cb,aq,cq,rfl,rfl,rfl,hmn,hmb,hms⟩:=hf.shape;have hok:=rp herr;have hlen:=fJ f;have htl:=iB f;have hc18:=hfb.I9;have hr12:=hfb.J7;have hfl:=nO f;have hcols:f.cols=f.bars.length+f.cS.length:=rfl;obtain⟨ap,cp,rfl,hcp,hmp⟩:=dZ.shape hp;have hbl:(dC p (-1)).length=(cM f).length:=by rw[dC,aL,htl];exact hpl
 have hw0:=hfb.Eo hb;have hz0:=hfb.HR (b:=dC p (-1));refine sS (by simp) ?_;refine bu (cE hw (fun _ w' v w2=>(∃vr,v= .agg #[vr,.int .i64 f.cols]∧cO w2 (Nf w' w2) vr (cM f))∧fp f.cols (cM f)∧Ht (cM f) 2) (fun O w' r=>rB (S:=S) (oS hS r) (hf.cB (kS hw r hS)) hok) ?_);rintro O wa1 v1 wb1 iv1 r he hw h_ ⟨⟨vr,rfl,k1⟩,-,-⟩;have hM:=cO.dB (S:=fun _=>False) k1 r.bw (mN h_);clear r;obtain⟨am,cm,rfl,hcm,hmm⟩:=eP.shape hM;refine cD hτ df [.x 0,.x 1,.x 2,.x 3,.x 4,.x 5,.x 6,.x 7,.x 8,.x 9] (by kernel_rfl) (by kernel_rfl) ?_;refine cE hw (fun _ w' v w2=>cP w2 (Nf w' w2) v ((-1:Int):Rat)) (fun O w' r=>ke (-1) w' (by decide) (by decide)) ?_;rintro O wa2 v2 wb2 iv2 r he hw h_ hn;replace hM:=cO.bz hM r (bs w) he (mC h_);have hd:=hn.dB (S:=fun _=>False) r.bw (mN h_);clear r;obtain⟨s2_0,s2_1,s2_2,s2_3,s2_4,s2_5,s2_6,s2_7,rfl⟩:=hd.shape;refine cE hw (fun _ w' v w2=>di w2 (fun _=>False) w'.heap.size [(w'.heap.size,w2.heap.size)] v p.length (dC p (-1))) (fun O w' r=>AN (S:=Cv S w.heap.size iv2) (Rel.old r hS) (dx.cC (cF.l (cF.cB hp (kS hw r hS)) fun q hq=>by have:=hpq q hq;omega) fun g hg=>.inl hg) (((hd.rel r (bs w)).l (by decide)).cC fun g hg=>Ia hg) (by omega)) ?_;rintro O wa3 v3 wb3 iv3 r he hw h_ hn;replace hM:=cO.bz hM r (bs w) he (mC h_);clear hd;have hB:=hn.dB (S:=fun _=>False) r.bw (mN h_);clear r;clear hn;obtain⟨a3,c3,rfl,hc3⟩:=hB.row.form;refine cH (Φ:=fun _ w' v w2=>(fU (cM f) (dC p (-1)) f.cols=none∧v= .tuple #[.slice none 0 0,.bool false])∨∃x vx,fU (cM f) (dC p (-1)) f.cols=some x∧v= .tuple #[vx,.bool true]∧di w2 (Cf w iv3) w'.heap.size [(w'.heap.size,w2.heap.size)] vx f.cols x) (fun O w' r=>tN (M:=cM f) (b:=dC p (-1)) hlen hw0▸Cg (C:=Cf w iv3) (S:=Cf w iv3) (h:=30) (Rel.old r (bs w)) (Rel.old r (bs w)) (cO.rel hM r (bs w)) ((hB.rel r (bs w)).c) hbl hlen (by omega) (by omega) (mV (hJ hlen) hw0 mx (by rw[ra]at *;omega)) (by decide)) ?_;rintro O wa4 v4 wb4 r he hb (⟨hno,rfl⟩|⟨x0,vx,hx0,rfl,k2⟩)
 ·replace hw:=hw.tr hb;clear r he hb;intro ρe we re;exact⟨_,rfl,hw.tr re.cI,.inl ⟨hno,rfl⟩⟩
 replace hw:=hw.tr hb;replace hM:=cO.bz (iv':=(wa4.heap.size,wb4.heap.size)::iv3) hM r (bs w) he fun x hx=>aB _ hx;have hX:=k2.Ks r.bw;clear r he hb k2 hB;generalize (wa4.heap.size,wb4.heap.size)::iv3=iv4 at*
 obtain⟨ax,cx,rfl,hcx⟩:=hX.row.form;obtain⟨hx0l,-⟩:=kX hlen hx0;have hx0D:=hfb.Kn hb hx0;have hx0r:∀q∈x0,rl q<=26:=fun q hq=>by
  obtain⟨D,hD⟩:=hx0D;have h1:=hD.rl q hq;have h2:ln (wt 25)<=26:=fo.2 (Gi (by decide));omega
 have hw1:=hfb.HS hx0D;have hz1:=hfb.Ep (b:=gB (cN (cM f) f.cols) (cX f) x0);obtain⟨c,hc,hcl,hfrc⟩:=hfb.vD.force (fl:=cX f) hx0;have hcr:=hfb.KI hx0D hc;have hKr:∀r∈cN (cM f) f.cols,∀q∈r,rl q<=14:=fun r hr q hq=>by
  obtain⟨D,hD⟩:=hfb.Li;have h1:=hD.rl r hr q hq;have h2:ln (wt 13)<=14:=fo.2 (Gi (by decide));omega
 have hKl:=mw (cM f) f.cols;have hK18:=hfb.J8;have hSl:=mz (cN (cM f) f.cols) (cX f);have hfx:=hfb.fx;have hsolve:=tN (M:=eI (cN (cM f) f.cols) (cX f)) (b:=gB (cN (cM f) f.cols) (cX f) x0) hSl hw1;rw[hc]at hsolve;have hredB:=mV (M:=dX (eI (cN (cM f) f.cols) (cX f)) (gB (cN (cM f) f.cols) (cX f) x0)) (h:=1930) (hJ hSl) hw1 mx (by omega);refine cD hτ df [.x 0,.x 2,.x 1,.x 3,.x 4,.x 5] (by kernel_rfl) (by kernel_rfl) ?_;refine cH (Φ:=fun _ w' v w2=>cO w2 (Nf w' w2) v (cN (cM f) f.cols)) (fun O w' r=>D9 (M:=cM f) (n:=f.cols) hlen hfb.lF▸EL (C:=Cf w iv4) (S:=Cf w iv4) (h:=20) (Rel.old r (bs w)) (Rel.old r (bs w)) (cO.rel hM r (bs w)) hlen (by omega) (by omega) (mV hlen hfb.lF (by decide) (by have:=hfb.size;omega)) (EM hlen hfb.lF (by decide) (by have:=hfb.size;omega)) (by decide)) ?_;rintro O wa5 v5 wb5 r he hb1 hn;replace hw:=hw.tr hb1;have hxo:∀g,(Value.slice ax f.cols cx).ownBlock=some g->g<wa5.heap.size:=fun g e=>Rel.old r (bs w) g (hX.new g e);clear hM;replace hX:=hX.bz (iv':=(wa5.heap.size,wb5.heap.size)::iv4) r (bs w) he fun x hx=>aB _ hx;have hK:=fe.fresh (S:=fun _=>False) (v:=(.slice ax f.cols cx)) hn r hxo;clear r he hb1 hxo hn;generalize (wa5.heap.size,wb5.heap.size)::iv4=iv5 at*
 obtain⟨ak,ck,rfl,hck,hmk⟩:=eP.shape hK;refine cH (Φ:=fun _ w' v w2=>dx w2 (Nw S w' w2) v (cX f)) (fun O w' r=>AS (S:=S) (oS hS r) (hf.cB (kS hw r hS)) hok) ?_;rintro O wa6 v6 wb6 r he hb1 hn;replace hw:=hw.tr hb1;have hxo:∀g,(Value.slice ax f.cols cx).ownBlock=some g->g<wa6.heap.size:=fun g e=>Rel.old r (bs w) g (hX.new g e);replace hX:=hX.bz (iv':=(wa6.heap.size,wb6.heap.size)::iv5) r (bs w) he fun x hx=>aB _ hx;replace hK:=fe.bz (iv':=(wa6.heap.size,wb6.heap.size)::iv5) hK r (bs w) he fun x hx=>aB _ hx;have hL:=dx.cC (S':=Cv S w.heap.size ((wa6.heap.size,wb6.heap.size)::iv5)) hn fun g hg=>hg.elim .inl fun h=>.inr ⟨by have:=r.bw;omega,_,_,aI,h.1,h.2⟩;clear r he hb1 hxo hn;generalize (wa6.heap.size,wb6.heap.size)::iv5=iv6 at*
 obtain⟨al,cl,rfl,hcl2,hml⟩:=dZ.shape hL;rw[hfl]
 refine⟨Nat×List Value×List (List Value)×World×Iv,fun z=>⟨[(7,.o (.v (.slice ax f.cols cx))),(9,.o (.v (.slice ak (cN (cM f) f.cols).length ck))),(10,.o (.v (.slice al f.cols cl))),(11,.o (.p 2 0)),(43,.o (.v (.slice ak (cN (cM f) f.cols).length ck))),(44,.o (.v (.int .i64 (cN (cM f) f.cols).length))),(12,.o (.w 4 z.2.2.1.length)),(45,.o (.v (.int .i64 ((z.1:Nat):Int))))],[(2,.box T.dR [.w 3 z.2.1.length,.v (.int .i64 (cN (cM f) f.cols).length)]),(3,.vec T.jG 1 z.2.1),(4,.vec T.Rat 4 z.2.2.1.flatten)],5,z.2.2.2.2,z.2.2.2.1⟩,fun z=>(cN (cM f) f.cols).length-z.1,
  fun z=>z.1<=(cN (cM f) f.cols).length∧cQ w.heap.size w z.2.2.2.1∧di z.2.2.2.1 (fun _=>False) w.heap.size z.2.2.2.2 (.slice ax f.cols cx) f.cols x0∧cO z.2.2.2.1 (Bs (fun _=>False) w.heap.size z.2.2.2.2 (.slice ax f.cols cx)) (.slice ak (cN (cM f) f.cols).length ck) (cN (cM f) f.cols)∧dx z.2.2.2.1 (Cv S w.heap.size z.2.2.2.2) (.slice al f.cols cl) (cX f)∧da z.2.2.2.1 (Bs (fun _=>False) w.heap.size z.2.2.2.2 (.slice ax f.cols cx)) z.2.1 ((eI (cN (cM f) f.cols) (cX f)).take z.1)∧ec z.2.2.2.1 (Bs (fun _=>False) w.heap.size z.2.2.2.2 (.slice ax f.cols cx)) z.2.2.1 ((gB (cN (cM f) f.cols) (cX f) x0).take z.1),?_,?_⟩
 ·intro O w' r3;exact⟨(0,[],[],w',_),⟨aP _,hw.tr r3.cI,hX.rel r3 (bs w),fe.rel hK r3 (bs w),by have:=dx.rel hL r3 hS;rw[hfl]at this;exact this,by simp[da],ec.nil⟩,Sub.zO 2 0 T.jG 1 rfl rfl (by simp[ko,SV.sc,At.sc,gM]) r3 fun ρ1 r1=>Sub.nil 12 T.Rat 4 rfl (by simp[ko,SV.sc,At.sc,gM]) r1 fun ρ2 r2=>Sub.gn [] r2⟩
 clear hw hX hK hL;rintro⟨i,rv,rc,w7,iv⟩ ⟨hi,hw,hX,hK,hL,hR,hG⟩;dsimp only at hi hw hX hK hL hR hG ⊢;have hrl:rv.length=i:=by rw[hR.1,aW,eI,aL];omega
 have hgl:rc.length=i:=by rw[hG.len,aW,gB,aL];omega
 have hgf:=fu hG.four;refine dH.mk (fun hib=>?_) (fun hib=>?_)
 ·have hib:i<(cN (cM f) f.cols).length:=by have:=aH hib;omega
  obtain⟨s,hs⟩:∃s,(cN (cM f) f.cols)[i]? =some s:=⟨_,aA hib⟩
  have hsl:s.length=f.cols:=hKl s (aD hs);have hsr:=hKr s (aD hs);obtain⟨adm1,um,ham1,hRm,km1,kn1⟩:=eP.load hK hs;obtain⟨as1,cs1,rfl,-,-⟩:=dZ.shape hRm;obtain⟨bent,hbent⟩:∃b,eh s (cX f)=b:=⟨_,rfl⟩
  have hbl2:bent.length=f.cols:=by rw[<-hbent,jO,hsl]
  have hbr:∀q∈bent,rl q<=20:=fun q hq=>by
   rw[<-hbent]at hq;obtain⟨t,ht⟩:=aR hq;have htl2:t<s.length:=by have:=(aC.1 ht).1;rw[jO]at this;exact this
   have h1:=mI (a:=s) (b:=cX f) htl2;rw[getD_some ht]at h1;have h2:=jL (s.getD t 0) ((cX f).getD t 0);have h3:=hsr (s.getD t 0) (by rw[getD_some (aA htl2)];exact aV _);have h4:=hfb.LH (t:=t) (by omega);rw[h1];omega
  refine⟨adm1,ham1,by omega,.slice as1 s.length cs1,fun O w' r=>?_,?_⟩
  ·rw[aJ,cJ (w:=w7) (w2:=w') (by rw[dq];exact Rel.same r (bs w) km1.1)];exact kn1
  refine bu (cH (Φ:=fun _ w' v w2=>cF w2 (Nf w' w2) v bent) (fun O w' r=>(hbent▸FE (S:=Cv S w.heap.size iv) (Rel.old r hS) (dx.cC (cF.l (eO.cv (eO.rel hRm r (bs w))) fun q hq=>by have:=hsr q hq;omega) fun g hg=>Ia hg) (dx.rel hL r hS) (by rw[hsl,hfl];exact aE _) (by omega)).mono fun _ _ ⟨v2,e1,e2,e3⟩=>⟨v2,e1,e2,cF.cC e3.c fun g hg=>hg.elim (fun h=>h.elim) fun⟨_,lo,hi,h2,h3,h4⟩=>by
   simp at h2;obtain⟨rfl,rfl⟩:=h2
   exact .inr ⟨h3,h4⟩⟩) ?_)
  rintro O wa8 v8 wb8 r he hb1 hn;replace hw:=hw.tr hb1;have hxo:∀g,(Value.slice ax f.cols cx).ownBlock=some g->g<wa8.heap.size:=fun g e=>Rel.old r (bs w) g (hX.new g e);replace hX:=hX.bz (iv':=(wa8.heap.size,wb8.heap.size)::iv) r (bs w) he fun x hx=>aB _ hx;replace hK:=fe.bz (iv':=(wa8.heap.size,wb8.heap.size)::iv) hK r (bs w) he fun x hx=>aB _ hx;replace hL:=dx.bz (iv':=(wa8.heap.size,wb8.heap.size)::iv) hL r hS he fun x hx=>aB _ hx;replace hR:=lk.bz (iv':=(wa8.heap.size,wb8.heap.size)::iv) hR r (bs w) he fun x hx=>aB _ hx;replace hG:=jP.bz (iv':=(wa8.heap.size,wb8.heap.size)::iv) hG r (bs w) he fun x hx=>aB _ hx;have hE:=eO.fresh (S:=fun _=>False) (v:=(.slice ax f.cols cx)) hn r hxo;clear r he hb1 hxo hn;generalize (wa8.heap.size,wb8.heap.size)::iv=iv8 at*
  clear hRm;obtain⟨ae,ce,rfl,-,-⟩:=dZ.shape hE;rw[hbl2]
  refine⟨Nat×List (List Value)×World×Iv,fun z=>⟨[(7,.o (.v (.slice ax f.cols cx))),(9,.o (.v (.slice ak (cN (cM f) f.cols).length ck))),(10,.o (.v (.slice al f.cols cl))),(11,.o (.p 2 0)),(43,.o (.v (.slice ak (cN (cM f) f.cols).length ck))),(44,.o (.v (.int .i64 (cN (cM f) f.cols).length))),(12,.o (.w 4 rc.length)),(45,.o (.v (.int .i64 ((i:Nat):Int)))),(15,.o (.v (.slice ae f.cols ce))),(52,.o (.v (.slice ak (cN (cM f) f.cols).length ck))),(53,.o (.v (.int .i64 (cN (cM f) f.cols).length))),(16,.o (.w 5 z.2.1.length)),(54,.o (.v (.int .i64 ((z.1:Nat):Int))))],[(5,.vec T.Rat 4 z.2.1.flatten),(2,.box T.dR [.w 3 rv.length,.v (.int .i64 (cN (cM f) f.cols).length)]),(3,.vec T.jG 1 rv),(4,.vec T.Rat 4 rc.flatten)],6,z.2.2.2,z.2.2.1⟩,fun z=>(cN (cM f) f.cols).length-z.1,
   fun z=>z.1<=(cN (cM f) f.cols).length∧cQ w.heap.size w z.2.2.1∧(di z.2.2.1 (fun _=>False) w.heap.size z.2.2.2 (.slice ax f.cols cx) f.cols x0∧cO z.2.2.1 (Bs (fun _=>False) w.heap.size z.2.2.2 (.slice ax f.cols cx)) (.slice ak (cN (cM f) f.cols).length ck) (cN (cM f) f.cols)∧dx z.2.2.1 (Cv S w.heap.size z.2.2.2) (.slice al f.cols cl) (cX f)∧da z.2.2.1 (Bs (fun _=>False) w.heap.size z.2.2.2 (.slice ax f.cols cx)) rv ((eI (cN (cM f) f.cols) (cX f)).take i)∧ec z.2.2.1 (Bs (fun _=>False) w.heap.size z.2.2.2 (.slice ax f.cols cx)) rc ((gB (cN (cM f) f.cols) (cX f) x0).take i)∧cF z.2.2.1 (Bs (fun _=>False) w.heap.size z.2.2.2 (.slice ax f.cols cx)) (.slice ae f.cols ce) bent)∧ec z.2.2.1 (Bs (fun _=>False) w.heap.size z.2.2.2 (.slice ax f.cols cx)) z.2.1 (((cN (cM f) f.cols).map fun r=>ef bent r f.cols).take z.1),?_,?_⟩
  ·intro O w' r3;exact⟨(0,[],w',_),⟨aP _,hw.tr r3.cI,⟨hX.rel r3 (bs w),fe.rel hK r3 (bs w),dx.rel hL r3 hS,lk.rel hR r3 (bs w),jP.rel hG r3 (bs w),by have:=eO.rel hE r3 (bs w);rw[hbl2]at this;exact this⟩,ec.nil⟩,Sub.nil 16 T.Rat 4 rfl (by simp[ko,SV.sc,At.sc,gM]) r3 fun ρ2 r2=>Sub.gn [] r2⟩
  clear hw hX hK hL hR hG hE;rintro⟨j,css,w8,iv⟩ ⟨hj,hw,⟨hX,hK,hL,hR,hG,hE⟩,hD⟩;dsimp only at hj hw hX hK hL hR hG hE hD ⊢;have hdl:css.length=j:=by rw[hD.len,aW,aL];omega
  have hdf:=fu hD.four;refine dH.mk (fun hjb=>?_) (fun hjb=>?_)
  ·have hjb:j<(cN (cM f) f.cols).length:=by have:=aH hjb;omega
   obtain⟨t,ht⟩:∃s,(cN (cM f) f.cols)[j]? =some s:=⟨_,aA hjb⟩
   have htl2:t.length=f.cols:=hKl t (aD ht);have htr:=hKr t (aD ht);obtain⟨adm2,um2,ham2,hRm,km2,kn2⟩:=eP.load hK ht;obtain⟨as2,cs2,rfl,-,-⟩:=dZ.shape hRm;refine⟨adm2,ham2,by omega,.slice as2 t.length cs2,fun O w' r=>?_,?_⟩
   ·rw[aJ,cJ (w:=w8) (w2:=w') (by rw[dq];exact Rel.same r (bs w) km2.1)];exact kn2
   refine bu (cH (Φ:=fun _ w' v w2=>cP w2 (Nf w' w2) v (ef bent t f.cols)) (fun O w' r=>hbl2▸Hd (S:=Cf w iv) (h:=21) (Rel.old r (bs w)) (cF.l (by have:=eO.cv (eO.rel hE r (bs w));rw[<-hbl2]at this;exact this) fun q hq=>by have:=hbr q hq;omega) (cF.l (eO.cv (eO.rel hRm r (bs w))) fun q hq=>by have:=htr q hq;omega) (by omega) (fun q hq=>by have:=hbr q hq;omega) (fun q hq=>by have:=htr q hq;omega) (by decide) (by omega)) ?_);rintro O wa9 v9 wb9 r he hb1 hn;replace hw:=hw.tr hb1;have hxo:∀g,(Value.slice ax f.cols cx).ownBlock=some g->g<wa9.heap.size:=fun g e=>Rel.old r (bs w) g (hX.new g e);replace hX:=hX.bz (iv':=(wa9.heap.size,wb9.heap.size)::iv) r (bs w) he fun x hx=>aB _ hx;replace hK:=fe.bz (iv':=(wa9.heap.size,wb9.heap.size)::iv) hK r (bs w) he fun x hx=>aB _ hx;replace hL:=dx.bz (iv':=(wa9.heap.size,wb9.heap.size)::iv) hL r hS he fun x hx=>aB _ hx;replace hR:=lk.bz (iv':=(wa9.heap.size,wb9.heap.size)::iv) hR r (bs w) he fun x hx=>aB _ hx;replace hG:=jP.bz (iv':=(wa9.heap.size,wb9.heap.size)::iv) hG r (bs w) he fun x hx=>aB _ hx;replace hE:=eO.bz (iv':=(wa9.heap.size,wb9.heap.size)::iv) hE r (bs w) he fun x hx=>aB _ hx;replace hD:=jP.bz (iv':=(wa9.heap.size,wb9.heap.size)::iv) hD r (bs w) he fun x hx=>aB _ hx;have hd:=kk.fresh (S:=fun _=>False) (v:=(.slice ax f.cols cx)) hn r hxo;clear r he hb1 hxo hn;generalize (wa9.heap.size,wb9.heap.size)::iv=iv9 at*
   obtain⟨s9_0,s9_1,s9_2,s9_3,s9_4,s9_5,s9_6,s9_7,rfl⟩:=hd.shape;clear hRm;have hD2:=hD.push (cs:=[.bool s9_0,.slice s9_1 s9_2 s9_3,.bool s9_4,.slice s9_5 s9_6 s9_7]) (q:=ef bent t f.cols) ⟨_,_,_,_,_,_,_,_,rfl,hd⟩ rfl;rw[show (((cN (cM f) f.cols).map fun r=>ef bent r f.cols).take j)++[ef bent t f.cols]=((cN (cM f) f.cols).map fun r=>ef bent r f.cols).take (j+1) by rw[List.take_add_one,aM,ht];rfl]at hD2;have hfl2:css.flatten++([.bool s9_0,.slice s9_1 s9_2 s9_3,.bool s9_4,.slice s9_5 s9_6 s9_7]:List Value)=(css++([[.bool s9_0,.slice s9_1 s9_2 s9_3,.bool s9_4,.slice s9_5 s9_6 s9_7]]:List (List Value))).flatten:=by simp
   refine .inl ?_;refine⟨by omega,by omega,by unfold maxLen;omega,((j+1:Nat):Int),wo,?_⟩;intro ρ3 w6 r3;exact⟨(j+1,css++[[.bool s9_0,.slice s9_1 s9_2 s9_3,.bool s9_4,.slice s9_5 s9_6 s9_7]],w6,_),⟨hjb,hw.tr r3.cI,⟨hX.rel r3 (bs w),fe.rel hK r3 (bs w),dx.rel hL r3 hS,lk.rel hR r3 (bs w),jP.rel hG r3 (bs w),eO.rel hE r3 (bs w)⟩,jP.rel hD2 r3 (bs w)⟩,Sub.gn [(5,7)] r3 ⟨by dsimp only;rw[<-hfl2];rfl,rfl,rfl,rfl,trivial⟩ ⟨rfl,rfl,rfl,rfl,rfl,rfl,rfl,rfl,rfl,rfl,rfl,by dsimp only;rw[List.length_append,List.length_singleton];rfl,rfl,trivial⟩,by dsimp only;omega⟩
  have hjb:j=(cN (cM f) f.cols).length:=by have:=aG hjb;omega
  rw[hjb,List.take_of_length_le (by rw[aL];exact aE _)]at hD;have hrow:(eI (cN (cM f) f.cols) (cX f)).take i++[((cN (cM f) f.cols).map fun r=>ef bent r f.cols)]=(eI (cN (cM f) f.cols) (cX f)).take (i+1):=by
   rw[List.take_add_one,eI,aM,hs,<-hbent,<-hsl];rfl
  have hrgt:(gB (cN (cM f) f.cols) (cX f) x0).take i++[-(ef bent x0 f.cols)]=(gB (cN (cM f) f.cols) (cX f) x0).take (i+1):=by
   rw[List.take_add_one,gB,aM,hs,<-hbent,<-hsl];rfl
  refine DR hτ (id3:=6) (id2:=5) (tH:=[(2,.box T.dR [.w 3 rv.length,.v (.int .i64 (cN (cM f) f.cols).length)]),(3,.vec T.jG 1 rv),(4,.vec T.Rat 4 rc.flatten)]) rfl rfl rfl rfl (by simp) ⟨rfl,rfl,rfl,trivial⟩ rfl rfl (fun O w' r r2 hbx=>?_);have hnx:∀g,(Value.slice ax f.cols cx).ownBlock=some g->∀id b,cY [(6,.box T.jG [.w 5 css.length]),(5,.vec T.Rat 4 css.flatten),(2,.box T.dR [.w 3 rv.length,.v (.int .i64 (cN (cM f) f.cols).length)]),(3,.vec T.jG 1 rv),(4,.vec T.Rat 4 rc.flatten)] id=some b->(O id).nil=false->(O id).g≠g:=fun g e id b h1 h2=>Rel.not r (bs w) (hX.new g e) id b h1 h2;have hlo3:=r.low 6 _ rfl (r.fits (id:=6) rfl).1;have hB3:Bs (fun _=>False) w.heap.size (((O 6).g,(O 6).g+1)::pe (O 5) iv) (.slice ax f.cols cx) (O 6).g:=⟨.inr ⟨hlo3.1,_,_,aI,aE _,bl _⟩,fun e=>hnx _ e 6 _ rfl (r.fits (id:=6) rfl).1 rfl⟩
  have hmono:∀p,p∈iv->p∈((O 6).g,(O 6).g+1)::pe (O 5) iv:=fun p hp=>aB _ (F3 p hp);have hrowR:=ec.list ((jP.rel hD r (bs w)).cC fun g hg=>Bs.mono hmono hg) (r.BW (T:=Bs (fun _=>False) w.heap.size (((O 6).g,(O 6).g+1)::pe (O 5) iv) (.slice ax f.cols cx)) (id:=5) (sz:=4) (m:=css.length) rfl hdf (by unfold maxLen;omega) (by decide) hD.one fun hn=>⟨.inr ⟨(r.low 5 _ rfl hn).1,_,_,aB _ (Gc hn),aE _,bl _⟩,fun e=>hnx _ e 5 _ rfl hn rfl⟩);have hone:((At.w 5 css.length).den O).oneCell'=true:=At.Ku;have hw2:=hw.tr r.cI;replace hX:di w' (fun _=>False) w.heap.size (((O 6).g,(O 6).g+1)::pe (O 5) iv) (.slice ax f.cols cx) f.cols x0:=by
   have h1:=hX.rel r (bs w);exact⟨h1.row.cC fun g hg=>⟨hg.1.mono hmono,hg.2⟩,fun g hg=>(h1.new g hg).mono hmono⟩
  replace hK:=cO.cC (fe.rel hK r (bs w)) fun g hg=>Bs.mono hmono hg;replace hL:=dx.cC (dx.rel hL r hS) fun g hg=>hg.mono hmono;replace hR:=da.cC (lk.rel hR r (bs w)) fun g hg=>Bs.mono hmono hg;replace hG:=ec.cC (jP.rel hG r (bs w)) fun g hg=>Bs.mono hmono hg;replace hE:=cF.cC (eO.rel hE r (bs w)) fun g hg=>Bs.mono hmono hg;clear r2 hlo3 hD hnx hw;generalize (At.w 5 css.length).den O=ur at*
  generalize (O 6).g=gy at*
  generalize (gy,gy+1)::pe (O 5) iv=ivg at*
  clear r;refine⟨[ur],rfl,by simpa using hone,fun ρ2 w2 r2 _=>⟨_,rfl,fun j u hu=>?_⟩,?_⟩
  ·have h5:=Rel.same r2 (gu _) hB3.1;rw[dN,cell_of (h5.trans hbx)];rcases j with _|j
   ·exact hu
   ·cases hu
  refine⟨by simp,by omega,by unfold maxLen;omega,?_⟩;have hR2:=hR.push hone hrowR;rw[hrow]at hR2;clear hrowR hR hbx hB3;rename_i wg _;have hw:=hw2;clear hw2;refine bu (cH (Φ:=fun _ w' v w2=>cP w2 (Nf w' w2) v (ef bent x0 f.cols)) (fun O w' r=>hbl2▸Hd (S:=Cf w ivg) (h:=30) (Rel.old r (bs w)) (cF.l (by have:=eO.cv (eO.rel hE r (bs w));rw[<-hbl2]at this;exact this) fun q hq=>by have:=hbr q hq;omega) (cF.l (by have:=(hX.rel r (bs w)).c;rw[<-hbl2]at this;exact this) fun q hq=>by have:=hx0r q hq;omega) (by omega) (fun q hq=>by have:=hbr q hq;omega) (fun q hq=>by have:=hx0r q hq;omega) (by decide) (by omega)) ?_);rintro O wa11 v11 wb11 r he hb1 hn;replace hw:=hw.tr hb1;have hxo:∀g,(Value.slice ax f.cols cx).ownBlock=some g->g<wa11.heap.size:=fun g e=>Rel.old r (bs w) g (hX.new g e);replace hX:=hX.bz (iv':=(wa11.heap.size,wb11.heap.size)::ivg) r (bs w) he fun x hx=>aB _ hx;replace hK:=fe.bz (iv':=(wa11.heap.size,wb11.heap.size)::ivg) hK r (bs w) he fun x hx=>aB _ hx;replace hL:=dx.bz (iv':=(wa11.heap.size,wb11.heap.size)::ivg) hL r hS he fun x hx=>aB _ hx;replace hR2:=lk.bz (iv':=(wa11.heap.size,wb11.heap.size)::ivg) hR2 r (bs w) he fun x hx=>aB _ hx;replace hG:=jP.bz (iv':=(wa11.heap.size,wb11.heap.size)::ivg) hG r (bs w) he fun x hx=>aB _ hx;replace hE:=eO.bz (iv':=(wa11.heap.size,wb11.heap.size)::ivg) hE r (bs w) he fun x hx=>aB _ hx;have hd:=kk.fresh (S:=fun _=>False) (v:=(.slice ax f.cols cx)) hn r hxo;clear r he hb1 hxo hn;generalize (wa11.heap.size,wb11.heap.size)::ivg=iv11 at*
  obtain⟨s11_0,s11_1,s11_2,s11_3,s11_4,s11_5,s11_6,s11_7,rfl⟩:=hd.shape;have hdr:=y8 (h:=30) (xs:=bent) (ys:=x0) (fun q hq=>by have:=hbr q hq;omega) (fun q hq=>by have:=hx0r q hq;omega) (by decide) f.cols;refine bu (cH (Φ:=fun _ w' v w2=>cP w2 (Nf w' w2) v (-(ef bent x0 f.cols))) (fun O w' r=>Hb (S:=Cf w iv11) (Rel.old r (bs w)) (cP.l (kk.cv (kk.rel hd r (bs w))) (by omega))) ?_);rintro O wa12 v12 wb12 r he hb1 hn;replace hw:=hw.tr hb1;have hxo:∀g,(Value.slice ax f.cols cx).ownBlock=some g->g<wa12.heap.size:=fun g e=>Rel.old r (bs w) g (hX.new g e);replace hX:=hX.bz (iv':=(wa12.heap.size,wb12.heap.size)::iv11) r (bs w) he fun x hx=>aB _ hx;replace hK:=fe.bz (iv':=(wa12.heap.size,wb12.heap.size)::iv11) hK r (bs w) he fun x hx=>aB _ hx;replace hL:=dx.bz (iv':=(wa12.heap.size,wb12.heap.size)::iv11) hL r hS he fun x hx=>aB _ hx;replace hR2:=lk.bz (iv':=(wa12.heap.size,wb12.heap.size)::iv11) hR2 r (bs w) he fun x hx=>aB _ hx;replace hG:=jP.bz (iv':=(wa12.heap.size,wb12.heap.size)::iv11) hG r (bs w) he fun x hx=>aB _ hx;replace hE:=eO.bz (iv':=(wa12.heap.size,wb12.heap.size)::iv11) hE r (bs w) he fun x hx=>aB _ hx;clear hd;have hd2:=kk.fresh (S:=fun _=>False) (v:=(.slice ax f.cols cx)) hn r hxo;clear r he hb1 hxo hn;generalize (wa12.heap.size,wb12.heap.size)::iv11=iv12 at*
  obtain⟨s12_0,s12_1,s12_2,s12_3,s12_4,s12_5,s12_6,s12_7,rfl⟩:=hd2.shape;have hG2:=hG.push (cs:=[.bool s12_0,.slice s12_1 s12_2 s12_3,.bool s12_4,.slice s12_5 s12_6 s12_7]) (q:= -(ef bent x0 f.cols)) ⟨_,_,_,_,_,_,_,_,rfl,hd2⟩ rfl;rw[hrgt]at hG2;have hfl2:rc.flatten++([.bool s12_0,.slice s12_1 s12_2 s12_3,.bool s12_4,.slice s12_5 s12_6 s12_7]:List Value)=(rc++([[.bool s12_0,.slice s12_1 s12_2 s12_3,.bool s12_4,.slice s12_5 s12_6 s12_7]]:List (List Value))).flatten:=by simp
  refine .inl ?_;refine⟨by omega,by omega,by unfold maxLen;omega,((i+1:Nat):Int),wo,?_⟩;intro ρ3 w6 r3;exact⟨(i+1,rv++[ur],rc++[[.bool s12_0,.slice s12_1 s12_2 s12_3,.bool s12_4,.slice s12_5 s12_6 s12_7]],w6,_),⟨hib,hw.tr r3.cI,hX.rel r3 (bs w),fe.rel hK r3 (bs w),dx.rel hL r3 hS,lk.rel hR2 r3 (bs w),jP.rel hG2 r3 (bs w)⟩,Sub.gn [(3,7),(4,9)] r3 ⟨by dsimp only;rw[List.length_append,List.length_singleton];rfl,rfl,by dsimp only;rw[<-hfl2];rfl,trivial⟩ ⟨rfl,rfl,rfl,rfl,rfl,rfl,by dsimp only;rw[List.length_append,List.length_singleton];rfl,rfl,trivial⟩,by dsimp only;omega⟩
 have hib:i=(cN (cM f) f.cols).length:=by have:=aG hib;omega
 rw[hib,List.take_of_length_le (by rw[eI,aL];exact aE _)]at hR;rw[hib,List.take_of_length_le (by rw[gB,aL];exact aE _)]at hG;have hrl2:rv.length=(eI (cN (cM f) f.cols) (cX f)).length:=hR.1
 refine bu (cH (Φ:=fun _ w' v w2=>∃vc,v= .tuple #[vc,.bool true]∧di w2 (Bs (fun _=>False) w.heap.size iv (.slice ax f.cols cx)) w'.heap.size [(w'.heap.size,w2.heap.size)] vc (cN (cM f) f.cols).length c) (fun O w' r=>(AO (C:=(fun g=>g<w'.heap.size)) (D:=(fun g=>g<w'.heap.size)) (S:=Bs (fun _=>False) w.heap.size iv (.slice ax f.cols cx)) (M:=eI (cN (cM f) f.cols) (cX f)) (b:=gB (cN (cM f) f.cols) (cX f) x0) (cols:=(cN (cM f) f.cols).length) (h:=1930) (fun g hg=>hg) (fun g hg=>hg) (fun g hg=>Rel.old r (bs w) g hg.1) ⟨rv,by rw[<-hrl2];exact r.BW (T:=(fun g=>g<w'.heap.size)) (id:=3) (sz:=1) (m:=rv.length) rfl (by simp) (by unfold maxLen;omega) (by decide) hR.2.1 fun hn=>(r.low 3 _ rfl hn).2,hR.1,fun a u x h1 h2=>eO.rel (hR.2.2 a u x h1 h2) r (bs w)⟩ ⟨rc,by rw[<-hG.len];exact r.BW (T:=(fun g=>g<w'.heap.size)) (id:=4) (sz:=4) (m:=rc.length) rfl hgf (by unfold maxLen;omega) (by decide) hG.one fun hn=>(r.low 4 _ rfl hn).2,hG.len,fun a cs x h1 h2=>(jP.rel hG r (bs w)).at_ a cs x h1 h2⟩ (by rw[gB,eI,aL,aL]) hSl (by omega) (by rw[eI,aL];omega) hredB (by decide)).mono fun _ _ ⟨v2,e1,e2,e3⟩=>⟨v2,e1,e2,by
  rcases e3 with⟨h1,_⟩|⟨x2,vx,h1,h2,h3⟩
  ·rw[hsolve]at h1;cases h1
  ·rw[hsolve]at h1;injection h1 with h1;subst h1;exact⟨vx,h2,h3⟩⟩) ?_)
 rintro O wa13 v13 wb13 r he hb1 ⟨vc,rfl,hn⟩;replace hw:=hw.tr hb1;have hxo:∀g,(Value.slice ax f.cols cx).ownBlock=some g->g<wa13.heap.size:=fun g e=>Rel.old r (bs w) g (hX.new g e);replace hX:=hX.bz (iv':=(wa13.heap.size,wb13.heap.size)::iv) r (bs w) he fun x hx=>aB _ hx;replace hK:=fe.bz (iv':=(wa13.heap.size,wb13.heap.size)::iv) hK r (bs w) he fun x hx=>aB _ hx;have hC:=cF.cC hn.c fun g hg=>Bs.solved r hxo (fun _ h=>h) hg;clear r he hb1 hxo;generalize (wa13.heap.size,wb13.heap.size)::iv=iv13 at*
 clear hn hR hG hL;obtain⟨ac,cc,rfl,-,-⟩:=dZ.shape hC;rw[hcl]
 refine⟨Nat×World×Iv,fun z=>⟨[(7,.o (.v (.slice ax f.cols cx))),(19,.o (.v (.slice ac (cN (cM f) f.cols).length cc))),(87,.o (.v (.slice ak (cN (cM f) f.cols).length ck))),(88,.o (.v (.int .i64 (cN (cM f) f.cols).length))),(89,.o (.v (.int .i64 ((z.1:Nat):Int))))],[],0,z.2.2,z.2.1⟩,fun z=>(cN (cM f) f.cols).length-z.1,
  fun z=>z.1<=(cN (cM f) f.cols).length∧cQ w.heap.size w z.2.1∧di z.2.1 (fun _=>False) w.heap.size z.2.2 (.slice ax f.cols cx) f.cols (jV (cN (cM f) f.cols) c x0 z.1)∧cO z.2.1 (Bs (fun _=>False) w.heap.size z.2.2 (.slice ax f.cols cx)) (.slice ak (cN (cM f) f.cols).length ck) (cN (cM f) f.cols)∧cF z.2.1 (Bs (fun _=>False) w.heap.size z.2.2 (.slice ax f.cols cx)) (.slice ac (cN (cM f) f.cols).length cc) c,?_,?_⟩
 ·intro O w' r3;exact⟨(0,w',_),⟨aP _,hw.tr r3.cI,hX.rel r3 (bs w),fe.rel hK r3 (bs w),by have:=eO.rel hC r3 (bs w);rw[hcl]at this;exact this⟩,Sub.gn [] r3⟩
 clear hw hX hK hC;rintro⟨i,w13,iv⟩ ⟨hi,hw,hX,hK,hC⟩;dsimp only at hi hw hX hK hC ⊢;refine dH.mk (fun hib=>?_) (fun hib=>?_)
 ·have hib:i<(cN (cM f) f.cols).length:=by have:=aH hib;omega
  obtain⟨s,hs⟩:∃s,(cN (cM f) f.cols)[i]? =some s:=⟨_,aA hib⟩
  have hsl:s.length=f.cols:=hKl s (aD hs);have hsr:=hKr s (aD hs);obtain⟨ci,hci⟩:∃q,c[i]? =some q:=⟨_,aA (by omega)⟩
  have hcir:=hcr ci (aD hci);obtain⟨y0,hy0⟩:∃y,jV (cN (cM f) f.cols) c x0 i=y:=⟨_,rfl⟩
  have hy0l:y0.length=f.cols:=by rw[<-hy0,pP,hx0l]
  have hy0r:∀q∈y0,rl q<=75000:=fun q hq=>by
   rw[<-hy0]at hq;have h1:=Ct (a:=26) (b:=1927) hx0r (fun r hr q hq=>by have:=hKr r hr q hq;omega) hcr i q hq;have h2:i*(2*1927+5)<=18*(2*1927+5):=Nat.mul_le_mul_right _ (by omega);omega
  have hnextA:jV (cN (cM f) f.cols) c x0 (i+1)=y0.mapIdx fun k q=>q+ci*s.getD k 0:=by rw[jV,hy0,getD_some hci,getD_some (d:=[]) hs]
  rw[hy0]at hX;obtain⟨adm3,um,ham3,hRm,km3,kn3⟩:=eP.load hK hs;obtain⟨as3,cs3,rfl,-,-⟩:=dZ.shape hRm;refine⟨adm3,ham3,by omega,.slice as3 s.length cs3,fun O w' r=>?_,?_⟩
  ·rw[aJ,cJ (w:=w13) (w2:=w') (by rw[dq];exact Rel.same r (bs w) km3.1)];exact kn3
  rw[hsl]
  refine⟨Nat×World×Iv,fun z=>⟨[(7,.o (.v (.slice ax f.cols cx))),(19,.o (.v (.slice ac (cN (cM f) f.cols).length cc))),(87,.o (.v (.slice ak (cN (cM f) f.cols).length ck))),(88,.o (.v (.int .i64 (cN (cM f) f.cols).length))),(89,.o (.v (.int .i64 ((i:Nat):Int)))),(20,.o (.v (.int .i64 ((i:Nat):Int)))),(94,.o (.v (.slice as3 f.cols cs3))),(95,.o (.v (.int .i64 f.cols))),(96,.o (.v (.int .i64 ((z.1:Nat):Int))))],[],0,z.2.2,z.2.1⟩,fun z=>f.cols-z.1,
   fun z=>z.1<=f.cols∧cQ w.heap.size w z.2.1∧di z.2.1 (fun _=>False) w.heap.size z.2.2 (.slice ax f.cols cx) f.cols ((gQ z.1 (fun k q=>q+ci*s.getD k 0) y0))∧cO z.2.1 (Bs (fun _=>False) w.heap.size z.2.2 (.slice ax f.cols cx)) (.slice ak (cN (cM f) f.cols).length ck) (cN (cM f) f.cols)∧cF z.2.1 (Bs (fun _=>False) w.heap.size z.2.2 (.slice ax f.cols cx)) (.slice ac (cN (cM f) f.cols).length cc) c∧cF z.2.1 (Bs (fun _=>False) w.heap.size z.2.2 (.slice ax f.cols cx)) (.slice as3 f.cols cs3) s,?_,?_⟩
  ·intro O w' r3;exact⟨(0,w',_),⟨aP _,hw.tr r3.cI,by dsimp only;rw[qu];exact hX.rel r3 (bs w),fe.rel hK r3 (bs w),eO.rel hC r3 (bs w),by have:=eO.rel hRm r3 (bs w);rw[hsl]at this;exact this⟩,Sub.gn [] r3⟩
  clear hw hX hK hC hRm;rintro⟨k,w14,iv⟩ ⟨hk,hw,hX,hK,hC,hRm⟩;dsimp only at hk hw hX hK hC hRm ⊢;refine dH.mk (fun hkb=>?_) (fun hkb=>?_)
  ·have hkb:k<f.cols:=by have:=aH hkb;omega
   obtain⟨gx,rfl⟩:=hX.at (by omega);obtain⟨q,hq⟩:∃q,s[k]? =some q:=⟨_,aA (by omega)⟩
   obtain⟨y,hy⟩:∃q,y0[k]? =some q:=⟨_,aA (by omega)⟩
   have hyu:=ya (f:=fun k q=>q+ci*s.getD k 0) hy;have hqr:=hsr q (aD hq);have hyr:=hy0r y (aD hy);obtain⟨adq,csq,haq,hFq,_,hlq⟩:=dZ.load hRm hq;obtain⟨q0,q1,q2,q3,q4,q5,q6,q7,rfl,hFq⟩:=hFq;obtain⟨ady,csy,hay,hFy,_,hly⟩:=dZ.load hX.c hyu;obtain⟨y0',y1,y2,y3,y4,y5,y6,y7,rfl,hFy⟩:=hFy;obtain⟨adc,csc,hac,hFc,_,hlc⟩:=dZ.load hC hci;obtain⟨c0,c1,c2,c3,c4,c5,c6,c7,rfl,hFc⟩:=hFc;refine⟨adq,haq,by omega,[.bool q0,.slice q1 q2 q3,.bool q4,.slice q5 q6 q7],rfl,fun O w' r j u hu=>?_,?_⟩
   ·obtain⟨k1,k2⟩:=hlq j u hu;rw[aJ,cJ (w:=w14) (w2:=w') (by rw[dq,dq];exact Rel.same r (bs w) k1.1)];exact k2
   refine cD hτ df [.x 0,.x 1,.x 2,.x 3,.x 4,.x 5,.x 6,.x 7,.x 8,.x 9,.x 10,.x 11,.x 12,.x 13,.x 14] (by kernel_rfl) (by kernel_rfl) ?_;refine⟨ady,hay,by omega,[.bool y0',.slice y1 y2 y3,.bool y4,.slice y5 y6 y7],rfl,fun O w' r j u hu=>?_,?_⟩
   ·obtain⟨k1,k2⟩:=hly j u hu;rw[aJ,cJ (w:=w14) (w2:=w') (by rw[dq,dq];exact Rel.same r (bs w) k1)];exact k2
   refine⟨adc,hac,by omega,[.bool c0,.slice c1 c2 c3,.bool c4,.slice c5 c6 c7],rfl,fun O w' r j u hu=>?_,?_⟩
   ·obtain⟨k1,k2⟩:=hlc j u hu;rw[aJ,cJ (w:=w14) (w2:=w') (by rw[dq,dq];exact Rel.same r (bs w) k1.1)];exact k2
   refine cH (Φ:=fun _ w' v w2=>cP w2 (Nf w' w2) v (ci*q)) (fun O w' r=>y9 (S:=Cf w iv) (Rel.old r (bs w)) ((cP.l (kk.cv (kk.rel hFc r (bs w))) (by omega)).v) ((cP.l (kk.cv (kk.rel hFq r (bs w))) (by omega)).v)) ?_;rintro O wa15 v15 wb15 r he hb1 hn;replace hw:=hw.tr hb1;have hxo:∀g,(Value.slice (some ⟨gx,0,none⟩) f.cols cx).ownBlock=some g->g<wa15.heap.size:=fun g e=>Rel.old r (bs w) g (hX.new g e);replace hX:=hX.bz (iv':=(wa15.heap.size,wb15.heap.size)::iv) r (bs w) he fun x hx=>aB _ hx;replace hK:=fe.bz (iv':=(wa15.heap.size,wb15.heap.size)::iv) hK r (bs w) he fun x hx=>aB _ hx;replace hC:=eO.bz (iv':=(wa15.heap.size,wb15.heap.size)::iv) hC r (bs w) he fun x hx=>aB _ hx;replace hRm:=eO.bz (iv':=(wa15.heap.size,wb15.heap.size)::iv) hRm r (bs w) he fun x hx=>aB _ hx;replace hFy:=cP.bz (iv':=(wa15.heap.size,wb15.heap.size)::iv) hFy r (bs w) he fun x hx=>aB _ hx;have hm:=kk.fresh (S:=fun _=>False) (v:=(.slice (some ⟨gx,0,none⟩) f.cols cx)) hn r hxo;clear r he hb1 hxo hn;generalize (wa15.heap.size,wb15.heap.size)::iv=iv15 at*
   obtain⟨s15_0,s15_1,s15_2,s15_3,s15_4,s15_5,s15_6,s15_7,rfl⟩:=hm.shape;refine cH (Φ:=fun _ w' v w2=>cP w2 (Nf w' w2) v (y+ci*q)) (fun O w' r=>He (S:=Cf w iv15) (Rel.old r (bs w)) ((cP.l (cP.rel hFy r (bs w)) (by omega)).v) ((cP.l (kk.cv (kk.rel hm r (bs w))) (by have:=jL ci q;omega)).v)) ?_;rintro O wa16 v16 wb16 r he hb1 hn;replace hw:=hw.tr hb1;have hxo:∀g,(Value.slice (some ⟨gx,0,none⟩) f.cols cx).ownBlock=some g->g<wa16.heap.size:=fun g e=>Rel.old r (bs w) g (hX.new g e);replace hX:=hX.bz (iv':=(wa16.heap.size,wb16.heap.size)::iv15) r (bs w) he fun x hx=>aB _ hx;replace hK:=fe.bz (iv':=(wa16.heap.size,wb16.heap.size)::iv15) hK r (bs w) he fun x hx=>aB _ hx;replace hC:=eO.bz (iv':=(wa16.heap.size,wb16.heap.size)::iv15) hC r (bs w) he fun x hx=>aB _ hx;replace hRm:=eO.bz (iv':=(wa16.heap.size,wb16.heap.size)::iv15) hRm r (bs w) he fun x hx=>aB _ hx;clear hFy;clear hm;have hd:=kk.fresh (S:=fun _=>False) (v:=(.slice (some ⟨gx,0,none⟩) f.cols cx)) hn r hxo;clear r he hb1 hxo hn;generalize (wa16.heap.size,wb16.heap.size)::iv15=iv16 at*
   obtain⟨s16_0,s16_1,s16_2,s16_3,s16_4,s16_5,s16_6,s16_7,rfl⟩:=hd.shape;refine⟨⟨gx,0,none⟩,rfl,by omega,?_⟩;intro O w' r;obtain⟨g,hg,h1,h2,h3,h4,h5⟩:=(hX.rel r (bs w)).store (j:=k) hkb (hd.cB (Bs.same r (bs w))) r (bs w);injection hg with hg;injection hg with hg;subst hg;refine⟨h1,h2,h3,fun w5 hw5=>?_⟩;obtain⟨k1,k2,k3⟩:=h5 w5 hw5;have hw2:cQ w.heap.size w w5:=(hw.tr r.cI).tr (cQ.grown k2 (fun g e=>by injection e with e;subst e;exact h4.elim (fun h=>h.elim) fun h=>h.1) r.bw);have hK2:=fe.kept hK r (bs w) k2;have hC2:=eO.kept hC r (bs w) k2;have hR2:=eO.kept hRm r (bs w) k2;have hnext:(gQ k (fun k q=>q+ci*s.getD k 0) y0).set k (y+ci*q)=(gQ (k+1) (fun k q=>q+ci*s.getD k 0) y0):=by rw[<-nN hy,getD_some hq]
   rw[hnext]at k1;clear hX hK hC hRm hw h1 h2 h3 h4 h5 hw5 k2 k3 r hd;refine⟨((k+1:Nat):Int),wo,?_⟩;intro ρ3 w6 r3;exact⟨(k+1,w6,_),⟨hkb,hw2.tr r3.cI,k1.rel r3 (bs w),fe.rel hK2 r3 (bs w),eO.rel hC2 r3 (bs w),eO.rel hR2 r3 (bs w)⟩,Sub.gn [] r3,by dsimp only;omega⟩
  have hkb:k=f.cols:=by have:=aG hkb;omega
  rw[hkb,<-hy0l,tx,<-hnextA,hy0l]at hX;refine⟨((i+1:Nat):Int),wo,?_⟩;intro ρ3 w6 r3;exact⟨(i+1,w6,_),⟨hib,hw.tr r3.cI,hX.rel r3 (bs w),fe.rel hK r3 (bs w),eO.rel hC r3 (bs w)⟩,Sub.gn [] r3,by dsimp only;omega⟩
 have hib:i=(cN (cM f) f.cols).length:=by have:=aG hib;omega
 rw[hib]at hX;intro ρe we re;exact⟨_,rfl,hw.tr re.cI,.inr ⟨_,_,hfrc,rfl,cF.out hX.c re (bs w)⟩⟩
end Go.Ex
namespace Go.Ex
open Go Go.Sx Go.Proofs
variable{l:List Ld}{S:Nat->Prop}{f:fT}
theorem yj(hok:iS f.nodes.length l):Bl (dC (gL f l) (-1)):=fun t=>by
 rcases aO t (dC (gL f l) (-1)).length with h|h
 ·have h2:t<(gL f l).length:=by rw[dC,aL]at h;exact h
  have h3:(gL f l)[t]∈gL f l:=aV h2;rw[getD_some (show (dC (gL f l) (-1))[t]? =some ((gL f l)[t]* -1) by rw[dC,aM,aA h2];rfl)];obtain⟨z,hz,hz2⟩:=aS.1 h3;have hb:=AZ hok l.length (aE _) z hz;have hl:=hok.len;rw[<-hz2,show(z:Rat)* -1=((-z:Int):Rat) by rw[Rat.intCast_neg];grind];exact Ib.int (by omega)
 ·rw[iY h];exact Ib.zero _
abbrev CZ(f:fT):Nat->Rat:=fun t=>(cX f).getD t 0
set_option maxRecDepth 8000 in
theorem eu{w:World}{vn vb vs vl:Value}(hS:Old S w)(hf:dY w S vn vb vs f)(hl:dG w S vl l)(hsm:eK f=0->tU f):
  du PG N.oW #[.agg #[vn,vb,vs],vl] w (eD w fun v' w2=>(iG f l≠0∧v'= .tuple #[.slice none 0 0,.int .i64 (iG f l)])∨(iG f l=0∧((fU (cM f) (dC (gL f l) (-1)) f.cols=none∧v'= .tuple #[.slice none 0 0,.int .i64 17])∨∃x vx,iZ (cM f) f.cols (CZ f) (dC (gL f l) (-1)) x∧v'= .tuple #[vx,.int .i64 0]∧cF w2 (Nf w w2) vx x))):=by
 have hw:cQ w.heap.size w w:=cQ.refl;obtain⟨an,cn,ab,cb,aq,cq,rfl,rfl,rfl,hmn,hmb,hms⟩:=hf.shape;obtain⟨al,cl,rfl,hcl,hml⟩:=hl.shape;obtain⟨e0,EE⟩:∃e,iG f l=e:=⟨_,rfl⟩
 refine sP (by simp) ?_;refine bu (cE hw (fun _ w' v w2=>v= .int .i64 e0) (fun O w' r=>(oy (oS hS r) (hf.cB (kS hw r hS)) (hl.cB (kS hw r hS))).mono fun _ _ ⟨v2,e1,e2,e3⟩=>⟨v2,e1,e2,by rw[e3,EE]⟩) ?_);rintro O wa1 v1 wb1 iv1 r he hw h_ rfl;refine dH.mk (fun he=>?_) (fun he=>?_)
 ·have he:e0≠0:=by simpa using he
  intro ρe we re;exact⟨_,rfl,hw.tr re.cI,.inl ⟨by rw[EE];exact he,by rw[EE];rfl⟩⟩
 have he:e0=0:=by simpa using he
 have hel:iG f l=0:=by rw[EE,he]
 obtain⟨herr,hld⟩:=j2 hel;have hfb:=hsm herr;have hfs:=hfb.toFrS;have hld:=s8 hld;have hc18:=hfs.I9;have hr12:=hfs.J7;have htl:=iB f;have hlen:=fJ f;have hn4:=hfs.n4;have hok:=rp herr;have hvl:=lV f l;have hc0:f.cols=f.bars.length+f.cS.length:=rfl;refine cD hτ df [.x 0,.x 1,.x 2,.x 3,.x 4,.x 5,.x 6,.x 7,.x 8,.x 9] (by kernel_rfl) (by kernel_rfl) ?_;refine cE hw (fun _ w' v w2=>cF w2 (Nf w' w2) v (gL f l)∧∀q∈gL f l,rl q<=1) (fun O w' r=>(AR (oS hS r) (hl.cB (kS hw r hS)) hfs.n hld rfl rfl).mono fun _ _ ⟨v2,e1,e2,e3,e4⟩=>⟨v2,e1,e2,cF.cC e3.c fun g hg=>hg.new,e4⟩) ?_;rintro O wa2 v2 wb2 iv2 r he hw h_ ⟨hn,hvq⟩;have hP:=cF.dB (S:=fun _=>False) hn r.bw (mN h_);obtain⟨ap,cp,rfl,-,-⟩:=dZ.shape hP;rw[hvl];refine cH (Φ:=fun _ w' v w2=>(fU (cM f) (dC (gL f l) (-1)) f.cols=none∧v= .tuple #[.slice none 0 0,.bool false])∨∃x vx,iZ (cM f) f.cols (CZ f) (dC (gL f l) (-1)) x∧v= .tuple #[vx,.bool true]∧cF w2 (Nf w' w2) vx x) (fun O w' r=>A0 (S:=fun g=>S g∨Cf w iv2 g) (fun g hg=>hg.elim (oS hS r g) (Rel.old r (bs w) g)) (dY.cC (hf.cB (kS hw r hS)) fun g hg=>.inl hg) herr hfb (cF.cC (by have:=cF.rel hP r (bs w);rw[hvl]at this;exact this) fun g hg=>.inr hg) hvl (fun q hq=>by have:=hvq q hq;omega) (yj hld)) ?_;rintro O wa3 v3 wb3 r he hb (⟨hno,rfl⟩|⟨x,vx,hx,rfl,hn⟩)
 ·replace hw:=hw.tr hb;intro ρe we re;exact⟨_,rfl,hw.tr re.cI,.inr ⟨hel,.inl ⟨hno,rfl⟩⟩⟩
 replace hw:=hw.tr hb;have hX:=cF.dB (S:=fun _=>False) hn r.bw (iv:=(wa3.heap.size,wb3.heap.size)::iv2) aI;generalize (wa3.heap.size,wb3.heap.size)::iv2=ivx at*
 obtain⟨ax,cx,rfl,-,-⟩:=dZ.shape hX;intro ρe we re;exact⟨_,rfl,hw.tr re.cI,.inr ⟨hel,.inr ⟨x,_,hx,rfl,cF.out hX re (bs w)⟩⟩⟩
theorem IC(h:eK f≠0∨f.nodes.length<=4∧f.bars.length<=6)(hb:∀b∈f.bars,rl b.2.2<=3)(hs:∀b∈f.cS,rl b.2.2<=3)(h0:eK f=0):tU f:=
 ⟨KZ h h0,fun q hq=>by
  rcases bK.1 hq with h|h
  ·obtain⟨b,hb2,rfl⟩:=aS.1 h;exact hb b hb2
  ·obtain⟨b,hb2,rfl⟩:=aS.1 h;exact hs b hb2⟩
end Go.Ex
namespace Go.Ex
section
variable{f:fT}{b y s z:List Rat}{c:Rat}
end
end Go.Ex
namespace Go.Ex
open Go Go.Sx Go.Proofs
variable{cs:List (List Ld)}{M:List (List Rat)}{fs l:List Int}{n:Nat}{s:Nat->I3}{S:Nat->Prop}{φ:Nat->Rat}{f:fT}
theorem ID(h:tU f){x:List Rat}{h0:Nat}(hx:x.length<=f.cols)(hq:∀q∈x,rl q<=h0):∀q∈eh x (cX f),rl q<=h0+3:=fun q hq2=>by
 obtain⟨t,ht⟩:=aR hq2;have htl2:t<x.length:=by have:=(aC.1 ht).1;rw[jO]at this;exact this
 have h1:=mI (a:=x) (b:=cX f) htl2;rw[getD_some ht]at h1;have h2:=jL (x.getD t 0) ((cX f).getD t 0);have h3:=hq (x.getD t 0) (by rw[getD_some (aA htl2)];exact aV _);have h4:=h.LH (t:=t) (by omega);rw[h1];omega
set_option maxRecDepth 8000 in
set_option maxHeartbeats 1000000 in
theorem Cu{w:World}{vn vb vs vl:Value}{l:List Ld}(hS:Old S w)(hf:dY w S vn vb vs f)(hl:dG w S vl l)(hsm:eK f=0->tU f):
  du PG N.mK #[.agg #[vn,vb,vs],vl] w (eD w fun v' w2=>(iG f l≠0∧v'= .tuple #[.slice none 0 0,.slice none 0 0,.int .i64 (iG f l)])∨(iG f l=0∧((mY (cM f) f.cols<(cM f).length∧v'= .tuple #[.slice none 0 0,.slice none 0 0,.int .i64 17])∨
   (mY (cM f) f.cols=(cM f).length∧∃x u vx vu,iZ (cM f) f.cols (CZ f) (dC (gL f l) (-1)) x∧fU (eN (cM f) f.cols) (dC (eh x (cX f)) (-1)) (cM f).length=some u∧v'= .tuple #[vu,vx,.int .i64 0]∧cF w2 (Nf w w2) vu u∧cF w2 (Nf w w2) vx x)))):=by
 have hw:cQ w.heap.size w w:=cQ.refl;obtain⟨an,cn,ab,cb,aq,cq,rfl,rfl,rfl,hmn,hmb,hms⟩:=hf.shape;obtain⟨al,cl,rfl,hcl,hml⟩:=hl.shape;obtain⟨e0,EE⟩:∃e,iG f l=e:=⟨_,rfl⟩
 refine pg (by simp) ?_;conv=>whnf
 refine bu (cE hw (fun _ w' v w2=>v= .int .i64 e0) (fun O w' r=>(oy (oS hS r) (hf.cB (kS hw r hS)) (hl.cB (kS hw r hS))).mono fun _ _ ⟨v2,e1,e2,e3⟩=>⟨v2,e1,e2,by rw[e3,EE]⟩) ?_);rintro O wa1 v1 wb1 iv1 r he hw h_ rfl;clear r;conv=>whnf
 refine dH.mk (fun he=>?_) (fun he=>?_)
 ·have he:e0≠0:=by simpa using he
  conv=>whnf
  intro ρe we re;exact⟨_,rfl,hw.tr re.cI,.inl ⟨by rw[EE];exact he,by rw[EE];rfl⟩⟩
 have he:e0=0:=by simpa using he
 have hel:iG f l=0:=by rw[EE,he]
 obtain⟨herr,hld⟩:=j2 hel;have hfb:=hsm herr;have hfs:=hfb.toFrS;have hld:=s8 hld;clear EE he;have hc18:=hfs.I9;have hr12:=hfs.J7;have htl:=iB f;have hlen:=fJ f;have hn4:=hfs.n4;have hok:=rp herr;have hvl:=lV f l;have hc0:f.cols=f.bars.length+f.cS.length:=rfl;conv=>whnf
 refine bu (cE hw (fun _ w' v w2=>∃vr,v= .agg #[vr,.int .i64 f.cols]∧cO w2 (Nf w' w2) vr (cM f)) (fun O w' r=>(rB (S:=S) (oS hS r) (hf.cB (kS hw r hS)) hok).mono fun _ _ ⟨v2,e1,e2,e3,_⟩=>⟨v2,e1,e2,e3⟩) ?_);rintro O wa2 v2 wb2 iv2 r he hw h_ ⟨vr,rfl,hn⟩;have hM:=cO.dB (S:=fun _=>False) hn r.bw (mN h_);clear r he;clear hn;obtain⟨am,cm,rfl,-,-⟩:=eP.shape hM;conv=>whnf
 refine cD hτ df [.x 0,.x 1,.x 2,.x 7,.x 8,.x 9,.x 3,.x 4,.x 5,.x 6,.x 10] (by kernel_rfl) (by kernel_rfl) ?_;conv=>whnf
 refine cE hw (fun _ w' v w2=>∃vr vp vf,v= .agg #[vr,.int .i64 f.cols,vp,vf]∧cO w2 (Nw (Cf w iv2) w' w2) vr (dF (cM f) f.cols).1) (fun O w' r=>(yi (C:=Cf w iv2) (S:=Cf w iv2) (h:=20) (Rel.old r (bs w)) (Rel.old r (bs w)) (cO.rel hM r (bs w)) hlen (by omega) (by omega) (mV hlen hfs.lF (by decide) (by have:=hfs.size;omega)) (by decide)).mono fun _ _ ⟨v2,e1,e2,vr,vp,vf,k1,k2,_,_⟩=>⟨v2,e1,e2,vr,vp,vf,k1,k2⟩) ?_;rintro O wa3 v3 wb3 iv3 r he hw h_ ⟨vr2,vp2,vf2,rfl,hn⟩;replace hM:=cO.bz hM r (bs w) he (mC h_);clear r he;obtain⟨ar,cr,rfl,-,-⟩:=eP.shape hn;have hrk:(dF (cM f) f.cols).1.length=mY (cM f) f.cols:=by
  rw[(kW hlen hfs.lF).2,aW,Nat.min_eq_left (lW _ _ hlen).1]
 rw[hrk];obtain⟨nr,hnr⟩:∃nr,mY (cM f) f.cols=nr:=⟨_,rfl⟩
 rw[hnr];clear hn hrk;conv=>whnf
 refine dH.mk (fun hlt=>?_) (fun hlt=>?_)
 ·have hlt:nr<(cM f).length:=by have:=aH hlt;omega
  conv=>whnf
  intro ρe we re;exact⟨_,rfl,hw.tr re.cI,.inr ⟨hel,.inl ⟨hlt,rfl⟩⟩⟩
 have hlt:(cM f).length<=nr:=by have:=aG hlt;omega
 have hfirm:mY (cM f) f.cols=(cM f).length:=by
  have h1:=Dd hlen;have h2:=(lW (eN (cM f) f.cols) (cM f).length (iK _ _)).2;rw[hnr]at h1 ⊢;have h1:(cG (eN (cM f) f.cols) (cM f).length).2.length=nr:=h1;omega
 have hbl:=yj hld;have hbll:(dC (gL f l) (-1)).length=(cM f).length:=by rw[dC,aL,hvl,htl]
 conv=>whnf
 refine cD hτ df [.x 0,.x 1,.x 2,.x 3,.x 4,.x 5,.x 6,.x 7,.x 8,.x 9] (by kernel_rfl) (by kernel_rfl) ?_;conv=>whnf
 refine cE hw (fun _ w' v w2=>cF w2 (Nf w' w2) v (gL f l)∧∀q∈gL f l,rl q<=1) (fun O w' r=>(AR (oS hS r) (hl.cB (kS hw r hS)) hfs.n hld rfl rfl).mono fun _ _ ⟨v2,e1,e2,e3,e4⟩=>⟨v2,e1,e2,cF.cC e3.c fun g hg=>hg.new,e4⟩) ?_;rintro O wa4 v4 wb4 iv4 r he hw h_ ⟨hn,hvq⟩;replace hM:=cO.bz hM r (bs w) he (mC h_);have hP:=cF.dB (S:=fun _=>False) hn r.bw (mN h_);clear r he;clear hn;obtain⟨ap,cp,rfl,-,-⟩:=dZ.shape hP;rw[hvl];conv=>whnf
 refine cH (Φ:=fun _ w' v w2=>(fU (cM f) (dC (gL f l) (-1)) f.cols=none∧v= .tuple #[.slice none 0 0,.bool false])∨∃x vx,iZ (cM f) f.cols (CZ f) (dC (gL f l) (-1)) x∧v= .tuple #[vx,.bool true]∧cF w2 (Nf w' w2) vx x) (fun O w' r=>A0 (S:=fun g=>S g∨Cf w iv4 g) (fun g hg=>hg.elim (oS hS r g) (Rel.old r (bs w) g)) (dY.cC (hf.cB (kS hw r hS)) fun g hg=>.inl hg) herr hfb (cF.cC (by have:=cF.rel hP r (bs w);rw[hvl]at this;exact this) fun g hg=>.inr hg) hvl (fun q hq=>by have:=hvq q hq;omega) (yj hld)) ?_;rintro O wa5 v5 wb5 r he hb (⟨hno,rfl⟩|⟨x,vx,hx,rfl,hn⟩)
 ·obtain⟨x,hx⟩:=Fs (b:=dC (gL f l) (-1)) hlen hfirm;rw[hno]at hx
  cases hx
 replace hw:=hw.tr hb;replace hM:=cO.bz (iv':=(wa5.heap.size,wb5.heap.size)::iv4) hM r (bs w) he fun x hx=>aB _ hx;have hX:=cF.dB (S:=fun _=>False) hn r.bw (iv:=(wa5.heap.size,wb5.heap.size)::iv4) aI;clear r he hb hn;generalize (wa5.heap.size,wb5.heap.size)::iv4=ivx at*
 obtain⟨ax,cx,rfl,-,-⟩:=dZ.shape hX;have hxl:=hx.len;have hxr:=hfb.Es hbl hbll hx;obtain⟨u,hu⟩:=hx.Kk hlen;have hwT:=hfb.Ft hxl (hfb.HU hbl hbll hx);have hzT:ln (fB (wt 156) (jU (eN (cM f) f.cols) (dC (eh x (cX f)) (-1))).length)<=2827:=hfb.Df;have hsolve:=tN (M:=eN (cM f) f.cols) (b:=dC (eh x (cX f)) (-1)) (iK _ _) hwT;rw[hu]at hsolve;have hbr:=ID hfb (Nat.le_of_eq hxl) hxr;conv=>whnf
 refine cD hτ df [.x 0,.x 2,.x 3,.x 1,.x 4,.x 5,.x 6,.x 7,.x 8,.x 9,.x 10,.x 11,.x 12,.x 13] (by kernel_rfl) (by kernel_rfl) ?_;conv=>whnf
 refine cH (Φ:=fun _ w' v w2=>∃vr,v= .agg #[vr,.int .i64 (cM f).length]∧cO w2 (Nw (Cf w ivx) w' w2) vr (eN (cM f) f.cols)) (fun O w' r=>zP (C:=Cf w ivx) (S:=Cf w ivx) (Rel.old r (bs w)) (Rel.old r (bs w)) (cO.rel hM r (bs w)) hlen (by omega) (by omega)) ?_;rintro O wa6 v6 wb6 r he hb ⟨vt,rfl,hn⟩;replace hw:=hw.tr hb;clear hM;replace hX:=cF.bz (iv':=(wa6.heap.size,wb6.heap.size)::ivx) hX r (bs w) he fun x hx=>aB _ hx;have hT:=cO.old hn r.bw;clear r he hb;generalize (wa6.heap.size,wb6.heap.size)::ivx=iv6 at*
 clear hn;obtain⟨at_,ct,rfl,-,-⟩:=eP.shape hT;conv=>whnf
 refine cH (Φ:=fun _ w' v w2=>dx w2 (Nw S w' w2) v (cX f)) (fun O w' r=>AS (S:=S) (oS hS r) (hf.cB (kS hw r hS)) hok) ?_;rintro O wa7 v7 wb7 r he hb hn;replace hw:=hw.tr hb;replace hX:=cF.bz (iv':=(wa7.heap.size,wb7.heap.size)::iv6) hX r (bs w) he fun x hx=>aB _ hx;replace hT:=cO.bz (iv':=(wa7.heap.size,wb7.heap.size)::iv6) hT r (bs w) he fun x hx=>aB _ hx;have hL:=dx.cC (S':=Cv S w.heap.size ((wa7.heap.size,wb7.heap.size)::iv6)) hn fun g hg=>hg.elim .inl fun h=>.inr ⟨by have:=r.bw;omega,_,_,aI,h.1,h.2⟩;clear r he hb;generalize (wa7.heap.size,wb7.heap.size)::iv6=iv7 at*
 clear hn;obtain⟨afl,cfl,rfl,-,-⟩:=dZ.shape hL;conv=>whnf
 refine cE hw (fun _ w' v w2=>cF w2 (Nf w' w2) v (eh x (cX f))) (fun O w' r=>(FE (S:=Cv S w.heap.size iv7) (Rel.old r hS) (dx.cC (cF.l (cF.rel hX r (bs w)) fun q hq=>by have:=hxr q hq;omega) fun g hg=>Ia hg) (dx.rel hL r hS) (by rw[hxl,nO];exact aE _) (by omega)).mono fun _ _ ⟨v2,e1,e2,e3⟩=>⟨v2,e1,e2,cF.cC e3.c fun g hg=>hg.new⟩) ?_;rintro O wa8 v8 wb8 iv8 r he hw h_ hn;replace hX:=cF.bz hX r (bs w) he (mC h_);replace hT:=cO.bz hT r (bs w) he (mC h_);clear hL;have hE:=cF.dB (S:=fun _=>False) hn r.bw (mN h_);clear r he;clear hn;obtain⟨ae,ce,rfl,-,-⟩:=dZ.shape hE;conv=>whnf
 refine cE hw (fun _ w' v w2=>cP w2 (Nf w' w2) v ((-1:Int):Rat)) (fun O w' r=>ke (-1) w' (by decide) (by decide)) ?_;rintro O wa9 v9 wb9 iv9 r he hw h_ hn;replace hX:=cF.bz hX r (bs w) he (mC h_);replace hT:=cO.bz hT r (bs w) he (mC h_);replace hE:=cF.bz hE r (bs w) he (mC h_);have hd:=hn.dB (S:=fun _=>False) r.bw (mN h_);clear r he hn;obtain⟨s9_0,s9_1,s9_2,s9_3,s9_4,s9_5,s9_6,s9_7,rfl⟩:=hd.shape;conv=>whnf
 refine cE hw (fun _ w' v w2=>cF w2 (Nf w' w2) v (dC (eh x (cX f)) (-1))) (fun O w' r=>(AN (S:=Cf w iv9) (Rel.old r (bs w)) (cF.l (cF.rel hE r (bs w)) fun q hq=>by have:=hbr q hq;omega) ((hd.rel r (bs w)).l (by decide)) (by rw[jO];omega)).mono fun _ _ ⟨v2,e1,e2,e3⟩=>⟨v2,e1,e2,cF.cC e3.c fun g hg=>hg.new⟩) ?_;rintro O wa10 v10 wb10 iv10 r he hw h_ hn;replace hX:=cF.bz hX r (bs w) he (mC h_);replace hT:=cO.bz hT r (bs w) he (mC h_);clear hE;clear hd;have hG:=cF.dB (S:=fun _=>False) hn r.bw (mN h_);clear r he;clear hn;obtain⟨ag,cg,rfl,-,-⟩:=dZ.shape hG;conv=>whnf
 refine cH (Φ:=fun _ w' v w2=>∃vu,v= .tuple #[vu,.bool true]∧di w2 (Cf w iv10) w'.heap.size [(w'.heap.size,w2.heap.size)] vu (cM f).length u) (fun O w' r=>(Cg (C:=Cf w iv10) (S:=Cf w iv10) (h:=2830) (Rel.old r (bs w)) (Rel.old r (bs w)) (cO.rel hT r (bs w)) (cF.rel hG r (bs w)) (by rw[dC,aL,jO,eJ];exact hxl) (iK _ _) (by omega) (by rw[eJ];omega) (mV (hJ (iK _ _)) hwT mx (by omega)) (by decide)).mono fun _ _ ⟨v2,e1,e2,e3⟩=>⟨v2,e1,e2,by
  rcases e3 with⟨k1,_⟩|⟨x2,vx,k1,k2,k3⟩
  ·rw[hsolve]at k1;cases k1
  ·rw[hsolve]at k1;injection k1 with k1;subst k1;exact⟨vx,k2,k3⟩⟩) ?_
 rintro O wa11 v11 wb11 r he hb ⟨vu,rfl,hn⟩;replace hw:=hw.tr hb;replace hX:=cF.bz (iv':=(wa11.heap.size,wb11.heap.size)::iv10) hX r (bs w) he fun x hx=>aB _ hx;clear hT;clear hG;have hU:=hn.Ks r.bw;clear r he hb;generalize (wa11.heap.size,wb11.heap.size)::iv10=iv11 at*
 clear hn;obtain⟨au,cu,rfl,hcu⟩:=hU.row.form;conv=>whnf
 intro ρe we re;exact⟨_,rfl,hw.tr re.cI,.inr ⟨hel,.inr ⟨hnr.symm.trans hfirm,x,u,_,_,hx,hu,rfl,cF.out hU.c re (bs w),cF.out hX re (bs w)⟩⟩⟩
theorem pick{α β γ:Type}{P:β->γ->Prop}(f:γ->α):∀(cs:List β) (xs:List α),cs.length=xs.length->(∀(j:Nat) c x,cs[j]? =some c->xs[j]? =some x->∃y,P c y∧f y=x)->∃ys:List γ,ys.map f=xs∧∀(j:Nat) c y,cs[j]? =some c->ys[j]? =some y->P c y
 |[],[],_,_=>⟨[],rfl,fun _ _ _ h=>by simp at h⟩
 |c::cs,x::xs,hl,h=>by
  obtain⟨y,h1,h2⟩:=h 0 c x rfl rfl;obtain⟨ys,h3,h4⟩:=pick f cs xs (by simpa using hl) fun j=>h (j+1);refine⟨y::ys,by rw[List.map_cons,h2,h3],fun j=>?_⟩
  cases j with
  |zero=>intro c' y' e1 e2;injection e1 with e1;injection e2 with e2;subst e1 e2;exact h1
  |succ j=>exact h4 j
 |[],_::_,hl,_=>by cases hl
 |_::_,[],hl,_=>by cases hl
section
variable{S:Nat->Prop}{w:World}{v u:Value}{M:List (List Rat)}{b:List Rat}{n h0:Nat}
end
def IE:List Int:=[0,0,0,0,0,0,-1,0,0]
def A1:List Int:=[-3,3,9,0,0,-9,0,12,0]
def GO:List Ld:=[(2,0,0,-12)]
abbrev Kw:List Rat:=(dc IE).set 8 (Rat.divInt (-3) 2)
theorem Kx:Rat.divInt 2000 1000=((2:Int):Rat):=by decide +kernel
theorem wL:iG fD GO=0:=by decide +kernel
theorem Cw:tU fD:=IC (.inr ⟨by decide,by decide⟩) (by decide +kernel) (by decide +kernel) (j2 wL).1
theorem BY:iZ (cM fD) fD.cols (CZ fD) (dC (gL fD GO) (-1)) (dc A1):=⟨by decide +kernel,by decide +kernel,by decide +kernel⟩
theorem Cx:mY (cM fD) fD.cols=9:=by decide +kernel
theorem Ky:fU (eN (cM fD) fD.cols) (dC (eh (dc A1) (cX fD)) (-1)) (cM fD).length=some Kw:=by decide +kernel
set_option maxHeartbeats 1000000 in
theorem iH(w:World):du PG N.uW #[] w (eD w fun v' _=>v'= .bool true):=by
 have hw:cQ w.heap.size w w:=cQ.refl;refine yH (by simp) ?_;refine bu (cE hw (fun _ w' v w2=>∃vn vb vs,v= .agg #[vn,vb,vs]∧dY w2 (Nf w' w2) vn vb vs fD) (fun O w' r=>uB w') ?_);rintro O wa1 v1 wb1 iv1 r he hw h_ ⟨vn1,vb1,vs1,rfl,hn⟩;have hf:=hn.dB r.bw (mN h_);clear r;clear hn;obtain⟨an1,cn1,ab1,cb1,aq1,cq1,rfl,rfl,rfl,-,-,-⟩:=hf.shape;refine bu (cE hw (fun _ w' v w2=>∃vx,v= .tuple #[vx,.int .i64 0]∧cF w2 (Nf w' w2) vx (dc A1)) (fun O w' r=>(eu (S:=(fun g=>Cf w iv1 g∨g=(O 0).g)) (l:=GO) (fun g hg=>hg.elim (Rel.old r (bs w) g) fun e=>by subst e;exact Rel.lt r (id:=0) rfl) (dY.cC (dY.rel hf r (bs w)) fun g hg=>.inl hg) (show dG w' (fun g=>Cf w iv1 g∨g=(O 0).g) (.slice (some ⟨(O 0).g,0,none⟩) 1 1) GO from⟨[[.int .i64 2,.int .i64 0,.int .i64 0,.int .i64 (-12)]],(r.lj (id:=0) (sz:=4) (n:=1) rfl rfl (by decide) (by repeat' first|refine List.forall_mem_cons.2 ⟨rfl,?_⟩|exact fun u hu=>absurd hu List.not_mem_nil)).cC fun g hg=>.inr hg,rfl,by simp,fun j cs x h1 h2=>by cases j with|zero=>(cases h1;cases h2;rfl)|succ j=>cases h2⟩) (fun _=>Cw)).mono fun _ _ ⟨v2,e1,e2,e3⟩=>⟨v2,e1,e2,e3.elim (fun h=>absurd wL h.1) fun h=>h.2.elim (fun g=>by obtain⟨z,hz⟩:=j1 (fJ fD) (x:=fun t=>(dc A1).getD t 0) BY.eq;rw[g.1]at hz;cases hz) fun⟨x,vx,g,k1,k2⟩=>⟨vx,k1,Cw.vD.one g BY▸k2⟩⟩) ?_);rintro O wa2 v2 wb2 iv2 r he hw h_ ⟨vx1,rfl,hn⟩;clear hf;have hx:=cF.dB (S:=fun _=>False) hn r.bw (mN h_);clear r;clear hn;obtain⟨ax1,cx1,rfl,-,-⟩:=dZ.shape hx;refine bu (cE hw (fun _ w' v w2=>∃vn vb vs,v= .agg #[vn,vb,vs]∧dY w2 (Nf w' w2) vn vb vs fD) (fun O w' r=>uB w') ?_);rintro O wa3 v3 wb3 iv3 r he hw h_ ⟨vn2,vb2,vs2,rfl,hn⟩;replace hx:=cF.bz hx r (bs w) he (mC h_);have hf:=hn.dB r.bw (mN h_);clear r;clear hn;obtain⟨an2,cn2,ab2,cb2,aq2,cq2,rfl,rfl,rfl,-,-,-⟩:=hf.shape
 refine bu (cE hw (fun _ w' v w2=>∃vu vx,v= .tuple #[vu,vx,.int .i64 0]∧cF w2 (Nf w' w2) vu Kw∧∃a n c,vx= .slice a n c) (fun O w' r=>(Cu (S:=(fun g=>Cf w iv3 g∨g=(O 0).g)) (l:=GO) (fun g hg=>hg.elim (Rel.old r (bs w) g) fun e=>by subst e;exact Rel.lt r (id:=0) rfl) (dY.cC (dY.rel hf r (bs w)) fun g hg=>.inl hg) (show dG w' (fun g=>Cf w iv3 g∨g=(O 0).g) (.slice (some ⟨(O 0).g,0,none⟩) 1 1) GO from⟨[[.int .i64 2,.int .i64 0,.int .i64 0,.int .i64 (-12)]],(r.lj (id:=0) (sz:=4) (n:=1) rfl rfl (by decide) (by repeat' first|refine List.forall_mem_cons.2 ⟨rfl,?_⟩|exact fun u hu=>absurd hu List.not_mem_nil)).cC fun g hg=>.inr hg,rfl,by simp,fun j cs x h1 h2=>by cases j with|zero=>(cases h1;cases h2;rfl)|succ j=>cases h2⟩) (fun _=>Cw)).mono fun _ _ ⟨v2,e1,e2,e3⟩=>⟨v2,e1,e2,e3.elim (fun h=>absurd wL h.1) fun h=>h.2.elim (fun g=>absurd g.1 (by rw[Cx];decide)) fun⟨_,x,u,vx,vu,g1,g2,e3,e4,e5⟩=>by
  obtain rfl:=Cw.vD.one g1 BY;rw[Ky]at g2;injection g2 with g2;subst g2;obtain⟨a,c,h,_⟩:=dZ.shape e5
  exact⟨vu,vx,e3,e4,a,_,c,h⟩⟩) ?_)
 rintro O wa4 v4 wb4 iv4 r he hw h_ ⟨vu1,_,rfl,hn,ay1,ny1,cy1,rfl⟩;replace hx:=cF.bz hx r (bs w) he (mC h_);clear hf;have hu:=cF.dB (S:=fun _=>False) hn r.bw (mN h_);clear r;clear hn;obtain⟨au1,cu1,rfl,-,-⟩:=dZ.shape hu;refine bu (cE hw (fun _ w' v w2=>∃vn vb vs,v= .agg #[vn,vb,vs]∧dY w2 (Nf w' w2) vn vb vs fD) (fun O w' r=>uB w') ?_);rintro O wa5 v5 wb5 iv5 r he hw h_ ⟨vn3,vb3,vs3,rfl,hn⟩;replace hx:=cF.bz hx r (bs w) he (mC h_);replace hu:=cF.bz hu r (bs w) he (mC h_);have hf:=hn.dB r.bw (mN h_);clear r;clear hn;obtain⟨an3,cn3,ab3,cb3,aq3,cq3,rfl,rfl,rfl,-,-,-⟩:=hf.shape;refine bu (cE hw (fun _ w' v w2=>v= .tuple #[EC 9 0 0,.int .i64 0]) (fun O w' r=>(GN (S:=Cf w iv5) (Rel.old r (bs w)) (dY.rel hf r (bs w)) (fun _=>Cw.toFrS)).mono fun _ _ ⟨v2,e1,e2,e3⟩=>⟨v2,e1,e2,e3.elim (fun h=>absurd (j2 wL).1 h.1) fun h=>by rw[h.2,Cx];rfl⟩) ?_);rintro O wa6 v6 wb6 iv6 r he hw h_ rfl;replace hx:=cF.bz hx r (bs w) he (mC h_);replace hu:=cF.bz hu r (bs w) he (mC h_);clear hf;clear r
 refine bu (cE hw (fun _ w' v w2=>∃vr,v= .tuple #[vr,.int .i64 0]∧cP w2 (Nf w' w2) vr ((2:Int):Rat)) (fun O w' r=>(EA 25 10 w' (by decide) (by decide) (by decide)).mono fun _ _ ⟨v2,e1,e2,vr,rt,e3,e4,e5,e6⟩=>⟨v2,e1,e2,vr,e3,by
  have:rt=2000:=KR e4 e5 (by decide) (by decide);rw[this]at e6
  exact Kx▸e6⟩) ?_)
 rintro O wa7 v7 wb7 iv7 r he hw h_ ⟨vr1,rfl,hn⟩;replace hx:=cF.bz hx r (bs w) he (mC h_);replace hu:=cF.bz hu r (bs w) he (mC h_);have hl:=hn.dB (S:=fun _=>False) r.bw (mN h_);clear r;obtain⟨s7_0a,s7_0b,s7_0c,s7_0d,s7_0e,s7_0f,s7_0g,s7_0h,rfl⟩:=hl.shape;clear hn;refine bu (cE hw (fun _ w' v w2=>∃q,v= .tuple #[q,.int .i64 0]∧cP w2 (Nf w' w2) q (Rat.divInt (-3) 2)) (fun O w' r=>(IF (-3) 2 w' (by decide) (by decide) (by decide) (by decide)).mono fun _ _ ⟨v2,e1,e2,e3⟩=>⟨v2,e1,e2,e3.elim (fun k=>absurd k.1 (by decide)) fun h=>h.2⟩) ?_);rintro O wa8 v8 wb8 iv8 r he hw h_ ⟨q1,rfl,hn⟩;replace hx:=cF.bz hx r (bs w) he (mC h_);replace hu:=cF.bz hu r (bs w) he (mC h_);replace hl:=hl.bz r (bs w) he (mC h_);have hh:=hn.dB (S:=fun _=>False) r.bw (mN h_);clear r;obtain⟨s8_0a,s8_0b,s8_0c,s8_0d,s8_0e,s8_0f,s8_0g,s8_0h,rfl⟩:=hh.shape;clear hn;refine bu (cH (Φ:=fun _ w' v w2=>di w2 (fun _=>False) w'.heap.size [(w'.heap.size,w2.heap.size)] v 9 (dc IE)) (fun O w' r=>Cp (S:=fun g=>g=(O 4).g) (fun g hg=>by subst hg;exact Rel.lt r (id:=4) rfl) (FG r (id:=4) (n:=9) (l:=IE) rfl rfl (by decide)) (by decide) (by decide) (by decide)) ?_);rintro O wa9 v9 wb9 r he hb hn;replace hw:=hw.tr hb;replace hx:=cF.cC (S':=Bs (fun _=>False) w.heap.size ((wa9.heap.size,wb9.heap.size)::iv8) v9) (cF.cB (cF.rel hx r (bs w)) fun g hg=>he.block g (Rel.old r (bs w) g hg)) fun g hg=>Bs.of r (bs w) (fun x hx=>aB _ hx) hn hg;replace hu:=cF.cC (S':=Bs (fun _=>False) w.heap.size ((wa9.heap.size,wb9.heap.size)::iv8) v9) (cF.cB (cF.rel hu r (bs w)) fun g hg=>he.block g (Rel.old r (bs w) g hg)) fun g hg=>Bs.of r (bs w) (fun x hx=>aB _ hx) hn hg;replace hl:=cP.cC (S':=Bs (fun _=>False) w.heap.size ((wa9.heap.size,wb9.heap.size)::iv8) v9) (cP.cB (hl.rel r (bs w)) fun g hg=>he.block g (Rel.old r (bs w) g hg)) fun g hg=>Bs.of r (bs w) (fun x hx=>aB _ hx) hn hg;replace hh:=cP.cC (S':=Bs (fun _=>False) w.heap.size ((wa9.heap.size,wb9.heap.size)::iv8) v9) (cP.cB (hh.rel r (bs w)) fun g hg=>he.block g (Rel.old r (bs w) g hg)) fun g hg=>Bs.of r (bs w) (fun x hx=>aB _ hx) hn hg;have hX:=hn.dB (S:=fun _=>False) r.bw (iv:=(wa9.heap.size,wb9.heap.size)::iv8) aI;clear r he hb hn;generalize (wa9.heap.size,wb9.heap.size)::iv8=iv9 at*
 obtain⟨ax,cx,rfl,hcx⟩:=hX.row.form;obtain⟨gx,rfl⟩:=hX.at (by decide);refine⟨⟨gx,0,none⟩,rfl,by omega,?_⟩;intro O w' r;obtain⟨g,hg,h1,h2,h3,h4,h5⟩:=(hX.rel r (bs w)).store (j:=8) (by decide) (hh.cB (Bs.same r (bs w))) r (bs w);injection hg with hg;injection hg with hg;subst hg;refine⟨h1,h2,h3,fun w5 hw5=>?_⟩;obtain⟨k1,k2,k3⟩:=h5 w5 hw5;have hw2:cQ w.heap.size w w5:=(hw.tr r.cI).tr (cQ.grown k2 (fun g e=>by injection e with e;subst e;exact h4.elim (fun h=>h.elim) fun h=>h.1) r.bw);have hx2:=cF.cC (S':=Cf w iv9) (cF.cB hx (Bs.kept r (bs w) k2 fun g e=>e)) fun g hg=>hg.1;have hu2:=cF.cC (S':=Cf w iv9) (cF.cB hu (Bs.kept r (bs w) k2 fun g e=>e)) fun g hg=>hg.1;have hl2:=cP.cC (S':=Cf w iv9) (cP.cB hl (Bs.kept r (bs w) k2 fun g e=>e)) fun g hg=>hg.1;have hd2:=k1.c;clear hX hx hu hl hh hw h1 h2 h3 h4 h5 hw5 k1 k2 k3 r;have hw:=hw2;have hx:=hx2;have hu:=hu2;have hl:=hl2;have hd:=hd2;clear hw2 hx2 hu2 hl2 hd2;refine cD hτ df [.x 0,.x 1,.x 2,.x 3,.x 4,.x 5,.x 6,.x 7,.x 8,.x 9,.x 10,.x 11,.x 12,.x 13,.x 14,.x 15,.x 16,.x 17,.x 18,.x 19,.x 20,.x 21,.x 22,.x 23,.x 24,.x 25,.x 26,.x 27,.x 28,.x 29,.x 30,.x 31,.x 32,.x 33,.x 34,.x 35] (by kernel_rfl) (by kernel_rfl) ?_;refine cE hw (fun _ w' v w2=>di w2 (fun _=>False) w'.heap.size [(w'.heap.size,w2.heap.size)] v 9 (dc A1)) (fun O w' r=>Cp (S:=fun g=>g=(O 5).g) (fun g hg=>by subst hg;exact Rel.lt r (id:=5) rfl) (FG r (id:=5) (n:=9) (l:=A1) rfl rfl (by decide)) (by decide) (by decide) (by decide)) ?_;rintro O wa10 v10 wb10 iv10 r he hw h_ hn;replace hx:=cF.bz hx r (bs w) he (mC h_);replace hu:=cF.bz hu r (bs w) he (mC h_);replace hl:=hl.bz r (bs w) he (mC h_);replace hd:=cF.bz hd r (bs w) he (mC h_);have hX:=hn.dB (S:=fun _=>False) r.bw (mN h_);clear r he hn;have hv:=hX.c;clear hX;obtain⟨av,cv,rfl,-,-⟩:=dZ.shape hv;refine cE hw (fun _ w' v w2=>v= .bool true) (fun O w' r=>(rE (S:=Cf w iv10) (Rel.old r (bs w)) (cF.rel hx r (bs w)) (cF.rel hv r (bs w))).mono fun _ _ ⟨v2,e1,e2,e3⟩=>⟨v2,e1,e2,by rw[e3];exact congrArg _ (bR rfl)⟩) ?_;rintro O wa11 v11 wb11 iv11 r he hw h_ rfl;clear hx;replace hu:=cF.bz hu r (bs w) he (mC h_);replace hl:=hl.bz r (bs w) he (mC h_);replace hd:=cF.bz hd r (bs w) he (mC h_);clear hv;clear r he;refine cE hw (fun _ w' v w2=>v= .bool true) (fun O w' r=>(rE (S:=Cf w iv11) (Rel.old r (bs w)) (cF.rel hu r (bs w)) (cF.rel hd r (bs w))).mono fun _ _ ⟨v2,e1,e2,e3⟩=>⟨v2,e1,e2,by rw[e3];exact congrArg _ (bR rfl)⟩) ?_;rintro O wa12 v12 wb12 iv12 r he hw h_ rfl;clear hu;replace hl:=hl.bz r (bs w) he (mC h_);clear hd;clear r he;refine⟨true,fun O w o1 o2=>JP 9 0 0 9 0 0 w o1 o2,?_⟩;refine cE hw (fun _ w' v w2=>cP w2 (Nf w' w2) v ((2:Int):Rat)) (fun O w' r=>oz 2 w' (by decide)) ?_;rintro O wa13 v13 wb13 iv13 r he hw h_ hn;replace hl:=hl.bz r (bs w) he (mC h_);have ht:=hn.dB (S:=fun _=>False) r.bw (mN h_);clear r he hn;obtain⟨s13_0,s13_1,s13_2,s13_3,s13_4,s13_5,s13_6,s13_7,rfl⟩:=ht.shape;refine cE hw (fun _ w' v w2=>v= .bool true) (fun O w' r=>(IG (S:=Cf w iv13) (Rel.old r (bs w)) (hl.rel r (bs w)) (ht.rel r (bs w))).mono fun _ _ ⟨v2,e1,e2,e3⟩=>⟨v2,e1,e2,by rw[e3];exact congrArg _ (bR rfl)⟩) ?_;rintro O wa14 v14 wb14 iv14 r he hw h_ rfl;clear hl;clear ht;clear r he;intro ρe we re;exact⟨_,rfl,hw.tr re.cI,rfl⟩
def c3(p:I3)(k:Nat):Int:=([p.1,p.2.1,p.2.2]:List Int).getD k 0
theorem KJ(x:Ld)(k:Nat):(J9 x).getD k 0=c3 x.2 k:=rfl
theorem Dh{i j:Nat}{x:Int}:(l.set i x).getD j 0=if i=j∧i<l.length then x else l.getD j 0:=by
 rw[List.getD,List.getElem?_set,List.getD];split
 ·rename_i e;subst e;split
  ·rw[if_pos ⟨rfl,by assumption⟩];rfl
  ·rename_i h;rw[aF fun g=>h g.2,List.getElem?_eq_none (by omega)]
 ·rename_i e;rw[aF fun g=>e g.1]
theorem tW{s:List Int}{x:Ld}{n a b:Nat}(hs:s.length=3*n)(hb:x.1=(b:Int))(hbn:b<n){k:Nat}(hk:k<3):∀j,j<=3->
  (gE s x j).getD (3*a+k) 0=s.getD (3*a+k) 0+if b=a∧k<j then c3 x.2 k else 0
 |0,_=>by rw[gE,aF (by omega)];omega
 |j+1,hj=>by
  have ih:=tW (a:=a) hs hb hbn hk j (by omega);rw[gE,CF,hb,show(3*(b:Int)+(j:Int)).toNat=3*b+j by omega,Dh,nC,hs,KJ];by_cases e:3*b+j=3*a+k
  ·obtain⟨rfl,rfl⟩:b=a∧j=k:=by omega
   rw[if_pos (by omega),if_pos (by omega),ih,aF (by omega)];omega
  ·rw[aF (by omega),ih];by_cases g:b=a
   ·subst g;by_cases g2:k<j
    ·rw[if_pos (by omega),if_pos (by omega)]
    ·rw[aF (by omega),aF (by omega)]
   ·rw[aF (by omega),aF (by omega)]
theorem Iy{fa:Int}{x:Ld}{b a k:Nat}(hb:x.1=(b:Int))(hk:k<3):c3 (tL s fa x a) k=c3 (s a) k+fa*(if b=a∧k<3 then c3 x.2 k else 0):=by
 rw[tL];by_cases e:b=a
 ·subst e;rw[if_pos hb.symm,if_pos ⟨rfl,hk⟩];rcases k with _|_|_|k
  ·rfl
  ·rfl
  ·rfl
  ·omega
 ·rw[aF (by omega),aF (by omega)];omega
theorem Et{s:Nat->I3}{fa:Int}{l:List Ld}{n a k:Nat}(hok:iS n l)(hk:k<3):∀i,i<=l.length->c3 (qe s fa l i a) k=c3 (s a) k+fa*(eC n l i).getD (3*a+k) 0
 |0,_=>by
  rw[qe,eC];have:(List.replicate (3*n) (0:Int)).getD (3*a+k) 0=0:=by
   rw[List.getD,List.getElem?_replicate];split<;>rfl
  rw[this];omega
 |i+1,hi=>by
  obtain⟨x,hx⟩:∃x,l[i]? =some x:=⟨_,aA (by omega)⟩
  obtain⟨⟨h0,h1⟩,-⟩:=hok.ld x (aD hx);obtain⟨b,hb⟩:=Int.eq_ofNat_of_zero_le h0;have hxd:l.getD i (0,0,0,0)=x:=by rw[List.getD,hx];rfl
  rw[qe,eC,hxd,Iy hb hk,tW (iu n l i) hb (by omega) hk 3 (aE _),Et hok hk i (by omega),Int.mul_add];omega
theorem CW{s:Nat->I3}{fa:Int}{l:List Ld}{n a:Nat}(hok:iS n l)(ha:n<=a):∀i,i<=l.length->qe s fa l i a=s a
 |0,_=>rfl
 |i+1,hi=>by
  obtain⟨x,hx⟩:∃x,l[i]? =some x:=⟨_,aA (by omega)⟩
  obtain⟨⟨h0,h1⟩,-⟩:=hok.ld x (aD hx);rw[qe,show l.getD i (0,0,0,0)=x by rw[List.getD,hx];rfl,tL,aF (by omega)];exact CW hok ha i (by omega)
theorem tX{n a:Nat}{cs:List (List Ld)}{fs:List Int}(hok:∀l∈cs,iS n l)(ha:n<=a):∀c,c<=cs.length->fI cs fs c a=(0,0,0)
 |0,_=>rfl
 |c+1,hc=>by
  have hm:cs.getD c []∈cs:=by
   rw[List.getD,aA (show c<cs.length by omega)];exact aV _
  rw[fI,CW (hok _ hm) ha _ (aE _)];exact tX hok ha c (by omega)
def HV(n:Nat)(cs:List (List Ld))(fs:List Int)(j:Nat):Nat->Int
 |0=>0
 |c+1=>HV n cs fs j c+fs.getD c 0*(eC n (cs.getD c []) (cs.getD c []).length).getD j 0
theorem CX{n a k:Nat}{cs:List (List Ld)}{fs:List Int}(hok:∀l∈cs,iS n l)(hk:k<3):∀c,c<=cs.length->c3 (fI cs fs c a) k=HV n cs fs (3*a+k) c
 |0,_=>by
  rcases k with _|_|_|k
  ·rfl
  ·rfl
  ·rfl
  ·omega
 |c+1,hc=>by
  have hm:cs.getD c []∈cs:=by
   rw[List.getD,aA (show c<cs.length by omega)];exact aV _
  rw[fI,Et (hok _ hm) hk _ (aE _),CX hok hk c (by omega)];rfl
theorem xg(n:Nat)(l:List Ld)(x:Ld):∀i,i<=l.length->eC n (l++[x]) i=eC n l i
 |0,_=>rfl
 |i+1,hi=>by
  rw[eC,eC,xg n l x i (by omega)];congr 1;rw[List.getD,aK (by omega),<-List.getD]
theorem Eu{s:Nat->I3}{n a k:Nat}(h0:∀m,n<=m->s m=(0,0,0))(hk:k<3):∀N,(eC n (ek s N) (ek s N).length).getD (3*a+k) 0=if a<N then c3 (s a) k else 0
 |0=>by
  rw[aF (by omega)];show(List.replicate (3*n) (0:Int)).getD (3*a+k) 0=0;rw[List.getD,List.getElem?_replicate];split<;>rfl
 |N+1=>by
  have ih:=Eu (a:=a) h0 hk N;have hz:c3 (0,0,0) k=0:=by
   rcases k with _|_|_|k
   ·rfl
   ·rfl
   ·rfl
   ·omega
  rw[ek];split
  ·rename_i e;rw[ih];by_cases h:a=N
   ·subst h;rw[aF (by omega),if_pos (by omega),e,hz]
   ·by_cases h2:a<N
    ·rw[if_pos h2,if_pos (by omega)]
    ·rw[aF h2,aF (by omega)]
  ·rename_i e;have hN:N<n:=by
    rcases aO N n with h|h
    ·exact h
    ·exact absurd (h0 N h) e
   rw[List.length_append,List.length_singleton,eC,xg n _ _ _ (aE _),show(ek s N++[((N:Int),s N)]).getD (ek s N).length (0,0,0,0)=((N:Int),s N) by rw[List.getD,aN (aE _),bH];rfl,tW (b:=N) (iu _ _ _) rfl hN hk 3 (aE _),ih];have e2:c3 ((N:Int),s N).2 k=c3 (s N) k:=rfl;by_cases h:N=a
   ·subst h;rw[aF (Nat.lt_irrefl N),if_pos (bl N),if_pos ⟨rfl,hk⟩,e2];omega
   ·by_cases h2:a<N
    ·rw[if_pos h2,if_pos (show a<N+1 by omega),aF (fun g=>h g.1)];omega
    ·rw[aF h2,aF (show ¬a<N+1 by omega),aF (fun g=>h g.1)];rfl
theorem xh{s:Nat->I3}{x:Ld}:∀N,x∈ek s N->∃m,m<N∧x=((m:Int),s m)∧s m≠(0,0,0)
 |0,h=>by cases h
 |N+1,h=>by
  rw[ek]at h;split at h
  ·obtain⟨m,h1,h2⟩:=xh N h;exact⟨m,by omega,h2⟩
  ·rename_i e;rcases bK.1 h with h|h
   ·obtain⟨m,h1,h2⟩:=xh N h;exact⟨m,by omega,h2⟩
   ·rw[bD]at h;exact⟨N,by omega,h,e⟩
theorem Iz(hok:∀l∈cs,iS n l)(hb:∀m,m<20->D4 (fI cs fs cs.length m)):iS n (ek (fI cs fs cs.length) 20):=by
 refine⟨by have:=qf (fI cs fs cs.length) 20;omega,fun x hx=>?_⟩;obtain⟨m,h1,rfl,h2⟩:=xh 20 hx;have hm:m<n:=by
  rcases aO m n with h|h
  ·exact h
  ·exact absurd (tX hok h _ (aE _)) h2
 obtain⟨⟨a1,a2⟩,⟨a3,a4⟩,a5,a6⟩:=hb m h1;exact⟨⟨by omega,by omega⟩,⟨a1,a2⟩,⟨a3,a4⟩,a5,a6⟩
theorem HW(hn:f.nodes.length<=20)(hok:∀l∈cs,iS f.nodes.length l)(j:Nat)(hj:j<3*f.nodes.length):
  (gL f (ek (fI cs fs cs.length) 20)).getD j 0=((HV f.nodes.length cs fs j cs.length:Int):Rat):=by
 have hg:=Eu (s:=fI cs fs cs.length) (n:=f.nodes.length) (a:=j / 3) (k:=j % 3) (fun m hm=>tX hok hm _ (aE _)) (by omega) 20;rw[if_pos (by omega),CX hok (by omega) _ (aE _),show 3*(j / 3)+j % 3=j by omega]at hg;rw[gL,dc,List.getD,aM];rw[List.getD]at hg
 cases e:(eC f.nodes.length (ek (fI cs fs cs.length) 20) (ek (fI cs fs cs.length) 20).length)[j]? with
 |none=>
  have:=List.getElem?_eq_none_iff.1 e;rw[iu]at this;omega
 |some z=>
  rw[e]at hg;rw[<-hg];rfl
theorem CY(f:fT)(l:List Ld)(j:Nat):(gL f l).getD j 0=(((eC f.nodes.length l l.length).getD j 0:Int):Rat):=by
 rw[gL,dc,List.getD,aM,List.getD]
 cases (eC f.nodes.length l l.length)[j]? with
 |none=>rfl
 |some z=>rfl
theorem JA{b c d x y z:List Rat}{p q:Rat}(hx:iZ M n φ b x)(hy:iZ M n φ c y)(hd:∀j,j<M.length->d.getD j 0=b.getD j 0*p+c.getD j 0*q)(hl:z.length=n)(hz:∀t,t<n->z.getD t 0=x.getD t 0*p+y.getD t 0*q):iZ M n φ d z:=by
 refine⟨hl,fun j hj=>?_,fun k hk=>?_⟩
 ·rw[my (y:=fun t=>p*x.getD t 0+q*y.getD t 0) fun t ht=>by rw[hz t ht];grind,x5,x6,x6,hx.eq j hj,hy.eq j hj,hd j hj];grind
 ·have h1:=hx.st k hk;have h2:=hy.st k hk;unfold tB at h1 h2 ⊢;rw[cA (g:=fun t=>p*(φ t*(cd (cN M n) k t*x.getD t 0))+q*(φ t*(cd (cN M n) k t*y.getD t 0))) fun t ht=>by dsimp only;rw[hz t ht];grind,fO,eF,eF,h1,h2];grind
theorem HY{xs ys:List Rat}{b:Rat}{t:Nat}(h0:0<xs.length)(ht:t<ys.length):(iz xs ys b).getD t 0=xs.getD t 0+ys.getD t 0*b:=by
 rw[getD_some (pT ht),if_pos h0]
end Go.Ex
namespace Go.Ex
section
variable{M:List (List Rat)}{n:Nat}{fl p q x y u v:List Rat}
theorem qh(p:List Rat)(c:Rat)(i:Nat):(dC p c).getD i 0=p.getD i 0*c:=by
 rw[dC,List.getD,aM,List.getD]
 cases p[i]? with
 |none=>exact(bC c).symm
 |some a=>rfl
end
end Go.Ex
namespace Go.Ex
open Go Go.Sx Go.Proofs
variable{cs:List (List Ld)}{fs:List Int}{l m:List Ld}{n:Nat}{S:Nat->Prop}
theorem Ev(h:iS n l):jc n l=0:=by
 rw[jc,aF (by have:=h.len;omega)];exact xj fun k x hx=>xk.2 (h.ld x (aD hx))
theorem iS.more{m:Nat}(h:iS n l)(hn:n<=m):iS m l:=⟨h.len,fun x hx=>by obtain⟨⟨a,b⟩,c⟩:=h.ld x hx;exact⟨⟨a,by omega⟩,c⟩⟩
theorem xl{α:Type}{e:List α->α->Int}{c:Int}(he:∀s x,e s x=0∨e s x=c):∀(xs seen:List α),dJ e seen xs=0∨dJ e seen xs=c
 |[],_=>.inl rfl
 |x::xs,seen=>by
  rw[dJ];split
  ·exact xl he xs _
  ·exact he seen x
theorem Di(hn:n<=20)(hok:∀l∈cs,iS n l)(hc:cs.length<=16)(hl:fs.length=cs.length):
  (kr cs fs=2∨kr cs fs=8)∨(kr cs fs=0∧(∀z∈fs,-100<=z∧z<=100)∧∀m,m<20->D4 (fI cs fs cs.length m)):=by
 have h1:dJ (fun _=>jc 20) [] cs=0:=xj fun k l hk=>Ev ((hok l (aD hk)).more hn);rw[kr,aF (by omega),aF (by omega)];split
 ·exact .inl (.inl rfl)
 ·rename_i h2;rw[aF (by rw[h1];decide)];have h2:dJ (fun _=>GY) [] fs=0:=Decidable.byContradiction h2;rcases xl (c:=8) (e:=fun _:List Nat=>CG (fI cs fs cs.length)) (fun _ m=>by unfold CG;split<;>simp) (List.range 20) []with h3|h3
  ·refine .inr ⟨h3,fun z hz=>?_,fun m hm=>?_⟩
   ·obtain⟨k,hk⟩:=aR hz;have:=fV h2 k z hk;unfold GY at this;split at this
    ·assumption
    ·cases this
   ·have:=fV h3 m m (bS hm);unfold CG at this;split at this
    ·assumption
    ·cases this
  ·exact .inl (.inr h3)
theorem HX{f:fT}{p q:Int}{x y:List Rat}(hn:f.nodes.length<=20)(hl:iS f.nodes.length l)(hm:iS f.nodes.length m)(hx:iZ (cM f) f.cols (CZ f) (dC (gL f l) (-1)) x)(hy:iZ (cM f) f.cols (CZ f) (dC (gL f m) (-1)) y):
  iZ (cM f) f.cols (CZ f) (dC (gL f (ek (fI [l,m] [p,q] 2) 20)) (-1)) (iz (iz [] x (p:Rat)) y (q:Rat)):=by
 have hok:∀c∈[l,m],iS f.nodes.length c:=fun c hc=>by
  simp only[List.mem_cons,List.not_mem_nil,or_false]at hc;rcases hc with rfl|rfl<;>assumption
 have hxl:=hx.len;have hyl:=hy.len;refine JA (p:=p) (q:=q) hx hy (fun j hj=>?_) (by rw[jM,hyl]) fun t ht=>?_
 ·rw[iB]at hj;have h:=HW (cs:=[l,m]) (fs:=[p,q]) hn hok j hj;have h:(gL f (ek (fI [l,m] [p,q] 2) 20)).getD j 0=((HV f.nodes.length [l,m] [p,q] j 2:Int):Rat):=h;rw[qh,qh,qh,h,CY,CY];have e:HV f.nodes.length [l,m] [p,q] j 2=p*(eC f.nodes.length l l.length).getD j 0+q*(eC f.nodes.length m m.length).getD j 0:=by
   show 0+p*(eC f.nodes.length l l.length).getD j 0+q*(eC f.nodes.length m m.length).getD j 0=_;omega
  rw[e,Rat.intCast_add,Rat.intCast_mul,Rat.intCast_mul];grind
 ·rw[HY (by rw[jM];omega) (by omega),getD_some (pT (xs:=[]) (b:=(p:Rat)) (show t<x.length by omega)),aF (by simp)]
set_option maxHeartbeats 2000000 in
set_option maxRecDepth 8000 in
theorem zS{w:World}{vn vb vs v vm:Value}{f:ED}{p q:Int}(hS:Old S w)(hF:pA w S vn vb vs f)(hl:dG w S v l)(hm:dG w S vm m):
  du PG N.lH #[.agg #[vn,vb,vs],.agg #[v,vm],.agg #[.int .i64 p,.int .i64 q]] w (eD w fun v' _=>v'= .bool true):=by
 have hw:cQ w.heap.size w w:=cQ.refl;obtain⟨an,cn,rfl,-,-⟩:=hF.nodes.shape;obtain⟨ab,cb,rfl,-,-⟩:=hF.bars.shape;obtain⟨aq,cq,rfl,-,-⟩:=hF.cS.shape;obtain⟨al,cl,rfl,-,-⟩:=hl.shape;obtain⟨am,cm,rfl,-,-⟩:=hm.shape;refine od (by simp) ?_;refine bu (cE hw (fun _ w' v w2=>∃d,v= .bool d∧(d=true->dY w S (.slice an f.nodes.length cn) (.slice ab f.bars.length cb) (.slice aq f.cS.length cq) f.val∧(∀b∈f.val.bars,rl b.2.2<=3)∧(∀b∈f.val.cS,rl b.2.2<=3)∧(eK f.val≠0∨f.val.nodes.length<=4∧f.val.bars.length<=6))) (fun O w' r=>GI hS hw r hF) ?_);rintro O wa1 v1 wb1 iv1 r he hw h_ ⟨d1,rfl,hz1⟩;clear r
 cases d1
 ·conv=>whnf
  refine bu (cE hw (fun _ w' v w2=>v= .bool true) (fun O w' r=>iH w') ?_);rintro O wa2 v2 wb2 iv2 r he hw h_ rfl;clear r;intro ρe we re;exact⟨_,rfl,hw.tr re.cI,rfl⟩
 have hz1:=hz1 rfl;refine⟨⟨by decide,by decide⟩,?_⟩;refine bu (cE hw (fun _ w' v w2=>∃d,v= .bool d) (fun O w' r=>Hz (hl.cB (kS hw r hS))) ?_);rintro O wa2 v2 wb2 iv2 r he hw h_ ⟨d2,rfl⟩;clear r
 cases d2
 ·conv=>whnf
  refine bu (cE hw (fun _ w' v w2=>v= .bool true) (fun O w' r=>iH w') ?_);rintro O wa3 v3 wb3 iv3 r he hw h_ rfl;clear r;intro ρe we re;exact⟨_,rfl,hw.tr re.cI,rfl⟩
 refine⟨⟨by decide,by decide⟩,?_⟩;refine bu (cE hw (fun _ w' v w2=>∃d,v= .bool d) (fun O w' r=>Hz (hm.cB (kS hw r hS))) ?_);rintro O wa3 v3 wb3 iv3 r he hw h_ ⟨d3,rfl⟩;clear r
 cases d3
 ·conv=>whnf
  refine bu (cE hw (fun _ w' v w2=>v= .bool true) (fun O w' r=>iH w') ?_);rintro O wa4 v4 wb4 iv4 r he hw h_ rfl;clear r;intro ρe we re;exact⟨_,rfl,hw.tr re.cI,rfl⟩
 obtain⟨hR,hrb,hrs,hsm⟩:=hz1;obtain⟨fv,hfv⟩:∃fv,f.val=fv:=⟨_,rfl⟩
 rw[hfv]at hR hrb hrs hsm;obtain⟨en,eb,es⟩:f.nodes.length=fv.nodes.length∧f.bars.length=fv.bars.length∧f.cS.length=fv.cS.length:=by rw[<-hfv];exact⟨rfl,(aL ..).symm,(aL ..).symm⟩
 rw[en,eb,es]at hR ⊢;clear hF hfv en eb es;have hsf:eK fv=0->tU fv:=IC hsm hrb hrs;obtain⟨e0,Ee0⟩:∃e,iG fv l=e:=⟨_,rfl⟩
 refine⟨⟨by decide,by decide⟩,?_⟩;refine bu (cE hw (fun _ w' v w2=>v= .int .i64 e0) (fun O w' r=>(sh (oS hS r) (hR.cB (kS hw r hS)) (hl.cB (kS hw r hS))).mono fun _ _ ⟨v2,e1,e2,e3⟩=>⟨v2,e1,e2,by rw[e3,Ee0]⟩) ?_);rintro O wa4 v4 wb4 iv4 r he hw h_ rfl;clear r;refine dH.mk (fun hd=>?_) (fun hd=>?_)
 ·conv=>whnf
  refine bu (cE hw (fun _ w' v w2=>v= .bool true) (fun O w' r=>iH w') ?_);rintro O wa5 v5 wb5 iv5 r he hw h_ rfl;clear r;intro ρe we re;exact⟨_,rfl,hw.tr re.cI,rfl⟩
 have he0:e0=0:=by simpa using hd
 rw[he0]at Ee0;clear hd;obtain⟨e1,Ee1⟩:∃e,iG fv m=e:=⟨_,rfl⟩
 refine⟨⟨by decide,by decide⟩,?_⟩;refine bu (cE hw (fun _ w' v w2=>v= .int .i64 e1) (fun O w' r=>(sh (oS hS r) (hR.cB (kS hw r hS)) (hm.cB (kS hw r hS))).mono fun _ _ ⟨v2,e1,e2,e3⟩=>⟨v2,e1,e2,by rw[e3,Ee1]⟩) ?_);rintro O wa5 v5 wb5 iv5 r he hw h_ rfl;clear r;refine dH.mk (fun hd=>?_) (fun hd=>?_)
 ·conv=>whnf
  refine bu (cE hw (fun _ w' v w2=>v= .bool true) (fun O w' r=>iH w') ?_);rintro O wa6 v6 wb6 iv6 r he hw h_ rfl;clear r;intro ρe we re;exact⟨_,rfl,hw.tr re.cI,rfl⟩
 have he1:e1=0:=by simpa using hd
 rw[he1]at Ee1;clear hd;obtain⟨herr,hld⟩:=j2 Ee0;obtain⟨-,hmd⟩:=j2 Ee1;have hfb:=hsf herr;have hfs:=hfb.toFrS;have hld:=s8 hld;have hmd:=s8 hmd;have hbl:=yj hld;have hbm:=yj hmd;have hn20:=hfs.n;have hc18:=hfs.I9;have hbll:(dC (gL fv l) (-1)).length=(cM fv).length:=by rw[dC,aL,lV,iB]
 have hbml:(dC (gL fv m) (-1)).length=(cM fv).length:=by rw[dC,aL,lV,iB]
 have hok:∀c∈[l,m],iS fv.nodes.length c:=fun c hc=>by
  simp only[List.mem_cons,List.not_mem_nil,or_false]at hc;rcases hc with rfl|rfl<;>assumption
 obtain⟨eg,hg0⟩:∃e,e=kr [l,m] [p,q]:=⟨_,rfl⟩
 have hgc:=Di (fs:=[p,q]) hn20 hok (by simp) rfl;rw[<-hg0]at hgc;refine⟨⟨by decide,by decide⟩,⟨by decide,by decide⟩,⟨by decide,by decide⟩,⟨by decide,by decide⟩,?_⟩;by_cases hge:eg=0
 ·rw[hge]at hgc;obtain⟨-,hpq,hin⟩:=hgc.resolve_left (by omega);have hg20:=Iz (fs:=[p,q]) hok hin;obtain⟨ga,hga⟩:∃ga,ek (fI [l,m] [p,q] [l,m].length) 20=ga:=⟨_,rfl⟩
  rw[hga]at hg20;have EG:iG fv ga=0:=by rw[iG,aF (by rw[herr];decide),Ev hg20]
  have hp:=hpq p (by simp);have hq:=hpq q (by simp)
  refine bu (cE hw (fun _ w' v w2=>∃vr,v= .tuple #[vr,.int .i64 0]∧dG w2 (Nf w' w2) vr ga) (fun O w' r=>(AW (S:=fun g=>S g∨g<w'.heap.size) (cs:=[l,m]) (fs:=[p,q]) (fun g hg=>hg.elim (oS hS r g) id) ⟨[.slice al l.length cl,.slice am m.length cm],(r.lj (id:=3) (sz:=1) (n:=2) rfl rfl (by decide) (by simp[Value.oneCell'];exact⟨rfl,rfl⟩)).cC fun g hg=>.inr (by subst hg;exact Rel.lt r (id:=3) rfl),rfl,fun i u x h1 h2=>by
   rcases i with _|_|i
   ·cases h1;cases h2;exact dG.cC (hl.cB (kS hw r hS)) fun g hg=>.inl hg
   ·cases h1;cases h2;exact dG.cC (hm.cB (kS hw r hS)) fun g hg=>.inl hg
   ·cases h2⟩ ((FG r (id:=4) (n:=2) (l:=[p,q]) rfl rfl (by decide)).cC fun g hg=>.inr (by subst hg;exact Rel.lt r (id:=4) rfl)) hg0).mono fun _ _ ⟨v2,e1,e2,e3⟩=>⟨v2,e1,e2,by rw[hga]at e3;exact e3.elim (fun h=>absurd hge h.1) fun h=>h.2⟩) ?_)
  rintro O wa6 v6 wb6 iv6 r he hw h_ ⟨vg,rfl,hn⟩;have hG:=dG.dB (S:=fun _=>False) hn r.bw (mN h_);clear r;clear hn;obtain⟨ag,cg,rfl,-,-⟩:=hG.shape;obtain⟨o1,ho1⟩:∃o,fU (cM fv) (dC (gL fv l) (-1)) fv.cols=o:=⟨_,rfl⟩
  obtain⟨o2,ho2⟩:∃o,fU (cM fv) (dC (gL fv m) (-1)) fv.cols=o:=⟨_,rfl⟩
  cases o1 with
  |none=>
   cases o2 with
   |none=>
    refine⟨⟨by decide,by decide⟩,?_⟩;refine bu (cE hw (fun _ w' v w2=>v= .tuple #[.slice none 0 0,.int .i64 17]) (fun O w' r=>(eu (oS hS r) (hR.cB (kS hw r hS)) (hl.cB (kS hw r hS)) hsf).mono fun _ _ ⟨v2,e1,e2,e3⟩=>⟨v2,e1,e2,e3.elim (fun h=>absurd Ee0 h.1) fun h=>h.2.elim (fun g=>g.2) fun⟨x,vx,g,_⟩=>by obtain⟨z,hz⟩:=j1 (fJ fv) (x:=fun t=>x.getD t 0) g.eq;rw[ho1]at hz;cases hz⟩) ?_);rintro O wa7 v7 wb7 iv7 r he hw h_ rfl;replace hG:=dG.bz hG r (bs w) he (mC h_);clear r;refine⟨⟨by decide,by decide⟩,?_⟩;refine bu (cE hw (fun _ w' v w2=>v= .tuple #[.slice none 0 0,.int .i64 17]) (fun O w' r=>(eu (oS hS r) (hR.cB (kS hw r hS)) (hm.cB (kS hw r hS)) hsf).mono fun _ _ ⟨v2,e1,e2,e3⟩=>⟨v2,e1,e2,e3.elim (fun h=>absurd Ee1 h.1) fun h=>h.2.elim (fun g=>g.2) fun⟨x,vx,g,_⟩=>by obtain⟨z,hz⟩:=j1 (fJ fv) (x:=fun t=>x.getD t 0) g.eq;rw[ho2]at hz;cases hz⟩) ?_);rintro O wa8 v8 wb8 iv8 r he hw h_ rfl;replace hG:=dG.bz hG r (bs w) he (mC h_);clear r;refine bu (cE hw (fun _ w' v w2=>∃a n c e,v= .tuple #[.slice a n c,.int .i64 e]) (fun O w' r=>(eu (S:=fun g=>S g∨Cf w iv8 g) (fun g hg=>hg.elim (oS hS r g) (Rel.old r (bs w) g)) (dY.cC (hR.cB (kS hw r hS)) fun g hg=>.inl hg) (dG.cC (dG.rel hG r (bs w)) fun g hg=>.inr hg) hsf).mono fun _ _ ⟨v2,e1,e2,e3⟩=>⟨v2,e1,e2,e3.elim (fun h=>⟨_,_,_,_,h.2⟩) fun h=>h.2.elim (fun g=>⟨_,_,_,_,g.2⟩) fun⟨x,vx,g,k1,k2⟩=>by obtain⟨a,c,rfl,_⟩:=dZ.shape k2;exact⟨_,_,_,_,k1⟩⟩) ?_);rintro O wa9 v9 wb9 iv9 r he hw h_ ⟨az,nz,cz,ez,rfl⟩;clear hG;clear r;refine bu (cE hw (fun _ w' v w2=>v= .bool true) (fun O w' r=>iH w') ?_);rintro O wa10 v10 wb10 iv10 r he hw h_ rfl;clear r;intro ρe we re;exact⟨_,rfl,hw.tr re.cI,rfl⟩
   |some x2=>
    obtain⟨c2,-,-,hy2⟩:=hfb.vD.force (fl:=cX fv) ho2;obtain⟨y2,hye⟩:∃y,jV (cN (cM fv) fv.cols) c2 x2 (cN (cM fv) fv.cols).length=y:=⟨_,rfl⟩
    rw[hye]at hy2;clear hye;have hy2r:=hfb.Es hbm hbml hy2;have hy2l:=hy2.len;refine⟨⟨by decide,by decide⟩,?_⟩;refine bu (cE hw (fun _ w' v w2=>v= .tuple #[.slice none 0 0,.int .i64 17]) (fun O w' r=>(eu (oS hS r) (hR.cB (kS hw r hS)) (hl.cB (kS hw r hS)) hsf).mono fun _ _ ⟨v2,e1,e2,e3⟩=>⟨v2,e1,e2,e3.elim (fun h=>absurd Ee0 h.1) fun h=>h.2.elim (fun g=>g.2) fun⟨x,vx,g,_⟩=>by obtain⟨z,hz⟩:=j1 (fJ fv) (x:=fun t=>x.getD t 0) g.eq;rw[ho1]at hz;cases hz⟩) ?_);rintro O wa7 v7 wb7 iv7 r he hw h_ rfl;replace hG:=dG.bz hG r (bs w) he (mC h_);clear r;refine⟨⟨by decide,by decide⟩,?_⟩;refine bu (cE hw (fun _ w' v w2=>∃vx,v= .tuple #[vx,.int .i64 0]∧cF w2 (Nf w' w2) vx y2) (fun O w' r=>(eu (oS hS r) (hR.cB (kS hw r hS)) (hm.cB (kS hw r hS)) hsf).mono fun _ _ ⟨v2,e1,e2,e3⟩=>⟨v2,e1,e2,e3.elim (fun h=>absurd Ee1 h.1) fun h=>h.2.elim (fun g=>by rw[ho2]at g;cases g.1) fun⟨x,vx,g,k1,k2⟩=>⟨vx,k1,hfb.vD.one g hy2▸k2⟩⟩) ?_);rintro O wa8 v8 wb8 iv8 r he hw h_ ⟨vhY2,rfl,hn⟩;replace hG:=dG.bz hG r (bs w) he (mC h_);have hY2:=cF.dB (S:=fun _=>False) hn r.bw (mN h_);clear r;clear hn;obtain⟨ahY2,chY2,rfl,-,-⟩:=dZ.shape hY2;refine bu (cE hw (fun _ w' v w2=>∃a n c e,v= .tuple #[.slice a n c,.int .i64 e]) (fun O w' r=>(eu (S:=fun g=>S g∨Cf w iv8 g) (fun g hg=>hg.elim (oS hS r g) (Rel.old r (bs w) g)) (dY.cC (hR.cB (kS hw r hS)) fun g hg=>.inl hg) (dG.cC (dG.rel hG r (bs w)) fun g hg=>.inr hg) hsf).mono fun _ _ ⟨v2,e1,e2,e3⟩=>⟨v2,e1,e2,e3.elim (fun h=>⟨_,_,_,_,h.2⟩) fun h=>h.2.elim (fun g=>⟨_,_,_,_,g.2⟩) fun⟨x,vx,g,k1,k2⟩=>by obtain⟨a,c,rfl,_⟩:=dZ.shape k2;exact⟨_,_,_,_,k1⟩⟩) ?_);rintro O wa9 v9 wb9 iv9 r he hw h_ ⟨az,nz,cz,ez,rfl⟩;clear hG;replace hY2:=cF.bz hY2 r (bs w) he (mC h_);clear r;refine bu (cE hw (fun _ w' v w2=>v= .bool true) (fun O w' r=>iH w') ?_);rintro O wa10 v10 wb10 iv10 r he hw h_ rfl;replace hY2:=cF.bz hY2 r (bs w) he (mC h_);clear r;intro ρe we re;exact⟨_,rfl,hw.tr re.cI,rfl⟩
  |some x1=>
   obtain⟨c1,-,-,hy1⟩:=hfb.vD.force (fl:=cX fv) ho1;obtain⟨y1,hye⟩:∃y,jV (cN (cM fv) fv.cols) c1 x1 (cN (cM fv) fv.cols).length=y:=⟨_,rfl⟩
   rw[hye]at hy1;clear hye;have hy1r:=hfb.Es hbl hbll hy1;have hy1l:=hy1.len
   cases o2 with
   |none=>
    refine⟨⟨by decide,by decide⟩,?_⟩;refine bu (cE hw (fun _ w' v w2=>∃vx,v= .tuple #[vx,.int .i64 0]∧cF w2 (Nf w' w2) vx y1) (fun O w' r=>(eu (oS hS r) (hR.cB (kS hw r hS)) (hl.cB (kS hw r hS)) hsf).mono fun _ _ ⟨v2,e1,e2,e3⟩=>⟨v2,e1,e2,e3.elim (fun h=>absurd Ee0 h.1) fun h=>h.2.elim (fun g=>by rw[ho1]at g;cases g.1) fun⟨x,vx,g,k1,k2⟩=>⟨vx,k1,hfb.vD.one g hy1▸k2⟩⟩) ?_);rintro O wa7 v7 wb7 iv7 r he hw h_ ⟨vhY1,rfl,hn⟩;replace hG:=dG.bz hG r (bs w) he (mC h_);have hY1:=cF.dB (S:=fun _=>False) hn r.bw (mN h_);clear r;clear hn;obtain⟨ahY1,chY1,rfl,-,-⟩:=dZ.shape hY1;refine⟨⟨by decide,by decide⟩,?_⟩;refine bu (cE hw (fun _ w' v w2=>v= .tuple #[.slice none 0 0,.int .i64 17]) (fun O w' r=>(eu (oS hS r) (hR.cB (kS hw r hS)) (hm.cB (kS hw r hS)) hsf).mono fun _ _ ⟨v2,e1,e2,e3⟩=>⟨v2,e1,e2,e3.elim (fun h=>absurd Ee1 h.1) fun h=>h.2.elim (fun g=>g.2) fun⟨x,vx,g,_⟩=>by obtain⟨z,hz⟩:=j1 (fJ fv) (x:=fun t=>x.getD t 0) g.eq;rw[ho2]at hz;cases hz⟩) ?_);rintro O wa8 v8 wb8 iv8 r he hw h_ rfl;replace hG:=dG.bz hG r (bs w) he (mC h_);replace hY1:=cF.bz hY1 r (bs w) he (mC h_);clear r;refine bu (cE hw (fun _ w' v w2=>∃a n c e,v= .tuple #[.slice a n c,.int .i64 e]) (fun O w' r=>(eu (S:=fun g=>S g∨Cf w iv8 g) (fun g hg=>hg.elim (oS hS r g) (Rel.old r (bs w) g)) (dY.cC (hR.cB (kS hw r hS)) fun g hg=>.inl hg) (dG.cC (dG.rel hG r (bs w)) fun g hg=>.inr hg) hsf).mono fun _ _ ⟨v2,e1,e2,e3⟩=>⟨v2,e1,e2,e3.elim (fun h=>⟨_,_,_,_,h.2⟩) fun h=>h.2.elim (fun g=>⟨_,_,_,_,g.2⟩) fun⟨x,vx,g,k1,k2⟩=>by obtain⟨a,c,rfl,_⟩:=dZ.shape k2;exact⟨_,_,_,_,k1⟩⟩) ?_);rintro O wa9 v9 wb9 iv9 r he hw h_ ⟨az,nz,cz,ez,rfl⟩;clear hG;replace hY1:=cF.bz hY1 r (bs w) he (mC h_);clear r;refine bu (cE hw (fun _ w' v w2=>v= .bool true) (fun O w' r=>iH w') ?_);rintro O wa10 v10 wb10 iv10 r he hw h_ rfl;replace hY1:=cF.bz hY1 r (bs w) he (mC h_);clear r;intro ρe we re;exact⟨_,rfl,hw.tr re.cI,rfl⟩
   |some x2=>
    obtain⟨c2,-,-,hy2⟩:=hfb.vD.force (fl:=cX fv) ho2;obtain⟨y2,hye⟩:∃y,jV (cN (cM fv) fv.cols) c2 x2 (cN (cM fv) fv.cols).length=y:=⟨_,rfl⟩
    rw[hye]at hy2;clear hye;have hy2r:=hfb.Es hbm hbml hy2;have hy2l:=hy2.len;have hz:=HX (p:=p) (q:=q) hn20 hld hmd hy1 hy2;have hga':ek (fI [l,m] [p,q] 2) 20=ga:=hga;rw[hga']at hz;have hpr:rl (p:Rat)<=2:=FI (by omega);have hqr:rl (q:Rat)<=2:=FI (by omega);have hs1:∀z∈iz [] y1 (p:Rat),rl z<=200:=fun z hz=>by
     rw[GP]at hz;obtain⟨a,ha,rfl⟩:=aS.1 hz;have:=hy1r a ha;have:=jL a (p:Rat);omega
    refine⟨⟨by decide,by decide⟩,?_⟩;refine bu (cE hw (fun _ w' v w2=>∃vx,v= .tuple #[vx,.int .i64 0]∧cF w2 (Nf w' w2) vx y1) (fun O w' r=>(eu (oS hS r) (hR.cB (kS hw r hS)) (hl.cB (kS hw r hS)) hsf).mono fun _ _ ⟨v2,e1,e2,e3⟩=>⟨v2,e1,e2,e3.elim (fun h=>absurd Ee0 h.1) fun h=>h.2.elim (fun g=>by rw[ho1]at g;cases g.1) fun⟨x,vx,g,k1,k2⟩=>⟨vx,k1,hfb.vD.one g hy1▸k2⟩⟩) ?_);rintro O wa7 v7 wb7 iv7 r he hw h_ ⟨vhY1,rfl,hn⟩;replace hG:=dG.bz hG r (bs w) he (mC h_);have hY1:=cF.dB (S:=fun _=>False) hn r.bw (mN h_);clear r;clear hn;obtain⟨ahY1,chY1,rfl,-,-⟩:=dZ.shape hY1;refine⟨⟨by decide,by decide⟩,?_⟩;refine bu (cE hw (fun _ w' v w2=>∃vx,v= .tuple #[vx,.int .i64 0]∧cF w2 (Nf w' w2) vx y2) (fun O w' r=>(eu (oS hS r) (hR.cB (kS hw r hS)) (hm.cB (kS hw r hS)) hsf).mono fun _ _ ⟨v2,e1,e2,e3⟩=>⟨v2,e1,e2,e3.elim (fun h=>absurd Ee1 h.1) fun h=>h.2.elim (fun g=>by rw[ho2]at g;cases g.1) fun⟨x,vx,g,k1,k2⟩=>⟨vx,k1,hfb.vD.one g hy2▸k2⟩⟩) ?_);rintro O wa8 v8 wb8 iv8 r he hw h_ ⟨vhY2,rfl,hn⟩;replace hG:=dG.bz hG r (bs w) he (mC h_);replace hY1:=cF.bz hY1 r (bs w) he (mC h_);have hY2:=cF.dB (S:=fun _=>False) hn r.bw (mN h_);clear r;clear hn;obtain⟨ahY2,chY2,rfl,-,-⟩:=dZ.shape hY2;refine bu (cE hw (fun _ w' v w2=>∃vx,v= .tuple #[vx,.int .i64 0]∧cF w2 (Nf w' w2) vx (iz (iz [] y1 (p:Rat)) y2 (q:Rat))) (fun O w' r=>(eu (S:=fun g=>S g∨Cf w iv8 g) (fun g hg=>hg.elim (oS hS r g) (Rel.old r (bs w) g)) (dY.cC (hR.cB (kS hw r hS)) fun g hg=>.inl hg) (dG.cC (dG.rel hG r (bs w)) fun g hg=>.inr hg) hsf).mono fun _ _ ⟨v2,e1,e2,e3⟩=>⟨v2,e1,e2,e3.elim (fun h=>absurd EG h.1) fun h=>h.2.elim (fun g=>by obtain⟨z,hz2⟩:=j1 (fJ fv) (x:=fun t=>(iz (iz [] y1 (p:Rat)) y2 (q:Rat)).getD t 0) hz.eq;rw[g.1]at hz2;cases hz2) fun⟨x,vx,g,k1,k2⟩=>⟨vx,k1,hfb.vD.one g hz▸k2⟩⟩) ?_);rintro O wa9 v9 wb9 iv9 r he hw h_ ⟨vZ,rfl,hn⟩;clear hG;replace hY1:=cF.bz hY1 r (bs w) he (mC h_);replace hY2:=cF.bz hY2 r (bs w) he (mC h_);have hZ:=cF.dB (S:=fun _=>False) hn r.bw (mN h_);clear r;clear hn;obtain⟨aZ,cZ,rfl,-,-⟩:=dZ.shape hZ;refine bu (cE hw (fun _ w' v w2=>v= .int .i64 fv.cols) (fun O w' r=>Cr (hR.cB (kS hw r hS)) ⟨hfs.b,hfs.s⟩) ?_);rintro O wa10 v10 wb10 iv10 r he hw h_ rfl;replace hY1:=cF.bz hY1 r (bs w) he (mC h_);replace hY2:=cF.bz hY2 r (bs w) he (mC h_);replace hZ:=cF.bz hZ r (bs w) he (mC h_);clear r;refine dH.mk (fun hd=>absurd (show (y1.length:Int)=(fv.cols:Int) by omega) (by simpa using hd)) (fun _=>?_);refine dH.mk (fun hd=>absurd (show (y2.length:Int)=(y1.length:Int) by omega) (by simpa using hd)) (fun _=>?_);refine cD hτ df [.x 0,.x 1,.x 2,.x 3,.x 6,.x 7,.x 8,.x 4,.x 5,.x 9,.x 10,.x 11,.x 12,.x 13,.x 14,.x 15] (by kernel_rfl) (by kernel_rfl) ?_;refine⟨⟨by decide,by decide⟩,⟨by decide,by decide⟩,?_⟩;refine cE hw (fun _ w' v w2=>cP w2 (Nf w' w2) v (p:Rat)) (fun O w' r=>oz p w' (by omega)) ?_;rintro O wa11 v11 wb11 iv11 r he hw h_ hn;replace hY1:=cF.bz hY1 r (bs w) he (mC h_);replace hY2:=cF.bz hY2 r (bs w) he (mC h_);replace hZ:=cF.bz hZ r (bs w) he (mC h_);have hp1:=hn.dB (S:=fun _=>False) r.bw (mN h_);clear r;obtain⟨s11_0,s11_1,s11_2,s11_3,s11_4,s11_5,s11_6,s11_7,rfl⟩:=hp1.shape;refine cE hw (fun _ w' v w2=>cF w2 (Nf w' w2) v (iz [] y1 (p:Rat))) (fun O w' r=>FM (S:=Cf w iv11) (xs:=[]) (Rel.old r (bs w)) (cF.l cF.LW (fun q hq=>by cases hq)) (cF.l (cF.rel hY1 r (bs w)) fun q hq=>by have:=hy1r q hq;omega) ((hp1.rel r (bs w)).l (by omega)) (.inl rfl) (by omega) (fun z hz=>by have:=hy1r z hz;omega)) ?_;rintro O wa12 v12 wb12 iv12 r he hw h_ hn;clear hY1;replace hY2:=cF.bz hY2 r (bs w) he (mC h_);replace hZ:=cF.bz hZ r (bs w) he (mC h_);clear hp1;have hs:=cF.dB (S:=fun _=>False) hn r.bw (mN h_);clear r;clear hn;obtain⟨as_,cs_,rfl,-,-⟩:=dZ.shape hs;refine cE hw (fun _ w' v w2=>cP w2 (Nf w' w2) v (q:Rat)) (fun O w' r=>oz q w' (by omega)) ?_;rintro O wa13 v13 wb13 iv13 r he hw h_ hn;replace hY2:=cF.bz hY2 r (bs w) he (mC h_);replace hZ:=cF.bz hZ r (bs w) he (mC h_);replace hs:=cF.bz hs r (bs w) he (mC h_);have hq1:=hn.dB (S:=fun _=>False) r.bw (mN h_);clear r;obtain⟨s13_0,s13_1,s13_2,s13_3,s13_4,s13_5,s13_6,s13_7,rfl⟩:=hq1.shape;refine cE hw (fun _ w' v w2=>cF w2 (Nf w' w2) v (iz (iz [] y1 (p:Rat)) y2 (q:Rat))) (fun O w' r=>FM (S:=Cf w iv13) (Rel.old r (bs w)) (cF.l (cF.rel hs r (bs w)) fun q hq=>by have:=hs1 q hq;omega) (cF.l (cF.rel hY2 r (bs w)) fun q hq=>by have:=hy2r q hq;omega) ((hq1.rel r (bs w)).l (by omega)) (.inr (by rw[jM];omega)) (by omega) (fun z hz=>by have:=hy2r z hz;omega)) ?_;rintro O wa14 v14 wb14 iv14 r he hw h_ hn;clear hY2;replace hZ:=cF.bz hZ r (bs w) he (mC h_);clear hs;clear hq1;have ht:=cF.dB (S:=fun _=>False) hn r.bw (mN h_);clear r;clear hn;obtain⟨at_,ct,rfl,-,-⟩:=dZ.shape ht;refine cE hw (fun _ w' v w2=>v= .bool true) (fun O w' r=>(rE (S:=Cf w iv14) (Rel.old r (bs w)) (cF.rel hZ r (bs w)) (cF.rel ht r (bs w))).mono fun _ _ ⟨v2,e1,e2,e3⟩=>⟨v2,e1,e2,by rw[e3];exact congrArg _ (bR rfl)⟩) ?_;rintro O wa15 v15 wb15 iv15 r he hw h_ rfl;replace hZ:=cF.bz hZ r (bs w) he (mC h_);replace ht:=cF.bz ht r (bs w) he (mC h_);clear r;refine cE hw (fun _ w' v w2=>v= .bool true) (fun O w' r=>iH w') ?_;rintro O wa16 v16 wb16 iv16 r he hw h_ rfl;replace hZ:=cF.bz hZ r (bs w) he (mC h_);replace ht:=cF.bz ht r (bs w) he (mC h_);clear r;intro ρe we re;exact⟨_,rfl,hw.tr re.cI,rfl⟩
 have hg28:=hgc.resolve_right fun h=>hge h.1
 refine bu (cE hw (fun _ w' v w2=>v= .tuple #[.slice none 0 0,.int .i64 eg]) (fun O w' r=>(AW (S:=fun g=>S g∨g<w'.heap.size) (cs:=[l,m]) (fs:=[p,q]) (fun g hg=>hg.elim (oS hS r g) id) ⟨[.slice al l.length cl,.slice am m.length cm],(r.lj (id:=3) (sz:=1) (n:=2) rfl rfl (by decide) (by simp[Value.oneCell'];exact⟨rfl,rfl⟩)).cC fun g hg=>.inr (by subst hg;exact Rel.lt r (id:=3) rfl),rfl,fun i u x h1 h2=>by
  rcases i with _|_|i
  ·cases h1;cases h2;exact dG.cC (hl.cB (kS hw r hS)) fun g hg=>.inl hg
  ·cases h1;cases h2;exact dG.cC (hm.cB (kS hw r hS)) fun g hg=>.inl hg
  ·cases h2⟩ ((FG r (id:=4) (n:=2) (l:=[p,q]) rfl rfl (by decide)).cC fun g hg=>.inr (by subst hg;exact Rel.lt r (id:=4) rfl)) hg0).mono fun _ _ ⟨v2,e1,e2,e3⟩=>⟨v2,e1,e2,e3.elim (fun h=>h.2) fun h=>absurd h.1 hge⟩) ?_)
 rintro O wa6 v6 wb6 iv6 r he hw h_ rfl;clear r;refine dH.mk (fun _=>?_) (fun hd=>absurd (by simpa using hd) hge);rcases hg28 with rfl|rfl
 ·conv=>whnf
  refine bu (cE hw (fun _ w' v w2=>v= .bool true) (fun O w' r=>iH w') ?_);rintro O wa7 v7 wb7 iv7 r he hw h_ rfl;clear r;intro ρe we re;exact⟨_,rfl,hw.tr re.cI,rfl⟩
 ·conv=>whnf
  refine bu (cE hw (fun _ w' v w2=>v= .bool true) (fun O w' r=>iH w') ?_);rintro O wa7 v7 wb7 iv7 r he hw h_ rfl;clear r;intro ρe we re;exact⟨_,rfl,hw.tr re.cI,rfl⟩
end Go.Ex
