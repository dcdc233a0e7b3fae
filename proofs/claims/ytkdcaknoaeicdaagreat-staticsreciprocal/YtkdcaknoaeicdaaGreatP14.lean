/- A part of the proof: texts X193 to X205. Each tells its conditions in its theorems. -/
import Derived.Test.YtkdcaknoaeicdaaGreatP12
import Derived.Test.YtkdcaknoaeicdaaGreatP13
namespace Go.Ex
open Go Go.Sx Go.Proofs
end Go.Ex
namespace Go.Sx
open Go Go.Ex Go.Proofs
variable{cs:List Value}{T:Nat->Prop}{O:Nat->Sx.dS}
theorem Rel.BM{H:Hp}{nx:Nat}{iv:Iv}{B:Nat}{w w':World}(r:Rel H nx iv B w O w'){id t m sz:Nat}(h:cX H id=some (.vec t sz cs))(hm:cs.length=m*sz)(hm1:m<=maxLen)(hs:0<sz)(h1:∀u∈cs,u.oneCell'=true)(hT:(O id).nil=false->T (O id).g):
  jH w' T sz ((At.w id m).den O) cs m:=by
 rcases r.fits h with⟨hn,rfl⟩|⟨hn,spare,h2,h3,h4⟩
 ·have hm0:m=0:=by
   rcases bH m with h|h
   ·exact h
   ·have:=Nat.mul_pos h hs;simp at hm;omega
  subst hm0;have hden:(At.w id 0).den O= .slice none 0 0:=by simp[At.den,hn]
  rw[hden];exact⟨aP _,by simp,by simp,none,0,rfl,aE _,fun j u h=>by cases h⟩
 ·have hden:(At.w id m).den O= .slice (some ⟨(O id).g,0,none⟩) m (O id).cap:=by simp[At.den,hn]
  rw[hden];refine⟨hm1,hm,h1,_,_,rfl,?_,fun j u hu=>⟨_,rfl,hT hn,?_⟩⟩
  ·rw[List.length_append,hm]at h3;exact Nat.le_of_mul_le_mul_right (show m*sz<=(O id).cap*sz by omega) hs
  ·rw[dH,cell_of h2,aS,aK (aC.1 hu).1];exact hu
end Go.Sx
namespace Go.Ex
open Go Go.Sx Go.Proofs
variable{p:List Rat}{g:Nat}{S T:Nat->Prop}
section
variable{S:Nat->Prop}{H:Hp}{nx:Nat}{iv iv':Iv}{B n:Nat}{w w' w2:World}{O:Nat->Sx.dS}{v:Value}{qs:List Rat}
theorem Bs.fresh(r:Rel H nx iv B w O w')(hx:∀g,v.ownBlock=some g->g<w'.heap.size)(hg:Nf w' w2 g):Bs S B ((w'.heap.size,w2.heap.size)::iv) v g:=by
 rcases hg with hg|hg
 ·exact hg.elim
 ·exact⟨.inr ⟨by have:=r.bu;omega,_,_,aH,hg.1,hg.2⟩,fun e=>by have:=hx g e;omega⟩
theorem Bs.solved(r:Rel H nx iv B w O w')(hx:∀g,v.ownBlock=some g->g<w'.heap.size)(hT:∀g,T g->Bs S B iv v g)(hg:Cv T w'.heap.size [(w'.heap.size,w2.heap.size)] g):Bs S B ((w'.heap.size,w2.heap.size)::iv) v g:=by
 rcases hg with hg|⟨h1,lo,hi,h2,h3,h4⟩
 ·exact Bs.mono (fun p hp=>aB _ hp) (hT g hg)
 ·simp at h2;obtain⟨rfl,rfl⟩:=h2;exact Bs.fresh r hx (.inr ⟨h3,h4⟩)
end
section
variable{S:Nat->Prop}{H:Hp}{nx:Nat}{iv iv':Iv}{B:Nat}{w w' w2:World}{O:Nat->Sx.dS}{v v0:Value}{q:Rat}
theorem ke.rel(h:cM w (Bs S B iv v) v0 q)(r:Rel H nx iv B w O w')(hS:∀g,S g->g<B):cM w' (Bs S B iv v) v0 q:=cM.cB h (Bs.same r hS)
theorem ke.fresh(h:cM w2 (Nf w' w2) v0 q)(r:Rel H nx iv B w O w')(hx:∀g,v.ownBlock=some g->g<w'.heap.size):cM w2 (Bs S B ((w'.heap.size,w2.heap.size)::iv) v) v0 q:=cM.cC h fun _ hg=>Bs.fresh r hx hg
theorem ke.cv(h:cM w (Bs S B iv v) v0 q):cM w (Cv S B iv) v0 q:=cM.cC h fun _ hg=>hg.1
end
section
variable{S:Nat->Prop}{H:Hp}{nx:Nat}{iv iv':Iv}{B:Nat}{w w' w2:World}{O:Nat->Sx.dS}{v v0:Value}{K:List (List Rat)}
theorem fS.rel(h:cO w (Bs S B iv v) v0 K)(r:Rel H nx iv B w O w')(hS:∀g,S g->g<B):cO w' (Bs S B iv v) v0 K:=cO.cB h (Bs.same r hS)
theorem fS.bz(h:cO w (Bs S B iv v) v0 K)(r:Rel H nx iv B w O w')(hS:∀g,S g->g<B)(he:Ext w' w2)(hm:∀p,p∈iv->p∈iv'):cO w2 (Bs S B iv' v) v0 K:=
 cO.cC (cO.cB (fS.rel h r hS) fun g hg=>he.block g (Rel.old r hS g hg.1)) fun _ hg=>Bs.mono hm hg
theorem fS.fresh(h:cO w2 (Nf w' w2) v0 K)(r:Rel H nx iv B w O w')(hx:∀g,v.ownBlock=some g->g<w'.heap.size):cO w2 (Bs S B ((w'.heap.size,w2.heap.size)::iv) v) v0 K:=cO.cC h fun _ hg=>Bs.fresh r hx hg
theorem fS.kept(h:cO w (Bs S B iv v) v0 K)(r:Rel H nx iv B w O w')(hS:∀g,S g->g<B)(hg:w'.grownBy w2 v.ownBlock):cO w2 (Bs S B iv v) v0 K:=cO.cB h (Bs.kept r hS hg fun _ e=>e)
end
section
variable{S:Nat->Prop}{H:Hp}{nx:Nat}{iv iv':Iv}{B:Nat}{w w' w2:World}{O:Nat->Sx.dS}{v v0:Value}{xs:List Rat}
theorem eH.rel(h:cD w (Bs S B iv v) v0 xs)(r:Rel H nx iv B w O w')(hS:∀g,S g->g<B):cD w' (Bs S B iv v) v0 xs:=cD.cB h (Bs.same r hS)
theorem eH.bz(h:cD w (Bs S B iv v) v0 xs)(r:Rel H nx iv B w O w')(hS:∀g,S g->g<B)(he:Ext w' w2)(hm:∀p,p∈iv->p∈iv'):cD w2 (Bs S B iv' v) v0 xs:=
 cD.cC (cD.cB (eH.rel h r hS) fun g hg=>he.block g (Rel.old r hS g hg.1)) fun _ hg=>Bs.mono hm hg
theorem eH.fresh(h:cD w2 (Nf w' w2) v0 xs)(r:Rel H nx iv B w O w')(hx:∀g,v.ownBlock=some g->g<w'.heap.size):cD w2 (Bs S B ((w'.heap.size,w2.heap.size)::iv) v) v0 xs:=cD.cC h fun _ hg=>Bs.fresh r hx hg
theorem eH.cv(h:cD w (Bs S B iv v) v0 xs):cD w (Cv S B iv) v0 xs:=cD.cC h fun _ hg=>hg.1
theorem eH.kept(h:cD w (Bs S B iv v) v0 xs)(r:Rel H nx iv B w O w')(hS:∀g,S g->g<B)(hg:w'.grownBy w2 v.ownBlock):cD w2 (Bs S B iv v) v0 xs:=cD.cB h (Bs.kept r hS hg fun _ e=>e)
end
section
variable{S:Nat->Prop}{H:Hp}{nx:Nat}{iv iv':Iv}{B:Nat}{w w' w2:World}{O:Nat->Sx.dS}{v v0:Value}{rv:List Value}{K:List (List Rat)}
theorem l5.rel(h:dT w (Bs S B iv v) rv K)(r:Rel H nx iv B w O w')(hS:∀g,S g->g<B):dT w' (Bs S B iv v) rv K:=dT.cB h (Bs.same r hS)
theorem l5.bz(h:dT w (Bs S B iv v) rv K)(r:Rel H nx iv B w O w')(hS:∀g,S g->g<B)(he:Ext w' w2)(hm:∀p,p∈iv->p∈iv'):dT w2 (Bs S B iv' v) rv K:=
 dT.cC (dT.cB (l5.rel h r hS) fun g hg=>he.block g (Rel.old r hS g hg.1)) fun _ hg=>Bs.mono hm hg
end
section
variable{S:Nat->Prop}{H:Hp}{nx:Nat}{iv iv':Iv}{B:Nat}{w w' w2:World}{O:Nat->Sx.dS}{v v0:Value}{css:List (List Value)}{xs:List Rat}
theorem jE.rel(h:eP w (Bs S B iv v) css xs)(r:Rel H nx iv B w O w')(hS:∀g,S g->g<B):eP w' (Bs S B iv v) css xs:=eP.cB h (Bs.same r hS)
theorem jE.bz(h:eP w (Bs S B iv v) css xs)(r:Rel H nx iv B w O w')(hS:∀g,S g->g<B)(he:Ext w' w2)(hm:∀p,p∈iv->p∈iv'):eP w2 (Bs S B iv' v) css xs:=
 eP.cC (eP.cB (jE.rel h r hS) fun g hg=>he.block g (Rel.old r hS g hg.1)) fun _ hg=>Bs.mono hm hg
end
theorem Cc{st:List (List Rat)}{c x:List Rat}{a b:Nat}(hx:∀q∈x,rl q<=a)(hs:∀r∈st,∀q∈r,rl q<=b)(hc:∀q∈c,rl q<=b):∀i,∀q∈kO st c x i,rl q<=a+i*(2*b+5)
 |0,q,hq=>by have:=hx q hq;omega
 |i+1,q,hq=>by
  rw[kO]at hq;obtain⟨k,hk⟩:=aT hq;rw[List.getElem?_mapIdx]at hk;obtain⟨p,hp,rfl⟩:=Option.map_eq_some_iff.1 hk;have h1:=Cc hx hs hc i p (aD hp);have h0:rl 0<=2:=by decide
  have h2:rl (c.getD i 0)<=b+2:=by
   rcases aO i c.length with h|h
   ·rw[getD_some (aA h)];have:=hc _ (aX h);omega
   ·rw[iL h];omega
  have h3:rl ((st.getD i []).getD k 0)<=b+2:=by
   rcases aO i st.length with h|h
   ·rw[getD_some (d:=[]) (aA h)];rcases aO k (st[i]).length with h4|h4
    ·rw[getD_some (aA h4)];have:=hs _ (aX h) _ (aX h4);omega
    ·rw[iL h4];omega
   ·rw[show st.getD i []=[] by rw[List.getD,List.getElem?_eq_none h];rfl];exact ai h0 (Nat.le_add_left _ _)
  have h4:=ml p (c.getD i 0*(st.getD i []).getD k 0);have h5:=iW (c.getD i 0) ((st.getD i []).getD k 0);rw[Nat.add_mul];omega
set_option maxHeartbeats 2000000 in
set_option maxRecDepth 8000 in
theorem AH{w:World}{vn vb vs u:Value}{f:ei}(hS:Old S w)(hf:dU w S vn vb vs f)(herr:dx f=0)(hfb:p9 f)(hp:cD w S u p)(hpl:p.length=3*f.nodes.length)(hpq:∀q∈p,rl q<=100000)(hb:Bl (cU p (-1))):
  di PG N.oK #[.agg #[vn,vb,vs],u] w (dw w fun v' w2=>(eU (cK f) (cU p (-1)) f.cols=none∧v'= .tuple #[.slice none 0 0,.bool false])∨∃x vx,iG (cK f) f.cols (fun t=>(cP f).getD t 0) (cU p (-1)) x∧v'= .tuple #[vx,.bool true]∧cD w2 (Nf w w2) vx x):=by
 have hw:cR w.heap.size w w:=cR.refl;obtain⟨an,cn,ab,cb,aq,cq,rfl,rfl,rfl,hmn,hmb,hms⟩:=hf.shape;have hok:=pE herr;have hlen:=fc f;have htl:=gl f;have hc18:=hfb.Gr;have hr12:=hfb.IS;have hfl:=kB f;have hcols:f.cols=f.bars.length+f.cS.length:=rfl;obtain⟨ap,cp,rfl,hcp,hmp⟩:=dY.shape hp;have hbl:(cU p (-1)).length=(cK f).length:=by rw[cU,aL,htl];exact hpl
 have hw0:=hfb.Eb hb;have hz0:=hfb.Gs (b:=cU p (-1));refine sE (by simp) ?_;refine bw (cE hw (fun _ w' v w2=>(∃vr,v= .agg #[vr,.int .i64 f.cols]∧cO w2 (Nf w' w2) vr (cK f))∧fZ f.cols (cK f)∧Ht (cK f) 2) (fun O w' r=>qj (S:=S) (oS hS r) (hf.cB (kS hw r hS)) hok) ?_);rintro O wa1 v1 wb1 iv1 r he hw h_ ⟨⟨vr,rfl,k1⟩,-,-⟩;have hM:=cO.cd (S:=fun _=>False) k1 r.bu (mN h_);clear r;obtain⟨am,cm,rfl,hcm,hmm⟩:=e8.shape hM;refine cF hτ dc [.x 0,.x 1,.x 2,.x 3,.x 4,.x 5,.x 6,.x 7,.x 8,.x 9] (by kernel_rfl) (by kernel_rfl) ?_;refine cE hw (fun _ w' v w2=>cM w2 (Nf w' w2) v ((-1:Int):Rat)) (fun O w' r=>j5 (-1) w' (by decide) (by decide)) ?_;rintro O wa2 v2 wb2 iv2 r he hw h_ hn;replace hM:=cO.bz hM r (bs w) he (mC h_);have hd:=hn.cd (S:=fun _=>False) r.bu (mN h_);clear r;obtain⟨s2_0,s2_1,s2_2,s2_3,s2_4,s2_5,s2_6,s2_7,rfl⟩:=hd.shape;refine cE hw (fun _ w' v w2=>dh w2 (fun _=>False) w'.heap.size [(w'.heap.size,w2.heap.size)] v p.length (cU p (-1))) (fun O w' r=>zu (S:=Cv S w.heap.size iv2) (Rel.old r hS) (dX.cC (cD.l (cD.cB hp (kS hw r hS)) fun q hq=>by have:=hpq q hq;omega) fun g hg=>.inl hg) (((hd.rel r (bs w)).l (by decide)).cC fun g hg=>Hy hg) (by omega)) ?_;rintro O wa3 v3 wb3 iv3 r he hw h_ hn;replace hM:=cO.bz hM r (bs w) he (mC h_);clear hd;have hB:=hn.cd (S:=fun _=>False) r.bu (mN h_);clear r;clear hn;obtain⟨a3,c3,rfl,hc3⟩:=hB.row.form;refine cG (Φ:=fun _ w' v w2=>(eU (cK f) (cU p (-1)) f.cols=none∧v= .tuple #[.slice none 0 0,.bool false])∨∃x vx,eU (cK f) (cU p (-1)) f.cols=some x∧v= .tuple #[vx,.bool true]∧dh w2 (Cf w iv3) w'.heap.size [(w'.heap.size,w2.heap.size)] vx f.cols x) (fun O w' r=>tD (M:=cK f) (b:=cU p (-1)) hlen hw0▸C3 (C:=Cf w iv3) (S:=Cf w iv3) (h:=30) (Rel.old r (bs w)) (Rel.old r (bs w)) (cO.rel hM r (bs w)) ((hB.rel r (bs w)).c) hbl hlen (by omega) (by omega) (mJ (gi hlen) hw0 lW (by rw[rP]at *;omega)) (by decide)) ?_;rintro O wa4 v4 wb4 r he hb (⟨hno,rfl⟩|⟨x0,vx,hx0,rfl,k2⟩)
 ·replace hw:=hw.tr hb;clear r he hb;intro ρe we re;exact⟨_,rfl,hw.tr re.cI,.inl ⟨hno,rfl⟩⟩
 replace hw:=hw.tr hb;replace hM:=cO.bz (iv':=(wa4.heap.size,wb4.heap.size)::iv3) hM r (bs w) he fun x hx=>aB _ hx;have hX:=k2.KN r.bu;clear r he hb k2 hB;generalize (wa4.heap.size,wb4.heap.size)::iv3=iv4 at*
 obtain⟨ax,cx,rfl,hcx⟩:=hX.row.form;obtain⟨hx0l,-⟩:=gk hlen hx0;have hx0D:=hfb.KG hb hx0;have hx0r:∀q∈x0,rl q<=26:=fun q hq=>by
  obtain⟨D,hD⟩:=hx0D;have h1:=hD.rl q hq;have h2:ln (wt 25)<=26:=fb.2 (GS (by decide));omega
 have hw1:=hfb.Gt hx0D;have hz1:=hfb.Ec (b:=fq (cN (cK f) f.cols) (cP f) x0);obtain⟨c,hc,hcl,hfrc⟩:=hfb.CJ.force (fl:=cP f) hx0;have hcr:=hfb.J9 hx0D hc;have hKr:∀r∈cN (cK f) f.cols,∀q∈r,rl q<=14:=fun r hr q hq=>by
  obtain⟨D,hD⟩:=hfb.Kt;have h1:=hD.rl r hr q hq;have h2:ln (wt 13)<=14:=fb.2 (GS (by decide));omega
 have hKl:=mg (cK f) f.cols;have hK18:=hfb.Iz;have hSl:=mh (cN (cK f) f.cols) (cP f);have hfx:=hfb.fx;have hsolve:=tD (M:=eD (cN (cK f) f.cols) (cP f)) (b:=fq (cN (cK f) f.cols) (cP f) x0) hSl hw1;rw[hc]at hsolve;have hredB:=mJ (M:=dP (eD (cN (cK f) f.cols) (cP f)) (fq (cN (cK f) f.cols) (cP f) x0)) (h:=1930) (gi hSl) hw1 lW (by omega);refine cF hτ dc [.x 0,.x 2,.x 1,.x 3,.x 4,.x 5] (by kernel_rfl) (by kernel_rfl) ?_;refine cG (Φ:=fun _ w' v w2=>cO w2 (Nf w' w2) v (cN (cK f) f.cols)) (fun O w' r=>DR (M:=cK f) (n:=f.cols) hlen hfb.ky▸Dt (C:=Cf w iv4) (S:=Cf w iv4) (h:=20) (Rel.old r (bs w)) (Rel.old r (bs w)) (cO.rel hM r (bs w)) hlen (by omega) (by omega) (mJ hlen hfb.ky (by decide) (by have:=hfb.size;omega)) (Du hlen hfb.ky (by decide) (by have:=hfb.size;omega)) (by decide)) ?_;rintro O wa5 v5 wb5 r he hb1 hn;replace hw:=hw.tr hb1;have hxo:∀g,(Value.slice ax f.cols cx).ownBlock=some g->g<wa5.heap.size:=fun g e=>Rel.old r (bs w) g (hX.new g e);clear hM;replace hX:=hX.bz (iv':=(wa5.heap.size,wb5.heap.size)::iv4) r (bs w) he fun x hx=>aB _ hx;have hK:=fS.fresh (S:=fun _=>False) (v:=(.slice ax f.cols cx)) hn r hxo;clear r he hb1 hxo hn;generalize (wa5.heap.size,wb5.heap.size)::iv4=iv5 at*
 obtain⟨ak,ck,rfl,hck,hmk⟩:=e8.shape hK;refine cG (Φ:=fun _ w' v w2=>dX w2 (Nw S w' w2) v (cP f)) (fun O w' r=>tp (S:=S) (oS hS r) (hf.cB (kS hw r hS)) hok) ?_;rintro O wa6 v6 wb6 r he hb1 hn;replace hw:=hw.tr hb1;have hxo:∀g,(Value.slice ax f.cols cx).ownBlock=some g->g<wa6.heap.size:=fun g e=>Rel.old r (bs w) g (hX.new g e);replace hX:=hX.bz (iv':=(wa6.heap.size,wb6.heap.size)::iv5) r (bs w) he fun x hx=>aB _ hx;replace hK:=fS.bz (iv':=(wa6.heap.size,wb6.heap.size)::iv5) hK r (bs w) he fun x hx=>aB _ hx;have hL:=dX.cC (S':=Cv S w.heap.size ((wa6.heap.size,wb6.heap.size)::iv5)) hn fun g hg=>hg.elim .inl fun h=>.inr ⟨by have:=r.bu;omega,_,_,aH,h.1,h.2⟩;clear r he hb1 hxo hn;generalize (wa6.heap.size,wb6.heap.size)::iv5=iv6 at*
 obtain⟨al,cl,rfl,hcl2,hml⟩:=dY.shape hL;rw[hfl]
 refine⟨Nat×List Value×List (List Value)×World×Iv,fun z=>⟨[(7,.o (.v (.slice ax f.cols cx))),(9,.o (.v (.slice ak (cN (cK f) f.cols).length ck))),(10,.o (.v (.slice al f.cols cl))),(11,.o (.p 2 0)),(43,.o (.v (.slice ak (cN (cK f) f.cols).length ck))),(44,.o (.v (.int .i64 (cN (cK f) f.cols).length))),(12,.o (.w 4 z.2.2.1.length)),(45,.o (.v (.int .i64 ((z.1:Nat):Int))))],[(2,.box T.dM [.w 3 z.2.1.length,.v (.int .i64 (cN (cK f) f.cols).length)]),(3,.vec T.iw 1 z.2.1),(4,.vec T.Rat 4 z.2.2.1.flatten)],5,z.2.2.2.2,z.2.2.2.1⟩,fun z=>(cN (cK f) f.cols).length-z.1,
  fun z=>z.1<=(cN (cK f) f.cols).length∧cR w.heap.size w z.2.2.2.1∧dh z.2.2.2.1 (fun _=>False) w.heap.size z.2.2.2.2 (.slice ax f.cols cx) f.cols x0∧cO z.2.2.2.1 (Bs (fun _=>False) w.heap.size z.2.2.2.2 (.slice ax f.cols cx)) (.slice ak (cN (cK f) f.cols).length ck) (cN (cK f) f.cols)∧dX z.2.2.2.1 (Cv S w.heap.size z.2.2.2.2) (.slice al f.cols cl) (cP f)∧dT z.2.2.2.1 (Bs (fun _=>False) w.heap.size z.2.2.2.2 (.slice ax f.cols cx)) z.2.1 ((eD (cN (cK f) f.cols) (cP f)).take z.1)∧eP z.2.2.2.1 (Bs (fun _=>False) w.heap.size z.2.2.2.2 (.slice ax f.cols cx)) z.2.2.1 ((fq (cN (cK f) f.cols) (cP f) x0).take z.1),?_,?_⟩
 ·intro O w' r3;exact⟨(0,[],[],w',_),⟨aP _,hw.tr r3.cI,hX.rel r3 (bs w),fS.rel hK r3 (bs w),by have:=dX.rel hL r3 hS;rw[hfl]at this;exact this,by simp[dT],eP.nil⟩,Sub.yw 2 0 T.iw 1 rfl rfl (by simp[kl,SV.sc,At.sc,gP]) r3 fun ρ1 r1=>Sub.nil 12 T.Rat 4 rfl (by simp[kl,SV.sc,At.sc,gP]) r1 fun ρ2 r2=>Sub.gn [] r2⟩
 clear hw hX hK hL;rintro⟨i,rv,rc,w7,iv⟩ ⟨hi,hw,hX,hK,hL,hR,hG⟩;dsimp only at hi hw hX hK hL hR hG ⊢;have hrl:rv.length=i:=by rw[hR.1,aW,eD,aL];omega
 have hgl:rc.length=i:=by rw[hG.len,aW,fq,aL];omega
 have hgf:=fg hG.four;refine dF.mk (fun hib=>?_) (fun hib=>?_)
 ·have hib:i<(cN (cK f) f.cols).length:=by have:=aG hib;omega
  obtain⟨s,hs⟩:∃s,(cN (cK f) f.cols)[i]? =some s:=⟨_,aA hib⟩
  have hsl:s.length=f.cols:=hKl s (aD hs);have hsr:=hKr s (aD hs);obtain⟨adm1,um,ham1,hRm,km1,kn1⟩:=e8.load hK hs;obtain⟨as1,cs1,rfl,-,-⟩:=dY.shape hRm;obtain⟨bent,hbent⟩:∃b,da s (cP f)=b:=⟨_,rfl⟩
  have hbl2:bent.length=f.cols:=by rw[<-hbent,iB,hsl]
  have hbr:∀q∈bent,rl q<=20:=fun q hq=>by
   rw[<-hbent]at hq;obtain⟨t,ht⟩:=aT hq;have htl2:t<s.length:=by have:=(aC.1 ht).1;rw[iB]at this;exact this
   have h1:=kR (a:=s) (b:=cP f) htl2;rw[getD_some ht]at h1;have h2:=iW (s.getD t 0) ((cP f).getD t 0);have h3:=hsr (s.getD t 0) (by rw[getD_some (aA htl2)];exact aX _);have h4:=hfb.KH (t:=t) (by omega);rw[h1];omega
  refine⟨adm1,ham1,by omega,.slice as1 s.length cs1,fun O w' r=>?_,?_⟩
  ·rw[aJ,cJ (w:=w7) (w2:=w') (by rw[eA];exact Rel.same r (bs w) km1.1)];exact kn1
  refine bw (cG (Φ:=fun _ w' v w2=>cD w2 (Nf w' w2) v bent) (fun O w' r=>(hbent▸Aw (S:=Cv S w.heap.size iv) (Rel.old r hS) (dX.cC (cD.l (eH.cv (eH.rel hRm r (bs w))) fun q hq=>by have:=hsr q hq;omega) fun g hg=>Hy hg) (dX.rel hL r hS) (by rw[hsl,hfl];exact aE _) (by omega)).mono fun _ _ ⟨v2,e1,e2,e3⟩=>⟨v2,e1,e2,cD.cC e3.c fun g hg=>hg.elim (fun h=>h.elim) fun⟨_,lo,hi,h2,h3,h4⟩=>by
   simp at h2;obtain⟨rfl,rfl⟩:=h2
   exact .inr ⟨h3,h4⟩⟩) ?_)
  rintro O wa8 v8 wb8 r he hb1 hn;replace hw:=hw.tr hb1;have hxo:∀g,(Value.slice ax f.cols cx).ownBlock=some g->g<wa8.heap.size:=fun g e=>Rel.old r (bs w) g (hX.new g e);replace hX:=hX.bz (iv':=(wa8.heap.size,wb8.heap.size)::iv) r (bs w) he fun x hx=>aB _ hx;replace hK:=fS.bz (iv':=(wa8.heap.size,wb8.heap.size)::iv) hK r (bs w) he fun x hx=>aB _ hx;replace hL:=dX.bz (iv':=(wa8.heap.size,wb8.heap.size)::iv) hL r hS he fun x hx=>aB _ hx;replace hR:=l5.bz (iv':=(wa8.heap.size,wb8.heap.size)::iv) hR r (bs w) he fun x hx=>aB _ hx;replace hG:=jE.bz (iv':=(wa8.heap.size,wb8.heap.size)::iv) hG r (bs w) he fun x hx=>aB _ hx;have hE:=eH.fresh (S:=fun _=>False) (v:=(.slice ax f.cols cx)) hn r hxo;clear r he hb1 hxo hn;generalize (wa8.heap.size,wb8.heap.size)::iv=iv8 at*
  clear hRm;obtain⟨ae,ce,rfl,-,-⟩:=dY.shape hE;rw[hbl2]
  refine⟨Nat×List (List Value)×World×Iv,fun z=>⟨[(7,.o (.v (.slice ax f.cols cx))),(9,.o (.v (.slice ak (cN (cK f) f.cols).length ck))),(10,.o (.v (.slice al f.cols cl))),(11,.o (.p 2 0)),(43,.o (.v (.slice ak (cN (cK f) f.cols).length ck))),(44,.o (.v (.int .i64 (cN (cK f) f.cols).length))),(12,.o (.w 4 rc.length)),(45,.o (.v (.int .i64 ((i:Nat):Int)))),(15,.o (.v (.slice ae f.cols ce))),(52,.o (.v (.slice ak (cN (cK f) f.cols).length ck))),(53,.o (.v (.int .i64 (cN (cK f) f.cols).length))),(16,.o (.w 5 z.2.1.length)),(54,.o (.v (.int .i64 ((z.1:Nat):Int))))],[(5,.vec T.Rat 4 z.2.1.flatten),(2,.box T.dM [.w 3 rv.length,.v (.int .i64 (cN (cK f) f.cols).length)]),(3,.vec T.iw 1 rv),(4,.vec T.Rat 4 rc.flatten)],6,z.2.2.2,z.2.2.1⟩,fun z=>(cN (cK f) f.cols).length-z.1,
   fun z=>z.1<=(cN (cK f) f.cols).length∧cR w.heap.size w z.2.2.1∧(dh z.2.2.1 (fun _=>False) w.heap.size z.2.2.2 (.slice ax f.cols cx) f.cols x0∧cO z.2.2.1 (Bs (fun _=>False) w.heap.size z.2.2.2 (.slice ax f.cols cx)) (.slice ak (cN (cK f) f.cols).length ck) (cN (cK f) f.cols)∧dX z.2.2.1 (Cv S w.heap.size z.2.2.2) (.slice al f.cols cl) (cP f)∧dT z.2.2.1 (Bs (fun _=>False) w.heap.size z.2.2.2 (.slice ax f.cols cx)) rv ((eD (cN (cK f) f.cols) (cP f)).take i)∧eP z.2.2.1 (Bs (fun _=>False) w.heap.size z.2.2.2 (.slice ax f.cols cx)) rc ((fq (cN (cK f) f.cols) (cP f) x0).take i)∧cD z.2.2.1 (Bs (fun _=>False) w.heap.size z.2.2.2 (.slice ax f.cols cx)) (.slice ae f.cols ce) bent)∧eP z.2.2.1 (Bs (fun _=>False) w.heap.size z.2.2.2 (.slice ax f.cols cx)) z.2.1 (((cN (cK f) f.cols).map fun r=>de bent r f.cols).take z.1),?_,?_⟩
  ·intro O w' r3;exact⟨(0,[],w',_),⟨aP _,hw.tr r3.cI,⟨hX.rel r3 (bs w),fS.rel hK r3 (bs w),dX.rel hL r3 hS,l5.rel hR r3 (bs w),jE.rel hG r3 (bs w),by have:=eH.rel hE r3 (bs w);rw[hbl2]at this;exact this⟩,eP.nil⟩,Sub.nil 16 T.Rat 4 rfl (by simp[kl,SV.sc,At.sc,gP]) r3 fun ρ2 r2=>Sub.gn [] r2⟩
  clear hw hX hK hL hR hG hE;rintro⟨j,css,w8,iv⟩ ⟨hj,hw,⟨hX,hK,hL,hR,hG,hE⟩,hD⟩;dsimp only at hj hw hX hK hL hR hG hE hD ⊢;have hdl:css.length=j:=by rw[hD.len,aW,aL];omega
  have hdf:=fg hD.four;refine dF.mk (fun hjb=>?_) (fun hjb=>?_)
  ·have hjb:j<(cN (cK f) f.cols).length:=by have:=aG hjb;omega
   obtain⟨t,ht⟩:∃s,(cN (cK f) f.cols)[j]? =some s:=⟨_,aA hjb⟩
   have htl2:t.length=f.cols:=hKl t (aD ht);have htr:=hKr t (aD ht);obtain⟨adm2,um2,ham2,hRm,km2,kn2⟩:=e8.load hK ht;obtain⟨as2,cs2,rfl,-,-⟩:=dY.shape hRm;refine⟨adm2,ham2,by omega,.slice as2 t.length cs2,fun O w' r=>?_,?_⟩
   ·rw[aJ,cJ (w:=w8) (w2:=w') (by rw[eA];exact Rel.same r (bs w) km2.1)];exact kn2
   refine bw (cG (Φ:=fun _ w' v w2=>cM w2 (Nf w' w2) v (de bent t f.cols)) (fun O w' r=>hbl2▸D9 (S:=Cf w iv) (h:=21) (Rel.old r (bs w)) (cD.l (by have:=eH.cv (eH.rel hE r (bs w));rw[<-hbl2]at this;exact this) fun q hq=>by have:=hbr q hq;omega) (cD.l (eH.cv (eH.rel hRm r (bs w))) fun q hq=>by have:=htr q hq;omega) (by omega) (fun q hq=>by have:=hbr q hq;omega) (fun q hq=>by have:=htr q hq;omega) (by decide) (by omega)) ?_);rintro O wa9 v9 wb9 r he hb1 hn;replace hw:=hw.tr hb1;have hxo:∀g,(Value.slice ax f.cols cx).ownBlock=some g->g<wa9.heap.size:=fun g e=>Rel.old r (bs w) g (hX.new g e);replace hX:=hX.bz (iv':=(wa9.heap.size,wb9.heap.size)::iv) r (bs w) he fun x hx=>aB _ hx;replace hK:=fS.bz (iv':=(wa9.heap.size,wb9.heap.size)::iv) hK r (bs w) he fun x hx=>aB _ hx;replace hL:=dX.bz (iv':=(wa9.heap.size,wb9.heap.size)::iv) hL r hS he fun x hx=>aB _ hx;replace hR:=l5.bz (iv':=(wa9.heap.size,wb9.heap.size)::iv) hR r (bs w) he fun x hx=>aB _ hx;replace hG:=jE.bz (iv':=(wa9.heap.size,wb9.heap.size)::iv) hG r (bs w) he fun x hx=>aB _ hx;replace hE:=eH.bz (iv':=(wa9.heap.size,wb9.heap.size)::iv) hE r (bs w) he fun x hx=>aB _ hx;replace hD:=jE.bz (iv':=(wa9.heap.size,wb9.heap.size)::iv) hD r (bs w) he fun x hx=>aB _ hx;have hd:=ke.fresh (S:=fun _=>False) (v:=(.slice ax f.cols cx)) hn r hxo;clear r he hb1 hxo hn;generalize (wa9.heap.size,wb9.heap.size)::iv=iv9 at*
   obtain⟨s9_0,s9_1,s9_2,s9_3,s9_4,s9_5,s9_6,s9_7,rfl⟩:=hd.shape;clear hRm;have hD2:=hD.push (cs:=[.bool s9_0,.slice s9_1 s9_2 s9_3,.bool s9_4,.slice s9_5 s9_6 s9_7]) (q:=de bent t f.cols) ⟨_,_,_,_,_,_,_,_,rfl,hd⟩ rfl;rw[show (((cN (cK f) f.cols).map fun r=>de bent r f.cols).take j)++[de bent t f.cols]=((cN (cK f) f.cols).map fun r=>de bent r f.cols).take (j+1) by rw[List.take_add_one,aM,ht];rfl]at hD2;have hfl2:css.flatten++([.bool s9_0,.slice s9_1 s9_2 s9_3,.bool s9_4,.slice s9_5 s9_6 s9_7]:List Value)=(css++([[.bool s9_0,.slice s9_1 s9_2 s9_3,.bool s9_4,.slice s9_5 s9_6 s9_7]]:List (List Value))).flatten:=by simp
   refine .inl ?_;refine⟨by omega,by omega,by unfold maxLen;omega,((j+1:Nat):Int),wo,?_⟩;intro ρ3 w6 r3;exact⟨(j+1,css++[[.bool s9_0,.slice s9_1 s9_2 s9_3,.bool s9_4,.slice s9_5 s9_6 s9_7]],w6,_),⟨hjb,hw.tr r3.cI,⟨hX.rel r3 (bs w),fS.rel hK r3 (bs w),dX.rel hL r3 hS,l5.rel hR r3 (bs w),jE.rel hG r3 (bs w),eH.rel hE r3 (bs w)⟩,jE.rel hD2 r3 (bs w)⟩,Sub.gn [(5,7)] r3 ⟨by dsimp only;rw[<-hfl2];rfl,rfl,rfl,rfl,trivial⟩ ⟨rfl,rfl,rfl,rfl,rfl,rfl,rfl,rfl,rfl,rfl,rfl,by dsimp only;rw[List.length_append,List.length_singleton];rfl,rfl,trivial⟩,by dsimp only;omega⟩
  have hjb:j=(cN (cK f) f.cols).length:=by have:=aF hjb;omega
  rw[hjb,List.take_of_length_le (by rw[aL];exact aE _)]at hD;have hrow:(eD (cN (cK f) f.cols) (cP f)).take i++[((cN (cK f) f.cols).map fun r=>de bent r f.cols)]=(eD (cN (cK f) f.cols) (cP f)).take (i+1):=by
   rw[List.take_add_one,eD,aM,hs,<-hbent,<-hsl];rfl
  have hrgt:(fq (cN (cK f) f.cols) (cP f) x0).take i++[-(de bent x0 f.cols)]=(fq (cN (cK f) f.cols) (cP f) x0).take (i+1):=by
   rw[List.take_add_one,fq,aM,hs,<-hbent,<-hsl];rfl
  refine DC hτ (id3:=6) (id2:=5) (tH:=[(2,.box T.dM [.w 3 rv.length,.v (.int .i64 (cN (cK f) f.cols).length)]),(3,.vec T.iw 1 rv),(4,.vec T.Rat 4 rc.flatten)]) rfl rfl rfl rfl (by simp) ⟨rfl,rfl,rfl,trivial⟩ rfl rfl (fun O w' r r2 hbx=>?_);have hnx:∀g,(Value.slice ax f.cols cx).ownBlock=some g->∀id b,cX [(6,.box T.iw [.w 5 css.length]),(5,.vec T.Rat 4 css.flatten),(2,.box T.dM [.w 3 rv.length,.v (.int .i64 (cN (cK f) f.cols).length)]),(3,.vec T.iw 1 rv),(4,.vec T.Rat 4 rc.flatten)] id=some b->(O id).nil=false->(O id).g≠g:=fun g e id b h1 h2=>Rel.not r (bs w) (hX.new g e) id b h1 h2;have hlo3:=r.low 6 _ rfl (r.fits (id:=6) rfl).1;have hB3:Bs (fun _=>False) w.heap.size (((O 6).g,(O 6).g+1)::pP (O 5) iv) (.slice ax f.cols cx) (O 6).g:=⟨.inr ⟨hlo3.1,_,_,aH,aE _,bo _⟩,fun e=>hnx _ e 6 _ rfl (r.fits (id:=6) rfl).1 rfl⟩
  have hmono:∀p,p∈iv->p∈((O 6).g,(O 6).g+1)::pP (O 5) iv:=fun p hp=>aB _ (FI p hp);have hrowR:=eP.list ((jE.rel hD r (bs w)).cC fun g hg=>Bs.mono hmono hg) (r.BM (T:=Bs (fun _=>False) w.heap.size (((O 6).g,(O 6).g+1)::pP (O 5) iv) (.slice ax f.cols cx)) (id:=5) (sz:=4) (m:=css.length) rfl hdf (by unfold maxLen;omega) (by decide) hD.one fun hn=>⟨.inr ⟨(r.low 5 _ rfl hn).1,_,_,aB _ (GM hn),aE _,bo _⟩,fun e=>hnx _ e 5 _ rfl hn rfl⟩);have hone:((At.w 5 css.length).den O).oneCell'=true:=At.KQ;have hw2:=hw.tr r.cI;replace hX:dh w' (fun _=>False) w.heap.size (((O 6).g,(O 6).g+1)::pP (O 5) iv) (.slice ax f.cols cx) f.cols x0:=by
   have h1:=hX.rel r (bs w);exact⟨h1.row.cC fun g hg=>⟨hg.1.mono hmono,hg.2⟩,fun g hg=>(h1.new g hg).mono hmono⟩
  replace hK:=cO.cC (fS.rel hK r (bs w)) fun g hg=>Bs.mono hmono hg;replace hL:=dX.cC (dX.rel hL r hS) fun g hg=>hg.mono hmono;replace hR:=dT.cC (l5.rel hR r (bs w)) fun g hg=>Bs.mono hmono hg;replace hG:=eP.cC (jE.rel hG r (bs w)) fun g hg=>Bs.mono hmono hg;replace hE:=cD.cC (eH.rel hE r (bs w)) fun g hg=>Bs.mono hmono hg;clear r2 hlo3 hD hnx hw;generalize (At.w 5 css.length).den O=ur at*
  generalize (O 6).g=gy at*
  generalize (gy,gy+1)::pP (O 5) iv=ivg at*
  clear r;refine⟨[ur],rfl,by simpa using hone,fun ρ2 w2 r2 _=>⟨_,rfl,fun j u hu=>?_⟩,?_⟩
  ·have h5:=Rel.same r2 (gb _) hB3.1;rw[dH,cell_of (h5.trans hbx)];rcases j with _|j
   ·exact hu
   ·cases hu
  refine⟨by simp,by omega,by unfold maxLen;omega,?_⟩;have hR2:=hR.push hone hrowR;rw[hrow]at hR2;clear hrowR hR hbx hB3;rename_i wg _;have hw:=hw2;clear hw2;refine bw (cG (Φ:=fun _ w' v w2=>cM w2 (Nf w' w2) v (de bent x0 f.cols)) (fun O w' r=>hbl2▸D9 (S:=Cf w ivg) (h:=30) (Rel.old r (bs w)) (cD.l (by have:=eH.cv (eH.rel hE r (bs w));rw[<-hbl2]at this;exact this) fun q hq=>by have:=hbr q hq;omega) (cD.l (by have:=(hX.rel r (bs w)).c;rw[<-hbl2]at this;exact this) fun q hq=>by have:=hx0r q hq;omega) (by omega) (fun q hq=>by have:=hbr q hq;omega) (fun q hq=>by have:=hx0r q hq;omega) (by decide) (by omega)) ?_);rintro O wa11 v11 wb11 r he hb1 hn;replace hw:=hw.tr hb1;have hxo:∀g,(Value.slice ax f.cols cx).ownBlock=some g->g<wa11.heap.size:=fun g e=>Rel.old r (bs w) g (hX.new g e);replace hX:=hX.bz (iv':=(wa11.heap.size,wb11.heap.size)::ivg) r (bs w) he fun x hx=>aB _ hx;replace hK:=fS.bz (iv':=(wa11.heap.size,wb11.heap.size)::ivg) hK r (bs w) he fun x hx=>aB _ hx;replace hL:=dX.bz (iv':=(wa11.heap.size,wb11.heap.size)::ivg) hL r hS he fun x hx=>aB _ hx;replace hR2:=l5.bz (iv':=(wa11.heap.size,wb11.heap.size)::ivg) hR2 r (bs w) he fun x hx=>aB _ hx;replace hG:=jE.bz (iv':=(wa11.heap.size,wb11.heap.size)::ivg) hG r (bs w) he fun x hx=>aB _ hx;replace hE:=eH.bz (iv':=(wa11.heap.size,wb11.heap.size)::ivg) hE r (bs w) he fun x hx=>aB _ hx;have hd:=ke.fresh (S:=fun _=>False) (v:=(.slice ax f.cols cx)) hn r hxo;clear r he hb1 hxo hn;generalize (wa11.heap.size,wb11.heap.size)::ivg=iv11 at*
  obtain⟨s11_0,s11_1,s11_2,s11_3,s11_4,s11_5,s11_6,s11_7,rfl⟩:=hd.shape;have hdr:=jC (h:=30) (xs:=bent) (ys:=x0) (fun q hq=>by have:=hbr q hq;omega) (fun q hq=>by have:=hx0r q hq;omega) (by decide) f.cols;refine bw (cG (Φ:=fun _ w' v w2=>cM w2 (Nf w' w2) v (-(de bent x0 f.cols))) (fun O w' r=>HK (S:=Cf w iv11) (Rel.old r (bs w)) (cM.l (ke.cv (ke.rel hd r (bs w))) (by omega))) ?_);rintro O wa12 v12 wb12 r he hb1 hn;replace hw:=hw.tr hb1;have hxo:∀g,(Value.slice ax f.cols cx).ownBlock=some g->g<wa12.heap.size:=fun g e=>Rel.old r (bs w) g (hX.new g e);replace hX:=hX.bz (iv':=(wa12.heap.size,wb12.heap.size)::iv11) r (bs w) he fun x hx=>aB _ hx;replace hK:=fS.bz (iv':=(wa12.heap.size,wb12.heap.size)::iv11) hK r (bs w) he fun x hx=>aB _ hx;replace hL:=dX.bz (iv':=(wa12.heap.size,wb12.heap.size)::iv11) hL r hS he fun x hx=>aB _ hx;replace hR2:=l5.bz (iv':=(wa12.heap.size,wb12.heap.size)::iv11) hR2 r (bs w) he fun x hx=>aB _ hx;replace hG:=jE.bz (iv':=(wa12.heap.size,wb12.heap.size)::iv11) hG r (bs w) he fun x hx=>aB _ hx;replace hE:=eH.bz (iv':=(wa12.heap.size,wb12.heap.size)::iv11) hE r (bs w) he fun x hx=>aB _ hx;clear hd;have hd2:=ke.fresh (S:=fun _=>False) (v:=(.slice ax f.cols cx)) hn r hxo;clear r he hb1 hxo hn;generalize (wa12.heap.size,wb12.heap.size)::iv11=iv12 at*
  obtain⟨s12_0,s12_1,s12_2,s12_3,s12_4,s12_5,s12_6,s12_7,rfl⟩:=hd2.shape;have hG2:=hG.push (cs:=[.bool s12_0,.slice s12_1 s12_2 s12_3,.bool s12_4,.slice s12_5 s12_6 s12_7]) (q:= -(de bent x0 f.cols)) ⟨_,_,_,_,_,_,_,_,rfl,hd2⟩ rfl;rw[hrgt]at hG2;have hfl2:rc.flatten++([.bool s12_0,.slice s12_1 s12_2 s12_3,.bool s12_4,.slice s12_5 s12_6 s12_7]:List Value)=(rc++([[.bool s12_0,.slice s12_1 s12_2 s12_3,.bool s12_4,.slice s12_5 s12_6 s12_7]]:List (List Value))).flatten:=by simp
  refine .inl ?_;refine⟨by omega,by omega,by unfold maxLen;omega,((i+1:Nat):Int),wo,?_⟩;intro ρ3 w6 r3;exact⟨(i+1,rv++[ur],rc++[[.bool s12_0,.slice s12_1 s12_2 s12_3,.bool s12_4,.slice s12_5 s12_6 s12_7]],w6,_),⟨hib,hw.tr r3.cI,hX.rel r3 (bs w),fS.rel hK r3 (bs w),dX.rel hL r3 hS,l5.rel hR2 r3 (bs w),jE.rel hG2 r3 (bs w)⟩,Sub.gn [(3,7),(4,9)] r3 ⟨by dsimp only;rw[List.length_append,List.length_singleton];rfl,rfl,by dsimp only;rw[<-hfl2];rfl,trivial⟩ ⟨rfl,rfl,rfl,rfl,rfl,rfl,by dsimp only;rw[List.length_append,List.length_singleton];rfl,rfl,trivial⟩,by dsimp only;omega⟩
 have hib:i=(cN (cK f) f.cols).length:=by have:=aF hib;omega
 rw[hib,List.take_of_length_le (by rw[eD,aL];exact aE _)]at hR;rw[hib,List.take_of_length_le (by rw[fq,aL];exact aE _)]at hG;have hrl2:rv.length=(eD (cN (cK f) f.cols) (cP f)).length:=hR.1
 refine bw (cG (Φ:=fun _ w' v w2=>∃vc,v= .tuple #[vc,.bool true]∧dh w2 (Bs (fun _=>False) w.heap.size iv (.slice ax f.cols cx)) w'.heap.size [(w'.heap.size,w2.heap.size)] vc (cN (cK f) f.cols).length c) (fun O w' r=>(zw (C:=(fun g=>g<w'.heap.size)) (D:=(fun g=>g<w'.heap.size)) (S:=Bs (fun _=>False) w.heap.size iv (.slice ax f.cols cx)) (M:=eD (cN (cK f) f.cols) (cP f)) (b:=fq (cN (cK f) f.cols) (cP f) x0) (cols:=(cN (cK f) f.cols).length) (h:=1930) (fun g hg=>hg) (fun g hg=>hg) (fun g hg=>Rel.old r (bs w) g hg.1) ⟨rv,by rw[<-hrl2];exact r.BM (T:=(fun g=>g<w'.heap.size)) (id:=3) (sz:=1) (m:=rv.length) rfl (by simp) (by unfold maxLen;omega) (by decide) hR.2.1 fun hn=>(r.low 3 _ rfl hn).2,hR.1,fun a u x h1 h2=>eH.rel (hR.2.2 a u x h1 h2) r (bs w)⟩ ⟨rc,by rw[<-hG.len];exact r.BM (T:=(fun g=>g<w'.heap.size)) (id:=4) (sz:=4) (m:=rc.length) rfl hgf (by unfold maxLen;omega) (by decide) hG.one fun hn=>(r.low 4 _ rfl hn).2,hG.len,fun a cs x h1 h2=>(jE.rel hG r (bs w)).at_ a cs x h1 h2⟩ (by rw[fq,eD,aL,aL]) hSl (by omega) (by rw[eD,aL];omega) hredB (by decide)).mono fun _ _ ⟨v2,e1,e2,e3⟩=>⟨v2,e1,e2,by
  rcases e3 with⟨h1,_⟩|⟨x2,vx,h1,h2,h3⟩
  ·rw[hsolve]at h1;cases h1
  ·rw[hsolve]at h1;injection h1 with h1;subst h1;exact⟨vx,h2,h3⟩⟩) ?_)
 rintro O wa13 v13 wb13 r he hb1 ⟨vc,rfl,hn⟩;replace hw:=hw.tr hb1;have hxo:∀g,(Value.slice ax f.cols cx).ownBlock=some g->g<wa13.heap.size:=fun g e=>Rel.old r (bs w) g (hX.new g e);replace hX:=hX.bz (iv':=(wa13.heap.size,wb13.heap.size)::iv) r (bs w) he fun x hx=>aB _ hx;replace hK:=fS.bz (iv':=(wa13.heap.size,wb13.heap.size)::iv) hK r (bs w) he fun x hx=>aB _ hx;have hC:=cD.cC hn.c fun g hg=>Bs.solved r hxo (fun _ h=>h) hg;clear r he hb1 hxo;generalize (wa13.heap.size,wb13.heap.size)::iv=iv13 at*
 clear hn hR hG hL;obtain⟨ac,cc,rfl,-,-⟩:=dY.shape hC;rw[hcl]
 refine⟨Nat×World×Iv,fun z=>⟨[(7,.o (.v (.slice ax f.cols cx))),(19,.o (.v (.slice ac (cN (cK f) f.cols).length cc))),(87,.o (.v (.slice ak (cN (cK f) f.cols).length ck))),(88,.o (.v (.int .i64 (cN (cK f) f.cols).length))),(89,.o (.v (.int .i64 ((z.1:Nat):Int))))],[],0,z.2.2,z.2.1⟩,fun z=>(cN (cK f) f.cols).length-z.1,
  fun z=>z.1<=(cN (cK f) f.cols).length∧cR w.heap.size w z.2.1∧dh z.2.1 (fun _=>False) w.heap.size z.2.2 (.slice ax f.cols cx) f.cols (kO (cN (cK f) f.cols) c x0 z.1)∧cO z.2.1 (Bs (fun _=>False) w.heap.size z.2.2 (.slice ax f.cols cx)) (.slice ak (cN (cK f) f.cols).length ck) (cN (cK f) f.cols)∧cD z.2.1 (Bs (fun _=>False) w.heap.size z.2.2 (.slice ax f.cols cx)) (.slice ac (cN (cK f) f.cols).length cc) c,?_,?_⟩
 ·intro O w' r3;exact⟨(0,w',_),⟨aP _,hw.tr r3.cI,hX.rel r3 (bs w),fS.rel hK r3 (bs w),by have:=eH.rel hC r3 (bs w);rw[hcl]at this;exact this⟩,Sub.gn [] r3⟩
 clear hw hX hK hC;rintro⟨i,w13,iv⟩ ⟨hi,hw,hX,hK,hC⟩;dsimp only at hi hw hX hK hC ⊢;refine dF.mk (fun hib=>?_) (fun hib=>?_)
 ·have hib:i<(cN (cK f) f.cols).length:=by have:=aG hib;omega
  obtain⟨s,hs⟩:∃s,(cN (cK f) f.cols)[i]? =some s:=⟨_,aA hib⟩
  have hsl:s.length=f.cols:=hKl s (aD hs);have hsr:=hKr s (aD hs);obtain⟨ci,hci⟩:∃q,c[i]? =some q:=⟨_,aA (by omega)⟩
  have hcir:=hcr ci (aD hci);obtain⟨y0,hy0⟩:∃y,kO (cN (cK f) f.cols) c x0 i=y:=⟨_,rfl⟩
  have hy0l:y0.length=f.cols:=by rw[<-hy0,pD,hx0l]
  have hy0r:∀q∈y0,rl q<=75000:=fun q hq=>by
   rw[<-hy0]at hq;have h1:=Cc (a:=26) (b:=1927) hx0r (fun r hr q hq=>by have:=hKr r hr q hq;omega) hcr i q hq;have h2:i*(2*1927+5)<=18*(2*1927+5):=Nat.mul_le_mul_right _ (by omega);omega
  have hnextA:kO (cN (cK f) f.cols) c x0 (i+1)=y0.mapIdx fun k q=>q+ci*s.getD k 0:=by rw[kO,hy0,getD_some hci,getD_some (d:=[]) hs]
  rw[hy0]at hX;obtain⟨adm3,um,ham3,hRm,km3,kn3⟩:=e8.load hK hs;obtain⟨as3,cs3,rfl,-,-⟩:=dY.shape hRm;refine⟨adm3,ham3,by omega,.slice as3 s.length cs3,fun O w' r=>?_,?_⟩
  ·rw[aJ,cJ (w:=w13) (w2:=w') (by rw[eA];exact Rel.same r (bs w) km3.1)];exact kn3
  rw[hsl]
  refine⟨Nat×World×Iv,fun z=>⟨[(7,.o (.v (.slice ax f.cols cx))),(19,.o (.v (.slice ac (cN (cK f) f.cols).length cc))),(87,.o (.v (.slice ak (cN (cK f) f.cols).length ck))),(88,.o (.v (.int .i64 (cN (cK f) f.cols).length))),(89,.o (.v (.int .i64 ((i:Nat):Int)))),(20,.o (.v (.int .i64 ((i:Nat):Int)))),(94,.o (.v (.slice as3 f.cols cs3))),(95,.o (.v (.int .i64 f.cols))),(96,.o (.v (.int .i64 ((z.1:Nat):Int))))],[],0,z.2.2,z.2.1⟩,fun z=>f.cols-z.1,
   fun z=>z.1<=f.cols∧cR w.heap.size w z.2.1∧dh z.2.1 (fun _=>False) w.heap.size z.2.2 (.slice ax f.cols cx) f.cols ((gH z.1 (fun k q=>q+ci*s.getD k 0) y0))∧cO z.2.1 (Bs (fun _=>False) w.heap.size z.2.2 (.slice ax f.cols cx)) (.slice ak (cN (cK f) f.cols).length ck) (cN (cK f) f.cols)∧cD z.2.1 (Bs (fun _=>False) w.heap.size z.2.2 (.slice ax f.cols cx)) (.slice ac (cN (cK f) f.cols).length cc) c∧cD z.2.1 (Bs (fun _=>False) w.heap.size z.2.2 (.slice ax f.cols cx)) (.slice as3 f.cols cs3) s,?_,?_⟩
  ·intro O w' r3;exact⟨(0,w',_),⟨aP _,hw.tr r3.cI,by dsimp only;rw[qe];exact hX.rel r3 (bs w),fS.rel hK r3 (bs w),eH.rel hC r3 (bs w),by have:=eH.rel hRm r3 (bs w);rw[hsl]at this;exact this⟩,Sub.gn [] r3⟩
  clear hw hX hK hC hRm;rintro⟨k,w14,iv⟩ ⟨hk,hw,hX,hK,hC,hRm⟩;dsimp only at hk hw hX hK hC hRm ⊢;refine dF.mk (fun hkb=>?_) (fun hkb=>?_)
  ·have hkb:k<f.cols:=by have:=aG hkb;omega
   obtain⟨gx,rfl⟩:=hX.at (by omega);obtain⟨q,hq⟩:∃q,s[k]? =some q:=⟨_,aA (by omega)⟩
   obtain⟨y,hy⟩:∃q,y0[k]? =some q:=⟨_,aA (by omega)⟩
   have hyu:=yI (f:=fun k q=>q+ci*s.getD k 0) hy;have hqr:=hsr q (aD hq);have hyr:=hy0r y (aD hy);obtain⟨adq,csq,haq,hFq,_,hlq⟩:=dY.load hRm hq;obtain⟨q0,q1,q2,q3,q4,q5,q6,q7,rfl,hFq⟩:=hFq;obtain⟨ady,csy,hay,hFy,_,hly⟩:=dY.load hX.c hyu;obtain⟨y0',y1,y2,y3,y4,y5,y6,y7,rfl,hFy⟩:=hFy;obtain⟨adc,csc,hac,hFc,_,hlc⟩:=dY.load hC hci;obtain⟨c0,c1,c2,c3,c4,c5,c6,c7,rfl,hFc⟩:=hFc;refine⟨adq,haq,by omega,[.bool q0,.slice q1 q2 q3,.bool q4,.slice q5 q6 q7],rfl,fun O w' r j u hu=>?_,?_⟩
   ·obtain⟨k1,k2⟩:=hlq j u hu;rw[aJ,cJ (w:=w14) (w2:=w') (by rw[eA,eA];exact Rel.same r (bs w) k1.1)];exact k2
   refine cF hτ dc [.x 0,.x 1,.x 2,.x 3,.x 4,.x 5,.x 6,.x 7,.x 8,.x 9,.x 10,.x 11,.x 12,.x 13,.x 14] (by kernel_rfl) (by kernel_rfl) ?_;refine⟨ady,hay,by omega,[.bool y0',.slice y1 y2 y3,.bool y4,.slice y5 y6 y7],rfl,fun O w' r j u hu=>?_,?_⟩
   ·obtain⟨k1,k2⟩:=hly j u hu;rw[aJ,cJ (w:=w14) (w2:=w') (by rw[eA,eA];exact Rel.same r (bs w) k1)];exact k2
   refine⟨adc,hac,by omega,[.bool c0,.slice c1 c2 c3,.bool c4,.slice c5 c6 c7],rfl,fun O w' r j u hu=>?_,?_⟩
   ·obtain⟨k1,k2⟩:=hlc j u hu;rw[aJ,cJ (w:=w14) (w2:=w') (by rw[eA,eA];exact Rel.same r (bs w) k1.1)];exact k2
   refine cG (Φ:=fun _ w' v w2=>cM w2 (Nf w' w2) v (ci*q)) (fun O w' r=>yH (S:=Cf w iv) (Rel.old r (bs w)) ((cM.l (ke.cv (ke.rel hFc r (bs w))) (by omega)).v) ((cM.l (ke.cv (ke.rel hFq r (bs w))) (by omega)).v)) ?_;rintro O wa15 v15 wb15 r he hb1 hn;replace hw:=hw.tr hb1;have hxo:∀g,(Value.slice (some ⟨gx,0,none⟩) f.cols cx).ownBlock=some g->g<wa15.heap.size:=fun g e=>Rel.old r (bs w) g (hX.new g e);replace hX:=hX.bz (iv':=(wa15.heap.size,wb15.heap.size)::iv) r (bs w) he fun x hx=>aB _ hx;replace hK:=fS.bz (iv':=(wa15.heap.size,wb15.heap.size)::iv) hK r (bs w) he fun x hx=>aB _ hx;replace hC:=eH.bz (iv':=(wa15.heap.size,wb15.heap.size)::iv) hC r (bs w) he fun x hx=>aB _ hx;replace hRm:=eH.bz (iv':=(wa15.heap.size,wb15.heap.size)::iv) hRm r (bs w) he fun x hx=>aB _ hx;replace hFy:=cM.bz (iv':=(wa15.heap.size,wb15.heap.size)::iv) hFy r (bs w) he fun x hx=>aB _ hx;have hm:=ke.fresh (S:=fun _=>False) (v:=(.slice (some ⟨gx,0,none⟩) f.cols cx)) hn r hxo;clear r he hb1 hxo hn;generalize (wa15.heap.size,wb15.heap.size)::iv=iv15 at*
   obtain⟨s15_0,s15_1,s15_2,s15_3,s15_4,s15_5,s15_6,s15_7,rfl⟩:=hm.shape;refine cG (Φ:=fun _ w' v w2=>cM w2 (Nf w' w2) v (y+ci*q)) (fun O w' r=>HM (S:=Cf w iv15) (Rel.old r (bs w)) ((cM.l (cM.rel hFy r (bs w)) (by omega)).v) ((cM.l (ke.cv (ke.rel hm r (bs w))) (by have:=iW ci q;omega)).v)) ?_;rintro O wa16 v16 wb16 r he hb1 hn;replace hw:=hw.tr hb1;have hxo:∀g,(Value.slice (some ⟨gx,0,none⟩) f.cols cx).ownBlock=some g->g<wa16.heap.size:=fun g e=>Rel.old r (bs w) g (hX.new g e);replace hX:=hX.bz (iv':=(wa16.heap.size,wb16.heap.size)::iv15) r (bs w) he fun x hx=>aB _ hx;replace hK:=fS.bz (iv':=(wa16.heap.size,wb16.heap.size)::iv15) hK r (bs w) he fun x hx=>aB _ hx;replace hC:=eH.bz (iv':=(wa16.heap.size,wb16.heap.size)::iv15) hC r (bs w) he fun x hx=>aB _ hx;replace hRm:=eH.bz (iv':=(wa16.heap.size,wb16.heap.size)::iv15) hRm r (bs w) he fun x hx=>aB _ hx;clear hFy;clear hm;have hd:=ke.fresh (S:=fun _=>False) (v:=(.slice (some ⟨gx,0,none⟩) f.cols cx)) hn r hxo;clear r he hb1 hxo hn;generalize (wa16.heap.size,wb16.heap.size)::iv15=iv16 at*
   obtain⟨s16_0,s16_1,s16_2,s16_3,s16_4,s16_5,s16_6,s16_7,rfl⟩:=hd.shape;refine⟨⟨gx,0,none⟩,rfl,by omega,?_⟩;intro O w' r;obtain⟨g,hg,h1,h2,h3,h4,h5⟩:=(hX.rel r (bs w)).store (j:=k) hkb (hd.cB (Bs.same r (bs w))) r (bs w);injection hg with hg;injection hg with hg;subst hg;refine⟨h1,h2,h3,fun w5 hw5=>?_⟩;obtain⟨k1,k2,k3⟩:=h5 w5 hw5;have hw2:cR w.heap.size w w5:=(hw.tr r.cI).tr (cR.grown k2 (fun g e=>by injection e with e;subst e;exact h4.elim (fun h=>h.elim) fun h=>h.1) r.bu);have hK2:=fS.kept hK r (bs w) k2;have hC2:=eH.kept hC r (bs w) k2;have hR2:=eH.kept hRm r (bs w) k2;have hnext:(gH k (fun k q=>q+ci*s.getD k 0) y0).set k (y+ci*q)=(gH (k+1) (fun k q=>q+ci*s.getD k 0) y0):=by rw[<-nA hy,getD_some hq]
   rw[hnext]at k1;clear hX hK hC hRm hw h1 h2 h3 h4 h5 hw5 k2 k3 r hd;refine⟨((k+1:Nat):Int),wo,?_⟩;intro ρ3 w6 r3;exact⟨(k+1,w6,_),⟨hkb,hw2.tr r3.cI,k1.rel r3 (bs w),fS.rel hK2 r3 (bs w),eH.rel hC2 r3 (bs w),eH.rel hR2 r3 (bs w)⟩,Sub.gn [] r3,by dsimp only;omega⟩
  have hkb:k=f.cols:=by have:=aF hkb;omega
  rw[hkb,<-hy0l,th,<-hnextA,hy0l]at hX;refine⟨((i+1:Nat):Int),wo,?_⟩;intro ρ3 w6 r3;exact⟨(i+1,w6,_),⟨hib,hw.tr r3.cI,hX.rel r3 (bs w),fS.rel hK r3 (bs w),eH.rel hC r3 (bs w)⟩,Sub.gn [] r3,by dsimp only;omega⟩
 have hib:i=(cN (cK f) f.cols).length:=by have:=aF hib;omega
 rw[hib]at hX;intro ρe we re;exact⟨_,rfl,hw.tr re.cI,.inr ⟨_,_,hfrc,rfl,cD.out hX.c re (bs w)⟩⟩
end Go.Ex
namespace Go.Ex
open Go Go.Sx Go.Proofs
variable{l:List Ld}{S:Nat->Prop}{f:ei}
def Fl(f:ei)(x:List Rat):List Rat:=(List.range x.length).map fun t=>(cP f).getD t 0*x.getD t 0
theorem yT(hok:yN f.nodes.length l):Bl (cU (e9 f l) (-1)):=fun t=>by
 rcases aO t (cU (e9 f l) (-1)).length with h|h
 ·have h2:t<(e9 f l).length:=by rw[cU,aL]at h;exact h
  have h3:(e9 f l)[t]∈e9 f l:=aX h2;rw[getD_some (show (cU (e9 f l) (-1))[t]? =some ((e9 f l)[t]* -1) by rw[cU,aM,aA h2];rfl)];obtain⟨z,hz,hz2⟩:=aR.1 h3;have hb:=tu hok l.length (aE _) z hz;have hl:=hok.len;rw[<-hz2,show(z:Rat)* -1=((-z:Int):Rat) by rw[Rat.intCast_neg];grind];exact Ib.int (by omega)
 ·rw[iL h];exact Ib.zero _
abbrev Dv(f:ei):Nat->Rat:=fun t=>(cP f).getD t 0
set_option maxRecDepth 8000 in
theorem Dw{w:World}{vn vb vs vl:Value}(hS:Old S w)(hf:dU w S vn vb vs f)(hl:iJ w S vl l)(hsm:dx f=0->p9 f):
  di PG N.oH #[.agg #[vn,vb,vs],vl] w (dw w fun v' w2=>(iP f l≠0∧v'= .tuple #[.slice none 0 0,.int .i64 (iP f l)])∨(iP f l=0∧((eU (cK f) (cU (e9 f l) (-1)) f.cols=none∧v'= .tuple #[.slice none 0 0,.int .i64 17])∨∃x vx,iG (cK f) f.cols (Dv f) (cU (e9 f l) (-1)) x∧v'= .tuple #[vx,.int .i64 0]∧cD w2 (Nf w w2) vx x))):=by
 have hw:cR w.heap.size w w:=cR.refl;obtain⟨an,cn,ab,cb,aq,cq,rfl,rfl,rfl,hmn,hmb,hms⟩:=hf.shape;obtain⟨al,cl,rfl,hcl,hml⟩:=hl.shape;obtain⟨e0,EE⟩:∃e,iP f l=e:=⟨_,rfl⟩
 refine sC (by simp) ?_;refine bw (cE hw (fun _ w' v w2=>v= .int .i64 e0) (fun O w' r=>(od (oS hS r) (hf.cB (kS hw r hS)) (hl.cB (kS hw r hS))).mono fun _ _ ⟨v2,e1,e2,e3⟩=>⟨v2,e1,e2,by rw[e3,EE]⟩) ?_);rintro O wa1 v1 wb1 iv1 r he hw h_ rfl;refine dF.mk (fun he=>?_) (fun he=>?_)
 ·have he:e0≠0:=by simpa using he
  intro ρe we re;exact⟨_,rfl,hw.tr re.cI,.inl ⟨by rw[EE];exact he,by rw[EE];rfl⟩⟩
 have he:e0=0:=by simpa using he
 have hel:iP f l=0:=by rw[EE,he]
 obtain⟨herr,hld⟩:=jR hel;have hfb:=hsm herr;have hfs:=hfb.toFrS;have hld:=vz hld;have hc18:=hfs.Gr;have hr12:=hfs.IS;have htl:=gl f;have hlen:=fc f;have hn4:=hfs.n4;have hok:=pE herr;have hvl:=ir f l;have hc0:f.cols=f.bars.length+f.cS.length:=rfl;refine cF hτ dc [.x 0,.x 1,.x 2,.x 3,.x 4,.x 5,.x 6,.x 7,.x 8,.x 9] (by kernel_rfl) (by kernel_rfl) ?_;refine cE hw (fun _ w' v w2=>cD w2 (Nf w' w2) v (e9 f l)∧∀q∈e9 f l,rl q<=1) (fun O w' r=>(zz (oS hS r) (hl.cB (kS hw r hS)) hfs.n hld rfl rfl).mono fun _ _ ⟨v2,e1,e2,e3,e4⟩=>⟨v2,e1,e2,cD.cC e3.c fun g hg=>hg.new,e4⟩) ?_;rintro O wa2 v2 wb2 iv2 r he hw h_ ⟨hn,hvq⟩;have hP:=cD.cd (S:=fun _=>False) hn r.bu (mN h_);obtain⟨ap,cp,rfl,-,-⟩:=dY.shape hP;rw[hvl];refine cG (Φ:=fun _ w' v w2=>(eU (cK f) (cU (e9 f l) (-1)) f.cols=none∧v= .tuple #[.slice none 0 0,.bool false])∨∃x vx,iG (cK f) f.cols (Dv f) (cU (e9 f l) (-1)) x∧v= .tuple #[vx,.bool true]∧cD w2 (Nf w' w2) vx x) (fun O w' r=>AH (S:=fun g=>S g∨Cf w iv2 g) (fun g hg=>hg.elim (oS hS r g) (Rel.old r (bs w) g)) (dU.cC (hf.cB (kS hw r hS)) fun g hg=>.inl hg) herr hfb (cD.cC (by have:=cD.rel hP r (bs w);rw[hvl]at this;exact this) fun g hg=>.inr hg) hvl (fun q hq=>by have:=hvq q hq;omega) (yT hld)) ?_;rintro O wa3 v3 wb3 r he hb (⟨hno,rfl⟩|⟨x,vx,hx,rfl,hn⟩)
 ·replace hw:=hw.tr hb;intro ρe we re;exact⟨_,rfl,hw.tr re.cI,.inr ⟨hel,.inl ⟨hno,rfl⟩⟩⟩
 replace hw:=hw.tr hb;have hX:=cD.cd (S:=fun _=>False) hn r.bu (iv:=(wa3.heap.size,wb3.heap.size)::iv2) aH;generalize (wa3.heap.size,wb3.heap.size)::iv2=ivx at*
 obtain⟨ax,cx,rfl,-,-⟩:=dY.shape hX;intro ρe we re;exact⟨_,rfl,hw.tr re.cI,.inr ⟨hel,.inr ⟨x,_,hx,rfl,cD.out hX re (bs w)⟩⟩⟩
theorem H5(h:dx f≠0∨f.nodes.length<=4∧f.bars.length<=6)(hb:∀b∈f.bars,rl b.2.2<=3)(hs:∀b∈f.cS,rl b.2.2<=3)(h0:dx f=0):p9 f:=
 ⟨Jj h h0,fun q hq=>by
  rcases bN.1 hq with h|h
  ·obtain⟨b,hb2,rfl⟩:=aR.1 h;exact hb b hb2
  ·obtain⟨b,hb2,rfl⟩:=aR.1 h;exact hs b hb2⟩
end Go.Ex
namespace Go.Ex
variable{x:List Rat}
def DY(f:ei)(x:List Rat):Rat:=nu (fun t=>(cP f).getD t 0) (fun t=>x.getD t 0) (fun t=>x.getD t 0) f.cols*Rat.divInt 1 2
theorem IV{f:ei}(hx:x.length=f.cols):de (da x (cP f)) x (da x (cP f)).length / ((2:Int):Rat)=DY f x:=by
 have hl:(da x (cP f)).length=f.cols:=by rw[da,List.length_mapIdx,hx]
 rw[oC,hl,DY,nu,cA (g:=fun t=>(cP f).getD t 0*(x.getD t 0*x.getD t 0)) fun t ht=>by rw[kR (by omega)];grind,Rat.divInt_eq_div,bW,bW];have:((1:Int):Rat)=1:=rfl;rw[this,bj]
section
variable{f:ei}{b y s z:List Rat}{c:Rat}
end
end Go.Ex
namespace Go.Ex
open Go Go.Sx Go.Proofs
variable{b x:List Rat}{h0:Nat}{S:Nat->Prop}{w:World}{f:ei}
theorem Cd(h:p9 f)(hx:x.length<=f.cols)(hq:∀q∈x,rl q<=h0):∀q∈da x (cP f),rl q<=h0+3:=fun q hq2=>by
 obtain⟨t,ht⟩:=aT hq2;have htl2:t<x.length:=by have:=(aC.1 ht).1;rw[iB]at this;exact this
 have h1:=kR (a:=x) (b:=cP f) htl2;rw[getD_some ht]at h1;have h2:=iW (x.getD t 0) ((cP f).getD t 0);have h3:=hq (x.getD t 0) (by rw[getD_some (aA htl2)];exact aX _);have h4:=h.KH (t:=t) (by omega);rw[h1];omega
theorem Ie(h:p9 f)(hx:x.length<=f.cols)(hq:∀q∈x,rl q<=h0):∀q∈Fl f x,rl q<=h0+3:=fun q hq2=>by
 obtain⟨t,ht,rfl⟩:=aR.1 hq2;have ht:=List.mem_range.1 ht;have h1:=iW ((cP f).getD t 0) (x.getD t 0);have h2:=h.KH (t:=t) (by omega);have h3:=hq (x.getD t 0) (by rw[getD_some (aA ht)];exact aX _);omega
theorem Jk(hx:x.length=f.cols):Rat.divInt 1 2*de x (Fl f x) x.length=DY f x:=by
 rw[oC,hx,DY,nu,bZ];congr 1;refine cA fun t ht=>?_;have h1:(Fl f x).getD t 0=(cP f).getD t 0*x.getD t 0:=getD_some (by rw[Fl,aM,bh (by omega)];rfl);rw[h1];grind
theorem Fm{vn vb vs vx:Value}(hS:Old S w)(hf:dU w S vn vb vs f)(hsm:dx f=0->p9 f)(hx:dX w S vx x)(hxq:∀q∈x,rl q<=200):
  di PG N.oI #[.agg #[vn,vb,vs],vx] w (dw w fun v' w2=>(dx f≠0∧v'= .tuple #[tv,.int .i64 (dx f)])∨(dx f=0∧((x.length≠f.cols∧v'= .tuple #[tv,.int .i64 11])∨(x.length=f.cols∧∃r,v'= .tuple #[r,.int .i64 0]∧cM w2 (Nf w w2) r (DY f x))))):=by
 have hw:cR w.heap.size w w:=cR.refl;obtain⟨an,cn,ab,cb,aq,cq,rfl,rfl,rfl,hmn,hmb,hms⟩:=hf.shape;obtain⟨ax,cx,rfl,hcx,hmx⟩:=dY.shape hx;unfold maxLen at hmx;have hcols:f.cols=f.bars.length+f.cS.length:=rfl;obtain⟨e0,EE⟩:∃e,dx f=e:=⟨_,rfl⟩
 refine sD (by simp) ?_;refine bw (cE hw (fun _ w' v w2=>v= .int .i64 e0) (fun O w' r=>(yO (oS hS r) (hf.cB (kS hw r hS))).mono fun _ _ ⟨v2,e1,e2,e3⟩=>⟨v2,e1,e2,by rw[e3,EE]⟩) ?_);rintro O wa1 v1 wb1 iv1 r he hw h_ rfl;refine dF.mk (fun he=>?_) (fun he=>?_)
 ·have he:e0≠0:=by simpa using he
  intro ρe we re;exact⟨_,rfl,hw.tr re.cI,.inl ⟨by rw[EE];exact he,by rw[EE];rfl⟩⟩
 have he:e0=0:=by simpa using he
 have herr:dx f=0:=by rw[EE,he]
 have hfb:=hsm herr;have hfs:=hfb.toFrS;have hok:=pE herr;have hc18:=hfs.Gr;refine bw (cE hw (fun _ w' v w2=>v= .int .i64 (if x.length≠f.cols then 11 else 0)) (fun O w' r=>BI (hf.cB (kS hw r hS)) ⟨hfs.b,hfs.s⟩) ?_);rintro O wa2 v2 wb2 iv2 r he hw h_ rfl;by_cases hsz:x.length≠f.cols
 ·rw[if_pos hsz];intro ρe we re;exact⟨_,rfl,hw.tr re.cI,.inr ⟨herr,.inl ⟨hsz,rfl⟩⟩⟩
 rw[aI hsz];have hxl:x.length=f.cols:=by simpa using hsz
 refine bw (cG (Φ:=fun _ w' v w2=>dX w2 (Nw S w' w2) v (cP f)) (fun O w' r=>tp (S:=S) (oS hS r) (hf.cB (kS hw r hS)) hok) ?_);rintro O wa3 v3 wb3 r he hb hn;replace hw:=hw.tr hb;have hL:=dX.cC (S':=Cv S w.heap.size ((wa3.heap.size,wb3.heap.size)::iv2)) hn fun g hg=>hg.elim .inl fun h=>.inr ⟨by have:=r.bu;omega,_,_,aH,h.1,h.2⟩;generalize (wa3.heap.size,wb3.heap.size)::iv2=iv3 at*
 obtain⟨afl,cfl,rfl,-,-⟩:=dY.shape hL;have hbr:=Cd hfb (Nat.le_of_eq hxl) hxq;have hel2:(da x (cP f)).length=x.length:=iB _ _;refine bw (cE hw (fun _ w' v w2=>cD w2 (Nf w' w2) v (da x (cP f))) (fun O w' r=>(Aw (S:=Cv S w.heap.size iv3) (Rel.old r hS) (dX.cC (dX.cB hx (kS hw r hS)) fun g hg=>.inl hg) (dX.rel hL r hS) (by rw[hxl,kB];exact aE _) (by omega)).mono fun _ _ ⟨v2,e1,e2,e3⟩=>⟨v2,e1,e2,cD.cC e3.c fun g hg=>hg.new⟩) ?_);rintro O wa4 v4 wb4 iv4 r he hw h_ hn;have hE:=cD.cd (S:=fun _=>False) hn r.bu (mN h_);obtain⟨ae,ce,rfl,-,-⟩:=dY.shape hE;refine bw (cE hw (fun _ w' v w2=>cM w2 (Nf w' w2) v (de (da x (cP f)) x (da x (cP f)).length)) (fun O w' r=>D9 (S:=fun g=>S g∨Cf w iv4 g) (h:=204) (fun g hg=>hg.elim (oS hS r g) (Rel.old r (bs w) g)) (dX.cC (cD.l (cD.rel hE r (bs w)) fun q hq=>by have:=hbr q hq;omega) fun g hg=>.inr hg) (dX.cC (dX.cB hx (kS hw r hS)) fun g hg=>.inl hg) (by omega) (fun q hq=>by have:=hbr q hq;omega) (fun q hq=>by have:=hxq q hq;omega) (by decide) (by omega)) ?_);rintro O wa5 v5 wb5 iv5 r he hw h_ hn;have hd:=hn.cd (S:=fun _=>False) r.bu (mN h_);obtain⟨s5_0,s5_1,s5_2,s5_3,s5_4,s5_5,s5_6,s5_7,rfl⟩:=hd.shape;have hdr:=jC (h:=204) (xs:=da x (cP f)) (ys:=x) (fun q hq=>by have:=hbr q hq;omega) (fun q hq=>by have:=hxq q hq;omega) (by decide) (da x (cP f)).length;refine bw (cE hw (fun _ w' v w2=>cM w2 (Nf w' w2) v ((2:Int):Rat)) (fun O w' r=>j5 2 w' (by decide) (by decide)) ?_);rintro O wa6 v6 wb6 iv6 r he hw h_ hn;replace hd:=hd.bz r (bs w) he (mC h_);have h2:=hn.cd (S:=fun _=>False) r.bu (mN h_);obtain⟨s6_0,s6_1,s6_2,s6_3,s6_4,s6_5,s6_6,s6_7,rfl⟩:=h2.shape;refine bw (cE hw (fun _ w' v w2=>cM w2 (Nf w' w2) v (DY f x)) (fun O w' r=>IV hxl▸HJ (S:=Cf w iv6) (Rel.old r (bs w)) ((hd.rel r (bs w)).l (by omega)) ((h2.rel r (bs w)).l (by decide)) (by decide)) ?_);rintro O wa7 v7 wb7 iv7 r he hw h_ hn;have hq:=hn.cd (S:=fun _=>False) r.bu (mN h_);obtain⟨s7_0,s7_1,s7_2,s7_3,s7_4,s7_5,s7_6,s7_7,rfl⟩:=hq.shape;intro ρe we re;exact⟨_,rfl,hw.tr re.cI,.inr ⟨herr,.inr ⟨hxl,_,rfl,cM.out hq re (bs w)⟩⟩⟩
set_option maxRecDepth 8000 in
set_option maxHeartbeats 1000000 in
theorem ja{vn vb vs vl:Value}{l:List Ld}(hS:Old S w)(hf:dU w S vn vb vs f)(hl:iJ w S vl l)(hsm:dx f=0->p9 f):
  di PG N.lz #[.agg #[vn,vb,vs],vl] w (dw w fun v' w2=>(iP f l≠0∧v'= .tuple #[.slice none 0 0,.slice none 0 0,.int .i64 (iP f l)])∨(iP f l=0∧((kz (cK f) f.cols<(cK f).length∧v'= .tuple #[.slice none 0 0,.slice none 0 0,.int .i64 17])∨
   (kz (cK f) f.cols=(cK f).length∧∃x u vx vu,iG (cK f) f.cols (Dv f) (cU (e9 f l) (-1)) x∧eU (dZ (cK f) f.cols) (cU (da x (cP f)) (-1)) (cK f).length=some u∧v'= .tuple #[vu,vx,.int .i64 0]∧cD w2 (Nf w w2) vu u∧cD w2 (Nf w w2) vx x)))):=by
 have hw:cR w.heap.size w w:=cR.refl;obtain⟨an,cn,ab,cb,aq,cq,rfl,rfl,rfl,hmn,hmb,hms⟩:=hf.shape;obtain⟨al,cl,rfl,hcl,hml⟩:=hl.shape;obtain⟨e0,EE⟩:∃e,iP f l=e:=⟨_,rfl⟩
 refine pQ (by simp) ?_;conv=>whnf
 refine bw (cE hw (fun _ w' v w2=>v= .int .i64 e0) (fun O w' r=>(od (oS hS r) (hf.cB (kS hw r hS)) (hl.cB (kS hw r hS))).mono fun _ _ ⟨v2,e1,e2,e3⟩=>⟨v2,e1,e2,by rw[e3,EE]⟩) ?_);rintro O wa1 v1 wb1 iv1 r he hw h_ rfl;clear r;conv=>whnf
 refine dF.mk (fun he=>?_) (fun he=>?_)
 ·have he:e0≠0:=by simpa using he
  conv=>whnf
  intro ρe we re;exact⟨_,rfl,hw.tr re.cI,.inl ⟨by rw[EE];exact he,by rw[EE];rfl⟩⟩
 have he:e0=0:=by simpa using he
 have hel:iP f l=0:=by rw[EE,he]
 obtain⟨herr,hld⟩:=jR hel;have hfb:=hsm herr;have hfs:=hfb.toFrS;have hld:=vz hld;clear EE he;have hc18:=hfs.Gr;have hr12:=hfs.IS;have htl:=gl f;have hlen:=fc f;have hn4:=hfs.n4;have hok:=pE herr;have hvl:=ir f l;have hc0:f.cols=f.bars.length+f.cS.length:=rfl;conv=>whnf
 refine bw (cE hw (fun _ w' v w2=>∃vr,v= .agg #[vr,.int .i64 f.cols]∧cO w2 (Nf w' w2) vr (cK f)) (fun O w' r=>(qj (S:=S) (oS hS r) (hf.cB (kS hw r hS)) hok).mono fun _ _ ⟨v2,e1,e2,e3,_⟩=>⟨v2,e1,e2,e3⟩) ?_);rintro O wa2 v2 wb2 iv2 r he hw h_ ⟨vr,rfl,hn⟩;have hM:=cO.cd (S:=fun _=>False) hn r.bu (mN h_);clear r he;clear hn;obtain⟨am,cm,rfl,-,-⟩:=e8.shape hM;conv=>whnf
 refine cF hτ dc [.x 0,.x 1,.x 2,.x 7,.x 8,.x 9,.x 3,.x 4,.x 5,.x 6,.x 10] (by kernel_rfl) (by kernel_rfl) ?_;conv=>whnf
 refine cE hw (fun _ w' v w2=>∃vr vp vf,v= .agg #[vr,.int .i64 f.cols,vp,vf]∧cO w2 (Nw (Cf w iv2) w' w2) vr (dB (cK f) f.cols).1) (fun O w' r=>(yS (C:=Cf w iv2) (S:=Cf w iv2) (h:=20) (Rel.old r (bs w)) (Rel.old r (bs w)) (cO.rel hM r (bs w)) hlen (by omega) (by omega) (mJ hlen hfs.ky (by decide) (by have:=hfs.size;omega)) (by decide)).mono fun _ _ ⟨v2,e1,e2,vr,vp,vf,k1,k2,_,_⟩=>⟨v2,e1,e2,vr,vp,vf,k1,k2⟩) ?_;rintro O wa3 v3 wb3 iv3 r he hw h_ ⟨vr2,vp2,vf2,rfl,hn⟩;replace hM:=cO.bz hM r (bs w) he (mC h_);clear r he;obtain⟨ar,cr,rfl,-,-⟩:=e8.shape hn;have hrk:(dB (cK f) f.cols).1.length=kz (cK f) f.cols:=by
  rw[(kP hlen hfs.ky).2,aW,Nat.min_eq_left (j9 _ _ hlen).1]
 rw[hrk];obtain⟨nr,hnr⟩:∃nr,kz (cK f) f.cols=nr:=⟨_,rfl⟩
 rw[hnr];clear hn hrk;conv=>whnf
 refine dF.mk (fun hlt=>?_) (fun hlt=>?_)
 ·have hlt:nr<(cK f).length:=by have:=aG hlt;omega
  conv=>whnf
  intro ρe we re;exact⟨_,rfl,hw.tr re.cI,.inr ⟨hel,.inl ⟨hlt,rfl⟩⟩⟩
 have hlt:(cK f).length<=nr:=by have:=aF hlt;omega
 have hfirm:kz (cK f) f.cols=(cK f).length:=by
  have h1:=DV hlen;have h2:=(j9 (dZ (cK f) f.cols) (cK f).length (fa _ _)).2;rw[hnr]at h1 ⊢;have h1:(cH (dZ (cK f) f.cols) (cK f).length).2.length=nr:=h1;omega
 have hbl:=yT hld;have hbll:(cU (e9 f l) (-1)).length=(cK f).length:=by rw[cU,aL,hvl,htl]
 conv=>whnf
 refine cF hτ dc [.x 0,.x 1,.x 2,.x 3,.x 4,.x 5,.x 6,.x 7,.x 8,.x 9] (by kernel_rfl) (by kernel_rfl) ?_;conv=>whnf
 refine cE hw (fun _ w' v w2=>cD w2 (Nf w' w2) v (e9 f l)∧∀q∈e9 f l,rl q<=1) (fun O w' r=>(zz (oS hS r) (hl.cB (kS hw r hS)) hfs.n hld rfl rfl).mono fun _ _ ⟨v2,e1,e2,e3,e4⟩=>⟨v2,e1,e2,cD.cC e3.c fun g hg=>hg.new,e4⟩) ?_;rintro O wa4 v4 wb4 iv4 r he hw h_ ⟨hn,hvq⟩;replace hM:=cO.bz hM r (bs w) he (mC h_);have hP:=cD.cd (S:=fun _=>False) hn r.bu (mN h_);clear r he;clear hn;obtain⟨ap,cp,rfl,-,-⟩:=dY.shape hP;rw[hvl];conv=>whnf
 refine cG (Φ:=fun _ w' v w2=>(eU (cK f) (cU (e9 f l) (-1)) f.cols=none∧v= .tuple #[.slice none 0 0,.bool false])∨∃x vx,iG (cK f) f.cols (Dv f) (cU (e9 f l) (-1)) x∧v= .tuple #[vx,.bool true]∧cD w2 (Nf w' w2) vx x) (fun O w' r=>AH (S:=fun g=>S g∨Cf w iv4 g) (fun g hg=>hg.elim (oS hS r g) (Rel.old r (bs w) g)) (dU.cC (hf.cB (kS hw r hS)) fun g hg=>.inl hg) herr hfb (cD.cC (by have:=cD.rel hP r (bs w);rw[hvl]at this;exact this) fun g hg=>.inr hg) hvl (fun q hq=>by have:=hvq q hq;omega) (yT hld)) ?_;rintro O wa5 v5 wb5 r he hb (⟨hno,rfl⟩|⟨x,vx,hx,rfl,hn⟩)
 ·obtain⟨x,hx⟩:=zf (b:=cU (e9 f l) (-1)) hlen hfirm;rw[hno]at hx
  cases hx
 replace hw:=hw.tr hb;replace hM:=cO.bz (iv':=(wa5.heap.size,wb5.heap.size)::iv4) hM r (bs w) he fun x hx=>aB _ hx;have hX:=cD.cd (S:=fun _=>False) hn r.bu (iv:=(wa5.heap.size,wb5.heap.size)::iv4) aH;clear r he hb hn;generalize (wa5.heap.size,wb5.heap.size)::iv4=ivx at*
 obtain⟨ax,cx,rfl,-,-⟩:=dY.shape hX;have hxl:=hx.len;have hxr:=hfb.Gv hbl hbll hx;obtain⟨u,hu⟩:=hx.J7 hlen;have hwT:=hfb.zg hxl (hfb.DX hbl hbll hx);have hzT:ln (fB (wt 156) (jK (dZ (cK f) f.cols) (cU (da x (cP f)) (-1))).length)<=2827:=hfb.xZ;have hsolve:=tD (M:=dZ (cK f) f.cols) (b:=cU (da x (cP f)) (-1)) (fa _ _) hwT;rw[hu]at hsolve;have hbr:=Cd hfb (Nat.le_of_eq hxl) hxr;conv=>whnf
 refine cF hτ dc [.x 0,.x 2,.x 3,.x 1,.x 4,.x 5,.x 6,.x 7,.x 8,.x 9,.x 10,.x 11,.x 12,.x 13] (by kernel_rfl) (by kernel_rfl) ?_;conv=>whnf
 refine cG (Φ:=fun _ w' v w2=>∃vr,v= .agg #[vr,.int .i64 (cK f).length]∧cO w2 (Nw (Cf w ivx) w' w2) vr (dZ (cK f) f.cols)) (fun O w' r=>yx (C:=Cf w ivx) (S:=Cf w ivx) (Rel.old r (bs w)) (Rel.old r (bs w)) (cO.rel hM r (bs w)) hlen (by omega) (by omega)) ?_;rintro O wa6 v6 wb6 r he hb ⟨vt,rfl,hn⟩;replace hw:=hw.tr hb;clear hM;replace hX:=cD.bz (iv':=(wa6.heap.size,wb6.heap.size)::ivx) hX r (bs w) he fun x hx=>aB _ hx;have hT:=cO.old hn r.bu;clear r he hb;generalize (wa6.heap.size,wb6.heap.size)::ivx=iv6 at*
 clear hn;obtain⟨at_,ct,rfl,-,-⟩:=e8.shape hT;conv=>whnf
 refine cG (Φ:=fun _ w' v w2=>dX w2 (Nw S w' w2) v (cP f)) (fun O w' r=>tp (S:=S) (oS hS r) (hf.cB (kS hw r hS)) hok) ?_;rintro O wa7 v7 wb7 r he hb hn;replace hw:=hw.tr hb;replace hX:=cD.bz (iv':=(wa7.heap.size,wb7.heap.size)::iv6) hX r (bs w) he fun x hx=>aB _ hx;replace hT:=cO.bz (iv':=(wa7.heap.size,wb7.heap.size)::iv6) hT r (bs w) he fun x hx=>aB _ hx;have hL:=dX.cC (S':=Cv S w.heap.size ((wa7.heap.size,wb7.heap.size)::iv6)) hn fun g hg=>hg.elim .inl fun h=>.inr ⟨by have:=r.bu;omega,_,_,aH,h.1,h.2⟩;clear r he hb;generalize (wa7.heap.size,wb7.heap.size)::iv6=iv7 at*
 clear hn;obtain⟨afl,cfl,rfl,-,-⟩:=dY.shape hL;conv=>whnf
 refine cE hw (fun _ w' v w2=>cD w2 (Nf w' w2) v (da x (cP f))) (fun O w' r=>(Aw (S:=Cv S w.heap.size iv7) (Rel.old r hS) (dX.cC (cD.l (cD.rel hX r (bs w)) fun q hq=>by have:=hxr q hq;omega) fun g hg=>Hy hg) (dX.rel hL r hS) (by rw[hxl,kB];exact aE _) (by omega)).mono fun _ _ ⟨v2,e1,e2,e3⟩=>⟨v2,e1,e2,cD.cC e3.c fun g hg=>hg.new⟩) ?_;rintro O wa8 v8 wb8 iv8 r he hw h_ hn;replace hX:=cD.bz hX r (bs w) he (mC h_);replace hT:=cO.bz hT r (bs w) he (mC h_);clear hL;have hE:=cD.cd (S:=fun _=>False) hn r.bu (mN h_);clear r he;clear hn;obtain⟨ae,ce,rfl,-,-⟩:=dY.shape hE;conv=>whnf
 refine cE hw (fun _ w' v w2=>cM w2 (Nf w' w2) v ((-1:Int):Rat)) (fun O w' r=>j5 (-1) w' (by decide) (by decide)) ?_;rintro O wa9 v9 wb9 iv9 r he hw h_ hn;replace hX:=cD.bz hX r (bs w) he (mC h_);replace hT:=cO.bz hT r (bs w) he (mC h_);replace hE:=cD.bz hE r (bs w) he (mC h_);have hd:=hn.cd (S:=fun _=>False) r.bu (mN h_);clear r he hn;obtain⟨s9_0,s9_1,s9_2,s9_3,s9_4,s9_5,s9_6,s9_7,rfl⟩:=hd.shape;conv=>whnf
 refine cE hw (fun _ w' v w2=>cD w2 (Nf w' w2) v (cU (da x (cP f)) (-1))) (fun O w' r=>(zu (S:=Cf w iv9) (Rel.old r (bs w)) (cD.l (cD.rel hE r (bs w)) fun q hq=>by have:=hbr q hq;omega) ((hd.rel r (bs w)).l (by decide)) (by rw[iB];omega)).mono fun _ _ ⟨v2,e1,e2,e3⟩=>⟨v2,e1,e2,cD.cC e3.c fun g hg=>hg.new⟩) ?_;rintro O wa10 v10 wb10 iv10 r he hw h_ hn;replace hX:=cD.bz hX r (bs w) he (mC h_);replace hT:=cO.bz hT r (bs w) he (mC h_);clear hE;clear hd;have hG:=cD.cd (S:=fun _=>False) hn r.bu (mN h_);clear r he;clear hn;obtain⟨ag,cg,rfl,-,-⟩:=dY.shape hG;conv=>whnf
 refine cG (Φ:=fun _ w' v w2=>∃vu,v= .tuple #[vu,.bool true]∧dh w2 (Cf w iv10) w'.heap.size [(w'.heap.size,w2.heap.size)] vu (cK f).length u) (fun O w' r=>(C3 (C:=Cf w iv10) (S:=Cf w iv10) (h:=2830) (Rel.old r (bs w)) (Rel.old r (bs w)) (cO.rel hT r (bs w)) (cD.rel hG r (bs w)) (by rw[cU,aL,iB,dy];exact hxl) (fa _ _) (by omega) (by rw[dy];omega) (mJ (gi (fa _ _)) hwT lW (by omega)) (by decide)).mono fun _ _ ⟨v2,e1,e2,e3⟩=>⟨v2,e1,e2,by
  rcases e3 with⟨k1,_⟩|⟨x2,vx,k1,k2,k3⟩
  ·rw[hsolve]at k1;cases k1
  ·rw[hsolve]at k1;injection k1 with k1;subst k1;exact⟨vx,k2,k3⟩⟩) ?_
 rintro O wa11 v11 wb11 r he hb ⟨vu,rfl,hn⟩;replace hw:=hw.tr hb;replace hX:=cD.bz (iv':=(wa11.heap.size,wb11.heap.size)::iv10) hX r (bs w) he fun x hx=>aB _ hx;clear hT;clear hG;have hU:=hn.KN r.bu;clear r he hb;generalize (wa11.heap.size,wb11.heap.size)::iv10=iv11 at*
 clear hn;obtain⟨au,cu,rfl,hcu⟩:=hU.row.form;conv=>whnf
 intro ρe we re;exact⟨_,rfl,hw.tr re.cI,.inr ⟨hel,.inr ⟨hnr.symm.trans hfirm,x,u,_,_,hx,hu,rfl,cD.out hU.c re (bs w),cD.out hX re (bs w)⟩⟩⟩
theorem pick{α β γ:Type}{P:β->γ->Prop}(f:γ->α):∀(cs:List β) (xs:List α),cs.length=xs.length->(∀(j:Nat) c x,cs[j]? =some c->xs[j]? =some x->∃y,P c y∧f y=x)->∃ys:List γ,ys.map f=xs∧∀(j:Nat) c y,cs[j]? =some c->ys[j]? =some y->P c y
 |[],[],_,_=>⟨[],rfl,fun _ _ _ h=>by simp at h⟩
 |c::cs,x::xs,hl,h=>by
  obtain⟨y,h1,h2⟩:=h 0 c x rfl rfl;obtain⟨ys,h3,h4⟩:=pick f cs xs (by simpa using hl) fun j=>h (j+1);refine⟨y::ys,by rw[List.map_cons,h2,h3],fun j=>?_⟩
  cases j with
  |zero=>intro c' y' e1 e2;injection e1 with e1;injection e2 with e2;subst e1 e2;exact h1
  |succ j=>exact h4 j
 |[],_::_,hl,_=>by cases hl
 |_::_,[],hl,_=>by cases hl
section
variable{S:Nat->Prop}{w:World}{v u:Value}{M:List (List Rat)}{b:List Rat}{n h0:Nat}
end
theorem BW.AI(h:BW f)(hb:b.length=(cK f).length)(hr:kz (cK f) f.cols=(cK f).length):
  ∃x u,iG (cK f) f.cols (fun t=>(cP f).getD t 0) b x∧eU (dZ (cK f) f.cols) (cU (da x (cP f)) (-1)) (cK f).length=some u∧u.length=(cK f).length∧
   eU (ic (cK f) f.cols (cP f)) (b++qR f.cols) ((cK f).length+f.cols)=some (u++x):=by
 have hM:=fc f;obtain⟨x0,h0⟩:=zf (b:=b) hM hr;obtain⟨c,-,-,hx⟩:=h.CJ.force h0;obtain⟨u,hu⟩:=hx.J7 hM;obtain⟨k1,k2⟩:=CM hM hb hx hu;exact⟨_,u,hx,hu,(gk (fa _ _) hu).1,F1 (lu hM _) (Gq h.CJ hr) k1 k2⟩
def H6:List Int:=[0,0,0,0,0,0,-1,0,0]
def AJ:List Int:=[-3,3,9,0,0,-9,0,12,0]
def Fo:List Ld:=[(2,0,0,-12)]
abbrev KV:List Rat:=(dL H6).set 8 (Rat.divInt (-3) 2)
theorem KW:Rat.divInt 2000 1000=((2:Int):Rat):=by decide +kernel
theorem wB:iP eo Fo=0:=by decide +kernel
theorem Ce:p9 eo:=H5 (.inr ⟨by decide,by decide⟩) (by decide +kernel) (by decide +kernel) (jR wB).1
theorem BO:iG (cK eo) eo.cols (Dv eo) (cU (e9 eo Fo) (-1)) (dL AJ):=⟨by decide +kernel,by decide +kernel,by decide +kernel⟩
theorem Cg:kz (cK eo) eo.cols=9:=by decide +kernel
theorem KX:eU (dZ (cK eo) eo.cols) (cU (da (dL AJ) (cP eo)) (-1)) (cK eo).length=some KV:=by decide +kernel
set_option maxHeartbeats 1000000 in
theorem kf(w:World):di PG N.uP #[] w (dw w fun v' _=>v'= .bool true):=by
 have hw:cR w.heap.size w w:=cR.refl;refine xn (by simp) ?_;refine bw (cE hw (fun _ w' v w2=>∃vn vb vs,v= .agg #[vn,vb,vs]∧dU w2 (Nf w' w2) vn vb vs eo) (fun O w' r=>tq w') ?_);rintro O wa1 v1 wb1 iv1 r he hw h_ ⟨vn1,vb1,vs1,rfl,hn⟩;have hf:=hn.cd r.bu (mN h_);clear r;clear hn;obtain⟨an1,cn1,ab1,cb1,aq1,cq1,rfl,rfl,rfl,-,-,-⟩:=hf.shape;refine bw (cE hw (fun _ w' v w2=>∃vx,v= .tuple #[vx,.int .i64 0]∧cD w2 (Nf w' w2) vx (dL AJ)) (fun O w' r=>(Dw (S:=(fun g=>Cf w iv1 g∨g=(O 0).g)) (l:=Fo) (fun g hg=>hg.elim (Rel.old r (bs w) g) fun e=>by subst e;exact Rel.lt r (id:=0) rfl) (dU.cC (dU.rel hf r (bs w)) fun g hg=>.inl hg) (show iJ w' (fun g=>Cf w iv1 g∨g=(O 0).g) (.slice (some ⟨(O 0).g,0,none⟩) 1 1) Fo from⟨[[.int .i64 2,.int .i64 0,.int .i64 0,.int .i64 (-12)]],(r.oe (id:=0) (sz:=4) (n:=1) rfl rfl (by decide) (by repeat' first|refine List.forall_mem_cons.2 ⟨rfl,?_⟩|exact fun u hu=>absurd hu List.not_mem_nil)).cC fun g hg=>.inr hg,rfl,by simp,fun j cs x h1 h2=>by cases j with|zero=>(cases h1;cases h2;rfl)|succ j=>cases h2⟩) (fun _=>Ce)).mono fun _ _ ⟨v2,e1,e2,e3⟩=>⟨v2,e1,e2,e3.elim (fun h=>absurd wB h.1) fun h=>h.2.elim (fun g=>by obtain⟨z,hz⟩:=tC (fc eo) (x:=fun t=>(dL AJ).getD t 0) BO.eq;rw[g.1]at hz;cases hz) fun⟨x,vx,g,k1,k2⟩=>⟨vx,k1,Ce.CJ.one g BO▸k2⟩⟩) ?_);rintro O wa2 v2 wb2 iv2 r he hw h_ ⟨vx1,rfl,hn⟩;clear hf;have hx:=cD.cd (S:=fun _=>False) hn r.bu (mN h_);clear r;clear hn;obtain⟨ax1,cx1,rfl,-,-⟩:=dY.shape hx;refine bw (cE hw (fun _ w' v w2=>∃vn vb vs,v= .agg #[vn,vb,vs]∧dU w2 (Nf w' w2) vn vb vs eo) (fun O w' r=>tq w') ?_);rintro O wa3 v3 wb3 iv3 r he hw h_ ⟨vn2,vb2,vs2,rfl,hn⟩;replace hx:=cD.bz hx r (bs w) he (mC h_);have hf:=hn.cd r.bu (mN h_);clear r;clear hn;obtain⟨an2,cn2,ab2,cb2,aq2,cq2,rfl,rfl,rfl,-,-,-⟩:=hf.shape
 refine bw (cE hw (fun _ w' v w2=>∃vu vx,v= .tuple #[vu,vx,.int .i64 0]∧cD w2 (Nf w' w2) vu KV∧∃a n c,vx= .slice a n c) (fun O w' r=>(ja (S:=(fun g=>Cf w iv3 g∨g=(O 0).g)) (l:=Fo) (fun g hg=>hg.elim (Rel.old r (bs w) g) fun e=>by subst e;exact Rel.lt r (id:=0) rfl) (dU.cC (dU.rel hf r (bs w)) fun g hg=>.inl hg) (show iJ w' (fun g=>Cf w iv3 g∨g=(O 0).g) (.slice (some ⟨(O 0).g,0,none⟩) 1 1) Fo from⟨[[.int .i64 2,.int .i64 0,.int .i64 0,.int .i64 (-12)]],(r.oe (id:=0) (sz:=4) (n:=1) rfl rfl (by decide) (by repeat' first|refine List.forall_mem_cons.2 ⟨rfl,?_⟩|exact fun u hu=>absurd hu List.not_mem_nil)).cC fun g hg=>.inr hg,rfl,by simp,fun j cs x h1 h2=>by cases j with|zero=>(cases h1;cases h2;rfl)|succ j=>cases h2⟩) (fun _=>Ce)).mono fun _ _ ⟨v2,e1,e2,e3⟩=>⟨v2,e1,e2,e3.elim (fun h=>absurd wB h.1) fun h=>h.2.elim (fun g=>absurd g.1 (by rw[Cg];decide)) fun⟨_,x,u,vx,vu,g1,g2,e3,e4,e5⟩=>by
  obtain rfl:=Ce.CJ.one g1 BO;rw[KX]at g2;injection g2 with g2;subst g2;obtain⟨a,c,h,_⟩:=dY.shape e5
  exact⟨vu,vx,e3,e4,a,_,c,h⟩⟩) ?_)
 rintro O wa4 v4 wb4 iv4 r he hw h_ ⟨vu1,_,rfl,hn,ay1,ny1,cy1,rfl⟩;replace hx:=cD.bz hx r (bs w) he (mC h_);clear hf;have hu:=cD.cd (S:=fun _=>False) hn r.bu (mN h_);clear r;clear hn;obtain⟨au1,cu1,rfl,-,-⟩:=dY.shape hu;refine bw (cE hw (fun _ w' v w2=>∃vn vb vs,v= .agg #[vn,vb,vs]∧dU w2 (Nf w' w2) vn vb vs eo) (fun O w' r=>tq w') ?_);rintro O wa5 v5 wb5 iv5 r he hw h_ ⟨vn3,vb3,vs3,rfl,hn⟩;replace hx:=cD.bz hx r (bs w) he (mC h_);replace hu:=cD.bz hu r (bs w) he (mC h_);have hf:=hn.cd r.bu (mN h_);clear r;clear hn;obtain⟨an3,cn3,ab3,cb3,aq3,cq3,rfl,rfl,rfl,-,-,-⟩:=hf.shape;refine bw (cE hw (fun _ w' v w2=>v= .tuple #[Dn 9 0 0,.int .i64 0]) (fun O w' r=>(Fk (S:=Cf w iv5) (Rel.old r (bs w)) (dU.rel hf r (bs w)) (fun _=>Ce.toFrS)).mono fun _ _ ⟨v2,e1,e2,e3⟩=>⟨v2,e1,e2,e3.elim (fun h=>absurd (jR wB).1 h.1) fun h=>by rw[h.2,Cg];rfl⟩) ?_);rintro O wa6 v6 wb6 iv6 r he hw h_ rfl;replace hx:=cD.bz hx r (bs w) he (mC h_);replace hu:=cD.bz hu r (bs w) he (mC h_);clear hf;clear r
 refine bw (cE hw (fun _ w' v w2=>∃vr,v= .tuple #[vr,.int .i64 0]∧cM w2 (Nf w' w2) vr ((2:Int):Rat)) (fun O w' r=>(Dl 25 10 w' (by decide) (by decide) (by decide)).mono fun _ _ ⟨v2,e1,e2,vr,rt,e3,e4,e5,e6⟩=>⟨v2,e1,e2,vr,e3,by
  have:rt=2000:=Jf e4 e5 (by decide) (by decide);rw[this]at e6
  exact KW▸e6⟩) ?_)
 rintro O wa7 v7 wb7 iv7 r he hw h_ ⟨vr1,rfl,hn⟩;replace hx:=cD.bz hx r (bs w) he (mC h_);replace hu:=cD.bz hu r (bs w) he (mC h_);have hl:=hn.cd (S:=fun _=>False) r.bu (mN h_);clear r;obtain⟨s7_0a,s7_0b,s7_0c,s7_0d,s7_0e,s7_0f,s7_0g,s7_0h,rfl⟩:=hl.shape;clear hn;refine bw (cE hw (fun _ w' v w2=>∃q,v= .tuple #[q,.int .i64 0]∧cM w2 (Nf w' w2) q (Rat.divInt (-3) 2)) (fun O w' r=>(H7 (-3) 2 w' (by decide) (by decide) (by decide) (by decide)).mono fun _ _ ⟨v2,e1,e2,e3⟩=>⟨v2,e1,e2,e3.elim (fun k=>absurd k.1 (by decide)) fun h=>h.2⟩) ?_);rintro O wa8 v8 wb8 iv8 r he hw h_ ⟨q1,rfl,hn⟩;replace hx:=cD.bz hx r (bs w) he (mC h_);replace hu:=cD.bz hu r (bs w) he (mC h_);replace hl:=hl.bz r (bs w) he (mC h_);have hh:=hn.cd (S:=fun _=>False) r.bu (mN h_);clear r;obtain⟨s8_0a,s8_0b,s8_0c,s8_0d,s8_0e,s8_0f,s8_0g,s8_0h,rfl⟩:=hh.shape;clear hn;refine bw (cG (Φ:=fun _ w' v w2=>dh w2 (fun _=>False) w'.heap.size [(w'.heap.size,w2.heap.size)] v 9 (dL H6)) (fun O w' r=>Ca (S:=fun g=>g=(O 4).g) (fun g hg=>by subst hg;exact Rel.lt r (id:=4) rfl) (JD r (id:=4) (n:=9) (l:=H6) rfl rfl (by decide)) (by decide) (by decide) (by decide)) ?_);rintro O wa9 v9 wb9 r he hb hn;replace hw:=hw.tr hb;replace hx:=cD.cC (S':=Bs (fun _=>False) w.heap.size ((wa9.heap.size,wb9.heap.size)::iv8) v9) (cD.cB (cD.rel hx r (bs w)) fun g hg=>he.block g (Rel.old r (bs w) g hg)) fun g hg=>Bs.of r (bs w) (fun x hx=>aB _ hx) hn hg;replace hu:=cD.cC (S':=Bs (fun _=>False) w.heap.size ((wa9.heap.size,wb9.heap.size)::iv8) v9) (cD.cB (cD.rel hu r (bs w)) fun g hg=>he.block g (Rel.old r (bs w) g hg)) fun g hg=>Bs.of r (bs w) (fun x hx=>aB _ hx) hn hg;replace hl:=cM.cC (S':=Bs (fun _=>False) w.heap.size ((wa9.heap.size,wb9.heap.size)::iv8) v9) (cM.cB (hl.rel r (bs w)) fun g hg=>he.block g (Rel.old r (bs w) g hg)) fun g hg=>Bs.of r (bs w) (fun x hx=>aB _ hx) hn hg;replace hh:=cM.cC (S':=Bs (fun _=>False) w.heap.size ((wa9.heap.size,wb9.heap.size)::iv8) v9) (cM.cB (hh.rel r (bs w)) fun g hg=>he.block g (Rel.old r (bs w) g hg)) fun g hg=>Bs.of r (bs w) (fun x hx=>aB _ hx) hn hg;have hX:=hn.cd (S:=fun _=>False) r.bu (iv:=(wa9.heap.size,wb9.heap.size)::iv8) aH;clear r he hb hn;generalize (wa9.heap.size,wb9.heap.size)::iv8=iv9 at*
 obtain⟨ax,cx,rfl,hcx⟩:=hX.row.form;obtain⟨gx,rfl⟩:=hX.at (by decide);refine⟨⟨gx,0,none⟩,rfl,by omega,?_⟩;intro O w' r;obtain⟨g,hg,h1,h2,h3,h4,h5⟩:=(hX.rel r (bs w)).store (j:=8) (by decide) (hh.cB (Bs.same r (bs w))) r (bs w);injection hg with hg;injection hg with hg;subst hg;refine⟨h1,h2,h3,fun w5 hw5=>?_⟩;obtain⟨k1,k2,k3⟩:=h5 w5 hw5;have hw2:cR w.heap.size w w5:=(hw.tr r.cI).tr (cR.grown k2 (fun g e=>by injection e with e;subst e;exact h4.elim (fun h=>h.elim) fun h=>h.1) r.bu);have hx2:=cD.cC (S':=Cf w iv9) (cD.cB hx (Bs.kept r (bs w) k2 fun g e=>e)) fun g hg=>hg.1;have hu2:=cD.cC (S':=Cf w iv9) (cD.cB hu (Bs.kept r (bs w) k2 fun g e=>e)) fun g hg=>hg.1;have hl2:=cM.cC (S':=Cf w iv9) (cM.cB hl (Bs.kept r (bs w) k2 fun g e=>e)) fun g hg=>hg.1;have hd2:=k1.c;clear hX hx hu hl hh hw h1 h2 h3 h4 h5 hw5 k1 k2 k3 r;have hw:=hw2;have hx:=hx2;have hu:=hu2;have hl:=hl2;have hd:=hd2;clear hw2 hx2 hu2 hl2 hd2;refine cF hτ dc [.x 0,.x 1,.x 2,.x 3,.x 4,.x 5,.x 6,.x 7,.x 8,.x 9,.x 10,.x 11,.x 12,.x 13,.x 14,.x 15,.x 16,.x 17,.x 18,.x 19,.x 20,.x 21,.x 22,.x 23,.x 24,.x 25,.x 26,.x 27,.x 28,.x 29,.x 30,.x 31,.x 32,.x 33,.x 34,.x 35] (by kernel_rfl) (by kernel_rfl) ?_;refine cE hw (fun _ w' v w2=>dh w2 (fun _=>False) w'.heap.size [(w'.heap.size,w2.heap.size)] v 9 (dL AJ)) (fun O w' r=>Ca (S:=fun g=>g=(O 5).g) (fun g hg=>by subst hg;exact Rel.lt r (id:=5) rfl) (JD r (id:=5) (n:=9) (l:=AJ) rfl rfl (by decide)) (by decide) (by decide) (by decide)) ?_;rintro O wa10 v10 wb10 iv10 r he hw h_ hn;replace hx:=cD.bz hx r (bs w) he (mC h_);replace hu:=cD.bz hu r (bs w) he (mC h_);replace hl:=hl.bz r (bs w) he (mC h_);replace hd:=cD.bz hd r (bs w) he (mC h_);have hX:=hn.cd (S:=fun _=>False) r.bu (mN h_);clear r he hn;have hv:=hX.c;clear hX;obtain⟨av,cv,rfl,-,-⟩:=dY.shape hv;refine cE hw (fun _ w' v w2=>v= .bool true) (fun O w' r=>(yU (S:=Cf w iv10) (Rel.old r (bs w)) (cD.rel hx r (bs w)) (cD.rel hv r (bs w))).mono fun _ _ ⟨v2,e1,e2,e3⟩=>⟨v2,e1,e2,by rw[e3];exact congrArg _ (bT rfl)⟩) ?_;rintro O wa11 v11 wb11 iv11 r he hw h_ rfl;clear hx;replace hu:=cD.bz hu r (bs w) he (mC h_);replace hl:=hl.bz r (bs w) he (mC h_);replace hd:=cD.bz hd r (bs w) he (mC h_);clear hv;clear r he;refine cE hw (fun _ w' v w2=>v= .bool true) (fun O w' r=>(yU (S:=Cf w iv11) (Rel.old r (bs w)) (cD.rel hu r (bs w)) (cD.rel hd r (bs w))).mono fun _ _ ⟨v2,e1,e2,e3⟩=>⟨v2,e1,e2,by rw[e3];exact congrArg _ (bT rfl)⟩) ?_;rintro O wa12 v12 wb12 iv12 r he hw h_ rfl;clear hu;replace hl:=hl.bz r (bs w) he (mC h_);clear hd;clear r he;refine⟨true,fun O w o1 o2=>Ic 9 0 0 9 0 0 w o1 o2,?_⟩;refine cE hw (fun _ w' v w2=>cM w2 (Nf w' w2) v ((2:Int):Rat)) (fun O w' r=>sU 2 w' (by decide)) ?_;rintro O wa13 v13 wb13 iv13 r he hw h_ hn;replace hl:=hl.bz r (bs w) he (mC h_);have ht:=hn.cd (S:=fun _=>False) r.bu (mN h_);clear r he hn;obtain⟨s13_0,s13_1,s13_2,s13_3,s13_4,s13_5,s13_6,s13_7,rfl⟩:=ht.shape;refine cE hw (fun _ w' v w2=>v= .bool true) (fun O w' r=>(H8 (S:=Cf w iv13) (Rel.old r (bs w)) (hl.rel r (bs w)) (ht.rel r (bs w))).mono fun _ _ ⟨v2,e1,e2,e3⟩=>⟨v2,e1,e2,by rw[e3];exact congrArg _ (bT rfl)⟩) ?_;rintro O wa14 v14 wb14 iv14 r he hw h_ rfl;clear hl;clear ht;clear r he;intro ρe we re;exact⟨_,rfl,hw.tr re.cI,rfl⟩
theorem KU(h:p9 f)(hx:x.length=f.cols)(hq:∀q∈x,rl q<=200):rl (DY f x)<=8000:=by
 have hc:=h.Gr;have h1:=jC (h:=204) (xs:=x) (ys:=Fl f x) (fun q hq2=>by have:=hq q hq2;omega) (fun q hq2=>by have:=Ie h (Nat.le_of_eq hx) hq q hq2;omega) (by decide) x.length;have h2:=iW (Rat.divInt 1 2) (de x (Fl f x) x.length);have h3:rl (Rat.divInt 1 2)<=2:=by decide
 rw[Jk hx]at h2;omega
end Go.Ex
namespace Go.Ex
variable{f:ei}
section
variable{M:List (List Rat)}{n:Nat}{fl p q x y u v:List Rat}
theorem DZ(p:List Rat)(c:Rat)(i:Nat):(cU p c).getD i 0=p.getD i 0*c:=by
 rw[cU,List.getD,aM,List.getD]
 cases p[i]? with
 |none=>exact(bA c).symm
 |some a=>rfl
theorem tM(hx:∀j,j<M.length->mulR M n (fun t=>x.getD t 0) j=(cU p (-1)).getD j 0)(hp:p.length=M.length)(hyl:y.length=n)(hv:eU (dZ M n) (cU (da y fl) (-1)) M.length=some v):
  de p v p.length=nu (fun t=>fl.getD t 0) (fun t=>x.getD t 0) (fun t=>y.getD t 0) n:=by
 obtain⟨-,v2⟩:=gk (fa M n) hv;rw[dy]at v2;rw[oC,hp];have e1:∀i,i<M.length->p.getD i 0*v.getD i 0=cQ (fun t=> -(x.getD t 0*(cY M i t*v.getD i 0))) n:=fun i hi=>by
  have h1:=hx i hi;rw[DZ]at h1;unfold mulR at h1;rw[jB,cA (g:=fun t=>(cY M i t*x.getD t 0)*v.getD i 0) fun t _=>by grind,jN,h1];grind
 rw[cA e1,kN];unfold nu;refine cA fun t ht=>?_;have h2:=v2 t ht;rw[zc ht,qT y fl hyl ht]at h2;rw[jB,eE,h2];grind
theorem KI(hx:iG M n (fun t=>fl.getD t 0) (cU p (-1)) x)(hy:iG M n (fun t=>fl.getD t 0) (cU q (-1)) y)(hp:p.length=M.length)(hq:q.length=M.length)(hu:eU (dZ M n) (cU (da x fl) (-1)) M.length=some u)(hv:eU (dZ M n) (cU (da y fl) (-1)) M.length=some v):
  de p v p.length=de q u q.length:=by
 rw[tM hx.eq hp hy.len hv,tM hy.eq hq hx.len hu,oA]
end
theorem Gw{p x u:List Rat}(hx:iG (cK f) f.cols (fun t=>(cP f).getD t 0) (cU p (-1)) x)(hp:p.length=(cK f).length)(hu:eU (dZ (cK f) f.cols) (cU (da x (cP f)) (-1)) (cK f).length=some u):
  de p u p.length=DY f x+DY f x:=by
 rw[tM hx.eq hp hx.len hu];unfold DY;have:(Rat.divInt 1 2)+(Rat.divInt 1 2)=1:=by decide +kernel
 grind
theorem p9.Gx{b x u:List Rat}(h:p9 f)(hb:Bl b)(hbl:b.length=(cK f).length)(hx:iG (cK f) f.cols (fun t=>(cP f).getD t 0) b x)(hu:eU (dZ (cK f) f.cols) (cU (da x (cP f)) (-1)) (cK f).length=some u):∀q∈u,rl q<=2827:=fun q hq=>by
 obtain⟨D,hD⟩:=rS (fa _ _) (h.zg hx.len (h.DX hb hbl hx)) lW hu;have h1:=hD.rl q hq;have h2:=h.xZ (b:=cU (da x (cP f)) (-1));rw[show (dP (dZ (cK f) f.cols) (cU (da x (cP f)) (-1))).length=(dZ (cK f) f.cols).length from List.length_mapIdx ..]at h2;omega
end Go.Ex
namespace Go.Ex
open Go Go.Sx Go.Proofs
variable{S:Nat->Prop}
set_option maxHeartbeats 2000000 in
set_option maxRecDepth 8000 in
theorem pU{w:World}{vn vb vs v vm:Value}{f:Dp}{l m:List Ld}(hS:Old S w)(hF:og w S vn vb vs f)(hl:iJ w S v l)(hm:iJ w S vm m):
  di PG N.ig #[.agg #[vn,vb,vs],v,vm] w (dw w fun v' _=>v'= .bool true):=by
 have hw:cR w.heap.size w w:=cR.refl;obtain⟨an,cn,rfl,-,-⟩:=hF.nodes.shape;obtain⟨ab,cb,rfl,-,-⟩:=hF.bars.shape;obtain⟨aq,cq,rfl,-,-⟩:=hF.cS.shape;obtain⟨al,cl,rfl,-,-⟩:=hl.shape;obtain⟨am,cm,rfl,-,-⟩:=hm.shape;refine kZ (by simp) ?_;refine bw (cE hw (fun _ w' v w2=>∃d,v= .bool d∧(d=true->dU w S (.slice an f.nodes.length cn) (.slice ab f.bars.length cb) (.slice aq f.cS.length cq) f.val∧(∀b∈f.val.bars,rl b.2.2<=3)∧(∀b∈f.val.cS,rl b.2.2<=3)∧(dx f.val≠0∨f.val.nodes.length<=4∧f.val.bars.length<=6))) (fun O w' r=>Fi hS hw r hF) ?_);rintro O wa1 v1 wb1 iv1 r he hw h_ ⟨d1,rfl,hz1⟩;clear r
 cases d1
 ·conv=>whnf
  refine bw (cE hw (fun _ w' v w2=>v= .bool true) (fun O w' r=>kf w') ?_);rintro O wa2 v2 wb2 iv2 r he hw h_ rfl;clear r;intro ρe we re;exact⟨_,rfl,hw.tr re.cI,rfl⟩
 have hz1:=hz1 rfl;refine bw (cE hw (fun _ w' v w2=>∃d,v= .bool d) (fun O w' r=>H2 (hl.cB (kS hw r hS))) ?_);rintro O wa2 v2 wb2 iv2 r he hw h_ ⟨d2,rfl⟩;clear r
 cases d2
 ·conv=>whnf
  refine bw (cE hw (fun _ w' v w2=>v= .bool true) (fun O w' r=>kf w') ?_);rintro O wa3 v3 wb3 iv3 r he hw h_ rfl;clear r;intro ρe we re;exact⟨_,rfl,hw.tr re.cI,rfl⟩
 refine bw (cE hw (fun _ w' v w2=>∃d,v= .bool d) (fun O w' r=>H2 (hm.cB (kS hw r hS))) ?_);rintro O wa3 v3 wb3 iv3 r he hw h_ ⟨d3,rfl⟩;clear r
 cases d3
 ·conv=>whnf
  refine bw (cE hw (fun _ w' v w2=>v= .bool true) (fun O w' r=>kf w') ?_);rintro O wa4 v4 wb4 iv4 r he hw h_ rfl;clear r;intro ρe we re;exact⟨_,rfl,hw.tr re.cI,rfl⟩
 obtain⟨hR,hrb,hrs,hsm⟩:=hz1;obtain⟨fv,hfv⟩:∃fv,f.val=fv:=⟨_,rfl⟩
 rw[hfv]at hR hrb hrs hsm;obtain⟨en,eb,es⟩:f.nodes.length=fv.nodes.length∧f.bars.length=fv.bars.length∧f.cS.length=fv.cS.length:=by rw[<-hfv];exact⟨rfl,(aL ..).symm,(aL ..).symm⟩
 rw[en,eb,es]at hR ⊢;clear hF hfv en eb es;have hsf:dx fv=0->p9 fv:=H5 hsm hrb hrs;obtain⟨e0,Ee0⟩:∃e,iP fv l=e:=⟨_,rfl⟩
 refine bw (cE hw (fun _ w' v w2=>v= .int .i64 e0) (fun O w' r=>(sY (oS hS r) (hR.cB (kS hw r hS)) (hl.cB (kS hw r hS))).mono fun _ _ ⟨v2,e1,e2,e3⟩=>⟨v2,e1,e2,by rw[e3,Ee0]⟩) ?_);rintro O wa4 v4 wb4 iv4 r he hw h_ rfl;clear r;refine dF.mk (fun hd=>?_) (fun hd=>?_)
 ·conv=>whnf
  refine bw (cE hw (fun _ w' v w2=>v= .bool true) (fun O w' r=>kf w') ?_);rintro O wa5 v5 wb5 iv5 r he hw h_ rfl;clear r;intro ρe we re;exact⟨_,rfl,hw.tr re.cI,rfl⟩
 have he0:e0=0:=by simpa using hd
 rw[he0]at Ee0;clear hd;obtain⟨e1,Ee1⟩:∃e,iP fv m=e:=⟨_,rfl⟩
 refine bw (cE hw (fun _ w' v w2=>v= .int .i64 e1) (fun O w' r=>(sY (oS hS r) (hR.cB (kS hw r hS)) (hm.cB (kS hw r hS))).mono fun _ _ ⟨v2,e1,e2,e3⟩=>⟨v2,e1,e2,by rw[e3,Ee1]⟩) ?_);rintro O wa5 v5 wb5 iv5 r he hw h_ rfl;clear r;refine dF.mk (fun hd=>?_) (fun hd=>?_)
 ·conv=>whnf
  refine bw (cE hw (fun _ w' v w2=>v= .bool true) (fun O w' r=>kf w') ?_);rintro O wa6 v6 wb6 iv6 r he hw h_ rfl;clear r;intro ρe we re;exact⟨_,rfl,hw.tr re.cI,rfl⟩
 have he1:e1=0:=by simpa using hd
 rw[he1]at Ee1;clear hd;obtain⟨herr,hld⟩:=jR Ee0;obtain⟨-,hmd⟩:=jR Ee1;have hfb:=hsf herr;have hfs:=hfb.toFrS;have hld:=vz hld;have hmd:=vz hmd;have hbl:=yT hld;have hbm:=yT hmd;have hn20:=hfs.n;have hr12:=hfs.IS;have htl:=gl fv;have hbll:(cU (e9 fv l) (-1)).length=(cK fv).length:=by rw[cU,aL,ir,gl]
 have hbml:(cU (e9 fv m) (-1)).length=(cK fv).length:=by rw[cU,aL,ir,gl]
 by_cases hfirm:kz (cK fv) fv.cols=(cK fv).length
 ·obtain⟨x0,u0,hx0,hu0,hu0l,-⟩:=hfs.AI (b:=cU (e9 fv l) (-1)) hbll hfirm;have hx0r:=hfb.Gv hbl hbll hx0;have hx0l:=hx0.len;have hu0r:=hfb.Gx hbl hbll hx0 hu0;have honel:∀{x2 u2},iG (cK fv) fv.cols (Dv fv) (cU (e9 fv l) (-1)) x2->eU (dZ (cK fv) fv.cols) (cU (da x2 (cP fv)) (-1)) (cK fv).length=some u2->x2=x0∧u2=u0:=fun g1 g2=>by
   obtain rfl:=hfb.CJ.one g1 hx0;rw[hu0]at g2;injection g2 with g2;exact⟨rfl,g2.symm⟩
  obtain⟨y0,v0,hy0,hv0,hv0l,-⟩:=hfs.AI (b:=cU (e9 fv m) (-1)) hbml hfirm;have hy0r:=hfb.Gv hbm hbml hy0;have hy0l:=hy0.len;have hv0r:=hfb.Gx hbm hbml hy0 hv0;have honem:∀{x2 u2},iG (cK fv) fv.cols (Dv fv) (cU (e9 fv m) (-1)) x2->eU (dZ (cK fv) fv.cols) (cU (da x2 (cP fv)) (-1)) (cK fv).length=some u2->x2=y0∧u2=v0:=fun g1 g2=>by
   obtain rfl:=hfb.CJ.one g1 hy0;rw[hv0]at g2;injection g2 with g2;exact⟨rfl,g2.symm⟩
  refine bw (cE hw (fun _ w' v w2=>∃vu vx,v= .tuple #[vu,vx,.int .i64 0]∧cD w2 (Nf w' w2) vu u0∧cD w2 (Nf w' w2) vx x0) (fun O w' r=>(ja (oS hS r) (hR.cB (kS hw r hS)) (hl.cB (kS hw r hS)) hsf).mono fun _ _ ⟨v2,e1,e2,e3⟩=>⟨v2,e1,e2,e3.elim (fun h=>absurd Ee0 h.1) fun h=>h.2.elim (fun g=>absurd g.1 (by omega)) fun⟨_,x2,u2,vx,vu,g1,g2,e3,e4,e5⟩=>by obtain⟨rfl,rfl⟩:=honel g1 g2;exact⟨vu,vx,e3,e4,e5⟩⟩) ?_);rintro O wa6 v6 wb6 iv6 r he hw h_ ⟨qhu,qhx,rfl,hn,hn2⟩;have hu:=cD.cd (S:=fun _=>False) hn r.bu (mN h_);have hx:=cD.cd (S:=fun _=>False) hn2 r.bu (mN h_);clear r;obtain⟨ahu,chu,rfl,-,-⟩:=dY.shape hu;obtain⟨ahx,chx,rfl,-,-⟩:=dY.shape hx;clear hn hn2;refine bw (cE hw (fun _ w' v w2=>∃vu vx,v= .tuple #[vu,vx,.int .i64 0]∧cD w2 (Nf w' w2) vu v0∧cD w2 (Nf w' w2) vx y0) (fun O w' r=>(ja (oS hS r) (hR.cB (kS hw r hS)) (hm.cB (kS hw r hS)) hsf).mono fun _ _ ⟨v2,e1,e2,e3⟩=>⟨v2,e1,e2,e3.elim (fun h=>absurd Ee1 h.1) fun h=>h.2.elim (fun g=>absurd g.1 (by omega)) fun⟨_,x2,u2,vx,vu,g1,g2,e3,e4,e5⟩=>by obtain⟨rfl,rfl⟩:=honem g1 g2;exact⟨vu,vx,e3,e4,e5⟩⟩) ?_);rintro O wa7 v7 wb7 iv7 r he hw h_ ⟨qhv,qhy,rfl,hn,hn2⟩;replace hu:=cD.bz hu r (bs w) he (mC h_);replace hx:=cD.bz hx r (bs w) he (mC h_);have hv:=cD.cd (S:=fun _=>False) hn r.bu (mN h_);have hy:=cD.cd (S:=fun _=>False) hn2 r.bu (mN h_);clear r;obtain⟨ahv,chv,rfl,-,-⟩:=dY.shape hv;obtain⟨ahy,chy,rfl,-,-⟩:=dY.shape hy;clear hn hn2;refine⟨((3*fv.nodes.length:Nat):Int),wo,?_⟩;refine dF.mk (fun hd=>absurd (show (u0.length:Int)=((3*fv.nodes.length:Nat):Int) by omega) (by simpa using hd)) (fun _=>?_);refine dF.mk (fun hd=>absurd (show (v0.length:Int)=(u0.length:Int) by omega) (by simpa using hd)) (fun _=>?_);clear hy;refine cF hτ dc [.x 0,.x 1,.x 3,.x 4,.x 2,.x 5,.x 6,.x 7] (by kernel_rfl) (by kernel_rfl) ?_;refine cE hw (fun _ w' v w2=>cD w2 (Nf w' w2) v (e9 fv l)) (fun O w' r=>AE (oS hS r) (hR.cB (kS hw r hS)) (hl.cB (kS hw r hS)) hn20 hld) ?_;rintro O wa8 v8 wb8 iv8 r he hw h_ hn;replace hu:=cD.bz hu r (bs w) he (mC h_);replace hx:=cD.bz hx r (bs w) he (mC h_);replace hv:=cD.bz hv r (bs w) he (mC h_);have hpl:=cD.cd (S:=fun _=>False) hn r.bu (mN h_);clear r;clear hn;obtain⟨apl,cpl,rfl,-,-⟩:=dY.shape hpl;refine cE hw (fun _ w' v w2=>cD w2 (Nf w' w2) v (e9 fv m)) (fun O w' r=>AE (oS hS r) (hR.cB (kS hw r hS)) (hm.cB (kS hw r hS)) hn20 hmd) ?_;rintro O wa9 v9 wb9 iv9 r he hw h_ hn;replace hu:=cD.bz hu r (bs w) he (mC h_);replace hx:=cD.bz hx r (bs w) he (mC h_);replace hv:=cD.bz hv r (bs w) he (mC h_);replace hpl:=cD.bz hpl r (bs w) he (mC h_);have hpm:=cD.cd (S:=fun _=>False) hn r.bu (mN h_);clear r;clear hn;obtain⟨apm,cpm,rfl,-,-⟩:=dY.shape hpm;refine bw (cE hw (fun _ w' v w2=>∃q,v= .tuple #[q,.int .i64 0]∧cM w2 (Nf w' w2) q (DY fv x0)) (fun O w' r=>(Fm (S:=fun g=>S g∨Cf w iv9 g) (fun g hg=>hg.elim (oS hS r g) (Rel.old r (bs w) g)) (dU.cC (hR.cB (kS hw r hS)) fun g hg=>.inl hg) hsf (dX.cC (cD.l (cD.rel hx r (bs w)) fun q hq=>by have:=hx0r q hq;omega) fun g hg=>.inr hg) (fun q hq=>by have:=hx0r q hq;omega)).mono fun _ _ ⟨v2,e1,e2,e3⟩=>⟨v2,e1,e2,e3.elim (fun h=>absurd herr h.1) fun h=>h.2.elim (fun g=>absurd hx0l g.1) fun g=>g.2⟩) ?_);rintro O wa10 v10 wb10 iv10 r he hw h_ ⟨qhn1,rfl,hn⟩;replace hu:=cD.bz hu r (bs w) he (mC h_);clear hx;replace hv:=cD.bz hv r (bs w) he (mC h_);replace hpl:=cD.bz hpl r (bs w) he (mC h_);replace hpm:=cD.bz hpm r (bs w) he (mC h_);have hn1:=cM.cd (S:=fun _=>False) hn r.bu (mN h_);clear r;clear hn;obtain⟨s0,s1,s2,s3,s4,s5,s6,s7,rfl⟩:=hn1.shape;have hvlr:∀q∈e9 fv l,rl q<=1:=Eo hn20 hld;have hvmr:∀q∈e9 fv m,rl q<=1:=Eo hn20 hmd;have hvl:(e9 fv l).length=3*fv.nodes.length:=ir fv l;have hvm:(e9 fv m).length=3*fv.nodes.length:=ir fv m;have her:=KU hfb hx0l fun q hq=>by have:=hx0r q hq;omega
  have hee:=KI (fl:=cP fv) hx0 hy0 (by omega) (by omega) hu0 hv0;have he2:=Gw hx0 (by omega) hu0;refine cF hτ dc [.x 0,.x 1,.x 2,.x 3,.x 4,.x 6,.x 7,.x 5,.x 8,.x 9,.x 10,.x 11,.x 12,.x 13,.x 14,.x 16,.x 17,.x 15,.x 18,.x 19,.x 20,.x 21,.x 22,.x 23,.x 24,.x 25] (by kernel_rfl) (by kernel_rfl) ?_;refine cE hw (fun _ w' v w2=>cM w2 (Nf w' w2) v (de (e9 fv l) v0 (e9 fv l).length)) (fun O w' r=>Dx (S:=Cf w iv10) (h:=2830) (Rel.old r (bs w)) (cD.l (cD.rel hpl r (bs w)) fun q hq=>by have:=hvlr q hq;omega) (cD.l (cD.rel hv r (bs w)) fun q hq=>by have:=hv0r q hq;omega) (by omega) (fun q hq=>by have:=hvlr q hq;omega) (fun q hq=>by have:=hv0r q hq;omega) (by decide) (by omega)) ?_;rintro O wa11 v11 wb11 iv11 r he hw h_ hn;replace hu:=cD.bz hu r (bs w) he (mC h_);replace hv:=cD.bz hv r (bs w) he (mC h_);replace hpl:=cD.bz hpl r (bs w) he (mC h_);replace hpm:=cD.bz hpm r (bs w) he (mC h_);replace hn1:=hn1.bz r (bs w) he (mC h_);have hd1:=hn.cd (S:=fun _=>False) r.bu (mN h_);clear r;obtain⟨s11_0,s11_1,s11_2,s11_3,s11_4,s11_5,s11_6,s11_7,rfl⟩:=hd1.shape;have hhd1r:=jC (h:=2830) (xs:=(e9 fv l)) (ys:=v0) (fun q hq=>by have:=hvlr q hq;omega) (fun q hq=>by have:=hv0r q hq;omega) (by decide) (e9 fv l).length;refine cE hw (fun _ w' v w2=>cM w2 (Nf w' w2) v (de (e9 fv m) u0 (e9 fv m).length)) (fun O w' r=>Dx (S:=Cf w iv11) (h:=2830) (Rel.old r (bs w)) (cD.l (cD.rel hpm r (bs w)) fun q hq=>by have:=hvmr q hq;omega) (cD.l (cD.rel hu r (bs w)) fun q hq=>by have:=hu0r q hq;omega) (by omega) (fun q hq=>by have:=hvmr q hq;omega) (fun q hq=>by have:=hu0r q hq;omega) (by decide) (by omega)) ?_;rintro O wa12 v12 wb12 iv12 r he hw h_ hn;replace hu:=cD.bz hu r (bs w) he (mC h_);replace hv:=cD.bz hv r (bs w) he (mC h_);replace hpl:=cD.bz hpl r (bs w) he (mC h_);replace hpm:=cD.bz hpm r (bs w) he (mC h_);replace hn1:=hn1.bz r (bs w) he (mC h_);replace hd1:=hd1.bz r (bs w) he (mC h_);have hd2:=hn.cd (S:=fun _=>False) r.bu (mN h_);clear r;obtain⟨s12_0,s12_1,s12_2,s12_3,s12_4,s12_5,s12_6,s12_7,rfl⟩:=hd2.shape;have hhd2r:=jC (h:=2830) (xs:=(e9 fv m)) (ys:=u0) (fun q hq=>by have:=hvmr q hq;omega) (fun q hq=>by have:=hu0r q hq;omega) (by decide) (e9 fv m).length;refine cE hw (fun _ w' v w2=>v= .int .i64 0) (fun O w' r=>(H9 (S:=Cf w iv12) (Rel.old r (bs w)) ((hd1.rel r (bs w)).l (by omega)) ((hd2.rel r (bs w)).l (by omega))).mono fun _ _ ⟨v2,e1,e2,e3⟩=>⟨v2,e1,e2,by rw[e3,JI.2 hee]⟩) ?_;rintro O wa13 v13 wb13 iv13 r he hw h_ rfl;replace hu:=cD.bz hu r (bs w) he (mC h_);clear hv;replace hpl:=cD.bz hpl r (bs w) he (mC h_);clear hpm;replace hn1:=hn1.bz r (bs w) he (mC h_);clear hd1;clear hd2;clear r;refine cE hw (fun _ w' v w2=>cM w2 (Nf w' w2) v (de (e9 fv l) u0 (e9 fv l).length)) (fun O w' r=>Dx (S:=Cf w iv13) (h:=2830) (Rel.old r (bs w)) (cD.l (cD.rel hpl r (bs w)) fun q hq=>by have:=hvlr q hq;omega) (cD.l (cD.rel hu r (bs w)) fun q hq=>by have:=hu0r q hq;omega) (by omega) (fun q hq=>by have:=hvlr q hq;omega) (fun q hq=>by have:=hu0r q hq;omega) (by decide) (by omega)) ?_;rintro O wa14 v14 wb14 iv14 r he hw h_ hn;replace hu:=cD.bz hu r (bs w) he (mC h_);replace hpl:=cD.bz hpl r (bs w) he (mC h_);replace hn1:=hn1.bz r (bs w) he (mC h_);have hd3:=hn.cd (S:=fun _=>False) r.bu (mN h_);clear r;obtain⟨s14_0,s14_1,s14_2,s14_3,s14_4,s14_5,s14_6,s14_7,rfl⟩:=hd3.shape;have hhd3r:=jC (h:=2830) (xs:=(e9 fv l)) (ys:=u0) (fun q hq=>by have:=hvlr q hq;omega) (fun q hq=>by have:=hu0r q hq;omega) (by decide) (e9 fv l).length;refine cE hw (fun _ w' v w2=>cM w2 (Nf w' w2) v (DY fv x0+DY fv x0)) (fun O w' r=>Dy (Rel.old r (bs w)) ((hn1.rel r (bs w)).l (by omega)) ((hn1.rel r (bs w)).l (by omega))) ?_;rintro O wa15 v15 wb15 iv15 r he hw h_ hn;replace hu:=cD.bz hu r (bs w) he (mC h_);replace hpl:=cD.bz hpl r (bs w) he (mC h_);replace hn1:=hn1.bz r (bs w) he (mC h_);replace hd3:=hd3.bz r (bs w) he (mC h_);have hd4:=hn.cd (S:=fun _=>False) r.bu (mN h_);clear r;obtain⟨s15_0,s15_1,s15_2,s15_3,s15_4,s15_5,s15_6,s15_7,rfl⟩:=hd4.shape;have hd4r:=ml (DY fv x0) (DY fv x0);refine cE hw (fun _ w' v w2=>v= .int .i64 0) (fun O w' r=>(H9 (S:=Cf w iv15) (Rel.old r (bs w)) ((hd3.rel r (bs w)).l (by omega)) ((hd4.rel r (bs w)).l (by omega))).mono fun _ _ ⟨v2,e1,e2,e3⟩=>⟨v2,e1,e2,by rw[e3,JI.2 he2]⟩) ?_;rintro O wa16 v16 wb16 iv16 r he hw h_ rfl;replace hu:=cD.bz hu r (bs w) he (mC h_);replace hpl:=cD.bz hpl r (bs w) he (mC h_);replace hn1:=hn1.bz r (bs w) he (mC h_);clear hd3;clear hd4;clear r;refine cE hw (fun _ w' v w2=>v= .bool true) (fun O w' r=>kf w') ?_;rintro O wa17 v17 wb17 iv17 r he hw h_ rfl;replace hu:=cD.bz hu r (bs w) he (mC h_);replace hpl:=cD.bz hpl r (bs w) he (mC h_);replace hn1:=hn1.bz r (bs w) he (mC h_);clear r;intro ρe we re;exact⟨_,rfl,hw.tr re.cI,rfl⟩
 have hlt:kz (cK fv) fv.cols<(cK fv).length:=by have:=(j9 (cK fv) fv.cols (fc fv)).1;rw[dg]at this;exact Nat.lt_of_le_of_ne this hfirm
 refine bw (cE hw (fun _ w' v w2=>v= .tuple #[.slice none 0 0,.slice none 0 0,.int .i64 17]) (fun O w' r=>(ja (oS hS r) (hR.cB (kS hw r hS)) (hl.cB (kS hw r hS)) hsf).mono fun _ _ ⟨v2,e1,e2,e3⟩=>⟨v2,e1,e2,e3.elim (fun h=>absurd Ee0 h.1) fun h=>h.2.elim (fun g=>g.2) fun g=>absurd g.1 hfirm⟩) ?_);rintro O wa6 v6 wb6 iv6 r he hw h_ rfl;clear r;refine bw (cE hw (fun _ w' v w2=>v= .tuple #[.slice none 0 0,.slice none 0 0,.int .i64 17]) (fun O w' r=>(ja (oS hS r) (hR.cB (kS hw r hS)) (hm.cB (kS hw r hS)) hsf).mono fun _ _ ⟨v2,e1,e2,e3⟩=>⟨v2,e1,e2,e3.elim (fun h=>absurd Ee1 h.1) fun h=>h.2.elim (fun g=>g.2) fun g=>absurd g.1 hfirm⟩) ?_);rintro O wa7 v7 wb7 iv7 r he hw h_ rfl;clear r;refine bw (cE hw (fun _ w' v w2=>v= .bool true) (fun O w' r=>kf w') ?_);rintro O wa8 v8 wb8 iv8 r he hw h_ rfl;clear r;intro ρe we re;exact⟨_,rfl,hw.tr re.cI,rfl⟩
end Go.Ex
