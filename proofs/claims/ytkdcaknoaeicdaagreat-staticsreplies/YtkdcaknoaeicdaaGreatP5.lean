/- A part of the proof: texts X22 to X47. Each tells its conditions in its theorems. -/
import Derived.Test.YtkdcaknoaeicdaaGreatP2
import Derived.Test.YtkdcaknoaeicdaaGreatP3
import Derived.Test.YtkdcaknoaeicdaaGreatP4
namespace Go.Ex
open Go Go.Sx Go.Proofs
def fb(w:World)(S:Nat->Prop)(v:Value)(a b:Int):Prop:=∃b1 l1 b2 l2,v= .agg #[.bool b1,l1,.bool b2,l2]∧gg w S (.agg #[.bool b1,l1]) a∧gg w S (.agg #[.bool b2,l2]) b
theorem fb.bu{S:Nat->Prop}{w w2:World}{v:Value}{a b:Int}(h:fb w S v a b)(hk:∀g,S g->w2.heap[g]? =w.heap[g]?):fb w2 S v a b:=by
 obtain⟨b1,l1,b2,l2,h1,h2,h3⟩:=h;exact⟨b1,l1,b2,l2,h1,h2.bu hk,h3.bu hk⟩
theorem fb.bz{S S':Nat->Prop}{w:World}{v:Value}{a b:Int}(h:fb w S v a b)(hk:∀g,S g->S' g):fb w S' v a b:=by
 obtain⟨b1,l1,b2,l2,h1,h2,h3⟩:=h;exact⟨b1,l1,b2,l2,h1,h2.bz hk,h3.bz hk⟩
theorem fb.shape{S:Nat->Prop}{w:World}{v:Value}{x y:Int}(h:fb w S v x y):∃b a n c b2 a2 n2 c2,v= .agg #[.bool b,.slice a n c,.bool b2,.slice a2 n2 c2]:=by
 obtain⟨b1,l1,b2,l2,h1,h2,h3⟩:=h;obtain⟨_,a,n,c,h4⟩:=h2.shape;obtain⟨_,a2,n2,c2,h5⟩:=h3.shape;simp at h4 h5;obtain⟨rfl,rfl⟩:=h4;obtain⟨rfl,rfl⟩:=h5;exact⟨_,a,n,c,_,a2,n2,c2,h1⟩
theorem fb.num{S:Nat->Prop}{w:World}{b b2:Bool}{nv dv:Value}{x y:Int}(h:fb w S (.agg #[.bool b,nv,.bool b2,dv]) x y):gg w S (.agg #[.bool b,nv]) x:=by
 obtain⟨b1,l1,b2,l2,h1,h2,h3⟩:=h;simp at h1;obtain⟨rfl,rfl,rfl,rfl⟩:=h1;exact h2
theorem fb.den{S:Nat->Prop}{w:World}{b b2:Bool}{nv dv:Value}{x y:Int}(h:fb w S (.agg #[.bool b,nv,.bool b2,dv]) x y):gg w S (.agg #[.bool b2,dv]) y:=by
 obtain⟨b1,l1,b2,l2,h1,h2,h3⟩:=h;simp at h1;obtain⟨rfl,rfl,rfl,rfl⟩:=h1;exact h3
section
variable{S S':Nat->Prop}{H:Hp}{nx:Nat}{iv iv':Iv}{B:Nat}{w w' w2:World}{ρ:Nat->Sx.dN}{v:Value}{x y:Int}
theorem fb.rel(h:fb w (Cv S B iv) v x y)(r:Rel H nx iv B w ρ w')(hS:∀g,S g->g<B):fb w' (Cv S B iv) v x y:=h.bu fun _ hg=>Rel.same r hS hg
theorem fb.bq(h:fb w (Cv S B iv) v x y)(r:Rel H nx iv B w ρ w')(hS:∀g,S g->g<B)(he:Ext w' w2)(hm:∀p,p∈iv->p∈iv'):fb w2 (Cv S B iv') v x y:=
 ((h.rel r hS).bu fun g hg=>he.block g (Rel.old r hS g hg)).bz fun _ hg=>hg.mono hm
end
def cH(w:World)(S:Nat->Prop)(v:Value)(q:Rat):Prop:=∃b1 l1 b2 l2,v= .agg #[.bool b1,l1,.bool b2,l2]∧cU w S (.agg #[.bool b1,l1]) q.num∧cU w S (.agg #[.bool b2,l2]) q.den
theorem cH.bu{S:Nat->Prop}{w w2:World}{v:Value}{q:Rat}(h:cH w S v q)(hk:∀g,S g->w2.heap[g]? =w.heap[g]?):cH w2 S v q:=by
 obtain⟨b1,l1,b2,l2,h1,h2,h3⟩:=h;exact⟨b1,l1,b2,l2,h1,h2.bu hk,h3.bu hk⟩
theorem cH.bz{S S':Nat->Prop}{w:World}{v:Value}{q:Rat}(h:cH w S v q)(hk:∀g,S g->S' g):cH w S' v q:=by
 obtain⟨b1,l1,b2,l2,h1,h2,h3⟩:=h;exact⟨b1,l1,b2,l2,h1,h2.bz hk,h3.bz hk⟩
theorem cH.r{S:Nat->Prop}{w:World}{v:Value}{q:Rat}(h:cH w S v q):fb w S v q.num q.den:=by
 obtain⟨b1,l1,b2,l2,h1,h2,h3⟩:=h;exact⟨b1,l1,b2,l2,h1,h2.r,h3.r⟩
theorem cH.shape{S:Nat->Prop}{w:World}{v:Value}{q:Rat}(h:cH w S v q):∃b a n c b2 a2 n2 c2,v= .agg #[.bool b,.slice a n c,.bool b2,.slice a2 n2 c2]:=h.r.shape
theorem cH.num{S:Nat->Prop}{w:World}{b b2:Bool}{nv dv:Value}{q:Rat}(h:cH w S (.agg #[.bool b,nv,.bool b2,dv]) q):cU w S (.agg #[.bool b,nv]) q.num:=by
 obtain⟨b1,l1,b2,l2,h1,h2,h3⟩:=h;simp at h1;obtain⟨rfl,rfl,rfl,rfl⟩:=h1;exact h2
theorem cH.den{S:Nat->Prop}{w:World}{b b2:Bool}{nv dv:Value}{q:Rat}(h:cH w S (.agg #[.bool b,nv,.bool b2,dv]) q):cU w S (.agg #[.bool b2,dv]) q.den:=by
 obtain⟨b1,l1,b2,l2,h1,h2,h3⟩:=h;simp at h1;obtain⟨rfl,rfl,rfl,rfl⟩:=h1;exact h3
theorem cH.of{S:Nat->Prop}{w:World}{b b2:Bool}{nv dv:Value}{q:Rat}(h:cU w S (.agg #[.bool b,nv]) q.num)(k:cU w S (.agg #[.bool b2,dv]) q.den):cH w S (.agg #[.bool b,nv,.bool b2,dv]) q:=⟨_,_,_,_,rfl,h,k⟩
section
variable{S S':Nat->Prop}{H:Hp}{nx:Nat}{iv iv':Iv}{B:Nat}{w w' w2:World}{ρ:Nat->Sx.dN}{v:Value}{q:Rat}
theorem cH.rel(h:cH w (Cv S B iv) v q)(r:Rel H nx iv B w ρ w')(hS:∀g,S g->g<B):cH w' (Cv S B iv) v q:=h.bu fun _ hg=>Rel.same r hS hg
theorem cH.bq(h:cH w (Cv S B iv) v q)(r:Rel H nx iv B w ρ w')(hS:∀g,S g->g<B)(he:Ext w' w2)(hm:∀p,p∈iv->p∈iv'):cH w2 (Cv S B iv') v q:=
 ((h.rel r hS).bu fun g hg=>he.block g (Rel.old r hS g hg)).bz fun _ hg=>hg.mono hm
theorem cH.cQ(h:cH w2 (Nw (fun _=>False) w' w2) v q)(hB:B<=w'.heap.size)(hm:(w'.heap.size,w2.heap.size)∈iv):cH w2 (Cv S B iv) v q:=h.bz fun _ hg=>hg.cQ hB hm
theorem cH.out{w0 w1:World}(h:cH w1 (Cv S w0.heap.size iv) v q)(r:Rel H nx iv w0.heap.size w1 ρ w')(hS:Old S w0):cH w' (Nw S w0 w') v q:=
 (h.rel r hS).bz fun _ hg=>Cv.nw hg r
end
theorem Es{S:Nat->Prop}{w:World}{v:Value}{f:Rat}(hS:Old S w)(hf:cZ w S v f):
  dQ PG N.ic #[v] w (dU w fun v' _w2=>v'= .int .i64 (rs f)):=by
 have hw:cF w.heap.size w w:=cF.refl;replace hf:=hf.bz (S':=Cv S w.heap.size []) fun _ h=>.inl h;obtain⟨b1,a1,n1,c1,b2,a2,n2,c2,rfl⟩:=hf.shape;have hfn:=hf.num;have hfd:=hf.den;clear hf;refine lJ (by simp) ?_;conv=>whnf
 refine bp (cE hw (Φ:=fun _ w' v w2=>v= .int .i64 (rs f)) (fun ρ w' r=>vQ (hfn.rel r hS)) ?_);rintro ρ wa1 v1 wb1 iv1 r he hw h_ rfl;clear hfn;clear hfd;clear r;conv=>whnf
 intro ρe we re;exact⟨_,rfl,hw.tr re.bs,rfl⟩
theorem Dw{S:Nat->Prop}{w:World}{v:Value}{f:Rat}(hS:Old S w)(hf:cZ w S v f):
  dQ PG N.iP #[v] w (dU w fun v' w2=>cZ w2 (Nw S w w2) v' (-f)):=by
 have hw:cF w.heap.size w w:=cF.refl;replace hf:=hf.bz (S':=Cv S w.heap.size []) fun _ h=>.inl h;obtain⟨b1,a1,n1,c1,b2,a2,n2,c2,rfl⟩:=hf.shape;have hfn:=hf.num;have hfd:=hf.den;clear hf;refine k7 (by simp) ?_;conv=>whnf
 refine bw hτ dH [.x 0,.x 1,.x 3,.x 4,.x 2,.x 5,.x 6] (by kernel_rfl) (by kernel_rfl) ?_;conv=>whnf
 refine cA (Φ:=fun _ w' v w2=>dY w2 (Nw (Cv S w.heap.size []) w' w2) v (-f.num)) (fun ρ w' r=>lS (Rel.old r hS) (hfn.rel r hS)) ?_;rintro ρ wa1 v1 wb1 r he hb hn;replace hw:=hw.tr hb;clear hfn;replace hfd:=hfd.bq (iv':=(wa1.heap.size,wb1.heap.size)::[]) r hS he fun x hx=>aC _ hx;have hM:=hn.old r.bm;clear r he hb hn;generalize (wa1.heap.size,wb1.heap.size)::[]=iv1 at*
 obtain⟨s1_0,s1_1,s1_2,s1_3,rfl⟩:=hM.shape;conv=>whnf
 intro ρe we re;exact⟨_,rfl,hw.tr re.bs,cZ.of (by rw[Rat.neg_num];exact hM.out re hS) (by rw[Rat.neg_den];exact hfd.out re hS)⟩
theorem Dx{S:Nat->Prop}{w:World}{v u:Value}{f g:Rat}(hS:Old S w)(hf:cZ w S v f)(hg:cZ w S u g)(hlf:rl f<=10000000000)(hlg:rl g<=10000000000):
  dQ PG N.iO #[v,u] w (dU w fun v' w2=>cZ w2 (Nw (fun _=>False) w w2) v' (f*g)):=by
 have hw:cF w.heap.size w w:=cF.refl;have l1:=eo f;have l2:=eF f;have l3:=eo g;have l4:=eF g;have m0:=cL f.num g.num;have m1:=cL f.den g.den;replace hf:=hf.bz (S':=Cv S w.heap.size []) fun _ h=>.inl h;replace hg:=hg.bz (S':=Cv S w.heap.size []) fun _ h=>.inl h;obtain⟨b1,a1,n1,c1,b2,a2,n2,c2,rfl⟩:=hf.shape;obtain⟨b3,a3,n3,c3,b4,a4,n4,c4,rfl⟩:=hg.shape;have hfn:=hf.num;have hfd:=hf.den;clear hf;have hgn:=hg.num;have hgd:=hg.den;clear hg;refine k6 (by simp) ?_;conv=>whnf
 refine bw hτ dH [.x 0,.x 1,.x 2,.x 3,.x 5,.x 6,.x 7,.x 8,.x 4,.x 9,.x 10,.x 11] (by kernel_rfl) (by kernel_rfl) ?_;conv=>whnf
 refine cE hw (Φ:=fun _ w' v w2=>dY w2 (Nw (fun _=>False) w' w2) v (f.num*g.num)) (fun ρ w' r=>fX (Rel.old r hS) (hfn.rel r hS) (hgn.rel r hS) (by omega) (by omega)) ?_;rintro ρ wa1 v1 wb1 iv1 r he hw h_ hn;clear hfn;replace hfd:=hfd.bq r hS he (mC h_);clear hgn;replace hgd:=hgd.bq r hS he (mC h_);have hA:=hn.cQ (S:=fun _=>False) r.bm (mN h_);clear r;obtain⟨s1_0,s1_1,s1_2,s1_3,rfl⟩:=hA.shape;conv=>whnf
 refine cE hw (Φ:=fun _ w' v w2=>dY w2 (Nw (fun _=>False) w' w2) v ((f.den:Int)*(g.den:Int))) (fun ρ w' r=>fX (Rel.old r hS) (hfd.rel r hS) (hgd.rel r hS) (by omega) (by omega)) ?_;rintro ρ wa2 v2 wb2 iv2 r he hw h_ hn;clear hfd;clear hgd;replace hA:=hA.bq r (bl w) he (mC h_);have hB:=hn.cQ (S:=fun _=>False) r.bm (mN h_);clear r;obtain⟨s2_0,s2_1,s2_2,s2_3,rfl⟩:=hB.shape;conv=>whnf
 refine cE hw (Φ:=fun _ w' v w2=>cZ w2 (Nw (fun _=>False) w' w2) v (f*g)) (fun ρ w' r=>(tW f g)▸rV (Rel.old r (bl w)) (hA.rel r (bl w)) (hB.rel r (bl w)) (iV (ep f) (ep g)) (by omega) (by omega)) ?_;rintro ρ wa3 v3 wb3 iv3 r he hw h_ hn;clear hA;clear hB;have hC:=hn.cQ (S:=fun _=>False) r.bm (mN h_);clear r;obtain⟨s3_0,s3_1,s3_2,s3_3,s3_4,s3_5,s3_6,s3_7,rfl⟩:=hC.shape;conv=>whnf
 intro ρe we re;exact⟨_,rfl,hw.tr re.bs,hC.out re (bl w)⟩
theorem GZ{S:Nat->Prop}{w:World}{v u:Value}{f g:Rat}(hS:Old S w)(hf:cZ w S v f)(hg:cZ w S u g)(hlf:rl f<=10000000000)(hlg:rl g<=10000000000)(hg0:g≠0):
  dQ PG N.jh #[v,u] w (dU w fun v' w2=>cZ w2 (Nw (fun _=>False) w w2) v' (f / g)):=by
 have hw:cF w.heap.size w w:=cF.refl;have l1:=eo f;have l2:=eF f;have l3:=eo g;have l4:=eF g;have m0:=cL f.num g.den;have m1:=cL f.den g.num;replace hf:=hf.bz (S':=Cv S w.heap.size []) fun _ h=>.inl h;replace hg:=hg.bz (S':=Cv S w.heap.size []) fun _ h=>.inl h;obtain⟨b1,a1,n1,c1,b2,a2,n2,c2,rfl⟩:=hf.shape;obtain⟨b3,a3,n3,c3,b4,a4,n4,c4,rfl⟩:=hg.shape;have hfn:=hf.num;have hfd:=hf.den;clear hf;have hgn:=hg.num;have hgd:=hg.den;clear hg;refine mm (by simp) ?_;conv=>whnf
 refine bw hτ dH [.x 0,.x 1,.x 2,.x 3,.x 5,.x 6,.x 7,.x 8,.x 4,.x 9,.x 10,.x 11] (by kernel_rfl) (by kernel_rfl) ?_;conv=>whnf
 refine cE hw (Φ:=fun _ w' v w2=>dY w2 (Nw (fun _=>False) w' w2) v (f.num*(g.den:Int))) (fun ρ w' r=>fX (Rel.old r hS) (hfn.rel r hS) (hgd.rel r hS) (by omega) (by omega)) ?_;rintro ρ wa1 v1 wb1 iv1 r he hw h_ hn;clear hfn;replace hfd:=hfd.bq r hS he (mC h_);replace hgn:=hgn.bq r hS he (mC h_);clear hgd;have hA:=hn.cQ (S:=fun _=>False) r.bm (mN h_);clear r;obtain⟨s1_0,s1_1,s1_2,s1_3,rfl⟩:=hA.shape;conv=>whnf
 refine cE hw (Φ:=fun _ w' v w2=>dY w2 (Nw (fun _=>False) w' w2) v ((f.den:Int)*g.num)) (fun ρ w' r=>fX (Rel.old r hS) (hfd.rel r hS) (hgn.rel r hS) (by omega) (by omega)) ?_;rintro ρ wa2 v2 wb2 iv2 r he hw h_ hn;clear hfd;clear hgn;replace hA:=hA.bq r (bl w) he (mC h_);have hB:=hn.cQ (S:=fun _=>False) r.bm (mN h_);clear r;obtain⟨s2_0,s2_1,s2_2,s2_3,rfl⟩:=hB.shape;conv=>whnf
 refine cE hw (Φ:=fun _ w' v w2=>cZ w2 (Nw (fun _=>False) w' w2) v (f / g)) (fun ρ w' r=>(Ba f g)▸rV (Rel.old r (bl w)) (hA.rel r (bl w)) (hB.rel r (bl w)) (iV (ep f) (fun e=>hg0 (Rat.num_eq_zero.1 e))) (by omega) (by omega)) ?_;rintro ρ wa3 v3 wb3 iv3 r he hw h_ hn;clear hA;clear hB;have hC:=hn.cQ (S:=fun _=>False) r.bm (mN h_);clear r;obtain⟨s3_0,s3_1,s3_2,s3_3,s3_4,s3_5,s3_6,s3_7,rfl⟩:=hC.shape;conv=>whnf
 intro ρe we re;exact⟨_,rfl,hw.tr re.bs,hC.out re (bl w)⟩
theorem Bp{S:Nat->Prop}{w:World}{v u:Value}{f g:Rat}(hS:Old S w)(hf:cZ w S v f)(hg:cZ w S u g)(hlf:rl f<=10000000000)(hlg:rl g<=10000000000):
  dQ PG N.iZ #[v,u] w (dU w fun v' w2=>cZ w2 (Nw (fun _=>False) w w2) v' (f+g)):=by
 have hw:cF w.heap.size w w:=cF.refl;have l1:=eo f;have l2:=eF f;have l3:=eo g;have l4:=eF g;have m0:=cL f.num g.den;have m1:=cL g.num f.den;have m2:=cL f.den g.den;have m4:=fx (f.num*g.den) (g.num*f.den);replace hf:=hf.bz (S':=Cv S w.heap.size []) fun _ h=>.inl h;replace hg:=hg.bz (S':=Cv S w.heap.size []) fun _ h=>.inl h;obtain⟨b1,a1,n1,c1,b2,a2,n2,c2,rfl⟩:=hf.shape;obtain⟨b3,a3,n3,c3,b4,a4,n4,c4,rfl⟩:=hg.shape;have hfn:=hf.num;have hfd:=hf.den;clear hf;have hgn:=hg.num;have hgd:=hg.den;clear hg;refine lH (by simp) ?_;conv=>whnf
 refine bw hτ dH [.x 0,.x 1,.x 2,.x 3,.x 5,.x 6,.x 7,.x 8,.x 11,.x 12,.x 13,.x 14,.x 4,.x 9,.x 10,.x 15,.x 16,.x 17] (by kernel_rfl) (by kernel_rfl) ?_;conv=>whnf
 refine cE hw (Φ:=fun _ w' v w2=>dY w2 (Nw (fun _=>False) w' w2) v (f.num*(g.den:Int))) (fun ρ w' r=>fX (Rel.old r hS) (hfn.rel r hS) (hgd.rel r hS) (by omega) (by omega)) ?_;rintro ρ wa1 v1 wb1 iv1 r he hw h_ hn;clear hfn;replace hfd:=hfd.bq r hS he (mC h_);replace hgn:=hgn.bq r hS he (mC h_);replace hgd:=hgd.bq r hS he (mC h_);have hA:=hn.cQ (S:=fun _=>False) r.bm (mN h_);clear r;obtain⟨s1_0,s1_1,s1_2,s1_3,rfl⟩:=hA.shape;conv=>whnf
 refine cE hw (Φ:=fun _ w' v w2=>dY w2 (Nw (fun _=>False) w' w2) v (g.num*(f.den:Int))) (fun ρ w' r=>fX (Rel.old r hS) (hgn.rel r hS) (hfd.rel r hS) (by omega) (by omega)) ?_;rintro ρ wa2 v2 wb2 iv2 r he hw h_ hn;replace hfd:=hfd.bq r hS he (mC h_);clear hgn;replace hgd:=hgd.bq r hS he (mC h_);replace hA:=hA.bq r (bl w) he (mC h_);have hB:=hn.cQ (S:=fun _=>False) r.bm (mN h_);clear r;obtain⟨s2_0,s2_1,s2_2,s2_3,rfl⟩:=hB.shape;conv=>whnf
 refine cE hw (Φ:=fun _ w' v w2=>dY w2 (Nw (fun _=>False) w' w2) v (f.num*(g.den:Int)+g.num*(f.den:Int))) (fun ρ w' r=>xY (Rel.old r (bl w)) (hA.rel r (bl w)) (hB.rel r (bl w)) (by omega) (by omega)) ?_;rintro ρ wa3 v3 wb3 iv3 r he hw h_ hn;replace hfd:=hfd.bq r hS he (mC h_);replace hgd:=hgd.bq r hS he (mC h_);clear hA;clear hB;have hD:=hn.cQ (S:=fun _=>False) r.bm (mN h_);clear r;obtain⟨s3_0,s3_1,s3_2,s3_3,rfl⟩:=hD.shape;conv=>whnf
 refine cE hw (Φ:=fun _ w' v w2=>dY w2 (Nw (fun _=>False) w' w2) v ((f.den:Int)*(g.den:Int))) (fun ρ w' r=>fX (Rel.old r hS) (hfd.rel r hS) (hgd.rel r hS) (by omega) (by omega)) ?_;rintro ρ wa4 v4 wb4 iv4 r he hw h_ hn;clear hfd;clear hgd;replace hD:=hD.bq r (bl w) he (mC h_);have hE:=hn.cQ (S:=fun _=>False) r.bm (mN h_);clear r;obtain⟨s4_0,s4_1,s4_2,s4_3,rfl⟩:=hE.shape;conv=>whnf
 refine cE hw (Φ:=fun _ w' v w2=>cZ w2 (Nw (fun _=>False) w' w2) v (f+g)) (fun ρ w' r=>(pY f g)▸rV (Rel.old r (bl w)) (hD.rel r (bl w)) (hE.rel r (bl w)) (iV (ep f) (ep g)) (by omega) (by omega)) ?_;rintro ρ wa5 v5 wb5 iv5 r he hw h_ hn;clear hD;clear hE;have hC:=hn.cQ (S:=fun _=>False) r.bm (mN h_);clear r;obtain⟨s5_0,s5_1,s5_2,s5_3,s5_4,s5_5,s5_6,s5_7,rfl⟩:=hC.shape;conv=>whnf
 intro ρe we re;exact⟨_,rfl,hw.tr re.bs,hC.out re (bl w)⟩
theorem nV{S:Nat->Prop}{w:World}{v:Value}{f:Rat}(hS:Old S w)(hf:cZ w S v f)(hlf:rl f<=100000000000):
  dQ PG N.ia #[v] w (dU w fun v' w2=>cH w2 (Nw (fun _=>False) w w2) v' f):=by
 have hw:cF w.heap.size w w:=cF.refl;have l1:=eo f;have l2:=eF f;replace hf:=hf.bz (S':=Cv S w.heap.size []) fun _ h=>.inl h;obtain⟨b1,a1,n1,c1,b2,a2,n2,c2,rfl⟩:=hf.shape;have hfn:=hf.num;have hfd:=hf.den;clear hf;refine lI (by simp) ?_;conv=>whnf
 refine bw hτ dH [.x 0,.x 1,.x 3,.x 4,.x 2,.x 5,.x 6,.x 7] (by kernel_rfl) (by kernel_rfl) ?_;conv=>whnf
 refine cE hw (Φ:=fun _ w' v w2=>cU w2 (Nw (fun _=>False) w' w2) v f.num) (fun ρ w' r=>De (Rel.old r hS) (hfn.rel r hS) (by omega)) ?_;rintro ρ wa1 v1 wb1 iv1 r he hw h_ hn;clear hfn;replace hfd:=hfd.bq r hS he (mC h_);have hA:=hn.cQ (S:=fun _=>False) r.bm (mN h_);clear r;obtain⟨s1_0,s1_1,s1_2,s1_3,rfl⟩:=hA.shape;conv=>whnf
 refine cE hw (Φ:=fun _ w' v w2=>cU w2 (Nw (fun _=>False) w' w2) v (f.den:Int)) (fun ρ w' r=>De (Rel.old r hS) (hfd.rel r hS) (by omega)) ?_;rintro ρ wa2 v2 wb2 iv2 r he hw h_ hn;clear hfd;replace hA:=hA.bq r (bl w) he (mC h_);have hB:=hn.cQ (S:=fun _=>False) r.bm (mN h_);clear r;obtain⟨s2_0,s2_1,s2_2,s2_3,rfl⟩:=hB.shape;conv=>whnf
 intro ρe we re;exact⟨_,rfl,hw.tr re.bs,cH.of (hA.out re (bl w)) (hB.out re (bl w))⟩
theorem Et(n:Int)(w:World)(h1: -9223372036854775808<=n)(h2:n<=9223372036854775807):
  dQ PG N.sP #[.int .i64 n] w (dU w fun v' w2=>cZ w2 (Nw (fun _=>False) w w2) v' (n:Rat)):=by
 have hw:cF w.heap.size w w:=cF.refl;refine vF (by simp) ?_;conv=>whnf
 refine bp (cE hw (Φ:=fun _ w' v w2=>dY w2 (Nw (fun _=>False) w' w2) v n) (fun ρ w' r=>lV n w' h1 h2) ?_);rintro ρ wa1 v1 wb1 iv1 r he hw h_ hn;have hA:=hn.cQ (S:=fun _=>False) r.bm (mN h_);clear r;obtain⟨s1_0,s1_1,s1_2,s1_3,rfl⟩:=hA.shape;conv=>whnf
 refine bp (cE hw (Φ:=fun _ w' v w2=>dY w2 (Nw (fun _=>False) w' w2) v 1) (fun ρ w' r=>lV 1 w' (by decide) (by decide)) ?_);rintro ρ wa2 v2 wb2 iv2 r he hw h_ hn;replace hA:=hA.bq r (bl w) he (mC h_);have hB:=hn.cQ (S:=fun _=>False) r.bm (mN h_);clear r;obtain⟨s2_0,s2_1,s2_2,s2_3,rfl⟩:=hB.shape;conv=>whnf
 intro ρe we re;exact⟨_,rfl,hw.tr re.bs,cZ.of (by rw[Rat.num_intCast];exact hA.out re (bl w)) (by rw[Rat.den_intCast];exact hB.out re (bl w))⟩
theorem iG{S:Nat->Prop}{w:World}{v:Value}{x y:Int}(hS:Old S w)(hx:fb w S v x y)(hlx:ln x.natAbs<=100000000000)(hly:ln y.natAbs<=100000000000):
  dQ PG N.sK #[v] w (dU w fun v' w2=>cZ w2 (Nw (fun _=>False) w w2) v' (ratio x y)):=by
 have hw:cF w.heap.size w w:=cF.refl;replace hx:=hx.bz (S':=Cv S w.heap.size []) fun _ h=>.inl h;obtain⟨b1,a1,n1,c1,b2,a2,n2,c2,rfl⟩:=hx.shape;have hn:=hx.num;have hd:=hx.den;clear hx;have hxn:=hn;have hxd:=hd;clear hn hd;refine vA (by simp) ?_;conv=>whnf
 refine bp (cA (Φ:=fun _ w' v w2=>dY w2 (Nw (Cv S w.heap.size []) w' w2) v y) (fun ρ w' r=>Dp (Rel.old r hS) (hxd.rel r hS)) ?_);rintro ρ wa1 v1 wb1 r he hb hn;replace hw:=hw.tr hb;replace hxn:=hxn.bq (iv':=(wa1.heap.size,wb1.heap.size)::[]) r hS he fun x hx=>aC _ hx;clear hxd;have hD:=hn.old r.bm;clear r he hb hn;generalize (wa1.heap.size,wb1.heap.size)::[]=iv1 at*
 obtain⟨s1_0,s1_1,s1_2,s1_3,rfl⟩:=hD.shape;conv=>whnf
 refine bp (cE hw (Φ:=fun _ w' v w2=>v= .int .i64 y.sign) (fun ρ w' r=>vQ (hD.rel r hS)) ?_);rintro ρ wa2 v2 wb2 iv2 r he hw h_ rfl;replace hxn:=hxn.bq r hS he (mC h_);replace hD:=hD.bq r hS he (mC h_);clear r he;conv=>whnf
 refine cW.mk (fun h=>?_) (fun h=>?_)
 ·have h:y=0:=Int.sign_eq_zero_iff_zero.1 (eq_of_beq h);have e0:ratio x y=Rat.divInt x 1:=aQ h;conv=>whnf
  refine bp (cE hw (Φ:=fun _ w' v w2=>dY w2 (Nw (fun _=>False) w' w2) v 1) (fun ρ w' r=>lV 1 w' (by decide) (by decide)) ?_);rintro ρ wa3 v3 wb3 iv3 r he hw h_ hn;replace hxn:=hxn.bq r hS he (mC h_);clear hD;have hO:=hn.cQ (S:=fun _=>False) r.bm (mN h_);clear r he hn;obtain⟨s3_0,s3_1,s3_2,s3_3,rfl⟩:=hO.shape;conv=>whnf
  have l1:ln (1:Int).natAbs=1:=by decide
  refine bw hτ dH [.x 0,.x 1,.x 3,.x 2,.x 4,.x 5] (by kernel_rfl) (by kernel_rfl) ?_;conv=>whnf
  refine cA (Φ:=fun _ w' v w2=>dY w2 (Nw (Cv S w.heap.size iv3) w' w2) v x) (fun ρ w' r=>Dp (Rel.old r hS) (hxn.rel r hS)) ?_;rintro ρ wa4 v4 wb4 r he hb hn;replace hw:=hw.tr hb;clear hxn;replace hO:=hO.bq (iv':=(wa4.heap.size,wb4.heap.size)::iv3) r (bl w) he fun x hx=>aC _ hx;have hN:=hn.old r.bm;clear r he hb hn;generalize (wa4.heap.size,wb4.heap.size)::iv3=iv4 at*
  obtain⟨s4_0,s4_1,s4_2,s4_3,rfl⟩:=hN.shape;conv=>whnf
  refine cE hw (Φ:=fun _ w' v w2=>cZ w2 (Nw (fun _=>False) w' w2) v (ratio x y)) (fun ρ w' r=>e0.symm▸rV (Rel.old r hS) (hN.rel r hS) ((hO.rel r (bl w)).bz fun g hg=>hg.elim (fun k=>k.elim) .inr) (by decide) (by omega) (by omega)) ?_;rintro ρ wa5 v5 wb5 iv5 r he hw h_ hn;clear hO;clear hN;have hC:=hn.cQ (S:=fun _=>False) r.bm (mN h_);clear r he hn;obtain⟨s5_0,s5_1,s5_2,s5_3,s5_4,s5_5,s5_6,s5_7,rfl⟩:=hC.shape;conv=>whnf
  intro ρe we re;exact⟨_,rfl,hw.tr re.bs,hC.out re (bl w)⟩
 ·have h:y≠0:=fun e=>by rw[e]at h;exact absurd h (by decide)
  have e0:ratio x y=Rat.divInt x y:=aL h;conv=>whnf
  refine bw hτ dH [.x 0,.x 1,.x 3,.x 2,.x 4,.x 5] (by kernel_rfl) (by kernel_rfl) ?_;conv=>whnf
  refine cA (Φ:=fun _ w' v w2=>dY w2 (Nw (Cv S w.heap.size iv2) w' w2) v x) (fun ρ w' r=>Dp (Rel.old r hS) (hxn.rel r hS)) ?_;rintro ρ wa3 v3 wb3 r he hb hn;replace hw:=hw.tr hb;clear hxn;replace hD:=hD.bq (iv':=(wa3.heap.size,wb3.heap.size)::iv2) r hS he fun x hx=>aC _ hx;have hN:=hn.old r.bm;clear r he hb hn;generalize (wa3.heap.size,wb3.heap.size)::iv2=iv3 at*
  obtain⟨s3_0,s3_1,s3_2,s3_3,rfl⟩:=hN.shape;conv=>whnf
  refine cE hw (Φ:=fun _ w' v w2=>cZ w2 (Nw (fun _=>False) w' w2) v (ratio x y)) (fun ρ w' r=>e0.symm▸rV (Rel.old r hS) (hN.rel r hS) (hD.rel r hS) h (by omega) (by omega)) ?_;rintro ρ wa4 v4 wb4 iv4 r he hw h_ hn;clear hD;clear hN;have hC:=hn.cQ (S:=fun _=>False) r.bm (mN h_);clear r he hn;obtain⟨s4_0,s4_1,s4_2,s4_3,s4_4,s4_5,s4_6,s4_7,rfl⟩:=hC.shape;conv=>whnf
  intro ρe we re;exact⟨_,rfl,hw.tr re.bs,hC.out re (bl w)⟩
def oR(v:Value):Iv:=match v.ownBlock with
 |some g=>[(g,g+1)]
 |none=>[]
theorem x9{v:Value}{lo hi:Nat}:(lo,hi)∈oR v↔v.ownBlock=some lo∧hi=lo+1:=by
 unfold oR
 cases h:v.ownBlock with
 |none=>simp
 |some g=>simp;omega
def BJ(iv:Iv)(v:Value):Prop:=∀b,v.ownBlock=some b->∃lo hi,(lo,hi)∈iv∧lo<=b∧b<hi
section
variable{S:Nat->Prop}{H:Hp}{nx:Nat}{iv iv':Iv}{B e sz m:Nat}{w w' w2:World}{ρ:Nat->Sx.dN}{v v':Value}{xs:List Value}
theorem BJ.not(h:BJ iv v)(r:Rel H nx iv B w ρ w'){b:Nat}(hb:v.ownBlock=some b):∀id c,cT H id=some c->(ρ id).nil=false->(ρ id).g≠b:=fun id c hc hn he=>by
 obtain⟨lo,hi,h1,h2,h3⟩:=h b hb;exact r.im lo hi h1 id c hc hn (by omega)
theorem gU(h:w.ownsRow B e sz v m xs)(hc:BJ iv v)(r:Rel H nx iv B w ρ w'):w'.ownsRow B e sz v m xs:=
 ownsRow.bu h fun b hb=>r.qh b (ownsRow.low h b hb).2 fun id c hc' hn he=>hc.not r hb id c hc' hn he
theorem BJ.row(v:Value):BJ (oR v) v:=fun b hb=>⟨b,b+1,x9.2 ⟨hb,rfl⟩,by omega,by omega⟩
theorem BJ.mono(h:BJ iv v)(k:∀p,p∈iv->p∈iv'):BJ iv' v:=fun b hb=>by
 obtain⟨lo,hi,h1,h2⟩:=h b hb;exact⟨lo,hi,k _ h1,h2⟩
theorem gp(h:w.ownsRow B e sz v m xs):∃a c,v= .slice a m c∧m<=c:=by
 rcases h.2 with⟨rfl,rfl⟩|⟨g,cap,cur,rfl,_,_,h1,_⟩
 ·exact⟨none,0,rfl,aI _⟩
 ·exact⟨_,cap,rfl,h1⟩
end
structure gw(w:World)(S:Nat->Prop)(sz:Nat)(v:Value)(xs:List Value)(n:Nat):Prop where
 le:n<=maxLen
 len:xs.length=n*sz
 one:∀u∈xs,u.oneCell'=true
 sl:∃a c,v= .slice a n c∧n<=c∧∀(j:Nat) u,xs[j]? =some u->∃ad,a=some ad∧S ad.block∧w.cell? (ad.add j)=some u
theorem gw.bu{S:Nat->Prop}{w w2:World}{sz:Nat}{v:Value}{xs:List Value}{n:Nat}(h:gw w S sz v xs n)(hk:∀g,S g->w2.heap[g]? =w.heap[g]?):gw w2 S sz v xs n:=by
 obtain⟨h0,h1,h2,a,c,h3,h4,h5⟩:=h;refine⟨h0,h1,h2,a,c,h3,h4,fun j u hu=>?_⟩;obtain⟨ad,k1,k2,k3⟩:=h5 j u hu;exact⟨ad,k1,k2,by rw[bo (hk _ (by rw[cC];exact k2))];exact k3⟩
theorem gw.bz{S S':Nat->Prop}{w:World}{sz:Nat}{v:Value}{xs:List Value}{n:Nat}(h:gw w S sz v xs n)(hk:∀g,S g->S' g):gw w S' sz v xs n:=by
 obtain⟨h0,h1,h2,a,c,h3,h4,h5⟩:=h;refine⟨h0,h1,h2,a,c,h3,h4,fun j u hu=>?_⟩;obtain⟨ad,k1,k2,k3⟩:=h5 j u hu;exact⟨ad,k1,hk _ k2,k3⟩
section
variable{S S':Nat->Prop}{H:Hp}{nx:Nat}{iv iv':Iv}{B:Nat}{w w' w2:World}{ρ:Nat->Sx.dN}{v:Value}{sz n:Nat}{xs:List Value}
end
end Go.Ex
namespace Go.Sx
open Go Go.Ex Go.Proofs
theorem Rel.nA{H:Hp}{nx:Nat}{iv:Iv}{B:Nat}{w w':World}{ρ:Nat->Sx.dN}(r:Rel H nx iv B w ρ w'){id t sz n:Nat}{cs:List At}(h:cT H id=some (.box t cs))(hl:cs.length=n*sz)(hn:n<=maxLen)(h1:∀u∈cs,(u.den ρ).oneCell'=true):
  gw w' (fun g=>g=(ρ id).g) sz (.slice (some ⟨(ρ id).g,0,none⟩) n n) (cs.map (At.den ρ)) n:=by
 refine⟨hn,by simpa using hl,fun u hu=>?_,_,_,rfl,aI _,fun j u hu=>⟨_,rfl,rfl,?_⟩⟩
 ·obtain⟨x,hx,rfl⟩:=aS.1 hu;exact h1 x hx
 ·have h0:(⟨(ρ id).g,0,none⟩:Addr).add j=⟨(ρ id).g,j,none⟩:=by
   cases j with
   |zero=>rfl
   |succ j=>simp[Addr.add]
  rw[h0,cell_of (r.box id t _ h)];exact hu
end Go.Sx
namespace Go.Ex
open Go Go.Sx Go.Proofs
theorem Dy{n:Nat}(h:n<=9223372036854775807):IntKind.i64.wrap (n:Int)=n:=by rw[wrap64]<;>omega
theorem Eu{t b:Nat}(h:t<=9223372036854775807):IntKind.i64.wrap ((t:Int).tdiv (b:Int))=((t / b:Nat):Int):=by
 have h1:=Nat.div_le_self t b;rw[Int.tdiv_eq_ediv_of_nonneg (by omega),<-Int.natCast_ediv];exact Dy (by omega)
end Go.Ex
namespace Go.Ex
open Go Go.Sx Go.Proofs
def yg:Value:=.agg #[.bool false,.slice none 0 0,.bool false,.slice none 0 0]
theorem j2{n:Int}(h1: -9223372036854775808<=n)(h2:n<=9223372036854775807):ln n.natAbs<=2:=gM.2 (by show n.natAbs<4294967296^2;omega)
end Go.Ex
namespace Go.Sx
open Go Go.Ex Go.Proofs
theorem Rel.gB{H:Hp}{nx:Nat}{iv:Iv}{B:Nat}{w w':World}{ρ:Nat->Sx.dN}(r:Rel H nx iv B w ρ w'){id t m sz:Nat}{cs:List Value}(h:cT H id=some (.vec t sz cs))(hm:cs.length=m*sz)(hm1:m<=maxLen)(hs:0<sz)(h1:∀u∈cs,u.oneCell'=true):
  gw w' (fun g=>B<=g∧g<w'.heap.size) sz ((At.w id m).den ρ) cs m:=by
 rcases r.vec id t sz _ h with⟨hn,rfl⟩|⟨hn,spare,hb,hc,hcap⟩
 ·have hm0:m=0:=by
   rcases bG m with h|h
   ·exact h
   ·have:=Nat.mul_pos h hs;simp at hm;omega
  subst hm0;refine⟨hm1,by simp,by simp,none,0,by simp[At.den,hn],aI _,by simp⟩
 ·refine⟨hm1,hm,h1,some ⟨(ρ id).g,0,none⟩,(ρ id).cap,by simp[At.den,hn],?_,fun j x hx=>⟨_,rfl,r.low id _ h hn,?_⟩⟩
  ·have h1:(cs++spare).length=cs.length+spare.length:=List.length_append;have h2:m*sz<=(ρ id).cap*sz:=by omega
   exact Nat.le_of_mul_le_mul_right h2 hs
  ·rw[dA,cell_of hb,aP,aJ (aE.1 hx).1];exact hx
end Go.Sx
namespace Go.Ex
open Go Go.Sx Go.Proofs
end Go.Ex
namespace Go.Ex
open Go Go.Sx Go.Proofs
def signed:Bool->ByteArray->ByteArray
 |true,s=>⟨#[45]⟩++s
 |false,s=>s
def FQ(w:World)(S:Nat->Prop)(cs:List Value)(q:Rat):Prop:=∃b a n c b2 a2 n2 c2,cs=[.bool b,.slice a n c,.bool b2,.slice a2 n2 c2]∧cZ w S (.agg #[.bool b,.slice a n c,.bool b2,.slice a2 n2 c2]) q
def Fr(w:World)(S:Nat->Prop)(css:List (List Value))(qs:List Rat):Prop:=css.length=qs.length∧∀(j:Nat) cs q,css[j]? =some cs->qs[j]? =some q->FQ w S cs q
section
variable{S S':Nat->Prop}{w w2:World}{cs:List Value}{css:List (List Value)}{q:Rat}{qs:List Rat}
end
section
variable{S S':Nat->Prop}{H:Hp}{nx:Nat}{iv iv':Iv}{B:Nat}{w w' w2:World}{ρ:Nat->Sx.dN}{css:List (List Value)}{qs:List Rat}
end
theorem eH:∀{css:List (List Value)},(∀cs∈css,cs.length=4)->css.flatten.length=css.length*4
 |[],_=>rfl
 |c::r,h=>by
  rw[List.flatten_cons,List.length_append,eH (fun cs hc=>h cs (aC _ hc)),h c aH,List.length_cons];omega
theorem flat_get:∀{css:List (List Value)} {j:Nat} {cs:List Value},(∀cs∈css,cs.length=4)->css[j]? =some cs->∀k u,cs[k]? =some u->css.flatten[j*4+k]? =some u
 |[],j,cs,_,hj,_,_,_=>by simp at hj
 |c::r,0,cs,h,hj,k,u,hu=>by
  simp at hj;subst hj;rw[List.flatten_cons,aJ (by have:=(aE.1 hu).1;omega)];simpa using hu
 |c::r,j+1,cs,h,hj,k,u,hu=>by
  have hc:=h c aH;rw[List.flatten_cons,aT (by omega),hc,show(j+1)*4+k-4=j*4+k by omega];exact flat_get (fun cs hc=>h cs (aC _ hc)) (by simpa using hj) k u hu
theorem gn:∀{css:List (List Value)} {j:Nat} {cs:List Value},(∀cs∈css,cs.length=4)->j<css.length->css.flatten.take (j*4)++cs++css.flatten.drop (j*4+4)=(css.set j cs).flatten
 |[],j,cs,_,hj=>by simp at hj
 |c::r,0,cs,h,_=>by
  have hc:=h c aH;simp[List.flatten_cons,hc]
 |c::r,j+1,cs,h,hj=>by
  have hc:=h c aH
  rw[List.flatten_cons,show(j+1)*4=c.length+j*4 by omega,List.take_length_add_append,show c.length+j*4+4=c.length+(j*4+4) by omega,List.drop_length_add_append,List.set_cons_succ,List.flatten_cons,
   <-gn (fun cs hc=>h cs (aC _ hc)) (by simpa using hj),bU,bU,bU]
abbrev Out(B:Nat)(iv:Iv):Nat->Prop:=Cv (fun g=>g<B) B iv
theorem lN{H:Hp}{nx:Nat}{iv:Iv}{B Bc e sz m:Nat}{w w':World}{ρ:Nat->Sx.dN}{v:Value}{xs:List Value}(h:w.ownsRow Bc e sz v m xs)(hc:∀g,v.ownBlock=some g->Out B iv g)(r:Rel H nx iv B w ρ w'):w'.ownsRow Bc e sz v m xs:=
 ownsRow.bu h fun b hb=>Rel.same r (fun _ h=>h) (hc b hb)
theorem fC{w w1 w2:World}{row:Option Nat}(h:w.grownBy w1 row)(k:cF w.heap.size w1 w2):w.grownBy w2 row:=
 ⟨k.os.trans h.os,k.tape.trans h.tape,k.output.trans h.output,bH h.size k.size,fun b hb hn=>(k.block b hb).trans (h.block b hb hn)⟩
def fz(i:Nat)(f:Nat->Rat->Rat)(qs:List Rat):List Rat:=qs.mapIdx fun j q=>if j<i then f j q else q
theorem vI(f:Nat->Rat->Rat)(qs:List Rat):fz 0 f qs=qs:=by
 apply bN;intro j;simp[fz]
theorem xR(f:Nat->Rat->Rat)(qs:List Rat):fz qs.length f qs=qs.mapIdx f:=by
 apply bN;intro j;simp only[fz,List.getElem?_mapIdx]
 cases h:qs[j]? with
 |none=>rfl
 |some q=>simp[(aE.1 h).1]
theorem ov{f:Nat->Rat->Rat}{qs:List Rat}{i:Nat}{q:Rat}(h:qs[i]? =some q):(fz i f qs).set i (f i q)=fz (i+1) f qs:=by
 apply bN;intro j;have hi:=(aE.1 h).1;by_cases hij:i=j
 ·subst hij;rw[aZ (by simp[fz];exact hi)];simp[fz,List.getElem?_mapIdx,h]
 ·rw[ai hij];simp only[fz,List.getElem?_mapIdx]
  have:(j<i)↔(j<i+1):=by omega
  simp[this]
theorem Ap{f:Nat->Rat->Rat}{qs:List Rat}{i:Nat}{q:Rat}(h:qs[i]? =some q)(hf:f i q=q):fz i f qs=fz (i+1) f qs:=by
 rw[<-ov h,hf];apply bN;intro j;have hi:=(aE.1 h).1;by_cases hij:i=j
 ·subst hij;rw[aZ (by simp[fz];exact hi)];simp[fz,List.getElem?_mapIdx,h]
 ·rw[ai hij]
theorem zl{f:Nat->Rat->Rat}{qs:List Rat}{i:Nat}{q:Rat}(h:qs[i]? =some q):(fz i f qs)[i]? =some q:=by
 simp only[fz,List.getElem?_mapIdx,h]
 simp
section
variable{C C' S S':Nat->Prop}{H:Hp}{nx:Nat}{iv iv':Iv}{B:Nat}{w w' w2:World}{ρ:Nat->Sx.dN}{v:Value}{qs:List Rat}
end
end Go.Ex
namespace Go.Ex
def l0(M:List (List Rat))(i c:Nat):Rat:=(M.getD i []).getD c 0
def FF(M:List (List Rat))(c:Nat):Nat->Nat->Nat
 |0,k=>k
 |f+1,k=>if l0 M k c=0 then FF M c f (k+1)else k
def GL{α:Type}(d:α)(l:List α)(i j:Nat):List α:=(l.set i (l.getD j d)).set j (l.getD i d)
def zU(p:Rat)(ps:List Rat)(j:Nat)(q:Rat):Rat:=q+p*ps.getD j 0
def E6(M:List (List Rat))(at_ c i:Nat):List (List Rat):=M.mapIdx fun j r=>if j<i∧j≠at_ then r.mapIdx (zU (-(r.getD c 0)) (M.getD at_ []))else r
def scaled(M:List (List Rat))(at_ c:Nat):List (List Rat):=M.set at_ ((M.getD at_ []).map (· *(1 / l0 M at_ c)))
def GM(s:List (List Rat)×List Nat)(c:Nat):List (List Rat)×List Nat:=
 if s.2.length<s.1.length then
  let k:=FF s.1 c (s.1.length-s.2.length) s.2.length
  if k=s.1.length then s else
   let M1:=scaled (GL [] s.1 s.2.length k) s.2.length c
   (E6 M1 s.2.length c M1.length,s.2++[c])
 else s
def B7(M:List (List Rat))(cols:Nat):List (List Rat)×List Nat:=(List.range cols).foldl GM (M,[])
def Ht(M:List (List Rat))(h:Nat):Prop:=∀r∈M,∀q∈r,rl q+1<=h
theorem Bb{r:List Rat}{h:Nat}(H:∀q∈r,rl q+1<=h)(h2:2<=h)(c:Nat):rl (r.getD c 0)+1<=h:=by
 rw[List.getD]
 cases hc:r[c]? with
 |none=>simp;exact bH (by decide) h2
 |some q=>simp;exact H q (aD hc)
def qo(n:Nat)(M:List (List Rat)):Prop:=∀r∈M,r.length=n
end Go.Ex
namespace Go.Ex
open Go Go.Sx Go.Proofs
structure GO(w:World)(S:Nat->Prop)(vm:Value)(rv:List Value)(n:Nat)(M:List (List Rat)):Prop where
 out:w.ownsRow 0 T.row 1 vm rv.length rv
 len:rv.length=M.length
 row:∀(i:Nat) v qs,rv[i]? =some v->M[i]? =some qs->∃css,w.ownsRow 0 T.z8 4 v n css.flatten∧css.length=n∧Fr w S css qs
 AW:∀(i j:Nat) a b g,rv[i]? =some a->rv[j]? =some b->a.ownBlock=some g->b.ownBlock=some g->i=j
 aAN:∀v∈rv,∀g,v.ownBlock=some g->vm.ownBlock≠some g
def Mb(vm:Value)(rv:List Value)(g:Nat):Prop:=vm.ownBlock=some g∨∃v∈rv,v.ownBlock=some g
structure Kept(w w2:World)(X:Nat->Prop):Prop where
 os:w2.os=w.os
 tape:w2.tape=w.tape
 output:w2.output=w.output
 size:w.heap.size<=w2.heap.size
 block:∀k,k<w.heap.size->¬X k->w2.heap[k]? =w.heap[k]?
section
variable{S S' X:Nat->Prop}{H:Hp}{nx n:Nat}{iv iv':Iv}{B:Nat}{w w' w2 w3:World}{ρ:Nat->Sx.dN}{vm:Value}{rv:List Value}{M:List (List Rat)}
end
end Go.Ex
namespace Go.Sx
open Go Go.Ex Go.Proofs
theorem Rel.zo{H:Hp}{nx:Nat}{iv:Iv}{B:Nat}{w w' w2:World}{ρ:Nat->Sx.dN}{row:Option Nat}(r:Rel H nx iv B w ρ w')(hne:∀g,row=some g->∀id b,cT H id=some b->(ρ id).nil=false->(ρ id).g≠g)(h:w'.grownBy w2 row):Rel H nx ((w'.heap.size,w2.heap.size)::iv) B w2 ρ w2:=
 r.zD h.size (fun id b hb hn=>h.block _ (r.low id b hb hn).2 fun e=>hne _ e.symm id b hb hn rfl) fun lo hi hm=>by
  rcases List.mem_cons.1 hm with e|hm
  ·injection e with e1 e2;subst e1 e2;exact⟨aI _,fun id b hb hn=>by have:=(r.low id b hb hn).2;omega⟩
  ·exact⟨by have:=r.oU lo hi hm;have:=r.size;have:=h.size;omega,fun id b hb hn=>r.im lo hi hm id b hb hn⟩
end Go.Sx
namespace Go.Ex
open Go Go.Sx Go.Proofs
end Go.Ex
namespace Go.Ex
open Go Go.Sx Go.Proofs
end Go.Ex
namespace Go.Sx
open Go Go.Ex Go.Proofs
theorem Sub.nil{B nx:Nat}{l:Env}{H:Hp}{iv:Iv}{w w':World}{ρ:Nat->Sx.dN}{t:xA}(u e sz:Nat)(h9:eR l u=some (.o (.v (.slice none 0 0))))(hsc:cO nx l)(r:Rel H nx iv B w ρ w')
  (h:∀ρ1,Rel ((nx,.vec e sz [])::H) (nx+1) iv B w ρ1 w'->Sx.Sub B ((u,.o (.w nx 0))::l) (nx+1) ρ1 w' t):Sx.Sub B l nx ρ w' t:=by
 have r1:=r.push (.vec e sz []) ⟨0,0,true⟩ (w2:=w') rfl rfl rfl (aI _) (fun _ _=>rfl) (fun h=>by cases h) (.inl ⟨rfl,rfl⟩) trivial;obtain⟨ρ',h1,h2⟩:=h _ r1;refine⟨ρ',h1,fun x v hv=>?_⟩;obtain⟨h3,v0,h4,h5⟩:=h2 x v hv;refine⟨h3,?_⟩;rw[di]at h4;split at h4
 ·rename_i e;subst e;injection h4 with h4;subst h4;refine⟨_,h9,?_⟩;rw[<-h5];simp[SV.den,At.den,eB]
 ·refine⟨v0,h4,?_⟩;rw[<-h5];exact SV.gz (fun id hid=>fL id hid) (hsc.get _ _ h4)
end Go.Sx
namespace Go.Ex
open Go Go.Sx Go.Proofs
structure aAH(w:World)(S:Nat->Prop)(rv:List Value)(n:Nat)(M:List (List Rat))(gm k c g ck:Nat)(q:Rat)(d1:Bool)(e1:Option Addr)(m1 k1:Nat)(d2:Bool)(e2:Option Addr)(m2 k2:Nat):Prop where
 rv:rv[k]? =some (.slice (some ⟨g,0,none⟩) n ck)
 at_:l0 M k c=q
 aAO:cZ w S (.agg #[.bool d1,.slice e1 m1 k1,.bool d2,.slice e2 m2 k2]) q
 outer:w.cell? (Addr.add ⟨gm,0,none⟩ (k*1))=some (.slice (some ⟨g,0,none⟩) n ck)
 cells:∀j u,[Value.bool d1,.slice e1 m1 k1,.bool d2,.slice e2 m2 k2][j]? =some u->w.cell? ((Addr.add ⟨g,0,none⟩ (c*4)).add j)=some u
theorem Ev{α:Type}{xs:List α}{j:Nat}{v:α}(h:j<xs.length):xs.take (j*1)++[v]++xs.drop (j*1+1)=xs.set j v:=by
 rw[aR,List.set_eq_take_append_cons_drop,aQ h];simp
end Go.Ex
namespace Go.Ex
open Go Go.Sx Go.Proofs
def Fu(w:World)(S:Nat->Prop)(v:Value)(n:Nat)(qs:List Rat):Prop:=∃css,w.ownsRow 0 T.z8 4 v n css.flatten∧css.length=n∧Fr w S css qs
section
variable{S S' C:Nat->Prop}{H:Hp}{nx n:Nat}{iv iv':Iv}{B:Nat}{w w' w2:World}{ρ:Nat->Sx.dN}{v:Value}{qs:List Rat}
structure aAP(w:World)(S:Nat->Prop)(B:Nat)(iv:Iv)(v:Value)(n:Nat)(qs:List Rat):Prop where
 row:Fu w (fun g=>Cv S B iv g∧v.ownBlock≠some g) v n qs
 new:∀g,v.ownBlock=some g->Cv (fun _=>False) B iv g
def Ce(w:World)(S:Nat->Prop)(cs:List Value)(x:Int×Int):Prop:=∃b a n c b2 a2 n2 c2,cs=[.bool b,.slice a n c,.bool b2,.slice a2 n2 c2]∧fb w S (.agg #[.bool b,.slice a n c,.bool b2,.slice a2 n2 c2]) x.1 x.2
theorem Ce.bu{cs:List Value}{x:Int×Int}(h:Ce w S cs x)(hk:∀g,S g->w2.heap[g]? =w.heap[g]?):Ce w2 S cs x:=by
 obtain⟨b,a,n,c,b2,a2,n2,c2,h1,h2⟩:=h;exact⟨b,a,n,c,b2,a2,n2,c2,h1,h2.bu hk⟩
def cd{α:Type}(P:World->(Nat->Prop)->List Value->α->Prop)(w:World)(S:Nat->Prop)(v:Value)(xs:List α):Prop:=
 ∃css:List (List Value),gw w S 4 v css.flatten xs.length∧css.length=xs.length∧(∀cs∈css,cs.length=4)∧∀(j:Nat) cs x,css[j]? =some cs->xs[j]? =some x->P w S cs x
abbrev lh:=cd Ce
theorem lh.bu{xs:List (Int×Int)}(h:lh w S v xs)(hk:∀g,S g->w2.heap[g]? =w.heap[g]?):lh w2 S v xs:=by
 obtain⟨css,h1,h2,h3,h4⟩:=h;exact⟨css,h1.bu hk,h2,h3,fun j cs x k1 k2=>(h4 j cs x k1 k2).bu hk⟩
theorem cd.shape{α:Type}{P:World->(Nat->Prop)->List Value->α->Prop}{xs:List α}(h:cd P w S v xs):∃a c,v= .slice a xs.length c∧xs.length<=c∧xs.length<=maxLen:=by
 obtain⟨css,⟨h0,_,_,a,c,h1,h2,_⟩,_⟩:=h;exact⟨a,c,h1,h2,h0⟩
theorem cd.load{α:Type}{P:World->(Nat->Prop)->List Value->α->Prop}{xs:List α}{a:Option Addr}{m c j:Nat}{x:α}(h:cd P w S (.slice a m c) xs)(hq:xs[j]? =some x):
  ∃ad cs,a=some ad∧P w S cs x∧cs.length=4∧∀k u,cs[k]? =some u->S ad.block∧w.cell? ((ad.add (j*4)).add k)=some u:=by
 obtain⟨css,⟨h0,h1,h2,a',c',e,h3,h4⟩,hl,hl4,hf⟩:=h;injection e with e1 e2 e3;subst e1;obtain⟨cs,hcs⟩:∃cs,css[j]? =some cs:=⟨_,aA (by rw[hl];exact(aE.1 hq).1)⟩
 have hF:=hf j cs x hcs hq;have hlc:=hl4 cs (aD hcs);obtain⟨ad,k1,k2,k3⟩:=h4 (j*4+0) _ (flat_get hl4 hcs 0 _ (aA (show 0<cs.length by omega)));refine⟨ad,cs,k1,hF,hlc,fun k u hu=>?_⟩;obtain⟨ad2,m1,m2,m3⟩:=h4 (j*4+k) u (flat_get hl4 hcs k u hu);rw[k1]at m1;injection m1 with m1;subst m1;refine⟨m2,?_⟩;rw[<-m3];have:(ad.add (j*4)).add k=ad.add (j*4+k):=by
  unfold Addr.add;split<;>split<;>simp_all<;>omega
 rw[this]
def dS{α:Type}(P:World->(Nat->Prop)->Value->α->Prop)(w:World)(S:Nat->Prop)(v:Value)(M:List α):Prop:=
 ∃rv,gw w S 1 v rv M.length∧rv.length=M.length∧∀(i:Nat) u x,rv[i]? =some u->M[i]? =some x->P w S u x
theorem dS.shape{α:Type}{P:World->(Nat->Prop)->Value->α->Prop}{xs:List α}(h:dS P w S v xs):∃a c,v= .slice a xs.length c∧xs.length<=c∧xs.length<=maxLen:=by
 obtain⟨rv,⟨h0,_,_,a,c,h1,h2,_⟩,_⟩:=h;exact⟨a,c,h1,h2,h0⟩
theorem dS.load{α:Type}{P:World->(Nat->Prop)->Value->α->Prop}{xs:List α}{a:Option Addr}{m c j:Nat}{x:α}(h:dS P w S (.slice a m c) xs)(hq:xs[j]? =some x):
  ∃ad u,a=some ad∧P w S u x∧S ad.block∧w.cell? (ad.add (j*1))=some u:=by
 obtain⟨rv,⟨h0,h1,h2,a',c',e,h3,h4⟩,hl,hf⟩:=h;injection e with e1 e2 e3;subst e1;obtain⟨u,hu⟩:∃u,rv[j]? =some u:=⟨_,aA (by rw[hl];exact(aE.1 hq).1)⟩
 obtain⟨ad,k1,k2,k3⟩:=h4 j u hu;exact⟨ad,u,k1,hf j u x hu hq,k2,by rw[aR];exact k3⟩
end
section
variable{S S':Nat->Prop}{H:Hp}{nx:Nat}{iv iv':Iv}{B:Nat}{w w' w2:World}{ρ:Nat->Sx.dN}{v:Value}{xs:List (Int×Int)}
end
section
variable{S S':Nat->Prop}{H:Hp}{nx:Nat}{iv iv':Iv}{B:Nat}{w w' w2:World}{ρ:Nat->Sx.dN}{v:Value}{M:List (List (Int×Int))}
end
section
variable{S S':Nat->Prop}{H:Hp}{nx:Nat}{iv iv':Iv}{B:Nat}{w w' w2:World}{ρ:Nat->Sx.dN}{v:Value}{M:List (List Rat)}
end
def f0:List Value:=[.bool false,.slice none 0 0,.bool false,.slice none 0 0]
structure aAQ(w:World)(S:Nat->Prop)(n i:Nat)(css:List (List Value))(qs:List Rat):Prop where
 len:css.length=n
 four:∀cs∈css,cs.length=4
 one:∀cs∈css,∀u∈cs,u.oneCell'=true
 at_:∀(j:Nat) cs q,j<i->css[j]? =some cs->qs[j]? =some q->FQ w S cs q
section
variable{S S':Nat->Prop}{H:Hp}{nx n i:Nat}{iv iv':Iv}{B:Nat}{w w1 w' w2:World}{ρ:Nat->Sx.dN}{css:List (List Value)}{qs:List Rat}
end
structure aAI(w:World)(S:Nat->Prop)(B:Nat)(iv:Iv)(rv:List Value)(n:Nat)(M:List (List Rat)):Prop where
 len:rv.length=M.length
 row:∀(i:Nat) v qs,rv[i]? =some v->M[i]? =some qs->Fu w (fun g=>Cv S B iv g∧¬ ∃u∈rv,u.ownBlock=some g) v n qs
 AW:∀(i j:Nat) a b g,rv[i]? =some a->rv[j]? =some b->a.ownBlock=some g->b.ownBlock=some g->i=j
 new:∀v∈rv,∀g,v.ownBlock=some g->Cv (fun _=>False) B iv g
theorem fQ(B:Nat):∀g,(fun _:Nat=>False) g->g<B:=fun _ h=>h.elim
theorem ET{S:Nat->Prop}{B:Nat}{iv:Iv}{g:Nat}(h:Cv (fun _=>False) B iv g):Cv S B iv g:=h.elim (fun h=>h.elim) .inr
section
variable{S S':Nat->Prop}{H:Hp}{nx n i:Nat}{iv iv':Iv}{B:Nat}{w w1 w' w2:World}{ρ:Nat->Sx.dN}{rv:List Value}{M:List (List Rat)}
structure aAR(w:World)(S:Nat->Prop)(B:Nat)(iv:Iv)(vm:Value)(n:Nat)(M:List (List Rat)):Prop where
 ex:∃rv,GO w (fun g=>Cv S B iv g∧¬Mb vm rv g) vm rv n M∧∀g,Mb vm rv g->Cv (fun _=>False) B iv g
end
def dL(w:World)(S:Nat->Prop)(v:Value)(ps:List Nat):Prop:=gw w S 1 v (ps.map fun c:Nat=>.int .i64 (c:Int)) ps.length
theorem dL.bu{S:Nat->Prop}{w w2:World}{v:Value}{ps:List Nat}(h:dL w S v ps)(hk:∀g,S g->w2.heap[g]? =w.heap[g]?):dL w2 S v ps:=gw.bu h hk
theorem dL.bz{S S':Nat->Prop}{w:World}{v:Value}{ps:List Nat}(h:dL w S v ps)(hk:∀g,S g->S' g):dL w S' v ps:=gw.bz h hk
section
variable{S S':Nat->Prop}{H:Hp}{nx:Nat}{iv iv':Iv}{B:Nat}{w w' w2:World}{ρ:Nat->Sx.dN}{v:Value}{ps:List Nat}
theorem dL.rel(h:dL w (Cv S B iv) v ps)(r:Rel H nx iv B w ρ w')(hS:∀g,S g->g<B):dL w' (Cv S B iv) v ps:=dL.bu h fun _ hg=>Rel.same r hS hg
theorem dL.cQ(h:dL w2 (Nw (fun _=>False) w' w2) v ps)(hB:B<=w'.heap.size)(hm:(w'.heap.size,w2.heap.size)∈iv):dL w2 (Cv S B iv) v ps:=dL.bz h fun _ hg=>hg.cQ hB hm
end
section
variable{S S':Nat->Prop}{H:Hp}{nx n:Nat}{iv iv':Iv}{B:Nat}{w w' w2:World}{ρ:Nat->Sx.dN}{v:Value}{qs:List Rat}
end
def kD(A:List (List Rat))(pv:List Nat)(cols c i:Nat):List Rat:=(List.range i).foldl (fun x i=>x.set (pv.getD i 0) (-(l0 A i c))) ((List.replicate cols 0).set c 1)
def eY(A:List (List Rat))(pv:List Nat)(cols c:Nat):List (List Rat):=((List.range c).filter fun c=>decide (c∉pv)).map fun c=>kD A pv cols c pv.length
theorem zu(A:List (List Rat))(pv:List Nat)(cols c i:Nat):kD A pv cols c (i+1)=(kD A pv cols c i).set (pv.getD i 0) (-(l0 A i c)):=by
 rw[kD,bf,List.foldl_append];rfl
theorem zt{A:List (List Rat)}{pv:List Nat}{cols c:Nat}(h:c∈pv):eY A pv cols (c+1)=eY A pv cols c:=by
 rw[eY,bf,List.filter_append];simp[h,eY]
theorem yV{A:List (List Rat)}{pv:List Nat}{cols c:Nat}(h:c∉pv):eY A pv cols (c+1)=eY A pv cols c++[kD A pv cols c pv.length]:=by
 rw[eY,bf,List.filter_append];simp[h,eY]
def oc(A:List (List Rat))(pv:List Nat)(cols i:Nat):List Rat:=(List.range i).foldl (fun x i=>x.set (pv.getD i 0) (l0 A i cols)) (List.replicate cols 0)
theorem zp(A:List (List Rat))(pv:List Nat)(cols i:Nat):oc A pv cols (i+1)=(oc A pv cols i).set (pv.getD i 0) (l0 A i cols):=by
 rw[oc,bf,List.foldl_append];rfl
structure aAJ(w:World)(B:Nat)(iv:Iv)(rv:List Value)(v:Value)(n:Nat)(qs:List Rat):Prop where
 row:Fu w (fun g=>(Cv (fun _=>False) B iv g∧¬ ∃u∈rv,u.ownBlock=some g)∧v.ownBlock≠some g) v n qs
 wo:∀g,v.ownBlock=some g->Cv (fun _=>False) B iv g
section
variable{H:Hp}{nx n:Nat}{iv iv':Iv}{B:Nat}{w w' w2:World}{ρ:Nat->Sx.dN}{v:Value}{qs:List Rat}{rv:List Value}
end
def gP(w:World)(S:Nat->Prop)(cs:List Value)(q:Rat):Prop:=∃b a n c b2 a2 n2 c2,cs=[.bool b,.slice a n c,.bool b2,.slice a2 n2 c2]∧cH w S (.agg #[.bool b,.slice a n c,.bool b2,.slice a2 n2 c2]) q
abbrev cB:=cd gP
abbrev cI:=dS cB
section
variable{S S':Nat->Prop}{H:Hp}{nx:Nat}{iv iv':Iv}{B:Nat}{w w' w2:World}{ρ:Nat->Sx.dN}{v:Value}{qs:List Rat}{cs:List Value}{q:Rat}
theorem gP.bu(h:gP w S cs q)(hk:∀g,S g->w2.heap[g]? =w.heap[g]?):gP w2 S cs q:=by
 obtain⟨b,a,n,c,b2,a2,n2,c2,h1,h2⟩:=h;exact⟨b,a,n,c,b2,a2,n2,c2,h1,h2.bu hk⟩
theorem gP.bz(h:gP w S cs q)(hk:∀g,S g->S' g):gP w S' cs q:=by
 obtain⟨b,a,n,c,b2,a2,n2,c2,h1,h2⟩:=h;exact⟨b,a,n,c,b2,a2,n2,c2,h1,h2.bz hk⟩
theorem cB.bu(h:cB w S v qs)(hk:∀g,S g->w2.heap[g]? =w.heap[g]?):cB w2 S v qs:=by
 obtain⟨css,h1,h2,h3,h4⟩:=h;exact⟨css,h1.bu hk,h2,h3,fun j cs x k1 k2=>(h4 j cs x k1 k2).bu hk⟩
theorem cB.bz(h:cB w S v qs)(hk:∀g,S g->S' g):cB w S' v qs:=by
 obtain⟨css,h1,h2,h3,h4⟩:=h;exact⟨css,h1.bz hk,h2,h3,fun j cs x k1 k2=>(h4 j cs x k1 k2).bz hk⟩
theorem cI.bu{M:List (List Rat)}(h:cI w S v M)(hk:∀g,S g->w2.heap[g]? =w.heap[g]?):cI w2 S v M:=by
 obtain⟨rv,h1,h2,h3⟩:=h;exact⟨rv,h1.bu hk,h2,fun i u x k1 k2=>cB.bu (h3 i u x k1 k2) hk⟩
theorem cI.bz{M:List (List Rat)}(h:cI w S v M)(hk:∀g,S g->S' g):cI w S' v M:=by
 obtain⟨rv,h1,h2,h3⟩:=h;exact⟨rv,h1.bz hk,h2,fun i u x k1 k2=>cB.bz (h3 i u x k1 k2) hk⟩
end
section
variable{S S':Nat->Prop}{H:Hp}{nx:Nat}{iv iv':Iv}{B:Nat}{w w' w2:World}{ρ:Nat->Sx.dN}{v:Value}{qs:List Rat}
theorem cB.rel(h:cB w (Cv S B iv) v qs)(r:Rel H nx iv B w ρ w')(hS:∀g,S g->g<B):cB w' (Cv S B iv) v qs:=cB.bu h fun _ hg=>Rel.same r hS hg
theorem cB.bq(h:cB w (Cv S B iv) v qs)(r:Rel H nx iv B w ρ w')(hS:∀g,S g->g<B)(he:Ext w' w2)(hm:∀p,p∈iv->p∈iv'):cB w2 (Cv S B iv') v qs:=
 cB.bz (cB.bu (cB.rel h r hS) fun g hg=>he.block g (Rel.old r hS g hg)) fun _ hg=>hg.mono hm
theorem cB.cQ(h:cB w2 (Nw (fun _=>False) w' w2) v qs)(hB:B<=w'.heap.size)(hm:(w'.heap.size,w2.heap.size)∈iv):cB w2 (Cv S B iv) v qs:=cB.bz h fun _ hg=>hg.cQ hB hm
theorem cB.out{w0 w1:World}(h:cB w1 (Cv S w0.heap.size iv) v qs)(r:Rel H nx iv w0.heap.size w1 ρ w')(hS:Old S w0):cB w' (Nw S w0 w') v qs:=
 cB.bz (cB.rel h r hS) fun _ hg=>Cv.nw hg r
end
section
variable{S S':Nat->Prop}{H:Hp}{nx:Nat}{iv iv':Iv}{B:Nat}{w w' w2:World}{ρ:Nat->Sx.dN}{v:Value}{M:List (List Rat)}
theorem cI.rel(h:cI w (Cv S B iv) v M)(r:Rel H nx iv B w ρ w')(hS:∀g,S g->g<B):cI w' (Cv S B iv) v M:=cI.bu h fun _ hg=>Rel.same r hS hg
theorem cI.bq(h:cI w (Cv S B iv) v M)(r:Rel H nx iv B w ρ w')(hS:∀g,S g->g<B)(he:Ext w' w2)(hm:∀p,p∈iv->p∈iv'):cI w2 (Cv S B iv') v M:=
 cI.bz (cI.bu (cI.rel h r hS) fun g hg=>he.block g (Rel.old r hS g hg)) fun _ hg=>hg.mono hm
theorem cI.cQ(h:cI w2 (Nw (fun _=>False) w' w2) v M)(hB:B<=w'.heap.size)(hm:(w'.heap.size,w2.heap.size)∈iv):cI w2 (Cv S B iv) v M:=cI.bz h fun _ hg=>hg.cQ hB hm
theorem cI.old(h:cI w2 (Nw (Cv S B iv) w' w2) v M)(hB:B<=w'.heap.size):cI w2 (Cv S B ((w'.heap.size,w2.heap.size)::iv)) v M:=cI.bz h fun _ hg=>Nw.cv hg hB
end
theorem zq(A:List (List Rat))(pv:List Nat)(cols c:Nat):(eY A pv cols c).length<=c:=by
 unfold eY;rw[aK];exact bH (List.length_filter_le _ _) (by simp)
end Go.Ex
namespace Go.Ex
def cX:List Int->Int
 |[]=>0
 |c::r=>c+65536*cX r
def up(k:Nat):Int:=65536^k
theorem xt(k:Nat):up (k+1)=65536*up k:=by rw[up,Int.pow_succ,Int.mul_comm];rfl
theorem DP(k:Nat):0<up k:=Int.pow_pos (by decide)
theorem wD(a b:List Int):cX (a++b)=cX a+up a.length*cX b:=by
 induction a with
 |nil=>simp[cX,up]
 |cons c r ih=>rw[List.cons_append,cX,ih,cX,List.length_cons,xt,Int.mul_add,<-Int.mul_assoc];omega
theorem Aj(a:List Int):cX (a.map (- ·))= -cX a:=by
 induction a with
 |nil=>rfl
 |cons c r ih=>rw[List.map_cons,cX,ih,cX];omega
def Dg(l:List Nat):Prop:=∀d∈l,d<65536
def j7(l:List Nat):Int:=cX (l.map fun d:Nat=>(d:Int))
theorem uP{l:List Nat}(h:Dg l):0<=j7 l∧j7 l<up l.length:=by
 induction l with
 |nil=>exact⟨Int.le_refl _,by decide⟩
 |cons d r ih=>
  have h1:=ih fun x hx=>h x (aC _ hx);have h2:=h d aH;have e:j7 (d::r)=(d:Int)+65536*j7 r:=rfl;rw[e,List.length_cons,xt];omega
def dB:List Int->Int->List Nat×Int
 |[],k=>([],k)
 |c::r,k=>(((c+k) % 65536).toNat::(dB r ((c+k) / 65536)).1,(dB r ((c+k) / 65536)).2)
theorem iy:∀(cs:List Int) (k:Int),cX cs+k=j7 (dB cs k).1+up cs.length*(dB cs k).2∧Dg (dB cs k).1∧(dB cs k).1.length=cs.length
 |[],k=>⟨by simp[cX,dB,j7,up],by simp[dB,Dg],rfl⟩
 |c::r,k=>by
  obtain⟨h1,h2,h3⟩:=iy r ((c+k) / 65536);have h4:0<=(c+k) % 65536:=Int.emod_nonneg _ (by decide);have h5:(c+k) % 65536<65536:=Int.emod_lt_of_pos _ (by decide);have h6:=Int.mul_ediv_add_emod (c+k) 65536;refine⟨?_,fun d hd=>?_,by simp[dB,h3]⟩
  ·have e:j7 (dB (c::r) k).1=(((c+k) % 65536).toNat:Int)+65536*j7 (dB r ((c+k) / 65536)).1:=rfl;have e2:(dB (c::r) k).2=(dB r ((c+k) / 65536)).2:=rfl;rw[e,e2,cX,List.length_cons,xt,Int.mul_assoc];omega
  ·have e:(dB (c::r) k).1=((c+k) % 65536).toNat::(dB r ((c+k) / 65536)).1:=rfl;rw[e]at hd;rcases List.mem_cons.1 hd with rfl|hd
   ·omega
   ·exact h2 d hd
theorem xu(cs:List Int)(c k:Int):dB (cs++[c]) k=((dB cs k).1++[((c+(dB cs k).2) % 65536).toNat],(c+(dB cs k).2) / 65536):=by
 induction cs generalizing k with
 |nil=>rfl
 |cons d r ih=>simp only[List.cons_append,dB,ih]
theorem iE:∀(cs:List Int) (k:Int),(∀c∈cs,-1152921504606846976<=c∧c<=1152921504606846976)-> -1152921504606846976<=k->k<=1152921504606846976-> -1152921504606846976<=(dB cs k).2∧(dB cs k).2<=1152921504606846976
 |[],k,_,h1,h2=>⟨h1,h2⟩
 |c::r,k,h,h1,h2=>by
  have hc:=h c aH;exact iE r _ (fun x hx=>h x (aC _ hx)) (by omega) (by omega)
def cP(n:Nat):List Nat:=if h:n=0 then []else n % 65536::cP (n / 65536)
termination_by n
decreasing_by omega
theorem iz:cP 0=[]:=by rw[cP];rfl
theorem mS{n:Nat}(h:0<n):cP n=n % 65536::cP (n / 65536):=by
 rw[cP,dif_neg (by omega)]
theorem jA(n:Nat):j7 (cP n)=n∧Dg (cP n):=by
 induction n using Nat.strongRecOn with
 |_ n ih=>
  rcases bG n with h|h
  ·subst h;rw[iz];exact⟨rfl,by simp[Dg]⟩
  ·rw[mS h];obtain⟨h1,h2⟩:=ih (n / 65536) (by omega);refine⟨?_,fun d hd=>?_⟩
   ·have e:j7 (n % 65536::cP (n / 65536))=((n % 65536:Nat):Int)+65536*j7 (cP (n / 65536)):=rfl;rw[e,h1];omega
   ·rcases List.mem_cons.1 hd with rfl|hd
    ·omega
    ·exact h2 d hd
theorem ga{n:Nat}:∀{k:Nat},n<65536^k->(cP n).length<=k
 |0,h=>by
  have:n=0:=by simp at h;exact h
  subst this;rw[iz];simp
 |k+1,h=>by
  rcases bG n with h0|h0
  ·subst h0;rw[iz];simp
  ·rw[mS h0,List.length_cons];have:=ga (n:=n / 65536) (k:=k) (by rw[Nat.pow_succ]at h;exact Nat.div_lt_of_lt_mul (by rw[bL];exact h));omega
def fO:List Nat->List Nat
 |[]=>[]
 |[a]=>[a]
 |a::b::r=>(a+65536*b)::fO r
theorem uQ:∀(l:List Nat),Dg l->(val (fO l):Int)=j7 l∧Lm (fO l)∧(fO l).length=(l.length+1) / 2
 |[],_=>⟨rfl,by simp[fO,Lm],rfl⟩
 |[a],h=>by
  have:=h a (by simp);exact⟨by simp[fO,val,j7,cX],fun x hx=>by simp[fO]at hx;omega,by simp[fO]⟩
 |a::b::r,h=>by
  obtain⟨h1,h2,h3⟩:=uQ r fun x hx=>h x (aC _ (aC _ hx));have ha:=h a (by simp);have hb:=h b (by simp);refine⟨?_,fun x hx=>?_,?_⟩
  ·have e:j7 (a::b::r)=(a:Int)+65536*((b:Int)+65536*j7 r):=rfl;rw[e,<-h1,fO,val];simp only[Int.natCast_add,Int.natCast_mul]
   omega
  ·rw[fO]at hx;rcases List.mem_cons.1 hx with rfl|hx
   ·omega
   ·exact h2 x hx
  ·rw[fO,List.length_cons,h3];simp only[List.length_cons]
   omega
def pk(ds:List Nat)(k:Nat):List Nat:=(List.range k).map fun i=>ds.getD (2*i) 0+65536*ds.getD (2*i+1) 0
theorem tX(ds:List Nat)(k:Nat):pk ds (k+1)=pk ds k++[ds.getD (2*k) 0+65536*ds.getD (2*k+1) 0]:=by simp[pk,bf]
theorem qt(ds:List Nat)(k:Nat):(pk ds k).length=k:=by simp[pk]
theorem DQ:∀(ds:List Nat),pk ds ((ds.length+1) / 2)=fO ds
 |[]=>rfl
 |[a]=>by simp[pk,fO,bf]
 |a::b::r=>by
  have ih:=DQ r;have e:((a::b::r).length+1) / 2=(r.length+1) / 2+1:=by simp only[List.length_cons];omega
  rw[e,fO,<-ih,pk,List.range_succ_eq_map,List.map_cons,List.map_map,pk];congr 1
theorem DR{ds:List Nat}(h:Dg ds)(k:Nat):Lm (pk ds k):=fun x hx=>by
 obtain⟨i,_,rfl⟩:=aS.1 hx;have key:∀j,ds.getD j 0<65536:=fun j=>by
  rw[List.getD]
  cases hj:ds[j]? with
  |none=>simp
  |some d=>simp;exact h d (aD hj)
 have h1:=key (2*i);have h2:=key (2*i+1);omega
end Go.Ex
namespace Go.Ex
open Go Go.Sx Go.Proofs
def dJ(w:World)(S:Nat->Prop)(v:Value)(cs:List Int):Prop:=gw w S 1 v (cs.map (Value.int .i64)) cs.length
theorem dJ.bu{S:Nat->Prop}{w w2:World}{v:Value}{cs:List Int}(h:dJ w S v cs)(hk:∀g,S g->w2.heap[g]? =w.heap[g]?):dJ w2 S v cs:=gw.bu h hk
theorem dJ.bz{S S':Nat->Prop}{w:World}{v:Value}{cs:List Int}(h:dJ w S v cs)(hk:∀g,S g->S' g):dJ w S' v cs:=gw.bz h hk
theorem dJ.load{S:Nat->Prop}{w:World}{a:Option Addr}{n c j:Nat}{cs:List Int}{x:Int}(h:dJ w S (.slice a n c) cs)(hx:cs[j]? =some x):∃ad,a=some ad∧S ad.block∧w.cell? (ad.add (j*1))=some (.int .i64 x):=by
 obtain⟨_,_,_,a',c',e,_,h4⟩:=h;injection e with e1 e2 e3;subst e1;obtain⟨ad,k1,k2,k3⟩:=h4 j (.int .i64 x) (by rw[aN,hx];rfl);exact⟨ad,k1,k2,by rw[aR];exact k3⟩
theorem dJ.shape{S:Nat->Prop}{w:World}{v:Value}{cs:List Int}(h:dJ w S v cs):∃a c,v= .slice a cs.length c∧cs.length<=c:=by
 obtain⟨_,_,_,a',c',e,h3,_⟩:=h;exact⟨a',c',e,h3⟩
def dT(ds:List Nat):List Int:=ds.map fun d:Nat=>(d:Int)
theorem du(ds:List Nat):(dT ds).length=ds.length:=by simp[dT]
end Go.Ex
namespace Go.Sx
open Go Go.Ex Go.Proofs
theorem Rel.yh{H:Hp}{nx:Nat}{iv:Iv}{B:Nat}{w w':World}{ρ:Nat->Sx.dN}(r:Rel H nx iv B w ρ w'){id t m sz:Nat}{cs:List Value}(h:cT H id=some (.vec t sz cs))(hm:cs.length=m*sz)(hs:0<sz):
  w'.ownsRow B t sz ((At.w id m).den ρ) m cs:=by
 rcases r.vec id t sz _ h with⟨hn,rfl⟩|⟨hn,spare,hb,hc,hcap⟩
 ·have hm0:m=0:=by
   rcases bG m with h|h
   ·exact h
   ·have:=Nat.mul_pos h hs;simp at hm;omega
  subst hm0;have:(At.w id 0).den ρ= .slice none 0 0:=by simp[At.den,hn]
  rw[this];exact World.ownsRow_nil _ _ _ _
 ·have hv:(At.w id m).den ρ= .slice (some ⟨(ρ id).g,0,none⟩) m (ρ id).cap:=by simp[At.den,hn]
  have h1:(cs++spare).length=cs.length+spare.length:=List.length_append;rw[hv];refine⟨hm,.inr ⟨(ρ id).g,(ρ id).cap,_,rfl,(r.low id _ h hn).1,hb,?_,hcap,by simpa using hc,?_⟩⟩
  ·have h2:m*sz<=(ρ id).cap*sz:=by omega
   exact Nat.le_of_mul_le_mul_right h2 hs
  ·rw[<-hm];simp
end Go.Sx
namespace Go.Ex
open Go Go.Sx Go.Proofs
theorem AO(n:Nat)(w:World)(hn:n<=9223372036854775807):dQ PG N.qA #[.int .i64 n] w (dU w fun v w2=>dJ w2 (Nw (fun _=>False) w w2) v (dT (cP n))):=by
 refine tC (by simp) ?_;conv=>whnf
 refine⟨Nat×List Nat×World,fun z=>⟨[(0,.o (.v (.int .i64 z.1))),(3,.o (.w 0 z.2.1.length))],[(0,.vec T.int 1 ((dT z.2.1).map (Value.int .i64)))],1,[],z.2.2⟩,fun z=>z.1,
  fun z=>cF w.heap.size w z.2.2∧z.1<=n∧z.2.1.length<=n-z.1∧z.2.1++cP z.1=cP n,?_,?_⟩
 ·intro ρ w' r
  exact⟨(n,[],w'),⟨r.bs,aI _,by simp,by simp⟩,Sub.nil 3 T.int 1 rfl (by simp[cO,SV.sc,At.sc,cJ]) r fun ρ1 r1=>
   Sub.gen [] r1 ⟨rfl,trivial⟩ ⟨rfl,rfl,trivial⟩ (by simp[cY,cN.scopd]) (by simp[cO,SV.sc,At.sc]) (by rfl) (by simp)⟩
 rintro⟨k,ds,w1⟩ ⟨hw,hk,hl,hs⟩;dsimp only at hw hk hl hs ⊢;have hdl:=du ds;conv=>whnf
 refine cW.mk (fun h=>?_) (fun h=>?_)
 ·have h:0<k:=by
   have:(k:Int)>0:=aG h;omega
  conv=>whnf
  refine⟨by decide,((k % 65536:Nat):Int),Dz k 65536,?_⟩;conv=>whnf
  refine .inl ?_;conv=>whnf
  refine⟨by simp[hdl],?_,by have h1:=congrArg List.length hs;rw[List.length_append]at h1;have h2:=ga (n:=n) (k:=4) (by omega);unfold maxLen;omega,?_⟩
  ·have h1:=congrArg List.length hs;rw[List.length_append]at h1;have h2:=ga (n:=n) (k:=4) (by omega);omega
  conv=>whnf
  refine⟨by decide,((k / 65536:Nat):Int),Eu (by omega),?_⟩;conv=>whnf
  intro ρ3 w3 r3;have hl5:(ds++[k % 65536]).length=ds.length+1:=by simp
  have hm5:(dT (ds++[k % 65536])).map (Value.int .i64)=(dT ds).map (Value.int .i64)++[.int .i64 ((k % 65536:Nat):Int)]:=by simp[dT]
  refine⟨(k / 65536,ds++[k % 65536],w3),⟨hw.tr r3.bs,by dsimp only;omega,by dsimp only;rw[hl5];omega,?_⟩,
   Sub.gen [(0,2)] r3 ⟨by rw[hm5];rfl,trivial⟩ ⟨rfl,by dsimp only;rw[hl5];rfl,trivial⟩ (by simp[cY,cN.scopd]) (by simp[cO,SV.sc,At.sc]) (by rfl) (fun lo hi h=>h),by dsimp only;omega⟩
  dsimp only
  rw[<-hs,mS h];simp
 ·have h:k=0:=by
   have:¬(k:Int)>0:=aF h;omega
  subst h;rw[iz,List.append_nil]at hs;subst hs;conv=>whnf
  intro ρe we re;refine⟨_,rfl,hw.tr re.bs,?_⟩;have:=re.gB (id:=0) (sz:=1) (m:=(cP n).length) rfl (by simp[hdl]) (by have h2:=ga (n:=n) (k:=4) (by omega);unfold maxLen;omega) (by decide) (by intro u hu;simp at hu;obtain⟨_,_,rfl⟩:=hu;rfl);unfold dJ;rw[hdl];exact this.bz fun g hg=>.inr hg
end Go.Ex
namespace Go.Ex
open Go Go.Sx Go.Proofs
theorem rW(n:Int):(n.tmod 65536<0->n % 65536=n.tmod 65536+65536)∧(¬n.tmod 65536<0->n % 65536=n.tmod 65536)∧ -65536<n.tmod 65536∧n.tmod 65536<65536:=by
 by_cases h:0<=n
 ·rw[Int.tmod_eq_emod_of_nonneg h];omega
 ·have h1:n.tmod 65536= -((-n) % 65536):=by
   have:n= -(-n):=by omega
   conv=>lhs;rw[this]
   rw[Int.neg_tmod,Int.tmod_eq_emod_of_nonneg (by omega)]
  rw[h1];omega
theorem xb(n:Int):(n-n % 65536).tdiv 65536=n / 65536:=by
 have h:n-n % 65536=65536*(n / 65536):=by omega
 rw[h,Int.mul_tdiv_cancel_left _ (by decide)]
theorem xc{S:Nat->Prop}{w:World}{v:Value}{cs:List Int}(hS:Old S w)(h:dJ w S v cs)(hb:∀c∈cs,-1152921504606846976<=c∧c<=1152921504606846976)(hl:cs.length<=1000000000):
  dQ PG N.oI #[v] w (dU w fun v' w2=>∃o,v'= .tuple #[o,.int .i64 (dB cs 0).2]∧w2.ownsRow w.heap.size T.int 1 o cs.length ((dT (dB cs 0).1).map (Value.int .i64))):=by
 obtain⟨a,c,rfl,hc⟩:=h.shape;refine rL (by simp) ?_;conv=>whnf
 refine⟨Nat×World,fun z=>⟨[(0,.o (.v (.slice a cs.length c))),(4,.o (.w 0 z.1)),(5,.o (.v (.int .i64 (dB (cs.take z.1) 0).2))),(6,.o (.v (.int .i64 z.1)))],[(0,.vec T.int 1 ((dT (dB (cs.take z.1) 0).1).map (Value.int .i64)))],1,[],z.2⟩,fun z=>cs.length-z.1,
  fun z=>cF w.heap.size w z.2∧z.1<=cs.length,?_,?_⟩
 ·intro ρ w' r
  exact⟨(0,w'),⟨r.bs,by simp⟩,Sub.nil 4 T.int 1 rfl (by simp[cO,SV.sc,At.sc,cJ]) r fun ρ1 r1=>
   Sub.gen [] r1 ⟨rfl,trivial⟩ ⟨rfl,rfl,rfl,rfl,trivial⟩ (by simp[cY,cN.scopd]) (by simp[cO,SV.sc,At.sc]) (by rfl) (by simp)⟩
 rintro⟨i,w1⟩ ⟨hw,hi⟩;dsimp only at hw hi ⊢;obtain⟨-,hdg,hlen⟩:=iy (cs.take i) 0;have hln:((dT (dB (cs.take i) 0).1).map (Value.int .i64)).length=i:=by rw[aK,du,hlen,aW];omega
 obtain⟨hk1,hk2⟩:=iE (cs.take i) 0 (fun c hc=>hb c (List.mem_of_mem_take hc)) (by decide) (by decide);have hR:dJ w1 S (.slice a cs.length c) cs:=dJ.bu h fun g hg=>hw.block g (hS g hg);conv=>whnf
 refine cW.mk (fun h=>?_) (fun h=>?_)
 ·have h:i<cs.length:=by simpa using h
  obtain⟨x,hx⟩:∃x,cs[i]? =some x:=⟨_,aA h⟩
  obtain⟨hx1,hx2⟩:=hb x (aD hx);obtain⟨ad,rfl,q1,q2⟩:=hR.load hx;have htk:cs.take (i+1)=cs.take i++[x]:=by rw[List.take_add_one,hx];rfl
  have hsn:=xu (cs.take i) x 0;rw[<-htk]at hsn;generalize (dB (cs.take i) 0).1=ds at*
  generalize (dB (cs.take i) 0).2=k at*
  obtain⟨t1,t2,t3,t4⟩:=rW (x+k);have hem1:=Int.emod_nonneg (x+k) (show (65536:Int)≠0 by decide);have hem2:=Int.emod_lt_of_pos (x+k) (show (0:Int)<65536 by decide);conv=>whnf
  refine⟨ad,rfl,⟨by omega,by omega⟩,?_⟩;conv=>whnf
  refine⟨.int .i64 x,fun ρ w' r=>?_,?_⟩
  ·rw[aB,bo (w:=w1) (w2:=w') (by rw[cC];exact Rel.same (S:=S) r hS (.inl q1))];exact q2
  conv=>whnf
  refine⟨x+k,by rw[wrap64]<;>omega,?_⟩;conv=>whnf
  refine⟨by decide,(x+k).tmod 65536,rfl,?_⟩;conv=>whnf
  refine cW.mk (fun hneg=>?_) (fun hneg=>?_)
  ·have hneg:=t1 (aG hneg);conv=>whnf
   refine⟨(x+k) % 65536,by rw[hneg,wrap64]<;>omega,?_⟩;conv=>whnf
   refine⟨x+k-(x+k) % 65536,by rw[wrap64]<;>omega,?_⟩;conv=>whnf
   refine⟨by decide,(x+k) / 65536,by rw[xb,wrap64]<;>omega,?_⟩;conv=>whnf
   refine .inl ?_;conv=>whnf
   refine⟨by rw[hln,aR],by omega,by unfold maxLen;omega,?_⟩;conv=>whnf
   refine⟨((i+1:Nat):Int),by rw[wrap64]<;>omega,?_⟩;conv=>whnf
   intro ρ3 w3 r3;have hm5:(dT (dB (cs.take (i+1)) 0).1).map (Value.int .i64)=(dT ds).map (Value.int .i64)++[.int .i64 ((x+k) % 65536)]:=by
    rw[hsn];simp[dT,Int.toNat_of_nonneg hem1]
   have hk5:(dB (cs.take (i+1)) 0).2=(x+k) / 65536:=by rw[hsn]
   exact⟨(i+1,w3),⟨hw.tr r3.bs,by dsimp only;omega⟩,Sub.gen [(0,2)] r3 ⟨by dsimp only;rw[hm5];rfl,trivial⟩ ⟨rfl,rfl,by dsimp only;rw[hk5];rfl,rfl,trivial⟩ (by simp[cY,cN.scopd]) (by simp[cO,SV.sc,At.sc]) (by rfl) (fun lo hi h=>h),by dsimp only;omega⟩
  ·have hneg:=t2 (aF hneg);rw[<-hneg];conv=>whnf
   refine⟨x+k-(x+k) % 65536,by rw[wrap64]<;>omega,?_⟩;conv=>whnf
   refine⟨by decide,(x+k) / 65536,by rw[xb,wrap64]<;>omega,?_⟩;conv=>whnf
   refine .inl ?_;conv=>whnf
   refine⟨by rw[hln,aR],by omega,by unfold maxLen;omega,?_⟩;conv=>whnf
   refine⟨((i+1:Nat):Int),by rw[wrap64]<;>omega,?_⟩;conv=>whnf
   intro ρ3 w3 r3;have hm5:(dT (dB (cs.take (i+1)) 0).1).map (Value.int .i64)=(dT ds).map (Value.int .i64)++[.int .i64 ((x+k) % 65536)]:=by
    rw[hsn];simp[dT,Int.toNat_of_nonneg hem1]
   have hk5:(dB (cs.take (i+1)) 0).2=(x+k) / 65536:=by rw[hsn]
   exact⟨(i+1,w3),⟨hw.tr r3.bs,by dsimp only;omega⟩,Sub.gen [(0,2)] r3 ⟨by dsimp only;rw[hm5];rfl,trivial⟩ ⟨rfl,rfl,by dsimp only;rw[hk5];rfl,rfl,trivial⟩ (by simp[cY,cN.scopd]) (by simp[cO,SV.sc,At.sc]) (by rfl) (fun lo hi h=>h),by dsimp only;omega⟩
 ·have h:i=cs.length:=by
   have:¬i<cs.length:=by simpa using h
   omega
  subst h;rw[ah]at hln ⊢;conv=>whnf
  intro ρe we re;exact⟨_,rfl,hw.tr re.bs,_,rfl,re.yh (id:=0) rfl (by rw[hln,aR]) (by decide)⟩
end Go.Ex
namespace Go.Sx
open Go Go.Ex Go.Proofs
theorem Rel.EA{H:Hp}{nx:Nat}{iv:Iv}{B:Nat}{w w':World}{ρ:Nat->Sx.dN}(r:Rel H nx iv B w ρ w'){id t m:Nat}{ls:List Nat}(h:cT H id=some (.vec t 1 (U ls)))(hm:m<=ls.length)(hlm:Lm ls)(hle:ls.length<=9223372036854775807):
  cV w' (fun g=>B<=g∧g<w'.heap.size) ((At.w id m).den ρ) (ls.take m):=by
 have hlt:(ls.take m).length=m:=by rw[aW];omega
 rcases r.vec id t 1 _ h with⟨hn,hu⟩|⟨hn,spare,hb,hc,hcap⟩
 ·have hl:ls=[]:=by cases ls with
   |nil=>rfl
   |cons a b=>simp[U]at hu
  subst hl;simp at hm;subst hm;have:(At.w id 0).den ρ= .slice none 0 0:=by simp[At.den,hn]
  rw[this];exact cV.nil _ _
 ·refine⟨hlm.take m,by rw[hlt];omega,some ⟨(ρ id).g,0,none⟩,(ρ id).cap,by rw[hlt];simp[At.den,hn],?_,fun j x hx=>⟨_,rfl,r.low id _ h hn,?_⟩⟩
  ·have h1:(U ls++spare).length=ls.length+spare.length:=by rw[List.length_append,ei]
   rw[hlt];omega
  ·rw[List.getElem?_take]at hx;split at hx
   ·rw[dA,cell_of hb,aP,aJ (by rw[ei];exact(aE.1 hx).1)];exact qO hx
   ·cases hx
end Go.Sx
namespace Go.Ex
open Go Go.Sx Go.Proofs
theorem BK{ls:List Nat}{n:Nat}(_hn:n<ls.length)(h0:ls[n]? =some 0):dG (ls.take (n+1))=dG (ls.take n):=by
 rw[List.take_add_one,h0];exact iU _
theorem BL{ls:List Nat}{n x:Nat}(h0:ls[n]? =some x)(hx:x≠0):dG (ls.take (n+1))=ls.take (n+1):=by
 rw[List.take_add_one,h0];exact kx _ hx
theorem AP{S:Nat->Prop}{w:World}{v:Value}{ds:List Nat}(hS:Old S w)(h:dJ w S v (dT ds))(hd:Dg ds)(hl:ds.length<=1000000000):
  dQ PG N.pz #[v] w (dU w fun v' w2=>∃lv,v'= .agg #[.bool false,lv]∧cV w2 (Nw (fun _=>False) w w2) lv (dG (fO ds))):=by
 obtain⟨a,c,rfl,hc⟩:=h.shape;rw[du]at hc h ⊢;refine tB (by simp) ?_;conv=>whnf
 refine⟨Nat×World,fun z=>match z.1 with
   |0=>⟨[(0,.o (.v (.slice a ds.length c))),(2,.o (.p 0 0)),(3,.o (.p 1 0)),(4,.o (.v (.int .i64 0)))],[(1,.box T.Int [.v (.bool false),.v (.slice none 0 0)]),(0,.box T.Int [.v (.bool false),.v (.slice none 0 0)])],2,[],z.2⟩
   |k+1=>⟨[(0,.o (.v (.slice a ds.length c))),(2,.o (.p 0 0)),(3,.o (.p 1 0)),(4,.o (.v (.int .i64 ((2*(k+1):Nat):Int))))],[(2,.vec T.uint32 1 (U (pk ds (k+1)))),(1,.box T.Int [.v (.bool false),.w 2 (k+1)]),(0,.box T.Int [.v (.bool false),.v (.slice none 0 0)])],3,[],z.2⟩,
  fun z=>ds.length-z.1,fun z=>cF w.heap.size w z.2∧2*z.1<=ds.length+1,?_,?_⟩
 ·intro ρ w' r;exact⟨(0,w'),⟨r.bs,by simp⟩,Sub.gen [] r ⟨rfl,rfl,trivial⟩ ⟨rfl,rfl,rfl,rfl,trivial⟩ (by simp[cY,cN.scopd,At.sc]) (by simp[cO,SV.sc,At.sc]) (by rfl) (by simp)⟩
 rintro⟨k,w1⟩ ⟨hw,hi⟩;dsimp only at hw hi;have hR:dJ w1 S (.slice a ds.length c) (dT ds):=dJ.bu h fun g hg=>hw.block g (hS g hg)
 cases k with
 |zero=>
  conv=>whnf
  refine cW.mk (fun h1=>?_) (fun h1=>?_)
  ·have h1:0<ds.length:=by
    have:=aG h1;omega
   obtain⟨d0,hd0⟩:∃x,ds[0]? =some x:=⟨_,aA h1⟩
   have hd0b:=hd d0 (aD hd0);have hg0:ds.getD (2*0) 0=d0:=by show ds.getD 0 0=d0;rw[List.getD,hd0];rfl
   obtain⟨ad,rfl,q1,q2⟩:=hR.load (j:=0) (x:=(d0:Int)) (by rw[dT,aN,hd0];rfl);conv=>whnf
   refine⟨ad,rfl,⟨by omega,by omega⟩,?_⟩;conv=>whnf
   refine⟨.int .i64 (d0:Int),fun ρ w' r=>?_,?_⟩
   ·show w'.cell? (ad.add (0*1))=_;rw[bo (w:=w1) (w2:=w') (by rw[cC];exact Rel.same (S:=S) r hS (.inl q1))];exact q2
   conv=>whnf
   refine⟨((0+1:Nat):Int),by rw[wrap64]<;>omega,?_⟩;conv=>whnf
   refine cW.mk (fun h2=>?_) (fun h2=>?_)
   ·have h2:0+1<ds.length:=by
     have:=aG h2;omega
    obtain⟨d1,hd1⟩:∃x,ds[0+1]? =some x:=⟨_,aA h2⟩
    have hd1b:=hd d1 (aD hd1);have hg1:ds.getD (2*0+1) 0=d1:=by show ds.getD (0+1) 0=d1;rw[List.getD,hd1];rfl
    obtain⟨_,had,q3,q4⟩:=hR.load (j:=0+1) (x:=(d1:Int)) (by rw[dT,aN,hd1];rfl);injection had with had;subst had;conv=>whnf
    refine⟨((0+1:Nat):Int),by rw[wrap64]<;>omega,?_⟩;conv=>whnf
    refine⟨ad,rfl,⟨by omega,by omega⟩,?_⟩;conv=>whnf
    refine⟨.int .i64 (d1:Int),fun ρ w' r=>?_,?_⟩
    ·show w'.cell? (ad.add ((0+1)*1))=_;rw[bo (w:=w1) (w2:=w') (by rw[cC];exact Rel.same (S:=S) r hS (.inl q3))];exact q4
    conv=>whnf
    refine⟨((65536*d1:Nat):Int),by rw[wrap64]<;>omega,?_⟩;conv=>whnf
    refine⟨((d0+65536*d1:Nat):Int),by rw[wrap64]<;>omega,?_⟩;have hpk:=tX ds 0;rw[hg0,hg1]at hpk;generalize d0+65536*d1=dd at*
    have hdd:dd<4294967296:=DR hd (0+1) dd (by rw[hpk];simp);conv=>whnf
    refine⟨(dd:Int),by rw[tP]<;>omega,?_⟩;conv=>whnf
    refine .inl ?_;conv=>whnf
    refine⟨by omega,by unfold maxLen;omega,?_⟩;conv=>whnf
    refine⟨((2*(0+1):Nat):Int),by rw[wrap64]<;>omega,?_⟩;conv=>whnf
    intro ρ3 w3 r3;have hU:U (pk ds (0+1))=U (pk ds 0)++[.int .u32 (dd:Int)]:=by rw[hpk];simp[U]
    exact⟨(0+1,w3),⟨hw.tr r3.bs,by dsimp only;omega⟩,Sub.gen [(2,3)] r3 ⟨by dsimp only;rw[hU];rfl,rfl,rfl,trivial⟩ ⟨rfl,rfl,rfl,rfl,trivial⟩ (by simp[cY,cN.scopd,At.sc]) (by simp[cO,SV.sc,At.sc]) (by rfl) (fun lo hi h=>h),by dsimp only;omega⟩
   ·have h2:0+1=ds.length:=by
     have:=aF h2;omega
    have hg1:ds.getD (2*0+1) 0=0:=by show ds.getD (0+1) 0=0;rw[List.getD,List.getElem?_eq_none (by omega)];rfl
    have hpk:=tX ds 0;rw[hg0,hg1]at hpk;obtain⟨dd,hdde⟩:∃dd,dd=d0:=⟨_,rfl⟩
    rw[<-hdde]at hpk ⊢;have hdd:dd<4294967296:=by omega
    rw[show dd+65536*0=dd by omega]at hpk;conv=>whnf
    refine⟨(dd:Int),by rw[tP]<;>omega,?_⟩;conv=>whnf
    refine .inl ?_;conv=>whnf
    refine⟨by omega,by unfold maxLen;omega,?_⟩;conv=>whnf
    refine⟨((2*(0+1):Nat):Int),by rw[wrap64]<;>omega,?_⟩;conv=>whnf
    intro ρ3 w3 r3;have hU:U (pk ds (0+1))=U (pk ds 0)++[.int .u32 (dd:Int)]:=by rw[hpk];simp[U]
    exact⟨(0+1,w3),⟨hw.tr r3.bs,by dsimp only;omega⟩,Sub.gen [(2,3)] r3 ⟨by dsimp only;rw[hU];rfl,rfl,rfl,trivial⟩ ⟨rfl,rfl,rfl,rfl,trivial⟩ (by simp[cY,cN.scopd,At.sc]) (by simp[cO,SV.sc,At.sc]) (by rfl) (fun lo hi h=>h),by dsimp only;omega⟩
  ·have h1:ds=[]:=by
    have:=aF h1;exact List.eq_nil_of_length_eq_zero (by omega)
   subst h1;conv=>whnf
   refine⟨World,fun z=>⟨[(2,.o (.p 0 0)),(3,.o (.p 1 0)),(6,.o (.v (.int .i64 0)))],[(1,.box T.Int [.v (.bool false),.v (.slice none 0 0)]),(0,.box T.Int [.v (.bool false),.v (.slice none 0 0)])],2,[],z⟩,fun _=>0,fun z=>cF w.heap.size w z,?_,?_⟩
   ·intro ρ w' r;exact⟨w',hw.tr r.bs,Sub.gen [] r ⟨rfl,rfl,trivial⟩ ⟨rfl,rfl,rfl,trivial⟩ (by simp[cY,cN.scopd,At.sc]) (by simp[cO,SV.sc,At.sc]) (by rfl) (by simp)⟩
   intro w2 hw;dsimp only at hw ⊢;conv=>whnf
   refine⟨⟨by decide,by decide,by decide⟩,none,0,0,by rfl,by rfl,by rfl,?_⟩;conv=>whnf
   intro ρe we re;exact⟨_,rfl,hw.tr re.bs,_,rfl,cV.nil _ _⟩
 |succ k=>
  conv=>whnf
  refine cW.mk (fun h1=>?_) (fun h1=>?_)
  ·have h1:(2*(k+1))<ds.length:=by
    have:=aG h1;omega
   obtain⟨d0,hd0⟩:∃x,ds[(2*(k+1))]? =some x:=⟨_,aA h1⟩
   have hd0b:=hd d0 (aD hd0);have hg0:ds.getD (2*(k+1)) 0=d0:=by show ds.getD (2*(k+1)) 0=d0;rw[List.getD,hd0];rfl
   obtain⟨ad,rfl,q1,q2⟩:=hR.load (j:=(2*(k+1))) (x:=(d0:Int)) (by rw[dT,aN,hd0];rfl);conv=>whnf
   refine⟨ad,rfl,⟨by omega,by omega⟩,?_⟩;conv=>whnf
   refine⟨.int .i64 (d0:Int),fun ρ w' r=>?_,?_⟩
   ·show w'.cell? (ad.add ((2*(k+1))*1))=_;rw[bo (w:=w1) (w2:=w') (by rw[cC];exact Rel.same (S:=S) r hS (.inl q1))];exact q2
   conv=>whnf
   refine⟨(((2*(k+1))+1:Nat):Int),by rw[wrap64]<;>omega,?_⟩;conv=>whnf
   refine cW.mk (fun h2=>?_) (fun h2=>?_)
   ·have h2:(2*(k+1))+1<ds.length:=by
     have:=aG h2;omega
    obtain⟨d1,hd1⟩:∃x,ds[(2*(k+1))+1]? =some x:=⟨_,aA h2⟩
    have hd1b:=hd d1 (aD hd1);have hg1:ds.getD (2*(k+1)+1) 0=d1:=by show ds.getD ((2*(k+1))+1) 0=d1;rw[List.getD,hd1];rfl
    obtain⟨_,had,q3,q4⟩:=hR.load (j:=(2*(k+1))+1) (x:=(d1:Int)) (by rw[dT,aN,hd1];rfl);injection had with had;subst had;conv=>whnf
    refine⟨(((2*(k+1))+1:Nat):Int),by rw[wrap64]<;>omega,?_⟩;conv=>whnf
    refine⟨ad,rfl,⟨by omega,by omega⟩,?_⟩;conv=>whnf
    refine⟨.int .i64 (d1:Int),fun ρ w' r=>?_,?_⟩
    ·show w'.cell? (ad.add (((2*(k+1))+1)*1))=_;rw[bo (w:=w1) (w2:=w') (by rw[cC];exact Rel.same (S:=S) r hS (.inl q3))];exact q4
    conv=>whnf
    refine⟨((65536*d1:Nat):Int),by rw[wrap64]<;>omega,?_⟩;conv=>whnf
    refine⟨((d0+65536*d1:Nat):Int),by rw[wrap64]<;>omega,?_⟩;have hpk:=tX ds (k+1);rw[hg0,hg1]at hpk;generalize d0+65536*d1=dd at*
    have hdd:dd<4294967296:=DR hd ((k+1)+1) dd (by rw[hpk];simp);conv=>whnf
    refine⟨(dd:Int),by rw[tP]<;>omega,?_⟩;conv=>whnf
    refine .inl ?_;conv=>whnf
    refine⟨by rw[ei,qt];omega,by omega,by unfold maxLen;omega,?_⟩;conv=>whnf
    refine⟨((2*((k+1)+1):Nat):Int),by rw[wrap64]<;>omega,?_⟩;conv=>whnf
    intro ρ3 w3 r3;have hU:U (pk ds ((k+1)+1))=U (pk ds (k+1))++[.int .u32 (dd:Int)]:=by rw[hpk];simp[U]
    exact⟨((k+1)+1,w3),⟨hw.tr r3.bs,by dsimp only;omega⟩,Sub.gen [(2,4)] r3 ⟨by dsimp only;rw[hU];rfl,rfl,rfl,trivial⟩ ⟨rfl,rfl,rfl,rfl,trivial⟩ (by simp[cY,cN.scopd,At.sc]) (by simp[cO,SV.sc,At.sc]) (by rfl) (fun lo hi h=>h),by dsimp only;omega⟩
   ·have h2:(2*(k+1))+1=ds.length:=by
     have:=aF h2;omega
    have hg1:ds.getD (2*(k+1)+1) 0=0:=by show ds.getD ((2*(k+1))+1) 0=0;rw[List.getD,List.getElem?_eq_none (by omega)];rfl
    have hpk:=tX ds (k+1);rw[hg0,hg1]at hpk;obtain⟨dd,hdde⟩:∃dd,dd=d0:=⟨_,rfl⟩
    rw[<-hdde]at hpk ⊢;have hdd:dd<4294967296:=by omega
    rw[show dd+65536*0=dd by omega]at hpk;conv=>whnf
    refine⟨(dd:Int),by rw[tP]<;>omega,?_⟩;conv=>whnf
    refine .inl ?_;conv=>whnf
    refine⟨by rw[ei,qt];omega,by omega,by unfold maxLen;omega,?_⟩;conv=>whnf
    refine⟨((2*((k+1)+1):Nat):Int),by rw[wrap64]<;>omega,?_⟩;conv=>whnf
    intro ρ3 w3 r3;have hU:U (pk ds ((k+1)+1))=U (pk ds (k+1))++[.int .u32 (dd:Int)]:=by rw[hpk];simp[U]
    exact⟨((k+1)+1,w3),⟨hw.tr r3.bs,by dsimp only;omega⟩,Sub.gen [(2,4)] r3 ⟨by dsimp only;rw[hU];rfl,rfl,rfl,trivial⟩ ⟨rfl,rfl,rfl,rfl,trivial⟩ (by simp[cY,cN.scopd,At.sc]) (by simp[cO,SV.sc,At.sc]) (by rfl) (fun lo hi h=>h),by dsimp only;omega⟩
  ·have h1:ds.length<=2*(k+1):=by
    have:=aF h1;omega
   have hk:k+1=(ds.length+1) / 2:=by omega
   have hpk:pk ds (k+1)=fO ds:=by rw[hk];exact DQ ds
   have hlen:=qt ds (k+1);have hlm:=DR hd (k+1);rw[<-hpk];obtain⟨ls,hls⟩:∃ls,ls=pk ds (k+1):=⟨_,rfl⟩
   rw[<-hls]at hlen hlm ⊢;conv=>whnf
   refine⟨by show(U (pk ds (k+1))).length=_;rw[<-hls,ei,hlen];simp,?_⟩;conv=>whnf
   refine⟨Nat×World,fun z=>⟨[(2,.o (.p 0 0)),(3,.o (.p 1 0)),(6,.o (.v (.int .i64 z.1)))],[(2,.vec T.uint32 1 (U ls)),(1,.box T.Int [.v (.bool false),.w 2 (k+1)]),(0,.box T.Int [.v (.bool false),.v (.slice none 0 0)])],3,[],z.2⟩,fun z=>z.1,
    fun z=>cF w.heap.size w z.2∧z.1<=k+1∧dG (ls.take z.1)=dG ls,?_,?_⟩
   ·intro ρ w' r;exact⟨(k+1,w'),⟨hw.tr r.bs,aI _,by dsimp only;rw[List.take_of_length_le (by omega)]⟩,Sub.gen [] r ⟨by dsimp only;rw[hls];rfl,rfl,rfl,trivial⟩ ⟨rfl,rfl,rfl,trivial⟩ (by simp[cY,cN.scopd,At.sc]) (by simp[cO,SV.sc,At.sc]) (by rfl) (by simp)⟩
   clear hR hw;rintro⟨n,w2⟩ ⟨hw,hn,htr⟩;dsimp only at hw hn htr ⊢
   cases n with
   |zero=>
    conv=>whnf
    refine⟨by rw[ei,hlen];simp,⟨by omega,by omega⟩,0,by rfl,?_⟩;conv=>whnf
    intro ρe we re;refine⟨_,rfl,hw.tr re.bs,_,rfl,?_⟩;have:=re.EA (id:=2) (m:=0) rfl (aO _) hlm (by omega);rw[<-htr];exact this.bz fun g hg=>.inr hg
   |succ n=>
    obtain⟨x,hx⟩:∃x,ls[n]? =some x:=⟨_,aA (by omega)⟩
    conv=>whnf
    refine cW.mk (fun hp=>?_) (fun hp=>absurd (aF hp) (by omega));conv=>whnf
    refine⟨(n:Int),by rw[wrap64]<;>omega,?_⟩;conv=>whnf
    refine⟨by rw[ei,hlen];simp,⟨by omega,by omega⟩,?_⟩;conv=>whnf
    refine⟨.int .u32 (x:Int),by simpa using qO hx,?_⟩;conv=>whnf
    refine cW.mk (fun h0=>?_) (fun h0=>?_)
    ·have h0:x=0:=by have:=eq_of_beq h0;omega
     subst h0;conv=>whnf
     refine⟨(n:Int),by rw[wrap64]<;>omega,?_⟩;conv=>whnf
     intro ρ3 w3 r3;exact⟨(n,w3),⟨hw.tr r3.bs,by dsimp only;omega,by dsimp only;rw[<-htr,BK (by omega) hx]⟩,Sub.gen [] r3 ⟨rfl,rfl,rfl,trivial⟩ ⟨rfl,rfl,rfl,trivial⟩ (by simp[cY,cN.scopd,At.sc]) (by simp[cO,SV.sc,At.sc]) (by rfl) (by simp),by dsimp only;omega⟩
    ·have h0:x≠0:=fun e=>by rw[e]at h0;exact absurd h0 (by decide)
     conv=>whnf
     refine⟨by rw[ei,hlen];simp,⟨by omega,by omega⟩,n+1,by rfl,?_⟩;conv=>whnf
     intro ρe we re;refine⟨_,rfl,hw.tr re.bs,_,rfl,?_⟩;have:=re.EA (id:=2) (m:=n+1) rfl (by omega) hlm (by omega);rw[<-htr,BL hx h0];exact this.bz fun g hg=>.inr hg
end Go.Ex
namespace Go.Ex
open Go Go.Sx Go.Proofs
theorem q9{H:Hp}{nx:Nat}{iv:Iv}{B:Nat}{w w' w2:World}{ρ:Nat->Sx.dN}{v v':Value}(hc:BJ iv v)(r:Rel H nx iv B w ρ w')(hob:∀g,v'.ownBlock=some g->g<w2.heap.size∧(v.ownBlock=some g∨g=w'.heap.size)):
  ∀lo hi,(lo,hi)∈oR v'->hi<=w2.heap.size∧∀id b,cT H id=some b->(ρ id).nil=false->¬(lo<=(ρ id).g∧(ρ id).g<hi):=fun lo hi hm=>by
 obtain⟨hg,rfl⟩:=x9.1 hm;obtain⟨h1,h2⟩:=hob _ hg;refine⟨by omega,fun id c hc' hn he=>?_⟩;rcases h2 with h2|h2
 ·exact hc.not r h2 id c hc' hn (by omega)
 ·have:=(r.low id c hc' hn).2;omega
theorem cV.out{S:Nat->Prop}{H:Hp}{nx:Nat}{iv:Iv}{w w1 w':World}{ρ:Nat->Sx.dN}{v:Value}{ls:List Nat}(h:cV w1 (Cv S w.heap.size iv) v ls)(r:Rel H nx iv w.heap.size w1 ρ w')(hS:Old S w):cV w' (Nw S w w') v ls:=
 (cV.rel h r hS).bz fun _ hg=>Cv.nw hg r
theorem Bq{w:World}{B B' e sz m:Nat}{v:Value}{xs:List Value}(h:w.ownsRow B e sz v m xs)(hb:B'<=B):w.ownsRow B' e sz v m xs:=⟨h.1,h.2.imp id fun⟨g,cap,cur,k1,k2,k3⟩=>⟨g,cap,cur,k1,by omega,k3⟩⟩
theorem qc(a b:List Nat):dT (a++b)=dT a++dT b:=by simp[dT]
theorem nW{w:World}{B m:Nat}{v:Value}{cs:List Int}(h:w.ownsRow B T.int 1 v m (cs.map (Value.int .i64)))(hm:m=cs.length)(hl:m<=maxLen):dJ w (fun g=>v.ownBlock=some g) v cs:=by
 subst hm;rcases h.2 with⟨rfl,h0⟩|⟨g,cap,cur,rfl,hb,hc,hmc,hcap,hsz,htake⟩
 ·have:cs=[]:=List.eq_nil_of_length_eq_zero h0;subst this;exact⟨by simp[maxLen],by simp,by simp,none,0,rfl,aI _,by simp⟩
 ·refine⟨hl,h.1,fun u hu=>by simp at hu;obtain⟨_,_,rfl⟩:=hu;rfl,_,cap,rfl,hmc,fun j u hu=>⟨_,rfl,rfl,?_⟩⟩;exact h.cells (g:=g) rfl j u hu
theorem Dg.append{a b:List Nat}(ha:Dg a)(hb:Dg b):Dg (a++b):=fun x hx=>(bT.1 hx).elim (ha x) (hb x)
theorem sT(a b:List Nat):j7 (a++b)=j7 a+up a.length*j7 b:=by
 unfold j7;rw[List.map_append,wD,aK]
theorem vW{ds:List Nat}(hd:Dg ds):Nz (dG (fO ds))∧(val (dG (fO ds)):Int)=j7 ds:=by
 obtain⟨h1,h2,_⟩:=uQ ds hd;obtain⟨k1,k2,_⟩:=dw (fO ds);exact⟨k2,by rw[k1,h1]⟩
theorem rX{S:Nat->Prop}{w:World}{v:Value}{cs:List Int}(hS:Old S w)(h:dJ w S v cs)(hb:∀c∈cs,-1152921504606846976<=c∧c<=1152921504606846976)(hl:cs.length<=100000000):
  dQ PG N.iF #[v] w (dU w fun v' w2=>cU w2 (Nw (fun _=>False) w w2) v' (cX cs)):=by
 obtain⟨a,c,rfl,hc⟩:=h.shape;obtain⟨hspec,hdg,hdl⟩:=iy cs 0;obtain⟨hk1,hk2⟩:=iE cs 0 hb (by decide) (by decide);rw[Int.add_zero]at hspec;refine rI (by simp) ?_;conv=>whnf
 refine bp (cA (Φ:=fun _ w' v' w2=>∃o,v'= .tuple #[o,.int .i64 (dB cs 0).2]∧w2.ownsRow w'.heap.size T.int 1 o cs.length ((dT (dB cs 0).1).map (Value.int .i64))) (fun ρ w' r=>xc (fun g hg=>by have:=hS g hg;have:=r.bm;omega) (dJ.bu h fun g hg=>Rel.same (S:=S) r hS (.inl hg)) hb (by omega)) ?_);rintro ρ wa v1 wb r he hw ⟨o,rfl,hrow⟩;have hrowc:BJ [(wa.heap.size,wb.heap.size)] o:=fun g hg=>⟨_,_,bB.2 rfl,(ownsRow.low hrow g hg).1,(ownsRow.low hrow g hg).2⟩
 replace hrow:=Bq hrow r.bm;clear r he;generalize [(wa.heap.size,wb.heap.size)]=iv at*
 generalize hds:(dB cs 0).1=ds at*
 generalize hk:(dB cs 0).2=k at*
 obtain⟨ao,co,rfl,hco⟩:=gp hrow;conv=>whnf
 refine cW.mk (fun hneg=>?_) (fun hneg=>?_)
 ·have hneg:=aG hneg;have hV:cX cs<0:=by
   have h1:=(uP hdg).2;rw[hdl]at h1;have h2:=DP cs.length;have h3:up cs.length*k<=up cs.length*(-1):=Int.mul_le_mul_of_nonneg_left (by omega) (by omega);omega
  obtain⟨hspec2,hdg2',hdl2⟩:=iy (cs.map (- ·)) 0;have hb2:∀c∈cs.map (- ·),-1152921504606846976<=c∧c<=1152921504606846976:=fun c hc=>by
   obtain⟨x,hx,rfl⟩:=aS.1 hc;have:=hb x hx;omega
  obtain⟨hk1',hk2'⟩:=iE (cs.map (- ·)) 0 hb2 (by decide) (by decide);rw[Int.add_zero,Aj,aK]at hspec2;rw[aK]at hdl2;have hk0:0<=(dB (cs.map (- ·)) 0).2:=by
   have h1:=(uP hdg2').2;rw[hdl2]at h1;have h2:=DP cs.length;apply Decidable.byContradiction;intro h3;have h4:up cs.length*(dB (cs.map (- ·)) 0).2<=up cs.length*(-1):=Int.mul_le_mul_of_nonneg_left (by omega) (by omega);omega
  conv=>whnf
  refine⟨Nat×World,fun z=>⟨[(0,.o (.v (.slice a cs.length c))),(2,.o (.p 0 0)),(3,.o (.v (.slice ao cs.length co))),(5,.o (.v (.int .i64 z.1)))],[(0,.box T.Int [.v (.bool false),.v (.slice none 0 0)])],1,iv,z.2⟩,fun z=>cs.length-z.1,
   fun z=>z.1<=cs.length∧cF w.heap.size w z.2∧z.2.ownsRow w.heap.size T.int 1 (.slice ao cs.length co) cs.length (((cs.take z.1).map (- ·)++(dT ds).drop z.1).map (Value.int .i64)),?_,?_⟩
  ·intro ρ w' r;exact⟨(0,w'),⟨by simp,hw.tr r.bs,by simpa using gU hrow hrowc r⟩,Sub.gen [] r ⟨rfl,trivial⟩ ⟨rfl,rfl,rfl,rfl,trivial⟩ (by simp[cY,cN.scopd,At.sc]) (by simp[cO,SV.sc,At.sc]) (by rfl) (fun lo hi h=>h)⟩
  clear hw hrow;rintro⟨i,w1⟩ ⟨hi,hw,hrow⟩;dsimp only at hi hw hrow ⊢;have hR:dJ w1 S (.slice a cs.length c) cs:=dJ.bu h fun g hg=>hw.block g (hS g hg);conv=>whnf
  refine cW.mk (fun hib=>?_) (fun hib=>?_)
  ·have hib:i<cs.length:=by simpa using hib
   obtain⟨x,hx⟩:∃x,cs[i]? =some x:=⟨_,aA hib⟩
   obtain⟨hx1,hx2⟩:=hb x (aD hx);obtain⟨ad,rfl,q1,q2⟩:=hR.load hx;obtain⟨go,hgo⟩:∃g,ao=some ⟨g,0,none⟩:=by
    rcases hrow.2 with⟨_,h0⟩|⟨g,cap,cur,e,_⟩
    ·omega
    ·injection e with e;exact⟨g,e⟩
   subst hgo;conv=>whnf
   refine⟨ad,rfl,⟨by omega,by omega⟩,?_⟩;conv=>whnf
   refine⟨.int .i64 x,fun ρ w' r=>?_,?_⟩
   ·rw[aB,bo (w:=w1) (w2:=w') (by rw[cC];exact Rel.same (S:=S) r hS (.inl q1))];exact q2
   conv=>whnf
   refine⟨-x,by rw[wrap64]<;>omega,?_⟩;conv=>whnf
   refine⟨⟨go,0,none⟩,rfl,⟨by omega,by omega⟩,?_⟩;conv=>whnf
   intro ρ w' r;have hrow3:=gU hrow hrowc r;obtain⟨g',hg',hok,hst,hgr,hsz⟩:=mL (nv:=[.int .i64 (-x)]) hrow3 rfl hib rfl (by decide);injection hg' with hg';injection hg' with hg';subst hg';rw[Ev (by rw[aK,List.length_append,aK,aW,List.length_drop,du,hdl];omega)]at hst;have had:(⟨go,0,none⟩:Addr).add ((i:Int).toNat*1)=⟨go,i*1,none⟩:=by rw[aB,dA,aP]
   have hnot:=fun id b hb hn=>hrowc.not r (b:=go) rfl id b hb hn;have hgoB:=(ownsRow.low hrow go rfl).1;have hw':cF w.heap.size w (setCells w' ⟨go,i*1,none⟩ [.int .i64 (-x)]):=(hw.tr r.bs).tr (cF.grown hgr (fun g hg=>by injection hg with hg;subst hg;exact hgoB) r.bm);have hlist:(((cs.take i).map (- ·)++(dT ds).drop i).map (Value.int .i64)).set i (.int .i64 (-x))=((cs.take (i+1)).map (- ·)++(dT ds).drop (i+1)).map (Value.int .i64):=by
    rw[<-List.map_set];congr 1;have hl1:((cs.take i).map (- ·)).length=i:=by rw[aK,aW];omega
    obtain⟨d,hd⟩:∃d,(dT ds)[i]? =some d:=⟨_,aA (by rw[du,hdl];exact hib)⟩
    have hd2:(dT ds).drop i=d::(dT ds).drop (i+1):=by
     rw[List.drop_eq_getElem_cons (by rw[du,hdl];exact hib)];congr 1;have:=aA (l:=dT ds) (i:=i) (by rw[du,hdl];exact hib);rw[hd]at this;injection this with this;exact this.symm
    rw[List.take_add_one,hx,List.map_append,hd2,List.set_append_right _ _ (by omega),hl1,bP];simp
   clear r;refine⟨by rw[had],fun j hj=>by rw[had];exact hok j hj,fun id b hb hn=>by rw[had];exact hnot id b hb hn,fun w2 hw2=>?_⟩;have hw2:w2=setCells w' ⟨go,i*1,none⟩ [.int .i64 (-x)]:=by rw[hw2];exact congrArg (fun x=>setCells w' x _) had
   rw[<-hw2]at hst hw'
   erw [hlist]at hst
   clear hw2 hok hnot hrow hrow3 hgr;conv=>whnf
   refine⟨((i+1:Nat):Int),by rw[wrap64]<;>omega,?_⟩;conv=>whnf
   intro ρ3 w3 r3;exact⟨(i+1,w3),⟨hib,hw'.tr r3.bs,gU hst hrowc r3⟩,Sub.gen [] r3 ⟨rfl,trivial⟩ ⟨rfl,rfl,rfl,rfl,trivial⟩ (by simp[cY,cN.scopd,At.sc]) (by simp[cO,SV.sc,At.sc]) (by rfl) (fun lo hi h=>h),by dsimp only;omega⟩
  have hib:i=cs.length:=by
   have:¬i<cs.length:=by simpa using hib
   omega
  subst hib;rw[ah,List.drop_of_length_le (by rw[du,hdl];exact aI _),List.append_nil]at hrow;conv=>whnf
  refine⟨⟨by omega,by omega,by omega⟩,ao,cs.length,co,zi ao co,by omega,by omega,?_⟩;conv=>whnf
  refine bp (cA (Φ:=fun _ w' v' w2=>∃o,v'= .tuple #[o,.int .i64 (dB (cs.map (- ·)) 0).2]∧w2.ownsRow w'.heap.size T.int 1 o cs.length ((dT (dB (cs.map (- ·)) 0).1).map (Value.int .i64))) (fun ρ w' r=>?_) ?_)
  ·have h8:=gU hrow hrowc r;have h9:=nW h8 (by rw[aK]) (by unfold maxLen;omega);have h10:=xc (fun g hg=>(ownsRow.low h8 g hg).2) h9 hb2 (by rw[aK];omega);rw[aK]at h10;exact h10
  rintro ρ wc v1 wd r he hbb ⟨o2,rfl,hrow2⟩;have hrow2c:BJ ((wc.heap.size,wd.heap.size)::iv) o2:=fun g hg=>⟨_,_,aH,(ownsRow.low hrow2 g hg).1,(ownsRow.low hrow2 g hg).2⟩
  replace hrow2:=Bq hrow2 r.bm;replace hw:=hw.tr hbb;clear r he hbb hrow hrowc hR;generalize (wc.heap.size,wd.heap.size)::iv=iv2 at*
  generalize hds2:(dB (cs.map (- ·)) 0).1=ds2 at*
  generalize hkk2:(dB (cs.map (- ·)) 0).2=k2 at*
  obtain⟨kn,rfl⟩:∃kn:Nat,k2=kn:=⟨k2.toNat,by omega⟩
  obtain⟨ao2,co2,rfl,hco2⟩:=gp hrow2;have ds2_len:ds2.length=cs.length:=hdl2;have ds2_dg:Dg ds2:=hdg2';conv=>whnf
  refine bp (cA (Φ:=fun _ w' v w2=>dJ w2 (Nw (fun _=>False) w' w2) v (dT (cP kn))) (fun ρ w' r=>by exact AO kn w' (by omega)) ?_);rintro ρ ws vs wt r he hb hsp;have hspN:dJ wt (Cv (fun _=>False) w.heap.size ((ws.heap.size,wt.heap.size)::iv2)) vs (dT (cP kn)):=dJ.bz hsp fun g hg=>hg.cQ r.bm aH;replace hrow2:=ownsRow.bu (gU hrow2 hrow2c r) fun g hg=>he.block g (by have:=(ownsRow.low (gU hrow2 hrow2c r) g hg).2;exact this);replace hrow2c:BJ ((ws.heap.size,wt.heap.size)::iv2) _:=hrow2c.mono fun p hp=>aC _ hp;replace hw:=hw.tr hb;clear r he hb hsp;generalize (ws.heap.size,wt.heap.size)::iv2=oU at*
  obtain⟨asp,csp,rfl,-⟩:=hspN.shape;rw[du]at hspN ⊢;have hsl:=ga (n:=kn) (k:=4) (by omega);have hsd:=(jA kn).2;conv=>whnf
  refine .inr (tw hτ (aI _) (xs:=(dT ds2).map (Value.int .i64)) (news:=(dT (cP kn)).map (Value.int .i64)) (m:=cs.length) (k:=(cP kn).length) (by rfl) (by rfl) (by decide) (by rfl) (by rfl) (fun ρ w' r=>⟨gU hrow2 hrow2c r,fun g hg=>hrow2c.not r hg⟩) (by simp[dT]) (by intro u hu;simp at hu;obtain⟨_,_,rfl⟩:=hu;rfl) (by unfold maxLen;omega) (by omega)
   (fun ρ w' r=>?_) (fun v' w2=>oR v') (fun ρ w' v' w2 r hsz hob=>q9 hrow2c r hob) (fun ρ w' v' w2 r h5 h6 h7=>?_))
  ·obtain⟨_,_,_,a2,c2,e2,_,e3⟩:=hspN;injection e2 with e4 e5 e6;subst e4 e6
   cases asp with
   |none=>
    have h0:(cP kn).length=0:=by
     rcases bG (cP kn).length with h0|h0
     ·exact h0
     ·obtain⟨ad2,q1,_⟩:=e3 0 _ (aA (show 0<((dT (cP kn)).map (Value.int .i64)).length by simp[dT];exact h0))
      cases q1
    exact .inl ⟨csp,by rw[h0];rfl,h0⟩
   |some ad3=>
    refine .inr ⟨ad3,csp,rfl,fun j u hu=>?_⟩;obtain⟨ad2,q1,q2,q3⟩:=e3 j u hu;injection q1 with q1;subst q1;rw[bo (w:=wt) (w2:=w') (by rw[cC];exact Rel.same r (bl w) q2)];exact q3
  replace hw:cF w.heap.size w w2:=(hw.tr r.bs).tr (cF.grown h6 (fun g hg=>by
   have:=(ownsRow.low hrow2 g hg).1;omega) r.bm)
  have hcat:(dT ds2).map (Value.int .i64)++(dT (cP kn)).map (Value.int .i64)=(dT (ds2++cP kn)).map (Value.int .i64):=by rw[qc,List.map_append]
  rw[hcat]at h5;have hnl:cs.length+(cP kn).length=(dT (ds2++cP kn)).length:=by rw[du,List.length_append,ds2_len]
  have hdg2:Dg (ds2++cP kn):=ds2_dg.append hsd;have hl2:(ds2++cP kn).length<=1000000000:=by rw[List.length_append,ds2_len];omega
  obtain⟨a3,c3,rfl,-⟩:=gp h5;clear r hrow2 hrow2c hspN h6 h7;conv=>whnf
  refine bp (cA (Φ:=fun _ w' v' w2=>∃lv,v'= .agg #[.bool false,lv]∧cV w2 (Nw (fun _=>False) w' w2) lv (dG (fO (ds2++cP kn)))) (fun ρ w' r=>?_) ?_)
  ·have h8:=gU h5 (BJ.row _) r;have h9:=nW h8 hnl (by unfold maxLen;omega);have h10:=AP (w:=w') (fun g hg=>(ownsRow.low h8 g hg).2) h9 hdg2 hl2;exact h10
  rintro ρ wp v1 wq r he hb ⟨lv,rfl,hL⟩;have hLN:=hL.cQ (S:=fun _=>False) r.bm (iv:=[(wp.heap.size,wq.heap.size)]) aH;have hLN:cV wq (Cv (fun _=>False) w.heap.size ((wp.heap.size,wq.heap.size)::oR (.slice a3 (cs.length+(cP kn).length) c3))) lv (dG (fO (ds2++cP kn))):=hL.bz fun g hg=>hg.cQ r.bm aH;replace hw:=hw.tr hb;clear r he hb hL h5;generalize (wp.heap.size,wq.heap.size)::oR (.slice a3 (cs.length+(cP kn).length) c3)=ivq at*
  obtain⟨hnz,hvv⟩:=vW hdg2;obtain⟨a4,n4,c4,rfl⟩:=hLN.shape;have hcv: -cX cs=j7 (ds2++cP kn):=by rw[hspec2,sT,(jA kn).1,ds2_len]
  obtain⟨pp,hpe,hpp⟩:=hLN.la;injection hpe with hpe1 hpe2 hpe3;subst hpe1 hpe2 hpe3;have hlenpos:0<pp.ls.length:=by
   rw[hpp];rcases bG (dG (fO (ds2++cP kn))).length with h0|h0
   ·rw[List.eq_nil_of_length_eq_zero h0]at hvv;simp[val]at hvv;omega
   ·exact h0
  conv=>whnf
  intro ρe we re;refine⟨_,rfl,hw.tr re.bs,dG (fO (ds2++cP kn)),⟨_,?_,hLN.out re (bl w)⟩,hnz,?_⟩
  ·rw[bM hV];have:decide ((pp.ls.length:Int)>0)=true:=bM (by omega);rw[<-this];rfl
  ·have:((val (dG (fO (ds2++cP kn))):Nat):Int)= -cX cs:=by rw[hvv,hcv]
   omega
 ·have hneg:=aF hneg;obtain⟨kn,rfl⟩:∃kn:Nat,k=kn:=⟨k.toNat,by omega⟩
  have ds_len:ds.length=cs.length:=hdl;have ds_dg:Dg ds:=hdg;conv=>whnf
  refine bp (cA (Φ:=fun _ w' v w2=>dJ w2 (Nw (fun _=>False) w' w2) v (dT (cP kn))) (fun ρ w' r=>by exact AO kn w' (by omega)) ?_);rintro ρ ws vs wt r he hb hsp;have hspN:dJ wt (Cv (fun _=>False) w.heap.size ((ws.heap.size,wt.heap.size)::iv)) vs (dT (cP kn)):=dJ.bz hsp fun g hg=>hg.cQ r.bm aH;replace hrow:=ownsRow.bu (gU hrow hrowc r) fun g hg=>he.block g (by have:=(ownsRow.low (gU hrow hrowc r) g hg).2;exact this);replace hrowc:BJ ((ws.heap.size,wt.heap.size)::iv) _:=hrowc.mono fun p hp=>aC _ hp;replace hw:=hw.tr hb;clear r he hb hsp;generalize (ws.heap.size,wt.heap.size)::iv=oU at*
  obtain⟨asp,csp,rfl,-⟩:=hspN.shape;rw[du]at hspN ⊢;have hsl:=ga (n:=kn) (k:=4) (by omega);have hsd:=(jA kn).2;conv=>whnf
  refine .inr (tw hτ (aI _) (xs:=(dT ds).map (Value.int .i64)) (news:=(dT (cP kn)).map (Value.int .i64)) (m:=cs.length) (k:=(cP kn).length) (by rfl) (by rfl) (by decide) (by rfl) (by rfl) (fun ρ w' r=>⟨gU hrow hrowc r,fun g hg=>hrowc.not r hg⟩) (by simp[dT]) (by intro u hu;simp at hu;obtain⟨_,_,rfl⟩:=hu;rfl) (by unfold maxLen;omega) (by omega)
   (fun ρ w' r=>?_) (fun v' w2=>oR v') (fun ρ w' v' w2 r hsz hob=>q9 hrowc r hob) (fun ρ w' v' w2 r h5 h6 h7=>?_))
  ·obtain⟨_,_,_,a2,c2,e2,_,e3⟩:=hspN;injection e2 with e4 e5 e6;subst e4 e6
   cases asp with
   |none=>
    have h0:(cP kn).length=0:=by
     rcases bG (cP kn).length with h0|h0
     ·exact h0
     ·obtain⟨ad2,q1,_⟩:=e3 0 _ (aA (show 0<((dT (cP kn)).map (Value.int .i64)).length by simp[dT];exact h0))
      cases q1
    exact .inl ⟨csp,by rw[h0];rfl,h0⟩
   |some ad3=>
    refine .inr ⟨ad3,csp,rfl,fun j u hu=>?_⟩;obtain⟨ad2,q1,q2,q3⟩:=e3 j u hu;injection q1 with q1;subst q1;rw[bo (w:=wt) (w2:=w') (by rw[cC];exact Rel.same r (bl w) q2)];exact q3
  replace hw:cF w.heap.size w w2:=(hw.tr r.bs).tr (cF.grown h6 (fun g hg=>by
   have:=(ownsRow.low hrow g hg).1;omega) r.bm)
  have hcat:(dT ds).map (Value.int .i64)++(dT (cP kn)).map (Value.int .i64)=(dT (ds++cP kn)).map (Value.int .i64):=by rw[qc,List.map_append]
  rw[hcat]at h5;have hnl:cs.length+(cP kn).length=(dT (ds++cP kn)).length:=by rw[du,List.length_append,ds_len]
  have hdg2:Dg (ds++cP kn):=ds_dg.append hsd;have hl2:(ds++cP kn).length<=1000000000:=by rw[List.length_append,ds_len];omega
  obtain⟨a3,c3,rfl,-⟩:=gp h5;clear r hrow hrowc hspN h6 h7;conv=>whnf
  refine bp (cA (Φ:=fun _ w' v' w2=>∃lv,v'= .agg #[.bool false,lv]∧cV w2 (Nw (fun _=>False) w' w2) lv (dG (fO (ds++cP kn)))) (fun ρ w' r=>?_) ?_)
  ·have h8:=gU h5 (BJ.row _) r;have h9:=nW h8 hnl (by unfold maxLen;omega);have h10:=AP (w:=w') (fun g hg=>(ownsRow.low h8 g hg).2) h9 hdg2 hl2;exact h10
  rintro ρ wp v1 wq r he hb ⟨lv,rfl,hL⟩;have hLN:=hL.cQ (S:=fun _=>False) r.bm (iv:=[(wp.heap.size,wq.heap.size)]) aH;have hLN:cV wq (Cv (fun _=>False) w.heap.size ((wp.heap.size,wq.heap.size)::oR (.slice a3 (cs.length+(cP kn).length) c3))) lv (dG (fO (ds++cP kn))):=hL.bz fun g hg=>hg.cQ r.bm aH;replace hw:=hw.tr hb;clear r he hb hL h5;generalize (wp.heap.size,wq.heap.size)::oR (.slice a3 (cs.length+(cP kn).length) c3)=ivq at*
  obtain⟨hnz,hvv⟩:=vW hdg2;obtain⟨a4,n4,c4,rfl⟩:=hLN.shape;conv=>whnf
  intro ρe we re;have hcv:cX cs=j7 (ds++cP kn):=by rw[hspec,sT,(jA kn).1,ds_len]
  refine⟨_,rfl,hw.tr re.bs,dG (fO (ds++cP kn)),⟨_,?_,hLN.out re (bl w)⟩,hnz,?_⟩
  ·have:¬cX cs<0:=by rw[hcv,<-hvv];omega
   rw[bE this];rfl
  ·rw[hcv,<-hvv];rfl
end Go.Ex
