/- A part of the proof: texts X22 to X46. Each tells its conditions in its theorems. -/
import Derived.Test.YtkdcaknoaeicdaaGreatP2
import Derived.Test.YtkdcaknoaeicdaaGreatP3
import Derived.Test.YtkdcaknoaeicdaaGreatP4
namespace Go.Ex
open Go Go.Sx Go.Proofs
def gX(w:World)(S:Nat->Prop)(v:Value)(a b:Int):Prop:=∃b1 l1 b2 l2,v= .agg #[.bool b1,l1,.bool b2,l2]∧ie w S (.agg #[.bool b1,l1]) a∧ie w S (.agg #[.bool b2,l2]) b
theorem gX.cD{S:Nat->Prop}{w w2:World}{v:Value}{a b:Int}(h:gX w S v a b)(hk:∀g,S g->w2.heap[g]? =w.heap[g]?):gX w2 S v a b:=by
 obtain⟨b1,l1,b2,l2,h1,h2,h3⟩:=h;exact⟨b1,l1,b2,l2,h1,h2.cD hk,h3.cD hk⟩
theorem gX.cG{S S':Nat->Prop}{w:World}{v:Value}{a b:Int}(h:gX w S v a b)(hk:∀g,S g->S' g):gX w S' v a b:=by
 obtain⟨b1,l1,b2,l2,h1,h2,h3⟩:=h;exact⟨b1,l1,b2,l2,h1,h2.cG hk,h3.cG hk⟩
theorem gX.shape{S:Nat->Prop}{w:World}{v:Value}{x y:Int}(h:gX w S v x y):∃b a n c b2 a2 n2 c2,v= .agg #[.bool b,.slice a n c,.bool b2,.slice a2 n2 c2]:=by
 obtain⟨b1,l1,b2,l2,h1,h2,h3⟩:=h;obtain⟨_,a,n,c,h4⟩:=h2.shape;obtain⟨_,a2,n2,c2,h5⟩:=h3.shape;simp at h4 h5;obtain⟨rfl,rfl⟩:=h4;obtain⟨rfl,rfl⟩:=h5;exact⟨_,a,n,c,_,a2,n2,c2,h1⟩
theorem gX.num{S:Nat->Prop}{w:World}{b b2:Bool}{nv dv:Value}{x y:Int}(h:gX w S (.agg #[.bool b,nv,.bool b2,dv]) x y):ie w S (.agg #[.bool b,nv]) x:=by
 obtain⟨b1,l1,b2,l2,h1,h2,h3⟩:=h;simp at h1;obtain⟨rfl,rfl,rfl,rfl⟩:=h1;exact h2
theorem gX.den{S:Nat->Prop}{w:World}{b b2:Bool}{nv dv:Value}{x y:Int}(h:gX w S (.agg #[.bool b,nv,.bool b2,dv]) x y):ie w S (.agg #[.bool b2,dv]) y:=by
 obtain⟨b1,l1,b2,l2,h1,h2,h3⟩:=h;simp at h1;obtain⟨rfl,rfl,rfl,rfl⟩:=h1;exact h3
section
variable{S S':Nat->Prop}{H:Hp}{nx:Nat}{iv iv':Iv}{B:Nat}{w w' w2:World}{ρ:Nat->Sx.dc}{v:Value}{x y:Int}
theorem gX.rel(h:gX w (Cv S B iv) v x y)(r:Rel H nx iv B w ρ w')(hS:∀g,S g->g<B):gX w' (Cv S B iv) v x y:=h.cD fun _ hg=>Rel.same r hS hg
theorem gX.cB(h:gX w (Cv S B iv) v x y)(r:Rel H nx iv B w ρ w')(hS:∀g,S g->g<B)(he:Ext w' w2)(hm:∀p,p∈iv->p∈iv'):gX w2 (Cv S B iv') v x y:=
 ((h.rel r hS).cD fun g hg=>he.block g (Rel.old r hS g hg)).cG fun _ hg=>hg.mono hm
end
def cR(w:World)(S:Nat->Prop)(v:Value)(q:Rat):Prop:=∃b1 l1 b2 l2,v= .agg #[.bool b1,l1,.bool b2,l2]∧dC w S (.agg #[.bool b1,l1]) q.num∧dC w S (.agg #[.bool b2,l2]) q.den
theorem cR.cD{S:Nat->Prop}{w w2:World}{v:Value}{q:Rat}(h:cR w S v q)(hk:∀g,S g->w2.heap[g]? =w.heap[g]?):cR w2 S v q:=by
 obtain⟨b1,l1,b2,l2,h1,h2,h3⟩:=h;exact⟨b1,l1,b2,l2,h1,h2.cD hk,h3.cD hk⟩
theorem cR.cG{S S':Nat->Prop}{w:World}{v:Value}{q:Rat}(h:cR w S v q)(hk:∀g,S g->S' g):cR w S' v q:=by
 obtain⟨b1,l1,b2,l2,h1,h2,h3⟩:=h;exact⟨b1,l1,b2,l2,h1,h2.cG hk,h3.cG hk⟩
theorem cR.r{S:Nat->Prop}{w:World}{v:Value}{q:Rat}(h:cR w S v q):gX w S v q.num q.den:=by
 obtain⟨b1,l1,b2,l2,h1,h2,h3⟩:=h;exact⟨b1,l1,b2,l2,h1,h2.r,h3.r⟩
theorem cR.shape{S:Nat->Prop}{w:World}{v:Value}{q:Rat}(h:cR w S v q):∃b a n c b2 a2 n2 c2,v= .agg #[.bool b,.slice a n c,.bool b2,.slice a2 n2 c2]:=h.r.shape
theorem cR.num{S:Nat->Prop}{w:World}{b b2:Bool}{nv dv:Value}{q:Rat}(h:cR w S (.agg #[.bool b,nv,.bool b2,dv]) q):dC w S (.agg #[.bool b,nv]) q.num:=by
 obtain⟨b1,l1,b2,l2,h1,h2,h3⟩:=h;simp at h1;obtain⟨rfl,rfl,rfl,rfl⟩:=h1;exact h2
theorem cR.den{S:Nat->Prop}{w:World}{b b2:Bool}{nv dv:Value}{q:Rat}(h:cR w S (.agg #[.bool b,nv,.bool b2,dv]) q):dC w S (.agg #[.bool b2,dv]) q.den:=by
 obtain⟨b1,l1,b2,l2,h1,h2,h3⟩:=h;simp at h1;obtain⟨rfl,rfl,rfl,rfl⟩:=h1;exact h3
theorem cR.of{S:Nat->Prop}{w:World}{b b2:Bool}{nv dv:Value}{q:Rat}(h:dC w S (.agg #[.bool b,nv]) q.num)(k:dC w S (.agg #[.bool b2,dv]) q.den):cR w S (.agg #[.bool b,nv,.bool b2,dv]) q:=⟨_,_,_,_,rfl,h,k⟩
section
variable{S S':Nat->Prop}{H:Hp}{nx:Nat}{iv iv':Iv}{B:Nat}{w w' w2:World}{ρ:Nat->Sx.dc}{v:Value}{q:Rat}
theorem cR.rel(h:cR w (Cv S B iv) v q)(r:Rel H nx iv B w ρ w')(hS:∀g,S g->g<B):cR w' (Cv S B iv) v q:=h.cD fun _ hg=>Rel.same r hS hg
theorem cR.cB(h:cR w (Cv S B iv) v q)(r:Rel H nx iv B w ρ w')(hS:∀g,S g->g<B)(he:Ext w' w2)(hm:∀p,p∈iv->p∈iv'):cR w2 (Cv S B iv') v q:=
 ((h.rel r hS).cD fun g hg=>he.block g (Rel.old r hS g hg)).cG fun _ hg=>hg.mono hm
theorem cR.cw(h:cR w2 (Nw (fun _=>False) w' w2) v q)(hB:B<=w'.heap.size)(hm:(w'.heap.size,w2.heap.size)∈iv):cR w2 (Cv S B iv) v q:=h.cG fun _ hg=>hg.cw hB hm
theorem cR.out{w0 w1:World}(h:cR w1 (Cv S w0.heap.size iv) v q)(r:Rel H nx iv w0.heap.size w1 ρ w')(hS:Old S w0):cR w' (Nw S w0 w') v q:=
 (h.rel r hS).cG fun _ hg=>Cv.nw hg r
end
theorem H8{S:Nat->Prop}{w:World}{v:Value}{f:Rat}(hS:Old S w)(hf:dL w S v f):
  dh PG N.j3 #[v] w (dw w fun v' _w2=>v'= .int .i64 (rs f)):=by
 have hw:cN w.heap.size w w:=cN.refl;replace hf:=hf.cG (S':=Cv S w.heap.size []) fun _ h=>.inl h;obtain⟨b1,a1,n1,c1,b2,a2,n2,c2,rfl⟩:=hf.shape;have hfn:=hf.num;have hfd:=hf.den;clear hf;refine mL (by simp) ?_;conv=>whnf
 refine bz (cE hw (Φ:=fun _ w' v w2=>v= .int .i64 (rs f)) (fun ρ w' r=>xm (hfn.rel r hS)) ?_);rintro ρ wa1 v1 wb1 iv1 r he hw h_ rfl;clear hfn;clear hfd;clear r;conv=>whnf
 intro ρe we re;exact⟨_,rfl,hw.tr re.cC,rfl⟩
theorem G8{S:Nat->Prop}{w:World}{v:Value}{f:Rat}(hS:Old S w)(hf:dL w S v f):
  dh PG N.jT #[v] w (dw w fun v' w2=>dL w2 (Nw S w w2) v' (-f)):=by
 have hw:cN w.heap.size w w:=cN.refl;replace hf:=hf.cG (S':=Cv S w.heap.size []) fun _ h=>.inl h;obtain⟨b1,a1,n1,c1,b2,a2,n2,c2,rfl⟩:=hf.shape;have hfn:=hf.num;have hfd:=hf.den;clear hf;refine lQ (by simp) ?_;conv=>whnf
 refine cF hτ dV [.x 0,.x 1,.x 3,.x 4,.x 2,.x 5,.x 6] (by kernel_rfl) (by kernel_rfl) ?_;conv=>whnf
 refine cH (Φ:=fun _ w' v w2=>eA w2 (Nw (Cv S w.heap.size []) w' w2) v (-f.num)) (fun ρ w' r=>mT (Rel.old r hS) (hfn.rel r hS)) ?_;rintro ρ wa1 v1 wb1 r he hb hn;replace hw:=hw.tr hb;clear hfn;replace hfd:=hfd.cB (iv':=(wa1.heap.size,wb1.heap.size)::[]) r hS he fun x hx=>aD _ hx;have hM:=hn.old r.bu;clear r he hb hn;generalize (wa1.heap.size,wb1.heap.size)::[]=iv1 at*
 obtain⟨s1_0,s1_1,s1_2,s1_3,rfl⟩:=hM.shape;conv=>whnf
 intro ρe we re;exact⟨_,rfl,hw.tr re.cC,dL.of (by rw[Rat.neg_num];exact hM.out re hS) (by rw[Rat.neg_den];exact hfd.out re hS)⟩
theorem G9{S:Nat->Prop}{w:World}{v u:Value}{f g:Rat}(hS:Old S w)(hf:dL w S v f)(hg:dL w S u g)(hlf:rl f<=10000000000)(hlg:rl g<=10000000000):
  dh PG N.jS #[v,u] w (dw w fun v' w2=>dL w2 (Nw (fun _=>False) w w2) v' (f*g)):=by
 have hw:cN w.heap.size w w:=cN.refl;have l1:=fF f;have l2:=eQ f;have l3:=fF g;have l4:=eQ g;have m0:=cS f.num g.num;have m1:=cS f.den g.den;replace hf:=hf.cG (S':=Cv S w.heap.size []) fun _ h=>.inl h;replace hg:=hg.cG (S':=Cv S w.heap.size []) fun _ h=>.inl h;obtain⟨b1,a1,n1,c1,b2,a2,n2,c2,rfl⟩:=hf.shape;obtain⟨b3,a3,n3,c3,b4,a4,n4,c4,rfl⟩:=hg.shape;have hfn:=hf.num;have hfd:=hf.den;clear hf;have hgn:=hg.num;have hgd:=hg.den;clear hg;refine lP (by simp) ?_;conv=>whnf
 refine cF hτ dV [.x 0,.x 1,.x 2,.x 3,.x 5,.x 6,.x 7,.x 8,.x 4,.x 9,.x 10,.x 11] (by kernel_rfl) (by kernel_rfl) ?_;conv=>whnf
 refine cE hw (Φ:=fun _ w' v w2=>eA w2 (Nw (fun _=>False) w' w2) v (f.num*g.num)) (fun ρ w' r=>gI (Rel.old r hS) (hfn.rel r hS) (hgn.rel r hS) (by omega) (by omega)) ?_;rintro ρ wa1 v1 wb1 iv1 r he hw h_ hn;clear hfn;replace hfd:=hfd.cB r hS he (mC h_);clear hgn;replace hgd:=hgd.cB r hS he (mC h_);have hA:=hn.cw (S:=fun _=>False) r.bu (mN h_);clear r;obtain⟨s1_0,s1_1,s1_2,s1_3,rfl⟩:=hA.shape;conv=>whnf
 refine cE hw (Φ:=fun _ w' v w2=>eA w2 (Nw (fun _=>False) w' w2) v ((f.den:Int)*(g.den:Int))) (fun ρ w' r=>gI (Rel.old r hS) (hfd.rel r hS) (hgd.rel r hS) (by omega) (by omega)) ?_;rintro ρ wa2 v2 wb2 iv2 r he hw h_ hn;clear hfd;clear hgd;replace hA:=hA.cB r (bs w) he (mC h_);have hB:=hn.cw (S:=fun _=>False) r.bu (mN h_);clear r;obtain⟨s2_0,s2_1,s2_2,s2_3,rfl⟩:=hB.shape;conv=>whnf
 refine cE hw (Φ:=fun _ w' v w2=>dL w2 (Nw (fun _=>False) w' w2) v (f*g)) (fun ρ w' r=>(vK f g)▸tO (Rel.old r (bs w)) (hA.rel r (bs w)) (hB.rel r (bs w)) (jG (fO f) (fO g)) (by omega) (by omega)) ?_;rintro ρ wa3 v3 wb3 iv3 r he hw h_ hn;clear hA;clear hB;have hC:=hn.cw (S:=fun _=>False) r.bu (mN h_);clear r;obtain⟨s3_0,s3_1,s3_2,s3_3,s3_4,s3_5,s3_6,s3_7,rfl⟩:=hC.shape;conv=>whnf
 intro ρe we re;exact⟨_,rfl,hw.tr re.cC,hC.out re (bs w)⟩
theorem JW{S:Nat->Prop}{w:World}{v u:Value}{f g:Rat}(hS:Old S w)(hf:dL w S v f)(hg:dL w S u g)(hlf:rl f<=10000000000)(hlg:rl g<=10000000000)(hg0:g≠0):
  dh PG N.kU #[v,u] w (dw w fun v' w2=>dL w2 (Nw (fun _=>False) w w2) v' (f / g)):=by
 have hw:cN w.heap.size w w:=cN.refl;have l1:=fF f;have l2:=eQ f;have l3:=fF g;have l4:=eQ g;have m0:=cS f.num g.den;have m1:=cS f.den g.num;replace hf:=hf.cG (S':=Cv S w.heap.size []) fun _ h=>.inl h;replace hg:=hg.cG (S':=Cv S w.heap.size []) fun _ h=>.inl h;obtain⟨b1,a1,n1,c1,b2,a2,n2,c2,rfl⟩:=hf.shape;obtain⟨b3,a3,n3,c3,b4,a4,n4,c4,rfl⟩:=hg.shape;have hfn:=hf.num;have hfd:=hf.den;clear hf;have hgn:=hg.num;have hgd:=hg.den;clear hg;refine ni (by simp) ?_;conv=>whnf
 refine cF hτ dV [.x 0,.x 1,.x 2,.x 3,.x 5,.x 6,.x 7,.x 8,.x 4,.x 9,.x 10,.x 11] (by kernel_rfl) (by kernel_rfl) ?_;conv=>whnf
 refine cE hw (Φ:=fun _ w' v w2=>eA w2 (Nw (fun _=>False) w' w2) v (f.num*(g.den:Int))) (fun ρ w' r=>gI (Rel.old r hS) (hfn.rel r hS) (hgd.rel r hS) (by omega) (by omega)) ?_;rintro ρ wa1 v1 wb1 iv1 r he hw h_ hn;clear hfn;replace hfd:=hfd.cB r hS he (mC h_);replace hgn:=hgn.cB r hS he (mC h_);clear hgd;have hA:=hn.cw (S:=fun _=>False) r.bu (mN h_);clear r;obtain⟨s1_0,s1_1,s1_2,s1_3,rfl⟩:=hA.shape;conv=>whnf
 refine cE hw (Φ:=fun _ w' v w2=>eA w2 (Nw (fun _=>False) w' w2) v ((f.den:Int)*g.num)) (fun ρ w' r=>gI (Rel.old r hS) (hfd.rel r hS) (hgn.rel r hS) (by omega) (by omega)) ?_;rintro ρ wa2 v2 wb2 iv2 r he hw h_ hn;clear hfd;clear hgn;replace hA:=hA.cB r (bs w) he (mC h_);have hB:=hn.cw (S:=fun _=>False) r.bu (mN h_);clear r;obtain⟨s2_0,s2_1,s2_2,s2_3,rfl⟩:=hB.shape;conv=>whnf
 refine cE hw (Φ:=fun _ w' v w2=>dL w2 (Nw (fun _=>False) w' w2) v (f / g)) (fun ρ w' r=>(AD f g)▸tO (Rel.old r (bs w)) (hA.rel r (bs w)) (hB.rel r (bs w)) (jG (fO f) (fun e=>hg0 (Rat.num_eq_zero.1 e))) (by omega) (by omega)) ?_;rintro ρ wa3 v3 wb3 iv3 r he hw h_ hn;clear hA;clear hB;have hC:=hn.cw (S:=fun _=>False) r.bu (mN h_);clear r;obtain⟨s3_0,s3_1,s3_2,s3_3,s3_4,s3_5,s3_6,s3_7,rfl⟩:=hC.shape;conv=>whnf
 intro ρe we re;exact⟨_,rfl,hw.tr re.cC,hC.out re (bs w)⟩
theorem H9{S:Nat->Prop}{w:World}{v u:Value}{f g:Rat}(hS:Old S w)(hf:dL w S v f)(hg:dL w S u g)(hlf:rl f<=10000000000)(hlg:rl g<=10000000000):
  dh PG N.j1 #[v,u] w (dw w fun v' w2=>dL w2 (Nw (fun _=>False) w w2) v' (f+g)):=by
 have hw:cN w.heap.size w w:=cN.refl;have l1:=fF f;have l2:=eQ f;have l3:=fF g;have l4:=eQ g;have m0:=cS f.num g.den;have m1:=cS g.num f.den;have m2:=cS f.den g.den;have m4:=gi (f.num*g.den) (g.num*f.den);replace hf:=hf.cG (S':=Cv S w.heap.size []) fun _ h=>.inl h;replace hg:=hg.cG (S':=Cv S w.heap.size []) fun _ h=>.inl h;obtain⟨b1,a1,n1,c1,b2,a2,n2,c2,rfl⟩:=hf.shape;obtain⟨b3,a3,n3,c3,b4,a4,n4,c4,rfl⟩:=hg.shape;have hfn:=hf.num;have hfd:=hf.den;clear hf;have hgn:=hg.num;have hgd:=hg.den;clear hg;refine mJ (by simp) ?_;conv=>whnf
 refine cF hτ dV [.x 0,.x 1,.x 2,.x 3,.x 5,.x 6,.x 7,.x 8,.x 11,.x 12,.x 13,.x 14,.x 4,.x 9,.x 10,.x 15,.x 16,.x 17] (by kernel_rfl) (by kernel_rfl) ?_;conv=>whnf
 refine cE hw (Φ:=fun _ w' v w2=>eA w2 (Nw (fun _=>False) w' w2) v (f.num*(g.den:Int))) (fun ρ w' r=>gI (Rel.old r hS) (hfn.rel r hS) (hgd.rel r hS) (by omega) (by omega)) ?_;rintro ρ wa1 v1 wb1 iv1 r he hw h_ hn;clear hfn;replace hfd:=hfd.cB r hS he (mC h_);replace hgn:=hgn.cB r hS he (mC h_);replace hgd:=hgd.cB r hS he (mC h_);have hA:=hn.cw (S:=fun _=>False) r.bu (mN h_);clear r;obtain⟨s1_0,s1_1,s1_2,s1_3,rfl⟩:=hA.shape;conv=>whnf
 refine cE hw (Φ:=fun _ w' v w2=>eA w2 (Nw (fun _=>False) w' w2) v (g.num*(f.den:Int))) (fun ρ w' r=>gI (Rel.old r hS) (hgn.rel r hS) (hfd.rel r hS) (by omega) (by omega)) ?_;rintro ρ wa2 v2 wb2 iv2 r he hw h_ hn;replace hfd:=hfd.cB r hS he (mC h_);clear hgn;replace hgd:=hgd.cB r hS he (mC h_);replace hA:=hA.cB r (bs w) he (mC h_);have hB:=hn.cw (S:=fun _=>False) r.bu (mN h_);clear r;obtain⟨s2_0,s2_1,s2_2,s2_3,rfl⟩:=hB.shape;conv=>whnf
 refine cE hw (Φ:=fun _ w' v w2=>eA w2 (Nw (fun _=>False) w' w2) v (f.num*(g.den:Int)+g.num*(f.den:Int))) (fun ρ w' r=>z6 (Rel.old r (bs w)) (hA.rel r (bs w)) (hB.rel r (bs w)) (by omega) (by omega)) ?_;rintro ρ wa3 v3 wb3 iv3 r he hw h_ hn;replace hfd:=hfd.cB r hS he (mC h_);replace hgd:=hgd.cB r hS he (mC h_);clear hA;clear hB;have hD:=hn.cw (S:=fun _=>False) r.bu (mN h_);clear r;obtain⟨s3_0,s3_1,s3_2,s3_3,rfl⟩:=hD.shape;conv=>whnf
 refine cE hw (Φ:=fun _ w' v w2=>eA w2 (Nw (fun _=>False) w' w2) v ((f.den:Int)*(g.den:Int))) (fun ρ w' r=>gI (Rel.old r hS) (hfd.rel r hS) (hgd.rel r hS) (by omega) (by omega)) ?_;rintro ρ wa4 v4 wb4 iv4 r he hw h_ hn;clear hfd;clear hgd;replace hD:=hD.cB r (bs w) he (mC h_);have hE:=hn.cw (S:=fun _=>False) r.bu (mN h_);clear r;obtain⟨s4_0,s4_1,s4_2,s4_3,rfl⟩:=hE.shape;conv=>whnf
 refine cE hw (Φ:=fun _ w' v w2=>dL w2 (Nw (fun _=>False) w' w2) v (f+g)) (fun ρ w' r=>(qz f g)▸tO (Rel.old r (bs w)) (hD.rel r (bs w)) (hE.rel r (bs w)) (jG (fO f) (fO g)) (by omega) (by omega)) ?_;rintro ρ wa5 v5 wb5 iv5 r he hw h_ hn;clear hD;clear hE;have hC:=hn.cw (S:=fun _=>False) r.bu (mN h_);clear r;obtain⟨s5_0,s5_1,s5_2,s5_3,s5_4,s5_5,s5_6,s5_7,rfl⟩:=hC.shape;conv=>whnf
 intro ρe we re;exact⟨_,rfl,hw.tr re.cC,hC.out re (bs w)⟩
theorem sK{S:Nat->Prop}{w:World}{v:Value}{f:Rat}(hS:Old S w)(hf:dL w S v f)(hlf:rl f<=100000000000):
  dh PG N.j2 #[v] w (dw w fun v' w2=>cR w2 (Nw (fun _=>False) w w2) v' f):=by
 have hw:cN w.heap.size w w:=cN.refl;have l1:=fF f;have l2:=eQ f;replace hf:=hf.cG (S':=Cv S w.heap.size []) fun _ h=>.inl h;obtain⟨b1,a1,n1,c1,b2,a2,n2,c2,rfl⟩:=hf.shape;have hfn:=hf.num;have hfd:=hf.den;clear hf;refine mK (by simp) ?_;conv=>whnf
 refine cF hτ dV [.x 0,.x 1,.x 3,.x 4,.x 2,.x 5,.x 6,.x 7] (by kernel_rfl) (by kernel_rfl) ?_;conv=>whnf
 refine cE hw (Φ:=fun _ w' v w2=>dC w2 (Nw (fun _=>False) w' w2) v f.num) (fun ρ w' r=>GS (Rel.old r hS) (hfn.rel r hS) (by omega)) ?_;rintro ρ wa1 v1 wb1 iv1 r he hw h_ hn;clear hfn;replace hfd:=hfd.cB r hS he (mC h_);have hA:=hn.cw (S:=fun _=>False) r.bu (mN h_);clear r;obtain⟨s1_0,s1_1,s1_2,s1_3,rfl⟩:=hA.shape;conv=>whnf
 refine cE hw (Φ:=fun _ w' v w2=>dC w2 (Nw (fun _=>False) w' w2) v (f.den:Int)) (fun ρ w' r=>GS (Rel.old r hS) (hfd.rel r hS) (by omega)) ?_;rintro ρ wa2 v2 wb2 iv2 r he hw h_ hn;clear hfd;replace hA:=hA.cB r (bs w) he (mC h_);have hB:=hn.cw (S:=fun _=>False) r.bu (mN h_);clear r;obtain⟨s2_0,s2_1,s2_2,s2_3,rfl⟩:=hB.shape;conv=>whnf
 intro ρe we re;exact⟨_,rfl,hw.tr re.cC,cR.of (hA.out re (bs w)) (hB.out re (bs w))⟩
theorem Ha(n:Int)(w:World)(h1: -9223372036854775808<=n)(h2:n<=9223372036854775807):
  dh PG N.uB #[.int .i64 n] w (dw w fun v' w2=>dL w2 (Nw (fun _=>False) w w2) v' (n:Rat)):=by
 have hw:cN w.heap.size w w:=cN.refl;refine x9 (by simp) ?_;conv=>whnf
 refine bz (cE hw (Φ:=fun _ w' v w2=>eA w2 (Nw (fun _=>False) w' w2) v n) (fun ρ w' r=>mV n w' h1 h2) ?_);rintro ρ wa1 v1 wb1 iv1 r he hw h_ hn;have hA:=hn.cw (S:=fun _=>False) r.bu (mN h_);clear r;obtain⟨s1_0,s1_1,s1_2,s1_3,rfl⟩:=hA.shape;conv=>whnf
 refine bz (cE hw (Φ:=fun _ w' v w2=>eA w2 (Nw (fun _=>False) w' w2) v 1) (fun ρ w' r=>mV 1 w' (by decide) (by decide)) ?_);rintro ρ wa2 v2 wb2 iv2 r he hw h_ hn;replace hA:=hA.cB r (bs w) he (mC h_);have hB:=hn.cw (S:=fun _=>False) r.bu (mN h_);clear r;obtain⟨s2_0,s2_1,s2_2,s2_3,rfl⟩:=hB.shape;conv=>whnf
 intro ρe we re;exact⟨_,rfl,hw.tr re.cC,dL.of (by rw[Rat.num_intCast];exact hA.out re (bs w)) (by rw[Rat.den_intCast];exact hB.out re (bs w))⟩
theorem kc{S:Nat->Prop}{w:World}{v:Value}{x y:Int}(hS:Old S w)(hx:gX w S v x y)(hlx:ln x.natAbs<=100000000000)(hly:ln y.natAbs<=100000000000):
  dh PG N.tz #[v] w (dw w fun v' w2=>dL w2 (Nw (fun _=>False) w w2) v' (ratio x y)):=by
 have hw:cN w.heap.size w w:=cN.refl;replace hx:=hx.cG (S':=Cv S w.heap.size []) fun _ h=>.inl h;obtain⟨b1,a1,n1,c1,b2,a2,n2,c2,rfl⟩:=hx.shape;have hn:=hx.num;have hd:=hx.den;clear hx;have hxn:=hn;have hxd:=hd;clear hn hd;refine x7 (by simp) ?_;conv=>whnf
 refine bz (cH (Φ:=fun _ w' v w2=>eA w2 (Nw (Cv S w.heap.size []) w' w2) v y) (fun ρ w' r=>G7 (Rel.old r hS) (hxd.rel r hS)) ?_);rintro ρ wa1 v1 wb1 r he hb hn;replace hw:=hw.tr hb;replace hxn:=hxn.cB (iv':=(wa1.heap.size,wb1.heap.size)::[]) r hS he fun x hx=>aD _ hx;clear hxd;have hD:=hn.old r.bu;clear r he hb hn;generalize (wa1.heap.size,wb1.heap.size)::[]=iv1 at*
 obtain⟨s1_0,s1_1,s1_2,s1_3,rfl⟩:=hD.shape;conv=>whnf
 refine bz (cE hw (Φ:=fun _ w' v w2=>v= .int .i64 y.sign) (fun ρ w' r=>xm (hD.rel r hS)) ?_);rintro ρ wa2 v2 wb2 iv2 r he hw h_ rfl;replace hxn:=hxn.cB r hS he (mC h_);replace hD:=hD.cB r hS he (mC h_);clear r he;conv=>whnf
 refine dE.mk (fun h=>?_) (fun h=>?_)
 ·have h:y=0:=Int.sign_eq_zero_iff_zero.1 (eq_of_beq h);have e0:ratio x y=Rat.divInt x 1:=if_pos h;conv=>whnf
  refine bz (cE hw (Φ:=fun _ w' v w2=>eA w2 (Nw (fun _=>False) w' w2) v 1) (fun ρ w' r=>mV 1 w' (by decide) (by decide)) ?_);rintro ρ wa3 v3 wb3 iv3 r he hw h_ hn;replace hxn:=hxn.cB r hS he (mC h_);clear hD;have hO:=hn.cw (S:=fun _=>False) r.bu (mN h_);clear r he hn;obtain⟨s3_0,s3_1,s3_2,s3_3,rfl⟩:=hO.shape;conv=>whnf
  have l1:ln (1:Int).natAbs=1:=by decide
  refine cF hτ dV [.x 0,.x 1,.x 3,.x 2,.x 4,.x 5] (by kernel_rfl) (by kernel_rfl) ?_;conv=>whnf
  refine cH (Φ:=fun _ w' v w2=>eA w2 (Nw (Cv S w.heap.size iv3) w' w2) v x) (fun ρ w' r=>G7 (Rel.old r hS) (hxn.rel r hS)) ?_;rintro ρ wa4 v4 wb4 r he hb hn;replace hw:=hw.tr hb;clear hxn;replace hO:=hO.cB (iv':=(wa4.heap.size,wb4.heap.size)::iv3) r (bs w) he fun x hx=>aD _ hx;have hN:=hn.old r.bu;clear r he hb hn;generalize (wa4.heap.size,wb4.heap.size)::iv3=iv4 at*
  obtain⟨s4_0,s4_1,s4_2,s4_3,rfl⟩:=hN.shape;conv=>whnf
  refine cE hw (Φ:=fun _ w' v w2=>dL w2 (Nw (fun _=>False) w' w2) v (ratio x y)) (fun ρ w' r=>e0.symm▸tO (Rel.old r hS) (hN.rel r hS) ((hO.rel r (bs w)).cG fun g hg=>hg.elim (fun k=>k.elim) .inr) (by decide) (by omega) (by omega)) ?_;rintro ρ wa5 v5 wb5 iv5 r he hw h_ hn;clear hO;clear hN;have hC:=hn.cw (S:=fun _=>False) r.bu (mN h_);clear r he hn;obtain⟨s5_0,s5_1,s5_2,s5_3,s5_4,s5_5,s5_6,s5_7,rfl⟩:=hC.shape;conv=>whnf
  intro ρe we re;exact⟨_,rfl,hw.tr re.cC,hC.out re (bs w)⟩
 ·have h:y≠0:=fun e=>by rw[e]at h;exact absurd h (by decide)
  have e0:ratio x y=Rat.divInt x y:=aK h;conv=>whnf
  refine cF hτ dV [.x 0,.x 1,.x 3,.x 2,.x 4,.x 5] (by kernel_rfl) (by kernel_rfl) ?_;conv=>whnf
  refine cH (Φ:=fun _ w' v w2=>eA w2 (Nw (Cv S w.heap.size iv2) w' w2) v x) (fun ρ w' r=>G7 (Rel.old r hS) (hxn.rel r hS)) ?_;rintro ρ wa3 v3 wb3 r he hb hn;replace hw:=hw.tr hb;clear hxn;replace hD:=hD.cB (iv':=(wa3.heap.size,wb3.heap.size)::iv2) r hS he fun x hx=>aD _ hx;have hN:=hn.old r.bu;clear r he hb hn;generalize (wa3.heap.size,wb3.heap.size)::iv2=iv3 at*
  obtain⟨s3_0,s3_1,s3_2,s3_3,rfl⟩:=hN.shape;conv=>whnf
  refine cE hw (Φ:=fun _ w' v w2=>dL w2 (Nw (fun _=>False) w' w2) v (ratio x y)) (fun ρ w' r=>e0.symm▸tO (Rel.old r hS) (hN.rel r hS) (hD.rel r hS) h (by omega) (by omega)) ?_;rintro ρ wa4 v4 wb4 iv4 r he hw h_ hn;clear hD;clear hN;have hC:=hn.cw (S:=fun _=>False) r.bu (mN h_);clear r he hn;obtain⟨s4_0,s4_1,s4_2,s4_3,s4_4,s4_5,s4_6,s4_7,rfl⟩:=hC.shape;conv=>whnf
  intro ρe we re;exact⟨_,rfl,hw.tr re.cC,hC.out re (bs w)⟩
def pO(v:Value):Iv:=match v.ownBlock with
 |some g=>[(g,g+1)]
 |none=>[]
theorem zf{v:Value}{lo hi:Nat}:(lo,hi)∈pO v↔v.ownBlock=some lo∧hi=lo+1:=by
 unfold pO
 cases h:v.ownBlock with
 |none=>simp
 |some g=>simp;omega
def DL(iv:Iv)(v:Value):Prop:=∀b,v.ownBlock=some b->∃lo hi,(lo,hi)∈iv∧lo<=b∧b<hi
section
variable{S:Nat->Prop}{H:Hp}{nx:Nat}{iv iv':Iv}{B e sz m:Nat}{w w' w2:World}{ρ:Nat->Sx.dc}{v v':Value}{xs:List Value}
theorem DL.not(h:DL iv v)(r:Rel H nx iv B w ρ w'){b:Nat}(hb:v.ownBlock=some b):∀id c,dA H id=some c->(ρ id).nil=false->(ρ id).g≠b:=fun id c hc hn he=>by
 obtain⟨lo,hi,h1,h2,h3⟩:=h b hb;exact r.j7 lo hi h1 id c hc hn (by omega)
theorem iP(h:w.ownsRow B e sz v m xs)(hc:DL iv v)(r:Rel H nx iv B w ρ w'):w'.ownsRow B e sz v m xs:=
 ownsRow.cD h fun b hb=>r.sR b (ownsRow.low h b hb).2 fun id c hc' hn he=>hc.not r hb id c hc' hn he
theorem DL.row(v:Value):DL (pO v) v:=fun b hb=>⟨b,b+1,zf.2 ⟨hb,rfl⟩,by omega,by omega⟩
theorem DL.mono(h:DL iv v)(k:∀p,p∈iv->p∈iv'):DL iv' v:=fun b hb=>by
 obtain⟨lo,hi,h1,h2⟩:=h b hb;exact⟨lo,hi,k _ h1,h2⟩
theorem iw(h:w.ownsRow B e sz v m xs):∃a c,v= .slice a m c∧m<=c:=by
 rcases h.2 with⟨rfl,rfl⟩|⟨g,cap,cur,rfl,_,_,h1,_⟩
 ·exact⟨none,0,rfl,aG _⟩
 ·exact⟨_,cap,rfl,h1⟩
end
structure iS(w:World)(S:Nat->Prop)(sz:Nat)(v:Value)(xs:List Value)(n:Nat):Prop where
 le:n<=maxLen
 len:xs.length=n*sz
 one:∀u∈xs,u.oneCell'=true
 sl:∃a c,v= .slice a n c∧n<=c∧∀(j:Nat) u,xs[j]? =some u->∃ad,a=some ad∧S ad.block∧w.cell? (ad.add j)=some u
theorem iS.cD{S:Nat->Prop}{w w2:World}{sz:Nat}{v:Value}{xs:List Value}{n:Nat}(h:iS w S sz v xs n)(hk:∀g,S g->w2.heap[g]? =w.heap[g]?):iS w2 S sz v xs n:=by
 obtain⟨h0,h1,h2,a,c,h3,h4,h5⟩:=h;refine⟨h0,h1,h2,a,c,h3,h4,fun j u hu=>?_⟩;obtain⟨ad,k1,k2,k3⟩:=h5 j u hu;exact⟨ad,k1,k2,by rw[bw (hk _ (by rw[cL];exact k2))];exact k3⟩
theorem iS.cG{S S':Nat->Prop}{w:World}{sz:Nat}{v:Value}{xs:List Value}{n:Nat}(h:iS w S sz v xs n)(hk:∀g,S g->S' g):iS w S' sz v xs n:=by
 obtain⟨h0,h1,h2,a,c,h3,h4,h5⟩:=h;refine⟨h0,h1,h2,a,c,h3,h4,fun j u hu=>?_⟩;obtain⟨ad,k1,k2,k3⟩:=h5 j u hu;exact⟨ad,k1,hk _ k2,k3⟩
section
variable{S S':Nat->Prop}{H:Hp}{nx:Nat}{iv iv':Iv}{B:Nat}{w w' w2:World}{ρ:Nat->Sx.dc}{v:Value}{sz n:Nat}{xs:List Value}
end
end Go.Ex
namespace Go.Sx
open Go Go.Ex Go.Proofs
theorem Rel.oE{H:Hp}{nx:Nat}{iv:Iv}{B:Nat}{w w':World}{ρ:Nat->Sx.dc}(r:Rel H nx iv B w ρ w'){id t sz n:Nat}{cs:List At}(h:dA H id=some (.box t cs))(hl:cs.length=n*sz)(hn:n<=maxLen)(h1:∀u∈cs,(u.den ρ).oneCell'=true):
  iS w' (fun g=>g=(ρ id).g) sz (.slice (some ⟨(ρ id).g,0,none⟩) n n) (cs.map (At.den ρ)) n:=by
 refine⟨hn,by simpa using hl,fun u hu=>?_,_,_,rfl,aG _,fun j u hu=>⟨_,rfl,rfl,?_⟩⟩
 ·obtain⟨x,hx,rfl⟩:=aU.1 hu;exact h1 x hx
 ·have h0:(⟨(ρ id).g,0,none⟩:Addr).add j=⟨(ρ id).g,j,none⟩:=by
   cases j with
   |zero=>rfl
   |succ j=>simp[Addr.add]
  rw[h0,cell_of (r.box id t _ h)];exact hu
end Go.Sx
namespace Go.Ex
open Go Go.Sx Go.Proofs
theorem Ga{n:Nat}(h:n<=9223372036854775807):IntKind.i64.wrap (n:Int)=n:=by rw[wrap64]<;>omega
theorem Hb{t b:Nat}(h:t<=9223372036854775807):IntKind.i64.wrap ((t:Int).tdiv (b:Int))=((t / b:Nat):Int):=by
 have h1:=Nat.div_le_self t b;rw[Int.tdiv_eq_ediv_of_nonneg (by omega),<-Int.natCast_ediv];exact Ga (by omega)
end Go.Ex
namespace Go.Ex
open Go Go.Sx Go.Proofs
def yA:Value:=.agg #[.bool false,.slice none 0 0,.bool false,.slice none 0 0]
theorem lZ{n:Int}(h1: -9223372036854775808<=n)(h2:n<=9223372036854775807):ln n.natAbs<=2:=iA.2 (by show n.natAbs<4294967296^2;omega)
end Go.Ex
namespace Go.Sx
open Go Go.Ex Go.Proofs
theorem Rel.gR{H:Hp}{nx:Nat}{iv:Iv}{B:Nat}{w w':World}{ρ:Nat->Sx.dc}(r:Rel H nx iv B w ρ w'){id t m sz:Nat}{cs:List Value}(h:dA H id=some (.vec t sz cs))(hm:cs.length=m*sz)(hm1:m<=maxLen)(hs:0<sz)(h1:∀u∈cs,u.oneCell'=true):
  iS w' (fun g=>B<=g∧g<w'.heap.size) sz ((At.w id m).den ρ) cs m:=by
 rcases r.vec id t sz _ h with⟨hn,rfl⟩|⟨hn,spare,hb,hc,hcap⟩
 ·have hm0:m=0:=by
   rcases bE m with h|h
   ·exact h
   ·have:=Nat.mul_pos h hs;simp at hm;omega
  subst hm0;refine⟨hm1,by simp,by simp,none,0,by simp[At.den,hn],aG _,by simp⟩
 ·refine⟨hm1,hm,h1,some ⟨(ρ id).g,0,none⟩,(ρ id).cap,by simp[At.den,hn],?_,fun j x hx=>⟨_,rfl,r.low id _ h hn,?_⟩⟩
  ·have h1:(cs++spare).length=cs.length+spare.length:=List.length_append;have h2:m*sz<=(ρ id).cap*sz:=by omega
   exact Nat.le_of_mul_le_mul_right h2 hs
  ·rw[dM,cell_of hb,aS,aL (aE.1 hx).1];exact hx
end Go.Sx
namespace Go.Ex
open Go Go.Sx Go.Proofs
end Go.Ex
namespace Go.Ex
open Go Go.Sx Go.Proofs
def signed:Bool->ByteArray->ByteArray
 |true,s=>⟨#[45]⟩++s
 |false,s=>s
def IC(w:World)(S:Nat->Prop)(cs:List Value)(q:Rat):Prop:=∃b a n c b2 a2 n2 c2,cs=[.bool b,.slice a n c,.bool b2,.slice a2 n2 c2]∧dL w S (.agg #[.bool b,.slice a n c,.bool b2,.slice a2 n2 c2]) q
def Fr(w:World)(S:Nat->Prop)(css:List (List Value))(qs:List Rat):Prop:=css.length=qs.length∧∀(j:Nat) cs q,css[j]? =some cs->qs[j]? =some q->IC w S cs q
section
variable{S S':Nat->Prop}{w w2:World}{cs:List Value}{css:List (List Value)}{q:Rat}{qs:List Rat}
end
section
variable{S S':Nat->Prop}{H:Hp}{nx:Nat}{iv iv':Iv}{B:Nat}{w w' w2:World}{ρ:Nat->Sx.dc}{css:List (List Value)}{qs:List Rat}
end
theorem eX:∀{css:List (List Value)},(∀cs∈css,cs.length=4)->css.flatten.length=css.length*4
 |[],_=>rfl
 |c::r,h=>by
  rw[List.flatten_cons,List.length_append,eX (fun cs hc=>h cs (aD _ hc)),h c aJ,List.length_cons];omega
theorem flat_get:∀{css:List (List Value)} {j:Nat} {cs:List Value},(∀cs∈css,cs.length=4)->css[j]? =some cs->∀k u,cs[k]? =some u->css.flatten[j*4+k]? =some u
 |[],j,cs,_,hj,_,_,_=>by simp at hj
 |c::r,0,cs,h,hj,k,u,hu=>by
  simp at hj;subst hj;rw[List.flatten_cons,aL (by have:=(aE.1 hu).1;omega)];simpa using hu
 |c::r,j+1,cs,h,hj,k,u,hu=>by
  have hc:=h c aJ;rw[List.flatten_cons,aQ (by omega),hc,show(j+1)*4+k-4=j*4+k by omega];exact flat_get (fun cs hc=>h cs (aD _ hc)) (by simpa using hj) k u hu
theorem iJ:∀{css:List (List Value)} {j:Nat} {cs:List Value},(∀cs∈css,cs.length=4)->j<css.length->css.flatten.take (j*4)++cs++css.flatten.drop (j*4+4)=(css.set j cs).flatten
 |[],j,cs,_,hj=>by simp at hj
 |c::r,0,cs,h,_=>by
  have hc:=h c aJ;simp[List.flatten_cons,hc]
 |c::r,j+1,cs,h,hj=>by
  have hc:=h c aJ
  rw[List.flatten_cons,show(j+1)*4=c.length+j*4 by omega,List.take_length_add_append,show c.length+j*4+4=c.length+(j*4+4) by omega,List.drop_length_add_append,List.set_cons_succ,List.flatten_cons,
   <-iJ (fun cs hc=>h cs (aD _ hc)) (by simpa using hj),bW,bW,bW]
abbrev Out(B:Nat)(iv:Iv):Nat->Prop:=Cv (fun g=>g<B) B iv
theorem mQ{H:Hp}{nx:Nat}{iv:Iv}{B Bc e sz m:Nat}{w w':World}{ρ:Nat->Sx.dc}{v:Value}{xs:List Value}(h:w.ownsRow Bc e sz v m xs)(hc:∀g,v.ownBlock=some g->Out B iv g)(r:Rel H nx iv B w ρ w'):w'.ownsRow Bc e sz v m xs:=
 ownsRow.cD h fun b hb=>Rel.same r (fun _ h=>h) (hc b hb)
theorem fZ{w w1 w2:World}{row:Option Nat}(h:w.grownBy w1 row)(k:cN w.heap.size w1 w2):w.grownBy w2 row:=
 ⟨k.os.trans h.os,k.tape.trans h.tape,k.output.trans h.output,bB h.size k.size,fun b hb hn=>(k.block b hb).trans (h.block b hb hn)⟩
def gk(i:Nat)(f:Nat->Rat->Rat)(qs:List Rat):List Rat:=qs.mapIdx fun j q=>if j<i then f j q else q
theorem xc(f:Nat->Rat->Rat)(qs:List Rat):gk 0 f qs=qs:=by
 apply bF;intro j;simp[gk]
theorem zT(f:Nat->Rat->Rat)(qs:List Rat):gk qs.length f qs=qs.mapIdx f:=by
 apply bF;intro j;simp only[gk,List.getElem?_mapIdx]
 cases h:qs[j]? with
 |none=>rfl
 |some q=>simp[(aE.1 h).1]
theorem qG{f:Nat->Rat->Rat}{qs:List Rat}{i:Nat}{q:Rat}(h:qs[i]? =some q):(gk i f qs).set i (f i q)=gk (i+1) f qs:=by
 apply bF;intro j;have hi:=(aE.1 h).1;by_cases hij:i=j
 ·subst hij;rw[aT (by simp[gk];exact hi)];simp[gk,List.getElem?_mapIdx,h]
 ·rw[a9 hij];simp only[gk,List.getElem?_mapIdx]
  have:(j<i)↔(j<i+1):=by omega
  simp[this]
theorem Cl{f:Nat->Rat->Rat}{qs:List Rat}{i:Nat}{q:Rat}(h:qs[i]? =some q)(hf:f i q=q):gk i f qs=gk (i+1) f qs:=by
 rw[<-qG h,hf];apply bF;intro j;have hi:=(aE.1 h).1;by_cases hij:i=j
 ·subst hij;rw[aT (by simp[gk];exact hi)];simp[gk,List.getElem?_mapIdx,h]
 ·rw[a9 hij]
theorem Bm{f:Nat->Rat->Rat}{qs:List Rat}{i:Nat}{q:Rat}(h:qs[i]? =some q):(gk i f qs)[i]? =some q:=by
 simp only[gk,List.getElem?_mapIdx,h]
 simp
section
variable{C C' S S':Nat->Prop}{H:Hp}{nx:Nat}{iv iv':Iv}{B:Nat}{w w' w2:World}{ρ:Nat->Sx.dc}{v:Value}{qs:List Rat}
end
end Go.Ex
namespace Go.Ex
def di(M:List (List Rat))(i c:Nat):Rat:=(M.getD i []).getD c 0
def gS(M:List (List Rat))(c:Nat):Nat->Nat->Nat
 |0,k=>k
 |f+1,k=>if di M k c=0 then gS M c f (k+1)else k
def e9{α:Type}(d:α)(l:List α)(i j:Nat):List α:=(l.set i (l.getD j d)).set j (l.getD i d)
def p8(p:Rat)(ps:List Rat)(j:Nat)(q:Rat):Rat:=q+p*ps.getD j 0
def dO(M:List (List Rat))(at_ c i:Nat):List (List Rat):=M.mapIdx fun j r=>if j<i∧j≠at_ then r.mapIdx (p8 (-(r.getD c 0)) (M.getD at_ []))else r
def scaled(M:List (List Rat))(at_ c:Nat):List (List Rat):=M.set at_ ((M.getD at_ []).map (· *(1 / di M at_ c)))
def dP(s:List (List Rat)×List Nat)(c:Nat):List (List Rat)×List Nat:=
 if s.2.length<s.1.length then
  let k:=gS s.1 c (s.1.length-s.2.length) s.2.length
  if k=s.1.length then s else
   let M1:=scaled (e9 [] s.1 s.2.length k) s.2.length c
   (dO M1 s.2.length c M1.length,s.2++[c])
 else s
def cJ(M:List (List Rat))(cols:Nat):List (List Rat)×List Nat:=(List.range cols).foldl dP (M,[])
theorem il{α:Type}(d:α)(l:List α)(i j:Nat):(e9 d l i j).length=l.length:=by simp[e9]
theorem fx(M:List (List Rat))(a c i:Nat):(dO M a c i).length=M.length:=by simp[dO]
theorem ov(M:List (List Rat))(a c:Nat):(scaled M a c).length=M.length:=by simp[scaled]
theorem lr(s:List (List Rat)×List Nat)(c:Nat):(dP s c).1.length=s.1.length:=by
 unfold dP;split
 ·dsimp only
  split
  ·rfl
  ·dsimp only
   rw[fx,ov,il]
 ·rfl
theorem wH(M:List (List Rat))(c:Nat):∀f k,k<=gS M c f k∧gS M c f k<=k+f
 |0,k=>⟨aG _,aG _⟩
 |f+1,k=>by
  unfold gS;split
  ·have:=wH M c f (k+1);omega
  ·omega
theorem wI(M:List (List Rat))(c:Nat):∀f k,gS M c f k<k+f->di M (gS M c f k) c≠0
 |0,k,h=>by simp[gS]at h
 |f+1,k,h=>by
  unfold gS at h ⊢;split
  ·rename_i h0;rw[if_pos h0]at h;exact wI M c f (k+1) (by omega)
  ·rename_i h0;exact h0
theorem C5{M:List (List Rat)}{c f k:Nat}(h:di M k c=0):gS M c (f+1) k=gS M c f (k+1):=by rw[gS,if_pos h]
theorem C6{M:List (List Rat)}{c f k:Nat}(h:di M k c≠0):gS M c (f+1) k=k:=by rw[gS,aK h]
theorem AF(M:List (List Rat))(a c:Nat):dO M a c 0=M:=by
 apply bF;intro j;simp[dO]
theorem pc(M:List (List Rat))(a c i:Nat):(dO M a c i)[a]? =M[a]? :=by
 simp only[dO,List.getElem?_mapIdx]
 cases M[a]? <;>simp
theorem Cc(M:List (List Rat))(a c i j:Nat)(h:i<=j):(dO M a c i)[j]? =M[j]? :=by
 simp only[dO,List.getElem?_mapIdx]
 cases M[j]? with
 |none=>rfl
 |some r=>simp;omega
theorem AG{M:List (List Rat)}{a c i:Nat}{r:List Rat}(h:M[i]? =some r)(hne:i≠a):(dO M a c i).set i (r.mapIdx (p8 (-(r.getD c 0)) (M.getD a [])))=dO M a c (i+1):=by
 apply bF;intro j;have hi:=(aE.1 h).1;by_cases hij:i=j
 ·subst hij;rw[aT (by rw[fx];exact hi)];simp[dO,List.getElem?_mapIdx,h,hne]
 ·rw[a9 hij];simp only[dO,List.getElem?_mapIdx]
  have:(j<i)↔(j<i+1):=by omega
  simp[this]
theorem AH(M:List (List Rat))(a c:Nat):dO M a c a=dO M a c (a+1):=by
 apply bF;intro j;simp only[dO,List.getElem?_mapIdx]
 have:(j<a∧j≠a)↔(j<a+1∧j≠a):=by omega
 simp[this]
def Ht(M:List (List Rat))(h:Nat):Prop:=∀r∈M,∀q∈r,rl q+1<=h
theorem Ht.at{M:List (List Rat)}{h i:Nat}{r:List Rat}(H:Ht M h)(hi:M[i]? =some r):∀q∈r,rl q+1<=h:=H r (aF hi)
theorem Ht.swap{M:List (List Rat)}{h i j:Nat}(H:Ht M h)(hi:i<M.length)(hj:j<M.length):Ht (e9 [] M i j) h:=by
 intro r hr;have:r∈M:=by
  unfold e9 at hr;rcases bD hr with h1|h1
  ·rcases bD h1 with h2|h2
   ·exact h2
   ·rw[h2,List.getD,aB hj];exact bL hj
  ·rw[h1,List.getD,aB hi];exact bL hi
 exact H r this
theorem Fs:rl 1=1:=by decide
theorem I4{q:Rat}(h:q≠0):rl (1 / q)<=rl q+1:=by
 have:=Fq 1 h;rw[Fs]at this;omega
theorem zC{M:List (List Rat)}{i j:Nat}(hi:i<M.length)(hj:j<M.length):(e9 [] M i j)[i]? =M[j]? :=by
 unfold e9;by_cases h:j=i
 ·subst h;rw[aT (by simpa using hi),List.getD,aB hi];rfl
 ·rw[a9 h,aT hi,List.getD,aB hj];rfl
theorem BT{M:List (List Rat)}{i j c:Nat}(hi:i<M.length)(hj:j<M.length):di (e9 [] M i j) i c=di M j c:=by
 simp only[di,List.getD,zC hi hj]
def fk(n:Nat)(M:List (List Rat)):Prop:=∀r∈M,r.length=n
theorem fk.set{n:Nat}{M:List (List Rat)}{i:Nat}{r:List Rat}(h:fk n M)(hr:r.length=n):fk n (M.set i r):=fun x hx=>by
 rcases bD hx with h1|h1
 ·exact h x h1
 ·rw[h1];exact hr
theorem fk.getD{n:Nat}{M:List (List Rat)}{i:Nat}(h:fk n M)(hi:i<M.length):(M.getD i []).length=n:=by
 rw[List.getD,aB hi];exact h _ (bL hi)
theorem fk.step{n c:Nat}{s:List (List Rat)×List Nat}(h:fk n s.1):fk n (dP s c).1:=by
 unfold dP;split
 ·rename_i hlt;dsimp only
  split
  ·exact h
  ·rename_i hk;have hle:=wH s.1 c (s.1.length-s.2.length) s.2.length;have hkl:gS s.1 c (s.1.length-s.2.length) s.2.length<s.1.length:=by omega
   dsimp only
   generalize gS s.1 c (s.1.length-s.2.length) s.2.length=k at*
   have h1:fk n (e9 [] s.1 s.2.length k):=(h.set (h.getD hkl)).set (h.getD hlt);have h2:fk n (scaled (e9 [] s.1 s.2.length k) s.2.length c):=h1.set (by rw[aM];exact h1.getD (by rw[il];exact hlt));intro r hr;obtain⟨j,hj⟩:=ah hr;simp only[dO,List.getElem?_mapIdx,Option.map_eq_some_iff]at hj;obtain⟨r0,hr0,hj⟩:=hj;have h3:=h2 r0 (aF hr0);split at hj
   ·subst hj;rw[List.length_mapIdx];exact h3
   ·subst hj;exact h3
 ·exact h
theorem B8{n cols:Nat}{M:List (List Rat)}(h:fk n M):fk n (cJ M cols).1:=by
 have key:∀(l:List Nat) (s:List (List Rat)×List Nat),fk n s.1->fk n (l.foldl dP s).1:=by
  intro l
  induction l with
  |nil=>intro s hs;exact hs
  |cons c r ih=>intro s hs;exact ih _ hs.step
 exact key _ _ h
end Go.Ex
namespace Go.Ex
open Go Go.Sx Go.Proofs
structure JN(w:World)(S:Nat->Prop)(vm:Value)(rv:List Value)(n:Nat)(M:List (List Rat)):Prop where
 out:w.ownsRow 0 T.row 1 vm rv.length rv
 len:rv.length=M.length
 row:∀(i:Nat) v qs,rv[i]? =some v->M[i]? =some qs->∃css,w.ownsRow 0 T.Bd 4 v n css.flatten∧css.length=n∧Fr w S css qs
 CP:∀(i j:Nat) a b g,rv[i]? =some a->rv[j]? =some b->a.ownBlock=some g->b.ownBlock=some g->i=j
 aAM:∀v∈rv,∀g,v.ownBlock=some g->vm.ownBlock≠some g
def Mb(vm:Value)(rv:List Value)(g:Nat):Prop:=vm.ownBlock=some g∨∃v∈rv,v.ownBlock=some g
structure Kept(w w2:World)(X:Nat->Prop):Prop where
 os:w2.os=w.os
 tape:w2.tape=w.tape
 output:w2.output=w.output
 size:w.heap.size<=w2.heap.size
 block:∀k,k<w.heap.size->¬X k->w2.heap[k]? =w.heap[k]?
section
variable{S S' X:Nat->Prop}{H:Hp}{nx n:Nat}{iv iv':Iv}{B:Nat}{w w' w2 w3:World}{ρ:Nat->Sx.dc}{vm:Value}{rv:List Value}{M:List (List Rat)}
end
end Go.Ex
namespace Go.Sx
open Go Go.Ex Go.Proofs
theorem Rel.Bp{H:Hp}{nx:Nat}{iv:Iv}{B:Nat}{w w' w2:World}{ρ:Nat->Sx.dc}{row:Option Nat}(r:Rel H nx iv B w ρ w')(hne:∀g,row=some g->∀id b,dA H id=some b->(ρ id).nil=false->(ρ id).g≠g)(h:w'.grownBy w2 row):Rel H nx ((w'.heap.size,w2.heap.size)::iv) B w2 ρ w2:=
 r.BD h.size (fun id b hb hn=>h.block _ (r.low id b hb hn).2 fun e=>hne _ e.symm id b hb hn rfl) fun lo hi hm=>by
  rcases List.mem_cons.1 hm with e|hm
  ·injection e with e1 e2;subst e1 e2;exact⟨aG _,fun id b hb hn=>by have:=(r.low id b hb hn).2;omega⟩
  ·exact⟨by have:=r.oo lo hi hm;have:=r.size;have:=h.size;omega,fun id b hb hn=>r.j7 lo hi hm id b hb hn⟩
end Go.Sx
namespace Go.Ex
open Go Go.Sx Go.Proofs
end Go.Ex
namespace Go.Ex
open Go Go.Sx Go.Proofs
end Go.Ex
namespace Go.Sx
open Go Go.Ex Go.Proofs
theorem Sub.nil{B nx:Nat}{l:Env}{H:Hp}{iv:Iv}{w w':World}{ρ:Nat->Sx.dc}{t:yz}(u e sz:Nat)(h9:ef l u=some (.o (.v (.slice none 0 0))))(hsc:cV nx l)(r:Rel H nx iv B w ρ w')
  (h:∀ρ1,Rel ((nx,.vec e sz [])::H) (nx+1) iv B w ρ1 w'->Sx.Sub B ((u,.o (.w nx 0))::l) (nx+1) ρ1 w' t):Sx.Sub B l nx ρ w' t:=by
 have r1:=r.push (.vec e sz []) ⟨0,0,true⟩ (w2:=w') rfl rfl rfl (aG _) (fun _ _=>rfl) (fun h=>by cases h) (.inl ⟨rfl,rfl⟩) trivial;obtain⟨ρ',h1,h2⟩:=h _ r1;refine⟨ρ',h1,fun x v hv=>?_⟩;obtain⟨h3,v0,h4,h5⟩:=h2 x v hv;refine⟨h3,?_⟩;rw[eI]at h4;split at h4
 ·rename_i e;subst e;injection h4 with h4;subst h4;refine⟨_,h9,?_⟩;rw[<-h5];simp[SV.den,At.den,eS]
 ·refine⟨v0,h4,?_⟩;rw[<-h5];exact SV.jD (fun id hid=>fp id hid) (hsc.get _ _ h4)
end Go.Sx
namespace Go.Ex
open Go Go.Sx Go.Proofs
structure aAH(w:World)(S:Nat->Prop)(rv:List Value)(n:Nat)(M:List (List Rat))(gm k c g ck:Nat)(q:Rat)(d1:Bool)(e1:Option Addr)(m1 k1:Nat)(d2:Bool)(e2:Option Addr)(m2 k2:Nat):Prop where
 rv:rv[k]? =some (.slice (some ⟨g,0,none⟩) n ck)
 at_:di M k c=q
 aAN:dL w S (.agg #[.bool d1,.slice e1 m1 k1,.bool d2,.slice e2 m2 k2]) q
 outer:w.cell? (Addr.add ⟨gm,0,none⟩ (k*1))=some (.slice (some ⟨g,0,none⟩) n ck)
 cells:∀j u,[Value.bool d1,.slice e1 m1 k1,.bool d2,.slice e2 m2 k2][j]? =some u->w.cell? ((Addr.add ⟨g,0,none⟩ (c*4)).add j)=some u
theorem Hc{α:Type}{xs:List α}{j:Nat}{v:α}(h:j<xs.length):xs.take (j*1)++[v]++xs.drop (j*1+1)=xs.set j v:=by
 rw[aR,List.set_eq_take_append_cons_drop,if_pos h];simp
end Go.Ex
namespace Go.Ex
open Go Go.Sx Go.Proofs
def Is(w:World)(S:Nat->Prop)(v:Value)(n:Nat)(qs:List Rat):Prop:=∃css,w.ownsRow 0 T.Bd 4 v n css.flatten∧css.length=n∧Fr w S css qs
section
variable{S S' C:Nat->Prop}{H:Hp}{nx n:Nat}{iv iv':Iv}{B:Nat}{w w' w2:World}{ρ:Nat->Sx.dc}{v:Value}{qs:List Rat}
structure aAO(w:World)(S:Nat->Prop)(B:Nat)(iv:Iv)(v:Value)(n:Nat)(qs:List Rat):Prop where
 row:Is w (fun g=>Cv S B iv g∧v.ownBlock≠some g) v n qs
 new:∀g,v.ownBlock=some g->Cv (fun _=>False) B iv g
def Aj(w:World)(S:Nat->Prop)(cs:List Value)(x:Int×Int):Prop:=∃b a n c b2 a2 n2 c2,cs=[.bool b,.slice a n c,.bool b2,.slice a2 n2 c2]∧gX w S (.agg #[.bool b,.slice a n c,.bool b2,.slice a2 n2 c2]) x.1 x.2
theorem Aj.cD{cs:List Value}{x:Int×Int}(h:Aj w S cs x)(hk:∀g,S g->w2.heap[g]? =w.heap[g]?):Aj w2 S cs x:=by
 obtain⟨b,a,n,c,b2,a2,n2,c2,h1,h2⟩:=h;exact⟨b,a,n,c,b2,a2,n2,c2,h1,h2.cD hk⟩
theorem Aj.cG{cs:List Value}{x:Int×Int}(h:Aj w S cs x)(hk:∀g,S g->S' g):Aj w S' cs x:=by
 obtain⟨b,a,n,c,b2,a2,n2,c2,h1,h2⟩:=h;exact⟨b,a,n,c,b2,a2,n2,c2,h1,h2.cG hk⟩
def dx{α:Type}(P:World->(Nat->Prop)->List Value->α->Prop)(w:World)(S:Nat->Prop)(v:Value)(xs:List α):Prop:=
 ∃css:List (List Value),iS w S 4 v css.flatten xs.length∧css.length=xs.length∧(∀cs∈css,cs.length=4)∧∀(j:Nat) cs x,css[j]? =some cs->xs[j]? =some x->P w S cs x
abbrev oJ:=dx Aj
theorem oJ.cD{xs:List (Int×Int)}(h:oJ w S v xs)(hk:∀g,S g->w2.heap[g]? =w.heap[g]?):oJ w2 S v xs:=by
 obtain⟨css,h1,h2,h3,h4⟩:=h;exact⟨css,h1.cD hk,h2,h3,fun j cs x k1 k2=>(h4 j cs x k1 k2).cD hk⟩
theorem oJ.cG{xs:List (Int×Int)}(h:oJ w S v xs)(hk:∀g,S g->S' g):oJ w S' v xs:=by
 obtain⟨css,h1,h2,h3,h4⟩:=h;exact⟨css,h1.cG hk,h2,h3,fun j cs x k1 k2=>(h4 j cs x k1 k2).cG hk⟩
theorem dx.shape{α:Type}{P:World->(Nat->Prop)->List Value->α->Prop}{xs:List α}(h:dx P w S v xs):∃a c,v= .slice a xs.length c∧xs.length<=c∧xs.length<=maxLen:=by
 obtain⟨css,⟨h0,_,_,a,c,h1,h2,_⟩,_⟩:=h;exact⟨a,c,h1,h2,h0⟩
theorem dx.load{α:Type}{P:World->(Nat->Prop)->List Value->α->Prop}{xs:List α}{a:Option Addr}{m c j:Nat}{x:α}(h:dx P w S (.slice a m c) xs)(hq:xs[j]? =some x):
  ∃ad cs,a=some ad∧P w S cs x∧cs.length=4∧∀k u,cs[k]? =some u->S ad.block∧w.cell? ((ad.add (j*4)).add k)=some u:=by
 obtain⟨css,⟨h0,h1,h2,a',c',e,h3,h4⟩,hl,hl4,hf⟩:=h;injection e with e1 e2 e3;subst e1;obtain⟨cs,hcs⟩:∃cs,css[j]? =some cs:=⟨_,aB (by rw[hl];exact(aE.1 hq).1)⟩
 have hF:=hf j cs x hcs hq;have hlc:=hl4 cs (aF hcs);obtain⟨ad,k1,k2,k3⟩:=h4 (j*4+0) _ (flat_get hl4 hcs 0 _ (aB (show 0<cs.length by omega)));refine⟨ad,cs,k1,hF,hlc,fun k u hu=>?_⟩;obtain⟨ad2,m1,m2,m3⟩:=h4 (j*4+k) u (flat_get hl4 hcs k u hu);rw[k1]at m1;injection m1 with m1;subst m1;refine⟨m2,?_⟩;rw[<-m3];have:(ad.add (j*4)).add k=ad.add (j*4+k):=by
  unfold Addr.add;split<;>split<;>simp_all<;>omega
 rw[this]
def cT{α:Type}(P:World->(Nat->Prop)->Value->α->Prop)(w:World)(S:Nat->Prop)(v:Value)(M:List α):Prop:=
 ∃rv,iS w S 1 v rv M.length∧rv.length=M.length∧∀(i:Nat) u x,rv[i]? =some u->M[i]? =some x->P w S u x
theorem cT.shape{α:Type}{P:World->(Nat->Prop)->Value->α->Prop}{xs:List α}(h:cT P w S v xs):∃a c,v= .slice a xs.length c∧xs.length<=c∧xs.length<=maxLen:=by
 obtain⟨rv,⟨h0,_,_,a,c,h1,h2,_⟩,_⟩:=h;exact⟨a,c,h1,h2,h0⟩
theorem cT.load{α:Type}{P:World->(Nat->Prop)->Value->α->Prop}{xs:List α}{a:Option Addr}{m c j:Nat}{x:α}(h:cT P w S (.slice a m c) xs)(hq:xs[j]? =some x):
  ∃ad u,a=some ad∧P w S u x∧S ad.block∧w.cell? (ad.add (j*1))=some u:=by
 obtain⟨rv,⟨h0,h1,h2,a',c',e,h3,h4⟩,hl,hf⟩:=h;injection e with e1 e2 e3;subst e1;obtain⟨u,hu⟩:∃u,rv[j]? =some u:=⟨_,aB (by rw[hl];exact(aE.1 hq).1)⟩
 obtain⟨ad,k1,k2,k3⟩:=h4 j u hu;exact⟨ad,u,k1,hf j u x hu hq,k2,by rw[aR];exact k3⟩
abbrev iB:=cT oJ
theorem iB.cD{M:List (List (Int×Int))}(h:iB w S v M)(hk:∀g,S g->w2.heap[g]? =w.heap[g]?):iB w2 S v M:=by
 obtain⟨rv,h1,h2,h3⟩:=h;exact⟨rv,h1.cD hk,h2,fun i u x k1 k2=>oJ.cD (h3 i u x k1 k2) hk⟩
theorem iB.cG{M:List (List (Int×Int))}(h:iB w S v M)(hk:∀g,S g->S' g):iB w S' v M:=by
 obtain⟨rv,h1,h2,h3⟩:=h;exact⟨rv,h1.cG hk,h2,fun i u x k1 k2=>oJ.cG (h3 i u x k1 k2) hk⟩
end
section
variable{S S':Nat->Prop}{H:Hp}{nx:Nat}{iv iv':Iv}{B:Nat}{w w' w2:World}{ρ:Nat->Sx.dc}{v:Value}{xs:List (Int×Int)}
end
section
variable{S S':Nat->Prop}{H:Hp}{nx:Nat}{iv iv':Iv}{B:Nat}{w w' w2:World}{ρ:Nat->Sx.dc}{v:Value}{M:List (List (Int×Int))}
theorem iB.rel(h:iB w (Cv S B iv) v M)(r:Rel H nx iv B w ρ w')(hS:∀g,S g->g<B):iB w' (Cv S B iv) v M:=iB.cD h fun _ hg=>Rel.same r hS hg
theorem iB.arg(h:iB w S v M)(iv:Iv):iB w (Cv S w.heap.size iv) v M:=iB.cG h fun _ h=>.inl h
end
section
variable{S S':Nat->Prop}{H:Hp}{nx:Nat}{iv iv':Iv}{B:Nat}{w w' w2:World}{ρ:Nat->Sx.dc}{v:Value}{M:List (List Rat)}
end
def fI{α:Type}:List (List α)->Nat
 |[]=>0
 |r::_=>r.length
theorem cT.Gb{w:World}{S:Nat->Prop}{v:Value}{xs:List (Int×Int)}(h:oJ w S v xs):∃a c,v= .slice a xs.length c:=by
 obtain⟨a,c,h,_⟩:=dx.shape h;exact⟨a,c,h⟩
def f0:List Value:=[.bool false,.slice none 0 0,.bool false,.slice none 0 0]
structure aAP(w:World)(S:Nat->Prop)(n i:Nat)(css:List (List Value))(qs:List Rat):Prop where
 len:css.length=n
 four:∀cs∈css,cs.length=4
 one:∀cs∈css,∀u∈cs,u.oneCell'=true
 at_:∀(j:Nat) cs q,j<i->css[j]? =some cs->qs[j]? =some q->IC w S cs q
section
variable{S S':Nat->Prop}{H:Hp}{nx n i:Nat}{iv iv':Iv}{B:Nat}{w w1 w' w2:World}{ρ:Nat->Sx.dc}{css:List (List Value)}{qs:List Rat}
end
def Gc(x:Int×Int):Rat:=ratio x.1 x.2
structure aAI(w:World)(S:Nat->Prop)(B:Nat)(iv:Iv)(rv:List Value)(n:Nat)(M:List (List Rat)):Prop where
 len:rv.length=M.length
 row:∀(i:Nat) v qs,rv[i]? =some v->M[i]? =some qs->Is w (fun g=>Cv S B iv g∧¬ ∃u∈rv,u.ownBlock=some g) v n qs
 CP:∀(i j:Nat) a b g,rv[i]? =some a->rv[j]? =some b->a.ownBlock=some g->b.ownBlock=some g->i=j
 new:∀v∈rv,∀g,v.ownBlock=some g->Cv (fun _=>False) B iv g
theorem fa(B:Nat):∀g,(fun _:Nat=>False) g->g<B:=fun _ h=>h.elim
theorem Aq{S:Nat->Prop}{B:Nat}{iv:Iv}{g:Nat}(h:Cv (fun _=>False) B iv g):Cv S B iv g:=h.elim (fun h=>h.elim) .inr
section
variable{S S':Nat->Prop}{H:Hp}{nx n i:Nat}{iv iv':Iv}{B:Nat}{w w1 w' w2:World}{ρ:Nat->Sx.dc}{rv:List Value}{M:List (List Rat)}
structure aAQ(w:World)(S:Nat->Prop)(B:Nat)(iv:Iv)(vm:Value)(n:Nat)(M:List (List Rat)):Prop where
 ex:∃rv,JN w (fun g=>Cv S B iv g∧¬Mb vm rv g) vm rv n M∧∀g,Mb vm rv g->Cv (fun _=>False) B iv g
end
def cY(w:World)(S:Nat->Prop)(v:Value)(ps:List Nat):Prop:=iS w S 1 v (ps.map fun c:Nat=>.int .i64 (c:Int)) ps.length
theorem cY.cD{S:Nat->Prop}{w w2:World}{v:Value}{ps:List Nat}(h:cY w S v ps)(hk:∀g,S g->w2.heap[g]? =w.heap[g]?):cY w2 S v ps:=iS.cD h hk
theorem cY.cG{S S':Nat->Prop}{w:World}{v:Value}{ps:List Nat}(h:cY w S v ps)(hk:∀g,S g->S' g):cY w S' v ps:=iS.cG h hk
section
variable{S S':Nat->Prop}{H:Hp}{nx:Nat}{iv iv':Iv}{B:Nat}{w w' w2:World}{ρ:Nat->Sx.dc}{v:Value}{ps:List Nat}
theorem cY.rel(h:cY w (Cv S B iv) v ps)(r:Rel H nx iv B w ρ w')(hS:∀g,S g->g<B):cY w' (Cv S B iv) v ps:=cY.cD h fun _ hg=>Rel.same r hS hg
theorem cY.cB(h:cY w (Cv S B iv) v ps)(r:Rel H nx iv B w ρ w')(hS:∀g,S g->g<B)(he:Ext w' w2)(hm:∀p,p∈iv->p∈iv'):cY w2 (Cv S B iv') v ps:=
 cY.cG (cY.cD (cY.rel h r hS) fun g hg=>he.block g (Rel.old r hS g hg)) fun _ hg=>hg.mono hm
theorem cY.cw(h:cY w2 (Nw (fun _=>False) w' w2) v ps)(hB:B<=w'.heap.size)(hm:(w'.heap.size,w2.heap.size)∈iv):cY w2 (Cv S B iv) v ps:=cY.cG h fun _ hg=>hg.cw hB hm
end
section
variable{S S':Nat->Prop}{H:Hp}{nx n:Nat}{iv iv':Iv}{B:Nat}{w w' w2:World}{ρ:Nat->Sx.dc}{v:Value}{qs:List Rat}
end
def ff(A:List (List Rat))(pv:List Nat)(cols c i:Nat):List Rat:=(List.range i).foldl (fun x i=>x.set (pv.getD i 0) (-(di A i c))) ((List.replicate cols 0).set c 1)
def db(A:List (List Rat))(pv:List Nat)(cols c:Nat):List (List Rat):=((List.range c).filter fun c=>decide (c∉pv)).map fun c=>ff A pv cols c pv.length
theorem ga(A:List (List Rat))(pv:List Nat)(cols c i:Nat):ff A pv cols c (i+1)=(ff A pv cols c i).set (pv.getD i 0) (-(di A i c)):=by
 rw[ff,bH,List.foldl_append];rfl
theorem yR(A:List (List Rat))(pv:List Nat)(cols c i:Nat):(ff A pv cols c i).length=cols:=by
 induction i with
 |zero=>simp[ff]
 |succ i ih=>rw[ga,bV,ih]
theorem uE{A:List (List Rat)}{pv:List Nat}{cols c:Nat}(h:c∈pv):db A pv cols (c+1)=db A pv cols c:=by
 rw[db,bH,List.filter_append];simp[h,db]
theorem ry{A:List (List Rat)}{pv:List Nat}{cols c:Nat}(h:c∉pv):db A pv cols (c+1)=db A pv cols c++[ff A pv cols c pv.length]:=by
 rw[db,bH,List.filter_append];simp[h,db]
abbrev gM(M:List (List (Int×Int))):List (List Rat):=M.map fun r=>r.map Gc
def ph(A:List (List Rat))(pv:List Nat)(cols i:Nat):List Rat:=(List.range i).foldl (fun x i=>x.set (pv.getD i 0) (di A i cols)) (List.replicate cols 0)
theorem Bq(A:List (List Rat))(pv:List Nat)(cols i:Nat):ph A pv cols (i+1)=(ph A pv cols i).set (pv.getD i 0) (di A i cols):=by
 rw[ph,bH,List.foldl_append];rfl
structure aAJ(w:World)(B:Nat)(iv:Iv)(rv:List Value)(v:Value)(n:Nat)(qs:List Rat):Prop where
 row:Is w (fun g=>(Cv (fun _=>False) B iv g∧¬ ∃u∈rv,u.ownBlock=some g)∧v.ownBlock≠some g) v n qs
 yr:∀g,v.ownBlock=some g->Cv (fun _=>False) B iv g
section
variable{H:Hp}{nx n:Nat}{iv iv':Iv}{B:Nat}{w w' w2:World}{ρ:Nat->Sx.dc}{v:Value}{qs:List Rat}{rv:List Value}
end
def gU(w:World)(S:Nat->Prop)(cs:List Value)(q:Rat):Prop:=∃b a n c b2 a2 n2 c2,cs=[.bool b,.slice a n c,.bool b2,.slice a2 n2 c2]∧cR w S (.agg #[.bool b,.slice a n c,.bool b2,.slice a2 n2 c2]) q
abbrev cP:=dx gU
abbrev cI:=cT cP
section
variable{S S':Nat->Prop}{H:Hp}{nx:Nat}{iv iv':Iv}{B:Nat}{w w' w2:World}{ρ:Nat->Sx.dc}{v:Value}{qs:List Rat}{cs:List Value}{q:Rat}
theorem gU.cD(h:gU w S cs q)(hk:∀g,S g->w2.heap[g]? =w.heap[g]?):gU w2 S cs q:=by
 obtain⟨b,a,n,c,b2,a2,n2,c2,h1,h2⟩:=h;exact⟨b,a,n,c,b2,a2,n2,c2,h1,h2.cD hk⟩
theorem gU.cG(h:gU w S cs q)(hk:∀g,S g->S' g):gU w S' cs q:=by
 obtain⟨b,a,n,c,b2,a2,n2,c2,h1,h2⟩:=h;exact⟨b,a,n,c,b2,a2,n2,c2,h1,h2.cG hk⟩
theorem cP.cD(h:cP w S v qs)(hk:∀g,S g->w2.heap[g]? =w.heap[g]?):cP w2 S v qs:=by
 obtain⟨css,h1,h2,h3,h4⟩:=h;exact⟨css,h1.cD hk,h2,h3,fun j cs x k1 k2=>(h4 j cs x k1 k2).cD hk⟩
theorem cP.cG(h:cP w S v qs)(hk:∀g,S g->S' g):cP w S' v qs:=by
 obtain⟨css,h1,h2,h3,h4⟩:=h;exact⟨css,h1.cG hk,h2,h3,fun j cs x k1 k2=>(h4 j cs x k1 k2).cG hk⟩
theorem cI.cD{M:List (List Rat)}(h:cI w S v M)(hk:∀g,S g->w2.heap[g]? =w.heap[g]?):cI w2 S v M:=by
 obtain⟨rv,h1,h2,h3⟩:=h;exact⟨rv,h1.cD hk,h2,fun i u x k1 k2=>cP.cD (h3 i u x k1 k2) hk⟩
theorem cI.cG{M:List (List Rat)}(h:cI w S v M)(hk:∀g,S g->S' g):cI w S' v M:=by
 obtain⟨rv,h1,h2,h3⟩:=h;exact⟨rv,h1.cG hk,h2,fun i u x k1 k2=>cP.cG (h3 i u x k1 k2) hk⟩
end
section
variable{S S':Nat->Prop}{H:Hp}{nx:Nat}{iv iv':Iv}{B:Nat}{w w' w2:World}{ρ:Nat->Sx.dc}{v:Value}{qs:List Rat}
theorem cP.rel(h:cP w (Cv S B iv) v qs)(r:Rel H nx iv B w ρ w')(hS:∀g,S g->g<B):cP w' (Cv S B iv) v qs:=cP.cD h fun _ hg=>Rel.same r hS hg
theorem cP.cB(h:cP w (Cv S B iv) v qs)(r:Rel H nx iv B w ρ w')(hS:∀g,S g->g<B)(he:Ext w' w2)(hm:∀p,p∈iv->p∈iv'):cP w2 (Cv S B iv') v qs:=
 cP.cG (cP.cD (cP.rel h r hS) fun g hg=>he.block g (Rel.old r hS g hg)) fun _ hg=>hg.mono hm
theorem cP.cw(h:cP w2 (Nw (fun _=>False) w' w2) v qs)(hB:B<=w'.heap.size)(hm:(w'.heap.size,w2.heap.size)∈iv):cP w2 (Cv S B iv) v qs:=cP.cG h fun _ hg=>hg.cw hB hm
theorem cP.out{w0 w1:World}(h:cP w1 (Cv S w0.heap.size iv) v qs)(r:Rel H nx iv w0.heap.size w1 ρ w')(hS:Old S w0):cP w' (Nw S w0 w') v qs:=
 cP.cG (cP.rel h r hS) fun _ hg=>Cv.nw hg r
end
section
variable{S S':Nat->Prop}{H:Hp}{nx:Nat}{iv iv':Iv}{B:Nat}{w w' w2:World}{ρ:Nat->Sx.dc}{v:Value}{M:List (List Rat)}
theorem cI.rel(h:cI w (Cv S B iv) v M)(r:Rel H nx iv B w ρ w')(hS:∀g,S g->g<B):cI w' (Cv S B iv) v M:=cI.cD h fun _ hg=>Rel.same r hS hg
theorem cI.cB(h:cI w (Cv S B iv) v M)(r:Rel H nx iv B w ρ w')(hS:∀g,S g->g<B)(he:Ext w' w2)(hm:∀p,p∈iv->p∈iv'):cI w2 (Cv S B iv') v M:=
 cI.cG (cI.cD (cI.rel h r hS) fun g hg=>he.block g (Rel.old r hS g hg)) fun _ hg=>hg.mono hm
theorem cI.cw(h:cI w2 (Nw (fun _=>False) w' w2) v M)(hB:B<=w'.heap.size)(hm:(w'.heap.size,w2.heap.size)∈iv):cI w2 (Cv S B iv) v M:=cI.cG h fun _ hg=>hg.cw hB hm
theorem cI.old(h:cI w2 (Nw (Cv S B iv) w' w2) v M)(hB:B<=w'.heap.size):cI w2 (Cv S B ((w'.heap.size,w2.heap.size)::iv)) v M:=cI.cG h fun _ hg=>Nw.cv hg hB
end
theorem Br(A:List (List Rat))(pv:List Nat)(cols c:Nat):(db A pv cols c).length<=c:=by
 unfold db;rw[aM];exact bB (List.length_filter_le _ _) (by simp)
end Go.Ex
namespace Go.Ex
def dH:List Int->Int
 |[]=>0
 |c::r=>c+65536*dH r
def up(k:Nat):Int:=65536^k
theorem AI(k:Nat):up (k+1)=65536*up k:=by rw[up,Int.pow_succ,Int.mul_comm];rfl
theorem Ft(k:Nat):0<up k:=Int.pow_pos (by decide)
theorem yS(a b:List Int):dH (a++b)=dH a+up a.length*dH b:=by
 induction a with
 |nil=>simp[dH,up]
 |cons c r ih=>rw[List.cons_append,dH,ih,dH,List.length_cons,AI,Int.mul_add,<-Int.mul_assoc];omega
theorem Cd(a:List Int):dH (a.map (- ·))= -dH a:=by
 induction a with
 |nil=>rfl
 |cons c r ih=>rw[List.map_cons,dH,ih,dH];omega
def Dg(l:List Nat):Prop:=∀d∈l,d<65536
def kJ(l:List Nat):Int:=dH (l.map fun d:Nat=>(d:Int))
theorem wo{l:List Nat}(h:Dg l):0<=kJ l∧kJ l<up l.length:=by
 induction l with
 |nil=>exact⟨Int.le_refl _,by decide⟩
 |cons d r ih=>
  have h1:=ih fun x hx=>h x (aD _ hx);have h2:=h d aJ;have e:kJ (d::r)=(d:Int)+65536*kJ r:=rfl;rw[e,List.length_cons,AI];omega
def dN:List Int->Int->List Nat×Int
 |[],k=>([],k)
 |c::r,k=>(((c+k) % 65536).toNat::(dN r ((c+k) / 65536)).1,(dN r ((c+k) / 65536)).2)
theorem jb:∀(cs:List Int) (k:Int),dH cs+k=kJ (dN cs k).1+up cs.length*(dN cs k).2∧Dg (dN cs k).1∧(dN cs k).1.length=cs.length
 |[],k=>⟨by simp[dH,dN,kJ,up],by simp[dN,Dg],rfl⟩
 |c::r,k=>by
  obtain⟨h1,h2,h3⟩:=jb r ((c+k) / 65536);have h4:0<=(c+k) % 65536:=Int.emod_nonneg _ (by decide);have h5:(c+k) % 65536<65536:=Int.emod_lt_of_pos _ (by decide);have h6:=Int.mul_ediv_add_emod (c+k) 65536;refine⟨?_,fun d hd=>?_,by simp[dN,h3]⟩
  ·have e:kJ (dN (c::r) k).1=(((c+k) % 65536).toNat:Int)+65536*kJ (dN r ((c+k) / 65536)).1:=rfl;have e2:(dN (c::r) k).2=(dN r ((c+k) / 65536)).2:=rfl;rw[e,e2,dH,List.length_cons,AI,Int.mul_assoc];omega
  ·have e:(dN (c::r) k).1=((c+k) % 65536).toNat::(dN r ((c+k) / 65536)).1:=rfl;rw[e]at hd;rcases List.mem_cons.1 hd with rfl|hd
   ·omega
   ·exact h2 d hd
theorem AJ(cs:List Int)(c k:Int):dN (cs++[c]) k=((dN cs k).1++[((c+(dN cs k).2) % 65536).toNat],(c+(dN cs k).2) / 65536):=by
 induction cs generalizing k with
 |nil=>rfl
 |cons d r ih=>simp only[List.cons_append,dN,ih]
theorem jM:∀(cs:List Int) (k:Int),(∀c∈cs,-1152921504606846976<=c∧c<=1152921504606846976)-> -1152921504606846976<=k->k<=1152921504606846976-> -1152921504606846976<=(dN cs k).2∧(dN cs k).2<=1152921504606846976
 |[],k,_,h1,h2=>⟨h1,h2⟩
 |c::r,k,h,h1,h2=>by
  have hc:=h c aJ;exact jM r _ (fun x hx=>h x (aD _ hx)) (by omega) (by omega)
def cd(n:Nat):List Nat:=if h:n=0 then []else n % 65536::cd (n / 65536)
termination_by n
decreasing_by omega
theorem jc:cd 0=[]:=by rw[cd];rfl
theorem nK{n:Nat}(h:0<n):cd n=n % 65536::cd (n / 65536):=by
 rw[cd,dif_neg (by omega)]
theorem jd(n:Nat):kJ (cd n)=n∧Dg (cd n):=by
 induction n using Nat.strongRecOn with
 |_ n ih=>
  rcases bE n with h|h
  ·subst h;rw[jc];exact⟨rfl,by simp[Dg]⟩
  ·rw[nK h];obtain⟨h1,h2⟩:=ih (n / 65536) (by omega);refine⟨?_,fun d hd=>?_⟩
   ·have e:kJ (n % 65536::cd (n / 65536))=((n % 65536:Nat):Int)+65536*kJ (cd (n / 65536)):=rfl;rw[e,h1];omega
   ·rcases List.mem_cons.1 hd with rfl|hd
    ·omega
    ·exact h2 d hd
theorem iW{n:Nat}:∀{k:Nat},n<65536^k->(cd n).length<=k
 |0,h=>by
  have:n=0:=by simp at h;exact h
  subst this;rw[jc];simp
 |k+1,h=>by
  rcases bE n with h0|h0
  ·subst h0;rw[jc];simp
  ·rw[nK h0,List.length_cons];have:=iW (n:=n / 65536) (k:=k) (by rw[Nat.pow_succ]at h;exact Nat.div_lt_of_lt_mul (by rw[bN];exact h));omega
def fy:List Nat->List Nat
 |[]=>[]
 |[a]=>[a]
 |a::b::r=>(a+65536*b)::fy r
theorem wu:∀(l:List Nat),Dg l->(val (fy l):Int)=kJ l∧Lm (fy l)∧(fy l).length=(l.length+1) / 2
 |[],_=>⟨rfl,by simp[fy,Lm],rfl⟩
 |[a],h=>by
  have:=h a (by simp);exact⟨by simp[fy,val,kJ,dH],fun x hx=>by simp[fy]at hx;omega,by simp[fy]⟩
 |a::b::r,h=>by
  obtain⟨h1,h2,h3⟩:=wu r fun x hx=>h x (aD _ (aD _ hx));have ha:=h a (by simp);have hb:=h b (by simp);refine⟨?_,fun x hx=>?_,?_⟩
  ·have e:kJ (a::b::r)=(a:Int)+65536*((b:Int)+65536*kJ r):=rfl;rw[e,<-h1,fy,val];simp only[Int.natCast_add,Int.natCast_mul]
   omega
  ·rw[fy]at hx;rcases List.mem_cons.1 hx with rfl|hx
   ·omega
   ·exact h2 x hx
  ·rw[fy,List.length_cons,h3];simp only[List.length_cons]
   omega
def pk(ds:List Nat)(k:Nat):List Nat:=(List.range k).map fun i=>ds.getD (2*i) 0+65536*ds.getD (2*i+1) 0
theorem vL(ds:List Nat)(k:Nat):pk ds (k+1)=pk ds k++[ds.getD (2*k) 0+65536*ds.getD (2*k+1) 0]:=by simp[pk,bH]
theorem s9(ds:List Nat)(k:Nat):(pk ds k).length=k:=by simp[pk]
theorem Fu:∀(ds:List Nat),pk ds ((ds.length+1) / 2)=fy ds
 |[]=>rfl
 |[a]=>by simp[pk,fy,bH]
 |a::b::r=>by
  have ih:=Fu r;have e:((a::b::r).length+1) / 2=(r.length+1) / 2+1:=by simp only[List.length_cons];omega
  rw[e,fy,<-ih,pk,List.range_succ_eq_map,List.map_cons,List.map_map,pk];congr 1
theorem Fv{ds:List Nat}(h:Dg ds)(k:Nat):Lm (pk ds k):=fun x hx=>by
 obtain⟨i,_,rfl⟩:=aU.1 hx;have key:∀j,ds.getD j 0<65536:=fun j=>by
  rw[List.getD]
  cases hj:ds[j]? with
  |none=>simp
  |some d=>simp;exact h d (aF hj)
 have h1:=key (2*i);have h2:=key (2*i+1);omega
end Go.Ex
namespace Go.Ex
open Go Go.Sx Go.Proofs
def da(w:World)(S:Nat->Prop)(v:Value)(cs:List Int):Prop:=iS w S 1 v (cs.map (Value.int .i64)) cs.length
theorem da.cD{S:Nat->Prop}{w w2:World}{v:Value}{cs:List Int}(h:da w S v cs)(hk:∀g,S g->w2.heap[g]? =w.heap[g]?):da w2 S v cs:=iS.cD h hk
theorem da.cG{S S':Nat->Prop}{w:World}{v:Value}{cs:List Int}(h:da w S v cs)(hk:∀g,S g->S' g):da w S' v cs:=iS.cG h hk
theorem da.load{S:Nat->Prop}{w:World}{a:Option Addr}{n c j:Nat}{cs:List Int}{x:Int}(h:da w S (.slice a n c) cs)(hx:cs[j]? =some x):∃ad,a=some ad∧S ad.block∧w.cell? (ad.add (j*1))=some (.int .i64 x):=by
 obtain⟨_,_,_,a',c',e,_,h4⟩:=h;injection e with e1 e2 e3;subst e1;obtain⟨ad,k1,k2,k3⟩:=h4 j (.int .i64 x) (by rw[aO,hx];rfl);exact⟨ad,k1,k2,by rw[aR];exact k3⟩
theorem da.shape{S:Nat->Prop}{w:World}{v:Value}{cs:List Int}(h:da w S v cs):∃a c,v= .slice a cs.length c∧cs.length<=c:=by
 obtain⟨_,_,_,a',c',e,h3,_⟩:=h;exact⟨a',c',e,h3⟩
def dq(ds:List Nat):List Int:=ds.map fun d:Nat=>(d:Int)
theorem eN(ds:List Nat):(dq ds).length=ds.length:=by simp[dq]
end Go.Ex
namespace Go.Sx
open Go Go.Ex Go.Proofs
theorem Rel.Ak{H:Hp}{nx:Nat}{iv:Iv}{B:Nat}{w w':World}{ρ:Nat->Sx.dc}(r:Rel H nx iv B w ρ w'){id t m sz:Nat}{cs:List Value}(h:dA H id=some (.vec t sz cs))(hm:cs.length=m*sz)(hs:0<sz):
  w'.ownsRow B t sz ((At.w id m).den ρ) m cs:=by
 rcases r.vec id t sz _ h with⟨hn,rfl⟩|⟨hn,spare,hb,hc,hcap⟩
 ·have hm0:m=0:=by
   rcases bE m with h|h
   ·exact h
   ·have:=Nat.mul_pos h hs;simp at hm;omega
  subst hm0;have:(At.w id 0).den ρ= .slice none 0 0:=by simp[At.den,hn]
  rw[this];exact World.ownsRow_nil _ _ _ _
 ·have hv:(At.w id m).den ρ= .slice (some ⟨(ρ id).g,0,none⟩) m (ρ id).cap:=by simp[At.den,hn]
  have h1:(cs++spare).length=cs.length+spare.length:=List.length_append;rw[hv];refine⟨hm,.inr ⟨(ρ id).g,(ρ id).cap,_,rfl,(r.low id _ h hn).1,hb,?_,hcap,by simpa using hc,?_⟩⟩
  ·have h2:m*sz<=(ρ id).cap*sz:=by omega
   exact Nat.le_of_mul_le_mul_right h2 hs
  ·rw[<-hm];simp
end Go.Sx
namespace Go.Ex
open Go Go.Sx Go.Proofs
theorem CI(n:Nat)(w:World)(hn:n<=9223372036854775807):dh PG N.rO #[.int .i64 n] w (dw w fun v w2=>da w2 (Nw (fun _=>False) w w2) v (dq (cd n))):=by
 refine uj (by simp) ?_;conv=>whnf
 refine⟨Nat×List Nat×World,fun z=>⟨[(0,.o (.v (.int .i64 z.1))),(3,.o (.w 0 z.2.1.length))],[(0,.vec T.int 1 ((dq z.2.1).map (Value.int .i64)))],1,[],z.2.2⟩,fun z=>z.1,
  fun z=>cN w.heap.size w z.2.2∧z.1<=n∧z.2.1.length<=n-z.1∧z.2.1++cd z.1=cd n,?_,?_⟩
 ·intro ρ w' r
  exact⟨(n,[],w'),⟨r.cC,aG _,by simp,by simp⟩,Sub.nil 3 T.int 1 rfl (by simp[cV,SV.sc,At.sc,cQ]) r fun ρ1 r1=>
   Sub.gen [] r1 ⟨rfl,trivial⟩ ⟨rfl,rfl,trivial⟩ (by simp[dG,cW.scopd]) (by simp[cV,SV.sc,At.sc]) (by rfl) (by simp)⟩
 rintro⟨k,ds,w1⟩ ⟨hw,hk,hl,hs⟩;dsimp only at hw hk hl hs ⊢;have hdl:=eN ds;conv=>whnf
 refine dE.mk (fun h=>?_) (fun h=>?_)
 ·have h:0<k:=by
   have:(k:Int)>0:=aI h;omega
  conv=>whnf
  refine⟨by decide,((k % 65536:Nat):Int),Gd k 65536,?_⟩;conv=>whnf
  refine .inl ?_;conv=>whnf
  refine⟨by simp[hdl],?_,by have h1:=congrArg List.length hs;rw[List.length_append]at h1;have h2:=iW (n:=n) (k:=4) (by omega);unfold maxLen;omega,?_⟩
  ·have h1:=congrArg List.length hs;rw[List.length_append]at h1;have h2:=iW (n:=n) (k:=4) (by omega);omega
  conv=>whnf
  refine⟨by decide,((k / 65536:Nat):Int),Hb (by omega),?_⟩;conv=>whnf
  intro ρ3 w3 r3;have hl5:(ds++[k % 65536]).length=ds.length+1:=by simp
  have hm5:(dq (ds++[k % 65536])).map (Value.int .i64)=(dq ds).map (Value.int .i64)++[.int .i64 ((k % 65536:Nat):Int)]:=by simp[dq]
  refine⟨(k / 65536,ds++[k % 65536],w3),⟨hw.tr r3.cC,by dsimp only;omega,by dsimp only;rw[hl5];omega,?_⟩,
   Sub.gen [(0,2)] r3 ⟨by rw[hm5];rfl,trivial⟩ ⟨rfl,by dsimp only;rw[hl5];rfl,trivial⟩ (by simp[dG,cW.scopd]) (by simp[cV,SV.sc,At.sc]) (by rfl) (fun lo hi h=>h),by dsimp only;omega⟩
  dsimp only
  rw[<-hs,nK h];simp
 ·have h:k=0:=by
   have:¬(k:Int)>0:=aH h;omega
  subst h;rw[jc,List.append_nil]at hs;subst hs;conv=>whnf
  intro ρe we re;refine⟨_,rfl,hw.tr re.cC,?_⟩;have:=re.gR (id:=0) (sz:=1) (m:=(cd n).length) rfl (by simp[hdl]) (by have h2:=iW (n:=n) (k:=4) (by omega);unfold maxLen;omega) (by decide) (by intro u hu;simp at hu;obtain⟨_,_,rfl⟩:=hu;rfl);unfold da;rw[hdl];exact this.cG fun g hg=>.inr hg
end Go.Ex
namespace Go.Ex
open Go Go.Sx Go.Proofs
theorem tP(n:Int):(n.tmod 65536<0->n % 65536=n.tmod 65536+65536)∧(¬n.tmod 65536<0->n % 65536=n.tmod 65536)∧ -65536<n.tmod 65536∧n.tmod 65536<65536:=by
 by_cases h:0<=n
 ·rw[Int.tmod_eq_emod_of_nonneg h];omega
 ·have h1:n.tmod 65536= -((-n) % 65536):=by
   have:n= -(-n):=by omega
   conv=>lhs;rw[this]
   rw[Int.neg_tmod,Int.tmod_eq_emod_of_nonneg (by omega)]
  rw[h1];omega
theorem zh(n:Int):(n-n % 65536).tdiv 65536=n / 65536:=by
 have h:n-n % 65536=65536*(n / 65536):=by omega
 rw[h,Int.mul_tdiv_cancel_left _ (by decide)]
theorem zi{S:Nat->Prop}{w:World}{v:Value}{cs:List Int}(hS:Old S w)(h:da w S v cs)(hb:∀c∈cs,-1152921504606846976<=c∧c<=1152921504606846976)(hl:cs.length<=1000000000):
  dh PG N.pH #[v] w (dw w fun v' w2=>∃o,v'= .tuple #[o,.int .i64 (dN cs 0).2]∧w2.ownsRow w.heap.size T.int 1 o cs.length ((dq (dN cs 0).1).map (Value.int .i64))):=by
 obtain⟨a,c,rfl,hc⟩:=h.shape;refine tG (by simp) ?_;conv=>whnf
 refine⟨Nat×World,fun z=>⟨[(0,.o (.v (.slice a cs.length c))),(4,.o (.w 0 z.1)),(5,.o (.v (.int .i64 (dN (cs.take z.1) 0).2))),(6,.o (.v (.int .i64 z.1)))],[(0,.vec T.int 1 ((dq (dN (cs.take z.1) 0).1).map (Value.int .i64)))],1,[],z.2⟩,fun z=>cs.length-z.1,
  fun z=>cN w.heap.size w z.2∧z.1<=cs.length,?_,?_⟩
 ·intro ρ w' r
  exact⟨(0,w'),⟨r.cC,by simp⟩,Sub.nil 4 T.int 1 rfl (by simp[cV,SV.sc,At.sc,cQ]) r fun ρ1 r1=>
   Sub.gen [] r1 ⟨rfl,trivial⟩ ⟨rfl,rfl,rfl,rfl,trivial⟩ (by simp[dG,cW.scopd]) (by simp[cV,SV.sc,At.sc]) (by rfl) (by simp)⟩
 rintro⟨i,w1⟩ ⟨hw,hi⟩;dsimp only at hw hi ⊢;obtain⟨-,hdg,hlen⟩:=jb (cs.take i) 0;have hln:((dq (dN (cs.take i) 0).1).map (Value.int .i64)).length=i:=by rw[aM,eN,hlen,aX];omega
 obtain⟨hk1,hk2⟩:=jM (cs.take i) 0 (fun c hc=>hb c (List.mem_of_mem_take hc)) (by decide) (by decide);have hR:da w1 S (.slice a cs.length c) cs:=da.cD h fun g hg=>hw.block g (hS g hg);conv=>whnf
 refine dE.mk (fun h=>?_) (fun h=>?_)
 ·have h:i<cs.length:=by simpa using h
  obtain⟨x,hx⟩:∃x,cs[i]? =some x:=⟨_,aB h⟩
  obtain⟨hx1,hx2⟩:=hb x (aF hx);obtain⟨ad,rfl,q1,q2⟩:=hR.load hx;have htk:cs.take (i+1)=cs.take i++[x]:=by rw[List.take_add_one,hx];rfl
  have hsn:=AJ (cs.take i) x 0;rw[<-htk]at hsn;generalize (dN (cs.take i) 0).1=ds at*
  generalize (dN (cs.take i) 0).2=k at*
  obtain⟨t1,t2,t3,t4⟩:=tP (x+k);have hem1:=Int.emod_nonneg (x+k) (show (65536:Int)≠0 by decide);have hem2:=Int.emod_lt_of_pos (x+k) (show (0:Int)<65536 by decide);conv=>whnf
  refine⟨ad,rfl,⟨by omega,by omega⟩,?_⟩;conv=>whnf
  refine⟨.int .i64 x,fun ρ w' r=>?_,?_⟩
  ·rw[aC,bw (w:=w1) (w2:=w') (by rw[cL];exact Rel.same (S:=S) r hS (.inl q1))];exact q2
  conv=>whnf
  refine⟨x+k,by rw[wrap64]<;>omega,?_⟩;conv=>whnf
  refine⟨by decide,(x+k).tmod 65536,rfl,?_⟩;conv=>whnf
  refine dE.mk (fun hneg=>?_) (fun hneg=>?_)
  ·have hneg:=t1 (aI hneg);conv=>whnf
   refine⟨(x+k) % 65536,by rw[hneg,wrap64]<;>omega,?_⟩;conv=>whnf
   refine⟨x+k-(x+k) % 65536,by rw[wrap64]<;>omega,?_⟩;conv=>whnf
   refine⟨by decide,(x+k) / 65536,by rw[zh,wrap64]<;>omega,?_⟩;conv=>whnf
   refine .inl ?_;conv=>whnf
   refine⟨by rw[hln,aR],by omega,by unfold maxLen;omega,?_⟩;conv=>whnf
   refine⟨((i+1:Nat):Int),by rw[wrap64]<;>omega,?_⟩;conv=>whnf
   intro ρ3 w3 r3;have hm5:(dq (dN (cs.take (i+1)) 0).1).map (Value.int .i64)=(dq ds).map (Value.int .i64)++[.int .i64 ((x+k) % 65536)]:=by
    rw[hsn];simp[dq,Int.toNat_of_nonneg hem1]
   have hk5:(dN (cs.take (i+1)) 0).2=(x+k) / 65536:=by rw[hsn]
   exact⟨(i+1,w3),⟨hw.tr r3.cC,by dsimp only;omega⟩,Sub.gen [(0,2)] r3 ⟨by dsimp only;rw[hm5];rfl,trivial⟩ ⟨rfl,rfl,by dsimp only;rw[hk5];rfl,rfl,trivial⟩ (by simp[dG,cW.scopd]) (by simp[cV,SV.sc,At.sc]) (by rfl) (fun lo hi h=>h),by dsimp only;omega⟩
  ·have hneg:=t2 (aH hneg);rw[<-hneg];conv=>whnf
   refine⟨x+k-(x+k) % 65536,by rw[wrap64]<;>omega,?_⟩;conv=>whnf
   refine⟨by decide,(x+k) / 65536,by rw[zh,wrap64]<;>omega,?_⟩;conv=>whnf
   refine .inl ?_;conv=>whnf
   refine⟨by rw[hln,aR],by omega,by unfold maxLen;omega,?_⟩;conv=>whnf
   refine⟨((i+1:Nat):Int),by rw[wrap64]<;>omega,?_⟩;conv=>whnf
   intro ρ3 w3 r3;have hm5:(dq (dN (cs.take (i+1)) 0).1).map (Value.int .i64)=(dq ds).map (Value.int .i64)++[.int .i64 ((x+k) % 65536)]:=by
    rw[hsn];simp[dq,Int.toNat_of_nonneg hem1]
   have hk5:(dN (cs.take (i+1)) 0).2=(x+k) / 65536:=by rw[hsn]
   exact⟨(i+1,w3),⟨hw.tr r3.cC,by dsimp only;omega⟩,Sub.gen [(0,2)] r3 ⟨by dsimp only;rw[hm5];rfl,trivial⟩ ⟨rfl,rfl,by dsimp only;rw[hk5];rfl,rfl,trivial⟩ (by simp[dG,cW.scopd]) (by simp[cV,SV.sc,At.sc]) (by rfl) (fun lo hi h=>h),by dsimp only;omega⟩
 ·have h:i=cs.length:=by
   have:¬i<cs.length:=by simpa using h
   omega
  subst h;rw[ai]at hln ⊢;conv=>whnf
  intro ρe we re;exact⟨_,rfl,hw.tr re.cC,_,rfl,re.Ak (id:=0) rfl (by rw[hln,aR]) (by decide)⟩
end Go.Ex
namespace Go.Sx
open Go Go.Ex Go.Proofs
theorem Rel.Ge{H:Hp}{nx:Nat}{iv:Iv}{B:Nat}{w w':World}{ρ:Nat->Sx.dc}(r:Rel H nx iv B w ρ w'){id t m:Nat}{ls:List Nat}(h:dA H id=some (.vec t 1 (U ls)))(hm:m<=ls.length)(hlm:Lm ls)(hle:ls.length<=9223372036854775807):
  dF w' (fun g=>B<=g∧g<w'.heap.size) ((At.w id m).den ρ) (ls.take m):=by
 have hlt:(ls.take m).length=m:=by rw[aX];omega
 rcases r.vec id t 1 _ h with⟨hn,hu⟩|⟨hn,spare,hb,hc,hcap⟩
 ·have hl:ls=[]:=by cases ls with
   |nil=>rfl
   |cons a b=>simp[U]at hu
  subst hl;simp at hm;subst hm;have:(At.w id 0).den ρ= .slice none 0 0:=by simp[At.den,hn]
  rw[this];exact dF.nil _ _
 ·refine⟨hlm.take m,by rw[hlt];omega,some ⟨(ρ id).g,0,none⟩,(ρ id).cap,by rw[hlt];simp[At.den,hn],?_,fun j x hx=>⟨_,rfl,r.low id _ h hn,?_⟩⟩
  ·have h1:(U ls++spare).length=ls.length+spare.length:=by rw[List.length_append,fS]
   rw[hlt];omega
  ·rw[List.getElem?_take]at hx;split at hx
   ·rw[dM,cell_of hb,aS,aL (by rw[fS];exact(aE.1 hx).1)];exact rh hx
   ·cases hx
end Go.Sx
namespace Go.Ex
open Go Go.Sx Go.Proofs
theorem DM{ls:List Nat}{n:Nat}(_hn:n<ls.length)(h0:ls[n]? =some 0):dX (ls.take (n+1))=dX (ls.take n):=by
 rw[List.take_add_one,h0];exact jY _
theorem DN{ls:List Nat}{n x:Nat}(h0:ls[n]? =some x)(hx:x≠0):dX (ls.take (n+1))=ls.take (n+1):=by
 rw[List.take_add_one,h0];exact lk _ hx
theorem CJ{S:Nat->Prop}{w:World}{v:Value}{ds:List Nat}(hS:Old S w)(h:da w S v (dq ds))(hd:Dg ds)(hl:ds.length<=1000000000):
  dh PG N.rN #[v] w (dw w fun v' w2=>∃lv,v'= .agg #[.bool false,lv]∧dF w2 (Nw (fun _=>False) w w2) lv (dX (fy ds))):=by
 obtain⟨a,c,rfl,hc⟩:=h.shape;rw[eN]at hc h ⊢;refine ui (by simp) ?_;conv=>whnf
 refine⟨Nat×World,fun z=>match z.1 with
   |0=>⟨[(0,.o (.v (.slice a ds.length c))),(2,.o (.p 0 0)),(3,.o (.p 1 0)),(4,.o (.v (.int .i64 0)))],[(1,.box T.Int [.v (.bool false),.v (.slice none 0 0)]),(0,.box T.Int [.v (.bool false),.v (.slice none 0 0)])],2,[],z.2⟩
   |k+1=>⟨[(0,.o (.v (.slice a ds.length c))),(2,.o (.p 0 0)),(3,.o (.p 1 0)),(4,.o (.v (.int .i64 ((2*(k+1):Nat):Int))))],[(2,.vec T.uint32 1 (U (pk ds (k+1)))),(1,.box T.Int [.v (.bool false),.w 2 (k+1)]),(0,.box T.Int [.v (.bool false),.v (.slice none 0 0)])],3,[],z.2⟩,
  fun z=>ds.length-z.1,fun z=>cN w.heap.size w z.2∧2*z.1<=ds.length+1,?_,?_⟩
 ·intro ρ w' r;exact⟨(0,w'),⟨r.cC,by simp⟩,Sub.gen [] r ⟨rfl,rfl,trivial⟩ ⟨rfl,rfl,rfl,rfl,trivial⟩ (by simp[dG,cW.scopd,At.sc]) (by simp[cV,SV.sc,At.sc]) (by rfl) (by simp)⟩
 rintro⟨k,w1⟩ ⟨hw,hi⟩;dsimp only at hw hi;have hR:da w1 S (.slice a ds.length c) (dq ds):=da.cD h fun g hg=>hw.block g (hS g hg)
 cases k with
 |zero=>
  conv=>whnf
  refine dE.mk (fun h1=>?_) (fun h1=>?_)
  ·have h1:0<ds.length:=by
    have:=aI h1;omega
   obtain⟨d0,hd0⟩:∃x,ds[0]? =some x:=⟨_,aB h1⟩
   have hd0b:=hd d0 (aF hd0);have hg0:ds.getD (2*0) 0=d0:=by show ds.getD 0 0=d0;rw[List.getD,hd0];rfl
   obtain⟨ad,rfl,q1,q2⟩:=hR.load (j:=0) (x:=(d0:Int)) (by rw[dq,aO,hd0];rfl);conv=>whnf
   refine⟨ad,rfl,⟨by omega,by omega⟩,?_⟩;conv=>whnf
   refine⟨.int .i64 (d0:Int),fun ρ w' r=>?_,?_⟩
   ·show w'.cell? (ad.add (0*1))=_;rw[bw (w:=w1) (w2:=w') (by rw[cL];exact Rel.same (S:=S) r hS (.inl q1))];exact q2
   conv=>whnf
   refine⟨((0+1:Nat):Int),by rw[wrap64]<;>omega,?_⟩;conv=>whnf
   refine dE.mk (fun h2=>?_) (fun h2=>?_)
   ·have h2:0+1<ds.length:=by
     have:=aI h2;omega
    obtain⟨d1,hd1⟩:∃x,ds[0+1]? =some x:=⟨_,aB h2⟩
    have hd1b:=hd d1 (aF hd1);have hg1:ds.getD (2*0+1) 0=d1:=by show ds.getD (0+1) 0=d1;rw[List.getD,hd1];rfl
    obtain⟨_,had,q3,q4⟩:=hR.load (j:=0+1) (x:=(d1:Int)) (by rw[dq,aO,hd1];rfl);injection had with had;subst had;conv=>whnf
    refine⟨((0+1:Nat):Int),by rw[wrap64]<;>omega,?_⟩;conv=>whnf
    refine⟨ad,rfl,⟨by omega,by omega⟩,?_⟩;conv=>whnf
    refine⟨.int .i64 (d1:Int),fun ρ w' r=>?_,?_⟩
    ·show w'.cell? (ad.add ((0+1)*1))=_;rw[bw (w:=w1) (w2:=w') (by rw[cL];exact Rel.same (S:=S) r hS (.inl q3))];exact q4
    conv=>whnf
    refine⟨((65536*d1:Nat):Int),by rw[wrap64]<;>omega,?_⟩;conv=>whnf
    refine⟨((d0+65536*d1:Nat):Int),by rw[wrap64]<;>omega,?_⟩;have hpk:=vL ds 0;rw[hg0,hg1]at hpk;generalize d0+65536*d1=dd at*
    have hdd:dd<4294967296:=Fv hd (0+1) dd (by rw[hpk];simp);conv=>whnf
    refine⟨(dd:Int),by rw[vF]<;>omega,?_⟩;conv=>whnf
    refine .inl ?_;conv=>whnf
    refine⟨by omega,by unfold maxLen;omega,?_⟩;conv=>whnf
    refine⟨((2*(0+1):Nat):Int),by rw[wrap64]<;>omega,?_⟩;conv=>whnf
    intro ρ3 w3 r3;have hU:U (pk ds (0+1))=U (pk ds 0)++[.int .u32 (dd:Int)]:=by rw[hpk];simp[U]
    exact⟨(0+1,w3),⟨hw.tr r3.cC,by dsimp only;omega⟩,Sub.gen [(2,3)] r3 ⟨by dsimp only;rw[hU];rfl,rfl,rfl,trivial⟩ ⟨rfl,rfl,rfl,rfl,trivial⟩ (by simp[dG,cW.scopd,At.sc]) (by simp[cV,SV.sc,At.sc]) (by rfl) (fun lo hi h=>h),by dsimp only;omega⟩
   ·have h2:0+1=ds.length:=by
     have:=aH h2;omega
    have hg1:ds.getD (2*0+1) 0=0:=by show ds.getD (0+1) 0=0;rw[List.getD,List.getElem?_eq_none (by omega)];rfl
    have hpk:=vL ds 0;rw[hg0,hg1]at hpk;obtain⟨dd,hdde⟩:∃dd,dd=d0:=⟨_,rfl⟩
    rw[<-hdde]at hpk ⊢;have hdd:dd<4294967296:=by omega
    rw[show dd+65536*0=dd by omega]at hpk;conv=>whnf
    refine⟨(dd:Int),by rw[vF]<;>omega,?_⟩;conv=>whnf
    refine .inl ?_;conv=>whnf
    refine⟨by omega,by unfold maxLen;omega,?_⟩;conv=>whnf
    refine⟨((2*(0+1):Nat):Int),by rw[wrap64]<;>omega,?_⟩;conv=>whnf
    intro ρ3 w3 r3;have hU:U (pk ds (0+1))=U (pk ds 0)++[.int .u32 (dd:Int)]:=by rw[hpk];simp[U]
    exact⟨(0+1,w3),⟨hw.tr r3.cC,by dsimp only;omega⟩,Sub.gen [(2,3)] r3 ⟨by dsimp only;rw[hU];rfl,rfl,rfl,trivial⟩ ⟨rfl,rfl,rfl,rfl,trivial⟩ (by simp[dG,cW.scopd,At.sc]) (by simp[cV,SV.sc,At.sc]) (by rfl) (fun lo hi h=>h),by dsimp only;omega⟩
  ·have h1:ds=[]:=by
    have:=aH h1;exact List.eq_nil_of_length_eq_zero (by omega)
   subst h1;conv=>whnf
   refine⟨World,fun z=>⟨[(2,.o (.p 0 0)),(3,.o (.p 1 0)),(6,.o (.v (.int .i64 0)))],[(1,.box T.Int [.v (.bool false),.v (.slice none 0 0)]),(0,.box T.Int [.v (.bool false),.v (.slice none 0 0)])],2,[],z⟩,fun _=>0,fun z=>cN w.heap.size w z,?_,?_⟩
   ·intro ρ w' r;exact⟨w',hw.tr r.cC,Sub.gen [] r ⟨rfl,rfl,trivial⟩ ⟨rfl,rfl,rfl,trivial⟩ (by simp[dG,cW.scopd,At.sc]) (by simp[cV,SV.sc,At.sc]) (by rfl) (by simp)⟩
   intro w2 hw;dsimp only at hw ⊢;conv=>whnf
   refine⟨⟨by decide,by decide,by decide⟩,none,0,0,by rfl,by rfl,by rfl,?_⟩;conv=>whnf
   intro ρe we re;exact⟨_,rfl,hw.tr re.cC,_,rfl,dF.nil _ _⟩
 |succ k=>
  conv=>whnf
  refine dE.mk (fun h1=>?_) (fun h1=>?_)
  ·have h1:(2*(k+1))<ds.length:=by
    have:=aI h1;omega
   obtain⟨d0,hd0⟩:∃x,ds[(2*(k+1))]? =some x:=⟨_,aB h1⟩
   have hd0b:=hd d0 (aF hd0);have hg0:ds.getD (2*(k+1)) 0=d0:=by show ds.getD (2*(k+1)) 0=d0;rw[List.getD,hd0];rfl
   obtain⟨ad,rfl,q1,q2⟩:=hR.load (j:=(2*(k+1))) (x:=(d0:Int)) (by rw[dq,aO,hd0];rfl);conv=>whnf
   refine⟨ad,rfl,⟨by omega,by omega⟩,?_⟩;conv=>whnf
   refine⟨.int .i64 (d0:Int),fun ρ w' r=>?_,?_⟩
   ·show w'.cell? (ad.add ((2*(k+1))*1))=_;rw[bw (w:=w1) (w2:=w') (by rw[cL];exact Rel.same (S:=S) r hS (.inl q1))];exact q2
   conv=>whnf
   refine⟨(((2*(k+1))+1:Nat):Int),by rw[wrap64]<;>omega,?_⟩;conv=>whnf
   refine dE.mk (fun h2=>?_) (fun h2=>?_)
   ·have h2:(2*(k+1))+1<ds.length:=by
     have:=aI h2;omega
    obtain⟨d1,hd1⟩:∃x,ds[(2*(k+1))+1]? =some x:=⟨_,aB h2⟩
    have hd1b:=hd d1 (aF hd1);have hg1:ds.getD (2*(k+1)+1) 0=d1:=by show ds.getD ((2*(k+1))+1) 0=d1;rw[List.getD,hd1];rfl
    obtain⟨_,had,q3,q4⟩:=hR.load (j:=(2*(k+1))+1) (x:=(d1:Int)) (by rw[dq,aO,hd1];rfl);injection had with had;subst had;conv=>whnf
    refine⟨(((2*(k+1))+1:Nat):Int),by rw[wrap64]<;>omega,?_⟩;conv=>whnf
    refine⟨ad,rfl,⟨by omega,by omega⟩,?_⟩;conv=>whnf
    refine⟨.int .i64 (d1:Int),fun ρ w' r=>?_,?_⟩
    ·show w'.cell? (ad.add (((2*(k+1))+1)*1))=_;rw[bw (w:=w1) (w2:=w') (by rw[cL];exact Rel.same (S:=S) r hS (.inl q3))];exact q4
    conv=>whnf
    refine⟨((65536*d1:Nat):Int),by rw[wrap64]<;>omega,?_⟩;conv=>whnf
    refine⟨((d0+65536*d1:Nat):Int),by rw[wrap64]<;>omega,?_⟩;have hpk:=vL ds (k+1);rw[hg0,hg1]at hpk;generalize d0+65536*d1=dd at*
    have hdd:dd<4294967296:=Fv hd ((k+1)+1) dd (by rw[hpk];simp);conv=>whnf
    refine⟨(dd:Int),by rw[vF]<;>omega,?_⟩;conv=>whnf
    refine .inl ?_;conv=>whnf
    refine⟨by rw[fS,s9];omega,by omega,by unfold maxLen;omega,?_⟩;conv=>whnf
    refine⟨((2*((k+1)+1):Nat):Int),by rw[wrap64]<;>omega,?_⟩;conv=>whnf
    intro ρ3 w3 r3;have hU:U (pk ds ((k+1)+1))=U (pk ds (k+1))++[.int .u32 (dd:Int)]:=by rw[hpk];simp[U]
    exact⟨((k+1)+1,w3),⟨hw.tr r3.cC,by dsimp only;omega⟩,Sub.gen [(2,4)] r3 ⟨by dsimp only;rw[hU];rfl,rfl,rfl,trivial⟩ ⟨rfl,rfl,rfl,rfl,trivial⟩ (by simp[dG,cW.scopd,At.sc]) (by simp[cV,SV.sc,At.sc]) (by rfl) (fun lo hi h=>h),by dsimp only;omega⟩
   ·have h2:(2*(k+1))+1=ds.length:=by
     have:=aH h2;omega
    have hg1:ds.getD (2*(k+1)+1) 0=0:=by show ds.getD ((2*(k+1))+1) 0=0;rw[List.getD,List.getElem?_eq_none (by omega)];rfl
    have hpk:=vL ds (k+1);rw[hg0,hg1]at hpk;obtain⟨dd,hdde⟩:∃dd,dd=d0:=⟨_,rfl⟩
    rw[<-hdde]at hpk ⊢;have hdd:dd<4294967296:=by omega
    rw[show dd+65536*0=dd by omega]at hpk;conv=>whnf
    refine⟨(dd:Int),by rw[vF]<;>omega,?_⟩;conv=>whnf
    refine .inl ?_;conv=>whnf
    refine⟨by rw[fS,s9];omega,by omega,by unfold maxLen;omega,?_⟩;conv=>whnf
    refine⟨((2*((k+1)+1):Nat):Int),by rw[wrap64]<;>omega,?_⟩;conv=>whnf
    intro ρ3 w3 r3;have hU:U (pk ds ((k+1)+1))=U (pk ds (k+1))++[.int .u32 (dd:Int)]:=by rw[hpk];simp[U]
    exact⟨((k+1)+1,w3),⟨hw.tr r3.cC,by dsimp only;omega⟩,Sub.gen [(2,4)] r3 ⟨by dsimp only;rw[hU];rfl,rfl,rfl,trivial⟩ ⟨rfl,rfl,rfl,rfl,trivial⟩ (by simp[dG,cW.scopd,At.sc]) (by simp[cV,SV.sc,At.sc]) (by rfl) (fun lo hi h=>h),by dsimp only;omega⟩
  ·have h1:ds.length<=2*(k+1):=by
    have:=aH h1;omega
   have hk:k+1=(ds.length+1) / 2:=by omega
   have hpk:pk ds (k+1)=fy ds:=by rw[hk];exact Fu ds
   have hlen:=s9 ds (k+1);have hlm:=Fv hd (k+1);rw[<-hpk];obtain⟨ls,hls⟩:∃ls,ls=pk ds (k+1):=⟨_,rfl⟩
   rw[<-hls]at hlen hlm ⊢;conv=>whnf
   refine⟨by show(U (pk ds (k+1))).length=_;rw[<-hls,fS,hlen];simp,?_⟩;conv=>whnf
   refine⟨Nat×World,fun z=>⟨[(2,.o (.p 0 0)),(3,.o (.p 1 0)),(6,.o (.v (.int .i64 z.1)))],[(2,.vec T.uint32 1 (U ls)),(1,.box T.Int [.v (.bool false),.w 2 (k+1)]),(0,.box T.Int [.v (.bool false),.v (.slice none 0 0)])],3,[],z.2⟩,fun z=>z.1,
    fun z=>cN w.heap.size w z.2∧z.1<=k+1∧dX (ls.take z.1)=dX ls,?_,?_⟩
   ·intro ρ w' r;exact⟨(k+1,w'),⟨hw.tr r.cC,aG _,by dsimp only;rw[List.take_of_length_le (by omega)]⟩,Sub.gen [] r ⟨by dsimp only;rw[hls];rfl,rfl,rfl,trivial⟩ ⟨rfl,rfl,rfl,trivial⟩ (by simp[dG,cW.scopd,At.sc]) (by simp[cV,SV.sc,At.sc]) (by rfl) (by simp)⟩
   clear hR hw;rintro⟨n,w2⟩ ⟨hw,hn,htr⟩;dsimp only at hw hn htr ⊢
   cases n with
   |zero=>
    conv=>whnf
    refine⟨by rw[fS,hlen];simp,⟨by omega,by omega⟩,0,by rfl,?_⟩;conv=>whnf
    intro ρe we re;refine⟨_,rfl,hw.tr re.cC,_,rfl,?_⟩;have:=re.Ge (id:=2) (m:=0) rfl (aN _) hlm (by omega);rw[<-htr];exact this.cG fun g hg=>.inr hg
   |succ n=>
    obtain⟨x,hx⟩:∃x,ls[n]? =some x:=⟨_,aB (by omega)⟩
    conv=>whnf
    refine dE.mk (fun hp=>?_) (fun hp=>absurd (aH hp) (by omega));conv=>whnf
    refine⟨(n:Int),by rw[wrap64]<;>omega,?_⟩;conv=>whnf
    refine⟨by rw[fS,hlen];simp,⟨by omega,by omega⟩,?_⟩;conv=>whnf
    refine⟨.int .u32 (x:Int),by simpa using rh hx,?_⟩;conv=>whnf
    refine dE.mk (fun h0=>?_) (fun h0=>?_)
    ·have h0:x=0:=by have:=eq_of_beq h0;omega
     subst h0;conv=>whnf
     refine⟨(n:Int),by rw[wrap64]<;>omega,?_⟩;conv=>whnf
     intro ρ3 w3 r3;exact⟨(n,w3),⟨hw.tr r3.cC,by dsimp only;omega,by dsimp only;rw[<-htr,DM (by omega) hx]⟩,Sub.gen [] r3 ⟨rfl,rfl,rfl,trivial⟩ ⟨rfl,rfl,rfl,trivial⟩ (by simp[dG,cW.scopd,At.sc]) (by simp[cV,SV.sc,At.sc]) (by rfl) (by simp),by dsimp only;omega⟩
    ·have h0:x≠0:=fun e=>by rw[e]at h0;exact absurd h0 (by decide)
     conv=>whnf
     refine⟨by rw[fS,hlen];simp,⟨by omega,by omega⟩,n+1,by rfl,?_⟩;conv=>whnf
     intro ρe we re;refine⟨_,rfl,hw.tr re.cC,_,rfl,?_⟩;have:=re.Ge (id:=2) (m:=n+1) rfl (by omega) hlm (by omega);rw[<-htr,DN hx h0];exact this.cG fun g hg=>.inr hg
end Go.Ex
