/- Texts X22 to X32: lemmas, each with its conditions. -/
import Derived.Test.YtgkpbdkechfgmaaGreatP4
namespace Go.Ex
open Go Go.Sx Go.Proofs
variable{b b2:Bool}{x y:Int}{S S':Nat->Prop}{g q:Rat}{dv nv u v:Value}{w:World}
def iP(w:World)(S:Nat->Prop)(v:Value)(a b:Int):Prop:=∃b1 l1 b2 l2,v= .agg #[.bool b1,l1,.bool b2,l2]∧jn w S (.agg #[.bool b1,l1]) a∧jn w S (.agg #[.bool b2,l2]) b
theorem iP.cJ{w2:World}{a b:Int}(h:iP w S v a b)(hk:∀g,S g->w2.heap[g]? =w.heap[g]?):iP w2 S v a b:=by
 obtain⟨b1,l1,b2,l2,h1,h2,h3⟩:=h;exact⟨b1,l1,b2,l2,h1,h2.cJ hk,h3.cJ hk⟩
theorem iP.cL{a b:Int}(h:iP w S v a b)(hk:∀g,S g->S' g):iP w S' v a b:=by
 obtain⟨b1,l1,b2,l2,h1,h2,h3⟩:=h;exact⟨b1,l1,b2,l2,h1,h2.cL hk,h3.cL hk⟩
theorem iP.shape(h:iP w S v x y):∃b a n c b2 a2 n2 c2,v= .agg #[.bool b,.slice a n c,.bool b2,.slice a2 n2 c2]:=by
 obtain⟨b1,l1,b2,l2,h1,h2,h3⟩:=h;obtain⟨_,a,n,c,h4⟩:=h2.shape;obtain⟨_,a2,n2,c2,h5⟩:=h3.shape;simp at h4 h5;obtain⟨rfl,rfl⟩:=h4;obtain⟨rfl,rfl⟩:=h5;exact⟨_,a,n,c,_,a2,n2,c2,h1⟩
theorem iP.num(h:iP w S (.agg #[.bool b,nv,.bool b2,dv]) x y):jn w S (.agg #[.bool b,nv]) x:=by
 obtain⟨b1,l1,b2,l2,h1,h2,h3⟩:=h;simp at h1;obtain⟨rfl,rfl,rfl,rfl⟩:=h1;exact h2
theorem iP.den(h:iP w S (.agg #[.bool b,nv,.bool b2,dv]) x y):jn w S (.agg #[.bool b2,dv]) y:=by
 obtain⟨b1,l1,b2,l2,h1,h2,h3⟩:=h;simp at h1;obtain⟨rfl,rfl,rfl,rfl⟩:=h1;exact h3
section
variable{S S':Nat->Prop}{H:Hp}{nx:Nat}{iv iv':Iv}{B:Nat}{w w' w2:World}{O:Nat->Sx.dw}{v:Value}{x y:Int}
theorem iP.rel(h:iP w (Cv S B iv) v x y)(r:Rel H nx iv B w O w')(hS:∀g,S g->g<B):iP w' (Cv S B iv) v x y:=h.cJ fun _ hg=>Rel.same r hS hg
theorem iP.cK(h:iP w (Cv S B iv) v x y)(r:Rel H nx iv B w O w')(hS:∀g,S g->g<B)(he:Ext w' w2)(hm:∀p,p∈iv->p∈iv'):iP w2 (Cv S B iv') v x y:=
 ((h.rel r hS).cJ fun g hg=>he.block g (Rel.old r hS g hg)).cL fun _ hg=>hg.mono hm
end
def dA(w:World)(S:Nat->Prop)(v:Value)(q:Rat):Prop:=∃b1 l1 b2 l2,v= .agg #[.bool b1,l1,.bool b2,l2]∧dS w S (.agg #[.bool b1,l1]) q.num∧dS w S (.agg #[.bool b2,l2]) q.den
theorem dA.cJ{w2:World}(h:dA w S v q)(hk:∀g,S g->w2.heap[g]? =w.heap[g]?):dA w2 S v q:=by
 obtain⟨b1,l1,b2,l2,h1,h2,h3⟩:=h;exact⟨b1,l1,b2,l2,h1,h2.cJ hk,h3.cJ hk⟩
theorem dA.cL(h:dA w S v q)(hk:∀g,S g->S' g):dA w S' v q:=by
 obtain⟨b1,l1,b2,l2,h1,h2,h3⟩:=h;exact⟨b1,l1,b2,l2,h1,h2.cL hk,h3.cL hk⟩
theorem dA.r(h:dA w S v q):iP w S v q.num q.den:=by
 obtain⟨b1,l1,b2,l2,h1,h2,h3⟩:=h;exact⟨b1,l1,b2,l2,h1,h2.r,h3.r⟩
theorem dA.shape(h:dA w S v q):∃b a n c b2 a2 n2 c2,v= .agg #[.bool b,.slice a n c,.bool b2,.slice a2 n2 c2]:=h.r.shape
theorem dA.num(h:dA w S (.agg #[.bool b,nv,.bool b2,dv]) q):dS w S (.agg #[.bool b,nv]) q.num:=by
 obtain⟨b1,l1,b2,l2,h1,h2,h3⟩:=h;simp at h1;obtain⟨rfl,rfl,rfl,rfl⟩:=h1;exact h2
theorem dA.den(h:dA w S (.agg #[.bool b,nv,.bool b2,dv]) q):dS w S (.agg #[.bool b2,dv]) q.den:=by
 obtain⟨b1,l1,b2,l2,h1,h2,h3⟩:=h;simp at h1;obtain⟨rfl,rfl,rfl,rfl⟩:=h1;exact h3
theorem dA.of(h:dS w S (.agg #[.bool b,nv]) q.num)(k:dS w S (.agg #[.bool b2,dv]) q.den):dA w S (.agg #[.bool b,nv,.bool b2,dv]) q:=⟨_,_,_,_,rfl,h,k⟩
section
variable{S S':Nat->Prop}{H:Hp}{nx:Nat}{iv iv':Iv}{B:Nat}{w w' w2:World}{O:Nat->Sx.dw}{v:Value}{q:Rat}
theorem dA.rel(h:dA w (Cv S B iv) v q)(r:Rel H nx iv B w O w')(hS:∀g,S g->g<B):dA w' (Cv S B iv) v q:=h.cJ fun _ hg=>Rel.same r hS hg
theorem dA.cK(h:dA w (Cv S B iv) v q)(r:Rel H nx iv B w O w')(hS:∀g,S g->g<B)(he:Ext w' w2)(hm:∀p,p∈iv->p∈iv'):dA w2 (Cv S B iv') v q:=
 ((h.rel r hS).cJ fun g hg=>he.block g (Rel.old r hS g hg)).cL fun _ hg=>hg.mono hm
theorem dA.dF(h:dA w2 (Nf w' w2) v q)(hB:B<=w'.heap.size)(hm:(w'.heap.size,w2.heap.size)∈iv):dA w2 (Cv S B iv) v q:=h.cL fun _ hg=>hg.dF hB hm
theorem dA.out{w0 w1:World}(h:dA w1 (Cv S w0.heap.size iv) v q)(r:Rel H nx iv w0.heap.size w1 O w')(hS:Old S w0):dA w' (Nw S w0 w') v q:=
 (h.rel r hS).cL fun _ hg=>Cv.nw hg r
end
theorem uy{f:Rat}(hS:Old S w)(hf:cZ w S v f):
  eG PG N.ko #[v] w (eL w fun v' _w2=>v'= .int .i64 (rs f)):=by
 have hw:=bR w;replace hf:=hf.cL (S':=Cv S w.heap.size []) fun _ h=>.inl h;obtain⟨b1,a1,n1,c1,b2,a2,n2,c2,rfl⟩:=hf.shape;have Uf:=hf.num;have Q9:=hf.den;refine oc (by simp) ?_;refine cH (cE hw (fun _ w' v w2=>v= .int .i64 (rs f)) (fun O w' r=>Av (Uf.rel r hS)) ?_);rintro O _ _ _ Og r he hw h_ rfl;exact rtn hw fun ρe we re=>rfl
theorem BB{f:Rat}(hS:Old S w)(hf:cZ w S v f):
  eG PG N.k9 #[v] w (eL w fun v' w2=>cZ w2 (Nw S w w2) v' (-f)):=by
 have hw:=bR w;replace hf:=hf.cL (S':=Cv S w.heap.size []) fun _ h=>.inl h;obtain⟨b1,a1,n1,c1,b2,a2,n2,c2,rfl⟩:=hf.shape;have Uf:=hf.num;have Q9:=hf.den;refine nZ (by simp) ?_;refine cQ hτ dx [.x 0,.x 1,.x 3,.x 4,.x 2,.x 5,.x 6] (by kernel_rfl) (by kernel_rfl) ?_;refine cM (Φ:=fun _ w' v w2=>e7 w2 (Nw (Cv S w.heap.size []) w' w2) v (-f.num)) (fun O w' r=>ou (Rel.old r hS) (Uf.rel r hS)) ?_;rintro O QU v1 QJ r he hb hn;replace hw:=hw.tr hb;replace Q9:=Q9.cK (iv':=(QU.heap.size,QJ.heap.size)::[]) r hS he fun x hx=>aC _ hx;have hM:=hn.old r.cG;generalize (QU.heap.size,QJ.heap.size)::[]=Og at*
 obtain⟨A0,A1,A2,A3,rfl⟩:=hM.shape;exact rtn hw fun ρe we re=>cZ.of (by rw[Rat.neg_num];exact hM.out re hS) (by rw[Rat.neg_den];exact Q9.out re hS)
theorem BC{f:Rat}(hS:Old S w)(hf:cZ w S v f)(hg:cZ w S u g)(hlf:rl f<=10000000000)(hlg:rl g<=10000000000):
  eG PG N.k8 #[v,u] w (eL w fun v' w2=>cZ w2 (Nf w w2) v' (f*g)):=by
 have hw:=bR w;have l1:=gP f;have l2:=fY f;have l3:=gP g;have l4:=fY g;have m0:=dE f.num g.num;have m1:=dE f.den g.den;replace hf:=hf.cL (S':=Cv S w.heap.size []) fun _ h=>.inl h;replace hg:=hg.cL (S':=Cv S w.heap.size []) fun _ h=>.inl h;obtain⟨b1,a1,n1,c1,b2,a2,n2,c2,rfl⟩:=hf.shape;obtain⟨b3,a3,n3,c3,b4,a4,n4,c4,rfl⟩:=hg.shape;have Uf:=hf.num;have Q9:=hf.den;have Sq:=hg.num;have R4:=hg.den;refine nY (by simp) ?_;refine cQ hτ dx [.x 0,.x 1,.x 2,.x 3,.x 5,.x 6,.x 7,.x 8,.x 4,.x 9,.x 10,.x 11] (by kernel_rfl) (by kernel_rfl) ?_;refine cE hw (fun _ w' v w2=>e7 w2 (Nf w' w2) v (f.num*g.num)) (fun O w' r=>ig (Rel.old r hS) (Uf.rel r hS) (Sq.rel r hS) (by omega) (by omega)) ?_;rintro O _ _ _ Og r he hw h_ hn;replace Q9:=Q9.cK r hS he (mC h_);replace R4:=R4.cK r hS he (mC h_);have hA:=hn.dF (S:=FF) r.cG (mN h_);obtain⟨A0,A1,A2,A3,rfl⟩:=hA.shape;refine cE hw (fun _ w' v w2=>e7 w2 (Nf w' w2) v ((f.den:Int)*(g.den:Int))) (fun O w' r=>ig (Rel.old r hS) (Q9.rel r hS) (R4.rel r hS) (by omega) (by omega)) ?_;rintro O _ _ _ OX r he hw h_ hn;replace hA:=hA.cK r (cF w) he (mC h_);have hB:=hn.dF (S:=FF) r.cG (mN h_);obtain⟨C0,C1,C2,C3,rfl⟩:=hB.shape;refine cE hw (fun _ w' v w2=>cZ w2 (Nf w' w2) v (f*g)) (fun O w' r=>(yY f g)▸BA (Rel.old r (cF w)) (hA.rel r (cF w)) (hB.rel r (cF w)) (ki (iB f) (iB g)) (by omega) (by omega)) ?_;rintro O _ _ _ Oh r he hw h_ hn;have hC:=hn.dF (S:=FF) r.cG (mN h_);obtain⟨E0,E1,E2,E3,E4,E5,E6,E7,rfl⟩:=hC.shape;exact rtn hw fun ρe we re=>hC.out re (cF w)
theorem MA{f:Rat}(hS:Old S w)(hf:cZ w S v f)(hg:cZ w S u g)(hlf:rl f<=10000000000)(hlg:rl g<=10000000000)(TO:g≠0):
  eG PG N.mZ #[v,u] w (eL w fun v' w2=>cZ w2 (Nf w w2) v' (f / g)):=by
 have hw:=bR w;have l1:=gP f;have l2:=fY f;have l3:=gP g;have l4:=fY g;have m0:=dE f.num g.den;have m1:=dE f.den g.num;replace hf:=hf.cL (S':=Cv S w.heap.size []) fun _ h=>.inl h;replace hg:=hg.cL (S':=Cv S w.heap.size []) fun _ h=>.inl h;obtain⟨b1,a1,n1,c1,b2,a2,n2,c2,rfl⟩:=hf.shape;obtain⟨b3,a3,n3,c3,b4,a4,n4,c4,rfl⟩:=hg.shape;have Uf:=hf.num;have Q9:=hf.den;have Sq:=hg.num;have R4:=hg.den;refine q8 (by simp) ?_;refine cQ hτ dx [.x 0,.x 1,.x 2,.x 3,.x 5,.x 6,.x 7,.x 8,.x 4,.x 9,.x 10,.x 11] (by kernel_rfl) (by kernel_rfl) ?_;refine cE hw (fun _ w' v w2=>e7 w2 (Nf w' w2) v (f.num*(g.den:Int))) (fun O w' r=>ig (Rel.old r hS) (Uf.rel r hS) (R4.rel r hS) (by omega) (by omega)) ?_;rintro O _ _ _ Og r he hw h_ hn;replace Q9:=Q9.cK r hS he (mC h_);replace Sq:=Sq.cK r hS he (mC h_);have hA:=hn.dF (S:=FF) r.cG (mN h_);obtain⟨A0,A1,A2,A3,rfl⟩:=hA.shape;refine cE hw (fun _ w' v w2=>e7 w2 (Nf w' w2) v ((f.den:Int)*g.num)) (fun O w' r=>ig (Rel.old r hS) (Q9.rel r hS) (Sq.rel r hS) (by omega) (by omega)) ?_;rintro O _ _ _ OX r he hw h_ hn;replace hA:=hA.cK r (cF w) he (mC h_);have hB:=hn.dF (S:=FF) r.cG (mN h_);obtain⟨C0,C1,C2,C3,rfl⟩:=hB.shape;refine cE hw (fun _ w' v w2=>cZ w2 (Nf w' w2) v (f / g)) (fun O w' r=>(IN f g)▸BA (Rel.old r (cF w)) (hA.rel r (cF w)) (hB.rel r (cF w)) (ki (iB f) (fun e=>TO (Rat.num_eq_zero.1 e))) (by omega) (by omega)) ?_;rintro O _ _ _ Oh r he hw h_ hn;have hC:=hn.dF (S:=FF) r.cG (mN h_);obtain⟨E0,E1,E2,E3,E4,E5,E6,E7,rfl⟩:=hC.shape;exact rtn hw fun ρe we re=>hC.out re (cF w)
theorem EA{f:Rat}(hS:Old S w)(hf:cZ w S v f)(hg:cZ w S u g)(hlf:rl f<=10000000000)(hlg:rl g<=10000000000):
  eG PG N.kp #[v,u] w (eL w fun v' w2=>cZ w2 (Nf w w2) v' (f+g)):=by
 have hw:=bR w;have l1:=gP f;have l2:=fY f;have l3:=gP g;have l4:=fY g;have m0:=dE f.num g.den;have m1:=dE g.num f.den;have m2:=dE f.den g.den;have m4:=jJ (f.num*g.den) (g.num*f.den);replace hf:=hf.cL (S':=Cv S w.heap.size []) fun _ h=>.inl h;replace hg:=hg.cL (S':=Cv S w.heap.size []) fun _ h=>.inl h;obtain⟨b1,a1,n1,c1,b2,a2,n2,c2,rfl⟩:=hf.shape;obtain⟨b3,a3,n3,c3,b4,a4,n4,c4,rfl⟩:=hg.shape;have Uf:=hf.num;have Q9:=hf.den;have Sq:=hg.num;have R4:=hg.den;refine od (by simp) ?_;refine cQ hτ dx [.x 0,.x 1,.x 2,.x 3,.x 5,.x 6,.x 7,.x 8,.x 11,.x 12,.x 13,.x 14,.x 4,.x 9,.x 10,.x 15,.x 16,.x 17] (by kernel_rfl) (by kernel_rfl) ?_;refine cE hw (fun _ w' v w2=>e7 w2 (Nf w' w2) v (f.num*(g.den:Int))) (fun O w' r=>ig (Rel.old r hS) (Uf.rel r hS) (R4.rel r hS) (by omega) (by omega)) ?_;rintro O _ _ _ Og r he hw h_ hn;replace Q9:=Q9.cK r hS he (mC h_);replace Sq:=Sq.cK r hS he (mC h_);replace R4:=R4.cK r hS he (mC h_);have hA:=hn.dF (S:=FF) r.cG (mN h_);obtain⟨A0,A1,A2,A3,rfl⟩:=hA.shape;refine cE hw (fun _ w' v w2=>e7 w2 (Nf w' w2) v (g.num*(f.den:Int))) (fun O w' r=>ig (Rel.old r hS) (Sq.rel r hS) (Q9.rel r hS) (by omega) (by omega)) ?_;rintro O _ _ _ OX r he hw h_ hn;replace Q9:=Q9.cK r hS he (mC h_);replace R4:=R4.cK r hS he (mC h_);replace hA:=hA.cK r (cF w) he (mC h_);have hB:=hn.dF (S:=FF) r.cG (mN h_);obtain⟨C0,C1,C2,C3,rfl⟩:=hB.shape;refine cE hw (fun _ w' v w2=>e7 w2 (Nf w' w2) v (f.num*(g.den:Int)+g.num*(f.den:Int))) (fun O w' r=>Cg (Rel.old r (cF w)) (hA.rel r (cF w)) (hB.rel r (cF w)) (by omega) (by omega)) ?_;rintro O _ _ _ Oh r he hw h_ hn;replace Q9:=Q9.cK r hS he (mC h_);replace R4:=R4.cK r hS he (mC h_);have hD:=hn.dF (S:=FF) r.cG (mN h_);obtain⟨E0,E1,E2,E3,rfl⟩:=hD.shape;refine cE hw (fun _ w' v w2=>e7 w2 (Nf w' w2) v ((f.den:Int)*(g.den:Int))) (fun O w' r=>ig (Rel.old r hS) (Q9.rel r hS) (R4.rel r hS) (by omega) (by omega)) ?_;rintro O _ _ _ On r he hw h_ hn;replace hD:=hD.cK r (cF w) he (mC h_);have hE:=hn.dF (S:=FF) r.cG (mN h_);obtain⟨F0,F1,F2,F3,rfl⟩:=hE.shape;refine cE hw (fun _ w' v w2=>cZ w2 (Nf w' w2) v (f+g)) (fun O w' r=>(tx f g)▸BA (Rel.old r (cF w)) (hD.rel r (cF w)) (hE.rel r (cF w)) (ki (iB f) (iB g)) (by omega) (by omega)) ?_;rintro O _ _ _ PN r he hw h_ hn;have hC:=hn.dF (S:=FF) r.cG (mN h_);obtain⟨G0,G1,G2,G3,G4,G5,G6,G7,rfl⟩:=hC.shape;exact rtn hw fun ρe we re=>hC.out re (cF w)
theorem rO{f:Rat}(hS:Old S w)(hf:cZ w S v f)(hlf:rl f<=100000000000):
  eG PG N.km #[v] w (eL w fun v' w2=>dA w2 (Nf w w2) v' f):=by
 have hw:=bR w;have l1:=gP f;have l2:=fY f;replace hf:=hf.cL (S':=Cv S w.heap.size []) fun _ h=>.inl h;obtain⟨b1,a1,n1,c1,b2,a2,n2,c2,rfl⟩:=hf.shape;have Uf:=hf.num;have Q9:=hf.den;refine oa (by simp) ?_;refine cQ hτ dx [.x 0,.x 1,.x 3,.x 4,.x 2,.x 5,.x 6,.x 7] (by kernel_rfl) (by kernel_rfl) ?_;refine cE hw (fun _ w' v w2=>dS w2 (Nf w' w2) v f.num) (fun O w' r=>Lk (Rel.old r hS) (Uf.rel r hS) (by omega)) ?_;rintro O _ _ _ Og r he hw h_ hn;replace Q9:=Q9.cK r hS he (mC h_);have hA:=hn.dF (S:=FF) r.cG (mN h_);obtain⟨A0,A1,A2,A3,rfl⟩:=hA.shape;refine cE hw (fun _ w' v w2=>dS w2 (Nf w' w2) v (f.den:Int)) (fun O w' r=>Lk (Rel.old r hS) (Q9.rel r hS) (by omega)) ?_;rintro O _ _ _ OX r he hw h_ hn;replace hA:=hA.cK r (cF w) he (mC h_);have hB:=hn.dF (S:=FF) r.cG (mN h_);obtain⟨C0,C1,C2,C3,rfl⟩:=hB.shape;exact rtn hw fun ρe we re=>dA.of (hA.out re (cF w)) (hB.out re (cF w))
theorem rP(n:Int)(w:World)(h1: -9223372036854775808<=n)(h2:n<=9223372036854775807):
  eG PG N.xN #[.int .i64 n] w (eL w fun v' w2=>cZ w2 (Nf w w2) v' (n:Rat)):=by
 have hw:=bR w;refine Aa (by simp) ?_;refine cH (cE hw (fun _ w' v w2=>e7 w2 (Nf w' w2) v n) (fun O w' r=>ux n w' h1 h2) ?_);rintro O _ _ _ Og r he hw h_ hn;have hA:=hn.dF (S:=FF) r.cG (mN h_);obtain⟨A0,A1,A2,A3,rfl⟩:=hA.shape;refine cH (cE hw (fun _ w' v w2=>e7 w2 (Nf w' w2) v 1) (fun O w' r=>ux 1 w' (by decide) (by decide)) ?_);rintro O _ _ _ OX r he hw h_ hn;replace hA:=hA.cK r (cF w) he (mC h_);have hB:=hn.dF (S:=FF) r.cG (mN h_);obtain⟨C0,C1,C2,C3,rfl⟩:=hB.shape;exact rtn hw fun ρe we re=>cZ.of (by rw[Rat.num_intCast];exact hA.out re (cF w)) (by rw[Rat.den_intCast];exact hB.out re (cF w))
theorem ja(hS:Old S w)(hx:iP w S v x y)(PO:ln x.natAbs<=100000000000)(Qj:ln y.natAbs<=100000000000):
  eG PG N.xJ #[v] w (eL w fun v' w2=>cZ w2 (Nf w w2) v' (ratio x y)):=by
 have hw:=bR w;replace hx:=hx.cL (S':=Cv S w.heap.size []) fun _ h=>.inl h;obtain⟨b1,a1,n1,c1,b2,a2,n2,c2,rfl⟩:=hx.shape;have hn:=hx.num;have hd:=hx.den;have RQ:=hn;have Uw:=hd;refine AW (by simp) ?_;refine cH (cM (Φ:=fun _ w' v w2=>e7 w2 (Nw (Cv S w.heap.size []) w' w2) v y) (fun O w' r=>Lt (Rel.old r hS) (Uw.rel r hS)) ?_);rintro O QU v1 QJ r he hb hn;replace hw:=hw.tr hb;replace RQ:=RQ.cK (iv':=(QU.heap.size,QJ.heap.size)::[]) r hS he fun x hx=>aC _ hx;have hD:=hn.old r.cG;generalize (QU.heap.size,QJ.heap.size)::[]=Og at*
 obtain⟨A0,A1,A2,A3,rfl⟩:=hD.shape;refine cH (cE hw (fun _ w' v w2=>v= .int .i64 y.sign) (fun O w' r=>Av (hD.rel r hS)) ?_);rintro O _ _ _ OX r he hw h_ rfl;replace RQ:=RQ.cK r hS he (mC h_);replace hD:=hD.cK r hS he (mC h_);refine dN.mk ?_ ?_<;>intro h
 ·have h:y=0:=bm.1 (eq_of_beq h);have e0:ratio x y=Rat.divInt x 1:=if_pos h;refine cH (cE hw (fun _ w' v w2=>e7 w2 (Nf w' w2) v 1) (fun O w' r=>ux 1 w' (by decide) (by decide)) ?_);rintro O Pz v3 Px Oh r he hw h_ hn;replace RQ:=RQ.cK r hS he (mC h_);have hO:=hn.dF (S:=FF) r.cG (mN h_);obtain⟨C0,C1,C2,C3,rfl⟩:=hO.shape;have l1:ln (1:Int).natAbs=1:=by decide
  refine cQ hτ dx [.x 0,.x 1,.x 3,.x 2,.x 4,.x 5] (by kernel_rfl) (by kernel_rfl) ?_;refine cM (Φ:=fun _ w' v w2=>e7 w2 (Nw (Cv S w.heap.size Oh) w' w2) v x) (fun O w' r=>Lt (Rel.old r hS) (RQ.rel r hS)) ?_;rintro O Ro v4 Qh r he hb hn;replace hw:=hw.tr hb;replace hO:=hO.cK (iv':=(Ro.heap.size,Qh.heap.size)::Oh) r (cF w) he fun x hx=>aC _ hx;have hN:=hn.old r.cG;generalize (Ro.heap.size,Qh.heap.size)::Oh=On at*
  obtain⟨E0,E1,E2,E3,rfl⟩:=hN.shape;refine cE hw (fun _ w' v w2=>cZ w2 (Nf w' w2) v (ratio x y)) (fun O w' r=>e0.symm▸BA (Rel.old r hS) (hN.rel r hS) ((hO.rel r (cF w)).cL fun g hg=>hg.elim (fun k=>k.elim) .inr) (by decide) (by omega) (by omega)) ?_;rintro O _ _ _ PN r he hw h_ hn;have hC:=hn.dF (S:=FF) r.cG (mN h_);obtain⟨F0,F1,F2,F3,F4,F5,F6,F7,rfl⟩:=hC.shape;exact rtn hw fun ρe we re=>hC.out re (cF w)
 ·have h:y≠0:=fun e=>by rw[e]at h;exact absurd h (by decide)
  have e0:ratio x y=Rat.divInt x y:=aJ h;refine cQ hτ dx [.x 0,.x 1,.x 3,.x 2,.x 4,.x 5] (by kernel_rfl) (by kernel_rfl) ?_;refine cM (Φ:=fun _ w' v w2=>e7 w2 (Nw (Cv S w.heap.size OX) w' w2) v x) (fun O w' r=>Lt (Rel.old r hS) (RQ.rel r hS)) ?_;rintro O Pz v3 Px r he hb hn;replace hw:=hw.tr hb;replace hD:=hD.cK (iv':=(Pz.heap.size,Px.heap.size)::OX) r hS he fun x hx=>aC _ hx;have hN:=hn.old r.cG;generalize (Pz.heap.size,Px.heap.size)::OX=Oh at*
  obtain⟨C0,C1,C2,C3,rfl⟩:=hN.shape;refine cE hw (fun _ w' v w2=>cZ w2 (Nf w' w2) v (ratio x y)) (fun O w' r=>e0.symm▸BA (Rel.old r hS) (hN.rel r hS) (hD.rel r hS) h (by omega) (by omega)) ?_;rintro O _ _ _ On r he hw h_ hn;have hC:=hn.dF (S:=FF) r.cG (mN h_);obtain⟨E0,E1,E2,E3,E4,E5,E6,E7,rfl⟩:=hC.shape;exact rtn hw fun ρe we re=>hC.out re (cF w)
def mD(v:Value):Iv:=match v.ownBlock with
 |some g=>[(g,g+1)]
 |none=>[]
theorem rQ{lo hi:Nat}:(lo,hi)∈mD v↔v.ownBlock=some lo∧hi=lo+1:=by
 unfold mD
 cases h:v.ownBlock with
 |none=>simp
 |some g=>simp;omega
def BG(iv:Iv)(v:Value):Prop:=∀b,v.ownBlock=some b->∃lo hi,(lo,hi)∈iv∧lo<=b∧b<hi
section
variable{S:Nat->Prop}{H:Hp}{nx:Nat}{iv iv':Iv}{B e sz m:Nat}{w w' w2:World}{O:Nat->Sx.dw}{v v':Value}{xs:List Value}
theorem BG.not(h:BG iv v)(r:Rel H nx iv B w O w'){b:Nat}(hb:v.ownBlock=some b):∀id c,dD H id=some c->(O id).nil=false->(O id).g≠b:=fun id c hc hn he=>by
 obtain⟨lo,hi,h1,h2,h3⟩:=h b hb;exact r.jb lo hi h1 id c hc hn (by omega)
theorem gv(h:w.ownsRow B e sz v m xs)(hc:BG iv v)(r:Rel H nx iv B w O w'):w'.ownsRow B e sz v m xs:=
 ownsRow.cJ h fun b hb=>r.vF b (ownsRow.low h b hb).2 fun id c hc' hn he=>hc.not r hb id c hc' hn he
theorem BG.row(v:Value):BG (mD v) v:=fun b hb=>⟨b,b+1,rQ.2 ⟨hb,rfl⟩,by omega,by omega⟩
theorem BG.mono(h:BG iv v)(k:∀p,p∈iv->p∈iv'):BG iv' v:=fun b hb=>by
 obtain⟨lo,hi,h1,h2⟩:=h b hb;exact⟨lo,hi,k _ h1,h2⟩
theorem fF(h:w.ownsRow B e sz v m xs):∃a c,v= .slice a m c∧m<=c:=by
 rcases h.2 with⟨rfl,rfl⟩|⟨g,cap,cur,rfl,_,_,h1,_⟩
 ·exact⟨none,0,rfl,Nat.le_refl _⟩
 ·exact⟨_,cap,rfl,h1⟩
theorem GF(r:Rel H nx (mD v) B w O w')(_hsz:w'.heap.size<=w2.heap.size)(RE:∀g,v'.ownBlock=some g->g<w2.heap.size∧(v.ownBlock=some g∨g=w'.heap.size)):
  ∀lo hi,(lo,hi)∈mD v'->hi<=w2.heap.size∧∀id b,dD H id=some b->(O id).nil=false->¬(lo<=(O id).g∧(O id).g<hi):=fun lo hi hm=>by
 obtain⟨hg,rfl⟩:=rQ.1 hm;obtain⟨h1,h2⟩:=RE _ hg;refine⟨by omega,fun id c hc hn he=>?_⟩;rcases h2 with h2|h2
 ·exact(BG.row v).not r h2 id c hc hn (by omega)
 ·have:=(r.low id c hc hn).2;omega
end
end Go.Ex
namespace Go.Sx
open Go Go.Ex Go.Proofs
variable{O:Nat->Sx.dw}
theorem Sub.aAz{B:Nat}{l tl:Env}{nx Oe:Nat}{H tH:Hp}{iv iv':Iv}{w w':World}(m:List (Nat×Nat))(r:Rel H nx iv B w O w')
  (hH:yt (tR m) H tH) (hE:yr (tR m) l tl) (hsH:Mh Oe tH) (hsE:kF Oe tl) (hi:Ii (tR m) tH=true) (TR:∀lo hi,(lo,hi)∈iv'->∃lo' Qo,(lo',Qo)∈iv∧lo'<=lo∧hi<=Qo):Sub B l nx O w' ⟨tl,tH,Oe,iv',w'⟩:=by
 have r2:Rel H nx iv' B w' O w':=Rel.mk' rfl rfl rfl (Nat.le_refl _) (by have:=r.base;have:=r.size;omega) (fun lo hi h=>by
   obtain⟨lo',Qo,h1,h2,h3⟩:=TR lo hi h
   have:=r.pC lo' Qo h1;have:=r.size;omega) r.keys (fun id b h=>r.fits h) (fun id b h=>r.scopd h) r.inj r.low (fun _ _ _=>rfl) (fun lo hi h id b hb hn he=>by
   obtain⟨lo',Qo,h1,h2,h3⟩:=TR lo hi h
   exact r.jb lo' Qo h1 id b hb hn (by omega))
 exact Sub.gen m r2 hH hE hsH hsE hi (fun lo hi h=>h)
end Go.Sx
namespace Go.Ex
open Go Go.Sx Go.Proofs
variable{xs:List Value}{n sz:Nat}{S:Nat->Prop}{v:Value}{w:World}
theorem BG.iv{iv:Iv}(h:BG iv v):∀lo hi,(lo,hi)∈mD v->∃lo' Qo,(lo',Qo)∈iv∧lo'<=lo∧hi<=Qo:=fun lo hi hm=>by
 obtain⟨hb,rfl⟩:=rQ.1 hm;obtain⟨lo',Qo,h1,h2,h3⟩:=h lo hb;exact⟨lo',Qo,h1,h2,by omega⟩
structure iR(w:World)(S:Nat->Prop)(sz:Nat)(v:Value)(xs:List Value)(n:Nat):Prop where
 le:n<=maxLen
 len:xs.length=n*sz
 one:∀u∈xs,u.oneCell'=true
 sl:∃a c,v= .slice a n c∧n<=c∧∀(j:Nat) u,xs[j]? =some u->∃ad,a=some ad∧S ad.block∧w.cell? (ad.add j)=some u
theorem iR.cJ{w2:World}(h:iR w S sz v xs n)(hk:∀g,S g->w2.heap[g]? =w.heap[g]?):iR w2 S sz v xs n:=by
 obtain⟨h0,h1,h2,a,c,h3,h4,h5⟩:=h;refine⟨h0,h1,h2,a,c,h3,h4,fun j u hu=>?_⟩;obtain⟨ad,k1,k2,k3⟩:=h5 j u hu;exact⟨ad,k1,k2,by rw[cI (hk _ (by rw[dC];exact k2))];exact k3⟩
theorem iR.cL{S':Nat->Prop}(h:iR w S sz v xs n)(hk:∀g,S g->S' g):iR w S' sz v xs n:=by
 obtain⟨h0,h1,h2,a,c,h3,h4,h5⟩:=h;refine⟨h0,h1,h2,a,c,h3,h4,fun j u hu=>?_⟩;obtain⟨ad,k1,k2,k3⟩:=h5 j u hu;exact⟨ad,k1,hk _ k2,k3⟩
theorem iR.shape(h:iR w S sz v xs n):∃a m c,v= .slice a m c:=by
 obtain⟨_,_,_,a,c,h3,_⟩:=h;exact⟨a,_,c,h3⟩
section
variable{S S':Nat->Prop}{H:Hp}{nx:Nat}{iv iv':Iv}{B:Nat}{w w' w2:World}{O:Nat->Sx.dw}{v:Value}{sz n:Nat}{xs:List Value}
end
def nm(parts:List (Value×List Value×Nat)):Nat:=(parts.map (·.2.2)).sum
theorem x8(a b:List (Value×List Value×Nat)):nm (a++b)=nm a+nm b:=by simp[nm]
end Go.Ex
namespace Go.Ex
open Go Go.Sx Go.Proofs
end Go.Ex
namespace Go.Sx
open Go Go.Ex Go.Proofs
variable{O:Nat->Sx.dw}
theorem Rel.wP{H:Hp}{nx:Nat}{iv:Iv}{B:Nat}{w w':World}(r:Rel H nx iv B w O w'){id t sz n:Nat}{cs:List At}(h:dD H id=some (.box t cs))(hl:cs.length=n*sz)(hn:n<=maxLen)(h1:∀u∈cs,(u.den O).oneCell'=true):
  iR w' (fun g=>g=(O id).g) sz (.slice (some ⟨(O id).g,0,none⟩) n n) (cs.map (At.den O)) n:=by
 refine⟨hn,by simpa using hl,fun u hu=>?_,_,_,rfl,Nat.le_refl _,fun j u hu=>⟨_,rfl,rfl,?_⟩⟩
 ·obtain⟨x,hx,rfl⟩:=aV.1 hu;exact h1 x hx
 ·have h0:(⟨(O id).g,0,none⟩:Addr).add j=⟨(O id).g,j,none⟩:=by
   cases j with
   |zero=>rfl
   |succ j=>simp[Addr.add]
  rw[h0,cell_of (r.box id t _ h)];exact hu
end Go.Sx
namespace Go.Ex
open Go Go.Sx Go.Proofs
end Go.Ex
namespace Go.Sx
open Go Go.Ex Go.Proofs
variable{cs:List Value}{O:Nat->Sx.dw}
theorem Rel.Lz{H:Hp}{nx:Nat}{iv:Iv}{B:Nat}{w w':World}(r:Rel H nx iv B w O w'){id t sz n:Nat}(h:dD H id=some (.arr t cs))(hl:cs.length=n*sz)(hn:n<=maxLen)(h1:∀u∈cs,u.oneCell'=true):
  iR w' (fun g=>g=(O id).g) sz (.slice (some ⟨(O id).g,0,none⟩) n n) cs n:=by
 refine⟨hn,hl,h1,_,_,rfl,Nat.le_refl _,fun j u hu=>⟨_,rfl,rfl,?_⟩⟩;have h0:(⟨(O id).g,0,none⟩:Addr).add j=⟨(O id).g,j,none⟩:=by
  cases j with
  |zero=>rfl
  |succ j=>simp[Addr.add]
 rw[h0,cell_of (r.arr id t _ h)];exact hu
end Go.Sx
namespace Go.Ex
open Go Go.Sx Go.Proofs
theorem MG{n:Nat}(h:n<=9223372036854775807):IntKind.i64.wrap (n:Int)=n:=by rw[wrap64]<;>omega
theorem NY{t b:Nat}(h:t<=9223372036854775807):IntKind.i64.wrap ((t:Int).tdiv (b:Int))=((t / b:Nat):Int):=by
 have h1:=Nat.div_le_self t b;rw[Int.tdiv_eq_ediv_of_nonneg (by omega),<-Int.natCast_ediv];exact MG (by omega)
end Go.Ex
namespace Go.Ex
open Go Go.Sx Go.Proofs
def MH:Value:=.agg #[.bool false,.slice none 0 0,.bool false,.slice none 0 0]
theorem Ax{n:Int}(h1: -9223372036854775808<=n)(h2:n<=9223372036854775807):ln n.natAbs<=2:=gT.2 (by show n.natAbs<4294967296^2;omega)
end Go.Ex
namespace Go.Sx
open Go Go.Ex Go.Proofs
variable{cs:List Value}{O:Nat->Sx.dw}
theorem Rel.iD{H:Hp}{nx:Nat}{iv:Iv}{B:Nat}{w w':World}(r:Rel H nx iv B w O w'){id t m sz:Nat}(h:dD H id=some (.vec t sz cs))(hm:cs.length=m*sz)(Qx:m<=maxLen)(hs:0<sz)(h1:∀u∈cs,u.oneCell'=true):
  iR w' (fun g=>B<=g∧g<w'.heap.size) sz ((At.w id m).den O) cs m:=by
 rcases r.vec id t sz _ h with⟨hn,rfl⟩|⟨hn,spare,hb,hc,QS⟩
 ·have Sm:m=0:=by
   rcases bN m with h|h
   ·exact h
   ·have:=Nat.mul_pos h hs;simp at hm;omega
  subst Sm;refine⟨Qx,by simp,by simp,none,0,by simp[At.den,hn],Nat.le_refl _,by simp⟩
 ·refine⟨Qx,hm,h1,some ⟨(O id).g,0,none⟩,(O id).cap,by simp[At.den,hn],?_,fun j x hx=>⟨_,rfl,r.low id _ h hn,?_⟩⟩
  ·have h1:(cs++spare).length=cs.length+spare.length:=List.length_append;have h2:m*sz<=(O id).cap*sz:=by omega
   exact bw h2 hs
  ·rw[dI,cell_of hb,aW,aK (aE.1 hx).1];exact hx
end Go.Sx
namespace Go.Ex
open Go Go.Sx Go.Proofs
end Go.Ex
namespace Go.Ex
open Go Go.Sx Go.Proofs
variable{css:List (List Value)}{qs:List Rat}{cs xs:List Value}{i j n:Nat}{C S:Nat->Prop}{O:Nat->Sx.dw}{a:Option Addr}{p q:Rat}{v:Value}{w:World}
def signed:Bool->ByteArray->ByteArray
 |true,s=>⟨#[45]⟩++s
 |false,s=>s
def ns(w:World)(S:Nat->Prop)(cs:List Value)(q:Rat):Prop:=∃b a n c b2 a2 n2 c2,cs=[.bool b,.slice a n c,.bool b2,.slice a2 n2 c2]∧cZ w S (.agg #[.bool b,.slice a n c,.bool b2,.slice a2 n2 c2]) q
def Fr(w:World)(S:Nat->Prop)(css:List (List Value))(qs:List Rat):Prop:=css.length=qs.length∧∀(j:Nat) cs q,css[j]? =some cs->qs[j]? =some q->ns w S cs q
section
variable{S S':Nat->Prop}{w w2:World}{cs:List Value}{css:List (List Value)}{q:Rat}{qs:List Rat}
theorem ns.cJ(h:ns w S cs q)(hk:∀g,S g->w2.heap[g]? =w.heap[g]?):ns w2 S cs q:=by
 obtain⟨b,a,n,c,b2,a2,n2,c2,h1,h2⟩:=h;exact⟨b,a,n,c,b2,a2,n2,c2,h1,h2.cJ hk⟩
theorem ns.cL(h:ns w S cs q)(hk:∀g,S g->S' g):ns w S' cs q:=by
 obtain⟨b,a,n,c,b2,a2,n2,c2,h1,h2⟩:=h;exact⟨b,a,n,c,b2,a2,n2,c2,h1,h2.cL hk⟩
theorem ns.len(h:ns w S cs q):cs.length=4:=by obtain⟨_,_,_,_,_,_,_,_,rfl,_⟩:=h;rfl
theorem cZ.four{b b2:Bool}{a2:Option Addr}{c n2 c2:Nat}(h:cZ w S (.agg #[.bool b,.slice a n c,.bool b2,.slice a2 n2 c2]) q):ns w S [.bool b,.slice a n c,.bool b2,.slice a2 n2 c2] q:=⟨_,_,_,_,_,_,_,_,rfl,h⟩
theorem Fr.cJ(h:Fr w S css qs)(hk:∀g,S g->w2.heap[g]? =w.heap[g]?):Fr w2 S css qs:=⟨h.1,fun j cs q h1 h2=>(h.2 j cs q h1 h2).cJ hk⟩
theorem Fr.cL(h:Fr w S css qs)(hk:∀g,S g->S' g):Fr w S' css qs:=⟨h.1,fun j cs q h1 h2=>(h.2 j cs q h1 h2).cL hk⟩
theorem Fr.mz(h:Fr w S css qs):∀cs∈css,cs.length=4:=fun cs hc=>by
 obtain⟨j,hj⟩:=aN hc;have hl:=(aE.1 hj).1;exact(h.2 j cs _ hj (aA (by rw[<-h.1];exact hl))).len
theorem Fr.one(h:Fr w S css qs):∀u∈css.flatten,u.oneCell'=true:=fun u hu=>by
 obtain⟨cs,hc,hu⟩:=List.mem_flatten.1 hu;obtain⟨j,hj⟩:=aN hc;have hl:=(aE.1 hj).1;obtain⟨_,_,_,_,_,_,_,_,rfl,_⟩:=h.2 j cs _ hj (aA (by rw[<-h.1];exact hl));simp at hu;rcases hu with rfl|rfl|rfl|rfl<;>rfl
theorem Fr.set(h:Fr w S css qs)(hq:ns w S cs q):Fr w S (css.set j cs) (qs.set j q):=by
 refine⟨by simp[h.1],fun i c p h1 h2=>?_⟩;by_cases Pj:j=i
 ·subst Pj;have hl:=(aE.1 h1).1;rw[aQ (by simpa using hl)]at h1;rw[aQ (by have:=h.1;simp at hl;omega)]at h2;injection h1 with h1;injection h2 with h2;subst h1 h2;exact hq
 ·rw[aY Pj]at h1 h2;exact h.2 i c p h1 h2
end
section
variable{S S':Nat->Prop}{H:Hp}{nx:Nat}{iv iv':Iv}{B:Nat}{w w' w2:World}{O:Nat->Sx.dw}{css:List (List Value)}{qs:List Rat}
theorem Fr.rel(h:Fr w (Cv S B iv) css qs)(r:Rel H nx iv B w O w')(hS:∀g,S g->g<B):Fr w' (Cv S B iv) css qs:=h.cJ fun _ hg=>Rel.same r hS hg
theorem Fr.cK(h:Fr w (Cv S B iv) css qs)(r:Rel H nx iv B w O w')(hS:∀g,S g->g<B)(he:Ext w' w2)(hm:∀p,p∈iv->p∈iv'):Fr w2 (Cv S B iv') css qs:=
 ((h.rel r hS).cJ fun g hg=>he.block g (Rel.old r hS g hg)).cL fun _ hg=>hg.mono hm
theorem Fr.arg(h:Fr w S css qs)(iv:Iv):Fr w (Cv S w.heap.size iv) css qs:=h.cL fun _ h=>.inl h
end
theorem ei:∀{css:List (List Value)},(∀cs∈css,cs.length=4)->css.flatten.length=css.length*4
 |[],_=>rfl
 |c::r,h=>by
  rw[List.flatten_cons,List.length_append,ei (fun cs hc=>h cs (aC _ hc)),h c aG,List.length_cons];omega
theorem flat_get:∀{css:List (List Value)} {j:Nat} {cs:List Value},(∀cs∈css,cs.length=4)->css[j]? =some cs->∀k u,cs[k]? =some u->css.flatten[j*4+k]? =some u
 |[],j,cs,_,hj,_,_,_=>by simp at hj
 |c::r,0,cs,h,hj,k,u,hu=>by
  simp at hj;subst hj;rw[List.flatten_cons,aK (by have:=(aE.1 hu).1;omega)];simpa using hu
 |c::r,j+1,cs,h,hj,k,u,hu=>by
  have hc:=h c aG;rw[List.flatten_cons,aO (by omega),hc,show(j+1)*4+k-4=j*4+k by omega];exact flat_get (fun cs hc=>h cs (aC _ hc)) (by simpa using hj) k u hu
theorem gp:∀{css:List (List Value)} {j:Nat} {cs:List Value},(∀cs∈css,cs.length=4)->j<css.length->css.flatten.take (j*4)++cs++css.flatten.drop (j*4+4)=(css.set j cs).flatten
 |[],j,cs,_,hj=>by simp at hj
 |c::r,0,cs,h,_=>by
  have hc:=h c aG;simp[List.flatten_cons,hc]
 |c::r,j+1,cs,h,hj=>by
  have hc:=h c aG
  rw[List.flatten_cons,show(j+1)*4=c.length+j*4 by omega,List.take_length_add_append,show c.length+j*4+4=c.length+(j*4+4) by omega,List.drop_length_add_append,List.set_cons_succ,List.flatten_cons,
   <-gp (fun cs hc=>h cs (aC _ hc)) (by simpa using hj),bj,bj,bj]
abbrev Out(B:Nat)(iv:Iv):Nat->Prop:=Cv (fun g=>g<B) B iv
theorem fa{H:Hp}{nx:Nat}{iv:Iv}{B Bc e sz m:Nat}{w':World}(h:w.ownsRow Bc e sz v m xs)(hc:∀g,v.ownBlock=some g->Out B iv g)(r:Rel H nx iv B w O w'):w'.ownsRow Bc e sz v m xs:=
 ownsRow.cJ h fun b hb=>Rel.same r (fun _ h=>h) (hc b hb)
theorem qp{c:Nat}(h:w.ownsRow 0 T.dy 4 (.slice a n c) n css.flatten)(hf:Fr w S css qs)(hj:css[j]? =some cs):
  ∃g,a=some ⟨g,0,none⟩∧∀k u,cs[k]? =some u->w.cell? ((Addr.add ⟨g,0,none⟩ (j*4)).add k)=some u:=by
 rcases h.2 with⟨h1,h0⟩|⟨g,cap,cur,Rb,_⟩
 ·have:=h.1;rw[ei hf.mz]at this;have:=(aE.1 hj).1;omega
 ·injection Rb with h1 h2 h3;subst h1;refine⟨g,rfl,fun k u hu=>?_⟩;have:=h.cells (g:=g) rfl (j*4+k) u (flat_get hf.mz hj k u hu);rw[dI,dI];rw[dI]at this;rw[Nat.add_assoc];exact this
theorem yd:PG.underlying T.row=some (.slice T.dy):=(hτ T.row _ rfl).i4 rfl
def upto(i:Nat)(f:Rat->Rat)(qs:List Rat):List Rat:=qs.mapIdx fun j q=>if j<i then f q else q
theorem Jl(f:Rat->Rat)(qs:List Rat):upto 0 f qs=qs:=by
 apply bH;intro j;simp[upto]
theorem MI(f:Rat->Rat)(qs:List Rat):upto qs.length f qs=qs.map f:=by
 apply bH;intro j;simp only[upto,List.getElem?_mapIdx,aM]
 cases h:qs[j]? with
 |none=>rfl
 |some q=>simp[(aE.1 h).1]
theorem Jm{f:Rat->Rat}(h:qs[i]? =some q):(upto i f qs).set i (f q)=upto (i+1) f qs:=by
 apply bH;intro j;have hi:=(aE.1 h).1;by_cases Pj:i=j
 ·subst Pj;rw[aQ (by simp[upto];exact hi)];simp[upto,List.getElem?_mapIdx,h]
 ·rw[aY Pj];simp only[upto,List.getElem?_mapIdx]
  have:(j<i)↔(j<i+1):=by omega
  simp[this]
theorem NZ{f:Rat->Rat}:(upto i f qs)[i]? =qs[i]? :=by
 simp only[upto,List.getElem?_mapIdx]
 cases qs[i]? <;>simp
theorem dc{w1 w2:World}{row:Option Nat}(h:w.grownBy w1 row)(k:dq w.heap.size w1 w2):w.grownBy w2 row:=
 ⟨k.os.trans h.os,k.tape.trans h.tape,k.output.trans h.output,aX h.size k.size,fun b hb hn=>(k.block b hb).trans (h.block b hb hn)⟩
theorem I8{vby:Value}(hS:Old S w)(OV:w.ownsRow 0 T.dy 4 v n css.flatten)(PS:Fr w S css qs)(Pf:css.length=n)(Oq:cZ w S vby p)
  (VI:∀g,v.ownBlock=some g->¬S g) (hq:∀q∈qs,rl q<=10000000000) (hb:rl p<=10000000000):
  eG PG N.pI #[v,vby] w (fun e w2=>e= .returned (.tuple #[])∧w.grownBy w2 v.ownBlock∧∃css',w2.ownsRow 0 T.dy 4 v n css'.flatten∧css'.length=n∧Fr w2 (Nw S w w2) css' (qs.map (· *p))):=by
 have Oa:∀g,v.ownBlock=some g->g<w.heap.size:=fun g hg=>(ownsRow.low OV g hg).2;have PK:∀iv g,v.ownBlock=some g->Out w.heap.size iv g:=fun iv g hg=>.inl (Oa g hg);have Su:∀iv g,v.ownBlock=some g->¬Cv S w.heap.size iv g:=fun iv g hg h=>by
  rcases h with h|⟨h,_⟩
  ·exact VI g hg h
  ·have:=Oa g hg;omega
 have Ty:n<=maxLen:=by
  rcases OV.2 with⟨_,h0⟩|⟨_,_,_,_,_,_,h1,h2,_⟩
  ·omega
  ·omega
 unfold maxLen at Ty;have SJ:qs.length=n:=by rw[<-PS.1,Pf]
 obtain⟨a,c,rfl,TF⟩:=fF OV;obtain⟨b1,a1,n1,c1,b2,a2,n2,c2,rfl⟩:=Oq.shape;replace PS:=PS.arg [];replace Oq:=Oq.arg [];refine sj (by simp) ?_;conv=>whnf
 refine⟨Nat×List (List Value)×Iv×World,fun z=>⟨[(0,sV a n c),(3,pP 0 0),(6,sV a n c),(7,iZ n),(8,iZ z.1)],
   [(0,.box T.dy [.v (.bool b1),.v (.slice a1 n1 c1),.v (.bool b2),.v (.slice a2 n2 c2)])],1,z.2.2.1,z.2.2.2⟩,fun z=>n-z.1,
  fun z=>z.1<=n∧w.grownBy z.2.2.2 (Value.slice a n c).ownBlock∧z.2.2.2.ownsRow 0 T.dy 4 (.slice a n c) n z.2.1.flatten∧z.2.1.length=n∧Fr z.2.2.2 (Cv S w.heap.size z.2.2.1) z.2.1 (upto z.1 (· *p) qs)∧
   cZ z.2.2.2 (Cv S w.heap.size z.2.2.1) (.agg #[.bool b1,.slice a1 n1 c1,.bool b2,.slice a2 n2 c2]) p,?_,?_⟩
 ·intro O w' r
  refine⟨(0,css,[],w'),⟨by simp,mc r.cU,fa OV (PK []) r,Pf,by rw[Jl];exact PS.rel r hS,Oq.rel r hS⟩,
   Sub.gn [] r⟩
 clear OV PS Oq Pf;rintro⟨i,css,iv,w1⟩ ⟨hi,hg,OV,Pf,PS,Oq⟩;dsimp only at hi hg OV Pf PS Oq ⊢;conv=>whnf
 refine dN.mk ?_ ?_<;>intro h
 ·have h:i<n:=by simpa using h
  obtain⟨cs,PI⟩:∃cs,css[i]? =some cs:=⟨_,aA (by omega)⟩
  obtain⟨q,Rr⟩:∃q,qs[i]? =some q:=⟨_,aA (by omega)⟩
  have hF:=PS.2 i cs q PI (by rw[NZ];exact Rr);obtain⟨g,rfl,Oy⟩:=qp OV PS PI;obtain⟨d1,e1,m1,k1,d2,e2,m2,k2,rfl,hF⟩:=hF;have Wc:=hq q (aD Rr);conv=>whnf
  refine⟨⟨g,0,none⟩,rfl,by omega,?_⟩;conv=>whnf
  refine⟨[.bool d1,.slice e1 m1 k1,.bool d2,.slice e2 m2 k2],rfl,fun O w' r j x hx=>?_,?_⟩
  ·have:=qp (fa OV (PK iv) r) (PS.rel r hS) PI;obtain⟨g',h1,h2⟩:=this;injection h1 with h1;rw[<-h1]at h2;exact h2 j x hx
  conv=>whnf
  refine cH (cM (Φ:=fun _ w' v w2=>cZ w2 (Nf w' w2) v (q*p)) (fun O w' r=>BC (Rel.old r hS) (hF.rel r hS) (Oq.rel r hS) Wc hb) ?_);rintro O wa v1 wb r he PQ hP;have Rh:=hP.dF (S:=S) r.cG (iv:=(wa.heap.size,wb.heap.size)::iv) aG;replace Oq:=Oq.cK (iv':=(wa.heap.size,wb.heap.size)::iv) r hS he fun x hx=>aC _ hx;replace PS:=PS.cK (iv':=(wa.heap.size,wb.heap.size)::iv) r hS he fun x hx=>aC _ hx;have PL:wb.ownsRow 0 T.dy 4 (.slice (some ⟨g,0,none⟩) n c) n css.flatten:=ownsRow.cJ (fa OV (PK iv) r) fun b hb=>he.block b (by have:=Oa b hb;have:=r.cG;omega);replace hg:w.grownBy wb _:=dc hg PQ;clear r he hP PQ OV Oy;generalize (wa.heap.size,wb.heap.size)::iv=OX at*
  obtain⟨b5,a5,n5,c5,b6,a6,n6,c6,rfl⟩:=Rh.shape;conv=>whnf
  refine⟨⟨g,0,none⟩,rfl,by omega,?_⟩;conv=>whnf
  intro O w' r;have RO:=fa PL (PK OX) r;have hF5:=(Rh.rel r hS).four;obtain⟨g',Qg,OZ,QB,Ot,PH⟩:=j1 (nv:=[.bool b5,.slice a5 n5 c5,.bool b6,.slice a6 n6 c6]) RO rfl h rfl (by decide);injection Qg with Qg;injection Qg with Qg;subst Qg;have Q1:=gp (cs:=[.bool b5,.slice a5 n5 c5,.bool b6,.slice a6 n6 c6]) PS.mz (show i<css.length by omega);rw[Q1]at QB;have PM:∀x,Cv S w.heap.size OX x->(setCells w' ⟨g,i*4,none⟩ [.bool b5,.slice a5 n5 c5,.bool b6,.slice a6 n6 c6]).heap[x]? =w'.heap[x]? :=fun x hx=>
   Ot.block x (Rel.old r hS x hx) fun e=>Su OX g rfl (by injection e with e;rw[<-e];exact hx)
  have Ox:(⟨g,0,none⟩:Addr).add ((i:Int).toNat*4)=⟨g,i*4,none⟩:=by rw[aF,dI,aW]
  have VM:=((PS.rel r hS).cJ PM).set (j:=i) (hF5.cJ PM);rw[Jm (f:=(· *p)) Rr]at VM;have Sv:=(Oq.rel r hS).cJ PM;replace hg:w.grownBy (setCells w' ⟨g,i*4,none⟩ [.bool b5,.slice a5 n5 c5,.bool b6,.slice a6 n6 c6]) (some g):=ff (dc hg r.cU) Ot;have PR:=fun id b hb hn=>Rel.not r (fun _ h=>h) (PK OX g rfl) id b hb hn;have hwsz:=r.cG;clear r PS Oq Rh PL RO hF5 PM Q1 Ot;refine⟨by rw[Ox],fun k hk=>by rw[Ox];exact OZ k hk,fun id b hb hn=>by rw[Ox];exact PR id b hb hn,fun w2 Oz=>?_⟩;have Oz:w2=setCells w' ⟨g,i*4,none⟩ [.bool b5,.slice a5 n5 c5,.bool b6,.slice a6 n6 c6]:=by rw[Oz];exact congrArg (fun x=>setCells w' x _) Ox
  rw[<-Oz]at VM Sv QB hg PH;clear Oz OZ PR;conv=>whnf
  refine⟨((i+1:Nat):Int),wo,?_⟩;conv=>whnf
  intro ρ3 w3 r3
  exact⟨(i+1,css.set i [.bool b5,.slice a5 n5 c5,.bool b6,.slice a6 n6 c6],OX,w3),⟨h,dc hg r3.cU,fa QB (PK OX) r3,by simpa using Pf,VM.rel r3 hS,Sv.rel r3 hS⟩,
   Sub.gn [] r3,by dsimp only;omega⟩
 ·have h:i=n:=by
   have:¬i<n:=by simpa using h
   omega
  subst h;conv=>whnf
  intro ρ5 w5 r5;refine⟨rfl,dc hg r5.cU,css,fa OV (PK iv) r5,Pf,?_⟩;have:=(PS.rel r5 hS).cL (S':=Nw S w w5) fun g hg=>Cv.nw hg r5
  rwa [<-SJ,MI]at this
def iO(i:Nat)(f:Nat->Rat->Rat)(qs:List Rat):List Rat:=qs.mapIdx fun j q=>if j<i then f j q else q
theorem om(f:Nat->Rat->Rat)(qs:List Rat):iO 0 f qs=qs:=by
 apply bH;intro j;simp[iO]
theorem rL(f:Nat->Rat->Rat)(qs:List Rat):iO qs.length f qs=qs.mapIdx f:=by
 apply bH;intro j;simp only[iO,List.getElem?_mapIdx]
 cases h:qs[j]? with
 |none=>rfl
 |some q=>simp[(aE.1 h).1]
theorem lg{f:Nat->Rat->Rat}(h:qs[i]? =some q):(iO i f qs).set i (f i q)=iO (i+1) f qs:=by
 apply bH;intro j;have hi:=(aE.1 h).1;by_cases Pj:i=j
 ·subst Pj;rw[aQ (by simp[iO];exact hi)];simp[iO,List.getElem?_mapIdx,h]
 ·rw[aY Pj];simp only[iO,List.getElem?_mapIdx]
  have:(j<i)↔(j<i+1):=by omega
  simp[this]
theorem An{f:Nat->Rat->Rat}(h:qs[i]? =some q)(hf:f i q=q):iO i f qs=iO (i+1) f qs:=by
 rw[<-lg h,hf];apply bH;intro j;have hi:=(aE.1 h).1;by_cases Pj:i=j
 ·subst Pj;rw[aQ (by simp[iO];exact hi)];simp[iO,List.getElem?_mapIdx,h]
 ·rw[aY Pj]
theorem ue{f:Nat->Rat->Rat}(h:qs[i]? =some q):(iO i f qs)[i]? =some q:=by
 simp only[iO,List.getElem?_mapIdx,h]
 simp
def fU(w:World)(C S:Nat->Prop)(v:Value)(qs:List Rat):Prop:=∃css,iR w C 4 v css.flatten qs.length∧Fr w S css qs
section
variable{C C' S S':Nat->Prop}{H:Hp}{nx:Nat}{iv iv':Iv}{B:Nat}{w w' w2:World}{O:Nat->Sx.dw}{v:Value}{qs:List Rat}
theorem fU.cJ(h:fU w C S v qs)(hk:∀g,C g∨S g->w2.heap[g]? =w.heap[g]?):fU w2 C S v qs:=by
 obtain⟨css,h1,h2⟩:=h;exact⟨css,h1.cJ fun g hg=>hk g (.inl hg),h2.cJ fun g hg=>hk g (.inr hg)⟩
theorem fU.cL(h:fU w C S v qs)(hk:∀g,C g->C' g)(TG:∀g,S g->S' g):fU w C' S' v qs:=by
 obtain⟨css,h1,h2⟩:=h;exact⟨css,h1.cL hk,h2.cL TG⟩
theorem fU.rel(h:fU w (Cv C B iv) (Cv S B iv) v qs)(r:Rel H nx iv B w O w')(hC:∀g,C g->g<B)(hS:∀g,S g->g<B):fU w' (Cv C B iv) (Cv S B iv) v qs:=
 h.cJ fun _ hg=>hg.elim (Rel.same r hC) (Rel.same r hS)
theorem fU.cK(h:fU w (Cv C B iv) (Cv S B iv) v qs)(r:Rel H nx iv B w O w')(hC:∀g,C g->g<B)(hS:∀g,S g->g<B)(he:Ext w' w2)(hm:∀p,p∈iv->p∈iv'):fU w2 (Cv C B iv') (Cv S B iv') v qs:=
 ((h.rel r hC hS).cJ fun g hg=>he.block g (hg.elim (Rel.old r hC g) (Rel.old r hS g))).cL (fun _ hg=>hg.mono hm) (fun _ hg=>hg.mono hm)
theorem fU.arg(h:fU w C S v qs)(iv:Iv):fU w (Cv C w.heap.size iv) (Cv S w.heap.size iv) v qs:=h.cL (fun _ h=>.inl h) (fun _ h=>.inl h)
end
theorem fU.shape(h:fU w C S v qs):∃a c,v= .slice a qs.length c∧qs.length<=c∧qs.length<=maxLen:=by
 obtain⟨css,⟨h0,_,_,a,c,h1,h2,_⟩,_⟩:=h;exact⟨a,c,h1,h2,h0⟩
theorem fU.load{c:Nat}(h:fU w C S (.slice a n c) qs)(hq:qs[j]? =some q):
  ∃ad cs,a=some ad∧ns w S cs q∧∀k u,cs[k]? =some u->C ad.block∧w.cell? ((ad.add (j*4)).add k)=some u:=by
 obtain⟨css,⟨h0,h1,h2,a',c',e,h3,h4⟩,hf⟩:=h;injection e with e1 e2 e3;subst e1;obtain⟨cs,PI⟩:∃cs,css[j]? =some cs:=⟨_,aA (by rw[hf.1];exact(aE.1 hq).1)⟩
 have hF:=hf.2 j cs q PI hq;have hl:=hF.len;obtain⟨ad,k1,k2,k3⟩:=h4 (j*4+0) _ (flat_get hf.mz PI 0 _ (aA (show 0<cs.length by omega)));refine⟨ad,cs,k1,hF,fun k u hu=>?_⟩;obtain⟨ad2,m1,m2,m3⟩:=h4 (j*4+k) u (flat_get hf.mz PI k u hu);rw[k1]at m1;injection m1 with m1;subst m1;refine⟨m2,?_⟩;rw[<-m3];have:(ad.add (j*4)).add k=ad.add (j*4+k):=by
  unfold Addr.add;split<;>split<;>simp_all<;>omega
 rw[this]
def ox(p:Rat)(ps:List Rat)(j:Nat)(q:Rat):Rat:=q+p*ps.getD j 0
theorem GG(ps qs:List Rat):qs.mapIdx (ox 0 ps)=qs:=by
 apply bH;intro j;rw[List.getElem?_mapIdx]
 cases qs[j]? with
 |none=>rfl
 |some q=>exact congrArg some (by rw[ox,bI,bQ])
theorem aAd{vby vs:Value}{ps:List Rat}(hC:Old C w)(hS:Old S w)(OV:w.ownsRow 0 T.dy 4 v n css.flatten)(PS:Fr w S css qs)(Pf:css.length=n)(Oq:cZ w S vby p)
  (hs:fU w C S vs ps) (Pb:ps.length=n) (VI:∀g,v.ownBlock=some g->¬S g) (hdc:∀g,v.ownBlock=some g->¬C g) (hq:∀q∈qs,rl q<=2000000000) (hps:∀q∈ps,rl q<=2000000000) (hb:rl p<=2000000000):
  eG PG N.sD #[v,vby,vs] w (fun e w2=>e= .returned (.tuple #[])∧w.grownBy w2 v.ownBlock∧∃css',w2.ownsRow 0 T.dy 4 v n css'.flatten∧css'.length=n∧Fr w2 (Nw S w w2) css' (qs.mapIdx (ox p ps))):=by
 have Oa:∀g,v.ownBlock=some g->g<w.heap.size:=fun g hg=>(ownsRow.low OV g hg).2;have PK:∀iv g,v.ownBlock=some g->Out w.heap.size iv g:=fun iv g hg=>.inl (Oa g hg);have Su:∀iv g,v.ownBlock=some g->¬Cv S w.heap.size iv g:=fun iv g hg h=>by
  rcases h with h|⟨h,_⟩
  ·exact VI g hg h
  ·have:=Oa g hg;omega
 have VJ:∀iv g,v.ownBlock=some g->¬Cv C w.heap.size iv g:=fun iv g hg h=>by
  rcases h with h|⟨h,_⟩
  ·exact hdc g hg h
  ·have:=Oa g hg;omega
 have SJ:qs.length=n:=by rw[<-PS.1,Pf]
 obtain⟨a,c,rfl,TF⟩:=fF OV;obtain⟨b1,a1,n1,c1,b2,a2,n2,c2,rfl⟩:=Oq.shape;obtain⟨asl,cs0,rfl,R1,Ty⟩:=hs.shape;rw[Pb]at R1 Ty hs ⊢;unfold maxLen at Ty;replace PS:=PS.arg [];replace Oq:=Oq.arg [];replace hs:=hs.arg [];refine wD (by simp) ?_;conv=>whnf
 refine cH (cM (Φ:=fun _ _ v _=>v= .int .i64 (rs p)) (fun O w' r=>uy (Rel.old r hS) (Oq.rel r hS)) ?_);rintro O wa v1 wb r he PQ rfl;replace Oq:=Oq.cK (iv':=(wa.heap.size,wb.heap.size)::[]) r hS he fun x hx=>aC _ hx;replace PS:=PS.cK (iv':=(wa.heap.size,wb.heap.size)::[]) r hS he fun x hx=>aC _ hx;replace hs:=hs.cK (iv':=(wa.heap.size,wb.heap.size)::[]) r hC hS he fun x hx=>aC _ hx;have PL:wb.ownsRow 0 T.dy 4 (.slice a n c) n css.flatten:=ownsRow.cJ (fa OV (PK []) r) fun b hb=>he.block b (by have:=Oa b hb;have:=r.cG;omega);have hg:w.grownBy wb (Value.slice a n c).ownBlock:=mc PQ;clear r he PQ OV;generalize (wa.heap.size,wb.heap.size)::[]=iv at*
 conv=>whnf
 refine dN.mk ?_ ?_<;>intro h0
 ·have h0:p=0:=by
   have:rs p=0:=eq_of_beq h0;exact Rat.num_eq_zero.1 (bm.1 this)
  conv=>whnf
  intro ρ5 w5 r5;refine⟨rfl,dc hg r5.cU,css,fa PL (PK iv) r5,Pf,?_⟩;have:=(PS.rel r5 hS).cL (S':=Nw S w w5) fun g hg=>Cv.nw hg r5;rw[h0,GG];exact this
 clear h0;conv=>whnf
 refine⟨Nat×List (List Value)×Iv×World,fun z=>⟨[(0,sV a n c),(4,pP 0 0),(11,sV asl n cs0),(12,iZ n),(13,iZ z.1)],
   [(0,.box T.dy [.v (.bool b1),.v (.slice a1 n1 c1),.v (.bool b2),.v (.slice a2 n2 c2)])],1,z.2.2.1,z.2.2.2⟩,fun z=>n-z.1,
  fun z=>z.1<=n∧w.grownBy z.2.2.2 (Value.slice a n c).ownBlock∧z.2.2.2.ownsRow 0 T.dy 4 (.slice a n c) n z.2.1.flatten∧z.2.1.length=n∧Fr z.2.2.2 (Cv S w.heap.size z.2.2.1) z.2.1 (iO z.1 (ox p ps) qs)∧
   cZ z.2.2.2 (Cv S w.heap.size z.2.2.1) (.agg #[.bool b1,.slice a1 n1 c1,.bool b2,.slice a2 n2 c2]) p∧fU z.2.2.2 (Cv C w.heap.size z.2.2.1) (Cv S w.heap.size z.2.2.1) (.slice asl n cs0) ps,?_,?_⟩
 ·intro O w' r
  refine⟨(0,css,iv,w'),⟨by simp,dc hg r.cU,fa PL (PK iv) r,Pf,by rw[om];exact PS.rel r hS,Oq.rel r hS,hs.rel r hC hS⟩,
   Sub.gn [] r⟩
 clear PL PS Oq Pf hs hg;rintro⟨i,css,iv,w1⟩ ⟨hi,hg,OV,Pf,PS,Oq,hs⟩;dsimp only at hi hg OV Pf PS Oq hs ⊢;conv=>whnf
 refine dN.mk ?_ ?_<;>intro h
 ·have h:i<n:=by simpa using h
  obtain⟨cs,PI⟩:∃cs,css[i]? =some cs:=⟨_,aA (by omega)⟩
  obtain⟨q,Rr⟩:∃q,qs[i]? =some q:=⟨_,aA (by omega)⟩
  obtain⟨f,TS⟩:∃f,ps[i]? =some f:=⟨_,aA (by omega)⟩
  have hF:=PS.2 i cs q PI (ue Rr);have VK:ox p ps i q=q+p*f:=by simp[ox,List.getD,TS]
  obtain⟨d1,e1,m1,k1,d2,e2,m2,k2,rfl,hF⟩:=hF;have Wc:=hq q (aD Rr);have hrlf:=hps f (aD TS);obtain⟨ad,fcs,Ox,UB,PA⟩:=hs.load TS;obtain⟨f1,g1,o1,u1,f2,g2,o2,u2,rfl,UB⟩:=UB;conv=>whnf
  refine⟨ad,Ox,by omega,?_⟩;conv=>whnf
  refine⟨[.bool f1,.slice g1 o1 u1,.bool f2,.slice g2 o2 u2],rfl,fun O w' r j x hx=>?_,?_⟩
  ·have Qa:=hs.rel r hC hS;obtain⟨k2',k3⟩:=PA j x hx;have:=Rel.same r hC k2';rw[aF,cI (w:=w1) (w2:=w') (by rw[dC,dC];exact this)];exact k3
  conv=>whnf
  refine cH (cM (Φ:=fun _ _ v _=>v= .int .i64 (rs f)) (fun O w' r=>uy (Rel.old r hS) (UB.rel r hS)) ?_);rintro O wa v1 wb r he PQ rfl;replace Oq:=Oq.cK (iv':=(wa.heap.size,wb.heap.size)::iv) r hS he fun x hx=>aC _ hx;replace PS:=PS.cK (iv':=(wa.heap.size,wb.heap.size)::iv) r hS he fun x hx=>aC _ hx;replace hs:=hs.cK (iv':=(wa.heap.size,wb.heap.size)::iv) r hC hS he fun x hx=>aC _ hx;replace UB:=UB.cK (iv':=(wa.heap.size,wb.heap.size)::iv) r hS he fun x hx=>aC _ hx;replace hF:=hF.cK (iv':=(wa.heap.size,wb.heap.size)::iv) r hS he fun x hx=>aC _ hx;replace OV:wb.ownsRow 0 T.dy 4 (.slice a n c) n css.flatten:=ownsRow.cJ (fa OV (PK iv) r) fun b hb=>he.block b (by have:=Oa b hb;have:=r.cG;omega);replace hg:w.grownBy wb _:=dc hg PQ;clear r he PQ PA;generalize (wa.heap.size,wb.heap.size)::iv=OX at*
  conv=>whnf
  refine dN.mk ?_ ?_<;>intro hz
  ·conv=>whnf
   refine cQ hτ dx [.x 0,.x 1,.x 2,.x 3,.x 4,.x 5,.x 6,.x 7,.x 8,.x 9,.x 10,.x 11] (by kernel_rfl) (by kernel_rfl) ?_;conv=>whnf
   obtain⟨g,rfl,Oy⟩:=qp OV PS PI;refine⟨⟨g,0,none⟩,rfl,by omega,?_⟩;conv=>whnf
   refine⟨[.bool d1,.slice e1 m1 k1,.bool d2,.slice e2 m2 k2],rfl,fun O w' r j x hx=>?_,?_⟩
   ·have:=qp (fa OV (PK OX) r) (PS.rel r hS) PI;obtain⟨g',h1,h2⟩:=this;injection h1 with h1;rw[<-h1]at h2;exact h2 j x hx
   conv=>whnf
   have RK:=ic p f;refine cM (Φ:=fun _ w' v w2=>cZ w2 (Nf w' w2) v (p*f)) (fun O w' r=>BC (Rel.old r hS) (Oq.rel r hS) (UB.rel r hS) (by omega) (by omega)) ?_;rintro O wa v1 wb r he PQ hP;have Rh:=hP.dF (S:=S) r.cG (iv:=(wa.heap.size,wb.heap.size)::OX) aG;replace Oq:=Oq.cK (iv':=(wa.heap.size,wb.heap.size)::OX) r hS he fun x hx=>aC _ hx;replace PS:=PS.cK (iv':=(wa.heap.size,wb.heap.size)::OX) r hS he fun x hx=>aC _ hx;replace hs:=hs.cK (iv':=(wa.heap.size,wb.heap.size)::OX) r hC hS he fun x hx=>aC _ hx;replace hF:=hF.cK (iv':=(wa.heap.size,wb.heap.size)::OX) r hS he fun x hx=>aC _ hx;replace OV:wb.ownsRow 0 T.dy 4 (.slice (some ⟨g,0,none⟩) n c) n css.flatten:=ownsRow.cJ (fa OV (PK OX) r) fun b hb=>he.block b (by have:=Oa b hb;have:=r.cG;omega);replace hg:w.grownBy wb _:=dc hg PQ;clear r he PQ hP UB Oy;generalize (wa.heap.size,wb.heap.size)::OX=Oh at*
   obtain⟨b5,a5,n5,c5,b6,a6,n6,c6,rfl⟩:=Rh.shape;conv=>whnf
   refine cM (Φ:=fun _ w' v w2=>cZ w2 (Nf w' w2) v (q+p*f)) (fun O w' r=>EA (Rel.old r hS) (hF.rel r hS) (Rh.rel r hS) (by omega) (by omega)) ?_;rintro O wc v2 wd r he PQ hQ;have VL:=hQ.dF (S:=S) r.cG (iv:=(wc.heap.size,wd.heap.size)::Oh) aG;replace Oq:=Oq.cK (iv':=(wc.heap.size,wd.heap.size)::Oh) r hS he fun x hx=>aC _ hx;replace PS:=PS.cK (iv':=(wc.heap.size,wd.heap.size)::Oh) r hS he fun x hx=>aC _ hx;replace hs:=hs.cK (iv':=(wc.heap.size,wd.heap.size)::Oh) r hC hS he fun x hx=>aC _ hx;replace OV:wd.ownsRow 0 T.dy 4 (.slice (some ⟨g,0,none⟩) n c) n css.flatten:=ownsRow.cJ (fa OV (PK Oh) r) fun b hb=>he.block b (by have:=Oa b hb;have:=r.cG;omega);replace hg:w.grownBy wd _:=dc hg PQ;clear r he PQ hQ Rh hF;generalize (wc.heap.size,wd.heap.size)::Oh=On at*
   obtain⟨b7,a7,n7,c7,b8,a8,n8,c8,rfl⟩:=VL.shape;rw[<-VK]at VL;conv=>whnf
   refine⟨⟨g,0,none⟩,rfl,by omega,?_⟩;conv=>whnf
   intro O w' r;have RO:=fa OV (PK On) r;have hF5:=(VL.rel r hS).four;obtain⟨g',Qg,OZ,QB,Ot,PH⟩:=j1 (nv:=[.bool b7,.slice a7 n7 c7,.bool b8,.slice a8 n8 c8]) RO rfl h rfl (by decide);injection Qg with Qg;injection Qg with Qg;subst Qg;have Q1:=gp (cs:=[.bool b7,.slice a7 n7 c7,.bool b8,.slice a8 n8 c8]) PS.mz (show i<css.length by omega);rw[Q1]at QB;have PM:∀x,Cv S w.heap.size On x->(setCells w' ⟨g,i*4,none⟩ [.bool b7,.slice a7 n7 c7,.bool b8,.slice a8 n8 c8]).heap[x]? =w'.heap[x]? :=fun x hx=>
    Ot.block x (Rel.old r hS x hx) fun e=>Su On g rfl (by injection e with e;rw[<-e];exact hx)
   have PY:(⟨g,0,none⟩:Addr).add ((i:Int).toNat*4)=⟨g,i*4,none⟩:=by rw[aF,dI,aW]
   have VM:=((PS.rel r hS).cJ PM).set (j:=i) (hF5.cJ PM);rw[lg (f:=ox p ps) Rr]at VM;have Sv:=(Oq.rel r hS).cJ PM;have Sf:∀x,Cv C w.heap.size On x->(setCells w' ⟨g,i*4,none⟩ [.bool b7,.slice a7 n7 c7,.bool b8,.slice a8 n8 c8]).heap[x]? =w'.heap[x]? :=fun x hx=>
    Ot.block x (Rel.old r hC x hx) fun e=>VJ On g rfl (by injection e with e;rw[<-e];exact hx)
   have hs6:=(hs.rel r hC hS).cJ fun x hx=>hx.elim (Sf x) (PM x);clear Sf;replace hg:w.grownBy (setCells w' ⟨g,i*4,none⟩ [.bool b7,.slice a7 n7 c7,.bool b8,.slice a8 n8 c8]) (some g):=ff (dc hg r.cU) Ot;have PR:=fun id b hb hn=>Rel.not r (fun _ h=>h) (PK On g rfl) id b hb hn;clear r PS Oq VL OV RO hF5 PM Q1 Ot hs;refine⟨by rw[PY],fun k hk=>by rw[PY];exact OZ k hk,fun id b hb hn=>by rw[PY];exact PR id b hb hn,fun w2 Oz=>?_⟩;have Oz:w2=setCells w' ⟨g,i*4,none⟩ [.bool b7,.slice a7 n7 c7,.bool b8,.slice a8 n8 c8]:=by rw[Oz];exact congrArg (fun x=>setCells w' x _) PY
   rw[<-Oz]at VM Sv QB hg PH hs6;clear Oz OZ PR;conv=>whnf
   refine⟨((i+1:Nat):Int),wo,?_⟩;conv=>whnf
   intro ρ3 w3 r3
   exact⟨(i+1,css.set i [.bool b7,.slice a7 n7 c7,.bool b8,.slice a8 n8 c8],On,w3),⟨h,dc hg r3.cU,fa QB (PK On) r3,by simpa using Pf,VM.rel r3 hS,Sv.rel r3 hS,hs6.rel r3 hC hS⟩,
    Sub.gn [] r3,by dsimp only;omega⟩
  ·have hf0:f=0:=by
    have:rs f=0:=by
     have h1:(rs f==0)=true:=by simpa using hz
     exact eq_of_beq h1
    exact Rat.num_eq_zero.1 (bm.1 this)
   have Od:ox p ps i q=q:=by rw[VK,hf0,bD,bQ]
   conv=>whnf
   refine⟨((i+1:Nat):Int),wo,?_⟩;conv=>whnf
   intro ρ3 w3 r3
   exact⟨(i+1,css,OX,w3),⟨h,dc hg r3.cU,fa OV (PK OX) r3,Pf,by rw[<-An Rr Od];exact PS.rel r3 hS,Oq.rel r3 hS,hs.rel r3 hC hS⟩,
    Sub.gn [] r3,by dsimp only;omega⟩
 ·have h:i=n:=by
   have:¬i<n:=by simpa using h
   omega
  subst h;conv=>whnf
  intro ρ5 w5 r5;refine⟨rfl,dc hg r5.cU,css,fa OV (PK iv) r5,Pf,?_⟩;have:=(PS.rel r5 hS).cL (S':=Nw S w w5) fun g hg=>Cv.nw hg r5
  rwa [<-SJ,rL]at this
end Go.Ex
namespace Go.Ex
variable{M:List (List Rat)}{s:List (List Rat)×List Nat}{cols h i n:Nat}
def dK(M:List (List Rat))(i c:Nat):Rat:=(M.getD i []).getD c 0
def fy(M:List (List Rat))(c:Nat):Nat->Nat->Nat
 |0,k=>k
 |f+1,k=>if dK M k c=0 then fy M c f (k+1)else k
def fc{α:Type}(d:α)(l:List α)(i j:Nat):List α:=(l.set i (l.getD j d)).set j (l.getD i d)
def pO(p:Rat)(ps:List Rat)(j:Nat)(q:Rat):Rat:=q+p*ps.getD j 0
def df(M:List (List Rat))(at_ c i:Nat):List (List Rat):=M.mapIdx fun j r=>if j<i∧j≠at_ then r.mapIdx (pO (-(r.getD c 0)) (M.getD at_ []))else r
def scaled(M:List (List Rat))(at_ c:Nat):List (List Rat):=M.set at_ ((M.getD at_ []).map (· *(1 / dK M at_ c)))
def dX(s:List (List Rat)×List Nat)(c:Nat):List (List Rat)×List Nat:=
 if s.2.length<s.1.length then
  let k:=fy s.1 c (s.1.length-s.2.length) s.2.length
  if k=s.1.length then s else
   let M1:=scaled (fc [] s.1 s.2.length k) s.2.length c
   (df M1 s.2.length c M1.length,s.2++[c])
 else s
def cN(M:List (List Rat))(cols:Nat):List (List Rat)×List Nat:=(List.range cols).foldl dX (M,[])
theorem zw{s:List (List Rat)×List Nat}(h:¬s.2.length<s.1.length):∀l:List Nat,l.foldl dX s=s
 |[]=>rfl
 |c::r=>by
  rw[List.foldl_cons];have:dX s c=s:=by rw[dX,aJ h]
  rw[this];exact zw h r
theorem fQ{α:Type}(d:α)(l:List α)(i j:Nat):(fc d l i j).length=l.length:=by simp[fc]
theorem lZ(M:List (List Rat))(a c i:Nat):(df M a c i).length=M.length:=by simp[df]
theorem ix(M:List (List Rat))(a c:Nat):(scaled M a c).length=M.length:=by simp[scaled]
theorem lA(s:List (List Rat)×List Nat)(c:Nat):(dX s c).1.length=s.1.length:=by
 unfold dX;split
 ·dsimp only
  split
  ·rfl
  ·dsimp only
   rw[lZ,ix,fQ]
 ·rfl
theorem KX(s:List (List Rat)×List Nat)(c:Nat)(h:s.2.length<=s.1.length):(dX s c).2.length<=(dX s c).1.length:=by
 rw[lA];unfold dX;split
 ·dsimp only
  split
  ·exact h
  ·simp;omega
 ·exact h
theorem ta(M:List (List Rat))(c:Nat):∀f k,k<=fy M c f k∧fy M c f k<=k+f
 |0,k=>⟨Nat.le_refl _,Nat.le_refl _⟩
 |f+1,k=>by
  unfold fy;split
  ·have:=ta M c f (k+1);omega
  ·omega
theorem tc(M:List (List Rat))(c:Nat):∀f k,fy M c f k<k+f->dK M (fy M c f k) c≠0
 |0,k,h=>by simp[fy]at h
 |f+1,k,h=>by
  unfold fy at h ⊢;split
  ·rename_i h0;rw[if_pos h0]at h;exact tc M c f (k+1) (by omega)
  ·rename_i h0;exact h0
theorem zE{c f k:Nat}(h:dK M k c=0):fy M c (f+1) k=fy M c f (k+1):=by rw[fy,if_pos h]
theorem zG{c f k:Nat}(h:dK M k c≠0):fy M c (f+1) k=k:=by rw[fy,aJ h]
theorem DR(M:List (List Rat))(a c:Nat):df M a c 0=M:=by
 apply bH;intro j;simp[df]
theorem zM(M:List (List Rat))(a c i:Nat):(df M a c i)[a]? =M[a]? :=by
 simp only[df,List.getElem?_mapIdx]
 cases M[a]? <;>simp
theorem Gz(M:List (List Rat))(a c i j:Nat)(h:i<=j):(df M a c i)[j]? =M[j]? :=by
 simp only[df,List.getElem?_mapIdx]
 cases M[j]? with
 |none=>rfl
 |some r=>simp;omega
theorem DS{a c:Nat}{r:List Rat}(h:M[i]? =some r)(OY:i≠a):(df M a c i).set i (r.mapIdx (pO (-(r.getD c 0)) (M.getD a [])))=df M a c (i+1):=by
 apply bH;intro j;have hi:=(aE.1 h).1;by_cases Pj:i=j
 ·subst Pj;rw[aQ (by rw[lZ];exact hi)];simp[df,List.getElem?_mapIdx,h,OY]
 ·rw[aY Pj];simp only[df,List.getElem?_mapIdx]
  have:(j<i)↔(j<i+1):=by omega
  simp[this]
theorem DT(M:List (List Rat))(a c:Nat):df M a c a=df M a c (a+1):=by
 apply bH;intro j;simp only[df,List.getElem?_mapIdx]
 have:(j<a∧j≠a)↔(j<a+1∧j≠a):=by omega
 simp[this]
def Ht(M:List (List Rat))(h:Nat):Prop:=∀r∈M,∀q∈r,rl q+1<=h
theorem Ht.mono{h':Nat}(H:Ht M h)(k:h<=h'):Ht M h':=fun r hr q hq=>aX (H r hr q hq) k
theorem Ht.at{r:List Rat}(H:Ht M h)(hi:M[i]? =some r):∀q∈r,rl q+1<=h:=H r (aD hi)
theorem Ht.swap{j:Nat}(H:Ht M h)(hi:i<M.length)(hj:j<M.length):Ht (fc [] M i j) h:=by
 intro r hr;have:r∈M:=by
  unfold fc at hr;rcases av hr with h1|h1
  ·rcases av h1 with h2|h2
   ·exact h2
   ·rw[h2,List.getD,aA hj];exact ah hj
  ·rw[h1,List.getD,aA hi];exact ah hi
 exact H r this
theorem LI:rl 1=1:=by decide
theorem zx{q:Rat}(h:q≠0):rl (1 / q)<=rl q+1:=by
 have:=LD 1 h;rw[LI]at this;omega
theorem lD{r:List Rat}(H:∀q∈r,rl q+1<=h)(h2:2<=h)(c:Nat):rl (r.getD c 0)+1<=h:=by
 rw[List.getD]
 cases hc:r[c]? with
 |none=>simp;exact aX (by decide) h2
 |some q=>simp;exact H q (aD hc)
theorem CF{j:Nat}(hi:i<M.length)(hj:j<M.length):(fc [] M i j)[i]? =M[j]? :=by
 unfold fc;by_cases h:j=i
 ·subst h;rw[aQ (by simpa using hi),List.getD,aA hi];rfl
 ·rw[aY h,aQ hi,List.getD,aA hj];rfl
theorem zL{j c:Nat}(hi:i<M.length)(hj:j<M.length):dK (fc [] M i j) i c=dK M j c:=by
 simp only[dK,List.getD,CF hi hj]
theorem Ht.scaled{a c:Nat}(H:Ht M h)(h2:2<=h)(ha:a<M.length)(h0:dK M a c≠0):
  (∀r,(scaled M a c)[a]? =some r->∀q∈r,rl q+1<=2*h)∧∀j r,j≠a->(scaled M a c)[j]? =some r->∀q∈r,rl q+1<=h:=by
 have hA:M[a]? =some M[a]:=aA ha;have R4:M.getD a []=M[a]:=by rw[List.getD,hA];rfl
 refine⟨fun r hr q hq=>?_,fun j r hj hr q hq=>?_⟩
 ·unfold Go.Ex.scaled at hr;rw[aQ ha]at hr;injection hr with hr;subst hr;obtain⟨p,hp,rfl⟩:=aV.1 hq;rw[R4]at hp;have h1:=H.at hA p hp;have h3:=ic p (1 / dK M a c);have h4:=zx h0;have h5:=lD (H.at hA) h2 c;have h6:dK M a c=M[a].getD c 0:=by rw[dK,R4]
  rw[h6]at h4 h3;rw[h6];omega
 ·unfold Go.Ex.scaled at hr;rw[aY (Ne.symm hj)]at hr;exact H.at hr q hq
theorem Ht.IQ{a c:Nat}(hA:∀r,M[a]? =some r->∀q∈r,rl q+1<=2*h)(hB:∀j r,j≠a->M[j]? =some r->∀q∈r,rl q+1<=h)(h2:2<=h):Ht (df M a c i) (4*h):=by
 intro r hr q hq;obtain⟨j,hj⟩:=aN hr;simp only[df,List.getElem?_mapIdx,Option.map_eq_some_iff]at hj;obtain⟨r0,WX,hj⟩:=hj;split at hj
 ·rename_i hc;subst hj;obtain⟨x,hx⟩:=aN hq;simp only[List.getElem?_mapIdx,Option.map_eq_some_iff]at hx;obtain⟨q0,WY,rfl⟩:=hx;have h1:=hB j r0 hc.2 WX q0 (aD WY);have h3:=lD (hB j r0 hc.2 WX) h2 c;have h4:rl ((M.getD a []).getD x 0)+1<=2*h:=by
   cases hM:M[a]? with
   |none=>
    have:M.getD a []=[]:=by rw[List.getD,hM];rfl
    rw[this];show rl 0+1<=_;exact aX (by decide) (show 2<=2*h by omega)
   |some ra=>
    have:M.getD a []=ra:=by rw[List.getD,hM];rfl
    rw[this];exact lD (hA ra hM) (by omega) x
  unfold pO;have h5:=mw q0 (-(r0.getD c 0)*(M.getD a []).getD x 0);have h6:=ic (-(r0.getD c 0)) ((M.getD a []).getD x 0);have h7:=oZ (r0.getD c 0);omega
 ·subst hj;by_cases WZ:j=a
  ·subst WZ;have:=hA r0 WX q hq;omega
  ·have:=hB j r0 WZ WX q hq;omega
def Inv(M:List (List Rat))(cols h0:Nat)(s:List (List Rat)×List Nat):Prop:=s.1.length=M.length∧s.2.length<=M.length∧(∀p∈s.2,p<cols)∧Ht s.1 (4^s.2.length*h0)
theorem Inv.step{h0 c:Nat}(h:Inv M cols h0 s)(hc:c<cols)(h2:2<=h0):Inv M cols h0 (dX s c):=by
 obtain⟨h1,h3,h4,h5⟩:=h;unfold dX;split
 ·rename_i PF;dsimp only
  split
  ·exact⟨h1,h3,h4,h5⟩
  ·rename_i hk;have hle:=ta s.1 c (s.1.length-s.2.length) s.2.length;have Vz:fy s.1 c (s.1.length-s.2.length) s.2.length<s.1.length:=by omega
   have OY:=tc s.1 c (s.1.length-s.2.length) s.2.length (by omega);have hH2:2<=4^s.2.length*h0:=aX h2 (Nat.le_mul_of_pos_left _ (Nat.pow_pos (by decide)));have h6:=h5.swap PF Vz;have h7:=h6.scaled (a:=s.2.length) (c:=c) hH2 (by rw[fQ];exact PF) (by rw[zL PF Vz];exact OY);refine⟨by dsimp only;rw[lZ,ix,fQ,h1],by simp;omega,fun p hp=>?_,?_⟩
   ·dsimp only at hp;rcases bE.1 hp with hp|hp
    ·exact h4 p hp
    ·simp at hp;omega
   ·dsimp only
    have:4^(s.2++[c]).length*h0=4*(4^s.2.length*h0):=by
     rw[List.length_append,List.length_singleton,Nat.pow_succ,bT (4^s.2.length) 4,bg]
    rw[this];exact Ht.IQ h7.1 h7.2 hH2
 ·exact⟨h1,h3,h4,h5⟩
theorem xC{h0:Nat}(h:Ht M h0)(h2:2<=h0):Inv M cols h0 (cN M cols):=by
 have key:∀(l:List Nat) (s:List (List Rat)×List Nat),(∀c∈l,c<cols)->Inv M cols h0 s->Inv M cols h0 (l.foldl dX s):=by
  intro l
  induction l with
  |nil=>intro s _ hs;exact hs
  |cons c r ih=>
   intro s hc hs;rw[List.foldl_cons];exact ih _ (fun x hx=>hc x (aC _ hx)) (hs.step (hc c aG) h2)
 exact key _ _ (fun c hc=>List.mem_range.1 hc) ⟨rfl,aR _,by simp,by simpa using h⟩
def gX(n:Nat)(M:List (List Rat)):Prop:=∀r∈M,r.length=n
theorem gX.set{r:List Rat}(h:gX n M)(hr:r.length=n):gX n (M.set i r):=fun x hx=>by
 rcases av hx with h1|h1
 ·exact h x h1
 ·rw[h1];exact hr
theorem gX.getD(h:gX n M)(hi:i<M.length):(M.getD i []).length=n:=by
 rw[List.getD,aA hi];exact h _ (ah hi)
theorem gX.step{c:Nat}(h:gX n s.1):gX n (dX s c).1:=by
 unfold dX;split
 ·rename_i PF;dsimp only
  split
  ·exact h
  ·rename_i hk;have hle:=ta s.1 c (s.1.length-s.2.length) s.2.length;have Vz:fy s.1 c (s.1.length-s.2.length) s.2.length<s.1.length:=by omega
   dsimp only
   generalize fy s.1 c (s.1.length-s.2.length) s.2.length=k at*
   have h1:gX n (fc [] s.1 s.2.length k):=(h.set (h.getD Vz)).set (h.getD PF);have h2:gX n (scaled (fc [] s.1 s.2.length k) s.2.length c):=h1.set (by rw[aL];exact h1.getD (by rw[fQ];exact PF));intro r hr;obtain⟨j,hj⟩:=aN hr;simp only[df,List.getElem?_mapIdx,Option.map_eq_some_iff]at hj;obtain⟨r0,WX,hj⟩:=hj;have h3:=h2 r0 (aD WX);split at hj
   ·subst hj;rw[List.length_mapIdx];exact h3
   ·subst hj;exact h3
 ·exact h
theorem mL(h:gX n M):gX n (cN M cols).1:=by
 have key:∀(l:List Nat) (s:List (List Rat)×List Nat),gX n s.1->gX n (l.foldl dX s).1:=by
  intro l
  induction l with
  |nil=>intro s hs;exact hs
  |cons c r ih=>intro s hs;exact ih _ hs.step
 exact key _ _ h
end Go.Ex
namespace Go.Ex
open Go Go.Sx Go.Proofs
variable{qs':List Rat}{i:Nat}
structure im(w:World)(S:Nat->Prop)(vm:Value)(rv:List Value)(n:Nat)(M:List (List Rat)):Prop where
 out:w.ownsRow 0 T.row 1 vm rv.length rv
 len:rv.length=M.length
 row:∀(i:Nat) v qs,rv[i]? =some v->M[i]? =some qs->∃css,w.ownsRow 0 T.dy 4 v n css.flatten∧css.length=n∧Fr w S css qs
 uf:∀(i j:Nat) a b g,rv[i]? =some a->rv[j]? =some b->a.ownBlock=some g->b.ownBlock=some g->i=j
 H4:∀v∈rv,∀g,v.ownBlock=some g->vm.ownBlock≠some g
def Mb(vm:Value)(rv:List Value)(g:Nat):Prop:=vm.ownBlock=some g∨∃v∈rv,v.ownBlock=some g
structure Kept(w w2:World)(X:Nat->Prop):Prop where
 os:w2.os=w.os
 tape:w2.tape=w.tape
 output:w2.output=w.output
 size:w.heap.size<=w2.heap.size
 block:∀k,k<w.heap.size->¬X k->w2.heap[k]? =w.heap[k]?
section
variable{S S' X:Nat->Prop}{H:Hp}{nx n:Nat}{iv iv':Iv}{B:Nat}{w w' w2 w3:World}{O:Nat->Sx.dw}{vm:Value}{rv:List Value}{M:List (List Rat)}
theorem Kept.refl:Kept w w X:=⟨rfl,rfl,rfl,Nat.le_refl _,fun _ _ _=>rfl⟩
theorem Kept.cU(h:dq B w2 w3)(k:Kept w w2 X)(hB:w.heap.size<=B):Kept w w3 X:=
 ⟨h.os.trans k.os,h.tape.trans k.tape,h.output.trans k.output,aX k.size h.size,fun j hj hx=>(h.block j (by omega)).trans (k.block j hj hx)⟩
theorem Kept.row{row:Option Nat}(h:Kept w w2 X)(k:w2.grownBy w3 row)(hX:∀g,row=some g->X g):Kept w w3 X:=
 ⟨k.os.trans h.os,k.tape.trans h.tape,k.output.trans h.output,aX h.size k.size,fun j hj hx=>(k.block j (Nat.lt_of_lt_of_le hj h.size) (fun e=>hx (hX j e.symm))).trans (h.block j hj hx)⟩
theorem im.cJ(h:im w S vm rv n M)(hk:∀g,S g∨Mb vm rv g->w2.heap[g]? =w.heap[g]?):im w2 S vm rv n M:=by
 refine⟨ownsRow.cJ h.out fun g hg=>hk g (.inr (.inl hg)),h.len,fun i v qs h1 h2=>?_,h.uf,h.H4⟩;obtain⟨css,h3,h4,h5⟩:=h.row i v qs h1 h2;exact⟨css,ownsRow.cJ h3 fun g hg=>hk g (.inr (.inr ⟨v,aD h1,hg⟩)),h4,h5.cJ fun g hg=>hk g (.inl hg)⟩
theorem im.cL(h:im w S vm rv n M)(hk:∀g,S g->S' g):im w S' vm rv n M:=
 ⟨h.out,h.len,fun i v qs h1 h2=>(h.row i v qs h1 h2).imp fun _ h=>⟨h.1,h.2.1,h.2.2.cL hk⟩,h.uf,h.H4⟩
theorem im.low(h:im w S vm rv n M):∀g,Mb vm rv g->g<w.heap.size:=fun g hg=>by
 rcases hg with hg|⟨v,hv,hg⟩
 ·exact(ownsRow.low h.out g hg).2
 ·obtain⟨i,hi⟩:=aN hv;have hl:=(aE.1 hi).1;obtain⟨css,h1,_⟩:=h.row i v _ hi (aA (by rw[<-h.len];exact hl));exact(ownsRow.low h1 g hg).2
theorem im.rel(h:im w (Cv S B iv) vm rv n M)(r:Rel H nx iv B w O w')(hS:∀g,S g->g<B)(hm:∀g,Mb vm rv g->g<B):im w' (Cv S B iv) vm rv n M:=
 h.cJ fun _ hg=>hg.elim (Rel.same r hS) (fun hg=>Rel.same (S:=fun g=>g<B) r (fun _ h=>h) (.inl (hm _ hg)))
theorem im.cK(h:im w (Cv S B iv) vm rv n M)(r:Rel H nx iv B w O w')(hS:∀g,S g->g<B)(hm:∀g,Mb vm rv g->g<B)(he:Ext w' w2)(hi:∀p,p∈iv->p∈iv'):im w2 (Cv S B iv') vm rv n M:=
 ((h.rel r hS hm).cJ fun g hg=>he.block g (hg.elim (Rel.old r hS g) (oS hm r g))).cL fun _ hg=>hg.mono hi
theorem im.setRow(h:im w S vm rv n M)(hS:Old S w)(RT:∀g,S g->¬Mb vm rv g){v:Value}(hv:rv[i]? =some v)(hg:w.grownBy w2 v.ownBlock)(hSS:∀g,S g->S' g)
  (OV:∃css,w2.ownsRow 0 T.dy 4 v n css.flatten∧css.length=n∧Fr w2 S' css qs'):im w2 S' vm rv n (M.set i qs'):=by
 have Oa:=h.low;have QE:∀g,g<w.heap.size->v.ownBlock≠some g->w2.heap[g]? =w.heap[g]? :=fun g h1 h2=>hg.block g h1 (Ne.symm h2);refine⟨ownsRow.cJ h.out fun g Qd=>QE g (Oa g (.inl Qd)) (fun e=>h.H4 v (aD hv) g e Qd),by rw[h.len];simp,fun j u qs h1 h2=>?_,h.uf,h.H4⟩;by_cases Pj:i=j
 ·subst Pj;rw[hv]at h1;injection h1 with h1;subst h1;have hl:=(aE.1 hv).1;rw[aQ (by rw[<-h.len];exact hl)]at h2;injection h2 with h2;subst h2;exact OV
 ·rw[aY Pj]at h2;obtain⟨css,h3,h4,h5⟩:=h.row j u qs h1 h2;refine⟨css,ownsRow.cJ h3 fun g hgu=>QE g (ownsRow.low h3 g hgu).2 (fun e=>Pj (h.uf i j v u g hv h1 e hgu)),h4,(h5.cJ fun g hgs=>?_).cL hSS⟩;exact QE g (hS g hgs) fun e=>RT g hgs (.inr ⟨v,aD hv,e⟩)
theorem im.swap(h:im w S vm rv n M)(RT:∀g,S g->¬Mb vm rv g){j:Nat}{a b:Value}(hi:rv[i]? =some a)(hj:rv[j]? =some b)(PK:w2.ownsRow 0 T.row 1 vm rv.length ((rv.set i b).set j a))(QE:∀g,S g∨Mb vm rv g->vm.ownBlock≠some g->w2.heap[g]? =w.heap[g]?):
  im w2 S vm ((rv.set i b).set j a) n (fc [] M i j):=by
 have Ts:=(aE.1 hi).1;have SA:=(aE.1 hj).1;have TK:M.getD i []=M[i]'(by rw[<-h.len];exact Ts):=by rw[List.getD,aA (by rw[<-h.len];exact Ts)];rfl
 have hmj:M.getD j []=M[j]'(by rw[<-h.len];exact SA):=by rw[List.getD,aA (by rw[<-h.len];exact SA)];rfl
 have key:∀k v qs,((rv.set i b).set j a)[k]? =some v->(fc [] M i j)[k]? =some qs->∃k',rv[k']? =some v∧M[k']? =some qs∧k'=(if k=j then i else if k=i then j else k):=by
  intro k v qs h1 h2;unfold fc at h2;rw[TK,hmj]at h2;by_cases TP:j=k
  ·subst TP;rw[aQ (by simp;exact SA)]at h1;rw[aQ (by simp;rw[<-h.len];exact SA)]at h2;injection h1 with h1;injection h2 with h2;subst h1 h2;exact⟨i,hi,aA _,by simp⟩
  ·rw[aY TP]at h1 h2;by_cases Vx:i=k
   ·subst Vx;rw[aQ Ts]at h1;rw[aQ (by rw[<-h.len];exact Ts)]at h2;injection h1 with h1;injection h2 with h2;subst h1 h2;exact⟨j,hj,aA _,by rw[aJ (Ne.symm TP),if_pos rfl]⟩
   ·rw[aY Vx]at h1 h2;exact⟨k,h1,h2,by rw[aJ (Ne.symm TP),aJ (Ne.symm Vx)]⟩
 have hlen:((rv.set i b).set j a).length=rv.length:=by simp
 have XW:(fc [] M i j).length=rv.length:=by rw[fQ,h.len]
 have keyv:∀k v,((rv.set i b).set j a)[k]? =some v->∃k',rv[k']? =some v∧k'=(if k=j then i else if k=i then j else k):=fun k v h1=>by
  have hl:=(aE.1 h1).1;obtain⟨k',h2,_,h3⟩:=key k v _ h1 (aA (by rw[XW,<-hlen];exact hl));exact⟨k',h2,h3⟩
 refine⟨by rw[hlen];exact PK,by rw[hlen,XW],fun k v qs h1 h2=>?_,fun k1 k2 v1 v2 g h1 h2 e1 e2=>?_,fun v hv g hgv=>?_⟩
 ·obtain⟨k',h3,h4,_⟩:=key k v qs h1 h2;obtain⟨css,h5,h6,h7⟩:=h.row k' v qs h3 h4;have hvm:=h.H4 v (aD h3);exact⟨css,ownsRow.cJ h5 fun g hgu=>QE g (.inr (.inr ⟨v,aD h3,hgu⟩)) (hvm g hgu),h6,h7.cJ fun g hgs=>QE g (.inl hgs) fun e=>RT g hgs (.inl e)⟩
 ·obtain⟨k3,h3,h4⟩:=keyv k1 v1 h1;obtain⟨k5,h5,h6⟩:=keyv k2 v2 h2;have:=h.uf k3 k5 v1 v2 g h3 h5 e1 e2;split at h4<;>split at h6<;>(try split at h4)<;>(try split at h6)<;>omega
 ·obtain⟨k,hk⟩:=aN hv;obtain⟨k',h3,_⟩:=keyv k v hk;exact h.H4 v (aD h3) g hgv
theorem Mb.swap{j:Nat}{a b:Value}(hi:rv[i]? =some a)(hj:rv[j]? =some b){g:Nat}:Mb vm ((rv.set i b).set j a) g↔Mb vm rv g:=by
 have Ts:=(aE.1 hi).1;have SA:=(aE.1 hj).1;unfold Mb;refine or_congr Iff.rfl ⟨fun ⟨v,hv,h⟩=>⟨v,?_,h⟩,fun⟨v,hv,h⟩=>⟨v,?_,h⟩⟩
 ·rcases av hv with h1|h1
  ·rcases av h1 with h2|h2
   ·exact h2
   ·rw[h2];exact aD hj
  ·rw[h1];exact aD hi
 ·obtain⟨k,hk⟩:=aN hv;by_cases TP:k=j
  ·subst TP;rw[hj]at hk;injection hk with hk;subst hk;by_cases hik:i=k
   ·subst hik;rw[hi]at hj;injection hj with hj;subst hj;exact aD (i:=i) (by rw[aQ (by simp;exact Ts)])
   ·exact aD (i:=i) (by rw[aY (Ne.symm hik),aQ Ts])
  ·by_cases Vx:k=i
   ·subst Vx;rw[hi]at hk;injection hk with hk;subst hk;exact aD (i:=j) (by rw[aQ (by simp;exact SA)])
   ·exact aD (i:=k) (by rw[aY (Ne.symm TP),aY (Ne.symm Vx)];exact hk)
end
end Go.Ex
namespace Go.Sx
open Go Go.Ex Go.Proofs
variable{O:Nat->Sx.dw}
theorem Rel.qg{H:Hp}{nx:Nat}{iv:Iv}{B:Nat}{w w' w2:World}{row:Option Nat}(r:Rel H nx iv B w O w')(OY:∀g,row=some g->∀id b,dD H id=some b->(O id).nil=false->(O id).g≠g)(h:w'.grownBy w2 row):Rel H nx ((w'.heap.size,w2.heap.size)::iv) B w2 O w2:=
 r.Bw h.size (fun id b hb hn=>h.block _ (r.low id b hb hn).2 fun e=>OY _ e.symm id b hb hn rfl) fun lo hi hm=>by
  rcases List.mem_cons.1 hm with e|hm
  ·injection e with e1 e2;subst e1 e2;exact⟨Nat.le_refl _,fun id b hb hn=>by have:=(r.low id b hb hn).2;omega⟩
  ·exact⟨by have:=r.pC lo hi hm;have:=r.size;have:=h.size;omega,fun id b hb hn=>r.jb lo hi hm id b hb hn⟩
end Go.Sx
namespace Go.Ex
open Go Go.Sx Go.Proofs
end Go.Ex
