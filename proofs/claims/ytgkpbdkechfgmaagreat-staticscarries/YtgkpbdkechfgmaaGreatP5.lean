/- Texts X22 to X47: lemmas, each with its conditions. -/
import Derived.Test.YtgkpbdkechfgmaaGreatP4
namespace Go.Ex
open Go Go.Sx Go.Proofs
variable{b b2:Bool}{x y:Int}{xs:List Value}{n sz:Nat}{S S':Nat->Prop}{g q:Rat}{dv nv u v:Value}{w w2:World}
def iO(w:World)(S:Nat->Prop)(v:Value)(a b:Int):Prop:=∃b1 l1 b2 l2,v= .agg #[.bool b1,l1,.bool b2,l2]∧j9 w S (.agg #[.bool b1,l1]) a∧j9 w S (.agg #[.bool b2,l2]) b
theorem iO.cJ{a b:Int}(h:iO w S v a b)(hk:∀g,S g->w2.heap[g]? =w.heap[g]?):iO w2 S v a b:=by
 obtain⟨b1,l1,b2,l2,h1,h2,h3⟩:=h;exact⟨b1,l1,b2,l2,h1,h2.cJ hk,h3.cJ hk⟩
theorem iO.cK{a b:Int}(h:iO w S v a b)(hk:∀g,S g->S' g):iO w S' v a b:=by
 obtain⟨b1,l1,b2,l2,h1,h2,h3⟩:=h;exact⟨b1,l1,b2,l2,h1,h2.cK hk,h3.cK hk⟩
theorem iO.shape(h:iO w S v x y):∃b a n c b2 a2 n2 c2,v= .agg #[.bool b,.slice a n c,.bool b2,.slice a2 n2 c2]:=by
 obtain⟨b1,l1,b2,l2,h1,h2,h3⟩:=h;obtain⟨_,a,n,c,h4⟩:=h2.shape;obtain⟨_,a2,n2,c2,h5⟩:=h3.shape;simp at h4 h5;obtain⟨rfl,rfl⟩:=h4;obtain⟨rfl,rfl⟩:=h5;exact⟨_,a,n,c,_,a2,n2,c2,h1⟩
theorem iO.num(h:iO w S (.agg #[.bool b,nv,.bool b2,dv]) x y):j9 w S (.agg #[.bool b,nv]) x:=by
 obtain⟨b1,l1,b2,l2,h1,h2,h3⟩:=h;simp at h1;obtain⟨rfl,rfl,rfl,rfl⟩:=h1;exact h2
theorem iO.den(h:iO w S (.agg #[.bool b,nv,.bool b2,dv]) x y):j9 w S (.agg #[.bool b2,dv]) y:=by
 obtain⟨b1,l1,b2,l2,h1,h2,h3⟩:=h;simp at h1;obtain⟨rfl,rfl,rfl,rfl⟩:=h1;exact h3
section
variable{S S':Nat->Prop}{H:Hp}{nx:Nat}{iv iv':Iv}{B:Nat}{w w' w2:World}{O:Nat->Sx.dx}{v:Value}{x y:Int}
theorem iO.rel(h:iO w (Cv S B iv) v x y)(r:Rel H nx iv B w O w')(hS:∀g,S g->g<B):iO w' (Cv S B iv) v x y:=h.cJ fun _ hg=>Rel.same r hS hg
theorem iO.cG(h:iO w (Cv S B iv) v x y)(r:Rel H nx iv B w O w')(hS:∀g,S g->g<B)(he:Ext w' w2)(hm:∀p,p∈iv->p∈iv'):iO w2 (Cv S B iv') v x y:=
 ((h.rel r hS).cJ fun g hg=>he.block g (Rel.old r hS g hg)).cK fun _ hg=>hg.mono hm
end
def cT(w:World)(S:Nat->Prop)(v:Value)(q:Rat):Prop:=∃b1 l1 b2 l2,v= .agg #[.bool b1,l1,.bool b2,l2]∧dL w S (.agg #[.bool b1,l1]) q.num∧dL w S (.agg #[.bool b2,l2]) q.den
theorem cT.cJ(h:cT w S v q)(hk:∀g,S g->w2.heap[g]? =w.heap[g]?):cT w2 S v q:=by
 obtain⟨b1,l1,b2,l2,h1,h2,h3⟩:=h;exact⟨b1,l1,b2,l2,h1,h2.cJ hk,h3.cJ hk⟩
theorem cT.cK(h:cT w S v q)(hk:∀g,S g->S' g):cT w S' v q:=by
 obtain⟨b1,l1,b2,l2,h1,h2,h3⟩:=h;exact⟨b1,l1,b2,l2,h1,h2.cK hk,h3.cK hk⟩
theorem cT.r(h:cT w S v q):iO w S v q.num q.den:=by
 obtain⟨b1,l1,b2,l2,h1,h2,h3⟩:=h;exact⟨b1,l1,b2,l2,h1,h2.r,h3.r⟩
theorem cT.shape(h:cT w S v q):∃b a n c b2 a2 n2 c2,v= .agg #[.bool b,.slice a n c,.bool b2,.slice a2 n2 c2]:=h.r.shape
theorem cT.num(h:cT w S (.agg #[.bool b,nv,.bool b2,dv]) q):dL w S (.agg #[.bool b,nv]) q.num:=by
 obtain⟨b1,l1,b2,l2,h1,h2,h3⟩:=h;simp at h1;obtain⟨rfl,rfl,rfl,rfl⟩:=h1;exact h2
theorem cT.den(h:cT w S (.agg #[.bool b,nv,.bool b2,dv]) q):dL w S (.agg #[.bool b2,dv]) q.den:=by
 obtain⟨b1,l1,b2,l2,h1,h2,h3⟩:=h;simp at h1;obtain⟨rfl,rfl,rfl,rfl⟩:=h1;exact h3
theorem cT.of(h:dL w S (.agg #[.bool b,nv]) q.num)(k:dL w S (.agg #[.bool b2,dv]) q.den):cT w S (.agg #[.bool b,nv,.bool b2,dv]) q:=⟨_,_,_,_,rfl,h,k⟩
section
variable{S S':Nat->Prop}{H:Hp}{nx:Nat}{iv iv':Iv}{B:Nat}{w w' w2:World}{O:Nat->Sx.dx}{v:Value}{q:Rat}
theorem cT.rel(h:cT w (Cv S B iv) v q)(r:Rel H nx iv B w O w')(hS:∀g,S g->g<B):cT w' (Cv S B iv) v q:=h.cJ fun _ hg=>Rel.same r hS hg
theorem cT.cG(h:cT w (Cv S B iv) v q)(r:Rel H nx iv B w O w')(hS:∀g,S g->g<B)(he:Ext w' w2)(hm:∀p,p∈iv->p∈iv'):cT w2 (Cv S B iv') v q:=
 ((h.rel r hS).cJ fun g hg=>he.block g (Rel.old r hS g hg)).cK fun _ hg=>hg.mono hm
theorem cT.dB(h:cT w2 (Nf w' w2) v q)(hB:B<=w'.heap.size)(hm:(w'.heap.size,w2.heap.size)∈iv):cT w2 (Cv S B iv) v q:=h.cK fun _ hg=>hg.dB hB hm
theorem cT.out{w0 w1:World}(h:cT w1 (Cv S w0.heap.size iv) v q)(r:Rel H nx iv w0.heap.size w1 O w')(hS:Old S w0):cT w' (Nw S w0 w') v q:=
 (h.rel r hS).cK fun _ hg=>Cv.nw hg r
end
theorem Mv{f:Rat}(hS:Old S w)(hf:dW w S v f):
  eA PG N.kf #[v] w (eF w fun v' _w2=>v'= .int .i64 (rs f)):=by
 have hw:=bR w;replace hf:=hf.cK (S':=Cv S w.heap.size []) fun _ h=>.inl h;obtain⟨b1,a1,n1,c1,b2,a2,n2,c2,rfl⟩:=hf.shape;have Tf:=hf.num;have QF:=hf.den;refine oV (by simp) ?_;refine cF (cE hw (fun _ w' v w2=>v= .int .i64 (rs f)) (fun O w' r=>Ah (Tf.rel r hS)) ?_);rintro O _ _ _ OJ r he hw h_ rfl;exact rtn hw fun ρe we re=>rfl
theorem Lt{f:Rat}(hS:Old S w)(hf:dW w S v f):
  eA PG N.kU #[v] w (eF w fun v' w2=>dW w2 (Nw S w w2) v' (-f)):=by
 have hw:=bR w;replace hf:=hf.cK (S':=Cv S w.heap.size []) fun _ h=>.inl h;obtain⟨b1,a1,n1,c1,b2,a2,n2,c2,rfl⟩:=hf.shape;have Tf:=hf.num;have QF:=hf.den;refine nX (by simp) ?_;refine cM hτ df [.x 0,.x 1,.x 3,.x 4,.x 2,.x 5,.x 6] (by kernel_rfl) (by kernel_rfl) ?_;refine cO (Φ:=fun _ w' v w2=>eQ w2 (Nw (Cv S w.heap.size []) w' w2) v (-f.num)) (fun O w' r=>oa (Rel.old r hS) (Tf.rel r hS)) ?_;rintro O Pg v1 PS r he hb hn;replace hw:=hw.tr hb;replace QF:=QF.cG (iv':=(Pg.heap.size,PS.heap.size)::[]) r hS he fun x hx=>List.mem_cons_of_mem _ hx;have hM:=hn.old r.cD;generalize (Pg.heap.size,PS.heap.size)::[]=OJ at*
 obtain⟨A0,A1,A2,A3,rfl⟩:=hM.shape;exact rtn hw fun ρe we re=>dW.of (by rw[Rat.neg_num];exact hM.out re hS) (by rw[Rat.neg_den];exact QF.out re hS)
theorem Lu{f:Rat}(hS:Old S w)(hf:dW w S v f)(hg:dW w S u g)(hlf:rl f<=10000000000)(hlg:rl g<=10000000000):
  eA PG N.kR #[v,u] w (eF w fun v' w2=>dW w2 (Nf w w2) v' (f*g)):=by
 have hw:=bR w;have l1:=fm f;have l2:=fF f;have l3:=fm g;have l4:=fF g;have m0:=dA f.num g.num;have m1:=dA f.den g.den;replace hf:=hf.cK (S':=Cv S w.heap.size []) fun _ h=>.inl h;replace hg:=hg.cK (S':=Cv S w.heap.size []) fun _ h=>.inl h;obtain⟨b1,a1,n1,c1,b2,a2,n2,c2,rfl⟩:=hf.shape;obtain⟨b3,a3,n3,c3,b4,a4,n4,c4,rfl⟩:=hg.shape;have Tf:=hf.num;have QF:=hf.den;have SM:=hg.num;have Qu:=hg.den;refine nV (by simp) ?_;refine cM hτ df [.x 0,.x 1,.x 2,.x 3,.x 5,.x 6,.x 7,.x 8,.x 4,.x 9,.x 10,.x 11] (by kernel_rfl) (by kernel_rfl) ?_;refine cE hw (fun _ w' v w2=>eQ w2 (Nf w' w2) v (f.num*g.num)) (fun O w' r=>iH (Rel.old r hS) (Tf.rel r hS) (SM.rel r hS) (by omega) (by omega)) ?_;rintro O _ _ _ OJ r he hw h_ hn;replace QF:=QF.cG r hS he (mC h_);replace Qu:=Qu.cG r hS he (mC h_);have hA:=hn.dB (S:=FF) r.cD (mN h_);obtain⟨A0,A1,A2,A3,rfl⟩:=hA.shape;refine cE hw (fun _ w' v w2=>eQ w2 (Nf w' w2) v ((f.den:Int)*(g.den:Int))) (fun O w' r=>iH (Rel.old r hS) (QF.rel r hS) (Qu.rel r hS) (by omega) (by omega)) ?_;rintro O _ _ _ OG r he hw h_ hn;replace hA:=hA.cG r (cC w) he (mC h_);have hB:=hn.dB (S:=FF) r.cD (mN h_);obtain⟨C0,C1,C2,C3,rfl⟩:=hB.shape;refine cE hw (fun _ w' v w2=>dW w2 (Nf w' w2) v (f*g)) (fun O w' r=>(yK f g)▸wJ (Rel.old r (cC w)) (hA.rel r (cC w)) (hB.rel r (cC w)) (jz (gK f) (gK g)) (by omega) (by omega)) ?_;rintro O _ _ _ ON r he hw h_ hn;have hC:=hn.dB (S:=FF) r.cD (mN h_);obtain⟨E0,E1,E2,E3,E4,E5,E6,E7,rfl⟩:=hC.shape;exact rtn hw fun ρe we re=>hC.out re (cC w)
theorem aAe{f:Rat}(hS:Old S w)(hf:dW w S v f)(hg:dW w S u g)(hlf:rl f<=10000000000)(hlg:rl g<=10000000000)(Sh:g≠0):
  eA PG N.mW #[v,u] w (eF w fun v' w2=>dW w2 (Nf w w2) v' (f / g)):=by
 have hw:=bR w;have l1:=fm f;have l2:=fF f;have l3:=fm g;have l4:=fF g;have m0:=dA f.num g.den;have m1:=dA f.den g.num;replace hf:=hf.cK (S':=Cv S w.heap.size []) fun _ h=>.inl h;replace hg:=hg.cK (S':=Cv S w.heap.size []) fun _ h=>.inl h;obtain⟨b1,a1,n1,c1,b2,a2,n2,c2,rfl⟩:=hf.shape;obtain⟨b3,a3,n3,c3,b4,a4,n4,c4,rfl⟩:=hg.shape;have Tf:=hf.num;have QF:=hf.den;have SM:=hg.num;have Qu:=hg.den;refine qM (by simp) ?_;refine cM hτ df [.x 0,.x 1,.x 2,.x 3,.x 5,.x 6,.x 7,.x 8,.x 4,.x 9,.x 10,.x 11] (by kernel_rfl) (by kernel_rfl) ?_;refine cE hw (fun _ w' v w2=>eQ w2 (Nf w' w2) v (f.num*(g.den:Int))) (fun O w' r=>iH (Rel.old r hS) (Tf.rel r hS) (Qu.rel r hS) (by omega) (by omega)) ?_;rintro O _ _ _ OJ r he hw h_ hn;replace QF:=QF.cG r hS he (mC h_);replace SM:=SM.cG r hS he (mC h_);have hA:=hn.dB (S:=FF) r.cD (mN h_);obtain⟨A0,A1,A2,A3,rfl⟩:=hA.shape;refine cE hw (fun _ w' v w2=>eQ w2 (Nf w' w2) v ((f.den:Int)*g.num)) (fun O w' r=>iH (Rel.old r hS) (QF.rel r hS) (SM.rel r hS) (by omega) (by omega)) ?_;rintro O _ _ _ OG r he hw h_ hn;replace hA:=hA.cG r (cC w) he (mC h_);have hB:=hn.dB (S:=FF) r.cD (mN h_);obtain⟨C0,C1,C2,C3,rfl⟩:=hB.shape;refine cE hw (fun _ w' v w2=>dW w2 (Nf w' w2) v (f / g)) (fun O w' r=>(DB f g)▸wJ (Rel.old r (cC w)) (hA.rel r (cC w)) (hB.rel r (cC w)) (jz (gK f) (fun e=>Sh (Rat.num_eq_zero.1 e))) (by omega) (by omega)) ?_;rintro O _ _ _ ON r he hw h_ hn;have hC:=hn.dB (S:=FF) r.cD (mN h_);obtain⟨E0,E1,E2,E3,E4,E5,E6,E7,rfl⟩:=hC.shape;exact rtn hw fun ρe we re=>hC.out re (cC w)
theorem IP{f:Rat}(hS:Old S w)(hf:dW w S v f)(hg:dW w S u g)(hlf:rl f<=10000000000)(hlg:rl g<=10000000000):
  eA PG N.kg #[v,u] w (eF w fun v' w2=>dW w2 (Nf w w2) v' (f+g)):=by
 have hw:=bR w;have l1:=fm f;have l2:=fF f;have l3:=fm g;have l4:=fF g;have m0:=dA f.num g.den;have m1:=dA g.num f.den;have m2:=dA f.den g.den;have m4:=ie (f.num*g.den) (g.num*f.den);replace hf:=hf.cK (S':=Cv S w.heap.size []) fun _ h=>.inl h;replace hg:=hg.cK (S':=Cv S w.heap.size []) fun _ h=>.inl h;obtain⟨b1,a1,n1,c1,b2,a2,n2,c2,rfl⟩:=hf.shape;obtain⟨b3,a3,n3,c3,b4,a4,n4,c4,rfl⟩:=hg.shape;have Tf:=hf.num;have QF:=hf.den;have SM:=hg.num;have Qu:=hg.den;refine oW (by simp) ?_;refine cM hτ df [.x 0,.x 1,.x 2,.x 3,.x 5,.x 6,.x 7,.x 8,.x 11,.x 12,.x 13,.x 14,.x 4,.x 9,.x 10,.x 15,.x 16,.x 17] (by kernel_rfl) (by kernel_rfl) ?_;refine cE hw (fun _ w' v w2=>eQ w2 (Nf w' w2) v (f.num*(g.den:Int))) (fun O w' r=>iH (Rel.old r hS) (Tf.rel r hS) (Qu.rel r hS) (by omega) (by omega)) ?_;rintro O _ _ _ OJ r he hw h_ hn;replace QF:=QF.cG r hS he (mC h_);replace SM:=SM.cG r hS he (mC h_);replace Qu:=Qu.cG r hS he (mC h_);have hA:=hn.dB (S:=FF) r.cD (mN h_);obtain⟨A0,A1,A2,A3,rfl⟩:=hA.shape;refine cE hw (fun _ w' v w2=>eQ w2 (Nf w' w2) v (g.num*(f.den:Int))) (fun O w' r=>iH (Rel.old r hS) (SM.rel r hS) (QF.rel r hS) (by omega) (by omega)) ?_;rintro O _ _ _ OG r he hw h_ hn;replace QF:=QF.cG r hS he (mC h_);replace Qu:=Qu.cG r hS he (mC h_);replace hA:=hA.cG r (cC w) he (mC h_);have hB:=hn.dB (S:=FF) r.cD (mN h_);obtain⟨C0,C1,C2,C3,rfl⟩:=hB.shape;refine cE hw (fun _ w' v w2=>eQ w2 (Nf w' w2) v (f.num*(g.den:Int)+g.num*(f.den:Int))) (fun O w' r=>CR (Rel.old r (cC w)) (hA.rel r (cC w)) (hB.rel r (cC w)) (by omega) (by omega)) ?_;rintro O _ _ _ ON r he hw h_ hn;replace QF:=QF.cG r hS he (mC h_);replace Qu:=Qu.cG r hS he (mC h_);have hD:=hn.dB (S:=FF) r.cD (mN h_);obtain⟨E0,E1,E2,E3,rfl⟩:=hD.shape;refine cE hw (fun _ w' v w2=>eQ w2 (Nf w' w2) v ((f.den:Int)*(g.den:Int))) (fun O w' r=>iH (Rel.old r hS) (QF.rel r hS) (Qu.rel r hS) (by omega) (by omega)) ?_;rintro O _ _ _ OZ r he hw h_ hn;replace hD:=hD.cG r (cC w) he (mC h_);have hE:=hn.dB (S:=FF) r.cD (mN h_);obtain⟨F0,F1,F2,F3,rfl⟩:=hE.shape;refine cE hw (fun _ w' v w2=>dW w2 (Nf w' w2) v (f+g)) (fun O w' r=>(td f g)▸wJ (Rel.old r (cC w)) (hD.rel r (cC w)) (hE.rel r (cC w)) (jz (gK f) (gK g)) (by omega) (by omega)) ?_;rintro O _ _ _ PF r he hw h_ hn;have hC:=hn.dB (S:=FF) r.cD (mN h_);obtain⟨G0,G1,G2,G3,G4,G5,G6,G7,rfl⟩:=hC.shape;exact rtn hw fun ρe we re=>hC.out re (cC w)
theorem rA{f:Rat}(hS:Old S w)(hf:dW w S v f)(hlf:rl f<=100000000000):
  eA PG N.ke #[v] w (eF w fun v' w2=>cT w2 (Nf w w2) v' f):=by
 have hw:=bR w;have l1:=fm f;have l2:=fF f;replace hf:=hf.cK (S':=Cv S w.heap.size []) fun _ h=>.inl h;obtain⟨b1,a1,n1,c1,b2,a2,n2,c2,rfl⟩:=hf.shape;have Tf:=hf.num;have QF:=hf.den;refine oU (by simp) ?_;refine cM hτ df [.x 0,.x 1,.x 3,.x 4,.x 2,.x 5,.x 6,.x 7] (by kernel_rfl) (by kernel_rfl) ?_;refine cE hw (fun _ w' v w2=>dL w2 (Nf w' w2) v f.num) (fun O w' r=>LQ (Rel.old r hS) (Tf.rel r hS) (by omega)) ?_;rintro O _ _ _ OJ r he hw h_ hn;replace QF:=QF.cG r hS he (mC h_);have hA:=hn.dB (S:=FF) r.cD (mN h_);obtain⟨A0,A1,A2,A3,rfl⟩:=hA.shape;refine cE hw (fun _ w' v w2=>dL w2 (Nf w' w2) v (f.den:Int)) (fun O w' r=>LQ (Rel.old r hS) (QF.rel r hS) (by omega)) ?_;rintro O _ _ _ OG r he hw h_ hn;replace hA:=hA.cG r (cC w) he (mC h_);have hB:=hn.dB (S:=FF) r.cD (mN h_);obtain⟨C0,C1,C2,C3,rfl⟩:=hB.shape;exact rtn hw fun ρe we re=>cT.of (hA.out re (cC w)) (hB.out re (cC w))
theorem Mw(n:Int)(w:World)(h1: -9223372036854775808<=n)(h2:n<=9223372036854775807):
  eA PG N.xH #[.int .i64 n] w (eF w fun v' w2=>dW w2 (Nf w w2) v' (n:Rat)):=by
 have hw:=bR w;refine AP (by simp) ?_;refine cF (cE hw (fun _ w' v w2=>eQ w2 (Nf w' w2) v n) (fun O w' r=>oe n w' h1 h2) ?_);rintro O _ _ _ OJ r he hw h_ hn;have hA:=hn.dB (S:=FF) r.cD (mN h_);obtain⟨A0,A1,A2,A3,rfl⟩:=hA.shape;refine cF (cE hw (fun _ w' v w2=>eQ w2 (Nf w' w2) v 1) (fun O w' r=>oe 1 w' (by decide) (by decide)) ?_);rintro O _ _ _ OG r he hw h_ hn;replace hA:=hA.cG r (cC w) he (mC h_);have hB:=hn.dB (S:=FF) r.cD (mN h_);obtain⟨C0,C1,C2,C3,rfl⟩:=hB.shape;exact rtn hw fun ρe we re=>dW.of (by rw[Rat.num_intCast];exact hA.out re (cC w)) (by rw[Rat.den_intCast];exact hB.out re (cC w))
theorem kK(hS:Old S w)(hx:iO w S v x y)(Oa:ln x.natAbs<=100000000000)(QP:ln y.natAbs<=100000000000):
  eA PG N.xB #[v] w (eF w fun v' w2=>dW w2 (Nf w w2) v' (ratio x y)):=by
 have hw:=bR w;replace hx:=hx.cK (S':=Cv S w.heap.size []) fun _ h=>.inl h;obtain⟨b1,a1,n1,c1,b2,a2,n2,c2,rfl⟩:=hx.shape;have hn:=hx.num;have hd:=hx.den;have RF:=hn;have UA:=hd;refine AH (by simp) ?_;refine cF (cO (Φ:=fun _ w' v w2=>eQ w2 (Nw (Cv S w.heap.size []) w' w2) v y) (fun O w' r=>Lc (Rel.old r hS) (UA.rel r hS)) ?_);rintro O Pg v1 PS r he hb hn;replace hw:=hw.tr hb;replace RF:=RF.cG (iv':=(Pg.heap.size,PS.heap.size)::[]) r hS he fun x hx=>List.mem_cons_of_mem _ hx;have hD:=hn.old r.cD;generalize (Pg.heap.size,PS.heap.size)::[]=OJ at*
 obtain⟨A0,A1,A2,A3,rfl⟩:=hD.shape;refine cF (cE hw (fun _ w' v w2=>v= .int .i64 y.sign) (fun O w' r=>Ah (hD.rel r hS)) ?_);rintro O _ _ _ OG r he hw h_ rfl;replace RF:=RF.cG r hS he (mC h_);replace hD:=hD.cG r hS he (mC h_);refine dK.mk ?_ ?_<;>intro h
 ·have h:y=0:=Int.sign_eq_zero_iff_zero.1 (eq_of_beq h);have e0:ratio x y=Rat.divInt x 1:=if_pos h;refine cF (cE hw (fun _ w' v w2=>eQ w2 (Nf w' w2) v 1) (fun O w' r=>oe 1 w' (by decide) (by decide)) ?_);rintro O PH v3 PD ON r he hw h_ hn;replace RF:=RF.cG r hS he (mC h_);have hO:=hn.dB (S:=FF) r.cD (mN h_);obtain⟨C0,C1,C2,C3,rfl⟩:=hO.shape;have l1:ln (1:Int).natAbs=1:=by decide
  refine cM hτ df [.x 0,.x 1,.x 3,.x 2,.x 4,.x 5] (by kernel_rfl) (by kernel_rfl) ?_;refine cO (Φ:=fun _ w' v w2=>eQ w2 (Nw (Cv S w.heap.size ON) w' w2) v x) (fun O w' r=>Lc (Rel.old r hS) (RF.rel r hS)) ?_;rintro O Qw v4 Qk r he hb hn;replace hw:=hw.tr hb;replace hO:=hO.cG (iv':=(Qw.heap.size,Qk.heap.size)::ON) r (cC w) he fun x hx=>List.mem_cons_of_mem _ hx;have hN:=hn.old r.cD;generalize (Qw.heap.size,Qk.heap.size)::ON=OZ at*
  obtain⟨E0,E1,E2,E3,rfl⟩:=hN.shape;refine cE hw (fun _ w' v w2=>dW w2 (Nf w' w2) v (ratio x y)) (fun O w' r=>e0.symm▸wJ (Rel.old r hS) (hN.rel r hS) ((hO.rel r (cC w)).cK fun g hg=>hg.elim (fun k=>k.elim) .inr) (by decide) (by omega) (by omega)) ?_;rintro O _ _ _ PF r he hw h_ hn;have hC:=hn.dB (S:=FF) r.cD (mN h_);obtain⟨F0,F1,F2,F3,F4,F5,F6,F7,rfl⟩:=hC.shape;exact rtn hw fun ρe we re=>hC.out re (cC w)
 ·have h:y≠0:=fun e=>by rw[e]at h;exact absurd h (by decide)
  have e0:ratio x y=Rat.divInt x y:=aJ h;refine cM hτ df [.x 0,.x 1,.x 3,.x 2,.x 4,.x 5] (by kernel_rfl) (by kernel_rfl) ?_;refine cO (Φ:=fun _ w' v w2=>eQ w2 (Nw (Cv S w.heap.size OG) w' w2) v x) (fun O w' r=>Lc (Rel.old r hS) (RF.rel r hS)) ?_;rintro O PH v3 PD r he hb hn;replace hw:=hw.tr hb;replace hD:=hD.cG (iv':=(PH.heap.size,PD.heap.size)::OG) r hS he fun x hx=>List.mem_cons_of_mem _ hx;have hN:=hn.old r.cD;generalize (PH.heap.size,PD.heap.size)::OG=ON at*
  obtain⟨C0,C1,C2,C3,rfl⟩:=hN.shape;refine cE hw (fun _ w' v w2=>dW w2 (Nf w' w2) v (ratio x y)) (fun O w' r=>e0.symm▸wJ (Rel.old r hS) (hN.rel r hS) (hD.rel r hS) h (by omega) (by omega)) ?_;rintro O _ _ _ OZ r he hw h_ hn;have hC:=hn.dB (S:=FF) r.cD (mN h_);obtain⟨E0,E1,E2,E3,E4,E5,E6,E7,rfl⟩:=hC.shape;exact rtn hw fun ρe we re=>hC.out re (cC w)
def sA(v:Value):Iv:=match v.ownBlock with
 |some g=>[(g,g+1)]
 |none=>[]
theorem CY{lo hi:Nat}:(lo,hi)∈sA v↔v.ownBlock=some lo∧hi=lo+1:=by
 unfold sA
 cases h:v.ownBlock with
 |none=>simp
 |some g=>simp;omega
def HS(iv:Iv)(v:Value):Prop:=∀b,v.ownBlock=some b->∃lo hi,(lo,hi)∈iv∧lo<=b∧b<hi
section
variable{S:Nat->Prop}{H:Hp}{nx:Nat}{iv iv':Iv}{B e sz m:Nat}{w w' w2:World}{O:Nat->Sx.dx}{v v':Value}{xs:List Value}
theorem HS.not(h:HS iv v)(r:Rel H nx iv B w O w'){b:Nat}(hb:v.ownBlock=some b):∀id c,dF H id=some c->(O id).nil=false->(O id).g≠b:=fun id c hc hn he=>by
 obtain⟨lo,hi,h1,h2,h3⟩:=h b hb;exact r.kk lo hi h1 id c hc hn (by omega)
theorem jT(h:w.ownsRow B e sz v m xs)(hc:HS iv v)(r:Rel H nx iv B w O w'):w'.ownsRow B e sz v m xs:=
 ownsRow.cJ h fun b hb=>r.ug b (ownsRow.low h b hb).2 fun id c hc' hn he=>hc.not r hb id c hc' hn he
theorem HS.row(v:Value):HS (sA v) v:=fun b hb=>⟨b,b+1,CY.2 ⟨hb,rfl⟩,by omega,by omega⟩
theorem HS.mono(h:HS iv v)(k:∀p,p∈iv->p∈iv'):HS iv' v:=fun b hb=>by
 obtain⟨lo,hi,h1,h2⟩:=h b hb;exact⟨lo,hi,k _ h1,h2⟩
theorem je(h:w.ownsRow B e sz v m xs):∃a c,v= .slice a m c∧m<=c:=by
 rcases h.2 with⟨rfl,rfl⟩|⟨g,cap,cur,rfl,_,_,h1,_⟩
 ·exact⟨none,0,rfl,aF _⟩
 ·exact⟨_,cap,rfl,h1⟩
end
structure ij(w:World)(S:Nat->Prop)(sz:Nat)(v:Value)(xs:List Value)(n:Nat):Prop where
 le:n<=maxLen
 len:xs.length=n*sz
 one:∀u∈xs,u.oneCell'=true
 sl:∃a c,v= .slice a n c∧n<=c∧∀(j:Nat) u,xs[j]? =some u->∃ad,a=some ad∧S ad.block∧w.cell? (ad.add j)=some u
theorem ij.cJ(h:ij w S sz v xs n)(hk:∀g,S g->w2.heap[g]? =w.heap[g]?):ij w2 S sz v xs n:=by
 obtain⟨h0,h1,h2,a,c,h3,h4,h5⟩:=h;refine⟨h0,h1,h2,a,c,h3,h4,fun j u hu=>?_⟩;obtain⟨ad,k1,k2,k3⟩:=h5 j u hu;exact⟨ad,k1,k2,by rw[cH (hk _ (by rw[dN];exact k2))];exact k3⟩
theorem ij.cK(h:ij w S sz v xs n)(hk:∀g,S g->S' g):ij w S' sz v xs n:=by
 obtain⟨h0,h1,h2,a,c,h3,h4,h5⟩:=h;refine⟨h0,h1,h2,a,c,h3,h4,fun j u hu=>?_⟩;obtain⟨ad,k1,k2,k3⟩:=h5 j u hu;exact⟨ad,k1,hk _ k2,k3⟩
section
variable{S S':Nat->Prop}{H:Hp}{nx:Nat}{iv iv':Iv}{B:Nat}{w w' w2:World}{O:Nat->Sx.dx}{v:Value}{sz n:Nat}{xs:List Value}
end
end Go.Ex
namespace Go.Sx
open Go Go.Ex Go.Proofs
variable{O:Nat->Sx.dx}
theorem Rel.qU{H:Hp}{nx:Nat}{iv:Iv}{B:Nat}{w w':World}(r:Rel H nx iv B w O w'){id t sz n:Nat}{cs:List At}(h:dF H id=some (.box t cs))(hl:cs.length=n*sz)(hn:n<=maxLen)(h1:∀u∈cs,(u.den O).oneCell'=true):
  ij w' (fun g=>g=(O id).g) sz (.slice (some ⟨(O id).g,0,none⟩) n n) (cs.map (At.den O)) n:=by
 refine⟨hn,by simpa using hl,fun u hu=>?_,_,_,rfl,aF _,fun j u hu=>⟨_,rfl,rfl,?_⟩⟩
 ·obtain⟨x,hx,rfl⟩:=aU.1 hu;exact h1 x hx
 ·have h0:(⟨(O id).g,0,none⟩:Addr).add j=⟨(O id).g,j,none⟩:=by
   cases j with
   |zero=>rfl
   |succ j=>simp[Addr.add]
  rw[h0,cell_of (r.box id t _ h)];exact hu
end Go.Sx
namespace Go.Ex
open Go Go.Sx Go.Proofs
theorem Lv{n:Nat}(h:n<=9223372036854775807):IntKind.i64.wrap (n:Int)=n:=by rw[wrap64]<;>omega
theorem My{t b:Nat}(h:t<=9223372036854775807):IntKind.i64.wrap ((t:Int).tdiv (b:Int))=((t / b:Nat):Int):=by
 have h1:=Nat.div_le_self t b;rw[Int.tdiv_eq_ediv_of_nonneg (by omega),<-Int.natCast_ediv];exact Lv (by omega)
end Go.Ex
namespace Go.Ex
open Go Go.Sx Go.Proofs
def Ap:Value:=.agg #[.bool false,.slice none 0 0,.bool false,.slice none 0 0]
theorem lr{n:Int}(h1: -9223372036854775808<=n)(h2:n<=9223372036854775807):ln n.natAbs<=2:=gB.2 (by show n.natAbs<4294967296^2;omega)
end Go.Ex
namespace Go.Sx
open Go Go.Ex Go.Proofs
variable{cs:List Value}{O:Nat->Sx.dx}
theorem Rel.iG{H:Hp}{nx:Nat}{iv:Iv}{B:Nat}{w w':World}(r:Rel H nx iv B w O w'){id t m sz:Nat}(h:dF H id=some (.vec t sz cs))(hm:cs.length=m*sz)(Ra:m<=maxLen)(hs:0<sz)(h1:∀u∈cs,u.oneCell'=true):
  ij w' (fun g=>B<=g∧g<w'.heap.size) sz ((At.w id m).den O) cs m:=by
 rcases r.vec id t sz _ h with⟨hn,rfl⟩|⟨hn,spare,hb,hc,Q3⟩
 ·have Rp:m=0:=by
   rcases bH m with h|h
   ·exact h
   ·have:=Nat.mul_pos h hs;simp at hm;omega
  subst Rp;refine⟨Ra,by simp,by simp,none,0,by simp[At.den,hn],aF _,by simp⟩
 ·refine⟨Ra,hm,h1,some ⟨(O id).g,0,none⟩,(O id).cap,by simp[At.den,hn],?_,fun j x hx=>⟨_,rfl,r.low id _ h hn,?_⟩⟩
  ·have h1:(cs++spare).length=cs.length+spare.length:=List.length_append;have h2:m*sz<=(O id).cap*sz:=by omega
   exact bo h2 hs
  ·rw[dV,cell_of hb,aR,aL (aD.1 hx).1];exact hx
end Go.Sx
namespace Go.Ex
open Go Go.Sx Go.Proofs
end Go.Ex
namespace Go.Ex
open Go Go.Sx Go.Proofs
variable{qs:List Rat}{xs:List Value}{i:Nat}{O:Nat->Sx.dx}{q:Rat}
def signed:Bool->ByteArray->ByteArray
 |true,s=>⟨#[45]⟩++s
 |false,s=>s
def NX(w:World)(S:Nat->Prop)(cs:List Value)(q:Rat):Prop:=∃b a n c b2 a2 n2 c2,cs=[.bool b,.slice a n c,.bool b2,.slice a2 n2 c2]∧dW w S (.agg #[.bool b,.slice a n c,.bool b2,.slice a2 n2 c2]) q
def Fr(w:World)(S:Nat->Prop)(css:List (List Value))(qs:List Rat):Prop:=css.length=qs.length∧∀(j:Nat) cs q,css[j]? =some cs->qs[j]? =some q->NX w S cs q
section
variable{S S':Nat->Prop}{w w2:World}{cs:List Value}{css:List (List Value)}{q:Rat}{qs:List Rat}
end
section
variable{S S':Nat->Prop}{H:Hp}{nx:Nat}{iv iv':Iv}{B:Nat}{w w' w2:World}{O:Nat->Sx.dx}{css:List (List Value)}{qs:List Rat}
end
theorem eY:∀{css:List (List Value)},(∀cs∈css,cs.length=4)->css.flatten.length=css.length*4
 |[],_=>rfl
 |c::r,h=>by
  rw[List.flatten_cons,List.length_append,eY (fun cs hc=>h cs (List.mem_cons_of_mem _ hc)),h c aG,List.length_cons];omega
theorem flat_get:∀{css:List (List Value)} {j:Nat} {cs:List Value},(∀cs∈css,cs.length=4)->css[j]? =some cs->∀k u,cs[k]? =some u->css.flatten[j*4+k]? =some u
 |[],j,cs,_,hj,_,_,_=>by simp at hj
 |c::r,0,cs,h,hj,k,u,hu=>by
  simp at hj;subst hj;rw[List.flatten_cons,aL (by have:=(aD.1 hu).1;omega)];simpa using hu
 |c::r,j+1,cs,h,hj,k,u,hu=>by
  have hc:=h c aG;rw[List.flatten_cons,aN (by omega),hc,show(j+1)*4+k-4=j*4+k by omega];exact flat_get (fun cs hc=>h cs (List.mem_cons_of_mem _ hc)) (by simpa using hj) k u hu
theorem jN:∀{css:List (List Value)} {j:Nat} {cs:List Value},(∀cs∈css,cs.length=4)->j<css.length->css.flatten.take (j*4)++cs++css.flatten.drop (j*4+4)=(css.set j cs).flatten
 |[],j,cs,_,hj=>by simp at hj
 |c::r,0,cs,h,_=>by
  have hc:=h c aG;simp[List.flatten_cons,hc]
 |c::r,j+1,cs,h,hj=>by
  have hc:=h c aG
  rw[List.flatten_cons,show(j+1)*4=c.length+j*4 by omega,List.take_length_add_append,show c.length+j*4+4=c.length+(j*4+4) by omega,List.drop_length_add_append,List.set_cons_succ,List.flatten_cons,
   <-jN (fun cs hc=>h cs (List.mem_cons_of_mem _ hc)) (by simpa using hj),bc,bc,bc]
abbrev Out(B:Nat)(iv:Iv):Nat->Prop:=Cv (fun g=>g<B) B iv
theorem o0{H:Hp}{nx:Nat}{iv:Iv}{B Bc e sz m:Nat}{w w':World}{v:Value}(h:w.ownsRow Bc e sz v m xs)(hc:∀g,v.ownBlock=some g->Out B iv g)(r:Rel H nx iv B w O w'):w'.ownsRow Bc e sz v m xs:=
 ownsRow.cJ h fun b hb=>Rel.same r (fun _ h=>h) (hc b hb)
theorem gX{w w1 w2:World}{row:Option Nat}(h:w.grownBy w1 row)(k:eE w.heap.size w1 w2):w.grownBy w2 row:=
 ⟨k.os.trans h.os,k.tape.trans h.tape,k.output.trans h.output,aX h.size k.size,fun b hb hn=>(k.block b hb).trans (h.block b hb hn)⟩
def iA(i:Nat)(f:Nat->Rat->Rat)(qs:List Rat):List Rat:=qs.mapIdx fun j q=>if j<i then f j q else q
theorem sf(f:Nat->Rat->Rat)(qs:List Rat):iA 0 f qs=qs:=by
 apply bK;intro j;simp[iA]
theorem vq(f:Nat->Rat->Rat)(qs:List Rat):iA qs.length f qs=qs.mapIdx f:=by
 apply bK;intro j;simp only[iA,List.getElem?_mapIdx]
 cases h:qs[j]? with
 |none=>rfl
 |some q=>simp[(aD.1 h).1]
theorem o6{f:Nat->Rat->Rat}(h:qs[i]? =some q):(iA i f qs).set i (f i q)=iA (i+1) f qs:=by
 apply bK;intro j;have hi:=(aD.1 h).1;by_cases Pa:i=j
 ·subst Pa;rw[aV (by simp[iA];exact hi)];simp[iA,List.getElem?_mapIdx,h]
 ·rw[aZ Pa];simp only[iA,List.getElem?_mapIdx]
  have:(j<i)↔(j<i+1):=by omega
  simp[this]
theorem Gv{f:Nat->Rat->Rat}(h:qs[i]? =some q)(hf:f i q=q):iA i f qs=iA (i+1) f qs:=by
 rw[<-o6 h,hf];apply bK;intro j;have hi:=(aD.1 h).1;by_cases Pa:i=j
 ·subst Pa;rw[aV (by simp[iA];exact hi)];simp[iA,List.getElem?_mapIdx,h]
 ·rw[aZ Pa]
theorem Ab{f:Nat->Rat->Rat}(h:qs[i]? =some q):(iA i f qs)[i]? =some q:=by
 simp only[iA,List.getElem?_mapIdx,h]
 simp
section
variable{C C' S S':Nat->Prop}{H:Hp}{nx:Nat}{iv iv':Iv}{B:Nat}{w w' w2:World}{O:Nat->Sx.dx}{v:Value}{qs:List Rat}
end
end Go.Ex
namespace Go.Ex
variable{M:List (List Rat)}{s:List (List Rat)×List Nat}{h i n:Nat}
def dD(M:List (List Rat))(i c:Nat):Rat:=(M.getD i []).getD c 0
def iS(M:List (List Rat))(c:Nat):Nat->Nat->Nat
 |0,k=>k
 |f+1,k=>if dD M k c=0 then iS M c f (k+1)else k
def fV{α:Type}(d:α)(l:List α)(i j:Nat):List α:=(l.set i (l.getD j d)).set j (l.getD i d)
def sM(p:Rat)(ps:List Rat)(j:Nat)(q:Rat):Rat:=q+p*ps.getD j 0
def di(M:List (List Rat))(at_ c i:Nat):List (List Rat):=M.mapIdx fun j r=>if j<i∧j≠at_ then r.mapIdx (sM (-(r.getD c 0)) (M.getD at_ []))else r
def scaled(M:List (List Rat))(at_ c:Nat):List (List Rat):=M.set at_ ((M.getD at_ []).map (· *(1 / dD M at_ c)))
def db(s:List (List Rat)×List Nat)(c:Nat):List (List Rat)×List Nat:=
 if s.2.length<s.1.length then
  let k:=iS s.1 c (s.1.length-s.2.length) s.2.length
  if k=s.1.length then s else
   let M1:=scaled (fV [] s.1 s.2.length k) s.2.length c
   (di M1 s.2.length c M1.length,s.2++[c])
 else s
def cN(M:List (List Rat))(cols:Nat):List (List Rat)×List Nat:=(List.range cols).foldl db (M,[])
theorem jc{α:Type}(d:α)(l:List α)(i j:Nat):(fV d l i j).length=l.length:=by simp[fV]
theorem gq(M:List (List Rat))(a c i:Nat):(di M a c i).length=M.length:=by simp[di]
theorem rP(M:List (List Rat))(a c:Nat):(scaled M a c).length=M.length:=by simp[scaled]
theorem oD(s:List (List Rat)×List Nat)(c:Nat):(db s c).1.length=s.1.length:=by
 unfold db;split
 ·dsimp only
  split
  ·rfl
  ·dsimp only
   rw[gq,rP,jc]
 ·rfl
theorem yv(M:List (List Rat))(c:Nat):∀f k,k<=iS M c f k∧iS M c f k<=k+f
 |0,k=>⟨aF _,aF _⟩
 |f+1,k=>by
  unfold iS;split
  ·have:=yv M c f (k+1);omega
  ·omega
theorem yw(M:List (List Rat))(c:Nat):∀f k,iS M c f k<k+f->dD M (iS M c f k) c≠0
 |0,k,h=>by simp[iS]at h
 |f+1,k,h=>by
  unfold iS at h ⊢;split
  ·rename_i h0;rw[if_pos h0]at h;exact yw M c f (k+1) (by omega)
  ·rename_i h0;exact h0
theorem GX{c f k:Nat}(h:dD M k c=0):iS M c (f+1) k=iS M c f (k+1):=by rw[iS,if_pos h]
theorem GY{c f k:Nat}(h:dD M k c≠0):iS M c (f+1) k=k:=by rw[iS,aJ h]
theorem DD(M:List (List Rat))(a c:Nat):di M a c 0=M:=by
 apply bK;intro j;simp[di]
theorem sO(M:List (List Rat))(a c i:Nat):(di M a c i)[a]? =M[a]? :=by
 simp only[di,List.getElem?_mapIdx]
 cases M[a]? <;>simp
theorem Gm(M:List (List Rat))(a c i j:Nat)(h:i<=j):(di M a c i)[j]? =M[j]? :=by
 simp only[di,List.getElem?_mapIdx]
 cases M[j]? with
 |none=>rfl
 |some r=>simp;omega
theorem DE{a c:Nat}{r:List Rat}(h:M[i]? =some r)(OD:i≠a):(di M a c i).set i (r.mapIdx (sM (-(r.getD c 0)) (M.getD a [])))=di M a c (i+1):=by
 apply bK;intro j;have hi:=(aD.1 h).1;by_cases Pa:i=j
 ·subst Pa;rw[aV (by rw[gq];exact hi)];simp[di,List.getElem?_mapIdx,h,OD]
 ·rw[aZ Pa];simp only[di,List.getElem?_mapIdx]
  have:(j<i)↔(j<i+1):=by omega
  simp[this]
theorem DF(M:List (List Rat))(a c:Nat):di M a c a=di M a c (a+1):=by
 apply bK;intro j;simp only[di,List.getElem?_mapIdx]
 have:(j<a∧j≠a)↔(j<a+1∧j≠a):=by omega
 simp[this]
def Ht(M:List (List Rat))(h:Nat):Prop:=∀r∈M,∀q∈r,rl q+1<=h
theorem Ht.at{r:List Rat}(H:Ht M h)(hi:M[i]? =some r):∀q∈r,rl q+1<=h:=H r (aC hi)
theorem Ht.swap{j:Nat}(H:Ht M h)(hi:i<M.length)(hj:j<M.length):Ht (fV [] M i j) h:=by
 intro r hr;have:r∈M:=by
  unfold fV at hr;rcases bJ hr with h1|h1
  ·rcases bJ h1 with h2|h2
   ·exact h2
   ·rw[h2,List.getD,aB hj];exact aY hj
  ·rw[h1,List.getD,aB hi];exact aY hi
 exact H r this
theorem Ko:rl 1=1:=by decide
theorem Kp{q:Rat}(h:q≠0):rl (1 / q)<=rl q+1:=by
 have:=Ki 1 h;rw[Ko]at this;omega
theorem Hy{r:List Rat}(H:∀q∈r,rl q+1<=h)(h2:2<=h)(c:Nat):rl (r.getD c 0)+1<=h:=by
 rw[List.getD]
 cases hc:r[c]? with
 |none=>simp;exact aX (by decide) h2
 |some q=>simp;exact H q (aC hc)
theorem Bk{j:Nat}(hi:i<M.length)(hj:j<M.length):(fV [] M i j)[i]? =M[j]? :=by
 unfold fV;by_cases h:j=i
 ·subst h;rw[aV (by simpa using hi),List.getD,aB hi];rfl
 ·rw[aZ h,aV hi,List.getD,aB hj];rfl
theorem Ed{j c:Nat}(hi:i<M.length)(hj:j<M.length):dD (fV [] M i j) i c=dD M j c:=by
 simp only[dD,List.getD,Bk hi hj]
def fZ(n:Nat)(M:List (List Rat)):Prop:=∀r∈M,r.length=n
theorem fZ.set{r:List Rat}(h:fZ n M)(hr:r.length=n):fZ n (M.set i r):=fun x hx=>by
 rcases bJ hx with h1|h1
 ·exact h x h1
 ·rw[h1];exact hr
theorem fZ.getD(h:fZ n M)(hi:i<M.length):(M.getD i []).length=n:=by
 rw[List.getD,aB hi];exact h _ (aY hi)
theorem fZ.step{c:Nat}(h:fZ n s.1):fZ n (db s c).1:=by
 unfold db;split
 ·rename_i OU;dsimp only
  split
  ·exact h
  ·rename_i hk;have hle:=yv s.1 c (s.1.length-s.2.length) s.2.length;have VC:iS s.1 c (s.1.length-s.2.length) s.2.length<s.1.length:=by omega
   dsimp only
   generalize iS s.1 c (s.1.length-s.2.length) s.2.length=k at*
   have h1:fZ n (fV [] s.1 s.2.length k):=(h.set (h.getD VC)).set (h.getD OU);have h2:fZ n (scaled (fV [] s.1 s.2.length k) s.2.length c):=h1.set (by rw[aK];exact h1.getD (by rw[jc];exact OU));intro r hr;obtain⟨j,hj⟩:=aS hr;simp only[di,List.getElem?_mapIdx,Option.map_eq_some_iff]at hj;obtain⟨r0,hr0,hj⟩:=hj;have h3:=h2 r0 (aC hr0);split at hj
   ·subst hj;rw[List.length_mapIdx];exact h3
   ·subst hj;exact h3
 ·exact h
theorem FC{cols:Nat}(h:fZ n M):fZ n (cN M cols).1:=by
 have key:∀(l:List Nat) (s:List (List Rat)×List Nat),fZ n s.1->fZ n (l.foldl db s).1:=by
  intro l
  induction l with
  |nil=>intro s hs;exact hs
  |cons c r ih=>intro s hs;exact ih _ hs.step
 exact key _ _ h
end Go.Ex
namespace Go.Ex
open Go Go.Sx Go.Proofs
structure aA3(w:World)(S:Nat->Prop)(vm:Value)(rv:List Value)(n:Nat)(M:List (List Rat)):Prop where
 out:w.ownsRow 0 T.row 1 vm rv.length rv
 len:rv.length=M.length
 row:∀(i:Nat) v qs,rv[i]? =some v->M[i]? =some qs->∃css,w.ownsRow 0 T.FH 4 v n css.flatten∧css.length=n∧Fr w S css qs
 GH:∀(i j:Nat) a b g,rv[i]? =some a->rv[j]? =some b->a.ownBlock=some g->b.ownBlock=some g->i=j
 aBE:∀v∈rv,∀g,v.ownBlock=some g->vm.ownBlock≠some g
def Mb(vm:Value)(rv:List Value)(g:Nat):Prop:=vm.ownBlock=some g∨∃v∈rv,v.ownBlock=some g
structure Kept(w w2:World)(X:Nat->Prop):Prop where
 os:w2.os=w.os
 tape:w2.tape=w.tape
 output:w2.output=w.output
 size:w.heap.size<=w2.heap.size
 block:∀k,k<w.heap.size->¬X k->w2.heap[k]? =w.heap[k]?
section
variable{S S' X:Nat->Prop}{H:Hp}{nx n:Nat}{iv iv':Iv}{B:Nat}{w w' w2 w3:World}{O:Nat->Sx.dx}{vm:Value}{rv:List Value}{M:List (List Rat)}
end
end Go.Ex
namespace Go.Sx
open Go Go.Ex Go.Proofs
variable{O:Nat->Sx.dx}
theorem Rel.FT{H:Hp}{nx:Nat}{iv:Iv}{B:Nat}{w w' w2:World}{row:Option Nat}(r:Rel H nx iv B w O w')(OD:∀g,row=some g->∀id b,dF H id=some b->(O id).nil=false->(O id).g≠g)(h:w'.grownBy w2 row):Rel H nx ((w'.heap.size,w2.heap.size)::iv) B w2 O w2:=
 r.EO h.size (fun id b hb hn=>h.block _ (r.low id b hb hn).2 fun e=>OD _ e.symm id b hb hn rfl) fun lo hi hm=>by
  rcases List.mem_cons.1 hm with e|hm
  ·injection e with e1 e2;subst e1 e2;exact⟨aF _,fun id b hb hn=>by have:=(r.low id b hb hn).2;omega⟩
  ·exact⟨by have:=r.rM lo hi hm;have:=r.size;have:=h.size;omega,fun id b hb hn=>r.kk lo hi hm id b hb hn⟩
end Go.Sx
namespace Go.Ex
open Go Go.Sx Go.Proofs
end Go.Ex
namespace Go.Ex
open Go Go.Sx Go.Proofs
end Go.Ex
namespace Go.Sx
open Go Go.Ex Go.Proofs
variable{O:Nat->Sx.dx}
theorem Sub.nil{B nx:Nat}{l:Env}{H:Hp}{iv:Iv}{w w':World}{t:Bh}(u e sz:Nat)(h9:fX l u=some (sV none 0 0))(SG:j8 nx l)(r:Rel H nx iv B w O w')
  (h:∀ρ1,Rel ((nx,.vec e sz [])::H) (nx+1) iv B w ρ1 w'->Sx.Sub B ((u,.o (.w nx 0))::l) (nx+1) ρ1 w' t):Sx.Sub B l nx O w' t:=by
 have r1:=r.push (.vec e sz []) ⟨0,0,true⟩ (w2:=w') rfl rfl rfl (aF _) (fun _ _=>rfl) (fun h=>by cases h) (.inl ⟨rfl,rfl⟩) trivial;obtain⟨ρ',h1,h2⟩:=h _ r1;refine⟨ρ',h1,fun x v hv=>?_⟩;obtain⟨h3,v0,h4,h5⟩:=h2 x v hv;refine⟨h3,?_⟩;rw[ee]at h4;split at h4
 ·rename_i e;subst e;injection h4 with h4;subst h4;refine⟨_,h9,?_⟩;rw[<-h5];simp[SV.den,At.den,fJ]
 ·refine⟨v0,h4,?_⟩;rw[<-h5];exact SV.jt (fun id Om=>gb id Om) (SG.get _ _ h4)
end Go.Sx
namespace Go.Ex
open Go Go.Sx Go.Proofs
structure aBB(w:World)(S:Nat->Prop)(rv:List Value)(n:Nat)(M:List (List Rat))(gm k c g ck:Nat)(q:Rat)(d1:Bool)(e1:Option Addr)(m1 k1:Nat)(d2:Bool)(e2:Option Addr)(m2 k2:Nat):Prop where
 rv:rv[k]? =some (.slice (some ⟨g,0,none⟩) n ck)
 at_:dD M k c=q
 aBF:dW w S (.agg #[.bool d1,.slice e1 m1 k1,.bool d2,.slice e2 m2 k2]) q
 outer:w.cell? (Addr.add ⟨gm,0,none⟩ (k*1))=some (.slice (some ⟨g,0,none⟩) n ck)
 cells:∀j u,[Value.bool d1,.slice e1 m1 k1,.bool d2,.slice e2 m2 k2][j]? =some u->w.cell? ((Addr.add ⟨g,0,none⟩ (c*4)).add j)=some u
theorem Mz{α:Type}{xs:List α}{j:Nat}{v:α}(h:j<xs.length):xs.take (j*1)++[v]++xs.drop (j*1+1)=xs.set j v:=by
 rw[aT,List.set_eq_take_append_cons_drop,if_pos h];simp
end Go.Ex
namespace Go.Ex
open Go Go.Sx Go.Proofs
variable{x:Int×Int}{xs:List (Int×Int)}{M:List (List (Int×Int))}{A:List (List Rat)}{ps pv:List Nat}{cs:List Value}{S:Nat->Prop}{v:Value}{w:World}
def aAL(w:World)(S:Nat->Prop)(v:Value)(n:Nat)(qs:List Rat):Prop:=∃css,w.ownsRow 0 T.FH 4 v n css.flatten∧css.length=n∧Fr w S css qs
section
variable{S S' C:Nat->Prop}{H:Hp}{nx n:Nat}{iv iv':Iv}{B:Nat}{w w' w2:World}{O:Nat->Sx.dx}{v:Value}{qs:List Rat}
structure aBG(w:World)(S:Nat->Prop)(B:Nat)(iv:Iv)(v:Value)(n:Nat)(qs:List Rat):Prop where
 row:aAL w (fun g=>Cv S B iv g∧v.ownBlock≠some g) v n qs
 new:∀g,v.ownBlock=some g->Cv FF B iv g
def Dt(w:World)(S:Nat->Prop)(cs:List Value)(x:Int×Int):Prop:=∃b a n c b2 a2 n2 c2,cs=[.bool b,.slice a n c,.bool b2,.slice a2 n2 c2]∧iO w S (.agg #[.bool b,.slice a n c,.bool b2,.slice a2 n2 c2]) x.1 x.2
theorem Dt.cJ(h:Dt w S cs x)(hk:∀g,S g->w2.heap[g]? =w.heap[g]?):Dt w2 S cs x:=by
 obtain⟨b,a,n,c,b2,a2,n2,c2,h1,h2⟩:=h;exact⟨b,a,n,c,b2,a2,n2,c2,h1,h2.cJ hk⟩
theorem Dt.cK(h:Dt w S cs x)(hk:∀g,S g->S' g):Dt w S' cs x:=by
 obtain⟨b,a,n,c,b2,a2,n2,c2,h1,h2⟩:=h;exact⟨b,a,n,c,b2,a2,n2,c2,h1,h2.cK hk⟩
def cY{α:Type}(P:World->(Nat->Prop)->List Value->α->Prop)(w:World)(S:Nat->Prop)(v:Value)(xs:List α):Prop:=
 ∃css:List (List Value),ij w S 4 v css.flatten xs.length∧css.length=xs.length∧(∀cs∈css,cs.length=4)∧∀(j:Nat) cs x,css[j]? =some cs->xs[j]? =some x->P w S cs x
abbrev q8:=cY Dt
theorem q8.cJ(h:q8 w S v xs)(hk:∀g,S g->w2.heap[g]? =w.heap[g]?):q8 w2 S v xs:=by
 obtain⟨css,h1,h2,h3,h4⟩:=h;exact⟨css,h1.cJ hk,h2,h3,fun j cs x k1 k2=>(h4 j cs x k1 k2).cJ hk⟩
theorem q8.cK(h:q8 w S v xs)(hk:∀g,S g->S' g):q8 w S' v xs:=by
 obtain⟨css,h1,h2,h3,h4⟩:=h;exact⟨css,h1.cK hk,h2,h3,fun j cs x k1 k2=>(h4 j cs x k1 k2).cK hk⟩
theorem cY.shape{α:Type}{P:World->(Nat->Prop)->List Value->α->Prop}{xs:List α}(h:cY P w S v xs):∃a c,v= .slice a xs.length c∧xs.length<=c∧xs.length<=maxLen:=by
 obtain⟨css,⟨h0,_,_,a,c,h1,h2,_⟩,_⟩:=h;exact⟨a,c,h1,h2,h0⟩
theorem cY.load{α:Type}{P:World->(Nat->Prop)->List Value->α->Prop}{xs:List α}{a:Option Addr}{m c j:Nat}{x:α}(h:cY P w S (.slice a m c) xs)(hq:xs[j]? =some x):
  ∃ad cs,a=some ad∧P w S cs x∧cs.length=4∧∀k u,cs[k]? =some u->S ad.block∧w.cell? ((ad.add (j*4)).add k)=some u:=by
 obtain⟨css,⟨h0,h1,h2,a',c',e,h3,h4⟩,hl,hl4,hf⟩:=h;injection e with e1 e2 e3;subst e1;obtain⟨cs,On⟩:∃cs,css[j]? =some cs:=⟨_,aB (by rw[hl];exact(aD.1 hq).1)⟩
 have hF:=hf j cs x On hq;have SR:=hl4 cs (aC On);obtain⟨ad,k1,k2,k3⟩:=h4 (j*4+0) _ (flat_get hl4 On 0 _ (aB (show 0<cs.length by omega)));refine⟨ad,cs,k1,hF,SR,fun k u hu=>?_⟩;obtain⟨ad2,m1,m2,m3⟩:=h4 (j*4+k) u (flat_get hl4 On k u hu);rw[k1]at m1;injection m1 with m1;subst m1;refine⟨m2,?_⟩;rw[<-m3];have:(ad.add (j*4)).add k=ad.add (j*4+k):=by
  unfold Addr.add;split<;>split<;>simp_all<;>omega
 rw[this]
def dM{α:Type}(P:World->(Nat->Prop)->Value->α->Prop)(w:World)(S:Nat->Prop)(v:Value)(M:List α):Prop:=
 ∃rv,ij w S 1 v rv M.length∧rv.length=M.length∧∀(i:Nat) u x,rv[i]? =some u->M[i]? =some x->P w S u x
theorem dM.shape{α:Type}{P:World->(Nat->Prop)->Value->α->Prop}{xs:List α}(h:dM P w S v xs):∃a c,v= .slice a xs.length c∧xs.length<=c∧xs.length<=maxLen:=by
 obtain⟨rv,⟨h0,_,_,a,c,h1,h2,_⟩,_⟩:=h;exact⟨a,c,h1,h2,h0⟩
theorem dM.load{α:Type}{P:World->(Nat->Prop)->Value->α->Prop}{xs:List α}{a:Option Addr}{m c j:Nat}{x:α}(h:dM P w S (.slice a m c) xs)(hq:xs[j]? =some x):
  ∃ad u,a=some ad∧P w S u x∧S ad.block∧w.cell? (ad.add (j*1))=some u:=by
 obtain⟨rv,⟨h0,h1,h2,a',c',e,h3,h4⟩,hl,hf⟩:=h;injection e with e1 e2 e3;subst e1;obtain⟨u,hu⟩:∃u,rv[j]? =some u:=⟨_,aB (by rw[hl];exact(aD.1 hq).1)⟩
 obtain⟨ad,k1,k2,k3⟩:=h4 j u hu;exact⟨ad,u,k1,hf j u x hu hq,k2,by rw[aT];exact k3⟩
abbrev jh:=dM q8
theorem jh.cJ(h:jh w S v M)(hk:∀g,S g->w2.heap[g]? =w.heap[g]?):jh w2 S v M:=by
 obtain⟨rv,h1,h2,h3⟩:=h;exact⟨rv,h1.cJ hk,h2,fun i u x k1 k2=>q8.cJ (h3 i u x k1 k2) hk⟩
theorem jh.cK(h:jh w S v M)(hk:∀g,S g->S' g):jh w S' v M:=by
 obtain⟨rv,h1,h2,h3⟩:=h;exact⟨rv,h1.cK hk,h2,fun i u x k1 k2=>q8.cK (h3 i u x k1 k2) hk⟩
end
section
variable{S S':Nat->Prop}{H:Hp}{nx:Nat}{iv iv':Iv}{B:Nat}{w w' w2:World}{O:Nat->Sx.dx}{v:Value}{xs:List (Int×Int)}
end
section
variable{S S':Nat->Prop}{H:Hp}{nx:Nat}{iv iv':Iv}{B:Nat}{w w' w2:World}{O:Nat->Sx.dx}{v:Value}{M:List (List (Int×Int))}
theorem jh.rel(h:jh w (Cv S B iv) v M)(r:Rel H nx iv B w O w')(hS:∀g,S g->g<B):jh w' (Cv S B iv) v M:=jh.cJ h fun _ hg=>Rel.same r hS hg
theorem jh.arg(h:jh w S v M)(iv:Iv):jh w (Cv S w.heap.size iv) v M:=jh.cK h fun _ h=>.inl h
end
section
variable{S S':Nat->Prop}{H:Hp}{nx:Nat}{iv iv':Iv}{B:Nat}{w w' w2:World}{O:Nat->Sx.dx}{v:Value}{M:List (List Rat)}
end
def gS{α:Type}:List (List α)->Nat
 |[]=>0
 |r::_=>r.length
theorem dM.Lw(h:q8 w S v xs):∃a c,v= .slice a xs.length c:=by
 obtain⟨a,c,h,_⟩:=cY.shape h;exact⟨a,c,h⟩
def f0:List Value:=[.bool false,.slice none 0 0,.bool false,.slice none 0 0]
structure aBH(w:World)(S:Nat->Prop)(n i:Nat)(css:List (List Value))(qs:List Rat):Prop where
 len:css.length=n
 four:∀cs∈css,cs.length=4
 one:∀cs∈css,∀u∈cs,u.oneCell'=true
 at_:∀(j:Nat) cs q,j<i->css[j]? =some cs->qs[j]? =some q->NX w S cs q
section
variable{S S':Nat->Prop}{H:Hp}{nx n i:Nat}{iv iv':Iv}{B:Nat}{w w1 w' w2:World}{O:Nat->Sx.dx}{css:List (List Value)}{qs:List Rat}
end
def iI(x:Int×Int):Rat:=ratio x.1 x.2
structure aBC(w:World)(S:Nat->Prop)(B:Nat)(iv:Iv)(rv:List Value)(n:Nat)(M:List (List Rat)):Prop where
 len:rv.length=M.length
 row:∀(i:Nat) v qs,rv[i]? =some v->M[i]? =some qs->aAL w (fun g=>Cv S B iv g∧¬ ∃u∈rv,u.ownBlock=some g) v n qs
 GH:∀(i j:Nat) a b g,rv[i]? =some a->rv[j]? =some b->a.ownBlock=some g->b.ownBlock=some g->i=j
 new:∀v∈rv,∀g,v.ownBlock=some g->Cv FF B iv g
theorem gQ(B:Nat):∀g,(fun _:Nat=>False) g->g<B:=fun _ h=>h.elim
theorem D7{B:Nat}{iv:Iv}{g:Nat}(h:Cv FF B iv g):Cv S B iv g:=h.elim (fun h=>h.elim) .inr
section
variable{S S':Nat->Prop}{H:Hp}{nx n i:Nat}{iv iv':Iv}{B:Nat}{w w1 w' w2:World}{O:Nat->Sx.dx}{rv:List Value}{M:List (List Rat)}
structure aBI(w:World)(S:Nat->Prop)(B:Nat)(iv:Iv)(vm:Value)(n:Nat)(M:List (List Rat)):Prop where
 ex:∃rv,aA3 w (fun g=>Cv S B iv g∧¬Mb vm rv g) vm rv n M∧∀g,Mb vm rv g->Cv FF B iv g
end
def dR(w:World)(S:Nat->Prop)(v:Value)(ps:List Nat):Prop:=ij w S 1 v (ps.map fun c:Nat=>.int .i64 (c:Int)) ps.length
theorem dR.cJ{w2:World}(h:dR w S v ps)(hk:∀g,S g->w2.heap[g]? =w.heap[g]?):dR w2 S v ps:=ij.cJ h hk
theorem dR.cK{S':Nat->Prop}(h:dR w S v ps)(hk:∀g,S g->S' g):dR w S' v ps:=ij.cK h hk
section
variable{S S':Nat->Prop}{H:Hp}{nx:Nat}{iv iv':Iv}{B:Nat}{w w' w2:World}{O:Nat->Sx.dx}{v:Value}{ps:List Nat}
theorem dR.rel(h:dR w (Cv S B iv) v ps)(r:Rel H nx iv B w O w')(hS:∀g,S g->g<B):dR w' (Cv S B iv) v ps:=dR.cJ h fun _ hg=>Rel.same r hS hg
theorem dR.cG(h:dR w (Cv S B iv) v ps)(r:Rel H nx iv B w O w')(hS:∀g,S g->g<B)(he:Ext w' w2)(hm:∀p,p∈iv->p∈iv'):dR w2 (Cv S B iv') v ps:=
 dR.cK (dR.cJ (dR.rel h r hS) fun g hg=>he.block g (Rel.old r hS g hg)) fun _ hg=>hg.mono hm
theorem dR.dB(h:dR w2 (Nf w' w2) v ps)(hB:B<=w'.heap.size)(hm:(w'.heap.size,w2.heap.size)∈iv):dR w2 (Cv S B iv) v ps:=dR.cK h fun _ hg=>hg.dB hB hm
end
section
variable{S S':Nat->Prop}{H:Hp}{nx n:Nat}{iv iv':Iv}{B:Nat}{w w' w2:World}{O:Nat->Sx.dx}{v:Value}{qs:List Rat}
end
def gI(A:List (List Rat))(pv:List Nat)(cols c i:Nat):List Rat:=(List.range i).foldl (fun x i=>x.set (pv.getD i 0) (-(dD A i c))) ((List.replicate cols 0).set c 1)
def eU(A:List (List Rat))(pv:List Nat)(cols c:Nat):List (List Rat):=((List.range c).filter fun c=>decide (c∉pv)).map fun c=>gI A pv cols c pv.length
theorem gz(A:List (List Rat))(pv:List Nat)(cols c i:Nat):gI A pv cols c (i+1)=(gI A pv cols c i).set (pv.getD i 0) (-(dD A i c)):=by
 rw[gI,bM,List.foldl_append];rfl
theorem kD(A:List (List Rat))(pv:List Nat)(cols c i:Nat):(gI A pv cols c i).length=cols:=by
 induction i with
 |zero=>simp[gI]
 |succ i ih=>rw[gz,bF,ih]
theorem FV{cols c:Nat}(h:c∈pv):eU A pv cols (c+1)=eU A pv cols c:=by
 rw[eU,bM,List.filter_append];simp[h,eU]
theorem Da{cols c:Nat}(h:c∉pv):eU A pv cols (c+1)=eU A pv cols c++[gI A pv cols c pv.length]:=by
 rw[eU,bM,List.filter_append];simp[h,eU]
abbrev ir(M:List (List (Int×Int))):List (List Rat):=M.map fun r=>r.map iI
def fy(A:List (List Rat))(pv:List Nat)(cols i:Nat):List Rat:=(List.range i).foldl (fun x i=>x.set (pv.getD i 0) (dD A i cols)) (List.replicate cols 0)
theorem gV(A:List (List Rat))(pv:List Nat)(cols i:Nat):fy A pv cols (i+1)=(fy A pv cols i).set (pv.getD i 0) (dD A i cols):=by
 rw[fy,bM,List.foldl_append];rfl
structure aBD(w:World)(B:Nat)(iv:Iv)(rv:List Value)(v:Value)(n:Nat)(qs:List Rat):Prop where
 row:aAL w (fun g=>(Cv FF B iv g∧¬ ∃u∈rv,u.ownBlock=some g)∧v.ownBlock≠some g) v n qs
 y8:∀g,v.ownBlock=some g->Cv FF B iv g
section
variable{H:Hp}{nx n:Nat}{iv iv':Iv}{B:Nat}{w w' w2:World}{O:Nat->Sx.dx}{v:Value}{qs:List Rat}{rv:List Value}
end
def iU(w:World)(S:Nat->Prop)(cs:List Value)(q:Rat):Prop:=∃b a n c b2 a2 n2 c2,cs=[.bool b,.slice a n c,.bool b2,.slice a2 n2 c2]∧cT w S (.agg #[.bool b,.slice a n c,.bool b2,.slice a2 n2 c2]) q
abbrev cI:=cY iU
abbrev cR:=dM cI
section
variable{S S':Nat->Prop}{H:Hp}{nx:Nat}{iv iv':Iv}{B:Nat}{w w' w2:World}{O:Nat->Sx.dx}{v:Value}{qs:List Rat}{cs:List Value}{q:Rat}
theorem iU.cJ(h:iU w S cs q)(hk:∀g,S g->w2.heap[g]? =w.heap[g]?):iU w2 S cs q:=by
 obtain⟨b,a,n,c,b2,a2,n2,c2,h1,h2⟩:=h;exact⟨b,a,n,c,b2,a2,n2,c2,h1,h2.cJ hk⟩
theorem iU.cK(h:iU w S cs q)(hk:∀g,S g->S' g):iU w S' cs q:=by
 obtain⟨b,a,n,c,b2,a2,n2,c2,h1,h2⟩:=h;exact⟨b,a,n,c,b2,a2,n2,c2,h1,h2.cK hk⟩
theorem cI.cJ(h:cI w S v qs)(hk:∀g,S g->w2.heap[g]? =w.heap[g]?):cI w2 S v qs:=by
 obtain⟨css,h1,h2,h3,h4⟩:=h;exact⟨css,h1.cJ hk,h2,h3,fun j cs x k1 k2=>(h4 j cs x k1 k2).cJ hk⟩
theorem cI.cK(h:cI w S v qs)(hk:∀g,S g->S' g):cI w S' v qs:=by
 obtain⟨css,h1,h2,h3,h4⟩:=h;exact⟨css,h1.cK hk,h2,h3,fun j cs x k1 k2=>(h4 j cs x k1 k2).cK hk⟩
theorem cR.cJ{M:List (List Rat)}(h:cR w S v M)(hk:∀g,S g->w2.heap[g]? =w.heap[g]?):cR w2 S v M:=by
 obtain⟨rv,h1,h2,h3⟩:=h;exact⟨rv,h1.cJ hk,h2,fun i u x k1 k2=>cI.cJ (h3 i u x k1 k2) hk⟩
theorem cR.cK{M:List (List Rat)}(h:cR w S v M)(hk:∀g,S g->S' g):cR w S' v M:=by
 obtain⟨rv,h1,h2,h3⟩:=h;exact⟨rv,h1.cK hk,h2,fun i u x k1 k2=>cI.cK (h3 i u x k1 k2) hk⟩
end
section
variable{S S':Nat->Prop}{H:Hp}{nx:Nat}{iv iv':Iv}{B:Nat}{w w' w2:World}{O:Nat->Sx.dx}{v:Value}{qs:List Rat}
theorem cI.rel(h:cI w (Cv S B iv) v qs)(r:Rel H nx iv B w O w')(hS:∀g,S g->g<B):cI w' (Cv S B iv) v qs:=cI.cJ h fun _ hg=>Rel.same r hS hg
theorem cI.cG(h:cI w (Cv S B iv) v qs)(r:Rel H nx iv B w O w')(hS:∀g,S g->g<B)(he:Ext w' w2)(hm:∀p,p∈iv->p∈iv'):cI w2 (Cv S B iv') v qs:=
 cI.cK (cI.cJ (cI.rel h r hS) fun g hg=>he.block g (Rel.old r hS g hg)) fun _ hg=>hg.mono hm
theorem cI.dB(h:cI w2 (Nf w' w2) v qs)(hB:B<=w'.heap.size)(hm:(w'.heap.size,w2.heap.size)∈iv):cI w2 (Cv S B iv) v qs:=cI.cK h fun _ hg=>hg.dB hB hm
theorem cI.out{w0 w1:World}(h:cI w1 (Cv S w0.heap.size iv) v qs)(r:Rel H nx iv w0.heap.size w1 O w')(hS:Old S w0):cI w' (Nw S w0 w') v qs:=
 cI.cK (cI.rel h r hS) fun _ hg=>Cv.nw hg r
end
section
variable{S S':Nat->Prop}{H:Hp}{nx:Nat}{iv iv':Iv}{B:Nat}{w w' w2:World}{O:Nat->Sx.dx}{v:Value}{M:List (List Rat)}
theorem cR.rel(h:cR w (Cv S B iv) v M)(r:Rel H nx iv B w O w')(hS:∀g,S g->g<B):cR w' (Cv S B iv) v M:=cR.cJ h fun _ hg=>Rel.same r hS hg
theorem cR.cG(h:cR w (Cv S B iv) v M)(r:Rel H nx iv B w O w')(hS:∀g,S g->g<B)(he:Ext w' w2)(hm:∀p,p∈iv->p∈iv'):cR w2 (Cv S B iv') v M:=
 cR.cK (cR.cJ (cR.rel h r hS) fun g hg=>he.block g (Rel.old r hS g hg)) fun _ hg=>hg.mono hm
theorem cR.dB(h:cR w2 (Nf w' w2) v M)(hB:B<=w'.heap.size)(hm:(w'.heap.size,w2.heap.size)∈iv):cR w2 (Cv S B iv) v M:=cR.cK h fun _ hg=>hg.dB hB hm
theorem cR.old(h:cR w2 (Nw (Cv S B iv) w' w2) v M)(hB:B<=w'.heap.size):cR w2 (Cv S B ((w'.heap.size,w2.heap.size)::iv)) v M:=cR.cK h fun _ hg=>Nw.cv hg hB
end
theorem jH(A:List (List Rat))(pv:List Nat)(cols i:Nat):(fy A pv cols i).length=cols:=by
 induction i with
 |zero=>simp[fy]
 |succ i ih=>rw[gV,bF,ih]
theorem FU(A:List (List Rat))(pv:List Nat)(cols c:Nat):(eU A pv cols c).length<=c:=by
 unfold eU;rw[aK];exact aX (List.length_filter_le _ _) (by simp)
end Go.Ex
namespace Go.Ex
variable{ds l:List Nat}
def dS:List Int->Int
 |[]=>0
 |c::r=>c+65536*dS r
def up(k:Nat):Int:=65536^k
theorem DG(k:Nat):up (k+1)=65536*up k:=by rw[up,Int.pow_succ,Int.mul_comm];rfl
theorem Kq(k:Nat):0<up k:=Int.pow_pos (by decide)
theorem BG(a b:List Int):dS (a++b)=dS a+up a.length*dS b:=by
 induction a with
 |nil=>simp[dS,up]
 |cons c r ih=>rw[List.cons_append,dS,ih,dS,List.length_cons,DG,Int.mul_add,<-Int.mul_assoc];omega
theorem Gn(a:List Int):dS (a.map (- ·))= -dS a:=by
 induction a with
 |nil=>rfl
 |cons c r ih=>rw[List.map_cons,dS,ih,dS];omega
def Dg(l:List Nat):Prop:=∀d∈l,d<65536
def mF(l:List Nat):Int:=dS (l.map fun d:Nat=>(d:Int))
theorem zf(h:Dg l):0<=mF l∧mF l<up l.length:=by
 induction l with
 |nil=>exact⟨Int.le_refl _,by decide⟩
 |cons d r ih=>
  have h1:=ih fun x hx=>h x (List.mem_cons_of_mem _ hx);have h2:=h d aG;have e:mF (d::r)=(d:Int)+65536*mF r:=rfl;rw[e,List.length_cons,DG];omega
def de:List Int->Int->List Nat×Int
 |[],k=>([],k)
 |c::r,k=>(((c+k) % 65536).toNat::(de r ((c+k) / 65536)).1,(de r ((c+k) / 65536)).2)
theorem kp:∀(cs:List Int) (k:Int),dS cs+k=mF (de cs k).1+up cs.length*(de cs k).2∧Dg (de cs k).1∧(de cs k).1.length=cs.length
 |[],k=>⟨by simp[dS,de,mF,up],by simp[de,Dg],rfl⟩
 |c::r,k=>by
  obtain⟨h1,h2,h3⟩:=kp r ((c+k) / 65536);have h4:0<=(c+k) % 65536:=Int.emod_nonneg _ (by decide);have h5:(c+k) % 65536<65536:=Int.emod_lt_of_pos _ (by decide);have h6:=Int.mul_ediv_add_emod (c+k) 65536;refine⟨?_,fun d hd=>?_,by simp[de,h3]⟩
  ·have e:mF (de (c::r) k).1=(((c+k) % 65536).toNat:Int)+65536*mF (de r ((c+k) / 65536)).1:=rfl;have e2:(de (c::r) k).2=(de r ((c+k) / 65536)).2:=rfl;rw[e,e2,dS,List.length_cons,DG,Int.mul_assoc];omega
  ·have e:(de (c::r) k).1=((c+k) % 65536).toNat::(de r ((c+k) / 65536)).1:=rfl;rw[e]at hd;rcases List.mem_cons.1 hd with rfl|hd
   ·omega
   ·exact h2 d hd
theorem DH(cs:List Int)(c k:Int):de (cs++[c]) k=((de cs k).1++[((c+(de cs k).2) % 65536).toNat],(c+(de cs k).2) / 65536):=by
 induction cs generalizing k with
 |nil=>rfl
 |cons d r ih=>simp only[List.cons_append,de,ih]
theorem kG:∀(cs:List Int) (k:Int),(∀c∈cs,-1152921504606846976<=c∧c<=1152921504606846976)-> -1152921504606846976<=k->k<=1152921504606846976-> -1152921504606846976<=(de cs k).2∧(de cs k).2<=1152921504606846976
 |[],k,_,h1,h2=>⟨h1,h2⟩
 |c::r,k,h,h1,h2=>by
  have hc:=h c aG;exact kG r _ (fun x hx=>h x (List.mem_cons_of_mem _ hx)) (by omega) (by omega)
def dG(n:Nat):List Nat:=if h:n=0 then []else n % 65536::dG (n / 65536)
termination_by n
decreasing_by omega
theorem kr:dG 0=[]:=by rw[dG];rfl
theorem pg{n:Nat}(h:0<n):dG n=n % 65536::dG (n / 65536):=by
 rw[dG,dif_neg (by omega)]
theorem ku(n:Nat):mF (dG n)=n∧Dg (dG n):=by
 induction n using Nat.strongRecOn with
 |_ n ih=>
  rcases bH n with h|h
  ·subst h;rw[kr];exact⟨rfl,by simp[Dg]⟩
  ·rw[pg h];obtain⟨h1,h2⟩:=ih (n / 65536) (by omega);refine⟨?_,fun d hd=>?_⟩
   ·have e:mF (n % 65536::dG (n / 65536))=((n % 65536:Nat):Int)+65536*mF (dG (n / 65536)):=rfl;rw[e,h1];omega
   ·rcases List.mem_cons.1 hd with rfl|hd
    ·omega
    ·exact h2 d hd
theorem j2{n:Nat}:∀{k:Nat},n<65536^k->(dG n).length<=k
 |0,h=>by
  have:n=0:=by simp at h;exact h
  subst this;rw[kr];simp
 |k+1,h=>by
  rcases bH n with h0|h0
  ·subst h0;rw[kr];simp
  ·rw[pg h0,List.length_cons];have:=j2 (n:=n / 65536) (k:=k) (by rw[Nat.pow_succ]at h;exact Nat.div_lt_of_lt_mul (by rw[bV];exact h));omega
def gu:List Nat->List Nat
 |[]=>[]
 |[a]=>[a]
 |a::b::r=>(a+65536*b)::gu r
theorem zg:∀(l:List Nat),Dg l->(val (gu l):Int)=mF l∧Lm (gu l)∧(gu l).length=(l.length+1) / 2
 |[],_=>⟨rfl,by simp[gu,Lm],rfl⟩
 |[a],h=>by
  have:=h a (by simp);exact⟨by simp[gu,val,mF,dS],fun x hx=>by simp[gu]at hx;omega,by simp[gu]⟩
 |a::b::r,h=>by
  obtain⟨h1,h2,h3⟩:=zg r fun x hx=>h x (List.mem_cons_of_mem _ (List.mem_cons_of_mem _ hx));have ha:=h a (by simp);have hb:=h b (by simp);refine⟨?_,fun x hx=>?_,?_⟩
  ·have e:mF (a::b::r)=(a:Int)+65536*((b:Int)+65536*mF r):=rfl;rw[e,<-h1,gu,val];simp only[Int.natCast_add,Int.natCast_mul]
   omega
  ·rw[gu]at hx;rcases List.mem_cons.1 hx with rfl|hx
   ·omega
   ·exact h2 x hx
  ·rw[gu,List.length_cons,h3];simp only[List.length_cons]
   omega
def pk(ds:List Nat)(k:Nat):List Nat:=(List.range k).map fun i=>ds.getD (2*i) 0+65536*ds.getD (2*i+1) 0
theorem yM(ds:List Nat)(k:Nat):pk ds (k+1)=pk ds k++[ds.getD (2*k) 0+65536*ds.getD (2*k+1) 0]:=by simp[pk,bM]
theorem vH(ds:List Nat)(k:Nat):(pk ds k).length=k:=by simp[pk]
theorem Kr:∀(ds:List Nat),pk ds ((ds.length+1) / 2)=gu ds
 |[]=>rfl
 |[a]=>by simp[pk,gu,bM]
 |a::b::r=>by
  have ih:=Kr r;have e:((a::b::r).length+1) / 2=(r.length+1) / 2+1:=by simp only[List.length_cons];omega
  rw[e,gu,<-ih,pk,List.range_succ_eq_map,List.map_cons,List.map_map,pk];congr 1
theorem Ks(h:Dg ds)(k:Nat):Lm (pk ds k):=fun x hx=>by
 obtain⟨i,_,rfl⟩:=aU.1 hx;have key:∀j,ds.getD j 0<65536:=fun j=>by
  rw[List.getD]
  cases hj:ds[j]? with
  |none=>simp
  |some d=>simp;exact h d (aC hj)
 have h1:=key (2*i);have h2:=key (2*i+1);omega
end Go.Ex
namespace Go.Ex
open Go Go.Sx Go.Proofs
variable{cs:List Int}{S:Nat->Prop}{v:Value}{w:World}
def eD(w:World)(S:Nat->Prop)(v:Value)(cs:List Int):Prop:=ij w S 1 v (cs.map (Value.int .i64)) cs.length
theorem eD.cJ{w2:World}(h:eD w S v cs)(hk:∀g,S g->w2.heap[g]? =w.heap[g]?):eD w2 S v cs:=ij.cJ h hk
theorem eD.cK{S':Nat->Prop}(h:eD w S v cs)(hk:∀g,S g->S' g):eD w S' v cs:=ij.cK h hk
theorem eD.load{a:Option Addr}{n c j:Nat}{x:Int}(h:eD w S (.slice a n c) cs)(hx:cs[j]? =some x):∃ad,a=some ad∧S ad.block∧w.cell? (ad.add (j*1))=some (.int .i64 x):=by
 obtain⟨_,_,_,a',c',e,_,h4⟩:=h;injection e with e1 e2 e3;subst e1;obtain⟨ad,k1,k2,k3⟩:=h4 j (.int .i64 x) (by rw[aM,hx];rfl);exact⟨ad,k1,k2,by rw[aT];exact k3⟩
theorem eD.shape(h:eD w S v cs):∃a c,v= .slice a cs.length c∧cs.length<=c:=by
 obtain⟨_,_,_,a',c',e,h3,_⟩:=h;exact⟨a',c',e,h3⟩
def eI(ds:List Nat):List Int:=ds.map fun d:Nat=>(d:Int)
theorem eo(ds:List Nat):(eI ds).length=ds.length:=by simp[eI]
end Go.Ex
namespace Go.Sx
open Go Go.Ex Go.Proofs
variable{cs:List Value}{O:Nat->Sx.dx}
theorem Rel.Du{H:Hp}{nx:Nat}{iv:Iv}{B:Nat}{w w':World}(r:Rel H nx iv B w O w'){id t m sz:Nat}(h:dF H id=some (.vec t sz cs))(hm:cs.length=m*sz)(hs:0<sz):
  w'.ownsRow B t sz ((At.w id m).den O) m cs:=by
 rcases r.vec id t sz _ h with⟨hn,rfl⟩|⟨hn,spare,hb,hc,Q3⟩
 ·have Rp:m=0:=by
   rcases bH m with h|h
   ·exact h
   ·have:=Nat.mul_pos h hs;simp at hm;omega
  subst Rp;have:(At.w id 0).den O= .slice none 0 0:=by simp[At.den,hn]
  rw[this];exact World.ownsRow_nil _ _ _ _
 ·have hv:(At.w id m).den O= .slice (some ⟨(O id).g,0,none⟩) m (O id).cap:=by simp[At.den,hn]
  have h1:(cs++spare).length=cs.length+spare.length:=List.length_append;rw[hv];refine⟨hm,.inr ⟨(O id).g,(O id).cap,_,rfl,(r.low id _ h hn).1,hb,?_,Q3,by simpa using hc,?_⟩⟩
  ·have h2:m*sz<=(O id).cap*sz:=by omega
   exact bo h2 hs
  ·rw[<-hm];simp
end Go.Sx
namespace Go.Ex
open Go Go.Sx Go.Proofs
theorem Fy(n:Nat)(w:World)(hn:n<=9223372036854775807):eA PG N.uC #[.int .i64 n] w (eF w fun v w2=>eD w2 (Nf w w2) v (eI (dG n))):=by
 refine xw (by simp) ?_
 refine⟨Nat×List Nat×World,fun z=>⟨[(0,iZ z.1),(3,.o (.w 0 z.2.1.length))],[(0,.vec T.int 1 ((eI z.2.1).map (Value.int .i64)))],1,[],z.2.2⟩,fun z=>z.1,
  fun z=>eE w.heap.size w z.2.2∧z.1<=n∧z.2.1.length<=n-z.1∧z.2.1++dG z.1=dG n,?_,?_⟩
 ·intro O w' r
  exact⟨(n,[],w'),⟨r.cQ,aF _,by simp,by simp⟩,Sub.nil 3 T.int 1 rfl (by simp[j8,SV.sc,At.sc,fa]) r fun ρ1 r1=>
   Sub.gn [] r1⟩
 rintro⟨k,ds,w1⟩ ⟨hw,hk,hl,hs⟩;dsimp only at hw hk hl hs ⊢;have Sc:=eo ds;refine dK.mk ?_ ?_<;>intro h
 ·have h:0<k:=by
   have:(k:Int)>0:=aI h;omega
  refine⟨by decide,((k % 65536:Nat):Int),Lx k 65536,?_⟩;refine .inl ?_;refine⟨by simp[Sc],?_,by have h1:=congrArg List.length hs;rw[List.length_append]at h1;have h2:=j2 (n:=n) (k:=4) (by omega);unfold maxLen;omega,?_⟩
  ·have h1:=congrArg List.length hs;rw[List.length_append]at h1;have h2:=j2 (n:=n) (k:=4) (by omega);omega
  refine⟨by decide,((k / 65536:Nat):Int),My (by omega),?_⟩;intro ρ3 w3 r3;have hl5:(ds++[k % 65536]).length=ds.length+1:=by simp
  have Sw:(eI (ds++[k % 65536])).map (Value.int .i64)=(eI ds).map (Value.int .i64)++[.int .i64 ((k % 65536:Nat):Int)]:=by simp[eI]
  refine⟨(k / 65536,ds++[k % 65536],w3),⟨hw.tr r3.cQ,by dsimp only;omega,by dsimp only;rw[hl5];omega,?_⟩,
   Sub.gn [(0,2)] r3 ⟨by rw[Sw];rfl,trivial⟩ ⟨rfl,by dsimp only;rw[hl5];rfl,trivial⟩,by dsimp only;omega⟩
  dsimp only
  rw[<-hs,pg h];simp
 ·have h:k=0:=by
   have:¬(k:Int)>0:=aH h;omega
  subst h;rw[kr,List.append_nil]at hs;subst hs;intro ρe we re;refine⟨_,rfl,hw.tr re.cQ,?_⟩;have:=re.iG (id:=0) (sz:=1) (m:=(dG n).length) rfl (by simp[Sc]) (by have h2:=j2 (n:=n) (k:=4) (by omega);unfold maxLen;omega) (by decide) (by intro u hu;simp at hu;obtain⟨_,_,rfl⟩:=hu;rfl);unfold eD;rw[Sc];exact this.cK fun g hg=>.inr hg
end Go.Ex
namespace Go.Ex
open Go Go.Sx Go.Proofs
variable{cs:List Int}{S:Nat->Prop}
theorem wL(n:Int):(n.tmod 65536<0->n % 65536=n.tmod 65536+65536)∧(¬n.tmod 65536<0->n % 65536=n.tmod 65536)∧ -65536<n.tmod 65536∧n.tmod 65536<65536:=by
 by_cases h:0<=n
 ·rw[Int.tmod_eq_emod_of_nonneg h];omega
 ·have h1:n.tmod 65536= -((-n) % 65536):=by
   have:n= -(-n):=by omega
   conv=>lhs;rw[this]
   rw[Int.neg_tmod,Int.tmod_eq_emod_of_nonneg (by omega)]
  rw[h1];omega
theorem Ca(n:Int):(n-n % 65536).tdiv 65536=n / 65536:=by
 have h:n-n % 65536=65536*(n / 65536):=by omega
 rw[h,Int.mul_tdiv_cancel_left _ (by decide)]
theorem Cb{w:World}{v:Value}(hS:Old S w)(h:eD w S v cs)(hb:∀c∈cs,-1152921504606846976<=c∧c<=1152921504606846976)(hl:cs.length<=1000000000):
  eA PG N.rf #[v] w (eF w fun v' w2=>∃o,v'= .tuple #[o,.int .i64 (de cs 0).2]∧w2.ownsRow w.heap.size T.int 1 o cs.length ((eI (de cs 0).1).map (Value.int .i64))):=by
 obtain⟨a,c,rfl,hc⟩:=h.shape;refine vh (by simp) ?_
 refine⟨Nat×World,fun z=>⟨[(0,sV a cs.length c),(4,.o (.w 0 z.1)),(5,.o (.v (.int .i64 (de (cs.take z.1) 0).2))),(6,iZ z.1)],[(0,.vec T.int 1 ((eI (de (cs.take z.1) 0).1).map (Value.int .i64)))],1,[],z.2⟩,fun z=>cs.length-z.1,
  fun z=>eE w.heap.size w z.2∧z.1<=cs.length,?_,?_⟩
 ·intro O w' r
  exact⟨(0,w'),⟨r.cQ,by simp⟩,Sub.nil 4 T.int 1 rfl (by simp[j8,SV.sc,At.sc,fa]) r fun ρ1 r1=>
   Sub.gn [] r1⟩
 rintro⟨i,w1⟩ ⟨hw,hi⟩;dsimp only at hw hi ⊢;obtain⟨-,hdg,hlen⟩:=kp (cs.take i) 0;have Rq:((eI (de (cs.take i) 0).1).map (Value.int .i64)).length=i:=by rw[aK,eo,hlen,aW];omega
 obtain⟨VM,Uy⟩:=kG (cs.take i) 0 (fun c hc=>hb c (List.mem_of_mem_take hc)) (by decide) (by decide);have hR:eD w1 S (.slice a cs.length c) cs:=eD.cJ h fun g hg=>hw.block g (hS g hg);refine dK.mk ?_ ?_<;>intro h
 ·have h:i<cs.length:=by simpa using h
  obtain⟨x,hx⟩:∃x,cs[i]? =some x:=⟨_,aB h⟩
  obtain⟨SH,RM⟩:=hb x (aC hx);obtain⟨ad,rfl,q1,q2⟩:=hR.load hx;have Tz:cs.take (i+1)=cs.take i++[x]:=by rw[List.take_add_one,hx];rfl
  have hsn:=DH (cs.take i) x 0;rw[<-Tz]at hsn;generalize (de (cs.take i) 0).1=ds at*
  generalize (de (cs.take i) 0).2=k at*
  obtain⟨t1,t2,t3,t4⟩:=wL (x+k);have hem1:=Int.emod_nonneg (x+k) (show (65536:Int)≠0 by decide);have hem2:=Int.emod_lt_of_pos (x+k) (show (0:Int)<65536 by decide);refine⟨ad,rfl,by omega,.int .i64 x,fun O w' r=>?_,?_⟩
  ·rw[aE,cH (w:=w1) (w2:=w') (by rw[dN];exact Rel.same (S:=S) r hS (.inl q1))];exact q2
  refine⟨x+k,wo,by decide,(x+k).tmod 65536,rfl,?_⟩;refine dK.mk ?_ ?_<;>intro Qp
  ·have Qp:=t1 (aI Qp);refine⟨(x+k) % 65536,by rw[Qp,wrap64]<;>omega,x+k-(x+k) % 65536,wo,by decide,(x+k) / 65536,by rw[Ca,wrap64]<;>omega,?_⟩;refine .inl ?_;refine⟨by rw[Rq,aT],by omega,by unfold maxLen;omega,((i+1:Nat):Int),wo,?_⟩;intro ρ3 w3 r3;have Sw:(eI (de (cs.take (i+1)) 0).1).map (Value.int .i64)=(eI ds).map (Value.int .i64)++[.int .i64 ((x+k) % 65536)]:=by
    rw[hsn];simp[eI,Int.toNat_of_nonneg hem1]
   have hk5:(de (cs.take (i+1)) 0).2=(x+k) / 65536:=by rw[hsn]
   exact⟨(i+1,w3),⟨hw.tr r3.cQ,by dsimp only;omega⟩,Sub.gn [(0,2)] r3 ⟨by dsimp only;rw[Sw];rfl,trivial⟩ ⟨rfl,rfl,by dsimp only;rw[hk5];rfl,rfl,trivial⟩,by dsimp only;omega⟩
  ·have Qp:=t2 (aH Qp);rw[<-Qp];refine⟨x+k-(x+k) % 65536,wo,by decide,(x+k) / 65536,by rw[Ca,wrap64]<;>omega,?_⟩;refine .inl ?_;refine⟨by rw[Rq,aT],by omega,by unfold maxLen;omega,((i+1:Nat):Int),wo,?_⟩;intro ρ3 w3 r3;have Sw:(eI (de (cs.take (i+1)) 0).1).map (Value.int .i64)=(eI ds).map (Value.int .i64)++[.int .i64 ((x+k) % 65536)]:=by
    rw[hsn];simp[eI,Int.toNat_of_nonneg hem1]
   have hk5:(de (cs.take (i+1)) 0).2=(x+k) / 65536:=by rw[hsn]
   exact⟨(i+1,w3),⟨hw.tr r3.cQ,by dsimp only;omega⟩,Sub.gn [(0,2)] r3 ⟨by dsimp only;rw[Sw];rfl,trivial⟩ ⟨rfl,rfl,by dsimp only;rw[hk5];rfl,rfl,trivial⟩,by dsimp only;omega⟩
 ·have h:i=cs.length:=by
   have:¬i<cs.length:=by simpa using h
   omega
  subst h;rw[bD]at Rq ⊢;exact rtn hw fun ρe we re=>⟨_,rfl,re.Du (id:=0) rfl (by rw[Rq,aT]) (by decide)⟩
end Go.Ex
namespace Go.Sx
open Go Go.Ex Go.Proofs
variable{ls:List Nat}{O:Nat->Sx.dx}
theorem Rel.Ly{H:Hp}{nx:Nat}{iv:Iv}{B:Nat}{w w':World}(r:Rel H nx iv B w O w'){id t m:Nat}(h:dF H id=some (.vec t 1 (U ls)))(hm:m<=ls.length)(PO:Lm ls)(hle:ls.length<=9223372036854775807):
  dQ w' (fun g=>B<=g∧g<w'.heap.size) ((At.w id m).den O) (ls.take m):=by
 have OU:(ls.take m).length=m:=by rw[aW];omega
 rcases r.vec id t 1 _ h with⟨hn,hu⟩|⟨hn,spare,hb,hc,Q3⟩
 ·have hl:ls=[]:=by cases ls with
   |nil=>rfl
   |cons a b=>simp[U]at hu
  subst hl;simp at hm;subst hm;have:(At.w id 0).den O= .slice none 0 0:=by simp[At.den,hn]
  rw[this];exact dQ.nil _ _
 ·refine⟨PO.take m,by rw[OU];omega,some ⟨(O id).g,0,none⟩,(O id).cap,by rw[OU];simp[At.den,hn],?_,fun j x hx=>⟨_,rfl,r.low id _ h hn,?_⟩⟩
  ·have h1:(U ls++spare).length=ls.length+spare.length:=by rw[List.length_append,gO]
   rw[OU];omega
  ·rw[List.getElem?_take]at hx;split at hx
   ·rw[dV,cell_of hb,aR,aL (by rw[gO];exact(aD.1 hx).1)];exact uQ hx
   ·cases hx
end Go.Sx
namespace Go.Ex
open Go Go.Sx Go.Proofs
variable{ds ls:List Nat}{n:Nat}{S:Nat->Prop}
theorem HT(_hn:n<ls.length)(h0:ls[n]? =some 0):dy (ls.take (n+1))=dy (ls.take n):=by
 rw[List.take_add_one,h0];exact k6 _
theorem HU{x:Nat}(h0:ls[n]? =some x)(hx:x≠0):dy (ls.take (n+1))=ls.take (n+1):=by
 rw[List.take_add_one,h0];exact oC _ hx
theorem Fz{w:World}{v:Value}(hS:Old S w)(h:eD w S v (eI ds))(hd:Dg ds)(hl:ds.length<=1000000000):
  eA PG N.uB #[v] w (eF w fun v' w2=>∃lv,v'= .agg #[.bool false,lv]∧dQ w2 (Nf w w2) lv (dy (gu ds))):=by
 obtain⟨a,c,rfl,hc⟩:=h.shape;rw[eo]at hc h ⊢;refine xu (by simp) ?_
 refine⟨Nat×World,fun z=>match z.1 with
   |0=>⟨[(0,sV a ds.length c),(2,pP 0 0),(3,pP 1 0),(4,iZ 0)],[(1,.box T.Int [.v (.bool false),.v (.slice none 0 0)]),(0,.box T.Int [.v (.bool false),.v (.slice none 0 0)])],2,[],z.2⟩
   |k+1=>⟨[(0,sV a ds.length c),(2,pP 0 0),(3,pP 1 0),(4,.o (.v (.int .i64 ((2*(k+1):Nat):Int))))],[(2,.vec T.uint32 1 (U (pk ds (k+1)))),(1,.box T.Int [.v (.bool false),.w 2 (k+1)]),(0,.box T.Int [.v (.bool false),.v (.slice none 0 0)])],3,[],z.2⟩,
  fun z=>ds.length-z.1,fun z=>eE w.heap.size w z.2∧2*z.1<=ds.length+1,?_,?_⟩
 ·intro O w' r;exact⟨(0,w'),⟨r.cQ,by simp⟩,Sub.gn [] r⟩
 rintro⟨k,w1⟩ ⟨hw,hi⟩;dsimp only at hw hi;have hR:eD w1 S (.slice a ds.length c) (eI ds):=eD.cJ h fun g hg=>hw.block g (hS g hg)
 cases k with
 |zero=>
  refine dK.mk ?_ ?_<;>intro h1
  ·have h1:0<ds.length:=by
    have:=aI h1;omega
   obtain⟨d0,TW⟩:∃x,ds[0]? =some x:=⟨_,aB h1⟩
   have hd0b:=hd d0 (aC TW);have Sh:ds.getD (2*0) 0=d0:=by show ds.getD 0 0=d0;rw[List.getD,TW];rfl
   obtain⟨ad,rfl,q1,q2⟩:=hR.load (j:=0) (x:=(d0:Int)) (by rw[eI,aM,TW];rfl);refine⟨ad,rfl,by omega,.int .i64 (d0:Int),fun O w' r=>?_,?_⟩
   ·show w'.cell? (ad.add (0*1))=_;rw[cH (w:=w1) (w2:=w') (by rw[dN];exact Rel.same (S:=S) r hS (.inl q1))];exact q2
   refine⟨((0+1:Nat):Int),wo,?_⟩;refine dK.mk ?_ ?_<;>intro h2
   ·have h2:0+1<ds.length:=by
     have:=aI h2;omega
    obtain⟨d1,RL⟩:∃x,ds[0+1]? =some x:=⟨_,aB h2⟩
    have hd1b:=hd d1 (aC RL);have Si:ds.getD (2*0+1) 0=d1:=by show ds.getD (0+1) 0=d1;rw[List.getD,RL];rfl
    obtain⟨_,OY,q3,q4⟩:=hR.load (j:=0+1) (x:=(d1:Int)) (by rw[eI,aM,RL];rfl);injection OY with OY;subst OY;refine⟨((0+1:Nat):Int),wo,ad,rfl,by omega,.int .i64 (d1:Int),fun O w' r=>?_,?_⟩
    ·show w'.cell? (ad.add ((0+1)*1))=_;rw[cH (w:=w1) (w2:=w') (by rw[dN];exact Rel.same (S:=S) r hS (.inl q3))];exact q4
    refine⟨((65536*d1:Nat):Int),wo,((d0+65536*d1:Nat):Int),wo,?_⟩;have SF:=yM ds 0;rw[Sh,Si]at SF;generalize d0+65536*d1=dd at*
    have hdd:dd<4294967296:=Ks hd (0+1) dd (by rw[SF];simp);refine⟨(dd:Int),by rw[yF]<;>omega,?_⟩;refine .inl ?_;refine⟨by omega,by unfold maxLen;omega,((2*(0+1):Nat):Int),wo,?_⟩;intro ρ3 w3 r3;have hU:U (pk ds (0+1))=U (pk ds 0)++[.int .u32 (dd:Int)]:=by rw[SF];simp[U]
    exact⟨(0+1,w3),⟨hw.tr r3.cQ,by dsimp only;omega⟩,Sub.gn [(2,3)] r3 ⟨by dsimp only;rw[hU];rfl,rfl,rfl,trivial⟩,by dsimp only;omega⟩
   ·have h2:0+1=ds.length:=by
     have:=aH h2;omega
    have Si:ds.getD (2*0+1) 0=0:=by show ds.getD (0+1) 0=0;rw[List.getD,List.getElem?_eq_none (by omega)];rfl
    have SF:=yM ds 0;rw[Sh,Si]at SF;obtain⟨dd,hdde⟩:∃dd,dd=d0:=⟨_,rfl⟩
    rw[<-hdde]at SF ⊢;have hdd:dd<4294967296:=by omega
    rw[show dd+65536*0=dd by omega]at SF;refine⟨(dd:Int),by rw[yF]<;>omega,?_⟩;refine .inl ?_;refine⟨by omega,by unfold maxLen;omega,((2*(0+1):Nat):Int),wo,?_⟩;intro ρ3 w3 r3;have hU:U (pk ds (0+1))=U (pk ds 0)++[.int .u32 (dd:Int)]:=by rw[SF];simp[U]
    exact⟨(0+1,w3),⟨hw.tr r3.cQ,by dsimp only;omega⟩,Sub.gn [(2,3)] r3 ⟨by dsimp only;rw[hU];rfl,rfl,rfl,trivial⟩,by dsimp only;omega⟩
  ·have h1:ds=[]:=by
    have:=aH h1;exact List.eq_nil_of_length_eq_zero (by omega)
   subst h1;refine⟨World,fun z=>⟨[(2,pP 0 0),(3,pP 1 0),(6,iZ 0)],[(1,.box T.Int [.v (.bool false),.v (.slice none 0 0)]),(0,.box T.Int [.v (.bool false),.v (.slice none 0 0)])],2,[],z⟩,fun _=>0,fun z=>eE w.heap.size w z,?_,?_⟩
   ·intro O w' r;exact⟨w',hw.tr r.cQ,Sub.gn [] r⟩
   intro w2 hw;dsimp only at hw ⊢;refine⟨⟨by decide,by decide,by decide⟩,none,0,0,by rfl,by rfl,by rfl,?_⟩;exact rtn hw fun ρe we re=>⟨_,rfl,dQ.nil _ _⟩
 |succ k=>
  refine dK.mk ?_ ?_<;>intro h1
  ·have h1:(2*(k+1))<ds.length:=by
    have:=aI h1;omega
   obtain⟨d0,TW⟩:∃x,ds[(2*(k+1))]? =some x:=⟨_,aB h1⟩
   have hd0b:=hd d0 (aC TW);have Sh:ds.getD (2*(k+1)) 0=d0:=by show ds.getD (2*(k+1)) 0=d0;rw[List.getD,TW];rfl
   obtain⟨ad,rfl,q1,q2⟩:=hR.load (j:=(2*(k+1))) (x:=(d0:Int)) (by rw[eI,aM,TW];rfl);refine⟨ad,rfl,by omega,.int .i64 (d0:Int),fun O w' r=>?_,?_⟩
   ·show w'.cell? (ad.add ((2*(k+1))*1))=_;rw[cH (w:=w1) (w2:=w') (by rw[dN];exact Rel.same (S:=S) r hS (.inl q1))];exact q2
   refine⟨(((2*(k+1))+1:Nat):Int),wo,?_⟩;refine dK.mk ?_ ?_<;>intro h2
   ·have h2:(2*(k+1))+1<ds.length:=by
     have:=aI h2;omega
    obtain⟨d1,RL⟩:∃x,ds[(2*(k+1))+1]? =some x:=⟨_,aB h2⟩
    have hd1b:=hd d1 (aC RL);have Si:ds.getD (2*(k+1)+1) 0=d1:=by show ds.getD ((2*(k+1))+1) 0=d1;rw[List.getD,RL];rfl
    obtain⟨_,OY,q3,q4⟩:=hR.load (j:=(2*(k+1))+1) (x:=(d1:Int)) (by rw[eI,aM,RL];rfl);injection OY with OY;subst OY;refine⟨(((2*(k+1))+1:Nat):Int),wo,ad,rfl,by omega,.int .i64 (d1:Int),fun O w' r=>?_,?_⟩
    ·show w'.cell? (ad.add (((2*(k+1))+1)*1))=_;rw[cH (w:=w1) (w2:=w') (by rw[dN];exact Rel.same (S:=S) r hS (.inl q3))];exact q4
    refine⟨((65536*d1:Nat):Int),wo,((d0+65536*d1:Nat):Int),wo,?_⟩;have SF:=yM ds (k+1);rw[Sh,Si]at SF;generalize d0+65536*d1=dd at*
    have hdd:dd<4294967296:=Ks hd ((k+1)+1) dd (by rw[SF];simp);refine⟨(dd:Int),by rw[yF]<;>omega,?_⟩;refine .inl ?_;refine⟨by rw[gO,vH];omega,by omega,by unfold maxLen;omega,((2*((k+1)+1):Nat):Int),wo,?_⟩;intro ρ3 w3 r3;have hU:U (pk ds ((k+1)+1))=U (pk ds (k+1))++[.int .u32 (dd:Int)]:=by rw[SF];simp[U]
    exact⟨((k+1)+1,w3),⟨hw.tr r3.cQ,by dsimp only;omega⟩,Sub.gn [(2,4)] r3 ⟨by dsimp only;rw[hU];rfl,rfl,rfl,trivial⟩,by dsimp only;omega⟩
   ·have h2:(2*(k+1))+1=ds.length:=by
     have:=aH h2;omega
    have Si:ds.getD (2*(k+1)+1) 0=0:=by show ds.getD ((2*(k+1))+1) 0=0;rw[List.getD,List.getElem?_eq_none (by omega)];rfl
    have SF:=yM ds (k+1);rw[Sh,Si]at SF;obtain⟨dd,hdde⟩:∃dd,dd=d0:=⟨_,rfl⟩
    rw[<-hdde]at SF ⊢;have hdd:dd<4294967296:=by omega
    rw[show dd+65536*0=dd by omega]at SF;refine⟨(dd:Int),by rw[yF]<;>omega,?_⟩;refine .inl ?_;refine⟨by rw[gO,vH];omega,by omega,by unfold maxLen;omega,((2*((k+1)+1):Nat):Int),wo,?_⟩;intro ρ3 w3 r3;have hU:U (pk ds ((k+1)+1))=U (pk ds (k+1))++[.int .u32 (dd:Int)]:=by rw[SF];simp[U]
    exact⟨((k+1)+1,w3),⟨hw.tr r3.cQ,by dsimp only;omega⟩,Sub.gn [(2,4)] r3 ⟨by dsimp only;rw[hU];rfl,rfl,rfl,trivial⟩,by dsimp only;omega⟩
  ·have h1:ds.length<=2*(k+1):=by
    have:=aH h1;omega
   have hk:k+1=(ds.length+1) / 2:=by omega
   have SF:pk ds (k+1)=gu ds:=by rw[hk];exact Kr ds
   have hlen:=vH ds (k+1);have PO:=Ks hd (k+1);rw[<-SF];obtain⟨ls,hls⟩:∃ls,ls=pk ds (k+1):=⟨_,rfl⟩
   rw[<-hls]at hlen PO ⊢
   refine⟨by show(U (pk ds (k+1))).length=_;rw[<-hls,gO,hlen];simp,Nat×World,fun z=>⟨[(2,pP 0 0),(3,pP 1 0),(6,iZ z.1)],[(2,.vec T.uint32 1 (U ls)),(1,.box T.Int [.v (.bool false),.w 2 (k+1)]),(0,.box T.Int [.v (.bool false),.v (.slice none 0 0)])],3,[],z.2⟩,fun z=>z.1,
    fun z=>eE w.heap.size w z.2∧z.1<=k+1∧dy (ls.take z.1)=dy ls,?_,?_⟩
   ·intro O w' r;exact⟨(k+1,w'),⟨hw.tr r.cQ,aF _,by dsimp only;rw[List.take_of_length_le (by omega)]⟩,Sub.gn [] r ⟨by dsimp only;rw[hls];rfl,rfl,rfl,trivial⟩⟩
   rintro⟨n,w2⟩ ⟨hw,hn,htr⟩;dsimp only at hw hn htr ⊢
   cases n with
   |zero=>
    refine⟨by rw[gO,hlen];simp,⟨by omega,by omega⟩,0,by rfl,?_⟩;intro ρe we re;refine⟨_,rfl,hw.tr re.cQ,_,rfl,?_⟩;have:=re.Ly (id:=2) (m:=0) rfl (aQ _) PO (by omega);rw[<-htr];exact this.cK fun g hg=>.inr hg
   |succ n=>
    obtain⟨x,hx⟩:∃x,ls[n]? =some x:=⟨_,aB (by omega)⟩
    refine dK.mk (fun hp=>?_) (fun hp=>absurd (aH hp) (by omega));refine⟨(n:Int),wo,by rw[gO,hlen];simp,by omega,.int .u32 (x:Int),by simpa using uQ hx,?_⟩;refine dK.mk ?_ ?_<;>intro h0
    ·have h0:x=0:=by have:=eq_of_beq h0;omega
     subst h0;refine⟨(n:Int),wo,?_⟩;intro ρ3 w3 r3;exact⟨(n,w3),⟨hw.tr r3.cQ,by dsimp only;omega,by dsimp only;rw[<-htr,HT (by omega) hx]⟩,Sub.gn [] r3,by dsimp only;omega⟩
    ·have h0:x≠0:=fun e=>by rw[e]at h0;exact absurd h0 (by decide)
     refine⟨by rw[gO,hlen];simp,⟨by omega,by omega⟩,n+1,by rfl,?_⟩;intro ρe we re;refine⟨_,rfl,hw.tr re.cQ,_,rfl,?_⟩;have:=re.Ly (id:=2) (m:=n+1) rfl (by omega) PO (by omega);rw[<-htr,HU hx h0];exact this.cK fun g hg=>.inr hg
end Go.Ex
namespace Go.Ex
open Go Go.Sx Go.Proofs
variable{H:Hp}{iv:Iv}{cs:List Int}{ds ls:List Nat}{xs:List Value}{B nx:Nat}{S:Nat->Prop}{O:Nat->Sx.dx}{v:Value}{w:World}
theorem u9{w' w2:World}{v':Value}(hc:HS iv v)(r:Rel H nx iv B w O w')(Qt:∀g,v'.ownBlock=some g->g<w2.heap.size∧(v.ownBlock=some g∨g=w'.heap.size)):
  ∀lo hi,(lo,hi)∈sA v'->hi<=w2.heap.size∧∀id b,dF H id=some b->(O id).nil=false->¬(lo<=(O id).g∧(O id).g<hi):=fun lo hi hm=>by
 obtain⟨hg,rfl⟩:=CY.1 hm;obtain⟨h1,h2⟩:=Qt _ hg;refine⟨by omega,fun id c hc' hn he=>?_⟩;rcases h2 with h2|h2
 ·exact hc.not r h2 id c hc' hn (by omega)
 ·have:=(r.low id c hc' hn).2;omega
theorem dQ.out{w1 w':World}(h:dQ w1 (Cv S w.heap.size iv) v ls)(r:Rel H nx iv w.heap.size w1 O w')(hS:Old S w):dQ w' (Nw S w w') v ls:=
 (dQ.rel h r hS).cK fun _ hg=>Cv.nw hg r
theorem IQ{B' e sz m:Nat}(h:w.ownsRow B e sz v m xs)(hb:B'<=B):w.ownsRow B' e sz v m xs:=⟨h.1,h.2.imp id fun⟨g,cap,cur,k1,k2,k3⟩=>⟨g,cap,cur,k1,by omega,k3⟩⟩
theorem ua(a b:List Nat):eI (a++b)=eI a++eI b:=by simp[eI]
theorem rB{m:Nat}(h:w.ownsRow B T.int 1 v m (cs.map (Value.int .i64)))(hm:m=cs.length)(hl:m<=maxLen):eD w (fun g=>v.ownBlock=some g) v cs:=by
 subst hm;rcases h.2 with⟨rfl,h0⟩|⟨g,cap,cur,rfl,hb,hc,hmc,Q3,Oy,Rn⟩
 ·have:cs=[]:=List.eq_nil_of_length_eq_zero h0;subst this;exact⟨by simp[maxLen],by simp,by simp,none,0,rfl,aF _,by simp⟩
 ·refine⟨hl,h.1,fun u hu=>by simp at hu;obtain⟨_,_,rfl⟩:=hu;rfl,_,cap,rfl,hmc,fun j u hu=>⟨_,rfl,rfl,?_⟩⟩;exact h.cells (g:=g) rfl j u hu
theorem Dg.append{a b:List Nat}(ha:Dg a)(hb:Dg b):Dg (a++b):=fun x hx=>(bS.1 hx).elim (ha x) (hb x)
theorem xS(a b:List Nat):mF (a++b)=mF a+up a.length*mF b:=by
 unfold mF;rw[List.map_append,BG,aK]
theorem Aq(hd:Dg ds):Nz (dy (gu ds))∧(val (dy (gu ds)):Int)=mF ds:=by
 obtain⟨h1,h2,_⟩:=zg ds hd;obtain⟨k1,k2,_⟩:=eu (gu ds);exact⟨k2,by rw[k1,h1]⟩
theorem wM(hS:Old S w)(h:eD w S v cs)(hb:∀c∈cs,-1152921504606846976<=c∧c<=1152921504606846976)(hl:cs.length<=100000000):
  eA PG N.kH #[v] w (eF w fun v' w2=>dL w2 (Nf w w2) v' (dS cs)):=by
 obtain⟨a,c,rfl,hc⟩:=h.shape;obtain⟨Vx,hdg,Sc⟩:=kp cs 0;obtain⟨VM,Uy⟩:=kG cs 0 hb (by decide) (by decide);rw[Int.add_zero]at Vx;refine ve (by simp) ?_;refine cF (cO (Φ:=fun _ w' v' w2=>∃o,v'= .tuple #[o,.int .i64 (de cs 0).2]∧w2.ownsRow w'.heap.size T.int 1 o cs.length ((eI (de cs 0).1).map (Value.int .i64))) (fun O w' r=>Cb (oS hS r) (eD.cJ h fun g hg=>Rel.same (S:=S) r hS (.inl hg)) hb (by omega)) ?_);rintro O wa v1 wb r he hw ⟨o,rfl,OE⟩;have Py:HS [(wa.heap.size,wb.heap.size)] o:=fun g hg=>⟨_,_,bB.2 rfl,(ownsRow.low OE g hg).1,(ownsRow.low OE g hg).2⟩
 replace OE:=IQ OE r.cD;generalize [(wa.heap.size,wb.heap.size)]=iv at*
 generalize hds:(de cs 0).1=ds at*
 generalize hk:(de cs 0).2=k at*
 obtain⟨ao,co,rfl,hco⟩:=je OE;refine dK.mk ?_ ?_<;>intro Qp
 ·have Qp:=aI Qp;have hV:dS cs<0:=by
   have h1:=(zf hdg).2;rw[Sc]at h1;have h2:=Kq cs.length;have h3:up cs.length*k<=up cs.length*(-1):=Int.mul_le_mul_of_nonneg_left (by omega) (by omega);omega
  obtain⟨Uc,Vy,hdl2⟩:=kp (cs.map (- ·)) 0;have QE:∀c∈cs.map (- ·),-1152921504606846976<=c∧c<=1152921504606846976:=fun c hc=>by
   obtain⟨x,hx,rfl⟩:=aU.1 hc;have:=hb x hx;omega
  obtain⟨hk1',hk2'⟩:=kG (cs.map (- ·)) 0 QE (by decide) (by decide);rw[Int.add_zero,Gn,aK]at Uc;rw[aK]at hdl2;have RA:0<=(de (cs.map (- ·)) 0).2:=by
   have h1:=(zf Vy).2;rw[hdl2]at h1;have h2:=Kq cs.length;apply Decidable.byContradiction;intro h3;have h4:up cs.length*(de (cs.map (- ·)) 0).2<=up cs.length*(-1):=Int.mul_le_mul_of_nonneg_left (by omega) (by omega);omega
  refine⟨Nat×World,fun z=>⟨[(0,sV a cs.length c),(2,pP 0 0),(3,sV ao cs.length co),(5,iZ z.1)],[(0,.box T.Int [.v (.bool false),.v (.slice none 0 0)])],1,iv,z.2⟩,fun z=>cs.length-z.1,
   fun z=>z.1<=cs.length∧eE w.heap.size w z.2∧z.2.ownsRow w.heap.size T.int 1 (.slice ao cs.length co) cs.length (((cs.take z.1).map (- ·)++(eI ds).drop z.1).map (Value.int .i64)),?_,?_⟩
  ·intro O w' r;exact⟨(0,w'),⟨by simp,hw.tr r.cQ,by simpa using jT OE Py r⟩,Sub.gn [] r⟩
  rintro⟨i,w1⟩ ⟨hi,hw,OE⟩;dsimp only at hi hw OE ⊢;have hR:eD w1 S (.slice a cs.length c) cs:=eD.cJ h fun g hg=>hw.block g (hS g hg);refine dK.mk ?_ ?_<;>intro OC
  ·have OC:i<cs.length:=by simpa using OC
   obtain⟨x,hx⟩:∃x,cs[i]? =some x:=⟨_,aB OC⟩
   obtain⟨SH,RM⟩:=hb x (aC hx);obtain⟨ad,rfl,q1,q2⟩:=hR.load hx;obtain⟨go,hgo⟩:∃g,ao=some ⟨g,0,none⟩:=by
    rcases OE.2 with⟨_,h0⟩|⟨g,cap,cur,e,_⟩
    ·omega
    ·injection e with e;exact⟨g,e⟩
   subst hgo;refine⟨ad,rfl,by omega,.int .i64 x,fun O w' r=>?_,?_⟩
   ·rw[aE,cH (w:=w1) (w2:=w') (by rw[dN];exact Rel.same (S:=S) r hS (.inl q1))];exact q2
   refine⟨-x,wo,⟨go,0,none⟩,rfl,by omega,?_⟩;intro O w' r;have UN:=jT OE Py r;obtain⟨g',UO,OF,QX,PV,Oy⟩:=pT (nv:=[.int .i64 (-x)]) UN rfl OC rfl (by decide);injection UO with UO;injection UO with UO;subst UO;rw[Mz (by rw[aK,List.length_append,aK,aW,List.length_drop,eo,Sc];omega)]at QX;have OY:(⟨go,0,none⟩:Addr).add ((i:Int).toNat*1)=⟨go,i*1,none⟩:=by rw[aE,dV,aR]
   have Q4:=fun id b hb hn=>Py.not r (b:=go) rfl id b hb hn;have hgoB:=(ownsRow.low OE go rfl).1;have hw':eE w.heap.size w (setCells w' ⟨go,i*1,none⟩ [.int .i64 (-x)]):=(hw.tr r.cQ).tr (eE.grown PV (fun g hg=>by injection hg with hg;subst hg;exact hgoB) r.cD);have hlist:(((cs.take i).map (- ·)++(eI ds).drop i).map (Value.int .i64)).set i (.int .i64 (-x))=((cs.take (i+1)).map (- ·)++(eI ds).drop (i+1)).map (Value.int .i64):=by
    rw[<-List.map_set];congr 1;have Pz:((cs.take i).map (- ·)).length=i:=by rw[aK,aW];omega
    obtain⟨d,hd⟩:∃d,(eI ds)[i]? =some d:=⟨_,aB (by rw[eo,Sc];exact OC)⟩
    have Oc:(eI ds).drop i=d::(eI ds).drop (i+1):=by
     rw[List.drop_eq_getElem_cons (by rw[eo,Sc];exact OC)];congr 1;have:=aB (l:=eI ds) (i:=i) (by rw[eo,Sc];exact OC);rw[hd]at this;injection this with this;exact this.symm
    rw[List.take_add_one,hx,List.map_append,Oc,List.set_append_right _ _ (by omega),Pz,bI];simp
   refine⟨by rw[OY],fun j hj=>by rw[OY];exact OF j hj,fun id b hb hn=>by rw[OY];exact Q4 id b hb hn,fun w2 Oz=>?_⟩;have Oz:w2=setCells w' ⟨go,i*1,none⟩ [.int .i64 (-x)]:=by rw[Oz];exact congrArg (fun x=>setCells w' x _) OY
   rw[<-Oz]at QX hw'
   erw [hlist]at QX
   refine⟨((i+1:Nat):Int),wo,?_⟩;intro ρ3 w3 r3;exact⟨(i+1,w3),⟨OC,hw'.tr r3.cQ,jT QX Py r3⟩,Sub.gn [] r3,by dsimp only;omega⟩
  have OC:i=cs.length:=by
   have:¬i<cs.length:=by simpa using OC
   omega
  subst OC;rw[bD,List.drop_of_length_le (by rw[eo,Sc];exact aF _),List.append_nil]at OE;refine⟨⟨by omega,by omega,by omega⟩,ao,cs.length,co,FN ao co,by omega,by omega,?_⟩;refine cF (cO (Φ:=fun _ w' v' w2=>∃o,v'= .tuple #[o,.int .i64 (de (cs.map (- ·)) 0).2]∧w2.ownsRow w'.heap.size T.int 1 o cs.length ((eI (de (cs.map (- ·)) 0).1).map (Value.int .i64))) (fun O w' r=>?_) ?_)
  ·have h8:=jT OE Py r;have h9:=rB h8 (by rw[aK]) (by unfold maxLen;omega);have h10:=Cb (fun g hg=>(ownsRow.low h8 g hg).2) h9 QE (by rw[aK];omega);rw[aK]at h10;exact h10
  rintro O wc v1 wd r he OQ ⟨o2,rfl,Pw⟩;have Q8:HS ((wc.heap.size,wd.heap.size)::iv) o2:=fun g hg=>⟨_,_,aG,(ownsRow.low Pw g hg).1,(ownsRow.low Pw g hg).2⟩
  replace Pw:=IQ Pw r.cD;replace hw:=hw.tr OQ;generalize (wc.heap.size,wd.heap.size)::iv=OG at*
  generalize hds2:(de (cs.map (- ·)) 0).1=ds2 at*
  generalize hkk2:(de (cs.map (- ·)) 0).2=k2 at*
  obtain⟨kn,rfl⟩:∃kn:Nat,k2=kn:=⟨k2.toNat,by omega⟩
  obtain⟨ao2,co2,rfl,hco2⟩:=je Pw;have ds2_len:ds2.length=cs.length:=hdl2;have ds2_dg:Dg ds2:=Vy;refine cF (cO (Φ:=fun _ w' v w2=>eD w2 (Nf w' w2) v (eI (dG kn))) (fun O w' r=>by exact Fy kn w' (by omega)) ?_);rintro O ws vs wt r he hb hsp;have Sy:eD wt (Cf w ((ws.heap.size,wt.heap.size)::OG)) vs (eI (dG kn)):=eD.cK hsp fun g hg=>hg.dB r.cD aG;replace Pw:=ownsRow.cJ (jT Pw Q8 r) fun g hg=>he.block g (by have:=(ownsRow.low (jT Pw Q8 r) g hg).2;exact this);replace Q8:HS ((ws.heap.size,wt.heap.size)::OG) _:=Q8.mono fun p hp=>List.mem_cons_of_mem _ hp;replace hw:=hw.tr hb;generalize (ws.heap.size,wt.heap.size)::OG=rM at*
  obtain⟨asp,csp,rfl,-⟩:=Sy.shape;rw[eo]at Sy ⊢;have R1:=j2 (n:=kn) (k:=4) (by omega);have hsd:=(ku kn).2
  refine .inr (yd hτ (aF _) (xs:=(eI ds2).map (Value.int .i64)) (news:=(eI (dG kn)).map (Value.int .i64)) (m:=cs.length) (k:=(dG kn).length) (by rfl) (by rfl) (by decide) (by rfl) (by rfl) (fun O w' r=>⟨jT Pw Q8 r,fun g hg=>Q8.not r hg⟩) (by simp[eI]) (by intro u hu;simp at hu;obtain⟨_,_,rfl⟩:=hu;rfl) (by unfold maxLen;omega) (by omega)
   (fun O w' r=>?_) (fun v' w2=>sA v') (fun O w' v' w2 r Oy Qt=>u9 Q8 r Qt) (fun O w' v' w2 r h5 h6 h7=>?_))
  ·obtain⟨_,_,_,a2,c2,e2,_,e3⟩:=Sy;injection e2 with e4 e5 e6;subst e4 e6
   cases asp with
   |none=>
    have h0:(dG kn).length=0:=by
     rcases bH (dG kn).length with h0|h0
     ·exact h0
     ·obtain⟨ad2,q1,_⟩:=e3 0 _ (aB (show 0<((eI (dG kn)).map (Value.int .i64)).length by simp[eI];exact h0))
      cases q1
    exact .inl ⟨csp,by rw[h0];rfl,h0⟩
   |some ad3=>
    refine .inr ⟨ad3,csp,rfl,fun j u hu=>?_⟩;obtain⟨ad2,q1,q2,q3⟩:=e3 j u hu;injection q1 with q1;subst q1;rw[cH (w:=wt) (w2:=w') (by rw[dN];exact Rel.same r (cC w) q2)];exact q3
  replace hw:eE w.heap.size w w2:=(hw.tr r.cQ).tr (eE.grown h6 (fun g hg=>by
   have:=(ownsRow.low Pw g hg).1;omega) r.cD)
  have hcat:(eI ds2).map (Value.int .i64)++(eI (dG kn)).map (Value.int .i64)=(eI (ds2++dG kn)).map (Value.int .i64):=by rw[ua,List.map_append]
  rw[hcat]at h5;have RI:cs.length+(dG kn).length=(eI (ds2++dG kn)).length:=by rw[eo,List.length_append,ds2_len]
  have Ud:Dg (ds2++dG kn):=ds2_dg.append hsd;have PQ:(ds2++dG kn).length<=1000000000:=by rw[List.length_append,ds2_len];omega
  obtain⟨a3,c3,rfl,-⟩:=je h5;refine cF (cO (Φ:=fun _ w' v' w2=>∃lv,v'= .agg #[.bool false,lv]∧dQ w2 (Nf w' w2) lv (dy (gu (ds2++dG kn)))) (fun O w' r=>?_) ?_)
  ·have h8:=jT h5 (HS.row _) r;have h9:=rB h8 RI (by unfold maxLen;omega);have h10:=Fz (w:=w') (fun g hg=>(ownsRow.low h8 g hg).2) h9 Ud PQ;exact h10
  rintro O wp v1 wq r he hb ⟨lv,rfl,hL⟩;have Vz:=hL.dB (S:=FF) r.cD (iv:=[(wp.heap.size,wq.heap.size)]) aG;have Vz:dQ wq (Cf w ((wp.heap.size,wq.heap.size)::sA (.slice a3 (cs.length+(dG kn).length) c3))) lv (dy (gu (ds2++dG kn))):=hL.cK fun g hg=>hg.dB r.cD aG;replace hw:=hw.tr hb;generalize (wp.heap.size,wq.heap.size)::sA (.slice a3 (cs.length+(dG kn).length) c3)=ivq at*
  obtain⟨hnz,hvv⟩:=Aq Ud;obtain⟨a4,n4,c4,rfl⟩:=Vz.shape;have hcv: -dS cs=mF (ds2++dG kn):=by rw[Uc,xS,(ku kn).1,ds2_len]
  obtain⟨pp,hpe,hpp⟩:=Vz.la;injection hpe with hpe1 hpe2 hpe3;subst hpe1 hpe2 hpe3;have hlenpos:0<pp.ls.length:=by
   rw[hpp];rcases bH (dy (gu (ds2++dG kn))).length with h0|h0
   ·rw[List.eq_nil_of_length_eq_zero h0]at hvv;simp[val]at hvv;omega
   ·exact h0
  intro ρe we re;refine⟨_,rfl,hw.tr re.cQ,dy (gu (ds2++dG kn)),⟨_,?_,Vz.out re (cC w)⟩,hnz,?_⟩
  ·rw[bX hV];have:decide ((pp.ls.length:Int)>0)=true:=bX (by omega);rw[<-this];rfl
  ·have:((val (dy (gu (ds2++dG kn))):Nat):Int)= -dS cs:=by rw[hvv,hcv]
   omega
 ·have Qp:=aH Qp;obtain⟨kn,rfl⟩:∃kn:Nat,k=kn:=⟨k.toNat,by omega⟩
  have ds_len:ds.length=cs.length:=Sc;have ds_dg:Dg ds:=hdg;refine cF (cO (Φ:=fun _ w' v w2=>eD w2 (Nf w' w2) v (eI (dG kn))) (fun O w' r=>by exact Fy kn w' (by omega)) ?_);rintro O ws vs wt r he hb hsp;have Sy:eD wt (Cf w ((ws.heap.size,wt.heap.size)::iv)) vs (eI (dG kn)):=eD.cK hsp fun g hg=>hg.dB r.cD aG;replace OE:=ownsRow.cJ (jT OE Py r) fun g hg=>he.block g (by have:=(ownsRow.low (jT OE Py r) g hg).2;exact this);replace Py:HS ((ws.heap.size,wt.heap.size)::iv) _:=Py.mono fun p hp=>List.mem_cons_of_mem _ hp;replace hw:=hw.tr hb;generalize (ws.heap.size,wt.heap.size)::iv=rM at*
  obtain⟨asp,csp,rfl,-⟩:=Sy.shape;rw[eo]at Sy ⊢;have R1:=j2 (n:=kn) (k:=4) (by omega);have hsd:=(ku kn).2
  refine .inr (yd hτ (aF _) (xs:=(eI ds).map (Value.int .i64)) (news:=(eI (dG kn)).map (Value.int .i64)) (m:=cs.length) (k:=(dG kn).length) (by rfl) (by rfl) (by decide) (by rfl) (by rfl) (fun O w' r=>⟨jT OE Py r,fun g hg=>Py.not r hg⟩) (by simp[eI]) (by intro u hu;simp at hu;obtain⟨_,_,rfl⟩:=hu;rfl) (by unfold maxLen;omega) (by omega)
   (fun O w' r=>?_) (fun v' w2=>sA v') (fun O w' v' w2 r Oy Qt=>u9 Py r Qt) (fun O w' v' w2 r h5 h6 h7=>?_))
  ·obtain⟨_,_,_,a2,c2,e2,_,e3⟩:=Sy;injection e2 with e4 e5 e6;subst e4 e6
   cases asp with
   |none=>
    have h0:(dG kn).length=0:=by
     rcases bH (dG kn).length with h0|h0
     ·exact h0
     ·obtain⟨ad2,q1,_⟩:=e3 0 _ (aB (show 0<((eI (dG kn)).map (Value.int .i64)).length by simp[eI];exact h0))
      cases q1
    exact .inl ⟨csp,by rw[h0];rfl,h0⟩
   |some ad3=>
    refine .inr ⟨ad3,csp,rfl,fun j u hu=>?_⟩;obtain⟨ad2,q1,q2,q3⟩:=e3 j u hu;injection q1 with q1;subst q1;rw[cH (w:=wt) (w2:=w') (by rw[dN];exact Rel.same r (cC w) q2)];exact q3
  replace hw:eE w.heap.size w w2:=(hw.tr r.cQ).tr (eE.grown h6 (fun g hg=>by
   have:=(ownsRow.low OE g hg).1;omega) r.cD)
  have hcat:(eI ds).map (Value.int .i64)++(eI (dG kn)).map (Value.int .i64)=(eI (ds++dG kn)).map (Value.int .i64):=by rw[ua,List.map_append]
  rw[hcat]at h5;have RI:cs.length+(dG kn).length=(eI (ds++dG kn)).length:=by rw[eo,List.length_append,ds_len]
  have Ud:Dg (ds++dG kn):=ds_dg.append hsd;have PQ:(ds++dG kn).length<=1000000000:=by rw[List.length_append,ds_len];omega
  obtain⟨a3,c3,rfl,-⟩:=je h5;refine cF (cO (Φ:=fun _ w' v' w2=>∃lv,v'= .agg #[.bool false,lv]∧dQ w2 (Nf w' w2) lv (dy (gu (ds++dG kn)))) (fun O w' r=>?_) ?_)
  ·have h8:=jT h5 (HS.row _) r;have h9:=rB h8 RI (by unfold maxLen;omega);have h10:=Fz (w:=w') (fun g hg=>(ownsRow.low h8 g hg).2) h9 Ud PQ;exact h10
  rintro O wp v1 wq r he hb ⟨lv,rfl,hL⟩;have Vz:=hL.dB (S:=FF) r.cD (iv:=[(wp.heap.size,wq.heap.size)]) aG;have Vz:dQ wq (Cf w ((wp.heap.size,wq.heap.size)::sA (.slice a3 (cs.length+(dG kn).length) c3))) lv (dy (gu (ds++dG kn))):=hL.cK fun g hg=>hg.dB r.cD aG;replace hw:=hw.tr hb;generalize (wp.heap.size,wq.heap.size)::sA (.slice a3 (cs.length+(dG kn).length) c3)=ivq at*
  obtain⟨hnz,hvv⟩:=Aq Ud;obtain⟨a4,n4,c4,rfl⟩:=Vz.shape;intro ρe we re;have hcv:dS cs=mF (ds++dG kn):=by rw[Vx,xS,(ku kn).1,ds_len]
  refine⟨_,rfl,hw.tr re.cQ,dy (gu (ds++dG kn)),⟨_,?_,Vz.out re (cC w)⟩,hnz,?_⟩
  ·have:¬dS cs<0:=by rw[hcv,<-hvv];omega
   rw[bL this];rfl
  ·rw[hcv,<-hvv];rfl
end Go.Ex
