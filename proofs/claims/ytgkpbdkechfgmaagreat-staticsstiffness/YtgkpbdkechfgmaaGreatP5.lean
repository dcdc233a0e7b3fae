/- Texts X22 to X44: lemmas, each with its conditions. -/
import Derived.Test.YtgkpbdkechfgmaaGreatP4
namespace Go.Ex
open Go Go.Sx Go.Proofs
variable{b b2:Bool}{x y:Int}{xs:List Value}{n sz:Nat}{S S':Nat->Prop}{g q:Rat}{dv nv u v:Value}{w w2:World}
def jM(w:World)(S:Nat->Prop)(v:Value)(a b:Int):Prop:=∃b1 l1 b2 l2,v= .agg #[.bool b1,l1,.bool b2,l2]∧kQ w S (.agg #[.bool b1,l1]) a∧kQ w S (.agg #[.bool b2,l2]) b
theorem jM.cJ{a b:Int}(h:jM w S v a b)(hk:∀g,S g->w2.heap[g]? =w.heap[g]?):jM w2 S v a b:=by
 obtain⟨b1,l1,b2,l2,h1,h2,h3⟩:=h;exact⟨b1,l1,b2,l2,h1,h2.cJ hk,h3.cJ hk⟩
theorem jM.cL{a b:Int}(h:jM w S v a b)(hk:∀g,S g->S' g):jM w S' v a b:=by
 obtain⟨b1,l1,b2,l2,h1,h2,h3⟩:=h;exact⟨b1,l1,b2,l2,h1,h2.cL hk,h3.cL hk⟩
theorem jM.shape(h:jM w S v x y):∃b a n c b2 a2 n2 c2,v= .agg #[.bool b,.slice a n c,.bool b2,.slice a2 n2 c2]:=by
 obtain⟨b1,l1,b2,l2,h1,h2,h3⟩:=h;obtain⟨_,a,n,c,h4⟩:=h2.shape;obtain⟨_,a2,n2,c2,h5⟩:=h3.shape;simp at h4 h5;obtain⟨rfl,rfl⟩:=h4;obtain⟨rfl,rfl⟩:=h5;exact⟨_,a,n,c,_,a2,n2,c2,h1⟩
theorem jM.num(h:jM w S (.agg #[.bool b,nv,.bool b2,dv]) x y):kQ w S (.agg #[.bool b,nv]) x:=by
 obtain⟨b1,l1,b2,l2,h1,h2,h3⟩:=h;simp at h1;obtain⟨rfl,rfl,rfl,rfl⟩:=h1;exact h2
theorem jM.den(h:jM w S (.agg #[.bool b,nv,.bool b2,dv]) x y):kQ w S (.agg #[.bool b2,dv]) y:=by
 obtain⟨b1,l1,b2,l2,h1,h2,h3⟩:=h;simp at h1;obtain⟨rfl,rfl,rfl,rfl⟩:=h1;exact h3
section
variable{S S':Nat->Prop}{H:Hp}{nx:Nat}{iv iv':Iv}{B:Nat}{w w' w2:World}{O:Nat->Sx.eE}{v:Value}{x y:Int}
theorem jM.rel(h:jM w (Cv S B iv) v x y)(r:Rel H nx iv B w O w')(hS:∀g,S g->g<B):jM w' (Cv S B iv) v x y:=h.cJ fun _ hg=>Rel.same r hS hg
theorem jM.cK(h:jM w (Cv S B iv) v x y)(r:Rel H nx iv B w O w')(hS:∀g,S g->g<B)(he:Ext w' w2)(hm:∀p,p∈iv->p∈iv'):jM w2 (Cv S B iv') v x y:=
 ((h.rel r hS).cJ fun g hg=>he.block g (Rel.old r hS g hg)).cL fun _ hg=>hg.mono hm
end
def cT(w:World)(S:Nat->Prop)(v:Value)(q:Rat):Prop:=∃b1 l1 b2 l2,v= .agg #[.bool b1,l1,.bool b2,l2]∧dU w S (.agg #[.bool b1,l1]) q.num∧dU w S (.agg #[.bool b2,l2]) q.den
theorem cT.cJ(h:cT w S v q)(hk:∀g,S g->w2.heap[g]? =w.heap[g]?):cT w2 S v q:=by
 obtain⟨b1,l1,b2,l2,h1,h2,h3⟩:=h;exact⟨b1,l1,b2,l2,h1,h2.cJ hk,h3.cJ hk⟩
theorem cT.cL(h:cT w S v q)(hk:∀g,S g->S' g):cT w S' v q:=by
 obtain⟨b1,l1,b2,l2,h1,h2,h3⟩:=h;exact⟨b1,l1,b2,l2,h1,h2.cL hk,h3.cL hk⟩
theorem cT.r(h:cT w S v q):jM w S v q.num q.den:=by
 obtain⟨b1,l1,b2,l2,h1,h2,h3⟩:=h;exact⟨b1,l1,b2,l2,h1,h2.r,h3.r⟩
theorem cT.shape(h:cT w S v q):∃b a n c b2 a2 n2 c2,v= .agg #[.bool b,.slice a n c,.bool b2,.slice a2 n2 c2]:=h.r.shape
theorem cT.num(h:cT w S (.agg #[.bool b,nv,.bool b2,dv]) q):dU w S (.agg #[.bool b,nv]) q.num:=by
 obtain⟨b1,l1,b2,l2,h1,h2,h3⟩:=h;simp at h1;obtain⟨rfl,rfl,rfl,rfl⟩:=h1;exact h2
theorem cT.den(h:cT w S (.agg #[.bool b,nv,.bool b2,dv]) q):dU w S (.agg #[.bool b2,dv]) q.den:=by
 obtain⟨b1,l1,b2,l2,h1,h2,h3⟩:=h;simp at h1;obtain⟨rfl,rfl,rfl,rfl⟩:=h1;exact h3
theorem cT.of(h:dU w S (.agg #[.bool b,nv]) q.num)(k:dU w S (.agg #[.bool b2,dv]) q.den):cT w S (.agg #[.bool b,nv,.bool b2,dv]) q:=⟨_,_,_,_,rfl,h,k⟩
section
variable{S S':Nat->Prop}{H:Hp}{nx:Nat}{iv iv':Iv}{B:Nat}{w w' w2:World}{O:Nat->Sx.eE}{v:Value}{q:Rat}
theorem cT.rel(h:cT w (Cv S B iv) v q)(r:Rel H nx iv B w O w')(hS:∀g,S g->g<B):cT w' (Cv S B iv) v q:=h.cJ fun _ hg=>Rel.same r hS hg
theorem cT.cK(h:cT w (Cv S B iv) v q)(r:Rel H nx iv B w O w')(hS:∀g,S g->g<B)(he:Ext w' w2)(hm:∀p,p∈iv->p∈iv'):cT w2 (Cv S B iv') v q:=
 ((h.rel r hS).cJ fun g hg=>he.block g (Rel.old r hS g hg)).cL fun _ hg=>hg.mono hm
theorem cT.dK(h:cT w2 (Nf w' w2) v q)(hB:B<=w'.heap.size)(hm:(w'.heap.size,w2.heap.size)∈iv):cT w2 (Cv S B iv) v q:=h.cL fun _ hg=>hg.dK hB hm
theorem cT.out{w0 w1:World}(h:cT w1 (Cv S w0.heap.size iv) v q)(r:Rel H nx iv w0.heap.size w1 O w')(hS:Old S w0):cT w' (Nw S w0 w') v q:=
 (h.rel r hS).cL fun _ hg=>Cv.nw hg r
end
theorem tN{f:Rat}(hS:Old S w)(hf:c9 w S v f):
  eA PG N.lz #[v] w (eL w fun v' _w2=>v'= .int .i64 (rs f)):=by
 have hw:=bR w;replace hf:=hf.cL (S':=Cv S w.heap.size []) fun _ h=>.inl h;obtain⟨b1,a1,n1,c1,b2,a2,n2,c2,rfl⟩:=hf.shape;have VV:=hf.num;have Qs:=hf.den;refine qF (by simp) ?_;refine cH (cE hw (fun _ w' v w2=>v= .int .i64 (rs f)) (fun O w' r=>DL (VV.rel r hS)) ?_);rintro O _ _ _ Od r he hw h_ rfl;exact rtn hw fun ρe we re=>rfl
theorem sT{f:Rat}(hS:Old S w)(hf:c9 w S v f):
  eA PG N.l9 #[v] w (eL w fun v' w2=>c9 w2 (Nw S w w2) v' (-f)):=by
 have hw:=bR w;replace hf:=hf.cL (S':=Cv S w.heap.size []) fun _ h=>.inl h;obtain⟨b1,a1,n1,c1,b2,a2,n2,c2,rfl⟩:=hf.shape;have VV:=hf.num;have Qs:=hf.den;refine pA (by simp) ?_;refine cO hτ dZ [.x 0,.x 1,.x 3,.x 4,.x 2,.x 5,.x 6] (by kernel_rfl) (by kernel_rfl) ?_;refine cP (Φ:=fun _ w' v w2=>ed w2 (Nw (Cv S w.heap.size []) w' w2) v (-f.num)) (fun O w' r=>qS (Rel.old r hS) (VV.rel r hS)) ?_;rintro O Pa v1 PJ r he hb hn;replace hw:=hw.tr hb;replace Qs:=Qs.cK (iv':=(Pa.heap.size,PJ.heap.size)::[]) r hS he fun x hx=>aC _ hx;have hM:=hn.old r.cI;generalize (Pa.heap.size,PJ.heap.size)::[]=Od at*
 obtain⟨A0,A1,A2,A3,rfl⟩:=hM.shape;exact rtn hw fun ρe we re=>c9.of (by rw[Rat.neg_num];exact hM.out re hS) (by rw[Rat.neg_den];exact Qs.out re hS)
theorem sU{f:Rat}(hS:Old S w)(hf:c9 w S v f)(hg:c9 w S u g)(Wn:rl f<=10000000000)(hlg:rl g<=10000000000):
  eA PG N.l7 #[v,u] w (eL w fun v' w2=>c9 w2 (Nf w w2) v' (f*g)):=by
 have hw:=bR w;have l1:=gD f;have l2:=fO f;have l3:=gD g;have l4:=fO g;have m0:=dI f.num g.num;have m1:=dI f.den g.den;replace hf:=hf.cL (S':=Cv S w.heap.size []) fun _ h=>.inl h;replace hg:=hg.cL (S':=Cv S w.heap.size []) fun _ h=>.inl h;obtain⟨b1,a1,n1,c1,b2,a2,n2,c2,rfl⟩:=hf.shape;obtain⟨b3,a3,n3,c3,b4,a4,n4,c4,rfl⟩:=hg.shape;have VV:=hf.num;have Qs:=hf.den;have TW:=hg.num;have QY:=hg.den;refine oy (by simp) ?_;refine cO hτ dZ [.x 0,.x 1,.x 2,.x 3,.x 5,.x 6,.x 7,.x 8,.x 4,.x 9,.x 10,.x 11] (by kernel_rfl) (by kernel_rfl) ?_;refine cE hw (fun _ w' v w2=>ed w2 (Nf w' w2) v (f.num*g.num)) (fun O w' r=>jF (Rel.old r hS) (VV.rel r hS) (TW.rel r hS) (by omega) (by omega)) ?_;rintro O _ _ _ Od r he hw h_ hn;replace Qs:=Qs.cK r hS he (mC h_);replace QY:=QY.cK r hS he (mC h_);have hA:=hn.dK (S:=FF) r.cI (mN h_);obtain⟨A0,A1,A2,A3,rfl⟩:=hA.shape;refine cE hw (fun _ w' v w2=>ed w2 (Nf w' w2) v ((f.den:Int)*(g.den:Int))) (fun O w' r=>jF (Rel.old r hS) (Qs.rel r hS) (QY.rel r hS) (by omega) (by omega)) ?_;rintro O _ _ _ Oa r he hw h_ hn;replace hA:=hA.cK r (cG w) he (mC h_);have hB:=hn.dK (S:=FF) r.cI (mN h_);obtain⟨C0,C1,C2,C3,rfl⟩:=hB.shape;refine cE hw (fun _ w' v w2=>c9 w2 (Nf w' w2) v (f*g)) (fun O w' r=>(Aq f g)▸zA (Rel.old r (cG w)) (hA.rel r (cG w)) (hB.rel r (cG w)) (lF (ga f) (ga g)) (by omega) (by omega)) ?_;rintro O _ _ _ Oj r he hw h_ hn;have hC:=hn.dK (S:=FF) r.cI (mN h_);obtain⟨F0,F1,F2,F3,F4,F5,F6,F7,rfl⟩:=hC.shape;exact rtn hw fun ρe we re=>hC.out re (cG w)
theorem LY{f:Rat}(hS:Old S w)(hf:c9 w S v f)(hg:c9 w S u g)(Wn:rl f<=10000000000)(hlg:rl g<=10000000000)(UK:g≠0):
  eA PG N.oA #[v,u] w (eL w fun v' w2=>c9 w2 (Nf w w2) v' (f / g)):=by
 have hw:=bR w;have l1:=gD f;have l2:=fO f;have l3:=gD g;have l4:=fO g;have m0:=dI f.num g.den;have m1:=dI f.den g.num;replace hf:=hf.cL (S':=Cv S w.heap.size []) fun _ h=>.inl h;replace hg:=hg.cL (S':=Cv S w.heap.size []) fun _ h=>.inl h;obtain⟨b1,a1,n1,c1,b2,a2,n2,c2,rfl⟩:=hf.shape;obtain⟨b3,a3,n3,c3,b4,a4,n4,c4,rfl⟩:=hg.shape;have VV:=hf.num;have Qs:=hf.den;have TW:=hg.num;have QY:=hg.den;refine sQ (by simp) ?_;refine cO hτ dZ [.x 0,.x 1,.x 2,.x 3,.x 5,.x 6,.x 7,.x 8,.x 4,.x 9,.x 10,.x 11] (by kernel_rfl) (by kernel_rfl) ?_;refine cE hw (fun _ w' v w2=>ed w2 (Nf w' w2) v (f.num*(g.den:Int))) (fun O w' r=>jF (Rel.old r hS) (VV.rel r hS) (QY.rel r hS) (by omega) (by omega)) ?_;rintro O _ _ _ Od r he hw h_ hn;replace Qs:=Qs.cK r hS he (mC h_);replace TW:=TW.cK r hS he (mC h_);have hA:=hn.dK (S:=FF) r.cI (mN h_);obtain⟨A0,A1,A2,A3,rfl⟩:=hA.shape;refine cE hw (fun _ w' v w2=>ed w2 (Nf w' w2) v ((f.den:Int)*g.num)) (fun O w' r=>jF (Rel.old r hS) (Qs.rel r hS) (TW.rel r hS) (by omega) (by omega)) ?_;rintro O _ _ _ Oa r he hw h_ hn;replace hA:=hA.cK r (cG w) he (mC h_);have hB:=hn.dK (S:=FF) r.cI (mN h_);obtain⟨C0,C1,C2,C3,rfl⟩:=hB.shape;refine cE hw (fun _ w' v w2=>c9 w2 (Nf w' w2) v (f / g)) (fun O w' r=>(Ft f g)▸zA (Rel.old r (cG w)) (hA.rel r (cG w)) (hB.rel r (cG w)) (lF (ga f) (fun e=>UK (Rat.num_eq_zero.1 e))) (by omega) (by omega)) ?_;rintro O _ _ _ Oj r he hw h_ hn;have hC:=hn.dK (S:=FF) r.cI (mN h_);obtain⟨F0,F1,F2,F3,F4,F5,F6,F7,rfl⟩:=hC.shape;exact rtn hw fun ρe we re=>hC.out re (cG w)
theorem Gu{f:Rat}(hS:Old S w)(hf:c9 w S v f)(hg:c9 w S u g)(Wn:rl f<=10000000000)(hlg:rl g<=10000000000):
  eA PG N.mA #[v,u] w (eL w fun v' w2=>c9 w2 (Nf w w2) v' (f+g)):=by
 have hw:=bR w;have l1:=gD f;have l2:=fO f;have l3:=gD g;have l4:=fO g;have m0:=dI f.num g.den;have m1:=dI g.num f.den;have m2:=dI f.den g.den;have m4:=j6 (f.num*g.den) (g.num*f.den);replace hf:=hf.cL (S':=Cv S w.heap.size []) fun _ h=>.inl h;replace hg:=hg.cL (S':=Cv S w.heap.size []) fun _ h=>.inl h;obtain⟨b1,a1,n1,c1,b2,a2,n2,c2,rfl⟩:=hf.shape;obtain⟨b3,a3,n3,c3,b4,a4,n4,c4,rfl⟩:=hg.shape;have VV:=hf.num;have Qs:=hf.den;have TW:=hg.num;have QY:=hg.den;refine qG (by simp) ?_;refine cO hτ dZ [.x 0,.x 1,.x 2,.x 3,.x 5,.x 6,.x 7,.x 8,.x 11,.x 12,.x 13,.x 14,.x 4,.x 9,.x 10,.x 15,.x 16,.x 17] (by kernel_rfl) (by kernel_rfl) ?_;refine cE hw (fun _ w' v w2=>ed w2 (Nf w' w2) v (f.num*(g.den:Int))) (fun O w' r=>jF (Rel.old r hS) (VV.rel r hS) (QY.rel r hS) (by omega) (by omega)) ?_;rintro O _ _ _ Od r he hw h_ hn;replace Qs:=Qs.cK r hS he (mC h_);replace TW:=TW.cK r hS he (mC h_);replace QY:=QY.cK r hS he (mC h_);have hA:=hn.dK (S:=FF) r.cI (mN h_);obtain⟨A0,A1,A2,A3,rfl⟩:=hA.shape;refine cE hw (fun _ w' v w2=>ed w2 (Nf w' w2) v (g.num*(f.den:Int))) (fun O w' r=>jF (Rel.old r hS) (TW.rel r hS) (Qs.rel r hS) (by omega) (by omega)) ?_;rintro O _ _ _ Oa r he hw h_ hn;replace Qs:=Qs.cK r hS he (mC h_);replace QY:=QY.cK r hS he (mC h_);replace hA:=hA.cK r (cG w) he (mC h_);have hB:=hn.dK (S:=FF) r.cI (mN h_);obtain⟨C0,C1,C2,C3,rfl⟩:=hB.shape;refine cE hw (fun _ w' v w2=>ed w2 (Nf w' w2) v (f.num*(g.den:Int)+g.num*(f.den:Int))) (fun O w' r=>FB (Rel.old r (cG w)) (hA.rel r (cG w)) (hB.rel r (cG w)) (by omega) (by omega)) ?_;rintro O _ _ _ Oj r he hw h_ hn;replace Qs:=Qs.cK r hS he (mC h_);replace QY:=QY.cK r hS he (mC h_);have hD:=hn.dK (S:=FF) r.cI (mN h_);obtain⟨F0,F1,F2,F3,rfl⟩:=hD.shape;refine cE hw (fun _ w' v w2=>ed w2 (Nf w' w2) v ((f.den:Int)*(g.den:Int))) (fun O w' r=>jF (Rel.old r hS) (Qs.rel r hS) (QY.rel r hS) (by omega) (by omega)) ?_;rintro O _ _ _ Oz r he hw h_ hn;replace hD:=hD.cK r (cG w) he (mC h_);have hE:=hn.dK (S:=FF) r.cI (mN h_);obtain⟨J0,J1,J2,J3,rfl⟩:=hE.shape;refine cE hw (fun _ w' v w2=>c9 w2 (Nf w' w2) v (f+g)) (fun O w' r=>(wQ f g)▸zA (Rel.old r (cG w)) (hD.rel r (cG w)) (hE.rel r (cG w)) (lF (ga f) (ga g)) (by omega) (by omega)) ?_;rintro O _ _ _ QT r he hw h_ hn;have hC:=hn.dK (S:=FF) r.cI (mN h_);obtain⟨K0,K1,K2,K3,K4,K5,K6,K7,rfl⟩:=hC.shape;exact rtn hw fun ρe we re=>hC.out re (cG w)
theorem tQ{f:Rat}(hS:Old S w)(hf:c9 w S v f)(Wn:rl f<=100000000000):
  eA PG N.lu #[v] w (eL w fun v' w2=>cT w2 (Nf w w2) v' f):=by
 have hw:=bR w;have l1:=gD f;have l2:=fO f;replace hf:=hf.cL (S':=Cv S w.heap.size []) fun _ h=>.inl h;obtain⟨b1,a1,n1,c1,b2,a2,n2,c2,rfl⟩:=hf.shape;have VV:=hf.num;have Qs:=hf.den;refine qE (by simp) ?_;refine cO hτ dZ [.x 0,.x 1,.x 3,.x 4,.x 2,.x 5,.x 6,.x 7] (by kernel_rfl) (by kernel_rfl) ?_;refine cE hw (fun _ w' v w2=>dU w2 (Nf w' w2) v f.num) (fun O w' r=>aAl (Rel.old r hS) (VV.rel r hS) (by omega)) ?_;rintro O _ _ _ Od r he hw h_ hn;replace Qs:=Qs.cK r hS he (mC h_);have hA:=hn.dK (S:=FF) r.cI (mN h_);obtain⟨A0,A1,A2,A3,rfl⟩:=hA.shape;refine cE hw (fun _ w' v w2=>dU w2 (Nf w' w2) v (f.den:Int)) (fun O w' r=>aAl (Rel.old r hS) (Qs.rel r hS) (by omega)) ?_;rintro O _ _ _ Oa r he hw h_ hn;replace hA:=hA.cK r (cG w) he (mC h_);have hB:=hn.dK (S:=FF) r.cI (mN h_);obtain⟨C0,C1,C2,C3,rfl⟩:=hB.shape;exact rtn hw fun ρe we re=>cT.of (hA.out re (cG w)) (hB.out re (cG w))
theorem BB(n:Int)(w:World)(h1: -9223372036854775808<=n)(h2:n<=9223372036854775807):
  eA PG N.zd #[.int .i64 n] w (eL w fun v' w2=>c9 w2 (Nf w w2) v' (n:Rat)):=by
 have hw:=bR w;refine Cr (by simp) ?_;refine cH (cE hw (fun _ w' v w2=>ed w2 (Nf w' w2) v n) (fun O w' r=>qV n w' h1 h2) ?_);rintro O _ _ _ Od r he hw h_ hn;have hA:=hn.dK (S:=FF) r.cI (mN h_);obtain⟨A0,A1,A2,A3,rfl⟩:=hA.shape;refine cH (cE hw (fun _ w' v w2=>ed w2 (Nf w' w2) v 1) (fun O w' r=>qV 1 w' (by decide) (by decide)) ?_);rintro O _ _ _ Oa r he hw h_ hn;replace hA:=hA.cK r (cG w) he (mC h_);have hB:=hn.dK (S:=FF) r.cI (mN h_);obtain⟨C0,C1,C2,C3,rfl⟩:=hB.shape;exact rtn hw fun ρe we re=>c9.of (by rw[Rat.num_intCast];exact hA.out re (cG w)) (by rw[Rat.den_intCast];exact hB.out re (cG w))
theorem kg(hS:Old S w)(hx:jM w S v x y)(PS:ln x.natAbs<=100000000000)(Qu:ln y.natAbs<=100000000000):
  eA PG N.z4 #[v] w (eL w fun v' w2=>c9 w2 (Nf w w2) v' (ratio x y)):=by
 have hw:=bR w;replace hx:=hx.cL (S':=Cv S w.heap.size []) fun _ h=>.inl h;obtain⟨b1,a1,n1,c1,b2,a2,n2,c2,rfl⟩:=hx.shape;have hn:=hx.num;have hd:=hx.den;have SG:=hn;have Vm:=hd;refine Cl (by simp) ?_;refine cH (cP (Φ:=fun _ w' v w2=>ed w2 (Nw (Cv S w.heap.size []) w' w2) v y) (fun O w' r=>aAv (Rel.old r hS) (Vm.rel r hS)) ?_);rintro O Pa v1 PJ r he hb hn;replace hw:=hw.tr hb;replace SG:=SG.cK (iv':=(Pa.heap.size,PJ.heap.size)::[]) r hS he fun x hx=>aC _ hx;have hD:=hn.old r.cI;generalize (Pa.heap.size,PJ.heap.size)::[]=Od at*
 obtain⟨A0,A1,A2,A3,rfl⟩:=hD.shape;refine cH (cE hw (fun _ w' v w2=>v= .int .i64 y.sign) (fun O w' r=>DL (hD.rel r hS)) ?_);rintro O _ _ _ Oa r he hw h_ rfl;replace SG:=SG.cK r hS he (mC h_);replace hD:=hD.cK r hS he (mC h_);refine dG.mk ?_ ?_<;>intro h
 ·have h:y=0:=cC.1 (eq_of_beq h);have e0:ratio x y=Rat.divInt x 1:=if_pos h;refine cH (cE hw (fun _ w' v w2=>ed w2 (Nf w' w2) v 1) (fun O w' r=>qV 1 w' (by decide) (by decide)) ?_);rintro O Pg v3 Pc Oj r he hw h_ hn;replace SG:=SG.cK r hS he (mC h_);have hO:=hn.dK (S:=FF) r.cI (mN h_);obtain⟨C0,C1,C2,C3,rfl⟩:=hO.shape;have l1:ln (1:Int).natAbs=1:=by decide
  refine cO hτ dZ [.x 0,.x 1,.x 3,.x 2,.x 4,.x 5] (by kernel_rfl) (by kernel_rfl) ?_;refine cP (Φ:=fun _ w' v w2=>ed w2 (Nw (Cv S w.heap.size Oj) w' w2) v x) (fun O w' r=>aAv (Rel.old r hS) (SG.rel r hS)) ?_;rintro O Qh v4 Q6 r he hb hn;replace hw:=hw.tr hb;replace hO:=hO.cK (iv':=(Qh.heap.size,Q6.heap.size)::Oj) r (cG w) he fun x hx=>aC _ hx;have hN:=hn.old r.cI;generalize (Qh.heap.size,Q6.heap.size)::Oj=Oz at*
  obtain⟨F0,F1,F2,F3,rfl⟩:=hN.shape;refine cE hw (fun _ w' v w2=>c9 w2 (Nf w' w2) v (ratio x y)) (fun O w' r=>e0.symm▸zA (Rel.old r hS) (hN.rel r hS) ((hO.rel r (cG w)).cL fun g hg=>hg.elim (fun k=>k.elim) .inr) (by decide) (by omega) (by omega)) ?_;rintro O _ _ _ QT r he hw h_ hn;have hC:=hn.dK (S:=FF) r.cI (mN h_);obtain⟨J0,J1,J2,J3,J4,J5,J6,J7,rfl⟩:=hC.shape;exact rtn hw fun ρe we re=>hC.out re (cG w)
 ·have h:y≠0:=fun e=>by rw[e]at h;exact absurd h (by decide)
  have e0:ratio x y=Rat.divInt x y:=aK h;refine cO hτ dZ [.x 0,.x 1,.x 3,.x 2,.x 4,.x 5] (by kernel_rfl) (by kernel_rfl) ?_;refine cP (Φ:=fun _ w' v w2=>ed w2 (Nw (Cv S w.heap.size Oa) w' w2) v x) (fun O w' r=>aAv (Rel.old r hS) (SG.rel r hS)) ?_;rintro O Pg v3 Pc r he hb hn;replace hw:=hw.tr hb;replace hD:=hD.cK (iv':=(Pg.heap.size,Pc.heap.size)::Oa) r hS he fun x hx=>aC _ hx;have hN:=hn.old r.cI;generalize (Pg.heap.size,Pc.heap.size)::Oa=Oj at*
  obtain⟨C0,C1,C2,C3,rfl⟩:=hN.shape;refine cE hw (fun _ w' v w2=>c9 w2 (Nf w' w2) v (ratio x y)) (fun O w' r=>e0.symm▸zA (Rel.old r hS) (hN.rel r hS) (hD.rel r hS) h (by omega) (by omega)) ?_;rintro O _ _ _ Oz r he hw h_ hn;have hC:=hn.dK (S:=FF) r.cI (mN h_);obtain⟨F0,F1,F2,F3,F4,F5,F6,F7,rfl⟩:=hC.shape;exact rtn hw fun ρe we re=>hC.out re (cG w)
def j8(v:Value):Iv:=match v.ownBlock with
 |some g=>[(g,g+1)]
 |none=>[]
theorem tO{lo hi:Nat}:(lo,hi)∈j8 v↔v.ownBlock=some lo∧hi=lo+1:=by
 unfold j8
 cases h:v.ownBlock with
 |none=>simp
 |some g=>simp;omega
def G2(iv:Iv)(v:Value):Prop:=∀b,v.ownBlock=some b->∃lo hi,(lo,hi)∈iv∧lo<=b∧b<hi
section
variable{S:Nat->Prop}{H:Hp}{nx:Nat}{iv iv':Iv}{B e sz m:Nat}{w w' w2:World}{O:Nat->Sx.eE}{v v':Value}{xs:List Value}
theorem G2.not(h:G2 iv v)(r:Rel H nx iv B w O w'){b:Nat}(hb:v.ownBlock=some b):∀id c,dM H id=some c->(O id).nil=false->(O id).g≠b:=fun id c hc hn he=>by
 obtain⟨lo,hi,h1,h2,h3⟩:=h b hb;exact r.lk lo hi h1 id c hc hn (by omega)
theorem jW(h:w.ownsRow B e sz v m xs)(hc:G2 iv v)(r:Rel H nx iv B w O w'):w'.ownsRow B e sz v m xs:=
 ownsRow.cJ h fun b hb=>r.xw b (ownsRow.low h b hb).2 fun id c hc' hn he=>hc.not r hb id c hc' hn he
theorem G2.row(v:Value):G2 (j8 v) v:=fun b hb=>⟨b,b+1,tO.2 ⟨hb,rfl⟩,by omega,by omega⟩
theorem G2.mono(h:G2 iv v)(k:∀p,p∈iv->p∈iv'):G2 iv' v:=fun b hb=>by
 obtain⟨lo,hi,h1,h2⟩:=h b hb;exact⟨lo,hi,k _ h1,h2⟩
theorem iX(h:w.ownsRow B e sz v m xs):∃a c,v= .slice a m c∧m<=c:=by
 rcases h.2 with⟨rfl,rfl⟩|⟨g,cap,cur,rfl,_,_,h1,_⟩
 ·exact⟨none,0,rfl,Nat.le_refl _⟩
 ·exact⟨_,cap,rfl,h1⟩
end
structure jY(w:World)(S:Nat->Prop)(sz:Nat)(v:Value)(xs:List Value)(n:Nat):Prop where
 le:n<=maxLen
 len:xs.length=n*sz
 one:∀u∈xs,u.oneCell'=true
 sl:∃a c,v= .slice a n c∧n<=c∧∀(j:Nat) u,xs[j]? =some u->∃ad,a=some ad∧S ad.block∧w.cell? (ad.add j)=some u
theorem jY.cJ(h:jY w S sz v xs n)(hk:∀g,S g->w2.heap[g]? =w.heap[g]?):jY w2 S sz v xs n:=by
 obtain⟨h0,h1,h2,a,c,h3,h4,h5⟩:=h;refine⟨h0,h1,h2,a,c,h3,h4,fun j u hu=>?_⟩;obtain⟨ad,k1,k2,k3⟩:=h5 j u hu;exact⟨ad,k1,k2,by rw[cM (hk _ (by rw[dD];exact k2))];exact k3⟩
theorem jY.cL(h:jY w S sz v xs n)(hk:∀g,S g->S' g):jY w S' sz v xs n:=by
 obtain⟨h0,h1,h2,a,c,h3,h4,h5⟩:=h;refine⟨h0,h1,h2,a,c,h3,h4,fun j u hu=>?_⟩;obtain⟨ad,k1,k2,k3⟩:=h5 j u hu;exact⟨ad,k1,hk _ k2,k3⟩
section
variable{S S':Nat->Prop}{H:Hp}{nx:Nat}{iv iv':Iv}{B:Nat}{w w' w2:World}{O:Nat->Sx.eE}{v:Value}{sz n:Nat}{xs:List Value}
end
end Go.Ex
namespace Go.Sx
open Go Go.Ex Go.Proofs
variable{O:Nat->Sx.eE}
theorem Rel.qN{H:Hp}{nx:Nat}{iv:Iv}{B:Nat}{w w':World}(r:Rel H nx iv B w O w'){id t sz n:Nat}{cs:List At}(h:dM H id=some (.box t cs))(hl:cs.length=n*sz)(hn:n<=maxLen)(h1:∀u∈cs,(u.den O).oneCell'=true):
  jY w' (fun g=>g=(O id).g) sz (.slice (some ⟨(O id).g,0,none⟩) n n) (cs.map (At.den O)) n:=by
 refine⟨hn,by simpa using hl,fun u hu=>?_,_,_,rfl,Nat.le_refl _,fun j u hu=>⟨_,rfl,rfl,?_⟩⟩
 ·obtain⟨x,hx,rfl⟩:=aT.1 hu;exact h1 x hx
 ·have h0:(⟨(O id).g,0,none⟩:Addr).add j=⟨(O id).g,j,none⟩:=by
   cases j with
   |zero=>rfl
   |succ j=>simp[Addr.add]
  rw[h0,cell_of (r.box id t _ h)];exact hu
end Go.Sx
namespace Go.Ex
open Go Go.Sx Go.Proofs
end Go.Ex
namespace Go.Sx
open Go Go.Ex Go.Proofs
variable{cs:List Value}{O:Nat->Sx.eE}
theorem Rel.DO{H:Hp}{nx:Nat}{iv:Iv}{B:Nat}{w w':World}(r:Rel H nx iv B w O w'){id t sz n:Nat}(h:dM H id=some (.arr t cs))(hl:cs.length=n*sz)(hn:n<=maxLen)(h1:∀u∈cs,u.oneCell'=true):
  jY w' (fun g=>g=(O id).g) sz (.slice (some ⟨(O id).g,0,none⟩) n n) cs n:=by
 refine⟨hn,hl,h1,_,_,rfl,Nat.le_refl _,fun j u hu=>⟨_,rfl,rfl,?_⟩⟩;have h0:(⟨(O id).g,0,none⟩:Addr).add j=⟨(O id).g,j,none⟩:=by
  cases j with
  |zero=>rfl
  |succ j=>simp[Addr.add]
 rw[h0,cell_of (r.arr id t _ h)];exact hu
end Go.Sx
namespace Go.Ex
open Go Go.Sx Go.Proofs
theorem aBN{n:Nat}(h:n<=9223372036854775807):IntKind.i64.wrap (n:Int)=n:=by rw[wrap64]<;>omega
theorem aCN{t b:Nat}(h:t<=9223372036854775807):IntKind.i64.wrap ((t:Int).tdiv (b:Int))=((t / b:Nat):Int):=by
 have h1:=Nat.div_le_self t b;rw[Int.tdiv_eq_ediv_of_nonneg (by omega),<-Int.natCast_ediv];exact aBN (by omega)
end Go.Ex
namespace Go.Ex
open Go Go.Sx Go.Proofs
def DP:Value:=.agg #[.bool false,.slice none 0 0,.bool false,.slice none 0 0]
theorem nI{n:Int}(h1: -9223372036854775808<=n)(h2:n<=9223372036854775807):ln n.natAbs<=2:=gX.2 (by show n.natAbs<4294967296^2;omega)
end Go.Ex
namespace Go.Sx
open Go Go.Ex Go.Proofs
variable{cs:List Value}{O:Nat->Sx.eE}
theorem Rel.gz{H:Hp}{nx:Nat}{iv:Iv}{B:Nat}{w w':World}(r:Rel H nx iv B w O w'){id t m sz:Nat}(h:dM H id=some (.vec t sz cs))(hm:cs.length=m*sz)(SP:m<=maxLen)(hs:0<sz)(h1:∀u∈cs,u.oneCell'=true):
  jY w' (fun g=>B<=g∧g<w'.heap.size) sz ((At.w id m).den O) cs m:=by
 rcases r.vec id t sz _ h with⟨hn,rfl⟩|⟨hn,spare,hb,hc,Qb⟩
 ·have UZ:m=0:=by
   rcases bQ m with h|h
   ·exact h
   ·have:=Nat.mul_pos h hs;simp at hm;omega
  subst UZ;refine⟨SP,by simp,by simp,none,0,by simp[At.den,hn],Nat.le_refl _,by simp⟩
 ·refine⟨SP,hm,h1,some ⟨(O id).g,0,none⟩,(O id).cap,by simp[At.den,hn],?_,fun j x hx=>⟨_,rfl,r.low id _ h hn,?_⟩⟩
  ·have h1:(cs++spare).length=cs.length+spare.length:=List.length_append;have h2:m*sz<=(O id).cap*sz:=by omega
   exact cB h2 hs
  ·rw[dP,cell_of hb,aW,aJ (aE.1 hx).1];exact hx
end Go.Sx
namespace Go.Ex
open Go Go.Sx Go.Proofs
end Go.Ex
namespace Go.Ex
open Go Go.Sx Go.Proofs
variable{css:List (List Value)}{qs:List Rat}{cs xs:List Value}{i j n:Nat}{C S:Nat->Prop}{O:Nat->Sx.eE}{a:Option Addr}{q:Rat}{v:Value}{w:World}
def signed:Bool->ByteArray->ByteArray
 |true,s=>⟨#[45]⟩++s
 |false,s=>s
def oD(w:World)(S:Nat->Prop)(cs:List Value)(q:Rat):Prop:=∃b a n c b2 a2 n2 c2,cs=[.bool b,.slice a n c,.bool b2,.slice a2 n2 c2]∧c9 w S (.agg #[.bool b,.slice a n c,.bool b2,.slice a2 n2 c2]) q
def Fr(w:World)(S:Nat->Prop)(css:List (List Value))(qs:List Rat):Prop:=css.length=qs.length∧∀(j:Nat) cs q,css[j]? =some cs->qs[j]? =some q->oD w S cs q
section
variable{S S':Nat->Prop}{w w2:World}{cs:List Value}{css:List (List Value)}{q:Rat}{qs:List Rat}
theorem oD.cJ(h:oD w S cs q)(hk:∀g,S g->w2.heap[g]? =w.heap[g]?):oD w2 S cs q:=by
 obtain⟨b,a,n,c,b2,a2,n2,c2,h1,h2⟩:=h;exact⟨b,a,n,c,b2,a2,n2,c2,h1,h2.cJ hk⟩
theorem oD.cL(h:oD w S cs q)(hk:∀g,S g->S' g):oD w S' cs q:=by
 obtain⟨b,a,n,c,b2,a2,n2,c2,h1,h2⟩:=h;exact⟨b,a,n,c,b2,a2,n2,c2,h1,h2.cL hk⟩
theorem oD.len(h:oD w S cs q):cs.length=4:=by obtain⟨_,_,_,_,_,_,_,_,rfl,_⟩:=h;rfl
theorem c9.four{b b2:Bool}{a2:Option Addr}{c n2 c2:Nat}(h:c9 w S (.agg #[.bool b,.slice a n c,.bool b2,.slice a2 n2 c2]) q):oD w S [.bool b,.slice a n c,.bool b2,.slice a2 n2 c2] q:=⟨_,_,_,_,_,_,_,_,rfl,h⟩
theorem Fr.cJ(h:Fr w S css qs)(hk:∀g,S g->w2.heap[g]? =w.heap[g]?):Fr w2 S css qs:=⟨h.1,fun j cs q h1 h2=>(h.2 j cs q h1 h2).cJ hk⟩
theorem Fr.cL(h:Fr w S css qs)(hk:∀g,S g->S' g):Fr w S' css qs:=⟨h.1,fun j cs q h1 h2=>(h.2 j cs q h1 h2).cL hk⟩
theorem Fr.mV(h:Fr w S css qs):∀cs∈css,cs.length=4:=fun cs hc=>by
 obtain⟨j,hj⟩:=aS hc;have hl:=(aE.1 hj).1;exact(h.2 j cs _ hj (aB (by rw[<-h.1];exact hl))).len
theorem Fr.one(h:Fr w S css qs):∀u∈css.flatten,u.oneCell'=true:=fun u hu=>by
 obtain⟨cs,hc,hu⟩:=List.mem_flatten.1 hu;obtain⟨j,hj⟩:=aS hc;have hl:=(aE.1 hj).1;obtain⟨_,_,_,_,_,_,_,_,rfl,_⟩:=h.2 j cs _ hj (aB (by rw[<-h.1];exact hl));simp at hu;rcases hu with rfl|rfl|rfl|rfl<;>rfl
theorem Fr.set(h:Fr w S css qs)(hq:oD w S cs q):Fr w S (css.set j cs) (qs.set j q):=by
 refine⟨by simp[h.1],fun i c p h1 h2=>?_⟩;by_cases PZ:j=i
 ·subst PZ;have hl:=(aE.1 h1).1;rw[aR (by simpa using hl)]at h1;rw[aR (by have:=h.1;simp at hl;omega)]at h2;injection h1 with h1;injection h2 with h2;subst h1 h2;exact hq
 ·rw[aX PZ]at h1 h2;exact h.2 i c p h1 h2
end
section
variable{S S':Nat->Prop}{H:Hp}{nx:Nat}{iv iv':Iv}{B:Nat}{w w' w2:World}{O:Nat->Sx.eE}{css:List (List Value)}{qs:List Rat}
theorem Fr.rel(h:Fr w (Cv S B iv) css qs)(r:Rel H nx iv B w O w')(hS:∀g,S g->g<B):Fr w' (Cv S B iv) css qs:=h.cJ fun _ hg=>Rel.same r hS hg
theorem Fr.cK(h:Fr w (Cv S B iv) css qs)(r:Rel H nx iv B w O w')(hS:∀g,S g->g<B)(he:Ext w' w2)(hm:∀p,p∈iv->p∈iv'):Fr w2 (Cv S B iv') css qs:=
 ((h.rel r hS).cJ fun g hg=>he.block g (Rel.old r hS g hg)).cL fun _ hg=>hg.mono hm
theorem Fr.arg(h:Fr w S css qs)(iv:Iv):Fr w (Cv S w.heap.size iv) css qs:=h.cL fun _ h=>.inl h
end
theorem eD:∀{css:List (List Value)},(∀cs∈css,cs.length=4)->css.flatten.length=css.length*4
 |[],_=>rfl
 |c::r,h=>by
  rw[List.flatten_cons,List.length_append,eD (fun cs hc=>h cs (aC _ hc)),h c aI,List.length_cons];omega
theorem flat_get:∀{css:List (List Value)} {j:Nat} {cs:List Value},(∀cs∈css,cs.length=4)->css[j]? =some cs->∀k u,cs[k]? =some u->css.flatten[j*4+k]? =some u
 |[],j,cs,_,hj,_,_,_=>by simp at hj
 |c::r,0,cs,h,hj,k,u,hu=>by
  simp at hj;subst hj;rw[List.flatten_cons,aJ (by have:=(aE.1 hu).1;omega)];simpa using hu
 |c::r,j+1,cs,h,hj,k,u,hu=>by
  have hc:=h c aI;rw[List.flatten_cons,aM (by omega),hc,show(j+1)*4+k-4=j*4+k by omega];exact flat_get (fun cs hc=>h cs (aC _ hc)) (by simpa using hj) k u hu
theorem jt:∀{css:List (List Value)} {j:Nat} {cs:List Value},(∀cs∈css,cs.length=4)->j<css.length->css.flatten.take (j*4)++cs++css.flatten.drop (j*4+4)=(css.set j cs).flatten
 |[],j,cs,_,hj=>by simp at hj
 |c::r,0,cs,h,_=>by
  have hc:=h c aI;simp[List.flatten_cons,hc]
 |c::r,j+1,cs,h,hj=>by
  have hc:=h c aI
  rw[List.flatten_cons,show(j+1)*4=c.length+j*4 by omega,List.take_length_add_append,show c.length+j*4+4=c.length+(j*4+4) by omega,List.drop_length_add_append,List.set_cons_succ,List.flatten_cons,
   <-jt (fun cs hc=>h cs (aC _ hc)) (by simpa using hj),bm,bm,bm]
abbrev Out(B:Nat)(iv:Iv):Nat->Prop:=Cv (fun g=>g<B) B iv
theorem ia{H:Hp}{nx:Nat}{iv:Iv}{B Bc e sz m:Nat}{w':World}(h:w.ownsRow Bc e sz v m xs)(hc:∀g,v.ownBlock=some g->Out B iv g)(r:Rel H nx iv B w O w'):w'.ownsRow Bc e sz v m xs:=
 ownsRow.cJ h fun b hb=>Rel.same r (fun _ h=>h) (hc b hb)
theorem DQ{c:Nat}(h:w.ownsRow 0 T.eC 4 (.slice a n c) n css.flatten)(hf:Fr w S css qs)(hj:css[j]? =some cs):
  ∃g,a=some ⟨g,0,none⟩∧∀k u,cs[k]? =some u->w.cell? ((Addr.add ⟨g,0,none⟩ (j*4)).add k)=some u:=by
 rcases h.2 with⟨h1,h0⟩|⟨g,cap,cur,Rx,_⟩
 ·have:=h.1;rw[eD hf.mV]at this;have:=(aE.1 hj).1;omega
 ·injection Rx with h1 h2 h3;subst h1;refine⟨g,rfl,fun k u hu=>?_⟩;have:=h.cells (g:=g) rfl (j*4+k) u (flat_get hf.mV hj k u hu);rw[dP,dP];rw[dP]at this;rw[Nat.add_assoc];exact this
theorem aCO:PG.underlying T.row=some (.slice T.eC):=(hτ T.row _ rfl).i4 rfl
theorem eR{w1 w2:World}{row:Option Nat}(h:w.grownBy w1 row)(k:dg w.heap.size w1 w2):w.grownBy w2 row:=
 ⟨k.os.trans h.os,k.tape.trans h.tape,k.output.trans h.output,aV h.size k.size,fun b hb hn=>(k.block b hb).trans (h.block b hb hn)⟩
def iY(i:Nat)(f:Nat->Rat->Rat)(qs:List Rat):List Rat:=qs.mapIdx fun j q=>if j<i then f j q else q
theorem qO(f:Nat->Rat->Rat)(qs:List Rat):iY 0 f qs=qs:=by
 apply bL;intro j;simp[iY]
theorem tP(f:Nat->Rat->Rat)(qs:List Rat):iY qs.length f qs=qs.mapIdx f:=by
 apply bL;intro j;simp only[iY,List.getElem?_mapIdx]
 cases h:qs[j]? with
 |none=>rfl
 |some q=>simp[(aE.1 h).1]
theorem nE{f:Nat->Rat->Rat}(h:qs[i]? =some q):(iY i f qs).set i (f i q)=iY (i+1) f qs:=by
 apply bL;intro j;have hi:=(aE.1 h).1;by_cases PZ:i=j
 ·subst PZ;rw[aR (by simp[iY];exact hi)];simp[iY,List.getElem?_mapIdx,h]
 ·rw[aX PZ];simp only[iY,List.getElem?_mapIdx]
  have:(j<i)↔(j<i+1):=by omega
  simp[this]
theorem DE{f:Nat->Rat->Rat}(h:qs[i]? =some q)(hf:f i q=q):iY i f qs=iY (i+1) f qs:=by
 rw[<-nE h,hf];apply bL;intro j;have hi:=(aE.1 h).1;by_cases PZ:i=j
 ·subst PZ;rw[aR (by simp[iY];exact hi)];simp[iY,List.getElem?_mapIdx,h]
 ·rw[aX PZ]
theorem xa{f:Nat->Rat->Rat}(h:qs[i]? =some q):(iY i f qs)[i]? =some q:=by
 simp only[iY,List.getElem?_mapIdx,h]
 simp
def ie(w:World)(C S:Nat->Prop)(v:Value)(qs:List Rat):Prop:=∃css,jY w C 4 v css.flatten qs.length∧Fr w S css qs
section
variable{C C' S S':Nat->Prop}{H:Hp}{nx:Nat}{iv iv':Iv}{B:Nat}{w w' w2:World}{O:Nat->Sx.eE}{v:Value}{qs:List Rat}
theorem ie.cJ(h:ie w C S v qs)(hk:∀g,C g∨S g->w2.heap[g]? =w.heap[g]?):ie w2 C S v qs:=by
 obtain⟨css,h1,h2⟩:=h;exact⟨css,h1.cJ fun g hg=>hk g (.inl hg),h2.cJ fun g hg=>hk g (.inr hg)⟩
theorem ie.cL(h:ie w C S v qs)(hk:∀g,C g->C' g)(VY:∀g,S g->S' g):ie w C' S' v qs:=by
 obtain⟨css,h1,h2⟩:=h;exact⟨css,h1.cL hk,h2.cL VY⟩
theorem ie.rel(h:ie w (Cv C B iv) (Cv S B iv) v qs)(r:Rel H nx iv B w O w')(hC:∀g,C g->g<B)(hS:∀g,S g->g<B):ie w' (Cv C B iv) (Cv S B iv) v qs:=
 h.cJ fun _ hg=>hg.elim (Rel.same r hC) (Rel.same r hS)
theorem ie.cK(h:ie w (Cv C B iv) (Cv S B iv) v qs)(r:Rel H nx iv B w O w')(hC:∀g,C g->g<B)(hS:∀g,S g->g<B)(he:Ext w' w2)(hm:∀p,p∈iv->p∈iv'):ie w2 (Cv C B iv') (Cv S B iv') v qs:=
 ((h.rel r hC hS).cJ fun g hg=>he.block g (hg.elim (Rel.old r hC g) (Rel.old r hS g))).cL (fun _ hg=>hg.mono hm) (fun _ hg=>hg.mono hm)
theorem ie.arg(h:ie w C S v qs)(iv:Iv):ie w (Cv C w.heap.size iv) (Cv S w.heap.size iv) v qs:=h.cL (fun _ h=>.inl h) (fun _ h=>.inl h)
end
theorem ie.shape(h:ie w C S v qs):∃a c,v= .slice a qs.length c∧qs.length<=c∧qs.length<=maxLen:=by
 obtain⟨css,⟨h0,_,_,a,c,h1,h2,_⟩,_⟩:=h;exact⟨a,c,h1,h2,h0⟩
theorem ie.load{c:Nat}(h:ie w C S (.slice a n c) qs)(hq:qs[j]? =some q):
  ∃ad cs,a=some ad∧oD w S cs q∧∀k u,cs[k]? =some u->C ad.block∧w.cell? ((ad.add (j*4)).add k)=some u:=by
 obtain⟨css,⟨h0,h1,h2,a',c',e,h3,h4⟩,hf⟩:=h;injection e with e1 e2 e3;subst e1;obtain⟨cs,Ox⟩:∃cs,css[j]? =some cs:=⟨_,aB (by rw[hf.1];exact(aE.1 hq).1)⟩
 have hF:=hf.2 j cs q Ox hq;have hl:=hF.len;obtain⟨ad,k1,k2,k3⟩:=h4 (j*4+0) _ (flat_get hf.mV Ox 0 _ (aB (show 0<cs.length by omega)));refine⟨ad,cs,k1,hF,fun k u hu=>?_⟩;obtain⟨ad2,m1,m2,m3⟩:=h4 (j*4+k) u (flat_get hf.mV Ox k u hu);rw[k1]at m1;injection m1 with m1;subst m1;refine⟨m2,?_⟩;rw[<-m3];have:(ad.add (j*4)).add k=ad.add (j*4+k):=by
  unfold Addr.add;split<;>split<;>simp_all<;>omega
 rw[this]
def se(p:Rat)(ps:List Rat)(j:Nat)(q:Rat):Rat:=q+p*ps.getD j 0
theorem Ir(ps qs:List Rat):qs.mapIdx (se 0 ps)=qs:=by
 apply bL;intro j;rw[List.getElem?_mapIdx]
 cases qs[j]? with
 |none=>rfl
 |some q=>exact congrArg some (by rw[se,bC,bN])
theorem IS{vby vs:Value}{ps:List Rat}{p:Rat}(hC:Old C w)(hS:Old S w)(OX:w.ownsRow 0 T.eC 4 v n css.flatten)(QF:Fr w S css qs)(QB:css.length=n)(PD:c9 w S vby p)
  (hs:ie w C S vs ps) (QI:ps.length=n) (hdis:∀g,v.ownBlock=some g->¬S g) (Vf:∀g,v.ownBlock=some g->¬C g) (hq:∀q∈qs,rl q<=2000000000) (hps:∀q∈ps,rl q<=2000000000) (hb:rl p<=2000000000):
  eA PG N.oU #[v,vby,vs] w (fun e w2=>e= .returned (.tuple #[])∧w.grownBy w2 v.ownBlock∧∃css',w2.ownsRow 0 T.eC 4 v n css'.flatten∧css'.length=n∧Fr w2 (Nw S w w2) css' (qs.mapIdx (se p ps))):=by
 have Ol:∀g,v.ownBlock=some g->g<w.heap.size:=fun g hg=>(ownsRow.low OX g hg).2;have Pn:∀iv g,v.ownBlock=some g->Out w.heap.size iv g:=fun iv g hg=>.inl (Ol g hg);have WI:∀iv g,v.ownBlock=some g->¬Cv S w.heap.size iv g:=fun iv g hg h=>by
  rcases h with h|⟨h,_⟩
  ·exact hdis g hg h
  ·have:=Ol g hg;omega
 have WJ:∀iv g,v.ownBlock=some g->¬Cv C w.heap.size iv g:=fun iv g hg h=>by
  rcases h with h|⟨h,_⟩
  ·exact Vf g hg h
  ·have:=Ol g hg;omega
 have Sd:qs.length=n:=by rw[<-QF.1,QB]
 obtain⟨a,c,rfl,Uq⟩:=iX OX;obtain⟨b1,a1,n1,c1,b2,a2,n2,c2,rfl⟩:=PD.shape;obtain⟨asl,cs0,rfl,Sn,Va⟩:=hs.shape;rw[QI]at Sn Va hs ⊢;unfold maxLen at Va;replace QF:=QF.arg [];replace PD:=PD.arg [];replace hs:=hs.arg [];refine yj (by simp) ?_;conv=>whnf
 refine cH (cP (Φ:=fun _ _ v _=>v= .int .i64 (rs p)) (fun O w' r=>tN (Rel.old r hS) (PD.rel r hS)) ?_);rintro O wa v1 wb r he QH rfl;replace PD:=PD.cK (iv':=(wa.heap.size,wb.heap.size)::[]) r hS he fun x hx=>aC _ hx;replace QF:=QF.cK (iv':=(wa.heap.size,wb.heap.size)::[]) r hS he fun x hx=>aC _ hx;replace hs:=hs.cK (iv':=(wa.heap.size,wb.heap.size)::[]) r hC hS he fun x hx=>aC _ hx;have Pp:wb.ownsRow 0 T.eC 4 (.slice a n c) n css.flatten:=ownsRow.cJ (ia OX (Pn []) r) fun b hb=>he.block b (by have:=Ol b hb;have:=r.cI;omega);have hg:w.grownBy wb (Value.slice a n c).ownBlock:=sY QH;clear r he QH OX;generalize (wa.heap.size,wb.heap.size)::[]=iv at*
 conv=>whnf
 refine dG.mk ?_ ?_<;>intro h0
 ·have h0:p=0:=by
   have:rs p=0:=eq_of_beq h0;exact Rat.num_eq_zero.1 (cC.1 this)
  conv=>whnf
  intro ρ5 w5 r5;refine⟨rfl,eR hg r5.cS,css,ia Pp (Pn iv) r5,QB,?_⟩;have:=(QF.rel r5 hS).cL (S':=Nw S w w5) fun g hg=>Cv.nw hg r5;rw[h0,Ir];exact this
 clear h0;conv=>whnf
 refine⟨Nat×List (List Value)×Iv×World,fun z=>⟨[(0,sV a n c),(4,pP 0 0),(11,sV asl n cs0),(12,iZ n),(13,iZ z.1)],
   [(0,.box T.eC [.v (.bool b1),.v (.slice a1 n1 c1),.v (.bool b2),.v (.slice a2 n2 c2)])],1,z.2.2.1,z.2.2.2⟩,fun z=>n-z.1,
  fun z=>z.1<=n∧w.grownBy z.2.2.2 (Value.slice a n c).ownBlock∧z.2.2.2.ownsRow 0 T.eC 4 (.slice a n c) n z.2.1.flatten∧z.2.1.length=n∧Fr z.2.2.2 (Cv S w.heap.size z.2.2.1) z.2.1 (iY z.1 (se p ps) qs)∧
   c9 z.2.2.2 (Cv S w.heap.size z.2.2.1) (.agg #[.bool b1,.slice a1 n1 c1,.bool b2,.slice a2 n2 c2]) p∧ie z.2.2.2 (Cv C w.heap.size z.2.2.1) (Cv S w.heap.size z.2.2.1) (.slice asl n cs0) ps,?_,?_⟩
 ·intro O w' r
  refine⟨(0,css,iv,w'),⟨by simp,eR hg r.cS,ia Pp (Pn iv) r,QB,by rw[qO];exact QF.rel r hS,PD.rel r hS,hs.rel r hC hS⟩,
   Sub.gn [] r⟩
 clear Pp QF PD QB hs hg;rintro⟨i,css,iv,w1⟩ ⟨hi,hg,OX,QB,QF,PD,hs⟩;dsimp only at hi hg OX QB QF PD hs ⊢;conv=>whnf
 refine dG.mk ?_ ?_<;>intro h
 ·have h:i<n:=by simpa using h
  obtain⟨cs,Ox⟩:∃cs,css[i]? =some cs:=⟨_,aB (by omega)⟩
  obtain⟨q,XO⟩:∃q,qs[i]? =some q:=⟨_,aB (by omega)⟩
  obtain⟨f,UO⟩:∃f,ps[i]? =some f:=⟨_,aB (by omega)⟩
  have hF:=QF.2 i cs q Ox (xa XO);have Ua:se p ps i q=q+p*f:=by simp[se,List.getD,UO]
  obtain⟨d1,e1,m1,k1,d2,e2,m2,k2,rfl,hF⟩:=hF;have hrlq:=hq q (aD XO);have hrlf:=hps f (aD UO);obtain⟨ad,fcs,Oy,Uy,Ok⟩:=hs.load UO;obtain⟨f1,g1,o1,u1,f2,g2,o2,u2,rfl,Uy⟩:=Uy;conv=>whnf
  refine⟨ad,Oy,by omega,?_⟩;conv=>whnf
  refine⟨[.bool f1,.slice g1 o1 u1,.bool f2,.slice g2 o2 u2],rfl,fun O w' r j x hx=>?_,?_⟩
  ·have Qf:=hs.rel r hC hS;obtain⟨k2',k3⟩:=Ok j x hx;have:=Rel.same r hC k2';rw[aF,cM (w:=w1) (w2:=w') (by rw[dD,dD];exact this)];exact k3
  conv=>whnf
  refine cH (cP (Φ:=fun _ _ v _=>v= .int .i64 (rs f)) (fun O w' r=>tN (Rel.old r hS) (Uy.rel r hS)) ?_);rintro O wa v1 wb r he QH rfl;replace PD:=PD.cK (iv':=(wa.heap.size,wb.heap.size)::iv) r hS he fun x hx=>aC _ hx;replace QF:=QF.cK (iv':=(wa.heap.size,wb.heap.size)::iv) r hS he fun x hx=>aC _ hx;replace hs:=hs.cK (iv':=(wa.heap.size,wb.heap.size)::iv) r hC hS he fun x hx=>aC _ hx;replace Uy:=Uy.cK (iv':=(wa.heap.size,wb.heap.size)::iv) r hS he fun x hx=>aC _ hx;replace hF:=hF.cK (iv':=(wa.heap.size,wb.heap.size)::iv) r hS he fun x hx=>aC _ hx;replace OX:wb.ownsRow 0 T.eC 4 (.slice a n c) n css.flatten:=ownsRow.cJ (ia OX (Pn iv) r) fun b hb=>he.block b (by have:=Ol b hb;have:=r.cI;omega);replace hg:w.grownBy wb _:=eR hg QH;clear r he QH Ok;generalize (wa.heap.size,wb.heap.size)::iv=Oa at*
  conv=>whnf
  refine dG.mk ?_ ?_<;>intro hz
  ·conv=>whnf
   refine cO hτ dZ [.x 0,.x 1,.x 2,.x 3,.x 4,.x 5,.x 6,.x 7,.x 8,.x 9,.x 10,.x 11] (by kernel_rfl) (by kernel_rfl) ?_;conv=>whnf
   obtain⟨g,rfl,PK⟩:=DQ OX QF Ox;refine⟨⟨g,0,none⟩,rfl,by omega,?_⟩;conv=>whnf
   refine⟨[.bool d1,.slice e1 m1 k1,.bool d2,.slice e2 m2 k2],rfl,fun O w' r j x hx=>?_,?_⟩
   ·have:=DQ (ia OX (Pn Oa) r) (QF.rel r hS) Ox;obtain⟨g',h1,h2⟩:=this;injection h1 with h1;rw[<-h1]at h2;exact h2 j x hx
   conv=>whnf
   have QV:=fb p f;refine cP (Φ:=fun _ w' v w2=>c9 w2 (Nf w' w2) v (p*f)) (fun O w' r=>sU (Rel.old r hS) (PD.rel r hS) (Uy.rel r hS) (by omega) (by omega)) ?_;rintro O wa v1 wb r he QH hP;have hPN:=hP.dK (S:=S) r.cI (iv:=(wa.heap.size,wb.heap.size)::Oa) aI;replace PD:=PD.cK (iv':=(wa.heap.size,wb.heap.size)::Oa) r hS he fun x hx=>aC _ hx;replace QF:=QF.cK (iv':=(wa.heap.size,wb.heap.size)::Oa) r hS he fun x hx=>aC _ hx;replace hs:=hs.cK (iv':=(wa.heap.size,wb.heap.size)::Oa) r hC hS he fun x hx=>aC _ hx;replace hF:=hF.cK (iv':=(wa.heap.size,wb.heap.size)::Oa) r hS he fun x hx=>aC _ hx;replace OX:wb.ownsRow 0 T.eC 4 (.slice (some ⟨g,0,none⟩) n c) n css.flatten:=ownsRow.cJ (ia OX (Pn Oa) r) fun b hb=>he.block b (by have:=Ol b hb;have:=r.cI;omega);replace hg:w.grownBy wb _:=eR hg QH;clear r he QH hP Uy PK;generalize (wa.heap.size,wb.heap.size)::Oa=Oj at*
   obtain⟨b5,a5,n5,c5,b6,a6,n6,c6,rfl⟩:=hPN.shape;conv=>whnf
   refine cP (Φ:=fun _ w' v w2=>c9 w2 (Nf w' w2) v (q+p*f)) (fun O w' r=>Gu (Rel.old r hS) (hF.rel r hS) (hPN.rel r hS) (by omega) (by omega)) ?_;rintro O wc v2 wd r he QH hQ;have YB:=hQ.dK (S:=S) r.cI (iv:=(wc.heap.size,wd.heap.size)::Oj) aI;replace PD:=PD.cK (iv':=(wc.heap.size,wd.heap.size)::Oj) r hS he fun x hx=>aC _ hx;replace QF:=QF.cK (iv':=(wc.heap.size,wd.heap.size)::Oj) r hS he fun x hx=>aC _ hx;replace hs:=hs.cK (iv':=(wc.heap.size,wd.heap.size)::Oj) r hC hS he fun x hx=>aC _ hx;replace OX:wd.ownsRow 0 T.eC 4 (.slice (some ⟨g,0,none⟩) n c) n css.flatten:=ownsRow.cJ (ia OX (Pn Oj) r) fun b hb=>he.block b (by have:=Ol b hb;have:=r.cI;omega);replace hg:w.grownBy wd _:=eR hg QH;clear r he QH hQ hPN hF;generalize (wc.heap.size,wd.heap.size)::Oj=Oz at*
   obtain⟨b7,a7,n7,c7,b8,a8,n8,c8,rfl⟩:=YB.shape;rw[<-Ua]at YB;conv=>whnf
   refine⟨⟨g,0,none⟩,rfl,by omega,?_⟩;conv=>whnf
   intro O w' r;have Su:=ia OX (Pn Oz) r;have hF5:=(YB.rel r hS).four;obtain⟨g',SW,Oc,Q4,Oi,Oo⟩:=lT (nv:=[.bool b7,.slice a7 n7 c7,.bool b8,.slice a8 n8 c8]) Su rfl h rfl (by decide);injection SW with SW;injection SW with SW;subst SW;have Tl:=jt (cs:=[.bool b7,.slice a7 n7 c7,.bool b8,.slice a8 n8 c8]) QF.mV (show i<css.length by omega);rw[Tl]at Q4;have Pb:∀x,Cv S w.heap.size Oz x->(setCells w' ⟨g,i*4,none⟩ [.bool b7,.slice a7 n7 c7,.bool b8,.slice a8 n8 c8]).heap[x]? =w'.heap[x]? :=fun x hx=>
    Oi.block x (Rel.old r hS x hx) fun e=>WI Oz g rfl (by injection e with e;rw[<-e];exact hx)
   have Pv:(⟨g,0,none⟩:Addr).add ((i:Int).toNat*4)=⟨g,i*4,none⟩:=by rw[aF,dP,aW]
   have WK:=((QF.rel r hS).cJ Pb).set (j:=i) (hF5.cJ Pb);rw[nE (f:=se p ps) XO]at WK;have WL:=(PD.rel r hS).cJ Pb;have TF:∀x,Cv C w.heap.size Oz x->(setCells w' ⟨g,i*4,none⟩ [.bool b7,.slice a7 n7 c7,.bool b8,.slice a8 n8 c8]).heap[x]? =w'.heap[x]? :=fun x hx=>
    Oi.block x (Rel.old r hC x hx) fun e=>WJ Oz g rfl (by injection e with e;rw[<-e];exact hx)
   have hs6:=(hs.rel r hC hS).cJ fun x hx=>hx.elim (TF x) (Pb x);clear TF;replace hg:w.grownBy (setCells w' ⟨g,i*4,none⟩ [.bool b7,.slice a7 n7 c7,.bool b8,.slice a8 n8 c8]) (some g):=gT (eR hg r.cS) Oi;have QX:=fun id b hb hn=>Rel.not r (fun _ h=>h) (Pn Oz g rfl) id b hb hn;clear r QF PD YB OX Su hF5 Pb Tl Oi hs;refine⟨by rw[Pv],fun k hk=>by rw[Pv];exact Oc k hk,fun id b hb hn=>by rw[Pv];exact QX id b hb hn,fun w2 PI=>?_⟩;have PI:w2=setCells w' ⟨g,i*4,none⟩ [.bool b7,.slice a7 n7 c7,.bool b8,.slice a8 n8 c8]:=by rw[PI];exact congrArg (fun x=>setCells w' x _) Pv
   rw[<-PI]at WK WL Q4 hg Oo hs6;clear PI Oc QX;conv=>whnf
   refine⟨((i+1:Nat):Int),wo,?_⟩;conv=>whnf
   intro ρ3 w3 r3
   exact⟨(i+1,css.set i [.bool b7,.slice a7 n7 c7,.bool b8,.slice a8 n8 c8],Oz,w3),⟨h,eR hg r3.cS,ia Q4 (Pn Oz) r3,by simpa using QB,WK.rel r3 hS,WL.rel r3 hS,hs6.rel r3 hC hS⟩,
    Sub.gn [] r3,by dsimp only;omega⟩
  ·have XP:f=0:=by
    have:rs f=0:=by
     have h1:(rs f==0)=true:=by simpa using hz
     exact eq_of_beq h1
    exact Rat.num_eq_zero.1 (cC.1 this)
   have SQ:se p ps i q=q:=by rw[Ua,XP,bB,bN]
   conv=>whnf
   refine⟨((i+1:Nat):Int),wo,?_⟩;conv=>whnf
   intro ρ3 w3 r3
   exact⟨(i+1,css,Oa,w3),⟨h,eR hg r3.cS,ia OX (Pn Oa) r3,QB,by rw[<-DE XO SQ];exact QF.rel r3 hS,PD.rel r3 hS,hs.rel r3 hC hS⟩,
    Sub.gn [] r3,by dsimp only;omega⟩
 ·have h:i=n:=by
   have:¬i<n:=by simpa using h
   omega
  subst h;conv=>whnf
  intro ρ5 w5 r5;refine⟨rfl,eR hg r5.cS,css,ia OX (Pn iv) r5,QB,?_⟩;have:=(QF.rel r5 hS).cL (S':=Nw S w w5) fun g hg=>Cv.nw hg r5
  rwa [<-Sd,tP]at this
end Go.Ex
namespace Go.Ex
variable{M:List (List Rat)}{h i n:Nat}
def cY(M:List (List Rat))(i c:Nat):Rat:=(M.getD i []).getD c 0
def jT(M:List (List Rat))(c:Nat):Nat->Nat->Nat
 |0,k=>k
 |f+1,k=>if cY M k c=0 then jT M c f (k+1)else k
def ef{α:Type}(d:α)(l:List α)(i j:Nat):List α:=(l.set i (l.getD j d)).set j (l.getD i d)
def oe(p:Rat)(ps:List Rat)(j:Nat)(q:Rat):Rat:=q+p*ps.getD j 0
def dx(M:List (List Rat))(at_ c i:Nat):List (List Rat):=M.mapIdx fun j r=>if j<i∧j≠at_ then r.mapIdx (oe (-(r.getD c 0)) (M.getD at_ []))else r
def scaled(M:List (List Rat))(at_ c:Nat):List (List Rat):=M.set at_ ((M.getD at_ []).map (· *(1 / cY M at_ c)))
def dm(s:List (List Rat)×List Nat)(c:Nat):List (List Rat)×List Nat:=
 if s.2.length<s.1.length then
  let k:=jT s.1 c (s.1.length-s.2.length) s.2.length
  if k=s.1.length then s else
   let M1:=scaled (ef [] s.1 s.2.length k) s.2.length c
   (dx M1 s.2.length c M1.length,s.2++[c])
 else s
def cQ(M:List (List Rat))(cols:Nat):List (List Rat)×List Nat:=(List.range cols).foldl dm (M,[])
theorem jg{α:Type}(d:α)(l:List α)(i j:Nat):(ef d l i j).length=l.length:=by simp[ef]
theorem iU(M:List (List Rat))(a c i:Nat):(dx M a c i).length=M.length:=by simp[dx]
theorem tj(M:List (List Rat))(a c:Nat):(scaled M a c).length=M.length:=by simp[scaled]
theorem pX(s:List (List Rat)×List Nat)(c:Nat):(dm s c).1.length=s.1.length:=by
 unfold dm;split
 ·dsimp only
  split
  ·rfl
  ·dsimp only
   rw[iU,tj,jg]
 ·rfl
theorem B6(M:List (List Rat))(c:Nat):∀f k,k<=jT M c f k∧jT M c f k<=k+f
 |0,k=>⟨Nat.le_refl _,Nat.le_refl _⟩
 |f+1,k=>by
  unfold jT;split
  ·have:=B6 M c f (k+1);omega
  ·omega
theorem B7(M:List (List Rat))(c:Nat):∀f k,jT M c f k<k+f->cY M (jT M c f k) c≠0
 |0,k,h=>by simp[jT]at h
 |f+1,k,h=>by
  unfold jT at h ⊢;split
  ·rename_i h0;rw[if_pos h0]at h;exact B7 M c f (k+1) (by omega)
  ·rename_i h0;exact h0
theorem JR{c f k:Nat}(h:cY M k c=0):jT M c (f+1) k=jT M c f (k+1):=by rw[jT,if_pos h]
theorem JS{c f k:Nat}(h:cY M k c≠0):jT M c (f+1) k=k:=by rw[jT,aK h]
theorem Fx(M:List (List Rat))(a c:Nat):dx M a c 0=M:=by
 apply bL;intro j;simp[dx]
theorem uX(M:List (List Rat))(a c i:Nat):(dx M a c i)[a]? =M[a]? :=by
 simp only[dx,List.getElem?_mapIdx]
 cases M[a]? <;>simp
theorem Ji(M:List (List Rat))(a c i j:Nat)(h:i<=j):(dx M a c i)[j]? =M[j]? :=by
 simp only[dx,List.getElem?_mapIdx]
 cases M[j]? with
 |none=>rfl
 |some r=>simp;omega
theorem Fy{a c:Nat}{r:List Rat}(h:M[i]? =some r)(OZ:i≠a):(dx M a c i).set i (r.mapIdx (oe (-(r.getD c 0)) (M.getD a [])))=dx M a c (i+1):=by
 apply bL;intro j;have hi:=(aE.1 h).1;by_cases PZ:i=j
 ·subst PZ;rw[aR (by rw[iU];exact hi)];simp[dx,List.getElem?_mapIdx,h,OZ]
 ·rw[aX PZ];simp only[dx,List.getElem?_mapIdx]
  have:(j<i)↔(j<i+1):=by omega
  simp[this]
theorem Fz(M:List (List Rat))(a c:Nat):dx M a c a=dx M a c (a+1):=by
 apply bL;intro j;simp only[dx,List.getElem?_mapIdx]
 have:(j<a∧j≠a)↔(j<a+1∧j≠a):=by omega
 simp[this]
def Ht(M:List (List Rat))(h:Nat):Prop:=∀r∈M,∀q∈r,rl q+1<=h
theorem Ht.mono{h':Nat}(H:Ht M h)(k:h<=h'):Ht M h':=fun r hr q hq=>aV (H r hr q hq) k
theorem Ht.at{r:List Rat}(H:Ht M h)(hi:M[i]? =some r):∀q∈r,rl q+1<=h:=H r (aD hi)
theorem Ht.swap{j:Nat}(H:Ht M h)(hi:i<M.length)(hj:j<M.length):Ht (ef [] M i j) h:=by
 intro r hr;have:r∈M:=by
  unfold ef at hr;rcases bA hr with h1|h1
  ·rcases bA h1 with h2|h2
   ·exact h2
   ·rw[h2,List.getD,aB hj];exact a9 hj
  ·rw[h1,List.getD,aB hi];exact a9 hi
 exact H r this
theorem GA:rl 1=1:=by decide
theorem aAN{q:Rat}(h:q≠0):rl (1 / q)<=rl q+1:=by
 have:=pc 1 h;rw[GA]at this;omega
theorem p9{r:List Rat}(H:∀q∈r,rl q+1<=h)(h2:2<=h)(c:Nat):rl (r.getD c 0)+1<=h:=by
 rw[List.getD]
 cases hc:r[c]? with
 |none=>simp;exact aV (by decide) h2
 |some q=>simp;exact H q (aD hc)
theorem EW{j:Nat}(hi:i<M.length)(hj:j<M.length):(ef [] M i j)[i]? =M[j]? :=by
 unfold ef;by_cases h:j=i
 ·subst h;rw[aR (by simpa using hi),List.getD,aB hi];rfl
 ·rw[aX h,aR hi,List.getD,aB hj];rfl
theorem B9{j c:Nat}(hi:i<M.length)(hj:j<M.length):cY (ef [] M i j) i c=cY M j c:=by
 simp only[cY,List.getD,EW hi hj]
def fq(n:Nat)(M:List (List Rat)):Prop:=∀r∈M,r.length=n
theorem fq.set{r:List Rat}(h:fq n M)(hr:r.length=n):fq n (M.set i r):=fun x hx=>by
 rcases bA hx with h1|h1
 ·exact h x h1
 ·rw[h1];exact hr
theorem fq.getD(h:fq n M)(hi:i<M.length):(M.getD i []).length=n:=by
 rw[List.getD,aB hi];exact h _ (a9 hi)
theorem fq.step{n c:Nat}{s:List (List Rat)×List Nat}(h:fq n s.1):fq n (dm s c).1:=by
 unfold dm;split
 ·rename_i PC;dsimp only
  split
  ·exact h
  ·rename_i hk;have hle:=B6 s.1 c (s.1.length-s.2.length) s.2.length;have Xr:jT s.1 c (s.1.length-s.2.length) s.2.length<s.1.length:=by omega
   dsimp only
   generalize jT s.1 c (s.1.length-s.2.length) s.2.length=k at*
   have h1:fq n (ef [] s.1 s.2.length k):=(h.set (h.getD Xr)).set (h.getD PC);have h2:fq n (scaled (ef [] s.1 s.2.length k) s.2.length c):=h1.set (by rw[aL];exact h1.getD (by rw[jg];exact PC));intro r hr;obtain⟨j,hj⟩:=aS hr;simp only[dx,List.getElem?_mapIdx,Option.map_eq_some_iff]at hj;obtain⟨r0,hr0,hj⟩:=hj;have h3:=h2 r0 (aD hr0);split at hj
   ·subst hj;rw[List.length_mapIdx];exact h3
   ·subst hj;exact h3
 ·exact h
end Go.Ex
namespace Go.Ex
open Go Go.Sx Go.Proofs
variable{qs':List Rat}{i:Nat}
structure nD(w:World)(S:Nat->Prop)(vm:Value)(rv:List Value)(n:Nat)(M:List (List Rat)):Prop where
 out:w.ownsRow 0 T.row 1 vm rv.length rv
 len:rv.length=M.length
 row:∀(i:Nat) v qs,rv[i]? =some v->M[i]? =some qs->∃css,w.ownsRow 0 T.eC 4 v n css.flatten∧css.length=n∧Fr w S css qs
 uF:∀(i j:Nat) a b g,rv[i]? =some a->rv[j]? =some b->a.ownBlock=some g->b.ownBlock=some g->i=j
 NT:∀v∈rv,∀g,v.ownBlock=some g->vm.ownBlock≠some g
def Mb(vm:Value)(rv:List Value)(g:Nat):Prop:=vm.ownBlock=some g∨∃v∈rv,v.ownBlock=some g
structure Kept(w w2:World)(X:Nat->Prop):Prop where
 os:w2.os=w.os
 tape:w2.tape=w.tape
 output:w2.output=w.output
 size:w.heap.size<=w2.heap.size
 block:∀k,k<w.heap.size->¬X k->w2.heap[k]? =w.heap[k]?
section
variable{S S' X:Nat->Prop}{H:Hp}{nx n:Nat}{iv iv':Iv}{B:Nat}{w w' w2 w3:World}{O:Nat->Sx.eE}{vm:Value}{rv:List Value}{M:List (List Rat)}
theorem nD.cJ(h:nD w S vm rv n M)(hk:∀g,S g∨Mb vm rv g->w2.heap[g]? =w.heap[g]?):nD w2 S vm rv n M:=by
 refine⟨ownsRow.cJ h.out fun g hg=>hk g (.inr (.inl hg)),h.len,fun i v qs h1 h2=>?_,h.uF,h.NT⟩;obtain⟨css,h3,h4,h5⟩:=h.row i v qs h1 h2;exact⟨css,ownsRow.cJ h3 fun g hg=>hk g (.inr (.inr ⟨v,aD h1,hg⟩)),h4,h5.cJ fun g hg=>hk g (.inl hg)⟩
theorem nD.cL(h:nD w S vm rv n M)(hk:∀g,S g->S' g):nD w S' vm rv n M:=
 ⟨h.out,h.len,fun i v qs h1 h2=>(h.row i v qs h1 h2).imp fun _ h=>⟨h.1,h.2.1,h.2.2.cL hk⟩,h.uF,h.NT⟩
theorem nD.low(h:nD w S vm rv n M):∀g,Mb vm rv g->g<w.heap.size:=fun g hg=>by
 rcases hg with hg|⟨v,hv,hg⟩
 ·exact(ownsRow.low h.out g hg).2
 ·obtain⟨i,hi⟩:=aS hv;have hl:=(aE.1 hi).1;obtain⟨css,h1,_⟩:=h.row i v _ hi (aB (by rw[<-h.len];exact hl));exact(ownsRow.low h1 g hg).2
theorem nD.setRow(h:nD w S vm rv n M)(hS:Old S w)(Rp:∀g,S g->¬Mb vm rv g){v:Value}(hv:rv[i]? =some v)(hg:w.grownBy w2 v.ownBlock)(hSS:∀g,S g->S' g)
  (OX:∃css,w2.ownsRow 0 T.eC 4 v n css.flatten∧css.length=n∧Fr w2 S' css qs'):nD w2 S' vm rv n (M.set i qs'):=by
 have Ol:=h.low;have Qw:∀g,g<w.heap.size->v.ownBlock≠some g->w2.heap[g]? =w.heap[g]? :=fun g h1 h2=>hg.block g h1 (Ne.symm h2);refine⟨ownsRow.cJ h.out fun g YF=>Qw g (Ol g (.inl YF)) (fun e=>h.NT v (aD hv) g e YF),by rw[h.len];simp,fun j u qs h1 h2=>?_,h.uF,h.NT⟩;by_cases PZ:i=j
 ·subst PZ;rw[hv]at h1;injection h1 with h1;subst h1;have hl:=(aE.1 hv).1;rw[aR (by rw[<-h.len];exact hl)]at h2;injection h2 with h2;subst h2;exact OX
 ·rw[aX PZ]at h2;obtain⟨css,h3,h4,h5⟩:=h.row j u qs h1 h2;refine⟨css,ownsRow.cJ h3 fun g hgu=>Qw g (ownsRow.low h3 g hgu).2 (fun e=>PZ (h.uF i j v u g hv h1 e hgu)),h4,(h5.cJ fun g hgs=>?_).cL hSS⟩;exact Qw g (hS g hgs) fun e=>Rp g hgs (.inr ⟨v,aD hv,e⟩)
theorem nD.swap(h:nD w S vm rv n M)(Rp:∀g,S g->¬Mb vm rv g){j:Nat}{a b:Value}(hi:rv[i]? =some a)(hj:rv[j]? =some b)(Pn:w2.ownsRow 0 T.row 1 vm rv.length ((rv.set i b).set j a))(Qw:∀g,S g∨Mb vm rv g->vm.ownBlock≠some g->w2.heap[g]? =w.heap[g]?):
  nD w2 S vm ((rv.set i b).set j a) n (ef [] M i j):=by
 have UB:=(aE.1 hi).1;have Sl:=(aE.1 hj).1;have Qx:M.getD i []=M[i]'(by rw[<-h.len];exact UB):=by rw[List.getD,aB (by rw[<-h.len];exact UB)];rfl
 have hmj:M.getD j []=M[j]'(by rw[<-h.len];exact Sl):=by rw[List.getD,aB (by rw[<-h.len];exact Sl)];rfl
 have key:∀k v qs,((rv.set i b).set j a)[k]? =some v->(ef [] M i j)[k]? =some qs->∃k',rv[k']? =some v∧M[k']? =some qs∧k'=(if k=j then i else if k=i then j else k):=by
  intro k v qs h1 h2;unfold ef at h2;rw[Qx,hmj]at h2;by_cases UL:j=k
  ·subst UL;rw[aR (by simp;exact Sl)]at h1;rw[aR (by simp;rw[<-h.len];exact Sl)]at h2;injection h1 with h1;injection h2 with h2;subst h1 h2;exact⟨i,hi,aB _,by simp⟩
  ·rw[aX UL]at h1 h2;by_cases Wk:i=k
   ·subst Wk;rw[aR UB]at h1;rw[aR (by rw[<-h.len];exact UB)]at h2;injection h1 with h1;injection h2 with h2;subst h1 h2;exact⟨j,hj,aB _,by rw[aK (Ne.symm UL),if_pos rfl]⟩
   ·rw[aX Wk]at h1 h2;exact⟨k,h1,h2,by rw[aK (Ne.symm UL),aK (Ne.symm Wk)]⟩
 have hlen:((rv.set i b).set j a).length=rv.length:=by simp
 have YO:(ef [] M i j).length=rv.length:=by rw[jg,h.len]
 have keyv:∀k v,((rv.set i b).set j a)[k]? =some v->∃k',rv[k']? =some v∧k'=(if k=j then i else if k=i then j else k):=fun k v h1=>by
  have hl:=(aE.1 h1).1;obtain⟨k',h2,_,h3⟩:=key k v _ h1 (aB (by rw[YO,<-hlen];exact hl));exact⟨k',h2,h3⟩
 refine⟨by rw[hlen];exact Pn,by rw[hlen,YO],fun k v qs h1 h2=>?_,fun k1 k2 v1 v2 g h1 h2 e1 e2=>?_,fun v hv g hgv=>?_⟩
 ·obtain⟨k',h3,h4,_⟩:=key k v qs h1 h2;obtain⟨css,h5,h6,h7⟩:=h.row k' v qs h3 h4;have hvm:=h.NT v (aD h3);exact⟨css,ownsRow.cJ h5 fun g hgu=>Qw g (.inr (.inr ⟨v,aD h3,hgu⟩)) (hvm g hgu),h6,h7.cJ fun g hgs=>Qw g (.inl hgs) fun e=>Rp g hgs (.inl e)⟩
 ·obtain⟨k3,h3,h4⟩:=keyv k1 v1 h1;obtain⟨k5,h5,h6⟩:=keyv k2 v2 h2;have:=h.uF k3 k5 v1 v2 g h3 h5 e1 e2;split at h4<;>split at h6<;>(try split at h4)<;>(try split at h6)<;>omega
 ·obtain⟨k,hk⟩:=aS hv;obtain⟨k',h3,_⟩:=keyv k v hk;exact h.NT v (aD h3) g hgv
theorem Mb.swap{j:Nat}{a b:Value}(hi:rv[i]? =some a)(hj:rv[j]? =some b){g:Nat}:Mb vm ((rv.set i b).set j a) g↔Mb vm rv g:=by
 have UB:=(aE.1 hi).1;have Sl:=(aE.1 hj).1;unfold Mb;refine or_congr Iff.rfl ⟨fun ⟨v,hv,h⟩=>⟨v,?_,h⟩,fun⟨v,hv,h⟩=>⟨v,?_,h⟩⟩
 ·rcases bA hv with h1|h1
  ·rcases bA h1 with h2|h2
   ·exact h2
   ·rw[h2];exact aD hj
  ·rw[h1];exact aD hi
 ·obtain⟨k,hk⟩:=aS hv;by_cases UL:k=j
  ·subst UL;rw[hj]at hk;injection hk with hk;subst hk;by_cases hik:i=k
   ·subst hik;rw[hi]at hj;injection hj with hj;subst hj;exact aD (i:=i) (by rw[aR (by simp;exact UB)])
   ·exact aD (i:=i) (by rw[aX (Ne.symm hik),aR UB])
  ·by_cases Wk:k=i
   ·subst Wk;rw[hi]at hk;injection hk with hk;subst hk;exact aD (i:=j) (by rw[aR (by simp;exact Sl)])
   ·exact aD (i:=k) (by rw[aX (Ne.symm UL),aX (Ne.symm Wk)];exact hk)
end
end Go.Ex
namespace Go.Sx
open Go Go.Ex Go.Proofs
variable{O:Nat->Sx.eE}
theorem Rel.pE{H:Hp}{nx:Nat}{iv:Iv}{B:Nat}{w w' w2:World}{row:Option Nat}(r:Rel H nx iv B w O w')(OZ:∀g,row=some g->∀id b,dM H id=some b->(O id).nil=false->(O id).g≠g)(h:w'.grownBy w2 row):Rel H nx ((w'.heap.size,w2.heap.size)::iv) B w2 O w2:=
 r.HQ h.size (fun id b hb hn=>h.block _ (r.low id b hb hn).2 fun e=>OZ _ e.symm id b hb hn rfl) fun lo hi hm=>by
  rcases List.mem_cons.1 hm with e|hm
  ·injection e with e1 e2;subst e1 e2;exact⟨Nat.le_refl _,fun id b hb hn=>by have:=(r.low id b hb hn).2;omega⟩
  ·exact⟨by have:=r.so lo hi hm;have:=r.size;have:=h.size;omega,fun id b hb hn=>r.lk lo hi hm id b hb hn⟩
end Go.Sx
namespace Go.Ex
open Go Go.Sx Go.Proofs
end Go.Ex
namespace Go.Ex
open Go Go.Sx Go.Proofs
end Go.Ex
namespace Go.Sx
open Go Go.Ex Go.Proofs
variable{O:Nat->Sx.eE}
theorem Sub.nil{B nx:Nat}{l:Env}{H:Hp}{iv:Iv}{w w':World}{t:BT}(u e sz:Nat)(h9:gF l u=some (sV none 0 0))(Sn:jw nx l)(r:Rel H nx iv B w O w')
  (h:∀ρ1,Rel ((nx,.vec e sz [])::H) (nx+1) iv B w ρ1 w'->Sx.Sub B ((u,.o (.w nx 0))::l) (nx+1) ρ1 w' t):Sx.Sub B l nx O w' t:=by
 have r1:=r.push (.vec e sz []) ⟨0,0,true⟩ (w2:=w') rfl rfl rfl (Nat.le_refl _) (fun _ _=>rfl) (fun h=>by cases h) (.inl ⟨rfl,rfl⟩) trivial;obtain⟨ρ',h1,h2⟩:=h _ r1;refine⟨ρ',h1,fun x v hv=>?_⟩;obtain⟨h3,v0,h4,h5⟩:=h2 x v hv;refine⟨h3,?_⟩;rw[fK]at h4;split at h4
 ·rename_i e;subst e;injection h4 with h4;subst h4;refine⟨_,h9,?_⟩;rw[<-h5];simp[SV.den,At.den,fZ]
 ·refine⟨v0,h4,?_⟩;rw[<-h5];exact SV.kr (fun id Pk=>iQ id Pk) (Sn.get _ _ h4)
end Go.Sx
namespace Go.Ex
open Go Go.Sx Go.Proofs
variable{M:List (List Rat)}{qs:List Rat}{rv:List Value}{k n:Nat}{S:Nat->Prop}{am:Option Addr}{v:Value}{w:World}
structure aC2(w:World)(S:Nat->Prop)(rv:List Value)(n:Nat)(M:List (List Rat))(gm k c g ck:Nat)(q:Rat)(d1:Bool)(e1:Option Addr)(m1 k1:Nat)(d2:Bool)(e2:Option Addr)(m2 k2:Nat):Prop where
 rv:rv[k]? =some (.slice (some ⟨g,0,none⟩) n ck)
 at_:cY M k c=q
 DA:c9 w S (.agg #[.bool d1,.slice e1 m1 k1,.bool d2,.slice e2 m2 k2]) q
 outer:w.cell? (Addr.add ⟨gm,0,none⟩ (k*1))=some (.slice (some ⟨g,0,none⟩) n ck)
 cells:∀j u,[Value.bool d1,.slice e1 m1 k1,.bool d2,.slice e2 m2 k2][j]? =some u->w.cell? ((Addr.add ⟨g,0,none⟩ (c*4)).add j)=some u
theorem nD.outer{R cm:Nat}(h:nD w S (.slice am R cm) rv n M)(hk:rv[k]? =some v):
  ∃gm,am=some ⟨gm,0,none⟩∧w.cell? (Addr.add ⟨gm,0,none⟩ (k*1))=some v:=by
 rcases h.out.2 with⟨h1,h0⟩|⟨gm,cap,cur,e,_⟩
 ·have:=(aE.1 hk).1;omega
 ·injection e with e1 e2 e3;refine⟨gm,e1,?_⟩;have:=h.out.cells (g:=gm) (by rw[e1];rfl) k v hk;rw[aY];exact this
theorem nD.elem{R cm:Nat}(h:nD w S (.slice am R cm) rv n M){c:Nat}(hk:k<rv.length)(hc:c<n):
  ∃gm g ck q d1 e1 m1 k1 d2 e2 m2 k2,am=some ⟨gm,0,none⟩∧aC2 w S rv n M gm k c g ck q d1 e1 m1 k1 d2 e2 m2 k2:=by
 obtain⟨v,hv⟩:∃v,rv[k]? =some v:=⟨_,aB hk⟩
 obtain⟨qs,hqs⟩:∃qs,M[k]? =some qs:=⟨_,aB (by rw[<-h.len];exact hk)⟩
 obtain⟨css,OX,QB,QF⟩:=h.row k v qs hv hqs;obtain⟨a,ck,rfl,_⟩:=iX OX;obtain⟨cs,Ox⟩:∃cs,css[c]? =some cs:=⟨_,aB (by omega)⟩
 obtain⟨q,hq⟩:∃q,qs[c]? =some q:=⟨_,aB (by rw[<-QF.1];omega)⟩
 obtain⟨g,rfl,PK⟩:=DQ OX QF Ox;obtain⟨d1,e1,m1,k1,d2,e2,m2,k2,rfl,hF⟩:=QF.2 c cs q Ox hq;obtain⟨gm,rfl,ho⟩:=h.outer hv;exact⟨gm,g,ck,q,d1,e1,m1,k1,d2,e2,m2,k2,rfl,hv,by simp[cY,List.getD,hqs,hq],hF,ho,PK⟩
theorem G0{α:Type}{xs:List α}{j:Nat}{v:α}(h:j<xs.length):xs.take (j*1)++[v]++xs.drop (j*1+1)=xs.set j v:=by
 rw[aY,List.set_eq_take_append_cons_drop,if_pos h];simp
theorem nD.aDu{vm:Value}(h:nD w S vm rv n M)(hv:rv[k]? =some v)(hq:M[k]? =some qs)(hn:n<=maxLen):
  ie w (fun g=>v.ownBlock=some g) S v qs∧qs.length=n:=by
 obtain⟨css,h1,h2,h3⟩:=h.row k v qs hv hq;have hl:qs.length=n:=by rw[<-h3.1,h2]
 refine⟨⟨css,?_,h3⟩,hl⟩;rw[hl];rcases h1.2 with⟨rfl,rfl⟩|⟨g,cap,cur,rfl,hb,hc,Vo,Qb,Oo,R9⟩
 ·refine⟨hn,h1.1,h3.one,none,0,rfl,Nat.le_refl _,fun j u hu=>?_⟩;have:=h1.1;rw[Nat.zero_mul]at this;rw[List.eq_nil_of_length_eq_zero this]at hu
  cases hu
 ·refine⟨hn,h1.1,h3.one,_,cap,rfl,Vo,fun j u hu=>⟨_,rfl,rfl,?_⟩⟩;exact h1.cells (g:=g) rfl j u hu
end Go.Ex
namespace Go.Ex
open Go Go.Sx Go.Proofs
variable{x:Int×Int}{xs:List (Int×Int)}{M:List (List (Int×Int))}{A:List (List Rat)}{ps pv:List Nat}{qs:List Rat}{cs:List Value}{id:Nat}{C S:Nat->Prop}{a:Option Addr}{q:Rat}{v:Value}{w w0:World}
def nT(w:World)(S:Nat->Prop)(v:Value)(n:Nat)(qs:List Rat):Prop:=∃css,w.ownsRow 0 T.eC 4 v n css.flatten∧css.length=n∧Fr w S css qs
section
variable{S S' C:Nat->Prop}{H:Hp}{nx n:Nat}{iv iv':Iv}{B:Nat}{w w' w2:World}{O:Nat->Sx.eE}{v:Value}{qs:List Rat}
theorem nT.cJ(h:nT w S v n qs)(hk:∀g,S g∨v.ownBlock=some g->w2.heap[g]? =w.heap[g]?):nT w2 S v n qs:=by
 obtain⟨css,h1,h2,h3⟩:=h;exact⟨css,ownsRow.cJ h1 fun g hg=>hk g (.inr hg),h2,h3.cJ fun g hg=>hk g (.inl hg)⟩
theorem nT.cL(h:nT w S v n qs)(hk:∀g,S g->S' g):nT w S' v n qs:=by
 obtain⟨css,h1,h2,h3⟩:=h;exact⟨css,h1,h2,h3.cL hk⟩
theorem nT.len(h:nT w S v n qs):qs.length=n:=by
 obtain⟨css,h1,h2,h3⟩:=h;rw[<-h3.1,h2]
theorem nT.form(h:nT w S v n qs):∃a c,v= .slice a n c∧n<=c:=by
 obtain⟨css,h1,h2,h3⟩:=h;exact iX h1
theorem nT.le(h:nT w S v n qs):n<=maxLen:=by
 obtain⟨css,h1,h2,h3⟩:=h;rcases h1.2 with⟨_,h0⟩|⟨_,_,_,_,_,_,h1,h2,_⟩
 ·omega
 ·omega
theorem nT.read(h:nT w S v n qs):ie w (fun g=>v.ownBlock=some g) S v qs:=by
 have hl:=h.len;have hn:=h.le;obtain⟨css,h1,h2,h3⟩:=h;refine⟨css,?_,h3⟩;rw[hl];rcases h1.2 with⟨rfl,rfl⟩|⟨g,cap,cur,rfl,hb,hc,Vo,Qb,Oo,R9⟩
 ·refine⟨hn,h1.1,h3.one,none,0,rfl,Nat.le_refl _,fun j u hu=>?_⟩;have:=h1.1;rw[Nat.zero_mul]at this;rw[List.eq_nil_of_length_eq_zero this]at hu
  cases hu
 ·refine⟨hn,h1.1,h3.one,_,cap,rfl,Vo,fun j u hu=>⟨_,rfl,rfl,?_⟩⟩;exact h1.cells (g:=g) rfl j u hu
structure Gv(w:World)(S:Nat->Prop)(B:Nat)(iv:Iv)(v:Value)(n:Nat)(qs:List Rat):Prop where
 row:nT w (fun g=>Cv S B iv g∧v.ownBlock≠some g) v n qs
 new:∀g,v.ownBlock=some g->Cv FF B iv g
theorem Gv.dK(h:Gv w2 FF w'.heap.size [(w'.heap.size,w2.heap.size)] v n qs)(hB:B<=w'.heap.size)(hm:(w'.heap.size,w2.heap.size)∈iv):Gv w2 S B iv v n qs:=by
 have key:∀g {X:Nat->Prop},Cv FF w'.heap.size [(w'.heap.size,w2.heap.size)] g->Cv X B iv g:=fun g X hg=>by
  rcases hg with hg|⟨h1,lo,hi,h2,h3,h4⟩
  ·exact hg.elim
  ·simp at h2;obtain⟨rfl,rfl⟩:=h2;exact .inr ⟨by omega,_,_,hm,h3,h4⟩
 exact⟨h.row.cL fun g hg=>⟨key g hg.1,hg.2⟩,fun g hg=>key g (h.new g hg)⟩
theorem Gv.read(h:Gv w S B iv v n qs):ie w (Cv S B iv) (Cv S B iv) v qs:=
 h.row.read.cL (fun g hg=>(h.new g hg).elim (fun h=>h.elim) .inr) fun _ hg=>hg.1
def EA(w:World)(S:Nat->Prop)(cs:List Value)(x:Int×Int):Prop:=∃b a n c b2 a2 n2 c2,cs=[.bool b,.slice a n c,.bool b2,.slice a2 n2 c2]∧jM w S (.agg #[.bool b,.slice a n c,.bool b2,.slice a2 n2 c2]) x.1 x.2
theorem EA.cJ(h:EA w S cs x)(hk:∀g,S g->w2.heap[g]? =w.heap[g]?):EA w2 S cs x:=by
 obtain⟨b,a,n,c,b2,a2,n2,c2,h1,h2⟩:=h;exact⟨b,a,n,c,b2,a2,n2,c2,h1,h2.cJ hk⟩
theorem EA.cL(h:EA w S cs x)(hk:∀g,S g->S' g):EA w S' cs x:=by
 obtain⟨b,a,n,c,b2,a2,n2,c2,h1,h2⟩:=h;exact⟨b,a,n,c,b2,a2,n2,c2,h1,h2.cL hk⟩
def dL{α:Type}(P:World->(Nat->Prop)->List Value->α->Prop)(w:World)(S:Nat->Prop)(v:Value)(xs:List α):Prop:=
 ∃css:List (List Value),jY w S 4 v css.flatten xs.length∧css.length=xs.length∧(∀cs∈css,cs.length=4)∧∀(j:Nat) cs x,css[j]? =some cs->xs[j]? =some x->P w S cs x
abbrev fp:=dL EA
theorem fp.cJ(h:fp w S v xs)(hk:∀g,S g->w2.heap[g]? =w.heap[g]?):fp w2 S v xs:=by
 obtain⟨css,h1,h2,h3,h4⟩:=h;exact⟨css,h1.cJ hk,h2,h3,fun j cs x k1 k2=>(h4 j cs x k1 k2).cJ hk⟩
theorem fp.cL(h:fp w S v xs)(hk:∀g,S g->S' g):fp w S' v xs:=by
 obtain⟨css,h1,h2,h3,h4⟩:=h;exact⟨css,h1.cL hk,h2,h3,fun j cs x k1 k2=>(h4 j cs x k1 k2).cL hk⟩
theorem dL.shape{α:Type}{P:World->(Nat->Prop)->List Value->α->Prop}{xs:List α}(h:dL P w S v xs):∃a c,v= .slice a xs.length c∧xs.length<=c∧xs.length<=maxLen:=by
 obtain⟨css,⟨h0,_,_,a,c,h1,h2,_⟩,_⟩:=h;exact⟨a,c,h1,h2,h0⟩
theorem dL.load{α:Type}{P:World->(Nat->Prop)->List Value->α->Prop}{xs:List α}{m c j:Nat}{x:α}(h:dL P w S (.slice a m c) xs)(hq:xs[j]? =some x):
  ∃ad cs,a=some ad∧P w S cs x∧cs.length=4∧∀k u,cs[k]? =some u->S ad.block∧w.cell? ((ad.add (j*4)).add k)=some u:=by
 obtain⟨css,⟨h0,h1,h2,a',c',e,h3,h4⟩,hl,Us,hf⟩:=h;injection e with e1 e2 e3;subst e1;obtain⟨cs,Ox⟩:∃cs,css[j]? =some cs:=⟨_,aB (by rw[hl];exact(aE.1 hq).1)⟩
 have hF:=hf j cs x Ox hq;have Tb:=Us cs (aD Ox);obtain⟨ad,k1,k2,k3⟩:=h4 (j*4+0) _ (flat_get Us Ox 0 _ (aB (show 0<cs.length by omega)));refine⟨ad,cs,k1,hF,Tb,fun k u hu=>?_⟩;obtain⟨ad2,m1,m2,m3⟩:=h4 (j*4+k) u (flat_get Us Ox k u hu);rw[k1]at m1;injection m1 with m1;subst m1;refine⟨m2,?_⟩;rw[<-m3];have:(ad.add (j*4)).add k=ad.add (j*4+k):=by
  unfold Addr.add;split<;>split<;>simp_all<;>omega
 rw[this]
def dA{α:Type}(P:World->(Nat->Prop)->Value->α->Prop)(w:World)(S:Nat->Prop)(v:Value)(M:List α):Prop:=
 ∃rv,jY w S 1 v rv M.length∧rv.length=M.length∧∀(i:Nat) u x,rv[i]? =some u->M[i]? =some x->P w S u x
theorem dA.shape{α:Type}{P:World->(Nat->Prop)->Value->α->Prop}{xs:List α}(h:dA P w S v xs):∃a c,v= .slice a xs.length c∧xs.length<=c∧xs.length<=maxLen:=by
 obtain⟨rv,⟨h0,_,_,a,c,h1,h2,_⟩,_⟩:=h;exact⟨a,c,h1,h2,h0⟩
theorem dA.load{α:Type}{P:World->(Nat->Prop)->Value->α->Prop}{xs:List α}{m c j:Nat}{x:α}(h:dA P w S (.slice a m c) xs)(hq:xs[j]? =some x):
  ∃ad u,a=some ad∧P w S u x∧S ad.block∧w.cell? (ad.add (j*1))=some u:=by
 obtain⟨rv,⟨h0,h1,h2,a',c',e,h3,h4⟩,hl,hf⟩:=h;injection e with e1 e2 e3;subst e1;obtain⟨u,hu⟩:∃u,rv[j]? =some u:=⟨_,aB (by rw[hl];exact(aE.1 hq).1)⟩
 obtain⟨ad,k1,k2,k3⟩:=h4 j u hu;exact⟨ad,u,k1,hf j u x hu hq,k2,by rw[aY];exact k3⟩
abbrev fC:=dA fp
theorem fC.cJ(h:fC w S v M)(hk:∀g,S g->w2.heap[g]? =w.heap[g]?):fC w2 S v M:=by
 obtain⟨rv,h1,h2,h3⟩:=h;exact⟨rv,h1.cJ hk,h2,fun i u x k1 k2=>fp.cJ (h3 i u x k1 k2) hk⟩
theorem fC.cL(h:fC w S v M)(hk:∀g,S g->S' g):fC w S' v M:=by
 obtain⟨rv,h1,h2,h3⟩:=h;exact⟨rv,h1.cL hk,h2,fun i u x k1 k2=>fp.cL (h3 i u x k1 k2) hk⟩
abbrev xX:=dA (fun w S v qs=>ie w S S v qs)
theorem xX.cJ{M:List (List Rat)}(h:xX w S v M)(hk:∀g,S g->w2.heap[g]? =w.heap[g]?):xX w2 S v M:=by
 obtain⟨rv,h1,h2,h3⟩:=h;exact⟨rv,h1.cJ hk,h2,fun i u x k1 k2=>(h3 i u x k1 k2).cJ fun g hg=>hk g (hg.elim id id)⟩
theorem xX.cL{M:List (List Rat)}(h:xX w S v M)(hk:∀g,S g->S' g):xX w S' v M:=by
 obtain⟨rv,h1,h2,h3⟩:=h;exact⟨rv,h1.cL hk,h2,fun i u x k1 k2=>(h3 i u x k1 k2).cL hk hk⟩
end
section
variable{S S':Nat->Prop}{H:Hp}{nx:Nat}{iv iv':Iv}{B:Nat}{w w' w2:World}{O:Nat->Sx.eE}{v:Value}{xs:List (Int×Int)}
theorem fp.rel(h:fp w (Cv S B iv) v xs)(r:Rel H nx iv B w O w')(hS:∀g,S g->g<B):fp w' (Cv S B iv) v xs:=fp.cJ h fun _ hg=>Rel.same r hS hg
theorem fp.cK(h:fp w (Cv S B iv) v xs)(r:Rel H nx iv B w O w')(hS:∀g,S g->g<B)(he:Ext w' w2)(hm:∀p,p∈iv->p∈iv'):fp w2 (Cv S B iv') v xs:=
 fp.cL (fp.cJ (fp.rel h r hS) fun g hg=>he.block g (Rel.old r hS g hg)) fun _ hg=>hg.mono hm
theorem fp.arg(h:fp w S v xs)(iv:Iv):fp w (Cv S w.heap.size iv) v xs:=fp.cL h fun _ h=>.inl h
end
section
variable{S S':Nat->Prop}{H:Hp}{nx:Nat}{iv iv':Iv}{B:Nat}{w w' w2:World}{O:Nat->Sx.eE}{v:Value}{M:List (List (Int×Int))}
theorem fC.rel(h:fC w (Cv S B iv) v M)(r:Rel H nx iv B w O w')(hS:∀g,S g->g<B):fC w' (Cv S B iv) v M:=fC.cJ h fun _ hg=>Rel.same r hS hg
theorem fC.cK(h:fC w (Cv S B iv) v M)(r:Rel H nx iv B w O w')(hS:∀g,S g->g<B)(he:Ext w' w2)(hm:∀p,p∈iv->p∈iv'):fC w2 (Cv S B iv') v M:=
 fC.cL (fC.cJ (fC.rel h r hS) fun g hg=>he.block g (Rel.old r hS g hg)) fun _ hg=>hg.mono hm
theorem fC.arg(h:fC w S v M)(iv:Iv):fC w (Cv S w.heap.size iv) v M:=fC.cL h fun _ h=>.inl h
end
section
variable{S S':Nat->Prop}{H:Hp}{nx:Nat}{iv iv':Iv}{B:Nat}{w w' w2:World}{O:Nat->Sx.eE}{v:Value}{M:List (List Rat)}
end
def fg{α:Type}:List (List α)->Nat
 |[]=>0
 |r::_=>r.length
def vE{α:Type}(M:List (List α)):Nat:=if ∀r∈M,r.length=fg M then(if 60<M.length∨60<fg M then 8 else 0)else 11
theorem dA.xn(h:fp w S v xs):∃a c,v= .slice a xs.length c:=by
 obtain⟨a,c,h,_⟩:=dL.shape h;exact⟨a,c,h⟩
theorem yo(hS:Old S w)(h:fC w S v M):eA PG N.uB #[v] w (eL w fun v' _=>v'= .int .i64 (fg M)):=by
 have hn:=h;obtain⟨a,c,rfl,hc,hm⟩:=dA.shape h;refine yi (by simp) ?_
 cases M with
 |nil=>
  conv=>whnf
  intro ρe we re;exact⟨_,rfl,re.cS,rfl⟩
 |cons r t=>
  obtain⟨ad,u,rfl,hu,h1,h2⟩:=dA.load h (j:=0) (x:=r) rfl;obtain⟨a2,c2,rfl⟩:=dA.xn hu;conv=>whnf
  refine⟨ad,rfl,⟨by omega,by simp⟩,?_⟩;conv=>whnf
  refine⟨.slice a2 r.length c2,fun O w' r'=>by simpa using k7 hS dg.refl r' h1 (by simpa using h2),?_⟩;conv=>whnf
  intro ρe we re;exact⟨_,rfl,re.cS,rfl⟩
theorem Dr(hS:Old S w)(h:fC w S v M):eA PG N.nu #[v] w (eL w fun v' _=>v'= .int .i64 (vE M)):=by
 replace h:=fC.arg h [];obtain⟨a,c,rfl,hc,hm⟩:=dA.shape h;unfold maxLen at hm;refine sP (by simp) ?_;conv=>whnf
 refine⟨Nat×Iv×World,fun z=>⟨[(0,sV a M.length c),(5,sV a M.length c),(6,iZ M.length),(7,iZ z.1)],[],0,z.2.1,z.2.2⟩,fun z=>M.length-z.1,
  fun z=>z.1<=M.length∧dg w.heap.size w z.2.2∧fC z.2.2 (Cv S w.heap.size z.2.1) (.slice a M.length c) M∧∀(j:Nat) r,j<z.1->M[j]? =some r->r.length=fg M,?_,?_⟩
 ·intro O w' r;exact⟨(0,[],w'),⟨by simp,r.cS,fC.rel h r hS,by simp⟩,Sub.gn [] r⟩
 clear h;rintro⟨i,iv,w1⟩ ⟨hi,hw,hM,OX⟩;dsimp only at hi hw hM OX ⊢;conv=>whnf
 refine dG.mk ?_ ?_<;>intro h
 ·have h:i<M.length:=by simpa using h
  obtain⟨r,hr⟩:∃r,M[i]? =some r:=⟨_,aB h⟩
  obtain⟨ad,u,rfl,hu,h1,h2⟩:=dA.load hM hr;obtain⟨a2,c2,rfl⟩:=dA.xn hu;conv=>whnf
  refine⟨ad,rfl,by omega,?_⟩;conv=>whnf
  refine⟨.slice a2 r.length c2,fun O w' r'=>?_,?_⟩
  ·have h3:=Rel.same r' hS h1;rw[aF,cM (w:=w1) (w2:=w') (by rw[dD];exact h3)];exact h2
  conv=>whnf
  refine cH (cP (Φ:=fun _ _ v _=>v= .int .i64 (fg M)) (fun O w' r=>yo (Rel.old r hS) (fC.rel hM r hS)) ?_);rintro O wa v1 wb r' he hb rfl;replace hw:=hw.tr hb;replace hM:=fC.cK (iv':=(wa.heap.size,wb.heap.size)::iv) hM r' hS he fun x hx=>aC _ hx;clear r' he hb;generalize (wa.heap.size,wb.heap.size)::iv=Oa at*
  conv=>whnf
  refine dG.mk ?_ ?_<;>intro OZ
  ·have OZ:r.length≠fg M:=fun e=>by rw[e]at OZ;simp at OZ
   conv=>whnf
   intro ρe we re;refine⟨_,rfl,hw.tr re.cS,?_⟩;unfold vE;rw[aK (fun Qi=>OZ (Qi r (aD hr)))];rfl
  ·have heq:r.length=fg M:=by
    have h4:((r.length:Int)==(fg M:Int))=true:=by simpa using OZ
    have:=eq_of_beq h4;omega
   conv=>whnf
   refine⟨((i+1:Nat):Int),wo,?_⟩;conv=>whnf
   intro ρ3 w3 r3;refine⟨(i+1,Oa,w3),⟨h,hw.tr r3.cS,fC.rel hM r3 hS,fun j r' hj hr'=>?_⟩,Sub.gn [] r3,by dsimp only;omega⟩;by_cases Pq:j=i
   ·subst Pq;rw[hr]at hr';injection hr' with hr';rw[<-hr'];exact heq
   ·exact OX j r' (by dsimp only at hj;omega) hr'
 ·have h:i=M.length:=by
   have:¬i<M.length:=by simpa using h
   omega
  have Qi:∀r∈M,r.length=fg M:=fun r hr=>by
   obtain⟨j,hj⟩:=aS hr;exact OX j r (by rw[h];exact(aE.1 hj).1) hj
  have Om:vE M=if 60<M.length∨60<fg M then 8 else 0:=by unfold vE;rw[if_pos Qi]
  conv=>whnf
  refine dG.mk ?_ ?_<;>intro hl
  ·have hl:60<M.length:=by
    have:(M.length:Int)>60:=aH hl;omega
   conv=>whnf
   exact rtn hw fun ρe we re=>by rw[Om,if_pos (.inl hl)];rfl
  ·have hl:¬60<M.length:=by
    have:¬(M.length:Int)>60:=aG hl;omega
   conv=>whnf
   refine cH (cP (Φ:=fun _ _ v _=>v= .int .i64 (fg M)) (fun O w' r=>yo (Rel.old r hS) (fC.rel hM r hS)) ?_);rintro O wa v1 wb r' he hb rfl;replace hw:=hw.tr hb;clear r' he hb;conv=>whnf
   refine dG.mk ?_ ?_<;>intro PU
   ·have PU:60<fg M:=by
     have:(fg M:Int)>60:=aH PU;omega
    conv=>whnf
    exact rtn hw fun ρe we re=>by rw[Om,if_pos (.inr PU)];rfl
   ·have PU:¬60<fg M:=by
     have:¬(fg M:Int)>60:=aG PU;omega
    conv=>whnf
    exact rtn hw fun ρe we re=>by rw[Om,aK (by omega)];rfl
def f0:List Value:=[.bool false,.slice none 0 0,.bool false,.slice none 0 0]
structure nL(w:World)(S:Nat->Prop)(n i:Nat)(css:List (List Value))(qs:List Rat):Prop where
 len:css.length=n
 four:∀cs∈css,cs.length=4
 one:∀cs∈css,∀u∈cs,u.oneCell'=true
 at_:∀(j:Nat) cs q,j<i->css[j]? =some cs->qs[j]? =some q->oD w S cs q
section
variable{S S':Nat->Prop}{H:Hp}{nx n i:Nat}{iv iv':Iv}{B:Nat}{w w1 w' w2:World}{O:Nat->Sx.eE}{css:List (List Value)}{qs:List Rat}
theorem nL.cJ(h:nL w S n i css qs)(hk:∀g,S g->w2.heap[g]? =w.heap[g]?):nL w2 S n i css qs:=⟨h.len,h.four,h.one,fun j cs q hj h1 h2=>(h.at_ j cs q hj h1 h2).cJ hk⟩
theorem nL.cL(h:nL w S n i css qs)(hk:∀g,S g->S' g):nL w S' n i css qs:=⟨h.len,h.four,h.one,fun j cs q hj h1 h2=>(h.at_ j cs q hj h1 h2).cL hk⟩
theorem nL.rel(h:nL w (Cv S B iv) n i css qs)(r:Rel H nx iv B w O w')(hS:∀g,S g->g<B):nL w' (Cv S B iv) n i css qs:=h.cJ fun _ hg=>Rel.same r hS hg
theorem nL.cK(h:nL w (Cv S B iv) n i css qs)(r:Rel H nx iv B w O w')(hS:∀g,S g->g<B)(he:Ext w' w2)(hm:∀p,p∈iv->p∈iv'):nL w2 (Cv S B iv') n i css qs:=
 ((h.rel r hS).cJ fun g hg=>he.block g (Rel.old r hS g hg)).cL fun _ hg=>hg.mono hm
theorem nL.start(w:World)(S:Nat->Prop)(n:Nat)(qs:List Rat):nL w S n 0 (List.replicate n f0) qs:=
 ⟨by simp,fun cs hc=>by rw[ah hc];rfl,fun cs hc u hu=>by rw[ah hc]at hu;simp[f0]at hu;rcases hu with rfl|rfl|rfl|rfl<;>rfl,fun j cs q hj=>by omega⟩
theorem nL.next{b b2:Bool}{a2:Option Addr}{m c m2 c2:Nat}(h:nL w S n i css qs)(hi:i<n)(hq:qs[i]? =some q)(hf:c9 w S (.agg #[.bool b,.slice a m c,.bool b2,.slice a2 m2 c2]) q):
  nL w S n (i+1) (css.set i [.bool b,.slice a m c,.bool b2,.slice a2 m2 c2]) qs:=by
 refine⟨by simp[h.len],fun cs hc=>?_,fun cs hc u hu=>?_,fun j cs p hj h1 h2=>?_⟩
 ·rcases bA hc with hc|rfl
  ·exact h.four cs hc
  ·rfl
 ·rcases bA hc with hc|rfl
  ·exact h.one cs hc u hu
  ·simp at hu;rcases hu with rfl|rfl|rfl|rfl<;>rfl
 ·by_cases PZ:i=j
  ·subst PZ;rw[aR (by rw[h.len];exact hi)]at h1;rw[hq]at h2;injection h1 with h1;injection h2 with h2;subst h1 h2;exact hf.four
  ·rw[aX PZ]at h1;exact h.at_ j cs p (by omega) h1 h2
theorem nL.flat(h:nL w S n i css qs):css.flatten.length=n*4:=by rw[eD h.four,h.len]
theorem nL.done(h:nL w1 (Cf w0 iv) n n css qs)(hl:qs.length=n)(hn:n<=maxLen)(r:Rel H nx iv w0.heap.size w1 O w')(hH:dM H id=some (.arr T.eC css.flatten))(On:(O id).nil=false):
  Gv w' FF w0.heap.size [(w0.heap.size,w'.heap.size)] (.slice (some ⟨(O id).g,0,none⟩) n n) n qs:=by
 have h2:=h.rel r (cG w0);have Ol:=r.low id _ hH On;refine⟨⟨css,⟨h.flat,.inr ⟨(O id).g,n,css.flatten.toArray,rfl,aO _,r.arr id _ _ hH,Nat.le_refl _,hn,by simpa using h.flat,?_⟩⟩,h.len,?_⟩,fun g hg=>?_⟩
 ·rw[<-h.flat];exact bH
 ·refine⟨by rw[h.len,hl],fun j cs q h3 h4=>?_⟩;refine(h2.at_ j cs q (by rw[<-hl];exact(aE.1 h4).1) h3 h4).cL fun g hg=>⟨?_,fun e=>?_⟩
  ·rcases hg with hg|⟨k1,lo,hi,k2,k3,k4⟩
   ·exact hg.elim
   ·exact .inr ⟨k1,_,_,bE.2 rfl,k1,by have:=r.so lo hi k2;have:=r.size;omega⟩
  ·injection e with e;exact Rel.not r (cG w0) hg id _ hH On e
 ·injection hg with hg;subst hg;exact .inr ⟨Ol.1,_,_,bE.2 rfl,Ol.1,Ol.2⟩
end
def sf(x:Int×Int):Rat:=ratio x.1 x.2
def Few(xs:List (Int×Int)):Prop:=∀x∈xs,ln x.1.natAbs<=10000000000∧ln x.2.natAbs<=10000000000
theorem aBO(hS:Old S w)(h:fp w S v xs)(hf:Few xs)(hn:xs.length<=1000000):
  eA PG N.xA #[v] w (eL w fun v' w2=>Gv w2 FF w.heap.size [(w.heap.size,w2.heap.size)] v' xs.length (xs.map sf)):=by
 replace h:=fp.arg h [];obtain⟨a,c,rfl,hc,-⟩:=dL.shape h;refine AW (by simp) ?_;conv=>whnf
 refine⟨xs.length,xs.length,rfl,rfl,Nat.le_refl _,by omega,by omega,?_⟩;conv=>whnf
 refine⟨Nat×List (List Value)×Iv×World,fun z=>⟨[(3,.o (.s 0 0 xs.length xs.length)),(9,sV a xs.length c),(10,iZ xs.length),(11,iZ z.1)],[(0,.arr T.eC z.2.1.flatten)],1,z.2.2.1,z.2.2.2⟩,fun z=>xs.length-z.1,
  fun z=>z.1<=xs.length∧dg w.heap.size w z.2.2.2∧fp z.2.2.2 (Cv S w.heap.size z.2.2.1) (.slice a xs.length c) xs∧nL z.2.2.2 (Cf w z.2.2.1) xs.length z.1 z.2.1 (xs.map sf),?_,?_⟩
 ·intro O w' r;exact⟨(0,List.replicate xs.length f0,[],w'),⟨by simp,r.cS,fp.rel h r hS,nL.start _ _ _ _⟩,Sub.gn [] r⟩
 clear h;rintro⟨i,css,iv,w1⟩ ⟨hi,hw,hX,hF⟩;dsimp only at hi hw hX hF ⊢;conv=>whnf
 refine dG.mk ?_ ?_<;>intro h
 ·have h:i<xs.length:=by simpa using h
  obtain⟨x,hx⟩:∃x,xs[i]? =some x:=⟨_,aB h⟩
  obtain⟨ad,cs,rfl,hR,-,hl⟩:=dL.load hX hx;obtain⟨b3,a3,n3,c3,b4,a4,n4,c4,rfl,hR⟩:=hR;obtain⟨f1,f2⟩:=hf x (aD hx);conv=>whnf
  refine⟨ad,rfl,by omega,?_⟩;conv=>whnf
  refine⟨[.bool b3,.slice a3 n3 c3,.bool b4,.slice a4 n4 c4],rfl,fun O w' r j u hu=>?_,?_⟩
  ·obtain⟨k1,k2⟩:=hl j u hu;have:=Rel.same r hS k1;rw[aF,cM (w:=w1) (w2:=w') (by rw[dD,dD];exact this)];exact k2
  conv=>whnf
  refine cH (cP (Φ:=fun _ w' v w2=>c9 w2 (Nf w' w2) v (sf x)) (fun O w' r=>kg (Rel.old r hS) (hR.rel r hS) (by omega) (by omega)) ?_);rintro O wa v1 wb r he hb hO;have hON:=hO.dK (S:=FF) r.cI (iv:=(wa.heap.size,wb.heap.size)::iv) aI;replace hF:=hF.cK (iv':=(wa.heap.size,wb.heap.size)::iv) r (cG w) he fun x hx=>aC _ hx;replace hX:=fp.cK (iv':=(wa.heap.size,wb.heap.size)::iv) hX r hS he fun x hx=>aC _ hx;replace hw:=hw.tr hb;clear r he hb hO hl hR;generalize (wa.heap.size,wb.heap.size)::iv=Oa at*
  obtain⟨b1,a1,n1,c1,b2,a2,n2,c2,rfl⟩:=hON.shape;have Oq:=hF.next h (q:=sf x) (by rw[aN,hx];rfl) hON
  conv=>whnf
  refine⟨by omega,?_⟩;conv=>whnf
  refine⟨by have:=hF.flat;omega,(css.set i [.bool b1,.slice a1 n1 c1,.bool b2,.slice a2 n2 c2]).flatten,?_,?_⟩
  ·have:=jt (cs:=[.bool b1,.slice a1 n1 c1,.bool b2,.slice a2 n2 c2]) hF.four (show i<css.length by rw[hF.len];exact h);rw[<-this];simp
  conv=>whnf
  refine⟨((i+1:Nat):Int),wo,?_⟩;conv=>whnf
  intro ρ3 w3 r3;exact⟨(i+1,css.set i [.bool b1,.slice a1 n1 c1,.bool b2,.slice a2 n2 c2],Oa,w3),⟨h,hw.tr r3.cS,fp.rel hX r3 hS,Oq.rel r3 (cG w)⟩,Sub.gn [] r3,by dsimp only;omega⟩
 ·have h:i=xs.length:=by
   have:¬i<xs.length:=by simpa using h
   omega
  subst h;conv=>whnf
  exact rtn hw fun ρe we re=>hF.done (by simp) (by unfold maxLen;omega) re (id:=0) rfl (re.nn 0 _ rfl (by intros;simp) (by simp))
structure jV(w:World)(S:Nat->Prop)(B:Nat)(iv:Iv)(rv:List Value)(n:Nat)(M:List (List Rat)):Prop where
 len:rv.length=M.length
 row:∀(i:Nat) v qs,rv[i]? =some v->M[i]? =some qs->nT w (fun g=>Cv S B iv g∧¬ ∃u∈rv,u.ownBlock=some g) v n qs
 uF:∀(i j:Nat) a b g,rv[i]? =some a->rv[j]? =some b->a.ownBlock=some g->b.ownBlock=some g->i=j
 new:∀v∈rv,∀g,v.ownBlock=some g->Cv FF B iv g
theorem dN(B:Nat):∀g,(fun _:Nat=>False) g->g<B:=fun _ h=>h.elim
theorem D3{B:Nat}{iv:Iv}{g:Nat}(h:Cv FF B iv g):Cv S B iv g:=h.elim (fun h=>h.elim) .inr
section
variable{S S':Nat->Prop}{H:Hp}{nx n i:Nat}{iv iv':Iv}{B:Nat}{w w1 w' w2:World}{O:Nat->Sx.eE}{rv:List Value}{M:List (List Rat)}
theorem jV.cJ(h:jV w S B iv rv n M)(hk:∀g,Cv S B iv g->w2.heap[g]? =w.heap[g]?):jV w2 S B iv rv n M:=
 ⟨h.len,fun i v qs h1 h2=>(h.row i v qs h1 h2).cJ fun g hg=>hk g (hg.elim (fun h=>h.1) fun hg=>D3 (h.new v (aD h1) g hg)),h.uF,h.new⟩
theorem jV.rel(h:jV w S B iv rv n M)(r:Rel H nx iv B w O w')(hS:∀g,S g->g<B):jV w' S B iv rv n M:=h.cJ fun _ hg=>Rel.same r hS hg
theorem jV.cK(h:jV w S B iv rv n M)(r:Rel H nx iv B w O w')(hS:∀g,S g->g<B)(he:Ext w' w2)(hm:∀p,p∈iv->p∈iv'):jV w2 S B iv' rv n M:=
 have h2:=(h.rel r hS).cJ fun g hg=>he.block g (Rel.old r hS g hg)
 ⟨h2.len,fun i v qs k1 k2=>(h2.row i v qs k1 k2).cL fun _ hg=>⟨hg.1.mono hm,hg.2⟩,h2.uF,fun v hv g hg=>(h2.new v hv g hg).mono hm⟩
theorem jV.nil(w:World)(S:Nat->Prop)(B:Nat)(iv:Iv)(n:Nat):jV w S B iv [] n []:=⟨rfl,by simp,by simp,by simp⟩
theorem jV.snoc(h:jV w S B iv rv n M)(r:Rel H nx iv B w O w')(hS:∀g,S g->g<B)(he:Ext w' w2)(hv:nT w2 (fun g=>Cv S B ((w'.heap.size,w2.heap.size)::iv) g∧v.ownBlock≠some g∧¬ ∃u∈rv,u.ownBlock=some g) v n qs)
  (Qj:∀g,v.ownBlock=some g->w'.heap.size<=g∧g<w2.heap.size):jV w2 S B ((w'.heap.size,w2.heap.size)::iv) (rv++[v]) n (M++[qs]):=by
 have hold:∀g,Cv S B iv g->g<w'.heap.size:=Rel.old r hS;have h2:=h.cK (iv':=(w'.heap.size,w2.heap.size)::iv) r hS he fun x hx=>aC _ hx;have YP:∀g,Cv S B iv g->v.ownBlock≠some g:=fun g hg e=>by have:=hold g hg;have:=(Qj g e).1;omega
 refine⟨by simp[h.len],fun i u ps h3 h4=>?_,fun i j a b g h3 h4 h5 h6=>?_,fun u hu g hg=>?_⟩
 ·rcases aP i rv.length with hi|hi
  ·rw[aJ hi]at h3;rw[aJ (by rw[<-h.len];exact hi)]at h4;have h5:=((h.rel r hS).cJ (w2:=w2) fun g hg=>he.block g (hold g hg)).row i u ps h3 h4;refine h5.cL fun g hg=>⟨hg.1.mono fun x hx=>aC _ hx,fun⟨x,hx,e⟩=>?_⟩
   rcases List.mem_append.1 hx with hx|hx
   ·exact hg.2 ⟨x,hx,e⟩
   ·simp at hx;subst hx;exact YP g hg.1 e
  ·rw[aM hi]at h3;rw[aM (by rw[<-h.len];exact hi)]at h4;have h0:i-rv.length=0:=by
    have:=(aE.1 h3).1;simp at this;omega
   rw[h0]at h3;rw[<-h.len,h0]at h4;simp at h3 h4;subst h3 h4;refine hv.cL fun g hg=>⟨hg.1,fun⟨x,hx,e⟩=>?_⟩
   rcases List.mem_append.1 hx with hx|hx
   ·exact hg.2.2 ⟨x,hx,e⟩
   ·simp at hx;subst hx;exact hg.2.1 e
 ·have key:∀(i:Nat) a,(rv++[v])[i]? =some a->rv[i]? =some a∨(i=rv.length∧a=v):=fun i a ha=>by
   rcases aP i rv.length with hi|hi
   ·rw[aJ hi]at ha;exact .inl ha
   ·rw[aM hi]at ha;have:=(aE.1 ha).1;simp at this;rw[this]at ha;simp at ha;exact .inr ⟨by omega,ha.symm⟩
  have hvn:∀(i:Nat) a,rv[i]? =some a->a.ownBlock=some g->v.ownBlock≠some g:=fun i a ha e=>YP g (D3 (h.new a (aD ha) g e));rcases key i a h3 with k1|⟨k1,rfl⟩<;>rcases key j b h4 with k2|⟨k2,rfl⟩
  ·exact h.uF i j a b g k1 k2 h5 h6
  ·exact absurd h6 (hvn i a k1 h5)
  ·exact absurd h5 (hvn j b k2 h6)
  ·omega
 ·rcases List.mem_append.1 hu with hu|hu
  ·exact(h.new u hu g hg).mono fun x hx=>aC _ hx
  ·simp at hu;subst hu;have:=Qj g hg;exact .inr ⟨by have:=r.cI;omega,_,_,aI,this.1,this.2⟩
theorem jV.Mf(h:jV w S B iv rv n M)(r:Rel H nx iv B w O w')(hS:∀g,S g->g<B)(hH:dM H id=some (.arr T.row rv))(On:(O id).nil=false)(hR:rv.length<=maxLen)(_h1:∀u∈rv,u.oneCell'=true):
  nD w' (fun g=>Cv S B iv g∧¬Mb (.slice (some ⟨(O id).g,0,none⟩) rv.length rv.length) rv g) (.slice (some ⟨(O id).g,0,none⟩) rv.length rv.length) rv n M:=by
 have h2:=h.rel r hS;have QX:∀g,Cv S B iv g->(O id).g≠g:=fun g hg=>Rel.not r hS hg id _ hH On;refine⟨⟨by simp,.inr ⟨(O id).g,rv.length,rv.toArray,rfl,aO _,r.arr id _ _ hH,Nat.le_refl _,hR,by simp,by simp⟩⟩,h.len,fun i v qs h3 h4=>?_,h.uF,fun v hv g hg e=>?_⟩
 ·refine(h2.row i v qs h3 h4).cL fun g hg=>⟨hg.1,fun hm=>?_⟩
  rcases hm with hm|hm
  ·injection hm with hm;exact QX g hg.1 hm
  ·exact hg.2 hm
 ·injection e with e;exact QX g (D3 (h.new v hv g hg)) e
structure aEG(w:World)(S:Nat->Prop)(B:Nat)(iv:Iv)(vm:Value)(n:Nat)(M:List (List Rat)):Prop where
 ex:∃rv,nD w (fun g=>Cv S B iv g∧¬Mb vm rv g) vm rv n M∧∀g,Mb vm rv g->Cv FF B iv g
end
def dF(w:World)(S:Nat->Prop)(v:Value)(ps:List Nat):Prop:=jY w S 1 v (ps.map fun c:Nat=>.int .i64 (c:Int)) ps.length
theorem dF.cJ{w2:World}(h:dF w S v ps)(hk:∀g,S g->w2.heap[g]? =w.heap[g]?):dF w2 S v ps:=jY.cJ h hk
theorem dF.cL{S':Nat->Prop}(h:dF w S v ps)(hk:∀g,S g->S' g):dF w S' v ps:=jY.cL h hk
section
variable{S S':Nat->Prop}{H:Hp}{nx:Nat}{iv iv':Iv}{B:Nat}{w w' w2:World}{O:Nat->Sx.eE}{v:Value}{ps:List Nat}
theorem dF.rel(h:dF w (Cv S B iv) v ps)(r:Rel H nx iv B w O w')(hS:∀g,S g->g<B):dF w' (Cv S B iv) v ps:=dF.cJ h fun _ hg=>Rel.same r hS hg
theorem dF.cK(h:dF w (Cv S B iv) v ps)(r:Rel H nx iv B w O w')(hS:∀g,S g->g<B)(he:Ext w' w2)(hm:∀p,p∈iv->p∈iv'):dF w2 (Cv S B iv') v ps:=
 dF.cL (dF.cJ (dF.rel h r hS) fun g hg=>he.block g (Rel.old r hS g hg)) fun _ hg=>hg.mono hm
theorem dF.dK(h:dF w2 (Nf w' w2) v ps)(hB:B<=w'.heap.size)(hm:(w'.heap.size,w2.heap.size)∈iv):dF w2 (Cv S B iv) v ps:=dF.cL h fun _ hg=>hg.dK hB hm
end
section
variable{S S':Nat->Prop}{H:Hp}{nx n:Nat}{iv iv':Iv}{B:Nat}{w w' w2:World}{O:Nat->Sx.eE}{v:Value}{qs:List Rat}
end
def gZ(A:List (List Rat))(pv:List Nat)(cols c i:Nat):List Rat:=(List.range i).foldl (fun x i=>x.set (pv.getD i 0) (-(cY A i c))) ((List.replicate cols 0).set c 1)
def eu(A:List (List Rat))(pv:List Nat)(cols c:Nat):List (List Rat):=((List.range c).filter fun c=>decide (c∉pv)).map fun c=>gZ A pv cols c pv.length
theorem ij(A:List (List Rat))(pv:List Nat)(cols c i:Nat):gZ A pv cols c (i+1)=(gZ A pv cols c i).set (pv.getD i 0) (-(cY A i c)):=by
 rw[gZ,bM,List.foldl_append];rfl
theorem lI(A:List (List Rat))(pv:List Nat)(cols c i:Nat):(gZ A pv cols c i).length=cols:=by
 induction i with
 |zero=>simp[gZ]
 |succ i ih=>rw[ij,bW,ih]
theorem I1{cols c:Nat}(h:c∈pv):eu A pv cols (c+1)=eu A pv cols c:=by
 rw[eu,bM,List.filter_append];simp[h,eu]
theorem Gc{cols c:Nat}(h:c∉pv):eu A pv cols (c+1)=eu A pv cols c++[gZ A pv cols c pv.length]:=by
 rw[eu,bM,List.filter_append];simp[h,eu]
theorem dA.rowOf(h:ie w S S v qs):∃a c,v= .slice a qs.length c:=by
 obtain⟨a,c,h,_⟩:=h.shape;exact⟨a,c,h⟩
theorem ie.from{n c k:Nat}(h:ie w C S (.slice a n c) qs)(hk:k<=n):
  ie w C S (.slice (if (c:Int)=(k:Int)then a else a.map (·.add (k*4))) (n-k) (c-k)) (qs.drop k):=by
 obtain⟨css,⟨h0,h1,h2,a',c',e,h3,h4⟩,hf⟩:=h;injection e with e1 e2 e3;subst e1 e2 e3;have hd:(css.drop k).flatten=css.flatten.drop (k*4):=by
  have:=eD (css:=css.take k) (fun cs hc=>hf.mV cs (bc hc));conv=>rhs;rw[<-List.take_append_drop k css,List.flatten_append]
  have hl:(css.take k).length=k:=by rw[aZ,hf.1];omega
  rw[hl]at this;rw[<-this,List.drop_left]
 refine⟨css.drop k,⟨?_,?_,?_,_,c-k,by rw[List.length_drop],by simp;omega,fun j u hu=>?_⟩,?_,fun j cs q hc hq=>?_⟩
 ·simp;omega
 ·rw[hd,List.length_drop,h1,List.length_drop,Nat.sub_mul]
 ·intro u hu;rw[hd]at hu;exact h2 u (List.mem_of_mem_drop hu)
 ·rw[hd,bp]at hu;obtain⟨ad,k1,k2,k3⟩:=h4 (k*4+j) u hu;have PC:=(aE.1 hu).1;subst k1;rw[aK (by omega)];refine⟨ad.add (k*4),rfl,by rw[dD];exact k2,?_⟩;rw[<-k3];have:(ad.add (k*4)).add j=ad.add (k*4+j):=by
   unfold Addr.add;split<;>split<;>simp_all<;>omega
  rw[this]
 ·rw[List.length_drop,List.length_drop,hf.1]
 ·rw[bp]at hc hq;exact hf.2 _ cs q hc hq
theorem IT(hC:Old C w)(hS:Old S w)(h:ie w C S v qs)(hn:0<qs.length)(hl:qs.length<=1000000):
  eA PG N.fY #[v] w (eL w fun v' w2=>nT w2 S v' qs.length qs∧(∀g,v'.ownBlock=some g->w.heap.size<=g∧g<w2.heap.size)):=by
 obtain⟨a,c,rfl,hc,hm⟩:=h.shape;obtain⟨css,⟨h0,h1,h2,a',c',e,h3,h4⟩,hf⟩:=h;injection e with e1 e2 e3;subst e1 e3;have QB:css.length=qs.length:=hf.1;obtain⟨ad,rfl⟩:∃ad,a=some ad:=by
  obtain⟨ad,k1,_⟩:=h4 0 _ (aB (show 0<css.flatten.length by omega));exact⟨ad,k1⟩
 refine iM (by simp) ?_;conv=>whnf
 refine⟨false,fun O w1 o1 o2=>by simp[eqGuard,SV.den,At.den,ko (P:=PG) w1 T.row T.eC (some ad) qs.length c 0 0 aCO],?_⟩;conv=>whnf
 refine .inl ?_;conv=>whnf
 refine⟨css.flatten,h1,h2,fun O w1 r h0=>⟨ad,rfl,fun j u hu=>?_⟩,?_⟩
 ·obtain⟨ad2,k1,k2,k3⟩:=h4 j u hu;injection k1 with k1;subst k1;exact k7 hC dg.refl r k2 k3
 conv=>whnf
 refine⟨rfl,by omega,by unfold maxLen;omega,?_⟩;conv=>whnf
 intro ρ3 w3 r3;refine⟨_,rfl,r3.cS,?_⟩;have hf3:Fr w3 S css qs:=hf.cJ fun g hg=>r3.cS.block g (hS g hg);rcases r3.vec 1 T.eC 4 css.flatten rfl with⟨On,hemp⟩|⟨On,spare,hb,YD,Qb⟩
 ·rw[hemp]at h1;simp at h1;omega
 have Ol:=r3.low 1 _ rfl On;have Ro:((At.w 1 (0+qs.length)).den ρ3)= .slice (some ⟨(ρ3 1).g,0,none⟩) qs.length (ρ3 1).cap:=by simp[At.den,On]
 show nT w3 S ((At.w 1 (0+qs.length)).den ρ3) qs.length qs∧∀g,((At.w 1 (0+qs.length)).den ρ3).ownBlock=some g->_;rw[Ro];have hls:(css.flatten++spare).length=css.flatten.length+spare.length:=List.length_append;refine⟨⟨css,⟨h1,.inr ⟨(ρ3 1).g,(ρ3 1).cap,(css.flatten++spare).toArray,rfl,aO _,hb,by omega,Qb,by simpa using YD,?_⟩⟩,QB,hf3⟩,fun g hg=>?_⟩
 ·rw[<-h1];simp
 ·injection hg with hg;subst hg;exact Ol
abbrev iu(M:List (List (Int×Int))):List (List Rat):=M.map fun r=>r.map sf
def iR(A:List (List Rat))(pv:List Nat)(cols i:Nat):List Rat:=(List.range i).foldl (fun x i=>x.set (pv.getD i 0) (cY A i cols)) (List.replicate cols 0)
theorem il(A:List (List Rat))(pv:List Nat)(cols i:Nat):iR A pv cols (i+1)=(iR A pv cols i).set (pv.getD i 0) (cY A i cols):=by
 rw[iR,bM,List.foldl_append];rfl
structure aEF(w:World)(B:Nat)(iv:Iv)(rv:List Value)(v:Value)(n:Nat)(qs:List Rat):Prop where
 row:nT w (fun g=>(Cv FF B iv g∧¬ ∃u∈rv,u.ownBlock=some g)∧v.ownBlock≠some g) v n qs
 rE:∀g,v.ownBlock=some g->Cv FF B iv g
section
variable{H:Hp}{nx n:Nat}{iv iv':Iv}{B:Nat}{w w' w2:World}{O:Nat->Sx.eE}{v:Value}{qs:List Rat}{rv:List Value}
theorem c9.lim{u:Value}(h:c9 w2 (Nf w' w2) u q)(r:Rel H nx iv B w O w')(Oe:∀u∈rv,∀g,u.ownBlock=some g->Cv FF B iv g):
  c9 w2 (fun g=>Cv FF B ((w'.heap.size,w2.heap.size)::iv) g∧¬ ∃u∈rv,u.ownBlock=some g) u q:=
 h.cL fun g hg=>by
  rcases hg with hg|hg
  ·exact hg.elim
  ·refine⟨.inr ⟨by have:=r.cI;omega,_,_,aI,hg.1,hg.2⟩,fun⟨u,hu,e⟩=>?_⟩;have:=Rel.old r (dN B) g (Oe u hu g e);omega
end
def jn(w:World)(S:Nat->Prop)(cs:List Value)(q:Rat):Prop:=∃b a n c b2 a2 n2 c2,cs=[.bool b,.slice a n c,.bool b2,.slice a2 n2 c2]∧cT w S (.agg #[.bool b,.slice a n c,.bool b2,.slice a2 n2 c2]) q
abbrev cR:=dL jn
abbrev cW:=dA cR
section
variable{S S':Nat->Prop}{H:Hp}{nx:Nat}{iv iv':Iv}{B:Nat}{w w' w2:World}{O:Nat->Sx.eE}{v:Value}{qs:List Rat}{cs:List Value}{q:Rat}
theorem jn.cJ(h:jn w S cs q)(hk:∀g,S g->w2.heap[g]? =w.heap[g]?):jn w2 S cs q:=by
 obtain⟨b,a,n,c,b2,a2,n2,c2,h1,h2⟩:=h;exact⟨b,a,n,c,b2,a2,n2,c2,h1,h2.cJ hk⟩
theorem jn.cL(h:jn w S cs q)(hk:∀g,S g->S' g):jn w S' cs q:=by
 obtain⟨b,a,n,c,b2,a2,n2,c2,h1,h2⟩:=h;exact⟨b,a,n,c,b2,a2,n2,c2,h1,h2.cL hk⟩
theorem cR.cJ(h:cR w S v qs)(hk:∀g,S g->w2.heap[g]? =w.heap[g]?):cR w2 S v qs:=by
 obtain⟨css,h1,h2,h3,h4⟩:=h;exact⟨css,h1.cJ hk,h2,h3,fun j cs x k1 k2=>(h4 j cs x k1 k2).cJ hk⟩
theorem cR.cL(h:cR w S v qs)(hk:∀g,S g->S' g):cR w S' v qs:=by
 obtain⟨css,h1,h2,h3,h4⟩:=h;exact⟨css,h1.cL hk,h2,h3,fun j cs x k1 k2=>(h4 j cs x k1 k2).cL hk⟩
theorem cW.cJ{M:List (List Rat)}(h:cW w S v M)(hk:∀g,S g->w2.heap[g]? =w.heap[g]?):cW w2 S v M:=by
 obtain⟨rv,h1,h2,h3⟩:=h;exact⟨rv,h1.cJ hk,h2,fun i u x k1 k2=>cR.cJ (h3 i u x k1 k2) hk⟩
theorem cW.cL{M:List (List Rat)}(h:cW w S v M)(hk:∀g,S g->S' g):cW w S' v M:=by
 obtain⟨rv,h1,h2,h3⟩:=h;exact⟨rv,h1.cL hk,h2,fun i u x k1 k2=>cR.cL (h3 i u x k1 k2) hk⟩
end
section
variable{S S':Nat->Prop}{H:Hp}{nx:Nat}{iv iv':Iv}{B:Nat}{w w' w2:World}{O:Nat->Sx.eE}{v:Value}{qs:List Rat}
theorem cR.rel(h:cR w (Cv S B iv) v qs)(r:Rel H nx iv B w O w')(hS:∀g,S g->g<B):cR w' (Cv S B iv) v qs:=cR.cJ h fun _ hg=>Rel.same r hS hg
theorem cR.cK(h:cR w (Cv S B iv) v qs)(r:Rel H nx iv B w O w')(hS:∀g,S g->g<B)(he:Ext w' w2)(hm:∀p,p∈iv->p∈iv'):cR w2 (Cv S B iv') v qs:=
 cR.cL (cR.cJ (cR.rel h r hS) fun g hg=>he.block g (Rel.old r hS g hg)) fun _ hg=>hg.mono hm
theorem cR.dK(h:cR w2 (Nf w' w2) v qs)(hB:B<=w'.heap.size)(hm:(w'.heap.size,w2.heap.size)∈iv):cR w2 (Cv S B iv) v qs:=cR.cL h fun _ hg=>hg.dK hB hm
theorem cR.out{w1:World}(h:cR w1 (Cv S w0.heap.size iv) v qs)(r:Rel H nx iv w0.heap.size w1 O w')(hS:Old S w0):cR w' (Nw S w0 w') v qs:=
 cR.cL (cR.rel h r hS) fun _ hg=>Cv.nw hg r
end
section
variable{S S':Nat->Prop}{H:Hp}{nx:Nat}{iv iv':Iv}{B:Nat}{w w' w2:World}{O:Nat->Sx.eE}{v:Value}{M:List (List Rat)}
theorem cW.rel(h:cW w (Cv S B iv) v M)(r:Rel H nx iv B w O w')(hS:∀g,S g->g<B):cW w' (Cv S B iv) v M:=cW.cJ h fun _ hg=>Rel.same r hS hg
theorem cW.cK(h:cW w (Cv S B iv) v M)(r:Rel H nx iv B w O w')(hS:∀g,S g->g<B)(he:Ext w' w2)(hm:∀p,p∈iv->p∈iv'):cW w2 (Cv S B iv') v M:=
 cW.cL (cW.cJ (cW.rel h r hS) fun g hg=>he.block g (Rel.old r hS g hg)) fun _ hg=>hg.mono hm
theorem cW.dK(h:cW w2 (Nf w' w2) v M)(hB:B<=w'.heap.size)(hm:(w'.heap.size,w2.heap.size)∈iv):cW w2 (Cv S B iv) v M:=cW.cL h fun _ hg=>hg.dK hB hm
theorem cW.old(h:cW w2 (Nw (Cv S B iv) w' w2) v M)(hB:B<=w'.heap.size):cW w2 (Cv S B ((w'.heap.size,w2.heap.size)::iv)) v M:=cW.cL h fun _ hg=>Nw.cv hg hB
theorem cW.out{w1:World}(h:cW w1 (Cv S w0.heap.size iv) v M)(r:Rel H nx iv w0.heap.size w1 O w')(hS:Old S w0):cW w' (Nw S w0 w') v M:=
 cW.cL (cW.rel h r hS) fun _ hg=>Cv.nw hg r
end
theorem lJ(A:List (List Rat))(pv:List Nat)(cols i:Nat):(iR A pv cols i).length=cols:=by
 induction i with
 |zero=>simp[iR]
 |succ i ih=>rw[il,bW,ih]
theorem I0(A:List (List Rat))(pv:List Nat)(cols c:Nat):(eu A pv cols c).length<=c:=by
 unfold eu;rw[aL];exact aV (List.length_filter_le _ _) (by simp)
end Go.Ex
