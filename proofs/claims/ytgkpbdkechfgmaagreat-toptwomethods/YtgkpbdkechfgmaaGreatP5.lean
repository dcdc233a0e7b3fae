/- Texts X22 to X36: lemmas, each with its conditions. -/
import Derived.Test.YtgkpbdkechfgmaaGreatP4
namespace Go.Ex
open Go Go.Sx Go.Proofs
variable{b b2:Bool}{x y:Int}{S S':Nat->Prop}{g q:Rat}{dv nv u v:Value}{w:World}
def iM(w:World)(S:Nat->Prop)(v:Value)(a b:Int):Prop:=∃b1 l1 b2 l2,v= .agg #[.bool b1,l1,.bool b2,l2]/\jx w S (.agg #[.bool b1,l1]) a/\jx w S (.agg #[.bool b2,l2]) b
theorem iM.cK{V:World}{a b:Int}(h:iM w S v a b)(D:∀g,S g->V.heap[g]? =w.heap[g]?):iM V S v a b:=by
 obtain⟨b1,l1,b2,l2,L,G,N⟩:=h;exact⟨b1,l1,b2,l2,L,G.cK D,N.cK D⟩
theorem iM.cN{a b:Int}(h:iM w S v a b)(D:∀g,S g->S' g):iM w S' v a b:=by
 obtain⟨b1,l1,b2,l2,L,G,N⟩:=h;exact⟨b1,l1,b2,l2,L,G.cN D,N.cN D⟩
theorem iM.shape(h:iM w S v x y):∃b a n c b2 a2 n2 c2,v= .agg #[.bool b,.slice a n c,.bool b2,.slice a2 n2 c2]:=by
 obtain⟨b1,l1,b2,l2,L,G,N⟩:=h;obtain⟨_,a,n,c,h4⟩:=G.shape;obtain⟨_,a2,n2,c2,h5⟩:=N.shape;simp at h4 h5;obtain⟨rfl,rfl⟩:=h4;obtain⟨rfl,rfl⟩:=h5;exact⟨_,a,n,c,_,a2,n2,c2,L⟩
theorem iM.num(h:iM w S (.agg #[.bool b,nv,.bool b2,dv]) x y):jx w S (.agg #[.bool b,nv]) x:=by
 obtain⟨b1,l1,b2,l2,L,G,N⟩:=h;simp at L;obtain⟨rfl,rfl,rfl,rfl⟩:=L;exact G
theorem iM.den(h:iM w S (.agg #[.bool b,nv,.bool b2,dv]) x y):jx w S (.agg #[.bool b2,dv]) y:=by
 obtain⟨b1,l1,b2,l2,L,G,N⟩:=h;simp at L;obtain⟨rfl,rfl,rfl,rfl⟩:=L;exact N
section
variable{S S':Nat->Prop}{H:Hp}{nx:Nat}{iv K:Iv}{B:Nat}{w J V:World}{O:Nat->Sx.dq}{v:Value}{x y:Int}
theorem iM.rel(h:iM w (Cv S B iv) v x y)(r:Rel H nx iv B w O J)(X:∀g,S g->g<B):iM J (Cv S B iv) v x y:=h.cK fun _ Y=>Rel.same r X Y
theorem iM.cM(h:iM w (Cv S B iv) v x y)(r:Rel H nx iv B w O J)(X:∀g,S g->g<B)(U:Ext J V)(hm:∀p,p∈iv->p∈K):iM V (Cv S B K) v x y:=
 ((h.rel r X).cK fun g Y=>U.block g (Rel.old r X g Y)).cN fun _ Y=>Y.mono hm
end
def dA(w:World)(S:Nat->Prop)(v:Value)(q:Rat):Prop:=∃b1 l1 b2 l2,v= .agg #[.bool b1,l1,.bool b2,l2]/\dR w S (.agg #[.bool b1,l1]) q.num/\dR w S (.agg #[.bool b2,l2]) q.den
theorem dA.cK{V:World}(h:dA w S v q)(D:∀g,S g->V.heap[g]? =w.heap[g]?):dA V S v q:=by
 obtain⟨b1,l1,b2,l2,L,G,N⟩:=h;exact⟨b1,l1,b2,l2,L,G.cK D,N.cK D⟩
theorem dA.cN(h:dA w S v q)(D:∀g,S g->S' g):dA w S' v q:=by
 obtain⟨b1,l1,b2,l2,L,G,N⟩:=h;exact⟨b1,l1,b2,l2,L,G.cN D,N.cN D⟩
theorem dA.r(h:dA w S v q):iM w S v q.num q.den:=by
 obtain⟨b1,l1,b2,l2,L,G,N⟩:=h;exact⟨b1,l1,b2,l2,L,G.r,N.r⟩
theorem dA.shape(h:dA w S v q):∃b a n c b2 a2 n2 c2,v= .agg #[.bool b,.slice a n c,.bool b2,.slice a2 n2 c2]:=h.r.shape
theorem dA.num(h:dA w S (.agg #[.bool b,nv,.bool b2,dv]) q):dR w S (.agg #[.bool b,nv]) q.num:=by
 obtain⟨b1,l1,b2,l2,L,G,N⟩:=h;simp at L;obtain⟨rfl,rfl,rfl,rfl⟩:=L;exact G
theorem dA.den(h:dA w S (.agg #[.bool b,nv,.bool b2,dv]) q):dR w S (.agg #[.bool b2,dv]) q.den:=by
 obtain⟨b1,l1,b2,l2,L,G,N⟩:=h;simp at L;obtain⟨rfl,rfl,rfl,rfl⟩:=L;exact N
theorem dA.of(h:dR w S (.agg #[.bool b,nv]) q.num)(k:dR w S (.agg #[.bool b2,dv]) q.den):dA w S (.agg #[.bool b,nv,.bool b2,dv]) q:=⟨_,_,_,_,rfl,h,k⟩
section
variable{S S':Nat->Prop}{H:Hp}{nx:Nat}{iv K:Iv}{B:Nat}{w J V:World}{O:Nat->Sx.dq}{v:Value}{q:Rat}
theorem dA.rel(h:dA w (Cv S B iv) v q)(r:Rel H nx iv B w O J)(X:∀g,S g->g<B):dA J (Cv S B iv) v q:=h.cK fun _ Y=>Rel.same r X Y
theorem dA.cM(h:dA w (Cv S B iv) v q)(r:Rel H nx iv B w O J)(X:∀g,S g->g<B)(U:Ext J V)(hm:∀p,p∈iv->p∈K):dA V (Cv S B K) v q:=
 ((h.rel r X).cK fun g Y=>U.block g (Rel.old r X g Y)).cN fun _ Y=>Y.mono hm
theorem dA.dK(h:dA V (Nf J V) v q)(hB:B<=J.heap.size)(hm:(J.heap.size,V.heap.size)∈iv):dA V (Cv S B iv) v q:=h.cN fun _ Y=>Y.dK hB hm
theorem dA.out{w0 w1:World}(h:dA w1 (Cv S w0.heap.size iv) v q)(r:Rel H nx iv w0.heap.size w1 O J)(X:Old S w0):dA J (Nw S w0 J) v q:=
 (h.rel r X).cN fun _ Y=>Cv.nw Y r
end
theorem vG{f:Rat}(X:Old S w)(hf:cd w S v f):
  eI PG F'.ku #[v] w (eO w fun v' _w2=>v'= .int .i64 (rs f)):=by
 have I:=bR w;replace hf:=hf.cN (S':=Cv S w.heap.size []) fun _ h=>.inl h;obtain⟨b1,a1,n1,c1,b2,a2,n2,c2,rfl⟩:=hf.shape;have Uv:=hf.num;have Ql:=hf.den;refine ou (by simp) ?_;refine cJ (cE I (fun _ J v V=>v= .int .i64 (rs f)) (fun O J r=>BC (Uv.rel r X)) ?_);rintro O _ _ _ Oo r U I h_ rfl;exact rtn I fun IR we re=>rfl
theorem BK{f:Rat}(X:Old S w)(hf:cd w S v f):
  eI PG F'.kf #[v] w (eO w fun v' V=>cd V (Nw S w V) v' (-f)):=by
 have I:=bR w;replace hf:=hf.cN (S':=Cv S w.heap.size []) fun _ h=>.inl h;obtain⟨b1,a1,n1,c1,b2,a2,n2,c2,rfl⟩:=hf.shape;have Uv:=hf.num;have Ql:=hf.den;refine oA (by simp) ?_;refine cR hτ dx [.x 0,.x 1,.x 3,.x 4,.x 2,.x 5,.x 6] (by kernel_rfl) (by kernel_rfl) ?_;refine cO (If:=fun _ J v V=>e9 V (Nw (Cv S w.heap.size []) J V) v (-f.num)) (fun O J r=>pE (Rel.old r X) (Uv.rel r X)) ?_;rintro O Q6 v1 QT r U hb R;replace I:=I.tr hb;replace Ql:=Ql.cM (K:=(Q6.heap.size,QT.heap.size)::[]) r X U fun x F=>aB _ F;have hM:=R.old r.cI;generalize (Q6.heap.size,QT.heap.size)::[]=Oo at*
 obtain⟨A0,A1,A2,A3,rfl⟩:=hM.shape;exact rtn I fun IR we re=>cd.of (by rw[Rat.neg_num];exact hM.out re X) (by rw[Rat.neg_den];exact Ql.out re X)
theorem BL{f:Rat}(X:Old S w)(hf:cd w S v f)(Y:cd w S u g)(hlf:rl f<=10000000000)(hlg:rl g<=10000000000):
  eI PG F'.ke #[v,u] w (eO w fun v' V=>cd V (Nf w V) v' (f*g)):=by
 have I:=bR w;have l1:=gG f;have l2:=fR f;have l3:=gG g;have l4:=fR g;have m0:=dH f.num g.num;have m1:=dH f.den g.den;replace hf:=hf.cN (S':=Cv S w.heap.size []) fun _ h=>.inl h;replace Y:=Y.cN (S':=Cv S w.heap.size []) fun _ h=>.inl h;obtain⟨b1,a1,n1,c1,b2,a2,n2,c2,rfl⟩:=hf.shape;obtain⟨b3,a3,n3,c3,b4,a4,n4,c4,rfl⟩:=Y.shape;have Uv:=hf.num;have Ql:=hf.den;have TG:=Y.num;have Ra:=Y.den;refine nu (by simp) ?_;refine cR hτ dx [.x 0,.x 1,.x 2,.x 3,.x 5,.x 6,.x 7,.x 8,.x 4,.x 9,.x 10,.x 11] (by kernel_rfl) (by kernel_rfl) ?_;refine cE I (fun _ J v V=>e9 V (Nf J V) v (f.num*g.num)) (fun O J r=>ig (Rel.old r X) (Uv.rel r X) (TG.rel r X) (by omega) (by omega)) ?_;rintro O _ _ _ Oo r U I h_ R;replace Ql:=Ql.cM r X U (mC h_);replace Ra:=Ra.cM r X U (mC h_);have hA:=R.dK (S:=FF) r.cI (mN h_);obtain⟨A0,A1,A2,A3,rfl⟩:=hA.shape;refine cE I (fun _ J v V=>e9 V (Nf J V) v ((f.den:Int)*(g.den:Int))) (fun O J r=>ig (Rel.old r X) (Ql.rel r X) (Ra.rel r X) (by omega) (by omega)) ?_;rintro O _ _ _ Od r U I h_ R;replace hA:=hA.cM r (cH w) U (mC h_);have hB:=R.dK (S:=FF) r.cI (mN h_);obtain⟨C0,C1,C2,C3,rfl⟩:=hB.shape;refine cE I (fun _ J v V=>cd V (Nf J V) v (f*g)) (fun O J r=>(yl f g)▸BJ (Rel.old r (cH w)) (hA.rel r (cH w)) (hB.rel r (cH w)) (kl (ga f) (ga g)) (by omega) (by omega)) ?_;rintro O _ _ _ Oq r U I h_ R;have hC:=R.dK (S:=FF) r.cI (mN h_);obtain⟨E0,E1,E2,E3,E4,E5,E6,E7,rfl⟩:=hC.shape;exact rtn I fun IR we re=>hC.out re (cH w)
theorem Ma{f:Rat}(X:Old S w)(hf:cd w S v f)(Y:cd w S u g)(hlf:rl f<=10000000000)(hlg:rl g<=10000000000)(Th:g≠0):
  eI PG F'.ml #[v,u] w (eO w fun v' V=>cd V (Nf w V) v' (f / g)):=by
 have I:=bR w;have l1:=gG f;have l2:=fR f;have l3:=gG g;have l4:=fR g;have m0:=dH f.num g.den;have m1:=dH f.den g.num;replace hf:=hf.cN (S':=Cv S w.heap.size []) fun _ h=>.inl h;replace Y:=Y.cN (S':=Cv S w.heap.size []) fun _ h=>.inl h;obtain⟨b1,a1,n1,c1,b2,a2,n2,c2,rfl⟩:=hf.shape;obtain⟨b3,a3,n3,c3,b4,a4,n4,c4,rfl⟩:=Y.shape;have Uv:=hf.num;have Ql:=hf.den;have TG:=Y.num;have Ra:=Y.den;refine qf (by simp) ?_;refine cR hτ dx [.x 0,.x 1,.x 2,.x 3,.x 5,.x 6,.x 7,.x 8,.x 4,.x 9,.x 10,.x 11] (by kernel_rfl) (by kernel_rfl) ?_;refine cE I (fun _ J v V=>e9 V (Nf J V) v (f.num*(g.den:Int))) (fun O J r=>ig (Rel.old r X) (Uv.rel r X) (Ra.rel r X) (by omega) (by omega)) ?_;rintro O _ _ _ Oo r U I h_ R;replace Ql:=Ql.cM r X U (mC h_);replace TG:=TG.cM r X U (mC h_);have hA:=R.dK (S:=FF) r.cI (mN h_);obtain⟨A0,A1,A2,A3,rfl⟩:=hA.shape;refine cE I (fun _ J v V=>e9 V (Nf J V) v ((f.den:Int)*g.num)) (fun O J r=>ig (Rel.old r X) (Ql.rel r X) (TG.rel r X) (by omega) (by omega)) ?_;rintro O _ _ _ Od r U I h_ R;replace hA:=hA.cM r (cH w) U (mC h_);have hB:=R.dK (S:=FF) r.cI (mN h_);obtain⟨C0,C1,C2,C3,rfl⟩:=hB.shape;refine cE I (fun _ J v V=>cd V (Nf J V) v (f / g)) (fun O J r=>(I9 f g)▸BJ (Rel.old r (cH w)) (hA.rel r (cH w)) (hB.rel r (cH w)) (kl (ga f) (fun e=>Th (Rat.num_eq_zero.1 e))) (by omega) (by omega)) ?_;rintro O _ _ _ Oq r U I h_ R;have hC:=R.dK (S:=FF) r.cI (mN h_);obtain⟨E0,E1,E2,E3,E4,E5,E6,E7,rfl⟩:=hC.shape;exact rtn I fun IR we re=>hC.out re (cH w)
theorem Ee{f:Rat}(X:Old S w)(hf:cd w S v f)(Y:cd w S u g)(hlf:rl f<=10000000000)(hlg:rl g<=10000000000):
  eI PG F'.kv #[v,u] w (eO w fun v' V=>cd V (Nf w V) v' (f+g)):=by
 have I:=bR w;have l1:=gG f;have l2:=fR f;have l3:=gG g;have l4:=fR g;have m0:=dH f.num g.den;have m1:=dH g.num f.den;have m2:=dH f.den g.den;have m4:=jM (f.num*g.den) (g.num*f.den);replace hf:=hf.cN (S':=Cv S w.heap.size []) fun _ h=>.inl h;replace Y:=Y.cN (S':=Cv S w.heap.size []) fun _ h=>.inl h;obtain⟨b1,a1,n1,c1,b2,a2,n2,c2,rfl⟩:=hf.shape;obtain⟨b3,a3,n3,c3,b4,a4,n4,c4,rfl⟩:=Y.shape;have Uv:=hf.num;have Ql:=hf.den;have TG:=Y.num;have Ra:=Y.den;refine ov (by simp) ?_;refine cR hτ dx [.x 0,.x 1,.x 2,.x 3,.x 5,.x 6,.x 7,.x 8,.x 11,.x 12,.x 13,.x 14,.x 4,.x 9,.x 10,.x 15,.x 16,.x 17] (by kernel_rfl) (by kernel_rfl) ?_;refine cE I (fun _ J v V=>e9 V (Nf J V) v (f.num*(g.den:Int))) (fun O J r=>ig (Rel.old r X) (Uv.rel r X) (Ra.rel r X) (by omega) (by omega)) ?_;rintro O _ _ _ Oo r U I h_ R;replace Ql:=Ql.cM r X U (mC h_);replace TG:=TG.cM r X U (mC h_);replace Ra:=Ra.cM r X U (mC h_);have hA:=R.dK (S:=FF) r.cI (mN h_);obtain⟨A0,A1,A2,A3,rfl⟩:=hA.shape;refine cE I (fun _ J v V=>e9 V (Nf J V) v (g.num*(f.den:Int))) (fun O J r=>ig (Rel.old r X) (TG.rel r X) (Ql.rel r X) (by omega) (by omega)) ?_;rintro O _ _ _ Od r U I h_ R;replace Ql:=Ql.cM r X U (mC h_);replace Ra:=Ra.cM r X U (mC h_);replace hA:=hA.cM r (cH w) U (mC h_);have hB:=R.dK (S:=FF) r.cI (mN h_);obtain⟨C0,C1,C2,C3,rfl⟩:=hB.shape;refine cE I (fun _ J v V=>e9 V (Nf J V) v (f.num*(g.den:Int)+g.num*(f.den:Int))) (fun O J r=>DD (Rel.old r (cH w)) (hA.rel r (cH w)) (hB.rel r (cH w)) (by omega) (by omega)) ?_;rintro O _ _ _ Oq r U I h_ R;replace Ql:=Ql.cM r X U (mC h_);replace Ra:=Ra.cM r X U (mC h_);have hD:=R.dK (S:=FF) r.cI (mN h_);obtain⟨E0,E1,E2,E3,rfl⟩:=hD.shape;refine cE I (fun _ J v V=>e9 V (Nf J V) v ((f.den:Int)*(g.den:Int))) (fun O J r=>ig (Rel.old r X) (Ql.rel r X) (Ra.rel r X) (by omega) (by omega)) ?_;rintro O _ _ _ Ox r U I h_ R;replace hD:=hD.cM r (cH w) U (mC h_);have hE:=R.dK (S:=FF) r.cI (mN h_);obtain⟨F0,F1,F2,F3,rfl⟩:=hE.shape;refine cE I (fun _ J v V=>cd V (Nf J V) v (f+g)) (fun O J r=>(uH f g)▸BJ (Rel.old r (cH w)) (hD.rel r (cH w)) (hE.rel r (cH w)) (kl (ga f) (ga g)) (by omega) (by omega)) ?_;rintro O _ _ _ PX r U I h_ R;have hC:=R.dK (S:=FF) r.cI (mN h_);obtain⟨G0,G1,G2,G3,G4,G5,G6,G7,rfl⟩:=hC.shape;exact rtn I fun IR we re=>hC.out re (cH w)
theorem rW{f:Rat}(X:Old S w)(hf:cd w S v f)(hlf:rl f<=100000000000):
  eI PG F'.kr #[v] w (eO w fun v' V=>dA V (Nf w V) v' f):=by
 have I:=bR w;have l1:=gG f;have l2:=fR f;replace hf:=hf.cN (S':=Cv S w.heap.size []) fun _ h=>.inl h;obtain⟨b1,a1,n1,c1,b2,a2,n2,c2,rfl⟩:=hf.shape;have Uv:=hf.num;have Ql:=hf.den;refine ot (by simp) ?_;refine cR hτ dx [.x 0,.x 1,.x 3,.x 4,.x 2,.x 5,.x 6,.x 7] (by kernel_rfl) (by kernel_rfl) ?_;refine cE I (fun _ J v V=>dR V (Nf J V) v f.num) (fun O J r=>MX (Rel.old r X) (Uv.rel r X) (by omega)) ?_;rintro O _ _ _ Oo r U I h_ R;replace Ql:=Ql.cM r X U (mC h_);have hA:=R.dK (S:=FF) r.cI (mN h_);obtain⟨A0,A1,A2,A3,rfl⟩:=hA.shape;refine cE I (fun _ J v V=>dR V (Nf J V) v (f.den:Int)) (fun O J r=>MX (Rel.old r X) (Ql.rel r X) (by omega)) ?_;rintro O _ _ _ Od r U I h_ R;replace hA:=hA.cM r (cH w) U (mC h_);have hB:=R.dK (S:=FF) r.cI (mN h_);obtain⟨C0,C1,C2,C3,rfl⟩:=hB.shape;exact rtn I fun IR we re=>dA.of (hA.out re (cH w)) (hB.out re (cH w))
theorem rX(n:Int)(w:World)(L: -9223372036854775808<=n)(G:n<=9223372036854775807):
  eI PG F'.x9 #[.int .i64 n] w (eO w fun v' V=>cd V (Nf w V) v' (n:Rat)):=by
 have I:=bR w;refine Ak (by simp) ?_;refine cJ (cE I (fun _ J v V=>e9 V (Nf J V) v n) (fun O J r=>vD n J L G) ?_);rintro O _ _ _ Oo r U I h_ R;have hA:=R.dK (S:=FF) r.cI (mN h_);obtain⟨A0,A1,A2,A3,rfl⟩:=hA.shape;refine cJ (cE I (fun _ J v V=>e9 V (Nf J V) v 1) (fun O J r=>vD 1 J (by decide) (by decide)) ?_);rintro O _ _ _ Od r U I h_ R;replace hA:=hA.cM r (cH w) U (mC h_);have hB:=R.dK (S:=FF) r.cI (mN h_);obtain⟨C0,C1,C2,C3,rfl⟩:=hB.shape;exact rtn I fun IR we re=>cd.of (by rw[Rat.num_intCast];exact hA.out re (cH w)) (by rw[Rat.den_intCast];exact hB.out re (cH w))
theorem jd(X:Old S w)(F:iM w S v x y)(PU:ln x.natAbs<=100000000000)(Qu:ln y.natAbs<=100000000000):
  eI PG F'.xX #[v] w (eO w fun v' V=>cd V (Nf w V) v' (ratio x y)):=by
 have I:=bR w;replace F:=F.cN (S':=Cv S w.heap.size []) fun _ h=>.inl h;obtain⟨b1,a1,n1,c1,b2,a2,n2,c2,rfl⟩:=F.shape;have R:=F.num;have hd:=F.den;have RZ:=R;have VM:=hd;refine Ag (by simp) ?_;refine cJ (cO (If:=fun _ J v V=>e9 V (Nw (Cv S w.heap.size []) J V) v y) (fun O J r=>M4 (Rel.old r X) (VM.rel r X)) ?_);rintro O Q6 v1 QT r U hb R;replace I:=I.tr hb;replace RZ:=RZ.cM (K:=(Q6.heap.size,QT.heap.size)::[]) r X U fun x F=>aB _ F;have hD:=R.old r.cI;generalize (Q6.heap.size,QT.heap.size)::[]=Oo at*
 obtain⟨A0,A1,A2,A3,rfl⟩:=hD.shape;refine cJ (cE I (fun _ J v V=>v= .int .i64 y.sign) (fun O J r=>BC (hD.rel r X)) ?_);rintro O _ _ _ Od r U I h_ rfl;replace RZ:=RZ.cM r X U (mC h_);replace hD:=hD.cM r X U (mC h_);refine dQ.mk ?_ ?_<;>intro h
 ·have h:y=0:=bo.1 (eq_of_beq h);have e0:ratio x y=Rat.divInt x 1:=if_pos h;refine cJ (cE I (fun _ J v V=>e9 V (Nf J V) v 1) (fun O J r=>vD 1 J (by decide) (by decide)) ?_);rintro O QF v3 Pw Oq r U I h_ R;replace RZ:=RZ.cM r X U (mC h_);have hO:=R.dK (S:=FF) r.cI (mN h_);obtain⟨C0,C1,C2,C3,rfl⟩:=hO.shape;have l1:ln (1:Int).natAbs=1:=by decide
  refine cR hτ dx [.x 0,.x 1,.x 3,.x 2,.x 4,.x 5] (by kernel_rfl) (by kernel_rfl) ?_;refine cO (If:=fun _ J v V=>e9 V (Nw (Cv S w.heap.size Oq) J V) v x) (fun O J r=>M4 (Rel.old r X) (RZ.rel r X)) ?_;rintro O RG v4 QX r U hb R;replace I:=I.tr hb;replace hO:=hO.cM (K:=(RG.heap.size,QX.heap.size)::Oq) r (cH w) U fun x F=>aB _ F;have hN:=R.old r.cI;generalize (RG.heap.size,QX.heap.size)::Oq=Ox at*
  obtain⟨E0,E1,E2,E3,rfl⟩:=hN.shape;refine cE I (fun _ J v V=>cd V (Nf J V) v (ratio x y)) (fun O J r=>e0.symm▸BJ (Rel.old r X) (hN.rel r X) ((hO.rel r (cH w)).cN fun g Y=>Y.elim (fun k=>k.elim) .inr) (by decide) (by omega) (by omega)) ?_;rintro O _ _ _ PX r U I h_ R;have hC:=R.dK (S:=FF) r.cI (mN h_);obtain⟨F0,F1,F2,F3,F4,F5,F6,F7,rfl⟩:=hC.shape;exact rtn I fun IR we re=>hC.out re (cH w)
 ·have h:y≠0:=fun e=>by rw[e]at h;exact absurd h (by decide)
  have e0:ratio x y=Rat.divInt x y:=aH h;refine cR hτ dx [.x 0,.x 1,.x 3,.x 2,.x 4,.x 5] (by kernel_rfl) (by kernel_rfl) ?_;refine cO (If:=fun _ J v V=>e9 V (Nw (Cv S w.heap.size Od) J V) v x) (fun O J r=>M4 (Rel.old r X) (RZ.rel r X)) ?_;rintro O QF v3 Pw r U hb R;replace I:=I.tr hb;replace hD:=hD.cM (K:=(QF.heap.size,Pw.heap.size)::Od) r X U fun x F=>aB _ F;have hN:=R.old r.cI;generalize (QF.heap.size,Pw.heap.size)::Od=Oq at*
  obtain⟨C0,C1,C2,C3,rfl⟩:=hN.shape;refine cE I (fun _ J v V=>cd V (Nf J V) v (ratio x y)) (fun O J r=>e0.symm▸BJ (Rel.old r X) (hN.rel r X) (hD.rel r X) h (by omega) (by omega)) ?_;rintro O _ _ _ Ox r U I h_ R;have hC:=R.dK (S:=FF) r.cI (mN h_);obtain⟨E0,E1,E2,E3,E4,E5,E6,E7,rfl⟩:=hC.shape;exact rtn I fun IR we re=>hC.out re (cH w)
def mL(v:Value):Iv:=match v.ownBlock with
 |some g=>[(g,g+1)]
 |none=>[]
theorem rY{lo A:Nat}:(lo,A)∈mL v↔v.ownBlock=some lo/\A=lo+1:=by
 unfold mL
 cases h:v.ownBlock with
 |none=>simp
 |some g=>simp;omega
def BQ(iv:Iv)(v:Value):Prop:=∀b,v.ownBlock=some b->∃lo A,(lo,A)∈iv/\lo<=b/\b<A
section
variable{S:Nat->Prop}{H:Hp}{nx:Nat}{iv K:Iv}{B e sz m:Nat}{w J V:World}{O:Nat->Sx.dq}{v v':Value}{xs:List Value}
theorem BQ.not(h:BQ iv v)(r:Rel H nx iv B w O J){b:Nat}(hb:v.ownBlock=some b):∀id c,dG H id=some c->(O id).nil=false->(O id).g≠b:=fun id c hc R U=>by
 obtain⟨lo,A,L,G,N⟩:=h b hb;exact r.je lo A L id c hc R (by omega)
theorem gq(h:w.ownsRow B e sz v m xs)(hc:BQ iv v)(r:Rel H nx iv B w O J):J.ownsRow B e sz v m xs:=
 ownsRow.cK h fun b hb=>r.vP b (ownsRow.low h b hb).2 fun id c hc' R U=>hc.not r hb id c hc' R U
theorem BQ.row(v:Value):BQ (mL v) v:=fun b hb=>⟨b,b+1,rY.2 ⟨hb,rfl⟩,by omega,by omega⟩
theorem BQ.mono(h:BQ iv v)(k:∀p,p∈iv->p∈K):BQ K v:=fun b hb=>by
 obtain⟨lo,A,L,G⟩:=h b hb;exact⟨lo,A,k _ L,G⟩
theorem fF(h:w.ownsRow B e sz v m xs):∃a c,v= .slice a m c/\m<=c:=by
 rcases h.2 with⟨rfl,rfl⟩|⟨g,cap,cur,rfl,_,_,L,_⟩
 ·exact⟨none,0,rfl,Nat.le_refl _⟩
 ·exact⟨_,cap,rfl,L⟩
theorem Gg(r:Rel H nx (mL v) B w O J)(_hsz:J.heap.size<=V.heap.size)(RN:∀g,v'.ownBlock=some g->g<V.heap.size/\(v.ownBlock=some g\/g=J.heap.size)):
  ∀lo A,(lo,A)∈mL v'->A<=V.heap.size/\∀id b,dG H id=some b->(O id).nil=false->¬(lo<=(O id).g/\(O id).g<A):=fun lo A hm=>by
 obtain⟨Y,rfl⟩:=rY.1 hm;obtain⟨L,G⟩:=RN _ Y;refine⟨by omega,fun id c hc R U=>?_⟩;rcases G with G|G
 ·exact(BQ.row v).not r G id c hc R (by omega)
 ·have:=(r.low id c hc R).2;omega
end
end Go.Ex
namespace Go.Sx
open Go Go.Ex Go.Proofs
variable{O:Nat->Sx.dq}
theorem Sub.aB6{B:Nat}{l tl:Env}{nx On:Nat}{H tH:Hp}{iv K:Iv}{w J:World}(m:List (Nat×Nat))(r:Rel H nx iv B w O J)
  (hH:zI (tX m) H tH) (hE:zH (tX m) l tl) (hsH:NR On tH) (hsE:jw On tl) (A:JN (tX m) tH=true) (Uz:∀lo A,(lo,A)∈K->∃lo' RA,(lo',RA)∈iv/\lo'<=lo/\A<=RA):Sub B l nx O J ⟨tl,tH,On,K,J⟩:=by
 have r2:Rel H nx K B J O J:=Rel.mk' rfl rfl rfl (Nat.le_refl _) (by have:=r.base;have:=r.size;omega) (fun lo A h=>by
   obtain⟨lo',RA,L,G,N⟩:=Uz lo A h
   have:=r.oJ lo' RA L;have:=r.size;omega) r.keys (fun id b h=>r.fits h) (fun id b h=>r.scopd h) r.inj r.low (fun _ _ _=>rfl) (fun lo A h id b hb R U=>by
   obtain⟨lo',RA,L,G,N⟩:=Uz lo A h
   exact r.je lo' RA L id b hb R (by omega))
 exact Sub.gen m r2 hH hE hsH hsE A (fun lo A h=>h)
end Go.Sx
namespace Go.Ex
open Go Go.Sx Go.Proofs
variable{xs:List Value}{n sz:Nat}{S:Nat->Prop}{v:Value}{w:World}
theorem BQ.iv{iv:Iv}(h:BQ iv v):∀lo A,(lo,A)∈mL v->∃lo' RA,(lo',RA)∈iv/\lo'<=lo/\A<=RA:=fun lo A hm=>by
 obtain⟨hb,rfl⟩:=rY.1 hm;obtain⟨lo',RA,L,G,N⟩:=h lo hb;exact⟨lo',RA,L,G,by omega⟩
structure ie(w:World)(S:Nat->Prop)(sz:Nat)(v:Value)(xs:List Value)(n:Nat):Prop where
 le:n<=maxLen
 len:xs.length=n*sz
 one:∀u∈xs,u.oneCell'=true
 sl:∃a c,v= .slice a n c/\n<=c/\∀(j:Nat) u,xs[j]? =some u->∃ad,a=some ad/\S ad.block/\w.cell? (ad.add j)=some u
theorem ie.cK{V:World}(h:ie w S sz v xs n)(D:∀g,S g->V.heap[g]? =w.heap[g]?):ie V S sz v xs n:=by
 obtain⟨h0,L,G,a,c,N,h4,h5⟩:=h;refine⟨h0,L,G,a,c,N,h4,fun j u hu=>?_⟩;obtain⟨ad,k1,k2,k3⟩:=h5 j u hu;exact⟨ad,k1,k2,by rw[cL (D _ (by rw[dF];exact k2))];exact k3⟩
theorem ie.cN{S':Nat->Prop}(h:ie w S sz v xs n)(D:∀g,S g->S' g):ie w S' sz v xs n:=by
 obtain⟨h0,L,G,a,c,N,h4,h5⟩:=h;refine⟨h0,L,G,a,c,N,h4,fun j u hu=>?_⟩;obtain⟨ad,k1,k2,k3⟩:=h5 j u hu;exact⟨ad,k1,D _ k2,k3⟩
theorem ie.shape(h:ie w S sz v xs n):∃a m c,v= .slice a m c:=by
 obtain⟨_,_,_,a,c,N,_⟩:=h;exact⟨a,_,c,N⟩
section
variable{S S':Nat->Prop}{H:Hp}{nx:Nat}{iv K:Iv}{B:Nat}{w J V:World}{O:Nat->Sx.dq}{v:Value}{sz n:Nat}{xs:List Value}
end
def oG(parts:List (Value×List Value×Nat)):Nat:=(parts.map (·.2.2)).sum
theorem xp(a b:List (Value×List Value×Nat)):oG (a++b)=oG a+oG b:=by simp[oG]
end Go.Ex
namespace Go.Ex
open Go Go.Sx Go.Proofs
end Go.Ex
namespace Go.Sx
open Go Go.Ex Go.Proofs
variable{O:Nat->Sx.dq}
theorem Rel.wm{H:Hp}{nx:Nat}{iv:Iv}{B:Nat}{w J:World}(r:Rel H nx iv B w O J){id t sz n:Nat}{W:List At}(h:dG H id=some (.box t W))(hl:W.length=n*sz)(R:n<=maxLen)(L:∀u∈W,(u.den O).oneCell'=true):
  ie J (fun g=>g=(O id).g) sz (.slice (some ⟨(O id).g,0,none⟩) n n) (W.map (At.den O)) n:=by
 refine⟨R,by simpa using hl,fun u hu=>?_,_,_,rfl,Nat.le_refl _,fun j u hu=>⟨_,rfl,rfl,?_⟩⟩
 ·obtain⟨x,F,rfl⟩:=aU.1 hu;exact L x F
 ·have h0:(⟨(O id).g,0,none⟩:Addr).add j=⟨(O id).g,j,none⟩:=by
   cases j with
   |zero=>rfl
   |succ j=>simp[Addr.add]
  rw[h0,cell_of (r.box id t _ h)];exact hu
end Go.Sx
namespace Go.Ex
open Go Go.Sx Go.Proofs
end Go.Ex
namespace Go.Sx
open Go Go.Ex Go.Proofs
variable{W:List Value}{O:Nat->Sx.dq}
theorem Rel.aAl{H:Hp}{nx:Nat}{iv:Iv}{B:Nat}{w J:World}(r:Rel H nx iv B w O J){id t sz n:Nat}(h:dG H id=some (.arr t W))(hl:W.length=n*sz)(R:n<=maxLen)(L:∀u∈W,u.oneCell'=true):
  ie J (fun g=>g=(O id).g) sz (.slice (some ⟨(O id).g,0,none⟩) n n) W n:=by
 refine⟨R,hl,L,_,_,rfl,Nat.le_refl _,fun j u hu=>⟨_,rfl,rfl,?_⟩⟩;have h0:(⟨(O id).g,0,none⟩:Addr).add j=⟨(O id).g,j,none⟩:=by
  cases j with
  |zero=>rfl
  |succ j=>simp[Addr.add]
 rw[h0,cell_of (r.arr id t _ h)];exact hu
end Go.Sx
namespace Go.Ex
open Go Go.Sx Go.Proofs
theorem Mo{n:Nat}(h:n<=9223372036854775807):IntKind.i64.wrap (n:Int)=n:=by rw[wrap64]<;>omega
theorem OF{t b:Nat}(h:t<=9223372036854775807):IntKind.i64.wrap ((t:Int).tdiv (b:Int))=((t / b:Nat):Int):=by
 have L:=Nat.div_le_self t b;rw[Int.tdiv_eq_ediv_of_nonneg (by omega),<-Int.natCast_ediv];exact Mo (by omega)
end Go.Ex
namespace Go.Ex
open Go Go.Sx Go.Proofs
def Mp:Value:=.agg #[.bool false,.slice none 0 0,.bool false,.slice none 0 0]
theorem BE{n:Int}(L: -9223372036854775808<=n)(G:n<=9223372036854775807):ln n.natAbs<=2:=gU.2 (by show n.natAbs<4294967296^2;omega)
end Go.Ex
namespace Go.Sx
open Go Go.Ex Go.Proofs
variable{W:List Value}{O:Nat->Sx.dq}
theorem Rel.iK{H:Hp}{nx:Nat}{iv:Iv}{B:Nat}{w J:World}(r:Rel H nx iv B w O J){id t m sz:Nat}(h:dG H id=some (.vec t sz W))(hm:W.length=m*sz)(SX:m<=maxLen)(hs:0<sz)(L:∀u∈W,u.oneCell'=true):
  ie J (fun g=>B<=g/\g<J.heap.size) sz ((At.w id m).den O) W m:=by
 rcases r.vec id t sz _ h with⟨R,rfl⟩|⟨R,spare,hb,hc,Q2⟩
 ·have Uf:m=0:=by
   rcases bK m with h|h
   ·exact h
   ·have:=Nat.mul_pos h hs;simp at hm;omega
  subst Uf;refine⟨SX,by simp,by simp,none,0,by simp[At.den,R],Nat.le_refl _,by simp⟩
 ·refine⟨SX,hm,L,some ⟨(O id).g,0,none⟩,(O id).cap,by simp[At.den,R],?_,fun j x F=>⟨_,rfl,r.low id _ h R,?_⟩⟩
  ·have L:(W++spare).length=W.length+spare.length:=List.length_append;have G:m*sz<=(O id).cap*sz:=by omega
   exact cA G hs
  ·rw[dL,cell_of hb,aT,aI (aD.1 F).1];exact F
end Go.Sx
namespace Go.Ex
open Go Go.Sx Go.Proofs
end Go.Ex
namespace Go.Ex
open Go Go.Sx Go.Proofs
variable{Z:List (List Value)}{qs:List Rat}{W xs:List Value}{i j n:Nat}{C S:Nat->Prop}{O:Nat->Sx.dq}{a:Option Addr}{p q:Rat}{v:Value}{w:World}
def signed:Bool->ByteArray->ByteArray
 |true,s=>⟨#[45]⟩++s
 |false,s=>s
def oH(w:World)(S:Nat->Prop)(W:List Value)(q:Rat):Prop:=∃b a n c b2 a2 n2 c2,W=[.bool b,.slice a n c,.bool b2,.slice a2 n2 c2]/\cd w S (.agg #[.bool b,.slice a n c,.bool b2,.slice a2 n2 c2]) q
def Fr(w:World)(S:Nat->Prop)(Z:List (List Value))(qs:List Rat):Prop:=Z.length=qs.length/\∀(j:Nat) W q,Z[j]? =some W->qs[j]? =some q->oH w S W q
section
variable{S S':Nat->Prop}{w V:World}{W:List Value}{Z:List (List Value)}{q:Rat}{qs:List Rat}
theorem oH.cK(h:oH w S W q)(D:∀g,S g->V.heap[g]? =w.heap[g]?):oH V S W q:=by
 obtain⟨b,a,n,c,b2,a2,n2,c2,L,G⟩:=h;exact⟨b,a,n,c,b2,a2,n2,c2,L,G.cK D⟩
theorem oH.cN(h:oH w S W q)(D:∀g,S g->S' g):oH w S' W q:=by
 obtain⟨b,a,n,c,b2,a2,n2,c2,L,G⟩:=h;exact⟨b,a,n,c,b2,a2,n2,c2,L,G.cN D⟩
theorem oH.len(h:oH w S W q):W.length=4:=by obtain⟨_,_,_,_,_,_,_,_,rfl,_⟩:=h;rfl
theorem cd.four{b b2:Bool}{a2:Option Addr}{c n2 c2:Nat}(h:cd w S (.agg #[.bool b,.slice a n c,.bool b2,.slice a2 n2 c2]) q):oH w S [.bool b,.slice a n c,.bool b2,.slice a2 n2 c2] q:=⟨_,_,_,_,_,_,_,_,rfl,h⟩
theorem Fr.cK(h:Fr w S Z qs)(D:∀g,S g->V.heap[g]? =w.heap[g]?):Fr V S Z qs:=⟨h.1,fun j W q L G=>(h.2 j W q L G).cK D⟩
theorem Fr.cN(h:Fr w S Z qs)(D:∀g,S g->S' g):Fr w S' Z qs:=⟨h.1,fun j W q L G=>(h.2 j W q L G).cN D⟩
theorem Fr.mR(h:Fr w S Z qs):∀W∈Z,W.length=4:=fun W hc=>by
 obtain⟨j,hj⟩:=aN hc;have hl:=(aD.1 hj).1;exact(h.2 j W _ hj (aA (by rw[<-h.1];exact hl))).len
theorem Fr.one(h:Fr w S Z qs):∀u∈Z.flatten,u.oneCell'=true:=fun u hu=>by
 obtain⟨W,hc,hu⟩:=List.mem_flatten.1 hu;obtain⟨j,hj⟩:=aN hc;have hl:=(aD.1 hj).1;obtain⟨_,_,_,_,_,_,_,_,rfl,_⟩:=h.2 j W _ hj (aA (by rw[<-h.1];exact hl));simp at hu;rcases hu with rfl|rfl|rfl|rfl<;>rfl
theorem Fr.set(h:Fr w S Z qs)(hq:oH w S W q):Fr w S (Z.set j W) (qs.set j q):=by
 refine⟨by simp[h.1],fun i c p L G=>?_⟩;by_cases Pr:j=i
 ·subst Pr;have hl:=(aD.1 L).1;rw[aP (by simpa using hl)]at L;rw[aP (by have:=h.1;simp at hl;omega)]at G;injection L with L;injection G with G;subst L G;exact hq
 ·rw[aS Pr]at L G;exact h.2 i c p L G
end
section
variable{S S':Nat->Prop}{H:Hp}{nx:Nat}{iv K:Iv}{B:Nat}{w J V:World}{O:Nat->Sx.dq}{Z:List (List Value)}{qs:List Rat}
theorem Fr.rel(h:Fr w (Cv S B iv) Z qs)(r:Rel H nx iv B w O J)(X:∀g,S g->g<B):Fr J (Cv S B iv) Z qs:=h.cK fun _ Y=>Rel.same r X Y
theorem Fr.cM(h:Fr w (Cv S B iv) Z qs)(r:Rel H nx iv B w O J)(X:∀g,S g->g<B)(U:Ext J V)(hm:∀p,p∈iv->p∈K):Fr V (Cv S B K) Z qs:=
 ((h.rel r X).cK fun g Y=>U.block g (Rel.old r X g Y)).cN fun _ Y=>Y.mono hm
theorem Fr.arg(h:Fr w S Z qs)(iv:Iv):Fr w (Cv S w.heap.size iv) Z qs:=h.cN fun _ h=>.inl h
end
theorem ef:∀{Z:List (List Value)},(∀W∈Z,W.length=4)->Z.flatten.length=Z.length*4
 |[],_=>rfl
 |c::r,h=>by
  rw[List.flatten_cons,List.length_append,ef (fun W hc=>h W (aB _ hc)),h c aF,List.length_cons];omega
theorem flat_get:∀{Z:List (List Value)} {j:Nat} {W:List Value},(∀W∈Z,W.length=4)->Z[j]? =some W->∀k u,W[k]? =some u->Z.flatten[j*4+k]? =some u
 |[],j,W,_,hj,_,_,_=>by simp at hj
 |c::r,0,W,h,hj,k,u,hu=>by
  simp at hj;subst hj;rw[List.flatten_cons,aI (by have:=(aD.1 hu).1;omega)];simpa using hu
 |c::r,j+1,W,h,hj,k,u,hu=>by
  have hc:=h c aF;rw[List.flatten_cons,aM (by omega),hc,show(j+1)*4+k-4=j*4+k by omega];exact flat_get (fun W hc=>h W (aB _ hc)) (by simpa using hj) k u hu
theorem iI:∀{Z:List (List Value)} {j:Nat} {W:List Value},(∀W∈Z,W.length=4)->j<Z.length->Z.flatten.take (j*4)++W++Z.flatten.drop (j*4+4)=(Z.set j W).flatten
 |[],j,W,_,hj=>by simp at hj
 |c::r,0,W,h,_=>by
  have hc:=h c aF;simp[List.flatten_cons,hc]
 |c::r,j+1,W,h,hj=>by
  have hc:=h c aF
  rw[List.flatten_cons,show(j+1)*4=c.length+j*4 by omega,List.take_length_add_append,show c.length+j*4+4=c.length+(j*4+4) by omega,List.drop_length_add_append,List.set_cons_succ,List.flatten_cons,
   <-iI (fun W hc=>h W (aB _ hc)) (by simpa using hj),bZ,bZ,bZ]
abbrev Out(B:Nat)(iv:Iv):Nat->Prop:=Cv (fun g=>g<B) B iv
theorem fc{H:Hp}{nx:Nat}{iv:Iv}{B Bc e sz m:Nat}{J:World}(h:w.ownsRow Bc e sz v m xs)(hc:∀g,v.ownBlock=some g->Out B iv g)(r:Rel H nx iv B w O J):J.ownsRow Bc e sz v m xs:=
 ownsRow.cK h fun b hb=>Rel.same r (fun _ h=>h) (hc b hb)
theorem rC{c:Nat}(h:w.ownsRow 0 T.eB 4 (.slice a n c) n Z.flatten)(hf:Fr w S Z qs)(hj:Z[j]? =some W):
  ∃g,a=some ⟨g,0,none⟩/\∀k u,W[k]? =some u->w.cell? ((Addr.add ⟨g,0,none⟩ (j*4)).add k)=some u:=by
 rcases h.2 with⟨L,h0⟩|⟨g,cap,cur,Rh,_⟩
 ·have:=h.1;rw[ef hf.mR]at this;have:=(aD.1 hj).1;omega
 ·injection Rh with L G N;subst L;refine⟨g,rfl,fun k u hu=>?_⟩;have:=h.cells (g:=g) rfl (j*4+k) u (flat_get hf.mR hj k u hu);rw[dL,dL];rw[dL]at this;rw[Nat.add_assoc];exact this
theorem yr:PG.underlying T.row=some (.slice T.eB):=(hτ T.row _ rfl).i4 rfl
def upto(i:Nat)(f:Rat->Rat)(qs:List Rat):List Rat:=qs.mapIdx fun j q=>if j<i then f q else q
theorem KR(f:Rat->Rat)(qs:List Rat):upto 0 f qs=qs:=by
 apply bF;intro j;simp[upto]
theorem Mq(f:Rat->Rat)(qs:List Rat):upto qs.length f qs=qs.map f:=by
 apply bF;intro j;simp only[upto,List.getElem?_mapIdx,aL]
 cases h:qs[j]? with
 |none=>rfl
 |some q=>simp[(aD.1 h).1]
theorem KU{f:Rat->Rat}(h:qs[i]? =some q):(upto i f qs).set i (f q)=upto (i+1) f qs:=by
 apply bF;intro j;have A:=(aD.1 h).1;by_cases Pr:i=j
 ·subst Pr;rw[aP (by simp[upto];exact A)];simp[upto,List.getElem?_mapIdx,h]
 ·rw[aS Pr];simp only[upto,List.getElem?_mapIdx]
  have:(j<i)↔(j<i+1):=by omega
  simp[this]
theorem OG{f:Rat->Rat}:(upto i f qs)[i]? =qs[i]? :=by
 simp only[upto,List.getElem?_mapIdx]
 cases qs[i]? <;>simp
theorem df{w1 V:World}{row:Option Nat}(h:w.grownBy w1 row)(k:dw w.heap.size w1 V):w.grownBy V row:=
 ⟨k.os.trans h.os,k.tape.trans h.tape,k.output.trans h.output,aW h.size k.size,fun b hb R=>(k.block b hb).trans (h.block b hb R)⟩
theorem JF{vby:Value}(X:Old S w)(Oa:w.ownsRow 0 T.eB 4 v n Z.flatten)(PW:Fr w S Z qs)(Pu:Z.length=n)(PB:cd w S vby p)
  (SG:∀g,v.ownBlock=some g->¬S g) (hq:∀q∈qs,rl q<=10000000000) (hb:rl p<=10000000000):
  eI PG F'.pS #[v,vby] w (fun e V=>e= .returned (.tuple #[])/\w.grownBy V v.ownBlock/\∃css',V.ownsRow 0 T.eB 4 v n css'.flatten/\css'.length=n/\Fr V (Nw S w V) css' (qs.map (· *p))):=by
 have Og:∀g,v.ownBlock=some g->g<w.heap.size:=fun g Y=>(ownsRow.low Oa g Y).2;have PQ:∀iv g,v.ownBlock=some g->Out w.heap.size iv g:=fun iv g Y=>.inl (Og g Y);have TN:∀iv g,v.ownBlock=some g->¬Cv S w.heap.size iv g:=fun iv g Y h=>by
  rcases h with h|⟨h,_⟩
  ·exact SG g Y h
  ·have:=Og g Y;omega
 have Uc:n<=maxLen:=by
  rcases Oa.2 with⟨_,h0⟩|⟨_,_,_,_,_,_,L,G,_⟩
  ·omega
  ·omega
 unfold maxLen at Uc;have SZ:qs.length=n:=by rw[<-PW.1,Pu]
 obtain⟨a,c,rfl,Tl⟩:=fF Oa;obtain⟨b1,a1,n1,c1,b2,a2,n2,c2,rfl⟩:=PB.shape;replace PW:=PW.arg [];replace PB:=PB.arg [];refine ss (by simp) ?_;conv=>whnf
 refine⟨Nat×List (List Value)×Iv×World,fun z=>⟨[(0,sV a n c),(3,pP 0 0),(6,sV a n c),(7,iZ n),(8,iZ z.1)],
   [(0,.box T.eB [.v (.bool b1),.v (.slice a1 n1 c1),.v (.bool b2),.v (.slice a2 n2 c2)])],1,z.2.2.1,z.2.2.2⟩,fun z=>n-z.1,
  fun z=>z.1<=n/\w.grownBy z.2.2.2 (Value.slice a n c).ownBlock/\z.2.2.2.ownsRow 0 T.eB 4 (.slice a n c) n z.2.1.flatten/\z.2.1.length=n/\Fr z.2.2.2 (Cv S w.heap.size z.2.2.1) z.2.1 (upto z.1 (· *p) qs)/\
   cd z.2.2.2 (Cv S w.heap.size z.2.2.1) (.agg #[.bool b1,.slice a1 n1 c1,.bool b2,.slice a2 n2 c2]) p,?_,?_⟩
 ·intro O J r
  refine⟨(0,Z,[],J),⟨by simp,mo r.cU,fc Oa (PQ []) r,Pu,by rw[KR];exact PW.rel r X,PB.rel r X⟩,
   Sub.gn [] r⟩
 clear Oa PW PB Pu;rintro⟨i,Z,iv,w1⟩ ⟨A,Y,Oa,Pu,PW,PB⟩;dsimp only at A Y Oa Pu PW PB ⊢;conv=>whnf
 refine dQ.mk ?_ ?_<;>intro h
 ·have h:i<n:=by simpa using h
  obtain⟨W,PS⟩:∃W,Z[i]? =some W:=⟨_,aA (by omega)⟩
  obtain⟨q,SA⟩:∃q,qs[i]? =some q:=⟨_,aA (by omega)⟩
  have hF:=PW.2 i W q PS (by rw[OG];exact SA);obtain⟨g,rfl,PK⟩:=rC Oa PW PS;obtain⟨d1,e1,m1,k1,d2,e2,m2,k2,rfl,hF⟩:=hF;have Wk:=hq q (aC SA);conv=>whnf
  refine⟨⟨g,0,none⟩,rfl,by omega,?_⟩;conv=>whnf
  refine⟨[.bool d1,.slice e1 m1 k1,.bool d2,.slice e2 m2 k2],rfl,fun O J r j x F=>?_,?_⟩
  ·have:=rC (fc Oa (PQ iv) r) (PW.rel r X) PS;obtain⟨g',L,G⟩:=this;injection L with L;rw[<-L]at G;exact G j x F
  conv=>whnf
  refine cJ (cO (If:=fun _ J v V=>cd V (Nf J V) v (q*p)) (fun O J r=>BL (Rel.old r X) (hF.rel r X) (PB.rel r X) Wk hb) ?_);rintro O wa v1 wb r U PD hP;have Rl:=hP.dK (S:=S) r.cI (iv:=(wa.heap.size,wb.heap.size)::iv) aF;replace PB:=PB.cM (K:=(wa.heap.size,wb.heap.size)::iv) r X U fun x F=>aB _ F;replace PW:=PW.cM (K:=(wa.heap.size,wb.heap.size)::iv) r X U fun x F=>aB _ F;have PR:wb.ownsRow 0 T.eB 4 (.slice (some ⟨g,0,none⟩) n c) n Z.flatten:=ownsRow.cK (fc Oa (PQ iv) r) fun b hb=>U.block b (by have:=Og b hb;have:=r.cI;omega);replace Y:w.grownBy wb _:=df Y PD;clear r U hP PD Oa PK;generalize (wa.heap.size,wb.heap.size)::iv=Od at*
  obtain⟨b5,a5,n5,c5,b6,a6,n6,c6,rfl⟩:=Rl.shape;conv=>whnf
  refine⟨⟨g,0,none⟩,rfl,by omega,?_⟩;conv=>whnf
  intro O J r;have RX:=fc PR (PQ Od) r;have hF5:=(Rl.rel r X).four;obtain⟨g',Qr,Of,QW,PC,PN⟩:=j3 (nv:=[.bool b5,.slice a5 n5 c5,.bool b6,.slice a6 n6 c6]) RX rfl h rfl (by decide);injection Qr with Qr;injection Qr with Qr;subst Qr;have Qb:=iI (W:=[.bool b5,.slice a5 n5 c5,.bool b6,.slice a6 n6 c6]) PW.mR (show i<Z.length by omega);rw[Qb]at QW;have Oi:∀x,Cv S w.heap.size Od x->(setCells J ⟨g,i*4,none⟩ [.bool b5,.slice a5 n5 c5,.bool b6,.slice a6 n6 c6]).heap[x]? =J.heap[x]? :=fun x F=>
   PC.block x (Rel.old r X x F) fun e=>TN Od g rfl (by injection e with e;rw[<-e];exact F)
  have PI:(⟨g,0,none⟩:Addr).add ((i:Int).toNat*4)=⟨g,i*4,none⟩:=by rw[aE,dL,aT]
  have Vb:=((PW.rel r X).cK Oi).set (j:=i) (hF5.cK Oi);rw[KU (f:=(· *p)) SA]at Vb;have TO:=(PB.rel r X).cK Oi;replace Y:w.grownBy (setCells J ⟨g,i*4,none⟩ [.bool b5,.slice a5 n5 c5,.bool b6,.slice a6 n6 c6]) (some g):=fg (df Y r.cU) PC;have Pa:=fun id b hb R=>Rel.not r (fun _ h=>h) (PQ Od g rfl) id b hb R;have hwsz:=r.cI;clear r PW PB Rl PR RX hF5 Oi Qb PC;refine⟨by rw[PI],fun k D=>by rw[PI];exact Of k D,fun id b hb R=>by rw[PI];exact Pa id b hb R,fun V PE=>?_⟩;have PE:V=setCells J ⟨g,i*4,none⟩ [.bool b5,.slice a5 n5 c5,.bool b6,.slice a6 n6 c6]:=by rw[PE];exact congrArg (fun x=>setCells J x _) PI
  rw[<-PE]at Vb TO QW Y PN;clear PE Of Pa;conv=>whnf
  refine⟨((i+1:Nat):Int),wo,?_⟩;conv=>whnf
  intro GT w3 E
  exact⟨(i+1,Z.set i [.bool b5,.slice a5 n5 c5,.bool b6,.slice a6 n6 c6],Od,w3),⟨h,df Y E.cU,fc QW (PQ Od) E,by simpa using Pu,Vb.rel E X,TO.rel E X⟩,
   Sub.gn [] E,by dsimp only;omega⟩
 ·have h:i=n:=by
   have:¬i<n:=by simpa using h
   omega
  subst h;conv=>whnf
  intro In w5 r5;refine⟨rfl,df Y r5.cU,Z,fc Oa (PQ iv) r5,Pu,?_⟩;have:=(PW.rel r5 X).cN (S':=Nw S w w5) fun g Y=>Cv.nw Y r5
  rwa [<-SZ,Mq]at this
def iJ(i:Nat)(f:Nat->Rat->Rat)(qs:List Rat):List Rat:=qs.mapIdx fun j q=>if j<i then f j q else q
theorem oz(f:Nat->Rat->Rat)(qs:List Rat):iJ 0 f qs=qs:=by
 apply bF;intro j;simp[iJ]
theorem rU(f:Nat->Rat->Rat)(qs:List Rat):iJ qs.length f qs=qs.mapIdx f:=by
 apply bF;intro j;simp only[iJ,List.getElem?_mapIdx]
 cases h:qs[j]? with
 |none=>rfl
 |some q=>simp[(aD.1 h).1]
theorem mD{f:Nat->Rat->Rat}(h:qs[i]? =some q):(iJ i f qs).set i (f i q)=iJ (i+1) f qs:=by
 apply bF;intro j;have A:=(aD.1 h).1;by_cases Pr:i=j
 ·subst Pr;rw[aP (by simp[iJ];exact A)];simp[iJ,List.getElem?_mapIdx,h]
 ·rw[aS Pr];simp only[iJ,List.getElem?_mapIdx]
  have:(j<i)↔(j<i+1):=by omega
  simp[this]
theorem Aw{f:Nat->Rat->Rat}(h:qs[i]? =some q)(hf:f i q=q):iJ i f qs=iJ (i+1) f qs:=by
 rw[<-mD h,hf];apply bF;intro j;have A:=(aD.1 h).1;by_cases Pr:i=j
 ·subst Pr;rw[aP (by simp[iJ];exact A)];simp[iJ,List.getElem?_mapIdx,h]
 ·rw[aS Pr]
theorem uv{f:Nat->Rat->Rat}(h:qs[i]? =some q):(iJ i f qs)[i]? =some q:=by
 simp only[iJ,List.getElem?_mapIdx,h]
 simp
def fU(w:World)(C S:Nat->Prop)(v:Value)(qs:List Rat):Prop:=∃Z,ie w C 4 v Z.flatten qs.length/\Fr w S Z qs
section
variable{C C' S S':Nat->Prop}{H:Hp}{nx:Nat}{iv K:Iv}{B:Nat}{w J V:World}{O:Nat->Sx.dq}{v:Value}{qs:List Rat}
theorem fU.cK(h:fU w C S v qs)(D:∀g,C g\/S g->V.heap[g]? =w.heap[g]?):fU V C S v qs:=by
 obtain⟨Z,L,G⟩:=h;exact⟨Z,L.cK fun g Y=>D g (.inl Y),G.cK fun g Y=>D g (.inr Y)⟩
theorem fU.cN(h:fU w C S v qs)(D:∀g,C g->C' g)(Sp:∀g,S g->S' g):fU w C' S' v qs:=by
 obtain⟨Z,L,G⟩:=h;exact⟨Z,L.cN D,G.cN Sp⟩
theorem fU.rel(h:fU w (Cv C B iv) (Cv S B iv) v qs)(r:Rel H nx iv B w O J)(hC:∀g,C g->g<B)(X:∀g,S g->g<B):fU J (Cv C B iv) (Cv S B iv) v qs:=
 h.cK fun _ Y=>Y.elim (Rel.same r hC) (Rel.same r X)
theorem fU.cM(h:fU w (Cv C B iv) (Cv S B iv) v qs)(r:Rel H nx iv B w O J)(hC:∀g,C g->g<B)(X:∀g,S g->g<B)(U:Ext J V)(hm:∀p,p∈iv->p∈K):fU V (Cv C B K) (Cv S B K) v qs:=
 ((h.rel r hC X).cK fun g Y=>U.block g (Y.elim (Rel.old r hC g) (Rel.old r X g))).cN (fun _ Y=>Y.mono hm) (fun _ Y=>Y.mono hm)
theorem fU.arg(h:fU w C S v qs)(iv:Iv):fU w (Cv C w.heap.size iv) (Cv S w.heap.size iv) v qs:=h.cN (fun _ h=>.inl h) (fun _ h=>.inl h)
end
theorem fU.shape(h:fU w C S v qs):∃a c,v= .slice a qs.length c/\qs.length<=c/\qs.length<=maxLen:=by
 obtain⟨Z,⟨h0,_,_,a,c,L,G,_⟩,_⟩:=h;exact⟨a,c,L,G,h0⟩
theorem fU.load{c:Nat}(h:fU w C S (.slice a n c) qs)(hq:qs[j]? =some q):
  ∃ad W,a=some ad/\oH w S W q/\∀k u,W[k]? =some u->C ad.block/\w.cell? ((ad.add (j*4)).add k)=some u:=by
 obtain⟨Z,⟨h0,L,G,a',c',e,N,h4⟩,hf⟩:=h;injection e with e1 e2 e3;subst e1;obtain⟨W,PS⟩:∃W,Z[j]? =some W:=⟨_,aA (by rw[hf.1];exact(aD.1 hq).1)⟩
 have hF:=hf.2 j W q PS hq;have hl:=hF.len;obtain⟨ad,k1,k2,k3⟩:=h4 (j*4+0) _ (flat_get hf.mR PS 0 _ (aA (show 0<W.length by omega)));refine⟨ad,W,k1,hF,fun k u hu=>?_⟩;obtain⟨ad2,m1,m2,m3⟩:=h4 (j*4+k) u (flat_get hf.mR PS k u hu);rw[k1]at m1;injection m1 with m1;subst m1;refine⟨m2,?_⟩;rw[<-m3];have:(ad.add (j*4)).add k=ad.add (j*4+k):=by
  unfold Addr.add;split<;>split<;>simp_all<;>omega
 rw[this]
def pI(p:Rat)(ps:List Rat)(j:Nat)(q:Rat):Rat:=q+p*ps.getD j 0
theorem Gi(ps qs:List Rat):qs.mapIdx (pI 0 ps)=qs:=by
 apply bF;intro j;rw[List.getElem?_mapIdx]
 cases qs[j]? with
 |none=>rfl
 |some q=>exact congrArg some (by rw[pI,bE,bU])
theorem aBJ{vby vs:Value}{ps:List Rat}(hC:Old C w)(X:Old S w)(Oa:w.ownsRow 0 T.eB 4 v n Z.flatten)(PW:Fr w S Z qs)(Pu:Z.length=n)(PB:cd w S vby p)
  (hs:fU w C S vs ps) (Pv:ps.length=n) (SG:∀g,v.ownBlock=some g->¬S g) (hdc:∀g,v.ownBlock=some g->¬C g) (hq:∀q∈qs,rl q<=2000000000) (hps:∀q∈ps,rl q<=2000000000) (hb:rl p<=2000000000):
  eI PG F'.sN #[v,vby,vs] w (fun e V=>e= .returned (.tuple #[])/\w.grownBy V v.ownBlock/\∃css',V.ownsRow 0 T.eB 4 v n css'.flatten/\css'.length=n/\Fr V (Nw S w V) css' (qs.mapIdx (pI p ps))):=by
 have Og:∀g,v.ownBlock=some g->g<w.heap.size:=fun g Y=>(ownsRow.low Oa g Y).2;have PQ:∀iv g,v.ownBlock=some g->Out w.heap.size iv g:=fun iv g Y=>.inl (Og g Y);have TN:∀iv g,v.ownBlock=some g->¬Cv S w.heap.size iv g:=fun iv g Y h=>by
  rcases h with h|⟨h,_⟩
  ·exact SG g Y h
  ·have:=Og g Y;omega
 have VY:∀iv g,v.ownBlock=some g->¬Cv C w.heap.size iv g:=fun iv g Y h=>by
  rcases h with h|⟨h,_⟩
  ·exact hdc g Y h
  ·have:=Og g Y;omega
 have SZ:qs.length=n:=by rw[<-PW.1,Pu]
 obtain⟨a,c,rfl,Tl⟩:=fF Oa;obtain⟨b1,a1,n1,c1,b2,a2,n2,c2,rfl⟩:=PB.shape;obtain⟨asl,cs0,rfl,RS,Uc⟩:=hs.shape;rw[Pv]at RS Uc hs ⊢;unfold maxLen at Uc;replace PW:=PW.arg [];replace PB:=PB.arg [];replace hs:=hs.arg [];refine wR (by simp) ?_;conv=>whnf
 refine cJ (cO (If:=fun _ _ v _=>v= .int .i64 (rs p)) (fun O J r=>vG (Rel.old r X) (PB.rel r X)) ?_);rintro O wa v1 wb r U PD rfl;replace PB:=PB.cM (K:=(wa.heap.size,wb.heap.size)::[]) r X U fun x F=>aB _ F;replace PW:=PW.cM (K:=(wa.heap.size,wb.heap.size)::[]) r X U fun x F=>aB _ F;replace hs:=hs.cM (K:=(wa.heap.size,wb.heap.size)::[]) r hC X U fun x F=>aB _ F;have PR:wb.ownsRow 0 T.eB 4 (.slice a n c) n Z.flatten:=ownsRow.cK (fc Oa (PQ []) r) fun b hb=>U.block b (by have:=Og b hb;have:=r.cI;omega);have Y:w.grownBy wb (Value.slice a n c).ownBlock:=mo PD;clear r U PD Oa;generalize (wa.heap.size,wb.heap.size)::[]=iv at*
 conv=>whnf
 refine dQ.mk ?_ ?_<;>intro h0
 ·have h0:p=0:=by
   have:rs p=0:=eq_of_beq h0;exact Rat.num_eq_zero.1 (bo.1 this)
  conv=>whnf
  intro In w5 r5;refine⟨rfl,df Y r5.cU,Z,fc PR (PQ iv) r5,Pu,?_⟩;have:=(PW.rel r5 X).cN (S':=Nw S w w5) fun g Y=>Cv.nw Y r5;rw[h0,Gi];exact this
 clear h0;conv=>whnf
 refine⟨Nat×List (List Value)×Iv×World,fun z=>⟨[(0,sV a n c),(4,pP 0 0),(11,sV asl n cs0),(12,iZ n),(13,iZ z.1)],
   [(0,.box T.eB [.v (.bool b1),.v (.slice a1 n1 c1),.v (.bool b2),.v (.slice a2 n2 c2)])],1,z.2.2.1,z.2.2.2⟩,fun z=>n-z.1,
  fun z=>z.1<=n/\w.grownBy z.2.2.2 (Value.slice a n c).ownBlock/\z.2.2.2.ownsRow 0 T.eB 4 (.slice a n c) n z.2.1.flatten/\z.2.1.length=n/\Fr z.2.2.2 (Cv S w.heap.size z.2.2.1) z.2.1 (iJ z.1 (pI p ps) qs)/\
   cd z.2.2.2 (Cv S w.heap.size z.2.2.1) (.agg #[.bool b1,.slice a1 n1 c1,.bool b2,.slice a2 n2 c2]) p/\fU z.2.2.2 (Cv C w.heap.size z.2.2.1) (Cv S w.heap.size z.2.2.1) (.slice asl n cs0) ps,?_,?_⟩
 ·intro O J r
  refine⟨(0,Z,iv,J),⟨by simp,df Y r.cU,fc PR (PQ iv) r,Pu,by rw[oz];exact PW.rel r X,PB.rel r X,hs.rel r hC X⟩,
   Sub.gn [] r⟩
 clear PR PW PB Pu hs Y;rintro⟨i,Z,iv,w1⟩ ⟨A,Y,Oa,Pu,PW,PB,hs⟩;dsimp only at A Y Oa Pu PW PB hs ⊢;conv=>whnf
 refine dQ.mk ?_ ?_<;>intro h
 ·have h:i<n:=by simpa using h
  obtain⟨W,PS⟩:∃W,Z[i]? =some W:=⟨_,aA (by omega)⟩
  obtain⟨q,SA⟩:∃q,qs[i]? =some q:=⟨_,aA (by omega)⟩
  obtain⟨f,Tm⟩:∃f,ps[i]? =some f:=⟨_,aA (by omega)⟩
  have hF:=PW.2 i W q PS (uv SA);have VZ:pI p ps i q=q+p*f:=by simp[pI,List.getD,Tm]
  obtain⟨d1,e1,m1,k1,d2,e2,m2,k2,rfl,hF⟩:=hF;have Wk:=hq q (aC SA);have hrlf:=hps f (aC Tm);obtain⟨ad,fcs,PI,UM,PL⟩:=hs.load Tm;obtain⟨f1,g1,o1,u1,f2,g2,o2,u2,rfl,UM⟩:=UM;conv=>whnf
  refine⟨ad,PI,by omega,?_⟩;conv=>whnf
  refine⟨[.bool f1,.slice g1 o1 u1,.bool f2,.slice g2 o2 u2],rfl,fun O J r j x F=>?_,?_⟩
  ·have Qm:=hs.rel r hC X;obtain⟨k2',k3⟩:=PL j x F;have:=Rel.same r hC k2';rw[aE,cL (w:=w1) (V:=J) (by rw[dF,dF];exact this)];exact k3
  conv=>whnf
  refine cJ (cO (If:=fun _ _ v _=>v= .int .i64 (rs f)) (fun O J r=>vG (Rel.old r X) (UM.rel r X)) ?_);rintro O wa v1 wb r U PD rfl;replace PB:=PB.cM (K:=(wa.heap.size,wb.heap.size)::iv) r X U fun x F=>aB _ F;replace PW:=PW.cM (K:=(wa.heap.size,wb.heap.size)::iv) r X U fun x F=>aB _ F;replace hs:=hs.cM (K:=(wa.heap.size,wb.heap.size)::iv) r hC X U fun x F=>aB _ F;replace UM:=UM.cM (K:=(wa.heap.size,wb.heap.size)::iv) r X U fun x F=>aB _ F;replace hF:=hF.cM (K:=(wa.heap.size,wb.heap.size)::iv) r X U fun x F=>aB _ F;replace Oa:wb.ownsRow 0 T.eB 4 (.slice a n c) n Z.flatten:=ownsRow.cK (fc Oa (PQ iv) r) fun b hb=>U.block b (by have:=Og b hb;have:=r.cI;omega);replace Y:w.grownBy wb _:=df Y PD;clear r U PD PL;generalize (wa.heap.size,wb.heap.size)::iv=Od at*
  conv=>whnf
  refine dQ.mk ?_ ?_<;>intro hz
  ·conv=>whnf
   refine cR hτ dx [.x 0,.x 1,.x 2,.x 3,.x 4,.x 5,.x 6,.x 7,.x 8,.x 9,.x 10,.x 11] (by kernel_rfl) (by kernel_rfl) ?_;conv=>whnf
   obtain⟨g,rfl,PK⟩:=rC Oa PW PS;refine⟨⟨g,0,none⟩,rfl,by omega,?_⟩;conv=>whnf
   refine⟨[.bool d1,.slice e1 m1 k1,.bool d2,.slice e2 m2 k2],rfl,fun O J r j x F=>?_,?_⟩
   ·have:=rC (fc Oa (PQ Od) r) (PW.rel r X) PS;obtain⟨g',L,G⟩:=this;injection L with L;rw[<-L]at G;exact G j x F
   conv=>whnf
   have R6:=iA p f;refine cO (If:=fun _ J v V=>cd V (Nf J V) v (p*f)) (fun O J r=>BL (Rel.old r X) (PB.rel r X) (UM.rel r X) (by omega) (by omega)) ?_;rintro O wa v1 wb r U PD hP;have Rl:=hP.dK (S:=S) r.cI (iv:=(wa.heap.size,wb.heap.size)::Od) aF;replace PB:=PB.cM (K:=(wa.heap.size,wb.heap.size)::Od) r X U fun x F=>aB _ F;replace PW:=PW.cM (K:=(wa.heap.size,wb.heap.size)::Od) r X U fun x F=>aB _ F;replace hs:=hs.cM (K:=(wa.heap.size,wb.heap.size)::Od) r hC X U fun x F=>aB _ F;replace hF:=hF.cM (K:=(wa.heap.size,wb.heap.size)::Od) r X U fun x F=>aB _ F;replace Oa:wb.ownsRow 0 T.eB 4 (.slice (some ⟨g,0,none⟩) n c) n Z.flatten:=ownsRow.cK (fc Oa (PQ Od) r) fun b hb=>U.block b (by have:=Og b hb;have:=r.cI;omega);replace Y:w.grownBy wb _:=df Y PD;clear r U PD hP UM PK;generalize (wa.heap.size,wb.heap.size)::Od=Oq at*
   obtain⟨b5,a5,n5,c5,b6,a6,n6,c6,rfl⟩:=Rl.shape;conv=>whnf
   refine cO (If:=fun _ J v V=>cd V (Nf J V) v (q+p*f)) (fun O J r=>Ee (Rel.old r X) (hF.rel r X) (Rl.rel r X) (by omega) (by omega)) ?_;rintro O wc v2 wd r U PD hQ;have Va:=hQ.dK (S:=S) r.cI (iv:=(wc.heap.size,wd.heap.size)::Oq) aF;replace PB:=PB.cM (K:=(wc.heap.size,wd.heap.size)::Oq) r X U fun x F=>aB _ F;replace PW:=PW.cM (K:=(wc.heap.size,wd.heap.size)::Oq) r X U fun x F=>aB _ F;replace hs:=hs.cM (K:=(wc.heap.size,wd.heap.size)::Oq) r hC X U fun x F=>aB _ F;replace Oa:wd.ownsRow 0 T.eB 4 (.slice (some ⟨g,0,none⟩) n c) n Z.flatten:=ownsRow.cK (fc Oa (PQ Oq) r) fun b hb=>U.block b (by have:=Og b hb;have:=r.cI;omega);replace Y:w.grownBy wd _:=df Y PD;clear r U PD hQ Rl hF;generalize (wc.heap.size,wd.heap.size)::Oq=Ox at*
   obtain⟨b7,a7,n7,c7,b8,a8,n8,c8,rfl⟩:=Va.shape;rw[<-VZ]at Va;conv=>whnf
   refine⟨⟨g,0,none⟩,rfl,by omega,?_⟩;conv=>whnf
   intro O J r;have RX:=fc Oa (PQ Ox) r;have hF5:=(Va.rel r X).four;obtain⟨g',Qr,Of,QW,PC,PN⟩:=j3 (nv:=[.bool b7,.slice a7 n7 c7,.bool b8,.slice a8 n8 c8]) RX rfl h rfl (by decide);injection Qr with Qr;injection Qr with Qr;subst Qr;have Qb:=iI (W:=[.bool b7,.slice a7 n7 c7,.bool b8,.slice a8 n8 c8]) PW.mR (show i<Z.length by omega);rw[Qb]at QW;have Oi:∀x,Cv S w.heap.size Ox x->(setCells J ⟨g,i*4,none⟩ [.bool b7,.slice a7 n7 c7,.bool b8,.slice a8 n8 c8]).heap[x]? =J.heap[x]? :=fun x F=>
    PC.block x (Rel.old r X x F) fun e=>TN Ox g rfl (by injection e with e;rw[<-e];exact F)
   have Pg:(⟨g,0,none⟩:Addr).add ((i:Int).toNat*4)=⟨g,i*4,none⟩:=by rw[aE,dL,aT]
   have Vb:=((PW.rel r X).cK Oi).set (j:=i) (hF5.cK Oi);rw[mD (f:=pI p ps) SA]at Vb;have TO:=(PB.rel r X).cK Oi;have Su:∀x,Cv C w.heap.size Ox x->(setCells J ⟨g,i*4,none⟩ [.bool b7,.slice a7 n7 c7,.bool b8,.slice a8 n8 c8]).heap[x]? =J.heap[x]? :=fun x F=>
    PC.block x (Rel.old r hC x F) fun e=>VY Ox g rfl (by injection e with e;rw[<-e];exact F)
   have hs6:=(hs.rel r hC X).cK fun x F=>F.elim (Su x) (Oi x);clear Su;replace Y:w.grownBy (setCells J ⟨g,i*4,none⟩ [.bool b7,.slice a7 n7 c7,.bool b8,.slice a8 n8 c8]) (some g):=fg (df Y r.cU) PC;have Pa:=fun id b hb R=>Rel.not r (fun _ h=>h) (PQ Ox g rfl) id b hb R;clear r PW PB Va Oa RX hF5 Oi Qb PC hs;refine⟨by rw[Pg],fun k D=>by rw[Pg];exact Of k D,fun id b hb R=>by rw[Pg];exact Pa id b hb R,fun V PE=>?_⟩;have PE:V=setCells J ⟨g,i*4,none⟩ [.bool b7,.slice a7 n7 c7,.bool b8,.slice a8 n8 c8]:=by rw[PE];exact congrArg (fun x=>setCells J x _) Pg
   rw[<-PE]at Vb TO QW Y PN hs6;clear PE Of Pa;conv=>whnf
   refine⟨((i+1:Nat):Int),wo,?_⟩;conv=>whnf
   intro GT w3 E
   exact⟨(i+1,Z.set i [.bool b7,.slice a7 n7 c7,.bool b8,.slice a8 n8 c8],Ox,w3),⟨h,df Y E.cU,fc QW (PQ Ox) E,by simpa using Pu,Vb.rel E X,TO.rel E X,hs6.rel E hC X⟩,
    Sub.gn [] E,by dsimp only;omega⟩
  ·have Wl:f=0:=by
    have:rs f=0:=by
     have L:(rs f==0)=true:=by simpa using hz
     exact eq_of_beq L
    exact Rat.num_eq_zero.1 (bo.1 this)
   have Oh:pI p ps i q=q:=by rw[VZ,Wl,ah,bU]
   conv=>whnf
   refine⟨((i+1:Nat):Int),wo,?_⟩;conv=>whnf
   intro GT w3 E
   exact⟨(i+1,Z,Od,w3),⟨h,df Y E.cU,fc Oa (PQ Od) E,Pu,by rw[<-Aw SA Oh];exact PW.rel E X,PB.rel E X,hs.rel E hC X⟩,
    Sub.gn [] E,by dsimp only;omega⟩
 ·have h:i=n:=by
   have:¬i<n:=by simpa using h
   omega
  subst h;conv=>whnf
  intro In w5 r5;refine⟨rfl,df Y r5.cU,Z,fc Oa (PQ iv) r5,Pu,?_⟩;have:=(PW.rel r5 X).cN (S':=Nw S w w5) fun g Y=>Cv.nw Y r5
  rwa [<-SZ,rU]at this
end Go.Ex
namespace Go.Ex
variable{M:List (List Rat)}{s:List (List Rat)×List Nat}{cols h i n:Nat}
def dD(M:List (List Rat))(i c:Nat):Rat:=(M.getD i []).getD c 0
def fw(M:List (List Rat))(c:Nat):Nat->Nat->Nat
 |0,k=>k
 |f+1,k=>if dD M k c=0 then fw M c f (k+1)else k
def gH{α:Type}(d:α)(l:List α)(i j:Nat):List α:=(l.set i (l.getD j d)).set j (l.getD i d)
def tj(p:Rat)(ps:List Rat)(j:Nat)(q:Rat):Rat:=q+p*ps.getD j 0
def du(M:List (List Rat))(at_ c i:Nat):List (List Rat):=M.mapIdx fun j r=>if j<i/\j≠at_ then r.mapIdx (tj (-(r.getD c 0)) (M.getD at_ []))else r
def scaled(M:List (List Rat))(at_ c:Nat):List (List Rat):=M.set at_ ((M.getD at_ []).map (· *(1 / dD M at_ c)))
def dW(s:List (List Rat)×List Nat)(c:Nat):List (List Rat)×List Nat:=
 if s.2.length<s.1.length then
  let k:=fw s.1 c (s.1.length-s.2.length) s.2.length
  if k=s.1.length then s else
   let M1:=scaled (gH [] s.1 s.2.length k) s.2.length c
   (du M1 s.2.length c M1.length,s.2++[c])
 else s
def cQ(M:List (List Rat))(cols:Nat):List (List Rat)×List Nat:=(List.range cols).foldl dW (M,[])
theorem AH{s:List (List Rat)×List Nat}(h:¬s.2.length<s.1.length):∀l:List Nat,l.foldl dW s=s
 |[]=>rfl
 |c::r=>by
  rw[List.foldl_cons];have:dW s c=s:=by rw[dW,aH h]
  rw[this];exact AH h r
theorem gE{α:Type}(d:α)(l:List α)(i j:Nat):(gH d l i j).length=l.length:=by simp[gH]
theorem lj(M:List (List Rat))(a c i:Nat):(du M a c i).length=M.length:=by simp[du]
theorem j5(M:List (List Rat))(a c:Nat):(scaled M a c).length=M.length:=by simp[scaled]
theorem oW(s:List (List Rat)×List Nat)(c:Nat):(dW s c).1.length=s.1.length:=by
 unfold dW;split
 ·dsimp only
  split
  ·rfl
  ·dsimp only
   rw[lj,j5,gE]
 ·rfl
theorem tm(M:List (List Rat))(c:Nat):∀f k,k<=fw M c f k/\fw M c f k<=k+f
 |0,k=>⟨Nat.le_refl _,Nat.le_refl _⟩
 |f+1,k=>by
  unfold fw;split
  ·have:=tm M c f (k+1);omega
  ·omega
theorem tp(M:List (List Rat))(c:Nat):∀f k,fw M c f k<k+f->dD M (fw M c f k) c≠0
 |0,k,h=>by simp[fw]at h
 |f+1,k,h=>by
  unfold fw at h ⊢;split
  ·rename_i h0;rw[if_pos h0]at h;exact tp M c f (k+1) (by omega)
  ·rename_i h0;exact h0
theorem zS{c f k:Nat}(h:dD M k c=0):fw M c (f+1) k=fw M c f (k+1):=by rw[fw,if_pos h]
theorem zT{c f k:Nat}(h:dD M k c≠0):fw M c (f+1) k=k:=by rw[fw,aH h]
theorem Df(M:List (List Rat))(a c:Nat):du M a c 0=M:=by
 apply bF;intro j;simp[du]
theorem zW(M:List (List Rat))(a c i:Nat):(du M a c i)[a]? =M[a]? :=by
 simp only[du,List.getElem?_mapIdx]
 cases M[a]? <;>simp
theorem HW(M:List (List Rat))(a c i j:Nat)(h:i<=j):(du M a c i)[j]? =M[j]? :=by
 simp only[du,List.getElem?_mapIdx]
 cases M[j]? with
 |none=>rfl
 |some r=>simp;omega
theorem Dh{a c:Nat}{r:List Rat}(h:M[i]? =some r)(Oe:i≠a):(du M a c i).set i (r.mapIdx (tj (-(r.getD c 0)) (M.getD a [])))=du M a c (i+1):=by
 apply bF;intro j;have A:=(aD.1 h).1;by_cases Pr:i=j
 ·subst Pr;rw[aP (by rw[lj];exact A)];simp[du,List.getElem?_mapIdx,h,Oe]
 ·rw[aS Pr];simp only[du,List.getElem?_mapIdx]
  have:(j<i)↔(j<i+1):=by omega
  simp[this]
theorem Di(M:List (List Rat))(a c:Nat):du M a c a=du M a c (a+1):=by
 apply bF;intro j;simp only[du,List.getElem?_mapIdx]
 have:(j<a/\j≠a)↔(j<a+1/\j≠a):=by omega
 simp[this]
def Ht(M:List (List Rat))(h:Nat):Prop:=∀r∈M,∀q∈r,rl q+1<=h
theorem Ht.mono{h':Nat}(H:Ht M h)(k:h<=h'):Ht M h':=fun r hr q hq=>aW (H r hr q hq) k
theorem Ht.at{r:List Rat}(H:Ht M h)(A:M[i]? =some r):∀q∈r,rl q+1<=h:=H r (aC A)
theorem Ht.swap{j:Nat}(H:Ht M h)(A:i<M.length)(hj:j<M.length):Ht (gH [] M i j) h:=by
 intro r hr;have:r∈M:=by
  unfold gH at hr;rcases bC hr with L|L
  ·rcases bC L with G|G
   ·exact G
   ·rw[G,List.getD,aA hj];exact aY hj
  ·rw[L,List.getD,aA A];exact aY A
 exact H r this
theorem aA4:rl 1=1:=by decide
theorem Dj{q:Rat}(h:q≠0):rl (1 / q)<=rl q+1:=by
 have:=Lk 1 h;rw[aA4]at this;omega
theorem ma{r:List Rat}(H:∀q∈r,rl q+1<=h)(G:2<=h)(c:Nat):rl (r.getD c 0)+1<=h:=by
 rw[List.getD]
 cases hc:r[c]? with
 |none=>simp;exact aW (by decide) G
 |some q=>simp;exact H q (aC hc)
theorem CR{j:Nat}(A:i<M.length)(hj:j<M.length):(gH [] M i j)[i]? =M[j]? :=by
 unfold gH;by_cases h:j=i
 ·subst h;rw[aP (by simpa using A),List.getD,aA A];rfl
 ·rw[aS h,aP A,List.getD,aA hj];rfl
theorem zV{j c:Nat}(A:i<M.length)(hj:j<M.length):dD (gH [] M i j) i c=dD M j c:=by
 simp only[dD,List.getD,CR A hj]
theorem Ht.scaled{a c:Nat}(H:Ht M h)(G:2<=h)(ha:a<M.length)(h0:dD M a c≠0):
  (∀r,(scaled M a c)[a]? =some r->∀q∈r,rl q+1<=2*h)/\∀j r,j≠a->(scaled M a c)[j]? =some r->∀q∈r,rl q+1<=h:=by
 have hA:M[a]? =some M[a]:=aA ha;have Ra:M.getD a []=M[a]:=by rw[List.getD,hA];rfl
 refine⟨fun r hr q hq=>?_,fun j r hj hr q hq=>?_⟩
 ·unfold Go.Ex.scaled at hr;rw[aP ha]at hr;injection hr with hr;subst hr;obtain⟨p,hp,rfl⟩:=aU.1 hq;rw[Ra]at hp;have L:=H.at hA p hp;have N:=iA p (1 / dD M a c);have h4:=Dj h0;have h5:=ma (H.at hA) G c;have h6:dD M a c=M[a].getD c 0:=by rw[dD,Ra]
  rw[h6]at h4 N;rw[h6];omega
 ·unfold Go.Ex.scaled at hr;rw[aS (Ne.symm hj)]at hr;exact H.at hr q hq
theorem Ht.Ig{a c:Nat}(hA:∀r,M[a]? =some r->∀q∈r,rl q+1<=2*h)(hB:∀j r,j≠a->M[j]? =some r->∀q∈r,rl q+1<=h)(G:2<=h):Ht (du M a c i) (4*h):=by
 intro r hr q hq;obtain⟨j,hj⟩:=aN hr;simp only[du,List.getElem?_mapIdx,Option.map_eq_some_iff]at hj;obtain⟨r0,Wg,hj⟩:=hj;split at hj
 ·rename_i hc;subst hj;obtain⟨x,F⟩:=aN hq;simp only[List.getElem?_mapIdx,Option.map_eq_some_iff]at F;obtain⟨q0,VW,rfl⟩:=F;have L:=hB j r0 hc.2 Wg q0 (aC VW);have N:=ma (hB j r0 hc.2 Wg) G c;have h4:rl ((M.getD a []).getD x 0)+1<=2*h:=by
   cases hM:M[a]? with
   |none=>
    have:M.getD a []=[]:=by rw[List.getD,hM];rfl
    rw[this];show rl 0+1<=_;exact aW (by decide) (show 2<=2*h by omega)
   |some ra=>
    have:M.getD a []=ra:=by rw[List.getD,hM];rfl
    rw[this];exact ma (hA ra hM) (by omega) x
  unfold tj;have h5:=oh q0 (-(r0.getD c 0)*(M.getD a []).getD x 0);have h6:=iA (-(r0.getD c 0)) ((M.getD a []).getD x 0);have h7:=lh (r0.getD c 0);omega
 ·subst hj;by_cases Wh:j=a
  ·subst Wh;have:=hA r0 Wg q hq;omega
  ·have:=hB j r0 Wh Wg q hq;omega
def Inv(M:List (List Rat))(cols h0:Nat)(s:List (List Rat)×List Nat):Prop:=s.1.length=M.length/\s.2.length<=M.length/\(∀p∈s.2,p<cols)/\Ht s.1 (4^s.2.length*h0)
theorem Inv.step{h0 c:Nat}(h:Inv M cols h0 s)(hc:c<cols)(G:2<=h0):Inv M cols h0 (dW s c):=by
 obtain⟨L,N,h4,h5⟩:=h;unfold dW;split
 ·rename_i Ow;dsimp only
  split
  ·exact⟨L,N,h4,h5⟩
  ·rename_i D;have hle:=tm s.1 c (s.1.length-s.2.length) s.2.length;have VV:fw s.1 c (s.1.length-s.2.length) s.2.length<s.1.length:=by omega
   have Oe:=tp s.1 c (s.1.length-s.2.length) s.2.length (by omega);have hH2:2<=4^s.2.length*h0:=aW G (Nat.le_mul_of_pos_left _ (Nat.pow_pos (by decide)));have h6:=h5.swap Ow VV;have h7:=h6.scaled (a:=s.2.length) (c:=c) hH2 (by rw[gE];exact Ow) (by rw[zV Ow VV];exact Oe);refine⟨by dsimp only;rw[lj,j5,gE,L],by simp;omega,fun p hp=>?_,?_⟩
   ·dsimp only at hp;rcases bB.1 hp with hp|hp
    ·exact h4 p hp
    ·simp at hp;omega
   ·dsimp only
    have:4^(s.2++[c]).length*h0=4*(4^s.2.length*h0):=by
     rw[List.length_append,List.length_singleton,Nat.pow_succ,bT (4^s.2.length) 4,bg]
    rw[this];exact Ht.Ig h7.1 h7.2 hH2
 ·exact⟨L,N,h4,h5⟩
theorem xR{h0:Nat}(h:Ht M h0)(G:2<=h0):Inv M cols h0 (cQ M cols):=by
 have key:∀(l:List Nat) (s:List (List Rat)×List Nat),(∀c∈l,c<cols)->Inv M cols h0 s->Inv M cols h0 (l.foldl dW s):=by
  intro l
  induction l with
  |nil=>intro s _ hs;exact hs
  |cons c r ih=>
   intro s hc hs;rw[List.foldl_cons];exact ih _ (fun x F=>hc x (aB _ F)) (hs.step (hc c aF) G)
 exact key _ _ (fun c hc=>List.mem_range.1 hc) ⟨rfl,aQ _,by simp,by simpa using h⟩
def fZ(n:Nat)(M:List (List Rat)):Prop:=∀r∈M,r.length=n
theorem fZ.set{r:List Rat}(h:fZ n M)(hr:r.length=n):fZ n (M.set i r):=fun x F=>by
 rcases bC F with L|L
 ·exact h x L
 ·rw[L];exact hr
theorem fZ.getD(h:fZ n M)(A:i<M.length):(M.getD i []).length=n:=by
 rw[List.getD,aA A];exact h _ (aY A)
theorem fZ.step{c:Nat}(h:fZ n s.1):fZ n (dW s c).1:=by
 unfold dW;split
 ·rename_i Ow;dsimp only
  split
  ·exact h
  ·rename_i D;have hle:=tm s.1 c (s.1.length-s.2.length) s.2.length;have VV:fw s.1 c (s.1.length-s.2.length) s.2.length<s.1.length:=by omega
   dsimp only
   generalize fw s.1 c (s.1.length-s.2.length) s.2.length=k at*
   have L:fZ n (gH [] s.1 s.2.length k):=(h.set (h.getD VV)).set (h.getD Ow);have G:fZ n (scaled (gH [] s.1 s.2.length k) s.2.length c):=L.set (by rw[aJ];exact L.getD (by rw[gE];exact Ow));intro r hr;obtain⟨j,hj⟩:=aN hr;simp only[du,List.getElem?_mapIdx,Option.map_eq_some_iff]at hj;obtain⟨r0,Wg,hj⟩:=hj;have N:=G r0 (aC Wg);split at hj
   ·subst hj;rw[List.length_mapIdx];exact N
   ·subst hj;exact N
 ·exact h
theorem Fx(h:fZ n M):fZ n (cQ M cols).1:=by
 have key:∀(l:List Nat) (s:List (List Rat)×List Nat),fZ n s.1->fZ n (l.foldl dW s).1:=by
  intro l
  induction l with
  |nil=>intro s hs;exact hs
  |cons c r ih=>intro s hs;exact ih _ hs.step
 exact key _ _ h
end Go.Ex
namespace Go.Ex
open Go Go.Sx Go.Proofs
variable{qs':List Rat}{i:Nat}
structure iq(w:World)(S:Nat->Prop)(vm:Value)(rv:List Value)(n:Nat)(M:List (List Rat)):Prop where
 out:w.ownsRow 0 T.row 1 vm rv.length rv
 len:rv.length=M.length
 row:∀(i:Nat) v qs,rv[i]? =some v->M[i]? =some qs->∃Z,w.ownsRow 0 T.eB 4 v n Z.flatten/\Z.length=n/\Fr w S Z qs
 uw:∀(i j:Nat) a b g,rv[i]? =some a->rv[j]? =some b->a.ownBlock=some g->b.ownBlock=some g->i=j
 Hs:∀v∈rv,∀g,v.ownBlock=some g->vm.ownBlock≠some g
def Mb(vm:Value)(rv:List Value)(g:Nat):Prop:=vm.ownBlock=some g\/∃v∈rv,v.ownBlock=some g
structure Kept(w V:World)(Do:Nat->Prop):Prop where
 os:V.os=w.os
 tape:V.tape=w.tape
 output:V.output=w.output
 size:w.heap.size<=V.heap.size
 block:∀k,k<w.heap.size->¬Do k->V.heap[k]? =w.heap[k]?
section
variable{S S' Do:Nat->Prop}{H:Hp}{nx n:Nat}{iv K:Iv}{B:Nat}{w J V w3:World}{O:Nat->Sx.dq}{vm:Value}{rv:List Value}{M:List (List Rat)}
theorem Kept.refl:Kept w w Do:=⟨rfl,rfl,rfl,Nat.le_refl _,fun _ _ _=>rfl⟩
theorem Kept.cU(h:dw B V w3)(k:Kept w V Do)(hB:w.heap.size<=B):Kept w w3 Do:=
 ⟨h.os.trans k.os,h.tape.trans k.tape,h.output.trans k.output,aW k.size h.size,fun j hj F=>(h.block j (by omega)).trans (k.block j hj F)⟩
theorem Kept.row{row:Option Nat}(h:Kept w V Do)(k:V.grownBy w3 row)(hX:∀g,row=some g->Do g):Kept w w3 Do:=
 ⟨k.os.trans h.os,k.tape.trans h.tape,k.output.trans h.output,aW h.size k.size,fun j hj F=>(k.block j (Nat.lt_of_lt_of_le hj h.size) (fun e=>F (hX j e.symm))).trans (h.block j hj F)⟩
theorem iq.cK(h:iq w S vm rv n M)(D:∀g,S g\/Mb vm rv g->V.heap[g]? =w.heap[g]?):iq V S vm rv n M:=by
 refine⟨ownsRow.cK h.out fun g Y=>D g (.inr (.inl Y)),h.len,fun i v qs L G=>?_,h.uw,h.Hs⟩;obtain⟨Z,N,h4,h5⟩:=h.row i v qs L G;exact⟨Z,ownsRow.cK N fun g Y=>D g (.inr (.inr ⟨v,aC L,Y⟩)),h4,h5.cK fun g Y=>D g (.inl Y)⟩
theorem iq.cN(h:iq w S vm rv n M)(D:∀g,S g->S' g):iq w S' vm rv n M:=
 ⟨h.out,h.len,fun i v qs L G=>(h.row i v qs L G).imp fun _ h=>⟨h.1,h.2.1,h.2.2.cN D⟩,h.uw,h.Hs⟩
theorem iq.low(h:iq w S vm rv n M):∀g,Mb vm rv g->g<w.heap.size:=fun g Y=>by
 rcases Y with Y|⟨v,hv,Y⟩
 ·exact(ownsRow.low h.out g Y).2
 ·obtain⟨i,A⟩:=aN hv;have hl:=(aD.1 A).1;obtain⟨Z,L,_⟩:=h.row i v _ A (aA (by rw[<-h.len];exact hl));exact(ownsRow.low L g Y).2
theorem iq.rel(h:iq w (Cv S B iv) vm rv n M)(r:Rel H nx iv B w O J)(X:∀g,S g->g<B)(hm:∀g,Mb vm rv g->g<B):iq J (Cv S B iv) vm rv n M:=
 h.cK fun _ Y=>Y.elim (Rel.same r X) (fun Y=>Rel.same (S:=fun g=>g<B) r (fun _ h=>h) (.inl (hm _ Y)))
theorem iq.cM(h:iq w (Cv S B iv) vm rv n M)(r:Rel H nx iv B w O J)(X:∀g,S g->g<B)(hm:∀g,Mb vm rv g->g<B)(U:Ext J V)(A:∀p,p∈iv->p∈K):iq V (Cv S B K) vm rv n M:=
 ((h.rel r X hm).cK fun g Y=>U.block g (Y.elim (Rel.old r X g) (oS hm r g))).cN fun _ Y=>Y.mono A
theorem iq.setRow(h:iq w S vm rv n M)(X:Old S w)(R0:∀g,S g->¬Mb vm rv g){v:Value}(hv:rv[i]? =some v)(Y:w.grownBy V v.ownBlock)(hSS:∀g,S g->S' g)
  (Oa:∃Z,V.ownsRow 0 T.eB 4 v n Z.flatten/\Z.length=n/\Fr V S' Z qs'):iq V S' vm rv n (M.set i qs'):=by
 have Og:=h.low;have QO:∀g,g<w.heap.size->v.ownBlock≠some g->V.heap[g]? =w.heap[g]? :=fun g L G=>Y.block g L (Ne.symm G);refine⟨ownsRow.cK h.out fun g Qo=>QO g (Og g (.inl Qo)) (fun e=>h.Hs v (aC hv) g e Qo),by rw[h.len];simp,fun j u qs L G=>?_,h.uw,h.Hs⟩;by_cases Pr:i=j
 ·subst Pr;rw[hv]at L;injection L with L;subst L;have hl:=(aD.1 hv).1;rw[aP (by rw[<-h.len];exact hl)]at G;injection G with G;subst G;exact Oa
 ·rw[aS Pr]at G;obtain⟨Z,N,h4,h5⟩:=h.row j u qs L G;refine⟨Z,ownsRow.cK N fun g hgu=>QO g (ownsRow.low N g hgu).2 (fun e=>Pr (h.uw i j v u g hv L e hgu)),h4,(h5.cK fun g hgs=>?_).cN hSS⟩;exact QO g (X g hgs) fun e=>R0 g hgs (.inr ⟨v,aC hv,e⟩)
theorem iq.swap(h:iq w S vm rv n M)(R0:∀g,S g->¬Mb vm rv g){j:Nat}{a b:Value}(A:rv[i]? =some a)(hj:rv[j]? =some b)(PQ:V.ownsRow 0 T.row 1 vm rv.length ((rv.set i b).set j a))(QO:∀g,S g\/Mb vm rv g->vm.ownBlock≠some g->V.heap[g]? =w.heap[g]?):
  iq V S vm ((rv.set i b).set j a) n (gH [] M i j):=by
 have UH:=(aD.1 A).1;have SK:=(aD.1 hj).1;have Tc:M.getD i []=M[i]'(by rw[<-h.len];exact UH):=by rw[List.getD,aA (by rw[<-h.len];exact UH)];rfl
 have hmj:M.getD j []=M[j]'(by rw[<-h.len];exact SK):=by rw[List.getD,aA (by rw[<-h.len];exact SK)];rfl
 have key:∀k v qs,((rv.set i b).set j a)[k]? =some v->(gH [] M i j)[k]? =some qs->∃k',rv[k']? =some v/\M[k']? =some qs/\k'=(if k=j then i else if k=i then j else k):=by
  intro k v qs L G;unfold gH at G;rw[Tc,hmj]at G;by_cases Ti:j=k
  ·subst Ti;rw[aP (by simp;exact SK)]at L;rw[aP (by simp;rw[<-h.len];exact SK)]at G;injection L with L;injection G with G;subst L G;exact⟨i,A,aA _,by simp⟩
  ·rw[aS Ti]at L G;by_cases WI:i=k
   ·subst WI;rw[aP UH]at L;rw[aP (by rw[<-h.len];exact UH)]at G;injection L with L;injection G with G;subst L G;exact⟨j,hj,aA _,by rw[aH (Ne.symm Ti),if_pos rfl]⟩
   ·rw[aS WI]at L G;exact⟨k,L,G,by rw[aH (Ne.symm Ti),aH (Ne.symm WI)]⟩
 have hlen:((rv.set i b).set j a).length=rv.length:=by simp
 have Xe:(gH [] M i j).length=rv.length:=by rw[gE,h.len]
 have keyv:∀k v,((rv.set i b).set j a)[k]? =some v->∃k',rv[k']? =some v/\k'=(if k=j then i else if k=i then j else k):=fun k v L=>by
  have hl:=(aD.1 L).1;obtain⟨k',G,_,N⟩:=key k v _ L (aA (by rw[Xe,<-hlen];exact hl));exact⟨k',G,N⟩
 refine⟨by rw[hlen];exact PQ,by rw[hlen,Xe],fun k v qs L G=>?_,fun k1 k2 v1 v2 g L G e1 e2=>?_,fun v hv g hgv=>?_⟩
 ·obtain⟨k',N,h4,_⟩:=key k v qs L G;obtain⟨Z,h5,h6,h7⟩:=h.row k' v qs N h4;have hvm:=h.Hs v (aC N);exact⟨Z,ownsRow.cK h5 fun g hgu=>QO g (.inr (.inr ⟨v,aC N,hgu⟩)) (hvm g hgu),h6,h7.cK fun g hgs=>QO g (.inl hgs) fun e=>R0 g hgs (.inl e)⟩
 ·obtain⟨k3,N,h4⟩:=keyv k1 v1 L;obtain⟨k5,h5,h6⟩:=keyv k2 v2 G;have:=h.uw k3 k5 v1 v2 g N h5 e1 e2;split at h4<;>split at h6<;>(try split at h4)<;>(try split at h6)<;>omega
 ·obtain⟨k,D⟩:=aN hv;obtain⟨k',N,_⟩:=keyv k v D;exact h.Hs v (aC N) g hgv
theorem Mb.swap{j:Nat}{a b:Value}(A:rv[i]? =some a)(hj:rv[j]? =some b){g:Nat}:Mb vm ((rv.set i b).set j a) g↔Mb vm rv g:=by
 have UH:=(aD.1 A).1;have SK:=(aD.1 hj).1;unfold Mb;refine or_congr Iff.rfl ⟨fun ⟨v,hv,h⟩=>⟨v,?_,h⟩,fun⟨v,hv,h⟩=>⟨v,?_,h⟩⟩
 ·rcases bC hv with L|L
  ·rcases bC L with G|G
   ·exact G
   ·rw[G];exact aC hj
  ·rw[L];exact aC A
 ·obtain⟨k,D⟩:=aN hv;by_cases Ti:k=j
  ·subst Ti;rw[hj]at D;injection D with D;subst D;by_cases hik:i=k
   ·subst hik;rw[A]at hj;injection hj with hj;subst hj;exact aC (i:=i) (by rw[aP (by simp;exact UH)])
   ·exact aC (i:=i) (by rw[aS (Ne.symm hik),aP UH])
  ·by_cases WI:k=i
   ·subst WI;rw[A]at D;injection D with D;subst D;exact aC (i:=j) (by rw[aP (by simp;exact SK)])
   ·exact aC (i:=k) (by rw[aS (Ne.symm Ti),aS (Ne.symm WI)];exact D)
end
end Go.Ex
namespace Go.Sx
open Go Go.Ex Go.Proofs
variable{O:Nat->Sx.dq}
theorem Rel.qn{H:Hp}{nx:Nat}{iv:Iv}{B:Nat}{w J V:World}{row:Option Nat}(r:Rel H nx iv B w O J)(Oe:∀g,row=some g->∀id b,dG H id=some b->(O id).nil=false->(O id).g≠g)(h:J.grownBy V row):Rel H nx ((J.heap.size,V.heap.size)::iv) B V O V:=
 r.CJ h.size (fun id b hb R=>h.block _ (r.low id b hb R).2 fun e=>Oe _ e.symm id b hb R rfl) fun lo A hm=>by
  rcases List.mem_cons.1 hm with e|hm
  ·injection e with e1 e2;subst e1 e2;exact⟨Nat.le_refl _,fun id b hb R=>by have:=(r.low id b hb R).2;omega⟩
  ·exact⟨by have:=r.oJ lo A hm;have:=r.size;have:=h.size;omega,fun id b hb R=>r.je lo A hm id b hb R⟩
end Go.Sx
namespace Go.Ex
open Go Go.Sx Go.Proofs
end Go.Ex
namespace Go.Ex
open Go Go.Sx Go.Proofs
end Go.Ex
namespace Go.Sx
open Go Go.Ex Go.Proofs
variable{O:Nat->Sx.dq}
theorem Sub.nil{B nx:Nat}{l:Env}{H:Hp}{iv:Iv}{w J:World}{t:xD}(u e sz:Nat)(h9:fm l u=some (sV none 0 0))(RS:jw nx l)(r:Rel H nx iv B w O J)
  (h:∀Id,Rel ((nx,.vec e sz [])::H) (nx+1) iv B w Id J->Sx.Sub B ((u,.o (.w nx 0))::l) (nx+1) Id J t):Sx.Sub B l nx O J t:=by
 have r1:=r.push (.vec e sz []) ⟨0,0,true⟩ (V:=J) rfl rfl rfl (Nat.le_refl _) (fun _ _=>rfl) (fun h=>by cases h) (.inl ⟨rfl,rfl⟩) trivial;obtain⟨G8,L,G⟩:=h _ r1;refine⟨G8,L,fun x v hv=>?_⟩;obtain⟨N,v0,h4,h5⟩:=G x v hv;refine⟨N,?_⟩;rw[eh]at h4;split at h4
 ·rename_i e;subst e;injection h4 with h4;subst h4;refine⟨_,h9,?_⟩;rw[<-h5];simp[SV.den,At.den,eR]
 ·refine⟨v0,h4,?_⟩;rw[<-h5];exact SV.jT (fun id PY=>gD id PY) (RS.get _ _ h4)
end Go.Sx
namespace Go.Ex
open Go Go.Sx Go.Proofs
variable{M:List (List Rat)}{qs:List Rat}{rv:List Value}{k n:Nat}{S:Nat->Prop}{O:Nat->Sx.dq}{am:Option Addr}{v:Value}{w:World}
theorem kH{H:Hp}{nx:Nat}{iv:Iv}{B:Nat}{J:World}{a:Addr}{x:Value}(h:w.cell? a=some x)(hb:Out B iv a.block)(r:Rel H nx iv B w O J):J.cell? a=some x:=by
 rw[cL (Rel.same r (fun _ h=>h) hb)];exact h
structure aBK(w:World)(S:Nat->Prop)(rv:List Value)(n:Nat)(M:List (List Rat))(gm k c g ck:Nat)(q:Rat)(d1:Bool)(e1:Option Addr)(m1 k1:Nat)(d2:Bool)(e2:Option Addr)(m2 k2:Nat):Prop where
 rv:rv[k]? =some (.slice (some ⟨g,0,none⟩) n ck)
 at_:dD M k c=q
 aAk:cd w S (.agg #[.bool d1,.slice e1 m1 k1,.bool d2,.slice e2 m2 k2]) q
 outer:w.cell? (Addr.add ⟨gm,0,none⟩ (k*1))=some (.slice (some ⟨g,0,none⟩) n ck)
 cells:∀j u,[Value.bool d1,.slice e1 m1 k1,.bool d2,.slice e2 m2 k2][j]? =some u->w.cell? ((Addr.add ⟨g,0,none⟩ (c*4)).add j)=some u
theorem iq.outer{EQ cm:Nat}(h:iq w S (.slice am EQ cm) rv n M)(D:rv[k]? =some v):
  ∃gm,am=some ⟨gm,0,none⟩/\w.cell? (Addr.add ⟨gm,0,none⟩ (k*1))=some v:=by
 rcases h.out.2 with⟨L,h0⟩|⟨gm,cap,cur,e,_⟩
 ·have:=(aD.1 D).1;omega
 ·injection e with e1 e2 e3;refine⟨gm,e1,?_⟩;have:=h.out.cells (g:=gm) (by rw[e1];rfl) k v D;rw[aV];exact this
theorem iq.elem{EQ cm:Nat}(h:iq w S (.slice am EQ cm) rv n M){c:Nat}(D:k<rv.length)(hc:c<n):
  ∃gm g ck q d1 e1 m1 k1 d2 e2 m2 k2,am=some ⟨gm,0,none⟩/\aBK w S rv n M gm k c g ck q d1 e1 m1 k1 d2 e2 m2 k2:=by
 obtain⟨v,hv⟩:∃v,rv[k]? =some v:=⟨_,aA D⟩
 obtain⟨qs,WQ⟩:∃qs,M[k]? =some qs:=⟨_,aA (by rw[<-h.len];exact D)⟩
 obtain⟨Z,Oa,Pu,PW⟩:=h.row k v qs hv WQ;obtain⟨a,ck,rfl,_⟩:=fF Oa;obtain⟨W,PS⟩:∃W,Z[c]? =some W:=⟨_,aA (by omega)⟩
 obtain⟨q,hq⟩:∃q,qs[c]? =some q:=⟨_,aA (by rw[<-PW.1];omega)⟩
 obtain⟨g,rfl,PK⟩:=rC Oa PW PS;obtain⟨d1,e1,m1,k1,d2,e2,m2,k2,rfl,hF⟩:=PW.2 c W q PS hq;obtain⟨gm,rfl,ho⟩:=h.outer hv;exact⟨gm,g,ck,q,d1,e1,m1,k1,d2,e2,m2,k2,rfl,hv,by simp[dD,List.getD,WQ,hq],hF,ho,PK⟩
theorem Eg{α:Type}{xs:List α}{j:Nat}{v:α}(h:j<xs.length):xs.take (j*1)++[v]++xs.drop (j*1+1)=xs.set j v:=by
 rw[aV,List.set_eq_take_append_cons_drop,if_pos h];simp
theorem iq.aB5{vm:Value}(h:iq w S vm rv n M)(hv:rv[k]? =some v)(hq:M[k]? =some qs)(R:n<=maxLen):
  fU w (fun g=>v.ownBlock=some g) S v qs/\qs.length=n:=by
 obtain⟨Z,L,G,N⟩:=h.row k v qs hv hq;have hl:qs.length=n:=by rw[<-N.1,G]
 refine⟨⟨Z,?_,N⟩,hl⟩;rw[hl];rcases L.2 with⟨rfl,rfl⟩|⟨g,cap,cur,rfl,hb,hc,VO,Q2,PN,RU⟩
 ·refine⟨R,L.1,N.one,none,0,rfl,Nat.le_refl _,fun j u hu=>?_⟩;have:=L.1;rw[Nat.zero_mul]at this;rw[List.eq_nil_of_length_eq_zero this]at hu
  cases hu
 ·refine⟨R,L.1,N.one,_,cap,rfl,VO,fun j u hu=>⟨_,rfl,rfl,?_⟩⟩;exact L.cells (g:=g) rfl j u hu
end Go.Ex
namespace Go.Ex
open Go Go.Sx Go.Proofs
variable{x:Int×Int}{b xs:List (Int×Int)}{M:List (List (Int×Int))}{W:List Value}{S:Nat->Prop}{a a2:Option Addr}{q:Rat}{v:Value}{w w0:World}
def jy(w:World)(S:Nat->Prop)(v:Value)(n:Nat)(qs:List Rat):Prop:=∃Z,w.ownsRow 0 T.eB 4 v n Z.flatten/\Z.length=n/\Fr w S Z qs
section
variable{S S' C:Nat->Prop}{H:Hp}{nx n:Nat}{iv K:Iv}{B:Nat}{w J V:World}{O:Nat->Sx.dq}{v:Value}{qs:List Rat}
theorem jy.cK(h:jy w S v n qs)(D:∀g,S g\/v.ownBlock=some g->V.heap[g]? =w.heap[g]?):jy V S v n qs:=by
 obtain⟨Z,L,G,N⟩:=h;exact⟨Z,ownsRow.cK L fun g Y=>D g (.inr Y),G,N.cK fun g Y=>D g (.inl Y)⟩
theorem jy.cN(h:jy w S v n qs)(D:∀g,S g->S' g):jy w S' v n qs:=by
 obtain⟨Z,L,G,N⟩:=h;exact⟨Z,L,G,N.cN D⟩
theorem jy.len(h:jy w S v n qs):qs.length=n:=by
 obtain⟨Z,L,G,N⟩:=h;rw[<-N.1,G]
theorem jy.form(h:jy w S v n qs):∃a c,v= .slice a n c/\n<=c:=by
 obtain⟨Z,L,G,N⟩:=h;exact fF L
theorem jy.le(h:jy w S v n qs):n<=maxLen:=by
 obtain⟨Z,L,G,N⟩:=h;rcases L.2 with⟨_,h0⟩|⟨_,_,_,_,_,_,L,G,_⟩
 ·omega
 ·omega
theorem jy.read(h:jy w S v n qs):fU w (fun g=>v.ownBlock=some g) S v qs:=by
 have hl:=h.len;have R:=h.le;obtain⟨Z,L,G,N⟩:=h;refine⟨Z,?_,N⟩;rw[hl];rcases L.2 with⟨rfl,rfl⟩|⟨g,cap,cur,rfl,hb,hc,VO,Q2,PN,RU⟩
 ·refine⟨R,L.1,N.one,none,0,rfl,Nat.le_refl _,fun j u hu=>?_⟩;have:=L.1;rw[Nat.zero_mul]at this;rw[List.eq_nil_of_length_eq_zero this]at hu
  cases hu
 ·refine⟨R,L.1,N.one,_,cap,rfl,VO,fun j u hu=>⟨_,rfl,rfl,?_⟩⟩;exact L.cells (g:=g) rfl j u hu
theorem jy.store{a1:Option Addr}{c j n1 c1 n2 c2:Nat}{b b2:Bool}(h:jy w S (.slice a n c) n qs)(hj:j<n)(hf:cd w S (.agg #[.bool b,.slice a1 n1 c1,.bool b2,.slice a2 n2 c2]) q)(R0:∀g,(Value.slice a n c).ownBlock=some g->¬S g)(X:Old S w):
  ∃g,a=some ⟨g,0,none⟩/\((⟨g,0,none⟩:Addr).add ((j:Int).toNat*4)).spot=none/\((⟨g,0,none⟩:Addr).add ((j:Int).toNat*4)).block=g/\
   (∀k,k<4->(w.cell? (((⟨g,0,none⟩:Addr).add ((j:Int).toNat*4)).add k)).isSome=true/\w.frozen? (((⟨g,0,none⟩:Addr).add ((j:Int).toNat*4)).add k)=false)/\
   ∀V,V=setCells w ((⟨g,0,none⟩:Addr).add ((j:Int).toNat*4)) [.bool b,.slice a1 n1 c1,.bool b2,.slice a2 n2 c2]->jy V S (.slice a n c) n (qs.set j q)/\w.grownBy V (some g)/\V.heap.size=w.heap.size:=by
 obtain⟨Z,L,G,N⟩:=h;obtain⟨g,rfl,Of,QW,PC,PN⟩:=j3 (nv:=[.bool b,.slice a1 n1 c1,.bool b2,.slice a2 n2 c2]) L rfl hj rfl (by decide);have PI:(⟨g,0,none⟩:Addr).add ((j:Int).toNat*4)=⟨g,j*4,none⟩:=by rw[aE,dL,aT]
 refine⟨g,rfl,by rw[PI],by rw[PI],fun k D=>by rw[PI];exact Of k D,fun V PE=>?_⟩;rw[PI]at PE;subst PE;have Qb:=iI (W:=[.bool b,.slice a1 n1 c1,.bool b2,.slice a2 n2 c2]) N.mR (show j<Z.length by omega);rw[Qb]at QW;have Oi:∀x,S x->(setCells w ⟨g,j*4,none⟩ [.bool b,.slice a1 n1 c1,.bool b2,.slice a2 n2 c2]).heap[x]? =w.heap[x]? :=fun x F=>
  PC.block x (X x F) fun e=>R0 g rfl (by injection e with e;rw[<-e];exact F)
 exact⟨⟨_,QW,by simpa using G,(N.cK Oi).set (hf.cK Oi).four⟩,PC,PN⟩
structure kI(w:World)(S:Nat->Prop)(B:Nat)(iv:Iv)(v:Value)(n:Nat)(qs:List Rat):Prop where
 row:jy w (fun g=>Cv S B iv g/\v.ownBlock≠some g) v n qs
 new:∀g,v.ownBlock=some g->Cv FF B iv g
theorem kI.cK(h:kI w S B iv v n qs)(D:∀g,Cv S B iv g->V.heap[g]? =w.heap[g]?):kI V S B iv v n qs:=
 ⟨h.row.cK fun g Y=>D g (Y.elim (fun h=>h.1) fun Y=>(h.new g Y).elim (fun h=>h.elim) .inr),h.new⟩
theorem kI.rel(h:kI w S B iv v n qs)(r:Rel H nx iv B w O J)(X:∀g,S g->g<B):kI J S B iv v n qs:=h.cK fun _ Y=>Rel.same r X Y
theorem kI.cM(h:kI w S B iv v n qs)(r:Rel H nx iv B w O J)(X:∀g,S g->g<B)(U:Ext J V)(hm:∀p,p∈iv->p∈K):kI V S B K v n qs:=
 have G:=(h.rel r X).cK fun g Y=>U.block g (Rel.old r X g Y)
 ⟨G.row.cN fun _ Y=>⟨Y.1.mono hm,Y.2⟩,fun g Y=>(G.new g Y).mono hm⟩
theorem kI.dK(h:kI V FF J.heap.size [(J.heap.size,V.heap.size)] v n qs)(hB:B<=J.heap.size)(hm:(J.heap.size,V.heap.size)∈iv):kI V S B iv v n qs:=by
 have key:∀g {Do:Nat->Prop},Cv FF J.heap.size [(J.heap.size,V.heap.size)] g->Cv Do B iv g:=fun g Do Y=>by
  rcases Y with Y|⟨L,lo,A,G,N,h4⟩
  ·exact Y.elim
  ·simp at G;obtain⟨rfl,rfl⟩:=G;exact .inr ⟨by omega,_,_,hm,N,h4⟩
 exact⟨h.row.cN fun g Y=>⟨key g Y.1,Y.2⟩,fun g Y=>key g (h.new g Y)⟩
theorem kI.read(h:kI w S B iv v n qs):fU w (Cv S B iv) (Cv S B iv) v qs:=
 h.row.read.cN (fun g Y=>(h.new g Y).elim (fun h=>h.elim) .inr) fun _ Y=>Y.1
def Ej(w:World)(S:Nat->Prop)(W:List Value)(x:Int×Int):Prop:=∃b a n c b2 a2 n2 c2,W=[.bool b,.slice a n c,.bool b2,.slice a2 n2 c2]/\iM w S (.agg #[.bool b,.slice a n c,.bool b2,.slice a2 n2 c2]) x.1 x.2
theorem Ej.cK(h:Ej w S W x)(D:∀g,S g->V.heap[g]? =w.heap[g]?):Ej V S W x:=by
 obtain⟨b,a,n,c,b2,a2,n2,c2,L,G⟩:=h;exact⟨b,a,n,c,b2,a2,n2,c2,L,G.cK D⟩
theorem Ej.cN(h:Ej w S W x)(D:∀g,S g->S' g):Ej w S' W x:=by
 obtain⟨b,a,n,c,b2,a2,n2,c2,L,G⟩:=h;exact⟨b,a,n,c,b2,a2,n2,c2,L,G.cN D⟩
def dV{α:Type}(P:World->(Nat->Prop)->List Value->α->Prop)(w:World)(S:Nat->Prop)(v:Value)(xs:List α):Prop:=
 ∃Z:List (List Value),ie w S 4 v Z.flatten xs.length/\Z.length=xs.length/\(∀W∈Z,W.length=4)/\∀(j:Nat) W x,Z[j]? =some W->xs[j]? =some x->P w S W x
abbrev eV:=dV Ej
theorem eV.cK(h:eV w S v xs)(D:∀g,S g->V.heap[g]? =w.heap[g]?):eV V S v xs:=by
 obtain⟨Z,L,G,N,h4⟩:=h;exact⟨Z,L.cK D,G,N,fun j W x k1 k2=>(h4 j W x k1 k2).cK D⟩
theorem eV.cN(h:eV w S v xs)(D:∀g,S g->S' g):eV w S' v xs:=by
 obtain⟨Z,L,G,N,h4⟩:=h;exact⟨Z,L.cN D,G,N,fun j W x k1 k2=>(h4 j W x k1 k2).cN D⟩
theorem dV.shape{α:Type}{P:World->(Nat->Prop)->List Value->α->Prop}{xs:List α}(h:dV P w S v xs):∃a c,v= .slice a xs.length c/\xs.length<=c/\xs.length<=maxLen:=by
 obtain⟨Z,⟨h0,_,_,a,c,L,G,_⟩,_⟩:=h;exact⟨a,c,L,G,h0⟩
theorem dV.load{α:Type}{P:World->(Nat->Prop)->List Value->α->Prop}{xs:List α}{m c j:Nat}{x:α}(h:dV P w S (.slice a m c) xs)(hq:xs[j]? =some x):
  ∃ad W,a=some ad/\P w S W x/\W.length=4/\∀k u,W[k]? =some u->S ad.block/\w.cell? ((ad.add (j*4)).add k)=some u:=by
 obtain⟨Z,⟨h0,L,G,a',c',e,N,h4⟩,hl,hl4,hf⟩:=h;injection e with e1 e2 e3;subst e1;obtain⟨W,PS⟩:∃W,Z[j]? =some W:=⟨_,aA (by rw[hl];exact(aD.1 hq).1)⟩
 have hF:=hf j W x PS hq;have Tt:=hl4 W (aC PS);obtain⟨ad,k1,k2,k3⟩:=h4 (j*4+0) _ (flat_get hl4 PS 0 _ (aA (show 0<W.length by omega)));refine⟨ad,W,k1,hF,Tt,fun k u hu=>?_⟩;obtain⟨ad2,m1,m2,m3⟩:=h4 (j*4+k) u (flat_get hl4 PS k u hu);rw[k1]at m1;injection m1 with m1;subst m1;refine⟨m2,?_⟩;rw[<-m3];have:(ad.add (j*4)).add k=ad.add (j*4+k):=by
  unfold Addr.add;split<;>split<;>simp_all<;>omega
 rw[this]
def dC{α:Type}(P:World->(Nat->Prop)->Value->α->Prop)(w:World)(S:Nat->Prop)(v:Value)(M:List α):Prop:=
 ∃rv,ie w S 1 v rv M.length/\rv.length=M.length/\∀(i:Nat) u x,rv[i]? =some u->M[i]? =some x->P w S u x
theorem dC.shape{α:Type}{P:World->(Nat->Prop)->Value->α->Prop}{xs:List α}(h:dC P w S v xs):∃a c,v= .slice a xs.length c/\xs.length<=c/\xs.length<=maxLen:=by
 obtain⟨rv,⟨h0,_,_,a,c,L,G,_⟩,_⟩:=h;exact⟨a,c,L,G,h0⟩
theorem dC.load{α:Type}{P:World->(Nat->Prop)->Value->α->Prop}{xs:List α}{m c j:Nat}{x:α}(h:dC P w S (.slice a m c) xs)(hq:xs[j]? =some x):
  ∃ad u,a=some ad/\P w S u x/\S ad.block/\w.cell? (ad.add (j*1))=some u:=by
 obtain⟨rv,⟨h0,L,G,a',c',e,N,h4⟩,hl,hf⟩:=h;injection e with e1 e2 e3;subst e1;obtain⟨u,hu⟩:∃u,rv[j]? =some u:=⟨_,aA (by rw[hl];exact(aD.1 hq).1)⟩
 obtain⟨ad,k1,k2,k3⟩:=h4 j u hu;exact⟨ad,u,k1,hf j u x hu hq,k2,by rw[aV];exact k3⟩
abbrev eL:=dC eV
theorem eL.cK(h:eL w S v M)(D:∀g,S g->V.heap[g]? =w.heap[g]?):eL V S v M:=by
 obtain⟨rv,L,G,N⟩:=h;exact⟨rv,L.cK D,G,fun i u x k1 k2=>eV.cK (N i u x k1 k2) D⟩
theorem eL.cN(h:eL w S v M)(D:∀g,S g->S' g):eL w S' v M:=by
 obtain⟨rv,L,G,N⟩:=h;exact⟨rv,L.cN D,G,fun i u x k1 k2=>eV.cN (N i u x k1 k2) D⟩
abbrev fh:=dC (fun w S v qs=>fU w S S v qs)
theorem fh.cK{M:List (List Rat)}(h:fh w S v M)(D:∀g,S g->V.heap[g]? =w.heap[g]?):fh V S v M:=by
 obtain⟨rv,L,G,N⟩:=h;exact⟨rv,L.cK D,G,fun i u x k1 k2=>(N i u x k1 k2).cK fun g Y=>D g (Y.elim id id)⟩
theorem fh.cN{M:List (List Rat)}(h:fh w S v M)(D:∀g,S g->S' g):fh w S' v M:=by
 obtain⟨rv,L,G,N⟩:=h;exact⟨rv,L.cN D,G,fun i u x k1 k2=>(N i u x k1 k2).cN D D⟩
end
section
variable{S S':Nat->Prop}{H:Hp}{nx:Nat}{iv K:Iv}{B:Nat}{w J V:World}{O:Nat->Sx.dq}{v:Value}{xs:List (Int×Int)}
theorem eV.rel(h:eV w (Cv S B iv) v xs)(r:Rel H nx iv B w O J)(X:∀g,S g->g<B):eV J (Cv S B iv) v xs:=eV.cK h fun _ Y=>Rel.same r X Y
theorem eV.cM(h:eV w (Cv S B iv) v xs)(r:Rel H nx iv B w O J)(X:∀g,S g->g<B)(U:Ext J V)(hm:∀p,p∈iv->p∈K):eV V (Cv S B K) v xs:=
 eV.cN (eV.cK (eV.rel h r X) fun g Y=>U.block g (Rel.old r X g Y)) fun _ Y=>Y.mono hm
theorem eV.arg(h:eV w S v xs)(iv:Iv):eV w (Cv S w.heap.size iv) v xs:=eV.cN h fun _ h=>.inl h
end
section
variable{S S':Nat->Prop}{H:Hp}{nx:Nat}{iv K:Iv}{B:Nat}{w J V:World}{O:Nat->Sx.dq}{v:Value}{M:List (List (Int×Int))}
theorem eL.rel(h:eL w (Cv S B iv) v M)(r:Rel H nx iv B w O J)(X:∀g,S g->g<B):eL J (Cv S B iv) v M:=eL.cK h fun _ Y=>Rel.same r X Y
theorem eL.cM(h:eL w (Cv S B iv) v M)(r:Rel H nx iv B w O J)(X:∀g,S g->g<B)(U:Ext J V)(hm:∀p,p∈iv->p∈K):eL V (Cv S B K) v M:=
 eL.cN (eL.cK (eL.rel h r X) fun g Y=>U.block g (Rel.old r X g Y)) fun _ Y=>Y.mono hm
theorem eL.arg(h:eL w S v M)(iv:Iv):eL w (Cv S w.heap.size iv) v M:=eL.cN h fun _ h=>.inl h
end
section
variable{S S':Nat->Prop}{H:Hp}{nx:Nat}{iv K:Iv}{B:Nat}{w J V:World}{O:Nat->Sx.dq}{v:Value}{M:List (List Rat)}
theorem fh.rel(h:fh w (Cv S B iv) v M)(r:Rel H nx iv B w O J)(X:∀g,S g->g<B):fh J (Cv S B iv) v M:=fh.cK h fun _ Y=>Rel.same r X Y
theorem fh.cM(h:fh w (Cv S B iv) v M)(r:Rel H nx iv B w O J)(X:∀g,S g->g<B)(U:Ext J V)(hm:∀p,p∈iv->p∈K):fh V (Cv S B K) v M:=
 fh.cN (fh.cK (fh.rel h r X) fun g Y=>U.block g (Rel.old r X g Y)) fun _ Y=>Y.mono hm
theorem fh.dK(h:fh V (Nf J V) v M)(hB:B<=J.heap.size)(hm:(J.heap.size,V.heap.size)∈iv):fh V (Cv S B iv) v M:=fh.cN h fun _ Y=>Y.dK hB hm
theorem fh.out{w1:World}(h:fh w1 (Cv S w0.heap.size iv) v M)(r:Rel H nx iv w0.heap.size w1 O J)(X:Old S w0):fh J (Nw S w0 J) v M:=
 fh.cN (fh.rel h r X) fun _ Y=>Cv.nw Y r
end
def db{α:Type}:List (List α)->Nat
 |[]=>0
 |r::_=>r.length
def sB{α:Type}(M:List (List α)):Nat:=if ∀r∈M,r.length=db M then(if 60<M.length\/60<db M then 8 else 0)else 11
theorem dC.BR(h:eV w S v xs):∃a c,v= .slice a xs.length c:=by
 obtain⟨a,c,h,_⟩:=dV.shape h;exact⟨a,c,h⟩
theorem wu(X:Old S w)(h:eL w S v M):eI PG F'.sM #[v] w (eO w fun v' _=>v'= .int .i64 (db M)):=by
 have R:=h;obtain⟨a,c,rfl,hc,hm⟩:=dC.shape h;refine wQ (by simp) ?_
 cases M with
 |nil=>
  conv=>whnf
  intro IR we re;exact⟨_,rfl,re.cU,rfl⟩
 |cons r t=>
  obtain⟨ad,u,rfl,hu,L,G⟩:=dC.load h (j:=0) (x:=r) rfl;obtain⟨a2,c2,rfl⟩:=dC.BR hu;conv=>whnf
  refine⟨ad,rfl,⟨by omega,by simp⟩,?_⟩;conv=>whnf
  refine⟨.slice a2 r.length c2,fun O J r'=>by simpa using j0 X dw.refl r' L (by simpa using G),?_⟩;conv=>whnf
  intro IR we re;exact⟨_,rfl,re.cU,rfl⟩
theorem Bw(X:Old S w)(h:eL w S v M):eI PG F'.mj #[v] w (eO w fun v' _=>v'= .int .i64 (sB M)):=by
 replace h:=eL.arg h [];obtain⟨a,c,rfl,hc,hm⟩:=dC.shape h;unfold maxLen at hm;refine qe (by simp) ?_;conv=>whnf
 refine⟨Nat×Iv×World,fun z=>⟨[(0,sV a M.length c),(5,sV a M.length c),(6,iZ M.length),(7,iZ z.1)],[],0,z.2.1,z.2.2⟩,fun z=>M.length-z.1,
  fun z=>z.1<=M.length/\dw w.heap.size w z.2.2/\eL z.2.2 (Cv S w.heap.size z.2.1) (.slice a M.length c) M/\∀(j:Nat) r,j<z.1->M[j]? =some r->r.length=db M,?_,?_⟩
 ·intro O J r;exact⟨(0,[],J),⟨by simp,r.cU,eL.rel h r X,by simp⟩,Sub.gn [] r⟩
 clear h;rintro⟨i,iv,w1⟩ ⟨A,I,hM,Oa⟩;dsimp only at A I hM Oa ⊢;conv=>whnf
 refine dQ.mk ?_ ?_<;>intro h
 ·have h:i<M.length:=by simpa using h
  obtain⟨r,hr⟩:∃r,M[i]? =some r:=⟨_,aA h⟩
  obtain⟨ad,u,rfl,hu,L,G⟩:=dC.load hM hr;obtain⟨a2,c2,rfl⟩:=dC.BR hu;conv=>whnf
  refine⟨ad,rfl,by omega,?_⟩;conv=>whnf
  refine⟨.slice a2 r.length c2,fun O J r'=>?_,?_⟩
  ·have N:=Rel.same r' X L;rw[aE,cL (w:=w1) (V:=J) (by rw[dF];exact N)];exact G
  conv=>whnf
  refine cJ (cO (If:=fun _ _ v _=>v= .int .i64 (db M)) (fun O J r=>wu (Rel.old r X) (eL.rel hM r X)) ?_);rintro O wa v1 wb r' U hb rfl;replace I:=I.tr hb;replace hM:=eL.cM (K:=(wa.heap.size,wb.heap.size)::iv) hM r' X U fun x F=>aB _ F;clear r' U hb;generalize (wa.heap.size,wb.heap.size)::iv=Od at*
  conv=>whnf
  refine dQ.mk ?_ ?_<;>intro Oe
  ·have Oe:r.length≠db M:=fun e=>by rw[e]at Oe;simp at Oe
   conv=>whnf
   intro IR we re;refine⟨_,rfl,I.tr re.cU,?_⟩;unfold sB;rw[aH (fun Pc=>Oe (Pc r (aC hr)))];rfl
  ·have heq:r.length=db M:=by
    have h4:((r.length:Int)==(db M:Int))=true:=by simpa using Oe
    have:=eq_of_beq h4;omega
   conv=>whnf
   refine⟨((i+1:Nat):Int),wo,?_⟩;conv=>whnf
   intro GT w3 E;refine⟨(i+1,Od,w3),⟨h,I.tr E.cU,eL.rel hM E X,fun j r' hj hr'=>?_⟩,Sub.gn [] E,by dsimp only;omega⟩;by_cases Ph:j=i
   ·subst Ph;rw[hr]at hr';injection hr' with hr';rw[<-hr'];exact heq
   ·exact Oa j r' (by dsimp only at hj;omega) hr'
 ·have h:i=M.length:=by
   have:¬i<M.length:=by simpa using h
   omega
  have Pc:∀r∈M,r.length=db M:=fun r hr=>by
   obtain⟨j,hj⟩:=aN hr;exact Oa j r (by rw[h];exact(aD.1 hj).1) hj
  have PJ:sB M=if 60<M.length\/60<db M then 8 else 0:=by unfold sB;rw[if_pos Pc]
  conv=>whnf
  refine dQ.mk ?_ ?_<;>intro hl
  ·have hl:60<M.length:=by
    have:(M.length:Int)>60:=aK hl;omega
   conv=>whnf
   exact rtn I fun IR we re=>by rw[PJ,if_pos (.inl hl)];rfl
  ·have hl:¬60<M.length:=by
    have:¬(M.length:Int)>60:=aG hl;omega
   conv=>whnf
   refine cJ (cO (If:=fun _ _ v _=>v= .int .i64 (db M)) (fun O J r=>wu (Rel.old r X) (eL.rel hM r X)) ?_);rintro O wa v1 wb r' U hb rfl;replace I:=I.tr hb;clear r' U hb;conv=>whnf
   refine dQ.mk ?_ ?_<;>intro QV
   ·have QV:60<db M:=by
     have:(db M:Int)>60:=aK QV;omega
    conv=>whnf
    exact rtn I fun IR we re=>by rw[PJ,if_pos (.inr QV)];rfl
   ·have QV:¬60<db M:=by
     have:¬(db M:Int)>60:=aG QV;omega
    conv=>whnf
    exact rtn I fun IR we re=>by rw[PJ,aH (by omega)];rfl
theorem Bv{u:Value}(X:Old S w)(h:eL w S v M)(hu:eV w S u b):
  eI PG F'.me #[v,u] w (eO w fun v' _=>v'= .int .i64 ((if sB M≠0 then sB M else if b.length≠M.length then 11 else 0:Nat):Int)):=by
 replace h:=eL.arg h [];obtain⟨a,c,rfl,hc,hm⟩:=dC.shape h;obtain⟨a2,c2,rfl,XE,Vm⟩:=dV.shape hu;refine qZ (by simp) ?_;conv=>whnf
 refine cJ (cO (If:=fun _ _ v _=>v= .int .i64 (sB M)) (fun O J r=>Bw (Rel.old r X) (eL.rel h r X)) ?_);rintro O wa v1 wb r' U I rfl;clear r' U h;conv=>whnf
 refine dQ.mk ?_ ?_<;>intro h0
 ·have h0:sB M≠0:=fun e=>by rw[e]at h0;simp at h0
  rw[if_pos h0];conv=>whnf
  exact rtn I fun IR we re=>rfl
 ·have h0:sB M=0:=by
   have h4:((sB M:Int)==0)=true:=by simpa using h0
   have:=eq_of_beq h4;omega
  rw[aH (by omega)];conv=>whnf
  refine dQ.mk ?_ ?_<;>intro L
  ·have L:b.length≠M.length:=fun e=>by rw[e]at L;simp at L
   rw[if_pos L];conv=>whnf
   exact rtn I fun IR we re=>rfl
  ·have L:b.length=M.length:=by
    have h4:((b.length:Int)==(M.length:Int))=true:=by simpa using L
    have:=eq_of_beq h4;omega
   rw[aH (by omega)];conv=>whnf
   exact rtn I fun IR we re=>rfl
def f0:List Value:=[.bool false,.slice none 0 0,.bool false,.slice none 0 0]
structure ko(w:World)(S:Nat->Prop)(n i:Nat)(Z:List (List Value))(qs:List Rat):Prop where
 len:Z.length=n
 four:∀W∈Z,W.length=4
 one:∀W∈Z,∀u∈W,u.oneCell'=true
 at_:∀(j:Nat) W q,j<i->Z[j]? =some W->qs[j]? =some q->oH w S W q
section
variable{S S':Nat->Prop}{H:Hp}{nx n i:Nat}{iv K:Iv}{B:Nat}{w w1 J V:World}{O:Nat->Sx.dq}{Z:List (List Value)}{qs:List Rat}
theorem ko.cK(h:ko w S n i Z qs)(D:∀g,S g->V.heap[g]? =w.heap[g]?):ko V S n i Z qs:=⟨h.len,h.four,h.one,fun j W q hj L G=>(h.at_ j W q hj L G).cK D⟩
theorem ko.cN(h:ko w S n i Z qs)(D:∀g,S g->S' g):ko w S' n i Z qs:=⟨h.len,h.four,h.one,fun j W q hj L G=>(h.at_ j W q hj L G).cN D⟩
theorem ko.rel(h:ko w (Cv S B iv) n i Z qs)(r:Rel H nx iv B w O J)(X:∀g,S g->g<B):ko J (Cv S B iv) n i Z qs:=h.cK fun _ Y=>Rel.same r X Y
theorem ko.cM(h:ko w (Cv S B iv) n i Z qs)(r:Rel H nx iv B w O J)(X:∀g,S g->g<B)(U:Ext J V)(hm:∀p,p∈iv->p∈K):ko V (Cv S B K) n i Z qs:=
 ((h.rel r X).cK fun g Y=>U.block g (Rel.old r X g Y)).cN fun _ Y=>Y.mono hm
theorem ko.start(w:World)(S:Nat->Prop)(n:Nat)(qs:List Rat):ko w S n 0 (List.replicate n f0) qs:=
 ⟨by simp,fun W hc=>by rw[bI hc];rfl,fun W hc u hu=>by rw[bI hc]at hu;simp[f0]at hu;rcases hu with rfl|rfl|rfl|rfl<;>rfl,fun j W q hj=>by omega⟩
theorem ko.next{b b2:Bool}{m c m2 c2:Nat}(h:ko w S n i Z qs)(A:i<n)(hq:qs[i]? =some q)(hf:cd w S (.agg #[.bool b,.slice a m c,.bool b2,.slice a2 m2 c2]) q):
  ko w S n (i+1) (Z.set i [.bool b,.slice a m c,.bool b2,.slice a2 m2 c2]) qs:=by
 refine⟨by simp[h.len],fun W hc=>?_,fun W hc u hu=>?_,fun j W p hj L G=>?_⟩
 ·rcases bC hc with hc|rfl
  ·exact h.four W hc
  ·rfl
 ·rcases bC hc with hc|rfl
  ·exact h.one W hc u hu
  ·simp at hu;rcases hu with rfl|rfl|rfl|rfl<;>rfl
 ·by_cases Pr:i=j
  ·subst Pr;rw[aP (by rw[h.len];exact A)]at L;rw[hq]at G;injection L with L;injection G with G;subst L G;exact hf.four
  ·rw[aS Pr]at L;exact h.at_ j W p (by omega) L G
theorem ko.flat(h:ko w S n i Z qs):Z.flatten.length=n*4:=by rw[ef h.four,h.len]
theorem ko.done(h:ko w1 (Cf w0 iv) n n Z qs)(hl:qs.length=n)(R:n<=maxLen)(r:Rel H nx iv w0.heap.size w1 O J){id:Nat}(hH:dG H id=some (.arr T.eB Z.flatten))(PA:(O id).nil=false):
  kI J FF w0.heap.size [(w0.heap.size,J.heap.size)] (.slice (some ⟨(O id).g,0,none⟩) n n) n qs:=by
 have G:=h.rel r (cH w0);have Og:=r.low id _ hH PA;refine⟨⟨Z,⟨h.flat,.inr ⟨(O id).g,n,Z.flatten.toArray,rfl,aQ _,r.arr id _ _ hH,Nat.le_refl _,R,by simpa using h.flat,?_⟩⟩,h.len,?_⟩,fun g Y=>?_⟩
 ·rw[<-h.flat];exact bA
 ·refine⟨by rw[h.len,hl],fun j W q N h4=>?_⟩;refine(G.at_ j W q (by rw[<-hl];exact(aD.1 h4).1) N h4).cN fun g Y=>⟨?_,fun e=>?_⟩
  ·rcases Y with Y|⟨k1,lo,A,k2,k3,k4⟩
   ·exact Y.elim
   ·exact .inr ⟨k1,_,_,bD.2 rfl,k1,by have:=r.oJ lo A k2;have:=r.size;omega⟩
  ·injection e with e;exact Rel.not r (cH w0) Y id _ hH PA e
 ·injection Y with Y;subst Y;exact .inr ⟨Og.1,_,_,bD.2 rfl,Og.1,Og.2⟩
end
theorem Eh(n:Nat)(w:World)(R:n<=1000000):eI PG F'.xj #[.int .i64 n] w (eO w fun v V=>kI V FF w.heap.size [(w.heap.size,V.heap.size)] v n (List.replicate n 0)):=by
 refine Au (by simp) ?_;conv=>whnf
 refine⟨n,n,rfl,rfl,Nat.le_refl _,by omega,by omega,?_⟩;conv=>whnf
 refine⟨Nat×List (List Value)×Iv×World,fun z=>⟨[(3,.o (.s 0 0 n n)),(8,iZ n),(9,iZ z.1)],[(0,.arr T.eB z.2.1.flatten)],1,z.2.2.1,z.2.2.2⟩,fun z=>n-z.1,
  fun z=>z.1<=n/\dw w.heap.size w z.2.2.2/\ko z.2.2.2 (Cf w z.2.2.1) n z.1 z.2.1 (List.replicate n 0),?_,?_⟩
 ·intro O J r;exact⟨(0,List.replicate n f0,[],J),⟨by simp,r.cU,ko.start _ _ _ _⟩,Sub.gn [] r⟩
 rintro⟨i,Z,iv,w1⟩ ⟨A,I,hF⟩;dsimp only at A I hF ⊢;conv=>whnf
 refine dQ.mk ?_ ?_<;>intro h
 ·have h:i<n:=by simpa using h
  conv=>whnf
  refine cJ (cO (If:=fun _ J v V=>cd V (Nf J V) v ((0:Int):Rat)) (fun O J r=>rX 0 J (by decide) (by decide)) ?_);rintro O wa v1 wb r U hb hO;have Q4:=hO.dK (S:=FF) r.cI (iv:=(wa.heap.size,wb.heap.size)::iv) aF;replace hF:=hF.cM (K:=(wa.heap.size,wb.heap.size)::iv) r (cH w) U fun x F=>aB _ F;replace I:=I.tr hb;clear r U hb hO;generalize (wa.heap.size,wb.heap.size)::iv=Od at*
  obtain⟨b1,a1,n1,c1,b2,a2,n2,c2,rfl⟩:=Q4.shape;have Ou:=hF.next h (q:=0) (by simp[h]) Q4
  conv=>whnf
  refine⟨by omega,?_⟩;conv=>whnf
  refine⟨by have:=hF.flat;omega,(Z.set i [.bool b1,.slice a1 n1 c1,.bool b2,.slice a2 n2 c2]).flatten,?_,?_⟩
  ·have:=iI (W:=[.bool b1,.slice a1 n1 c1,.bool b2,.slice a2 n2 c2]) hF.four (show i<Z.length by rw[hF.len];exact h);rw[<-this];simp
  conv=>whnf
  refine⟨((i+1:Nat):Int),wo,?_⟩;conv=>whnf
  intro GT w3 E;exact⟨(i+1,Z.set i [.bool b1,.slice a1 n1 c1,.bool b2,.slice a2 n2 c2],Od,w3),⟨h,I.tr E.cU,Ou.rel E (cH w)⟩,Sub.gn [] E,by dsimp only;omega⟩
 ·have h:i=n:=by
   have:¬i<n:=by simpa using h
   omega
  subst h;conv=>whnf
  exact rtn I fun IR we re=>hF.done (by simp) (by unfold maxLen;omega) re (id:=0) rfl (re.nn 0 _ rfl (by intros;simp) (by simp))
end Go.Ex
