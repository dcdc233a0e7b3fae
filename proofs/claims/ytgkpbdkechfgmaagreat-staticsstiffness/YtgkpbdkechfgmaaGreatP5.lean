/- Texts X22 to X44: lemmas, each with its conditions. -/
import Derived.Test.YtgkpbdkechfgmaaGreatP4
namespace Go.Ex
open Go Go.Sx Go.Proofs
variable{b b2:Bool}{x y:Int}{xs:List Value}{n sz:Nat}{S S':Nat->Prop}{g q:Rat}{dv nv u v:Value}{w Y:World}
def jP(w:World)(S:Nat->Prop)(v:Value)(a b:Int):Prop:=∃b1 l1 b2 l2,v= .agg #[.bool b1,l1,.bool b2,l2]/\kX w S (.agg #[.bool b1,l1]) a/\kX w S (.agg #[.bool b2,l2]) b
theorem jP.cR{a b:Int}(h:jP w S v a b)(K:∀g,S g->Y.heap[g]? =w.heap[g]?):jP Y S v a b:=by
 obtain⟨b1,l1,b2,l2,I,G,h3⟩:=h;exact⟨b1,l1,b2,l2,I,G.cR K,h3.cR K⟩
theorem jP.cP{a b:Int}(h:jP w S v a b)(K:∀g,S g->S' g):jP w S' v a b:=by
 obtain⟨b1,l1,b2,l2,I,G,h3⟩:=h;exact⟨b1,l1,b2,l2,I,G.cP K,h3.cP K⟩
theorem jP.shape(h:jP w S v x y):∃b a n c b2 a2 n2 c2,v= .agg #[.bool b,.slice a n c,.bool b2,.slice a2 n2 c2]:=by
 obtain⟨b1,l1,b2,l2,I,G,h3⟩:=h;obtain⟨_,a,n,c,h4⟩:=G.shape;obtain⟨_,a2,n2,c2,h5⟩:=h3.shape;simp at h4 h5;obtain⟨rfl,rfl⟩:=h4;obtain⟨rfl,rfl⟩:=h5;exact⟨_,a,n,c,_,a2,n2,c2,I⟩
theorem jP.num(h:jP w S (.agg #[.bool b,nv,.bool b2,dv]) x y):kX w S (.agg #[.bool b,nv]) x:=by
 obtain⟨b1,l1,b2,l2,I,G,h3⟩:=h;simp at I;obtain⟨rfl,rfl,rfl,rfl⟩:=I;exact G
theorem jP.den(h:jP w S (.agg #[.bool b,nv,.bool b2,dv]) x y):kX w S (.agg #[.bool b2,dv]) y:=by
 obtain⟨b1,l1,b2,l2,I,G,h3⟩:=h;simp at I;obtain⟨rfl,rfl,rfl,rfl⟩:=I;exact h3
section
variable{S S':Nat->Prop}{H:Hp}{nx:Nat}{iv N:Iv}{B:Nat}{w J Y:World}{O:Nat->Sx.eG}{v:Value}{x y:Int}
theorem jP.rel(h:jP w (Cv S B iv) v x y)(r:Rel H nx iv B w O J)(F:∀g,S g->g<B):jP J (Cv S B iv) v x y:=h.cR fun _ X=>rls r F X
theorem jP.cS(h:jP w (Cv S B iv) v x y)(r:Rel H nx iv B w O J)(F:∀g,S g->g<B)(L:Ext J Y)(hm:∀p,p∈iv->p∈N):jP Y (Cv S B N) v x y:=
 ((h.rel r F).cR fun g X=>L.block g (rlo r F g X)).cP fun _ X=>X.mono hm
end
def cY(w:World)(S:Nat->Prop)(v:Value)(q:Rat):Prop:=∃b1 l1 b2 l2,v= .agg #[.bool b1,l1,.bool b2,l2]/\db w S (.agg #[.bool b1,l1]) q.num/\db w S (.agg #[.bool b2,l2]) q.den
theorem cY.cR(h:cY w S v q)(K:∀g,S g->Y.heap[g]? =w.heap[g]?):cY Y S v q:=by
 obtain⟨b1,l1,b2,l2,I,G,h3⟩:=h;exact⟨b1,l1,b2,l2,I,G.cR K,h3.cR K⟩
theorem cY.cP(h:cY w S v q)(K:∀g,S g->S' g):cY w S' v q:=by
 obtain⟨b1,l1,b2,l2,I,G,h3⟩:=h;exact⟨b1,l1,b2,l2,I,G.cP K,h3.cP K⟩
theorem cY.r(h:cY w S v q):jP w S v q.num q.den:=by
 obtain⟨b1,l1,b2,l2,I,G,h3⟩:=h;exact⟨b1,l1,b2,l2,I,G.r,h3.r⟩
theorem cY.shape(h:cY w S v q):∃b a n c b2 a2 n2 c2,v= .agg #[.bool b,.slice a n c,.bool b2,.slice a2 n2 c2]:=h.r.shape
theorem cY.num(h:cY w S (.agg #[.bool b,nv,.bool b2,dv]) q):db w S (.agg #[.bool b,nv]) q.num:=by
 obtain⟨b1,l1,b2,l2,I,G,h3⟩:=h;simp at I;obtain⟨rfl,rfl,rfl,rfl⟩:=I;exact G
theorem cY.den(h:cY w S (.agg #[.bool b,nv,.bool b2,dv]) q):db w S (.agg #[.bool b2,dv]) q.den:=by
 obtain⟨b1,l1,b2,l2,I,G,h3⟩:=h;simp at I;obtain⟨rfl,rfl,rfl,rfl⟩:=I;exact h3
theorem cY.of(h:db w S (.agg #[.bool b,nv]) q.num)(k:db w S (.agg #[.bool b2,dv]) q.den):cY w S (.agg #[.bool b,nv,.bool b2,dv]) q:=⟨_,_,_,_,rfl,h,k⟩
section
variable{S S':Nat->Prop}{H:Hp}{nx:Nat}{iv N:Iv}{B:Nat}{w J Y:World}{O:Nat->Sx.eG}{v:Value}{q:Rat}
theorem cY.rel(h:cY w (Cv S B iv) v q)(r:Rel H nx iv B w O J)(F:∀g,S g->g<B):cY J (Cv S B iv) v q:=h.cR fun _ X=>rls r F X
theorem cY.cS(h:cY w (Cv S B iv) v q)(r:Rel H nx iv B w O J)(F:∀g,S g->g<B)(L:Ext J Y)(hm:∀p,p∈iv->p∈N):cY Y (Cv S B N) v q:=
 ((h.rel r F).cR fun g X=>L.block g (rlo r F g X)).cP fun _ X=>X.mono hm
theorem cY.iR(h:cY Y (Nf J Y) v q)(hB:B<=J.heap.size)(hm:(J.heap.size,Y.heap.size)∈iv):cY Y (Cv S B iv) v q:=h.cP fun _ X=>X.iR hB hm
theorem cY.out{w0 w1:World}(h:cY w1 (Cv S w0.heap.size iv) v q)(r:Rel H nx iv w0.heap.size w1 O J)(F:Old S w0):cY J (Nw S w0 J) v q:=
 (h.rel r F).cP fun _ X=>Cv.nw X r
end
theorem tX{f:Rat}(F:Old S w)(hf:dH w S v f):
  eH PG GT.mF #[v] w (eR w fun v' _w2=>v'=iV (rs f)):=by
 have V:=bR w;replace hf:=hf.cP (S':=Cv S w.heap.size []) fun _ h=>.inl h;obtain⟨b1,a1,n1,c1,b2,a2,n2,c2,rfl⟩:=hf.shape;have Vs:=hf.num;have RJ:=hf.den;refine qO bv ?_;refine cQ (cE V (pE (iV (rs f))) (fun O J r=>DY (Vs.rel r F)) ?_);rintro O _ _ _ PA r L V E rfl;exact rtn V fun J8 we re=>rfl
theorem s7{f:Rat}(F:Old S w)(hf:dH w S v f):
  eH PG GT.lk #[v] w (eR w fun v' Y=>dH Y (Nw S w Y) v' (-f)):=by
 have V:=bR w;replace hf:=hf.cP (S':=Cv S w.heap.size []) fun _ h=>.inl h;obtain⟨b1,a1,n1,c1,b2,a2,n2,c2,rfl⟩:=hf.shape;have Vs:=hf.num;have RJ:=hf.den;refine pI bv ?_;refine dP [.x 0,.x 1,.x 3,.x 4,.x 2,.x 5,.x 6] ?_;refine cU (J9:=fun _ J v Y=>ew Y (Nw (Cv S w.heap.size []) J Y) v (-f.num)) (fun O J r=>q9 (rlo r F) (Vs.rel r F)) ?_;rintro O Pw v1 Pa r L hb W;replace V:=V.tr hb;replace RJ:=RJ.cS (N:=(Pw.heap.size,Pa.heap.size)::[]) r F L fun x U=>aB _ U;have hM:=W.old r.dA;generalize (Pw.heap.size,Pa.heap.size)::[]=PA at*
 obtain⟨A0,A1,A2,A3,rfl⟩:=hM.shape;exact rtn V fun J8 we re=>dH.of (by rw[Rat.neg_num];exact hM.out re F) (by rw[Rat.neg_den];exact RJ.out re F)
theorem s8{f:Rat}(F:Old S w)(hf:dH w S v f)(X:dH w S u g)(XI:rl f<=10000000000)(hlg:rl g<=10000000000):
  eH PG GT.lh #[v,u] w (eR w fun v' Y=>dH Y (Nf w Y) v' (f*g)):=by
 have V:=bR w;have l1:=gI f;have l2:=fU f;have l3:=gI g;have l4:=fU g;have m0:=dR f.num g.num;have m1:=dR f.den g.den;replace hf:=hf.cP (S':=Cv S w.heap.size []) fun _ h=>.inl h;replace X:=X.cP (S':=Cv S w.heap.size []) fun _ h=>.inl h;obtain⟨b1,a1,n1,c1,b2,a2,n2,c2,rfl⟩:=hf.shape;obtain⟨b3,a3,n3,c3,b4,a4,n4,c4,rfl⟩:=X.shape;have Vs:=hf.num;have RJ:=hf.den;have Tt:=X.num;have Qh:=X.den;refine pG bv ?_;refine dP [.x 0,.x 1,.x 2,.x 3,.x 5,.x 6,.x 7,.x 8,.x 4,.x 9,.x 10,.x 11] ?_;refine cE V (pR ew (f.num*g.num)) (fun O J r=>jI (rlo r F) (Vs.rel r F) (Tt.rel r F) be be) ?_;rintro O _ _ _ PA r L V E W;replace RJ:=RJ.cS r F L (mC E);replace Qh:=Qh.cS r F L (mC E);have hA:=W.cP (nw r E);obtain⟨A0,A1,A2,A3,rfl⟩:=hA.shape;refine cE V (pR ew ((f.den:Int)*(g.den:Int))) (fun O J r=>jI (rlo r F) (RJ.rel r F) (Qh.rel r F) be be) ?_;rintro O _ _ _ Oy r L V E W;replace hA:=hA.cS r oF L (mC E);have hB:=W.cP (nw r E);obtain⟨C0,C1,C2,C3,rfl⟩:=hB.shape;refine cE V (pR dH (f*g)) (fun O J r=>(BC f g)▸zO (rlo r oF) (hA.rel r oF) (hB.rel r oF) (lJ (gn f) (gn g)) be be) ?_;rintro O _ _ _ PH r L V E W;have hC:=W.cP (nw r E);obtain⟨F0,F1,F2,F3,F4,F5,F6,F7,rfl⟩:=hC.shape;exact rtn V fun J8 we re=>hC.out re oF
theorem Lt{f:Rat}(F:Old S w)(hf:dH w S v f)(X:dH w S u g)(XI:rl f<=10000000000)(hlg:rl g<=10000000000)(Uh:g≠0):
  eH PG GT.oG #[v,u] w (eR w fun v' Y=>dH Y (Nf w Y) v' (f / g)):=by
 have V:=bR w;have l1:=gI f;have l2:=fU f;have l3:=gI g;have l4:=fU g;have m0:=dR f.num g.den;have m1:=dR f.den g.num;replace hf:=hf.cP (S':=Cv S w.heap.size []) fun _ h=>.inl h;replace X:=X.cP (S':=Cv S w.heap.size []) fun _ h=>.inl h;obtain⟨b1,a1,n1,c1,b2,a2,n2,c2,rfl⟩:=hf.shape;obtain⟨b3,a3,n3,c3,b4,a4,n4,c4,rfl⟩:=X.shape;have Vs:=hf.num;have RJ:=hf.den;have Tt:=X.num;have Qh:=X.den;refine s4 bv ?_;refine dP [.x 0,.x 1,.x 2,.x 3,.x 5,.x 6,.x 7,.x 8,.x 4,.x 9,.x 10,.x 11] ?_;refine cE V (pR ew (f.num*(g.den:Int))) (fun O J r=>jI (rlo r F) (Vs.rel r F) (Qh.rel r F) be be) ?_;rintro O _ _ _ PA r L V E W;replace RJ:=RJ.cS r F L (mC E);replace Tt:=Tt.cS r F L (mC E);have hA:=W.cP (nw r E);obtain⟨A0,A1,A2,A3,rfl⟩:=hA.shape;refine cE V (pR ew ((f.den:Int)*g.num)) (fun O J r=>jI (rlo r F) (RJ.rel r F) (Tt.rel r F) be be) ?_;rintro O _ _ _ Oy r L V E W;replace hA:=hA.cS r oF L (mC E);have hB:=W.cP (nw r E);obtain⟨C0,C1,C2,C3,rfl⟩:=hB.shape;refine cE V (pR dH (f / g)) (fun O J r=>(GG f g)▸zO (rlo r oF) (hA.rel r oF) (hB.rel r oF) (lJ (gn f) (fun e=>Uh (Rat.num_eq_zero.1 e))) be be) ?_;rintro O _ _ _ PH r L V E W;have hC:=W.cP (nw r E);obtain⟨F0,F1,F2,F3,F4,F5,F6,F7,rfl⟩:=hC.shape;exact rtn V fun J8 we re=>hC.out re oF
theorem HH{f:Rat}(F:Old S w)(hf:dH w S v f)(X:dH w S u g)(XI:rl f<=10000000000)(hlg:rl g<=10000000000):
  eH PG GT.mG #[v,u] w (eR w fun v' Y=>dH Y (Nf w Y) v' (f+g)):=by
 have V:=bR w;have l1:=gI f;have l2:=fU f;have l3:=gI g;have l4:=fU g;have m0:=dR f.num g.den;have m1:=dR g.num f.den;have m2:=dR f.den g.den;have m4:=j9 (f.num*g.den) (g.num*f.den);replace hf:=hf.cP (S':=Cv S w.heap.size []) fun _ h=>.inl h;replace X:=X.cP (S':=Cv S w.heap.size []) fun _ h=>.inl h;obtain⟨b1,a1,n1,c1,b2,a2,n2,c2,rfl⟩:=hf.shape;obtain⟨b3,a3,n3,c3,b4,a4,n4,c4,rfl⟩:=X.shape;have Vs:=hf.num;have RJ:=hf.den;have Tt:=X.num;have Qh:=X.den;refine qP bv ?_;refine dP [.x 0,.x 1,.x 2,.x 3,.x 5,.x 6,.x 7,.x 8,.x 11,.x 12,.x 13,.x 14,.x 4,.x 9,.x 10,.x 15,.x 16,.x 17] ?_;refine cE V (pR ew (f.num*(g.den:Int))) (fun O J r=>jI (rlo r F) (Vs.rel r F) (Qh.rel r F) be be) ?_;rintro O _ _ _ PA r L V E W;replace RJ:=RJ.cS r F L (mC E);replace Tt:=Tt.cS r F L (mC E);replace Qh:=Qh.cS r F L (mC E);have hA:=W.cP (nw r E);obtain⟨A0,A1,A2,A3,rfl⟩:=hA.shape;refine cE V (pR ew (g.num*(f.den:Int))) (fun O J r=>jI (rlo r F) (Tt.rel r F) (RJ.rel r F) be be) ?_;rintro O _ _ _ Oy r L V E W;replace RJ:=RJ.cS r F L (mC E);replace Qh:=Qh.cS r F L (mC E);replace hA:=hA.cS r oF L (mC E);have hB:=W.cP (nw r E);obtain⟨C0,C1,C2,C3,rfl⟩:=hB.shape;refine cE V (pR ew (f.num*(g.den:Int)+g.num*(f.den:Int))) (fun O J r=>FO (rlo r oF) (hA.rel r oF) (hB.rel r oF) be be) ?_;rintro O _ _ _ PH r L V E W;replace RJ:=RJ.cS r F L (mC E);replace Qh:=Qh.cS r F L (mC E);have hD:=W.cP (nw r E);obtain⟨F0,F1,F2,F3,rfl⟩:=hD.shape;refine cE V (pR ew ((f.den:Int)*(g.den:Int))) (fun O J r=>jI (rlo r F) (RJ.rel r F) (Qh.rel r F) be be) ?_;rintro O _ _ _ PV r L V E W;replace hD:=hD.cS r oF L (mC E);have hE:=W.cP (nw r E);obtain⟨J0,J1,J2,J3,rfl⟩:=hE.shape;refine cE V (pR dH (f+g)) (fun O J r=>(wj f g)▸zO (rlo r oF) (hD.rel r oF) (hE.rel r oF) (lJ (gn f) (gn g)) be be) ?_;rintro O _ _ _ Qk r L V E W;have hC:=W.cP (nw r E);obtain⟨K0,K1,K2,K3,K4,K5,K6,K7,rfl⟩:=hC.shape;exact rtn V fun J8 we re=>hC.out re oF
theorem ta{f:Rat}(F:Old S w)(hf:dH w S v f)(XI:rl f<=100000000000):
  eH PG GT.mE #[v] w (eR w fun v' Y=>cY Y (Nf w Y) v' f):=by
 have V:=bR w;have l1:=gI f;have l2:=fU f;replace hf:=hf.cP (S':=Cv S w.heap.size []) fun _ h=>.inl h;obtain⟨b1,a1,n1,c1,b2,a2,n2,c2,rfl⟩:=hf.shape;have Vs:=hf.num;have RJ:=hf.den;refine qN bv ?_;refine dP [.x 0,.x 1,.x 3,.x 4,.x 2,.x 5,.x 6,.x 7] ?_;refine cE V (pR db f.num) (fun O J r=>aAk (rlo r F) (Vs.rel r F) be) ?_;rintro O _ _ _ PA r L V E W;replace RJ:=RJ.cS r F L (mC E);have hA:=W.cP (nw r E);obtain⟨A0,A1,A2,A3,rfl⟩:=hA.shape;refine cE V (pR db (f.den:Int)) (fun O J r=>aAk (rlo r F) (RJ.rel r F) be) ?_;rintro O _ _ _ Oy r L V E W;replace hA:=hA.cS r oF L (mC E);have hB:=W.cP (nw r E);obtain⟨C0,C1,C2,C3,rfl⟩:=hB.shape;exact rtn V fun J8 we re=>cY.of (hA.out re oF) (hB.out re oF)
theorem BM(n:Int)(w:World)(I: -9223372036854775808<=n)(G:n<=9223372036854775807):
  eH PG GT.zx #[iV n] w (eR w fun v' Y=>dH Y (Nf w Y) v' (n:Rat)):=by
 have V:=bR w;refine DF bv ?_;refine cQ (cE V (pR ew n) (fun O J r=>qh n J I G) ?_);rintro O _ _ _ PA r L V E W;have hA:=W.cP (nw r E);obtain⟨A0,A1,A2,A3,rfl⟩:=hA.shape;refine cQ (cE V (pR ew 1) (fun O J r=>qh 1 J bi bi) ?_);rintro O _ _ _ Oy r L V E W;replace hA:=hA.cS r oF L (mC E);have hB:=W.cP (nw r E);obtain⟨C0,C1,C2,C3,rfl⟩:=hB.shape;exact rtn V fun J8 we re=>dH.of (by rw[Rat.num_intCast];exact hA.out re oF) (by rw[Rat.den_intCast];exact hB.out re oF)
theorem kl(F:Old S w)(U:jP w S v x y)(Pq:ln x.natAbs<=100000000000)(RL:ln y.natAbs<=100000000000):
  eH PG GT.zo #[v] w (eR w fun v' Y=>dH Y (Nf w Y) v' (ratio x y)):=by
 have V:=bR w;replace U:=U.cP (S':=Cv S w.heap.size []) fun _ h=>.inl h;obtain⟨b1,a1,n1,c1,b2,a2,n2,c2,rfl⟩:=U.shape;have W:=U.num;have hd:=U.den;have SY:=W;have WL:=hd;refine Cz bv ?_;refine cQ (cU (J9:=fun _ J v Y=>ew Y (Nw (Cv S w.heap.size []) J Y) v y) (fun O J r=>aAv (rlo r F) (WL.rel r F)) ?_);rintro O Pw v1 Pa r L hb W;replace V:=V.tr hb;replace SY:=SY.cS (N:=(Pw.heap.size,Pa.heap.size)::[]) r F L fun x U=>aB _ U;have hD:=W.old r.dA;generalize (Pw.heap.size,Pa.heap.size)::[]=PA at*
 obtain⟨A0,A1,A2,A3,rfl⟩:=hD.shape;refine cQ (cE V (pE (iV y.sign)) (fun O J r=>DY (hD.rel r F)) ?_);rintro O _ _ _ Oy r L V E rfl;replace SY:=SY.cS r F L (mC E);replace hD:=hD.cS r F L (mC E);apply bS<;>intro h
 .have h:y=0:=cM.1 (eq_of_beq h);have e0:ratio x y=Rat.divInt x 1:=aM h;refine cQ (cE V (pR ew 1) (fun O J r=>qh 1 J bi bi) ?_);rintro O QD v3 QC PH r L V E W;replace SY:=SY.cS r F L (mC E);have hO:=W.cP (nw r E);obtain⟨C0,C1,C2,C3,rfl⟩:=hO.shape;have l1:ln (1:Int).natAbs=1:=by decide
  refine dP [.x 0,.x 1,.x 3,.x 2,.x 4,.x 5] ?_;refine cU (J9:=fun _ J v Y=>ew Y (Nw (Cv S w.heap.size PH) J Y) v x) (fun O J r=>aAv (rlo r F) (SY.rel r F)) ?_;rintro O RF v4 Qw r L hb W;replace V:=V.tr hb;replace hO:=hO.cS (N:=(RF.heap.size,Qw.heap.size)::PH) r oF L fun x U=>aB _ U;have hN:=W.old r.dA;generalize (RF.heap.size,Qw.heap.size)::PH=PV at*
  obtain⟨F0,F1,F2,F3,rfl⟩:=hN.shape;refine cE V (pR dH (ratio x y)) (fun O J r=>e0.symm▸zO (rlo r F) (hN.rel r F) ((hO.rel r oF).cP fun g X=>X.elim (fun k=>k.elim) .inr) bi be be) ?_;rintro O _ _ _ Qk r L V E W;have hC:=W.cP (nw r E);obtain⟨J0,J1,J2,J3,J4,J5,J6,J7,rfl⟩:=hC.shape;exact rtn V fun J8 we re=>hC.out re oF
 .have h:y≠0:=fun e=>by rw[e]at h;exact absurd h bi
  have e0:ratio x y=Rat.divInt x y:=aJ h;refine dP [.x 0,.x 1,.x 3,.x 2,.x 4,.x 5] ?_;refine cU (J9:=fun _ J v Y=>ew Y (Nw (Cv S w.heap.size Oy) J Y) v x) (fun O J r=>aAv (rlo r F) (SY.rel r F)) ?_;rintro O QD v3 QC r L hb W;replace V:=V.tr hb;replace hD:=hD.cS (N:=(QD.heap.size,QC.heap.size)::Oy) r F L fun x U=>aB _ U;have hN:=W.old r.dA;generalize (QD.heap.size,QC.heap.size)::Oy=PH at*
  obtain⟨C0,C1,C2,C3,rfl⟩:=hN.shape;refine cE V (pR dH (ratio x y)) (fun O J r=>e0.symm▸zO (rlo r F) (hN.rel r F) (hD.rel r F) h be be) ?_;rintro O _ _ _ PV r L V E W;have hC:=W.cP (nw r E);obtain⟨F0,F1,F2,F3,F4,F5,F6,F7,rfl⟩:=hC.shape;exact rtn V fun J8 we re=>hC.out re oF
def jb(v:Value):Iv:=match v.ownBlock with
 |some g=>[(g,g+1)]
 |none=>[]
theorem tY{lo D:Nat}:(lo,D)∈jb v↔v.ownBlock=some lo/\D=lo+1:=by
 unfold jb
 cases h:v.ownBlock with
 |none=>simp
 |some g=>simp;omega
def Ge(iv:Iv)(v:Value):Prop:=∀b,v.ownBlock=some b->∃lo D,(lo,D)∈iv/\lo<=b/\b<D
section
variable{S:Nat->Prop}{H:Hp}{nx:Nat}{iv N:Iv}{B e sz m:Nat}{w J Y:World}{O:Nat->Sx.eG}{v v':Value}{xs:List Value}
theorem Ge.not(h:Ge iv v)(r:Rel H nx iv B w O J){b:Nat}(hb:v.ownBlock=some b):∀id c,dU H id=some c->(O id).nil=false->(O id).g≠b:=fun id c hc W L=>by
 obtain⟨lo,D,I,G,h3⟩:=h b hb;exact r.mA lo D I id c hc W be
theorem jZ(h:w.ownsRow B e sz v m xs)(hc:Ge iv v)(r:Rel H nx iv B w O J):J.ownsRow B e sz v m xs:=
 ownsRow.cR h fun b hb=>r.yJ b (ownsRow.low h b hb).2 fun id c hc' W L=>hc.not r hb id c hc' W L
theorem Ge.row(v:Value):Ge (jb v) v:=fun b hb=>⟨b,b+1,tY.2 ⟨hb,rfl⟩,be,be⟩
theorem Ge.mono(h:Ge iv v)(k:∀p,p∈iv->p∈N):Ge N v:=fun b hb=>by
 obtain⟨lo,D,I,G⟩:=h b hb;exact⟨lo,D,k _ I,G⟩
theorem ie(h:w.ownsRow B e sz v m xs):∃a c,v= .slice a m c/\m<=c:=by
 rcases h.2 with⟨rfl,rfl⟩|⟨g,cap,cur,rfl,_,_,I,_⟩
 .exact⟨none,0,rfl,lr⟩
 .exact⟨_,cap,rfl,I⟩
end
structure j1(w:World)(S:Nat->Prop)(sz:Nat)(v:Value)(xs:List Value)(n:Nat):Prop where
 le:n<=maxLen
 len:xs.length=n*sz
 one:∀u∈xs,u.oneCell'=true
 sl:∃a c,v= .slice a n c/\n<=c/\∀(j:Nat) u,xs[j]? =some u->∃ad,a=some ad/\S ad.block/\w.cell? (ad.add j)=some u
theorem j1.cR(h:j1 w S sz v xs n)(K:∀g,S g->Y.heap[g]? =w.heap[g]?):j1 Y S sz v xs n:=by
 obtain⟨h0,I,G,a,c,h3,h4,h5⟩:=h;refine⟨h0,I,G,a,c,h3,h4,fun j u hu=>?_⟩;obtain⟨ad,k1,k2,k3⟩:=h5 j u hu;exact⟨ad,k1,k2,by rw[cV (K _ (by rw[dO];exact k2))];exact k3⟩
theorem j1.cP(h:j1 w S sz v xs n)(K:∀g,S g->S' g):j1 w S' sz v xs n:=by
 obtain⟨h0,I,G,a,c,h3,h4,h5⟩:=h;refine⟨h0,I,G,a,c,h3,h4,fun j u hu=>?_⟩;obtain⟨ad,k1,k2,k3⟩:=h5 j u hu;exact⟨ad,k1,K _ k2,k3⟩
section
variable{S S':Nat->Prop}{H:Hp}{nx:Nat}{iv N:Iv}{B:Nat}{w J Y:World}{O:Nat->Sx.eG}{v:Value}{sz n:Nat}{xs:List Value}
end
end Go.Ex
namespace Go.Sx
open Go Go.Ex Go.Proofs
section
variable{O:Nat->Sx.eG}
theorem Rel.qW{H:Hp}{nx:Nat}{iv:Iv}{B:Nat}{w J:World}(r:Rel H nx iv B w O J){id t sz n:Nat}{Z:List At}(h:dU H id=some (.box t Z))(hl:Z.length=n*sz)(W:n<=maxLen)(I:∀u∈Z,(u.den O).oneCell'=true):
  j1 J (fun g=>g=(O id).g) sz (.slice (some ⟨(O id).g,0,none⟩) n n) (Z.map (At.den O)) n:=by
 refine⟨W,by simpa using hl,fun u hu=>?_,_,_,rfl,lr,fun j u hu=>⟨_,rfl,rfl,?_⟩⟩
 .obtain⟨x,U,rfl⟩:=aV.1 hu;exact I x U
 .have h0:(⟨(O id).g,0,none⟩:Addr).add j=⟨(O id).g,j,none⟩:=by
   cases j with
   |zero=>rfl
   |succ j=>simp[Addr.add]
  rw[h0,cell_of (r.box id t _ h)];exact hu
end
variable{Z:List Value}{O:Nat->Sx.eG}
theorem Rel.D3{H:Hp}{nx:Nat}{iv:Iv}{B:Nat}{w J:World}(r:Rel H nx iv B w O J){id t sz n:Nat}(h:dU H id=some (.arr t Z))(hl:Z.length=n*sz)(W:n<=maxLen)(I:∀u∈Z,u.oneCell'=true):
  j1 J (fun g=>g=(O id).g) sz (.slice (some ⟨(O id).g,0,none⟩) n n) Z n:=by
 refine⟨W,hl,I,_,_,rfl,lr,fun j u hu=>⟨_,rfl,rfl,?_⟩⟩;have h0:(⟨(O id).g,0,none⟩:Addr).add j=⟨(O id).g,j,none⟩:=by
  cases j with
  |zero=>rfl
  |succ j=>simp[Addr.add]
 rw[h0,cell_of (r.arr id t _ h)];exact hu
end Go.Sx
namespace Go.Ex
open Go Go.Sx Go.Proofs
theorem aBN{n:Nat}(h:n<=9223372036854775807):IntKind.i64.wrap (n:Int)=n:=by rw[wrap64]<;>omega
theorem aCN{t b:Nat}(h:t<=9223372036854775807):IntKind.i64.wrap ((t:Int).tdiv (b:Int))=((t / b:Nat):Int):=by
 have I:=Nat.div_le_self t b;rw[Int.tdiv_eq_ediv_of_nonneg be,<-Int.natCast_ediv];exact aBN be
def D4:Value:=.agg #[.bool false,nls,.bool false,nls]
theorem nN{n:Int}(I: -9223372036854775808<=n)(G:n<=9223372036854775807):ln n.natAbs<=2:=gg.2 (by show n.natAbs<4294967296^2;omega)
end Go.Ex
namespace Go.Sx
open Go Go.Ex Go.Proofs
variable{Z:List Value}{O:Nat->Sx.eG}
theorem Rel.iD{H:Hp}{nx:Nat}{iv:Iv}{B:Nat}{w J:World}(r:Rel H nx iv B w O J){id t m sz:Nat}(h:dU H id=some (.vec t sz Z))(hm:Z.length=m*sz)(S9:m<=maxLen)(hs:0<sz)(I:∀u∈Z,u.oneCell'=true):
  j1 J (fun g=>B<=g/\g<J.heap.size) sz ((At.w id m).den O) Z m:=by
 rcases r.vec id t sz _ h with⟨W,rfl⟩|⟨W,spare,hb,hc,Qt⟩
 .have Uu:m=0:=by
   rcases bZ m with h|h
   .exact h
   .have:=Nat.mul_pos h hs;simp at hm;omega
  subst Uu;refine⟨S9,bv,bv,none,0,by simp[At.den,W],lr,bv⟩
 .refine⟨S9,hm,I,some ⟨(O id).g,0,none⟩,(O id).cap,by simp[At.den,W],?_,fun j x U=>⟨_,rfl,r.low id _ h W,?_⟩⟩
  .have I:(Z++spare).length=Z.length+spare.length:=aQ;have G:m*sz<=(O id).cap*sz:=by omega
   exact cL G hs
  .rw[dX,cell_of hb,aW,aI (aE.1 U).1];exact U
end Go.Sx
namespace Go.Ex
open Go Go.Sx Go.Proofs
variable{A:List (List Value)}{qs:List Rat}{Z xs:List Value}{i j n:Nat}{C S:Nat->Prop}{O:Nat->Sx.eG}{a:Option Addr}{q:Rat}{v:Value}{w:World}
def signed:Bool->ByteArray->ByteArray
 |true,s=>⟨#[45]⟩++s
 |false,s=>s
def oJ(w:World)(S:Nat->Prop)(Z:List Value)(q:Rat):Prop:=∃b a n c b2 a2 n2 c2,Z=(rC b a n c b2 a2 n2 c2)/\dH w S (.agg #[.bool b,.slice a n c,.bool b2,.slice a2 n2 c2]) q
def Fr(w:World)(S:Nat->Prop)(A:List (List Value))(qs:List Rat):Prop:=A.length=qs.length/\∀(j:Nat) Z q,A[j]? =some Z->qs[j]? =some q->oJ w S Z q
section
variable{S S':Nat->Prop}{w Y:World}{Z:List Value}{A:List (List Value)}{q:Rat}{qs:List Rat}
theorem oJ.cR(h:oJ w S Z q)(K:∀g,S g->Y.heap[g]? =w.heap[g]?):oJ Y S Z q:=by
 obtain⟨b,a,n,c,b2,a2,n2,c2,I,G⟩:=h;exact⟨b,a,n,c,b2,a2,n2,c2,I,G.cR K⟩
theorem oJ.cP(h:oJ w S Z q)(K:∀g,S g->S' g):oJ w S' Z q:=by
 obtain⟨b,a,n,c,b2,a2,n2,c2,I,G⟩:=h;exact⟨b,a,n,c,b2,a2,n2,c2,I,G.cP K⟩
theorem oJ.len(h:oJ w S Z q):Z.length=4:=by obtain⟨_,_,_,_,_,_,_,_,rfl,_⟩:=h;rfl
theorem dH.four{b b2:Bool}{a2:Option Addr}{c n2 c2:Nat}(h:dH w S (.agg #[.bool b,.slice a n c,.bool b2,.slice a2 n2 c2]) q):oJ w S (rC b a n c b2 a2 n2 c2) q:=⟨_,_,_,_,_,_,_,_,rfl,h⟩
theorem Fr.cR(h:Fr w S A qs)(K:∀g,S g->Y.heap[g]? =w.heap[g]?):Fr Y S A qs:=⟨h.1,fun j Z q I G=>(h.2 j Z q I G).cR K⟩
theorem Fr.cP(h:Fr w S A qs)(K:∀g,S g->S' g):Fr w S' A qs:=⟨h.1,fun j Z q I G=>(h.2 j Z q I G).cP K⟩
theorem Fr.ma(h:Fr w S A qs):∀Z∈A,Z.length=4:=fun Z hc=>by
 obtain⟨j,hj⟩:=aU hc;have hl:=(aE.1 hj).1;exact(h.2 j Z _ hj (aD (by rw[<-h.1];exact hl))).len
theorem Fr.one(h:Fr w S A qs):∀u∈A.flatten,u.oneCell'=true:=fun u hu=>by
 obtain⟨Z,hc,hu⟩:=List.mem_flatten.1 hu;obtain⟨j,hj⟩:=aU hc;have hl:=(aE.1 hj).1;obtain⟨_,_,_,_,_,_,_,_,rfl,_⟩:=h.2 j Z _ hj (aD (by rw[<-h.1];exact hl));simp at hu;rcases hu with rfl|rfl|rfl|rfl<;>rfl
theorem Fr.set(h:Fr w S A qs)(hq:oJ w S Z q):Fr w S (A.set j Z) (qs.set j q):=by
 refine⟨by simp[h.1],fun i c p I G=>?_⟩;by_cases Py:j=i
 .subst Py;have hl:=(aE.1 I).1;rw[aT (by simpa using hl)]at I;rw[aT (by have:=h.1;simp at hl;omega)]at G;injection I with I;injection G with G;subst I G;exact hq
 .rw[aY Py]at I G;exact h.2 i c p I G
end
section
variable{S S':Nat->Prop}{H:Hp}{nx:Nat}{iv N:Iv}{B:Nat}{w J Y:World}{O:Nat->Sx.eG}{A:List (List Value)}{qs:List Rat}
theorem Fr.rel(h:Fr w (Cv S B iv) A qs)(r:Rel H nx iv B w O J)(F:∀g,S g->g<B):Fr J (Cv S B iv) A qs:=h.cR fun _ X=>rls r F X
theorem Fr.cS(h:Fr w (Cv S B iv) A qs)(r:Rel H nx iv B w O J)(F:∀g,S g->g<B)(L:Ext J Y)(hm:∀p,p∈iv->p∈N):Fr Y (Cv S B N) A qs:=
 ((h.rel r F).cR fun g X=>L.block g (rlo r F g X)).cP fun _ X=>X.mono hm
theorem Fr.arg(h:Fr w S A qs)(iv:Iv):Fr w (Cv S w.heap.size iv) A qs:=h.cP fun _ h=>.inl h
end
theorem eP:∀{A:List (List Value)},(∀Z∈A,Z.length=4)->A.flatten.length=A.length*4
 |[],_=>rfl
 |c::r,h=>by
  rw[List.flatten_cons,aQ,eP (fun Z hc=>h Z (aB _ hc)),h c aH,bg];omega
theorem flat_get:∀{A:List (List Value)} {j:Nat} {Z:List Value},(∀Z∈A,Z.length=4)->A[j]? =some Z->∀k u,Z[k]? =some u->A.flatten[j*4+k]? =some u
 |[],j,Z,_,hj,_,_,_=>by simp at hj
 |c::r,0,Z,h,hj,k,u,hu=>by
  simp at hj;subst hj;rw[List.flatten_cons,aI (by have:=(aE.1 hu).1;omega)];simpa using hu
 |c::r,j+1,Z,h,hj,k,u,hu=>by
  have hc:=h c aH;rw[List.flatten_cons,aN be,hc,show(j+1)*4+k-4=j*4+k by omega];exact flat_get (fun Z hc=>h Z (aB _ hc)) (by simpa using hj) k u hu
theorem jy:∀{A:List (List Value)} {j:Nat} {Z:List Value},(∀Z∈A,Z.length=4)->j<A.length->A.flatten.take (j*4)++Z++A.flatten.drop (j*4+4)=(A.set j Z).flatten
 |[],j,Z,_,hj=>by simp at hj
 |c::r,0,Z,h,_=>by
  have hc:=h c aH;simp[List.flatten_cons,hc]
 |c::r,j+1,Z,h,hj=>by
  have hc:=h c aH
  rw[List.flatten_cons,show(j+1)*4=c.length+j*4 by omega,List.take_length_add_append,show c.length+j*4+4=c.length+(j*4+4) by omega,List.drop_length_add_append,List.set_cons_succ,List.flatten_cons,
   <-jy (fun Z hc=>h Z (aB _ hc)) (by simpa using hj),cC,cC,cC]
abbrev Out(B:Nat)(iv:Iv):Nat->Prop:=Cv (fun g=>g<B) B iv
theorem ij{H:Hp}{nx:Nat}{iv:Iv}{B Bc e sz m:Nat}{J:World}(h:w.ownsRow Bc e sz v m xs)(hc:∀g,v.ownBlock=some g->Out B iv g)(r:Rel H nx iv B w O J):J.ownsRow Bc e sz v m xs:=
 ownsRow.cR h fun b hb=>rls r (fun _ h=>h) (hc b hb)
theorem D5{c:Nat}(h:w.ownsRow 0 T.eJ 4 (.slice a n c) n A.flatten)(hf:Fr w S A qs)(hj:A[j]? =some Z):
  ∃g,a=some ⟨g,0,none⟩/\∀k u,Z[k]? =some u->w.cell? ((Addr.add ⟨g,0,none⟩ (j*4)).add k)=some u:=by
 rcases h.2 with⟨I,h0⟩|⟨g,cap,cur,SN,_⟩
 .have:=h.1;rw[eP hf.ma]at this;have:=(aE.1 hj).1;omega
 .injection SN with I G h3;subst I;refine⟨g,rfl,fun k u hu=>?_⟩;have:=h.cells (g:=g) rfl (j*4+k) u (flat_get hf.ma hj k u hu);rw[dX,dX];rw[dX]at this;rw[Nat.add_assoc];exact this
theorem aCO:PG.underlying T.row=some (.slice T.eJ):=(hτ T.row _ rfl).i4 rfl
theorem eY{w1 Y:World}{row:Option Nat}(h:w.grownBy w1 row)(k:ju w.heap.size w1 Y):w.grownBy Y row:=
 ⟨k.os.trans h.os,k.tape.trans h.tape,k.output.trans h.output,aX h.size k.size,fun b hb W=>(k.block b hb).trans (h.block b hb W)⟩
def ig(i:Nat)(f:Nat->Rat->Rat)(qs:List Rat):List Rat:=qs.mapIdx fun j q=>if j<i then f j q else q
theorem qX(f:Nat->Rat->Rat)(qs:List Rat):ig 0 f qs=qs:=by
 apply bT;intro j;simp[ig]
theorem tZ(f:Nat->Rat->Rat)(qs:List Rat):ig qs.length f qs=qs.mapIdx f:=by
 apply bT;intro j;simp only[ig,List.getElem?_mapIdx]
 cases h:qs[j]? with
 |none=>rfl
 |some q=>simp[(aE.1 h).1]
theorem nJ{f:Nat->Rat->Rat}(h:qs[i]? =some q):(ig i f qs).set i (f i q)=ig (i+1) f qs:=by
 apply bT;intro j;have D:=(aE.1 h).1;by_cases Py:i=j
 .subst Py;rw[aT (by simp[ig];exact D)];simp[ig,List.getElem?_mapIdx,h]
 .rw[aY Py];simp only[ig,List.getElem?_mapIdx]
  have:(j<i)↔(j<i+1):=by omega
  simp[this]
theorem DR{f:Nat->Rat->Rat}(h:qs[i]? =some q)(hf:f i q=q):ig i f qs=ig (i+1) f qs:=by
 rw[<-nJ h,hf];apply bT;intro j;have D:=(aE.1 h).1;by_cases Py:i=j
 .subst Py;rw[aT (by simp[ig];exact D)];simp[ig,List.getElem?_mapIdx,h]
 .rw[aY Py]
theorem xp{f:Nat->Rat->Rat}(h:qs[i]? =some q):(ig i f qs)[i]? =some q:=by
 simp only[ig,List.getElem?_mapIdx,h]
 simp
def il(w:World)(C S:Nat->Prop)(v:Value)(qs:List Rat):Prop:=∃A,j1 w C 4 v A.flatten qs.length/\Fr w S A qs
section
variable{C C' S S':Nat->Prop}{H:Hp}{nx:Nat}{iv N:Iv}{B:Nat}{w J Y:World}{O:Nat->Sx.eG}{v:Value}{qs:List Rat}
theorem il.cR(h:il w C S v qs)(K:∀g,C g\/S g->Y.heap[g]? =w.heap[g]?):il Y C S v qs:=by
 obtain⟨A,I,G⟩:=h;exact⟨A,I.cR fun g X=>K g (.inl X),G.cR fun g X=>K g (.inr X)⟩
theorem il.cP(h:il w C S v qs)(K:∀g,C g->C' g)(Vv:∀g,S g->S' g):il w C' S' v qs:=by
 obtain⟨A,I,G⟩:=h;exact⟨A,I.cP K,G.cP Vv⟩
theorem il.rel(h:il w (Cv C B iv) (Cv S B iv) v qs)(r:Rel H nx iv B w O J)(hC:∀g,C g->g<B)(F:∀g,S g->g<B):il J (Cv C B iv) (Cv S B iv) v qs:=
 h.cR fun _ X=>X.elim (rls r hC) (rls r F)
theorem il.cS(h:il w (Cv C B iv) (Cv S B iv) v qs)(r:Rel H nx iv B w O J)(hC:∀g,C g->g<B)(F:∀g,S g->g<B)(L:Ext J Y)(hm:∀p,p∈iv->p∈N):il Y (Cv C B N) (Cv S B N) v qs:=
 ((h.rel r hC F).cR fun g X=>L.block g (X.elim (rlo r hC g) (rlo r F g))).cP (fun _ X=>X.mono hm) (fun _ X=>X.mono hm)
theorem il.arg(h:il w C S v qs)(iv:Iv):il w (Cv C w.heap.size iv) (Cv S w.heap.size iv) v qs:=h.cP (fun _ h=>.inl h) (fun _ h=>.inl h)
end
theorem il.shape(h:il w C S v qs):∃a c,v= .slice a qs.length c/\qs.length<=c/\qs.length<=maxLen:=by
 obtain⟨A,⟨h0,_,_,a,c,I,G,_⟩,_⟩:=h;exact⟨a,c,I,G,h0⟩
theorem il.load{c:Nat}(h:il w C S (.slice a n c) qs)(hq:qs[j]? =some q):
  ∃ad Z,a=some ad/\oJ w S Z q/\∀k u,Z[k]? =some u->C ad.block/\w.cell? ((ad.add (j*4)).add k)=some u:=by
 obtain⟨A,⟨h0,I,G,a',c',e,h3,h4⟩,hf⟩:=h;injection e with e1 e2 e3;subst e1;obtain⟨Z,PT⟩:∃Z,A[j]? =some Z:=⟨_,aD (by rw[hf.1];exact(aE.1 hq).1)⟩
 have hF:=hf.2 j Z q PT hq;have hl:=hF.len;obtain⟨ad,k1,k2,k3⟩:=h4 (j*4+0) _ (flat_get hf.ma PT 0 _ (aD (show 0<Z.length by omega)));refine⟨ad,Z,k1,hF,fun k u hu=>?_⟩;obtain⟨ad2,m1,m2,m3⟩:=h4 (j*4+k) u (flat_get hf.ma PT k u hu);rw[k1]at m1;injection m1 with m1;subst m1;refine⟨m2,?_⟩;rw[<-m3];have:(ad.add (j*4)).add k=ad.add (j*4+k):=by
  unfold Addr.add;split<;>split<;>simp_all<;>omega
 rw[this]
def sw(p:Rat)(ps:List Rat)(j:Nat)(q:Rat):Rat:=q+p*ps.getD j 0
theorem JM(ps qs:List Rat):qs.mapIdx (sw 0 ps)=qs:=by
 apply bT;intro j;rw[List.getElem?_mapIdx]
 cases qs[j]? with
 |none=>rfl
 |some q=>exact congrArg some (by rw[sw,bI,bV])
theorem I9{vby vs:Value}{ps:List Rat}{p:Rat}(hC:Old C w)(F:Old S w)(Ov:w.ownsRow 0 T.eJ 4 v n A.flatten)(Q1:Fr w S A qs)(QW:A.length=n)(PZ:dH w S vby p)
  (hs:il w C S vs ps) (Q4:ps.length=n) (hdis:∀g,v.ownBlock=some g->¬S g) (WC:∀g,v.ownBlock=some g->¬C g) (hq:∀q∈qs,rl q<=2000000000) (hps:∀q∈ps,rl q<=2000000000) (hb:rl p<=2000000000):
  eH PG GT.o0 #[v,vby,vs] w (fun e Y=>e= .returned (.tuple #[])/\w.grownBy Y v.ownBlock/\∃css',Y.ownsRow 0 T.eJ 4 v n css'.flatten/\css'.length=n/\Fr Y (Nw S w Y) css' (qs.mapIdx (sw p ps))):=by
 have PI:∀g,v.ownBlock=some g->g<w.heap.size:=fun g X=>(ownsRow.low Ov g X).2;have QH:∀iv g,v.ownBlock=some g->Out w.heap.size iv g:=fun iv g X=>.inl (PI g X);have Wg:∀iv g,v.ownBlock=some g->¬Cv S w.heap.size iv g:=fun iv g X h=>by
  rcases h with h|⟨h,_⟩
  .exact hdis g X h
  .have:=PI g X;omega
 have Wh:∀iv g,v.ownBlock=some g->¬Cv C w.heap.size iv g:=fun iv g X h=>by
  rcases h with h|⟨h,_⟩
  .exact WC g X h
  .have:=PI g X;omega
 have Ss:qs.length=n:=by rw[<-Q1.1,QW]
 obtain⟨a,c,rfl,VL⟩:=ie Ov;obtain⟨b1,a1,n1,c1,b2,a2,n2,c2,rfl⟩:=PZ.shape;obtain⟨asl,cs0,rfl,TD,Vx⟩:=hs.shape;rw[Q4]at TD Vx hs ⊢;unfold maxLen at Vx;replace Q1:=Q1.arg [];replace PZ:=PZ.arg [];replace hs:=hs.arg [];refine zA bv ?_;conv=>whnf
 refine cQ (cU (J9:=fun _ _ v _=>v=iV (rs p)) (fun O J r=>tX (rlo r F) (PZ.rel r F)) ?_);rintro O wa v1 wb r L Q3 rfl;replace PZ:=PZ.cS (N:=(wa.heap.size,wb.heap.size)::[]) r F L fun x U=>aB _ U;replace Q1:=Q1.cS (N:=(wa.heap.size,wb.heap.size)::[]) r F L fun x U=>aB _ U;replace hs:=hs.cS (N:=(wa.heap.size,wb.heap.size)::[]) r hC F L fun x U=>aB _ U;have QJ:wb.ownsRow 0 T.eJ 4 (.slice a n c) n A.flatten:=ownsRow.cR (ij Ov (QH []) r) fun b hb=>L.block b (by have:=PI b hb;have:=r.dA;omega);have X:w.grownBy wb (Value.slice a n c).ownBlock:=se Q3;clear r L Q3 Ov;generalize (wa.heap.size,wb.heap.size)::[]=iv at*
 conv=>whnf
 apply bS<;>intro h0
 .have h0:p=0:=by
   have:rs p=0:=eq_of_beq h0;exact Rat.num_eq_zero.1 (cM.1 this)
  conv=>whnf
  intro J' w5 r5;refine⟨rfl,eY X r5.cZ,A,ij QJ (QH iv) r5,QW,?_⟩;have:=(Q1.rel r5 F).cP (S':=Nw S w w5) fun g X=>Cv.nw X r5;rw[h0,JM];exact this
 clear h0;conv=>whnf
 refine⟨Nat×List (List Value)×Iv×World,fun z=>⟨[(0,sV a n c),(4,pP 0 0),(11,sV asl n cs0),(12,iZ n),(13,iZ z.1)],
   [(0,.box T.eJ [.v (.bool b1),.v (.slice a1 n1 c1),.v (.bool b2),.v (.slice a2 n2 c2)])],1,z.2.2.1,z.2.2.2⟩,fun z=>n-z.1,
  fun z=>z.1<=n/\w.grownBy z.2.2.2 (Value.slice a n c).ownBlock/\z.2.2.2.ownsRow 0 T.eJ 4 (.slice a n c) n z.2.1.flatten/\z.2.1.length=n/\Fr z.2.2.2 (Cv S w.heap.size z.2.2.1) z.2.1 (ig z.1 (sw p ps) qs)/\
   dH z.2.2.2 (Cv S w.heap.size z.2.2.1) (.agg #[.bool b1,.slice a1 n1 c1,.bool b2,.slice a2 n2 c2]) p/\il z.2.2.2 (Cv C w.heap.size z.2.2.1) (Cv S w.heap.size z.2.2.1) (.slice asl n cs0) ps,?_,?_⟩
 .intro O J r
  refine⟨(0,A,iv,J),⟨bv,eY X r.cZ,ij QJ (QH iv) r,QW,by rw[qX];exact Q1.rel r F,PZ.rel r F,hs.rel r hC F⟩,
   sbgn [] r⟩
 clear QJ Q1 PZ QW hs X;rintro⟨i,A,iv,w1⟩ ⟨D,X,Ov,QW,Q1,PZ,hs⟩;dsimp only at D X Ov QW Q1 PZ hs ⊢;conv=>whnf
 apply bS<;>intro h
 .have h:=dL h;obtain⟨Z,PT⟩:=gO A i;obtain⟨q,Xm⟩:=gO qs i;obtain⟨f,Ul⟩:=gO ps i;have hF:=Q1.2 i Z q PT (xp Xm);have Uv:sw p ps i q=q+p*f:=by simp[sw,List.getD,Ul]
  obtain⟨d1,e1,m1,k1,d2,e2,m2,k2,rfl,hF⟩:=hF;have hrlq:=hq q (aC Xm);have hrlf:=hps f (aC Ul);obtain⟨ad,fcs,PU,VT,PM⟩:=hs.load Ul;obtain⟨f1,g1,o1,u1,f2,g2,o2,u2,rfl,VT⟩:=VT;conv=>whnf
  refine⟨ad,PU,be,?_⟩;conv=>whnf
  refine⟨rC f1 g1 o1 u1 f2 g2 o2 u2,rfl,fun O J r j x U=>?_,?_⟩
  .have Qy:=hs.rel r hC F;obtain⟨k2',k3⟩:=PM j x U;have:=rls r hC k2';rw[aF,cV (w:=w1) (Y:=J) (by rw[dO,dO];exact this)];exact k3
  conv=>whnf
  refine cQ (cU (J9:=fun _ _ v _=>v=iV (rs f)) (fun O J r=>tX (rlo r F) (VT.rel r F)) ?_);rintro O wa v1 wb r L Q3 rfl;replace PZ:=PZ.cS (N:=(wa.heap.size,wb.heap.size)::iv) r F L fun x U=>aB _ U;replace Q1:=Q1.cS (N:=(wa.heap.size,wb.heap.size)::iv) r F L fun x U=>aB _ U;replace hs:=hs.cS (N:=(wa.heap.size,wb.heap.size)::iv) r hC F L fun x U=>aB _ U;replace VT:=VT.cS (N:=(wa.heap.size,wb.heap.size)::iv) r F L fun x U=>aB _ U;replace hF:=hF.cS (N:=(wa.heap.size,wb.heap.size)::iv) r F L fun x U=>aB _ U;replace Ov:wb.ownsRow 0 T.eJ 4 (.slice a n c) n A.flatten:=ownsRow.cR (ij Ov (QH iv) r) fun b hb=>L.block b (by have:=PI b hb;have:=r.dA;omega);replace X:w.grownBy wb _:=eY X Q3;clear r L Q3 PM;generalize (wa.heap.size,wb.heap.size)::iv=Oy at*
  conv=>whnf
  apply bS<;>intro hz
  .conv=>whnf
   refine dP (idO 12) ?_;conv=>whnf
   obtain⟨g,rfl,Pg⟩:=D5 Ov Q1 PT;refine⟨⟨g,0,none⟩,rfl,be,?_⟩;conv=>whnf
   refine⟨rC d1 e1 m1 k1 d2 e2 m2 k2,rfl,fun O J r j x U=>?_,?_⟩
   .have:=D5 (ij Ov (QH Oy) r) (Q1.rel r F) PT;obtain⟨g',I,G⟩:=this;injection I with I;rw[<-I]at G;exact G j x U
   conv=>whnf
   have Qe:=fh p f;refine cU (J9:=fun _ J v Y=>dH Y (Nf J Y) v (p*f)) (fun O J r=>s8 (rlo r F) (PZ.rel r F) (VT.rel r F) be be) ?_;rintro O wa v1 wb r L Q3 hP;have hPN:=hP.iR (S:=S) r.dA (iv:=(wa.heap.size,wb.heap.size)::Oy) aH;replace PZ:=PZ.cS (N:=(wa.heap.size,wb.heap.size)::Oy) r F L fun x U=>aB _ U;replace Q1:=Q1.cS (N:=(wa.heap.size,wb.heap.size)::Oy) r F L fun x U=>aB _ U;replace hs:=hs.cS (N:=(wa.heap.size,wb.heap.size)::Oy) r hC F L fun x U=>aB _ U;replace hF:=hF.cS (N:=(wa.heap.size,wb.heap.size)::Oy) r F L fun x U=>aB _ U;replace Ov:wb.ownsRow 0 T.eJ 4 (.slice (some ⟨g,0,none⟩) n c) n A.flatten:=ownsRow.cR (ij Ov (QH Oy) r) fun b hb=>L.block b (by have:=PI b hb;have:=r.dA;omega);replace X:w.grownBy wb _:=eY X Q3;clear r L Q3 hP VT Pg;generalize (wa.heap.size,wb.heap.size)::Oy=PH at*
   obtain⟨b5,a5,n5,c5,b6,a6,n6,c6,rfl⟩:=hPN.shape;conv=>whnf
   refine cU (J9:=fun _ J v Y=>dH Y (Nf J Y) v (q+p*f)) (fun O J r=>HH (rlo r F) (hF.rel r F) (hPN.rel r F) be be) ?_;rintro O wc v2 wd r L Q3 hQ;have Yb:=hQ.iR (S:=S) r.dA (iv:=(wc.heap.size,wd.heap.size)::PH) aH;replace PZ:=PZ.cS (N:=(wc.heap.size,wd.heap.size)::PH) r F L fun x U=>aB _ U;replace Q1:=Q1.cS (N:=(wc.heap.size,wd.heap.size)::PH) r F L fun x U=>aB _ U;replace hs:=hs.cS (N:=(wc.heap.size,wd.heap.size)::PH) r hC F L fun x U=>aB _ U;replace Ov:wd.ownsRow 0 T.eJ 4 (.slice (some ⟨g,0,none⟩) n c) n A.flatten:=ownsRow.cR (ij Ov (QH PH) r) fun b hb=>L.block b (by have:=PI b hb;have:=r.dA;omega);replace X:w.grownBy wd _:=eY X Q3;clear r L Q3 hQ hPN hF;generalize (wc.heap.size,wd.heap.size)::PH=PV at*
   obtain⟨b7,a7,n7,c7,b8,a8,n8,c8,rfl⟩:=Yb.shape;rw[<-Uv]at Yb;conv=>whnf
   refine⟨⟨g,0,none⟩,rfl,be,?_⟩;conv=>whnf
   intro O J r;have TL:=ij Ov (QH PV) r;have hF5:=(Yb.rel r F).four;obtain⟨g',Sg,Oz,Qm,PF,PR⟩:=lZ (nv:=rC b7 a7 n7 c7 b8 a8 n8 c8) TL rfl h rfl bi;injection Sg with Sg;injection Sg with Sg;subst Sg;have UL:=jy (Z:=rC b7 a7 n7 c7 b8 a8 n8 c8) Q1.ma (show i<A.length by omega);rw[UL]at Qm;have Pz:∀x,Cv S w.heap.size PV x->(setCells J ⟨g,i*4,none⟩ (rC b7 a7 n7 c7 b8 a8 n8 c8)).heap[x]? =J.heap[x]? :=fun x U=>
    PF.block x (rlo r F x U) fun e=>Wg PV g rfl (by injection e with e;rw[<-e];exact U)
   have QR:(⟨g,0,none⟩:Addr).add ((i:Int).toNat*4)=⟨g,i*4,none⟩:=by rw[aF,dX,aW]
   have Wi:=((Q1.rel r F).cR Pz).set (j:=i) (hF5.cR Pz);rw[nJ (f:=sw p ps) Xm]at Wi;have Wj:=(PZ.rel r F).cR Pz;have TX:∀x,Cv C w.heap.size PV x->(setCells J ⟨g,i*4,none⟩ (rC b7 a7 n7 c7 b8 a8 n8 c8)).heap[x]? =J.heap[x]? :=fun x U=>
    PF.block x (rlo r hC x U) fun e=>Wh PV g rfl (by injection e with e;rw[<-e];exact U)
   have hs6:=(hs.rel r hC F).cR fun x U=>U.elim (TX x) (Pz x);clear TX;replace X:w.grownBy (setCells J ⟨g,i*4,none⟩ (rC b7 a7 n7 c7 b8 a8 n8 c8)) (some g):=gY (eY X r.cZ) PF;have Qg:=fun id b hb W=>Rel.not r (fun _ h=>h) (QH PV g rfl) id b hb W;clear r Q1 PZ Yb Ov TL hF5 Pz UL PF hs;refine⟨by rw[QR],fun k K=>by rw[QR];exact Oz k K,fun id b hb W=>by rw[QR];exact Qg id b hb W,fun Y Pf=>?_⟩;have Pf:Y=setCells J ⟨g,i*4,none⟩ (rC b7 a7 n7 c7 b8 a8 n8 c8):=by rw[Pf];exact congrArg (fun x=>setCells J x _) QR
   rw[<-Pf]at Wi Wj Qm X PR hs6;clear Pf Oz Qg;conv=>whnf
   refine inc i ?_;conv=>whnf
   intro I' w3 R
   exact⟨(i+1,A.set i (rC b7 a7 n7 c7 b8 a8 n8 c8),PV,w3),⟨h,eY X R.cZ,ij Qm (QH PV) R,by simpa using QW,Wi.rel R F,Wj.rel R F,hs6.rel R hC F⟩,
    sbgn [] R,by dsimp only;omega⟩
  .have Xn:f=0:=by
    have:rs f=0:=by
     have I:(rs f==0)=true:=by simpa using hz
     exact eq_of_beq I
    exact Rat.num_eq_zero.1 (cM.1 this)
   have Sa:sw p ps i q=q:=by rw[Uv,Xn,bF,bV]
   conv=>whnf
   refine inc i ?_;conv=>whnf
   intro I' w3 R
   exact⟨(i+1,A,Oy,w3),⟨h,eY X R.cZ,ij Ov (QH Oy) R,QW,by rw[<-DR Xm Sa];exact Q1.rel R F,PZ.rel R F,hs.rel R hC F⟩,
    sbgn [] R,by dsimp only;omega⟩
 .have h:i=n:=by
   have:¬i<n:=by simpa using h
   omega
  subst h;conv=>whnf
  intro J' w5 r5;refine⟨rfl,eY X r5.cZ,A,ij Ov (QH iv) r5,QW,?_⟩;have:=(Q1.rel r5 F).cP (S':=Nw S w w5) fun g X=>Cv.nw X r5
  rwa [<-Ss,tZ]at this
end Go.Ex
namespace Go.Ex
variable{M:List (List Rat)}{h i n:Nat}
def dF(M:List (List Rat))(i c:Nat):Rat:=(M.getD i []).getD c 0
def jW(M:List (List Rat))(c:Nat):Nat->Nat->Nat
 |0,k=>k
 |f+1,k=>if dF M k c=0 then jW M c f (k+1)else k
def fC{α:Type}(d:α)(l:List α)(i j:Nat):List α:=(l.set i (l.getD j d)).set j (l.getD i d)
def ou(p:Rat)(ps:List Rat)(j:Nat)(q:Rat):Rat:=q+p*ps.getD j 0
def eE(M:List (List Rat))(at_ c i:Nat):List (List Rat):=M.mapIdx fun j r=>if j<i/\j≠at_ then r.mapIdx (ou (-(r.getD c 0)) (M.getD at_ []))else r
def scaled(M:List (List Rat))(at_ c:Nat):List (List Rat):=M.set at_ ((M.getD at_ []).map (· *(1 / dF M at_ c)))
def dy(s:List (List Rat)×List Nat)(c:Nat):List (List Rat)×List Nat:=
 if s.2.length<s.1.length then
  let k:=jW s.1 c (s.1.length-s.2.length) s.2.length
  if k=s.1.length then s else
   let M1:=scaled (fC [] s.1 s.2.length k) s.2.length c
   (eE M1 s.2.length c M1.length,s.2++[c])
 else s
def cW(M:List (List Rat))(cols:Nat):List (List Rat)×List Nat:=(List.range cols).foldl dy (M,[])
theorem jl{α:Type}(d:α)(l:List α)(i j:Nat):(fC d l i j).length=l.length:=by simp[fC]
theorem iY(M:List (List Rat))(a c i:Nat):(eE M a c i).length=M.length:=by simp[eE]
theorem tz(M:List (List Rat))(a c:Nat):(scaled M a c).length=M.length:=by simp[scaled]
theorem pn(s:List (List Rat)×List Nat)(c:Nat):(dy s c).1.length=s.1.length:=by
 unfold dy;split
 .dsimp only
  split
  .rfl
  .dsimp only
   rw[iY,tz,jl]
 .rfl
theorem Bh(M:List (List Rat))(c:Nat):∀f k,k<=jW M c f k/\jW M c f k<=k+f
 |0,k=>⟨aP _,aP _⟩
 |f+1,k=>by
  unfold jW;split
  .have:=Bh M c f (k+1);omega
  .omega
theorem Bi(M:List (List Rat))(c:Nat):∀f k,jW M c f k<k+f->dF M (jW M c f k) c≠0
 |0,k,h=>by simp[jW]at h
 |f+1,k,h=>by
  unfold jW at h ⊢;split
  .rename_i h0;rw[aM h0]at h;exact Bi M c f (k+1) be
  .rename_i h0;exact h0
theorem Jj{c f k:Nat}(h:dF M k c=0):jW M c (f+1) k=jW M c f (k+1):=by rw[jW,aM h]
theorem Jk{c f k:Nat}(h:dF M k c≠0):jW M c (f+1) k=k:=by rw[jW,aJ h]
theorem GK(M:List (List Rat))(a c:Nat):eE M a c 0=M:=by
 apply bT;intro j;simp[eE]
theorem ui(M:List (List Rat))(a c i:Nat):(eE M a c i)[a]? =M[a]? :=by
 simp only[eE,List.getElem?_mapIdx]
 cases M[a]? <;>simp
theorem KA(M:List (List Rat))(a c i j:Nat)(h:i<=j):(eE M a c i)[j]? =M[j]? :=by
 simp only[eE,List.getElem?_mapIdx]
 cases M[j]? with
 |none=>rfl
 |some r=>simp;omega
theorem GL{a c:Nat}{r:List Rat}(h:M[i]? =some r)(Ox:i≠a):(eE M a c i).set i (r.mapIdx (ou (-(r.getD c 0)) (M.getD a [])))=eE M a c (i+1):=by
 apply bT;intro j;have D:=(aE.1 h).1;by_cases Py:i=j
 .subst Py;rw[aT (by rw[iY];exact D)];simp[eE,List.getElem?_mapIdx,h,Ox]
 .rw[aY Py];simp only[eE,List.getElem?_mapIdx]
  have:(j<i)↔(j<i+1):=by omega
  simp[this]
theorem GM(M:List (List Rat))(a c:Nat):eE M a c a=eE M a c (a+1):=by
 apply bT;intro j;simp only[eE,List.getElem?_mapIdx]
 have:(j<a/\j≠a)↔(j<a+1/\j≠a):=by omega
 simp[this]
def Ht(M:List (List Rat))(h:Nat):Prop:=∀r∈M,∀q∈r,rl q+1<=h
theorem Ht.mono{h':Nat}(H:Ht M h)(k:h<=h'):Ht M h':=fun r hr q hq=>aX (H r hr q hq) k
theorem Ht.at{r:List Rat}(H:Ht M h)(D:M[i]? =some r):∀q∈r,rl q+1<=h:=H r (aC D)
theorem Ht.swap{j:Nat}(H:Ht M h)(D:i<M.length)(hj:j<M.length):Ht (fC [] M i j) h:=by
 intro r hr;have:r∈M:=by
  unfold fC at hr;rcases bE hr with I|I
  .rcases bE I with G|G
   .exact G
   .rw[G,List.getD,aD hj];exact bA hj
  .rw[I,List.getD,aD D];exact bA D
 exact H r this
theorem GN:rl 1=1:=by decide
theorem aAL{q:Rat}(h:q≠0):rl (1 / q)<=rl q+1:=by
 have:=pw 1 h;rw[GN]at this;omega
theorem pt{r:List Rat}(H:∀q∈r,rl q+1<=h)(G:2<=h)(c:Nat):rl (r.getD c 0)+1<=h:=by
 rw[List.getD]
 cases hc:r[c]? with
 |none=>simp;exact aX bi G
 |some q=>simp;exact H q (aC hc)
theorem E9{j:Nat}(D:i<M.length)(hj:j<M.length):(fC [] M i j)[i]? =M[j]? :=by
 unfold fC;by_cases h:j=i
 .subst h;rw[aT (by simpa using D),List.getD,aD D];rfl
 .rw[aY h,aT D,List.getD,aD hj];rfl
theorem Bk{j c:Nat}(D:i<M.length)(hj:j<M.length):dF (fC [] M i j) i c=dF M j c:=by
 simp only[dF,List.getD,E9 D hj]
def fz(n:Nat)(M:List (List Rat)):Prop:=∀r∈M,r.length=n
theorem fz.set{r:List Rat}(h:fz n M)(hr:r.length=n):fz n (M.set i r):=fun x U=>by
 rcases bE U with I|I
 .exact h x I
 .rw[I];exact hr
theorem fz.getD(h:fz n M)(D:i<M.length):(M.getD i []).length=n:=by
 rw[List.getD,aD D];exact h _ (bA D)
theorem fz.step{n c:Nat}{s:List (List Rat)×List Nat}(h:fz n s.1):fz n (dy s c).1:=by
 unfold dy;split
 .rename_i PY;dsimp only
  split
  .exact h
  .rename_i K;have hle:=Bh s.1 c (s.1.length-s.2.length) s.2.length;have YR:jW s.1 c (s.1.length-s.2.length) s.2.length<s.1.length:=by omega
   dsimp only
   generalize jW s.1 c (s.1.length-s.2.length) s.2.length=k at*
   have I:fz n (fC [] s.1 s.2.length k):=(h.set (h.getD YR)).set (h.getD PY);have G:fz n (scaled (fC [] s.1 s.2.length k) s.2.length c):=I.set (by rw[aL];exact I.getD (by rw[jl];exact PY));intro r hr;obtain⟨j,hj⟩:=aU hr;simp only[eE,List.getElem?_mapIdx,Option.map_eq_some_iff]at hj;obtain⟨r0,hr0,hj⟩:=hj;have h3:=G r0 (aC hr0);split at hj
   .subst hj;rw[List.length_mapIdx];exact h3
   .subst hj;exact h3
 .exact h
end Go.Ex
namespace Go.Ex
open Go Go.Sx Go.Proofs
variable{qs':List Rat}{i:Nat}
structure nI(w:World)(S:Nat->Prop)(vm:Value)(rv:List Value)(n:Nat)(M:List (List Rat)):Prop where
 out:w.ownsRow 0 T.row 1 vm rv.length rv
 len:rv.length=M.length
 row:∀(i:Nat) v qs,rv[i]? =some v->M[i]? =some qs->∃A,w.ownsRow 0 T.eJ 4 v n A.flatten/\A.length=n/\Fr w S A qs
 uR:∀(i j:Nat) a b g,rv[i]? =some a->rv[j]? =some b->a.ownBlock=some g->b.ownBlock=some g->i=j
 No:∀v∈rv,∀g,v.ownBlock=some g->vm.ownBlock≠some g
def Mb(vm:Value)(rv:List Value)(g:Nat):Prop:=vm.ownBlock=some g\/∃v∈rv,v.ownBlock=some g
structure Kept(w Y:World)(C8:Nat->Prop):Prop where
 os:Y.os=w.os
 tape:Y.tape=w.tape
 output:Y.output=w.output
 size:w.heap.size<=Y.heap.size
 block:∀k,k<w.heap.size->¬C8 k->Y.heap[k]? =w.heap[k]?
section
variable{S S' C8:Nat->Prop}{H:Hp}{nx n:Nat}{iv N:Iv}{B:Nat}{w J Y w3:World}{O:Nat->Sx.eG}{vm:Value}{rv:List Value}{M:List (List Rat)}
theorem nI.cR(h:nI w S vm rv n M)(K:∀g,S g\/Mb vm rv g->Y.heap[g]? =w.heap[g]?):nI Y S vm rv n M:=by
 refine⟨ownsRow.cR h.out fun g X=>K g (.inr (.inl X)),h.len,fun i v qs I G=>?_,h.uR,h.No⟩;obtain⟨A,h3,h4,h5⟩:=h.row i v qs I G;exact⟨A,ownsRow.cR h3 fun g X=>K g (.inr (.inr ⟨v,aC I,X⟩)),h4,h5.cR fun g X=>K g (.inl X)⟩
theorem nI.cP(h:nI w S vm rv n M)(K:∀g,S g->S' g):nI w S' vm rv n M:=
 ⟨h.out,h.len,fun i v qs I G=>(h.row i v qs I G).imp fun _ h=>⟨h.1,h.2.1,h.2.2.cP K⟩,h.uR,h.No⟩
theorem nI.low(h:nI w S vm rv n M):∀g,Mb vm rv g->g<w.heap.size:=fun g X=>by
 rcases X with X|⟨v,hv,X⟩
 .exact(ownsRow.low h.out g X).2
 .obtain⟨i,D⟩:=aU hv;have hl:=(aE.1 D).1;obtain⟨A,I,_⟩:=h.row i v _ D (aD (by rw[<-h.len];exact hl));exact(ownsRow.low I g X).2
theorem nI.setRow(h:nI w S vm rv n M)(F:Old S w)(SH:∀g,S g->¬Mb vm rv g){v:Value}(hv:rv[i]? =some v)(X:w.grownBy Y v.ownBlock)(hSS:∀g,S g->S' g)
  (Ov:∃A,Y.ownsRow 0 T.eJ 4 v n A.flatten/\A.length=n/\Fr Y S' A qs'):nI Y S' vm rv n (M.set i qs'):=by
 have PI:=h.low;have RO:∀g,g<w.heap.size->v.ownBlock≠some g->Y.heap[g]? =w.heap[g]? :=fun g I G=>X.block g I (Ne.symm G);refine⟨ownsRow.cR h.out fun g Yf=>RO g (PI g (.inl Yf)) (fun e=>h.No v (aC hv) g e Yf),by rw[h.len];simp,fun j u qs I G=>?_,h.uR,h.No⟩;by_cases Py:i=j
 .subst Py;rw[hv]at I;injection I with I;subst I;have hl:=(aE.1 hv).1;rw[aT (by rw[<-h.len];exact hl)]at G;injection G with G;subst G;exact Ov
 .rw[aY Py]at G;obtain⟨A,h3,h4,h5⟩:=h.row j u qs I G;refine⟨A,ownsRow.cR h3 fun g hgu=>RO g (ownsRow.low h3 g hgu).2 (fun e=>Py (h.uR i j v u g hv I e hgu)),h4,(h5.cR fun g hgs=>?_).cP hSS⟩;exact RO g (F g hgs) fun e=>SH g hgs (.inr ⟨v,aC hv,e⟩)
theorem nI.swap(h:nI w S vm rv n M)(SH:∀g,S g->¬Mb vm rv g){j:Nat}{a b:Value}(D:rv[i]? =some a)(hj:rv[j]? =some b)(QH:Y.ownsRow 0 T.row 1 vm rv.length ((rv.set i b).set j a))(RO:∀g,S g\/Mb vm rv g->vm.ownBlock≠some g->Y.heap[g]? =w.heap[g]?):
  nI Y S vm ((rv.set i b).set j a) n (fC [] M i j):=by
 have UY:=(aE.1 D).1;have TB:=(aE.1 hj).1;have RP:M.getD i []=M[i]'(by rw[<-h.len];exact UY):=by rw[List.getD,aD (by rw[<-h.len];exact UY)];rfl
 have hmj:M.getD j []=M[j]'(by rw[<-h.len];exact TB):=by rw[List.getD,aD (by rw[<-h.len];exact TB)];rfl
 have key:∀k v qs,((rv.set i b).set j a)[k]? =some v->(fC [] M i j)[k]? =some qs->∃k',rv[k']? =some v/\M[k']? =some qs/\k'=(if k=j then i else if k=i then j else k):=by
  intro k v qs I G;unfold fC at G;rw[RP,hmj]at G;by_cases Ui:j=k
  .subst Ui;rw[aT (by simp;exact TB)]at I;rw[aT (by simp;rw[<-h.len];exact TB)]at G;injection I with I;injection G with G;subst I G;exact⟨i,D,aD _,bv⟩
  .rw[aY Ui]at I G;by_cases XG:i=k
   .subst XG;rw[aT UY]at I;rw[aT (by rw[<-h.len];exact UY)]at G;injection I with I;injection G with G;subst I G;exact⟨j,hj,aD _,by rw[aJ (Ne.symm Ui),aM rfl]⟩
   .rw[aY XG]at I G;exact⟨k,I,G,by rw[aJ (Ne.symm Ui),aJ (Ne.symm XG)]⟩
 have hlen:((rv.set i b).set j a).length=rv.length:=by simp
 have Yo:(fC [] M i j).length=rv.length:=by rw[jl,h.len]
 have keyv:∀k v,((rv.set i b).set j a)[k]? =some v->∃k',rv[k']? =some v/\k'=(if k=j then i else if k=i then j else k):=fun k v I=>by
  have hl:=(aE.1 I).1;obtain⟨k',G,_,h3⟩:=key k v _ I (aD (by rw[Yo,<-hlen];exact hl));exact⟨k',G,h3⟩
 refine⟨by rw[hlen];exact QH,by rw[hlen,Yo],fun k v qs I G=>?_,fun k1 k2 v1 v2 g I G e1 e2=>?_,fun v hv g hgv=>?_⟩
 .obtain⟨k',h3,h4,_⟩:=key k v qs I G;obtain⟨A,h5,h6,h7⟩:=h.row k' v qs h3 h4;have hvm:=h.No v (aC h3);exact⟨A,ownsRow.cR h5 fun g hgu=>RO g (.inr (.inr ⟨v,aC h3,hgu⟩)) (hvm g hgu),h6,h7.cR fun g hgs=>RO g (.inl hgs) fun e=>SH g hgs (.inl e)⟩
 .obtain⟨k3,h3,h4⟩:=keyv k1 v1 I;obtain⟨k5,h5,h6⟩:=keyv k2 v2 G;have:=h.uR k3 k5 v1 v2 g h3 h5 e1 e2;split at h4<;>split at h6<;>(try split at h4)<;>(try split at h6)<;>omega
 .obtain⟨k,K⟩:=aU hv;obtain⟨k',h3,_⟩:=keyv k v K;exact h.No v (aC h3) g hgv
theorem Mb.swap{j:Nat}{a b:Value}(D:rv[i]? =some a)(hj:rv[j]? =some b){g:Nat}:Mb vm ((rv.set i b).set j a) g↔Mb vm rv g:=by
 have UY:=(aE.1 D).1;have TB:=(aE.1 hj).1;unfold Mb;refine or_congr Iff.rfl ⟨fun ⟨v,hv,h⟩=>⟨v,?_,h⟩,fun⟨v,hv,h⟩=>⟨v,?_,h⟩⟩
 .rcases bE hv with I|I
  .rcases bE I with G|G
   .exact G
   .rw[G];exact aC hj
  .rw[I];exact aC D
 .obtain⟨k,K⟩:=aU hv;by_cases Ui:k=j
  .subst Ui;rw[hj]at K;injection K with K;subst K;by_cases hik:i=k
   .subst hik;rw[D]at hj;injection hj with hj;subst hj;exact aC (i:=i) (by rw[aT (by simp;exact UY)])
   .exact aC (i:=i) (by rw[aY (Ne.symm hik),aT UY])
  .by_cases XG:k=i
   .subst XG;rw[D]at K;injection K with K;subst K;exact aC (i:=j) (by rw[aT (by simp;exact TB)])
   .exact aC (i:=k) (by rw[aY (Ne.symm Ui),aY (Ne.symm XG)];exact K)
end
end Go.Ex
namespace Go.Sx
open Go Go.Ex Go.Proofs
section
variable{O:Nat->Sx.eG}
theorem Rel.pM{H:Hp}{nx:Nat}{iv:Iv}{B:Nat}{w J Y:World}{row:Option Nat}(r:Rel H nx iv B w O J)(Ox:∀g,row=some g->∀id b,dU H id=some b->(O id).nil=false->(O id).g≠g)(h:J.grownBy Y row):Rel H nx ((J.heap.size,Y.heap.size)::iv) B Y O Y:=
 r.H6 h.size (fun id b hb W=>h.block _ (r.low id b hb W).2 fun e=>Ox _ e.symm id b hb W rfl) fun lo D hm=>by
  rcases List.mem_cons.1 hm with e|hm
  .injection e with e1 e2;subst e1 e2;exact⟨lr,fun id b hb W=>by have:=(r.low id b hb W).2;omega⟩
  .exact⟨by have:=r.tI lo D hm;have:=r.size;have:=h.size;omega,fun id b hb W=>r.mA lo D hm id b hb W⟩
end
variable{O:Nat->Sx.eG}
theorem Sub.nil{B nx:Nat}{l:Env}{H:Hp}{iv:Iv}{w J:World}{t:B4}(u e sz:Nat)(h9:gK l u=some (sV none 0 0))(TD:kK nx l)(r:Rel H nx iv B w O J)
  (h:∀In,Rel ((nx,.vec e sz [])::H) (nx+1) iv B w In J->Sx.Sub B ((u,.o (.w nx 0))::l) (nx+1) In J t):Sx.Sub B l nx O J t:=by
 have r1:=r.push (.vec e sz []) ⟨0,0,true⟩ (Y:=J) rfl rfl rfl lr (fun _ _=>rfl) (fun h=>by cases h) (.inl ⟨rfl,rfl⟩) trivial;obtain⟨IR,I,G⟩:=h _ r1;refine⟨IR,I,fun x v hv=>?_⟩;obtain⟨h3,v0,h4,h5⟩:=G x v hv;refine⟨h3,?_⟩;rw[fQ]at h4;split at h4
 .rename_i e;subst e;injection h4 with h4;subst h4;refine⟨_,h9,?_⟩;rw[<-h5];simp[SV.den,At.den,ff]
 .refine⟨v0,h4,?_⟩;rw[<-h5];exact SV.ky (fun id QF=>iT id QF) (TD.get _ _ h4)
end Go.Sx
namespace Go.Ex
open Go Go.Sx Go.Proofs
section
variable{M:List (List Rat)}{qs:List Rat}{rv:List Value}{k n:Nat}{S:Nat->Prop}{am:Option Addr}{v:Value}{w:World}
structure aC2(w:World)(S:Nat->Prop)(rv:List Value)(n:Nat)(M:List (List Rat))(gm k c g ck:Nat)(q:Rat)(d1:Bool)(e1:Option Addr)(m1 k1:Nat)(d2:Bool)(e2:Option Addr)(m2 k2:Nat):Prop where
 rv:rv[k]? =some (.slice (some ⟨g,0,none⟩) n ck)
 at_:dF M k c=q
 DN:dH w S (.agg #[.bool d1,.slice e1 m1 k1,.bool d2,.slice e2 m2 k2]) q
 outer:w.cell? (Addr.add ⟨gm,0,none⟩ (k*1))=some (.slice (some ⟨g,0,none⟩) n ck)
 cells:∀j u,[Value.bool d1,.slice e1 m1 k1,.bool d2,.slice e2 m2 k2][j]? =some u->w.cell? ((Addr.add ⟨g,0,none⟩ (c*4)).add j)=some u
theorem nI.outer{Fn cm:Nat}(h:nI w S (.slice am Fn cm) rv n M)(K:rv[k]? =some v):
  ∃gm,am=some ⟨gm,0,none⟩/\w.cell? (Addr.add ⟨gm,0,none⟩ (k*1))=some v:=by
 rcases h.out.2 with⟨I,h0⟩|⟨gm,cap,cur,e,_⟩
 .have:=(aE.1 K).1;omega
 .injection e with e1 e2 e3;refine⟨gm,e1,?_⟩;have:=h.out.cells (g:=gm) (by rw[e1];rfl) k v K;rw[aZ];exact this
theorem nI.elem{Fn cm:Nat}(h:nI w S (.slice am Fn cm) rv n M){c:Nat}(K:k<rv.length)(hc:c<n):
  ∃gm g ck q d1 e1 m1 k1 d2 e2 m2 k2,am=some ⟨gm,0,none⟩/\aC2 w S rv n M gm k c g ck q d1 e1 m1 k1 d2 e2 m2 k2:=by
 obtain⟨v,hv⟩:=gO rv k;obtain⟨qs,hqs⟩:∃qs,M[k]? =some qs:=⟨_,aD (by rw[<-h.len];exact K)⟩
 obtain⟨A,Ov,QW,Q1⟩:=h.row k v qs hv hqs;obtain⟨a,ck,rfl,_⟩:=ie Ov;obtain⟨Z,PT⟩:=gO A c;obtain⟨q,hq⟩:∃q,qs[c]? =some q:=⟨_,aD (by rw[<-Q1.1];omega)⟩
 obtain⟨g,rfl,Pg⟩:=D5 Ov Q1 PT;obtain⟨d1,e1,m1,k1,d2,e2,m2,k2,rfl,hF⟩:=Q1.2 c Z q PT hq;obtain⟨gm,rfl,ho⟩:=h.outer hv;exact⟨gm,g,ck,q,d1,e1,m1,k1,d2,e2,m2,k2,rfl,hv,by simp[dF,List.getD,hqs,hq],hF,ho,Pg⟩
theorem Gd{α:Type}{xs:List α}{j:Nat}{v:α}(h:j<xs.length):xs.take (j*1)++[v]++xs.drop (j*1+1)=xs.set j v:=by
 rw[aZ,List.set_eq_take_append_cons_drop,aM h];simp
theorem nI.aDu{vm:Value}(h:nI w S vm rv n M)(hv:rv[k]? =some v)(hq:M[k]? =some qs)(W:n<=maxLen):
  il w (fun g=>v.ownBlock=some g) S v qs/\qs.length=n:=by
 obtain⟨A,I,G,h3⟩:=h.row k v qs hv hq;have hl:qs.length=n:=by rw[<-h3.1,G]
 refine⟨⟨A,?_,h3⟩,hl⟩;rw[hl];rcases I.2 with⟨rfl,rfl⟩|⟨g,cap,cur,rfl,hb,hc,WN,Qt,PR,Rq⟩
 .refine⟨W,I.1,h3.one,none,0,rfl,lr,fun j u hu=>?_⟩;have:=I.1;rw[Nat.zero_mul]at this;rw[List.eq_nil_of_length_eq_zero this]at hu
  cases hu
 .refine⟨W,I.1,h3.one,_,cap,rfl,WN,fun j u hu=>⟨_,rfl,rfl,?_⟩⟩;exact I.cells (g:=g) rfl j u hu
end
variable{x:Int×Int}{xs:List (Int×Int)}{M:List (List (Int×Int))}{FS:List (List Rat)}{ps pv:List Nat}{qs:List Rat}{Z:List Value}{id:Nat}{C S:Nat->Prop}{a:Option Addr}{q:Rat}{v:Value}{w w0:World}
def nY(w:World)(S:Nat->Prop)(v:Value)(n:Nat)(qs:List Rat):Prop:=∃A,w.ownsRow 0 T.eJ 4 v n A.flatten/\A.length=n/\Fr w S A qs
section
variable{S S' C:Nat->Prop}{H:Hp}{nx n:Nat}{iv N:Iv}{B:Nat}{w J Y:World}{O:Nat->Sx.eG}{v:Value}{qs:List Rat}
theorem nY.cR(h:nY w S v n qs)(K:∀g,S g\/v.ownBlock=some g->Y.heap[g]? =w.heap[g]?):nY Y S v n qs:=by
 obtain⟨A,I,G,h3⟩:=h;exact⟨A,ownsRow.cR I fun g X=>K g (.inr X),G,h3.cR fun g X=>K g (.inl X)⟩
theorem nY.cP(h:nY w S v n qs)(K:∀g,S g->S' g):nY w S' v n qs:=by
 obtain⟨A,I,G,h3⟩:=h;exact⟨A,I,G,h3.cP K⟩
theorem nY.len(h:nY w S v n qs):qs.length=n:=by
 obtain⟨A,I,G,h3⟩:=h;rw[<-h3.1,G]
theorem nY.form(h:nY w S v n qs):∃a c,v= .slice a n c/\n<=c:=by
 obtain⟨A,I,G,h3⟩:=h;exact ie I
theorem nY.le(h:nY w S v n qs):n<=maxLen:=by
 obtain⟨A,I,G,h3⟩:=h;rcases I.2 with⟨_,h0⟩|⟨_,_,_,_,_,_,I,G,_⟩
 .omega
 .omega
theorem nY.read(h:nY w S v n qs):il w (fun g=>v.ownBlock=some g) S v qs:=by
 have hl:=h.len;have W:=h.le;obtain⟨A,I,G,h3⟩:=h;refine⟨A,?_,h3⟩;rw[hl];rcases I.2 with⟨rfl,rfl⟩|⟨g,cap,cur,rfl,hb,hc,WN,Qt,PR,Rq⟩
 .refine⟨W,I.1,h3.one,none,0,rfl,lr,fun j u hu=>?_⟩;have:=I.1;rw[Nat.zero_mul]at this;rw[List.eq_nil_of_length_eq_zero this]at hu
  cases hu
 .refine⟨W,I.1,h3.one,_,cap,rfl,WN,fun j u hu=>⟨_,rfl,rfl,?_⟩⟩;exact I.cells (g:=g) rfl j u hu
structure HI(w:World)(S:Nat->Prop)(B:Nat)(iv:Iv)(v:Value)(n:Nat)(qs:List Rat):Prop where
 row:nY w (fun g=>Cv S B iv g/\v.ownBlock≠some g) v n qs
 new:∀g,v.ownBlock=some g->Cv FF B iv g
theorem HI.iR(h:HI Y FF J.heap.size [(J.heap.size,Y.heap.size)] v n qs)(hB:B<=J.heap.size)(hm:(J.heap.size,Y.heap.size)∈iv):HI Y S B iv v n qs:=by
 have key:∀g {C8:Nat->Prop},Cv FF J.heap.size [(J.heap.size,Y.heap.size)] g->Cv C8 B iv g:=fun g C8 X=>by
  rcases X with X|⟨I,lo,D,G,h3,h4⟩
  .exact X.elim
  .simp at G;obtain⟨rfl,rfl⟩:=G;exact .inr ⟨be,_,_,hm,h3,h4⟩
 exact⟨h.row.cP fun g X=>⟨key g X.1,X.2⟩,fun g X=>key g (h.new g X)⟩
theorem HI.read(h:HI w S B iv v n qs):il w (Cv S B iv) (Cv S B iv) v qs:=
 h.row.read.cP (fun g X=>(h.new g X).elim (fun h=>h.elim) .inr) fun _ X=>X.1
def EN(w:World)(S:Nat->Prop)(Z:List Value)(x:Int×Int):Prop:=∃b a n c b2 a2 n2 c2,Z=(rC b a n c b2 a2 n2 c2)/\jP w S (.agg #[.bool b,.slice a n c,.bool b2,.slice a2 n2 c2]) x.1 x.2
theorem EN.cR(h:EN w S Z x)(K:∀g,S g->Y.heap[g]? =w.heap[g]?):EN Y S Z x:=by
 obtain⟨b,a,n,c,b2,a2,n2,c2,I,G⟩:=h;exact⟨b,a,n,c,b2,a2,n2,c2,I,G.cR K⟩
theorem EN.cP(h:EN w S Z x)(K:∀g,S g->S' g):EN w S' Z x:=by
 obtain⟨b,a,n,c,b2,a2,n2,c2,I,G⟩:=h;exact⟨b,a,n,c,b2,a2,n2,c2,I,G.cP K⟩
def dT{α:Type}(P:World->(Nat->Prop)->List Value->α->Prop)(w:World)(S:Nat->Prop)(v:Value)(xs:List α):Prop:=
 ∃A:List (List Value),j1 w S 4 v A.flatten xs.length/\A.length=xs.length/\(∀Z∈A,Z.length=4)/\∀(j:Nat) Z x,A[j]? =some Z->xs[j]? =some x->P w S Z x
abbrev fy:=dT EN
theorem fy.cR(h:fy w S v xs)(K:∀g,S g->Y.heap[g]? =w.heap[g]?):fy Y S v xs:=by
 obtain⟨A,I,G,h3,h4⟩:=h;exact⟨A,I.cR K,G,h3,fun j Z x k1 k2=>(h4 j Z x k1 k2).cR K⟩
theorem fy.cP(h:fy w S v xs)(K:∀g,S g->S' g):fy w S' v xs:=by
 obtain⟨A,I,G,h3,h4⟩:=h;exact⟨A,I.cP K,G,h3,fun j Z x k1 k2=>(h4 j Z x k1 k2).cP K⟩
theorem dT.shape{α:Type}{P:World->(Nat->Prop)->List Value->α->Prop}{xs:List α}(h:dT P w S v xs):∃a c,v= .slice a xs.length c/\xs.length<=c/\xs.length<=maxLen:=by
 obtain⟨A,⟨h0,_,_,a,c,I,G,_⟩,_⟩:=h;exact⟨a,c,I,G,h0⟩
theorem dT.load{α:Type}{P:World->(Nat->Prop)->List Value->α->Prop}{xs:List α}{m c j:Nat}{x:α}(h:dT P w S (.slice a m c) xs)(hq:xs[j]? =some x):
  ∃ad Z,a=some ad/\P w S Z x/\Z.length=4/\∀k u,Z[k]? =some u->S ad.block/\w.cell? ((ad.add (j*4)).add k)=some u:=by
 obtain⟨A,⟨h0,I,G,a',c',e,h3,h4⟩,hl,VN,hf⟩:=h;injection e with e1 e2 e3;subst e1;obtain⟨Z,PT⟩:∃Z,A[j]? =some Z:=⟨_,aD (by rw[hl];exact(aE.1 hq).1)⟩
 have hF:=hf j Z x PT hq;have Ty:=VN Z (aC PT);obtain⟨ad,k1,k2,k3⟩:=h4 (j*4+0) _ (flat_get VN PT 0 _ (aD (show 0<Z.length by omega)));refine⟨ad,Z,k1,hF,Ty,fun k u hu=>?_⟩;obtain⟨ad2,m1,m2,m3⟩:=h4 (j*4+k) u (flat_get VN PT k u hu);rw[k1]at m1;injection m1 with m1;subst m1;refine⟨m2,?_⟩;rw[<-m3];have:(ad.add (j*4)).add k=ad.add (j*4+k):=by
  unfold Addr.add;split<;>split<;>simp_all<;>omega
 rw[this]
def dI{α:Type}(P:World->(Nat->Prop)->Value->α->Prop)(w:World)(S:Nat->Prop)(v:Value)(M:List α):Prop:=
 ∃rv,j1 w S 1 v rv M.length/\rv.length=M.length/\∀(i:Nat) u x,rv[i]? =some u->M[i]? =some x->P w S u x
theorem dI.shape{α:Type}{P:World->(Nat->Prop)->Value->α->Prop}{xs:List α}(h:dI P w S v xs):∃a c,v= .slice a xs.length c/\xs.length<=c/\xs.length<=maxLen:=by
 obtain⟨rv,⟨h0,_,_,a,c,I,G,_⟩,_⟩:=h;exact⟨a,c,I,G,h0⟩
theorem dI.load{α:Type}{P:World->(Nat->Prop)->Value->α->Prop}{xs:List α}{m c j:Nat}{x:α}(h:dI P w S (.slice a m c) xs)(hq:xs[j]? =some x):
  ∃ad u,a=some ad/\P w S u x/\S ad.block/\w.cell? (ad.add (j*1))=some u:=by
 obtain⟨rv,⟨h0,I,G,a',c',e,h3,h4⟩,hl,hf⟩:=h;injection e with e1 e2 e3;subst e1;obtain⟨u,hu⟩:∃u,rv[j]? =some u:=⟨_,aD (by rw[hl];exact(aE.1 hq).1)⟩
 obtain⟨ad,k1,k2,k3⟩:=h4 j u hu;exact⟨ad,u,k1,hf j u x hu hq,k2,by rw[aZ];exact k3⟩
abbrev fI:=dI fy
theorem fI.cR(h:fI w S v M)(K:∀g,S g->Y.heap[g]? =w.heap[g]?):fI Y S v M:=by
 obtain⟨rv,I,G,h3⟩:=h;exact⟨rv,I.cR K,G,fun i u x k1 k2=>fy.cR (h3 i u x k1 k2) K⟩
theorem fI.cP(h:fI w S v M)(K:∀g,S g->S' g):fI w S' v M:=by
 obtain⟨rv,I,G,h3⟩:=h;exact⟨rv,I.cP K,G,fun i u x k1 k2=>fy.cP (h3 i u x k1 k2) K⟩
abbrev xh:=dI (fun w S v qs=>il w S S v qs)
theorem xh.cR{M:List (List Rat)}(h:xh w S v M)(K:∀g,S g->Y.heap[g]? =w.heap[g]?):xh Y S v M:=by
 obtain⟨rv,I,G,h3⟩:=h;exact⟨rv,I.cR K,G,fun i u x k1 k2=>(h3 i u x k1 k2).cR fun g X=>K g (X.elim id id)⟩
theorem xh.cP{M:List (List Rat)}(h:xh w S v M)(K:∀g,S g->S' g):xh w S' v M:=by
 obtain⟨rv,I,G,h3⟩:=h;exact⟨rv,I.cP K,G,fun i u x k1 k2=>(h3 i u x k1 k2).cP K K⟩
end
section
variable{S S':Nat->Prop}{H:Hp}{nx:Nat}{iv N:Iv}{B:Nat}{w J Y:World}{O:Nat->Sx.eG}{v:Value}{xs:List (Int×Int)}
theorem fy.rel(h:fy w (Cv S B iv) v xs)(r:Rel H nx iv B w O J)(F:∀g,S g->g<B):fy J (Cv S B iv) v xs:=fy.cR h fun _ X=>rls r F X
theorem fy.cS(h:fy w (Cv S B iv) v xs)(r:Rel H nx iv B w O J)(F:∀g,S g->g<B)(L:Ext J Y)(hm:∀p,p∈iv->p∈N):fy Y (Cv S B N) v xs:=
 fy.cP (fy.cR (fy.rel h r F) fun g X=>L.block g (rlo r F g X)) fun _ X=>X.mono hm
theorem fy.arg(h:fy w S v xs)(iv:Iv):fy w (Cv S w.heap.size iv) v xs:=fy.cP h fun _ h=>.inl h
end
section
variable{S S':Nat->Prop}{H:Hp}{nx:Nat}{iv N:Iv}{B:Nat}{w J Y:World}{O:Nat->Sx.eG}{v:Value}{M:List (List (Int×Int))}
theorem fI.rel(h:fI w (Cv S B iv) v M)(r:Rel H nx iv B w O J)(F:∀g,S g->g<B):fI J (Cv S B iv) v M:=fI.cR h fun _ X=>rls r F X
theorem fI.cS(h:fI w (Cv S B iv) v M)(r:Rel H nx iv B w O J)(F:∀g,S g->g<B)(L:Ext J Y)(hm:∀p,p∈iv->p∈N):fI Y (Cv S B N) v M:=
 fI.cP (fI.cR (fI.rel h r F) fun g X=>L.block g (rlo r F g X)) fun _ X=>X.mono hm
theorem fI.arg(h:fI w S v M)(iv:Iv):fI w (Cv S w.heap.size iv) v M:=fI.cP h fun _ h=>.inl h
end
section
variable{S S':Nat->Prop}{H:Hp}{nx:Nat}{iv N:Iv}{B:Nat}{w J Y:World}{O:Nat->Sx.eG}{v:Value}{M:List (List Rat)}
end
def fo{α:Type}:List (List α)->Nat
 |[]=>0
 |r::_=>r.length
def vS{α:Type}(M:List (List α)):Nat:=if ∀r∈M,r.length=fo M then(if 60<M.length\/60<fo M then 8 else 0)else 11
theorem dI.yD(h:fy w S v xs):∃a c,v= .slice a xs.length c:=by
 obtain⟨a,c,h,_⟩:=dT.shape h;exact⟨a,c,h⟩
theorem zE(F:Old S w)(h:fI w S v M):eH PG GT.uL #[v] w (eR w fun v' _=>v'=iV (fo M)):=by
 have W:=h;obtain⟨a,c,rfl,hc,hm⟩:=dI.shape h;refine yz bv ?_
 cases M with
 |nil=>
  conv=>whnf
  intro J8 we re;exact⟨_,rfl,re.cZ,rfl⟩
 |cons r t=>
  obtain⟨ad,u,rfl,hu,I,G⟩:=dI.load h (j:=0) (x:=r) rfl;obtain⟨a2,c2,rfl⟩:=dI.yD hu;conv=>whnf
  refine⟨ad,rfl,⟨be,bv⟩,?_⟩;conv=>whnf
  refine⟨.slice a2 r.length c2,fun O J r'=>by simpa using kg F ju.refl r' I (by simpa using G),?_⟩;conv=>whnf
  intro J8 we re;exact⟨_,rfl,re.cZ,rfl⟩
theorem ED(F:Old S w)(h:fI w S v M):eH PG GT.oE #[v] w (eR w fun v' _=>v'=iV (vS M)):=by
 replace h:=fI.arg h [];obtain⟨a,c,rfl,hc,hm⟩:=dI.shape h;unfold maxLen at hm;refine s3 bv ?_;conv=>whnf
 refine⟨Nat×Iv×World,fun z=>⟨[(0,sV a M.length c),(5,sV a M.length c),(6,iZ M.length),(7,iZ z.1)],[],0,z.2.1,z.2.2⟩,fun z=>M.length-z.1,
  fun z=>z.1<=M.length/\Bq w z.2.2/\fI z.2.2 (Cv S w.heap.size z.2.1) (.slice a M.length c) M/\∀(j:Nat) r,j<z.1->M[j]? =some r->r.length=fo M,?_,?_⟩
 .intro O J r;exact⟨(0,[],J),⟨bv,r.cZ,fI.rel h r F,bv⟩,sbgn [] r⟩
 clear h;rintro⟨i,iv,w1⟩ ⟨D,V,hM,Ov⟩;dsimp only at D V hM Ov ⊢;conv=>whnf
 apply bS<;>intro h
 .have h:=dL h;obtain⟨r,hr⟩:=gO M i;obtain⟨ad,u,rfl,hu,I,G⟩:=dI.load hM hr;obtain⟨a2,c2,rfl⟩:=dI.yD hu;conv=>whnf
  refine⟨ad,rfl,be,?_⟩;conv=>whnf
  refine⟨.slice a2 r.length c2,fun O J r'=>?_,?_⟩
  .have h3:=rls r' F I;rw[aF,cV (w:=w1) (Y:=J) (by rw[dO];exact h3)];exact G
  conv=>whnf
  refine cQ (cU (J9:=fun _ _ v _=>v=iV (fo M)) (fun O J r=>zE (rlo r F) (fI.rel hM r F)) ?_);rintro O wa v1 wb r' L hb rfl;replace V:=V.tr hb;replace hM:=fI.cS (N:=(wa.heap.size,wb.heap.size)::iv) hM r' F L fun x U=>aB _ U;clear r' L hb;generalize (wa.heap.size,wb.heap.size)::iv=Oy at*
  conv=>whnf
  apply bS<;>intro Ox
  .have Ox:r.length≠fo M:=fun e=>by rw[e]at Ox;simp at Ox
   conv=>whnf
   intro J8 we re;refine⟨_,rfl,V.tr re.cZ,?_⟩;unfold vS;rw[aJ (fun RA=>Ox (RA r (aC hr)))];rfl
  .have heq:r.length=fo M:=by
    have h4:((r.length:Int)==(fo M:Int))=true:=by simpa using Ox
    have:=eq_of_beq h4;omega
   conv=>whnf
   refine inc i ?_;conv=>whnf
   intro I' w3 R;refine⟨(i+1,Oy,w3),⟨h,V.tr R.cZ,fI.rel hM R F,fun j r' hj hr'=>?_⟩,sbgn [] R,by dsimp only;omega⟩;by_cases QL:j=i
   .subst QL;rw[hr]at hr';injection hr' with hr';rw[<-hr'];exact heq
   .exact Ov j r' (by dsimp only at hj;omega) hr'
 .have h:i=M.length:=by
   have:¬i<M.length:=by simpa using h
   omega
  have RA:∀r∈M,r.length=fo M:=fun r hr=>by
   obtain⟨j,hj⟩:=aU hr;exact Ov j r (by rw[h];exact(aE.1 hj).1) hj
  have PJ:vS M=if 60<M.length\/60<fo M then 8 else 0:=by unfold vS;rw[aM RA]
  conv=>whnf
  apply bS<;>intro hl
  .have hl:60<M.length:=by
    have:(M.length:Int)>60:=aK hl;omega
   conv=>whnf
   exact rtn V fun J8 we re=>by rw[PJ,aM (.inl hl)];rfl
  .have hl:¬60<M.length:=by
    have:¬(M.length:Int)>60:=aG hl;omega
   conv=>whnf
   refine cQ (cU (J9:=fun _ _ v _=>v=iV (fo M)) (fun O J r=>zE (rlo r F) (fI.rel hM r F)) ?_);rintro O wa v1 wb r' L hb rfl;replace V:=V.tr hb;clear r' L hb;conv=>whnf
   apply bS<;>intro Ps
   .have Ps:60<fo M:=by
     have:(fo M:Int)>60:=aK Ps;omega
    conv=>whnf
    exact rtn V fun J8 we re=>by rw[PJ,aM (.inr Ps)];rfl
   .have Ps:¬60<fo M:=by
     have:¬(fo M:Int)>60:=aG Ps;omega
    conv=>whnf
    exact rtn V fun J8 we re=>by rw[PJ,aJ be];rfl
def f0:List Value:=[.bool false,nls,.bool false,nls]
structure nQ(w:World)(S:Nat->Prop)(n i:Nat)(A:List (List Value))(qs:List Rat):Prop where
 len:A.length=n
 four:∀Z∈A,Z.length=4
 one:∀Z∈A,∀u∈Z,u.oneCell'=true
 at_:∀(j:Nat) Z q,j<i->A[j]? =some Z->qs[j]? =some q->oJ w S Z q
section
variable{S S':Nat->Prop}{H:Hp}{nx n i:Nat}{iv N:Iv}{B:Nat}{w w1 J Y:World}{O:Nat->Sx.eG}{A:List (List Value)}{qs:List Rat}
theorem nQ.cR(h:nQ w S n i A qs)(K:∀g,S g->Y.heap[g]? =w.heap[g]?):nQ Y S n i A qs:=⟨h.len,h.four,h.one,fun j Z q hj I G=>(h.at_ j Z q hj I G).cR K⟩
theorem nQ.cP(h:nQ w S n i A qs)(K:∀g,S g->S' g):nQ w S' n i A qs:=⟨h.len,h.four,h.one,fun j Z q hj I G=>(h.at_ j Z q hj I G).cP K⟩
theorem nQ.rel(h:nQ w (Cv S B iv) n i A qs)(r:Rel H nx iv B w O J)(F:∀g,S g->g<B):nQ J (Cv S B iv) n i A qs:=h.cR fun _ X=>rls r F X
theorem nQ.cS(h:nQ w (Cv S B iv) n i A qs)(r:Rel H nx iv B w O J)(F:∀g,S g->g<B)(L:Ext J Y)(hm:∀p,p∈iv->p∈N):nQ Y (Cv S B N) n i A qs:=
 ((h.rel r F).cR fun g X=>L.block g (rlo r F g X)).cP fun _ X=>X.mono hm
theorem nQ.start(w:World)(S:Nat->Prop)(n:Nat)(qs:List Rat):nQ w S n 0 (List.replicate n f0) qs:=
 ⟨bv,fun Z hc=>by rw[bW hc];rfl,fun Z hc u hu=>by rw[bW hc]at hu;simp[f0]at hu;rcases hu with rfl|rfl|rfl|rfl<;>rfl,fun j Z q hj=>be⟩
theorem nQ.next{b b2:Bool}{a2:Option Addr}{m c m2 c2:Nat}(h:nQ w S n i A qs)(D:i<n)(hq:qs[i]? =some q)(hf:dH w S (.agg #[.bool b,.slice a m c,.bool b2,.slice a2 m2 c2]) q):
  nQ w S n (i+1) (A.set i (rC b a m c b2 a2 m2 c2)) qs:=by
 refine⟨by simp[h.len],fun Z hc=>?_,fun Z hc u hu=>?_,fun j Z p hj I G=>?_⟩
 .rcases bE hc with hc|rfl
  .exact h.four Z hc
  .rfl
 .rcases bE hc with hc|rfl
  .exact h.one Z hc u hu
  .simp at hu;rcases hu with rfl|rfl|rfl|rfl<;>rfl
 .by_cases Py:i=j
  .subst Py;rw[aT (by rw[h.len];exact D)]at I;rw[hq]at G;injection I with I;injection G with G;subst I G;exact hf.four
  .rw[aY Py]at I;exact h.at_ j Z p be I G
theorem nQ.flat(h:nQ w S n i A qs):A.flatten.length=n*4:=by rw[eP h.four,h.len]
theorem nQ.done(h:nQ w1 (Cf w0 iv) n n A qs)(hl:qs.length=n)(W:n<=maxLen)(r:Rel H nx iv w0.heap.size w1 O J)(hH:dU H id=some (.arr T.eJ A.flatten))(PK:(O id).nil=false):
  HI J FF w0.heap.size [(w0.heap.size,J.heap.size)] (.slice (some ⟨(O id).g,0,none⟩) n n) n qs:=by
 have G:=h.rel r (aAa w0);have PI:=r.low id _ hH PK;refine⟨⟨A,⟨h.flat,.inr ⟨(O id).g,n,A.flatten.toArray,rfl,aR _,r.arr id _ _ hH,lr,W,by simpa using h.flat,?_⟩⟩,h.len,?_⟩,fun g X=>?_⟩
 .rw[<-h.flat];exact bN
 .refine⟨by rw[h.len,hl],fun j Z q h3 h4=>?_⟩;refine(G.at_ j Z q (by rw[<-hl];exact(aE.1 h4).1) h3 h4).cP fun g X=>⟨?_,fun e=>?_⟩
  .rcases X with X|⟨k1,lo,D,k2,k3,k4⟩
   .exact X.elim
   .exact .inr ⟨k1,_,_,bK.2 rfl,k1,by have:=r.tI lo D k2;have:=r.size;omega⟩
  .injection e with e;exact Rel.not r (aAa w0) X id _ hH PK e
 .injection X with X;subst X;exact .inr ⟨PI.1,_,_,bK.2 rfl,PI.1,PI.2⟩
end
def tA(x:Int×Int):Rat:=ratio x.1 x.2
def Few(xs:List (Int×Int)):Prop:=∀x∈xs,ln x.1.natAbs<=10000000000/\ln x.2.natAbs<=10000000000
theorem aBO(F:Old S w)(h:fy w S v xs)(hf:Few xs)(W:xs.length<=1000000):
  eH PG GT.xM #[v] w (eR w fun v' Y=>HI Y FF w.heap.size [(w.heap.size,Y.heap.size)] v' xs.length (xs.map tA)):=by
 replace h:=fy.arg h [];obtain⟨a,c,rfl,hc,-⟩:=dT.shape h;refine Ah bv ?_;conv=>whnf
 refine⟨xs.length,xs.length,rfl,rfl,lr,be,be,?_⟩;conv=>whnf
 refine⟨Nat×List (List Value)×Iv×World,fun z=>⟨[(3,.o (.s 0 0 xs.length xs.length)),(9,sV a xs.length c),(10,iZ xs.length),(11,iZ z.1)],[(0,.arr T.eJ z.2.1.flatten)],1,z.2.2.1,z.2.2.2⟩,fun z=>xs.length-z.1,
  fun z=>z.1<=xs.length/\Bq w z.2.2.2/\fy z.2.2.2 (Cv S w.heap.size z.2.2.1) (.slice a xs.length c) xs/\nQ z.2.2.2 (Cf w z.2.2.1) xs.length z.1 z.2.1 (xs.map tA),?_,?_⟩
 .intro O J r;exact⟨(0,List.replicate xs.length f0,[],J),⟨bv,r.cZ,fy.rel h r F,nQ.start _ _ _ _⟩,sbgn [] r⟩
 clear h;rintro⟨i,A,iv,w1⟩ ⟨D,V,hX,hF⟩;dsimp only at D V hX hF ⊢;conv=>whnf
 apply bS<;>intro h
 .have h:=dL h;obtain⟨x,U⟩:=gO xs i;obtain⟨ad,Z,rfl,hR,-,hl⟩:=dT.load hX U;obtain⟨b3,a3,n3,c3,b4,a4,n4,c4,rfl,hR⟩:=hR;obtain⟨f1,f2⟩:=hf x (aC U);conv=>whnf
  refine⟨ad,rfl,be,?_⟩;conv=>whnf
  refine⟨rC b3 a3 n3 c3 b4 a4 n4 c4,rfl,fun O J r j u hu=>?_,?_⟩
  .obtain⟨k1,k2⟩:=hl j u hu;have:=rls r F k1;rw[aF,cV (w:=w1) (Y:=J) (by rw[dO,dO];exact this)];exact k2
  conv=>whnf
  refine cQ (cU (J9:=fun _ J v Y=>dH Y (Nf J Y) v (tA x)) (fun O J r=>kl (rlo r F) (hR.rel r F) be be) ?_);rintro O wa v1 wb r L hb hO;have hON:=hO.iR (S:=FF) r.dA (iv:=(wa.heap.size,wb.heap.size)::iv) aH;replace hF:=hF.cS (N:=(wa.heap.size,wb.heap.size)::iv) r oF L fun x U=>aB _ U;replace hX:=fy.cS (N:=(wa.heap.size,wb.heap.size)::iv) hX r F L fun x U=>aB _ U;replace V:=V.tr hb;clear r L hb hO hl hR;generalize (wa.heap.size,wb.heap.size)::iv=Oy at*
  obtain⟨b1,a1,n1,c1,b2,a2,n2,c2,rfl⟩:=hON.shape;have PL:=hF.next h (q:=tA x) (by rw[aO,U];rfl) hON
  conv=>whnf
  refine⟨be,?_⟩;conv=>whnf
  refine⟨by have:=hF.flat;omega,(A.set i (rC b1 a1 n1 c1 b2 a2 n2 c2)).flatten,?_,?_⟩
  .have:=jy (Z:=rC b1 a1 n1 c1 b2 a2 n2 c2) hF.four (show i<A.length by rw[hF.len];exact h);rw[<-this];simp
  conv=>whnf
  refine inc i ?_;conv=>whnf
  intro I' w3 R;exact⟨(i+1,A.set i (rC b1 a1 n1 c1 b2 a2 n2 c2),Oy,w3),⟨h,V.tr R.cZ,fy.rel hX R F,PL.rel R oF⟩,sbgn [] R,dec h⟩
 .have h:i=xs.length:=by
   have:¬i<xs.length:=by simpa using h
   omega
  subst h;conv=>whnf
  exact rtn V fun J8 we re=>hF.done bv mx re (id:=0) rfl (re.nn 0 _ rfl (by intros;simp) bv)
structure jY(w:World)(S:Nat->Prop)(B:Nat)(iv:Iv)(rv:List Value)(n:Nat)(M:List (List Rat)):Prop where
 len:rv.length=M.length
 row:∀(i:Nat) v qs,rv[i]? =some v->M[i]? =some qs->nY w (fun g=>Cv S B iv g/\¬ ∃u∈rv,u.ownBlock=some g) v n qs
 uR:∀(i j:Nat) a b g,rv[i]? =some a->rv[j]? =some b->a.ownBlock=some g->b.ownBlock=some g->i=j
 new:∀v∈rv,∀g,v.ownBlock=some g->Cv FF B iv g
theorem dV(B:Nat):∀g,(fun _:Nat=>False) g->g<B:=fun _ h=>h.elim
theorem Dh{B:Nat}{iv:Iv}{g:Nat}(h:Cv FF B iv g):Cv S B iv g:=h.elim (fun h=>h.elim) .inr
section
variable{S S':Nat->Prop}{H:Hp}{nx n i:Nat}{iv N:Iv}{B:Nat}{w w1 J Y:World}{O:Nat->Sx.eG}{rv:List Value}{M:List (List Rat)}
theorem jY.cR(h:jY w S B iv rv n M)(K:∀g,Cv S B iv g->Y.heap[g]? =w.heap[g]?):jY Y S B iv rv n M:=
 ⟨h.len,fun i v qs I G=>(h.row i v qs I G).cR fun g X=>K g (X.elim (fun h=>h.1) fun X=>Dh (h.new v (aC I) g X)),h.uR,h.new⟩
theorem jY.rel(h:jY w S B iv rv n M)(r:Rel H nx iv B w O J)(F:∀g,S g->g<B):jY J S B iv rv n M:=h.cR fun _ X=>rls r F X
theorem jY.cS(h:jY w S B iv rv n M)(r:Rel H nx iv B w O J)(F:∀g,S g->g<B)(L:Ext J Y)(hm:∀p,p∈iv->p∈N):jY Y S B N rv n M:=
 have G:=(h.rel r F).cR fun g X=>L.block g (rlo r F g X)
 ⟨G.len,fun i v qs k1 k2=>(G.row i v qs k1 k2).cP fun _ X=>⟨X.1.mono hm,X.2⟩,G.uR,fun v hv g X=>(G.new v hv g X).mono hm⟩
theorem jY.nil(w:World)(S:Nat->Prop)(B:Nat)(iv:Iv)(n:Nat):jY w S B iv [] n []:=⟨rfl,bv,bv,bv⟩
theorem jY.snoc(h:jY w S B iv rv n M)(r:Rel H nx iv B w O J)(F:∀g,S g->g<B)(L:Ext J Y)(hv:nY Y (fun g=>Cv S B ((J.heap.size,Y.heap.size)::iv) g/\v.ownBlock≠some g/\¬ ∃u∈rv,u.ownBlock=some g) v n qs)
  (RB:∀g,v.ownBlock=some g->J.heap.size<=g/\g<Y.heap.size):jY Y S B ((J.heap.size,Y.heap.size)::iv) (rv++[v]) n (M++[qs]):=by
 have hold:∀g,Cv S B iv g->g<J.heap.size:=rlo r F;have G:=h.cS (N:=(J.heap.size,Y.heap.size)::iv) r F L fun x U=>aB _ U;have Yp:∀g,Cv S B iv g->v.ownBlock≠some g:=fun g X e=>by have:=hold g X;have:=(RB g e).1;omega
 refine⟨by simp[h.len],fun i u ps h3 h4=>?_,fun i j a b g h3 h4 h5 h6=>?_,fun u hu g X=>?_⟩
 .rcases aS i rv.length with D|D
  .rw[aI D]at h3;rw[aI (by rw[<-h.len];exact D)]at h4;have h5:=((h.rel r F).cR (Y:=Y) fun g X=>L.block g (hold g X)).row i u ps h3 h4;refine h5.cP fun g X=>⟨X.1.mono fun x U=>aB _ U,fun⟨x,U,e⟩=>?_⟩
   rcases bG.1 U with U|U
   .exact X.2 ⟨x,U,e⟩
   .simp at U;subst U;exact Yp g X.1 e
  .rw[aN D]at h3;rw[aN (by rw[<-h.len];exact D)]at h4;have h0:i-rv.length=0:=by
    have:=(aE.1 h3).1;simp at this;omega
   rw[h0]at h3;rw[<-h.len,h0]at h4;simp at h3 h4;subst h3 h4;refine hv.cP fun g X=>⟨X.1,fun⟨x,U,e⟩=>?_⟩
   rcases bG.1 U with U|U
   .exact X.2.2 ⟨x,U,e⟩
   .simp at U;subst U;exact X.2.1 e
 .have key:∀(i:Nat) a,(rv++[v])[i]? =some a->rv[i]? =some a\/(i=rv.length/\a=v):=fun i a ha=>by
   rcases aS i rv.length with D|D
   .rw[aI D]at ha;exact .inl ha
   .rw[aN D]at ha;have:=(aE.1 ha).1;simp at this;rw[this]at ha;simp at ha;exact .inr ⟨be,ha.symm⟩
  have hvn:∀(i:Nat) a,rv[i]? =some a->a.ownBlock=some g->v.ownBlock≠some g:=fun i a ha e=>Yp g (Dh (h.new a (aC ha) g e));rcases key i a h3 with k1|⟨k1,rfl⟩<;>rcases key j b h4 with k2|⟨k2,rfl⟩
  .exact h.uR i j a b g k1 k2 h5 h6
  .exact absurd h6 (hvn i a k1 h5)
  .exact absurd h5 (hvn j b k2 h6)
  .omega
 .rcases bG.1 hu with hu|hu
  .exact(h.new u hu g X).mono fun x U=>aB _ U
  .simp at hu;subst hu;have:=RB g X;exact .inr ⟨by have:=r.dA;omega,_,_,aH,this.1,this.2⟩
theorem jY.Mz(h:jY w S B iv rv n M)(r:Rel H nx iv B w O J)(F:∀g,S g->g<B)(hH:dU H id=some (.arr T.row rv))(PK:(O id).nil=false)(hR:rv.length<=maxLen)(_h1:∀u∈rv,u.oneCell'=true):
  nI J (fun g=>Cv S B iv g/\¬Mb (.slice (some ⟨(O id).g,0,none⟩) rv.length rv.length) rv g) (.slice (some ⟨(O id).g,0,none⟩) rv.length rv.length) rv n M:=by
 have G:=h.rel r F;have Qg:∀g,Cv S B iv g->(O id).g≠g:=fun g X=>Rel.not r F X id _ hH PK;refine⟨⟨bv,.inr ⟨(O id).g,rv.length,rv.toArray,rfl,aR _,r.arr id _ _ hH,lr,hR,bv,bv⟩⟩,h.len,fun i v qs h3 h4=>?_,h.uR,fun v hv g X e=>?_⟩
 .refine(G.row i v qs h3 h4).cP fun g X=>⟨X.1,fun hm=>?_⟩
  rcases hm with hm|hm
  .injection hm with hm;exact Qg g X.1 hm
  .exact X.2 hm
 .injection e with e;exact Qg g (Dh (h.new v hv g X)) e
structure aEG(w:World)(S:Nat->Prop)(B:Nat)(iv:Iv)(vm:Value)(n:Nat)(M:List (List Rat)):Prop where
 ex:∃rv,nI w (fun g=>Cv S B iv g/\¬Mb vm rv g) vm rv n M/\∀g,Mb vm rv g->Cv FF B iv g
end
def dN(w:World)(S:Nat->Prop)(v:Value)(ps:List Nat):Prop:=j1 w S 1 v (ps.map fun c:Nat=>iV (c:Int)) ps.length
theorem dN.cR{Y:World}(h:dN w S v ps)(K:∀g,S g->Y.heap[g]? =w.heap[g]?):dN Y S v ps:=j1.cR h K
theorem dN.cP{S':Nat->Prop}(h:dN w S v ps)(K:∀g,S g->S' g):dN w S' v ps:=j1.cP h K
section
variable{S S':Nat->Prop}{H:Hp}{nx:Nat}{iv N:Iv}{B:Nat}{w J Y:World}{O:Nat->Sx.eG}{v:Value}{ps:List Nat}
theorem dN.rel(h:dN w (Cv S B iv) v ps)(r:Rel H nx iv B w O J)(F:∀g,S g->g<B):dN J (Cv S B iv) v ps:=dN.cR h fun _ X=>rls r F X
theorem dN.cS(h:dN w (Cv S B iv) v ps)(r:Rel H nx iv B w O J)(F:∀g,S g->g<B)(L:Ext J Y)(hm:∀p,p∈iv->p∈N):dN Y (Cv S B N) v ps:=
 dN.cP (dN.cR (dN.rel h r F) fun g X=>L.block g (rlo r F g X)) fun _ X=>X.mono hm
theorem dN.iR(h:dN Y (Nf J Y) v ps)(hB:B<=J.heap.size)(hm:(J.heap.size,Y.heap.size)∈iv):dN Y (Cv S B iv) v ps:=dN.cP h fun _ X=>X.iR hB hm
end
section
variable{S S':Nat->Prop}{H:Hp}{nx n:Nat}{iv N:Iv}{B:Nat}{w J Y:World}{O:Nat->Sx.eG}{v:Value}{qs:List Rat}
end
def gj(FS:List (List Rat))(pv:List Nat)(cols c i:Nat):List Rat:=(List.range i).foldl (fun x i=>x.set (pv.getD i 0) (-(dF FS i c))) ((List.replicate cols 0).set c 1)
def fF(FS:List (List Rat))(pv:List Nat)(cols c:Nat):List (List Rat):=((List.range c).filter fun c=>decide (c∉pv)).map fun c=>gj FS pv cols c pv.length
theorem iq(FS:List (List Rat))(pv:List Nat)(cols c i:Nat):gj FS pv cols c (i+1)=(gj FS pv cols c i).set (pv.getD i 0) (-(dF FS i c)):=by
 rw[gj,bU,List.foldl_append];rfl
theorem lM(FS:List (List Rat))(pv:List Nat)(cols c i:Nat):(gj FS pv cols c i).length=cols:=by
 induction i with
 |zero=>simp[gj]
 |succ i ih=>rw[iq,bj,ih]
theorem Il{cols c:Nat}(h:c∈pv):fF FS pv cols (c+1)=fF FS pv cols c:=by
 rw[fF,bU,List.filter_append];simp[h,fF]
theorem Gq{cols c:Nat}(h:c∉pv):fF FS pv cols (c+1)=fF FS pv cols c++[gj FS pv cols c pv.length]:=by
 rw[fF,bU,List.filter_append];simp[h,fF]
theorem dI.rowOf(h:il w S S v qs):∃a c,v= .slice a qs.length c:=by
 obtain⟨a,c,h,_⟩:=h.shape;exact⟨a,c,h⟩
theorem il.from{n c k:Nat}(h:il w C S (.slice a n c) qs)(K:k<=n):
  il w C S (.slice (if (c:Int)=(k:Int)then a else a.map (·.add (k*4))) (n-k) (c-k)) (qs.drop k):=by
 obtain⟨A,⟨h0,I,G,a',c',e,h3,h4⟩,hf⟩:=h;injection e with e1 e2 e3;subst e1 e2 e3;have hd:(A.drop k).flatten=A.flatten.drop (k*4):=by
  have:=eP (A:=A.take k) (fun Z hc=>hf.ma Z (bq hc));conv=>rhs;rw[<-List.take_append_drop k A,List.flatten_append]
  have hl:(A.take k).length=k:=by rw[ah,hf.1];omega
  rw[hl]at this;rw[<-this,List.drop_left]
 refine⟨A.drop k,⟨?_,?_,?_,_,c-k,by rw[List.length_drop],by simp;omega,fun j u hu=>?_⟩,?_,fun j Z q hc hq=>?_⟩
 .simp;omega
 .rw[hd,List.length_drop,I,List.length_drop,Nat.sub_mul]
 .intro u hu;rw[hd]at hu;exact G u (List.mem_of_mem_drop hu)
 .rw[hd,cF]at hu;obtain⟨ad,k1,k2,k3⟩:=h4 (k*4+j) u hu;have PY:=(aE.1 hu).1;subst k1;rw[aJ be];refine⟨ad.add (k*4),rfl,by rw[dO];exact k2,?_⟩;rw[<-k3];have:(ad.add (k*4)).add j=ad.add (k*4+j):=by
   unfold Addr.add;split<;>split<;>simp_all<;>omega
  rw[this]
 .rw[List.length_drop,List.length_drop,hf.1]
 .rw[cF]at hc hq;exact hf.2 _ Z q hc hq
theorem Ia(hC:Old C w)(F:Old S w)(h:il w C S v qs)(W:0<qs.length)(hl:qs.length<=1000000):
  eH PG GT.fe #[v] w (eR w fun v' Y=>nY Y S v' qs.length qs/\(∀g,v'.ownBlock=some g->w.heap.size<=g/\g<Y.heap.size)):=by
 obtain⟨a,c,rfl,hc,hm⟩:=h.shape;obtain⟨A,⟨h0,I,G,a',c',e,h3,h4⟩,hf⟩:=h;injection e with e1 e2 e3;subst e1 e3;have QW:A.length=qs.length:=hf.1;obtain⟨ad,rfl⟩:∃ad,a=some ad:=by
  obtain⟨ad,k1,_⟩:=h4 0 _ (aD (show 0<A.flatten.length by omega));exact⟨ad,k1⟩
 refine iQ bv ?_;conv=>whnf
 refine⟨false,fun O w1 o1 o2=>by simp[eqGuard,SV.den,At.den,oq (P:=PG) w1 T.row T.eJ (some ad) qs.length c 0 0 aCO],?_⟩;conv=>whnf
 refine .inl ?_;conv=>whnf
 refine⟨A.flatten,I,G,fun O w1 r h0=>⟨ad,rfl,fun j u hu=>?_⟩,?_⟩
 .obtain⟨ad2,k1,k2,k3⟩:=h4 j u hu;injection k1 with k1;subst k1;exact kg hC ju.refl r k2 k3
 conv=>whnf
 refine⟨rfl,be,mx,?_⟩;conv=>whnf
 intro I' w3 R;refine⟨_,rfl,R.cZ,?_⟩;have hf3:Fr w3 S A qs:=hf.cR fun g X=>R.cZ.block g (F g X);rcases R.vec 1 T.eJ 4 A.flatten rfl with⟨PK,hemp⟩|⟨PK,spare,hb,Yd,Qt⟩
 .rw[hemp]at I;simp at I;omega
 have PI:=R.low 1 _ rfl PK;have SF:((At.w 1 (0+qs.length)).den I')= .slice (some ⟨(I' 1).g,0,none⟩) qs.length (I' 1).cap:=by simp[At.den,PK]
 show nY w3 S ((At.w 1 (0+qs.length)).den I') qs.length qs/\∀g,((At.w 1 (0+qs.length)).den I').ownBlock=some g->_;rw[SF];have hls:(A.flatten++spare).length=A.flatten.length+spare.length:=aQ;refine⟨⟨A,⟨I,.inr ⟨(I' 1).g,(I' 1).cap,(A.flatten++spare).toArray,rfl,aR _,hb,be,Qt,by simpa using Yd,?_⟩⟩,QW,hf3⟩,fun g X=>?_⟩
 .rw[<-I];simp
 .injection X with X;subst X;exact PI
abbrev iy(M:List (List (Int×Int))):List (List Rat):=M.map fun r=>r.map tA
def iU(FS:List (List Rat))(pv:List Nat)(cols i:Nat):List Rat:=(List.range i).foldl (fun x i=>x.set (pv.getD i 0) (dF FS i cols)) (List.replicate cols 0)
theorem ir(FS:List (List Rat))(pv:List Nat)(cols i:Nat):iU FS pv cols (i+1)=(iU FS pv cols i).set (pv.getD i 0) (dF FS i cols):=by
 rw[iU,bU,List.foldl_append];rfl
structure aEF(w:World)(B:Nat)(iv:Iv)(rv:List Value)(v:Value)(n:Nat)(qs:List Rat):Prop where
 row:nY w (fun g=>(Cv FF B iv g/\¬ ∃u∈rv,u.ownBlock=some g)/\v.ownBlock≠some g) v n qs
 rO:∀g,v.ownBlock=some g->Cv FF B iv g
section
variable{H:Hp}{nx n:Nat}{iv N:Iv}{B:Nat}{w J Y:World}{O:Nat->Sx.eG}{v:Value}{qs:List Rat}{rv:List Value}
theorem dH.lim{u:Value}(h:dH Y (Nf J Y) u q)(r:Rel H nx iv B w O J)(PB:∀u∈rv,∀g,u.ownBlock=some g->Cv FF B iv g):
  dH Y (fun g=>Cv FF B ((J.heap.size,Y.heap.size)::iv) g/\¬ ∃u∈rv,u.ownBlock=some g) u q:=
 h.cP fun g X=>by
  rcases X with X|X
  .exact X.elim
  .refine⟨.inr ⟨by have:=r.dA;omega,_,_,aH,X.1,X.2⟩,fun⟨u,hu,e⟩=>?_⟩;have:=rlo r (dV B) g (PB u hu g e);omega
end
def js(w:World)(S:Nat->Prop)(Z:List Value)(q:Rat):Prop:=∃b a n c b2 a2 n2 c2,Z=(rC b a n c b2 a2 n2 c2)/\cY w S (.agg #[.bool b,.slice a n c,.bool b2,.slice a2 n2 c2]) q
abbrev cX:=dT js
abbrev dD:=dI cX
section
variable{S S':Nat->Prop}{H:Hp}{nx:Nat}{iv N:Iv}{B:Nat}{w J Y:World}{O:Nat->Sx.eG}{v:Value}{qs:List Rat}{Z:List Value}{q:Rat}
theorem js.cR(h:js w S Z q)(K:∀g,S g->Y.heap[g]? =w.heap[g]?):js Y S Z q:=by
 obtain⟨b,a,n,c,b2,a2,n2,c2,I,G⟩:=h;exact⟨b,a,n,c,b2,a2,n2,c2,I,G.cR K⟩
theorem js.cP(h:js w S Z q)(K:∀g,S g->S' g):js w S' Z q:=by
 obtain⟨b,a,n,c,b2,a2,n2,c2,I,G⟩:=h;exact⟨b,a,n,c,b2,a2,n2,c2,I,G.cP K⟩
theorem cX.cR(h:cX w S v qs)(K:∀g,S g->Y.heap[g]? =w.heap[g]?):cX Y S v qs:=by
 obtain⟨A,I,G,h3,h4⟩:=h;exact⟨A,I.cR K,G,h3,fun j Z x k1 k2=>(h4 j Z x k1 k2).cR K⟩
theorem cX.cP(h:cX w S v qs)(K:∀g,S g->S' g):cX w S' v qs:=by
 obtain⟨A,I,G,h3,h4⟩:=h;exact⟨A,I.cP K,G,h3,fun j Z x k1 k2=>(h4 j Z x k1 k2).cP K⟩
theorem dD.cR{M:List (List Rat)}(h:dD w S v M)(K:∀g,S g->Y.heap[g]? =w.heap[g]?):dD Y S v M:=by
 obtain⟨rv,I,G,h3⟩:=h;exact⟨rv,I.cR K,G,fun i u x k1 k2=>cX.cR (h3 i u x k1 k2) K⟩
theorem dD.cP{M:List (List Rat)}(h:dD w S v M)(K:∀g,S g->S' g):dD w S' v M:=by
 obtain⟨rv,I,G,h3⟩:=h;exact⟨rv,I.cP K,G,fun i u x k1 k2=>cX.cP (h3 i u x k1 k2) K⟩
end
section
variable{S S':Nat->Prop}{H:Hp}{nx:Nat}{iv N:Iv}{B:Nat}{w J Y:World}{O:Nat->Sx.eG}{v:Value}{qs:List Rat}
theorem cX.rel(h:cX w (Cv S B iv) v qs)(r:Rel H nx iv B w O J)(F:∀g,S g->g<B):cX J (Cv S B iv) v qs:=cX.cR h fun _ X=>rls r F X
theorem cX.cS(h:cX w (Cv S B iv) v qs)(r:Rel H nx iv B w O J)(F:∀g,S g->g<B)(L:Ext J Y)(hm:∀p,p∈iv->p∈N):cX Y (Cv S B N) v qs:=
 cX.cP (cX.cR (cX.rel h r F) fun g X=>L.block g (rlo r F g X)) fun _ X=>X.mono hm
theorem cX.iR(h:cX Y (Nf J Y) v qs)(hB:B<=J.heap.size)(hm:(J.heap.size,Y.heap.size)∈iv):cX Y (Cv S B iv) v qs:=cX.cP h fun _ X=>X.iR hB hm
theorem cX.out{w1:World}(h:cX w1 (Cv S w0.heap.size iv) v qs)(r:Rel H nx iv w0.heap.size w1 O J)(F:Old S w0):cX J (Nw S w0 J) v qs:=
 cX.cP (cX.rel h r F) fun _ X=>Cv.nw X r
end
section
variable{S S':Nat->Prop}{H:Hp}{nx:Nat}{iv N:Iv}{B:Nat}{w J Y:World}{O:Nat->Sx.eG}{v:Value}{M:List (List Rat)}
theorem dD.rel(h:dD w (Cv S B iv) v M)(r:Rel H nx iv B w O J)(F:∀g,S g->g<B):dD J (Cv S B iv) v M:=dD.cR h fun _ X=>rls r F X
theorem dD.cS(h:dD w (Cv S B iv) v M)(r:Rel H nx iv B w O J)(F:∀g,S g->g<B)(L:Ext J Y)(hm:∀p,p∈iv->p∈N):dD Y (Cv S B N) v M:=
 dD.cP (dD.cR (dD.rel h r F) fun g X=>L.block g (rlo r F g X)) fun _ X=>X.mono hm
theorem dD.iR(h:dD Y (Nf J Y) v M)(hB:B<=J.heap.size)(hm:(J.heap.size,Y.heap.size)∈iv):dD Y (Cv S B iv) v M:=dD.cP h fun _ X=>X.iR hB hm
theorem dD.old(h:dD Y (Nw (Cv S B iv) J Y) v M)(hB:B<=J.heap.size):dD Y (Cv S B ((J.heap.size,Y.heap.size)::iv)) v M:=dD.cP h fun _ X=>Nw.cv X hB
theorem dD.out{w1:World}(h:dD w1 (Cv S w0.heap.size iv) v M)(r:Rel H nx iv w0.heap.size w1 O J)(F:Old S w0):dD J (Nw S w0 J) v M:=
 dD.cP (dD.rel h r F) fun _ X=>Cv.nw X r
end
theorem lN(FS:List (List Rat))(pv:List Nat)(cols i:Nat):(iU FS pv cols i).length=cols:=by
 induction i with
 |zero=>simp[iU]
 |succ i ih=>rw[ir,bj,ih]
theorem Ik(FS:List (List Rat))(pv:List Nat)(cols c:Nat):(fF FS pv cols c).length<=c:=by
 unfold fF;rw[aL];exact aX (List.length_filter_le _ _) bv
end Go.Ex
