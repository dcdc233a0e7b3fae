/- Texts X22 to X30: lemmas, each with its conditions. -/
import Derived.Test.YtbffinhkognefaaGreatDoorP4
namespace Go.Ex
open Go Go.Sx Go.Proofs
variable{b b2:Bool}{x y:Int}{S S':Nat->Prop}{f g q:Rat}{dv nv u v:Value}{w:World}
def ky(w:World)(S:Nat->Prop)(v:Value)(a b:Int):Prop:=∃b1 l1 b2 l2,v= .agg #[.bool b1,l1,.bool b2,l2]/\jg w S (.agg #[.bool b1,l1]) a/\jg w S (.agg #[.bool b2,l2]) b
theorem ky.cX{F:World}{a b:Int}(h:ky w S v a b)(R:∀g,S g->F.heap[g]? =w.heap[g]?):ky F S v a b:=by
 obtain⟨b1,l1,b2,l2,Y,I,h3⟩:=h;exact⟨b1,l1,b2,l2,Y,I.cX R,h3.cX R⟩
theorem ky.cV{a b:Int}(h:ky w S v a b)(R:∀g,S g->S' g):ky w S' v a b:=by
 obtain⟨b1,l1,b2,l2,Y,I,h3⟩:=h;exact⟨b1,l1,b2,l2,Y,I.cV R,h3.cV R⟩
theorem ky.shape(h:ky w S v x y):∃b a n c b2 a2 n2 c2,v= .agg #[.bool b,.slice a n c,.bool b2,.slice a2 n2 c2]:=by
 obtain⟨b1,l1,b2,l2,Y,I,h3⟩:=h;obtain⟨_,a,n,c,h4⟩:=I.shape;obtain⟨_,a2,n2,c2,h5⟩:=h3.shape;simp at h4 h5;obtain⟨rfl,rfl⟩:=h4;obtain⟨rfl,rfl⟩:=h5;exact⟨_,a,n,c,_,a2,n2,c2,Y⟩
theorem ky.num(h:ky w S (.agg #[.bool b,nv,.bool b2,dv]) x y):jg w S (.agg #[.bool b,nv]) x:=by
 obtain⟨b1,l1,b2,l2,Y,I,h3⟩:=h;simp at Y;obtain⟨rfl,rfl,rfl,rfl⟩:=Y;exact I
theorem ky.den(h:ky w S (.agg #[.bool b,nv,.bool b2,dv]) x y):jg w S (.agg #[.bool b2,dv]) y:=by
 obtain⟨b1,l1,b2,l2,Y,I,h3⟩:=h;simp at Y;obtain⟨rfl,rfl,rfl,rfl⟩:=Y;exact h3
section
variable{S S':Nat->Prop}{H:Hp}{nx:Nat}{iv K:Iv}{B:Nat}{w J F:World}{O:Nat->Sx.eH}{v:Value}{x y:Int}
theorem ky.rel(h:ky w (Cv S B iv) v x y)(r:Rel H nx iv B w O J)(W:∀g,S g->g<B):ky J (Cv S B iv) v x y:=h.cX fun _ V=>rls r W V
end
def dI(w:World)(S:Nat->Prop)(v:Value)(q:Rat):Prop:=∃b1 l1 b2 l2,v= .agg #[.bool b1,l1,.bool b2,l2]/\dX w S (.agg #[.bool b1,l1]) q.num/\dX w S (.agg #[.bool b2,l2]) q.den
theorem dI.cX{F:World}(h:dI w S v q)(R:∀g,S g->F.heap[g]? =w.heap[g]?):dI F S v q:=by
 obtain⟨b1,l1,b2,l2,Y,I,h3⟩:=h;exact⟨b1,l1,b2,l2,Y,I.cX R,h3.cX R⟩
theorem dI.cV(h:dI w S v q)(R:∀g,S g->S' g):dI w S' v q:=by
 obtain⟨b1,l1,b2,l2,Y,I,h3⟩:=h;exact⟨b1,l1,b2,l2,Y,I.cV R,h3.cV R⟩
theorem dI.r(h:dI w S v q):ky w S v q.num q.den:=by
 obtain⟨b1,l1,b2,l2,Y,I,h3⟩:=h;exact⟨b1,l1,b2,l2,Y,I.r,h3.r⟩
theorem dI.shape(h:dI w S v q):∃b a n c b2 a2 n2 c2,v= .agg #[.bool b,.slice a n c,.bool b2,.slice a2 n2 c2]:=h.r.shape
theorem dI.num(h:dI w S (.agg #[.bool b,nv,.bool b2,dv]) q):dX w S (.agg #[.bool b,nv]) q.num:=by
 obtain⟨b1,l1,b2,l2,Y,I,h3⟩:=h;simp at Y;obtain⟨rfl,rfl,rfl,rfl⟩:=Y;exact I
theorem dI.den(h:dI w S (.agg #[.bool b,nv,.bool b2,dv]) q):dX w S (.agg #[.bool b2,dv]) q.den:=by
 obtain⟨b1,l1,b2,l2,Y,I,h3⟩:=h;simp at Y;obtain⟨rfl,rfl,rfl,rfl⟩:=Y;exact h3
theorem dI.of(h:dX w S (.agg #[.bool b,nv]) q.num)(k:dX w S (.agg #[.bool b2,dv]) q.den):dI w S (.agg #[.bool b,nv,.bool b2,dv]) q:=⟨_,_,_,_,rfl,h,k⟩
section
variable{S S':Nat->Prop}{H:Hp}{nx:Nat}{iv K:Iv}{B:Nat}{w J F:World}{O:Nat->Sx.eH}{v:Value}{q:Rat}
theorem dI.rel(h:dI w (Cv S B iv) v q)(r:Rel H nx iv B w O J)(W:∀g,S g->g<B):dI J (Cv S B iv) v q:=h.cX fun _ V=>rls r W V
theorem dI.cS(h:dI w (Cv S B iv) v q)(r:Rel H nx iv B w O J)(W:∀g,S g->g<B)(L:Ext J F)(hm:∀p,p∈iv->p∈K):dI F (Cv S B K) v q:=
 ((h.rel r W).cX fun g V=>L.block g (rlo r W g V)).cV fun _ V=>V.mono hm
theorem dI.ep(h:dI F (Nf J F) v q)(hB:B<=J.heap.size)(hm:(J.heap.size,F.heap.size)∈iv):dI F (Cv S B iv) v q:=h.cV fun _ V=>V.ep hB hm
theorem dI.out{w0 w1:World}(h:dI w1 (Cv S w0.heap.size iv) v q)(r:Rel H nx iv w0.heap.size w1 O J)(W:Old S w0):dI J (Nw S w0 J) v q:=
 (h.rel r W).cV fun _ V=>Cv.nw V r
end
theorem jE(W:Old S w)(hf:cz w S v f):
  eL PG FS.mb #[v] w (eY w fun v' _w2=>v'=iV (rs f)):=by
 have G:=bR w;replace hf:=hf.cV (S':=Cv S w.heap.size []) fun _ h=>.inl h;obtain⟨b1,a1,n1,c1,b2,a2,n2,c2,rfl⟩:=hf.shape;have Ui:=hf.num;have RI:=hf.den;refine qU ce ?_;refine cW (cE G (pE (iV (rs f))) (fun O J r=>xm (Ui.rel r W)) ?_);rintro O _ _ _ Pv r L G h_ rfl;exact rtn G fun GE we re=>rfl
theorem mH(W:Old S w)(hf:cz w S v f):
  eL PG FS.mE #[v] w (eY w fun v' F=>cz F (Nw S w F) v' (-f)):=by
 have G:=bR w;replace hf:=hf.cV (S':=Cv S w.heap.size []) fun _ h=>.inl h;obtain⟨b1,a1,n1,c1,b2,a2,n2,c2,rfl⟩:=hf.shape;have Ui:=hf.num;have RI:=hf.den;refine pY ce ?_;refine dP [.x 0,.x 1,.x 3,.x 4,.x 2,.x 5,.x 6] ?_;refine cU (GT:=fun _ J v F=>eS F (Nw (Cv S w.heap.size []) J F) v (-f.num)) (fun O J r=>qh (rlo r W) (Ui.rel r W)) ?_;rintro O QP v1 QL r L A U;replace G:=G.tr A;replace RI:=RI.cS (K:=(QP.heap.size,QL.heap.size)::[]) r W L fun x E=>aD _ E;have hM:=U.old r.cZ;generalize (QP.heap.size,QL.heap.size)::[]=Pv at*
 obtain⟨A0,A1,A2,A3,rfl⟩:=hM.shape;exact rtn G fun GE we re=>cz.of (by rw[Rat.neg_num];exact hM.out re W) (by rw[Rat.neg_den];exact RI.out re W)
theorem ns(W:Old S w)(hf:cz w S v f)(V:cz w S u g)(hlf:rl f<=10000000000)(hlg:rl g<=10000000000):
  eL PG FS.mF #[v,u] w (eY w fun v' F=>cz F (Nf w F) v' (f*g)):=by
 have G:=bR w;have l1:=fv f;have l2:=fI f;have l3:=fv g;have l4:=fI g;have m0:=dQ f.num g.num;have m1:=dQ f.den g.den;replace hf:=hf.cV (S':=Cv S w.heap.size []) fun _ h=>.inl h;replace V:=V.cV (S':=Cv S w.heap.size []) fun _ h=>.inl h;obtain⟨b1,a1,n1,c1,b2,a2,n2,c2,rfl⟩:=hf.shape;obtain⟨b3,a3,n3,c3,b4,a4,n4,c4,rfl⟩:=V.shape;have Ui:=hf.num;have RI:=hf.den;have VV:=V.num;have Sj:=V.den;refine p9 ce ?_;refine dP [.x 0,.x 1,.x 2,.x 3,.x 5,.x 6,.x 7,.x 8,.x 4,.x 9,.x 10,.x 11] ?_;refine cE G (pR eS (f.num*g.num)) (fun O J r=>gp (rlo r W) (Ui.rel r W) (VV.rel r W) be be) ?_;rintro O _ _ _ Pv r L G h_ U;replace RI:=RI.cS r W L (mC h_);replace Sj:=Sj.cS r W L (mC h_);have hA:=U.cV (nw r h_);obtain⟨A0,A1,A2,A3,rfl⟩:=hA.shape;refine cE G (pR eS ((f.den:Int)*(g.den:Int))) (fun O J r=>gp (rlo r W) (RI.rel r W) (Sj.rel r W) be be) ?_;rintro O _ _ _ iv2 r L G h_ U;replace hA:=hA.cS r oF L (mC h_);have hB:=U.cV (nw r h_);obtain⟨C0,C1,C2,C3,rfl⟩:=hB.shape;refine cE G (pR cz (f*g)) (fun O J r=>(z3 f g)▸xn (rlo r oF) (hA.rel r oF) (hB.rel r oF) (lL (gg f) (gg g)) be be) ?_;rintro O _ _ _ Pu r L G h_ U;have hC:=U.cV (nw r h_);obtain⟨E0,E1,E2,E3,E4,E5,E6,E7,rfl⟩:=hC.shape;exact rtn G fun GE we re=>hC.out re oF
theorem JX(W:Old S w)(hf:cz w S v f)(V:cz w S u g)(hlf:rl f<=10000000000)(hlg:rl g<=10000000000)(VD:g≠0):
  eL PG FS.oW #[v,u] w (eY w fun v' F=>cz F (Nf w F) v' (f / g)):=by
 have G:=bR w;have l1:=fv f;have l2:=fI f;have l3:=fv g;have l4:=fI g;have m0:=dQ f.num g.den;have m1:=dQ f.den g.num;replace hf:=hf.cV (S':=Cv S w.heap.size []) fun _ h=>.inl h;replace V:=V.cV (S':=Cv S w.heap.size []) fun _ h=>.inl h;obtain⟨b1,a1,n1,c1,b2,a2,n2,c2,rfl⟩:=hf.shape;obtain⟨b3,a3,n3,c3,b4,a4,n4,c4,rfl⟩:=V.shape;have Ui:=hf.num;have RI:=hf.den;have VV:=V.num;have Sj:=V.den;refine sh ce ?_;refine dP [.x 0,.x 1,.x 2,.x 3,.x 5,.x 6,.x 7,.x 8,.x 4,.x 9,.x 10,.x 11] ?_;refine cE G (pR eS (f.num*(g.den:Int))) (fun O J r=>gp (rlo r W) (Ui.rel r W) (Sj.rel r W) be be) ?_;rintro O _ _ _ Pv r L G h_ U;replace RI:=RI.cS r W L (mC h_);replace VV:=VV.cS r W L (mC h_);have hA:=U.cV (nw r h_);obtain⟨A0,A1,A2,A3,rfl⟩:=hA.shape;refine cE G (pR eS ((f.den:Int)*g.num)) (fun O J r=>gp (rlo r W) (RI.rel r W) (VV.rel r W) be be) ?_;rintro O _ _ _ iv2 r L G h_ U;replace hA:=hA.cS r oF L (mC h_);have hB:=U.cV (nw r h_);obtain⟨C0,C1,C2,C3,rfl⟩:=hB.shape;refine cE G (pR cz (f / g)) (fun O J r=>(EL f g)▸xn (rlo r oF) (hA.rel r oF) (hB.rel r oF) (lL (gg f) (fun e=>VD (Rat.num_eq_zero.1 e))) be be) ?_;rintro O _ _ _ Pu r L G h_ U;have hC:=U.cV (nw r h_);obtain⟨E0,E1,E2,E3,E4,E5,E6,E7,rfl⟩:=hC.shape;exact rtn G fun GE we re=>hC.out re oF
theorem wy(W:Old S w)(hf:cz w S v f)(V:cz w S u g)(hlf:rl f<=10000000000)(hlg:rl g<=10000000000):
  eL PG FS.mi #[v,u] w (eY w fun v' F=>cz F (Nf w F) v' (f+g)):=by
 have G:=bR w;have l1:=fv f;have l2:=fI f;have l3:=fv g;have l4:=fI g;have m0:=dQ f.num g.den;have m1:=dQ g.num f.den;have m2:=dQ f.den g.den;have m4:=jY (f.num*g.den) (g.num*f.den);replace hf:=hf.cV (S':=Cv S w.heap.size []) fun _ h=>.inl h;replace V:=V.cV (S':=Cv S w.heap.size []) fun _ h=>.inl h;obtain⟨b1,a1,n1,c1,b2,a2,n2,c2,rfl⟩:=hf.shape;obtain⟨b3,a3,n3,c3,b4,a4,n4,c4,rfl⟩:=V.shape;have Ui:=hf.num;have RI:=hf.den;have VV:=V.num;have Sj:=V.den;refine q9 ce ?_;refine dP [.x 0,.x 1,.x 2,.x 3,.x 5,.x 6,.x 7,.x 8,.x 11,.x 12,.x 13,.x 14,.x 4,.x 9,.x 10,.x 15,.x 16,.x 17] ?_;refine cE G (pR eS (f.num*(g.den:Int))) (fun O J r=>gp (rlo r W) (Ui.rel r W) (Sj.rel r W) be be) ?_;rintro O _ _ _ Pv r L G h_ U;replace RI:=RI.cS r W L (mC h_);replace VV:=VV.cS r W L (mC h_);replace Sj:=Sj.cS r W L (mC h_);have hA:=U.cV (nw r h_);obtain⟨A0,A1,A2,A3,rfl⟩:=hA.shape;refine cE G (pR eS (g.num*(f.den:Int))) (fun O J r=>gp (rlo r W) (VV.rel r W) (RI.rel r W) be be) ?_;rintro O _ _ _ iv2 r L G h_ U;replace RI:=RI.cS r W L (mC h_);replace Sj:=Sj.cS r W L (mC h_);replace hA:=hA.cS r oF L (mC h_);have hB:=U.cV (nw r h_);obtain⟨C0,C1,C2,C3,rfl⟩:=hB.shape;refine cE G (pR eS (f.num*(g.den:Int)+g.num*(f.den:Int))) (fun O J r=>D9 (rlo r oF) (hA.rel r oF) (hB.rel r oF) be be) ?_;rintro O _ _ _ Pu r L G h_ U;replace RI:=RI.cS r W L (mC h_);replace Sj:=Sj.cS r W L (mC h_);have hD:=U.cV (nw r h_);obtain⟨E0,E1,E2,E3,rfl⟩:=hD.shape;refine cE G (pR eS ((f.den:Int)*(g.den:Int))) (fun O J r=>gp (rlo r W) (RI.rel r W) (Sj.rel r W) be be) ?_;rintro O _ _ _ QD r L G h_ U;replace hD:=hD.cS r oF L (mC h_);have hE:=U.cV (nw r h_);obtain⟨F0,F1,F2,F3,rfl⟩:=hE.shape;refine cE G (pR cz (f+g)) (fun O J r=>(vz f g)▸xn (rlo r oF) (hD.rel r oF) (hE.rel r oF) (lL (gg f) (gg g)) be be) ?_;rintro O _ _ _ QH r L G h_ U;have hC:=U.cV (nw r h_);obtain⟨G0,G1,G2,G3,G4,G5,G6,G7,rfl⟩:=hC.shape;exact rtn G fun GE we re=>hC.out re oF
theorem zc(W:Old S w)(hf:cz w S v f)(hlf:rl f<=100000000000):
  eL PG FS.ma #[v] w (eY w fun v' F=>dI F (Nf w F) v' f):=by
 have G:=bR w;have l1:=fv f;have l2:=fI f;replace hf:=hf.cV (S':=Cv S w.heap.size []) fun _ h=>.inl h;obtain⟨b1,a1,n1,c1,b2,a2,n2,c2,rfl⟩:=hf.shape;have Ui:=hf.num;have RI:=hf.den;refine qT ce ?_;refine dP [.x 0,.x 1,.x 3,.x 4,.x 2,.x 5,.x 6,.x 7] ?_;refine cE G (pR dX f.num) (fun O J r=>B6 (rlo r W) (Ui.rel r W) be) ?_;rintro O _ _ _ Pv r L G h_ U;replace RI:=RI.cS r W L (mC h_);have hA:=U.cV (nw r h_);obtain⟨A0,A1,A2,A3,rfl⟩:=hA.shape;refine cE G (pR dX (f.den:Int)) (fun O J r=>B6 (rlo r W) (RI.rel r W) be) ?_;rintro O _ _ _ iv2 r L G h_ U;replace hA:=hA.cS r oF L (mC h_);have hB:=U.cV (nw r h_);obtain⟨C0,C1,C2,C3,rfl⟩:=hB.shape;exact rtn G fun GE we re=>dI.of (hA.out re oF) (hB.out re oF)
theorem iX(n:Int)(w:World)(Y: -9223372036854775808<=n)(I:n<=9223372036854775807):
  eL PG FS.ya #[iV n] w (eY w fun v' F=>cz F (Nf w F) v' (n:Rat)):=by
 have G:=bR w;refine BU ce ?_;refine cW (cE G (pR eS n) (fun O J r=>lY n J Y I) ?_);rintro O _ _ _ Pv r L G h_ U;have hA:=U.cV (nw r h_);obtain⟨A0,A1,A2,A3,rfl⟩:=hA.shape;refine cW (cE G (pR eS 1) (fun O J r=>lY 1 J bv bv) ?_);rintro O _ _ _ iv2 r L G h_ U;replace hA:=hA.cS r oF L (mC h_);have hB:=U.cV (nw r h_);obtain⟨C0,C1,C2,C3,rfl⟩:=hB.shape;exact rtn G fun GE we re=>cz.of (by rw[Rat.num_intCast];exact hA.out re oF) (by rw[Rat.den_intCast];exact hB.out re oF)
theorem zd(W:Old S w)(E:ky w S v x y)(RL:ln x.natAbs<=100000000000)(R9:ln y.natAbs<=100000000000):
  eL PG FS.yV #[v] w (eY w fun v' F=>cz F (Nf w F) v' (ratio x y)):=by
 have G:=bR w;replace E:=E.cV (S':=Cv S w.heap.size []) fun _ h=>.inl h;obtain⟨b1,a1,n1,c1,b2,a2,n2,c2,rfl⟩:=E.shape;have U:=E.num;have hd:=E.den;have SW:=U;have hxd:=hd;refine BP ce ?_;refine cW (cU (GT:=fun _ J v F=>eS F (Nw (Cv S w.heap.size []) J F) v y) (fun O J r=>Ge (rlo r W) (hxd.rel r W)) ?_);rintro O QP v1 QL r L A U;replace G:=G.tr A;replace SW:=SW.cS (K:=(QP.heap.size,QL.heap.size)::[]) r W L fun x E=>aD _ E;have hD:=U.old r.cZ;generalize (QP.heap.size,QL.heap.size)::[]=Pv at*
 obtain⟨A0,A1,A2,A3,rfl⟩:=hD.shape;refine cW (cE G (pE (iV y.sign)) (fun O J r=>xm (hD.rel r W)) ?_);rintro O _ _ _ iv2 r L G h_ rfl;replace SW:=SW.cS r W L (mC h_);replace hD:=hD.cS r W L (mC h_);apply bS<;>intro h
 .have h:y=0:=bo.1 (eq_of_beq h);have e0:ratio x y=Rat.divInt x 1:=aM h;refine cW (cE G (pR eS 1) (fun O J r=>lY 1 J bv bv) ?_);rintro O Qo v3 Qc Pu r L G h_ U;replace SW:=SW.cS r W L (mC h_);have hO:=U.cV (nw r h_);obtain⟨C0,C1,C2,C3,rfl⟩:=hO.shape;have l1:ln (1:Int).natAbs=1:=by decide
  refine dP [.x 0,.x 1,.x 3,.x 2,.x 4,.x 5] ?_;refine cU (GT:=fun _ J v F=>eS F (Nw (Cv S w.heap.size Pu) J F) v x) (fun O J r=>Ge (rlo r W) (SW.rel r W)) ?_;rintro O Rl v4 R4 r L A U;replace G:=G.tr A;replace hO:=hO.cS (K:=(Rl.heap.size,R4.heap.size)::Pu) r oF L fun x E=>aD _ E;have hN:=U.old r.cZ;generalize (Rl.heap.size,R4.heap.size)::Pu=QD at*
  obtain⟨E0,E1,E2,E3,rfl⟩:=hN.shape;refine cE G (pR cz (ratio x y)) (fun O J r=>e0.symm▸xn (rlo r W) (hN.rel r W) ((hO.rel r oF).cV fun g V=>V.elim (fun k=>k.elim) .inr) bv be be) ?_;rintro O _ _ _ QH r L G h_ U;have hC:=U.cV (nw r h_);obtain⟨F0,F1,F2,F3,F4,F5,F6,F7,rfl⟩:=hC.shape;exact rtn G fun GE we re=>hC.out re oF
 .have h:y≠0:=fun e=>by rw[e]at h;exact absurd h bv
  have e0:ratio x y=Rat.divInt x y:=aI h;refine dP [.x 0,.x 1,.x 3,.x 2,.x 4,.x 5] ?_;refine cU (GT:=fun _ J v F=>eS F (Nw (Cv S w.heap.size iv2) J F) v x) (fun O J r=>Ge (rlo r W) (SW.rel r W)) ?_;rintro O Qo v3 Qc r L A U;replace G:=G.tr A;replace hD:=hD.cS (K:=(Qo.heap.size,Qc.heap.size)::iv2) r W L fun x E=>aD _ E;have hN:=U.old r.cZ;generalize (Qo.heap.size,Qc.heap.size)::iv2=Pu at*
  obtain⟨C0,C1,C2,C3,rfl⟩:=hN.shape;refine cE G (pR cz (ratio x y)) (fun O J r=>e0.symm▸xn (rlo r W) (hN.rel r W) (hD.rel r W) h be be) ?_;rintro O _ _ _ QD r L G h_ U;have hC:=U.cV (nw r h_);obtain⟨E0,E1,E2,E3,E4,E5,E6,E7,rfl⟩:=hC.shape;exact rtn G fun GE we re=>hC.out re oF
def en(v:Value):Iv:=match v.ownBlock with
 |some g=>[(g,g+1)]
 |none=>[]
theorem kX{lo N:Nat}:(lo,N)∈en v↔v.ownBlock=some lo/\N=lo+1:=by
 unfold en
 cases h:v.ownBlock with
 |none=>simp
 |some g=>simp;omega
def xL(iv:Iv)(v:Value):Prop:=∀b,v.ownBlock=some b->∃lo N,(lo,N)∈iv/\lo<=b/\b<N
section
variable{S:Nat->Prop}{H:Hp}{nx:Nat}{iv K:Iv}{B e sz m:Nat}{w J F:World}{O:Nat->Sx.eH}{v v':Value}{xs:List Value}
theorem xL.not(h:xL iv v)(r:Rel H nx iv B w O J){b:Nat}(A:v.ownBlock=some b):∀id c,dV H id=some c->(O id).nil=false->(O id).g≠b:=fun id c hc U L=>by
 obtain⟨lo,N,Y,I,h3⟩:=h b A;exact r.jU lo N Y id c hc U be
theorem fh(h:w.ownsRow B e sz v m xs)(hc:xL iv v)(r:Rel H nx iv B w O J):J.ownsRow B e sz v m xs:=
 ownsRow.cX h fun b A=>r.Dz b (ownsRow.low h b A).2 fun id c hc' U L=>hc.not r A id c hc' U L
theorem xL.row(v:Value):xL (en v) v:=fun b A=>⟨b,b+1,kX.2 ⟨A,rfl⟩,be,be⟩
theorem xL.mono(h:xL iv v)(k:∀p,p∈iv->p∈K):xL K v:=fun b A=>by
 obtain⟨lo,N,Y,I⟩:=h b A;exact⟨lo,N,k _ Y,I⟩
theorem ef(h:w.ownsRow B e sz v m xs):∃a c,v= .slice a m c/\m<=c:=by
 rcases h.2 with⟨rfl,rfl⟩|⟨g,cap,cur,rfl,_,_,Y,_⟩
 .exact⟨none,0,rfl,lr⟩
 .exact⟨_,cap,rfl,Y⟩
theorem ye(r:Rel H nx (en v) B w O J)(_hsz:J.heap.size<=F.heap.size)(S0:∀g,v'.ownBlock=some g->g<F.heap.size/\(v.ownBlock=some g\/g=J.heap.size)):
  ∀lo N,(lo,N)∈en v'->N<=F.heap.size/\∀id b,dV H id=some b->(O id).nil=false->¬(lo<=(O id).g/\(O id).g<N):=fun lo N hm=>by
 obtain⟨V,rfl⟩:=kX.1 hm;obtain⟨Y,I⟩:=S0 _ V;refine⟨be,fun id c hc U L=>?_⟩;rcases I with I|I
 .exact(xL.row v).not r I id c hc U be
 .have:=(r.low id c hc U).2;omega
end
end Go.Ex
namespace Go.Sx
open Go Go.Ex Go.Proofs
variable{O:Nat->Sx.eH}
theorem Sub.aAq{B:Nat}{l tl:Env}{nx Pr:Nat}{H tH:Hp}{iv K:Iv}{w J:World}(m:List (Nat×Nat))(r:Rel H nx iv B w O J)
  (hH:zx (vX m) H tH) (hE:zw (vX m) l tl) (Yd:DA Pr tH) (hsE:jn Pr tl) (N:Jq (vX m) tH=true) (XQ:∀lo N,(lo,N)∈K->∃lo' Rc,(lo',Rc)∈iv/\lo'<=lo/\N<=Rc):Sub B l nx O J ⟨tl,tH,Pr,K,J⟩:=by
 have r2:Rel H nx K B J O J:=Rel.mk' rfl rfl rfl lr (by have:=r.base;have:=r.size;omega) (fun lo N h=>by
   obtain⟨lo',Rc,Y,I,h3⟩:=XQ lo N h
   have:=r.oc lo' Rc Y;have:=r.size;omega) r.keys (fun id b h=>r.fits h) (fun id b h=>r.scopd h) r.inj r.low (fun _ _ _=>rfl) (fun lo N h id b A U L=>by
   obtain⟨lo',Rc,Y,I,h3⟩:=XQ lo N h
   exact r.jU lo' Rc Y id b A U be)
 exact Sub.gen m r2 hH hE Yd hsE N (fun lo N h=>h)
end Go.Sx
namespace Go.Ex
open Go Go.Sx Go.Proofs
variable{parts:List (Value×List Value×Nat)}{xs:List Value}{n sz:Nat}{S:Nat->Prop}{v:Value}{w:World}
theorem xL.iv{iv:Iv}(h:xL iv v):∀lo N,(lo,N)∈en v->∃lo' Rc,(lo',Rc)∈iv/\lo'<=lo/\N<=Rc:=fun lo N hm=>by
 obtain⟨A,rfl⟩:=kX.1 hm;obtain⟨lo',Rc,Y,I,h3⟩:=h lo A;exact⟨lo',Rc,Y,I,be⟩
structure fe(w:World)(S:Nat->Prop)(sz:Nat)(v:Value)(xs:List Value)(n:Nat):Prop where
 le:n<=maxLen
 len:xs.length=n*sz
 one:∀u∈xs,u.oneCell'=true
 sl:∃a c,v= .slice a n c/\n<=c/\∀(j:Nat) u,xs[j]? =some u->∃ad,a=some ad/\S ad.block/\w.cell? (ad.add j)=some u
theorem fe.cX{F:World}(h:fe w S sz v xs n)(R:∀g,S g->F.heap[g]? =w.heap[g]?):fe F S sz v xs n:=by
 obtain⟨h0,Y,I,a,c,h3,h4,h5⟩:=h;refine⟨h0,Y,I,a,c,h3,h4,fun j u hu=>?_⟩;obtain⟨ad,k1,k2,k3⟩:=h5 j u hu;exact⟨ad,k1,k2,by rw[cd (R _ (by rw[df];exact k2))];exact k3⟩
theorem fe.cV{S':Nat->Prop}(h:fe w S sz v xs n)(R:∀g,S g->S' g):fe w S' sz v xs n:=by
 obtain⟨h0,Y,I,a,c,h3,h4,h5⟩:=h;refine⟨h0,Y,I,a,c,h3,h4,fun j u hu=>?_⟩;obtain⟨ad,k1,k2,k3⟩:=h5 j u hu;exact⟨ad,k1,R _ k2,k3⟩
theorem fe.shape(h:fe w S sz v xs n):∃a m c,v= .slice a m c:=by
 obtain⟨_,_,_,a,c,h3,_⟩:=h;exact⟨a,_,c,h3⟩
section
variable{S S':Nat->Prop}{H:Hp}{nx:Nat}{iv K:Iv}{B:Nat}{w J F:World}{O:Nat->Sx.eH}{v:Value}{sz n:Nat}{xs:List Value}
end
def jT(parts:List (Value×List Value×Nat)):Nat:=(parts.map (·.2.2)).sum
theorem o9(a b:List (Value×List Value×Nat)):jT (a++b)=jT a+jT b:=by simp[jT]
abbrev aAr:=JN
theorem OM(n:Nat)(w:World)(U:n<=1000000000000):
  eL PG FS.gl #[nls,iV n] w (eY w fun v' F=>F.ownsRow w.heap.size T.uint32 1 v' 0 []):=by
 refine jd ce ?_;conv=>whnf
 refine zX (e:=T.uint32) aAr d8 (fun O w1 r=>?_);have A:=r.cj;clear r;conv=>whnf
 refine⟨0,rfl,?_⟩;conv=>whnf
 refine⟨(n:Int),by show IntKind.wrap .i64 ((n:Int)-0)=_;rw[wrap64]<;>omega,?_⟩;conv=>whnf
 apply bS<;>intro h
 .have h:0<n:=by have:=aJ h;omega
  conv=>whnf
  refine zX (e:=T.uint32) aAr d8 (fun O F r=>?_);replace A:=A.tr r.cj;clear r;conv=>whnf
  refine⟨⟨be,be,be⟩,none,0,0,d8,be,be,?_⟩;conv=>whnf
  refine DD hτ (Bc:=w.heap.size) lr d8 d8 ((hτ T.int _ rfl).i1 rfl) bv d8 d8 h mx be (fun O w3 w4 c r hc Pm V hs=>?_);have Rd:Bq w w4:=(A.tr r.cj).tr (Bel.grown V (fun g V=>by cases V) (by have:=r.base;have:=r.size;omega));have hw3:=(A.tr r.cj).size;clear r;generalize w3.heap.size=g0 at*
  conv=>whnf
  refine⟨⟨be,be,be⟩,some ⟨g0,0,none⟩,0,c,by split<;>rfl,be,be,?_⟩;conv=>whnf
  intro Id w5 r5
  exact⟨_,rfl,Rd.tr r5.cj,fh Pm (fun b A=>by
   have A:g0=b:=by injection A
   exact⟨g0,g0+1,by simp[hs],be,be⟩) r5⟩
 .conv=>whnf
  intro Id w5 r5;exact⟨_,rfl,A.tr r5.cj,World.ownsRow_nil _ _ _ _⟩
theorem K8(W:Old S w)(h:fe w S 1 v (parts.map (·.1)) parts.length)(hp:∀p∈parts,fe w S 1 p.1 p.2.1 p.2.2)(hN:jT parts<=1000000000000):
  eL PG FS.gE #[v] w (eY w fun v' F=>F.ownsRow w.heap.size T.uint32 1 v' (jT parts) (parts.flatMap (·.2.1))):=by
 obtain⟨VH,-,-,a,c,rfl,VI,QA⟩:=h;have hle:∀k,jT (parts.take k)<=jT parts:=fun k=>by
  conv=>rhs;rw[<-List.take_append_drop k parts,o9]
  omega
 have RC:∀(i:Nat) p,parts[i]? =some p->jT (parts.take (i+1))=jT (parts.take i)+p.2.2:=fun i p hp=>by
  rw[bM,hp,o9];simp[jT]
 have WD:∀(i:Nat) p,parts[i]? =some p->(parts.take (i+1)).flatMap (·.2.1)=(parts.take i).flatMap (·.2.1)++p.2.1:=fun i p hp=>by
  rw[bM,hp];simp
 have SJ:∀(i:Nat) p,parts[i]? =some p->∃ad an ac,a=some ad/\S ad.block/\w.cell? (ad.add i)=some (.slice an p.2.2 ac)/\p.1= .slice an p.2.2 ac:=fun i p N=>by
  obtain⟨ad,Y,I,h3⟩:=QA i p.1 (by rw[aU,N];rfl);obtain⟨_,_,_,an,ac,h4,_⟩:=hp p (aG N);exact⟨ad,an,ac,Y,I,by rw[h3,h4],h4⟩
 unfold maxLen at VH;refine jS ce ?_;conv=>whnf
 refine⟨Nat×World,fun z=>⟨[(0,sV a parts.length c),(3,.o (.v (iV (jT (parts.take z.1):Nat)))),(9,sV a parts.length c),(10,iZ parts.length),(11,iZ z.1)],[],0,[],z.2⟩,
  fun z=>parts.length-z.1,fun z=>z.1<=parts.length/\Bq w z.2,?_,?_⟩
 .intro O J r;exact⟨(0,J),⟨ce,r.cj⟩,sbgn [] r⟩
 .rintro⟨i,w1⟩ ⟨N,G⟩;dsimp only at N G ⊢;conv=>whnf
  apply bS<;>intro h
  .have h:=dL h;obtain⟨p,Si⟩:=gO parts i;obtain⟨ad,an,ac,Y,I,h3,h4⟩:=SJ i p Si;have XS:=RC i p Si;have TO:=hle (i+1);conv=>whnf
   refine⟨ad,Y,be,?_⟩;conv=>whnf
   refine⟨.slice an p.2.2 ac,fun O J r=>by simpa using gN W G r I h3,?_⟩;conv=>whnf
   refine⟨((jT (parts.take (i+1)):Nat):Int),wo,?_⟩;conv=>whnf
   refine inc i ?_;conv=>whnf
   intro I8 w3 r3;exact⟨(i+1,w3),⟨h,G.tr r3.cj⟩,sbgn [] r3,by simp;omega⟩
  .have h:i=parts.length:=by
    have:¬i<parts.length:=by simpa using h
    omega
   subst h;clear N;rw[bK];conv=>whnf
   refine cW (cU (GT:=fun _ J v F=>F.ownsRow J.heap.size T.uint32 1 v 0 []) (fun O J r=>OM _ J be) ?_);rintro O wa v1 wb r L A Pm;have QK:=r.cZ;have hes:=L.size;have Xz:xL [(wa.heap.size,wb.heap.size)] v1:=fun b A=>⟨_,_,aX.2 rfl,(ownsRow.low Pm b A).1,(ownsRow.low Pm b A).2⟩
   replace Pm:wb.ownsRow w.heap.size T.uint32 1 v1 0 []:=⟨Pm.1,Pm.2.imp id fun⟨g,cap,cur,k1,k2,k3⟩=>⟨g,cap,cur,k1,be,k3⟩⟩
   replace G:=G.tr A;clear r L;obtain⟨a1,c1,rfl,-⟩:=ef Pm;conv=>whnf
   refine⟨Nat×Value×World,fun z=>⟨[(0,sV a parts.length c),(6,.o (.v z.2.1)),(25,sV a parts.length c),(26,iZ parts.length),(27,iZ z.1)],[],0,en z.2.1,z.2.2⟩,
    fun z=>parts.length-z.1,fun z=>z.1<=parts.length/\Bq w z.2.2/\z.2.2.ownsRow w.heap.size T.uint32 1 z.2.1 (jT (parts.take z.1)) ((parts.take z.1).flatMap (·.2.1)),?_,?_⟩
   .intro O J r;exact⟨(0,.slice a1 0 c1,J),⟨ce,G.tr r.cj,by simpa [jT]using fh Pm Xz r⟩,Sub.aAq [] r trivial ⟨rfl,rfl,rfl,rfl,rfl,trivial⟩ (by simp[DA]) (by simp[jn,SV.sc,At.sc]) d8 Xz.iv⟩
   .rintro⟨i,v1,w1⟩ ⟨N,G,Pm⟩;dsimp only at N G Pm ⊢;obtain⟨a1,c1,rfl,-⟩:=ef Pm;conv=>whnf
    apply bS<;>intro h
    .have h:=dL h;obtain⟨p,Si⟩:=gO parts i;obtain⟨ad,an,ac,Y,I,h3,h4⟩:=SJ i p Si;have XS:=RC i p Si;have TO:=hle (i+1);have hpR:=hp p (aG Si);conv=>whnf
     refine⟨ad,Y,be,?_⟩;conv=>whnf
     refine⟨.slice an p.2.2 ac,fun O J r=>by simpa using gN W G r I h3,?_⟩;conv=>whnf
     refine .inr (iP hτ lr (xs:=(parts.take i).flatMap (·.2.1)) (news:=p.2.1) (m:=jT (parts.take i)) (k:=p.2.2) d8 d8 bv d8 d8 (fun O J r=>⟨fh Pm (xL.row _) r,fun g V=>(xL.row _).not r V⟩) hpR.len hpR.one mx be
      (fun O J r=>?_) (fun v' F=>en v') (fun O J v' F r QK S0=>ye r QK S0) (fun O J v' F r h5 h6 h7=>?_))
     .obtain⟨_,SS,_,a2,c2,h5,_,h6⟩:=hpR;rw[h4]at h5;injection h5 with h7 h8 h9;subst h7 h9
      cases an with
      |none=>
       refine .inl ⟨ac,?_,?_⟩
       .have:p.2.2=0:=by
         rcases bH p.2.2 with h0|h0
         .exact h0
         .obtain⟨ad2,k1,_⟩:=h6 0 _ (aE (show 0<p.2.1.length by omega))
          cases k1
        rw[<-this];rfl
       .rcases bH p.2.2 with h0|h0
        .exact h0
        .obtain⟨ad2,k1,_⟩:=h6 0 _ (aE (show 0<p.2.1.length by omega))
         cases k1
      |some ad3=>
       refine .inr ⟨ad3,ac,rfl,fun j u hu=>?_⟩;obtain⟨ad2,k1,k2,k3⟩:=h6 j u hu;injection k1 with k1;subst k1;exact gN W G r k2 k3
     .have Q2:Bq w F:=(G.tr r.cj).tr (Bel.grown h6 (fun g V=>(ownsRow.low Pm g V).1) (by have:=r.size;have:=G.size;omega));rw[<-XS,<-WD i p Si]at h5;obtain⟨a3,c3,rfl,-⟩:=ef h5;conv=>whnf
      refine⟨(i+1:Nat),wo,?_⟩;conv=>whnf
      intro I8 w3 r3
      exact⟨(i+1,.slice a3 (jT (parts.take (i+1))) c3,w3),⟨h,Q2.tr r3.cj,fh h5 (xL.row _) r3⟩,
       sbgn [] r3,by simp;omega⟩
    .have h:i=parts.length:=by
      have:¬i<parts.length:=by simpa using h
      omega
     subst h;rw[bK]at Pm ⊢;conv=>whnf
     intro Id w5 r5;exact⟨_,rfl,G.tr r5.cj,fh Pm (xL.row _) r5⟩
end Go.Ex
namespace Go.Sx
open Go Go.Ex Go.Proofs
section
variable{O:Nat->Sx.eH}
theorem Rel.kJ{H:Hp}{nx:Nat}{iv:Iv}{B:Nat}{w J:World}(r:Rel H nx iv B w O J){id t sz n:Nat}{cs:List At}(h:dV H id=some (.box t cs))(hl:cs.length=n*sz)(U:n<=maxLen)(Y:∀u∈cs,(u.den O).oneCell'=true):
  fe J (fun g=>g=(O id).g) sz (.slice (some ⟨(O id).g,0,none⟩) n n) (cs.map (At.den O)) n:=by
 refine⟨U,by simpa using hl,fun u hu=>?_,_,_,rfl,lr,fun j u hu=>⟨_,rfl,rfl,?_⟩⟩
 .obtain⟨x,E,rfl⟩:=bE.1 hu;exact Y x E
 .have h0:(⟨(O id).g,0,none⟩:Addr).add j=⟨(O id).g,j,none⟩:=by
   cases j with
   |zero=>rfl
   |succ j=>simp[Addr.add]
  rw[h0,cell_of (r.box id t _ h)];exact hu
end
variable{cs:List Value}{O:Nat->Sx.eH}
theorem Rel.IC{H:Hp}{nx:Nat}{iv:Iv}{B:Nat}{w J:World}(r:Rel H nx iv B w O J){id t sz n:Nat}(h:dV H id=some (.arr t cs))(hl:cs.length=n*sz)(U:n<=maxLen)(Y:∀u∈cs,u.oneCell'=true):
  fe J (fun g=>g=(O id).g) sz (.slice (some ⟨(O id).g,0,none⟩) n n) cs n:=by
 refine⟨U,hl,Y,_,_,rfl,lr,fun j u hu=>⟨_,rfl,rfl,?_⟩⟩;have h0:(⟨(O id).g,0,none⟩:Addr).add j=⟨(O id).g,j,none⟩:=by
  cases j with
  |zero=>rfl
  |succ j=>simp[Addr.add]
 rw[h0,cell_of (r.arr id t _ h)];exact hu
end Go.Sx
namespace Go.Ex
open Go Go.Sx Go.Proofs
section
variable{ls:List Nat}{xs:List Value}{n:Nat}{S:Nat->Prop}{v:Value}{w:World}
theorem dZ.seq(h:dZ w S v ls):fe w S 1 v (EQ ls) ls.length:=by
 obtain⟨a,c,rfl,hc,QA⟩:=h.sl;refine⟨by have:=h.le;unfold maxLen;omega,by rw[gP,av],fun u hu=>by simp only[EQ,bE]at hu;obtain⟨n,_,rfl⟩:=hu;rfl,a,c,rfl,hc,fun j u hu=>?_⟩;simp only[EQ,aU,Option.map_eq_some_iff]at hu;obtain⟨n,U,rfl⟩:=hu;exact QA j n U
theorem fe.B8(h:fe w S 1 v (EQ ls) n)(Qj:Lm ls):dZ w S v ls:=by
 obtain⟨h0,Y,I,a,c,rfl,hc,QA⟩:=h;have U:n=ls.length:=by rw[gP]at Y;omega
 subst U;exact⟨Qj,by unfold maxLen at h0;omega,a,c,rfl,hc,fun j x E=>QA j _ (uR E)⟩
theorem aAF{B e sz m:Nat}(h:w.ownsRow B e sz v m xs)(Y:∀u∈xs,u.oneCell'=true)(hm:m<=maxLen):fe w (fun g=>B<=g/\g<w.heap.size) sz v xs m:=by
 rcases h.2 with⟨rfl,rfl⟩|⟨g,cap,cur,rfl,A,hc,SR,RO,QK,R7⟩
 .refine⟨hm,h.1,Y,none,0,rfl,lr,fun j u hu=>?_⟩;have:=h.1;rw[Nat.zero_mul]at this;rw[List.eq_nil_of_length_eq_zero this]at hu
  cases hu
 .refine⟨hm,h.1,Y,_,cap,rfl,SR,fun j u hu=>⟨_,rfl,⟨A,(bD.1 hc).1⟩,?_⟩⟩;have h0:(⟨g,0,none⟩:Addr).add j=⟨g,j,none⟩:=by
   cases j with
   |zero=>rfl
   |succ j=>simp[Addr.add]
  have ZI:cur.toList[j]? =some u:=by
   rw[<-R7,List.getElem?_take]at hu;split at hu
   .exact hu
   .cases hu
  rw[h0,cell_of (g:=g) (cs:=cur.toList) (by simpa using hc)];exact ZI
theorem Mg(h:n<=9223372036854775807):IntKind.i64.wrap (n:Int)=n:=by rw[wrap64]<;>omega
theorem Em{t b:Nat}(h:t<=9223372036854775807):IntKind.i64.wrap ((t:Int).tdiv (b:Int))=((t / b:Nat):Int):=by
 have Y:=Nat.div_le_self t b;rw[Int.tdiv_eq_ediv_of_nonneg be,<-Int.natCast_ediv];exact Mg be
theorem Mh(a b:List Nat):EQ (a++b)=EQ a++EQ b:=by simp[EQ]
theorem Mi{b:Nat}(W:Old S w)(h:dm w S v n)(Tn:ln n<=100000000000)(A:b<=3200000000000):
  eL PG FS.pO #[v,iV b] w (eY w fun v' F=>dm F (Nf w F) v' (n*2^b)):=by
 obtain⟨ls,hl,hz,hv⟩:=h;have hlen:=eJ hl.lm hz;rw[hv]at hlen;replace hl:=hl.arg [];obtain⟨a,m,c,rfl⟩:=hl.shape;have hm:m=ls.length:=by
  obtain⟨_,_,e,_⟩:=hl.sl;injection e
 refine tz ce ?_;conv=>whnf
 refine⟨bv,((b / 32:Nat):Int),Em be,?_⟩;conv=>whnf
 refine⟨b / 32,b / 32,rfl,rfl,lr,be,be,?_⟩;conv=>whnf
 refine cW (cU (GT:=fun _ J v F=>dZ F (Nf J F) v (List.replicate (b / 32) 0++ls)) (fun O J r=>?_) ?_)
 .have hA:=r.IC (id:=0) (sz:=1) (n:=b / 32) rfl ce mx (by simp[Value.oneCell']);have hB:=r.kJ (id:=1) (sz:=1) (n:=2) rfl rfl mx (by intro u hu;simp at hu;rcases hu with rfl|rfl<;>rfl);have hL1:=(dZ.rel hl r W).seq;refine(K8 (S:=fun g=>Cv S w.heap.size [] g\/g=(O 0).g\/g=(O 1).g) (parts:=[(.slice (some ⟨(O 0).g,0,none⟩) (b / 32) (b / 32),List.replicate (b / 32) (.int .u32 0),b / 32),(.slice a m c,EQ ls,ls.length)]) ?_ ?_ ?_ ?_).mono fun e F ⟨v2,e1,e2,e3⟩=>⟨v2,e1,e2,?_⟩
  .intro g V;rcases V with V|V|V
   .exact rlo r W g V
   .rw[V];exact(r.low 0 _ rfl (r.nn 0 _ rfl (by intros;simp) ce)).2
   .rw[V];exact(r.low 1 _ rfl (r.nn 1 _ rfl (by intros;simp) ce)).2
  .exact hB.cV fun g V=>.inr (.inr V)
  .intro p hp;simp only[List.mem_cons,List.not_mem_nil,or_false]at hp;rcases hp with rfl|rfl
   .exact hA.cV fun g V=>.inr (.inl V)
   .exact hL1.cV fun g V=>.inl V
  .simp[jT];omega
  .have e4:=aAF e3 (by
    intro u hu;simp only[List.flatMap_cons,List.flatMap_nil,List.append_nil,bB,List.mem_replicate,EQ,bE]at hu
    rcases hu with⟨_,rfl⟩|⟨_,_,rfl⟩<;>rfl) (by simp[jT,maxLen];omega)
   refine fe.B8 (n:=b / 32+ls.length) ?_ ((Lm.replicate _).append hl.lm)
   .have e5:EQ (List.replicate (b / 32) 0++ls)=List.replicate (b / 32) (Value.int .u32 0)++EQ ls:=by rw[Mh,sn]
    rw[e5];have e6:=e4.cV (S':=Nf J F) fun g V=>.inr V;simpa [jT]using e6
 rintro O wa v1 wb r L Sg hL;have XV:=hL.ep (S:=FF) r.cZ (iv:=[(wa.heap.size,wb.heap.size)]) aF;clear r L hL hl;generalize [(wa.heap.size,wb.heap.size)]=iv at*
 obtain⟨a1,m1,c1,rfl⟩:=XV.shape;conv=>whnf
 refine⟨bv,((b % 32:Nat):Int),mT b 32,?_⟩;conv=>whnf
 refine⟨((b % 32:Nat):Int),fC be,?_⟩;conv=>whnf
 have hlen2:(List.replicate (b / 32) 0++ls).length<=200000000000:=by simp;omega
 have SH:val (List.replicate (b / 32) 0++ls)*2^(b % 32)=n*2^b:=by
  rw[lJ,lS,aj,aS,rk,hv,bc (2^_) n,bu,<-Nat.pow_add];congr 2;omega
 generalize List.replicate (b / 32) 0++ls=ls2 at*
 refine cW (cU (GT:=fun _ J v F=>∃out,dZ F (Nf J F) v out/\out.length<=1000000000001/\val out=val ls2*2^(b % 32)) (fun O J r=>?_) ?_)
 .refine(xl (rlo r oF) (dZ.rel XV r oF) be (cM b bv)).mono fun e F ⟨v2,e1,e2,out,e3,e4,e5⟩=>⟨v2,e1,e2,out,?_,be,e5⟩
  obtain⟨g,rfl,Tt,RF,hg3⟩:=e3;exact(Ek RF hg3 be).cV fun x E=>.inr ⟨be,by have:=(bD.1 RF).1;omega⟩
 rintro O wc v2 wd r L Q2 ⟨out,hO,TJ,RB⟩;replace Sg:=Sg.tr Q2;have Qh:=hO.ep (S:=FF) r.cZ (iv:=(wc.heap.size,wd.heap.size)::iv) aF;clear r L hO XV Q2;generalize (wc.heap.size,wd.heap.size)::iv=iv2 at*
 obtain⟨a2,m2,c2,rfl⟩:=Qh.shape;conv=>whnf
 refine cW (cU (GT:=fun _ _ v F=>dZ F (Cf w iv2) v (eO out)) (fun O J r=>fY (rlo r oF) (dZ.rel Qh r oF)) ?_);rintro O we v3 wf r L WU hT;replace Sg:=Sg.tr WU;have hN:=hT.trimmed;rw[RB,SH]at hN;clear r L hT Qh WU;obtain⟨a3,m3,c3,rfl⟩:=hN.shape;conv=>whnf
 intro Id w5 r5;exact⟨_,rfl,Sg.tr r5.cj,(hN.cV fun g V=>V.cons).out r5 oF⟩
end
variable{s:ByteArray}{bs:List Nat}{b n:Nat}{S:Nat->Prop}{v:Value}{w:World}
def Bb(n r:Nat):Prop:=r*r<=n/\n<(r+1)*(r+1)
theorem Ep{x:Nat}(U:0<n)(E:0<x):n<((x+n / x) / 2+1)*((x+n / x) / 2+1)/\0<(x+n / x) / 2:=by
 have Y:n<x*(n / x+1):=by
  have:=Nat.div_add_mod n x;have:=cM n E;rw[bZ,av];omega
 generalize n / x=q at*
 obtain⟨y,hy⟩:∃y,y=(x+q) / 2:=⟨_,rfl⟩
 rw[<-hy];have I:x+q+1<=2*(y+1):=by omega
 have h3:(x+(q+1))*(x+(q+1))<=(2*(y+1))*(2*(y+1)):=Nat.mul_le_mul be be;have h4:4*(x*(q+1))<=(x+(q+1))*(x+(q+1)):=by
  generalize q+1=p;rw[bZ,Nat.add_mul,Nat.add_mul,bc p x];rcases Nat.le_total x p with h|h
  .obtain⟨d,rfl⟩:=Nat.le.dest h;rw[bZ,Nat.add_mul,bZ,bZ,bZ,bc d x];omega
  .obtain⟨d,rfl⟩:=Nat.le.dest h;rw[bZ,Nat.add_mul,Nat.add_mul,bZ,bc d p];omega
 have h5:(2*(y+1))*(2*(y+1))=4*((y+1)*(y+1)):=by
  rw[bu,Nat.mul_left_comm (y+1) 2,<-bu,<-bu]
 refine⟨be,?_⟩;rcases bH y with h|h
 .subst h;omega
 .exact h
theorem Gl{n x:Nat}(_:0<x)(h:x<=(x+n / x) / 2):x*x<=n:=by
 have Y:x<=n / x:=by omega
 exact aR (bC x Y) (Nat.mul_div_le n x)
theorem Jf{a:Nat}:(qg a b≥0)↔b<=a:=by
 unfold qg;split
 .omega
 .split<;>omega
theorem aAJ(W:Old S w)(h:dm w S v n)(Tn:ln n<=10000000000):
  eL PG FS.sR #[v] w (eY w fun v' F=>∃r,Bb n r/\dm F (Nf w F) v' r):=by
 have U:=h.arg [];obtain⟨p,rfl,Rv,SI⟩:=h.la;have QQ:=eJ p.lm SI;rw[Rv]at QQ;have Yf:=ox QQ;refine wj ce ?_;conv=>whnf
 apply bS<;>intro h0
 .have h0:n=0:=by have:=eq_of_beq h0;omega
  conv=>whnf
  intro Id w5 r5;exact⟨_,rfl,r5.cj,0,⟨be,be⟩,dm.nil _ _⟩
 have h0:0<n:=by
  have:(p.ls.length:Int)≠0:=fun e=>by rw[e]at h0;exact absurd h0 bv
  omega
 conv=>whnf
 refine⟨((32*p.ls.length:Nat):Int),wo,?_⟩;conv=>whnf
 refine⟨((32*p.ls.length+1:Nat):Int),wo,?_⟩;conv=>whnf
 refine⟨bv,(((32*p.ls.length+1) / 2:Nat):Int),Em be,?_⟩;conv=>whnf
 refine⟨(((32*p.ls.length+1) / 2+1:Nat):Int),wo,?_⟩;conv=>whnf
 have YC:n<(2^((32*p.ls.length+1) / 2+1)+1)*(2^((32*p.ls.length+1) / 2+1)+1):=by
  have Y:=lk n;rw[<-QQ,rk]at Y;have I:2^(32*p.ls.length)<=2^((32*p.ls.length+1) / 2+1)*2^((32*p.ls.length+1) / 2+1):=by
   rw[<-Nat.pow_add];exact Nat.pow_le_pow_right bv be
  have h3:=Nat.mul_le_mul (Nat.le_succ (2^((32*p.ls.length+1) / 2+1))) (Nat.le_succ (2^((32*p.ls.length+1) / 2+1)));simp only[Nat.succ_eq_add_one]at h3;omega
 have QE:(32*p.ls.length+1) / 2+1<=320000000000:=by omega
 generalize (32*p.ls.length+1) / 2+1=b at*
 have RL:ln (2^b)<=100000000000:=by
  refine iH.2 ?_;rw[rk];have Vb:b<32*100000000000:=by omega
  generalize 32*100000000000=e at Vb;exact Nat.pow_lt_pow_right bv Vb
 refine cW (cU (GT:=fun _ J v F=>dm F (Nf J F) v (2^b)) (fun O J r=>?_) ?_)
 .have hB:=(r.pe (id:=0) (ls:=[1]) rfl (by intro x E;simp at E;omega) ce).nat (by simp[Nz]);refine(Mi (fun g V=>by rw[V];exact(r.low 0 _ rfl (r.nn 0 _ rfl (by intros;simp) ce)).2) hB bv be).mono fun e F ⟨v2,e1,e2,e3⟩=>⟨v2,e1,e2,?_⟩
  have:val [1]*2^b=2^b:=by simp[val]
  rw[this]at e3;exact e3
 rintro O wa v1 wb r L A E;have hX:=E.ep (S:=FF) r.cZ (iv:=[(wa.heap.size,wb.heap.size)]) aF;replace U:=U.cS (K:=[(wa.heap.size,wb.heap.size)]) r W L fun x E=>aD _ E;clear r L E;generalize [(wa.heap.size,wb.heap.size)]=iv at*
 obtain⟨a1,m1,c1,rfl⟩:=hX.shape;conv=>whnf
 refine⟨(Value×Nat)×Iv×World,fun z=>⟨[(0,sV p.a p.ls.length p.c),(3,.o (.v z.1.1))],[],0,z.2.1,z.2.2⟩,fun z=>z.1.2,
  fun z=>Bq w z.2.2/\dm z.2.2 (Cv S w.heap.size z.2.1) (.slice p.a p.ls.length p.c) n/\dm z.2.2 (Cf w z.2.1) z.1.1 z.1.2/\0<z.1.2/\ln z.1.2<=100000000000/\n<(z.1.2+1)*(z.1.2+1),?_,?_⟩
 .intro O J r
  exact⟨((_,2^b),iv,J),⟨A.tr r.cj,U.rel r W,hX.rel r oF,cJ b,RL,YC⟩,
   Sub.gen [] r trivial ⟨rfl,rfl,trivial⟩ trivial (by simp[jn,SV.sc,At.sc]) d8 (fun lo N h=>h)⟩
 clear hX U A YC RL;rintro⟨⟨vx,x⟩,iv,w1⟩ ⟨G,U,hX,Qd,RL,QZ⟩;dsimp only at G U hX Qd RL QZ ⊢;obtain⟨a2,m2,c2,rfl⟩:=hX.shape;conv=>whnf
 refine cW (cU (GT:=fun _ J v F=>∃q r,v= .tuple #[q,r]/\dm F (Nf J F) q (n / x)/\dm F (Nw (Cv S w.heap.size iv) J F) r (n % x)) (fun O J r=>nm (rlo r W) (U.rel r W) ((hX.rel r oF).cV fun g V=>by rcases V with h|h;exact h.elim;exact .inr h) Qd be) ?_);rintro O w3 v3 w4 r L Rd ⟨q,rm,rfl,hq,Zx⟩;replace G:=G.tr Rd;have hQ:=hq.ep (S:=FF) r.cZ (iv:=(w3.heap.size,w4.heap.size)::iv) aF;have hR:=Zx.old r.cZ;replace U:=U.cS (K:=(w3.heap.size,w4.heap.size)::iv) r W L fun x E=>aD _ E;replace hX:=hX.cS (K:=(w3.heap.size,w4.heap.size)::iv) r oF L fun x E=>aD _ E;clear r L hq Zx Rd;generalize (w3.heap.size,w4.heap.size)::iv=iv2 at*
 obtain⟨a3,m3,c3,rfl⟩:=hQ.shape;obtain⟨a4,m4,c4,rfl⟩:=hR.shape;clear hR;have hlq:=@PX n x;conv=>whnf
 refine cW (cU (GT:=fun _ J v F=>dm F (Nf J F) v (x+n / x)) (fun O J r=>Hz (rlo r oF) (hX.rel r oF) (hQ.rel r oF) be be) ?_);rintro O w5 v5 w6 r L Rd hp;replace G:=G.tr Rd;have hP:=hp.ep (S:=FF) r.cZ (iv:=(w5.heap.size,w6.heap.size)::iv2) aF;replace U:=U.cS (K:=(w5.heap.size,w6.heap.size)::iv2) r W L fun x E=>aD _ E;replace hX:=hX.cS (K:=(w5.heap.size,w6.heap.size)::iv2) r oF L fun x E=>aD _ E;clear r L hp Rd hQ;generalize (w5.heap.size,w6.heap.size)::iv2=Pu at*
 obtain⟨a5,m5,c5,rfl⟩:=hP.shape;have hlp:=He x (n / x);conv=>whnf
 refine cW (cU (GT:=fun _ J v F=>dm F (Nf J F) v ((x+n / x) / 2)) (fun O J r=>?_) ?_)
 .obtain⟨ls,k1,k2,k3⟩:=hP.rel r oF;have:=Me (b:=1) (rlo r oF) k1 (by have:=eJ k1.lm k2;rw[k3]at this;omega) bv;rw[k3]at this;exact this
 rintro O w7 v7 w8 r L Rd hp;replace G:=G.tr Rd;have hY:=hp.ep (S:=FF) r.cZ (iv:=(w7.heap.size,w8.heap.size)::Pu) aF;replace U:=U.cS (K:=(w7.heap.size,w8.heap.size)::Pu) r W L fun x E=>aD _ E;replace hX:=hX.cS (K:=(w7.heap.size,w8.heap.size)::Pu) r oF L fun x E=>aD _ E;clear r L hp Rd hP;generalize (w7.heap.size,w8.heap.size)::Pu=QD at*
 obtain⟨a7,m7,c7,rfl⟩:=hY.shape;obtain⟨hlt2,Qz⟩:=Ep h0 Qd;have Wa:=@Gl n x Qd;generalize (x+n / x) / 2=y at*
 conv=>whnf
 refine cW (cU (GT:=fun _ _ v _=>v=iV (qg y x)) (fun O J r=>JR (rlo r oF) (hY.rel r oF) (hX.rel r oF)) ?_);rintro O w9 v9 w10 r L Rd rfl;replace G:=G.tr Rd;replace hY:=hY.cS (K:=(w9.heap.size,w10.heap.size)::QD) r oF L fun x E=>aD _ E;replace U:=U.cS (K:=(w9.heap.size,w10.heap.size)::QD) r W L fun x E=>aD _ E;replace hX:=hX.cS (K:=(w9.heap.size,w10.heap.size)::QD) r oF L fun x E=>aD _ E;clear r L Rd;generalize (w9.heap.size,w10.heap.size)::QD=QH at*
 conv=>whnf
 apply bS<;>intro h
 .have h:x<=y:=Jf.1 (aJ h);conv=>whnf
  exact rtn G fun GE we re=>⟨x,⟨Wa h,QZ⟩,hX.out re oF⟩
 .have h:y<x:=by
   have I:¬qg y x≥0:=aL h;rw[Jf]at I;omega
  conv=>whnf
  intro GE we re
  exact⟨((_,y),QH,we),⟨G.tr re.cj,U.rel re W,hY.rel re oF,Qz,aR (fP (Nat.le_of_lt h)) RL,hlt2⟩,
   Sub.gen [] re trivial ⟨rfl,rfl,trivial⟩ trivial (by simp[jn,SV.sc,At.sc]) d8 (fun lo N h=>h),h⟩
def Ms:Value:=.agg #[.bool false,nls,.bool false,nls]
theorem dm.num{nv:Value}(h:dm w S nv n):eS w S (.agg #[.bool false,nv]) (n:Int):=⟨nv,by rw[bI (show ¬((n:Int)<0) by omega)],h⟩
theorem xC{n:Int}(Y: -9223372036854775808<=n)(I:n<=9223372036854775807):ln n.natAbs<=2:=iH.2 (by show n.natAbs<4294967296^2;omega)
theorem aBI{r:Nat}(h:Bb n r):ln r<=ln n:=by
 refine fP ?_;rcases bH r with h0|h0
 .omega
 .have:=h.1;have I:=Nat.le_mul_of_pos_right r h0;omega
theorem Bi(n den:Int)(w:World)(Ss: -9223372036854775808<=n)(UM:n<=9223372036854775807)(QM: -9223372036854775808<=den)(QJ:den<=9223372036854775807):
  eL PG FS.mR #[iV n,iV den] w (eY w fun v' F=>((n<0\/den<1\/1000000<den)/\v'= .tuple #[Ms,iV 2])\/
   (¬(n<0\/den<1\/1000000<den)/\∃r q,Bb (n*den*den).natAbs r/\v'= .tuple #[q,iV 0]/\dI F (Nf w F) q (Rat.divInt r den))):=by
 have G:=bR w;refine vE ce ?_;conv=>whnf
 apply bS<;>intro Y
 .have Y:=aJ Y;conv=>whnf
  exact rtn G fun GE we re=>.inl ⟨be,rfl⟩
 have Y:=aL Y;conv=>whnf
 apply bS<;>intro I
 .have I:=aJ I;conv=>whnf
  exact rtn G fun GE we re=>.inl ⟨be,rfl⟩
 have I:=aL I;conv=>whnf
 apply bS<;>intro h3
 .have h3:=aJ h3;conv=>whnf
  exact rtn G fun GE we re=>.inl ⟨be,rfl⟩
 have h3:=aL h3;have Ts:=@xC n be be;have Qu:=@xC den be be;have RQ:=dQ n den;have Ri:=dQ (n*den) den;conv=>whnf
 refine cW (cE G (pR eS den) (fun O J r=>lY den J be be) ?_);rintro O _ _ _ Pv r L G h_ U;have hD:=U.cV (nw r h_);clear r;obtain⟨A0,A1,A2,A3,rfl⟩:=hD.shape;conv=>whnf
 refine dP [.x 0,.x 2,.x 4,.x 1,.x 3,.x 5,.x 6,.x 7,.x 8] ?_;conv=>whnf
 refine cE G (pR eS n) (fun O J r=>lY n J be be) ?_;rintro O _ _ _ iv2 r L G h_ U;replace hD:=hD.cS r oF L (mC h_);have hN:=U.cV (nw r h_);clear r;obtain⟨C0,C1,C2,C3,rfl⟩:=hN.shape;conv=>whnf
 refine cE G (pR eS (n*den)) (fun O J r=>gp (rlo r oF) (hN.rel r oF) (hD.rel r oF) be be) ?_;rintro O _ _ _ Pu r L G h_ U;replace hD:=hD.cS r oF L (mC h_);clear hN;have hA:=U.cV (nw r h_);clear r;obtain⟨E0,E1,E2,E3,rfl⟩:=hA.shape;conv=>whnf
 refine cE G (pR eS (n*den*den)) (fun O J r=>gp (rlo r oF) (hA.rel r oF) (hD.rel r oF) be be) ?_;rintro O _ _ _ QD r L G h_ U;replace hD:=hD.cS r oF L (mC h_);clear hA;have hB:=U.cV (nw r h_);clear r;obtain⟨F0,F1,F2,F3,rfl⟩:=hB.shape;conv=>whnf
 have Vr:=hB.nat.2;clear hB;refine cE G (fun _ J v F=>∃r,Bb (n*den*den).natAbs r/\dm F (Nf J F) v r) (fun O J r=>aAJ (rlo r oF) (Vr.rel r oF) be) ?_;rintro O _ _ _ QH r L G h_ ⟨rt,hrt,Sk⟩;replace hD:=hD.cS r oF L (mC h_);clear Vr;have hK:=Sk.cV (nw r h_);clear r;obtain⟨s5_0a,s5_0b,s5_0c,rfl⟩:=hK.shape;conv=>whnf
 have hls:=aBI hrt;have hrn:ln ((rt:Int)).natAbs=ln rt:=rfl;refine cW (cE G (pR cz (Rat.divInt rt den)) (fun O J r=>xn (rlo r oF) (x:=(rt:Int)) (hK.rel r oF).num (hD.rel r oF) be be be) ?_);rintro O _ _ _ Qe r L G h_ U;clear hD;clear hK;have hF:=U.cV (nw r h_);clear r;have QO:=lK (a:=(rt:Int)) (b:=den) be;obtain⟨G0,G1,G2,G3,G4,G5,G6,G7,rfl⟩:=hF.shape;conv=>whnf
 refine cW (cE G (pR dI (Rat.divInt rt den)) (fun O J r=>zc (rlo r oF) (hF.rel r oF) be) ?_);rintro O _ _ _ RS r L G h_ U;clear hF;have hC:=U.cV (nw r h_);clear r;obtain⟨I0,I1,I2,I3,I4,I5,I6,I7,rfl⟩:=hC.shape;conv=>whnf
 exact rtn G fun GE we re=>.inr ⟨be,rt,_,hrt,rfl,hC.out re oF⟩
theorem j7(bs:List Nat):(strOf bs).size=bs.length:=by
 show(strOf bs).data.size=_;rw[lI];simp
theorem Kr{i:Nat}(h:bs[i]? =some b):(strOf bs)[i]? =some (UInt8.ofNat b):=by
 have Y:(strOf bs).data[i]? =some (UInt8.ofNat b):=by rw[lI];simp[h]
 have N:i<(strOf bs).size:=by rw[j7];exact(aH.1 h).1
 rw[getElem?_pos (strOf bs) i N];rw[getElem?_pos (strOf bs).data i N]at Y;exact Y
theorem IM(b:Nat)(r:List Nat):(strOf (b::r)).extract 1 (strOf (b::r)).size=strOf r:=by
 apply ByteArray.ext;rw[ByteArray.data_extract,j7,lI,lI];apply Array.ext';simp[bX]
theorem zg:PG.underlying T.string=some .string:=(hτ T.string _ rfl).i3 rfl
theorem u8n(h:b<256):(UInt8.ofNat b).toNat=b:=by simp;omega
theorem IN(bs:List Nat)(w:World)(A:∀b∈bs,b<256)(hl:bs.length<=maxLen):
  eL PG FS.mG #[.string (strOf bs),.int .u8 48] w (eY w fun v _=>v= .string (strOf (bs.dropWhile (· ==48)))):=by
 unfold maxLen at hl;refine pc ce ?_;conv=>whnf
 refine⟨List Nat×World,fun z=>⟨[(0,.o (.v (.string (strOf z.1)))),(1,.o (.v (.int .u8 48)))],[],0,[],z.2⟩,fun z=>z.1.length,
  fun z=>Bq w z.2/\(∀b∈z.1,b<256)/\z.1.length<=9223372036854775807/\z.1.dropWhile (· ==48)=bs.dropWhile (· ==48),?_,?_⟩
 .intro O J r;exact⟨(bs,J),⟨r.cj,A,hl,rfl⟩,Sub.gen [] r trivial ⟨rfl,rfl,trivial⟩ trivial (by simp[jn,SV.sc,At.sc]) d8 (fun lo N h=>h)⟩
 clear A hl;rintro⟨cs,w1⟩ ⟨G,A,hl,hd⟩;dsimp only at G A hl hd ⊢
 cases cs with
 |nil=>
  conv=>whnf
  exact rtn G fun GE we re=>by rw[<-hd];rfl
 |cons c r=>
  have hc:=A c ce;conv=>whnf
  apply bS<;>intro h
  .clear h;conv=>whnf
   refine lH zg d8 d8 bv (Kr (bs:=c::r) (i:=0) (b:=c) d8) (fun O F r2=>?_);rw[u8n hc];replace G:=G.tr r2.cj;clear r2;conv=>whnf
   apply bS<;>intro h
   .have h:c=48:=by have:=eq_of_beq h;omega
    subst h;conv=>whnf
    refine⟨⟨be,by rw[j7];simp;omega,be⟩,?_⟩;conv=>whnf
    intro I8 w3 r3;have ht:=IM 48 r
    exact⟨(r,w3),⟨G.tr r3.cj,fun b S3=>A b (aD _ S3),by dsimp only;simp at hl;omega,by rw[<-hd];rfl⟩,
     Sub.gen [] r3 trivial ⟨by rw[<-ht];rfl,rfl,trivial⟩ trivial (by simp[jn,SV.sc,At.sc]) d8 (fun lo N h=>h),ce⟩
   .have h:c≠48:=fun e=>by subst e;exact absurd h bv
    conv=>whnf
    intro GE we re;refine⟨_,rfl,G.tr re.cj,?_⟩;rw[<-hd,List.dropWhile_cons,aI (by simpa using h)];rfl
  .exact absurd (aL h) (by rw[j7];simp)
theorem Br(bs:List Nat)(w:World)(A:∀b∈bs,b<256)(hl:bs.length<=maxLen):
  eL PG FS.pS #[.string (strOf bs),.string ⟨#[48]⟩] w (eY w fun v _=>v= .string (strOf (bs.dropWhile (· ==48)))):=by
 have key:=fun J=>IN bs J A hl;have QF:strOf bs=⟨#[]⟩->bs=[]:=fun h=>by
  have:(strOf bs).data.toList=[]:=by rw[h]
  rw[lI]at this;simpa using this
 have XD:strOf bs=⟨#[]⟩->strOf (bs.dropWhile (· ==48))=⟨#[]⟩:=fun h=>by rw[QF h];rfl
 generalize strOf (bs.dropWhile (· ==48))=out at*
 generalize strOf bs=s at*
 clear A hl QF;refine uB ce ?_;conv=>whnf
 apply bS<;>intro h
 .have h:s=⟨#[]⟩:=by
   have h:=eq_of_beq h;apply ByteArray.ext;apply Array.ext';exact h
  conv=>whnf
  intro GE we re;exact⟨_,rfl,re.cj,by rw[XD h,h];rfl⟩
 .clear h;conv=>whnf
  refine lH zg d8 d8 bv (b:=48) d8 (fun O F r2=>?_);have G:=r2.cj;clear r2;conv=>whnf
  refine lH zg d8 d8 bv (b:=48) d8 (fun O w3 r2=>?_);replace G:=G.tr r2.cj;clear r2;conv=>whnf
  refine cW (cU (GT:=fun _ _ v _=>v= .string out) (fun O J r=>key J) ?_);rintro O wa v wb r L Q2 rfl;replace G:=G.tr Q2;clear r L;conv=>whnf
  exact rtn G fun GE we re=>rfl
theorem IP(a:Option Addr)(c:Nat)(w:World):eL PG FS.qS #[.slice a 0 c,.string ⟨#[]⟩] w (eY w fun v _=>v= .string ⟨#[]⟩):=by
 refine rF ce ?_;conv=>whnf
 intro GE we re;exact⟨_,rfl,re.cj,rfl⟩
theorem Ks(W:Old S w)(h:fe w S 1 v [.string s] 1):eL PG FS.qS #[v,.string ⟨#[]⟩] w (eY w fun v _=>v= .string s):=by
 obtain⟨-,-,-,a,c,rfl,hc,QA⟩:=h;obtain⟨ad,rfl,Y,I⟩:=QA 0 _ rfl;refine rF ce ?_;conv=>whnf
 refine⟨ad,rfl,be,?_⟩;conv=>whnf
 refine⟨.string s,fun O J r=>by simpa using gN W Bel.refl r Y I,?_⟩;conv=>whnf
 intro GE we re;exact⟨_,rfl,re.cj,rfl⟩
def nine(n:Nat):List Nat:=(List.range 9).map fun j=>48+n / 10^(8-j) % 10
def HB(n:Nat):List Nat:=if n=0 then [48]else(nine n).dropWhile (· ==48)
def iA(k n:Nat):List At:=(List.range 9).map fun j=>At.v (.int .u8 ((if 9<=j+k then 48+n / 10^(8-j) % 10 else 0:Nat):Int))
theorem dropWhile_nil{p:Nat->Bool}:∀{l:List Nat},l.dropWhile p=[]->∀x∈l,p x=true
 |[],_,x,E=>by cases E
 |a::r,h,x,E=>by
  rw[List.dropWhile_cons]at h;split at h
  .rename_i ha;rcases List.mem_cons.1 E with rfl|E
   .exact ha
   .exact dropWhile_nil h x E
  .cases h
theorem OY(h0:n≠0)(h:n<1000000000):(nine n).dropWhile (· ==48)≠[]:=by
 intro e;have:∀x∈nine n,x=48:=by
  intro x E;have:=dropWhile_nil e x E;simpa using this
 simp only[nine,bE,List.mem_range,forall_exists_index,and_imp,forall_apply_eq_imp_iff₂]at this;have Y:=this 0 be;have I:=this 1 be;have h3:=this 2 be;have h4:=this 3 be;have h5:=this 4 be;have h6:=this 5 be;have h7:=this 6 be;have h8:=this 7 be;have h9:=this 8 be;simp only[Nat.reduceSub,Nat.reducePow]at Y I h3 h4 h5 h6 h7 h8 h9;omega
theorem OZ(n:Nat):∀b∈nine n,b<256:=by
 intro b A;simp only[nine,bE]at A;obtain⟨j,_,rfl⟩:=A;omega
end Go.Ex
namespace Go.Sx
open Go Go.Ex Go.Proofs
variable{cs:List Value}{O:Nat->Sx.eH}
theorem Rel.ku{H:Hp}{nx:Nat}{iv:Iv}{B:Nat}{w J:World}(r:Rel H nx iv B w O J){id t m sz:Nat}(h:dV H id=some (.vec t sz cs))(hm:cs.length=m*sz)(Tf:m<=maxLen)(hs:0<sz)(Y:∀u∈cs,u.oneCell'=true):
  fe J (fun g=>B<=g/\g<J.heap.size) sz ((At.w id m).den O) cs m:=by
 rcases r.vec id t sz _ h with⟨U,rfl⟩|⟨U,spare,A,hc,RO⟩
 .have UR:m=0:=by
   rcases bH m with h|h
   .exact h
   .have:=Nat.mul_pos h hs;simp at hm;omega
  subst UR;refine⟨Tf,ce,ce,none,0,by simp[At.den,U],lr,ce⟩
 .refine⟨Tf,hm,Y,some ⟨(O id).g,0,none⟩,(O id).cap,by simp[At.den,U],?_,fun j x E=>⟨_,rfl,r.low id _ h U,?_⟩⟩
  .have Y:(cs++spare).length=cs.length+spare.length:=aV;have I:m*sz<=(O id).cap*sz:=by omega
   exact Nat.le_of_mul_le_mul_right I hs
  .rw[dF,cell_of A,aS,aN (aH.1 E).1];exact E
end Go.Sx
namespace Go.Ex
open Go Go.Sx Go.Proofs
section
variable{S:Nat->Prop}
theorem qm{t b:Nat}(h:t<4294967296):IntKind.u32.wrap ((t:Int).tdiv (b:Int))=((t / b:Nat):Int):=by
 have Y:=Nat.div_le_self t b;rw[Int.tdiv_eq_ediv_of_nonneg be,<-Int.natCast_ediv];rw[jQ (Int.natCast_nonneg _)];omega
theorem IS{n k j:Nat}(h:j+k=8):(iA k n).set j (At.v (.int .u8 ((48+n / 10^k % 10:Nat):Int)))=iA (k+1) n:=by
 apply bA;intro i;by_cases N:i<9
 .by_cases R0:j=i
  .subst R0;rw[aQ (by simp[iA];omega)];simp[iA,N,show 9<=j+(k+1) by omega,show 8-j=k by omega]
  .rw[aZ R0];have:(9<=i+k)↔(9<=i+(k+1)):=by omega
   simp[iA,N,this]
 .rw[List.getElem?_eq_none (by simp[iA];omega),List.getElem?_eq_none (by simp[iA];omega)]
theorem Bu{w:World}{v:Value}{n:Nat}(W:Old S w)(h:dm w S v n)(U:n<1000000000):
  eL PG FS.pQ #[v] w (eY w fun v' _=>v'= .string (strOf (HB n))):=by
 have hnN:=h.arg [];obtain⟨a,m,c,rfl⟩:=h.shape;refine uA ce ?_;conv=>whnf
 refine⟨Bool×Value×Iv×World,fun z=>match z with
   |(false,v,iv,w1)=>⟨[(0,.o (.v v)),(3,sV none 0 0)],[],0,iv,w1⟩
   |(true,v,iv,w1)=>⟨[(0,.o (.v v)),(3,.o (.w 0 1))],[(0,.vec T.string 1 [.string (strOf (nine n))])],1,iv,w1⟩,
  fun z=>if z.1 then 0 else 1,fun z=>Bq w z.2.2.2/\dm z.2.2.2 (Cv S w.heap.size z.2.2.1) z.2.1 (if z.1 then 0 else n)/\(z.1=true->n≠0),?_,?_⟩
 .intro O J r;exact⟨(false,_,[],J),⟨r.cj,hnN.rel r W,ce⟩,Sub.gen [] r trivial ⟨rfl,rfl,trivial⟩ trivial (by simp[jn,SV.sc,At.sc]) d8 (fun lo N h=>h)⟩
 clear hnN h;rintro⟨b,v,iv,w1⟩ ⟨G,hv,Tz⟩;dsimp only at G hv Tz;obtain⟨p,rfl,Rv,SI⟩:=hv.la;have QQ:=eJ p.lm SI;rw[Rv]at QQ;have Yf:=ox QQ
 cases b
 .simp only[Bool.false_eq_true,if_false]at hv Rv QQ Yf;conv=>whnf
  apply bS<;>intro h
  .have h:0<n:=Yf.1 (by
    have:(p.ls.length:Int)>0:=aJ h
    omega)
   conv=>whnf
   refine cW (cU (GT:=fun _ J v F=>∃q,v= .tuple #[q,.int .u32 (n:Int)]/\dm F (Nf J F) q 0) (fun O J r=>?_) ?_)
   .obtain⟨ls,k1,k2,k3⟩:=hv.rel r W;have hl:=eJ k1.lm k2;rw[k3]at hl;have:=JT (b:=1000000000) (rlo r W) k1 (by have:=(iH (n:=n) (k:=1)).2 (show n<4294967296 by omega);omega) bv bv;rw[k3,bh U,Nat.div_eq_of_lt U]at this;exact this
   rintro O wa v1 wb r L Q2 ⟨q,rfl,hq⟩;replace G:=G.tr Q2;have hQ:=hq.ep (S:=S) r.cZ (iv:=(wa.heap.size,wb.heap.size)::iv) aF;clear r L hq hv Q2;generalize (wa.heap.size,wb.heap.size)::iv=iv2 at*
   obtain⟨a1,m1,c1,rfl⟩:=hQ.shape;conv=>whnf
   refine⟨Nat×World,fun z=>⟨[(0,sV p.a p.ls.length p.c),(3,sV none 0 0),(4,sV a1 m1 c1),(5,.o (.v (.int .u32 ((n / 10^z.1:Nat):Int)))),(6,pP 0 0),(7,.o (.v (iV (8-(z.1:Int)))))],[(0,.box T.M4 (iA z.1 n))],1,iv2,z.2⟩,
    fun z=>9-z.1,fun z=>z.1<=9/\Bq w z.2/\dm z.2 (Cv S w.heap.size iv2) (.slice a1 m1 c1) 0,?_,?_⟩
   .intro O J r;exact⟨(0,J),⟨ce,G.tr r.cj,hQ.rel r W⟩,Sub.gen [] r ⟨rfl,trivial⟩ ⟨rfl,rfl,rfl,by simp;rfl,rfl,rfl,trivial⟩ (by simp[DA,ja.scopd,iA,At.sc]) (by simp[jn,SV.sc,At.sc]) d8 (fun lo N h=>h)⟩
   clear G hQ;rintro⟨k,F⟩ ⟨R,G,hQ⟩;dsimp only at R G hQ ⊢;have YM:k<9\/k=9:=by omega
   rcases YM with hk9|rfl
   .have hdiv:n / 10^k / 10=n / 10^(k+1):=by rw[Nat.div_div_eq_div_mul,Nat.pow_succ]
    have hle:=Nat.div_le_self n (10^k);have RM:∀j,j+k=8->(iA k n).set j (At.v (.int .u8 ((48+n / 10^k % 10:Nat):Int)))=iA (k+1) n:=fun j hj=>IS hj;generalize n / 10^k=x at*
    have hcases:k=0\/k=1\/k=2\/k=3\/k=4\/k=5\/k=6\/k=7\/k=8:=by omega
    rcases hcases with rfl|rfl|rfl|rfl|rfl|rfl|rfl|rfl|rfl
    .conv=>whnf
     refine⟨bv,((x % 10:Nat):Int),mT x 10,?_⟩;conv=>whnf
     refine⟨((48+x % 10:Nat):Int),by rw[jQ]<;>omega,?_⟩;conv=>whnf
     refine⟨((48+x % 10:Nat):Int),je be,?_⟩;conv=>whnf
     refine⟨⟨bv,bv⟩,?_⟩;conv=>whnf
     refine⟨bv,((x / 10:Nat):Int),qm be,?_⟩;conv=>whnf
     refine⟨8-((0+1:Nat):Int),bv,?_⟩;conv=>whnf
     intro I8 w3 r3;have hs:=RM 8 rfl;exact⟨(0+1,w3),⟨by dsimp only;omega,G.tr r3.cj,hQ.rel r3 W⟩,Sub.gen [] r3 ⟨by rw[<-hs];rfl,trivial⟩ ⟨rfl,rfl,rfl,by rw[<-hdiv];rfl,rfl,rfl,trivial⟩ (by simp[DA,ja.scopd,iA,At.sc]) (by simp[jn,SV.sc,At.sc]) d8 (fun lo N h=>h),by dsimp only;omega⟩
    .conv=>whnf
     refine⟨bv,((x % 10:Nat):Int),mT x 10,?_⟩;conv=>whnf
     refine⟨((48+x % 10:Nat):Int),by rw[jQ]<;>omega,?_⟩;conv=>whnf
     refine⟨((48+x % 10:Nat):Int),je be,?_⟩;conv=>whnf
     refine⟨⟨bv,bv⟩,?_⟩;conv=>whnf
     refine⟨bv,((x / 10:Nat):Int),qm be,?_⟩;conv=>whnf
     refine⟨8-((1+1:Nat):Int),bv,?_⟩;conv=>whnf
     intro I8 w3 r3;have hs:=RM 7 rfl;exact⟨(1+1,w3),⟨by dsimp only;omega,G.tr r3.cj,hQ.rel r3 W⟩,Sub.gen [] r3 ⟨by rw[<-hs];rfl,trivial⟩ ⟨rfl,rfl,rfl,by rw[<-hdiv];rfl,rfl,rfl,trivial⟩ (by simp[DA,ja.scopd,iA,At.sc]) (by simp[jn,SV.sc,At.sc]) d8 (fun lo N h=>h),by dsimp only;omega⟩
    .conv=>whnf
     refine⟨bv,((x % 10:Nat):Int),mT x 10,?_⟩;conv=>whnf
     refine⟨((48+x % 10:Nat):Int),by rw[jQ]<;>omega,?_⟩;conv=>whnf
     refine⟨((48+x % 10:Nat):Int),je be,?_⟩;conv=>whnf
     refine⟨⟨bv,bv⟩,?_⟩;conv=>whnf
     refine⟨bv,((x / 10:Nat):Int),qm be,?_⟩;conv=>whnf
     refine⟨8-((2+1:Nat):Int),bv,?_⟩;conv=>whnf
     intro I8 w3 r3;have hs:=RM 6 rfl;exact⟨(2+1,w3),⟨by dsimp only;omega,G.tr r3.cj,hQ.rel r3 W⟩,Sub.gen [] r3 ⟨by rw[<-hs];rfl,trivial⟩ ⟨rfl,rfl,rfl,by rw[<-hdiv];rfl,rfl,rfl,trivial⟩ (by simp[DA,ja.scopd,iA,At.sc]) (by simp[jn,SV.sc,At.sc]) d8 (fun lo N h=>h),by dsimp only;omega⟩
    .conv=>whnf
     refine⟨bv,((x % 10:Nat):Int),mT x 10,?_⟩;conv=>whnf
     refine⟨((48+x % 10:Nat):Int),by rw[jQ]<;>omega,?_⟩;conv=>whnf
     refine⟨((48+x % 10:Nat):Int),je be,?_⟩;conv=>whnf
     refine⟨⟨bv,bv⟩,?_⟩;conv=>whnf
     refine⟨bv,((x / 10:Nat):Int),qm be,?_⟩;conv=>whnf
     refine⟨8-((3+1:Nat):Int),bv,?_⟩;conv=>whnf
     intro I8 w3 r3;have hs:=RM 5 rfl;exact⟨(3+1,w3),⟨by dsimp only;omega,G.tr r3.cj,hQ.rel r3 W⟩,Sub.gen [] r3 ⟨by rw[<-hs];rfl,trivial⟩ ⟨rfl,rfl,rfl,by rw[<-hdiv];rfl,rfl,rfl,trivial⟩ (by simp[DA,ja.scopd,iA,At.sc]) (by simp[jn,SV.sc,At.sc]) d8 (fun lo N h=>h),by dsimp only;omega⟩
    .conv=>whnf
     refine⟨bv,((x % 10:Nat):Int),mT x 10,?_⟩;conv=>whnf
     refine⟨((48+x % 10:Nat):Int),by rw[jQ]<;>omega,?_⟩;conv=>whnf
     refine⟨((48+x % 10:Nat):Int),je be,?_⟩;conv=>whnf
     refine⟨⟨bv,bv⟩,?_⟩;conv=>whnf
     refine⟨bv,((x / 10:Nat):Int),qm be,?_⟩;conv=>whnf
     refine⟨8-((4+1:Nat):Int),bv,?_⟩;conv=>whnf
     intro I8 w3 r3;have hs:=RM 4 rfl;exact⟨(4+1,w3),⟨by dsimp only;omega,G.tr r3.cj,hQ.rel r3 W⟩,Sub.gen [] r3 ⟨by rw[<-hs];rfl,trivial⟩ ⟨rfl,rfl,rfl,by rw[<-hdiv];rfl,rfl,rfl,trivial⟩ (by simp[DA,ja.scopd,iA,At.sc]) (by simp[jn,SV.sc,At.sc]) d8 (fun lo N h=>h),by dsimp only;omega⟩
    .conv=>whnf
     refine⟨bv,((x % 10:Nat):Int),mT x 10,?_⟩;conv=>whnf
     refine⟨((48+x % 10:Nat):Int),by rw[jQ]<;>omega,?_⟩;conv=>whnf
     refine⟨((48+x % 10:Nat):Int),je be,?_⟩;conv=>whnf
     refine⟨⟨bv,bv⟩,?_⟩;conv=>whnf
     refine⟨bv,((x / 10:Nat):Int),qm be,?_⟩;conv=>whnf
     refine⟨8-((5+1:Nat):Int),bv,?_⟩;conv=>whnf
     intro I8 w3 r3;have hs:=RM 3 rfl;exact⟨(5+1,w3),⟨by dsimp only;omega,G.tr r3.cj,hQ.rel r3 W⟩,Sub.gen [] r3 ⟨by rw[<-hs];rfl,trivial⟩ ⟨rfl,rfl,rfl,by rw[<-hdiv];rfl,rfl,rfl,trivial⟩ (by simp[DA,ja.scopd,iA,At.sc]) (by simp[jn,SV.sc,At.sc]) d8 (fun lo N h=>h),by dsimp only;omega⟩
    .conv=>whnf
     refine⟨bv,((x % 10:Nat):Int),mT x 10,?_⟩;conv=>whnf
     refine⟨((48+x % 10:Nat):Int),by rw[jQ]<;>omega,?_⟩;conv=>whnf
     refine⟨((48+x % 10:Nat):Int),je be,?_⟩;conv=>whnf
     refine⟨⟨bv,bv⟩,?_⟩;conv=>whnf
     refine⟨bv,((x / 10:Nat):Int),qm be,?_⟩;conv=>whnf
     refine⟨8-((6+1:Nat):Int),bv,?_⟩;conv=>whnf
     intro I8 w3 r3;have hs:=RM 2 rfl;exact⟨(6+1,w3),⟨by dsimp only;omega,G.tr r3.cj,hQ.rel r3 W⟩,Sub.gen [] r3 ⟨by rw[<-hs];rfl,trivial⟩ ⟨rfl,rfl,rfl,by rw[<-hdiv];rfl,rfl,rfl,trivial⟩ (by simp[DA,ja.scopd,iA,At.sc]) (by simp[jn,SV.sc,At.sc]) d8 (fun lo N h=>h),by dsimp only;omega⟩
    .conv=>whnf
     refine⟨bv,((x % 10:Nat):Int),mT x 10,?_⟩;conv=>whnf
     refine⟨((48+x % 10:Nat):Int),by rw[jQ]<;>omega,?_⟩;conv=>whnf
     refine⟨((48+x % 10:Nat):Int),je be,?_⟩;conv=>whnf
     refine⟨⟨bv,bv⟩,?_⟩;conv=>whnf
     refine⟨bv,((x / 10:Nat):Int),qm be,?_⟩;conv=>whnf
     refine⟨8-((7+1:Nat):Int),bv,?_⟩;conv=>whnf
     intro I8 w3 r3;have hs:=RM 1 rfl;exact⟨(7+1,w3),⟨by dsimp only;omega,G.tr r3.cj,hQ.rel r3 W⟩,Sub.gen [] r3 ⟨by rw[<-hs];rfl,trivial⟩ ⟨rfl,rfl,rfl,by rw[<-hdiv];rfl,rfl,rfl,trivial⟩ (by simp[DA,ja.scopd,iA,At.sc]) (by simp[jn,SV.sc,At.sc]) d8 (fun lo N h=>h),by dsimp only;omega⟩
    .conv=>whnf
     refine⟨bv,((x % 10:Nat):Int),mT x 10,?_⟩;conv=>whnf
     refine⟨((48+x % 10:Nat):Int),by rw[jQ]<;>omega,?_⟩;conv=>whnf
     refine⟨((48+x % 10:Nat):Int),je be,?_⟩;conv=>whnf
     refine⟨⟨bv,bv⟩,?_⟩;conv=>whnf
     refine⟨bv,((x / 10:Nat):Int),qm be,?_⟩;conv=>whnf
     refine⟨8-((8+1:Nat):Int),bv,?_⟩;conv=>whnf
     intro I8 w3 r3;have hs:=RM 0 rfl;exact⟨(8+1,w3),⟨by dsimp only;omega,G.tr r3.cj,hQ.rel r3 W⟩,Sub.gen [] r3 ⟨by rw[<-hs];rfl,trivial⟩ ⟨rfl,rfl,rfl,by rw[<-hdiv];rfl,rfl,rfl,trivial⟩ (by simp[DA,ja.scopd,iA,At.sc]) (by simp[jn,SV.sc,At.sc]) d8 (fun lo N h=>h),by dsimp only;omega⟩
   .have hn9:iA 9 n=(nine n).map fun b:Nat=>At.v (.int .u8 (b:Int)):=by
     apply bA;intro i;by_cases N:i<9
     .simp[iA,nine,N]
     .rw[List.getElem?_eq_none (by simp[iA];omega),List.getElem?_eq_none (by simp[nine];omega)]
    rw[hn9];have hl9:(nine n).length=9:=by simp[nine]
    generalize nine n=bs at*
    clear hn9;conv=>whnf
    refine Nl (e:=T.uint8) (bs:=bs) ((hτ T.aAA _ rfl).i4 rfl) ((hτ T.uint8 _ rfl).i1 rfl) zg d8 d8 hl9 (fun O w3 r=>?_);replace G:=G.tr r.cj;replace hQ:=hQ.rel r W;clear r;generalize strOf bs=str at*
    conv=>whnf
    refine .inl ?_;conv=>whnf
    refine⟨[],rfl,ce,fun O J r h0=>absurd h0 bv,?_⟩;conv=>whnf
    refine⟨rfl,bv,bv,?_⟩;conv=>whnf
    intro I8 w3 r3;exact⟨(true,.slice a1 m1 c1,iv2,w3),⟨G.tr r3.cj,hQ.rel r3 W,fun _=>be⟩,sbgn [(0,2)] r3,ce⟩
  .have h:n=0:=by
    have:¬(p.ls.length:Int)>0:=aL h;omega
   subst h;conv=>whnf
   refine cW (cU (GT:=fun _ _ v _=>v= .string ⟨#[]⟩) (fun O J r=>IP none 0 J) ?_);rintro O wa v wb r L A rfl;replace G:=G.tr A;clear r L;conv=>whnf
   refine cW (cU (GT:=fun _ _ v _=>v= .string ⟨#[]⟩) (fun O J r=>Br [] J ce bv) ?_);rintro O wa v wb r L A rfl;replace G:=G.tr A;clear r L;conv=>whnf
   exact rtn G fun GE we re=>rfl
 .simp only[if_true]at hv Rv QQ Yf;have hz:p.ls.length=0:=by omega
  have Ww:=Tz rfl;have Po:(strOf ((nine n).dropWhile (· ==48))).data.toList≠[]:=by
   rw[lI];simpa using OY Ww U
  have XD:HB n=(nine n).dropWhile (· ==48):=aI Ww;have key:=fun J=>Br (nine n) J (OZ n) (by simp[nine];decide);rw[XD];clear XD;generalize strOf ((nine n).dropWhile (· ==48))=out at*
  generalize strOf (nine n)=str at*
  rw[hz];conv=>whnf
  refine cW (cU (GT:=fun _ _ v _=>v= .string str) (fun O J r=>?_) ?_)
  .exact Ks (S:=fun g=>w.heap.size<=g/\g<J.heap.size) (fun g V=>V.2) (r.ku (id:=0) (sz:=1) (m:=1) rfl rfl bv bv (by simp[Value.oneCell']))
  rintro O wa v wb r L A rfl;replace G:=G.tr A;clear r L;conv=>whnf
  refine cW (cU (GT:=fun _ _ v _=>v= .string out) (fun O J r=>key J) ?_);rintro O wa v wb r L A rfl;replace G:=G.tr A;clear r L;conv=>whnf
  apply bS<;>intro h
  .exact absurd (eq_of_beq h) Po
  .conv=>whnf
   exact rtn G fun GE we re=>rfl
end
variable{Z:List (List Value)}{qs:List Rat}{cs xs:List Value}{i j n:Nat}{S:Nat->Prop}{O:Nat->Sx.eH}{q:Rat}{f:Rat->Rat}{v:Value}{w:World}
def signed:Bool->ByteArray->ByteArray
 |true,s=>⟨#[45]⟩++s
 |false,s=>s
def Ew(q:Rat):ByteArray:=signed (decide (q.num<0)) (strOf (HB q.num.natAbs))
def LU(q:Rat):ByteArray:=match decide (q.den=1)with
 |true=>Ew q
 |false=>Ew q++(⟨#[47]⟩++strOf (HB q.den))
theorem Ey(n:Nat):(HB n).length<=9:=by
 unfold HB;split
 .decide
 .exact aR (List.Sublist.length_le (List.dropWhile_sublist _)) (by simp[nine])
theorem Ku(q:Rat):(Ew q).size<=10:=by
 have Y:=Ey q.num.natAbs;unfold Ew
 cases decide (q.num<0)
 .show(strOf _).size<=10;rw[j7];omega
 .show(⟨#[45]⟩++strOf _:ByteArray).size<=10;rw[ByteArray.size_append,j7];show 1+_<=10;omega
theorem aAR(W:Old S w)(hf:cz w S v q)(U:q.num.natAbs<1000000000)(hd:q.den<1000000000):
  eL PG FS.me #[v] w (eY w fun v' _=>v'= .string (LU q)):=by
 have G:=bR w;replace hf:=hf.cV (S':=Cv S w.heap.size []) fun _ h=>.inl h;obtain⟨b1,a1,n1,c1,b2,a2,n2,c2,rfl⟩:=hf.shape;have Ui:=hf.num.nat;have RI:=hf.den;clear hf;obtain⟨Sg,Ui⟩:=Ui;have Tn:=Ey q.num.natAbs;have Rt:=Ey q.den;have hts:=Ku q;have hA:Ew q=signed b1 (strOf (HB q.num.natAbs)):=by rw[Sg];rfl
 have XS:=j7 (HB q.num.natAbs);have TO:=j7 (HB q.den);refine qW ce ?_;conv=>whnf
 refine cW (cE G (pE (.string (strOf (HB q.num.natAbs)))) (fun O J r=>Bu (rlo r W) (Ui.rel r W) U) ?_);rintro O _ _ _ Pv r L G h_ rfl;clear Ui;replace RI:=RI.cS r W L (mC h_);clear r;conv=>whnf
 generalize strOf (HB q.num.natAbs)=s1 at*
 have hln1:ln q.den<=1:=iH.2 (show q.den<4294967296 by omega)
 cases b1
 .conv=>whnf
  refine dP (idO 5) ?_;conv=>whnf
  refine cE G (pR eS 1) (fun O J r=>lY 1 J bv bv) ?_;rintro O Qq v2 QT iv2 r L G h_ U;replace RI:=RI.cS r W L (mC h_);have hO:=U.cV (nw r h_);clear r U;obtain⟨A0,A1,A2,A3,rfl⟩:=hO.shape;conv=>whnf
  refine cE G (pE (iV ((q.den:Int)-1).sign)) (fun O J r=>B7 (rlo r W) (RI.rel r W) ((hO.rel r oF).cV fun g V=>V.elim (fun k=>k.elim) .inr) (aR hln1 bv) bv) ?_;rintro O Qo v3 Qc Pu r L G h_ rfl;replace RI:=RI.cS r W L (mC h_);clear hO;clear r;conv=>whnf
  apply bS<;>intro h
  .have h:q.den≠1:=fun e=>by rw[e]at h;exact absurd h bv
   have YN:=RI.nat.2;clear RI;conv=>whnf
   refine cW (cE G (pE (.string (strOf (HB q.den)))) (fun O J r=>Bu (rlo r W) (YN.rel r W) hd) ?_);rintro O Rl v4 R4 QD r L G h_ rfl;clear YN;clear r;conv=>whnf
   have ht:LU q=Ew q++(⟨#[47]⟩++strOf (HB q.den)):=by unfold LU;rw[bI h]
   rw[ht,hA];clear ht hA;generalize strOf (HB q.den)=s2 at*
   refine⟨by show 1+s2.size<=maxLen;unfold maxLen;omega,?_⟩;conv=>whnf
   refine⟨by simp only[ByteArray.size_append];have k1:(ByteArray.mk #[45]).size=1:=rfl;have k2:(ByteArray.mk #[47]).size=1:=rfl;unfold maxLen;omega,?_⟩;conv=>whnf
   exact rtn G fun GE we re=>rfl
  .have h:q.den=1:=by
    have h0:((q.den:Int)-1).sign=0:=by
     have Y:(((q.den:Int)-1).sign==0)=true:=by simpa using h
     exact eq_of_beq Y
    have:=bo.1 h0;omega
   have ht:LU q=Ew q:=by unfold LU;rw[bg h]
   rw[ht,hA];clear ht hA;conv=>whnf
   exact rtn G fun GE we re=>rfl
 .conv=>whnf
  refine⟨by show 1+s1.size<=maxLen;unfold maxLen;omega,?_⟩;conv=>whnf
  refine dP (idO 5) ?_;conv=>whnf
  refine cE G (pR eS 1) (fun O J r=>lY 1 J bv bv) ?_;rintro O _ _ _ iv2 r L G h_ U;replace RI:=RI.cS r W L (mC h_);have hO:=U.cV (nw r h_);clear r U;obtain⟨A0,A1,A2,A3,rfl⟩:=hO.shape;conv=>whnf
  refine cE G (pE (iV ((q.den:Int)-1).sign)) (fun O J r=>B7 (rlo r W) (RI.rel r W) ((hO.rel r oF).cV fun g V=>V.elim (fun k=>k.elim) .inr) (aR hln1 bv) bv) ?_;rintro O _ _ _ Pu r L G h_ rfl;replace RI:=RI.cS r W L (mC h_);clear hO;clear r;conv=>whnf
  apply bS<;>intro h
  .have h:q.den≠1:=fun e=>by rw[e]at h;exact absurd h bv
   have YN:=RI.nat.2;clear RI;conv=>whnf
   refine cW (cE G (pE (.string (strOf (HB q.den)))) (fun O J r=>Bu (rlo r W) (YN.rel r W) hd) ?_);rintro O _ _ _ QD r L G h_ rfl;clear YN;clear r;conv=>whnf
   have ht:LU q=Ew q++(⟨#[47]⟩++strOf (HB q.den)):=by unfold LU;rw[bI h]
   rw[ht,hA];clear ht hA;generalize strOf (HB q.den)=s2 at*
   refine⟨by show 1+s2.size<=maxLen;unfold maxLen;omega,?_⟩;conv=>whnf
   refine⟨by simp only[ByteArray.size_append];have k1:(ByteArray.mk #[45]).size=1:=rfl;have k2:(ByteArray.mk #[47]).size=1:=rfl;unfold maxLen;omega,?_⟩;conv=>whnf
   exact rtn G fun GE we re=>rfl
  .have h:q.den=1:=by
    have h0:((q.den:Int)-1).sign=0:=by
     have Y:(((q.den:Int)-1).sign==0)=true:=by simpa using h
     exact eq_of_beq Y
    have:=bo.1 h0;omega
   have ht:LU q=Ew q:=by unfold LU;rw[bg h]
   rw[ht,hA];clear ht hA;conv=>whnf
   exact rtn G fun GE we re=>rfl
theorem HC{x y:Int}(W:Old S w)(E:ky w S v x y)(RL:ln x.natAbs<=10000000000)(R9:ln y.natAbs<=10000000000)(U:(ratio x y).num.natAbs<1000000000)(hd:(ratio x y).den<1000000000):
  eL PG FS.qP #[v] w (eY w fun v' _=>v'= .string (LU (ratio x y))):=by
 have G:=bR w;replace E:=E.cV (S':=Cv S w.heap.size []) fun _ h=>.inl h;obtain⟨b1,a1,n1,c1,b2,a2,n2,c2,rfl⟩:=E.shape;refine yz ce ?_;conv=>whnf
 refine cW (cE G (pR cz (ratio x y)) (fun O J r=>zd (rlo r W) (E.rel r W) be be) ?_);rintro O _ _ _ Pv r L G h_ U;clear E;have hF:=U.cV (nw r h_);clear r U;obtain⟨A0,A1,A2,A3,A4,A5,A6,A7,rfl⟩:=hF.shape;conv=>whnf
 refine cW (cE G (pE (.string (LU (ratio x y)))) (fun O J r=>aAR (rlo r oF) (hF.rel r oF) U hd) ?_);rintro O _ _ _ iv2 r L G h_ rfl;clear hF;clear r;conv=>whnf
 exact rtn G fun GE we re=>rfl
def jx(w:World)(S:Nat->Prop)(cs:List Value)(q:Rat):Prop:=∃b a n c b2 a2 n2 c2,cs=(rC b a n c b2 a2 n2 c2)/\cz w S (.agg #[.bool b,.slice a n c,.bool b2,.slice a2 n2 c2]) q
def Fr(w:World)(S:Nat->Prop)(Z:List (List Value))(qs:List Rat):Prop:=Z.length=qs.length/\∀(j:Nat) cs q,Z[j]? =some cs->qs[j]? =some q->jx w S cs q
section
variable{S S':Nat->Prop}{w F:World}{cs:List Value}{Z:List (List Value)}{q:Rat}{qs:List Rat}
theorem jx.cX(h:jx w S cs q)(R:∀g,S g->F.heap[g]? =w.heap[g]?):jx F S cs q:=by
 obtain⟨b,a,n,c,b2,a2,n2,c2,Y,I⟩:=h;exact⟨b,a,n,c,b2,a2,n2,c2,Y,I.cX R⟩
theorem jx.cV(h:jx w S cs q)(R:∀g,S g->S' g):jx w S' cs q:=by
 obtain⟨b,a,n,c,b2,a2,n2,c2,Y,I⟩:=h;exact⟨b,a,n,c,b2,a2,n2,c2,Y,I.cV R⟩
theorem jx.len(h:jx w S cs q):cs.length=4:=by obtain⟨_,_,_,_,_,_,_,_,rfl,_⟩:=h;rfl
theorem cz.four{b b2:Bool}{a a2:Option Addr}{c n2 c2:Nat}(h:cz w S (.agg #[.bool b,.slice a n c,.bool b2,.slice a2 n2 c2]) q):jx w S (rC b a n c b2 a2 n2 c2) q:=⟨_,_,_,_,_,_,_,_,rfl,h⟩
theorem Fr.cX(h:Fr w S Z qs)(R:∀g,S g->F.heap[g]? =w.heap[g]?):Fr F S Z qs:=⟨h.1,fun j cs q Y I=>(h.2 j cs q Y I).cX R⟩
theorem Fr.cV(h:Fr w S Z qs)(R:∀g,S g->S' g):Fr w S' Z qs:=⟨h.1,fun j cs q Y I=>(h.2 j cs q Y I).cV R⟩
theorem Fr.oy(h:Fr w S Z qs):∀cs∈Z,cs.length=4:=fun cs hc=>by
 obtain⟨j,hj⟩:=az hc;have hl:=(aH.1 hj).1;exact(h.2 j cs _ hj (aE (by rw[<-h.1];exact hl))).len
theorem Fr.one(h:Fr w S Z qs):∀u∈Z.flatten,u.oneCell'=true:=fun u hu=>by
 obtain⟨cs,hc,hu⟩:=List.mem_flatten.1 hu;obtain⟨j,hj⟩:=az hc;have hl:=(aH.1 hj).1;obtain⟨_,_,_,_,_,_,_,_,rfl,_⟩:=h.2 j cs _ hj (aE (by rw[<-h.1];exact hl));simp at hu;rcases hu with rfl|rfl|rfl|rfl<;>rfl
theorem Fr.set(h:Fr w S Z qs)(hq:jx w S cs q):Fr w S (Z.set j cs) (qs.set j q):=by
 refine⟨by simp[h.1],fun i c p Y I=>?_⟩;by_cases R0:j=i
 .subst R0;have hl:=(aH.1 Y).1;rw[aQ (by simpa using hl)]at Y;rw[aQ (by have:=h.1;simp at hl;omega)]at I;injection Y with Y;injection I with I;subst Y I;exact hq
 .rw[aZ R0]at Y I;exact h.2 i c p Y I
end
section
variable{S S':Nat->Prop}{H:Hp}{nx:Nat}{iv K:Iv}{B:Nat}{w J F:World}{O:Nat->Sx.eH}{Z:List (List Value)}{qs:List Rat}
theorem Fr.rel(h:Fr w (Cv S B iv) Z qs)(r:Rel H nx iv B w O J)(W:∀g,S g->g<B):Fr J (Cv S B iv) Z qs:=h.cX fun _ V=>rls r W V
theorem Fr.cS(h:Fr w (Cv S B iv) Z qs)(r:Rel H nx iv B w O J)(W:∀g,S g->g<B)(L:Ext J F)(hm:∀p,p∈iv->p∈K):Fr F (Cv S B K) Z qs:=
 ((h.rel r W).cX fun g V=>L.block g (rlo r W g V)).cV fun _ V=>V.mono hm
theorem Fr.arg(h:Fr w S Z qs)(iv:Iv):Fr w (Cv S w.heap.size iv) Z qs:=h.cV fun _ h=>.inl h
end
theorem fN:∀{Z:List (List Value)},(∀cs∈Z,cs.length=4)->Z.flatten.length=Z.length*4
 |[],_=>rfl
 |c::r,h=>by
  rw[List.flatten_cons,aV,fN (fun cs hc=>h cs (aD _ hc)),h c aF,bm];omega
theorem flat_get:∀{Z:List (List Value)} {j:Nat} {cs:List Value},(∀cs∈Z,cs.length=4)->Z[j]? =some cs->∀k u,cs[k]? =some u->Z.flatten[j*4+k]? =some u
 |[],j,cs,_,hj,_,_,_=>by simp at hj
 |c::r,0,cs,h,hj,k,u,hu=>by
  simp at hj;subst hj;rw[List.flatten_cons,aN (by have:=(aH.1 hu).1;omega)];simpa using hu
 |c::r,j+1,cs,h,hj,k,u,hu=>by
  have hc:=h c aF;rw[List.flatten_cons,aP be,hc,show(j+1)*4+k-4=j*4+k by omega];exact flat_get (fun cs hc=>h cs (aD _ hc)) (by simpa using hj) k u hu
theorem kq:∀{Z:List (List Value)} {j:Nat} {cs:List Value},(∀cs∈Z,cs.length=4)->j<Z.length->Z.flatten.take (j*4)++cs++Z.flatten.drop (j*4+4)=(Z.set j cs).flatten
 |[],j,cs,_,hj=>by simp at hj
 |c::r,0,cs,h,_=>by
  have hc:=h c aF;simp[List.flatten_cons,hc]
 |c::r,j+1,cs,h,hj=>by
  have hc:=h c aF
  rw[List.flatten_cons,show(j+1)*4=c.length+j*4 by omega,List.take_length_add_append,show c.length+j*4+4=c.length+(j*4+4) by omega,List.drop_length_add_append,List.set_cons_succ,List.flatten_cons,
   <-kq (fun cs hc=>h cs (aD _ hc)) (by simpa using hj),bJ,bJ,bJ]
abbrev Out(B:Nat)(iv:Iv):Nat->Prop:=Cv (fun g=>g<B) B iv
theorem jP{H:Hp}{nx:Nat}{iv:Iv}{B Bc e sz m:Nat}{J:World}(h:w.ownsRow Bc e sz v m xs)(hc:∀g,v.ownBlock=some g->Out B iv g)(r:Rel H nx iv B w O J):J.ownsRow Bc e sz v m xs:=
 ownsRow.cX h fun b A=>rls r (fun _ h=>h) (hc b A)
theorem tG{a:Option Addr}{c:Nat}(h:w.ownsRow 0 T.dO 4 (.slice a n c) n Z.flatten)(hf:Fr w S Z qs)(hj:Z[j]? =some cs):
  ∃g,a=some ⟨g,0,none⟩/\∀k u,cs[k]? =some u->w.cell? ((Addr.add ⟨g,0,none⟩ (j*4)).add k)=some u:=by
 rcases h.2 with⟨Y,h0⟩|⟨g,cap,cur,Sh,_⟩
 .have:=h.1;rw[fN hf.oy]at this;have:=(aH.1 hj).1;omega
 .injection Sh with Y I h3;subst Y;refine⟨g,rfl,fun k u hu=>?_⟩;have:=h.cells (g:=g) rfl (j*4+k) u (flat_get hf.oy hj k u hu);rw[dF,dF];rw[dF]at this;rw[Nat.add_assoc];exact this
theorem te:PG.underlying T.row=some (.slice T.dO):=(hτ T.row _ rfl).i4 rfl
def upto(i:Nat)(f:Rat->Rat)(qs:List Rat):List Rat:=qs.mapIdx fun j q=>if j<i then f q else q
theorem Kv(f:Rat->Rat)(qs:List Rat):upto 0 f qs=qs:=by
 apply bA;intro j;simp[upto]
theorem NC(f:Rat->Rat)(qs:List Rat):upto qs.length f qs=qs.map f:=by
 apply bA;intro j;simp only[upto,List.getElem?_mapIdx,aU]
 cases h:qs[j]? with
 |none=>rfl
 |some q=>simp[(aH.1 h).1]
theorem Kw(h:qs[i]? =some q):(upto i f qs).set i (f q)=upto (i+1) f qs:=by
 apply bA;intro j;have N:=(aH.1 h).1;by_cases R0:i=j
 .subst R0;rw[aQ (by simp[upto];exact N)];simp[upto,List.getElem?_mapIdx,h]
 .rw[aZ R0];simp only[upto,List.getElem?_mapIdx]
  have:(j<i)↔(j<i+1):=by omega
  simp[this]
theorem Oa:(upto i f qs)[i]? =qs[i]? :=by
 simp only[upto,List.getElem?_mapIdx]
 cases qs[i]? <;>simp
theorem eN{w1 F:World}{row:Option Nat}(h:w.grownBy w1 row)(k:Bel w.heap.size w1 F):w.grownBy F row:=
 ⟨k.os.trans h.os,k.tape.trans h.tape,k.output.trans h.output,aR h.size k.size,fun b A U=>(k.block b A).trans (h.block b A U)⟩
theorem wz{vby:Value}{p:Rat}(W:Old S w)(Pm:w.ownsRow 0 T.dO 4 v n Z.flatten)(RX:Fr w S Z qs)(Qg:Z.length=n)(QR:cz w S vby p)
  (hdis:∀g,v.ownBlock=some g->¬S g) (hq:∀q∈qs,rl q<=10000000000) (A:rl p<=10000000000):
  eL PG FS.mS #[v,vby] w (fun e F=>e= .returned (.tuple #[])/\w.grownBy F v.ownBlock/\∃css',F.ownsRow 0 T.dO 4 v n css'.flatten/\css'.length=n/\Fr F (Nw S w F) css' (qs.map (· *p))):=by
 have Pq:∀g,v.ownBlock=some g->g<w.heap.size:=fun g V=>(ownsRow.low Pm g V).2;have RJ:∀iv g,v.ownBlock=some g->Out w.heap.size iv g:=fun iv g V=>.inl (Pq g V);have YP:∀iv g,v.ownBlock=some g->¬Cv S w.heap.size iv g:=fun iv g V h=>by
  rcases h with h|⟨h,_⟩
  .exact hdis g V h
  .have:=Pq g V;omega
 have Xo:n<=maxLen:=by
  rcases Pm.2 with⟨_,h0⟩|⟨_,_,_,_,_,_,Y,I,_⟩
  .omega
  .omega
 unfold maxLen at Xo;have VC:qs.length=n:=by rw[<-RX.1,Qg]
 obtain⟨a,c,rfl,VI⟩:=ef Pm;obtain⟨b1,a1,n1,c1,b2,a2,n2,c2,rfl⟩:=QR.shape;replace RX:=RX.arg [];replace QR:=QR.arg [];refine vI ce ?_;conv=>whnf
 refine⟨Nat×List (List Value)×Iv×World,fun z=>⟨[(0,sV a n c),(3,pP 0 0),(6,sV a n c),(7,iZ n),(8,iZ z.1)],
   [(0,.box T.dO [.v (.bool b1),.v (.slice a1 n1 c1),.v (.bool b2),.v (.slice a2 n2 c2)])],1,z.2.2.1,z.2.2.2⟩,fun z=>n-z.1,
  fun z=>z.1<=n/\w.grownBy z.2.2.2 (Value.slice a n c).ownBlock/\z.2.2.2.ownsRow 0 T.dO 4 (.slice a n c) n z.2.1.flatten/\z.2.1.length=n/\Fr z.2.2.2 (Cv S w.heap.size z.2.2.1) z.2.1 (upto z.1 (· *p) qs)/\
   cz z.2.2.2 (Cv S w.heap.size z.2.2.1) (.agg #[.bool b1,.slice a1 n1 c1,.bool b2,.slice a2 n2 c2]) p,?_,?_⟩
 .intro O J r
  refine⟨(0,Z,[],J),⟨ce,oZ r.cj,jP Pm (RJ []) r,Qg,by rw[Kv];exact RX.rel r W,QR.rel r W⟩,
   sbgn [] r⟩
 clear Pm RX QR Qg;rintro⟨i,Z,iv,w1⟩ ⟨N,V,Pm,Qg,RX,QR⟩;dsimp only at N V Pm Qg RX QR ⊢;conv=>whnf
 apply bS<;>intro h
 .have h:=dL h;obtain⟨cs,Q4⟩:=gO Z i;obtain⟨q,VG⟩:=gO qs i;have hF:=RX.2 i cs q Q4 (by rw[Oa];exact VG);obtain⟨g,rfl,QX⟩:=tG Pm RX Q4;obtain⟨d1,e1,m1,k1,d2,e2,m2,k2,rfl,hF⟩:=hF;have hrlq:=hq q (aG VG);conv=>whnf
  refine⟨⟨g,0,none⟩,rfl,be,?_⟩;conv=>whnf
  refine⟨rC d1 e1 m1 k1 d2 e2 m2 k2,rfl,fun O J r j x E=>?_,?_⟩
  .have:=tG (jP Pm (RJ iv) r) (RX.rel r W) Q4;obtain⟨g',Y,I⟩:=this;injection Y with Y;rw[<-Y]at I;exact I j x E
  conv=>whnf
  refine cW (cU (GT:=fun _ J v F=>cz F (Nf J F) v (q*p)) (fun O J r=>ns (rlo r W) (hF.rel r W) (QR.rel r W) hrlq A) ?_);rintro O wa v1 wb r L Pw hP;have UF:=hP.ep (S:=S) r.cZ (iv:=(wa.heap.size,wb.heap.size)::iv) aF;replace QR:=QR.cS (K:=(wa.heap.size,wb.heap.size)::iv) r W L fun x E=>aD _ E;replace RX:=RX.cS (K:=(wa.heap.size,wb.heap.size)::iv) r W L fun x E=>aD _ E;have Q7:wb.ownsRow 0 T.dO 4 (.slice (some ⟨g,0,none⟩) n c) n Z.flatten:=ownsRow.cX (jP Pm (RJ iv) r) fun b A=>L.block b (by have:=Pq b A;have:=r.cZ;omega);replace V:w.grownBy wb _:=eN V Pw;clear r L hP Pw Pm QX;generalize (wa.heap.size,wb.heap.size)::iv=iv2 at*
  obtain⟨b5,a5,n5,c5,b6,a6,n6,c6,rfl⟩:=UF.shape;conv=>whnf
  refine⟨⟨g,0,none⟩,rfl,be,?_⟩;conv=>whnf
  intro O J r;have UG:=jP Q7 (RJ iv2) r;have hF5:=(UF.rel r W).four;obtain⟨g',Sm,Py,RN,QW,QK⟩:=nT (nv:=rC b5 a5 n5 c5 b6 a6 n6 c6) UG rfl h rfl bv;injection Sm with Sm;injection Sm with Sm;subst Sm;have RM:=kq (cs:=rC b5 a5 n5 c5 b6 a6 n6 c6) RX.oy (show i<Z.length by omega);rw[RM]at RN;have Q6:∀x,Cv S w.heap.size iv2 x->(setCells J ⟨g,i*4,none⟩ (rC b5 a5 n5 c5 b6 a6 n6 c6)).heap[x]? =J.heap[x]? :=fun x E=>
   QW.block x (rlo r W x E) fun e=>YP iv2 g rfl (by injection e with e;rw[<-e];exact E)
  have QV:(⟨g,0,none⟩:Addr).add ((i:Int).toNat*4)=⟨g,i*4,none⟩:=by rw[aK,dF,aS]
  have YQ:=((RX.rel r W).cX Q6).set (j:=i) (hF5.cX Q6);rw[Kw (f:=(· *p)) VG]at YQ;have YR:=(QR.rel r W).cX Q6;replace V:w.grownBy (setCells J ⟨g,i*4,none⟩ (rC b5 a5 n5 c5 b6 a6 n6 c6)) (some g):=fD (eN V r.cj) QW;have Qk:=fun id b A U=>Rel.not r (fun _ h=>h) (RJ iv2 g rfl) id b A U;have hwsz:=r.cZ;clear r RX QR UF Q7 UG hF5 Q6 RM QW;refine⟨by rw[QV],fun k R=>by rw[QV];exact Py k R,fun id b A U=>by rw[QV];exact Qk id b A U,fun F RT=>?_⟩;have RT:F=setCells J ⟨g,i*4,none⟩ (rC b5 a5 n5 c5 b6 a6 n6 c6):=by rw[RT];exact congrArg (fun x=>setCells J x _) QV
  rw[<-RT]at YQ YR RN V QK;clear RT Py Qk;conv=>whnf
  refine inc i ?_;conv=>whnf
  intro I8 w3 r3
  exact⟨(i+1,Z.set i (rC b5 a5 n5 c5 b6 a6 n6 c6),iv2,w3),⟨h,eN V r3.cj,jP RN (RJ iv2) r3,by simpa using Qg,YQ.rel r3 W,YR.rel r3 W⟩,
   sbgn [] r3,by dsimp only;omega⟩
 .have h:i=n:=by
   have:¬i<n:=by simpa using h
   omega
  subst h;conv=>whnf
  intro Id w5 r5;refine⟨rfl,eN V r5.cj,Z,jP Pm (RJ iv) r5,Qg,?_⟩;have:=(RX.rel r5 W).cV (S':=Nw S w w5) fun g V=>Cv.nw V r5
  rwa [<-VC,NC]at this
end Go.Ex
