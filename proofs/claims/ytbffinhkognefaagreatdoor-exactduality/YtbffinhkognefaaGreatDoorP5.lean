/- Texts X22 to X30: lemmas, each with its conditions. -/
import Derived.Test.YtbffinhkognefaaGreatDoorP4
namespace Go.Ex
open Go Go.Sx Go.Proofs
variable{b b2:Bool}{x y:Int}{S S':Nat->Prop}{f g q:Rat}{dv nv u v:Value}{w:World}
def kU(w:World)(S:Nat->Prop)(v:Value)(a b:Int):Prop:=∃b1 l1 b2 l2,v= .agg #[.bool b1,l1,.bool b2,l2]/\jE w S (.agg #[.bool b1,l1]) a/\jE w S (.agg #[.bool b2,l2]) b
theorem kU.cP{F:World}{a b:Int}(h:kU w S v a b)(Z:∀g,S g->F.heap[g]? =w.heap[g]?):kU F S v a b:=by
 obtain⟨b1,l1,b2,l2,W,I,h3⟩:=h;exact⟨b1,l1,b2,l2,W,I.cP Z,h3.cP Z⟩
theorem kU.cO{a b:Int}(h:kU w S v a b)(Z:∀g,S g->S' g):kU w S' v a b:=by
 obtain⟨b1,l1,b2,l2,W,I,h3⟩:=h;exact⟨b1,l1,b2,l2,W,I.cO Z,h3.cO Z⟩
theorem kU.shape(h:kU w S v x y):∃b a n c b2 a2 n2 c2,v= .agg #[.bool b,.slice a n c,.bool b2,.slice a2 n2 c2]:=by
 obtain⟨b1,l1,b2,l2,W,I,h3⟩:=h;obtain⟨_,a,n,c,h4⟩:=I.shape;obtain⟨_,a2,n2,c2,h5⟩:=h3.shape;simp at h4 h5;obtain⟨rfl,rfl⟩:=h4;obtain⟨rfl,rfl⟩:=h5;exact⟨_,a,n,c,_,a2,n2,c2,W⟩
theorem kU.num(h:kU w S (.agg #[.bool b,nv,.bool b2,dv]) x y):jE w S (.agg #[.bool b,nv]) x:=by
 obtain⟨b1,l1,b2,l2,W,I,h3⟩:=h;simp at W;obtain⟨rfl,rfl,rfl,rfl⟩:=W;exact I
theorem kU.den(h:kU w S (.agg #[.bool b,nv,.bool b2,dv]) x y):jE w S (.agg #[.bool b2,dv]) y:=by
 obtain⟨b1,l1,b2,l2,W,I,h3⟩:=h;simp at W;obtain⟨rfl,rfl,rfl,rfl⟩:=W;exact h3
section
variable{S S':Nat->Prop}{H:Hp}{nx:Nat}{iv K:Iv}{B:Nat}{w J F:World}{O:Nat->Sx.dc}{v:Value}{x y:Int}
theorem kU.rel(h:kU w (Cv S B iv) v x y)(r:Rel H nx iv B w O J)(L:∀g,S g->g<B):kU J (Cv S B iv) v x y:=h.cP fun _ V=>rls r L V
end
def cZ(w:World)(S:Nat->Prop)(v:Value)(q:Rat):Prop:=∃b1 l1 b2 l2,v= .agg #[.bool b1,l1,.bool b2,l2]/\dG w S (.agg #[.bool b1,l1]) q.num/\dG w S (.agg #[.bool b2,l2]) q.den
theorem cZ.cP{F:World}(h:cZ w S v q)(Z:∀g,S g->F.heap[g]? =w.heap[g]?):cZ F S v q:=by
 obtain⟨b1,l1,b2,l2,W,I,h3⟩:=h;exact⟨b1,l1,b2,l2,W,I.cP Z,h3.cP Z⟩
theorem cZ.cO(h:cZ w S v q)(Z:∀g,S g->S' g):cZ w S' v q:=by
 obtain⟨b1,l1,b2,l2,W,I,h3⟩:=h;exact⟨b1,l1,b2,l2,W,I.cO Z,h3.cO Z⟩
theorem cZ.r(h:cZ w S v q):kU w S v q.num q.den:=by
 obtain⟨b1,l1,b2,l2,W,I,h3⟩:=h;exact⟨b1,l1,b2,l2,W,I.r,h3.r⟩
theorem cZ.shape(h:cZ w S v q):∃b a n c b2 a2 n2 c2,v= .agg #[.bool b,.slice a n c,.bool b2,.slice a2 n2 c2]:=h.r.shape
theorem cZ.num(h:cZ w S (.agg #[.bool b,nv,.bool b2,dv]) q):dG w S (.agg #[.bool b,nv]) q.num:=by
 obtain⟨b1,l1,b2,l2,W,I,h3⟩:=h;simp at W;obtain⟨rfl,rfl,rfl,rfl⟩:=W;exact I
theorem cZ.den(h:cZ w S (.agg #[.bool b,nv,.bool b2,dv]) q):dG w S (.agg #[.bool b2,dv]) q.den:=by
 obtain⟨b1,l1,b2,l2,W,I,h3⟩:=h;simp at W;obtain⟨rfl,rfl,rfl,rfl⟩:=W;exact h3
theorem cZ.of(h:dG w S (.agg #[.bool b,nv]) q.num)(k:dG w S (.agg #[.bool b2,dv]) q.den):cZ w S (.agg #[.bool b,nv,.bool b2,dv]) q:=⟨_,_,_,_,rfl,h,k⟩
section
variable{S S':Nat->Prop}{H:Hp}{nx:Nat}{iv K:Iv}{B:Nat}{w J F:World}{O:Nat->Sx.dc}{v:Value}{q:Rat}
theorem cZ.rel(h:cZ w (Cv S B iv) v q)(r:Rel H nx iv B w O J)(L:∀g,S g->g<B):cZ J (Cv S B iv) v q:=h.cP fun _ V=>rls r L V
theorem cZ.cL(h:cZ w (Cv S B iv) v q)(r:Rel H nx iv B w O J)(L:∀g,S g->g<B)(G:Ext J F)(hm:∀p,p∈iv->p∈K):cZ F (Cv S B K) v q:=
 ((h.rel r L).cP fun g V=>G.block g (rlo r L g V)).cO fun _ V=>V.mono hm
theorem cZ.eX(h:cZ F (Nf J F) v q)(hB:B<=J.heap.size)(hm:(J.heap.size,F.heap.size)∈iv):cZ F (Cv S B iv) v q:=h.cO fun _ V=>V.eX hB hm
theorem cZ.out{w0 w1:World}(h:cZ w1 (Cv S w0.heap.size iv) v q)(r:Rel H nx iv w0.heap.size w1 O J)(L:Old S w0):cZ J (Nw S w0 J) v q:=
 (h.rel r L).cO fun _ V=>Cv.nw V r
end
theorem lM(L:Old S w)(hf:cY w S v f):
  eD PG Fd.kr #[v] w (eL w fun v' _w2=>v'=iV (rs f)):=by
 have Y:=bR w;replace hf:=hf.cO (S':=Cv S w.heap.size []) fun _ h=>.inl h;obtain⟨b1,a1,n1,c1,b2,a2,n2,c2,rfl⟩:=hf.shape;have S3:=hf.num;have Pb:=hf.den;refine oU ce ?_;refine cM (cE Y (pE (iV (rs f))) (fun O J r=>uU (S3.rel r L)) ?_);rintro O _ _ _ OS r G Y A rfl;exact rtn Y fun I8 we re=>rfl
theorem kV(L:Old S w)(hf:cY w S v f):
  eD PG Fd.kQ #[v] w (eL w fun v' F=>cY F (Nw S w F) v' (-f)):=by
 have Y:=bR w;replace hf:=hf.cO (S':=Cv S w.heap.size []) fun _ h=>.inl h;obtain⟨b1,a1,n1,c1,b2,a2,n2,c2,rfl⟩:=hf.shape;have S3:=hf.num;have Pb:=hf.den;refine nW ce ?_;refine dP [.x 0,.x 1,.x 3,.x 4,.x 2,.x 5,.x 6] ?_;refine cN (I9:=fun _ J v F=>dw F (Nw (Cv S w.heap.size []) J F) v (-f.num)) (fun O J r=>oe (rlo r L) (S3.rel r L)) ?_;rintro O On v1 Oi r G N U;replace Y:=Y.tr N;replace Pb:=Pb.cL (K:=(On.heap.size,Oi.heap.size)::[]) r L G fun x E=>aD _ E;have hM:=U.old r.cR;generalize (On.heap.size,Oi.heap.size)::[]=OS at*
 obtain⟨A0,A1,A2,A3,rfl⟩:=hM.shape;exact rtn Y fun I8 we re=>cY.of (by rw[Rat.neg_num];exact hM.out re L) (by rw[Rat.neg_den];exact Pb.out re L)
theorem nd(L:Old S w)(hf:cY w S v f)(V:cY w S u g)(hlf:rl f<=10000000000)(hlg:rl g<=10000000000):
  eD PG Fd.kR #[v,u] w (eL w fun v' F=>cY F (Nf w F) v' (f*g)):=by
 have Y:=bR w;have l1:=fj f;have l2:=fC f;have l3:=fj g;have l4:=fC g;have m0:=cz f.num g.num;have m1:=cz f.den g.den;replace hf:=hf.cO (S':=Cv S w.heap.size []) fun _ h=>.inl h;replace V:=V.cO (S':=Cv S w.heap.size []) fun _ h=>.inl h;obtain⟨b1,a1,n1,c1,b2,a2,n2,c2,rfl⟩:=hf.shape;obtain⟨b3,a3,n3,c3,b4,a4,n4,c4,rfl⟩:=V.shape;have S3:=hf.num;have Pb:=hf.den;have Sr:=V.num;have RI:=V.den;refine nX ce ?_;refine dP [.x 0,.x 1,.x 2,.x 3,.x 5,.x 6,.x 7,.x 8,.x 4,.x 9,.x 10,.x 11] ?_;refine cE Y (pR dw (f.num*g.num)) (fun O J r=>fq (rlo r L) (S3.rel r L) (Sr.rel r L) be be) ?_;rintro O _ _ _ OS r G Y A U;replace Pb:=Pb.cL r L G (mC A);replace RI:=RI.cL r L G (mC A);have hA:=U.cO (nw r A);obtain⟨A0,A1,A2,A3,rfl⟩:=hA.shape;refine cE Y (pR dw ((f.den:Int)*(g.den:Int))) (fun O J r=>fq (rlo r L) (Pb.rel r L) (RI.rel r L) be be) ?_;rintro O _ _ _ iv2 r G Y A U;replace hA:=hA.cL r oF G (mC A);have hB:=U.cO (nw r A);obtain⟨C0,C1,C2,C3,rfl⟩:=hB.shape;refine cE Y (pR cY (f*g)) (fun O J r=>(wU f g)▸uV (rlo r oF) (hA.rel r oF) (hB.rel r oF) (kc (gC f) (gC g)) be be) ?_;rintro O _ _ _ OR r G Y A U;have hC:=U.cO (nw r A);obtain⟨E0,E1,E2,E3,E4,E5,E6,E7,rfl⟩:=hC.shape;exact rtn Y fun I8 we re=>hC.out re oF
theorem Fg(L:Old S w)(hf:cY w S v f)(V:cY w S u g)(hlf:rl f<=10000000000)(hlg:rl g<=10000000000)(Si:g≠0):
  eD PG Fd.mc #[v,u] w (eL w fun v' F=>cY F (Nf w F) v' (f / g)):=by
 have Y:=bR w;have l1:=fj f;have l2:=fC f;have l3:=fj g;have l4:=fC g;have m0:=cz f.num g.den;have m1:=cz f.den g.num;replace hf:=hf.cO (S':=Cv S w.heap.size []) fun _ h=>.inl h;replace V:=V.cO (S':=Cv S w.heap.size []) fun _ h=>.inl h;obtain⟨b1,a1,n1,c1,b2,a2,n2,c2,rfl⟩:=hf.shape;obtain⟨b3,a3,n3,c3,b4,a4,n4,c4,rfl⟩:=V.shape;have S3:=hf.num;have Pb:=hf.den;have Sr:=V.num;have RI:=V.den;refine qZ ce ?_;refine dP [.x 0,.x 1,.x 2,.x 3,.x 5,.x 6,.x 7,.x 8,.x 4,.x 9,.x 10,.x 11] ?_;refine cE Y (pR dw (f.num*(g.den:Int))) (fun O J r=>fq (rlo r L) (S3.rel r L) (RI.rel r L) be be) ?_;rintro O _ _ _ OS r G Y A U;replace Pb:=Pb.cL r L G (mC A);replace Sr:=Sr.cL r L G (mC A);have hA:=U.cO (nw r A);obtain⟨A0,A1,A2,A3,rfl⟩:=hA.shape;refine cE Y (pR dw ((f.den:Int)*g.num)) (fun O J r=>fq (rlo r L) (Pb.rel r L) (Sr.rel r L) be be) ?_;rintro O _ _ _ iv2 r G Y A U;replace hA:=hA.cL r oF G (mC A);have hB:=U.cO (nw r A);obtain⟨C0,C1,C2,C3,rfl⟩:=hB.shape;refine cE Y (pR cY (f / g)) (fun O J r=>(FE f g)▸uV (rlo r oF) (hA.rel r oF) (hB.rel r oF) (kc (gC f) (fun e=>Si (Rat.num_eq_zero.1 e))) be be) ?_;rintro O _ _ _ OR r G Y A U;have hC:=U.cO (nw r A);obtain⟨E0,E1,E2,E3,E4,E5,E6,E7,rfl⟩:=hC.shape;exact rtn Y fun I8 we re=>hC.out re oF
theorem wj(L:Old S w)(hf:cY w S v f)(V:cY w S u g)(hlf:rl f<=10000000000)(hlg:rl g<=10000000000):
  eD PG Fd.lA #[v,u] w (eL w fun v' F=>cY F (Nf w F) v' (f+g)):=by
 have Y:=bR w;have l1:=fj f;have l2:=fC f;have l3:=fj g;have l4:=fC g;have m0:=cz f.num g.den;have m1:=cz g.num f.den;have m2:=cz f.den g.den;have m4:=iU (f.num*g.den) (g.num*f.den);replace hf:=hf.cO (S':=Cv S w.heap.size []) fun _ h=>.inl h;replace V:=V.cO (S':=Cv S w.heap.size []) fun _ h=>.inl h;obtain⟨b1,a1,n1,c1,b2,a2,n2,c2,rfl⟩:=hf.shape;obtain⟨b3,a3,n3,c3,b4,a4,n4,c4,rfl⟩:=V.shape;have S3:=hf.num;have Pb:=hf.den;have Sr:=V.num;have RI:=V.den;refine o9 ce ?_;refine dP [.x 0,.x 1,.x 2,.x 3,.x 5,.x 6,.x 7,.x 8,.x 11,.x 12,.x 13,.x 14,.x 4,.x 9,.x 10,.x 15,.x 16,.x 17] ?_;refine cE Y (pR dw (f.num*(g.den:Int))) (fun O J r=>fq (rlo r L) (S3.rel r L) (RI.rel r L) be be) ?_;rintro O _ _ _ OS r G Y A U;replace Pb:=Pb.cL r L G (mC A);replace Sr:=Sr.cL r L G (mC A);replace RI:=RI.cL r L G (mC A);have hA:=U.cO (nw r A);obtain⟨A0,A1,A2,A3,rfl⟩:=hA.shape;refine cE Y (pR dw (g.num*(f.den:Int))) (fun O J r=>fq (rlo r L) (Sr.rel r L) (Pb.rel r L) be be) ?_;rintro O _ _ _ iv2 r G Y A U;replace Pb:=Pb.cL r L G (mC A);replace RI:=RI.cL r L G (mC A);replace hA:=hA.cL r oF G (mC A);have hB:=U.cO (nw r A);obtain⟨C0,C1,C2,C3,rfl⟩:=hB.shape;refine cE Y (pR dw (f.num*(g.den:Int)+g.num*(f.den:Int))) (fun O J r=>AJ (rlo r oF) (hA.rel r oF) (hB.rel r oF) be be) ?_;rintro O _ _ _ OR r G Y A U;replace Pb:=Pb.cL r L G (mC A);replace RI:=RI.cL r L G (mC A);have hD:=U.cO (nw r A);obtain⟨E0,E1,E2,E3,rfl⟩:=hD.shape;refine cE Y (pR dw ((f.den:Int)*(g.den:Int))) (fun O J r=>fq (rlo r L) (Pb.rel r L) (RI.rel r L) be be) ?_;rintro O _ _ _ Ob r G Y A U;replace hD:=hD.cL r oF G (mC A);have hE:=U.cO (nw r A);obtain⟨F0,F1,F2,F3,rfl⟩:=hE.shape;refine cE Y (pR cY (f+g)) (fun O J r=>(ss f g)▸uV (rlo r oF) (hD.rel r oF) (hE.rel r oF) (kc (gC f) (gC g)) be be) ?_;rintro O _ _ _ Of r G Y A U;have hC:=U.cO (nw r A);obtain⟨G0,G1,G2,G3,G4,G5,G6,G7,rfl⟩:=hC.shape;exact rtn Y fun I8 we re=>hC.out re oF
theorem wk(L:Old S w)(hf:cY w S v f)(hlf:rl f<=100000000000):
  eD PG Fd.kq #[v] w (eL w fun v' F=>cZ F (Nf w F) v' f):=by
 have Y:=bR w;have l1:=fj f;have l2:=fC f;replace hf:=hf.cO (S':=Cv S w.heap.size []) fun _ h=>.inl h;obtain⟨b1,a1,n1,c1,b2,a2,n2,c2,rfl⟩:=hf.shape;have S3:=hf.num;have Pb:=hf.den;refine oT ce ?_;refine dP [.x 0,.x 1,.x 3,.x 4,.x 2,.x 5,.x 6,.x 7] ?_;refine cE Y (pR dG f.num) (fun O J r=>yQ (rlo r L) (S3.rel r L) be) ?_;rintro O _ _ _ OS r G Y A U;replace Pb:=Pb.cL r L G (mC A);have hA:=U.cO (nw r A);obtain⟨A0,A1,A2,A3,rfl⟩:=hA.shape;refine cE Y (pR dG (f.den:Int)) (fun O J r=>yQ (rlo r L) (Pb.rel r L) be) ?_;rintro O _ _ _ iv2 r G Y A U;replace hA:=hA.cL r oF G (mC A);have hB:=U.cO (nw r A);obtain⟨C0,C1,C2,C3,rfl⟩:=hB.shape;exact rtn Y fun I8 we re=>cZ.of (hA.out re oF) (hB.out re oF)
theorem iD(n:Int)(w:World)(W: -9223372036854775808<=n)(I:n<=9223372036854775807):
  eD PG Fd.vL #[iV n] w (eL w fun v' F=>cY F (Nf w F) v' (n:Rat)):=by
 have Y:=bR w;refine yM ce ?_;refine cM (cE Y (pR dw n) (fun O J r=>kH n J W I) ?_);rintro O _ _ _ OS r G Y A U;have hA:=U.cO (nw r A);obtain⟨A0,A1,A2,A3,rfl⟩:=hA.shape;refine cM (cE Y (pR dw 1) (fun O J r=>kH 1 J bv bv) ?_);rintro O _ _ _ iv2 r G Y A U;replace hA:=hA.cL r oF G (mC A);have hB:=U.cO (nw r A);obtain⟨C0,C1,C2,C3,rfl⟩:=hB.shape;exact rtn Y fun I8 we re=>cY.of (by rw[Rat.num_intCast];exact hA.out re oF) (by rw[Rat.den_intCast];exact hB.out re oF)
theorem BT(L:Old S w)(E:kU w S v x y)(QI:ln x.natAbs<=100000000000)(RM:ln y.natAbs<=100000000000):
  eD PG Fd.vG #[v] w (eL w fun v' F=>cY F (Nf w F) v' (ratio x y)):=by
 have Y:=bR w;replace E:=E.cO (S':=Cv S w.heap.size []) fun _ h=>.inl h;obtain⟨b1,a1,n1,c1,b2,a2,n2,c2,rfl⟩:=E.shape;have U:=E.num;have hd:=E.den;have Qe:=U;have hxd:=hd;refine yH ce ?_;refine cM (cN (I9:=fun _ J v F=>dw F (Nw (Cv S w.heap.size []) J F) v y) (fun O J r=>Cu (rlo r L) (hxd.rel r L)) ?_);rintro O On v1 Oi r G N U;replace Y:=Y.tr N;replace Qe:=Qe.cL (K:=(On.heap.size,Oi.heap.size)::[]) r L G fun x E=>aD _ E;have hD:=U.old r.cR;generalize (On.heap.size,Oi.heap.size)::[]=OS at*
 obtain⟨A0,A1,A2,A3,rfl⟩:=hD.shape;refine cM (cE Y (pE (iV y.sign)) (fun O J r=>uU (hD.rel r L)) ?_);rintro O _ _ _ iv2 r G Y A rfl;replace Qe:=Qe.cL r L G (mC A);replace hD:=hD.cL r L G (mC A);apply bS<;>intro h
 .have h:y=0:=bX.1 (eq_of_beq h);have e0:ratio x y=Rat.divInt x 1:=aM h;refine cM (cE Y (pR dw 1) (fun O J r=>kH 1 J bv bv) ?_);rintro O PT v3 PX OR r G Y A U;replace Qe:=Qe.cL r L G (mC A);have hO:=U.cO (nw r A);obtain⟨C0,C1,C2,C3,rfl⟩:=hO.shape;have l1:ln (1:Int).natAbs=1:=by decide
  refine dP [.x 0,.x 1,.x 3,.x 2,.x 4,.x 5] ?_;refine cN (I9:=fun _ J v F=>dw F (Nw (Cv S w.heap.size OR) J F) v x) (fun O J r=>Cu (rlo r L) (Qe.rel r L)) ?_;rintro O QX v4 QA r G N U;replace Y:=Y.tr N;replace hO:=hO.cL (K:=(QX.heap.size,QA.heap.size)::OR) r oF G fun x E=>aD _ E;have hN:=U.old r.cR;generalize (QX.heap.size,QA.heap.size)::OR=Ob at*
  obtain⟨E0,E1,E2,E3,rfl⟩:=hN.shape;refine cE Y (pR cY (ratio x y)) (fun O J r=>e0.symm▸uV (rlo r L) (hN.rel r L) ((hO.rel r oF).cO fun g V=>V.elim (fun k=>k.elim) .inr) bv be be) ?_;rintro O _ _ _ Of r G Y A U;have hC:=U.cO (nw r A);obtain⟨F0,F1,F2,F3,F4,F5,F6,F7,rfl⟩:=hC.shape;exact rtn Y fun I8 we re=>hC.out re oF
 .have h:y≠0:=fun e=>by rw[e]at h;exact absurd h bv
  have e0:ratio x y=Rat.divInt x y:=aK h;refine dP [.x 0,.x 1,.x 3,.x 2,.x 4,.x 5] ?_;refine cN (I9:=fun _ J v F=>dw F (Nw (Cv S w.heap.size iv2) J F) v x) (fun O J r=>Cu (rlo r L) (Qe.rel r L)) ?_;rintro O PT v3 PX r G N U;replace Y:=Y.tr N;replace hD:=hD.cL (K:=(PT.heap.size,PX.heap.size)::iv2) r L G fun x E=>aD _ E;have hN:=U.old r.cR;generalize (PT.heap.size,PX.heap.size)::iv2=OR at*
  obtain⟨C0,C1,C2,C3,rfl⟩:=hN.shape;refine cE Y (pR cY (ratio x y)) (fun O J r=>e0.symm▸uV (rlo r L) (hN.rel r L) (hD.rel r L) h be be) ?_;rintro O _ _ _ Ob r G Y A U;have hC:=U.cO (nw r A);obtain⟨E0,E1,E2,E3,E4,E5,E6,E7,rfl⟩:=hC.shape;exact rtn Y fun I8 we re=>hC.out re oF
def e8(v:Value):Iv:=match v.ownBlock with
 |some g=>[(g,g+1)]
 |none=>[]
theorem jz{lo R:Nat}:(lo,R)∈e8 v↔v.ownBlock=some lo/\R=lo+1:=by
 unfold e8
 cases h:v.ownBlock with
 |none=>simp
 |some g=>simp;omega
def tt(iv:Iv)(v:Value):Prop:=∀b,v.ownBlock=some b->∃lo R,(lo,R)∈iv/\lo<=b/\b<R
section
variable{S:Nat->Prop}{H:Hp}{nx:Nat}{iv K:Iv}{B e sz m:Nat}{w J F:World}{O:Nat->Sx.dc}{v v':Value}{xs:List Value}
theorem tt.not(h:tt iv v)(r:Rel H nx iv B w O J){b:Nat}(N:v.ownBlock=some b):∀id c,dF H id=some c->(O id).nil=false->(O id).g≠b:=fun id c hc U G=>by
 obtain⟨lo,R,W,I,h3⟩:=h b N;exact r.ix lo R W id c hc U be
theorem fD(h:w.ownsRow B e sz v m xs)(hc:tt iv v)(r:Rel H nx iv B w O J):J.ownsRow B e sz v m xs:=
 ownsRow.cP h fun b N=>r.Ad b (ownsRow.low h b N).2 fun id c hc' U G=>hc.not r N id c hc' U G
theorem tt.row(v:Value):tt (e8 v) v:=fun b N=>⟨b,b+1,jz.2 ⟨N,rfl⟩,be,be⟩
theorem tt.mono(h:tt iv v)(k:∀p,p∈iv->p∈K):tt K v:=fun b N=>by
 obtain⟨lo,R,W,I⟩:=h b N;exact⟨lo,R,k _ W,I⟩
theorem eK(h:w.ownsRow B e sz v m xs):∃a c,v= .slice a m c/\m<=c:=by
 rcases h.2 with⟨rfl,rfl⟩|⟨g,cap,cur,rfl,_,_,W,_⟩
 .exact⟨none,0,rfl,lr⟩
 .exact⟨_,cap,rfl,W⟩
theorem vO(r:Rel H nx (e8 v) B w O J)(_hsz:J.heap.size<=F.heap.size)(Qu:∀g,v'.ownBlock=some g->g<F.heap.size/\(v.ownBlock=some g\/g=J.heap.size)):
  ∀lo R,(lo,R)∈e8 v'->R<=F.heap.size/\∀id b,dF H id=some b->(O id).nil=false->¬(lo<=(O id).g/\(O id).g<R):=fun lo R hm=>by
 obtain⟨V,rfl⟩:=jz.1 hm;obtain⟨W,I⟩:=Qu _ V;refine⟨be,fun id c hc U G=>?_⟩;rcases I with I|I
 .exact(tt.row v).not r I id c hc U be
 .have:=(r.low id c hc U).2;omega
end
end Go.Ex
namespace Go.Sx
open Go Go.Ex Go.Proofs
variable{O:Nat->Sx.dc}
theorem Sub.MS{B:Nat}{l tl:Env}{nx OO:Nat}{H tH:Hp}{iv K:Iv}{w J:World}(m:List (Nat×Nat))(r:Rel H nx iv B w O J)
  (hH:xL (si m) H tH) (hE:xK (si m) l tl) (hsH:zc OO tH) (hsE:ka OO tl) (R:GA (si m) tH=true) (Us:∀lo R,(lo,R)∈K->∃lo' QL,(lo',QL)∈iv/\lo'<=lo/\R<=QL):Sub B l nx O J ⟨tl,tH,OO,K,J⟩:=by
 have r2:Rel H nx K B J O J:=Rel.mk' rfl rfl rfl lr (by have:=r.base;have:=r.size;omega) (fun lo R h=>by
   obtain⟨lo',QL,W,I,h3⟩:=Us lo R h
   have:=r.nG lo' QL W;have:=r.size;omega) r.keys (fun id b h=>r.fits h) (fun id b h=>r.scopd h) r.inj r.low (fun _ _ _=>rfl) (fun lo R h id b N U G=>by
   obtain⟨lo',QL,W,I,h3⟩:=Us lo R h
   exact r.ix lo' QL W id b N U be)
 exact Sub.gen m r2 hH hE hsH hsE R (fun lo R h=>h)
end Go.Sx
namespace Go.Ex
open Go Go.Sx Go.Proofs
variable{parts:List (Value×List Value×Nat)}{xs:List Value}{n sz:Nat}{S:Nat->Prop}{v:Value}{w:World}
theorem tt.iv{iv:Iv}(h:tt iv v):∀lo R,(lo,R)∈e8 v->∃lo' QL,(lo',QL)∈iv/\lo'<=lo/\R<=QL:=fun lo R hm=>by
 obtain⟨N,rfl⟩:=jz.1 hm;obtain⟨lo',QL,W,I,h3⟩:=h lo N;exact⟨lo',QL,W,I,be⟩
structure fy(w:World)(S:Nat->Prop)(sz:Nat)(v:Value)(xs:List Value)(n:Nat):Prop where
 le:n<=maxLen
 len:xs.length=n*sz
 one:∀u∈xs,u.oneCell'=true
 sl:∃a c,v= .slice a n c/\n<=c/\∀(j:Nat) u,xs[j]? =some u->∃ad,a=some ad/\S ad.block/\w.cell? (ad.add j)=some u
theorem fy.cP{F:World}(h:fy w S sz v xs n)(Z:∀g,S g->F.heap[g]? =w.heap[g]?):fy F S sz v xs n:=by
 obtain⟨h0,W,I,a,c,h3,h4,h5⟩:=h;refine⟨h0,W,I,a,c,h3,h4,fun j u hu=>?_⟩;obtain⟨ad,k1,k2,k3⟩:=h5 j u hu;exact⟨ad,k1,k2,by rw[cg (Z _ (by rw[eQ];exact k2))];exact k3⟩
theorem fy.cO{S':Nat->Prop}(h:fy w S sz v xs n)(Z:∀g,S g->S' g):fy w S' sz v xs n:=by
 obtain⟨h0,W,I,a,c,h3,h4,h5⟩:=h;refine⟨h0,W,I,a,c,h3,h4,fun j u hu=>?_⟩;obtain⟨ad,k1,k2,k3⟩:=h5 j u hu;exact⟨ad,k1,Z _ k2,k3⟩
theorem fy.shape(h:fy w S sz v xs n):∃a m c,v= .slice a m c:=by
 obtain⟨_,_,_,a,c,h3,_⟩:=h;exact⟨a,_,c,h3⟩
section
variable{S S':Nat->Prop}{H:Hp}{nx:Nat}{iv K:Iv}{B:Nat}{w J F:World}{O:Nat->Sx.dc}{v:Value}{sz n:Nat}{xs:List Value}
end
def iQ(parts:List (Value×List Value×Nat)):Nat:=(parts.map (·.2.2)).sum
theorem mh(a b:List (Value×List Value×Nat)):iQ (a++b)=iQ a+iQ b:=by simp[iQ]
abbrev MT:=FU
theorem Jz(n:Nat)(w:World)(U:n<=1000000000000):
  eD PG Fd.fo #[nls,iV n] w (eL w fun v' F=>F.ownsRow w.heap.size T.uint32 1 v' 0 []):=by
 refine jB ce ?_;conv=>whnf
 refine wR (e:=T.uint32) MT d5 (fun O w1 r=>?_);have N:=r.cV;clear r;conv=>whnf
 refine⟨0,rfl,?_⟩;conv=>whnf
 refine⟨(n:Int),by show IntKind.wrap .i64 ((n:Int)-0)=_;rw[wrap64]<;>omega,?_⟩;conv=>whnf
 apply bS<;>intro h
 .have h:0<n:=by have:=aI h;omega
  conv=>whnf
  refine wR (e:=T.uint32) MT d5 (fun O F r=>?_);replace N:=N.tr r.cV;clear r;conv=>whnf
  refine⟨⟨be,be,be⟩,none,0,0,d5,be,be,?_⟩;conv=>whnf
  refine zg hτ (Bc:=w.heap.size) lr d5 d5 ((hτ T.int _ rfl).i1 rfl) bv d5 d5 h mx be (fun O w3 w4 c r hc OI V hs=>?_);have Pj:Bq w w4:=(N.tr r.cV).tr (Bel.grown V (fun g V=>by cases V) (by have:=r.base;have:=r.size;omega));have hw3:=(N.tr r.cV).size;clear r;generalize w3.heap.size=g0 at*
  conv=>whnf
  refine⟨⟨be,be,be⟩,some ⟨g0,0,none⟩,0,c,by split<;>rfl,be,be,?_⟩;conv=>whnf
  intro In w5 r5
  exact⟨_,rfl,Pj.tr r5.cV,fD OI (fun b N=>by
   have N:g0=b:=by injection N
   exact⟨g0,g0+1,by simp[hs],be,be⟩) r5⟩
 .conv=>whnf
  intro In w5 r5;exact⟨_,rfl,N.tr r5.cV,World.ownsRow_nil _ _ _ _⟩
theorem Gn(L:Old S w)(h:fy w S 1 v (parts.map (·.1)) parts.length)(hp:∀p∈parts,fy w S 1 p.1 p.2.1 p.2.2)(hN:iQ parts<=1000000000000):
  eD PG Fd.fS #[v] w (eL w fun v' F=>F.ownsRow w.heap.size T.uint32 1 v' (iQ parts) (parts.flatMap (·.2.1))):=by
 obtain⟨TS,-,-,a,c,rfl,So,OY⟩:=h;have hle:∀k,iQ (parts.take k)<=iQ parts:=fun k=>by
  conv=>rhs;rw[<-List.take_append_drop k parts,mh]
  omega
 have Qa:∀(i:Nat) p,parts[i]? =some p->iQ (parts.take (i+1))=iQ (parts.take i)+p.2.2:=fun i p hp=>by
  rw[bE,hp,mh];simp[iQ]
 have Ts:∀(i:Nat) p,parts[i]? =some p->(parts.take (i+1)).flatMap (·.2.1)=(parts.take i).flatMap (·.2.1)++p.2.1:=fun i p hp=>by
  rw[bE,hp];simp
 have Q9:∀(i:Nat) p,parts[i]? =some p->∃ad an ac,a=some ad/\S ad.block/\w.cell? (ad.add i)=some (.slice an p.2.2 ac)/\p.1= .slice an p.2.2 ac:=fun i p R=>by
  obtain⟨ad,W,I,h3⟩:=OY i p.1 (by rw[aS,R];rfl);obtain⟨_,_,_,an,ac,h4,_⟩:=hp p (aG R);exact⟨ad,an,ac,W,I,by rw[h3,h4],h4⟩
 unfold maxLen at TS;refine iP ce ?_;conv=>whnf
 refine⟨Nat×World,fun z=>⟨[(0,sV a parts.length c),(3,.o (.v (iV (iQ (parts.take z.1):Nat)))),(9,sV a parts.length c),(10,iZ parts.length),(11,iZ z.1)],[],0,[],z.2⟩,
  fun z=>parts.length-z.1,fun z=>z.1<=parts.length/\Bq w z.2,?_,?_⟩
 .intro O J r;exact⟨(0,J),⟨ce,r.cV⟩,sbgn [] r⟩
 .rintro⟨i,w1⟩ ⟨R,Y⟩;dsimp only at R Y ⊢;conv=>whnf
  apply bS<;>intro h
  .have h:=dL h;obtain⟨p,Ro⟩:=gO parts i;obtain⟨ad,an,ac,W,I,h3,h4⟩:=Q9 i p Ro;have Uu:=Qa i p Ro;have R9:=hle (i+1);conv=>whnf
   refine⟨ad,W,be,?_⟩;conv=>whnf
   refine⟨.slice an p.2.2 ac,fun O J r=>by simpa using fY L Y r I h3,?_⟩;conv=>whnf
   refine⟨((iQ (parts.take (i+1)):Nat):Int),wo,?_⟩;conv=>whnf
   refine inc i ?_;conv=>whnf
   intro IR w3 r3;exact⟨(i+1,w3),⟨h,Y.tr r3.cV⟩,sbgn [] r3,by simp;omega⟩
  .have h:i=parts.length:=by
    have:¬i<parts.length:=by simpa using h
    omega
   subst h;clear R;rw[bF];conv=>whnf
   refine cM (cN (I9:=fun _ J v F=>F.ownsRow J.heap.size T.uint32 1 v 0 []) (fun O J r=>Jz _ J be) ?_);rintro O wa v1 wb r G N OI;have Od:=r.cR;have hes:=G.size;have Vc:tt [(wa.heap.size,wb.heap.size)] v1:=fun b N=>⟨_,_,bW.2 rfl,(ownsRow.low OI b N).1,(ownsRow.low OI b N).2⟩
   replace OI:wb.ownsRow w.heap.size T.uint32 1 v1 0 []:=⟨OI.1,OI.2.imp id fun⟨g,cap,cur,k1,k2,k3⟩=>⟨g,cap,cur,k1,be,k3⟩⟩
   replace Y:=Y.tr N;clear r G;obtain⟨a1,c1,rfl,-⟩:=eK OI;conv=>whnf
   refine⟨Nat×Value×World,fun z=>⟨[(0,sV a parts.length c),(6,.o (.v z.2.1)),(25,sV a parts.length c),(26,iZ parts.length),(27,iZ z.1)],[],0,e8 z.2.1,z.2.2⟩,
    fun z=>parts.length-z.1,fun z=>z.1<=parts.length/\Bq w z.2.2/\z.2.2.ownsRow w.heap.size T.uint32 1 z.2.1 (iQ (parts.take z.1)) ((parts.take z.1).flatMap (·.2.1)),?_,?_⟩
   .intro O J r;exact⟨(0,.slice a1 0 c1,J),⟨ce,Y.tr r.cV,by simpa [iQ]using fD OI Vc r⟩,Sub.MS [] r trivial ⟨rfl,rfl,rfl,rfl,rfl,trivial⟩ (by simp[zc]) (by simp[ka,SV.sc,At.sc]) d5 Vc.iv⟩
   .rintro⟨i,v1,w1⟩ ⟨R,Y,OI⟩;dsimp only at R Y OI ⊢;obtain⟨a1,c1,rfl,-⟩:=eK OI;conv=>whnf
    apply bS<;>intro h
    .have h:=dL h;obtain⟨p,Ro⟩:=gO parts i;obtain⟨ad,an,ac,W,I,h3,h4⟩:=Q9 i p Ro;have Uu:=Qa i p Ro;have R9:=hle (i+1);have hpR:=hp p (aG Ro);conv=>whnf
     refine⟨ad,W,be,?_⟩;conv=>whnf
     refine⟨.slice an p.2.2 ac,fun O J r=>by simpa using fY L Y r I h3,?_⟩;conv=>whnf
     refine .inr (gp hτ lr (xs:=(parts.take i).flatMap (·.2.1)) (news:=p.2.1) (m:=iQ (parts.take i)) (k:=p.2.2) d5 d5 bv d5 d5 (fun O J r=>⟨fD OI (tt.row _) r,fun g V=>(tt.row _).not r V⟩) hpR.len hpR.one mx be
      (fun O J r=>?_) (fun v' F=>e8 v') (fun O J v' F r Od Qu=>vO r Od Qu) (fun O J v' F r h5 h6 h7=>?_))
     .obtain⟨_,Ra,_,a2,c2,h5,_,h6⟩:=hpR;rw[h4]at h5;injection h5 with h7 h8 h9;subst h7 h9
      cases an with
      |none=>
       refine .inl ⟨ac,?_,?_⟩
       .have:p.2.2=0:=by
         rcases bB p.2.2 with h0|h0
         .exact h0
         .obtain⟨ad2,k1,_⟩:=h6 0 _ (aE (show 0<p.2.1.length by omega))
          cases k1
        rw[<-this];rfl
       .rcases bB p.2.2 with h0|h0
        .exact h0
        .obtain⟨ad2,k1,_⟩:=h6 0 _ (aE (show 0<p.2.1.length by omega))
         cases k1
      |some ad3=>
       refine .inr ⟨ad3,ac,rfl,fun j u hu=>?_⟩;obtain⟨ad2,k1,k2,k3⟩:=h6 j u hu;injection k1 with k1;subst k1;exact fY L Y r k2 k3
     .have PD:Bq w F:=(Y.tr r.cV).tr (Bel.grown h6 (fun g V=>(ownsRow.low OI g V).1) (by have:=r.size;have:=Y.size;omega));rw[<-Uu,<-Ts i p Ro]at h5;obtain⟨a3,c3,rfl,-⟩:=eK h5;conv=>whnf
      refine⟨(i+1:Nat),wo,?_⟩;conv=>whnf
      intro IR w3 r3
      exact⟨(i+1,.slice a3 (iQ (parts.take (i+1))) c3,w3),⟨h,PD.tr r3.cV,fD h5 (tt.row _) r3⟩,
       sbgn [] r3,by simp;omega⟩
    .have h:i=parts.length:=by
      have:¬i<parts.length:=by simpa using h
      omega
     subst h;rw[bF]at OI ⊢;conv=>whnf
     intro In w5 r5;exact⟨_,rfl,Y.tr r5.cV,fD OI (tt.row _) r5⟩
end Go.Ex
namespace Go.Sx
open Go Go.Ex Go.Proofs
section
variable{O:Nat->Sx.dc}
theorem Rel.kh{H:Hp}{nx:Nat}{iv:Iv}{B:Nat}{w J:World}(r:Rel H nx iv B w O J){id t sz n:Nat}{cs:List At}(h:dF H id=some (.box t cs))(hl:cs.length=n*sz)(U:n<=maxLen)(W:∀u∈cs,(u.den O).oneCell'=true):
  fy J (fun g=>g=(O id).g) sz (.slice (some ⟨(O id).g,0,none⟩) n n) (cs.map (At.den O)) n:=by
 refine⟨U,by simpa using hl,fun u hu=>?_,_,_,rfl,lr,fun j u hu=>⟨_,rfl,rfl,?_⟩⟩
 .obtain⟨x,E,rfl⟩:=bD.1 hu;exact W x E
 .have h0:(⟨(O id).g,0,none⟩:Addr).add j=⟨(O id).g,j,none⟩:=by
   cases j with
   |zero=>rfl
   |succ j=>simp[Addr.add]
  rw[h0,cell_of (r.box id t _ h)];exact hu
end
variable{cs:List Value}{O:Nat->Sx.dc}
theorem Rel.IW{H:Hp}{nx:Nat}{iv:Iv}{B:Nat}{w J:World}(r:Rel H nx iv B w O J){id t sz n:Nat}(h:dF H id=some (.arr t cs))(hl:cs.length=n*sz)(U:n<=maxLen)(W:∀u∈cs,u.oneCell'=true):
  fy J (fun g=>g=(O id).g) sz (.slice (some ⟨(O id).g,0,none⟩) n n) cs n:=by
 refine⟨U,hl,W,_,_,rfl,lr,fun j u hu=>⟨_,rfl,rfl,?_⟩⟩;have h0:(⟨(O id).g,0,none⟩:Addr).add j=⟨(O id).g,j,none⟩:=by
  cases j with
  |zero=>rfl
  |succ j=>simp[Addr.add]
 rw[h0,cell_of (r.arr id t _ h)];exact hu
end Go.Sx
namespace Go.Ex
open Go Go.Sx Go.Proofs
section
variable{ls:List Nat}{xs:List Value}{n:Nat}{S:Nat->Prop}{v:Value}{w:World}
theorem dI.seq(h:dI w S v ls):fy w S 1 v (F8 ls) ls.length:=by
 obtain⟨a,c,rfl,hc,OY⟩:=h.sl;refine⟨by have:=h.le;unfold maxLen;omega,by rw[fZ,bC],fun u hu=>by simp only[F8,bD]at hu;obtain⟨n,_,rfl⟩:=hu;rfl,a,c,rfl,hc,fun j u hu=>?_⟩;simp only[F8,aS,Option.map_eq_some_iff]at hu;obtain⟨n,U,rfl⟩:=hu;exact OY j n U
theorem fy.yS(h:fy w S 1 v (F8 ls) n)(PE:Lm ls):dI w S v ls:=by
 obtain⟨h0,W,I,a,c,rfl,hc,OY⟩:=h;have U:n=ls.length:=by rw[fZ]at W;omega
 subst U;exact⟨PE,by unfold maxLen at h0;omega,a,c,rfl,hc,fun j x E=>OY j _ (sG E)⟩
theorem LP{B e sz m:Nat}(h:w.ownsRow B e sz v m xs)(W:∀u∈xs,u.oneCell'=true)(hm:m<=maxLen):fy w (fun g=>B<=g/\g<w.heap.size) sz v xs m:=by
 rcases h.2 with⟨rfl,rfl⟩|⟨g,cap,cur,rfl,N,hc,RL,Pu,Od,QJ⟩
 .refine⟨hm,h.1,W,none,0,rfl,lr,fun j u hu=>?_⟩;have:=h.1;rw[Nat.zero_mul]at this;rw[List.eq_nil_of_length_eq_zero this]at hu
  cases hu
 .refine⟨hm,h.1,W,_,cap,rfl,RL,fun j u hu=>⟨_,rfl,⟨N,(aZ.1 hc).1⟩,?_⟩⟩;have h0:(⟨g,0,none⟩:Addr).add j=⟨g,j,none⟩:=by
   cases j with
   |zero=>rfl
   |succ j=>simp[Addr.add]
  have hu2:cur.toList[j]? =some u:=by
   rw[<-QJ,List.getElem?_take]at hu;split at hu
   .exact hu
   .cases hu
  rw[h0,cell_of (g:=g) (cs:=cur.toList) (by simpa using hc)];exact hu2
theorem IX(h:n<=9223372036854775807):IntKind.i64.wrap (n:Int)=n:=by rw[wrap64]<;>omega
theorem BU{t b:Nat}(h:t<=9223372036854775807):IntKind.i64.wrap ((t:Int).tdiv (b:Int))=((t / b:Nat):Int):=by
 have W:=Nat.div_le_self t b;rw[Int.tdiv_eq_ediv_of_nonneg be,<-Int.natCast_ediv];exact IX be
theorem IY(a b:List Nat):F8 (a++b)=F8 a++F8 b:=by simp[F8]
theorem Ia{b:Nat}(L:Old S w)(h:dQ w S v n)(Rn:ln n<=100000000000)(N:b<=3200000000000):
  eD PG Fd.nR #[v,iV b] w (eL w fun v' F=>dQ F (Nf w F) v' (n*2^b)):=by
 obtain⟨ls,hl,hz,hv⟩:=h;have hlen:=dX hl.lm hz;rw[hv]at hlen;replace hl:=hl.arg [];obtain⟨a,m,c,rfl⟩:=hl.shape;have hm:m=ls.length:=by
  obtain⟨_,_,e,_⟩:=hl.sl;injection e
 refine r9 ce ?_;conv=>whnf
 refine⟨bv,((b / 32:Nat):Int),BU be,?_⟩;conv=>whnf
 refine⟨b / 32,b / 32,rfl,rfl,lr,be,be,?_⟩;conv=>whnf
 refine cM (cN (I9:=fun _ J v F=>dI F (Nf J F) v (List.replicate (b / 32) 0++ls)) (fun O J r=>?_) ?_)
 .have hA:=r.IW (id:=0) (sz:=1) (n:=b / 32) rfl ce mx (by simp[Value.oneCell']);have hB:=r.kh (id:=1) (sz:=1) (n:=2) rfl rfl mx (by intro u hu;simp at hu;rcases hu with rfl|rfl<;>rfl);have hL1:=(dI.rel hl r L).seq;refine(Gn (S:=fun g=>Cv S w.heap.size [] g\/g=(O 0).g\/g=(O 1).g) (parts:=[(.slice (some ⟨(O 0).g,0,none⟩) (b / 32) (b / 32),List.replicate (b / 32) (.int .u32 0),b / 32),(.slice a m c,F8 ls,ls.length)]) ?_ ?_ ?_ ?_).mono fun e F ⟨v2,e1,e2,e3⟩=>⟨v2,e1,e2,?_⟩
  .intro g V;rcases V with V|V|V
   .exact rlo r L g V
   .rw[V];exact(r.low 0 _ rfl (r.nn 0 _ rfl (by intros;simp) ce)).2
   .rw[V];exact(r.low 1 _ rfl (r.nn 1 _ rfl (by intros;simp) ce)).2
  .exact hB.cO fun g V=>.inr (.inr V)
  .intro p hp;simp only[List.mem_cons,List.not_mem_nil,or_false]at hp;rcases hp with rfl|rfl
   .exact hA.cO fun g V=>.inr (.inl V)
   .exact hL1.cO fun g V=>.inl V
  .simp[iQ];omega
  .have e4:=LP e3 (by
    intro u hu;simp only[List.flatMap_cons,List.flatMap_nil,List.append_nil,bY,List.mem_replicate,F8,bD]at hu
    rcases hu with⟨_,rfl⟩|⟨_,_,rfl⟩<;>rfl) (by simp[iQ,maxLen];omega)
   refine fy.yS (n:=b / 32+ls.length) ?_ ((Lm.replicate _).append hl.lm)
   .have e5:F8 (List.replicate (b / 32) 0++ls)=List.replicate (b / 32) (Value.int .u32 0)++F8 ls:=by rw[IY,qf]
    rw[e5];have e6:=e4.cO (S':=Nf J F) fun g V=>.inr V;simpa [iQ]using e6
 rintro O wa v1 wb r G RK hL;have VA:=hL.eX (S:=FF) r.cR (iv:=[(wa.heap.size,wb.heap.size)]) aF;clear r G hL hl;generalize [(wa.heap.size,wb.heap.size)]=iv at*
 obtain⟨a1,m1,c1,rfl⟩:=VA.shape;conv=>whnf
 refine⟨bv,((b % 32:Nat):Int),ki b 32,?_⟩;conv=>whnf
 refine⟨((b % 32:Nat):Int),eO be,?_⟩;conv=>whnf
 have hlen2:(List.replicate (b / 32) 0++ls).length<=200000000000:=by simp;omega
 have Qj:val (List.replicate (b / 32) 0++ls)*2^(b % 32)=n*2^b:=by
  rw[jt,kD,bp,aR,pe,hv,bV (2^_) n,bc,<-Nat.pow_add];congr 2;omega
 generalize List.replicate (b / 32) 0++ls=ls2 at*
 refine cM (cN (I9:=fun _ J v F=>∃out,dI F (Nf J F) v out/\out.length<=1000000000001/\val out=val ls2*2^(b % 32)) (fun O J r=>?_) ?_)
 .refine(uT (rlo r oF) (dI.rel VA r oF) be (cG b bv)).mono fun e F ⟨v2,e1,e2,out,e3,e4,e5⟩=>⟨v2,e1,e2,out,?_,be,e5⟩
  obtain⟨g,rfl,Rc,Pa,hg3⟩:=e3;exact(BR Pa hg3 be).cO fun x E=>.inr ⟨be,by have:=(aZ.1 Pa).1;omega⟩
 rintro O wc v2 wd r G PD ⟨out,hO,RN,PZ⟩;replace RK:=RK.tr PD;have Pw:=hO.eX (S:=FF) r.cR (iv:=(wc.heap.size,wd.heap.size)::iv) aF;clear r G hO VA PD;generalize (wc.heap.size,wd.heap.size)::iv=iv2 at*
 obtain⟨a2,m2,c2,rfl⟩:=Pw.shape;conv=>whnf
 refine cM (cN (I9:=fun _ _ v F=>dI F (Cf w iv2) v (dh out)) (fun O J r=>ew (rlo r oF) (dI.rel Pw r oF)) ?_);rintro O we v3 wf r G UU hT;replace RK:=RK.tr UU;have hN:=hT.trimmed;rw[PZ,Qj]at hN;clear r G hT Pw UU;obtain⟨a3,m3,c3,rfl⟩:=hN.shape;conv=>whnf
 intro In w5 r5;exact⟨_,rfl,RK.tr r5.cV,(hN.cO fun g V=>V.cons).out r5 oF⟩
end
variable{s:ByteArray}{bs:List Nat}{b n:Nat}{S:Nat->Prop}{v:Value}{w:World}
def yV(n r:Nat):Prop:=r*r<=n/\n<(r+1)*(r+1)
theorem BX{x:Nat}(U:0<n)(E:0<x):n<((x+n / x) / 2+1)*((x+n / x) / 2+1)/\0<(x+n / x) / 2:=by
 have W:n<x*(n / x+1):=by
  have:=Nat.div_add_mod n x;have:=cG n E;rw[bN,bC];omega
 generalize n / x=q at*
 obtain⟨y,hy⟩:∃y,y=(x+q) / 2:=⟨_,rfl⟩
 rw[<-hy];have I:x+q+1<=2*(y+1):=by omega
 have h3:(x+(q+1))*(x+(q+1))<=(2*(y+1))*(2*(y+1)):=Nat.mul_le_mul be be;have h4:4*(x*(q+1))<=(x+(q+1))*(x+(q+1)):=by
  generalize q+1=p;rw[bN,Nat.add_mul,Nat.add_mul,bV p x];rcases Nat.le_total x p with h|h
  .obtain⟨d,rfl⟩:=Nat.le.dest h;rw[bN,Nat.add_mul,bN,bN,bN,bV d x];omega
  .obtain⟨d,rfl⟩:=Nat.le.dest h;rw[bN,Nat.add_mul,Nat.add_mul,bN,bV d p];omega
 have h5:(2*(y+1))*(2*(y+1))=4*((y+1)*(y+1)):=by
  rw[bc,Nat.mul_left_comm (y+1) 2,<-bc,<-bc]
 refine⟨be,?_⟩;rcases bB y with h|h
 .subst h;omega
 .exact h
theorem DB{n x:Nat}(_:0<x)(h:x<=(x+n / x) / 2):x*x<=n:=by
 have W:x<=n / x:=by omega
 exact aP (bh x W) (Nat.mul_div_le n x)
theorem Fo{a:Nat}:(od a b≥0)↔b<=a:=by
 unfold od;split
 .omega
 .split<;>omega
theorem LW(L:Old S w)(h:dQ w S v n)(Rn:ln n<=10000000000):
  eD PG Fd.qL #[v] w (eL w fun v' F=>∃r,yV n r/\dQ F (Nf w F) v' r):=by
 have U:=h.arg [];obtain⟨p,rfl,QV,Q8⟩:=h.la;have Oq:=dX p.lm Q8;rw[QV]at Oq;have WN:=nA Oq;refine tS ce ?_;conv=>whnf
 apply bS<;>intro h0
 .have h0:n=0:=by have:=eq_of_beq h0;omega
  conv=>whnf
  intro In w5 r5;exact⟨_,rfl,r5.cV,0,⟨be,be⟩,dQ.nil _ _⟩
 have h0:0<n:=by
  have:(p.ls.length:Int)≠0:=fun e=>by rw[e]at h0;exact absurd h0 bv
  omega
 conv=>whnf
 refine⟨((32*p.ls.length:Nat):Int),wo,?_⟩;conv=>whnf
 refine⟨((32*p.ls.length+1:Nat):Int),wo,?_⟩;conv=>whnf
 refine⟨bv,(((32*p.ls.length+1) / 2:Nat):Int),BU be,?_⟩;conv=>whnf
 refine⟨(((32*p.ls.length+1) / 2+1:Nat):Int),wo,?_⟩;conv=>whnf
 have Vf:n<(2^((32*p.ls.length+1) / 2+1)+1)*(2^((32*p.ls.length+1) / 2+1)+1):=by
  have W:=kN n;rw[<-Oq,pe]at W;have I:2^(32*p.ls.length)<=2^((32*p.ls.length+1) / 2+1)*2^((32*p.ls.length+1) / 2+1):=by
   rw[<-Nat.pow_add];exact Nat.pow_le_pow_right bv be
  have h3:=Nat.mul_le_mul (Nat.le_succ (2^((32*p.ls.length+1) / 2+1))) (Nat.le_succ (2^((32*p.ls.length+1) / 2+1)));simp only[Nat.succ_eq_add_one]at h3;omega
 have OX:(32*p.ls.length+1) / 2+1<=320000000000:=by omega
 generalize (32*p.ls.length+1) / 2+1=b at*
 have QI:ln (2^b)<=100000000000:=by
  refine gF.2 ?_;rw[pe];have TB:b<32*100000000000:=by omega
  generalize 32*100000000000=e at TB;exact Nat.pow_lt_pow_right bv TB
 refine cM (cN (I9:=fun _ J v F=>dQ F (Nf J F) v (2^b)) (fun O J r=>?_) ?_)
 .have hB:=(r.n0 (id:=0) (ls:=[1]) rfl (by intro x E;simp at E;omega) ce).nat (by simp[Nz]);refine(Ia (fun g V=>by rw[V];exact(r.low 0 _ rfl (r.nn 0 _ rfl (by intros;simp) ce)).2) hB bv be).mono fun e F ⟨v2,e1,e2,e3⟩=>⟨v2,e1,e2,?_⟩
  have:val [1]*2^b=2^b:=by simp[val]
  rw[this]at e3;exact e3
 rintro O wa v1 wb r G N E;have hX:=E.eX (S:=FF) r.cR (iv:=[(wa.heap.size,wb.heap.size)]) aF;replace U:=U.cL (K:=[(wa.heap.size,wb.heap.size)]) r L G fun x E=>aD _ E;clear r G E;generalize [(wa.heap.size,wb.heap.size)]=iv at*
 obtain⟨a1,m1,c1,rfl⟩:=hX.shape;conv=>whnf
 refine⟨(Value×Nat)×Iv×World,fun z=>⟨[(0,sV p.a p.ls.length p.c),(3,.o (.v z.1.1))],[],0,z.2.1,z.2.2⟩,fun z=>z.1.2,
  fun z=>Bq w z.2.2/\dQ z.2.2 (Cv S w.heap.size z.2.1) (.slice p.a p.ls.length p.c) n/\dQ z.2.2 (Cf w z.2.1) z.1.1 z.1.2/\0<z.1.2/\ln z.1.2<=100000000000/\n<(z.1.2+1)*(z.1.2+1),?_,?_⟩
 .intro O J r
  exact⟨((_,2^b),iv,J),⟨N.tr r.cV,U.rel r L,hX.rel r oF,bz b,QI,Vf⟩,
   Sub.gen [] r trivial ⟨rfl,rfl,trivial⟩ trivial (by simp[ka,SV.sc,At.sc]) d5 (fun lo R h=>h)⟩
 clear hX U N Vf QI;rintro⟨⟨vx,x⟩,iv,w1⟩ ⟨Y,U,hX,Qp,QI,Oo⟩;dsimp only at Y U hX Qp QI Oo ⊢;obtain⟨a2,m2,c2,rfl⟩:=hX.shape;conv=>whnf
 refine cM (cN (I9:=fun _ J v F=>∃q r,v= .tuple #[q,r]/\dQ F (Nf J F) q (n / x)/\dQ F (Nw (Cv S w.heap.size iv) J F) r (n % x)) (fun O J r=>mF (rlo r L) (U.rel r L) ((hX.rel r oF).cO fun g V=>by rcases V with h|h;exact h.elim;exact .inr h) Qp be) ?_);rintro O w3 v3 w4 r G Pj ⟨q,rm,rfl,hq,hrm⟩;replace Y:=Y.tr Pj;have hQ:=hq.eX (S:=FF) r.cR (iv:=(w3.heap.size,w4.heap.size)::iv) aF;have hR:=hrm.old r.cR;replace U:=U.cL (K:=(w3.heap.size,w4.heap.size)::iv) r L G fun x E=>aD _ E;replace hX:=hX.cL (K:=(w3.heap.size,w4.heap.size)::iv) r oF G fun x E=>aD _ E;clear r G hq hrm Pj;generalize (w3.heap.size,w4.heap.size)::iv=iv2 at*
 obtain⟨a3,m3,c3,rfl⟩:=hQ.shape;obtain⟨a4,m4,c4,rfl⟩:=hR.shape;clear hR;have hlq:=@Kv n x;conv=>whnf
 refine cM (cN (I9:=fun _ J v F=>dQ F (Nf J F) v (x+n / x)) (fun O J r=>EK (rlo r oF) (hX.rel r oF) (hQ.rel r oF) be be) ?_);rintro O w5 v5 w6 r G Pj hp;replace Y:=Y.tr Pj;have hP:=hp.eX (S:=FF) r.cR (iv:=(w5.heap.size,w6.heap.size)::iv2) aF;replace U:=U.cL (K:=(w5.heap.size,w6.heap.size)::iv2) r L G fun x E=>aD _ E;replace hX:=hX.cL (K:=(w5.heap.size,w6.heap.size)::iv2) r oF G fun x E=>aD _ E;clear r G hp Pj hQ;generalize (w5.heap.size,w6.heap.size)::iv2=OR at*
 obtain⟨a5,m5,c5,rfl⟩:=hP.shape;have hlp:=Dl x (n / x);conv=>whnf
 refine cM (cN (I9:=fun _ J v F=>dQ F (Nf J F) v ((x+n / x) / 2)) (fun O J r=>?_) ?_)
 .obtain⟨ls,k1,k2,k3⟩:=hP.rel r oF;have:=IV (b:=1) (rlo r oF) k1 (by have:=dX k1.lm k2;rw[k3]at this;omega) bv;rw[k3]at this;exact this
 rintro O w7 v7 w8 r G Pj hp;replace Y:=Y.tr Pj;have hY:=hp.eX (S:=FF) r.cR (iv:=(w7.heap.size,w8.heap.size)::OR) aF;replace U:=U.cL (K:=(w7.heap.size,w8.heap.size)::OR) r L G fun x E=>aD _ E;replace hX:=hX.cL (K:=(w7.heap.size,w8.heap.size)::OR) r oF G fun x E=>aD _ E;clear r G hp Pj hP;generalize (w7.heap.size,w8.heap.size)::OR=Ob at*
 obtain⟨a7,m7,c7,rfl⟩:=hY.shape;obtain⟨hlt2,QH⟩:=BX h0 Qp;have UK:=@DB n x Qp;generalize (x+n / x) / 2=y at*
 conv=>whnf
 refine cM (cN (I9:=fun _ _ v _=>v=iV (od y x)) (fun O J r=>FY (rlo r oF) (hY.rel r oF) (hX.rel r oF)) ?_);rintro O w9 v9 w10 r G Pj rfl;replace Y:=Y.tr Pj;replace hY:=hY.cL (K:=(w9.heap.size,w10.heap.size)::Ob) r oF G fun x E=>aD _ E;replace U:=U.cL (K:=(w9.heap.size,w10.heap.size)::Ob) r L G fun x E=>aD _ E;replace hX:=hX.cL (K:=(w9.heap.size,w10.heap.size)::Ob) r oF G fun x E=>aD _ E;clear r G Pj;generalize (w9.heap.size,w10.heap.size)::Ob=Of at*
 conv=>whnf
 apply bS<;>intro h
 .have h:x<=y:=Fo.1 (aI h);conv=>whnf
  exact rtn Y fun I8 we re=>⟨x,⟨UK h,Oo⟩,hX.out re oF⟩
 .have h:y<x:=by
   have I:¬od y x≥0:=aL h;rw[Fo]at I;omega
  conv=>whnf
  intro I8 we re
  exact⟨((_,y),Of,we),⟨Y.tr re.cV,U.rel re L,hY.rel re oF,QH,aP (e9 (Nat.le_of_lt h)) QI,hlt2⟩,
   Sub.gen [] re trivial ⟨rfl,rfl,trivial⟩ trivial (by simp[ka,SV.sc,At.sc]) d5 (fun lo R h=>h),h⟩
def Lb:Value:=.agg #[.bool false,nls,.bool false,nls]
theorem dQ.num{nv:Value}(h:dQ w S nv n):dw w S (.agg #[.bool false,nv]) (n:Int):=⟨nv,by rw[av (show ¬((n:Int)<0) by omega)],h⟩
theorem tc{n:Int}(W: -9223372036854775808<=n)(I:n<=9223372036854775807):ln n.natAbs<=2:=gF.2 (by show n.natAbs<4294967296^2;omega)
theorem Me{r:Nat}(h:yV n r):ln r<=ln n:=by
 refine e9 ?_;rcases bB r with h0|h0
 .omega
 .have:=h.1;have I:=Nat.le_mul_of_pos_right r h0;omega
theorem yb(n den:Int)(w:World)(Ss: -9223372036854775808<=n)(Tm:n<=9223372036854775807)(RH: -9223372036854775808<=den)(RZ:den<=9223372036854775807):
  eD PG Fd.kf #[iV n,iV den] w (eL w fun v' F=>((n<0\/den<1\/1000000<den)/\v'= .tuple #[Lb,iV 2])\/
   (¬(n<0\/den<1\/1000000<den)/\∃r q,yV (n*den*den).natAbs r/\v'= .tuple #[q,iV 0]/\cZ F (Nf w F) q (Rat.divInt r den))):=by
 have Y:=bR w;refine sT ce ?_;conv=>whnf
 apply bS<;>intro W
 .have W:=aI W;conv=>whnf
  exact rtn Y fun I8 we re=>.inl ⟨be,rfl⟩
 have W:=aL W;conv=>whnf
 apply bS<;>intro I
 .have I:=aI I;conv=>whnf
  exact rtn Y fun I8 we re=>.inl ⟨be,rfl⟩
 have I:=aL I;conv=>whnf
 apply bS<;>intro h3
 .have h3:=aI h3;conv=>whnf
  exact rtn Y fun I8 we re=>.inl ⟨be,rfl⟩
 have h3:=aL h3;have SI:=@tc n be be;have Ph:=@tc den be be;have R4:=cz n den;have QO:=cz (n*den) den;conv=>whnf
 refine cM (cE Y (pR dw den) (fun O J r=>kH den J be be) ?_);rintro O _ _ _ OS r G Y A U;have hD:=U.cO (nw r A);clear r;obtain⟨A0,A1,A2,A3,rfl⟩:=hD.shape;conv=>whnf
 refine dP [.x 0,.x 2,.x 4,.x 1,.x 3,.x 5,.x 6,.x 7,.x 8] ?_;conv=>whnf
 refine cE Y (pR dw n) (fun O J r=>kH n J be be) ?_;rintro O _ _ _ iv2 r G Y A U;replace hD:=hD.cL r oF G (mC A);have hN:=U.cO (nw r A);clear r;obtain⟨C0,C1,C2,C3,rfl⟩:=hN.shape;conv=>whnf
 refine cE Y (pR dw (n*den)) (fun O J r=>fq (rlo r oF) (hN.rel r oF) (hD.rel r oF) be be) ?_;rintro O _ _ _ OR r G Y A U;replace hD:=hD.cL r oF G (mC A);clear hN;have hA:=U.cO (nw r A);clear r;obtain⟨E0,E1,E2,E3,rfl⟩:=hA.shape;conv=>whnf
 refine cE Y (pR dw (n*den*den)) (fun O J r=>fq (rlo r oF) (hA.rel r oF) (hD.rel r oF) be be) ?_;rintro O _ _ _ Ob r G Y A U;replace hD:=hD.cL r oF G (mC A);clear hA;have hB:=U.cO (nw r A);clear r;obtain⟨F0,F1,F2,F3,rfl⟩:=hB.shape;conv=>whnf
 have TZ:=hB.nat.2;clear hB;refine cE Y (fun _ J v F=>∃r,yV (n*den*den).natAbs r/\dQ F (Nf J F) v r) (fun O J r=>LW (rlo r oF) (TZ.rel r oF) be) ?_;rintro O _ _ _ Of r G Y A ⟨rt,hrt,RF⟩;replace hD:=hD.cL r oF G (mC A);clear TZ;have hK:=RF.cO (nw r A);clear r;obtain⟨s5_0a,s5_0b,s5_0c,rfl⟩:=hK.shape;conv=>whnf
 have hls:=Me hrt;have hrn:ln ((rt:Int)).natAbs=ln rt:=rfl;refine cM (cE Y (pR cY (Rat.divInt rt den)) (fun O J r=>uV (rlo r oF) (x:=(rt:Int)) (hK.rel r oF).num (hD.rel r oF) be be be) ?_);rintro O _ _ _ PL r G Y A U;clear hD;clear hK;have hF:=U.cO (nw r A);clear r;have QG:=ju (a:=(rt:Int)) (b:=den) be;obtain⟨G0,G1,G2,G3,G4,G5,G6,G7,rfl⟩:=hF.shape;conv=>whnf
 refine cM (cE Y (pR cZ (Rat.divInt rt den)) (fun O J r=>wk (rlo r oF) (hF.rel r oF) be) ?_);rintro O _ _ _ QB r G Y A U;clear hF;have hC:=U.cO (nw r A);clear r;obtain⟨I0,I1,I2,I3,I4,I5,I6,I7,rfl⟩:=hC.shape;conv=>whnf
 exact rtn Y fun I8 we re=>.inr ⟨be,rt,_,hrt,rfl,hC.out re oF⟩
theorem ir(bs:List Nat):(strOf bs).size=bs.length:=by
 show(strOf bs).data.size=_;rw[jr];simp
theorem HG{i:Nat}(h:bs[i]? =some b):(strOf bs)[i]? =some (UInt8.ofNat b):=by
 have W:(strOf bs).data[i]? =some (UInt8.ofNat b):=by rw[jr];simp[h]
 have R:i<(strOf bs).size:=by rw[ir];exact(aH.1 h).1
 rw[getElem?_pos (strOf bs) i R];rw[getElem?_pos (strOf bs).data i R]at W;exact W
theorem EZ(b:Nat)(r:List Nat):(strOf (b::r)).extract 1 (strOf (b::r)).size=strOf r:=by
 apply ByteArray.ext;rw[ByteArray.data_extract,ir,jr,jr];apply Array.ext';simp[bU]
theorem wu:PG.underlying T.string=some .string:=(hτ T.string _ rfl).i3 rfl
theorem OH(h:b<256):(UInt8.ofNat b).toNat=b:=by simp;omega
theorem Ea(bs:List Nat)(w:World)(N:∀b∈bs,b<256)(hl:bs.length<=maxLen):
  eD PG Fd.kT #[.string (strOf bs),.int .u8 48] w (eL w fun v _=>v= .string (strOf (bs.dropWhile (· ==48)))):=by
 unfold maxLen at hl;refine nY ce ?_;conv=>whnf
 refine⟨List Nat×World,fun z=>⟨[(0,.o (.v (.string (strOf z.1)))),(1,.o (.v (.int .u8 48)))],[],0,[],z.2⟩,fun z=>z.1.length,
  fun z=>Bq w z.2/\(∀b∈z.1,b<256)/\z.1.length<=9223372036854775807/\z.1.dropWhile (· ==48)=bs.dropWhile (· ==48),?_,?_⟩
 .intro O J r;exact⟨(bs,J),⟨r.cV,N,hl,rfl⟩,Sub.gen [] r trivial ⟨rfl,rfl,trivial⟩ trivial (by simp[ka,SV.sc,At.sc]) d5 (fun lo R h=>h)⟩
 clear N hl;rintro⟨cs,w1⟩ ⟨Y,N,hl,hd⟩;dsimp only at Y N hl hd ⊢
 cases cs with
 |nil=>
  conv=>whnf
  exact rtn Y fun I8 we re=>by rw[<-hd];rfl
 |cons c r=>
  have hc:=N c ce;conv=>whnf
  apply bS<;>intro h
  .clear h;conv=>whnf
   refine jq wu d5 d5 bv (HG (bs:=c::r) (i:=0) (b:=c) d5) (fun O F r2=>?_);rw[OH hc];replace Y:=Y.tr r2.cV;clear r2;conv=>whnf
   apply bS<;>intro h
   .have h:c=48:=by have:=eq_of_beq h;omega
    subst h;conv=>whnf
    refine⟨⟨be,by rw[ir];simp;omega,be⟩,?_⟩;conv=>whnf
    intro IR w3 r3;have ht:=EZ 48 r
    exact⟨(r,w3),⟨Y.tr r3.cV,fun b Qi=>N b (aD _ Qi),by dsimp only;simp at hl;omega,by rw[<-hd];rfl⟩,
     Sub.gen [] r3 trivial ⟨by rw[<-ht];rfl,rfl,trivial⟩ trivial (by simp[ka,SV.sc,At.sc]) d5 (fun lo R h=>h),ce⟩
   .have h:c≠48:=fun e=>by subst e;exact absurd h bv
    conv=>whnf
    intro I8 we re;refine⟨_,rfl,Y.tr re.cV,?_⟩;rw[<-hd,List.dropWhile_cons,aK (by simpa using h)];rfl
  .exact absurd (aL h) (by rw[ir];simp)
theorem yj(bs:List Nat)(w:World)(N:∀b∈bs,b<256)(hl:bs.length<=maxLen):
  eD PG Fd.nT #[.string (strOf bs),.string ⟨#[48]⟩] w (eL w fun v _=>v= .string (strOf (bs.dropWhile (· ==48)))):=by
 have key:=fun J=>Ea bs J N hl;have OW:strOf bs=⟨#[]⟩->bs=[]:=fun h=>by
  have:(strOf bs).data.toList=[]:=by rw[h]
  rw[jr]at this;simpa using this
 have Ul:strOf bs=⟨#[]⟩->strOf (bs.dropWhile (· ==48))=⟨#[]⟩:=fun h=>by rw[OW h];rfl
 generalize strOf (bs.dropWhile (· ==48))=out at*
 generalize strOf bs=s at*
 clear N hl OW;refine rh ce ?_;conv=>whnf
 apply bS<;>intro h
 .have h:s=⟨#[]⟩:=by
   have h:=eq_of_beq h;apply ByteArray.ext;apply Array.ext';exact h
  conv=>whnf
  intro I8 we re;exact⟨_,rfl,re.cV,by rw[Ul h,h];rfl⟩
 .clear h;conv=>whnf
  refine jq wu d5 d5 bv (b:=48) d5 (fun O F r2=>?_);have Y:=r2.cV;clear r2;conv=>whnf
  refine jq wu d5 d5 bv (b:=48) d5 (fun O w3 r2=>?_);replace Y:=Y.tr r2.cV;clear r2;conv=>whnf
  refine cM (cN (I9:=fun _ _ v _=>v= .string out) (fun O J r=>key J) ?_);rintro O wa v wb r G PD rfl;replace Y:=Y.tr PD;clear r G;conv=>whnf
  exact rtn Y fun I8 we re=>rfl
theorem Eb(a:Option Addr)(c:Nat)(w:World):eD PG Fd.oR #[.slice a 0 c,.string ⟨#[]⟩] w (eL w fun v _=>v= .string ⟨#[]⟩):=by
 refine pB ce ?_;conv=>whnf
 intro I8 we re;exact⟨_,rfl,re.cV,rfl⟩
theorem HH(L:Old S w)(h:fy w S 1 v [.string s] 1):eD PG Fd.oR #[v,.string ⟨#[]⟩] w (eL w fun v _=>v= .string s):=by
 obtain⟨-,-,-,a,c,rfl,hc,OY⟩:=h;obtain⟨ad,rfl,W,I⟩:=OY 0 _ rfl;refine pB ce ?_;conv=>whnf
 refine⟨ad,rfl,be,?_⟩;conv=>whnf
 refine⟨.string s,fun O J r=>by simpa using fY L Bel.refl r W I,?_⟩;conv=>whnf
 intro I8 we re;exact⟨_,rfl,re.cV,rfl⟩
def nine(n:Nat):List Nat:=(List.range 9).map fun j=>48+n / 10^(8-j) % 10
def DL(n:Nat):List Nat:=if n=0 then [48]else(nine n).dropWhile (· ==48)
def fv(k n:Nat):List At:=(List.range 9).map fun j=>At.v (.int .u8 ((if 9<=j+k then 48+n / 10^(8-j) % 10 else 0:Nat):Int))
theorem dropWhile_nil{p:Nat->Bool}:∀{l:List Nat},l.dropWhile p=[]->∀x∈l,p x=true
 |[],_,x,E=>by cases E
 |a::r,h,x,E=>by
  rw[List.dropWhile_cons]at h;split at h
  .rename_i ha;rcases List.mem_cons.1 E with rfl|E
   .exact ha
   .exact dropWhile_nil h x E
  .cases h
theorem KK(h0:n≠0)(h:n<1000000000):(nine n).dropWhile (· ==48)≠[]:=by
 intro e;have:∀x∈nine n,x=48:=by
  intro x E;have:=dropWhile_nil e x E;simpa using this
 simp only[nine,bD,List.mem_range,forall_exists_index,and_imp,forall_apply_eq_imp_iff₂]at this;have W:=this 0 be;have I:=this 1 be;have h3:=this 2 be;have h4:=this 3 be;have h5:=this 4 be;have h6:=this 5 be;have h7:=this 6 be;have h8:=this 7 be;have h9:=this 8 be;simp only[Nat.reduceSub,Nat.reducePow]at W I h3 h4 h5 h6 h7 h8 h9;omega
theorem KL(n:Nat):∀b∈nine n,b<256:=by
 intro b N;simp only[nine,bD]at N;obtain⟨j,_,rfl⟩:=N;omega
end Go.Ex
namespace Go.Sx
open Go Go.Ex Go.Proofs
variable{cs:List Value}{O:Nat->Sx.dc}
theorem Rel.oo{H:Hp}{nx:Nat}{iv:Iv}{B:Nat}{w J:World}(r:Rel H nx iv B w O J){id t m sz:Nat}(h:dF H id=some (.vec t sz cs))(hm:cs.length=m*sz)(SM:m<=maxLen)(hs:0<sz)(W:∀u∈cs,u.oneCell'=true):
  fy J (fun g=>B<=g/\g<J.heap.size) sz ((At.w id m).den O) cs m:=by
 rcases r.vec id t sz _ h with⟨U,rfl⟩|⟨U,spare,N,hc,Pu⟩
 .have TF:m=0:=by
   rcases bB m with h|h
   .exact h
   .have:=Nat.mul_pos h hs;simp at hm;omega
  subst TF;refine⟨SM,ce,ce,none,0,by simp[At.den,U],lr,ce⟩
 .refine⟨SM,hm,W,some ⟨(O id).g,0,none⟩,(O id).cap,by simp[At.den,U],?_,fun j x E=>⟨_,rfl,r.low id _ h U,?_⟩⟩
  .have W:(cs++spare).length=cs.length+spare.length:=aU;have I:m*sz<=(O id).cap*sz:=by omega
   exact Nat.le_of_mul_le_mul_right I hs
  .rw[cd,cell_of N,aR,aQ (aH.1 E).1];exact E
end Go.Sx
namespace Go.Ex
open Go Go.Sx Go.Proofs
section
variable{S:Nat->Prop}
theorem oq{t b:Nat}(h:t<4294967296):IntKind.u32.wrap ((t:Int).tdiv (b:Int))=((t / b:Nat):Int):=by
 have W:=Nat.div_le_self t b;rw[Int.tdiv_eq_ediv_of_nonneg be,<-Int.natCast_ediv];rw[iM (Int.natCast_nonneg _)];omega
theorem Ec{n k j:Nat}(h:j+k=8):(fv k n).set j (At.v (.int .u8 ((48+n / 10^k % 10:Nat):Int)))=fv (k+1) n:=by
 apply aj;intro i;by_cases R:i<9
 .by_cases Qg:j=i
  .subst Qg;rw[aO (by simp[fv];omega)];simp[fv,R,show 9<=j+(k+1) by omega,show 8-j=k by omega]
  .rw[aV Qg];have:(9<=i+k)↔(9<=i+(k+1)):=by omega
   simp[fv,R,this]
 .rw[List.getElem?_eq_none (by simp[fv];omega),List.getElem?_eq_none (by simp[fv];omega)]
theorem yl{w:World}{v:Value}{n:Nat}(L:Old S w)(h:dQ w S v n)(U:n<1000000000):
  eD PG Fd.nS #[v] w (eL w fun v' _=>v'= .string (strOf (DL n))):=by
 have hnN:=h.arg [];obtain⟨a,m,c,rfl⟩:=h.shape;refine rf ce ?_;conv=>whnf
 refine⟨Bool×Value×Iv×World,fun z=>match z with
   |(false,v,iv,w1)=>⟨[(0,.o (.v v)),(3,sV none 0 0)],[],0,iv,w1⟩
   |(true,v,iv,w1)=>⟨[(0,.o (.v v)),(3,.o (.w 0 1))],[(0,.vec T.string 1 [.string (strOf (nine n))])],1,iv,w1⟩,
  fun z=>if z.1 then 0 else 1,fun z=>Bq w z.2.2.2/\dQ z.2.2.2 (Cv S w.heap.size z.2.2.1) z.2.1 (if z.1 then 0 else n)/\(z.1=true->n≠0),?_,?_⟩
 .intro O J r;exact⟨(false,_,[],J),⟨r.cV,hnN.rel r L,ce⟩,Sub.gen [] r trivial ⟨rfl,rfl,trivial⟩ trivial (by simp[ka,SV.sc,At.sc]) d5 (fun lo R h=>h)⟩
 clear hnN h;rintro⟨b,v,iv,w1⟩ ⟨Y,hv,Ri⟩;dsimp only at Y hv Ri;obtain⟨p,rfl,QV,Q8⟩:=hv.la;have Oq:=dX p.lm Q8;rw[QV]at Oq;have WN:=nA Oq
 cases b
 .simp only[Bool.false_eq_true,if_false]at hv QV Oq WN;conv=>whnf
  apply bS<;>intro h
  .have h:0<n:=WN.1 (by
    have:(p.ls.length:Int)>0:=aI h
    omega)
   conv=>whnf
   refine cM (cN (I9:=fun _ J v F=>∃q,v= .tuple #[q,.int .u32 (n:Int)]/\dQ F (Nf J F) q 0) (fun O J r=>?_) ?_)
   .obtain⟨ls,k1,k2,k3⟩:=hv.rel r L;have hl:=dX k1.lm k2;rw[k3]at hl;have:=Fa (b:=1000000000) (rlo r L) k1 (by have:=(gF (n:=n) (k:=1)).2 (show n<4294967296 by omega);omega) bv bv;rw[k3,bT U,Nat.div_eq_of_lt U]at this;exact this
   rintro O wa v1 wb r G PD ⟨q,rfl,hq⟩;replace Y:=Y.tr PD;have hQ:=hq.eX (S:=S) r.cR (iv:=(wa.heap.size,wb.heap.size)::iv) aF;clear r G hq hv PD;generalize (wa.heap.size,wb.heap.size)::iv=iv2 at*
   obtain⟨a1,m1,c1,rfl⟩:=hQ.shape;conv=>whnf
   refine⟨Nat×World,fun z=>⟨[(0,sV p.a p.ls.length p.c),(3,sV none 0 0),(4,sV a1 m1 c1),(5,.o (.v (.int .u32 ((n / 10^z.1:Nat):Int)))),(6,pP 0 0),(7,.o (.v (iV (8-(z.1:Int)))))],[(0,.box T.IK (fv z.1 n))],1,iv2,z.2⟩,
    fun z=>9-z.1,fun z=>z.1<=9/\Bq w z.2/\dQ z.2 (Cv S w.heap.size iv2) (.slice a1 m1 c1) 0,?_,?_⟩
   .intro O J r;exact⟨(0,J),⟨ce,Y.tr r.cV,hQ.rel r L⟩,Sub.gen [] r ⟨rfl,trivial⟩ ⟨rfl,rfl,rfl,by simp;rfl,rfl,rfl,trivial⟩ (by simp[zc,jL.scopd,fv,At.sc]) (by simp[ka,SV.sc,At.sc]) d5 (fun lo R h=>h)⟩
   clear Y hQ;rintro⟨k,F⟩ ⟨Z,Y,hQ⟩;dsimp only at Z Y hQ ⊢;have Vt:k<9\/k=9:=by omega
   rcases Vt with hk9|rfl
   .have hdiv:n / 10^k / 10=n / 10^(k+1):=by rw[Nat.div_div_eq_div_mul,Nat.pow_succ]
    have hle:=Nat.div_le_self n (10^k);have Pp:∀j,j+k=8->(fv k n).set j (At.v (.int .u8 ((48+n / 10^k % 10:Nat):Int)))=fv (k+1) n:=fun j hj=>Ec hj;generalize n / 10^k=x at*
    have hcases:k=0\/k=1\/k=2\/k=3\/k=4\/k=5\/k=6\/k=7\/k=8:=by omega
    rcases hcases with rfl|rfl|rfl|rfl|rfl|rfl|rfl|rfl|rfl
    .conv=>whnf
     refine⟨bv,((x % 10:Nat):Int),ki x 10,?_⟩;conv=>whnf
     refine⟨((48+x % 10:Nat):Int),by rw[iM]<;>omega,?_⟩;conv=>whnf
     refine⟨((48+x % 10:Nat):Int),jC be,?_⟩;conv=>whnf
     refine⟨⟨bv,bv⟩,?_⟩;conv=>whnf
     refine⟨bv,((x / 10:Nat):Int),oq be,?_⟩;conv=>whnf
     refine⟨8-((0+1:Nat):Int),bv,?_⟩;conv=>whnf
     intro IR w3 r3;have hs:=Pp 8 rfl;exact⟨(0+1,w3),⟨by dsimp only;omega,Y.tr r3.cV,hQ.rel r3 L⟩,Sub.gen [] r3 ⟨by rw[<-hs];rfl,trivial⟩ ⟨rfl,rfl,rfl,by rw[<-hdiv];rfl,rfl,rfl,trivial⟩ (by simp[zc,jL.scopd,fv,At.sc]) (by simp[ka,SV.sc,At.sc]) d5 (fun lo R h=>h),by dsimp only;omega⟩
    .conv=>whnf
     refine⟨bv,((x % 10:Nat):Int),ki x 10,?_⟩;conv=>whnf
     refine⟨((48+x % 10:Nat):Int),by rw[iM]<;>omega,?_⟩;conv=>whnf
     refine⟨((48+x % 10:Nat):Int),jC be,?_⟩;conv=>whnf
     refine⟨⟨bv,bv⟩,?_⟩;conv=>whnf
     refine⟨bv,((x / 10:Nat):Int),oq be,?_⟩;conv=>whnf
     refine⟨8-((1+1:Nat):Int),bv,?_⟩;conv=>whnf
     intro IR w3 r3;have hs:=Pp 7 rfl;exact⟨(1+1,w3),⟨by dsimp only;omega,Y.tr r3.cV,hQ.rel r3 L⟩,Sub.gen [] r3 ⟨by rw[<-hs];rfl,trivial⟩ ⟨rfl,rfl,rfl,by rw[<-hdiv];rfl,rfl,rfl,trivial⟩ (by simp[zc,jL.scopd,fv,At.sc]) (by simp[ka,SV.sc,At.sc]) d5 (fun lo R h=>h),by dsimp only;omega⟩
    .conv=>whnf
     refine⟨bv,((x % 10:Nat):Int),ki x 10,?_⟩;conv=>whnf
     refine⟨((48+x % 10:Nat):Int),by rw[iM]<;>omega,?_⟩;conv=>whnf
     refine⟨((48+x % 10:Nat):Int),jC be,?_⟩;conv=>whnf
     refine⟨⟨bv,bv⟩,?_⟩;conv=>whnf
     refine⟨bv,((x / 10:Nat):Int),oq be,?_⟩;conv=>whnf
     refine⟨8-((2+1:Nat):Int),bv,?_⟩;conv=>whnf
     intro IR w3 r3;have hs:=Pp 6 rfl;exact⟨(2+1,w3),⟨by dsimp only;omega,Y.tr r3.cV,hQ.rel r3 L⟩,Sub.gen [] r3 ⟨by rw[<-hs];rfl,trivial⟩ ⟨rfl,rfl,rfl,by rw[<-hdiv];rfl,rfl,rfl,trivial⟩ (by simp[zc,jL.scopd,fv,At.sc]) (by simp[ka,SV.sc,At.sc]) d5 (fun lo R h=>h),by dsimp only;omega⟩
    .conv=>whnf
     refine⟨bv,((x % 10:Nat):Int),ki x 10,?_⟩;conv=>whnf
     refine⟨((48+x % 10:Nat):Int),by rw[iM]<;>omega,?_⟩;conv=>whnf
     refine⟨((48+x % 10:Nat):Int),jC be,?_⟩;conv=>whnf
     refine⟨⟨bv,bv⟩,?_⟩;conv=>whnf
     refine⟨bv,((x / 10:Nat):Int),oq be,?_⟩;conv=>whnf
     refine⟨8-((3+1:Nat):Int),bv,?_⟩;conv=>whnf
     intro IR w3 r3;have hs:=Pp 5 rfl;exact⟨(3+1,w3),⟨by dsimp only;omega,Y.tr r3.cV,hQ.rel r3 L⟩,Sub.gen [] r3 ⟨by rw[<-hs];rfl,trivial⟩ ⟨rfl,rfl,rfl,by rw[<-hdiv];rfl,rfl,rfl,trivial⟩ (by simp[zc,jL.scopd,fv,At.sc]) (by simp[ka,SV.sc,At.sc]) d5 (fun lo R h=>h),by dsimp only;omega⟩
    .conv=>whnf
     refine⟨bv,((x % 10:Nat):Int),ki x 10,?_⟩;conv=>whnf
     refine⟨((48+x % 10:Nat):Int),by rw[iM]<;>omega,?_⟩;conv=>whnf
     refine⟨((48+x % 10:Nat):Int),jC be,?_⟩;conv=>whnf
     refine⟨⟨bv,bv⟩,?_⟩;conv=>whnf
     refine⟨bv,((x / 10:Nat):Int),oq be,?_⟩;conv=>whnf
     refine⟨8-((4+1:Nat):Int),bv,?_⟩;conv=>whnf
     intro IR w3 r3;have hs:=Pp 4 rfl;exact⟨(4+1,w3),⟨by dsimp only;omega,Y.tr r3.cV,hQ.rel r3 L⟩,Sub.gen [] r3 ⟨by rw[<-hs];rfl,trivial⟩ ⟨rfl,rfl,rfl,by rw[<-hdiv];rfl,rfl,rfl,trivial⟩ (by simp[zc,jL.scopd,fv,At.sc]) (by simp[ka,SV.sc,At.sc]) d5 (fun lo R h=>h),by dsimp only;omega⟩
    .conv=>whnf
     refine⟨bv,((x % 10:Nat):Int),ki x 10,?_⟩;conv=>whnf
     refine⟨((48+x % 10:Nat):Int),by rw[iM]<;>omega,?_⟩;conv=>whnf
     refine⟨((48+x % 10:Nat):Int),jC be,?_⟩;conv=>whnf
     refine⟨⟨bv,bv⟩,?_⟩;conv=>whnf
     refine⟨bv,((x / 10:Nat):Int),oq be,?_⟩;conv=>whnf
     refine⟨8-((5+1:Nat):Int),bv,?_⟩;conv=>whnf
     intro IR w3 r3;have hs:=Pp 3 rfl;exact⟨(5+1,w3),⟨by dsimp only;omega,Y.tr r3.cV,hQ.rel r3 L⟩,Sub.gen [] r3 ⟨by rw[<-hs];rfl,trivial⟩ ⟨rfl,rfl,rfl,by rw[<-hdiv];rfl,rfl,rfl,trivial⟩ (by simp[zc,jL.scopd,fv,At.sc]) (by simp[ka,SV.sc,At.sc]) d5 (fun lo R h=>h),by dsimp only;omega⟩
    .conv=>whnf
     refine⟨bv,((x % 10:Nat):Int),ki x 10,?_⟩;conv=>whnf
     refine⟨((48+x % 10:Nat):Int),by rw[iM]<;>omega,?_⟩;conv=>whnf
     refine⟨((48+x % 10:Nat):Int),jC be,?_⟩;conv=>whnf
     refine⟨⟨bv,bv⟩,?_⟩;conv=>whnf
     refine⟨bv,((x / 10:Nat):Int),oq be,?_⟩;conv=>whnf
     refine⟨8-((6+1:Nat):Int),bv,?_⟩;conv=>whnf
     intro IR w3 r3;have hs:=Pp 2 rfl;exact⟨(6+1,w3),⟨by dsimp only;omega,Y.tr r3.cV,hQ.rel r3 L⟩,Sub.gen [] r3 ⟨by rw[<-hs];rfl,trivial⟩ ⟨rfl,rfl,rfl,by rw[<-hdiv];rfl,rfl,rfl,trivial⟩ (by simp[zc,jL.scopd,fv,At.sc]) (by simp[ka,SV.sc,At.sc]) d5 (fun lo R h=>h),by dsimp only;omega⟩
    .conv=>whnf
     refine⟨bv,((x % 10:Nat):Int),ki x 10,?_⟩;conv=>whnf
     refine⟨((48+x % 10:Nat):Int),by rw[iM]<;>omega,?_⟩;conv=>whnf
     refine⟨((48+x % 10:Nat):Int),jC be,?_⟩;conv=>whnf
     refine⟨⟨bv,bv⟩,?_⟩;conv=>whnf
     refine⟨bv,((x / 10:Nat):Int),oq be,?_⟩;conv=>whnf
     refine⟨8-((7+1:Nat):Int),bv,?_⟩;conv=>whnf
     intro IR w3 r3;have hs:=Pp 1 rfl;exact⟨(7+1,w3),⟨by dsimp only;omega,Y.tr r3.cV,hQ.rel r3 L⟩,Sub.gen [] r3 ⟨by rw[<-hs];rfl,trivial⟩ ⟨rfl,rfl,rfl,by rw[<-hdiv];rfl,rfl,rfl,trivial⟩ (by simp[zc,jL.scopd,fv,At.sc]) (by simp[ka,SV.sc,At.sc]) d5 (fun lo R h=>h),by dsimp only;omega⟩
    .conv=>whnf
     refine⟨bv,((x % 10:Nat):Int),ki x 10,?_⟩;conv=>whnf
     refine⟨((48+x % 10:Nat):Int),by rw[iM]<;>omega,?_⟩;conv=>whnf
     refine⟨((48+x % 10:Nat):Int),jC be,?_⟩;conv=>whnf
     refine⟨⟨bv,bv⟩,?_⟩;conv=>whnf
     refine⟨bv,((x / 10:Nat):Int),oq be,?_⟩;conv=>whnf
     refine⟨8-((8+1:Nat):Int),bv,?_⟩;conv=>whnf
     intro IR w3 r3;have hs:=Pp 0 rfl;exact⟨(8+1,w3),⟨by dsimp only;omega,Y.tr r3.cV,hQ.rel r3 L⟩,Sub.gen [] r3 ⟨by rw[<-hs];rfl,trivial⟩ ⟨rfl,rfl,rfl,by rw[<-hdiv];rfl,rfl,rfl,trivial⟩ (by simp[zc,jL.scopd,fv,At.sc]) (by simp[ka,SV.sc,At.sc]) d5 (fun lo R h=>h),by dsimp only;omega⟩
   .have hn9:fv 9 n=(nine n).map fun b:Nat=>At.v (.int .u8 (b:Int)):=by
     apply aj;intro i;by_cases R:i<9
     .simp[fv,nine,R]
     .rw[List.getElem?_eq_none (by simp[fv];omega),List.getElem?_eq_none (by simp[nine];omega)]
    rw[hn9];have hl9:(nine n).length=9:=by simp[nine]
    generalize nine n=bs at*
    clear hn9;conv=>whnf
    refine Ja (e:=T.uint8) (bs:=bs) ((hτ T.LJ _ rfl).i4 rfl) ((hτ T.uint8 _ rfl).i1 rfl) wu d5 d5 hl9 (fun O w3 r=>?_);replace Y:=Y.tr r.cV;replace hQ:=hQ.rel r L;clear r;generalize strOf bs=str at*
    conv=>whnf
    refine .inl ?_;conv=>whnf
    refine⟨[],rfl,ce,fun O J r h0=>absurd h0 bv,?_⟩;conv=>whnf
    refine⟨rfl,bv,bv,?_⟩;conv=>whnf
    intro IR w3 r3;exact⟨(true,.slice a1 m1 c1,iv2,w3),⟨Y.tr r3.cV,hQ.rel r3 L,fun _=>be⟩,sbgn [(0,2)] r3,ce⟩
  .have h:n=0:=by
    have:¬(p.ls.length:Int)>0:=aL h;omega
   subst h;conv=>whnf
   refine cM (cN (I9:=fun _ _ v _=>v= .string ⟨#[]⟩) (fun O J r=>Eb none 0 J) ?_);rintro O wa v wb r G N rfl;replace Y:=Y.tr N;clear r G;conv=>whnf
   refine cM (cN (I9:=fun _ _ v _=>v= .string ⟨#[]⟩) (fun O J r=>yj [] J ce bv) ?_);rintro O wa v wb r G N rfl;replace Y:=Y.tr N;clear r G;conv=>whnf
   exact rtn Y fun I8 we re=>rfl
 .simp only[if_true]at hv QV Oq WN;have hz:p.ls.length=0:=by omega
  have hn0:=Ri rfl;have OL:(strOf ((nine n).dropWhile (· ==48))).data.toList≠[]:=by
   rw[jr];simpa using KK hn0 U
  have Ul:DL n=(nine n).dropWhile (· ==48):=aK hn0;have key:=fun J=>yj (nine n) J (KL n) (by simp[nine];decide);rw[Ul];clear Ul;generalize strOf ((nine n).dropWhile (· ==48))=out at*
  generalize strOf (nine n)=str at*
  rw[hz];conv=>whnf
  refine cM (cN (I9:=fun _ _ v _=>v= .string str) (fun O J r=>?_) ?_)
  .exact HH (S:=fun g=>w.heap.size<=g/\g<J.heap.size) (fun g V=>V.2) (r.oo (id:=0) (sz:=1) (m:=1) rfl rfl bv bv (by simp[Value.oneCell']))
  rintro O wa v wb r G N rfl;replace Y:=Y.tr N;clear r G;conv=>whnf
  refine cM (cN (I9:=fun _ _ v _=>v= .string out) (fun O J r=>key J) ?_);rintro O wa v wb r G N rfl;replace Y:=Y.tr N;clear r G;conv=>whnf
  apply bS<;>intro h
  .exact absurd (eq_of_beq h) OL
  .conv=>whnf
   exact rtn Y fun I8 we re=>rfl
end
variable{M:List (List Value)}{qs:List Rat}{cs xs:List Value}{i j n:Nat}{S:Nat->Prop}{O:Nat->Sx.dc}{q:Rat}{f:Rat->Rat}{v:Value}{w:World}
def signed:Bool->ByteArray->ByteArray
 |true,s=>⟨#[45]⟩++s
 |false,s=>s
def B7(q:Rat):ByteArray:=signed (decide (q.num<0)) (strOf (DL q.num.natAbs))
def H5(q:Rat):ByteArray:=match decide (q.den=1)with
 |true=>B7 q
 |false=>B7 q++(⟨#[47]⟩++strOf (DL q.den))
theorem B8(n:Nat):(DL n).length<=9:=by
 unfold DL;split
 .decide
 .exact aP (List.Sublist.length_le (List.dropWhile_sublist _)) (by simp[nine])
theorem HI(q:Rat):(B7 q).size<=10:=by
 have W:=B8 q.num.natAbs;unfold B7
 cases decide (q.num<0)
 .show(strOf _).size<=10;rw[ir];omega
 .show(⟨#[45]⟩++strOf _:ByteArray).size<=10;rw[ByteArray.size_append,ir];show 1+_<=10;omega
theorem Lf(L:Old S w)(hf:cY w S v q)(U:q.num.natAbs<1000000000)(hd:q.den<1000000000):
  eD PG Fd.kv #[v] w (eL w fun v' _=>v'= .string (H5 q)):=by
 have Y:=bR w;replace hf:=hf.cO (S':=Cv S w.heap.size []) fun _ h=>.inl h;obtain⟨b1,a1,n1,c1,b2,a2,n2,c2,rfl⟩:=hf.shape;have S3:=hf.num.nat;have Pb:=hf.den;clear hf;obtain⟨RK,S3⟩:=S3;have Rn:=B8 q.num.natAbs;have QU:=B8 q.den;have hts:=HI q;have hA:B7 q=signed b1 (strOf (DL q.num.natAbs)):=by rw[RK];rfl
 have Uu:=ir (DL q.num.natAbs);have R9:=ir (DL q.den);refine oW ce ?_;conv=>whnf
 refine cM (cE Y (pE (.string (strOf (DL q.num.natAbs)))) (fun O J r=>yl (rlo r L) (S3.rel r L) U) ?_);rintro O _ _ _ OS r G Y A rfl;clear S3;replace Pb:=Pb.cL r L G (mC A);clear r;conv=>whnf
 generalize strOf (DL q.num.natAbs)=s1 at*
 have hln1:ln q.den<=1:=gF.2 (show q.den<4294967296 by omega)
 cases b1
 .conv=>whnf
  refine dP (idO 5) ?_;conv=>whnf
  refine cE Y (pR dw 1) (fun O J r=>kH 1 J bv bv) ?_;rintro O Pc v2 PK iv2 r G Y A U;replace Pb:=Pb.cL r L G (mC A);have hO:=U.cO (nw r A);clear r U;obtain⟨A0,A1,A2,A3,rfl⟩:=hO.shape;conv=>whnf
  refine cE Y (pE (iV ((q.den:Int)-1).sign)) (fun O J r=>yR (rlo r L) (Pb.rel r L) ((hO.rel r oF).cO fun g V=>V.elim (fun k=>k.elim) .inr) (aP hln1 bv) bv) ?_;rintro O PT v3 PX OR r G Y A rfl;replace Pb:=Pb.cL r L G (mC A);clear hO;clear r;conv=>whnf
  apply bS<;>intro h
  .have h:q.den≠1:=fun e=>by rw[e]at h;exact absurd h bv
   have Vu:=Pb.nat.2;clear Pb;conv=>whnf
   refine cM (cE Y (pE (.string (strOf (DL q.den)))) (fun O J r=>yl (rlo r L) (Vu.rel r L) hd) ?_);rintro O QX v4 QA Ob r G Y A rfl;clear Vu;clear r;conv=>whnf
   have ht:H5 q=B7 q++(⟨#[47]⟩++strOf (DL q.den)):=by unfold H5;rw[av h]
   rw[ht,hA];clear ht hA;generalize strOf (DL q.den)=s2 at*
   refine⟨by show 1+s2.size<=maxLen;unfold maxLen;omega,?_⟩;conv=>whnf
   refine⟨by simp only[ByteArray.size_append];have k1:(ByteArray.mk #[45]).size=1:=rfl;have k2:(ByteArray.mk #[47]).size=1:=rfl;unfold maxLen;omega,?_⟩;conv=>whnf
   exact rtn Y fun I8 we re=>rfl
  .have h:q.den=1:=by
    have h0:((q.den:Int)-1).sign=0:=by
     have W:(((q.den:Int)-1).sign==0)=true:=by simpa using h
     exact eq_of_beq W
    have:=bX.1 h0;omega
   have ht:H5 q=B7 q:=by unfold H5;rw[bQ h]
   rw[ht,hA];clear ht hA;conv=>whnf
   exact rtn Y fun I8 we re=>rfl
 .conv=>whnf
  refine⟨by show 1+s1.size<=maxLen;unfold maxLen;omega,?_⟩;conv=>whnf
  refine dP (idO 5) ?_;conv=>whnf
  refine cE Y (pR dw 1) (fun O J r=>kH 1 J bv bv) ?_;rintro O _ _ _ iv2 r G Y A U;replace Pb:=Pb.cL r L G (mC A);have hO:=U.cO (nw r A);clear r U;obtain⟨A0,A1,A2,A3,rfl⟩:=hO.shape;conv=>whnf
  refine cE Y (pE (iV ((q.den:Int)-1).sign)) (fun O J r=>yR (rlo r L) (Pb.rel r L) ((hO.rel r oF).cO fun g V=>V.elim (fun k=>k.elim) .inr) (aP hln1 bv) bv) ?_;rintro O _ _ _ OR r G Y A rfl;replace Pb:=Pb.cL r L G (mC A);clear hO;clear r;conv=>whnf
  apply bS<;>intro h
  .have h:q.den≠1:=fun e=>by rw[e]at h;exact absurd h bv
   have Vu:=Pb.nat.2;clear Pb;conv=>whnf
   refine cM (cE Y (pE (.string (strOf (DL q.den)))) (fun O J r=>yl (rlo r L) (Vu.rel r L) hd) ?_);rintro O _ _ _ Ob r G Y A rfl;clear Vu;clear r;conv=>whnf
   have ht:H5 q=B7 q++(⟨#[47]⟩++strOf (DL q.den)):=by unfold H5;rw[av h]
   rw[ht,hA];clear ht hA;generalize strOf (DL q.den)=s2 at*
   refine⟨by show 1+s2.size<=maxLen;unfold maxLen;omega,?_⟩;conv=>whnf
   refine⟨by simp only[ByteArray.size_append];have k1:(ByteArray.mk #[45]).size=1:=rfl;have k2:(ByteArray.mk #[47]).size=1:=rfl;unfold maxLen;omega,?_⟩;conv=>whnf
   exact rtn Y fun I8 we re=>rfl
  .have h:q.den=1:=by
    have h0:((q.den:Int)-1).sign=0:=by
     have W:(((q.den:Int)-1).sign==0)=true:=by simpa using h
     exact eq_of_beq W
    have:=bX.1 h0;omega
   have ht:H5 q=B7 q:=by unfold H5;rw[bQ h]
   rw[ht,hA];clear ht hA;conv=>whnf
   exact rtn Y fun I8 we re=>rfl
theorem DM{x y:Int}(L:Old S w)(E:kU w S v x y)(QI:ln x.natAbs<=10000000000)(RM:ln y.natAbs<=10000000000)(U:(ratio x y).num.natAbs<1000000000)(hd:(ratio x y).den<1000000000):
  eD PG Fd.oO #[v] w (eL w fun v' _=>v'= .string (H5 (ratio x y))):=by
 have Y:=bR w;replace E:=E.cO (S':=Cv S w.heap.size []) fun _ h=>.inl h;obtain⟨b1,a1,n1,c1,b2,a2,n2,c2,rfl⟩:=E.shape;refine vu ce ?_;conv=>whnf
 refine cM (cE Y (pR cY (ratio x y)) (fun O J r=>BT (rlo r L) (E.rel r L) be be) ?_);rintro O _ _ _ OS r G Y A U;clear E;have hF:=U.cO (nw r A);clear r U;obtain⟨A0,A1,A2,A3,A4,A5,A6,A7,rfl⟩:=hF.shape;conv=>whnf
 refine cM (cE Y (pE (.string (H5 (ratio x y)))) (fun O J r=>Lf (rlo r oF) (hF.rel r oF) U hd) ?_);rintro O _ _ _ iv2 r G Y A rfl;clear hF;clear r;conv=>whnf
 exact rtn Y fun I8 we re=>rfl
def jP(w:World)(S:Nat->Prop)(cs:List Value)(q:Rat):Prop:=∃b a n c b2 a2 n2 c2,cs=(rC b a n c b2 a2 n2 c2)/\cY w S (.agg #[.bool b,.slice a n c,.bool b2,.slice a2 n2 c2]) q
def Fr(w:World)(S:Nat->Prop)(M:List (List Value))(qs:List Rat):Prop:=M.length=qs.length/\∀(j:Nat) cs q,M[j]? =some cs->qs[j]? =some q->jP w S cs q
section
variable{S S':Nat->Prop}{w F:World}{cs:List Value}{M:List (List Value)}{q:Rat}{qs:List Rat}
theorem jP.cP(h:jP w S cs q)(Z:∀g,S g->F.heap[g]? =w.heap[g]?):jP F S cs q:=by
 obtain⟨b,a,n,c,b2,a2,n2,c2,W,I⟩:=h;exact⟨b,a,n,c,b2,a2,n2,c2,W,I.cP Z⟩
theorem jP.cO(h:jP w S cs q)(Z:∀g,S g->S' g):jP w S' cs q:=by
 obtain⟨b,a,n,c,b2,a2,n2,c2,W,I⟩:=h;exact⟨b,a,n,c,b2,a2,n2,c2,W,I.cO Z⟩
theorem jP.len(h:jP w S cs q):cs.length=4:=by obtain⟨_,_,_,_,_,_,_,_,rfl,_⟩:=h;rfl
theorem cY.four{b b2:Bool}{a a2:Option Addr}{c n2 c2:Nat}(h:cY w S (.agg #[.bool b,.slice a n c,.bool b2,.slice a2 n2 c2]) q):jP w S (rC b a n c b2 a2 n2 c2) q:=⟨_,_,_,_,_,_,_,_,rfl,h⟩
theorem Fr.cP(h:Fr w S M qs)(Z:∀g,S g->F.heap[g]? =w.heap[g]?):Fr F S M qs:=⟨h.1,fun j cs q W I=>(h.2 j cs q W I).cP Z⟩
theorem Fr.cO(h:Fr w S M qs)(Z:∀g,S g->S' g):Fr w S' M qs:=⟨h.1,fun j cs q W I=>(h.2 j cs q W I).cO Z⟩
theorem Fr.rj(h:Fr w S M qs):∀cs∈M,cs.length=4:=fun cs hc=>by
 obtain⟨j,hj⟩:=aY hc;have hl:=(aH.1 hj).1;exact(h.2 j cs _ hj (aE (by rw[<-h.1];exact hl))).len
theorem Fr.one(h:Fr w S M qs):∀u∈M.flatten,u.oneCell'=true:=fun u hu=>by
 obtain⟨cs,hc,hu⟩:=List.mem_flatten.1 hu;obtain⟨j,hj⟩:=aY hc;have hl:=(aH.1 hj).1;obtain⟨_,_,_,_,_,_,_,_,rfl,_⟩:=h.2 j cs _ hj (aE (by rw[<-h.1];exact hl));simp at hu;rcases hu with rfl|rfl|rfl|rfl<;>rfl
theorem Fr.set(h:Fr w S M qs)(hq:jP w S cs q):Fr w S (M.set j cs) (qs.set j q):=by
 refine⟨by simp[h.1],fun i c p W I=>?_⟩;by_cases Qg:j=i
 .subst Qg;have hl:=(aH.1 W).1;rw[aO (by simpa using hl)]at W;rw[aO (by have:=h.1;simp at hl;omega)]at I;injection W with W;injection I with I;subst W I;exact hq
 .rw[aV Qg]at W I;exact h.2 i c p W I
end
section
variable{S S':Nat->Prop}{H:Hp}{nx:Nat}{iv K:Iv}{B:Nat}{w J F:World}{O:Nat->Sx.dc}{M:List (List Value)}{qs:List Rat}
theorem Fr.rel(h:Fr w (Cv S B iv) M qs)(r:Rel H nx iv B w O J)(L:∀g,S g->g<B):Fr J (Cv S B iv) M qs:=h.cP fun _ V=>rls r L V
theorem Fr.cL(h:Fr w (Cv S B iv) M qs)(r:Rel H nx iv B w O J)(L:∀g,S g->g<B)(G:Ext J F)(hm:∀p,p∈iv->p∈K):Fr F (Cv S B K) M qs:=
 ((h.rel r L).cP fun g V=>G.block g (rlo r L g V)).cO fun _ V=>V.mono hm
theorem Fr.arg(h:Fr w S M qs)(iv:Iv):Fr w (Cv S w.heap.size iv) M qs:=h.cO fun _ h=>.inl h
end
theorem gZ:∀{M:List (List Value)},(∀cs∈M,cs.length=4)->M.flatten.length=M.length*4
 |[],_=>rfl
 |c::r,h=>by
  rw[List.flatten_cons,aU,gZ (fun cs hc=>h cs (aD _ hc)),h c aF,bZ];omega
theorem flat_get:∀{M:List (List Value)} {j:Nat} {cs:List Value},(∀cs∈M,cs.length=4)->M[j]? =some cs->∀k u,cs[k]? =some u->M.flatten[j*4+k]? =some u
 |[],j,cs,_,hj,_,_,_=>by simp at hj
 |c::r,0,cs,h,hj,k,u,hu=>by
  simp at hj;subst hj;rw[List.flatten_cons,aQ (by have:=(aH.1 hu).1;omega)];simpa using hu
 |c::r,j+1,cs,h,hj,k,u,hu=>by
  have hc:=h c aF;rw[List.flatten_cons,aW be,hc,show(j+1)*4+k-4=j*4+k by omega];exact flat_get (fun cs hc=>h cs (aD _ hc)) (by simpa using hj) k u hu
theorem mH:∀{M:List (List Value)} {j:Nat} {cs:List Value},(∀cs∈M,cs.length=4)->j<M.length->M.flatten.take (j*4)++cs++M.flatten.drop (j*4+4)=(M.set j cs).flatten
 |[],j,cs,_,hj=>by simp at hj
 |c::r,0,cs,h,_=>by
  have hc:=h c aF;simp[List.flatten_cons,hc]
 |c::r,j+1,cs,h,hj=>by
  have hc:=h c aF
  rw[List.flatten_cons,show(j+1)*4=c.length+j*4 by omega,List.take_length_add_append,show c.length+j*4+4=c.length+(j*4+4) by omega,List.drop_length_add_append,List.set_cons_succ,List.flatten_cons,
   <-mH (fun cs hc=>h cs (aD _ hc)) (by simpa using hj),bg,bg,bg]
abbrev Out(B:Nat)(iv:Iv):Nat->Prop:=Cv (fun g=>g<B) B iv
theorem iL{H:Hp}{nx:Nat}{iv:Iv}{B Bc e sz m:Nat}{J:World}(h:w.ownsRow Bc e sz v m xs)(hc:∀g,v.ownBlock=some g->Out B iv g)(r:Rel H nx iv B w O J):J.ownsRow Bc e sz v m xs:=
 ownsRow.cP h fun b N=>rls r (fun _ h=>h) (hc b N)
theorem qt{a:Option Addr}{c:Nat}(h:w.ownsRow 0 T.cw 4 (.slice a n c) n M.flatten)(hf:Fr w S M qs)(hj:M[j]? =some cs):
  ∃g,a=some ⟨g,0,none⟩/\∀k u,cs[k]? =some u->w.cell? ((Addr.add ⟨g,0,none⟩ (j*4)).add k)=some u:=by
 rcases h.2 with⟨W,h0⟩|⟨g,cap,cur,RD,_⟩
 .have:=h.1;rw[gZ hf.rj]at this;have:=(aH.1 hj).1;omega
 .injection RD with W I h3;subst W;refine⟨g,rfl,fun k u hu=>?_⟩;have:=h.cells (g:=g) rfl (j*4+k) u (flat_get hf.rj hj k u hu);rw[cd,cd];rw[cd]at this;rw[Nat.add_assoc];exact this
theorem rR:PG.underlying T.row=some (.slice T.cw):=(hτ T.row _ rfl).i4 rfl
def upto(i:Nat)(f:Rat->Rat)(qs:List Rat):List Rat:=qs.mapIdx fun j q=>if j<i then f q else q
theorem HJ(f:Rat->Rat)(qs:List Rat):upto 0 f qs=qs:=by
 apply aj;intro j;simp[upto]
theorem Iw(f:Rat->Rat)(qs:List Rat):upto qs.length f qs=qs.map f:=by
 apply aj;intro j;simp only[upto,List.getElem?_mapIdx,aS]
 cases h:qs[j]? with
 |none=>rfl
 |some q=>simp[(aH.1 h).1]
theorem HK(h:qs[i]? =some q):(upto i f qs).set i (f q)=upto (i+1) f qs:=by
 apply aj;intro j;have R:=(aH.1 h).1;by_cases Qg:i=j
 .subst Qg;rw[aO (by simp[upto];exact R)];simp[upto,List.getElem?_mapIdx,h]
 .rw[aV Qg];simp only[upto,List.getElem?_mapIdx]
  have:(j<i)↔(j<i+1):=by omega
  simp[this]
theorem KM:(upto i f qs)[i]? =qs[i]? :=by
 simp only[upto,List.getElem?_mapIdx]
 cases qs[i]? <;>simp
theorem dg{w1 F:World}{row:Option Nat}(h:w.grownBy w1 row)(k:Bel w.heap.size w1 F):w.grownBy F row:=
 ⟨k.os.trans h.os,k.tape.trans h.tape,k.output.trans h.output,aP h.size k.size,fun b N U=>(k.block b N).trans (h.block b N U)⟩
theorem tX{vby:Value}{p:Rat}(L:Old S w)(OI:w.ownsRow 0 T.cw 4 v n M.flatten)(Po:Fr w S M qs)(QM:M.length=n)(Om:cY w S vby p)
  (hdis:∀g,v.ownBlock=some g->¬S g) (hq:∀q∈qs,rl q<=10000000000) (N:rl p<=10000000000):
  eD PG Fd.kg #[v,vby] w (fun e F=>e= .returned (.tuple #[])/\w.grownBy F v.ownBlock/\∃css',F.ownsRow 0 T.cw 4 v n css'.flatten/\css'.length=n/\Fr F (Nw S w F) css' (qs.map (· *p))):=by
 have ON:∀g,v.ownBlock=some g->g<w.heap.size:=fun g V=>(ownsRow.low OI g V).2;have Py:∀iv g,v.ownBlock=some g->Out w.heap.size iv g:=fun iv g V=>.inl (ON g V);have Vw:∀iv g,v.ownBlock=some g->¬Cv S w.heap.size iv g:=fun iv g V h=>by
  rcases h with h|⟨h,_⟩
  .exact hdis g V h
  .have:=ON g V;omega
 have VT:n<=maxLen:=by
  rcases OI.2 with⟨_,h0⟩|⟨_,_,_,_,_,_,W,I,_⟩
  .omega
  .omega
 unfold maxLen at VT;have To:qs.length=n:=by rw[<-Po.1,QM]
 obtain⟨a,c,rfl,So⟩:=eK OI;obtain⟨b1,a1,n1,c1,b2,a2,n2,c2,rfl⟩:=Om.shape;replace Po:=Po.arg [];replace Om:=Om.arg [];refine sY ce ?_;conv=>whnf
 refine⟨Nat×List (List Value)×Iv×World,fun z=>⟨[(0,sV a n c),(3,pP 0 0),(6,sV a n c),(7,iZ n),(8,iZ z.1)],
   [(0,.box T.cw [.v (.bool b1),.v (.slice a1 n1 c1),.v (.bool b2),.v (.slice a2 n2 c2)])],1,z.2.2.1,z.2.2.2⟩,fun z=>n-z.1,
  fun z=>z.1<=n/\w.grownBy z.2.2.2 (Value.slice a n c).ownBlock/\z.2.2.2.ownsRow 0 T.cw 4 (.slice a n c) n z.2.1.flatten/\z.2.1.length=n/\Fr z.2.2.2 (Cv S w.heap.size z.2.2.1) z.2.1 (upto z.1 (· *p) qs)/\
   cY z.2.2.2 (Cv S w.heap.size z.2.2.1) (.agg #[.bool b1,.slice a1 n1 c1,.bool b2,.slice a2 n2 c2]) p,?_,?_⟩
 .intro O J r
  refine⟨(0,M,[],J),⟨ce,mg r.cV,iL OI (Py []) r,QM,by rw[HJ];exact Po.rel r L,Om.rel r L⟩,
   sbgn [] r⟩
 clear OI Po Om QM;rintro⟨i,M,iv,w1⟩ ⟨R,V,OI,QM,Po,Om⟩;dsimp only at R V OI QM Po Om ⊢;conv=>whnf
 apply bS<;>intro h
 .have h:=dL h;obtain⟨cs,Oz⟩:=gO M i;obtain⟨q,Sn⟩:=gO qs i;have hF:=Po.2 i cs q Oz (by rw[KM];exact Sn);obtain⟨g,rfl,Oj⟩:=qt OI Po Oz;obtain⟨d1,e1,m1,k1,d2,e2,m2,k2,rfl,hF⟩:=hF;have hrlq:=hq q (aG Sn);conv=>whnf
  refine⟨⟨g,0,none⟩,rfl,be,?_⟩;conv=>whnf
  refine⟨rC d1 e1 m1 k1 d2 e2 m2 k2,rfl,fun O J r j x E=>?_,?_⟩
  .have:=qt (iL OI (Py iv) r) (Po.rel r L) Oz;obtain⟨g',W,I⟩:=this;injection W with W;rw[<-W]at I;exact I j x E
  conv=>whnf
  refine cM (cN (I9:=fun _ J v F=>cY F (Nf J F) v (q*p)) (fun O J r=>nd (rlo r L) (hF.rel r L) (Om.rel r L) hrlq N) ?_);rintro O wa v1 wb r G OQ hP;have Rs:=hP.eX (S:=S) r.cR (iv:=(wa.heap.size,wb.heap.size)::iv) aF;replace Om:=Om.cL (K:=(wa.heap.size,wb.heap.size)::iv) r L G fun x E=>aD _ E;replace Po:=Po.cL (K:=(wa.heap.size,wb.heap.size)::iv) r L G fun x E=>aD _ E;have Ox:wb.ownsRow 0 T.cw 4 (.slice (some ⟨g,0,none⟩) n c) n M.flatten:=ownsRow.cP (iL OI (Py iv) r) fun b N=>G.block b (by have:=ON b N;have:=r.cR;omega);replace V:w.grownBy wb _:=dg V OQ;clear r G hP OQ OI Oj;generalize (wa.heap.size,wb.heap.size)::iv=iv2 at*
  obtain⟨b5,a5,n5,c5,b6,a6,n6,c6,rfl⟩:=Rs.shape;conv=>whnf
  refine⟨⟨g,0,none⟩,rfl,be,?_⟩;conv=>whnf
  intro O J r;have Rt:=iL Ox (Py iv2) r;have hF5:=(Rs.rel r L).four;obtain⟨g',Qy,OV,Pr,PY,Od⟩:=nJ (nv:=rC b5 a5 n5 c5 b6 a6 n6 c6) Rt rfl h rfl bv;injection Qy with Qy;injection Qy with Qy;subst Qy;have Pp:=mH (cs:=rC b5 a5 n5 c5 b6 a6 n6 c6) Po.rj (show i<M.length by omega);rw[Pp]at Pr;have PN:∀x,Cv S w.heap.size iv2 x->(setCells J ⟨g,i*4,none⟩ (rC b5 a5 n5 c5 b6 a6 n6 c6)).heap[x]? =J.heap[x]? :=fun x E=>
   PY.block x (rlo r L x E) fun e=>Vw iv2 g rfl (by injection e with e;rw[<-e];exact E)
  have Ou:(⟨g,0,none⟩:Addr).add ((i:Int).toNat*4)=⟨g,i*4,none⟩:=by rw[aN,cd,aR]
  have hF6:=((Po.rel r L).cP PN).set (j:=i) (hF5.cP PN);rw[HK (f:=(· *p)) Sn]at hF6;have Vx:=(Om.rel r L).cP PN;replace V:w.grownBy (setCells J ⟨g,i*4,none⟩ (rC b5 a5 n5 c5 b6 a6 n6 c6)) (some g):=eP (dg V r.cV) PY;have PF:=fun id b N U=>Rel.not r (fun _ h=>h) (Py iv2 g rfl) id b N U;have hwsz:=r.cR;clear r Po Om Rs Ox Rt hF5 PN Pp PY;refine⟨by rw[Ou],fun k Z=>by rw[Ou];exact OV k Z,fun id b N U=>by rw[Ou];exact PF id b N U,fun F Q3=>?_⟩;have Q3:F=setCells J ⟨g,i*4,none⟩ (rC b5 a5 n5 c5 b6 a6 n6 c6):=by rw[Q3];exact congrArg (fun x=>setCells J x _) Ou
  rw[<-Q3]at hF6 Vx Pr V Od;clear Q3 OV PF;conv=>whnf
  refine inc i ?_;conv=>whnf
  intro IR w3 r3
  exact⟨(i+1,M.set i (rC b5 a5 n5 c5 b6 a6 n6 c6),iv2,w3),⟨h,dg V r3.cV,iL Pr (Py iv2) r3,by simpa using QM,hF6.rel r3 L,Vx.rel r3 L⟩,
   sbgn [] r3,by dsimp only;omega⟩
 .have h:i=n:=by
   have:¬i<n:=by simpa using h
   omega
  subst h;conv=>whnf
  intro In w5 r5;refine⟨rfl,dg V r5.cV,M,iL OI (Py iv) r5,QM,?_⟩;have:=(Po.rel r5 L).cO (S':=Nw S w w5) fun g V=>Cv.nw V r5
  rwa [<-To,Iw]at this
end Go.Ex
