/- Texts X22 to X31: lemmas, each with its conditions. -/
import Derived.Test.YtbffinhkognefaaGreatDoorP4
set_option linter.defProp false
namespace Go.Ex
open Go Go.Sx Go.Proofs
variable{b b2:Bool}{x y:Int}{S S':Nat->Prop}{f g q:Rat}{dv nv u v:Value}{w:World}
def ke(w:World)(S:Nat->Prop)(v:Value)(a b:Int):Prop:=∃b1 l1 b2 l2,v= .agg #[.bool b1,l1,.bool b2,l2]/\j3 w S (.agg #[.bool b1,l1]) a/\j3 w S (.agg #[.bool b2,l2]) b
def ke.cW{F:World}{a b:Int}(h:ke w S v a b)(K:∀g,S g->F.heap[g]? =w.heap[g]?):ke F S v a b:=by
 obtain⟨b1,l1,b2,l2,Y,I,h3⟩:=h;exact⟨b1,l1,b2,l2,Y,I.cW K,h3.cW K⟩
def ke.cU{a b:Int}(h:ke w S v a b)(K:∀g,S g->S' g):ke w S' v a b:=by
 obtain⟨b1,l1,b2,l2,Y,I,h3⟩:=h;exact⟨b1,l1,b2,l2,Y,I.cU K,h3.cU K⟩
def ke.shape(h:ke w S v x y):∃b a n c b2 a2 n2 c2,v= .agg #[.bool b,.slice a n c,.bool b2,.slice a2 n2 c2]:=by
 obtain⟨b1,l1,b2,l2,Y,I,h3⟩:=h;obtain⟨_,a,n,c,h4⟩:=I.shape;obtain⟨_,a2,n2,c2,h5⟩:=h3.shape;simp at h4 h5;obtain⟨rfl,rfl⟩:=h4;obtain⟨rfl,rfl⟩:=h5;exact⟨_,a,n,c,_,a2,n2,c2,Y⟩
def ke.num(h:ke w S (.agg #[.bool b,nv,.bool b2,dv]) x y):j3 w S (.agg #[.bool b,nv]) x:=by
 obtain⟨b1,l1,b2,l2,Y,I,h3⟩:=h;simp at Y;obtain⟨rfl,rfl,rfl,rfl⟩:=Y;exact I
def ke.den(h:ke w S (.agg #[.bool b,nv,.bool b2,dv]) x y):j3 w S (.agg #[.bool b2,dv]) y:=by
 obtain⟨b1,l1,b2,l2,Y,I,h3⟩:=h;simp at Y;obtain⟨rfl,rfl,rfl,rfl⟩:=Y;exact h3
section
variable{S S':Nat->Prop}{H:Hp}{nx:Nat}{iv A:Iv}{B:Nat}{w J F:World}{O:Nat->Sx.eD}{v:Value}{x y:Int}
def ke.rel(h:ke w (Cv S B iv) v x y)(r:Rel H nx iv B w O J)(G:∀g,S g->g<B):ke J (Cv S B iv) v x y:=h.cW λ_ V=>rls r G V
end
def dH(w:World)(S:Nat->Prop)(v:Value)(q:Rat):Prop:=∃b1 l1 b2 l2,v= .agg #[.bool b1,l1,.bool b2,l2]/\dV w S (.agg #[.bool b1,l1]) q.num/\dV w S (.agg #[.bool b2,l2]) q.den
def dH.cW{F:World}(h:dH w S v q)(K:∀g,S g->F.heap[g]? =w.heap[g]?):dH F S v q:=by
 obtain⟨b1,l1,b2,l2,Y,I,h3⟩:=h;exact⟨b1,l1,b2,l2,Y,I.cW K,h3.cW K⟩
def dH.cU(h:dH w S v q)(K:∀g,S g->S' g):dH w S' v q:=by
 obtain⟨b1,l1,b2,l2,Y,I,h3⟩:=h;exact⟨b1,l1,b2,l2,Y,I.cU K,h3.cU K⟩
def dH.r(h:dH w S v q):ke w S v q.num q.den:=by
 obtain⟨b1,l1,b2,l2,Y,I,h3⟩:=h;exact⟨b1,l1,b2,l2,Y,I.r,h3.r⟩
def dH.shape(h:dH w S v q):∃b a n c b2 a2 n2 c2,v= .agg #[.bool b,.slice a n c,.bool b2,.slice a2 n2 c2]:=h.r.shape
def dH.num(h:dH w S (.agg #[.bool b,nv,.bool b2,dv]) q):dV w S (.agg #[.bool b,nv]) q.num:=by
 obtain⟨b1,l1,b2,l2,Y,I,h3⟩:=h;simp at Y;obtain⟨rfl,rfl,rfl,rfl⟩:=Y;exact I
def dH.den(h:dH w S (.agg #[.bool b,nv,.bool b2,dv]) q):dV w S (.agg #[.bool b2,dv]) q.den:=by
 obtain⟨b1,l1,b2,l2,Y,I,h3⟩:=h;simp at Y;obtain⟨rfl,rfl,rfl,rfl⟩:=Y;exact h3
def dH.of(h:dV w S (.agg #[.bool b,nv]) q.num)(k:dV w S (.agg #[.bool b2,dv]) q.den):dH w S (.agg #[.bool b,nv,.bool b2,dv]) q:=⟨_,_,_,_,rfl,h,k⟩
section
variable{S S':Nat->Prop}{H:Hp}{nx:Nat}{iv A:Iv}{B:Nat}{w J F:World}{O:Nat->Sx.eD}{v:Value}{q:Rat}
def dH.rel(h:dH w (Cv S B iv) v q)(r:Rel H nx iv B w O J)(G:∀g,S g->g<B):dH J (Cv S B iv) v q:=h.cW λ_ V=>rls r G V
def dH.cV(h:dH w (Cv S B iv) v q)(r:Rel H nx iv B w O J)(G:∀g,S g->g<B)(L:Ext J F)(hm:∀p,p∈iv->p∈A):dH F (Cv S B A) v q:=
 ((h.rel r G).cW λg V=>L.block g (rlo r G g V)).cU λ_ V=>V.mono hm
def dH.ef(h:dH F (Nf J F) v q)(hB:B<=J.heap.size)(hm:(J.heap.size,F.heap.size)∈iv):dH F (Cv S B iv) v q:=h.cU λ_ V=>V.ef hB hm
def dH.out{w0 w1:World}(h:dH w1 (Cv S w0.heap.size iv) v q)(r:Rel H nx iv w0.heap.size w1 O J)(G:Old S w0):dH J (Nw S w0 J) v q:=
 (h.rel r G).cU λ_ V=>Cv.nw V r
end
def ij(G:Old S w)(hf:cw w S v f):
  eH PG Fd.mB #[v] w (eV w λv' _w2=>v'=iV (rs f)):=by
 have W:=bR w;replace hf:=hf.cU (S':=Cv S w.heap.size []) λ_ h=>.inl h;obtain⟨b1,a1,n1,c1,b2,a2,n2,c2,rfl⟩:=hf.shape;have UQ:=hf.num;have Qx:=hf.den;refine pt ce ?_;refine cS (cE W (pE (iV (rs f))) (λO J r=>xT (UQ.rel r G)) ?_);rintro O _ _ _ Pt r L W h_ rfl;exact rtn W λGE we re=>rfl
def lV(G:Old S w)(hf:cw w S v f):
  eH PG Fd.lQ #[v] w (eV w λv' F=>cw F (Nw S w F) v' (-f)):=by
 have W:=bR w;replace hf:=hf.cU (S':=Cv S w.heap.size []) λ_ h=>.inl h;obtain⟨b1,a1,n1,c1,b2,a2,n2,c2,rfl⟩:=hf.shape;have UQ:=hf.num;have Qx:=hf.den;refine ox ce ?_;refine dP [.x 0,.x 1,.x 3,.x 4,.x 2,.x 5,.x 6] ?_;refine cR (GT:=λ_ J v F=>eP F (Nw (Cv S w.heap.size []) J F) v (-f.num)) (λO J r=>qK (rlo r G) (UQ.rel r G)) ?_;rintro O QJ v1 QH r L N E;replace W:=W.tr N;replace Qx:=Qx.cV (A:=(QJ.heap.size,QH.heap.size)::[]) r G L λx Z=>aD _ Z;have hM:=E.old r.cY;generalize (QJ.heap.size,QH.heap.size)::[]=Pt at*
 obtain⟨A0,A1,A2,A3,rfl⟩:=hM.shape;exact rtn W λGE we re=>cw.of (by rw[Rat.neg_num];exact hM.out re G) (by rw[Rat.neg_den];exact Qx.out re G)
def nH(G:Old S w)(hf:cw w S v f)(V:cw w S u g)(hlf:rl f<=10000000000)(hlg:rl g<=10000000000):
  eH PG Fd.lS #[v,u] w (eV w λv' F=>cw F (Nf w F) v' (f*g)):=by
 have W:=bR w;have l1:=fg f;have l2:=fD f;have l3:=fg g;have l4:=fD g;have m0:=dO f.num g.num;have m1:=dO f.den g.den;replace hf:=hf.cU (S':=Cv S w.heap.size []) λ_ h=>.inl h;replace V:=V.cU (S':=Cv S w.heap.size []) λ_ h=>.inl h;obtain⟨b1,a1,n1,c1,b2,a2,n2,c2,rfl⟩:=hf.shape;obtain⟨b3,a3,n3,c3,b4,a4,n4,c4,rfl⟩:=V.shape;have UQ:=hf.num;have Qx:=hf.den;have Uy:=V.num;have Sq:=V.den;refine oz ce ?_;refine dP [.x 0,.x 1,.x 2,.x 3,.x 5,.x 6,.x 7,.x 8,.x 4,.x 9,.x 10,.x 11] ?_;refine cE W (pR eP (f.num*g.num)) (λO J r=>gW (rlo r G) (UQ.rel r G) (Uy.rel r G) be be) ?_;rintro O _ _ _ Pt r L W h_ E;replace Qx:=Qx.cV r G L (mC h_);replace Sq:=Sq.cV r G L (mC h_);have hA:=E.cU (nw r h_);obtain⟨A0,A1,A2,A3,rfl⟩:=hA.shape;refine cE W (pR eP ((f.den:Int)*(g.den:Int))) (λO J r=>gW (rlo r G) (Qx.rel r G) (Sq.rel r G) be be) ?_;rintro O _ _ _ iv2 r L W h_ E;replace hA:=hA.cV r oF L (mC h_);have hB:=E.cU (nw r h_);obtain⟨C0,C1,C2,C3,rfl⟩:=hB.shape;refine cE W (pR cw (f*g)) (λO J r=>(zF f g)▸xU (rlo r oF) (hA.rel r oF) (hB.rel r oF) (ko (gQ f) (gQ g)) be be) ?_;rintro O _ _ _ Ps r L W h_ E;have hC:=E.cU (nw r h_);obtain⟨E0,E1,E2,E3,E4,E5,E6,E7,rfl⟩:=hC.shape;exact rtn W λGE we re=>hC.out re oF
def JG(G:Old S w)(hf:cw w S v f)(V:cw w S u g)(hlf:rl f<=10000000000)(hlg:rl g<=10000000000)(VX:g≠0):
  eH PG Fd.nm #[v,u] w (eV w λv' F=>cw F (Nf w F) v' (f / g)):=by
 have W:=bR w;have l1:=fg f;have l2:=fD f;have l3:=fg g;have l4:=fD g;have m0:=dO f.num g.den;have m1:=dO f.den g.num;replace hf:=hf.cU (S':=Cv S w.heap.size []) λ_ h=>.inl h;replace V:=V.cU (S':=Cv S w.heap.size []) λ_ h=>.inl h;obtain⟨b1,a1,n1,c1,b2,a2,n2,c2,rfl⟩:=hf.shape;obtain⟨b3,a3,n3,c3,b4,a4,n4,c4,rfl⟩:=V.shape;have UQ:=hf.num;have Qx:=hf.den;have Uy:=V.num;have Sq:=V.den;refine sL ce ?_;refine dP [.x 0,.x 1,.x 2,.x 3,.x 5,.x 6,.x 7,.x 8,.x 4,.x 9,.x 10,.x 11] ?_;refine cE W (pR eP (f.num*(g.den:Int))) (λO J r=>gW (rlo r G) (UQ.rel r G) (Sq.rel r G) be be) ?_;rintro O _ _ _ Pt r L W h_ E;replace Qx:=Qx.cV r G L (mC h_);replace Uy:=Uy.cV r G L (mC h_);have hA:=E.cU (nw r h_);obtain⟨A0,A1,A2,A3,rfl⟩:=hA.shape;refine cE W (pR eP ((f.den:Int)*g.num)) (λO J r=>gW (rlo r G) (Qx.rel r G) (Uy.rel r G) be be) ?_;rintro O _ _ _ iv2 r L W h_ E;replace hA:=hA.cV r oF L (mC h_);have hB:=E.cU (nw r h_);obtain⟨C0,C1,C2,C3,rfl⟩:=hB.shape;refine cE W (pR cw (f / g)) (λO J r=>(Dm f g)▸xU (rlo r oF) (hA.rel r oF) (hB.rel r oF) (ko (gQ f) (λe=>VX (Rat.num_eq_zero.1 e))) be be) ?_;rintro O _ _ _ Ps r L W h_ E;have hC:=E.cU (nw r h_);obtain⟨E0,E1,E2,E3,E4,E5,E6,E7,rfl⟩:=hC.shape;exact rtn W λGE we re=>hC.out re oF
def wN(G:Old S w)(hf:cw w S v f)(V:cw w S u g)(hlf:rl f<=10000000000)(hlg:rl g<=10000000000):
  eH PG Fd.mI #[v,u] w (eV w λv' F=>cw F (Nf w F) v' (f+g)):=by
 have W:=bR w;have l1:=fg f;have l2:=fD f;have l3:=fg g;have l4:=fD g;have m0:=dO f.num g.den;have m1:=dO g.num f.den;have m2:=dO f.den g.den;have m4:=jN (f.num*g.den) (g.num*f.den);replace hf:=hf.cU (S':=Cv S w.heap.size []) λ_ h=>.inl h;replace V:=V.cU (S':=Cv S w.heap.size []) λ_ h=>.inl h;obtain⟨b1,a1,n1,c1,b2,a2,n2,c2,rfl⟩:=hf.shape;obtain⟨b3,a3,n3,c3,b4,a4,n4,c4,rfl⟩:=V.shape;have UQ:=hf.num;have Qx:=hf.den;have Uy:=V.num;have Sq:=V.den;refine qE ce ?_;refine dP [.x 0,.x 1,.x 2,.x 3,.x 5,.x 6,.x 7,.x 8,.x 11,.x 12,.x 13,.x 14,.x 4,.x 9,.x 10,.x 15,.x 16,.x 17] ?_;refine cE W (pR eP (f.num*(g.den:Int))) (λO J r=>gW (rlo r G) (UQ.rel r G) (Sq.rel r G) be be) ?_;rintro O _ _ _ Pt r L W h_ E;replace Qx:=Qx.cV r G L (mC h_);replace Uy:=Uy.cV r G L (mC h_);replace Sq:=Sq.cV r G L (mC h_);have hA:=E.cU (nw r h_);obtain⟨A0,A1,A2,A3,rfl⟩:=hA.shape;refine cE W (pR eP (g.num*(f.den:Int))) (λO J r=>gW (rlo r G) (Uy.rel r G) (Qx.rel r G) be be) ?_;rintro O _ _ _ iv2 r L W h_ E;replace Qx:=Qx.cV r G L (mC h_);replace Sq:=Sq.cV r G L (mC h_);replace hA:=hA.cV r oF L (mC h_);have hB:=E.cU (nw r h_);obtain⟨C0,C1,C2,C3,rfl⟩:=hB.shape;refine cE W (pR eP (f.num*(g.den:Int)+g.num*(f.den:Int))) (λO J r=>DM (rlo r oF) (hA.rel r oF) (hB.rel r oF) be be) ?_;rintro O _ _ _ Ps r L W h_ E;replace Qx:=Qx.cV r G L (mC h_);replace Sq:=Sq.cV r G L (mC h_);have hD:=E.cU (nw r h_);obtain⟨E0,E1,E2,E3,rfl⟩:=hD.shape;refine cE W (pR eP ((f.den:Int)*(g.den:Int))) (λO J r=>gW (rlo r G) (Qx.rel r G) (Sq.rel r G) be be) ?_;rintro O _ _ _ QA r L W h_ E;replace hD:=hD.cV r oF L (mC h_);have hE:=E.cU (nw r h_);obtain⟨F0,F1,F2,F3,rfl⟩:=hE.shape;refine cE W (pR cw (f+g)) (λO J r=>(vN f g)▸xU (rlo r oF) (hD.rel r oF) (hE.rel r oF) (ko (gQ f) (gQ g)) be be) ?_;rintro O _ _ _ QE r L W h_ E;have hC:=E.cU (nw r h_);obtain⟨G0,G1,G2,G3,G4,G5,G6,G7,rfl⟩:=hC.shape;exact rtn W λGE we re=>hC.out re oF
def zN(G:Old S w)(hf:cw w S v f)(hlf:rl f<=100000000000):
  eH PG Fd.mA #[v] w (eV w λv' F=>dH F (Nf w F) v' f):=by
 have W:=bR w;have l1:=fg f;have l2:=fD f;replace hf:=hf.cU (S':=Cv S w.heap.size []) λ_ h=>.inl h;obtain⟨b1,a1,n1,c1,b2,a2,n2,c2,rfl⟩:=hf.shape;have UQ:=hf.num;have Qx:=hf.den;refine po ce ?_;refine dP [.x 0,.x 1,.x 3,.x 4,.x 2,.x 5,.x 6,.x 7] ?_;refine cE W (pR dV f.num) (λO J r=>BF (rlo r G) (UQ.rel r G) be) ?_;rintro O _ _ _ Pt r L W h_ E;replace Qx:=Qx.cV r G L (mC h_);have hA:=E.cU (nw r h_);obtain⟨A0,A1,A2,A3,rfl⟩:=hA.shape;refine cE W (pR dV (f.den:Int)) (λO J r=>BF (rlo r G) (Qx.rel r G) be) ?_;rintro O _ _ _ iv2 r L W h_ E;replace hA:=hA.cV r oF L (mC h_);have hB:=E.cU (nw r h_);obtain⟨C0,C1,C2,C3,rfl⟩:=hB.shape;exact rtn W λGE we re=>dH.of (hA.out re oF) (hB.out re oF)
def iI(n:Int)(w:World)(Y: -9223372036854775808<=n)(I:n<=9223372036854775807):
  eH PG Fd.yH #[iV n] w (eV w λv' F=>cw F (Nf w F) v' (n:Rat)):=by
 have W:=bR w;refine Ay ce ?_;refine cS (cE W (pR eP n) (λO J r=>lD n J Y I) ?_);rintro O _ _ _ Pt r L W h_ E;have hA:=E.cU (nw r h_);obtain⟨A0,A1,A2,A3,rfl⟩:=hA.shape;refine cS (cE W (pR eP 1) (λO J r=>lD 1 J bv bv) ?_);rintro O _ _ _ iv2 r L W h_ E;replace hA:=hA.cV r oF L (mC h_);have hB:=E.cU (nw r h_);obtain⟨C0,C1,C2,C3,rfl⟩:=hB.shape;exact rtn W λGE we re=>cw.of (by rw[Rat.num_intCast];exact hA.out re oF) (by rw[Rat.den_intCast];exact hB.out re oF)
def zO(G:Old S w)(Z:ke w S v x y)(RA:ln x.natAbs<=100000000000)(RZ:ln y.natAbs<=100000000000):
  eH PG Fd.yC #[v] w (eV w λv' F=>cw F (Nf w F) v' (ratio x y)):=by
 have W:=bR w;replace Z:=Z.cU (S':=Cv S w.heap.size []) λ_ h=>.inl h;obtain⟨b1,a1,n1,c1,b2,a2,n2,c2,rfl⟩:=Z.shape;have E:=Z.num;have hd:=Z.den;have SM:=E;have hxd:=hd;refine As ce ?_;refine cS (cR (GT:=λ_ J v F=>eP F (Nw (Cv S w.heap.size []) J F) v y) (λO J r=>GG (rlo r G) (hxd.rel r G)) ?_);rintro O QJ v1 QH r L N E;replace W:=W.tr N;replace SM:=SM.cV (A:=(QJ.heap.size,QH.heap.size)::[]) r G L λx Z=>aD _ Z;have hD:=E.old r.cY;generalize (QJ.heap.size,QH.heap.size)::[]=Pt at*
 obtain⟨A0,A1,A2,A3,rfl⟩:=hD.shape;refine cS (cE W (pE (iV y.sign)) (λO J r=>xT (hD.rel r G)) ?_);rintro O _ _ _ iv2 r L W h_ rfl;replace SM:=SM.cV r G L (mC h_);replace hD:=hD.cV r G L (mC h_);apply bS<;>intro h
 .have h:y=0:=bj.1 (eq_of_beq h);have e0:ratio x y=Rat.divInt x 1:=aM h;refine cS (cE W (pR eP 1) (λO J r=>lD 1 J bv bv) ?_);rintro O Qh v3 Q7 Ps r L W h_ E;replace SM:=SM.cV r G L (mC h_);have hO:=E.cU (nw r h_);obtain⟨C0,C1,C2,C3,rfl⟩:=hO.shape;have l1:ln (1:Int).natAbs=1:=by decide
  refine dP [.x 0,.x 1,.x 3,.x 2,.x 4,.x 5] ?_;refine cR (GT:=λ_ J v F=>eP F (Nw (Cv S w.heap.size Ps) J F) v x) (λO J r=>GG (rlo r G) (SM.rel r G)) ?_;rintro O Rg v4 RT r L N E;replace W:=W.tr N;replace hO:=hO.cV (A:=(Rg.heap.size,RT.heap.size)::Ps) r oF L λx Z=>aD _ Z;have hN:=E.old r.cY;generalize (Rg.heap.size,RT.heap.size)::Ps=QA at*
  obtain⟨E0,E1,E2,E3,rfl⟩:=hN.shape;refine cE W (pR cw (ratio x y)) (λO J r=>e0.symm▸xU (rlo r G) (hN.rel r G) ((hO.rel r oF).cU λg V=>V.elim (λk=>k.elim) .inr) bv be be) ?_;rintro O _ _ _ QE r L W h_ E;have hC:=E.cU (nw r h_);obtain⟨F0,F1,F2,F3,F4,F5,F6,F7,rfl⟩:=hC.shape;exact rtn W λGE we re=>hC.out re oF
 .have h:y≠0:=λe=>by rw[e]at h;exact absurd h bv
  have e0:ratio x y=Rat.divInt x y:=aJ h;refine dP [.x 0,.x 1,.x 3,.x 2,.x 4,.x 5] ?_;refine cR (GT:=λ_ J v F=>eP F (Nw (Cv S w.heap.size iv2) J F) v x) (λO J r=>GG (rlo r G) (SM.rel r G)) ?_;rintro O Qh v3 Q7 r L N E;replace W:=W.tr N;replace hD:=hD.cV (A:=(Qh.heap.size,Q7.heap.size)::iv2) r G L λx Z=>aD _ Z;have hN:=E.old r.cY;generalize (Qh.heap.size,Q7.heap.size)::iv2=Ps at*
  obtain⟨C0,C1,C2,C3,rfl⟩:=hN.shape;refine cE W (pR cw (ratio x y)) (λO J r=>e0.symm▸xU (rlo r G) (hN.rel r G) (hD.rel r G) h be be) ?_;rintro O _ _ _ QA r L W h_ E;have hC:=E.cU (nw r h_);obtain⟨E0,E1,E2,E3,E4,E5,E6,E7,rfl⟩:=hC.shape;exact rtn W λGE we re=>hC.out re oF
def e9(v:Value):Iv:=match v.ownBlock with
 |some g=>[(g,g+1)]
 |none=>[]
def kG{lo R:Nat}:(lo,R)∈e9 v↔v.ownBlock=some lo/\R=lo+1:=by
 unfold e9
 cases h:v.ownBlock with
 |none=>simp
 |some g=>simp;omega
def wh(iv:Iv)(v:Value):Prop:=∀b,v.ownBlock=some b->∃lo R,(lo,R)∈iv/\lo<=b/\b<R
section
variable{S:Nat->Prop}{H:Hp}{nx:Nat}{iv A:Iv}{B e sz m:Nat}{w J F:World}{O:Nat->Sx.eD}{v v':Value}{xs:List Value}
def wh.not(h:wh iv v)(r:Rel H nx iv B w O J){b:Nat}(N:v.ownBlock=some b):∀id c,dT H id=some c->(O id).nil=false->(O id).g≠b:=λid c hc E L=>by
 obtain⟨lo,R,Y,I,h3⟩:=h b N;exact r.jJ lo R Y id c hc E be
def fW(h:w.ownsRow B e sz v m xs)(hc:wh iv v)(r:Rel H nx iv B w O J):J.ownsRow B e sz v m xs:=
 ownsRow.cW h λb N=>r.D9 b (ownsRow.low h b N).2 λid c hc' E L=>hc.not r N id c hc' E L
def wh.row(v:Value):wh (e9 v) v:=λb N=>⟨b,b+1,kG.2 ⟨N,rfl⟩,be,be⟩
def wh.mono(h:wh iv v)(k:∀p,p∈iv->p∈A):wh A v:=λb N=>by
 obtain⟨lo,R,Y,I⟩:=h b N;exact⟨lo,R,k _ Y,I⟩
def eZ(h:w.ownsRow B e sz v m xs):∃a c,v= .slice a m c/\m<=c:=by
 rcases h.2 with⟨rfl,rfl⟩|⟨g,cap,cur,rfl,_,_,Y,_⟩
 .exact⟨none,0,rfl,lr⟩
 .exact⟨_,cap,rfl,Y⟩
def yL(r:Rel H nx (e9 v) B w O J)(_hsz:J.heap.size<=F.heap.size)(SQ:∀g,v'.ownBlock=some g->g<F.heap.size/\(v.ownBlock=some g\/g=J.heap.size)):
  ∀lo R,(lo,R)∈e9 v'->R<=F.heap.size/\∀id b,dT H id=some b->(O id).nil=false->¬(lo<=(O id).g/\(O id).g<R):=λlo R hm=>by
 obtain⟨V,rfl⟩:=kG.1 hm;obtain⟨Y,I⟩:=SQ _ V;refine⟨be,λid c hc E L=>?_⟩;rcases I with I|I
 .exact(wh.row v).not r I id c hc E be
 .have:=(r.low id c hc E).2;omega
end
end Go.Ex
namespace Go.Sx
open Go Go.Ex Go.Proofs
variable{O:Nat->Sx.eD}
def Sub.aAe{B:Nat}{l tl:Env}{nx Pv:Nat}{H tH:Hp}{iv A:Iv}{w J:World}(m:List (Nat×Nat))(r:Rel H nx iv B w O J)
  (hH:z6 (uz m) H tH) (hE:z5 (uz m) l tl) (YS:Cd Pv tH) (hsE:kN Pv tl) (R:Jb (uz m) tH=true) (Wv:∀lo R,(lo,R)∈A->∃lo' R4,(lo',R4)∈iv/\lo'<=lo/\R<=R4):Sub B l nx O J ⟨tl,tH,Pv,A,J⟩:=by
 have r2:Rel H nx A B J O J:=Rel.mk' rfl rfl rfl lr (by have:=r.base;have:=r.size;omega) (λlo R h=>by
   obtain⟨lo',R4,Y,I,h3⟩:=Wv lo R h
   have:=r.oB lo' R4 Y;have:=r.size;omega) r.keys (λid b h=>r.fits h) (λid b h=>r.scopd h) r.inj r.low (λ_ _ _=>rfl) (λlo R h id b N E L=>by
   obtain⟨lo',R4,Y,I,h3⟩:=Wv lo R h
   exact r.jJ lo' R4 Y id b N E be)
 exact Sub.gen m r2 hH hE YS hsE R (λlo R h=>h)
end Go.Sx
namespace Go.Ex
open Go Go.Sx Go.Proofs
variable{parts:List (Value×List Value×Nat)}{xs:List Value}{n sz:Nat}{S:Nat->Prop}{v:Value}{w:World}
def wh.iv{iv:Iv}(h:wh iv v):∀lo R,(lo,R)∈e9 v->∃lo' R4,(lo',R4)∈iv/\lo'<=lo/\R<=R4:=λlo R hm=>by
 obtain⟨N,rfl⟩:=kG.1 hm;obtain⟨lo',R4,Y,I,h3⟩:=h lo N;exact⟨lo',R4,Y,I,be⟩
structure fT(w:World)(S:Nat->Prop)(sz:Nat)(v:Value)(xs:List Value)(n:Nat):Prop where
 le:n<=maxLen
 len:xs.length=n*sz
 one:∀u∈xs,u.oneCell'=true
 sl:∃a c,v= .slice a n c/\n<=c/\∀(j:Nat) u,xs[j]? =some u->∃ad,a=some ad/\S ad.block/\w.cell? (ad.add j)=some u
def fT.cW{F:World}(h:fT w S sz v xs n)(K:∀g,S g->F.heap[g]? =w.heap[g]?):fT F S sz v xs n:=by
 obtain⟨h0,Y,I,a,c,h3,h4,h5⟩:=h;refine⟨h0,Y,I,a,c,h3,h4,λj u hu=>?_⟩;obtain⟨ad,k1,k2,k3⟩:=h5 j u hu;exact⟨ad,k1,k2,by rw[cZ (K _ (by rw[da];exact k2))];exact k3⟩
def fT.cU{S':Nat->Prop}(h:fT w S sz v xs n)(K:∀g,S g->S' g):fT w S' sz v xs n:=by
 obtain⟨h0,Y,I,a,c,h3,h4,h5⟩:=h;refine⟨h0,Y,I,a,c,h3,h4,λj u hu=>?_⟩;obtain⟨ad,k1,k2,k3⟩:=h5 j u hu;exact⟨ad,k1,K _ k2,k3⟩
def fT.shape(h:fT w S sz v xs n):∃a m c,v= .slice a m c:=by
 obtain⟨_,_,_,a,c,h3,_⟩:=h;exact⟨a,_,c,h3⟩
section
variable{S S':Nat->Prop}{H:Hp}{nx:Nat}{iv A:Iv}{B:Nat}{w J F:World}{O:Nat->Sx.eD}{v:Value}{sz n:Nat}{xs:List Value}
end
def jI(parts:List (Value×List Value×Nat)):Nat:=(parts.map (·.2.2)).sum
def nu(a b:List (Value×List Value×Nat)):jI (a++b)=jI a+jI b:=by simp[jI]
abbrev aAf:=Iw
def Nu(n:Nat)(w:World)(E:n<=1000000000000):
  eH PG Fd.gU #[nls,iV n] w (eV w λv' F=>F.ownsRow w.heap.size T.uint32 1 v' 0 []):=by
 refine j0 ce ?_;refine zC (e:=T.uint32) aAf d8 (λO w1 r=>?_);have N:=r.cg;clear r;refine⟨0,rfl,(n:Int),by show IntKind.wrap .i64 ((n:Int)-0)=_;rw[wrap64]<;>omega,?_⟩;apply bS<;>intro h
 .have h:0<n:=by have:=aK h;omega
  refine zC (e:=T.uint32) aAf d8 (λO F r=>?_);replace N:=N.tr r.cg;clear r;refine⟨⟨be,be,be⟩,none,0,0,d8,be,be,?_⟩;refine Ci hτ (Bc:=w.heap.size) lr d8 d8 ((hτ T.int _ rfl).i1 rfl) bv d8 d8 h mx be (λO w3 w4 c r hc Pm V hs=>?_);have Rb:Bq w w4:=(N.tr r.cg).tr (Bel.grown V (λg V=>by cases V) (by have:=r.base;have:=r.size;omega));have hw3:=(N.tr r.cg).size;clear r;generalize w3.heap.size=g0 at*
  refine⟨⟨be,be,be⟩,some ⟨g0,0,none⟩,0,c,by split<;>rfl,be,be,?_⟩;intro Id w5 r5
  exact⟨_,rfl,Rb.tr r5.cg,fW Pm (λb N=>by
   have N:g0=b:=by injection N
   exact⟨g0,g0+1,by simp[hs],be,be⟩) r5⟩
 .conv=>whnf
  intro Id w5 r5;exact⟨_,rfl,N.tr r5.cg,World.ownsRow_nil _ _ _ _⟩
def KP(G:Old S w)(h:fT w S 1 v (parts.map (·.1)) parts.length)(hp:∀p∈parts,fT w S 1 p.1 p.2.1 p.2.2)(hN:jI parts<=1000000000000):
  eH PG Fd.fv #[v] w (eV w λv' F=>F.ownsRow w.heap.size T.uint32 1 v' (jI parts) (parts.flatMap (·.2.1))):=by
 obtain⟨Um,-,-,a,c,rfl,Uo,Px⟩:=h;have hle:∀k,jI (parts.take k)<=jI parts:=λk=>by
  conv=>rhs;rw[<-List.take_append_drop k parts,nu]
  omega
 have R6:∀(i:Nat) p,parts[i]? =some p->jI (parts.take (i+1))=jI (parts.take i)+p.2.2:=λi p hp=>by
  rw[bH,hp,nu];simp[jI]
 have Vm:∀(i:Nat) p,parts[i]? =some p->(parts.take (i+1)).flatMap (·.2.1)=(parts.take i).flatMap (·.2.1)++p.2.1:=λi p hp=>by
  rw[bH,hp];simp
 have SB:∀(i:Nat) p,parts[i]? =some p->∃ad an ac,a=some ad/\S ad.block/\w.cell? (ad.add i)=some (.slice an p.2.2 ac)/\p.1= .slice an p.2.2 ac:=λi p R=>by
  obtain⟨ad,Y,I,h3⟩:=Px i p.1 (by rw[aS,R];rfl);obtain⟨_,_,_,an,ac,h4,_⟩:=hp p (aG R);exact⟨ad,an,ac,Y,I,by rw[h3,h4],h4⟩
 unfold maxLen at Um;refine jH ce ?_
 refine⟨Nat×World,λz=>⟨[(0,sV a parts.length c),(3,.o (.v (iV (jI (parts.take z.1):Nat)))),(9,sV a parts.length c),(10,iZ parts.length),(11,iZ z.1)],[],0,[],z.2⟩,
  λz=>parts.length-z.1,λz=>z.1<=parts.length/\Bq w z.2,?_,?_⟩
 .intro O J r;exact⟨(0,J),⟨ce,r.cg⟩,sbgn [] r⟩
 .rintro⟨i,w1⟩ ⟨R,W⟩;dsimp only at R W ⊢;apply bS<;>intro h
  .have h:=dL h;obtain⟨p,S6⟩:=gO parts i;obtain⟨ad,an,ac,Y,I,h3,h4⟩:=SB i p S6;have Wx:=R6 i p S6;have TC:=hle (i+1);refine⟨ad,Y,be,.slice an p.2.2 ac,λO J r=>by simpa using gF G W r I h3,((jI (parts.take (i+1)):Nat):Int),wo,((i+1:Nat):Int),wo,?_⟩;intro I8 w3 r3;exact⟨(i+1,w3),⟨h,W.tr r3.cg⟩,sbgn [] r3,by simp;omega⟩
  .have h:i=parts.length:=by
    have:¬i<parts.length:=by simpa using h
    omega
   subst h;clear R;rw[bE];refine cS (cR (GT:=λ_ J v F=>F.ownsRow J.heap.size T.uint32 1 v 0 []) (λO J r=>Nu _ J be) ?_);rintro O wa v1 wb r L N Pm;have QG:=r.cY;have hes:=L.size;have Xg:wh [(wa.heap.size,wb.heap.size)] v1:=λb N=>⟨_,_,aY.2 rfl,(ownsRow.low Pm b N).1,(ownsRow.low Pm b N).2⟩
   replace Pm:wb.ownsRow w.heap.size T.uint32 1 v1 0 []:=⟨Pm.1,Pm.2.imp id λ⟨g,cap,cur,k1,k2,k3⟩=>⟨g,cap,cur,k1,be,k3⟩⟩
   replace W:=W.tr N;clear r L;obtain⟨a1,c1,rfl,-⟩:=eZ Pm
   refine⟨Nat×Value×World,λz=>⟨[(0,sV a parts.length c),(6,.o (.v z.2.1)),(25,sV a parts.length c),(26,iZ parts.length),(27,iZ z.1)],[],0,e9 z.2.1,z.2.2⟩,
    λz=>parts.length-z.1,λz=>z.1<=parts.length/\Bq w z.2.2/\z.2.2.ownsRow w.heap.size T.uint32 1 z.2.1 (jI (parts.take z.1)) ((parts.take z.1).flatMap (·.2.1)),?_,?_⟩
   .intro O J r;exact⟨(0,.slice a1 0 c1,J),⟨ce,W.tr r.cg,by simpa [jI]using fW Pm Xg r⟩,Sub.aAe [] r trivial ⟨rfl,rfl,rfl,rfl,rfl,trivial⟩ (by simp[Cd]) (by simp[kN,SV.sc,At.sc]) d8 Xg.iv⟩
   .rintro⟨i,v1,w1⟩ ⟨R,W,Pm⟩;dsimp only at R W Pm ⊢;obtain⟨a1,c1,rfl,-⟩:=eZ Pm;apply bS<;>intro h
    .have h:=dL h;obtain⟨p,S6⟩:=gO parts i;obtain⟨ad,an,ac,Y,I,h3,h4⟩:=SB i p S6;have Wx:=R6 i p S6;have TC:=hle (i+1);have hpR:=hp p (aG S6);refine⟨ad,Y,be,.slice an p.2.2 ac,λO J r=>by simpa using gF G W r I h3,?_⟩
     refine .inr (iC hτ lr (xs:=(parts.take i).flatMap (·.2.1)) (news:=p.2.1) (m:=jI (parts.take i)) (k:=p.2.2) d8 d8 bv d8 d8 (λO J r=>⟨fW Pm (wh.row _) r,λg V=>(wh.row _).not r V⟩) hpR.len hpR.one mx be
      (λO J r=>?_) (λv' F=>e9 v') (λO J v' F r QG SQ=>yL r QG SQ) (λO J v' F r h5 h6 h7=>?_))
     .obtain⟨_,SK,_,a2,c2,h5,_,h6⟩:=hpR;rw[h4]at h5;injection h5 with h7 h8 h9;subst h7 h9
      cases an with
      |none=>
       refine .inl ⟨ac,?_,?_⟩
       .have:p.2.2=0:=by
         rcases bB p.2.2 with h0|h0
         .exact h0
         .obtain⟨ad2,k1,_⟩:=h6 0 _ (aE (show 0<p.2.1.length by omega))
          cases k1
        rw[<-this];rfl
       .rcases bB p.2.2 with h0|h0
        .exact h0
        .obtain⟨ad2,k1,_⟩:=h6 0 _ (aE (show 0<p.2.1.length by omega))
         cases k1
      |some ad3=>
       refine .inr ⟨ad3,ac,rfl,λj u hu=>?_⟩;obtain⟨ad2,k1,k2,k3⟩:=h6 j u hu;injection k1 with k1;subst k1;exact gF G W r k2 k3
     .have QZ:Bq w F:=(W.tr r.cg).tr (Bel.grown h6 (λg V=>(ownsRow.low Pm g V).1) (by have:=r.size;have:=W.size;omega));rw[<-Wx,<-Vm i p S6]at h5;obtain⟨a3,c3,rfl,-⟩:=eZ h5;refine⟨(i+1:Nat),wo,?_⟩;intro I8 w3 r3
      exact⟨(i+1,.slice a3 (jI (parts.take (i+1))) c3,w3),⟨h,QZ.tr r3.cg,fW h5 (wh.row _) r3⟩,
       sbgn [] r3,by simp;omega⟩
    .have h:i=parts.length:=by
      have:¬i<parts.length:=by simpa using h
      omega
     subst h;rw[bE]at Pm ⊢;intro Id w5 r5;exact⟨_,rfl,W.tr r5.cg,fW Pm (wh.row _) r5⟩
end Go.Ex
namespace Go.Sx
open Go Go.Ex Go.Proofs
section
variable{O:Nat->Sx.eD}
def Rel.jt{H:Hp}{nx:Nat}{iv:Iv}{B:Nat}{w J:World}(r:Rel H nx iv B w O J){id t sz n:Nat}{cs:List At}(h:dT H id=some (.box t cs))(hl:cs.length=n*sz)(E:n<=maxLen)(Y:∀u∈cs,(u.den O).oneCell'=true):
  fT J (λg=>g=(O id).g) sz (.slice (some ⟨(O id).g,0,none⟩) n n) (cs.map (At.den O)) n:=by
 refine⟨E,by simpa using hl,λu hu=>?_,_,_,rfl,lr,λj u hu=>⟨_,rfl,rfl,?_⟩⟩
 .obtain⟨x,Z,rfl⟩:=bA.1 hu;exact Y x Z
 .have h0:(⟨(O id).g,0,none⟩:Addr).add j=⟨(O id).g,j,none⟩:=by
   cases j with
   |zero=>rfl
   |succ j=>simp[Addr.add]
  rw[h0,cell_of (r.box id t _ h)];exact hu
end
variable{cs:List Value}{O:Nat->Sx.eD}
def Rel.Hh{H:Hp}{nx:Nat}{iv:Iv}{B:Nat}{w J:World}(r:Rel H nx iv B w O J){id t sz n:Nat}(h:dT H id=some (.arr t cs))(hl:cs.length=n*sz)(E:n<=maxLen)(Y:∀u∈cs,u.oneCell'=true):
  fT J (λg=>g=(O id).g) sz (.slice (some ⟨(O id).g,0,none⟩) n n) cs n:=by
 refine⟨E,hl,Y,_,_,rfl,lr,λj u hu=>⟨_,rfl,rfl,?_⟩⟩;have h0:(⟨(O id).g,0,none⟩:Addr).add j=⟨(O id).g,j,none⟩:=by
  cases j with
  |zero=>rfl
  |succ j=>simp[Addr.add]
 rw[h0,cell_of (r.arr id t _ h)];exact hu
end Go.Sx
namespace Go.Ex
open Go Go.Sx Go.Proofs
section
variable{ls:List Nat}{xs:List Value}{n:Nat}{S:Nat->Prop}{v:Value}{w:World}
def dW.seq(h:dW w S v ls):fT w S 1 v (F8 ls) ls.length:=by
 obtain⟨a,c,rfl,hc,Px⟩:=h.sl;refine⟨by have:=h.le;unfold maxLen;omega,by rw[gG,ah],λu hu=>by simp only[F8,bA]at hu;obtain⟨n,_,rfl⟩:=hu;rfl,a,c,rfl,hc,λj u hu=>?_⟩;simp only[F8,aS,Option.map_eq_some_iff]at hu;obtain⟨n,E,rfl⟩:=hu;exact Px j n E
def fT.BH(h:fT w S 1 v (F8 ls) n)(Qi:Lm ls):dW w S v ls:=by
 obtain⟨h0,Y,I,a,c,rfl,hc,Px⟩:=h;have E:n=ls.length:=by rw[gG]at Y;omega
 subst E;exact⟨Qi,by unfold maxLen at h0;omega,a,c,rfl,hc,λj x Z=>Px j _ (tq Z)⟩
def PZ{B e sz m:Nat}(h:w.ownsRow B e sz v m xs)(Y:∀u∈xs,u.oneCell'=true)(hm:m<=maxLen):fT w (λg=>B<=g/\g<w.heap.size) sz v xs m:=by
 rcases h.2 with⟨rfl,rfl⟩|⟨g,cap,cur,rfl,N,hc,SJ,RE,QG,RX⟩
 .refine⟨hm,h.1,Y,none,0,rfl,lr,λj u hu=>?_⟩;have:=h.1;rw[Nat.zero_mul]at this;rw[List.eq_nil_of_length_eq_zero this]at hu
  cases hu
 .refine⟨hm,h.1,Y,_,cap,rfl,SJ,λj u hu=>⟨_,rfl,⟨N,(bG.1 hc).1⟩,?_⟩⟩;have h0:(⟨g,0,none⟩:Addr).add j=⟨g,j,none⟩:=by
   cases j with
   |zero=>rfl
   |succ j=>simp[Addr.add]
  have Yy:cur.toList[j]? =some u:=by
   rw[<-RX,List.getElem?_take]at hu;split at hu
   .exact hu
   .cases hu
  rw[h0,cell_of (g:=g) (cs:=cur.toList) (by simpa using hc)];exact Yy
def MW(h:n<=9223372036854775807):IntKind.i64.wrap (n:Int)=n:=by rw[wrap64]<;>omega
def EO{t b:Nat}(h:t<=9223372036854775807):IntKind.i64.wrap ((t:Int).tdiv (b:Int))=((t / b:Nat):Int):=by
 have Y:=Nat.div_le_self t b;rw[Int.tdiv_eq_ediv_of_nonneg be,<-Int.natCast_ediv];exact MW be
def MX(a b:List Nat):F8 (a++b)=F8 a++F8 b:=by simp[F8]
def MY{b:Nat}(G:Old S w)(h:de w S v n)(TY:ln n<=100000000000)(N:b<=3200000000000):
  eH PG Fd.om #[v,iV b] w (eV w λv' F=>de F (Nf w F) v' (n*2^b)):=by
 obtain⟨ls,hl,hz,hv⟩:=h;have hlen:=eE hl.lm hz;rw[hv]at hlen;replace hl:=hl.arg [];obtain⟨a,m,c,rfl⟩:=hl.shape;have hm:m=ls.length:=by
  obtain⟨_,_,e,_⟩:=hl.sl;injection e
 refine tR ce ?_;refine⟨bv,((b / 32:Nat):Int),EO be,b / 32,b / 32,rfl,rfl,lr,be,be,?_⟩;refine cS (cR (GT:=λ_ J v F=>dW F (Nf J F) v (List.replicate (b / 32) 0++ls)) (λO J r=>?_) ?_)
 .have hA:=r.Hh (id:=0) (sz:=1) (n:=b / 32) rfl ce mx (by simp[Value.oneCell']);have hB:=r.jt (id:=1) (sz:=1) (n:=2) rfl rfl mx (by intro u hu;simp at hu;rcases hu with rfl|rfl<;>rfl);have hL1:=(dW.rel hl r G).seq;refine(KP (S:=λg=>Cv S w.heap.size [] g\/g=(O 0).g\/g=(O 1).g) (parts:=[(.slice (some ⟨(O 0).g,0,none⟩) (b / 32) (b / 32),List.replicate (b / 32) (.int .u32 0),b / 32),(.slice a m c,F8 ls,ls.length)]) ?_ ?_ ?_ ?_).mono λe F ⟨v2,e1,e2,e3⟩=>⟨v2,e1,e2,?_⟩
  .intro g V;rcases V with V|V|V
   .exact rlo r G g V
   .rw[V];exact(r.low 0 _ rfl (r.nn 0 _ rfl (by intros;simp) ce)).2
   .rw[V];exact(r.low 1 _ rfl (r.nn 1 _ rfl (by intros;simp) ce)).2
  .exact hB.cU λg V=>.inr (.inr V)
  .intro p hp;simp only[List.mem_cons,List.not_mem_nil,or_false]at hp;rcases hp with rfl|rfl
   .exact hA.cU λg V=>.inr (.inl V)
   .exact hL1.cU λg V=>.inl V
  .simp[jI];omega
  .have e4:=PZ e3 (by
    intro u hu;simp only[List.flatMap_cons,List.flatMap_nil,List.append_nil,az,List.mem_replicate,F8,bA]at hu
    rcases hu with⟨_,rfl⟩|⟨_,_,rfl⟩<;>rfl) (by simp[jI,maxLen];omega)
   refine fT.BH (n:=b / 32+ls.length) ?_ ((Lm.replicate _).append hl.lm)
   .have e5:F8 (List.replicate (b / 32) 0++ls)=List.replicate (b / 32) (Value.int .u32 0)++F8 ls:=by rw[MX,sP]
    rw[e5];have e6:=e4.cU (S':=Nf J F) λg V=>.inr V;simpa [jI]using e6
 rintro O wa v1 wb r L Sw hL;have XB:=hL.ef (S:=FF) r.cY (iv:=[(wa.heap.size,wb.heap.size)]) aF;clear r L hL hl;generalize [(wa.heap.size,wb.heap.size)]=iv at*
 obtain⟨a1,m1,c1,rfl⟩:=XB.shape;refine⟨bv,((b % 32:Nat):Int),lh b 32,((b % 32:Nat):Int),en be,?_⟩;have hlen2:(List.replicate (b / 32) 0++ls).length<=200000000000:=by simp;omega
 have Ry:val (List.replicate (b / 32) 0++ls)*2^(b % 32)=n*2^b:=by
  rw[kl,kx,aq,aV,rI,hv,bX (2^_) n,bo,<-Nat.pow_add];congr 2;omega
 generalize List.replicate (b / 32) 0++ls=ls2 at*
 refine cS (cR (GT:=λ_ J v F=>∃out,dW F (Nf J F) v out/\out.length<=1000000000001/\val out=val ls2*2^(b % 32)) (λO J r=>?_) ?_)
 .refine(xS (rlo r oF) (dW.rel XB r oF) be (cL b bv)).mono λe F ⟨v2,e1,e2,out,e3,e4,e5⟩=>⟨v2,e1,e2,out,?_,be,e5⟩
  obtain⟨g,rfl,Tc,Qv,hg3⟩:=e3;exact(EM Qv hg3 be).cU λx Z=>.inr ⟨be,by have:=(bG.1 Qv).1;omega⟩
 rintro O wc v2 wd r L QZ ⟨out,hO,UR,RD⟩;replace Sw:=Sw.tr QZ;have Qb:=hO.ef (S:=FF) r.cY (iv:=(wc.heap.size,wd.heap.size)::iv) aF;clear r L hO XB QZ;generalize (wc.heap.size,wd.heap.size)::iv=iv2 at*
 obtain⟨a2,m2,c2,rfl⟩:=Qb.shape;refine cS (cR (GT:=λ_ _ v F=>dW F (Cf w iv2) v (eK out)) (λO J r=>fS (rlo r oF) (dW.rel Qb r oF)) ?_);rintro O we v3 wf r L WQ hT;replace Sw:=Sw.tr WQ;have hN:=hT.trimmed;rw[RD,Ry]at hN;clear r L hT Qb WQ;obtain⟨a3,m3,c3,rfl⟩:=hN.shape;intro Id w5 r5;exact⟨_,rfl,Sw.tr r5.cg,(hN.cU λg V=>V.cons).out r5 oF⟩
end
variable{s:ByteArray}{bs:List Nat}{b n:Nat}{S:Nat->Prop}{v:Value}{w:World}
def BK(n r:Nat):Prop:=r*r<=n/\n<(r+1)*(r+1)
def ES{x:Nat}(E:0<n)(Z:0<x):n<((x+n / x) / 2+1)*((x+n / x) / 2+1)/\0<(x+n / x) / 2:=by
 have Y:n<x*(n / x+1):=by
  have:=Nat.div_add_mod n x;have:=cL n Z;rw[bW,ah];omega
 generalize n / x=q at*
 obtain⟨y,hy⟩:∃y,y=(x+q) / 2:=⟨_,rfl⟩
 rw[<-hy];have I:x+q+1<=2*(y+1):=by omega
 have h3:(x+(q+1))*(x+(q+1))<=(2*(y+1))*(2*(y+1)):=Nat.mul_le_mul be be;have h4:4*(x*(q+1))<=(x+(q+1))*(x+(q+1)):=by
  generalize q+1=p;rw[bW,Nat.add_mul,Nat.add_mul,bX p x];rcases Nat.le_total x p with h|h
  .obtain⟨d,rfl⟩:=Nat.le.dest h;rw[bW,Nat.add_mul,bW,bW,bW,bX d x];omega
  .obtain⟨d,rfl⟩:=Nat.le.dest h;rw[bW,Nat.add_mul,Nat.add_mul,bW,bX d p];omega
 have h5:(2*(y+1))*(2*(y+1))=4*((y+1)*(y+1)):=by
  rw[bo,Nat.mul_left_comm (y+1) 2,<-bo,<-bo]
 refine⟨be,?_⟩;rcases bB y with h|h
 .subst h;omega
 .exact h
def GM{n x:Nat}(_:0<x)(h:x<=(x+n / x) / 2):x*x<=n:=by
 have Y:x<=n / x:=by omega
 exact aR (bC x Y) (Nat.mul_div_le n x)
def JO{a:Nat}:(qJ a b≥0)↔b<=a:=by
 unfold qJ;split
 .omega
 .split<;>omega
def Pg(G:Old S w)(h:de w S v n)(TY:ln n<=10000000000):
  eH PG Fd.rh #[v] w (eV w λv' F=>∃r,BK n r/\de F (Nf w F) v' r):=by
 have E:=h.arg [];obtain⟨p,rfl,Rk,Rz⟩:=h.la;have QL:=eE p.lm Rz;rw[Rk]at QL;have YU:=oO QL;refine wI ce ?_;apply bS<;>intro h0
 .have h0:n=0:=by have:=eq_of_beq h0;omega
  intro Id w5 r5;exact⟨_,rfl,r5.cg,0,⟨be,be⟩,de.nil _ _⟩
 have h0:0<n:=by
  have:(p.ls.length:Int)≠0:=λe=>by rw[e]at h0;exact absurd h0 bv
  omega
 refine⟨((32*p.ls.length:Nat):Int),wo,((32*p.ls.length+1:Nat):Int),wo,bv,(((32*p.ls.length+1) / 2:Nat):Int),EO be,(((32*p.ls.length+1) / 2+1:Nat):Int),wo,?_⟩;have Xj:n<(2^((32*p.ls.length+1) / 2+1)+1)*(2^((32*p.ls.length+1) / 2+1)+1):=by
  have Y:=lJ n;rw[<-QL,rI]at Y;have I:2^(32*p.ls.length)<=2^((32*p.ls.length+1) / 2+1)*2^((32*p.ls.length+1) / 2+1):=by
   rw[<-Nat.pow_add];exact Nat.pow_le_pow_right bv be
  have h3:=Nat.mul_le_mul (Nat.le_succ (2^((32*p.ls.length+1) / 2+1))) (Nat.le_succ (2^((32*p.ls.length+1) / 2+1)));simp only[Nat.succ_eq_add_one]at h3;omega
 have QB:(32*p.ls.length+1) / 2+1<=320000000000:=by omega
 generalize (32*p.ls.length+1) / 2+1=b at*
 have RA:ln (2^b)<=100000000000:=by
  refine gn.2 ?_;rw[rI];have VD:b<32*100000000000:=by omega
  generalize 32*100000000000=e at VD;exact Nat.pow_lt_pow_right bv VD
 refine cS (cR (GT:=λ_ J v F=>de F (Nf J F) v (2^b)) (λO J r=>?_) ?_)
 .have hB:=(r.pB (id:=0) (ls:=[1]) rfl (by intro x Z;simp at Z;omega) ce).nat (by simp[Nz]);refine(MY (λg V=>by rw[V];exact(r.low 0 _ rfl (r.nn 0 _ rfl (by intros;simp) ce)).2) hB bv be).mono λe F ⟨v2,e1,e2,e3⟩=>⟨v2,e1,e2,?_⟩
  have:val [1]*2^b=2^b:=by simp[val]
  rw[this]at e3;exact e3
 rintro O wa v1 wb r L N Z;have hX:=Z.ef (S:=FF) r.cY (iv:=[(wa.heap.size,wb.heap.size)]) aF;replace E:=E.cV (A:=[(wa.heap.size,wb.heap.size)]) r G L λx Z=>aD _ Z;clear r L Z;generalize [(wa.heap.size,wb.heap.size)]=iv at*
 obtain⟨a1,m1,c1,rfl⟩:=hX.shape
 refine⟨(Value×Nat)×Iv×World,λz=>⟨[(0,sV p.a p.ls.length p.c),(3,.o (.v z.1.1))],[],0,z.2.1,z.2.2⟩,λz=>z.1.2,
  λz=>Bq w z.2.2/\de z.2.2 (Cv S w.heap.size z.2.1) (.slice p.a p.ls.length p.c) n/\de z.2.2 (Cf w z.2.1) z.1.1 z.1.2/\0<z.1.2/\ln z.1.2<=100000000000/\n<(z.1.2+1)*(z.1.2+1),?_,?_⟩
 .intro O J r
  exact⟨((_,2^b),iv,J),⟨N.tr r.cg,E.rel r G,hX.rel r oF,cI b,RA,Xj⟩,
   Sub.gen [] r trivial ⟨rfl,rfl,trivial⟩ trivial (by simp[kN,SV.sc,At.sc]) d8 (λlo R h=>h)⟩
 clear hX E N Xj RA;rintro⟨⟨vx,x⟩,iv,w1⟩ ⟨W,E,hX,RI,RA,QU⟩;dsimp only at W E hX RI RA QU ⊢;obtain⟨a2,m2,c2,rfl⟩:=hX.shape;refine cS (cR (GT:=λ_ J v F=>∃q r,v= .tuple #[q,r]/\de F (Nf J F) q (n / x)/\de F (Nw (Cv S w.heap.size iv) J F) r (n % x)) (λO J r=>nF (rlo r G) (E.rel r G) ((hX.rel r oF).cU λg V=>by rcases V with h|h;exact h.elim;exact .inr h) RI be) ?_);rintro O w3 v3 w4 r L Rb ⟨q,rm,rfl,hq,Zl⟩;replace W:=W.tr Rb;have hQ:=hq.ef (S:=FF) r.cY (iv:=(w3.heap.size,w4.heap.size)::iv) aF;have hR:=Zl.old r.cY;replace E:=E.cV (A:=(w3.heap.size,w4.heap.size)::iv) r G L λx Z=>aD _ Z;replace hX:=hX.cV (A:=(w3.heap.size,w4.heap.size)::iv) r oF L λx Z=>aD _ Z;clear r L hq Zl Rb;generalize (w3.heap.size,w4.heap.size)::iv=iv2 at*
 obtain⟨a3,m3,c3,rfl⟩:=hQ.shape;obtain⟨a4,m4,c4,rfl⟩:=hR.shape;clear hR;have hlq:=@PI n x;refine cS (cR (GT:=λ_ J v F=>de F (Nf J F) v (x+n / x)) (λO J r=>He (rlo r oF) (hX.rel r oF) (hQ.rel r oF) be be) ?_);rintro O w5 v5 w6 r L Rb hp;replace W:=W.tr Rb;have hP:=hp.ef (S:=FF) r.cY (iv:=(w5.heap.size,w6.heap.size)::iv2) aF;replace E:=E.cV (A:=(w5.heap.size,w6.heap.size)::iv2) r G L λx Z=>aD _ Z;replace hX:=hX.cV (A:=(w5.heap.size,w6.heap.size)::iv2) r oF L λx Z=>aD _ Z;clear r L hp Rb hQ;generalize (w5.heap.size,w6.heap.size)::iv2=Ps at*
 obtain⟨a5,m5,c5,rfl⟩:=hP.shape;have hlp:=HT x (n / x);refine cS (cR (GT:=λ_ J v F=>de F (Nf J F) v ((x+n / x) / 2)) (λO J r=>?_) ?_)
 .obtain⟨ls,k1,k2,k3⟩:=hP.rel r oF;have:=MU (b:=1) (rlo r oF) k1 (by have:=eE k1.lm k2;rw[k3]at this;omega) bv;rw[k3]at this;exact this
 rintro O w7 v7 w8 r L Rb hp;replace W:=W.tr Rb;have hY:=hp.ef (S:=FF) r.cY (iv:=(w7.heap.size,w8.heap.size)::Ps) aF;replace E:=E.cV (A:=(w7.heap.size,w8.heap.size)::Ps) r G L λx Z=>aD _ Z;replace hX:=hX.cV (A:=(w7.heap.size,w8.heap.size)::Ps) r oF L λx Z=>aD _ Z;clear r L hp Rb hP;generalize (w7.heap.size,w8.heap.size)::Ps=QA at*
 obtain⟨a7,m7,c7,rfl⟩:=hY.shape;obtain⟨hlt2,Sk⟩:=ES h0 RI;have WH:=@GM n x RI;generalize (x+n / x) / 2=y at*
 refine cS (cR (GT:=λ_ _ v _=>v=iV (qJ y x)) (λO J r=>JA (rlo r oF) (hY.rel r oF) (hX.rel r oF)) ?_);rintro O w9 v9 w10 r L Rb rfl;replace W:=W.tr Rb;replace hY:=hY.cV (A:=(w9.heap.size,w10.heap.size)::QA) r oF L λx Z=>aD _ Z;replace E:=E.cV (A:=(w9.heap.size,w10.heap.size)::QA) r G L λx Z=>aD _ Z;replace hX:=hX.cV (A:=(w9.heap.size,w10.heap.size)::QA) r oF L λx Z=>aD _ Z;clear r L Rb;generalize (w9.heap.size,w10.heap.size)::QA=QE at*
 apply bS<;>intro h
 .have h:x<=y:=JO.1 (aK h);exact rtn W λGE we re=>⟨x,⟨WH h,QU⟩,hX.out re oF⟩
 .have h:y<x:=by
   have I:¬qJ y x≥0:=aL h;rw[JO]at I;omega
  intro GE we re
  exact⟨((_,y),QE,we),⟨W.tr re.cg,E.rel re G,hY.rel re oF,Sk,aR (fK (Nat.le_of_lt h)) RA,hlt2⟩,
   Sub.gen [] re trivial ⟨rfl,rfl,trivial⟩ trivial (by simp[kN,SV.sc,At.sc]) d8 (λlo R h=>h),h⟩
def Mc:Value:=.agg #[.bool false,nls,.bool false,nls]
def de.num{nv:Value}(h:de w S nv n):eP w S (.agg #[.bool false,nv]) (n:Int):=⟨nv,by rw[bD (show ¬((n:Int)<0) by omega)],h⟩
def wR{n:Int}(Y: -9223372036854775808<=n)(I:n<=9223372036854775807):ln n.natAbs<=2:=gn.2 (by show n.natAbs<4294967296^2;omega)
def aAw{r:Nat}(h:BK n r):ln r<=ln n:=by
 refine fK ?_;rcases bB r with h0|h0
 .omega
 .have:=h.1;have I:=Nat.le_mul_of_pos_right r h0;omega
def BQ(n den:Int)(w:World)(Si: -9223372036854775808<=n)(Tv:n<=9223372036854775807)(Rd: -9223372036854775808<=den)(RS:den<=9223372036854775807):
  eH PG Fd.lf #[iV n,iV den] w (eV w λv' F=>((n<0\/den<1\/1000000<den)/\v'= .tuple #[Mc,iV 2])\/
   (¬(n<0\/den<1\/1000000<den)/\∃r q,BK (n*den*den).natAbs r/\v'= .tuple #[q,iV 0]/\dH F (Nf w F) q (Rat.divInt r den))):=by
 have W:=bR w;refine uW ce ?_;apply bS<;>intro Y
 .have Y:=aK Y;exact rtn W λGE we re=>.inl ⟨be,rfl⟩
 have Y:=aL Y;apply bS<;>intro I
 .have I:=aK I;exact rtn W λGE we re=>.inl ⟨be,rfl⟩
 have I:=aL I;apply bS<;>intro h3
 .have h3:=aK h3;exact rtn W λGE we re=>.inl ⟨be,rfl⟩
 have h3:=aL h3;have Ta:=@wR n be be;have Qn:=@wR den be be;have RG:=dO n den;have Ra:=dO (n*den) den;refine cS (cE W (pR eP den) (λO J r=>lD den J be be) ?_);rintro O _ _ _ Pt r L W h_ E;have hD:=E.cU (nw r h_);clear r;obtain⟨A0,A1,A2,A3,rfl⟩:=hD.shape;refine dP [.x 0,.x 2,.x 4,.x 1,.x 3,.x 5,.x 6,.x 7,.x 8] ?_;refine cE W (pR eP n) (λO J r=>lD n J be be) ?_;rintro O _ _ _ iv2 r L W h_ E;replace hD:=hD.cV r oF L (mC h_);have hN:=E.cU (nw r h_);clear r;obtain⟨C0,C1,C2,C3,rfl⟩:=hN.shape;refine cE W (pR eP (n*den)) (λO J r=>gW (rlo r oF) (hN.rel r oF) (hD.rel r oF) be be) ?_;rintro O _ _ _ Ps r L W h_ E;replace hD:=hD.cV r oF L (mC h_);clear hN;have hA:=E.cU (nw r h_);clear r;obtain⟨E0,E1,E2,E3,rfl⟩:=hA.shape;refine cE W (pR eP (n*den*den)) (λO J r=>gW (rlo r oF) (hA.rel r oF) (hD.rel r oF) be be) ?_;rintro O _ _ _ QA r L W h_ E;replace hD:=hD.cV r oF L (mC h_);clear hA;have hB:=E.cU (nw r h_);clear r;obtain⟨F0,F1,F2,F3,rfl⟩:=hB.shape;have VY:=hB.nat.2;clear hB;refine cE W (λ_ J v F=>∃r,BK (n*den*den).natAbs r/\de F (Nf J F) v r) (λO J r=>Pg (rlo r oF) (VY.rel r oF) be) ?_;rintro O _ _ _ QE r L W h_ ⟨rt,hrt,S8⟩;replace hD:=hD.cV r oF L (mC h_);clear VY;have hK:=S8.cU (nw r h_);clear r;obtain⟨s5_0a,s5_0b,s5_0c,rfl⟩:=hK.shape;have hls:=aAw hrt;have hrn:ln ((rt:Int)).natAbs=ln rt:=rfl;refine cS (cE W (pR cw (Rat.divInt rt den)) (λO J r=>xU (rlo r oF) (x:=(rt:Int)) (hK.rel r oF).num (hD.rel r oF) be be be) ?_);rintro O _ _ _ Q8 r L W h_ E;clear hD;clear hK;have hF:=E.cU (nw r h_);clear r;have QI:=km (a:=(rt:Int)) (b:=den) be;obtain⟨G0,G1,G2,G3,G4,G5,G6,G7,rfl⟩:=hF.shape;refine cS (cE W (pR dH (Rat.divInt rt den)) (λO J r=>zN (rlo r oF) (hF.rel r oF) be) ?_);rintro O _ _ _ RJ r L W h_ E;clear hF;have hC:=E.cU (nw r h_);clear r;obtain⟨I0,I1,I2,I3,I4,I5,I6,I7,rfl⟩:=hC.shape;exact rtn W λGE we re=>.inr ⟨be,rt,_,hrt,rfl,hC.out re oF⟩
def jW(bs:List Nat):(strOf bs).size=bs.length:=by
 show(strOf bs).data.size=_;rw[ki];simp
def Kb{i:Nat}(h:bs[i]? =some b):(strOf bs)[i]? =some (UInt8.ofNat b):=by
 have Y:(strOf bs).data[i]? =some (UInt8.ofNat b):=by rw[ki];simp[h]
 have R:i<(strOf bs).size:=by rw[jW];exact(aH.1 h).1
 rw[getElem?_pos (strOf bs) i R];rw[getElem?_pos (strOf bs).data i R]at Y;exact Y
def Hu(b:Nat)(r:List Nat):(strOf (b::r)).extract 1 (strOf (b::r)).size=strOf r:=by
 apply ByteArray.ext;rw[ByteArray.data_extract,jW,ki,ki];apply Array.ext';simp[bU]
def zQ:PG.underlying T.string=some .string:=(hτ T.string _ rfl).i3 rfl
def u8n(h:b<256):(UInt8.ofNat b).toNat=b:=by simp;omega
def Hv(bs:List Nat)(w:World)(N:∀b∈bs,b<256)(hl:bs.length<=maxLen):
  eH PG Fd.lT #[.string (strOf bs),.int .u8 48] w (eV w λv _=>v= .string (strOf (bs.dropWhile (· ==48)))):=by
 unfold maxLen at hl;refine pA ce ?_
 refine⟨List Nat×World,λz=>⟨[(0,.o (.v (.string (strOf z.1)))),(1,.o (.v (.int .u8 48)))],[],0,[],z.2⟩,λz=>z.1.length,
  λz=>Bq w z.2/\(∀b∈z.1,b<256)/\z.1.length<=9223372036854775807/\z.1.dropWhile (· ==48)=bs.dropWhile (· ==48),?_,?_⟩
 .intro O J r;exact⟨(bs,J),⟨r.cg,N,hl,rfl⟩,Sub.gen [] r trivial ⟨rfl,rfl,trivial⟩ trivial (by simp[kN,SV.sc,At.sc]) d8 (λlo R h=>h)⟩
 clear N hl;rintro⟨cs,w1⟩ ⟨W,N,hl,hd⟩;dsimp only at W N hl hd ⊢
 cases cs with
 |nil=>
  exact rtn W λGE we re=>by rw[<-hd];rfl
 |cons c r=>
  have hc:=N c ce;apply bS<;>intro h
  .clear h;refine kh zQ d8 d8 bv (Kb (bs:=c::r) (i:=0) (b:=c) d8) (λO F r2=>?_);rw[u8n hc];replace W:=W.tr r2.cg;clear r2;apply bS<;>intro h
   .have h:c=48:=by have:=eq_of_beq h;omega
    subst h;refine⟨⟨be,by rw[jW];simp;omega,be⟩,?_⟩;intro I8 w3 r3;have ht:=Hu 48 r
    exact⟨(r,w3),⟨W.tr r3.cg,λb SR=>N b (aD _ SR),by dsimp only;simp at hl;omega,by rw[<-hd];rfl⟩,
     Sub.gen [] r3 trivial ⟨by rw[<-ht];rfl,rfl,trivial⟩ trivial (by simp[kN,SV.sc,At.sc]) d8 (λlo R h=>h),ce⟩
   .have h:c≠48:=λe=>by subst e;exact absurd h bv
    intro GE we re;refine⟨_,rfl,W.tr re.cg,?_⟩;rw[<-hd,List.dropWhile_cons,aJ (by simpa using h)];rfl
  .exact absurd (aL h) (by rw[jW];simp)
def BY(bs:List Nat)(w:World)(N:∀b∈bs,b<256)(hl:bs.length<=maxLen):
  eH PG Fd.oq #[.string (strOf bs),.string ⟨#[48]⟩] w (eV w λv _=>v= .string (strOf (bs.dropWhile (· ==48)))):=by
 have key:=λJ=>Hv bs J N hl;have QC:strOf bs=⟨#[]⟩->bs=[]:=λh=>by
  have:(strOf bs).data.toList=[]:=by rw[h]
  rw[ki]at this;simpa using this
 have Wj:strOf bs=⟨#[]⟩->strOf (bs.dropWhile (· ==48))=⟨#[]⟩:=λh=>by rw[QC h];rfl
 generalize strOf (bs.dropWhile (· ==48))=out at*
 generalize strOf bs=s at*
 clear N hl QC;refine tT ce ?_;apply bS<;>intro h
 .have h:s=⟨#[]⟩:=by
   have h:=eq_of_beq h;apply ByteArray.ext;apply Array.ext';exact h
  intro GE we re;exact⟨_,rfl,re.cg,by rw[Wj h,h];rfl⟩
 .clear h;refine kh zQ d8 d8 bv (b:=48) d8 (λO F r2=>?_);have W:=r2.cg;clear r2;conv=>whnf
  refine kh zQ d8 d8 bv (b:=48) d8 (λO w3 r2=>?_);replace W:=W.tr r2.cg;clear r2;refine cS (cR (GT:=λ_ _ v _=>v= .string out) (λO J r=>key J) ?_);rintro O wa v wb r L QZ rfl;replace W:=W.tr QZ;clear r L;exact rtn W λGE we re=>rfl
def Hw(a:Option Addr)(c:Nat)(w:World):eH PG Fd.pn #[.slice a 0 c,.string ⟨#[]⟩] w (eV w λv _=>v= .string ⟨#[]⟩):=by
 refine qY ce ?_;intro GE we re;exact⟨_,rfl,re.cg,rfl⟩
def Kd(G:Old S w)(h:fT w S 1 v [.string s] 1):eH PG Fd.pn #[v,.string ⟨#[]⟩] w (eV w λv _=>v= .string s):=by
 obtain⟨-,-,-,a,c,rfl,hc,Px⟩:=h;obtain⟨ad,rfl,Y,I⟩:=Px 0 _ rfl;refine qY ce ?_;refine⟨ad,rfl,be,.string s,λO J r=>by simpa using gF G Bel.refl r Y I,?_⟩;intro GE we re;exact⟨_,rfl,re.cg,rfl⟩
def nine(n:Nat):List Nat:=(List.range 9).map λj=>48+n / 10^(8-j) % 10
def Gf(n:Nat):List Nat:=if n=0 then [48]else(nine n).dropWhile (· ==48)
def gZ(k n:Nat):List At:=(List.range 9).map λj=>At.v (.int .u8 ((if 9<=j+k then 48+n / 10^(8-j) % 10 else 0:Nat):Int))
def dropWhile_nil{p:Nat->Bool}:∀{l:List Nat},l.dropWhile p=[]->∀x∈l,p x=true
 |[],_,x,Z=>by cases Z
 |a::r,h,x,Z=>by
  rw[List.dropWhile_cons]at h;split at h
  .rename_i ha;rcases List.mem_cons.1 Z with rfl|Z
   .exact ha
   .exact dropWhile_nil h x Z
  .cases h
def OI(h0:n≠0)(h:n<1000000000):(nine n).dropWhile (· ==48)≠[]:=by
 intro e;have:∀x∈nine n,x=48:=by
  intro x Z;have:=dropWhile_nil e x Z;simpa using this
 simp only[nine,bA,List.mem_range,forall_exists_index,and_imp,forall_apply_eq_imp_iff₂]at this;have Y:=this 0 be;have I:=this 1 be;have h3:=this 2 be;have h4:=this 3 be;have h5:=this 4 be;have h6:=this 5 be;have h7:=this 6 be;have h8:=this 7 be;have h9:=this 8 be;simp only[Nat.reduceSub,Nat.reducePow]at Y I h3 h4 h5 h6 h7 h8 h9;omega
def OJ(n:Nat):∀b∈nine n,b<256:=by
 intro b N;simp only[nine,bA]at N;obtain⟨j,_,rfl⟩:=N;omega
end Go.Ex
namespace Go.Sx
open Go Go.Ex Go.Proofs
variable{cs:List Value}{O:Nat->Sx.eD}
def Rel.ka{H:Hp}{nx:Nat}{iv:Iv}{B:Nat}{w J:World}(r:Rel H nx iv B w O J){id t m sz:Nat}(h:dT H id=some (.vec t sz cs))(hm:cs.length=m*sz)(VG:m<=maxLen)(hs:0<sz)(Y:∀u∈cs,u.oneCell'=true):
  fT J (λg=>B<=g/\g<J.heap.size) sz ((At.w id m).den O) cs m:=by
 rcases r.vec id t sz _ h with⟨E,rfl⟩|⟨E,spare,N,hc,RE⟩
 .have UC:m=0:=by
   rcases bB m with h|h
   .exact h
   .have:=Nat.mul_pos h hs;simp at hm;omega
  subst UC;refine⟨VG,ce,ce,none,0,by simp[At.den,E],lr,ce⟩
 .refine⟨VG,hm,Y,some ⟨(O id).g,0,none⟩,(O id).cap,by simp[At.den,E],?_,λj x Z=>⟨_,rfl,r.low id _ h E,?_⟩⟩
  .have Y:(cs++spare).length=cs.length+spare.length:=aU;have I:m*sz<=(O id).cap*sz:=by omega
   exact Nat.le_of_mul_le_mul_right I hs
  .rw[dD,cell_of N,aV,aN (aH.1 Z).1];exact Z
end Go.Sx
namespace Go.Ex
open Go Go.Sx Go.Proofs
section
variable{S:Nat->Prop}
def qN{t b:Nat}(h:t<4294967296):IntKind.u32.wrap ((t:Int).tdiv (b:Int))=((t / b:Nat):Int):=by
 have Y:=Nat.div_le_self t b;rw[Int.tdiv_eq_ediv_of_nonneg be,<-Int.natCast_ediv];rw[jF (Int.natCast_nonneg _)];omega
def Hz{n k j:Nat}(h:j+k=8):(gZ k n).set j (At.v (.int .u8 ((48+n / 10^k % 10:Nat):Int)))=gZ (k+1) n:=by
 apply av;intro i;by_cases R:i<9
 .by_cases RQ:j=i
  .subst RQ;rw[aQ (by simp[gZ];omega)];simp[gZ,R,show 9<=j+(k+1) by omega,show 8-j=k by omega]
  .rw[aX RQ];have:(9<=i+k)↔(9<=i+(k+1)):=by omega
   simp[gZ,R,this]
 .rw[List.getElem?_eq_none (by simp[gZ];omega),List.getElem?_eq_none (by simp[gZ];omega)]
def B5{w:World}{v:Value}{n:Nat}(G:Old S w)(h:de w S v n)(E:n<1000000000):
  eH PG Fd.oo #[v] w (eV w λv' _=>v'= .string (strOf (Gf n))):=by
 have hnN:=h.arg [];obtain⟨a,m,c,rfl⟩:=h.shape;refine tS ce ?_
 refine⟨Bool×Value×Iv×World,λz=>match z with
   |(false,v,iv,w1)=>⟨[(0,.o (.v v)),(3,sV none 0 0)],[],0,iv,w1⟩
   |(true,v,iv,w1)=>⟨[(0,.o (.v v)),(3,.o (.w 0 1))],[(0,.vec T.string 1 [.string (strOf (nine n))])],1,iv,w1⟩,
  λz=>if z.1 then 0 else 1,λz=>Bq w z.2.2.2/\de z.2.2.2 (Cv S w.heap.size z.2.2.1) z.2.1 (if z.1 then 0 else n)/\(z.1=true->n≠0),?_,?_⟩
 .intro O J r;exact⟨(false,_,[],J),⟨r.cg,hnN.rel r G,ce⟩,Sub.gen [] r trivial ⟨rfl,rfl,trivial⟩ trivial (by simp[kN,SV.sc,At.sc]) d8 (λlo R h=>h)⟩
 clear hnN h;rintro⟨b,v,iv,w1⟩ ⟨W,hv,Ti⟩;dsimp only at W hv Ti;obtain⟨p,rfl,Rk,Rz⟩:=hv.la;have QL:=eE p.lm Rz;rw[Rk]at QL;have YU:=oO QL
 cases b
 .simp only[Bool.false_eq_true,if_false]at hv Rk QL YU;apply bS<;>intro h
  .have h:0<n:=YU.1 (by
    have:(p.ls.length:Int)>0:=aK h
    omega)
   refine cS (cR (GT:=λ_ J v F=>∃q,v= .tuple #[q,.int .u32 (n:Int)]/\de F (Nf J F) q 0) (λO J r=>?_) ?_)
   .obtain⟨ls,k1,k2,k3⟩:=hv.rel r G;have hl:=eE k1.lm k2;rw[k3]at hl;have:=JC (b:=1000000000) (rlo r G) k1 (by have:=(gn (n:=n) (k:=1)).2 (show n<4294967296 by omega);omega) bv bv;rw[k3,bZ E,Nat.div_eq_of_lt E]at this;exact this
   rintro O wa v1 wb r L QZ ⟨q,rfl,hq⟩;replace W:=W.tr QZ;have hQ:=hq.ef (S:=S) r.cY (iv:=(wa.heap.size,wb.heap.size)::iv) aF;clear r L hq hv QZ;generalize (wa.heap.size,wb.heap.size)::iv=iv2 at*
   obtain⟨a1,m1,c1,rfl⟩:=hQ.shape
   refine⟨Nat×World,λz=>⟨[(0,sV p.a p.ls.length p.c),(3,sV none 0 0),(4,sV a1 m1 c1),(5,.o (.v (.int .u32 ((n / 10^z.1:Nat):Int)))),(6,pP 0 0),(7,.o (.v (iV (8-(z.1:Int)))))],[(0,.box T.ML (gZ z.1 n))],1,iv2,z.2⟩,
    λz=>9-z.1,λz=>z.1<=9/\Bq w z.2/\de z.2 (Cv S w.heap.size iv2) (.slice a1 m1 c1) 0,?_,?_⟩
   .intro O J r;exact⟨(0,J),⟨ce,W.tr r.cg,hQ.rel r G⟩,Sub.gen [] r ⟨rfl,trivial⟩ ⟨rfl,rfl,rfl,by simp;rfl,rfl,rfl,trivial⟩ (by simp[Cd,jX.scopd,gZ,At.sc]) (by simp[kN,SV.sc,At.sc]) d8 (λlo R h=>h)⟩
   clear W hQ;rintro⟨k,F⟩ ⟨K,W,hQ⟩;dsimp only at K W hQ ⊢;have Xv:k<9\/k=9:=by omega
   rcases Xv with hk9|rfl
   .have hdiv:n / 10^k / 10=n / 10^(k+1):=by rw[Nat.div_div_eq_div_mul,Nat.pow_succ]
    have hle:=Nat.div_le_self n (10^k);have RB:∀j,j+k=8->(gZ k n).set j (At.v (.int .u8 ((48+n / 10^k % 10:Nat):Int)))=gZ (k+1) n:=λj hj=>Hz hj;generalize n / 10^k=x at*
    have hcases:k=0\/k=1\/k=2\/k=3\/k=4\/k=5\/k=6\/k=7\/k=8:=by omega
    rcases hcases with rfl|rfl|rfl|rfl|rfl|rfl|rfl|rfl|rfl
    .conv=>whnf
     refine⟨bv,((x % 10:Nat):Int),lh x 10,((48+x % 10:Nat):Int),by rw[jF]<;>omega,((48+x % 10:Nat):Int),j1 be,⟨bv,bv⟩,bv,((x / 10:Nat):Int),qN be,8-((0+1:Nat):Int),bv,?_⟩;intro I8 w3 r3;have hs:=RB 8 rfl;exact⟨(0+1,w3),⟨by dsimp only;omega,W.tr r3.cg,hQ.rel r3 G⟩,Sub.gen [] r3 ⟨by rw[<-hs];rfl,trivial⟩ ⟨rfl,rfl,rfl,by rw[<-hdiv];rfl,rfl,rfl,trivial⟩ (by simp[Cd,jX.scopd,gZ,At.sc]) (by simp[kN,SV.sc,At.sc]) d8 (λlo R h=>h),by dsimp only;omega⟩
    .conv=>whnf
     refine⟨bv,((x % 10:Nat):Int),lh x 10,((48+x % 10:Nat):Int),by rw[jF]<;>omega,((48+x % 10:Nat):Int),j1 be,⟨bv,bv⟩,bv,((x / 10:Nat):Int),qN be,8-((1+1:Nat):Int),bv,?_⟩;intro I8 w3 r3;have hs:=RB 7 rfl;exact⟨(1+1,w3),⟨by dsimp only;omega,W.tr r3.cg,hQ.rel r3 G⟩,Sub.gen [] r3 ⟨by rw[<-hs];rfl,trivial⟩ ⟨rfl,rfl,rfl,by rw[<-hdiv];rfl,rfl,rfl,trivial⟩ (by simp[Cd,jX.scopd,gZ,At.sc]) (by simp[kN,SV.sc,At.sc]) d8 (λlo R h=>h),by dsimp only;omega⟩
    .conv=>whnf
     refine⟨bv,((x % 10:Nat):Int),lh x 10,((48+x % 10:Nat):Int),by rw[jF]<;>omega,((48+x % 10:Nat):Int),j1 be,⟨bv,bv⟩,bv,((x / 10:Nat):Int),qN be,8-((2+1:Nat):Int),bv,?_⟩;intro I8 w3 r3;have hs:=RB 6 rfl;exact⟨(2+1,w3),⟨by dsimp only;omega,W.tr r3.cg,hQ.rel r3 G⟩,Sub.gen [] r3 ⟨by rw[<-hs];rfl,trivial⟩ ⟨rfl,rfl,rfl,by rw[<-hdiv];rfl,rfl,rfl,trivial⟩ (by simp[Cd,jX.scopd,gZ,At.sc]) (by simp[kN,SV.sc,At.sc]) d8 (λlo R h=>h),by dsimp only;omega⟩
    .conv=>whnf
     refine⟨bv,((x % 10:Nat):Int),lh x 10,((48+x % 10:Nat):Int),by rw[jF]<;>omega,((48+x % 10:Nat):Int),j1 be,⟨bv,bv⟩,bv,((x / 10:Nat):Int),qN be,8-((3+1:Nat):Int),bv,?_⟩;intro I8 w3 r3;have hs:=RB 5 rfl;exact⟨(3+1,w3),⟨by dsimp only;omega,W.tr r3.cg,hQ.rel r3 G⟩,Sub.gen [] r3 ⟨by rw[<-hs];rfl,trivial⟩ ⟨rfl,rfl,rfl,by rw[<-hdiv];rfl,rfl,rfl,trivial⟩ (by simp[Cd,jX.scopd,gZ,At.sc]) (by simp[kN,SV.sc,At.sc]) d8 (λlo R h=>h),by dsimp only;omega⟩
    .conv=>whnf
     refine⟨bv,((x % 10:Nat):Int),lh x 10,((48+x % 10:Nat):Int),by rw[jF]<;>omega,((48+x % 10:Nat):Int),j1 be,⟨bv,bv⟩,bv,((x / 10:Nat):Int),qN be,8-((4+1:Nat):Int),bv,?_⟩;intro I8 w3 r3;have hs:=RB 4 rfl;exact⟨(4+1,w3),⟨by dsimp only;omega,W.tr r3.cg,hQ.rel r3 G⟩,Sub.gen [] r3 ⟨by rw[<-hs];rfl,trivial⟩ ⟨rfl,rfl,rfl,by rw[<-hdiv];rfl,rfl,rfl,trivial⟩ (by simp[Cd,jX.scopd,gZ,At.sc]) (by simp[kN,SV.sc,At.sc]) d8 (λlo R h=>h),by dsimp only;omega⟩
    .conv=>whnf
     refine⟨bv,((x % 10:Nat):Int),lh x 10,((48+x % 10:Nat):Int),by rw[jF]<;>omega,((48+x % 10:Nat):Int),j1 be,⟨bv,bv⟩,bv,((x / 10:Nat):Int),qN be,8-((5+1:Nat):Int),bv,?_⟩;intro I8 w3 r3;have hs:=RB 3 rfl;exact⟨(5+1,w3),⟨by dsimp only;omega,W.tr r3.cg,hQ.rel r3 G⟩,Sub.gen [] r3 ⟨by rw[<-hs];rfl,trivial⟩ ⟨rfl,rfl,rfl,by rw[<-hdiv];rfl,rfl,rfl,trivial⟩ (by simp[Cd,jX.scopd,gZ,At.sc]) (by simp[kN,SV.sc,At.sc]) d8 (λlo R h=>h),by dsimp only;omega⟩
    .conv=>whnf
     refine⟨bv,((x % 10:Nat):Int),lh x 10,((48+x % 10:Nat):Int),by rw[jF]<;>omega,((48+x % 10:Nat):Int),j1 be,⟨bv,bv⟩,bv,((x / 10:Nat):Int),qN be,8-((6+1:Nat):Int),bv,?_⟩;intro I8 w3 r3;have hs:=RB 2 rfl;exact⟨(6+1,w3),⟨by dsimp only;omega,W.tr r3.cg,hQ.rel r3 G⟩,Sub.gen [] r3 ⟨by rw[<-hs];rfl,trivial⟩ ⟨rfl,rfl,rfl,by rw[<-hdiv];rfl,rfl,rfl,trivial⟩ (by simp[Cd,jX.scopd,gZ,At.sc]) (by simp[kN,SV.sc,At.sc]) d8 (λlo R h=>h),by dsimp only;omega⟩
    .conv=>whnf
     refine⟨bv,((x % 10:Nat):Int),lh x 10,((48+x % 10:Nat):Int),by rw[jF]<;>omega,((48+x % 10:Nat):Int),j1 be,⟨bv,bv⟩,bv,((x / 10:Nat):Int),qN be,8-((7+1:Nat):Int),bv,?_⟩;intro I8 w3 r3;have hs:=RB 1 rfl;exact⟨(7+1,w3),⟨by dsimp only;omega,W.tr r3.cg,hQ.rel r3 G⟩,Sub.gen [] r3 ⟨by rw[<-hs];rfl,trivial⟩ ⟨rfl,rfl,rfl,by rw[<-hdiv];rfl,rfl,rfl,trivial⟩ (by simp[Cd,jX.scopd,gZ,At.sc]) (by simp[kN,SV.sc,At.sc]) d8 (λlo R h=>h),by dsimp only;omega⟩
    .conv=>whnf
     refine⟨bv,((x % 10:Nat):Int),lh x 10,((48+x % 10:Nat):Int),by rw[jF]<;>omega,((48+x % 10:Nat):Int),j1 be,⟨bv,bv⟩,bv,((x / 10:Nat):Int),qN be,8-((8+1:Nat):Int),bv,?_⟩;intro I8 w3 r3;have hs:=RB 0 rfl;exact⟨(8+1,w3),⟨by dsimp only;omega,W.tr r3.cg,hQ.rel r3 G⟩,Sub.gen [] r3 ⟨by rw[<-hs];rfl,trivial⟩ ⟨rfl,rfl,rfl,by rw[<-hdiv];rfl,rfl,rfl,trivial⟩ (by simp[Cd,jX.scopd,gZ,At.sc]) (by simp[kN,SV.sc,At.sc]) d8 (λlo R h=>h),by dsimp only;omega⟩
   .have hn9:gZ 9 n=(nine n).map λb:Nat=>At.v (.int .u8 (b:Int)):=by
     apply av;intro i;by_cases R:i<9
     .simp[gZ,nine,R]
     .rw[List.getElem?_eq_none (by simp[gZ];omega),List.getElem?_eq_none (by simp[nine];omega)]
    rw[hn9];have hl9:(nine n).length=9:=by simp[nine]
    generalize nine n=bs at*
    clear hn9;refine NT (e:=T.uint8) (bs:=bs) ((hτ T.PU _ rfl).i4 rfl) ((hτ T.uint8 _ rfl).i1 rfl) zQ d8 d8 hl9 (λO w3 r=>?_);replace W:=W.tr r.cg;replace hQ:=hQ.rel r G;clear r;generalize strOf bs=str at*
    refine .inl ?_;refine⟨[],rfl,ce,λO J r h0=>absurd h0 bv,rfl,bv,bv,?_⟩;intro I8 w3 r3;exact⟨(true,.slice a1 m1 c1,iv2,w3),⟨W.tr r3.cg,hQ.rel r3 G,λ_=>be⟩,sbgn [(0,2)] r3,ce⟩
  .have h:n=0:=by
    have:¬(p.ls.length:Int)>0:=aL h;omega
   subst h;refine cS (cR (GT:=λ_ _ v _=>v= .string ⟨#[]⟩) (λO J r=>Hw none 0 J) ?_);rintro O wa v wb r L N rfl;replace W:=W.tr N;clear r L;refine cS (cR (GT:=λ_ _ v _=>v= .string ⟨#[]⟩) (λO J r=>BY [] J ce bv) ?_);rintro O wa v wb r L N rfl;replace W:=W.tr N;clear r L;exact rtn W λGE we re=>rfl
 .simp only[if_true]at hv Rk QL YU;have hz:p.ls.length=0:=by omega
  have Wb:=Ti rfl;have Po:(strOf ((nine n).dropWhile (· ==48))).data.toList≠[]:=by
   rw[ki];simpa using OI Wb E
  have Wj:Gf n=(nine n).dropWhile (· ==48):=aJ Wb;have key:=λJ=>BY (nine n) J (OJ n) (by simp[nine];decide);rw[Wj];clear Wj;generalize strOf ((nine n).dropWhile (· ==48))=out at*
  generalize strOf (nine n)=str at*
  rw[hz];refine cS (cR (GT:=λ_ _ v _=>v= .string str) (λO J r=>?_) ?_)
  .exact Kd (S:=λg=>w.heap.size<=g/\g<J.heap.size) (λg V=>V.2) (r.ka (id:=0) (sz:=1) (m:=1) rfl rfl bv bv (by simp[Value.oneCell']))
  rintro O wa v wb r L N rfl;replace W:=W.tr N;clear r L;refine cS (cR (GT:=λ_ _ v _=>v= .string out) (λO J r=>key J) ?_);rintro O wa v wb r L N rfl;replace W:=W.tr N;clear r L;apply bS<;>intro h
  .exact absurd (eq_of_beq h) Po
  .conv=>whnf
   exact rtn W λGE we re=>rfl
end
variable{U:List (List Value)}{qs:List Rat}{cs xs:List Value}{i j n:Nat}{C S:Nat->Prop}{f:Nat->Rat->Rat}{O:Nat->Sx.eD}{p q:Rat}{v:Value}{w:World}
def signed:Bool->ByteArray->ByteArray
 |true,s=>⟨#[45]⟩++s
 |false,s=>s
def EY(q:Rat):ByteArray:=signed (decide (q.num<0)) (strOf (Gf q.num.natAbs))
def LF(q:Rat):ByteArray:=match decide (q.den=1)with
 |true=>EY q
 |false=>EY q++(⟨#[47]⟩++strOf (Gf q.den))
def EZ(n:Nat):(Gf n).length<=9:=by
 unfold Gf;split
 .decide
 .exact aR (List.Sublist.length_le (List.dropWhile_sublist _)) (by simp[nine])
def Kh(q:Rat):(EY q).size<=10:=by
 have Y:=EZ q.num.natAbs;unfold EY
 cases decide (q.num<0)
 .show(strOf _).size<=10;rw[jW];omega
 .show(⟨#[45]⟩++strOf _:ByteArray).size<=10;rw[ByteArray.size_append,jW];show 1+_<=10;omega
def aAF(G:Old S w)(hf:cw w S v q)(E:q.num.natAbs<1000000000)(hd:q.den<1000000000):
  eH PG Fd.mE #[v] w (eV w λv' _=>v'= .string (LF q)):=by
 have W:=bR w;replace hf:=hf.cU (S':=Cv S w.heap.size []) λ_ h=>.inl h;obtain⟨b1,a1,n1,c1,b2,a2,n2,c2,rfl⟩:=hf.shape;have UQ:=hf.num.nat;have Qx:=hf.den;clear hf;obtain⟨Sw,UQ⟩:=UQ;have TY:=EZ q.num.natAbs;have SU:=EZ q.den;have hts:=Kh q;have hA:EY q=signed b1 (strOf (Gf q.num.natAbs)):=by rw[Sw];rfl
 have Wx:=jW (Gf q.num.natAbs);have TC:=jW (Gf q.den);refine qA ce ?_;refine cS (cE W (pE (.string (strOf (Gf q.num.natAbs)))) (λO J r=>B5 (rlo r G) (UQ.rel r G) E) ?_);rintro O _ _ _ Pt r L W h_ rfl;clear UQ;replace Qx:=Qx.cV r G L (mC h_);clear r;generalize strOf (Gf q.num.natAbs)=s1 at*
 have hln1:ln q.den<=1:=gn.2 (show q.den<4294967296 by omega)
 cases b1
 .conv=>whnf
  refine dP (idO 5) ?_;refine cE W (pR eP 1) (λO J r=>lD 1 J bv bv) ?_;rintro O Qk v2 QP iv2 r L W h_ E;replace Qx:=Qx.cV r G L (mC h_);have hO:=E.cU (nw r h_);clear r E;obtain⟨A0,A1,A2,A3,rfl⟩:=hO.shape;refine cE W (pE (iV ((q.den:Int)-1).sign)) (λO J r=>BG (rlo r G) (Qx.rel r G) ((hO.rel r oF).cU λg V=>V.elim (λk=>k.elim) .inr) (aR hln1 bv) bv) ?_;rintro O Qh v3 Q7 Ps r L W h_ rfl;replace Qx:=Qx.cV r G L (mC h_);clear hO;clear r;apply bS<;>intro h
  .have h:q.den≠1:=λe=>by rw[e]at h;exact absurd h bv
   have Xw:=Qx.nat.2;clear Qx;refine cS (cE W (pE (.string (strOf (Gf q.den)))) (λO J r=>B5 (rlo r G) (Xw.rel r G) hd) ?_);rintro O Rg v4 RT QA r L W h_ rfl;clear Xw;clear r;have ht:LF q=EY q++(⟨#[47]⟩++strOf (Gf q.den)):=by unfold LF;rw[bD h]
   rw[ht,hA];clear ht hA;generalize strOf (Gf q.den)=s2 at*
   refine⟨by show 1+s2.size<=maxLen;unfold maxLen;omega,by simp only[ByteArray.size_append];have k1:(ByteArray.mk #[45]).size=1:=rfl;have k2:(ByteArray.mk #[47]).size=1:=rfl;unfold maxLen;omega,?_⟩;exact rtn W λGE we re=>rfl
  .have h:q.den=1:=by
    have h0:((q.den:Int)-1).sign=0:=by
     have Y:(((q.den:Int)-1).sign==0)=true:=by simpa using h
     exact eq_of_beq Y
    have:=bj.1 h0;omega
   have ht:LF q=EY q:=by unfold LF;rw[bY h]
   rw[ht,hA];clear ht hA;exact rtn W λGE we re=>rfl
 .conv=>whnf
  refine⟨by show 1+s1.size<=maxLen;unfold maxLen;omega,?_⟩;refine dP (idO 5) ?_;refine cE W (pR eP 1) (λO J r=>lD 1 J bv bv) ?_;rintro O _ _ _ iv2 r L W h_ E;replace Qx:=Qx.cV r G L (mC h_);have hO:=E.cU (nw r h_);clear r E;obtain⟨A0,A1,A2,A3,rfl⟩:=hO.shape;refine cE W (pE (iV ((q.den:Int)-1).sign)) (λO J r=>BG (rlo r G) (Qx.rel r G) ((hO.rel r oF).cU λg V=>V.elim (λk=>k.elim) .inr) (aR hln1 bv) bv) ?_;rintro O _ _ _ Ps r L W h_ rfl;replace Qx:=Qx.cV r G L (mC h_);clear hO;clear r;apply bS<;>intro h
  .have h:q.den≠1:=λe=>by rw[e]at h;exact absurd h bv
   have Xw:=Qx.nat.2;clear Qx;refine cS (cE W (pE (.string (strOf (Gf q.den)))) (λO J r=>B5 (rlo r G) (Xw.rel r G) hd) ?_);rintro O _ _ _ QA r L W h_ rfl;clear Xw;clear r;have ht:LF q=EY q++(⟨#[47]⟩++strOf (Gf q.den)):=by unfold LF;rw[bD h]
   rw[ht,hA];clear ht hA;generalize strOf (Gf q.den)=s2 at*
   refine⟨by show 1+s2.size<=maxLen;unfold maxLen;omega,by simp only[ByteArray.size_append];have k1:(ByteArray.mk #[45]).size=1:=rfl;have k2:(ByteArray.mk #[47]).size=1:=rfl;unfold maxLen;omega,?_⟩;exact rtn W λGE we re=>rfl
  .have h:q.den=1:=by
    have h0:((q.den:Int)-1).sign=0:=by
     have Y:(((q.den:Int)-1).sign==0)=true:=by simpa using h
     exact eq_of_beq Y
    have:=bj.1 h0;omega
   have ht:LF q=EY q:=by unfold LF;rw[bY h]
   rw[ht,hA];clear ht hA;exact rtn W λGE we re=>rfl
def Gg{x y:Int}(G:Old S w)(Z:ke w S v x y)(RA:ln x.natAbs<=10000000000)(RZ:ln y.natAbs<=10000000000)(E:(ratio x y).num.natAbs<1000000000)(hd:(ratio x y).den<1000000000):
  eH PG Fd.pg #[v] w (eV w λv' _=>v'= .string (LF (ratio x y))):=by
 have W:=bR w;replace Z:=Z.cU (S':=Cv S w.heap.size []) λ_ h=>.inl h;obtain⟨b1,a1,n1,c1,b2,a2,n2,c2,rfl⟩:=Z.shape;refine yb ce ?_;refine cS (cE W (pR cw (ratio x y)) (λO J r=>zO (rlo r G) (Z.rel r G) be be) ?_);rintro O _ _ _ Pt r L W h_ E;clear Z;have hF:=E.cU (nw r h_);clear r E;obtain⟨A0,A1,A2,A3,A4,A5,A6,A7,rfl⟩:=hF.shape;refine cS (cE W (pE (.string (LF (ratio x y)))) (λO J r=>aAF (rlo r oF) (hF.rel r oF) E hd) ?_);rintro O _ _ _ iv2 r L W h_ rfl;clear hF;clear r;exact rtn W λGE we re=>rfl
def jh(w:World)(S:Nat->Prop)(cs:List Value)(q:Rat):Prop:=∃b a n c b2 a2 n2 c2,cs=(rC b a n c b2 a2 n2 c2)/\cw w S (.agg #[.bool b,.slice a n c,.bool b2,.slice a2 n2 c2]) q
def Fr(w:World)(S:Nat->Prop)(U:List (List Value))(qs:List Rat):Prop:=U.length=qs.length/\∀(j:Nat) cs q,U[j]? =some cs->qs[j]? =some q->jh w S cs q
section
variable{S S':Nat->Prop}{w F:World}{cs:List Value}{U:List (List Value)}{q:Rat}{qs:List Rat}
def jh.cW(h:jh w S cs q)(K:∀g,S g->F.heap[g]? =w.heap[g]?):jh F S cs q:=by
 obtain⟨b,a,n,c,b2,a2,n2,c2,Y,I⟩:=h;exact⟨b,a,n,c,b2,a2,n2,c2,Y,I.cW K⟩
def jh.cU(h:jh w S cs q)(K:∀g,S g->S' g):jh w S' cs q:=by
 obtain⟨b,a,n,c,b2,a2,n2,c2,Y,I⟩:=h;exact⟨b,a,n,c,b2,a2,n2,c2,Y,I.cU K⟩
def jh.len(h:jh w S cs q):cs.length=4:=by obtain⟨_,_,_,_,_,_,_,_,rfl,_⟩:=h;rfl
def cw.four{b b2:Bool}{a a2:Option Addr}{c n2 c2:Nat}(h:cw w S (.agg #[.bool b,.slice a n c,.bool b2,.slice a2 n2 c2]) q):jh w S (rC b a n c b2 a2 n2 c2) q:=⟨_,_,_,_,_,_,_,_,rfl,h⟩
def Fr.cW(h:Fr w S U qs)(K:∀g,S g->F.heap[g]? =w.heap[g]?):Fr F S U qs:=⟨h.1,λj cs q Y I=>(h.2 j cs q Y I).cW K⟩
def Fr.cU(h:Fr w S U qs)(K:∀g,S g->S' g):Fr w S' U qs:=⟨h.1,λj cs q Y I=>(h.2 j cs q Y I).cU K⟩
def Fr.oP(h:Fr w S U qs):∀cs∈U,cs.length=4:=λcs hc=>by
 obtain⟨j,hj⟩:=aj hc;have hl:=(aH.1 hj).1;exact(h.2 j cs _ hj (aE (by rw[<-h.1];exact hl))).len
def Fr.one(h:Fr w S U qs):∀u∈U.flatten,u.oneCell'=true:=λu hu=>by
 obtain⟨cs,hc,hu⟩:=List.mem_flatten.1 hu;obtain⟨j,hj⟩:=aj hc;have hl:=(aH.1 hj).1;obtain⟨_,_,_,_,_,_,_,_,rfl,_⟩:=h.2 j cs _ hj (aE (by rw[<-h.1];exact hl));simp at hu;rcases hu with rfl|rfl|rfl|rfl<;>rfl
def Fr.set(h:Fr w S U qs)(hq:jh w S cs q):Fr w S (U.set j cs) (qs.set j q):=by
 refine⟨by simp[h.1],λi c p Y I=>?_⟩;by_cases RQ:j=i
 .subst RQ;have hl:=(aH.1 Y).1;rw[aQ (by simpa using hl)]at Y;rw[aQ (by have:=h.1;simp at hl;omega)]at I;injection Y with Y;injection I with I;subst Y I;exact hq
 .rw[aX RQ]at Y I;exact h.2 i c p Y I
end
section
variable{S S':Nat->Prop}{H:Hp}{nx:Nat}{iv A:Iv}{B:Nat}{w J F:World}{O:Nat->Sx.eD}{U:List (List Value)}{qs:List Rat}
def Fr.rel(h:Fr w (Cv S B iv) U qs)(r:Rel H nx iv B w O J)(G:∀g,S g->g<B):Fr J (Cv S B iv) U qs:=h.cW λ_ V=>rls r G V
def Fr.cV(h:Fr w (Cv S B iv) U qs)(r:Rel H nx iv B w O J)(G:∀g,S g->g<B)(L:Ext J F)(hm:∀p,p∈iv->p∈A):Fr F (Cv S B A) U qs:=
 ((h.rel r G).cW λg V=>L.block g (rlo r G g V)).cU λ_ V=>V.mono hm
def Fr.arg(h:Fr w S U qs)(iv:Iv):Fr w (Cv S w.heap.size iv) U qs:=h.cU λ_ h=>.inl h
end
def fJ:∀{U:List (List Value)},(∀cs∈U,cs.length=4)->U.flatten.length=U.length*4
 |[],_=>rfl
 |c::r,h=>by
  rw[List.flatten_cons,aU,fJ (λcs hc=>h cs (aD _ hc)),h c aF,bh];omega
def flat_get:∀{U:List (List Value)} {j:Nat} {cs:List Value},(∀cs∈U,cs.length=4)->U[j]? =some cs->∀k u,cs[k]? =some u->U.flatten[j*4+k]? =some u
 |[],j,cs,_,hj,_,_,_=>by simp at hj
 |c::r,0,cs,h,hj,k,u,hu=>by
  simp at hj;subst hj;rw[List.flatten_cons,aN (by have:=(aH.1 hu).1;omega)];simpa using hu
 |c::r,j+1,cs,h,hj,k,u,hu=>by
  have hc:=h c aF;rw[List.flatten_cons,aP be,hc,show(j+1)*4+k-4=j*4+k by omega];exact flat_get (λcs hc=>h cs (aD _ hc)) (by simpa using hj) k u hu
def kX:∀{U:List (List Value)} {j:Nat} {cs:List Value},(∀cs∈U,cs.length=4)->j<U.length->U.flatten.take (j*4)++cs++U.flatten.drop (j*4+4)=(U.set j cs).flatten
 |[],j,cs,_,hj=>by simp at hj
 |c::r,0,cs,h,_=>by
  have hc:=h c aF;simp[List.flatten_cons,hc]
 |c::r,j+1,cs,h,hj=>by
  have hc:=h c aF
  rw[List.flatten_cons,show(j+1)*4=c.length+j*4 by omega,List.take_length_add_append,show c.length+j*4+4=c.length+(j*4+4) by omega,List.drop_length_add_append,List.set_cons_succ,List.flatten_cons,
   <-kX (λcs hc=>h cs (aD _ hc)) (by simpa using hj),bg,bg,bg]
abbrev Out(B:Nat)(iv:Iv):Nat->Prop:=Cv (λg=>g<B) B iv
def jE{H:Hp}{nx:Nat}{iv:Iv}{B Bc e sz m:Nat}{J:World}(h:w.ownsRow Bc e sz v m xs)(hc:∀g,v.ownBlock=some g->Out B iv g)(r:Rel H nx iv B w O J):J.ownsRow Bc e sz v m xs:=
 ownsRow.cW h λb N=>rls r (λ_ h=>h) (hc b N)
def s6{a:Option Addr}{c:Nat}(h:w.ownsRow 0 T.dN 4 (.slice a n c) n U.flatten)(hf:Fr w S U qs)(hj:U[j]? =some cs):
  ∃g,a=some ⟨g,0,none⟩/\∀k u,cs[k]? =some u->w.cell? ((Addr.add ⟨g,0,none⟩ (j*4)).add k)=some u:=by
 rcases h.2 with⟨Y,h0⟩|⟨g,cap,cur,S5,_⟩
 .have:=h.1;rw[fJ hf.oP]at this;have:=(aH.1 hj).1;omega
 .injection S5 with Y I h3;subst Y;refine⟨g,rfl,λk u hu=>?_⟩;have:=h.cells (g:=g) rfl (j*4+k) u (flat_get hf.oP hj k u hu);rw[dD,dD];rw[dD]at this;rw[Nat.add_assoc];exact this
def tF:PG.underlying T.row=some (.slice T.dN):=(hτ T.row _ rfl).i4 rfl
def upto(i:Nat)(f:Rat->Rat)(qs:List Rat):List Rat:=qs.mapIdx λj q=>if j<i then f q else q
def Ki(f:Rat->Rat)(qs:List Rat):upto 0 f qs=qs:=by
 apply av;intro j;simp[upto]
def Ml(f:Rat->Rat)(qs:List Rat):upto qs.length f qs=qs.map f:=by
 apply av;intro j;simp only[upto,List.getElem?_mapIdx,aS]
 cases h:qs[j]? with
 |none=>rfl
 |some q=>simp[(aH.1 h).1]
def Kj{f:Rat->Rat}(h:qs[i]? =some q):(upto i f qs).set i (f q)=upto (i+1) f qs:=by
 apply av;intro j;have R:=(aH.1 h).1;by_cases RQ:i=j
 .subst RQ;rw[aQ (by simp[upto];exact R)];simp[upto,List.getElem?_mapIdx,h]
 .rw[aX RQ];simp only[upto,List.getElem?_mapIdx]
  have:(j<i)↔(j<i+1):=by omega
  simp[this]
def OK{f:Rat->Rat}:(upto i f qs)[i]? =qs[i]? :=by
 simp only[upto,List.getElem?_mapIdx]
 cases qs[i]? <;>simp
def eJ{w1 F:World}{row:Option Nat}(h:w.grownBy w1 row)(k:Bel w.heap.size w1 F):w.grownBy F row:=
 ⟨k.os.trans h.os,k.tape.trans h.tape,k.output.trans h.output,aR h.size k.size,λb N E=>(k.block b N).trans (h.block b N E)⟩
def wO{vby:Value}(G:Old S w)(Pm:w.ownsRow 0 T.dN 4 v n U.flatten)(RO:Fr w S U qs)(Qa:U.length=n)(QM:cw w S vby p)
  (hdis:∀g,v.ownBlock=some g->¬S g) (hq:∀q∈qs,rl q<=10000000000) (N:rl p<=10000000000):
  eH PG Fd.lg #[v,vby] w (λe F=>e= .returned (.tuple #[])/\w.grownBy F v.ownBlock/\∃css',F.ownsRow 0 T.dN 4 v n css'.flatten/\css'.length=n/\Fr F (Nw S w F) css' (qs.map (· *p))):=by
 have Pq:∀g,v.ownBlock=some g->g<w.heap.size:=λg V=>(ownsRow.low Pm g V).2;have Qy:∀iv g,v.ownBlock=some g->Out w.heap.size iv g:=λiv g V=>.inl (Pq g V);have Xy:∀iv g,v.ownBlock=some g->¬Cv S w.heap.size iv g:=λiv g V h=>by
  rcases h with h|⟨h,_⟩
  .exact hdis g V h
  .have:=Pq g V;omega
 have XV:n<=maxLen:=by
  rcases Pm.2 with⟨_,h0⟩|⟨_,_,_,_,_,_,Y,I,_⟩
  .omega
  .omega
 unfold maxLen at XV;have Uh:qs.length=n:=by rw[<-RO.1,Qa]
 obtain⟨a,c,rfl,Uo⟩:=eZ Pm;obtain⟨b1,a1,n1,c1,b2,a2,n2,c2,rfl⟩:=QM.shape;replace RO:=RO.arg [];replace QM:=QM.arg [];refine u9 ce ?_
 refine⟨Nat×List (List Value)×Iv×World,λz=>⟨[(0,sV a n c),(3,pP 0 0),(6,sV a n c),(7,iZ n),(8,iZ z.1)],
   [(0,.box T.dN [.v (.bool b1),.v (.slice a1 n1 c1),.v (.bool b2),.v (.slice a2 n2 c2)])],1,z.2.2.1,z.2.2.2⟩,λz=>n-z.1,
  λz=>z.1<=n/\w.grownBy z.2.2.2 (Value.slice a n c).ownBlock/\z.2.2.2.ownsRow 0 T.dN 4 (.slice a n c) n z.2.1.flatten/\z.2.1.length=n/\Fr z.2.2.2 (Cv S w.heap.size z.2.2.1) z.2.1 (upto z.1 (· *p) qs)/\
   cw z.2.2.2 (Cv S w.heap.size z.2.2.1) (.agg #[.bool b1,.slice a1 n1 c1,.bool b2,.slice a2 n2 c2]) p,?_,?_⟩
 .intro O J r
  refine⟨(0,U,[],J),⟨ce,nt r.cg,jE Pm (Qy []) r,Qa,by rw[Ki];exact RO.rel r G,QM.rel r G⟩,
   sbgn [] r⟩
 clear Pm RO QM Qa;rintro⟨i,U,iv,w1⟩ ⟨R,V,Pm,Qa,RO,QM⟩;dsimp only at R V Pm Qa RO QM ⊢;apply bS<;>intro h
 .have h:=dL h;obtain⟨cs,QX⟩:=gO U i;obtain⟨q,Ul⟩:=gO qs i;have hF:=RO.2 i cs q QX (by rw[OK];exact Ul);obtain⟨g,rfl,QS⟩:=s6 Pm RO QX;obtain⟨d1,e1,m1,k1,d2,e2,m2,k2,rfl,hF⟩:=hF;have hrlq:=hq q (aG Ul);refine⟨⟨g,0,none⟩,rfl,be,rC d1 e1 m1 k1 d2 e2 m2 k2,rfl,λO J r j x Z=>?_,?_⟩
  .have:=s6 (jE Pm (Qy iv) r) (RO.rel r G) QX;obtain⟨g',Y,I⟩:=this;injection Y with Y;rw[<-Y]at I;exact I j x Z
  refine cS (cR (GT:=λ_ J v F=>cw F (Nf J F) v (q*p)) (λO J r=>nH (rlo r G) (hF.rel r G) (QM.rel r G) hrlq N) ?_);rintro O wa v1 wb r L Pu hP;have Tn:=hP.ef (S:=S) r.cY (iv:=(wa.heap.size,wb.heap.size)::iv) aF;replace QM:=QM.cV (A:=(wa.heap.size,wb.heap.size)::iv) r G L λx Z=>aD _ Z;replace RO:=RO.cV (A:=(wa.heap.size,wb.heap.size)::iv) r G L λx Z=>aD _ Z;have Q2:wb.ownsRow 0 T.dN 4 (.slice (some ⟨g,0,none⟩) n c) n U.flatten:=ownsRow.cW (jE Pm (Qy iv) r) λb N=>L.block b (by have:=Pq b N;have:=r.cY;omega);replace V:w.grownBy wb _:=eJ V Pu;clear r L hP Pu Pm QS;generalize (wa.heap.size,wb.heap.size)::iv=iv2 at*
  obtain⟨b5,a5,n5,c5,b6,a6,n6,c6,rfl⟩:=Tn.shape;refine⟨⟨g,0,none⟩,rfl,be,?_⟩;intro O J r;have To:=jE Q2 (Qy iv2) r;have hF5:=(Tn.rel r G).four;obtain⟨g',Sa,QK,RC,QR,QG⟩:=ml (nv:=rC b5 a5 n5 c5 b6 a6 n6 c6) To rfl h rfl bv;injection Sa with Sa;injection Sa with Sa;subst Sa;have RB:=kX (cs:=rC b5 a5 n5 c5 b6 a6 n6 c6) RO.oP (show i<U.length by omega);rw[RB]at RC;have Q1:∀x,Cv S w.heap.size iv2 x->(setCells J ⟨g,i*4,none⟩ (rC b5 a5 n5 c5 b6 a6 n6 c6)).heap[x]? =J.heap[x]? :=λx Z=>
   QR.block x (rlo r G x Z) λe=>Xy iv2 g rfl (by injection e with e;rw[<-e];exact Z)
  have QQ:(⟨g,0,none⟩:Addr).add ((i:Int).toNat*4)=⟨g,i*4,none⟩:=by rw[aI,dD,aV]
  have Xz:=((RO.rel r G).cW Q1).set (j:=i) (hF5.cW Q1);rw[Kj (f:=(· *p)) Ul]at Xz;have YA:=(QM.rel r G).cW Q1;replace V:w.grownBy (setCells J ⟨g,i*4,none⟩ (rC b5 a5 n5 c5 b6 a6 n6 c6)) (some g):=eo (eJ V r.cg) QR;have Qe:=λid b N E=>Rel.not r (λ_ h=>h) (Qy iv2 g rfl) id b N E;have hwsz:=r.cY;clear r RO QM Tn Q2 To hF5 Q1 RB QR;refine⟨by rw[QQ],λk K=>by rw[QQ];exact QK k K,λid b N E=>by rw[QQ];exact Qe id b N E,λF RK=>?_⟩;have RK:F=setCells J ⟨g,i*4,none⟩ (rC b5 a5 n5 c5 b6 a6 n6 c6):=by rw[RK];exact congrArg (λx=>setCells J x _) QQ
  rw[<-RK]at Xz YA RC V QG;clear RK QK Qe;refine inc i ?_;intro I8 w3 r3
  exact⟨(i+1,U.set i (rC b5 a5 n5 c5 b6 a6 n6 c6),iv2,w3),⟨h,eJ V r3.cg,jE RC (Qy iv2) r3,by simpa using Qa,Xz.rel r3 G,YA.rel r3 G⟩,
   sbgn [] r3,by dsimp only;omega⟩
 .have h:i=n:=by
   have:¬i<n:=by simpa using h
   omega
  subst h;intro Id w5 r5;refine⟨rfl,eJ V r5.cg,U,jE Pm (Qy iv) r5,Qa,?_⟩;have:=(RO.rel r5 G).cU (S':=Nw S w w5) λg V=>Cv.nw V r5
  rwa [<-Uh,Ml]at this
def mK(i:Nat)(f:Nat->Rat->Rat)(qs:List Rat):List Rat:=qs.mapIdx λj q=>if j<i then f j q else q
def IA(f:Nat->Rat->Rat)(qs:List Rat):mK 0 f qs=qs:=by
 apply av;intro j;simp[mK]
def Kk(f:Nat->Rat->Rat)(qs:List Rat):mK qs.length f qs=qs.mapIdx f:=by
 apply av;intro j;simp only[mK,List.getElem?_mapIdx]
 cases h:qs[j]? with
 |none=>rfl
 |some q=>simp[(aH.1 h).1]
def B6(h:qs[i]? =some q):(mK i f qs).set i (f i q)=mK (i+1) f qs:=by
 apply av;intro j;have R:=(aH.1 h).1;by_cases RQ:i=j
 .subst RQ;rw[aQ (by simp[mK];exact R)];simp[mK,List.getElem?_mapIdx,h]
 .rw[aX RQ];simp only[mK,List.getElem?_mapIdx]
  have:(j<i)↔(j<i+1):=by omega
  simp[this]
def IB(h:qs[i]? =some q)(hf:f i q=q):mK i f qs=mK (i+1) f qs:=by
 rw[<-B6 h,hf];apply av;intro j;have R:=(aH.1 h).1;by_cases RQ:i=j
 .subst RQ;rw[aQ (by simp[mK];exact R)];simp[mK,List.getElem?_mapIdx,h]
 .rw[aX RQ]
def Mm(h:qs[i]? =some q):(mK i f qs)[i]? =some q:=by
 simp only[mK,List.getElem?_mapIdx,h]
 simp
def dx(w:World)(C S:Nat->Prop)(v:Value)(qs:List Rat):Prop:=∃U,fT w C 4 v U.flatten qs.length/\Fr w S U qs
section
variable{C C' S S':Nat->Prop}{H:Hp}{nx:Nat}{iv A:Iv}{B:Nat}{w J F:World}{O:Nat->Sx.eD}{v:Value}{qs:List Rat}
def dx.cW(h:dx w C S v qs)(K:∀g,C g\/S g->F.heap[g]? =w.heap[g]?):dx F C S v qs:=by
 obtain⟨U,Y,I⟩:=h;exact⟨U,Y.cW λg V=>K g (.inl V),I.cW λg V=>K g (.inr V)⟩
def dx.cU(h:dx w C S v qs)(K:∀g,C g->C' g)(TX:∀g,S g->S' g):dx w C' S' v qs:=by
 obtain⟨U,Y,I⟩:=h;exact⟨U,Y.cU K,I.cU TX⟩
def dx.rel(h:dx w (Cv C B iv) (Cv S B iv) v qs)(r:Rel H nx iv B w O J)(hC:∀g,C g->g<B)(G:∀g,S g->g<B):dx J (Cv C B iv) (Cv S B iv) v qs:=
 h.cW λ_ V=>V.elim (rls r hC) (rls r G)
def dx.cV(h:dx w (Cv C B iv) (Cv S B iv) v qs)(r:Rel H nx iv B w O J)(hC:∀g,C g->g<B)(G:∀g,S g->g<B)(L:Ext J F)(hm:∀p,p∈iv->p∈A):dx F (Cv C B A) (Cv S B A) v qs:=
 ((h.rel r hC G).cW λg V=>L.block g (V.elim (rlo r hC g) (rlo r G g))).cU (λ_ V=>V.mono hm) (λ_ V=>V.mono hm)
def dx.arg(h:dx w C S v qs)(iv:Iv):dx w (Cv C w.heap.size iv) (Cv S w.heap.size iv) v qs:=h.cU (λ_ h=>.inl h) (λ_ h=>.inl h)
end
def dx.shape(h:dx w C S v qs):∃a c,v= .slice a qs.length c/\qs.length<=c/\qs.length<=maxLen:=by
 obtain⟨U,⟨h0,_,_,a,c,Y,I,_⟩,_⟩:=h;exact⟨a,c,Y,I,h0⟩
def dx.load{a:Option Addr}{c:Nat}(h:dx w C S (.slice a n c) qs)(hq:qs[j]? =some q):
  ∃ad cs,a=some ad/\jh w S cs q/\∀k u,cs[k]? =some u->C ad.block/\w.cell? ((ad.add (j*4)).add k)=some u:=by
 obtain⟨U,⟨h0,Y,I,a',c',e,h3,h4⟩,hf⟩:=h;injection e with e1 e2 e3;subst e1;obtain⟨cs,QX⟩:∃cs,U[j]? =some cs:=⟨_,aE (by rw[hf.1];exact(aH.1 hq).1)⟩
 have hF:=hf.2 j cs q QX hq;have hl:=hF.len;obtain⟨ad,k1,k2,k3⟩:=h4 (j*4+0) _ (flat_get hf.oP QX 0 _ (aE (show 0<cs.length by omega)));refine⟨ad,cs,k1,hF,λk u hu=>?_⟩;obtain⟨ad2,m1,m2,m3⟩:=h4 (j*4+k) u (flat_get hf.oP QX k u hu);rw[k1]at m1;injection m1 with m1;subst m1;refine⟨m2,?_⟩;rw[<-m3];have:(ad.add (j*4)).add k=ad.add (j*4+k):=by
  unfold Addr.add;split<;>split<;>simp_all<;>omega
 rw[this]
def lk(p:Rat)(ps:List Rat)(j:Nat)(q:Rat):Rat:=q+p*ps.getD j 0
def Gi(ps qs:List Rat):qs.mapIdx (lk 0 ps)=qs:=by
 apply av;intro j;rw[List.getElem?_mapIdx]
 cases qs[j]? with
 |none=>rfl
 |some q=>exact congrArg some (by rw[lk,bc,cH])
def JL{vby vs:Value}{ps:List Rat}(hC:Old C w)(G:Old S w)(Pm:w.ownsRow 0 T.dN 4 v n U.flatten)(RO:Fr w S U qs)(Qa:U.length=n)(QM:cw w S vby p)
  (hs:dx w C S vs ps) (QL:ps.length=n) (hdis:∀g,v.ownBlock=some g->¬S g) (hdc:∀g,v.ownBlock=some g->¬C g) (hq:∀q∈qs,rl q<=2000000000) (hps:∀q∈ps,rl q<=2000000000) (N:rl p<=2000000000):
  eH PG Fd.lC #[v,vby,vs] w (λe F=>e= .returned (.tuple #[])/\w.grownBy F v.ownBlock/\∃css',F.ownsRow 0 T.dN 4 v n css'.flatten/\css'.length=n/\Fr F (Nw S w F) css' (qs.mapIdx (lk p ps))):=by
 have Pq:∀g,v.ownBlock=some g->g<w.heap.size:=λg V=>(ownsRow.low Pm g V).2;have Qy:∀iv g,v.ownBlock=some g->Out w.heap.size iv g:=λiv g V=>.inl (Pq g V);have Xy:∀iv g,v.ownBlock=some g->¬Cv S w.heap.size iv g:=λiv g V h=>by
  rcases h with h|⟨h,_⟩
  .exact hdis g V h
  .have:=Pq g V;omega
 have hdis3:∀iv g,v.ownBlock=some g->¬Cv C w.heap.size iv g:=λiv g V h=>by
  rcases h with h|⟨h,_⟩
  .exact hdc g V h
  .have:=Pq g V;omega
 have Uh:qs.length=n:=by rw[<-RO.1,Qa]
 obtain⟨a,c,rfl,Uo⟩:=eZ Pm;obtain⟨b1,a1,n1,c1,b2,a2,n2,c2,rfl⟩:=QM.shape;obtain⟨asl,cs0,rfl,Tz,XV⟩:=hs.shape;rw[QL]at Tz XV hs ⊢;unfold maxLen at XV;replace RO:=RO.arg [];replace QM:=QM.arg [];replace hs:=hs.arg [];refine xP ce ?_;refine cS (cR (GT:=λ_ _ v _=>v=iV (rs p)) (λO J r=>ij (rlo r G) (QM.rel r G)) ?_);rintro O wa v1 wb r L Pu rfl;replace QM:=QM.cV (A:=(wa.heap.size,wb.heap.size)::[]) r G L λx Z=>aD _ Z;replace RO:=RO.cV (A:=(wa.heap.size,wb.heap.size)::[]) r G L λx Z=>aD _ Z;replace hs:=hs.cV (A:=(wa.heap.size,wb.heap.size)::[]) r hC G L λx Z=>aD _ Z;have Q2:wb.ownsRow 0 T.dN 4 (.slice a n c) n U.flatten:=ownsRow.cW (jE Pm (Qy []) r) λb N=>L.block b (by have:=Pq b N;have:=r.cY;omega);have V:w.grownBy wb (Value.slice a n c).ownBlock:=nt Pu;clear r L Pu Pm;generalize (wa.heap.size,wb.heap.size)::[]=iv at*
 apply bS<;>intro h0
 .have h0:p=0:=by
   have:rs p=0:=eq_of_beq h0;exact Rat.num_eq_zero.1 (bj.1 this)
  intro Id w5 r5;refine⟨rfl,eJ V r5.cg,U,jE Q2 (Qy iv) r5,Qa,?_⟩;have:=(RO.rel r5 G).cU (S':=Nw S w w5) λg V=>Cv.nw V r5;rw[h0,Gi];exact this
 clear h0
 refine⟨Nat×List (List Value)×Iv×World,λz=>⟨[(0,sV a n c),(4,pP 0 0),(11,sV asl n cs0),(12,iZ n),(13,iZ z.1)],
   [(0,.box T.dN [.v (.bool b1),.v (.slice a1 n1 c1),.v (.bool b2),.v (.slice a2 n2 c2)])],1,z.2.2.1,z.2.2.2⟩,λz=>n-z.1,
  λz=>z.1<=n/\w.grownBy z.2.2.2 (Value.slice a n c).ownBlock/\z.2.2.2.ownsRow 0 T.dN 4 (.slice a n c) n z.2.1.flatten/\z.2.1.length=n/\Fr z.2.2.2 (Cv S w.heap.size z.2.2.1) z.2.1 (mK z.1 (lk p ps) qs)/\
   cw z.2.2.2 (Cv S w.heap.size z.2.2.1) (.agg #[.bool b1,.slice a1 n1 c1,.bool b2,.slice a2 n2 c2]) p/\dx z.2.2.2 (Cv C w.heap.size z.2.2.1) (Cv S w.heap.size z.2.2.1) (.slice asl n cs0) ps,?_,?_⟩
 .intro O J r
  refine⟨(0,U,iv,J),⟨ce,eJ V r.cg,jE Q2 (Qy iv) r,Qa,by rw[IA];exact RO.rel r G,QM.rel r G,hs.rel r hC G⟩,
   sbgn [] r⟩
 clear Q2 RO QM Qa hs V;rintro⟨i,U,iv,w1⟩ ⟨R,V,Pm,Qa,RO,QM,hs⟩;dsimp only at R V Pm Qa RO QM hs ⊢;apply bS<;>intro h
 .have h:=dL h;obtain⟨cs,QX⟩:=gO U i;obtain⟨q,Ul⟩:=gO qs i;obtain⟨f,XP⟩:=gO ps i;have hF:=RO.2 i cs q QX (Mm Ul);have hadd:lk p ps i q=q+p*f:=by simp[lk,List.getD,XP]
  obtain⟨d1,e1,m1,k1,d2,e2,m2,k2,rfl,hF⟩:=hF;have hrlq:=hq q (aG Ul);have hrlf:=hps f (aG XP);obtain⟨ad,fcs,QQ,Xm,Qj⟩:=hs.load XP;obtain⟨f1,g1,o1,u1,f2,g2,o2,u2,rfl,Xm⟩:=Xm;refine⟨ad,QQ,be,rC f1 g1 o1 u1 f2 g2 o2 u2,rfl,λO J r j x Z=>?_,?_⟩
  .have TC:=hs.rel r hC G;obtain⟨k2',k3⟩:=Qj j x Z;have:=rls r hC k2';rw[aI,cZ (w:=w1) (F:=J) (by rw[da,da];exact this)];exact k3
  refine cS (cR (GT:=λ_ _ v _=>v=iV (rs f)) (λO J r=>ij (rlo r G) (Xm.rel r G)) ?_);rintro O wa v1 wb r L Pu rfl;replace QM:=QM.cV (A:=(wa.heap.size,wb.heap.size)::iv) r G L λx Z=>aD _ Z;replace RO:=RO.cV (A:=(wa.heap.size,wb.heap.size)::iv) r G L λx Z=>aD _ Z;replace hs:=hs.cV (A:=(wa.heap.size,wb.heap.size)::iv) r hC G L λx Z=>aD _ Z;replace Xm:=Xm.cV (A:=(wa.heap.size,wb.heap.size)::iv) r G L λx Z=>aD _ Z;replace hF:=hF.cV (A:=(wa.heap.size,wb.heap.size)::iv) r G L λx Z=>aD _ Z;replace Pm:wb.ownsRow 0 T.dN 4 (.slice a n c) n U.flatten:=ownsRow.cW (jE Pm (Qy iv) r) λb N=>L.block b (by have:=Pq b N;have:=r.cY;omega);replace V:w.grownBy wb _:=eJ V Pu;clear r L Pu Qj;generalize (wa.heap.size,wb.heap.size)::iv=iv2 at*
  apply bS<;>intro hz
  .conv=>whnf
   refine dP (idO 12) ?_;obtain⟨g,rfl,QS⟩:=s6 Pm RO QX;refine⟨⟨g,0,none⟩,rfl,be,rC d1 e1 m1 k1 d2 e2 m2 k2,rfl,λO J r j x Z=>?_,?_⟩
   .have:=s6 (jE Pm (Qy iv2) r) (RO.rel r G) QX;obtain⟨g',Y,I⟩:=this;injection Y with Y;rw[<-Y]at I;exact I j x Z
   have Ta:=j7 p f;refine cR (GT:=λ_ J v F=>cw F (Nf J F) v (p*f)) (λO J r=>nH (rlo r G) (QM.rel r G) (Xm.rel r G) be be) ?_;rintro O wa v1 wb r L Pu hP;have Tn:=hP.ef (S:=S) r.cY (iv:=(wa.heap.size,wb.heap.size)::iv2) aF;replace QM:=QM.cV (A:=(wa.heap.size,wb.heap.size)::iv2) r G L λx Z=>aD _ Z;replace RO:=RO.cV (A:=(wa.heap.size,wb.heap.size)::iv2) r G L λx Z=>aD _ Z;replace hs:=hs.cV (A:=(wa.heap.size,wb.heap.size)::iv2) r hC G L λx Z=>aD _ Z;replace hF:=hF.cV (A:=(wa.heap.size,wb.heap.size)::iv2) r G L λx Z=>aD _ Z;replace Pm:wb.ownsRow 0 T.dN 4 (.slice (some ⟨g,0,none⟩) n c) n U.flatten:=ownsRow.cW (jE Pm (Qy iv2) r) λb N=>L.block b (by have:=Pq b N;have:=r.cY;omega);replace V:w.grownBy wb _:=eJ V Pu;clear r L Pu hP Xm QS;generalize (wa.heap.size,wb.heap.size)::iv2=Ps at*
   obtain⟨b5,a5,n5,c5,b6,a6,n6,c6,rfl⟩:=Tn.shape;refine cR (GT:=λ_ J v F=>cw F (Nf J F) v (q+p*f)) (λO J r=>wN (rlo r G) (hF.rel r G) (Tn.rel r G) be be) ?_;rintro O wc v2 wd r L Pu hQ;have hQN:=hQ.ef (S:=S) r.cY (iv:=(wc.heap.size,wd.heap.size)::Ps) aF;replace QM:=QM.cV (A:=(wc.heap.size,wd.heap.size)::Ps) r G L λx Z=>aD _ Z;replace RO:=RO.cV (A:=(wc.heap.size,wd.heap.size)::Ps) r G L λx Z=>aD _ Z;replace hs:=hs.cV (A:=(wc.heap.size,wd.heap.size)::Ps) r hC G L λx Z=>aD _ Z;replace Pm:wd.ownsRow 0 T.dN 4 (.slice (some ⟨g,0,none⟩) n c) n U.flatten:=ownsRow.cW (jE Pm (Qy Ps) r) λb N=>L.block b (by have:=Pq b N;have:=r.cY;omega);replace V:w.grownBy wd _:=eJ V Pu;clear r L Pu hQ Tn hF;generalize (wc.heap.size,wd.heap.size)::Ps=QA at*
   obtain⟨b7,a7,n7,c7,b8,a8,n8,c8,rfl⟩:=hQN.shape;rw[<-hadd]at hQN;refine⟨⟨g,0,none⟩,rfl,be,?_⟩;intro O J r;have To:=jE Pm (Qy QA) r;have hF5:=(hQN.rel r G).four;obtain⟨g',Sa,QK,RC,QR,QG⟩:=ml (nv:=rC b7 a7 n7 c7 b8 a8 n8 c8) To rfl h rfl bv;injection Sa with Sa;injection Sa with Sa;subst Sa;have RB:=kX (cs:=rC b7 a7 n7 c7 b8 a8 n8 c8) RO.oP (show i<U.length by omega);rw[RB]at RC;have Q1:∀x,Cv S w.heap.size QA x->(setCells J ⟨g,i*4,none⟩ (rC b7 a7 n7 c7 b8 a8 n8 c8)).heap[x]? =J.heap[x]? :=λx Z=>
    QR.block x (rlo r G x Z) λe=>Xy QA g rfl (by injection e with e;rw[<-e];exact Z)
   have Q4:(⟨g,0,none⟩:Addr).add ((i:Int).toNat*4)=⟨g,i*4,none⟩:=by rw[aI,dD,aV]
   have Xz:=((RO.rel r G).cW Q1).set (j:=i) (hF5.cW Q1);rw[B6 (f:=lk p ps) Ul]at Xz;have YA:=(QM.rel r G).cW Q1;have YB:∀x,Cv C w.heap.size QA x->(setCells J ⟨g,i*4,none⟩ (rC b7 a7 n7 c7 b8 a8 n8 c8)).heap[x]? =J.heap[x]? :=λx Z=>
    QR.block x (rlo r hC x Z) λe=>hdis3 QA g rfl (by injection e with e;rw[<-e];exact Z)
   have hs6:=(hs.rel r hC G).cW λx Z=>Z.elim (YB x) (Q1 x);clear YB;replace V:w.grownBy (setCells J ⟨g,i*4,none⟩ (rC b7 a7 n7 c7 b8 a8 n8 c8)) (some g):=eo (eJ V r.cg) QR;have Qe:=λid b N E=>Rel.not r (λ_ h=>h) (Qy QA g rfl) id b N E;clear r RO QM hQN Pm To hF5 Q1 RB QR hs;refine⟨by rw[Q4],λk K=>by rw[Q4];exact QK k K,λid b N E=>by rw[Q4];exact Qe id b N E,λF RK=>?_⟩;have RK:F=setCells J ⟨g,i*4,none⟩ (rC b7 a7 n7 c7 b8 a8 n8 c8):=by rw[RK];exact congrArg (λx=>setCells J x _) Q4
   rw[<-RK]at Xz YA RC V QG hs6;clear RK QK Qe;refine inc i ?_;intro I8 w3 r3
   exact⟨(i+1,U.set i (rC b7 a7 n7 c7 b8 a8 n8 c8),QA,w3),⟨h,eJ V r3.cg,jE RC (Qy QA) r3,by simpa using Qa,Xz.rel r3 G,YA.rel r3 G,hs6.rel r3 hC G⟩,
    sbgn [] r3,by dsimp only;omega⟩
  .have hf0:f=0:=by
    have:rs f=0:=by
     have Y:(rs f==0)=true:=by simpa using hz
     exact eq_of_beq Y
    exact Rat.num_eq_zero.1 (bj.1 this)
   have Pp:lk p ps i q=q:=by rw[hadd,hf0,bF,cH]
   refine inc i ?_;intro I8 w3 r3
   exact⟨(i+1,U,iv2,w3),⟨h,eJ V r3.cg,jE Pm (Qy iv2) r3,Qa,by rw[<-IB Ul Pp];exact RO.rel r3 G,QM.rel r3 G,hs.rel r3 hC G⟩,
    sbgn [] r3,by dsimp only;omega⟩
 .have h:i=n:=by
   have:¬i<n:=by simpa using h
   omega
  subst h;intro Id w5 r5;refine⟨rfl,eJ V r5.cg,U,jE Pm (Qy iv) r5,Qa,?_⟩;have:=(RO.rel r5 G).cU (S':=Nw S w w5) λg V=>Cv.nw V r5
  rwa [<-Uh,Kk]at this
end Go.Ex
