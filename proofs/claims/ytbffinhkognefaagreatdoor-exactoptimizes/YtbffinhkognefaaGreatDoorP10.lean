/- Texts X63 to X78: lemmas, each with its conditions. -/
import Derived.Test.YtbffinhkognefaaGreatDoorP9
set_option linter.defProp false
namespace Go.Ex
open Go Go.Sx Go.Proofs
variable{M:List (List Rat)}{U:List (List Value)}{xs ys:List Rat}{cs:List Value}{S:Nat->Prop}{O:Nat->Sx.eD}{a:Option Addr}{b p q:Rat}{u:Value}{w:World}
def fx(w:World)(S:Nat->Prop)(v:Value)(q:Rat):Prop:=∃b1 l1 b2 l2 a b,v= .agg #[.bool b1,l1,.bool b2,l2]/\fV w S (.agg #[.bool b1,l1]) 100000 a/\fV w S (.agg #[.bool b2,l2]) 100000 b/\ratio a b=q
def fx.cW{F:World}{v:Value}(h:fx w S v q)(K:∀g,S g->F.heap[g]? =w.heap[g]?):fx F S v q:=by
 obtain⟨b1,l1,b2,l2,a,b,Y,I,h3,h4⟩:=h;exact⟨b1,l1,b2,l2,a,b,Y,I.cW K,h3.cW K,h4⟩
def fx.cU{S':Nat->Prop}{v:Value}(h:fx w S v q)(K:∀g,S g->S' g):fx w S' v q:=by
 obtain⟨b1,l1,b2,l2,a,b,Y,I,h3,h4⟩:=h;exact⟨b1,l1,b2,l2,a,b,Y,I.cU K,h3.cU K,h4⟩
def fx.r{v:Value}(h:fx w S v q):∃a b,ke w S v a b/\ratio a b=q:=by
 obtain⟨b1,l1,b2,l2,a,b,rfl,I,h3,h4⟩:=h;exact⟨a,b,⟨b1,l1,b2,l2,rfl,I.r,h3.r⟩,h4⟩
def fx.v{v:Value}(h:fx w S v q):aAP w S v q:=by
 obtain⟨b1,l1,b2,l2,a,b,rfl,I,h3,h4⟩:=h;exact⟨a,b,⟨b1,l1,b2,l2,rfl,I.r,h3.r⟩,h4,I.ln,h3.ln⟩
def fx.shape{v:Value}(h:fx w S v q):∃b a n c b2 a2 n2 c2,v= .agg #[.bool b,.slice a n c,.bool b2,.slice a2 n2 c2]:=h.v.shape
def fx.rl{v:Value}(h:fx w S v q):rl q<=100000:=by
 obtain⟨b1,l1,b2,l2,a,b,rfl,I,h3,rfl⟩:=h;have:=Fe a b;have:=I.ln;have:=h3.ln;omega
def dH.l{v:Value}(h:dH w S v q)(hl:rl q<=100000):fx w S v q:=by
 obtain⟨b1,l1,b2,l2,Y,I,h3⟩:=h;exact⟨b1,l1,b2,l2,_,_,Y,I.l (aR (fg q) hl),h3.l (aR (fD q) hl),nK q⟩
def NB(a b:Int):rs (ratio a b)=if b.sign<0 then -a.sign else a.sign:=by
 have sb:=gK b;rw[ratio];split
 .rw[aJ be,rs,vO bv]
 .split
  .rw[show Rat.divInt a b=Rat.divInt (-a) (-b)from(Rat.neg_divInt_neg a b).symm,rs,vO be,Int.sign_neg]
  .rw[rs,vO be]
def kK{a c:Int}:(a.natAbs<1073741824)->(c.natAbs<1073741824)->(a*c).natAbs<=1152921502459363329:=λY I=>by
 rw[Int.natAbs_mul];exact Nat.mul_le_mul (show a.natAbs<=1073741823 by omega) (show c.natAbs<=1073741823 by omega)
section
variable{S S':Nat->Prop}{H:Hp}{nx:Nat}{iv A:Iv}{B:Nat}{w J F:World}{O:Nat->Sx.eD}{v:Value}{q:Rat}
def fx.rel(h:fx w (Cv S B iv) v q)(r:Rel H nx iv B w O J)(G:∀g,S g->g<B):fx J (Cv S B iv) v q:=h.cW λ_ V=>rls r G V
def fx.cV(h:fx w (Cv S B iv) v q)(r:Rel H nx iv B w O J)(G:∀g,S g->g<B)(L:Ext J F)(hm:∀p,p∈iv->p∈A):fx F (Cv S B A) v q:=
 ((h.rel r G).cW λg V=>L.block g (rlo r G g V)).cU λ_ V=>V.mono hm
end
def Bg{v:Value}{a b:Int}(G:Old S w)(hp:ke w S v a b):
  eH PG Fd.mV #[v] w (eV w λv' _=>v'=iV (rs (ratio a b))):=by
 have W:=bR w;obtain⟨b1,l1,b2,l2,rfl,ha,SR⟩:=hp;obtain⟨_,a1,n1,c1,e1⟩:=ha.shape;obtain⟨_,a2,n2,c2,e2⟩:=SR.shape;simp only[Value.agg.injEq,Array.mk.injEq,List.cons.injEq,and_true]at e1 e2;obtain⟨_,rfl⟩:=e1;obtain⟨_,rfl⟩:=e2;replace ha:=ha.cU (S':=Cv S w.heap.size []) λ_ h=>.inl h;replace SR:=SR.cU (S':=Cv S w.heap.size []) λ_ h=>.inl h;have hr:=NB a b;have sa:=gK a;refine yc ce ?_;refine cS (cE W (pE (iV b.sign)) (λO J r=>iB (rlo r G) (SR.rel r G)) ?_);rintro O _ _ _ Pt r L W h_ rfl;replace ha:=ha.cV r G L (mC h_);apply bS<;>intro h
 .have h:=aK h;rw[aM h]at hr;refine cS (cE W (pE (iV a.sign)) (λO J r=>iB (rlo r G) (ha.rel r G)) ?_);rintro O Qk v2 QP iv2 r L W h_ rfl;refine⟨-a.sign,wo,?_⟩;exact rtn W λGE we re=>by rw[hr];rfl
 have h:=aL h;rw[aJ h]at hr;refine cS (cE W (pE (iV a.sign)) (λO J r=>iB (rlo r G) (ha.rel r G)) ?_);rintro O _ _ _ iv2 r L W h_ rfl;exact rtn W λGE we re=>by rw[hr];rfl
def tG{v:Value}(G:Old S w)(hp:dH w S v p):eH PG Fd.mV #[v] w (eV w λv' _=>v'=iV (rs p)):=by
 have:=Bg G hp.r;rw[nK]at this;exact this
def jv{v:Value}(G:Old S w)(hp:fx w S v p):eH PG Fd.mV #[v] w (eV w λv' _=>v'=iV (rs p)):=by
 obtain⟨a,b,Y,rfl⟩:=hp.r;exact Bg G Y
def gI{v:Value}(G:Old S w)(hp:fx w S v p):
  eH PG Fd.vj #[v] w (eV w λv' F=>dH F (Nf w F) v' p):=by
 have W:=bR w;obtain⟨b1,l1,b2,l2,a,b,rfl,ha,SR,rfl⟩:=hp;obtain⟨_,a1,n1,c1,e1⟩:=ha.shape;obtain⟨_,a2,n2,c2,e2⟩:=SR.shape;simp only[Value.agg.injEq,Array.mk.injEq,List.cons.injEq,and_true]at e1 e2;obtain⟨_,rfl⟩:=e1;obtain⟨_,rfl⟩:=e2;replace ha:=ha.cU (S':=Cv S w.heap.size []) λ_ h=>.inl h;replace SR:=SR.cU (S':=Cv S w.heap.size []) λ_ h=>.inl h;have sb:=gK b;refine yd ce ?_;refine cS (cR (GT:=λ_ J v F=>v=iV b.sign) (λO J r=>iB (rlo r G) (SR.rel r G).r) ?_);rintro O QJ v1 QH r L N rfl;replace W:=W.tr N;replace ha:=ha.cV (A:=(QJ.heap.size,QH.heap.size)::[]) r G L λx Z=>aD _ Z;replace SR:=SR.cV (A:=(QJ.heap.size,QH.heap.size)::[]) r G L λx Z=>aD _ Z;generalize (QJ.heap.size,QH.heap.size)::[]=Pt at*
 apply bS<;>intro h
 .have h:b.sign=0:=by simpa using h
  obtain rfl:b=0:=by omega
  rw[show ratio a 0=Rat.divInt a 1 from aM rfl];refine dP (idO 5) ?_;refine cR (GT:=λ_ J v F=>dV F (Nf J F) v (1)) (λO J r=>mL _ J bv bv) ?_;rintro O Qk v2 QP r L N E;replace W:=W.tr N;replace ha:=ha.cV (A:=(Qk.heap.size,QP.heap.size)::Pt) r G L λx Z=>aD _ Z;replace SR:=SR.cV (A:=(Qk.heap.size,QP.heap.size)::Pt) r G L λx Z=>aD _ Z;have Y:=E.ef (S:=FF) r.cY (iv:=(Qk.heap.size,QP.heap.size)::Pt) aF;generalize (Qk.heap.size,QP.heap.size)::Pt=iv2 at*
  obtain⟨A0,A1,A2,A3,rfl⟩:=Y.shape;refine cR (GT:=λ_ J v F=>dH F (Nf J F) v (Rat.divInt a 1)) (λO J r=>mX (rlo r G) (ha.rel r G) (((Y.rel r oF).l (k:=1) bv).cU λg V=>Cv.false V) be be bv) ?_;rintro O Qh v3 Q7 r L N E;replace W:=W.tr N;replace ha:=ha.cV (A:=(Qh.heap.size,Q7.heap.size)::iv2) r G L λx Z=>aD _ Z;replace SR:=SR.cV (A:=(Qh.heap.size,Q7.heap.size)::iv2) r G L λx Z=>aD _ Z;replace Y:=Y.cV (A:=(Qh.heap.size,Q7.heap.size)::iv2) r oF L λx Z=>aD _ Z;have hR:=E.ef (S:=FF) r.cY (iv:=(Qh.heap.size,Q7.heap.size)::iv2) aF;generalize (Qh.heap.size,Q7.heap.size)::iv2=Ps at*
  obtain⟨C0,C1,C2,C3,C4,C5,C6,C7,rfl⟩:=hR.shape;exact rtn W λGE we re=>hR.out re oF
 have h:b.sign≠0:=by simpa using h
 have Ti:b≠0:=by omega
 rw[show ratio a b=Rat.divInt a b from aJ Ti];refine cS (cR (GT:=λ_ J v F=>dH F (Nf J F) v (Rat.divInt a b)) (λO J r=>mX (rlo r G) (ha.rel r G) (SR.rel r G) be be Ti) ?_);rintro O Qk v2 QP r L N E;replace W:=W.tr N;replace ha:=ha.cV (A:=(Qk.heap.size,QP.heap.size)::Pt) r G L λx Z=>aD _ Z;replace SR:=SR.cV (A:=(Qk.heap.size,QP.heap.size)::Pt) r G L λx Z=>aD _ Z;have hR:=E.ef (S:=FF) r.cY (iv:=(Qk.heap.size,QP.heap.size)::Pt) aF;generalize (Qk.heap.size,QP.heap.size)::Pt=iv2 at*
 obtain⟨A0,A1,A2,A3,A4,A5,A6,A7,rfl⟩:=hR.shape;exact rtn W λGE we re=>hR.out re oF
def zS{v:Value}(G:Old S w)(hp:fx w S v p):
  eH PG Fd.yJ #[v] w (eV w λv' _=>∃n d ok,v'= .tuple #[iV n,iV d,.bool ok]/\(ok=true->d≠0/\n.natAbs<1073741824/\d.natAbs<1073741824/\Rat.divInt n d=p)):=by
 have W:=bR w;obtain⟨b1,l1,b2,l2,a,b,rfl,ha,SR,rfl⟩:=hp;obtain⟨_,a1,n1,c1,e1⟩:=ha.shape;obtain⟨_,a2,n2,c2,e2⟩:=SR.shape;simp only[Value.agg.injEq,Array.mk.injEq,List.cons.injEq,and_true]at e1 e2;obtain⟨_,rfl⟩:=e1;obtain⟨_,rfl⟩:=e2;replace ha:=ha.cU (S':=Cv S w.heap.size []) λ_ h=>.inl h;replace SR:=SR.cU (S':=Cv S w.heap.size []) λ_ h=>.inl h;refine BA ce ?_
 refine cS (cR (GT:=λ_ J v F=>∃n p,v= .tuple #[iV n,.bool p]/\(p=true->n=a/\a.natAbs<1073741824)) (λO J r=>(pH (rlo r G) (ha.rel r G).r).mono λe F ⟨v2,e1,e2,e3⟩=>⟨v2,e1,e2,by
   rw[e3,kc];split
   .exact⟨_,_,rfl,λ_=>⟨rfl,‹_›⟩⟩
   .exact⟨_,_,rfl,λh=>by cases h⟩⟩) ?_)
 rintro O QJ v1 QH r L N ⟨na,pa,rfl,qa⟩;replace W:=W.tr N;replace ha:=ha.cV (A:=(QJ.heap.size,QH.heap.size)::[]) r G L λx Z=>aD _ Z;replace SR:=SR.cV (A:=(QJ.heap.size,QH.heap.size)::[]) r G L λx Z=>aD _ Z;generalize (QJ.heap.size,QH.heap.size)::[]=Pt at*
 refine cS (cR (GT:=λ_ J v F=>∃n p,v= .tuple #[iV n,.bool p]/\(p=true->n=b/\b.natAbs<1073741824)) (λO J r=>(pH (rlo r G) (SR.rel r G).r).mono λe F ⟨v2,e1,e2,e3⟩=>⟨v2,e1,e2,by
   rw[e3,kc];split
   .exact⟨_,_,rfl,λ_=>⟨rfl,‹_›⟩⟩
   .exact⟨_,_,rfl,λh=>by cases h⟩⟩) ?_)
 rintro O Qk v2 QP r L N ⟨nb,pb,rfl,qb⟩;replace W:=W.tr N;replace ha:=ha.cV (A:=(Qk.heap.size,QP.heap.size)::Pt) r G L λx Z=>aD _ Z;replace SR:=SR.cV (A:=(Qk.heap.size,QP.heap.size)::Pt) r G L λx Z=>aD _ Z;generalize (Qk.heap.size,QP.heap.size)::Pt=iv2 at*
 apply bS<;>intro h
 .have h:nb=0:=by simpa using h
  apply bS<;>intro Y
  .intro GE we re
   exact⟨_,rfl,W.tr re.cg,⟨na,1,pb,rfl,λI=>by
     obtain⟨rfl,Z⟩:=qa Y;obtain⟨rfl,hy⟩:=qb I;rw[h]
     exact⟨bv,Z,bv,(aM rfl).symm⟩⟩⟩
  exact rtn W λGE we re=>⟨na,1,false,rfl,λI=>by cases I⟩
 have h:nb≠0:=by simpa using h
 apply bS<;>intro Y
 .intro GE we re
  exact⟨_,rfl,W.tr re.cg,⟨na,nb,pb,rfl,λI=>by
    obtain⟨rfl,Z⟩:=qa Y;obtain⟨rfl,hy⟩:=qb I
    exact⟨h,Z,hy,(aJ h).symm⟩⟩⟩
 exact rtn W λGE we re=>⟨na,nb,false,rfl,λI=>by cases I⟩
def Ee{v:Value}(G:Old S w)(hp:fx w S v p)(hq:fx w S u q):
  eH PG Fd.DH #[v,u] w (eV w λv' F=>dH F (Nf w F) v' (p+q)):=by
 have W:=bR w;replace hp:=hp.cU (S':=Cv S w.heap.size []) λ_ h=>.inl h;replace hq:=hq.cU (S':=Cv S w.heap.size []) λ_ h=>.inl h;obtain⟨b1,a1,n1,c1,b2,a2,n2,c2,rfl⟩:=hp.shape;obtain⟨b3,a3,n3,c3,b4,a4,n4,c4,rfl⟩:=hq.shape;refine EE ce ?_;have r1:=hp.rl;have r2:=hq.rl;have u1:=fg p;have u2:=fD p;have u3:=fg q;have u4:=fD q;refine cS (cE W (λ_ J v F=>∃n d ok,v= .tuple #[iV n,iV d,.bool ok]/\(ok=true->d≠0/\n.natAbs<1073741824/\d.natAbs<1073741824/\Rat.divInt n d=p)) (λO J r=>zS (rlo r G) (hp.rel r G)) ?_);rintro O _ _ _ Pt r L W h_ ⟨a,b,k1,rfl,g1⟩;replace hp:=hp.cV r G L (mC h_);replace hq:=hq.cV r G L (mC h_);refine cS (cE W (λ_ J v F=>∃n d ok,v= .tuple #[iV n,iV d,.bool ok]/\(ok=true->d≠0/\n.natAbs<1073741824/\d.natAbs<1073741824/\Rat.divInt n d=q)) (λO J r=>zS (rlo r G) (hq.rel r G)) ?_);rintro O _ _ _ iv2 r L W h_ ⟨c,d,k2,rfl,g2⟩;replace hp:=hp.cV r G L (mC h_);replace hq:=hq.cV r G L (mC h_);apply bS<;>intro Y
 .apply bS<;>intro I
  .obtain⟨g3,g4,g5,g6⟩:=g1 Y;obtain⟨g7,g8,g9,g10⟩:=g2 I;have i1:=kK g4 g9;have i2:=kK g8 g5;have i3:=kK g5 g9;have i4:=kK g4 g8;refine⟨a*d,wo,c*b,wo,a*d+c*b,wo,b*d,wo,?_⟩;have e:=Rat.divInt_add_divInt a c g3 g7;rw[g6,g10]at e;refine cS (cE W (pR dH (p+q)) (λO J r=>e▸tK (a*d+c*b) (b*d) J be be (ko g3 g7)) ?_);rintro O Qh v3 Q7 Ps r L W h_ E;have hR:=E.cU (nw r h_);obtain⟨A0,A1,A2,A3,A4,A5,A6,A7,rfl⟩:=hR.shape;exact rtn W λGE we re=>hR.out re oF
  refine dP [.x 0,.x 2,.x 1,.x 3,.x 4,.x 5] ?_;refine cE W (pR dH (p)) (λO J r=>gI (rlo r G) (hp.rel r G)) ?_;rintro O Qh v3 Q7 Ps r L W h_ E;replace hq:=hq.cV r G L (mC h_);have hX:=E.cU (nw r h_);obtain⟨A0,A1,A2,A3,A4,A5,A6,A7,rfl⟩:=hX.shape;refine cE W (pR dH (q)) (λO J r=>gI (rlo r G) (hq.rel r G)) ?_;rintro O Rg v4 RT QA r L W h_ E;replace hX:=hX.cV r oF L (mC h_);have hY:=E.cU (nw r h_);obtain⟨C0,C1,C2,C3,C4,C5,C6,C7,rfl⟩:=hY.shape;have SG:=hX.num;have R9:=hX.den;have SH:=hY.num;have SI:=hY.den;have m0:=dO p.num q.den;have m1:=dO q.num p.den;have m2:=dO (p.den:Int) q.den;have m3:=jN (p.num*q.den) (q.num*p.den);have m4:=dO p.num q.num;refine dP [.x 0,.x 1,.x 2,.x 3,.x 5,.x 6,.x 7,.x 8,.x 11,.x 12,.x 13,.x 14,.x 4,.x 9,.x 10,.x 15,.x 16,.x 17] ?_;refine cE W (pR dV (p.num*(q.den:Int))) (λO J r=>im (rlo r oF) ((SG.rel r oF).l (k:=100000) be) ((SI.rel r oF).l (k:=100000) be) be be) ?_;rintro O VZ v5 Ut QE r L W h_ E;replace SG:=SG.cV r oF L (mC h_);replace R9:=R9.cV r oF L (mC h_);replace SH:=SH.cV r oF L (mC h_);replace SI:=SI.cV r oF L (mC h_);have hA:=E.cU (nw r h_);obtain⟨E0,E1,E2,E3,rfl⟩:=hA.shape;refine cE W (pR dV (q.num*(p.den:Int))) (λO J r=>im (rlo r oF) ((SH.rel r oF).l (k:=100000) be) ((R9.rel r oF).l (k:=100000) be) be be) ?_;rintro O Uu v6 Uv Q8 r L W h_ E;replace SG:=SG.cV r oF L (mC h_);replace R9:=R9.cV r oF L (mC h_);replace SH:=SH.cV r oF L (mC h_);replace SI:=SI.cV r oF L (mC h_);replace hA:=hA.cV r oF L (mC h_);have hB:=E.cU (nw r h_);obtain⟨F0,F1,F2,F3,rfl⟩:=hB.shape;refine cE W (pR dV (p.num*(q.den:Int)+q.num*(p.den:Int))) (λO J r=>Be (rlo r oF) ((hA.rel r oF).l (k:=200000) be) ((hB.rel r oF).l (k:=200000) be) be be) ?_;rintro O Wd v7 We RJ r L W h_ E;replace SG:=SG.cV r oF L (mC h_);replace R9:=R9.cV r oF L (mC h_);replace SH:=SH.cV r oF L (mC h_);replace SI:=SI.cV r oF L (mC h_);have hN:=E.cU (nw r h_);obtain⟨G0,G1,G2,G3,rfl⟩:=hN.shape;refine cE W (pR dV ((p.den:Int)*(q.den:Int))) (λO J r=>im (rlo r oF) ((R9.rel r oF).l (k:=100000) be) ((SI.rel r oF).l (k:=100000) be) be be) ?_;rintro O wa8 v8 wb8 Sl r L W h_ E;replace SG:=SG.cV r oF L (mC h_);replace R9:=R9.cV r oF L (mC h_);replace SH:=SH.cV r oF L (mC h_);replace SI:=SI.cV r oF L (mC h_);replace hN:=hN.cV r oF L (mC h_);have hD:=E.cU (nw r h_);obtain⟨I0,I1,I2,I3,rfl⟩:=hD.shape;refine cE W (pR dH (p+q)) (λO J r=>(vN p q)▸mX (rlo r oF) ((hN.rel r oF).l (k:=200001) be) ((hD.rel r oF).l (k:=200001) be) be be (ko (gQ p) (gQ q))) ?_;rintro O Tk v9 Tl Ui r L W h_ E;have hR:=E.cU (nw r h_);obtain⟨J0,J1,J2,J3,J4,J5,J6,J7,rfl⟩:=hR.shape;exact rtn W λGE we re=>hR.out re oF
 refine dP [.x 0,.x 2,.x 1,.x 3,.x 4,.x 5] ?_;refine cE W (pR dH (p)) (λO J r=>gI (rlo r G) (hp.rel r G)) ?_;rintro O _ _ _ Ps r L W h_ E;replace hq:=hq.cV r G L (mC h_);have hX:=E.cU (nw r h_);obtain⟨A0,A1,A2,A3,A4,A5,A6,A7,rfl⟩:=hX.shape;refine cE W (pR dH (q)) (λO J r=>gI (rlo r G) (hq.rel r G)) ?_;rintro O _ _ _ QA r L W h_ E;replace hX:=hX.cV r oF L (mC h_);have hY:=E.cU (nw r h_);obtain⟨C0,C1,C2,C3,C4,C5,C6,C7,rfl⟩:=hY.shape;have SG:=hX.num;have R9:=hX.den;have SH:=hY.num;have SI:=hY.den;have m0:=dO p.num q.den;have m1:=dO q.num p.den;have m2:=dO (p.den:Int) q.den;have m3:=jN (p.num*q.den) (q.num*p.den);have m4:=dO p.num q.num;refine dP [.x 0,.x 1,.x 2,.x 3,.x 5,.x 6,.x 7,.x 8,.x 11,.x 12,.x 13,.x 14,.x 4,.x 9,.x 10,.x 15,.x 16,.x 17] ?_;refine cE W (pR dV (p.num*(q.den:Int))) (λO J r=>im (rlo r oF) ((SG.rel r oF).l (k:=100000) be) ((SI.rel r oF).l (k:=100000) be) be be) ?_;rintro O _ _ _ QE r L W h_ E;replace SG:=SG.cV r oF L (mC h_);replace R9:=R9.cV r oF L (mC h_);replace SH:=SH.cV r oF L (mC h_);replace SI:=SI.cV r oF L (mC h_);have hA:=E.cU (nw r h_);obtain⟨E0,E1,E2,E3,rfl⟩:=hA.shape;refine cE W (pR dV (q.num*(p.den:Int))) (λO J r=>im (rlo r oF) ((SH.rel r oF).l (k:=100000) be) ((R9.rel r oF).l (k:=100000) be) be be) ?_;rintro O _ _ _ Q8 r L W h_ E;replace SG:=SG.cV r oF L (mC h_);replace R9:=R9.cV r oF L (mC h_);replace SH:=SH.cV r oF L (mC h_);replace SI:=SI.cV r oF L (mC h_);replace hA:=hA.cV r oF L (mC h_);have hB:=E.cU (nw r h_);obtain⟨F0,F1,F2,F3,rfl⟩:=hB.shape;refine cE W (pR dV (p.num*(q.den:Int)+q.num*(p.den:Int))) (λO J r=>Be (rlo r oF) ((hA.rel r oF).l (k:=200000) be) ((hB.rel r oF).l (k:=200000) be) be be) ?_;rintro O _ _ _ RJ r L W h_ E;replace SG:=SG.cV r oF L (mC h_);replace R9:=R9.cV r oF L (mC h_);replace SH:=SH.cV r oF L (mC h_);replace SI:=SI.cV r oF L (mC h_);have hN:=E.cU (nw r h_);obtain⟨G0,G1,G2,G3,rfl⟩:=hN.shape;refine cE W (pR dV ((p.den:Int)*(q.den:Int))) (λO J r=>im (rlo r oF) ((R9.rel r oF).l (k:=100000) be) ((SI.rel r oF).l (k:=100000) be) be be) ?_;rintro O _ _ _ Sl r L W h_ E;replace SG:=SG.cV r oF L (mC h_);replace R9:=R9.cV r oF L (mC h_);replace SH:=SH.cV r oF L (mC h_);replace SI:=SI.cV r oF L (mC h_);replace hN:=hN.cV r oF L (mC h_);have hD:=E.cU (nw r h_);obtain⟨I0,I1,I2,I3,rfl⟩:=hD.shape;refine cE W (pR dH (p+q)) (λO J r=>(vN p q)▸mX (rlo r oF) ((hN.rel r oF).l (k:=200001) be) ((hD.rel r oF).l (k:=200001) be) be be (ko (gQ p) (gQ q))) ?_;rintro O _ _ _ Ui r L W h_ E;have hR:=E.cU (nw r h_);obtain⟨J0,J1,J2,J3,J4,J5,J6,J7,rfl⟩:=hR.shape;exact rtn W λGE we re=>hR.out re oF
def Ef{v:Value}(G:Old S w)(hp:fx w S v p)(hq:fx w S u q):
  eH PG Fd.DI #[v,u] w (eV w λv' F=>dH F (Nf w F) v' (p*q)):=by
 have W:=bR w;replace hp:=hp.cU (S':=Cv S w.heap.size []) λ_ h=>.inl h;replace hq:=hq.cU (S':=Cv S w.heap.size []) λ_ h=>.inl h;obtain⟨b1,a1,n1,c1,b2,a2,n2,c2,rfl⟩:=hp.shape;obtain⟨b3,a3,n3,c3,b4,a4,n4,c4,rfl⟩:=hq.shape;refine EF ce ?_;have r1:=hp.rl;have r2:=hq.rl;have u1:=fg p;have u2:=fD p;have u3:=fg q;have u4:=fD q;refine cS (cE W (λ_ J v F=>∃n d ok,v= .tuple #[iV n,iV d,.bool ok]/\(ok=true->d≠0/\n.natAbs<1073741824/\d.natAbs<1073741824/\Rat.divInt n d=p)) (λO J r=>zS (rlo r G) (hp.rel r G)) ?_);rintro O _ _ _ Pt r L W h_ ⟨a,b,k1,rfl,g1⟩;replace hp:=hp.cV r G L (mC h_);replace hq:=hq.cV r G L (mC h_);refine cS (cE W (λ_ J v F=>∃n d ok,v= .tuple #[iV n,iV d,.bool ok]/\(ok=true->d≠0/\n.natAbs<1073741824/\d.natAbs<1073741824/\Rat.divInt n d=q)) (λO J r=>zS (rlo r G) (hq.rel r G)) ?_);rintro O _ _ _ iv2 r L W h_ ⟨c,d,k2,rfl,g2⟩;replace hp:=hp.cV r G L (mC h_);replace hq:=hq.cV r G L (mC h_);apply bS<;>intro Y
 .apply bS<;>intro I
  .obtain⟨g3,g4,g5,g6⟩:=g1 Y;obtain⟨g7,g8,g9,g10⟩:=g2 I;have i1:=kK g4 g9;have i2:=kK g8 g5;have i3:=kK g5 g9;have i4:=kK g4 g8;refine⟨a*c,wo,b*d,wo,?_⟩;have e:=Rat.divInt_mul_divInt a c (d₁:=b) (d₂:=d);rw[g6,g10]at e;refine cS (cE W (pR dH (p*q)) (λO J r=>e▸tK (a*c) (b*d) J be be (ko g3 g7)) ?_);rintro O Qh v3 Q7 Ps r L W h_ E;have hR:=E.cU (nw r h_);obtain⟨A0,A1,A2,A3,A4,A5,A6,A7,rfl⟩:=hR.shape;exact rtn W λGE we re=>hR.out re oF
  refine dP [.x 0,.x 2,.x 1,.x 3,.x 4,.x 5] ?_;refine cE W (pR dH (p)) (λO J r=>gI (rlo r G) (hp.rel r G)) ?_;rintro O Qh v3 Q7 Ps r L W h_ E;replace hq:=hq.cV r G L (mC h_);have hX:=E.cU (nw r h_);obtain⟨A0,A1,A2,A3,A4,A5,A6,A7,rfl⟩:=hX.shape;refine cE W (pR dH (q)) (λO J r=>gI (rlo r G) (hq.rel r G)) ?_;rintro O Rg v4 RT QA r L W h_ E;replace hX:=hX.cV r oF L (mC h_);have hY:=E.cU (nw r h_);obtain⟨C0,C1,C2,C3,C4,C5,C6,C7,rfl⟩:=hY.shape;have SG:=hX.num;have R9:=hX.den;have SH:=hY.num;have SI:=hY.den;have m0:=dO p.num q.den;have m1:=dO q.num p.den;have m2:=dO (p.den:Int) q.den;have m3:=jN (p.num*q.den) (q.num*p.den);have m4:=dO p.num q.num;refine dP [.x 0,.x 1,.x 2,.x 3,.x 5,.x 6,.x 7,.x 8,.x 4,.x 9,.x 10,.x 11] ?_;refine cE W (pR dV (p.num*q.num)) (λO J r=>im (rlo r oF) ((SG.rel r oF).l (k:=100000) be) ((SH.rel r oF).l (k:=100000) be) be be) ?_;rintro O VZ v5 Ut QE r L W h_ E;replace SG:=SG.cV r oF L (mC h_);replace R9:=R9.cV r oF L (mC h_);replace SH:=SH.cV r oF L (mC h_);replace SI:=SI.cV r oF L (mC h_);have hN:=E.cU (nw r h_);obtain⟨E0,E1,E2,E3,rfl⟩:=hN.shape;refine cE W (pR dV ((p.den:Int)*(q.den:Int))) (λO J r=>im (rlo r oF) ((R9.rel r oF).l (k:=100000) be) ((SI.rel r oF).l (k:=100000) be) be be) ?_;rintro O Uu v6 Uv Q8 r L W h_ E;replace SG:=SG.cV r oF L (mC h_);replace R9:=R9.cV r oF L (mC h_);replace SH:=SH.cV r oF L (mC h_);replace SI:=SI.cV r oF L (mC h_);replace hN:=hN.cV r oF L (mC h_);have hD:=E.cU (nw r h_);obtain⟨F0,F1,F2,F3,rfl⟩:=hD.shape;refine cE W (pR dH (p*q)) (λO J r=>(zF p q)▸mX (rlo r oF) ((hN.rel r oF).l (k:=200001) be) ((hD.rel r oF).l (k:=200001) be) be be (ko (gQ p) (gQ q))) ?_;rintro O Wd v7 We RJ r L W h_ E;have hR:=E.cU (nw r h_);obtain⟨G0,G1,G2,G3,G4,G5,G6,G7,rfl⟩:=hR.shape;exact rtn W λGE we re=>hR.out re oF
 refine dP [.x 0,.x 2,.x 1,.x 3,.x 4,.x 5] ?_;refine cE W (pR dH (p)) (λO J r=>gI (rlo r G) (hp.rel r G)) ?_;rintro O _ _ _ Ps r L W h_ E;replace hq:=hq.cV r G L (mC h_);have hX:=E.cU (nw r h_);obtain⟨A0,A1,A2,A3,A4,A5,A6,A7,rfl⟩:=hX.shape;refine cE W (pR dH (q)) (λO J r=>gI (rlo r G) (hq.rel r G)) ?_;rintro O _ _ _ QA r L W h_ E;replace hX:=hX.cV r oF L (mC h_);have hY:=E.cU (nw r h_);obtain⟨C0,C1,C2,C3,C4,C5,C6,C7,rfl⟩:=hY.shape;have SG:=hX.num;have R9:=hX.den;have SH:=hY.num;have SI:=hY.den;have m0:=dO p.num q.den;have m1:=dO q.num p.den;have m2:=dO (p.den:Int) q.den;have m3:=jN (p.num*q.den) (q.num*p.den);have m4:=dO p.num q.num;refine dP [.x 0,.x 1,.x 2,.x 3,.x 5,.x 6,.x 7,.x 8,.x 4,.x 9,.x 10,.x 11] ?_;refine cE W (pR dV (p.num*q.num)) (λO J r=>im (rlo r oF) ((SG.rel r oF).l (k:=100000) be) ((SH.rel r oF).l (k:=100000) be) be be) ?_;rintro O _ _ _ QE r L W h_ E;replace SG:=SG.cV r oF L (mC h_);replace R9:=R9.cV r oF L (mC h_);replace SH:=SH.cV r oF L (mC h_);replace SI:=SI.cV r oF L (mC h_);have hN:=E.cU (nw r h_);obtain⟨E0,E1,E2,E3,rfl⟩:=hN.shape;refine cE W (pR dV ((p.den:Int)*(q.den:Int))) (λO J r=>im (rlo r oF) ((R9.rel r oF).l (k:=100000) be) ((SI.rel r oF).l (k:=100000) be) be be) ?_;rintro O _ _ _ Q8 r L W h_ E;replace SG:=SG.cV r oF L (mC h_);replace R9:=R9.cV r oF L (mC h_);replace SH:=SH.cV r oF L (mC h_);replace SI:=SI.cV r oF L (mC h_);replace hN:=hN.cV r oF L (mC h_);have hD:=E.cU (nw r h_);obtain⟨F0,F1,F2,F3,rfl⟩:=hD.shape;refine cE W (pR dH (p*q)) (λO J r=>(zF p q)▸mX (rlo r oF) ((hN.rel r oF).l (k:=200001) be) ((hD.rel r oF).l (k:=200001) be) be be (ko (gQ p) (gQ q))) ?_;rintro O _ _ _ RJ r L W h_ E;have hR:=E.cU (nw r h_);obtain⟨G0,G1,G2,G3,G4,G5,G6,G7,rfl⟩:=hR.shape;exact rtn W λGE we re=>hR.out re oF
def NC{v:Value}(G:Old S w)(hp:fx w S v p):
  eH PG Fd.DE #[v] w (eV w λv' F=>dH F (Nf w F) v' (-p)):=by
 have W:=bR w;replace hp:=hp.cU (S':=Cv S w.heap.size []) λ_ h=>.inl h;obtain⟨b1,a1,n1,c1,b2,a2,n2,c2,rfl⟩:=hp.shape;refine EB ce ?_;have r1:=hp.rl;have u1:=fg p;have u2:=fD p;refine cS (cE W (pR dH (p)) (λO J r=>gI (rlo r G) (hp.rel r G)) ?_);rintro O _ _ _ Pt r L W h_ E;have hX:=E.cU (nw r h_);obtain⟨A0,A1,A2,A3,A4,A5,A6,A7,rfl⟩:=hX.shape;have SG:=hX.num;have R9:=hX.den;refine dP [.x 0,.x 1,.x 3,.x 4,.x 2,.x 5,.x 6] ?_;refine cE W (pR dV (-p.num)) (λO J r=>nM (rlo r oF) ((SG.rel r oF).l (k:=100000) be) be) ?_;rintro O _ _ _ iv2 r L W h_ E;replace R9:=R9.cV r oF L (mC h_);have hN:=E.cU (nw r h_);obtain⟨C0,C1,C2,C3,rfl⟩:=hN.shape;refine cE W (pR dH (-p)) (λO J r=>show eH _ _ _ _ (eV _ λv F=>dH F _ v (-p))from(show Rat.divInt (-p.num) p.den= -p by rw[<-Rat.neg_divInt,Rat.num_divInt_den])▸mX (rlo r oF) ((hN.rel r oF).l (k:=100000) (by rw[cP];omega)) ((R9.rel r oF).l (k:=100000) be) be be (gQ p)) ?_;rintro O _ _ _ Ps r L W h_ E;have hR:=E.cU (nw r h_);obtain⟨E0,E1,E2,E3,E4,E5,E6,E7,rfl⟩:=hR.shape;exact rtn W λGE we re=>hR.out re oF
def aAR{v:Value}(G:Old S w)(hp:fx w S v p)(hq:fx w S u q):
  eH PG Fd.DG #[v,u] w (eV w λv' F=>dH F (Nf w F) v' (p-q)):=by
 have W:=bR w;replace hp:=hp.cU (S':=Cv S w.heap.size []) λ_ h=>.inl h;replace hq:=hq.cU (S':=Cv S w.heap.size []) λ_ h=>.inl h;obtain⟨b1,a1,n1,c1,b2,a2,n2,c2,rfl⟩:=hp.shape;obtain⟨b3,a3,n3,c3,b4,a4,n4,c4,rfl⟩:=hq.shape;refine ED ce ?_;have r1:=hp.rl;have r2:=hq.rl;have u1:=kT q;refine dP (idO 5) ?_;refine cE W (pR dH (-q)) (λO J r=>NC (rlo r G) (hq.rel r G)) ?_;rintro O _ _ _ Pt r L W h_ E;replace hp:=hp.cV r G L (mC h_);have hN:=E.cU (nw r h_);obtain⟨A0,A1,A2,A3,A4,A5,A6,A7,rfl⟩:=hN.shape;refine cE W (pR dH (p-q)) (λO J r=>(Rat.sub_eq_add_neg p q)▸Ee (rlo r G) (hp.rel r G) (((hN.rel r oF).l be).cU λg V=>Cv.false V)) ?_;rintro O _ _ _ iv2 r L W h_ E;have hR:=E.cU (nw r h_);obtain⟨C0,C1,C2,C3,C4,C5,C6,C7,rfl⟩:=hR.shape;exact rtn W λGE we re=>hR.out re oF
def BZ{v:Value}(G:Old S w)(hp:fx w S v p)(hq:fx w S u q):
  eH PG Fd.DD #[v,u] w (eV w λv' _=>v'=iV (rs (p-q))):=by
 have W:=bR w;replace hp:=hp.cU (S':=Cv S w.heap.size []) λ_ h=>.inl h;replace hq:=hq.cU (S':=Cv S w.heap.size []) λ_ h=>.inl h;obtain⟨b1,a1,n1,c1,b2,a2,n2,c2,rfl⟩:=hp.shape;obtain⟨b3,a3,n3,c3,b4,a4,n4,c4,rfl⟩:=hq.shape;refine EA ce ?_;refine cS (cE W (pR dH (p-q)) (λO J r=>aAR (rlo r G) (hp.rel r G) (hq.rel r G)) ?_);rintro O _ _ _ Pt r L W h_ E;have hR:=E.cU (nw r h_);obtain⟨A0,A1,A2,A3,A4,A5,A6,A7,rfl⟩:=hR.shape;refine cS (cE W (pE (iV (rs (p-q)))) (λO J r=>tG (rlo r oF) (hR.rel r oF)) ?_);rintro O _ _ _ iv2 r L W h_ rfl;exact rtn W λGE we re=>rfl
def aAS{v:Value}(G:Old S w)(hp:fx w S v p)(hq:fx w S u q):
  eH PG Fd.xE #[v,u] w (eV w λv' F=>(q=0/\v'= .tuple #[Mc,iV 9])\/(q≠0/\∃r,v'= .tuple #[r,iV 0]/\dH F (Nf w F) r (p / q))):=by
 have W:=bR w;replace hp:=hp.cU (S':=Cv S w.heap.size []) λ_ h=>.inl h;replace hq:=hq.cU (S':=Cv S w.heap.size []) λ_ h=>.inl h;obtain⟨b1,a1,n1,c1,b2,a2,n2,c2,rfl⟩:=hp.shape;obtain⟨b3,a3,n3,c3,b4,a4,n4,c4,rfl⟩:=hq.shape;refine EI ce ?_;have r1:=hp.rl;have r2:=hq.rl;have u1:=fg p;have u2:=fD p;have u3:=fg q;have u4:=fD q;have m0:=dO p.num q.den;have m1:=dO (p.den:Int) q.num;refine dP [.x 0,.x 2,.x 1,.x 3,.x 4,.x 5] ?_;refine cE W (pR dH (p)) (λO J r=>gI (rlo r G) (hp.rel r G)) ?_;rintro O _ _ _ Pt r L W h_ E;replace hq:=hq.cV r G L (mC h_);have hX:=E.cU (nw r h_);obtain⟨A0,A1,A2,A3,A4,A5,A6,A7,rfl⟩:=hX.shape;refine cE W (pR dH (q)) (λO J r=>gI (rlo r G) (hq.rel r G)) ?_;rintro O _ _ _ iv2 r L W h_ E;replace hX:=hX.cV r oF L (mC h_);have hY:=E.cU (nw r h_);obtain⟨C0,C1,C2,C3,C4,C5,C6,C7,rfl⟩:=hY.shape;refine cS (cE W (pE (iV (rs q))) (λO J r=>tG (rlo r oF) (hY.rel r oF)) ?_);rintro O _ _ _ Ps r L W h_ rfl;replace hX:=hX.cV r oF L (mC h_);replace hY:=hY.cV r oF L (mC h_);apply bS<;>intro h
 .have h:rs q=0:=by simpa using h
  exact rtn W λGE we re=>.inl ⟨kZ.1 h,rfl⟩
 have h:q≠0:=λe=>by rw[e]at h;exact absurd h bv
 have hqn:q.num≠0:=λe=>h (Rat.num_eq_zero.1 e);have SG:=hX.num;have R9:=hX.den;have SH:=hY.num;have SI:=hY.den;refine dP [.x 0,.x 1,.x 2,.x 3,.x 5,.x 6,.x 7,.x 8,.x 4,.x 9,.x 10,.x 11,.x 12] ?_;refine cE W (pR dV (p.num*(q.den:Int))) (λO J r=>im (rlo r oF) ((SG.rel r oF).l (k:=100000) be) ((SI.rel r oF).l (k:=100000) be) be be) ?_;rintro O _ _ _ QA r L W h_ E;replace R9:=R9.cV r oF L (mC h_);replace SH:=SH.cV r oF L (mC h_);have hN:=E.cU (nw r h_);obtain⟨E0,E1,E2,E3,rfl⟩:=hN.shape;refine cE W (pR dV ((p.den:Int)*q.num)) (λO J r=>im (rlo r oF) ((R9.rel r oF).l (k:=100000) be) ((SH.rel r oF).l (k:=100000) be) be be) ?_;rintro O _ _ _ QE r L W h_ E;replace hN:=hN.cV r oF L (mC h_);have hD:=E.cU (nw r h_);obtain⟨F0,F1,F2,F3,rfl⟩:=hD.shape;refine cE W (pR dH (p / q)) (λO J r=>(Dm p q)▸mX (rlo r oF) ((hN.rel r oF).l (k:=200001) be) ((hD.rel r oF).l (k:=200001) be) be be (ko (gQ p) hqn)) ?_;rintro O _ _ _ Q8 r L W h_ E;have hR:=E.cU (nw r h_);obtain⟨G0,G1,G2,G3,G4,G5,G6,G7,rfl⟩:=hR.shape;exact rtn W λGE we re=>.inr ⟨h,_,rfl,hR.out re oF⟩
def lX(n:Int)(w:World)(h1n: -9223372036854775808<=n)(h2n:n<=9223372036854775807):
  eH PG Fd.rZ #[iV n] w (eV w λv' F=>dH F (Nf w F) v' (n:Rat)):=by
 have W:=bR w;have ha:=wR h1n h2n;refine sA ce ?_;refine cS (cE W (pR dV (n)) (λO J r=>mL n J h1n h2n) ?_);rintro O _ _ _ Pt r L W h_ E;have hA:=E.cU (nw r h_);obtain⟨A0,A1,A2,A3,rfl⟩:=hA.shape;refine cS (cE W (pR dV (1)) (λO J r=>mL 1 J bv bv) ?_);rintro O _ _ _ iv2 r L W h_ E;replace hA:=hA.cV r oF L (mC h_);have hB:=E.cU (nw r h_);obtain⟨C0,C1,C2,C3,rfl⟩:=hB.shape;refine cS (cE W (pR dH ((n:Rat))) (λO J r=>(B8 n)▸mX (rlo r oF) ((hA.rel r oF).l (k:=2) be) ((hB.rel r oF).l (k:=2) bv) be be bv) ?_);rintro O _ _ _ Ps r L W h_ E;have hR:=E.cU (nw r h_);obtain⟨E0,E1,E2,E3,E4,E5,E6,E7,rfl⟩:=hR.shape;exact rtn W λGE we re=>hR.out re oF
section
variable{S S':Nat->Prop}{H:Hp}{nx:Nat}{iv A:Iv}{B:Nat}{w J F:World}{O:Nat->Sx.eD}{v:Value}{a:Int}{b:Int}
end
def j3.short{b:Bool}{n c k:Nat}{z:Int}(h:j3 w S (.agg #[.bool b,.slice a n c]) z)(K:n<=k):fV w S (.agg #[.bool b,.slice a n c]) k z:=by
 obtain⟨b2,ls,⟨lv,e1,h3⟩,I⟩:=h;obtain⟨a2,c2,e2,_⟩:=h3.sl;subst e2;simp only[Value.agg.injEq,Array.mk.injEq,List.cons.injEq,Value.bool.injEq,Value.slice.injEq,and_true]at e1;obtain⟨rfl,rfl,e3,rfl⟩:=e1;exact⟨_,ls,⟨_,by rw[e3],h3⟩,I,be⟩
def ke.aAT{b1 b2:Bool}{a1 a2:Option Addr}{n1 n2 c1 c2:Nat}{a b:Int}(h:ke w S (.agg #[.bool b1,.slice a1 n1 c1,.bool b2,.slice a2 n2 c2]) a b)(k1:n1<=3)(k2:n2<=3):
  fx w S (.agg #[.bool b1,.slice a1 n1 c1,.bool b2,.slice a2 n2 c2]) (ratio a b)/\rl (ratio a b)<=3:=by
 obtain⟨b1,l1,b2,l2,e,Y,I⟩:=h;simp only[Value.agg.injEq,Array.mk.injEq,List.cons.injEq,Value.bool.injEq,and_true]at e;obtain⟨rfl,rfl,rfl,rfl⟩:=e;have i1:=Y.short k1;have i2:=I.short k2;have q1:=i1.ln;have q2:=i2.ln;have q3:=Fe a b;exact⟨⟨_,_,_,_,a,b,rfl,i1.up be,i2.up be,rfl⟩,be⟩
def tt(w:World)(S:Nat->Prop)(cs:List Value)(q:Rat):Prop:=∃b a n c b2 a2 n2 c2,cs=(rC b a n c b2 a2 n2 c2)/\fx w S (.agg #[.bool b,.slice a n c,.bool b2,.slice a2 n2 c2]) q
abbrev dB:=dK tt
abbrev dZ:=dG dB
section
variable{S S':Nat->Prop}{H:Hp}{nx:Nat}{iv A:Iv}{B:Nat}{w J F:World}{O:Nat->Sx.eD}{v:Value}{qs:List Rat}{cs:List Value}{q:Rat}
def tt.cW(h:tt w S cs q)(K:∀g,S g->F.heap[g]? =w.heap[g]?):tt F S cs q:=by
 obtain⟨b,a,n,c,b2,a2,n2,c2,Y,I⟩:=h;exact⟨b,a,n,c,b2,a2,n2,c2,Y,I.cW K⟩
def tt.cU(h:tt w S cs q)(K:∀g,S g->S' g):tt w S' cs q:=by
 obtain⟨b,a,n,c,b2,a2,n2,c2,Y,I⟩:=h;exact⟨b,a,n,c,b2,a2,n2,c2,Y,I.cU K⟩
def dB.cW(h:dB w S v qs)(K:∀g,S g->F.heap[g]? =w.heap[g]?):dB F S v qs:=by
 obtain⟨U,Y,I,h3,h4⟩:=h;exact⟨U,Y.cW K,I,h3,λj cs x k1 k2=>(h4 j cs x k1 k2).cW K⟩
def dB.cU(h:dB w S v qs)(K:∀g,S g->S' g):dB w S' v qs:=by
 obtain⟨U,Y,I,h3,h4⟩:=h;exact⟨U,Y.cU K,I,h3,λj cs x k1 k2=>(h4 j cs x k1 k2).cU K⟩
def dZ.cW(h:dZ w S v M)(K:∀g,S g->F.heap[g]? =w.heap[g]?):dZ F S v M:=by
 obtain⟨rv,Y,I,h3⟩:=h;exact⟨rv,Y.cW K,I,λi u x k1 k2=>dB.cW (h3 i u x k1 k2) K⟩
def dZ.cU(h:dZ w S v M)(K:∀g,S g->S' g):dZ w S' v M:=by
 obtain⟨rv,Y,I,h3⟩:=h;exact⟨rv,Y.cU K,I,λi u x k1 k2=>dB.cU (h3 i u x k1 k2) K⟩
end
section
variable{S S':Nat->Prop}{H:Hp}{nx:Nat}{iv A:Iv}{B:Nat}{w J F:World}{O:Nat->Sx.eD}{v:Value}{qs:List Rat}
def dB.rel(h:dB w (Cv S B iv) v qs)(r:Rel H nx iv B w O J)(G:∀g,S g->g<B):dB J (Cv S B iv) v qs:=dB.cW h λ_ V=>rls r G V
def dB.cV(h:dB w (Cv S B iv) v qs)(r:Rel H nx iv B w O J)(G:∀g,S g->g<B)(L:Ext J F)(hm:∀p,p∈iv->p∈A):dB F (Cv S B A) v qs:=
 dB.cU (dB.cW (dB.rel h r G) λg V=>L.block g (rlo r G g V)) λ_ V=>V.mono hm
def dB.out{w0 w1:World}(h:dB w1 (Cv S w0.heap.size iv) v qs)(r:Rel H nx iv w0.heap.size w1 O J)(G:Old S w0):dB J (Nw S w0 J) v qs:=
 dB.cU (dB.rel h r G) λ_ V=>Cv.nw V r
def dB.arg(h:dB w S v qs)(iv:Iv):dB w (Cv S w.heap.size iv) v qs:=dB.cU h λ_ h=>.inl h
end
section
variable{S S':Nat->Prop}{H:Hp}{nx:Nat}{iv A:Iv}{B:Nat}{w J F:World}{O:Nat->Sx.eD}{v:Value}{M:List (List Rat)}
def dZ.rel(h:dZ w (Cv S B iv) v M)(r:Rel H nx iv B w O J)(G:∀g,S g->g<B):dZ J (Cv S B iv) v M:=dZ.cW h λ_ V=>rls r G V
def dZ.cV(h:dZ w (Cv S B iv) v M)(r:Rel H nx iv B w O J)(G:∀g,S g->g<B)(L:Ext J F)(hm:∀p,p∈iv->p∈A):dZ F (Cv S B A) v M:=
 dZ.cU (dZ.cW (dZ.rel h r G) λg V=>L.block g (rlo r G g V)) λ_ V=>V.mono hm
def dZ.old(h:dZ F (Nw (Cv S B iv) J F) v M)(hB:B<=J.heap.size):dZ F (Cv S B ((J.heap.size,F.heap.size)::iv)) v M:=dZ.cU h λ_ V=>Nw.cv V hB
def dZ.arg(h:dZ w S v M)(iv:Iv):dZ w (Cv S w.heap.size iv) v M:=dZ.cU h λ_ h=>.inl h
end
def ND:List Value->Head×Head
 |[.bool b,.slice a n c,.bool b2,.slice a2 n2 c2]=>((b,a,n,c),(b2,a2,n2,c2))
 |_=>((false,none,0,0),(false,none,0,0))
def Gp(h:∀cs∈U,∃b a n c b2 a2 n2 c2,cs=(rC b a n c b2 a2 n2 c2)):xd (U.map ND)=U.flatten:=by
 induction U with
 |nil=>rfl
 |cons cs r ih=>
  obtain⟨b,a,n,c,b2,a2,n2,c2,rfl⟩:=h cs aF;rw[List.map_cons,List.flatten_cons,<-ih λx Z=>h x (aD _ Z)];rfl
def dJ.Gq{v:Value}{xs:List (Int×Int)}(h:dJ w S v xs):
  ∃ks:List (Head×Head),fT w S 4 v (xd ks) ks.length/\((∀k∈ks,k.1.2.2.1<=3/\k.2.2.2.1<=3)->dB w S v (xs.map dC)/\(∀q∈xs.map dC,rl q<=3)/\ue xs):=by
 obtain⟨U,Y,I,h3,h4⟩:=h;have hform:∀(j:Nat) cs,U[j]? =some cs->∃x,xs[j]? =some x/\yr w S cs x:=λj cs hj=>by
  obtain⟨x,Z⟩:∃x,xs[j]? =some x:=⟨_,aE (by rw[<-I];exact(aH.1 hj).1)⟩
  exact⟨x,Z,h4 j cs x hj Z⟩
 have hf:∀cs∈U,∃b a n c b2 a2 n2 c2,cs=[Value.bool b,.slice a n c,.bool b2,.slice a2 n2 c2]:=λcs hc=>by
  obtain⟨j,hj,rfl⟩:=List.mem_iff_getElem.1 hc;obtain⟨x,_,b,a,n,c,b2,a2,n2,c2,e,_⟩:=hform j _ (aE hj);exact⟨b,a,n,c,b2,a2,n2,c2,e⟩
 refine⟨U.map ND,by rw[Gp hf,aO,I];exact Y,λK=>?_⟩;have key:∀(j:Nat) cs x,U[j]? =some cs->xs[j]? =some x->tt w S cs (dC x)/\rl (dC x)<=3/\ln x.1.natAbs<=10000000000/\ln x.2.natAbs<=10000000000:=λj cs x k1 k2=>by
  obtain⟨b,a,n,c,b2,a2,n2,c2,rfl,hr⟩:=h4 j cs x k1 k2;have:=K _ (bA.2 ⟨_,aG k1,rfl⟩);obtain⟨r1,r2⟩:=hr.aAT this.1 this.2;obtain⟨_,_,_,_,e,i1,i2⟩:=hr;simp only[Value.agg.injEq,Array.mk.injEq,List.cons.injEq,Value.bool.injEq,and_true]at e;obtain⟨rfl,rfl,rfl,rfl⟩:=e;have l1:=(i1.short this.1).ln;have l2:=(i2.short this.2).ln;exact⟨⟨b,a,n,c,b2,a2,n2,c2,rfl,r1⟩,r2,be,be⟩
 refine⟨⟨U,by rw[aO];exact Y,by rw[aO];exact I,h3,λj cs q k1 k2=>?_⟩,λq hq=>?_,λx Z=>?_⟩
 .rw[aS]at k2;obtain⟨x,Z,rfl⟩:=Option.map_eq_some_iff.1 k2;exact(key j cs x k1 Z).1
 .obtain⟨x,Z,rfl⟩:=bA.1 hq;obtain⟨j,hj,rfl⟩:=List.mem_iff_getElem.1 Z;exact(key j _ _ (aE (by rw[I];exact hj)) (aE hj)).2.1
 .obtain⟨j,hj,rfl⟩:=List.mem_iff_getElem.1 Z;exact(key j _ _ (aE (by rw[I];exact hj)) (aE hj)).2.2
def qc(n:Nat):Prop:=n<=5\/60<n/\n<=65
def nE(w:World)(S:Nat->Prop)(v:Value)(M:List (List (Int×Int))):Prop:=qc M.length/\(∀r∈M,qc r.length)/\dZ w S v (dS M)/\(∀r∈dS M,∀q∈r,rl q<=3)/\∀r∈M,ue r
def NF{v:Value}{M:List (List (Int×Int))}(G:Old S w)(h:dQ w S v M):
  eH PG Fd.rX #[v] w (eV w λv' _=>∃d,v'= .bool d/\(d=true->nE w S v M)):=by
 have W:=bR w;obtain⟨rv,⟨h0,Wg,Y,a,c,rfl,hc,Px⟩,hl,Pm⟩:=h;unfold maxLen at h0;refine Am ce ?_;apply bS<;>intro h5
 .have h5:=aK h5;apply bS<;>intro h60
  .have h60:=aK h60;exact rtn W λGE we re=>⟨false,rfl,λh=>by cases h⟩
  have h60:=aL h60;apply bS<;>intro h65
  .have h65:=aK h65;exact rtn W λGE we re=>⟨false,rfl,λh=>by cases h⟩
  have h65:=aL h65
  refine⟨Nat×World×Iv,λz=>⟨[(0,sV a M.length c),(3,iN z.1)],[],0,z.2.2,z.2.1⟩,λz=>M.length-z.1,
   λz=>z.1<=M.length/\Bq w z.2.1/\∀(j:Nat) r u,j<z.1->M[j]? =some r->rv[j]? =some u->qc r.length/\dB w S u (r.map dC)/\(∀q∈r.map dC,rl q<=3)/\ue r,?_,?_⟩
  .intro O J r;exact⟨(0,J,[]),⟨ce,W.tr r.cg,λj r u hj=>by dsimp only at hj;omega⟩,sbgn [] r⟩
  clear W;rintro⟨i,w1,iv⟩ ⟨R,W,ht⟩;dsimp only at R W ht ⊢;apply bS<;>intro Pk
  .have Pk:=dL Pk;obtain⟨r0,UB⟩:=gO M i;obtain⟨u,hu⟩:=gO rv i;have hR:=Pm i u r0 hu UB;obtain⟨ad,Vw,q1,q2⟩:=Px i u hu;obtain⟨au,cu,rfl,hcu,-⟩:=dK.shape hR;have SU:∀{H nx iv O J},Rel H nx iv w.heap.size w1 O J->J.cell? (ad.add ((i:Int).toNat*1))=some (.slice au r0.length cu):=λr=>by
    rw[aI,ah];exact gF G W r q1 q2
   refine⟨ad,Vw,be,.slice au r0.length cu,λO J r=>SU r,?_⟩;apply bS<;>intro h5
   .have h5:=aK h5;refine⟨ad,Vw,be,.slice au r0.length cu,λO J r=>SU r,?_⟩;apply bS<;>intro h60
    .have h60:=aK h60;exact rtn W λGE we re=>⟨false,rfl,λh=>by cases h⟩
    have h60:=aL h60;refine⟨ad,Vw,be,.slice au r0.length cu,λO J r=>SU r,?_⟩;apply bS<;>intro h65
    .have h65:=aK h65;exact rtn W λGE we re=>⟨false,rfl,λh=>by cases h⟩
    have h65:=aL h65;refine⟨ad,Vw,be,.slice au r0.length cu,λO J r=>SU r,?_⟩;obtain⟨ks,ZR,Wz⟩:=dJ.Gq hR;refine cS (cE W (λ_ J v F=>v= .bool (decide (∀k∈ks,k.1.2.2.1<=3/\k.2.2.2.1<=3))) (λO J r=>wY (oS G r) (ZR.cW (kS W r G))) ?_);rintro O QJ v1 QH Pt r L W h_ rfl;clear r;clear SU;apply bS<;>intro Ti
    .conv=>whnf
     exact rtn W λGE we re=>⟨false,rfl,λh=>by cases h⟩
    have Sw:=aK (show decide (∀k∈ks,k.1.2.2.1<=3/\k.2.2.2.1<=3)=true by simpa using Ti);refine inc i ?_;intro I8 w3 r3;refine⟨(i+1,w3,_),⟨by dsimp only;omega,W.tr r3.cg,λj r u hj k1 k2=>?_⟩,sbgn [] r3,by dsimp only;omega⟩;rcases aW j i with Wq|Wq
    .exact ht j r u Wq k1 k2
    .obtain rfl:j=i:=by dsimp only at hj;omega
     rw[UB]at k1;rw[hu]at k2;injection k1 with k1;injection k2 with k2;subst k1 k2;exact⟨by unfold qc;omega,Wz Sw⟩
   have h5:=aL h5;refine⟨ad,Vw,be,.slice au r0.length cu,λO J r=>SU r,?_⟩;apply bS<;>intro h65
   .have h65:=aK h65;exact rtn W λGE we re=>⟨false,rfl,λh=>by cases h⟩
   have h65:=aL h65;refine⟨ad,Vw,be,.slice au r0.length cu,λO J r=>SU r,?_⟩;obtain⟨ks,ZR,Wz⟩:=dJ.Gq hR;refine cS (cE W (λ_ J v F=>v= .bool (decide (∀k∈ks,k.1.2.2.1<=3/\k.2.2.2.1<=3))) (λO J r=>wY (oS G r) (ZR.cW (kS W r G))) ?_);rintro O QJ v1 QH Pt r L W h_ rfl;clear r;clear SU;apply bS<;>intro Ti
   .conv=>whnf
    exact rtn W λGE we re=>⟨false,rfl,λh=>by cases h⟩
   have Sw:=aK (show decide (∀k∈ks,k.1.2.2.1<=3/\k.2.2.2.1<=3)=true by simpa using Ti);refine inc i ?_;intro I8 w3 r3;refine⟨(i+1,w3,_),⟨by dsimp only;omega,W.tr r3.cg,λj r u hj k1 k2=>?_⟩,sbgn [] r3,by dsimp only;omega⟩;rcases aW j i with Wq|Wq
   .exact ht j r u Wq k1 k2
   .obtain rfl:j=i:=by dsimp only at hj;omega
    rw[UB]at k1;rw[hu]at k2;injection k1 with k1;injection k2 with k2;subst k1 k2;exact⟨by unfold qc;omega,Wz Sw⟩
  have Pk:i=M.length:=by
   have:¬i<M.length:=by simpa using Pk
   omega
  subst Pk;have YL:nE w S (.slice a M.length c) M:=by
   refine⟨by unfold qc;omega,λr hr=>?_,⟨rv,?_,by rw[hl];simp[dS],λj u q k1 k2=>?_⟩,λr hr q hq=>?_,λr hr=>?_⟩
   .obtain⟨j,hj,rfl⟩:=List.mem_iff_getElem.1 hr;exact(ht j _ _ hj (aE hj) (aE (by rw[hl];exact hj))).1
   .rw[show (dS M).length=M.length by simp[dS]];exact⟨by unfold maxLen;omega,Wg,Y,a,c,rfl,hc,Px⟩
   .rw[dS,aS]at k2;obtain⟨x,Z,rfl⟩:=Option.map_eq_some_iff.1 k2;exact(ht j x u (aH.1 Z).1 Z k1).2.1
   .rw[dS]at hr;obtain⟨x,Z,rfl⟩:=bA.1 hr;obtain⟨j,hj,rfl⟩:=List.mem_iff_getElem.1 Z;exact(ht j _ _ hj (aE hj) (aE (by rw[hl];exact hj))).2.2.1 q hq
   .obtain⟨j,hj,rfl⟩:=List.mem_iff_getElem.1 hr;exact(ht j _ _ hj (aE hj) (aE (by rw[hl];exact hj))).2.2.2
  exact rtn W λGE we re=>⟨true,rfl,λ_=>YL⟩
 have h5:=aL h5;apply bS<;>intro h65
 .have h65:=aK h65;exact rtn W λGE we re=>⟨false,rfl,λh=>by cases h⟩
 have h65:=aL h65
 refine⟨Nat×World×Iv,λz=>⟨[(0,sV a M.length c),(3,iN z.1)],[],0,z.2.2,z.2.1⟩,λz=>M.length-z.1,
  λz=>z.1<=M.length/\Bq w z.2.1/\∀(j:Nat) r u,j<z.1->M[j]? =some r->rv[j]? =some u->qc r.length/\dB w S u (r.map dC)/\(∀q∈r.map dC,rl q<=3)/\ue r,?_,?_⟩
 .intro O J r;exact⟨(0,J,[]),⟨ce,W.tr r.cg,λj r u hj=>by dsimp only at hj;omega⟩,sbgn [] r⟩
 clear W;rintro⟨i,w1,iv⟩ ⟨R,W,ht⟩;dsimp only at R W ht ⊢;apply bS<;>intro Pk
 .have Pk:=dL Pk;obtain⟨r0,UB⟩:=gO M i;obtain⟨u,hu⟩:=gO rv i;have hR:=Pm i u r0 hu UB;obtain⟨ad,Vw,q1,q2⟩:=Px i u hu;obtain⟨au,cu,rfl,hcu,-⟩:=dK.shape hR;have SU:∀{H nx iv O J},Rel H nx iv w.heap.size w1 O J->J.cell? (ad.add ((i:Int).toNat*1))=some (.slice au r0.length cu):=λr=>by
   rw[aI,ah];exact gF G W r q1 q2
  refine⟨ad,Vw,be,.slice au r0.length cu,λO J r=>SU r,?_⟩;apply bS<;>intro h5
  .have h5:=aK h5;refine⟨ad,Vw,be,.slice au r0.length cu,λO J r=>SU r,?_⟩;apply bS<;>intro h60
   .have h60:=aK h60;exact rtn W λGE we re=>⟨false,rfl,λh=>by cases h⟩
   have h60:=aL h60;refine⟨ad,Vw,be,.slice au r0.length cu,λO J r=>SU r,?_⟩;apply bS<;>intro h65
   .have h65:=aK h65;exact rtn W λGE we re=>⟨false,rfl,λh=>by cases h⟩
   have h65:=aL h65;refine⟨ad,Vw,be,.slice au r0.length cu,λO J r=>SU r,?_⟩;obtain⟨ks,ZR,Wz⟩:=dJ.Gq hR;refine cS (cE W (λ_ J v F=>v= .bool (decide (∀k∈ks,k.1.2.2.1<=3/\k.2.2.2.1<=3))) (λO J r=>wY (oS G r) (ZR.cW (kS W r G))) ?_);rintro O QJ v1 QH Pt r L W h_ rfl;clear r;clear SU;apply bS<;>intro Ti
   .conv=>whnf
    exact rtn W λGE we re=>⟨false,rfl,λh=>by cases h⟩
   have Sw:=aK (show decide (∀k∈ks,k.1.2.2.1<=3/\k.2.2.2.1<=3)=true by simpa using Ti);refine inc i ?_;intro I8 w3 r3;refine⟨(i+1,w3,_),⟨by dsimp only;omega,W.tr r3.cg,λj r u hj k1 k2=>?_⟩,sbgn [] r3,by dsimp only;omega⟩;rcases aW j i with Wq|Wq
   .exact ht j r u Wq k1 k2
   .obtain rfl:j=i:=by dsimp only at hj;omega
    rw[UB]at k1;rw[hu]at k2;injection k1 with k1;injection k2 with k2;subst k1 k2;exact⟨by unfold qc;omega,Wz Sw⟩
  have h5:=aL h5;refine⟨ad,Vw,be,.slice au r0.length cu,λO J r=>SU r,?_⟩;apply bS<;>intro h65
  .have h65:=aK h65;exact rtn W λGE we re=>⟨false,rfl,λh=>by cases h⟩
  have h65:=aL h65;refine⟨ad,Vw,be,.slice au r0.length cu,λO J r=>SU r,?_⟩;obtain⟨ks,ZR,Wz⟩:=dJ.Gq hR;refine cS (cE W (λ_ J v F=>v= .bool (decide (∀k∈ks,k.1.2.2.1<=3/\k.2.2.2.1<=3))) (λO J r=>wY (oS G r) (ZR.cW (kS W r G))) ?_);rintro O _ _ _ Pt r L W h_ rfl;clear r;clear SU;apply bS<;>intro Ti
  .conv=>whnf
   exact rtn W λGE we re=>⟨false,rfl,λh=>by cases h⟩
  have Sw:=aK (show decide (∀k∈ks,k.1.2.2.1<=3/\k.2.2.2.1<=3)=true by simpa using Ti);refine inc i ?_;intro I8 w3 r3;refine⟨(i+1,w3,_),⟨by dsimp only;omega,W.tr r3.cg,λj r u hj k1 k2=>?_⟩,sbgn [] r3,by dsimp only;omega⟩;rcases aW j i with Wq|Wq
  .exact ht j r u Wq k1 k2
  .obtain rfl:j=i:=by dsimp only at hj;omega
   rw[UB]at k1;rw[hu]at k2;injection k1 with k1;injection k2 with k2;subst k1 k2;exact⟨by unfold qc;omega,Wz Sw⟩
 have Pk:i=M.length:=by
  have:¬i<M.length:=by simpa using Pk
  omega
 subst Pk;have YL:nE w S (.slice a M.length c) M:=by
  refine⟨by unfold qc;omega,λr hr=>?_,⟨rv,?_,by rw[hl];simp[dS],λj u q k1 k2=>?_⟩,λr hr q hq=>?_,λr hr=>?_⟩
  .obtain⟨j,hj,rfl⟩:=List.mem_iff_getElem.1 hr;exact(ht j _ _ hj (aE hj) (aE (by rw[hl];exact hj))).1
  .rw[show (dS M).length=M.length by simp[dS]];exact⟨by unfold maxLen;omega,Wg,Y,a,c,rfl,hc,Px⟩
  .rw[dS,aS]at k2;obtain⟨x,Z,rfl⟩:=Option.map_eq_some_iff.1 k2;exact(ht j x u (aH.1 Z).1 Z k1).2.1
  .rw[dS]at hr;obtain⟨x,Z,rfl⟩:=bA.1 hr;obtain⟨j,hj,rfl⟩:=List.mem_iff_getElem.1 Z;exact(ht j _ _ hj (aE hj) (aE (by rw[hl];exact hj))).2.2.1 q hq
  .obtain⟨j,hj,rfl⟩:=List.mem_iff_getElem.1 hr;exact(ht j _ _ hj (aE hj) (aE (by rw[hl];exact hj))).2.2.2
 exact rtn W λGE we re=>⟨true,rfl,λ_=>YL⟩
def CU(w:World)(S:Nat->Prop)(U:List (List Value))(qs:List Rat):Prop:=∀(j:Nat) cs q,U[j]? =some cs->qs[j]? =some q->jV w S cs q
section
variable{S S':Nat->Prop}{H:Hp}{nx:Nat}{iv A:Iv}{B:Nat}{w J F:World}{O:Nat->Sx.eD}{U:List (List Value)}{qs:List Rat}
def CU.rel(h:CU w (Cv S B iv) U qs)(r:Rel H nx iv B w O J)(G:∀g,S g->g<B):CU J (Cv S B iv) U qs:=λj cs q Y I=>(h j cs q Y I).cW λ_ V=>rls r G V
def CU.cV(h:CU w (Cv S B iv) U qs)(r:Rel H nx iv B w O J)(G:∀g,S g->g<B)(L:Ext J F)(hm:∀p,p∈iv->p∈A):CU F (Cv S B A) U qs:=λj cs q Y I=>
 (((h.rel r G) j cs q Y I).cW λg V=>L.block g (rlo r G g V)).cU λ_ V=>V.mono hm
def CU.push(h:CU w S U qs)(hq:qs[U.length]? =some q)(hc:jV w S cs q):CU w S (U++[cs]) qs:=λj cs' q' Y I=>by
 rcases aW j U.length with hj|hj
 .rw[aN hj]at Y;exact h j cs' q' Y I
 .have Yg:j=U.length:=by have:=(aH.1 Y).1;simp at this;omega
  subst Yg;rw[aP lr,bV]at Y;simp at Y;rw[hq]at I;injection I with I;subst Y I;exact hc
end
def Bi(h:∀x∈U,x.length=4/\∀u∈x,u.oneCell'=true)(hc:cs.length=4/\∀u∈cs,u.oneCell'=true):∀x∈U++[cs],x.length=4/\∀u∈x,u.oneCell'=true:=λx Z=>by
 rcases az.1 Z with Z|Z
 .exact h x Z
 .simp at Z;subst Z;exact hc
def aB5(w F:World)(v:Value)(xs:List Rat):Prop:=∃U:List (List Value),F.ownsRow w.heap.size T.Rat 4 v xs.length U.flatten/\U.length=xs.length/\(∀cs∈U,cs.length=4/\∀u∈cs,u.oneCell'=true)/\∀(j:Nat) cs q,U[j]? =some cs->xs[j]? =some q->jV F (λg=>Nf w F g/\v.ownBlock≠some g) cs q
def DV{id n g:Nat}(h:((At.w id n).den O).ownBlock=some g):(O id).nil=false/\(O id).g=g:=by
 cases E:(O id).nil with
 |true=>rw[show (At.w id n).den O=nls by simp[At.den,E]]at h;cases h
 |false=>
  rw[show (At.w id n).den O= .slice (some ⟨(O id).g,0,none⟩) n (O id).cap by simp[At.den,E]]at h;injection h with h;exact⟨rfl,h⟩
def mM(xs ys:List Rat)(b:Rat):List Rat:=(List.range ys.length).map λj=>if 0<xs.length then xs.getD j 0+ys.getD j 0*b else ys.getD j 0*b
def qP(xs ys:List Rat)(b:Rat):(mM xs ys b).length=ys.length:=by simp[mM]
def xe{j:Nat}(h:j<ys.length):(mM xs ys b)[j]? =some (if 0<xs.length then xs.getD j 0+ys.getD j 0*b else ys.getD j 0*b):=by
 rw[mM,aS,cN h];rfl
def NG{v t:Value}(G:Old S w)(Z:dB w S v xs)(hy:dB w S u ys)(N:fx w S t b)(hlen:xs=[]\/xs.length=ys.length)(E:ys.length<=1000000)(hbound:∀y∈ys,rl y+rl b<=100000):
  eH PG Fd.uV #[v,u,t] w (eV w λv' F=>cd F (Nf w F) v' (mM xs ys b)/\aB5 w F v' (mM xs ys b)):=by
 have W:=bR w;obtain⟨ax,cx,rfl,Wi,Ue⟩:=dK.shape Z;obtain⟨ay,cy,rfl,Yc,hmy⟩:=dK.shape hy;obtain⟨t0,t1,t2,t3,t4,t5,t6,t7,rfl⟩:=N.shape;have QL:=qP xs ys b;refine CM ce ?_
 refine⟨List (List Value)×World×Iv,λz=>⟨[(0,sV ax xs.length cx),(1,sV ay ys.length cy),(5,pP 0 0),(7,.o (.w 1 z.1.length)),(8,iZ z.1.length)],[(1,.vec T.Rat 4 z.1.flatten),(0,.box T.Rat [.v (.bool t0),.v (.slice t1 t2 t3),.v (.bool t4),.v (.slice t5 t6 t7)])],2,z.2.2,z.2.1⟩,λz=>ys.length-z.1.length,
  λz=>z.1.length<=ys.length/\Bq w z.2.1/\(∀x∈z.1,x.length=4/\∀u∈x,u.oneCell'=true)/\CU z.2.1 (Cf w z.2.2) z.1 (mM xs ys b),?_,?_⟩
 .intro O J r
  exact⟨([],J,[]),⟨ce,r.cg,ce,λj cs q h=>by simp at h⟩,Sub.nil 7 T.Rat 4 rfl (by simp[kN,SV.sc,At.sc,ff]) r λI9 r1=>
   sbgn [] r1⟩
 clear W;rintro⟨U,w1,iv⟩ ⟨R,W,h4,Qw⟩;dsimp only at R W h4 Qw ⊢;have Qj:=fJ λx Z=>(h4 x Z).1;apply bS<;>intro Pk
 .have Pk:U.length<ys.length:=by simpa using Pk
  obtain⟨y,R5⟩:=gO ys U.length;obtain⟨ady,csy,Ux,SO,_,RZ⟩:=dK.load hy R5;obtain⟨p0,p1,p2,p3,p4,p5,p6,p7,rfl,SO⟩:=SO;have hyd:ys.getD U.length 0=y:=by rw[List.getD,R5];rfl
  have hpq:=xe (xs:=xs) (b:=b) Pk;rw[hyd]at hpq;have TJ:=hbound y (aG R5);have Zl:=j7 y b;apply bS<;>intro RI
  .have RI:0<xs.length:=by have:=aK RI;omega
   have SK:U.length<xs.length:=hlen.elim (λh=>by rw[h]at RI;simp at RI) (λh=>be);obtain⟨x,QY⟩:=gO xs U.length;obtain⟨adx,csx,WK,SD,_,RA⟩:=dK.load Z QY;obtain⟨q0,q1,q2,q3,q4,q5,q6,q7,rfl,SD⟩:=SD;have hxd:xs.getD U.length 0=x:=by rw[List.getD,QY];rfl
   rw[aM RI,hxd]at hpq;refine⟨ady,Ux,be,rC p0 p1 p2 p3 p4 p5 p6 p7,rfl,λO J r i x Z=>?_,?_⟩
   .obtain⟨k1,k2⟩:=RZ i x Z;rw[aI,cZ (w:=w) (F:=J) (by rw[da,da];exact(W.tr r.cg).block _ (G _ k1))];exact k2
   refine cS (cE W (pE (iV (rs y))) (λO J r=>jv (oS G r) (SO.cW (kS W r G))) ?_);rintro O QJ v1 QH Pt r L W h_ rfl;replace Qw:=Qw.cV r oF L (mC h_);clear r;apply bS<;>intro hs
   .have hs:y=0:=kZ.1 (by simpa using hs);rw[hs,bc,cH]at hpq;refine⟨adx,WK,be,rC q0 q1 q2 q3 q4 q5 q6 q7,rfl,λO J r i x Z=>?_,?_⟩
    .obtain⟨k1,k2⟩:=RA i x Z;rw[aI,cZ (w:=w) (F:=J) (by rw[da,da];exact(W.tr r.cg).block _ (G _ k1))];exact k2
    refine cS (cE W (pR dH (x)) (λO J r=>gI (oS G r) (SD.cW (kS W r G))) ?_);rintro O Qk v2 QP iv2 r L W h_ E;replace Qw:=Qw.cV r oF L (mC h_);have TQ:=E.cU (nw r h_);clear r E;obtain⟨A0,A1,A2,A3,A4,A5,A6,A7,rfl⟩:=TQ.shape;refine .inl ?_;refine⟨Qj,be,mx,((U.length+1:Nat):Int),wo,?_⟩;intro I8 w3 r3;have RG:(U++[[Value.bool A0,.slice A1 A2 A3,.bool A4,.slice A5 A6 A7]]).length=U.length+1:=by simp
    have ZM:(U++[[Value.bool A0,.slice A1 A2 A3,.bool A4,.slice A5 A6 A7]]).flatten=U.flatten++[Value.bool A0,.slice A1 A2 A3,.bool A4,.slice A5 A6 A7]:=by simp
    exact⟨(U++[rC A0 A1 A2 A3 A4 A5 A6 A7],w3,_),⟨by dsimp only;rw[RG];exact Pk,W.tr r3.cg,Bi h4 ⟨rfl,by intro u hu;simp at hu;rcases hu with rfl|rfl|rfl|rfl<;>rfl⟩,(Qw.rel r3 oF).push hpq (TQ.rel r3 oF).pG⟩,
     sbgn [(1,3)] r3 ⟨by dsimp only;rw[ZM];rfl,rfl,trivial⟩ ⟨rfl,rfl,rfl,by dsimp only;rw[RG];rfl,by dsimp only;rw[RG];rfl,trivial⟩,by dsimp only;rw[RG];omega⟩
   refine dP [.x 0,.x 1,.x 2,.x 3,.x 4,.p 6,.x 5,.x 6,.x 7] ?_;refine⟨ady,Ux,be,rC p0 p1 p2 p3 p4 p5 p6 p7,rfl,λO J r i x Z=>?_,?_⟩
   .obtain⟨k1,k2⟩:=RZ i x Z;rw[aI,cZ (w:=w) (F:=J) (by rw[da,da];exact(W.tr r.cg).block _ (G _ k1))];exact k2
   refine cE W (pR dH (y*b)) (λO J r=>Ef (oS G r) (SO.cW (kS W r G)) (N.cW (kS W r G))) ?_;rintro O _ _ _ iv2 r L W h_ E;replace Qw:=Qw.cV r oF L (mC h_);have hm:=E.cU (nw r h_);clear r E;obtain⟨A0,A1,A2,A3,A4,A5,A6,A7,rfl⟩:=hm.shape;refine wj.mk (λSS=>?_) (λSS=>absurd RI (by have:=aL SS;omega));refine dP (idO 7) ?_;refine⟨adx,WK,be,rC q0 q1 q2 q3 q4 q5 q6 q7,rfl,λO J r i x Z=>?_,?_⟩
   .obtain⟨k1,k2⟩:=RA i x Z;rw[aI,cZ (w:=w) (F:=J) (by rw[da,da];exact(W.tr r.cg).block _ (G _ k1))];exact k2
   refine cE W (pR dH (x+y*b)) (λO J r=>Ee (rlo r G) ((SD.cW (kS W r G)).cU λg V=>Or.inl V) (((hm.rel r oF).l be).cU λg V=>Cv.false V)) ?_;rintro O _ _ _ Ps r L W h_ E;replace Qw:=Qw.cV r oF L (mC h_);clear hm;have TQ:=E.cU (nw r h_);clear r E;obtain⟨C0,C1,C2,C3,C4,C5,C6,C7,rfl⟩:=TQ.shape;refine .inl ?_;refine⟨Qj,be,mx,((U.length+1:Nat):Int),wo,?_⟩;intro I8 w3 r3;have RG:(U++[[Value.bool C0,.slice C1 C2 C3,.bool C4,.slice C5 C6 C7]]).length=U.length+1:=by simp
   have ZM:(U++[[Value.bool C0,.slice C1 C2 C3,.bool C4,.slice C5 C6 C7]]).flatten=U.flatten++[Value.bool C0,.slice C1 C2 C3,.bool C4,.slice C5 C6 C7]:=by simp
   exact⟨(U++[rC C0 C1 C2 C3 C4 C5 C6 C7],w3,_),⟨by dsimp only;rw[RG];exact Pk,W.tr r3.cg,Bi h4 ⟨rfl,by intro u hu;simp at hu;rcases hu with rfl|rfl|rfl|rfl<;>rfl⟩,(Qw.rel r3 oF).push hpq (TQ.rel r3 oF).pG⟩,
    sbgn [(1,4)] r3 ⟨by dsimp only;rw[ZM];rfl,rfl,trivial⟩ ⟨rfl,rfl,rfl,by dsimp only;rw[RG];rfl,by dsimp only;rw[RG];rfl,trivial⟩,by dsimp only;rw[RG];omega⟩
  have RI:¬0<xs.length:=by have:=aL RI;omega
  rw[aJ RI]at hpq;refine dP [.x 0,.x 1,.x 2,.x 3,.x 4,.p 6,.x 5,.x 6,.x 7] ?_;refine⟨ady,Ux,be,rC p0 p1 p2 p3 p4 p5 p6 p7,rfl,λO J r i x Z=>?_,?_⟩
  .obtain⟨k1,k2⟩:=RZ i x Z;rw[aI,cZ (w:=w) (F:=J) (by rw[da,da];exact(W.tr r.cg).block _ (G _ k1))];exact k2
  refine cE W (pR dH (y*b)) (λO J r=>Ef (oS G r) (SO.cW (kS W r G)) (N.cW (kS W r G))) ?_;rintro O _ _ _ Pt r L W h_ E;replace Qw:=Qw.cV r oF L (mC h_);have hm:=E.cU (nw r h_);clear r E;obtain⟨E0,E1,E2,E3,E4,E5,E6,E7,rfl⟩:=hm.shape;refine wj.mk (λSS=>absurd (aK SS) be) (λSS=>?_);refine .inl ?_;refine⟨Qj,be,mx,((U.length+1:Nat):Int),wo,?_⟩;intro I8 w3 r3;have RG:(U++[[Value.bool E0,.slice E1 E2 E3,.bool E4,.slice E5 E6 E7]]).length=U.length+1:=by simp
  have ZM:(U++[[Value.bool E0,.slice E1 E2 E3,.bool E4,.slice E5 E6 E7]]).flatten=U.flatten++[Value.bool E0,.slice E1 E2 E3,.bool E4,.slice E5 E6 E7]:=by simp
  exact⟨(U++[rC E0 E1 E2 E3 E4 E5 E6 E7],w3,_),⟨by dsimp only;rw[RG];exact Pk,W.tr r3.cg,Bi h4 ⟨rfl,by intro u hu;simp at hu;rcases hu with rfl|rfl|rfl|rfl<;>rfl⟩,(Qw.rel r3 oF).push hpq (hm.rel r3 oF).pG⟩,
   sbgn [(1,4)] r3 ⟨by dsimp only;rw[ZM];rfl,rfl,trivial⟩ ⟨rfl,rfl,rfl,by dsimp only;rw[RG];rfl,by dsimp only;rw[RG];rfl,trivial⟩,by dsimp only;rw[RG];omega⟩
 have Pk:U.length=ys.length:=Nat.le_antisymm R (by simpa using Pk);intro GE we re;have Rx:∀u∈U.flatten,u.oneCell'=true:=λu hu=>by
  obtain⟨cs,hc,hu⟩:=List.mem_flatten.1 hu;exact(h4 cs hc).2 u hu
 refine⟨_,rfl,W.tr re.cg,?_,U,by rw[QL,<-Pk];exact zc re (id:=1) rfl Qj bv,by rw[QL];exact Pk,h4,λj cs q k1 k2=>((Qw j cs q k1 k2).cW λg V=>rls re oF V).cU λg V=>⟨Cv.nw V re,λe=>Rel.not re oF V 1 _ rfl (DV e).1 (DV e).2⟩⟩;refine⟨U,?_,by rw[QL];exact Pk,λcs hc=>(h4 cs hc).1,λj cs q k1 k2=>((Qw j cs q k1 k2).cW λg V=>rls re oF V).cU λg V=>Cv.nw V re⟩;have:=re.ka (id:=1) (sz:=4) (m:=U.length) rfl Qj mx bv Rx;rw[QL,<-Pk];exact this.cU λg V=>.inr V
def JU{v t:Value}(G:Old S w)(Z:dB w S v xs)(hy:dB w S u ys)(N:fx w S t b)(hlen:xs=[]\/xs.length=ys.length)(E:ys.length<=1000000)(hbound:∀y∈ys,rl y+rl b<=100000):
  eH PG Fd.uV #[v,u,t] w (eV w λv' F=>cd F (Nf w F) v' (mM xs ys b)):=
 (NG G Z hy N hlen E hbound).mono λ_ _ ⟨v2,e1,e2,e3,_⟩=>⟨v2,e1,e2,e3⟩
end Go.Ex
namespace Go.Ex
variable{M:List (List Rat)}{s:List (List Rat)×List Nat}{c:Nat}
def zh{r k F9:Nat}(K:r<=k)(hR:k<=F9)(h:∀j,r<=j->j<k->dR M j c=0):gL M c (F9-r) r=gL M c (F9-k) k:=by
 induction k with
 |zero=>
  have:r=0:=by omega
  subst this;rfl
 |succ k ih=>
  rcases aW k r with Y|Y
  .have:r=k+1:=by omega
   subst this;rfl
  .rw[ih Y be λj I h3=>h j I be,show F9-k=(F9-(k+1))+1 by omega,zi (h k Y be)]
def Dj{a i:Nat}{r:List Rat}(h:M[i]? =some r)(h0:r.getD c 0=0):dg M a c (i+1)=dg M a c i:=by
 unfold dg;refine av λj=>?_;rw[List.getElem?_mapIdx,List.getElem?_mapIdx];by_cases hj:j=i
 .subst hj;rw[h];simp only[bN]
  by_cases ha:j=a
  .rw[aJ be,aJ be]
  .rw[aM ⟨be,ha⟩,aJ be,h0];congr 1;refine av λk=>?_;rw[List.getElem?_mapIdx]
   cases r[k]? with
   |none=>rfl
   |some q=>simp[Dk,cH]
 .cases M[j]? with
  |none=>rfl
  |some r'=>
   simp only[bN]
   by_cases I:j<i/\j≠a
   .rw[aM ⟨be,I.2⟩,aM I]
   .rw[aJ be,aJ I]
def ky{α:Type}{l:List α}{i:Nat}{x:α}(h:i<l.length):l.take i++[x]++l.drop (i+1)=l.set i x:=by
 rw[List.set_eq_take_append_cons_drop,aM h];simp
def zj(h:¬s.2.length<s.1.length\/gL s.1 c (s.1.length-s.2.length) s.2.length=s.1.length):eY s c=s:=by
 unfold eY;split
 .rcases h with h|h
  .exact absurd ‹_› h
  .dsimp only;rw[if_pos h]
 .rfl
def zk{k:Nat}(K:s.2.length<=k)(hl:k<s.1.length)(h:∀j,s.2.length<=j->j<k->dR s.1 j c=0)(E:dR s.1 k c≠0):
  eY s c=(dg (scaled (fI [] s.1 s.2.length k) s.2.length c) s.2.length c s.1.length,s.2++[c]):=by
 have e:gL s.1 c (s.1.length-s.2.length) s.2.length=k:=by
  rw[zh K be h,show s.1.length-k=(s.1.length-k-1)+1 by omega,zl E]
 unfold eY;rw[aM be];dsimp only
 rw[e,aJ be,jb,fO]
def Jp{k:Nat}(K:s.2.length<=k)(hl:k=s.1.length)(h:∀j,s.2.length<=j->j<k->dR s.1 j c=0):eY s c=s:=by
 refine zj (.inr ?_);rw[zh K be h,hl,bV];rfl
end Go.Ex
namespace Go.Ex
open Go Go.Sx Go.Proofs
variable{M:List (List (Int×Int))}{qs x:List Rat}{cs:List Value}{i j:Nat}{S:Nat->Prop}{a a1 a2:Option Addr}{q:Rat}{u:Value}{w:World}
def Kv(ys:List Rat)(b:Rat):mM [] ys b=ys.map (· *b):=by
 refine av λj=>?_;rcases aW j ys.length with h|h
 .rw[xe h,aJ ce,aS,List.getD,aE h];rfl
 .rw[List.getElem?_eq_none (by rw[qP];exact h),List.getElem?_eq_none (by simp;exact h)]
def IN{xs ys:List Rat}(b:Rat)(h:xs.length=ys.length):mM xs ys b=xs.mapIdx (Dk b ys):=by
 refine av λj=>?_;rw[List.getElem?_mapIdx];rcases aW j ys.length with Y|Y
 .rw[xe Y,aM be,aE be,List.getD,aE (show j<xs.length by omega)];simp[Dk,Rat.mul_comm]
 .rw[List.getElem?_eq_none (by rw[qP];exact Y),List.getElem?_eq_none (show xs.length<=j by omega)];rfl
def cd.l{v:Value}(h:cd w S v qs)(hq:∀q∈qs,rl q<=100000):dB w S v qs:=by
 obtain⟨U,Y,I,h3,h4⟩:=h;refine⟨U,Y,I,h3,λj cs q k1 k2=>?_⟩;obtain⟨b,a,n,c,b2,a2,n2,c2,e,hc⟩:=h4 j cs q k1 k2;exact⟨b,a,n,c,b2,a2,n2,c2,e,hc.l (hq q (aG k2))⟩
def dB.nil(w:World)(S:Nat->Prop):dB w S nls []:=⟨[],⟨ce,ce,ce,none,0,rfl,lr,ce⟩,rfl,ce,ce⟩
def Kw{v:Value}{p:Rat}(G:Old S w)(hp:fx w S v p)(hq:fx w S u q)(h0:q≠0):
  eH PG Fd.xE #[v,u] w (eV w λv' F=>∃r,v'= .tuple #[r,iV 0]/\dH F (Nf w F) r (p / q)):=
 (aAS G hp hq).mono λ_ _ ⟨v2,e1,e2,e3⟩=>⟨v2,e1,e2,e3.elim (λh=>absurd h.1 h0) λh=>h.2⟩
def ek(w:World)(S:Nat->Prop)(rv:List Value)(M:List (List Rat)):Prop:=rv.length=M.length/\(∀u∈rv,u.oneCell'=true)/\∀(i:Nat) u r,rv[i]? =some u->M[i]? =some r->dB w S u r
section
variable{S S':Nat->Prop}{H:Hp}{nx:Nat}{iv A:Iv}{B:Nat}{w J F:World}{O:Nat->Sx.eD}{rv:List Value}{M:List (List Rat)}
def ek.rel(h:ek w (Cv S B iv) rv M)(r:Rel H nx iv B w O J)(G:∀g,S g->g<B):ek J (Cv S B iv) rv M:=⟨h.1,h.2.1,λi u x Y I=>dB.rel (h.2.2 i u x Y I) r G⟩
def ek.cV(h:ek w (Cv S B iv) rv M)(r:Rel H nx iv B w O J)(G:∀g,S g->g<B)(L:Ext J F)(hm:∀p,p∈iv->p∈A):ek F (Cv S B A) rv M:=⟨h.1,h.2.1,λi u x Y I=>dB.cV (h.2.2 i u x Y I) r G L hm⟩
def ek.set(h:ek w S rv M)(hu:u.oneCell'=true)(Z:dB w S u x):ek w S (rv.set i u) (M.set i x):=by
 refine⟨by simp[h.1],λv hv=>?_,λj v y Y I=>?_⟩
 .rcases bL hv with Y|Y
  .exact h.2.1 v Y
  .rw[Y];exact hu
 .rw[List.getElem?_set]at Y I;by_cases hj:i=j
  .rw[aM hj]at Y I;split at Y
   .split at I
    .injection Y with Y;injection I with I;subst Y I;exact Z
    .cases I
   .cases Y
  .rw[aJ hj]at Y I;exact h.2.2 j v y Y I
def ek.get(h:ek w S rv M)(R:i<M.length):∃u r,rv[i]? =some u/\M[i]? =some r/\dB w S u r:=by
 obtain⟨u,hu⟩:∃u,rv[i]? =some u:=⟨_,aE (by rw[h.1];exact R)⟩
 obtain⟨r,hr⟩:=gO M i;exact⟨u,r,hu,hr,h.2.2 i u r hu hr⟩
end
def Bj{v:Value}{M:List (List Rat)}{n cols h0:Nat}(G:Old S w)(h:dZ w S v M)(hlen:iP n M)(E:n<=1000)(hR:M.length<=1000)(TP:cols<=n)(TN:Ht M h0)(I:2<=h0)(TJ:4^M.length*h0<=90000):
  eH PG Fd.tj #[v,iV cols] w (eV w λv' F=>∃vm vp,v'= .tuple #[vm,vp]/\dZ F (Nw S w F) vm (dF M cols).1/\dw F (Nf w F) vp (dF M cols).2):=by
 have W:=bR w;replace h:=dZ.arg h [];obtain⟨rv0,⟨UC,Wg,Y,am,cm,rfl,Rw,Px⟩,hl,UP⟩:=h;unfold maxLen at UC;have Rh:ek w (Cv S w.heap.size []) rv0 M:=⟨hl,Y,UP⟩
 refine xR ce ?_;refine .inl ?_;refine⟨rv0,Wg,Y,λO J r QV=>?_,?_⟩
 .obtain⟨u0,Vp⟩:=gO rv0 0;obtain⟨ad,ha,_,_⟩:=Px 0 u0 Vp;refine⟨ad,ha,λj u hj=>?_⟩;obtain⟨ad2,RL,q1,q2⟩:=Px j u hj;rw[ha]at RL;injection RL with RL;subst RL;rw[cZ (w:=w) (F:=J) (by rw[da];exact rls r G q1)];exact q2
 refine⟨rfl,be,mx,?_⟩;rw[aV M.length]
 refine⟨Nat×List Value×List (List Rat)×List Nat×World×Iv,λz=>⟨[(1,iZ cols),(6,.o (.w 0 M.length)),(7,.o (.w 1 z.2.2.2.1.length)),(8,iN z.1)],[(1,.vec T.int 1 (z.2.2.2.1.map λc:Nat=>iV (c:Int))),(0,.vec T.nQ 1 z.2.1)],2,z.2.2.2.2.2,z.2.2.2.2.1⟩,λz=>cols-z.1,
  λz=>z.1<=cols/\(z.2.2.1,z.2.2.2.1)=(List.range z.1).foldl eY (M,[])/\iP n z.2.2.1/\Inv M cols h0 (z.2.2.1,z.2.2.2.1)/\Bq w z.2.2.2.2.1/\ek z.2.2.2.2.1 (Cv S w.heap.size z.2.2.2.2.2) z.2.1 z.2.2.1,?_,?_⟩
 .intro O J r
  exact⟨(0,rv0,M,[],J,[]),⟨aZ _,rfl,hlen,⟨rfl,aZ _,ce,by simpa using TN⟩,W.tr r.cg,Rh.rel r G⟩,Sub.nil 7 T.int 1 rfl (by simp[kN,SV.sc,At.sc,ff]) r λI9 r1=>
   sbgn [(0,1),(1,2)] r1⟩
 rintro⟨c,rv,M1,pv,w1,iv⟩ ⟨hc,S3,Vx,hInv,W,Rh⟩;dsimp only at hc S3 Vx hInv W Rh ⊢;obtain⟨hI1,YX,hI3,hI4⟩:=hInv;dsimp only at hI1 YX hI3 hI4;have QI:rv.length=M.length:=by rw[Rh.1,hI1]
 apply bS<;>intro Pk
 .have Pk:=dL Pk
  refine⟨ce,Nat×World×Iv,λz=>⟨[(1,iZ cols),(6,.o (.w 0 M.length)),(7,.o (.w 1 pv.length)),(8,iN c),(9,iN pv.length),(10,iN z.1)],[(1,.vec T.int 1 (pv.map λc:Nat=>iV (c:Int))),(0,.vec T.nQ 1 rv)],2,z.2.2,z.2.1⟩,λz=>M.length-z.1,
   λz=>pv.length<=z.1/\z.1<=M.length/\(∀j,pv.length<=j->j<z.1->dR M1 j c=0)/\Bq w z.2.1/\ek z.2.1 (Cv S w.heap.size z.2.2) rv M1,?_,?_⟩
  .intro O J r;exact⟨(pv.length,J,iv),⟨lr,YX,λj h3 h4=>by dsimp only at h4;omega,W.tr r.cg,Rh.rel r G⟩,sbgn [] r⟩
  rintro⟨k,F,iv⟩ ⟨Sp,hk1,hkz,W,Rh⟩;dsimp only at Sp hk1 hkz W Rh ⊢;have hRl:=Rh.1;refine⟨by rw[QI,aV,ah],?_⟩;apply bS<;>intro R1
  .have R1:=dL R1;obtain⟨u,x,hu,Z,hux⟩:=Rh.get (i:=k) be;have SK:=Vx x (aG Z);obtain⟨y,hy⟩:=gO x c;have Qw:dR M1 k c=y:=by simp[dR,List.getD,Z,hy]
   obtain⟨au,cu,rfl,hcu,-⟩:=dK.shape hux;obtain⟨ad,cs,QQ,hF,_,ZZ⟩:=dK.load hux hy;obtain⟨p0,p1,p2,p3,p4,p5,p6,p7,rfl,hF⟩:=hF;refine⟨by simp[QI],be,.slice au x.length cu,by simpa using hu,ad,QQ,be,rC p0 p1 p2 p3 p4 p5 p6 p7,rfl,λO J r i x Z=>?_,?_⟩
   .obtain⟨k1,k2⟩:=ZZ i x Z;rw[aI,cZ (w:=F) (F:=J) (by rw[da,da];exact rls r G k1)];exact k2
   refine cS (cE W (pE (iV (rs y))) (λO J r=>jv (rlo r G) (hF.rel r G)) ?_);rintro O _ _ QH Pt r L W h_ rfl;replace Rh:=Rh.cV r G L (mC h_);apply bS<;>intro hs
   .have hs:y=0:=kZ.1 (by simpa using hs);refine inc k ?_;intro I8 w3 r3
    exact⟨(k+1,w3,_),⟨by dsimp only;omega,R1,λj h3 h4=>by
      by_cases hj:j=k
      .rw[hj,Qw,hs]
      .exact hkz j h3 (by dsimp only at h4;omega),W.tr r3.cg,Rh.rel r3 G⟩,sbgn [] r3,by dsimp only;omega⟩
   have hs:y≠0:=λe=>by rw[e]at hs;exact absurd hs bv
   refine⟨by rw[QI,aV,ah],?_⟩;refine wj.mk (λUd=>absurd (aK Ud) be) (λ_=>?_);obtain⟨uk,xk,huk,hxk,huxk⟩:=Rh.get (i:=k) be;obtain⟨ur,xr,hur,hxr,huxr⟩:=Rh.get (i:=pv.length) be;have hukc:=Rh.2.1 uk (aG huk);have hurc:=Rh.2.1 ur (aG hur);obtain⟨aur,cur,rfl,-,-⟩:=dK.shape huxr;obtain⟨auk,cuk,rfl,-,-⟩:=dK.shape huxk;have hsw:fI [] M1 pv.length k=(M1.set pv.length xk).set k xr:=by simp[fI,List.getD,hxk,hxr]
   have YC:pv.length<M.length:=by omega
   have ZJ:4*(4^pv.length*h0)<=90000:=by
    have h5:=Nat.mul_le_mul_right h0 (Nat.pow_le_pow_right (show 0<4 by decide) (show pv.length+1<=M.length by omega));rw[Nat.pow_succ,bX (4^pv.length) 4,bo]at h5;omega
   have hh2:2<=4^pv.length*h0:=aR I (Nat.le_mul_of_pos_left _ (Nat.pow_pos bv));have Po:dR M1 k c≠0:=by rw[Qw];exact hs
   have Pr:=zk (s:=(M1,pv)) (c:=c) (k:=k) Sp (by show k<M1.length;omega) hkz Po;have hHt2:=hI4.swap (i:=pv.length) (j:=k) be be;have hat2:=vK (M:=M1) (i:=pv.length) (j:=k) (c:=c) be be;have Wt:=hHt2.scaled (a:=pv.length) (c:=c) hh2 (by rw[fO];omega) (by rw[hat2];exact Po);have Ts:=(Rh.set (i:=pv.length) hukc huxk).set (i:=k) hurc huxr;rw[<-hsw]at Ts;have hLen2:iP n (fI [] M1 pv.length k):=by
    rw[hsw];exact(Vx.set (Vx xk (aG hxk))).set (Vx xr (aG hxr))
   have Qn:(fI [] M1 pv.length k).length=M.length:=by rw[fO,hI1]
   generalize hrv2:(rv.set pv.length (.slice auk xk.length cuk)).set k (.slice aur xr.length cur)=rv2 at Ts;have UD:rv2.length=M.length:=by rw[Ts.1,Qn]
   dsimp only at Pr;refine dP (idO 16) ?_;refine⟨by simp[QI],be,.slice auk xk.length cuk,by simpa using huk,by simp[QI],be,.slice aur xr.length cur,by simpa using hur,by simp[QI],be,by simp[QI];omega,rv.set pv.length (.slice auk xk.length cuk),by rw[aI,ah];exact ky (by simp[QI];omega),by simp[QI],be,by simp[QI];omega,rv2,by rw[aI,ah,<-hrv2];exact ky (by simp[QI];omega),?_⟩;obtain⟨u2,x2,Yy,Q5,Vy⟩:=Ts.get (i:=pv.length) be;have hx2l:=hLen2 x2 (aG Q5);obtain⟨y2,RH⟩:=gO x2 c;have hat3:dR (fI [] M1 pv.length k) pv.length c=y2:=by simp[dR,List.getD,Q5,RH]
   have hy20:y2≠0:=by rw[<-hat3,hat2];exact Po
   have Sq:(fI [] M1 pv.length k).getD pv.length []=x2:=by simp[List.getD,Q5]
   have hscl:scaled (fI [] M1 pv.length k) pv.length c=(fI [] M1 pv.length k).set pv.length (x2.map (· *(1 / y2))):=by rw[scaled,Sq,hat3]
   rw[hscl]at Pr Wt;have QZ:=hHt2.at Q5;have XS:=QZ y2 (aG RH);have hinv:=uM hy20;have RG:((fI [] M1 pv.length k).set pv.length (x2.map (· *(1 / y2)))).length=M.length:=by rw[bQ,Qn]
   have hget3:((fI [] M1 pv.length k).set pv.length (x2.map (· *(1 / y2))))[pv.length]? =some (x2.map (· *(1 / y2))):=aQ be;have hLen3:iP n ((fI [] M1 pv.length k).set pv.length (x2.map (· *(1 / y2)))):=hLen2.set (by rw[aO];exact hx2l);generalize fI [] M1 pv.length k=M2 at*
   obtain⟨au2,cu2,rfl,hcu2,-⟩:=dK.shape Vy;obtain⟨ad2,cs2,Q4,XH,_,hlc2⟩:=dK.load Vy RH;obtain⟨q0,q1,q2,q3,q4,q5,q6,q7,rfl,XH⟩:=XH;replace QI:=UD;refine dP [.x 1,.x 2,.x 3,.x 4,.x 5,.x 6,.x 7,.p 12,.x 0,.x 8,.x 9,.x 10,.x 11,.x 12,.x 13,.x 14] ?_;refine⟨by simp[QI],be,.slice au2 x2.length cu2,by simpa using Yy,ad2,Q4,be,rC q0 q1 q2 q3 q4 q5 q6 q7,rfl,λO J r i x Z=>?_,?_⟩
   .obtain⟨k1,k2⟩:=hlc2 i x Z;rw[aI,cZ (w:=QH) (F:=J) (by rw[da,da];exact rls r G k1)];exact k2
   refine cE W (pR dH (1:Rat)) (λO J r=>(show ((1:Int):Rat)=1 from rfl)▸lX 1 J bv bv) ?_;rintro O _ _ _ iv2 r L W h_ E;replace Ts:=Ts.cV r G L (mC h_);replace Vy:=dB.cV Vy r G L (mC h_);replace XH:=XH.cV r G L (mC h_);have h_1:=E.cU (nw r h_);obtain⟨A0,A1,A2,A3,A4,A5,A6,A7,rfl⟩:=h_1.shape;refine cE W (λ_ J v F=>∃q,v= .tuple #[q,iV 0]/\dH F (Nf J F) q (1 / y2)) (λO J r=>Kw (rlo r G) (((h_1.rel r oF).l (by rw[Dn];decide)).cU λg V=>Cv.false V) (XH.rel r G) hy20) ?_;rintro O _ _ _ Ps r L W h_ ⟨q,rfl,k1⟩;replace Ts:=Ts.cV r G L (mC h_);replace Vy:=dB.cV Vy r G L (mC h_);have QM:=k1.cU (nw r h_);obtain⟨s3_0a,s3_0b,s3_0c,s3_0d,s3_0e,s3_0f,s3_0g,s3_0h,rfl⟩:=QM.shape;refine dP (idO 10) ?_;refine⟨by simp[QI],be,.slice au2 x2.length cu2,by simpa using Yy,?_⟩;refine cE W (pR cd (x2.map (· *(1 / y2)))) (λO J r=>(Kv x2 (1 / y2))▸JU (rlo r G) (dB.nil J _) (dB.rel Vy r G) (((QM.rel r oF).l be).cU λg V=>Cv.false V) (.inl rfl) be (λy hy=>by have:=QZ y hy;omega)) ?_;rintro O _ _ _ QA r L W h_ E;replace Ts:=Ts.cV r G L (mC h_);have Wr:=cd.cU E (nw r h_);obtain⟨a3,c3,rfl,Ya,-⟩:=dK.shape Wr;have hRV3:=Ts.set (i:=pv.length) (u:=.slice a3 (x2.map (· *(1 / y2))).length c3) rfl (dB.cU (cd.l Wr λq hq=>by have:=Wt.1 _ hget3 q hq;omega) λg V=>Cv.false V);obtain⟨rv3,hrv3⟩:∃rv3,rv3=rv2.set pv.length (.slice a3 (x2.map (· *(1 / y2))).length c3):=⟨_,rfl⟩
   rw[<-hrv3]at hRV3;generalize x2.map (· *(1 / y2))=x3 at*
   generalize hM3:M2.set pv.length x3=M3 at*
   refine⟨by simp[QI],be,by simp[QI];omega,rv3,by rw[aI,ah,hrv3];exact ky (by simp[QI];omega),?_⟩;have hrl3:rv3.length=M.length:=by rw[hRV3.1,RG]
   refine⟨Nat×List Value×World×Iv,λz=>⟨[(1,iZ cols),(6,.o (.w 0 M.length)),(7,.o (.w 1 pv.length)),(8,iN c),(9,iN pv.length),(13,iN z.1)],[(1,.vec T.int 1 (pv.map λc:Nat=>iV (c:Int))),(0,.vec T.nQ 1 z.2.1)],2,z.2.2.2,z.2.2.1⟩,λz=>M.length-z.1,
    λz=>z.1<=M.length/\Bq w z.2.2.1/\ek z.2.2.1 (Cv S w.heap.size z.2.2.2) z.2.1 (dg M3 pv.length c z.1),?_,?_⟩
   .intro O J r;exact⟨(0,rv3,J,QA),⟨aZ _,W.tr r.cg,by dsimp only;rw[vP];exact hRV3.rel r G⟩,sbgn [] r⟩
   rintro⟨i,rv,w4,iv⟩ ⟨R,W,Rh⟩;dsimp only at R W Rh ⊢;have QI:rv.length=M.length:=by rw[Rh.1,gR,RG]
   refine⟨by rw[QI,aV,ah],?_⟩;apply bS<;>intro YM
   .have YM:=dL YM;apply bS<;>intro hir
    .have hir:i≠pv.length:=λe=>by rw[e]at hir;simp at hir
     obtain⟨u4,x4,hu4,YK,VR⟩:=Rh.get (i:=i) (by rw[gR];omega);obtain⟨u5,x5,hu5,hx5,Wu⟩:=Rh.get (i:=pv.length) (by rw[gR];omega);rw[AH _ _ _ _ _ lr]at YK;rw[uG]at hx5;have hx4l:=hLen3 x4 (aG YK);have hx5l:=hLen3 x5 (aG hx5);obtain⟨y4,hy4⟩:=gO x4 c;have hy4d:x4.getD c 0=y4:=by simp[List.getD,hy4]
     have hx5d:M3.getD pv.length []=x5:=by simp[List.getD,hx5]
     have Rb:=Wt.2 i x4 hir YK;have hb5:=Wt.1 x5 hx5;have hyb4:=Rb y4 (aG hy4);have hrn:=kT y4;obtain⟨au4,cu4,rfl,hcu4,-⟩:=dK.shape VR;obtain⟨au5,cu5,rfl,hcu5,-⟩:=dK.shape Wu;obtain⟨ad4,cs4,had4,hF4,_,hlc4⟩:=dK.load VR hy4;obtain⟨e0,e1,e2,e3,e4,e5,e6,e7,rfl,hF4⟩:=hF4;refine⟨by simp[QI],be,.slice au4 x4.length cu4,by simpa using hu4,ad4,had4,be,rC e0 e1 e2 e3 e4 e5 e6 e7,rfl,λO J r i x Z=>?_,?_⟩
     .obtain⟨k1,k2⟩:=hlc4 i x Z;rw[aI,cZ (w:=w4) (F:=J) (by rw[da,da];exact rls r G k1)];exact k2
     refine cS (cE W (pE (iV (rs y4))) (λO J r=>jv (rlo r G) (hF4.rel r G)) ?_);rintro O _ _ Ut QE r L W h_ rfl;replace Rh:=Rh.cV r G L (mC h_);replace VR:=dB.cV VR r G L (mC h_);replace Wu:=dB.cV Wu r G L (mC h_);apply bS<;>intro hs4
     .have hs4:y4≠0:=λe=>by rw[e]at hs4;exact absurd hs4 bv
      obtain⟨ad6,cs6,had6,Xz,_,hlc6⟩:=dK.load VR hy4;obtain⟨f0,f1,f2',f3,f4,f5,f6,f7,rfl,Xz⟩:=Xz;refine dP (idO 21) ?_;refine⟨by simp[QI],be,.slice au4 x4.length cu4,by simpa using hu4,by simp[QI],be,.slice au5 x5.length cu5,by simpa using hu5,by simp[QI],be,.slice au4 x4.length cu4,by simpa using hu4,ad6,had6,be,rC f0 f1 f2' f3 f4 f5 f6 f7,rfl,λO J r i x Z=>?_,?_⟩
      .obtain⟨k1,k2⟩:=hlc6 i x Z;rw[aI,cZ (w:=Ut) (F:=J) (by rw[da,da];exact rls r G k1)];exact k2
      refine cE W (pR dH (-y4)) (λO J r=>NC (rlo r G) (Xz.rel r G)) ?_;rintro O _ _ _ Q8 r L W h_ E;replace Rh:=Rh.cV r G L (mC h_);replace VR:=dB.cV VR r G L (mC h_);replace Wu:=dB.cV Wu r G L (mC h_);have hng:=E.cU (nw r h_);obtain⟨C0,C1,C2,C3,C4,C5,C6,C7,rfl⟩:=hng.shape;refine cE W (pR cd (mM x4 x5 (-y4))) (λO J r=>JU (rlo r G) (dB.rel VR r G) (dB.rel Wu r G) (((hng.rel r oF).l be).cU λg V=>Cv.false V) (.inr be) be (λy hy=>by have:=hb5 y hy;omega)) ?_;rintro O _ _ _ RJ r L W h_ E;replace Rh:=Rh.cV r G L (mC h_);have hx7:=cd.cU E (nw r h_);obtain⟨a7,c7,rfl,hc7,-⟩:=dK.shape hx7;have R7:(dg M3 pv.length c i).set i (mM x4 x5 (-y4))=dg M3 pv.length c (i+1):=by
       rw[<-vQ YK hir,hy4d,hx5d,IN _ be]
      have hrow7:(dg M3 pv.length c (i+1))[i]? =some (mM x4 x5 (-y4)):=by rw[<-R7];exact aQ (by rw[gR];omega)
      have hb7:=(Ht.Dp (i:=i+1) Wt.1 Wt.2 hh2).at hrow7;replace Rh:=Rh.set (i:=i) (u:=.slice a7 (mM x4 x5 (-y4)).length c7) rfl (dB.cU (cd.l hx7 λq hq=>by have:=hb7 q hq;omega) λg V=>Cv.false V);rw[R7]at Rh;refine⟨by simp[QI],be,by simp[QI];omega,rv.set i (.slice a7 (mM x4 x5 (-y4)).length c7),by rw[aI,ah];exact ky be,((i+1:Nat):Int),wo,?_⟩;intro I8 w3 r3;exact⟨(i+1,rv.set i (.slice a7 (mM x4 x5 (-y4)).length c7),w3,_),⟨YM,W.tr r3.cg,by dsimp only;rw[show i+1=i+1 from rfl];exact Rh.rel r3 G⟩,sbgn [] r3,dec YM⟩
     have hs4:y4=0:=kZ.1 (by simpa using hs4);refine inc i ?_;intro I8 w3 r3;exact⟨(i+1,rv,w3,_),⟨YM,W.tr r3.cg,by dsimp only;rw[Dj YK (by rw[hy4d,hs4])];exact Rh.rel r3 G⟩,sbgn [] r3,dec YM⟩
    have hir1:(i:Int)=pv.length:=by simpa using hir
    have hir:i=pv.length:=by omega
    refine inc i ?_;intro I8 w3 r3;exact⟨(i+1,rv,w3,_),⟨YM,W.tr r3.cg,by dsimp only;rw[show dg M3 pv.length c (i+1)=dg M3 pv.length c i by rw[hir,<-vR]];exact Rh.rel r3 G⟩,sbgn [] r3,dec YM⟩
   have YM:i=M.length:=by have:=aL YM;omega
   subst YM;refine .inl ?_;refine⟨ce,be,mx,?_⟩;have Yo:(pv++[c]).map (λc:Nat=>iV (c:Int))=pv.map (λc:Nat=>iV (c:Int))++[iV (c:Int)]:=by simp
   rw[hI1]at Pr;refine inc c ?_;intro I8 w3 r3;have hs:eY (M1,pv) c=((dg M3 pv.length c M.length),(pv++[c])):=Pr;have hf2:((dg M3 pv.length c M.length),(pv++[c]))=(List.range (c+1)).foldl eY (M,[]):=by rw[bu,List.foldl_append,<-S3];exact hs.symm
   have Qo:=Inv.step (show Inv M cols h0 (M1,pv)from⟨hI1,YX,hI3,hI4⟩) Pk I;have Qn:=iP.step (s:=(M1,pv)) (c:=c) Vx;rw[hs]at Qo Qn;exact⟨(c+1,rv,(dg M3 pv.length c M.length),(pv++[c]),w3,_),⟨Pk,hf2,Qn,Qo,W.tr r3.cg,Rh.rel r3 G⟩,sbgn [(1,3)] r3 ⟨by dsimp only;rw[Yo];rfl,rfl,trivial⟩ ⟨rfl,rfl,by dsimp only;rw[l1];rfl,rfl,trivial⟩,dec Pk⟩
  have R1:k=M.length:=by have:=aL R1;omega
  refine⟨by rw[QI,aV,ah],?_⟩;refine wj.mk (λ_=>?_) (λUd=>absurd (aL Ud) be);refine inc c ?_;intro I8 w3 r3;have hs:eY (M1,pv) c=(M1,pv):=Jp Sp (by show k=M1.length;omega) hkz;have hf2:(M1,pv)=(List.range (c+1)).foldl eY (M,[]):=by rw[bu,List.foldl_append,<-S3];exact hs.symm
  have Qo:=Inv.step (show Inv M cols h0 (M1,pv)from⟨hI1,YX,hI3,hI4⟩) Pk I;have Qn:=iP.step (s:=(M1,pv)) (c:=c) Vx;rw[hs]at Qo Qn;exact⟨(c+1,rv,M1,pv,w3,_),⟨Pk,hf2,Qn,Qo,W.tr r3.cg,Rh.rel r3 G⟩,sbgn [] r3,dec Pk⟩
 have Pk:=dE hc Pk;subst Pk;have hred:dF M c=(M1,pv):=S3.symm;rw[hred];intro GE we re;refine⟨_,rfl,W.tr re.cg,_,_,rfl,⟨rv,?_,Rh.1,λi u x Y I=>dB.out (Rh.2.2 i u x Y I) re G⟩,?_⟩
 .have:=re.ka (id:=0) (sz:=1) (m:=M.length) rfl (by rw[QI,ah]) mx bv Rh.2.1;rw[show (M1,pv).1.length=M.length from hI1];exact this.cU λg V=>.inr V
 .have:=re.ka (id:=1) (sz:=1) (m:=pv.length) rfl ce mx bv (λu hu=>by
   obtain⟨_,_,rfl⟩:=bA.1 hu
   rfl)
  exact this.cU λg V=>.inr V
def qO{v:Value}(G:Old S w)(h:dQ w S v M):eH PG Fd.tY #[v] w (eV w λv' _=>v'=iV (dM M)):=by
 have E:=h;obtain⟨a,c,rfl,hc,hm⟩:=dG.shape h;refine xF ce ?_
 cases M with
 |nil=>
  intro GE we re;exact⟨_,rfl,re.cg,rfl⟩
 |cons r t=>
  obtain⟨ad,u,rfl,hu,Y,I⟩:=dG.load h (j:=0) (x:=r) rfl;obtain⟨a2,c2,rfl⟩:=dG.nL hu;refine⟨ad,rfl,⟨be,ce⟩,.slice a2 r.length c2,λO J r'=>by simpa using gF G Bel.refl r' Y (by simpa using I),?_⟩;intro GE we re;exact⟨_,rfl,re.cg,rfl⟩
def DS{α:Type}{M:List (List α)}{r:List α}(h:M[0]? =some r):dM M=r.length:=by
 cases M with
 |nil=>cases h
 |cons x t=>injection h with h;rw[<-h];rfl
def D6(h:j8 M=0):(∀r∈M,r.length=dM M)/\M.length<=60/\dM M<=60:=by
 unfold j8 at h;split at h
 .split at h
  .cases h
  .exact⟨‹_›,be,be⟩
 .cases h
def Bh{v:Value}(G:Old S w)(h:dQ w S v M):eH PG Fd.nX #[v] w (eV w λv' _=>v'=iV (j8 M)):=by
 have W:=bR w;obtain⟨a,c,rfl,hc,hm⟩:=dG.shape h;unfold maxLen at hm;refine rz ce ?_
 refine⟨Nat×World,λz=>⟨[(0,sV a M.length c),(3,iN z.1)],[],0,[],z.2⟩,λz=>M.length-z.1,
  λz=>z.1<=M.length/\Bq w z.2/\∀(j:Nat) r,j<z.1->M[j]? =some r->r.length=dM M,?_,?_⟩
 .intro O J r;exact⟨(0,J),⟨ce,r.cg,λj r hj=>by dsimp only at hj;omega⟩,sbgn [] r⟩
 clear W;rintro⟨i,w1⟩ ⟨R,W,Pm⟩;dsimp only at R W Pm ⊢;apply bS<;>intro Pk
 .have Pk:=dL Pk;obtain⟨r,hr⟩:=gO M i;obtain⟨r0,UB⟩:=gO M 0;have hc0:=DS UB;obtain⟨ad,u,ha,hu,Y,I⟩:=dG.load h hr;obtain⟨ad2,u2,RL,Yy,h3,h4⟩:=dG.load h UB;obtain⟨a2,c2,rfl⟩:=dG.nL hu;obtain⟨a3,c3,rfl⟩:=dG.nL Yy;refine dP (idO 10) ?_;refine⟨ad,ha,be,.slice a2 r.length c2,λO J r'=>by rw[aI];exact gF G W r' Y I,ad2,RL,be,.slice a3 r0.length c3,λO J r'=>gF G W r' h3 h4,?_⟩;apply bS<;>intro Po
  .have Po:r.length≠dM M:=λe=>by rw[hc0]at e;rw[e]at Po;simp at Po
   exact rtn W λGE we re=>by rw[j8,aJ (λQp=>Po (Qp r (aG hr)))];rfl
  have heq:r.length=dM M:=by
   have h5:((r.length:Int)==(r0.length:Int))=true:=by simpa using Po
   have:=eq_of_beq h5;omega
  refine inc i ?_;intro I8 w3 r3;refine⟨(i+1,w3),⟨Pk,W.tr r3.cg,λj r' hj WW=>?_⟩,sbgn [] r3,by dsimp only;omega⟩;by_cases Qd:j=i
  .subst Qd;rw[hr]at WW;injection WW with WW;rw[<-WW];exact heq
  .exact Pm j r' (by dsimp only at hj;omega) WW
 have Pk:=dE R Pk;have Qp:∀r∈M,r.length=dM M:=λr hr=>by
  obtain⟨j,hj⟩:=aj hr;exact Pm j r (by rw[Pk];exact(aH.1 hj).1) hj
 have Vr:j8 M=if 60<M.length\/60<dM M then 8 else 0:=by rw[j8,aM Qp]
 replace h:=dQ.cW h λg V=>W.block g (G g V);replace h:=dQ.cU (S':=Cv S w.heap.size []) h λ_ h=>.inl h;apply bS<;>intro Y
 .have Y:60<M.length:=by have:=aK Y;omega
  exact rtn W λGE we re=>by rw[Vr,aM (.inl Y)];rfl
 have Y:¬60<M.length:=by have:=aL Y;omega
 refine cS (cR (GT:=λ_ _ v _=>v=iV (dM M)) (λO J r=>qO (rlo r G) (dQ.rel h r G)) ?_);rintro O wa v1 wb r' L N rfl;replace W:=W.tr N;clear r' L N h;apply bS<;>intro I
 .have I:60<dM M:=by have:=aK I;omega
  exact rtn W λGE we re=>by rw[Vr,aM (.inr I)];rfl
 have I:¬60<dM M:=by have:=aL I;omega
 exact rtn W λGE we re=>by rw[Vr,aJ be];rfl
def jV.len(h:jV w S cs q):cs.length=4:=by obtain⟨_,_,_,_,_,_,_,_,rfl,_⟩:=h;rfl
def Fc(w:World)(S:Nat->Prop)(U:List (List Value))(qs:List Rat):Prop:=U.length=qs.length/\∀(j:Nat) cs q,U[j]? =some cs->qs[j]? =some q->jV w S cs q
section
variable{S S':Nat->Prop}{w F:World}{cs:List Value}{U:List (List Value)}{q:Rat}{qs:List Rat}
def Fc.cW(h:Fc w S U qs)(K:∀g,S g->F.heap[g]? =w.heap[g]?):Fc F S U qs:=⟨h.1,λj cs q Y I=>(h.2 j cs q Y I).cW K⟩
def Fc.cU(h:Fc w S U qs)(K:∀g,S g->S' g):Fc w S' U qs:=⟨h.1,λj cs q Y I=>(h.2 j cs q Y I).cU K⟩
def Fc.oP(h:Fc w S U qs):∀cs∈U,cs.length=4:=λcs hc=>by
 obtain⟨j,hj⟩:=aj hc;have hl:=(aH.1 hj).1;exact(h.2 j cs _ hj (aE (by rw[<-h.1];exact hl))).len
def Fc.one(h:Fc w S U qs):∀u∈U.flatten,u.oneCell'=true:=λu hu=>by
 obtain⟨cs,hc,hu⟩:=List.mem_flatten.1 hu;obtain⟨j,hj⟩:=aj hc;have hl:=(aH.1 hj).1;obtain⟨_,_,_,_,_,_,_,_,rfl,_⟩:=h.2 j cs _ hj (aE (by rw[<-h.1];exact hl));simp at hu;rcases hu with rfl|rfl|rfl|rfl<;>rfl
def Fc.set(h:Fc w S U qs)(hq:jV w S cs q):Fc w S (U.set j cs) (qs.set j q):=by
 refine⟨by simp[h.1],λi c p Y I=>?_⟩;by_cases RQ:j=i
 .subst RQ;have hl:=(aH.1 Y).1;rw[aQ (by simpa using hl)]at Y;rw[aQ (by have:=h.1;simp at hl;omega)]at I;injection Y with Y;injection I with I;subst Y I;exact hq
 .rw[aX RQ]at Y I;exact h.2 i c p Y I
end
def Gr(w:World)(C S:Nat->Prop)(v:Value)(qs:List Rat):Prop:=∃U,fT w C 4 v U.flatten qs.length/\Fc w S U qs
section
variable{C C' S S':Nat->Prop}{H:Hp}{nx:Nat}{iv A:Iv}{B:Nat}{w J F:World}{O:Nat->Sx.eD}{v:Value}{qs:List Rat}
def Gr.cU(h:Gr w C S v qs)(K:∀g,C g->C' g)(TX:∀g,S g->S' g):Gr w C' S' v qs:=by
 obtain⟨U,Y,I⟩:=h;exact⟨U,Y.cU K,I.cU TX⟩
end
def kg(w:World)(S:Nat->Prop)(v:Value)(n:Nat)(qs:List Rat):Prop:=∃U,w.ownsRow 0 T.Rat 4 v n U.flatten/\U.length=n/\Fc w S U qs
section
variable{S S' C:Nat->Prop}{H:Hp}{nx n:Nat}{iv A:Iv}{B:Nat}{w J F:World}{O:Nat->Sx.eD}{v:Value}{qs:List Rat}
def kg.cW(h:kg w S v n qs)(K:∀g,S g\/v.ownBlock=some g->F.heap[g]? =w.heap[g]?):kg F S v n qs:=by
 obtain⟨U,Y,I,h3⟩:=h;exact⟨U,ownsRow.cW Y λg V=>K g (.inr V),I,h3.cW λg V=>K g (.inl V)⟩
def kg.cU(h:kg w S v n qs)(K:∀g,S g->S' g):kg w S' v n qs:=by
 obtain⟨U,Y,I,h3⟩:=h;exact⟨U,Y,I,h3.cU K⟩
def kg.len(h:kg w S v n qs):qs.length=n:=by
 obtain⟨U,Y,I,h3⟩:=h;rw[<-h3.1,I]
def kg.form(h:kg w S v n qs):∃a c,v= .slice a n c/\n<=c:=by
 obtain⟨U,Y,I,h3⟩:=h;exact eZ Y
def kg.le(h:kg w S v n qs):n<=maxLen:=by
 obtain⟨U,Y,I,h3⟩:=h;rcases Y.2 with⟨_,h0⟩|⟨_,_,_,_,_,_,Y,I,_⟩
 .omega
 .omega
def kg.read(h:kg w S v n qs):Gr w (λg=>v.ownBlock=some g) S v qs:=by
 have hl:=h.len;have E:=h.le;obtain⟨U,Y,I,h3⟩:=h;refine⟨U,?_,h3⟩;rw[hl];rcases Y.2 with⟨rfl,rfl⟩|⟨g,cap,cur,rfl,N,hc,SJ,RE,QG,RX⟩
 .refine⟨E,Y.1,h3.one,none,0,rfl,lr,λj u hu=>?_⟩;have:=Y.1;rw[Nat.zero_mul]at this;rw[List.eq_nil_of_length_eq_zero this]at hu
  cases hu
 .refine⟨E,Y.1,h3.one,_,cap,rfl,SJ,λj u hu=>⟨_,rfl,rfl,?_⟩⟩;exact Y.cells (g:=g) rfl j u hu
def kg.store{c n1 c1 n2 c2:Nat}{b b2:Bool}(h:kg w S (.slice a n c) n qs)(hj:j<n)(hf:dH w S (.agg #[.bool b,.slice a1 n1 c1,.bool b2,.slice a2 n2 c2]) q)(Rn:∀g,(Value.slice a n c).ownBlock=some g->¬S g)(G:Old S w):
  ∃g,a=some ⟨g,0,none⟩/\((⟨g,0,none⟩:Addr).add ((j:Int).toNat*4)).spot=none/\((⟨g,0,none⟩:Addr).add ((j:Int).toNat*4)).block=g/\
   (∀k,k<4->(w.cell? (((⟨g,0,none⟩:Addr).add ((j:Int).toNat*4)).add k)).isSome=true/\w.frozen? (((⟨g,0,none⟩:Addr).add ((j:Int).toNat*4)).add k)=false)/\
   ∀F,F=setCells w ((⟨g,0,none⟩:Addr).add ((j:Int).toNat*4)) (rC b a1 n1 c1 b2 a2 n2 c2)->kg F S (.slice a n c) n (qs.set j q)/\w.grownBy F (some g)/\F.heap.size=w.heap.size:=by
 obtain⟨U,Y,I,h3⟩:=h;obtain⟨g,rfl,QK,RC,QR,QG⟩:=ml (nv:=rC b a1 n1 c1 b2 a2 n2 c2) Y rfl hj rfl bv;have QQ:(⟨g,0,none⟩:Addr).add ((j:Int).toNat*4)=⟨g,j*4,none⟩:=by rw[aI,dD,aV]
 refine⟨g,rfl,by rw[QQ],by rw[QQ],λk K=>by rw[QQ];exact QK k K,λF RK=>?_⟩;rw[QQ]at RK;subst RK;have RB:=kX (cs:=rC b a1 n1 c1 b2 a2 n2 c2) h3.oP (show j<U.length by omega);rw[RB]at RC;have Q1:∀x,S x->(setCells w ⟨g,j*4,none⟩ (rC b a1 n1 c1 b2 a2 n2 c2)).heap[x]? =w.heap[x]? :=λx Z=>
  QR.block x (G x Z) λe=>Rn g rfl (by injection e with e;rw[<-e];exact Z)
 exact⟨⟨_,RC,by simpa using I,(h3.cW Q1).set (hf.cW Q1).pG⟩,QR,QG⟩
structure fw(w:World)(S:Nat->Prop)(B:Nat)(iv:Iv)(v:Value)(n:Nat)(qs:List Rat):Prop where
 row:kg w (λg=>Cv S B iv g/\v.ownBlock≠some g) v n qs
 new:∀g,v.ownBlock=some g->Cv FF B iv g
def fw.cW(h:fw w S B iv v n qs)(K:∀g,Cv S B iv g->F.heap[g]? =w.heap[g]?):fw F S B iv v n qs:=
 ⟨h.row.cW λg V=>K g (V.elim (λh=>h.1) λV=>(h.new g V).elim (λh=>h.elim) .inr),h.new⟩
def fw.rel(h:fw w S B iv v n qs)(r:Rel H nx iv B w O J)(G:∀g,S g->g<B):fw J S B iv v n qs:=h.cW λ_ V=>rls r G V
def fw.cV(h:fw w S B iv v n qs)(r:Rel H nx iv B w O J)(G:∀g,S g->g<B)(L:Ext J F)(hm:∀p,p∈iv->p∈A):fw F S B A v n qs:=
 have I:=(h.rel r G).cW λg V=>L.block g (rlo r G g V)
 ⟨I.row.cU λ_ V=>⟨V.1.mono hm,V.2⟩,λg V=>(I.new g V).mono hm⟩
def fw.ef(h:fw F FF J.heap.size [(J.heap.size,F.heap.size)] v n qs)(hB:B<=J.heap.size)(hm:(J.heap.size,F.heap.size)∈iv):fw F S B iv v n qs:=by
 have key:∀g {X:Nat->Prop},Cv FF J.heap.size [(J.heap.size,F.heap.size)] g->Cv X B iv g:=λg X V=>by
  rcases V with V|⟨Y,lo,R,I,h3,h4⟩
  .exact V.elim
  .simp at I;obtain⟨rfl,rfl⟩:=I;exact .inr ⟨be,_,_,hm,h3,h4⟩
 exact⟨h.row.cU λg V=>⟨key g V.1,V.2⟩,λg V=>key g (h.new g V)⟩
def fw.read(h:fw w S B iv v n qs):Gr w (Cv S B iv) (Cv S B iv) v qs:=
 h.row.read.cU (λg V=>(h.new g V).elim (λh=>h.elim) .inr) λ_ V=>V.1
end
section
variable{S S':Nat->Prop}{H:Hp}{nx n:Nat}{iv A:Iv}{B:Nat}{w J F:World}{O:Nat->Sx.eD}{v:Value}{qs:List Rat}
def fw.store{c n1 c1 n2 c2:Nat}{b b2:Bool}(h:fw J S B iv (.slice a n c) n qs)(hj:j<n)(hf:dH J (λg=>Cv S B iv g/\(Value.slice a n c).ownBlock≠some g) (.agg #[.bool b,.slice a1 n1 c1,.bool b2,.slice a2 n2 c2]) q)
  (r:Rel H nx iv B w O J) (G:∀g,S g->g<B):
  ∃g,a=some ⟨g,0,none⟩/\((⟨g,0,none⟩:Addr).add ((j:Int).toNat*4)).spot=none/\
   (∀k,k<4->(J.cell? (((⟨g,0,none⟩:Addr).add ((j:Int).toNat*4)).add k)).isSome=true/\J.frozen? (((⟨g,0,none⟩:Addr).add ((j:Int).toNat*4)).add k)=false)/\
   (∀id b,dT H id=some b->(O id).nil=false->(O id).g≠((⟨g,0,none⟩:Addr).add ((j:Int).toNat*4)).block)/\Cv FF B iv g/\
   ∀F,F=setCells J ((⟨g,0,none⟩:Addr).add ((j:Int).toNat*4)) (rC b a1 n1 c1 b2 a2 n2 c2)->fw F S B iv (.slice a n c) n (qs.set j q)/\J.grownBy F (some g)/\F.heap.size=J.heap.size:=by
 obtain⟨g,rfl,Y,I,h3,h4⟩:=h.row.store hj hf (λg V Z=>Z.2 V) (λx Z=>rlo r G x Z.1);refine⟨g,rfl,Y,h3,λid b N E=>by rw[I];exact Rel.not r G (qL (h.new g rfl)) id b N E,h.new g rfl,λF RK=>?_⟩;obtain⟨k1,k2,k3⟩:=h4 F RK;exact⟨⟨k1,h.new⟩,k2,k3⟩
end
end Go.Ex
namespace Go.Sx
open Go Go.Ex Go.Proofs
variable{cs:List Value}{O:Nat->Sx.eD}
def Sub.Bk{B:Nat}{l tl:Env}{nx:Nat}{H tH:Hp}{iv:Iv}{w J:World}{id t n c:Nat}{e:TypeId}(r:Rel H nx iv B w O J)(RR:dT H id=some (.arr e cs))(ht:fj l t=some (.o (.s id 0 n c)))
  (hs:z7 H tH) (ho:Gx id tH=true) (Y:FA l tl) (I:kN nx tl):
  Sub B l nx O J ⟨(t,.o (.v (.slice (some ⟨(O id).g,0,none⟩) n c)))::tl,tH,nx,((O id).g,(O id).g+1)::iv,J⟩:=by
 refine⟨O,r.free RR ce (r.fits RR).1 hs ho,λu v hv=>?_⟩;rw[ep]at hv;split at hv
 .rename_i e;subst e;injection hv with hv;subst hv;exact⟨trivial,_,ht,rfl⟩
 .exact⟨I.get u v hv,v,Y.get u v hv,rfl⟩
end Go.Sx
