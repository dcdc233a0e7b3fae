/- Texts X63 to X78: lemmas, each with its conditions. -/
import Derived.Test.YtbffinhkognefaaGreatDoorP9
namespace Go.Ex
open Go Go.Sx Go.Proofs
variable{M:List (List Rat)}{Z:List (List Value)}{xs ys:List Rat}{cs:List Value}{S:Nat->Prop}{O:Nat->Sx.eH}{a:Option Addr}{b p q:Rat}{u:Value}{w:World}
def gG(w:World)(S:Nat->Prop)(v:Value)(q:Rat):Prop:=∃b1 l1 b2 l2 a b,v= .agg #[.bool b1,l1,.bool b2,l2]/\fg w S (.agg #[.bool b1,l1]) 100000 a/\fg w S (.agg #[.bool b2,l2]) 100000 b/\ratio a b=q
theorem gG.cX{F:World}{v:Value}(h:gG w S v q)(R:∀g,S g->F.heap[g]? =w.heap[g]?):gG F S v q:=by
 obtain⟨b1,l1,b2,l2,a,b,Y,I,h3,h4⟩:=h;exact⟨b1,l1,b2,l2,a,b,Y,I.cX R,h3.cX R,h4⟩
theorem gG.cV{S':Nat->Prop}{v:Value}(h:gG w S v q)(R:∀g,S g->S' g):gG w S' v q:=by
 obtain⟨b1,l1,b2,l2,a,b,Y,I,h3,h4⟩:=h;exact⟨b1,l1,b2,l2,a,b,Y,I.cV R,h3.cV R,h4⟩
theorem gG.r{v:Value}(h:gG w S v q):∃a b,ky w S v a b/\ratio a b=q:=by
 obtain⟨b1,l1,b2,l2,a,b,rfl,I,h3,h4⟩:=h;exact⟨a,b,⟨b1,l1,b2,l2,rfl,I.r,h3.r⟩,h4⟩
theorem gG.v{v:Value}(h:gG w S v q):aA1 w S v q:=by
 obtain⟨b1,l1,b2,l2,a,b,rfl,I,h3,h4⟩:=h;exact⟨a,b,⟨b1,l1,b2,l2,rfl,I.r,h3.r⟩,h4,I.ln,h3.ln⟩
theorem gG.shape{v:Value}(h:gG w S v q):∃b a n c b2 a2 n2 c2,v= .agg #[.bool b,.slice a n c,.bool b2,.slice a2 n2 c2]:=h.v.shape
theorem gG.rl{v:Value}(h:gG w S v q):rl q<=100000:=by
 obtain⟨b1,l1,b2,l2,a,b,rfl,I,h3,rfl⟩:=h;have:=GD a b;have:=I.ln;have:=h3.ln;omega
theorem dI.l{v:Value}(h:dI w S v q)(hl:rl q<=100000):gG w S v q:=by
 obtain⟨b1,l1,b2,l2,Y,I,h3⟩:=h;exact⟨b1,l1,b2,l2,_,_,Y,I.l (aR (fv q) hl),h3.l (aR (fI q) hl),oA q⟩
theorem NS(a b:Int):rs (ratio a b)=if b.sign<0 then -a.sign else a.sign:=by
 have sb:=gV b;rw[ratio];split
 .rw[aI be,rs,wA bv]
 .split
  .rw[show Rat.divInt a b=Rat.divInt (-a) (-b)from(Rat.neg_divInt_neg a b).symm,rs,wA be,Int.sign_neg]
  .rw[rs,wA be]
theorem kb{a c:Int}:(a.natAbs<1073741824)->(c.natAbs<1073741824)->(a*c).natAbs<=1152921502459363329:=fun Y I=>by
 rw[Int.natAbs_mul];exact Nat.mul_le_mul (show a.natAbs<=1073741823 by omega) (show c.natAbs<=1073741823 by omega)
section
variable{S S':Nat->Prop}{H:Hp}{nx:Nat}{iv K:Iv}{B:Nat}{w J F:World}{O:Nat->Sx.eH}{v:Value}{q:Rat}
theorem gG.rel(h:gG w (Cv S B iv) v q)(r:Rel H nx iv B w O J)(W:∀g,S g->g<B):gG J (Cv S B iv) v q:=h.cX fun _ V=>rls r W V
theorem gG.cS(h:gG w (Cv S B iv) v q)(r:Rel H nx iv B w O J)(W:∀g,S g->g<B)(L:Ext J F)(hm:∀p,p∈iv->p∈K):gG F (Cv S B K) v q:=
 ((h.rel r W).cX fun g V=>L.block g (rlo r W g V)).cV fun _ V=>V.mono hm
end
theorem CG{v:Value}{a b:Int}(W:Old S w)(hp:ky w S v a b):
  eL PG FS.nC #[v] w (eY w fun v' _=>v'=iV (rs (ratio a b))):=by
 have G:=bR w;obtain⟨b1,l1,b2,l2,rfl,ha,S3⟩:=hp;obtain⟨_,a1,n1,c1,e1⟩:=ha.shape;obtain⟨_,a2,n2,c2,e2⟩:=S3.shape;simp only[Value.agg.injEq,Array.mk.injEq,List.cons.injEq,and_true]at e1 e2;obtain⟨_,rfl⟩:=e1;obtain⟨_,rfl⟩:=e2;replace ha:=ha.cV (S':=Cv S w.heap.size []) fun _ h=>.inl h;replace S3:=S3.cV (S':=Cv S w.heap.size []) fun _ h=>.inl h;have hr:=NS a b;have sa:=gV a;refine zA ce ?_;refine cW (cE G (pE (iV b.sign)) (fun O J r=>iM (rlo r W) (S3.rel r W)) ?_);rintro O _ _ _ Pv r L G h_ rfl;replace ha:=ha.cS r W L (mC h_);apply bS<;>intro h
 .have h:=aJ h;rw[aM h]at hr;refine cW (cE G (pE (iV a.sign)) (fun O J r=>iM (rlo r W) (ha.rel r W)) ?_);rintro O Qq v2 QT iv2 r L G h_ rfl;refine⟨-a.sign,wo,?_⟩;exact rtn G fun GE we re=>by rw[hr];rfl
 have h:=aL h;rw[aI h]at hr;refine cW (cE G (pE (iV a.sign)) (fun O J r=>iM (rlo r W) (ha.rel r W)) ?_);rintro O _ _ _ iv2 r L G h_ rfl;exact rtn G fun GE we re=>by rw[hr];rfl
theorem tm{v:Value}(W:Old S w)(hp:dI w S v p):eL PG FS.nC #[v] w (eY w fun v' _=>v'=iV (rs p)):=by
 have:=CG W hp.r;rw[oA]at this;exact this
theorem kL{v:Value}(W:Old S w)(hp:gG w S v p):eL PG FS.nC #[v] w (eY w fun v' _=>v'=iV (rs p)):=by
 obtain⟨a,b,Y,rfl⟩:=hp.r;exact CG W Y
theorem gS{v:Value}(W:Old S w)(hp:gG w S v p):
  eL PG FS.wO #[v] w (eY w fun v' F=>dI F (Nf w F) v' p):=by
 have G:=bR w;obtain⟨b1,l1,b2,l2,a,b,rfl,ha,S3,rfl⟩:=hp;obtain⟨_,a1,n1,c1,e1⟩:=ha.shape;obtain⟨_,a2,n2,c2,e2⟩:=S3.shape;simp only[Value.agg.injEq,Array.mk.injEq,List.cons.injEq,and_true]at e1 e2;obtain⟨_,rfl⟩:=e1;obtain⟨_,rfl⟩:=e2;replace ha:=ha.cV (S':=Cv S w.heap.size []) fun _ h=>.inl h;replace S3:=S3.cV (S':=Cv S w.heap.size []) fun _ h=>.inl h;have sb:=gV b;refine zB ce ?_;refine cW (cU (GT:=fun _ J v F=>v=iV b.sign) (fun O J r=>iM (rlo r W) (S3.rel r W).r) ?_);rintro O QP v1 QL r L A rfl;replace G:=G.tr A;replace ha:=ha.cS (K:=(QP.heap.size,QL.heap.size)::[]) r W L fun x E=>aD _ E;replace S3:=S3.cS (K:=(QP.heap.size,QL.heap.size)::[]) r W L fun x E=>aD _ E;generalize (QP.heap.size,QL.heap.size)::[]=Pv at*
 apply bS<;>intro h
 .have h:b.sign=0:=by simpa using h
  obtain rfl:b=0:=by omega
  rw[show ratio a 0=Rat.divInt a 1 from aM rfl];refine dP (idO 5) ?_;refine cU (GT:=fun _ J v F=>dX F (Nf J F) v (1)) (fun O J r=>mm _ J bv bv) ?_;rintro O Qq v2 QT r L A U;replace G:=G.tr A;replace ha:=ha.cS (K:=(Qq.heap.size,QT.heap.size)::Pv) r W L fun x E=>aD _ E;replace S3:=S3.cS (K:=(Qq.heap.size,QT.heap.size)::Pv) r W L fun x E=>aD _ E;have Y:=U.ep (S:=FF) r.cZ (iv:=(Qq.heap.size,QT.heap.size)::Pv) aF;generalize (Qq.heap.size,QT.heap.size)::Pv=iv2 at*
  obtain⟨A0,A1,A2,A3,rfl⟩:=Y.shape;refine cU (GT:=fun _ J v F=>dI F (Nf J F) v (Rat.divInt a 1)) (fun O J r=>nE (rlo r W) (ha.rel r W) (((Y.rel r oF).l (k:=1) bv).cV fun g V=>Cv.false V) be be bv) ?_;rintro O Qo v3 Qc r L A U;replace G:=G.tr A;replace ha:=ha.cS (K:=(Qo.heap.size,Qc.heap.size)::iv2) r W L fun x E=>aD _ E;replace S3:=S3.cS (K:=(Qo.heap.size,Qc.heap.size)::iv2) r W L fun x E=>aD _ E;replace Y:=Y.cS (K:=(Qo.heap.size,Qc.heap.size)::iv2) r oF L fun x E=>aD _ E;have hR:=U.ep (S:=FF) r.cZ (iv:=(Qo.heap.size,Qc.heap.size)::iv2) aF;generalize (Qo.heap.size,Qc.heap.size)::iv2=Pu at*
  obtain⟨C0,C1,C2,C3,C4,C5,C6,C7,rfl⟩:=hR.shape;exact rtn G fun GE we re=>hR.out re oF
 have h:b.sign≠0:=by simpa using h
 have Tz:b≠0:=by omega
 rw[show ratio a b=Rat.divInt a b from aI Tz];refine cW (cU (GT:=fun _ J v F=>dI F (Nf J F) v (Rat.divInt a b)) (fun O J r=>nE (rlo r W) (ha.rel r W) (S3.rel r W) be be Tz) ?_);rintro O Qq v2 QT r L A U;replace G:=G.tr A;replace ha:=ha.cS (K:=(Qq.heap.size,QT.heap.size)::Pv) r W L fun x E=>aD _ E;replace S3:=S3.cS (K:=(Qq.heap.size,QT.heap.size)::Pv) r W L fun x E=>aD _ E;have hR:=U.ep (S:=FF) r.cZ (iv:=(Qq.heap.size,QT.heap.size)::Pv) aF;generalize (Qq.heap.size,QT.heap.size)::Pv=iv2 at*
 obtain⟨A0,A1,A2,A3,A4,A5,A6,A7,rfl⟩:=hR.shape;exact rtn G fun GE we re=>hR.out re oF
theorem zi{v:Value}(W:Old S w)(hp:gG w S v p):
  eL PG FS.yc #[v] w (eY w fun v' _=>∃n d ok,v'= .tuple #[iV n,iV d,.bool ok]/\(ok=true->d≠0/\n.natAbs<1073741824/\d.natAbs<1073741824/\Rat.divInt n d=p)):=by
 have G:=bR w;obtain⟨b1,l1,b2,l2,a,b,rfl,ha,S3,rfl⟩:=hp;obtain⟨_,a1,n1,c1,e1⟩:=ha.shape;obtain⟨_,a2,n2,c2,e2⟩:=S3.shape;simp only[Value.agg.injEq,Array.mk.injEq,List.cons.injEq,and_true]at e1 e2;obtain⟨_,rfl⟩:=e1;obtain⟨_,rfl⟩:=e2;replace ha:=ha.cV (S':=Cv S w.heap.size []) fun _ h=>.inl h;replace S3:=S3.cV (S':=Cv S w.heap.size []) fun _ h=>.inl h;refine BW ce ?_
 refine cW (cU (GT:=fun _ J v F=>∃n p,v= .tuple #[iV n,.bool p]/\(p=true->n=a/\a.natAbs<1073741824)) (fun O J r=>(pn (rlo r W) (ha.rel r W).r).mono fun e F ⟨v2,e1,e2,e3⟩=>⟨v2,e1,e2,by
   rw[e3,kx];split
   .exact⟨_,_,rfl,fun _=>⟨rfl,‹_›⟩⟩
   .exact⟨_,_,rfl,fun h=>by cases h⟩⟩) ?_)
 rintro O QP v1 QL r L A ⟨na,pa,rfl,qa⟩;replace G:=G.tr A;replace ha:=ha.cS (K:=(QP.heap.size,QL.heap.size)::[]) r W L fun x E=>aD _ E;replace S3:=S3.cS (K:=(QP.heap.size,QL.heap.size)::[]) r W L fun x E=>aD _ E;generalize (QP.heap.size,QL.heap.size)::[]=Pv at*
 refine cW (cU (GT:=fun _ J v F=>∃n p,v= .tuple #[iV n,.bool p]/\(p=true->n=b/\b.natAbs<1073741824)) (fun O J r=>(pn (rlo r W) (S3.rel r W).r).mono fun e F ⟨v2,e1,e2,e3⟩=>⟨v2,e1,e2,by
   rw[e3,kx];split
   .exact⟨_,_,rfl,fun _=>⟨rfl,‹_›⟩⟩
   .exact⟨_,_,rfl,fun h=>by cases h⟩⟩) ?_)
 rintro O Qq v2 QT r L A ⟨nb,pb,rfl,qb⟩;replace G:=G.tr A;replace ha:=ha.cS (K:=(Qq.heap.size,QT.heap.size)::Pv) r W L fun x E=>aD _ E;replace S3:=S3.cS (K:=(Qq.heap.size,QT.heap.size)::Pv) r W L fun x E=>aD _ E;generalize (Qq.heap.size,QT.heap.size)::Pv=iv2 at*
 apply bS<;>intro h
 .have h:nb=0:=by simpa using h
  apply bS<;>intro Y
  .intro GE we re
   exact⟨_,rfl,G.tr re.cj,⟨na,1,pb,rfl,fun I=>by
     obtain⟨rfl,E⟩:=qa Y;obtain⟨rfl,hy⟩:=qb I;rw[h]
     exact⟨bv,E,bv,(aM rfl).symm⟩⟩⟩
  exact rtn G fun GE we re=>⟨na,1,false,rfl,fun I=>by cases I⟩
 have h:nb≠0:=by simpa using h
 apply bS<;>intro Y
 .intro GE we re
  exact⟨_,rfl,G.tr re.cj,⟨na,nb,pb,rfl,fun I=>by
    obtain⟨rfl,E⟩:=qa Y;obtain⟨rfl,hy⟩:=qb I
    exact⟨h,E,hy,(aI h).symm⟩⟩⟩
 exact rtn G fun GE we re=>⟨na,nb,false,rfl,fun I=>by cases I⟩
theorem FD{v:Value}(W:Old S w)(hp:gG w S v p)(hq:gG w S u q):
  eL PG FS.D4 #[v,u] w (eY w fun v' F=>dI F (Nf w F) v' (p+q)):=by
 have G:=bR w;replace hp:=hp.cV (S':=Cv S w.heap.size []) fun _ h=>.inl h;replace hq:=hq.cV (S':=Cv S w.heap.size []) fun _ h=>.inl h;obtain⟨b1,a1,n1,c1,b2,a2,n2,c2,rfl⟩:=hp.shape;obtain⟨b3,a3,n3,c3,b4,a4,n4,c4,rfl⟩:=hq.shape;refine Ec ce ?_;have r1:=hp.rl;have r2:=hq.rl;have u1:=fv p;have u2:=fI p;have u3:=fv q;have u4:=fI q;refine cW (cE G (fun _ J v F=>∃n d ok,v= .tuple #[iV n,iV d,.bool ok]/\(ok=true->d≠0/\n.natAbs<1073741824/\d.natAbs<1073741824/\Rat.divInt n d=p)) (fun O J r=>zi (rlo r W) (hp.rel r W)) ?_);rintro O _ _ _ Pv r L G h_ ⟨a,b,k1,rfl,g1⟩;replace hp:=hp.cS r W L (mC h_);replace hq:=hq.cS r W L (mC h_);refine cW (cE G (fun _ J v F=>∃n d ok,v= .tuple #[iV n,iV d,.bool ok]/\(ok=true->d≠0/\n.natAbs<1073741824/\d.natAbs<1073741824/\Rat.divInt n d=q)) (fun O J r=>zi (rlo r W) (hq.rel r W)) ?_);rintro O _ _ _ iv2 r L G h_ ⟨c,d,k2,rfl,g2⟩;replace hp:=hp.cS r W L (mC h_);replace hq:=hq.cS r W L (mC h_);apply bS<;>intro Y
 .apply bS<;>intro I
  .obtain⟨g3,g4,g5,g6⟩:=g1 Y;obtain⟨g7,g8,g9,g10⟩:=g2 I;have i1:=kb g4 g9;have i2:=kb g8 g5;have i3:=kb g5 g9;have i4:=kb g4 g8;refine⟨a*d,wo,c*b,wo,a*d+c*b,wo,b*d,wo,?_⟩;have e:=Rat.divInt_add_divInt a c g3 g7;rw[g6,g10]at e;refine cW (cE G (pR dI (p+q)) (fun O J r=>e▸tj (a*d+c*b) (b*d) J be be (lL g3 g7)) ?_);rintro O Qo v3 Qc Pu r L G h_ U;have hR:=U.cV (nw r h_);obtain⟨A0,A1,A2,A3,A4,A5,A6,A7,rfl⟩:=hR.shape;exact rtn G fun GE we re=>hR.out re oF
  refine dP [.x 0,.x 2,.x 1,.x 3,.x 4,.x 5] ?_;refine cE G (pR dI (p)) (fun O J r=>gS (rlo r W) (hp.rel r W)) ?_;rintro O Qo v3 Qc Pu r L G h_ U;replace hq:=hq.cS r W L (mC h_);have hX:=U.cV (nw r h_);obtain⟨A0,A1,A2,A3,A4,A5,A6,A7,rfl⟩:=hX.shape;refine cE G (pR dI (q)) (fun O J r=>gS (rlo r W) (hq.rel r W)) ?_;rintro O Rl v4 R4 QD r L G h_ U;replace hX:=hX.cS r oF L (mC h_);have hY:=U.cV (nw r h_);obtain⟨C0,C1,C2,C3,C4,C5,C6,C7,rfl⟩:=hY.shape;have SN:=hX.num;have Rh:=hX.den;have SO:=hY.num;have SP:=hY.den;have m0:=dQ p.num q.den;have m1:=dQ q.num p.den;have m2:=dQ (p.den:Int) q.den;have m3:=jY (p.num*q.den) (q.num*p.den);have m4:=dQ p.num q.num;refine dP [.x 0,.x 1,.x 2,.x 3,.x 5,.x 6,.x 7,.x 8,.x 11,.x 12,.x 13,.x 14,.x 4,.x 9,.x 10,.x 15,.x 16,.x 17] ?_;refine cE G (pR dX (p.num*(q.den:Int))) (fun O J r=>jF (rlo r oF) ((SN.rel r oF).l (k:=100000) be) ((SP.rel r oF).l (k:=100000) be) be be) ?_;rintro O Vs v5 VP QH r L G h_ U;replace SN:=SN.cS r oF L (mC h_);replace Rh:=Rh.cS r oF L (mC h_);replace SO:=SO.cS r oF L (mC h_);replace SP:=SP.cS r oF L (mC h_);have hA:=U.cV (nw r h_);obtain⟨E0,E1,E2,E3,rfl⟩:=hA.shape;refine cE G (pR dX (q.num*(p.den:Int))) (fun O J r=>jF (rlo r oF) ((SO.rel r oF).l (k:=100000) be) ((Rh.rel r oF).l (k:=100000) be) be be) ?_;rintro O VQ v6 VR Qe r L G h_ U;replace SN:=SN.cS r oF L (mC h_);replace Rh:=Rh.cS r oF L (mC h_);replace SO:=SO.cS r oF L (mC h_);replace SP:=SP.cS r oF L (mC h_);replace hA:=hA.cS r oF L (mC h_);have hB:=U.cV (nw r h_);obtain⟨F0,F1,F2,F3,rfl⟩:=hB.shape;refine cE G (pR dX (p.num*(q.den:Int)+q.num*(p.den:Int))) (fun O J r=>CE (rlo r oF) ((hA.rel r oF).l (k:=200000) be) ((hB.rel r oF).l (k:=200000) be) be be) ?_;rintro O Wy v7 Wz RS r L G h_ U;replace SN:=SN.cS r oF L (mC h_);replace Rh:=Rh.cS r oF L (mC h_);replace SO:=SO.cS r oF L (mC h_);replace SP:=SP.cS r oF L (mC h_);have hN:=U.cV (nw r h_);obtain⟨G0,G1,G2,G3,rfl⟩:=hN.shape;refine cE G (pR dX ((p.den:Int)*(q.den:Int))) (fun O J r=>jF (rlo r oF) ((Rh.rel r oF).l (k:=100000) be) ((SP.rel r oF).l (k:=100000) be) be be) ?_;rintro O wa8 v8 wb8 Sw r L G h_ U;replace SN:=SN.cS r oF L (mC h_);replace Rh:=Rh.cS r oF L (mC h_);replace SO:=SO.cS r oF L (mC h_);replace SP:=SP.cS r oF L (mC h_);replace hN:=hN.cS r oF L (mC h_);have hD:=U.cV (nw r h_);obtain⟨I0,I1,I2,I3,rfl⟩:=hD.shape;refine cE G (pR dI (p+q)) (fun O J r=>(vz p q)▸nE (rlo r oF) ((hN.rel r oF).l (k:=200001) be) ((hD.rel r oF).l (k:=200001) be) be be (lL (gg p) (gg q))) ?_;rintro O UB v9 UC VE r L G h_ U;have hR:=U.cV (nw r h_);obtain⟨J0,J1,J2,J3,J4,J5,J6,J7,rfl⟩:=hR.shape;exact rtn G fun GE we re=>hR.out re oF
 refine dP [.x 0,.x 2,.x 1,.x 3,.x 4,.x 5] ?_;refine cE G (pR dI (p)) (fun O J r=>gS (rlo r W) (hp.rel r W)) ?_;rintro O _ _ _ Pu r L G h_ U;replace hq:=hq.cS r W L (mC h_);have hX:=U.cV (nw r h_);obtain⟨A0,A1,A2,A3,A4,A5,A6,A7,rfl⟩:=hX.shape;refine cE G (pR dI (q)) (fun O J r=>gS (rlo r W) (hq.rel r W)) ?_;rintro O _ _ _ QD r L G h_ U;replace hX:=hX.cS r oF L (mC h_);have hY:=U.cV (nw r h_);obtain⟨C0,C1,C2,C3,C4,C5,C6,C7,rfl⟩:=hY.shape;have SN:=hX.num;have Rh:=hX.den;have SO:=hY.num;have SP:=hY.den;have m0:=dQ p.num q.den;have m1:=dQ q.num p.den;have m2:=dQ (p.den:Int) q.den;have m3:=jY (p.num*q.den) (q.num*p.den);have m4:=dQ p.num q.num;refine dP [.x 0,.x 1,.x 2,.x 3,.x 5,.x 6,.x 7,.x 8,.x 11,.x 12,.x 13,.x 14,.x 4,.x 9,.x 10,.x 15,.x 16,.x 17] ?_;refine cE G (pR dX (p.num*(q.den:Int))) (fun O J r=>jF (rlo r oF) ((SN.rel r oF).l (k:=100000) be) ((SP.rel r oF).l (k:=100000) be) be be) ?_;rintro O _ _ _ QH r L G h_ U;replace SN:=SN.cS r oF L (mC h_);replace Rh:=Rh.cS r oF L (mC h_);replace SO:=SO.cS r oF L (mC h_);replace SP:=SP.cS r oF L (mC h_);have hA:=U.cV (nw r h_);obtain⟨E0,E1,E2,E3,rfl⟩:=hA.shape;refine cE G (pR dX (q.num*(p.den:Int))) (fun O J r=>jF (rlo r oF) ((SO.rel r oF).l (k:=100000) be) ((Rh.rel r oF).l (k:=100000) be) be be) ?_;rintro O _ _ _ Qe r L G h_ U;replace SN:=SN.cS r oF L (mC h_);replace Rh:=Rh.cS r oF L (mC h_);replace SO:=SO.cS r oF L (mC h_);replace SP:=SP.cS r oF L (mC h_);replace hA:=hA.cS r oF L (mC h_);have hB:=U.cV (nw r h_);obtain⟨F0,F1,F2,F3,rfl⟩:=hB.shape;refine cE G (pR dX (p.num*(q.den:Int)+q.num*(p.den:Int))) (fun O J r=>CE (rlo r oF) ((hA.rel r oF).l (k:=200000) be) ((hB.rel r oF).l (k:=200000) be) be be) ?_;rintro O _ _ _ RS r L G h_ U;replace SN:=SN.cS r oF L (mC h_);replace Rh:=Rh.cS r oF L (mC h_);replace SO:=SO.cS r oF L (mC h_);replace SP:=SP.cS r oF L (mC h_);have hN:=U.cV (nw r h_);obtain⟨G0,G1,G2,G3,rfl⟩:=hN.shape;refine cE G (pR dX ((p.den:Int)*(q.den:Int))) (fun O J r=>jF (rlo r oF) ((Rh.rel r oF).l (k:=100000) be) ((SP.rel r oF).l (k:=100000) be) be be) ?_;rintro O _ _ _ Sw r L G h_ U;replace SN:=SN.cS r oF L (mC h_);replace Rh:=Rh.cS r oF L (mC h_);replace SO:=SO.cS r oF L (mC h_);replace SP:=SP.cS r oF L (mC h_);replace hN:=hN.cS r oF L (mC h_);have hD:=U.cV (nw r h_);obtain⟨I0,I1,I2,I3,rfl⟩:=hD.shape;refine cE G (pR dI (p+q)) (fun O J r=>(vz p q)▸nE (rlo r oF) ((hN.rel r oF).l (k:=200001) be) ((hD.rel r oF).l (k:=200001) be) be be (lL (gg p) (gg q))) ?_;rintro O _ _ _ VE r L G h_ U;have hR:=U.cV (nw r h_);obtain⟨J0,J1,J2,J3,J4,J5,J6,J7,rfl⟩:=hR.shape;exact rtn G fun GE we re=>hR.out re oF
theorem FE{v:Value}(W:Old S w)(hp:gG w S v p)(hq:gG w S u q):
  eL PG FS.D5 #[v,u] w (eY w fun v' F=>dI F (Nf w F) v' (p*q)):=by
 have G:=bR w;replace hp:=hp.cV (S':=Cv S w.heap.size []) fun _ h=>.inl h;replace hq:=hq.cV (S':=Cv S w.heap.size []) fun _ h=>.inl h;obtain⟨b1,a1,n1,c1,b2,a2,n2,c2,rfl⟩:=hp.shape;obtain⟨b3,a3,n3,c3,b4,a4,n4,c4,rfl⟩:=hq.shape;refine Ed ce ?_;have r1:=hp.rl;have r2:=hq.rl;have u1:=fv p;have u2:=fI p;have u3:=fv q;have u4:=fI q;refine cW (cE G (fun _ J v F=>∃n d ok,v= .tuple #[iV n,iV d,.bool ok]/\(ok=true->d≠0/\n.natAbs<1073741824/\d.natAbs<1073741824/\Rat.divInt n d=p)) (fun O J r=>zi (rlo r W) (hp.rel r W)) ?_);rintro O _ _ _ Pv r L G h_ ⟨a,b,k1,rfl,g1⟩;replace hp:=hp.cS r W L (mC h_);replace hq:=hq.cS r W L (mC h_);refine cW (cE G (fun _ J v F=>∃n d ok,v= .tuple #[iV n,iV d,.bool ok]/\(ok=true->d≠0/\n.natAbs<1073741824/\d.natAbs<1073741824/\Rat.divInt n d=q)) (fun O J r=>zi (rlo r W) (hq.rel r W)) ?_);rintro O _ _ _ iv2 r L G h_ ⟨c,d,k2,rfl,g2⟩;replace hp:=hp.cS r W L (mC h_);replace hq:=hq.cS r W L (mC h_);apply bS<;>intro Y
 .apply bS<;>intro I
  .obtain⟨g3,g4,g5,g6⟩:=g1 Y;obtain⟨g7,g8,g9,g10⟩:=g2 I;have i1:=kb g4 g9;have i2:=kb g8 g5;have i3:=kb g5 g9;have i4:=kb g4 g8;refine⟨a*c,wo,b*d,wo,?_⟩;have e:=Rat.divInt_mul_divInt a c (d₁:=b) (d₂:=d);rw[g6,g10]at e;refine cW (cE G (pR dI (p*q)) (fun O J r=>e▸tj (a*c) (b*d) J be be (lL g3 g7)) ?_);rintro O Qo v3 Qc Pu r L G h_ U;have hR:=U.cV (nw r h_);obtain⟨A0,A1,A2,A3,A4,A5,A6,A7,rfl⟩:=hR.shape;exact rtn G fun GE we re=>hR.out re oF
  refine dP [.x 0,.x 2,.x 1,.x 3,.x 4,.x 5] ?_;refine cE G (pR dI (p)) (fun O J r=>gS (rlo r W) (hp.rel r W)) ?_;rintro O Qo v3 Qc Pu r L G h_ U;replace hq:=hq.cS r W L (mC h_);have hX:=U.cV (nw r h_);obtain⟨A0,A1,A2,A3,A4,A5,A6,A7,rfl⟩:=hX.shape;refine cE G (pR dI (q)) (fun O J r=>gS (rlo r W) (hq.rel r W)) ?_;rintro O Rl v4 R4 QD r L G h_ U;replace hX:=hX.cS r oF L (mC h_);have hY:=U.cV (nw r h_);obtain⟨C0,C1,C2,C3,C4,C5,C6,C7,rfl⟩:=hY.shape;have SN:=hX.num;have Rh:=hX.den;have SO:=hY.num;have SP:=hY.den;have m0:=dQ p.num q.den;have m1:=dQ q.num p.den;have m2:=dQ (p.den:Int) q.den;have m3:=jY (p.num*q.den) (q.num*p.den);have m4:=dQ p.num q.num;refine dP [.x 0,.x 1,.x 2,.x 3,.x 5,.x 6,.x 7,.x 8,.x 4,.x 9,.x 10,.x 11] ?_;refine cE G (pR dX (p.num*q.num)) (fun O J r=>jF (rlo r oF) ((SN.rel r oF).l (k:=100000) be) ((SO.rel r oF).l (k:=100000) be) be be) ?_;rintro O Vs v5 VP QH r L G h_ U;replace SN:=SN.cS r oF L (mC h_);replace Rh:=Rh.cS r oF L (mC h_);replace SO:=SO.cS r oF L (mC h_);replace SP:=SP.cS r oF L (mC h_);have hN:=U.cV (nw r h_);obtain⟨E0,E1,E2,E3,rfl⟩:=hN.shape;refine cE G (pR dX ((p.den:Int)*(q.den:Int))) (fun O J r=>jF (rlo r oF) ((Rh.rel r oF).l (k:=100000) be) ((SP.rel r oF).l (k:=100000) be) be be) ?_;rintro O VQ v6 VR Qe r L G h_ U;replace SN:=SN.cS r oF L (mC h_);replace Rh:=Rh.cS r oF L (mC h_);replace SO:=SO.cS r oF L (mC h_);replace SP:=SP.cS r oF L (mC h_);replace hN:=hN.cS r oF L (mC h_);have hD:=U.cV (nw r h_);obtain⟨F0,F1,F2,F3,rfl⟩:=hD.shape;refine cE G (pR dI (p*q)) (fun O J r=>(z3 p q)▸nE (rlo r oF) ((hN.rel r oF).l (k:=200001) be) ((hD.rel r oF).l (k:=200001) be) be be (lL (gg p) (gg q))) ?_;rintro O Wy v7 Wz RS r L G h_ U;have hR:=U.cV (nw r h_);obtain⟨G0,G1,G2,G3,G4,G5,G6,G7,rfl⟩:=hR.shape;exact rtn G fun GE we re=>hR.out re oF
 refine dP [.x 0,.x 2,.x 1,.x 3,.x 4,.x 5] ?_;refine cE G (pR dI (p)) (fun O J r=>gS (rlo r W) (hp.rel r W)) ?_;rintro O _ _ _ Pu r L G h_ U;replace hq:=hq.cS r W L (mC h_);have hX:=U.cV (nw r h_);obtain⟨A0,A1,A2,A3,A4,A5,A6,A7,rfl⟩:=hX.shape;refine cE G (pR dI (q)) (fun O J r=>gS (rlo r W) (hq.rel r W)) ?_;rintro O _ _ _ QD r L G h_ U;replace hX:=hX.cS r oF L (mC h_);have hY:=U.cV (nw r h_);obtain⟨C0,C1,C2,C3,C4,C5,C6,C7,rfl⟩:=hY.shape;have SN:=hX.num;have Rh:=hX.den;have SO:=hY.num;have SP:=hY.den;have m0:=dQ p.num q.den;have m1:=dQ q.num p.den;have m2:=dQ (p.den:Int) q.den;have m3:=jY (p.num*q.den) (q.num*p.den);have m4:=dQ p.num q.num;refine dP [.x 0,.x 1,.x 2,.x 3,.x 5,.x 6,.x 7,.x 8,.x 4,.x 9,.x 10,.x 11] ?_;refine cE G (pR dX (p.num*q.num)) (fun O J r=>jF (rlo r oF) ((SN.rel r oF).l (k:=100000) be) ((SO.rel r oF).l (k:=100000) be) be be) ?_;rintro O _ _ _ QH r L G h_ U;replace SN:=SN.cS r oF L (mC h_);replace Rh:=Rh.cS r oF L (mC h_);replace SO:=SO.cS r oF L (mC h_);replace SP:=SP.cS r oF L (mC h_);have hN:=U.cV (nw r h_);obtain⟨E0,E1,E2,E3,rfl⟩:=hN.shape;refine cE G (pR dX ((p.den:Int)*(q.den:Int))) (fun O J r=>jF (rlo r oF) ((Rh.rel r oF).l (k:=100000) be) ((SP.rel r oF).l (k:=100000) be) be be) ?_;rintro O _ _ _ Qe r L G h_ U;replace SN:=SN.cS r oF L (mC h_);replace Rh:=Rh.cS r oF L (mC h_);replace SO:=SO.cS r oF L (mC h_);replace SP:=SP.cS r oF L (mC h_);replace hN:=hN.cS r oF L (mC h_);have hD:=U.cV (nw r h_);obtain⟨F0,F1,F2,F3,rfl⟩:=hD.shape;refine cE G (pR dI (p*q)) (fun O J r=>(z3 p q)▸nE (rlo r oF) ((hN.rel r oF).l (k:=200001) be) ((hD.rel r oF).l (k:=200001) be) be be (lL (gg p) (gg q))) ?_;rintro O _ _ _ RS r L G h_ U;have hR:=U.cV (nw r h_);obtain⟨G0,G1,G2,G3,G4,G5,G6,G7,rfl⟩:=hR.shape;exact rtn G fun GE we re=>hR.out re oF
theorem NT{v:Value}(W:Old S w)(hp:gG w S v p):
  eL PG FS.DY #[v] w (eY w fun v' F=>dI F (Nf w F) v' (-p)):=by
 have G:=bR w;replace hp:=hp.cV (S':=Cv S w.heap.size []) fun _ h=>.inl h;obtain⟨b1,a1,n1,c1,b2,a2,n2,c2,rfl⟩:=hp.shape;refine EZ ce ?_;have r1:=hp.rl;have u1:=fv p;have u2:=fI p;refine cW (cE G (pR dI (p)) (fun O J r=>gS (rlo r W) (hp.rel r W)) ?_);rintro O _ _ _ Pv r L G h_ U;have hX:=U.cV (nw r h_);obtain⟨A0,A1,A2,A3,A4,A5,A6,A7,rfl⟩:=hX.shape;have SN:=hX.num;have Rh:=hX.den;refine dP [.x 0,.x 1,.x 3,.x 4,.x 2,.x 5,.x 6] ?_;refine cE G (pR dX (-p.num)) (fun O J r=>oC (rlo r oF) ((SN.rel r oF).l (k:=100000) be) be) ?_;rintro O _ _ _ iv2 r L G h_ U;replace Rh:=Rh.cS r oF L (mC h_);have hN:=U.cV (nw r h_);obtain⟨C0,C1,C2,C3,rfl⟩:=hN.shape;refine cE G (pR dI (-p)) (fun O J r=>show eL _ _ _ _ (eY _ fun v F=>dI F _ v (-p))from(show Rat.divInt (-p.num) p.den= -p by rw[<-Rat.neg_divInt,Rat.num_divInt_den])▸nE (rlo r oF) ((hN.rel r oF).l (k:=100000) (by rw[cQ];omega)) ((Rh.rel r oF).l (k:=100000) be) be be (gg p)) ?_;rintro O _ _ _ Pu r L G h_ U;have hR:=U.cV (nw r h_);obtain⟨E0,E1,E2,E3,E4,E5,E6,E7,rfl⟩:=hR.shape;exact rtn G fun GE we re=>hR.out re oF
theorem aA3{v:Value}(W:Old S w)(hp:gG w S v p)(hq:gG w S u q):
  eL PG FS.D3 #[v,u] w (eY w fun v' F=>dI F (Nf w F) v' (p-q)):=by
 have G:=bR w;replace hp:=hp.cV (S':=Cv S w.heap.size []) fun _ h=>.inl h;replace hq:=hq.cV (S':=Cv S w.heap.size []) fun _ h=>.inl h;obtain⟨b1,a1,n1,c1,b2,a2,n2,c2,rfl⟩:=hp.shape;obtain⟨b3,a3,n3,c3,b4,a4,n4,c4,rfl⟩:=hq.shape;refine Eb ce ?_;have r1:=hp.rl;have r2:=hq.rl;have u1:=kj q;refine dP (idO 5) ?_;refine cE G (pR dI (-q)) (fun O J r=>NT (rlo r W) (hq.rel r W)) ?_;rintro O _ _ _ Pv r L G h_ U;replace hp:=hp.cS r W L (mC h_);have hN:=U.cV (nw r h_);obtain⟨A0,A1,A2,A3,A4,A5,A6,A7,rfl⟩:=hN.shape;refine cE G (pR dI (p-q)) (fun O J r=>(Rat.sub_eq_add_neg p q)▸FD (rlo r W) (hp.rel r W) (((hN.rel r oF).l be).cV fun g V=>Cv.false V)) ?_;rintro O _ _ _ iv2 r L G h_ U;have hR:=U.cV (nw r h_);obtain⟨C0,C1,C2,C3,C4,C5,C6,C7,rfl⟩:=hR.shape;exact rtn G fun GE we re=>hR.out re oF
theorem Bs{v:Value}(W:Old S w)(hp:gG w S v p)(hq:gG w S u q):
  eL PG FS.DX #[v,u] w (eY w fun v' _=>v'=iV (rs (p-q))):=by
 have G:=bR w;replace hp:=hp.cV (S':=Cv S w.heap.size []) fun _ h=>.inl h;replace hq:=hq.cV (S':=Cv S w.heap.size []) fun _ h=>.inl h;obtain⟨b1,a1,n1,c1,b2,a2,n2,c2,rfl⟩:=hp.shape;obtain⟨b3,a3,n3,c3,b4,a4,n4,c4,rfl⟩:=hq.shape;refine EY ce ?_;refine cW (cE G (pR dI (p-q)) (fun O J r=>aA3 (rlo r W) (hp.rel r W) (hq.rel r W)) ?_);rintro O _ _ _ Pv r L G h_ U;have hR:=U.cV (nw r h_);obtain⟨A0,A1,A2,A3,A4,A5,A6,A7,rfl⟩:=hR.shape;refine cW (cE G (pE (iV (rs (p-q)))) (fun O J r=>tm (rlo r oF) (hR.rel r oF)) ?_);rintro O _ _ _ iv2 r L G h_ rfl;exact rtn G fun GE we re=>rfl
theorem aA4{v:Value}(W:Old S w)(hp:gG w S v p)(hq:gG w S u q):
  eL PG FS.xX #[v,u] w (eY w fun v' F=>(q=0/\v'= .tuple #[Ms,iV 9])\/(q≠0/\∃r,v'= .tuple #[r,iV 0]/\dI F (Nf w F) r (p / q))):=by
 have G:=bR w;replace hp:=hp.cV (S':=Cv S w.heap.size []) fun _ h=>.inl h;replace hq:=hq.cV (S':=Cv S w.heap.size []) fun _ h=>.inl h;obtain⟨b1,a1,n1,c1,b2,a2,n2,c2,rfl⟩:=hp.shape;obtain⟨b3,a3,n3,c3,b4,a4,n4,c4,rfl⟩:=hq.shape;refine Eg ce ?_;have r1:=hp.rl;have r2:=hq.rl;have u1:=fv p;have u2:=fI p;have u3:=fv q;have u4:=fI q;have m0:=dQ p.num q.den;have m1:=dQ (p.den:Int) q.num;refine dP [.x 0,.x 2,.x 1,.x 3,.x 4,.x 5] ?_;refine cE G (pR dI (p)) (fun O J r=>gS (rlo r W) (hp.rel r W)) ?_;rintro O _ _ _ Pv r L G h_ U;replace hq:=hq.cS r W L (mC h_);have hX:=U.cV (nw r h_);obtain⟨A0,A1,A2,A3,A4,A5,A6,A7,rfl⟩:=hX.shape;refine cE G (pR dI (q)) (fun O J r=>gS (rlo r W) (hq.rel r W)) ?_;rintro O _ _ _ iv2 r L G h_ U;replace hX:=hX.cS r oF L (mC h_);have hY:=U.cV (nw r h_);obtain⟨C0,C1,C2,C3,C4,C5,C6,C7,rfl⟩:=hY.shape;refine cW (cE G (pE (iV (rs q))) (fun O J r=>tm (rlo r oF) (hY.rel r oF)) ?_);rintro O _ _ _ Pu r L G h_ rfl;replace hX:=hX.cS r oF L (mC h_);replace hY:=hY.cS r oF L (mC h_);apply bS<;>intro h
 .have h:rs q=0:=by simpa using h
  exact rtn G fun GE we re=>.inl ⟨gL.1 h,rfl⟩
 have h:q≠0:=fun e=>by rw[e]at h;exact absurd h bv
 have hqn:q.num≠0:=fun e=>h (Rat.num_eq_zero.1 e);have SN:=hX.num;have Rh:=hX.den;have SO:=hY.num;have SP:=hY.den;refine dP [.x 0,.x 1,.x 2,.x 3,.x 5,.x 6,.x 7,.x 8,.x 4,.x 9,.x 10,.x 11,.x 12] ?_;refine cE G (pR dX (p.num*(q.den:Int))) (fun O J r=>jF (rlo r oF) ((SN.rel r oF).l (k:=100000) be) ((SP.rel r oF).l (k:=100000) be) be be) ?_;rintro O _ _ _ QD r L G h_ U;replace Rh:=Rh.cS r oF L (mC h_);replace SO:=SO.cS r oF L (mC h_);have hN:=U.cV (nw r h_);obtain⟨E0,E1,E2,E3,rfl⟩:=hN.shape;refine cE G (pR dX ((p.den:Int)*q.num)) (fun O J r=>jF (rlo r oF) ((Rh.rel r oF).l (k:=100000) be) ((SO.rel r oF).l (k:=100000) be) be be) ?_;rintro O _ _ _ QH r L G h_ U;replace hN:=hN.cS r oF L (mC h_);have hD:=U.cV (nw r h_);obtain⟨F0,F1,F2,F3,rfl⟩:=hD.shape;refine cE G (pR dI (p / q)) (fun O J r=>(EL p q)▸nE (rlo r oF) ((hN.rel r oF).l (k:=200001) be) ((hD.rel r oF).l (k:=200001) be) be be (lL (gg p) hqn)) ?_;rintro O _ _ _ Qe r L G h_ U;have hR:=U.cV (nw r h_);obtain⟨G0,G1,G2,G3,G4,G5,G6,G7,rfl⟩:=hR.shape;exact rtn G fun GE we re=>.inr ⟨h,_,rfl,hR.out re oF⟩
theorem mJ(n:Int)(w:World)(h1n: -9223372036854775808<=n)(h2n:n<=9223372036854775807):
  eL PG FS.sN #[iV n] w (eY w fun v' F=>dI F (Nf w F) v' (n:Rat)):=by
 have G:=bR w;have ha:=xC h1n h2n;refine sY ce ?_;refine cW (cE G (pR dX (n)) (fun O J r=>mm n J h1n h2n) ?_);rintro O _ _ _ Pv r L G h_ U;have hA:=U.cV (nw r h_);obtain⟨A0,A1,A2,A3,rfl⟩:=hA.shape;refine cW (cE G (pR dX (1)) (fun O J r=>mm 1 J bv bv) ?_);rintro O _ _ _ iv2 r L G h_ U;replace hA:=hA.cS r oF L (mC h_);have hB:=U.cV (nw r h_);obtain⟨C0,C1,C2,C3,rfl⟩:=hB.shape;refine cW (cE G (pR dI ((n:Rat))) (fun O J r=>(By n)▸nE (rlo r oF) ((hA.rel r oF).l (k:=2) be) ((hB.rel r oF).l (k:=2) bv) be be bv) ?_);rintro O _ _ _ Pu r L G h_ U;have hR:=U.cV (nw r h_);obtain⟨E0,E1,E2,E3,E4,E5,E6,E7,rfl⟩:=hR.shape;exact rtn G fun GE we re=>hR.out re oF
section
variable{S S':Nat->Prop}{H:Hp}{nx:Nat}{iv K:Iv}{B:Nat}{w J F:World}{O:Nat->Sx.eH}{v:Value}{a:Int}{b:Int}
end
theorem jg.short{b:Bool}{n c k:Nat}{z:Int}(h:jg w S (.agg #[.bool b,.slice a n c]) z)(R:n<=k):fg w S (.agg #[.bool b,.slice a n c]) k z:=by
 obtain⟨b2,ls,⟨lv,e1,h3⟩,I⟩:=h;obtain⟨a2,c2,e2,_⟩:=h3.sl;subst e2;simp only[Value.agg.injEq,Array.mk.injEq,List.cons.injEq,Value.bool.injEq,Value.slice.injEq,and_true]at e1;obtain⟨rfl,rfl,e3,rfl⟩:=e1;exact⟨_,ls,⟨_,by rw[e3],h3⟩,I,be⟩
theorem ky.aA5{b1 b2:Bool}{a1 a2:Option Addr}{n1 n2 c1 c2:Nat}{a b:Int}(h:ky w S (.agg #[.bool b1,.slice a1 n1 c1,.bool b2,.slice a2 n2 c2]) a b)(k1:n1<=3)(k2:n2<=3):
  gG w S (.agg #[.bool b1,.slice a1 n1 c1,.bool b2,.slice a2 n2 c2]) (ratio a b)/\rl (ratio a b)<=3:=by
 obtain⟨b1,l1,b2,l2,e,Y,I⟩:=h;simp only[Value.agg.injEq,Array.mk.injEq,List.cons.injEq,Value.bool.injEq,and_true]at e;obtain⟨rfl,rfl,rfl,rfl⟩:=e;have i1:=Y.short k1;have i2:=I.short k2;have q1:=i1.ln;have q2:=i2.ln;have q3:=GD a b;exact⟨⟨_,_,_,_,a,b,rfl,i1.up be,i2.up be,rfl⟩,be⟩
def uS(w:World)(S:Nat->Prop)(cs:List Value)(q:Rat):Prop:=∃b a n c b2 a2 n2 c2,cs=(rC b a n c b2 a2 n2 c2)/\gG w S (.agg #[.bool b,.slice a n c,.bool b2,.slice a2 n2 c2]) q
abbrev dC:=dN uS
abbrev dS:=dH dC
section
variable{S S':Nat->Prop}{H:Hp}{nx:Nat}{iv K:Iv}{B:Nat}{w J F:World}{O:Nat->Sx.eH}{v:Value}{qs:List Rat}{cs:List Value}{q:Rat}
theorem uS.cX(h:uS w S cs q)(R:∀g,S g->F.heap[g]? =w.heap[g]?):uS F S cs q:=by
 obtain⟨b,a,n,c,b2,a2,n2,c2,Y,I⟩:=h;exact⟨b,a,n,c,b2,a2,n2,c2,Y,I.cX R⟩
theorem uS.cV(h:uS w S cs q)(R:∀g,S g->S' g):uS w S' cs q:=by
 obtain⟨b,a,n,c,b2,a2,n2,c2,Y,I⟩:=h;exact⟨b,a,n,c,b2,a2,n2,c2,Y,I.cV R⟩
theorem dC.cX(h:dC w S v qs)(R:∀g,S g->F.heap[g]? =w.heap[g]?):dC F S v qs:=by
 obtain⟨Z,Y,I,h3,h4⟩:=h;exact⟨Z,Y.cX R,I,h3,fun j cs x k1 k2=>(h4 j cs x k1 k2).cX R⟩
theorem dC.cV(h:dC w S v qs)(R:∀g,S g->S' g):dC w S' v qs:=by
 obtain⟨Z,Y,I,h3,h4⟩:=h;exact⟨Z,Y.cV R,I,h3,fun j cs x k1 k2=>(h4 j cs x k1 k2).cV R⟩
theorem dS.cX(h:dS w S v M)(R:∀g,S g->F.heap[g]? =w.heap[g]?):dS F S v M:=by
 obtain⟨rv,Y,I,h3⟩:=h;exact⟨rv,Y.cX R,I,fun i u x k1 k2=>dC.cX (h3 i u x k1 k2) R⟩
theorem dS.cV(h:dS w S v M)(R:∀g,S g->S' g):dS w S' v M:=by
 obtain⟨rv,Y,I,h3⟩:=h;exact⟨rv,Y.cV R,I,fun i u x k1 k2=>dC.cV (h3 i u x k1 k2) R⟩
end
section
variable{S S':Nat->Prop}{H:Hp}{nx:Nat}{iv K:Iv}{B:Nat}{w J F:World}{O:Nat->Sx.eH}{v:Value}{qs:List Rat}
theorem dC.rel(h:dC w (Cv S B iv) v qs)(r:Rel H nx iv B w O J)(W:∀g,S g->g<B):dC J (Cv S B iv) v qs:=dC.cX h fun _ V=>rls r W V
theorem dC.cS(h:dC w (Cv S B iv) v qs)(r:Rel H nx iv B w O J)(W:∀g,S g->g<B)(L:Ext J F)(hm:∀p,p∈iv->p∈K):dC F (Cv S B K) v qs:=
 dC.cV (dC.cX (dC.rel h r W) fun g V=>L.block g (rlo r W g V)) fun _ V=>V.mono hm
theorem dC.out{w0 w1:World}(h:dC w1 (Cv S w0.heap.size iv) v qs)(r:Rel H nx iv w0.heap.size w1 O J)(W:Old S w0):dC J (Nw S w0 J) v qs:=
 dC.cV (dC.rel h r W) fun _ V=>Cv.nw V r
theorem dC.arg(h:dC w S v qs)(iv:Iv):dC w (Cv S w.heap.size iv) v qs:=dC.cV h fun _ h=>.inl h
end
section
variable{S S':Nat->Prop}{H:Hp}{nx:Nat}{iv K:Iv}{B:Nat}{w J F:World}{O:Nat->Sx.eH}{v:Value}{M:List (List Rat)}
theorem dS.rel(h:dS w (Cv S B iv) v M)(r:Rel H nx iv B w O J)(W:∀g,S g->g<B):dS J (Cv S B iv) v M:=dS.cX h fun _ V=>rls r W V
theorem dS.cS(h:dS w (Cv S B iv) v M)(r:Rel H nx iv B w O J)(W:∀g,S g->g<B)(L:Ext J F)(hm:∀p,p∈iv->p∈K):dS F (Cv S B K) v M:=
 dS.cV (dS.cX (dS.rel h r W) fun g V=>L.block g (rlo r W g V)) fun _ V=>V.mono hm
theorem dS.old(h:dS F (Nw (Cv S B iv) J F) v M)(hB:B<=J.heap.size):dS F (Cv S B ((J.heap.size,F.heap.size)::iv)) v M:=dS.cV h fun _ V=>Nw.cv V hB
theorem dS.arg(h:dS w S v M)(iv:Iv):dS w (Cv S w.heap.size iv) v M:=dS.cV h fun _ h=>.inl h
end
def NU:List Value->Head×Head
 |[.bool b,.slice a n c,.bool b2,.slice a2 n2 c2]=>((b,a,n,c),(b2,a2,n2,c2))
 |_=>((false,none,0,0),(false,none,0,0))
theorem HJ(h:∀cs∈Z,∃b a n c b2 a2 n2 c2,cs=(rC b a n c b2 a2 n2 c2)):yA (Z.map NU)=Z.flatten:=by
 induction Z with
 |nil=>rfl
 |cons cs r ih=>
  obtain⟨b,a,n,c,b2,a2,n2,c2,rfl⟩:=h cs aF;rw[List.map_cons,List.flatten_cons,<-ih fun x E=>h x (aD _ E)];rfl
theorem dK.HK{v:Value}{xs:List (Int×Int)}(h:dK w S v xs):
  ∃ks:List (Head×Head),fe w S 4 v (yA ks) ks.length/\((∀k∈ks,k.1.2.2.1<=3/\k.2.2.2.1<=3)->dC w S v (xs.map dD)/\(∀q∈xs.map dD,rl q<=3)/\vN xs):=by
 obtain⟨Z,Y,I,h3,h4⟩:=h;have hform:∀(j:Nat) cs,Z[j]? =some cs->∃x,xs[j]? =some x/\zO w S cs x:=fun j cs hj=>by
  obtain⟨x,E⟩:∃x,xs[j]? =some x:=⟨_,aE (by rw[<-I];exact(aH.1 hj).1)⟩
  exact⟨x,E,h4 j cs x hj E⟩
 have hf:∀cs∈Z,∃b a n c b2 a2 n2 c2,cs=[Value.bool b,.slice a n c,.bool b2,.slice a2 n2 c2]:=fun cs hc=>by
  obtain⟨j,hj,rfl⟩:=List.mem_iff_getElem.1 hc;obtain⟨x,_,b,a,n,c,b2,a2,n2,c2,e,_⟩:=hform j _ (aE hj);exact⟨b,a,n,c,b2,a2,n2,c2,e⟩
 refine⟨Z.map NU,by rw[HJ hf,aO,I];exact Y,fun R=>?_⟩;have key:∀(j:Nat) cs x,Z[j]? =some cs->xs[j]? =some x->uS w S cs (dD x)/\rl (dD x)<=3/\ln x.1.natAbs<=10000000000/\ln x.2.natAbs<=10000000000:=fun j cs x k1 k2=>by
  obtain⟨b,a,n,c,b2,a2,n2,c2,rfl,hr⟩:=h4 j cs x k1 k2;have:=R _ (bE.2 ⟨_,aG k1,rfl⟩);obtain⟨r1,r2⟩:=hr.aA5 this.1 this.2;obtain⟨_,_,_,_,e,i1,i2⟩:=hr;simp only[Value.agg.injEq,Array.mk.injEq,List.cons.injEq,Value.bool.injEq,and_true]at e;obtain⟨rfl,rfl,rfl,rfl⟩:=e;have l1:=(i1.short this.1).ln;have l2:=(i2.short this.2).ln;exact⟨⟨b,a,n,c,b2,a2,n2,c2,rfl,r1⟩,r2,be,be⟩
 refine⟨⟨Z,by rw[aO];exact Y,by rw[aO];exact I,h3,fun j cs q k1 k2=>?_⟩,fun q hq=>?_,fun x E=>?_⟩
 .rw[aU]at k2;obtain⟨x,E,rfl⟩:=Option.map_eq_some_iff.1 k2;exact(key j cs x k1 E).1
 .obtain⟨x,E,rfl⟩:=bE.1 hq;obtain⟨j,hj,rfl⟩:=List.mem_iff_getElem.1 E;exact(key j _ _ (aE (by rw[I];exact hj)) (aE hj)).2.1
 .obtain⟨j,hj,rfl⟩:=List.mem_iff_getElem.1 E;exact(key j _ _ (aE (by rw[I];exact hj)) (aE hj)).2.2
def rH(n:Nat):Prop:=n<=5\/60<n/\n<=65
def nk(w:World)(S:Nat->Prop)(v:Value)(M:List (List (Int×Int))):Prop:=rH M.length/\(∀r∈M,rH r.length)/\dS w S v (dT M)/\(∀r∈dT M,∀q∈r,rl q<=3)/\∀r∈M,vN r
theorem NV{v:Value}{M:List (List (Int×Int))}(W:Old S w)(h:dR w S v M):
  eL PG FS.sL #[v] w (eY w fun v' _=>∃d,v'= .bool d/\(d=true->nk w S v M)):=by
 have G:=bR w;obtain⟨rv,⟨h0,XA,Y,a,c,rfl,hc,QA⟩,hl,Pm⟩:=h;unfold maxLen at h0;refine BJ ce ?_;conv=>whnf
 apply bS<;>intro h5
 .have h5:=aJ h5;conv=>whnf
  apply bS<;>intro h60
  .have h60:=aJ h60;conv=>whnf
   exact rtn G fun GE we re=>⟨false,rfl,fun h=>by cases h⟩
  have h60:=aL h60;conv=>whnf
  apply bS<;>intro h65
  .have h65:=aJ h65;conv=>whnf
   exact rtn G fun GE we re=>⟨false,rfl,fun h=>by cases h⟩
  have h65:=aL h65;conv=>whnf
  refine⟨Nat×World×Iv,fun z=>⟨[(0,sV a M.length c),(3,iN z.1)],[],0,z.2.2,z.2.1⟩,fun z=>M.length-z.1,
   fun z=>z.1<=M.length/\Bq w z.2.1/\∀(j:Nat) r u,j<z.1->M[j]? =some r->rv[j]? =some u->rH r.length/\dC w S u (r.map dD)/\(∀q∈r.map dD,rl q<=3)/\vN r,?_,?_⟩
  .intro O J r;exact⟨(0,J,[]),⟨ce,G.tr r.cj,fun j r u hj=>by dsimp only at hj;omega⟩,sbgn [] r⟩
  clear G;rintro⟨i,w1,iv⟩ ⟨N,G,ht⟩;dsimp only at N G ht ⊢;conv=>whnf
  apply bS<;>intro Pk
  .have Pk:=dL Pk;obtain⟨r0,RW⟩:=gO M i;obtain⟨u,hu⟩:=gO rv i;have hR:=Pm i u r0 hu RW;obtain⟨ad,WN,q1,q2⟩:=QA i u hu;obtain⟨au,cu,rfl,hcu,-⟩:=dN.shape hR;have Rt:∀{H nx iv O J},Rel H nx iv w.heap.size w1 O J->J.cell? (ad.add ((i:Int).toNat*1))=some (.slice au r0.length cu):=fun r=>by
    rw[aK,av];exact gN W G r q1 q2
   conv=>whnf
   refine⟨ad,WN,be,?_⟩;conv=>whnf
   refine⟨.slice au r0.length cu,fun O J r=>Rt r,?_⟩;conv=>whnf
   apply bS<;>intro h5
   .have h5:=aJ h5;conv=>whnf
    refine⟨ad,WN,be,?_⟩;conv=>whnf
    refine⟨.slice au r0.length cu,fun O J r=>Rt r,?_⟩;conv=>whnf
    apply bS<;>intro h60
    .have h60:=aJ h60;conv=>whnf
     exact rtn G fun GE we re=>⟨false,rfl,fun h=>by cases h⟩
    have h60:=aL h60;conv=>whnf
    refine⟨ad,WN,be,?_⟩;conv=>whnf
    refine⟨.slice au r0.length cu,fun O J r=>Rt r,?_⟩;conv=>whnf
    apply bS<;>intro h65
    .have h65:=aJ h65;conv=>whnf
     exact rtn G fun GE we re=>⟨false,rfl,fun h=>by cases h⟩
    have h65:=aL h65;conv=>whnf
    refine⟨ad,WN,be,?_⟩;conv=>whnf
    refine⟨.slice au r0.length cu,fun O J r=>Rt r,?_⟩;conv=>whnf
    obtain⟨ks,Za,XU⟩:=dK.HK hR;refine cW (cE G (fun _ J v F=>v= .bool (decide (∀k∈ks,k.1.2.2.1<=3/\k.2.2.2.1<=3))) (fun O J r=>xJ (oS W r) (Za.cX (kS G r W))) ?_);rintro O QP v1 QL Pv r L G h_ rfl;clear r;conv=>whnf
    clear Rt;apply bS<;>intro Tz
    .conv=>whnf
     exact rtn G fun GE we re=>⟨false,rfl,fun h=>by cases h⟩
    have Sg:=aJ (show decide (∀k∈ks,k.1.2.2.1<=3/\k.2.2.2.1<=3)=true by simpa using Tz);conv=>whnf
    refine inc i ?_;conv=>whnf
    intro I8 w3 r3;refine⟨(i+1,w3,_),⟨by dsimp only;omega,G.tr r3.cj,fun j r u hj k1 k2=>?_⟩,sbgn [] r3,by dsimp only;omega⟩;rcases aW j i with XJ|XJ
    .exact ht j r u XJ k1 k2
    .obtain rfl:j=i:=by dsimp only at hj;omega
     rw[RW]at k1;rw[hu]at k2;injection k1 with k1;injection k2 with k2;subst k1 k2;exact⟨by unfold rH;omega,XU Sg⟩
   have h5:=aL h5;conv=>whnf
   refine⟨ad,WN,be,?_⟩;conv=>whnf
   refine⟨.slice au r0.length cu,fun O J r=>Rt r,?_⟩;conv=>whnf
   apply bS<;>intro h65
   .have h65:=aJ h65;conv=>whnf
    exact rtn G fun GE we re=>⟨false,rfl,fun h=>by cases h⟩
   have h65:=aL h65;conv=>whnf
   refine⟨ad,WN,be,?_⟩;conv=>whnf
   refine⟨.slice au r0.length cu,fun O J r=>Rt r,?_⟩;conv=>whnf
   obtain⟨ks,Za,XU⟩:=dK.HK hR;refine cW (cE G (fun _ J v F=>v= .bool (decide (∀k∈ks,k.1.2.2.1<=3/\k.2.2.2.1<=3))) (fun O J r=>xJ (oS W r) (Za.cX (kS G r W))) ?_);rintro O QP v1 QL Pv r L G h_ rfl;clear r;conv=>whnf
   clear Rt;apply bS<;>intro Tz
   .conv=>whnf
    exact rtn G fun GE we re=>⟨false,rfl,fun h=>by cases h⟩
   have Sg:=aJ (show decide (∀k∈ks,k.1.2.2.1<=3/\k.2.2.2.1<=3)=true by simpa using Tz);conv=>whnf
   refine inc i ?_;conv=>whnf
   intro I8 w3 r3;refine⟨(i+1,w3,_),⟨by dsimp only;omega,G.tr r3.cj,fun j r u hj k1 k2=>?_⟩,sbgn [] r3,by dsimp only;omega⟩;rcases aW j i with XJ|XJ
   .exact ht j r u XJ k1 k2
   .obtain rfl:j=i:=by dsimp only at hj;omega
    rw[RW]at k1;rw[hu]at k2;injection k1 with k1;injection k2 with k2;subst k1 k2;exact⟨by unfold rH;omega,XU Sg⟩
  have Pk:i=M.length:=by
   have:¬i<M.length:=by simpa using Pk
   omega
  subst Pk;conv=>whnf
  have Yb:nk w S (.slice a M.length c) M:=by
   refine⟨by unfold rH;omega,fun r hr=>?_,⟨rv,?_,by rw[hl];simp[dT],fun j u q k1 k2=>?_⟩,fun r hr q hq=>?_,fun r hr=>?_⟩
   .obtain⟨j,hj,rfl⟩:=List.mem_iff_getElem.1 hr;exact(ht j _ _ hj (aE hj) (aE (by rw[hl];exact hj))).1
   .rw[show (dT M).length=M.length by simp[dT]];exact⟨by unfold maxLen;omega,XA,Y,a,c,rfl,hc,QA⟩
   .rw[dT,aU]at k2;obtain⟨x,E,rfl⟩:=Option.map_eq_some_iff.1 k2;exact(ht j x u (aH.1 E).1 E k1).2.1
   .rw[dT]at hr;obtain⟨x,E,rfl⟩:=bE.1 hr;obtain⟨j,hj,rfl⟩:=List.mem_iff_getElem.1 E;exact(ht j _ _ hj (aE hj) (aE (by rw[hl];exact hj))).2.2.1 q hq
   .obtain⟨j,hj,rfl⟩:=List.mem_iff_getElem.1 hr;exact(ht j _ _ hj (aE hj) (aE (by rw[hl];exact hj))).2.2.2
  exact rtn G fun GE we re=>⟨true,rfl,fun _=>Yb⟩
 have h5:=aL h5;conv=>whnf
 apply bS<;>intro h65
 .have h65:=aJ h65;conv=>whnf
  exact rtn G fun GE we re=>⟨false,rfl,fun h=>by cases h⟩
 have h65:=aL h65;conv=>whnf
 refine⟨Nat×World×Iv,fun z=>⟨[(0,sV a M.length c),(3,iN z.1)],[],0,z.2.2,z.2.1⟩,fun z=>M.length-z.1,
  fun z=>z.1<=M.length/\Bq w z.2.1/\∀(j:Nat) r u,j<z.1->M[j]? =some r->rv[j]? =some u->rH r.length/\dC w S u (r.map dD)/\(∀q∈r.map dD,rl q<=3)/\vN r,?_,?_⟩
 .intro O J r;exact⟨(0,J,[]),⟨ce,G.tr r.cj,fun j r u hj=>by dsimp only at hj;omega⟩,sbgn [] r⟩
 clear G;rintro⟨i,w1,iv⟩ ⟨N,G,ht⟩;dsimp only at N G ht ⊢;conv=>whnf
 apply bS<;>intro Pk
 .have Pk:=dL Pk;obtain⟨r0,RW⟩:=gO M i;obtain⟨u,hu⟩:=gO rv i;have hR:=Pm i u r0 hu RW;obtain⟨ad,WN,q1,q2⟩:=QA i u hu;obtain⟨au,cu,rfl,hcu,-⟩:=dN.shape hR;have Rt:∀{H nx iv O J},Rel H nx iv w.heap.size w1 O J->J.cell? (ad.add ((i:Int).toNat*1))=some (.slice au r0.length cu):=fun r=>by
   rw[aK,av];exact gN W G r q1 q2
  conv=>whnf
  refine⟨ad,WN,be,?_⟩;conv=>whnf
  refine⟨.slice au r0.length cu,fun O J r=>Rt r,?_⟩;conv=>whnf
  apply bS<;>intro h5
  .have h5:=aJ h5;conv=>whnf
   refine⟨ad,WN,be,?_⟩;conv=>whnf
   refine⟨.slice au r0.length cu,fun O J r=>Rt r,?_⟩;conv=>whnf
   apply bS<;>intro h60
   .have h60:=aJ h60;conv=>whnf
    exact rtn G fun GE we re=>⟨false,rfl,fun h=>by cases h⟩
   have h60:=aL h60;conv=>whnf
   refine⟨ad,WN,be,?_⟩;conv=>whnf
   refine⟨.slice au r0.length cu,fun O J r=>Rt r,?_⟩;conv=>whnf
   apply bS<;>intro h65
   .have h65:=aJ h65;conv=>whnf
    exact rtn G fun GE we re=>⟨false,rfl,fun h=>by cases h⟩
   have h65:=aL h65;conv=>whnf
   refine⟨ad,WN,be,?_⟩;conv=>whnf
   refine⟨.slice au r0.length cu,fun O J r=>Rt r,?_⟩;conv=>whnf
   obtain⟨ks,Za,XU⟩:=dK.HK hR;refine cW (cE G (fun _ J v F=>v= .bool (decide (∀k∈ks,k.1.2.2.1<=3/\k.2.2.2.1<=3))) (fun O J r=>xJ (oS W r) (Za.cX (kS G r W))) ?_);rintro O QP v1 QL Pv r L G h_ rfl;clear r;conv=>whnf
   clear Rt;apply bS<;>intro Tz
   .conv=>whnf
    exact rtn G fun GE we re=>⟨false,rfl,fun h=>by cases h⟩
   have Sg:=aJ (show decide (∀k∈ks,k.1.2.2.1<=3/\k.2.2.2.1<=3)=true by simpa using Tz);conv=>whnf
   refine inc i ?_;conv=>whnf
   intro I8 w3 r3;refine⟨(i+1,w3,_),⟨by dsimp only;omega,G.tr r3.cj,fun j r u hj k1 k2=>?_⟩,sbgn [] r3,by dsimp only;omega⟩;rcases aW j i with XJ|XJ
   .exact ht j r u XJ k1 k2
   .obtain rfl:j=i:=by dsimp only at hj;omega
    rw[RW]at k1;rw[hu]at k2;injection k1 with k1;injection k2 with k2;subst k1 k2;exact⟨by unfold rH;omega,XU Sg⟩
  have h5:=aL h5;conv=>whnf
  refine⟨ad,WN,be,?_⟩;conv=>whnf
  refine⟨.slice au r0.length cu,fun O J r=>Rt r,?_⟩;conv=>whnf
  apply bS<;>intro h65
  .have h65:=aJ h65;conv=>whnf
   exact rtn G fun GE we re=>⟨false,rfl,fun h=>by cases h⟩
  have h65:=aL h65;conv=>whnf
  refine⟨ad,WN,be,?_⟩;conv=>whnf
  refine⟨.slice au r0.length cu,fun O J r=>Rt r,?_⟩;conv=>whnf
  obtain⟨ks,Za,XU⟩:=dK.HK hR;refine cW (cE G (fun _ J v F=>v= .bool (decide (∀k∈ks,k.1.2.2.1<=3/\k.2.2.2.1<=3))) (fun O J r=>xJ (oS W r) (Za.cX (kS G r W))) ?_);rintro O _ _ _ Pv r L G h_ rfl;clear r;conv=>whnf
  clear Rt;apply bS<;>intro Tz
  .conv=>whnf
   exact rtn G fun GE we re=>⟨false,rfl,fun h=>by cases h⟩
  have Sg:=aJ (show decide (∀k∈ks,k.1.2.2.1<=3/\k.2.2.2.1<=3)=true by simpa using Tz);conv=>whnf
  refine inc i ?_;conv=>whnf
  intro I8 w3 r3;refine⟨(i+1,w3,_),⟨by dsimp only;omega,G.tr r3.cj,fun j r u hj k1 k2=>?_⟩,sbgn [] r3,by dsimp only;omega⟩;rcases aW j i with XJ|XJ
  .exact ht j r u XJ k1 k2
  .obtain rfl:j=i:=by dsimp only at hj;omega
   rw[RW]at k1;rw[hu]at k2;injection k1 with k1;injection k2 with k2;subst k1 k2;exact⟨by unfold rH;omega,XU Sg⟩
 have Pk:i=M.length:=by
  have:¬i<M.length:=by simpa using Pk
  omega
 subst Pk;conv=>whnf
 have Yb:nk w S (.slice a M.length c) M:=by
  refine⟨by unfold rH;omega,fun r hr=>?_,⟨rv,?_,by rw[hl];simp[dT],fun j u q k1 k2=>?_⟩,fun r hr q hq=>?_,fun r hr=>?_⟩
  .obtain⟨j,hj,rfl⟩:=List.mem_iff_getElem.1 hr;exact(ht j _ _ hj (aE hj) (aE (by rw[hl];exact hj))).1
  .rw[show (dT M).length=M.length by simp[dT]];exact⟨by unfold maxLen;omega,XA,Y,a,c,rfl,hc,QA⟩
  .rw[dT,aU]at k2;obtain⟨x,E,rfl⟩:=Option.map_eq_some_iff.1 k2;exact(ht j x u (aH.1 E).1 E k1).2.1
  .rw[dT]at hr;obtain⟨x,E,rfl⟩:=bE.1 hr;obtain⟨j,hj,rfl⟩:=List.mem_iff_getElem.1 E;exact(ht j _ _ hj (aE hj) (aE (by rw[hl];exact hj))).2.2.1 q hq
  .obtain⟨j,hj,rfl⟩:=List.mem_iff_getElem.1 hr;exact(ht j _ _ hj (aE hj) (aE (by rw[hl];exact hj))).2.2.2
 exact rtn G fun GE we re=>⟨true,rfl,fun _=>Yb⟩
def Co(w:World)(S:Nat->Prop)(Z:List (List Value))(qs:List Rat):Prop:=∀(j:Nat) cs q,Z[j]? =some cs->qs[j]? =some q->j6 w S cs q
section
variable{S S':Nat->Prop}{H:Hp}{nx:Nat}{iv K:Iv}{B:Nat}{w J F:World}{O:Nat->Sx.eH}{Z:List (List Value)}{qs:List Rat}
theorem Co.rel(h:Co w (Cv S B iv) Z qs)(r:Rel H nx iv B w O J)(W:∀g,S g->g<B):Co J (Cv S B iv) Z qs:=fun j cs q Y I=>(h j cs q Y I).cX fun _ V=>rls r W V
theorem Co.cS(h:Co w (Cv S B iv) Z qs)(r:Rel H nx iv B w O J)(W:∀g,S g->g<B)(L:Ext J F)(hm:∀p,p∈iv->p∈K):Co F (Cv S B K) Z qs:=fun j cs q Y I=>
 (((h.rel r W) j cs q Y I).cX fun g V=>L.block g (rlo r W g V)).cV fun _ V=>V.mono hm
theorem Co.push(h:Co w S Z qs)(hq:qs[Z.length]? =some q)(hc:j6 w S cs q):Co w S (Z++[cs]) qs:=fun j cs' q' Y I=>by
 rcases aW j Z.length with hj|hj
 .rw[aN hj]at Y;exact h j cs' q' Y I
 .have Yp:j=Z.length:=by have:=(aH.1 Y).1;simp at this;omega
  subst Yp;rw[aP lr,bY]at Y;simp at Y;rw[hq]at I;injection I with I;subst Y I;exact hc
end
theorem CI(h:∀x∈Z,x.length=4/\∀u∈x,u.oneCell'=true)(hc:cs.length=4/\∀u∈cs,u.oneCell'=true):∀x∈Z++[cs],x.length=4/\∀u∈x,u.oneCell'=true:=fun x E=>by
 rcases bB.1 E with E|E
 .exact h x E
 .simp at E;subst E;exact hc
def aBi(w F:World)(v:Value)(xs:List Rat):Prop:=∃Z:List (List Value),F.ownsRow w.heap.size T.Rat 4 v xs.length Z.flatten/\Z.length=xs.length/\(∀cs∈Z,cs.length=4/\∀u∈cs,u.oneCell'=true)/\∀(j:Nat) cs q,Z[j]? =some cs->xs[j]? =some q->j6 F (fun g=>Nf w F g/\v.ownBlock≠some g) cs q
theorem Dk{id n g:Nat}(h:((At.w id n).den O).ownBlock=some g):(O id).nil=false/\(O id).g=g:=by
 cases U:(O id).nil with
 |true=>rw[show (At.w id n).den O=nls by simp[At.den,U]]at h;cases h
 |false=>
  rw[show (At.w id n).den O= .slice (some ⟨(O id).g,0,none⟩) n (O id).cap by simp[At.den,U]]at h;injection h with h;exact⟨rfl,h⟩
def mn(xs ys:List Rat)(b:Rat):List Rat:=(List.range ys.length).map fun j=>if 0<xs.length then xs.getD j 0+ys.getD j 0*b else ys.getD j 0*b
theorem qo(xs ys:List Rat)(b:Rat):(mn xs ys b).length=ys.length:=by simp[mn]
theorem yB{j:Nat}(h:j<ys.length):(mn xs ys b)[j]? =some (if 0<xs.length then xs.getD j 0+ys.getD j 0*b else ys.getD j 0*b):=by
 rw[mn,aU,cO h];rfl
theorem NW{v t:Value}(W:Old S w)(E:dC w S v xs)(hy:dC w S u ys)(A:gG w S t b)(hlen:xs=[]\/xs.length=ys.length)(U:ys.length<=1000000)(hbound:∀y∈ys,rl y+rl b<=100000):
  eL PG FS.vD #[v,u,t] w (eY w fun v' F=>cg F (Nf w F) v' (mn xs ys b)/\aBi w F v' (mn xs ys b)):=by
 have G:=bR w;obtain⟨ax,cx,rfl,XC,Uy⟩:=dN.shape E;obtain⟨ay,cy,rfl,Yq,hmy⟩:=dN.shape hy;obtain⟨t0,t1,t2,t3,t4,t5,t6,t7,rfl⟩:=A.shape;have QQ:=qo xs ys b;refine Cg ce ?_
 refine⟨List (List Value)×World×Iv,fun z=>⟨[(0,sV ax xs.length cx),(1,sV ay ys.length cy),(5,pP 0 0),(7,.o (.w 1 z.1.length)),(8,iZ z.1.length)],[(1,.vec T.Rat 4 z.1.flatten),(0,.box T.Rat [.v (.bool t0),.v (.slice t1 t2 t3),.v (.bool t4),.v (.slice t5 t6 t7)])],2,z.2.2,z.2.1⟩,fun z=>ys.length-z.1.length,
  fun z=>z.1.length<=ys.length/\Bq w z.2.1/\(∀x∈z.1,x.length=4/\∀u∈x,u.oneCell'=true)/\Co z.2.1 (Cf w z.2.2) z.1 (mn xs ys b),?_,?_⟩
 .intro O J r
  exact⟨([],J,[]),⟨ce,r.cj,ce,fun j cs q h=>by simp at h⟩,Sub.nil 7 T.Rat 4 rfl (by simp[jn,SV.sc,At.sc,fu]) r fun I9 r1=>
   sbgn [] r1⟩
 clear G;rintro⟨Z,w1,iv⟩ ⟨N,G,h4,RG⟩;dsimp only at N G h4 RG ⊢;have Qp:=fN fun x E=>(h4 x E).1;apply bS<;>intro Pk
 .have Pk:Z.length<ys.length:=by simpa using Pk
  obtain⟨y,Re⟩:=gO ys Z.length;obtain⟨ady,csy,VU,SY,_,R9⟩:=dN.load hy Re;obtain⟨p0,p1,p2,p3,p4,p5,p6,p7,rfl,SY⟩:=SY;have hyd:ys.getD Z.length 0=y:=by rw[List.getD,Re];rfl
  have hpq:=yB (xs:=xs) (b:=b) Pk;rw[hyd]at hpq;have TH:=hbound y (aG Re);have Zx:=jl y b;apply bS<;>intro Qd
  .have Qd:0<xs.length:=by have:=aJ Qd;omega
   have SS:Z.length<xs.length:=hlen.elim (fun h=>by rw[h]at Qd;simp at Qd) (fun h=>be);obtain⟨x,Q5⟩:=gO xs Z.length;obtain⟨adx,csx,We,SL,_,RL⟩:=dN.load E Q5;obtain⟨q0,q1,q2,q3,q4,q5,q6,q7,rfl,SL⟩:=SL;have hxd:xs.getD Z.length 0=x:=by rw[List.getD,Q5];rfl
   rw[aM Qd,hxd]at hpq;refine⟨ady,VU,be,rC p0 p1 p2 p3 p4 p5 p6 p7,rfl,fun O J r i x E=>?_,?_⟩
   .obtain⟨k1,k2⟩:=R9 i x E;rw[aK,cd (w:=w) (F:=J) (by rw[df,df];exact(G.tr r.cj).block _ (W _ k1))];exact k2
   refine cW (cE G (pE (iV (rs y))) (fun O J r=>kL (oS W r) (SY.cX (kS G r W))) ?_);rintro O QP v1 QL Pv r L G h_ rfl;replace RG:=RG.cS r oF L (mC h_);clear r;apply bS<;>intro hs
   .have hs:y=0:=gL.1 (by simpa using hs);rw[hs,bj,cI]at hpq;refine⟨adx,We,be,rC q0 q1 q2 q3 q4 q5 q6 q7,rfl,fun O J r i x E=>?_,?_⟩
    .obtain⟨k1,k2⟩:=RL i x E;rw[aK,cd (w:=w) (F:=J) (by rw[df,df];exact(G.tr r.cj).block _ (W _ k1))];exact k2
    refine cW (cE G (pR dI (x)) (fun O J r=>gS (oS W r) (SL.cX (kS G r W))) ?_);rintro O Qq v2 QT iv2 r L G h_ U;replace RG:=RG.cS r oF L (mC h_);have Tc:=U.cV (nw r h_);clear r U;obtain⟨A0,A1,A2,A3,A4,A5,A6,A7,rfl⟩:=Tc.shape;refine .inl ?_;refine⟨Qp,be,mx,((Z.length+1:Nat):Int),wo,?_⟩;intro I8 w3 r3;have RQ:(Z++[[Value.bool A0,.slice A1 A2 A3,.bool A4,.slice A5 A6 A7]]).length=Z.length+1:=by simp
    have ZT:(Z++[[Value.bool A0,.slice A1 A2 A3,.bool A4,.slice A5 A6 A7]]).flatten=Z.flatten++[Value.bool A0,.slice A1 A2 A3,.bool A4,.slice A5 A6 A7]:=by simp
    exact⟨(Z++[rC A0 A1 A2 A3 A4 A5 A6 A7],w3,_),⟨by dsimp only;rw[RQ];exact Pk,G.tr r3.cj,CI h4 ⟨rfl,by intro u hu;simp at hu;rcases hu with rfl|rfl|rfl|rfl<;>rfl⟩,(RG.rel r3 oF).push hpq (Tc.rel r3 oF).pj⟩,
     sbgn [(1,3)] r3 ⟨by dsimp only;rw[ZT];rfl,rfl,trivial⟩ ⟨rfl,rfl,rfl,by dsimp only;rw[RQ];rfl,by dsimp only;rw[RQ];rfl,trivial⟩,by dsimp only;rw[RQ];omega⟩
   refine dP [.x 0,.x 1,.x 2,.x 3,.x 4,.p 6,.x 5,.x 6,.x 7] ?_;refine⟨ady,VU,be,rC p0 p1 p2 p3 p4 p5 p6 p7,rfl,fun O J r i x E=>?_,?_⟩
   .obtain⟨k1,k2⟩:=R9 i x E;rw[aK,cd (w:=w) (F:=J) (by rw[df,df];exact(G.tr r.cj).block _ (W _ k1))];exact k2
   refine cE G (pR dI (y*b)) (fun O J r=>FE (oS W r) (SY.cX (kS G r W)) (A.cX (kS G r W))) ?_;rintro O _ _ _ iv2 r L G h_ U;replace RG:=RG.cS r oF L (mC h_);have hm:=U.cV (nw r h_);clear r U;obtain⟨A0,A1,A2,A3,A4,A5,A6,A7,rfl⟩:=hm.shape;refine zk.mk (fun S4=>?_) (fun S4=>absurd Qd (by have:=aL S4;omega));refine dP (idO 7) ?_;refine⟨adx,We,be,rC q0 q1 q2 q3 q4 q5 q6 q7,rfl,fun O J r i x E=>?_,?_⟩
   .obtain⟨k1,k2⟩:=RL i x E;rw[aK,cd (w:=w) (F:=J) (by rw[df,df];exact(G.tr r.cj).block _ (W _ k1))];exact k2
   refine cE G (pR dI (x+y*b)) (fun O J r=>FD (rlo r W) ((SL.cX (kS G r W)).cV fun g V=>Or.inl V) (((hm.rel r oF).l be).cV fun g V=>Cv.false V)) ?_;rintro O _ _ _ Pu r L G h_ U;replace RG:=RG.cS r oF L (mC h_);clear hm;have Tc:=U.cV (nw r h_);clear r U;obtain⟨C0,C1,C2,C3,C4,C5,C6,C7,rfl⟩:=Tc.shape;refine .inl ?_;refine⟨Qp,be,mx,((Z.length+1:Nat):Int),wo,?_⟩;intro I8 w3 r3;have RQ:(Z++[[Value.bool C0,.slice C1 C2 C3,.bool C4,.slice C5 C6 C7]]).length=Z.length+1:=by simp
   have ZT:(Z++[[Value.bool C0,.slice C1 C2 C3,.bool C4,.slice C5 C6 C7]]).flatten=Z.flatten++[Value.bool C0,.slice C1 C2 C3,.bool C4,.slice C5 C6 C7]:=by simp
   exact⟨(Z++[rC C0 C1 C2 C3 C4 C5 C6 C7],w3,_),⟨by dsimp only;rw[RQ];exact Pk,G.tr r3.cj,CI h4 ⟨rfl,by intro u hu;simp at hu;rcases hu with rfl|rfl|rfl|rfl<;>rfl⟩,(RG.rel r3 oF).push hpq (Tc.rel r3 oF).pj⟩,
    sbgn [(1,4)] r3 ⟨by dsimp only;rw[ZT];rfl,rfl,trivial⟩ ⟨rfl,rfl,rfl,by dsimp only;rw[RQ];rfl,by dsimp only;rw[RQ];rfl,trivial⟩,by dsimp only;rw[RQ];omega⟩
  have Qd:¬0<xs.length:=by have:=aL Qd;omega
  rw[aI Qd]at hpq;refine dP [.x 0,.x 1,.x 2,.x 3,.x 4,.p 6,.x 5,.x 6,.x 7] ?_;refine⟨ady,VU,be,rC p0 p1 p2 p3 p4 p5 p6 p7,rfl,fun O J r i x E=>?_,?_⟩
  .obtain⟨k1,k2⟩:=R9 i x E;rw[aK,cd (w:=w) (F:=J) (by rw[df,df];exact(G.tr r.cj).block _ (W _ k1))];exact k2
  refine cE G (pR dI (y*b)) (fun O J r=>FE (oS W r) (SY.cX (kS G r W)) (A.cX (kS G r W))) ?_;rintro O _ _ _ Pv r L G h_ U;replace RG:=RG.cS r oF L (mC h_);have hm:=U.cV (nw r h_);clear r U;obtain⟨E0,E1,E2,E3,E4,E5,E6,E7,rfl⟩:=hm.shape;refine zk.mk (fun S4=>absurd (aJ S4) be) (fun S4=>?_);refine .inl ?_;refine⟨Qp,be,mx,((Z.length+1:Nat):Int),wo,?_⟩;intro I8 w3 r3;have RQ:(Z++[[Value.bool E0,.slice E1 E2 E3,.bool E4,.slice E5 E6 E7]]).length=Z.length+1:=by simp
  have ZT:(Z++[[Value.bool E0,.slice E1 E2 E3,.bool E4,.slice E5 E6 E7]]).flatten=Z.flatten++[Value.bool E0,.slice E1 E2 E3,.bool E4,.slice E5 E6 E7]:=by simp
  exact⟨(Z++[rC E0 E1 E2 E3 E4 E5 E6 E7],w3,_),⟨by dsimp only;rw[RQ];exact Pk,G.tr r3.cj,CI h4 ⟨rfl,by intro u hu;simp at hu;rcases hu with rfl|rfl|rfl|rfl<;>rfl⟩,(RG.rel r3 oF).push hpq (hm.rel r3 oF).pj⟩,
   sbgn [(1,4)] r3 ⟨by dsimp only;rw[ZT];rfl,rfl,trivial⟩ ⟨rfl,rfl,rfl,by dsimp only;rw[RQ];rfl,by dsimp only;rw[RQ];rfl,trivial⟩,by dsimp only;rw[RQ];omega⟩
 have Pk:Z.length=ys.length:=Nat.le_antisymm N (by simpa using Pk);intro GE we re;have SG:∀u∈Z.flatten,u.oneCell'=true:=fun u hu=>by
  obtain⟨cs,hc,hu⟩:=List.mem_flatten.1 hu;exact(h4 cs hc).2 u hu
 refine⟨_,rfl,G.tr re.cj,?_,Z,by rw[QQ,<-Pk];exact AD re (id:=1) rfl Qp bv,by rw[QQ];exact Pk,h4,fun j cs q k1 k2=>((RG j cs q k1 k2).cX fun g V=>rls re oF V).cV fun g V=>⟨Cv.nw V re,fun e=>Rel.not re oF V 1 _ rfl (Dk e).1 (Dk e).2⟩⟩;refine⟨Z,?_,by rw[QQ];exact Pk,fun cs hc=>(h4 cs hc).1,fun j cs q k1 k2=>((RG j cs q k1 k2).cX fun g V=>rls re oF V).cV fun g V=>Cv.nw V re⟩;have:=re.ku (id:=1) (sz:=4) (m:=Z.length) rfl Qp mx bv SG;rw[QQ,<-Pk];exact this.cV fun g V=>.inr V
theorem Jk{v t:Value}(W:Old S w)(E:dC w S v xs)(hy:dC w S u ys)(A:gG w S t b)(hlen:xs=[]\/xs.length=ys.length)(U:ys.length<=1000000)(hbound:∀y∈ys,rl y+rl b<=100000):
  eL PG FS.vD #[v,u,t] w (eY w fun v' F=>cg F (Nf w F) v' (mn xs ys b)):=
 (NW W E hy A hlen U hbound).mono fun _ _ ⟨v2,e1,e2,e3,_⟩=>⟨v2,e1,e2,e3⟩
end Go.Ex
namespace Go.Ex
variable{M:List (List Rat)}{s:List (List Rat)×List Nat}{c:Nat}
theorem AH{r k F9:Nat}(R:r<=k)(hR:k<=F9)(h:∀j,r<=j->j<k->dU M j c=0):gW M c (F9-r) r=gW M c (F9-k) k:=by
 induction k with
 |zero=>
  have:r=0:=by omega
  subst this;rfl
 |succ k ih=>
  rcases aW k r with Y|Y
  .have:r=k+1:=by omega
   subst this;rfl
  .rw[ih Y be fun j I h3=>h j I be,show F9-k=(F9-(k+1))+1 by omega,AI (h k Y be)]
theorem EI{a i:Nat}{r:List Rat}(h:M[i]? =some r)(h0:r.getD c 0=0):du M a c (i+1)=du M a c i:=by
 unfold du;refine bA fun j=>?_;rw[List.getElem?_mapIdx,List.getElem?_mapIdx];by_cases hj:j=i
 .subst hj;rw[h];simp only[bU]
  by_cases ha:j=a
  .rw[aI be,aI be]
  .rw[aM ⟨be,ha⟩,aI be,h0];congr 1;refine bA fun k=>?_;rw[List.getElem?_mapIdx]
   cases r[k]? with
   |none=>rfl
   |some q=>simp[EJ,cI]
 .cases M[j]? with
  |none=>rfl
  |some r'=>
   simp only[bU]
   by_cases I:j<i/\j≠a
   .rw[aM ⟨be,I.2⟩,aM I]
   .rw[aI be,aI I]
theorem lT{α:Type}{l:List α}{i:Nat}{x:α}(h:i<l.length):l.take i++[x]++l.drop (i+1)=l.set i x:=by
 rw[List.set_eq_take_append_cons_drop,aM h];simp
theorem AJ(h:¬s.2.length<s.1.length\/gW s.1 c (s.1.length-s.2.length) s.2.length=s.1.length):e9 s c=s:=by
 unfold e9;split
 .rcases h with h|h
  .exact absurd ‹_› h
  .dsimp only;rw[if_pos h]
 .rfl
theorem AK{k:Nat}(R:s.2.length<=k)(hl:k<s.1.length)(h:∀j,s.2.length<=j->j<k->dU s.1 j c=0)(U:dU s.1 k c≠0):
  e9 s c=(du (scaled (fM [] s.1 s.2.length k) s.2.length c) s.2.length c s.1.length,s.2++[c]):=by
 have e:gW s.1 c (s.1.length-s.2.length) s.2.length=k:=by
  rw[AH R be h,show s.1.length-k=(s.1.length-k-1)+1 by omega,AM U]
 unfold e9;rw[aM be];dsimp only
 rw[e,aI be,jr,fU]
theorem KE{k:Nat}(R:s.2.length<=k)(hl:k=s.1.length)(h:∀j,s.2.length<=j->j<k->dU s.1 j c=0):e9 s c=s:=by
 refine AJ (.inr ?_);rw[AH R be h,hl,bY];rfl
end Go.Ex
namespace Go.Ex
open Go Go.Sx Go.Proofs
variable{M:List (List (Int×Int))}{qs x:List Rat}{cs:List Value}{i j:Nat}{S:Nat->Prop}{a a1 a2:Option Addr}{q:Rat}{u:Value}{w:World}
theorem LK(ys:List Rat)(b:Rat):mn [] ys b=ys.map (· *b):=by
 refine bA fun j=>?_;rcases aW j ys.length with h|h
 .rw[yB h,aI ce,aU,List.getD,aE h];rfl
 .rw[List.getElem?_eq_none (by rw[qo];exact h),List.getElem?_eq_none (by simp;exact h)]
theorem Ik{xs ys:List Rat}(b:Rat)(h:xs.length=ys.length):mn xs ys b=xs.mapIdx (EJ b ys):=by
 refine bA fun j=>?_;rw[List.getElem?_mapIdx];rcases aW j ys.length with Y|Y
 .rw[yB Y,aM be,aE be,List.getD,aE (show j<xs.length by omega)];simp[EJ,Rat.mul_comm]
 .rw[List.getElem?_eq_none (by rw[qo];exact Y),List.getElem?_eq_none (show xs.length<=j by omega)];rfl
theorem cg.l{v:Value}(h:cg w S v qs)(hq:∀q∈qs,rl q<=100000):dC w S v qs:=by
 obtain⟨Z,Y,I,h3,h4⟩:=h;refine⟨Z,Y,I,h3,fun j cs q k1 k2=>?_⟩;obtain⟨b,a,n,c,b2,a2,n2,c2,e,hc⟩:=h4 j cs q k1 k2;exact⟨b,a,n,c,b2,a2,n2,c2,e,hc.l (hq q (aG k2))⟩
theorem dC.nil(w:World)(S:Nat->Prop):dC w S nls []:=⟨[],⟨ce,ce,ce,none,0,rfl,lr,ce⟩,rfl,ce,ce⟩
theorem LL{v:Value}{p:Rat}(W:Old S w)(hp:gG w S v p)(hq:gG w S u q)(h0:q≠0):
  eL PG FS.xX #[v,u] w (eY w fun v' F=>∃r,v'= .tuple #[r,iV 0]/\dI F (Nf w F) r (p / q)):=
 (aA4 W hp hq).mono fun _ _ ⟨v2,e1,e2,e3⟩=>⟨v2,e1,e2,e3.elim (fun h=>absurd h.1 h0) fun h=>h.2⟩
def ed(w:World)(S:Nat->Prop)(rv:List Value)(M:List (List Rat)):Prop:=rv.length=M.length/\(∀u∈rv,u.oneCell'=true)/\∀(i:Nat) u r,rv[i]? =some u->M[i]? =some r->dC w S u r
section
variable{S S':Nat->Prop}{H:Hp}{nx:Nat}{iv K:Iv}{B:Nat}{w J F:World}{O:Nat->Sx.eH}{rv:List Value}{M:List (List Rat)}
theorem ed.rel(h:ed w (Cv S B iv) rv M)(r:Rel H nx iv B w O J)(W:∀g,S g->g<B):ed J (Cv S B iv) rv M:=⟨h.1,h.2.1,fun i u x Y I=>dC.rel (h.2.2 i u x Y I) r W⟩
theorem ed.cS(h:ed w (Cv S B iv) rv M)(r:Rel H nx iv B w O J)(W:∀g,S g->g<B)(L:Ext J F)(hm:∀p,p∈iv->p∈K):ed F (Cv S B K) rv M:=⟨h.1,h.2.1,fun i u x Y I=>dC.cS (h.2.2 i u x Y I) r W L hm⟩
theorem ed.set(h:ed w S rv M)(hu:u.oneCell'=true)(E:dC w S u x):ed w S (rv.set i u) (M.set i x):=by
 refine⟨by simp[h.1],fun v hv=>?_,fun j v y Y I=>?_⟩
 .rcases bQ hv with Y|Y
  .exact h.2.1 v Y
  .rw[Y];exact hu
 .rw[List.getElem?_set]at Y I;by_cases hj:i=j
  .rw[aM hj]at Y I;split at Y
   .split at I
    .injection Y with Y;injection I with I;subst Y I;exact E
    .cases I
   .cases Y
  .rw[aI hj]at Y I;exact h.2.2 j v y Y I
theorem ed.get(h:ed w S rv M)(N:i<M.length):∃u r,rv[i]? =some u/\M[i]? =some r/\dC w S u r:=by
 obtain⟨u,hu⟩:∃u,rv[i]? =some u:=⟨_,aE (by rw[h.1];exact N)⟩
 obtain⟨r,hr⟩:=gO M i;exact⟨u,r,hu,hr,h.2.2 i u r hu hr⟩
end
theorem CJ{v:Value}{M:List (List Rat)}{n cols h0:Nat}(W:Old S w)(h:dS w S v M)(hlen:iq n M)(U:n<=1000)(hR:M.length<=1000)(TZ:cols<=n)(TX:Ht M h0)(I:2<=h0)(TH:4^M.length*h0<=90000):
  eL PG FS.uO #[v,iV cols] w (eY w fun v' F=>∃vm vp,v'= .tuple #[vm,vp]/\dS F (Nw S w F) vm (dG M cols).1/\eD F (Nf w F) vp (dG M cols).2):=by
 have G:=bR w;replace h:=dS.arg h [];obtain⟨rv0,⟨UR,XA,Y,am,cm,rfl,SF,QA⟩,hl,Uh⟩:=h;unfold maxLen at UR;have Rn:ed w (Cv S w.heap.size []) rv0 M:=⟨hl,Y,Uh⟩
 refine xj ce ?_;refine .inl ?_;refine⟨rv0,XA,Y,fun O J r QU=>?_,?_⟩
 .obtain⟨u0,UX⟩:=gO rv0 0;obtain⟨ad,ha,_,_⟩:=QA 0 u0 UX;refine⟨ad,ha,fun j u hj=>?_⟩;obtain⟨ad2,Qm,q1,q2⟩:=QA j u hj;rw[ha]at Qm;injection Qm with Qm;subst Qm;rw[cd (w:=w) (F:=J) (by rw[df];exact rls r W q1)];exact q2
 refine⟨rfl,be,mx,?_⟩;rw[aS M.length]
 refine⟨Nat×List Value×List (List Rat)×List Nat×World×Iv,fun z=>⟨[(1,iZ cols),(6,.o (.w 0 M.length)),(7,.o (.w 1 z.2.2.2.1.length)),(8,iN z.1)],[(1,.vec T.int 1 (z.2.2.2.1.map fun c:Nat=>iV (c:Int))),(0,.vec T.lM 1 z.2.1)],2,z.2.2.2.2.2,z.2.2.2.2.1⟩,fun z=>cols-z.1,
  fun z=>z.1<=cols/\(z.2.2.1,z.2.2.2.1)=(List.range z.1).foldl e9 (M,[])/\iq n z.2.2.1/\Inv M cols h0 (z.2.2.1,z.2.2.2.1)/\Bq w z.2.2.2.2.1/\ed z.2.2.2.2.1 (Cv S w.heap.size z.2.2.2.2.2) z.2.1 z.2.2.1,?_,?_⟩
 .intro O J r
  exact⟨(0,rv0,M,[],J,[]),⟨ae _,rfl,hlen,⟨rfl,ae _,ce,by simpa using TX⟩,G.tr r.cj,Rn.rel r W⟩,Sub.nil 7 T.int 1 rfl (by simp[jn,SV.sc,At.sc,fu]) r fun I9 r1=>
   sbgn [(0,1),(1,2)] r1⟩
 rintro⟨c,rv,M1,pv,w1,iv⟩ ⟨hc,Se,WO,hInv,G,Rn⟩;dsimp only at hc Se WO hInv G Rn ⊢;obtain⟨hI1,Yh,hI3,hI4⟩:=hInv;dsimp only at hI1 Yh hI3 hI4;have QO:rv.length=M.length:=by rw[Rn.1,hI1]
 apply bS<;>intro Pk
 .have Pk:=dL Pk
  refine⟨ce,Nat×World×Iv,fun z=>⟨[(1,iZ cols),(6,.o (.w 0 M.length)),(7,.o (.w 1 pv.length)),(8,iN c),(9,iN pv.length),(10,iN z.1)],[(1,.vec T.int 1 (pv.map fun c:Nat=>iV (c:Int))),(0,.vec T.lM 1 rv)],2,z.2.2,z.2.1⟩,fun z=>M.length-z.1,
   fun z=>pv.length<=z.1/\z.1<=M.length/\(∀j,pv.length<=j->j<z.1->dU M1 j c=0)/\Bq w z.2.1/\ed z.2.1 (Cv S w.heap.size z.2.2) rv M1,?_,?_⟩
  .intro O J r;exact⟨(pv.length,J,iv),⟨lr,Yh,fun j h3 h4=>by dsimp only at h4;omega,G.tr r.cj,Rn.rel r W⟩,sbgn [] r⟩
  rintro⟨k,F,iv⟩ ⟨TE,hk1,hkz,G,Rn⟩;dsimp only at TE hk1 hkz G Rn ⊢;have hRl:=Rn.1;refine⟨by rw[QO,aS,av],?_⟩;apply bS<;>intro Ra
  .have Ra:=dL Ra;obtain⟨u,x,hu,E,hux⟩:=Rn.get (i:=k) be;have SS:=WO x (aG E);obtain⟨y,hy⟩:=gO x c;have RG:dU M1 k c=y:=by simp[dU,List.getD,E,hy]
   obtain⟨au,cu,rfl,hcu,-⟩:=dN.shape hux;obtain⟨ad,cs,QV,hF,_,Zn⟩:=dN.load hux hy;obtain⟨p0,p1,p2,p3,p4,p5,p6,p7,rfl,hF⟩:=hF;refine⟨by simp[QO],be,.slice au x.length cu,by simpa using hu,ad,QV,be,rC p0 p1 p2 p3 p4 p5 p6 p7,rfl,fun O J r i x E=>?_,?_⟩
   .obtain⟨k1,k2⟩:=Zn i x E;rw[aK,cd (w:=F) (F:=J) (by rw[df,df];exact rls r W k1)];exact k2
   refine cW (cE G (pE (iV (rs y))) (fun O J r=>kL (rlo r W) (hF.rel r W)) ?_);rintro O _ _ QL Pv r L G h_ rfl;replace Rn:=Rn.cS r W L (mC h_);apply bS<;>intro hs
   .have hs:y=0:=gL.1 (by simpa using hs);refine inc k ?_;intro I8 w3 r3
    exact⟨(k+1,w3,_),⟨by dsimp only;omega,Ra,fun j h3 h4=>by
      by_cases hj:j=k
      .rw[hj,RG,hs]
      .exact hkz j h3 (by dsimp only at h4;omega),G.tr r3.cj,Rn.rel r3 W⟩,sbgn [] r3,by dsimp only;omega⟩
   have hs:y≠0:=fun e=>by rw[e]at hs;exact absurd hs bv
   refine⟨by rw[QO,aS,av],?_⟩;refine zk.mk (fun TC=>absurd (aJ TC) be) (fun _=>?_);obtain⟨uk,xk,huk,hxk,huxk⟩:=Rn.get (i:=k) be;obtain⟨ur,xr,hur,hxr,huxr⟩:=Rn.get (i:=pv.length) be;have hukc:=Rn.2.1 uk (aG huk);have hurc:=Rn.2.1 ur (aG hur);obtain⟨aur,cur,rfl,-,-⟩:=dN.shape huxr;obtain⟨auk,cuk,rfl,-,-⟩:=dN.shape huxk;have hsw:fM [] M1 pv.length k=(M1.set pv.length xk).set k xr:=by simp[fM,List.getD,hxk,hxr]
   have YT:pv.length<M.length:=by omega
   have ZQ:4*(4^pv.length*h0)<=90000:=by
    have h5:=Nat.mul_le_mul_right h0 (Nat.pow_le_pow_right (show 0<4 by decide) (show pv.length+1<=M.length by omega));rw[Nat.pow_succ,bc (4^pv.length) 4,bu]at h5;omega
   have hh2:2<=4^pv.length*h0:=aR I (Nat.le_mul_of_pos_left _ (Nat.pow_pos bv));have Po:dU M1 k c≠0:=by rw[RG];exact hs
   have Pt:=AK (s:=(M1,pv)) (c:=c) (k:=k) TE (by show k<M1.length;omega) hkz Po;have hHt2:=hI4.swap (i:=pv.length) (j:=k) be be;have hat2:=vt (M:=M1) (i:=pv.length) (j:=k) (c:=c) be be;have XN:=hHt2.scaled (a:=pv.length) (c:=c) hh2 (by rw[fU];omega) (by rw[hat2];exact Po);have UI:=(Rn.set (i:=pv.length) hukc huxk).set (i:=k) hurc huxr;rw[<-hsw]at UI;have hLen2:iq n (fM [] M1 pv.length k):=by
    rw[hsw];exact(WO.set (WO xk (aG hxk))).set (WO xr (aG hxr))
   have Qu:(fM [] M1 pv.length k).length=M.length:=by rw[fU,hI1]
   generalize hrv2:(rv.set pv.length (.slice auk xk.length cuk)).set k (.slice aur xr.length cur)=rv2 at UI;have US:rv2.length=M.length:=by rw[UI.1,Qu]
   dsimp only at Pt;refine dP (idO 16) ?_;refine⟨by simp[QO],be,.slice auk xk.length cuk,by simpa using huk,by simp[QO],be,.slice aur xr.length cur,by simpa using hur,by simp[QO],be,by simp[QO];omega,rv.set pv.length (.slice auk xk.length cuk),by rw[aK,av];exact lT (by simp[QO];omega),by simp[QO],be,by simp[QO];omega,rv2,by rw[aK,av,<-hrv2];exact lT (by simp[QO];omega),?_⟩;obtain⟨u2,x2,ZI,Qa,WQ⟩:=UI.get (i:=pv.length) be;have hx2l:=hLen2 x2 (aG Qa);obtain⟨y2,RR⟩:=gO x2 c;have hat3:dU (fM [] M1 pv.length k) pv.length c=y2:=by simp[dU,List.getD,Qa,RR]
   have hy20:y2≠0:=by rw[<-hat3,hat2];exact Po
   have Sj:(fM [] M1 pv.length k).getD pv.length []=x2:=by simp[List.getD,Qa]
   have hscl:scaled (fM [] M1 pv.length k) pv.length c=(fM [] M1 pv.length k).set pv.length (x2.map (· *(1 / y2))):=by rw[scaled,Sj,hat3]
   rw[hscl]at Pt XN;have Q2:=hHt2.at Qa;have Xl:=Q2 y2 (aG RR);have hinv:=uj hy20;have RQ:((fM [] M1 pv.length k).set pv.length (x2.map (· *(1 / y2)))).length=M.length:=by rw[bW,Qu]
   have hget3:((fM [] M1 pv.length k).set pv.length (x2.map (· *(1 / y2))))[pv.length]? =some (x2.map (· *(1 / y2))):=aQ be;have hLen3:iq n ((fM [] M1 pv.length k).set pv.length (x2.map (· *(1 / y2)))):=hLen2.set (by rw[aO];exact hx2l);generalize fM [] M1 pv.length k=M2 at*
   obtain⟨au2,cu2,rfl,hcu2,-⟩:=dN.shape WQ;obtain⟨ad2,cs2,Q9,Xb,_,hlc2⟩:=dN.load WQ RR;obtain⟨q0,q1,q2,q3,q4,q5,q6,q7,rfl,Xb⟩:=Xb;replace QO:=US;refine dP [.x 1,.x 2,.x 3,.x 4,.x 5,.x 6,.x 7,.p 12,.x 0,.x 8,.x 9,.x 10,.x 11,.x 12,.x 13,.x 14] ?_;refine⟨by simp[QO],be,.slice au2 x2.length cu2,by simpa using ZI,ad2,Q9,be,rC q0 q1 q2 q3 q4 q5 q6 q7,rfl,fun O J r i x E=>?_,?_⟩
   .obtain⟨k1,k2⟩:=hlc2 i x E;rw[aK,cd (w:=QL) (F:=J) (by rw[df,df];exact rls r W k1)];exact k2
   refine cE G (pR dI (1:Rat)) (fun O J r=>(show ((1:Int):Rat)=1 from rfl)▸mJ 1 J bv bv) ?_;rintro O _ _ _ iv2 r L G h_ U;replace UI:=UI.cS r W L (mC h_);replace WQ:=dC.cS WQ r W L (mC h_);replace Xb:=Xb.cS r W L (mC h_);have h_1:=U.cV (nw r h_);obtain⟨A0,A1,A2,A3,A4,A5,A6,A7,rfl⟩:=h_1.shape;refine cE G (fun _ J v F=>∃q,v= .tuple #[q,iV 0]/\dI F (Nf J F) q (1 / y2)) (fun O J r=>LL (rlo r W) (((h_1.rel r oF).l (by rw[EM];decide)).cV fun g V=>Cv.false V) (Xb.rel r W) hy20) ?_;rintro O _ _ _ Pu r L G h_ ⟨q,rfl,k1⟩;replace UI:=UI.cS r W L (mC h_);replace WQ:=dC.cS WQ r W L (mC h_);have QR:=k1.cV (nw r h_);obtain⟨s3_0a,s3_0b,s3_0c,s3_0d,s3_0e,s3_0f,s3_0g,s3_0h,rfl⟩:=QR.shape;refine dP (idO 10) ?_;refine⟨by simp[QO],be,.slice au2 x2.length cu2,by simpa using ZI,?_⟩;refine cE G (pR cg (x2.map (· *(1 / y2)))) (fun O J r=>(LK x2 (1 / y2))▸Jk (rlo r W) (dC.nil J _) (dC.rel WQ r W) (((QR.rel r oF).l be).cV fun g V=>Cv.false V) (.inl rfl) be (fun y hy=>by have:=Q2 y hy;omega)) ?_;rintro O _ _ _ QD r L G h_ U;replace UI:=UI.cS r W L (mC h_);have XK:=cg.cV U (nw r h_);obtain⟨a3,c3,rfl,Yk,-⟩:=dN.shape XK;have hRV3:=UI.set (i:=pv.length) (u:=.slice a3 (x2.map (· *(1 / y2))).length c3) rfl (dC.cV (cg.l XK fun q hq=>by have:=XN.1 _ hget3 q hq;omega) fun g V=>Cv.false V);obtain⟨rv3,hrv3⟩:∃rv3,rv3=rv2.set pv.length (.slice a3 (x2.map (· *(1 / y2))).length c3):=⟨_,rfl⟩
   rw[<-hrv3]at hRV3;generalize x2.map (· *(1 / y2))=x3 at*
   generalize hM3:M2.set pv.length x3=M3 at*
   refine⟨by simp[QO],be,by simp[QO];omega,rv3,by rw[aK,av,hrv3];exact lT (by simp[QO];omega),?_⟩;have hrl3:rv3.length=M.length:=by rw[hRV3.1,RQ]
   refine⟨Nat×List Value×World×Iv,fun z=>⟨[(1,iZ cols),(6,.o (.w 0 M.length)),(7,.o (.w 1 pv.length)),(8,iN c),(9,iN pv.length),(13,iN z.1)],[(1,.vec T.int 1 (pv.map fun c:Nat=>iV (c:Int))),(0,.vec T.lM 1 z.2.1)],2,z.2.2.2,z.2.2.1⟩,fun z=>M.length-z.1,
    fun z=>z.1<=M.length/\Bq w z.2.2.1/\ed z.2.2.1 (Cv S w.heap.size z.2.2.2) z.2.1 (du M3 pv.length c z.1),?_,?_⟩
   .intro O J r;exact⟨(0,rv3,J,QD),⟨ae _,G.tr r.cj,by dsimp only;rw[wB];exact hRV3.rel r W⟩,sbgn [] r⟩
   rintro⟨i,rv,w4,iv⟩ ⟨N,G,Rn⟩;dsimp only at N G Rn ⊢;have QO:rv.length=M.length:=by rw[Rn.1,gh,RQ]
   refine⟨by rw[QO,aS,av],?_⟩;apply bS<;>intro Yc
   .have Yc:=dL Yc;apply bS<;>intro hir
    .have hir:i≠pv.length:=fun e=>by rw[e]at hir;simp at hir
     obtain⟨u4,x4,hu4,Ya,Vm⟩:=Rn.get (i:=i) (by rw[gh];omega);obtain⟨u5,x5,hu5,hx5,XO⟩:=Rn.get (i:=pv.length) (by rw[gh];omega);rw[Ae _ _ _ _ _ lr]at Ya;rw[ud]at hx5;have hx4l:=hLen3 x4 (aG Ya);have hx5l:=hLen3 x5 (aG hx5);obtain⟨y4,hy4⟩:=gO x4 c;have hy4d:x4.getD c 0=y4:=by simp[List.getD,hy4]
     have hx5d:M3.getD pv.length []=x5:=by simp[List.getD,hx5]
     have Rd:=XN.2 i x4 hir Ya;have hb5:=XN.1 x5 hx5;have hyb4:=Rd y4 (aG hy4);have hrn:=kj y4;obtain⟨au4,cu4,rfl,hcu4,-⟩:=dN.shape Vm;obtain⟨au5,cu5,rfl,hcu5,-⟩:=dN.shape XO;obtain⟨ad4,cs4,had4,hF4,_,hlc4⟩:=dN.load Vm hy4;obtain⟨e0,e1,e2,e3,e4,e5,e6,e7,rfl,hF4⟩:=hF4;refine⟨by simp[QO],be,.slice au4 x4.length cu4,by simpa using hu4,ad4,had4,be,rC e0 e1 e2 e3 e4 e5 e6 e7,rfl,fun O J r i x E=>?_,?_⟩
     .obtain⟨k1,k2⟩:=hlc4 i x E;rw[aK,cd (w:=w4) (F:=J) (by rw[df,df];exact rls r W k1)];exact k2
     refine cW (cE G (pE (iV (rs y4))) (fun O J r=>kL (rlo r W) (hF4.rel r W)) ?_);rintro O _ _ VP QH r L G h_ rfl;replace Rn:=Rn.cS r W L (mC h_);replace Vm:=dC.cS Vm r W L (mC h_);replace XO:=dC.cS XO r W L (mC h_);apply bS<;>intro hs4
     .have hs4:y4≠0:=fun e=>by rw[e]at hs4;exact absurd hs4 bv
      obtain⟨ad6,cs6,had6,YQ,_,hlc6⟩:=dN.load Vm hy4;obtain⟨f0,f1,f2',f3,f4,f5,f6,f7,rfl,YQ⟩:=YQ;refine dP (idO 21) ?_;refine⟨by simp[QO],be,.slice au4 x4.length cu4,by simpa using hu4,by simp[QO],be,.slice au5 x5.length cu5,by simpa using hu5,by simp[QO],be,.slice au4 x4.length cu4,by simpa using hu4,ad6,had6,be,rC f0 f1 f2' f3 f4 f5 f6 f7,rfl,fun O J r i x E=>?_,?_⟩
      .obtain⟨k1,k2⟩:=hlc6 i x E;rw[aK,cd (w:=VP) (F:=J) (by rw[df,df];exact rls r W k1)];exact k2
      refine cE G (pR dI (-y4)) (fun O J r=>NT (rlo r W) (YQ.rel r W)) ?_;rintro O _ _ _ Qe r L G h_ U;replace Rn:=Rn.cS r W L (mC h_);replace Vm:=dC.cS Vm r W L (mC h_);replace XO:=dC.cS XO r W L (mC h_);have hng:=U.cV (nw r h_);obtain⟨C0,C1,C2,C3,C4,C5,C6,C7,rfl⟩:=hng.shape;refine cE G (pR cg (mn x4 x5 (-y4))) (fun O J r=>Jk (rlo r W) (dC.rel Vm r W) (dC.rel XO r W) (((hng.rel r oF).l be).cV fun g V=>Cv.false V) (.inr be) be (fun y hy=>by have:=hb5 y hy;omega)) ?_;rintro O _ _ _ RS r L G h_ U;replace Rn:=Rn.cS r W L (mC h_);have hx7:=cg.cV U (nw r h_);obtain⟨a7,c7,rfl,hc7,-⟩:=dN.shape hx7;have Qs:(du M3 pv.length c i).set i (mn x4 x5 (-y4))=du M3 pv.length c (i+1):=by
       rw[<-wC Ya hir,hy4d,hx5d,Ik _ be]
      have hrow7:(du M3 pv.length c (i+1))[i]? =some (mn x4 x5 (-y4)):=by rw[<-Qs];exact aQ (by rw[gh];omega)
      have hb7:=(Ht.EN (i:=i+1) XN.1 XN.2 hh2).at hrow7;replace Rn:=Rn.set (i:=i) (u:=.slice a7 (mn x4 x5 (-y4)).length c7) rfl (dC.cV (cg.l hx7 fun q hq=>by have:=hb7 q hq;omega) fun g V=>Cv.false V);rw[Qs]at Rn;refine⟨by simp[QO],be,by simp[QO];omega,rv.set i (.slice a7 (mn x4 x5 (-y4)).length c7),by rw[aK,av];exact lT be,((i+1:Nat):Int),wo,?_⟩;intro I8 w3 r3;exact⟨(i+1,rv.set i (.slice a7 (mn x4 x5 (-y4)).length c7),w3,_),⟨Yc,G.tr r3.cj,by dsimp only;rw[show i+1=i+1 from rfl];exact Rn.rel r3 W⟩,sbgn [] r3,dec Yc⟩
     have hs4:y4=0:=gL.1 (by simpa using hs4);refine inc i ?_;intro I8 w3 r3;exact⟨(i+1,rv,w3,_),⟨Yc,G.tr r3.cj,by dsimp only;rw[EI Ya (by rw[hy4d,hs4])];exact Rn.rel r3 W⟩,sbgn [] r3,dec Yc⟩
    have hir1:(i:Int)=pv.length:=by simpa using hir
    have hir:i=pv.length:=by omega
    refine inc i ?_;intro I8 w3 r3;exact⟨(i+1,rv,w3,_),⟨Yc,G.tr r3.cj,by dsimp only;rw[show du M3 pv.length c (i+1)=du M3 pv.length c i by rw[hir,<-wD]];exact Rn.rel r3 W⟩,sbgn [] r3,dec Yc⟩
   have Yc:i=M.length:=by have:=aL Yc;omega
   subst Yc;refine .inl ?_;refine⟨ce,be,mx,?_⟩;have Yx:(pv++[c]).map (fun c:Nat=>iV (c:Int))=pv.map (fun c:Nat=>iV (c:Int))++[iV (c:Int)]:=by simp
   rw[hI1]at Pt;refine inc c ?_;intro I8 w3 r3;have hs:e9 (M1,pv) c=((du M3 pv.length c M.length),(pv++[c])):=Pt;have hf2:((du M3 pv.length c M.length),(pv++[c]))=(List.range (c+1)).foldl e9 (M,[]):=by rw[bz,List.foldl_append,<-Se];exact hs.symm
   have Qv:=Inv.step (show Inv M cols h0 (M1,pv)from⟨hI1,Yh,hI3,hI4⟩) Pk I;have Qu:=iq.step (s:=(M1,pv)) (c:=c) WO;rw[hs]at Qv Qu;exact⟨(c+1,rv,(du M3 pv.length c M.length),(pv++[c]),w3,_),⟨Pk,hf2,Qu,Qv,G.tr r3.cj,Rn.rel r3 W⟩,sbgn [(1,3)] r3 ⟨by dsimp only;rw[Yx];rfl,rfl,trivial⟩ ⟨rfl,rfl,by dsimp only;rw[l1];rfl,rfl,trivial⟩,dec Pk⟩
  have Ra:k=M.length:=by have:=aL Ra;omega
  refine⟨by rw[QO,aS,av],?_⟩;refine zk.mk (fun _=>?_) (fun TC=>absurd (aL TC) be);refine inc c ?_;intro I8 w3 r3;have hs:e9 (M1,pv) c=(M1,pv):=KE TE (by show k=M1.length;omega) hkz;have hf2:(M1,pv)=(List.range (c+1)).foldl e9 (M,[]):=by rw[bz,List.foldl_append,<-Se];exact hs.symm
  have Qv:=Inv.step (show Inv M cols h0 (M1,pv)from⟨hI1,Yh,hI3,hI4⟩) Pk I;have Qu:=iq.step (s:=(M1,pv)) (c:=c) WO;rw[hs]at Qv Qu;exact⟨(c+1,rv,M1,pv,w3,_),⟨Pk,hf2,Qu,Qv,G.tr r3.cj,Rn.rel r3 W⟩,sbgn [] r3,dec Pk⟩
 have Pk:=dE hc Pk;subst Pk;have hred:dG M c=(M1,pv):=Se.symm;rw[hred];intro GE we re;refine⟨_,rfl,G.tr re.cj,_,_,rfl,⟨rv,?_,Rn.1,fun i u x Y I=>dC.out (Rn.2.2 i u x Y I) re W⟩,?_⟩
 .have:=re.ku (id:=0) (sz:=1) (m:=M.length) rfl (by rw[QO,av]) mx bv Rn.2.1;rw[show (M1,pv).1.length=M.length from hI1];exact this.cV fun g V=>.inr V
 .have:=re.ku (id:=1) (sz:=1) (m:=pv.length) rfl ce mx bv (fun u hu=>by
   obtain⟨_,_,rfl⟩:=bE.1 hu
   rfl)
  exact this.cV fun g V=>.inr V
theorem qn{v:Value}(W:Old S w)(h:dR w S v M):eL PG FS.uG #[v] w (eY w fun v' _=>v'=iV (dM M)):=by
 have U:=h;obtain⟨a,c,rfl,hc,hm⟩:=dH.shape h;refine xY ce ?_
 cases M with
 |nil=>
  intro GE we re;exact⟨_,rfl,re.cj,rfl⟩
 |cons r t=>
  obtain⟨ad,u,rfl,hu,Y,I⟩:=dH.load h (j:=0) (x:=r) rfl;obtain⟨a2,c2,rfl⟩:=dH.oB hu;refine⟨ad,rfl,⟨be,ce⟩,.slice a2 r.length c2,fun O J r'=>by simpa using gN W Bel.refl r' Y (by simpa using I),?_⟩;intro GE we re;exact⟨_,rfl,re.cj,rfl⟩
theorem Dh{α:Type}{M:List (List α)}{r:List α}(h:M[0]? =some r):dM M=r.length:=by
 cases M with
 |nil=>cases h
 |cons x t=>injection h with h;rw[<-h];rfl
theorem Dt(h:jm M=0):(∀r∈M,r.length=dM M)/\M.length<=60/\dM M<=60:=by
 unfold jm at h;split at h
 .split at h
  .cases h
  .exact⟨‹_›,be,be⟩
 .cases h
theorem CH{v:Value}(W:Old S w)(h:dR w S v M):eL PG FS.oL #[v] w (eY w fun v' _=>v'=iV (jm M)):=by
 have G:=bR w;obtain⟨a,c,rfl,hc,hm⟩:=dH.shape h;unfold maxLen at hm;refine sX ce ?_;conv=>whnf
 refine⟨Nat×World,fun z=>⟨[(0,sV a M.length c),(3,iN z.1)],[],0,[],z.2⟩,fun z=>M.length-z.1,
  fun z=>z.1<=M.length/\Bq w z.2/\∀(j:Nat) r,j<z.1->M[j]? =some r->r.length=dM M,?_,?_⟩
 .intro O J r;exact⟨(0,J),⟨ce,r.cj,fun j r hj=>by dsimp only at hj;omega⟩,sbgn [] r⟩
 clear G;rintro⟨i,w1⟩ ⟨N,G,Pm⟩;dsimp only at N G Pm ⊢;conv=>whnf
 apply bS<;>intro Pk
 .have Pk:=dL Pk;obtain⟨r,hr⟩:=gO M i;obtain⟨r0,RW⟩:=gO M 0;have hc0:=Dh RW;obtain⟨ad,u,ha,hu,Y,I⟩:=dH.load h hr;obtain⟨ad2,u2,Qm,ZI,h3,h4⟩:=dH.load h RW;obtain⟨a2,c2,rfl⟩:=dH.oB hu;obtain⟨a3,c3,rfl⟩:=dH.oB ZI;conv=>whnf
  refine dP (idO 10) ?_;conv=>whnf
  refine⟨ad,ha,be,?_⟩;conv=>whnf
  refine⟨.slice a2 r.length c2,fun O J r'=>by rw[aK];exact gN W G r' Y I,?_⟩;conv=>whnf
  refine⟨ad2,Qm,be,?_⟩;conv=>whnf
  refine⟨.slice a3 r0.length c3,fun O J r'=>gN W G r' h3 h4,?_⟩;conv=>whnf
  apply bS<;>intro Po
  .have Po:r.length≠dM M:=fun e=>by rw[hc0]at e;rw[e]at Po;simp at Po
   conv=>whnf
   exact rtn G fun GE we re=>by rw[jm,aI (fun Qw=>Po (Qw r (aG hr)))];rfl
  have heq:r.length=dM M:=by
   have h5:((r.length:Int)==(r0.length:Int))=true:=by simpa using Po
   have:=eq_of_beq h5;omega
  conv=>whnf
  refine inc i ?_;conv=>whnf
  intro I8 w3 r3;refine⟨(i+1,w3),⟨Pk,G.tr r3.cj,fun j r' hj Wr=>?_⟩,sbgn [] r3,by dsimp only;omega⟩;by_cases Q1:j=i
  .subst Q1;rw[hr]at Wr;injection Wr with Wr;rw[<-Wr];exact heq
  .exact Pm j r' (by dsimp only at hj;omega) Wr
 have Pk:=dE N Pk;have Qw:∀r∈M,r.length=dM M:=fun r hr=>by
  obtain⟨j,hj⟩:=az hr;exact Pm j r (by rw[Pk];exact(aH.1 hj).1) hj
 have WI:jm M=if 60<M.length\/60<dM M then 8 else 0:=by rw[jm,aM Qw]
 replace h:=dR.cX h fun g V=>G.block g (W g V);replace h:=dR.cV (S':=Cv S w.heap.size []) h fun _ h=>.inl h;conv=>whnf
 apply bS<;>intro Y
 .have Y:60<M.length:=by have:=aJ Y;omega
  conv=>whnf
  exact rtn G fun GE we re=>by rw[WI,aM (.inl Y)];rfl
 have Y:¬60<M.length:=by have:=aL Y;omega
 conv=>whnf
 refine cW (cU (GT:=fun _ _ v _=>v=iV (dM M)) (fun O J r=>qn (rlo r W) (dR.rel h r W)) ?_);rintro O wa v1 wb r' L A rfl;replace G:=G.tr A;clear r' L A h;conv=>whnf
 apply bS<;>intro I
 .have I:60<dM M:=by have:=aJ I;omega
  conv=>whnf
  exact rtn G fun GE we re=>by rw[WI,aM (.inr I)];rfl
 have I:¬60<dM M:=by have:=aL I;omega
 conv=>whnf
 exact rtn G fun GE we re=>by rw[WI,aI be];rfl
theorem j6.len(h:j6 w S cs q):cs.length=4:=by obtain⟨_,_,_,_,_,_,_,_,rfl,_⟩:=h;rfl
def Fc(w:World)(S:Nat->Prop)(Z:List (List Value))(qs:List Rat):Prop:=Z.length=qs.length/\∀(j:Nat) cs q,Z[j]? =some cs->qs[j]? =some q->j6 w S cs q
section
variable{S S':Nat->Prop}{w F:World}{cs:List Value}{Z:List (List Value)}{q:Rat}{qs:List Rat}
theorem Fc.cX(h:Fc w S Z qs)(R:∀g,S g->F.heap[g]? =w.heap[g]?):Fc F S Z qs:=⟨h.1,fun j cs q Y I=>(h.2 j cs q Y I).cX R⟩
theorem Fc.cV(h:Fc w S Z qs)(R:∀g,S g->S' g):Fc w S' Z qs:=⟨h.1,fun j cs q Y I=>(h.2 j cs q Y I).cV R⟩
theorem Fc.oy(h:Fc w S Z qs):∀cs∈Z,cs.length=4:=fun cs hc=>by
 obtain⟨j,hj⟩:=az hc;have hl:=(aH.1 hj).1;exact(h.2 j cs _ hj (aE (by rw[<-h.1];exact hl))).len
theorem Fc.one(h:Fc w S Z qs):∀u∈Z.flatten,u.oneCell'=true:=fun u hu=>by
 obtain⟨cs,hc,hu⟩:=List.mem_flatten.1 hu;obtain⟨j,hj⟩:=az hc;have hl:=(aH.1 hj).1;obtain⟨_,_,_,_,_,_,_,_,rfl,_⟩:=h.2 j cs _ hj (aE (by rw[<-h.1];exact hl));simp at hu;rcases hu with rfl|rfl|rfl|rfl<;>rfl
theorem Fc.set(h:Fc w S Z qs)(hq:j6 w S cs q):Fc w S (Z.set j cs) (qs.set j q):=by
 refine⟨by simp[h.1],fun i c p Y I=>?_⟩;by_cases R0:j=i
 .subst R0;have hl:=(aH.1 Y).1;rw[aQ (by simpa using hl)]at Y;rw[aQ (by have:=h.1;simp at hl;omega)]at I;injection Y with Y;injection I with I;subst Y I;exact hq
 .rw[aZ R0]at Y I;exact h.2 i c p Y I
end
def HL(w:World)(C S:Nat->Prop)(v:Value)(qs:List Rat):Prop:=∃Z,fe w C 4 v Z.flatten qs.length/\Fc w S Z qs
section
variable{C C' S S':Nat->Prop}{H:Hp}{nx:Nat}{iv K:Iv}{B:Nat}{w J F:World}{O:Nat->Sx.eH}{v:Value}{qs:List Rat}
theorem HL.cV(h:HL w C S v qs)(R:∀g,C g->C' g)(Tm:∀g,S g->S' g):HL w C' S' v qs:=by
 obtain⟨Z,Y,I⟩:=h;exact⟨Z,Y.cV R,I.cV Tm⟩
end
def lC(w:World)(S:Nat->Prop)(v:Value)(n:Nat)(qs:List Rat):Prop:=∃Z,w.ownsRow 0 T.Rat 4 v n Z.flatten/\Z.length=n/\Fc w S Z qs
section
variable{S S' C:Nat->Prop}{H:Hp}{nx n:Nat}{iv K:Iv}{B:Nat}{w J F:World}{O:Nat->Sx.eH}{v:Value}{qs:List Rat}
theorem lC.cX(h:lC w S v n qs)(R:∀g,S g\/v.ownBlock=some g->F.heap[g]? =w.heap[g]?):lC F S v n qs:=by
 obtain⟨Z,Y,I,h3⟩:=h;exact⟨Z,ownsRow.cX Y fun g V=>R g (.inr V),I,h3.cX fun g V=>R g (.inl V)⟩
theorem lC.cV(h:lC w S v n qs)(R:∀g,S g->S' g):lC w S' v n qs:=by
 obtain⟨Z,Y,I,h3⟩:=h;exact⟨Z,Y,I,h3.cV R⟩
theorem lC.len(h:lC w S v n qs):qs.length=n:=by
 obtain⟨Z,Y,I,h3⟩:=h;rw[<-h3.1,I]
theorem lC.form(h:lC w S v n qs):∃a c,v= .slice a n c/\n<=c:=by
 obtain⟨Z,Y,I,h3⟩:=h;exact ef Y
theorem lC.le(h:lC w S v n qs):n<=maxLen:=by
 obtain⟨Z,Y,I,h3⟩:=h;rcases Y.2 with⟨_,h0⟩|⟨_,_,_,_,_,_,Y,I,_⟩
 .omega
 .omega
theorem lC.read(h:lC w S v n qs):HL w (fun g=>v.ownBlock=some g) S v qs:=by
 have hl:=h.len;have U:=h.le;obtain⟨Z,Y,I,h3⟩:=h;refine⟨Z,?_,h3⟩;rw[hl];rcases Y.2 with⟨rfl,rfl⟩|⟨g,cap,cur,rfl,A,hc,SR,RO,QK,R7⟩
 .refine⟨U,Y.1,h3.one,none,0,rfl,lr,fun j u hu=>?_⟩;have:=Y.1;rw[Nat.zero_mul]at this;rw[List.eq_nil_of_length_eq_zero this]at hu
  cases hu
 .refine⟨U,Y.1,h3.one,_,cap,rfl,SR,fun j u hu=>⟨_,rfl,rfl,?_⟩⟩;exact Y.cells (g:=g) rfl j u hu
theorem lC.store{c n1 c1 n2 c2:Nat}{b b2:Bool}(h:lC w S (.slice a n c) n qs)(hj:j<n)(hf:dI w S (.agg #[.bool b,.slice a1 n1 c1,.bool b2,.slice a2 n2 c2]) q)(Rx:∀g,(Value.slice a n c).ownBlock=some g->¬S g)(W:Old S w):
  ∃g,a=some ⟨g,0,none⟩/\((⟨g,0,none⟩:Addr).add ((j:Int).toNat*4)).spot=none/\((⟨g,0,none⟩:Addr).add ((j:Int).toNat*4)).block=g/\
   (∀k,k<4->(w.cell? (((⟨g,0,none⟩:Addr).add ((j:Int).toNat*4)).add k)).isSome=true/\w.frozen? (((⟨g,0,none⟩:Addr).add ((j:Int).toNat*4)).add k)=false)/\
   ∀F,F=setCells w ((⟨g,0,none⟩:Addr).add ((j:Int).toNat*4)) (rC b a1 n1 c1 b2 a2 n2 c2)->lC F S (.slice a n c) n (qs.set j q)/\w.grownBy F (some g)/\F.heap.size=w.heap.size:=by
 obtain⟨Z,Y,I,h3⟩:=h;obtain⟨g,rfl,Py,RN,QW,QK⟩:=nT (nv:=rC b a1 n1 c1 b2 a2 n2 c2) Y rfl hj rfl bv;have QV:(⟨g,0,none⟩:Addr).add ((j:Int).toNat*4)=⟨g,j*4,none⟩:=by rw[aK,dF,aS]
 refine⟨g,rfl,by rw[QV],by rw[QV],fun k R=>by rw[QV];exact Py k R,fun F RT=>?_⟩;rw[QV]at RT;subst RT;have RM:=kq (cs:=rC b a1 n1 c1 b2 a2 n2 c2) h3.oy (show j<Z.length by omega);rw[RM]at RN;have Q6:∀x,S x->(setCells w ⟨g,j*4,none⟩ (rC b a1 n1 c1 b2 a2 n2 c2)).heap[x]? =w.heap[x]? :=fun x E=>
  QW.block x (W x E) fun e=>Rx g rfl (by injection e with e;rw[<-e];exact E)
 exact⟨⟨_,RN,by simpa using I,(h3.cX Q6).set (hf.cX Q6).pj⟩,QW,QK⟩
structure gF(w:World)(S:Nat->Prop)(B:Nat)(iv:Iv)(v:Value)(n:Nat)(qs:List Rat):Prop where
 row:lC w (fun g=>Cv S B iv g/\v.ownBlock≠some g) v n qs
 new:∀g,v.ownBlock=some g->Cv FF B iv g
theorem gF.cX(h:gF w S B iv v n qs)(R:∀g,Cv S B iv g->F.heap[g]? =w.heap[g]?):gF F S B iv v n qs:=
 ⟨h.row.cX fun g V=>R g (V.elim (fun h=>h.1) fun V=>(h.new g V).elim (fun h=>h.elim) .inr),h.new⟩
theorem gF.rel(h:gF w S B iv v n qs)(r:Rel H nx iv B w O J)(W:∀g,S g->g<B):gF J S B iv v n qs:=h.cX fun _ V=>rls r W V
theorem gF.cS(h:gF w S B iv v n qs)(r:Rel H nx iv B w O J)(W:∀g,S g->g<B)(L:Ext J F)(hm:∀p,p∈iv->p∈K):gF F S B K v n qs:=
 have I:=(h.rel r W).cX fun g V=>L.block g (rlo r W g V)
 ⟨I.row.cV fun _ V=>⟨V.1.mono hm,V.2⟩,fun g V=>(I.new g V).mono hm⟩
theorem gF.ep(h:gF F FF J.heap.size [(J.heap.size,F.heap.size)] v n qs)(hB:B<=J.heap.size)(hm:(J.heap.size,F.heap.size)∈iv):gF F S B iv v n qs:=by
 have key:∀g {X:Nat->Prop},Cv FF J.heap.size [(J.heap.size,F.heap.size)] g->Cv X B iv g:=fun g X V=>by
  rcases V with V|⟨Y,lo,N,I,h3,h4⟩
  .exact V.elim
  .simp at I;obtain⟨rfl,rfl⟩:=I;exact .inr ⟨be,_,_,hm,h3,h4⟩
 exact⟨h.row.cV fun g V=>⟨key g V.1,V.2⟩,fun g V=>key g (h.new g V)⟩
theorem gF.read(h:gF w S B iv v n qs):HL w (Cv S B iv) (Cv S B iv) v qs:=
 h.row.read.cV (fun g V=>(h.new g V).elim (fun h=>h.elim) .inr) fun _ V=>V.1
end
section
variable{S S':Nat->Prop}{H:Hp}{nx n:Nat}{iv K:Iv}{B:Nat}{w J F:World}{O:Nat->Sx.eH}{v:Value}{qs:List Rat}
theorem gF.store{c n1 c1 n2 c2:Nat}{b b2:Bool}(h:gF J S B iv (.slice a n c) n qs)(hj:j<n)(hf:dI J (fun g=>Cv S B iv g/\(Value.slice a n c).ownBlock≠some g) (.agg #[.bool b,.slice a1 n1 c1,.bool b2,.slice a2 n2 c2]) q)
  (r:Rel H nx iv B w O J) (W:∀g,S g->g<B):
  ∃g,a=some ⟨g,0,none⟩/\((⟨g,0,none⟩:Addr).add ((j:Int).toNat*4)).spot=none/\
   (∀k,k<4->(J.cell? (((⟨g,0,none⟩:Addr).add ((j:Int).toNat*4)).add k)).isSome=true/\J.frozen? (((⟨g,0,none⟩:Addr).add ((j:Int).toNat*4)).add k)=false)/\
   (∀id b,dV H id=some b->(O id).nil=false->(O id).g≠((⟨g,0,none⟩:Addr).add ((j:Int).toNat*4)).block)/\Cv FF B iv g/\
   ∀F,F=setCells J ((⟨g,0,none⟩:Addr).add ((j:Int).toNat*4)) (rC b a1 n1 c1 b2 a2 n2 c2)->gF F S B iv (.slice a n c) n (qs.set j q)/\J.grownBy F (some g)/\F.heap.size=J.heap.size:=by
 obtain⟨g,rfl,Y,I,h3,h4⟩:=h.row.store hj hf (fun g V E=>E.2 V) (fun x E=>rlo r W x E.1);refine⟨g,rfl,Y,h3,fun id b A U=>by rw[I];exact Rel.not r W (qj (h.new g rfl)) id b A U,h.new g rfl,fun F RT=>?_⟩;obtain⟨k1,k2,k3⟩:=h4 F RT;exact⟨⟨k1,h.new⟩,k2,k3⟩
end
end Go.Ex
namespace Go.Sx
open Go Go.Ex Go.Proofs
variable{cs:List Value}{O:Nat->Sx.eH}
theorem Sub.qp{B:Nat}{l tl:Env}{nx:Nat}{H tH:Hp}{iv:Iv}{w J:World}{id t n c:Nat}{e:TypeId}(r:Rel H nx iv B w O J)(RE:dV H id=some (.arr e cs))(ht:fZ l t=some (.o (.s id 0 n c)))
  (hs:xN H tH) (ho:FM id tH=true) (Y:FZ l tl) (I:jn nx tl):
  Sub B l nx O J ⟨(t,.o (.v (.slice (some ⟨(O id).g,0,none⟩) n c)))::tl,tH,nx,((O id).g,(O id).g+1)::iv,J⟩:=by
 refine⟨O,r.free RE ce (r.fits RE).1 hs ho,fun u v hv=>?_⟩;rw[fE]at hv;split at hv
 .rename_i e;subst e;injection hv with hv;subst hv;exact⟨trivial,_,ht,rfl⟩
 .exact⟨I.get u v hv,v,Y.get u v hv,rfl⟩
end Go.Sx
