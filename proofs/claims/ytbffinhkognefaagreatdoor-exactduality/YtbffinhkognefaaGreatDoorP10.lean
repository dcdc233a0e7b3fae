/- Texts X63 to XTg: lemmas, each with its conditions. -/
import Derived.Test.YtbffinhkognefaaGreatDoorP9
namespace Go.Ex
open Go Go.Sx Go.Proofs
section
variable{xs:List (Int×Int)}{G8:List (List Rat)}{M:List (List Value)}{S:Nat->Prop}{a:Option Addr}{p q:Rat}{u:Value}{w:World}
def jS(w:World)(S:Nat->Prop)(v:Value)(q:Rat):Prop:=∃b1 l1 b2 l2 a b,v= .agg #[.bool b1,l1,.bool b2,l2]/\fA w S (.agg #[.bool b1,l1]) 100000 a/\fA w S (.agg #[.bool b2,l2]) 100000 b/\ratio a b=q
theorem jS.cP{F:World}{v:Value}(h:jS w S v q)(Z:∀g,S g->F.heap[g]? =w.heap[g]?):jS F S v q:=by
 obtain⟨b1,l1,b2,l2,a,b,W,I,h3,h4⟩:=h;exact⟨b1,l1,b2,l2,a,b,W,I.cP Z,h3.cP Z,h4⟩
theorem jS.cO{S':Nat->Prop}{v:Value}(h:jS w S v q)(Z:∀g,S g->S' g):jS w S' v q:=by
 obtain⟨b1,l1,b2,l2,a,b,W,I,h3,h4⟩:=h;exact⟨b1,l1,b2,l2,a,b,W,I.cO Z,h3.cO Z,h4⟩
theorem jS.v{v:Value}(h:jS w S v q):Lq w S v q:=by
 obtain⟨b1,l1,b2,l2,a,b,rfl,I,h3,h4⟩:=h;exact⟨a,b,⟨b1,l1,b2,l2,rfl,I.r,h3.r⟩,h4,I.ln,h3.ln⟩
theorem jS.shape{v:Value}(h:jS w S v q):∃b a n c b2 a2 n2 c2,v= .agg #[.bool b,.slice a n c,.bool b2,.slice a2 n2 c2]:=h.v.shape
theorem jS.rl{v:Value}(h:jS w S v q):rl q<=100000:=by
 obtain⟨b1,l1,b2,l2,a,b,rfl,I,h3,rfl⟩:=h;have:=CT a b;have:=I.ln;have:=h3.ln;omega
theorem cZ.l{v:Value}(h:cZ w S v q)(hl:rl q<=100000):jS w S v q:=by
 obtain⟨b1,l1,b2,l2,W,I,h3⟩:=h;exact⟨b1,l1,b2,l2,_,_,W,I.l (aP (fj q) hl),h3.l (aP (fC q) hl),s7 q⟩
theorem JL(a b:Int):rs (ratio a b)=if b.sign<0 then -a.sign else a.sign:=by
 have sb:=fh b;rw[ratio];split
 .rw[aK be,rs,sw bv]
 .split
  .rw[show Rat.divInt a b=Rat.divInt (-a) (-b)from(Rat.neg_divInt_neg a b).symm,rs,sw be,Int.sign_neg]
  .rw[rs,sw be]
theorem j9{a c:Int}:(a.natAbs<1073741824)->(c.natAbs<1073741824)->(a*c).natAbs<=1152921502459363329:=fun W I=>by
 rw[Int.natAbs_mul];exact Nat.mul_le_mul (show a.natAbs<=1073741823 by omega) (show c.natAbs<=1073741823 by omega)
section
variable{S S':Nat->Prop}{H:Hp}{nx:Nat}{iv K:Iv}{B:Nat}{w J F:World}{O:Nat->Sx.dc}{v:Value}{q:Rat}
theorem jS.rel(h:jS w (Cv S B iv) v q)(r:Rel H nx iv B w O J)(L:∀g,S g->g<B):jS J (Cv S B iv) v q:=h.cP fun _ V=>rls r L V
theorem jS.cL(h:jS w (Cv S B iv) v q)(r:Rel H nx iv B w O J)(L:∀g,S g->g<B)(G:Ext J F)(hm:∀p,p∈iv->p∈K):jS F (Cv S B K) v q:=
 ((h.rel r L).cP fun g V=>G.block g (rlo r L g V)).cO fun _ V=>V.mono hm
end
theorem Ep{v:Value}{a b:Int}(L:Old S w)(hp:kU w S v a b):
  eD PG Fd.oP #[v] w (eL w fun v' _=>v'=iV (rs (ratio a b))):=by
 have Y:=bR w;obtain⟨b1,l1,b2,l2,rfl,ha,Qi⟩:=hp;obtain⟨_,a1,n1,c1,e1⟩:=ha.shape;obtain⟨_,a2,n2,c2,e2⟩:=Qi.shape;simp only[Value.agg.injEq,Array.mk.injEq,List.cons.injEq,and_true]at e1 e2;obtain⟨_,rfl⟩:=e1;obtain⟨_,rfl⟩:=e2;replace ha:=ha.cO (S':=Cv S w.heap.size []) fun _ h=>.inl h;replace Qi:=Qi.cO (S':=Cv S w.heap.size []) fun _ h=>.inl h;have hr:=JL a b;have sa:=fh a;refine vw ce ?_;refine cM (cE Y (pE (iV b.sign)) (fun O J r=>gM (rlo r L) (Qi.rel r L)) ?_);rintro O _ _ _ OS r G Y A rfl;replace ha:=ha.cL r L G (mC A);apply bS<;>intro h
 .have h:=aI h;rw[aM h]at hr;refine cM (cE Y (pE (iV a.sign)) (fun O J r=>gM (rlo r L) (ha.rel r L)) ?_);rintro O Pc v2 PK iv2 r G Y A rfl;refine⟨-a.sign,wo,?_⟩;exact rtn Y fun I8 we re=>by rw[hr];rfl
 have h:=aL h;rw[aK h]at hr;refine cM (cE Y (pE (iV a.sign)) (fun O J r=>gM (rlo r L) (ha.rel r L)) ?_);rintro O _ _ _ iv2 r G Y A rfl;exact rtn Y fun I8 we re=>by rw[hr];rfl
theorem HX{v:Value}(L:Old S w)(hp:cZ w S v p):eD PG Fd.oP #[v] w (eL w fun v' _=>v'=iV (rs p)):=by
 have:=Ep L hp.r;rw[s7]at this;exact this
theorem jI{v:Value}(L:Old S w)(hp:jS w S v p):
  eD PG Fd.tC #[v] w (eL w fun v' F=>cZ F (Nf w F) v' p):=by
 have Y:=bR w;obtain⟨b1,l1,b2,l2,a,b,rfl,ha,Qi,rfl⟩:=hp;obtain⟨_,a1,n1,c1,e1⟩:=ha.shape;obtain⟨_,a2,n2,c2,e2⟩:=Qi.shape;simp only[Value.agg.injEq,Array.mk.injEq,List.cons.injEq,and_true]at e1 e2;obtain⟨_,rfl⟩:=e1;obtain⟨_,rfl⟩:=e2;replace ha:=ha.cO (S':=Cv S w.heap.size []) fun _ h=>.inl h;replace Qi:=Qi.cO (S':=Cv S w.heap.size []) fun _ h=>.inl h;have sb:=fh b;refine vz ce ?_;refine cM (cN (I9:=fun _ J v F=>v=iV b.sign) (fun O J r=>gM (rlo r L) (Qi.rel r L).r) ?_);rintro O On v1 Oi r G N rfl;replace Y:=Y.tr N;replace ha:=ha.cL (K:=(On.heap.size,Oi.heap.size)::[]) r L G fun x E=>aD _ E;replace Qi:=Qi.cL (K:=(On.heap.size,Oi.heap.size)::[]) r L G fun x E=>aD _ E;generalize (On.heap.size,Oi.heap.size)::[]=OS at*
 apply bS<;>intro h
 .have h:b.sign=0:=by simpa using h
  obtain rfl:b=0:=by omega
  rw[show ratio a 0=Rat.divInt a 1 from aM rfl];refine dP (idO 5) ?_;refine cN (I9:=fun _ J v F=>dG F (Nf J F) v (1)) (fun O J r=>lF _ J bv bv) ?_;rintro O Pc v2 PK r G N U;replace Y:=Y.tr N;replace ha:=ha.cL (K:=(Pc.heap.size,PK.heap.size)::OS) r L G fun x E=>aD _ E;replace Qi:=Qi.cL (K:=(Pc.heap.size,PK.heap.size)::OS) r L G fun x E=>aD _ E;have W:=U.eX (S:=FF) r.cR (iv:=(Pc.heap.size,PK.heap.size)::OS) aF;generalize (Pc.heap.size,PK.heap.size)::OS=iv2 at*
  obtain⟨A0,A1,A2,A3,rfl⟩:=W.shape;refine cN (I9:=fun _ J v F=>cZ F (Nf J F) v (Rat.divInt a 1)) (fun O J r=>mj (rlo r L) (ha.rel r L) (((W.rel r oF).l (k:=1) bv).cO fun g V=>Cv.false V) be be bv) ?_;rintro O PT v3 PX r G N U;replace Y:=Y.tr N;replace ha:=ha.cL (K:=(PT.heap.size,PX.heap.size)::iv2) r L G fun x E=>aD _ E;replace Qi:=Qi.cL (K:=(PT.heap.size,PX.heap.size)::iv2) r L G fun x E=>aD _ E;replace W:=W.cL (K:=(PT.heap.size,PX.heap.size)::iv2) r oF G fun x E=>aD _ E;have hR:=U.eX (S:=FF) r.cR (iv:=(PT.heap.size,PX.heap.size)::iv2) aF;generalize (PT.heap.size,PX.heap.size)::iv2=OR at*
  obtain⟨C0,C1,C2,C3,C4,C5,C6,C7,rfl⟩:=hR.shape;exact rtn Y fun I8 we re=>hR.out re oF
 have h:b.sign≠0:=by simpa using h
 have Ri:b≠0:=by omega
 rw[show ratio a b=Rat.divInt a b from aK Ri];refine cM (cN (I9:=fun _ J v F=>cZ F (Nf J F) v (Rat.divInt a b)) (fun O J r=>mj (rlo r L) (ha.rel r L) (Qi.rel r L) be be Ri) ?_);rintro O Pc v2 PK r G N U;replace Y:=Y.tr N;replace ha:=ha.cL (K:=(Pc.heap.size,PK.heap.size)::OS) r L G fun x E=>aD _ E;replace Qi:=Qi.cL (K:=(Pc.heap.size,PK.heap.size)::OS) r L G fun x E=>aD _ E;have hR:=U.eX (S:=FF) r.cR (iv:=(Pc.heap.size,PK.heap.size)::OS) aF;generalize (Pc.heap.size,PK.heap.size)::OS=iv2 at*
 obtain⟨A0,A1,A2,A3,A4,A5,A6,A7,rfl⟩:=hR.shape;exact rtn Y fun I8 we re=>hR.out re oF
theorem wy{v:Value}(L:Old S w)(hp:jS w S v p):
  eD PG Fd.vN #[v] w (eL w fun v' _=>∃n d ok,v'= .tuple #[iV n,iV d,.bool ok]/\(ok=true->d≠0/\n.natAbs<1073741824/\d.natAbs<1073741824/\Rat.divInt n d=p)):=by
 have Y:=bR w;obtain⟨b1,l1,b2,l2,a,b,rfl,ha,Qi,rfl⟩:=hp;obtain⟨_,a1,n1,c1,e1⟩:=ha.shape;obtain⟨_,a2,n2,c2,e2⟩:=Qi.shape;simp only[Value.agg.injEq,Array.mk.injEq,List.cons.injEq,and_true]at e1 e2;obtain⟨_,rfl⟩:=e1;obtain⟨_,rfl⟩:=e2;replace ha:=ha.cO (S':=Cv S w.heap.size []) fun _ h=>.inl h;replace Qi:=Qi.cO (S':=Cv S w.heap.size []) fun _ h=>.inl h;refine yO ce ?_
 refine cM (cN (I9:=fun _ J v F=>∃n p,v= .tuple #[iV n,.bool p]/\(p=true->n=a/\a.natAbs<1073741824)) (fun O J r=>(nm (rlo r L) (ha.rel r L).r).mono fun e F ⟨v2,e1,e2,e3⟩=>⟨v2,e1,e2,by
   rw[e3,jj];split
   .exact⟨_,_,rfl,fun _=>⟨rfl,‹_›⟩⟩
   .exact⟨_,_,rfl,fun h=>by cases h⟩⟩) ?_)
 rintro O On v1 Oi r G N ⟨na,pa,rfl,qa⟩;replace Y:=Y.tr N;replace ha:=ha.cL (K:=(On.heap.size,Oi.heap.size)::[]) r L G fun x E=>aD _ E;replace Qi:=Qi.cL (K:=(On.heap.size,Oi.heap.size)::[]) r L G fun x E=>aD _ E;generalize (On.heap.size,Oi.heap.size)::[]=OS at*
 refine cM (cN (I9:=fun _ J v F=>∃n p,v= .tuple #[iV n,.bool p]/\(p=true->n=b/\b.natAbs<1073741824)) (fun O J r=>(nm (rlo r L) (Qi.rel r L).r).mono fun e F ⟨v2,e1,e2,e3⟩=>⟨v2,e1,e2,by
   rw[e3,jj];split
   .exact⟨_,_,rfl,fun _=>⟨rfl,‹_›⟩⟩
   .exact⟨_,_,rfl,fun h=>by cases h⟩⟩) ?_)
 rintro O Pc v2 PK r G N ⟨nb,pb,rfl,qb⟩;replace Y:=Y.tr N;replace ha:=ha.cL (K:=(Pc.heap.size,PK.heap.size)::OS) r L G fun x E=>aD _ E;replace Qi:=Qi.cL (K:=(Pc.heap.size,PK.heap.size)::OS) r L G fun x E=>aD _ E;generalize (Pc.heap.size,PK.heap.size)::OS=iv2 at*
 apply bS<;>intro h
 .have h:nb=0:=by simpa using h
  apply bS<;>intro W
  .intro I8 we re
   exact⟨_,rfl,Y.tr re.cV,⟨na,1,pb,rfl,fun I=>by
     obtain⟨rfl,E⟩:=qa W;obtain⟨rfl,hy⟩:=qb I;rw[h]
     exact⟨bv,E,bv,(aM rfl).symm⟩⟩⟩
  exact rtn Y fun I8 we re=>⟨na,1,false,rfl,fun I=>by cases I⟩
 have h:nb≠0:=by simpa using h
 apply bS<;>intro W
 .intro I8 we re
  exact⟨_,rfl,Y.tr re.cV,⟨na,nb,pb,rfl,fun I=>by
    obtain⟨rfl,E⟩:=qa W;obtain⟨rfl,hy⟩:=qb I
    exact⟨h,E,hy,(aK h).symm⟩⟩⟩
 exact rtn Y fun I8 we re=>⟨na,nb,false,rfl,fun I=>by cases I⟩
theorem JM{v:Value}(L:Old S w)(hp:jS w S v p)(hq:jS w S u q):
  eD PG Fd.AE #[v,u] w (eL w fun v' F=>cZ F (Nf w F) v' (p+q)):=by
 have Y:=bR w;replace hp:=hp.cO (S':=Cv S w.heap.size []) fun _ h=>.inl h;replace hq:=hq.cO (S':=Cv S w.heap.size []) fun _ h=>.inl h;obtain⟨b1,a1,n1,c1,b2,a2,n2,c2,rfl⟩:=hp.shape;obtain⟨b3,a3,n3,c3,b4,a4,n4,c4,rfl⟩:=hq.shape;refine BK ce ?_;have r1:=hp.rl;have r2:=hq.rl;have u1:=fj p;have u2:=fC p;have u3:=fj q;have u4:=fC q;refine cM (cE Y (fun _ J v F=>∃n d ok,v= .tuple #[iV n,iV d,.bool ok]/\(ok=true->d≠0/\n.natAbs<1073741824/\d.natAbs<1073741824/\Rat.divInt n d=p)) (fun O J r=>wy (rlo r L) (hp.rel r L)) ?_);rintro O _ _ _ OS r G Y A ⟨a,b,k1,rfl,g1⟩;replace hp:=hp.cL r L G (mC A);replace hq:=hq.cL r L G (mC A);refine cM (cE Y (fun _ J v F=>∃n d ok,v= .tuple #[iV n,iV d,.bool ok]/\(ok=true->d≠0/\n.natAbs<1073741824/\d.natAbs<1073741824/\Rat.divInt n d=q)) (fun O J r=>wy (rlo r L) (hq.rel r L)) ?_);rintro O _ _ _ iv2 r G Y A ⟨c,d,k2,rfl,g2⟩;replace hp:=hp.cL r L G (mC A);replace hq:=hq.cL r L G (mC A);apply bS<;>intro W
 .apply bS<;>intro I
  .obtain⟨g3,g4,g5,g6⟩:=g1 W;obtain⟨g7,g8,g9,g10⟩:=g2 I;have i1:=j9 g4 g9;have i2:=j9 g8 g5;have i3:=j9 g5 g9;have i4:=j9 g4 g8;refine⟨a*d,wo,c*b,wo,a*d+c*b,wo,b*d,wo,?_⟩;have e:=Rat.divInt_add_divInt a c g3 g7;rw[g6,g10]at e;refine cM (cE Y (pR cZ (p+q)) (fun O J r=>e▸rU (a*d+c*b) (b*d) J be be (kc g3 g7)) ?_);rintro O PT v3 PX OR r G Y A U;have hR:=U.cO (nw r A);obtain⟨A0,A1,A2,A3,A4,A5,A6,A7,rfl⟩:=hR.shape;exact rtn Y fun I8 we re=>hR.out re oF
  refine dP [.x 0,.x 2,.x 1,.x 3,.x 4,.x 5] ?_;refine cE Y (pR cZ (p)) (fun O J r=>jI (rlo r L) (hp.rel r L)) ?_;rintro O PT v3 PX OR r G Y A U;replace hq:=hq.cL r L G (mC A);have hX:=U.cO (nw r A);obtain⟨A0,A1,A2,A3,A4,A5,A6,A7,rfl⟩:=hX.shape;refine cE Y (pR cZ (q)) (fun O J r=>jI (rlo r L) (hq.rel r L)) ?_;rintro O QX v4 QA Ob r G Y A U;replace hX:=hX.cL r oF G (mC A);have hY:=U.cO (nw r A);obtain⟨C0,C1,C2,C3,C4,C5,C6,C7,rfl⟩:=hY.shape;have Qm:=hX.num;have QY:=hX.den;have RB:=hY.num;have Qn:=hY.den;have m0:=cz p.num q.den;have m1:=cz q.num p.den;have m2:=cz (p.den:Int) q.den;have m3:=iU (p.num*q.den) (q.num*p.den);have m4:=cz p.num q.num;refine dP [.x 0,.x 1,.x 2,.x 3,.x 5,.x 6,.x 7,.x 8,.x 11,.x 12,.x 13,.x 14,.x 4,.x 9,.x 10,.x 15,.x 16,.x 17] ?_;refine cE Y (pR dG (p.num*(q.den:Int))) (fun O J r=>jG (rlo r oF) ((Qm.rel r oF).l (k:=100000) be) ((Qn.rel r oF).l (k:=100000) be) be be) ?_;rintro O UL v5 UM Of r G Y A U;replace Qm:=Qm.cL r oF G (mC A);replace QY:=QY.cL r oF G (mC A);replace RB:=RB.cL r oF G (mC A);replace Qn:=Qn.cL r oF G (mC A);have hA:=U.cO (nw r A);obtain⟨E0,E1,E2,E3,rfl⟩:=hA.shape;refine cE Y (pR dG (q.num*(p.den:Int))) (fun O J r=>jG (rlo r oF) ((RB.rel r oF).l (k:=100000) be) ((QY.rel r oF).l (k:=100000) be) be be) ?_;rintro O SD v6 SE PL r G Y A U;replace Qm:=Qm.cL r oF G (mC A);replace QY:=QY.cL r oF G (mC A);replace RB:=RB.cL r oF G (mC A);replace Qn:=Qn.cL r oF G (mC A);replace hA:=hA.cL r oF G (mC A);have hB:=U.cO (nw r A);obtain⟨F0,F1,F2,F3,rfl⟩:=hB.shape;refine cE Y (pR dG (p.num*(q.den:Int)+q.num*(p.den:Int))) (fun O J r=>yw (rlo r oF) ((hA.rel r oF).l (k:=200000) be) ((hB.rel r oF).l (k:=200000) be) be be) ?_;rintro O Sj v7 Sk QB r G Y A U;replace Qm:=Qm.cL r oF G (mC A);replace QY:=QY.cL r oF G (mC A);replace RB:=RB.cL r oF G (mC A);replace Qn:=Qn.cL r oF G (mC A);have hN:=U.cO (nw r A);obtain⟨G0,G1,G2,G3,rfl⟩:=hN.shape;refine cE Y (pR dG ((p.den:Int)*(q.den:Int))) (fun O J r=>jG (rlo r oF) ((QY.rel r oF).l (k:=100000) be) ((Qn.rel r oF).l (k:=100000) be) be be) ?_;rintro O wa8 v8 wb8 RT r G Y A U;replace Qm:=Qm.cL r oF G (mC A);replace QY:=QY.cL r oF G (mC A);replace RB:=RB.cL r oF G (mC A);replace Qn:=Qn.cL r oF G (mC A);replace hN:=hN.cL r oF G (mC A);have hD:=U.cO (nw r A);obtain⟨I0,I1,I2,I3,rfl⟩:=hD.shape;refine cE Y (pR cZ (p+q)) (fun O J r=>(ss p q)▸mj (rlo r oF) ((hN.rel r oF).l (k:=200001) be) ((hD.rel r oF).l (k:=200001) be) be be (kc (gC p) (gC q))) ?_;rintro O SN v9 SO Ta r G Y A U;have hR:=U.cO (nw r A);obtain⟨J0,J1,J2,J3,J4,J5,J6,J7,rfl⟩:=hR.shape;exact rtn Y fun I8 we re=>hR.out re oF
 refine dP [.x 0,.x 2,.x 1,.x 3,.x 4,.x 5] ?_;refine cE Y (pR cZ (p)) (fun O J r=>jI (rlo r L) (hp.rel r L)) ?_;rintro O _ _ _ OR r G Y A U;replace hq:=hq.cL r L G (mC A);have hX:=U.cO (nw r A);obtain⟨A0,A1,A2,A3,A4,A5,A6,A7,rfl⟩:=hX.shape;refine cE Y (pR cZ (q)) (fun O J r=>jI (rlo r L) (hq.rel r L)) ?_;rintro O _ _ _ Ob r G Y A U;replace hX:=hX.cL r oF G (mC A);have hY:=U.cO (nw r A);obtain⟨C0,C1,C2,C3,C4,C5,C6,C7,rfl⟩:=hY.shape;have Qm:=hX.num;have QY:=hX.den;have RB:=hY.num;have Qn:=hY.den;have m0:=cz p.num q.den;have m1:=cz q.num p.den;have m2:=cz (p.den:Int) q.den;have m3:=iU (p.num*q.den) (q.num*p.den);have m4:=cz p.num q.num;refine dP [.x 0,.x 1,.x 2,.x 3,.x 5,.x 6,.x 7,.x 8,.x 11,.x 12,.x 13,.x 14,.x 4,.x 9,.x 10,.x 15,.x 16,.x 17] ?_;refine cE Y (pR dG (p.num*(q.den:Int))) (fun O J r=>jG (rlo r oF) ((Qm.rel r oF).l (k:=100000) be) ((Qn.rel r oF).l (k:=100000) be) be be) ?_;rintro O _ _ _ Of r G Y A U;replace Qm:=Qm.cL r oF G (mC A);replace QY:=QY.cL r oF G (mC A);replace RB:=RB.cL r oF G (mC A);replace Qn:=Qn.cL r oF G (mC A);have hA:=U.cO (nw r A);obtain⟨E0,E1,E2,E3,rfl⟩:=hA.shape;refine cE Y (pR dG (q.num*(p.den:Int))) (fun O J r=>jG (rlo r oF) ((RB.rel r oF).l (k:=100000) be) ((QY.rel r oF).l (k:=100000) be) be be) ?_;rintro O _ _ _ PL r G Y A U;replace Qm:=Qm.cL r oF G (mC A);replace QY:=QY.cL r oF G (mC A);replace RB:=RB.cL r oF G (mC A);replace Qn:=Qn.cL r oF G (mC A);replace hA:=hA.cL r oF G (mC A);have hB:=U.cO (nw r A);obtain⟨F0,F1,F2,F3,rfl⟩:=hB.shape;refine cE Y (pR dG (p.num*(q.den:Int)+q.num*(p.den:Int))) (fun O J r=>yw (rlo r oF) ((hA.rel r oF).l (k:=200000) be) ((hB.rel r oF).l (k:=200000) be) be be) ?_;rintro O _ _ _ QB r G Y A U;replace Qm:=Qm.cL r oF G (mC A);replace QY:=QY.cL r oF G (mC A);replace RB:=RB.cL r oF G (mC A);replace Qn:=Qn.cL r oF G (mC A);have hN:=U.cO (nw r A);obtain⟨G0,G1,G2,G3,rfl⟩:=hN.shape;refine cE Y (pR dG ((p.den:Int)*(q.den:Int))) (fun O J r=>jG (rlo r oF) ((QY.rel r oF).l (k:=100000) be) ((Qn.rel r oF).l (k:=100000) be) be be) ?_;rintro O _ _ _ RT r G Y A U;replace Qm:=Qm.cL r oF G (mC A);replace QY:=QY.cL r oF G (mC A);replace RB:=RB.cL r oF G (mC A);replace Qn:=Qn.cL r oF G (mC A);replace hN:=hN.cL r oF G (mC A);have hD:=U.cO (nw r A);obtain⟨I0,I1,I2,I3,rfl⟩:=hD.shape;refine cE Y (pR cZ (p+q)) (fun O J r=>(ss p q)▸mj (rlo r oF) ((hN.rel r oF).l (k:=200001) be) ((hD.rel r oF).l (k:=200001) be) be be (kc (gC p) (gC q))) ?_;rintro O _ _ _ Ta r G Y A U;have hR:=U.cO (nw r A);obtain⟨J0,J1,J2,J3,J4,J5,J6,J7,rfl⟩:=hR.shape;exact rtn Y fun I8 we re=>hR.out re oF
theorem Ls{v:Value}(L:Old S w)(hp:jS w S v p)(hq:jS w S u q):
  eD PG Fd.AF #[v,u] w (eL w fun v' F=>cZ F (Nf w F) v' (p*q)):=by
 have Y:=bR w;replace hp:=hp.cO (S':=Cv S w.heap.size []) fun _ h=>.inl h;replace hq:=hq.cO (S':=Cv S w.heap.size []) fun _ h=>.inl h;obtain⟨b1,a1,n1,c1,b2,a2,n2,c2,rfl⟩:=hp.shape;obtain⟨b3,a3,n3,c3,b4,a4,n4,c4,rfl⟩:=hq.shape;refine BL ce ?_;have r1:=hp.rl;have r2:=hq.rl;have u1:=fj p;have u2:=fC p;have u3:=fj q;have u4:=fC q;refine cM (cE Y (fun _ J v F=>∃n d ok,v= .tuple #[iV n,iV d,.bool ok]/\(ok=true->d≠0/\n.natAbs<1073741824/\d.natAbs<1073741824/\Rat.divInt n d=p)) (fun O J r=>wy (rlo r L) (hp.rel r L)) ?_);rintro O _ _ _ OS r G Y A ⟨a,b,k1,rfl,g1⟩;replace hp:=hp.cL r L G (mC A);replace hq:=hq.cL r L G (mC A);refine cM (cE Y (fun _ J v F=>∃n d ok,v= .tuple #[iV n,iV d,.bool ok]/\(ok=true->d≠0/\n.natAbs<1073741824/\d.natAbs<1073741824/\Rat.divInt n d=q)) (fun O J r=>wy (rlo r L) (hq.rel r L)) ?_);rintro O _ _ _ iv2 r G Y A ⟨c,d,k2,rfl,g2⟩;replace hp:=hp.cL r L G (mC A);replace hq:=hq.cL r L G (mC A);apply bS<;>intro W
 .apply bS<;>intro I
  .obtain⟨g3,g4,g5,g6⟩:=g1 W;obtain⟨g7,g8,g9,g10⟩:=g2 I;have i1:=j9 g4 g9;have i2:=j9 g8 g5;have i3:=j9 g5 g9;have i4:=j9 g4 g8;refine⟨a*c,wo,b*d,wo,?_⟩;have e:=Rat.divInt_mul_divInt a c (d₁:=b) (d₂:=d);rw[g6,g10]at e;refine cM (cE Y (pR cZ (p*q)) (fun O J r=>e▸rU (a*c) (b*d) J be be (kc g3 g7)) ?_);rintro O PT v3 PX OR r G Y A U;have hR:=U.cO (nw r A);obtain⟨A0,A1,A2,A3,A4,A5,A6,A7,rfl⟩:=hR.shape;exact rtn Y fun I8 we re=>hR.out re oF
  refine dP [.x 0,.x 2,.x 1,.x 3,.x 4,.x 5] ?_;refine cE Y (pR cZ (p)) (fun O J r=>jI (rlo r L) (hp.rel r L)) ?_;rintro O PT v3 PX OR r G Y A U;replace hq:=hq.cL r L G (mC A);have hX:=U.cO (nw r A);obtain⟨A0,A1,A2,A3,A4,A5,A6,A7,rfl⟩:=hX.shape;refine cE Y (pR cZ (q)) (fun O J r=>jI (rlo r L) (hq.rel r L)) ?_;rintro O QX v4 QA Ob r G Y A U;replace hX:=hX.cL r oF G (mC A);have hY:=U.cO (nw r A);obtain⟨C0,C1,C2,C3,C4,C5,C6,C7,rfl⟩:=hY.shape;have Qm:=hX.num;have QY:=hX.den;have RB:=hY.num;have Qn:=hY.den;have m0:=cz p.num q.den;have m1:=cz q.num p.den;have m2:=cz (p.den:Int) q.den;have m3:=iU (p.num*q.den) (q.num*p.den);have m4:=cz p.num q.num;refine dP [.x 0,.x 1,.x 2,.x 3,.x 5,.x 6,.x 7,.x 8,.x 4,.x 9,.x 10,.x 11] ?_;refine cE Y (pR dG (p.num*q.num)) (fun O J r=>jG (rlo r oF) ((Qm.rel r oF).l (k:=100000) be) ((RB.rel r oF).l (k:=100000) be) be be) ?_;rintro O UL v5 UM Of r G Y A U;replace Qm:=Qm.cL r oF G (mC A);replace QY:=QY.cL r oF G (mC A);replace RB:=RB.cL r oF G (mC A);replace Qn:=Qn.cL r oF G (mC A);have hN:=U.cO (nw r A);obtain⟨E0,E1,E2,E3,rfl⟩:=hN.shape;refine cE Y (pR dG ((p.den:Int)*(q.den:Int))) (fun O J r=>jG (rlo r oF) ((QY.rel r oF).l (k:=100000) be) ((Qn.rel r oF).l (k:=100000) be) be be) ?_;rintro O SD v6 SE PL r G Y A U;replace Qm:=Qm.cL r oF G (mC A);replace QY:=QY.cL r oF G (mC A);replace RB:=RB.cL r oF G (mC A);replace Qn:=Qn.cL r oF G (mC A);replace hN:=hN.cL r oF G (mC A);have hD:=U.cO (nw r A);obtain⟨F0,F1,F2,F3,rfl⟩:=hD.shape;refine cE Y (pR cZ (p*q)) (fun O J r=>(wU p q)▸mj (rlo r oF) ((hN.rel r oF).l (k:=200001) be) ((hD.rel r oF).l (k:=200001) be) be be (kc (gC p) (gC q))) ?_;rintro O Sj v7 Sk QB r G Y A U;have hR:=U.cO (nw r A);obtain⟨G0,G1,G2,G3,G4,G5,G6,G7,rfl⟩:=hR.shape;exact rtn Y fun I8 we re=>hR.out re oF
 refine dP [.x 0,.x 2,.x 1,.x 3,.x 4,.x 5] ?_;refine cE Y (pR cZ (p)) (fun O J r=>jI (rlo r L) (hp.rel r L)) ?_;rintro O _ _ _ OR r G Y A U;replace hq:=hq.cL r L G (mC A);have hX:=U.cO (nw r A);obtain⟨A0,A1,A2,A3,A4,A5,A6,A7,rfl⟩:=hX.shape;refine cE Y (pR cZ (q)) (fun O J r=>jI (rlo r L) (hq.rel r L)) ?_;rintro O _ _ _ Ob r G Y A U;replace hX:=hX.cL r oF G (mC A);have hY:=U.cO (nw r A);obtain⟨C0,C1,C2,C3,C4,C5,C6,C7,rfl⟩:=hY.shape;have Qm:=hX.num;have QY:=hX.den;have RB:=hY.num;have Qn:=hY.den;have m0:=cz p.num q.den;have m1:=cz q.num p.den;have m2:=cz (p.den:Int) q.den;have m3:=iU (p.num*q.den) (q.num*p.den);have m4:=cz p.num q.num;refine dP [.x 0,.x 1,.x 2,.x 3,.x 5,.x 6,.x 7,.x 8,.x 4,.x 9,.x 10,.x 11] ?_;refine cE Y (pR dG (p.num*q.num)) (fun O J r=>jG (rlo r oF) ((Qm.rel r oF).l (k:=100000) be) ((RB.rel r oF).l (k:=100000) be) be be) ?_;rintro O _ _ _ Of r G Y A U;replace Qm:=Qm.cL r oF G (mC A);replace QY:=QY.cL r oF G (mC A);replace RB:=RB.cL r oF G (mC A);replace Qn:=Qn.cL r oF G (mC A);have hN:=U.cO (nw r A);obtain⟨E0,E1,E2,E3,rfl⟩:=hN.shape;refine cE Y (pR dG ((p.den:Int)*(q.den:Int))) (fun O J r=>jG (rlo r oF) ((QY.rel r oF).l (k:=100000) be) ((Qn.rel r oF).l (k:=100000) be) be be) ?_;rintro O _ _ _ PL r G Y A U;replace Qm:=Qm.cL r oF G (mC A);replace QY:=QY.cL r oF G (mC A);replace RB:=RB.cL r oF G (mC A);replace Qn:=Qn.cL r oF G (mC A);replace hN:=hN.cL r oF G (mC A);have hD:=U.cO (nw r A);obtain⟨F0,F1,F2,F3,rfl⟩:=hD.shape;refine cE Y (pR cZ (p*q)) (fun O J r=>(wU p q)▸mj (rlo r oF) ((hN.rel r oF).l (k:=200001) be) ((hD.rel r oF).l (k:=200001) be) be be (kc (gC p) (gC q))) ?_;rintro O _ _ _ QB r G Y A U;have hR:=U.cO (nw r A);obtain⟨G0,G1,G2,G3,G4,G5,G6,G7,rfl⟩:=hR.shape;exact rtn Y fun I8 we re=>hR.out re oF
theorem ua{v:Value}(L:Old S w)(hp:jS w S v p):
  eD PG Fd.AA #[v] w (eL w fun v' F=>cZ F (Nf w F) v' (-p)):=by
 have Y:=bR w;replace hp:=hp.cO (S':=Cv S w.heap.size []) fun _ h=>.inl h;obtain⟨b1,a1,n1,c1,b2,a2,n2,c2,rfl⟩:=hp.shape;refine BH ce ?_;have r1:=hp.rl;have u1:=fj p;have u2:=fC p;refine cM (cE Y (pR cZ (p)) (fun O J r=>jI (rlo r L) (hp.rel r L)) ?_);rintro O _ _ _ OS r G Y A U;have hX:=U.cO (nw r A);obtain⟨A0,A1,A2,A3,A4,A5,A6,A7,rfl⟩:=hX.shape;have Qm:=hX.num;have QY:=hX.den;refine dP [.x 0,.x 1,.x 3,.x 4,.x 2,.x 5,.x 6] ?_;refine cE Y (pR dG (-p.num)) (fun O J r=>mJ (rlo r oF) ((Qm.rel r oF).l (k:=100000) be) be) ?_;rintro O _ _ _ iv2 r G Y A U;replace QY:=QY.cL r oF G (mC A);have hN:=U.cO (nw r A);obtain⟨C0,C1,C2,C3,rfl⟩:=hN.shape;refine cE Y (pR cZ (-p)) (fun O J r=>show eD _ _ _ _ (eL _ fun v F=>cZ F _ v (-p))from(show Rat.divInt (-p.num) p.den= -p by rw[<-Rat.neg_divInt,Rat.num_divInt_den])▸mj (rlo r oF) ((hN.rel r oF).l (k:=100000) (by rw[cJ];omega)) ((QY.rel r oF).l (k:=100000) be) be be (gC p)) ?_;rintro O _ _ _ OR r G Y A U;have hR:=U.cO (nw r A);obtain⟨E0,E1,E2,E3,E4,E5,E6,E7,rfl⟩:=hR.shape;exact rtn Y fun I8 we re=>hR.out re oF
theorem Lt{v:Value}(L:Old S w)(hp:jS w S v p)(hq:jS w S u q):
  eD PG Fd.AD #[v,u] w (eL w fun v' F=>cZ F (Nf w F) v' (p-q)):=by
 have Y:=bR w;replace hp:=hp.cO (S':=Cv S w.heap.size []) fun _ h=>.inl h;replace hq:=hq.cO (S':=Cv S w.heap.size []) fun _ h=>.inl h;obtain⟨b1,a1,n1,c1,b2,a2,n2,c2,rfl⟩:=hp.shape;obtain⟨b3,a3,n3,c3,b4,a4,n4,c4,rfl⟩:=hq.shape;refine BJ ce ?_;have r1:=hp.rl;have r2:=hq.rl;have u1:=jM q;refine dP (idO 5) ?_;refine cE Y (pR cZ (-q)) (fun O J r=>ua (rlo r L) (hq.rel r L)) ?_;rintro O _ _ _ OS r G Y A U;replace hp:=hp.cL r L G (mC A);have hN:=U.cO (nw r A);obtain⟨A0,A1,A2,A3,A4,A5,A6,A7,rfl⟩:=hN.shape;refine cE Y (pR cZ (p-q)) (fun O J r=>(Rat.sub_eq_add_neg p q)▸JM (rlo r L) (hp.rel r L) (((hN.rel r oF).l be).cO fun g V=>Cv.false V)) ?_;rintro O _ _ _ iv2 r G Y A U;have hR:=U.cO (nw r A);obtain⟨C0,C1,C2,C3,C4,C5,C6,C7,rfl⟩:=hR.shape;exact rtn Y fun I8 we re=>hR.out re oF
theorem ud{v:Value}(L:Old S w)(hp:jS w S v p)(hq:jS w S u q):
  eD PG Fd.zz #[v,u] w (eL w fun v' _=>v'=iV (rs (p-q))):=by
 have Y:=bR w;replace hp:=hp.cO (S':=Cv S w.heap.size []) fun _ h=>.inl h;replace hq:=hq.cO (S':=Cv S w.heap.size []) fun _ h=>.inl h;obtain⟨b1,a1,n1,c1,b2,a2,n2,c2,rfl⟩:=hp.shape;obtain⟨b3,a3,n3,c3,b4,a4,n4,c4,rfl⟩:=hq.shape;refine BG ce ?_;refine cM (cE Y (pR cZ (p-q)) (fun O J r=>Lt (rlo r L) (hp.rel r L) (hq.rel r L)) ?_);rintro O _ _ _ OS r G Y A U;have hR:=U.cO (nw r A);obtain⟨A0,A1,A2,A3,A4,A5,A6,A7,rfl⟩:=hR.shape;refine cM (cE Y (pE (iV (rs (p-q)))) (fun O J r=>HX (rlo r oF) (hR.rel r oF)) ?_);rintro O _ _ _ iv2 r G Y A rfl;exact rtn Y fun I8 we re=>rfl
theorem vX(n:Int)(w:World)(h1n: -9223372036854775808<=n)(h2n:n<=9223372036854775807):
  eD PG Fd.qI #[iV n] w (eL w fun v' F=>cZ F (Nf w F) v' (n:Rat)):=by
 have Y:=bR w;have ha:=tc h1n h2n;refine qQ ce ?_;refine cM (cE Y (pR dG (n)) (fun O J r=>lF n J h1n h2n) ?_);rintro O _ _ _ OS r G Y A U;have hA:=U.cO (nw r A);obtain⟨A0,A1,A2,A3,rfl⟩:=hA.shape;refine cM (cE Y (pR dG (1)) (fun O J r=>lF 1 J bv bv) ?_);rintro O _ _ _ iv2 r G Y A U;replace hA:=hA.cL r oF G (mC A);have hB:=U.cO (nw r A);obtain⟨C0,C1,C2,C3,rfl⟩:=hB.shape;refine cM (cE Y (pR cZ ((n:Rat))) (fun O J r=>(yq n)▸mj (rlo r oF) ((hA.rel r oF).l (k:=2) be) ((hB.rel r oF).l (k:=2) bv) be be bv) ?_);rintro O _ _ _ OR r G Y A U;have hR:=U.cO (nw r A);obtain⟨E0,E1,E2,E3,E4,E5,E6,E7,rfl⟩:=hR.shape;exact rtn Y fun I8 we re=>hR.out re oF
section
variable{S S':Nat->Prop}{H:Hp}{nx:Nat}{iv K:Iv}{B:Nat}{w J F:World}{O:Nat->Sx.dc}{v:Value}{a:Int}{b:Int}
end
theorem jE.short{b:Bool}{n c k:Nat}{z:Int}(h:jE w S (.agg #[.bool b,.slice a n c]) z)(Z:n<=k):fA w S (.agg #[.bool b,.slice a n c]) k z:=by
 obtain⟨b2,ls,⟨lv,e1,h3⟩,I⟩:=h;obtain⟨a2,c2,e2,_⟩:=h3.sl;subst e2;simp only[Value.agg.injEq,Array.mk.injEq,List.cons.injEq,Value.bool.injEq,Value.slice.injEq,and_true]at e1;obtain⟨rfl,rfl,e3,rfl⟩:=e1;exact⟨_,ls,⟨_,by rw[e3],h3⟩,I,be⟩
theorem kU.Lu{b1 b2:Bool}{a1 a2:Option Addr}{n1 n2 c1 c2:Nat}{a b:Int}(h:kU w S (.agg #[.bool b1,.slice a1 n1 c1,.bool b2,.slice a2 n2 c2]) a b)(k1:n1<=3)(k2:n2<=3):
  jS w S (.agg #[.bool b1,.slice a1 n1 c1,.bool b2,.slice a2 n2 c2]) (ratio a b)/\rl (ratio a b)<=3:=by
 obtain⟨b1,l1,b2,l2,e,W,I⟩:=h;simp only[Value.agg.injEq,Array.mk.injEq,List.cons.injEq,Value.bool.injEq,and_true]at e;obtain⟨rfl,rfl,rfl,rfl⟩:=e;have i1:=W.short k1;have i2:=I.short k2;have q1:=i1.ln;have q2:=i2.ln;have q3:=CT a b;exact⟨⟨_,_,_,_,a,b,rfl,i1.up be,i2.up be,rfl⟩,be⟩
def vY(w:World)(S:Nat->Prop)(cs:List Value)(q:Rat):Prop:=∃b a n c b2 a2 n2 c2,cs=(rC b a n c b2 a2 n2 c2)/\jS w S (.agg #[.bool b,.slice a n c,.bool b2,.slice a2 n2 c2]) q
abbrev dM:=dU vY
abbrev jJ:=dD dM
section
variable{S S':Nat->Prop}{H:Hp}{nx:Nat}{iv K:Iv}{B:Nat}{w J F:World}{O:Nat->Sx.dc}{v:Value}{qs:List Rat}{cs:List Value}{q:Rat}
theorem vY.cP(h:vY w S cs q)(Z:∀g,S g->F.heap[g]? =w.heap[g]?):vY F S cs q:=by
 obtain⟨b,a,n,c,b2,a2,n2,c2,W,I⟩:=h;exact⟨b,a,n,c,b2,a2,n2,c2,W,I.cP Z⟩
theorem vY.cO(h:vY w S cs q)(Z:∀g,S g->S' g):vY w S' cs q:=by
 obtain⟨b,a,n,c,b2,a2,n2,c2,W,I⟩:=h;exact⟨b,a,n,c,b2,a2,n2,c2,W,I.cO Z⟩
theorem dM.cP(h:dM w S v qs)(Z:∀g,S g->F.heap[g]? =w.heap[g]?):dM F S v qs:=by
 obtain⟨M,W,I,h3,h4⟩:=h;exact⟨M,W.cP Z,I,h3,fun j cs x k1 k2=>(h4 j cs x k1 k2).cP Z⟩
theorem dM.cO(h:dM w S v qs)(Z:∀g,S g->S' g):dM w S' v qs:=by
 obtain⟨M,W,I,h3,h4⟩:=h;exact⟨M,W.cO Z,I,h3,fun j cs x k1 k2=>(h4 j cs x k1 k2).cO Z⟩
theorem jJ.cP(h:jJ w S v G8)(Z:∀g,S g->F.heap[g]? =w.heap[g]?):jJ F S v G8:=by
 obtain⟨rv,W,I,h3⟩:=h;exact⟨rv,W.cP Z,I,fun i u x k1 k2=>dM.cP (h3 i u x k1 k2) Z⟩
theorem jJ.cO(h:jJ w S v G8)(Z:∀g,S g->S' g):jJ w S' v G8:=by
 obtain⟨rv,W,I,h3⟩:=h;exact⟨rv,W.cO Z,I,fun i u x k1 k2=>dM.cO (h3 i u x k1 k2) Z⟩
end
section
variable{S S':Nat->Prop}{H:Hp}{nx:Nat}{iv K:Iv}{B:Nat}{w J F:World}{O:Nat->Sx.dc}{v:Value}{qs:List Rat}
end
section
variable{S S':Nat->Prop}{H:Hp}{nx:Nat}{iv K:Iv}{B:Nat}{w J F:World}{O:Nat->Sx.dc}{v:Value}{G8:List (List Rat)}
end
def JN:List Value->Head×Head
 |[.bool b,.slice a n c,.bool b2,.slice a2 n2 c2]=>((b,a,n,c),(b2,a2,n2,c2))
 |_=>((false,none,0,0),(false,none,0,0))
theorem DT(h:∀cs∈M,∃b a n c b2 a2 n2 c2,cs=(rC b a n c b2 a2 n2 c2)):ug (M.map JN)=M.flatten:=by
 induction M with
 |nil=>rfl
 |cons cs r ih=>
  obtain⟨b,a,n,c,b2,a2,n2,c2,rfl⟩:=h cs aF;rw[List.map_cons,List.flatten_cons,<-ih fun x E=>h x (aD _ E)];rfl
theorem dB.DU{v:Value}(h:dB w S v xs):
  ∃ks:List (Head×Head),fy w S 4 v (ug ks) ks.length/\((∀k∈ks,k.1.2.2.1<=3/\k.2.2.2.1<=3)->dM w S v (xs.map cU)/\(∀q∈xs.map cU,rl q<=3)/\wm xs):=by
 obtain⟨M,W,I,h3,h4⟩:=h;have hform:∀(j:Nat) cs,M[j]? =some cs->∃x,xs[j]? =some x/\yo w S cs x:=fun j cs hj=>by
  obtain⟨x,E⟩:∃x,xs[j]? =some x:=⟨_,aE (by rw[<-I];exact(aH.1 hj).1)⟩
  exact⟨x,E,h4 j cs x hj E⟩
 have hf:∀cs∈M,∃b a n c b2 a2 n2 c2,cs=[Value.bool b,.slice a n c,.bool b2,.slice a2 n2 c2]:=fun cs hc=>by
  obtain⟨j,hj,rfl⟩:=List.mem_iff_getElem.1 hc;obtain⟨x,_,b,a,n,c,b2,a2,n2,c2,e,_⟩:=hform j _ (aE hj);exact⟨b,a,n,c,b2,a2,n2,c2,e⟩
 refine⟨M.map JN,by rw[DT hf,aJ,I];exact W,fun Z=>?_⟩;have key:∀(j:Nat) cs x,M[j]? =some cs->xs[j]? =some x->vY w S cs (cU x)/\rl (cU x)<=3/\ln x.1.natAbs<=10000000000/\ln x.2.natAbs<=10000000000:=fun j cs x k1 k2=>by
  obtain⟨b,a,n,c,b2,a2,n2,c2,rfl,hr⟩:=h4 j cs x k1 k2;have:=Z _ (bD.2 ⟨_,aG k1,rfl⟩);obtain⟨r1,r2⟩:=hr.Lu this.1 this.2;obtain⟨_,_,_,_,e,i1,i2⟩:=hr;simp only[Value.agg.injEq,Array.mk.injEq,List.cons.injEq,Value.bool.injEq,and_true]at e;obtain⟨rfl,rfl,rfl,rfl⟩:=e;have l1:=(i1.short this.1).ln;have l2:=(i2.short this.2).ln;exact⟨⟨b,a,n,c,b2,a2,n2,c2,rfl,r1⟩,r2,be,be⟩
 refine⟨⟨M,by rw[aJ];exact W,by rw[aJ];exact I,h3,fun j cs q k1 k2=>?_⟩,fun q hq=>?_,fun x E=>?_⟩
 .rw[aS]at k2;obtain⟨x,E,rfl⟩:=Option.map_eq_some_iff.1 k2;exact(key j cs x k1 E).1
 .obtain⟨x,E,rfl⟩:=bD.1 hq;obtain⟨j,hj,rfl⟩:=List.mem_iff_getElem.1 E;exact(key j _ _ (aE (by rw[I];exact hj)) (aE hj)).2.1
 .obtain⟨j,hj,rfl⟩:=List.mem_iff_getElem.1 E;exact(key j _ _ (aE (by rw[I];exact hj)) (aE hj)).2.2
def pD(n:Nat):Prop:=n<=5\/60<n/\n<=65
def mD(w:World)(S:Nat->Prop)(v:Value)(G8:List (List (Int×Int))):Prop:=pD G8.length/\(∀r∈G8,pD r.length)/\jJ w S v (de G8)/\(∀r∈de G8,∀q∈r,rl q<=3)/\∀r∈G8,wm r
theorem JO{v:Value}{G8:List (List (Int×Int))}(L:Old S w)(h:dK w S v G8):
  eD PG Fd.qG #[v] w (eL w fun v' _=>∃d,v'= .bool d/\(d=true->mD w S v G8)):=by
 have Y:=bR w;obtain⟨rv,⟨h0,hl0,W,a,c,rfl,hc,OY⟩,hl,OI⟩:=h;unfold maxLen at h0;refine yA ce ?_;conv=>whnf
 apply bS<;>intro h5
 .have h5:=aI h5;conv=>whnf
  apply bS<;>intro h60
  .have h60:=aI h60;conv=>whnf
   exact rtn Y fun I8 we re=>⟨false,rfl,fun h=>by cases h⟩
  have h60:=aL h60;conv=>whnf
  apply bS<;>intro h65
  .have h65:=aI h65;conv=>whnf
   exact rtn Y fun I8 we re=>⟨false,rfl,fun h=>by cases h⟩
  have h65:=aL h65;conv=>whnf
  refine⟨Nat×World×Iv,fun z=>⟨[(0,sV a G8.length c),(3,iN z.1)],[],0,z.2.2,z.2.1⟩,fun z=>G8.length-z.1,
   fun z=>z.1<=G8.length/\Bq w z.2.1/\∀(j:Nat) r u,j<z.1->G8[j]? =some r->rv[j]? =some u->pD r.length/\dM w S u (r.map cU)/\(∀q∈r.map cU,rl q<=3)/\wm r,?_,?_⟩
  .intro O J r;exact⟨(0,J,[]),⟨ce,Y.tr r.cV,fun j r u hj=>by dsimp only at hj;omega⟩,sbgn [] r⟩
  clear Y;rintro⟨i,w1,iv⟩ ⟨R,Y,ht⟩;dsimp only at R Y ht ⊢;conv=>whnf
  apply bS<;>intro OJ
  .have OJ:=dL OJ;obtain⟨r0,R6⟩:=gO G8 i;obtain⟨u,hu⟩:=gO rv i;have hR:=OI i u r0 hu R6;obtain⟨ad,UF,q1,q2⟩:=OY i u hu;obtain⟨au,cu,rfl,hcu,-⟩:=dU.shape hR;have QU:∀{H nx iv O J},Rel H nx iv w.heap.size w1 O J->J.cell? (ad.add ((i:Int).toNat*1))=some (.slice au r0.length cu):=fun r=>by
    rw[aN,bC];exact fY L Y r q1 q2
   conv=>whnf
   refine⟨ad,UF,be,?_⟩;conv=>whnf
   refine⟨.slice au r0.length cu,fun O J r=>QU r,?_⟩;conv=>whnf
   apply bS<;>intro h5
   .have h5:=aI h5;conv=>whnf
    refine⟨ad,UF,be,?_⟩;conv=>whnf
    refine⟨.slice au r0.length cu,fun O J r=>QU r,?_⟩;conv=>whnf
    apply bS<;>intro h60
    .have h60:=aI h60;conv=>whnf
     exact rtn Y fun I8 we re=>⟨false,rfl,fun h=>by cases h⟩
    have h60:=aL h60;conv=>whnf
    refine⟨ad,UF,be,?_⟩;conv=>whnf
    refine⟨.slice au r0.length cu,fun O J r=>QU r,?_⟩;conv=>whnf
    apply bS<;>intro h65
    .have h65:=aI h65;conv=>whnf
     exact rtn Y fun I8 we re=>⟨false,rfl,fun h=>by cases h⟩
    have h65:=aL h65;conv=>whnf
    refine⟨ad,UF,be,?_⟩;conv=>whnf
    refine⟨.slice au r0.length cu,fun O J r=>QU r,?_⟩;conv=>whnf
    obtain⟨ks,XG,Ux⟩:=dB.DU hR;refine cM (cE Y (fun _ J v F=>v= .bool (decide (∀k∈ks,k.1.2.2.1<=3/\k.2.2.2.1<=3))) (fun O J r=>tm (oS L r) (XG.cP (kS Y r L))) ?_);rintro O On v1 Oi OS r G Y A rfl;clear r;conv=>whnf
    clear QU;apply bS<;>intro Ri
    .conv=>whnf
     exact rtn Y fun I8 we re=>⟨false,rfl,fun h=>by cases h⟩
    have RK:=aI (show decide (∀k∈ks,k.1.2.2.1<=3/\k.2.2.2.1<=3)=true by simpa using Ri);conv=>whnf
    refine inc i ?_;conv=>whnf
    intro IR w3 r3;refine⟨(i+1,w3,_),⟨by dsimp only;omega,Y.tr r3.cV,fun j r u hj k1 k2=>?_⟩,sbgn [] r3,by dsimp only;omega⟩;rcases az j i with Uq|Uq
    .exact ht j r u Uq k1 k2
    .obtain rfl:j=i:=by dsimp only at hj;omega
     rw[R6]at k1;rw[hu]at k2;injection k1 with k1;injection k2 with k2;subst k1 k2;exact⟨by unfold pD;omega,Ux RK⟩
   have h5:=aL h5;conv=>whnf
   refine⟨ad,UF,be,?_⟩;conv=>whnf
   refine⟨.slice au r0.length cu,fun O J r=>QU r,?_⟩;conv=>whnf
   apply bS<;>intro h65
   .have h65:=aI h65;conv=>whnf
    exact rtn Y fun I8 we re=>⟨false,rfl,fun h=>by cases h⟩
   have h65:=aL h65;conv=>whnf
   refine⟨ad,UF,be,?_⟩;conv=>whnf
   refine⟨.slice au r0.length cu,fun O J r=>QU r,?_⟩;conv=>whnf
   obtain⟨ks,XG,Ux⟩:=dB.DU hR;refine cM (cE Y (fun _ J v F=>v= .bool (decide (∀k∈ks,k.1.2.2.1<=3/\k.2.2.2.1<=3))) (fun O J r=>tm (oS L r) (XG.cP (kS Y r L))) ?_);rintro O On v1 Oi OS r G Y A rfl;clear r;conv=>whnf
   clear QU;apply bS<;>intro Ri
   .conv=>whnf
    exact rtn Y fun I8 we re=>⟨false,rfl,fun h=>by cases h⟩
   have RK:=aI (show decide (∀k∈ks,k.1.2.2.1<=3/\k.2.2.2.1<=3)=true by simpa using Ri);conv=>whnf
   refine inc i ?_;conv=>whnf
   intro IR w3 r3;refine⟨(i+1,w3,_),⟨by dsimp only;omega,Y.tr r3.cV,fun j r u hj k1 k2=>?_⟩,sbgn [] r3,by dsimp only;omega⟩;rcases az j i with Uq|Uq
   .exact ht j r u Uq k1 k2
   .obtain rfl:j=i:=by dsimp only at hj;omega
    rw[R6]at k1;rw[hu]at k2;injection k1 with k1;injection k2 with k2;subst k1 k2;exact⟨by unfold pD;omega,Ux RK⟩
  have OJ:i=G8.length:=by
   have:¬i<G8.length:=by simpa using OJ
   omega
  subst OJ;conv=>whnf
  have WK:mD w S (.slice a G8.length c) G8:=by
   refine⟨by unfold pD;omega,fun r hr=>?_,⟨rv,?_,by rw[hl];simp[de],fun j u q k1 k2=>?_⟩,fun r hr q hq=>?_,fun r hr=>?_⟩
   .obtain⟨j,hj,rfl⟩:=List.mem_iff_getElem.1 hr;exact(ht j _ _ hj (aE hj) (aE (by rw[hl];exact hj))).1
   .rw[show (de G8).length=G8.length by simp[de]];exact⟨by unfold maxLen;omega,hl0,W,a,c,rfl,hc,OY⟩
   .rw[de,aS]at k2;obtain⟨x,E,rfl⟩:=Option.map_eq_some_iff.1 k2;exact(ht j x u (aH.1 E).1 E k1).2.1
   .rw[de]at hr;obtain⟨x,E,rfl⟩:=bD.1 hr;obtain⟨j,hj,rfl⟩:=List.mem_iff_getElem.1 E;exact(ht j _ _ hj (aE hj) (aE (by rw[hl];exact hj))).2.2.1 q hq
   .obtain⟨j,hj,rfl⟩:=List.mem_iff_getElem.1 hr;exact(ht j _ _ hj (aE hj) (aE (by rw[hl];exact hj))).2.2.2
  exact rtn Y fun I8 we re=>⟨true,rfl,fun _=>WK⟩
 have h5:=aL h5;conv=>whnf
 apply bS<;>intro h65
 .have h65:=aI h65;conv=>whnf
  exact rtn Y fun I8 we re=>⟨false,rfl,fun h=>by cases h⟩
 have h65:=aL h65;conv=>whnf
 refine⟨Nat×World×Iv,fun z=>⟨[(0,sV a G8.length c),(3,iN z.1)],[],0,z.2.2,z.2.1⟩,fun z=>G8.length-z.1,
  fun z=>z.1<=G8.length/\Bq w z.2.1/\∀(j:Nat) r u,j<z.1->G8[j]? =some r->rv[j]? =some u->pD r.length/\dM w S u (r.map cU)/\(∀q∈r.map cU,rl q<=3)/\wm r,?_,?_⟩
 .intro O J r;exact⟨(0,J,[]),⟨ce,Y.tr r.cV,fun j r u hj=>by dsimp only at hj;omega⟩,sbgn [] r⟩
 clear Y;rintro⟨i,w1,iv⟩ ⟨R,Y,ht⟩;dsimp only at R Y ht ⊢;conv=>whnf
 apply bS<;>intro OJ
 .have OJ:=dL OJ;obtain⟨r0,R6⟩:=gO G8 i;obtain⟨u,hu⟩:=gO rv i;have hR:=OI i u r0 hu R6;obtain⟨ad,UF,q1,q2⟩:=OY i u hu;obtain⟨au,cu,rfl,hcu,-⟩:=dU.shape hR;have QU:∀{H nx iv O J},Rel H nx iv w.heap.size w1 O J->J.cell? (ad.add ((i:Int).toNat*1))=some (.slice au r0.length cu):=fun r=>by
   rw[aN,bC];exact fY L Y r q1 q2
  conv=>whnf
  refine⟨ad,UF,be,?_⟩;conv=>whnf
  refine⟨.slice au r0.length cu,fun O J r=>QU r,?_⟩;conv=>whnf
  apply bS<;>intro h5
  .have h5:=aI h5;conv=>whnf
   refine⟨ad,UF,be,?_⟩;conv=>whnf
   refine⟨.slice au r0.length cu,fun O J r=>QU r,?_⟩;conv=>whnf
   apply bS<;>intro h60
   .have h60:=aI h60;conv=>whnf
    exact rtn Y fun I8 we re=>⟨false,rfl,fun h=>by cases h⟩
   have h60:=aL h60;conv=>whnf
   refine⟨ad,UF,be,?_⟩;conv=>whnf
   refine⟨.slice au r0.length cu,fun O J r=>QU r,?_⟩;conv=>whnf
   apply bS<;>intro h65
   .have h65:=aI h65;conv=>whnf
    exact rtn Y fun I8 we re=>⟨false,rfl,fun h=>by cases h⟩
   have h65:=aL h65;conv=>whnf
   refine⟨ad,UF,be,?_⟩;conv=>whnf
   refine⟨.slice au r0.length cu,fun O J r=>QU r,?_⟩;conv=>whnf
   obtain⟨ks,XG,Ux⟩:=dB.DU hR;refine cM (cE Y (fun _ J v F=>v= .bool (decide (∀k∈ks,k.1.2.2.1<=3/\k.2.2.2.1<=3))) (fun O J r=>tm (oS L r) (XG.cP (kS Y r L))) ?_);rintro O On v1 Oi OS r G Y A rfl;clear r;conv=>whnf
   clear QU;apply bS<;>intro Ri
   .conv=>whnf
    exact rtn Y fun I8 we re=>⟨false,rfl,fun h=>by cases h⟩
   have RK:=aI (show decide (∀k∈ks,k.1.2.2.1<=3/\k.2.2.2.1<=3)=true by simpa using Ri);conv=>whnf
   refine inc i ?_;conv=>whnf
   intro IR w3 r3;refine⟨(i+1,w3,_),⟨by dsimp only;omega,Y.tr r3.cV,fun j r u hj k1 k2=>?_⟩,sbgn [] r3,by dsimp only;omega⟩;rcases az j i with Uq|Uq
   .exact ht j r u Uq k1 k2
   .obtain rfl:j=i:=by dsimp only at hj;omega
    rw[R6]at k1;rw[hu]at k2;injection k1 with k1;injection k2 with k2;subst k1 k2;exact⟨by unfold pD;omega,Ux RK⟩
  have h5:=aL h5;conv=>whnf
  refine⟨ad,UF,be,?_⟩;conv=>whnf
  refine⟨.slice au r0.length cu,fun O J r=>QU r,?_⟩;conv=>whnf
  apply bS<;>intro h65
  .have h65:=aI h65;conv=>whnf
   exact rtn Y fun I8 we re=>⟨false,rfl,fun h=>by cases h⟩
  have h65:=aL h65;conv=>whnf
  refine⟨ad,UF,be,?_⟩;conv=>whnf
  refine⟨.slice au r0.length cu,fun O J r=>QU r,?_⟩;conv=>whnf
  obtain⟨ks,XG,Ux⟩:=dB.DU hR;refine cM (cE Y (fun _ J v F=>v= .bool (decide (∀k∈ks,k.1.2.2.1<=3/\k.2.2.2.1<=3))) (fun O J r=>tm (oS L r) (XG.cP (kS Y r L))) ?_);rintro O _ _ _ OS r G Y A rfl;clear r;conv=>whnf
  clear QU;apply bS<;>intro Ri
  .conv=>whnf
   exact rtn Y fun I8 we re=>⟨false,rfl,fun h=>by cases h⟩
  have RK:=aI (show decide (∀k∈ks,k.1.2.2.1<=3/\k.2.2.2.1<=3)=true by simpa using Ri);conv=>whnf
  refine inc i ?_;conv=>whnf
  intro IR w3 r3;refine⟨(i+1,w3,_),⟨by dsimp only;omega,Y.tr r3.cV,fun j r u hj k1 k2=>?_⟩,sbgn [] r3,by dsimp only;omega⟩;rcases az j i with Uq|Uq
  .exact ht j r u Uq k1 k2
  .obtain rfl:j=i:=by dsimp only at hj;omega
   rw[R6]at k1;rw[hu]at k2;injection k1 with k1;injection k2 with k2;subst k1 k2;exact⟨by unfold pD;omega,Ux RK⟩
 have OJ:i=G8.length:=by
  have:¬i<G8.length:=by simpa using OJ
  omega
 subst OJ;conv=>whnf
 have WK:mD w S (.slice a G8.length c) G8:=by
  refine⟨by unfold pD;omega,fun r hr=>?_,⟨rv,?_,by rw[hl];simp[de],fun j u q k1 k2=>?_⟩,fun r hr q hq=>?_,fun r hr=>?_⟩
  .obtain⟨j,hj,rfl⟩:=List.mem_iff_getElem.1 hr;exact(ht j _ _ hj (aE hj) (aE (by rw[hl];exact hj))).1
  .rw[show (de G8).length=G8.length by simp[de]];exact⟨by unfold maxLen;omega,hl0,W,a,c,rfl,hc,OY⟩
  .rw[de,aS]at k2;obtain⟨x,E,rfl⟩:=Option.map_eq_some_iff.1 k2;exact(ht j x u (aH.1 E).1 E k1).2.1
  .rw[de]at hr;obtain⟨x,E,rfl⟩:=bD.1 hr;obtain⟨j,hj,rfl⟩:=List.mem_iff_getElem.1 E;exact(ht j _ _ hj (aE hj) (aE (by rw[hl];exact hj))).2.2.1 q hq
  .obtain⟨j,hj,rfl⟩:=List.mem_iff_getElem.1 hr;exact(ht j _ _ hj (aE hj) (aE (by rw[hl];exact hj))).2.2.2
 exact rtn Y fun I8 we re=>⟨true,rfl,fun _=>WK⟩
section
variable{S S':Nat->Prop}{H:Hp}{nx:Nat}{iv K:Iv}{B:Nat}{w J F:World}{O:Nat->Sx.dc}{M:List (List Value)}{qs:List Rat}
end
end
variable{G8:List (List (Int×Int))}{qs:List Rat}{cs:List Value}{S:Nat->Prop}{q:Rat}{w:World}
theorem cS.l{v:Value}(h:cS w S v qs)(hq:∀q∈qs,rl q<=100000):dM w S v qs:=by
 obtain⟨M,W,I,h3,h4⟩:=h;refine⟨M,W,I,h3,fun j cs q k1 k2=>?_⟩;obtain⟨b,a,n,c,b2,a2,n2,c2,e,hc⟩:=h4 j cs q k1 k2;exact⟨b,a,n,c,b2,a2,n2,c2,e,hc.l (hq q (aG k2))⟩
section
variable{S S':Nat->Prop}{H:Hp}{nx:Nat}{iv K:Iv}{B:Nat}{w J F:World}{O:Nat->Sx.dc}{rv:List Value}{G8:List (List Rat)}
end
theorem yz{v:Value}(L:Old S w)(h:dK w S v G8):eD PG Fd.sA #[v] w (eL w fun v' _=>v'=iV (dH G8)):=by
 have U:=h;obtain⟨a,c,rfl,hc,hm⟩:=dD.shape h;refine uK ce ?_
 cases G8 with
 |nil=>
  intro I8 we re;exact⟨_,rfl,re.cV,rfl⟩
 |cons r t=>
  obtain⟨ad,u,rfl,hu,W,I⟩:=dD.load h (j:=0) (x:=r) rfl;obtain⟨a2,c2,rfl⟩:=dD.nk hu;refine⟨ad,rfl,⟨be,ce⟩,.slice a2 r.length c2,fun O J r'=>by simpa using fY L Bel.refl r' W (by simpa using I),?_⟩;intro I8 we re;exact⟨_,rfl,re.cV,rfl⟩
theorem AO{α:Type}{G8:List (List α)}{r:List α}(h:G8[0]? =some r):dH G8=r.length:=by
 cases G8 with
 |nil=>cases h
 |cons x t=>injection h with h;rw[<-h];rfl
theorem AX(h:im G8=0):(∀r∈G8,r.length=dH G8)/\G8.length<=60/\dH G8<=60:=by
 unfold im at h;split at h
 .split at h
  .cases h
  .exact⟨‹_›,be,be⟩
 .cases h
theorem zA{v:Value}(L:Old S w)(h:dK w S v G8):eD PG Fd.mT #[v] w (eL w fun v' _=>v'=iV (im G8)):=by
 have Y:=bR w;obtain⟨a,c,rfl,hc,hm⟩:=dD.shape h;unfold maxLen at hm;refine qP ce ?_;conv=>whnf
 refine⟨Nat×World,fun z=>⟨[(0,sV a G8.length c),(3,iN z.1)],[],0,[],z.2⟩,fun z=>G8.length-z.1,
  fun z=>z.1<=G8.length/\Bq w z.2/\∀(j:Nat) r,j<z.1->G8[j]? =some r->r.length=dH G8,?_,?_⟩
 .intro O J r;exact⟨(0,J),⟨ce,r.cV,fun j r hj=>by dsimp only at hj;omega⟩,sbgn [] r⟩
 clear Y;rintro⟨i,w1⟩ ⟨R,Y,OI⟩;dsimp only at R Y OI ⊢;conv=>whnf
 apply bS<;>intro OJ
 .have OJ:=dL OJ;obtain⟨r,hr⟩:=gO G8 i;obtain⟨r0,R6⟩:=gO G8 0;have hc0:=AO R6;obtain⟨ad,u,ha,hu,W,I⟩:=dD.load h hr;obtain⟨ad2,u2,Xd,hu2,h3,h4⟩:=dD.load h R6;obtain⟨a2,c2,rfl⟩:=dD.nk hu;obtain⟨a3,c3,rfl⟩:=dD.nk hu2;conv=>whnf
  refine dP (idO 10) ?_;conv=>whnf
  refine⟨ad,ha,be,?_⟩;conv=>whnf
  refine⟨.slice a2 r.length c2,fun O J r'=>by rw[aN];exact fY L Y r' W I,?_⟩;conv=>whnf
  refine⟨ad2,Xd,be,?_⟩;conv=>whnf
  refine⟨.slice a3 r0.length c3,fun O J r'=>fY L Y r' h3 h4,?_⟩;conv=>whnf
  apply bS<;>intro OL
  .have OL:r.length≠dH G8:=fun e=>by rw[hc0]at e;rw[e]at OL;simp at OL
   conv=>whnf
   exact rtn Y fun I8 we re=>by rw[im,aK (fun Q7=>OL (Q7 r (aG hr)))];rfl
  have heq:r.length=dH G8:=by
   have h5:((r.length:Int)==(r0.length:Int))=true:=by simpa using OL
   have:=eq_of_beq h5;omega
  conv=>whnf
  refine inc i ?_;conv=>whnf
  intro IR w3 r3;refine⟨(i+1,w3),⟨OJ,Y.tr r3.cV,fun j r' hj Sh=>?_⟩,sbgn [] r3,by dsimp only;omega⟩;by_cases Ov:j=i
  .subst Ov;rw[hr]at Sh;injection Sh with Sh;rw[<-Sh];exact heq
  .exact OI j r' (by dsimp only at hj;omega) Sh
 have OJ:=dE R OJ;have Q7:∀r∈G8,r.length=dH G8:=fun r hr=>by
  obtain⟨j,hj⟩:=aY hr;exact OI j r (by rw[OJ];exact(aH.1 hj).1) hj
 have UC:im G8=if 60<G8.length\/60<dH G8 then 8 else 0:=by rw[im,aM Q7]
 replace h:=dK.cP h fun g V=>Y.block g (L g V);replace h:=dK.cO (S':=Cv S w.heap.size []) h fun _ h=>.inl h;conv=>whnf
 apply bS<;>intro W
 .have W:60<G8.length:=by have:=aI W;omega
  conv=>whnf
  exact rtn Y fun I8 we re=>by rw[UC,aM (.inl W)];rfl
 have W:¬60<G8.length:=by have:=aL W;omega
 conv=>whnf
 refine cM (cN (I9:=fun _ _ v _=>v=iV (dH G8)) (fun O J r=>yz (rlo r L) (dK.rel h r L)) ?_);rintro O wa v1 wb r' G N rfl;replace Y:=Y.tr N;clear r' G N h;conv=>whnf
 apply bS<;>intro I
 .have I:60<dH G8:=by have:=aI I;omega
  conv=>whnf
  exact rtn Y fun I8 we re=>by rw[UC,aM (.inr I)];rfl
 have I:¬60<dH G8:=by have:=aL I;omega
 conv=>whnf
 exact rtn Y fun I8 we re=>by rw[UC,aK be];rfl
theorem lE.len(h:lE w S cs q):cs.length=4:=by obtain⟨_,_,_,_,_,_,_,_,rfl,_⟩:=h;rfl
def Fc(w:World)(S:Nat->Prop)(M:List (List Value))(qs:List Rat):Prop:=M.length=qs.length/\∀(j:Nat) cs q,M[j]? =some cs->qs[j]? =some q->lE w S cs q
section
variable{S S':Nat->Prop}{w F:World}{cs:List Value}{M:List (List Value)}{q:Rat}{qs:List Rat}
theorem Fc.cP(h:Fc w S M qs)(Z:∀g,S g->F.heap[g]? =w.heap[g]?):Fc F S M qs:=⟨h.1,fun j cs q W I=>(h.2 j cs q W I).cP Z⟩
theorem Fc.cO(h:Fc w S M qs)(Z:∀g,S g->S' g):Fc w S' M qs:=⟨h.1,fun j cs q W I=>(h.2 j cs q W I).cO Z⟩
theorem Fc.rj(h:Fc w S M qs):∀cs∈M,cs.length=4:=fun cs hc=>by
 obtain⟨j,hj⟩:=aY hc;have hl:=(aH.1 hj).1;exact(h.2 j cs _ hj (aE (by rw[<-h.1];exact hl))).len
theorem Fc.one(h:Fc w S M qs):∀u∈M.flatten,u.oneCell'=true:=fun u hu=>by
 obtain⟨cs,hc,hu⟩:=List.mem_flatten.1 hu;obtain⟨j,hj⟩:=aY hc;have hl:=(aH.1 hj).1;obtain⟨_,_,_,_,_,_,_,_,rfl,_⟩:=h.2 j cs _ hj (aE (by rw[<-h.1];exact hl));simp at hu;rcases hu with rfl|rfl|rfl|rfl<;>rfl
end
section
variable{C C' S S':Nat->Prop}{H:Hp}{nx:Nat}{iv K:Iv}{B:Nat}{w J F:World}{O:Nat->Sx.dc}{v:Value}{qs:List Rat}
end
def Mn(w:World)(S:Nat->Prop)(v:Value)(n:Nat)(qs:List Rat):Prop:=∃M,w.ownsRow 0 T.Rat 4 v n M.flatten/\M.length=n/\Fc w S M qs
section
variable{S S' C:Nat->Prop}{H:Hp}{nx n:Nat}{iv K:Iv}{B:Nat}{w J F:World}{O:Nat->Sx.dc}{v:Value}{qs:List Rat}
structure aAC(w:World)(S:Nat->Prop)(B:Nat)(iv:Iv)(v:Value)(n:Nat)(qs:List Rat):Prop where
 row:Mn w (fun g=>Cv S B iv g/\v.ownBlock≠some g) v n qs
 new:∀g,v.ownBlock=some g->Cv FF B iv g
end
section
variable{S S':Nat->Prop}{H:Hp}{nx n:Nat}{iv K:Iv}{B:Nat}{w J F:World}{O:Nat->Sx.dc}{v:Value}{qs:List Rat}
end
def fG(w:World)(S:Nat->Prop)(rv:List Value)(Fn:List (List Rat)):Prop:=rv.length=Fn.length/\(∀u∈rv,u.oneCell'=true)/\∀(i:Nat) u r,rv[i]? =some u->Fn[i]? =some r->cS w S u r
section
variable{S S':Nat->Prop}{H:Hp}{nx:Nat}{iv K:Iv}{B:Nat}{w J F:World}{O:Nat->Sx.dc}{rv:List Value}{Fn:List (List Rat)}
theorem fG.cP(h:fG w S rv Fn)(Z:∀g,S g->F.heap[g]? =w.heap[g]?):fG F S rv Fn:=⟨h.1,h.2.1,fun i u x W I=>cS.cP (h.2.2 i u x W I) Z⟩
theorem fG.cO(h:fG w S rv Fn)(Z:∀g,S g->S' g):fG w S' rv Fn:=⟨h.1,h.2.1,fun i u x W I=>cS.cO (h.2.2 i u x W I) Z⟩
theorem fG.rel(h:fG w (Cv S B iv) rv Fn)(r:Rel H nx iv B w O J)(L:∀g,S g->g<B):fG J (Cv S B iv) rv Fn:=h.cP fun _ V=>rls r L V
theorem fG.cL(h:fG w (Cv S B iv) rv Fn)(r:Rel H nx iv B w O J)(L:∀g,S g->g<B)(G:Ext J F)(hm:∀p,p∈iv->p∈K):fG F (Cv S B K) rv Fn:=
 ((h.rel r L).cP fun g V=>G.block g (rlo r L g V)).cO fun _ V=>V.mono hm
theorem fG.push{u:Value}{x:List Rat}(h:fG w S rv Fn)(hu:u.oneCell'=true)(E:cS w S u x):fG w S (rv++[u]) (Fn++[x]):=by
 refine⟨by simp[h.1],fun v hv=>?_,fun i v y W I=>?_⟩
 .rcases bY.1 hv with hv|hv
  .exact h.2.1 v hv
  .simp at hv;subst hv;exact hu
 .rcases az i rv.length with R|R
  .rw[aQ R]at W;rw[aQ (by rw[<-h.1];exact R)]at I;exact h.2.2 i v y W I
  .have hi0:i=rv.length:=by have:=(aH.1 W).1;simp at this;omega
   subst hi0;rw[aW lr,bj]at W;rw[h.1,aW lr,bj]at I;simp at W I;subst W I;exact E
end
structure pO(w:World)(S:Nat->Prop)(M:List (List Value))(qs:List Rat):Prop where
 len:M.length=qs.length
 four:∀cs∈M,cs.length=4
 at_:∀(j:Nat) cs q,M[j]? =some cs->qs[j]? =some q->lE w S cs q
section
variable{S S':Nat->Prop}{H:Hp}{nx:Nat}{iv K:Iv}{B:Nat}{w J F:World}{O:Nat->Sx.dc}{M:List (List Value)}{qs:List Rat}
theorem pO.nil:pO w S [] []:=⟨rfl,fun _ h=>(by cases h),fun _ _ _ h=>by cases h⟩
theorem pO.cP(h:pO w S M qs)(Z:∀g,S g->F.heap[g]? =w.heap[g]?):pO F S M qs:=⟨h.len,h.four,fun j cs q W I=>by
 obtain⟨b,a,n,c,b2,a2,n2,c2,e,hr⟩:=h.at_ j cs q W I
 exact⟨b,a,n,c,b2,a2,n2,c2,e,hr.cP Z⟩⟩
theorem pO.cO(h:pO w S M qs)(Z:∀g,S g->S' g):pO w S' M qs:=⟨h.len,h.four,fun j cs q W I=>by
 obtain⟨b,a,n,c,b2,a2,n2,c2,e,hr⟩:=h.at_ j cs q W I
 exact⟨b,a,n,c,b2,a2,n2,c2,e,hr.cO Z⟩⟩
theorem pO.rel(h:pO w (Cv S B iv) M qs)(r:Rel H nx iv B w O J)(L:∀g,S g->g<B):pO J (Cv S B iv) M qs:=h.cP fun _ V=>rls r L V
theorem pO.cL(h:pO w (Cv S B iv) M qs)(r:Rel H nx iv B w O J)(L:∀g,S g->g<B)(G:Ext J F)(hm:∀p,p∈iv->p∈K):pO F (Cv S B K) M qs:=
 ((h.rel r L).cP fun g V=>G.block g (rlo r L g V)).cO fun _ V=>V.mono hm
theorem pO.push(h:pO w S M qs)(hc:lE w S cs q)(h4:cs.length=4):pO w S (M++[cs]) (qs++[q]):=by
 refine⟨by simp[h.len],fun x E=>?_,fun j x p W I=>?_⟩
 .rcases bY.1 E with E|E
  .exact h.four x E
  .rw[bW.1 E];exact h4
 .rcases az j M.length with R|R
  .rw[aQ R]at W;rw[aQ (by rw[<-h.len];exact R)]at I;exact h.at_ j x p W I
  .have hi0:j=M.length:=by have:=(aH.1 W).1;simp at this;omega
   subst hi0;rw[aW lr,bj]at W;rw[h.len,aW lr,bj]at I;simp at W I;subst W I;exact hc
theorem pO.one(h:pO w S M qs):∀u∈M.flatten,u.oneCell'=true:=fun u hu=>by
 obtain⟨cs,hc,hu⟩:=List.mem_flatten.1 hu;obtain⟨j,hj⟩:=aY hc;obtain⟨_,_,_,_,_,_,_,_,rfl,_⟩:=h.at_ j cs _ hj (aE (by rw[<-h.len];exact(aH.1 hj).1));simp at hu;rcases hu with rfl|rfl|rfl|rfl<;>rfl
theorem pO.list{v:Value}(h:pO w S M qs)(hs:fy w S 4 v M.flatten M.length):cS w S v qs:=⟨M,h.len▸hs,h.len,h.four,h.at_⟩
end
end Go.Ex
namespace Go.Sx
open Go Go.Ex Go.Proofs
section
variable{cs:List Value}{O:Nat->Sx.dc}
theorem Rel.Ft{H:Hp}{nx:Nat}{iv:Iv}{B:Nat}{w J:World}(r:Rel H nx iv B w O J){T:Nat->Prop}{id t m sz:Nat}(h:dF H id=some (.vec t sz cs))(hm:cs.length=m*sz)(SM:m<=maxLen)(hs:0<sz)(W:∀u∈cs,u.oneCell'=true)(hT:(O id).nil=false->T (O id).g):
  fy J T sz ((At.w id m).den O) cs m:=by
 rcases r.fits h with⟨U,rfl⟩|⟨U,spare,I,h3,h4⟩
 .have TF:m=0:=by
   rcases bB m with h|h
   .exact h
   .have:=Nat.mul_pos h hs;simp at hm;omega
  subst TF;have WL:(At.w id 0).den O=nls:=by simp[At.den,U]
  rw[WL];exact⟨bA _,ce,ce,none,0,rfl,lr,fun j u h=>by cases h⟩
 .have WL:(At.w id m).den O= .slice (some ⟨(O id).g,0,none⟩) m (O id).cap:=by simp[At.den,U]
  rw[WL];refine⟨SM,hm,W,_,_,rfl,?_,fun j u hu=>⟨_,rfl,hT U,?_⟩⟩
  .rw[aU,hm]at h3;exact Nat.le_of_mul_le_mul_right (show m*sz<=(O id).cap*sz by omega) hs
  .rw[cd,cell_of I,aR,aQ (aH.1 hu).1];exact hu
end
variable{O:Nat->Sx.dc}
theorem Sub.Le{H:Hp}{nx:Nat}{iv:Iv}{B:Nat}{w J:World}{l:Env}{t:CB}(id p e sz:Nat){bt:Nat}{cs:List At}(Pk:dF H id=some (.box bt cs))(hp:cs[p]? =some (.v nls))(Re:ka nx l)(r:Rel H nx iv B w O J)
  (h:∀Id,Rel ((id,.box bt (cs.set p (.w nx 0)))::(nx,.vec e sz [])::H) (nx+1) iv B w Id J->Sx.Sub B l (nx+1) Id J t):Sx.Sub B l nx O J t:=by
 have r1:=r.push (.vec e sz []) ⟨0,0,true⟩ (F:=J) rfl rfl rfl lr (fun _ _=>rfl) (fun h=>by cases h) (.inl ⟨rfl,rfl⟩) trivial;have OL:id≠nx:=Nat.ne_of_lt (r.keys id _ Pk);have XH:dF ((nx,.vec e sz [])::H) id=some (.box bt cs):=by rw[dN,aK (fun h=>OL h.symm)];exact Pk
 have hnn:=r1.nn id _ XH (by intros;simp) ce;have OY:=r1.box id bt cs XH;have WL:(cs.set p (.w nx 0)).map (At.den (Sx.gn O nx ⟨0,0,true⟩))=cs.map (At.den (Sx.gn O nx ⟨0,0,true⟩)):=by
  refine aj fun j=>?_;rw[aS,aS];by_cases hj:p=j
  .subst hj;rw[aO (aH.1 hp).1,hp];simp[At.den,ek]
  .rw[aV hj]
 have r2:=r1.store (b':=.box bt (cs.set p (.w nx 0))) (H':=(id,.box bt (cs.set p (.w nx 0)))::(nx,.vec e sz [])::H) (F:=J) XH ce hnn (fun j=>by
  rw[dN];by_cases hj:id=j
  .subst hj;rw[aM rfl]
  .rw[aK hj,aK (fun h=>hj h.symm)]) rfl rfl rfl rfl (fun _ _=>rfl) ⟨hnn,by rw[WL];exact OY⟩ (fun x E=>by
   rcases bH E with E|rfl
   .exact r1.JS id bt cs XH x E
   .exact cI nx)
 obtain⟨G9,W,I⟩:=h _ r2;refine⟨G9,W,fun x v hv=>?_⟩;obtain⟨h3,v0,h4,h5⟩:=I x v hv;refine⟨h3,v0,h4,?_⟩;rw[<-h5];exact SV.js (fun id Pk=>gN id Pk) (Re.get _ _ h4)
end Go.Sx
namespace Go.Ex
open Go Go.Sx Go.Proofs
section
variable{O:Nat->Sx.dc}
theorem HD{nx:Nat}{l tl:Env}{t id n:Nat}(U:(O id).nil=false)(ht:fH l t=some (.o (.w id n)))(W:Dd l tl)(I:ka nx tl):∀u v,fH ((t,.o (.v (.slice (some ⟨(O id).g,0,none⟩) n (O id).cap)))::tl) u=some v->v.sc nx/\∃v',fH l u=some v'/\v'.den O=v.den O:=fun u v hv=>by
 rw[eU]at hv;split at hv
 .rename_i e;subst e;injection hv with hv;subst hv;exact⟨trivial,_,ht,by simp[SV.den,At.den,U]⟩
 .exact⟨I.get u v hv,v,W.get u v hv,rfl⟩
end
variable{a:Act}{Fn next:Act->World->Prop}{la lx:Array Bool}{E9:Array Bool->World->Prop}{Q:Exit->Act->World->Prop}{G8:List (List (Int×Int))}{b j:Nat}{S:Nat->Prop}{oi:Oper}{X:Sem Next}{w:World}{E8:World->Prop}
theorem mD.cP{F:World}{v:Value}(h:mD w S v G8)(Z:∀g,S g->F.heap[g]? =w.heap[g]?):mD F S v G8:=⟨h.1,h.2.1,jJ.cP h.2.2.1 Z,h.2.2.2⟩
section
variable{S S':Nat->Prop}{H:Hp}{nx:Nat}{iv K:Iv}{B:Nat}{w J F:World}{O:Nat->Sx.dc}{v:Value}{G8:List (List (Int×Int))}
end
theorem mD.Mf{v:Value}(h:mD w S v G8)(G:im G8=0):
  (∀r∈G8,r.length=dH G8)/\G8.length<=5/\dH G8<=5/\Ht (de G8) 4/\4^(de G8).length*4<=4096:=by
 obtain⟨W,I,h3⟩:=AX G;have h4:G8.length<=5:=by have:=h.1;unfold pD at this;omega
 refine⟨W,h4,?_,fun r hr q hq=>?_,?_⟩
 .cases G8 with
  |nil=>exact bA _
  |cons r t=>
   have:=h.2.1 r aF;have h5:dH (r::t)=r.length:=rfl;unfold pD at this;omega
 .have:=h.2.2.2.1 r hr q hq;omega
 .have h5:(de G8).length<=5:=by simp[de];exact h4
  exact aP (Nat.mul_le_mul_right 4 (Nat.pow_le_pow_right bv h5)) bv
def eR(xs ys:List Rat):Nat->Rat
 |0=>0
 |i+1=>eR xs ys i+xs.getD i 0*ys.getD i 0
theorem iq{xs ys:List Rat}{h:Nat}(E:∀q∈xs,rl q+1<=h)(hy:∀q∈ys,rl q+1<=h)(I:2<=h):∀i:Nat,rl (eR xs ys i)<=2*h*i+2
 |0=>by rw[eR];exact aP (by decide:rl 0<=2) be
 |i+1=>by
  have h3:=iq E hy I i;have h4:=Aq (eR xs ys i) (xs.getD i 0*ys.getD i 0);have h5:=jv (xs.getD i 0) (ys.getD i 0);have h6:=lI E I i;have h7:=lI hy I i;rw[eR,bN];omega
def Fs(G8:List (List Rat))(k:Nat):List Rat:=G8.map (·.getD k 0)
def qp(ys:List Rat)(G8:List (List Rat))(n i:Nat):List Rat:=(List.range n).map fun k=>eR ys (Fs G8 k) i
section
variable{S S':Nat->Prop}{H:Hp}{nx:Nat}{iv K:Iv}{B:Nat}{w J F:World}{O:Nat->Sx.dc}{v:Value}{qs:List Rat}
end
section
variable{S S':Nat->Prop}{H:Hp}{nx:Nat}{iv K:Iv}{B:Nat}{w J F:World}{O:Nat->Sx.dc}{v:Value}{G8:List (List Rat)}
end
section
variable{S S':Nat->Prop}{H:Hp}{nx:Nat}{iv K:Iv}{B:Nat}{w J F:World}{O:Nat->Sx.dc}{v:List Value}{G8:List (List Rat)}
end
inductive Tp where
 |nil
 |x (i:Nat) (t:Tp)
 |two (i:Nat) (t:Tp) (j:Nat) (u:Tp)
 |EY (id:Nat) (t:Tp)
section
variable{P:Program}{τ:lO}{ops:Array Oper}{B n nx:Nat}{l:Env}{H:Hp}{iv:Iv}{w J:World}{O:Nat->Sx.dc}{a:Act}
end
inductive Tq where
 |nil
 |x (i:Nat) (t:Tq)
 |two (i:Nat) (t:Tq) (j:Nat) (u:Tq)
 |three (i:Nat) (t:Tq) (j:Nat) (u:Tq) (k:Nat) (v:Tq)
section
variable{P:Program}{τ:lO}{ops:Array Oper}{B n nx:Nat}{l:Env}{H:Hp}{iv:Iv}{w J:World}{O:Nat->Sx.dc}{a:Act}
end
section
variable{P:Program}{ops:Array Oper}{Q:Exit->Act->World->Prop}{md:Region.Mode}
theorem HZ{oj:Oper}{v:Value}(hj:ops[j]? =some oj)(RJ:oi.apart ops oj=true)
  (hsi:∀cs b,oi.op≠ .select cs b) (hsj:∀cs b,oj.op≠ .select cs b)
  (hQ:∀c a w,Q (.panic c) (a.put oi.dst v) w->Q (.panic c) a w)
  (hy:Region.wanted oi (yielded ops a.tmps)=true/\execOp a.eval oi=X) (h:wpOp P ops Q j Fn (a.put oi.dst v) w):
  wpOp P ops Q j (fun a' J=>(Region.wanted oi (yielded ops a'.tmps)=true/\execOp a'.eval oi=X)/\Fn (a'.put oi.dst v) J) a w:=by
 obtain⟨W,I,h3⟩:=Oper.apart_spec RJ;have cP:∀(a:Act),(Region.wanted oi (yielded ops a.tmps)=true/\execOp a.eval oi=X)->∀u,(Region.wanted oi (yielded ops (a.put oj.dst u).tmps)=true/\execOp (a.put oj.dst u).eval oi=X):=fun a hy u=>
  ⟨(wanted_put oi a oj.dst u h3).trans hy.1,(execOp_put oi hsi a oj.dst u h3).trans hy.2⟩
 have keepD:∀d:Deferred,(Region.wanted oi (yielded ops ({a with defers:=d::a.defers}:Act).tmps)=true/\execOp ({a with defers:=d::a.defers}:Act).eval oi=X):=fun d=>hy;unfold wpOp at*
 simp only[hj]at*
 rw[wanted_put oj a oi.dst v W]at h;split
 .rename_i Y;simp only[Y,if_true]at h;rcases h with h|⟨Sy,VQ⟩
  case inr=>exact .inr ⟨by unfold Oper.asks at *;rw[execOp_put oj hsj a oi.dst v W]at Sy;exact Sy,VQ⟩
  refine .inl ?_;unfold Oper.wp at*
  rw[execOp_put oj hsj a oi.dst v W]at h;generalize (execOp a.eval oj).run P w=r at*
  cases r with
  |ok n J=>
   cases n<;>simp only[Oper.upon]at h ⊢
   case value u=>exact⟨cP a hy u,by rw[<-Act.put_comm a v u I];exact h⟩
   case skip=>exact⟨cP a hy _,by rw[<-Act.put_comm a v undef I];exact h⟩
   case defer d=>
    refine⟨cP ({a with defers:=d::a.defers}:Act) (keepD d) undef,?_⟩;rw[<-Act.put_comm _ v undef I,<-Act.put_defers];exact h
   case enter f args=>
    refine Calls.mono h fun e w'' G=>?_
    cases e with
    |returned u=>exact⟨cP a hy u,by rw[<-Act.put_comm a v u I];exact G⟩
    |panicked c=>exact hQ _ _ _ G
    |outgrown=>exact G
   case row row args=>exact Rows.mono h fun u w'' G=>⟨cP a hy u,by rw[<-Act.put_comm a v u I];exact G⟩
  |halt x J=>
   cases x<;>simp only[Oper.upon]at h ⊢
   case panic u=>exact hQ _ _ _ h
 .rename_i Y;simp only[Y]at h;exact⟨cP a hy _,by rw[<-Act.put_comm a v undef I];exact h⟩
def ou(P:Program)(md:Region.Mode)(ops:Array Oper)(Q:Exit->Act->World->Prop)(E9:Array Bool->World->Prop):Nat->Array Bool->Act->World->Prop
 |0,lx,a,w=>E9 lx w/\Region.ready md ops lx=[]/\Q .normal a w
 |fuel+1,lx,a,w=>E9 lx w/\(Region.ready md ops lx=[]->Q .normal a w)/\∀i∈Region.ready md ops lx,wpOp P ops Q i (fun a' J=>ou P md ops Q E9 fuel (lx.setIfInBounds i true) a' J) a w
theorem s8{E9:Array Bool->World->Prop}:∀(fuel:Nat) (lx:Array Bool) (a:Act) (w:World),ou P md ops Q E9 fuel lx a w->wpAny P md ops Q fuel lx a w
 |0,_,_,_,h=>h.2
 |fuel+1,_,_,_,h=>⟨h.2.1,fun i R=>wpOp_mono (fun _ _ h'=>s8 fuel _ _ _ h') (h.2.2 i R)⟩
theorem iu{E9 A8:Array Bool->World->Prop}(hIJ:∀lx w,E9 lx w->A8 lx w):∀(fuel:Nat) (lx:Array Bool) (a:Act) (w:World),ou P md ops Q E9 fuel lx a w->ou P md ops Q A8 fuel lx a w
 |0,_,_,_,h=>⟨hIJ _ _ h.1,h.2⟩
 |fuel+1,_,_,_,h=>⟨hIJ _ _ h.1,h.2.1,fun i R=>wpOp_mono (fun _ _ h'=>iu hIJ fuel _ _ _ h') (h.2.2 i R)⟩
theorem ve(hI:E9 lx w)(hr:Region.ready md ops lx=[])(h:Q .normal a w):∀fuel,ou P md ops Q E9 fuel lx a w
 |0=>⟨hI,hr,h⟩
 |_+1=>⟨hI,fun _=>h,by rw[hr];simp⟩
def kB(ops:Array Oper)(b:Nat)(lx:Array Bool):Prop:=∀(k:Nat) o,tb b k=true->ops[k]? =some o->lG o.op=false->lx.getD k false=false
theorem fJ{i:Nat}(R:ops[i]? =some oi)(hR:lG oi.op=true):kB ops b (lx.setIfInBounds i true)↔kB ops b lx:=by
 have key:∀(k:Nat) o,ops[k]? =some o->lG o.op=false->(lx.setIfInBounds i true).getD k false=lx.getD k false:=fun k o ho hr=>by
  have:i≠k:=fun e=>by subst e;rw[R]at ho;injection ho with ho;subst ho;rw[hR]at hr;cases hr
  exact Go.getD_set_ne false this
 exact⟨fun h k o W I h3=>by rw[<-key k o I h3];exact h k o W I h3,fun h k o W I h3=>by rw[key k o I h3];exact h k o W I h3⟩
theorem lN{i:Nat}{v:Value}(R:ops[i]? =some oi)(hR:lG oi.op=true)(Oc:∀(j:Nat) (o:Oper) cs b,ops[j]? =some o->o.op≠ .select cs b)
  (hQ:∀c a w,Q (.panic c) (a.put oi.dst v) w->Q (.panic c) a w) (PS:∀j,tb b j=true->∃oj e,ops[j]? =some oj/\e∈oj.after/\Region.binds md e=true/\(e.on=i\/tb b e.on=true))
  (hY:∀w,E8 w->X.run P w= .ok (.value v) w) (hI:∀lx w,E9 (lx.setIfInBounds i true) w->E9 lx w):
  ∀(fuel:Nat) (lx:Array Bool) (a:Act) (w:World),(∀j,tb b j=true->lx.getD j false=false)->
   (∀j oj,ops[j]? =some oj->j≠i->lx.getD j true=false->tb b j=false->oi.apart ops oj=true)->
   i∈Region.ready md ops lx->(Region.wanted oi (yielded ops a.tmps)=true/\execOp a.eval oi=X)->
   ou P md ops Q (fun lx w=>E9 lx w/\(kB ops b lx->E8 w)) fuel (lx.setIfInBounds i true) (a.put oi.dst v) w->ou P md ops Q E9 (fuel+1) lx a w:=by
 intro fuel;have run:∀(lx:Array Bool) (a:Act) (w:World),(∀j,tb b j=true->lx.getD j false=false)->(Region.wanted oi (yielded ops a.tmps)=true/\execOp a.eval oi=X)->(E9 (lx.setIfInBounds i true) w/\(kB ops b (lx.setIfInBounds i true)->E8 w))->
   ∀Fn:Act->World->Prop,Fn (a.put oi.dst v) w->wpOp P ops Q i Fn a w:=fun lx a w OQ hy hH Fn hK=>by
  have hYw:=hH.2 ((fJ R hR).2 fun k o W _ _=>OQ k W);unfold wpOp;simp only[R,hy.1,if_true]
  refine .inl ?_;unfold Oper.wp;rw[hy.2,hY w hYw];exact hK
 induction fuel with
 |zero=>
  intro lx a w OQ _ hr hy H;refine⟨hI _ _ H.1.1,fun h=>(by rw[h]at hr;cases hr),fun j hj=>?_⟩;by_cases Ov:j=i
  .subst Ov;exact run lx a w OQ hy H.1 _ (iu (fun _ _ h=>h.1) 0 _ _ _ H)
  .have:=ready_mono hj Ov;rw[H.2.1]at this
   cases this
 |succ fuel ih=>
  intro lx a w OQ Q5 hr hy H;refine⟨hI _ _ H.1.1,fun h=>(by rw[h]at hr;cases hr),fun j hj=>?_⟩;by_cases Ov:j=i
  .subst Ov;exact run lx a w OQ hy H.1 _ (iu (fun _ _ h=>h.1) (fuel+1) _ _ _ H)
  .have W:=H.2.2 j (ready_mono hj Ov);obtain⟨VR,oj,QZ,Q7⟩:=mem_ready.1 hj;have PF:tb b j=false:=by
    cases N:tb b j with
    |false=>rfl
    |true=>
     exfalso;obtain⟨oj',e,SY,G,UY,Uv⟩:=PS j N;rw[QZ]at SY;injection SY with SY;subst SY;have W:=Q7 e G UY;rcases Uv with heq|PD
     .have h0:=(mem_ready.1 hr).1;rw[heq]at W;rcases az i lx.size with h'|h'
      .simp[h']at h0 W;rw[h0]at W;cases W
      .simp[Array.getElem?_eq_none h']at W
     .rw[OQ _ PD]at W;cases W
   have I:=HZ QZ (Q5 j oj QZ Ov VR PF) (fun cs b=>Oc i oi cs b R) (fun cs b=>Oc j oj cs b QZ) hQ hy W;have hbl':∀k,tb b k=true->(lx.setIfInBounds j true).getD k false=false:=fun k Z=>by
    rw[Go.getD_set_ne false (fun e=>(by subst e;rw[PF]at Z;cases Z))];exact OQ k Z
   have Tk:∀k ok,ops[k]? =some ok->k≠i->(lx.setIfInBounds j true).getD k true=false->tb b k=false->oi.apart ops ok=true:=fun k ok Z TA US SJ=>by
    refine Q5 k ok Z TA ?_ SJ;by_cases VS:j=k
    .subst VS;exact VR
    .rw[Go.getD_set_ne true VS]at US;exact US
   refine wpOp_mono (fun a' J h3=>?_) I;refine ih (lx.setIfInBounds j true) a' J hbl' Tk (ready_mono hr (Ne.symm Ov)) h3.1 ?_;rw[Array.setIfInBounds_comm _ _ Ov];exact h3.2
end
structure Gh where
 u:Nat
 d:Nat
 T:Nat
 b:Nat
def Bh(τ:lO)(B:Nat):List Gh->Env->Hp->Nat->Iv->World->Prop->Prop
 |[],_,_,_,_,_,Fn=>Fn
 |g::r,l,H,nx,iv,w,Fn=>match fH l g.u with
  |some su=>xM τ B g.T su H nx iv w (fun v=>fH l g.d=some v/\Bh τ B r l H nx iv w Fn)
  |none=>False
inductive Tg where
 |nil
 |x (i:Nat) (t:Tg)
 |two (i:Nat) (t:Tg) (j:Nat) (u:Tg)
 |three (i:Nat) (t:Tg) (j:Nat) (u:Tg) (k:Nat) (v:Tg)
 |ld (i b:Nat) (t:Tg)
 |EY (id:Nat) (t:Tg)
def Aa(j:Nat):List Gh->List Gh
 |[]=>[]
 |g::r=>match tb g.b j with
  |true=>Aa j r
  |false=>g::Aa j r
def stepG(τ:lO)(B:Nat)(rd:Bool)(Do:List Gh)(j:Nat)(l:Env)(H:Hp)(nx:Nat)(iv:Iv)(w:World)(Fn:List Gh->Prop):Prop:=match rd with
 |true=>Fn Do
 |false=>Bh τ B (Aa j Do) l H nx iv w (Fn (Aa j Do))
def DX(ops:Array Oper)(m i:Nat)(oi:Oper)(b:Nat):List Oper->Nat->Bool
 |[],_=>true
 |oj::r,j=>(Nat.beq j i||tb m j||tb b j||oi.apart ops oj)&&DX ops m i oi b r (j+1)
def Fv(m i u d:Nat):List Oper->Nat->Bool
 |[],_=>true
 |oj::r,j=>(tb m j||match oj.dst with
   |none=>true
   |some e=> !Nat.beq e u&&(Nat.beq j i|| !Nat.beq e d))&&Fv m i u d r (j+1)
def Et(o:Oper):Option (Nat×Nat×Nat):=match o with
 |⟨some d,.load T (.tmp u),_,_,_,none⟩=>some (d,T,u)
 |_=>none
def jK(ops:Array Oper):Tg->Array Bool->Bool
 | .nil,lx=>(Region.ready .any ops lx).isEmpty
 | .x i t,lx=>match ops[i]? with
  |none=>false
  |some o=>(Region.ready .any ops lx).contains i&&((Region.ready .any ops lx).all (fun j=>Nat.beq j i)||Ew o.op&&o.guard.isNone&&DX ops (gU lx.toList 0) i o (xB (gU lx.toList 0) i ops.toList 0 0) ops.toList 0)&&jK ops t (lx.setIfInBounds i true)
 | .two i t j u,lx=>match Region.ready .any ops lx with
  |[a,b]=>Nat.beq a i&&(Nat.beq b j&&(jK ops t (lx.setIfInBounds i true)&&jK ops u (lx.setIfInBounds j true)))
  |_=>false
 | .three i t j u k v,lx=>match Region.ready .any ops lx with
  |[a,b,c]=>Nat.beq a i&&(Nat.beq b j&&(Nat.beq c k&&(jK ops t (lx.setIfInBounds i true)&&(jK ops u (lx.setIfInBounds j true)&&jK ops v (lx.setIfInBounds k true)))))
  |_=>false
 | .ld i b t,lx=>match ops[i]? with
  |none=>false
  |some o=>match Et o with
   |none=>false
   |some (d,_,u)=>(Region.ready .any ops lx).contains i&&Nat.beq b (xB (gU lx.toList 0) i ops.toList 0 0)&&DX ops (gU lx.toList 0) i o b ops.toList 0&&Fv (gU lx.toList 0) i u d ops.toList 0&&jK ops t (lx.setIfInBounds i true)
 | .EY _ t,lx=>jK ops t lx
def z4(P:Program)(τ:lO)(B:Nat)(all:List Oper):Tg->List Gh->Env->Hp->Nat->Iv->World->KT->Prop
 | .nil,_,l,H,nx,iv,w,Fn=>Fn l H nx iv w
 | .x i t,Do,l,H,nx,iv,w,Fn=>mL all i (fun o=>eh (!ff o) P τ B all o l H nx iv w (fun l' H' OO K J=>stepG τ B (lG o.op) Do i l' H' OO K J (fun G'=>z4 P τ B all t G' l' H' OO K J Fn)))
 | .two i t j u,Do,l,H,nx,iv,w,Fn=>mL all i (fun o=>eh (!ff o) P τ B all o l H nx iv w (fun l' H' OO K J=>stepG τ B (lG o.op) Do i l' H' OO K J (fun G'=>z4 P τ B all t G' l' H' OO K J Fn)))/\
   mL all j (fun o=>eh (!ff o) P τ B all o l H nx iv w (fun l' H' OO K J=>stepG τ B (lG o.op) Do j l' H' OO K J (fun G'=>z4 P τ B all u G' l' H' OO K J Fn)))
 | .three i t j u k v,Do,l,H,nx,iv,w,Fn=>mL all i (fun o=>eh (!ff o) P τ B all o l H nx iv w (fun l' H' OO K J=>stepG τ B (lG o.op) Do i l' H' OO K J (fun G'=>z4 P τ B all t G' l' H' OO K J Fn)))/\
   (mL all j (fun o=>eh (!ff o) P τ B all o l H nx iv w (fun l' H' OO K J=>stepG τ B (lG o.op) Do j l' H' OO K J (fun G'=>z4 P τ B all u G' l' H' OO K J Fn)))/\
   mL all k (fun o=>eh (!ff o) P τ B all o l H nx iv w (fun l' H' OO K J=>stepG τ B (lG o.op) Do k l' H' OO K J (fun G'=>z4 P τ B all v G' l' H' OO K J Fn))))
 | .ld i b t,Do,l,H,nx,iv,w,Fn=>mL all i (fun o=>match Et o with
  |some (d,T,u)=>match fH l u with
   |some su=>xM τ B T su H nx iv w (fun v=>z4 P τ B all t (⟨u,d,T,b⟩::Do) ((d,v)::l) H nx iv w Fn)
   |none=>False
  |none=>False)
 | .EY id t,Do,l,H,nx,iv,w,Fn=>∃H' b,dF H id=some b/\b≠ .dead/\Ag H H'/\H0 id H'=true/\∀O J,Rel H nx iv B w O J->(O id).nil=false/\∃l',(∀u v,fH l' u=some v->v.sc nx/\∃v',fH l u=some v'/\v'.den O=v.den O)/\z4 P τ B all t Do l' H' nx (((O id).g,(O id).g+1)::iv) J Fn
section
variable{P:Program}{τ:lO}{ops:Array Oper}{B n nx:Nat}{l:Env}{H:Hp}{iv:Iv}{w J:World}{O:Nat->Sx.dc}{a:Act}
theorem Mo(hτ:en P τ){i:Nat}{o:Oper}(ho:ops[i]? =some o)(hd:∀d,o.dst=some d->d<n){Fn:KT}
  (W:eh (!ff o) P τ B ops.toList o l H nx iv w Fn) (sat:Sat n l H nx iv B w O a J)
  (U:∀l' H' OO K F G9 x w3,Fn l' H' OO K F->Sat n l' H' OO K B F G9 (a.put o.dst x) w3->(lG o.op=true->w3=J)->next (a.put o.dst x) w3):
  wpOp P ops Q i next a J:=by
 unfold eh at W;refine mP ho ?_;rcases ja sat W with⟨Y,l1,I,sat1⟩|⟨Y,l1,I,sat1⟩
 .refine .inl ⟨Y,?_⟩
  cases hR:lG o.op with
  |true=>
   obtain⟨v,hK,QF,OU⟩:=(j2 hτ I sat1 hR).resolve_right (fun hh=>by have:=hh.1;rw[sK hR]at this;cases this);obtain⟨l2,h3,sat2⟩:=fI sat1 hK hd QF;exact k9 (OU J (.inr sat1.rel)) (U _ _ _ _ _ _ _ _ h3 sat2 fun _=>rfl)
  |false=>
   have nr:∀w3:World,lG o.op=true->w3=J:=fun w3 h=>by rw[hR]at h;cases h
   cases hA:Ae o.op with
   |true=>
    obtain⟨b,v,mk,obj,hK,TR,N,hv,WZ,Pg,SB⟩:=lV hτ I sat1 hA;have PR:Rel ((nx,b)::H) (nx+1) iv B w (Sx.gn O nx ⟨J.heap.size,0,false⟩) (J.alloc obj):=
     sat1.rel.push b _ rfl rfl rfl ce (fun k Z=>heap_alloc_old _ _ Z) (fun _=>⟨lr,ce⟩) (Pg _ _ (heap_alloc_new _ _)) N
    obtain⟨l2,h3,sat2⟩:=fI (sat1.next PR (Nat.le_succ _) (fun id Pk=>gN id Pk)) hK hd hv;rw[WZ]at sat2;exact k9 (v:=mk J.heap.size) (F:=J.alloc obj) (SB J) (U _ _ _ _ _ _ _ _ h3 sat2 (by rw[hR];exact fun h=>by cases h))
   |false=>
    cases hH:rX o with
    |false=>
     rw[rq hH]at I;refine xF I sat1 hR hA hH fun v F hK G hs=>?_;obtain⟨l2,h3,sat2⟩:=fI (v:=.o (.v v)) hs hK hd trivial;exact U _ _ _ _ _ _ _ _ h3 sat2 (by rw[hR];exact fun h=>by cases h)
    |true=>
     refine lW hτ I sat1 fun v H' OO K F G9 w3 hK sat2 hv=>?_;obtain⟨l2,h3,sat3⟩:=fI sat2 hK hd hv;exact U _ _ _ _ _ _ _ _ h3 sat3 (by rw[hR];exact fun h=>by cases h)
 .obtain⟨l2,h4,sat3⟩:=fI sat1 I hd trivial;exact .inr ⟨Y,U _ _ _ _ _ _ _ _ h4 sat3 fun _=>rfl⟩
theorem rD(hτ:en P τ)(sat:Sat n l H nx iv B w O a J){Fn:Prop}:∀(Do:List Gh),Bh τ B Do l H nx iv w Fn->
  Fn/\∀g∈Do,∃su sv,fH l g.u=some su/\fH l g.d=some sv/\(Instr.loadAt g.T (su.den O)).run P J= .ok (sv.den O) J
 |[],h=>⟨h,fun g V=>by cases V⟩
 |g::r,h=>by
  unfold Bh at h;split at h
  .rename_i su VJ;obtain⟨v,⟨W,I⟩,hv,OU⟩:=l9 hτ sat.rel (sat.sc _ _ VJ) h;obtain⟨h3,h4⟩:=rD hτ sat r I;refine⟨h3,fun g' V=>?_⟩;rcases List.mem_cons.1 V with rfl|V
   .exact⟨su,v,VJ,W,OU J sat.rel⟩
   .exact h4 g' V
  .exact h.elim
theorem lT{j:Nat}{g:Gh}:∀{Do:List Gh},g∈Do->tb g.b j=false->g∈Aa j Do
 |g'::r,h,N=>by
  unfold Aa;rcases List.mem_cons.1 h with rfl|h
  .rw[N];exact aF
  .split
   .exact lT h N
   .exact aD _ (lT h N)
abbrev Zh:=Gh×Value×Value
def Yz(P:Program)(z:Zh)(w:World):Prop:=(Instr.loadAt z.1.T z.2.1).run P w= .ok z.2.2 w
structure JR(ops:Array Oper)(la:Array Bool)(a:Act)(z:Zh):Prop where
 u:a.tmps[z.1.u]? =some z.2.1
 d:a.tmps[z.1.d]? =some z.2.2
 no:∀(j:Nat) oj,ops[j]? =some oj->la.getD j false=false->oj.dst≠some z.1.u/\oj.dst≠some z.1.d
theorem JR.step{z:Zh}{oj:Oper}{x:Value}(h:JR ops la a z)(hj:ops[j]? =some oj)(hl:la.getD j false=false):JR ops (la.setIfInBounds j true) (a.put oj.dst x) z:=by
 obtain⟨W,I⟩:=h.no j oj hj hl;refine⟨ns W h.u,ns I h.d,fun k ok Z hlk=>h.no k ok Z ?_⟩;by_cases VS:j=k
 .subst VS;exact hl
 .rwa [Go.getD_set_ne false VS]at hlk
def IZ(P:Program)(ops:Array Oper)(F9:List Zh)(lx:Array Bool)(w:World):Prop:=∀z∈F9,kB ops z.1.b lx->Yz P z w
theorem kZ{i:Nat}(h:i∈Region.ready .any ops la):la.getD i false=false:=by
 have:=(df.1 h).1;rw[ah,this];rfl
theorem iw{i:Nat}{o:Oper}(ho:ops[i]? =some o)(hl:la[i]? =some false)(h:kB ops b (la.setIfInBounds i true)):kB ops b la/\(lG o.op=false->tb b i=false):=by
 refine⟨fun k ok W I h3=>?_,fun hR=>?_⟩
 .by_cases hik:i=k
  .subst hik;rw[ah,hl];rfl
  .rw[<-Go.getD_set_ne false hik];exact h k ok W I h3
 .cases N:tb b i with
  |false=>rfl
  |true=>
   have:=h i o N ho hR;have R:=(aZ.1 hl).1;rw[ah,Array.getElem?_setIfInBounds_self_of_lt R]at this
   cases this
theorem Ab(hτ:en P τ){i:Nat}{o:Oper}{Do:List Gh}{F9:List Zh}(ho:ops[i]? =some o)(hd:∀d,o.dst=some d->d<n)(hr:i∈Region.ready .any ops la){Fn:Env->Hp->Nat->Iv->World->List Gh->Prop}
  (W:eh (!ff o) P τ B ops.toList o l H nx iv w (fun l' H' OO K J=>stepG τ B (lG o.op) Do i l' H' OO K J (Fn l' H' OO K J))) (sat:Sat n l H nx iv B w O a J)
  (hG:∀z∈F9,kB ops z.1.b la->z.1∈Do) (hZ:∀z∈F9,JR ops la a z) (hI:IZ P ops F9 la J)
  (U:∀l' H' OO K F G9 x w3 G',Fn l' H' OO K F G'->Sat n l' H' OO K B F G9 (a.put o.dst x) w3->(∀z∈F9,kB ops z.1.b (la.setIfInBounds i true)->z.1∈G')->(∀z∈F9,JR ops (la.setIfInBounds i true) (a.put o.dst x) z)->IZ P ops F9 (la.setIfInBounds i true) w3->next (a.put o.dst x) w3):
  wpOp P ops Q i next a J:=by
 have hl:=(df.1 hr).1;refine Mo hτ ho hd W sat fun l' H' OO K F G9 x w3 hK sat2 Y=>?_;have XI:∀z∈F9,JR ops (la.setIfInBounds i true) (a.put o.dst x) z:=fun z hz=>(hZ z hz).step ho (kZ hr)
 cases hR:lG o.op with
 |true=>
  rw[hR]at hK;have Y:=Y hR;subst Y;refine U _ _ _ _ _ _ _ _ Do hK sat2 (fun z hz h=>hG z hz (iw ho hl h).1) XI fun z hz h=>hI z hz (iw ho hl h).1
 |false=>
  rw[hR]at hK;obtain⟨I,h3⟩:=rD hτ sat2 _ hK;refine U _ _ _ _ _ _ _ _ _ I sat2 (fun z hz h=>?_) XI fun z hz h=>?_
  .obtain⟨k1,k2⟩:=iw ho hl h;exact lT (hG z hz k1) (k2 hR)
  .obtain⟨k1,k2⟩:=iw ho hl h;obtain⟨su,sv,e1,e2,e3⟩:=h3 z.1 (lT (hG z hz k1) (k2 hR));have h4:=sat2.env _ _ e1;have h5:=sat2.env _ _ e2;rw[(XI z hz).u]at h4;rw[(XI z hz).d]at h5;injection h4 with h4;injection h5 with h5;unfold Yz;rw[h4,h5];exact e3
end
section
variable{P:Program}{τ:lO}{ops:Array Oper}{B n nx:Nat}{l:Env}{H:Hp}{iv:Iv}{w J:World}{O:Nat->Sx.dc}{a:Act}
theorem mK{m i b:Nat}{oi:Oper}:∀(l:List Oper) (k:Nat),DX ops m i oi b l k=true->∀(j:Nat) oj,l[j]? =some oj->k+j≠i->tb m (k+j)=false->tb b (k+j)=false->oi.apart ops oj=true
 |[],_,_,j,oj,h,_,_,_=>by cases h
 |o::r,k,h,j,oj,hj,W,I,h3=>by
  simp only[DX,aq,Bool.or_eq_true]at h
  cases j with
  |zero=>
   injection hj with hj;subst hj;rcases h.1 with((h4|h4)|h4)|h4
   .exact absurd (bJ h4) W
   .rw[cH]at I;rw[I]at h4;cases h4
   .rw[cH]at h3;rw[h3]at h4;cases h4
   .exact h4
  |succ j=>
   have e:k+(j+1)=k+1+j:=by omega
   rw[e]at W I h3;exact mK r (k+1) h.2 j oj (by simpa using hj) W I h3
theorem s9{m i u d:Nat}:∀(l:List Oper) (k:Nat),Fv m i u d l k=true->∀(j:Nat) oj,l[j]? =some oj->tb m (k+j)=false->oj.dst≠some u/\(k+j≠i->oj.dst≠some d)
 |[],_,_,j,oj,h,_=>by cases h
 |o::r,k,h,j,oj,hj,I=>by
  simp only[Fv,aq,Bool.or_eq_true]at h
  cases j with
  |zero=>
   injection hj with hj;subst hj;rcases h.1 with h4|h4
   .rw[cH]at I;rw[I]at h4;cases h4
   .cases ho:o.dst with
    |none=>exact⟨ce,ce⟩
    |some e=>
     rw[ho]at h4;simp only[aq,Bool.not_eq_true',Bool.or_eq_true]at h4;refine⟨fun hh=>?_,fun OL hh=>?_⟩
     .injection hh with hh;subst hh;have:=h4.1;simp at this
     .injection hh with hh;subst hh;rcases h4.2 with h5|h5
      .exact OL (bJ h5)
      .simp at h5
  |succ j=>
   have e:k+(j+1)=k+1+j:=by omega
   rw[e]at I ⊢;exact s9 r (k+1) h.2 j oj (by simpa using hj) I
theorem Ac{o:Oper}{d T u:Nat}(h:Et o=some (d,T,u)):o.dst=some d/\o.op= .load T (.tmp u)/\o.guard=none:=by
 unfold Et at h;split at h
 .injection h with h;injection h with W I;injection I with I h3;subst W I h3;exact⟨rfl,rfl,rfl⟩
 .cases h
theorem jT(hτ:en P τ)(OV:∀(j:Nat) o,ops[j]? =some o->∀d,o.dst=some d->d<n)(Oc:∀(j:Nat) (o:Oper) cs b,ops[j]? =some o->o.op≠ .select cs b){Fn:KT}{Q0:Act->World->Prop}
  (hQ:∀l' H' OO K F G9 a' w3,Fn l' H' OO K F->Sat n l' H' OO K B F G9 a' w3->Q0 a' w3):
  ∀(t:Tg) (fuel:Nat) (la:Array Bool) (l:Env) (H:Hp) (nx:Nat) (iv:Iv) (w:World) (O:Nat->Sx.dc) (a:Act) (J:World) (Do:List Gh) (F9:List Zh),JW la<=fuel->la.size=ops.size->jK ops t la=true->z4 P τ B ops.toList t Do l H nx iv w Fn->Sat n l H nx iv B w O a J->
   (∀z∈F9,kB ops z.1.b la->z.1∈Do)->(∀z∈F9,JR ops la a z)->IZ P ops F9 la J->ou P .any ops (QN Q0) (IZ P ops F9) fuel la a J
 | .nil,fuel,la,l,H,nx,iv,w,O,a,J,Do,F9,_,_,hc,h,s,hG,hZ,hI=>by
  simp only[jK,List.isEmpty_iff]at hc;exact ve hI hc ⟨rfl,hQ _ _ _ _ _ _ _ _ h s⟩ fuel
 | .x i t,fuel,la,l,H,nx,iv,w,O,a,J,Do,F9,hf,hz,hc,h,s,hG,hZ,hI=>by
  unfold jK at hc;obtain⟨o,ho,W⟩:=eV h;rw[aX]at ho;simp only[ho,aq,Bool.or_eq_true]at hc;obtain⟨⟨c1,c2⟩,c3⟩:=hc;have c1:i∈Region.ready .any ops la:=by simpa using c1
  obtain⟨Ti,-⟩:=df.1 c1;have US:=gS Ti;obtain⟨f,rfl⟩:∃f,fuel=f+1:=⟨fuel-1,be⟩
  have Sf:(la.setIfInBounds i true).size=ops.size:=by rw[bG,hz]
  rcases c2 with c2|⟨⟨hP,RI⟩,c4⟩
  .refine⟨hI,fun h0=>(by rw[h0]at c1;cases c1),fun j hj=>?_⟩;have Ov:j=i:=eJ (List.all_eq_true.1 c2 j hj);subst Ov;exact Ab hτ ho (OV j o ho) c1 W s hG hZ hI fun _ _ _ _ _ _ _ _ G' Z hs Rx Ry Rz=>jT hτ OV Oc hQ t f _ _ _ _ _ _ _ _ _ G' F9 be Sf c3 Z hs Rx Ry Rz
  .have hR:lG o.op=true:=by
    unfold Ew at hP;split at hP
    .cases hP
    .exact hP
   have hm:=rF la;have N:=jo (ops:=ops) (m:=gU la.toList 0) (i:=i) ops.toList 0 0 (fun n o U=>by rw[aR];rwa [aX]at U) (fun j hj=>by rw[nq]at hj;cases hj);generalize xB (gU la.toList 0) i ops.toList 0 0=b at*
   have Si:o.guard=none:=by simpa using RI
   unfold eh rH at W;rw[Si]at W;obtain⟨v,hK,QF,OU⟩:=(j2 hτ W s hR).resolve_right (fun hh=>by have:=hh.1;rw[sK hR]at this;cases this);obtain⟨l2,h3,sat2⟩:=fI s hK (OV i o ho) QF;rw[hR]at h3;have Y:Region.wanted o (yielded ops a.tmps)=true:=by simp[Region.wanted,Si]
   refine lN (v:=v.den O) (b:=b) (E8:=fun _=>True) (X:=execOp a.eval o) ho hR Oc (fun c a w hq=>absurd hq.1 ce) (fun j hj=>(N j hj).2.2) (fun w3 _=>OU w3 (.inl hP)) (fun lx w h z hz ha=>h z hz ((fJ ho hR).2 ha))
    f la a J (fun j hj=>(hm j).symm.trans (N j hj).1) (fun j oj QZ Ov hl Z=>mK ops.toList 0 c4 j oj (by rw[aX];exact QZ) be (by
     have hj:=(aZ.1 QZ).1
     rw[aR,hm,jn be false true];exact hl) (by rw[aR];exact Z)) c1 ⟨Y,rfl⟩ ?_
   refine iu (fun lx w h=>⟨h,fun _=>trivial⟩) _ _ _ _ ?_;exact jT hτ OV Oc hQ t f _ _ _ _ _ _ _ _ _ Do F9 be Sf c3 h3 sat2 (fun z hz h=>hG z hz ((fJ ho hR).1 h)) (fun z hz=>(hZ z hz).step ho (kZ c1)) (fun z hz h=>hI z hz ((fJ ho hR).1 h))
 | .two i t k u,fuel,la,l,H,nx,iv,w,O,a,J,Do,F9,hf,hz,hc,h,s,hG,hZ,hI=>by
  simp only[jK]at hc;split at hc
  .rename_i x y hr;simp only[aq]at hc;obtain⟨c1,c2,c3,c4⟩:=hc;have E:=bJ c1;have hy:=bJ c2;subst E;subst hy;obtain⟨W,I⟩:=h;obtain⟨o1,RN,W⟩:=eV W;obtain⟨o2,PZ,I⟩:=eV I;rw[aX]at RN PZ;have SM:x∈Region.ready .any ops la:=by rw[hr];simp
   have SF:y∈Region.ready .any ops la:=by rw[hr];simp
   have u1:=gS (df.1 SM).1;have u2:=gS (df.1 SF).1;obtain⟨f,rfl⟩:∃f,fuel=f+1:=⟨fuel-1,be⟩
   refine⟨hI,fun h0=>(by rw[hr]at h0;cases h0),fun j hj=>?_⟩;rw[hr,List.mem_cons,bW]at hj;rcases hj with rfl|rfl
   .exact Ab hτ RN (OV _ o1 RN) SM W s hG hZ hI fun _ _ _ _ _ _ _ _ G' Z hs Rx Ry Rz=>jT hτ OV Oc hQ t f _ _ _ _ _ _ _ _ _ G' F9 be (by rw[bG,hz]) c3 Z hs Rx Ry Rz
   .exact Ab hτ PZ (OV _ o2 PZ) SF I s hG hZ hI fun _ _ _ _ _ _ _ _ G' Z hs Rx Ry Rz=>jT hτ OV Oc hQ u f _ _ _ _ _ _ _ _ _ G' F9 be (by rw[bG,hz]) c4 Z hs Rx Ry Rz
  .cases hc
 | .three i t k u m v,fuel,la,l,H,nx,iv,w,O,a,J,Do,F9,hf,hz,hc,h,s,hG,hZ,hI=>by
  simp only[jK]at hc;split at hc
  .rename_i x y z9 hr;simp only[aq]at hc;obtain⟨c1,c2,c6,c3,c4,c5⟩:=hc;have E:=bJ c1;have hy:=bJ c2;have hz9:=bJ c6;subst E;subst hy;subst hz9;obtain⟨W,I,h3⟩:=h;obtain⟨o1,RN,W⟩:=eV W;obtain⟨o2,PZ,I⟩:=eV I;obtain⟨o3,Tc,h3⟩:=eV h3;rw[aX]at RN PZ Tc;have SM:x∈Region.ready .any ops la:=by rw[hr];simp
   have SF:y∈Region.ready .any ops la:=by rw[hr];simp
   have hm3:z9∈Region.ready .any ops la:=by rw[hr];simp
   have u1:=gS (df.1 SM).1;have u2:=gS (df.1 SF).1;have u3:=gS (df.1 hm3).1;obtain⟨f,rfl⟩:∃f,fuel=f+1:=⟨fuel-1,be⟩
   refine⟨hI,fun h0=>(by rw[hr]at h0;cases h0),fun j hj=>?_⟩;rw[hr,List.mem_cons,List.mem_cons,bW]at hj;rcases hj with rfl|rfl|rfl
   .exact Ab hτ RN (OV _ o1 RN) SM W s hG hZ hI fun _ _ _ _ _ _ _ _ G' Z hs Rx Ry Rz=>jT hτ OV Oc hQ t f _ _ _ _ _ _ _ _ _ G' F9 be (by rw[bG,hz]) c3 Z hs Rx Ry Rz
   .exact Ab hτ PZ (OV _ o2 PZ) SF I s hG hZ hI fun _ _ _ _ _ _ _ _ G' Z hs Rx Ry Rz=>jT hτ OV Oc hQ u f _ _ _ _ _ _ _ _ _ G' F9 be (by rw[bG,hz]) c4 Z hs Rx Ry Rz
   .exact Ab hτ Tc (OV _ o3 Tc) hm3 h3 s hG hZ hI fun _ _ _ _ _ _ _ _ G' Z hs Rx Ry Rz=>jT hτ OV Oc hQ v f _ _ _ _ _ _ _ _ _ G' F9 be (by rw[bG,hz]) c5 Z hs Rx Ry Rz
  .cases hc
 | .ld i b t,fuel,la,l,H,nx,iv,w,O,a,J,Do,F9,hf,hz,hc,h,s,hG,hZ,hI=>by
  unfold jK at hc;obtain⟨o,ho,W⟩:=eV h;rw[aX]at ho;simp only[ho]at hc
  cases QU:Et o with
  |none=>rw[QU]at hc;cases hc
  |some q=>
   obtain⟨d,T,u⟩:=q;rw[QU]at hc W;simp only[aq]at hc;obtain⟨⟨⟨⟨c1,c2⟩,c4⟩,c5⟩,c3⟩:=hc;obtain⟨e1,e2,e3⟩:=Ac QU;have c1:i∈Region.ready .any ops la:=by simpa using c1
   obtain⟨Ti,-⟩:=df.1 c1;have US:=gS Ti;obtain⟨f,rfl⟩:∃f,fuel=f+1:=⟨fuel-1,be⟩
   have Sf:(la.setIfInBounds i true).size=ops.size:=by rw[bG,hz]
   have hR:lG o.op=true:=by rw[e2];rfl
   have hm:=rF la;have N:=jo (ops:=ops) (m:=gU la.toList 0) (i:=i) ops.toList 0 0 (fun n o U=>by rw[aR];rwa [aX]at U) (fun j hj=>by rw[nq]at hj;cases hj);rw[<-bJ c2]at N
   cases VJ:fH l u with
   |none=>simp only[VJ]at W
   |some su=>
    simp only[VJ]at W;obtain⟨v,hK,QF,OU⟩:=l9 hτ s.rel (s.sc _ _ VJ) W;have hau:=s.env _ _ VJ;have UT:=OV i o ho d e1;have sat2:Sat n ((d,v)::l) H nx iv B w O (a.put o.dst (v.den O)) J:=by rw[e1];exact s.put UT QF
    have Y:Region.wanted o (yielded ops a.tmps)=true:=by simp[Region.wanted,e3]
    have RX:a.eval (.tmp u)=su.den O:=by rw[Act.eval,ah,hau];rfl
    have hui:tb (gU la.toList 0) i=false:=by rw[hm];exact kZ c1
    have SJ:=s9 ops.toList 0 c5;refine lN (v:=v.den O) (b:=b) (E8:=Yz P (⟨u,d,T,b⟩,su.den O,v.den O)) (X:=execOp a.eval o) ho hR Oc (fun c a w hq=>absurd hq.1 ce) (fun j hj=>(N j hj).2.2) (fun w3 hY=>?_) (fun lx w h z hz ha=>h z hz ((fJ ho hR).2 ha))
     f la a J (fun j hj=>(hm j).symm.trans (N j hj).1) (fun j oj QZ Ov hl Z=>mK ops.toList 0 c4 j oj (by rw[aX];exact QZ) be (by
      have hj:=(aZ.1 QZ).1
      rw[aR,hm,jn be false true];exact hl) (by rw[aR];exact Z)) c1 ⟨Y,rfl⟩ ?_
    .unfold Yz at hY;obtain⟨dst,op,ty,pos,after,guard⟩:=o;simp only at e2;subst e2;simp only[execOp,RX]
     exact km hY
    .refine iu (E9:=IZ P ops ((⟨u,d,T,b⟩,su.den O,v.den O)::F9)) (fun lx w h=>⟨fun z hz=>h z (aD _ hz),h _ aF⟩) _ _ _ _ ?_;refine jT hτ OV Oc hQ t f _ _ _ _ _ _ _ _ _ (⟨u,d,T,b⟩::Do) ((⟨u,d,T,b⟩,su.den O,v.den O)::F9) be Sf c3 hK sat2 (fun z hz h=>?_) (fun z hz=>?_) (fun z hz h=>?_)
     .rcases List.mem_cons.1 hz with rfl|hz
      .exact aF
      .exact aD _ (hG z hz ((fJ ho hR).1 h))
     .rcases List.mem_cons.1 hz with rfl|hz
      .have h7:=(SJ i o (by rw[aX];exact ho) (by rw[aR];exact hui)).1;refine⟨ns h7 hau,?_,fun j oj QZ RP=>?_⟩
       .rw[e1];show(a.tmps.setIfInBounds d _)[d]? =_;rw[Array.getElem?_setIfInBounds_self_of_lt (by rw[s.size];exact UT)]
       .have Ov:i≠j:=fun e=>by
         subst e;have R:=(aZ.1 Ti).1;rw[ah,Array.getElem?_setIfInBounds_self_of_lt R]at RP
         cases RP
        rw[Go.getD_set_ne false Ov]at RP;obtain⟨k1,k2⟩:=SJ j oj (by rw[aX];exact QZ) (by rw[aR,hm];exact RP);exact⟨k1,k2 be⟩
      .exact(hZ z hz).step ho (kZ c1)
     .rcases List.mem_cons.1 hz with rfl|hz
      .exact OU J s.rel
      .exact hI z hz ((fJ ho hR).1 h)
 | .EY id t,fuel,la,l,H,nx,iv,w,O,a,J,Do,F9,hf,hz,hc,h,s,hG,hZ,hI=>by
  obtain⟨H',b,Pk,hd,hs,ho,h⟩:=h;obtain⟨U,l',hl,h⟩:=h _ _ s.rel;exact jT hτ OV Oc hQ t fuel la l' H' nx _ J O a J Do F9 hf hz hc h ⟨s.rel.free Pk hd U hs ho,s.size,s.defers,fun u v hv=>by obtain⟨-,v',W,I⟩:=hl u v hv;rw[<-I];exact s.env u v' W,fun u v hv=>(hl u v hv).1⟩ hG hZ hI
theorem qo(hτ:en P τ)(hm:P.follows .mixedOrders=true){Fn:KT}(t:Tg)(hs:Region.noSelect ops=true)(hc:jK ops t (Array.replicate ops.size false)=true)
  (h:z4 P τ B ops.toList t [] l H nx iv w Fn):nu P B ops l H nx iv w Fn:=by
 refine⟨fun n O a J OV sat Q hQ id=>?_⟩;refine wp_mono (Q':=Q) (c:=.region id ops true) (wp_region_any (Q:=QN (Q .normal)) hm (s8 (E9:=IZ P ops []) _ _ _ _ ?_)) (fun e a w hq=>by obtain⟨rfl,hq⟩:=hq;exact hq);refine jT (Q0:=Q .normal) hτ (fun j o ho d hd=>?_) (Region.noSelect_spec hs) hQ t _ _ _ _ _ _ _ O _ _ [] [] ?_ ce hc h ⟨sat.rel.drew,sat.size,sat.defers,sat.env,sat.sc⟩ (fun z hz=>by cases hz) (fun z hz=>by cases hz) (fun z hz=>by cases hz)
 .have:=List.all_eq_true.1 OV o (aG (by rw[aX];exact ho));rw[hd]at this;have h5:d+1<=n:=by simpa [Nat.blt]using this
  exact h5
 .unfold JW;refine aP List.countP_le_length ?_;simp
end
end Go.Ex
