/- Texts X63 to X79: lemmas, each with its conditions. -/
import Derived.Test.YtgkpbdkechfgmaaGreatP7
namespace Go.Ex
open Go Go.Sx Go.Proofs
variable{M:List (List Rat)}{css:List (List Value)}{xs ys:List Rat}{cs:List Value}{S:Nat->Prop}{O:Nat->Sx.eE}{a:Option Addr}{b p q:Rat}{u:Value}{w:World}
def eS(w:World)(S:Nat->Prop)(v:Value)(q:Rat):Prop:=∃b1 l1 b2 l2 a b,v= .agg #[.bool b1,l1,.bool b2,l2]∧gB w S (.agg #[.bool b1,l1]) 100000 a∧gB w S (.agg #[.bool b2,l2]) 100000 b∧ratio a b=q
theorem eS.cJ{w2:World}{v:Value}(h:eS w S v q)(hk:∀g,S g->w2.heap[g]? =w.heap[g]?):eS w2 S v q:=by
 obtain⟨b1,l1,b2,l2,a,b,h1,h2,h3,h4⟩:=h;exact⟨b1,l1,b2,l2,a,b,h1,h2.cJ hk,h3.cJ hk,h4⟩
theorem eS.cL{S':Nat->Prop}{v:Value}(h:eS w S v q)(hk:∀g,S g->S' g):eS w S' v q:=by
 obtain⟨b1,l1,b2,l2,a,b,h1,h2,h3,h4⟩:=h;exact⟨b1,l1,b2,l2,a,b,h1,h2.cL hk,h3.cL hk,h4⟩
theorem eS.r{v:Value}(h:eS w S v q):∃a b,jM w S v a b∧ratio a b=q:=by
 obtain⟨b1,l1,b2,l2,a,b,rfl,h2,h3,h4⟩:=h;exact⟨a,b,⟨b1,l1,b2,l2,rfl,h2.r,h3.r⟩,h4⟩
theorem eS.v{v:Value}(h:eS w S v q):sh w S v q:=by
 obtain⟨b1,l1,b2,l2,a,b,rfl,h2,h3,h4⟩:=h;exact⟨a,b,⟨b1,l1,b2,l2,rfl,h2.r,h3.r⟩,h4,h2.ln,h3.ln⟩
theorem eS.shape{v:Value}(h:eS w S v q):∃b a n c b2 a2 n2 c2,v= .agg #[.bool b,.slice a n c,.bool b2,.slice a2 n2 c2]:=h.v.shape
theorem eS.rl{v:Value}(h:eS w S v q):rl q<=100000:=by
 obtain⟨b1,l1,b2,l2,a,b,rfl,h2,h3,rfl⟩:=h;have:=jJ a b;have:=h2.ln;have:=h3.ln;omega
theorem cT.l{v:Value}(h:cT w S v q)(hl:rl q<=100000):eS w S v q:=by
 obtain⟨b1,l1,b2,l2,h1,h2,h3⟩:=h;exact⟨b1,l1,b2,l2,_,_,h1,h2.l (aV (gD q) hl),h3.l (aV (fO q) hl),qW q⟩
theorem aB1(a b:Int):rs (ratio a b)=if b.sign<0 then -a.sign else a.sign:=by
 have sb:=gY b;rw[ratio];split
 ·rw[aK (by omega),rs,wR (by decide)]
 ·split
  ·rw[show Rat.divInt a b=Rat.divInt (-a) (-b)from(Rat.neg_divInt_neg a b).symm,rs,wR (by omega),Int.sign_neg]
  ·rw[rs,wR (by omega)]
theorem kN{a c:Int}:(a.natAbs<1073741824)->(c.natAbs<1073741824)->(a*c).natAbs<=1152921502459363329:=fun h1 h2=>by
 rw[Int.natAbs_mul];exact Nat.mul_le_mul (show a.natAbs<=1073741823 by omega) (show c.natAbs<=1073741823 by omega)
section
variable{S S':Nat->Prop}{H:Hp}{nx:Nat}{iv iv':Iv}{B:Nat}{w w' w2:World}{O:Nat->Sx.eE}{v:Value}{q:Rat}
theorem eS.rel(h:eS w (Cv S B iv) v q)(r:Rel H nx iv B w O w')(hS:∀g,S g->g<B):eS w' (Cv S B iv) v q:=h.cJ fun _ hg=>Rel.same r hS hg
theorem eS.cK(h:eS w (Cv S B iv) v q)(r:Rel H nx iv B w O w')(hS:∀g,S g->g<B)(he:Ext w' w2)(hm:∀p,p∈iv->p∈iv'):eS w2 (Cv S B iv') v q:=
 ((h.rel r hS).cJ fun g hg=>he.block g (Rel.old r hS g hg)).cL fun _ hg=>hg.mono hm
theorem eS.arg(h:eS w S v q)(iv:Iv):eS w (Cv S w.heap.size iv) v q:=h.cL fun _ h=>.inl h
end
theorem vO{v:Value}{a b:Int}(hS:Old S w)(hp:jM w S v a b):
  eA PG N.k6 #[v] w (eL w fun v' _=>v'= .int .i64 (rs (ratio a b))):=by
 have hw:=bR w;obtain⟨b1,l1,b2,l2,rfl,ha,QC⟩:=hp;obtain⟨_,a1,n1,c1,e1⟩:=ha.shape;obtain⟨_,a2,n2,c2,e2⟩:=QC.shape;simp only[Value.agg.injEq,Array.mk.injEq,List.cons.injEq,and_true]at e1 e2;obtain⟨_,rfl⟩:=e1;obtain⟨_,rfl⟩:=e2;replace ha:=ha.cL (S':=Cv S w.heap.size []) fun _ h=>.inl h;replace QC:=QC.cL (S':=Cv S w.heap.size []) fun _ h=>.inl h;have hr:=aB1 a b;have sa:=gY a;refine AG (by simp) ?_;refine cH (cE hw (fun _ w' v w2=>v= .int .i64 b.sign) (fun O w' r=>iH (Rel.old r hS) (QC.rel r hS)) ?_);rintro O _ _ _ Od r he hw h_ rfl;replace ha:=ha.cK r hS he (mC h_);refine dG.mk ?_ ?_<;>intro h
 ·have h:=aH h;rw[if_pos h]at hr;refine cH (cE hw (fun _ w' v w2=>v= .int .i64 a.sign) (fun O w' r=>iH (Rel.old r hS) (ha.rel r hS)) ?_);rintro O QR v2 PY Oa r he hw h_ rfl;refine⟨-a.sign,wo,?_⟩;exact rtn hw fun ρe we re=>by rw[hr];rfl
 have h:=aG h;rw[aK h]at hr;refine cH (cE hw (fun _ w' v w2=>v= .int .i64 a.sign) (fun O w' r=>iH (Rel.old r hS) (ha.rel r hS)) ?_);rintro O _ _ _ Oa r he hw h_ rfl;exact rtn hw fun ρe we re=>by rw[hr];rfl
theorem yp{v:Value}(hS:Old S w)(hp:cT w S v p):eA PG N.k6 #[v] w (eL w fun v' _=>v'= .int .i64 (rs p)):=by
 have:=vO hS hp.r;rw[qW]at this;exact this
theorem vR{v:Value}(hS:Old S w)(hp:eS w S v p):eA PG N.k6 #[v] w (eL w fun v' _=>v'= .int .i64 (rs p)):=by
 obtain⟨a,b,h1,rfl⟩:=hp.r;exact vO hS h1
theorem iB{v:Value}(hS:Old S w)(hp:eS w S v p):
  eA PG N.wi #[v] w (eL w fun v' w2=>cT w2 (Nf w w2) v' p):=by
 have hw:=bR w;obtain⟨b1,l1,b2,l2,a,b,rfl,ha,QC,rfl⟩:=hp;obtain⟨_,a1,n1,c1,e1⟩:=ha.shape;obtain⟨_,a2,n2,c2,e2⟩:=QC.shape;simp only[Value.agg.injEq,Array.mk.injEq,List.cons.injEq,and_true]at e1 e2;obtain⟨_,rfl⟩:=e1;obtain⟨_,rfl⟩:=e2;replace ha:=ha.cL (S':=Cv S w.heap.size []) fun _ h=>.inl h;replace QC:=QC.cL (S':=Cv S w.heap.size []) fun _ h=>.inl h;have sb:=gY b;refine AM (by simp) ?_;refine cH (cP (Φ:=fun _ w' v w2=>v= .int .i64 b.sign) (fun O w' r=>iH (Rel.old r hS) (QC.rel r hS).r) ?_);rintro O Pa v1 PJ r he hb rfl;replace hw:=hw.tr hb;replace ha:=ha.cK (iv':=(Pa.heap.size,PJ.heap.size)::[]) r hS he fun x hx=>aC _ hx;replace QC:=QC.cK (iv':=(Pa.heap.size,PJ.heap.size)::[]) r hS he fun x hx=>aC _ hx;generalize (Pa.heap.size,PJ.heap.size)::[]=Od at*
 refine dG.mk ?_ ?_<;>intro h
 ·have h:b.sign=0:=by simpa using h
  obtain rfl:b=0:=by omega
  rw[show ratio a 0=Rat.divInt a 1 from if_pos rfl];refine cO hτ dZ [.x 0,.x 1,.x 2,.x 3,.x 4] (by kernel_rfl) (by kernel_rfl) ?_;refine cP (Φ:=fun _ w' v w2=>dU w2 (Nf w' w2) v (1)) (fun O w' r=>mI _ w' (by decide) (by decide)) ?_;rintro O QR v2 PY r he hb hn;replace hw:=hw.tr hb;replace ha:=ha.cK (iv':=(QR.heap.size,PY.heap.size)::Od) r hS he fun x hx=>aC _ hx;replace QC:=QC.cK (iv':=(QR.heap.size,PY.heap.size)::Od) r hS he fun x hx=>aC _ hx;have h1:=hn.dK (S:=FF) r.cI (iv:=(QR.heap.size,PY.heap.size)::Od) aI;generalize (QR.heap.size,PY.heap.size)::Od=Oa at*
  obtain⟨A0,A1,A2,A3,rfl⟩:=h1.shape;refine cP (Φ:=fun _ w' v w2=>cT w2 (Nf w' w2) v (Rat.divInt a 1)) (fun O w' r=>lS (Rel.old r hS) (ha.rel r hS) (((h1.rel r (cG w)).l (k:=1) (by decide)).cL fun g hg=>Cv.false hg) (by omega) (by omega) (by decide)) ?_;rintro O Pg v3 Pc r he hb hn;replace hw:=hw.tr hb;replace ha:=ha.cK (iv':=(Pg.heap.size,Pc.heap.size)::Oa) r hS he fun x hx=>aC _ hx;replace QC:=QC.cK (iv':=(Pg.heap.size,Pc.heap.size)::Oa) r hS he fun x hx=>aC _ hx;replace h1:=h1.cK (iv':=(Pg.heap.size,Pc.heap.size)::Oa) r (cG w) he fun x hx=>aC _ hx;have hR:=hn.dK (S:=FF) r.cI (iv:=(Pg.heap.size,Pc.heap.size)::Oa) aI;generalize (Pg.heap.size,Pc.heap.size)::Oa=Oj at*
  obtain⟨C0,C1,C2,C3,C4,C5,C6,C7,rfl⟩:=hR.shape;exact rtn hw fun ρe we re=>hR.out re (cG w)
 have h:b.sign≠0:=by simpa using h
 have hb0:b≠0:=by omega
 rw[show ratio a b=Rat.divInt a b from aK hb0];refine cH (cP (Φ:=fun _ w' v w2=>cT w2 (Nf w' w2) v (Rat.divInt a b)) (fun O w' r=>lS (Rel.old r hS) (ha.rel r hS) (QC.rel r hS) (by omega) (by omega) hb0) ?_);rintro O QR v2 PY r he hb hn;replace hw:=hw.tr hb;replace ha:=ha.cK (iv':=(QR.heap.size,PY.heap.size)::Od) r hS he fun x hx=>aC _ hx;replace QC:=QC.cK (iv':=(QR.heap.size,PY.heap.size)::Od) r hS he fun x hx=>aC _ hx;have hR:=hn.dK (S:=FF) r.cI (iv:=(QR.heap.size,PY.heap.size)::Od) aI;generalize (QR.heap.size,PY.heap.size)::Od=Oa at*
 obtain⟨A0,A1,A2,A3,A4,A5,A6,A7,rfl⟩:=hR.shape;exact rtn hw fun ρe we re=>hR.out re (cG w)
theorem BF{v:Value}(hS:Old S w)(hp:eS w S v p):
  eA PG N.zh #[v] w (eL w fun v' _=>∃n d ok,v'= .tuple #[.int .i64 n,.int .i64 d,.bool ok]∧(ok=true->d≠0∧n.natAbs<1073741824∧d.natAbs<1073741824∧Rat.divInt n d=p)):=by
 have hw:=bR w;obtain⟨b1,l1,b2,l2,a,b,rfl,ha,QC,rfl⟩:=hp;obtain⟨_,a1,n1,c1,e1⟩:=ha.shape;obtain⟨_,a2,n2,c2,e2⟩:=QC.shape;simp only[Value.agg.injEq,Array.mk.injEq,List.cons.injEq,and_true]at e1 e2;obtain⟨_,rfl⟩:=e1;obtain⟨_,rfl⟩:=e2;replace ha:=ha.cL (S':=Cv S w.heap.size []) fun _ h=>.inl h;replace QC:=QC.cL (S':=Cv S w.heap.size []) fun _ h=>.inl h;refine Cu (by simp) ?_
 refine cH (cP (Φ:=fun _ w' v w2=>∃n p,v= .tuple #[.int .i64 n,.bool p]∧(p=true->n=a∧a.natAbs<1073741824)) (fun O w' r=>(pK (Rel.old r hS) (ha.rel r hS).r).mono fun e w2 ⟨v2,e1,e2,e3⟩=>⟨v2,e1,e2,by
   rw[e3,kh];split
   ·exact⟨_,_,rfl,fun _=>⟨rfl,‹_›⟩⟩
   ·exact⟨_,_,rfl,fun h=>by cases h⟩⟩) ?_)
 rintro O Pa v1 PJ r he hb ⟨na,pa,rfl,qa⟩;replace hw:=hw.tr hb;replace ha:=ha.cK (iv':=(Pa.heap.size,PJ.heap.size)::[]) r hS he fun x hx=>aC _ hx;replace QC:=QC.cK (iv':=(Pa.heap.size,PJ.heap.size)::[]) r hS he fun x hx=>aC _ hx;generalize (Pa.heap.size,PJ.heap.size)::[]=Od at*
 refine cH (cP (Φ:=fun _ w' v w2=>∃n p,v= .tuple #[.int .i64 n,.bool p]∧(p=true->n=b∧b.natAbs<1073741824)) (fun O w' r=>(pK (Rel.old r hS) (QC.rel r hS).r).mono fun e w2 ⟨v2,e1,e2,e3⟩=>⟨v2,e1,e2,by
   rw[e3,kh];split
   ·exact⟨_,_,rfl,fun _=>⟨rfl,‹_›⟩⟩
   ·exact⟨_,_,rfl,fun h=>by cases h⟩⟩) ?_)
 rintro O QR v2 PY r he hb ⟨nb,pb,rfl,qb⟩;replace hw:=hw.tr hb;replace ha:=ha.cK (iv':=(QR.heap.size,PY.heap.size)::Od) r hS he fun x hx=>aC _ hx;replace QC:=QC.cK (iv':=(QR.heap.size,PY.heap.size)::Od) r hS he fun x hx=>aC _ hx;generalize (QR.heap.size,PY.heap.size)::Od=Oa at*
 refine dG.mk ?_ ?_<;>intro h
 ·have h:nb=0:=by simpa using h
  refine dG.mk ?_ ?_<;>intro h1
  ·intro ρe we re
   exact⟨_,rfl,hw.tr re.cS,⟨na,1,pb,rfl,fun h2=>by
     obtain⟨rfl,hx⟩:=qa h1;obtain⟨rfl,hy⟩:=qb h2;rw[h]
     exact⟨by decide,hx,by decide,(if_pos rfl).symm⟩⟩⟩
  exact rtn hw fun ρe we re=>⟨na,1,false,rfl,fun h2=>by cases h2⟩
 have h:nb≠0:=by simpa using h
 refine dG.mk ?_ ?_<;>intro h1
 ·intro ρe we re
  exact⟨_,rfl,hw.tr re.cS,⟨na,nb,pb,rfl,fun h2=>by
    obtain⟨rfl,hx⟩:=qa h1;obtain⟨rfl,hy⟩:=qb h2
    exact⟨h,hx,hy,(aK h).symm⟩⟩⟩
 exact rtn hw fun ρe we re=>⟨na,nb,false,rfl,fun h2=>by cases h2⟩
theorem vD{v:Value}(hS:Old S w)(hp:eS w S v p)(hq:eS w S u q):
  eA PG N.Ek #[v,u] w (eL w fun v' w2=>cT w2 (Nf w w2) v' (p+q)):=by
 have hw:=bR w;replace hp:=hp.cL (S':=Cv S w.heap.size []) fun _ h=>.inl h;replace hq:=hq.cL (S':=Cv S w.heap.size []) fun _ h=>.inl h;obtain⟨b1,a1,n1,c1,b2,a2,n2,c2,rfl⟩:=hp.shape;obtain⟨b3,a3,n3,c3,b4,a4,n4,c4,rfl⟩:=hq.shape;refine GR (by simp) ?_;have r1:=hp.rl;have r2:=hq.rl;have u1:=gD p;have u2:=fO p;have u3:=gD q;have u4:=fO q;refine cH (cE hw (fun _ w' v w2=>∃n d ok,v= .tuple #[.int .i64 n,.int .i64 d,.bool ok]∧(ok=true->d≠0∧n.natAbs<1073741824∧d.natAbs<1073741824∧Rat.divInt n d=p)) (fun O w' r=>BF (Rel.old r hS) (hp.rel r hS)) ?_);rintro O _ _ _ Od r he hw h_ ⟨a,b,k1,rfl,g1⟩;replace hp:=hp.cK r hS he (mC h_);replace hq:=hq.cK r hS he (mC h_);refine cH (cE hw (fun _ w' v w2=>∃n d ok,v= .tuple #[.int .i64 n,.int .i64 d,.bool ok]∧(ok=true->d≠0∧n.natAbs<1073741824∧d.natAbs<1073741824∧Rat.divInt n d=q)) (fun O w' r=>BF (Rel.old r hS) (hq.rel r hS)) ?_);rintro O _ _ _ Oa r he hw h_ ⟨c,d,k2,rfl,g2⟩;replace hp:=hp.cK r hS he (mC h_);replace hq:=hq.cK r hS he (mC h_);refine dG.mk ?_ ?_<;>intro h1
 ·refine dG.mk ?_ ?_<;>intro h2
  ·obtain⟨g3,g4,g5,g6⟩:=g1 h1;obtain⟨g7,g8,g9,g10⟩:=g2 h2;have i1:=kN g4 g9;have i2:=kN g8 g5;have i3:=kN g5 g9;have i4:=kN g4 g8;refine⟨a*d,wo,c*b,wo,a*d+c*b,wo,b*d,wo,?_⟩;have e:=Rat.divInt_add_divInt a c g3 g7;rw[g6,g10]at e;refine cH (cE hw (fun _ w' v w2=>cT w2 (Nf w' w2) v (p+q)) (fun O w' r=>e▸tS (a*d+c*b) (b*d) w' (by omega) (by omega) (lF g3 g7)) ?_);rintro O Pg v3 Pc Oj r he hw h_ hn;have hR:=hn.dK (S:=FF) r.cI (mN h_);obtain⟨A0,A1,A2,A3,A4,A5,A6,A7,rfl⟩:=hR.shape;exact rtn hw fun ρe we re=>hR.out re (cG w)
  refine cO hτ dZ [.x 0,.x 2,.x 1,.x 3,.x 4,.x 5] (by kernel_rfl) (by kernel_rfl) ?_;refine cE hw (fun _ w' v w2=>cT w2 (Nf w' w2) v (p)) (fun O w' r=>iB (Rel.old r hS) (hp.rel r hS)) ?_;rintro O Pg v3 Pc Oj r he hw h_ hn;replace hq:=hq.cK r hS he (mC h_);have hX:=hn.dK (S:=FF) r.cI (mN h_);obtain⟨A0,A1,A2,A3,A4,A5,A6,A7,rfl⟩:=hX.shape;refine cE hw (fun _ w' v w2=>cT w2 (Nf w' w2) v (q)) (fun O w' r=>iB (Rel.old r hS) (hq.rel r hS)) ?_;rintro O Qh v4 Q6 Oz r he hw h_ hn;replace hX:=hX.cK r (cG w) he (mC h_);have hY:=hn.dK (S:=FF) r.cI (mN h_);obtain⟨C0,C1,C2,C3,C4,C5,C6,C7,rfl⟩:=hY.shape;have Qy:=hX.num;have Qe:=hX.den;have Qz:=hY.num;have RA:=hY.den;have m0:=dI p.num q.den;have m1:=dI q.num p.den;have m2:=dI (p.den:Int) q.den;have m3:=j6 (p.num*q.den) (q.num*p.den);have m4:=dI p.num q.num;refine cO hτ dZ [.x 0,.x 1,.x 2,.x 3,.x 5,.x 6,.x 7,.x 8,.x 11,.x 12,.x 13,.x 14,.x 4,.x 9,.x 10,.x 15,.x 16,.x 17] (by kernel_rfl) (by kernel_rfl) ?_;refine cE hw (fun _ w' v w2=>dU w2 (Nf w' w2) v (p.num*(q.den:Int))) (fun O w' r=>jH (Rel.old r (cG w)) ((Qy.rel r (cG w)).l (k:=100000) (by omega)) ((RA.rel r (cG w)).l (k:=100000) (by omega)) (by omega) (by omega)) ?_;rintro O Rz v5 Rs QT r he hw h_ hn;replace Qy:=Qy.cK r (cG w) he (mC h_);replace Qe:=Qe.cK r (cG w) he (mC h_);replace Qz:=Qz.cK r (cG w) he (mC h_);replace RA:=RA.cK r (cG w) he (mC h_);have hA:=hn.dK (S:=FF) r.cI (mN h_);obtain⟨F0,F1,F2,F3,rfl⟩:=hA.shape;refine cE hw (fun _ w' v w2=>dU w2 (Nf w' w2) v (q.num*(p.den:Int))) (fun O w' r=>jH (Rel.old r (cG w)) ((Qz.rel r (cG w)).l (k:=100000) (by omega)) ((Qe.rel r (cG w)).l (k:=100000) (by omega)) (by omega) (by omega)) ?_;rintro O R5 v6 RX Qr r he hw h_ hn;replace Qy:=Qy.cK r (cG w) he (mC h_);replace Qe:=Qe.cK r (cG w) he (mC h_);replace Qz:=Qz.cK r (cG w) he (mC h_);replace RA:=RA.cK r (cG w) he (mC h_);replace hA:=hA.cK r (cG w) he (mC h_);have hB:=hn.dK (S:=FF) r.cI (mN h_);obtain⟨J0,J1,J2,J3,rfl⟩:=hB.shape;refine cE hw (fun _ w' v w2=>dU w2 (Nf w' w2) v (p.num*(q.den:Int)+q.num*(p.den:Int))) (fun O w' r=>DU (Rel.old r (cG w)) ((hA.rel r (cG w)).l (k:=200000) (by omega)) ((hB.rel r (cG w)).l (k:=200000) (by omega)) (by omega) (by omega)) ?_;rintro O Sw v7 Sz RO r he hw h_ hn;replace Qy:=Qy.cK r (cG w) he (mC h_);replace Qe:=Qe.cK r (cG w) he (mC h_);replace Qz:=Qz.cK r (cG w) he (mC h_);replace RA:=RA.cK r (cG w) he (mC h_);have hN:=hn.dK (S:=FF) r.cI (mN h_);obtain⟨K0,K1,K2,K3,rfl⟩:=hN.shape;refine cE hw (fun _ w' v w2=>dU w2 (Nf w' w2) v ((p.den:Int)*(q.den:Int))) (fun O w' r=>jH (Rel.old r (cG w)) ((Qe.rel r (cG w)).l (k:=100000) (by omega)) ((RA.rel r (cG w)).l (k:=100000) (by omega)) (by omega) (by omega)) ?_;rintro O S9 v8 Se RF r he hw h_ hn;replace Qy:=Qy.cK r (cG w) he (mC h_);replace Qe:=Qe.cK r (cG w) he (mC h_);replace Qz:=Qz.cK r (cG w) he (mC h_);replace RA:=RA.cK r (cG w) he (mC h_);replace hN:=hN.cK r (cG w) he (mC h_);have hD:=hn.dK (S:=FF) r.cI (mN h_);obtain⟨N0,N1,N2,N3,rfl⟩:=hD.shape;refine cE hw (fun _ w' v w2=>cT w2 (Nf w' w2) v (p+q)) (fun O w' r=>(wQ p q)▸lS (Rel.old r (cG w)) ((hN.rel r (cG w)).l (k:=200001) (by omega)) ((hD.rel r (cG w)).l (k:=200001) (by omega)) (by omega) (by omega) (lF (ga p) (ga q))) ?_;rintro O RP v9 RY RD r he hw h_ hn;have hR:=hn.dK (S:=FF) r.cI (mN h_);obtain⟨O0,O1,O2,O3,O4,O5,O6,O7,rfl⟩:=hR.shape;exact rtn hw fun ρe we re=>hR.out re (cG w)
 refine cO hτ dZ [.x 0,.x 2,.x 1,.x 3,.x 4,.x 5] (by kernel_rfl) (by kernel_rfl) ?_;refine cE hw (fun _ w' v w2=>cT w2 (Nf w' w2) v (p)) (fun O w' r=>iB (Rel.old r hS) (hp.rel r hS)) ?_;rintro O _ _ _ Oj r he hw h_ hn;replace hq:=hq.cK r hS he (mC h_);have hX:=hn.dK (S:=FF) r.cI (mN h_);obtain⟨A0,A1,A2,A3,A4,A5,A6,A7,rfl⟩:=hX.shape;refine cE hw (fun _ w' v w2=>cT w2 (Nf w' w2) v (q)) (fun O w' r=>iB (Rel.old r hS) (hq.rel r hS)) ?_;rintro O _ _ _ Oz r he hw h_ hn;replace hX:=hX.cK r (cG w) he (mC h_);have hY:=hn.dK (S:=FF) r.cI (mN h_);obtain⟨C0,C1,C2,C3,C4,C5,C6,C7,rfl⟩:=hY.shape;have Qy:=hX.num;have Qe:=hX.den;have Qz:=hY.num;have RA:=hY.den;have m0:=dI p.num q.den;have m1:=dI q.num p.den;have m2:=dI (p.den:Int) q.den;have m3:=j6 (p.num*q.den) (q.num*p.den);have m4:=dI p.num q.num;refine cO hτ dZ [.x 0,.x 1,.x 2,.x 3,.x 5,.x 6,.x 7,.x 8,.x 11,.x 12,.x 13,.x 14,.x 4,.x 9,.x 10,.x 15,.x 16,.x 17] (by kernel_rfl) (by kernel_rfl) ?_;refine cE hw (fun _ w' v w2=>dU w2 (Nf w' w2) v (p.num*(q.den:Int))) (fun O w' r=>jH (Rel.old r (cG w)) ((Qy.rel r (cG w)).l (k:=100000) (by omega)) ((RA.rel r (cG w)).l (k:=100000) (by omega)) (by omega) (by omega)) ?_;rintro O _ _ _ QT r he hw h_ hn;replace Qy:=Qy.cK r (cG w) he (mC h_);replace Qe:=Qe.cK r (cG w) he (mC h_);replace Qz:=Qz.cK r (cG w) he (mC h_);replace RA:=RA.cK r (cG w) he (mC h_);have hA:=hn.dK (S:=FF) r.cI (mN h_);obtain⟨F0,F1,F2,F3,rfl⟩:=hA.shape;refine cE hw (fun _ w' v w2=>dU w2 (Nf w' w2) v (q.num*(p.den:Int))) (fun O w' r=>jH (Rel.old r (cG w)) ((Qz.rel r (cG w)).l (k:=100000) (by omega)) ((Qe.rel r (cG w)).l (k:=100000) (by omega)) (by omega) (by omega)) ?_;rintro O _ _ _ Qr r he hw h_ hn;replace Qy:=Qy.cK r (cG w) he (mC h_);replace Qe:=Qe.cK r (cG w) he (mC h_);replace Qz:=Qz.cK r (cG w) he (mC h_);replace RA:=RA.cK r (cG w) he (mC h_);replace hA:=hA.cK r (cG w) he (mC h_);have hB:=hn.dK (S:=FF) r.cI (mN h_);obtain⟨J0,J1,J2,J3,rfl⟩:=hB.shape;refine cE hw (fun _ w' v w2=>dU w2 (Nf w' w2) v (p.num*(q.den:Int)+q.num*(p.den:Int))) (fun O w' r=>DU (Rel.old r (cG w)) ((hA.rel r (cG w)).l (k:=200000) (by omega)) ((hB.rel r (cG w)).l (k:=200000) (by omega)) (by omega) (by omega)) ?_;rintro O _ _ _ RO r he hw h_ hn;replace Qy:=Qy.cK r (cG w) he (mC h_);replace Qe:=Qe.cK r (cG w) he (mC h_);replace Qz:=Qz.cK r (cG w) he (mC h_);replace RA:=RA.cK r (cG w) he (mC h_);have hN:=hn.dK (S:=FF) r.cI (mN h_);obtain⟨K0,K1,K2,K3,rfl⟩:=hN.shape;refine cE hw (fun _ w' v w2=>dU w2 (Nf w' w2) v ((p.den:Int)*(q.den:Int))) (fun O w' r=>jH (Rel.old r (cG w)) ((Qe.rel r (cG w)).l (k:=100000) (by omega)) ((RA.rel r (cG w)).l (k:=100000) (by omega)) (by omega) (by omega)) ?_;rintro O _ _ _ RF r he hw h_ hn;replace Qy:=Qy.cK r (cG w) he (mC h_);replace Qe:=Qe.cK r (cG w) he (mC h_);replace Qz:=Qz.cK r (cG w) he (mC h_);replace RA:=RA.cK r (cG w) he (mC h_);replace hN:=hN.cK r (cG w) he (mC h_);have hD:=hn.dK (S:=FF) r.cI (mN h_);obtain⟨N0,N1,N2,N3,rfl⟩:=hD.shape;refine cE hw (fun _ w' v w2=>cT w2 (Nf w' w2) v (p+q)) (fun O w' r=>(wQ p q)▸lS (Rel.old r (cG w)) ((hN.rel r (cG w)).l (k:=200001) (by omega)) ((hD.rel r (cG w)).l (k:=200001) (by omega)) (by omega) (by omega) (lF (ga p) (ga q))) ?_;rintro O _ _ _ RD r he hw h_ hn;have hR:=hn.dK (S:=FF) r.cI (mN h_);obtain⟨O0,O1,O2,O3,O4,O5,O6,O7,rfl⟩:=hR.shape;exact rtn hw fun ρe we re=>hR.out re (cG w)
theorem vC{v:Value}(hS:Old S w)(hp:eS w S v p)(hq:eS w S u q):
  eA PG N.Ei #[v,u] w (eL w fun v' w2=>cT w2 (Nf w w2) v' (p*q)):=by
 have hw:=bR w;replace hp:=hp.cL (S':=Cv S w.heap.size []) fun _ h=>.inl h;replace hq:=hq.cL (S':=Cv S w.heap.size []) fun _ h=>.inl h;obtain⟨b1,a1,n1,c1,b2,a2,n2,c2,rfl⟩:=hp.shape;obtain⟨b3,a3,n3,c3,b4,a4,n4,c4,rfl⟩:=hq.shape;refine GO (by simp) ?_;have r1:=hp.rl;have r2:=hq.rl;have u1:=gD p;have u2:=fO p;have u3:=gD q;have u4:=fO q;refine cH (cE hw (fun _ w' v w2=>∃n d ok,v= .tuple #[.int .i64 n,.int .i64 d,.bool ok]∧(ok=true->d≠0∧n.natAbs<1073741824∧d.natAbs<1073741824∧Rat.divInt n d=p)) (fun O w' r=>BF (Rel.old r hS) (hp.rel r hS)) ?_);rintro O _ _ _ Od r he hw h_ ⟨a,b,k1,rfl,g1⟩;replace hp:=hp.cK r hS he (mC h_);replace hq:=hq.cK r hS he (mC h_);refine cH (cE hw (fun _ w' v w2=>∃n d ok,v= .tuple #[.int .i64 n,.int .i64 d,.bool ok]∧(ok=true->d≠0∧n.natAbs<1073741824∧d.natAbs<1073741824∧Rat.divInt n d=q)) (fun O w' r=>BF (Rel.old r hS) (hq.rel r hS)) ?_);rintro O _ _ _ Oa r he hw h_ ⟨c,d,k2,rfl,g2⟩;replace hp:=hp.cK r hS he (mC h_);replace hq:=hq.cK r hS he (mC h_);refine dG.mk ?_ ?_<;>intro h1
 ·refine dG.mk ?_ ?_<;>intro h2
  ·obtain⟨g3,g4,g5,g6⟩:=g1 h1;obtain⟨g7,g8,g9,g10⟩:=g2 h2;have i1:=kN g4 g9;have i2:=kN g8 g5;have i3:=kN g5 g9;have i4:=kN g4 g8;refine⟨a*c,wo,b*d,wo,?_⟩;have e:=Rat.divInt_mul_divInt a c (d₁:=b) (d₂:=d);rw[g6,g10]at e;refine cH (cE hw (fun _ w' v w2=>cT w2 (Nf w' w2) v (p*q)) (fun O w' r=>e▸tS (a*c) (b*d) w' (by omega) (by omega) (lF g3 g7)) ?_);rintro O Pg v3 Pc Oj r he hw h_ hn;have hR:=hn.dK (S:=FF) r.cI (mN h_);obtain⟨A0,A1,A2,A3,A4,A5,A6,A7,rfl⟩:=hR.shape;exact rtn hw fun ρe we re=>hR.out re (cG w)
  refine cO hτ dZ [.x 0,.x 2,.x 1,.x 3,.x 4,.x 5] (by kernel_rfl) (by kernel_rfl) ?_;refine cE hw (fun _ w' v w2=>cT w2 (Nf w' w2) v (p)) (fun O w' r=>iB (Rel.old r hS) (hp.rel r hS)) ?_;rintro O Pg v3 Pc Oj r he hw h_ hn;replace hq:=hq.cK r hS he (mC h_);have hX:=hn.dK (S:=FF) r.cI (mN h_);obtain⟨A0,A1,A2,A3,A4,A5,A6,A7,rfl⟩:=hX.shape;refine cE hw (fun _ w' v w2=>cT w2 (Nf w' w2) v (q)) (fun O w' r=>iB (Rel.old r hS) (hq.rel r hS)) ?_;rintro O Qh v4 Q6 Oz r he hw h_ hn;replace hX:=hX.cK r (cG w) he (mC h_);have hY:=hn.dK (S:=FF) r.cI (mN h_);obtain⟨C0,C1,C2,C3,C4,C5,C6,C7,rfl⟩:=hY.shape;have Qy:=hX.num;have Qe:=hX.den;have Qz:=hY.num;have RA:=hY.den;have m0:=dI p.num q.den;have m1:=dI q.num p.den;have m2:=dI (p.den:Int) q.den;have m3:=j6 (p.num*q.den) (q.num*p.den);have m4:=dI p.num q.num;refine cO hτ dZ [.x 0,.x 1,.x 2,.x 3,.x 5,.x 6,.x 7,.x 8,.x 4,.x 9,.x 10,.x 11] (by kernel_rfl) (by kernel_rfl) ?_;refine cE hw (fun _ w' v w2=>dU w2 (Nf w' w2) v (p.num*q.num)) (fun O w' r=>jH (Rel.old r (cG w)) ((Qy.rel r (cG w)).l (k:=100000) (by omega)) ((Qz.rel r (cG w)).l (k:=100000) (by omega)) (by omega) (by omega)) ?_;rintro O Rz v5 Rs QT r he hw h_ hn;replace Qy:=Qy.cK r (cG w) he (mC h_);replace Qe:=Qe.cK r (cG w) he (mC h_);replace Qz:=Qz.cK r (cG w) he (mC h_);replace RA:=RA.cK r (cG w) he (mC h_);have hN:=hn.dK (S:=FF) r.cI (mN h_);obtain⟨F0,F1,F2,F3,rfl⟩:=hN.shape;refine cE hw (fun _ w' v w2=>dU w2 (Nf w' w2) v ((p.den:Int)*(q.den:Int))) (fun O w' r=>jH (Rel.old r (cG w)) ((Qe.rel r (cG w)).l (k:=100000) (by omega)) ((RA.rel r (cG w)).l (k:=100000) (by omega)) (by omega) (by omega)) ?_;rintro O R5 v6 RX Qr r he hw h_ hn;replace Qy:=Qy.cK r (cG w) he (mC h_);replace Qe:=Qe.cK r (cG w) he (mC h_);replace Qz:=Qz.cK r (cG w) he (mC h_);replace RA:=RA.cK r (cG w) he (mC h_);replace hN:=hN.cK r (cG w) he (mC h_);have hD:=hn.dK (S:=FF) r.cI (mN h_);obtain⟨J0,J1,J2,J3,rfl⟩:=hD.shape;refine cE hw (fun _ w' v w2=>cT w2 (Nf w' w2) v (p*q)) (fun O w' r=>(Aq p q)▸lS (Rel.old r (cG w)) ((hN.rel r (cG w)).l (k:=200001) (by omega)) ((hD.rel r (cG w)).l (k:=200001) (by omega)) (by omega) (by omega) (lF (ga p) (ga q))) ?_;rintro O Sw v7 Sz RO r he hw h_ hn;have hR:=hn.dK (S:=FF) r.cI (mN h_);obtain⟨K0,K1,K2,K3,K4,K5,K6,K7,rfl⟩:=hR.shape;exact rtn hw fun ρe we re=>hR.out re (cG w)
 refine cO hτ dZ [.x 0,.x 2,.x 1,.x 3,.x 4,.x 5] (by kernel_rfl) (by kernel_rfl) ?_;refine cE hw (fun _ w' v w2=>cT w2 (Nf w' w2) v (p)) (fun O w' r=>iB (Rel.old r hS) (hp.rel r hS)) ?_;rintro O _ _ _ Oj r he hw h_ hn;replace hq:=hq.cK r hS he (mC h_);have hX:=hn.dK (S:=FF) r.cI (mN h_);obtain⟨A0,A1,A2,A3,A4,A5,A6,A7,rfl⟩:=hX.shape;refine cE hw (fun _ w' v w2=>cT w2 (Nf w' w2) v (q)) (fun O w' r=>iB (Rel.old r hS) (hq.rel r hS)) ?_;rintro O _ _ _ Oz r he hw h_ hn;replace hX:=hX.cK r (cG w) he (mC h_);have hY:=hn.dK (S:=FF) r.cI (mN h_);obtain⟨C0,C1,C2,C3,C4,C5,C6,C7,rfl⟩:=hY.shape;have Qy:=hX.num;have Qe:=hX.den;have Qz:=hY.num;have RA:=hY.den;have m0:=dI p.num q.den;have m1:=dI q.num p.den;have m2:=dI (p.den:Int) q.den;have m3:=j6 (p.num*q.den) (q.num*p.den);have m4:=dI p.num q.num;refine cO hτ dZ [.x 0,.x 1,.x 2,.x 3,.x 5,.x 6,.x 7,.x 8,.x 4,.x 9,.x 10,.x 11] (by kernel_rfl) (by kernel_rfl) ?_;refine cE hw (fun _ w' v w2=>dU w2 (Nf w' w2) v (p.num*q.num)) (fun O w' r=>jH (Rel.old r (cG w)) ((Qy.rel r (cG w)).l (k:=100000) (by omega)) ((Qz.rel r (cG w)).l (k:=100000) (by omega)) (by omega) (by omega)) ?_;rintro O _ _ _ QT r he hw h_ hn;replace Qy:=Qy.cK r (cG w) he (mC h_);replace Qe:=Qe.cK r (cG w) he (mC h_);replace Qz:=Qz.cK r (cG w) he (mC h_);replace RA:=RA.cK r (cG w) he (mC h_);have hN:=hn.dK (S:=FF) r.cI (mN h_);obtain⟨F0,F1,F2,F3,rfl⟩:=hN.shape;refine cE hw (fun _ w' v w2=>dU w2 (Nf w' w2) v ((p.den:Int)*(q.den:Int))) (fun O w' r=>jH (Rel.old r (cG w)) ((Qe.rel r (cG w)).l (k:=100000) (by omega)) ((RA.rel r (cG w)).l (k:=100000) (by omega)) (by omega) (by omega)) ?_;rintro O _ _ _ Qr r he hw h_ hn;replace Qy:=Qy.cK r (cG w) he (mC h_);replace Qe:=Qe.cK r (cG w) he (mC h_);replace Qz:=Qz.cK r (cG w) he (mC h_);replace RA:=RA.cK r (cG w) he (mC h_);replace hN:=hN.cK r (cG w) he (mC h_);have hD:=hn.dK (S:=FF) r.cI (mN h_);obtain⟨J0,J1,J2,J3,rfl⟩:=hD.shape;refine cE hw (fun _ w' v w2=>cT w2 (Nf w' w2) v (p*q)) (fun O w' r=>(Aq p q)▸lS (Rel.old r (cG w)) ((hN.rel r (cG w)).l (k:=200001) (by omega)) ((hD.rel r (cG w)).l (k:=200001) (by omega)) (by omega) (by omega) (lF (ga p) (ga q))) ?_;rintro O _ _ _ RO r he hw h_ hn;have hR:=hn.dK (S:=FF) r.cI (mN h_);obtain⟨K0,K1,K2,K3,K4,K5,K6,K7,rfl⟩:=hR.shape;exact rtn hw fun ρe we re=>hR.out re (cG w)
theorem Jt{v:Value}(hS:Old S w)(hp:eS w S v p):
  eA PG N.Eh #[v] w (eL w fun v' w2=>cT w2 (Nf w w2) v' (-p)):=by
 have hw:=bR w;replace hp:=hp.cL (S':=Cv S w.heap.size []) fun _ h=>.inl h;obtain⟨b1,a1,n1,c1,b2,a2,n2,c2,rfl⟩:=hp.shape;refine GN (by simp) ?_;have r1:=hp.rl;have u1:=gD p;have u2:=fO p;refine cH (cE hw (fun _ w' v w2=>cT w2 (Nf w' w2) v (p)) (fun O w' r=>iB (Rel.old r hS) (hp.rel r hS)) ?_);rintro O _ _ _ Od r he hw h_ hn;have hX:=hn.dK (S:=FF) r.cI (mN h_);obtain⟨A0,A1,A2,A3,A4,A5,A6,A7,rfl⟩:=hX.shape;have Qy:=hX.num;have Qe:=hX.den;refine cO hτ dZ [.x 0,.x 1,.x 3,.x 4,.x 2,.x 5,.x 6] (by kernel_rfl) (by kernel_rfl) ?_;refine cE hw (fun _ w' v w2=>dU w2 (Nf w' w2) v (-p.num)) (fun O w' r=>nM (Rel.old r (cG w)) ((Qy.rel r (cG w)).l (k:=100000) (by omega)) (by omega)) ?_;rintro O _ _ _ Oa r he hw h_ hn;replace Qe:=Qe.cK r (cG w) he (mC h_);have hN:=hn.dK (S:=FF) r.cI (mN h_);obtain⟨C0,C1,C2,C3,rfl⟩:=hN.shape;refine cE hw (fun _ w' v w2=>cT w2 (Nf w' w2) v (-p)) (fun O w' r=>show eA _ _ _ _ (eL _ fun v w2=>cT w2 _ v (-p))from(show Rat.divInt (-p.num) p.den= -p by rw[<-Rat.neg_divInt,Rat.num_divInt_den])▸lS (Rel.old r (cG w)) ((hN.rel r (cG w)).l (k:=100000) (by rw[cF];omega)) ((Qe.rel r (cG w)).l (k:=100000) (by omega)) (by omega) (by omega) (ga p)) ?_;rintro O _ _ _ Oj r he hw h_ hn;have hR:=hn.dK (S:=FF) r.cI (mN h_);obtain⟨F0,F1,F2,F3,F4,F5,F6,F7,rfl⟩:=hR.shape;exact rtn hw fun ρe we re=>hR.out re (cG w)
theorem Kb{v:Value}(hS:Old S w)(hp:eS w S v p)(hq:eS w S u q):
  eA PG N.El #[v,u] w (eL w fun v' w2=>cT w2 (Nf w w2) v' (p-q)):=by
 have hw:=bR w;replace hp:=hp.cL (S':=Cv S w.heap.size []) fun _ h=>.inl h;replace hq:=hq.cL (S':=Cv S w.heap.size []) fun _ h=>.inl h;obtain⟨b1,a1,n1,c1,b2,a2,n2,c2,rfl⟩:=hp.shape;obtain⟨b3,a3,n3,c3,b4,a4,n4,c4,rfl⟩:=hq.shape;refine GS (by simp) ?_;have r1:=hp.rl;have r2:=hq.rl;have u1:=jB q;refine cO hτ dZ [.x 0,.x 1,.x 2,.x 3,.x 4] (by kernel_rfl) (by kernel_rfl) ?_;refine cE hw (fun _ w' v w2=>cT w2 (Nf w' w2) v (-q)) (fun O w' r=>Jt (Rel.old r hS) (hq.rel r hS)) ?_;rintro O _ _ _ Od r he hw h_ hn;replace hp:=hp.cK r hS he (mC h_);have hN:=hn.dK (S:=FF) r.cI (mN h_);obtain⟨A0,A1,A2,A3,A4,A5,A6,A7,rfl⟩:=hN.shape;refine cE hw (fun _ w' v w2=>cT w2 (Nf w' w2) v (p-q)) (fun O w' r=>(Rat.sub_eq_add_neg p q)▸vD (Rel.old r hS) (hp.rel r hS) (((hN.rel r (cG w)).l (by omega)).cL fun g hg=>Cv.false hg)) ?_;rintro O _ _ _ Oa r he hw h_ hn;have hR:=hn.dK (S:=FF) r.cI (mN h_);obtain⟨C0,C1,C2,C3,C4,C5,C6,C7,rfl⟩:=hR.shape;exact rtn hw fun ρe we re=>hR.out re (cG w)
theorem aDC{v:Value}(hS:Old S w)(hp:eS w S v p)(hq:eS w S u q):
  eA PG N.Eg #[v,u] w (eL w fun v' _=>v'= .int .i64 (rs (p-q))):=by
 have hw:=bR w;replace hp:=hp.cL (S':=Cv S w.heap.size []) fun _ h=>.inl h;replace hq:=hq.cL (S':=Cv S w.heap.size []) fun _ h=>.inl h;obtain⟨b1,a1,n1,c1,b2,a2,n2,c2,rfl⟩:=hp.shape;obtain⟨b3,a3,n3,c3,b4,a4,n4,c4,rfl⟩:=hq.shape;refine GM (by simp) ?_;refine cH (cE hw (fun _ w' v w2=>cT w2 (Nf w' w2) v (p-q)) (fun O w' r=>Kb (Rel.old r hS) (hp.rel r hS) (hq.rel r hS)) ?_);rintro O _ _ _ Od r he hw h_ hn;have hR:=hn.dK (S:=FF) r.cI (mN h_);obtain⟨A0,A1,A2,A3,A4,A5,A6,A7,rfl⟩:=hR.shape;refine cH (cE hw (fun _ w' v w2=>v= .int .i64 (rs (p-q))) (fun O w' r=>yp (Rel.old r (cG w)) (hR.rel r (cG w))) ?_);rintro O _ _ _ Oa r he hw h_ rfl;exact rtn hw fun ρe we re=>rfl
theorem aDR{v:Value}(hS:Old S w)(hp:eS w S v p)(hq:eS w S u q):
  eA PG N.yX #[v,u] w (eL w fun v' w2=>(q=0∧v'= .tuple #[DP,.int .i64 9])∨(q≠0∧∃r,v'= .tuple #[r,.int .i64 0]∧cT w2 (Nf w w2) r (p / q))):=by
 have hw:=bR w;replace hp:=hp.cL (S':=Cv S w.heap.size []) fun _ h=>.inl h;replace hq:=hq.cL (S':=Cv S w.heap.size []) fun _ h=>.inl h;obtain⟨b1,a1,n1,c1,b2,a2,n2,c2,rfl⟩:=hp.shape;obtain⟨b3,a3,n3,c3,b4,a4,n4,c4,rfl⟩:=hq.shape;refine GX (by simp) ?_;have r1:=hp.rl;have r2:=hq.rl;have u1:=gD p;have u2:=fO p;have u3:=gD q;have u4:=fO q;have m0:=dI p.num q.den;have m1:=dI (p.den:Int) q.num;refine cO hτ dZ [.x 0,.x 2,.x 1,.x 3,.x 4,.x 5] (by kernel_rfl) (by kernel_rfl) ?_;refine cE hw (fun _ w' v w2=>cT w2 (Nf w' w2) v (p)) (fun O w' r=>iB (Rel.old r hS) (hp.rel r hS)) ?_;rintro O _ _ _ Od r he hw h_ hn;replace hq:=hq.cK r hS he (mC h_);have hX:=hn.dK (S:=FF) r.cI (mN h_);obtain⟨A0,A1,A2,A3,A4,A5,A6,A7,rfl⟩:=hX.shape;refine cE hw (fun _ w' v w2=>cT w2 (Nf w' w2) v (q)) (fun O w' r=>iB (Rel.old r hS) (hq.rel r hS)) ?_;rintro O _ _ _ Oa r he hw h_ hn;replace hX:=hX.cK r (cG w) he (mC h_);have hY:=hn.dK (S:=FF) r.cI (mN h_);obtain⟨C0,C1,C2,C3,C4,C5,C6,C7,rfl⟩:=hY.shape;refine cH (cE hw (fun _ w' v w2=>v= .int .i64 (rs q)) (fun O w' r=>yp (Rel.old r (cG w)) (hY.rel r (cG w))) ?_);rintro O _ _ _ Oj r he hw h_ rfl;replace hX:=hX.cK r (cG w) he (mC h_);replace hY:=hY.cK r (cG w) he (mC h_);refine dG.mk ?_ ?_<;>intro h
 ·have h:rs q=0:=by simpa using h
  exact rtn hw fun ρe we re=>.inl ⟨lP.1 h,rfl⟩
 have h:q≠0:=fun e=>by rw[e]at h;exact absurd h (by decide)
 have hqn:q.num≠0:=fun e=>h (Rat.num_eq_zero.1 e);have Qy:=hX.num;have Qe:=hX.den;have Qz:=hY.num;have RA:=hY.den;refine cO hτ dZ [.x 0,.x 1,.x 2,.x 3,.x 5,.x 6,.x 7,.x 8,.x 4,.x 9,.x 10,.x 11,.x 12] (by kernel_rfl) (by kernel_rfl) ?_;refine cE hw (fun _ w' v w2=>dU w2 (Nf w' w2) v (p.num*(q.den:Int))) (fun O w' r=>jH (Rel.old r (cG w)) ((Qy.rel r (cG w)).l (k:=100000) (by omega)) ((RA.rel r (cG w)).l (k:=100000) (by omega)) (by omega) (by omega)) ?_;rintro O _ _ _ Oz r he hw h_ hn;replace Qe:=Qe.cK r (cG w) he (mC h_);replace Qz:=Qz.cK r (cG w) he (mC h_);have hN:=hn.dK (S:=FF) r.cI (mN h_);obtain⟨F0,F1,F2,F3,rfl⟩:=hN.shape;refine cE hw (fun _ w' v w2=>dU w2 (Nf w' w2) v ((p.den:Int)*q.num)) (fun O w' r=>jH (Rel.old r (cG w)) ((Qe.rel r (cG w)).l (k:=100000) (by omega)) ((Qz.rel r (cG w)).l (k:=100000) (by omega)) (by omega) (by omega)) ?_;rintro O _ _ _ QT r he hw h_ hn;replace hN:=hN.cK r (cG w) he (mC h_);have hD:=hn.dK (S:=FF) r.cI (mN h_);obtain⟨J0,J1,J2,J3,rfl⟩:=hD.shape;refine cE hw (fun _ w' v w2=>cT w2 (Nf w' w2) v (p / q)) (fun O w' r=>(Ft p q)▸lS (Rel.old r (cG w)) ((hN.rel r (cG w)).l (k:=200001) (by omega)) ((hD.rel r (cG w)).l (k:=200001) (by omega)) (by omega) (by omega) (lF (ga p) hqn)) ?_;rintro O _ _ _ Qr r he hw h_ hn;have hR:=hn.dK (S:=FF) r.cI (mN h_);obtain⟨K0,K1,K2,K3,K4,K5,K6,K7,rfl⟩:=hR.shape;exact rtn hw fun ρe we re=>.inr ⟨h,_,rfl,hR.out re (cG w)⟩
theorem oE(n:Int)(w:World)(h1n: -9223372036854775808<=n)(h2n:n<=9223372036854775807):
  eA PG N.rh #[.int .i64 n] w (eL w fun v' w2=>cT w2 (Nf w w2) v' (n:Rat)):=by
 have hw:=bR w;have ha:=nI h1n h2n;refine sG (by simp) ?_;refine cH (cE hw (fun _ w' v w2=>dU w2 (Nf w' w2) v (n)) (fun O w' r=>mI n w' h1n h2n) ?_);rintro O _ _ _ Od r he hw h_ hn;have hA:=hn.dK (S:=FF) r.cI (mN h_);obtain⟨A0,A1,A2,A3,rfl⟩:=hA.shape;refine cH (cE hw (fun _ w' v w2=>dU w2 (Nf w' w2) v (1)) (fun O w' r=>mI 1 w' (by decide) (by decide)) ?_);rintro O _ _ _ Oa r he hw h_ hn;replace hA:=hA.cK r (cG w) he (mC h_);have hB:=hn.dK (S:=FF) r.cI (mN h_);obtain⟨C0,C1,C2,C3,rfl⟩:=hB.shape;refine cH (cE hw (fun _ w' v w2=>cT w2 (Nf w' w2) v ((n:Rat))) (fun O w' r=>(DS n)▸lS (Rel.old r (cG w)) ((hA.rel r (cG w)).l (k:=2) (by omega)) ((hB.rel r (cG w)).l (k:=2) (by decide)) (by omega) (by omega) (by decide)) ?_);rintro O _ _ _ Oj r he hw h_ hn;have hR:=hn.dK (S:=FF) r.cI (mN h_);obtain⟨F0,F1,F2,F3,F4,F5,F6,F7,rfl⟩:=hR.shape;exact rtn hw fun ρe we re=>hR.out re (cG w)
theorem aBC(a b:Int)(w:World)(h1a: -9223372036854775808<=a)(h2a:a<=9223372036854775807)(h1b: -9223372036854775808<=b)(h2b:b<=9223372036854775807):
  eA PG N.z5 #[.int .i64 a,.int .i64 b] w (eL w fun v' w2=>(b=0∧v'= .tuple #[DP,.int .i64 9])∨(b≠0∧∃q,v'= .tuple #[q,.int .i64 0]∧cT w2 (Nf w w2) q (Rat.divInt a b))):=by
 have hw:=bR w;have ha:=nI h1a h2a;have QC:=nI h1b h2b;refine Cm (by simp) ?_;refine dG.mk ?_ ?_<;>intro h
 ·have h:b=0:=by simpa using h
  exact rtn hw fun ρe we re=>.inl ⟨h,rfl⟩
 have h:b≠0:=by simpa using h
 refine cH (cE hw (fun _ w' v w2=>dU w2 (Nf w' w2) v (a)) (fun O w' r=>mI a w' h1a h2a) ?_);rintro O _ _ _ Od r he hw h_ hn;have hA:=hn.dK (S:=FF) r.cI (mN h_);obtain⟨A0,A1,A2,A3,rfl⟩:=hA.shape;refine cH (cE hw (fun _ w' v w2=>dU w2 (Nf w' w2) v (b)) (fun O w' r=>mI b w' h1b h2b) ?_);rintro O _ _ _ Oa r he hw h_ hn;replace hA:=hA.cK r (cG w) he (mC h_);have hB:=hn.dK (S:=FF) r.cI (mN h_);obtain⟨C0,C1,C2,C3,rfl⟩:=hB.shape;refine cH (cE hw (fun _ w' v w2=>cT w2 (Nf w' w2) v (Rat.divInt a b)) (fun O w' r=>lS (Rel.old r (cG w)) ((hA.rel r (cG w)).l (k:=2) (by omega)) ((hB.rel r (cG w)).l (k:=2) (by omega)) (by omega) (by omega) h) ?_);rintro O _ _ _ Oj r he hw h_ hn;have hR:=hn.dK (S:=FF) r.cI (mN h_);obtain⟨F0,F1,F2,F3,F4,F5,F6,F7,rfl⟩:=hR.shape;exact rtn hw fun ρe we re=>.inr ⟨h,_,rfl,hR.out re (cG w)⟩
section
variable{S S':Nat->Prop}{H:Hp}{nx:Nat}{iv iv':Iv}{B:Nat}{w w' w2:World}{O:Nat->Sx.eE}{v:Value}{a:Int}{b:Int}
end
theorem kQ.short{b:Bool}{n c k:Nat}{z:Int}(h:kQ w S (.agg #[.bool b,.slice a n c]) z)(hk:n<=k):gB w S (.agg #[.bool b,.slice a n c]) k z:=by
 obtain⟨b2,ls,⟨lv,e1,h3⟩,h2⟩:=h;obtain⟨a2,c2,e2,_⟩:=h3.sl;subst e2;simp only[Value.agg.injEq,Array.mk.injEq,List.cons.injEq,Value.bool.injEq,Value.slice.injEq,and_true]at e1;obtain⟨rfl,rfl,e3,rfl⟩:=e1;exact⟨_,ls,⟨_,by rw[e3],h3⟩,h2,by omega⟩
def mD(w:World)(S:Nat->Prop)(cs:List Value)(q:Rat):Prop:=∃b a n c b2 a2 n2 c2,cs=[.bool b,.slice a n c,.bool b2,.slice a2 n2 c2]∧eS w S (.agg #[.bool b,.slice a n c,.bool b2,.slice a2 n2 c2]) q
abbrev dB:=dL mD
abbrev fN:=dA dB
section
variable{S S':Nat->Prop}{H:Hp}{nx:Nat}{iv iv':Iv}{B:Nat}{w w' w2:World}{O:Nat->Sx.eE}{v:Value}{qs:List Rat}{cs:List Value}{q:Rat}
theorem mD.cJ(h:mD w S cs q)(hk:∀g,S g->w2.heap[g]? =w.heap[g]?):mD w2 S cs q:=by
 obtain⟨b,a,n,c,b2,a2,n2,c2,h1,h2⟩:=h;exact⟨b,a,n,c,b2,a2,n2,c2,h1,h2.cJ hk⟩
theorem mD.cL(h:mD w S cs q)(hk:∀g,S g->S' g):mD w S' cs q:=by
 obtain⟨b,a,n,c,b2,a2,n2,c2,h1,h2⟩:=h;exact⟨b,a,n,c,b2,a2,n2,c2,h1,h2.cL hk⟩
theorem dB.cJ(h:dB w S v qs)(hk:∀g,S g->w2.heap[g]? =w.heap[g]?):dB w2 S v qs:=by
 obtain⟨css,h1,h2,h3,h4⟩:=h;exact⟨css,h1.cJ hk,h2,h3,fun j cs x k1 k2=>(h4 j cs x k1 k2).cJ hk⟩
theorem dB.cL(h:dB w S v qs)(hk:∀g,S g->S' g):dB w S' v qs:=by
 obtain⟨css,h1,h2,h3,h4⟩:=h;exact⟨css,h1.cL hk,h2,h3,fun j cs x k1 k2=>(h4 j cs x k1 k2).cL hk⟩
theorem fN.cJ(h:fN w S v M)(hk:∀g,S g->w2.heap[g]? =w.heap[g]?):fN w2 S v M:=by
 obtain⟨rv,h1,h2,h3⟩:=h;exact⟨rv,h1.cJ hk,h2,fun i u x k1 k2=>dB.cJ (h3 i u x k1 k2) hk⟩
theorem fN.cL(h:fN w S v M)(hk:∀g,S g->S' g):fN w S' v M:=by
 obtain⟨rv,h1,h2,h3⟩:=h;exact⟨rv,h1.cL hk,h2,fun i u x k1 k2=>dB.cL (h3 i u x k1 k2) hk⟩
end
section
variable{S S':Nat->Prop}{H:Hp}{nx:Nat}{iv iv':Iv}{B:Nat}{w w' w2:World}{O:Nat->Sx.eE}{v:Value}{qs:List Rat}
theorem dB.rel(h:dB w (Cv S B iv) v qs)(r:Rel H nx iv B w O w')(hS:∀g,S g->g<B):dB w' (Cv S B iv) v qs:=dB.cJ h fun _ hg=>Rel.same r hS hg
theorem dB.cK(h:dB w (Cv S B iv) v qs)(r:Rel H nx iv B w O w')(hS:∀g,S g->g<B)(he:Ext w' w2)(hm:∀p,p∈iv->p∈iv'):dB w2 (Cv S B iv') v qs:=
 dB.cL (dB.cJ (dB.rel h r hS) fun g hg=>he.block g (Rel.old r hS g hg)) fun _ hg=>hg.mono hm
theorem dB.out{w0 w1:World}(h:dB w1 (Cv S w0.heap.size iv) v qs)(r:Rel H nx iv w0.heap.size w1 O w')(hS:Old S w0):dB w' (Nw S w0 w') v qs:=
 dB.cL (dB.rel h r hS) fun _ hg=>Cv.nw hg r
end
section
variable{S S':Nat->Prop}{H:Hp}{nx:Nat}{iv iv':Iv}{B:Nat}{w w' w2:World}{O:Nat->Sx.eE}{v:Value}{M:List (List Rat)}
theorem fN.rel(h:fN w (Cv S B iv) v M)(r:Rel H nx iv B w O w')(hS:∀g,S g->g<B):fN w' (Cv S B iv) v M:=fN.cJ h fun _ hg=>Rel.same r hS hg
theorem fN.cK(h:fN w (Cv S B iv) v M)(r:Rel H nx iv B w O w')(hS:∀g,S g->g<B)(he:Ext w' w2)(hm:∀p,p∈iv->p∈iv'):fN w2 (Cv S B iv') v M:=
 fN.cL (fN.cJ (fN.rel h r hS) fun g hg=>he.block g (Rel.old r hS g hg)) fun _ hg=>hg.mono hm
theorem fN.old(h:fN w2 (Nw (Cv S B iv) w' w2) v M)(hB:B<=w'.heap.size):fN w2 (Cv S B ((w'.heap.size,w2.heap.size)::iv)) v M:=fN.cL h fun _ hg=>Nw.cv hg hB
theorem fN.arg(h:fN w S v M)(iv:Iv):fN w (Cv S w.heap.size iv) v M:=fN.cL h fun _ h=>.inl h
end
def ED(w:World)(S:Nat->Prop)(css:List (List Value))(qs:List Rat):Prop:=∀(j:Nat) cs q,css[j]? =some cs->qs[j]? =some q->jn w S cs q
section
variable{S S':Nat->Prop}{H:Hp}{nx:Nat}{iv iv':Iv}{B:Nat}{w w' w2:World}{O:Nat->Sx.eE}{css:List (List Value)}{qs:List Rat}
theorem ED.rel(h:ED w (Cv S B iv) css qs)(r:Rel H nx iv B w O w')(hS:∀g,S g->g<B):ED w' (Cv S B iv) css qs:=fun j cs q h1 h2=>(h j cs q h1 h2).cJ fun _ hg=>Rel.same r hS hg
theorem ED.cK(h:ED w (Cv S B iv) css qs)(r:Rel H nx iv B w O w')(hS:∀g,S g->g<B)(he:Ext w' w2)(hm:∀p,p∈iv->p∈iv'):ED w2 (Cv S B iv') css qs:=fun j cs q h1 h2=>
 (((h.rel r hS) j cs q h1 h2).cJ fun g hg=>he.block g (Rel.old r hS g hg)).cL fun _ hg=>hg.mono hm
theorem ED.push(h:ED w S css qs)(hq:qs[css.length]? =some q)(hc:jn w S cs q):ED w S (css++[cs]) qs:=fun j cs' q' h1 h2=>by
 rcases aP j css.length with hj|hj
 ·rw[aJ hj]at h1;exact h j cs' q' h1 h2
 ·have hj0:j=css.length:=by have:=(aE.1 h1).1;simp at this;omega
  subst hj0;rw[aM (Nat.le_refl _),bI]at h1;simp at h1;rw[hq]at h2;injection h2 with h2;subst h1 h2;exact hc
end
theorem DW(h:∀x∈css,x.length=4∧∀u∈x,u.oneCell'=true)(hc:cs.length=4∧∀u∈cs,u.oneCell'=true):∀x∈css++[cs],x.length=4∧∀u∈x,u.oneCell'=true:=fun x hx=>by
 rcases List.mem_append.1 hx with hx|hx
 ·exact h x hx
 ·simp at hx;subst hx;exact hc
def aEA(w w2:World)(v:Value)(xs:List Rat):Prop:=∃css:List (List Value),w2.ownsRow w.heap.size T.Rat 4 v xs.length css.flatten∧css.length=xs.length∧(∀cs∈css,cs.length=4∧∀u∈cs,u.oneCell'=true)∧∀(j:Nat) cs q,css[j]? =some cs->xs[j]? =some q->jn w2 (fun g=>Nf w w2 g∧v.ownBlock≠some g) cs q
theorem FE{id n g:Nat}(h:((At.w id n).den O).ownBlock=some g):(O id).nil=false∧(O id).g=g:=by
 cases hn:(O id).nil with
 |true=>rw[show (At.w id n).den O= .slice none 0 0 by simp[At.den,hn]]at h;cases h
 |false=>
  rw[show (At.w id n).den O= .slice (some ⟨(O id).g,0,none⟩) n (O id).cap by simp[At.den,hn]]at h;injection h with h;exact⟨rfl,h⟩
def mG(xs ys:List Rat)(b:Rat):List Rat:=(List.range ys.length).map fun j=>if 0<xs.length then xs.getD j 0+ys.getD j 0*b else ys.getD j 0*b
theorem qX(xs ys:List Rat)(b:Rat):(mG xs ys b).length=ys.length:=by simp[mG]
theorem zD{j:Nat}(h:j<ys.length):(mG xs ys b)[j]? =some (if 0<xs.length then xs.getD j 0+ys.getD j 0*b else ys.getD j 0*b):=by
 rw[mG,aN,bP h];rfl
theorem aB2{v t:Value}(hS:Old S w)(hx:dB w S v xs)(hy:dB w S u ys)(hb:eS w S t b)(hlen:xs=[]∨xs.length=ys.length)(hn:ys.length<=1000000)(hbound:∀y∈ys,rl y+rl b<=100000):
  eA PG N.ui #[v,u,t] w (eL w fun v' w2=>cR w2 (Nf w w2) v' (mG xs ys b)∧aEA w w2 v' (mG xs ys b)):=by
 have hw:=bR w;obtain⟨ax,cx,rfl,TU,Tj⟩:=dL.shape hx;obtain⟨ay,cy,rfl,hcy,hmy⟩:=dL.shape hy;obtain⟨t0,t1,t2,t3,t4,t5,t6,t7,rfl⟩:=hb.shape;have QI:=qX xs ys b;refine Da (by simp) ?_
 refine⟨List (List Value)×World×Iv,fun z=>⟨[(0,sV ax xs.length cx),(1,sV ay ys.length cy),(5,pP 0 0),(7,.o (.w 1 z.1.length)),(8,iZ z.1.length)],[(1,.vec T.Rat 4 z.1.flatten),(0,.box T.Rat [.v (.bool t0),.v (.slice t1 t2 t3),.v (.bool t4),.v (.slice t5 t6 t7)])],2,z.2.2,z.2.1⟩,fun z=>ys.length-z.1.length,
  fun z=>z.1.length<=ys.length∧dg w.heap.size w z.2.1∧(∀x∈z.1,x.length=4∧∀u∈x,u.oneCell'=true)∧ED z.2.1 (Cf w z.2.2) z.1 (mG xs ys b),?_,?_⟩
 ·intro O w' r
  exact⟨([],w',[]),⟨by simp,r.cS,by simp,fun j cs q h=>by simp at h⟩,Sub.nil 7 T.Rat 4 rfl (by simp[jw,SV.sc,At.sc,fQ]) r fun ρ1 r1=>
   Sub.gn [] r1⟩
 clear hw;rintro⟨css,w1,iv⟩ ⟨hi,hw,h4,Qg⟩;dsimp only at hi hw h4 Qg ⊢;have Ok:=eD fun x hx=>(h4 x hx).1;refine dG.mk ?_ ?_<;>intro OW
 ·have OW:css.length<ys.length:=by simpa using OW
  obtain⟨y,S7⟩:∃y,ys[css.length]? =some y:=⟨_,aB OW⟩
  obtain⟨ady,csy,Ux,Rb,_,Qu⟩:=dL.load hy S7;obtain⟨p0,p1,p2,p3,p4,p5,p6,p7,rfl,Rb⟩:=Rb;have hyd:ys.getD css.length 0=y:=by rw[List.getD,S7];rfl
  have XZ:=zD (xs:=xs) (b:=b) OW;rw[hyd]at XZ;have PN:=hbound y (aD S7);have hrm:=fb y b;refine dG.mk ?_ ?_<;>intro SC
  ·have SC:0<xs.length:=by have:=aH SC;omega
   have Pr:css.length<xs.length:=hlen.elim (fun h=>by rw[h]at SC;simp at SC) (fun h=>by omega);obtain⟨x,Pf⟩:∃x,xs[css.length]? =some x:=⟨_,aB Pr⟩
   obtain⟨adx,csx,Pz,Qc,_,PS⟩:=dL.load hx Pf;obtain⟨q0,q1,q2,q3,q4,q5,q6,q7,rfl,Qc⟩:=Qc;have Vm:xs.getD css.length 0=x:=by rw[List.getD,Pf];rfl
   rw[if_pos SC,Vm]at XZ;refine⟨ady,Ux,by omega,[.bool p0,.slice p1 p2 p3,.bool p4,.slice p5 p6 p7],rfl,fun O w' r i x hx=>?_,?_⟩
   ·obtain⟨k1,k2⟩:=Qu i x hx;rw[aF,cM (w:=w) (w2:=w') (by rw[dD,dD];exact(hw.tr r.cS).block _ (hS _ k1))];exact k2
   refine cH (cE hw (fun _ w' v w2=>v= .int .i64 (rs y)) (fun O w' r=>vR (oS hS r) (Rb.cJ (kS hw r hS))) ?_);rintro O Pa v1 PJ Od r he hw h_ rfl;replace Qg:=Qg.cK r (cG w) he (mC h_);clear r;refine dG.mk ?_ ?_<;>intro hs
   ·have hs:y=0:=lP.1 (by simpa using hs);rw[hs,bC,bN]at XZ;refine⟨adx,Pz,by omega,[.bool q0,.slice q1 q2 q3,.bool q4,.slice q5 q6 q7],rfl,fun O w' r i x hx=>?_,?_⟩
    ·obtain⟨k1,k2⟩:=PS i x hx;rw[aF,cM (w:=w) (w2:=w') (by rw[dD,dD];exact(hw.tr r.cS).block _ (hS _ k1))];exact k2
    refine cH (cE hw (fun _ w' v w2=>cT w2 (Nf w' w2) v (x)) (fun O w' r=>iB (oS hS r) (Qc.cJ (kS hw r hS))) ?_);rintro O QR v2 PY Oa r he hw h_ hn;replace Qg:=Qg.cK r (cG w) he (mC h_);have VF:=hn.dK (S:=FF) r.cI (mN h_);clear r hn;obtain⟨A0,A1,A2,A3,A4,A5,A6,A7,rfl⟩:=VF.shape;refine .inl ?_;refine⟨Ok,by omega,by unfold maxLen;omega,((css.length+1:Nat):Int),wo,?_⟩;intro ρ3 w3 r3;have QL:(css++[[Value.bool A0,.slice A1 A2 A3,.bool A4,.slice A5 A6 A7]]).length=css.length+1:=by simp
    have hf3:(css++[[Value.bool A0,.slice A1 A2 A3,.bool A4,.slice A5 A6 A7]]).flatten=css.flatten++[Value.bool A0,.slice A1 A2 A3,.bool A4,.slice A5 A6 A7]:=by simp
    exact⟨(css++[[.bool A0,.slice A1 A2 A3,.bool A4,.slice A5 A6 A7]],w3,_),⟨by dsimp only;rw[QL];exact OW,hw.tr r3.cS,DW h4 ⟨rfl,by intro u hu;simp at hu;rcases hu with rfl|rfl|rfl|rfl<;>rfl⟩,(Qg.rel r3 (cG w)).push XZ (VF.rel r3 (cG w)).sX⟩,
     Sub.gn [(1,3)] r3 ⟨by dsimp only;rw[hf3];rfl,rfl,trivial⟩ ⟨rfl,rfl,rfl,by dsimp only;rw[QL];rfl,by dsimp only;rw[QL];rfl,trivial⟩,by dsimp only;rw[QL];omega⟩
   refine cO hτ dZ [.x 0,.x 1,.x 2,.x 3,.x 4,.p 6,.x 5,.x 6,.x 7] (by kernel_rfl) (by kernel_rfl) ?_;refine⟨ady,Ux,by omega,[.bool p0,.slice p1 p2 p3,.bool p4,.slice p5 p6 p7],rfl,fun O w' r i x hx=>?_,?_⟩
   ·obtain⟨k1,k2⟩:=Qu i x hx;rw[aF,cM (w:=w) (w2:=w') (by rw[dD,dD];exact(hw.tr r.cS).block _ (hS _ k1))];exact k2
   refine cE hw (fun _ w' v w2=>cT w2 (Nf w' w2) v (y*b)) (fun O w' r=>vC (oS hS r) (Rb.cJ (kS hw r hS)) (hb.cJ (kS hw r hS))) ?_;rintro O _ _ _ Oa r he hw h_ hn;replace Qg:=Qg.cK r (cG w) he (mC h_);have hm:=hn.dK (S:=FF) r.cI (mN h_);clear r hn;obtain⟨A0,A1,A2,A3,A4,A5,A6,A7,rfl⟩:=hm.shape;refine dG.mk (fun Sb=>?_) (fun Sb=>absurd SC (by have:=aG Sb;omega));refine cO hτ dZ [.x 0,.x 1,.x 2,.x 3,.x 4,.x 5,.x 6] (by kernel_rfl) (by kernel_rfl) ?_;refine⟨adx,Pz,by omega,[.bool q0,.slice q1 q2 q3,.bool q4,.slice q5 q6 q7],rfl,fun O w' r i x hx=>?_,?_⟩
   ·obtain⟨k1,k2⟩:=PS i x hx;rw[aF,cM (w:=w) (w2:=w') (by rw[dD,dD];exact(hw.tr r.cS).block _ (hS _ k1))];exact k2
   refine cE hw (fun _ w' v w2=>cT w2 (Nf w' w2) v (x+y*b)) (fun O w' r=>vD (Rel.old r hS) ((Qc.cJ (kS hw r hS)).cL fun g hg=>Or.inl hg) (((hm.rel r (cG w)).l (by omega)).cL fun g hg=>Cv.false hg)) ?_;rintro O _ _ _ Oj r he hw h_ hn;replace Qg:=Qg.cK r (cG w) he (mC h_);clear hm;have VF:=hn.dK (S:=FF) r.cI (mN h_);clear r hn;obtain⟨C0,C1,C2,C3,C4,C5,C6,C7,rfl⟩:=VF.shape;refine .inl ?_;refine⟨Ok,by omega,by unfold maxLen;omega,((css.length+1:Nat):Int),wo,?_⟩;intro ρ3 w3 r3;have QL:(css++[[Value.bool C0,.slice C1 C2 C3,.bool C4,.slice C5 C6 C7]]).length=css.length+1:=by simp
   have hf3:(css++[[Value.bool C0,.slice C1 C2 C3,.bool C4,.slice C5 C6 C7]]).flatten=css.flatten++[Value.bool C0,.slice C1 C2 C3,.bool C4,.slice C5 C6 C7]:=by simp
   exact⟨(css++[[.bool C0,.slice C1 C2 C3,.bool C4,.slice C5 C6 C7]],w3,_),⟨by dsimp only;rw[QL];exact OW,hw.tr r3.cS,DW h4 ⟨rfl,by intro u hu;simp at hu;rcases hu with rfl|rfl|rfl|rfl<;>rfl⟩,(Qg.rel r3 (cG w)).push XZ (VF.rel r3 (cG w)).sX⟩,
    Sub.gn [(1,4)] r3 ⟨by dsimp only;rw[hf3];rfl,rfl,trivial⟩ ⟨rfl,rfl,rfl,by dsimp only;rw[QL];rfl,by dsimp only;rw[QL];rfl,trivial⟩,by dsimp only;rw[QL];omega⟩
  have SC:¬0<xs.length:=by have:=aG SC;omega
  rw[aK SC]at XZ;refine cO hτ dZ [.x 0,.x 1,.x 2,.x 3,.x 4,.p 6,.x 5,.x 6,.x 7] (by kernel_rfl) (by kernel_rfl) ?_;refine⟨ady,Ux,by omega,[.bool p0,.slice p1 p2 p3,.bool p4,.slice p5 p6 p7],rfl,fun O w' r i x hx=>?_,?_⟩
  ·obtain⟨k1,k2⟩:=Qu i x hx;rw[aF,cM (w:=w) (w2:=w') (by rw[dD,dD];exact(hw.tr r.cS).block _ (hS _ k1))];exact k2
  refine cE hw (fun _ w' v w2=>cT w2 (Nf w' w2) v (y*b)) (fun O w' r=>vC (oS hS r) (Rb.cJ (kS hw r hS)) (hb.cJ (kS hw r hS))) ?_;rintro O _ _ _ Od r he hw h_ hn;replace Qg:=Qg.cK r (cG w) he (mC h_);have hm:=hn.dK (S:=FF) r.cI (mN h_);clear r hn;obtain⟨F0,F1,F2,F3,F4,F5,F6,F7,rfl⟩:=hm.shape;refine dG.mk (fun Sb=>absurd (aH Sb) (by omega)) (fun Sb=>?_);refine .inl ?_;refine⟨Ok,by omega,by unfold maxLen;omega,((css.length+1:Nat):Int),wo,?_⟩;intro ρ3 w3 r3;have QL:(css++[[Value.bool F0,.slice F1 F2 F3,.bool F4,.slice F5 F6 F7]]).length=css.length+1:=by simp
  have hf3:(css++[[Value.bool F0,.slice F1 F2 F3,.bool F4,.slice F5 F6 F7]]).flatten=css.flatten++[Value.bool F0,.slice F1 F2 F3,.bool F4,.slice F5 F6 F7]:=by simp
  exact⟨(css++[[.bool F0,.slice F1 F2 F3,.bool F4,.slice F5 F6 F7]],w3,_),⟨by dsimp only;rw[QL];exact OW,hw.tr r3.cS,DW h4 ⟨rfl,by intro u hu;simp at hu;rcases hu with rfl|rfl|rfl|rfl<;>rfl⟩,(Qg.rel r3 (cG w)).push XZ (hm.rel r3 (cG w)).sX⟩,
   Sub.gn [(1,4)] r3 ⟨by dsimp only;rw[hf3];rfl,rfl,trivial⟩ ⟨rfl,rfl,rfl,by dsimp only;rw[QL];rfl,by dsimp only;rw[QL];rfl,trivial⟩,by dsimp only;rw[QL];omega⟩
 have OW:css.length=ys.length:=aQ hi (by simpa using OW);intro ρe we re;have PB:∀u∈css.flatten,u.oneCell'=true:=fun u hu=>by
  obtain⟨cs,hc,hu⟩:=List.mem_flatten.1 hu;exact(h4 cs hc).2 u hu
 refine⟨_,rfl,hw.tr re.cS,?_,css,by rw[QI,<-OW];exact BY re (id:=1) rfl Ok (by decide),by rw[QI];exact OW,h4,fun j cs q k1 k2=>((Qg j cs q k1 k2).cJ fun g hg=>Rel.same re (cG w) hg).cL fun g hg=>⟨Cv.nw hg re,fun e=>Rel.not re (cG w) hg 1 _ rfl (FE e).1 (FE e).2⟩⟩;refine⟨css,?_,by rw[QI];exact OW,fun cs hc=>(h4 cs hc).1,fun j cs q k1 k2=>((Qg j cs q k1 k2).cJ fun g hg=>Rel.same re (cG w) hg).cL fun g hg=>Cv.nw hg re⟩;have:=re.gz (id:=1) (sz:=4) (m:=css.length) rfl Ok (by unfold maxLen;omega) (by decide) PB;rw[QI,<-OW];exact this.cL fun g hg=>.inr hg
theorem Lj{v t:Value}(hS:Old S w)(hx:dB w S v xs)(hy:dB w S u ys)(hb:eS w S t b)(hlen:xs=[]∨xs.length=ys.length)(hn:ys.length<=1000000)(hbound:∀y∈ys,rl y+rl b<=100000):
  eA PG N.ui #[v,u,t] w (eL w fun v' w2=>cR w2 (Nf w w2) v' (mG xs ys b)):=
 (aB2 hS hx hy hb hlen hn hbound).mono fun _ _ ⟨v2,e1,e2,e3,_⟩=>⟨v2,e1,e2,e3⟩
end Go.Ex
namespace Go.Ex
variable{M:List (List Rat)}{s:List (List Rat)×List Nat}
theorem B3{c r k R:Nat}(hk:r<=k)(hR:k<=R)(h:∀j,r<=j->j<k->cY M j c=0):jT M c (R-r) r=jT M c (R-k) k:=by
 induction k with
 |zero=>
  have:r=0:=by omega
  subst this;rfl
 |succ k ih=>
  rcases aP k r with h1|h1
  ·have:r=k+1:=by omega
   subst this;rfl
  ·rw[ih h1 (by omega) fun j h2 h3=>h j h2 (by omega),show R-k=(R-(k+1))+1 by omega,JR (h k h1 (by omega))]
theorem Fh{a c i:Nat}{r:List Rat}(h:M[i]? =some r)(h0:r.getD c 0=0):dx M a c (i+1)=dx M a c i:=by
 unfold dx;refine bL fun j=>?_;rw[List.getElem?_mapIdx,List.getElem?_mapIdx];by_cases hj:j=i
 ·subst hj;rw[h];simp only[bh]
  by_cases ha:j=a
  ·rw[aK (by omega),aK (by omega)]
  ·rw[if_pos ⟨by omega,ha⟩,aK (by omega),h0];congr 1;refine bL fun k=>?_;rw[List.getElem?_mapIdx]
   cases r[k]? with
   |none=>rfl
   |some q=>simp[oe,bN]
 ·cases M[j]? with
  |none=>rfl
  |some r'=>
   simp only[bh]
   by_cases h2:j<i∧j≠a
   ·rw[if_pos ⟨by omega,h2.2⟩,if_pos h2]
   ·rw[aK (by omega),aK h2]
theorem gP{α:Type}{l:List α}{i:Nat}{x:α}(h:i<l.length):l.take i++[x]++l.drop (i+1)=l.set i x:=by
 rw[List.set_eq_take_append_cons_drop,if_pos h];simp
theorem B4{c:Nat}(h:¬s.2.length<s.1.length∨jT s.1 c (s.1.length-s.2.length) s.2.length=s.1.length):dm s c=s:=by
 unfold dm;split
 ·rcases h with h|h
  ·exact absurd ‹_› h
  ·dsimp only;rw[if_pos h]
 ·rfl
theorem B5{c k:Nat}(hk:s.2.length<=k)(hl:k<s.1.length)(h:∀j,s.2.length<=j->j<k->cY s.1 j c=0)(hn:cY s.1 k c≠0):
  dm s c=(dx (scaled (ef [] s.1 s.2.length k) s.2.length c) s.2.length c s.1.length,s.2++[c]):=by
 have e:jT s.1 c (s.1.length-s.2.length) s.2.length=k:=by
  rw[B3 hk (by omega) h,show s.1.length-k=(s.1.length-k-1)+1 by omega,JS hn]
 unfold dm;rw[if_pos (by omega)];dsimp only
 rw[e,aK (by omega),tj,jg]
theorem MK{c k:Nat}(hk:s.2.length<=k)(hl:k=s.1.length)(h:∀j,s.2.length<=j->j<k->cY s.1 j c=0):dm s c=s:=by
 refine B4 (.inr ?_);rw[B3 hk (by omega) h,hl,bI];rfl
end Go.Ex
namespace Go.Ex
open Go Go.Sx Go.Proofs
variable{qs x:List Rat}{S:Nat->Prop}{u:Value}{w:World}
theorem NJ(ys:List Rat)(b:Rat):mG [] ys b=ys.map (· *b):=by
 refine bL fun j=>?_;rcases aP j ys.length with h|h
 ·rw[zD h,aK (by simp),aN,List.getD,aB h];rfl
 ·rw[List.getElem?_eq_none (by rw[qX];exact h),List.getElem?_eq_none (by simp;exact h)]
theorem KO{xs ys:List Rat}(b:Rat)(h:xs.length=ys.length):mG xs ys b=xs.mapIdx (oe b ys):=by
 refine bL fun j=>?_;rw[List.getElem?_mapIdx];rcases aP j ys.length with h1|h1
 ·rw[zD h1,if_pos (by omega),aB (by omega),List.getD,aB (show j<xs.length by omega)];simp[oe,bl]
 ·rw[List.getElem?_eq_none (by rw[qX];exact h1),List.getElem?_eq_none (show xs.length<=j by omega)];rfl
theorem cR.l{v:Value}(h:cR w S v qs)(hq:∀q∈qs,rl q<=100000):dB w S v qs:=by
 obtain⟨css,h1,h2,h3,h4⟩:=h;refine⟨css,h1,h2,h3,fun j cs q k1 k2=>?_⟩;obtain⟨b,a,n,c,b2,a2,n2,c2,e,hc⟩:=h4 j cs q k1 k2;exact⟨b,a,n,c,b2,a2,n2,c2,e,hc.l (hq q (aD k2))⟩
theorem dB.nil(w:World)(S:Nat->Prop):dB w S (.slice none 0 0) []:=⟨[],⟨by simp,by simp,by simp,none,0,rfl,Nat.le_refl _,by simp⟩,rfl,by simp,by simp⟩
theorem FC{v:Value}{p q:Rat}(hS:Old S w)(hp:eS w S v p)(hq:eS w S u q)(h0:q≠0):
  eA PG N.yX #[v,u] w (eL w fun v' w2=>∃r,v'= .tuple #[r,.int .i64 0]∧cT w2 (Nf w w2) r (p / q)):=
 (aDR hS hp hq).mono fun _ _ ⟨v2,e1,e2,e3⟩=>⟨v2,e1,e2,e3.elim (fun h=>absurd h.1 h0) fun h=>h.2⟩
def ir(w:World)(S:Nat->Prop)(rv:List Value)(M:List (List Rat)):Prop:=rv.length=M.length∧(∀u∈rv,u.oneCell'=true)∧∀(i:Nat) u r,rv[i]? =some u->M[i]? =some r->dB w S u r
section
variable{S S':Nat->Prop}{H:Hp}{nx:Nat}{iv iv':Iv}{B:Nat}{w w' w2:World}{O:Nat->Sx.eE}{rv:List Value}{M:List (List Rat)}
theorem ir.rel(h:ir w (Cv S B iv) rv M)(r:Rel H nx iv B w O w')(hS:∀g,S g->g<B):ir w' (Cv S B iv) rv M:=⟨h.1,h.2.1,fun i u x h1 h2=>dB.rel (h.2.2 i u x h1 h2) r hS⟩
theorem ir.cK(h:ir w (Cv S B iv) rv M)(r:Rel H nx iv B w O w')(hS:∀g,S g->g<B)(he:Ext w' w2)(hm:∀p,p∈iv->p∈iv'):ir w2 (Cv S B iv') rv M:=⟨h.1,h.2.1,fun i u x h1 h2=>dB.cK (h.2.2 i u x h1 h2) r hS he hm⟩
theorem ir.set{i:Nat}(h:ir w S rv M)(hu:u.oneCell'=true)(hx:dB w S u x):ir w S (rv.set i u) (M.set i x):=by
 refine⟨by simp[h.1],fun v hv=>?_,fun j v y h1 h2=>?_⟩
 ·rcases bA hv with h1|h1
  ·exact h.2.1 v h1
  ·rw[h1];exact hu
 ·rw[List.getElem?_set]at h1 h2;by_cases hj:i=j
  ·rw[if_pos hj]at h1 h2;split at h1
   ·split at h2
    ·injection h1 with h1;injection h2 with h2;subst h1 h2;exact hx
    ·cases h2
   ·cases h1
  ·rw[aK hj]at h1 h2;exact h.2.2 j v y h1 h2
theorem ir.get{i:Nat}(h:ir w S rv M)(hi:i<M.length):∃u r,rv[i]? =some u∧M[i]? =some r∧dB w S u r:=by
 obtain⟨u,hu⟩:∃u,rv[i]? =some u:=⟨_,aB (by rw[h.1];exact hi)⟩
 obtain⟨r,hr⟩:∃r,M[i]? =some r:=⟨_,aB hi⟩
 exact⟨u,r,hu,hr,h.2.2 i u r hu hr⟩
end
end Go.Ex
namespace Go.Ex
variable{M:List (List Rat)}{s:List (List Rat)×List Nat}{w:Nat}{p x:Rat}
theorem ML{r:List Rat}{c:Nat}(h:c<w):(r.take w).getD c 0=r.getD c 0:=by
 simp only[List.getD,List.getElem?_take,if_pos h]
def tk(w:Nat)(M:List (List Rat)):List (List Rat):=M.map (·.take w)
theorem MM(w:Nat)(M:List (List Rat)):(tk w M).length=M.length:=aL ..
theorem aB8(w:Nat)(M:List (List Rat))(i:Nat):(tk w M).getD i []=(M.getD i []).take w:=by
 unfold tk;simp only[List.getD,aN]
 cases M[i]? <;>simp
theorem aCn{i c:Nat}(h:c<w):cY (tk w M) i c=cY M i c:=by
 unfold cY;rw[aB8,ML h]
theorem da(M:List (List Rat))(cols:Nat):(cQ M cols).1.length=M.length:=by
 have key:∀(l:List Nat) (s:List (List Rat)×List Nat),(l.foldl dm s).1.length=s.1.length:=by
  intro l
  induction l with
  |nil=>exact fun s=>rfl
  |cons c l ih=>exact fun s=>by rw[List.foldl_cons,ih,pX]
 exact key _ _
theorem uW{M:List (List Rat)}{c:Nat}:∀f k j,k<=j->j<jT M c f k->cY M j c=0
 |0,k,j,h1,h2=>by simp only[jT]at h2;omega
 |f+1,k,j,h1,h2=>by
  unfold jT at h2;split at h2
  ·rename_i h0;rcases aP k j with h|h
   ·exact uW f (k+1) j h h2
   ·rw[show j=k by omega];exact h0
  ·omega
theorem kH(c:Nat)(hle:s.2.length<=s.1.length):(dm s c=s∧∀j,s.2.length<=j->j<s.1.length->cY s.1 j c=0)∨
  ∃k,s.2.length<=k∧k<s.1.length∧cY s.1 k c≠0∧dm s c=(dx (scaled (ef [] s.1 s.2.length k) s.2.length c) s.2.length c s.1.length,s.2++[c]):=by
 have h1:=B6 s.1 c (s.1.length-s.2.length) s.2.length;by_cases hk:jT s.1 c (s.1.length-s.2.length) s.2.length=s.1.length
 ·exact .inl ⟨B4 (.inr hk),fun j hj hl=>uW (s.1.length-s.2.length) s.2.length j hj (by omega)⟩
 ·exact .inr ⟨_,h1.1,by omega,B7 s.1 c _ _ (by omega),B5 h1.1 (by omega) (fun j h2 h3=>uW _ _ j h2 h3) (B7 s.1 c _ _ (by omega))⟩
theorem H4{i:Nat}(h:i<M.length):M.getD i []∈M:=by
 rw[List.getD,aB h];exact a9 h
theorem yF{r s:List Rat}{c:Nat}(h:c<r.length):(r.mapIdx (oe p s)).getD c 0=r.getD c 0+p*s.getD c 0:=by
 simp only[List.getD,List.getElem?_mapIdx,aB h]
 rfl
theorem B8{r:List Rat}{k:Rat}{c:Nat}:(r.map (· *k)).getD c 0=r.getD c 0*k:=by
 simp only[List.getD,aN]
 cases r[c]? with
 |none=>exact(bC k).symm
 |some q=>rfl
theorem mi{c k n:Nat}(hl:fq n s.1)(h1:s.2.length<=k)(h2:k<s.1.length)(h3:cY s.1 k c≠0)(e:dm s c=(dx (scaled (ef [] s.1 s.2.length k) s.2.length c) s.2.length c s.1.length,s.2++[c])):
  (∀t,cY (dm s c).1 s.2.length t=cY s.1 k t*(1 / cY s.1 k c))∧
  ∀j,j<s.1.length->j≠s.2.length->∀t,t<n->cY (dm s c).1 j t=cY s.1 (if j=k then s.2.length else j) t+ -(cY s.1 (if j=k then s.2.length else j) c)*(cY s.1 k t*(1 / cY s.1 k c)):=by
 have hp:s.2.length<s.1.length:=by omega
 have hsw:cY (ef [] s.1 s.2.length k) s.2.length c=cY s.1 k c:=B9 hp h2;have VG:(scaled (ef [] s.1 s.2.length k) s.2.length c).getD s.2.length []=(s.1.getD k []).map (· *(1 / cY s.1 k c)):=by
  unfold scaled;rw[hsw,List.getD,aR (by rw[jg];exact hp)];simp only[Option.getD_some]
  congr 1;rw[List.getD,List.getD,EW hp h2]
 have OX:∀j,j<s.1.length->j≠s.2.length->(scaled (ef [] s.1 s.2.length k) s.2.length c)[j]? =some (s.1.getD (if j=k then s.2.length else j) []):=fun j hj OZ=>by
  unfold scaled;rw[aX (Ne.symm OZ)];unfold ef;by_cases Sp:j=k
  ·subst Sp;rw[aR (by simpa using hj),if_pos rfl]
  ·rw[aX (Ne.symm Sp),aX (Ne.symm OZ),aK Sp,List.getD,aB hj];rfl
 have hgp:(dx (scaled (ef [] s.1 s.2.length k) s.2.length c) s.2.length c s.1.length).getD s.2.length []=(s.1.getD k []).map (· *(1 / cY s.1 k c)):=by
  rw[<-VG];simp only[List.getD,uX]
 rw[e];refine⟨fun t=>?_,fun j hj OZ t ht=>?_⟩
 ·show((dx (scaled (ef [] s.1 s.2.length k) s.2.length c) s.2.length c s.1.length).getD s.2.length []).getD t 0=_;rw[hgp,B8];rfl
 ·have hgj:(dx (scaled (ef [] s.1 s.2.length k) s.2.length c) s.2.length c s.1.length).getD j []=(s.1.getD (if j=k then s.2.length else j) []).mapIdx (oe (-((s.1.getD (if j=k then s.2.length else j) []).getD c 0)) ((s.1.getD k []).map (· *(1 / cY s.1 k c)))):=by
   simp only[List.getD,dx,List.getElem?_mapIdx,OX j hj OZ,bh,Option.getD_some]
   rw[if_pos ⟨hj,OZ⟩];exact congrArg (fun P=>(s.1.getD (if j=k then s.2.length else j) []).mapIdx (oe (-((s.1.getD (if j=k then s.2.length else j) []).getD c 0)) P)) VG
  show((dx (scaled (ef [] s.1 s.2.length k) s.2.length c) s.2.length c s.1.length).getD j []).getD t 0=_;rw[hgj,yF (by rw[hl.getD (by split<;>omega)];exact ht),B8];rfl
theorem wC(h:x≠0):x*(1 / x)=1:=by rw[bV,bf,Rat.mul_inv_cancel x h]
def Red(n c:Nat)(s:List (List Rat)×List Nat):Prop:=fq n s.1∧s.2.length<=s.1.length∧(∀j t,s.2.length<=j->j<s.1.length->t<c->cY s.1 j t=0)∧(∀p∈s.2,p<c)∧
 ∀i j,i<s.2.length->j<s.1.length->cY s.1 j (s.2.getD i 0)=if j=i then 1 else 0
theorem Red.step{n c:Nat}{s:List (List Rat)×List Nat}(h:Red n c s)(hc:c<n):Red n (c+1) (dm s c):=by
 obtain⟨hl,hle,hz,RQ,hu⟩:=h;rcases kH c hle with⟨e,h0⟩|⟨k,h1,h2,h3,e⟩
 ·rw[e];refine⟨hl,hle,fun j t hj TX ht=>?_,fun p hp=>by have:=RQ p hp;omega,hu⟩;rcases aP t c with h|h
  ·exact hz j t hj TX h
  ·rw[show t=c by omega];exact h0 j hj TX
 ·obtain⟨r1,r2⟩:=mi hl h1 h2 h3 e;have hlen:(dm s c).1.length=s.1.length:=pX s c;have e2:(dm s c).2=s.2++[c]:=by rw[e]
  have e3:(dm s c).2.length=s.2.length+1:=by rw[e2];simp
  have PB:∀j,j<s.1.length->j≠s.2.length->cY (dm s c).1 j c=0:=fun j hj OZ=>by
   rw[r2 j hj OZ c hc,wC h3,Rat.mul_one,Rat.add_neg_cancel]
  refine⟨hl.step,by rw[e3,hlen];omega,fun j t hj TX ht=>?_,fun p hp=>?_,fun i j hi hj=>?_⟩
  ·rw[e3]at hj;rw[hlen]at TX;rcases aP t c with h|h
   ·rw[r2 j TX (by omega) t (by omega),hz k t h1 h2 h,hz (if j=k then s.2.length else j) t (by split<;>omega) (by split<;>omega) h,bC,bB,Rat.zero_add]
   ·rw[show t=c by omega];exact PB j TX (by omega)
  ·rw[e2]at hp;rcases List.mem_append.1 hp with hp|hp
   ·have:=RQ p hp;omega
   ·rw[bE.1 hp];omega
  ·rw[e3]at hi;rw[hlen]at hj;rcases aP i s.2.length with h|h
   ·have hg:(dm s c).2.getD i 0=s.2.getD i 0:=by rw[e2,List.getD,aJ h,<-List.getD]
    have Xq:s.2.getD i 0<c:=RQ _ (by rw[List.getD,aB h];exact a9 h);have SS:cY s.1 k (s.2.getD i 0)=0:=hz k _ h1 h2 Xq;rw[hg];by_cases Vu:j=s.2.length
    ·rw[Vu,r1,SS,bC,aK (by omega)]
    ·rw[r2 j hj Vu _ (by omega),SS,bC,bB,bN];by_cases Sp:j=k
     ·rw[if_pos Sp,hu i _ h (by omega),aK (by omega),aK (by omega)]
     ·rw[aK Sp,hu i j h hj]
   ·have hg:(dm s c).2.getD i 0=c:=by rw[e2,List.getD,aM h,show i-s.2.length=0 by omega];rfl
    rw[hg];by_cases Vu:j=s.2.length
    ·rw[Vu,r1,wC h3,if_pos (by omega)]
    ·rw[PB j hj Vu,aK (by omega)]
theorem dc{M:List (List Rat)}{n:Nat}(hl:fq n M):∀cols,cols<=n->Red n cols (cQ M cols)
 |0,_=>⟨hl,aO _,fun _ _ _ _ h=>by omega,fun p hp=>(by cases hp),fun _ _ h=>(by cases h)⟩
 |c+1,h=>by
  have ih:=dc hl c (by omega);unfold cQ at ih ⊢;rw[bM,List.foldl_append];exact ih.step (by omega)
abbrev Mx:=Nat->Nat->Rat
def skip(k j:Nat):Nat:=if j<k then j else j+1
def lX(k:Nat):Rat:=if k % 2=1 then -1 else 1
def cX(f:Nat->Rat):Nat->Rat
 |0=>0
 |n+1=>cX f n+f n
def eJ:Nat->Mx->Rat
 |0,_=>1
 |n+1,m=>cX (fun k=>lX k*(m 0 k*eJ n fun i j=>m (i+1) (skip k j))) (n+1)
theorem cN{f g:Nat->Rat}:∀{n:Nat},(∀k,k<n->f k=g k)->cX f n=cX g n
 |0,_=>rfl
 |n+1,h=>by rw[cX,cX,cN fun k hk=>h k (by omega),h n (by omega)]
theorem dW:∀(n:Nat),cX (fun _=>0) n=0
 |0=>rfl
 |n+1=>by rw[cX,dW n,bN]
theorem fa(f g:Nat->Rat):∀(n:Nat),cX (fun k=>f k+g k) n=cX f n+cX g n
 |0=>(bN 0).symm
 |n+1=>by rw[cX,cX,cX,fa f g n];grind
theorem eU(p:Rat)(f:Nat->Rat):∀(n:Nat),cX (fun k=>p*f k) n=p*cX f n
 |0=>(bB p).symm
 |n+1=>by rw[cX,cX,eU p f n];grind
theorem og(f:Nat->Rat)(n:Nat):cX (fun k=> -f k) n= -cX f n:=by
 have h:=eU (-1) f n;rw[show (-1:Rat)*cX f n= -cX f n by grind]at h;rw[<-h];exact cN fun k _=>by grind
theorem kA(f:Nat->Rat):∀(n:Nat),cX f (n+1)=f 0+cX (fun k=>f (k+1)) n
 |0=>by show 0+f 0=f 0+0;grind
 |n+1=>by rw[cX,kA f n,cX];grind
theorem Fi{k j n:Nat}(h:j<n):skip k j<n+1:=by unfold skip;split<;>omega
theorem MN{k l:Nat}(h:k<=l)(j:Nat):skip k (skip l j)=skip (l+1) (skip k j):=by
 unfold skip;grind
theorem fG:∀{n:Nat} {m m':Mx},(∀i j,i<n->j<n->m i j=m' i j)->eJ n m=eJ n m'
 |0,_,_,_=>rfl
 |n+1,m,m',h=>by
  unfold eJ;refine cN fun k hk=>?_;rw[h 0 k (by omega) hk,fG fun i j hi hj=>h (i+1) (skip k j) (by omega) (Fi hj)]
def iI(m:Mx)(r:Nat)(u:Nat->Rat):Mx:=fun i j=>if i=r then u j else m i j
theorem yG(m:Mx)(r k:Nat)(u:Nat->Rat):(fun i j=>iI m (r+1) u (i+1) (skip k j))=iI (fun i j=>m (i+1) (skip k j)) r fun j=>u (skip k j):=by
 funext i j
 unfold iI;by_cases h:i=r
 ·rw[if_pos h,if_pos (by omega)]
 ·rw[aK h,aK (by omega)]
theorem ml(p:Rat):∀(n r:Nat) (m:Mx),r<n->∀(u v:Nat->Rat),eJ n (iI m r fun j=>u j+p*v j)=eJ n (iI m r u)+p*eJ n (iI m r v)
 |0,_,_,h,_,_=>by omega
 |n+1,0,m,_,u,v=>by
  unfold eJ;rw[<-eU,<-fa];refine cN fun k _=>?_;have e:∀x:Nat->Rat,(fun i j=>iI m 0 x (i+1) (skip k j))=fun i j=>m (i+1) (skip k j):=fun x=>by
   funext i j;unfold iI;rw[aK (by omega)]
  rw[e,e,e];unfold iI;rw[if_pos rfl,if_pos rfl,if_pos rfl];grind
 |n+1,r+1,m,h,u,v=>by
  unfold eJ;rw[<-eU,<-fa];refine cN fun k _=>?_;rw[yG,yG,yG,ml p n r _ (by omega) (fun j=>u (skip k j)) fun j=>v (skip k j)];have e:∀x:Nat->Rat,iI m (r+1) x 0 k=m 0 k:=fun x=>by unfold iI;rw[aK (by omega)]
  rw[e,e,e];grind
theorem Bg{F:Nat->Nat->Rat}:∀{n:Nat},(∀k l,k<=l->l<n->F k l+F (l+1) k=0)->cX (fun k=>cX (F k) n) (n+1)=0
 |0,_=>by show 0+0=(0:Rat);grind
 |n+1,h=>by
  have ih:=Bg (F:=F) (n:=n) fun k l h1 h2=>h k l h1 (by omega);have h3:cX (fun k=>F k n+F (n+1) k) (n+1)=0:=by
   rw[cN (g:=fun _=>0) fun k hk=>h k n (by omega) (by omega),dW]
  rw[fa]at h3;rw[cX];have h4:cX (fun k=>cX (F k) (n+1)) (n+1)=cX (fun k=>cX (F k) n) (n+1)+cX (fun k=>F k n) (n+1):=by
   rw[<-fa];rfl
  rw[h4,ih,Rat.zero_add];exact h3
def mM(a b i:Nat):Nat:=if i=a then b else if i=b then a else i
theorem MO(r i:Nat):mM (r+1) (r+2) (i+1)=mM r (r+1) i+1:=by
 unfold mM;by_cases h:i=r
 ·rw[if_pos (by omega),if_pos h]
 ·rw[aK (by omega),aK h];by_cases h2:i=r+1
  ·rw[if_pos (by omega),if_pos h2]
  ·rw[aK (by omega),aK h2]
theorem OA(k:Nat):lX (k+1)= -lX k:=by
 unfold lX;by_cases h:k % 2=1
 ·rw[if_pos h,aK (by omega)];grind
 ·rw[aK h,if_pos (by omega)]
theorem H6(n:Nat)(m:Mx):eJ (n+2) m=cX (fun k=>cX (fun l=>lX k*lX l*(m 0 k*m 1 (skip k l))*eJ n fun i j=>m (i+2) (skip k (skip l j))) (n+1)) (n+2):=by
 rw[eJ];refine cN fun k _=>?_;rw[eJ,<-eU,<-eU];refine cN fun l _=>?_;grind
theorem Bh:∀(n r:Nat) (m:Mx),r+1<n->eJ n (fun i j=>m (mM r (r+1) i) j)= -eJ n m
 |0,_,_,h=>by omega
 |1,_,_,h=>by omega
 |n+2,0,m,_=>by
  rw[H6,H6,<-og];have key:cX (fun k=>cX (fun l=>lX k*lX l*(m 1 k*m 0 (skip k l))*(eJ n fun i j=>m (i+2) (skip k (skip l j)))+lX k*lX l*(m 0 k*m 1 (skip k l))*eJ n fun i j=>m (i+2) (skip k (skip l j))) (n+1)) (n+2)=0:=by
   refine Bg fun k l h1 h2=>?_;have e1:skip k l=l+1:=by unfold skip;rw[aK (by omega)]
   have e2:skip (l+1) k=k:=by unfold skip;rw[if_pos (by omega)]
   have e3:(fun i j=>m (i+2) (skip (l+1) (skip k j)))=fun i j=>m (i+2) (skip k (skip l j)):=by
    funext i j;rw[MN h1]
   rw[e1,e2,e3,OA];grind
  have h4:cX (fun k=>cX (fun l=>lX k*lX l*(m 1 k*m 0 (skip k l))*(eJ n fun i j=>m (i+2) (skip k (skip l j)))+lX k*lX l*(m 0 k*m 1 (skip k l))*eJ n fun i j=>m (i+2) (skip k (skip l j))) (n+1)) (n+2)=
    cX (fun k=>cX (fun l=>lX k*lX l*(m 1 k*m 0 (skip k l))*eJ n fun i j=>m (i+2) (skip k (skip l j))) (n+1)) (n+2)+cX (fun k=>cX (fun l=>lX k*lX l*(m 0 k*m 1 (skip k l))*eJ n fun i j=>m (i+2) (skip k (skip l j))) (n+1)) (n+2):=by
   rw[<-fa];exact cN fun k _=>fa _ _ _
  rw[h4]at key;have h5:cX (fun k=> -cX (fun l=>lX k*lX l*(m 0 k*m 1 (skip k l))*eJ n fun i j=>m (i+2) (skip k (skip l j))) (n+1)) (n+2)= -cX (fun k=>cX (fun l=>lX k*lX l*(m 0 k*m 1 (skip k l))*eJ n fun i j=>m (i+2) (skip k (skip l j))) (n+1)) (n+2):=og _ _;rw[h5];have h6:cX (fun k=>cX (fun l=>lX k*lX l*(m (mM 0 1 0) k*m (mM 0 1 1) (skip k l))*eJ n fun i j=>m (mM 0 1 (i+2)) (skip k (skip l j))) (n+1)) (n+2)=cX (fun k=>cX (fun l=>lX k*lX l*(m 1 k*m 0 (skip k l))*eJ n fun i j=>m (i+2) (skip k (skip l j))) (n+1)) (n+2):=by
   refine cN fun k _=>cN fun l _=>?_;have e:∀i,mM 0 1 (i+2)=i+2:=fun i=>by unfold mM;rw[aK (by omega),aK (by omega)]
   simp only[e]
   rfl
  rw[show (0:Nat)+1=1 from rfl,h6];grind
 |n+2,r+1,m,h=>by
  rw[eJ,eJ,<-og];refine cN fun k _=>?_;have e:(fun i j=>m (mM (r+1) (r+1+1) (i+1)) (skip k j))=fun i j=>m (mM r (r+1) i+1) (skip k j):=by
   funext i j
   rw[show r+1+1=r+2 from rfl,MO]
  have ih:eJ (n+1) (fun i j=>m (mM r (r+1) i+1) (skip k j))= -eJ (n+1) fun i j=>m (i+1) (skip k j):=Bh (n+1) r (fun i j=>m (i+1) (skip k j)) (by omega);rw[e,ih];rw[show mM (r+1) (r+1+1) 0=0 by unfold mM;rw[aK (by omega),aK (by omega)]];grind
theorem mm:∀(k n:Nat) (m:Mx),k+1<n->(∀j,j<n->m 0 j=m (k+1) j)->eJ n m=0
 |0,n,m,h,he=>by
  have h1:=Bh n 0 m h;rw[fG (m':=m) fun i j hi hj=>?_]at h1
  ·grind
  ·unfold mM;by_cases h0:i=0
   ·rw[if_pos h0,h0];exact(he j hj).symm
   ·rw[aK h0];by_cases h2:i=1
    ·rw[if_pos h2,h2];exact he j hj
    ·rw[aK h2]
 |k+1,n,m,h,he=>by
  have h1:=Bh n (k+1) m h;rw[mm k n _ (by omega) fun j hj=>?_]at h1
  ·grind
  ·rw[show mM (k+1) (k+1+1) 0=0 by unfold mM;rw[aK (by omega),aK (by omega)],show mM (k+1) (k+1+1) (k+1)=k+1+1 by unfold mM;rw[if_pos rfl]];exact he j hj
theorem Bi(m:Mx)(r:Nat):iI m r (m r)=m:=by
 funext i j
 unfold iI;by_cases h:i=r
 ·rw[if_pos h,h]
 ·rw[aK h]
theorem H7{n r:Nat}{m:Mx}(p:Rat)(h:r+1<n):eJ n (iI m (r+1) fun j=>m (r+1) j+p*m 0 j)=eJ n m:=by
 rw[ml p n (r+1) m h,Bi,mm r n (iI m (r+1) (m 0)) h fun j _=>?_]
 ·grind
 ·unfold iI;rw[aK (by omega),if_pos rfl]
theorem EY{n k:Nat}{m:Mx}(h:k+1<n):eJ n (fun i j=>m (mM 0 (k+1) i) j)= -eJ n m:=by
 have z:∀u:Nat->Rat,eJ n (iI (iI m 0 u) (k+1) u)=0:=fun u=>mm k n _ h fun j _=>by
  unfold iI;rw[aK (by omega),if_pos rfl,if_pos rfl]
 have cm:∀u v:Nat->Rat,iI (iI m 0 u) (k+1) v=iI (iI m (k+1) v) 0 u:=fun u v=>by
  funext i j;unfold iI
  by_cases h1:i=k+1
  ·rw[if_pos h1,aK (by omega),if_pos h1]
  ·rw[aK h1,aK h1]
 have l1:∀u v x:Nat->Rat,eJ n (iI (iI m 0 u) (k+1) fun j=>v j+1*x j)=eJ n (iI (iI m 0 u) (k+1) v)+1*eJ n (iI (iI m 0 u) (k+1) x):=fun u v x=>ml 1 n (k+1) _ h v x;have l2:∀u v x:Nat->Rat,eJ n (iI (iI m 0 fun j=>v j+1*x j) (k+1) u)=eJ n (iI (iI m 0 v) (k+1) u)+1*eJ n (iI (iI m 0 x) (k+1) u):=fun u v x=>by
  rw[cm,cm,cm];exact ml 1 n 0 _ (by omega) v x
 have h1:=z fun j=>m 0 j+1*m (k+1) j;rw[l1,l2,l2,z,z]at h1;have e1:iI (iI m 0 (m 0)) (k+1) (m (k+1))=m:=by rw[Bi,Bi]
 have e2:iI (iI m 0 (m (k+1))) (k+1) (m 0)=fun i j=>m (mM 0 (k+1) i) j:=by
  funext i j;unfold iI mM
  by_cases h1:i=k+1
  ·rw[if_pos h1,aK (by omega),if_pos h1]
  ·rw[aK h1];by_cases h0:i=0
   ·rw[if_pos h0,if_pos h0]
   ·rw[aK h0,aK h0,aK h1]
 rw[e1,e2]at h1;grind
theorem yH:∀(n:Nat) (m:Mx),0<n->(∀i,i<n->m i 0=0)->eJ n m=0
 |0,_,h,_=>by omega
 |n+1,m,_,h=>by
  rw[eJ,kA,h 0 (by omega),cN (g:=fun _=>0) fun k hk=>?_,dW]
  ·grind
  ·rw[yH n _ (by omega) fun i hi=>by
    show m (i+1) (skip (k+1) 0)=0;rw[show skip (k+1) 0=0 by unfold skip;rw[if_pos (by omega)]]
    exact h (i+1) (by omega)]
   grind
theorem EZ{n:Nat}{m:Mx}(h:∀i,i<n->m (i+1) 0=0):eJ (n+1) m=m 0 0*eJ n fun i j=>m (i+1) (j+1):=by
 rw[eJ,kA,cN (g:=fun _=>0) fun k hk=>?_,dW]
 ·rw[show lX 0=1 from rfl,show(fun i j=>m (i+1) (skip 0 j))=fun i j=>m (i+1) (j+1)from rfl];grind
 ·rw[yH n _ (by omega) fun i hi=>by
   show m (i+1) (skip (k+1) 0)=0;rw[show skip (k+1) 0=0 by unfold skip;rw[if_pos (by omega)]]
   exact h i hi]
  grind
theorem u9{n:Nat}{m:Mx}(p:Nat->Rat):∀(i:Nat),i<n->eJ n (fun r j=>if 0<r∧r<=i then m r j+p r*m 0 j else m r j)=eJ n m
 |0,_=>fG fun r j _ _=>aK (by omega)
 |i+1,h=>by
  refine Eq.trans ?_ (u9 p i (by omega));refine Eq.trans (fG fun r j hr hj=>?_) (H7 (r:=i) (p (i+1)) h);unfold iI;grind
def kx(M:List (List Rat))(c n:Nat):Rat:=eJ (n-c) fun i j=>cY M (c+i) (c+j)
def eo(M:List (List Rat))(c i:Nat):List (List Rat):=M.mapIdx fun j r=>if c<j∧j<i then r.mapIdx (oe (-(r.getD c 0 / cY M c c)) (M.getD c []))else r
theorem E1(M:List (List Rat))(n:Nat):kx M n n=1:=by unfold kx;rw[bI];rfl
theorem D7(M:List (List Rat))(c i:Nat):(eo M c i).length=M.length:=by simp[eo]
theorem p8(M:List (List Rat))(c i:Nat)(h:i<=c+1):eo M c i=M:=by
 refine bL fun j=>?_;unfold eo;rw[List.getElem?_mapIdx]
 cases M[j]? with
 |none=>rfl
 |some r=>simp only[bh];rw[aK (by omega)]
theorem ky(M:List (List Rat))(c i j:Nat)(h:j<=c∨i<=j):(eo M c i)[j]? =M[j]? :=by
 unfold eo;rw[List.getElem?_mapIdx]
 cases M[j]? with
 |none=>rfl
 |some r=>simp only[bh];rw[aK (by omega)]
theorem rQ{c i:Nat}{r:List Rat}(h:M[i]? =some r)(hc:c<i):(eo M c i).set i (r.mapIdx (oe (-(r.getD c 0 / cY M c c)) (M.getD c [])))=eo M c (i+1):=by
 have hl:=(aE.1 h).1;refine bL fun j=>?_;by_cases PZ:i=j
 ·subst PZ;rw[aR (by rw[D7];exact hl)];unfold eo;rw[List.getElem?_mapIdx,h];simp only[bh]
  rw[if_pos (by omega)]
 ·rw[aX PZ];unfold eo;rw[List.getElem?_mapIdx,List.getElem?_mapIdx]
  cases M[j]? with
  |none=>rfl
  |some r=>
   simp only[bh]
   by_cases hj:c<j∧j<i
   ·rw[if_pos hj,if_pos (by omega)]
   ·rw[aK hj,aK (by omega)]
theorem JT{r s:List Rat}{c:Nat}(h:c<r.length):(r.mapIdx (oe p s)).getD c 0=r.getD c 0+p*s.getD c 0:=by
 simp only[List.getD,List.getElem?_mapIdx,aB h]
 rfl
theorem JU{c n i j:Nat}(hl:fq n M)(hi:i<M.length)(hc:c<i)(hj:j<n){k:Nat}(hik:i<k):cY (eo M c k) i j=cY M i j+ -(cY M i c / cY M c c)*cY M c j:=by
 have h1:M[i]? =some M[i]:=aB hi;have h2:(M[i]).length=n:=hl _ (a9 hi);show((eo M c k).getD i []).getD j 0=_;have h3:(eo M c k).getD i []=(M[i]).mapIdx (oe (-((M[i]).getD c 0 / cY M c c)) (M.getD c [])):=by
  rw[List.getD,eo,List.getElem?_mapIdx,h1];simp only[bh,Option.getD_some]
  rw[if_pos ⟨hc,hik⟩]
 rw[h3,JT (by omega)];have h4:M.getD i []=M[i]:=by rw[List.getD,h1];rfl
 unfold cY;rw[h4]
theorem rR{c i j k:Nat}(h:i<=c∨k<=i):cY (eo M c k) i j=cY M i j:=by
 unfold cY;rw[show (eo M c k).getD i []=M.getD i [] by simp only[List.getD,ky M c k i h]]
theorem tD{c n:Nat}(hl:fq w M)(hw:n<=w)(hn:n<=M.length)(hc:c<n)(h0:cY M c c≠0){k:Nat}(hk:n<=k):kx M c n=cY M c c*kx (eo M c k) (c+1) n:=by
 obtain⟨d,hd⟩:∃d,n=c+1+d:=⟨n-(c+1),by omega⟩
 subst hd;unfold kx;rw[show c+1+d-c=d+1 by omega,show c+1+d-(c+1)=d by omega];rw[<-u9 (fun r=> -(cY M (c+r) c / cY M c c)) d (by omega),EZ fun i hi=>?_]
 ·simp only[bu]
  rw[aK (by omega)];congr 1;refine fG fun i j hi hj=>?_;rw[if_pos (by omega),show c+1+i=c+(i+1) by omega,show c+1+j=c+(j+1) by omega,JU (i:=c+(i+1)) hl (by omega) (by omega) (by omega) (by omega)]
 ·simp only[bu]
  rw[if_pos (by omega),Rat.neg_mul,Rat.div_mul_cancel h0];grind
theorem MP{c n k:Nat}(hk:c<k)(hn:k<n)(hl:n<=M.length):kx (ef [] M c k) c n= -kx M c n:=by
 obtain⟨d,hd⟩:∃d,k=c+(d+1):=⟨k-c-1,by omega⟩
 subst hd;unfold kx;rw[<-EY (k:=d) (by omega)];refine fG fun i j hi hj=>?_;unfold cY;congr 1;simp only[List.getD]
 unfold mM ef;by_cases h0:i=0
 ·subst h0;simp only[bu,if_pos]
  rw[aX (by omega),aR (by omega),List.getD,aB (by omega)];rfl
 ·rw[aK h0];by_cases h1:i=d+1
  ·subst h1;simp only[bu,if_pos]
   rw[aR (by simp;omega),List.getD,aB (show c<M.length by omega)];rfl
  ·rw[aK h1,aX (by omega),aX (by omega)]
theorem MQ{c n:Nat}(hc:c<n)(h:∀j,c<=j->j<n->cY M j c=0):kx M c n=0:=
 yH _ _ (by omega) fun i hi=>h (c+i) (by omega) (by omega)
theorem ua{c k:Nat}(hl:fq w M):fq w (eo M c k):=fun r hr=>by
 obtain⟨i,hi⟩:=aS hr;unfold eo at hi;rw[List.getElem?_mapIdx]at hi
 cases hx:M[i]? with
 |none=>rw[hx]at hi;cases hi
 |some x=>
  rw[hx]at hi;injection hi with hi;subst hi;have:=hl x (aD hx);split
  ·rw[List.length_mapIdx];exact this
  ·exact this
theorem kU{h:Nat}(H:Ht M h)(h2:2<=h)(i j:Nat):rl (cY M i j)+1<=h:=by
 show rl ((M.getD i []).getD j 0)+1<=h;refine p9 (fun q hq=>?_) h2 j
 cases hy:M[i]? with
 |none=>rw[show M.getD i []=[] by simp[List.getD,hy]]at hq;cases hq
 |some y=>rw[show M.getD i []=y by simp[List.getD,hy]]at hq;exact H.at hy q hq
theorem Ht.elim{h c k:Nat}(H:Ht M h)(h2:2<=h)(h0:cY M c c≠0):Ht (eo M c k) (4*h):=fun r hr q hq=>by
 obtain⟨i,hi⟩:=aS hr;unfold eo at hi;rw[List.getElem?_mapIdx]at hi
 cases hx:M[i]? with
 |none=>rw[hx]at hi;cases hi
 |some x=>
  rw[hx]at hi;injection hi with hi;subst hi;have RH:=H.at hx;have hc:∀j,rl ((M.getD c []).getD j 0)+1<=h:=kU H h2 c;split at hq
  ·obtain⟨j,hj⟩:=aS hq;rw[List.getElem?_mapIdx]at hj
   cases hy:x[j]? with
   |none=>rw[hy]at hj;cases hj
   |some y=>
    rw[hy]at hj;injection hj with hj;subst hj;have h3:=RH y (aD hy);have h4:=hc j;have h5:=hc c;have h6:=p9 RH h2 c;have h7:=pc (x.getD c 0) h0;have h8:=jB (x.getD c 0 / cY M c c);have h9:=fb (-(x.getD c 0 / cY M c c)) ((M.getD c []).getD j 0);have h10:=kz y (-(x.getD c 0 / cY M c c)*(M.getD c []).getD j 0);have h11:rl (cY M c c)+1<=h:=h5;show rl (y+ -(x.getD c 0 / cY M c c)*(M.getD c []).getD j 0)+1<=4*h;omega
  ·have:=RH q hq;omega
def fc(M:List (List Rat)):List Rat:=(List.range M.length).map fun k=>kx M 0 (k+1)
theorem kV(M:List (List Rat)):(fc M).length=M.length:=by simp[fc]
theorem lY{k:Nat}(h:k<M.length):(fc M)[k]? =some (kx M 0 (k+1)):=by
 rw[fc,aN,bP h];rfl
theorem JV{N:List (List Rat)}{c n:Nat}(h:∀i j,c<=i->i<n->c<=j->j<n->cY M i j=cY N i j):kx M c n=kx N c n:=
 fG fun i j hi hj=>h (c+i) (c+j) (by omega) (by omega) (by omega) (by omega)
theorem H8{n:Nat}:kx (tk n (M.take n)) 0 n=kx M 0 n:=JV fun i j _ hi _ hj=>by
 rw[aCn hj];unfold cY;rw[show (M.take n).getD i []=M.getD i [] by simp[List.getD,List.getElem?_take,hi]]
theorem jR(f:Nat->Rat)(p:Rat)(n:Nat):cX (fun k=>f k*p) n=cX f n*p:=by
 rw[bl,<-eU];exact cN fun k _=>bl ..
theorem oh(f g:Nat->Rat):∀(n:Nat),cX (fun k=>f k-g k) n=cX f n-cX g n
 |0=>by show(0:Rat)=0-0;grind
 |n+1=>by rw[cX,cX,cX,oh f g n];grind
theorem eV{f:Nat->Rat}{i:Nat}:∀{n:Nat},i<n->(∀k,k<n->k≠i->f k=0)->cX f n=f i
 |0,h,_=>by omega
 |n+1,h,hz=>by
  rw[cX];rcases aP i n with h1|h1
  ·rw[eV h1 fun k hk OZ=>hz k (by omega) OZ,hz n (by omega) (by omega),bN]
  ·obtain rfl:i=n:=by omega
   rw[cN (g:=fun _=>0) fun k hk=>hz k (by omega) (by omega),dW,Rat.zero_add]
def qf(m:Mx)(x:Nat->Rat)(n:Nat):Rat:=cX (fun i=>x i*cX (fun j=>m i j*x j) n) n
def Fj(m:Mx):Mx:=fun i j=>m (i+1) (j+1)-m (i+1) 0 / m 0 0*m 0 (j+1)
def Sy(m:Mx)(n:Nat):Prop:=∀i j,i<n->j<n->m i j=m j i
def Po(m:Mx)(n:Nat):Prop:=∀k,k<n->0<eJ (k+1) m
def Qp(m:Mx)(n:Nat):Prop:=∀x:Nat->Rat,(∃i,i<n∧x i≠0)->0<qf m x n
theorem E2{n:Nat}{m:Mx}(h0:m 0 0≠0):eJ (n+1) m=m 0 0*eJ n (Fj m):=by
 rw[<-u9 (fun r=> -(m r 0 / m 0 0)) n (by omega),EZ fun i hi=>?_]
 ·rw[aK (by omega)];congr 1;refine fG fun i j hi hj=>?_;rw[if_pos (by omega)];unfold Fj;grind
 ·rw[if_pos (by omega),Rat.neg_mul,Rat.div_mul_cancel h0];grind
theorem Sy.Fj{m:Mx}{n:Nat}(h:Sy m (n+1)):Sy (Fj m) n:=fun i j hi hj=>by
 unfold Go.Ex.Fj;rw[h (i+1) (j+1) (by omega) (by omega),h (i+1) 0 (by omega) (by omega),h (j+1) 0 (by omega) (by omega)];rw[bV,bV];grind
theorem H9{m:Mx}{n:Nat}(hs:Sy m (n+1))(h0:m 0 0≠0)(x:Nat->Rat):
  qf m x (n+1)=m 0 0*((x 0+cX (fun j=>m 0 (j+1)*x (j+1)) n / m 0 0)*(x 0+cX (fun j=>m 0 (j+1)*x (j+1)) n / m 0 0))+qf (Fj m) (fun i=>x (i+1)) n:=by
 obtain⟨T,hT⟩:∃T,T=cX (fun j=>m 0 (j+1)*x (j+1)) n:=⟨_,rfl⟩
 obtain⟨S,hS⟩:∃S,S=cX (fun i=>x (i+1)*cX (fun j=>m (i+1) (j+1)*x (j+1)) n) n:=⟨_,rfl⟩
 have e1:qf m x (n+1)=x 0*(m 0 0*x 0+T)+(x 0*T+S):=by
  unfold qf;rw[kA,kA,<-hT];congr 1;have:cX (fun k=>x (k+1)*cX (fun j=>m (k+1) j*x j) (n+1)) n=cX (fun k=>x 0*(m 0 (k+1)*x (k+1))+x (k+1)*cX (fun j=>m (k+1) (j+1)*x (j+1)) n) n:=
   cN fun k hk=>by rw[kA,hs (k+1) 0 (by omega) (by omega)];grind
  rw[this,fa,eU,<-hT,<-hS]
 have e2:qf (Fj m) (fun i=>x (i+1)) n=S-T*T / m 0 0:=by
  unfold qf;have:∀k,k<n->x (k+1)*cX (fun j=>Fj m k j*x (j+1)) n=x (k+1)*cX (fun j=>m (k+1) (j+1)*x (j+1)) n-(m 0 (k+1)*x (k+1))*(T / m 0 0):=fun k hk=>by
   have h3:cX (fun j=>Fj m k j*x (j+1)) n=cX (fun j=>m (k+1) (j+1)*x (j+1)) n-m (k+1) 0 / m 0 0*T:=by
    rw[hT,<-eU,<-oh];exact cN fun j _=>by unfold Fj;grind
   rw[h3,hs (k+1) 0 (by omega) (by omega),bV,bV];grind
  rw[cN this,oh,jR,<-hS,<-hT,bV,bV];grind
 rw[e1,e2,<-hT];have h4:m 0 0*(m 0 0)⁻¹=1:=Rat.mul_inv_cancel _ h0;rw[bV,bV];grind
theorem sq_nonneg(x:Rat):0<=x*x:=by
 rcases Rat.le_total (a:=0) (b:=x)with h|h
 ·exact Rat.mul_nonneg h h
 ·have:=Rat.mul_nonneg (show 0<= -x by grind) (show 0<= -x by grind);grind
theorem sq_pos(h:x≠0):0<x*x:=by
 have h1:=sq_nonneg x;have h2:x*x≠0:=fun e=>(Rat.mul_eq_zero.1 e).elim h h;grind
theorem Po.head{m:Mx}{n:Nat}(h:Po m (n+1)):0<m 0 0:=by
 have h1:=h 0 (by omega);rw[show eJ (0+1) m=m 0 0 by show 0+lX 0*(m 0 0*1)=m 0 0;rw[show lX 0=1 from rfl];grind]at h1;exact h1
theorem Po.Fj{m:Mx}{n:Nat}(h:Po m (n+1)):Po (Fj m) n:=fun k hk=>by
 have h1:=h (k+1) (by omega);have h0:=h.head;rw[E2 (by grind)]at h1;refine Decidable.byContradiction fun h2=>?_;have:=Rat.mul_nonneg (Rat.le_of_lt h0) (show 0<= -(eJ (k+1) (Go.Ex.Fj m)) by grind);grind
theorem aDX:∀(n:Nat) (m:Mx),Sy m n->Po m n->Qp m n
 |0,_,_,_,x,⟨i,hi,_⟩=>by omega
 |n+1,m,hs,hp,x,⟨i,hi,hx⟩=>by
  have h0:=hp.head;have ih:=aDX n (Fj m) hs.Fj hp.Fj;rw[H9 hs (by grind)];by_cases hz:∃j,j<n∧x (j+1)≠0
  ·have h1:=ih (fun i=>x (i+1)) hz;have h2:=Rat.mul_nonneg (Rat.le_of_lt h0) (sq_nonneg (x 0+cX (fun j=>m 0 (j+1)*x (j+1)) n / m 0 0));grind
  ·have hz:∀j,j<n->x (j+1)=0:=fun j hj=>Decidable.byContradiction fun h=>hz ⟨j,hj,h⟩;have SC:x 0≠0:=by
    cases i with
    |zero=>exact hx
    |succ i=>exact absurd (hz i (by omega)) hx
   rw[cN (g:=fun _=>0) fun j hj=>by rw[hz j hj,bB],dW];have h1:qf (Fj m) (fun i=>x (i+1)) n=0:=by
    unfold qf;rw[cN (g:=fun _=>0) fun j hj=>by show x (j+1)*_=0;rw[hz j hj,bC],dW]
   rw[h1,bV,bC,bN,bN];exact Rat.mul_pos h0 (sq_pos SC)
theorem aB9{m:Mx}{n i:Nat}(hi:i<n):qf m (fun j=>if j=i then 1 else 0) n=m i i:=by
 unfold qf;rw[eV hi fun k _ OZ=>by simp only[aK OZ,bC],eV hi fun k _ OZ=>by simp only[aK OZ,bB]];simp only[if_pos]
 grind
theorem Qp.diag{m:Mx}{n i:Nat}(h:Qp m n)(hi:i<n):0<m i i:=by
 have:=h (fun j=>if j=i then 1 else 0) ⟨i,hi,by rw[if_pos rfl];decide⟩
 rwa [aB9 hi]at this
theorem aDY:∀(n:Nat) (m:Mx),Sy m n->Qp m n->Po m n
 |0,_,_,_,k,hk=>by omega
 |n+1,m,hs,hq,k,hk=>by
  have h0:=hq.diag (show 0<n+1 by omega);have ih:=aDY n (Fj m) hs.Fj fun y ⟨i,hi,hy⟩=>by
   have h1:=hq (fun j=>match j with
    |0=> -(cX (fun j=>m 0 (j+1)*y j) n / m 0 0)
    |j+1=>y j) ⟨i+1,by omega,hy⟩
   rw[H9 hs (by grind)]at h1;simp only[]at h1;have h2: -(cX (fun j=>m 0 (j+1)*y j) n / m 0 0)+cX (fun j=>m 0 (j+1)*y j) n / m 0 0=0:=by grind
   rw[h2]at h1;have h3:m 0 0*(0*0)=(0:Rat):=by grind
   rw[h3,Rat.zero_add]at h1;exact h1
  rw[E2 (by grind)]
  cases k with
  |zero=>show 0<m 0 0*1;rw[Rat.mul_one];exact h0
  |succ k=>exact Rat.mul_pos h0 (ih k (by omega))
end Go.Ex
namespace Go.Ex
open Go Go.Sx Go.Proofs
variable{M:List (List (Int×Int))}{cs:List Value}{S:Nat->Prop}{a a1 a2:Option Addr}{q:Rat}{w:World}
theorem KP{v:Value}(hS:Old S w)(h:fC w S v M):eA PG N.tz #[v] w (eL w fun v' _=>v'= .int .i64 (fg M)):=by
 have hn:=h;obtain⟨a,c,rfl,hc,hm⟩:=dA.shape h;refine yf (by simp) ?_
 cases M with
 |nil=>
  intro ρe we re;exact⟨_,rfl,re.cS,rfl⟩
 |cons r t=>
  obtain⟨ad,u,rfl,hu,h1,h2⟩:=dA.load h (j:=0) (x:=r) rfl;obtain⟨a2,c2,rfl⟩:=dA.xn hu;refine⟨ad,rfl,⟨by omega,by simp⟩,.slice a2 r.length c2,fun O w' r'=>by simpa using k7 hS dg.refl r' h1 (by simpa using h2),?_⟩;intro ρe we re;exact⟨_,rfl,re.cS,rfl⟩
theorem Mo(h:vE M=0):(∀r∈M,r.length=fg M)∧M.length<=60∧fg M<=60:=by
 unfold vE at h;split at h
 ·split at h
  ·cases h
  ·exact⟨‹_›,by omega,by omega⟩
 ·cases h
theorem jn.len(h:jn w S cs q):cs.length=4:=by obtain⟨_,_,_,_,_,_,_,_,rfl,_⟩:=h;rfl
def Fc(w:World)(S:Nat->Prop)(css:List (List Value))(qs:List Rat):Prop:=css.length=qs.length∧∀(j:Nat) cs q,css[j]? =some cs->qs[j]? =some q->jn w S cs q
section
variable{S S':Nat->Prop}{w w2:World}{cs:List Value}{css:List (List Value)}{q:Rat}{qs:List Rat}
theorem Fc.cJ(h:Fc w S css qs)(hk:∀g,S g->w2.heap[g]? =w.heap[g]?):Fc w2 S css qs:=⟨h.1,fun j cs q h1 h2=>(h.2 j cs q h1 h2).cJ hk⟩
theorem Fc.cL(h:Fc w S css qs)(hk:∀g,S g->S' g):Fc w S' css qs:=⟨h.1,fun j cs q h1 h2=>(h.2 j cs q h1 h2).cL hk⟩
theorem Fc.mV(h:Fc w S css qs):∀cs∈css,cs.length=4:=fun cs hc=>by
 obtain⟨j,hj⟩:=aS hc;have hl:=(aE.1 hj).1;exact(h.2 j cs _ hj (aB (by rw[<-h.1];exact hl))).len
theorem Fc.one(h:Fc w S css qs):∀u∈css.flatten,u.oneCell'=true:=fun u hu=>by
 obtain⟨cs,hc,hu⟩:=List.mem_flatten.1 hu;obtain⟨j,hj⟩:=aS hc;have hl:=(aE.1 hj).1;obtain⟨_,_,_,_,_,_,_,_,rfl,_⟩:=h.2 j cs _ hj (aB (by rw[<-h.1];exact hl));simp at hu;rcases hu with rfl|rfl|rfl|rfl<;>rfl
theorem Fc.set(h:Fc w S css qs){j:Nat}(hq:jn w S cs q):Fc w S (css.set j cs) (qs.set j q):=by
 refine⟨by simp[h.1],fun i c p h1 h2=>?_⟩;by_cases PZ:j=i
 ·subst PZ;have hl:=(aE.1 h1).1;rw[aR (by simpa using hl)]at h1;rw[aR (by have:=h.1;simp at hl;omega)]at h2;injection h1 with h1;injection h2 with h2;subst h1 h2;exact hq
 ·rw[aX PZ]at h1 h2;exact h.2 i c p h1 h2
end
def gj(w:World)(C S:Nat->Prop)(v:Value)(qs:List Rat):Prop:=∃css,jY w C 4 v css.flatten qs.length∧Fc w S css qs
section
variable{C C' S S':Nat->Prop}{H:Hp}{nx:Nat}{iv iv':Iv}{B:Nat}{w w' w2:World}{O:Nat->Sx.eE}{v:Value}{qs:List Rat}
theorem gj.cJ(h:gj w C S v qs)(hk:∀g,C g∨S g->w2.heap[g]? =w.heap[g]?):gj w2 C S v qs:=by
 obtain⟨css,h1,h2⟩:=h;exact⟨css,h1.cJ fun g hg=>hk g (.inl hg),h2.cJ fun g hg=>hk g (.inr hg)⟩
theorem gj.cL(h:gj w C S v qs)(hk:∀g,C g->C' g)(VY:∀g,S g->S' g):gj w C' S' v qs:=by
 obtain⟨css,h1,h2⟩:=h;exact⟨css,h1.cL hk,h2.cL VY⟩
end
def iF(w:World)(S:Nat->Prop)(v:Value)(n:Nat)(qs:List Rat):Prop:=∃css,w.ownsRow 0 T.Rat 4 v n css.flatten∧css.length=n∧Fc w S css qs
section
variable{S S' C:Nat->Prop}{H:Hp}{nx n:Nat}{iv iv':Iv}{B:Nat}{w w' w2:World}{O:Nat->Sx.eE}{v:Value}{qs:List Rat}
theorem iF.cJ(h:iF w S v n qs)(hk:∀g,S g∨v.ownBlock=some g->w2.heap[g]? =w.heap[g]?):iF w2 S v n qs:=by
 obtain⟨css,h1,h2,h3⟩:=h;exact⟨css,ownsRow.cJ h1 fun g hg=>hk g (.inr hg),h2,h3.cJ fun g hg=>hk g (.inl hg)⟩
theorem iF.cL(h:iF w S v n qs)(hk:∀g,S g->S' g):iF w S' v n qs:=by
 obtain⟨css,h1,h2,h3⟩:=h;exact⟨css,h1,h2,h3.cL hk⟩
theorem iF.len(h:iF w S v n qs):qs.length=n:=by
 obtain⟨css,h1,h2,h3⟩:=h;rw[<-h3.1,h2]
theorem iF.form(h:iF w S v n qs):∃a c,v= .slice a n c∧n<=c:=by
 obtain⟨css,h1,h2,h3⟩:=h;exact iX h1
theorem iF.le(h:iF w S v n qs):n<=maxLen:=by
 obtain⟨css,h1,h2,h3⟩:=h;rcases h1.2 with⟨_,h0⟩|⟨_,_,_,_,_,_,h1,h2,_⟩
 ·omega
 ·omega
theorem iF.low(h:iF w S v n qs):∀g,v.ownBlock=some g->g<w.heap.size:=fun g hg=>by
 obtain⟨css,h1,h2,h3⟩:=h;exact(ownsRow.low h1 g hg).2
theorem iF.read(h:iF w S v n qs):gj w (fun g=>v.ownBlock=some g) S v qs:=by
 have hl:=h.len;have hn:=h.le;obtain⟨css,h1,h2,h3⟩:=h;refine⟨css,?_,h3⟩;rw[hl];rcases h1.2 with⟨rfl,rfl⟩|⟨g,cap,cur,rfl,hb,hc,Vo,Qb,Oo,R9⟩
 ·refine⟨hn,h1.1,h3.one,none,0,rfl,Nat.le_refl _,fun j u hu=>?_⟩;have:=h1.1;rw[Nat.zero_mul]at this;rw[List.eq_nil_of_length_eq_zero this]at hu
  cases hu
 ·refine⟨hn,h1.1,h3.one,_,cap,rfl,Vo,fun j u hu=>⟨_,rfl,rfl,?_⟩⟩;exact h1.cells (g:=g) rfl j u hu
theorem iF.store{c j n1 c1 n2 c2:Nat}{b b2:Bool}(h:iF w S (.slice a n c) n qs)(hj:j<n)(hf:cT w S (.agg #[.bool b,.slice a1 n1 c1,.bool b2,.slice a2 n2 c2]) q)(Rp:∀g,(Value.slice a n c).ownBlock=some g->¬S g)(hS:Old S w):
  ∃g,a=some ⟨g,0,none⟩∧((⟨g,0,none⟩:Addr).add ((j:Int).toNat*4)).spot=none∧((⟨g,0,none⟩:Addr).add ((j:Int).toNat*4)).block=g∧
   (∀k,k<4->(w.cell? (((⟨g,0,none⟩:Addr).add ((j:Int).toNat*4)).add k)).isSome=true∧w.frozen? (((⟨g,0,none⟩:Addr).add ((j:Int).toNat*4)).add k)=false)∧
   ∀w2,w2=setCells w ((⟨g,0,none⟩:Addr).add ((j:Int).toNat*4)) [.bool b,.slice a1 n1 c1,.bool b2,.slice a2 n2 c2]->iF w2 S (.slice a n c) n (qs.set j q)∧w.grownBy w2 (some g)∧w2.heap.size=w.heap.size:=by
 obtain⟨css,h1,h2,h3⟩:=h;obtain⟨g,rfl,Oc,Q4,Oi,Oo⟩:=lT (nv:=[.bool b,.slice a1 n1 c1,.bool b2,.slice a2 n2 c2]) h1 rfl hj rfl (by decide);have Oy:(⟨g,0,none⟩:Addr).add ((j:Int).toNat*4)=⟨g,j*4,none⟩:=by rw[aF,dP,aW]
 refine⟨g,rfl,by rw[Oy],by rw[Oy],fun k hk=>by rw[Oy];exact Oc k hk,fun w2 PI=>?_⟩;rw[Oy]at PI;subst PI;have Tl:=jt (cs:=[.bool b,.slice a1 n1 c1,.bool b2,.slice a2 n2 c2]) h3.mV (show j<css.length by omega);rw[Tl]at Q4;have Pb:∀x,S x->(setCells w ⟨g,j*4,none⟩ [.bool b,.slice a1 n1 c1,.bool b2,.slice a2 n2 c2]).heap[x]? =w.heap[x]? :=fun x hx=>
  Oi.block x (hS x hx) fun e=>Rp g rfl (by injection e with e;rw[<-e];exact hx)
 exact⟨⟨_,Q4,by simpa using h2,(h3.cJ Pb).set (hf.cJ Pb).sX⟩,Oi,Oo⟩
structure eO(w:World)(S:Nat->Prop)(B:Nat)(iv:Iv)(v:Value)(n:Nat)(qs:List Rat):Prop where
 row:iF w (fun g=>Cv S B iv g∧v.ownBlock≠some g) v n qs
 new:∀g,v.ownBlock=some g->Cv FF B iv g
theorem eO.cJ(h:eO w S B iv v n qs)(hk:∀g,Cv S B iv g->w2.heap[g]? =w.heap[g]?):eO w2 S B iv v n qs:=
 ⟨h.row.cJ fun g hg=>hk g (hg.elim (fun h=>h.1) fun hg=>(h.new g hg).elim (fun h=>h.elim) .inr),h.new⟩
theorem eO.rel(h:eO w S B iv v n qs)(r:Rel H nx iv B w O w')(hS:∀g,S g->g<B):eO w' S B iv v n qs:=h.cJ fun _ hg=>Rel.same r hS hg
theorem eO.cK(h:eO w S B iv v n qs)(r:Rel H nx iv B w O w')(hS:∀g,S g->g<B)(he:Ext w' w2)(hm:∀p,p∈iv->p∈iv'):eO w2 S B iv' v n qs:=
 have h2:=(h.rel r hS).cJ fun g hg=>he.block g (Rel.old r hS g hg)
 ⟨h2.row.cL fun _ hg=>⟨hg.1.mono hm,hg.2⟩,fun g hg=>(h2.new g hg).mono hm⟩
theorem eO.dK(h:eO w2 FF w'.heap.size [(w'.heap.size,w2.heap.size)] v n qs)(hB:B<=w'.heap.size)(hm:(w'.heap.size,w2.heap.size)∈iv):eO w2 S B iv v n qs:=by
 have key:∀g {X:Nat->Prop},Cv FF w'.heap.size [(w'.heap.size,w2.heap.size)] g->Cv X B iv g:=fun g X hg=>by
  rcases hg with hg|⟨h1,lo,hi,h2,h3,h4⟩
  ·exact hg.elim
  ·simp at h2;obtain⟨rfl,rfl⟩:=h2;exact .inr ⟨by omega,_,_,hm,h3,h4⟩
 exact⟨h.row.cL fun g hg=>⟨key g hg.1,hg.2⟩,fun g hg=>key g (h.new g hg)⟩
theorem eO.read(h:eO w S B iv v n qs):gj w (Cv S B iv) (Cv S B iv) v qs:=
 h.row.read.cL (fun g hg=>(h.new g hg).elim (fun h=>h.elim) .inr) fun _ hg=>hg.1
end
section
variable{S S':Nat->Prop}{H:Hp}{nx n:Nat}{iv iv':Iv}{B:Nat}{w w' w2:World}{O:Nat->Sx.eE}{v:Value}{qs:List Rat}
theorem eO.store{c j n1 c1 n2 c2:Nat}{b b2:Bool}(h:eO w' S B iv (.slice a n c) n qs)(hj:j<n)(hf:cT w' (fun g=>Cv S B iv g∧(Value.slice a n c).ownBlock≠some g) (.agg #[.bool b,.slice a1 n1 c1,.bool b2,.slice a2 n2 c2]) q)
  (r:Rel H nx iv B w O w') (hS:∀g,S g->g<B):
  ∃g,a=some ⟨g,0,none⟩∧((⟨g,0,none⟩:Addr).add ((j:Int).toNat*4)).spot=none∧
   (∀k,k<4->(w'.cell? (((⟨g,0,none⟩:Addr).add ((j:Int).toNat*4)).add k)).isSome=true∧w'.frozen? (((⟨g,0,none⟩:Addr).add ((j:Int).toNat*4)).add k)=false)∧
   (∀id b,dM H id=some b->(O id).nil=false->(O id).g≠((⟨g,0,none⟩:Addr).add ((j:Int).toNat*4)).block)∧Cv FF B iv g∧
   ∀w2,w2=setCells w' ((⟨g,0,none⟩:Addr).add ((j:Int).toNat*4)) [.bool b,.slice a1 n1 c1,.bool b2,.slice a2 n2 c2]->eO w2 S B iv (.slice a n c) n (qs.set j q)∧w'.grownBy w2 (some g)∧w2.heap.size=w'.heap.size:=by
 obtain⟨g,rfl,h1,h2,h3,h4⟩:=h.row.store hj hf (fun g hg hx=>hx.2 hg) (fun x hx=>Rel.old r hS x hx.1);refine⟨g,rfl,h1,h3,fun id b hb hn=>by rw[h2];exact Rel.not r hS (D3 (h.new g rfl)) id b hb hn,h.new g rfl,fun w2 PI=>?_⟩;obtain⟨k1,k2,k3⟩:=h4 w2 PI;exact⟨⟨k1,h.new⟩,k2,k3⟩
end
end Go.Ex
namespace Go.Sx
open Go Go.Ex Go.Proofs
variable{cs:List Value}{O:Nat->Sx.eE}
theorem Sub.pC{B:Nat}{l tl:Env}{nx:Nat}{H tH:Hp}{iv:Iv}{w w':World}{id t n c:Nat}{e:TypeId}(r:Rel H nx iv B w O w')(Pk:dM H id=some (.arr e cs))(ht:gF l t=some (.o (.s id 0 n c)))
  (hs:zz H tH) (ho:HS id tH=true) (h1:HP l tl) (h2:jw nx tl):
  Sub B l nx O w' ⟨(t,.o (.v (.slice (some ⟨(O id).g,0,none⟩) n c)))::tl,tH,nx,((O id).g,(O id).g+1)::iv,w'⟩:=by
 refine⟨O,r.free Pk (by simp) (r.fits Pk).1 hs ho,fun u v hv=>?_⟩;rw[fK]at hv;split at hv
 ·rename_i e;subst e;injection hv with hv;subst hv;exact⟨trivial,_,ht,rfl⟩
 ·exact⟨h2.get u v hv,v,h1.get u v hv,rfl⟩
end Go.Sx
namespace Go.Ex
open Go Go.Sx Go.Proofs
end Go.Ex
namespace Go.Ex
open Go Go.Sx Go.Proofs
variable{x:List Rat}
def dS(w:World)(S:Nat->Prop)(rv:List Value)(K:List (List Rat)):Prop:=rv.length=K.length∧(∀u∈rv,u.oneCell'=true)∧∀(i:Nat) u r,rv[i]? =some u->K[i]? =some r->cR w S u r
section
variable{S S':Nat->Prop}{H:Hp}{nx:Nat}{iv iv':Iv}{B:Nat}{w w' w2:World}{O:Nat->Sx.eE}{rv:List Value}{K:List (List Rat)}
theorem dS.cJ(h:dS w S rv K)(hk:∀g,S g->w2.heap[g]? =w.heap[g]?):dS w2 S rv K:=⟨h.1,h.2.1,fun i u x h1 h2=>cR.cJ (h.2.2 i u x h1 h2) hk⟩
theorem dS.cL(h:dS w S rv K)(hk:∀g,S g->S' g):dS w S' rv K:=⟨h.1,h.2.1,fun i u x h1 h2=>cR.cL (h.2.2 i u x h1 h2) hk⟩
theorem dS.rel(h:dS w (Cv S B iv) rv K)(r:Rel H nx iv B w O w')(hS:∀g,S g->g<B):dS w' (Cv S B iv) rv K:=h.cJ fun _ hg=>Rel.same r hS hg
theorem dS.cK(h:dS w (Cv S B iv) rv K)(r:Rel H nx iv B w O w')(hS:∀g,S g->g<B)(he:Ext w' w2)(hm:∀p,p∈iv->p∈iv'):dS w2 (Cv S B iv') rv K:=
 ((h.rel r hS).cJ fun g hg=>he.block g (Rel.old r hS g hg)).cL fun _ hg=>hg.mono hm
theorem dS.push{u:Value}(h:dS w S rv K)(hu:u.oneCell'=true)(hx:cR w S u x):dS w S (rv++[u]) (K++[x]):=by
 refine⟨by simp[h.1],fun v hv=>?_,fun i v y h1 h2=>?_⟩
 ·rcases List.mem_append.1 hv with hv|hv
  ·exact h.2.1 v hv
  ·simp at hv;subst hv;exact hu
 ·rcases aP i rv.length with hi|hi
  ·rw[aJ hi]at h1;rw[aJ (by rw[<-h.1];exact hi)]at h2;exact h.2.2 i v y h1 h2
  ·have Ra:i=rv.length:=by have:=(aE.1 h1).1;simp at this;omega
   subst Ra;rw[aM (Nat.le_refl _),bI]at h1;rw[h.1,aM (Nat.le_refl _),bI]at h2;simp at h1 h2;subst h1 h2;exact hx
end
end Go.Ex
