/- Texts X204 to X221: lemmas, each with its conditions. -/
import Derived.Test.YtgkpbdkechfgmaaGreatP18
namespace Go.Ex
open Go Go.Sx Go.Proofs
variable{xs:List (Int×Int)}{S:Nat->Prop}
def aBB:List Int:=[0,0,0,0,0,0,-1,0,0]
def FM:List Int:=[-3,3,9,0,0,-9,0,12,0]
def NO:List Ld:=[(2,0,0,-12)]
abbrev aDi:List Rat:=(dH aBB).set 8 (Rat.divInt (-3) 2)
theorem aDj:Rat.divInt 2000 1000=((2:Int):Rat):=by decide +kernel
theorem BD:mF gC NO=0:=by decide +kernel
theorem Io:qc gC:=aAz (.inr ⟨by decide,by decide⟩) (by decide +kernel) (by decide +kernel) (qR BD).1
theorem Gs:mu (cU gC) gC.cols (aAy gC) (eB (ki gC NO) (-1)) (dH FM):=⟨by decide +kernel,by decide +kernel,by decide +kernel⟩
theorem Ip:iO (cU gC) gC.cols=9:=by decide +kernel
theorem aDk:gq (dq (cU gC) gC.cols) (eB (fm (dH FM) (dE gC)) (-1)) (cU gC).length=some aDi:=by decide +kernel
set_option maxHeartbeats 1000000 in
theorem jN(w:World):eA PG N.zT #[] w (eL w fun v' _=>v'= .bool true):=by
 have hw:=bR w;refine Cc (by simp) ?_;refine cH (cE hw (fun _ w' v w2=>∃vn vb vs,v= .agg #[vn,vb,vs]∧dX w2 (Nf w' w2) vn vb vs gC) (fun O w' r=>yv w') ?_);rintro O _ _ _ Od r he hw h_ ⟨vn1,vb1,vs1,rfl,hn⟩;have hf:=hn.dK r.cI (mN h_);clear r;clear hn;obtain⟨an1,cn1,ab1,cb1,aq1,cq1,rfl,rfl,rfl,-,-,-⟩:=hf.shape;refine cH (cE hw (fun _ w' v w2=>∃vx,v= .tuple #[vx,.int .i64 0]∧cR w2 (Nf w' w2) vx (dH FM)) (fun O w' r=>(KZ (S:=(fun g=>Cf w Od g∨g=(O 0).g)) (l:=NO) (fun g hg=>hg.elim (Rel.old r (cG w) g) fun e=>by subst e;exact Rel.lt r (id:=0) rfl) (dX.cL (dX.rel hf r (cG w)) fun g hg=>.inl hg) (show oY w' (fun g=>Cf w Od g∨g=(O 0).g) (.slice (some ⟨(O 0).g,0,none⟩) 1 1) NO from⟨[[.int .i64 2,.int .i64 0,.int .i64 0,.int .i64 (-12)]],(r.qN (id:=0) (sz:=4) (n:=1) rfl rfl (by decide) (by repeat' first|refine List.forall_mem_cons.2 ⟨rfl,?_⟩|exact fun u hu=>absurd hu List.not_mem_nil)).cL fun g hg=>.inr hg,rfl,by simp,fun j cs x h1 h2=>by cases j with|zero=>(cases h1;cases h2;rfl)|succ j=>cases h2⟩) (fun _=>Io)).mono fun _ _ ⟨v2,e1,e2,e3⟩=>⟨v2,e1,e2,e3.elim (fun h=>absurd BD h.1) fun h=>h.2.elim (fun g=>by obtain⟨z,hz⟩:=E7 (fe gC) (x:=fun t=>(dH FM).getD t 0) Gs.eq;rw[g.1]at hz;cases hz) fun⟨x,vx,g,k1,k2⟩=>⟨vx,k1,Io.aBj.one g Gs▸k2⟩⟩) ?_);rintro O _ v2 _ Oa r he hw h_ ⟨vx1,rfl,hn⟩;clear hf;have hx:=cR.dK (S:=FF) hn r.cI (mN h_);clear r;clear hn;obtain⟨ax1,cx1,rfl,-,-⟩:=dL.shape hx;refine cH (cE hw (fun _ w' v w2=>∃vn vb vs,v= .agg #[vn,vb,vs]∧dX w2 (Nf w' w2) vn vb vs gC) (fun O w' r=>yv w') ?_);rintro O _ _ _ Oj r he hw h_ ⟨vn2,vb2,vs2,rfl,hn⟩;replace hx:=cR.cK hx r (cG w) he (mC h_);have hf:=hn.dK r.cI (mN h_);clear r;clear hn;obtain⟨an2,cn2,ab2,cb2,aq2,cq2,rfl,rfl,rfl,-,-,-⟩:=hf.shape
 refine cH (cE hw (fun _ w' v w2=>∃vu vx,v= .tuple #[vu,vx,.int .i64 0]∧cR w2 (Nf w' w2) vu aDi∧∃a n c,vx= .slice a n c) (fun O w' r=>(Im (S:=(fun g=>Cf w Oj g∨g=(O 0).g)) (l:=NO) (fun g hg=>hg.elim (Rel.old r (cG w) g) fun e=>by subst e;exact Rel.lt r (id:=0) rfl) (dX.cL (dX.rel hf r (cG w)) fun g hg=>.inl hg) (show oY w' (fun g=>Cf w Oj g∨g=(O 0).g) (.slice (some ⟨(O 0).g,0,none⟩) 1 1) NO from⟨[[.int .i64 2,.int .i64 0,.int .i64 0,.int .i64 (-12)]],(r.qN (id:=0) (sz:=4) (n:=1) rfl rfl (by decide) (by repeat' first|refine List.forall_mem_cons.2 ⟨rfl,?_⟩|exact fun u hu=>absurd hu List.not_mem_nil)).cL fun g hg=>.inr hg,rfl,by simp,fun j cs x h1 h2=>by cases j with|zero=>(cases h1;cases h2;rfl)|succ j=>cases h2⟩) (fun _=>Io)).mono fun _ _ ⟨v2,e1,e2,e3⟩=>⟨v2,e1,e2,e3.elim (fun h=>absurd BD h.1) fun h=>h.2.elim (fun g=>absurd g.1 (by rw[Ip];decide)) fun⟨_,x,u,vx,vu,g1,g2,e3,e4,e5⟩=>by
  obtain rfl:=Io.aBj.one g1 Gs;rw[aDk]at g2;injection g2 with g2;subst g2;obtain⟨a,c,h,_⟩:=dL.shape e5
  exact⟨vu,vx,e3,e4,a,_,c,h⟩⟩) ?_)
 rintro O _ _ _ Oz r he hw h_ ⟨vu1,_,rfl,hn,ay1,ny1,cy1,rfl⟩;replace hx:=cR.cK hx r (cG w) he (mC h_);clear hf;have hu:=cR.dK (S:=FF) hn r.cI (mN h_);clear r;clear hn;obtain⟨au1,cu1,rfl,-,-⟩:=dL.shape hu;refine cH (cE hw (fun _ w' v w2=>∃vn vb vs,v= .agg #[vn,vb,vs]∧dX w2 (Nf w' w2) vn vb vs gC) (fun O w' r=>yv w') ?_);rintro O _ _ _ QT r he hw h_ ⟨vn3,vb3,vs3,rfl,hn⟩;replace hx:=cR.cK hx r (cG w) he (mC h_);replace hu:=cR.cK hu r (cG w) he (mC h_);have hf:=hn.dK r.cI (mN h_);clear r;clear hn;obtain⟨an3,cn3,ab3,cb3,aq3,cq3,rfl,rfl,rfl,-,-,-⟩:=hf.shape;refine cH (cE hw (fun _ w' v w2=>v= .tuple #[KK 9 0 0,.int .i64 0]) (fun O w' r=>(NL (S:=Cf w QT) (Rel.old r (cG w)) (dX.rel hf r (cG w)) (fun _=>Io.toFrS)).mono fun _ _ ⟨v2,e1,e2,e3⟩=>⟨v2,e1,e2,e3.elim (fun h=>absurd (qR BD).1 h.1) fun h=>by rw[h.2,Ip];rfl⟩) ?_);rintro O _ _ _ Qr r he hw h_ rfl;replace hx:=cR.cK hx r (cG w) he (mC h_);replace hu:=cR.cK hu r (cG w) he (mC h_);clear hf;clear r
 refine cH (cE hw (fun _ w' v w2=>∃vr,v= .tuple #[vr,.int .i64 0]∧cT w2 (Nf w' w2) vr ((2:Int):Rat)) (fun O w' r=>(KI 25 10 w' (by decide) (by decide) (by decide)).mono fun _ _ ⟨v2,e1,e2,vr,rt,e3,e4,e5,e6⟩=>⟨v2,e1,e2,vr,e3,by
  have:rt=2000:=aDG e4 e5 (by decide) (by decide);rw[this]at e6
  exact aDj▸e6⟩) ?_)
 rintro O _ _ _ RO r he hw h_ ⟨vr1,rfl,hn⟩;replace hx:=cR.cK hx r (cG w) he (mC h_);replace hu:=cR.cK hu r (cG w) he (mC h_);have hl:=hn.dK (S:=FF) r.cI (mN h_);clear r;obtain⟨s7_0a,s7_0b,s7_0c,s7_0d,s7_0e,s7_0f,s7_0g,s7_0h,rfl⟩:=hl.shape;clear hn;refine cH (cE hw (fun _ w' v w2=>∃q,v= .tuple #[q,.int .i64 0]∧cT w2 (Nf w' w2) q (Rat.divInt (-3) 2)) (fun O w' r=>(aBC (-3) 2 w' (by decide) (by decide) (by decide) (by decide)).mono fun _ _ ⟨v2,e1,e2,e3⟩=>⟨v2,e1,e2,e3.elim (fun k=>absurd k.1 (by decide)) fun h=>h.2⟩) ?_);rintro O _ _ _ RF r he hw h_ ⟨q1,rfl,hn⟩;replace hx:=cR.cK hx r (cG w) he (mC h_);replace hu:=cR.cK hu r (cG w) he (mC h_);replace hl:=hl.cK r (cG w) he (mC h_);have hh:=hn.dK (S:=FF) r.cI (mN h_);clear r;obtain⟨s8_0a,s8_0b,s8_0c,s8_0d,s8_0e,s8_0f,s8_0g,s8_0h,rfl⟩:=hh.shape;clear hn;refine cH (cP (Φ:=fun _ w' v w2=>eO w2 FF w'.heap.size [(w'.heap.size,w2.heap.size)] v 9 (dH aBB)) (fun O w' r=>Ia (S:=fun g=>g=(O 4).g) (fun g hg=>by subst hg;exact Rel.lt r (id:=4) rfl) (aC6 r (id:=4) (n:=9) (l:=aBB) rfl rfl (by decide)) (by decide) (by decide) (by decide)) ?_);rintro O RP v9 RY r he hb hn;replace hw:=hw.tr hb;replace hx:=cR.cL (S':=Bs FF w.heap.size ((RP.heap.size,RY.heap.size)::RF) v9) (cR.cJ (cR.rel hx r (cG w)) fun g hg=>he.block g (Rel.old r (cG w) g hg)) fun g hg=>Bs.of r (cG w) (fun x hx=>aC _ hx) hn hg;replace hu:=cR.cL (S':=Bs FF w.heap.size ((RP.heap.size,RY.heap.size)::RF) v9) (cR.cJ (cR.rel hu r (cG w)) fun g hg=>he.block g (Rel.old r (cG w) g hg)) fun g hg=>Bs.of r (cG w) (fun x hx=>aC _ hx) hn hg;replace hl:=cT.cL (S':=Bs FF w.heap.size ((RP.heap.size,RY.heap.size)::RF) v9) (cT.cJ (hl.rel r (cG w)) fun g hg=>he.block g (Rel.old r (cG w) g hg)) fun g hg=>Bs.of r (cG w) (fun x hx=>aC _ hx) hn hg;replace hh:=cT.cL (S':=Bs FF w.heap.size ((RP.heap.size,RY.heap.size)::RF) v9) (cT.cJ (hh.rel r (cG w)) fun g hg=>he.block g (Rel.old r (cG w) g hg)) fun g hg=>Bs.of r (cG w) (fun x hx=>aC _ hx) hn hg;have hX:=hn.dK (S:=FF) r.cI (iv:=(RP.heap.size,RY.heap.size)::RF) aI;clear r he hb hn;generalize (RP.heap.size,RY.heap.size)::RF=RD at*
 obtain⟨ax,cx,rfl,TU⟩:=hX.row.form;obtain⟨gx,rfl⟩:=hX.at (by decide);refine⟨⟨gx,0,none⟩,rfl,by omega,?_⟩;intro O w' r;obtain⟨g,hg,h1,h2,h3,h4,h5⟩:=(hX.rel r (cG w)).store (j:=8) (by decide) (hh.cJ (Bs.same r (cG w))) r (cG w);injection hg with hg;injection hg with hg;subst hg;refine⟨h1,h2,h3,fun w5 Qd=>?_⟩;obtain⟨k1,k2,k3⟩:=h5 w5 Qd;have PI:dg w.heap.size w w5:=(hw.tr r.cS).tr (dg.grown k2 (fun g e=>by injection e with e;subst e;exact h4.elim (fun h=>h.elim) fun h=>h.1) r.cI);have RI:=cR.cL (S':=Cf w RD) (cR.cJ hx (Bs.kept r (cG w) k2 fun g e=>e)) fun g hg=>hg.1;have UR:=cR.cL (S':=Cf w RD) (cR.cJ hu (Bs.kept r (cG w) k2 fun g e=>e)) fun g hg=>hg.1;have PU:=cT.cL (S':=Cf w RD) (cT.cJ hl (Bs.kept r (cG w) k2 fun g e=>e)) fun g hg=>hg.1;have PF:=k1.c;clear hX hx hu hl hh hw h1 h2 h3 h4 h5 Qd k1 k2 k3 r;have hw:=PI;have hx:=RI;have hu:=UR;have hl:=PU;have hd:=PF;clear PI RI UR PU PF;refine cO hτ dZ [.x 0,.x 1,.x 2,.x 3,.x 4,.x 5,.x 6,.x 7,.x 8,.x 9,.x 10,.x 11,.x 12,.x 13,.x 14,.x 15,.x 16,.x 17,.x 18,.x 19,.x 20,.x 21,.x 22,.x 23,.x 24,.x 25,.x 26,.x 27,.x 28,.x 29,.x 30,.x 31,.x 32,.x 33,.x 34,.x 35] (by kernel_rfl) (by kernel_rfl) ?_;refine cE hw (fun _ w' v w2=>eO w2 FF w'.heap.size [(w'.heap.size,w2.heap.size)] v 9 (dH FM)) (fun O w' r=>Ia (S:=fun g=>g=(O 5).g) (fun g hg=>by subst hg;exact Rel.lt r (id:=5) rfl) (aC6 r (id:=5) (n:=9) (l:=FM) rfl rfl (by decide)) (by decide) (by decide) (by decide)) ?_;rintro O _ _ _ QS r he hw h_ hn;replace hx:=cR.cK hx r (cG w) he (mC h_);replace hu:=cR.cK hu r (cG w) he (mC h_);replace hl:=hl.cK r (cG w) he (mC h_);replace hd:=cR.cK hd r (cG w) he (mC h_);have hX:=hn.dK (S:=FF) r.cI (mN h_);clear r he hn;have hv:=hX.c;clear hX;obtain⟨av,cv,rfl,-,-⟩:=dL.shape hv;refine cE hw (fun _ w' v w2=>v= .bool true) (fun O w' r=>(vS (S:=Cf w QS) (Rel.old r (cG w)) (cR.rel hx r (cG w)) (cR.rel hv r (cG w))).mono fun _ _ ⟨v2,e1,e2,e3⟩=>⟨v2,e1,e2,by rw[e3];exact congrArg _ (bS rfl)⟩) ?_;rintro O _ _ _ Pw r he hw h_ rfl;clear hx;replace hu:=cR.cK hu r (cG w) he (mC h_);replace hl:=hl.cK r (cG w) he (mC h_);replace hd:=cR.cK hd r (cG w) he (mC h_);clear hv;clear r he;refine cE hw (fun _ w' v w2=>v= .bool true) (fun O w' r=>(vS (S:=Cf w Pw) (Rel.old r (cG w)) (cR.rel hu r (cG w)) (cR.rel hd r (cG w))).mono fun _ _ ⟨v2,e1,e2,e3⟩=>⟨v2,e1,e2,by rw[e3];exact congrArg _ (bS rfl)⟩) ?_;rintro O _ _ _ WB r he hw h_ rfl;clear hu;replace hl:=hl.cK r (cG w) he (mC h_);clear hd;clear r he;refine⟨true,fun O w o1 o2=>aCE 9 0 0 9 0 0 w o1 o2,?_⟩;refine cE hw (fun _ w' v w2=>cT w2 (Nf w' w2) v ((2:Int):Rat)) (fun O w' r=>ic 2 w' (by decide)) ?_;rintro O _ _ _ UX r he hw h_ hn;replace hl:=hl.cK r (cG w) he (mC h_);have ht:=hn.dK (S:=FF) r.cI (mN h_);clear r he hn;obtain⟨A0,A1,A2,A3,A4,A5,A6,A7,rfl⟩:=ht.shape;refine cE hw (fun _ w' v w2=>v= .bool true) (fun O w' r=>(aBD (S:=Cf w UX) (Rel.old r (cG w)) (hl.rel r (cG w)) (ht.rel r (cG w))).mono fun _ _ ⟨v2,e1,e2,e3⟩=>⟨v2,e1,e2,by rw[e3];exact congrArg _ (bS rfl)⟩) ?_;rintro O _ _ _ VL r he hw h_ rfl;clear hl;clear ht;clear r he;exact rtn hw fun ρe we re=>rfl
theorem zq{m:Nat}(h:m<=5):lf 44 m<=lf 44 5:=by
 rcases(show m=0∨m=1∨m=2∨m=3∨m=4∨m=5 by omega)with rfl|rfl|rfl|rfl|rfl|rfl<;>decide
set_option maxHeartbeats 2000000 in
set_option maxRecDepth 8000 in
theorem vT{w:World}{vn vb vs v:Value}{f:KM}(hS:Old S w)(hF:s8 w S vn vb vs f)(hx:fp w S v xs):
  eA PG N.kZ #[.agg #[vn,vb,vs],v] w (eL w fun v' _=>v'= .bool true):=by
 have hw:=bR w;obtain⟨an,cn,rfl,-,-⟩:=hF.nodes.shape;obtain⟨ab,cb,rfl,-,-⟩:=hF.bars.shape;obtain⟨aq,cq,rfl,-,-⟩:=hF.cV.shape;obtain⟨ax,cx,rfl,TU,Tj⟩:=dL.shape hx;refine nS (by simp) ?_;conv=>whnf
 refine cH (cE hw (fun _ w' v w2=>∃d,v= .bool d∧(d=true->dX w S (.slice an f.nodes.length cn) (.slice ab f.bars.length cb) (.slice aq f.cV.length cq) f.val∧(∀b∈f.val.bars,rl b.2.2<=3)∧(∀b∈f.val.cV,rl b.2.2<=3)∧(eP f.val≠0∨f.val.nodes.length<=4∧f.val.bars.length<=6))) (fun O w' r=>NG hS hw r hF) ?_);rintro O _ _ _ Od r he hw h_ ⟨d1,rfl,PM⟩;clear r
 cases d1
 ·conv=>whnf
  refine cH (cE hw (fun _ w' v w2=>v= .bool true) (fun O w' r=>jN w') ?_);rintro O QR v2 PY Oa r he hw h_ rfl;clear r;conv=>whnf
  exact rtn hw fun ρe we re=>rfl
 have PM:=PM rfl;conv=>whnf
 refine cH (cE hw (fun _ w' v w2=>∃d,v= .bool d∧(d=true->xs.length<=80∧dB w S (.slice ax xs.length cx) (xs.map rq)∧∀q∈xs.map rq,rl q<=3)) (fun O w' r=>NH hS hw r hx) ?_);rintro O _ v2 _ Oa r he hw h_ ⟨d2,rfl,QD⟩;clear r
 cases d2
 ·conv=>whnf
  refine cH (cE hw (fun _ w' v w2=>v= .bool true) (fun O w' r=>jN w') ?_);rintro O Pg v3 Pc Oj r he hw h_ rfl;clear r;conv=>whnf
  exact rtn hw fun ρe we re=>rfl
 have QD:=QD rfl;obtain⟨hR,hrb,XC,SY⟩:=PM;obtain⟨fv,hfv⟩:∃fv,f.val=fv:=⟨_,rfl⟩
 rw[hfv]at hR hrb XC SY;obtain⟨en,eb,es⟩:f.nodes.length=fv.nodes.length∧f.bars.length=fv.bars.length∧f.cV.length=fv.cV.length:=by rw[<-hfv];exact⟨rfl,(aL ..).symm,(aL ..).symm⟩
 rw[en,eb,es]at hR ⊢;clear hF hfv en eb es;obtain⟨e0,EE⟩:∃e,eP fv=e:=⟨_,rfl⟩
 have Ty:eP fv=0->qc fv:=aAz SY hrb XC;obtain⟨hx80,hX,RH⟩:=QD;obtain⟨xv,hxv⟩:∃xv,xs.map rq=xv:=⟨_,rfl⟩
 rw[hxv]at hX RH;have Pr:xs.length=xv.length:=by rw[<-hxv,aL]
 rw[Pr]at hX hx80 ⊢;clear hx hxv Tj TU Pr;by_cases Wq:e0=0
 ·rw[Wq]at EE;have Ph:=Ty EE;have Ou:=Ph.toFrS;have hv:=Ou.toFrV;have hn4:=Ou.n4;have SD:=wV (f:=fv);have Tv:=Ou.M5;by_cases Oo:xv.length=fv.cols
  ·have QO:=ID Ph Ou.b6 RH;by_cases Xg:D8 (fU fv xv)
   ·conv=>whnf
    refine cH (cE hw (fun _ w' v w2=>∃vm,v= .tuple #[vm,.int .i64 0]∧cW w2 (Nf w' w2) vm (fU fv xv)) (fun O w' r=>(ju (oS hS r) (hR.cJ (kS hw r hS)) Ty (dB.cJ hX (kS hw r hS)) RH).mono fun _ _ ⟨v2,e1,e2,e3⟩=>⟨v2,e1,e2,e3.elim (fun h=>absurd EE h.1) fun h=>h.2.elim (fun g=>absurd Oo g.1) fun g=>g.2⟩) ?_);rintro O Pg v3 Pc Oj r he hw h_ ⟨vm,rfl,hn⟩;have hM:=cW.dK (S:=FF) hn r.cI (mN h_);clear r;clear hn;obtain⟨am,cm,rfl,-,-⟩:=dA.shape hM;conv=>whnf
    refine cH (cE hw (fun _ w' v w2=>v= .tuple #[.bool true,.int .i64 0]) (fun O w' r=>(iA (oS hS r) (hR.cJ (kS hw r hS)) Ty (dB.cJ hX (kS hw r hS)) RH).mono fun _ _ ⟨v2,e1,e2,e3⟩=>⟨v2,e1,e2,e3.elim (fun h=>absurd EE h.1) fun h=>h.2.elim (fun g=>absurd Oo g.1) fun⟨_,d,k1,k2⟩=>by rw[k1];cases d with|true=>rfl|false=>exact absurd (k2.2 Xg) (by decide)⟩) ?_);rintro O Qh v4 Q6 Oz r he hw h_ rfl;replace hM:=cW.cK hM r (cG w) he (mC h_);clear r;conv=>whnf
    refine cH (cE hw (fun _ w' v w2=>v= .int .i64 0) (fun O w' r=>(s7 (oS hS r) (hR.cJ (kS hw r hS))).mono fun _ _ ⟨v2,e1,e2,e3⟩=>⟨v2,e1,e2,by rw[e3,EE]⟩) ?_);rintro O Rz v5 Rs QT r he hw h_ rfl;replace hM:=cW.cK hM r (cG w) he (mC h_);clear r;conv=>whnf
    refine cH (cE hw (fun _ w' v w2=>v= .int .i64 fv.cols) (fun O w' r=>jc (hR.cJ (kS hw r hS)) ⟨Ou.b,Ou.s⟩) ?_);rintro O R5 v6 RX Qr r he hw h_ rfl;replace hM:=cW.cK hM r (cG w) he (mC h_);clear r;conv=>whnf
    rw[Oo];conv=>whnf
    refine dG.mk (fun hd=>by simp at hd) (fun _=>?_);conv=>whnf
    rw[<-Oo];refine cH (cE hw (fun _ w' v w2=>cW w2 (Nf w' w2) v (fU fv xv)) (fun O w' r=>xm (oS hS r) (hR.cJ (kS hw r hS)) EE Ph (dB.cJ hX (kS hw r hS)) Oo RH) ?_);rintro O Sw v7 Sz RO r he hw h_ hn;replace hM:=cW.cK hM r (cG w) he (mC h_);have hW:=cW.dK (S:=FF) hn r.cI (mN h_);clear r;clear hn;obtain⟨aw,cw,rfl,-,-⟩:=dA.shape hW;conv=>whnf
    refine cH (cE hw (fun _ w' v w2=>v= .bool true) (fun O w' r=>(zt (S:=Cf w RO) (Rel.old r (cG w)) (cW.rel hM r (cG w)) (cW.rel hW r (cG w))).mono fun _ _ ⟨v2,e1,e2,e3⟩=>⟨v2,e1,e2,by rw[e3];exact congrArg _ (bS rfl)⟩) ?_);rintro O S9 v8 Se RF r he hw h_ rfl;clear hM;replace hW:=cW.cK hW r (cG w) he (mC h_);clear r;obtain⟨m,hm⟩:∃m,(fU fv xv).length=m:=⟨_,rfl⟩
    have hm12:m<=12:=by rw[<-hm,gR];omega
    have hmr:∀r∈fU fv xv,r.length=(fU fv xv).length:=fun r hr=>by rw[gR];exact pw r hr
    rw[hm]at hW ⊢;conv=>whnf
    refine dG.mk ?_ ?_<;>intro hle
    ·have hle:m<=5:=by have:=aH hle;omega
     conv=>whnf
     refine cH (cE hw (fun _ w' v w2=>v= .bool true) (fun O w' r=>(zn (S:=Cf w RF) (h:=44) (Rel.old r (cG w)) (cW.l (cW.rel hW r (cG w)) fun y hy q hq=>by have:=QO y hy q hq;omega) hmr (by omega) QO (by decide) (by rw[hm];exact aV (zq hle) (by decide))).mono fun _ _ ⟨v2,e1,e2,e3⟩=>⟨v2,e1,e2,by obtain⟨d,k1,k2,k3⟩:=e3;rw[k1];cases d with|true=>rfl|false=>exact absurd (k3 Xg) (by decide)⟩) ?_);rintro O RP v9 RY RD r he hw h_ rfl;clear hW;clear r;conv=>whnf
     skip
     refine⟨Nat×List (List Value)×World×Iv,fun z=>⟨[(1,sV ax xv.length cx),(2,pP 0 0),(11,.o (.w 1 z.2.1.length)),(12,iN z.1)],[(1,.vec T.Rat 4 z.2.1.flatten),(0,.box T.Frame [.v (.slice an fv.nodes.length cn),.v (.slice ab fv.bars.length cb),.v (.slice aq fv.cV.length cq)])],2,z.2.2.2,z.2.2.1⟩,fun z=>xv.length-z.1,
      fun z=>z.1<=xv.length∧dg w.heap.size w z.2.2.1∧dR z.2.2.1 (Cf w z.2.2.2) z.2.1 (List.replicate z.1 0),?_,?_⟩
     ·intro O w' r;exact⟨(0,[],w',_),⟨aO _,hw.tr r.cS,dR.nil⟩,Sub.nil 11 T.Rat 4 rfl (by simp[jw,SV.sc,At.sc,fQ]) r fun ρ1 r1=>Sub.gn [] r1⟩
     clear hw;rintro⟨i,css,w9,iv⟩ ⟨hi,hw,hG⟩;dsimp only at hi hw hG ⊢;have Ok:=eD hG.four;have RT:css.length=i:=by rw[hG.len,aU]
     conv=>whnf
     refine dG.mk ?_ ?_<;>intro OW
     ·have OW:i<xv.length:=by simpa using OW
      conv=>whnf
      refine cH (cE hw (fun _ w' v w2=>cT w2 (Nf w' w2) v (((0:Int)):Rat)) (fun O w' r=>ic 0 w' (by decide)) ?_);rintro O Rc v21 RK Q1 r he hw h_ hn;replace hG:=hG.cK r (cG w) he (mC h_);have hd:=hn.dK (S:=FF) r.cI (mN h_);clear r;obtain⟨A0,A1,A2,A3,A4,A5,A6,A7,rfl⟩:=hd.shape;conv=>whnf
      have RE:=hG.push (cs:=[.bool A0,.slice A1 A2 A3,.bool A4,.slice A5 A6 A7]) (q:=((0:Int):Rat)) ⟨_,_,_,_,_,_,_,_,rfl,hd⟩ rfl;rw[show List.replicate i (0:Rat)++[((0:Int):Rat)]=List.replicate (i+1) 0 by rw[List.replicate_succ'];rfl]at RE;have PR:css.flatten++([.bool A0,.slice A1 A2 A3,.bool A4,.slice A5 A6 A7]:List Value)=(css++([[.bool A0,.slice A1 A2 A3,.bool A4,.slice A5 A6 A7]]:List (List Value))).flatten:=by simp
      refine .inl ?_;conv=>whnf
      refine⟨by omega,by omega,by unfold maxLen;omega,?_⟩;conv=>whnf
      refine⟨((i+1:Nat):Int),wo,?_⟩;conv=>whnf
      intro ρ3 w6 r3;exact⟨(i+1,css++[[.bool A0,.slice A1 A2 A3,.bool A4,.slice A5 A6 A7]],w6,_),⟨OW,hw.tr r3.cS,RE.rel r3 (cG w)⟩,Sub.gn [(1,3)] r3 ⟨by dsimp only;rw[<-PR];rfl,rfl,trivial⟩ ⟨rfl,rfl,by dsimp only;rw[List.length_append,List.length_singleton];rfl,rfl,trivial⟩,by dsimp only;omega⟩
     have OW:i=xv.length:=aQ hi (by simpa using OW);subst OW;have QU:=pz (x:=List.replicate xv.length (0:Rat)) hv fun i=>by rw[List.getD,List.getElem?_replicate];split<;>rfl
     have Vw:iO (cU fv) fv.cols<=3*fv.nodes.length:=by have:=(iG (cU fv) fv.cols (fe fv)).1;rw[da,fu]at this;exact this
     by_cases Wb:iO (cU fv) fv.cols=3*fv.nodes.length
     ·conv=>whnf
      refine cH (cE hw (fun _ w' v w2=>v= .tuple #[.bool true,.int .i64 0]) (fun O w' r=>(iA (S:=fun g=>g<w'.heap.size) (x:=List.replicate xv.length (0:Rat)) (fun g hg=>hg) (dX.cL (hR.cJ (kS hw r hS)) fun g hg=>by have:=hS g hg;have:=r.cI;omega) Ty (cR.l (dR.list (dR.cL (hG.rel r (cG w)) fun g hg=>Rel.old r (cG w) g hg) (hG.len.trans (aU ..)▸r.kc (T:=fun g=>g<w'.heap.size) (id:=1) (sz:=4) (m:=css.length) rfl Ok (by unfold maxLen;omega) (by decide) hG.one fun hn=>(r.low 1 _ rfl hn).2)) fun q hq=>by rw[ah hq];decide) (fun q hq=>by rw[ah hq];decide)).mono fun _ _ ⟨v2,e1,e2,e3⟩=>⟨v2,e1,e2,e3.elim (fun h=>absurd EE h.1) fun h=>h.2.elim (fun g=>absurd ((aU ..).trans Oo) g.1) fun⟨_,d,k1,k2⟩=>by rw[k1];cases d with|true=>rfl|false=>exact absurd (k2.2 (QU.2 Wb)) (by decide)⟩) ?_);rintro O Rc v21 RK Q1 r he hw h_ rfl;clear hG;clear r;conv=>whnf
      refine cH (cE hw (fun _ w' v w2=>v= .agg #[.int .i64 (iO (cU fv) fv.cols),.int .i64 ((fv.cols:Int)-iO (cU fv) fv.cols),.int .i64 0]) (fun O w' r=>(lh (oS hS r) (hR.cJ (kS hw r hS)) EE Ou).mono fun _ _ ⟨v2,e1,e2,e3⟩=>⟨v2,e1,e2,by rw[e3,show((3*fv.nodes.length:Nat):Int)-(iO (cU fv) fv.cols:Int)=0 by omega]⟩) ?_);rintro O S3 v22 S4 RS r he hw h_ rfl;clear r;conv=>whnf
      refine cH (cE hw (fun _ w' v w2=>v= .bool true) (fun O w' r=>jN w') ?_);rintro O Sg v23 Sh Rn r he hw h_ rfl;clear r;conv=>whnf
      exact rtn hw fun ρe we re=>rfl
     conv=>whnf
     refine cH (cE hw (fun _ w' v w2=>v= .tuple #[.bool false,.int .i64 0]) (fun O w' r=>(iA (S:=fun g=>g<w'.heap.size) (x:=List.replicate xv.length (0:Rat)) (fun g hg=>hg) (dX.cL (hR.cJ (kS hw r hS)) fun g hg=>by have:=hS g hg;have:=r.cI;omega) Ty (cR.l (dR.list (dR.cL (hG.rel r (cG w)) fun g hg=>Rel.old r (cG w) g hg) (hG.len.trans (aU ..)▸r.kc (T:=fun g=>g<w'.heap.size) (id:=1) (sz:=4) (m:=css.length) rfl Ok (by unfold maxLen;omega) (by decide) hG.one fun hn=>(r.low 1 _ rfl hn).2)) fun q hq=>by rw[ah hq];decide) (fun q hq=>by rw[ah hq];decide)).mono fun _ _ ⟨v2,e1,e2,e3⟩=>⟨v2,e1,e2,e3.elim (fun h=>absurd EE h.1) fun h=>h.2.elim (fun g=>absurd ((aU ..).trans Oo) g.1) fun⟨_,d,k1,k2⟩=>by rw[k1];cases d with|true=>exact absurd (QU.1 (k2.1 rfl)) Wb|false=>rfl⟩) ?_);rintro O Rc v21 RK Q1 r he hw h_ rfl;clear hG;clear r;conv=>whnf
     refine cH (cE hw (fun _ w' v w2=>v= .agg #[.int .i64 (iO (cU fv) fv.cols),.int .i64 ((fv.cols:Int)-iO (cU fv) fv.cols),.int .i64 ((3*fv.nodes.length:Nat)-iO (cU fv) fv.cols)]) (fun O w' r=>lh (oS hS r) (hR.cJ (kS hw r hS)) EE Ou) ?_);rintro O S3 v22 S4 RS r he hw h_ rfl;clear r;conv=>whnf
     refine dG.mk (fun _=>?_) (fun hd=>absurd (show (3*fv.nodes.length:Nat)-(iO (cU fv) fv.cols:Int)=0 by simpa using hd) (by omega));conv=>whnf
     refine cH (cE hw (fun _ w' v w2=>v= .bool true) (fun O w' r=>jN w') ?_);rintro O Sg v23 Sh Rn r he hw h_ rfl;clear r;conv=>whnf
     exact rtn hw fun ρe we re=>rfl
    clear hW;conv=>whnf
    refine⟨Nat×List (List Value)×World×Iv,fun z=>⟨[(1,sV ax xv.length cx),(2,pP 0 0),(11,.o (.w 1 z.2.1.length)),(12,iN z.1)],[(1,.vec T.Rat 4 z.2.1.flatten),(0,.box T.Frame [.v (.slice an fv.nodes.length cn),.v (.slice ab fv.bars.length cb),.v (.slice aq fv.cV.length cq)])],2,z.2.2.2,z.2.2.1⟩,fun z=>xv.length-z.1,
     fun z=>z.1<=xv.length∧dg w.heap.size w z.2.2.1∧dR z.2.2.1 (Cf w z.2.2.2) z.2.1 (List.replicate z.1 0),?_,?_⟩
    ·intro O w' r;exact⟨(0,[],w',_),⟨aO _,hw.tr r.cS,dR.nil⟩,Sub.nil 11 T.Rat 4 rfl (by simp[jw,SV.sc,At.sc,fQ]) r fun ρ1 r1=>Sub.gn [] r1⟩
    clear hw;rintro⟨i,css,w9,iv⟩ ⟨hi,hw,hG⟩;dsimp only at hi hw hG ⊢;have Ok:=eD hG.four;have RT:css.length=i:=by rw[hG.len,aU]
    conv=>whnf
    refine dG.mk ?_ ?_<;>intro OW
    ·have OW:i<xv.length:=by simpa using OW
     conv=>whnf
     refine cH (cE hw (fun _ w' v w2=>cT w2 (Nf w' w2) v (((0:Int)):Rat)) (fun O w' r=>ic 0 w' (by decide)) ?_);rintro O Rc v21 RK Q1 r he hw h_ hn;replace hG:=hG.cK r (cG w) he (mC h_);have hd:=hn.dK (S:=FF) r.cI (mN h_);clear r hn;obtain⟨A0,A1,A2,A3,A4,A5,A6,A7,rfl⟩:=hd.shape;conv=>whnf
     have RE:=hG.push (cs:=[.bool A0,.slice A1 A2 A3,.bool A4,.slice A5 A6 A7]) (q:=((0:Int):Rat)) ⟨_,_,_,_,_,_,_,_,rfl,hd⟩ rfl;rw[show List.replicate i (0:Rat)++[((0:Int):Rat)]=List.replicate (i+1) 0 by rw[List.replicate_succ'];rfl]at RE;have PR:css.flatten++([.bool A0,.slice A1 A2 A3,.bool A4,.slice A5 A6 A7]:List Value)=(css++([[.bool A0,.slice A1 A2 A3,.bool A4,.slice A5 A6 A7]]:List (List Value))).flatten:=by simp
     refine .inl ?_;conv=>whnf
     refine⟨by omega,by omega,by unfold maxLen;omega,?_⟩;conv=>whnf
     refine⟨((i+1:Nat):Int),wo,?_⟩;conv=>whnf
     intro ρ3 w6 r3;exact⟨(i+1,css++[[.bool A0,.slice A1 A2 A3,.bool A4,.slice A5 A6 A7]],w6,_),⟨OW,hw.tr r3.cS,RE.rel r3 (cG w)⟩,Sub.gn [(1,3)] r3 ⟨by dsimp only;rw[<-PR];rfl,rfl,trivial⟩ ⟨rfl,rfl,by dsimp only;rw[List.length_append,List.length_singleton];rfl,rfl,trivial⟩,by dsimp only;omega⟩
    have OW:i=xv.length:=aQ hi (by simpa using OW);subst OW;have QU:=pz (x:=List.replicate xv.length (0:Rat)) hv fun i=>by rw[List.getD,List.getElem?_replicate];split<;>rfl
    have Vw:iO (cU fv) fv.cols<=3*fv.nodes.length:=by have:=(iG (cU fv) fv.cols (fe fv)).1;rw[da,fu]at this;exact this
    by_cases Wb:iO (cU fv) fv.cols=3*fv.nodes.length
    ·conv=>whnf
     refine cH (cE hw (fun _ w' v w2=>v= .tuple #[.bool true,.int .i64 0]) (fun O w' r=>(iA (S:=fun g=>g<w'.heap.size) (x:=List.replicate xv.length (0:Rat)) (fun g hg=>hg) (dX.cL (hR.cJ (kS hw r hS)) fun g hg=>by have:=hS g hg;have:=r.cI;omega) Ty (cR.l (dR.list (dR.cL (hG.rel r (cG w)) fun g hg=>Rel.old r (cG w) g hg) (hG.len.trans (aU ..)▸r.kc (T:=fun g=>g<w'.heap.size) (id:=1) (sz:=4) (m:=css.length) rfl Ok (by unfold maxLen;omega) (by decide) hG.one fun hn=>(r.low 1 _ rfl hn).2)) fun q hq=>by rw[ah hq];decide) (fun q hq=>by rw[ah hq];decide)).mono fun _ _ ⟨v2,e1,e2,e3⟩=>⟨v2,e1,e2,e3.elim (fun h=>absurd EE h.1) fun h=>h.2.elim (fun g=>absurd ((aU ..).trans Oo) g.1) fun⟨_,d,k1,k2⟩=>by rw[k1];cases d with|true=>rfl|false=>exact absurd (k2.2 (QU.2 Wb)) (by decide)⟩) ?_);rintro O Rc v21 RK Q1 r he hw h_ rfl;clear hG;clear r;conv=>whnf
     refine cH (cE hw (fun _ w' v w2=>v= .agg #[.int .i64 (iO (cU fv) fv.cols),.int .i64 ((fv.cols:Int)-iO (cU fv) fv.cols),.int .i64 0]) (fun O w' r=>(lh (oS hS r) (hR.cJ (kS hw r hS)) EE Ou).mono fun _ _ ⟨v2,e1,e2,e3⟩=>⟨v2,e1,e2,by rw[e3,show((3*fv.nodes.length:Nat):Int)-(iO (cU fv) fv.cols:Int)=0 by omega]⟩) ?_);rintro O S3 v22 S4 RS r he hw h_ rfl;clear r;conv=>whnf
     refine cH (cE hw (fun _ w' v w2=>v= .bool true) (fun O w' r=>jN w') ?_);rintro O Sg v23 Sh Rn r he hw h_ rfl;clear r;conv=>whnf
     exact rtn hw fun ρe we re=>rfl
    conv=>whnf
    refine cH (cE hw (fun _ w' v w2=>v= .tuple #[.bool false,.int .i64 0]) (fun O w' r=>(iA (S:=fun g=>g<w'.heap.size) (x:=List.replicate xv.length (0:Rat)) (fun g hg=>hg) (dX.cL (hR.cJ (kS hw r hS)) fun g hg=>by have:=hS g hg;have:=r.cI;omega) Ty (cR.l (dR.list (dR.cL (hG.rel r (cG w)) fun g hg=>Rel.old r (cG w) g hg) (hG.len.trans (aU ..)▸r.kc (T:=fun g=>g<w'.heap.size) (id:=1) (sz:=4) (m:=css.length) rfl Ok (by unfold maxLen;omega) (by decide) hG.one fun hn=>(r.low 1 _ rfl hn).2)) fun q hq=>by rw[ah hq];decide) (fun q hq=>by rw[ah hq];decide)).mono fun _ _ ⟨v2,e1,e2,e3⟩=>⟨v2,e1,e2,e3.elim (fun h=>absurd EE h.1) fun h=>h.2.elim (fun g=>absurd ((aU ..).trans Oo) g.1) fun⟨_,d,k1,k2⟩=>by rw[k1];cases d with|true=>exact absurd (QU.1 (k2.1 rfl)) Wb|false=>rfl⟩) ?_);rintro O Rc v21 RK Q1 r he hw h_ rfl;clear hG;clear r;conv=>whnf
    refine cH (cE hw (fun _ w' v w2=>v= .agg #[.int .i64 (iO (cU fv) fv.cols),.int .i64 ((fv.cols:Int)-iO (cU fv) fv.cols),.int .i64 ((3*fv.nodes.length:Nat)-iO (cU fv) fv.cols)]) (fun O w' r=>lh (oS hS r) (hR.cJ (kS hw r hS)) EE Ou) ?_);rintro O S3 v22 S4 RS r he hw h_ rfl;clear r;conv=>whnf
    refine dG.mk (fun _=>?_) (fun hd=>absurd (show (3*fv.nodes.length:Nat)-(iO (cU fv) fv.cols:Int)=0 by simpa using hd) (by omega));conv=>whnf
    refine cH (cE hw (fun _ w' v w2=>v= .bool true) (fun O w' r=>jN w') ?_);rintro O Sg v23 Sh Rn r he hw h_ rfl;clear r;conv=>whnf
    exact rtn hw fun ρe we re=>rfl
   conv=>whnf
   refine cH (cE hw (fun _ w' v w2=>∃vm,v= .tuple #[vm,.int .i64 0]∧cW w2 (Nf w' w2) vm (fU fv xv)) (fun O w' r=>(ju (oS hS r) (hR.cJ (kS hw r hS)) Ty (dB.cJ hX (kS hw r hS)) RH).mono fun _ _ ⟨v2,e1,e2,e3⟩=>⟨v2,e1,e2,e3.elim (fun h=>absurd EE h.1) fun h=>h.2.elim (fun g=>absurd Oo g.1) fun g=>g.2⟩) ?_);rintro O Pg v3 Pc Oj r he hw h_ ⟨vm,rfl,hn⟩;have hM:=cW.dK (S:=FF) hn r.cI (mN h_);clear r;clear hn;obtain⟨am,cm,rfl,-,-⟩:=dA.shape hM;conv=>whnf
   refine cH (cE hw (fun _ w' v w2=>v= .tuple #[.bool false,.int .i64 0]) (fun O w' r=>(iA (oS hS r) (hR.cJ (kS hw r hS)) Ty (dB.cJ hX (kS hw r hS)) RH).mono fun _ _ ⟨v2,e1,e2,e3⟩=>⟨v2,e1,e2,e3.elim (fun h=>absurd EE h.1) fun h=>h.2.elim (fun g=>absurd Oo g.1) fun⟨_,d,k1,k2⟩=>by rw[k1];cases d with|true=>exact absurd (k2.1 rfl) Xg|false=>rfl⟩) ?_);rintro O Qh v4 Q6 Oz r he hw h_ rfl;replace hM:=cW.cK hM r (cG w) he (mC h_);clear r;conv=>whnf
   refine cH (cE hw (fun _ w' v w2=>v= .int .i64 0) (fun O w' r=>(s7 (oS hS r) (hR.cJ (kS hw r hS))).mono fun _ _ ⟨v2,e1,e2,e3⟩=>⟨v2,e1,e2,by rw[e3,EE]⟩) ?_);rintro O Rz v5 Rs QT r he hw h_ rfl;replace hM:=cW.cK hM r (cG w) he (mC h_);clear r;conv=>whnf
   refine cH (cE hw (fun _ w' v w2=>v= .int .i64 fv.cols) (fun O w' r=>jc (hR.cJ (kS hw r hS)) ⟨Ou.b,Ou.s⟩) ?_);rintro O R5 v6 RX Qr r he hw h_ rfl;replace hM:=cW.cK hM r (cG w) he (mC h_);clear r;conv=>whnf
   rw[Oo];conv=>whnf
   refine dG.mk (fun hd=>by simp at hd) (fun _=>?_);conv=>whnf
   rw[<-Oo];refine cH (cE hw (fun _ w' v w2=>cW w2 (Nf w' w2) v (fU fv xv)) (fun O w' r=>xm (oS hS r) (hR.cJ (kS hw r hS)) EE Ph (dB.cJ hX (kS hw r hS)) Oo RH) ?_);rintro O Sw v7 Sz RO r he hw h_ hn;replace hM:=cW.cK hM r (cG w) he (mC h_);have hW:=cW.dK (S:=FF) hn r.cI (mN h_);clear r;clear hn;obtain⟨aw,cw,rfl,-,-⟩:=dA.shape hW;conv=>whnf
   refine cH (cE hw (fun _ w' v w2=>v= .bool true) (fun O w' r=>(zt (S:=Cf w RO) (Rel.old r (cG w)) (cW.rel hM r (cG w)) (cW.rel hW r (cG w))).mono fun _ _ ⟨v2,e1,e2,e3⟩=>⟨v2,e1,e2,by rw[e3];exact congrArg _ (bS rfl)⟩) ?_);rintro O _ _ _ RF r he hw h_ rfl;clear hM;replace hW:=cW.cK hW r (cG w) he (mC h_);clear r;obtain⟨m,hm⟩:∃m,(fU fv xv).length=m:=⟨_,rfl⟩
   have hm12:m<=12:=by rw[<-hm,gR];omega
   have hmr:∀r∈fU fv xv,r.length=(fU fv xv).length:=fun r hr=>by rw[gR];exact pw r hr
   rw[hm]at hW ⊢;conv=>whnf
   refine dG.mk ?_ ?_<;>intro hle
   ·have hle:m<=5:=by have:=aH hle;omega
    conv=>whnf
    refine cH (cE hw (fun _ w' v w2=>v= .bool false) (fun O w' r=>(zn (S:=Cf w RF) (h:=44) (Rel.old r (cG w)) (cW.l (cW.rel hW r (cG w)) fun y hy q hq=>by have:=QO y hy q hq;omega) hmr (by omega) QO (by decide) (by rw[hm];exact aV (zq hle) (by decide))).mono fun _ _ ⟨v2,e1,e2,e3⟩=>⟨v2,e1,e2,by obtain⟨d,k1,k2,k3⟩:=e3;rw[k1];cases d with|true=>exact absurd (k2 rfl) Xg|false=>rfl⟩) ?_);rintro O _ _ _ RD r he hw h_ rfl;clear hW;clear r;conv=>whnf
    skip
    refine⟨Nat×List (List Value)×World×Iv,fun z=>⟨[(1,sV ax xv.length cx),(2,pP 0 0),(11,.o (.w 1 z.2.1.length)),(12,iN z.1)],[(1,.vec T.Rat 4 z.2.1.flatten),(0,.box T.Frame [.v (.slice an fv.nodes.length cn),.v (.slice ab fv.bars.length cb),.v (.slice aq fv.cV.length cq)])],2,z.2.2.2,z.2.2.1⟩,fun z=>xv.length-z.1,
     fun z=>z.1<=xv.length∧dg w.heap.size w z.2.2.1∧dR z.2.2.1 (Cf w z.2.2.2) z.2.1 (List.replicate z.1 0),?_,?_⟩
    ·intro O w' r;exact⟨(0,[],w',_),⟨aO _,hw.tr r.cS,dR.nil⟩,Sub.nil 11 T.Rat 4 rfl (by simp[jw,SV.sc,At.sc,fQ]) r fun ρ1 r1=>Sub.gn [] r1⟩
    clear hw;rintro⟨i,css,w9,iv⟩ ⟨hi,hw,hG⟩;dsimp only at hi hw hG ⊢;have Ok:=eD hG.four;have RT:css.length=i:=by rw[hG.len,aU]
    conv=>whnf
    refine dG.mk ?_ ?_<;>intro OW
    ·have OW:i<xv.length:=by simpa using OW
     conv=>whnf
     refine cH (cE hw (fun _ w' v w2=>cT w2 (Nf w' w2) v (((0:Int)):Rat)) (fun O w' r=>ic 0 w' (by decide)) ?_);rintro O Rc v21 RK Q1 r he hw h_ hn;replace hG:=hG.cK r (cG w) he (mC h_);have hd:=hn.dK (S:=FF) r.cI (mN h_);clear r hn;obtain⟨A0,A1,A2,A3,A4,A5,A6,A7,rfl⟩:=hd.shape;conv=>whnf
     have RE:=hG.push (cs:=[.bool A0,.slice A1 A2 A3,.bool A4,.slice A5 A6 A7]) (q:=((0:Int):Rat)) ⟨_,_,_,_,_,_,_,_,rfl,hd⟩ rfl;rw[show List.replicate i (0:Rat)++[((0:Int):Rat)]=List.replicate (i+1) 0 by rw[List.replicate_succ'];rfl]at RE;have PR:css.flatten++([.bool A0,.slice A1 A2 A3,.bool A4,.slice A5 A6 A7]:List Value)=(css++([[.bool A0,.slice A1 A2 A3,.bool A4,.slice A5 A6 A7]]:List (List Value))).flatten:=by simp
     refine .inl ?_;conv=>whnf
     refine⟨by omega,by omega,by unfold maxLen;omega,?_⟩;conv=>whnf
     refine⟨((i+1:Nat):Int),wo,?_⟩;conv=>whnf
     intro ρ3 w6 r3;exact⟨(i+1,css++[[.bool A0,.slice A1 A2 A3,.bool A4,.slice A5 A6 A7]],w6,_),⟨OW,hw.tr r3.cS,RE.rel r3 (cG w)⟩,Sub.gn [(1,3)] r3 ⟨by dsimp only;rw[<-PR];rfl,rfl,trivial⟩ ⟨rfl,rfl,by dsimp only;rw[List.length_append,List.length_singleton];rfl,rfl,trivial⟩,by dsimp only;omega⟩
    have OW:i=xv.length:=aQ hi (by simpa using OW);subst OW;have QU:=pz (x:=List.replicate xv.length (0:Rat)) hv fun i=>by rw[List.getD,List.getElem?_replicate];split<;>rfl
    have Vw:iO (cU fv) fv.cols<=3*fv.nodes.length:=by have:=(iG (cU fv) fv.cols (fe fv)).1;rw[da,fu]at this;exact this
    by_cases Wb:iO (cU fv) fv.cols=3*fv.nodes.length
    ·conv=>whnf
     refine cH (cE hw (fun _ w' v w2=>v= .tuple #[.bool true,.int .i64 0]) (fun O w' r=>(iA (S:=fun g=>g<w'.heap.size) (x:=List.replicate xv.length (0:Rat)) (fun g hg=>hg) (dX.cL (hR.cJ (kS hw r hS)) fun g hg=>by have:=hS g hg;have:=r.cI;omega) Ty (cR.l (dR.list (dR.cL (hG.rel r (cG w)) fun g hg=>Rel.old r (cG w) g hg) (hG.len.trans (aU ..)▸r.kc (T:=fun g=>g<w'.heap.size) (id:=1) (sz:=4) (m:=css.length) rfl Ok (by unfold maxLen;omega) (by decide) hG.one fun hn=>(r.low 1 _ rfl hn).2)) fun q hq=>by rw[ah hq];decide) (fun q hq=>by rw[ah hq];decide)).mono fun _ _ ⟨v2,e1,e2,e3⟩=>⟨v2,e1,e2,e3.elim (fun h=>absurd EE h.1) fun h=>h.2.elim (fun g=>absurd ((aU ..).trans Oo) g.1) fun⟨_,d,k1,k2⟩=>by rw[k1];cases d with|true=>rfl|false=>exact absurd (k2.2 (QU.2 Wb)) (by decide)⟩) ?_);rintro O Rc v21 RK Q1 r he hw h_ rfl;clear hG;clear r;conv=>whnf
     refine cH (cE hw (fun _ w' v w2=>v= .agg #[.int .i64 (iO (cU fv) fv.cols),.int .i64 ((fv.cols:Int)-iO (cU fv) fv.cols),.int .i64 0]) (fun O w' r=>(lh (oS hS r) (hR.cJ (kS hw r hS)) EE Ou).mono fun _ _ ⟨v2,e1,e2,e3⟩=>⟨v2,e1,e2,by rw[e3,show((3*fv.nodes.length:Nat):Int)-(iO (cU fv) fv.cols:Int)=0 by omega]⟩) ?_);rintro O S3 v22 S4 RS r he hw h_ rfl;clear r;conv=>whnf
     refine cH (cE hw (fun _ w' v w2=>v= .bool true) (fun O w' r=>jN w') ?_);rintro O Sg v23 Sh Rn r he hw h_ rfl;clear r;conv=>whnf
     exact rtn hw fun ρe we re=>rfl
    conv=>whnf
    refine cH (cE hw (fun _ w' v w2=>v= .tuple #[.bool false,.int .i64 0]) (fun O w' r=>(iA (S:=fun g=>g<w'.heap.size) (x:=List.replicate xv.length (0:Rat)) (fun g hg=>hg) (dX.cL (hR.cJ (kS hw r hS)) fun g hg=>by have:=hS g hg;have:=r.cI;omega) Ty (cR.l (dR.list (dR.cL (hG.rel r (cG w)) fun g hg=>Rel.old r (cG w) g hg) (hG.len.trans (aU ..)▸r.kc (T:=fun g=>g<w'.heap.size) (id:=1) (sz:=4) (m:=css.length) rfl Ok (by unfold maxLen;omega) (by decide) hG.one fun hn=>(r.low 1 _ rfl hn).2)) fun q hq=>by rw[ah hq];decide) (fun q hq=>by rw[ah hq];decide)).mono fun _ _ ⟨v2,e1,e2,e3⟩=>⟨v2,e1,e2,e3.elim (fun h=>absurd EE h.1) fun h=>h.2.elim (fun g=>absurd ((aU ..).trans Oo) g.1) fun⟨_,d,k1,k2⟩=>by rw[k1];cases d with|true=>exact absurd (QU.1 (k2.1 rfl)) Wb|false=>rfl⟩) ?_);rintro O Rc v21 RK Q1 r he hw h_ rfl;clear hG;clear r;conv=>whnf
    refine cH (cE hw (fun _ w' v w2=>v= .agg #[.int .i64 (iO (cU fv) fv.cols),.int .i64 ((fv.cols:Int)-iO (cU fv) fv.cols),.int .i64 ((3*fv.nodes.length:Nat)-iO (cU fv) fv.cols)]) (fun O w' r=>lh (oS hS r) (hR.cJ (kS hw r hS)) EE Ou) ?_);rintro O S3 v22 S4 RS r he hw h_ rfl;clear r;conv=>whnf
    refine dG.mk (fun _=>?_) (fun hd=>absurd (show (3*fv.nodes.length:Nat)-(iO (cU fv) fv.cols:Int)=0 by simpa using hd) (by omega));conv=>whnf
    refine cH (cE hw (fun _ w' v w2=>v= .bool true) (fun O w' r=>jN w') ?_);rintro O Sg v23 Sh Rn r he hw h_ rfl;clear r;conv=>whnf
    exact rtn hw fun ρe we re=>rfl
   clear hW;conv=>whnf
   refine⟨Nat×List (List Value)×World×Iv,fun z=>⟨[(1,sV ax xv.length cx),(2,pP 0 0),(11,.o (.w 1 z.2.1.length)),(12,iN z.1)],[(1,.vec T.Rat 4 z.2.1.flatten),(0,.box T.Frame [.v (.slice an fv.nodes.length cn),.v (.slice ab fv.bars.length cb),.v (.slice aq fv.cV.length cq)])],2,z.2.2.2,z.2.2.1⟩,fun z=>xv.length-z.1,
    fun z=>z.1<=xv.length∧dg w.heap.size w z.2.2.1∧dR z.2.2.1 (Cf w z.2.2.2) z.2.1 (List.replicate z.1 0),?_,?_⟩
   ·intro O w' r;exact⟨(0,[],w',_),⟨aO _,hw.tr r.cS,dR.nil⟩,Sub.nil 11 T.Rat 4 rfl (by simp[jw,SV.sc,At.sc,fQ]) r fun ρ1 r1=>Sub.gn [] r1⟩
   clear hw;rintro⟨i,css,w9,iv⟩ ⟨hi,hw,hG⟩;dsimp only at hi hw hG ⊢;have Ok:=eD hG.four;have RT:css.length=i:=by rw[hG.len,aU]
   conv=>whnf
   refine dG.mk ?_ ?_<;>intro OW
   ·have OW:i<xv.length:=by simpa using OW
    conv=>whnf
    refine cH (cE hw (fun _ w' v w2=>cT w2 (Nf w' w2) v (((0:Int)):Rat)) (fun O w' r=>ic 0 w' (by decide)) ?_);rintro O Rc v21 RK Q1 r he hw h_ hn;replace hG:=hG.cK r (cG w) he (mC h_);have hd:=hn.dK (S:=FF) r.cI (mN h_);clear r hn;obtain⟨A0,A1,A2,A3,A4,A5,A6,A7,rfl⟩:=hd.shape;conv=>whnf
    have RE:=hG.push (cs:=[.bool A0,.slice A1 A2 A3,.bool A4,.slice A5 A6 A7]) (q:=((0:Int):Rat)) ⟨_,_,_,_,_,_,_,_,rfl,hd⟩ rfl;rw[show List.replicate i (0:Rat)++[((0:Int):Rat)]=List.replicate (i+1) 0 by rw[List.replicate_succ'];rfl]at RE;have PR:css.flatten++([.bool A0,.slice A1 A2 A3,.bool A4,.slice A5 A6 A7]:List Value)=(css++([[.bool A0,.slice A1 A2 A3,.bool A4,.slice A5 A6 A7]]:List (List Value))).flatten:=by simp
    refine .inl ?_;conv=>whnf
    refine⟨by omega,by omega,by unfold maxLen;omega,?_⟩;conv=>whnf
    refine⟨((i+1:Nat):Int),wo,?_⟩;conv=>whnf
    intro ρ3 w6 r3;exact⟨(i+1,css++[[.bool A0,.slice A1 A2 A3,.bool A4,.slice A5 A6 A7]],w6,_),⟨OW,hw.tr r3.cS,RE.rel r3 (cG w)⟩,Sub.gn [(1,3)] r3 ⟨by dsimp only;rw[<-PR];rfl,rfl,trivial⟩ ⟨rfl,rfl,by dsimp only;rw[List.length_append,List.length_singleton];rfl,rfl,trivial⟩,by dsimp only;omega⟩
   have OW:i=xv.length:=aQ hi (by simpa using OW);subst OW;have QU:=pz (x:=List.replicate xv.length (0:Rat)) hv fun i=>by rw[List.getD,List.getElem?_replicate];split<;>rfl
   have Vw:iO (cU fv) fv.cols<=3*fv.nodes.length:=by have:=(iG (cU fv) fv.cols (fe fv)).1;rw[da,fu]at this;exact this
   by_cases Wb:iO (cU fv) fv.cols=3*fv.nodes.length
   ·conv=>whnf
    refine cH (cE hw (fun _ w' v w2=>v= .tuple #[.bool true,.int .i64 0]) (fun O w' r=>(iA (S:=fun g=>g<w'.heap.size) (x:=List.replicate xv.length (0:Rat)) (fun g hg=>hg) (dX.cL (hR.cJ (kS hw r hS)) fun g hg=>by have:=hS g hg;have:=r.cI;omega) Ty (cR.l (dR.list (dR.cL (hG.rel r (cG w)) fun g hg=>Rel.old r (cG w) g hg) (hG.len.trans (aU ..)▸r.kc (T:=fun g=>g<w'.heap.size) (id:=1) (sz:=4) (m:=css.length) rfl Ok (by unfold maxLen;omega) (by decide) hG.one fun hn=>(r.low 1 _ rfl hn).2)) fun q hq=>by rw[ah hq];decide) (fun q hq=>by rw[ah hq];decide)).mono fun _ _ ⟨v2,e1,e2,e3⟩=>⟨v2,e1,e2,e3.elim (fun h=>absurd EE h.1) fun h=>h.2.elim (fun g=>absurd ((aU ..).trans Oo) g.1) fun⟨_,d,k1,k2⟩=>by rw[k1];cases d with|true=>rfl|false=>exact absurd (k2.2 (QU.2 Wb)) (by decide)⟩) ?_);rintro O Rc v21 RK Q1 r he hw h_ rfl;clear hG;clear r;conv=>whnf
    refine cH (cE hw (fun _ w' v w2=>v= .agg #[.int .i64 (iO (cU fv) fv.cols),.int .i64 ((fv.cols:Int)-iO (cU fv) fv.cols),.int .i64 0]) (fun O w' r=>(lh (oS hS r) (hR.cJ (kS hw r hS)) EE Ou).mono fun _ _ ⟨v2,e1,e2,e3⟩=>⟨v2,e1,e2,by rw[e3,show((3*fv.nodes.length:Nat):Int)-(iO (cU fv) fv.cols:Int)=0 by omega]⟩) ?_);rintro O S3 v22 S4 RS r he hw h_ rfl;clear r;conv=>whnf
    refine cH (cE hw (fun _ w' v w2=>v= .bool true) (fun O w' r=>jN w') ?_);rintro O Sg v23 Sh Rn r he hw h_ rfl;clear r;conv=>whnf
    exact rtn hw fun ρe we re=>rfl
   conv=>whnf
   refine cH (cE hw (fun _ w' v w2=>v= .tuple #[.bool false,.int .i64 0]) (fun O w' r=>(iA (S:=fun g=>g<w'.heap.size) (x:=List.replicate xv.length (0:Rat)) (fun g hg=>hg) (dX.cL (hR.cJ (kS hw r hS)) fun g hg=>by have:=hS g hg;have:=r.cI;omega) Ty (cR.l (dR.list (dR.cL (hG.rel r (cG w)) fun g hg=>Rel.old r (cG w) g hg) (hG.len.trans (aU ..)▸r.kc (T:=fun g=>g<w'.heap.size) (id:=1) (sz:=4) (m:=css.length) rfl Ok (by unfold maxLen;omega) (by decide) hG.one fun hn=>(r.low 1 _ rfl hn).2)) fun q hq=>by rw[ah hq];decide) (fun q hq=>by rw[ah hq];decide)).mono fun _ _ ⟨v2,e1,e2,e3⟩=>⟨v2,e1,e2,e3.elim (fun h=>absurd EE h.1) fun h=>h.2.elim (fun g=>absurd ((aU ..).trans Oo) g.1) fun⟨_,d,k1,k2⟩=>by rw[k1];cases d with|true=>exact absurd (QU.1 (k2.1 rfl)) Wb|false=>rfl⟩) ?_);rintro O _ _ _ Q1 r he hw h_ rfl;clear hG;clear r;conv=>whnf
   refine cH (cE hw (fun _ w' v w2=>v= .agg #[.int .i64 (iO (cU fv) fv.cols),.int .i64 ((fv.cols:Int)-iO (cU fv) fv.cols),.int .i64 ((3*fv.nodes.length:Nat)-iO (cU fv) fv.cols)]) (fun O w' r=>lh (oS hS r) (hR.cJ (kS hw r hS)) EE Ou) ?_);rintro O _ _ _ RS r he hw h_ rfl;clear r;conv=>whnf
   refine dG.mk (fun _=>?_) (fun hd=>absurd (show (3*fv.nodes.length:Nat)-(iO (cU fv) fv.cols:Int)=0 by simpa using hd) (by omega));conv=>whnf
   refine cH (cE hw (fun _ w' v w2=>v= .bool true) (fun O w' r=>jN w') ?_);rintro O _ _ _ Rn r he hw h_ rfl;clear r;conv=>whnf
   exact rtn hw fun ρe we re=>rfl
  conv=>whnf
  refine cH (cE hw (fun _ w' v w2=>v= .tuple #[.slice none 0 0,.int .i64 11]) (fun O w' r=>(ju (oS hS r) (hR.cJ (kS hw r hS)) Ty (dB.cJ hX (kS hw r hS)) RH).mono fun _ _ ⟨v2,e1,e2,e3⟩=>⟨v2,e1,e2,e3.elim (fun h=>absurd EE h.1) fun h=>h.2.elim (fun g=>g.2) fun g=>absurd g.1 Oo⟩) ?_);rintro O Pg v3 Pc Oj r he hw h_ rfl;clear r;conv=>whnf
  refine cH (cE hw (fun _ w' v w2=>v= .tuple #[.bool false,.int .i64 11]) (fun O w' r=>(iA (oS hS r) (hR.cJ (kS hw r hS)) Ty (dB.cJ hX (kS hw r hS)) RH).mono fun _ _ ⟨v2,e1,e2,e3⟩=>⟨v2,e1,e2,e3.elim (fun h=>absurd EE h.1) fun h=>h.2.elim (fun g=>g.2) fun g=>absurd g.1 Oo⟩) ?_);rintro O Qh v4 Q6 Oz r he hw h_ rfl;clear r;conv=>whnf
  refine cH (cE hw (fun _ w' v w2=>v= .int .i64 0) (fun O w' r=>(s7 (oS hS r) (hR.cJ (kS hw r hS))).mono fun _ _ ⟨v2,e1,e2,e3⟩=>⟨v2,e1,e2,by rw[e3,EE]⟩) ?_);rintro O Rz v5 Rs QT r he hw h_ rfl;clear r;conv=>whnf
  refine cH (cE hw (fun _ w' v w2=>v= .int .i64 fv.cols) (fun O w' r=>jc (hR.cJ (kS hw r hS)) ⟨Ou.b,Ou.s⟩) ?_);rintro O R5 v6 RX Qr r he hw h_ rfl;clear r;conv=>whnf
  refine dG.mk (fun _=>?_) (fun hd=>absurd (by have hd:=(show (xv.length:Int)=(fv.cols:Int)from(by simpa using hd));omega) Oo);conv=>whnf
  refine cH (cE hw (fun _ w' v w2=>v= .bool true) (fun O w' r=>jN w') ?_);rintro O _ _ _ RO r he hw h_ rfl;clear r;conv=>whnf
  exact rtn hw fun ρe we re=>rfl
 conv=>whnf
 refine cH (cE hw (fun _ w' v w2=>v= .tuple #[.slice none 0 0,.int .i64 e0]) (fun O w' r=>(ju (oS hS r) (hR.cJ (kS hw r hS)) Ty (dB.cJ hX (kS hw r hS)) RH).mono fun _ _ ⟨v2,e1,e2,e3⟩=>⟨v2,e1,e2,e3.elim (fun h=>by rw[h.2,EE]) fun h=>absurd (EE.symm.trans h.1) Wq⟩) ?_);rintro O _ _ _ Oj r he hw h_ rfl;clear r;conv=>whnf
 refine cH (cE hw (fun _ w' v w2=>v= .tuple #[.bool false,.int .i64 e0]) (fun O w' r=>(iA (oS hS r) (hR.cJ (kS hw r hS)) Ty (dB.cJ hX (kS hw r hS)) RH).mono fun _ _ ⟨v2,e1,e2,e3⟩=>⟨v2,e1,e2,e3.elim (fun h=>by rw[h.2,EE]) fun h=>absurd (EE.symm.trans h.1) Wq⟩) ?_);rintro O _ _ _ Oz r he hw h_ rfl;clear r;conv=>whnf
 refine cH (cE hw (fun _ w' v w2=>v= .int .i64 e0) (fun O w' r=>(s7 (oS hS r) (hR.cJ (kS hw r hS))).mono fun _ _ ⟨v2,e1,e2,e3⟩=>⟨v2,e1,e2,by rw[e3,EE]⟩) ?_);rintro O _ _ _ QT r he hw h_ rfl;clear r;conv=>whnf
 refine dG.mk (fun hd=>absurd (by simpa using hd) Wq) (fun _=>?_);conv=>whnf
 refine dG.mk (fun _=>?_) (fun hd=>absurd (by simpa using hd) Wq);conv=>whnf
 refine dG.mk (fun _=>?_) (fun hd=>by simp at hd);conv=>whnf
 refine dG.mk (fun _=>?_) (fun hd=>by simp at hd);conv=>whnf
 refine cH (cE hw (fun _ w' v w2=>v= .bool true) (fun O w' r=>jN w') ?_);rintro O _ _ _ Qr r he hw h_ rfl;clear r;conv=>whnf
 exact rtn hw fun ρe we re=>rfl
end Go.Ex
