/- A part of the proof: texts X188 to X188. Each tells its conditions in its theorems. -/
import Derived.Test.YtkdcaknoaeicdaaGreatP14
import Derived.Test.YtkdcaknoaeicdaaGreatP15
namespace Go.Ex
open Go Go.Sx Go.Proofs
theorem Ir{f:fK}(h:df f≠0∨f.nodes.length<=4∧f.bars.length<=6)(h0:df f=0):s6 f:=⟨Fm h0,(h.resolve_left fun e=>e h0).1,(h.resolve_left fun e=>e h0).2⟩
theorem CG{M:List (List Rat)}{n:Nat}(hM:fk n M):((fq M n).length:Int)=(n:Int)-kI M n:=by
 have h1:=wi hM;have h2:=(jW M n hM).2;show _=(n:Int)-((cJ M n).2.length:Int)
 omega
theorem CH(p0 p1 p2:Int)(w:World)(o1 o2:Operand):(do eqGuard .eql T.nM o1 o2 (xn p0 p1 p2) (xn p0 p1 p2);binOp .eql T.nM (xn p0 p1 p2) (xn p0 p1 p2)).run PG w= .ok (.bool true) w:=by
 rw[Dl];simp
set_option maxHeartbeats 1000000 in
set_option maxRecDepth 8000 in
theorem vA{S:Nat->Prop}{w:World}{vn vb vs v:Value}{f:DB}{l:List Ld}(hS:Old S w)(hF:oF w S vn vb vs f)(hl:ix w S v l):
  dh PG N.j0 #[.agg #[vn,vb,vs],v] w (dw w fun v' _=>v'= .bool true):=by
 have hw:cN w.heap.size w w:=cN.refl;obtain⟨an,cn,rfl,-,-⟩:=hF.nodes.shape;obtain⟨ab,cb,rfl,-,-⟩:=hF.bars.shape;obtain⟨aq,cq,rfl,-,-⟩:=hF.cO.shape;obtain⟨al,cl,rfl,-,-⟩:=hl.shape;refine mH (by simp) ?_;conv=>whnf
 refine bz (cE hw (Φ:=fun _ w' v w2=>∃d,v= .bool d∧(d=true->dT w S (.slice an f.nodes.length cn) (.slice ab f.bars.length cb) (.slice aq f.cO.length cq) f.val∧(∀b∈f.val.bars,rl b.2.2<=3)∧(∀b∈f.val.cO,rl b.2.2<=3)∧(df f.val≠0∨f.val.nodes.length<=4∧f.val.bars.length<=6))) (fun ρ w' r=>Ej hS hw r hF) ?_);rintro ρ wa1 v1 wb1 iv1 r he hw h_ ⟨d1,rfl,hz1⟩;clear r
 cases d1
 ·conv=>whnf
  refine bz (cE hw (Φ:=fun _ w' v w2=>v= .bool true) (fun ρ w' r=>sE w') ?_);rintro ρ wa2 v2 wb2 iv2 r he hw h_ rfl;clear r;conv=>whnf
  intro ρe we re;exact⟨_,rfl,hw.tr re.cC,rfl⟩
 have hz1:=hz1 rfl;conv=>whnf
 refine bz (cE hw (Φ:=fun _ w' v w2=>∃d,v= .bool d) (fun ρ w' r=>Iq (hl.cD fun g hg=>(hw.tr r.cC).block g (hS g hg))) ?_);rintro ρ wa2 v2 wb2 iv2 r he hw h_ ⟨d2,rfl⟩;clear r
 cases d2
 ·conv=>whnf
  refine bz (cE hw (Φ:=fun _ w' v w2=>v= .bool true) (fun ρ w' r=>sE w') ?_);rintro ρ wa3 v3 wb3 iv3 r he hw h_ rfl;clear r;conv=>whnf
  intro ρe we re;exact⟨_,rfl,hw.tr re.cC,rfl⟩
 obtain⟨hR,hrb,hrs,hsm⟩:=hz1;obtain⟨fv,hfv⟩:∃fv,f.val=fv:=⟨_,rfl⟩
 rw[hfv]at hR hrb hrs hsm;obtain⟨en,eb,es⟩:f.nodes.length=fv.nodes.length∧f.bars.length=fv.bars.length∧f.cO.length=fv.cO.length:=by rw[<-hfv];exact⟨rfl,(aM ..).symm,(aM ..).symm⟩
 rw[en,eb,es]at hR ⊢;clear hF hfv en eb es;obtain⟨e0,EE⟩:∃e,df fv=e:=⟨_,rfl⟩
 have hsf:df fv=0->s6 fv:=Ir hsm;by_cases he0:e0=0
 ·conv=>whnf
  refine bz (cE hw (Φ:=fun _ w' v w2=>∃vz,v= .tuple #[vz,.int .i64 0]∧iK w2 (Nw (fun _=>False) w' w2) vz (fN fv)) (fun ρ w' r=>(xw (fun g hg=>by have:=hS g hg;have:=r.bu;omega) (hR.cD fun g hg=>(hw.tr r.cC).block g (hS g hg)) hsf).mono fun _ _ ⟨v2,e1,e2,e3⟩=>⟨v2,e1,e2,e3.elim (fun h=>absurd (EE.trans he0) h.1) fun h=>h.2⟩) ?_);rintro ρ wa3 v3 wb3 iv3 r he hw h_ ⟨qhm,rfl,hn⟩;have hm:=iK.cw (S:=fun _=>False) hn r.bu (mN h_);clear r;clear hn;obtain⟨ahm,chm,rfl,-,-⟩:=cT.shape hm;conv=>whnf
  refine bz (cE hw (Φ:=fun _ w' v w2=>v= .tuple #[.agg #[.int .i64 (kI (dD fv) fv.cols),.int .i64 ((fv.cols:Int)-kI (dD fv) fv.cols),.int .i64 ((3*fv.nodes.length:Nat)-kI (dD fv) fv.cols)],.int .i64 0]) (fun ρ w' r=>(z7 (fun g hg=>by have:=hS g hg;have:=r.bu;omega) (hR.cD fun g hg=>(hw.tr r.cC).block g (hS g hg)) hsf).mono fun _ _ ⟨v2,e1,e2,e3⟩=>⟨v2,e1,e2,e3.elim (fun h=>absurd (EE.trans he0) h.1) fun h=>h.2⟩) ?_);rintro ρ wa4 v4 wb4 iv4 r he hw h_ rfl;replace hm:=iK.cB hm r (bs w) he (mC h_);clear r;conv=>whnf
  refine bz (cE hw (Φ:=fun _ w' v w2=>∃vz,v= .tuple #[vz,.int .i64 0]∧cI w2 (Nw (fun _=>False) w' w2) vz (fq (dD fv) fv.cols)) (fun ρ w' r=>(uI (fun g hg=>by have:=hS g hg;have:=r.bu;omega) (hR.cD fun g hg=>(hw.tr r.cC).block g (hS g hg)) hsf).mono fun _ _ ⟨v2,e1,e2,e3⟩=>⟨v2,e1,e2,e3.elim (fun h=>absurd (EE.trans he0) h.1) fun h=>h.2⟩) ?_);rintro ρ wa5 v5 wb5 iv5 r he hw h_ ⟨qhs,rfl,hn⟩;replace hm:=iK.cB hm r (bs w) he (mC h_);have hs:=cI.cw (S:=fun _=>False) hn r.bu (mN h_);clear r;clear hn;obtain⟨ahs,chs,rfl,-,-⟩:=cT.shape hs;conv=>whnf
  refine bz (cE hw (Φ:=fun _ w' v w2=>∃vz,v= .tuple #[vz,.int .i64 0]∧cI w2 (Nw (fun _=>False) w' w2) vz (fq (dW (dD fv) fv.cols) (dD fv).length)) (fun ρ w' r=>(xx (fun g hg=>by have:=hS g hg;have:=r.bu;omega) (hR.cD fun g hg=>(hw.tr r.cC).block g (hS g hg)) hsf).mono fun _ _ ⟨v2,e1,e2,e3⟩=>⟨v2,e1,e2,e3.elim (fun h=>absurd (EE.trans he0) h.1) fun h=>h.2⟩) ?_);rintro ρ wa6 v6 wb6 iv6 r he hw h_ ⟨qhu,rfl,hn⟩;replace hm:=iK.cB hm r (bs w) he (mC h_);replace hs:=cI.cB hs r (bs w) he (mC h_);have hu:=cI.cw (S:=fun _=>False) hn r.bu (mN h_);clear r;clear hn;obtain⟨ahu,chu,rfl,-,-⟩:=cT.shape hu;conv=>whnf
  refine bz (cE hw (Φ:=fun _ w' v w2=>v= .int .i64 0) (fun ρ w' r=>(sG (fun g hg=>by have:=hS g hg;have:=r.bu;omega) (hR.cD fun g hg=>(hw.tr r.cC).block g (hS g hg))).mono fun _ _ ⟨v2,e1,e2,e3⟩=>⟨v2,e1,e2,by rw[e3,EE,he0]⟩) ?_);rintro ρ wa7 v7 wb7 iv7 r he hw h_ rfl;replace hm:=iK.cB hm r (bs w) he (mC h_);replace hs:=cI.cB hs r (bs w) he (mC h_);replace hu:=cI.cB hu r (bs w) he (mC h_);clear r;conv=>whnf
  refine cF hτ dV [.x 0,.x 2,.x 1,.x 3,.x 4,.x 5,.x 6,.x 8,.x 9,.x 7,.x 10,.x 11,.x 12,.x 13,.x 14,.x 15,.x 16,.x 17,.x 18,.x 19,.x 20,.x 21,.x 22,.x 23,.x 24,.x 25,.x 26,.x 27,.x 28,.x 29,.x 30,.x 31,.x 32] (by kernel_rfl) (by kernel_rfl) ?_;conv=>whnf
  refine cE hw (Φ:=fun _ w' v w2=>v= .int .i64 0) (fun ρ w' r=>(jV (fun g hg=>by have:=hS g hg;have:=r.bu;omega) (hR.cD fun g hg=>(hw.tr r.cC).block g (hS g hg))).mono fun _ _ ⟨v2,e1,e2,e3⟩=>⟨v2,e1,e2,by rw[e3,EE,he0]⟩) ?_;rintro ρ wa8 v8 wb8 iv8 r he hw h_ rfl;replace hm:=iK.cB hm r (bs w) he (mC h_);replace hs:=cI.cB hs r (bs w) he (mC h_);replace hu:=cI.cB hu r (bs w) he (mC h_);clear r;conv=>whnf
  obtain⟨e5,EL⟩:∃e,lX fv l=e:=⟨_,rfl⟩
  refine cE hw (Φ:=fun _ w' v w2=>v= .int .i64 e5) (fun ρ w' r=>(iy (fun g hg=>by have:=hS g hg;have:=r.bu;omega) (hR.cD fun g hg=>(hw.tr r.cC).block g (hS g hg)) (hl.cD fun g hg=>(hw.tr r.cC).block g (hS g hg))).mono fun _ _ ⟨v2,e1,e2,e3⟩=>⟨v2,e1,e2,by rw[e3,EL]⟩) ?_;rintro ρ wa9 v9 wb9 iv9 r he hw h_ rfl;replace hm:=iK.cB hm r (bs w) he (mC h_);replace hs:=cI.cB hs r (bs w) he (mC h_);replace hu:=cI.cB hu r (bs w) he (mC h_);clear r;conv=>whnf
  refine cE hw (Φ:=fun _ w' v w2=>v= .int .i64 e5) (fun ρ w' r=>(sJ (fun g hg=>by have:=hS g hg;have:=r.bu;omega) (hR.cD fun g hg=>(hw.tr r.cC).block g (hS g hg)) (hl.cD fun g hg=>(hw.tr r.cC).block g (hS g hg))).mono fun _ _ ⟨v2,e1,e2,e3⟩=>⟨v2,e1,e2,by rw[e3,EL]⟩) ?_;rintro ρ wa10 v10 wb10 iv10 r he hw h_ rfl;replace hm:=iK.cB hm r (bs w) he (mC h_);replace hs:=cI.cB hs r (bs w) he (mC h_);replace hu:=cI.cB hu r (bs w) he (mC h_);clear r;conv=>whnf
  refine dE.mk (fun hd=>by simp at hd) (fun _=>?_);conv=>whnf
  refine cF hτ dV [.x 0,.x 1,.x 2,.x 3,.x 4,.x 5,.x 6,.x 7,.x 8,.x 9,.x 10,.x 11,.x 12,.x 13,.x 14,.x 15,.x 16,.x 17,.x 18,.x 19,.x 20,.x 21,.x 22,.x 23,.x 24,.x 25,.x 26,.x 27,.x 28,.x 29,.x 30,.x 31,.x 32,.x 33,.x 34,.x 35,.x 36,.x 37,.x 38,.x 39] (by kernel_rfl) (by kernel_rfl) ?_;conv=>whnf
  have hfs:=hsf (EE.trans he0);have herr:=EE.trans he0;refine cE hw (Φ:=fun _ w' v w2=>iK w2 (Nw (fun _=>False) w' w2) v (fN fv)∧Ar (fN fv) 2000000) (fun ρ w' r=>o0 (fun g hg=>by have:=hS g hg;have:=r.bu;omega) (hR.cD fun g hg=>(hw.tr r.cC).block g (hS g hg)) herr) ?_;rintro ρ wa11 v11 wb11 iv11 r he hw h_ ⟨hn,-⟩;replace hm:=iK.cB hm r (bs w) he (mC h_);replace hs:=cI.cB hs r (bs w) he (mC h_);replace hu:=cI.cB hu r (bs w) he (mC h_);have hm2:=iK.cw (S:=fun _=>False) hn r.bu (mN h_);clear r;clear hn;obtain⟨am2,cm2,rfl,-,-⟩:=cT.shape hm2;conv=>whnf
  refine cE hw (Φ:=fun _ w' v w2=>v= .bool true) (fun ρ w' r=>G6 (Rel.old r (bs w)) (iK.rel hm r (bs w)) (iK.rel hm2 r (bs w))) ?_;rintro ρ wa12 v12 wb12 iv12 r he hw h_ rfl;clear hm;replace hs:=cI.cB hs r (bs w) he (mC h_);replace hu:=cI.cB hu r (bs w) he (mC h_);clear hm2;clear r;conv=>whnf
  refine cE hw (Φ:=fun _ w' v w2=>v= .agg #[.int .i64 (kI (dD fv) fv.cols),.int .i64 ((fv.cols:Int)-kI (dD fv) fv.cols),.int .i64 ((3*fv.nodes.length:Nat)-kI (dD fv) fv.cols)]) (fun ρ w' r=>G5 (fun g hg=>by have:=hS g hg;have:=r.bu;omega) (hR.cD fun g hg=>(hw.tr r.cC).block g (hS g hg)) herr hfs) ?_;rintro ρ wa13 v13 wb13 iv13 r he hw h_ rfl;replace hs:=cI.cB hs r (bs w) he (mC h_);replace hu:=cI.cB hu r (bs w) he (mC h_);clear r;conv=>whnf
  refine⟨true,fun ρ w o1 o2=>CH _ _ _ w o1 o2,?_⟩;conv=>whnf
  refine cE hw (Φ:=fun _ w' v w2=>cI w2 (Nw (fun _=>False) w' w2) v (fq (dD fv) fv.cols)) (fun ρ w' r=>CF (fun g hg=>by have:=hS g hg;have:=r.bu;omega) (hR.cD fun g hg=>(hw.tr r.cC).block g (hS g hg)) herr hfs) ?_;rintro ρ wa14 v14 wb14 iv14 r he hw h_ hn;replace hs:=cI.cB hs r (bs w) he (mC h_);replace hu:=cI.cB hu r (bs w) he (mC h_);have hs2:=cI.cw (S:=fun _=>False) hn r.bu (mN h_);clear r;clear hn;obtain⟨ahs2,chs2,rfl,-,-⟩:=cT.shape hs2;conv=>whnf
  refine cE hw (Φ:=fun _ w' v w2=>v= .bool true) (fun ρ w' r=>(uJ (Rel.old r (bs w)) (cI.rel hs r (bs w)) (cI.rel hs2 r (bs w))).mono fun _ _ ⟨v2,e1,e2,e3⟩=>⟨v2,e1,e2,by rw[e3];exact congrArg _ (bJ rfl)⟩) ?_;rintro ρ wa15 v15 wb15 iv15 r he hw h_ rfl;replace hs:=cI.cB hs r (bs w) he (mC h_);replace hu:=cI.cB hu r (bs w) he (mC h_);clear hs2;clear r;conv=>whnf
  refine cE hw (Φ:=fun _ w' v w2=>cI w2 (Nw (fun _=>False) w' w2) v (fq (dW (dD fv) fv.cols) (dD fv).length)) (fun ρ w' r=>DJ (fun g hg=>by have:=hS g hg;have:=r.bu;omega) (hR.cD fun g hg=>(hw.tr r.cC).block g (hS g hg)) herr hfs) ?_;rintro ρ wa16 v16 wb16 iv16 r he hw h_ hn;replace hs:=cI.cB hs r (bs w) he (mC h_);replace hu:=cI.cB hu r (bs w) he (mC h_);have hu2:=cI.cw (S:=fun _=>False) hn r.bu (mN h_);clear r;clear hn;obtain⟨ahu2,chu2,rfl,-,-⟩:=cT.shape hu2;conv=>whnf
  refine cE hw (Φ:=fun _ w' v w2=>v= .bool true) (fun ρ w' r=>(uJ (Rel.old r (bs w)) (cI.rel hu r (bs w)) (cI.rel hu2 r (bs w))).mono fun _ _ ⟨v2,e1,e2,e3⟩=>⟨v2,e1,e2,by rw[e3];exact congrArg _ (bJ rfl)⟩) ?_;rintro ρ wa17 v17 wb17 iv17 r he hw h_ rfl;replace hs:=cI.cB hs r (bs w) he (mC h_);replace hu:=cI.cB hu r (bs w) he (mC h_);clear hu2;clear r;conv=>whnf
  have hk1:=CG (oV fv);have hk2:=CG (gw (dD fv) fv.cols);rw[Ca (oV fv),jF]at hk2;refine dE.mk (fun _=>?_) (fun hd=>absurd hk1 (by simpa using hd));conv=>whnf
  refine dE.mk (fun _=>?_) (fun hd=>absurd hk2 (by rw[jF]at hd;simpa using hd));conv=>whnf
  refine cE hw (Φ:=fun _ w' v w2=>v= .bool true) (fun ρ w' r=>sE w') ?_;rintro ρ wa18 v18 wb18 iv18 r he hw h_ rfl;replace hs:=cI.cB hs r (bs w) he (mC h_);replace hu:=cI.cB hu r (bs w) he (mC h_);clear r;conv=>whnf
  intro ρe we re;exact⟨_,rfl,hw.tr re.cC,rfl⟩
 conv=>whnf
 refine bz (cE hw (Φ:=fun _ w' v w2=>v= .tuple #[.slice none 0 0,.int .i64 e0]) (fun ρ w' r=>(xw (fun g hg=>by have:=hS g hg;have:=r.bu;omega) (hR.cD fun g hg=>(hw.tr r.cC).block g (hS g hg)) hsf).mono fun _ _ ⟨v2,e1,e2,e3⟩=>⟨v2,e1,e2,e3.elim (fun h=>by rw[h.2,EE]) fun h=>absurd (EE.symm.trans h.1) he0⟩) ?_);rintro ρ wa3 v3 wb3 iv3 r he hw h_ rfl;clear r;conv=>whnf
 refine bz (cE hw (Φ:=fun _ w' v w2=>v= .tuple #[.agg #[.int .i64 0,.int .i64 0,.int .i64 0],.int .i64 e0]) (fun ρ w' r=>(z7 (fun g hg=>by have:=hS g hg;have:=r.bu;omega) (hR.cD fun g hg=>(hw.tr r.cC).block g (hS g hg)) hsf).mono fun _ _ ⟨v2,e1,e2,e3⟩=>⟨v2,e1,e2,e3.elim (fun h=>by rw[h.2,EE]) fun h=>absurd (EE.symm.trans h.1) he0⟩) ?_);rintro ρ wa4 v4 wb4 iv4 r he hw h_ rfl;clear r;conv=>whnf
 refine bz (cE hw (Φ:=fun _ w' v w2=>v= .tuple #[.slice none 0 0,.int .i64 e0]) (fun ρ w' r=>(uI (fun g hg=>by have:=hS g hg;have:=r.bu;omega) (hR.cD fun g hg=>(hw.tr r.cC).block g (hS g hg)) hsf).mono fun _ _ ⟨v2,e1,e2,e3⟩=>⟨v2,e1,e2,e3.elim (fun h=>by rw[h.2,EE]) fun h=>absurd (EE.symm.trans h.1) he0⟩) ?_);rintro ρ wa5 v5 wb5 iv5 r he hw h_ rfl;clear r;conv=>whnf
 refine bz (cE hw (Φ:=fun _ w' v w2=>v= .tuple #[.slice none 0 0,.int .i64 e0]) (fun ρ w' r=>(xx (fun g hg=>by have:=hS g hg;have:=r.bu;omega) (hR.cD fun g hg=>(hw.tr r.cC).block g (hS g hg)) hsf).mono fun _ _ ⟨v2,e1,e2,e3⟩=>⟨v2,e1,e2,e3.elim (fun h=>by rw[h.2,EE]) fun h=>absurd (EE.symm.trans h.1) he0⟩) ?_);rintro ρ wa6 v6 wb6 iv6 r he hw h_ rfl;clear r;conv=>whnf
 refine bz (cE hw (Φ:=fun _ w' v w2=>v= .int .i64 e0) (fun ρ w' r=>(sG (fun g hg=>by have:=hS g hg;have:=r.bu;omega) (hR.cD fun g hg=>(hw.tr r.cC).block g (hS g hg))).mono fun _ _ ⟨v2,e1,e2,e3⟩=>⟨v2,e1,e2,by rw[e3,EE]⟩) ?_);rintro ρ wa7 v7 wb7 iv7 r he hw h_ rfl;clear r;conv=>whnf
 refine cF hτ dV [.x 0,.x 2,.x 1,.x 3,.x 4,.x 5,.x 6,.x 8,.x 9,.x 7,.x 10,.x 11,.x 12,.x 13,.x 14,.x 15,.x 16,.x 17,.x 18,.x 19,.x 20,.x 21,.x 22,.x 23,.x 24,.x 25,.x 26,.x 27,.x 28,.x 29,.x 30,.x 31,.x 32] (by kernel_rfl) (by kernel_rfl) ?_;conv=>whnf
 refine cE hw (Φ:=fun _ w' v w2=>v= .int .i64 e0) (fun ρ w' r=>(jV (fun g hg=>by have:=hS g hg;have:=r.bu;omega) (hR.cD fun g hg=>(hw.tr r.cC).block g (hS g hg))).mono fun _ _ ⟨v2,e1,e2,e3⟩=>⟨v2,e1,e2,by rw[e3,EE]⟩) ?_;rintro ρ wa8 v8 wb8 iv8 r he hw h_ rfl;clear r;conv=>whnf
 refine dE.mk (fun hd=>by simp at hd) (fun _=>?_);conv=>whnf
 obtain⟨e5,EL⟩:∃e,lX fv l=e:=⟨_,rfl⟩
 refine cE hw (Φ:=fun _ w' v w2=>v= .int .i64 e5) (fun ρ w' r=>(iy (fun g hg=>by have:=hS g hg;have:=r.bu;omega) (hR.cD fun g hg=>(hw.tr r.cC).block g (hS g hg)) (hl.cD fun g hg=>(hw.tr r.cC).block g (hS g hg))).mono fun _ _ ⟨v2,e1,e2,e3⟩=>⟨v2,e1,e2,by rw[e3,EL]⟩) ?_;rintro ρ wa9 v9 wb9 iv9 r he hw h_ rfl;clear r;conv=>whnf
 refine cE hw (Φ:=fun _ w' v w2=>v= .int .i64 e5) (fun ρ w' r=>(sJ (fun g hg=>by have:=hS g hg;have:=r.bu;omega) (hR.cD fun g hg=>(hw.tr r.cC).block g (hS g hg)) (hl.cD fun g hg=>(hw.tr r.cC).block g (hS g hg))).mono fun _ _ ⟨v2,e1,e2,e3⟩=>⟨v2,e1,e2,by rw[e3,EL]⟩) ?_;rintro ρ wa10 v10 wb10 iv10 r he hw h_ rfl;clear r;conv=>whnf
 refine dE.mk (fun hd=>by simp at hd) (fun _=>?_);conv=>whnf
 refine dE.mk (fun hd=>by simp at hd) (fun _=>?_);conv=>whnf
 refine dE.mk (fun hd=>by simp at hd) (fun _=>?_);conv=>whnf
 refine dE.mk (fun hd=>by simp at hd) (fun _=>?_);conv=>whnf
 refine dE.mk (fun hd=>by simp at hd) (fun _=>?_);conv=>whnf
 refine dE.mk (fun _=>?_) (fun hd=>absurd (by simpa using hd) he0);conv=>whnf
 refine⟨true,fun ρ w o1 o2=>CH _ _ _ w o1 o2,?_⟩;conv=>whnf
 refine⟨0,by decide,?_⟩;conv=>whnf
 refine⟨0,by decide,?_⟩;conv=>whnf
 refine bz (cE hw (Φ:=fun _ w' v w2=>v= .bool true) (fun ρ w' r=>sE w') ?_);rintro ρ wa11 v11 wb11 iv11 r he hw h_ rfl;clear r;conv=>whnf
 intro ρe we re;exact⟨_,rfl,hw.tr re.cC,rfl⟩
end Go.Ex
