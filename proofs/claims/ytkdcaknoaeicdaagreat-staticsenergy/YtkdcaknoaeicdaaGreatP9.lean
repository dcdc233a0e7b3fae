/- A part of the proof: texts X177 to XTq. Each tells its conditions in its theorems. -/
import Derived.Test.YtkdcaknoaeicdaaGreatP7
import Derived.Test.YtkdcaknoaeicdaaGreatP8
namespace Go.Ex
open Go Go.Sx Go.Proofs
variable{K M:List (List Rat)}{qs xs ys:List Rat}{cs:List Value}{h:Nat}{C S:Nat->Prop}{a:Option Addr}{p q:Rat}{u v:Value}{w:World}
theorem Dm{a c i k:Nat}(h:i<k):(dX M a c k)[i]? =(dX M a c (i+1))[i]? :=by
 simp only[dX,List.getElem?_mapIdx]
 have:(i<k∧i≠a)↔(i<i+1∧i≠a):=by omega
 simp[this,h]
theorem Dn{n cols:Nat}(hS:Old S w)(hm:eD w S v M)(hlen:fe n M)(hn:n<=1000)(hR:M.length<=1000)(hcols:cols<=n)(hB:∀c,c<=cols->Ht (cN M c).1 h)(hh:3*h<=90000):
  dm PG N.qj #[v,.int .i64 cols] w (eB w fun v' w2=>∃vm vp,v'= .tuple #[vm,vp]∧eD w2 (Nw S w w2) vm (cN M cols).1∧dF w2 (Nf w w2) vp (cN M cols).2):=by
 have hw:cV w.heap.size w w:=cV.refl;replace hm:=eD.arg hm [];obtain⟨rv0,⟨hm0,hl0,h1,am,cm,rfl,hcm,hcell⟩,hl,hrows⟩:=hm;unfold maxLen at hm0;have hRV:ky w (Cv S w.heap.size []) rv0 M:=⟨hl,h1,hrows⟩
 refine uY (by simp) ?_;refine .inl ?_;refine⟨rv0,hl0,h1,fun O w' r hpos=>?_,?_⟩
 ·obtain⟨u0,hu0⟩:∃u,rv0[0]? =some u:=⟨_,aB (by omega)⟩
  obtain⟨ad,ha,_,_⟩:=hcell 0 u0 hu0;refine⟨ad,ha,fun j u hj=>?_⟩;obtain⟨ad2,ha2,q1,q2⟩:=hcell j u hj;rw[ha]at ha2;injection ha2 with ha2;subst ha2;rw[cH (w:=w) (w2:=w') (by rw[dQ];exact Rel.same r hS q1)];exact q2
 refine⟨rfl,by omega,by unfold maxLen;omega,?_⟩;rw[aV M.length]
 refine⟨Nat×List Value×List (List Rat)×List Nat×World×Iv,fun z=>⟨[(1,.o (.v (.int .i64 cols))),(6,.o (.w 0 M.length)),(7,.o (.w 1 z.2.2.2.1.length)),(8,.o (.v (.int .i64 ((z.1:Nat):Int))))],[(1,.vec T.int 1 (z.2.2.2.1.map fun c:Nat=>.int .i64 (c:Int))),(0,.vec T.gO 1 z.2.1)],2,z.2.2.2.2.2,z.2.2.2.2.1⟩,fun z=>cols-z.1,
  fun z=>z.1<=cols∧(z.2.2.1,z.2.2.2.1)=(List.range z.1).foldl dW (M,[])∧fe n z.2.2.1∧(z.2.2.1.length=M.length∧z.2.2.2.1.length<=M.length)∧cV w.heap.size w z.2.2.2.2.1∧ky z.2.2.2.2.1 (Cv S w.heap.size z.2.2.2.2.2) z.2.1 z.2.2.1,?_,?_⟩
 ·intro O w' r
  exact⟨(0,rv0,M,[],w',[]),⟨aP _,rfl,hlen,⟨rfl,aP _⟩,hw.tr r.cM,hRV.rel r hS⟩,Sub.nil 7 T.int 1 rfl (by simp[jn,SV.sc,At.sc,fW]) r fun ρ1 r1=>
   Sub.gn [(0,1),(1,2)] r1⟩
 rintro⟨c,rv,M1,pv,w1,iv⟩ ⟨hc,hfold,hLen,hInv,hw,hRV⟩;dsimp only at hc hfold hLen hInv hw hRV ⊢;obtain⟨hI1,hI2⟩:=hInv;have hI4:Ht M1 h:=by
  have h5:=hB c hc;rw[show cN M c=(M1,pv)from hfold.symm]at h5;exact h5
 have hrl:rv.length=M.length:=by rw[hRV.1,hI1]
 refine dI.mk (fun hib=>?_) (fun hib=>?_)
 ·have hib:c<cols:=by simpa using hib
  refine⟨by simp,Nat×World×Iv,fun z=>⟨[(1,.o (.v (.int .i64 cols))),(6,.o (.w 0 M.length)),(7,.o (.w 1 pv.length)),(8,.o (.v (.int .i64 ((c:Nat):Int)))),(9,.o (.v (.int .i64 ((pv.length:Nat):Int)))),(10,.o (.v (.int .i64 ((z.1:Nat):Int))))],[(1,.vec T.int 1 (pv.map fun c:Nat=>.int .i64 (c:Int))),(0,.vec T.gO 1 rv)],2,z.2.2,z.2.1⟩,fun z=>M.length-z.1,
   fun z=>pv.length<=z.1∧z.1<=M.length∧(∀j,pv.length<=j->j<z.1->dG M1 j c=0)∧cV w.heap.size w z.2.1∧ky z.2.1 (Cv S w.heap.size z.2.2) rv M1,?_,?_⟩
  ·intro O w' r;exact⟨(pv.length,w',iv),⟨aG _,hI2,fun j h3 h4=>by dsimp only at h4;omega,hw.tr r.cM,hRV.rel r hS⟩,Sub.gn [] r⟩
  rintro⟨k,w2,iv⟩ ⟨hk0,hk1,hkz,hw,hRV⟩;dsimp only at hk0 hk1 hkz hw hRV ⊢;have hRl:=hRV.1;refine⟨by rw[hrl,aV,aU],?_⟩;refine dI.mk (fun hkb=>?_) (fun hkb=>?_)
  ·have hkb:k<M.length:=by have:=aI hkb;omega
   obtain⟨u,x,hu,hx,hux⟩:=hRV.get (i:=k) (by omega);have hxl:=hLen x (aD hx);obtain⟨y,hy⟩:∃y,x[c]? =some y:=⟨_,aB (by omega)⟩
   have hat:dG M1 k c=y:=by simp[dG,List.getD,hx,hy]
   obtain⟨au,cu,rfl,hcu,-⟩:=dL.shape hux;obtain⟨ad,cs,had,hF,_,hlc⟩:=dL.load hux hy;obtain⟨p0,p1,p2,p3,p4,p5,p6,p7,rfl,hF⟩:=hF;refine⟨by simp[hrl],by omega,.slice au x.length cu,by simpa using hu,ad,had,by omega,[.bool p0,.slice p1 p2 p3,.bool p4,.slice p5 p6 p7],rfl,fun O w' r i x hx=>?_,?_⟩
   ·obtain⟨k1,k2⟩:=hlc i x hx;rw[aF,cH (w:=w2) (w2:=w') (by rw[dQ,dQ];exact Rel.same r hS k1)];exact k2
   refine cC (cE hw (fun _ w' v w2=>v= .int .i64 (rs y)) (fun O w' r=>ni (Rel.old r hS) (hF.rel r hS)) ?_);rintro O wa1 v1 wb1 iv1 r he hw h_ rfl;replace hRV:=hRV.cF r hS he (mC h_);refine dI.mk (fun hs=>?_) (fun hs=>?_)
   ·have hs:y=0:=nX.1 (by simpa using hs);refine⟨((k+1:Nat):Int),wo,?_⟩;intro ρ3 w3 r3
    exact⟨(k+1,w3,_),⟨by dsimp only;omega,hkb,fun j h3 h4=>by
      by_cases hj:j=k
      ·rw[hj,hat,hs]
      ·exact hkz j h3 (by dsimp only at h4;omega),hw.tr r3.cM,hRV.rel r3 hS⟩,Sub.gn [] r3,by dsimp only;omega⟩
   have hs:y≠0:=fun e=>by rw[e]at hs;exact absurd hs (by decide)
   refine⟨by rw[hrl,aV,aU],?_⟩;refine dI.mk (fun hge=>absurd (aI hge) (by omega)) (fun _=>?_);obtain⟨uk,xk,huk,hxk,huxk⟩:=hRV.get (i:=k) (by omega);obtain⟨ur,xr,hur,hxr,huxr⟩:=hRV.get (i:=pv.length) (by omega);have hukc:=hRV.2.1 uk (aD huk);have hurc:=hRV.2.1 ur (aD hur);obtain⟨aur,cur,rfl,-,-⟩:=dL.shape huxr;obtain⟨auk,cuk,rfl,-,-⟩:=dL.shape huxk;have hsw:fC [] M1 pv.length k=(M1.set pv.length xk).set k xr:=by simp[fC,List.getD,hxk,hxr]
   have hMr:pv.length<M.length:=by omega
   have hne:dG M1 k c≠0:=by rw[hat];exact hs
   have hstep:=xf (s:=(M1,pv)) (c:=c) (k:=k) hk0 (by show k<M1.length;omega) hkz hne;dsimp only at hstep;have hHt2:=hI4.swap (i:=pv.length) (j:=k) (by omega) (by omega);have hat2:=Cu (M:=M1) (i:=pv.length) (j:=k) (c:=c) (by omega) (by omega);have hc1:Ht (dX (scaled (fC [] M1 pv.length k) pv.length c) pv.length c M.length) h:=by
    have h5:=hB (c+1) hib;rw[show cN M (c+1)=dW (M1,pv) c by unfold cN;rw[bN,List.foldl_append,<-hfold];rfl,hstep,hI1]at h5;exact h5
   have hHt3:(∀r,(scaled (fC [] M1 pv.length k) pv.length c)[pv.length]? =some r->∀q∈r,rl q+1<=h)∧∀j r,j≠pv.length->(scaled (fC [] M1 pv.length k) pv.length c)[j]? =some r->∀q∈r,rl q+1<=h:=
    ⟨fun r hr=>hc1 r (aD (i:=pv.length) (by rw[rJ];exact hr)),fun j r hj hr=>hHt2 r (aD (i:=j) (by unfold Go.Ex.scaled at hr;rwa [bA (Ne.symm hj)]at hr))⟩
   have hRV2:=(hRV.set (i:=pv.length) hukc huxk).set (i:=k) hurc huxr;rw[<-hsw]at hRV2;have hLen2:fe n (fC [] M1 pv.length k):=by
    rw[hsw];exact(hLen.set (hLen xk (aD hxk))).set (hLen xr (aD hxr))
   have hl2:(fC [] M1 pv.length k).length=M.length:=by rw[jI,hI1]
   generalize hrv2:(rv.set pv.length (.slice auk xk.length cuk)).set k (.slice aur xr.length cur)=rv2 at hRV2;have hrl2:rv2.length=M.length:=by rw[hRV2.1,hl2]
   refine cJ hτ db [.x 0,.x 1,.x 2,.x 3,.x 4,.x 5,.x 6,.x 7,.x 8,.x 9,.x 10,.x 11,.x 12,.x 13,.x 14,.x 15] (by kernel_rfl) (by kernel_rfl) ?_;refine⟨by simp[hrl],by omega,.slice auk xk.length cuk,by simpa using huk,by simp[hrl],by omega,.slice aur xr.length cur,by simpa using hur,by simp[hrl],by omega,by simp[hrl,hrl2];omega,rv.set pv.length (.slice auk xk.length cuk),by rw[aF,aU];exact fT (by simp[hrl,hrl2];omega),by simp[hrl],by omega,by simp[hrl,hrl2];omega,rv2,by rw[aF,aU,<-hrv2];exact fT (by simp[hrl,hrl2];omega),?_⟩;obtain⟨u2,x2,hu2,hx2,hux2⟩:=hRV2.get (i:=pv.length) (by omega);have hx2l:=hLen2 x2 (aD hx2);obtain⟨y2,hy2⟩:∃y,x2[c]? =some y:=⟨_,aB (by omega)⟩
   have hat3:dG (fC [] M1 pv.length k) pv.length c=y2:=by simp[dG,List.getD,hx2,hy2]
   have hy20:y2≠0:=by rw[<-hat3,hat2];exact hne
   have hgd:(fC [] M1 pv.length k).getD pv.length []=x2:=by simp[List.getD,hx2]
   have hscl:scaled (fC [] M1 pv.length k) pv.length c=(fC [] M1 pv.length k).set pv.length (x2.map (· *(1 / y2))):=by rw[scaled,hgd,hat3]
   rw[hscl]at hstep hHt3 hc1;have hb2:=hHt2.at hx2;have hyb:=hb2 y2 (aD hy2);have hinv:=LG hy20;have hl3:((fC [] M1 pv.length k).set pv.length (x2.map (· *(1 / y2)))).length=M.length:=by rw[bY,hl2]
   have hget3:((fC [] M1 pv.length k).set pv.length (x2.map (· *(1 / y2))))[pv.length]? =some (x2.map (· *(1 / y2))):=aW (by omega);have hLen3:fe n ((fC [] M1 pv.length k).set pv.length (x2.map (· *(1 / y2)))):=hLen2.set (by rw[aL];exact hx2l);generalize fC [] M1 pv.length k=M2 at*
   obtain⟨au2,cu2,rfl,hcu2,-⟩:=dL.shape hux2;obtain⟨ad2,cs2,had2,hF2,_,hlc2⟩:=dL.load hux2 hy2;obtain⟨q0,q1,q2,q3,q4,q5,q6,q7,rfl,hF2⟩:=hF2;replace hrl:=hrl2;refine cJ hτ db [.x 1,.x 2,.x 3,.x 4,.x 5,.x 6,.x 7,.p 12,.x 0,.x 8,.x 9,.x 10,.x 11,.x 12,.x 13,.x 14] (by kernel_rfl) (by kernel_rfl) ?_;refine⟨by simp[hrl],by omega,.slice au2 x2.length cu2,by simpa using hu2,ad2,had2,by omega,[.bool q0,.slice q1 q2 q3,.bool q4,.slice q5 q6 q7],rfl,fun O w' r i x hx=>?_,?_⟩
   ·obtain⟨k1,k2⟩:=hlc2 i x hx;rw[aF,cH (w:=wb1) (w2:=w') (by rw[dQ,dQ];exact Rel.same r hS k1)];exact k2
   refine cE hw (fun _ w' v w2=>cP w2 (Nf w' w2) v (1:Rat)) (fun O w' r=>(show ((1:Int):Rat)=1 from rfl)▸lj 1 w' (by decide) (by decide)) ?_;rintro O wa2 v2 wb2 iv2 r he hw h_ hn;replace hRV2:=hRV2.cF r hS he (mC h_);replace hux2:=cX.cF hux2 r hS he (mC h_);replace hF2:=hF2.cF r hS he (mC h_);have h_1:=hn.c9 (S:=fun _=>False) r.cD (mN h_);obtain⟨s2_0,s2_1,s2_2,s2_3,s2_4,s2_5,s2_6,s2_7,rfl⟩:=h_1.shape;refine cE hw (fun _ w' v w2=>∃q,v= .tuple #[q,.int .i64 0]∧cP w2 (Nf w' w2) q (1 / y2)) (fun O w' r=>HE (Rel.old r hS) (((h_1.rel r (cB w)).l (by rw[IL];decide)).cI fun g hg=>Cv.false hg) (hF2.rel r hS) hy20) ?_;rintro O wa3 v3 wb3 iv3 r he hw h_ ⟨q,rfl,k1⟩;replace hRV2:=hRV2.cF r hS he (mC h_);replace hux2:=cX.cF hux2 r hS he (mC h_);have hby:=k1.c9 (S:=fun _=>False) r.cD (mN h_);obtain⟨s3_0a,s3_0b,s3_0c,s3_0d,s3_0e,s3_0f,s3_0g,s3_0h,rfl⟩:=hby.shape;refine cJ hτ db [.x 0,.x 1,.x 2,.x 3,.x 4,.x 5,.x 6,.x 7,.x 8,.x 9] (by kernel_rfl) (by kernel_rfl) ?_;refine⟨by simp[hrl],by omega,.slice au2 x2.length cu2,by simpa using hu2,?_⟩;refine cE hw (fun _ w' v w2=>cO w2 (Nf w' w2) v (x2.map (· *(1 / y2)))) (fun O w' r=>(HF x2 (1 / y2))▸CP (Rel.old r hS) (cX.nil w' _) (cX.rel hux2 r hS) (((hby.rel r (cB w)).l (by omega)).cI fun g hg=>Cv.false hg) (.inl rfl) (by omega) (fun y hy=>by have:=hb2 y hy;omega)) ?_;rintro O wa4 v4 wb4 iv4 r he hw h_ hn;replace hRV2:=hRV2.cF r hS he (mC h_);have hx3:=cO.c9 (S:=fun _=>False) hn r.cD (mN h_);obtain⟨a3,c3,rfl,hc3,-⟩:=dL.shape hx3;have hRV3:=hRV2.set (i:=pv.length) (u:=.slice a3 (x2.map (· *(1 / y2))).length c3) rfl (cX.cI (cO.l hx3 fun q hq=>by have:=hHt3.1 _ hget3 q hq;omega) fun g hg=>Cv.false hg);obtain⟨rv3,hrv3⟩:∃rv3,rv3=rv2.set pv.length (.slice a3 (x2.map (· *(1 / y2))).length c3):=⟨_,rfl⟩
   rw[<-hrv3]at hRV3;generalize x2.map (· *(1 / y2))=x3 at*
   generalize hM3:M2.set pv.length x3=M3 at*
   refine⟨by simp[hrl],by omega,by simp[hrl,hrl2];omega,rv3,by rw[aF,aU,hrv3];exact fT (by simp[hrl,hrl2];omega),?_⟩;have hrl3:rv3.length=M.length:=by rw[hRV3.1,hl3]
   refine⟨Nat×List Value×World×Iv,fun z=>⟨[(1,.o (.v (.int .i64 cols))),(6,.o (.w 0 M.length)),(7,.o (.w 1 pv.length)),(8,.o (.v (.int .i64 ((c:Nat):Int)))),(9,.o (.v (.int .i64 ((pv.length:Nat):Int)))),(13,.o (.v (.int .i64 ((z.1:Nat):Int))))],[(1,.vec T.int 1 (pv.map fun c:Nat=>.int .i64 (c:Int))),(0,.vec T.gO 1 z.2.1)],2,z.2.2.2,z.2.2.1⟩,fun z=>M.length-z.1,
    fun z=>z.1<=M.length∧cV w.heap.size w z.2.2.1∧ky z.2.2.1 (Cv S w.heap.size z.2.2.2) z.2.1 (dX M3 pv.length c z.1),?_,?_⟩
   ·intro O w' r;exact⟨(0,rv3,w',iv4),⟨aP _,hw.tr r.cM,by dsimp only;rw[B6];exact hRV3.rel r hS⟩,Sub.gn [] r⟩
   rintro⟨i,rv,w4,iv⟩ ⟨hi,hw,hRV⟩;dsimp only at hi hw hRV ⊢;have hrl:rv.length=M.length:=by rw[hRV.1,gM,hl3]
   refine⟨by rw[hrl,aV,aU],?_⟩;refine dI.mk (fun hiR=>?_) (fun hiR=>?_)
   ·have hiR:i<M.length:=by have:=aI hiR;omega
    refine dI.mk (fun hir=>?_) (fun hir=>?_)
    ·have hir:i≠pv.length:=fun e=>by rw[e]at hir;simp at hir
     obtain⟨u4,x4,hu4,hx4,hux4⟩:=hRV.get (i:=i) (by rw[gM];omega);obtain⟨u5,x5,hu5,hx5,hux5⟩:=hRV.get (i:=pv.length) (by rw[gM];omega);rw[Ea _ _ _ _ _ (aG _)]at hx4;rw[rJ]at hx5;have hx4l:=hLen3 x4 (aD hx4);have hx5l:=hLen3 x5 (aD hx5);obtain⟨y4,hy4⟩:∃y,x4[c]? =some y:=⟨_,aB (by omega)⟩
     have hy4d:x4.getD c 0=y4:=by simp[List.getD,hy4]
     have hx5d:M3.getD pv.length []=x5:=by simp[List.getD,hx5]
     have hb4:=hHt3.2 i x4 hir hx4;have hb5:=hHt3.1 x5 hx5;have hyb4:=hb4 y4 (aD hy4);have hrn:=og y4;obtain⟨au4,cu4,rfl,hcu4,-⟩:=dL.shape hux4;obtain⟨au5,cu5,rfl,hcu5,-⟩:=dL.shape hux5;obtain⟨ad4,cs4,had4,hF4,_,hlc4⟩:=dL.load hux4 hy4;obtain⟨e0,e1,e2,e3,e4,e5,e6,e7,rfl,hF4⟩:=hF4;refine⟨by simp[hrl],by omega,.slice au4 x4.length cu4,by simpa using hu4,ad4,had4,by omega,[.bool e0,.slice e1 e2 e3,.bool e4,.slice e5 e6 e7],rfl,fun O w' r i x hx=>?_,?_⟩
     ·obtain⟨k1,k2⟩:=hlc4 i x hx;rw[aF,cH (w:=w4) (w2:=w') (by rw[dQ,dQ];exact Rel.same r hS k1)];exact k2
     refine cC (cE hw (fun _ w' v w2=>v= .int .i64 (rs y4)) (fun O w' r=>ni (Rel.old r hS) (hF4.rel r hS)) ?_);rintro O wa5 v5 wb5 iv5 r he hw h_ rfl;replace hRV:=hRV.cF r hS he (mC h_);replace hux4:=cX.cF hux4 r hS he (mC h_);replace hux5:=cX.cF hux5 r hS he (mC h_);refine dI.mk (fun hs4=>?_) (fun hs4=>?_)
     ·have hs4:y4≠0:=fun e=>by rw[e]at hs4;exact absurd hs4 (by decide)
      obtain⟨ad6,cs6,had6,hF6,_,hlc6⟩:=dL.load hux4 hy4;obtain⟨f0,f1,f2',f3,f4,f5,f6,f7,rfl,hF6⟩:=hF6;refine cJ hτ db [.x 0,.x 1,.x 2,.x 3,.x 4,.x 5,.x 6,.x 7,.x 8,.x 9,.x 10,.x 11,.x 12,.x 13,.x 14,.x 15,.x 16,.x 17,.x 18,.x 19,.x 20] (by kernel_rfl) (by kernel_rfl) ?_;refine⟨by simp[hrl],by omega,.slice au4 x4.length cu4,by simpa using hu4,by simp[hrl],by omega,.slice au5 x5.length cu5,by simpa using hu5,by simp[hrl],by omega,.slice au4 x4.length cu4,by simpa using hu4,ad6,had6,by omega,[.bool f0,.slice f1 f2' f3,.bool f4,.slice f5 f6 f7],rfl,fun O w' r i x hx=>?_,?_⟩
      ·obtain⟨k1,k2⟩:=hlc6 i x hx;rw[aF,cH (w:=wb5) (w2:=w') (by rw[dQ,dQ];exact Rel.same r hS k1)];exact k2
      refine cE hw (fun _ w' v w2=>cP w2 (Nf w' w2) v (-y4)) (fun O w' r=>FF (Rel.old r hS) (hF6.rel r hS)) ?_;rintro O wa6 v6 wb6 iv6 r he hw h_ hn;replace hRV:=hRV.cF r hS he (mC h_);replace hux4:=cX.cF hux4 r hS he (mC h_);replace hux5:=cX.cF hux5 r hS he (mC h_);have hng:=hn.c9 (S:=fun _=>False) r.cD (mN h_);obtain⟨s6_0,s6_1,s6_2,s6_3,s6_4,s6_5,s6_6,s6_7,rfl⟩:=hng.shape;refine cE hw (fun _ w' v w2=>cO w2 (Nf w' w2) v (iT x4 x5 (-y4))) (fun O w' r=>CP (Rel.old r hS) (cX.rel hux4 r hS) (cX.rel hux5 r hS) (((hng.rel r (cB w)).l (by omega)).cI fun g hg=>Cv.false hg) (.inr (by omega)) (by omega) (fun y hy=>by have:=hb5 y hy;omega)) ?_;rintro O wa7 v7 wb7 iv7 r he hw h_ hn;replace hRV:=hRV.cF r hS he (mC h_);have hx7:=cO.c9 (S:=fun _=>False) hn r.cD (mN h_);obtain⟨a7,c7,rfl,hc7,-⟩:=dL.shape hx7;have hnew:(dX M3 pv.length c i).set i (iT x4 x5 (-y4))=dX M3 pv.length c (i+1):=by
       rw[<-B7 hx4 hir,hy4d,hx5d,FG _ (by omega)]
      have hrow7:(dX M3 pv.length c (i+1))[i]? =some (iT x4 x5 (-y4)):=by rw[<-hnew];exact aW (by rw[gM];omega)
      have hb7:=hc1.at (i:=i) (by rw[Dm hiR];exact hrow7);replace hRV:=hRV.set (i:=i) (u:=.slice a7 (iT x4 x5 (-y4)).length c7) rfl (cX.cI (cO.l hx7 fun q hq=>by have:=hb7 q hq;omega) fun g hg=>Cv.false hg);rw[hnew]at hRV;refine⟨by simp[hrl],by omega,by simp[hrl];omega,rv.set i (.slice a7 (iT x4 x5 (-y4)).length c7),by rw[aF,aU];exact fT (by omega),((i+1:Nat):Int),wo,?_⟩;intro ρ3 w3 r3;exact⟨(i+1,rv.set i (.slice a7 (iT x4 x5 (-y4)).length c7),w3,_),⟨hiR,hw.tr r3.cM,by dsimp only;rw[show i+1=i+1 from rfl];exact hRV.rel r3 hS⟩,Sub.gn [] r3,by dsimp only;omega⟩
     have hs4:y4=0:=nX.1 (by simpa using hs4);refine⟨((i+1:Nat):Int),wo,?_⟩;intro ρ3 w3 r3;exact⟨(i+1,rv,w3,_),⟨hiR,hw.tr r3.cM,by dsimp only;rw[BZ hx4 (by rw[hy4d,hs4])];exact hRV.rel r3 hS⟩,Sub.gn [] r3,by dsimp only;omega⟩
    have hir1:(i:Int)=pv.length:=by simpa using hir
    have hir:i=pv.length:=by omega
    refine⟨((i+1:Nat):Int),wo,?_⟩;intro ρ3 w3 r3;exact⟨(i+1,rv,w3,_),⟨hiR,hw.tr r3.cM,by dsimp only;rw[show dX M3 pv.length c (i+1)=dX M3 pv.length c i by rw[hir,<-B8]];exact hRV.rel r3 hS⟩,Sub.gn [] r3,by dsimp only;omega⟩
   have hiR:i=M.length:=by have:=aH hiR;omega
   subst hiR;refine .inl ?_;refine⟨by simp,by omega,by unfold maxLen;omega,?_⟩;have hpm:(pv++[c]).map (fun c:Nat=>Value.int .i64 (c:Int))=pv.map (fun c:Nat=>Value.int .i64 (c:Int))++[.int .i64 (c:Int)]:=by simp
   rw[hI1]at hstep;refine⟨((c+1:Nat):Int),wo,?_⟩;intro ρ3 w3 r3;have hs:dW (M1,pv) c=((dX M3 pv.length c M.length),(pv++[c])):=hstep;have hf2:((dX M3 pv.length c M.length),(pv++[c]))=(List.range (c+1)).foldl dW (M,[]):=by rw[bN,List.foldl_append,<-hfold];exact hs.symm
   have hi2:(dW (M1,pv) c).1.length=M.length∧(dW (M1,pv) c).2.length<=M.length:=by
    have h5:=(eA hlen (c+1) (by omega)).2.1;have h6:=eW M (c+1);rw[show cN M (c+1)=dW (M1,pv) c by unfold cN;rw[bN,List.foldl_append,<-hfold];rfl]at h5 h6;omega
   have hl2:=fe.step (s:=(M1,pv)) (c:=c) hLen;rw[hs]at hi2 hl2;exact⟨(c+1,rv,(dX M3 pv.length c M.length),(pv++[c]),w3,_),⟨hib,hf2,hl2,hi2,hw.tr r3.cM,hRV.rel r3 hS⟩,Sub.gn [(1,3)] r3 ⟨by dsimp only;rw[hpm];rfl,rfl,trivial⟩ ⟨rfl,rfl,by dsimp only;rw[List.length_append,List.length_singleton];rfl,rfl,trivial⟩,by dsimp only;omega⟩
  have hkb:k=M.length:=by have:=aH hkb;omega
  refine⟨by rw[hrl,aV,aU],?_⟩;refine dI.mk (fun _=>?_) (fun hge=>absurd (aH hge) (by omega));refine⟨((c+1:Nat):Int),wo,?_⟩;intro ρ3 w3 r3;have hs:dW (M1,pv) c=(M1,pv):=G3 hk0 (by show k=M1.length;omega) hkz;have hf2:(M1,pv)=(List.range (c+1)).foldl dW (M,[]):=by rw[bN,List.foldl_append,<-hfold];exact hs.symm
  have hi2:(dW (M1,pv) c).1.length=M.length∧(dW (M1,pv) c).2.length<=M.length:=by
   have h5:=(eA hlen (c+1) (by omega)).2.1;have h6:=eW M (c+1);rw[show cN M (c+1)=dW (M1,pv) c by unfold cN;rw[bN,List.foldl_append,<-hfold];rfl]at h5 h6;omega
  have hl2:=fe.step (s:=(M1,pv)) (c:=c) hLen;rw[hs]at hi2 hl2;exact⟨(c+1,rv,M1,pv,w3,_),⟨hib,hf2,hl2,hi2,hw.tr r3.cM,hRV.rel r3 hS⟩,Sub.gn [] r3,by dsimp only;omega⟩
 have hib:c=cols:=aR hc (by simpa using hib);subst hib;have hred:cN M c=(M1,pv):=hfold.symm;rw[hred];intro ρe we re;refine⟨_,rfl,hw.tr re.cM,_,_,rfl,⟨rv,?_,hRV.1,fun i u x h1 h2=>cX.out (hRV.2.2 i u x h1 h2) re hS⟩,?_⟩
 ·have:=re.iX (id:=0) (sz:=1) (m:=M.length) rfl (by rw[hrl,aU]) (by unfold maxLen;omega) (by decide) hRV.2.1;rw[show (M1,pv).1.length=M.length from hI1];exact this.cI fun g hg=>.inr hg
 ·have:=re.iX (id:=1) (sz:=1) (m:=pv.length) rfl (by simp) (by unfold maxLen;omega) (by decide) (fun u hu=>by
   obtain⟨_,_,rfl⟩:=aT.1 hu
   rfl)
  exact this.cI fun g hg=>.inr hg
theorem FH{M:List (List (Int×Int))}{h0:Nat}(hS:Old S w)(h:jN w S v M)(hL:eD w S v (kA M))(hall:∀r∈M,r.length=gv M)(hR:M.length<=1000)(hn:gv M<=1000)(hB:∀c,c<=gv M->Ht (cN (kA M) c).1 h0)(hh:3*h0<=90000):
  dm PG N.nM #[v] w (eB w fun v' w2=>cR w2 (Nf w w2) v' (du (cN (kA M) (gv M)).1 (cN (kA M) (gv M)).2 (gv M) (gv M))):=by
 have hw:cV w.heap.size w w:=cV.refl;have hvl:(kA M).length=M.length:=by simp[kA]
 have hlen:fe (gv M) (kA M):=fun r hr=>by
  rw[kA]at hr;obtain⟨x,hx,rfl⟩:=aT.1 hr;rw[aL];exact hall x hx
 replace h:=jN.arg h [];replace hL:=eD.arg hL [];obtain⟨am,cm,rfl,hcm,hmm⟩:=de.shape h;refine wJ (by simp) ?_;refine cC (cE hw (fun _ w' v w2=>v= .int .i64 (gv M)) (fun O w' r=>FI (Rel.old r hS) (jN.rel h r hS)) ?_);rintro O wa1 v1 wb1 iv1 r he hw h_ rfl;replace hL:=eD.cF hL r hS he (mC h_);refine cC (cL (Φ:=fun _ w' v w2=>∃vm vp,v= .tuple #[vm,vp]∧eD w2 (Nw (Cv S w.heap.size iv1) w' w2) vm (cN (kA M) (gv M)).1∧dF w2 (Nf w' w2) vp (cN (kA M) (gv M)).2) (fun O w' r=>Dn (Rel.old r hS) (eD.rel hL r hS) hlen (by omega) (by omega) (aG _) hB hh) ?_);rintro O wa2 v2 wb2 r he hb ⟨vm,vp,rfl,k1,k2⟩;replace hw:=hw.tr hb;have hA:=eD.old k1 r.cD;have hP:=dF.c9 (S:=fun _=>False) k2 r.cD (iv:=(wa2.heap.size,wb2.heap.size)::iv1) aJ;generalize (wa2.heap.size,wb2.heap.size)::iv1=iv2 at*
 obtain⟨aA,cA,rfl,hcA,-⟩:=de.shape hA;have hPs:=hP;obtain⟨-,-,-,ap,cp,rfl,hcp,-⟩:=hPs;have hAl:=eW (kA M) (gv M);obtain⟨-,hpl,-,hpc,-⟩:=eA hlen (gv M) (aG _);rw[hAl]at hpl;have hAh:=hB (gv M) (aG _);have hAlen:=DR (cols:=gv M) hlen;generalize (cN (kA M) (gv M)).1=A at*
 generalize (cN (kA M) (gv M)).2=pv at*
 generalize gv M=cols at*
 refine⟨Nat×List Value×World×Iv,fun z=>⟨[(3,.o (.v (.int .i64 cols))),(4,.o (.v (.slice aA A.length cA))),(5,.o (.v (.slice ap pv.length cp))),(6,.o (.w 0 z.2.1.length)),(7,.o (.v (.int .i64 ((z.1:Nat):Int))))],[(0,.vec T.gO 1 z.2.1)],1,z.2.2.2,z.2.2.1⟩,fun z=>cols-z.1,
  fun z=>z.1<=cols∧z.2.1.length<=z.1∧cV w.heap.size w z.2.2.1∧eD z.2.2.1 (Cv S w.heap.size z.2.2.2) (.slice aA A.length cA) A∧dF z.2.2.1 (Cf w z.2.2.2) (.slice ap pv.length cp) pv∧dU z.2.2.1 (Cf w z.2.2.2) z.2.1 (du A pv cols z.1),?_,?_⟩
 ·intro O w' r
  exact⟨(0,[],w',iv2),⟨aP _,aG _,hw.tr r.cM,eD.rel hA r hS,dF.rel hP r (cB w),by simp[dU,du]⟩,Sub.nil 6 T.gO 1 rfl (by simp[jn,SV.sc,At.sc,fW]) r fun ρ1 r1=>
   Sub.gn [] r1⟩
 rintro⟨c,rv,w1,iv⟩ ⟨hc,hrc,hw,hA,hP,hK⟩;dsimp only at hc hrc hw hA hP hK ⊢;refine dI.mk (fun hib=>?_) (fun hib=>?_)
 ·have hib:c<cols:=by simpa using hib
  refine cC (cE hw (fun _ w' v w2=>v= .bool (decide (c∈pv))) (fun O w' r=>LY (Rel.old r (cB w)) (dF.rel hP r (cB w))) ?_);rintro O wa3 v3 wb3 iv3 r he hw h_ rfl;replace hA:=eD.cF hA r hS he (mC h_);replace hP:=dF.cF hP r (cB w) he (mC h_);replace hK:=hK.cF r (cB w) he (mC h_);refine dI.mk (fun hm=>?_) (fun hm=>?_)
  ·have hm:=aI hm;refine⟨((c+1:Nat):Int),wo,?_⟩;intro ρ3 w3 r3;exact⟨(c+1,rv,w3,_),⟨hib,by simp;omega,hw.tr r3.cM,eD.rel hA r3 hS,dF.rel hP r3 (cB w),by dsimp only;rw[vZ hm];exact hK.rel r3 (cB w)⟩,Sub.gn [] r3,by dsimp only;omega⟩
  have hm:=aH hm
  refine⟨cols,cols,rfl,rfl,aG _,by omega,by omega,Nat×List (List Value)×World×Iv,fun z=>⟨[(3,.o (.v (.int .i64 cols))),(4,.o (.v (.slice aA A.length cA))),(5,.o (.v (.slice ap pv.length cp))),(6,.o (.w 0 rv.length)),(7,.o (.v (.int .i64 ((c:Nat):Int)))),(8,.o (.s 1 0 cols cols)),(9,.o (.v (.int .i64 ((z.1:Nat):Int))))],[(1,.arr T.Rat z.2.1.flatten),(0,.vec T.gO 1 rv)],2,z.2.2.2,z.2.2.1⟩,fun z=>cols-z.1,
   fun z=>z.1<=cols∧z.2.1.length=cols∧(∀x∈z.2.1,x.length=4)∧cV w.heap.size w z.2.2.1∧eD z.2.2.1 (Cv S w.heap.size z.2.2.2) (.slice aA A.length cA) A∧dF z.2.2.1 (Cf w z.2.2.2) (.slice ap pv.length cp) pv∧dU z.2.2.1 (Cf w z.2.2.2) rv (du A pv cols c)∧
    iq z.2.2.1 (Cf w z.2.2.2) z.2.1 z.1,?_,?_⟩
  ·intro O w' r
   exact⟨(0,List.replicate cols [.bool false,.slice none 0 0,.bool false,.slice none 0 0],w',iv3),⟨aP _,by simp,fun x hx=>by rw[bV hx];rfl,hw.tr r.cM,eD.rel hA r hS,dF.rel hP r (cB w),hK.rel r (cB w),fun j cs hj=>by dsimp only at hj;omega⟩,
    Sub.gn [] r⟩
  rintro⟨k,css,w2,iv⟩ ⟨hk,hcl,hc4,hw,hA,hP,hK,hz⟩;dsimp only at hk hcl hc4 hw hA hP hK hz ⊢;refine dI.mk (fun hkb=>?_) (fun hkb=>?_)
  ·have hkb:k<cols:=by simpa using hkb
   refine cC (cE hw (fun _ w' v w2=>cP w2 (Nf w' w2) v (0)) (fun O w' r=>(show ((0:Int):Rat)=0 from rfl)▸lj 0 w' (by decide) (by decide)) ?_);rintro O wa4 v4 wb4 iv4 r he hw h_ hn;replace hA:=eD.cF hA r hS he (mC h_);replace hP:=dF.cF hP r (cB w) he (mC h_);replace hK:=hK.cF r (cB w) he (mC h_);replace hz:=hz.cF r (cB w) he (mC h_);have h_0:=hn.c9 (S:=fun _=>False) r.cD (mN h_);obtain⟨s4_0,s4_1,s4_2,s4_3,s4_4,s4_5,s4_6,s4_7,rfl⟩:=h_0.shape;refine⟨by omega,?_⟩;have hfl:=e9 hc4;refine⟨by rw[aF,hfl];omega,(css.set k [.bool s4_0,.slice s4_1 s4_2 s4_3,.bool s4_4,.slice s4_5 s4_6 s4_7]).flatten,by rw[aF,aV];exact ie (css:=css) (j:=k) hc4 (by omega),((k+1:Nat):Int),wo,?_⟩;intro ρ3 w3 r3
   exact⟨(k+1,css.set k [.bool s4_0,.slice s4_1 s4_2 s4_3,.bool s4_4,.slice s4_5 s4_6 s4_7],w3,_),⟨hkb,by simp[hcl],Ip hc4 rfl,hw.tr r3.cM,eD.rel hA r3 hS,dF.rel hP r3 (cB w),hK.rel r3 (cB w),(hz.rel r3 (cB w)).push (h_0.rel r3 (cB w)).pS⟩,
    Sub.gn [] r3,by dsimp only;omega⟩
  have hkb:k=cols:=aR hk (by simpa using hkb);subst hkb;refine cC (cE hw (fun _ w' v w2=>cP w2 (Nf w' w2) v (1)) (fun O w' r=>(show ((1:Int):Rat)=1 from rfl)▸lj 1 w' (by decide) (by decide)) ?_);rintro O wa4 v4 wb4 iv4 r he hw h_ hn;replace hA:=eD.cF hA r hS he (mC h_);replace hP:=dF.cF hP r (cB w) he (mC h_);replace hK:=hK.cF r (cB w) he (mC h_);replace hz:=hz.cF r (cB w) he (mC h_);have h_1:=hn.c9 (S:=fun _=>False) r.cD (mN h_);obtain⟨s4_0,s4_1,s4_2,s4_3,s4_4,s4_5,s4_6,s4_7,rfl⟩:=h_1.shape;refine⟨by omega,?_⟩;have hfl:=e9 hc4;refine⟨by rw[aF,hfl];omega,(css.set c [.bool s4_0,.slice s4_1 s4_2 s4_3,.bool s4_4,.slice s4_5 s4_6 s4_7]).flatten,by rw[aF,aV];exact ie (css:=css) (j:=c) hc4 (by omega),?_⟩;have hFc:=hz.one hcl (c:=c) h_1.pS;have hcl2:(css.set c [.bool s4_0,.slice s4_1 s4_2 s4_3,.bool s4_4,.slice s4_5 s4_6 s4_7]).length=k:=by simp[hcl]
  generalize css.set c [.bool s4_0,.slice s4_1 s4_2 s4_3,.bool s4_4,.slice s4_5 s4_6 s4_7]=cs2 at*
  refine⟨Nat×Nat×World×Iv,fun z=>⟨[(8,.o (.v (.slice (some ⟨z.2.1,0,none⟩) k k))),(3,.o (.v (.int .i64 k))),(4,.o (.v (.slice aA A.length cA))),(5,.o (.v (.slice ap pv.length cp))),(6,.o (.w 0 rv.length)),(7,.o (.v (.int .i64 ((c:Nat):Int)))),(10,.o (.v (.int .i64 ((z.1:Nat):Int))))],[(0,.vec T.gO 1 rv)],2,z.2.2.2,z.2.2.1⟩,fun z=>pv.length-z.1,
   fun z=>z.1<=pv.length∧cV w.heap.size w z.2.2.1∧(∀p,p∈iv4->p∈z.2.2.2)∧¬Cv S w.heap.size iv4 z.2.1∧w.heap.size<=z.2.1∧eD z.2.2.1 (Cv S w.heap.size iv4) (.slice aA A.length cA) A∧dF z.2.2.1 (Cf w iv4) (.slice ap pv.length cp) pv∧dU z.2.2.1 (Cf w iv4) rv (du A pv k c)∧
    dS z.2.2.1 (fun _=>False) w.heap.size z.2.2.2 (.slice (some ⟨z.2.1,0,none⟩) k k) k (fK A pv k c z.1),?_,?_⟩
  ·intro O w' r
   exact⟨(0,(O 1).g,w',((O 1).g,(O 1).g+1)::iv4),⟨aP _,hw.tr r.cM,fun p hp=>aC _ hp,fun hg=>Rel.not r hS hg 1 _ rfl (r.fits (id:=1) rfl).1 rfl,(r.low 1 _ rfl (r.fits (id:=1) rfl).1).1,eD.rel hA r hS,dF.rel hP r (cB w),hK.rel r (cB w),dS.oN r (id:=1) rfl hcl2 (by unfold maxLen;omega) hFc⟩,
    Sub.oN r (id:=1) (t:=8) rfl rfl ⟨rfl,trivial⟩ rfl ⟨rfl,rfl,rfl,rfl,rfl,rfl,trivial⟩ (by simp[jn,SV.sc,At.sc])⟩
  rintro⟨i,gx,w5,iv5⟩ ⟨hi,hw,hsub,hxo,hxB,hA,hP,hK,hX⟩;dsimp only at hi hw hsub hxo hxB hA hP hK hX ⊢;refine dI.mk (fun hi2=>?_) (fun hi2=>?_)
  ·have hi2:i<pv.length:=by simpa using hi2
   obtain⟨p,hpi⟩:∃p,pv[i]? =some p:=⟨_,aB hi2⟩
   have hpd:pv.getD i 0=p:=by simp[List.getD,hpi]
   have hpcol:=hpc p (aD hpi);obtain⟨ra,hra⟩:∃r,A[i]? =some r:=⟨_,aB (by omega)⟩
   have hral:=hAlen ra (aD hra);have hPs:=hP;obtain⟨_,_,_,_,_,hpe,_,hpcell⟩:=hPs;injection hpe with hpe1 hpe2 hpe3;subst hpe1 hpe3;obtain⟨adp,hap,kp1,kp2⟩:=hpcell i (.int .i64 (p:Int)) (by rw[aN,hpi];rfl);obtain⟨adm,um,ham,hRm,km1,km2⟩:=de.load hA hra;obtain⟨au,cu,rfl,hcu,-⟩:=dL.shape hRm;obtain⟨q,hq⟩:∃q,ra[c]? =some q:=⟨_,aB (by omega)⟩
   have hat:dG A i c=q:=by simp[dG,List.getD,hra,hq]
   obtain⟨adq,cs,haq,hF,_,hl⟩:=dL.load hRm hq;obtain⟨b3,a3,n3,c3,b4,a4,n4,c4,rfl,hF⟩:=hF;have hsm:∀{H nx O w'},Rel H nx iv5 w.heap.size w5 O w'->∀{g},Cv S w.heap.size iv4 g->w'.heap[g]? =w5.heap[g]? :=fun r g hg=>Rel.same r hS (hg.mono hsub);refine cJ hτ db [.x 0,.x 1,.x 2,.x 3,.x 4,.x 5,.x 6,.x 7,.x 8,.x 9,.x 10,.x 11,.x 12,.x 13,.x 14] (by kernel_rfl) (by kernel_rfl) ?_;refine⟨adp,hap,by omega,.int .i64 (p:Int),fun O w' r=>?_,?_⟩
   ·rw[aF,aU,cH (w:=w5) (w2:=w') (by rw[dQ];exact hsm r (Av kp1))];exact kp2
   refine⟨adm,ham,by omega,.slice au ra.length cu,fun O w' r=>?_,?_⟩
   ·rw[aF,cH (w:=w5) (w2:=w') (by rw[dQ];exact hsm r km1)];exact km2
   refine⟨adq,haq,by omega,[.bool b3,.slice a3 n3 c3,.bool b4,.slice a4 n4 c4],rfl,fun O w' r j u hu=>?_,?_⟩
   ·obtain⟨k1,k2⟩:=hl j u hu;rw[aF,cH (w:=w5) (w2:=w') (by rw[dQ,dQ];exact hsm r k1)];exact k2
   refine cL (Φ:=fun _ w' v w2=>cP w2 (Nf w' w2) v (-q)) (fun O w' r=>FF (fun g hg=>Rel.old r hS g (hg.mono hsub)) (hF.cG fun g hg=>hsm r hg)) ?_;rintro O wa v1 wb r he hb hO;have hON:cP wb (fun g=>Cf w ((wa.heap.size,wb.heap.size)::iv5) g∧(Value.slice (some ⟨gx,0,none⟩) k k).ownBlock≠some g) v1 (-q):=hO.cI fun g hg=>by
    rcases hg with hg|hg
    ·exact hg.elim
    ·have hB:=r.cD;have:=Rel.old r hS gx (Av (hX.new gx rfl));refine⟨.inr ⟨by omega,_,_,aJ,hg.1,hg.2⟩,fun e=>?_⟩;have e2:gx=_:=Option.some.inj e;omega
   replace hX:=hX.cF (iv':=(wa.heap.size,wb.heap.size)::iv5) r (cB w) he fun x hx=>aC _ hx;have hkp:∀g,Cv S w.heap.size iv4 g->wb.heap[g]? =w5.heap[g]? :=fun g hg=>by rw[he.block g (Rel.old r hS g (hg.mono hsub)),Rel.same r hS (hg.mono hsub)]
   replace hA:=eD.cG hA hkp;replace hP:=ig.cG hP fun g hg=>hkp g (Av hg);replace hK:=hK.cG fun g hg=>hkp g (Av hg);replace hw:=hw.tr hb;replace hsub:∀p,p∈iv4->p∈(wa.heap.size,wb.heap.size)::iv5:=fun p hp=>aC _ (hsub p hp);generalize (wa.heap.size,wb.heap.size)::iv5=iv6 at*
   obtain⟨b1,a1,n1,c1,b2,a2,n2,c2,rfl⟩:=hON.shape;refine⟨⟨gx,0,none⟩,rfl,by omega,?_⟩;intro O w' r;obtain⟨_,hgx,h1,h2',h3,h4,h5⟩:=(hX.rel r (cB w)).store hpcol (cP.cG hON fun g hg=>Rel.same r (cB w) hg.1) r (cB w);injection hgx with hgx;injection hgx with hgx;subst hgx;have hkp:∀g,Cv S w.heap.size iv4 g->w'.heap[g]? =wb.heap[g]? :=fun g hg=>Rel.same r hS (hg.mono hsub);replace hw:=hw.tr r.cM;have hold:∀g,Cv S w.heap.size iv6 g->g<w'.heap.size:=Rel.old r hS;refine⟨h1,h2',h3,fun w2 hw2=>?_⟩;obtain⟨hX,hgr,-⟩:=h5 w2 hw2;have hkp2:∀g,Cv S w.heap.size iv4 g->w2.heap[g]? =wb.heap[g]? :=fun g hg=>by
    rw[<-hkp g hg];exact hgr.block g (hold g (hg.mono hsub)) fun e=>by injection e with e;subst e;exact hxo hg
   replace hA:=eD.cG hA hkp2;replace hP:=ig.cG hP fun g hg=>hkp2 g (Av hg);replace hK:=hK.cG fun g hg=>hkp2 g (Av hg);replace hw:cV w.heap.size w w2:=hw.tr (cV.grown hgr (fun g hg=>by injection hg with hg;subst hg;exact hxB) (by have:=hw.size;omega));rw[<-hat,<-hpd,<-fq]at hX;refine⟨((i+1:Nat):Int),wo,?_⟩;intro ρ3 w3 r3;have hkp:∀g,Cv S w.heap.size iv4 g->w3.heap[g]? =w2.heap[g]? :=fun g hg=>Rel.same r3 hS (hg.mono hsub)
   exact⟨(i+1,gx,w3,iv6),⟨hi2,hw.tr r3.cM,hsub,hxo,hxB,eD.cG hA hkp,ig.cG hP fun g hg=>hkp g (Av hg),hK.cG fun g hg=>hkp g (Av hg),hX.rel r3 (cB w)⟩,
    Sub.gn [] r3,by dsimp only;omega⟩
  have hi2:i=pv.length:=aR hi (by simpa using hi2);subst hi2;have hnr:cO w5 (Cf w iv5) (.slice (some ⟨gx,0,none⟩) k k) (fK A pv k c pv.length):=hX.Mj;have hK2:dU w5 (Cf w iv5) (rv++[.slice (some ⟨gx,0,none⟩) k k]) (du A pv k (c+1)):=by
   rw[tV hm];exact(hK.cI fun g hg=>hg.mono hsub).push rfl hnr
  replace hA:=eD.cI hA fun g hg=>hg.mono hsub;replace hP:=dF.cI hP fun g hg=>hg.mono hsub;have hK:=hK2;refine .inl ?_;refine⟨by simp,by omega,by unfold maxLen;omega,((c+1:Nat):Int),wo,?_⟩;intro ρ3 w3 r3;exact⟨(c+1,(rv++[.slice (some ⟨gx,0,none⟩) k k]),w3,_),⟨hib,by simp;omega,hw.tr r3.cM,eD.rel hA r3 hS,dF.rel hP r3 (cB w),by dsimp only;rw[show c+1=c+1 from rfl];exact hK.rel r3 (cB w)⟩,Sub.gn [(0,3)] r3 (hE:=⟨rfl,rfl,rfl,by dsimp only;rw[List.length_append,List.length_singleton];rfl,rfl,trivial⟩),by dsimp only;omega⟩
 have hib:c=cols:=aR hc (by simpa using hib);subst hib;intro ρe we re;refine⟨_,rfl,hw.tr re.cM,rv,?_,hK.1,fun i u x h1 h2=>cO.out (hK.2.2 i u x h1 h2) re (cB w)⟩;have:=re.iX (id:=0) (sz:=1) (m:=rv.length) rfl (by rw[aU]) (by unfold maxLen;omega) (by decide) hK.2.1;rw[<-hK.1];exact this.cI fun g hg=>.inr hg
theorem Le(hS:Old S w)(hx:cX w S v xs)(hy:cX w S u ys)(hl:xs.length=ys.length)(hqx:∀q∈xs,rl q+1<=h)(hqy:∀q∈ys,rl q+1<=h)(h2:2<=h)(hb:2*h*xs.length<=90000):
  dm PG N.Al #[v,u] w (eB w fun v' w2=>cP w2 (Nf w w2) v' (eH xs ys xs.length)):=by
 have hw:cV w.heap.size w w:=cV.refl;obtain⟨ax,cx,rfl,hcx,hmx⟩:=hx.shape;obtain⟨ay,cy,rfl,hcy,-⟩:=hy.shape;unfold maxLen at hmx;refine Bg (by simp) ?_;refine cC (cE hw (fun _ w' v w2=>cP w2 (Nf w' w2) v (((0:Int):Rat))) (fun O w' r=>lj 0 w' (by decide) (by decide)) ?_);rintro O wa1 v1 wb1 iv1 r he hw h_ hn;have hd:=hn.c9 (S:=fun _=>False) r.cD (mN h_);obtain⟨s1_0,s1_1,s1_2,s1_3,s1_4,s1_5,s1_6,s1_7,rfl⟩:=hd.shape;rw[show ((0:Int):Rat)=eH xs ys 0 from rfl]at hd
 refine⟨Nat×(Bool×Bool)×(Option Addr×Option Addr)×(Nat×Nat×Nat×Nat)×World×Iv,fun z=>⟨[(0,.o (.v (.slice ax xs.length cx))),(1,.o (.v (.slice ay ys.length cy))),(4,.o (.p 0 0)),(5,.o (.p 1 0)),(6,.o (.v (.int .i64 ((z.1:Nat):Int))))],[(1,.box T.Rat [.v (.bool z.2.1.1),.v (.slice z.2.2.1.1 z.2.2.2.1.1 z.2.2.2.1.2.1),.v (.bool z.2.1.2),.v (.slice z.2.2.1.2 z.2.2.2.1.2.2.1 z.2.2.2.1.2.2.2)]),(0,.box T.Rat [.v (.bool false),.v (.slice none 0 0),.v (.bool false),.v (.slice none 0 0)])],2,z.2.2.2.2.2,z.2.2.2.2.1⟩,fun z=>xs.length-z.1,
  fun z=>z.1<=xs.length∧cV w.heap.size w z.2.2.2.2.1∧cP z.2.2.2.2.1 (Cf w z.2.2.2.2.2) (.agg #[.bool z.2.1.1,.slice z.2.2.1.1 z.2.2.2.1.1 z.2.2.2.1.2.1,.bool z.2.1.2,.slice z.2.2.1.2 z.2.2.2.1.2.2.1 z.2.2.2.1.2.2.2]) (eH xs ys z.1),?_,?_⟩
 ·intro O w' r;exact⟨(0,(s1_0,s1_4),(s1_1,s1_5),(s1_2,s1_3,s1_6,s1_7),w',iv1),⟨by simp,hw.tr r.cM,hd.rel r (cB w)⟩,Sub.gn [] r⟩
 rintro⟨i,⟨p0,p4⟩,⟨p1,p5⟩,⟨p2,p3,p6,p7⟩,w1,iv⟩ ⟨hi,hw,hd⟩;dsimp only at hi hw hd ⊢;refine dI.mk (fun hib=>?_) (fun hib=>?_)
 ·have hib:i<xs.length:=by simpa using hib
  have hs:=ki hqx hqy h2 i;have hs2:2*h*i<=2*h*xs.length:=bW _ hi;have hs3:2*h*1<=2*h*xs.length:=bW _ (by omega);obtain⟨x,hxi⟩:∃x,xs[i]? =some x:=⟨_,aB hib⟩
  obtain⟨y,hyi⟩:∃x,ys[i]? =some x:=⟨_,aB (by omega)⟩
  have hx3:=hqx x (aD hxi);have hy3:=hqy y (aD hyi);have hx2:xs.getD i 0=x:=by rw[List.getD,hxi];rfl
  have hy2:ys.getD i 0=y:=by rw[List.getD,hyi];rfl
  have hm:=iF x y;obtain⟨adx,csx,hax,hFx,-,hlx⟩:=dL.load hx hxi;obtain⟨ady,csy,hay,hFy,-,hly⟩:=dL.load hy hyi;obtain⟨f0,f1,f2,f3,f4,f5,f6,f7,rfl,hFx⟩:=hFx;obtain⟨q0,q1,q2,q3,q4,q5,q6,q7,rfl,hFy⟩:=hFy;refine cJ hτ db [.x 0,.x 1,.x 2,.x 3,.x 4,.x 5,.x 6,.x 7,.x 8,.x 9,.x 10,.x 11] (by kernel_rfl) (by kernel_rfl) ?_;refine⟨adx,hax,by omega,[.bool f0,.slice f1 f2 f3,.bool f4,.slice f5 f6 f7],rfl,rdO hlx hw hS,ady,hay,by omega,[.bool q0,.slice q1 q2 q3,.bool q4,.slice q5 q6 q7],rfl,rdO hly hw hS,?_⟩;refine cE hw (fun _ w' v w2=>cP w2 (Nf w' w2) v (x*y)) (fun O w' r=>zR (oS hS r) (hFx.cG (kS hw r hS)) (hFy.cG (kS hw r hS))) ?_;rintro O wa2 v2 wb2 iv2 r he hw h_ hn;replace hd:=hd.cF r (cB w) he (mC h_);have hp:=hn.c9 (S:=fun _=>False) r.cD (mN h_);obtain⟨s2_0,s2_1,s2_2,s2_3,s2_4,s2_5,s2_6,s2_7,rfl⟩:=hp.shape;refine cE hw (fun _ w' v w2=>cP w2 (Nf w' w2) v (eH xs ys i+x*y)) (fun O w' r=>FW (Rel.old r (cB w)) ((hd.rel r (cB w)).l (by omega)) ((hp.rel r (cB w)).l (by omega))) ?_;rintro O wa3 v3 wb3 iv3 r he hw h_ hn;have hd2:=hn.c9 (S:=fun _=>False) r.cD (mN h_);obtain⟨s3_0,s3_1,s3_2,s3_3,s3_4,s3_5,s3_6,s3_7,rfl⟩:=hd2.shape;rw[show eH xs ys i+x*y=eH xs ys (i+1) by rw[eH,hx2,hy2]]at hd2;refine⟨((i+1:Nat):Int),wo,?_⟩;intro ρ3 w3 r3;exact⟨(i+1,(s3_0,s3_4),(s3_1,s3_5),(s3_2,s3_3,s3_6,s3_7),w3,_),⟨hib,hw.tr r3.cM,hd2.rel r3 (cB w)⟩,Sub.gn [] r3,by dsimp only;omega⟩
 have hib:i=xs.length:=aR hi (by simpa using hib);subst hib;intro ρe we re;exact⟨_,rfl,hw.tr re.cM,hd.out re (cB w)⟩
section
variable{S:Nat->Prop}{H:Hp}{nx:Nat}{iv iv':Iv}{B:Nat}{w w' w2:World}{O:Nat->Sx.df}{css:List (List Value)}{qs:List Rat}
theorem Fc.rel(h:Fc w (Cv S B iv) css qs)(r:Rel H nx iv B w O w')(hS:∀g,S g->g<B):Fc w' (Cv S B iv) css qs:=h.cG fun _ hg=>Rel.same r hS hg
theorem Fc.cF(h:Fc w (Cv S B iv) css qs)(r:Rel H nx iv B w O w')(hS:∀g,S g->g<B)(he:Ext w' w2)(hm:∀p,p∈iv->p∈iv'):Fc w2 (Cv S B iv') css qs:=
 ((h.rel r hS).cG fun g hg=>he.block g (Rel.old r hS g hg)).cI fun _ hg=>hg.mono hm
theorem Fc.push(h:Fc w S css qs)(hc:gg w S cs q):Fc w S (css++[cs]) (qs++[q]):=by
 refine⟨by simp[h.1],fun j x p h1 h2=>?_⟩;rcases aQ j css.length with hi|hi
 ·rw[aM hi]at h1;rw[aM (by rw[<-h.1];exact hi)]at h2;exact h.2 j x p h1 h2
 ·have hi0:j=css.length:=by have:=(aE.1 h1).1;simp at this;omega
  subst hi0;rw[aO (aG _),bM]at h1;rw[h.1,aO (aG _),bM]at h2;simp at h1 h2;subst h1 h2;exact hc
end
section
variable{S S':Nat->Prop}{H:Hp}{nx:Nat}{iv iv':Iv}{B:Nat}{w w' w2:World}{O:Nat->Sx.df}{v:Value}{b:List (Int×Int)}
end
def jO(qs:List Rat):List (Int×Int):=qs.map fun q=>(q.num,(q.den:Int))
theorem BE(qs:List Rat):(jO qs).length=qs.length:=aL ..
theorem EB(qs:List Rat):(jO qs).map JG=qs:=by
 unfold jO;rw[List.map_map];exact(List.map_congr_left fun q _=>nm q).trans (List.map_id qs)
theorem FM(K:List (List Rat)):kA (K.map jO)=K:=by
 unfold kA;rw[List.map_map];exact(List.map_congr_left fun q _=>EB q).trans (List.map_id K)
theorem cO.jO(h:cO w S v qs):jz w S v (jO qs):=by
 obtain⟨css,h1,h2,h3,h4⟩:=h;refine⟨css,by unfold Go.Ex.jO;rw[aL];exact h1,by unfold Go.Ex.jO;rw[aL];exact h2,h3,fun j cs x k1 k2=>?_⟩;unfold Go.Ex.jO at k2;rw[aN]at k2;obtain⟨q,hq,rfl⟩:=Option.map_eq_some_iff.1 k2;obtain⟨b,a,n,c,b2,a2,n2,c2,rfl,hr⟩:=h4 j cs q k1 hq;exact hr.four
theorem cR.jO(h:cR w S v K):jN w S v (K.map jO):=by
 obtain⟨rv,h1,h2,h3⟩:=h;refine⟨rv,by rw[aL];exact h1,by rw[aL];exact h2,fun i u x k1 k2=>?_⟩;rw[aN]at k2;obtain⟨q,hq,rfl⟩:=Option.map_eq_some_iff.1 k2;exact(h3 i u q k1 hq).jO
section
variable{S:Nat->Prop}{w:World}{v u:Value}{M:List (List (Int×Int))}{b:List (Int×Int)}
end
theorem cR.l(h:cR w S v K)(hq:∀r∈K,∀q∈r,rl q<=100000):eD w S v K:=by
 obtain⟨rv,h1,h2,h3⟩:=h;exact⟨rv,h1,h2,fun i u x k1 k2=>(h3 i u x k1 k2).l (hq x (aD k2))⟩
theorem eI.zero:eI w S (.agg #[.bool false,.slice none 0 0,.bool false,.slice none 0 0]) 0:=
 ⟨_,_,_,_,0,0,rfl,⟨false,[],⟨_,rfl,dH.nil _ _⟩,rfl,aP _⟩,⟨false,[],⟨_,rfl,dH.nil _ _⟩,rfl,aP _⟩,by decide⟩
section
variable{S:Nat->Prop}{w:World}{v u:Value}{M:List (List (Int×Int))}{x:List Rat}
end
theorem pR(q:Rat):rs (q-0)=rs q:=by rw[show q-0=q by grind]
theorem jK(n:Int)(w:World)(h1n: -9223372036854775808<=n)(h2n:n<=9223372036854775807):dm PG N.qf #[.int .i64 n] w (eB w fun v' w2=>cP w2 (Nf w w2) v' (n:Rat)):=by
 have hw:cV w.heap.size w w:=cV.refl;refine uS (by simp) ?_;refine cC (cE hw (fun _ w' v w2=>cP w2 (Nf w' w2) v ((n:Rat))) (fun O w' r=>Eg n w' h1n h2n) ?_);rintro O wa1 v1 wb1 iv1 r he hw h_ hn;have hd:=hn.c9 (S:=fun _=>False) r.cD (mN h_);obtain⟨s1_0,s1_1,s1_2,s1_3,s1_4,s1_5,s1_6,s1_7,rfl⟩:=hd.shape;intro ρe we re;exact⟨_,rfl,hw.tr re.cM,hd.out re (cB w)⟩
theorem qD(hS:Old S w)(hq:eI w S v q):dm PG N.sj #[v] w (eB w fun v' _=>∃d,v'= .bool d∧(d=true↔q=0)):=by
 have hw:cV w.heap.size w w:=cV.refl;obtain⟨f0,f1,f2,f3,f4,f5,f6,f7,rfl⟩:=hq.shape;refine wM (by simp) ?_;refine cC (cE hw (fun _ w' v w2=>v= .int .i64 (rs q)) (fun O w' r=>(Eh (oS hS r) (hq.v.cG (kS hw r hS)) (eI.zero (S:=S)).v).mono fun _ _ ⟨v2,e1,e2,e3⟩=>⟨v2,e1,e2,by rw[e3,pR]⟩) ?_);rintro O wa1 v1 wb1 iv1 r he hw h_ rfl;intro ρe we re;refine⟨_,rfl,hw.tr re.cM,_,rfl,?_⟩;rw[beq_iff_eq];exact nX
theorem I0(hS:Old S w)(hp:eI w S v p)(hq:eI w S u q)(h0:q≠0):dm PG N.vM #[v,u] w (eB w fun v' w2=>cP w2 (Nf w w2) v' (p / q)):=by
 have hw:cV w.heap.size w w:=cV.refl;obtain⟨f0,f1,f2,f3,f4,f5,f6,f7,rfl⟩:=hp.shape;obtain⟨g0,g1,g2,g3,g4,g5,g6,g7,rfl⟩:=hq.shape;refine yo (by simp) ?_;refine cC (cE hw (fun _ w' v w2=>∃r,v= .tuple #[r,.int .i64 0]∧cP w2 (Nf w' w2) r (p / q)) (fun O w' r=>(LK (oS hS r) (hp.v.cG (kS hw r hS)) (hq.v.cG (kS hw r hS))).mono fun _ _ ⟨v2,e1,e2,e3⟩=>⟨v2,e1,e2,e3.elim (fun h=>absurd h.1 h0) fun h=>h.2⟩) ?_);rintro O wa1 v1 wb1 iv1 r he hw h_ ⟨q1,rfl,k1⟩;have hd:=k1.c9 (S:=fun _=>False) r.cD (mN h_);obtain⟨s1_0a,s1_0b,s1_0c,s1_0d,s1_0e,s1_0f,s1_0g,s1_0h,rfl⟩:=hd.shape;intro ρe we re;exact⟨_,rfl,hw.tr re.cM,hd.out re (cB w)⟩
theorem I1(hS:Old S w)(hq:eI w S v q):dm PG N.vS #[v] w (eB w fun v' w2=>cP w2 (Nf w w2) v' (-q)):=by
 have hw:cV w.heap.size w w:=cV.refl;obtain⟨f0,f1,f2,f3,f4,f5,f6,f7,rfl⟩:=hq.shape;refine yv (by simp) ?_;refine cC (cE hw (fun _ w' v w2=>cP w2 (Nf w' w2) v (-q)) (fun O w' r=>(I2 (oS hS r) (eI.zero (S:=S)).v (hq.v.cG (kS hw r hS))).mono fun _ _ ⟨v2,e1,e2,e3⟩=>⟨v2,e1,e2,by rwa [show (0:Rat)-q= -q by grind]at e3⟩) ?_);rintro O wa1 v1 wb1 iv1 r he hw h_ hn;have hd:=hn.c9 (S:=fun _=>False) r.cD (mN h_);obtain⟨s1_0,s1_1,s1_2,s1_3,s1_4,s1_5,s1_6,s1_7,rfl⟩:=hd.shape;intro ρe we re;exact⟨_,rfl,hw.tr re.cM,hd.out re (cB w)⟩
theorem Ei(hS:Old S w)(hx:cX w S v xs)(hy:cX w S u ys)(hl:xs.length<=ys.length)(hqx:∀q∈xs,rl q+1<=h)(hqy:∀q∈ys,rl q+1<=h)(h2:2<=h)(hb:2*h*xs.length<=90000):
  dm PG N.vN #[v,u] w (eB w fun v' w2=>cP w2 (Nf w w2) v' (eH xs ys xs.length)):=by
 have hw:cV w.heap.size w w:=cV.refl;obtain⟨ax,cx,rfl,hcx,hmx⟩:=dL.shape hx;obtain⟨ay,cy,rfl,hcy,-⟩:=dL.shape hy;unfold maxLen at hmx;refine yp (by simp) ?_;refine cC (cE hw (fun _ w' v w2=>cP w2 (Nf w' w2) v (((0:Int):Rat))) (fun O w' r=>jK 0 w' (by decide) (by decide)) ?_);rintro O wa1 v1 wb1 iv1 r he hw h_ hn;have hd:=hn.c9 (S:=fun _=>False) r.cD (mN h_);obtain⟨s1_0,s1_1,s1_2,s1_3,s1_4,s1_5,s1_6,s1_7,rfl⟩:=hd.shape;rw[show ((0:Int):Rat)=eH xs ys 0 from rfl]at hd
 refine⟨Nat×(Bool×Bool)×(Option Addr×Option Addr)×(Nat×Nat×Nat×Nat)×World×Iv,fun z=>⟨[(1,.o (.v (.slice ay ys.length cy))),(4,.o (.p 0 0)),(5,.o (.p 1 0)),(9,.o (.v (.slice ax xs.length cx))),(10,.o (.v (.int .i64 xs.length))),(11,.o (.v (.int .i64 ((z.1:Nat):Int))))],[(1,.box T.Rat [.v (.bool z.2.1.1),.v (.slice z.2.2.1.1 z.2.2.2.1.1 z.2.2.2.1.2.1),.v (.bool z.2.1.2),.v (.slice z.2.2.1.2 z.2.2.2.1.2.2.1 z.2.2.2.1.2.2.2)]),(0,.box T.Rat [.v (.bool false),.v (.slice none 0 0),.v (.bool false),.v (.slice none 0 0)])],2,z.2.2.2.2.2,z.2.2.2.2.1⟩,fun z=>xs.length-z.1,
  fun z=>z.1<=xs.length∧cV w.heap.size w z.2.2.2.2.1∧cP z.2.2.2.2.1 (Cf w z.2.2.2.2.2) (.agg #[.bool z.2.1.1,.slice z.2.2.1.1 z.2.2.2.1.1 z.2.2.2.1.2.1,.bool z.2.1.2,.slice z.2.2.1.2 z.2.2.2.1.2.2.1 z.2.2.2.1.2.2.2]) (eH xs ys z.1),?_,?_⟩
 ·intro O w' r;exact⟨(0,(s1_0,s1_4),(s1_1,s1_5),(s1_2,s1_3,s1_6,s1_7),w',iv1),⟨by simp,hw.tr r.cM,hd.rel r (cB w)⟩,Sub.gn [] r⟩
 rintro⟨i,⟨p0,p4⟩,⟨p1,p5⟩,⟨p2,p3,p6,p7⟩,w1,iv⟩ ⟨hi,hw,hd⟩;dsimp only at hi hw hd ⊢;refine dI.mk (fun hib=>?_) (fun hib=>?_)
 ·have hib:i<xs.length:=by simpa using hib
  have hs:=ki hqx hqy h2 i;have hs2:2*h*i<=2*h*xs.length:=bW _ hi;have hs3:2*h*1<=2*h*xs.length:=bW _ (by omega);obtain⟨x,hxi⟩:∃x,xs[i]? =some x:=⟨_,aB hib⟩
  obtain⟨y,hyi⟩:∃x,ys[i]? =some x:=⟨_,aB (by omega)⟩
  have hx3:=hqx x (aD hxi);have hy3:=hqy y (aD hyi);have hx2:xs.getD i 0=x:=by rw[List.getD,hxi];rfl
  have hy2:ys.getD i 0=y:=by rw[List.getD,hyi];rfl
  have hm:=iF x y;obtain⟨adx,csx,hax,hFx,-,hlx⟩:=dL.load hx hxi;obtain⟨ady,csy,hay,hFy,-,hly⟩:=dL.load hy hyi;obtain⟨f0,f1,f2,f3,f4,f5,f6,f7,rfl,hFx⟩:=hFx;obtain⟨q0,q1,q2,q3,q4,q5,q6,q7,rfl,hFy⟩:=hFy;refine⟨adx,hax,by omega,[.bool f0,.slice f1 f2 f3,.bool f4,.slice f5 f6 f7],rfl,rdO hlx hw hS,?_⟩;refine cC (cE hw (fun _ w' v w2=>∃d,v= .bool d∧(d=true↔x=0)) (fun O w' r=>qD (oS hS r) (hFx.cG (kS hw r hS))) ?_);rintro O wa2 v2 wb2 iv2 r he hw h_ ⟨d1,rfl,hz1⟩;replace hd:=hd.cF r (cB w) he (mC h_)
  cases d1
  ·refine⟨ady,hay,by omega,[.bool q0,.slice q1 q2 q3,.bool q4,.slice q5 q6 q7],rfl,rdO hly hw hS,?_⟩;refine cC (cE hw (fun _ w' v w2=>∃d,v= .bool d∧(d=true↔y=0)) (fun O w' r=>qD (oS hS r) (hFy.cG (kS hw r hS))) ?_);rintro O wa3 v3 wb3 iv3 r he hw h_ ⟨d2,rfl,hz2⟩;replace hd:=hd.cF r (cB w) he (mC h_)
   cases d2
   ·refine cJ hτ db [.x 0,.x 1,.x 2,.x 3,.x 4,.x 5,.x 6,.x 7,.x 8] (by kernel_rfl) (by kernel_rfl) ?_;refine⟨ady,hay,by omega,[.bool q0,.slice q1 q2 q3,.bool q4,.slice q5 q6 q7],rfl,rdO hly hw hS,?_⟩;refine cE hw (fun _ w' v w2=>cP w2 (Nf w' w2) v (x*y)) (fun O w' r=>zD (oS hS r) (hFx.v.cG (kS hw r hS)) (hFy.v.cG (kS hw r hS))) ?_;rintro O wa4 v4 wb4 iv4 r he hw h_ hn;replace hd:=hd.cF r (cB w) he (mC h_);have hp:=hn.c9 (S:=fun _=>False) r.cD (mN h_);obtain⟨s4_0,s4_1,s4_2,s4_3,s4_4,s4_5,s4_6,s4_7,rfl⟩:=hp.shape;refine cE hw (fun _ w' v w2=>cP w2 (Nf w' w2) v (eH xs ys i+x*y)) (fun O w' r=>I4 (Rel.old r (cB w)) ((hd.rel r (cB w)).v (by omega)) ((hp.rel r (cB w)).v (by omega))) ?_;rintro O wa5 v5 wb5 iv5 r he hw h_ hn;have hd2:=hn.c9 (S:=fun _=>False) r.cD (mN h_);obtain⟨s5_0,s5_1,s5_2,s5_3,s5_4,s5_5,s5_6,s5_7,rfl⟩:=hd2.shape;rw[show eH xs ys i+x*y=eH xs ys (i+1) by rw[eH,hx2,hy2]]at hd2;refine⟨((i+1:Nat):Int),wo,?_⟩;intro ρ3 w3 r3;exact⟨(i+1,(s5_0,s5_4),(s5_1,s5_5),(s5_2,s5_3,s5_6,s5_7),w3,_),⟨hib,hw.tr r3.cM,hd2.rel r3 (cB w)⟩,Sub.gn [] r3,by dsimp only;omega⟩
   ·have hy0:y=0:=hz2.1 rfl;rw[show eH xs ys i=eH xs ys (i+1) by rw[eH,hx2,hy2,hy0,bC,bX]]at hd;refine⟨((i+1:Nat):Int),wo,?_⟩;intro ρ3 w3 r3;exact⟨(i+1,(p0,p4),(p1,p5),(p2,p3,p6,p7),w3,_),⟨hib,hw.tr r3.cM,hd.rel r3 (cB w)⟩,Sub.gn [] r3,by dsimp only;omega⟩
  ·have hx0:x=0:=hz1.1 rfl;rw[show eH xs ys i=eH xs ys (i+1) by rw[eH,hx2,hy2,hx0,bG,bX]]at hd;refine⟨((i+1:Nat):Int),wo,?_⟩;intro ρ3 w3 r3;exact⟨(i+1,(p0,p4),(p1,p5),(p2,p3,p6,p7),w3,_),⟨hib,hw.tr r3.cM,hd.rel r3 (cB w)⟩,Sub.gn [] r3,by dsimp only;omega⟩
 have hib:i=xs.length:=aR hi (by simpa using hib);subst hib;intro ρe we re;exact⟨_,rfl,hw.tr re.cM,hd.out re (cB w)⟩
structure fb(w:World)(S:Nat->Prop)(n i:Nat)(css:List (List Value))(qs:List Rat):Prop where
 len:css.length=n
 four:∀cs∈css,cs.length=4
 one:∀cs∈css,∀u∈cs,u.oneCell'=true
 at_:∀(j:Nat) cs q,j<i->css[j]? =some cs->qs[j]? =some q->gg w S cs q
section
variable{S S':Nat->Prop}{H:Hp}{nx n i:Nat}{iv iv':Iv}{B:Nat}{w w1 w' w2:World}{O:Nat->Sx.df}{css:List (List Value)}{qs:List Rat}
theorem fb.cG(h:fb w S n i css qs)(hk:∀g,S g->w2.heap[g]? =w.heap[g]?):fb w2 S n i css qs:=⟨h.len,h.four,h.one,fun j cs q hj h1 h2=>(h.at_ j cs q hj h1 h2).cG hk⟩
theorem fb.cI(h:fb w S n i css qs)(hk:∀g,S g->S' g):fb w S' n i css qs:=⟨h.len,h.four,h.one,fun j cs q hj h1 h2=>(h.at_ j cs q hj h1 h2).cI hk⟩
theorem fb.rel(h:fb w (Cv S B iv) n i css qs)(r:Rel H nx iv B w O w')(hS:∀g,S g->g<B):fb w' (Cv S B iv) n i css qs:=h.cG fun _ hg=>Rel.same r hS hg
theorem fb.cF(h:fb w (Cv S B iv) n i css qs)(r:Rel H nx iv B w O w')(hS:∀g,S g->g<B)(he:Ext w' w2)(hm:∀p,p∈iv->p∈iv'):fb w2 (Cv S B iv') n i css qs:=
 ((h.rel r hS).cG fun g hg=>he.block g (Rel.old r hS g hg)).cI fun _ hg=>hg.mono hm
theorem fb.start(w:World)(S:Nat->Prop)(n:Nat)(qs:List Rat):fb w S n 0 (List.replicate n f0) qs:=
 ⟨by simp,fun cs hc=>by rw[bV hc];rfl,fun cs hc u hu=>by rw[bV hc]at hu;simp[f0]at hu;rcases hu with rfl|rfl|rfl|rfl<;>rfl,fun j cs q hj=>by omega⟩
theorem fb.next{b b2:Bool}{a2:Option Addr}{m c m2 c2:Nat}(h:fb w S n i css qs)(hi:i<n)(hq:qs[i]? =some q)(hf:cP w S (.agg #[.bool b,.slice a m c,.bool b2,.slice a2 m2 c2]) q):
  fb w S n (i+1) (css.set i [.bool b,.slice a m c,.bool b2,.slice a2 m2 c2]) qs:=by
 refine⟨by simp[h.len],fun cs hc=>?_,fun cs hc u hu=>?_,fun j cs p hj h1 h2=>?_⟩
 ·rcases bI hc with hc|rfl
  ·exact h.four cs hc
  ·rfl
 ·rcases bI hc with hc|rfl
  ·exact h.one cs hc u hu
  ·simp at hu;rcases hu with rfl|rfl|rfl|rfl<;>rfl
 ·by_cases hij:i=j
  ·subst hij;rw[aW (by rw[h.len];exact hi)]at h1;rw[hq]at h2;injection h1 with h1;injection h2 with h2;subst h1 h2;exact hf.pS
  ·rw[bA hij]at h1;exact h.at_ j cs p (by omega) h1 h2
theorem fb.flat(h:fb w S n i css qs):css.flatten.length=n*4:=by rw[e9 h.four,h.len]
theorem fb.done{w0:World}(h:fb w1 (Cf w0 iv) n n css qs)(hl:qs.length=n)(hn:n<=maxLen)(r:Rel H nx iv w0.heap.size w1 O w'){id:Nat}(hH:dA H id=some (.arr T.Rat css.flatten))(hnil:(O id).nil=false):
  dS w' (fun _=>False) w0.heap.size [(w0.heap.size,w'.heap.size)] (.slice (some ⟨(O id).g,0,none⟩) n n) n qs:=by
 have h2:=h.rel r (cB w0);have hlow:=r.low id _ hH hnil;refine⟨⟨css,⟨h.flat,.inr ⟨(O id).g,n,css.flatten.toArray,rfl,aP _,r.arr id _ _ hH,aG _,hn,by simpa using h.flat,?_⟩⟩,h.len,?_⟩,fun g hg=>?_⟩
 ·rw[<-h.flat];exact bE
 ·refine⟨by rw[h.len,hl],fun j cs q h3 h4=>?_⟩;refine(h2.at_ j cs q (by rw[<-hl];exact(aE.1 h4).1) h3 h4).cI fun g hg=>⟨?_,fun e=>?_⟩
  ·rcases hg with hg|⟨k1,lo,hi,k2,k3,k4⟩
   ·exact hg.elim
   ·exact .inr ⟨k1,_,_,bD.2 rfl,k1,by have:=r.qV lo hi k2;have:=r.size;omega⟩
  ·injection e with e;exact Rel.not r (cB w0) hg id _ hH hnil e
 ·injection hg with hg;subst hg;exact .inr ⟨hlow.1,_,_,bD.2 rfl,hlow.1,hlow.2⟩
theorem fm.c(h:fm w S S v qs):cO w S v qs:=by
 obtain⟨css,h1,h2⟩:=h;exact⟨css,h1,h2.1,h2.wW,h2.2⟩
theorem dS.c(h:dS w S B iv v n qs):cO w (Cv S B iv) v qs:=h.read.c
theorem cO.rc(h:cO w S v qs):fm w S S v qs:=by
 obtain⟨css,h1,h2,h3,h4⟩:=h;exact⟨css,h1,h2,h4⟩
theorem fm.rel(h:fm w (Cv C B iv) (Cv S B iv) v qs)(r:Rel H nx iv B w O w')(hC:∀g,C g->g<B)(hS:∀g,S g->g<B):fm w' (Cv C B iv) (Cv S B iv) v qs:=
 h.cG fun _ hg=>hg.elim (Rel.same r hC) (Rel.same r hS)
theorem fm.cF(h:fm w (Cv C B iv) (Cv S B iv) v qs)(r:Rel H nx iv B w O w')(hC:∀g,C g->g<B)(hS:∀g,S g->g<B)(he:Ext w' w2)(hm:∀p,p∈iv->p∈iv'):fm w2 (Cv C B iv') (Cv S B iv') v qs:=
 ((h.rel r hC hS).cG fun g hg=>he.block g (hg.elim (Rel.old r hC g) (Rel.old r hS g))).cI (fun _ hg=>hg.mono hm) (fun _ hg=>hg.mono hm)
theorem fm.arg(h:fm w C S v qs)(iv:Iv):fm w (Cv C w.heap.size iv) (Cv S w.heap.size iv) v qs:=h.cI (fun _ h=>.inl h) (fun _ h=>.inl h)
theorem fm.shape(h:fm w C S v qs):∃a c,v= .slice a qs.length c∧qs.length<=c∧qs.length<=maxLen:=by
 obtain⟨css,⟨h0,_,_,a,c,h1,h2,_⟩,_⟩:=h;exact⟨a,c,h1,h2,h0⟩
theorem fm.load{n c j:Nat}(h:fm w C S (.slice a n c) qs)(hq:qs[j]? =some q):
  ∃ad cs,a=some ad∧gg w S cs q∧∀k u,cs[k]? =some u->C ad.block∧w.cell? ((ad.add (j*4)).add k)=some u:=by
 obtain⟨css,⟨h0,h1,h2,a',c',e,h3,h4⟩,hf⟩:=h;injection e with e1 e2 e3;subst e1;obtain⟨cs,hcs⟩:∃cs,css[j]? =some cs:=⟨_,aB (by rw[hf.1];exact(aE.1 hq).1)⟩
 have hF:=hf.2 j cs q hcs hq;have hl:=hF.len;obtain⟨ad,k1,k2,k3⟩:=h4 (j*4+0) _ (flat_get hf.wW hcs 0 _ (aB (show 0<cs.length by omega)));refine⟨ad,cs,k1,hF,fun k u hu=>?_⟩;obtain⟨ad2,m1,m2,m3⟩:=h4 (j*4+k) u (flat_get hf.wW hcs k u hu);rw[k1]at m1;injection m1 with m1;subst m1;refine⟨m2,?_⟩;rw[<-m3];have:(ad.add (j*4)).add k=ad.add (j*4+k):=by
  unfold Addr.add;split<;>split<;>simp_all<;>omega
 rw[this]
theorem D4{j:Nat}{c:Nat}(h:w.ownsRow 0 T.Rat 4 (.slice a n c) n css.flatten)(hf:Fc w S css qs)(hj:css[j]? =some cs):
  ∃g,a=some ⟨g,0,none⟩∧∀k u,cs[k]? =some u->w.cell? ((Addr.add ⟨g,0,none⟩ (j*4)).add k)=some u:=by
 rcases h.2 with⟨h1,h0⟩|⟨g,cap,cur,hv2,_⟩
 ·have:=h.1;rw[e9 hf.wW]at this;have:=(aE.1 hj).1;omega
 ·injection hv2 with h1 h2 h3;subst h1;refine⟨g,rfl,fun k u hu=>?_⟩;have:=h.cells (g:=g) rfl (j*4+k) u (flat_get hf.wW hj k u hu);rw[dP,dP];rw[dP]at this;rw[Nat.add_assoc];exact this
end
theorem D5(n:Nat)(w:World)(hn:n<=1000000):dm PG N.qh #[.int .i64 n] w (eB w fun v' w2=>dS w2 (fun _=>False) w.heap.size [(w.heap.size,w2.heap.size)] v' n (List.replicate n 0)):=by
 have hw:cV w.heap.size w w:=cV.refl;refine uW (by simp) ?_
 refine⟨n,n,rfl,rfl,aG _,by omega,by omega,Nat×List (List Value)×Iv×World,fun z=>⟨[(3,.o (.s 0 0 n n)),(8,.o (.v (.int .i64 n))),(9,.o (.v (.int .i64 ((z.1:Nat):Int))))],[(0,.arr T.Rat z.2.1.flatten)],1,z.2.2.1,z.2.2.2⟩,fun z=>n-z.1,
  fun z=>z.1<=n∧cV w.heap.size w z.2.2.2∧fb z.2.2.2 (Cf w z.2.2.1) (n) z.1 z.2.1 (List.replicate n 0),?_,?_⟩
 ·intro O w' r;exact⟨(0,List.replicate (n) f0,_,w'),⟨by simp,hw.tr r.cM,fb.start _ _ _ _⟩,Sub.gn [] r⟩
 rintro⟨i,css,iv,w1⟩ ⟨hi,hw,hF⟩;dsimp only at hi hw hF ⊢;refine dI.mk (fun h=>?_) (fun h=>?_)
 ·have h:i<n:=by simpa using h
  refine cC (cE hw (fun _ w' v w2=>cP w2 (Nf w' w2) v (((0:Int):Rat))) (fun O w' r=>jK 0 w' (by decide) (by decide)) ?_);rintro O wa1 v1 wb1 iv1 r he hw h_ hn;replace hF:=hF.cF r (cB w) he (mC h_);have hd:=hn.c9 (S:=fun _=>False) r.cD (mN h_);obtain⟨s1_0,s1_1,s1_2,s1_3,s1_4,s1_5,s1_6,s1_7,rfl⟩:=hd.shape;have hnext:=hF.next h (q:=_) (by simp[h]) hd
  refine⟨by omega,by have:=hF.flat;omega,(css.set i [.bool s1_0,.slice s1_1 s1_2 s1_3,.bool s1_4,.slice s1_5 s1_6 s1_7]).flatten,?_,?_⟩
  ·have:=ie (cs:=[.bool s1_0,.slice s1_1 s1_2 s1_3,.bool s1_4,.slice s1_5 s1_6 s1_7]) hF.four (show i<css.length by rw[hF.len];exact h);rw[<-this];simp
  refine⟨((i+1:Nat):Int),wo,?_⟩;intro ρ3 w3 r3;exact⟨(i+1,css.set i [.bool s1_0,.slice s1_1 s1_2 s1_3,.bool s1_4,.slice s1_5 s1_6 s1_7],_,w3),⟨h,hw.tr r3.cM,hnext.rel r3 (cB w)⟩,Sub.gn [] r3,by dsimp only;omega⟩
 have h:i=n:=aR hi (by simpa using h);subst h;intro ρe we re;exact⟨_,rfl,hw.tr re.cM,hF.done (by simp) (by unfold maxLen;omega) re (id:=0) rfl (re.nn 0 _ rfl (by intros;simp) (by simp))⟩
theorem ub{b:Rat}(hS:Old S w)(hx:cX w S v xs)(hb:eI w S u b)(hn:xs.length<=1000000):
  dm PG N.oy #[v,u] w (eB w fun v' w2=>dS w2 (fun _=>False) w.heap.size [(w.heap.size,w2.heap.size)] v' xs.length (da xs b)):=by
 have hw:cV w.heap.size w w:=cV.refl;obtain⟨ax,cx,rfl,hcx,hmx⟩:=dL.shape hx;obtain⟨g0,g1,g2,g3,g4,g5,g6,g7,rfl⟩:=hb.shape;have hby:rl b<=100000:=hb.rl;refine tG (by simp) ?_
 refine⟨xs.length,xs.length,rfl,rfl,aG _,by omega,by omega,Nat×List (List Value)×Iv×World,fun z=>⟨[(3,.o (.p 0 0)),(5,.o (.s 1 0 xs.length xs.length)),(11,.o (.v (.slice ax xs.length cx))),(12,.o (.v (.int .i64 xs.length))),(13,.o (.v (.int .i64 ((z.1:Nat):Int))))],[(0,.box T.Rat [.v (.bool g0),.v (.slice g1 g2 g3),.v (.bool g4),.v (.slice g5 g6 g7)]),(1,.arr T.Rat z.2.1.flatten)],2,z.2.2.1,z.2.2.2⟩,fun z=>xs.length-z.1,
  fun z=>z.1<=xs.length∧cV w.heap.size w z.2.2.2∧fb z.2.2.2 (Cf w z.2.2.1) (xs.length) z.1 z.2.1 (da xs b),?_,?_⟩
 ·intro O w' r;exact⟨(0,List.replicate (xs.length) f0,_,w'),⟨by simp,hw.tr r.cM,fb.start _ _ _ _⟩,Sub.gn [] r⟩
 rintro⟨i,css,iv,w1⟩ ⟨hi,hw,hF⟩;dsimp only at hi hw hF ⊢;refine dI.mk (fun h=>?_) (fun h=>?_)
 ·have h:i<xs.length:=by simpa using h
  obtain⟨x,hxi⟩:∃x,xs[i]? =some x:=⟨_,aB h⟩
  obtain⟨adx,csx,hax,hFx,-,hlx⟩:=dL.load hx hxi;obtain⟨f0,f1,f2,f3,f4,f5,f6,f7,rfl,hFx⟩:=hFx;refine⟨adx,hax,by omega,[.bool f0,.slice f1 f2 f3,.bool f4,.slice f5 f6 f7],rfl,rdO hlx hw hS,?_⟩;refine cC (cE hw (fun _ w' v w2=>cP w2 (Nf w' w2) v (x*b)) (fun O w' r=>zD (oS hS r) (hFx.v.cG (kS hw r hS)) (hb.v.cG (kS hw r hS))) ?_);rintro O wa1 v1 wb1 iv1 r he hw h_ hn;replace hF:=hF.cF r (cB w) he (mC h_);have hd:=hn.c9 (S:=fun _=>False) r.cD (mN h_);obtain⟨s1_0,s1_1,s1_2,s1_3,s1_4,s1_5,s1_6,s1_7,rfl⟩:=hd.shape;have hnext:=hF.next h (q:=_) (by rw[da,aN,hxi];rfl) hd
  refine⟨by omega,by have:=hF.flat;omega,(css.set i [.bool s1_0,.slice s1_1 s1_2 s1_3,.bool s1_4,.slice s1_5 s1_6 s1_7]).flatten,?_,?_⟩
  ·have:=ie (cs:=[.bool s1_0,.slice s1_1 s1_2 s1_3,.bool s1_4,.slice s1_5 s1_6 s1_7]) hF.four (show i<css.length by rw[hF.len];exact h);rw[<-this];simp
  refine⟨((i+1:Nat):Int),wo,?_⟩;intro ρ3 w3 r3;exact⟨(i+1,css.set i [.bool s1_0,.slice s1_1 s1_2 s1_3,.bool s1_4,.slice s1_5 s1_6 s1_7],_,w3),⟨h,hw.tr r3.cM,hnext.rel r3 (cB w)⟩,Sub.gn [] r3,by dsimp only;omega⟩
 have h:i=xs.length:=aR hi (by simpa using h);subst h;intro ρe we re;exact⟨_,rfl,hw.tr re.cM,hF.done (by simp[da]) (by unfold maxLen;omega) re (id:=1) rfl (re.nn 1 _ rfl (by intros;simp) (by simp))⟩
theorem CB(hS:Old S w)(hx:cX w S v xs)(hy:cX w S u ys)(hl:xs.length<=ys.length)(hn:xs.length<=1000000):
  dm PG N.sd #[v,u] w (eB w fun v' w2=>dS w2 (fun _=>False) w.heap.size [(w.heap.size,w2.heap.size)] v' xs.length (eJ xs ys)):=by
 have hw:cV w.heap.size w w:=cV.refl;obtain⟨ax,cx,rfl,hcx,hmx⟩:=dL.shape hx;obtain⟨ay,cy,rfl,hcy,hmy⟩:=dL.shape hy;refine wG (by simp) ?_
 refine⟨xs.length,xs.length,rfl,rfl,aG _,by omega,by omega,Nat×List (List Value)×Iv×World,fun z=>⟨[(0,.o (.v (.slice ax xs.length cx))),(1,.o (.v (.slice ay ys.length cy))),(5,.o (.s 0 0 xs.length xs.length)),(11,.o (.v (.int .i64 xs.length))),(12,.o (.v (.int .i64 ((z.1:Nat):Int))))],[(0,.arr T.Rat z.2.1.flatten)],1,z.2.2.1,z.2.2.2⟩,fun z=>xs.length-z.1,
  fun z=>z.1<=xs.length∧cV w.heap.size w z.2.2.2∧fb z.2.2.2 (Cf w z.2.2.1) (xs.length) z.1 z.2.1 (eJ xs ys),?_,?_⟩
 ·intro O w' r;exact⟨(0,List.replicate (xs.length) f0,_,w'),⟨by simp,hw.tr r.cM,fb.start _ _ _ _⟩,Sub.gn [] r⟩
 rintro⟨i,css,iv,w1⟩ ⟨hi,hw,hF⟩;dsimp only at hi hw hF ⊢;refine dI.mk (fun h=>?_) (fun h=>?_)
 ·have h:i<xs.length:=by simpa using h
  obtain⟨x,hxi⟩:∃x,xs[i]? =some x:=⟨_,aB h⟩
  obtain⟨y,hyi⟩:∃x,ys[i]? =some x:=⟨_,aB (by omega)⟩
  obtain⟨adx,csx,hax,hFx,-,hlx⟩:=dL.load hx hxi;obtain⟨f0,f1,f2,f3,f4,f5,f6,f7,rfl,hFx⟩:=hFx;obtain⟨ady,csy,hay,hFy,-,hly⟩:=dL.load hy hyi;obtain⟨q0,q1,q2,q3,q4,q5,q6,q7,rfl,hFy⟩:=hFy;refine cJ hτ db [.x 0,.x 1,.x 2,.x 3,.x 4,.x 5,.x 6,.x 7,.x 8,.x 9,.x 10,.x 11,.x 12] (by kernel_rfl) (by kernel_rfl) ?_;refine⟨adx,hax,by omega,[.bool f0,.slice f1 f2 f3,.bool f4,.slice f5 f6 f7],rfl,rdO hlx hw hS,ady,hay,by omega,[.bool q0,.slice q1 q2 q3,.bool q4,.slice q5 q6 q7],rfl,rdO hly hw hS,?_⟩;refine cE hw (fun _ w' v w2=>cP w2 (Nf w' w2) v (x*y)) (fun O w' r=>zD (oS hS r) (hFx.v.cG (kS hw r hS)) (hFy.v.cG (kS hw r hS))) ?_;rintro O wa1 v1 wb1 iv1 r he hw h_ hn;replace hF:=hF.cF r (cB w) he (mC h_);have hd:=hn.c9 (S:=fun _=>False) r.cD (mN h_);obtain⟨s1_0,s1_1,s1_2,s1_3,s1_4,s1_5,s1_6,s1_7,rfl⟩:=hd.shape;have hnext:=hF.next h (q:=_) (by rw[eJ,List.getElem?_mapIdx,hxi,List.getD,hyi];rfl) hd
  refine⟨by omega,by have:=hF.flat;omega,(css.set i [.bool s1_0,.slice s1_1 s1_2 s1_3,.bool s1_4,.slice s1_5 s1_6 s1_7]).flatten,?_,?_⟩
  ·have:=ie (cs:=[.bool s1_0,.slice s1_1 s1_2 s1_3,.bool s1_4,.slice s1_5 s1_6 s1_7]) hF.four (show i<css.length by rw[hF.len];exact h);rw[<-this];simp
  refine⟨((i+1:Nat):Int),wo,?_⟩;intro ρ3 w3 r3;exact⟨(i+1,css.set i [.bool s1_0,.slice s1_1 s1_2 s1_3,.bool s1_4,.slice s1_5 s1_6 s1_7],_,w3),⟨h,hw.tr r3.cM,hnext.rel r3 (cB w)⟩,Sub.gn [] r3,by dsimp only;omega⟩
 have h:i=xs.length:=aR hi (by simpa using h);subst h;intro ρe we re;exact⟨_,rfl,hw.tr re.cM,hF.done (by simp[eJ]) (by unfold maxLen;omega) re (id:=0) rfl (re.nn 0 _ rfl (by intros;simp) (by simp))⟩
theorem Jr{vby vs:Value}{n:Nat}{ps:List Rat}(hC:Old C w)(hS:Old S w)(hrw:gu w S v n qs)(hby:eI w S vby p)
  (hs:fm w C S vs ps) (hpl:ps.length=n) (hdis:∀g,v.ownBlock=some g->¬S g) (hdc:∀g,v.ownBlock=some g->¬C g) (hq:∀q∈qs,rl q+1<=h) (hps:∀q∈ps,rl q+1<=h) (hb:rl p+1<=h) (hh:3*h<=90000):
  dm PG N.nO #[v,vs,vby] w (fun e w2=>e= .returned (.tuple #[])∧w.grownBy w2 v.ownBlock∧gu w2 (Nw S w w2) v n (lJ qs ps p)):=by
 obtain⟨css,hrow,hcl,hfr⟩:=hrw;have hlow:∀g,v.ownBlock=some g->g<w.heap.size:=fun g hg=>(ownsRow.low hrow g hg).2;have hout:∀iv g,v.ownBlock=some g->Out w.heap.size iv g:=fun iv g hg=>.inl (hlow g hg);have hdis2:∀iv g,v.ownBlock=some g->¬Cv S w.heap.size iv g:=fun iv g hg h=>by
  rcases h with h|⟨h,_⟩
  ·exact hdis g hg h
  ·have:=hlow g hg;omega
 have hdis3:∀iv g,v.ownBlock=some g->¬Cv C w.heap.size iv g:=fun iv g hg h=>by
  rcases h with h|⟨h,_⟩
  ·exact hdc g hg h
  ·have:=hlow g hg;omega
 have hql:qs.length=n:=by rw[<-hfr.1,hcl]
 obtain⟨a,c,rfl,hnc⟩:=jL hrow;obtain⟨b1,a1,n1,c1,b2,a2,n2,c2,rfl⟩:=hby.shape;obtain⟨asl,cs0,rfl,hsc,hnm⟩:=hs.shape;rw[hpl]at hsc hnm hs ⊢;unfold maxLen at hnm;replace hfr:=hfr.cI (S':=Cv S w.heap.size []) fun _ h=>.inl h;replace hby:=hby.arg [];replace hs:=hs.arg [];refine wQ (by simp) ?_;have hrow2:=hrow;have hg:w.grownBy w (Value.slice a n c).ownBlock:=⟨rfl,rfl,rfl,aG _,fun _ _ _=>rfl⟩
 have hbyl:rl p<=100000:=hby.rl
 refine⟨Nat×List (List Value)×Iv×World,fun z=>⟨[(0,.o (.v (.slice a n c))),(5,.o (.p 0 0)),(8,.o (.v (.slice asl n cs0))),(9,.o (.v (.int .i64 n))),(10,.o (.v (.int .i64 z.1)))],
   [(0,.box T.Rat [.v (.bool b1),.v (.slice a1 n1 c1),.v (.bool b2),.v (.slice a2 n2 c2)])],1,z.2.2.1,z.2.2.2⟩,fun z=>n-z.1,
  fun z=>z.1<=n∧w.grownBy z.2.2.2 (Value.slice a n c).ownBlock∧z.2.2.2.ownsRow 0 T.Rat 4 (.slice a n c) n z.2.1.flatten∧z.2.1.length=n∧Fc z.2.2.2 (Cv S w.heap.size z.2.2.1) z.2.1 (gS z.1 (rH (-p) ps) qs)∧
   eI z.2.2.2 (Cv S w.heap.size z.2.2.1) (.agg #[.bool b1,.slice a1 n1 c1,.bool b2,.slice a2 n2 c2]) p∧fm z.2.2.2 (Cv C w.heap.size z.2.2.1) (Cv S w.heap.size z.2.2.1) (.slice asl n cs0) ps,?_,?_⟩
 ·intro O w' r
  refine⟨(0,css,[],w'),⟨by simp,fy hg r.cM,nY hrow2 (hout []) r,hcl,by rw[rf];exact hfr.rel r hS,hby.rel r hS,hs.rel r hC hS⟩,
   Sub.gn [] r⟩
 rintro⟨i,css,iv,w1⟩ ⟨hi,hg,hrow,hcl,hfr,hby,hs⟩;dsimp only at hi hg hrow hcl hfr hby hs ⊢;refine dI.mk (fun h=>?_) (fun h=>?_)
 ·have h:i<n:=by simpa using h
  obtain⟨cs,hcs⟩:∃cs,css[i]? =some cs:=⟨_,aB (by omega)⟩
  obtain⟨q,hqi⟩:∃q,qs[i]? =some q:=⟨_,aB (by omega)⟩
  obtain⟨f,hfi⟩:∃f,ps[i]? =some f:=⟨_,aB (by omega)⟩
  have hF:=hfr.2 i cs q hcs (zE hqi);have hadd:rH (-p) ps i q=q-p*f:=by simp only[rH,List.getD,hfi,Option.getD_some];grind
  obtain⟨d1,e1,m1,k1,d2,e2,m2,k2,rfl,hF⟩:=hF;have hrlq:=hq q (aD hqi);have hrlf:=hps f (aD hfi);obtain⟨ad,fcs,had,hff,hfl⟩:=hs.load hfi;obtain⟨f1,g1,o1,u1,f2,g2,o2,u2,rfl,hff⟩:=hff;refine⟨ad,had,by omega,[.bool f1,.slice g1 o1 u1,.bool f2,.slice g2 o2 u2],rfl,fun O w' r j x hx=>?_,?_⟩
  ·have hs2:=hs.rel r hC hS;obtain⟨k2',k3⟩:=hfl j x hx;have:=Rel.same r hC k2';rw[aF,cH (w:=w1) (w2:=w') (by rw[dQ,dQ];exact this)];exact k3
  refine cC (cL (Φ:=fun _ _ v _=>∃d,v= .bool d∧(d=true↔f=0)) (fun O w' r=>qD (Rel.old r hS) ((hff.rel r hS).l (by omega))) ?_);rintro O wa v1 wb r he hbl ⟨dz,rfl,hz⟩;replace hby:=hby.cF (iv':=(wa.heap.size,wb.heap.size)::iv) r hS he fun x hx=>aC _ hx;replace hfr:=hfr.cF (iv':=(wa.heap.size,wb.heap.size)::iv) r hS he fun x hx=>aC _ hx;replace hs:=hs.cF (iv':=(wa.heap.size,wb.heap.size)::iv) r hC hS he fun x hx=>aC _ hx;replace hff:=hff.cF (iv':=(wa.heap.size,wb.heap.size)::iv) r hS he fun x hx=>aC _ hx;replace hF:=hF.cF (iv':=(wa.heap.size,wb.heap.size)::iv) r hS he fun x hx=>aC _ hx;replace hrow:wb.ownsRow 0 T.Rat 4 (.slice a n c) n css.flatten:=ownsRow.cG (nY hrow (hout iv) r) fun b hb=>he.block b (by have:=hlow b hb;have:=r.cD;omega);replace hg:w.grownBy wb _:=fy hg hbl;generalize (wa.heap.size,wb.heap.size)::iv=iv2 at*
  cases dz
  ·refine cJ hτ db [.x 0,.x 1,.x 2,.x 3,.x 4,.x 5,.x 6,.x 7,.x 8,.x 9,.x 10,.x 11] (by kernel_rfl) (by kernel_rfl) ?_;obtain⟨g,rfl,hload⟩:=D4 hrow hfr hcs;refine⟨⟨g,0,none⟩,rfl,by omega,[.bool d1,.slice e1 m1 k1,.bool d2,.slice e2 m2 k2],rfl,fun O w' r j x hx=>?_,?_⟩
   ·have:=D4 (nY hrow (hout iv2) r) (hfr.rel r hS) hcs;obtain⟨g',h1,h2⟩:=this;injection h1 with h1;rw[<-h1]at h2;exact h2 j x hx
   have hl1:=iF p f;refine cL (Φ:=fun _ w' v w2=>cP w2 (Nf w' w2) v (p*f)) (fun O w' r=>zD (Rel.old r hS) (hby.rel r hS).v ((hff.rel r hS).v (by omega))) ?_;rintro O wa v1 wb r he hbl hP;have hPN:=hP.c9 (S:=S) r.cD (iv:=(wa.heap.size,wb.heap.size)::iv2) aJ;replace hby:=hby.cF (iv':=(wa.heap.size,wb.heap.size)::iv2) r hS he fun x hx=>aC _ hx;replace hfr:=hfr.cF (iv':=(wa.heap.size,wb.heap.size)::iv2) r hS he fun x hx=>aC _ hx;replace hs:=hs.cF (iv':=(wa.heap.size,wb.heap.size)::iv2) r hC hS he fun x hx=>aC _ hx;replace hF:=hF.cF (iv':=(wa.heap.size,wb.heap.size)::iv2) r hS he fun x hx=>aC _ hx;replace hrow:wb.ownsRow 0 T.Rat 4 (.slice (some ⟨g,0,none⟩) n c) n css.flatten:=ownsRow.cG (nY hrow (hout iv2) r) fun b hb=>he.block b (by have:=hlow b hb;have:=r.cD;omega);replace hg:w.grownBy wb _:=fy hg hbl;generalize (wa.heap.size,wb.heap.size)::iv2=iv3 at*
   obtain⟨b5,a5,n5,c5,b6,a6,n6,c6,rfl⟩:=hPN.shape;refine cL (Φ:=fun _ w' v w2=>cP w2 (Nf w' w2) v (q-p*f)) (fun O w' r=>I2 (Rel.old r hS) ((hF.rel r hS).v (by omega)) ((hPN.rel r hS).v (by omega))) ?_;rintro O wc v2 wd r he hbl hQ;have hQN:=hQ.c9 (S:=S) r.cD (iv:=(wc.heap.size,wd.heap.size)::iv3) aJ;replace hby:=hby.cF (iv':=(wc.heap.size,wd.heap.size)::iv3) r hS he fun x hx=>aC _ hx;replace hfr:=hfr.cF (iv':=(wc.heap.size,wd.heap.size)::iv3) r hS he fun x hx=>aC _ hx;replace hs:=hs.cF (iv':=(wc.heap.size,wd.heap.size)::iv3) r hC hS he fun x hx=>aC _ hx;replace hrow:wd.ownsRow 0 T.Rat 4 (.slice (some ⟨g,0,none⟩) n c) n css.flatten:=ownsRow.cG (nY hrow (hout iv3) r) fun b hb=>he.block b (by have:=hlow b hb;have:=r.cD;omega);replace hg:w.grownBy wd _:=fy hg hbl;generalize (wc.heap.size,wd.heap.size)::iv3=iv4 at*
   obtain⟨b7,a7,n7,c7,b8,a8,n8,c8,rfl⟩:=hQN.shape;rw[<-hadd]at hQN;refine⟨⟨g,0,none⟩,rfl,by omega,?_⟩;intro O w' r;have hrow3:=nY hrow (hout iv4) r;have hF5:=(hQN.rel r hS).pS;obtain⟨g',hg',hok,hst,hgr,hsz⟩:=oY (nv:=[.bool b7,.slice a7 n7 c7,.bool b8,.slice a8 n8 c8]) hrow3 rfl h rfl (by decide);injection hg' with hg';injection hg' with hg';subst hg';have hset:=ie (cs:=[.bool b7,.slice a7 n7 c7,.bool b8,.slice a8 n8 c8]) hfr.wW (show i<css.length by omega);rw[hset]at hst;have hkeep:∀x,Cv S w.heap.size iv4 x->(setCells w' ⟨g,i*4,none⟩ [.bool b7,.slice a7 n7 c7,.bool b8,.slice a8 n8 c8]).heap[x]? =w'.heap[x]? :=fun x hx=>
    hgr.block x (Rel.old r hS x hx) fun e=>hdis2 iv4 g rfl (by injection e with e;rw[<-e];exact hx)
   have had2:(⟨g,0,none⟩:Addr).add ((i:Int).toNat*4)=⟨g,i*4,none⟩:=by rw[aF,dP,aV]
   have hF6:=((hfr.rel r hS).cG hkeep).set (j:=i) (hF5.cG hkeep);rw[nZ (f:=rH (-p) ps) hqi]at hF6;have hby6:=(hby.rel r hS).cG hkeep;have hkeep3:∀x,Cv C w.heap.size iv4 x->(setCells w' ⟨g,i*4,none⟩ [.bool b7,.slice a7 n7 c7,.bool b8,.slice a8 n8 c8]).heap[x]? =w'.heap[x]? :=fun x hx=>
    hgr.block x (Rel.old r hC x hx) fun e=>hdis3 iv4 g rfl (by injection e with e;rw[<-e];exact hx)
   have hs6:=(hs.rel r hC hS).cG fun x hx=>hx.elim (hkeep3 x) (hkeep x);replace hg:w.grownBy (setCells w' ⟨g,i*4,none⟩ [.bool b7,.slice a7 n7 c7,.bool b8,.slice a8 n8 c8]) (some g):=gG (fy hg r.cM) hgr;have hnot:=fun id b hb hn=>Rel.not r (fun _ h=>h) (hout iv4 g rfl) id b hb hn;refine⟨by rw[had2],fun k hk=>by rw[had2];exact hok k hk,fun id b hb hn=>by rw[had2];exact hnot id b hb hn,fun w2 hw2=>?_⟩;have hw2:w2=setCells w' ⟨g,i*4,none⟩ [.bool b7,.slice a7 n7 c7,.bool b8,.slice a8 n8 c8]:=by rw[hw2];exact congrArg (fun x=>setCells w' x _) had2
   rw[<-hw2]at hF6 hby6 hst hg hsz hs6;refine⟨((i+1:Nat):Int),wo,?_⟩;intro ρ3 w3 r3
   exact⟨(i+1,css.set i [.bool b7,.slice a7 n7 c7,.bool b8,.slice a8 n8 c8],iv4,w3),⟨h,fy hg r3.cM,nY hst (hout iv4) r3,by simpa using hcl,hF6.rel r3 hS,hby6.rel r3 hS,hs6.rel r3 hC hS⟩,
    Sub.gn [] r3,by dsimp only;omega⟩
  ·have hf0:f=0:=hz.1 rfl;have hsame:rH (-p) ps i q=q:=by rw[hadd,hf0];grind
   refine⟨((i+1:Nat):Int),wo,?_⟩;intro ρ3 w3 r3
   exact⟨(i+1,css,iv2,w3),⟨h,fy hg r3.cM,nY hrow (hout iv2) r3,hcl,by rw[<-Ej hqi hsame];exact hfr.rel r3 hS,hby.rel r3 hS,hs.rel r3 hC hS⟩,
    Sub.gn [] r3,by dsimp only;omega⟩
 ·have h:i=n:=by
   have:¬i<n:=by simpa using h
   omega
  subst h;intro ρ5 w5 r5;refine⟨rfl,fy hg r5.cM,css,nY hrow (hout iv) r5,hcl,?_⟩;have:=(hfr.rel r5 hS).cI (S':=Nw S w w5) fun g hg=>Cv.nw hg r5
  rwa [<-hql,uc]at this
section
variable{S:Nat->Prop}{w:World}{v u vx vk vp:Value}{z:Int}{M K:List (List (Int×Int))}{b X P:List (Int×Int)}
end
end Go.Ex
namespace Go.Sx
open Go Go.Ex Go.Proofs
variable{cs:List Value}{O:Nat->Sx.df}
theorem Sub.ME{B:Nat}{l tl:Env}{nx:Nat}{H tH:Hp}{iv:Iv}{w w':World}{id t n sz:Nat}{e:TypeId}(r:Rel H nx iv B w O w')(hid:dA H id=some (.vec e sz cs))(hn:(O id).nil=false)(ht:fF l t=some (.o (.w id n)))
  (hs:vq H tH) (ho:Ci id tH=true) (h1:Ce l tl) (h2:jn nx tl):
  Sub B l nx O w' ⟨(t,.o (.v (.slice (some ⟨(O id).g,0,none⟩) n (O id).cap)))::tl,tH,nx,((O id).g,(O id).g+1)::iv,w'⟩:=
 ⟨O,r.free hid (by simp) hn hs ho,fun u v hv=>tQ hn ht h1 h2 u v hv⟩
end Go.Sx
namespace Go.Ex
open Go Go.Sx Go.Proofs
end Go.Ex
namespace Go.Ex
open Go Go.Sx Go.Proofs
variable{css:List (List Value)}{qs ri:List Rat}{rv:List Value}{g i:Nat}{a:Option Addr}{row:Option Nat}{q:Rat}{v:Value}
def Ob(rv:List Value)(g:Nat):Prop:=∃v∈rv,v.ownBlock=some g
def Lr(S:Nat->Prop)(B:Nat)(iv:Iv)(rv:List Value)(g:Nat):Prop:=Cv S B iv g∧¬Ob rv g
structure kj(w:World)(S:Nat->Prop)(B:Nat)(iv:Iv)(rv:List Value)(n:Nat)(M:List (List Rat)):Prop where
 len:rv.length=M.length
 row:∀(i:Nat) v qs,rv[i]? =some v->M[i]? =some qs->gu w (Lr S B iv rv) v n qs
 EG:∀(i j:Nat) a b g,rv[i]? =some a->rv[j]? =some b->a.ownBlock=some g->b.ownBlock=some g->i=j
 new:∀g,Ob rv g->Cv (fun _=>False) B iv g
theorem Ob.append:Ob (rv++[v]) g↔Ob rv g∨v.ownBlock=some g:=by
 unfold Ob;simp[or_and_right,exists_or]
section
variable{S S':Nat->Prop}{H:Hp}{nx n:Nat}{iv iv':Iv}{B:Nat}{w w' w2:World}{O:Nat->Sx.df}{rv:List Value}{M:List (List Rat)}
theorem kj.nil:kj w S B iv [] n []:=⟨rfl,fun i v qs h=>(by cases h),fun i j a b g h=>(by cases h),fun g ⟨v,hv,_⟩=>by cases hv⟩
theorem kj.cG(h:kj w S B iv rv n M)(hk:∀g,Cv S B iv g->w2.heap[g]? =w.heap[g]?):kj w2 S B iv rv n M:=
 ⟨h.len,fun i v qs h1 h2=>(h.row i v qs h1 h2).cG fun g hg=>hg.elim (fun hg=>hk g hg.1) fun hg=>hk g (Av (h.new g ⟨v,aD h1,hg⟩)),h.EG,h.new⟩
theorem kj.rel(h:kj w S B iv rv n M)(r:Rel H nx iv B w O w')(hS:∀g,S g->g<B):kj w' S B iv rv n M:=h.cG fun _ hg=>Rel.same r hS hg
theorem kj.mono(h:kj w S B iv rv n M)(hm:∀p,p∈iv->p∈iv'):kj w S B iv' rv n M:=
 ⟨h.len,fun i v qs h1 h2=>(h.row i v qs h1 h2).cI fun _ hg=>⟨hg.1.mono hm,hg.2⟩,h.EG,fun g hg=>(h.new g hg).mono hm⟩
theorem kj.cF(h:kj w S B iv rv n M)(r:Rel H nx iv B w O w')(hS:∀g,S g->g<B)(he:Ext w' w2)(hm:∀p,p∈iv->p∈iv'):kj w2 S B iv' rv n M:=
 ((h.rel r hS).cG fun g hg=>he.block g (Rel.old r hS g hg)).mono hm
theorem kj.low(h:kj w S B iv rv n M)(hg:Ob rv g):B<=g:=(h.new g hg).elim (fun h=>h.elim) fun h=>h.1
theorem kj.lt(h:kj w S B iv rv n M)(r:Rel H nx iv B w O w')(hg:Ob rv g):g<w'.heap.size:=Rel.old r (fz B) g (h.new g hg)
theorem Lr.grown(r:Rel H nx iv B w O w')(hS:∀g,S g->g<B)(hg:w'.grownBy w2 row)(hrow:∀g,row=some g->Ob rv g):∀g,Lr S B iv rv g->w2.heap[g]? =w.heap[g]? :=fun g h=>by
 rw[hg.block g (Rel.old r hS g h.1) fun e=>h.2 (hrow g e.symm),Rel.same r hS h.1]
theorem kj.cM(h:kj w S B iv rv n M)(r:Rel H nx iv B w O w')(hg:w'.grownBy w2 row)(hrow:∀g,row=some g->Ob rv g):cV B w' w2:=
 cV.grown hg (fun g e=>h.low (hrow g e)) r.cD
theorem kj.setRow(h:kj w' S B iv rv n M)(hlt:∀g,Cv S B iv g->g<w'.heap.size){vi:Value}(hvi:rv[i]? =some vi)(hgr:w'.grownBy w2 vi.ownBlock)(hB:B<=w'.heap.size)
  (hq:gu w2 (Nw (Lr S B iv rv) w' w2) vi n qs):kj w2 S B ((w'.heap.size,w2.heap.size)::iv) rv n (M.set i qs):=by
 have hnw:∀g,Nw (Lr S B iv rv) w' w2 g->Lr S B ((w'.heap.size,w2.heap.size)::iv) rv g:=fun g hg=>by
  rcases hg with hg|hg
  ·exact⟨hg.1.mono fun p hp=>aC _ hp,hg.2⟩
  ·exact⟨.inr ⟨by omega,_,_,aJ,hg.1,hg.2⟩,fun hm=>by have:=hlt g (Av (h.new g hm));omega⟩
 refine⟨by rw[bY];exact h.len,fun k v ps h1 h2=>?_,h.EG,fun g hg=>(h.new g hg).mono fun p hp=>aC _ hp⟩;by_cases hk:i=k
 ·subst hk;rw[hvi]at h1;injection h1 with h1;subst h1;rw[aW (by rw[<-h.len];exact(aE.1 hvi).1)]at h2;injection h2 with h2;subst h2;exact hq.cI hnw
 ·rw[bA hk]at h2;refine((h.row k v ps h1 h2).cG fun g hg=>?_).cI fun g hg=>⟨hg.1.mono fun p hp=>aC _ hp,hg.2⟩
  rcases hg with hg|hg
  ·exact hgr.block g (hlt g hg.1) fun e=>hg.2 ⟨vi,aD hvi,e.symm⟩
  ·exact hgr.block g (hlt g (Av (h.new g ⟨v,aD h1,hg⟩))) fun e=>hk (h.EG i k vi v g hvi h1 e.symm hg)
theorem kj.Bx(hM:kj w S B iv rv n M)(r:Rel H nx iv B w O w')(hS:∀g,S g->g<B){i j h:Nat}{vi vj vby:Value}{ri rj:List Rat}{p:Rat}(hij:i≠j)(hvi:rv[i]? =some vi)(hvj:rv[j]? =some vj)(hri:M[i]? =some ri)(hrj:M[j]? =some rj)
  (hby:eI w (Lr S B iv rv) vby p) (hq:∀q∈ri,rl q+1<=h) (hqj:∀q∈rj,rl q+1<=h) (hb:rl p+1<=h) (hh:3*h<=90000):
  dm PG N.nO #[vi,vj,vby] w' (fun e w2=>e= .returned (.tuple #[])∧w'.grownBy w2 vi.ownBlock∧(∀g,vi.ownBlock=some g->Ob rv g)∧kj w2 S B ((w'.heap.size,w2.heap.size)::iv) rv n (M.set i (lJ ri rj p))):=by
 have hMr:=hM.rel r hS;have h1:=hMr.row i vi ri hvi hri;have h2:=hMr.row j vj rj hvj hrj;have hmi:∀g,vi.ownBlock=some g->Ob rv g:=fun g hg=>⟨_,aD hvi,hg⟩
 have hmj:∀g,vj.ownBlock=some g->Ob rv g:=fun g hg=>⟨_,aD hvj,hg⟩
 refine(Jr (C:=fun g=>vj.ownBlock=some g) (S:=Lr S B iv rv) (fun x hx=>hM.lt r (hmj x hx)) (fun g hg=>Rel.old r hS g hg.1) h1 (eI.cG hby fun g hg=>Rel.same r hS hg.1) h2.read h2.len (fun g hg hx=>hx.2 (hmi g hg)) (fun g hg hx=>hij (hM.EG i j _ _ g hvi hvj hg hx)) hq hqj hb hh).mono fun e w8 he=>?_;obtain⟨rfl,hgr,hrow⟩:=he;exact⟨rfl,hgr,hmi,hMr.setRow (fun g hg=>Rel.old r hS g hg) hvi hgr r.cD hrow⟩
theorem kj.form(hM:kj w S B iv rv n M)(hv:rv[i]? =some v):∃a c,v= .slice a n c:=by
 obtain⟨qs,hq⟩:∃qs,M[i]? =some qs:=⟨_,aB (by rw[<-hM.len];exact(aE.1 hv).1)⟩
 obtain⟨a,c,h,_⟩:=(hM.row i v qs hv hq).form;exact⟨a,c,h⟩
theorem kj.load(hM:kj w S B iv rv n M){k:Nat}{c:Nat}(hv:rv[i]? =some (.slice a n c))(hq:M[i]? =some qs)(hk:qs[k]? =some q):
  ∃ad cs,a=some ad∧gg w (Lr S B iv rv) cs q∧∀j u,cs[j]? =some u->Cv (fun _=>False) B iv ad.block∧w.cell? ((ad.add (k*4)).add j)=some u:=by
 obtain⟨ad,cs,h1,h2,h3⟩:=fm.load (hM.row i _ qs hv hq).read hk;refine⟨ad,cs,h1,h2,fun j u hu=>⟨?_,(h3 j u hu).2⟩⟩;have:=(h3 j u hu).1;exact hM.new _ ⟨_,aD hv,this⟩
theorem kj.store(hM:kj w S B iv rv n M)(r:Rel H nx iv B w O w')(hS:∀g,S g->g<B){k:Nat}{a1 a2:Option Addr}{c n1 c1 n2 c2:Nat}{b b2:Bool}(hvi:rv[i]? =some (.slice a n c))(hri:M[i]? =some ri)(hk:k<n)
  (hf:cP w (Lr S B iv rv) (.agg #[.bool b,.slice a1 n1 c1,.bool b2,.slice a2 n2 c2]) q):
  ∃g,a=some ⟨g,0,none⟩∧((⟨g,0,none⟩:Addr).add ((k:Int).toNat*4)).spot=none∧
   (∀j,j<4->(w'.cell? (((⟨g,0,none⟩:Addr).add ((k:Int).toNat*4)).add j)).isSome=true∧w'.frozen? (((⟨g,0,none⟩:Addr).add ((k:Int).toNat*4)).add j)=false)∧
   (∀id b,dA H id=some b->(O id).nil=false->(O id).g≠((⟨g,0,none⟩:Addr).add ((k:Int).toNat*4)).block)∧
   ∀w2,w2=setCells w' ((⟨g,0,none⟩:Addr).add ((k:Int).toNat*4)) [.bool b,.slice a1 n1 c1,.bool b2,.slice a2 n2 c2]->kj w2 S B iv rv n (M.set i (ri.set k q))∧cV B w' w2∧Rel H nx iv B w2 O w2∧∀g,Lr S B iv rv g->w2.heap[g]? =w.heap[g]? :=by
 have hMr:=hM.rel r hS;have hmi:∀g,(Value.slice a n c).ownBlock=some g->Ob rv g:=fun g hg=>⟨_,aD hvi,hg⟩
 obtain⟨g,rfl,h1,h2,h3,h4⟩:=(hMr.row i _ ri hvi hri).store hk (hf.cG fun g hg=>Rel.same r hS hg.1) (fun g hg hx=>hx.2 (hmi g hg)) (fun x hx=>Rel.old r hS x hx.1);refine⟨g,rfl,h1,h3,fun id b hb hn=>by rw[h2];exact Rel.not r (fz B) (hM.new g (hmi g rfl)) id b hb hn,fun w2 hw2=>?_⟩;obtain⟨k1,k2,k3⟩:=h4 w2 hw2;have hs:=hMr.setRow (fun g hg=>Rel.old r hS g hg) hvi k2 r.cD (k1.cI fun g hg=>.inl hg);refine⟨?_,hM.cM r k2 hmi,r.xY (fun id b hb hn=>Rel.not r (fz B) (hM.new g (hmi g rfl)) id b hb hn) k2,Lr.grown r hS k2 hmi⟩;refine⟨hs.len,fun j v qs h5 h6=>(hs.row j v qs h5 h6).cI fun x hx=>⟨?_,hx.2⟩,hs.EG,fun x hx=>hM.new x hx⟩;rcases hx.1 with hx|⟨m1,lo,hi,m2,m3,m4⟩
 ·exact .inl hx
 ·rcases List.mem_cons.1 m2 with e|m2
  ·injection e with e1 e2;subst e1 e2;omega
  ·exact .inr ⟨m1,lo,hi,m2,m3,m4⟩
theorem kj.push(hM:kj w S B iv rv n M){gx c:Nat}(hgx:∀g,Cv S B iv g->g≠gx)(hBx:B<=gx)(hrow:gu w S (.slice (some ⟨gx,0,none⟩) n c) n qs)(hS:∀g,S g->g<B):
  kj w S B ((gx,gx+1)::iv) (rv++[.slice (some ⟨gx,0,none⟩) n c]) n (M++[qs]):=by
 have hob:∀g,Ob rv g->g≠gx:=fun g hg=>hgx g (Av (hM.new g hg))
 have hlr:∀g,Lr S B iv rv g->Lr S B ((gx,gx+1)::iv) (rv++[.slice (some ⟨gx,0,none⟩) n c]) g:=fun g hg=>⟨hg.1.mono fun p hp=>aC _ hp,fun h=>by
  rcases Ob.append.1 h with h|h
  ·exact hg.2 h
  ·injection h with h;exact hgx g hg.1 h.symm⟩
 refine⟨by simp[hM.len],fun i v ps h1 h2=>?_,fun i j a b g h1 h2 h3 h4=>?_,fun g hg=>?_⟩
 ·rcases aQ i rv.length with hi|hi
  ·rw[aM hi]at h1;rw[aM (by rw[<-hM.len];exact hi)]at h2;exact(hM.row i v ps h1 h2).cI hlr
  ·have hi0:i=rv.length:=by have:=(aE.1 h1).1;simp at this;omega
   rw[hi0,aO (aG _),bM]at h1;rw[hi0,hM.len,aO (aG _),bM]at h2;simp at h1 h2;subst h1 h2;refine hrow.cI fun g hg=>⟨.inl hg,fun h=>?_⟩
   have:=hS g hg;rcases Ob.append.1 h with h|h
   ·have:=hM.low h;omega
   ·injection h with h;have h:gx=g:=h;omega
 ·have key:∀(k:Nat) v,(rv++[Value.slice (some ⟨gx,0,none⟩) n c])[k]? =some v->(k<rv.length∧rv[k]? =some v)∨(k=rv.length∧v= .slice (some ⟨gx,0,none⟩) n c):=fun k v hk=>by
   rcases aQ k rv.length with hi|hi
   ·rw[aM hi]at hk;exact .inl ⟨hi,hk⟩
   ·have hi0:k=rv.length:=by have:=(aE.1 hk).1;simp at this;omega
    rw[hi0,aO (aG _),bM]at hk;simp at hk;exact .inr ⟨hi0,hk.symm⟩
  rcases key i a h1 with⟨_,k1⟩|⟨e1,rfl⟩<;>rcases key j b h2 with⟨_,k2⟩|⟨e2,rfl⟩
  ·exact hM.EG i j a b g k1 k2 h3 h4
  ·injection h4 with h4;exact absurd h4.symm (hob g ⟨a,aD k1,h3⟩)
  ·injection h3 with h3;exact absurd h3.symm (hob g ⟨b,aD k2,h4⟩)
  ·rw[e1,e2]
 ·rcases Ob.append.1 hg with h|h
  ·exact(hM.new g h).mono fun p hp=>aC _ hp
  ·injection h with h;have h:gx=g:=h;subst h;exact .inr ⟨hBx,_,_,aJ,aG _,bf _⟩
theorem kj.drop(hM:kj w S B iv (rv++[v]) n (M++[qs])):kj w S B iv rv n M:=by
 have hl:rv.length=M.length:=by have:=hM.len;simpa using this
 have hob:∀g,Ob rv g->Ob (rv++[v]) g:=fun g hg=>Ob.append.2 (.inl hg);refine⟨hl,fun i u ps h1 h2=>?_,fun i j a b g h1 h2=>hM.EG i j a b g ?_ ?_,fun g hg=>hM.new g (hob g hg)⟩
 ·have hi:=(aE.1 h1).1;exact(hM.row i u ps (by rw[aM hi];exact h1) (by rw[aM (by rw[<-hl];exact hi)];exact h2)).cI fun g hg=>⟨hg.1,fun h=>hg.2 (hob g h)⟩
 ·rw[aM (aE.1 h1).1];exact h1
 ·rw[aM (aE.1 h2).1];exact h2
theorem MF{id m:Nat}(r:Rel H nx iv B w O w')(h:dA H id=some (.vec T.Rat 4 css.flatten))(hl:css.length=m)(h0:0<m)(hm:m<=maxLen)(hF:Fc w' S css qs):
  (O id).nil=false∧B<=(O id).g∧(∀g,Out B iv g->g≠(O id).g)∧gu w' S (.slice (some ⟨(O id).g,0,none⟩) m (O id).cap) m qs:=by
 have hfl:=e9 hF.wW;rcases r.vec id _ _ _ h with⟨_,h2⟩|⟨h1,spare,h2,h3,h4⟩
 ·rw[h2]at hfl;rw[hl]at hfl;simp at hfl;omega
 ·refine⟨h1,(r.low id _ h h1).1,fun g hg e=>?_,css,⟨by rw[hfl,hl],.inr ⟨(O id).g,(O id).cap,_,rfl,aP _,h2,?_,h4,by simpa using h3,by rw[show m*4=css.flatten.length by rw[hfl,hl]];simp⟩⟩,hl,hF⟩
  ·exact Rel.not r (fun _ h=>h) hg id _ h h1 e.symm
  ·rw[List.length_append,hfl,hl]at h3;omega
end
end Go.Ex
namespace Go.Sx
open Go Go.Ex Go.Proofs
variable{O:Nat->Sx.df}
theorem Sub.zx{B nx:Nat}{l:Env}{H:Hp}{iv:Iv}{w w':World}{t:AZ}(id p e sz:Nat){bt:Nat}{cs:List At}(hid:dA H id=some (.box bt cs))(hp:cs[p]? =some (.v (.slice none 0 0)))(hsc:jn nx l)(r:Rel H nx iv B w O w')
  (h:∀ρ1,Rel ((id,.box bt (cs.set p (.w nx 0)))::(nx,.vec e sz [])::H) (nx+1) iv B w ρ1 w'->Sx.Sub B l (nx+1) ρ1 w' t):Sx.Sub B l nx O w' t:=by
 have r1:=r.push (.vec e sz []) ⟨0,0,true⟩ (w2:=w') rfl rfl rfl (aG _) (fun _ _=>rfl) (fun h=>by cases h) (.inl ⟨rfl,rfl⟩) trivial;have hne:id≠nx:=Nat.ne_of_lt (r.keys id _ hid);have hid1:dA ((nx,.vec e sz [])::H) id=some (.box bt cs):=by rw[dE,aK (fun h=>hne h.symm)];exact hid
 have hnn:=r1.nn id _ hid1 (by intros;simp) (by simp);have hcell:=r1.box id bt cs hid1;have hden:(cs.set p (.w nx 0)).map (At.den (Sx.gI O nx ⟨0,0,true⟩))=cs.map (At.den (Sx.gI O nx ⟨0,0,true⟩)):=by
  refine bK fun j=>?_;rw[aN,aN];by_cases hj:p=j
  ·subst hj;rw[aW (aE.1 hp).1,hp];simp[At.den,ei]
  ·rw[bA hj]
 have r2:=r1.store (b':=.box bt (cs.set p (.w nx 0))) (H':=(id,.box bt (cs.set p (.w nx 0)))::(nx,.vec e sz [])::H) (w2:=w') hid1 (by simp) hnn (fun j=>by
  rw[dE];by_cases hj:id=j
  ·subst hj;rw[if_pos rfl]
  ·rw[aK hj,aK (fun h=>hj h.symm)]) rfl rfl rfl rfl (fun _ _=>rfl) ⟨hnn,by rw[hden];exact hcell⟩ (fun x hx=>by
   rcases bI hx with hx|rfl
   ·exact r1.JW id bt cs hid1 x hx
   ·exact bf nx)
 obtain⟨ρ',h1,h2⟩:=h _ r2;refine⟨ρ',h1,fun x v hv=>?_⟩;obtain⟨h3,v0,h4,h5⟩:=h2 x v hv;refine⟨h3,v0,h4,?_⟩;rw[<-h5];exact SV.jY (fun id hid=>gJ id hid) (hsc.get _ _ h4)
end Go.Sx
namespace Go.Ex
open Go Go.Sx Go.Proofs
end Go.Ex
namespace Go.Ex
open Go Go.Sx Go.Proofs
inductive Tq where
 |nil
 |x (i:Nat) (t:Tq)
 |two (i:Nat) (t:Tq) (j:Nat) (u:Tq)
 |three (i:Nat) (t:Tq) (j:Nat) (u:Tq) (k:Nat) (v:Tq)
section
variable{P:Program}{τ:mL}{ops:Array Oper}{B n nx:Nat}{l:Env}{H:Hp}{iv:Iv}{w w':World}{O:Nat->Sx.df}{a:Act}
end
end Go.Ex
