/- A part of the proof: texts X179 to XTg. Each tells its conditions in its theorems. -/
import Derived.Test.YtkdcaknoaeicdaaGreatP8
import Derived.Test.YtkdcaknoaeicdaaGreatP9
namespace Go.Ex
open Go Go.Sx Go.Proofs
theorem G0{S:Nat->Prop}{w:World}{v:Value}{M:List (List (Int×Int))}{h0:Nat}(hS:Old S w)(h:iB w S v M)(hL:dm w S v (gM M))(hall:∀r∈M,r.length=fI M)(hR:M.length<=1000)(hn:fI M<=1000)(hB:∀c,c<=fI M->Ht (cJ (gM M) c).1 h0)(hh:3*h0<=90000):
  dh PG N.pq #[v] w (dw w fun v' _=>v'= .int .i64 (cJ (gM M) (fI M)).2.length):=by
 have hw:cN w.heap.size w w:=cN.refl;have hvl:(gM M).length=M.length:=by simp[gM]
 have hlen:fk (fI M) (gM M):=fun r hr=>by
  rw[gM]at hr;obtain⟨x,hx,rfl⟩:=aU.1 hr;rw[aM];exact hall x hx
 replace h:=iB.arg h [];replace hL:=dm.arg hL [];obtain⟨am,cm,rfl,hcm,hmm⟩:=cT.shape h;refine yZ (by simp) ?_;conv=>whnf
 refine bz (cE hw (Φ:=fun _ w' v w2=>v= .int .i64 (fI M)) (fun ρ w' r=>xp (Rel.old r hS) (iB.rel h r hS)) ?_);rintro ρ wa1 v1 wb1 iv1 r he hw h_ rfl;clear h;replace hL:=dm.cB hL r hS he (mC h_);clear r;conv=>whnf
 refine bz (cH (Φ:=fun _ w' v w2=>∃vm vp,v= .tuple #[vm,vp]∧dm w2 (Nw (Cv S w.heap.size iv1) w' w2) vm (cJ (gM M) (fI M)).1∧cY w2 (Nw (fun _=>False) w' w2) vp (cJ (gM M) (fI M)).2) (fun ρ w' r=>uG (Rel.old r hS) (dm.rel hL r hS) hlen (by omega) (by omega) (aG _) hB hh) ?_);rintro ρ wa2 v2 wb2 r he hb ⟨vm,vp,rfl,k1,k2⟩;replace hw:=hw.tr hb;clear hL;have hA:=dm.old k1 r.bu;have hP:=cY.cw (S:=fun _=>False) k2 r.bu (iv:=(wa2.heap.size,wb2.heap.size)::iv1) aJ;clear r he hb;generalize (wa2.heap.size,wb2.heap.size)::iv1=iv2 at*
 clear k1 k2;obtain⟨aA,cA,rfl,hcA,-⟩:=cT.shape hA;have hPs:=hP;obtain⟨-,-,-,ap,cp,rfl,hcp,-⟩:=hPs;conv=>whnf
 intro ρe we re;exact⟨_,rfl,hw.tr re.cC,rfl⟩
theorem DE{S:Nat->Prop}{w:World}{v:Value}{M:List (List (Int×Int))}{h0:Nat}(hS:Old S w)(h:iB w S v M)(hL:dm w S v (gM M))(hall:∀r∈M,r.length=fI M)(hR:M.length<=1000)(hn:fI M<=1000)(hB:∀c,c<=fI M->Ht (cJ (gM M) c).1 h0)(hh:3*h0<=90000):
  dh PG N.mE #[v] w (dw w fun v' w2=>cI w2 (Nw (fun _=>False) w w2) v' (db (cJ (gM M) (fI M)).1 (cJ (gM M) (fI M)).2 (fI M) (fI M))):=by
 have hw:cN w.heap.size w w:=cN.refl;have hvl:(gM M).length=M.length:=by simp[gM]
 have hlen:fk (fI M) (gM M):=fun r hr=>by
  rw[gM]at hr;obtain⟨x,hx,rfl⟩:=aU.1 hr;rw[aM];exact hall x hx
 replace h:=iB.arg h [];replace hL:=dm.arg hL [];obtain⟨am,cm,rfl,hcm,hmm⟩:=cT.shape h;refine u7 (by simp) ?_;conv=>whnf
 refine bz (cE hw (Φ:=fun _ w' v w2=>v= .int .i64 (fI M)) (fun ρ w' r=>xp (Rel.old r hS) (iB.rel h r hS)) ?_);rintro ρ wa1 v1 wb1 iv1 r he hw h_ rfl;clear h;replace hL:=dm.cB hL r hS he (mC h_);clear r;conv=>whnf
 refine bz (cH (Φ:=fun _ w' v w2=>∃vm vp,v= .tuple #[vm,vp]∧dm w2 (Nw (Cv S w.heap.size iv1) w' w2) vm (cJ (gM M) (fI M)).1∧cY w2 (Nw (fun _=>False) w' w2) vp (cJ (gM M) (fI M)).2) (fun ρ w' r=>uG (Rel.old r hS) (dm.rel hL r hS) hlen (by omega) (by omega) (aG _) hB hh) ?_);rintro ρ wa2 v2 wb2 r he hb ⟨vm,vp,rfl,k1,k2⟩;replace hw:=hw.tr hb;clear hL;have hA:=dm.old k1 r.bu;have hP:=cY.cw (S:=fun _=>False) k2 r.bu (iv:=(wa2.heap.size,wb2.heap.size)::iv1) aJ;clear r he hb;generalize (wa2.heap.size,wb2.heap.size)::iv1=iv2 at*
 clear k1 k2;obtain⟨aA,cA,rfl,hcA,-⟩:=cT.shape hA;have hPs:=hP;obtain⟨-,-,-,ap,cp,rfl,hcp,-⟩:=hPs;have hAl:=eK (gM M) (fI M);obtain⟨-,hpl,-,hpc,-⟩:=eC hlen (fI M) (aG _);rw[hAl]at hpl;have hAh:=hB (fI M) (aG _);have hAlen:=B8 (cols:=fI M) hlen;generalize (cJ (gM M) (fI M)).1=A at*
 generalize (cJ (gM M) (fI M)).2=pv at*
 generalize fI M=cols at*
 conv=>whnf
 refine⟨Nat×List Value×World×Iv,fun z=>⟨[(3,.o (.v (.int .i64 cols))),(4,.o (.v (.slice aA A.length cA))),(5,.o (.v (.slice ap pv.length cp))),(6,.o (.w 0 z.2.1.length)),(7,.o (.v (.int .i64 ((z.1:Nat):Int))))],[(0,.vec T.fz 1 z.2.1)],1,z.2.2.2,z.2.2.1⟩,fun z=>cols-z.1,
  fun z=>z.1<=cols∧z.2.1.length<=z.1∧cN w.heap.size w z.2.2.1∧dm z.2.2.1 (Cv S w.heap.size z.2.2.2) (.slice aA A.length cA) A∧cY z.2.2.1 (Cv (fun _=>False) w.heap.size z.2.2.2) (.slice ap pv.length cp) pv∧dK z.2.2.1 (Cv (fun _=>False) w.heap.size z.2.2.2) z.2.1 (db A pv cols z.1),?_,?_⟩
 ·intro ρ w' r
  exact⟨(0,[],w',iv2),⟨aN _,aG _,hw.tr r.cC,dm.rel hA r hS,cY.rel hP r (bs w),by simp[dK,db]⟩,Sub.nil 6 T.fz 1 rfl (by simp[cV,SV.sc,At.sc,cQ]) r fun ρ1 r1=>
   Sub.gen [] r1 ⟨rfl,trivial⟩ ⟨rfl,rfl,rfl,rfl,rfl,trivial⟩ (by simp[dG,cW.scopd]) (by simp[cV,SV.sc,At.sc]) (by rfl) (fun lo hi h=>h)⟩
 clear hw hA hP;rintro⟨c,rv,w1,iv⟩ ⟨hc,hrc,hw,hA,hP,hK⟩;dsimp only at hc hrc hw hA hP hK ⊢;conv=>whnf
 refine dE.mk (fun hib=>?_) (fun hib=>?_)
 ·have hib:c<cols:=by simpa using hib
  conv=>whnf
  refine bz (cE hw (Φ:=fun _ w' v w2=>v= .bool (decide (c∈pv))) (fun ρ w' r=>Ip (Rel.old r (bs w)) (cY.rel hP r (bs w))) ?_);rintro ρ wa3 v3 wb3 iv3 r he hw h_ rfl;replace hA:=dm.cB hA r hS he (mC h_);replace hP:=cY.cB hP r (bs w) he (mC h_);replace hK:=hK.cB r (bs w) he (mC h_);clear r he;conv=>whnf
  refine dE.mk (fun hm=>?_) (fun hm=>?_)
  ·have hm:=aI hm;conv=>whnf
   refine⟨((c+1:Nat):Int),by rw[wrap64]<;>omega,?_⟩;conv=>whnf
   intro ρ3 w3 r3;exact⟨(c+1,rv,w3,_),⟨hib,by simp;omega,hw.tr r3.cC,dm.rel hA r3 hS,cY.rel hP r3 (bs w),by dsimp only;rw[uE hm];exact hK.rel r3 (bs w)⟩,Sub.gen [] r3 ⟨rfl,trivial⟩ ⟨rfl,rfl,rfl,rfl,rfl,trivial⟩ (by simp[dG,cW.scopd]) (by simp[cV,SV.sc,At.sc]) (by rfl) (fun lo hi h=>h),by dsimp only;omega⟩
  have hm:=aH hm;conv=>whnf
  refine⟨cols,cols,rfl,rfl,aG _,by omega,by omega,?_⟩;conv=>whnf
  refine⟨Nat×List (List Value)×World×Iv,fun z=>⟨[(3,.o (.v (.int .i64 cols))),(4,.o (.v (.slice aA A.length cA))),(5,.o (.v (.slice ap pv.length cp))),(6,.o (.w 0 rv.length)),(7,.o (.v (.int .i64 ((c:Nat):Int)))),(8,.o (.s 1 0 cols cols)),(9,.o (.v (.int .i64 ((z.1:Nat):Int))))],[(1,.arr T.Rat z.2.1.flatten),(0,.vec T.fz 1 rv)],2,z.2.2.2,z.2.2.1⟩,fun z=>cols-z.1,
   fun z=>z.1<=cols∧z.2.1.length=cols∧(∀x∈z.2.1,x.length=4)∧cN w.heap.size w z.2.2.1∧dm z.2.2.1 (Cv S w.heap.size z.2.2.2) (.slice aA A.length cA) A∧cY z.2.2.1 (Cv (fun _=>False) w.heap.size z.2.2.2) (.slice ap pv.length cp) pv∧dK z.2.2.1 (Cv (fun _=>False) w.heap.size z.2.2.2) rv (db A pv cols c)∧
    iO z.2.2.1 (Cv (fun _=>False) w.heap.size z.2.2.2) z.2.1 z.1,?_,?_⟩
  ·intro ρ w' r
   exact⟨(0,List.replicate cols [.bool false,.slice none 0 0,.bool false,.slice none 0 0],w',iv3),⟨aN _,by simp,fun x hx=>by rw[bT hx];rfl,hw.tr r.cC,dm.rel hA r hS,cY.rel hP r (bs w),hK.rel r (bs w),fun j cs hj=>by dsimp only at hj;omega⟩,
    Sub.gen [] r ⟨rfl,rfl,trivial⟩ ⟨rfl,rfl,rfl,rfl,rfl,rfl,rfl,trivial⟩ (by simp[dG,cW.scopd]) (by simp[cV,SV.sc,At.sc]) (by rfl) (fun lo hi h=>h)⟩
  clear hw hA hP hK;rintro⟨k,css,w2,iv⟩ ⟨hk,hcl,hc4,hw,hA,hP,hK,hz⟩;dsimp only at hk hcl hc4 hw hA hP hK hz ⊢;conv=>whnf
  refine dE.mk (fun hkb=>?_) (fun hkb=>?_)
  ·have hkb:k<cols:=by simpa using hkb
   conv=>whnf
   refine bz (cE hw (Φ:=fun _ w' v w2=>cR w2 (Nw (fun _=>False) w' w2) v (0)) (fun ρ w' r=>(show ((0:Int):Rat)=0 from rfl)▸oG 0 w' (by decide) (by decide)) ?_);rintro ρ wa4 v4 wb4 iv4 r he hw h_ hn;replace hA:=dm.cB hA r hS he (mC h_);replace hP:=cY.cB hP r (bs w) he (mC h_);replace hK:=hK.cB r (bs w) he (mC h_);replace hz:=hz.cB r (bs w) he (mC h_);have h_0:=hn.cw (S:=fun _=>False) r.bu (mN h_);clear r he hn;obtain⟨s4_0,s4_1,s4_2,s4_3,s4_4,s4_5,s4_6,s4_7,rfl⟩:=h_0.shape;conv=>whnf
   refine⟨⟨by omega,by omega⟩,?_⟩;conv=>whnf
   have hfl:=eX hc4;refine⟨by rw[aC,hfl];omega,(css.set k [.bool s4_0,.slice s4_1 s4_2 s4_3,.bool s4_4,.slice s4_5 s4_6 s4_7]).flatten,by rw[aC,aS];exact iJ (css:=css) (j:=k) hc4 (by omega),?_⟩;conv=>whnf
   refine⟨((k+1:Nat):Int),by rw[wrap64]<;>omega,?_⟩;conv=>whnf
   intro ρ3 w3 r3
   exact⟨(k+1,css.set k [.bool s4_0,.slice s4_1 s4_2 s4_3,.bool s4_4,.slice s4_5 s4_6 s4_7],w3,_),⟨hkb,by simp[hcl],G1 hc4 rfl,hw.tr r3.cC,dm.rel hA r3 hS,cY.rel hP r3 (bs w),hK.rel r3 (bs w),(hz.rel r3 (bs w)).push (h_0.rel r3 (bs w)).oC⟩,
    Sub.gen [] r3 ⟨rfl,rfl,trivial⟩ ⟨rfl,rfl,rfl,rfl,rfl,rfl,rfl,trivial⟩ (by simp[dG,cW.scopd]) (by simp[cV,SV.sc,At.sc]) (by rfl) (fun lo hi h=>h),by dsimp only;omega⟩
  have hkb:k=cols:=aP hk (by simpa using hkb);subst hkb;conv=>whnf
  refine bz (cE hw (Φ:=fun _ w' v w2=>cR w2 (Nw (fun _=>False) w' w2) v (1)) (fun ρ w' r=>(show ((1:Int):Rat)=1 from rfl)▸oG 1 w' (by decide) (by decide)) ?_);rintro ρ wa4 v4 wb4 iv4 r he hw h_ hn;replace hA:=dm.cB hA r hS he (mC h_);replace hP:=cY.cB hP r (bs w) he (mC h_);replace hK:=hK.cB r (bs w) he (mC h_);replace hz:=hz.cB r (bs w) he (mC h_);have h_1:=hn.cw (S:=fun _=>False) r.bu (mN h_);clear r he hn;obtain⟨s4_0,s4_1,s4_2,s4_3,s4_4,s4_5,s4_6,s4_7,rfl⟩:=h_1.shape;conv=>whnf
  refine⟨⟨by omega,by omega⟩,?_⟩;conv=>whnf
  have hfl:=eX hc4;refine⟨by rw[aC,hfl];omega,(css.set c [.bool s4_0,.slice s4_1 s4_2 s4_3,.bool s4_4,.slice s4_5 s4_6 s4_7]).flatten,by rw[aC,aS];exact iJ (css:=css) (j:=c) hc4 (by omega),?_⟩;conv=>whnf
  have hFc:=hz.one hcl (c:=c) h_1.oC;have hcl2:(css.set c [.bool s4_0,.slice s4_1 s4_2 s4_3,.bool s4_4,.slice s4_5 s4_6 s4_7]).length=k:=by simp[hcl]
  generalize css.set c [.bool s4_0,.slice s4_1 s4_2 s4_3,.bool s4_4,.slice s4_5 s4_6 s4_7]=cs2 at*
  clear hz h_1 hcl hc4
  refine⟨Nat×Nat×World×Iv,fun z=>⟨[(8,.o (.v (.slice (some ⟨z.2.1,0,none⟩) k k))),(3,.o (.v (.int .i64 k))),(4,.o (.v (.slice aA A.length cA))),(5,.o (.v (.slice ap pv.length cp))),(6,.o (.w 0 rv.length)),(7,.o (.v (.int .i64 ((c:Nat):Int)))),(10,.o (.v (.int .i64 ((z.1:Nat):Int))))],[(0,.vec T.fz 1 rv)],2,z.2.2.2,z.2.2.1⟩,fun z=>pv.length-z.1,
   fun z=>z.1<=pv.length∧cN w.heap.size w z.2.2.1∧(∀p,p∈iv4->p∈z.2.2.2)∧¬Cv S w.heap.size iv4 z.2.1∧w.heap.size<=z.2.1∧dm z.2.2.1 (Cv S w.heap.size iv4) (.slice aA A.length cA) A∧cY z.2.2.1 (Cv (fun _=>False) w.heap.size iv4) (.slice ap pv.length cp) pv∧dK z.2.2.1 (Cv (fun _=>False) w.heap.size iv4) rv (db A pv k c)∧
    dQ z.2.2.1 (fun _=>False) w.heap.size z.2.2.2 (.slice (some ⟨z.2.1,0,none⟩) k k) k (ff A pv k c z.1),?_,?_⟩
  ·intro ρ w' r
   exact⟨(0,(ρ 1).g,w',((ρ 1).g,(ρ 1).g+1)::iv4),⟨aN _,hw.tr r.cC,fun p hp=>aD _ hp,fun hg=>Rel.not r hS hg 1 _ rfl (r.fits (id:=1) rfl).1 rfl,(r.low 1 _ rfl (r.fits (id:=1) rfl).1).1,dm.rel hA r hS,cY.rel hP r (bs w),hK.rel r (bs w),dQ.mw r (id:=1) rfl hcl2 (by unfold maxLen;omega) hFc⟩,
    Sub.mw r (id:=1) (t:=8) rfl rfl ⟨rfl,trivial⟩ rfl ⟨rfl,rfl,rfl,rfl,rfl,rfl,trivial⟩ (by simp[cV,SV.sc,At.sc])⟩
  clear hw hA hP hK hFc hcl2;rintro⟨i,gx,w5,iv5⟩ ⟨hi,hw,hsub,hxo,hxB,hA,hP,hK,hX⟩;dsimp only at hi hw hsub hxo hxB hA hP hK hX ⊢;conv=>whnf
  refine dE.mk (fun hi2=>?_) (fun hi2=>?_)
  ·have hi2:i<pv.length:=by simpa using hi2
   obtain⟨p,hpi⟩:∃p,pv[i]? =some p:=⟨_,aB hi2⟩
   have hpd:pv.getD i 0=p:=by simp[List.getD,hpi]
   have hpcol:=hpc p (aF hpi);obtain⟨ra,hra⟩:∃r,A[i]? =some r:=⟨_,aB (by omega)⟩
   have hral:=hAlen ra (aF hra);have hPs:=hP;obtain⟨_,_,_,_,_,hpe,_,hpcell⟩:=hPs;injection hpe with hpe1 hpe2 hpe3;subst hpe1 hpe3;obtain⟨adp,hap,kp1,kp2⟩:=hpcell i (.int .i64 (p:Int)) (by rw[aO,hpi];rfl);obtain⟨adm,um,ham,hRm,km1,km2⟩:=cT.load hA hra;obtain⟨au,cu,rfl,hcu,-⟩:=dx.shape hRm;obtain⟨q,hq⟩:∃q,ra[c]? =some q:=⟨_,aB (by omega)⟩
   have hat:di A i c=q:=by simp[di,List.getD,hra,hq]
   obtain⟨adq,cs,haq,hF,_,hl⟩:=dx.load hRm hq;obtain⟨b3,a3,n3,c3,b4,a4,n4,c4,rfl,hF⟩:=hF;have hsm:∀{H nx ρ w'},Rel H nx iv5 w.heap.size w5 ρ w'->∀{g},Cv S w.heap.size iv4 g->w'.heap[g]? =w5.heap[g]? :=fun r g hg=>Rel.same r hS (hg.mono hsub);conv=>whnf
   refine cF hτ dV [.x 0,.x 1,.x 2,.x 3,.x 4,.x 5,.x 6,.x 7,.x 8,.x 9,.x 10,.x 11,.x 12,.x 13,.x 14] (by kernel_rfl) (by kernel_rfl) ?_;conv=>whnf
   refine⟨adp,hap,⟨by omega,by omega⟩,?_⟩;conv=>whnf
   refine⟨.int .i64 (p:Int),fun ρ w' r=>?_,?_⟩
   ·rw[aC,aR,bw (w:=w5) (w2:=w') (by rw[cL];exact hsm r (Aq kp1))];exact kp2
   conv=>whnf
   refine⟨adm,ham,⟨by omega,by omega⟩,?_⟩;conv=>whnf
   refine⟨.slice au ra.length cu,fun ρ w' r=>?_,?_⟩
   ·rw[aC,bw (w:=w5) (w2:=w') (by rw[cL];exact hsm r km1)];exact km2
   conv=>whnf
   refine⟨adq,haq,⟨by omega,by omega⟩,?_⟩;conv=>whnf
   refine⟨[.bool b3,.slice a3 n3 c3,.bool b4,.slice a4 n4 c4],rfl,fun ρ w' r j u hu=>?_,?_⟩
   ·obtain⟨k1,k2⟩:=hl j u hu;rw[aC,bw (w:=w5) (w2:=w') (by rw[cL,cL];exact hsm r k1)];exact k2
   conv=>whnf
   refine cH (Φ:=fun _ w' v w2=>cR w2 (Nw (fun _=>False) w' w2) v (-q)) (fun ρ w' r=>GZ (fun g hg=>Rel.old r hS g (hg.mono hsub)) (hF.cD fun g hg=>hsm r hg)) ?_;rintro ρ wa v1 wb r he hb hO;have hON:cR wb (fun g=>Cv (fun _=>False) w.heap.size ((wa.heap.size,wb.heap.size)::iv5) g∧(Value.slice (some ⟨gx,0,none⟩) k k).ownBlock≠some g) v1 (-q):=hO.cG fun g hg=>by
    rcases hg with hg|hg
    ·exact hg.elim
    ·have hB:=r.bu;have:=Rel.old r hS gx (Aq (hX.new gx rfl));refine⟨.inr ⟨by omega,_,_,aJ,hg.1,hg.2⟩,fun e=>?_⟩;have e2:gx=_:=Option.some.inj e;omega
   replace hX:=hX.cB (iv':=(wa.heap.size,wb.heap.size)::iv5) r (bs w) he fun x hx=>aD _ hx;have hkp:∀g,Cv S w.heap.size iv4 g->wb.heap[g]? =w5.heap[g]? :=fun g hg=>by rw[he.block g (Rel.old r hS g (hg.mono hsub)),Rel.same r hS (hg.mono hsub)]
   replace hA:=dm.cD hA hkp;replace hP:=iS.cD hP fun g hg=>hkp g (Aq hg);replace hK:=hK.cD fun g hg=>hkp g (Aq hg);replace hw:=hw.tr hb;replace hsub:∀p,p∈iv4->p∈(wa.heap.size,wb.heap.size)::iv5:=fun p hp=>aD _ (hsub p hp);clear r he hb hO hF hl hRm hsm kp1 kp2 km1 km2 hpcell hkp;generalize (wa.heap.size,wb.heap.size)::iv5=iv6 at*
   obtain⟨b1,a1,n1,c1,b2,a2,n2,c2,rfl⟩:=hON.shape;conv=>whnf
   refine⟨⟨gx,0,none⟩,rfl,⟨by omega,by omega⟩,?_⟩;conv=>whnf
   intro ρ w' r;obtain⟨_,hgx,h1,h2',h3,h4,h5⟩:=(hX.rel r (bs w)).store hpcol (cR.cD hON fun g hg=>Rel.same r (bs w) hg.1) r (bs w);injection hgx with hgx;injection hgx with hgx;subst hgx;have hkp:∀g,Cv S w.heap.size iv4 g->w'.heap[g]? =wb.heap[g]? :=fun g hg=>Rel.same r hS (hg.mono hsub);replace hw:=hw.tr r.cC;have hold:∀g,Cv S w.heap.size iv6 g->g<w'.heap.size:=Rel.old r hS;clear r hX hON;refine⟨h1,h2',h3,fun w2 hw2=>?_⟩;obtain⟨hX,hgr,-⟩:=h5 w2 hw2;have hkp2:∀g,Cv S w.heap.size iv4 g->w2.heap[g]? =wb.heap[g]? :=fun g hg=>by
    rw[<-hkp g hg];exact hgr.block g (hold g (hg.mono hsub)) fun e=>by injection e with e;subst e;exact hxo hg
   replace hA:=dm.cD hA hkp2;replace hP:=iS.cD hP fun g hg=>hkp2 g (Aq hg);replace hK:=hK.cD fun g hg=>hkp2 g (Aq hg);replace hw:cN w.heap.size w w2:=hw.tr (cN.grown hgr (fun g hg=>by injection hg with hg;subst hg;exact hxB) (by have:=hw.size;omega));clear h1 h2' h3 h4 h5 hw2 hgr hold hkp hkp2;rw[<-hat,<-hpd,<-ga]at hX;conv=>whnf
   refine⟨((i+1:Nat):Int),by rw[wrap64]<;>omega,?_⟩;conv=>whnf
   intro ρ3 w3 r3;have hkp:∀g,Cv S w.heap.size iv4 g->w3.heap[g]? =w2.heap[g]? :=fun g hg=>Rel.same r3 hS (hg.mono hsub)
   exact⟨(i+1,gx,w3,iv6),⟨hi2,hw.tr r3.cC,hsub,hxo,hxB,dm.cD hA hkp,iS.cD hP fun g hg=>hkp g (Aq hg),hK.cD fun g hg=>hkp g (Aq hg),hX.rel r3 (bs w)⟩,
    Sub.gen [] r3 ⟨rfl,trivial⟩ ⟨rfl,rfl,rfl,rfl,rfl,rfl,rfl,trivial⟩ (by simp[dG,cW.scopd]) (by simp[cV,SV.sc,At.sc]) (by rfl) (fun lo hi h=>h),by dsimp only;omega⟩
  have hi2:i=pv.length:=aP hi (by simpa using hi2);subst hi2;have hnr:cP w5 (Cv (fun _=>False) w.heap.size iv5) (.slice (some ⟨gx,0,none⟩) k k) (ff A pv k c pv.length):=hX.Jk;have hK2:dK w5 (Cv (fun _=>False) w.heap.size iv5) (rv++[.slice (some ⟨gx,0,none⟩) k k]) (db A pv k (c+1)):=by
   rw[ry hm];exact(hK.cG fun g hg=>hg.mono hsub).push rfl hnr
  replace hA:=dm.cG hA fun g hg=>hg.mono hsub;replace hP:=cY.cG hP fun g hg=>hg.mono hsub;clear hK hX hnr hsub hxo hxB;have hK:=hK2;clear hK2;conv=>whnf
  refine .inl ?_;conv=>whnf
  refine⟨by simp,by omega,by unfold maxLen;omega,?_⟩;conv=>whnf
  refine⟨((c+1:Nat):Int),by rw[wrap64]<;>omega,?_⟩;conv=>whnf
  intro ρ3 w3 r3;exact⟨(c+1,(rv++[.slice (some ⟨gx,0,none⟩) k k]),w3,_),⟨hib,by simp;omega,hw.tr r3.cC,dm.rel hA r3 hS,cY.rel hP r3 (bs w),by dsimp only;rw[show c+1=c+1 from rfl];exact hK.rel r3 (bs w)⟩,Sub.gen [(0,3)] r3 ⟨rfl,trivial⟩ ⟨rfl,rfl,rfl,by dsimp only;rw[List.length_append,List.length_singleton];rfl,rfl,trivial⟩ (by simp[dG,cW.scopd]) (by simp[cV,SV.sc,At.sc]) (by rfl) (fun lo hi h=>h),by dsimp only;omega⟩
 have hib:c=cols:=aP hc (by simpa using hib);subst hib;conv=>whnf
 intro ρe we re;refine⟨_,rfl,hw.tr re.cC,rv,?_,hK.1,fun i u x h1 h2=>cP.out (hK.2.2 i u x h1 h2) re (bs w)⟩;have:=re.gR (id:=0) (sz:=1) (m:=rv.length) rfl (by rw[aR]) (by unfold maxLen;omega) (by decide) hK.2.1;rw[<-hK.1];exact this.cG fun g hg=>.inr hg
section
variable{S:Nat->Prop}{H:Hp}{nx:Nat}{iv iv':Iv}{B:Nat}{w w' w2:World}{ρ:Nat->Sx.dc}{css:List (List Value)}{qs:List Rat}
theorem Fc.rel(h:Fc w (Cv S B iv) css qs)(r:Rel H nx iv B w ρ w')(hS:∀g,S g->g<B):Fc w' (Cv S B iv) css qs:=h.cD fun _ hg=>Rel.same r hS hg
theorem Fc.cB(h:Fc w (Cv S B iv) css qs)(r:Rel H nx iv B w ρ w')(hS:∀g,S g->g<B)(he:Ext w' w2)(hm:∀p,p∈iv->p∈iv'):Fc w2 (Cv S B iv') css qs:=
 ((h.rel r hS).cD fun g hg=>he.block g (Rel.old r hS g hg)).cG fun _ hg=>hg.mono hm
theorem Fc.push{cs:List Value}{q:Rat}(h:Fc w S css qs)(hc:gU w S cs q):Fc w S (css++[cs]) (qs++[q]):=by
 refine⟨by simp[h.1],fun j x p h1 h2=>?_⟩;rcases aV j css.length with hi|hi
 ·rw[aL hi]at h1;rw[aL (by rw[<-h.1];exact hi)]at h2;exact h.2 j x p h1 h2
 ·have hi0:j=css.length:=by have:=(aE.1 h1).1;simp at this;omega
  subst hi0;rw[aQ (aG _),bI]at h1;rw[h.1,aQ (aG _),bI]at h2;simp at h1 h2;subst h1 h2;exact hc
end
section
variable{S S':Nat->Prop}{H:Hp}{nx:Nat}{iv iv':Iv}{B:Nat}{w w' w2:World}{ρ:Nat->Sx.dc}{v:Value}{b:List (Int×Int)}
end
def ia(qs:List Rat):List (Int×Int):=qs.map fun q=>(q.num,(q.den:Int))
theorem z8(qs:List Rat):(ia qs).length=qs.length:=aM ..
theorem CL(qs:List Rat):(ia qs).map Gc=qs:=by
 unfold ia;rw[List.map_map];exact(List.map_congr_left fun q _=>mW q).trans (List.map_id qs)
theorem xy(K:List (List Rat)):gM (K.map ia)=K:=by
 unfold gM;rw[List.map_map];exact(List.map_congr_left fun q _=>CL q).trans (List.map_id K)
theorem cP.ia{S:Nat->Prop}{w:World}{v:Value}{qs:List Rat}(h:cP w S v qs):oJ w S v (ia qs):=by
 obtain⟨css,h1,h2,h3,h4⟩:=h;refine⟨css,by unfold Go.Ex.ia;rw[aM];exact h1,by unfold Go.Ex.ia;rw[aM];exact h2,h3,fun j cs x k1 k2=>?_⟩;unfold Go.Ex.ia at k2;rw[aO]at k2;obtain⟨q,hq,rfl⟩:=Option.map_eq_some_iff.1 k2;obtain⟨b,a,n,c,b2,a2,n2,c2,rfl,hr⟩:=h4 j cs q k1 hq;exact hr.four
theorem cI.ia{S:Nat->Prop}{w:World}{v:Value}{K:List (List Rat)}(h:cI w S v K):iB w S v (K.map ia):=by
 obtain⟨rv,h1,h2,h3⟩:=h;refine⟨rv,by rw[aM];exact h1,by rw[aM];exact h2,fun i u x k1 k2=>?_⟩;rw[aO]at k2;obtain⟨q,hq,rfl⟩:=Option.map_eq_some_iff.1 k2;exact(h3 i u q k1 hq).ia
section
variable{S:Nat->Prop}{w:World}{v u:Value}{M:List (List (Int×Int))}{b:List (Int×Int)}
end
theorem cI.l{S:Nat->Prop}{w:World}{v:Value}{K:List (List Rat)}(h:cI w S v K)(hq:∀r∈K,∀q∈r,rl q<=100000):dm w S v K:=by
 obtain⟨rv,h1,h2,h3⟩:=h;exact⟨rv,h1,h2,fun i u x k1 k2=>(h3 i u x k1 k2).l (hq x (aF k2))⟩
theorem eG.zero{w:World}{S:Nat->Prop}:eG w S (.agg #[.bool false,.slice none 0 0,.bool false,.slice none 0 0]) 0:=
 ⟨_,_,_,_,0,0,rfl,⟨false,[],⟨_,rfl,dF.nil _ _⟩,rfl,aN _⟩,⟨false,[],⟨_,rfl,dF.nil _ _⟩,rfl,aN _⟩,by decide⟩
section
variable{S:Nat->Prop}{w:World}{v u:Value}{M:List (List (Int×Int))}{x:List Rat}
end
theorem oB(q:Rat):rs (q-0)=rs q:=by rw[show q-0=q by grind]
theorem lT(n:Int)(w:World)(h1n: -9223372036854775808<=n)(h2n:n<=9223372036854775807):dh PG N.pC #[.int .i64 n] w (dw w fun v' w2=>cR w2 (Nw (fun _=>False) w w2) v' (n:Rat)):=by
 have hw:cN w.heap.size w w:=cN.refl;refine ss (by simp) ?_;conv=>whnf
 refine bz (cE hw (Φ:=fun _ w' v w2=>cR w2 (Nw (fun _=>False) w' w2) v ((n:Rat))) (fun ρ w' r=>Ci n w' h1n h2n) ?_);rintro ρ wa1 v1 wb1 iv1 r he hw h_ hn;have hd:=hn.cw (S:=fun _=>False) r.bu (mN h_);clear r;obtain⟨s1_0,s1_1,s1_2,s1_3,s1_4,s1_5,s1_6,s1_7,rfl⟩:=hd.shape;conv=>whnf
 intro ρe we re;exact⟨_,rfl,hw.tr re.cC,hd.out re (bs w)⟩
theorem vP{S:Nat->Prop}{w:World}{v:Value}{q:Rat}(hS:Old S w)(hq:eG w S v q):dh PG N.rJ #[v] w (dw w fun v' _=>∃d,v'= .bool d∧(d=true↔q=0)):=by
 have hw:cN w.heap.size w w:=cN.refl;obtain⟨f0,f1,f2,f3,f4,f5,f6,f7,rfl⟩:=hq.shape;refine uc (by simp) ?_;conv=>whnf
 refine bz (cE hw (Φ:=fun _ w' v w2=>v= .int .i64 (rs q)) (fun ρ w' r=>(Cj (fun g hg=>by have:=hS g hg;have:=r.bu;omega) (hq.v.cD fun g hg=>(hw.tr r.cC).block g (hS g hg)) (eG.zero (S:=S)).v).mono fun _ _ ⟨v2,e1,e2,e3⟩=>⟨v2,e1,e2,by rw[e3,oB]⟩) ?_);rintro ρ wa1 v1 wb1 iv1 r he hw h_ rfl;clear r;conv=>whnf
 intro ρe we re;refine⟨_,rfl,hw.tr re.cC,_,rfl,?_⟩;rw[beq_iff_eq];exact oY
theorem I8{S:Nat->Prop}{w:World}{v u:Value}{p q:Rat}(hS:Old S w)(hp:eG w S v p)(hq:eG w S u q)(h0:q≠0):dh PG N.tp #[v,u] w (dw w fun v' w2=>cR w2 (Nw (fun _=>False) w w2) v' (p / q)):=by
 have hw:cN w.heap.size w w:=cN.refl;obtain⟨f0,f1,f2,f3,f4,f5,f6,f7,rfl⟩:=hp.shape;obtain⟨g0,g1,g2,g3,g4,g5,g6,g7,rfl⟩:=hq.shape;refine xU (by simp) ?_;conv=>whnf
 refine bz (cE hw (Φ:=fun _ w' v w2=>∃r,v= .tuple #[r,.int .i64 0]∧cR w2 (Nw (fun _=>False) w' w2) r (p / q)) (fun ρ w' r=>(I9 (fun g hg=>by have:=hS g hg;have:=r.bu;omega) (hp.v.cD fun g hg=>(hw.tr r.cC).block g (hS g hg)) (hq.v.cD fun g hg=>(hw.tr r.cC).block g (hS g hg))).mono fun _ _ ⟨v2,e1,e2,e3⟩=>⟨v2,e1,e2,e3.elim (fun h=>absurd h.1 h0) fun h=>h.2⟩) ?_);rintro ρ wa1 v1 wb1 iv1 r he hw h_ ⟨q1,rfl,k1⟩;have hd:=k1.cw (S:=fun _=>False) r.bu (mN h_);clear r;obtain⟨s1_0a,s1_0b,s1_0c,s1_0d,s1_0e,s1_0f,s1_0g,s1_0h,rfl⟩:=hd.shape;clear k1;conv=>whnf
 intro ρe we re;exact⟨_,rfl,hw.tr re.cC,hd.out re (bs w)⟩
theorem Ia{S:Nat->Prop}{w:World}{v:Value}{q:Rat}(hS:Old S w)(hq:eG w S v q):dh PG N.tw #[v] w (dw w fun v' w2=>cR w2 (Nw (fun _=>False) w w2) v' (-q)):=by
 have hw:cN w.heap.size w w:=cN.refl;obtain⟨f0,f1,f2,f3,f4,f5,f6,f7,rfl⟩:=hq.shape;refine xZ (by simp) ?_;conv=>whnf
 refine bz (cE hw (Φ:=fun _ w' v w2=>cR w2 (Nw (fun _=>False) w' w2) v (-q)) (fun ρ w' r=>(GF (fun g hg=>by have:=hS g hg;have:=r.bu;omega) (eG.zero (S:=S)).v (hq.v.cD fun g hg=>(hw.tr r.cC).block g (hS g hg))).mono fun _ _ ⟨v2,e1,e2,e3⟩=>⟨v2,e1,e2,by rwa [show (0:Rat)-q= -q by grind]at e3⟩) ?_);rintro ρ wa1 v1 wb1 iv1 r he hw h_ hn;have hd:=hn.cw (S:=fun _=>False) r.bu (mN h_);clear r;obtain⟨s1_0,s1_1,s1_2,s1_3,s1_4,s1_5,s1_6,s1_7,rfl⟩:=hd.shape;conv=>whnf
 intro ρe we re;exact⟨_,rfl,hw.tr re.cC,hd.out re (bs w)⟩
structure fQ(w:World)(S:Nat->Prop)(n i:Nat)(css:List (List Value))(qs:List Rat):Prop where
 len:css.length=n
 four:∀cs∈css,cs.length=4
 one:∀cs∈css,∀u∈cs,u.oneCell'=true
 at_:∀(j:Nat) cs q,j<i->css[j]? =some cs->qs[j]? =some q->gU w S cs q
section
variable{S S':Nat->Prop}{H:Hp}{nx n i:Nat}{iv iv':Iv}{B:Nat}{w w1 w' w2:World}{ρ:Nat->Sx.dc}{css:List (List Value)}{qs:List Rat}
theorem fQ.cD(h:fQ w S n i css qs)(hk:∀g,S g->w2.heap[g]? =w.heap[g]?):fQ w2 S n i css qs:=⟨h.len,h.four,h.one,fun j cs q hj h1 h2=>(h.at_ j cs q hj h1 h2).cD hk⟩
theorem fQ.cG(h:fQ w S n i css qs)(hk:∀g,S g->S' g):fQ w S' n i css qs:=⟨h.len,h.four,h.one,fun j cs q hj h1 h2=>(h.at_ j cs q hj h1 h2).cG hk⟩
theorem fQ.rel(h:fQ w (Cv S B iv) n i css qs)(r:Rel H nx iv B w ρ w')(hS:∀g,S g->g<B):fQ w' (Cv S B iv) n i css qs:=h.cD fun _ hg=>Rel.same r hS hg
theorem fQ.cB(h:fQ w (Cv S B iv) n i css qs)(r:Rel H nx iv B w ρ w')(hS:∀g,S g->g<B)(he:Ext w' w2)(hm:∀p,p∈iv->p∈iv'):fQ w2 (Cv S B iv') n i css qs:=
 ((h.rel r hS).cD fun g hg=>he.block g (Rel.old r hS g hg)).cG fun _ hg=>hg.mono hm
theorem fQ.start(w:World)(S:Nat->Prop)(n:Nat)(qs:List Rat):fQ w S n 0 (List.replicate n f0) qs:=
 ⟨by simp,fun cs hc=>by rw[bT hc];rfl,fun cs hc u hu=>by rw[bT hc]at hu;simp[f0]at hu;rcases hu with rfl|rfl|rfl|rfl<;>rfl,fun j cs q hj=>by omega⟩
theorem fQ.next{b b2:Bool}{a a2:Option Addr}{m c m2 c2:Nat}{q:Rat}(h:fQ w S n i css qs)(hi:i<n)(hq:qs[i]? =some q)(hf:cR w S (.agg #[.bool b,.slice a m c,.bool b2,.slice a2 m2 c2]) q):
  fQ w S n (i+1) (css.set i [.bool b,.slice a m c,.bool b2,.slice a2 m2 c2]) qs:=by
 refine⟨by simp[h.len],fun cs hc=>?_,fun cs hc u hu=>?_,fun j cs p hj h1 h2=>?_⟩
 ·rcases bD hc with hc|rfl
  ·exact h.four cs hc
  ·rfl
 ·rcases bD hc with hc|rfl
  ·exact h.one cs hc u hu
  ·simp at hu;rcases hu with rfl|rfl|rfl|rfl<;>rfl
 ·by_cases hij:i=j
  ·subst hij;rw[aT (by rw[h.len];exact hi)]at h1;rw[hq]at h2;injection h1 with h1;injection h2 with h2;subst h1 h2;exact hf.oC
  ·rw[a9 hij]at h1;exact h.at_ j cs p (by omega) h1 h2
theorem fQ.flat(h:fQ w S n i css qs):css.flatten.length=n*4:=by rw[eX h.four,h.len]
theorem fQ.done{w0:World}(h:fQ w1 (Cv (fun _=>False) w0.heap.size iv) n n css qs)(hl:qs.length=n)(hn:n<=maxLen)(r:Rel H nx iv w0.heap.size w1 ρ w'){id:Nat}(hH:dA H id=some (.arr T.Rat css.flatten))(hnil:(ρ id).nil=false):
  dQ w' (fun _=>False) w0.heap.size [(w0.heap.size,w'.heap.size)] (.slice (some ⟨(ρ id).g,0,none⟩) n n) n qs:=by
 have h2:=h.rel r (bs w0);have hlow:=r.low id _ hH hnil;refine⟨⟨css,⟨h.flat,.inr ⟨(ρ id).g,n,css.flatten.toArray,rfl,aN _,r.arr id _ _ hH,aG _,hn,by simpa using h.flat,?_⟩⟩,h.len,?_⟩,fun g hg=>?_⟩
 ·rw[<-h.flat];exact ai
 ·refine⟨by rw[h.len,hl],fun j cs q h3 h4=>?_⟩;refine(h2.at_ j cs q (by rw[<-hl];exact(aE.1 h4).1) h3 h4).cG fun g hg=>⟨?_,fun e=>?_⟩
  ·rcases hg with hg|⟨k1,lo,hi,k2,k3,k4⟩
   ·exact hg.elim
   ·exact .inr ⟨k1,_,_,bA.2 rfl,k1,by have:=r.oo lo hi k2;have:=r.size;omega⟩
  ·injection e with e;exact Rel.not r (bs w0) hg id _ hH hnil e
 ·injection hg with hg;subst hg;exact .inr ⟨hlow.1,_,_,bA.2 rfl,hlow.1,hlow.2⟩
theorem fT.c{v:Value}(h:fT w S S v qs):cP w S v qs:=by
 obtain⟨css,h1,h2⟩:=h;exact⟨css,h1,h2.1,h2.uu,h2.2⟩
theorem dQ.c{v:Value}(h:dQ w S B iv v n qs):cP w (Cv S B iv) v qs:=h.read.c
theorem cP.rc{v:Value}(h:cP w S v qs):fT w S S v qs:=by
 obtain⟨css,h1,h2,h3,h4⟩:=h;exact⟨css,h1,h2,h4⟩
theorem fT.rel{C:Nat->Prop}{v:Value}(h:fT w (Cv C B iv) (Cv S B iv) v qs)(r:Rel H nx iv B w ρ w')(hC:∀g,C g->g<B)(hS:∀g,S g->g<B):fT w' (Cv C B iv) (Cv S B iv) v qs:=
 h.cD fun _ hg=>hg.elim (Rel.same r hC) (Rel.same r hS)
theorem fT.cB{C:Nat->Prop}{v:Value}(h:fT w (Cv C B iv) (Cv S B iv) v qs)(r:Rel H nx iv B w ρ w')(hC:∀g,C g->g<B)(hS:∀g,S g->g<B)(he:Ext w' w2)(hm:∀p,p∈iv->p∈iv'):fT w2 (Cv C B iv') (Cv S B iv') v qs:=
 ((h.rel r hC hS).cD fun g hg=>he.block g (hg.elim (Rel.old r hC g) (Rel.old r hS g))).cG (fun _ hg=>hg.mono hm) (fun _ hg=>hg.mono hm)
theorem fT.arg{C:Nat->Prop}{v:Value}(h:fT w C S v qs)(iv:Iv):fT w (Cv C w.heap.size iv) (Cv S w.heap.size iv) v qs:=h.cG (fun _ h=>.inl h) (fun _ h=>.inl h)
theorem fT.shape{C:Nat->Prop}{v:Value}(h:fT w C S v qs):∃a c,v= .slice a qs.length c∧qs.length<=c∧qs.length<=maxLen:=by
 obtain⟨css,⟨h0,_,_,a,c,h1,h2,_⟩,_⟩:=h;exact⟨a,c,h1,h2,h0⟩
theorem fT.load{C:Nat->Prop}{a:Option Addr}{n c j:Nat}{q:Rat}(h:fT w C S (.slice a n c) qs)(hq:qs[j]? =some q):
  ∃ad cs,a=some ad∧gU w S cs q∧∀k u,cs[k]? =some u->C ad.block∧w.cell? ((ad.add (j*4)).add k)=some u:=by
 obtain⟨css,⟨h0,h1,h2,a',c',e,h3,h4⟩,hf⟩:=h;injection e with e1 e2 e3;subst e1;obtain⟨cs,hcs⟩:∃cs,css[j]? =some cs:=⟨_,aB (by rw[hf.1];exact(aE.1 hq).1)⟩
 have hF:=hf.2 j cs q hcs hq;have hl:=hF.len;obtain⟨ad,k1,k2,k3⟩:=h4 (j*4+0) _ (flat_get hf.uu hcs 0 _ (aB (show 0<cs.length by omega)));refine⟨ad,cs,k1,hF,fun k u hu=>?_⟩;obtain⟨ad2,m1,m2,m3⟩:=h4 (j*4+k) u (flat_get hf.uu hcs k u hu);rw[k1]at m1;injection m1 with m1;subst m1;refine⟨m2,?_⟩;rw[<-m3];have:(ad.add (j*4)).add k=ad.add (j*4+k):=by
  unfold Addr.add;split<;>split<;>simp_all<;>omega
 rw[this]
theorem Bk{j:Nat}{a:Option Addr}{c:Nat}{cs:List Value}(h:w.ownsRow 0 T.Rat 4 (.slice a n c) n css.flatten)(hf:Fc w S css qs)(hj:css[j]? =some cs):
  ∃g,a=some ⟨g,0,none⟩∧∀k u,cs[k]? =some u->w.cell? ((Addr.add ⟨g,0,none⟩ (j*4)).add k)=some u:=by
 rcases h.2 with⟨h1,h0⟩|⟨g,cap,cur,hv2,_⟩
 ·have:=h.1;rw[eX hf.uu]at this;have:=(aE.1 hj).1;omega
 ·injection hv2 with h1 h2 h3;subst h1;refine⟨g,rfl,fun k u hu=>?_⟩;have:=h.cells (g:=g) rfl (j*4+k) u (flat_get hf.uu hj k u hu);rw[dM,dM];rw[dM]at this;rw[Nat.add_assoc];exact this
end
theorem Bl(n:Nat)(w:World)(hn:n<=1000000):dh PG N.pE #[.int .i64 n] w (dw w fun v' w2=>dQ w2 (fun _=>False) w.heap.size [(w.heap.size,w2.heap.size)] v' n (List.replicate n 0)):=by
 have hw:cN w.heap.size w w:=cN.refl;refine tC (by simp) ?_;conv=>whnf
 refine⟨n,n,rfl,rfl,aG _,by omega,by omega,?_⟩;conv=>whnf
 refine⟨Nat×List (List Value)×Iv×World,fun z=>⟨[(3,.o (.s 0 0 n n)),(8,.o (.v (.int .i64 n))),(9,.o (.v (.int .i64 ((z.1:Nat):Int))))],[(0,.arr T.Rat z.2.1.flatten)],1,z.2.2.1,z.2.2.2⟩,fun z=>n-z.1,
  fun z=>z.1<=n∧cN w.heap.size w z.2.2.2∧fQ z.2.2.2 (Cv (fun _=>False) w.heap.size z.2.2.1) (n) z.1 z.2.1 (List.replicate n 0),?_,?_⟩
 ·intro ρ w' r;exact⟨(0,List.replicate (n) f0,_,w'),⟨by simp,hw.tr r.cC,fQ.start _ _ _ _⟩,Sub.gen [] r ⟨rfl,trivial⟩ ⟨rfl,rfl,rfl,trivial⟩ (by simp[dG,cW.scopd,At.sc]) (by simp[cV,SV.sc,At.sc]) (by rfl) (fun lo hi h=>h)⟩
 clear hw;rintro⟨i,css,iv,w1⟩ ⟨hi,hw,hF⟩;dsimp only at hi hw hF ⊢;conv=>whnf
 refine dE.mk (fun h=>?_) (fun h=>?_)
 ·have h:i<n:=by simpa using h
  conv=>whnf
  refine bz (cE hw (Φ:=fun _ w' v w2=>cR w2 (Nw (fun _=>False) w' w2) v (((0:Int):Rat))) (fun ρ w' r=>lT 0 w' (by decide) (by decide)) ?_);rintro ρ wa1 v1 wb1 iv1 r he hw h_ hn;replace hF:=hF.cB r (bs w) he (mC h_);have hd:=hn.cw (S:=fun _=>False) r.bu (mN h_);clear r hn;obtain⟨s1_0,s1_1,s1_2,s1_3,s1_4,s1_5,s1_6,s1_7,rfl⟩:=hd.shape;have hnext:=hF.next h (q:=_) (by simp[h]) hd
  conv=>whnf
  refine⟨⟨by omega,by omega⟩,?_⟩;conv=>whnf
  refine⟨by have:=hF.flat;omega,(css.set i [.bool s1_0,.slice s1_1 s1_2 s1_3,.bool s1_4,.slice s1_5 s1_6 s1_7]).flatten,?_,?_⟩
  ·have:=iJ (cs:=[.bool s1_0,.slice s1_1 s1_2 s1_3,.bool s1_4,.slice s1_5 s1_6 s1_7]) hF.four (show i<css.length by rw[hF.len];exact h);rw[<-this];simp
  conv=>whnf
  refine⟨((i+1:Nat):Int),by rw[wrap64]<;>omega,?_⟩;conv=>whnf
  intro ρ3 w3 r3;exact⟨(i+1,css.set i [.bool s1_0,.slice s1_1 s1_2 s1_3,.bool s1_4,.slice s1_5 s1_6 s1_7],_,w3),⟨h,hw.tr r3.cC,hnext.rel r3 (bs w)⟩,Sub.gen [] r3 ⟨rfl,trivial⟩ ⟨rfl,rfl,rfl,trivial⟩ (by simp[dG,cW.scopd,At.sc]) (by simp[cV,SV.sc,At.sc]) (by rfl) (fun lo hi h=>h),by dsimp only;omega⟩
 have h:i=n:=aP hi (by simpa using h);subst h;conv=>whnf
 intro ρe we re;exact⟨_,rfl,hw.tr re.cC,hF.done (by simp) (by unfold maxLen;omega) re (id:=0) rfl (re.nn 0 _ rfl (by intros;simp) (by simp))⟩
theorem zS{S:Nat->Prop}{w:World}{v u:Value}{xs:List Rat}{b:Rat}(hS:Old S w)(hx:dY w S v xs)(hb:eG w S u b)(hn:xs.length<=1000000):
  dh PG N.nW #[v,u] w (dw w fun v' w2=>dQ w2 (fun _=>False) w.heap.size [(w.heap.size,w2.heap.size)] v' xs.length (gG xs b)):=by
 have hw:cN w.heap.size w w:=cN.refl;obtain⟨ax,cx,rfl,hcx,hmx⟩:=dx.shape hx;obtain⟨g0,g1,g2,g3,g4,g5,g6,g7,rfl⟩:=hb.shape;have hby:rl b<=100000:=hb.rl;refine rX (by simp) ?_;conv=>whnf
 refine⟨xs.length,xs.length,rfl,rfl,aG _,by omega,by omega,?_⟩;conv=>whnf
 refine⟨Nat×List (List Value)×Iv×World,fun z=>⟨[(3,.o (.p 0 0)),(5,.o (.s 1 0 xs.length xs.length)),(11,.o (.v (.slice ax xs.length cx))),(12,.o (.v (.int .i64 xs.length))),(13,.o (.v (.int .i64 ((z.1:Nat):Int))))],[(0,.box T.Rat [.v (.bool g0),.v (.slice g1 g2 g3),.v (.bool g4),.v (.slice g5 g6 g7)]),(1,.arr T.Rat z.2.1.flatten)],2,z.2.2.1,z.2.2.2⟩,fun z=>xs.length-z.1,
  fun z=>z.1<=xs.length∧cN w.heap.size w z.2.2.2∧fQ z.2.2.2 (Cv (fun _=>False) w.heap.size z.2.2.1) (xs.length) z.1 z.2.1 (gG xs b),?_,?_⟩
 ·intro ρ w' r;exact⟨(0,List.replicate (xs.length) f0,_,w'),⟨by simp,hw.tr r.cC,fQ.start _ _ _ _⟩,Sub.gen [] r ⟨rfl,rfl,trivial⟩ ⟨rfl,rfl,rfl,rfl,rfl,trivial⟩ (by simp[dG,cW.scopd,At.sc]) (by simp[cV,SV.sc,At.sc]) (by rfl) (fun lo hi h=>h)⟩
 clear hw;rintro⟨i,css,iv,w1⟩ ⟨hi,hw,hF⟩;dsimp only at hi hw hF ⊢;conv=>whnf
 refine dE.mk (fun h=>?_) (fun h=>?_)
 ·have h:i<xs.length:=by simpa using h
  obtain⟨x,hxi⟩:∃x,xs[i]? =some x:=⟨_,aB h⟩
  obtain⟨adx,csx,hax,hFx,-,hlx⟩:=dx.load hx hxi;obtain⟨f0,f1,f2,f3,f4,f5,f6,f7,rfl,hFx⟩:=hFx;conv=>whnf
  refine⟨adx,hax,⟨by omega,by omega⟩,?_⟩;conv=>whnf
  refine⟨[.bool f0,.slice f1 f2 f3,.bool f4,.slice f5 f6 f7],rfl,fun ρ w' r j u hu=>?_,?_⟩
  ·obtain⟨k1,k2⟩:=hlx j u hu;rw[aC,bw (w:=w) (w2:=w') (by rw[cL,cL];exact(hw.tr r.cC).block _ (hS _ k1))];exact k2
  conv=>whnf
  refine bz (cE hw (Φ:=fun _ w' v w2=>cR w2 (Nw (fun _=>False) w' w2) v (x*b)) (fun ρ w' r=>Ck (fun g hg=>by have:=hS g hg;have:=r.bu;omega) (hFx.v.cD fun g hg=>(hw.tr r.cC).block g (hS g hg)) (hb.v.cD fun g hg=>(hw.tr r.cC).block g (hS g hg))) ?_);rintro ρ wa1 v1 wb1 iv1 r he hw h_ hn;replace hF:=hF.cB r (bs w) he (mC h_);have hd:=hn.cw (S:=fun _=>False) r.bu (mN h_);clear r hn;obtain⟨s1_0,s1_1,s1_2,s1_3,s1_4,s1_5,s1_6,s1_7,rfl⟩:=hd.shape;have hnext:=hF.next h (q:=_) (by rw[gG,aO,hxi];rfl) hd
  conv=>whnf
  refine⟨⟨by omega,by omega⟩,?_⟩;conv=>whnf
  refine⟨by have:=hF.flat;omega,(css.set i [.bool s1_0,.slice s1_1 s1_2 s1_3,.bool s1_4,.slice s1_5 s1_6 s1_7]).flatten,?_,?_⟩
  ·have:=iJ (cs:=[.bool s1_0,.slice s1_1 s1_2 s1_3,.bool s1_4,.slice s1_5 s1_6 s1_7]) hF.four (show i<css.length by rw[hF.len];exact h);rw[<-this];simp
  conv=>whnf
  refine⟨((i+1:Nat):Int),by rw[wrap64]<;>omega,?_⟩;conv=>whnf
  intro ρ3 w3 r3;exact⟨(i+1,css.set i [.bool s1_0,.slice s1_1 s1_2 s1_3,.bool s1_4,.slice s1_5 s1_6 s1_7],_,w3),⟨h,hw.tr r3.cC,hnext.rel r3 (bs w)⟩,Sub.gen [] r3 ⟨rfl,rfl,trivial⟩ ⟨rfl,rfl,rfl,rfl,rfl,trivial⟩ (by simp[dG,cW.scopd,At.sc]) (by simp[cV,SV.sc,At.sc]) (by rfl) (fun lo hi h=>h),by dsimp only;omega⟩
 have h:i=xs.length:=aP hi (by simpa using h);subst h;conv=>whnf
 intro ρe we re;exact⟨_,rfl,hw.tr re.cC,hF.done (by simp[gG]) (by unfold maxLen;omega) re (id:=1) rfl (re.nn 1 _ rfl (by intros;simp) (by simp))⟩
theorem HU{S:Nat->Prop}{w:World}{v u:Value}{xs ys:List Rat}(hS:Old S w)(hx:dY w S v xs)(hy:dY w S u ys)(hl:xs.length<=ys.length)(hn:xs.length<=1000000):
  dh PG N.rD #[v,u] w (dw w fun v' w2=>dQ w2 (fun _=>False) w.heap.size [(w.heap.size,w2.heap.size)] v' xs.length (kP xs ys)):=by
 have hw:cN w.heap.size w w:=cN.refl;obtain⟨ax,cx,rfl,hcx,hmx⟩:=dx.shape hx;obtain⟨ay,cy,rfl,hcy,hmy⟩:=dx.shape hy;refine uY (by simp) ?_;conv=>whnf
 refine⟨xs.length,xs.length,rfl,rfl,aG _,by omega,by omega,?_⟩;conv=>whnf
 refine⟨Nat×List (List Value)×Iv×World,fun z=>⟨[(0,.o (.v (.slice ax xs.length cx))),(1,.o (.v (.slice ay ys.length cy))),(5,.o (.s 0 0 xs.length xs.length)),(11,.o (.v (.int .i64 xs.length))),(12,.o (.v (.int .i64 ((z.1:Nat):Int))))],[(0,.arr T.Rat z.2.1.flatten)],1,z.2.2.1,z.2.2.2⟩,fun z=>xs.length-z.1,
  fun z=>z.1<=xs.length∧cN w.heap.size w z.2.2.2∧fQ z.2.2.2 (Cv (fun _=>False) w.heap.size z.2.2.1) (xs.length) z.1 z.2.1 (kP xs ys),?_,?_⟩
 ·intro ρ w' r;exact⟨(0,List.replicate (xs.length) f0,_,w'),⟨by simp,hw.tr r.cC,fQ.start _ _ _ _⟩,Sub.gen [] r ⟨rfl,trivial⟩ ⟨rfl,rfl,rfl,rfl,rfl,trivial⟩ (by simp[dG,cW.scopd,At.sc]) (by simp[cV,SV.sc,At.sc]) (by rfl) (fun lo hi h=>h)⟩
 clear hw;rintro⟨i,css,iv,w1⟩ ⟨hi,hw,hF⟩;dsimp only at hi hw hF ⊢;conv=>whnf
 refine dE.mk (fun h=>?_) (fun h=>?_)
 ·have h:i<xs.length:=by simpa using h
  obtain⟨x,hxi⟩:∃x,xs[i]? =some x:=⟨_,aB h⟩
  obtain⟨y,hyi⟩:∃x,ys[i]? =some x:=⟨_,aB (by omega)⟩
  obtain⟨adx,csx,hax,hFx,-,hlx⟩:=dx.load hx hxi;obtain⟨f0,f1,f2,f3,f4,f5,f6,f7,rfl,hFx⟩:=hFx;obtain⟨ady,csy,hay,hFy,-,hly⟩:=dx.load hy hyi;obtain⟨q0,q1,q2,q3,q4,q5,q6,q7,rfl,hFy⟩:=hFy;conv=>whnf
  refine cF hτ dV [.x 0,.x 1,.x 2,.x 3,.x 4,.x 5,.x 6,.x 7,.x 8,.x 9,.x 10,.x 11,.x 12] (by kernel_rfl) (by kernel_rfl) ?_;conv=>whnf
  refine⟨adx,hax,⟨by omega,by omega⟩,?_⟩;conv=>whnf
  refine⟨[.bool f0,.slice f1 f2 f3,.bool f4,.slice f5 f6 f7],rfl,fun ρ w' r j u hu=>?_,?_⟩
  ·obtain⟨k1,k2⟩:=hlx j u hu;rw[aC,bw (w:=w) (w2:=w') (by rw[cL,cL];exact(hw.tr r.cC).block _ (hS _ k1))];exact k2
  conv=>whnf
  refine⟨ady,hay,⟨by omega,by omega⟩,?_⟩;conv=>whnf
  refine⟨[.bool q0,.slice q1 q2 q3,.bool q4,.slice q5 q6 q7],rfl,fun ρ w' r j u hu=>?_,?_⟩
  ·obtain⟨k1,k2⟩:=hly j u hu;rw[aC,bw (w:=w) (w2:=w') (by rw[cL,cL];exact(hw.tr r.cC).block _ (hS _ k1))];exact k2
  conv=>whnf
  refine cE hw (Φ:=fun _ w' v w2=>cR w2 (Nw (fun _=>False) w' w2) v (x*y)) (fun ρ w' r=>Ck (fun g hg=>by have:=hS g hg;have:=r.bu;omega) (hFx.v.cD fun g hg=>(hw.tr r.cC).block g (hS g hg)) (hFy.v.cD fun g hg=>(hw.tr r.cC).block g (hS g hg))) ?_;rintro ρ wa1 v1 wb1 iv1 r he hw h_ hn;replace hF:=hF.cB r (bs w) he (mC h_);have hd:=hn.cw (S:=fun _=>False) r.bu (mN h_);clear r hn;obtain⟨s1_0,s1_1,s1_2,s1_3,s1_4,s1_5,s1_6,s1_7,rfl⟩:=hd.shape;have hnext:=hF.next h (q:=_) (by rw[kP,List.getElem?_mapIdx,hxi,List.getD,hyi];rfl) hd
  conv=>whnf
  refine⟨⟨by omega,by omega⟩,?_⟩;conv=>whnf
  refine⟨by have:=hF.flat;omega,(css.set i [.bool s1_0,.slice s1_1 s1_2 s1_3,.bool s1_4,.slice s1_5 s1_6 s1_7]).flatten,?_,?_⟩
  ·have:=iJ (cs:=[.bool s1_0,.slice s1_1 s1_2 s1_3,.bool s1_4,.slice s1_5 s1_6 s1_7]) hF.four (show i<css.length by rw[hF.len];exact h);rw[<-this];simp
  conv=>whnf
  refine⟨((i+1:Nat):Int),by rw[wrap64]<;>omega,?_⟩;conv=>whnf
  intro ρ3 w3 r3;exact⟨(i+1,css.set i [.bool s1_0,.slice s1_1 s1_2 s1_3,.bool s1_4,.slice s1_5 s1_6 s1_7],_,w3),⟨h,hw.tr r3.cC,hnext.rel r3 (bs w)⟩,Sub.gen [] r3 ⟨rfl,trivial⟩ ⟨rfl,rfl,rfl,rfl,rfl,trivial⟩ (by simp[dG,cW.scopd,At.sc]) (by simp[cV,SV.sc,At.sc]) (by rfl) (fun lo hi h=>h),by dsimp only;omega⟩
 have h:i=xs.length:=aP hi (by simpa using h);subst h;conv=>whnf
 intro ρe we re;exact⟨_,rfl,hw.tr re.cC,hF.done (by simp[kP]) (by unfold maxLen;omega) re (id:=0) rfl (re.nn 0 _ rfl (by intros;simp) (by simp))⟩
theorem HV{C S:Nat->Prop}{w:World}{v vby vs:Value}{n h:Nat}{qs ps:List Rat}{p:Rat}(hC:Old C w)(hS:Old S w)(hrw:gV w S v n qs)(hby:eG w S vby p)
  (hs:fT w C S vs ps) (hpl:ps.length=n) (hdis:∀g,v.ownBlock=some g->¬S g) (hdc:∀g,v.ownBlock=some g->¬C g) (hq:∀q∈qs,rl q+1<=h) (hps:∀q∈ps,rl q+1<=h) (hb:rl p+1<=h) (hh:3*h<=90000):
  dh PG N.mG #[v,vs,vby] w (fun e w2=>e= .returned (.tuple #[])∧w.grownBy w2 v.ownBlock∧gV w2 (Nw S w w2) v n (kO qs ps p)):=by
 obtain⟨css,hrow,hcl,hfr⟩:=hrw;have hlow:∀g,v.ownBlock=some g->g<w.heap.size:=fun g hg=>(ownsRow.low hrow g hg).2;have hout:∀iv g,v.ownBlock=some g->Out w.heap.size iv g:=fun iv g hg=>.inl (hlow g hg);have hdis2:∀iv g,v.ownBlock=some g->¬Cv S w.heap.size iv g:=fun iv g hg h=>by
  rcases h with h|⟨h,_⟩
  ·exact hdis g hg h
  ·have:=hlow g hg;omega
 have hdis3:∀iv g,v.ownBlock=some g->¬Cv C w.heap.size iv g:=fun iv g hg h=>by
  rcases h with h|⟨h,_⟩
  ·exact hdc g hg h
  ·have:=hlow g hg;omega
 have hql:qs.length=n:=by rw[<-hfr.1,hcl]
 obtain⟨a,c,rfl,hnc⟩:=iw hrow;obtain⟨b1,a1,n1,c1,b2,a2,n2,c2,rfl⟩:=hby.shape;obtain⟨asl,cs0,rfl,hsc,hnm⟩:=hs.shape;rw[hpl]at hsc hnm hs ⊢;unfold maxLen at hnm;replace hfr:=hfr.cG (S':=Cv S w.heap.size []) fun _ h=>.inl h;replace hby:=hby.arg [];replace hs:=hs.arg [];refine ug (by simp) ?_;have hrow2:=hrow;have hg:w.grownBy w (Value.slice a n c).ownBlock:=⟨rfl,rfl,rfl,aG _,fun _ _ _=>rfl⟩
 have hbyl:rl p<=100000:=hby.rl;conv=>whnf
 refine⟨Nat×List (List Value)×Iv×World,fun z=>⟨[(0,.o (.v (.slice a n c))),(5,.o (.p 0 0)),(8,.o (.v (.slice asl n cs0))),(9,.o (.v (.int .i64 n))),(10,.o (.v (.int .i64 z.1)))],
   [(0,.box T.Rat [.v (.bool b1),.v (.slice a1 n1 c1),.v (.bool b2),.v (.slice a2 n2 c2)])],1,z.2.2.1,z.2.2.2⟩,fun z=>n-z.1,
  fun z=>z.1<=n∧w.grownBy z.2.2.2 (Value.slice a n c).ownBlock∧z.2.2.2.ownsRow 0 T.Rat 4 (.slice a n c) n z.2.1.flatten∧z.2.1.length=n∧Fc z.2.2.2 (Cv S w.heap.size z.2.2.1) z.2.1 (gk z.1 (p8 (-p) ps) qs)∧
   eG z.2.2.2 (Cv S w.heap.size z.2.2.1) (.agg #[.bool b1,.slice a1 n1 c1,.bool b2,.slice a2 n2 c2]) p∧fT z.2.2.2 (Cv C w.heap.size z.2.2.1) (Cv S w.heap.size z.2.2.1) (.slice asl n cs0) ps,?_,?_⟩
 ·intro ρ w' r
  refine⟨(0,css,[],w'),⟨by simp,fZ hg r.cC,mQ hrow2 (hout []) r,hcl,by rw[xc];exact hfr.rel r hS,hby.rel r hS,hs.rel r hC hS⟩,
   Sub.gen [] r ⟨rfl,trivial⟩ ⟨rfl,rfl,rfl,rfl,rfl,trivial⟩ (by simp[dG,cW.scopd,At.sc]) (by simp[cV,SV.sc,At.sc]) (by rfl) (fun lo hi h=>h)⟩
 clear hrow hrow2 hfr hby hcl hs hg;rintro⟨i,css,iv,w1⟩ ⟨hi,hg,hrow,hcl,hfr,hby,hs⟩;dsimp only at hi hg hrow hcl hfr hby hs ⊢;conv=>whnf
 refine dE.mk (fun h=>?_) (fun h=>?_)
 ·have h:i<n:=by simpa using h
  obtain⟨cs,hcs⟩:∃cs,css[i]? =some cs:=⟨_,aB (by omega)⟩
  obtain⟨q,hqi⟩:∃q,qs[i]? =some q:=⟨_,aB (by omega)⟩
  obtain⟨f,hfi⟩:∃f,ps[i]? =some f:=⟨_,aB (by omega)⟩
  have hF:=hfr.2 i cs q hcs (Bm hqi);have hadd:p8 (-p) ps i q=q-p*f:=by simp only[p8,List.getD,hfi,Option.getD_some];grind
  obtain⟨d1,e1,m1,k1,d2,e2,m2,k2,rfl,hF⟩:=hF;have hrlq:=hq q (aF hqi);have hrlf:=hps f (aF hfi);obtain⟨ad,fcs,had,hff,hfl⟩:=hs.load hfi;obtain⟨f1,g1,o1,u1,f2,g2,o2,u2,rfl,hff⟩:=hff;conv=>whnf
  refine⟨ad,had,⟨by omega,by omega⟩,?_⟩;conv=>whnf
  refine⟨[.bool f1,.slice g1 o1 u1,.bool f2,.slice g2 o2 u2],rfl,fun ρ w' r j x hx=>?_,?_⟩
  ·have hs2:=hs.rel r hC hS;obtain⟨k2',k3⟩:=hfl j x hx;have:=Rel.same r hC k2';rw[aC,bw (w:=w1) (w2:=w') (by rw[cL,cL];exact this)];exact k3
  conv=>whnf
  refine bz (cH (Φ:=fun _ _ v _=>∃d,v= .bool d∧(d=true↔f=0)) (fun ρ w' r=>vP (Rel.old r hS) ((hff.rel r hS).l (by omega))) ?_);rintro ρ wa v1 wb r he hbl ⟨dz,rfl,hz⟩;replace hby:=hby.cB (iv':=(wa.heap.size,wb.heap.size)::iv) r hS he fun x hx=>aD _ hx;replace hfr:=hfr.cB (iv':=(wa.heap.size,wb.heap.size)::iv) r hS he fun x hx=>aD _ hx;replace hs:=hs.cB (iv':=(wa.heap.size,wb.heap.size)::iv) r hC hS he fun x hx=>aD _ hx;replace hff:=hff.cB (iv':=(wa.heap.size,wb.heap.size)::iv) r hS he fun x hx=>aD _ hx;replace hF:=hF.cB (iv':=(wa.heap.size,wb.heap.size)::iv) r hS he fun x hx=>aD _ hx;replace hrow:wb.ownsRow 0 T.Rat 4 (.slice a n c) n css.flatten:=ownsRow.cD (mQ hrow (hout iv) r) fun b hb=>he.block b (by have:=hlow b hb;have:=r.bu;omega);replace hg:w.grownBy wb _:=fZ hg hbl;clear r he hbl hfl;generalize (wa.heap.size,wb.heap.size)::iv=iv2 at*
  cases dz
  ·conv=>whnf
   refine cF hτ dV [.x 0,.x 1,.x 2,.x 3,.x 4,.x 5,.x 6,.x 7,.x 8,.x 9,.x 10,.x 11] (by kernel_rfl) (by kernel_rfl) ?_;conv=>whnf
   obtain⟨g,rfl,hload⟩:=Bk hrow hfr hcs;refine⟨⟨g,0,none⟩,rfl,⟨by omega,by omega⟩,?_⟩;conv=>whnf
   refine⟨[.bool d1,.slice e1 m1 k1,.bool d2,.slice e2 m2 k2],rfl,fun ρ w' r j x hx=>?_,?_⟩
   ·have:=Bk (mQ hrow (hout iv2) r) (hfr.rel r hS) hcs;obtain⟨g',h1,h2⟩:=this;injection h1 with h1;rw[<-h1]at h2;exact h2 j x hx
   conv=>whnf
   have hl1:=s7 p f;refine cH (Φ:=fun _ w' v w2=>cR w2 (Nw (fun _=>False) w' w2) v (p*f)) (fun ρ w' r=>Ck (Rel.old r hS) (hby.rel r hS).v ((hff.rel r hS).v (by omega))) ?_;rintro ρ wa v1 wb r he hbl hP;have hPN:=hP.cw (S:=S) r.bu (iv:=(wa.heap.size,wb.heap.size)::iv2) aJ;replace hby:=hby.cB (iv':=(wa.heap.size,wb.heap.size)::iv2) r hS he fun x hx=>aD _ hx;replace hfr:=hfr.cB (iv':=(wa.heap.size,wb.heap.size)::iv2) r hS he fun x hx=>aD _ hx;replace hs:=hs.cB (iv':=(wa.heap.size,wb.heap.size)::iv2) r hC hS he fun x hx=>aD _ hx;replace hF:=hF.cB (iv':=(wa.heap.size,wb.heap.size)::iv2) r hS he fun x hx=>aD _ hx;replace hrow:wb.ownsRow 0 T.Rat 4 (.slice (some ⟨g,0,none⟩) n c) n css.flatten:=ownsRow.cD (mQ hrow (hout iv2) r) fun b hb=>he.block b (by have:=hlow b hb;have:=r.bu;omega);replace hg:w.grownBy wb _:=fZ hg hbl;clear r he hbl hP hff hload;generalize (wa.heap.size,wb.heap.size)::iv2=iv3 at*
   obtain⟨b5,a5,n5,c5,b6,a6,n6,c6,rfl⟩:=hPN.shape;conv=>whnf
   refine cH (Φ:=fun _ w' v w2=>cR w2 (Nw (fun _=>False) w' w2) v (q-p*f)) (fun ρ w' r=>GF (Rel.old r hS) ((hF.rel r hS).v (by omega)) ((hPN.rel r hS).v (by omega))) ?_;rintro ρ wc v2 wd r he hbl hQ;have hQN:=hQ.cw (S:=S) r.bu (iv:=(wc.heap.size,wd.heap.size)::iv3) aJ;replace hby:=hby.cB (iv':=(wc.heap.size,wd.heap.size)::iv3) r hS he fun x hx=>aD _ hx;replace hfr:=hfr.cB (iv':=(wc.heap.size,wd.heap.size)::iv3) r hS he fun x hx=>aD _ hx;replace hs:=hs.cB (iv':=(wc.heap.size,wd.heap.size)::iv3) r hC hS he fun x hx=>aD _ hx;replace hrow:wd.ownsRow 0 T.Rat 4 (.slice (some ⟨g,0,none⟩) n c) n css.flatten:=ownsRow.cD (mQ hrow (hout iv3) r) fun b hb=>he.block b (by have:=hlow b hb;have:=r.bu;omega);replace hg:w.grownBy wd _:=fZ hg hbl;clear r he hbl hQ hPN hF;generalize (wc.heap.size,wd.heap.size)::iv3=iv4 at*
   obtain⟨b7,a7,n7,c7,b8,a8,n8,c8,rfl⟩:=hQN.shape;rw[<-hadd]at hQN;conv=>whnf
   refine⟨⟨g,0,none⟩,rfl,⟨by omega,by omega⟩,?_⟩;conv=>whnf
   intro ρ w' r;have hrow3:=mQ hrow (hout iv4) r;have hF5:=(hQN.rel r hS).oC;obtain⟨g',hg',hok,hst,hgr,hsz⟩:=nG (nv:=[.bool b7,.slice a7 n7 c7,.bool b8,.slice a8 n8 c8]) hrow3 rfl h rfl (by decide);injection hg' with hg';injection hg' with hg';subst hg';have hset:=iJ (cs:=[.bool b7,.slice a7 n7 c7,.bool b8,.slice a8 n8 c8]) hfr.uu (show i<css.length by omega);rw[hset]at hst;have hkeep:∀x,Cv S w.heap.size iv4 x->(setCells w' ⟨g,i*4,none⟩ [.bool b7,.slice a7 n7 c7,.bool b8,.slice a8 n8 c8]).heap[x]? =w'.heap[x]? :=fun x hx=>
    hgr.block x (Rel.old r hS x hx) fun e=>hdis2 iv4 g rfl (by injection e with e;rw[<-e];exact hx)
   have had2:(⟨g,0,none⟩:Addr).add ((i:Int).toNat*4)=⟨g,i*4,none⟩:=by rw[aC,dM,aS]
   have hF6:=((hfr.rel r hS).cD hkeep).set (j:=i) (hF5.cD hkeep);rw[qG (f:=p8 (-p) ps) hqi]at hF6;have hby6:=(hby.rel r hS).cD hkeep;have hkeep3:∀x,Cv C w.heap.size iv4 x->(setCells w' ⟨g,i*4,none⟩ [.bool b7,.slice a7 n7 c7,.bool b8,.slice a8 n8 c8]).heap[x]? =w'.heap[x]? :=fun x hx=>
    hgr.block x (Rel.old r hC x hx) fun e=>hdis3 iv4 g rfl (by injection e with e;rw[<-e];exact hx)
   have hs6:=(hs.rel r hC hS).cD fun x hx=>hx.elim (hkeep3 x) (hkeep x);clear hkeep3;replace hg:w.grownBy (setCells w' ⟨g,i*4,none⟩ [.bool b7,.slice a7 n7 c7,.bool b8,.slice a8 n8 c8]) (some g):=fh (fZ hg r.cC) hgr;have hnot:=fun id b hb hn=>Rel.not r (fun _ h=>h) (hout iv4 g rfl) id b hb hn;clear r hfr hby hQN hrow hrow3 hF5 hkeep hset hgr hs;refine⟨by rw[had2],fun k hk=>by rw[had2];exact hok k hk,fun id b hb hn=>by rw[had2];exact hnot id b hb hn,fun w2 hw2=>?_⟩;have hw2:w2=setCells w' ⟨g,i*4,none⟩ [.bool b7,.slice a7 n7 c7,.bool b8,.slice a8 n8 c8]:=by rw[hw2];exact congrArg (fun x=>setCells w' x _) had2
   rw[<-hw2]at hF6 hby6 hst hg hsz hs6;clear hw2 hok hnot;conv=>whnf
   refine⟨((i+1:Nat):Int),by rw[wrap64]<;>omega,?_⟩;conv=>whnf
   intro ρ3 w3 r3
   exact⟨(i+1,css.set i [.bool b7,.slice a7 n7 c7,.bool b8,.slice a8 n8 c8],iv4,w3),⟨h,fZ hg r3.cC,mQ hst (hout iv4) r3,by simpa using hcl,hF6.rel r3 hS,hby6.rel r3 hS,hs6.rel r3 hC hS⟩,
    Sub.gen [] r3 ⟨rfl,trivial⟩ ⟨rfl,rfl,rfl,rfl,rfl,trivial⟩ (by simp[dG,cW.scopd,At.sc]) (by simp[cV,SV.sc,At.sc]) (by rfl) (fun lo hi h=>h),by dsimp only;omega⟩
  ·have hf0:f=0:=hz.1 rfl;have hsame:p8 (-p) ps i q=q:=by rw[hadd,hf0];grind
   conv=>whnf
   refine⟨((i+1:Nat):Int),by rw[wrap64]<;>omega,?_⟩;conv=>whnf
   intro ρ3 w3 r3
   exact⟨(i+1,css,iv2,w3),⟨h,fZ hg r3.cC,mQ hrow (hout iv2) r3,hcl,by rw[<-Cl hqi hsame];exact hfr.rel r3 hS,hby.rel r3 hS,hs.rel r3 hC hS⟩,
    Sub.gen [] r3 ⟨rfl,trivial⟩ ⟨rfl,rfl,rfl,rfl,rfl,trivial⟩ (by simp[dG,cW.scopd,At.sc]) (by simp[cV,SV.sc,At.sc]) (by rfl) (fun lo hi h=>h),by dsimp only;omega⟩
 ·have h:i=n:=by
   have:¬i<n:=by simpa using h
   omega
  subst h;conv=>whnf
  intro ρ5 w5 r5;refine⟨rfl,fZ hg r5.cC,css,mQ hrow (hout iv) r5,hcl,?_⟩;have:=(hfr.rel r5 hS).cG (S':=Nw S w w5) fun g hg=>Cv.nw hg r5
  rwa [<-hql,zT]at this
section
variable{S:Nat->Prop}{w:World}{v u vx vk vp:Value}{z:Int}{M K:List (List (Int×Int))}{b X P:List (Int×Int)}
end
end Go.Ex
namespace Go.Sx
open Go Go.Ex Go.Proofs
theorem Sub.JO{B:Nat}{l tl:Env}{nx:Nat}{H tH:Hp}{iv:Iv}{w w':World}{ρ:Nat->Sx.dc}{id t n sz:Nat}{e:TypeId}{cs:List Value}(r:Rel H nx iv B w ρ w')(hid:dA H id=some (.vec e sz cs))(hn:(ρ id).nil=false)(ht:ef l t=some (.o (.w id n)))
  (hs:uP H tH) (ho:BI id tH=true) (h1:BC l tl) (h2:cV nx tl):
  Sub B l nx ρ w' ⟨(t,.o (.v (.slice (some ⟨(ρ id).g,0,none⟩) n (ρ id).cap)))::tl,tH,nx,((ρ id).g,(ρ id).g+1)::iv,w'⟩:=
 ⟨ρ,r.free hid (by simp) hn hs ho,fun u v hv=>rk hn ht h1 h2 u v hv⟩
end Go.Sx
namespace Go.Ex
open Go Go.Sx Go.Proofs
end Go.Ex
namespace Go.Ex
open Go Go.Sx Go.Proofs
def Ob(rv:List Value)(g:Nat):Prop:=∃v∈rv,v.ownBlock=some g
def Lr(S:Nat->Prop)(B:Nat)(iv:Iv)(rv:List Value)(g:Nat):Prop:=Cv S B iv g∧¬Ob rv g
structure jx(w:World)(S:Nat->Prop)(B:Nat)(iv:Iv)(rv:List Value)(n:Nat)(M:List (List Rat)):Prop where
 len:rv.length=M.length
 row:∀(i:Nat) v qs,rv[i]? =some v->M[i]? =some qs->gV w (Lr S B iv rv) v n qs
 CP:∀(i j:Nat) a b g,rv[i]? =some a->rv[j]? =some b->a.ownBlock=some g->b.ownBlock=some g->i=j
 new:∀g,Ob rv g->Cv (fun _=>False) B iv g
theorem Ob.append{rv:List Value}{v:Value}{g:Nat}:Ob (rv++[v]) g↔Ob rv g∨v.ownBlock=some g:=by
 unfold Ob;simp[or_and_right,exists_or]
section
variable{S S':Nat->Prop}{H:Hp}{nx n:Nat}{iv iv':Iv}{B:Nat}{w w' w2:World}{ρ:Nat->Sx.dc}{rv:List Value}{M:List (List Rat)}
theorem jx.nil:jx w S B iv [] n []:=⟨rfl,fun i v qs h=>(by cases h),fun i j a b g h=>(by cases h),fun g ⟨v,hv,_⟩=>by cases hv⟩
theorem jx.cD(h:jx w S B iv rv n M)(hk:∀g,Cv S B iv g->w2.heap[g]? =w.heap[g]?):jx w2 S B iv rv n M:=
 ⟨h.len,fun i v qs h1 h2=>(h.row i v qs h1 h2).cD fun g hg=>hg.elim (fun hg=>hk g hg.1) fun hg=>hk g (Aq (h.new g ⟨v,aF h1,hg⟩)),h.CP,h.new⟩
theorem jx.rel(h:jx w S B iv rv n M)(r:Rel H nx iv B w ρ w')(hS:∀g,S g->g<B):jx w' S B iv rv n M:=h.cD fun _ hg=>Rel.same r hS hg
theorem jx.mono(h:jx w S B iv rv n M)(hm:∀p,p∈iv->p∈iv'):jx w S B iv' rv n M:=
 ⟨h.len,fun i v qs h1 h2=>(h.row i v qs h1 h2).cG fun _ hg=>⟨hg.1.mono hm,hg.2⟩,h.CP,fun g hg=>(h.new g hg).mono hm⟩
theorem jx.cB(h:jx w S B iv rv n M)(r:Rel H nx iv B w ρ w')(hS:∀g,S g->g<B)(he:Ext w' w2)(hm:∀p,p∈iv->p∈iv'):jx w2 S B iv' rv n M:=
 ((h.rel r hS).cD fun g hg=>he.block g (Rel.old r hS g hg)).mono hm
theorem jx.low(h:jx w S B iv rv n M){g:Nat}(hg:Ob rv g):B<=g:=(h.new g hg).elim (fun h=>h.elim) fun h=>h.1
theorem jx.lt(h:jx w S B iv rv n M)(r:Rel H nx iv B w ρ w'){g:Nat}(hg:Ob rv g):g<w'.heap.size:=Rel.old r (fa B) g (h.new g hg)
theorem Lr.grown(r:Rel H nx iv B w ρ w')(hS:∀g,S g->g<B){row:Option Nat}(hg:w'.grownBy w2 row)(hrow:∀g,row=some g->Ob rv g):∀g,Lr S B iv rv g->w2.heap[g]? =w.heap[g]? :=fun g h=>by
 rw[hg.block g (Rel.old r hS g h.1) fun e=>h.2 (hrow g e.symm),Rel.same r hS h.1]
theorem jx.cC(h:jx w S B iv rv n M)(r:Rel H nx iv B w ρ w'){row:Option Nat}(hg:w'.grownBy w2 row)(hrow:∀g,row=some g->Ob rv g):cN B w' w2:=
 cN.grown hg (fun g e=>h.low (hrow g e)) r.bu
theorem jx.setRow(h:jx w' S B iv rv n M)(hlt:∀g,Cv S B iv g->g<w'.heap.size){i:Nat}{vi:Value}{qs:List Rat}(hvi:rv[i]? =some vi)(hgr:w'.grownBy w2 vi.ownBlock)(hB:B<=w'.heap.size)
  (hq:gV w2 (Nw (Lr S B iv rv) w' w2) vi n qs):jx w2 S B ((w'.heap.size,w2.heap.size)::iv) rv n (M.set i qs):=by
 have hnw:∀g,Nw (Lr S B iv rv) w' w2 g->Lr S B ((w'.heap.size,w2.heap.size)::iv) rv g:=fun g hg=>by
  rcases hg with hg|hg
  ·exact⟨hg.1.mono fun p hp=>aD _ hp,hg.2⟩
  ·exact⟨.inr ⟨by omega,_,_,aJ,hg.1,hg.2⟩,fun hm=>by have:=hlt g (Aq (h.new g hm));omega⟩
 refine⟨by rw[bV];exact h.len,fun k v ps h1 h2=>?_,h.CP,fun g hg=>(h.new g hg).mono fun p hp=>aD _ hp⟩;by_cases hk:i=k
 ·subst hk;rw[hvi]at h1;injection h1 with h1;subst h1;rw[aT (by rw[<-h.len];exact(aE.1 hvi).1)]at h2;injection h2 with h2;subst h2;exact hq.cG hnw
 ·rw[a9 hk]at h2;refine((h.row k v ps h1 h2).cD fun g hg=>?_).cG fun g hg=>⟨hg.1.mono fun p hp=>aD _ hp,hg.2⟩
  rcases hg with hg|hg
  ·exact hgr.block g (hlt g hg.1) fun e=>hg.2 ⟨vi,aF hvi,e.symm⟩
  ·exact hgr.block g (hlt g (Aq (h.new g ⟨v,aF h1,hg⟩))) fun e=>hk (h.CP i k vi v g hvi h1 e.symm hg)
theorem jx.A1(hM:jx w S B iv rv n M)(r:Rel H nx iv B w ρ w')(hS:∀g,S g->g<B){i j h:Nat}{vi vj vby:Value}{ri rj:List Rat}{p:Rat}(hij:i≠j)(hvi:rv[i]? =some vi)(hvj:rv[j]? =some vj)(hri:M[i]? =some ri)(hrj:M[j]? =some rj)
  (hby:eG w (Lr S B iv rv) vby p) (hq:∀q∈ri,rl q+1<=h) (hqj:∀q∈rj,rl q+1<=h) (hb:rl p+1<=h) (hh:3*h<=90000):
  dh PG N.mG #[vi,vj,vby] w' (fun e w2=>e= .returned (.tuple #[])∧w'.grownBy w2 vi.ownBlock∧(∀g,vi.ownBlock=some g->Ob rv g)∧jx w2 S B ((w'.heap.size,w2.heap.size)::iv) rv n (M.set i (kO ri rj p))):=by
 have hMr:=hM.rel r hS;have h1:=hMr.row i vi ri hvi hri;have h2:=hMr.row j vj rj hvj hrj;have hmi:∀g,vi.ownBlock=some g->Ob rv g:=fun g hg=>⟨_,aF hvi,hg⟩
 have hmj:∀g,vj.ownBlock=some g->Ob rv g:=fun g hg=>⟨_,aF hvj,hg⟩
 refine(HV (C:=fun g=>vj.ownBlock=some g) (S:=Lr S B iv rv) (fun x hx=>hM.lt r (hmj x hx)) (fun g hg=>Rel.old r hS g hg.1) h1 (eG.cD hby fun g hg=>Rel.same r hS hg.1) h2.read h2.len (fun g hg hx=>hx.2 (hmi g hg)) (fun g hg hx=>hij (hM.CP i j _ _ g hvi hvj hg hx)) hq hqj hb hh).mono fun e w8 he=>?_;obtain⟨rfl,hgr,hrow⟩:=he;exact⟨rfl,hgr,hmi,hMr.setRow (fun g hg=>Rel.old r hS g hg) hvi hgr r.bu hrow⟩
theorem jx.form(hM:jx w S B iv rv n M){i:Nat}{v:Value}(hv:rv[i]? =some v):∃a c,v= .slice a n c:=by
 obtain⟨qs,hq⟩:∃qs,M[i]? =some qs:=⟨_,aB (by rw[<-hM.len];exact(aE.1 hv).1)⟩
 obtain⟨a,c,h,_⟩:=(hM.row i v qs hv hq).form;exact⟨a,c,h⟩
theorem jx.load(hM:jx w S B iv rv n M){i k:Nat}{a:Option Addr}{c:Nat}{qs:List Rat}{q:Rat}(hv:rv[i]? =some (.slice a n c))(hq:M[i]? =some qs)(hk:qs[k]? =some q):
  ∃ad cs,a=some ad∧gU w (Lr S B iv rv) cs q∧∀j u,cs[j]? =some u->Cv (fun _=>False) B iv ad.block∧w.cell? ((ad.add (k*4)).add j)=some u:=by
 obtain⟨ad,cs,h1,h2,h3⟩:=fT.load (hM.row i _ qs hv hq).read hk;refine⟨ad,cs,h1,h2,fun j u hu=>⟨?_,(h3 j u hu).2⟩⟩;have:=(h3 j u hu).1;exact hM.new _ ⟨_,aF hv,this⟩
theorem jx.store(hM:jx w S B iv rv n M)(r:Rel H nx iv B w ρ w')(hS:∀g,S g->g<B){i k:Nat}{a a1 a2:Option Addr}{c n1 c1 n2 c2:Nat}{b b2:Bool}{q:Rat}{ri:List Rat}(hvi:rv[i]? =some (.slice a n c))(hri:M[i]? =some ri)(hk:k<n)
  (hf:cR w (Lr S B iv rv) (.agg #[.bool b,.slice a1 n1 c1,.bool b2,.slice a2 n2 c2]) q):
  ∃g,a=some ⟨g,0,none⟩∧((⟨g,0,none⟩:Addr).add ((k:Int).toNat*4)).spot=none∧
   (∀j,j<4->(w'.cell? (((⟨g,0,none⟩:Addr).add ((k:Int).toNat*4)).add j)).isSome=true∧w'.frozen? (((⟨g,0,none⟩:Addr).add ((k:Int).toNat*4)).add j)=false)∧
   (∀id b,dA H id=some b->(ρ id).nil=false->(ρ id).g≠((⟨g,0,none⟩:Addr).add ((k:Int).toNat*4)).block)∧
   ∀w2,w2=setCells w' ((⟨g,0,none⟩:Addr).add ((k:Int).toNat*4)) [.bool b,.slice a1 n1 c1,.bool b2,.slice a2 n2 c2]->jx w2 S B iv rv n (M.set i (ri.set k q))∧cN B w' w2∧Rel H nx iv B w2 ρ w2∧∀g,Lr S B iv rv g->w2.heap[g]? =w.heap[g]? :=by
 have hMr:=hM.rel r hS;have hmi:∀g,(Value.slice a n c).ownBlock=some g->Ob rv g:=fun g hg=>⟨_,aF hvi,hg⟩
 obtain⟨g,rfl,h1,h2,h3,h4⟩:=(hMr.row i _ ri hvi hri).store hk (hf.cD fun g hg=>Rel.same r hS hg.1) (fun g hg hx=>hx.2 (hmi g hg)) (fun x hx=>Rel.old r hS x hx.1);refine⟨g,rfl,h1,h3,fun id b hb hn=>by rw[h2];exact Rel.not r (fa B) (hM.new g (hmi g rfl)) id b hb hn,fun w2 hw2=>?_⟩;obtain⟨k1,k2,k3⟩:=h4 w2 hw2;have hs:=hMr.setRow (fun g hg=>Rel.old r hS g hg) hvi k2 r.bu (k1.cG fun g hg=>.inl hg);refine⟨?_,hM.cC r k2 hmi,r.vq (fun id b hb hn=>Rel.not r (fa B) (hM.new g (hmi g rfl)) id b hb hn) k2,Lr.grown r hS k2 hmi⟩;refine⟨hs.len,fun j v qs h5 h6=>(hs.row j v qs h5 h6).cG fun x hx=>⟨?_,hx.2⟩,hs.CP,fun x hx=>hM.new x hx⟩;rcases hx.1 with hx|⟨m1,lo,hi,m2,m3,m4⟩
 ·exact .inl hx
 ·rcases List.mem_cons.1 m2 with e|m2
  ·injection e with e1 e2;subst e1 e2;omega
  ·exact .inr ⟨m1,lo,hi,m2,m3,m4⟩
theorem jx.push(hM:jx w S B iv rv n M){gx c:Nat}{qs:List Rat}(hgx:∀g,Cv S B iv g->g≠gx)(hBx:B<=gx)(hrow:gV w S (.slice (some ⟨gx,0,none⟩) n c) n qs)(hS:∀g,S g->g<B):
  jx w S B ((gx,gx+1)::iv) (rv++[.slice (some ⟨gx,0,none⟩) n c]) n (M++[qs]):=by
 have hob:∀g,Ob rv g->g≠gx:=fun g hg=>hgx g (Aq (hM.new g hg))
 have hlr:∀g,Lr S B iv rv g->Lr S B ((gx,gx+1)::iv) (rv++[.slice (some ⟨gx,0,none⟩) n c]) g:=fun g hg=>⟨hg.1.mono fun p hp=>aD _ hp,fun h=>by
  rcases Ob.append.1 h with h|h
  ·exact hg.2 h
  ·injection h with h;exact hgx g hg.1 h.symm⟩
 refine⟨by simp[hM.len],fun i v ps h1 h2=>?_,fun i j a b g h1 h2 h3 h4=>?_,fun g hg=>?_⟩
 ·rcases aV i rv.length with hi|hi
  ·rw[aL hi]at h1;rw[aL (by rw[<-hM.len];exact hi)]at h2;exact(hM.row i v ps h1 h2).cG hlr
  ·have hi0:i=rv.length:=by have:=(aE.1 h1).1;simp at this;omega
   rw[hi0,aQ (aG _),bI]at h1;rw[hi0,hM.len,aQ (aG _),bI]at h2;simp at h1 h2;subst h1 h2;refine hrow.cG fun g hg=>⟨.inl hg,fun h=>?_⟩
   have:=hS g hg;rcases Ob.append.1 h with h|h
   ·have:=hM.low h;omega
   ·injection h with h;have h:gx=g:=h;omega
 ·have key:∀(k:Nat) v,(rv++[Value.slice (some ⟨gx,0,none⟩) n c])[k]? =some v->(k<rv.length∧rv[k]? =some v)∨(k=rv.length∧v= .slice (some ⟨gx,0,none⟩) n c):=fun k v hk=>by
   rcases aV k rv.length with hi|hi
   ·rw[aL hi]at hk;exact .inl ⟨hi,hk⟩
   ·have hi0:k=rv.length:=by have:=(aE.1 hk).1;simp at this;omega
    rw[hi0,aQ (aG _),bI]at hk;simp at hk;exact .inr ⟨hi0,hk.symm⟩
  rcases key i a h1 with⟨_,k1⟩|⟨e1,rfl⟩<;>rcases key j b h2 with⟨_,k2⟩|⟨e2,rfl⟩
  ·exact hM.CP i j a b g k1 k2 h3 h4
  ·injection h4 with h4;exact absurd h4.symm (hob g ⟨a,aF k1,h3⟩)
  ·injection h3 with h3;exact absurd h3.symm (hob g ⟨b,aF k2,h4⟩)
  ·rw[e1,e2]
 ·rcases Ob.append.1 hg with h|h
  ·exact(hM.new g h).mono fun p hp=>aD _ hp
  ·injection h with h;have h:gx=g:=h;subst h;exact .inr ⟨hBx,_,_,aJ,aG _,bY _⟩
theorem jx.drop{v:Value}{qs:List Rat}(hM:jx w S B iv (rv++[v]) n (M++[qs])):jx w S B iv rv n M:=by
 have hl:rv.length=M.length:=by have:=hM.len;simpa using this
 have hob:∀g,Ob rv g->Ob (rv++[v]) g:=fun g hg=>Ob.append.2 (.inl hg);refine⟨hl,fun i u ps h1 h2=>?_,fun i j a b g h1 h2=>hM.CP i j a b g ?_ ?_,fun g hg=>hM.new g (hob g hg)⟩
 ·have hi:=(aE.1 h1).1;exact(hM.row i u ps (by rw[aL hi];exact h1) (by rw[aL (by rw[<-hl];exact hi)];exact h2)).cG fun g hg=>⟨hg.1,fun h=>hg.2 (hob g h)⟩
 ·rw[aL (aE.1 h1).1];exact h1
 ·rw[aL (aE.1 h2).1];exact h2
theorem HW{id m:Nat}{css:List (List Value)}{qs:List Rat}(r:Rel H nx iv B w ρ w')(h:dA H id=some (.vec T.Rat 4 css.flatten))(hl:css.length=m)(h0:0<m)(hm:m<=maxLen)(hF:Fc w' S css qs):
  (ρ id).nil=false∧B<=(ρ id).g∧(∀g,Out B iv g->g≠(ρ id).g)∧gV w' S (.slice (some ⟨(ρ id).g,0,none⟩) m (ρ id).cap) m qs:=by
 have hfl:=eX hF.uu;rcases r.vec id _ _ _ h with⟨_,h2⟩|⟨h1,spare,h2,h3,h4⟩
 ·rw[h2]at hfl;rw[hl]at hfl;simp at hfl;omega
 ·refine⟨h1,(r.low id _ h h1).1,fun g hg e=>?_,css,⟨by rw[hfl,hl],.inr ⟨(ρ id).g,(ρ id).cap,_,rfl,aN _,h2,?_,h4,by simpa using h3,by rw[show m*4=css.flatten.length by rw[hfl,hl]];simp⟩⟩,hl,hF⟩
  ·exact Rel.not r (fun _ h=>h) hg id _ h h1 e.symm
  ·rw[List.length_append,hfl,hl]at h3;omega
end
end Go.Ex
namespace Go.Sx
open Go Go.Ex Go.Proofs
theorem Sub.A5{B nx:Nat}{l:Env}{H:Hp}{iv:Iv}{w w':World}{ρ:Nat->Sx.dc}{t:yz}(id p e sz:Nat){bt:Nat}{cs:List At}(hid:dA H id=some (.box bt cs))(hp:cs[p]? =some (.v (.slice none 0 0)))(hsc:cV nx l)(r:Rel H nx iv B w ρ w')
  (h:∀ρ1,Rel ((id,.box bt (cs.set p (.w nx 0)))::(nx,.vec e sz [])::H) (nx+1) iv B w ρ1 w'->Sx.Sub B l (nx+1) ρ1 w' t):Sx.Sub B l nx ρ w' t:=by
 have r1:=r.push (.vec e sz []) ⟨0,0,true⟩ (w2:=w') rfl rfl rfl (aG _) (fun _ _=>rfl) (fun h=>by cases h) (.inl ⟨rfl,rfl⟩) trivial;have hne:id≠nx:=Nat.ne_of_lt (r.keys id _ hid);have hid1:dA ((nx,.vec e sz [])::H) id=some (.box bt cs):=by rw[dB,aK (fun h=>hne h.symm)];exact hid
 have hnn:=r1.nn id _ hid1 (by intros;simp) (by simp);have hcell:=r1.box id bt cs hid1;have hden:(cs.set p (.w nx 0)).map (At.den (Sx.fo ρ nx ⟨0,0,true⟩))=cs.map (At.den (Sx.fo ρ nx ⟨0,0,true⟩)):=by
  refine bF fun j=>?_;rw[aO,aO];by_cases hj:p=j
  ·subst hj;rw[aT (aE.1 hp).1,hp];simp[At.den,eS]
  ·rw[a9 hj]
 have r2:=r1.store (b':=.box bt (cs.set p (.w nx 0))) (H':=(id,.box bt (cs.set p (.w nx 0)))::(nx,.vec e sz [])::H) (w2:=w') hid1 (by simp) hnn (fun j=>by
  rw[dB];by_cases hj:id=j
  ·subst hj;rw[if_pos rfl]
  ·rw[aK hj,aK (fun h=>hj h.symm)]) rfl rfl rfl rfl (fun _ _=>rfl) ⟨hnn,by rw[hden];exact hcell⟩ (fun x hx=>by
   rcases bD hx with hx|rfl
   ·exact r1.Gu id bt cs hid1 x hx
   ·exact bY nx)
 obtain⟨ρ',h1,h2⟩:=h _ r2;refine⟨ρ',h1,fun x v hv=>?_⟩;obtain⟨h3,v0,h4,h5⟩:=h2 x v hv;refine⟨h3,v0,h4,?_⟩;rw[<-h5];exact SV.jD (fun id hid=>fp id hid) (hsc.get _ _ h4)
end Go.Sx
namespace Go.Ex
open Go Go.Sx Go.Proofs
end Go.Ex
namespace Go.Ex
open Go Go.Sx Go.Proofs
inductive Tq where
 |nil
 |x (i:Nat) (t:Tq)
 |two (i:Nat) (t:Tq) (j:Nat) (u:Tq)
 |three (i:Nat) (t:Tq) (j:Nat) (u:Tq) (k:Nat) (v:Tq)
section
variable{P:Program}{τ:ky}{ops:Array Oper}{B n nx:Nat}{l:Env}{H:Hp}{iv:Iv}{w w':World}{ρ:Nat->Sx.dc}{a:Act}
end
section
variable{P:Program}{ops:Array Oper}{Q:Exit->Act->World->Prop}{md:Region.Mode}
theorem Ez{j:Nat}{oi oj:Oper}{v:Value}{X:Sem Next}(hj:ops[j]? =some oj)(hap:oi.apart ops oj=true)
  (hsi:∀cs b,oi.op≠ .select cs b) (hsj:∀cs b,oj.op≠ .select cs b)
  (hQ:∀c a w,Q (.panic c) (a.put oi.dst v) w->Q (.panic c) a w) {K:Act->World->Prop} {a:Act} {w:World}
  (hy:Region.wanted oi (yielded ops a.tmps)=true∧execOp a.eval oi=X) (h:wpOp P ops Q j K (a.put oi.dst v) w):
  wpOp P ops Q j (fun a' w'=>(Region.wanted oi (yielded ops a'.tmps)=true∧execOp a'.eval oi=X)∧K (a'.put oi.dst v) w') a w:=by
 obtain⟨h1,h2,h3⟩:=Oper.apart_spec hap;have cD:∀(a:Act),(Region.wanted oi (yielded ops a.tmps)=true∧execOp a.eval oi=X)->∀u,(Region.wanted oi (yielded ops (a.put oj.dst u).tmps)=true∧execOp (a.put oj.dst u).eval oi=X):=fun a hy u=>
  ⟨(wanted_put oi a oj.dst u h3).trans hy.1,(execOp_put oi hsi a oj.dst u h3).trans hy.2⟩
 have keepD:∀d:Deferred,(Region.wanted oi (yielded ops ({a with defers:=d::a.defers}:Act).tmps)=true∧execOp ({a with defers:=d::a.defers}:Act).eval oi=X):=fun d=>hy;unfold wpOp at*
 simp only[hj]at*
 rw[wanted_put oj a oi.dst v h1]at h;split
 ·rename_i hw;simp only[hw,if_true]at h;rcases h with h|⟨hasks,hlets⟩
  case inr=>exact .inr ⟨by unfold Oper.asks at *;rw[execOp_put oj hsj a oi.dst v h1]at hasks;exact hasks,hlets⟩
  refine .inl ?_;unfold Oper.wp at*
  rw[execOp_put oj hsj a oi.dst v h1]at h;generalize (execOp a.eval oj).run P w=r at*
  cases r with
  |ok n w'=>
   cases n<;>simp only[Oper.upon]at h ⊢
   case value u=>exact⟨cD a hy u,by rw[<-Act.put_comm a v u h2];exact h⟩
   case skip=>exact⟨cD a hy _,by rw[<-Act.put_comm a v undef h2];exact h⟩
   case defer d=>
    refine⟨cD ({a with defers:=d::a.defers}:Act) (keepD d) undef,?_⟩;rw[<-Act.put_comm _ v undef h2,<-Act.put_defers];exact h
   case enter f args=>
    refine Calls.mono h fun e w'' he=>?_
    cases e with
    |returned u=>exact⟨cD a hy u,by rw[<-Act.put_comm a v u h2];exact he⟩
    |panicked c=>exact hQ _ _ _ he
    |outgrown=>exact he
   case row row args=>exact Rows.mono h fun u w'' he=>⟨cD a hy u,by rw[<-Act.put_comm a v u h2];exact he⟩
  |halt x w'=>
   cases x<;>simp only[Oper.upon]at h ⊢
   case panic u=>exact hQ _ _ _ h
 ·rename_i hw;simp only[hw]at h;exact⟨cD a hy _,by rw[<-Act.put_comm a v undef h2];exact h⟩
def oL(P:Program)(md:Region.Mode)(ops:Array Oper)(Q:Exit->Act->World->Prop)(I:Array Bool->World->Prop):Nat->Array Bool->Act->World->Prop
 |0,lx,a,w=>I lx w∧Region.ready md ops lx=[]∧Q .normal a w
 |fuel+1,lx,a,w=>I lx w∧(Region.ready md ops lx=[]->Q .normal a w)∧∀i∈Region.ready md ops lx,wpOp P ops Q i (fun a' w'=>oL P md ops Q I fuel (lx.setIfInBounds i true) a' w') a w
theorem yK{I:Array Bool->World->Prop}:∀(fuel:Nat) (lx:Array Bool) (a:Act) (w:World),oL P md ops Q I fuel lx a w->wpAny P md ops Q fuel lx a w
 |0,_,_,_,h=>h.2
 |fuel+1,_,_,_,h=>⟨h.2.1,fun i hi=>wpOp_mono (fun _ _ h'=>yK fuel _ _ _ h') (h.2.2 i hi)⟩
theorem jX{I J:Array Bool->World->Prop}(hIJ:∀lx w,I lx w->J lx w):∀(fuel:Nat) (lx:Array Bool) (a:Act) (w:World),oL P md ops Q I fuel lx a w->oL P md ops Q J fuel lx a w
 |0,_,_,_,h=>⟨hIJ _ _ h.1,h.2⟩
 |fuel+1,_,_,_,h=>⟨hIJ _ _ h.1,h.2.1,fun i hi=>wpOp_mono (fun _ _ h'=>jX hIJ fuel _ _ _ h') (h.2.2 i hi)⟩
theorem CN{I:Array Bool->World->Prop}{lx:Array Bool}{a:Act}{w:World}(hI:I lx w)(hr:Region.ready md ops lx=[])(h:Q .normal a w):∀fuel,oL P md ops Q I fuel lx a w
 |0=>⟨hI,hr,h⟩
 |_+1=>⟨hI,fun _=>h,by rw[hr];simp⟩
def kv(ops:Array Oper)(b:Nat)(lx:Array Bool):Prop:=∀(k:Nat) o,tb b k=true->ops[k]? =some o->sS o.op=false->lx.getD k false=false
theorem iU{b i:Nat}{oi:Oper}{lx:Array Bool}(hi:ops[i]? =some oi)(hR:sS oi.op=true):kv ops b (lx.setIfInBounds i true)↔kv ops b lx:=by
 have key:∀(k:Nat) o,ops[k]? =some o->sS o.op=false->(lx.setIfInBounds i true).getD k false=lx.getD k false:=fun k o ho hr=>by
  have:i≠k:=fun e=>by subst e;rw[hi]at ho;injection ho with ho;subst ho;rw[hR]at hr;cases hr
  exact getD_set_ne false this
 exact⟨fun h k o h1 h2 h3=>by rw[<-key k o h2 h3];exact h k o h1 h2 h3,fun h k o h1 h2 h3=>by rw[key k o h2 h3];exact h k o h1 h2 h3⟩
theorem sP{i b:Nat}{oi:Oper}{v:Value}(hi:ops[i]? =some oi)(hR:sS oi.op=true)(hsel:∀(j:Nat) (o:Oper) cs b,ops[j]? =some o->o.op≠ .select cs b)
  (hQ:∀c a w,Q (.panic c) (a.put oi.dst v) w->Q (.panic c) a w) (hblk:∀j,tb b j=true->∃oj e,ops[j]? =some oj∧e∈oj.after∧Region.binds md e=true∧(e.on=i∨tb b e.on=true))
  {X:Sem Next} {Y:World->Prop} (hY:∀w,Y w->X.run P w= .ok (.value v) w) {I:Array Bool->World->Prop} (hI:∀lx w,I (lx.setIfInBounds i true) w->I lx w):
  ∀(fuel:Nat) (lx:Array Bool) (a:Act) (w:World),(∀j,tb b j=true->lx.getD j false=false)->
   (∀j oj,ops[j]? =some oj->j≠i->lx.getD j true=false->tb b j=false->oi.apart ops oj=true)->
   i∈Region.ready md ops lx->(Region.wanted oi (yielded ops a.tmps)=true∧execOp a.eval oi=X)->
   oL P md ops Q (fun lx w=>I lx w∧(kv ops b lx->Y w)) fuel (lx.setIfInBounds i true) (a.put oi.dst v) w->oL P md ops Q I (fuel+1) lx a w:=by
 intro fuel;have run:∀(lx:Array Bool) (a:Act) (w:World),(∀j,tb b j=true->lx.getD j false=false)->(Region.wanted oi (yielded ops a.tmps)=true∧execOp a.eval oi=X)->(I (lx.setIfInBounds i true) w∧(kv ops b (lx.setIfInBounds i true)->Y w))->
   ∀K:Act->World->Prop,K (a.put oi.dst v) w->wpOp P ops Q i K a w:=fun lx a w hbl hy hH K hK=>by
  have hYw:=hH.2 ((iU hi hR).2 fun k o h1 _ _=>hbl k h1);unfold wpOp;simp only[hi,hy.1,if_true]
  refine .inl ?_;unfold Oper.wp;rw[hy.2,hY w hYw];exact hK
 induction fuel with
 |zero=>
  intro lx a w hbl _ hr hy H;refine⟨hI _ _ H.1.1,fun h=>(by rw[h]at hr;cases hr),fun j hj=>?_⟩;by_cases hji:j=i
  ·subst hji;exact run lx a w hbl hy H.1 _ (jX (fun _ _ h=>h.1) 0 _ _ _ H)
  ·have:=ready_mono hj hji;rw[H.2.1]at this
   cases this
 |succ fuel ih=>
  intro lx a w hbl hfree hr hy H;refine⟨hI _ _ H.1.1,fun h=>(by rw[h]at hr;cases hr),fun j hj=>?_⟩;by_cases hji:j=i
  ·subst hji;exact run lx a w hbl hy H.1 _ (jX (fun _ _ h=>h.1) (fuel+1) _ _ _ H)
  ·have h1:=H.2.2 j (ready_mono hj hji);obtain⟨hjun,oj,hoj,hall⟩:=mem_ready.1 hj;have hnot:tb b j=false:=by
    cases hb:tb b j with
    |false=>rfl
    |true=>
     exfalso;obtain⟨oj',e,ho',he,hbi,hor⟩:=hblk j hb;rw[hoj]at ho';injection ho' with ho';subst ho';have h1:=hall e he hbi;rcases hor with heq|hb2
     ·have h0:=(mem_ready.1 hr).1;rw[heq]at h1;rcases aV i lx.size with h'|h'
      ·simp[h']at h0 h1;rw[h0]at h1;cases h1
      ·simp[Array.getElem?_eq_none h']at h1
     ·rw[hbl _ hb2]at h1;cases h1
   have h2:=Ez hoj (hfree j oj hoj hji hjun hnot) (fun cs b=>hsel i oi cs b hi) (fun cs b=>hsel j oj cs b hoj) hQ hy h1;have hbl':∀k,tb b k=true->(lx.setIfInBounds j true).getD k false=false:=fun k hk=>by
    rw[getD_set_ne false (fun e=>(by subst e;rw[hnot]at hk;cases hk))];exact hbl k hk
   have hfree':∀k ok,ops[k]? =some ok->k≠i->(lx.setIfInBounds j true).getD k true=false->tb b k=false->oi.apart ops ok=true:=fun k ok hk hki hun hno=>by
    refine hfree k ok hk hki ?_ hno;by_cases hjk:j=k
    ·subst hjk;exact hjun
    ·rw[getD_set_ne true hjk]at hun;exact hun
   refine wpOp_mono (fun a' w' h3=>?_) h2;refine ih (lx.setIfInBounds j true) a' w' hbl' hfree' (ready_mono hr (Ne.symm hji)) h3.1 ?_;rw[Array.setIfInBounds_comm _ _ hji];exact h3.2
end
structure Gh where
 u:Nat
 d:Nat
 T:Nat
 b:Nat
def Ao(τ:ky)(B:Nat):List Gh->Env->Hp->Nat->Iv->World->Prop->Prop
 |[],_,_,_,_,_,K=>K
 |g::r,l,H,nx,iv,w,K=>match ef l g.u with
  |some su=>yw τ B g.T su H nx iv w (fun v=>ef l g.d=some v∧Ao τ B r l H nx iv w K)
  |none=>False
inductive Tg where
 |nil
 |x (i:Nat) (t:Tg)
 |two (i:Nat) (t:Tg) (j:Nat) (u:Tg)
 |three (i:Nat) (t:Tg) (j:Nat) (u:Tg) (k:Nat) (v:Tg)
 |ld (i b:Nat) (t:Tg)
 |mw (id:Nat) (t:Tg)
def zo(j:Nat):List Gh->List Gh
 |[]=>[]
 |g::r=>match tb g.b j with
  |true=>zo j r
  |false=>g::zo j r
def stepG(τ:ky)(B:Nat)(rd:Bool)(G:List Gh)(j:Nat)(l:Env)(H:Hp)(nx:Nat)(iv:Iv)(w:World)(K:List Gh->Prop):Prop:=match rd with
 |true=>K G
 |false=>Ao τ B (zo j G) l H nx iv w (K (zo j G))
def CO(ops:Array Oper)(m i:Nat)(oi:Oper)(b:Nat):List Oper->Nat->Bool
 |[],_=>true
 |oj::r,j=>(Nat.beq j i||tb m j||tb b j||oi.apart ops oj)&&CO ops m i oi b r (j+1)
def Dv(m i u d:Nat):List Oper->Nat->Bool
 |[],_=>true
 |oj::r,j=>(tb m j||match oj.dst with
   |none=>true
   |some e=> !Nat.beq e u&&(Nat.beq j i|| !Nat.beq e d))&&Dv m i u d r (j+1)
def Gt(o:Oper):Option (Nat×Nat×Nat):=match o with
 |⟨some d,.load T (.tmp u),_,_,_,none⟩=>some (d,T,u)
 |_=>none
def kF(ops:Array Oper):Tg->Array Bool->Bool
 | .nil,lx=>(Region.ready .any ops lx).isEmpty
 | .x i t,lx=>match ops[i]? with
  |none=>false
  |some o=>(Region.ready .any ops lx).contains i&&((Region.ready .any ops lx).all (fun j=>Nat.beq j i)||Dx o.op&&o.guard.isNone&&CO ops (gY lx.toList 0) i o (yO (gY lx.toList 0) i ops.toList 0 0) ops.toList 0)&&kF ops t (lx.setIfInBounds i true)
 | .two i t j u,lx=>match Region.ready .any ops lx with
  |[a,b]=>Nat.beq a i&&(Nat.beq b j&&(kF ops t (lx.setIfInBounds i true)&&kF ops u (lx.setIfInBounds j true)))
  |_=>false
 | .three i t j u k v,lx=>match Region.ready .any ops lx with
  |[a,b,c]=>Nat.beq a i&&(Nat.beq b j&&(Nat.beq c k&&(kF ops t (lx.setIfInBounds i true)&&(kF ops u (lx.setIfInBounds j true)&&kF ops v (lx.setIfInBounds k true)))))
  |_=>false
 | .ld i b t,lx=>match ops[i]? with
  |none=>false
  |some o=>match Gt o with
   |none=>false
   |some (d,_,u)=>(Region.ready .any ops lx).contains i&&Nat.beq b (yO (gY lx.toList 0) i ops.toList 0 0)&&CO ops (gY lx.toList 0) i o b ops.toList 0&&Dv (gY lx.toList 0) i u d ops.toList 0&&kF ops t (lx.setIfInBounds i true)
 | .mw _ t,lx=>kF ops t lx
def yo(P:Program)(τ:ky)(B:Nat)(all:List Oper):Tg->List Gh->Env->Hp->Nat->Iv->World->KT->Prop
 | .nil,_,l,H,nx,iv,w,K=>K l H nx iv w
 | .x i t,G,l,H,nx,iv,w,K=>pQ all i (fun o=>gC (!fL o) P τ B all o l H nx iv w (fun l' H' nx' iv' w'=>stepG τ B (sS o.op) G i l' H' nx' iv' w' (fun G'=>yo P τ B all t G' l' H' nx' iv' w' K)))
 | .two i t j u,G,l,H,nx,iv,w,K=>pQ all i (fun o=>gC (!fL o) P τ B all o l H nx iv w (fun l' H' nx' iv' w'=>stepG τ B (sS o.op) G i l' H' nx' iv' w' (fun G'=>yo P τ B all t G' l' H' nx' iv' w' K)))∧
   pQ all j (fun o=>gC (!fL o) P τ B all o l H nx iv w (fun l' H' nx' iv' w'=>stepG τ B (sS o.op) G j l' H' nx' iv' w' (fun G'=>yo P τ B all u G' l' H' nx' iv' w' K)))
 | .three i t j u k v,G,l,H,nx,iv,w,K=>pQ all i (fun o=>gC (!fL o) P τ B all o l H nx iv w (fun l' H' nx' iv' w'=>stepG τ B (sS o.op) G i l' H' nx' iv' w' (fun G'=>yo P τ B all t G' l' H' nx' iv' w' K)))∧
   (pQ all j (fun o=>gC (!fL o) P τ B all o l H nx iv w (fun l' H' nx' iv' w'=>stepG τ B (sS o.op) G j l' H' nx' iv' w' (fun G'=>yo P τ B all u G' l' H' nx' iv' w' K)))∧
   pQ all k (fun o=>gC (!fL o) P τ B all o l H nx iv w (fun l' H' nx' iv' w'=>stepG τ B (sS o.op) G k l' H' nx' iv' w' (fun G'=>yo P τ B all v G' l' H' nx' iv' w' K))))
 | .ld i b t,G,l,H,nx,iv,w,K=>pQ all i (fun o=>match Gt o with
  |some (d,T,u)=>match ef l u with
   |some su=>yw τ B T su H nx iv w (fun v=>yo P τ B all t (⟨u,d,T,b⟩::G) ((d,v)::l) H nx iv w K)
   |none=>False
  |none=>False)
 | .mw id t,G,l,H,nx,iv,w,K=>∃H' b,dA H id=some b∧b≠ .dead∧uP H H'∧BI id H'=true∧∀ρ w',Rel H nx iv B w ρ w'->(ρ id).nil=false∧∃l',(∀u v,ef l' u=some v->v.sc nx∧∃v',ef l u=some v'∧v'.den ρ=v.den ρ)∧yo P τ B all t G l' H' nx (((ρ id).g,(ρ id).g+1)::iv) w' K
section
variable{P:Program}{τ:ky}{ops:Array Oper}{B n nx:Nat}{l:Env}{H:Hp}{iv:Iv}{w w':World}{ρ:Nat->Sx.dc}{a:Act}
theorem JZ(hτ:eh P τ){i:Nat}{o:Oper}(ho:ops[i]? =some o)(hd:∀d,o.dst=some d->d<n){K:KT}{Q:Exit->Act->World->Prop}{next:Act->World->Prop}
  (h1:gC (!fL o) P τ B ops.toList o l H nx iv w K) (sat:Sat n l H nx iv B w ρ a w')
  (hn:∀l' H' nx' iv' w2 ρ' x w3,K l' H' nx' iv' w2->Sat n l' H' nx' iv' B w2 ρ' (a.put o.dst x) w3->(sS o.op=true->w3=w')->next (a.put o.dst x) w3):
  wpOp P ops Q i next a w':=by
 unfold gC at h1;refine nB ho ?_;rcases j9 sat h1 with⟨hw,l1,h2,sat1⟩|⟨hw,l1,h2,sat1⟩
 ·refine .inl ⟨hw,?_⟩
  cases hR:sS o.op with
  |true=>
   obtain⟨v,hK,hvs,hrun⟩:=(kK hτ h2 sat1 hR).resolve_right (fun hh=>by have:=hh.1;rw[pT hR]at this;cases this);obtain⟨l2,h3,sat2⟩:=gO sat1 hK hd hvs;exact kg (hrun w' (.inr sat1.rel)) (hn _ _ _ _ _ _ _ _ h3 sat2 fun _=>rfl)
  |false=>
   have nr:∀w3:World,sS o.op=true->w3=w':=fun w3 h=>by rw[hR]at h;cases h
   cases hA:Gv o.op with
   |true=>
    obtain⟨b,v,mk,obj,hK,hbd,hb,hv,hmk,hfit,hal⟩:=l5 hτ h2 sat1 hA;have hrel:Rel ((nx,b)::H) (nx+1) iv B w (Sx.fo ρ nx ⟨w'.heap.size,0,false⟩) (w'.alloc obj):=
     sat1.rel.push b _ rfl rfl rfl (by simp) (fun k hk=>heap_alloc_old _ _ hk) (fun _=>⟨aG _,by simp⟩) (hfit _ _ (heap_alloc_new _ _)) hb
    obtain⟨l2,h3,sat2⟩:=gO (sat1.next hrel (Nat.le_succ _) (fun id hid=>fp id hid)) hK hd hv;rw[hmk]at sat2;exact kg (v:=mk w'.heap.size) (w2:=w'.alloc obj) (hal w') (hn _ _ _ _ _ _ _ _ h3 sat2 (by rw[hR];exact fun h=>by cases h))
   |false=>
    cases hH:oa o with
    |false=>
     rw[oq hH]at h2;refine vY h2 sat1 hR hA hH fun v w2 hK he hs=>?_;obtain⟨l2,h3,sat2⟩:=gO (v:=.o (.v v)) hs hK hd trivial;exact hn _ _ _ _ _ _ _ _ h3 sat2 (by rw[hR];exact fun h=>by cases h)
    |true=>
     refine l6 hτ h2 sat1 fun v H' nx' iv' w2 ρ' w3 hK sat2 hv=>?_;obtain⟨l2,h3,sat3⟩:=gO sat2 hK hd hv;exact hn _ _ _ _ _ _ _ _ h3 sat3 (by rw[hR];exact fun h=>by cases h)
 ·obtain⟨l2,h4,sat3⟩:=gO sat1 h2 hd trivial;exact .inr ⟨hw,hn _ _ _ _ _ _ _ _ h4 sat3 fun _=>rfl⟩
theorem uN(hτ:eh P τ)(sat:Sat n l H nx iv B w ρ a w'){K:Prop}:∀(G:List Gh),Ao τ B G l H nx iv w K->
  K∧∀g∈G,∃su sv,ef l g.u=some su∧ef l g.d=some sv∧(Instr.loadAt g.T (su.den ρ)).run P w'= .ok (sv.den ρ) w'
 |[],h=>⟨h,fun g hg=>by cases hg⟩
 |g::r,h=>by
  unfold Ao at h;split at h
  ·rename_i su hsu;obtain⟨v,⟨h1,h2⟩,hv,hrun⟩:=lg hτ sat.rel (sat.sc _ _ hsu) h;obtain⟨h3,h4⟩:=uN hτ sat r h2;refine⟨h3,fun g' hg=>?_⟩;rcases List.mem_cons.1 hg with rfl|hg
   ·exact⟨su,v,hsu,h1,hrun w' sat.rel⟩
   ·exact h4 g' hg
  ·exact h.elim
theorem o9{j:Nat}{g:Gh}:∀{G:List Gh},g∈G->tb g.b j=false->g∈zo j G
 |g'::r,h,hb=>by
  unfold zo;rcases List.mem_cons.1 h with rfl|h
  ·rw[hb];exact aJ
  ·split
   ·exact o9 h hb
   ·exact aD _ (o9 h hb)
abbrev Zh:=Gh×Value×Value
def Yz(P:Program)(z:Zh)(w:World):Prop:=(Instr.loadAt z.1.T z.2.1).run P w= .ok z.2.2 w
structure JC(ops:Array Oper)(la:Array Bool)(a:Act)(z:Zh):Prop where
 u:a.tmps[z.1.u]? =some z.2.1
 d:a.tmps[z.1.d]? =some z.2.2
 no:∀(j:Nat) oj,ops[j]? =some oj->la.getD j false=false->oj.dst≠some z.1.u∧oj.dst≠some z.1.d
theorem JC.step{la:Array Bool}{z:Zh}{j:Nat}{oj:Oper}{x:Value}(h:JC ops la a z)(hj:ops[j]? =some oj)(hl:la.getD j false=false):JC ops (la.setIfInBounds j true) (a.put oj.dst x) z:=by
 obtain⟨h1,h2⟩:=h.no j oj hj hl;refine⟨oN h1 h.u,oN h2 h.d,fun k ok hk hlk=>h.no k ok hk ?_⟩;by_cases hjk:j=k
 ·subst hjk;exact hl
 ·rwa [getD_set_ne false hjk]at hlk
def IZ(P:Program)(ops:Array Oper)(Z:List Zh)(lx:Array Bool)(w:World):Prop:=∀z∈Z,kv ops z.1.b lx->Yz P z w
theorem sQ{la:Array Bool}{i:Nat}(h:i∈Region.ready .any ops la):la.getD i false=false:=by
 have:=(eF.1 h).1;rw[aW,this];rfl
theorem mY{la:Array Bool}{i b:Nat}{o:Oper}(ho:ops[i]? =some o)(hl:la[i]? =some false)(h:kv ops b (la.setIfInBounds i true)):kv ops b la∧(sS o.op=false->tb b i=false):=by
 refine⟨fun k ok h1 h2 h3=>?_,fun hR=>?_⟩
 ·by_cases hik:i=k
  ·subst hik;rw[aW,hl];rfl
  ·rw[<-getD_set_ne false hik];exact h k ok h1 h2 h3
 ·cases hb:tb b i with
  |false=>rfl
  |true=>
   have:=h i o hb ho hR;have hi:=(aZ.1 hl).1;rw[aW,Array.getElem?_setIfInBounds_self_of_lt hi]at this
   cases this
theorem zp(hτ:eh P τ){la:Array Bool}{i:Nat}{o:Oper}{G:List Gh}{Z:List Zh}(ho:ops[i]? =some o)(hd:∀d,o.dst=some d->d<n)(hr:i∈Region.ready .any ops la){Q:Exit->Act->World->Prop}{next:Act->World->Prop}{K:Env->Hp->Nat->Iv->World->List Gh->Prop}
  (h1:gC (!fL o) P τ B ops.toList o l H nx iv w (fun l' H' nx' iv' w'=>stepG τ B (sS o.op) G i l' H' nx' iv' w' (K l' H' nx' iv' w'))) (sat:Sat n l H nx iv B w ρ a w')
  (hG:∀z∈Z,kv ops z.1.b la->z.1∈G) (hZ:∀z∈Z,JC ops la a z) (hI:IZ P ops Z la w')
  (hn:∀l' H' nx' iv' w2 ρ' x w3 G',K l' H' nx' iv' w2 G'->Sat n l' H' nx' iv' B w2 ρ' (a.put o.dst x) w3->(∀z∈Z,kv ops z.1.b (la.setIfInBounds i true)->z.1∈G')->(∀z∈Z,JC ops (la.setIfInBounds i true) (a.put o.dst x) z)->IZ P ops Z (la.setIfInBounds i true) w3->next (a.put o.dst x) w3):
  wpOp P ops Q i next a w':=by
 have hl:=(eF.1 hr).1;refine JZ hτ ho hd h1 sat fun l' H' nx' iv' w2 ρ' x w3 hK sat2 hw=>?_;have hZ2:∀z∈Z,JC ops (la.setIfInBounds i true) (a.put o.dst x) z:=fun z hz=>(hZ z hz).step ho (sQ hr)
 cases hR:sS o.op with
 |true=>
  rw[hR]at hK;have hw:=hw hR;subst hw;refine hn _ _ _ _ _ _ _ _ G hK sat2 (fun z hz h=>hG z hz (mY ho hl h).1) hZ2 fun z hz h=>hI z hz (mY ho hl h).1
 |false=>
  rw[hR]at hK;obtain⟨h2,h3⟩:=uN hτ sat2 _ hK;refine hn _ _ _ _ _ _ _ _ _ h2 sat2 (fun z hz h=>?_) hZ2 fun z hz h=>?_
  ·obtain⟨k1,k2⟩:=mY ho hl h;exact o9 (hG z hz k1) (k2 hR)
  ·obtain⟨k1,k2⟩:=mY ho hl h;obtain⟨su,sv,e1,e2,e3⟩:=h3 z.1 (o9 (hG z hz k1) (k2 hR));have h4:=sat2.env _ _ e1;have h5:=sat2.env _ _ e2;rw[(hZ2 z hz).u]at h4;rw[(hZ2 z hz).d]at h5;injection h4 with h4;injection h5 with h5;unfold Yz;rw[h4,h5];exact e3
end
section
variable{P:Program}{τ:ky}{ops:Array Oper}{B n nx:Nat}{l:Env}{H:Hp}{iv:Iv}{w w':World}{ρ:Nat->Sx.dc}{a:Act}
theorem qT{m i b:Nat}{oi:Oper}:∀(l:List Oper) (k:Nat),CO ops m i oi b l k=true->∀(j:Nat) oj,l[j]? =some oj->k+j≠i->tb m (k+j)=false->tb b (k+j)=false->oi.apart ops oj=true
 |[],_,_,j,oj,h,_,_,_=>by cases h
 |o::r,k,h,j,oj,hj,h1,h2,h3=>by
  simp only[CO,aY,Bool.or_eq_true]at h
  cases j with
  |zero=>
   injection hj with hj;subst hj;rcases h.1 with((h4|h4)|h4)|h4
   ·exact absurd (bK h4) h1
   ·rw[bo]at h2;rw[h2]at h4;cases h4
   ·rw[bo]at h3;rw[h3]at h4;cases h4
   ·exact h4
  |succ j=>
   have e:k+(j+1)=k+1+j:=by omega
   rw[e]at h1 h2 h3;exact qT r (k+1) h.2 j oj (by simpa using hj) h1 h2 h3
theorem yL{m i u d:Nat}:∀(l:List Oper) (k:Nat),Dv m i u d l k=true->∀(j:Nat) oj,l[j]? =some oj->tb m (k+j)=false->oj.dst≠some u∧(k+j≠i->oj.dst≠some d)
 |[],_,_,j,oj,h,_=>by cases h
 |o::r,k,h,j,oj,hj,h2=>by
  simp only[Dv,aY,Bool.or_eq_true]at h
  cases j with
  |zero=>
   injection hj with hj;subst hj;rcases h.1 with h4|h4
   ·rw[bo]at h2;rw[h2]at h4;cases h4
   ·cases ho:o.dst with
    |none=>exact⟨by simp,by simp⟩
    |some e=>
     rw[ho]at h4;simp only[aY,Bool.not_eq_true',Bool.or_eq_true]at h4;refine⟨fun hh=>?_,fun hne hh=>?_⟩
     ·injection hh with hh;subst hh;have:=h4.1;simp at this
     ·injection hh with hh;subst hh;rcases h4.2 with h5|h5
      ·exact hne (bK h5)
      ·simp at h5
  |succ j=>
   have e:k+(j+1)=k+1+j:=by omega
   rw[e]at h2 ⊢;exact yL r (k+1) h.2 j oj (by simpa using hj) h2
theorem FA{o:Oper}{d T u:Nat}(h:Gt o=some (d,T,u)):o.dst=some d∧o.op= .load T (.tmp u)∧o.guard=none:=by
 unfold Gt at h;split at h
 ·injection h with h;injection h with h1 h2;injection h2 with h2 h3;subst h1 h2 h3;exact⟨rfl,rfl,rfl⟩
 ·cases h
theorem iL(hτ:eh P τ)(hok:∀(j:Nat) o,ops[j]? =some o->∀d,o.dst=some d->d<n)(hsel:∀(j:Nat) (o:Oper) cs b,ops[j]? =some o->o.op≠ .select cs b){K:KT}{Q0:Act->World->Prop}
  (hQ:∀l' H' nx' iv' w2 ρ' a' w3,K l' H' nx' iv' w2->Sat n l' H' nx' iv' B w2 ρ' a' w3->Q0 a' w3):
  ∀(t:Tg) (fuel:Nat) (la:Array Bool) (l:Env) (H:Hp) (nx:Nat) (iv:Iv) (w:World) (ρ:Nat->Sx.dc) (a:Act) (w':World) (G:List Gh) (Z:List Zh),IE la<=fuel->la.size=ops.size->kF ops t la=true->yo P τ B ops.toList t G l H nx iv w K->Sat n l H nx iv B w ρ a w'->
   (∀z∈Z,kv ops z.1.b la->z.1∈G)->(∀z∈Z,JC ops la a z)->IZ P ops Z la w'->oL P .any ops (QN Q0) (IZ P ops Z) fuel la a w'
 | .nil,fuel,la,l,H,nx,iv,w,ρ,a,w',G,Z,_,_,hc,h,s,hG,hZ,hI=>by
  simp only[kF,List.isEmpty_iff]at hc;exact CN hI hc ⟨rfl,hQ _ _ _ _ _ _ _ _ h s⟩ fuel
 | .x i t,fuel,la,l,H,nx,iv,w,ρ,a,w',G,Z,hf,hz,hc,h,s,hG,hZ,hI=>by
  unfold kF at hc;obtain⟨o,ho,h1⟩:=fm h;rw[aw]at ho;simp only[ho,aY,Bool.or_eq_true]at hc;obtain⟨⟨c1,c2⟩,c3⟩:=hc;have c1:i∈Region.ready .any ops la:=by simpa using c1
  obtain⟨hla,-⟩:=eF.1 c1;have hun:=j8 hla;obtain⟨f,rfl⟩:∃f,fuel=f+1:=⟨fuel-1,by omega⟩
  have hz2:(la.setIfInBounds i true).size=ops.size:=by rw[bP,hz]
  rcases c2 with c2|⟨⟨hP,hgd⟩,c4⟩
  ·refine⟨hI,fun h0=>(by rw[h0]at c1;cases c1),fun j hj=>?_⟩;have hji:j=i:=eB (List.all_eq_true.1 c2 j hj);subst hji;exact zp hτ ho (hok j o ho) c1 h1 s hG hZ hI fun _ _ _ _ _ _ _ _ G' hk hs hG' hZ' hI'=>iL hτ hok hsel hQ t f _ _ _ _ _ _ _ _ _ G' Z (by omega) hz2 c3 hk hs hG' hZ' hI'
  ·have hR:sS o.op=true:=by
    unfold Dx at hP;split at hP
    ·cases hP
    ·exact hP
   have hm:=vB la;have hb:=lC (ops:=ops) (m:=gY la.toList 0) (i:=i) ops.toList 0 0 (fun n o hn=>by rw[aS];rwa [aw]at hn) (fun j hj=>by rw[qW]at hj;cases hj);generalize yO (gY la.toList 0) i ops.toList 0 0=b at*
   have hg0:o.guard=none:=by simpa using hgd
   unfold gC qX at h1;rw[hg0]at h1;obtain⟨v,hK,hvs,hrun⟩:=(kK hτ h1 s hR).resolve_right (fun hh=>by have:=hh.1;rw[pT hR]at this;cases this);obtain⟨l2,h3,sat2⟩:=gO s hK (hok i o ho) hvs;rw[hR]at h3;have hw:Region.wanted o (yielded ops a.tmps)=true:=by simp[Region.wanted,hg0]
   refine sP (v:=v.den ρ) (b:=b) (Y:=fun _=>True) (X:=execOp a.eval o) ho hR hsel (fun c a w hq=>absurd hq.1 (by simp)) (fun j hj=>(hb j hj).2.2) (fun w3 _=>hrun w3 (.inl hP)) (fun lx w h z hz ha=>h z hz ((iU ho hR).2 ha))
    f la a w' (fun j hj=>(hm j).symm.trans (hb j hj).1) (fun j oj hoj hji hl hk=>qT ops.toList 0 c4 j oj (by rw[aw];exact hoj) (by omega) (by
     have hj:=(aZ.1 hoj).1
     rw[aS,hm,kz (by omega) false true];exact hl) (by rw[aS];exact hk)) c1 ⟨hw,rfl⟩ ?_
   refine jX (fun lx w h=>⟨h,fun _=>trivial⟩) _ _ _ _ ?_;exact iL hτ hok hsel hQ t f _ _ _ _ _ _ _ _ _ G Z (by omega) hz2 c3 h3 sat2 (fun z hz h=>hG z hz ((iU ho hR).1 h)) (fun z hz=>(hZ z hz).step ho (sQ c1)) (fun z hz h=>hI z hz ((iU ho hR).1 h))
 | .two i t k u,fuel,la,l,H,nx,iv,w,ρ,a,w',G,Z,hf,hz,hc,h,s,hG,hZ,hI=>by
  simp only[kF]at hc;split at hc
  ·rename_i x y hr;simp only[aY]at hc;obtain⟨c1,c2,c3,c4⟩:=hc;have hx:=bK c1;have hy:=bK c2;subst hx;subst hy;obtain⟨h1,h2⟩:=h;obtain⟨o1,ho1,h1⟩:=fm h1;obtain⟨o2,ho2,h2⟩:=fm h2;rw[aw]at ho1 ho2;have hm1:x∈Region.ready .any ops la:=by rw[hr];simp
   have hm2:y∈Region.ready .any ops la:=by rw[hr];simp
   have u1:=j8 (eF.1 hm1).1;have u2:=j8 (eF.1 hm2).1;obtain⟨f,rfl⟩:∃f,fuel=f+1:=⟨fuel-1,by omega⟩
   refine⟨hI,fun h0=>(by rw[hr]at h0;cases h0),fun j hj=>?_⟩;rw[hr,List.mem_cons,bA]at hj;rcases hj with rfl|rfl
   ·exact zp hτ ho1 (hok _ o1 ho1) hm1 h1 s hG hZ hI fun _ _ _ _ _ _ _ _ G' hk hs hG' hZ' hI'=>iL hτ hok hsel hQ t f _ _ _ _ _ _ _ _ _ G' Z (by omega) (by rw[bP,hz]) c3 hk hs hG' hZ' hI'
   ·exact zp hτ ho2 (hok _ o2 ho2) hm2 h2 s hG hZ hI fun _ _ _ _ _ _ _ _ G' hk hs hG' hZ' hI'=>iL hτ hok hsel hQ u f _ _ _ _ _ _ _ _ _ G' Z (by omega) (by rw[bP,hz]) c4 hk hs hG' hZ' hI'
  ·cases hc
 | .three i t k u m v,fuel,la,l,H,nx,iv,w,ρ,a,w',G,Z,hf,hz,hc,h,s,hG,hZ,hI=>by
  simp only[kF]at hc;split at hc
  ·rename_i x y z9 hr;simp only[aY]at hc;obtain⟨c1,c2,c6,c3,c4,c5⟩:=hc;have hx:=bK c1;have hy:=bK c2;have hz9:=bK c6;subst hx;subst hy;subst hz9;obtain⟨h1,h2,h3⟩:=h;obtain⟨o1,ho1,h1⟩:=fm h1;obtain⟨o2,ho2,h2⟩:=fm h2;obtain⟨o3,ho3,h3⟩:=fm h3;rw[aw]at ho1 ho2 ho3;have hm1:x∈Region.ready .any ops la:=by rw[hr];simp
   have hm2:y∈Region.ready .any ops la:=by rw[hr];simp
   have hm3:z9∈Region.ready .any ops la:=by rw[hr];simp
   have u1:=j8 (eF.1 hm1).1;have u2:=j8 (eF.1 hm2).1;have u3:=j8 (eF.1 hm3).1;obtain⟨f,rfl⟩:∃f,fuel=f+1:=⟨fuel-1,by omega⟩
   refine⟨hI,fun h0=>(by rw[hr]at h0;cases h0),fun j hj=>?_⟩;rw[hr,List.mem_cons,List.mem_cons,bA]at hj;rcases hj with rfl|rfl|rfl
   ·exact zp hτ ho1 (hok _ o1 ho1) hm1 h1 s hG hZ hI fun _ _ _ _ _ _ _ _ G' hk hs hG' hZ' hI'=>iL hτ hok hsel hQ t f _ _ _ _ _ _ _ _ _ G' Z (by omega) (by rw[bP,hz]) c3 hk hs hG' hZ' hI'
   ·exact zp hτ ho2 (hok _ o2 ho2) hm2 h2 s hG hZ hI fun _ _ _ _ _ _ _ _ G' hk hs hG' hZ' hI'=>iL hτ hok hsel hQ u f _ _ _ _ _ _ _ _ _ G' Z (by omega) (by rw[bP,hz]) c4 hk hs hG' hZ' hI'
   ·exact zp hτ ho3 (hok _ o3 ho3) hm3 h3 s hG hZ hI fun _ _ _ _ _ _ _ _ G' hk hs hG' hZ' hI'=>iL hτ hok hsel hQ v f _ _ _ _ _ _ _ _ _ G' Z (by omega) (by rw[bP,hz]) c5 hk hs hG' hZ' hI'
  ·cases hc
 | .ld i b t,fuel,la,l,H,nx,iv,w,ρ,a,w',G,Z,hf,hz,hc,h,s,hG,hZ,hI=>by
  unfold kF at hc;obtain⟨o,ho,h1⟩:=fm h;rw[aw]at ho;simp only[ho]at hc
  cases hld:Gt o with
  |none=>rw[hld]at hc;cases hc
  |some q=>
   obtain⟨d,T,u⟩:=q;rw[hld]at hc h1;simp only[aY]at hc;obtain⟨⟨⟨⟨c1,c2⟩,c4⟩,c5⟩,c3⟩:=hc;obtain⟨e1,e2,e3⟩:=FA hld;have c1:i∈Region.ready .any ops la:=by simpa using c1
   obtain⟨hla,-⟩:=eF.1 c1;have hun:=j8 hla;obtain⟨f,rfl⟩:∃f,fuel=f+1:=⟨fuel-1,by omega⟩
   have hz2:(la.setIfInBounds i true).size=ops.size:=by rw[bP,hz]
   have hR:sS o.op=true:=by rw[e2];rfl
   have hm:=vB la;have hb:=lC (ops:=ops) (m:=gY la.toList 0) (i:=i) ops.toList 0 0 (fun n o hn=>by rw[aS];rwa [aw]at hn) (fun j hj=>by rw[qW]at hj;cases hj);rw[<-bK c2]at hb
   cases hsu:ef l u with
   |none=>simp only[hsu]at h1
   |some su=>
    simp only[hsu]at h1;obtain⟨v,hK,hvs,hrun⟩:=lg hτ s.rel (s.sc _ _ hsu) h1;have hau:=s.env _ _ hsu;have hdn:=hok i o ho d e1;have sat2:Sat n ((d,v)::l) H nx iv B w ρ (a.put o.dst (v.den ρ)) w':=by rw[e1];exact s.put hdn hvs
    have hw:Region.wanted o (yielded ops a.tmps)=true:=by simp[Region.wanted,e3]
    have hev:a.eval (.tmp u)=su.den ρ:=by rw[Act.eval,aW,hau];rfl
    have hui:tb (gY la.toList 0) i=false:=by rw[hm];exact sQ c1
    have hno:=yL ops.toList 0 c5;refine sP (v:=v.den ρ) (b:=b) (Y:=Yz P (⟨u,d,T,b⟩,su.den ρ,v.den ρ)) (X:=execOp a.eval o) ho hR hsel (fun c a w hq=>absurd hq.1 (by simp)) (fun j hj=>(hb j hj).2.2) (fun w3 hY=>?_) (fun lx w h z hz ha=>h z hz ((iU ho hR).2 ha))
     f la a w' (fun j hj=>(hm j).symm.trans (hb j hj).1) (fun j oj hoj hji hl hk=>qT ops.toList 0 c4 j oj (by rw[aw];exact hoj) (by omega) (by
      have hj:=(aZ.1 hoj).1
      rw[aS,hm,kz (by omega) false true];exact hl) (by rw[aS];exact hk)) c1 ⟨hw,rfl⟩ ?_
    ·unfold Yz at hY;obtain⟨dst,op,ty,pos,after,guard⟩:=o;simp only at e2;subst e2;simp only[execOp,hev]
     exact kM hY
    ·refine jX (I:=IZ P ops ((⟨u,d,T,b⟩,su.den ρ,v.den ρ)::Z)) (fun lx w h=>⟨fun z hz=>h z (aD _ hz),h _ aJ⟩) _ _ _ _ ?_;refine iL hτ hok hsel hQ t f _ _ _ _ _ _ _ _ _ (⟨u,d,T,b⟩::G) ((⟨u,d,T,b⟩,su.den ρ,v.den ρ)::Z) (by omega) hz2 c3 hK sat2 (fun z hz h=>?_) (fun z hz=>?_) (fun z hz h=>?_)
     ·rcases List.mem_cons.1 hz with rfl|hz
      ·exact aJ
      ·exact aD _ (hG z hz ((iU ho hR).1 h))
     ·rcases List.mem_cons.1 hz with rfl|hz
      ·have h7:=(hno i o (by rw[aw];exact ho) (by rw[aS];exact hui)).1;refine⟨oN h7 hau,?_,fun j oj hoj hlj=>?_⟩
       ·rw[e1];show(a.tmps.setIfInBounds d _)[d]? =_;rw[Array.getElem?_setIfInBounds_self_of_lt (by rw[s.size];exact hdn)]
       ·have hji:i≠j:=fun e=>by
         subst e;have hi:=(aZ.1 hla).1;rw[aW,Array.getElem?_setIfInBounds_self_of_lt hi]at hlj
         cases hlj
        rw[getD_set_ne false hji]at hlj;obtain⟨k1,k2⟩:=hno j oj (by rw[aw];exact hoj) (by rw[aS,hm];exact hlj);exact⟨k1,k2 (by omega)⟩
      ·exact(hZ z hz).step ho (sQ c1)
     ·rcases List.mem_cons.1 hz with rfl|hz
      ·exact hrun w' s.rel
      ·exact hI z hz ((iU ho hR).1 h)
 | .mw id t,fuel,la,l,H,nx,iv,w,ρ,a,w',G,Z,hf,hz,hc,h,s,hG,hZ,hI=>by
  obtain⟨H',b,hid,hd,hs,ho,h⟩:=h;obtain⟨hn,l',hl,h⟩:=h _ _ s.rel;exact iL hτ hok hsel hQ t fuel la l' H' nx _ w' ρ a w' G Z hf hz hc h ⟨s.rel.free hid hd hn hs ho,s.size,s.defers,fun u v hv=>by obtain⟨-,v',h1,h2⟩:=hl u v hv;rw[<-h2];exact s.env u v' h1,fun u v hv=>(hl u v hv).1⟩ hG hZ hI
theorem gl(hτ:eh P τ)(hm:P.follows .mixedOrders=true){K:KT}(t:Tg)(hs:Region.noSelect ops=true)(hc:kF ops t (Array.replicate ops.size false)=true)
  (h:yo P τ B ops.toList t [] l H nx iv w K):vc P B ops l H nx iv w K:=by
 refine⟨fun n ρ a w' hok sat Q hQ id=>?_⟩;refine wp_mono (Q':=Q) (c:=.region id ops true) (wp_region_any (Q:=QN (Q .normal)) hm (yK (I:=IZ P ops []) _ _ _ _ ?_)) (fun e a w hq=>by obtain⟨rfl,hq⟩:=hq;exact hq);refine iL (Q0:=Q .normal) hτ (fun j o ho d hd=>?_) (Region.noSelect_spec hs) hQ t _ _ _ _ _ _ _ ρ _ _ [] [] ?_ (by simp) hc h ⟨sat.rel.drew,sat.size,sat.defers,sat.env,sat.sc⟩ (fun z hz=>by cases hz) (fun z hz=>by cases hz) (fun z hz=>by cases hz)
 ·have:=List.all_eq_true.1 hok o (aF (by rw[aw];exact ho));rw[hd]at this;have h5:d+1<=n:=by simpa [Nat.blt]using this
  exact h5
 ·unfold IE;refine bB List.countP_le_length ?_;simp
end
end Go.Ex
