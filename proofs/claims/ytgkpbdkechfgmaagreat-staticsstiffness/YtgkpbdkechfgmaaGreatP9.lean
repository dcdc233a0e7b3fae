/- Texts X102 to L22: lemmas, each with its conditions. -/
import Derived.Test.YtgkpbdkechfgmaaGreatP8
namespace Go.Ex
open Go Go.Sx Go.Proofs
variable{M:List (List Rat)}{qs r:List Rat}{rv:List Value}{S:Nat->Prop}{a:Option Addr}{w:World}
theorem il.take{C:Nat->Prop}{m n c:Nat}(h:il w C S (.slice a m c) qs)(W:n<=m):il w C S (.slice a n c) (qs.take n):=by
 obtain⟨A,⟨h0,I,G,a',c',e,h3,h4⟩,hf⟩:=h;injection e with e1 e2 e3;subst e1 e2 e3;have hl:(A.take n).length=(qs.take n).length:=by rw[ah,ah,hf.1]
 have hq:(qs.take n).length=n:=by rw[ah];omega
 have WY:∀(j:Nat) u,(A.take n).flatten[j]? =some u->A.flatten[j]? =some u:=fun j u hu=>by
  have:A.flatten=(A.take n).flatten++(A.drop n).flatten:=by rw[<-List.flatten_append,List.take_append_drop]
  rw[this,aI (aE.1 hu).1];exact hu
 refine⟨A.take n,⟨by rw[hq];omega,?_,fun u hu=>G u ?_,a,c,by rw[hq],by rw[hq];omega,fun j u hu=>h4 j u (WY j u hu)⟩,hl,fun j Z q k1 k2=>hf.2 j Z q ?_ ?_⟩
 .rw[eP fun Z hc=>hf.ma Z (bq hc),hl]
 .obtain⟨j,hj⟩:=aU hu;exact aC (WY j u hj)
 .rw[List.getElem?_take]at k1;split at k1;exact k1;cases k1
 .rw[List.getElem?_take]at k2;split at k2;exact k2;cases k2
theorem aAY{n i j:Nat}(hl:fz n M)(D:i<M.length)(hj:j<M.length):fz n (fC [] M i j):=fun r hr=>by
 unfold fC at hr;rcases bE hr with I|I
 .rcases bE I with G|G
  .exact hl r G
  .rw[G];exact hl _ (Hj hj)
 .rw[I];exact hl _ (Hj D)
theorem NA{n k:Nat}(h:M[k]? =some r)(K:k<n):(tk n (M.take n)).take (k+1)=(tk n (M.take n)).take k++[r.take n]:=by
 rw[bB,tk,aO,List.getElem?_take,aM K,h];rfl
theorem gL.pL{B:Nat}{iv:Iv}{gm Fn n k c:Nat}(h:gL w S B iv gm Fn n rv M)(K:k<Fn)(hc:c<n):
  ∃g ck q d1 e1 m1 k1 d2 e2 m2 k2,aC2 w (kW S B iv gm Fn rv) rv n M gm k c g ck q d1 e1 m1 k1 d2 e2 m2 k2/\Mb (HS gm Fn) rv g:=by
 obtain⟨gm',g,ck,q,d1,e1,m1,k1,d2,e2,m2,k2,e,hE⟩:=h.Mz.elem (k:=k) (c:=c) (by rw[h.rows];exact K) hc;injection e with e;injection e with e;subst e;exact⟨g,ck,q,d1,e1,m1,k1,d2,e2,m2,k2,hE,.inr ⟨_,aC hE.rv,rfl⟩⟩
theorem aDa{vm:Value}{n Fn h:Nat}(hS0:Old S w)(Tl:xh w S vm M)(Ov:∀r∈M,r.length=Fn)(hnR:n<=Fn)(hnM:n<=M.length)(hR:Fn<=1000)(Qd:Ht M h)(G:2<=h)(Pm:4^n*h<=800000000):
  eH PG GT.FB #[vm,iV n] w (eR w fun v' Y=>dH Y (Nf w Y) v' (lC M 0 n)):=by
 have F:=hS0;have V:=bR w;obtain⟨am,cm,rfl,SB,Qr⟩:=dI.shape Tl;unfold maxLen at Qr;refine G9 bv ?_
 refine⟨n,n,rfl,rfl,lr,be,be,List Value×World×Iv,fun z=>⟨[(0,sV am M.length cm),(1,iZ n),(4,pP 0 0),(5,.o (.s 1 0 n n)),(14,iZ n),(15,.o (.v (iV (z.1.length:Nat))))],[(1,.arr T.row (z.1++List.replicate (n-z.1.length) nls)),(0,.box T.eJ [.v (.bool false),.v nls,.v (.bool false),.v nls])],2,z.2.2,z.2.1⟩,fun z=>n-z.1.length,
  fun z=>z.1.length<=n/\Bq w z.2.1/\jY z.2.1 S w.heap.size z.2.2 z.1 n ((tk n (M.take n)).take z.1.length)/\(∀u∈z.1,u.oneCell'=true),?_,?_⟩
 .intro O J r;exact⟨([],J,[]),⟨aR _,V.tr r.cZ,by simpa using jY.nil _ _ _ _ _,bv⟩,sbgn [] r⟩
 clear V;rintro⟨rv,w1,iv⟩ ⟨D,V,hF,h1c⟩;dsimp only at D V hF h1c ⊢;apply bS<;>intro Ou
 .have Ou:rv.length<n:=by simpa using Ou
  obtain⟨ra,S6⟩:=gO M rv.length;have Uq:=Ov ra (aC S6);obtain⟨adx,ux,rfl,Qu,Sq,RX⟩:=dI.load Tl S6;obtain⟨aux,cux,rfl,hcux,-⟩:=Qu.shape;refine⟨adx,rfl,be,.slice aux ra.length cux,rd1 RX V (F _ Sq),?_⟩;have WY:=il.take (n:=n) (Qu.from (k:=0) be) be;refine⟨⟨be,be,be⟩,(if (cux:Int)=((0:Nat):Int)then aux else aux.map (·.add (0*4))),n,cux-0,rfl,be,be,?_⟩;rw[List.drop_zero]at WY;generalize (if (cux:Int)=((0:Nat):Int)then aux else aux.map (·.add (0*4)))=adp at*
  generalize cux-0=cdp at*
  have hprl:(ra.take n).length=n:=by rw[ah];omega
  refine cQ (cU (J9:=fun _ J v Y=>nY Y S v n (ra.take n)/\∀g,v.ownBlock=some g->J.heap.size<=g/\g<Y.heap.size) (fun O J r=>?_) ?_)
  .have:=Ia (w:=J) (oS F r) (oS F r) (WY.cR fun g X=>(V.tr r.cZ).block g (F g (X.elim id id))) be be;rw[hprl]at this;exact this
  rintro O Pw v1 Pa r L hb ⟨UZ,R7⟩;have Ry:=hF.snoc r F L (UZ.cP fun g X=>⟨.inl X,fun e=>by have:=F g X;have:=R7 g e;have:=r.dA;omega,fun⟨u,hu,e⟩=>(hF.new u hu g e).elim (fun h=>h.elim) fun h=>by have:=F g X;omega⟩) R7;rw[<-NA S6 Ou]at Ry;replace V:=V.tr hb;obtain⟨a3,c3,rfl,-⟩:=UZ.form;clear r L hb UZ R7 hF;generalize (Pw.heap.size,Pa.heap.size)::iv=PA at*
  refine⟨be,by simp;omega,(rv++[.slice a3 n c3])++List.replicate (n-(rv.length+1)) nls,?_,?_⟩
  .have h5:n-rv.length=(n-(rv.length+1))+1:=by omega
   simp[h5,List.replicate_succ]
  refine⟨((rv.length+1:Nat):Int),wo,?_⟩;intro I' w3 R;have Q7:(rv++[Value.slice a3 n c3]).length=rv.length+1:=by simp
  refine⟨(rv++[.slice a3 n c3],w3,PA),⟨by dsimp only;rw[Q7];exact Ou,V.tr R.cZ,by dsimp only;rw[Q7];exact Ry.rel R F,fun u hu=>?_⟩,sbgn [] R ⟨by dsimp only;rw[Q7];rfl,rfl,trivial⟩ ⟨rfl,rfl,rfl,rfl,rfl,by dsimp only;rw[Q7];rfl,trivial⟩,by dsimp only;rw[Q7];omega⟩;rcases bG.1 hu with hu|hu
  .exact h1c u hu
  .simp at hu;subst hu;rfl
 have Ou:rv.length=n:=Nat.le_antisymm D (by simpa using Ou);rw[Ou,bH (by rw[M8,ah];exact Nat.min_le_left ..)]at hF;rw[Ou,bO,List.replicate_zero,List.append_nil];refine cQ (cU (J9:=fun _ J v Y=>dH Y (Nf J Y) v ((1:Int):Rat)) (fun O J r=>BM 1 J bi bi) ?_);rintro O Pw v1 Pa r L hb W;replace V:=V.tr hb;have hO:=W.lim (rv:=rv) r fun u hu g X=>hF.new u hu g X;replace hF:jY Pa S w.heap.size ((Pw.heap.size,Pa.heap.size)::iv) rv n (tk n (M.take n)):=hF.cS r F L fun x U=>aB _ U;clear r L hb W;generalize (Pw.heap.size,Pa.heap.size)::iv=PA at*
 obtain⟨A0,A1,A2,A3,A4,A5,A6,A7,rfl⟩:=hO.shape;rw[show ((1:Int):Rat)=1 by decide]at hO;have YV:fz n (tk n (M.take n)):=fun r hr=>by
  obtain⟨x,U,rfl⟩:=aV.1 hr;rw[ah,Ov x (bq U)];omega
 have hDht:Ht (tk n (M.take n)) h:=fun r hr q hq=>by
  obtain⟨x,U,rfl⟩:=aV.1 hr;exact Qd x (bq U) q (bq hq)
 refine⟨Nat×(Nat×List Value×List (List Rat)×Rat)×((Bool×Bool)×(Option Addr×Option Addr)×(Nat×Nat×Nat×Nat))×World×Iv,fun z=>⟨[(5,.o (.v (.slice (some ⟨z.2.1.1,0,none⟩) n n))),(1,iZ n),(4,pP 0 0),(7,pP 2 0),(30,iZ n),(31,iN z.1)],[(2,.box T.eJ [.v (.bool z.2.2.1.1.1),.v (.slice z.2.2.1.2.1.1 z.2.2.1.2.2.1 z.2.2.1.2.2.2.1),.v (.bool z.2.2.1.1.2),.v (.slice z.2.2.1.2.1.2 z.2.2.1.2.2.2.2.1 z.2.2.1.2.2.2.2.2)]),(0,.box T.eJ [.v (.bool false),.v nls,.v (.bool false),.v nls])],3,z.2.2.2.2,z.2.2.2.1⟩,fun z=>n-z.1,
  fun z=>z.1<=n/\Bq w z.2.2.2.1/\gL z.2.2.2.1 S w.heap.size z.2.2.2.2 z.2.1.1 n n z.2.1.2.1 z.2.1.2.2.1/\dH z.2.2.2.1 (kW FF w.heap.size z.2.2.2.2 z.2.1.1 n z.2.1.2.1) (.agg #[.bool z.2.2.1.1.1,.slice z.2.2.1.2.1.1 z.2.2.1.2.2.1 z.2.2.1.2.2.2.1,.bool z.2.2.1.1.2,.slice z.2.2.1.2.1.2 z.2.2.1.2.2.2.2.1 z.2.2.1.2.2.2.2.2]) z.2.1.2.2.2/\fz n z.2.1.2.2.1/\Ht z.2.1.2.2.1 (4^z.1*h)/\rl z.2.1.2.2.2<=4^z.1*h/\z.2.1.2.2.2*lC z.2.1.2.2.1 z.1 n=lC M 0 n,?_,?_⟩
 .intro O J r;have PK:=r.nn 1 _ rfl (by intros;simp) bv;have hG:=hF.pK r F (id:=1) rfl PK mx h1c;rw[Ou]at hG;refine⟨(0,((O 1).g,rv,tk n (M.take n),1),((A0,A4),(A1,A5),(A2,A3,A6,A7)),J,((O 1).g,(O 1).g+1)::PA),⟨aR _,V.tr r.cZ,hG,(hO.cR fun g X=>rls r oF X.1).cP fun g X=>⟨X.1.mono fun p hp=>aB _ hp,fun hm=>?_⟩,YV,by rw[Nat.pow_zero,Nat.one_mul];exact hDht,by rw[GN,Nat.pow_zero];omega,by rw[Hn,bs]⟩,Sub.pK r (id:=1) (t:=5) rfl rfl ⟨rfl,rfl,trivial⟩ rfl ⟨rfl,rfl,rfl,rfl,rfl,trivial⟩ (by simp[kK,SV.sc,At.sc])⟩;rcases hm with hm|⟨u,hu,hm⟩
  .injection hm with hm;exact Rel.not r oF X.1 1 _ rfl PK hm
  .exact X.2 ⟨u,hu,hm⟩
 clear V hF hO YV hDht Ou D h1c;rintro⟨c,⟨gm,rv1,M1,q0⟩,⟨⟨p0,p4⟩,⟨p1,p5⟩,⟨p2,p3,p6,p7⟩⟩,w1,iv⟩ ⟨hc,V,hM,hO,hlen,SD,Ss,hD⟩;dsimp only at hc V hM hO hlen SD Ss hD ⊢;apply bS<;>intro Pk
 .have Pk:=dL Pk;have hHb:4^(c+1)*h<=800000000:=aX (Nat.mul_le_mul_right _ (Nat.pow_le_pow_right bi Pk)) Pm;have Sd:4^(c+1)*h=4*(4^c*h):=by rw[Nat.pow_succ,bl (4^c) 4,bz]
  have Xc:2<=4^c*h:=aX G (Nat.le_mul_of_pos_left _ (Nat.pow_pos bi));rw[Sd]at hHb;obtain⟨hh,hhe⟩:∃x,x=4^c*h:=⟨_,rfl⟩
  rw[<-hhe]at SD Ss Xc hHb Sd;have hM1l:=hM.len
  refine⟨Nat×World×Iv,fun z=>⟨[(5,.o (.v (.slice (some ⟨gm,0,none⟩) n n))),(1,iZ n),(4,pP 0 0),(7,pP 2 0),(30,iZ n),(31,iN c),(8,iN c),(9,iN z.1)],[(2,.box T.eJ [.v (.bool p0),.v (.slice p1 p2 p3),.v (.bool p4),.v (.slice p5 p6 p7)]),(0,.box T.eJ [.v (.bool false),.v nls,.v (.bool false),.v nls])],3,z.2.2,z.2.1⟩,fun z=>n-z.1,
   fun z=>c<=z.1/\z.1<=n/\Bq w z.2.1/\gL z.2.1 S w.heap.size z.2.2 gm n n rv1 M1/\dH z.2.1 (kW FF w.heap.size z.2.2 gm n rv1) (.agg #[.bool p0,.slice p1 p2 p3,.bool p4,.slice p5 p6 p7]) q0/\∀j,c<=j->j<z.1->dF M1 j c=0,?_,?_⟩
  .intro O J r;exact⟨(c,J,iv),⟨lr,Nat.le_of_lt Pk,V.tr r.cZ,hM.rel r F,hO.jO r oF,fun j I G=>by dsimp only at G;omega⟩,sbgn [] r⟩
  clear V hM hO;rintro⟨k,Y,iv⟩ ⟨Th,K,V,hM,hO,hz⟩;dsimp only at Th K V hM hO hz ⊢;apply bS<;>intro Ow
  .have Ow:=dL Ow;obtain⟨gk,cd,qd,d1,d2,d3,d4,d5,d6,d7,d8,RE,Qh⟩:=hM.pL (k:=k) (c:=c) be be;refine⟨⟨gm,0,none⟩,rfl,be,_,fun O J r=>hM.cell r (.inl (by rw[dO];rfl)) RE.outer,⟨gk,0,none⟩,rfl,be,rC d1 d2 d3 d4 d5 d6 d7 d8,rfl,fun O J r j x U=>hM.cell r (by rw[dO,dO];exact Qh) (RE.cells j x U),?_⟩;have RU:=RE.at_;refine cQ (cE V (pE (iV (rs qd))) (fun O J r=>tX (kW.old r F) (RE.DN.jO r F)) ?_);rintro O Q9 v11 Qi Pp r L V E rfl;replace hM:=gL.cS hM r F L (mC E);replace hO:=dH.pJ hO r oF L (mC E);clear r L;clear RE Qh;apply bS<;>intro hs
   .have hs:qd=0:=lV.1 (by simpa using hs);refine inc k ?_;intro I' w3 R;refine⟨(k+1,w3,_),⟨by dsimp only;omega,Ow,V.tr R.cZ,hM.rel R F,hO.jO R oF,fun j I G=>?_⟩,sbgn [] R,by dsimp only;omega⟩;rcases aS j k with h3|h3
    .exact hz j I h3
    .rw[show j=k by dsimp only at G;omega,RU,hs]
   have hs:qd≠0:=fun e=>by rw[lV.2 e]at hs;simp at hs
   rw[<-RU]at hs;clear RU hz;refine tG.mk (fun Vy=>absurd (eq_of_beq Vy) be) (fun _=>?_);apply bS<;>intro Vu
   .have Vu:k≠c:=fun e=>by rw[e]at Vu;simp at Vu
    obtain⟨gk,cd,qd,d1,d2,d3,d4,d5,d6,d7,d8,RE,Qh⟩:=hM.pL (k:=k) (c:=c) be be;obtain⟨gc,ce,qe,e1,e2,e3,e4,e5,e6,e7,e8,SE,Uc⟩:=hM.pL (k:=c) (c:=c) be be;have hvk:=RE.rv;have hvc:=SE.rv;have hgB:w.heap.size<=gm:=hM.base (.inl rfl);have hMbg:∀g,some gm=some g->Mb (HS gm n) rv1 g:=fun g e=>by injection e with e;subst e;exact .inl rfl
    refine dP (idO 16) ?_;refine⟨⟨gm,0,none⟩,rfl,be,_,fun O J r=>hM.cell r (.inl (by rw[dO];rfl)) RE.outer,⟨gm,0,none⟩,rfl,be,_,fun O J r=>hM.cell r (.inl (by rw[dO];rfl)) SE.outer,⟨gm,0,none⟩,rfl,be,?_⟩;intro O J r;obtain⟨x1,x2,x3,x4⟩:=hM.aD8 r F (i:=c) (vb:=.slice (some ⟨gk,0,none⟩) n cd) Pk;replace V:=V.tr r.cZ;refine⟨x1,x2,x3,fun w4 hw4=>?_⟩;obtain⟨hH,PF⟩:=x4 w4 hw4;replace hO:=hO.cR (kW.grown r oF PF hMbg);replace V:=V.tr (ju.grown PF (fun g e=>by injection e with e;subst e;exact hgB) r.dA);clear r hM x1 x2 x3 x4 hw4 PF RE SE Qh Uc;refine⟨⟨gm,0,none⟩,rfl,be,?_⟩;intro O J r;obtain⟨x1,x2,x3,x4⟩:=hH.aD9 r F hvc hvk;replace V:=V.tr r.cZ;refine⟨x1,x2,x3,fun w6 hw6=>?_⟩;obtain⟨hM,Uk,PF⟩:=x4 w6 hw6;replace hO:=(hO.cR (kW.grown r oF PF hMbg)).cP (S':=kW FF w.heap.size Pp gm n ((rv1.set c (.slice (some ⟨gk,0,none⟩) n cd)).set k (.slice (some ⟨gc,0,none⟩) n ce))) fun g X=>⟨X.1,fun hm=>X.2 ((Uk g).1 hm)⟩
    replace V:=V.tr (ju.grown PF (fun g e=>by injection e with e;subst e;exact hgB) r.dA);have h0:dF (fC [] M1 c k) c c≠0:=by rw[Bk be be];exact hs
    replace SD:=SD.swap (i:=c) (j:=k) be be;have Xb: -q0*lC (fC [] M1 c k) c n=lC M 0 n:=by
     rw[Mc (Nat.lt_of_le_of_ne Th (Ne.symm Vu)) Ow be,<-hD];grind
    have VP:fz n (fC [] M1 c k):=aAY hlen be be;have hM2l:=hM.len;clear r hH x1 x2 x3 x4 hw6 PF Uk hvk hvc hs hMbg hD hlen hM1l;generalize (rv1.set c (Value.slice (some ⟨gk,0,none⟩) n cd)).set k (Value.slice (some ⟨gc,0,none⟩) n ce)=rv2 at*
    generalize fC [] M1 c k=M2 at*
    refine cQ (cU (J9:=fun _ J v Y=>dH Y (Nw (kW FF w.heap.size Pp gm n rv2) J Y) v (-q0)) (fun O J r=>s7 (kW.old r oF) (hO.jO r oF)) ?_);rintro O TT v21 Se r L hb W;replace V:=V.tr hb;have Ur:=W.BL hM r;replace hM:=gL.cS (N:=(TT.heap.size,Se.heap.size)::Pp) hM r F L fun x U=>aB _ U;clear r L hb W;generalize (TT.heap.size,Se.heap.size)::Pp=R8 at*
    clear hO;have hql2:rl (-q0)<=hh:=by rw[jE];exact Ss
    obtain⟨C0,C1,C2,C3,C4,C5,C6,C7,rfl⟩:=Ur.shape;obtain⟨gf,cf,qf,f1,f2,f3,f4,f5,f6,f7,f8,UA,XH⟩:=hM.pL (k:=c) (c:=c) be be;have Vd:qf=dF M2 c c:=UA.at_.symm;have XI:=k6 SD Xc c c;rw[<-Vd]at XI h0;have QO:=fh (-q0) qf;refine dP (idO 10) ?_;refine⟨⟨gm,0,none⟩,rfl,be,_,fun O J r=>hM.cell r (.inl (by rw[dO];rfl)) UA.outer,⟨gf,0,none⟩,rfl,be,rC f1 f2 f3 f4 f5 f6 f7 f8,rfl,fun O J r j x U=>hM.cell r (by rw[dO,dO];exact XH) (UA.cells j x U),?_⟩;refine cU (J9:=fun _ J v Y=>dH Y (Nf J Y) v (-q0*qf)) (fun O J r=>s8 (kW.old r F) (dH.cP (Ur.jO r oF) fun _ X=>(⟨Dh X.1,X.2⟩:kW S _ _ _ _ _ _)) (UA.DN.jO r F) be be) ?_;rintro O UB v22 UC r L hb W;replace V:=V.tr hb;have YW:=W.beside (S0:=fun _=>False) hM r;replace hM:=gL.cS (N:=(UB.heap.size,UC.heap.size)::R8) hM r F L fun x U=>aB _ U;clear r L hb W;generalize (UB.heap.size,UC.heap.size)::R8=TU at*
    clear UA XH Ur;have hO:=YW;clear YW;obtain⟨F0,F1,F2,F3,F4,F5,F6,F7,rfl⟩:=hO.shape;refine inc c ?_;have Qd:=SD;rw[Vd]at h0
    refine⟨Nat×World×Iv,fun z=>⟨[(5,.o (.v (.slice (some ⟨gm,0,none⟩) n n))),(1,iZ n),(4,pP 0 0),(7,pP 2 0),(30,iZ n),(31,iN c),(8,iN c),(10,iN z.1)],[(2,.box T.eJ [.v (.bool F0),.v (.slice F1 F2 F3),.v (.bool F4),.v (.slice F5 F6 F7)]),(0,.box T.eJ [.v (.bool false),.v nls,.v (.bool false),.v nls])],3,z.2.2,z.2.1⟩,fun z=>n-z.1,
     fun z=>c<z.1/\z.1<=n/\Bq w z.2.1/\gL z.2.1 S w.heap.size z.2.2 gm n n rv2 (fE M2 c z.1)/\dH z.2.1 (kW FF w.heap.size z.2.2 gm n rv2) (.agg #[.bool F0,.slice F1 F2 F3,.bool F4,.slice F5 F6 F7]) (-q0*qf),?_,?_⟩
    .intro O J r
     exact⟨(c+1,J,_),⟨bc _,by dsimp only;omega,V.tr r.cZ,by rw[pr _ _ _ lr];exact hM.rel r F,hO.jO r oF⟩,
      sbgn [] r⟩
    clear V hM hO;rintro⟨i,w7,iv⟩ ⟨Us,D,V,hM,hO⟩;dsimp only at Us D V hM hO ⊢;apply bS<;>intro Ou
    .have Ou:=dL Ou;obtain⟨ri,Tz⟩:=gO M2 i;obtain⟨rc,VO⟩:=gO M2 c;have UD:(fE M2 c i)[i]? =some ri:=by rw[lD _ _ _ _ (.inr lr)];exact Tz
     have WZ:(fE M2 c i)[c]? =some rc:=by rw[lD _ _ _ _ (.inl lr)];exact VO
     obtain⟨gi,cd,qd,d1,d2,d3,d4,d5,d6,d7,d8,RE,Qh⟩:=hM.pL (k:=i) (c:=c) be be;obtain⟨gc,ce,qe,e1,e2,e3,e4,e5,e6,e7,e8,SE,Uc⟩:=hM.pL (k:=c) (c:=c) be be;have RU:qd=ri.getD c 0:=by
      rw[<-RE.at_];unfold dF;rw[show (fE M2 c i).getD i []=ri by simp only[List.getD,UD,Option.getD_some]]
     have Tm:qe=dF M2 c c:=by rw[<-SE.at_,r9 (.inl lr)]
     have YX:=Qd.at Tz;have WC:=Qd.at VO;have Qe:=pt YX be c;have Ps:=k6 Qd be c c;rw[<-RU]at Qe;rw[<-Tm]at Ps;have UE:qe≠0:=Tm▸h0;have Q7:=pw qd UE;have VN:=jE (qd / qe);have hvd:=RE.rv;have hve:=SE.rv;refine dP [.x 0,.x 1,.x 2,.x 3,.x 4,.x 5,.x 6,.x 7,.x 8,.x 9,.x 10,.x 11,.x 12,.x 13,.x 14,.x 15,.x 16,.x 17,.x 20,.x 21,.x 22,.x 23,.x 18,.x 19,.x 24] ?_;refine⟨⟨gm,0,none⟩,rfl,be,_,fun O J r=>hM.cell r (.inl (by rw[dO];rfl)) RE.outer,⟨gm,0,none⟩,rfl,be,_,fun O J r=>hM.cell r (.inl (by rw[dO];rfl)) RE.outer,⟨gi,0,none⟩,rfl,be,rC d1 d2 d3 d4 d5 d6 d7 d8,rfl,fun O J r j x U=>hM.cell r (by rw[dO,dO];exact Qh) (RE.cells j x U),⟨gm,0,none⟩,rfl,be,_,fun O J r=>hM.cell r (.inl (by rw[dO];rfl)) SE.outer,⟨gc,0,none⟩,rfl,be,rC e1 e2 e3 e4 e5 e6 e7 e8,rfl,fun O J r j x U=>hM.cell r (by rw[dO,dO];exact Uc) (SE.cells j x U),⟨gm,0,none⟩,rfl,be,_,fun O J r=>hM.cell r (.inl (by rw[dO];rfl)) SE.outer,?_⟩;refine cU (J9:=fun _ J v Y=>dH Y (Nf J Y) v (qd / qe)) (fun O J r=>Lt (kW.old r F) (RE.DN.jO r F) (SE.DN.jO r F) be be UE) ?_;rintro O UF v23 UG r L hb W;replace V:=V.tr hb;have hB:=W.beside (S0:=S) hM r;replace hM:=gL.cS (N:=(UF.heap.size,UG.heap.size)::iv) hM r F L fun x U=>aB _ U;replace hO:=dH.pJ (N:=(UF.heap.size,UG.heap.size)::iv) hO r oF L fun x U=>aB _ U;clear r L hb W;generalize (UF.heap.size,UG.heap.size)::iv=St at*
     clear RE SE Qh Uc;obtain⟨J0,J1,J2,J3,J4,J5,J6,J7,rfl⟩:=hB.shape;refine cU (J9:=fun _ J v Y=>dH Y (Nw (kW S w.heap.size St gm n rv2) J Y) v (-(qd / qe))) (fun O J r=>s7 (kW.old r F) (hB.jO r F)) ?_;rintro O Ve v24 Vf r L hb W;replace V:=V.tr hb;have Wa:=W.BL hM r;replace hM:=gL.cS (N:=(Ve.heap.size,Vf.heap.size)::St) hM r F L fun x U=>aB _ U;replace hO:=dH.pJ (N:=(Ve.heap.size,Vf.heap.size)::St) hO r oF L fun x U=>aB _ U;clear r L hb W;generalize (Ve.heap.size,Vf.heap.size)::St=Xd at*
     clear hB;obtain⟨K0,K1,K2,K3,K4,K5,K6,K7,rfl⟩:=Wa.shape;refine⟨fun O J r=>?_⟩;refine(hM.I9 r F mx (Nat.ne_of_gt Us) hvd hve UD WZ Wa (fun q hq=>by have:=YX q hq;omega) (fun q hq=>by have:=WC q hq;omega) be).mono fun e w8 L=>?_;obtain⟨rfl,PF,RP,Qj⟩:=L;have Pf:=(V.tr r.cZ).tr (hM.cZ r PF RP);have Ur:=hO.cR (kW.grown r oF PF RP);replace Ur:=Ur.cP (S':=kW FF w.heap.size ((J.heap.size,w8.heap.size)::Xd) gm n rv2) fun _ X=>⟨X.1.mono fun p hp=>aB _ hp,X.2⟩
     refine⟨.tuple #[],_,(J.heap.size,w8.heap.size)::Xd,rfl,r.pM (fun x U=>Rel.not r (dV _) (hM.rO x (RP x U))) PF,?_⟩;rw[RU,Tm,show rc=M2.getD c [] by rw[List.getD,VO];rfl,r8 Tz Us]at Qj;clear hM hO V PF RP r Wa;generalize (J.heap.size,w8.heap.size)::Xd=RZ at*
     refine inc i ?_;intro I' w3 R
     exact⟨(i+1,w3,_),⟨by dsimp only;omega,Ou,Pf.tr R.cZ,Qj.rel R F,Ur.jO R oF⟩,
      sbgn [] R,by dsimp only;omega⟩
    have Ou:=dE D Ou;rw[Ou]at hM;refine inc c ?_;intro I' w3 R;refine⟨(c+1,(gm,rv2,fE M2 c n,-q0*qf),((F0,F4),(F1,F5),(F2,F3,F6,F7)),w3,_),⟨Pk,V.tr R.cZ,hM.rel R F,hO.jO R oF,uu VP,by dsimp only;rw[Sd];exact Qd.elim Xc h0,by dsimp only;rw[Sd];omega,?_⟩,sbgn [] R,by dsimp only;omega⟩;dsimp only
    rw[<-Xb,tO (M:=M2) VP (aP n) be Pk h0 (aP n),Vd,Rat.mul_assoc]
   have Vu:c=k:=by
    have h4:((k:Int)==(c:Int))=true:=by simpa using Vu
    have:=eq_of_beq h4;omega
   subst Vu;have h0:=hs;clear hs;obtain⟨gf,cf,qf,f1,f2,f3,f4,f5,f6,f7,f8,UA,XH⟩:=hM.pL (k:=c) (c:=c) be be;have Vd:qf=dF M1 c c:=UA.at_.symm;have XI:=k6 SD Xc c c;rw[<-Vd]at XI h0;have QO:=fh (q0) qf;refine dP (idO 10) ?_;refine⟨⟨gm,0,none⟩,rfl,be,_,fun O J r=>hM.cell r (.inl (by rw[dO];rfl)) UA.outer,⟨gf,0,none⟩,rfl,be,rC f1 f2 f3 f4 f5 f6 f7 f8,rfl,fun O J r j x U=>hM.cell r (by rw[dO,dO];exact XH) (UA.cells j x U),?_⟩;refine cU (J9:=fun _ J v Y=>dH Y (Nf J Y) v (q0*qf)) (fun O J r=>s8 (kW.old r F) (dH.cP (hO.jO r oF) fun _ X=>(⟨Dh X.1,X.2⟩:kW S _ _ _ _ _ _)) (UA.DN.jO r F) be be) ?_;rintro O wa31 v31 wb31 r L hb W;replace V:=V.tr hb;have YW:=W.beside (S0:=fun _=>False) hM r;replace hM:=gL.cS (N:=(wa31.heap.size,wb31.heap.size)::Pp) hM r F L fun x U=>aB _ U;clear r L hb W;generalize (wa31.heap.size,wb31.heap.size)::Pp=iv31 at*
   clear UA XH hO;have hO:=YW;clear YW;obtain⟨N0,N1,N2,N3,N4,N5,N6,N7,rfl⟩:=hO.shape;refine inc c ?_;have Qd:=SD;rw[Vd]at h0
   refine⟨Nat×World×Iv,fun z=>⟨[(5,.o (.v (.slice (some ⟨gm,0,none⟩) n n))),(1,iZ n),(4,pP 0 0),(7,pP 2 0),(30,iZ n),(31,iN c),(8,iN c),(10,iN z.1)],[(2,.box T.eJ [.v (.bool N0),.v (.slice N1 N2 N3),.v (.bool N4),.v (.slice N5 N6 N7)]),(0,.box T.eJ [.v (.bool false),.v nls,.v (.bool false),.v nls])],3,z.2.2,z.2.1⟩,fun z=>n-z.1,
    fun z=>c<z.1/\z.1<=n/\Bq w z.2.1/\gL z.2.1 S w.heap.size z.2.2 gm n n rv1 (fE M1 c z.1)/\dH z.2.1 (kW FF w.heap.size z.2.2 gm n rv1) (.agg #[.bool N0,.slice N1 N2 N3,.bool N4,.slice N5 N6 N7]) (q0*qf),?_,?_⟩
   .intro O J r
    exact⟨(c+1,J,_),⟨bc _,by dsimp only;omega,V.tr r.cZ,by rw[pr _ _ _ lr];exact hM.rel r F,hO.jO r oF⟩,
     sbgn [] r⟩
   clear V hM hO;rintro⟨i,w7,iv⟩ ⟨Us,D,V,hM,hO⟩;dsimp only at Us D V hM hO ⊢;apply bS<;>intro Ou
   .have Ou:=dL Ou;obtain⟨ri,Tz⟩:=gO M1 i;obtain⟨rc,VO⟩:=gO M1 c;have UD:(fE M1 c i)[i]? =some ri:=by rw[lD _ _ _ _ (.inr lr)];exact Tz
    have WZ:(fE M1 c i)[c]? =some rc:=by rw[lD _ _ _ _ (.inl lr)];exact VO
    obtain⟨gi,cd,qd,d1,d2,d3,d4,d5,d6,d7,d8,RE,Qh⟩:=hM.pL (k:=i) (c:=c) be be;obtain⟨gc,ce,qe,e1,e2,e3,e4,e5,e6,e7,e8,SE,Uc⟩:=hM.pL (k:=c) (c:=c) be be;have RU:qd=ri.getD c 0:=by
     rw[<-RE.at_];unfold dF;rw[show (fE M1 c i).getD i []=ri by simp only[List.getD,UD,Option.getD_some]]
    have Tm:qe=dF M1 c c:=by rw[<-SE.at_,r9 (.inl lr)]
    have YX:=Qd.at Tz;have WC:=Qd.at VO;have Qe:=pt YX be c;have Ps:=k6 Qd be c c;rw[<-RU]at Qe;rw[<-Tm]at Ps;have UE:qe≠0:=Tm▸h0;have Q7:=pw qd UE;have VN:=jE (qd / qe);have hvd:=RE.rv;have hve:=SE.rv;refine dP [.x 0,.x 1,.x 2,.x 3,.x 4,.x 5,.x 6,.x 7,.x 8,.x 9,.x 10,.x 11,.x 12,.x 13,.x 14,.x 15,.x 16,.x 17,.x 20,.x 21,.x 22,.x 23,.x 18,.x 19,.x 24] ?_;refine⟨⟨gm,0,none⟩,rfl,be,_,fun O J r=>hM.cell r (.inl (by rw[dO];rfl)) RE.outer,⟨gm,0,none⟩,rfl,be,_,fun O J r=>hM.cell r (.inl (by rw[dO];rfl)) RE.outer,⟨gi,0,none⟩,rfl,be,rC d1 d2 d3 d4 d5 d6 d7 d8,rfl,fun O J r j x U=>hM.cell r (by rw[dO,dO];exact Qh) (RE.cells j x U),⟨gm,0,none⟩,rfl,be,_,fun O J r=>hM.cell r (.inl (by rw[dO];rfl)) SE.outer,⟨gc,0,none⟩,rfl,be,rC e1 e2 e3 e4 e5 e6 e7 e8,rfl,fun O J r j x U=>hM.cell r (by rw[dO,dO];exact Uc) (SE.cells j x U),⟨gm,0,none⟩,rfl,be,_,fun O J r=>hM.cell r (.inl (by rw[dO];rfl)) SE.outer,?_⟩;refine cU (J9:=fun _ J v Y=>dH Y (Nf J Y) v (qd / qe)) (fun O J r=>Lt (kW.old r F) (RE.DN.jO r F) (SE.DN.jO r F) be be UE) ?_;rintro O wa32 v32 wb32 r L hb W;replace V:=V.tr hb;have hB:=W.beside (S0:=S) hM r;replace hM:=gL.cS (N:=(wa32.heap.size,wb32.heap.size)::iv) hM r F L fun x U=>aB _ U;replace hO:=dH.pJ (N:=(wa32.heap.size,wb32.heap.size)::iv) hO r oF L fun x U=>aB _ U;clear r L hb W;generalize (wa32.heap.size,wb32.heap.size)::iv=Xe at*
    clear RE SE Qh Uc;obtain⟨O0,O1,O2,O3,O4,O5,O6,O7,rfl⟩:=hB.shape;refine cU (J9:=fun _ J v Y=>dH Y (Nw (kW S w.heap.size Xe gm n rv1) J Y) v (-(qd / qe))) (fun O J r=>s7 (kW.old r F) (hB.jO r F)) ?_;rintro O wa33 v33 wb33 r L hb W;replace V:=V.tr hb;have Wa:=W.BL hM r;replace hM:=gL.cS (N:=(wa33.heap.size,wb33.heap.size)::Xe) hM r F L fun x U=>aB _ U;replace hO:=dH.pJ (N:=(wa33.heap.size,wb33.heap.size)::Xe) hO r oF L fun x U=>aB _ U;clear r L hb W;generalize (wa33.heap.size,wb33.heap.size)::Xe=iv33 at*
    clear hB;obtain⟨P0,P1,P2,P3,P4,P5,P6,P7,rfl⟩:=Wa.shape;refine⟨fun O J r=>?_⟩;refine(hM.I9 r F mx (Nat.ne_of_gt Us) hvd hve UD WZ Wa (fun q hq=>by have:=YX q hq;omega) (fun q hq=>by have:=WC q hq;omega) be).mono fun e w8 L=>?_;obtain⟨rfl,PF,RP,Qj⟩:=L;have Pf:=(V.tr r.cZ).tr (hM.cZ r PF RP);have Ur:=hO.cR (kW.grown r oF PF RP);replace Ur:=Ur.cP (S':=kW FF w.heap.size ((J.heap.size,w8.heap.size)::iv33) gm n rv1) fun _ X=>⟨X.1.mono fun p hp=>aB _ hp,X.2⟩
    refine⟨.tuple #[],_,(J.heap.size,w8.heap.size)::iv33,rfl,r.pM (fun x U=>Rel.not r (dV _) (hM.rO x (RP x U))) PF,?_⟩;rw[RU,Tm,show rc=M1.getD c [] by rw[List.getD,VO];rfl,r8 Tz Us]at Qj;clear hM hO V PF RP r Wa;generalize (J.heap.size,w8.heap.size)::iv33=RZ at*
    refine inc i ?_;intro I' w3 R
    exact⟨(i+1,w3,_),⟨by dsimp only;omega,Ou,Pf.tr R.cZ,Qj.rel R F,Ur.jO R oF⟩,
     sbgn [] R,by dsimp only;omega⟩
   have Ou:=dE D Ou;rw[Ou]at hM;refine inc c ?_;intro I' w3 R;refine⟨(c+1,(gm,rv1,fE M1 c n,q0*qf),((N0,N4),(N1,N5),(N2,N3,N6,N7)),w3,_),⟨Pk,V.tr R.cZ,hM.rel R F,hO.jO R oF,uu hlen,by dsimp only;rw[Sd];exact Qd.elim Xc h0,by dsimp only;rw[Sd];omega,?_⟩,sbgn [] R,by dsimp only;omega⟩;dsimp only
   rw[<-hD,tO (M:=M1) hlen (aP n) be Pk h0 (aP n),Vd,Rat.mul_assoc]
  have Ow:=dE K Ow;subst Ow;refine tG.mk (fun _=>?_) (fun Ox=>by simp at Ox);refine cQ (cE V (pR dH ((0:Int):Rat)) (fun O J r=>BM 0 J bi bi) ?_);rintro O _ _ _ Pp r L V E W;have hZ:=W.cP (nw r E);clear r L W;obtain⟨T0,T1,T2,T3,T4,T5,T6,T7,rfl⟩:=hZ.shape;intro J8 we re;refine⟨_,rfl,V.tr re.cZ,?_⟩;rw[<-hD,Md Pk hz,bF];exact hZ.out re oF
 have Pk:=dE hc Pk;subst Pk;rw[Ed,Rat.mul_one]at hD;intro J8 we re;refine⟨_,rfl,V.tr re.cZ,?_⟩;rw[<-hD];exact(hO.jO re oF).cP fun g X=>Cv.nw X.1 re
end Go.Ex
namespace Go.Sx
open Go Go.Ex Go.Proofs
variable{O:Nat->Sx.eG}
theorem Sub.trans{B nx:Nat}{l:Env}{J:World}{t t2:B4}(h:Sub B l nx O J t)(k:∀In,Rel t.H t.nx t.iv B t.w In J->Sub B t.l t.nx In J t2):Sub B l nx O J t2:=by
 obtain⟨In,r1,e1⟩:=h;obtain⟨If,r2,e2⟩:=k In r1
 exact⟨If,r2,fun u v hv=>by
  obtain⟨s,v1,g1,d1⟩:=e2 u v hv;obtain⟨_,v0,g0,d0⟩:=e1 u v1 g1
  exact⟨s,v0,g0,d0.trans d1⟩⟩
end Go.Sx
namespace Go.Ex
open Go Go.Sx Go.Proofs
section
variable{M:List (List Rat)}{Z:List Value}{S:Nat->Prop}
section
variable{S:Nat->Prop}{H:Hp}{nx gm Fn:Nat}{iv N:Iv}{B:Nat}{w J Y:World}{O:Nat->Sx.eG}{rv:List Value}{A:List (List Value)}{qs:List Rat}
theorem Fr.jO(h:Fr w (kW S B iv gm Fn rv) A qs)(r:Rel H nx iv B w O J)(F:∀g,S g->g<B):Fr J (kW S B iv gm Fn rv) A qs:=h.cR fun _ X=>rls r F X.1
theorem Fr.pJ(h:Fr w (kW S B iv gm Fn rv) A qs)(r:Rel H nx iv B w O J)(F:∀g,S g->g<B)(L:Ext J Y)(hm:∀p,p∈iv->p∈N):Fr Y (kW S B N gm Fn rv) A qs:=
 ((h.jO r F).cR fun g X=>L.block g (rlo r F g X.1)).cP fun _ X=>⟨X.1.mono hm,X.2⟩
theorem Fr.push(h:Fr w S A qs){q:Rat}(hq:oJ w S Z q):Fr w S (A++[Z]) (qs++[q]):=by
 refine⟨by simp[h.1],fun j c x I G=>?_⟩;rcases aS j A.length with hj|hj
 .rw[aI hj]at I;rw[aI (by rw[<-h.1];exact hj)]at G;exact h.2 j c x I G
 .rw[aN hj]at I;rw[aN (by rw[<-h.1];exact hj),<-h.1]at G;have:j-A.length=0:=by have:=(aE.1 I).1;simp at this;omega
  rw[this]at I G;injection I with I;injection G with G;subst I G;exact hq
end
theorem aAZ{w:World}{vm:Value}{h:Nat}(hS0:Old S w)(Tl:xh w S vm M)(Ov:∀r∈M,r.length=M.length)(hR:M.length<=1000)(Qd:Ht M h)(G:2<=h)(Pm:4^M.length*h<=800000000):
  eH PG GT.xF #[vm] w (eR w fun v' Y=>qU Y (Nf w Y) v' (fk M)):=by
 have V:=bR w;have F:=hS0;obtain⟨am,cm,rfl,SB,Qr⟩:=dI.shape Tl;obtain⟨Fn,Vg⟩:∃Fn,Fn=M.length:=⟨_,rfl⟩
 rw[<-Vg]at SB Qr Ov hR Pm Tl ⊢;unfold maxLen at Qr;refine AZ bv ?_
 refine⟨Fn,Fn,rfl,rfl,lr,be,be,List Value×World×Iv,fun z=>⟨[(0,sV am Fn cm),(3,sV none 0 0),(4,.o (.s 0 0 Fn Fn)),(14,iZ Fn),(15,.o (.v (iV (z.1.length:Nat))))],[(0,.arr T.row (z.1++List.replicate (Fn-z.1.length) nls))],1,z.2.2,z.2.1⟩,fun z=>Fn-z.1.length,
  fun z=>z.1.length<=Fn/\Bq w z.2.1/\jY z.2.1 S w.heap.size z.2.2 z.1 Fn (M.take z.1.length)/\(∀u∈z.1,u.oneCell'=true),?_,?_⟩
 .intro O J r;exact⟨([],J,[]),⟨aR _,V.tr r.cZ,by simpa using jY.nil _ _ _ _ _,bv⟩,sbgn [] r⟩
 clear V;rintro⟨rv,w1,iv⟩ ⟨D,V,hF,h1c⟩;dsimp only at D V hF h1c ⊢;apply bS<;>intro Ou
 .have Ou:rv.length<Fn:=by simpa using Ou
  obtain⟨ra,S6⟩:=gO M rv.length;have Uq:=Ov ra (aC S6);obtain⟨adx,ux,rfl,Qu,Sq,RX⟩:=dI.load Tl S6;obtain⟨aux,cux,rfl,hcux,-⟩:=Qu.shape;refine⟨adx,rfl,be,.slice aux ra.length cux,rd1 RX V (F _ Sq),?_⟩;refine cQ (cU (J9:=fun _ J v Y=>nY Y S v Fn ra/\∀g,v.ownBlock=some g->J.heap.size<=g/\g<Y.heap.size) (fun O J r=>?_) ?_)
  .have:=Ia (w:=J) (oS F r) (oS F r) (Qu.cR fun g X=>(V.tr r.cZ).block g (F g (X.elim id id))) be be;rw[Uq]at this ⊢;exact this
  rintro O Pw v1 Pa r L hb ⟨UZ,R7⟩;have Ry:=hF.snoc r F L (UZ.cP fun g X=>⟨.inl X,fun e=>by have:=F g X;have:=R7 g e;have:=r.dA;omega,fun⟨u,hu,e⟩=>(hF.new u hu g e).elim (fun h=>h.elim) fun h=>by have:=F g X;omega⟩) R7;rw[show M.take rv.length++[ra]=M.take (rv.length+1) by rw[bB,S6];rfl]at Ry;replace V:=V.tr hb;obtain⟨a3,c3,rfl,-⟩:=UZ.form;clear r L hb UZ R7 hF;generalize (Pw.heap.size,Pa.heap.size)::iv=PA at*
  refine⟨be,by simp;omega,(rv++[.slice a3 Fn c3])++List.replicate (Fn-(rv.length+1)) nls,?_,?_⟩
  .have h5:Fn-rv.length=(Fn-(rv.length+1))+1:=by omega
   simp[h5,List.replicate_succ]
  refine⟨((rv.length+1:Nat):Int),wo,?_⟩;intro I' w3 R;have Q7:(rv++[Value.slice a3 Fn c3]).length=rv.length+1:=by simp
  refine⟨(rv++[.slice a3 Fn c3],w3,PA),⟨by dsimp only;rw[Q7];exact Ou,V.tr R.cZ,by dsimp only;rw[Q7];exact Ry.rel R F,fun u hu=>?_⟩,sbgn [] R ⟨by dsimp only;rw[Q7];rfl,trivial⟩ ⟨rfl,rfl,rfl,rfl,by dsimp only;rw[Q7];rfl,trivial⟩,by dsimp only;rw[Q7];omega⟩;rcases bG.1 hu with hu|hu
  .exact h1c u hu
  .simp at hu;subst hu;rfl
 have Ou:rv.length=Fn:=Nat.le_antisymm D (by simpa using Ou);rw[Ou,bH be]at hF;rw[Ou,bO,List.replicate_zero,List.append_nil];refine cQ (cU (J9:=fun _ J v Y=>dH Y (Nf J Y) v ((1:Int):Rat)) (fun O J r=>BM 1 J bi bi) ?_);rintro O Pw v1 Pa r L hb W;replace V:=V.tr hb;have hO:=W.lim (rv:=rv) r fun u hu g X=>hF.new u hu g X;replace hF:jY Pa S w.heap.size ((Pw.heap.size,Pa.heap.size)::iv) rv Fn M:=hF.cS r F L fun x U=>aB _ U;clear r L hb W;generalize (Pw.heap.size,Pa.heap.size)::iv=PA at*
 obtain⟨A0,A1,A2,A3,A4,A5,A6,A7,rfl⟩:=hO.shape;rw[show ((1:Int):Rat)=1 by decide]at hO
 refine⟨Nat×(Nat×List Value×List (List Rat)×Rat)×List (List Value)×((Bool×Bool)×(Option Addr×Option Addr)×(Nat×Nat×Nat×Nat))×World×Iv,fun z=>⟨[(4,.o (.v (.slice (some ⟨z.2.1.1,0,none⟩) Fn Fn))),(3,.o (.w 2 z.2.2.1.length)),(0,sV am Fn cm),(6,pP 1 0),(29,iZ Fn),(30,iN z.1)],[(2,.vec T.eJ 4 z.2.2.1.flatten),(1,.box T.eJ [.v (.bool z.2.2.2.1.1.1),.v (.slice z.2.2.2.1.2.1.1 z.2.2.2.1.2.2.1 z.2.2.2.1.2.2.2.1),.v (.bool z.2.2.2.1.1.2),.v (.slice z.2.2.2.1.2.1.2 z.2.2.2.1.2.2.2.2.1 z.2.2.2.1.2.2.2.2.2)])],3,z.2.2.2.2.2,z.2.2.2.2.1⟩,fun z=>Fn-z.1,
  fun z=>z.1<=Fn/\Bq w z.2.2.2.2.1/\gL z.2.2.2.2.1 S w.heap.size z.2.2.2.2.2 z.2.1.1 Fn Fn z.2.1.2.1 z.2.1.2.2.1/\dH z.2.2.2.2.1 (kW FF w.heap.size z.2.2.2.2.2 z.2.1.1 Fn z.2.1.2.1) (.agg #[.bool z.2.2.2.1.1.1,.slice z.2.2.2.1.2.1.1 z.2.2.2.1.2.2.1 z.2.2.2.1.2.2.2.1,.bool z.2.2.2.1.1.2,.slice z.2.2.2.1.2.1.2 z.2.2.2.1.2.2.2.2.1 z.2.2.2.1.2.2.2.2.2]) z.2.1.2.2.2/\Fr z.2.2.2.2.1 (kW FF w.heap.size z.2.2.2.2.2 z.2.1.1 Fn z.2.1.2.1) z.2.2.1 ((fk M).take z.1)/\fz Fn z.2.1.2.2.1/\Ht z.2.1.2.2.1 (4^z.1*h)/\rl z.2.1.2.2.2<=4^z.1*h/\∀k,z.1<=k->k<=Fn->z.2.1.2.2.2*lC z.2.1.2.2.1 z.1 k=lC M 0 k,?_,?_⟩
 .intro O J r;have PK:=r.nn 0 _ rfl (by intros;simp) bv;have hG:=hF.pK r F (id:=0) rfl PK mx h1c;rw[Ou]at hG
  refine⟨(0,((O 0).g,rv,M,1),[],((A0,A4),(A1,A5),(A2,A3,A6,A7)),J,((O 0).g,(O 0).g+1)::PA),⟨aR _,V.tr r.cZ,hG,(hO.cR fun g X=>rls r oF X.1).cP fun g X=>⟨X.1.mono fun p hp=>aB _ hp,fun hm=>?_⟩,by simp[Fr],Ov,by rw[Nat.pow_zero,Nat.one_mul];exact Qd,by rw[GN,Nat.pow_zero];omega,fun k _ _=>bs _⟩,
   Sub.trans (Sub.pK (tl:=[(3,sV none 0 0),(0,sV am Fn cm),(6,pP 1 0),(29,iZ Fn),(30,iN 0)]) (tH:=[(1,.box T.eJ [.v (.bool A0),.v (.slice A1 A2 A3),.v (.bool A4),.v (.slice A5 A6 A7)])]) r (id:=0) (t:=4) rfl rfl ⟨rfl,trivial⟩ rfl ⟨rfl,rfl,rfl,rfl,rfl,trivial⟩ (by simp[kK,SV.sc,At.sc])) fun In r1=>
    Sub.nil 3 T.eJ 4 rfl (by simp[kK,SV.sc,At.sc]) r1 fun If r2=>sbgn [] r2⟩
  rcases hm with hm|⟨u,hu,hm⟩
  .injection hm with hm;exact Rel.not r oF X.1 0 _ rfl PK hm
  .exact X.2 ⟨u,hu,hm⟩
 clear V hF hO Ou D h1c;rintro⟨c,⟨gm,rv1,M1,q0⟩,A,⟨⟨p0,p4⟩,⟨p1,p5⟩,⟨p2,p3,p6,p7⟩⟩,w1,iv⟩ ⟨hc,V,hM,hO,hC,hlen,SD,Ss,hD⟩;dsimp only at hc V hM hO hC hlen SD Ss hD ⊢;have PM:=eP hC.ma;have hmf:=k7 M;have QW:A.length=c:=by rw[hC.1,ah];omega
 rw[QW]at PM;apply bS<;>intro Pk
 .have Pk:=dL Pk;have hHb:4^(c+1)*h<=800000000:=aX (Nat.mul_le_mul_right _ (Nat.pow_le_pow_right bi Pk)) Pm;have Sd:4^(c+1)*h=4*(4^c*h):=by rw[Nat.pow_succ,bl (4^c) 4,bz]
  have Xc:2<=4^c*h:=aX G (Nat.le_mul_of_pos_left _ (Nat.pow_pos bi));rw[Sd]at hHb;obtain⟨hh,hhe⟩:∃x,x=4^c*h:=⟨_,rfl⟩
  rw[<-hhe]at SD Ss Xc hHb Sd;have hM1l:=hM.len;obtain⟨gk,cd,qd,d1,d2,d3,d4,d5,d6,d7,d8,RE,Qh⟩:=hM.pL (k:=c) (c:=c) be be;refine⟨⟨gm,0,none⟩,rfl,be,_,fun O J r=>hM.cell r (.inl (by rw[dO];rfl)) RE.outer,⟨gk,0,none⟩,rfl,be,rC d1 d2 d3 d4 d5 d6 d7 d8,rfl,fun O J r j x U=>hM.cell r (by rw[dO,dO];exact Qh) (RE.cells j x U),?_⟩;have RU:=RE.at_;refine cQ (cE V (pE (iV (rs qd))) (fun O J r=>tX (kW.old r F) (RE.DN.jO r F)) ?_);rintro O _ _ _ Pp r L V E rfl;replace hM:=gL.cS hM r F L (mC E);replace hO:=dH.pJ hO r oF L (mC E);replace hC:=Fr.pJ hC r oF L (mC E);clear r L;clear RE Qh;apply bS<;>intro hs
  .clear hs RU
   refine⟨((c+1:Nat):Int),wo,Nat×List (List Value)×World×Iv,fun z=>⟨[(3,.o (.w 2 z.2.1.length)),(0,sV am Fn cm),(8,iN z.1)],[(2,.vec T.eJ 4 z.2.1.flatten)],3,z.2.2.2,z.2.2.1⟩,fun z=>Fn+1-z.1,
    fun z=>c<z.1/\z.1<=Fn+1/\Bq w z.2.2.1/\Fr z.2.2.1 (Cf w z.2.2.2) z.2.1 ((fk M).take (z.1-1)),?_,?_⟩
   .intro O J r;exact⟨(c+1,A,J,_),⟨bc _,by dsimp only;omega,V.tr r.cZ,by dsimp only;rw[Nat.add_sub_cancel];exact(Fr.jO hC r oF).cP fun g X=>X.1⟩,sbgn [] r⟩
   clear V hM hO hC PM QW;rintro⟨k,A,Y,iv⟩ ⟨Th,K,V,hC⟩;dsimp only at Th K V hC ⊢;have PM:=eP hC.ma;have QW:A.length=k-1:=by rw[hC.1,ah];omega
   apply bS<;>intro Ow
   .have Ow:k<=Fn:=by have:(k:Int)<=Fn:=(by simpa using Ow);omega
    refine cQ (cE V (pR dH (lC M 0 k)) (fun O J r=>aDa (h:=h) (oS F r) (nZ.cR Tl ((kS V r F))) Ov Ow be be Qd G (aX (Nat.mul_le_mul_right _ (Nat.pow_le_pow_right bi Ow)) Pm)) ?_);rintro O _ _ Se R8 r L V E W;replace hC:=hC.cS r oF L (mC E);have hd:=W.cP (nw r E);clear r L W;obtain⟨C0,C1,C2,C3,C4,C5,C6,C7,rfl⟩:=hd.shape;have TH:Fr Se (Cf w R8) (A++[rC C0 C1 C2 C3 C4 C5 C6 C7]) ((fk M).take k):=by
     obtain⟨d,rfl⟩:∃d,k=d+1:=⟨k-1,be⟩
     rw[bB,l7 be];exact hC.push hd.four
    have QI:A.flatten++(rC C0 C1 C2 C3 C4 C5 C6 C7:List Value)=(A++([rC C0 C1 C2 C3 C4 C5 C6 C7]:List (List Value))).flatten:=by simp
    clear hC hd;refine .inl ?_;refine⟨be,be,mx,((k+1:Nat):Int),wo,?_⟩;intro I' w3 R;exact⟨(k+1,A++[rC C0 C1 C2 C3 C4 C5 C6 C7],w3,_),⟨by dsimp only;omega,by dsimp only;omega,V.tr R.cZ,by dsimp only;rw[Nat.add_sub_cancel];exact TH.rel R oF⟩,sbgn [(2,4)] R ⟨by dsimp only;rw[<-QI];rfl,trivial⟩ ⟨by dsimp only;rw[l1];rfl,rfl,rfl,trivial⟩,by dsimp only;omega⟩
   have Ow:k=Fn+1:=by have:¬(k:Int)<=Fn:=(by simpa using Ow);omega
   intro J8 we re;refine⟨_,rfl,V.tr re.cZ,?_⟩;have h5:=re.iD (id:=2) (sz:=4) (m:=A.length) rfl PM mx bi hC.one;have h6:=hC.rel re oF;rw[bH be]at h6;refine⟨A,?_,h6.cP fun _ X=>Cv.nw X re⟩;rw[<-h6.1];exact h5.cP fun g X=>.inr X
  have h0:dF M1 c c≠0:=fun e=>by rw[<-RU,lV.2 e]at hs;simp at hs
  clear hs RU;obtain⟨gf,cf,qf,f1,f2,f3,f4,f5,f6,f7,f8,UA,XH⟩:=hM.pL (k:=c) (c:=c) be be;have Vd:qf=dF M1 c c:=UA.at_.symm;have XI:=k6 SD Xc c c;rw[<-Vd]at XI h0;have QO:=fh q0 qf;refine dP (idO 10) ?_;refine⟨⟨gm,0,none⟩,rfl,be,_,fun O J r=>hM.cell r (.inl (by rw[dO];rfl)) UA.outer,⟨gf,0,none⟩,rfl,be,rC f1 f2 f3 f4 f5 f6 f7 f8,rfl,fun O J r j x U=>hM.cell r (by rw[dO,dO];exact XH) (UA.cells j x U),?_⟩;refine cU (J9:=fun _ J v Y=>dH Y (Nf J Y) v (q0*qf)) (fun O J r=>s8 (kW.old r F) (dH.cP (hO.jO r oF) fun _ X=>(⟨Dh X.1,X.2⟩:kW S _ _ _ _ _ _)) (UA.DN.jO r F) be be) ?_;rintro O R9 v12 Rs r L hb W;replace V:=V.tr hb;have YW:=W.beside (S0:=fun _=>False) hM r;replace hM:=gL.cS (N:=(R9.heap.size,Rs.heap.size)::Pp) hM r F L fun x U=>aB _ U;replace hC:=Fr.pJ (N:=(R9.heap.size,Rs.heap.size)::Pp) hC r oF L fun x U=>aB _ U;clear r L hb W;generalize (R9.heap.size,Rs.heap.size)::Pp=Wb at*
  clear UA XH hO;have hO:=YW;clear YW;obtain⟨F0,F1,F2,F3,F4,F5,F6,F7,rfl⟩:=hO.shape;have SF:q0*qf=lC M 0 (c+1):=by
   rw[<-hD (c+1) be be,tO (M:=M1) hlen (n:=c+1) be be be (Vd▸h0) lr,Ed,Rat.mul_one,Vd]
  obtain⟨Vh,hcss⟩:∃x,x=A++[rC F0 F1 F2 F3 F4 F5 F6 F7]:=⟨_,rfl⟩
  have TH:=hC.push hO.four;rw[<-hcss,SF,show(fk M).take c++[lC M 0 (c+1)]=(fk M).take (c+1) by rw[bB,l7 be];rfl]at TH;have QI:A.flatten++(rC F0 F1 F2 F3 F4 F5 F6 F7:List Value)=Vh.flatten:=by rw[hcss];simp
  have SG:Vh.length=A.length+1:=by rw[hcss];simp
  clear hC;have hC:=TH;clear TH;refine .inl ?_;refine⟨be,be,mx,((c+1:Nat):Int),wo,?_⟩;have Qd:=SD;rw[Vd]at h0
  refine⟨Nat×World×Iv,fun z=>⟨[(4,.o (.v (.slice (some ⟨gm,0,none⟩) Fn Fn))),(3,.o (.w 2 Vh.length)),(0,sV am Fn cm),(6,pP 1 0),(29,iZ Fn),(30,iN c),(7,iN c),(9,iN z.1)],[(2,.vec T.eJ 4 Vh.flatten),(1,.box T.eJ [.v (.bool F0),.v (.slice F1 F2 F3),.v (.bool F4),.v (.slice F5 F6 F7)])],3,z.2.2,z.2.1⟩,fun z=>Fn-z.1,
   fun z=>c<z.1/\z.1<=Fn/\Bq w z.2.1/\gL z.2.1 S w.heap.size z.2.2 gm Fn Fn rv1 (fE M1 c z.1)/\dH z.2.1 (kW FF w.heap.size z.2.2 gm Fn rv1) (.agg #[.bool F0,.slice F1 F2 F3,.bool F4,.slice F5 F6 F7]) (q0*qf)/\Fr z.2.1 (kW FF w.heap.size z.2.2 gm Fn rv1) Vh ((fk M).take (c+1)),?_,?_⟩
  .intro O J r
   exact⟨(c+1,J,_),⟨bc _,by dsimp only;omega,V.tr r.cZ,by rw[pr _ _ _ lr];exact hM.rel r F,hO.jO r oF,Fr.jO hC r oF⟩,
    sbgn [(2,4)] r ⟨by rw[<-QI];rfl,rfl,trivial⟩ ⟨rfl,by rw[SG];rfl,rfl,rfl,rfl,rfl,rfl,rfl,trivial⟩⟩
  clear V hM hO hC;rintro⟨i,w7,iv⟩ ⟨Us,D,V,hM,hO,hC⟩;dsimp only at Us D V hM hO hC ⊢;apply bS<;>intro Ou
  .have Ou:=dL Ou;obtain⟨ri,Tz⟩:=gO M1 i;obtain⟨rc,VO⟩:=gO M1 c;have UD:(fE M1 c i)[i]? =some ri:=by rw[lD _ _ _ _ (.inr lr)];exact Tz
   have WZ:(fE M1 c i)[c]? =some rc:=by rw[lD _ _ _ _ (.inl lr)];exact VO
   obtain⟨gi,cd,qd,d1,d2,d3,d4,d5,d6,d7,d8,RE,Qh⟩:=hM.pL (k:=i) (c:=c) be be;obtain⟨gc,ce,qe,e1,e2,e3,e4,e5,e6,e7,e8,SE,Uc⟩:=hM.pL (k:=c) (c:=c) be be;have RU:qd=ri.getD c 0:=by
    rw[<-RE.at_];unfold dF;rw[show (fE M1 c i).getD i []=ri by simp only[List.getD,UD,Option.getD_some]]
   have Tm:qe=dF M1 c c:=by rw[<-SE.at_,r9 (.inl lr)]
   have YX:=Qd.at Tz;have WC:=Qd.at VO;have Qe:=pt YX be c;have Ps:=k6 Qd be c c;rw[<-RU]at Qe;rw[<-Tm]at Ps;have UE:qe≠0:=Tm▸h0;have Q7:=pw qd UE;have VN:=jE (qd / qe);have hvd:=RE.rv;have hve:=SE.rv;refine dP [.x 0,.x 1,.x 2,.x 3,.x 4,.x 5,.x 6,.x 7,.x 8,.x 9,.x 10,.x 11,.x 12,.x 13,.x 14,.x 15,.x 16,.x 17,.x 20,.x 21,.x 22,.x 23,.x 18,.x 19,.x 24] ?_;refine⟨⟨gm,0,none⟩,rfl,be,_,fun O J r=>hM.cell r (.inl (by rw[dO];rfl)) RE.outer,⟨gm,0,none⟩,rfl,be,_,fun O J r=>hM.cell r (.inl (by rw[dO];rfl)) RE.outer,⟨gi,0,none⟩,rfl,be,rC d1 d2 d3 d4 d5 d6 d7 d8,rfl,fun O J r j x U=>hM.cell r (by rw[dO,dO];exact Qh) (RE.cells j x U),⟨gm,0,none⟩,rfl,be,_,fun O J r=>hM.cell r (.inl (by rw[dO];rfl)) SE.outer,⟨gc,0,none⟩,rfl,be,rC e1 e2 e3 e4 e5 e6 e7 e8,rfl,fun O J r j x U=>hM.cell r (by rw[dO,dO];exact Uc) (SE.cells j x U),⟨gm,0,none⟩,rfl,be,_,fun O J r=>hM.cell r (.inl (by rw[dO];rfl)) SE.outer,?_⟩;refine cU (J9:=fun _ J v Y=>dH Y (Nf J Y) v (qd / qe)) (fun O J r=>Lt (kW.old r F) (RE.DN.jO r F) (SE.DN.jO r F) be be UE) ?_;rintro O Su v13 TV r L hb W;replace V:=V.tr hb;have hB:=W.beside (S0:=S) hM r;replace hM:=gL.cS (N:=(Su.heap.size,TV.heap.size)::iv) hM r F L fun x U=>aB _ U;replace hO:=dH.pJ (N:=(Su.heap.size,TV.heap.size)::iv) hO r oF L fun x U=>aB _ U;replace hC:=Fr.pJ (N:=(Su.heap.size,TV.heap.size)::iv) hC r oF L fun x U=>aB _ U;clear r L hb W;generalize (Su.heap.size,TV.heap.size)::iv=Sf at*
   clear RE SE Qh Uc;obtain⟨J0,J1,J2,J3,J4,J5,J6,J7,rfl⟩:=hB.shape;refine cU (J9:=fun _ J v Y=>dH Y (Nw (kW S w.heap.size Sf gm Fn rv1) J Y) v (-(qd / qe))) (fun O J r=>s7 (kW.old r F) (hB.jO r F)) ?_;rintro O Xf v14 Xg r L hb W;replace V:=V.tr hb;have Wa:=W.BL hM r;replace hM:=gL.cS (N:=(Xf.heap.size,Xg.heap.size)::Sf) hM r F L fun x U=>aB _ U;replace hO:=dH.pJ (N:=(Xf.heap.size,Xg.heap.size)::Sf) hO r oF L fun x U=>aB _ U;replace hC:=Fr.pJ (N:=(Xf.heap.size,Xg.heap.size)::Sf) hC r oF L fun x U=>aB _ U;clear r L hb W;generalize (Xf.heap.size,Xg.heap.size)::Sf=Vi at*
   clear hB;obtain⟨K0,K1,K2,K3,K4,K5,K6,K7,rfl⟩:=Wa.shape;refine⟨fun O J r=>?_⟩;refine(hM.I9 r F mx (Nat.ne_of_gt Us) hvd hve UD WZ Wa (fun q hq=>by have:=YX q hq;omega) (fun q hq=>by have:=WC q hq;omega) be).mono fun e w8 L=>?_;obtain⟨rfl,PF,RP,Qj⟩:=L;have Pf:=(V.tr r.cZ).tr (hM.cZ r PF RP);have Ur:=hO.cR (kW.grown r oF PF RP);replace Ur:=Ur.cP (S':=kW FF w.heap.size ((J.heap.size,w8.heap.size)::Vi) gm Fn rv1) fun _ X=>⟨X.1.mono fun p hp=>aB _ hp,X.2⟩
   have TH:=(hC.cR (kW.grown r oF PF RP)).cP (S':=kW FF w.heap.size ((J.heap.size,w8.heap.size)::Vi) gm Fn rv1) fun _ X=>⟨X.1.mono fun p hp=>aB _ hp,X.2⟩
   refine⟨.tuple #[],_,(J.heap.size,w8.heap.size)::Vi,rfl,r.pM (fun x U=>Rel.not r (dV _) (hM.rO x (RP x U))) PF,?_⟩;rw[RU,Tm,show rc=M1.getD c [] by rw[List.getD,VO];rfl,r8 Tz Us]at Qj;clear hM hO V PF RP r Wa hC;generalize (J.heap.size,w8.heap.size)::Vi=RZ at*
   refine inc i ?_;intro I' w3 R
   exact⟨(i+1,w3,_),⟨by dsimp only;omega,Ou,Pf.tr R.cZ,Qj.rel R F,Ur.jO R oF,Fr.jO TH R oF⟩,
    sbgn [] R,by dsimp only;omega⟩
  have Ou:=dE D Ou;rw[Ou]at hM;refine inc c ?_;intro I' w3 R;refine⟨(c+1,(gm,rv1,fE M1 c Fn,q0*qf),Vh,((F0,F4),(F1,F5),(F2,F3,F6,F7)),w3,_),⟨Pk,V.tr R.cZ,hM.rel R F,hO.jO R oF,Fr.jO hC R oF,uu hlen,by dsimp only;rw[Sd];exact Qd.elim Xc h0,by dsimp only;rw[Sd];omega,fun k h3 h4=>?_⟩,sbgn [] R,by dsimp only;omega⟩;dsimp only at h3 ⊢;rw[<-hD k be h4,tO (M:=M1) hlen h4 be h3 h0 h4,Vd,Rat.mul_assoc]
 have Pk:=dE hc Pk;replace hC:=hC.cP (S':=Cf w iv) fun g X=>X.1;rw[<-QW]at PM;intro J8 we re;refine⟨_,rfl,V.tr re.cZ,?_⟩;have h5:=re.iD (id:=2) (sz:=4) (m:=A.length) rfl PM mx bi hC.one;have h6:=hC.rel re oF;rw[bH be]at h6;refine⟨A,?_,h6.cP fun _ X=>Cv.nw X re⟩;rw[<-h6.1];exact h5.cP fun g X=>.inr X
end
variable{Z:List Value}{O:Nat->Sx.eG}
inductive Tp where
 |nil
 |x (i:Nat) (t:Tp)
 |two (i:Nat) (t:Tp) (j:Nat) (u:Tp)
 |pK (id:Nat) (t:Tp)
section
variable{P:Program}{τ:og}{ops:Array Oper}{B n nx:Nat}{l:Env}{H:Hp}{iv:Iv}{w J:World}{O:Nat->Sx.eG}{a:Act}
end
theorem xn{l tl:Env}{nx t id n:Nat}(W:(O id).nil=false)(ht:gK l t=some (.o (.w id n)))(I:H5 l tl)(G:kK nx tl):∀u v,gK ((t,.o (.v (.slice (some ⟨(O id).g,0,none⟩) n (O id).cap)))::tl) u=some v->v.sc nx/\∃v',gK l u=some v'/\v'.den O=v.den O:=fun u v hv=>by
 rw[fQ]at hv;split at hv
 .rename_i e;subst e;injection hv with hv;subst hv;exact⟨trivial,_,ht,by simp[SV.den,At.den,W]⟩
 .exact⟨G.get u v hv,v,I.get u v hv,rfl⟩
theorem aBy{H:Hp}{nx:Nat}{iv:Iv}{B:Nat}{w J:World}(r:Rel H nx iv B w O J){id t m sz:Nat}(h:dU H id=some (.vec t sz Z))(hm:Z.length=m*sz)(S9:m<=maxLen)(hs:0<sz)(h0:0<m)(I:∀u∈Z,u.oneCell'=true):
  (O id).nil=false/\B<=(O id).g/\j1 J (fun g=>g=(O id).g) sz (.slice (some ⟨(O id).g,0,none⟩) m (O id).cap) Z m:=by
 rcases r.vec id t sz _ h with⟨W,rfl⟩|⟨W,spare,hb,hc,Qt⟩
 .have:=Nat.mul_pos h0 hs;simp at hm;omega
 .refine⟨W,(r.low id _ h W).1,S9,hm,I,some ⟨(O id).g,0,none⟩,(O id).cap,rfl,?_,fun j x U=>⟨_,rfl,rfl,?_⟩⟩
  .have I:(Z++spare).length=Z.length+spare.length:=aQ;have G:m*sz<=(O id).cap*sz:=by omega
   exact cL G hs
  .rw[dX,cell_of hb,aW,aI (aE.1 U).1];exact U
end Go.Ex
namespace Go.Ex
section
variable{M:List (List Rat)}{b:List Rat}{n:Nat}
def eU(M:List (List Rat))(b:List Rat):List (List Rat):=M.mapIdx fun i r=>r++[b.getD i 0]
theorem j4(hl:fz n M):fz (n+1) (eU M b):=fun r hr=>by
 obtain⟨i,D⟩:=aU hr;unfold eU at D;rw[List.getElem?_mapIdx]at D
 cases U:M[i]? with
 |none=>rw[U]at D;cases D
 |some x=>
  rw[U]at D;injection D with D;subst D;rw[aQ,hl x (aC U)];rfl
theorem fH:(eU M b).length=M.length:=by simp[eU]
end
end Go.Ex
namespace Go.Ex
open Go Go.Sx Go.Proofs
variable{GE M:List (List Rat)}{xs:List Rat}{rv:List Value}{k:Nat}{S:Nat->Prop}{q:Rat}{v:Value}{w:World}
theorem ix.cP{S':Nat->Prop}(h:ix w S rv GE)(K:∀g,S g->S' g):ix w S' rv GE:=⟨h.1,h.2.1,fun i u x I G=>dK.cP (h.2.2 i u x I G) K⟩
theorem ix.push{u:Value}{x:List Rat}(h:ix w S rv GE)(hu:u.oneCell'=true)(U:dK w S u x):ix w S (rv++[u]) (GE++[x]):=by
 refine⟨by simp[h.1],fun v hv=>?_,fun i v y I G=>?_⟩
 .rcases bG.1 hv with hv|hv
  .exact h.2.1 v hv
  .simp at hv;subst hv;exact hu
 .rcases aS i rv.length with D|D
  .rw[aI D]at I;rw[aI (by rw[<-h.1];exact D)]at G;exact h.2.2 i v y I G
  .have Rr:i=rv.length:=by have:=(aE.1 I).1;simp at this;omega
   subst Rr;rw[aN lr,bO]at I;rw[h.1,aN lr,bO]at G;simp at I G;subst I G;exact U
def xl(w:World)(S:Nat->Prop)(B:Nat)(v:Value)(xs:List Rat):Prop:=∃A:List (List Value),A.length=xs.length/\(∀Z∈A,Z.length=4)/\w.ownsRow B T.Rat 4 v xs.length A.flatten/\(∀u∈A.flatten,u.oneCell'=true)/\∀(j:Nat) Z q,A[j]? =some Z->xs[j]? =some q->mI w S Z q
section
variable{S:Nat->Prop}{H:Hp}{nx:Nat}{iv0:Iv}{B:Nat}{w J Y:World}{O:Nat->Sx.eG}{v:Value}{xs:List Rat}
theorem xl.nil:xl w S B nls []:=⟨[],rfl,bv,⟨rfl,.inl ⟨rfl,rfl⟩⟩,bv,bv⟩
theorem xl.shape(h:xl w S B v xs):∃a c,v= .slice a xs.length c:=by
 obtain⟨A,I,G,h3,-⟩:=h;obtain⟨a,c,h,_⟩:=ie h3;exact⟨a,c,h⟩
theorem xl.le(h:xl w S B v xs):xs.length<=maxLen:=by
 obtain⟨A,I,G,h3,-⟩:=h;rcases h3.2 with⟨_,h0⟩|⟨_,_,_,_,_,_,I,G,_⟩
 .omega
 .omega
theorem xl.rel(h:xl w S B v xs)(r:Rel H nx (jb v++iv0) B w O J)(F:∀g,S g->g<B):xl J S B v xs:=by
 obtain⟨A,I,G,h3,h4,h5⟩:=h;exact⟨A,I,G,jZ h3 ((Ge.row v).mono fun p hp=>List.mem_append_left _ hp) r,h4,fun j Z q k1 k2=>(h5 j Z q k1 k2).cR fun g X=>r.cZ.block g (F g X)⟩
theorem NB{v':Value}(r:Rel H nx (jb v++iv0) B w O J)(PR:J.heap.size<=Y.heap.size)(Rg:∀g,v'.ownBlock=some g->g<Y.heap.size/\(v.ownBlock=some g\/g=J.heap.size)):
  ∀lo D,(lo,D)∈jb v'++iv0->D<=Y.heap.size/\∀id b,dU H id=some b->(O id).nil=false->¬(lo<=(O id).g/\(O id).g<D):=fun lo D hm=>by
 rcases bG.1 hm with hm|hm
 .obtain⟨X,rfl⟩:=tY.1 hm;obtain⟨I,G⟩:=Rg _ X;refine⟨be,fun id c hc W L=>?_⟩;rcases G with G|G
  .exact((Ge.row v).mono fun p hp=>List.mem_append_left _ hp).not r G id c hc W be
  .have:=(r.low id c hc W).2;omega
 .have UH:=List.mem_append_right (jb v) hm;exact⟨by have:=r.tI lo D UH;have:=r.size;omega,fun id b hb W=>r.mA lo D UH id b hb W⟩
theorem xl.read(h:xl w S B v xs):dK w (Cv S B (jb v++iv0)) v xs:=by
 have hle:=h.le;obtain⟨A,I,G,h3,h4,h5⟩:=h;have PM:=eP G;refine⟨A,?_,I,G,fun j Z q k1 k2=>(h5 j Z q k1 k2).cP fun _ X=>.inl X⟩;rcases h3.2 with⟨rfl,h0⟩|⟨g,cap,cur,rfl,hb,hc,WN,Qt,PR,Rq⟩
 .refine⟨hle,by rw[PM,I],h4,none,0,by rw[h0],be,fun j u hu=>?_⟩;have h6:A=[]:=List.eq_nil_of_length_eq_zero be;rw[h6]at hu
  cases hu
 .refine⟨hle,by rw[PM,I],h4,_,cap,rfl,WN,fun j u hu=>⟨_,rfl,.inr ⟨hb,g,g+1,List.mem_append_left _ (tY.2 ⟨rfl,rfl⟩),lr,bc _⟩,?_⟩⟩;exact h3.cells (g:=g) rfl j u hu
end
def kG(M:List (List Rat))(n k i:Nat):List (List Rat):=(List.range i).map fun r=>(List.range n).map fun j=>dF M (r+1) (skip k j)
def kR(M:List (List Rat))(r k c:Nat):List Rat:=(List.range (if c<=k then c else c-1)).map fun j=>dF M r (skip k j)
theorem NC(M:List (List Rat))(r k c:Nat):(kR M r k c).length=if c<=k then c else c-1:=by simp[kR]
theorem KI{r:Nat}:kR M r k (k+1)=kR M r k k:=by
 unfold kR;rw[aJ be,aM lr,Nat.add_sub_cancel]
theorem KJ{r c:Nat}(h:c≠k):kR M r k (c+1)=kR M r k c++[dF M r c]:=by
 unfold kR;rcases aS c k with I|I
 .rw[aM be,aM be,bU,a9];simp[skip,I]
 .obtain⟨d,rfl⟩:∃d,c=d+1:=⟨c-1,be⟩
  rw[aJ be,aJ be,Nat.add_sub_cancel,Nat.add_sub_cancel,bU,a9];simp[skip,show ¬d<k by omega]
theorem ND{n r:Nat}(h:k<n+1):kR M r k (n+1)=(List.range n).map fun j=>dF M r (skip k j):=by
 unfold kR;rw[aJ be,Nat.add_sub_cancel]
theorem qV(M:List (List Rat))(n k i:Nat):(kG M n k i).length=i:=by simp[kG]
theorem Ic{n i:Nat}:kG M n k (i+1)=kG M n k i++[(List.range n).map fun j=>dF M (i+1) (skip k j)]:=by
 unfold kG;rw[bU,a9];rfl
theorem NF{n i j:Nat}(D:i<n)(hj:j<n):dF (kG M n k n) i j=dF M (i+1) (skip k j):=by
 unfold dF kG;simp[List.getD,bY D,bY hj];rfl
theorem KK{n i:Nat}:∀r∈kG M n k i,r.length=n:=fun r hr=>by
 obtain⟨x,_,rfl⟩:=aV.1 hr;simp
theorem NG{n i h:Nat}(H:Ht M h)(G:2<=h):Ht (kG M n k i) h:=fun r hr q hq=>by
 obtain⟨x,_,rfl⟩:=aV.1 hr;obtain⟨j,_,rfl⟩:=aV.1 hq;exact k6 H G _ _
def ll(h:Nat):Nat->Nat
 |0=>2
 |n+1=>(n+1)*(h+ll h n+2)+2
theorem Lu(h n:Nat):h+ll h n+4<=ll h (n+1):=by
 show _<=(n+1)*(h+ll h n+2)+2;have:=Nat.mul_le_mul_right (h+ll h n+2) (show 1<=n+1 by omega);omega
theorem xm{f:Nat->Rat}{b:Nat}:∀n,(∀k,k<n->rl (f k)<=b)->rl (dC f n)<=n*(b+1)+2
 |0,_=>by show rl 0<=_;exact aX (by decide:rl 0<=2) (Nat.le_add_left ..)
 |n+1,h=>by
  have I:=xm n fun k K=>h k be;have G:=h n be;have h3:=lE (dC f n) (f n);show rl (dC f n+f n)<=_;rw[Nat.add_mul,Nat.one_mul];omega
theorem aA0(k:Nat)(x:Rat):rl (l6 k*x)=rl x:=by
 unfold l6;split
 .rw[show (-1:Rat)*x= -x by grind,jE]
 .rw[bs]
theorem Gf{h:Nat}(G:2<=h):∀(n:Nat) (m:Mx),(∀i j,i<n->j<n->rl (m i j)+1<=h)->rl (eO n m)<=ll h n
 |0,_,_=>by show rl 1<=2;decide
 |n+1,m,H=>by
  unfold eO ll;refine aX (xm (b:=h+ll h n) _ fun k K=>?_) ?_
  .have h3:=Gf G n (fun i j=>m (i+1) (skip k j)) fun i j D hj=>H _ _ be (Fw hj);have h4:=H 0 k be K;have h5:=fh (m 0 k) (eO n fun i j=>m (i+1) (skip k j));rw[aA0];omega
  .exact Nat.add_le_add_right (bX _ be) 2
theorem NH{h:Nat}{n m:Nat}(hm:n<=m):ll h n<=ll h m:=by
 induction hm with
 |refl=>exact aP _
 | @step m _ ih=>exact aX ih (by have:=Lu h m;show ll h m<=ll h (m+1);omega)
theorem aA1{h:Nat}(G:2<=h):∀(n:Nat) {S:Nat->Prop} {w:World} {vm:Value} {M:List (List Rat)},Old S w->fT w S vm M->n<=M.length->(∀r∈M,n<=r.length)->Ht M h->n<=1000->ll h n<=90000->
  eH PG GT.FC #[vm,iV ((n:Nat):Int)] w (eR w fun v' Y=>cY Y (Nf w Y) v' (eO n (dF M)))
 |0,S,w,vm,M,_,_,_,_,_,_,_=>by
  have V:=bR w;refine xb bv ?_;refine cQ (cE V (pR cY (((1:Int):Rat))) (fun O J r=>oK 1 J bi bi) ?_);rintro O Pw v1 Pa PA r L V E W;have hd:=W.cP (nw r E);clear r;obtain⟨A0,A1,A2,A3,A4,A5,A6,A7,rfl⟩:=hd.shape;exact rtn V fun J8 we re=>by have h:=hd.out re oF;rw[show ((1:Int):Rat)=1 by decide]at h;exact h
 |n+1,S,w,vm,M,F,Tl,hnM,Ov,Qd,UZ,hBd=>by
  have V:=bR w;obtain⟨am,cm,rfl,SB,Qr⟩:=dI.shape Tl;unfold maxLen at Qr;have hB1:=Lu h n;refine xb bv ?_;refine cQ (cE V (pR cY (((0:Int):Rat))) (fun O J r=>oK 0 J bi bi) ?_);rintro O _ _ _ PA r L V E W;have hd:=W.cP (nw r E);clear r;obtain⟨A0,A1,A2,A3,A4,A5,A6,A7,rfl⟩:=hd.shape;rw[show ((0:Int):Rat)=dC (fun k=>l6 k*(dF M 0 k*eO n fun i j=>dF M (i+1) (skip k j))) 0 by rfl]at hd;have hfk:∀k,k<n+1->rl ((fun k=>l6 k*(dF M 0 k*eO n fun i j=>dF M (i+1) (skip k j))) k)<=h+ll h n:=fun k K=>by
   have h3:=Gf G n (fun i j=>dF M (i+1) (skip k j)) fun i j D hj=>k6 Qd G _ _;have h4:=k6 Qd G 0 k;have h5:=fh (dF M 0 k) (eO n fun i j=>dF M (i+1) (skip k j));dsimp only
   rw[aA0];omega
  refine⟨Nat×((Bool×Bool)×(Option Addr×Option Addr)×(Nat×Nat×Nat×Nat))×World×Iv,fun z=>⟨[(0,sV am M.length cm),(1,iN (n+1)),(4,pP 0 0),(5,pP 1 0),(6,iN z.1)],[(1,.box T.Rat [.v (.bool z.2.1.1.1),.v (.slice z.2.1.2.1.1 z.2.1.2.2.1 z.2.1.2.2.2.1),.v (.bool z.2.1.1.2),.v (.slice z.2.1.2.1.2 z.2.1.2.2.2.2.1 z.2.1.2.2.2.2.2)]),(0,.box T.Rat [.v (.bool false),.v nls,.v (.bool false),.v nls])],2,z.2.2.2,z.2.2.1⟩,fun z=>n+1-z.1,
   fun z=>z.1<=n+1/\Bq w z.2.2.1/\cY z.2.2.1 (Cf w z.2.2.2) (.agg #[.bool z.2.1.1.1,.slice z.2.1.2.1.1 z.2.1.2.2.1 z.2.1.2.2.2.1,.bool z.2.1.1.2,.slice z.2.1.2.1.2 z.2.1.2.2.2.2.1 z.2.1.2.2.2.2.2]) (dC (fun k=>l6 k*(dF M 0 k*eO n fun i j=>dF M (i+1) (skip k j))) z.1),?_,?_⟩
  .intro O J r;exact⟨(0,((A0,A4),(A1,A5),(A2,A3,A6,A7)),J,PA),⟨aR _,V.tr r.cZ,hd.rel r oF⟩,sbgn [] r⟩
  clear V hd;rintro⟨k,⟨⟨p0,p4⟩,⟨p1,p5⟩,⟨p2,p3,p6,p7⟩⟩,w1,iv⟩ ⟨K,V,hd⟩;dsimp only at K V hd ⊢;apply bS<;>intro Ow
  .have Ow:k<n+1:=by have:(k:Int)<((n+1:Nat):Int):=aK Ow;omega
   refine⟨Nat×List Value×World×Iv,fun z=>⟨[(0,sV am M.length cm),(1,iN (n+1)),(4,pP 0 0),(5,pP 1 0),(6,iN k),(7,.o (.w 2 z.2.1.length)),(8,iN (z.1+1))],[(2,.vec T.gF 1 z.2.1),(1,.box T.Rat [.v (.bool p0),.v (.slice p1 p2 p3),.v (.bool p4),.v (.slice p5 p6 p7)]),(0,.box T.Rat [.v (.bool false),.v nls,.v (.bool false),.v nls])],3,z.2.2.2,z.2.2.1⟩,fun z=>n-z.1,
    fun z=>z.1<=n/\Bq w z.2.2.1/\cY z.2.2.1 (Cf w z.2.2.2) (.agg #[.bool p0,.slice p1 p2 p3,.bool p4,.slice p5 p6 p7]) (dC (fun k=>l6 k*(dF M 0 k*eO n fun i j=>dF M (i+1) (skip k j))) k)/\ix z.2.2.1 (Cv S w.heap.size z.2.2.2) z.2.1 (kG M n k z.1),?_,?_⟩
   .intro O J r
    exact⟨(0,[],J,iv),⟨aR _,V.tr r.cZ,hd.rel r oF,by simp[ix,kG]⟩,Sub.nil 7 T.gF 1 rfl (by simp[kK,SV.sc,At.sc,fc]) r fun In r1=>
     sbgn [] r1⟩
   clear V hd;rintro⟨i,rv,w1,iv⟩ ⟨D,V,hd,hR⟩;dsimp only at D V hd hR ⊢;have PN:rv.length=i:=by rw[hR.1,qV]
   apply bS<;>intro Ou
   .have Ou:i<n:=by have:((i+1:Nat):Int)<((n+1:Nat):Int):=aK Ou;omega
    refine⟨Nat×Value×World,fun z=>⟨[(0,sV am M.length cm),(1,iN (n+1)),(4,pP 0 0),(5,pP 1 0),(6,iN k),(7,.o (.w 2 rv.length)),(8,iN (i+1)),(9,.o (.v z.2.1)),(10,iN z.1)],[(2,.vec T.gF 1 rv),(1,.box T.Rat [.v (.bool p0),.v (.slice p1 p2 p3),.v (.bool p4),.v (.slice p5 p6 p7)]),(0,.box T.Rat [.v (.bool false),.v nls,.v (.bool false),.v nls])],3,jb z.2.1++iv,z.2.2⟩,fun z=>n+1-z.1,
     fun z=>z.1<=n+1/\Bq w z.2.2/\cY z.2.2 (Cf w iv) (.agg #[.bool p0,.slice p1 p2 p3,.bool p4,.slice p5 p6 p7]) (dC (fun k=>l6 k*(dF M 0 k*eO n fun i j=>dF M (i+1) (skip k j))) k)/\ix z.2.2 (Cv S w.heap.size iv) rv (kG M n k i)/\xl z.2.2 S w.heap.size z.2.1 (kR M (i+1) k z.1)/\∀g,z.2.1.ownBlock=some g->¬Cv S w.heap.size iv g,?_,?_⟩
    .intro O J r;exact⟨(0,nls,J),⟨aR _,V.tr r.cZ,hd.rel r oF,hR.rel r F,xl.nil,fun g X=>(by cases X)⟩,sbgn [] r⟩
    clear V hd hR;rintro⟨c,v,w1⟩ ⟨hc,V,hd,hR,hL,SH⟩;dsimp only at hc V hd hR hL SH ⊢;have UI:∀p,p∈iv->p∈jb v++iv:=fun p hp=>List.mem_append_right _ hp;have hlen:=NC M (i+1) k c;have hll:(kR M (i+1) k c).length<=n+1:=by rw[hlen];split<;>omega
    obtain⟨av,cv,rfl⟩:=hL.shape;apply bS<;>intro Pk
    .have Pk:c<n+1:=by have:(c:Int)<((n+1:Nat):Int):=aK Pk;omega
     apply bS<;>intro Th
     .have Th:c≠k:=fun e=>by rw[e]at Th;simp at Th
      obtain⟨ra,S6⟩:=gO M (i+1);have Uq:=Ov ra (aC S6);obtain⟨q,hq⟩:=gO ra c;have Qz:dF M (i+1) c=q:=by unfold dF;simp[List.getD,S6,hq]
      obtain⟨adm,um,S7,QZ,km1,km2⟩:=dI.load Tl S6;obtain⟨au,cu,rfl,hcu,-⟩:=dT.shape QZ;obtain⟨adq,csq,Ut,hF,_,hl⟩:=dT.load QZ hq;have hF4:=hF;obtain⟨f0,f1,f2,f3,f4,f5,f6,f7,rfl,-⟩:=hF;refine⟨adm,S7,be,.slice au ra.length cu,fun O J r=>?_,?_⟩
      .rw[show (((i+1:Nat):Int)).toNat=i+1 from rfl,cV (w:=w) (Y:=J) (by rw[dO];exact(V.tr r.cZ).block _ (F _ km1))];exact km2
      refine⟨adq,Ut,be,rC f0 f1 f2 f3 f4 f5 f6 f7,rfl,rdO hl V F,?_⟩;obtain⟨A,Qe,Ps,Q7,VN,hl5⟩:=hL;have PM:=eP Ps
      refine .inr (u9 hτ lr (xs:=A.flatten) (news:=rC f0 f1 f2 f3 f4 f5 f6 f7) (m:=(kR M (i+1) k c).length) (k:=1) cs cs bi cs cs (fun O J r=>⟨jZ Q7 ((Ge.row _).mono fun p hp=>List.mem_append_left _ hp) r,fun g X=>((Ge.row _).mono fun p hp=>List.mem_append_left _ hp).not r X⟩) rfl (by intro u hu;simp at hu;rcases hu with rfl|rfl|rfl|rfl<;>rfl) mx be
       (fun O J r=>.inr ?_) (fun v' Y=>jb v'++iv) (fun O J v' Y r PR Rg=>NB r PR Rg) (fun O J v' Y r h5 h6 h7=>?_))
      .have hb:=r.qW (id:=3) (sz:=4) (n:=1) rfl rfl bi (by intro u hu;simp at hu;rcases hu with rfl|rfl|rfl|rfl<;>rfl);obtain⟨_,_,_,a2,c2,e,_,h6⟩:=hb;injection e with e1 e2 e3;subst e1 e3;refine⟨_,_,rfl,fun j u hu=>?_⟩;obtain⟨ad2,k1,_,k3⟩:=h6 j u hu;injection k1 with k1;subst k1;exact k3
      .have SQ:∀g,(Value.slice av (kR M (i+1) k c).length cv).ownBlock=some g->w.heap.size<=g:=fun g X=>(ownsRow.low Q7 g X).1;have Pz:∀g,Cv S w.heap.size iv g->Y.heap[g]? =w1.heap[g]? :=fun g X=>by
        have S3:Cv S w.heap.size (jb (Value.slice av (kR M (i+1) k c).length cv)++iv) g:=X.mono UI;rw[h6.block g (rlo r F g S3) fun e=>SH g e.symm X,rls r F S3]
       have Pf:Bq w Y:=(V.tr r.cZ).tr (ju.grown h6 SQ r.dA);replace hd:=hd.cR fun g X=>Pz g (Dh X);have Q5:ix Y (Cv S w.heap.size iv) rv (kG M n k i):=⟨hR.1,hR.2.1,fun j u x k1 k2=>dK.cR (hR.2.2 j u x k1 k2) Pz⟩
       have hoff2:∀g,v'.ownBlock=some g->¬Cv S w.heap.size iv g:=fun g X Tn=>by
        rcases h7 with h7|h7
        .exact SH g (h7▸X) Tn
        .rw[h7]at X;injection X with X;have:=rlo r F g (Tn.mono UI);omega
       have hL2:xl Y S w.heap.size v' (kR M (i+1) k (c+1)):=by
        rw[KJ Th,Qz];refine⟨A++[rC f0 f1 f2 f3 f4 f5 f6 f7],by simp[Qe],fun Z PT=>?_,?_,fun u hu=>?_,fun j Z p k1 k2=>?_⟩
        .rcases bG.1 PT with h|h
         .exact Ps Z h
         .rw[bK.1 h];rfl
        .rw[aQ,List.flatten_append];simpa using h5
        .rw[List.flatten_append]at hu;rcases bG.1 hu with h|h
         .exact VN u h
         .simp at h;rcases h with rfl|rfl|rfl|rfl<;>rfl
        .rcases aS j A.length with hj|hj
         .rw[aI hj]at k1;rw[aI (by rw[<-Qe];exact hj)]at k2;exact(hl5 j Z p k1 k2).cR fun g X=>by rw[Pf.block g (F g X),V.block g (F g X)]
         .rw[aN hj]at k1;rw[aN (by rw[<-Qe];exact hj),<-Qe]at k2;have:j-A.length=0:=by have:=(aE.1 k1).1;simp at this;omega
          rw[this]at k1 k2;injection k1 with k1;injection k2 with k2;subst k1 k2;exact hF4.cR fun g X=>Pf.block g (F g X)
       obtain⟨a3,c3,rfl⟩:=hL2.shape;clear h5 h6 h7 r hR SH V SQ Pz Qe Ps Q7 VN hl5 PM;refine inc c ?_;intro I' w3 R
       exact⟨(c+1,.slice a3 (kR M (i+1) k (c+1)).length c3,w3),⟨Pk,Pf.tr R.cZ,hd.cR fun g X=>rls R oF (X.mono fun p hp=>List.mem_append_right _ hp),⟨Q5.1,Q5.2.1,fun j u x k1 k2=>dK.cR (Q5.2.2 j u x k1 k2) fun g X=>rls R F (X.mono fun p hp=>List.mem_append_right _ hp)⟩,hL2.rel R F,hoff2⟩,
        sbgn [] R,by dsimp only;omega⟩
     have Th:c=k:=by
      have h4:((c:Int)==(k:Int))=true:=by simpa using Th
      have:=eq_of_beq h4;omega
     refine inc c ?_;intro I' w3 R
     exact⟨(c+1,(Value.slice av (kR M (i+1) k c).length cv),w3),⟨Pk,V.tr R.cZ,hd.cR fun g X=>rls R oF (X.mono UI),⟨hR.1,hR.2.1,fun j u x k1 k2=>dK.cR (hR.2.2 j u x k1 k2) fun g X=>rls R F (X.mono UI)⟩,by have e:kR M (i+1) k (c+1)=kR M (i+1) k c:=(by rw[Th,KI]);dsimp only;rw[e];exact hL.rel R F,SH⟩,
      sbgn [] R,by dsimp only;omega⟩
    have Pk:c=n+1:=by have:¬(c:Int)<((n+1:Nat):Int):=aG Pk;omega
    rw[Pk,ND Ow]at hL SH UI hlen hll ⊢;have QJ:dK w1 (Cv S w.heap.size (jb (.slice av ((List.range n).map fun j=>dF M (i+1) (skip k j)).length cv)++iv)) (.slice av ((List.range n).map fun j=>dF M (i+1) (skip k j)).length cv) ((List.range n).map fun j=>dF M (i+1) (skip k j)):=hL.read;replace hR:ix w1 (Cv S w.heap.size (jb (.slice av ((List.range n).map fun j=>dF M (i+1) (skip k j)).length cv)++iv)) (rv++[.slice av ((List.range n).map fun j=>dF M (i+1) (skip k j)).length cv]) (kG M n k (i+1)):=by
     rw[Ic];exact(hR.cP fun g X=>X.mono UI).push rfl QJ
    replace hd:=hd.cP (S':=Cf w (jb (.slice av ((List.range n).map fun j=>dF M (i+1) (skip k j)).length cv)++iv)) fun g X=>X.mono UI;clear QJ hL SH UI;generalize jb (.slice av ((List.range n).map fun j=>dF M (i+1) (skip k j)).length cv)++iv=Oy at*
    refine .inl ?_;refine⟨be,be,mx,((i+1+1:Nat):Int),wo,?_⟩;intro I' w3 R
    exact⟨(i+1,rv++[.slice av ((List.range n).map fun j=>dF M (i+1) (skip k j)).length cv],w3,Oy),⟨Ou,V.tr R.cZ,hd.rel R oF,hR.rel R F⟩,
     sbgn [(2,4)] R (hE:=⟨rfl,rfl,rfl,rfl,rfl,by dsimp only;rw[l1];rfl,rfl,trivial⟩),by dsimp only;omega⟩
   have Ou:i=n:=by have:¬((i+1:Nat):Int)<((n+1:Nat):Int):=aG Ou;omega
   rw[Ou]at hR PN;clear D Ou;obtain⟨ra,S6⟩:=gO M 0;have Uq:=Ov ra (aC S6);obtain⟨q,hq⟩:=gO ra k;have Qz:dF M 0 k=q:=by unfold dF;simp[List.getD,S6,hq]
   have Ss:=Qd.at S6 q (aC hq);have SU:=Gf G n (fun i j=>dF M (i+1) (skip k j)) fun i j D hj=>k6 Qd G _ _;have SA:=fh q (eO n fun i j=>dF M (i+1) (skip k j));have TE:=xm (b:=h+ll h n) k fun j hj=>hfk j be;have hsl2:=Nat.mul_le_mul_right (h+ll h n+1) (show k<=n by omega);have hsl3:n*(h+ll h n+1)+(h+ll h n+1)<=ll h (n+1):=by
    show _<=(n+1)*(h+ll h n+2)+2;have:=bX n (show h+ll h n+1<=h+ll h n+2 by omega);rw[Nat.add_mul,Nat.one_mul];omega
   obtain⟨adm,um,S7,QZ,km1,km2⟩:=dI.load Tl S6;obtain⟨au,cu,rfl,hcu,-⟩:=dT.shape QZ;obtain⟨adq,csq,Ut,hF,_,hl⟩:=dT.load QZ hq;obtain⟨f0,f1,f2,f3,f4,f5,f6,f7,rfl,hF⟩:=hF;refine dP [.x 0,.x 1,.x 2,.x 3,.x 4,.x 5,.x 6,.x 7,.x 8,.p 11,.x 9,.x 10,.x 11,.x 12] ?_;refine⟨adm,S7,be,.slice au ra.length cu,fun O J r=>?_,?_⟩
   .rw[show ((0:Int)).toNat=0 from rfl,cV (w:=w) (Y:=J) (by rw[dO];exact(V.tr r.cZ).block _ (F _ km1))];exact km2
   refine⟨adq,Ut,be,rC f0 f1 f2 f3 f4 f5 f6 f7,rfl,rdO hl V F,((n:Nat):Int),wo,?_⟩;refine cE V (pR cY (eO n fun i j=>dF M (i+1) (skip k j))) (fun O J r=>?_) ?_
   .have h5:=r.iD (id:=2) (sz:=1) (m:=rv.length) rfl bv mx bi hR.2.1;have hRr:=hR.rel r F;have hK:fT J (fun g=>g<J.heap.size) ((At.w 2 rv.length).den O) (kG M n k n):=⟨rv,by rw[qV,<-PN];exact h5.cP fun g X=>X.2,by rw[qV];exact PN,fun i u x k1 k2=>dK.cP (hRr.2.2 i u x k1 k2) fun g X=>rlo r F g X⟩
    have:=aA1 G n (fun g X=>X) hK (by rw[qV];exact aP _) (fun r hr=>by rw[KK r hr];exact aP _) (NG Qd G) be be;rw[fM (fun i j D hj=>NF D hj)]at this;exact this
   rintro O _ _ _ Pp r L V E W;replace hd:=hd.cS r oF L (mC E);have U:=W.cP (nw r E);clear r;obtain⟨C0,C1,C2,C3,C4,C5,C6,C7,rfl⟩:=U.shape;clear hR PN;refine cE V (pR cY (q*eO n fun i j=>dF M (i+1) (skip k j))) (fun O J r=>vO (rlo r F) (e9.cP (e9.cR hF ((kS V r F))) fun _ X=>(.inl X:Cv S w.heap.size _ _)) (cY.l (cY.cP (cY.rel U r oF) fun _ X=>(Dh X:Cv S w.heap.size _ _)) be)) ?_;rintro O _ _ _ Wb r L V E W;replace hd:=hd.cS r oF L (mC E);clear U;have hp:=W.cP (nw r E);clear r;obtain⟨F0,F1,F2,F3,F4,F5,F6,F7,rfl⟩:=hp.shape;refine⟨bi,((k % 2:Nat):Int),rfl,?_⟩;apply bS<;>intro Qa
   .have Qa:k % 2=1:=by
     have:=eq_of_beq Qa;omega
    refine cQ (cE V (pR cY (-(q*eO n fun i j=>dF M (i+1) (skip k j)))) (fun O J r=>KL (rlo r oF) (cY.l (hp.rel r oF) be)) ?_);rintro O Su v13 TV Sf r L V E W;replace hd:=hd.cS r oF L (mC E);clear hp;have hp9:=W.cP (nw r E);clear r;obtain⟨J0,J1,J2,J3,J4,J5,J6,J7,rfl⟩:=hp9.shape;refine cQ (cE V (pR cY (dC (fun k=>l6 k*(dF M 0 k*eO n fun i j=>dF M (i+1) (skip k j))) k+ -(q*eO n fun i j=>dF M (i+1) (skip k j)))) (fun O J r=>vR (rlo r oF) (cY.l (hd.rel r oF) be) (cY.l (hp9.rel r oF) (by first|omega|(rw [jE];omega)))) ?_);rintro O _ _ _ Vi r L V E W;clear hd;clear hp9;have Pc:=W.cP (nw r E);clear r;obtain⟨K0,K1,K2,K3,K4,K5,K6,K7,rfl⟩:=Pc.shape
    rw[show dC (fun k=>l6 k*(dF M 0 k*eO n fun i j=>dF M (i+1) (skip k j))) k+ -(q*eO n fun i j=>dF M (i+1) (skip k j))=dC (fun k=>l6 k*(dF M 0 k*eO n fun i j=>dF M (i+1) (skip k j))) (k+1) by
     show _=dC (fun k=>l6 k*(dF M 0 k*eO n fun i j=>dF M (i+1) (skip k j))) k+l6 k*(dF M 0 k*eO n fun i j=>dF M (i+1) (skip k j))
     rw[Qz];unfold l6;rw[aM Qa];first|rw[bs]|rw[Rat.neg_mul,bs]]at Pc
    refine inc k ?_;intro I' w3 R;exact⟨(k+1,((K0,K4),(K1,K5),(K2,K3,K6,K7)),w3,_),⟨Ow,V.tr R.cZ,Pc.rel R oF⟩,sbgn [] R,dec Ow⟩
   have Qa:¬k % 2=1:=fun e=>by rw[e]at Qa;simp at Qa
   refine cQ (cE V (pR cY (dC (fun k=>l6 k*(dF M 0 k*eO n fun i j=>dF M (i+1) (skip k j))) k+(q*eO n fun i j=>dF M (i+1) (skip k j)))) (fun O J r=>vR (rlo r oF) (cY.l (hd.rel r oF) be) (cY.l (hp.rel r oF) (by first|omega|(rw [jE];omega)))) ?_);rintro O _ _ _ Sf r L V E W;clear hd;clear hp;have Pc:=W.cP (nw r E);clear r;obtain⟨J0,J1,J2,J3,J4,J5,J6,J7,rfl⟩:=Pc.shape
   rw[show dC (fun k=>l6 k*(dF M 0 k*eO n fun i j=>dF M (i+1) (skip k j))) k+(q*eO n fun i j=>dF M (i+1) (skip k j))=dC (fun k=>l6 k*(dF M 0 k*eO n fun i j=>dF M (i+1) (skip k j))) (k+1) by
    show _=dC (fun k=>l6 k*(dF M 0 k*eO n fun i j=>dF M (i+1) (skip k j))) k+l6 k*(dF M 0 k*eO n fun i j=>dF M (i+1) (skip k j))
    rw[Qz];unfold l6;rw[aJ Qa];first|rw[bs]|rw[Rat.neg_mul,bs]]at Pc
   refine inc k ?_;intro I' w3 R;exact⟨(k+1,((J0,J4),(J1,J5),(J2,J3,J6,J7)),w3,_),⟨Ow,V.tr R.cZ,Pc.rel R oF⟩,sbgn [] R,dec Ow⟩
  have Ow:k=n+1:=by have:¬(k:Int)<((n+1:Nat):Int):=aG Ow;omega
  rw[Ow]at hd;exact rtn V fun J8 we re=>hd.out re oF
theorem nL:rs q<0↔q<0:=by rw[rs,Int.sign_neg_iff,<-Int.not_le,Rat.num_nonneg,Rat.not_le]
theorem jc:0<rs q↔0<q:=by
 have h:=nL (q:= -q);rw[aCm]at h;constructor
 .intro k;have:=h.1 be;grind
 .intro k;have:=h.2 (by grind);omega
theorem Kg{p:Rat}:0<rs (p-q)↔q<p:=by rw[jc,<-Rat.lt_iff_sub_pos]
theorem Bx(M:List (List Rat))(n:Nat):lC M 0 n=eO n (dF M):=by
 unfold lC;rw[Nat.sub_zero];exact fM fun i j _ _=>by rw[aW,aW]
def s9{α:Type}(M:List (List α)):Nat:=if vS M≠0 then vS M else if fo M≠M.length then 11 else 0
theorem NI{α:Type}{M:List (List α)}(h:s9 M=0):vS M=0/\fo M=M.length:=by
 unfold s9 at h;split at h
 .rename_i h3;exact absurd h h3
 .split at h
  .cases h
  .rename_i h3 h4;exact⟨be,be⟩
def Bw(M:List (List Rat)):Prop:=(∀i k,i<M.length->k<i->dF M i k=dF M k i)/\∀q∈fk M,0<q
theorem DO{M:List (List (Int×Int))}(F:Old S w)(h:fI w S v M):eH PG GT.nu #[v] w (eR w fun v' _=>v'=iV (s9 M)):=by
 have V:=bR w;obtain⟨am,cm,rfl,SB,Qr⟩:=dI.shape h;unfold maxLen at Qr;refine sU bv ?_;refine cQ (cE V (pE (iV (vS M))) (fun O J r=>ED (oS F r) (fI.cR h ((kS V r F)))) ?_);rintro O _ _ _ PA r L V E rfl;clear r;apply bS<;>intro L
 .have L:vS M≠0:=fun e=>by rw[e]at L;simp at L
  exact rtn V fun J8 we re=>by unfold s9;rw[aM L];rfl
 have L:(vS M:Nat)=0:=by
  have h4:(((vS M:Nat):Int)==(0:Int))=true:=by simpa using L
  have:=eq_of_beq h4;omega
 refine cQ (cE V (pE (iV (fo M))) (fun O J r=>zE (oS F r) (fI.cR h ((kS V r F)))) ?_);rintro O _ _ _ Oy r L V E rfl;clear r L;apply bS<;>intro hl
 .have hl:fo M≠M.length:=fun e=>by rw[e]at hl;simp at hl
  exact rtn V fun J8 we re=>by unfold s9;rw[aJ be,aM hl];rfl
 have hl:(fo M:Nat)=(M.length:Nat):=by
  have h4:(((fo M:Nat):Int)==((M.length:Nat):Int))=true:=by simpa using hl
  have:=eq_of_beq h4;omega
 exact rtn V fun J8 we re=>by unfold s9;rw[aJ be,aJ be];rfl
theorem aDB{f:Rat}(F:Old S w)(hf:dH w S v f):
  eH PG GT.ic #[v] w (eR w fun v' _=>v'= .bool (decide (f<=0))):=by
 have V:=bR w;obtain⟨b1,a1,n1,c1,b2,a2,n2,c2,rfl⟩:=hf.shape;refine tn bv ?_;refine cQ (cE V (pE (iV (rs f))) (fun O J r=>tX (oS F r) (hf.cR (kS V r F))) ?_);rintro O _ _ _ PA r L V E rfl;clear r;exact rtn V fun J8 we re=>by rw[show decide (f<=0)=decide (rs f<=0)from Bool.eq_iff_iff.2 (by rw[decide_eq_true_eq,decide_eq_true_eq,<-Rat.not_lt,<-Int.not_lt,jc])];rfl
theorem KM(F:Old S w)(U:il w S S v xs):
  eH PG GT.fP #[v,fnV GT.ic] w (eR w fun v' _=>∃z:Int,v'=iV z/\ -1<=z/\z<=9223372036854775807/\(0<=z↔∃x∈xs,x<=0)):=by
 have V:=bR w;obtain⟨ax,cx,rfl,To,UJ⟩:=U.shape;unfold maxLen at UJ;refine gq bv ?_
 refine⟨Nat×World×Iv,fun z=>⟨[(0,sV ax xs.length cx),(1,.o (.v (fnV GT.ic))),(7,iZ xs.length),(8,iN z.1)],[],0,z.2.2,z.2.1⟩,fun z=>xs.length-z.1,
  fun z=>z.1<=xs.length/\Bq w z.2.1/\∀j x,j<z.1->xs[j]? =some x->¬x<=0,?_,?_⟩
 .intro O J r;exact⟨(0,J,[]),⟨bv,r.cZ,bv⟩,sbgn [] r⟩
 clear V;rintro⟨i,w1,iv⟩ ⟨D,V,ht⟩;dsimp only at D V ht ⊢;apply bS<;>intro Ou
 .have Ou:=dL Ou;obtain⟨x,QB⟩:=gO xs i;obtain⟨adx,csx,QU,Qu,Pq⟩:=U.load QB;obtain⟨p0,p1,p2,p3,p4,p5,p6,p7,rfl,Qu⟩:=Qu;refine⟨adx,QU,be,rC p0 p1 p2 p3 p4 p5 p6 p7,rfl,rdO Pq V F,?_⟩;refine cQ (cE V (pE (.bool (decide (x<=0)))) (fun O J r=>aDB (oS F r) (Qu.cR (kS V r F))) ?_);rintro O _ _ _ PA r L V E rfl;clear r;apply bS<;>intro L
  .have WO:x<=0:=aK L;exact rtn V fun J8 we re=>⟨_,rfl,be,be,iff_of_true be ⟨x,aC QB,WO⟩⟩
  have WO:¬x<=0:=aG L;refine inc i ?_;intro I' w3 R;refine⟨(i+1,w3,_),⟨Ou,V.tr R.cZ,fun j y hj hy=>?_⟩,sbgn [] R,by dsimp only;omega⟩;rcases aS j i with h|h
  .exact ht j y h hy
  obtain rfl:j=i:=by dsimp only at hj;omega
  rw[QB]at hy;injection hy with hy;rw[<-hy];exact WO
 have Ou:=dE D Ou;intro J8 we re
 exact⟨_,rfl,V.tr re.cZ,⟨_,rfl,be,be,iff_of_false be fun⟨x,hm,h0⟩=>by
   obtain⟨j,hj⟩:=aU hm;have Tu:j<xs.length:=(aE.1 hj).1
   exact ht j x be hj h0⟩⟩
theorem EF(F:Old S w)(U:il w S S v xs):
  eH PG GT.fG #[v,fnV GT.ic] w (eR w fun v' _=>v'= .bool (decide (∃x∈xs,x<=0))):=by
 have V:=bR w;have SS:=U;obtain⟨ax,cx,rfl,To,-⟩:=SS.shape;refine gT bv ?_;refine cQ (cE V (fun _ J v Y=>∃z:Int,v=iV z/\ -1<=z/\z<=9223372036854775807/\(0<=z↔∃x∈xs,x<=0)) (fun O J r=>KM (oS F r) (U.cR fun g X=>(V.tr r.cZ).block g (F g (X.elim id id)))) ?_);rintro O _ _ _ PA r L V E ⟨z,rfl,Pj,QY,hz⟩;clear r;exact rtn V fun J8 we re=>by rw[show decide (∃x∈xs,x<=0)=decide (z≥0)from Bool.eq_iff_iff.2 (by rw[decide_eq_true_eq,decide_eq_true_eq];exact hz.symm)];rfl
theorem EG{M:List (List (Int×Int))}{h0:Nat}(F:Old S w)(h:fI w S v M)(hf:s9 M=0->(∀r∈M,Few r)/\Ht (iy M) h0/\2<=h0/\4^M.length*h0<=800000000)(h0b:h0<=1000000000):
  eH PG GT.sF #[v] w (eR w fun v' _=>(s9 M≠0/\v'= .tuple #[.bool false,iV (s9 M)])\/(s9 M=0/\∃d,v'= .tuple #[.bool d,iV 0]/\(d=true->Bw (iy M))/\(Bw (iy M)->d=true))):=by
 have V:=bR w;obtain⟨am,cm,rfl,SB,Qr⟩:=dI.shape h;refine xV bv ?_;refine cQ (cE V (pE (iV ((s9 M:Nat):Int))) (fun O J r=>DO (oS F r) (fI.cR h ((kS V r F)))) ?_);rintro O _ _ _ PA r L V E rfl;clear r;apply bS<;>intro L
 .have L:s9 M≠0:=fun e=>by rw[e]at L;simp at L
  exact rtn V fun J8 we re=>.inl ⟨L,rfl⟩
 have L:(s9 M:Nat)=0:=by
  have h4:(((s9 M:Nat):Int)==(0:Int))=true:=by simpa using L
  have:=eq_of_beq h4;omega
 obtain⟨hfM,Qd,G,Pm⟩:=hf L;obtain⟨hE,hsq⟩:=NI L;obtain⟨Ov,hRl,QW⟩:=NJ hE;have hAl:(iy M).length=M.length:=by simp[iy]
 have VQ:∀r∈iy M,r.length=(iy M).length:=fun r hr=>by
  obtain⟨x,U,rfl⟩:=aV.1 hr;rw[aL,hAl,Ov x U,hsq]
 refine cQ (cE V (pR nZ (iy M)) (fun O J r=>NK (oS F r) (fI.cR h ((kS V r F))) hfM (fun r hr=>by rw[Ov r hr];omega) be) ?_);rintro O _ _ _ Oy r L V E W;have gA:=W.cP (nw r E);clear r L;obtain⟨aA,cA,rfl⟩:=gA.shape;rw[hAl]at gA VQ ⊢;clear hf h hfM;generalize iy M=FS at*
 generalize M.length=Fn at*
 refine⟨Nat×World×Iv,fun z=>⟨[(5,sV aA Fn cA),(16,iZ Fn),(17,iN z.1)],[],0,z.2.2,z.2.1⟩,fun z=>Fn-z.1,
  fun z=>z.1<=Fn/\Bq w z.2.1/\nZ z.2.1 (Cf w z.2.2) (.slice aA Fn cA) FS/\∀i k,i<z.1->k<i->dF FS i k=dF FS k i,?_,?_⟩
 .intro O J r;exact⟨(0,J,_),⟨aR _,V.tr r.cZ,gA.rel r oF,fun i k D=>by dsimp only at D;omega⟩,sbgn [] r⟩
 clear V gA;rintro⟨i,w1,iv⟩ ⟨D,V,gA,hs⟩;dsimp only at D V gA hs ⊢;apply bS<;>intro Ou
 .have Ou:=dL Ou
  refine⟨Nat×World×Iv,fun z=>⟨[(5,sV aA Fn cA),(16,iZ Fn),(17,iN i),(6,iN i),(20,iN i),(21,iN z.1)],[],0,z.2.2,z.2.1⟩,fun z=>i-z.1,
   fun z=>z.1<=i/\Bq w z.2.1/\nZ z.2.1 (Cf w z.2.2) (.slice aA Fn cA) FS/\∀k,k<z.1->dF FS i k=dF FS k i,?_,?_⟩
  .intro O J r;exact⟨(0,J,_),⟨aR _,V.tr r.cZ,gA.rel r oF,fun k K=>by dsimp only at K;omega⟩,sbgn [] r⟩
  clear V gA;rintro⟨k,w1,iv⟩ ⟨K,V,gA,ht⟩;dsimp only at K V gA ht ⊢;apply bS<;>intro Ow
  .have Ow:=dL Ow;obtain⟨rd,XF⟩:=gO FS i;have S8:=VQ rd (aC XF);obtain⟨qd,RU⟩:=gO rd k;have hed:dF FS i k=qd:=by unfold dF;simp[List.getD,XF,RU]
   obtain⟨add,ud,PU,hRd,k1d,k2d⟩:=dI.load (show xh _ _ _ _ from gA) XF;obtain⟨aud,cud,rfl⟩:=dI.rowOf hRd;obtain⟨aed,csd,haed,Xh,Wc⟩:=hRd.load RU;obtain⟨d0,d1,d2,d3,d4,d5,d6,d7,rfl,Xh⟩:=Xh;obtain⟨re,YY⟩:=gO FS k;have hle:=VQ re (aC YY);obtain⟨qe,Tm⟩:=gO re i;have hee:dF FS k i=qe:=by unfold dF;simp[List.getD,YY,Tm]
   obtain⟨ade,ue,hae,Vg,k1e,k2e⟩:=dI.load (show xh _ _ _ _ from gA) YY;obtain⟨aue,cue,rfl⟩:=dI.rowOf Vg;obtain⟨aee,cse,haee,Xi,Wd⟩:=Vg.load Tm;obtain⟨e0,e1,e2,e3,e4,e5,e6,e7,rfl,Xi⟩:=Xi;have hqd2:=Qd.at XF qd (aC RU);have hqe2:=Qd.at YY qe (aC Tm);refine dP (idO 16) ?_;refine⟨add,PU,be,.slice aud rd.length cud,fun O J r=>?_,?_⟩
   .rw[aF,cV (w:=w1) (Y:=J) (by rw[dO];exact rls r oF k1d)];exact k2d
   refine⟨aed,haed,be,rC d0 d1 d2 d3 d4 d5 d6 d7,rfl,fun O J r j u hu=>?_,?_⟩
   .obtain⟨z1,z2⟩:=Wc j u hu;rw[aF,cV (w:=w1) (Y:=J) (by rw[dO,dO];exact rls r oF z1)];exact z2
   refine⟨ade,hae,be,.slice aue re.length cue,fun O J r=>?_,?_⟩
   .rw[aF,cV (w:=w1) (Y:=J) (by rw[dO];exact rls r oF k1e)];exact k2e
   refine⟨aee,haee,be,rC e0 e1 e2 e3 e4 e5 e6 e7,rfl,fun O J r j u hu=>?_,?_⟩
   .obtain⟨z1,z2⟩:=Wd j u hu;rw[aF,cV (w:=w1) (Y:=J) (by rw[dO,dO];exact rls r oF z1)];exact z2
   refine cE V (pE (iV (rs (qd-qe)))) (fun O J r=>aA2 (rlo r oF) (Xh.rel r oF) (Xi.rel r oF) (by have:=h0b;omega) (by have:=h0b;omega)) ?_;rintro O _ _ _ Pp r L V E rfl;replace gA:=gA.cS r oF L (mC E);clear r L;clear hRd Vg Xh Xi Wc Wd k1d k1e k2d k2e;apply bS<;>intro hc
   .have hc:qd≠qe:=fun e=>by rw[Lv.2 e]at hc;simp at hc
    exact rtn V fun J8 we re=>.inr ⟨L,false,rfl,fun h=>(by cases h),fun h=>absurd (by rw[<-hed,<-hee];exact h.1 i k be Ow) hc⟩
   have hc:qd=qe:=Lv.1 (by simpa using hc);refine inc k ?_;intro I' w3 R;refine⟨(k+1,w3,_),⟨Ow,V.tr R.cZ,gA.rel R oF,fun j hj=>?_⟩,sbgn [] R,by dsimp only;omega⟩;rcases aS j k with I|I
   .exact ht j I
   .rw[show j=k by dsimp only at hj;omega,hed,hee,hc]
  have Ow:=dE K Ow;refine inc i ?_;intro I' w3 R;refine⟨(i+1,w3,_),⟨Ou,V.tr R.cZ,gA.rel R oF,fun i2 k2 I G=>?_⟩,sbgn [] R,by dsimp only;omega⟩;rcases aS i2 i with h3|h3
  .exact hs i2 k2 h3 G
  .obtain rfl:i2=i:=by dsimp only at I;omega
   exact ht k2 be
 have Ou:=dE D Ou;subst Ou;refine cQ (cE V (pR qU (fk FS)) (fun O J r=>aAZ (h:=h0) (rlo r oF) (gA.rel r oF) (fun r hr=>(VQ r hr).trans hAl.symm) be Qd G (by rw[hAl];exact Pm)) ?_);rintro O _ _ _ R8 r L V E W;clear gA;have gm:=W.cP (nw r E);clear r L;obtain⟨ag,cg,rfl⟩:=gm.shape;refine cQ (cE V (pE (.bool (decide (∃x∈fk FS,x<=0)))) (fun O J r=>EF (rlo r oF) (gm.rel r oF)) ?_);rintro O _ _ _ TU r L V E rfl;clear gm;clear r L;exact rtn V fun J8 we re=>.inr ⟨L,_,rfl,fun h=>⟨fun i k D K=>hs i k be K,fun q hq=>Rat.not_le.1 fun h0=>by rw[bf (⟨q,hq,h0⟩:∃x∈fk FS,x<=0)]at h;cases h⟩,fun h=>by rw[bP (fun ⟨q,hq,h0⟩=>absurd (h.2 q hq) (Rat.not_lt.2 h0):¬ ∃x∈fk FS,x<=0)];rfl⟩
end Go.Ex
namespace Go.Ex
variable{s:List (List Rat)×List Nat}{pv:List Nat}{l r:List Rat}{m:Mx}{j k:Nat}
def kz:List Nat->(Nat->Rat)->Rat
 |[],_=>0
 |t::l,g=>g t+kz l g
theorem Bm{g h:Nat->Rat}:∀{l:List Nat},(∀t∈l,g t=h t)->kz l g=kz l h
 |[],_=>rfl
 |t::l,e=>by show g t+_=h t+_;rw[e t aH,Bm fun s hs=>e s (aB _ hs)]
theorem Ea{g:Nat->Rat}:∀{l:List Nat},(∀t∈l,g t=0)->kz l g=0
 |[],_=>rfl
 |t::l,e=>by show g t+_=0;rw[e t aH,Ea fun s hs=>e s (aB _ hs),bV]
theorem zY(g:Nat->Rat):∀l k:List Nat,kz (l++k) g=kz l g+kz k g
 |[],k=>(Rat.zero_add _).symm
 |t::l,k=>by show g t+kz (l++k) g=g t+kz l g+kz k g;rw[zY g l k,Rat.add_assoc]
theorem Hk(g:Nat->Rat):∀l:List Nat,kz l (fun t=> -g t)= -kz l g
 |[]=>rfl
 |t::l=>by show -g t+kz l _= -(g t+kz l g);rw[Hk g l,Rat.neg_add]
theorem zZ(p:Nat->Bool)(g:Nat->Rat):∀l:List Nat,kz l g=kz (l.filter p) g+kz (l.filter fun t=> !p t) g
 |[]=>(bV 0).symm
 |t::l=>by
  show g t+kz l g=_;rw[zZ p g l,List.filter_cons,List.filter_cons]
  cases p t with
  |true=>show _=g t+_+_;rw[Rat.add_assoc];rfl
  |false=>
   show _=kz (l.filter p) g+(g t+_)
   rw[<-Rat.add_assoc,Rat.add_comm (g t),Rat.add_assoc]
theorem Bn{g:Nat->Rat}{s:Nat}:∀{l:List Nat},l.Nodup->s∈l->(∀t∈l,t≠s->g t=0)->kz l g=g s
 |[],_,hm,_=>by cases hm
 |t::l,W,hm,h=>by
  show g t+kz l g=g s;have R7:=List.nodup_cons.1 W;rcases List.mem_cons.1 hm with rfl|hm
  .rw[Ea fun u hu=>h u (aB _ hu) fun e=>R7.1 (e▸hu),bV]
  .rw[h t aH (fun e=>R7.1 (e▸hm)),Rat.zero_add,Bn R7.2 hm fun u hu=>h u (aB _ hu)]
theorem Bo{i t:Nat}{v:Rat}:(l.set i v).getD t 0=if i=t/\i<l.length then v else l.getD t 0:=by
 simp only[List.getD,List.getElem?_set]
 by_cases h:i=t
 .subst h;by_cases hl:i<l.length
  .simp[hl]
  .simp[hl]
 .simp[h]
theorem Bp{Do:Nat->List Rat}{pv:List Nat}{f:Nat->Rat}(hF:∀i,Do (i+1)=(Do i).set (pv.getD i 0) (f i)){t:Nat}(ht:t∉pv):∀i,i<=pv.length->(Do i).getD t 0=(Do 0).getD t 0
 |0,_=>rfl
 |i+1,h=>by
  rw[hF,Bo,aJ fun e=>ht (by rw[<-e.1,List.getD,aD be];exact bA _)];exact Bp hF ht i be
theorem OQ(hp:pv.Pairwise (· < ·)){i:Nat}(Py:j<i)(D:i<pv.length):pv.getD j 0<pv.getD i 0:=by
 rw[List.getD,List.getD,aD D,aD be];exact List.pairwise_iff_getElem.1 hp j i _ _ Py
theorem po{Do:Nat->List Rat}{pv:List Nat}{f:Nat->Rat}{n:Nat}(hF:∀i,Do (i+1)=(Do i).set (pv.getD i 0) (f i))(hl:∀i,(Do i).length=n)(hp:pv.Pairwise (· < ·))(W:∀p∈pv,p<n){j:Nat}:∀i,i<=pv.length->j<i->(Do i).getD (pv.getD j 0) 0=f j
 |0,_,h=>by omega
 |i+1,h,hj=>by
  rw[hF,Bo];rcases aS j i with I|I
  .have:=OQ hp I be;rw[aJ be];exact po hF hl hp W i be I
  .have e:j=i:=by omega
   subst e;have hm:pv.getD j 0<(Do j).length:=by rw[hl];exact W _ (by rw[List.getD,aD be];exact bA _)
   rw[aM ⟨rfl,hm⟩]
def lA(M:List (List Rat))(x:List Rat):List Rat:=M.map fun r=>fD r x r.length
abbrev jr(pv:List Nat)(n:Nat):List Nat:=(List.range n).filter fun c=>decide (c∉pv)
section
variable{M:List (List Rat)}{x:List Rat}{n:Nat}
end
structure Diff(FS:List (List Rat))(pv:List Nat)(n:Nat)(x:List Rat):Prop where
 up:pv.Pairwise (· < ·)
 lt:∀p∈pv,p<n
 le:pv.length<=FS.length
 unit:∀i j,i<pv.length->j<FS.length->dF FS j (pv.getD i 0)=if j=i then 1 else 0
 sum:∀j,j<FS.length->kz (List.range n) (fun t=>dF FS j t*x.getD t 0)=dF FS j n
section
variable{FS:List (List Rat)}{pv:List Nat}{n:Nat}{x:List Rat}
theorem uj{t:Nat}(h:t∈pv):∃j,j<pv.length/\pv.getD j 0=t:=by
 obtain⟨j,hj,rfl⟩:=List.mem_iff_getElem.1 h;exact⟨j,hj,by rw[List.getD,aD hj];rfl⟩
theorem rY{c t:Nat}(ht:t∉pv)(hc:c<n):(gj FS pv n c pv.length).getD t 0=if t=c then 1 else 0:=by
 rw[Bp (Do:=gj FS pv n c) (fun i=>iq FS pv n c i) ht _ (aP _)];show((List.replicate n (0:Rat)).set c 1).getD t 0=_;rw[Bo,bD];by_cases h:c=t
 .rw[aM ⟨h,hc⟩,aM h.symm]
 .rw[aJ (fun e=>h e.1),aJ (fun e=>h e.symm)];simp only[List.getD,List.getElem?_replicate]
  split<;>rfl
theorem Diff.kin(h:Diff FS pv n x){c:Nat}(hj:j<pv.length):(gj FS pv n c pv.length).getD (pv.getD j 0) 0= -(dF FS j c):=
 po (Do:=gj FS pv n c) (f:=fun i=> -(dF FS i c)) (fun i=>iq FS pv n c i) (lM FS pv n c) h.up h.lt _ (aP _) hj
theorem wQ{t:Nat}(ht:t∉pv):(iU FS pv n pv.length).getD t 0=0:=by
 rw[Bp (Do:=iU FS pv n) (fun i=>ir FS pv n i) ht _ (aP _)];show(List.replicate n (0:Rat)).getD t 0=0;simp only[List.getD,List.getElem?_replicate]
 split<;>rfl
theorem Diff.xin(h:Diff FS pv n x)(hj:j<pv.length):(iU FS pv n pv.length).getD (pv.getD j 0) 0=dF FS j n:=
 po (Do:=iU FS pv n) (f:=fun i=>dF FS i n) (fun i=>ir FS pv n i) (lN FS pv n) h.up h.lt _ (aP _) hj
theorem uo:(jr pv n).Nodup:=List.Pairwise.filter _ List.nodup_range
theorem mo{c:Nat}:c∈jr pv n↔c<n/\c∉pv:=by
 unfold jr;rw[List.mem_filter,List.mem_range,decide_eq_true_eq]
theorem Diff.rest(h:Diff FS pv n x){t:Nat}(ht:t<n):x.getD t 0+(iU FS pv n pv.length).getD t 0* -1=kz (jr pv n) fun c=>x.getD c 0*(gj FS pv n c pv.length).getD t 0:=by
 by_cases hp:t∈pv
 .obtain⟨j,hj,rfl⟩:=uj hp;have hs:=h.sum j (Nat.lt_of_lt_of_le hj h.le);rw[zZ (fun c=>decide (c∉pv)),Bn (s:=pv.getD j 0) (l:=(List.range n).filter fun t=> !decide (t∉pv)) (List.Pairwise.filter _ List.nodup_range) (List.mem_filter.2 ⟨List.mem_range.2 ht,by rw[bP fun e=>e hp];rfl⟩) (fun s hs Ox=>?_),h.unit j j hj (Nat.lt_of_lt_of_le hj h.le),aM rfl,bs]at hs
  .rw[h.xin hj,Bm (h:=fun c=> -(dF FS j c*x.getD c 0)) fun c hc=>by rw[h.kin hj,Rat.mul_neg,cB],Hk,<-hs];generalize x.getD (pv.getD j 0) 0=q;generalize kz _ _=s;rw[Rat.mul_neg,Rat.mul_one,Rat.neg_add,<-Rat.add_assoc,Rat.add_comm q,Rat.add_assoc,Rat.add_neg_cancel,bV]
  .have Qy:s∈pv:=by simpa using(List.mem_filter.1 hs).2
   obtain⟨i,D,rfl⟩:=uj Qy;rw[h.unit i j D (Nat.lt_of_lt_of_le hj h.le),aJ (fun e=>Ox (by rw[e])),bI]
 .rw[wQ hp,bI,bV,Bn (s:=t) uo (mo.2 ⟨ht,hp⟩) fun c hc Ox=>by rw[rY hp (mo.1 hc).1,aJ (Ne.symm Ox),bF],rY hp ht,aM rfl,Rat.mul_one]
theorem rZ(K:k<(jr pv n).length):(jr pv n).getD k 0∈jr pv n:=by rw[List.getD,aD K];exact bA K
theorem pq(h:(fF FS pv n n)[k]? =some r):k<(jr pv n).length/\r=gj FS pv n ((jr pv n).getD k 0) pv.length:=by
 unfold fF at h;rw[aO]at h;obtain⟨c,hc,rfl⟩:=Option.map_eq_some_iff.1 h;refine⟨(aE.1 hc).1,?_⟩;rw[List.getD,hc];rfl
theorem OR{i:Nat}(D:i<(jr pv n).length)(K:k<(jr pv n).length)(e:(jr pv n).getD i 0=(jr pv n).getD k 0):i=k:=by
 rw[List.getD,List.getD,aD D,aD K]at e;rcases cH i k with h|h|h
 .exact absurd e (List.pairwise_iff_getElem.1 uo i k D K h)
 .exact h
 .exact absurd e.symm (List.pairwise_iff_getElem.1 uo k i K D h)
theorem Br{i:Nat}{s:List Rat}(hr:(fF FS pv n n)[k]? =some r)(hs:(fF FS pv n n)[i]? =some s):s.getD ((jr pv n).getD k 0) 0=if i=k then 1 else 0:=by
 obtain⟨K,-⟩:=pq hr;obtain⟨D,rfl⟩:=pq hs;have hm:=mo.1 (rZ K);rw[rY hm.2 (mo.1 (rZ D)).1];by_cases h:i=k
 .rw[h,aM rfl,aM rfl]
 .rw[aJ (fun e=>h (OR D K e.symm)),aJ h]
end
theorem k8(f:Nat->Nat->Rat)(m:Nat):∀n,dC (fun i=>dC (f i) m) n=dC (fun j=>dC (fun i=>f i j) n) m
 |0=>(df m).symm
 |n+1=>by
  show dC (fun i=>dC (f i) m) n+dC (f n) m=dC (fun j=>dC (fun i=>f i j) n+f n j) m;rw[fg,k8 f m n]
theorem pz(x y:List Rat):∀n,fD x y n=dC (fun t=>x.getD t 0*y.getD t 0) n
 |0=>rfl
 |n+1=>by rw[fD,pz x y n];rfl
theorem z4{f:Nat->Rat}:∀{n:Nat},(∀k,k<n->0<=f k)->0<=dC f n
 |0,_=>Rat.le_refl
 |n+1,h=>by
  have I:=z4 (n:=n) fun k K=>h k be;have G:=h n be;show 0<=dC f n+f n;grind
theorem rb{f:Nat->Rat}:∀{n:Nat},(∀k,k<n->0<=f k)->dC f n<=0->∀k,k<n->f k=0
 |0,_,_,k,K=>by omega
 |n+1,h,h0,k,K=>by
  have I:=z4 (n:=n) fun k K=>h k be;have G:=h n be;have h3:dC f n+f n<=0:=h0;rcases aS k n with h4|h4
  .exact rb (fun k K=>h k be) (by grind) k h4
  .rw[show k=n by omega];grind
def Fy(m:Mx)(n w:Nat):Prop:=∀x:Nat->Rat,(∀t,t<w->dC (fun i=>x i*m i t) n=0)->∀i,i<n->x i=0
theorem OT(f:Nat->Rat){n a b:Nat}(ha:a<n)(hb:b<n):dC (fun i=>f (mS a b i)) n=dC f n:=by
 have I:dC (fun i=>(if i=a then f b-f a else 0)+(if i=b then f a-f b else 0)) n=0:=by
  rw[fg,ed ha fun k _ Ox=>aJ Ox,ed hb fun k _ Ox=>aJ Ox,aM rfl,aM rfl];grind
 have G:dC (fun i=>f (mS a b i)) n-dC f n=0:=by
  rw[<-ow,<-I];refine cT fun k _=>?_;unfold mS;by_cases h3:k=a
  .subst h3;rw[aM rfl,aM rfl];by_cases h4:k=b
   .subst h4;rw[aM rfl];grind
   .rw[aJ h4];grind
  .rw[aJ h3,aJ h3];by_cases h4:k=b
   .subst h4;rw[aM rfl,aM rfl];grind
   .rw[aJ h4,aJ h4];grind
 grind
theorem Fz(a b i:Nat):mS a b (mS a b i)=i:=by
 unfold mS;by_cases I:i=a
 .rw[aM I];by_cases G:b=a
  .rw[aM G];omega
  .rw[aJ G,aM rfl];omega
 .rw[aJ I];by_cases G:i=b
  .rw[aM G,aM rfl];omega
  .rw[aJ G,aJ I,aJ G]
theorem aCo{a b i n:Nat}(ha:a<n)(hb:b<n)(D:i<n):mS a b i<n:=by unfold mS;split<;>(try split)<;>omega
theorem Fy.mS{n w a b:Nat}(h:Fy m n w)(ha:a<n)(hb:b<n):Fy (fun i t=>m (mS a b i) t) n w:=fun x U i D=>by
 have I:=h (fun i=>x (Go.Ex.mS a b i)) (fun t ht=>by
  rw[<-U t ht,<-OT (fun i=>x i*m (Go.Ex.mS a b i) t) ha hb]
  exact cT fun k _=>by simp only[Fz]) (Go.Ex.mS a b i) (aCo ha hb D)
 simp only[Fz]at I;exact I
section
variable{m m':Mx}{n w p:Nat}{κ:Rat}{q:Nat->Rat}
def nf(p:Nat)(q x:Nat->Rat)(n:Nat):Rat:=dC (fun j=>if j=p then 0 else x j*q j) n
theorem LO(hp:p<n)(I:∀t,t<w->m' p t=κ*m p t)(G:∀j t,j<n->j≠p->t<w->m' j t=m j t+q j*m' p t)(x:Nat->Rat){t:Nat}(ht:t<w):
  dC (fun j=>x j*m' j t) n=dC (fun j=>(if j=p then κ*(x p+nf p q x n)else x j)*m j t) n:=by
 have h3:dC (fun j=>x j*m' j t) n-dC (fun j=>(if j=p then κ*(x p+nf p q x n)else x j)*m j t) n=0:=by
  rw[<-ow];have h4:∀j,j<n->x j*m' j t-(if j=p then κ*(x p+nf p q x n)else x j)*m j t=(if j=p then 0 else x j*q j)*(κ*m p t)+(if j=p then -(nf p q x n*(κ*m p t))else 0):=fun j hj=>by
   by_cases h5:j=p
   .subst h5;rw[aM rfl,aM rfl,aM rfl,I t ht];grind
   .rw[aJ h5,aJ h5,aJ h5,G j t hj h5 ht,I t ht];grind
  rw[cT h4,fg,jT,ed hp fun k _ Ox=>aJ Ox,aM rfl];unfold nf;grind
 grind
theorem Fy.mix(D:Fy m n w)(hκ:κ≠0)(hp:p<n)(I:∀t,t<w->m' p t=κ*m p t)(G:∀j t,j<n->j≠p->t<w->m' j t=m j t+q j*m' p t):Fy m' n w:=fun x U=>by
 have h3:=D _ fun t ht=>(LO hp I G x ht).symm.trans (U t ht);have h4:∀j,j<n->j≠p->x j=0:=fun j hj Ox=>by have:=h3 j hj;rwa [aJ Ox]at this
 have h5:nf p q x n=0:=by
  unfold nf;rw[cT (g:=fun _=>0) fun j hj=>?_,df];by_cases h6:j=p
  .rw[aM h6]
  .rw[aJ h6,h4 j hj h6,bI]
 have h6:=h3 p hp;rw[aM rfl,h5,bV]at h6;intro i D;by_cases h7:i=p
 .rw[h7];exact(Rat.mul_eq_zero.1 h6).resolve_left hκ
 .exact h4 i D h7
theorem Fy.aDZ(D:Fy m' n w)(hκ:κ≠0)(hp:p<n)(I:∀t,t<w->m' p t=κ*m p t)(G:∀j t,j<n->j≠p->t<w->m' j t=m j t+q j*m' p t):Fy m n w:=fun y hy=>by
 have K:κ*κ⁻¹=1:=Rat.mul_inv_cancel _ hκ;have h3:=D (fun j=>if j=p then y p*κ⁻¹-nf p q y n else y j) fun t ht=>by
  rw[LO hp I G _ ht,<-hy t ht];refine cT fun j hj=>?_;have h5:nf p q (fun j=>if j=p then y p*κ⁻¹-nf p q y n else y j) n=nf p q y n:=by
   unfold nf;refine cT fun i _=>?_;by_cases h6:i=p
   .rw[aM h6,aM h6]
   .rw[aJ h6,aJ h6];simp only[aJ h6]
  rw[h5,aM rfl];by_cases h6:j=p
  .rw[aM h6,h6];grind
  .rw[aJ h6,aJ h6]
 have h4:∀j,j<n->j≠p->y j=0:=fun j hj Ox=>by have:=h3 j hj;rwa [aJ Ox]at this
 have h5:nf p q y n=0:=by
  unfold nf;rw[cT (g:=fun _=>0) fun j hj=>?_,df];by_cases h6:j=p
  .rw[aM h6]
  .rw[aJ h6,h4 j hj h6,bI]
 have h6:=h3 p hp;rw[aM rfl,h5]at h6;intro i D;by_cases h7:i=p
 .rw[h7];grind
 .exact h4 i D h7
end
theorem Fy.congr{m':Mx}{n w:Nat}(h:Fy m n w)(e:∀i t,i<n->t<w->m' i t=m i t):Fy m' n w:=fun x U=>h x fun t ht=>by
 rw[<-U t ht];exact cT fun i D=>by rw[e i t D ht]
theorem OU{c w:Nat}(hl:fz w s.1)(hle:s.2.length<=s.1.length):Fy (dF (dy s c).1) s.1.length w↔Fy (dF s.1) s.1.length w:=by
 rcases kL c hle with⟨e,-⟩|⟨k,I,G,h3,e⟩
 .rw[e]
 .obtain⟨r1,r2⟩:=mn hl I G h3 e;have hp:s.2.length<s.1.length:=by omega
  have hs:mS s.2.length k s.2.length=k:=by unfold mS;rw[aM rfl]
  have hκ:(1 / dF s.1 k c)≠0:=fun e=>by have:=wP h3;rw[e,bF]at this;exact absurd this bi
  have q1:∀t,t<w->dF (dy s c).1 s.2.length t=(1 / dF s.1 k c)*(fun i t=>dF s.1 (mS s.2.length k i) t) s.2.length t:=fun t _=>by
   simp only[hs]
   rw[r1,cB]
  have q2:∀j t,j<s.1.length->j≠s.2.length->t<w->dF (dy s c).1 j t=(fun i t=>dF s.1 (mS s.2.length k i) t) j t+(fun j=> -(dF s.1 (mS s.2.length k j) c)) j*dF (dy s c).1 s.2.length t:=fun j t hj Ox ht=>by
   rw[r2 j hj Ox t ht,r1];have:mS s.2.length k j=if j=k then s.2.length else j:=by unfold mS;rw[aJ Ox]
   simp only[this]
  constructor
  .intro h;have h4:=(Fy.aDZ h hκ hp q1 q2).mS hp G;exact h4.congr fun i t _ _=>by simp only[Fz]
  .intro h;exact Fy.mix (h.mS hp G) hκ hp q1 q2
theorem z5{M:List (List Rat)}{w:Nat}(hl:fz w M):∀cols,cols<=w->(Fy (dF (cW M cols).1) M.length w↔Fy (dF M) M.length w)
 |0,_=>Iff.rfl
 |c+1,h=>by
  have ih:=z5 hl c be;have hr:=di hl c be;have I:=eC M c;rw[<-ih];have G:=OU (c:=c) hr.1 hr.2.1;rw[I]at G;rw[<-G];unfold cW;rw[bU,List.foldl_append];exact Iff.rfl
theorem OV(M:List (List Rat)):Bw M↔Sy (dF M) M.length/\Po (dF M) M.length:=by
 constructor
 .intro⟨I,G⟩;refine⟨fun i j D hj=>?_,fun k K=>?_⟩
  .rcases cH j i with h|h|h
   .exact I i j D h
   .rw[h]
   .exact(I j i hj h).symm
  .have:=G _ (aC (l7 K))
   rwa [Bx]at this
 .intro⟨I,G⟩;refine⟨fun i k D K=>I i k D be,fun q hq=>?_⟩;obtain⟨k,K⟩:=aU hq;have hl:=(aE.1 K).1;rw[k7]at hl;rw[l7 hl]at K;injection K with K;rw[<-K,Bx];exact G k hl
theorem Hq{m':Mx}{x:Nat->Rat}{n:Nat}(h:∀i j,i<n->j<n->m i j=m' i j):qf m x n=qf m' x n:=cT fun i D=>by rw[cT fun j hj=>by rw[h i j D hj]]
end Go.Ex
