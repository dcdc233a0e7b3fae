/- Texts X233 to X234: lemmas, each with its conditions. -/
import Derived.Test.YtgkpbdkechfgmaaGreatP13
set_option maxHeartbeats 2000000
set_option maxRecDepth 8000
namespace Go.Ex
open Go Go.Sx Go.Proofs
variable{e0:Int}{ds:List Hb}{zs:List Int}{t:List Wd}{S:Nat->Prop}{v:Value}{w I:World}{f:fc}
def gq(t:List Wd)(x:Hb)(m:Int):Ld:=if x.2.2.2.1=0 then(m,x.2.2.2.2*kl t x,0,0)else(m,0,x.2.2.2.2*kl t x,0)
theorem iU{x:Hb}{k:Nat}{m:Int}(h:(wS x.1)[k]? =some m):(eo t x).take (k+1)=(eo t x).take k++[gq t x m]:=by
 rw[aY,eo,aO,h];rfl
theorem CZ(U:Old S w)(hT:oC w S v t):eC PG Fn.oO #[v] w (eI w fun v' _=>v'=iV (jZ t)):=by
 have V:=bR w;obtain⟨a,c,rfl,-,hmt⟩:=hT.shape;unfold maxLen at hmt;obtain⟨e0,EE⟩:=exq (jZ t);rw[EE];refine rf bv ?_;conv=>whnf
 apply bS<;>intro Y
 .have Y:=aE Y;have OC:jZ t=8:=by rw[jZ,aH be]
  rw[OC]at EE;subst EE;conv=>whnf
  exact rtn V fun GT we re=>rfl
 have Y:¬100<t.length:=by have:=aC Y;omega
 have OC:jZ t=cX lZ [] t:=by rw[jZ,aF Y]
 conv=>whnf
 refine⟨Nat×World×Iv,fun z=>⟨[(0,sV a t.length c),(3,iN z.1)],[],0,z.2.2,z.2.1⟩,fun z=>t.length-z.1,
  fun z=>z.1<=t.length/\Bq w z.2.1/\cX lZ [] t=cX lZ (t.take z.1) (t.drop z.1),?_,?_⟩
 .intro O J A;exact⟨(0,J,_),⟨aP _,V.tr A.cN,rfl⟩,sbgn [] A⟩
 clear V;rintro⟨i,w1,iv⟩ ⟨D,V,hE⟩;dsimp only at D V hE ⊢;conv=>whnf
 apply bS<;>intro Ny
 .have Ny:=dL Ny;obtain⟨x,G⟩:=gO t i;obtain⟨adx,csx,Od,hP,-,OZ⟩:=hT.load bi G;have hP:csx=[iV x.1,iV x.2]:=hP;subst hP;conv=>whnf
  refine dP (idO 16) ?_;conv=>whnf
  apply bS<;>intro N
  .obtain⟨k,rfl⟩:∃k,i=k+1:=⟨i-1,by have:=aE N;omega⟩
   obtain⟨v,hv⟩:=gO t k;obtain⟨adv,csv,hav,hP,-,hlv⟩:=hT.load bi hv;have hP:csv=[iV v.1,iV v.2]:=hP;subst hP;have S2:=Dd (w:=x) hv;conv=>whnf
   refine⟨adx,Od,be,?_⟩;conv=>whnf
   refine⟨iV x.1,rdF (OZ 0 _ rfl) V U,?_⟩;conv=>whnf
   refine⟨((k:Nat):Int),wo,?_⟩;conv=>whnf
   refine⟨adv,hav,be,?_⟩;conv=>whnf
   refine⟨iV v.1,rdF (hlv 0 _ rfl) V U,?_⟩;conv=>whnf
   apply bS<;>intro h4
   .have h4:=aE h4;have OC:jZ t=10:=by rw[OC,hE];exact cJ G (by rw[S2,aH h4]) bi
    rw[OC]at EE;subst EE;conv=>whnf
    exact rtn V fun GT we re=>rfl
   have h4:=aC h4;conv=>whnf
   refine⟨adx,Od,be,?_⟩;conv=>whnf
   refine⟨iV x.2,rdF (OZ 1 _ rfl) V U,?_⟩;conv=>whnf
   refine cD (cE V (fun _ J v I=>∃d,v= .bool d/\(d=true↔0<=x.2/\x.2<=100000)) (fun O J r=>fm x.2 0 100000 J) ?_);rintro O Ph v1 Pa OK r R V h_ ⟨d1,rfl,OG⟩;clear r
   cases d1
   .have OG:¬(0<=x.2/\x.2<=100000):=fun h=>by have:=OG.2 h;cases this
    have OC:jZ t=2:=by rw[OC,hE];exact cJ G (by rw[S2,aF h4,aF OG]) bi
    rw[OC]at EE;subst EE;conv=>whnf
    exact rtn V fun GT we re=>rfl
   rw[dH G (by rw[S2,aF h4,aH (OG.1 rfl)])]at hE;conv=>whnf
   refine⟨((k+1+1:Nat):Int),wo,?_⟩;conv=>whnf
   intro IR w6 A;exact⟨(k+1+1,w6,_),⟨Ny,V.tr A.cN,hE⟩,sbgn [] A,by dsimp only;omega⟩
  have N:i=0:=by have:=aC N;omega
  subst N;have S2:lZ (t.take 0) x=_:=BB x;conv=>whnf
  refine⟨adx,Od,be,?_⟩;conv=>whnf
  refine⟨iV x.2,rdF (OZ 1 _ rfl) V U,?_⟩;conv=>whnf
  refine cD (cE V (fun _ J v I=>∃d,v= .bool d/\(d=true↔0<=x.2/\x.2<=100000)) (fun O J r=>fm x.2 0 100000 J) ?_);rintro O _ _ _ OK r R V h_ ⟨d1,rfl,OG⟩;clear r
  cases d1
  .have OG:¬(0<=x.2/\x.2<=100000):=fun h=>by have:=OG.2 h;cases this
   have OC:jZ t=2:=by rw[OC,hE];exact cJ G (by rw[S2,aF OG]) bi
   rw[OC]at EE;subst EE;conv=>whnf
   exact rtn V fun GT we re=>rfl
  rw[dH G (by rw[S2,aH (OG.1 rfl)])]at hE;conv=>whnf
  refine inc 0 ?_;conv=>whnf
  intro IR w6 A;exact⟨(0+1,w6,_),⟨Ny,V.tr A.cN,hE⟩,sbgn [] A,by dsimp only;omega⟩
 have Ny:t.length<=i:=by have:=aC Ny;omega
 rw[dy Ny]at hE;have OC:jZ t=0:=by rw[OC,hE]
 rw[OC]at EE;subst EE;conv=>whnf
 exact rtn V fun GT we re=>rfl
theorem dW.EJ(h:oC w S v t)(E:∀g,S g->I.heap[g]? =w.heap[g]?):oC I S v t:=by
 obtain⟨W,Y,X,N,h4⟩:=h;exact⟨W,Y.cK E,X,N,fun j L x k1 k2=>h4 j L x k1 k2⟩
theorem tt{vn vb vs vt:Value}(U:Old S w)(hf:dq w S vn vb vs f)(hD:sK w S v ds)(hT:oC w S vt t)(OJ:e0=if eJ f≠0 then eJ f else JN f.nodes.length ds t):
  eC PG Fn.l5 #[.agg #[vn,vb,vs],v,vt] w (eI w fun v' I=>(e0≠0/\v'= .tuple #[nls,iV e0])\/(e0=0/\∃vr,v'= .tuple #[vr,iV 0]/\cU I (Nf w I) vr (jl (eo t) ds))):=by
 obtain⟨ef,TD⟩:=exq (eJ f);rw[TD]at OJ;have V:=bR w;obtain⟨an,cn,ab,cb,aq,cq,rfl,rfl,rfl,RH,Rh,Si⟩:=hf.shape;obtain⟨ad,cd,rfl,-,hmd⟩:=hD.shape;have hT0:=hT;obtain⟨at_,ct,rfl,-,hmt⟩:=hT.shape;unfold maxLen at hmd hmt;refine pS bv ?_;conv=>whnf
 refine cD (cE V (pE (iV ef)) (fun O J r=>(tk (oS U r) (hf.cK (kS V r U))).mono fun _ _ ⟨v2,e1,e2,e3⟩=>⟨v2,e1,e2,by rw[e3,TD]⟩) ?_);rintro O _ _ _ OK r R V h_ rfl;clear r;conv=>whnf
 apply bS<;>intro Y
 .have Y:ef≠0:=by simpa using Y
  have OC:e0=ef:=by rw[OJ,aH Y]
  conv=>whnf
  exact rtn V fun GT we re=>.inl ⟨by rw[OC];exact Y,by rw[OC];rfl⟩
 have Y:ef=0:=by simpa using Y
 rw[aF (fun h=>h Y)]at OJ;obtain⟨ew,hew⟩:=exq (jZ t);rw[JN,hew]at OJ;conv=>whnf
 refine cD (cE V (pE (iV ew)) (fun O J r=>(CX (oS U r) (dW.EJ hT (kS V r U))).mono fun _ _ ⟨v2,e1,e2,e3⟩=>⟨v2,e1,e2,by rw[e3,hew]⟩) ?_);rintro O _ _ _ OH r R V h_ rfl;clear r;conv=>whnf
 apply bS<;>intro Y
 .have Y:ew≠0:=by simpa using Y
  have OC:e0=ew:=by rw[OJ,aH Y]
  conv=>whnf
  exact rtn V fun GT we re=>.inl ⟨by rw[OC];exact Y,by rw[OC];rfl⟩
 have Y:ew=0:=by simpa using Y
 rw[aF (fun h=>h Y)]at OJ;obtain⟨ht100,TE⟩:=Gd (hew.trans Y);conv=>whnf
 apply bS<;>intro X
 .have X:=aE X;have OC:e0=8:=by rw[OJ,aH be]
  conv=>whnf
  exact rtn V fun GT we re=>.inl ⟨by rw[OC];decide,by rw[OC];rfl⟩
 have h50:¬50<ds.length:=by have:=aC X;omega
 rw[aF h50]at OJ;conv=>whnf
 refine⟨Nat×List (List Value)×World×Iv,fun z=>⟨[(2,sV at_ t.length ct),(3,pP 0 0),(10,.o (.w 1 z.2.1.length)),(34,sV ad ds.length cd),(35,iZ ds.length),(36,iN z.1)],[(1,.vec T.gV 4 z.2.1.flatten),(0,.box T.Frame [.v (.slice an f.nodes.length cn),.v (.slice ab f.bars.length cb),.v (.slice aq f.cV.length cq)])],2,z.2.2.2,z.2.2.1⟩,fun z=>ds.length-z.1,
  fun z=>z.1<=ds.length/\Bq w z.2.2.1/\dR 4 dD z.2.2.1 S z.2.1 (jl (eo t) (ds.take z.1))/\z.2.1.length=4*z.1/\e0=cX (fun _=>fM f.nodes.length t) (ds.take z.1) (ds.drop z.1),?_,?_⟩
 .intro O J r;exact⟨(0,[],J,_),⟨aP _,V.tr r.cN,dR.nil,rfl,OJ⟩,Sub.nil 10 T.gV 4 rfl (by simp[kL,SV.sc,At.sc,fp]) r fun Id r1=>sbgn [] r1⟩
 clear V OJ;rintro⟨i,W,w1,iv⟩ ⟨D,V,hG,OR,OJ⟩;dsimp only at D V hG OR OJ ⊢;have OL:=ed hG.wid;conv=>whnf
 apply bS<;>intro Ny
 .have Ny:=dL Ny;obtain⟨d,hd⟩:=gO ds i;obtain⟨adx,csx,Od,hP,-,OZ⟩:=hD.load bi hd;have hP:csx=[iV d.1.1,iV d.1.2.1,iV d.1.2.2.1,iV d.1.2.2.2,iV d.2.1,iV d.2.2.1,iV d.2.2.2.1,iV d.2.2.2.2]:=hP;subst hP;obtain⟨ax,Pv⟩:=exq d.2.2.2.1;obtain⟨sg,Rt⟩:=exq d.2.2.2.2;have OE:zx d↔(ax=0\/ax=1)/\(sg=1\/sg= -1):=by unfold zx;rw[Pv,Rt]
  rw[Pv,Rt]at OZ;conv=>whnf
  refine⟨adx,Od,be,?_⟩;conv=>whnf
  refine⟨[iV d.1.1,iV d.1.2.1,iV d.1.2.2.1,iV d.1.2.2.2,iV d.2.1,iV d.2.2.1,iV ax,iV sg],rfl,rdO OZ V U,?_⟩;conv=>whnf
  refine cD (cE V (pE (iV (fU f.nodes.length d.1 d.2.1))) (fun O J r=>rD d.1 d.2.1 J an ab aq _ cn _ cb _ cq) ?_);rintro O _ _ _ PQ r R V h_ rfl;clear r;obtain⟨pe,Px⟩:=exq (fU f.nodes.length d.1 d.2.1);rw[Px];conv=>whnf
  apply bS<;>intro X
  .have X:pe≠0:=by simpa using X
   have OC:e0=pe:=by rw[OJ];exact cJ hd (by rw[fM,Px,aH X]) X
   conv=>whnf
   exact rtn V fun GT we re=>.inl ⟨by rw[OC];exact X,by rw[OC];rfl⟩
  have X:pe=0:=by simpa using X
  subst X;obtain⟨-,Q4,Qk⟩:=tA Px;conv=>whnf
  by_cases Ox:zx d
  .obtain⟨Qe,QH⟩:=OE.1 Ox;rcases Qe with rfl|rfl
   .rcases QH with rfl|rfl
    .conv=>whnf
     refine⟨Nat×World×Iv,fun z=>⟨[(2,sV at_ t.length ct),(3,pP 0 0),(10,.o (.w 1 W.length)),(34,sV ad ds.length cd),(35,iZ ds.length),(36,iN i),(12,pP 2 0),(67,sV at_ t.length ct),(68,iZ t.length),(14,.o (.v (iV (iy t d.2.2.1 z.1)))),(69,iN z.1)],[(2,.box T.uZ [.v (iV d.1.1),.v (iV d.1.2.1),.v (iV d.1.2.2.1),.v (iV d.1.2.2.2),.v (iV d.2.1),.v (iV d.2.2.1),.v (iV 0),.v (iV (1))]),(1,.vec T.gV 4 W.flatten),(0,.box T.Frame [.v (.slice an f.nodes.length cn),.v (.slice ab f.bars.length cb),.v (.slice aq f.cV.length cq)])],3,z.2.2,z.2.1⟩,fun z=>t.length-z.1,
      fun z=>z.1<=t.length/\Bq w z.2.1,?_,?_⟩
     .intro O J A;exact⟨(0,J,_),⟨aP _,V.tr A.cN⟩,sbgn [] A⟩
     clear V;rintro⟨j,I,iv⟩ ⟨hj,V⟩;dsimp only at hj V ⊢;conv=>whnf
     apply bS<;>intro ON
     .have ON:=dL ON;obtain⟨y,hy⟩:=gO t j;obtain⟨ady,csy,RF,hP,-,PS⟩:=hT.load bi hy;have hP:csy=[iV y.1,iV y.2]:=hP;subst hP;have QI:=k5 (z:=d.2.2.1) hy;conv=>whnf
      refine⟨ady,RF,be,?_⟩;conv=>whnf
      refine⟨[iV y.1,iV y.2],rfl,rdO PS V U,?_⟩;conv=>whnf
      apply bS<;>intro h5
      .have h5:y.1<=d.2.2.1:=aE h5;rw[aH h5]at QI;conv=>whnf
       refine inc j ?_;conv=>whnf
       intro IR w6 A;exact⟨(j+1,w6,_),⟨ON,V.tr A.cN⟩,sbgn [] A (hE:=⟨rfl,rfl,rfl,rfl,rfl,rfl,rfl,rfl,rfl,by dsimp only;rw[QI];rfl,rfl,trivial⟩),dec ON⟩
      have h5:¬y.1<=d.2.2.1:=aC h5;rw[aF h5]at QI;conv=>whnf
      refine inc j ?_;conv=>whnf
      intro IR w6 A;exact⟨(j+1,w6,_),⟨ON,V.tr A.cN⟩,sbgn [] A (hE:=⟨rfl,rfl,rfl,rfl,rfl,rfl,rfl,rfl,rfl,by dsimp only;rw[QI];rfl,rfl,trivial⟩),dec ON⟩
     have ON:j=t.length:=by have:=aC ON;omega
     subst ON;have QE:=ic TE d.2.2.1 t.length lr;conv=>whnf
     refine cD (cE V (pE (iV (fw d.2.1 (iy t d.2.2.1 t.length)))) (fun O J r=>lI J ⟨Q4,Qk⟩ QE) ?_);rintro O RC v12 RL RM r R V h_ rfl;clear r;have QE:=ic TE d.2.2.1 t.length lr;have S3:=jm (a:=d.2.1) (p:=iy t d.2.2.1 t.length) ⟨Q4,Qk⟩ QE;obtain⟨q,QL⟩:=exq (kl t d);rw[show fw d.2.1 (iy t d.2.2.1 t.length)=q from QL]at S3 ⊢;conv=>whnf
     apply bS<;>intro N
     .have N:=aE N;have OC:e0=8:=by rw[OJ];exact cJ hd (by rw[fM,aF (fun h=>h Px),aF (fun h=>h Ox),aH be]) bi
      conv=>whnf
      exact rtn V fun GT we re=>.inl ⟨by rw[OC];decide,by rw[OC];rfl⟩
     have N:=aC N;have S4:fM f.nodes.length t d=0:=by rw[fM,aF (fun h=>h Px),aF (fun h=>h Ox),aF be]
     have Pw:=OJ;rw[dH (e:=fun _=>fM f.nodes.length t) hd S4]at Pw;have S5:=jP (g:=eo t) hd;obtain⟨z,hz⟩:=exq ((1:Int)*q);have SS: -100000000<=z/\z<=100000000:=by
      rcases(OE.1 Ox).2 with e|e
      .rw[<-hz,e];omega
      .rw[<-hz,e];omega
     have R9:∀m,(0:Int)=0->gq t d m=(m,z,0,0):=fun m e=>by unfold gq;rw[Pv,Rt,QL,hz,aH e]
     have Ra:∀m,(0:Int)≠0->gq t d m=(m,0,z,0):=fun m e=>by unfold gq;rw[Pv,Rt,QL,hz,aF e]
     conv=>whnf
     refine⟨Nat×List (List Value)×World×Iv,fun z=>⟨[(2,sV at_ t.length ct),(3,pP 0 0),(10,.o (.w 1 z.2.1.length)),(34,sV ad ds.length cd),(35,iZ ds.length),(36,iN i),(12,pP 2 0),(17,iZ q),(88,.a [.v (iV d.1.1),.v (iV d.1.2.1),.v (iV d.1.2.2.1),.v (iV d.1.2.2.2)]),(89,iN z.1)],[(1,.vec T.gV 4 z.2.1.flatten),(2,.box T.uZ [.v (iV d.1.1),.v (iV d.1.2.1),.v (iV d.1.2.2.1),.v (iV d.1.2.2.2),.v (iV d.2.1),.v (iV d.2.2.1),.v (iV 0),.v (iV (1))]),(0,.box T.Frame [.v (.slice an f.nodes.length cn),.v (.slice ab f.bars.length cb),.v (.slice aq f.cV.length cq)])],3,z.2.2.2,z.2.2.1⟩,fun z=>4-z.1,
      fun z=>z.1<=4/\Bq w z.2.2.1/\dR 4 dD z.2.2.1 S z.2.1 (jl (eo t) (ds.take i)++(eo t d).take z.1)/\z.2.1.length=4*i+z.1,?_,?_⟩
     .intro O J r;exact⟨(0,W,J,_),⟨aP _,V.tr r.cN,by dsimp only;rw[List.take_zero,List.append_nil];exact dR.map (P:=dD) (P':=dD) (I:=J) (S':=S) hG fun _ _ h=>h,OR⟩,sbgn [] r⟩
     clear V hG OR OL;rintro⟨k,W,I,iv⟩ ⟨E,V,hG,OR⟩;dsimp only at E V hG OR ⊢;have OL:=ed hG.wid;conv=>whnf
     apply bS<;>intro OA
     .have OA:k<4:=by have:=aE OA;omega
      obtain⟨m,hm⟩:∃x,(wS d.1)[k]? =some x:=⟨_,aB (show k<4 from OA)⟩
      have S6:(0:Int)=0:=by decide
      conv=>whnf
      refine iT hτ (L:= #[iV d.1.1,iV d.1.2.1,iV d.1.2.2.1,iV d.1.2.2.2]) rfl rfl rfl (fun _=>rfl) rfl ⟨be,be⟩ (qT hm) (fun O w4 r=>?_);replace V:=V.tr r.cN;clear r;conv=>whnf
      refine⟨z,wo,?_⟩;conv=>whnf
      have PF:=hG.push (L:=[iV m,iV z,iV 0,iV 0]) (q:=(m,z,0,0)) rfl rfl;rw[bI,<-R9 m S6,<-iU hm]at PF;have OV:W.flatten++([iV m,iV z,iV 0,iV 0]:List Value)=(W++([[iV m,iV z,iV 0,iV 0]]:List (List Value))).flatten:=by simp
      conv=>whnf
      refine .inl ?_;conv=>whnf
      refine⟨be,be,mx,?_⟩;conv=>whnf
      refine inc k ?_;conv=>whnf
      intro IR w6 A;exact⟨(k+1,W++([[iV m,iV z,iV 0,iV 0]]:List (List Value)),w6,_),⟨OA,V.tr A.cN,dR.map (P:=dD) (P':=dD) (I:=w6) (S':=S) PF fun _ _ h=>h,by dsimp only;rw[List.length_append,List.length_singleton,OR];omega⟩,sbgn [(1,5)] A ⟨by dsimp only;rw[<-OV];rfl,rfl,rfl,trivial⟩ ⟨rfl,rfl,by dsimp only;rw[l1];rfl,rfl,rfl,rfl,rfl,rfl,rfl,rfl,trivial⟩,dec OA⟩
     have OA:k=4:=by have:=aC OA;omega
     subst OA;rw[show (eo t d).take 4=eo t d from rfl,<-S5]at hG;conv=>whnf
     refine inc i ?_;conv=>whnf
     intro IR w6 A;exact⟨(i+1,W,w6,_),⟨Ny,V.tr A.cN,dR.map (P:=dD) (P':=dD) (I:=w6) (S':=S) hG fun _ _ h=>h,by dsimp only;omega,Pw⟩,sbgn [] A,dec Ny⟩
    .conv=>whnf
     refine⟨Nat×World×Iv,fun z=>⟨[(2,sV at_ t.length ct),(3,pP 0 0),(10,.o (.w 1 W.length)),(34,sV ad ds.length cd),(35,iZ ds.length),(36,iN i),(12,pP 2 0),(67,sV at_ t.length ct),(68,iZ t.length),(14,.o (.v (iV (iy t d.2.2.1 z.1)))),(69,iN z.1)],[(2,.box T.uZ [.v (iV d.1.1),.v (iV d.1.2.1),.v (iV d.1.2.2.1),.v (iV d.1.2.2.2),.v (iV d.2.1),.v (iV d.2.2.1),.v (iV 0),.v (iV (-1))]),(1,.vec T.gV 4 W.flatten),(0,.box T.Frame [.v (.slice an f.nodes.length cn),.v (.slice ab f.bars.length cb),.v (.slice aq f.cV.length cq)])],3,z.2.2,z.2.1⟩,fun z=>t.length-z.1,
      fun z=>z.1<=t.length/\Bq w z.2.1,?_,?_⟩
     .intro O J A;exact⟨(0,J,_),⟨aP _,V.tr A.cN⟩,sbgn [] A⟩
     clear V;rintro⟨j,I,iv⟩ ⟨hj,V⟩;dsimp only at hj V ⊢;conv=>whnf
     apply bS<;>intro ON
     .have ON:=dL ON;obtain⟨y,hy⟩:=gO t j;obtain⟨ady,csy,RF,hP,-,PS⟩:=hT.load bi hy;have hP:csy=[iV y.1,iV y.2]:=hP;subst hP;have QI:=k5 (z:=d.2.2.1) hy;conv=>whnf
      refine⟨ady,RF,be,?_⟩;conv=>whnf
      refine⟨[iV y.1,iV y.2],rfl,rdO PS V U,?_⟩;conv=>whnf
      apply bS<;>intro h5
      .have h5:y.1<=d.2.2.1:=aE h5;rw[aH h5]at QI;conv=>whnf
       refine inc j ?_;conv=>whnf
       intro IR w6 A;exact⟨(j+1,w6,_),⟨ON,V.tr A.cN⟩,sbgn [] A (hE:=⟨rfl,rfl,rfl,rfl,rfl,rfl,rfl,rfl,rfl,by dsimp only;rw[QI];rfl,rfl,trivial⟩),dec ON⟩
      have h5:¬y.1<=d.2.2.1:=aC h5;rw[aF h5]at QI;conv=>whnf
      refine inc j ?_;conv=>whnf
      intro IR w6 A;exact⟨(j+1,w6,_),⟨ON,V.tr A.cN⟩,sbgn [] A (hE:=⟨rfl,rfl,rfl,rfl,rfl,rfl,rfl,rfl,rfl,by dsimp only;rw[QI];rfl,rfl,trivial⟩),dec ON⟩
     have ON:j=t.length:=by have:=aC ON;omega
     subst ON;have QE:=ic TE d.2.2.1 t.length lr;conv=>whnf
     refine cD (cE V (pE (iV (fw d.2.1 (iy t d.2.2.1 t.length)))) (fun O J r=>lI J ⟨Q4,Qk⟩ QE) ?_);rintro O RC v12 RL RM r R V h_ rfl;clear r;have QE:=ic TE d.2.2.1 t.length lr;have S3:=jm (a:=d.2.1) (p:=iy t d.2.2.1 t.length) ⟨Q4,Qk⟩ QE;obtain⟨q,QL⟩:=exq (kl t d);rw[show fw d.2.1 (iy t d.2.2.1 t.length)=q from QL]at S3 ⊢;conv=>whnf
     apply bS<;>intro N
     .have N:=aE N;have OC:e0=8:=by rw[OJ];exact cJ hd (by rw[fM,aF (fun h=>h Px),aF (fun h=>h Ox),aH be]) bi
      conv=>whnf
      exact rtn V fun GT we re=>.inl ⟨by rw[OC];decide,by rw[OC];rfl⟩
     have N:=aC N;have S4:fM f.nodes.length t d=0:=by rw[fM,aF (fun h=>h Px),aF (fun h=>h Ox),aF be]
     have Pw:=OJ;rw[dH (e:=fun _=>fM f.nodes.length t) hd S4]at Pw;have S5:=jP (g:=eo t) hd;obtain⟨z,hz⟩:=exq ((-1:Int)*q);have SS: -100000000<=z/\z<=100000000:=by
      rcases(OE.1 Ox).2 with e|e
      .rw[<-hz,e];omega
      .rw[<-hz,e];omega
     have R9:∀m,(0:Int)=0->gq t d m=(m,z,0,0):=fun m e=>by unfold gq;rw[Pv,Rt,QL,hz,aH e]
     have Ra:∀m,(0:Int)≠0->gq t d m=(m,0,z,0):=fun m e=>by unfold gq;rw[Pv,Rt,QL,hz,aF e]
     conv=>whnf
     refine⟨Nat×List (List Value)×World×Iv,fun z=>⟨[(2,sV at_ t.length ct),(3,pP 0 0),(10,.o (.w 1 z.2.1.length)),(34,sV ad ds.length cd),(35,iZ ds.length),(36,iN i),(12,pP 2 0),(17,iZ q),(88,.a [.v (iV d.1.1),.v (iV d.1.2.1),.v (iV d.1.2.2.1),.v (iV d.1.2.2.2)]),(89,iN z.1)],[(1,.vec T.gV 4 z.2.1.flatten),(2,.box T.uZ [.v (iV d.1.1),.v (iV d.1.2.1),.v (iV d.1.2.2.1),.v (iV d.1.2.2.2),.v (iV d.2.1),.v (iV d.2.2.1),.v (iV 0),.v (iV (-1))]),(0,.box T.Frame [.v (.slice an f.nodes.length cn),.v (.slice ab f.bars.length cb),.v (.slice aq f.cV.length cq)])],3,z.2.2.2,z.2.2.1⟩,fun z=>4-z.1,
      fun z=>z.1<=4/\Bq w z.2.2.1/\dR 4 dD z.2.2.1 S z.2.1 (jl (eo t) (ds.take i)++(eo t d).take z.1)/\z.2.1.length=4*i+z.1,?_,?_⟩
     .intro O J r;exact⟨(0,W,J,_),⟨aP _,V.tr r.cN,by dsimp only;rw[List.take_zero,List.append_nil];exact dR.map (P:=dD) (P':=dD) (I:=J) (S':=S) hG fun _ _ h=>h,OR⟩,sbgn [] r⟩
     clear V hG OR OL;rintro⟨k,W,I,iv⟩ ⟨E,V,hG,OR⟩;dsimp only at E V hG OR ⊢;have OL:=ed hG.wid;conv=>whnf
     apply bS<;>intro OA
     .have OA:k<4:=by have:=aE OA;omega
      obtain⟨m,hm⟩:∃x,(wS d.1)[k]? =some x:=⟨_,aB (show k<4 from OA)⟩
      have S6:(0:Int)=0:=by decide
      conv=>whnf
      refine iT hτ (L:= #[iV d.1.1,iV d.1.2.1,iV d.1.2.2.1,iV d.1.2.2.2]) rfl rfl rfl (fun _=>rfl) rfl ⟨be,be⟩ (qT hm) (fun O w4 r=>?_);replace V:=V.tr r.cN;clear r;conv=>whnf
      refine⟨z,wo,?_⟩;conv=>whnf
      have PF:=hG.push (L:=[iV m,iV z,iV 0,iV 0]) (q:=(m,z,0,0)) rfl rfl;rw[bI,<-R9 m S6,<-iU hm]at PF;have OV:W.flatten++([iV m,iV z,iV 0,iV 0]:List Value)=(W++([[iV m,iV z,iV 0,iV 0]]:List (List Value))).flatten:=by simp
      conv=>whnf
      refine .inl ?_;conv=>whnf
      refine⟨be,be,mx,?_⟩;conv=>whnf
      refine inc k ?_;conv=>whnf
      intro IR w6 A;exact⟨(k+1,W++([[iV m,iV z,iV 0,iV 0]]:List (List Value)),w6,_),⟨OA,V.tr A.cN,dR.map (P:=dD) (P':=dD) (I:=w6) (S':=S) PF fun _ _ h=>h,by dsimp only;rw[List.length_append,List.length_singleton,OR];omega⟩,sbgn [(1,5)] A ⟨by dsimp only;rw[<-OV];rfl,rfl,rfl,trivial⟩ ⟨rfl,rfl,by dsimp only;rw[l1];rfl,rfl,rfl,rfl,rfl,rfl,rfl,rfl,trivial⟩,dec OA⟩
     have OA:k=4:=by have:=aC OA;omega
     subst OA;rw[show (eo t d).take 4=eo t d from rfl,<-S5]at hG;conv=>whnf
     refine inc i ?_;conv=>whnf
     intro IR w6 A;exact⟨(i+1,W,w6,_),⟨Ny,V.tr A.cN,dR.map (P:=dD) (P':=dD) (I:=w6) (S':=S) hG fun _ _ h=>h,by dsimp only;omega,Pw⟩,sbgn [] A,dec Ny⟩
   .rcases QH with rfl|rfl
    .conv=>whnf
     refine⟨Nat×World×Iv,fun z=>⟨[(2,sV at_ t.length ct),(3,pP 0 0),(10,.o (.w 1 W.length)),(34,sV ad ds.length cd),(35,iZ ds.length),(36,iN i),(12,pP 2 0),(67,sV at_ t.length ct),(68,iZ t.length),(14,.o (.v (iV (iy t d.2.2.1 z.1)))),(69,iN z.1)],[(2,.box T.uZ [.v (iV d.1.1),.v (iV d.1.2.1),.v (iV d.1.2.2.1),.v (iV d.1.2.2.2),.v (iV d.2.1),.v (iV d.2.2.1),.v (iV 1),.v (iV (1))]),(1,.vec T.gV 4 W.flatten),(0,.box T.Frame [.v (.slice an f.nodes.length cn),.v (.slice ab f.bars.length cb),.v (.slice aq f.cV.length cq)])],3,z.2.2,z.2.1⟩,fun z=>t.length-z.1,
      fun z=>z.1<=t.length/\Bq w z.2.1,?_,?_⟩
     .intro O J A;exact⟨(0,J,_),⟨aP _,V.tr A.cN⟩,sbgn [] A⟩
     clear V;rintro⟨j,I,iv⟩ ⟨hj,V⟩;dsimp only at hj V ⊢;conv=>whnf
     apply bS<;>intro ON
     .have ON:=dL ON;obtain⟨y,hy⟩:=gO t j;obtain⟨ady,csy,RF,hP,-,PS⟩:=hT.load bi hy;have hP:csy=[iV y.1,iV y.2]:=hP;subst hP;have QI:=k5 (z:=d.2.2.1) hy;conv=>whnf
      refine⟨ady,RF,be,?_⟩;conv=>whnf
      refine⟨[iV y.1,iV y.2],rfl,rdO PS V U,?_⟩;conv=>whnf
      apply bS<;>intro h5
      .have h5:y.1<=d.2.2.1:=aE h5;rw[aH h5]at QI;conv=>whnf
       refine inc j ?_;conv=>whnf
       intro IR w6 A;exact⟨(j+1,w6,_),⟨ON,V.tr A.cN⟩,sbgn [] A (hE:=⟨rfl,rfl,rfl,rfl,rfl,rfl,rfl,rfl,rfl,by dsimp only;rw[QI];rfl,rfl,trivial⟩),dec ON⟩
      have h5:¬y.1<=d.2.2.1:=aC h5;rw[aF h5]at QI;conv=>whnf
      refine inc j ?_;conv=>whnf
      intro IR w6 A;exact⟨(j+1,w6,_),⟨ON,V.tr A.cN⟩,sbgn [] A (hE:=⟨rfl,rfl,rfl,rfl,rfl,rfl,rfl,rfl,rfl,by dsimp only;rw[QI];rfl,rfl,trivial⟩),dec ON⟩
     have ON:j=t.length:=by have:=aC ON;omega
     subst ON;have QE:=ic TE d.2.2.1 t.length lr;conv=>whnf
     refine cD (cE V (pE (iV (fw d.2.1 (iy t d.2.2.1 t.length)))) (fun O J r=>lI J ⟨Q4,Qk⟩ QE) ?_);rintro O RC v12 RL RM r R V h_ rfl;clear r;have QE:=ic TE d.2.2.1 t.length lr;have S3:=jm (a:=d.2.1) (p:=iy t d.2.2.1 t.length) ⟨Q4,Qk⟩ QE;obtain⟨q,QL⟩:=exq (kl t d);rw[show fw d.2.1 (iy t d.2.2.1 t.length)=q from QL]at S3 ⊢;conv=>whnf
     apply bS<;>intro N
     .have N:=aE N;have OC:e0=8:=by rw[OJ];exact cJ hd (by rw[fM,aF (fun h=>h Px),aF (fun h=>h Ox),aH be]) bi
      conv=>whnf
      exact rtn V fun GT we re=>.inl ⟨by rw[OC];decide,by rw[OC];rfl⟩
     have N:=aC N;have S4:fM f.nodes.length t d=0:=by rw[fM,aF (fun h=>h Px),aF (fun h=>h Ox),aF be]
     have Pw:=OJ;rw[dH (e:=fun _=>fM f.nodes.length t) hd S4]at Pw;have S5:=jP (g:=eo t) hd;obtain⟨z,hz⟩:=exq ((1:Int)*q);have SS: -100000000<=z/\z<=100000000:=by
      rcases(OE.1 Ox).2 with e|e
      .rw[<-hz,e];omega
      .rw[<-hz,e];omega
     have R9:∀m,(1:Int)=0->gq t d m=(m,z,0,0):=fun m e=>by unfold gq;rw[Pv,Rt,QL,hz,aH e]
     have Ra:∀m,(1:Int)≠0->gq t d m=(m,0,z,0):=fun m e=>by unfold gq;rw[Pv,Rt,QL,hz,aF e]
     conv=>whnf
     refine⟨Nat×List (List Value)×World×Iv,fun z=>⟨[(2,sV at_ t.length ct),(3,pP 0 0),(10,.o (.w 1 z.2.1.length)),(34,sV ad ds.length cd),(35,iZ ds.length),(36,iN i),(12,pP 2 0),(17,iZ q),(88,.a [.v (iV d.1.1),.v (iV d.1.2.1),.v (iV d.1.2.2.1),.v (iV d.1.2.2.2)]),(89,iN z.1)],[(1,.vec T.gV 4 z.2.1.flatten),(2,.box T.uZ [.v (iV d.1.1),.v (iV d.1.2.1),.v (iV d.1.2.2.1),.v (iV d.1.2.2.2),.v (iV d.2.1),.v (iV d.2.2.1),.v (iV 1),.v (iV (1))]),(0,.box T.Frame [.v (.slice an f.nodes.length cn),.v (.slice ab f.bars.length cb),.v (.slice aq f.cV.length cq)])],3,z.2.2.2,z.2.2.1⟩,fun z=>4-z.1,
      fun z=>z.1<=4/\Bq w z.2.2.1/\dR 4 dD z.2.2.1 S z.2.1 (jl (eo t) (ds.take i)++(eo t d).take z.1)/\z.2.1.length=4*i+z.1,?_,?_⟩
     .intro O J r;exact⟨(0,W,J,_),⟨aP _,V.tr r.cN,by dsimp only;rw[List.take_zero,List.append_nil];exact dR.map (P:=dD) (P':=dD) (I:=J) (S':=S) hG fun _ _ h=>h,OR⟩,sbgn [] r⟩
     clear V hG OR OL;rintro⟨k,W,I,iv⟩ ⟨E,V,hG,OR⟩;dsimp only at E V hG OR ⊢;have OL:=ed hG.wid;conv=>whnf
     apply bS<;>intro OA
     .have OA:k<4:=by have:=aE OA;omega
      obtain⟨m,hm⟩:∃x,(wS d.1)[k]? =some x:=⟨_,aB (show k<4 from OA)⟩
      have S6:(1:Int)≠0:=by decide
      conv=>whnf
      refine iT hτ (L:= #[iV d.1.1,iV d.1.2.1,iV d.1.2.2.1,iV d.1.2.2.2]) rfl rfl rfl (fun _=>rfl) rfl ⟨be,be⟩ (qT hm) (fun O w4 r=>?_);replace V:=V.tr r.cN;clear r;conv=>whnf
      refine⟨z,wo,?_⟩;conv=>whnf
      have PF:=hG.push (L:=[iV m,iV 0,iV z,iV 0]) (q:=(m,0,z,0)) rfl rfl;rw[bI,<-Ra m S6,<-iU hm]at PF;have OV:W.flatten++([iV m,iV 0,iV z,iV 0]:List Value)=(W++([[iV m,iV 0,iV z,iV 0]]:List (List Value))).flatten:=by simp
      conv=>whnf
      refine .inl ?_;conv=>whnf
      refine⟨be,be,mx,?_⟩;conv=>whnf
      refine inc k ?_;conv=>whnf
      intro IR w6 A;exact⟨(k+1,W++([[iV m,iV 0,iV z,iV 0]]:List (List Value)),w6,_),⟨OA,V.tr A.cN,dR.map (P:=dD) (P':=dD) (I:=w6) (S':=S) PF fun _ _ h=>h,by dsimp only;rw[List.length_append,List.length_singleton,OR];omega⟩,sbgn [(1,5)] A ⟨by dsimp only;rw[<-OV];rfl,rfl,rfl,trivial⟩ ⟨rfl,rfl,by dsimp only;rw[l1];rfl,rfl,rfl,rfl,rfl,rfl,rfl,rfl,trivial⟩,dec OA⟩
     have OA:k=4:=by have:=aC OA;omega
     subst OA;rw[show (eo t d).take 4=eo t d from rfl,<-S5]at hG;conv=>whnf
     refine inc i ?_;conv=>whnf
     intro IR w6 A;exact⟨(i+1,W,w6,_),⟨Ny,V.tr A.cN,dR.map (P:=dD) (P':=dD) (I:=w6) (S':=S) hG fun _ _ h=>h,by dsimp only;omega,Pw⟩,sbgn [] A,dec Ny⟩
    .conv=>whnf
     refine⟨Nat×World×Iv,fun z=>⟨[(2,sV at_ t.length ct),(3,pP 0 0),(10,.o (.w 1 W.length)),(34,sV ad ds.length cd),(35,iZ ds.length),(36,iN i),(12,pP 2 0),(67,sV at_ t.length ct),(68,iZ t.length),(14,.o (.v (iV (iy t d.2.2.1 z.1)))),(69,iN z.1)],[(2,.box T.uZ [.v (iV d.1.1),.v (iV d.1.2.1),.v (iV d.1.2.2.1),.v (iV d.1.2.2.2),.v (iV d.2.1),.v (iV d.2.2.1),.v (iV 1),.v (iV (-1))]),(1,.vec T.gV 4 W.flatten),(0,.box T.Frame [.v (.slice an f.nodes.length cn),.v (.slice ab f.bars.length cb),.v (.slice aq f.cV.length cq)])],3,z.2.2,z.2.1⟩,fun z=>t.length-z.1,
      fun z=>z.1<=t.length/\Bq w z.2.1,?_,?_⟩
     .intro O J A;exact⟨(0,J,_),⟨aP _,V.tr A.cN⟩,sbgn [] A⟩
     clear V;rintro⟨j,I,iv⟩ ⟨hj,V⟩;dsimp only at hj V ⊢;conv=>whnf
     apply bS<;>intro ON
     .have ON:=dL ON;obtain⟨y,hy⟩:=gO t j;obtain⟨ady,csy,RF,hP,-,PS⟩:=hT.load bi hy;have hP:csy=[iV y.1,iV y.2]:=hP;subst hP;have QI:=k5 (z:=d.2.2.1) hy;conv=>whnf
      refine⟨ady,RF,be,?_⟩;conv=>whnf
      refine⟨[iV y.1,iV y.2],rfl,rdO PS V U,?_⟩;conv=>whnf
      apply bS<;>intro h5
      .have h5:y.1<=d.2.2.1:=aE h5;rw[aH h5]at QI;conv=>whnf
       refine inc j ?_;conv=>whnf
       intro IR w6 A;exact⟨(j+1,w6,_),⟨ON,V.tr A.cN⟩,sbgn [] A (hE:=⟨rfl,rfl,rfl,rfl,rfl,rfl,rfl,rfl,rfl,by dsimp only;rw[QI];rfl,rfl,trivial⟩),dec ON⟩
      have h5:¬y.1<=d.2.2.1:=aC h5;rw[aF h5]at QI;conv=>whnf
      refine inc j ?_;conv=>whnf
      intro IR w6 A;exact⟨(j+1,w6,_),⟨ON,V.tr A.cN⟩,sbgn [] A (hE:=⟨rfl,rfl,rfl,rfl,rfl,rfl,rfl,rfl,rfl,by dsimp only;rw[QI];rfl,rfl,trivial⟩),dec ON⟩
     have ON:j=t.length:=by have:=aC ON;omega
     subst ON;have QE:=ic TE d.2.2.1 t.length lr;conv=>whnf
     refine cD (cE V (pE (iV (fw d.2.1 (iy t d.2.2.1 t.length)))) (fun O J r=>lI J ⟨Q4,Qk⟩ QE) ?_);rintro O _ _ _ RM r R V h_ rfl;clear r;have QE:=ic TE d.2.2.1 t.length lr;have S3:=jm (a:=d.2.1) (p:=iy t d.2.2.1 t.length) ⟨Q4,Qk⟩ QE;obtain⟨q,QL⟩:=exq (kl t d);rw[show fw d.2.1 (iy t d.2.2.1 t.length)=q from QL]at S3 ⊢;conv=>whnf
     apply bS<;>intro N
     .have N:=aE N;have OC:e0=8:=by rw[OJ];exact cJ hd (by rw[fM,aF (fun h=>h Px),aF (fun h=>h Ox),aH be]) bi
      conv=>whnf
      exact rtn V fun GT we re=>.inl ⟨by rw[OC];decide,by rw[OC];rfl⟩
     have N:=aC N;have S4:fM f.nodes.length t d=0:=by rw[fM,aF (fun h=>h Px),aF (fun h=>h Ox),aF be]
     have Pw:=OJ;rw[dH (e:=fun _=>fM f.nodes.length t) hd S4]at Pw;have S5:=jP (g:=eo t) hd;obtain⟨z,hz⟩:=exq ((-1:Int)*q);have SS: -100000000<=z/\z<=100000000:=by
      rcases(OE.1 Ox).2 with e|e
      .rw[<-hz,e];omega
      .rw[<-hz,e];omega
     have R9:∀m,(1:Int)=0->gq t d m=(m,z,0,0):=fun m e=>by unfold gq;rw[Pv,Rt,QL,hz,aH e]
     have Ra:∀m,(1:Int)≠0->gq t d m=(m,0,z,0):=fun m e=>by unfold gq;rw[Pv,Rt,QL,hz,aF e]
     conv=>whnf
     refine⟨Nat×List (List Value)×World×Iv,fun z=>⟨[(2,sV at_ t.length ct),(3,pP 0 0),(10,.o (.w 1 z.2.1.length)),(34,sV ad ds.length cd),(35,iZ ds.length),(36,iN i),(12,pP 2 0),(17,iZ q),(88,.a [.v (iV d.1.1),.v (iV d.1.2.1),.v (iV d.1.2.2.1),.v (iV d.1.2.2.2)]),(89,iN z.1)],[(1,.vec T.gV 4 z.2.1.flatten),(2,.box T.uZ [.v (iV d.1.1),.v (iV d.1.2.1),.v (iV d.1.2.2.1),.v (iV d.1.2.2.2),.v (iV d.2.1),.v (iV d.2.2.1),.v (iV 1),.v (iV (-1))]),(0,.box T.Frame [.v (.slice an f.nodes.length cn),.v (.slice ab f.bars.length cb),.v (.slice aq f.cV.length cq)])],3,z.2.2.2,z.2.2.1⟩,fun z=>4-z.1,
      fun z=>z.1<=4/\Bq w z.2.2.1/\dR 4 dD z.2.2.1 S z.2.1 (jl (eo t) (ds.take i)++(eo t d).take z.1)/\z.2.1.length=4*i+z.1,?_,?_⟩
     .intro O J r;exact⟨(0,W,J,_),⟨aP _,V.tr r.cN,by dsimp only;rw[List.take_zero,List.append_nil];exact dR.map (P:=dD) (P':=dD) (I:=J) (S':=S) hG fun _ _ h=>h,OR⟩,sbgn [] r⟩
     clear V hG OR OL;rintro⟨k,W,I,iv⟩ ⟨E,V,hG,OR⟩;dsimp only at E V hG OR ⊢;have OL:=ed hG.wid;conv=>whnf
     apply bS<;>intro OA
     .have OA:k<4:=by have:=aE OA;omega
      obtain⟨m,hm⟩:∃x,(wS d.1)[k]? =some x:=⟨_,aB (show k<4 from OA)⟩
      have S6:(1:Int)≠0:=by decide
      conv=>whnf
      refine iT hτ (L:= #[iV d.1.1,iV d.1.2.1,iV d.1.2.2.1,iV d.1.2.2.2]) rfl rfl rfl (fun _=>rfl) rfl ⟨be,be⟩ (qT hm) (fun O w4 r=>?_);replace V:=V.tr r.cN;clear r;conv=>whnf
      refine⟨z,wo,?_⟩;conv=>whnf
      have PF:=hG.push (L:=[iV m,iV 0,iV z,iV 0]) (q:=(m,0,z,0)) rfl rfl;rw[bI,<-Ra m S6,<-iU hm]at PF;have OV:W.flatten++([iV m,iV 0,iV z,iV 0]:List Value)=(W++([[iV m,iV 0,iV z,iV 0]]:List (List Value))).flatten:=by simp
      conv=>whnf
      refine .inl ?_;conv=>whnf
      refine⟨be,be,mx,?_⟩;conv=>whnf
      refine inc k ?_;conv=>whnf
      intro IR w6 A;exact⟨(k+1,W++([[iV m,iV 0,iV z,iV 0]]:List (List Value)),w6,_),⟨OA,V.tr A.cN,dR.map (P:=dD) (P':=dD) (I:=w6) (S':=S) PF fun _ _ h=>h,by dsimp only;rw[List.length_append,List.length_singleton,OR];omega⟩,sbgn [(1,5)] A ⟨by dsimp only;rw[<-OV];rfl,rfl,rfl,trivial⟩ ⟨rfl,rfl,by dsimp only;rw[l1];rfl,rfl,rfl,rfl,rfl,rfl,rfl,rfl,trivial⟩,dec OA⟩
     have OA:k=4:=by have:=aC OA;omega
     subst OA;rw[show (eo t d).take 4=eo t d from rfl,<-S5]at hG;conv=>whnf
     refine inc i ?_;conv=>whnf
     intro IR w6 A;exact⟨(i+1,W,w6,_),⟨Ny,V.tr A.cN,dR.map (P:=dD) (P':=dD) (I:=w6) (S':=S) hG fun _ _ h=>h,by dsimp only;omega,Pw⟩,sbgn [] A,dec Ny⟩
  conv=>whnf
  apply bS<;>intro g0
  .have g0:ax≠0:=by simpa using g0
   conv=>whnf
   apply bS<;>intro g1
   .have g1:ax≠1:=by simpa using g1
    have OC:e0=2:=by rw[OJ];exact cJ hd (by rw[fM,aF (fun h=>h Px),aH (fun h=>by have:=OE.1 h;omega)]) bi
    conv=>whnf
    exact rtn V fun GT we re=>.inl ⟨by rw[OC];decide,by rw[OC];rfl⟩
   have g1:ax=1:=by simpa using g1
   conv=>whnf
   apply bS<;>intro g2
   .have g2:sg≠1:=by simpa using g2
    conv=>whnf
    apply bS<;>intro g3
    .have g3:sg≠ -1:=by simpa using g3
     have OC:e0=2:=by rw[OJ];exact cJ hd (by rw[fM,aF (fun h=>h Px),aH (fun h=>by have:=OE.1 h;omega)]) bi
     conv=>whnf
     exact rtn V fun GT we re=>.inl ⟨by rw[OC];decide,by rw[OC];rfl⟩
    have g3:sg= -1:=by simpa using g3
    exact absurd (OE.2 be) Ox
   have g2:sg=1:=by simpa using g2
   exact absurd (OE.2 be) Ox
  have g0:ax=0:=by simpa using g0
  conv=>whnf
  apply bS<;>intro g2
  .have g2:sg≠1:=by simpa using g2
   conv=>whnf
   apply bS<;>intro g3
   .have g3:sg≠ -1:=by simpa using g3
    have OC:e0=2:=by rw[OJ];exact cJ hd (by rw[fM,aF (fun h=>h Px),aH (fun h=>by have:=OE.1 h;omega)]) bi
    conv=>whnf
    exact rtn V fun GT we re=>.inl ⟨by rw[OC];decide,by rw[OC];rfl⟩
   have g3:sg= -1:=by simpa using g3
   exact absurd (OE.2 be) Ox
  have g2:sg=1:=by simpa using g2
  exact absurd (OE.2 be) Ox
 have Ny:i=ds.length:=by have:=aC Ny;omega
 rw[dy be]at OJ;rw[Ny,bG]at hG;conv=>whnf
 have OC:e0=0:=by exact OJ
 conv=>whnf
 intro GT we re;have h5:=re.iq (id:=1) (sz:=4) (m:=W.length) rfl OL mx bi (hG.one fun L q h=>dD.one h);exact⟨_,rfl,V.tr re.cN,.inr ⟨OC,_,rfl,dR.list (hG.map fun L q h=>h) (h5.cF fun g F=>.inr F)⟩⟩
theorem Ca{vn vb vs vt:Value}(U:Old S w)(hf:dq w S vn vb vs f)(hD:sK w S v ds)(hT:oC w S vt t)(OJ:e0=JN f.nodes.length ds t):
  eC PG Fn.oK #[.agg #[vn,vb,vs],v,vt] w (eI w fun v' I=>(e0≠0/\v'= .tuple #[nls,iV e0])\/(e0=0/\∃vr,v'= .tuple #[vr,iV 0]/\cU I (Nf w I) vr (jl (eo t) ds))):=by
 have V:=bR w;obtain⟨an,cn,ab,cb,aq,cq,rfl,rfl,rfl,RH,Rh,Si⟩:=hf.shape;obtain⟨ad,cd,rfl,-,hmd⟩:=hD.shape;have hT0:=hT;obtain⟨at_,ct,rfl,-,hmt⟩:=hT.shape;unfold maxLen at hmd hmt;refine r8 bv ?_;conv=>whnf
 obtain⟨ew,hew⟩:=exq (jZ t);rw[JN,hew]at OJ;conv=>whnf
 refine cD (cE V (pE (iV ew)) (fun O J r=>(CZ (oS U r) (dW.EJ hT (kS V r U))).mono fun _ _ ⟨v2,e1,e2,e3⟩=>⟨v2,e1,e2,by rw[e3,hew]⟩) ?_);rintro O _ _ _ OK r R V h_ rfl;clear r;conv=>whnf
 apply bS<;>intro Y
 .have Y:ew≠0:=by simpa using Y
  have OC:e0=ew:=by rw[OJ,aH Y]
  conv=>whnf
  exact rtn V fun GT we re=>.inl ⟨by rw[OC];exact Y,by rw[OC];rfl⟩
 have Y:ew=0:=by simpa using Y
 rw[aF (fun h=>h Y)]at OJ;obtain⟨ht100,TE⟩:=Gd (hew.trans Y);conv=>whnf
 apply bS<;>intro X
 .have X:=aE X;have OC:e0=8:=by rw[OJ,aH be]
  conv=>whnf
  exact rtn V fun GT we re=>.inl ⟨by rw[OC];decide,by rw[OC];rfl⟩
 have h50:¬50<ds.length:=by have:=aC X;omega
 rw[aF h50]at OJ;conv=>whnf
 refine⟨Nat×List (List Value)×World×Iv,fun z=>⟨[(1,sV ad ds.length cd),(2,sV at_ t.length ct),(3,pP 0 0),(9,.o (.w 1 z.2.1.length)),(10,iN z.1)],[(1,.vec T.gV 4 z.2.1.flatten),(0,.box T.Frame [.v (.slice an f.nodes.length cn),.v (.slice ab f.bars.length cb),.v (.slice aq f.cV.length cq)])],2,z.2.2.2,z.2.2.1⟩,fun z=>ds.length-z.1,
  fun z=>z.1<=ds.length/\Bq w z.2.2.1/\dR 4 dD z.2.2.1 S z.2.1 (jl (eo t) (ds.take z.1))/\z.2.1.length=4*z.1/\e0=cX (fun _=>fM f.nodes.length t) (ds.take z.1) (ds.drop z.1),?_,?_⟩
 .intro O J r;exact⟨(0,[],J,_),⟨aP _,V.tr r.cN,dR.nil,rfl,OJ⟩,Sub.nil 9 T.gV 4 rfl (by simp[kL,SV.sc,At.sc,fp]) r fun Id r1=>sbgn [] r1⟩
 clear V OJ;rintro⟨i,W,w1,iv⟩ ⟨D,V,hG,OR,OJ⟩;dsimp only at D V hG OR OJ ⊢;have OL:=ed hG.wid;conv=>whnf
 apply bS<;>intro Ny
 .have Ny:=dL Ny;obtain⟨d,hd⟩:=gO ds i;obtain⟨adx,csx,Od,hP,-,OZ⟩:=hD.load bi hd;have hP:csx=[iV d.1.1,iV d.1.2.1,iV d.1.2.2.1,iV d.1.2.2.2,iV d.2.1,iV d.2.2.1,iV d.2.2.2.1,iV d.2.2.2.2]:=hP;subst hP;obtain⟨ax,Pv⟩:=exq d.2.2.2.1;obtain⟨sg,Rt⟩:=exq d.2.2.2.2;have OE:zx d↔(ax=0\/ax=1)/\(sg=1\/sg= -1):=by unfold zx;rw[Pv,Rt]
  rw[Pv,Rt]at OZ;conv=>whnf
  refine⟨adx,Od,be,?_⟩;conv=>whnf
  refine⟨[iV d.1.1,iV d.1.2.1,iV d.1.2.2.1,iV d.1.2.2.2,iV d.2.1,iV d.2.2.1,iV ax,iV sg],rfl,rdO OZ V U,?_⟩;conv=>whnf
  refine⟨Nat×World×Iv,fun z=>⟨[(1,sV ad ds.length cd),(2,sV at_ t.length ct),(3,pP 0 0),(9,.o (.w 1 W.length)),(10,iN i),(11,pP 2 0),(12,iN z.1)],[(2,.box T.uZ [.v (iV d.1.1),.v (iV d.1.2.1),.v (iV d.1.2.2.1),.v (iV d.1.2.2.2),.v (iV d.2.1),.v (iV d.2.2.1),.v (iV ax),.v (iV sg)]),(1,.vec T.gV 4 W.flatten),(0,.box T.Frame [.v (.slice an f.nodes.length cn),.v (.slice ab f.bars.length cb),.v (.slice aq f.cV.length cq)])],3,z.2.2,z.2.1⟩,fun z=>4-z.1,
   fun z=>z.1<=4/\Bq w z.2.1/\∀(j:Nat) x,j<z.1->(wS d.1)[j]? =some x->gA f.nodes.length x,?_,?_⟩
  .intro O J A;exact⟨(0,J,_),⟨aP _,V.tr A.cN,fun j x hj=>be⟩,sbgn [] A⟩
  clear V;rintro⟨k,I,iv⟩ ⟨E,V,hN⟩;dsimp only at E V hN ⊢;conv=>whnf
  apply bS<;>intro OA
  .have OA:k<4:=by have:=aE OA;omega
   obtain⟨x,G⟩:∃x,(wS d.1)[k]? =some x:=⟨_,aB (show k<4 from OA)⟩
   conv=>whnf
   refine dP (idO 7) ?_;conv=>whnf
   refine⟨be,?_⟩;conv=>whnf
   rw[z6 G];conv=>whnf
   refine cE V (fun _ J v I=>∃d,v= .bool d/\(d=true↔gA f.nodes.length x)) (fun O J r=>mn x an ab aq _ cn _ cb _ cq J) ?_;rintro O QK v11 QV PQ r R V h_ ⟨d2,rfl,OQ⟩;clear r
   cases d2
   .have Qm:fU f.nodes.length d.1 d.2.1=6:=by
     unfold fU;rw[aF fun h=>by have:=OQ.2 (h x (aG G));cases this]
    have OC:e0=6:=by rw[OJ];exact cJ hd (by rw[fM,Qm,aH bi]) bi
    conv=>whnf
    exact rtn V fun GT we re=>.inl ⟨by rw[OC];decide,by rw[OC];rfl⟩
   have TM:∀(j:Nat) y,j<k+1->(wS d.1)[j]? =some y->gA f.nodes.length y:=fun j y hj hy=>by
    rcases aR j k with g|g
    .exact hN j y g hy
    .have e:j=k:=by omega
     subst e;rw[G]at hy;injection hy with hy;exact hy▸OQ.1 rfl
   conv=>whnf
   refine inc k ?_;conv=>whnf
   intro IR w6 A;exact⟨(k+1,w6,_),⟨OA,V.tr A.cN,TM⟩,sbgn [] A,dec OA⟩
  have OA:k=4:=by have:=aC OA;omega
  subst OA;have hE:fU f.nodes.length d.1 d.2.1=oI d.2.1:=by
   unfold fU
   rw[aH fun x G=>by
    obtain⟨j,hj⟩:=aT G
    exact hN j x (aD.1 hj).1 hj]
  clear hN E;conv=>whnf
  refine cD (cE V (fun _ J v I=>∃b,v= .bool b/\(b=true↔0<=d.2.1/\d.2.1<=1000000000)) (fun O J r=>fm d.2.1 0 1000000000 J) ?_);rintro O _ _ _ PQ r R V h_ ⟨d2,rfl,OQ⟩;clear r
  cases d2
  .have OQ:¬(0<=d.2.1/\d.2.1<=1000000000):=fun h=>by have:=OQ.2 h;cases this
   have OC:e0=2:=by rw[OJ];exact cJ hd (by rw[fM,hE,oI,aF OQ,aH bi]) bi
   conv=>whnf
   exact rtn V fun GT we re=>.inl ⟨by rw[OC];decide,by rw[OC];rfl⟩
  have Px:fU f.nodes.length d.1 d.2.1=0:=by rw[hE,oI,aH (OQ.1 rfl)]
  obtain⟨-,Q4,Qk⟩:=tA Px;conv=>whnf
  refine cD (cE V (fun _ J v I=>∃b,v= .bool b/\(b=true↔0<=ax/\ax<=1)) (fun O J r=>fm ax 0 1 J) ?_);rintro O _ _ _ RM r R V h_ ⟨d3,rfl,TL⟩;clear r
  cases d3
  .have TL:¬(0<=ax/\ax<=1):=fun h=>by have:=TL.2 h;cases this
   have OC:e0=2:=by rw[OJ];exact cJ hd (by rw[fM,aF (fun h=>h Px),aH (fun h=>by have:=OE.1 h;omega)]) bi
   conv=>whnf
   exact rtn V fun GT we re=>.inl ⟨by rw[OC];decide,by rw[OC];rfl⟩
  have TL:=TL.1 rfl;conv=>whnf
  apply bS<;>intro g2
  .have g2:sg≠1:=by simpa using g2
   conv=>whnf
   apply bS<;>intro g3
   .have g3:sg≠ -1:=by simpa using g3
    have OC:e0=2:=by rw[OJ];exact cJ hd (by rw[fM,aF (fun h=>h Px),aH (fun h=>by have:=OE.1 h;omega)]) bi
    conv=>whnf
    exact rtn V fun GT we re=>.inl ⟨by rw[OC];decide,by rw[OC];rfl⟩
   have g3:sg= -1:=by simpa using g3
   have Ox:zx d:=OE.2 be;conv=>whnf
   refine⟨Nat×World×Iv,fun z=>⟨[(1,sV ad ds.length cd),(2,sV at_ t.length ct),(3,pP 0 0),(9,.o (.w 1 W.length)),(10,iN i),(11,pP 2 0),(13,.o (.v (iV (iy t d.2.2.1 z.1)))),(14,iN z.1)],[(2,.box T.uZ [.v (iV d.1.1),.v (iV d.1.2.1),.v (iV d.1.2.2.1),.v (iV d.1.2.2.2),.v (iV d.2.1),.v (iV d.2.2.1),.v (iV ax),.v (iV sg)]),(1,.vec T.gV 4 W.flatten),(0,.box T.Frame [.v (.slice an f.nodes.length cn),.v (.slice ab f.bars.length cb),.v (.slice aq f.cV.length cq)])],3,z.2.2,z.2.1⟩,fun z=>t.length-z.1,
    fun z=>z.1<=t.length/\Bq w z.2.1,?_,?_⟩
   .intro O J A;exact⟨(0,J,_),⟨aP _,V.tr A.cN⟩,sbgn [] A⟩
   clear V;rintro⟨j,I,iv⟩ ⟨hj,V⟩;dsimp only at hj V ⊢;conv=>whnf
   apply bS<;>intro ON
   .have ON:=dL ON;obtain⟨y,hy⟩:=gO t j;obtain⟨ady,csy,RF,hP,-,PS⟩:=hT.load bi hy;have hP:csy=[iV y.1,iV y.2]:=hP;subst hP;have QI:=k5 (z:=d.2.2.1) hy;conv=>whnf
    refine dP (idO 8) ?_;conv=>whnf
    refine⟨ady,RF,be,?_⟩;conv=>whnf
    refine⟨iV y.1,rdF (PS 0 _ rfl) V U,?_⟩;conv=>whnf
    apply bS<;>intro h5
    .have h5:y.1<=d.2.2.1:=aE h5;conv=>whnf
     refine⟨ady,RF,be,?_⟩;conv=>whnf
     refine⟨iV y.2,rdF (PS 1 _ rfl) V U,?_⟩;conv=>whnf
     rw[aH h5]at QI;conv=>whnf
     refine inc j ?_;conv=>whnf
     intro IR w6 A;exact⟨(j+1,w6,_),⟨ON,V.tr A.cN⟩,sbgn [] A (hE:=⟨rfl,rfl,rfl,rfl,rfl,rfl,by dsimp only;rw[QI];rfl,rfl,trivial⟩),dec ON⟩
    have h5:¬y.1<=d.2.2.1:=aC h5;rw[aF h5]at QI;conv=>whnf
    refine inc j ?_;conv=>whnf
    intro IR w6 A;exact⟨(j+1,w6,_),⟨ON,V.tr A.cN⟩,sbgn [] A (hE:=⟨rfl,rfl,rfl,rfl,rfl,rfl,by dsimp only;rw[QI];rfl,rfl,trivial⟩),dec ON⟩
   have ON:j=t.length:=by have:=aC ON;omega
   subst ON;have QE:=ic TE d.2.2.1 t.length lr;conv=>whnf
   refine cD (cE V (pE (iV (fw d.2.1 (iy t d.2.2.1 t.length)))) (fun O J r=>sL J ⟨Q4,Qk⟩ QE) ?_);rintro O Tl v13 Uk Tm r R V h_ rfl;clear r;have QE:=ic TE d.2.2.1 t.length lr;have S3:=jm (a:=d.2.1) (p:=iy t d.2.2.1 t.length) ⟨Q4,Qk⟩ QE;obtain⟨q,QL⟩:=exq (kl t d);rw[show fw d.2.1 (iy t d.2.2.1 t.length)=q from QL]at S3 ⊢;conv=>whnf
   apply bS<;>intro N
   .have N:=aE N;have OC:e0=8:=by rw[OJ];exact cJ hd (by rw[fM,aF (fun h=>h Px),aF (fun h=>h Ox),aH be]) bi
    conv=>whnf
    exact rtn V fun GT we re=>.inl ⟨by rw[OC];decide,by rw[OC];rfl⟩
   have N:=aC N;have S4:fM f.nodes.length t d=0:=by rw[fM,aF (fun h=>h Px),aF (fun h=>h Ox),aF be]
   have Pw:=OJ;rw[dH (e:=fun _=>fM f.nodes.length t) hd S4]at Pw;have S5:=jP (g:=eo t) hd;obtain⟨z,hz⟩:=exq ((sg:Int)*q);have SS: -100000000<=z/\z<=100000000:=by
    rcases(OE.1 Ox).2 with e|e
    .rw[<-hz,e];omega
    .rw[<-hz,e];omega
   have R9:∀m,(ax:Int)=0->gq t d m=(m,z,0,0):=fun m e=>by unfold gq;rw[Pv,Rt,QL,hz,aH e]
   have Ra:∀m,(ax:Int)≠0->gq t d m=(m,0,z,0):=fun m e=>by unfold gq;rw[Pv,Rt,QL,hz,aF e]
   conv=>whnf
   refine⟨Nat×List (List Value)×World×Iv,fun z=>⟨[(1,sV ad ds.length cd),(2,sV at_ t.length ct),(3,pP 0 0),(9,.o (.w 1 z.2.1.length)),(10,iN i),(11,pP 2 0),(15,iZ q),(16,iN z.1)],[(1,.vec T.gV 4 z.2.1.flatten),(2,.box T.uZ [.v (iV d.1.1),.v (iV d.1.2.1),.v (iV d.1.2.2.1),.v (iV d.1.2.2.2),.v (iV d.2.1),.v (iV d.2.2.1),.v (iV ax),.v (iV sg)]),(0,.box T.Frame [.v (.slice an f.nodes.length cn),.v (.slice ab f.bars.length cb),.v (.slice aq f.cV.length cq)])],3,z.2.2.2,z.2.2.1⟩,fun z=>4-z.1,
    fun z=>z.1<=4/\Bq w z.2.2.1/\dR 4 dD z.2.2.1 S z.2.1 (jl (eo t) (ds.take i)++(eo t d).take z.1)/\z.2.1.length=4*i+z.1,?_,?_⟩
   .intro O J r;exact⟨(0,W,J,_),⟨aP _,V.tr r.cN,by dsimp only;rw[List.take_zero,List.append_nil];exact dR.map (P:=dD) (P':=dD) (I:=J) (S':=S) hG fun _ _ h=>h,OR⟩,sbgn [] r⟩
   clear V hG OR OL;rintro⟨k,W,I,iv⟩ ⟨E,V,hG,OR⟩;dsimp only at E V hG OR ⊢;have OL:=ed hG.wid;conv=>whnf
   apply bS<;>intro OA
   .have OA:k<4:=by have:=aE OA;omega
    obtain⟨m,hm⟩:∃x,(wS d.1)[k]? =some x:=⟨_,aB (show k<4 from OA)⟩
    conv=>whnf
    refine dP (idO 11) ?_;conv=>whnf
    refine⟨be,?_⟩;conv=>whnf
    rw[z6 hm];conv=>whnf
    refine⟨z,wo,?_⟩;conv=>whnf
    apply bS<;>intro g4
    .have g4:ax=1:=by simpa using g4
     have S6:ax≠0:=by omega
     conv=>whnf
     refine gH hτ pB (.x 0 (.x 2 (.x 4 (.ld 1 200 (.x 3 (.x 5 (.x 6 (.x 7 .nil)))))))) d4 d4 ?_;conv=>whnf
     refine⟨z,wo,?_⟩;conv=>whnf
     refine⟨rfl,?_⟩;conv=>whnf
     have PF:=hG.push (L:=[iV m,iV 0,iV z,iV 0]) (q:=(m,0,z,0)) rfl rfl;rw[bI,<-Ra m S6,<-iU hm]at PF;have OV:W.flatten++([iV m,iV 0,iV z,iV 0]:List Value)=(W++([[iV m,iV 0,iV z,iV 0]]:List (List Value))).flatten:=by simp
     conv=>whnf
     refine .inl ?_;conv=>whnf
     refine⟨be,be,mx,?_⟩;conv=>whnf
     refine inc k ?_;conv=>whnf
     intro IR w6 A;exact⟨(k+1,W++([[iV m,iV 0,iV z,iV 0]]:List (List Value)),w6,_),⟨OA,V.tr A.cN,dR.map (P:=dD) (P':=dD) (I:=w6) (S':=S) PF fun _ _ h=>h,by dsimp only;rw[List.length_append,List.length_singleton,OR];omega⟩,sbgn [(1,5)] A ⟨by dsimp only;rw[<-OV];rfl,rfl,rfl,trivial⟩ ⟨rfl,rfl,rfl,by dsimp only;rw[l1];rfl,rfl,rfl,rfl,rfl,trivial⟩,dec OA⟩
    have g4:ax≠1:=by simpa using g4
    have S6:ax=0:=by omega
    conv=>whnf
    have PF:=hG.push (L:=[iV m,iV z,iV 0,iV 0]) (q:=(m,z,0,0)) rfl rfl;rw[bI,<-R9 m S6,<-iU hm]at PF;have OV:W.flatten++([iV m,iV z,iV 0,iV 0]:List Value)=(W++([[iV m,iV z,iV 0,iV 0]]:List (List Value))).flatten:=by simp
    conv=>whnf
    refine .inl ?_;conv=>whnf
    refine⟨be,be,mx,?_⟩;conv=>whnf
    refine inc k ?_;conv=>whnf
    intro IR w6 A;exact⟨(k+1,W++([[iV m,iV z,iV 0,iV 0]]:List (List Value)),w6,_),⟨OA,V.tr A.cN,dR.map (P:=dD) (P':=dD) (I:=w6) (S':=S) PF fun _ _ h=>h,by dsimp only;rw[List.length_append,List.length_singleton,OR];omega⟩,sbgn [(1,5)] A ⟨by dsimp only;rw[<-OV];rfl,rfl,rfl,trivial⟩ ⟨rfl,rfl,rfl,by dsimp only;rw[l1];rfl,rfl,rfl,rfl,rfl,trivial⟩,dec OA⟩
   have OA:k=4:=by have:=aC OA;omega
   subst OA;rw[show (eo t d).take 4=eo t d from rfl,<-S5]at hG;conv=>whnf
   refine inc i ?_;conv=>whnf
   intro IR w6 A;exact⟨(i+1,W,w6,_),⟨Ny,V.tr A.cN,dR.map (P:=dD) (P':=dD) (I:=w6) (S':=S) hG fun _ _ h=>h,by dsimp only;omega,Pw⟩,sbgn [] A,dec Ny⟩
  have g2:sg=1:=by simpa using g2
  have Ox:zx d:=OE.2 be;conv=>whnf
  refine⟨Nat×World×Iv,fun z=>⟨[(1,sV ad ds.length cd),(2,sV at_ t.length ct),(3,pP 0 0),(9,.o (.w 1 W.length)),(10,iN i),(11,pP 2 0),(13,.o (.v (iV (iy t d.2.2.1 z.1)))),(14,iN z.1)],[(2,.box T.uZ [.v (iV d.1.1),.v (iV d.1.2.1),.v (iV d.1.2.2.1),.v (iV d.1.2.2.2),.v (iV d.2.1),.v (iV d.2.2.1),.v (iV ax),.v (iV sg)]),(1,.vec T.gV 4 W.flatten),(0,.box T.Frame [.v (.slice an f.nodes.length cn),.v (.slice ab f.bars.length cb),.v (.slice aq f.cV.length cq)])],3,z.2.2,z.2.1⟩,fun z=>t.length-z.1,
   fun z=>z.1<=t.length/\Bq w z.2.1,?_,?_⟩
  .intro O J A;exact⟨(0,J,_),⟨aP _,V.tr A.cN⟩,sbgn [] A⟩
  clear V;rintro⟨j,I,iv⟩ ⟨hj,V⟩;dsimp only at hj V ⊢;conv=>whnf
  apply bS<;>intro ON
  .have ON:=dL ON;obtain⟨y,hy⟩:=gO t j;obtain⟨ady,csy,RF,hP,-,PS⟩:=hT.load bi hy;have hP:csy=[iV y.1,iV y.2]:=hP;subst hP;have QI:=k5 (z:=d.2.2.1) hy;conv=>whnf
   refine dP (idO 8) ?_;conv=>whnf
   refine⟨ady,RF,be,?_⟩;conv=>whnf
   refine⟨iV y.1,rdF (PS 0 _ rfl) V U,?_⟩;conv=>whnf
   apply bS<;>intro h5
   .have h5:y.1<=d.2.2.1:=aE h5;conv=>whnf
    refine⟨ady,RF,be,?_⟩;conv=>whnf
    refine⟨iV y.2,rdF (PS 1 _ rfl) V U,?_⟩;conv=>whnf
    rw[aH h5]at QI;conv=>whnf
    refine inc j ?_;conv=>whnf
    intro IR w6 A;exact⟨(j+1,w6,_),⟨ON,V.tr A.cN⟩,sbgn [] A (hE:=⟨rfl,rfl,rfl,rfl,rfl,rfl,by dsimp only;rw[QI];rfl,rfl,trivial⟩),dec ON⟩
   have h5:¬y.1<=d.2.2.1:=aC h5;rw[aF h5]at QI;conv=>whnf
   refine inc j ?_;conv=>whnf
   intro IR w6 A;exact⟨(j+1,w6,_),⟨ON,V.tr A.cN⟩,sbgn [] A (hE:=⟨rfl,rfl,rfl,rfl,rfl,rfl,by dsimp only;rw[QI];rfl,rfl,trivial⟩),dec ON⟩
  have ON:j=t.length:=by have:=aC ON;omega
  subst ON;have QE:=ic TE d.2.2.1 t.length lr;conv=>whnf
  refine cD (cE V (pE (iV (fw d.2.1 (iy t d.2.2.1 t.length)))) (fun O J r=>sL J ⟨Q4,Qk⟩ QE) ?_);rintro O _ _ _ Tm r R V h_ rfl;clear r;have QE:=ic TE d.2.2.1 t.length lr;have S3:=jm (a:=d.2.1) (p:=iy t d.2.2.1 t.length) ⟨Q4,Qk⟩ QE;obtain⟨q,QL⟩:=exq (kl t d);rw[show fw d.2.1 (iy t d.2.2.1 t.length)=q from QL]at S3 ⊢;conv=>whnf
  apply bS<;>intro N
  .have N:=aE N;have OC:e0=8:=by rw[OJ];exact cJ hd (by rw[fM,aF (fun h=>h Px),aF (fun h=>h Ox),aH be]) bi
   conv=>whnf
   exact rtn V fun GT we re=>.inl ⟨by rw[OC];decide,by rw[OC];rfl⟩
  have N:=aC N;have S4:fM f.nodes.length t d=0:=by rw[fM,aF (fun h=>h Px),aF (fun h=>h Ox),aF be]
  have Pw:=OJ;rw[dH (e:=fun _=>fM f.nodes.length t) hd S4]at Pw;have S5:=jP (g:=eo t) hd;obtain⟨z,hz⟩:=exq ((sg:Int)*q);have SS: -100000000<=z/\z<=100000000:=by
   rcases(OE.1 Ox).2 with e|e
   .rw[<-hz,e];omega
   .rw[<-hz,e];omega
  have R9:∀m,(ax:Int)=0->gq t d m=(m,z,0,0):=fun m e=>by unfold gq;rw[Pv,Rt,QL,hz,aH e]
  have Ra:∀m,(ax:Int)≠0->gq t d m=(m,0,z,0):=fun m e=>by unfold gq;rw[Pv,Rt,QL,hz,aF e]
  conv=>whnf
  refine⟨Nat×List (List Value)×World×Iv,fun z=>⟨[(1,sV ad ds.length cd),(2,sV at_ t.length ct),(3,pP 0 0),(9,.o (.w 1 z.2.1.length)),(10,iN i),(11,pP 2 0),(15,iZ q),(16,iN z.1)],[(1,.vec T.gV 4 z.2.1.flatten),(2,.box T.uZ [.v (iV d.1.1),.v (iV d.1.2.1),.v (iV d.1.2.2.1),.v (iV d.1.2.2.2),.v (iV d.2.1),.v (iV d.2.2.1),.v (iV ax),.v (iV sg)]),(0,.box T.Frame [.v (.slice an f.nodes.length cn),.v (.slice ab f.bars.length cb),.v (.slice aq f.cV.length cq)])],3,z.2.2.2,z.2.2.1⟩,fun z=>4-z.1,
   fun z=>z.1<=4/\Bq w z.2.2.1/\dR 4 dD z.2.2.1 S z.2.1 (jl (eo t) (ds.take i)++(eo t d).take z.1)/\z.2.1.length=4*i+z.1,?_,?_⟩
  .intro O J r;exact⟨(0,W,J,_),⟨aP _,V.tr r.cN,by dsimp only;rw[List.take_zero,List.append_nil];exact dR.map (P:=dD) (P':=dD) (I:=J) (S':=S) hG fun _ _ h=>h,OR⟩,sbgn [] r⟩
  clear V hG OR OL;rintro⟨k,W,I,iv⟩ ⟨E,V,hG,OR⟩;dsimp only at E V hG OR ⊢;have OL:=ed hG.wid;conv=>whnf
  apply bS<;>intro OA
  .have OA:k<4:=by have:=aE OA;omega
   obtain⟨m,hm⟩:∃x,(wS d.1)[k]? =some x:=⟨_,aB (show k<4 from OA)⟩
   conv=>whnf
   refine dP (idO 11) ?_;conv=>whnf
   refine⟨be,?_⟩;conv=>whnf
   rw[z6 hm];conv=>whnf
   refine⟨z,wo,?_⟩;conv=>whnf
   apply bS<;>intro g4
   .have g4:ax=1:=by simpa using g4
    have S6:ax≠0:=by omega
    conv=>whnf
    refine gH hτ pB (.x 0 (.x 2 (.x 4 (.ld 1 200 (.x 3 (.x 5 (.x 6 (.x 7 .nil)))))))) d4 d4 ?_;conv=>whnf
    refine⟨z,wo,?_⟩;conv=>whnf
    refine⟨rfl,?_⟩;conv=>whnf
    have PF:=hG.push (L:=[iV m,iV 0,iV z,iV 0]) (q:=(m,0,z,0)) rfl rfl;rw[bI,<-Ra m S6,<-iU hm]at PF;have OV:W.flatten++([iV m,iV 0,iV z,iV 0]:List Value)=(W++([[iV m,iV 0,iV z,iV 0]]:List (List Value))).flatten:=by simp
    conv=>whnf
    refine .inl ?_;conv=>whnf
    refine⟨be,be,mx,?_⟩;conv=>whnf
    refine inc k ?_;conv=>whnf
    intro IR w6 A;exact⟨(k+1,W++([[iV m,iV 0,iV z,iV 0]]:List (List Value)),w6,_),⟨OA,V.tr A.cN,dR.map (P:=dD) (P':=dD) (I:=w6) (S':=S) PF fun _ _ h=>h,by dsimp only;rw[List.length_append,List.length_singleton,OR];omega⟩,sbgn [(1,5)] A ⟨by dsimp only;rw[<-OV];rfl,rfl,rfl,trivial⟩ ⟨rfl,rfl,rfl,by dsimp only;rw[l1];rfl,rfl,rfl,rfl,rfl,trivial⟩,dec OA⟩
   have g4:ax≠1:=by simpa using g4
   have S6:ax=0:=by omega
   conv=>whnf
   have PF:=hG.push (L:=[iV m,iV z,iV 0,iV 0]) (q:=(m,z,0,0)) rfl rfl;rw[bI,<-R9 m S6,<-iU hm]at PF;have OV:W.flatten++([iV m,iV z,iV 0,iV 0]:List Value)=(W++([[iV m,iV z,iV 0,iV 0]]:List (List Value))).flatten:=by simp
   conv=>whnf
   refine .inl ?_;conv=>whnf
   refine⟨be,be,mx,?_⟩;conv=>whnf
   refine inc k ?_;conv=>whnf
   intro IR w6 A;exact⟨(k+1,W++([[iV m,iV z,iV 0,iV 0]]:List (List Value)),w6,_),⟨OA,V.tr A.cN,dR.map (P:=dD) (P':=dD) (I:=w6) (S':=S) PF fun _ _ h=>h,by dsimp only;rw[List.length_append,List.length_singleton,OR];omega⟩,sbgn [(1,5)] A ⟨by dsimp only;rw[<-OV];rfl,rfl,rfl,trivial⟩ ⟨rfl,rfl,rfl,by dsimp only;rw[l1];rfl,rfl,rfl,rfl,rfl,trivial⟩,dec OA⟩
  have OA:k=4:=by have:=aC OA;omega
  subst OA;rw[show (eo t d).take 4=eo t d from rfl,<-S5]at hG;conv=>whnf
  refine inc i ?_;conv=>whnf
  intro IR w6 A;exact⟨(i+1,W,w6,_),⟨Ny,V.tr A.cN,dR.map (P:=dD) (P':=dD) (I:=w6) (S':=S) hG fun _ _ h=>h,by dsimp only;omega,Pw⟩,sbgn [] A,dec Ny⟩
 have Ny:i=ds.length:=by have:=aC Ny;omega
 rw[dy be]at OJ;rw[Ny,bG]at hG;conv=>whnf
 have OC:e0=0:=by exact OJ
 conv=>whnf
 intro GT we re;have h5:=re.iq (id:=1) (sz:=4) (m:=W.length) rfl OL mx bi (hG.one fun L q h=>dD.one h);exact⟨_,rfl,V.tr re.cN,.inr ⟨OC,_,rfl,dR.list (hG.map fun L q h=>h) (h5.cF fun g F=>.inr F)⟩⟩
def BW(e:Int)(l:List Ld):List Ld:=if e=0 then l else []
theorem qU{v':Value}{e:Int}{l:List Ld}(h:(e≠0/\v'= .tuple #[nls,iV e])\/(e=0/\∃vr,v'= .tuple #[vr,iV 0]/\cU w S vr l)):∃vr,v'= .tuple #[vr,iV e]/\cU w S vr (BW e l):=by
 rcases h with⟨Y,rfl⟩|⟨rfl,vr,rfl,X⟩
 .exact⟨_,rfl,by rw[BW,aF Y];exact cU.Nk⟩
 .exact⟨_,rfl,by rw[BW,aH rfl];exact X⟩
theorem dW.xl{t:List Dk}(h:sJ w S v t)(E:∀g,S g->I.heap[g]? =w.heap[g]?):sJ I S v t:=by
 obtain⟨W,Y,X,N,h4⟩:=h;exact⟨W,Y.cK E,X,N,fun j L x k1 k2=>h4 j L x k1 k2⟩
theorem dW.Jz{t:List Hb}(h:sK w S v t)(E:∀g,S g->I.heap[g]? =w.heap[g]?):sK I S v t:=by
 obtain⟨W,Y,X,N,h4⟩:=h;exact⟨W,Y.cK E,X,N,fun j L x k1 k2=>h4 j L x k1 k2⟩
theorem z7{vn vb vs vd va vt vz:Value}{f:FX}{ds:List Dk}{p:Int}{fs:List Hb}(U:Old S w)(hF:pj w S vn vb vs f)(hD:sJ w S vd ds)(hA:sK w S va fs)(hT:oC w S vt t)(hZ:tf w S vz zs):
  eC PG Fn.km #[.agg #[vn,vb,vs],.agg #[vd,iV p,va,vt],vz] w (eI w fun v' _=>v'= .bool true):=by
 have V:=bR w;obtain⟨an,cn,rfl,-,-⟩:=hF.nodes.shape;obtain⟨ab,cb,rfl,-,-⟩:=hF.bars.shape;obtain⟨aq,cq,rfl,-,-⟩:=hF.cV.shape;obtain⟨ad,cd,rfl,-,-⟩:=hD.shape;obtain⟨aa,ca,rfl,-,-⟩:=hA.shape;obtain⟨at_,ct,rfl,-,-⟩:=hT.shape;obtain⟨az,cz,rfl,-,-⟩:=hZ.shape;refine oU bv ?_;refine cD (cE V (fun _ J v I=>∃d,v= .bool d/\(d=true->dq w S (.slice an f.nodes.length cn) (.slice ab f.bars.length cb) (.slice aq f.cV.length cq) f.val/\(∀b∈f.val.bars,rl b.2.2<=3)/\(∀b∈f.val.cV,rl b.2.2<=3)/\(eJ f.val≠0\/f.val.nodes.length<=4/\f.val.bars.length<=6))) (fun O J r=>Ho U V r hF) ?_);rintro O _ _ _ OK r R V h_ ⟨d1,rfl,OG⟩;clear r
 cases d1
 .conv=>whnf
  refine cD (cE V (pE (.bool true)) (fun O J r=>lH J) ?_);rintro O QT v2 PO OH r R V h_ rfl;clear r;exact rtn V fun GT we re=>rfl
 have OG:=OG rfl;apply bS<;>intro _
 .conv=>whnf
  refine cD (cE V (pE (.bool true)) (fun O J r=>lH J) ?_);rintro O QT v2 PO OH r R V h_ rfl;clear r;exact rtn V fun GT we re=>rfl
 apply bS<;>intro _
 .conv=>whnf
  refine cD (cE V (pE (.bool true)) (fun O J r=>lH J) ?_);rintro O QT v2 PO OH r R V h_ rfl;clear r;exact rtn V fun GT we re=>rfl
 apply bS<;>intro _
 .conv=>whnf
  refine cD (cE V (pE (.bool true)) (fun O J r=>lH J) ?_);rintro O QT v2 PO OH r R V h_ rfl;clear r;exact rtn V fun GT we re=>rfl
 apply bS<;>intro _
 .conv=>whnf
  refine cD (cE V (pE (.bool true)) (fun O J r=>lH J) ?_);rintro O QT v2 PO OH r R V h_ rfl;clear r;exact rtn V fun GT we re=>rfl
 obtain⟨hR,hrb,Ux,UF⟩:=OG;obtain⟨fv,hfv⟩:=exq f.val;rw[hfv]at hR hrb Ux UF;obtain⟨en,eb,es⟩:f.nodes.length=fv.nodes.length/\f.bars.length=fv.bars.length/\f.cV.length=fv.cV.length:=by rw[<-hfv];exact⟨rfl,(aM ..).symm,(aM ..).symm⟩
 rw[en,eb,es]at hR ⊢;clear hF hfv en eb es;clear UF;obtain⟨ef,TD⟩:=exq (eJ fv);by_cases R:ef=0
 .rw[R]at TD;clear R;obtain⟨e0,OJ⟩:∃e,e=zw fv.nodes.length p ds:=⟨_,rfl⟩
  obtain⟨e1,Pw⟩:∃e,e=JN fv.nodes.length fs t:=⟨_,rfl⟩
  obtain⟨la,hLla⟩:=exq (BW e0 (jl (j5 p) ds));obtain⟨lb,hLlb⟩:=exq (BW e1 (jl (eo t) fs));obtain⟨eg,heg⟩:∃e,e=iO [la,lb] zs:=⟨_,rfl⟩
  obtain⟨lg,hLlg⟩:=exq (BW eg (fF (fK [la,lb] zs 2) 20));refine cD (cE V (fun _ J v I=>∃vr,v= .tuple #[vr,iV e0]/\cU I (Nf J I) vr la) (fun O J r=>(tq (e0:=e0) (oS U r) (hR.cK (kS V r U)) (dW.xl hD (kS V r U)) (by rw[TD,aF (fun h=>h rfl)];exact OJ)).mono fun _ _ ⟨v2,e1,e2,e3⟩=>⟨v2,e1,e2,by rw[<-hLla];exact qU e3⟩) ?_);rintro O QT v2 PO OH r R V h_ ⟨vhx1,rfl,Z⟩;have Qe:=cU.cF Z (nw r h_);clear r R;clear Z;obtain⟨ahx1,chx1,rfl,-,-⟩:=Qe.shape;refine cD (cE V (fun _ J v I=>∃vr,v= .tuple #[vr,iV e1]/\cU I (Nf J I) vr lb) (fun O J r=>(tt (e0:=e1) (oS U r) (hR.cK (kS V r U)) (dW.Jz hA (kS V r U)) (dW.EJ hT (kS V r U)) (by rw[TD,aF (fun h=>h rfl)];exact Pw)).mono fun _ _ ⟨v2,e1,e2,e3⟩=>⟨v2,e1,e2,by rw[<-hLlb];exact qU e3⟩) ?_);rintro O Pm v3 Pg OW r R V h_ ⟨vhx2,rfl,Z⟩;replace Qe:=cU.cH Qe r oF R (mC h_);have QH:=cU.cF Z (nw r h_);clear r R;clear Z;obtain⟨ahx2,chx2,rfl,-,-⟩:=QH.shape;refine cD (cE V (pE (iV 0)) (fun O J r=>(zX (oS U r) (hR.cK (kS V r U))).mono fun _ _ ⟨v2,e1,e2,e3⟩=>⟨v2,e1,e2,by rw[e3,TD]⟩) ?_);rintro O RA v4 Qi Ow r R V h_ rfl;replace Qe:=cU.cH Qe r oF R (mC h_);replace QH:=cU.cH QH r oF R (mC h_);clear r R;refine cD (cE V (fun _ J v I=>∃vr,v= .tuple #[vr,iV e0]/\cU I (Nf J I) vr la) (fun O J r=>(CY (e0:=e0) (oS U r) (hR.cK (kS V r U)) (dW.xl hD (kS V r U)) OJ).mono fun _ _ ⟨v2,e1,e2,e3⟩=>⟨v2,e1,e2,by rw[<-hLla];exact qU e3⟩) ?_);rintro O Rr v5 SH Qg r R V h_ ⟨vhy1,rfl,Z⟩;replace Qe:=cU.cH Qe r oF R (mC h_);replace QH:=cU.cH QH r oF R (mC h_);have Sk:=cU.cF Z (nw r h_);clear r R;clear Z;obtain⟨ahy1,chy1,rfl,-,-⟩:=Sk.shape;refine cD (cE V (fun _ J v I=>∃vr,v= .tuple #[vr,iV e1]/\cU I (Nf J I) vr lb) (fun O J r=>(Ca (e0:=e1) (oS U r) (hR.cK (kS V r U)) (dW.Jz hA (kS V r U)) (dW.EJ hT (kS V r U)) Pw).mono fun _ _ ⟨v2,e1,e2,e3⟩=>⟨v2,e1,e2,by rw[<-hLlb];exact qU e3⟩) ?_);rintro O _ _ _ SY r R V h_ ⟨vhy2,rfl,Z⟩;replace Qe:=cU.cH Qe r oF R (mC h_);replace QH:=cU.cH QH r oF R (mC h_);replace Sk:=cU.cH Sk r oF R (mC h_);have SD:=cU.cF Z (nw r h_);clear r R;clear Z;obtain⟨ahy2,chy2,rfl,-,-⟩:=SD.shape;refine vF.mk (fun hd=>by simp at hd) (fun _=>?_);refine vF.mk (fun hd=>by simp at hd) (fun _=>?_);refine cD (cE V (pE (.bool true)) (fun O J r=>pn (S:=Cf w SY) (rlo r oF) (cU.rel Qe r oF) (cU.rel Sk r oF)) ?_);rintro O _ _ _ Ul r R V h_ rfl;clear Qe;replace QH:=cU.cH QH r oF R (mC h_);replace Sk:=cU.cH Sk r oF R (mC h_);replace SD:=cU.cH SD r oF R (mC h_);clear r R;refine cD (cE V (pE (.bool true)) (fun O J r=>pn (S:=Cf w Ul) (rlo r oF) (cU.rel QH r oF) (cU.rel SD r oF)) ?_);rintro O _ _ _ Sj r R V h_ rfl;clear QH;replace Sk:=cU.cH Sk r oF R (mC h_);replace SD:=cU.cH SD r oF R (mC h_);clear r R
  refine cD (cE V (fun _ J v I=>∃vr,v= .tuple #[vr,iV eg]/\cU I (Nf J I) vr lg) (fun O J r=>(Hs (e0:=eg) (S:=fun g=>S g\/g<J.heap.size) (L:=[la,lb]) (fs:=zs) (fun g F=>F.elim (oS U r g) id) ⟨[.slice ahy1 la.length chy1,.slice ahy2 lb.length chy2],(r.mO (id:=2) (sz:=1) (n:=2) rfl rfl bi (by simp[Value.oneCell'];exact⟨rfl,rfl⟩)).cF fun g F=>.inr (by subst F;exact Rel.lt r (id:=2) rfl),rfl,fun i u x Y X=>by
   rcases i with _|_|i
   .cases Y;cases X;exact cU.cF (cU.rel Sk r oF) fun g F=>.inr (rlo r oF g F)
   .cases Y;cases X;exact cU.cF (cU.rel SD r oF) fun g F=>.inr (rlo r oF g F)
   .cases X⟩ (tf.cF (tf.cK hZ (kS V r U)) fun g F=>.inl F) heg).mono fun _ _ ⟨v2,e1,e2,e3⟩=>⟨v2,e1,e2,by rw[<-hLlg];exact qU e3⟩) ?_)
  rintro O _ _ _ Sh r R V h_ ⟨vhz,rfl,Z⟩;replace Sk:=cU.cH Sk r oF R (mC h_);replace SD:=cU.cH SD r oF R (mC h_);have hz:=cU.cF Z (nw r h_);clear r R;clear Z;obtain⟨ahz,chz,rfl,-,-⟩:=hz.shape
  refine cD (cE V (fun _ J v I=>∃vr,v= .tuple #[vr,iV eg]/\cU I (Nf J I) vr lg) (fun O J r=>(Hu (e0:=eg) (S:=fun g=>S g\/g<J.heap.size) (L:=[la,lb]) (fs:=zs) (fun g F=>F.elim (oS U r g) id) ⟨[.slice ahy1 la.length chy1,.slice ahy2 lb.length chy2],(r.mO (id:=3) (sz:=1) (n:=2) rfl rfl bi (by simp[Value.oneCell'];exact⟨rfl,rfl⟩)).cF fun g F=>.inr (by subst F;exact Rel.lt r (id:=3) rfl),rfl,fun i u x Y X=>by
   rcases i with _|_|i
   .cases Y;cases X;exact cU.cF (cU.rel Sk r oF) fun g F=>.inr (rlo r oF g F)
   .cases Y;cases X;exact cU.cF (cU.rel SD r oF) fun g F=>.inr (rlo r oF g F)
   .cases X⟩ (tf.cF (tf.cK hZ (kS V r U)) fun g F=>.inl F) heg).mono fun _ _ ⟨v2,e1,e2,e3⟩=>⟨v2,e1,e2,by rw[<-hLlg];exact qU e3⟩) ?_)
  rintro O _ _ _ Q6 r R V h_ ⟨vhz2,rfl,Z⟩;replace Sk:=cU.cH Sk r oF R (mC h_);replace SD:=cU.cH SD r oF R (mC h_);replace hz:=cU.cH hz r oF R (mC h_);have OQ:=cU.cF Z (nw r h_);clear r R;clear Z;obtain⟨ahz2,chz2,rfl,-,-⟩:=OQ.shape;refine vF.mk (fun _=>?_) (fun hd=>by simp at hd);refine cD (cE V (pE (.bool true)) (fun O J r=>pn (S:=Cf w Q6) (rlo r oF) (cU.rel hz r oF) (cU.rel OQ r oF)) ?_);rintro O _ _ _ PQ r R V h_ rfl;clear hz;clear OQ;clear r R;refine cD (cE V (pE (.bool true)) (fun O J r=>lH J) ?_);rintro O _ _ _ RM r R V h_ rfl;clear r R;exact rtn V fun GT we re=>rfl
 refine cD (cE V (pE (.tuple #[nls,iV ef])) (fun O J r=>(tq (e0:=ef) (oS U r) (hR.cK (kS V r U)) (dW.xl hD (kS V r U)) (by rw[TD,aH R])).mono fun _ _ ⟨v2,e1,e2,e3⟩=>⟨v2,e1,e2,e3.elim (fun h=>h.2) fun h=>absurd h.1 R⟩) ?_);rintro O _ v2 _ OH r R V h_ rfl;clear r R;refine cD (cE V (pE (.tuple #[nls,iV ef])) (fun O J r=>(tt (e0:=ef) (oS U r) (hR.cK (kS V r U)) (dW.Jz hA (kS V r U)) (dW.EJ hT (kS V r U)) (by rw[TD,aH R])).mono fun _ _ ⟨v2,e1,e2,e3⟩=>⟨v2,e1,e2,e3.elim (fun h=>h.2) fun h=>absurd h.1 R⟩) ?_);rintro O _ _ _ OW r R V h_ rfl;clear r R;refine cD (cE V (pE (iV ef)) (fun O J r=>(zX (oS U r) (hR.cK (kS V r U))).mono fun _ _ ⟨v2,e1,e2,e3⟩=>⟨v2,e1,e2,by rw[e3,TD]⟩) ?_);rintro O _ _ _ Ow r R V h_ rfl;clear r R;refine vF.mk (fun _=>?_) (fun hd=>absurd (by simpa using hd) R);refine vF.mk (fun _=>?_) (fun hd=>by simp at hd);refine vF.mk (fun _=>?_) (fun hd=>by simp at hd);refine⟨0,cs,?_⟩;refine cD (cE V (pE (.bool true)) (fun O J r=>lH J) ?_);rintro O _ _ _ Qg r R V h_ rfl;clear r R;exact rtn V fun GT we re=>rfl
end Go.Ex
