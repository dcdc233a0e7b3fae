/- Texts X245 to X250: lemmas, each with its conditions. -/
import Derived.Test.YtbffinhkognefaaGreatDoorP12
namespace Go.Ex
open Go Go.Sx Go.Proofs
variable{S:Nat->Prop}
set_option maxRecDepth 4000
theorem qk{a b:Rat}:rs (a-b)=0↔a=b:=by
 constructor
 .intro h;have:=Rat.num_eq_zero.1 (bX.1 h);grind
 .intro h;rw[h,Rat.sub_self];rfl
theorem Gq{w:World}{x:Tx}{t:Tb}{m q s h:Nat}(RR:Old S w)(PM:ed w S x t)(hW:t.Wf m q)(hs:s<q)(hm:m<=1000)(hq:q<=1000)(hH:t.uI h)(I:2<=h)(hh:h<=100000000):
  eD PG Fd.kz #[.pointer (some ⟨x.g,0,none⟩),iV s] w (eL w fun v _=>v=iV (pN (t.Dv s))):=by
 have L:=RR;have Y:=bR w;have SB:=hW.al;have OQ:=hW.b;have Sv:=hW.bs;obtain⟨aa,ca,Rb,PB,-,XZ⟩:=PM.Mv hW;obtain⟨aB,cB,TH,hcB,-,Xa⟩:=PM.Mw hW;obtain⟨ab,cb,Tt,Pv,-,Rj⟩:=PM.Mu hW;have hT:=cj.arg PM;have hR:∀i,i<m->∃a c,x.rv[i]? =some (.slice a q c)/\q<=c/\c<=maxLen/\(0<q->∃g,a=some ⟨g,0,none⟩):=fun i R=>PM.NR hW R;refine oZ ce ?_;refine⟨_,fun O J r=>hT.f2 L Rb r,Nat×((Bool×Bool)×(Option Addr×Option Addr)×(Nat×Nat×Nat×Nat))×World×Iv,fun z=>⟨[(0,.o (.v (.pointer (some ⟨x.g,0,none⟩)))),(1,.o (.v (iV (s:Int)))),(5,.o (.v (iV (pN (jd (fun i=>dZ t.a i s) (fun i=>t.b.getD i 0) (fun i=>t.bs.getD i 0) z.1))))),(6,pP 0 0),(13,sV aa m ca),(14,.o (.v (iV (m:Int)))),(15,.o (.v (iV (z.1:Int))))],[(0,.box T.cw [.v (.bool z.2.1.1.1),.v (.slice z.2.1.2.1.1 z.2.1.2.2.1 z.2.1.2.2.2.1),.v (.bool z.2.1.1.2),.v (.slice z.2.1.2.1.2 z.2.1.2.2.2.2.1 z.2.1.2.2.2.2.2)])],1,z.2.2.2,z.2.2.1⟩,fun z=>m-z.1,fun z=>z.1<=m/\Bq w z.2.2.1/\cj z.2.2.1 S w.heap.size z.2.2.2 x t/\∀k,(jd (fun i=>dZ t.a i s) (fun i=>t.b.getD i 0) (fun i=>t.bs.getD i 0) z.1)=some k->cY z.2.2.1 (Lv S w.heap.size z.2.2.2 x) (.agg #[.bool z.2.1.1.1,.slice z.2.1.2.1.1 z.2.1.2.2.1 z.2.1.2.2.2.1,.bool z.2.1.1.2,.slice z.2.1.2.1.2 z.2.1.2.2.2.2.1 z.2.1.2.2.2.2.2]) (t.b.getD k 0 / dZ t.a k s),?_,?_⟩
 .intro O J r;exact⟨(0,((false,false),(none,none),(0,0,0,0)),J,_),⟨bA _,Y.tr r.cV,hT.rel r L,fun k Z=>by cases Z⟩,sbgn [] r⟩
 clear hT Y;rintro⟨i,⟨⟨y1,y5⟩,⟨y2,y6⟩,⟨y3,y4,y7,y8⟩⟩,w1,iv⟩ ⟨R,Y,hT,hL⟩;dsimp only at R Y hT hL ⊢;obtain⟨o,ho⟩:∃o,o=(jd (fun i=>dZ t.a i s) (fun i=>t.b.getD i 0) (fun i=>t.bs.getD i 0) i):=⟨_,rfl⟩
 rw[<-ho]at hL ⊢;apply bS<;>intro OJ
 .have OJ:=dL OJ;obtain⟨ga,rfl⟩:=XZ be;obtain⟨gB,rfl⟩:=Xa be;obtain⟨gb,rfl⟩:=Rj be;obtain⟨ai,ci,RS,-,-,XX⟩:=hR i OJ;obtain⟨gi,rfl⟩:=XX be;have QG:=hW.row OJ;refine⟨_,rfl,be,_,fun O J r=>hT.cA L RS Rb r,?_⟩;obtain⟨p1,p2,p3,p4,p5,p6,p7,p8,S4,hF⟩:=hT.eA L (i:=i) (j:=s) be be RS;refine⟨_,rfl,be,rC p1 p2 p3 p4 p5 p6 p7 p8,rfl,fun O J r j x E=>S4 r j x E,?_⟩;refine cM (cN (I9:=fun _ J v F=>v=iV (rs (dZ t.a i s))) (fun O J r=>lM (Lv.old r L) (hF.fz r L)) ?_);rintro O On v1 Oi r G N rfl;replace hF:=hF.jQ (K:=(On.heap.size,Oi.heap.size)::iv) r L G fun x E=>aD _ E;replace hL:=fun k Z=>(hL k Z).jQ (K:=(On.heap.size,Oi.heap.size)::iv) r L G fun x E=>aD _ E;replace hT:=hT.cL (K:=(On.heap.size,Oi.heap.size)::iv) r L G fun x E=>aD _ E;replace Y:=Y.tr N;clear r G N;generalize (On.heap.size,Oi.heap.size)::iv=OS at*
  apply bS<;>intro hle
  .have hle:dZ t.a i s<=0:=Rat.not_lt.1 fun h=>absurd (mI.2 h) (Int.not_lt.2 (aI hle));have PZ:(jd (fun i=>dZ t.a i s) (fun i=>t.b.getD i 0) (fun i=>t.bs.getD i 0) (i+1))=o:=by rw[jd,<-ho];rw[aM hle]
   refine inc i ?_;intro IR w3 r3;refine⟨(i+1,((y1,y5),(y2,y6),(y3,y4,y7,y8)),w3,_),⟨OJ,Y.tr r3.cV,hT.rel r3 L,fun k Z=>?_⟩,sbgn [] r3 (hE:=⟨rfl,rfl,by dsimp only;rw[PZ];rfl,rfl,rfl,rfl,rfl,trivial⟩),by dsimp only;omega⟩;rw[PZ]at Z;exact(hL k Z).fz r3 L
  have PW:0<dZ t.a i s:=mI.1 (Int.not_le.1 (aL hle));have hle:¬dZ t.a i s<=0:=Rat.not_le.2 PW;have OL:dZ t.a i s≠0:=Rat.ne_of_gt PW;have SI:=hH.dZ I i s;have Ph:=hH.LH I i;refine dP [.x 0,.x 1,.x 2,.x 3,.x 4,.x 5,.x 6,.x 7,.x 8,.x 9,.x 10,.p 12,.x 11,.x 12,.x 13] ?_;obtain⟨b1,b2,b3,b4,b5,b6,b7,b8,hEb,hB⟩:=hT.eB L (j:=i) be TH;refine⟨_,fun O J r=>hT.f3 L TH r,_,rfl,be,rC b1 b2 b3 b4 b5 b6 b7 b8,rfl,fun O J r j x E=>hEb r j x E,_,rfl,be,?_⟩;obtain⟨c1,c2,c3,c4,c5,c6,c7,c8,hEc,hC⟩:=hT.eA L (i:=i) (j:=s) be be RS;refine⟨rC c1 c2 c3 c4 c5 c6 c7 c8,rfl,fun O J r j x E=>hEc r j x E,?_⟩;refine cN (I9:=fun _ J v F=>cY F (Nf J F) v (t.b.getD i 0 / dZ t.a i s)) (fun O J r=>Fg (Lv.old r L) (hB.fz r L) (hC.fz r L) be be OL) ?_;rintro O Pc v2 PK r G N U;have hN:=U.s5 hT r;replace hL:=fun k Z=>(hL k Z).jQ (K:=(Pc.heap.size,PK.heap.size)::OS) r L G fun x E=>aD _ E;replace hT:=hT.cL (K:=(Pc.heap.size,PK.heap.size)::OS) r L G fun x E=>aD _ E;replace Y:=Y.tr N;clear r G N U;generalize (Pc.heap.size,PK.heap.size)::OS=iv2 at*
  obtain⟨n1,n2,n3,n4,n5,n6,n7,n8,rfl⟩:=hN.shape;have R4:=Dn (t.b.getD i 0) OL;refine dP (idO 31) ?_
  cases o with
  |none=>
   refine dP (idO 4) ?_;conv=>whnf
   have PZ:(jd (fun i=>dZ t.a i s) (fun i=>t.b.getD i 0) (fun i=>t.bs.getD i 0) (i+1))=some i:=by rw[jd,<-ho];rw[aK hle]
   refine inc i ?_;intro IR w3 r3;refine⟨(i+1,((n1,n5),(n2,n6),(n3,n4,n7,n8)),w3,_),⟨OJ,Y.tr r3.cV,hT.rel r3 L,fun k Z=>?_⟩,sbgn [] r3 (hE:=⟨rfl,rfl,by dsimp only;rw[PZ];rfl,rfl,rfl,rfl,rfl,trivial⟩),by dsimp only;omega⟩;rw[PZ]at Z;injection Z with Z;rw[<-Z];exact hN.fz r3 L
  |some k=>
   have TA:=nL ho.symm;have Tu:dZ t.a k s≠0:=Rat.ne_of_gt TA.2.1;have QO:=Dn (t.b.getD k 0) Tu;have VD:=hH.dZ I k s;have hl6:=hH.LH I k;have hkm:=TA.1;have hK:=hL k rfl;refine cN (I9:=fun _ J v F=>v=iV (rs (t.b.getD i 0 / dZ t.a i s-t.b.getD k 0 / dZ t.a k s))) (fun O J r=>EO (Lv.old r L) (hN.fz r L) (hK.fz r L) be be) ?_;clear hK;rintro O PT v3 PX r G N rfl;replace hN:=hN.jQ (K:=(PT.heap.size,PX.heap.size)::iv2) r L G fun x E=>aD _ E;replace hL:=fun k Z=>(hL k Z).jQ (K:=(PT.heap.size,PX.heap.size)::iv2) r L G fun x E=>aD _ E;replace hT:=hT.cL (K:=(PT.heap.size,PX.heap.size)::iv2) r L G fun x E=>aD _ E;replace Y:=Y.tr N;clear r G N;generalize (PT.heap.size,PX.heap.size)::iv2=OR at*
   conv=>whnf
   split
   .rename_i hc;have hc:t.b.getD i 0 / dZ t.a i s<t.b.getD k 0 / dZ t.a k s:=ij.1 (aI hc);refine dP (idO 4) ?_;conv=>whnf
    have PZ:(jd (fun i=>dZ t.a i s) (fun i=>t.b.getD i 0) (fun i=>t.bs.getD i 0) (i+1))=some i:=by rw[jd,<-ho];rw[aK hle];dsimp only;rw[if_pos (.inl hc)]
    refine inc i ?_;intro IR w3 r3;refine⟨(i+1,((n1,n5),(n2,n6),(n3,n4,n7,n8)),w3,_),⟨OJ,Y.tr r3.cV,hT.rel r3 L,fun k Z=>?_⟩,sbgn [] r3 (hE:=⟨rfl,rfl,by dsimp only;rw[PZ];rfl,rfl,rfl,rfl,rfl,trivial⟩),by dsimp only;omega⟩;rw[PZ]at Z;injection Z with Z;rw[<-Z];exact hN.fz r3 L
   rename_i hc;have hc:¬t.b.getD i 0 / dZ t.a i s<t.b.getD k 0 / dZ t.a k s:=fun h=>absurd (ij.2 h) (aL hc);have hK:=hL k rfl;refine cN (I9:=fun _ J v F=>v=iV (rs (t.b.getD i 0 / dZ t.a i s-t.b.getD k 0 / dZ t.a k s))) (fun O J r=>EO (Lv.old r L) (hN.fz r L) (hK.fz r L) be be) ?_;clear hK;rintro O QX v4 QA r G N rfl;replace hN:=hN.jQ (K:=(QX.heap.size,QA.heap.size)::OR) r L G fun x E=>aD _ E;replace hL:=fun k Z=>(hL k Z).jQ (K:=(QX.heap.size,QA.heap.size)::OR) r L G fun x E=>aD _ E;replace hT:=hT.cL (K:=(QX.heap.size,QA.heap.size)::OR) r L G fun x E=>aD _ E;replace Y:=Y.tr N;clear r G N;generalize (QX.heap.size,QA.heap.size)::OR=Ob at*
   conv=>whnf
   split
   .rename_i G;have G:t.b.getD i 0 / dZ t.a i s=t.b.getD k 0 / dZ t.a k s:=qk.1 (eq_of_beq G);refine⟨_,fun O J r=>hT.f0 L Tt r,_,rfl,be,_,fun O J r=>hT.LU L (i:=i) be Tt r,_,fun O J r=>hT.f0 L Tt r,_,rfl,⟨by rw[j7];omega,by rw[j7];omega⟩,_,fun O J r=>hT.LU L (i:=k) be Tt r,?_⟩;apply bS<;>intro Oo
    .have Oo:t.bs.getD i 0<t.bs.getD k 0:=by simpa using Oo
     refine dP (idO 4) ?_;conv=>whnf
     have PZ:(jd (fun i=>dZ t.a i s) (fun i=>t.b.getD i 0) (fun i=>t.bs.getD i 0) (i+1))=some i:=by rw[jd,<-ho];rw[aK hle];dsimp only;rw[if_pos (.inr ⟨G,Oo⟩)]
     refine inc i ?_;intro IR w3 r3;refine⟨(i+1,((n1,n5),(n2,n6),(n3,n4,n7,n8)),w3,_),⟨OJ,Y.tr r3.cV,hT.rel r3 L,fun k Z=>?_⟩,sbgn [] r3 (hE:=⟨rfl,rfl,by dsimp only;rw[PZ];rfl,rfl,rfl,rfl,rfl,trivial⟩),by dsimp only;omega⟩;rw[PZ]at Z;injection Z with Z;rw[<-Z];exact hN.fz r3 L
    have Oo:¬t.bs.getD i 0<t.bs.getD k 0:=by simpa using Oo
    have PZ:(jd (fun i=>dZ t.a i s) (fun i=>t.b.getD i 0) (fun i=>t.bs.getD i 0) (i+1))=some k:=by rw[jd,<-ho];rw[aK hle];dsimp only;rw[if_neg fun h=>h.elim hc fun h=>Oo h.2]
    refine inc i ?_;intro IR w3 r3;refine⟨(i+1,((y1,y5),(y2,y6),(y3,y4,y7,y8)),w3,_),⟨OJ,Y.tr r3.cV,hT.rel r3 L,fun k Z=>?_⟩,sbgn [] r3 (hE:=⟨rfl,rfl,by dsimp only;rw[PZ];rfl,rfl,rfl,rfl,rfl,trivial⟩),by dsimp only;omega⟩;rw[PZ]at Z;exact(hL k Z).fz r3 L
   rename_i G;have G:¬t.b.getD i 0 / dZ t.a i s=t.b.getD k 0 / dZ t.a k s:=fun h=>by rw[qk.2 h]at G;exact absurd G bv
   conv=>whnf
   have PZ:(jd (fun i=>dZ t.a i s) (fun i=>t.b.getD i 0) (fun i=>t.bs.getD i 0) (i+1))=some k:=by rw[jd,<-ho];rw[aK hle];dsimp only;rw[if_neg fun h=>h.elim hc fun h=>G h.1]
   refine inc i ?_;intro IR w3 r3;refine⟨(i+1,((y1,y5),(y2,y6),(y3,y4,y7,y8)),w3,_),⟨OJ,Y.tr r3.cV,hT.rel r3 L,fun k Z=>?_⟩,sbgn [] r3 (hE:=⟨rfl,rfl,by dsimp only;rw[PZ];rfl,rfl,rfl,rfl,rfl,trivial⟩),by dsimp only;omega⟩;rw[PZ]at Z;exact(hL k Z).fz r3 L
 have OJ:=dE R OJ;intro I8 we re;have G:t.Dv s=o:=by rw[ho,OJ];unfold Tb.Dv;rw[SB]
 exact⟨_,rfl,Y.tr re.cV,by rw[G];rfl⟩
end Go.Ex
namespace Go.Ex
variable{Fn j k m:Nat}{f p:Nat->Nat}{x y:Nat->Rat}
section
variable{D EQ:Dc}{B:Nat}{F9:Mx}{i v:Nat}{x:Nat->Rat}{z:Rat}
def Dc.Jl(D:Dc)(x:Nat->Rat)(z:Rat)(i:Nat):Rat:=cW (fun v=>D.ext i v*x v) (D.m+D.q)+D.ext i (D.m+D.q+1)*z-D.ext i (D.m+D.q)
theorem Dc.FQ(h:D.Ok)(g:Nat->Rat)(x:Nat->Rat):cW (fun v=>cW (fun j=>g j*gg v (D.eG j)) D.q*x v) (D.m+D.q)=cW (fun j=>g j*x (D.eG j)) D.q:=by
 rw[cQ (g:=fun v=>cW (fun j=>g j*gg v (D.eG j)*x v) D.q) fun v _=>by rw[j3],kO];refine cQ fun j hj=>?_;unfold gg;rw[eM (h.fl j hj) fun v _ e=>by rw[aK fun g=>e g.symm,bI,bu],aM rfl,Rat.mul_one]
theorem Dc.Jm(h:D.Ok)(R:i<D.m):D.Jl x z i=x (D.eS i)+D.row x i-D.b i:=by
 unfold Dc.Jl;rw[D.K7 R];have e1:D.ext i (D.m+D.q+1)=0:=by
  unfold Dc.ext;rw[aM R,aK be,aK be]
 have e2:cW (fun v=>D.ext i v*x v) (D.m+D.q)=x (D.eS i)+D.row x i:=by
  rw[cQ (g:=fun v=>gg v (D.eS i)*x v+D.row (gg v) i*x v) fun v hv=>by unfold Dc.ext;rw[aM R,aM hv];grind,gG];congr 1
  .unfold gg;rw[eM (h.bl i R) fun v _ e=>by rw[aK fun g=>e g.symm,bu],aM rfl,Rat.one_mul]
  .exact D.FQ h (D.a i) x
 rw[e1,e2];grind
theorem Dc.Jn(h:D.Ok):D.Jl x z D.m=z-cW (fun j=>D.c j*x (D.eG j)) D.q-D.top:=by
 unfold Dc.Jl;have e1:D.ext D.m (D.m+D.q+1)=1:=by
  unfold Dc.ext;rw[aK be,aK be,aK be]
 have e2:cW (fun v=>D.ext D.m v*x v) (D.m+D.q)= -(cW (fun j=>D.c j*x (D.eG j)) D.q):=by
  rw[<-D.FQ h D.c x,<-eo];refine cQ fun v hv=>?_;unfold Dc.ext;rw[aK be,aM hv];grind
 rw[D.K8,e1,e2];grind
theorem Dc.FR(h:D.Ok)(hs:D.uu x z):∀i,i<D.m+1->D.Jl x z i=0:=fun i R=>by
 rcases az i D.m with W|W
 .rw[D.Jm h W,hs.1 i W];grind
 .obtain rfl:i=D.m:=by omega
  rw[D.Jn h,hs.2];grind
theorem Dc.BA(h:D.Ok)(hj:j<D.q):D.val (D.eG j)=0:=D.tA (h.rL hj)
theorem Dc.span(h:D.Ok)(k:EQ.Ok)(hm:EQ.m=D.m)(hq:EQ.q=D.q)(hs:∀x z,D.uu x z->EQ.uu x z){i:Nat}(R:i<D.m+1):jk D.ext (D.m+1) (D.m+D.q+2) (EQ.ext i):=by
 have hu:=D.un h;obtain⟨δ,hδ⟩:∃δ:Nat->Rat,(fun t=>EQ.ext i t-cW (fun k=>EQ.ext i (D.pv k)*D.ext k t) (D.m+1))=δ:=⟨_,rfl⟩
 have hδv:∀t,δ t=EQ.ext i t-cW (fun k=>EQ.ext i (D.pv k)*D.ext k t) (D.m+1):=fun t=>by rw[<-hδ]
 have hp:∀a,a<D.m+1->δ (D.pv a)=0:=fun a ha=>by
  rw[hδv,eM ha fun b N e=>by rw[hu.unit a b ha N,aK e,bI],hu.unit a a ha ha,aM rfl];grind
 have VV:∀x z,D.uu x z->cW (fun v=>δ v*x v) (D.m+D.q)+δ (D.m+D.q+1)*z-δ (D.m+D.q)=0:=fun x z E=>by
  have W:=EQ.FR k (hs x z E) i (by rw[hm];exact R);unfold Dc.Jl at W;rw[hm,hq]at W;have I:cW (fun a=>EQ.ext i (D.pv a)*D.Jl x z a) (D.m+1)=0:=by
   rw[cQ (g:=fun _=>0) fun a ha=>by rw[D.FR h E a ha,bI],db]
  have e1:cW (fun v=>δ v*x v) (D.m+D.q)=cW (fun v=>EQ.ext i v*x v) (D.m+D.q)-cW (fun a=>EQ.ext i (D.pv a)*cW (fun v=>D.ext a v*x v) (D.m+D.q)) (D.m+1):=by
   rw[cQ (f:=fun a=>EQ.ext i (D.pv a)*cW (fun v=>D.ext a v*x v) (D.m+D.q)) (g:=fun a=>cW (fun v=>EQ.ext i (D.pv a)*(D.ext a v*x v)) (D.m+D.q)) fun a _=>by rw[gH],kO,<-jc];refine cQ fun v _=>?_;rw[hδv,cQ (f:=fun a=>EQ.ext i (D.pv a)*(D.ext a v*x v)) (g:=fun a=>(EQ.ext i (D.pv a)*D.ext a v)*x v) fun a _=>by grind,j3];grind
  have e2:cW (fun a=>EQ.ext i (D.pv a)*D.Jl x z a) (D.m+1)=cW (fun a=>EQ.ext i (D.pv a)*cW (fun v=>D.ext a v*x v) (D.m+D.q)) (D.m+1)+cW (fun a=>EQ.ext i (D.pv a)*D.ext a (D.m+D.q+1)) (D.m+1)*z-cW (fun a=>EQ.ext i (D.pv a)*D.ext a (D.m+D.q)) (D.m+1):=by
   rw[<-j3,<-gG,<-jc];refine cQ fun a _=>?_;unfold Dc.Jl;grind
  rw[e1,hδv,hδv];rw[I]at e2;grind
 have Q5:∀x z,D.uu x z->cW (fun j=>δ (D.eG j)*x (D.eG j)) D.q-δ (D.m+D.q)=0:=fun x z E=>by
  have W:=VV x z E;have hz:δ (D.m+D.q+1)=0:=by
   have:=hp D.m be;unfold Dc.pv at this
   rwa [aK be]at this
  rw[D.parts h (fun v=>δ v*x v),cQ (f:=fun i=>δ (D.eS i)*x (D.eS i)) (g:=fun _=>0) fun a ha=>?_,db,hz]at W
  .grind
  .have:=hp a be;unfold Dc.pv at this;rw[aM ha]at this;rw[this,bu]
 have h0:δ (D.m+D.q)=0:=by
  have W:=Q5 _ _ (D.wX h);rw[cQ (g:=fun _=>0) fun j hj=>by rw[D.BA h hj,bI],db]at W;grind
 have hf:∀s,s<D.q->δ (D.eG s)=0:=fun s TU=>by
  have W:=Q5 _ _ (D.line h TU 1);rw[h0,eM TU fun j hj e=>by rw[D.BA h hj,D.wW h TU hj,aK e];grind,D.BA h TU,D.wW h TU TU,aM rfl]at W;grind
 refine⟨fun a=>EQ.ext i (D.pv a),fun t ht=>?_⟩;have:δ t=0:=by
  rcases az t (D.m+D.q)with W|W
  .rcases h.all t W with⟨a,ha,rfl⟩|⟨j,hj,rfl⟩
   .have:=hp a be;unfold Dc.pv at this
    rwa [aM ha]at this
   .exact hf j hj
  .rcases az (D.m+D.q) t with I|I
   .have:=hp D.m be;unfold Dc.pv at this;rw[aK be]at this
    rwa [show t=D.m+D.q+1 by omega]
   .rwa [show t=D.m+D.q by omega]
 rw[hδv]at this;grind
theorem zp{F9:Mx}(h:∀i,i<m->F9 i (p m)=0):rY F9 p (m+1)=F9 m (p m)*rY F9 p m:=by
 unfold rY;rw[fP,eM (i:=0) be fun k Z OL=>by rw[show m+1-1-0=m by omega,h (m+1-1-k) be,bu,bI]];have hs:∀j,skip 0 j=j+1:=fun j=>by unfold skip;rw[aK be]
 rw[show sP 0=1 by decide,Rat.one_mul];congr 1
 .exact jY fun i j R hj=>by
   rw[hs,show m+1-1-(j+1)=m-1-j by omega,show m+1-1-(i+1)=m-1-i by omega]
theorem sR{F9 E8:Mx}{q:Nat->Nat}(h:∀i k,i<m->k<m->F9 i (p k)=E8 i (q k)):rY F9 p m=rY E8 q m:=jY fun i j R hj=>h _ _ be be
theorem Dc.Sz.of(h:D.Ok)(k:EQ.Ok)(hm:EQ.m=D.m)(hq:EQ.q=D.q)(hs:∀x z,D.uu x z->EQ.uu x z)(d:Nat->Rat)(hz:∀i t,i<D.m+1->t<D.m+D.q+2->Ib B (d i*EQ.ext i t))(hd:d D.m≠0)(U:rY (fun i t=>d i*EQ.ext i t) D.eS D.m≠0):D.Sz B fun i t=>d i*EQ.ext i t:=by
 refine⟨fun i R=>((Dc.span h k hm hq hs R).mul (d i)).congr fun t _=>Rat.mul_comm _ _,hz,?_⟩;have hpm:D.pv D.m=D.m+D.q+1:=by unfold Dc.pv;rw[aK be]
 rw[zp fun i R=>?_,hpm]
 .refine rK (rK hd ?_) ?_
  .unfold Dc.ext;rw[hm,hq,aK be,aK be,aK be];decide
  .rw[sR (E8:=fun i t=>d i*EQ.ext i t) (q:=D.eS) fun i k _ Z=>by unfold Dc.pv;rw[aM Z]];exact U
 .rw[hpm];unfold Dc.ext;rw[hm,hq,aM R,aK be,aK be,bI]
theorem Dc.Sz.part(h:D.Sz B F9)(hz:∀i,i<D.m->F9 i (D.m+D.q+1)=0):rY F9 D.eS D.m≠0:=fun e=>by
 have hpm:D.pv D.m=D.m+D.q+1:=by unfold Dc.pv;rw[aK be]
 refine h.nz ?_;rw[zp fun i R=>by rw[hpm];exact hz i R,sR (E8:=F9) (q:=D.eS) fun i k _ Z=>by unfold Dc.pv;rw[aM Z],e,bI]
end
def x6(b:List Rat):Nat->Nat
 |0=>0
 |i+1=>if b.getD i 0<b.getD (x6 b i) 0 then i else x6 b i
theorem uG(b:List Rat):∀n,(0<n->x6 b n<n)/\∀i,i<n->b.getD (x6 b n) 0<=b.getD i 0
 |0=>⟨fun h=>be,fun i h=>be⟩
 |n+1=>by
  obtain⟨W,I⟩:=uG b n;rw[x6];split
  .rename_i g;refine⟨fun _=>be,fun i R=>?_⟩;rcases az i n with h3|h3
   .exact Rat.le_of_lt ((by have:=I i h3;grind:b.getD n 0<b.getD i 0))
   .rw[show i=n by omega];exact Rat.le_refl
  .rename_i g;refine⟨fun _=>?_,fun i R=>?_⟩
   .rcases bB n with h3|h3
    .subst h3;show 0<1;omega
    .have:=W h3;omega
   .rcases az i n with h3|h3
    .exact I i h3
    .rw[show i=n by omega];exact Rat.not_lt.1 g
def Tb.begin(F':List (List Rat))(b c:List Rat):Tb:=⟨(List.range F'.length).map fun i=>c.length+i,List.range c.length,F',b,c,0⟩
def Tb.Dz(F':List (List Rat))(b c:List Rat):Tb:=⟨(List.range F'.length).map fun i=>c.length+i,List.range c.length++[c.length+F'.length],F'.map fun r=>r++[-1],b,eF c.length++[-1],0⟩
def Tb.del(t:Tb)(k:Nat):Tb:={t with fs:=t.fs.eraseIdx k,a:=t.a.map fun r=>r.eraseIdx k,c:=t.c.eraseIdx k}
def Tb.iE(t:Tb)(n:Nat)(c:List Rat):Nat->List Rat
 |0=>t.fs.map fun v=>if v<n then c.getD v 0 else 0
 |i+1=>if t.bs.getD i 0<n then pF (t.iE n c i) (-(c.getD (t.bs.getD i 0) 0)) (t.a.getD i [])else t.iE n c i
def Tb.j5(t:Tb)(n:Nat)(c:List Rat):Nat->Rat
 |0=>0
 |i+1=>if t.bs.getD i 0<n then t.j5 n c i+c.getD (t.bs.getD i 0) 0*t.b.getD i 0 else t.j5 n c i
def Tb.rest(t:Tb)(n:Nat)(c:List Rat):Tb:={t with c:=t.iE n c t.bs.length,top:=t.j5 n c t.bs.length}
section
variable{F':List (List Rat)}{b c:List Rat}{t:Tb}{D:Dc}
theorem zq{n i:Nat}(h:i<n):(List.range n).getD i 0=i:=by rw[List.getD,List.getElem?_range h];rfl
theorem zt{n i:Nat}(h:i<n):((List.range n).map f).getD i 0=f i:=by rw[List.getD,aS,List.getElem?_range h];rfl
theorem Rp.start(hA:pf c.length F')(N:b.length=F'.length):Rp (Tb.begin F' b c) (gD F'.length c.length (dZ F') (fun i=>b.getD i 0) fun j=>c.getD j 0):=
 ⟨by simp[Tb.begin,gD],by simp[Tb.begin,gD],rfl,hA,N,rfl,fun i R=>zt R,fun j hj=>zq hj,fun i j _ _=>rfl,fun i _=>rfl,fun j _=>rfl,rfl⟩
theorem nO{α:Type}{l:List α}{x d:α}(h:j<=l.length):(l++[x]).getD j d=if j<l.length then l.getD j d else x:=by
 rcases az j l.length with W|W
 .rw[aM W,List.getD,aQ W];rfl
 .rw[aK be,List.getD,aW W,show j-l.length=0 by omega];rfl
theorem Rp.Dz(hA:pf c.length F')(N:b.length=F'.length):Rp (Tb.Dz F' b c) (dW F'.length c.length (dZ F') fun i=>b.getD i 0):=by
 refine⟨by simp[Tb.Dz,dW],by simp[Tb.Dz,dW],by simp[Tb.Dz,dW],fun r hr=>?_,N,by simp[Tb.Dz,dW,eF],fun i R=>zt R,fun j hj=>?_,fun i j R hj=>?_,fun i _=>rfl,fun j hj=>?_,rfl⟩
 .obtain⟨x,E,rfl⟩:=bD.1 (show r∈F'.map fun r=>r++[-1]from hr);rw[aU,hA x E];rfl
 .have hj:j<c.length+1:=hj;show(List.range c.length++[c.length+F'.length]).getD j 0=if j<c.length then j else c.length+F'.length
  rw[nO (by rw[List.length_range];omega),List.length_range];split
  .rename_i g;exact zq g
  .rfl
 .have R:i<F'.length:=R;have hj:j<c.length+1:=hj;show((F'.map fun r=>r++[-1]).getD i []).getD j 0=if j<c.length then dZ F' i j else -1
  rw[getD_map [] [] R,nO (by rw[hA.getD R];omega),hA.getD R];rfl
 .have hj:j<c.length+1:=hj;show(eF c.length++[-1]).getD j 0=if j<c.length then 0 else -1
  rw[nO (by simp[eF];omega),j4];simp[eF]
theorem getD_erase{α:Type}{l:List α}{d:α}:(l.eraseIdx k).getD j d=l.getD (dq k j) d:=by
 unfold dq;rw[List.getD,List.getElem?_eraseIdx,List.getD];split<;>rfl
theorem jf(t:Tb)(n:Nat)(c:List Rat):∀i,(t.iE n c i).length=t.fs.length
 |0=>by rw[Tb.iE,aJ]
 |i+1=>by
  rw[Tb.iE];split
  .rw[mR];exact jf t n c i
  .exact jf t n c i
theorem Ca(t:Tb)(n:Nat)(c:List Rat){j:Nat}(hj:j<t.fs.length):∀i,(t.iE n c i).getD j 0=(if t.fs.getD j 0<n then c.getD (t.fs.getD j 0) 0 else 0)-cW (fun i=>if t.bs.getD i 0<n then c.getD (t.bs.getD i 0) 0*dZ t.a i j else 0) i
 |0=>by rw[Tb.iE,getD_map 0 0 hj];show _=_-(0:Rat);grind
 |i+1=>by
  have ih:=Ca t n c hj i;rw[Tb.iE,cW];split
  .rw[Az (by rw[jf];exact hj),ih];show _+ -_*dZ t.a i j=_;grind
  .rw[ih];grind
theorem Cb(t:Tb)(n:Nat)(c:List Rat):∀i,t.j5 n c i=cW (fun i=>if t.bs.getD i 0<n then c.getD (t.bs.getD i 0) 0*t.b.getD i 0 else 0) i
 |0=>rfl
 |i+1=>by
  rw[Tb.j5,cW,Cb t n c i];split
  .rfl
  .rw[cK]
theorem Rp.cut(h:Rp t D){n:Nat}(Z:k<D.q):Rp ((t.del k).rest n c) (D.cut k n fun j=>c.getD j 0):=by
 have Qd:∀j,j<D.q-1->dq k j<D.q:=fun j hj=>by unfold dq;split<;>omega
 have Pt:(t.del k).fs.length=D.q-1:=by
  show(t.fs.eraseIdx k).length=_;rw[List.length_eraseIdx,aM (by rw[h.Jj];exact Z),h.Jj]
 have RE:∀i j,i<D.m->dZ (t.del k).a i j=dZ t.a i (dq k j):=fun i j R=>by
  show((t.a.map fun r=>r.eraseIdx k).getD i []).getD j 0=_;rw[getD_map [] [] (by rw[h.al];exact R),getD_erase];rfl
 have Wb:∀j,(t.del k).fs.getD j 0=t.fs.getD (dq k j) 0:=fun j=>getD_erase;refine⟨h.Gb,Pt,?_,fun r hr=>?_,h.bl,?_,h.eS,fun j hj=>?_,fun i j R hj=>?_,h.eb,fun j hj=>?_,?_⟩
 .show(t.a.map _).length=_;rw[aJ];exact h.al
 .obtain⟨x,E,rfl⟩:=bD.1 (show r∈t.a.map fun r=>r.eraseIdx k from hr);rw[List.length_eraseIdx,h.aw x E,aM Z];rfl
 .show((t.del k).iE n c _).length=D.q-1;rw[jf,Pt]
 .show(t.del k).fs.getD j 0=D.eG (dq k j);rw[Wb,h.eG _ (Qd j hj)]
 .show dZ (t.del k).a i j=D.a i (dq k j);rw[RE i j R,h.ea _ _ R (Qd j hj)]
 .have hj:j<D.q-1:=hj;show((t.del k).iE n c t.bs.length).getD j 0=(if D.eG (dq k j)<n then c.getD (D.eG (dq k j)) 0 else 0)-cW (fun i=>if D.eS i<n then c.getD (D.eS i) 0*D.a i (dq k j)else 0) D.m;rw[Ca _ _ _ (by rw[Pt];exact hj),Wb,h.eG _ (Qd j hj),h.Gb];congr 1;refine cQ fun i R=>?_;rw[show (t.del k).bs.getD i 0=D.eS i from h.eS i R,RE i j R,h.ea _ _ R (Qd j hj)]
 .show(t.del k).j5 n c t.bs.length=cW (fun i=>if D.eS i<n then c.getD (D.eS i) 0*D.b i else 0) D.m;rw[Cb,h.Gb];refine cQ fun i R=>?_;rw[show (t.del k).bs.getD i 0=D.eS i from h.eS i R,show(t.del k).b.getD i 0=D.b i from h.eb i R]
end
structure H4(m n B:Nat)(F':Nat->Nat->Rat)(b c d:Nat->Rat):Prop where
 nz:∀i,i<m+1->d i≠0
 id:∀i,i<m+1->Ib B (d i)
 ia:∀i j,i<m->j<n->Ib B (d i*F' i j)
 ib:∀i,i<m->Ib B (d i*b i)
 ic:∀j,j<n->Ib B (d m*c j)
 one:1<=B
section
variable{m n B:Nat}{F':Nat->Nat->Rat}{b c d:Nat->Rat}{D:Dc}
theorem x7{i v:Nat}(R:i<m)(hv:v<n+m):(gD m n F' b c).ext i v=if v<n then F' i v else gg v (n+i):=by
 unfold Dc.ext;rw[aM (show i<(gD m n F' b c).m from R),aM (show v<(gD m n F' b c).m+(gD m n F' b c).q from(by omega:v<m+n))];show gg v (n+i)+cW (fun j=>F' i j*gg v j) n=_;unfold gg;by_cases h:v<n
 .rw[aM h,aK be,eM h fun j _ e=>by rw[aK e,bI],aM rfl,Rat.mul_one,Rat.zero_add]
 .rw[aK h,cQ (g:=fun _=>0) fun j hj=>by rw[aK be,bI],db,cK]
theorem x8{i v:Nat}(R:i<m)(hv:v<n+m):(dW m n F' b).ext i v=if v<n then F' i v else gg v (n+i):=by
 unfold Dc.ext;rw[aM (show i<(dW m n F' b).m from R),aM (show v<(dW m n F' b).m+(dW m n F' b).q from(by omega:v<m+(n+1)))];show gg v (n+i)+cW (fun j=>(if j<n then F' i j else -1)*gg v (if j<n then j else n+m)) (n+1)=_;show gg v (n+i)+(cW (fun j=>(if j<n then F' i j else -1)*gg v (if j<n then j else n+m)) n+(if n<n then F' i n else -1)*gg v (if n<n then n else n+m))=_;rw[aK (Nat.lt_irrefl n),aK (Nat.lt_irrefl n),cQ (g:=fun j=>F' i j*gg v j) fun j hj=>by rw[aM hj,aM hj]];unfold gg;rw[aK (show ¬n+m=v by omega)];by_cases h:v<n
 .rw[aM h,aK be,eM h fun j _ e=>by rw[aK e,bI],aM rfl,Rat.mul_one];grind
 .rw[aK h,cQ (g:=fun _=>0) fun j hj=>by rw[aK be,bI],db];grind
theorem Ib.ind{B:Nat}{q:Rat}(h:Ib B q)(v w:Nat):Ib B (q*gg v w):=by
 unfold gg;split
 .rw[Rat.mul_one];exact h
 .rw[bI];exact Ib.zero _
theorem zu(h:H4 m n B F' b c d):∀i t,i<m+1->t<m+n+2->Ib B (d i*(gD m n F' b c).ext i t):=fun i t R ht=>by
 rcases az i m with W|W
 .rcases az t (n+m)with I|I
  .rw[x7 W I];split
   .rename_i g;exact h.ia i t W g
   .exact(h.id i R).ind _ _
  .unfold Dc.ext;rw[aM (show i<(gD m n F' b c).m from W),aK (show ¬t<(gD m n F' b c).m+(gD m n F' b c).q from(by omega:¬t<m+n))];split
   .exact h.ib i W
   .rw[bI];exact Ib.zero _
 .obtain rfl:i=m:=by omega
  unfold Dc.ext;rw[aK (show ¬i<(gD i n F' b c).m from Nat.lt_irrefl _)];split
  .show Ib B (d i* -(cW (fun j=>c j*gg t j) n));have e:d i* -(cW (fun j=>c j*gg t j) n)= -(d i*cW (fun j=>c j*gg t j) n):=by grind
   rw[e];refine Ib.neg ?_;unfold gg;by_cases g:t<n
   .rw[eM g fun j _ e=>by rw[aK e,bI],aM rfl,Rat.mul_one];exact h.ic t g
   .rw[cQ (g:=fun _=>0) fun j hj=>by rw[aK be,bI],db,bI];exact Ib.zero _
  .split
   .show Ib B (d i*0);rw[bI];exact Ib.zero _
   .rw[Rat.mul_one];exact h.id i R
def dA(m:Nat)(d:Nat->Rat)(i:Nat):Rat:=if i<m then d i else 1
theorem Gc(h:H4 m n B F' b c d):∀i t,i<m+1->t<m+(n+1)+2->Ib B (dA m d i*(dW m n F' b).ext i t):=fun i t R ht=>by
 unfold dA;rcases az i m with W|W
 .rw[aM W];rcases az t (n+m)with I|I
  .rw[x8 W I];split
   .rename_i g;exact h.ia i t W g
   .exact(h.id i R).ind _ _
  .rcases az t (n+m+1)with h3|h3
   .obtain rfl:t=n+m:=by omega
    have e:=(dW m n F' b).Hx (rN m n F' b) (i:=i) (j:=n) W (cI n);rw[show (dW m n F' b).eG n=n+m from aK (Nat.lt_irrefl n),show(dW m n F' b).a i n= -1 from aK (Nat.lt_irrefl n)]at e;rw[e,show d i* -1= -(d i) by grind];exact(h.id i R).neg
   .unfold Dc.ext;rw[aM (show i<(dW m n F' b).m from W),aK (show ¬t<(dW m n F' b).m+(dW m n F' b).q from(by omega:¬t<m+(n+1)))];split
    .exact h.ib i W
    .rw[bI];exact Ib.zero _
 .rw[aK be,Rat.one_mul];unfold Dc.ext;rw[aK (show ¬i<(dW m n F' b).m from by show ¬i<m;omega)];split
  .show Ib B (-(cW (fun j=>(if j<n then 0 else -1)*gg t (if j<n then j else n+m)) n+(if n<n then 0 else -1)*gg t (if n<n then n else n+m)));rw[aK (Nat.lt_irrefl n),aK (Nat.lt_irrefl n),cQ (g:=fun _=>0) fun j hj=>by rw[aM hj,bu],db,Rat.zero_add];exact((Ib.one h.one).neg.ind _ _).neg
  .split
   .exact Ib.zero _
   .exact Ib.one h.one
theorem H4.OC(h:H4 m n B F' b c d):(gD m n F' b c).Sz B fun i t=>d i*(gD m n F' b c).ext i t:=Dc.Sz.start (rM m n F' b c) d h.nz (zu h)
theorem H4.OD(h:H4 m n B F' b c d):(dW m n F' b).Sz B fun i t=>dA m d i*(dW m n F' b).ext i t:=Dc.Sz.start (rN m n F' b) (dA m d) (fun i R=>by
  unfold dA;split
  .exact h.nz i R
  .decide) (Gc h)
theorem H4.MO(h:H4 m n B F' b c d)(hs:fW D m n F' b)(hz:D.Sz B fun i t=>dA m d i*(dW m n F' b).ext i t)(Z:k<D.q)(hv:D.eG k=n+m):(D.cut k n c).Sz B fun i t=>d i*(gD m n F' b c).ext i t:=by
 have L:=hs.cut (c:=c) Z hv;have hm:(D.cut k n c).m=m:=L.em;have hq:(D.cut k n c).q=n:=L.eq;refine Dc.Sz.of L.ok (rM m n F' b c) (by rw[hm];rfl) (by rw[hq];rfl) (fun x z g=>(L.GY x z).1 g) d (by rw[hm,hq];exact zu h) (by rw[hm];exact h.nz m be) ?_;have W:=hz.part fun i R=>by
  rw[hs.em]at R;rw[hs.em,hs.eq];unfold Dc.ext;rw[aM (show i<(dW m n F' b).m from R),aK (show ¬m+(n+1)+1<(dW m n F' b).m+(dW m n F' b).q from(by omega:¬m+(n+1)+1<m+(n+1))),aK (show ¬m+(n+1)+1=(dW m n F' b).m+(dW m n F' b).q from(by omega:¬m+(n+1)+1=m+(n+1))),bI]
 rw[hm];rw[hs.em]at W;rw[sR (E8:=fun i t=>dA m d i*(dW m n F' b).ext i t) (q:=D.eS) fun i j R hj=>?_]
 .exact W
 .have N:D.eS j<n+m:=by
   have g1:=hs.ok.bl j (by rw[hs.em];exact hj);have g2:=hs.ok.bf j k (by rw[hs.em];exact hj) Z;rw[hv]at g2;rw[hs.em,hs.eq]at g1;omega
  show d i*(gD m n F' b c).ext i (D.eS j)=dA m d i*(dW m n F' b).ext i (D.eS j);rw[x7 R N,x8 R N];unfold dA;rw[aM R]
end
theorem EA{a b:Rat}(h:¬a<b):b<=a:=Rat.not_lt.1 h
section
variable{D:Dc}{m n:Nat}{F':Nat->Nat->Rat}{b c:Nat->Rat}
theorem x9(h:∀i,i<m->0<=b i):(gD m n F' b c).vl:=fun i R=>h i R
theorem fW.top_le(h:fW D m n F' b)(hf:D.vl):D.top<=0:=by
 have W:=h.topVal;have I:=D.Ax hf (n+m);grind
theorem fW.ND(h:fW D m n F' b)(hf:D.vl)(ht:¬D.top<0):(∃r,r<D.m/\D.eS r=n+m/\D.b r=0)\/∃k,k<D.q/\D.eG k=n+m:=by
 have h0:D.val (n+m)=0:=by
  have W:=h.topVal;have I:=h.top_le hf;have h3:=EA ht;grind
 rcases h.ok.all (n+m) (by rw[h.em,h.eq];omega)with⟨r,hr,e⟩|⟨k,Z,e⟩
 .exact .inl ⟨r,hr,e,by rw[<-e,D.wV h.ok hr]at h0;exact h0⟩
 .exact .inr ⟨k,Z,e⟩
theorem fW.out(h:fW D m n F' b)(hf:D.vl){r:Nat}(hr:r<D.m)(hv:D.eS r=n+m)(N:D.b r=0)(hj:j<D.q)(ha:D.a r j≠0):fW (D.fx r j) m n F' b/\(D.fx r j).vl/\(D.fx r j).eG j=n+m:=
 ⟨h.fx hr hj ha,Dc.Hv hf N,by show(if j=j then D.eS r else D.eG j)=_;rw[aM rfl];exact hv⟩
def zw(m n:Nat)(F':Nat->Nat->Rat)(b y:Nat->Rat):Prop:=(∀i,i<m->0<=y i)/\cW (fun i=>y i*b i) m<0/\∀j,j<n->0<=cW (fun i=>y i*F' i j) m
def mo(m n:Nat)(F':Nat->Nat->Rat)(b x:Nat->Rat):Prop:=(∀j,j<n->0<=x j)/\∀i,i<m->cW (fun j=>F' i j*x j) n<=b i
theorem po{f g:Nat->Rat}:∀{n:Nat},(∀k,k<n->f k<=g k)->cW f n<=cW g n
 |0,_=>Rat.le_refl
 |n+1,h=>by
  have W:=po (f:=f) (g:=g) (n:=n) fun k Z=>h k be;have I:=h n be;show cW f n+f n<=cW g n+g n;grind
theorem cO(E:mo m n F' b x)(hy:∀i,i<m->0<=y i):cW (fun j=>cW (fun i=>y i*F' i j) m*x j) n<=cW (fun i=>y i*b i) m:=by
 rw[cQ (g:=fun j=>cW (fun i=>y i*F' i j*x j) m) fun j _=>by rw[j3],kO];refine po fun i R=>?_;rw[cQ (g:=fun j=>y i*(F' i j*x j)) fun j _=>by grind,gH];have W:=E.2 i R;have I:=hy i R;have h3:=Rat.mul_nonneg I (show 0<=b i-cW (fun j=>F' i j*x j) n by grind);grind
theorem xa(E:mo m n F' b x)(hy:∀i,i<m->0<=y i)(hc:∀j,j<n->c j<=cW (fun i=>y i*F' i j) m):cW (fun j=>c j*x j) n<=cW (fun i=>y i*b i) m:=by
 refine Rat.le_trans (po fun j hj=>?_) (cO E hy);have W:=hc j hj;have I:=E.1 j hj;have h3:=Rat.mul_nonneg (show 0<=cW (fun i=>y i*F' i j) m-c j by grind) I;grind
theorem zw.no(h:zw m n F' b y)(E:mo m n F' b x):False:=by
 have W:=xa (c:=fun _=>0) E h.1 h.2.2;rw[cQ (g:=fun _=>0) fun j _=>bu _,db]at W;have:=h.2.1;grind
theorem nM.NF(h:nM D m n F' b c)(hf:D.vl):mo m n F' b D.val:=by
 obtain⟨W,I,-⟩:=h.je hf;exact⟨fun j _=>W j,I⟩
def Jo(m n:Nat)(F':Nat->Nat->Rat)(c y:Nat->Rat):Prop:=mo m n F' (fun _=>0) y/\0<cW (fun j=>c j*y j) n
theorem nM.JV(h:nM D m n F' b c){s:Nat}(hs:s<D.q)(hc:0<D.c s)(ha:∀i,i<D.m->D.a i s<=0):Jo m n F' c (D.dir s):=by
 obtain⟨W,I,h3⟩:=h.OB hs ha;exact⟨⟨fun j _=>W j,I⟩,by rw[h3];exact hc⟩
theorem LD{z:Nat->Rat}(hr:Jo m n F' c z)(hy:∀i,i<m->0<=y i)(hc:∀j,j<n->c j<=cW (fun i=>y i*F' i j) m):False:=by
 have W:=xa hr.1 hy hc;rw[cQ (f:=fun i=>y i*0) (g:=fun _=>0) fun i _=>bI _,db]at W;have:=hr.2;grind
end
section
variable{t:Tb}{D D0:Dc}{r s k B:Nat}{F9:Mx}
theorem qC{α:Type}{l:List α}{x d:α}(h:x∈l):∃i,i<l.length/\l.getD i d=x:=by
 obtain⟨i,R⟩:=aY h;exact⟨i,(aH.1 R).1,by rw[List.getD,R];rfl⟩
theorem Rp.zy(h:Rp t D)(H:(∀i j,i<D.m->j<D.q->Ex.rl (D.a i j)<=Fn)/\(∀i,i<D.m->Ex.rl (D.b i)<=Fn)/\(∀j,j<D.q->Ex.rl (D.c j)<=Fn)/\Ex.rl D.top<=Fn):t.uI (Fn+1):=by
 obtain⟨W,I,h3,h4⟩:=H;refine⟨fun x E q hq=>?_,fun q hq=>?_,fun q hq=>?_,by rw[h.et];omega⟩
 .obtain⟨i,R,rfl⟩:=qC (d:=[]) E;obtain⟨j,hj,rfl⟩:=qC (d:=0) hq;rw[h.al]at R;rw[h.Hy R]at hj;have:=W i j R hj;rw[show (t.a.getD i []).getD j 0=D.a i j from h.ea i j R hj];omega
 .obtain⟨i,R,rfl⟩:=qC (d:=0) hq;rw[h.bl]at R;have:=I i R;rw[h.eb i R];omega
 .obtain⟨i,R,rfl⟩:=qC (d:=0) hq;rw[h.cl]at R;have:=h3 i R;rw[h.ec i R];omega
structure EH(D0:Dc)(B:Nat)(F9:Mx)(k:Nat)(D:Dc)(t:Tb):Prop where
 run:∃Ds r s,Dw Ds r s k/\Ds 0=D0/\Ds k=D
 rp:Rp t D
 sz:D.Sz B F9
theorem EH.start(Z:D0.Ok)(hf:D0.vl)(hr:Rp t D0)(hz:D0.Sz B F9):EH D0 B F9 0 D0 t:=⟨⟨fun _=>D0,fun _=>0,fun _=>0,⟨Z,hf,fun t ht=>be⟩,rfl,rfl⟩,hr,hz⟩
theorem EH.facts(h:EH D0 B F9 k D t):D.Ok/\D.vl/\D.m=D0.m/\D.q=D0.q/\(∀x z,D.uu x z↔D0.uu x z)/\k<2^(D0.m+D0.q):=by
 obtain⟨⟨Ds,r,s,W,rfl,rfl⟩,I,h3⟩:=h;obtain⟨k1,k2,k3,k4,k5⟩:=W.at_ k (ae k);exact⟨k1,k2,k3,k4,k5,W.short⟩
theorem EH.wf(h:EH D0 B F9 k D t):t.Wf D0.m D0.q:=by
 have:=h.facts;have I:=h.rp.wf;rw[this.2.2.1,this.2.2.2.1]at I;exact I
theorem EH.zy(h:EH D0 B F9 k D t)(hK:ln (fB B (D0.m+1))<=Fn):t.uI (Fn+1):=by
 have:=h.facts;exact h.rp.zy (h.sz.all this.1 (by rw[this.2.2.1];exact hK))
theorem EH.step(h:EH D0 B F9 k D t)(hs:t.DY=some s)(hr:t.Dv s=some r):r<D0.m/\s<D0.q/\dZ t.a r s≠0/\EH D0 B F9 (k+1) (D.fx r s) (t.fx r s):=by
 have hf:=h.facts;have hrp:=h.rp;rw[hrp.DY]at hs;have hsq:=(jw hs).1;rw[hrp.Dv hsq]at hr;have Pr:=Dc.Ji hs hr;have ha:dZ t.a r s=D.a r s:=hrp.ea r s Pr.hr Pr.hs;have OL:D.a r s≠0:=Rat.ne_of_gt Pr.Mq;refine⟨by rw[<-hf.2.2.1];exact Pr.hr,by rw[<-hf.2.2.2.1];exact Pr.hs,by rw[ha];exact OL,?_,hrp.fx Pr.hr Pr.hs,h.sz.fx hf.1 Pr.hr Pr.hs OL⟩;obtain⟨⟨Ds,r1,s1,W,I,h3⟩,-,-⟩:=h;subst h3;obtain⟨D',r2,s2,k1,k2,k3⟩:=W.more Pr;exact⟨D',r2,s2,k1,k2.trans I,k3⟩
def Gg(t:Tb)(j:Option Nat):Prop:=t.DY=j/\∀s,j=some s->t.Dv s=none
theorem Gg.end_(h:Rp t D){j:Option Nat}(hd:Gg t j):match j with
  |none=>∀j,j<D.q->¬0<D.c j
  |some s=>s<D.q/\0<D.c s/\∀i,i<D.m->D.a i s<=0:=by
 have W:=hd.1;rw[h.DY]at W
 cases j with
 |none=>exact uE W
 |some s=>
  obtain⟨k1,k2,-⟩:=jw W;have I:=hd.2 s rfl;rw[h.Dv k1]at I;exact⟨k1,k2,uF I⟩
end
end Go.Ex
namespace Go.Ex
open Go Go.Sx Go.Proofs
variable{S:Nat->Prop}
theorem Fl{w:World}{x:Tx}{t:Tb}{D0:Dc}{B Fn:Nat}{F9:Mx}(RR:Old S w)(PM:ed w S x t)(Ui:D0.Ok)(hf0:D0.vl)(R6:Rp t D0)(hz0:D0.Sz B F9)(hm:D0.m<=1000)(hq:D0.q<=1000)(hK:ln (fB B (D0.m+1))<=Fn)(W:1<=Fn)(hh:Fn<=90000000):
  eD PG Fd.mU #[.pointer (some ⟨x.g,0,none⟩)] w (fun e F=>∃t' D k j,e= .returned (iV (pN j))/\Kept w F (Bv x.cX)/\ed F (Nw S w F) x t'/\EH D0 B F9 k D t'/\Gg t' j):=by
 have L:=RR;have Z:Kept w w (Bv x.cX):=Kept.refl;have hT:=cj.arg PM;refine qR ce ?_;refine⟨Nat×(Tb×Dc)×World×Iv,fun z=>⟨[(0,.o (.v (.pointer (some ⟨x.g,0,none⟩))))],[],0,z.2.2.2,z.2.2.1⟩,fun z=>2^(D0.m+D0.q)-z.1,fun z=>Kept w z.2.2.1 (Bv x.cX)/\cj z.2.2.1 S w.heap.size z.2.2.2 x z.2.1.1/\EH D0 B F9 z.1 z.2.1.2 z.2.1.1,?_,?_⟩
 .intro O J r;exact⟨(0,(t,D0),J,_),⟨Kept.cV r.cV Z lr,hT.rel r L,EH.start Ui hf0 R6 hz0⟩,sbgn [] r⟩
 clear hT Z;rintro⟨k,⟨t1,D⟩,w1,iv⟩ ⟨Z,hT,hC⟩;dsimp only at Z hT hC ⊢;have hW:=hC.wf;have hH:=hC.zy hK;refine cM (cN (I9:=fun _ J v F=>v=iV (pN t1.DY)) (fun O J r=>EN (Lv.old r L) (hT.rel r L).iH hW be) ?_);rintro O On v1 Oi r G N rfl;replace hT:=hT.cL (K:=(On.heap.size,Oi.heap.size)::iv) r L G fun x E=>aD _ E;replace Z:=Kept.cV N Z lr;clear r G N;generalize (On.heap.size,Oi.heap.size)::iv=OS at*
 obtain⟨o,ho⟩:=exq t1.DY;rw[ho]
 cases o with
 |none=>
  conv=>whnf
  intro I8 we re;exact⟨t1,D,k,none,rfl,Kept.cV re.cV Z lr,hT.out PM re L,hC,ho,fun s hs=>by cases hs⟩
 |some s=>
  have hsq:s<D0.q:=by
   have I:=ho;rw[hC.rp.DY]at I;rw[<-hC.facts.2.2.2.1];exact(jw I).1
  refine cM (cN (I9:=fun _ J v F=>v=iV (pN (t1.Dv s))) (fun O J r=>Gq (Lv.old r L) (hT.rel r L).iH hW hsq be be hH be be) ?_);rintro O Pc v2 PK r G N rfl;replace hT:=hT.cL (K:=(Pc.heap.size,PK.heap.size)::OS) r L G fun x E=>aD _ E;replace Z:=Kept.cV N Z lr;clear r G N;generalize (Pc.heap.size,PK.heap.size)::OS=iv2 at*
  obtain⟨u,hu⟩:=exq (t1.Dv s);rw[hu]
  cases u with
  |none=>
   conv=>whnf
   intro I8 we re;exact⟨t1,D,k,some s,rfl,Kept.cV re.cV Z lr,hT.out PM re L,hC,ho,fun s' hs=>by injection hs with hs;rw[<-hs];exact hu⟩
  |some u=>
   obtain⟨hum,-,OL,WO⟩:=hC.step ho hu;refine⟨fun O J r=>?_⟩;refine(BW (Lv.old r L) (hT.rel r L).iH hW hum hsq OL be be hH be be).mono fun e w8 G=>?_;obtain⟨rfl,PU,PJ⟩:=G;refine⟨.tuple #[],_,(J.heap.size,w8.heap.size)::iv2,rfl,r.fU (hT.not r) PU,?_⟩;replace PJ:=hT.eX r PJ;replace Z:=(Kept.cV r.cV Z lr).trans PU;clear hT PU;have hT:=PJ;clear PJ r;generalize (J.heap.size,w8.heap.size)::iv2=OR at*
   have Oo:=WO.facts.2.2.2.2.2;intro IR w3 r3;exact⟨(k+1,(t1.fx u s,D.fx u s),w3,_),⟨Kept.cV r3.cV Z lr,hT.rel r3 L,WO⟩,sbgn [] r3,by dsimp only;omega⟩
end Go.Ex
namespace Go.Sx
open Go Go.Ex Go.Proofs
variable{O:Nat->Sx.dc}
theorem Rel.nil{H:Hp}{nx:Nat}{iv:Iv}{B:Nat}{w J:World}(r:Rel H nx iv B w O J):Rel H nx [] B w O J:=
 {r with nG:=(fun _ _ h=>by cases h),ix:=(fun _ _ h=>by cases h)}
end Go.Sx
namespace Go.Ex
open Go Go.Sx Go.Proofs
section
variable{H:Hp}{iv:Iv}{qs:List Rat}{B g nx:Nat}{S:Nat->Prop}{O:Nat->Sx.dc}{a:Option Addr}{q:Rat}{u v:Value}{w:World}
section
variable{S:Nat->Prop}{H:Hp}{nx:Nat}{iv:Iv}{B:Nat}{w J F:World}{O:Nat->Sx.dc}{x:Tx}{t:Tb}
theorem cj.yT(h:cj w S B [] x t)(r:Rel H nx iv B w O J)(L:∀g,S g->g<B)(G:Ext J F):cj F S B [] x t:=h.cL r.nil L G fun _ h=>h
theorem cY.aside{n:Nat}(h:cY w (Lv S B [] x) v q)(hX:fM w S B iv u n qs)(L:∀g,S g->g<B)(r:Rel H nx iv B w O J):cY J (fun g=>Cv S B iv g/\u.ownBlock≠some g) v q:=
 (h.cP (Lv.same r.nil L)).cO fun g V=>by
  rcases V.1 with V|⟨-,lo,R,W,-⟩
  .refine⟨.inl V,fun e=>?_⟩;rcases hX.new g e with h|⟨h,-⟩
   .exact h
   .have:=L g V;omega
  .cases W
theorem fM.nw{w0:World}{n:Nat}(h:fM w S w0.heap.size iv v n qs)(r:Rel H nx iv w0.heap.size w O J)(L:Old S w0):dm J (Nw S w0 J) (Nw S w0 J) v qs:=
 (h.rel r L).read.cO (fun _ V=>Cv.nw V r) fun _ V=>Cv.nw V r
theorem cj.yU(hT:cj w S B [] x t)(r:Rel H nx iv B w O J)(L:∀g,S g->g<B)(V:B<=g)(h:J.grownBy F (some g)):cj F S B [] x t:=
 (hT.rel r.nil L).cP fun k Z=>h.block k (by
  rcases Z with Z|Z
  .exact rlo r.nil L k Z.1
  .exact hT.low r.nil Z) fun e=>by
  injection e with e;rcases Z with Z|Z
  .rcases Z.1 with Z|⟨-,lo,R,W,-⟩
   .have:=L k Z;omega
   .cases W
  .rcases hT.kL k Z with Z|⟨-,lo,R,W,-⟩
   .have:k<B:=Z;omega
   .cases W
end
theorem fM.some{n c:Nat}(h:fM w S B iv (.slice a n c) n qs)(h0:0<n):∃g,a=some ⟨g,0,none⟩/\B<=g:=by
 obtain⟨M,ho,_⟩:=h.row;rcases ho.2 with⟨_,W⟩|⟨g,cap,cur,e,_⟩
 .omega
 .injection e with e;subst e;refine⟨g,rfl,?_⟩;rcases h.new g rfl with h|⟨h,-⟩
  .exact h.elim
  .exact h
theorem Lv.zero{x:Tx}(h:Lv S B [] x g):S g:=by
 rcases h.1 with h|⟨-,lo,R,W,-⟩
 .exact h
 .cases W
theorem cY.next{J F:World}{x:Tx}{n:Nat}(h:cY F (Nw (Lv S B [] x) J F) v q)(hX:fM w S B iv u n qs)(L:∀g,S g->g<B)(r:Rel H nx iv B w O J):
  cY F (fun g=>Cv S B ((J.heap.size,F.heap.size)::iv) g/\u.ownBlock≠some g) v q:=
 h.apart (fun g V=>⟨rlo r L g (D3 (hX.new g V)),fun hl=>by
  have:=L g hl.zero;rcases hX.new g V with h|⟨h,-⟩
  .exact h
  .omega⟩) r.cR fun g V=>V.zero
theorem cY.MV{J F:World}{n:Nat}(h:cY F (Nf J F) v q)(hX:fM w S B iv u n qs)(L:∀g,S g->g<B)(r:Rel H nx iv B w O J):
  cY F (fun g=>Cv S B ((J.heap.size,F.heap.size)::iv) g/\u.ownBlock≠some g) v q:=
 h.apart (fun g V=>⟨rlo r L g (D3 (hX.new g V)),fun h=>h⟩) r.cR fun g V=>V.elim
theorem Fm{x:Tx}{t:Tb}{m q n:Nat}(RR:Old S w)(PM:ed w S x t)(hW:t.Wf m q)(hm:m<=1000)(U:n<=1000):
  eD PG Fd.mV #[.pointer (some ⟨x.g,0,none⟩),iV n] w (eL w fun v F=>dm F (Nw S w F) (Nw S w F) v (t.je n)):=by
 have L:=RR;have Y:=bR w;have OQ:=hW.b;have Sv:=hW.bs;obtain⟨ab,cb,Tt,Pv,-,Rj⟩:=PM.Mu hW;obtain⟨aB,cB,TH,hcB,-,Xa⟩:=PM.Mw hW;have hT:=cj.arg PM;refine qS ce ?_;refine cM (cN (I9:=fun _ J v F=>fM F FF J.heap.size [(J.heap.size,F.heap.size)] v n (List.replicate n 0)) (fun O J r=>mi n J be) ?_);rintro O wa v1 wb r G N E;have hX:=E.eX (S:=S) (iv:=[(wa.heap.size,wb.heap.size)]) r.cR aF;replace Y:=Y.tr N;replace hT:=hT.yT r L G;clear r G N E;generalize [(wa.heap.size,wb.heap.size)]=OS at*
 obtain⟨ao,co,rfl,-⟩:=hX.row.form;refine⟨_,fun O J r=>hT.f0 L Tt r.nil,Nat×World×Iv,fun z=>⟨[(0,.o (.v (.pointer (some ⟨x.g,0,none⟩)))),(1,.o (.v (iV (n:Int)))),(5,sV ao n co),(13,sV ab m cb),(14,.o (.v (iV (m:Int)))),(15,.o (.v (iV (z.1:Int))))],[],0,z.2.2,z.2.1⟩,fun z=>m-z.1,fun z=>z.1<=m/\Bq w z.2.1/\cj z.2.1 S w.heap.size [] x t/\fM z.2.1 S w.heap.size z.2.2 (.slice ao n co) n (eZ (eF n) n 0 (fun i=>t.bs.getD i 0) (fun i=>t.b.getD i 0) z.1),?_,?_⟩
 .intro O J r;exact⟨(0,J,_),⟨bA _,Y.tr r.cV,hT.rel r.nil L,hX.rel r L⟩,sbgn [] r⟩
 clear hT Y hX;rintro⟨i,w1,iv⟩ ⟨R,Y,hT,hX⟩;dsimp only at R Y hT hX ⊢;apply bS<;>intro OJ
 .have OJ:=dL OJ;obtain⟨gb,rfl⟩:=Rj be;obtain⟨gB,rfl⟩:=Xa be;refine⟨_,rfl,be,_,fun O J r=>hT.LU L (i:=i) be Tt r.nil,?_⟩;apply bS<;>intro hc
  .have hc:t.bs.getD i 0<n:=by simpa using hc
   obtain⟨go,rfl,Ud⟩:=hX.some be;obtain⟨p1,p2,p3,p4,p5,p6,p7,p8,S4,hF⟩:=hT.eB L (j:=i) be TH;refine⟨_,fun O J r=>hT.f3 L TH r.nil,_,rfl,be,rC p1 p2 p3 p4 p5 p6 p7 p8,rfl,fun O J r j x E=>S4 r.nil j x E,_,rfl,be,?_⟩;intro O J r;obtain⟨_,PC,W,I,h3,h4,h5⟩:=(hX.rel r L).store hc (hF.aside hX L r) r L;injection PC with PC;injection PC with PC;subst PC;refine⟨W,I,h3,fun w4 OZ=>?_⟩;obtain⟨RU,S5,-⟩:=h5 w4 OZ;replace hT:=hT.yU r L Ud S5;replace Y:=(Y.tr r.cV).tr (Bel.grown S5 (fun g e=>by injection e with e;omega) r.cR);clear W I h3 h4 h5 OZ S5 r hF;clear hX;have hp:eZ (eF n) n 0 (fun i=>t.bs.getD i 0) (fun i=>t.b.getD i 0) (i+1)=(eZ (eF n) n 0 (fun i=>t.bs.getD i 0) (fun i=>t.b.getD i 0) i).set (t.bs.getD i 0) (t.b.getD i 0):=by rw[eZ,aM ⟨bA _,be⟩];rfl
   rw[<-hp]at RU;refine inc i ?_;intro IR w3 r3;exact⟨(i+1,w3,_),⟨OJ,Y.tr r3.cV,hT.rel r3.nil L,RU.rel r3 L⟩,sbgn [] r3,dec OJ⟩
  have hc:¬t.bs.getD i 0<n:=by simpa using hc
  have hp:eZ (eF n) n 0 (fun i=>t.bs.getD i 0) (fun i=>t.b.getD i 0) (i+1)=eZ (eF n) n 0 (fun i=>t.bs.getD i 0) (fun i=>t.b.getD i 0) i:=by rw[eZ,aK fun h=>hc (by have:=h.2;omega)]
  refine inc i ?_;intro IR w3 r3;exact⟨(i+1,w3,_),⟨OJ,Y.tr r3.cV,hT.rel r3.nil L,by rw[hp];exact hX.rel r3 L⟩,sbgn [] r3,dec OJ⟩
 have OJ:=dE R OJ;intro I8 we re;refine⟨_,rfl,Y.tr re.cV,?_⟩;unfold Tb.je;rw[Sv,<-OJ];exact hX.nw re L
theorem Cy{x:Tx}{t:Tb}{m q n k:Nat}(RR:Old S w)(PM:ed w S x t)(hW:t.Wf m q)(hm:q<=1000)(U:n<=1000)(TT:k<=1000):
  eD PG Fd.lu #[.pointer (some ⟨x.g,0,none⟩),iV n,.int .i64 k] w (eL w fun v F=>dm F (Nw S w F) (Nw S w F) v (t.iX n k)):=by
 have L:=RR;have Y:=bR w;have QM:=hW.c;have Pt:=hW.fs;obtain⟨af,cf,UN,hcf,-,haf⟩:=PM.KD hW;obtain⟨ac,cc,WQ,Uc,-,XY⟩:=PM.Ly hW;have hT:=cj.arg PM;refine pJ ce ?_;refine cM (cN (I9:=fun _ J v F=>fM F FF J.heap.size [(J.heap.size,F.heap.size)] v k (List.replicate k 0)) (fun O J r=>mi k J be) ?_);rintro O wa v1 wb r G N E;have hX:=E.eX (S:=S) (iv:=[(wa.heap.size,wb.heap.size)]) r.cR aF;replace Y:=Y.tr N;replace hT:=hT.yT r L G;clear r G N E;generalize [(wa.heap.size,wb.heap.size)]=OS at*
 obtain⟨ao,co,rfl,-⟩:=hX.row.form;refine⟨_,fun O J r=>hT.f1 L UN r.nil,Nat×World×Iv,fun z=>⟨[(0,.o (.v (.pointer (some ⟨x.g,0,none⟩)))),(1,.o (.v (iV (n:Int)))),(2,.o (.v (iV (k:Int)))),(7,sV ao k co),(15,sV af q cf),(16,.o (.v (iV (q:Int)))),(17,.o (.v (iV (z.1:Int))))],[],0,z.2.2,z.2.1⟩,fun z=>q-z.1,fun z=>z.1<=q/\Bq w z.2.1/\cj z.2.1 S w.heap.size [] x t/\fM z.2.1 S w.heap.size z.2.2 (.slice ao k co) k (eZ (eF k) k n (fun j=>t.fs.getD j 0) (fun j=> -(t.c.getD j 0)) z.1),?_,?_⟩
 .intro O J r;exact⟨(0,J,_),⟨bA _,Y.tr r.cV,hT.rel r.nil L,hX.rel r L⟩,sbgn [] r⟩
 clear hT Y hX;rintro⟨i,w1,iv⟩ ⟨R,Y,hT,hX⟩;dsimp only at R Y hT hX ⊢;apply bS<;>intro OJ
 .have OJ:=dL OJ;obtain⟨gf,rfl⟩:=haf be;obtain⟨gc,rfl⟩:=XY be;refine⟨_,rfl,be,_,fun O J r=>hT.Lx L (i:=i) be UN r.nil,?_⟩;obtain⟨u,hu⟩:=exq (t.fs.getD i 0);rw[hu];conv=>whnf
  split
  .rename_i hc;have hc:n<=u:=by have:=aI hc;omega
   refine⟨((n+k:Nat):Int),wo,?_⟩;apply bS<;>intro hd
   .have hd:u<n+k:=by have:=aI hd;omega
    obtain⟨go,rfl,Ud⟩:=hX.some be;refine⟨((u-n:Nat):Int),wo,?_⟩;obtain⟨p1,p2,p3,p4,p5,p6,p7,p8,S4,hF⟩:=hT.eC L (j:=i) be WQ;refine⟨_,fun O J r=>hT.f4 L WQ r.nil,_,rfl,be,rC p1 p2 p3 p4 p5 p6 p7 p8,rfl,fun O J r j x E=>S4 r.nil j x E,?_⟩;refine cM (cN (I9:=fun _ J v F=>cY F (Nw (Lv S w.heap.size [] x) J F) v (-(t.c.getD i 0))) (fun O J r=>kV (Lv.old r.nil L) (hF.fz r.nil L)) ?_);rintro O SN v9 SO r G N U;have hM:=U.next hX L r
    replace hX:=hX.cL (K:=(SN.heap.size,SO.heap.size)::iv) r L G fun x E=>aD _ E;replace hT:=hT.yT r L G;replace Y:=Y.tr N;clear r G N U;generalize (SN.heap.size,SO.heap.size)::iv=jv9 at*
    obtain⟨k1,k2,k3,k4,k5,k6,k7,k8,rfl⟩:=hM.shape;refine⟨_,rfl,be,?_⟩;intro O J r;obtain⟨_,PC,W,I,h3,h4,h5⟩:=(hX.rel r L).store (j:=u-n) be (hM.cP fun g V=>rls r L V.1) r L;injection PC with PC;injection PC with PC;subst PC;refine⟨W,I,h3,fun w4 OZ=>?_⟩;obtain⟨RU,S5,-⟩:=h5 w4 OZ;replace hT:=hT.yU r L Ud S5;replace Y:=(Y.tr r.cV).tr (Bel.grown S5 (fun g e=>by injection e with e;omega) r.cR);clear W I h3 h4 h5 OZ S5 r hM;clear hX;have hp:eZ (eF k) k n (fun j=>t.fs.getD j 0) (fun j=> -(t.c.getD j 0)) (i+1)=(eZ (eF k) k n (fun j=>t.fs.getD j 0) (fun j=> -(t.c.getD j 0)) i).set (u-n) (-(t.c.getD i 0)):=by rw[eZ,aM (by rw[hu];omega),hu]
    rw[<-hp]at RU;refine inc i ?_;intro IR w3 r3;exact⟨(i+1,w3,_),⟨OJ,Y.tr r3.cV,hT.rel r3.nil L,RU.rel r3 L⟩,sbgn [] r3,dec OJ⟩
   have hd:¬u<n+k:=by have:=aL hd;omega
   have hp:eZ (eF k) k n (fun j=>t.fs.getD j 0) (fun j=> -(t.c.getD j 0)) (i+1)=eZ (eF k) k n (fun j=>t.fs.getD j 0) (fun j=> -(t.c.getD j 0)) i:=by rw[eZ,aK (by rw[hu];omega)]
   refine inc i ?_;intro IR w3 r3;exact⟨(i+1,w3,_),⟨OJ,Y.tr r3.cV,hT.rel r3.nil L,by rw[hp];exact hX.rel r3 L⟩,sbgn [] r3,dec OJ⟩
  rename_i hc;have hc:¬n<=u:=by have:=aL hc;omega
  conv=>whnf
  have hp:eZ (eF k) k n (fun j=>t.fs.getD j 0) (fun j=> -(t.c.getD j 0)) (i+1)=eZ (eF k) k n (fun j=>t.fs.getD j 0) (fun j=> -(t.c.getD j 0)) i:=by rw[eZ,aK (by rw[hu];omega)]
  refine inc i ?_;intro IR w3 r3;exact⟨(i+1,w3,_),⟨OJ,Y.tr r3.cV,hT.rel r3.nil L,by rw[hp];exact hX.rel r3 L⟩,sbgn [] r3,dec OJ⟩
 have OJ:=dE R OJ;intro I8 we re;refine⟨_,rfl,Y.tr re.cV,?_⟩;unfold Tb.iX;rw[Pt,<-OJ];exact hX.nw re L
theorem Cz{x:Tx}{t:Tb}{m q n s:Nat}(RR:Old S w)(PM:ed w S x t)(hW:t.Wf m q)(hs:s<q)(hm:m<=1000)(hq:q<=1000)(U:n<=1000):
  eD PG Fd.jm #[.pointer (some ⟨x.g,0,none⟩),iV n,iV s] w (eL w fun v F=>dm F (Nw S w F) (Nw S w F) v (t.nN n s)):=by
 have L:=RR;have Y:=bR w;have SB:=hW.al;have Pt:=hW.fs;have Sv:=hW.bs;obtain⟨af,cf,UN,hcf,-,haf⟩:=PM.KD hW;obtain⟨ab,cb,Tt,Pv,-,Rj⟩:=PM.Mu hW;obtain⟨aa,ca,Rb,PB,-,XZ⟩:=PM.Mv hW;obtain⟨gf,rfl⟩:=haf be;have hR:∀i,i<m->∃a c,x.rv[i]? =some (.slice a q c)/\q<=c/\c<=maxLen/\(0<q->∃g,a=some ⟨g,0,none⟩):=fun i R=>PM.NR hW R;have hT:=cj.arg PM;obtain⟨u,hu⟩:=exq (t.fs.getD s 0);obtain⟨l0,hl0⟩:∃l,l=if u<n then(eF n).set u 1 else eF n:=⟨_,rfl⟩
 refine mw ce ?_;refine cM (cN (I9:=fun _ J v F=>fM F FF J.heap.size [(J.heap.size,F.heap.size)] v n (List.replicate n 0)) (fun O J r=>mi n J be) ?_);rintro O wa v1 wb r G N E;have hX:=E.eX (S:=S) (iv:=[(wa.heap.size,wb.heap.size)]) r.cR aF;replace Y:=Y.tr N;replace hT:=hT.yT r L G;clear r G N E;generalize [(wa.heap.size,wb.heap.size)]=OS at*
 obtain⟨ao,co,rfl,-⟩:=hX.row.form;refine⟨_,fun O J r=>hT.f1 L UN r.nil,_,rfl,be,_,fun O J r=>hT.Lx L (i:=s) be UN r.nil,?_⟩;rw[hu];apply bS<;>intro hc
 .have hc:=dL hc;obtain⟨go,rfl,Ud⟩:=hX.some be;refine cM (cN (I9:=fun _ J v F=>cY F (Nf J F) v ((1:Int):Rat)) (fun O J r=>iD 1 J bv bv) ?_);rintro O wa8 v8 wb8 r G N U;have hM:=U.MV hX L r;replace hX:=hX.cL (K:=(wa8.heap.size,wb8.heap.size)::OS) r L G fun x E=>aD _ E;replace hT:=hT.yT r L G;replace Y:=Y.tr N;clear r G N U;generalize (wa8.heap.size,wb8.heap.size)::OS=jv8 at*
  obtain⟨k1,k2,k3,k4,k5,k6,k7,k8,rfl⟩:=hM.shape;rw[show ((1:Int):Rat)=1 by decide]at hM;refine⟨_,rfl,be,?_⟩;intro O J r;obtain⟨_,PC,W,I,h3,h4,h5⟩:=(hX.rel r L).store hc (hM.cP fun g V=>rls r L V.1) r L;injection PC with PC;injection PC with PC;subst PC;refine⟨W,I,h3,fun w4 OZ=>?_⟩;obtain⟨RU,S5,-⟩:=h5 w4 OZ;replace hT:=hT.yU r L Ud S5;replace Y:=(Y.tr r.cV).tr (Bel.grown S5 (fun g e=>by injection e with e;omega) r.cR);clear W I h3 h4 h5 OZ S5 r hM;clear hX;have hX:fM w4 S w.heap.size jv8 (.slice (some ⟨go,0,none⟩) n co) n l0:=by rw[hl0,aM hc];exact RU
  clear RU;refine⟨_,fun O J r=>hT.f0 L Tt r.nil,Nat×World×Iv,fun z=>⟨[(0,.o (.v (.pointer (some ⟨x.g,0,none⟩)))),(1,.o (.v (iV (n:Int)))),(2,.o (.v (iV (s:Int)))),(7,.o (.v (.slice (some ⟨go,0,none⟩) n co))),(30,sV ab m cb),(31,.o (.v (iV (m:Int)))),(32,.o (.v (iV (z.1:Int))))],[],0,z.2.2,z.2.1⟩,fun z=>m-z.1,fun z=>z.1<=m/\Bq w z.2.1/\cj z.2.1 S w.heap.size [] x t/\fM z.2.1 S w.heap.size z.2.2 (.slice (some ⟨go,0,none⟩) n co) n (eZ l0 n 0 (fun i=>t.bs.getD i 0) (fun i=> -(dZ t.a i s)) z.1),?_,?_⟩
  .intro O J r;exact⟨(0,J,_),⟨bA _,Y.tr r.cV,hT.rel r.nil L,hX.rel r L⟩,sbgn [] r⟩
  clear hT Y hX;rintro⟨i,w1,iv⟩ ⟨R,Y,hT,hX⟩;dsimp only at R Y hT hX ⊢;apply bS<;>intro OJ
  .have OJ:=dL OJ;obtain⟨gb,rfl⟩:=Rj be;obtain⟨ga,rfl⟩:=XZ be;obtain⟨ai,ci,RS,-,-,XX⟩:=hR i OJ;obtain⟨gi,rfl⟩:=XX be;have QG:=hW.row OJ;refine⟨_,rfl,be,_,fun O J r=>hT.LU L (i:=i) be Tt r.nil,?_⟩;apply bS<;>intro hc
   .have hc:t.bs.getD i 0<n:=by simpa using hc
    obtain⟨p1,p2,p3,p4,p5,p6,p7,p8,S4,hF⟩:=hT.eA L (i:=i) (j:=s) be be RS;refine⟨_,fun O J r=>hT.f2 L Rb r.nil,_,rfl,be,_,fun O J r=>hT.cA L RS Rb r.nil,_,rfl,be,rC p1 p2 p3 p4 p5 p6 p7 p8,rfl,fun O J r j x E=>S4 r.nil j x E,?_⟩;refine cM (cN (I9:=fun _ J v F=>cY F (Nw (Lv S w.heap.size [] x) J F) v (-(dZ t.a i s))) (fun O J r=>kV (Lv.old r.nil L) (hF.fz r.nil L)) ?_);rintro O SN v9 SO r G N U;have hM:=U.next hX L r
    replace hX:=hX.cL (K:=(SN.heap.size,SO.heap.size)::iv) r L G fun x E=>aD _ E;replace hT:=hT.yT r L G;replace Y:=Y.tr N;clear r G N U;generalize (SN.heap.size,SO.heap.size)::iv=jv9 at*
    obtain⟨k1,k2,k3,k4,k5,k6,k7,k8,rfl⟩:=hM.shape;refine⟨_,rfl,be,?_⟩;intro O J r;obtain⟨_,PC,W,I,h3,h4,h5⟩:=(hX.rel r L).store hc (hM.cP fun g V=>rls r L V.1) r L;injection PC with PC;injection PC with PC;subst PC;refine⟨W,I,h3,fun w4 OZ=>?_⟩;obtain⟨RU,S5,-⟩:=h5 w4 OZ;replace hT:=hT.yU r L Ud S5;replace Y:=(Y.tr r.cV).tr (Bel.grown S5 (fun g e=>by injection e with e;omega) r.cR);clear W I h3 h4 h5 OZ S5 r hM;clear hX;have hp:eZ l0 n 0 (fun i=>t.bs.getD i 0) (fun i=> -(dZ t.a i s)) (i+1)=(eZ l0 n 0 (fun i=>t.bs.getD i 0) (fun i=> -(dZ t.a i s)) i).set (t.bs.getD i 0) (-(dZ t.a i s)):=by rw[eZ,aM ⟨bA _,be⟩];rfl
    rw[<-hp]at RU;refine inc i ?_;intro IR w3 r3;exact⟨(i+1,w3,_),⟨OJ,Y.tr r3.cV,hT.rel r3.nil L,RU.rel r3 L⟩,sbgn [] r3,dec OJ⟩
   have hc:¬t.bs.getD i 0<n:=by simpa using hc
   have hp:eZ l0 n 0 (fun i=>t.bs.getD i 0) (fun i=> -(dZ t.a i s)) (i+1)=eZ l0 n 0 (fun i=>t.bs.getD i 0) (fun i=> -(dZ t.a i s)) i:=by rw[eZ,aK fun h=>hc (by have:=h.2;omega)]
   refine inc i ?_;intro IR w3 r3;exact⟨(i+1,w3,_),⟨OJ,Y.tr r3.cV,hT.rel r3.nil L,by rw[hp];exact hX.rel r3 L⟩,sbgn [] r3,dec OJ⟩
  have OJ:=dE R OJ;intro I8 we re;refine⟨_,rfl,Y.tr re.cV,?_⟩;unfold Tb.nN;rw[hu,<-hl0,Sv,<-OJ];exact hX.nw re L
 have hc:¬u<n:=by simpa using hc
 replace hX:fM wb S w.heap.size OS (.slice ao n co) n l0:=by rw[hl0,aK hc];exact hX
 refine⟨_,fun O J r=>hT.f0 L Tt r.nil,Nat×World×Iv,fun z=>⟨[(0,.o (.v (.pointer (some ⟨x.g,0,none⟩)))),(1,.o (.v (iV (n:Int)))),(2,.o (.v (iV (s:Int)))),(7,sV ao n co),(30,sV ab m cb),(31,.o (.v (iV (m:Int)))),(32,.o (.v (iV (z.1:Int))))],[],0,z.2.2,z.2.1⟩,fun z=>m-z.1,fun z=>z.1<=m/\Bq w z.2.1/\cj z.2.1 S w.heap.size [] x t/\fM z.2.1 S w.heap.size z.2.2 (.slice ao n co) n (eZ l0 n 0 (fun i=>t.bs.getD i 0) (fun i=> -(dZ t.a i s)) z.1),?_,?_⟩
 .intro O J r;exact⟨(0,J,_),⟨bA _,Y.tr r.cV,hT.rel r.nil L,hX.rel r L⟩,sbgn [] r⟩
 clear hT Y hX;rintro⟨i,w1,iv⟩ ⟨R,Y,hT,hX⟩;dsimp only at R Y hT hX ⊢;apply bS<;>intro OJ
 .have OJ:=dL OJ;obtain⟨gb,rfl⟩:=Rj be;obtain⟨ga,rfl⟩:=XZ be;obtain⟨ai,ci,RS,-,-,XX⟩:=hR i OJ;obtain⟨gi,rfl⟩:=XX be;have QG:=hW.row OJ;refine⟨_,rfl,be,_,fun O J r=>hT.LU L (i:=i) be Tt r.nil,?_⟩;apply bS<;>intro hc
  .have hc:t.bs.getD i 0<n:=by simpa using hc
   obtain⟨go,rfl,Ud⟩:=hX.some be;obtain⟨p1,p2,p3,p4,p5,p6,p7,p8,S4,hF⟩:=hT.eA L (i:=i) (j:=s) be be RS;refine⟨_,fun O J r=>hT.f2 L Rb r.nil,_,rfl,be,_,fun O J r=>hT.cA L RS Rb r.nil,_,rfl,be,rC p1 p2 p3 p4 p5 p6 p7 p8,rfl,fun O J r j x E=>S4 r.nil j x E,?_⟩;refine cM (cN (I9:=fun _ J v F=>cY F (Nw (Lv S w.heap.size [] x) J F) v (-(dZ t.a i s))) (fun O J r=>kV (Lv.old r.nil L) (hF.fz r.nil L)) ?_);rintro O SN v9 SO r G N U;have hM:=U.next hX L r
   replace hX:=hX.cL (K:=(SN.heap.size,SO.heap.size)::iv) r L G fun x E=>aD _ E;replace hT:=hT.yT r L G;replace Y:=Y.tr N;clear r G N U;generalize (SN.heap.size,SO.heap.size)::iv=jv9 at*
   obtain⟨k1,k2,k3,k4,k5,k6,k7,k8,rfl⟩:=hM.shape;refine⟨_,rfl,be,?_⟩;intro O J r;obtain⟨_,PC,W,I,h3,h4,h5⟩:=(hX.rel r L).store hc (hM.cP fun g V=>rls r L V.1) r L;injection PC with PC;injection PC with PC;subst PC;refine⟨W,I,h3,fun w4 OZ=>?_⟩;obtain⟨RU,S5,-⟩:=h5 w4 OZ;replace hT:=hT.yU r L Ud S5;replace Y:=(Y.tr r.cV).tr (Bel.grown S5 (fun g e=>by injection e with e;omega) r.cR);clear W I h3 h4 h5 OZ S5 r hM;clear hX;have hp:eZ l0 n 0 (fun i=>t.bs.getD i 0) (fun i=> -(dZ t.a i s)) (i+1)=(eZ l0 n 0 (fun i=>t.bs.getD i 0) (fun i=> -(dZ t.a i s)) i).set (t.bs.getD i 0) (-(dZ t.a i s)):=by rw[eZ,aM ⟨bA _,be⟩];rfl
   rw[<-hp]at RU;refine inc i ?_;intro IR w3 r3;exact⟨(i+1,w3,_),⟨OJ,Y.tr r3.cV,hT.rel r3.nil L,RU.rel r3 L⟩,sbgn [] r3,dec OJ⟩
  have hc:¬t.bs.getD i 0<n:=by simpa using hc
  have hp:eZ l0 n 0 (fun i=>t.bs.getD i 0) (fun i=> -(dZ t.a i s)) (i+1)=eZ l0 n 0 (fun i=>t.bs.getD i 0) (fun i=> -(dZ t.a i s)) i:=by rw[eZ,aK fun h=>hc (by have:=h.2;omega)]
  refine inc i ?_;intro IR w3 r3;exact⟨(i+1,w3,_),⟨OJ,Y.tr r3.cV,hT.rel r3.nil L,by rw[hp];exact hX.rel r3 L⟩,sbgn [] r3,dec OJ⟩
 have OJ:=dE R OJ;intro I8 we re;refine⟨_,rfl,Y.tr re.cV,?_⟩;unfold Tb.nN;rw[hu,<-hl0,Sv,<-OJ];exact hX.nw re L
end
variable{F':List (List Rat)}{E9:List Ow}{rv:List Value}{B:Nat}{S S' X:Nat->Prop}{O:Nat->Sx.dc}{it:Ow}{w F:World}
theorem j0.rep{it':Ow}{k:Nat}(h:j0 w S E9)(Z:E9[k]? =some it)(OM:∀g,g<w.heap.size->it.v.ownBlock≠some g->F.heap[g]? =w.heap[g]?)(ho:F.ownsRow 0 it'.e it'.sz it'.v it'.n it'.xs)
  (N:∀g,it'.v.ownBlock=some g->it.v.ownBlock=some g\/w.heap.size<=g) (off:∀g,Bv ((E9.set k it').map Ow.v) g->¬S' g):j0 F S' (E9.set k it'):=by
 refine⟨fun it2 QR=>?_,fun i j a b g R hj ha PD=>?_,off⟩
 .obtain⟨i,R⟩:=aY QR;rw[List.getElem?_set]at R;split at R
  .split at R
   .injection R with R;subst R;exact ho
   .cases R
  .rename_i e;have QD:=h.own it2 (aG R);exact ownsRow.cP QD fun g Pa=>OM g (ownsRow.low QD g Pa).2 fun e2=>e (h.apart k i _ _ g Z R e2 Pa)
 .have key:∀(i:Nat) (a:Ow),(E9.set k it')[i]? =some a->(i=k/\a=it')\/(i≠k/\E9[i]? =some a):=fun i a R=>by
   rw[List.getElem?_set]at R;split at R
   .rename_i e;split at R
    .injection R with R;exact .inl ⟨e.symm,R.symm⟩
    .cases R
   .rename_i e;exact .inr ⟨Ne.symm e,R⟩
  have low:∀(i:Nat) (a:Ow) (g:Nat),E9[i]? =some a->a.v.ownBlock=some g->g<w.heap.size:=fun i a g R V=>h.low (j0.bk (aG R) V);rcases key i a R with⟨rfl,rfl⟩|⟨W,I⟩<;>rcases key j b hj with⟨rfl,rfl⟩|⟨h3,h4⟩
  .rfl
  .rcases N g ha with h5|h5
   .exact h.apart i j it b g Z h4 h5 PD
   .have:=low j b g h4 PD;omega
  .rcases N g PD with h5|h5
   .exact h.apart i j a it g I Z ha h5
   .have:=low i a g I ha;omega
  .exact h.apart i j a b g I h4 ha PD
theorem j0.add(h:j0 w S E9)(ho:w.ownsRow 0 it.e it.sz it.v it.n it.xs)(OL:∀g,it.v.ownBlock=some g->¬Bv (E9.map Ow.v) g)(off:∀g,Bv ((it::E9).map Ow.v) g->¬S' g):j0 w S' (it::E9):=by
 refine⟨fun it2 QR=>?_,fun i j a b g R hj ha N=>?_,off⟩
 .rcases List.mem_cons.1 QR with rfl|QR
  .exact ho
  .exact h.own it2 QR
 .cases i with
  |zero=>
   injection R with R;subst R
   cases j with
   |zero=>rfl
   |succ j=>exact absurd (j0.bk (aG (show E9[j]? =some b from hj)) N) (OL g ha)
  |succ i=>
   cases j with
   |zero=>
    injection hj with hj;subst hj;exact absurd (j0.bk (aG (show E9[i]? =some a from R)) ha) (OL g N)
   |succ j=>exact congrArg (· +1) (h.apart i j a b g R hj ha N)
theorem vP{α:Type}{P:Nat->α->Prop}:∀{n:Nat},(∀i,i<n->∃y,P i y)->∃l:List α,l.length=n/\∀i y,l[i]? =some y->P i y
 |0,_=>⟨[],rfl,fun i y h=>by cases h⟩
 |n+1,h=>by
  obtain⟨l,W,I⟩:=vP (n:=n) fun i R=>h i be;obtain⟨y,hy⟩:=h n be;refine⟨l++[y],by simp[W],fun i z hz=>?_⟩;rcases az i n with R|R
  .rw[aQ be]at hz;exact I i z hz
  .rw[aW be,W]at hz;have:=dx hz;simp at this;obtain rfl:i=n:=by omega
   rw[bj]at hz;injection hz with hz;subst hz;exact hy
theorem j0.rows(hl:rv.length=F'.length)(OI:∀(i:Nat) v qs,rv[i]? =some v->F'[i]? =some qs->gA w S v qs.length qs)
  (D4:∀(i j:Nat) a b g,rv[i]? =some a->rv[j]? =some b->a.ownBlock=some g->b.ownBlock=some g->i=j) (off:∀g,Bv rv g->¬S' g):
  ∃ca,ca.length=F'.length/\j0 w S' (List.zipWith fV rv ca)/\∀(i:Nat) M q,ca[i]? =some M->F'[i]? =some q->Fr w S M q:=by
 obtain⟨ca,W,I⟩:=vP (n:=F'.length) (P:=fun i M=>∀v qs,rv[i]? =some v->F'[i]? =some qs->w.ownsRow 0 T.cw 4 v qs.length M.flatten/\M.length=qs.length/\Fr w S M qs) fun i R=>by
  obtain⟨M,W,I,h3⟩:=OI i rv[i] F'[i] (aE _) (aE _)
  exact⟨M,fun v qs e1 e2=>by
   rw[aE be]at e1 e2;injection e1 with e1;injection e2 with e2
   subst e1 e2;exact⟨W,I,h3⟩⟩
 have hz:∀i it,(List.zipWith fV rv ca)[i]? =some it->∃v M qs,rv[i]? =some v/\ca[i]? =some M/\F'[i]? =some qs/\it=fV v M:=fun i it R=>by
  have Oo:=dx R;rw[List.length_zipWith]at Oo;rw[List.getElem?_zipWith,aE be,aE be]at R;injection R with R;exact⟨_,_,_,aE be,aE be,aE (show i<F'.length by omega),R.symm⟩
 refine⟨ca,W,⟨fun it R=>?_,fun i j a b g R hj ha N=>?_,fun g V=>off g (by rw[ig be]at V;exact V)⟩,fun i M q e1 e2=>?_⟩
 .obtain⟨i,R⟩:=aY R;obtain⟨v,M,qs,e1,e2,e3,rfl⟩:=hz i it R;obtain⟨k1,k2,k3⟩:=I i M e2 v qs e1 e3;show w.ownsRow 0 T.cw 4 v M.length M.flatten;rw[k2];exact k1
 .obtain⟨v,M,qs,e1,e2,e3,rfl⟩:=hz i a R;obtain⟨v2,Uj,qs2,e4,e5,e6,rfl⟩:=hz j b hj;exact D4 i j v v2 g e1 e4 ha N
 .exact(I i M e1 _ q (aE (show i<rv.length by have:=dx e1;omega)) e2).2.2
theorem ed.begin{SA Sb Sc St:Nat->Prop}{va vB vc tv:Value}{n B1 e1 B2 e2 B3 e3 B4 e4 g0:Nat}{b c:List Rat}{q0:Rat}{b1 b5:Bool}{b2 b6:Option Addr}{b3 b4 b7 b8:Nat}
  (hM:iC w SA va rv n F') (hA:pf n F') (S0:∀g,Mb va rv g->B1<=g/\g<e1) (hSA:∀g,SA g->B1<=g/\g<e1/\¬Mb va rv g)
  (N:gA w Sb vB b.length b) (OX:∀g,vB.ownBlock=some g->B2<=g/\g<e2) (hSb:∀g,Sb g->B2<=g/\g<e2/\vB.ownBlock≠some g)
  (hc:gA w Sc vc c.length c) (Pv:∀g,vc.ownBlock=some g->B3<=g/\g<e3) (hSc:∀g,Sc g->B3<=g/\g<e3/\vc.ownBlock≠some g)
  (htv:tv= .agg #[.bool b1,.slice b2 b3 b4,.bool b5,.slice b6 b7 b8]) (ht:cY w St tv q0) (hSt:∀g,St g->B4<=g/\g<e4) (W:e1<=B2) (I:e2<=B3) (h3:B1<=e1) (h4:B2<=e2) (h5:B3<=e3) (h6:e3<=B4) (h7:B4<=e4) (Rc:¬(B1<=g0/\g0<e1)) (Pa:¬(B2<=g0/\g0<e2)) (hg3:¬(B3<=g0/\g0<e3)) (S5:¬(B4<=g0/\g0<e4))
  (hbox:w.heap[g0]? =some (.cells #[nls,nls,va,vB,vc,.bool b1,.slice b2 b3 b4,.bool b5,.slice b6 b7 b8] T.table (0,0))):
  ed w (fun g=>((B1<=g/\g<e1)\/(B2<=g/\g<e2)\/(B3<=g/\g<e3)\/(B4<=g/\g<e4))/\¬Bv (Tx.cX ⟨g0,nls,nls,va,vB,vc,rv⟩) g) ⟨g0,nls,nls,va,vB,vc,rv⟩ ⟨[],[],F',b,c,q0⟩:=by
 obtain⟨x,E⟩:∃x:Tx,x=⟨g0,nls,nls,va,vB,vc,rv⟩:=⟨_,rfl⟩
 have TG:∀g,Bv rv g->B1<=g/\g<e1:=fun g ⟨v,h,e⟩=>S0 g (.inr ⟨v,h,e⟩);have Qj:∀g,Bv x.cX g->g=g0\/(B1<=g/\g<e1/\Mb va rv g)\/(vB.ownBlock=some g)\/(vc.ownBlock=some g):=fun g ⟨v,h,e⟩=>by
  subst E;rcases List.mem_cons.1 h with rfl|h
  .injection e with e;exact .inl e.symm
  rcases List.mem_cons.1 h with rfl|h
  .cases e
  rcases List.mem_cons.1 h with rfl|h
  .cases e
  rcases List.mem_cons.1 h with rfl|h
  .exact .inr (.inl ⟨(S0 g (.inl e)).1,(S0 g (.inl e)).2,.inl e⟩)
  rcases List.mem_cons.1 h with rfl|h
  .exact .inr (.inr (.inl e))
  rcases List.mem_cons.1 h with rfl|h
  .exact .inr (.inr (.inr e))
  .exact .inr (.inl ⟨(S0 g (.inr ⟨v,h,e⟩)).1,(S0 g (.inr ⟨v,h,e⟩)).2,.inr ⟨v,h,e⟩⟩)
 have hSA':∀g,SA g->((B1<=g/\g<e1)\/(B2<=g/\g<e2)\/(B3<=g/\g<e3)\/(B4<=g/\g<e4))/\¬Bv x.cX g:=fun g V=>by
  obtain⟨k1,k2,k3⟩:=hSA g V;refine⟨be,fun hv=>?_⟩;rcases Qj g hv with k|k|k|k
  .omega
  .exact k3 k.2.2
  .have:=OX g k;omega
  .have:=Pv g k;omega
 have hSb':∀g,Sb g->((B1<=g/\g<e1)\/(B2<=g/\g<e2)\/(B3<=g/\g<e3)\/(B4<=g/\g<e4))/\¬Bv x.cX g:=fun g V=>by
  obtain⟨k1,k2,k3⟩:=hSb g V;refine⟨be,fun hv=>?_⟩;rcases Qj g hv with k|k|k|k
  .omega
  .omega
  .exact k3 k
  .have:=Pv g k;omega
 have hSc':∀g,Sc g->((B1<=g/\g<e1)\/(B2<=g/\g<e2)\/(B3<=g/\g<e3)\/(B4<=g/\g<e4))/\¬Bv x.cX g:=fun g V=>by
  obtain⟨k1,k2,k3⟩:=hSc g V;refine⟨be,fun hv=>?_⟩;rcases Qj g hv with k|k|k|k
  .omega
  .omega
  .have:=OX g k;omega
  .exact k3 k
 have hSt':∀g,St g->((B1<=g/\g<e1)\/(B2<=g/\g<e2)\/(B3<=g/\g<e3)\/(B4<=g/\g<e4))/\¬Bv x.cX g:=fun g V=>by
  have k:=hSt g V;refine⟨be,fun hv=>?_⟩;rcases Qj g hv with k|k|k|k
  .omega
  .omega
  .have:=OX g k;omega
  .have:=Pv g k;omega
 obtain⟨ca,k1,k2,k3⟩:=j0.rows (w:=w) (S:=SA) (S':=fun _=>False) hM.len (fun i v qs e1 e2=>by
  have:=hM.row i v qs e1 e2;rw[<-hA qs (aG e2)]at this
  exact this) hM.D4 fun _ _ h=>h
 obtain⟨cb,RK,PD,UU⟩:=N;obtain⟨cc,hc1,Qf,hc3⟩:=hc;have hzv:(List.zipWith fV rv ca).map Ow.v=rv:=ig (by rw[k1,hM.len]);rw[<-E];refine⟨rC b1 b2 b3 b4 b5 b6 b7 b8,cb,cc,ca,?_,⟨_,_,_,_,_,_,_,_,rfl,(htv▸ht).cO hSt'⟩,UU.cO hSb',hc3.cO hSc',k1,fun i M q e1 e2=>(k3 i M q e1 e2).cO hSA',by rw[E];exact hM.len⟩;have o1:=k2.add (S':=fun _=>False) (it:=fV vc cc) (by show w.ownsRow 0 T.cw 4 vc cc.length _;rw[Qf];exact hc1) (fun g V hv=>by rw[hzv]at hv;have:=TG g hv;have:=Pv g V;omega) fun _ _ h=>h
 have o2:=o1.add (S':=fun _=>False) (it:=fV vB cb) (by show w.ownsRow 0 T.cw 4 vB cb.length _;rw[PD];exact RK) (fun g V hv=>by
  obtain⟨v,hv,e⟩:=hv;rcases List.mem_cons.1 hv with rfl|hv
  .have:=Pv g e;have:=OX g V;omega
  .rw[hzv]at hv;have:=TG g ⟨v,hv,e⟩;have:=OX g V;omega) fun _ _ h=>h
 have o3:=o2.add (S':=fun _=>False) (it:=⟨va,T.row,1,rv.length,rv⟩) hM.out (fun g V hv=>by
  obtain⟨v,hv,e⟩:=hv;have:=S0 g (.inl V);rcases List.mem_cons.1 hv with rfl|hv
  .have:=OX g e;omega
  rcases List.mem_cons.1 hv with rfl|hv
  .have:=Pv g e;omega
  .rw[hzv]at hv;exact hM.DA v hv g e V) fun _ _ h=>h
 have o4:=o3.add (S':=fun _=>False) (it:=⟨nls,T.int,1,0,[]⟩) (World.ownsRow_nil _ _ _ _) (fun g V=>by cases V) fun _ _ h=>h;have o5:=o4.add (S':=fun _=>False) (it:=⟨nls,T.int,1,0,[]⟩) (World.ownsRow_nil _ _ _ _) (fun g V=>by cases V) fun _ _ h=>h;have o6:=o5.add (S':=fun g=>((B1<=g/\g<e1)\/(B2<=g/\g<e2)\/(B3<=g/\g<e3)\/(B4<=g/\g<e4))/\¬Bv x.cX g) (it:=⟨.slice (some ⟨g0,0,none⟩) 9 9,T.table,1,9,[nls,nls,va,vB,vc,.bool b1,.slice b2 b3 b4,.bool b5,.slice b6 b7 b8]⟩)
  ⟨rfl,.inr ⟨g0,9,_,rfl,bA _,hbox,lr,mx,rfl,rfl⟩⟩ (fun g V hv=>by
   injection V with V;have V:g0=g:=V;subst V;obtain⟨v,hv,e⟩:=hv;rcases List.mem_cons.1 hv with rfl|hv
   .cases e
   rcases List.mem_cons.1 hv with rfl|hv
   .cases e
   rcases List.mem_cons.1 hv with rfl|hv
   .have:=S0 _ (.inl e);omega
   rcases List.mem_cons.1 hv with rfl|hv
   .have:=OX _ e;omega
   rcases List.mem_cons.1 hv with rfl|hv
   .have:=Pv _ e;omega
   .rw[hzv]at hv;have:=TG _ ⟨v,hv,e⟩;omega) fun g V hs=>hs.2 (by
    subst E;obtain⟨v,hv,e⟩:=V;refine⟨v,?_,e⟩;have e2:(Ow.v <$> (List.zipWith fV rv ca))=rv:=hzv;show v∈_::_::_::_::_::_::rv;rw[<-hzv]
    exact hv)
 subst E;exact o6
theorem tY{H:Hp}{nx:Nat}{iv:Iv}{J:World}{v v':Value}(r:Rel H nx iv B w O J)(OL:∀g,v.ownBlock=some g->∀id b,dF H id=some b->(O id).nil=false->(O id).g≠g)(Od:J.heap.size<=F.heap.size)(Qu:∀g,v'.ownBlock=some g->g<F.heap.size/\(v.ownBlock=some g\/g=J.heap.size)):
  ∀lo R,(lo,R)∈e8 v'++iv->R<=F.heap.size/\∀id b,dF H id=some b->(O id).nil=false->¬(lo<=(O id).g/\(O id).g<R):=fun lo R hm=>by
 rcases bY.1 hm with hm|hm
 .obtain⟨V,rfl⟩:=jz.1 hm;obtain⟨W,I⟩:=Qu _ V;refine⟨be,fun id c hc U G=>?_⟩;rcases I with I|I
  .exact OL _ I id c hc U be
  .have:=(r.low id c hc U).2;omega
 .have:=r.nG lo R hm;have:=r.size;exact⟨be,fun id c hc U=>r.ix lo R hm id c hc U⟩
theorem Kept.fu{E8:Nat->Prop}{w0:World}(h:Kept w0 w X)(k:Kept w F E8)(hY:∀g,g<w0.heap.size->E8 g->X g):Kept w0 F X:=
 ⟨k.os.trans h.os,k.tape.trans h.tape,k.output.trans h.output,aP h.size k.size,fun j hj E=>(k.block j (Nat.lt_of_lt_of_le hj h.size) fun hy=>E (hY j hj hy)).trans (h.block j hj E)⟩
theorem Kept.toBel(h:Kept w F X)(hX:∀g,X g->B<=g)(hB:B<=w.heap.size):Bel B w F:=
 ⟨h.os,h.tape,h.output,h.size,fun k Z=>h.block k be fun E=>by have:=hX k E;omega⟩
end Go.Ex
namespace Go.Sx
open Go Go.Ex Go.Proofs
variable{O:Nat->Sx.dc}
theorem Sub.MW{B:Nat}{l tl:Env}{nx:Nat}{H tH:Hp}{iv:Iv}{w J:World}{id t:Nat}{e:TypeId}{cs:List At}(r:Rel H nx iv B w O J)(Pk:dF H id=some (.box e cs))(ht:fH l t=some (.o (.p id 0)))(U:(O id).nil=false)
  (hs:Ag H tH) (ho:H0 id tH=true) (W:Dd l tl) (I:ka nx tl):
  Sub B l nx O J ⟨(t,.o (.v (.pointer (some ⟨(O id).g,0,none⟩))))::tl,tH,nx,((O id).g,(O id).g+1)::iv,J⟩:=by
 refine⟨O,r.free Pk ce U hs ho,fun u v hv=>?_⟩;rw[eU]at hv;split at hv
 .rename_i e;subst e;injection hv with hv;subst hv;exact⟨trivial,_,ht,rfl⟩
 .exact⟨I.get u v hv,v,W.get u v hv,rfl⟩
end Go.Sx
namespace Go.Ex
open Go Go.Sx Go.Proofs
section
variable{l:List Nat}{q:List Rat}{S:Nat->Prop}{v:Value}{w:World}
def Tx.hd(x:Tx):List Value:=[x.vb,x.vf,x.va,x.vB,x.vc]
def mO(hd rvx:List Value)(x:Tx)(t:Tb)(tp:List Value)(cb cc:List (List Value))(ca:List (List (List Value))):List Ow:=
 ⟨x.bx,T.table,1,9,hd++tp⟩::⟨x.vb,T.int,1,t.bs.length,ints t.bs⟩::⟨x.vf,T.int,1,t.fs.length,ints t.fs⟩::⟨x.va,T.row,1,rvx.length,rvx⟩::fV x.vB cb::fV x.vc cc::List.zipWith fV x.rv ca
structure Gr(w:World)(S:Nat->Prop)(hd rvx:List Value)(x:Tx)(t:Tb)(tp:List Value)(cb cc:List (List Value))(ca:List (List (List Value))):Prop where
 ows:j0 w S (mO hd rvx x t tp cb cc ca)
 ft:jP w S tp t.top
 fb:Fr w S cb t.b
 fc:Fr w S cc t.c
 fl:ca.length=t.a.length
 fa:∀(i:Nat) M q,ca[i]? =some M->t.a[i]? =some q->Fr w S M q
 rl:x.rv.length=t.a.length
 rx:rvx.length=x.rv.length
 h5:hd.length=5
def nB(w:World)(S:Nat->Prop)(hd rvx:List Value)(x:Tx)(t:Tb):Prop:=∃tp cb cc ca,Gr w S hd rvx x t tp cb cc ca
theorem ed.toJ{x:Tx}{t:Tb}(h:ed w S x t):nB w S x.hd x.rv x t:=by
 obtain⟨tp,cb,cc,ca,h⟩:=h;exact⟨tp,cb,cc,ca,h.ows,h.ft,h.fb,h.fc,h.fl,h.fa,h.rl,rfl,rfl⟩
theorem nB.toW{x:Tx}{t:Tb}(h:nB w S x.hd x.rv x t):ed w S x t:=by
 obtain⟨tp,cb,cc,ca,h⟩:=h;exact⟨tp,cb,cc,ca,h.ows,h.ft,h.fb,h.fc,h.fl,h.fa,h.rl⟩
section
variable{w F:World}{S S':Nat->Prop}{hd rvx:List Value}{x:Tx}{t:Tb}{tp:List Value}{cb cc:List (List Value)}{ca:List (List (List Value))}
theorem Gr.cX(h:Gr w S hd rvx x t tp cb cc ca):(mO hd rvx x t tp cb cc ca).map Ow.v=x.cX:=by
 show _::_::_::_::_::_::(List.zipWith fV x.rv ca).map Ow.v=_;rw[ig (by rw[h.rl,h.fl])];rfl
theorem Gr.cP(h:Gr w S hd rvx x t tp cb cc ca)(Z:∀g,S g\/Bv x.cX g->F.heap[g]? =w.heap[g]?):Gr F S hd rvx x t tp cb cc ca:=
 ⟨h.ows.cP fun g V=>Z g (.inr (by rw[h.cX]at V;exact V)),h.ft.cP fun g V=>Z g (.inl V),h.fb.cP fun g V=>Z g (.inl V),h.fc.cP fun g V=>Z g (.inl V),h.fl,fun i M q W I=>(h.fa i M q W I).cP fun g V=>Z g (.inl V),h.rl,h.rx,h.h5⟩
theorem nB.NS(h:nB w S hd rvx x t)(OM:∀g,g<w.heap.size->x.vb.ownBlock≠some g->F.heap[g]? =w.heap[g]?)(ho:F.ownsRow 0 T.int 1 v l.length (ints l))(N:∀g,v.ownBlock=some g->x.vb.ownBlock=some g\/w.heap.size<=g)
  (L:∀g,S g->g<w.heap.size) (hs:∀g,S g->S' g) (U:∀g,Bv (Tx.cX {x with vb:=v}) g->¬S' g):nB F S' hd rvx {x with vb:=v} {t with bs:=l}:=by
 obtain⟨tp,cb,cc,ca,h⟩:=h;have Z:∀g,S g->F.heap[g]? =w.heap[g]? :=fun g V=>OM g (L g V) fun e=>h.ows.off g (j0.bk (it:=⟨x.vb,T.int,1,t.bs.length,ints t.bs⟩) (by simp[mO]) e) V;have I:j0 F FF (mO hd rvx {x with vb:=v} {t with bs:=l} tp cb cc ca):=h.ows.rep (k:=1) (it':=⟨v,T.int,1,l.length,ints l⟩) rfl OM ho N fun _ _ h=>h;refine⟨tp,cb,cc,ca,I.DZ fun g V=>U g ?_,(h.ft.cP Z).cO hs,(h.fb.cP Z).cO hs,(h.fc.cP Z).cO hs,h.fl,fun i M q W I=>((h.fa i M q W I).cP Z).cO hs,h.rl,h.rx,h.h5⟩;have e:(mO hd rvx {x with vb:=v} {t with bs:=l} tp cb cc ca).map Ow.v=Tx.cX {x with vb:=v}:=by
  show _::_::_::_::_::_::(List.zipWith fV x.rv ca).map Ow.v=_;rw[ig (by rw[h.rl,h.fl])];rfl
 rw[<-e];exact V
theorem nB.MX(h:nB w S hd rvx x t)(OM:∀g,g<w.heap.size->x.vf.ownBlock≠some g->F.heap[g]? =w.heap[g]?)(ho:F.ownsRow 0 T.int 1 v l.length (ints l))(N:∀g,v.ownBlock=some g->x.vf.ownBlock=some g\/w.heap.size<=g)
  (L:∀g,S g->g<w.heap.size) (hs:∀g,S g->S' g) (U:∀g,Bv (Tx.cX {x with vf:=v}) g->¬S' g):nB F S' hd rvx {x with vf:=v} {t with fs:=l}:=by
 obtain⟨tp,cb,cc,ca,h⟩:=h;have Z:∀g,S g->F.heap[g]? =w.heap[g]? :=fun g V=>OM g (L g V) fun e=>h.ows.off g (j0.bk (it:=⟨x.vf,T.int,1,t.fs.length,ints t.fs⟩) (by simp[mO]) e) V;have I:j0 F FF (mO hd rvx {x with vf:=v} {t with fs:=l} tp cb cc ca):=h.ows.rep (k:=2) (it':=⟨v,T.int,1,l.length,ints l⟩) rfl OM ho N fun _ _ h=>h;refine⟨tp,cb,cc,ca,I.DZ fun g V=>U g ?_,(h.ft.cP Z).cO hs,(h.fb.cP Z).cO hs,(h.fc.cP Z).cO hs,h.fl,fun i M q W I=>((h.fa i M q W I).cP Z).cO hs,h.rl,h.rx,h.h5⟩;have e:(mO hd rvx {x with vf:=v} {t with fs:=l} tp cb cc ca).map Ow.v=Tx.cX {x with vf:=v}:=by
  show _::_::_::_::_::_::(List.zipWith fV x.rv ca).map Ow.v=_;rw[ig (by rw[h.rl,h.fl])];rfl
 rw[<-e];exact V
theorem nB.MY(h:nB w S hd rvx x t)(OM:∀g,g<w.heap.size->x.vc.ownBlock≠some g->F.heap[g]? =w.heap[g]?)(ho:gA F S' v q.length q)(N:∀g,v.ownBlock=some g->x.vc.ownBlock=some g\/w.heap.size<=g)
  (L:∀g,S g->g<w.heap.size) (hs:∀g,S g->S' g) (U:∀g,Bv (Tx.cX {x with vc:=v}) g->¬S' g):nB F S' hd rvx {x with vc:=v} {t with c:=q}:=by
 obtain⟨tp,cb,cc,ca,h⟩:=h;obtain⟨M,RN,PZ,Tc⟩:=ho;have Z:∀g,S g->F.heap[g]? =w.heap[g]? :=fun g V=>OM g (L g V) fun e=>h.ows.off g (j0.bk (it:=fV x.vc cc) (by simp[mO]) e) V;have I:j0 F FF (mO hd rvx {x with vc:=v} {t with c:=q} tp cb M ca):=h.ows.rep (k:=5) (it':=fV v M) rfl OM (by show F.ownsRow 0 T.cw 4 v M.length _;rw[PZ];exact RN) N fun _ _ h=>h;refine⟨tp,cb,M,ca,I.DZ fun g V=>U g ?_,(h.ft.cP Z).cO hs,(h.fb.cP Z).cO hs,Tc,h.fl,fun i M q W I=>((h.fa i M q W I).cP Z).cO hs,h.rl,h.rx,h.h5⟩;have e:(mO hd rvx {x with vc:=v} {t with c:=q} tp cb M ca).map Ow.v=Tx.cX {x with vc:=v}:=by
  show _::_::_::_::_::_::(List.zipWith fV x.rv ca).map Ow.v=_;rw[ig (by rw[h.rl,h.fl])];rfl
 rw[<-e];exact V
theorem nB.MZ(h:nB w S hd rvx x t){v0:Value}{i:Nat}(hv:x.rv[i]? =some v0)(OM:∀g,g<w.heap.size->v0.ownBlock≠some g->F.heap[g]? =w.heap[g]?)(ho:gA F S' v q.length q)(N:∀g,v.ownBlock=some g->v0.ownBlock=some g\/w.heap.size<=g)
  (L:∀g,S g->g<w.heap.size) (hs:∀g,S g->S' g) (U:∀g,Bv (Tx.cX {x with rv:=x.rv.set i v}) g->¬S' g):nB F S' hd rvx {x with rv:=x.rv.set i v} {t with a:=t.a.set i q}:=by
 obtain⟨tp,cb,cc,ca,h⟩:=h;obtain⟨M,RN,PZ,Tc⟩:=ho;have Uk:=dx hv;have hic:i<ca.length:=by rw[h.fl,<-h.rl];exact Uk
 have hci:ca[i]? =some ca[i]:=aE hic;have hI:(mO hd rvx x t tp cb cc ca)[i+6]? =some (fV v0 ca[i]):=by
  show(List.zipWith fV x.rv ca)[i]? =_;rw[List.getElem?_zipWith,hv,hci]
 have Z:∀g,S g->F.heap[g]? =w.heap[g]? :=fun g V=>OM g (L g V) fun e=>h.ows.off g (j0.bk (aG hI) e) V;have I:j0 F FF ((mO hd rvx x t tp cb cc ca).set (i+6) (fV v M)):=h.ows.rep (it':=fV v M) hI OM (by show F.ownsRow 0 T.cw 4 v M.length _;rw[PZ];exact RN) N fun _ _ h=>h;have e:(mO hd rvx x t tp cb cc ca).set (i+6) (fV v M)=mO hd rvx {x with rv:=x.rv.set i v} {t with a:=t.a.set i q} tp cb cc (ca.set i M):=by
  show _::_::_::_::_::_::(List.zipWith fV x.rv ca).set i _=_::_::_::_::_::_::List.zipWith fV (x.rv.set i v) (ca.set i M);congr 6;apply aj;intro j;by_cases e:i=j
  .subst e;rw[aO (by rw[List.length_zipWith];omega),List.getElem?_zipWith,aO Uk,aO hic]
  .rw[aV e,List.getElem?_zipWith,List.getElem?_zipWith,aV e,aV e]
 rw[e]at I;have e2:(mO hd rvx {x with rv:=x.rv.set i v} {t with a:=t.a.set i q} tp cb cc (ca.set i M)).map Ow.v=Tx.cX {x with rv:=x.rv.set i v}:=by
  show _::_::_::_::_::_::(List.zipWith fV (x.rv.set i v) (ca.set i M)).map Ow.v=_;rw[ig (by rw[bM,bM,h.rl,h.fl])];rfl
 refine⟨tp,cb,cc,ca.set i M,I.DZ fun g V=>U g (by rw[<-e2];exact V),(h.ft.cP Z).cO hs,(h.fb.cP Z).cO hs,(h.fc.cP Z).cO hs,by simp[h.fl],fun j Uj q2 h5 h6=>?_,by simp[h.rl],by simp[h.rx],h.h5⟩;by_cases e:i=j
 .subst e;rw[aO hic]at h5;rw[aO (by rw[<-h.fl];exact hic)]at h6;injection h5 with h5;injection h6 with h6;subst h5 h6;exact Tc
 .rw[aV e]at h5 h6;exact((h.fa j Uj q2 h5 h6).cP Z).cO hs
end
end
variable{ad:Addr}{l:List Nat}{q:List Rat}{vs:List Value}{g:Nat}{S:Nat->Prop}{v:Value}
structure rk(w:World)(S:Nat->Prop)(B:Nat)(iv:Iv)(hd rvx:List Value)(x:Tx)(t:Tb):Prop where
 iH:nB w (Lv S B iv x) hd rvx x t
 kL:∀g,Bv x.cX g->Out B iv g
theorem rk.toO{w:World}{B:Nat}{iv:Iv}{hd rvx:List Value}{x:Tx}{t:Tb}(h:rk w S B iv hd rvx x t)(W:hd=x.hd)(I:rvx=x.rv):cj w S B iv x t:=by
 subst W I;exact⟨h.iH.toW,h.kL⟩
theorem Bv.cons:Bv (v::vs) g↔v.ownBlock=some g\/Bv vs g:=by
 constructor
 .rintro⟨u,hu,e⟩;rcases List.mem_cons.1 hu with rfl|hu
  .exact .inl e
  .exact .inr ⟨u,hu,e⟩
 .rintro(e|⟨u,hu,e⟩)
  .exact⟨v,aF,e⟩
  .exact⟨u,aD _ hu,e⟩
theorem Bv.cX{x:Tx}:Bv x.cX g↔x.g=g\/x.vb.ownBlock=some g\/x.vf.ownBlock=some g\/x.va.ownBlock=some g\/x.vB.ownBlock=some g\/x.vc.ownBlock=some g\/Bv x.rv g:=by
 unfold Tx.cX;rw[Bv.cons,Bv.cons,Bv.cons,Bv.cons,Bv.cons,Bv.cons];have:(x.bx.ownBlock=some g)↔x.g=g:=⟨fun h=>by injection h,fun h=>by rw[<-h];rfl⟩
 rw[this]
theorem Bv.set{i:Nat}(h:Bv (vs.set i v) g):v.ownBlock=some g\/Bv vs g:=by
 obtain⟨u,hu,e⟩:=h;rcases bH hu with W|W
 .exact .inr ⟨u,W,e⟩
 .exact .inl (W▸e)
section
variable{S:Nat->Prop}{H:Hp}{nx:Nat}{iv:Iv}{B:Nat}{w J F:World}{O:Nat->Sx.dc}{x:Tx}{t:Tb}{hd rvx:List Value}{v v0:Value}
structure Ih(w J F:World)(S:Nat->Prop)(B:Nat)(iv:Iv)(v':Value)(hd rvx:List Value)(x x':Tx)(t':Tb):Prop where
 iH:rk F S B (e8 v'++iv) hd rvx x' t'
 DZ:∀g,Lv S B iv x g->F.heap[g]? =w.heap[g]? /\Lv S B (e8 v'++iv) x' g
 kept:Kept J F (Bv x.cX)
 AI:∀g,Bv x'.cX g->Bv x.cX g\/J.heap.size<=g
theorem cj.LX(hT:cj w S B iv x t)(r:Rel H nx iv B w O J)(L:∀g,S g->g<B){x':Tx}{t':Tb}(h0:∀g,v0.ownBlock=some g->Bv x.cX g)(E:∀g,Bv x'.cX g->v.ownBlock=some g\/Bv x.cX g)(h6:J.grownBy F v0.ownBlock)(h7:v.ownBlock=v0.ownBlock\/v.ownBlock=some J.heap.size)
  (hJ:∀S':Nat->Prop,(∀g,g<J.heap.size->v0.ownBlock≠some g->F.heap[g]? =J.heap[g]?)->(∀g,v.ownBlock=some g->v0.ownBlock=some g\/J.heap.size<=g)->(∀g,Lv S B iv x g->g<J.heap.size)->(∀g,Lv S B iv x g->S' g)->(∀g,Bv x'.cX g->¬S' g)->nB F S' hd rvx x' t'):
  Ih w J F S B iv v hd rvx x x' t':=by
 have hold:=Lv.old (x:=x) r L;have ON:∀g,Bv x.cX g->g<J.heap.size:=fun g V=>hT.low r V;have OM:∀g,g<J.heap.size->v0.ownBlock≠some g->F.heap[g]? =J.heap[g]? :=fun g V OL=>h6.block g V (Ne.symm OL);have N:∀g,v.ownBlock=some g->v0.ownBlock=some g\/J.heap.size<=g:=fun g V=>by
  rcases h7 with h7|h7
  .exact .inl (h7▸V)
  .rw[h7]at V;injection V with V;exact .inr be
 have Qr:∀p,p∈iv->p∈e8 v++iv:=fun p hp=>List.mem_append_right _ hp
 have hL:∀g,Lv S B iv x g->Lv S B (e8 v++iv) x' g:=fun g V=>⟨V.1.mono Qr,fun PD=>by
  rcases E g PD with W|W
  .rcases N g W with I|I
   .exact V.2 (h0 g I)
   .have:=hold g V;omega
  .exact V.2 W⟩
 have OL:∀g,Lv S B iv x g->v0.ownBlock≠some g:=fun g V e=>V.2 (h0 g e);refine⟨⟨hJ (Lv S B (e8 v++iv) x') OM N hold hL fun g PD hl=>hl.2 PD,fun g V=>?_⟩,fun g V=>⟨(OM g (hold g V) (OL g V)).trans (Lv.same r L g V),hL g V⟩,Kept.one h6 fun g e=>h0 g e,fun g V=>?_⟩
 .rcases E g V with W|W
  .rcases N g W with I|I
   .exact(hT.kL g (h0 g I)).mono Qr
   .exact .inr ⟨by have:=r.cR;omega,g,g+1,List.mem_append_left _ (jz.2 ⟨W,rfl⟩),lr,cI _⟩
  .exact(hT.kL g W).mono Qr
 .rcases E g V with W|W
  .rcases N g W with I|I
   .exact .inl (h0 g I)
   .exact .inr I
  .exact .inl W
theorem cj.M0(hT:cj w S B iv x t)(r:Rel H nx iv B w O J)(L:∀g,S g->g<B)(h5:F.ownsRow 0 T.int 1 v l.length (ints l))(h6:J.grownBy F x.vb.ownBlock)(h7:v.ownBlock=x.vb.ownBlock\/v.ownBlock=some J.heap.size):
  Ih w J F S B iv v x.hd x.rv x {x with vb:=v} {t with bs:=l}:=
 hT.LX (v0:=x.vb) r L (fun g e=>Bv.cX.2 (.inr (.inl e))) (fun g h=>by rw[Bv.cX]at h ⊢;simp only at h;rcases h with h|h|h|h|h|h|h<;>simp[h]) h6 h7 fun S' k1 k2 k3 k4 k5=>(hT.rel r L).iH.toJ.NS k1 h5 k2 k3 k4 k5
theorem cj.Kk(hT:cj w S B iv x t)(r:Rel H nx iv B w O J)(L:∀g,S g->g<B)(h5:F.ownsRow 0 T.int 1 v l.length (ints l))(h6:J.grownBy F x.vf.ownBlock)(h7:v.ownBlock=x.vf.ownBlock\/v.ownBlock=some J.heap.size):
  Ih w J F S B iv v x.hd x.rv x {x with vf:=v} {t with fs:=l}:=
 hT.LX (v0:=x.vf) r L (fun g e=>Bv.cX.2 (.inr (.inr (.inl e)))) (fun g h=>by rw[Bv.cX]at h ⊢;simp only at h;rcases h with h|h|h|h|h|h|h<;>simp[h]) h6 h7 fun S' k1 k2 k3 k4 k5=>(hT.rel r L).iH.toJ.MX k1 h5 k2 k3 k4 k5
theorem cj.M4(hT:cj w S B iv x t)(r:Rel H nx iv B w O J)(L:∀g,S g->g<B){i:Nat}(hv:x.rv[i]? =some v0)(h5:∀S':Nat->Prop,(∀g,Lv S B iv x g->S' g)->gA F S' v q.length q)(h6:J.grownBy F v0.ownBlock)(h7:v.ownBlock=v0.ownBlock\/v.ownBlock=some J.heap.size):
  Ih w J F S B iv v x.hd x.rv x {x with rv:=x.rv.set i v} {t with a:=t.a.set i q}:=
 hT.LX (v0:=v0) r L (fun g e=>Bv.cX.2 (.inr (.inr (.inr (.inr (.inr (.inr ⟨v0,aG hv,e⟩))))))) (fun g h=>by
  rw[Bv.cX]at h ⊢;simp only at h;rcases h with h|h|h|h|h|h|h
  any_goals simp[h]
  rcases Bv.set h with h|h<;>simp[h]) h6 h7 fun S' k1 k2 k3 k4 k5=>(hT.rel r L).iH.toJ.MZ hv k1 (h5 S' k4) k2 k3 k4 k5
structure Nq(H:Hp)(O:Nat->Sx.dc)(w J:World)(ad:Addr)(v:Value)(S:Nat->Prop)(B:Nat)(iv:Iv)(hd rvx:List Value)(x:Tx)(t:Tb):Prop where
 spot:ad.spot=none
 cells:∀k,k<1->(J.cell? (ad.add k)).isSome=true/\J.frozen? (ad.add k)=false
 own:∀id b,dF H id=some b->(O id).nil=false->(O id).g≠ad.block
 next:∀w4,w4=setCells J ad [v]->rk w4 S B iv hd rvx x t/\Kept J w4 (Bv x.cX)/\∀g,Lv S B iv x g->w4.heap[g]? =w.heap[g]?
theorem rk.same(h:rk w S B iv hd rvx x t)(r:Rel H nx iv B w O J)(L:∀g,S g->g<B):∀g,Lv S B iv x g\/Bv x.cX g->J.heap[g]? =w.heap[g]? :=fun g V=>
 V.elim (fun V=>rls r L V.1) fun V=>rls r (fun _ h=>h) (h.kL g V)
theorem rk.BY(hT:rk w S B iv hd rvx x t)(r:Rel H nx iv B w O J)(L:∀g,S g->g<B){k:Nat}(Z:k<5)(Ou:ad=⟨x.g,k,none⟩):Nq H O w J ad v S B iv (hd.set k v) rvx x t:=by
 obtain⟨tp,cb,cc,ca,hC⟩:=hT.iH;have ON:∀g,Lv S B iv x g->g<w.heap.size:=fun g V=>by
  rcases V.1 with h|⟨_,lo,R,k1,k2,k3⟩
  .have:=L g h;have:=r.base;omega
  .have:=r.nG lo R k1;omega
 have ht4:=hC.ft.len;have hh5:=hC.h5;obtain⟨W,I,h3,h4⟩:=hC.ows.st (k:=0) (off:=k) (nv:=[v]) r (fun g V=>hT.kL g (by rw[<-hC.cX];exact V)) (Lv.same r L) rfl (by show k+1<=9*1;omega) ce (ad:=ad) fun g c e=>by
  injection e with e;injection e with e;injection e with e;rw[Ou,e]
 refine⟨W,I,h3,fun w4 OZ=>?_⟩;obtain⟨h5,h6,h7⟩:=h4 w4 OZ;have hL:∀g,Lv S B iv x g->w4.heap[g]? =J.heap[g]? :=fun g V=>h7 g V (ON g V);have Vg:=hC.cP (hT.same r L);have e:(hd++tp).take k++[v]++(hd++tp).drop (k+1)=hd.set k v++tp:=by
  rw[List.take_append_of_le_length be,List.drop_append_of_le_length be,List.set_eq_take_append_cons_drop,aM be];simp
 have h8:=Vg.ows.put (k:=0) rfl h5 h6;refine⟨⟨⟨tp,cb,cc,ca,?_,Vg.ft.cP hL,Vg.fb.cP hL,Vg.fc.cP hL,hC.fl,fun i M q e1 e2=>(Vg.fa i M q e1 e2).cP hL,hC.rl,hC.rx,by rw[bM];exact hh5⟩,hT.kL⟩,Kept.one h5 fun g e=>Bv.cX.2 (.inl (by injection e)),fun g V=>(hL g V).trans (Lv.same r L g V)⟩;have e2:(mO hd rvx x t tp cb cc ca).set 0 (Ow.LQ ⟨x.bx,T.table,1,9,hd++tp⟩ ((hd++tp).take k++[v]++(hd++tp).drop (k+1)))=mO (hd.set k v) rvx x t tp cb cc ca:=by rw[e];rfl
 rw[<-e2];exact h8
theorem rk.Ii(hT:rk w S B iv hd rvx x t)(r:Rel H nx iv B w O J)(L:∀g,S g->g<B){i n c:Nat}(R:i<rvx.length)(Rb:x.va= .slice (some ⟨g,0,none⟩) n c)(Ou:ad=⟨g,i*1,none⟩):Nq H O w J ad v S B iv hd (rvx.set i v) x t:=by
 obtain⟨tp,cb,cc,ca,hC⟩:=hT.iH;have ON:∀g,Lv S B iv x g->g<w.heap.size:=fun g V=>by
  rcases V.1 with h|⟨_,lo,R,k1,k2,k3⟩
  .have:=L g h;have:=r.base;omega
  .have:=r.nG lo R k1;omega
 obtain⟨W,I,h3,h4⟩:=hC.ows.st (k:=3) (off:=i) (nv:=[v]) r (fun g V=>hT.kL g (by rw[<-hC.cX];exact V)) (Lv.same r L) rfl (by show i+1<=rvx.length*1;omega) ce (ad:=ad) fun g c e=>by
  rw[show x.va=_ from e]at Rb;injection Rb with Rb;injection Rb with Rb;injection Rb with Rb;rw[Ou,Rb,bC]
 refine⟨W,I,h3,fun w4 OZ=>?_⟩;obtain⟨h5,h6,h7⟩:=h4 w4 OZ;have hL:∀g,Lv S B iv x g->w4.heap[g]? =J.heap[g]? :=fun g V=>h7 g V (ON g V);have Vg:=hC.cP (hT.same r L);have e:rvx.take i++[v]++rvx.drop (i+1)=rvx.set i v:=by
  rw[List.set_eq_take_append_cons_drop,aM R];simp
 have h8:=Vg.ows.put (k:=3) rfl h5 h6;refine⟨⟨⟨tp,cb,cc,ca,?_,Vg.ft.cP hL,Vg.fb.cP hL,Vg.fc.cP hL,hC.fl,fun i M q e1 e2=>(Vg.fa i M q e1 e2).cP hL,hC.rl,by rw[bM];exact hC.rx,hC.h5⟩,hT.kL⟩,Kept.one h5 fun g e=>Bv.cX.2 (.inr (.inr (.inr (.inl e)))),fun g V=>(hL g V).trans (Lv.same r L g V)⟩;have e2:(mO hd rvx x t tp cb cc ca).set 3 (Ow.LQ ⟨x.va,T.row,1,rvx.length,rvx⟩ (rvx.take i++[v]++rvx.drop (i+1)))=mO hd (rvx.set i v) x t tp cb cc ca:=by
  rw[e];show _::_::_::_::_=_::_::_::_::_;unfold Ow.LQ;rw[bM]
 rw[<-e2];exact h8
end
end Go.Ex
