/- Texts X262 to X264: lemmas, each with its conditions. -/
import Derived.Test.YtbffinhkognefaaGreatDoorP15
namespace Go.Ex
open Go Go.Sx Go.Proofs
variable{b c:List (Int×Int)}{G8:List (List (Int×Int))}{F' Fn:List (List Rat)}{qs x xs ys:List Rat}{cs:List Value}{h:Nat}{S:Nat->Prop}{d:Nat->Rat}{u v vb vc vm:Value}{w J:World}
theorem cS.KJ:cS w S nls []:=⟨[],⟨bA _,rfl,ce,none,0,rfl,lr,fun j u h=>by cases h⟩,rfl,ce,fun j cs x h=>by cases h⟩
theorem EV{x:Tx}{b c:List Rat}{Fn Bz n m:Nat}(TL:c.length=n)(VG:F'.length=m)(RR:Old S w)(PM:ed w S x (Tb.begin F' b c))(hA:pf n F')(N:b.length=m)(hm:m<=900)(U:n<=900)
  (hW:H4 m n Bz (dZ F') (fun i=>b.getD i 0) (fun j=>c.getD j 0) d) (hK:ln (fB Bz (m+1))<=Fn) (W:1<=Fn) (hh:Fn<=90000):
  eD PG Fd.iY #[.pointer (some ⟨x.g,0,none⟩),iV n] w (fun e F=>∃v x' t',e= .returned v/\x'.g=x.g/\Kept w F (Bv x.cX)/\ed F (fun g=>Nw (fun g=>S g\/Bv x.cX g) w F g/\¬Bv x'.cX g) x' t'/\(∀g,Bv x'.cX g->Bv x.cX g\/w.heap.size<=g)/\
   ((v=nls/\∃D,Rp t' D/\nM D m n (dZ F') (fun i=>b.getD i 0) (fun j=>c.getD j 0)/\D.vl/\∃F9,D.Sz Bz F9)\/
    (∃a q y,v= .slice (some a) m q/\dm F (Nw S w F) (Nw S w F) v y/\y.length=m/\(∀q∈y,rl q+1<=Fn+1)/\zw m n (dZ F') (fun i=>b.getD i 0) fun i=>y.getD i 0))):=by
 subst TL VG;exact ES RR PM hA N hm U hW hK W hh
def vR(F':List (List Rat))(b c:List Rat)(Fn:Nat)(F:World)(C8:Nat->Prop)(s:Value):Prop:=
 ∃(z:Nat) (vx vy vr:Value) (g0:Bool) (g1:Option Addr) (g2 g3:Nat) (g4:Bool) (g5:Option Addr) (g6 g7:Nat) (X E8 FS:List Rat) (q:Rat),s= .agg #[iV z,vx,vy,vr,.bool g0,.slice g1 g2 g3,.bool g4,.slice g5 g6 g7]/\
  cS F C8 vx X/\cS F C8 vy E8/\cS F C8 vr FS/\cZ F C8 (.agg #[.bool g0,.slice g1 g2 g3,.bool g4,.slice g5 g6 g7]) q/\uZ F' b c z X E8 FS q/\
  (∀p∈X,rl p+1<=Fn+1)/\(∀p∈E8,rl p+1<=Fn+1)/\(∀p∈FS,rl p+1<=Fn+1)/\rl q+1<=Fn+1/\X.length<=60/\E8.length<=60/\FS.length<=60
theorem EW{Fn Bz:Nat}(RR:Old S w)(hm:dK w S vm G8)(N:dB w S vb b)(hc:dB w S vc c)
  (hf:iB G8 b c=0->(∀r∈G8,wm r)/\wm b/\wm c/\H4 G8.length c.length Bz (dZ (de G8)) (fun i=>(b.map cU).getD i 0) (fun j=>(c.map cU).getD j 0) d/\ln (fB Bz (G8.length+1))<=Fn/\2<=Fn/\Fn<=90000):
  eD PG Fd.jg #[.agg #[vm,vb,vc]] w (eL w fun v F=>(iB G8 b c≠0/\v= .tuple #[.agg #[iV 0,nls,nls,nls,.bool false,nls,.bool false,nls],iV (iB G8 b c)])\/
   (iB G8 b c=0/\∃s,v= .tuple #[s,iV 0]/\vR (de G8) (b.map cU) (c.map cU) Fn F (Nf w F) s)):=by
 have L:=RR;have hF:=kW w.heap.size;have Y:=bR w;obtain⟨am,cm,rfl,Rd,TQ⟩:=dD.shape hm;obtain⟨ab,cb,rfl,Pv,S0⟩:=dU.shape N;obtain⟨ac,cc,rfl,Uc,RL⟩:=dU.shape hc;obtain⟨EQ,hE⟩:∃EQ,EQ=iB G8 b c:=⟨_,rfl⟩
 refine tO ce ?_;refine cM (cN (I9:=fun _ J v F=>v=iV (iB G8 b c)) (fun O J r=>ye (oS L r) (dK.cP hm ((kS Y r L))) (dB.cP N ((kS Y r L))) (dB.cP hc ((kS Y r L)))) ?_);rintro O wa_1 v1 wb_1 r G OQ rfl;replace Y:=Y.tr OQ;clear r G OQ;rw[<-hE];apply bS<;>intro hc0
 .have OL:EQ≠0:=fun h=>by rw[h]at hc0;simp at hc0
  exact rtn Y fun I8 we re=>.inl ⟨OL,rfl⟩
 have hE0:EQ=0:=by simpa using hc0
 have hE1:iB G8 b c=0:=by rw[<-hE];exact hE0
 obtain⟨hfM,Xb,hfc,hWp,hK,W,hh⟩:=hf hE1;obtain⟨-,OQ,hc60,hM60,OI⟩:=nZ hE1;rw[OQ]at N ⊢;conv=>whnf
 refine dP (idO 8) ?_;refine cM (cN (I9:=fun _ J v F=>∃x:Tx,v= .pointer (some ⟨x.g,0,none⟩)/\cj F FF J.heap.size [(J.heap.size,F.heap.size)] x (Tb.begin (de G8) (b.map cU) (c.map cU))/\∀g,Bv x.cX g->J.heap.size<=g) (fun O J r=>KF (oS L r) (dK.cP hm ((kS Y r L))) (dB.cP N ((kS Y r L))) (dB.cP hc ((kS Y r L))) hfM Xb hfc OI be be be) ?_);rintro O wa v1 wb r G Vh ⟨x,rfl,hT,E⟩;replace hT:=hT.Lc (iv:=(wa.heap.size,wb.heap.size)::[(wa_1.heap.size,wb_1.heap.size)]) E r.cR aF;replace E:∀g,Bv x.cX g->w.heap.size<=g:=fun g V=>aP r.cR (E g V);replace Y:=Y.tr Vh;clear r G Vh;generalize (wa.heap.size,wb.heap.size)::[(wa_1.heap.size,wb_1.heap.size)]=OS at*
 obtain⟨F',hA⟩:∃F',F'=de G8:=⟨_,rfl⟩
 obtain⟨bq,hbq⟩:∃q,q=b.map cU:=⟨_,rfl⟩
 obtain⟨cq,hcq⟩:∃q,q=c.map cU:=⟨_,rfl⟩
 rw[<-hA,<-hbq,<-hcq]at hT hWp ⊢;have VG:F'.length=G8.length:=by rw[hA];simp[de]
 have hbm:bq.length=G8.length:=by rw[hbq,aJ,OQ]
 have TL:cq.length=c.length:=by rw[hcq,aJ]
 have hAw:pf c.length F':=fun r hr=>by
  rw[hA]at hr;obtain⟨r0,h0,rfl⟩:=bD.1 hr;rw[aJ];exact OI r0 h0
 clear hm N hc hf;obtain⟨n,U⟩:∃n,n=c.length:=⟨_,rfl⟩
 obtain⟨m,hm⟩:∃m,m=G8.length:=⟨_,rfl⟩
 rw[<-U]at hWp TL hAw hc60 ⊢;rw[<-hm]at hWp VG hbm hM60 hK ⊢;conv=>whnf
 refine⟨fun O J r=>?_⟩;refine(EV (Fn:=Fn) TL VG (Lv.old r hF) (hT.rel r hF).iH hAw hbm be be hWp hK be hh).mono fun e w8 G=>?_;obtain⟨v,y,t1,rfl,QE,PU,PJ,OT,Ul⟩:=G;replace PJ:=hT.Nb r E PJ OT;replace Y:=(Y.tr r.cV).tr (PU.toBel E r.cR);replace OT:∀g,Bv y.cX g->w.heap.size<=g:=fun g V=>(OT g V).elim (E g) fun h=>aP r.cR h;rcases Ul with⟨rfl,D,hR,Xf,hFe,F9,hz⟩|⟨a3,c3,yy,rfl,hY,TD,hyh,hNo⟩
 .refine⟨nls,_,(J.heap.size,w8.heap.size)::OS,rfl,r.fU (hT.not r) PU,?_⟩;clear hT PU r;have hT:=PJ;clear PJ;generalize (J.heap.size,w8.heap.size)::OS=iv2 at*
  rw[<-QE];conv=>whnf
  refine⟨false,fun O w1 o1 o2=>by simp[eqGuard,SV.den,At.den,jF w1 T.row T.cw none 0 0 0 0 rR],?_⟩;conv=>whnf
  refine⟨fun O J r=>?_⟩;refine(Fl (Fn:=Fn) (Lv.old r hF) (hT.rel r hF).iH Xf.ok hFe hR hz (by rw[Xf.em];omega) (by rw[Xf.eq];omega) (by rw[Xf.em];exact hK) be be).mono fun e w8 G=>?_;obtain⟨t2,D2,k,j,rfl,PU,PJ,hC,hD⟩:=G;refine⟨iV (pN j),_,(J.heap.size,w8.heap.size)::iv2,rfl,r.fU (hT.not r) PU,?_⟩;replace PJ:=hT.eX r PJ;replace Y:=(Y.tr r.cV).tr (PU.toBel OT r.cR);clear hT PU r;have hT:=PJ;clear PJ;generalize (J.heap.size,w8.heap.size)::iv2=OR at*
  obtain⟨f1,f2,f3,f4,f5,-⟩:=hC.facts;have Q4:nM D2 m n (dZ F') (fun i=>bq.getD i 0) fun j=>cq.getD j 0:=⟨f1,f3.trans Xf.em,f4.trans Xf.eq,fun x z=>(f5 x z).trans (Xf.GY x z)⟩
  have hW2:t2.Wf m n:=by
   have:=hC.rp.wf;rw[Q4.em,Q4.eq]at this;exact this
  have UJ:=hC.rp.zy (hC.sz.all f1 (Fn:=Fn) (by rw[Q4.em];exact hK));have Qw:=hC.rp;have h3:=Gg.end_ Qw hD;have hpt:∀v,v<n->(t2.je n).getD v 0=D2.val v:=fun v hv=>Qw.Hz f1 hv;have Oq:=HA (t:=t2) (n:=n);have hph:=UJ.je (n:=n) be;have hpo:mo F'.length cq.length (dZ F') (fun i=>bq.getD i 0) fun j=>(t2.je n).getD j 0:=by
   rw[VG,TL];exact(Q4.NF f2).congr fun j hj=>hpt j hj
  have hAw2:pf cq.length F':=by rw[TL];exact hAw
  clear hC hz hR Xf hFe f3 f4 f5 hWp
  cases j with
  |some s=>
   obtain⟨e1,e2,e3⟩:=h3;conv=>whnf
   have QG:=HB (t:=t2) (n:=n) (s:=s);have hrh:=UJ.nN (n:=n) (s:=s) be;have hdi:∀v,v<n->(t2.nN n s).getD v 0=D2.dir s v:=fun v hv=>Qw.IA f1 e1 hv;have hsn:s<n:=by rw[<-Q4.eq];exact e1
   refine cM (cN (I9:=fun _ J v F=>dm F (Nw (Lv FF w.heap.size OR y) J F) (Nw (Lv FF w.heap.size OR y) J F) v (t2.je n)) (fun O J r=>Fm (Lv.old r hF) (hT.rel r hF).iH hW2 be be) ?_);rintro O wa v4 wb r G OQ hO;have hX:=hO.Is r.cR;replace hT:=hT.cL (K:=(wa.heap.size,wb.heap.size)::OR) r hF G fun p hp=>aD _ hp;replace Y:=Y.tr OQ;clear r G OQ hO;generalize (wa.heap.size,wb.heap.size)::OR=Ob at*
   obtain⟨_,_,rfl,-,-⟩:=dm.shape hX;refine cM (cN (I9:=fun _ J v F=>cS F (Nf J F) v (t2.je n)) (fun O J r=>j8 (rlo r hF) (hX.rel r hF hF) (by rw[Oq];omega) (fun q hq=>by have:=hph q hq;omega)) ?_);rintro O wa v5 wb r G OQ hO;have TM:=cS.eX (S:=FF) hO r.cR (iv:=(wa.heap.size,wb.heap.size)::Ob) aF;replace hT:=hT.cL (K:=(wa.heap.size,wb.heap.size)::Ob) r hF G fun p hp=>aD _ hp;replace hX:=dm.cL (K:=(wa.heap.size,wb.heap.size)::Ob) hX r hF hF G fun p hp=>aD _ hp;replace Y:=Y.tr OQ;clear r G OQ hO;generalize (wa.heap.size,wb.heap.size)::Ob=Of at*
   obtain⟨_,_,rfl,-,-⟩:=dU.shape TM;clear hX;refine cM (cN (I9:=fun _ J v F=>dm F (Nw (Lv FF w.heap.size Of y) J F) (Nw (Lv FF w.heap.size Of y) J F) v (t2.nN n s)) (fun O J r=>Cz (Lv.old r hF) (hT.rel r hF).iH hW2 hsn be be be) ?_);rintro O wa v6 wb r G OQ hO;have hR:=hO.Is r.cR;replace hT:=hT.cL (K:=(wa.heap.size,wb.heap.size)::Of) r hF G fun p hp=>aD _ hp;replace TM:=cS.cL (K:=(wa.heap.size,wb.heap.size)::Of) TM r hF G fun p hp=>aD _ hp;replace Y:=Y.tr OQ;clear r G OQ hO;generalize (wa.heap.size,wb.heap.size)::Of=PL at*
   obtain⟨_,_,rfl,-,-⟩:=dm.shape hR;refine cM (cN (I9:=fun _ J v F=>cS F (Nf J F) v (t2.nN n s)) (fun O J r=>j8 (rlo r hF) (hR.rel r hF hF) (by rw[QG];omega) (fun q hq=>by have:=hrh q hq;omega)) ?_);rintro O wa v7 wb r G OQ hO;have hGR:=cS.eX (S:=FF) hO r.cR (iv:=(wa.heap.size,wb.heap.size)::PL) aF;replace hT:=hT.cL (K:=(wa.heap.size,wb.heap.size)::PL) r hF G fun p hp=>aD _ hp;replace TM:=cS.cL (K:=(wa.heap.size,wb.heap.size)::PL) TM r hF G fun p hp=>aD _ hp;replace hR:=dm.cL (K:=(wa.heap.size,wb.heap.size)::PL) hR r hF hF G fun p hp=>aD _ hp;replace Y:=Y.tr OQ;clear r G OQ hO;generalize (wa.heap.size,wb.heap.size)::PL=QB at*
   obtain⟨_,_,rfl,-,-⟩:=dU.shape hGR;clear hR;refine cM (cN (I9:=fun _ J v F=>cZ F (Nf J F) v ((0:Int):Rat)) (fun O J r=>yf 0 J bv bv) ?_);rintro O wa v8 wb r G OQ hO;have hV:=cZ.eX (S:=FF) hO r.cR (iv:=(wa.heap.size,wb.heap.size)::QB) aF;replace hT:=hT.cL (K:=(wa.heap.size,wb.heap.size)::QB) r hF G fun p hp=>aD _ hp;replace TM:=cS.cL (K:=(wa.heap.size,wb.heap.size)::QB) TM r hF G fun p hp=>aD _ hp;replace hGR:=cS.cL (K:=(wa.heap.size,wb.heap.size)::QB) hGR r hF G fun p hp=>aD _ hp;replace Y:=Y.tr OQ;clear r G OQ hO;generalize (wa.heap.size,wb.heap.size)::QB=RT at*
   obtain⟨_,_,_,_,_,_,_,_,rfl⟩:=cZ.shape hV;conv=>whnf
   intro I8 we re;refine⟨_,rfl,Y.tr re.cV,.inr ⟨hE0,_,rfl,2,_,_,_,_,_,_,_,_,_,_,_,t2.je n,[],t2.nN n s,0,rfl,cS.out TM re hF,cS.KJ,cS.out hGR re hF,cZ.out hV re hF,?_,hph,(fun _ h=>by cases h),hrh,aP bv (show 3<=Fn+1 by omega),by rw[Oq];omega,ce,by rw[QG];omega⟩⟩;refine HC hAw2 (by rw[Oq,TL]) (by rw[QG,TL]) hpo ?_;rw[VG,TL];obtain⟨g1,g2⟩:=Q4.JV e1 e2 e3;exact⟨g1.congr fun j hj=>hdi j hj,by rw[cQ (g:=fun j=>cq.getD j 0*D2.dir s j) fun j hj=>by dsimp only;rw[hdi j hj]];exact g2⟩
  |none=>
   conv=>whnf
   conv=>whnf
   have hpr:∀i,i<m->(t2.iX n m).getD i 0= -(D2.ko (n+i)):=fun i R=>Qw.zo f1 R;have TD:=ER (t:=t2) (n:=n) (k:=m);have hyh:=UJ.iX (n:=n) (k:=m) be;have TC:=Qw.et;have htl:=UJ.top;obtain⟨n1,n2,n3⟩:=Q4.NC h3;have n4:=(Q4.je f2).2.2;obtain⟨o1,o2,o3,o4,o5,o6,o7,o8,Wm,hY⟩:=hT.Mt hF;refine dP [.x 0,.x 1,.x 4,.x 5,.x 6,.x 9,.x 10,.x 11,.x 12,.x 2,.x 3,.x 7,.x 8,.x 13,.x 14,.x 15,.x 16] ?_;conv=>whnf
   refine⟨rC o1 o2 o3 o4 o5 o6 o7 o8,rfl,fun O J r k u hu=>Wm r k u hu,?_⟩;clear Wm;refine cN (I9:=fun _ J v F=>dm F (Nw (Lv FF w.heap.size OR y) J F) (Nw (Lv FF w.heap.size OR y) J F) v (t2.je n)) (fun O J r=>Fm (Lv.old r hF) (hT.rel r hF).iH hW2 be be) ?_;rintro O wa v4 wb r G OQ hO;have hX:=hO.Is r.cR;replace hT:=hT.cL (K:=(wa.heap.size,wb.heap.size)::OR) r hF G fun p hp=>aD _ hp;replace hY:=cY.jQ (K:=(wa.heap.size,wb.heap.size)::OR) hY r hF G fun p hp=>aD _ hp;replace Y:=Y.tr OQ;clear r G OQ hO;generalize (wa.heap.size,wb.heap.size)::OR=Ob at*
   obtain⟨_,_,rfl,-,-⟩:=dm.shape hX;refine cN (I9:=fun _ J v F=>cS F (Nf J F) v (t2.je n)) (fun O J r=>j8 (rlo r hF) (hX.rel r hF hF) (by rw[Oq];omega) (fun q hq=>by have:=hph q hq;omega)) ?_;rintro O wa v5 wb r G OQ hO;have TM:=cS.eX (S:=FF) hO r.cR (iv:=(wa.heap.size,wb.heap.size)::Ob) aF;replace hT:=hT.cL (K:=(wa.heap.size,wb.heap.size)::Ob) r hF G fun p hp=>aD _ hp;replace hY:=cY.jQ (K:=(wa.heap.size,wb.heap.size)::Ob) hY r hF G fun p hp=>aD _ hp;replace hX:=dm.cL (K:=(wa.heap.size,wb.heap.size)::Ob) hX r hF hF G fun p hp=>aD _ hp;replace Y:=Y.tr OQ;clear r G OQ hO;generalize (wa.heap.size,wb.heap.size)::Ob=Of at*
   obtain⟨_,_,rfl,-,-⟩:=dU.shape TM;clear hX;refine cN (I9:=fun _ J v F=>dm F (Nw (Lv FF w.heap.size Of y) J F) (Nw (Lv FF w.heap.size Of y) J F) v (t2.iX n m)) (fun O J r=>Cy (Lv.old r hF) (hT.rel r hF).iH hW2 be be be) ?_;rintro O wa v6 wb r G OQ hO;have hP:=hO.Is r.cR;replace hT:=hT.cL (K:=(wa.heap.size,wb.heap.size)::Of) r hF G fun p hp=>aD _ hp;replace hY:=cY.jQ (K:=(wa.heap.size,wb.heap.size)::Of) hY r hF G fun p hp=>aD _ hp;replace TM:=cS.cL (K:=(wa.heap.size,wb.heap.size)::Of) TM r hF G fun p hp=>aD _ hp;replace Y:=Y.tr OQ;clear r G OQ hO;generalize (wa.heap.size,wb.heap.size)::Of=PL at*
   obtain⟨_,_,rfl,-,-⟩:=dm.shape hP;refine cN (I9:=fun _ J v F=>cS F (Nf J F) v (t2.iX n m)) (fun O J r=>j8 (rlo r hF) (hP.rel r hF hF) (by rw[TD];omega) (fun q hq=>by have:=hyh q hq;omega)) ?_;rintro O wa v7 wb r G OQ hO;have hGP:=cS.eX (S:=FF) hO r.cR (iv:=(wa.heap.size,wb.heap.size)::PL) aF;replace hT:=hT.cL (K:=(wa.heap.size,wb.heap.size)::PL) r hF G fun p hp=>aD _ hp;replace hY:=cY.jQ (K:=(wa.heap.size,wb.heap.size)::PL) hY r hF G fun p hp=>aD _ hp;replace TM:=cS.cL (K:=(wa.heap.size,wb.heap.size)::PL) TM r hF G fun p hp=>aD _ hp;replace hP:=dm.cL (K:=(wa.heap.size,wb.heap.size)::PL) hP r hF hF G fun p hp=>aD _ hp;replace Y:=Y.tr OQ;clear r G OQ hO;generalize (wa.heap.size,wb.heap.size)::PL=QB at*
   obtain⟨_,_,rfl,-,-⟩:=dU.shape hGP;clear hP;refine cN (I9:=fun _ J v F=>cZ F (Nf J F) v t2.top) (fun O J r=>wk (Lv.old r hF) (hY.fz r hF) be) ?_;rintro O wa v8 wb r G OQ hO;have hV:=cZ.eX (S:=FF) hO r.cR (iv:=(wa.heap.size,wb.heap.size)::QB) aF;replace hT:=hT.cL (K:=(wa.heap.size,wb.heap.size)::QB) r hF G fun p hp=>aD _ hp;replace hY:=cY.jQ (K:=(wa.heap.size,wb.heap.size)::QB) hY r hF G fun p hp=>aD _ hp;replace TM:=cS.cL (K:=(wa.heap.size,wb.heap.size)::QB) TM r hF G fun p hp=>aD _ hp;replace hGP:=cS.cL (K:=(wa.heap.size,wb.heap.size)::QB) hGP r hF G fun p hp=>aD _ hp;replace Y:=Y.tr OQ;clear r G OQ hO;generalize (wa.heap.size,wb.heap.size)::QB=RT at*
   obtain⟨_,_,_,_,_,_,_,_,rfl⟩:=cZ.shape hV;conv=>whnf
   intro I8 we re;refine⟨_,rfl,Y.tr re.cV,.inr ⟨hE0,_,rfl,0,_,_,_,_,_,_,_,_,_,_,_,t2.je n,t2.iX n m,[],t2.top,rfl,cS.out TM re hF,cS.out hGP re hF,cS.KJ,cZ.out hV re hF,?_,hph,hyh,(fun _ h=>by cases h),htl,by rw[Oq];omega,by rw[TD];omega,ce⟩⟩;rw[TC];refine ET hAw2 (by rw[Oq,TL]) (by rw[TD,VG]) hpo ?_ ?_ ?_ ?_
   .rw[VG];intro i R;rw[hpr i R];exact n1 i
   .rw[VG,TL];intro j hj;rw[cQ (g:=fun i=> -(D2.ko (n+i))*dZ F' i j) fun i R=>by rw[hpr i R]];exact n3 j hj
   .rw[TL,cQ (g:=fun j=>cq.getD j 0*D2.val j) fun j hj=>by rw[hpt j hj]];exact n4
   .rw[VG,cQ (g:=fun i=> -(D2.ko (n+i))*bq.getD i 0) fun i R=>by rw[hpr i R]];exact n2
 refine⟨.slice (some a3) m c3,_,(J.heap.size,w8.heap.size)::OS,rfl,r.fU (hT.not r) PU,?_⟩;replace hY:=hY.Is r.cR;clear hT PU r;have hT:=PJ;clear PJ;generalize (J.heap.size,w8.heap.size)::OS=iv2 at*
 conv=>whnf
 refine⟨true,fun O w1 o1 o2=>by simp[eqGuard,SV.den,At.den,jF w1 T.row T.cw (some a3) m c3 0 0 rR],?_⟩;conv=>whnf
 refine cM (cN (I9:=fun _ J v F=>cS F (Nf J F) v (yy)) (fun O J r=>j8 (rlo r hF) (hY.rel r hF hF) (by rw[TD];omega) (fun q hq=>by have:=hyh q hq;omega)) ?_);rintro O wa v4 wb r G OQ hO;have hGY:=cS.eX (S:=FF) hO r.cR (iv:=(wa.heap.size,wb.heap.size)::iv2) aF;replace Y:=Y.tr OQ;clear r G OQ hO;generalize (wa.heap.size,wb.heap.size)::iv2=Ob at*
 obtain⟨_,_,rfl,-,-⟩:=dU.shape hGY;refine cM (cN (I9:=fun _ J v F=>cZ F (Nf J F) v ((0:Int):Rat)) (fun O J r=>yf 0 J bv bv) ?_);rintro O wa v5 wb r G OQ hO;have hV:=cZ.eX (S:=FF) hO r.cR (iv:=(wa.heap.size,wb.heap.size)::Ob) aF;replace hGY:=cS.cL (K:=(wa.heap.size,wb.heap.size)::Ob) hGY r hF G fun p hp=>aD _ hp;replace Y:=Y.tr OQ;clear r G OQ hO;generalize (wa.heap.size,wb.heap.size)::Ob=Of at*
 obtain⟨_,_,_,_,_,_,_,_,rfl⟩:=cZ.shape hV;conv=>whnf
 intro I8 we re;refine⟨_,rfl,Y.tr re.cV,.inr ⟨hE0,_,rfl,1,_,_,_,_,_,_,_,_,_,_,_,[],yy,[],0,rfl,cS.KJ,cS.out hGY re hF,cS.KJ,cZ.out hV re hF,EU (by rw[TD,VG]) (by rw[VG,TL];exact hNo),(fun _ h=>by cases h),hyh,(fun _ h=>by cases h),aP bv (show 3<=Fn+1 by omega),ce,by rw[TD];omega,ce⟩⟩
theorem oh(L:Old S w)(E:dM w S v xs)(hy:dM w S u ys)(hl:xs.length=ys.length)(hqx:∀q∈xs,rl q+1<=h)(hqy:∀q∈ys,rl q+1<=h)(I:2<=h)(N:2*h*xs.length<=90000):
  eD PG Fd.AB #[v,u] w (eL w fun v' F=>cZ F (Nf w F) v' (eR xs ys xs.length)):=by
 have Y:=bR w;obtain⟨ax,cx,rfl,hcx,VN⟩:=E.shape;obtain⟨ay,cy,rfl,hcy,-⟩:=hy.shape;unfold maxLen at VN;refine BI ce ?_;refine cM (cE Y (pR cZ (((0:Int):Rat))) (fun O J r=>vX 0 J bv bv) ?_);rintro O _ _ _ OS r G Y A U;have hd:=U.cO (nw r A);obtain⟨A0,A1,A2,A3,A4,A5,A6,A7,rfl⟩:=hd.shape;rw[show ((0:Int):Rat)=eR xs ys 0 from rfl]at hd
 refine⟨Nat×(Bool×Bool)×(Option Addr×Option Addr)×(Nat×Nat×Nat×Nat)×World×Iv,fun z=>⟨[(0,sV ax xs.length cx),(1,sV ay ys.length cy),(4,pP 0 0),(5,pP 1 0),(6,iN z.1)],[(1,.box T.Rat [.v (.bool z.2.1.1),.v (.slice z.2.2.1.1 z.2.2.2.1.1 z.2.2.2.1.2.1),.v (.bool z.2.1.2),.v (.slice z.2.2.1.2 z.2.2.2.1.2.2.1 z.2.2.2.1.2.2.2)]),(0,.box T.Rat [.v (.bool false),.v nls,.v (.bool false),.v nls])],2,z.2.2.2.2.2,z.2.2.2.2.1⟩,fun z=>xs.length-z.1,
  fun z=>z.1<=xs.length/\Bq w z.2.2.2.2.1/\cZ z.2.2.2.2.1 (Cf w z.2.2.2.2.2) (.agg #[.bool z.2.1.1,.slice z.2.2.1.1 z.2.2.2.1.1 z.2.2.2.1.2.1,.bool z.2.1.2,.slice z.2.2.1.2 z.2.2.2.1.2.2.1 z.2.2.2.1.2.2.2]) (eR xs ys z.1),?_,?_⟩
 .intro O J r;exact⟨(0,(A0,A4),(A1,A5),(A2,A3,A6,A7),J,OS),⟨ce,Y.tr r.cV,hd.rel r oF⟩,sbgn [] r⟩
 rintro⟨i,⟨p0,p4⟩,⟨p1,p5⟩,⟨p2,p3,p6,p7⟩,w1,iv⟩ ⟨R,Y,hd⟩;dsimp only at R Y hd ⊢;apply bS<;>intro OJ
 .have OJ:=dL OJ;have hs:=iq hqx hqy I i;have R9:2*h*i<=2*h*xs.length:=bh _ R;have hs3:2*h*1<=2*h*xs.length:=bh _ be;obtain⟨x,Pf⟩:=gO xs i;obtain⟨y,SG⟩:=gO ys i;have Xq:=hqx x (aG Pf);have hy3:=hqy y (aG SG);have Pe:xs.getD i 0=x:=by rw[List.getD,Pf];rfl
  have Qs:ys.getD i 0=y:=by rw[List.getD,SG];rfl
  have hm:=jv x y;obtain⟨adx,csx,Wo,Sm,-,QI⟩:=dU.load E Pf;obtain⟨ady,csy,hay,hFy,-,RM⟩:=dU.load hy SG;obtain⟨f0,f1,f2,f3,f4,f5,f6,f7,rfl,Sm⟩:=Sm;obtain⟨q0,q1,q2,q3,q4,q5,q6,q7,rfl,hFy⟩:=hFy;refine dP (idO 12) ?_;refine⟨adx,Wo,be,rC f0 f1 f2 f3 f4 f5 f6 f7,rfl,rdO QI Y L,ady,hay,be,rC q0 q1 q2 q3 q4 q5 q6 q7,rfl,rdO RM Y L,?_⟩;refine cE Y (pR cZ (x*y)) (fun O J r=>Ls (oS L r) (Sm.cP (kS Y r L)) (hFy.cP (kS Y r L))) ?_;rintro O _ _ _ iv2 r G Y A U;replace hd:=hd.cL r oF G (mC A);have hp:=U.cO (nw r A);obtain⟨C0,C1,C2,C3,C4,C5,C6,C7,rfl⟩:=hp.shape;refine cE Y (pR cZ (eR xs ys i+x*y)) (fun O J r=>JM (rlo r oF) ((hd.rel r oF).l be) ((hp.rel r oF).l be)) ?_;rintro O _ _ _ OR r G Y A U;have RZ:=U.cO (nw r A);obtain⟨E0,E1,E2,E3,E4,E5,E6,E7,rfl⟩:=RZ.shape;rw[show eR xs ys i+x*y=eR xs ys (i+1) by rw[eR,Pe,Qs]]at RZ;refine inc i ?_;intro IR w3 r3;exact⟨(i+1,(E0,E4),(E1,E5),(E2,E3,E6,E7),w3,_),⟨OJ,Y.tr r3.cV,RZ.rel r3 oF⟩,sbgn [] r3,dec OJ⟩
 have OJ:=dE R OJ;subst OJ;exact rtn Y fun I8 we re=>hd.out re oF
section
variable{S:Nat->Prop}{H:Hp}{nx:Nat}{iv K:Iv}{B:Nat}{w J F:World}{O:Nat->Sx.dc}{M:List (List Value)}{qs:List Rat}
theorem Fc.rel(h:Fc w (Cv S B iv) M qs)(r:Rel H nx iv B w O J)(L:∀g,S g->g<B):Fc J (Cv S B iv) M qs:=h.cP fun _ V=>rls r L V
theorem Fc.cL(h:Fc w (Cv S B iv) M qs)(r:Rel H nx iv B w O J)(L:∀g,S g->g<B)(G:Ext J F)(hm:∀p,p∈iv->p∈K):Fc F (Cv S B K) M qs:=
 ((h.rel r L).cP fun g V=>G.block g (rlo r L g V)).cO fun _ V=>V.mono hm
theorem Fc.push{q:Rat}(h:Fc w S M qs)(hc:lE w S cs q):Fc w S (M++[cs]) (qs++[q]):=by
 refine⟨by simp[h.1],fun j x p W I=>?_⟩;rcases az j M.length with R|R
 .rw[aQ R]at W;rw[aQ (by rw[<-h.1];exact R)]at I;exact h.2 j x p W I
 .have hi0:j=M.length:=by have:=(aH.1 W).1;simp at this;omega
  subst hi0;rw[aW lr,bj]at W;rw[h.1,aW lr,bj]at I;simp at W I;subst W I;exact hc
end
def mE(w:World)(S:Nat->Prop)(v:Value)(b:List (Int×Int)):Prop:=dM w S v (b.map cU)/\(∀q∈b.map cU,rl q<=3)/\wm b
theorem mE.cP{F:World}(h:mE w S v b)(Z:∀g,S g->F.heap[g]? =w.heap[g]?):mE F S v b:=⟨dM.cP h.1 Z,h.2⟩
section
variable{S S':Nat->Prop}{H:Hp}{nx:Nat}{iv K:Iv}{B:Nat}{w J F:World}{O:Nat->Sx.dc}{v:Value}{b:List (Int×Int)}
end
def iJ(qs:List Rat):List (Int×Int):=qs.map fun q=>(q.num,(q.den:Int))
theorem nh(qs:List Rat):(iJ qs).length=qs.length:=aJ ..
theorem kY(qs:List Rat):(iJ qs).map cU=qs:=by
 unfold iJ;rw[List.map_map];exact(List.map_congr_left fun q _=>s7 q).trans (List.map_id qs)
theorem Iu(Fn:List (List Rat)):de (Fn.map iJ)=Fn:=by
 unfold de;rw[List.map_map];exact(List.map_congr_left fun q _=>kY q).trans (List.map_id Fn)
theorem cS.iJ(h:cS w S v qs):dB w S v (iJ qs):=by
 obtain⟨M,W,I,h3,h4⟩:=h;refine⟨M,by unfold Go.Ex.iJ;rw[aJ];exact W,by unfold Go.Ex.iJ;rw[aJ];exact I,h3,fun j cs x k1 k2=>?_⟩;unfold Go.Ex.iJ at k2;rw[aS]at k2;obtain⟨q,hq,rfl⟩:=Option.map_eq_some_iff.1 k2;obtain⟨b,a,n,c,b2,a2,n2,c2,rfl,hr⟩:=h4 j cs q k1 hq;exact hr.four
theorem dC.iJ(h:dC w S v Fn):dK w S v (Fn.map iJ):=by
 obtain⟨rv,W,I,h3⟩:=h;refine⟨rv,by rw[aJ];exact W,by rw[aJ];exact I,fun i u x k1 k2=>?_⟩;rw[aS]at k2;obtain⟨q,hq,rfl⟩:=Option.map_eq_some_iff.1 k2;exact(h3 i u q k1 hq).iJ
theorem uc(h:∀q∈qs,rl q<=10000000000):wm (iJ qs):=fun x E=>by
 obtain⟨q,hq,rfl⟩:=bD.1 E;exact⟨aP (fj q) (h q hq),aP (fC q) (h q hq)⟩
section
variable{S:Nat->Prop}{w:World}{v u:Value}{G8:List (List (Int×Int))}{b:List (Int×Int)}
theorem ub(G8:List (List (Int×Int))):(de G8).length=G8.length:=by simp[de]
end
theorem dC.l(h:dC w S v Fn)(hq:∀r∈Fn,∀q∈r,rl q<=100000):jJ w S v Fn:=by
 obtain⟨rv,W,I,h3⟩:=h;exact⟨rv,W,I,fun i u x k1 k2=>(h3 i u x k1 k2).l (hq x (aG k2))⟩
theorem kJ(G8:List (List Rat))(x:List Rat):(gw G8 x).length=G8.length:=aJ ..
theorem HY{G8:List (List Rat)}{n:Nat}(hM:Ht G8 h)(E:∀q∈x,rl q+1<=h)(I:2<=h)(U:∀r∈G8,r.length<=n):∀q∈gw G8 x,rl q<=2*h*n+2:=fun q hq=>by
 obtain⟨r,hr,rfl⟩:=bD.1 hq;have h3:=iq (hM r hr) E I r.length;have:=bh (2*h) (U r hr);omega
theorem JP{G8:List (List Rat)}(L:Old S w)(hM:jJ w S v G8)(E:dM w S u x)(OI:∀r∈G8,r.length=x.length)(hqM:Ht G8 h)(hqx:∀q∈x,rl q+1<=h)(I:2<=h)(N:2*h*x.length<=90000)(hR:G8.length<=1000000):
  eD PG Fd.vF #[v,u] w (eL w fun v' F=>cS F (Nf w F) v' (gw G8 x)):=by
 have Y:=bR w;obtain⟨am,cm,rfl,Rd,TQ⟩:=dD.shape hM;obtain⟨ax,cx,rfl,hcx,-⟩:=dU.shape E;unfold maxLen at TQ;refine yG ce ?_
 refine⟨Nat×List (List Value)×World×Iv,fun z=>⟨[(0,sV am G8.length cm),(1,sV ax x.length cx),(5,.o (.w 0 z.2.1.length)),(6,iN z.1)],[(0,.vec T.Rat 4 z.2.1.flatten)],1,z.2.2.2,z.2.2.1⟩,fun z=>G8.length-z.1,
  fun z=>z.1<=G8.length/\Bq w z.2.2.1/\Fc z.2.2.1 (Cf w z.2.2.2) z.2.1 ((gw G8 x).take z.1),?_,?_⟩
 .intro O J r
  exact⟨(0,[],J,[]),⟨bA _,Y.tr r.cV,by simp[Fc]⟩,Sub.nil 5 T.Rat 4 rfl (by simp[ka,SV.sc,At.sc,gW]) r fun Id r1=>
   sbgn [] r1⟩
 rintro⟨i,M,w1,iv⟩ ⟨R,Y,hC⟩;dsimp only at R Y hC ⊢;have QM:M.length=i:=by rw[hC.1,bL,kJ];omega
 have Pt:=gZ hC.rj;apply bS<;>intro OJ
 .have OJ:=dL OJ;obtain⟨ra,UA⟩:=gO G8 i;have XB:=OI ra (aG UA);obtain⟨adm,um,ham,Wq,km1,km2⟩:=dD.load hM UA;obtain⟨au,cu,rfl,hcu,-⟩:=dU.shape Wq;refine⟨adm,ham,be,.slice au ra.length cu,rd1 km2 Y (L _ km1),?_⟩;refine cM (cE Y (pR cZ (eR ra x ra.length)) (fun O J r=>oh (oS L r) (dM.cP Wq ((kS Y r L))) (dM.cP E ((kS Y r L))) XB (hqM ra (aG UA)) hqx I (by rw[XB];exact N)) ?_);rintro O _ _ Oi OS r G Y A U;replace hC:=hC.cL r oF G (mC A);have hd:=U.cO (nw r A);obtain⟨A0,A1,A2,A3,A4,A5,A6,A7,rfl⟩:=hd.shape;have WO:Fc Oi (Cf w OS) (M++[rC A0 A1 A2 A3 A4 A5 A6 A7]) ((gw G8 x).take (i+1)):=by
   have e:(gw G8 x)[i]? =some (eR ra x ra.length):=by rw[gw,aS,UA];rfl
   rw[bE,e];exact hC.push hd.AU
  have Px:M.flatten++(rC A0 A1 A2 A3 A4 A5 A6 A7:List Value)=(M++([rC A0 A1 A2 A3 A4 A5 A6 A7]:List (List Value))).flatten:=by simp
  refine .inl ?_;refine⟨be,be,mx,((i+1:Nat):Int),wo,?_⟩;intro IR w3 r3;exact⟨(i+1,M++[rC A0 A1 A2 A3 A4 A5 A6 A7],w3,_),⟨OJ,Y.tr r3.cV,WO.rel r3 oF⟩,sbgn [(0,2)] r3 ⟨by dsimp only;rw[<-Px];rfl,trivial⟩ ⟨rfl,rfl,by dsimp only;rw[l1];rfl,rfl,trivial⟩,dec OJ⟩
 have OJ:=dE R OJ;intro I8 we re;refine⟨_,rfl,Y.tr re.cV,?_⟩;rw[bU (by rw[kJ];omega)]at hC;have h5:=re.oo (id:=0) (sz:=4) (m:=M.length) rfl Pt mx bv hC.one;have h6:=hC.rel re oF;refine⟨M,?_,h6.1,h6.rj,fun j cs q k1 k2=>(h6.2 j cs q k1 k2).cO fun _ V=>Cv.nw V re⟩;rw[<-hC.1];exact h5.cO fun g V=>.inr V
section
variable{S:Nat->Prop}{w:World}{v u:Value}{G8:List (List (Int×Int))}{x:List Rat}
end
theorem zB{G8:List (List Rat)}{r:List Rat}{i:Nat}(h:G8[i]? =some r):(gw G8 x).getD i 0=eR r x r.length:=by
 rw[List.getD,gw,aS,h];rfl
theorem DV{G8:List (List Rat)}{b:List Rat}(hl:b.length=G8.length):D5 b (gw G8 x)↔∀(i:Nat) r,G8[i]? =some r->eR r x r.length<=b.getD i 0:=
 ⟨fun h i r hr=>zB (x:=x) hr▸h i (by have:=(aH.1 hr).1;omega),fun h i R=>by
  have hr:G8[i]? =some (G8[i]' be):=aE be
  rw[zB hr];exact h i _ hr⟩
theorem JQ(n:Nat)(w:World)(U:n<=1000000):eD PG Fd.vE #[iV n] w (eL w fun v' F=>cS F (Nf w F) v' (iI n)):=by
 have Y:=bR w;refine yF ce ?_;conv=>whnf
 refine⟨Nat×List (List Value)×World×Iv,fun z=>⟨[(0,iZ n),(3,.o (.w 0 z.2.1.length)),(4,iN z.1)],[(0,.vec T.Rat 4 z.2.1.flatten)],1,z.2.2.2,z.2.2.1⟩,fun z=>n-z.1,
  fun z=>z.1<=n/\Bq w z.2.2.1/\Fc z.2.2.1 (Cf w z.2.2.2) z.2.1 (iI z.1),?_,?_⟩
 .intro O J r
  exact⟨(0,[],J,[]),⟨bA _,Y.tr r.cV,by simp[Fc]⟩,Sub.nil 3 T.Rat 4 rfl (by simp[ka,SV.sc,At.sc,gW]) r fun Id r1=>
   sbgn [] r1⟩
 clear Y;rintro⟨i,M,w1,iv⟩ ⟨R,Y,hC⟩;dsimp only at R Y hC ⊢;have QM:M.length=i:=by rw[hC.1,AZ]
 have Pt:=gZ hC.rj;conv=>whnf
 apply bS<;>intro OJ
 .have OJ:=dL OJ;conv=>whnf
  refine cM (cE Y (pR cZ ((0:Int):Rat)) (fun O J r=>vX 0 J bv bv) ?_);rintro O _ _ Oi OS r G Y A U;replace hC:=hC.cL r oF G (mC A);have hd:=U.cO (nw r A);clear r U;obtain⟨A0,A1,A2,A3,A4,A5,A6,A7,rfl⟩:=hd.shape;conv=>whnf
  have WO:Fc Oi (Cf w OS) (M++[rC A0 A1 A2 A3 A4 A5 A6 A7]) (iI (i+1)):=by
   rw[show iI (i+1)=iI i++[0]from List.replicate_succ'];exact hC.push hd.AU
  have Px:M.flatten++(rC A0 A1 A2 A3 A4 A5 A6 A7:List Value)=(M++([rC A0 A1 A2 A3 A4 A5 A6 A7]:List (List Value))).flatten:=by simp
  clear hC hd;refine .inl ?_;conv=>whnf
  refine⟨be,be,mx,?_⟩;conv=>whnf
  refine inc i ?_;conv=>whnf
  intro IR w3 r3;exact⟨(i+1,M++[rC A0 A1 A2 A3 A4 A5 A6 A7],w3,_),⟨OJ,Y.tr r3.cV,WO.rel r3 oF⟩,sbgn [(0,2)] r3 ⟨by dsimp only;rw[<-Px];rfl,trivial⟩ ⟨rfl,by dsimp only;rw[l1];rfl,rfl,trivial⟩,dec OJ⟩
 have OJ:=dE R OJ;subst OJ;conv=>whnf
 intro I8 we re;refine⟨_,rfl,Y.tr re.cV,?_⟩;have h5:=re.oo (id:=0) (sz:=4) (m:=M.length) rfl Pt mx bv hC.one;have h6:=hC.rel re oF;refine⟨M,?_,h6.1,h6.rj,fun j cs q k1 k2=>(h6.2 j cs q k1 k2).cO fun _ V=>Cv.nw V re⟩;rw[<-hC.1];exact h5.cO fun g V=>.inr V
theorem iG(L:Old S w)(h:dK w S vm G8)(N:dB w S vb b)(hc:dB w S vc c):
  eD PG Fd.lk #[.agg #[vm,vb,vc]] w (eL w fun v' _=>v'=iV (iB G8 b c)):=by
 have Y:=bR w;obtain⟨am,cm,rfl,Rd,TQ⟩:=dD.shape h;obtain⟨ab,cb,rfl,Pv,S0⟩:=dU.shape N;obtain⟨ac,cc,rfl,Uc,RL⟩:=dU.shape hc;unfold maxLen at TQ S0 RL;refine pH ce ?_;conv=>whnf
 refine cM (cE Y (pE (iV (im G8))) (fun O J r=>zA (oS L r) (dK.cP h ((kS Y r L)))) ?_);rintro O _ _ _ OS r G Y A rfl;clear r;conv=>whnf
 apply bS<;>intro G
 .have G:im G8≠0:=fun e=>by rw[e]at G;simp at G
  conv=>whnf
  exact rtn Y fun I8 we re=>by unfold iB;rw[aM G];rfl
 have G:im G8=0:=by
  have h4:((im G8:Int)==0)=true:=by simpa using G
  have:=eq_of_beq h4;omega
 conv=>whnf
 refine dP (idO 22) ?_;conv=>whnf
 apply bS<;>intro hl
 .have hl:b.length≠G8.length:=fun e=>by rw[e]at hl;simp at hl
  conv=>whnf
  exact rtn Y fun I8 we re=>by unfold iB;rw[aK be,aM (.inl hl)];rfl
 have hl:b.length=G8.length:=by
  have h4:((b.length:Int)==(G8.length:Int))=true:=by simpa using hl
  have:=eq_of_beq h4;omega
 conv=>whnf
 apply bS<;>intro h0
 .have h0:0<G8.length:=by have:(0:Int)<G8.length:=(by simpa using h0);omega
  conv=>whnf
  refine cE Y (pE (iV (dH G8))) (fun O J r=>yz (oS L r) (dK.cP h ((kS Y r L)))) ?_;rintro O _ _ _ iv2 r G Y A rfl;clear r G;conv=>whnf
  apply bS<;>intro W
  .have W:c.length≠dH G8:=fun e=>by rw[e]at W;simp at W
   conv=>whnf
   exact rtn Y fun I8 we re=>by unfold iB;rw[aK be,aM (.inr ⟨h0,W⟩)];rfl
  have W:c.length=dH G8:=by
   have h4:((c.length:Int)==(dH G8:Int))=true:=by simpa using W
   have:=eq_of_beq h4;omega
  conv=>whnf
  apply bS<;>intro h6
  .have h6:60<c.length:=by have:(60:Int)<c.length:=(by simpa using h6);omega
   conv=>whnf
   exact rtn Y fun I8 we re=>by unfold iB;rw[aK be,aK be,aM h6];rfl
  have h6:¬60<c.length:=by have:¬(60:Int)<c.length:=(by simpa using h6);omega
  conv=>whnf
  exact rtn Y fun I8 we re=>by unfold iB;rw[aK be,aK be,aK h6];rfl
 have h0:¬0<G8.length:=by have:¬(0:Int)<G8.length:=(by simpa using h0);omega
 conv=>whnf
 apply bS<;>intro h6
 .have h6:60<c.length:=by have:(60:Int)<c.length:=(by simpa using h6);omega
  conv=>whnf
  exact rtn Y fun I8 we re=>by unfold iB;rw[aK be,aK be,aM h6];rfl
 have h6:¬60<c.length:=by have:¬(60:Int)<c.length:=(by simpa using h6);omega
 conv=>whnf
 exact rtn Y fun I8 we re=>by unfold iB;rw[aK be,aK be,aK h6];rfl
theorem zC(L:Old S w)(E:dM w S v xs)(hy:dM w S u ys):
  eD PG Fd.sB #[v,u] w (eL w fun v' _=>∃d,v'= .bool d/\(d=true->xs.length=ys.length/\D5 xs ys)/\(xs.length=ys.length/\D5 xs ys->d=true)):=by
 have Y:=bR w;obtain⟨ax,cx,rfl,hcx,VN⟩:=dU.shape E;obtain⟨ay,cy,rfl,hcy,-⟩:=dU.shape hy;unfold maxLen at VN;refine uM ce ?_;conv=>whnf
 apply bS<;>intro h0
 .have h0:xs.length≠ys.length:=fun e=>by rw[e]at h0;simp at h0
  conv=>whnf
  exact rtn Y fun I8 we re=>⟨false,rfl,fun h=>(by cases h),fun h=>absurd h.1 h0⟩
 have h0:xs.length=ys.length:=by
  have h4:((xs.length:Int)==(ys.length:Int))=true:=by simpa using h0
  have:=eq_of_beq h4;omega
 conv=>whnf
 refine⟨Nat×World×Iv,fun z=>⟨[(0,sV ax xs.length cx),(1,sV ay ys.length cy),(5,iN z.1)],[],0,z.2.2,z.2.1⟩,fun z=>xs.length-z.1,
  fun z=>z.1<=xs.length/\Bq w z.2.1/\∀j,j<z.1->ys.getD j 0<=xs.getD j 0,?_,?_⟩
 .intro O J r;exact⟨(0,J,[]),⟨bA _,Y.tr r.cV,fun j hj=>by dsimp only at hj;omega⟩,sbgn [] r⟩
 clear Y;rintro⟨i,w1,iv⟩ ⟨R,Y,ht⟩;dsimp only at R Y ht ⊢;conv=>whnf
 apply bS<;>intro OJ
 .have OJ:=dL OJ;obtain⟨x,Pf⟩:=gO xs i;obtain⟨y,SG⟩:=gO ys i;have Pe:xs.getD i 0=x:=by rw[List.getD,Pf];rfl
  have Qs:ys.getD i 0=y:=by rw[List.getD,SG];rfl
  obtain⟨adx,csx,Wo,Sm,-,QI⟩:=dU.load E Pf;obtain⟨ady,csy,hay,hFy,-,RM⟩:=dU.load hy SG;obtain⟨f0,f1,f2,f3,f4,f5,f6,f7,rfl,Sm⟩:=Sm;obtain⟨q0,q1,q2,q3,q4,q5,q6,q7,rfl,hFy⟩:=hFy;conv=>whnf
  refine dP (idO 10) ?_;conv=>whnf
  refine⟨adx,Wo,be,?_⟩;conv=>whnf
  refine⟨rC f0 f1 f2 f3 f4 f5 f6 f7,rfl,rdO QI Y L,?_⟩;conv=>whnf
  refine⟨ady,hay,be,?_⟩;conv=>whnf
  refine⟨rC q0 q1 q2 q3 q4 q5 q6 q7,rfl,rdO RM Y L,?_⟩;conv=>whnf
  refine cE Y (pE (iV (rs (x-y)))) (fun O J r=>ud (oS L r) (Sm.cP ((kS Y r L))) (hFy.cP ((kS Y r L)))) ?_;rintro O _ _ _ OS r G Y A rfl;clear r;conv=>whnf
  apply bS<;>intro hs
  .have hs:x<y:=ij.1 (by simpa using hs);conv=>whnf
   exact rtn Y fun I8 we re=>⟨false,rfl,fun h=>(by cases h),fun h=>absurd hs (Rat.not_lt.2 (by have:=h.2 i OJ;rwa [Pe,Qs]at this))⟩
  have hs:y<=x:=Rat.not_lt.1 fun h=>absurd (ij.2 h) (by simpa using hs);conv=>whnf
  refine inc i ?_;conv=>whnf
  intro IR w3 r3;refine⟨(i+1,w3,_),⟨OJ,Y.tr r3.cV,fun j hj=>?_⟩,sbgn [] r3,by dsimp only;omega⟩;rcases az j i with W|W
  .exact ht j W
  .obtain rfl:j=i:=by dsimp only at hj;omega
   rw[Pe,Qs];exact hs
 have OJ:=dE R OJ;conv=>whnf
 exact rtn Y fun I8 we re=>⟨true,rfl,fun _=>⟨h0,fun j hj=>ht j be⟩,fun _=>rfl⟩
theorem gk{vx:Value}{G8:List (List Rat)}{b:List Rat}{a1 a2:Option Addr}{n1 c1 n c2:Nat}(L:Old S w)(hM:jJ w S vm G8)(E:dM w S vx x)(N:dM w S vb b)(OQ:b.length=G8.length)(OI:∀r∈G8,r.length=n)
  (hqM:Ht G8 h) (hqx:∀q∈x,rl q+1<=h) (I:2<=h) (PD:2*h*n<=90000) (hR:G8.length<=1000000) (U:n<=1000000):
  eD PG Fd.qF #[.agg #[vm,.slice a1 n1 c1,.slice a2 n c2],vx,vb] w (eL w fun v' _=>∃d,v'= .bool d/\(d=true->rn G8 n x b)/\(rn G8 n x b->d=true)):=by
 have Y:=bR w;obtain⟨am,cm,rfl,Rd,TQ⟩:=dD.shape hM;obtain⟨ax,cx,rfl,hcx,VN⟩:=dU.shape E;obtain⟨ab,cb,rfl,Pv,-⟩:=dU.shape N;unfold maxLen at TQ VN;refine tP ce ?_;conv=>whnf
 apply bS<;>intro hl
 .have hl:x.length=n:=by
   have h4:((x.length:Int)==(n:Int))=true:=by simpa using hl
   have:=eq_of_beq h4;omega
  have htl:=HY (n:=n) hqM hqx I fun r hr=>by rw[OI r hr];exact ae _
  conv=>whnf
  refine cM (cE Y (pR cS (iI n)) (fun O J r=>JQ n J be) ?_);rintro O _ _ _ OS r G Y A U;have hz:=cS.cO U (nw r A);clear r U;obtain⟨ahz,chz,rfl,-,-⟩:=dU.shape hz;rw[bp]at hz ⊢;conv=>whnf
  refine cM (cE Y (fun _ J v F=>∃d,v= .bool d/\(d=true->x.length=(iI n).length/\D5 x (iI n))/\(x.length=(iI n).length/\D5 x (iI n)->d=true)) (fun O J r=>zC (rlo r L) (dM.cO (dM.cP E ((kS Y r L))) fun _ V=>(.inl V:Cv S w.heap.size _ _)) (dM.cO (cS.l (cS.rel hz r oF) (fun q hq=>by rw[List.eq_of_mem_replicate hq];decide)) fun _ V=>(D3 V:Cv S w.heap.size _ _))) ?_);rintro O _ _ _ iv2 r G Y A ⟨d,rfl,RH,RZ⟩;clear hz;clear r;conv=>whnf
  cases d with
  |false=>
   have hge:¬(x.length=(iI n).length/\D5 x (iI n)):=fun h=>absurd (RZ h) bv;clear RH RZ;conv=>whnf
   exact rtn Y fun I8 we re=>⟨false,rfl,fun h=>(by cases h),fun h=>absurd ⟨hl.trans (AZ _).symm,hl▸h.2.1⟩ hge⟩
  |true=>
   have hge:x.length=(iI n).length/\D5 x (iI n):=RH rfl;clear RH RZ;conv=>whnf
   refine cM (cE Y (pR cS (gw G8 x)) (fun O J r=>JP (oS L r) (jJ.cP hM ((kS Y r L))) (dM.cP E ((kS Y r L))) (fun r hr=>(OI r hr).trans hl.symm) hqM hqx I (by rw[hl];exact PD) be) ?_);rintro O _ _ _ OR r G Y A U;have hT:=cS.cO U (nw r A);clear r;clear U;obtain⟨aT,cT,rfl,-,-⟩:=dU.shape hT;rw[kJ]at hT ⊢;conv=>whnf
   refine cM (cE Y (fun _ J v F=>∃d,v= .bool d/\(d=true->b.length=(gw G8 x).length/\D5 b (gw G8 x))/\(b.length=(gw G8 x).length/\D5 b (gw G8 x)->d=true)) (fun O J r=>zC (rlo r L) (dM.cO (dM.cP N ((kS Y r L))) fun _ V=>(.inl V:Cv S w.heap.size _ _)) (dM.cO (cS.l (cS.rel hT r oF) (fun q hq=>by have:=htl q hq;omega)) fun _ V=>(D3 V:Cv S w.heap.size _ _))) ?_);rintro O _ _ _ Ob r G Y A ⟨d,rfl,RH,RZ⟩;clear hT;clear r;conv=>whnf
   cases d with
   |false=>
    have zy:¬(b.length=(gw G8 x).length/\D5 b (gw G8 x)):=fun h=>absurd (RZ h) bv;clear RH RZ;conv=>whnf
    exact rtn Y fun I8 we re=>⟨false,rfl,fun h=>(by cases h),fun h=>absurd ⟨OQ.trans (kJ ..).symm,(DV OQ).2 h.2.2⟩ zy⟩
   |true=>
    have zy:b.length=(gw G8 x).length/\D5 b (gw G8 x):=RH rfl;clear RH RZ;conv=>whnf
    exact rtn Y fun I8 we re=>⟨true,rfl,fun _=>⟨hl,hl.symm▸hge.2,(DV OQ).1 zy.2⟩,fun _=>rfl⟩
 have hl:x.length≠n:=fun e=>by rw[e]at hl;simp at hl
 conv=>whnf
 exact rtn Y fun I8 we re=>⟨false,rfl,fun h=>(by cases h),fun h=>absurd h.1 hl⟩
theorem IN(L:Old S J)(Z:∀g,S g->J.heap[g]? =w.heap[g]?)(h:dK w S v G8):
  eD PG Fd.qG #[v] J (eL J fun v' _=>∃d,v'= .bool d/\(d=true->mD w S v G8)):=
 (JO L (dK.cP h Z)).mono fun _ _ ⟨v2,e1,e2,d,e3,e4⟩=>⟨v2,e1,e2,d,e3,fun hd=>(e4 hd).cP fun g V=>(Z g V).symm⟩
theorem qd(L:Old S J)(Z:∀g,S g->J.heap[g]? =w.heap[g]?)(h:dB w S v b):
  eD PG Fd.qE #[v] J (eL J fun v' _=>∃d,v'= .bool d/\(d=true->mE w S v b)):=by
 obtain⟨ks,XG,Ux⟩:=dB.DU h;exact(tm L (XG.cP Z)).mono fun _ _ ⟨v2,e1,e2,e3⟩=>⟨v2,e1,e2,_,e3,fun hd=>Ux (aI hd)⟩
section
variable{S:Nat->Prop}{w:World}{v u vx vk vp:Value}{z:Int}{G8 Fn:List (List (Int×Int))}{b X P:List (Int×Int)}
end
def EJ(w:World)(S:Nat->Prop)(vm vb vc:Value)(G8:List (List (Int×Int)))(b c:List (Int×Int)):Prop:=
 mD w S vm G8/\(iB G8 b c=0->G8.length<=4/\c.length<=3/\mE w S vb b/\mE w S vc c)
theorem Jv(L:Old S w)(hm:dK w S vm G8)(hB:dB w S vb b)(hc:dB w S vc c):
  eD PG Fd.qD #[.agg #[vm,vb,vc]] w (eL w fun v' _=>∃d,v'= .bool d/\(d=true->EJ w S vm vb vc G8 b c)):=by
 have Y:=bR w;obtain⟨am,cm,rfl,Rd,TQ⟩:=dD.shape hm;obtain⟨ab,cb,rfl,Pv,S0⟩:=dU.shape hB;obtain⟨ac,cc,rfl,Uc,RL⟩:=dU.shape hc;unfold maxLen at TQ S0 RL;refine xw ce ?_;conv=>whnf
 refine cM (cE Y (fun _ J v F=>∃d,v= .bool d/\(d=true->mD w S (.slice am G8.length cm) G8)) (fun O J r=>IN (oS L r) ((kS Y r L)) hm) ?_);rintro O _ _ _ OS r G Y A ⟨d,rfl,hd⟩;clear r;conv=>whnf
 cases d with
 |false=>
  conv=>whnf
  exact rtn Y fun I8 we re=>⟨false,rfl,fun h=>(by cases h)⟩
 |true=>
  have hM:=hd rfl;clear hd;conv=>whnf
  apply bS<;>intro hb70
  .conv=>whnf
   exact rtn Y fun I8 we re=>⟨false,rfl,fun h=>(by cases h)⟩
  have hb70:=aL hb70;conv=>whnf
  apply bS<;>intro hc70
  .conv=>whnf
   exact rtn Y fun I8 we re=>⟨false,rfl,fun h=>(by cases h)⟩
  have hc70:=aL hc70;conv=>whnf
  apply bS<;>intro h5b
  .conv=>whnf
   refine cM (cE Y (fun _ J v F=>∃d,v= .bool d/\(d=true->mE w S (.slice ab b.length cb) b)) (fun O J r=>qd (oS L r) ((kS Y r L)) hB) ?_);rintro O Pc v2 PK iv2 r G Y A ⟨d,rfl,hd⟩;clear r;conv=>whnf
   cases d with
   |false=>
    conv=>whnf
    exact rtn Y fun I8 we re=>⟨false,rfl,fun h=>(by cases h)⟩
   |true=>
    have hBs:=hd rfl;clear hd;conv=>whnf
    apply bS<;>intro h5c
    .conv=>whnf
     refine cM (cE Y (fun _ J v F=>∃d,v= .bool d/\(d=true->mE w S (.slice ac c.length cc) c)) (fun O J r=>qd (oS L r) ((kS Y r L)) hc) ?_);rintro O PT v3 PX OR r G Y A ⟨d,rfl,hd⟩;clear r;conv=>whnf
     cases d with
     |false=>
      conv=>whnf
      exact rtn Y fun I8 we re=>⟨false,rfl,fun h=>(by cases h)⟩
     |true=>
      have hC:=hd rfl;clear hd;conv=>whnf
      refine cM (cE Y (pE (iV (iB G8 b c))) (fun O J r=>iG (oS L r) (dK.cP hm ((kS Y r L))) (dB.cP hB ((kS Y r L))) (dB.cP hc ((kS Y r L)))) ?_);rintro O _ _ _ Ob r G Y A rfl;clear r;conv=>whnf
      apply bS<;>intro G
      .have G:iB G8 b c≠0:=fun e=>by rw[e]at G;simp at G
       conv=>whnf
       exact rtn Y fun I8 we re=>⟨true,rfl,fun _=>⟨hM,fun e=>absurd e G⟩⟩
      conv=>whnf
      apply bS<;>intro h4
      .have h4:G8.length<=4:=by have:(G8.length:Int)<=4:=(by simpa using h4);omega
       conv=>whnf
       conv=>whnf
       exact rtn Y fun I8 we re=>⟨_,rfl,fun h3=>⟨hM,fun e=>⟨h4,(by have:(c.length:Int)<=3:=aI h3;omega),hBs,hC⟩⟩⟩
      conv=>whnf
      exact rtn Y fun I8 we re=>⟨false,rfl,fun h=>(by cases h)⟩
    have h5c:¬c.length<=5:=fun h=>aL h5c be;conv=>whnf
    refine cM (cE Y (pE (iV (iB G8 b c))) (fun O J r=>iG (oS L r) (dK.cP hm ((kS Y r L))) (dB.cP hB ((kS Y r L))) (dB.cP hc ((kS Y r L)))) ?_);rintro O PT v3 PX OR r G Y A rfl;clear r G;conv=>whnf
    apply bS<;>intro G
    .have G:iB G8 b c≠0:=fun e=>by rw[e]at G;simp at G
     conv=>whnf
     exact rtn Y fun I8 we re=>⟨true,rfl,fun _=>⟨hM,fun e=>absurd e G⟩⟩
    conv=>whnf
    apply bS<;>intro h4
    .have h4:G8.length<=4:=by have:(G8.length:Int)<=4:=(by simpa using h4);omega
     conv=>whnf
     conv=>whnf
     exact rtn Y fun I8 we re=>⟨_,rfl,fun h3=>⟨hM,fun e=>⟨h4,(by have:(c.length:Int)<=3:=aI h3;omega),hBs,absurd (show c.length<=5 by have:(c.length:Int)<=3:=aI h3;omega) h5c⟩⟩⟩
    conv=>whnf
    exact rtn Y fun I8 we re=>⟨false,rfl,fun h=>(by cases h)⟩
  have h5b:¬b.length<=5:=fun h=>aL h5b be;conv=>whnf
  apply bS<;>intro h5c
  .conv=>whnf
   refine cM (cE Y (fun _ J v F=>∃d,v= .bool d/\(d=true->mE w S (.slice ac c.length cc) c)) (fun O J r=>qd (oS L r) ((kS Y r L)) hc) ?_);rintro O Pc v2 PK iv2 r G Y A ⟨d,rfl,hd⟩;clear r G;conv=>whnf
   cases d with
   |false=>
    conv=>whnf
    exact rtn Y fun I8 we re=>⟨false,rfl,fun h=>(by cases h)⟩
   |true=>
    have hC:=hd rfl;clear hd;conv=>whnf
    refine cM (cE Y (pE (iV (iB G8 b c))) (fun O J r=>iG (oS L r) (dK.cP hm ((kS Y r L))) (dB.cP hB ((kS Y r L))) (dB.cP hc ((kS Y r L)))) ?_);rintro O _ _ _ OR r G Y A rfl;clear r G;conv=>whnf
    apply bS<;>intro G
    .have G:iB G8 b c≠0:=fun e=>by rw[e]at G;simp at G
     conv=>whnf
     exact rtn Y fun I8 we re=>⟨true,rfl,fun _=>⟨hM,fun e=>absurd e G⟩⟩
    conv=>whnf
    apply bS<;>intro h4
    .have h4:G8.length<=4:=by have:(G8.length:Int)<=4:=(by simpa using h4);omega
     conv=>whnf
     conv=>whnf
     exact rtn Y fun I8 we re=>⟨_,rfl,fun h3=>⟨hM,fun e=>⟨h4,(by have:(c.length:Int)<=3:=aI h3;omega),absurd (show b.length<=5 by have:=(nZ e).2.1;omega) h5b,hC⟩⟩⟩
    conv=>whnf
    exact rtn Y fun I8 we re=>⟨false,rfl,fun h=>(by cases h)⟩
  have h5c:¬c.length<=5:=fun h=>aL h5c be;conv=>whnf
  refine cM (cE Y (pE (iV (iB G8 b c))) (fun O J r=>iG (oS L r) (dK.cP hm ((kS Y r L))) (dB.cP hB ((kS Y r L))) (dB.cP hc ((kS Y r L)))) ?_);rintro O _ _ _ iv2 r G Y A rfl;clear r G;conv=>whnf
  apply bS<;>intro G
  .have G:iB G8 b c≠0:=fun e=>by rw[e]at G;simp at G
   conv=>whnf
   exact rtn Y fun I8 we re=>⟨true,rfl,fun _=>⟨hM,fun e=>absurd e G⟩⟩
  conv=>whnf
  apply bS<;>intro h4
  .have h4:G8.length<=4:=by have:(G8.length:Int)<=4:=(by simpa using h4);omega
   conv=>whnf
   conv=>whnf
   exact rtn Y fun I8 we re=>⟨_,rfl,fun h3=>⟨hM,fun e=>⟨h4,(by have:(c.length:Int)<=3:=aI h3;omega),absurd (show b.length<=5 by have:=(nZ e).2.1;omega) h5b,absurd (show c.length<=5 by have:(c.length:Int)<=3:=aI h3;omega) h5c⟩⟩⟩
  conv=>whnf
  exact rtn Y fun I8 we re=>⟨false,rfl,fun h=>(by cases h)⟩
theorem IP(L:Old S J)(Z:∀g,S g->J.heap[g]? =w.heap[g]?)(hm:dK w S vm G8)(hB:dB w S vb b)(hc:dB w S vc c):
  eD PG Fd.qD #[.agg #[vm,vb,vc]] J (eL J fun v' _=>∃d,v'= .bool d/\(d=true->EJ w S vm vb vc G8 b c)):=
 (Jv L (dK.cP hm Z) (dB.cP hB Z) (dB.cP hc Z)).mono fun _ _ ⟨v2,e1,e2,d,e3,e4⟩=>⟨v2,e1,e2,d,e3,fun hd=>⟨(e4 hd).1.cP fun g V=>(Z g V).symm,fun e=>
  have h:=(e4 hd).2 e
  ⟨h.1,h.2.1,h.2.2.1.cP fun g V=>(Z g V).symm,h.2.2.2.cP fun g V=>(Z g V).symm⟩⟩⟩
end Go.Ex
namespace Go.Ex
section
variable{F':List (List Rat)}{b c:List Rat}{n:Nat}
theorem Ce{l:List Rat}{k:Nat}(h:∀q∈l,rl q<=k)(Z:1<=k)(t:Nat):rl (l.getD t 0)<=k:=by
 rw[List.getD]
 cases e:l[t]? with
 |none=>exact aP (by decide:rl 0<=1) Z
 |some q=>exact h q (aG e)
theorem Ge(hA:pf n F')(U:n<=4)(hc:c.length<=5)(rA:∀r∈F',∀q∈r,rl q<=3)(rb:∀q∈b,rl q<=3)(rc:∀q∈c,rl q<=3):
  ∃d,H4 F'.length n (wt 15) (dZ F') (fun i=>b.getD i 0) (fun j=>c.getD j 0) d:=by
 have UU:=Ce rb bv;have OI:∀i,i<F'.length->Den (wt 15) (rz (F'.getD i []++[b.getD i 0]) 5) (F'.getD i []++[b.getD i 0]):=fun i R=>by
  refine CR (n:=5) (by rw[aU,hA.getD R];show n+1<=5;omega) fun q hq=>?_;rcases bY.1 hq with hq|hq
  .refine rA _ ?_ q hq;rw[List.getD,aE R];exact List.getElem_mem _
  .rw[bW.1 hq];exact UU i
 have Rk:Den (wt 15) (rz c 5) c:=CR (n:=5) hc rc;refine⟨fun i=>if i<F'.length then rz (F'.getD i []++[b.getD i 0]) 5 else rz c 5,fun i _=>?_,fun i _=>?_,fun i j R hj=>?_,fun i R=>?_,fun j _=>?_,Hr⟩
 .split
  .rename_i g;exact(OI i g).1
  .exact Rk.1
 .split
  .rename_i g;exact(OI i g).2.1
  .exact Rk.2.1
 .rw[aM R];have W:=(OI i R).2.2 j
  rwa [nO (by rw[hA.getD R];omega),aM (by rw[hA.getD R];exact hj)]at W
 .rw[aM R];have W:=(OI i R).2.2 n
  rwa [nO (by rw[hA.getD R];exact ae _),aK (by rw[hA.getD R];omega)]at W
 .rw[aK (Nat.lt_irrefl _)];exact Rk.2.2 j
theorem EC{m:Nat}(hm:m<=5):ln (fB (wt 15) (m+1))<=97:=(MK (l:=16) (FS:=6) be bv bv bv).1
end
end Go.Ex
namespace Go.Ex
open Go Go.Sx Go.Proofs
variable{G8:List (List (Int×Int))}{F':List (List Rat)}{b c:List Rat}{k n:Nat}{A':Nat->Nat->Rat}{S:Nat->Prop}{vb vc vm:Value}{w:World}
theorem fe(F':List (List Rat))(n:Nat):(ef F' n).length=n:=by simp[ef]
theorem il(l:List Rat):(gE l).length=l.length:=by simp[gE]
theorem kA:∀r∈ef F' n,r.length=F'.length:=fun r hr=>by
 obtain⟨k,-,rfl⟩:=bD.1 hr;simp[qq]
theorem B5(l:List Rat)(i:Nat):(gE l).getD i 0= -(l.getD i 0):=by
 unfold gE;rw[List.getD,aS,List.getD]
 cases l[i]? <;>simp
theorem DJ{i j:Nat}(R:i<n)(hj:j<F'.length):dZ (ef F' n) i j= -(dZ F' j i):=by
 have e:(ef F' n).getD i []=qq F' i:=by rw[ef,List.getD,aS,List.getElem?_range R];rfl
 rw[dZ,e,dZ,qq,show F'.getD j []=F'[j] by rw[List.getD,aE hj];rfl,List.getD,aS,aE hj];rfl
theorem B6{l:List Rat}(h:∀q∈l,rl q<=k):∀q∈gE l,rl q<=k:=fun q hq=>by
 obtain⟨p,hp,rfl⟩:=bD.1 hq;rw[jM];exact h p hp
theorem yh(W:1<=k)(h:∀r∈F',∀q∈r,rl q<=k):∀r∈ef F' n,∀q∈r,rl q<=k:=fun r hr q hq=>by
 obtain⟨t,-,rfl⟩:=bD.1 hr;obtain⟨p,hp,rfl⟩:=bD.1 hq;rw[jM];exact Ce (h p hp) W t
theorem HE(U:n<=60)(hA:F'.length<=60)(N:b.length=F'.length)(hc:c.length=n):iB ((ef F' n).map iJ) (iJ (gE c)) (iJ (gE b))=0:=by
 have hr:∀r∈(ef F' n).map iJ,r.length=F'.length:=fun r hr=>by
  obtain⟨x,E,rfl⟩:=bD.1 hr;rw[nh];exact kA x E
 have hl:((ef F' n).map iJ).length=n:=by rw[aJ,fe]
 have hcol:0<n->dH ((ef F' n).map iJ)=F'.length:=fun h=>by
  obtain⟨r,h0⟩:=gO ((ef F' n).map iJ) 0;rw[AO h0];exact hr r (aG h0)
 have hcol2:dH ((ef F' n).map iJ)<=60:=by
  rcases bB n with h|h
  .rw[List.length_eq_zero_iff.1 (hl.trans h)];decide
  .rw[hcol h];exact hA
 have hM:im ((ef F' n).map iJ)=0:=by
  unfold im;rw[aM,aK be];intro r h;rw[hr r h,hcol (by have:=List.length_pos_of_mem h;omega)]
 unfold iB;rw[hM,aK ce,aK,aK (by rw[nh,il];omega)];rintro(h|⟨W,I⟩)
 .rw[nh,il]at h;omega
 .rw[nh,il,hcol be]at I;omega
theorem mo.cA{m:Nat}{F':Nat->Nat->Rat}{b x:Nat->Rat}(h:mo m n F' b x)(e:∀i j,i<m->j<n->F' i j=A' i j):mo m n A' b x:=⟨h.1,fun i R=>by
 have q:cW (fun j=>A' i j*x j) n=cW (fun j=>F' i j*x j) n:=cQ fun j hj=>by rw[e i j R hj]
 rw[q];exact h.2 i R⟩
theorem Cert.cA{m:Nat}{F':Nat->Nat->Rat}{b c:Nat->Rat}{v:Rat}(h:Cert m n F' b c k v)(e:∀i j,i<m->j<n->F' i j=A' i j):Cert m n A' b c k v:=by
 have q:∀(y:Nat->Rat) j,j<n->cW (fun i=>y i*A' i j) m=cW (fun i=>y i*F' i j) m:=fun y j hj=>cQ fun i R=>by rw[e i j R hj]
 cases h with
 |CY x y v E hy hc e1 e2=>exact .CY x y v (E.cA e) hy (fun j hj=>by rw[q y j hj];exact hc j hj) e1 e2
 |none y h=>exact .none y ⟨h.1,h.2.1,fun j hj=>by rw[q y j hj];exact h.2.2 j hj⟩
 |JV x z E hz=>exact .JV x z (E.cA e) ⟨hz.1.cA e,hz.2⟩
theorem HF{q:Rat}(h:Cert (ef F' n).length (gE b).length (dZ (ef F' n)) (fun i=>(gE c).getD i 0) (fun j=>(gE b).getD j 0) k q)(N:b.length=F'.length):
  Cert n F'.length (pt (dZ F')) (pw fun j=>c.getD j 0) (pw fun i=>b.getD i 0) k q:=by
 rw[fe,il,N]at h;have e1:(fun i=>(gE c).getD i 0)=pw fun j=>c.getD j 0:=funext fun i=>B5 c i;have e2:(fun j=>(gE b).getD j 0)=pw fun i=>b.getD i 0:=funext fun i=>B5 b i;rw[e1,e2]at h;exact h.cA fun i j R hj=>DJ R hj
theorem vR.cO{Fn:Nat}{F:World}{C8 L':Nat->Prop}{s:Value}(h:vR F' b c Fn F C8 s)(Z:∀g,C8 g->L' g):vR F' b c Fn F L' s:=by
 obtain⟨z,vx,vy,vr,g0,g1,g2,g3,g4,g5,g6,g7,X,E8,FS,q,e,W,I,h3,h4,h5⟩:=h;exact⟨z,vx,vy,vr,g0,g1,g2,g3,g4,g5,g6,g7,X,E8,FS,q,e,cS.cO W Z,cS.cO I Z,cS.cO h3 Z,cZ.cO h4 Z,h5⟩
theorem vS{b c:List (Int×Int)}(L:Old S w)(hm:dK w S vm G8)(N:dB w S vb b)(hc:dB w S vc c)(G:iB G8 b c=0)(hM:∀r∈G8,wm r)(Xb:wm b)(hfc:wm c)
  (Wr:G8.length<=4) (UP:c.length<=4) (r1:∀r∈de G8,∀q∈r,rl q<=3) (r2:∀q∈b.map cU,rl q<=3) (r3:∀q∈c.map cU,rl q<=3):
  eD PG Fd.jg #[.agg #[vm,vb,vc]] w (eL w fun v F=>∃s,v= .tuple #[s,iV 0]/\vR (de G8) (b.map cU) (c.map cU) 97 F (Nf w F) s):=by
 obtain⟨-,-,-,-,OI⟩:=nZ G;have hA:pf c.length (de G8):=fun r hr=>by
  obtain⟨x,E,rfl⟩:=bD.1 hr;rw[aJ];exact OI x E
 obtain⟨d,hd⟩:=Ge (c:=c.map cU) hA UP (by rw[aJ];omega) r1 r2 r3;rw[ub]at hd;exact(EW (Fn:=97) (Bz:=wt 15) (d:=d) L hm N hc fun _=>⟨hM,Xb,hfc,hd,EC be,bv,bv⟩).mono fun _ F ⟨v2,e1,e2,h⟩=>⟨v2,e1,e2,h.elim (fun h=>absurd G h.1) fun h=>h.2⟩
theorem DK(L:Old S w)(hm:dC w S vm (ef F' n))(N:cS w S vb (gE c))(hc:cS w S vc (gE b))(TL:c.length=n)(OQ:b.length=F'.length)
  (hA4:F'.length<=4) (UP:n<=4) (r1:∀r∈F',∀q∈r,rl q<=3) (r2:∀q∈b,rl q<=3) (r3:∀q∈c,rl q<=3):
  eD PG Fd.jg #[.agg #[vm,vb,vc]] w (eL w fun v F=>∃s,v= .tuple #[s,iV 0]/\vR (ef F' n) (gE c) (gE b) 97 F (Nf w F) s):=by
 have k1:=yh (n:=n) bv r1;have k2:=B6 r2;have k3:=B6 r3
 have h:=vS L hm.iJ (cS.iJ N) (cS.iJ hc) (HE be be OQ TL) (fun r hr=>by
  obtain⟨x,E,rfl⟩:=bD.1 hr
  exact uc fun q hq=>aP (k1 x E q hq) bv) (uc fun q hq=>aP (k3 q hq) bv) (uc fun q hq=>aP (k2 q hq) bv) (by rw[aJ,fe];omega) (by rw[nh,il];omega) (by rw[Iu];exact k1) (by rw[kY];exact k3) (by rw[kY];exact k2)
 rw[Iu,kY,kY]at h;exact h
theorem AP{n lo R:Int}(w:World)(h:lo<=n/\n<=R):eD PG Fd.uy #[iV n,iV lo,iV R] w (eL w fun v' _=>v'= .bool true):=by
 have Y:=bR w;refine xz ce ?_;refine zF.mk (fun W=>?_) (fun W=>absurd h.1 (aL W));exact rtn Y fun I8 we re=>by rw[show ∀d:Bool,d=true->SV.den I8 (SV.o (At.v (.bool d)))= .bool true from fun d e=>by rw[e];rfl];exact bQ h.2
theorem td{x y:List Rat}(hA:pf n F')(E:rn F' n x b)(hy:rn (ef F' n) F'.length y (gE c)):eR c x n<=eR y b y.length:=by
 obtain⟨-,W⟩:=(kX hA).1 E;obtain⟨I,h3⟩:=(kX (n:=F'.length) fun r hr=>kA r hr).1 hy;rw[fe]at h3;have e1:(fun i=>(gE c).getD i 0)=pw fun j=>c.getD j 0:=funext fun i=>B5 c i;rw[e1]at h3;obtain⟨p1,p2⟩:=rO.1 (h3.cA (A':=pt (dZ F')) fun i j R hj=>DJ R hj);rw[fQ,fQ,I];exact xa W p1 p2
theorem yi{vx vy:Value}{b c X E8:List (Int×Int)}(L:Old S w)
  (hm:dK w S vm G8) (hB:dB w S vb b) (hc:dB w S vc c) (E:dB w S vx X) (hy:dB w S vy E8):
  eD PG Fd.lj #[.agg #[vm,vb,vc],vx,vy] w (eL w fun v' _=>v'= .bool true):=by
 have Y:=bR w;have hF:=kW w.heap.size;obtain⟨am,cm,rfl,Rd,TQ⟩:=dD.shape hm;obtain⟨ab,cb,rfl,Pv,S0⟩:=dU.shape hB;obtain⟨ac,cc,rfl,Uc,RL⟩:=dU.shape hc;obtain⟨ax,cx,rfl,hcx,VN⟩:=dU.shape E;obtain⟨ay,cy,rfl,hcy,hmy⟩:=dU.shape hy;unfold maxLen at TQ S0 RL VN hmy;refine pG ce ?_;conv=>whnf
 refine cM (cE Y (fun _ J v F=>∃d,v= .bool d/\(d=true->EJ w S (.slice am G8.length cm) (.slice ab b.length cb) (.slice ac c.length cc) G8 b c)) (fun O J r=>IP (oS L r) ((kS Y r L)) hm hB hc) ?_);rintro O _ _ _ OS r G Y A ⟨d,rfl,hd⟩;clear r;conv=>whnf
 cases d with
 |false=>
  conv=>whnf
  refine cM (cE Y (pE (.bool true)) (fun O J r=>fw J) ?_);rintro O Pc v2 PK iv2 r G Y A rfl;clear r;conv=>whnf
  exact rtn Y fun I8 we re=>rfl
 |true=>
  have hL:=hd rfl;clear hd;conv=>whnf
  refine cM (cE Y (pE (iV ((iB G8 b c:Nat):Int))) (fun O J r=>iG (oS L r) (dK.cP hm ((kS Y r L))) (dB.cP hB ((kS Y r L))) (dB.cP hc ((kS Y r L)))) ?_);rintro O _ v2 _ iv2 r G Y A rfl;clear r;conv=>whnf
  apply bS<;>intro G
  .conv=>whnf
   refine cM (cE Y (pE (.bool true)) (fun O J r=>fw J) ?_);rintro O PT v3 PX OR r G Y A rfl;clear r G;conv=>whnf
   exact rtn Y fun I8 we re=>rfl
  have G:iB G8 b c=0:=by simpa using G
  conv=>whnf
  apply bS<;>intro hX5
  .conv=>whnf
   refine cM (cE Y (pE (.bool true)) (fun O J r=>fw J) ?_);rintro O PT v3 PX OR r G Y A rfl;clear r G;conv=>whnf
   exact rtn Y fun I8 we re=>rfl
  have hX5:=aL hX5;conv=>whnf
  apply bS<;>intro hY5
  .conv=>whnf
   refine cM (cE Y (pE (.bool true)) (fun O J r=>fw J) ?_);rintro O PT v3 PX OR r G Y A rfl;clear r G;conv=>whnf
   exact rtn Y fun I8 we re=>rfl
  have hY5:=aL hY5;conv=>whnf
  refine cM (cE Y (fun _ J v F=>∃d,v= .bool d/\(d=true->mE w S (.slice ax X.length cx) X)) (fun O J r=>qd (oS L r) ((kS Y r L)) E) ?_);rintro O _ _ _ OR r G Y A ⟨d,rfl,hd⟩;clear r G;conv=>whnf
  cases d with
  |false=>
   conv=>whnf
   refine cM (cE Y (pE (.bool true)) (fun O J r=>fw J) ?_);rintro O QX v4 QA Ob r G Y A rfl;clear r G;conv=>whnf
   exact rtn Y fun I8 we re=>rfl
  |true=>
   have Ws:=hd rfl;clear hd;conv=>whnf
   refine cM (cE Y (fun _ J v F=>∃d,v= .bool d/\(d=true->mE w S (.slice ay E8.length cy) E8)) (fun O J r=>qd (oS L r) ((kS Y r L)) hy) ?_);rintro O _ _ _ Ob r G Y A ⟨d,rfl,hd⟩;clear r G;conv=>whnf
   cases d with
   |false=>
    conv=>whnf
    refine cM (cE Y (pE (.bool true)) (fun O J r=>fw J) ?_);rintro O UL v5 UM Of r G Y A rfl;clear r G;conv=>whnf
    exact rtn Y fun I8 we re=>rfl
   |true=>
    have Wt:=hd rfl;clear hd;conv=>whnf
    obtain⟨hM,hL⟩:=hL;obtain⟨Wr,hc3,Td,Oz⟩:=hL G;obtain⟨e1,e2,e3,e4,e5⟩:=nZ G;have WT:∀r∈de G8,r.length=c.length:=fun r hr=>by
     obtain⟨x,E,rfl⟩:=bD.1 hr;rw[aJ];exact e5 x E
    have Uz:(b.map cU).length=(de G8).length:=by rw[aJ,ub];exact e2
    have SQ:(de G8).length=G8.length:=ub G8
    refine cM (cE Y (fun _ J v F=>∃a1 c1 a2 c2 a3 c3,v= .agg #[.slice a1 c.length c1,.slice a2 c.length c2,.slice a3 b.length c3]/\dC F (Nf J F) (.slice a1 c.length c1) (ef (de G8) c.length)/\cS F (Nf J F) (.slice a2 c.length c2) (gE (c.map cU))/\cS F (Nf J F) (.slice a3 b.length c3) (gE (b.map cU))) (fun O J r=>(by
      have h:=Ld (oS L r) (jJ.cP hM.2.2.1 ((kS Y r L))) (dM.cP Td.1 ((kS Y r L))) (dM.cP Oz.1 ((kS Y r L))) (fun r hr=>by rw[aJ];exact WT r hr) be (by rw[aJ];omega) (by rw[aJ];omega);simp only[aJ]at h
      exact h)) ?_)
    rintro O _ _ _ Of r G Y A ⟨a1,c1,a2,c2,a3,c3,rfl,RH,RZ,hd3⟩;have Og:=dC.eX (S:=S) RH r.cR (mN A);have Oe:=cS.eX (S:=S) RZ r.cR (mN A);have Ol:=cS.eX (S:=S) hd3 r.cR (mN A);clear r G;conv=>whnf
    refine cM (cN (I9:=fun _ J v F=>∃s,v= .tuple #[s,iV 0]/\vR (de G8) (b.map cU) (c.map cU) 97 F (Nf J F) s) (fun O J r=>vS (oS L r) (dK.cP hm ((kS Y r L))) (dB.cP hB ((kS Y r L))) (dB.cP hc ((kS Y r L))) G hM.2.2.2.2 Td.2.2 Oz.2.2 Wr be hM.2.2.2.1 Td.2.1 Oz.2.1) ?_);rintro O SD v6 SE r G N ⟨s,rfl,hO⟩;replace Y:=Y.tr N;replace Og:=dC.cL (K:=(SD.heap.size,SE.heap.size)::Of) Og r L G fun x E=>aD _ E;replace Oe:=cS.cL (K:=(SD.heap.size,SE.heap.size)::Of) Oe r L G fun x E=>aD _ E;replace Ol:=cS.cL (K:=(SD.heap.size,SE.heap.size)::Of) Ol r L G fun x E=>aD _ E;have hO1:=hO.cO (L':=Cv S w.heap.size ((SD.heap.size,SE.heap.size)::Of)) fun g V=>V.eX r.cR aF;clear r G N;generalize (SD.heap.size,SE.heap.size)::Of=PL at*
    obtain⟨z1,vx1,vy1,vr1,k01,k11,k21,k31,k41,k51,k61,k71,X1,Y1,R1,q1,rfl,hx',Uw,Sh,PQ,Tw,-,-,-,RF,-⟩:=hO1;obtain⟨_,_,rfl,-,-⟩:=dU.shape hx';obtain⟨_,_,rfl,-,-⟩:=dU.shape Uw;obtain⟨_,_,rfl,-,-⟩:=dU.shape Sh;clear hx' Uw Sh;conv=>whnf
    refine cM (cN (I9:=fun _ J v F=>∃s,v= .tuple #[s,iV 0]/\vR (ef (de G8) c.length) (gE (c.map cU)) (gE (b.map cU)) 97 F (Nf J F) s) (fun O J r=>DK (rlo r L) (dC.rel Og r L) (cS.rel Oe r L) (cS.rel Ol r L) (aJ ..) Uz be be hM.2.2.2.1 Td.2.1 Oz.2.1) ?_);rintro O Sj v7 Sk r G N ⟨s,rfl,hO⟩;replace Y:=Y.tr N;replace Og:=dC.cL (K:=(Sj.heap.size,Sk.heap.size)::PL) Og r L G fun x E=>aD _ E;replace Oe:=cS.cL (K:=(Sj.heap.size,Sk.heap.size)::PL) Oe r L G fun x E=>aD _ E;replace Ol:=cS.cL (K:=(Sj.heap.size,Sk.heap.size)::PL) Ol r L G fun x E=>aD _ E;replace PQ:=cZ.cL (K:=(Sj.heap.size,Sk.heap.size)::PL) PQ r L G fun x E=>aD _ E;have hO2:=hO.cO (L':=Cv S w.heap.size ((Sj.heap.size,Sk.heap.size)::PL)) fun g V=>V.eX r.cR aF;clear r G N;generalize (Sj.heap.size,Sk.heap.size)::PL=QB at*
    obtain⟨z2,vx2,vy2,vr2,k02,k12,k22,k32,k42,k52,k62,k72,X2,Y2,R2,q2,rfl,hx',Uw,Sh,PV,SH,-,-,-,QW,-⟩:=hO2;obtain⟨_,_,rfl,-,-⟩:=dU.shape hx';obtain⟨_,_,rfl,-,-⟩:=dU.shape Uw;obtain⟨_,_,rfl,-,-⟩:=dU.shape Sh;clear hx' Uw Sh;conv=>whnf
    obtain⟨k1,hk1,SL,hC1⟩:=Tw.cert (by rw[aJ];exact WT) Uz;obtain rfl:z1=k1:=by omega
    obtain⟨l1,SI,Ph,WO⟩:=SH.cert (fun r hr=>by rw[il,Uz];exact kA r hr) (by rw[il,fe,aJ]);obtain rfl:z2=l1:=by omega
    rw[show (c.map cU).length=c.length from aJ ..]at hC1;obtain⟨d1,d2,d3,d4⟩:=hC1.Jp (HF WO Uz);refine cM (cE Y (pE (.bool true)) (fun O J r=>AP J ⟨be,be⟩) ?_);rintro O _ _ _ RT r G Y A rfl;replace Og:=dC.cL Og r L G (mC A);replace Oe:=cS.cL Oe r L G (mC A);replace Ol:=cS.cL Ol r L G (mC A);replace PQ:=cZ.cL PQ r L G (mC A);replace PV:=cZ.cL PV r L G (mC A);clear r G;conv=>whnf
    refine cM (cE Y (pE (.bool true)) (fun O J r=>AP J ⟨be,be⟩) ?_);rintro O _ _ _ Ta r G Y A rfl;replace Og:=dC.cL Og r L G (mC A);replace Oe:=cS.cL Oe r L G (mC A);replace Ol:=cS.cL Ol r L G (mC A);replace PQ:=cZ.cL PQ r L G (mC A);replace PV:=cZ.cL PV r L G (mC A);clear r G;conv=>whnf
    obtain⟨m1,m2,m3,m4,-⟩:=hM.Mf e1;have RU:∀q∈X.map cU,rl q+1<=4:=fun q hq=>by have:=Ws.2.1 q hq;omega
    have VH:∀q∈E8.map cU,rl q+1<=4:=fun q hq=>by have:=Wt.2.1 q hq;omega
    have Wu:∀r∈ef (de G8) c.length,∀q∈r,rl q<=100000:=fun r hr q hq=>aP (yh bv hM.2.2.2.1 r hr q hq) bv;have Wv:∀q∈gE (c.map cU),rl q<=100000:=fun q hq=>aP (B6 Oz.2.1 q hq) bv;have hD4:Ht (ef (de G8) c.length) 4:=fun r hr q hq=>Nat.succ_le_succ (yh bv hM.2.2.2.1 r hr q hq);have TT:(z1=0/\z2=0)\/(z1=1/\z2=1)\/(z1=1/\z2=2)\/(z1=2/\z2=1):=by omega
    rcases TT with⟨rfl,rfl⟩|⟨rfl,rfl⟩|⟨rfl,rfl⟩|⟨rfl,rfl⟩
    .conv=>whnf
     refine dP (idO 12) ?_;conv=>whnf
     refine cE Y (pR cZ (-q2)) (fun O J r=>ua (rlo r L) (cZ.l (cZ.rel PV r L) be)) ?_;rintro O Rq v10 Rr SP r G Y A hs;replace Og:=dC.cL Og r L G (mC A);replace Oe:=cS.cL Oe r L G (mC A);replace Ol:=cS.cL Ol r L G (mC A);replace PQ:=cZ.cL PQ r L G (mC A);replace PV:=cZ.cL PV r L G (mC A);have hN:=cZ.eX (S:=S) hs r.cR (mN A);clear r G;conv=>whnf
     obtain⟨_,_,_,_,_,_,_,_,rfl⟩:=cZ.shape hN;refine cE Y (pE (iV 0)) (fun O J r=>(show rs (q1- -q2)=0 by rw[d4 rfl];exact qk.2 rfl)▸ud (rlo r L) (cZ.l (cZ.rel PQ r L) be) (cZ.l (cZ.rel hN r L) (by rw[jM];omega))) ?_;rintro O Ty v11 Tz SR r G Y A rfl;replace Og:=dC.cL Og r L G (mC A);replace Oe:=cS.cL Oe r L G (mC A);replace Ol:=cS.cL Ol r L G (mC A);clear PQ;clear PV;clear hN;clear r G;conv=>whnf
     refine dP [.x 0,.x 1,.x 2,.x 3,.x 4,.x 5,.x 6,.x 7,.x 8,.x 9,.x 10,.x 11,.x 12,.x 13,.x 14,.x 15,.x 17,.x 18,.x 19,.x 16,.x 20,.x 21,.x 22,.x 23] ?_;conv=>whnf
     refine cE Y (fun _ J v F=>∃d,v= .bool d/\(d=true->rn (de G8) c.length (X.map cU) (b.map cU))) (fun O J r=>(gk (h:=4) (rlo r L) (jJ.cO (jJ.cP hM.2.2.1 ((kS Y r L))) fun g V=>(.inl V:Cv S w.heap.size _ g)) (dM.cO (dM.cP Ws.1 ((kS Y r L))) fun g V=>(.inl V:Cv S w.heap.size _ g)) (dM.cO (dM.cP Td.1 ((kS Y r L))) fun g V=>(.inl V:Cv S w.heap.size _ g)) Uz WT m4 RU bv be be be).mono fun _ _ ⟨v2,e1,e2,d,e3,e4,_⟩=>⟨v2,e1,e2,d,e3,e4⟩) ?_;rintro O Vp v12 Vq TN r G Y A ⟨d,rfl,hd⟩;replace Og:=dC.cL Og r L G (mC A);replace Oe:=cS.cL Oe r L G (mC A);replace Ol:=cS.cL Ol r L G (mC A);clear r G;conv=>whnf
     cases d with
     |false=>
      conv=>whnf
      refine cM (cE Y (pE (.bool true)) (fun O J r=>fw J) ?_);rintro O wa13 v13 wb13 Um r G Y A rfl;replace Og:=dC.cL Og r L G (mC A);replace Oe:=cS.cL Oe r L G (mC A);replace Ol:=cS.cL Ol r L G (mC A);clear r G;conv=>whnf
      exact rtn Y fun I8 we re=>rfl
     |true=>
      have Vr:=hd rfl;clear hd;conv=>whnf
      refine cE Y (fun _ J v F=>∃d,v= .bool d/\(d=true->rn (ef (de G8) c.length) b.length (E8.map cU) (gE (c.map cU)))) (fun O J r=>(gk (h:=4) (n:=b.length) (rlo r L) (dC.l (dC.rel Og r L) Wu) (dM.cO (dM.cP Wt.1 ((kS Y r L))) fun g V=>(.inl V:Cv S w.heap.size _ g)) (cS.l (cS.rel Oe r L) Wv) (by rw[il,fe,aJ]) (fun r hr=>by rw[kA r hr,SQ,e2]) hD4 VH bv be (by rw[fe];omega) be).mono fun _ _ ⟨v2,e1,e2,d,e3,e4,_⟩=>⟨v2,e1,e2,d,e3,e4⟩) ?_;rintro O wa13 v13 wb13 Um r G Y A ⟨d,rfl,hd⟩;replace Og:=dC.cL Og r L G (mC A);replace Oe:=cS.cL Oe r L G (mC A);replace Ol:=cS.cL Ol r L G (mC A);clear r G;conv=>whnf
      cases d with
      |false=>
       conv=>whnf
       refine cM (cE Y (pE (.bool true)) (fun O J r=>fw J) ?_);rintro O wa14 v14 wb14 Vs r G Y A rfl;replace Og:=dC.cL Og r L G (mC A);replace Oe:=cS.cL Oe r L G (mC A);replace Ol:=cS.cL Ol r L G (mC A);clear r G;conv=>whnf
       exact rtn Y fun I8 we re=>rfl
      |true=>
       have UQ:=hd rfl;clear hd;conv=>whnf
       have hle:=td WT Vr (by rw[SQ,<-e2];exact UQ);have Ra:X.length=c.length:=by have:=Vr.1;rwa [aJ]at this
       have TD:E8.length=b.length:=by have:=UQ.1;rwa [aJ]at this
       have UP:∀q∈c.map cU,rl q+1<=4:=fun q hq=>by have:=Oz.2.1 q hq;omega
       have Pj:∀q∈b.map cU,rl q+1<=4:=fun q hq=>by have:=Td.2.1 q hq;omega
       refine cE Y (pR cZ (eR (c.map cU) (X.map cU) (c.map cU).length)) (fun O J r=>oh (h:=4) (rlo r L) (dM.cO (dM.cP Oz.1 ((kS Y r L))) fun g V=>(.inl V:Cv S w.heap.size _ g)) (dM.cO (dM.cP Ws.1 ((kS Y r L))) fun g V=>(.inl V:Cv S w.heap.size _ g)) (by rw[aJ,aJ];omega) UP RU bv (by rw[aJ];omega)) ?_;rintro O wa14 v14 wb14 Vs r G Y A hs;replace Og:=dC.cL Og r L G (mC A);replace Oe:=cS.cL Oe r L G (mC A);replace Ol:=cS.cL Ol r L G (mC A);have QC:=cZ.eX (S:=S) hs r.cR (mN A);clear r G;conv=>whnf
       obtain⟨_,_,_,_,_,_,_,_,rfl⟩:=cZ.shape QC;refine cE Y (pR cZ (eR (E8.map cU) (b.map cU) (E8.map cU).length)) (fun O J r=>oh (h:=4) (rlo r L) (dM.cO (dM.cP Wt.1 ((kS Y r L))) fun g V=>(.inl V:Cv S w.heap.size _ g)) (dM.cO (dM.cP Td.1 ((kS Y r L))) fun g V=>(.inl V:Cv S w.heap.size _ g)) (by rw[aJ,aJ];omega) VH Pj bv (by rw[aJ];omega)) ?_;rintro O wa15 v15 wb15 Ww r G Y A hs;replace Og:=dC.cL Og r L G (mC A);replace Oe:=cS.cL Oe r L G (mC A);replace Ol:=cS.cL Ol r L G (mC A);replace QC:=cZ.cL QC r L G (mC A);have Q4:=cZ.eX (S:=S) hs r.cR (mN A);clear r G;conv=>whnf
       obtain⟨_,_,_,_,_,_,_,_,rfl⟩:=cZ.shape Q4;rw[show (c.map cU).length=c.length from aJ ..]at QC;have g1:=iq UP RU bv c.length;have g2:=iq VH Pj bv (E8.map cU).length;rw[aJ]at g2;refine cE Y (pE (iV (rs (eR (c.map cU) (X.map cU) c.length-eR (E8.map cU) (b.map cU) (E8.map cU).length)))) (fun O J r=>ud (rlo r L) (cZ.l (cZ.rel QC r L) be) (cZ.l (cZ.rel Q4 r L) (by rw[aJ];omega))) ?_;rintro O _ _ _ iv16 r G Y A rfl;replace Og:=dC.cL Og r L G (mC A);replace Oe:=cS.cL Oe r L G (mC A);replace Ol:=cS.cL Ol r L G (mC A);replace QC:=cZ.cL QC r L G (mC A);replace Q4:=cZ.cL Q4 r L G (mC A);clear r G;conv=>whnf
       refine zF.mk (fun zy=>absurd (om.1 (aI zy)) (Rat.not_lt.2 hle)) (fun _=>?_);conv=>whnf
       refine cM (cE Y (pE (.bool true)) (fun O J r=>fw J) ?_);rintro O _ _ _ iv17 r G Y A rfl;replace Og:=dC.cL Og r L G (mC A);replace Oe:=cS.cL Oe r L G (mC A);replace Ol:=cS.cL Ol r L G (mC A);replace QC:=cZ.cL QC r L G (mC A);replace Q4:=cZ.cL Q4 r L G (mC A);clear r G;conv=>whnf
       exact rtn Y fun I8 we re=>rfl
    .conv=>whnf
     refine dP (idO 12) ?_;conv=>whnf
     refine dP [.x 0,.x 1,.x 2,.x 3,.x 4,.x 5,.x 6,.x 7,.x 8,.x 9,.x 10,.x 11,.x 12,.x 13,.x 14,.x 15,.x 17,.x 18,.x 19,.x 16,.x 20,.x 21,.x 22,.x 23] ?_;conv=>whnf
     refine cE Y (fun _ J v F=>∃d,v= .bool d/\(d=true->rn (de G8) c.length (X.map cU) (b.map cU))) (fun O J r=>(gk (h:=4) (rlo r L) (jJ.cO (jJ.cP hM.2.2.1 ((kS Y r L))) fun g V=>(.inl V:Cv S w.heap.size _ g)) (dM.cO (dM.cP Ws.1 ((kS Y r L))) fun g V=>(.inl V:Cv S w.heap.size _ g)) (dM.cO (dM.cP Td.1 ((kS Y r L))) fun g V=>(.inl V:Cv S w.heap.size _ g)) Uz WT m4 RU bv be be be).mono fun _ _ ⟨v2,e1,e2,d,e3,e4,_⟩=>⟨v2,e1,e2,d,e3,e4⟩) ?_;rintro O Rq v10 Rr SP r G Y A ⟨d,rfl,hd⟩;replace Og:=dC.cL Og r L G (mC A);replace Oe:=cS.cL Oe r L G (mC A);replace Ol:=cS.cL Ol r L G (mC A);replace PQ:=cZ.cL PQ r L G (mC A);replace PV:=cZ.cL PV r L G (mC A);clear r G;conv=>whnf
     cases d with
     |false=>
      conv=>whnf
      refine cM (cE Y (pE (.bool true)) (fun O J r=>fw J) ?_);rintro O Ty v11 Tz SR r G Y A rfl;replace Og:=dC.cL Og r L G (mC A);replace Oe:=cS.cL Oe r L G (mC A);replace Ol:=cS.cL Ol r L G (mC A);replace PQ:=cZ.cL PQ r L G (mC A);replace PV:=cZ.cL PV r L G (mC A);clear r G;conv=>whnf
      exact rtn Y fun I8 we re=>rfl
     |true=>
      have Vr:=hd rfl;clear hd;conv=>whnf
      refine cE Y (fun _ J v F=>∃d,v= .bool d/\(d=true->rn (ef (de G8) c.length) b.length (E8.map cU) (gE (c.map cU)))) (fun O J r=>(gk (h:=4) (n:=b.length) (rlo r L) (dC.l (dC.rel Og r L) Wu) (dM.cO (dM.cP Wt.1 ((kS Y r L))) fun g V=>(.inl V:Cv S w.heap.size _ g)) (cS.l (cS.rel Oe r L) Wv) (by rw[il,fe,aJ]) (fun r hr=>by rw[kA r hr,SQ,e2]) hD4 VH bv be (by rw[fe];omega) be).mono fun _ _ ⟨v2,e1,e2,d,e3,e4,_⟩=>⟨v2,e1,e2,d,e3,e4⟩) ?_;rintro O Ty v11 Tz SR r G Y A ⟨d,rfl,hd⟩;replace Og:=dC.cL Og r L G (mC A);replace Oe:=cS.cL Oe r L G (mC A);replace Ol:=cS.cL Ol r L G (mC A);replace PQ:=cZ.cL PQ r L G (mC A);replace PV:=cZ.cL PV r L G (mC A);clear r G;conv=>whnf
      cases d with
      |false=>
       conv=>whnf
       refine cM (cE Y (pE (.bool true)) (fun O J r=>fw J) ?_);rintro O Vp v12 Vq TN r G Y A rfl;replace Og:=dC.cL Og r L G (mC A);replace Oe:=cS.cL Oe r L G (mC A);replace Ol:=cS.cL Ol r L G (mC A);replace PQ:=cZ.cL PQ r L G (mC A);replace PV:=cZ.cL PV r L G (mC A);clear r G;conv=>whnf
       exact rtn Y fun I8 we re=>rfl
      |true=>
       have UQ:=hd rfl;clear hd;conv=>whnf
       have hle:=td WT Vr (by rw[SQ,<-e2];exact UQ);have Ra:X.length=c.length:=by have:=Vr.1;rwa [aJ]at this
       have TD:E8.length=b.length:=by have:=UQ.1;rwa [aJ]at this
       have UP:∀q∈c.map cU,rl q+1<=4:=fun q hq=>by have:=Oz.2.1 q hq;omega
       have Pj:∀q∈b.map cU,rl q+1<=4:=fun q hq=>by have:=Td.2.1 q hq;omega
       refine cE Y (pR cZ (eR (c.map cU) (X.map cU) (c.map cU).length)) (fun O J r=>oh (h:=4) (rlo r L) (dM.cO (dM.cP Oz.1 ((kS Y r L))) fun g V=>(.inl V:Cv S w.heap.size _ g)) (dM.cO (dM.cP Ws.1 ((kS Y r L))) fun g V=>(.inl V:Cv S w.heap.size _ g)) (by rw[aJ,aJ];omega) UP RU bv (by rw[aJ];omega)) ?_;rintro O Vp v12 Vq TN r G Y A hs;replace Og:=dC.cL Og r L G (mC A);replace Oe:=cS.cL Oe r L G (mC A);replace Ol:=cS.cL Ol r L G (mC A);replace PQ:=cZ.cL PQ r L G (mC A);replace PV:=cZ.cL PV r L G (mC A);have QC:=cZ.eX (S:=S) hs r.cR (mN A);clear r G;conv=>whnf
       obtain⟨_,_,_,_,_,_,_,_,rfl⟩:=cZ.shape QC;refine cE Y (pR cZ (eR (E8.map cU) (b.map cU) (E8.map cU).length)) (fun O J r=>oh (h:=4) (rlo r L) (dM.cO (dM.cP Wt.1 ((kS Y r L))) fun g V=>(.inl V:Cv S w.heap.size _ g)) (dM.cO (dM.cP Td.1 ((kS Y r L))) fun g V=>(.inl V:Cv S w.heap.size _ g)) (by rw[aJ,aJ];omega) VH Pj bv (by rw[aJ];omega)) ?_;rintro O wa13 v13 wb13 Um r G Y A hs;replace Og:=dC.cL Og r L G (mC A);replace Oe:=cS.cL Oe r L G (mC A);replace Ol:=cS.cL Ol r L G (mC A);replace PQ:=cZ.cL PQ r L G (mC A);replace PV:=cZ.cL PV r L G (mC A);replace QC:=cZ.cL QC r L G (mC A);have Q4:=cZ.eX (S:=S) hs r.cR (mN A);clear r G;conv=>whnf
       obtain⟨_,_,_,_,_,_,_,_,rfl⟩:=cZ.shape Q4;rw[show (c.map cU).length=c.length from aJ ..]at QC;have g1:=iq UP RU bv c.length;have g2:=iq VH Pj bv (E8.map cU).length;rw[aJ]at g2;refine cE Y (pE (iV (rs (eR (c.map cU) (X.map cU) c.length-eR (E8.map cU) (b.map cU) (E8.map cU).length)))) (fun O J r=>ud (rlo r L) (cZ.l (cZ.rel QC r L) be) (cZ.l (cZ.rel Q4 r L) (by rw[aJ];omega))) ?_;rintro O wa14 v14 wb14 Vs r G Y A rfl;replace Og:=dC.cL Og r L G (mC A);replace Oe:=cS.cL Oe r L G (mC A);replace Ol:=cS.cL Ol r L G (mC A);replace PQ:=cZ.cL PQ r L G (mC A);replace PV:=cZ.cL PV r L G (mC A);replace QC:=cZ.cL QC r L G (mC A);replace Q4:=cZ.cL Q4 r L G (mC A);clear r G;conv=>whnf
       refine zF.mk (fun zy=>absurd (om.1 (aI zy)) (Rat.not_lt.2 hle)) (fun _=>?_);conv=>whnf
       refine cM (cE Y (pE (.bool true)) (fun O J r=>fw J) ?_);rintro O wa15 v15 wb15 Ww r G Y A rfl;replace Og:=dC.cL Og r L G (mC A);replace Oe:=cS.cL Oe r L G (mC A);replace Ol:=cS.cL Ol r L G (mC A);replace PQ:=cZ.cL PQ r L G (mC A);replace PV:=cZ.cL PV r L G (mC A);replace QC:=cZ.cL QC r L G (mC A);replace Q4:=cZ.cL Q4 r L G (mC A);clear r G;conv=>whnf
       exact rtn Y fun I8 we re=>rfl
    .conv=>whnf
     refine dP (idO 12) ?_;conv=>whnf
     refine dP [.x 0,.x 1,.x 2,.x 3,.x 4,.x 5,.x 6,.x 7,.x 8,.x 9,.x 10,.x 11,.x 12,.x 13,.x 14,.x 15,.x 17,.x 18,.x 19,.x 16,.x 20,.x 21,.x 22,.x 23] ?_;conv=>whnf
     refine cE Y (fun _ J v F=>∃d,v= .bool d/\(d=true->rn (de G8) c.length (X.map cU) (b.map cU))) (fun O J r=>(gk (h:=4) (rlo r L) (jJ.cO (jJ.cP hM.2.2.1 ((kS Y r L))) fun g V=>(.inl V:Cv S w.heap.size _ g)) (dM.cO (dM.cP Ws.1 ((kS Y r L))) fun g V=>(.inl V:Cv S w.heap.size _ g)) (dM.cO (dM.cP Td.1 ((kS Y r L))) fun g V=>(.inl V:Cv S w.heap.size _ g)) Uz WT m4 RU bv be be be).mono fun _ _ ⟨v2,e1,e2,d,e3,e4,_⟩=>⟨v2,e1,e2,d,e3,e4⟩) ?_;rintro O Rq v10 Rr SP r G Y A ⟨d,rfl,hd⟩;replace Og:=dC.cL Og r L G (mC A);replace Oe:=cS.cL Oe r L G (mC A);replace Ol:=cS.cL Ol r L G (mC A);replace PQ:=cZ.cL PQ r L G (mC A);replace PV:=cZ.cL PV r L G (mC A);clear r G;conv=>whnf
     cases d with
     |false=>
      conv=>whnf
      refine cM (cE Y (pE (.bool true)) (fun O J r=>fw J) ?_);rintro O Ty v11 Tz SR r G Y A rfl;replace Og:=dC.cL Og r L G (mC A);replace Oe:=cS.cL Oe r L G (mC A);replace Ol:=cS.cL Ol r L G (mC A);replace PQ:=cZ.cL PQ r L G (mC A);replace PV:=cZ.cL PV r L G (mC A);clear r G;conv=>whnf
      exact rtn Y fun I8 we re=>rfl
     |true=>
      have Vr:=hd rfl;clear hd;conv=>whnf
      refine cE Y (fun _ J v F=>∃d,v= .bool d/\(d=true->rn (ef (de G8) c.length) b.length (E8.map cU) (gE (c.map cU)))) (fun O J r=>(gk (h:=4) (n:=b.length) (rlo r L) (dC.l (dC.rel Og r L) Wu) (dM.cO (dM.cP Wt.1 ((kS Y r L))) fun g V=>(.inl V:Cv S w.heap.size _ g)) (cS.l (cS.rel Oe r L) Wv) (by rw[il,fe,aJ]) (fun r hr=>by rw[kA r hr,SQ,e2]) hD4 VH bv be (by rw[fe];omega) be).mono fun _ _ ⟨v2,e1,e2,d,e3,e4,_⟩=>⟨v2,e1,e2,d,e3,e4⟩) ?_;rintro O Ty v11 Tz SR r G Y A ⟨d,rfl,hd⟩;replace Og:=dC.cL Og r L G (mC A);replace Oe:=cS.cL Oe r L G (mC A);replace Ol:=cS.cL Ol r L G (mC A);replace PQ:=cZ.cL PQ r L G (mC A);replace PV:=cZ.cL PV r L G (mC A);clear r G;conv=>whnf
      cases d with
      |false=>
       conv=>whnf
       refine cM (cE Y (pE (.bool true)) (fun O J r=>fw J) ?_);rintro O Vp v12 Vq TN r G Y A rfl;replace Og:=dC.cL Og r L G (mC A);replace Oe:=cS.cL Oe r L G (mC A);replace Ol:=cS.cL Ol r L G (mC A);replace PQ:=cZ.cL PQ r L G (mC A);replace PV:=cZ.cL PV r L G (mC A);clear r G;conv=>whnf
       exact rtn Y fun I8 we re=>rfl
      |true=>
       have UQ:=hd rfl;clear hd;conv=>whnf
       have hle:=td WT Vr (by rw[SQ,<-e2];exact UQ);have Ra:X.length=c.length:=by have:=Vr.1;rwa [aJ]at this
       have TD:E8.length=b.length:=by have:=UQ.1;rwa [aJ]at this
       have UP:∀q∈c.map cU,rl q+1<=4:=fun q hq=>by have:=Oz.2.1 q hq;omega
       have Pj:∀q∈b.map cU,rl q+1<=4:=fun q hq=>by have:=Td.2.1 q hq;omega
       refine cE Y (pR cZ (eR (c.map cU) (X.map cU) (c.map cU).length)) (fun O J r=>oh (h:=4) (rlo r L) (dM.cO (dM.cP Oz.1 ((kS Y r L))) fun g V=>(.inl V:Cv S w.heap.size _ g)) (dM.cO (dM.cP Ws.1 ((kS Y r L))) fun g V=>(.inl V:Cv S w.heap.size _ g)) (by rw[aJ,aJ];omega) UP RU bv (by rw[aJ];omega)) ?_;rintro O Vp v12 Vq TN r G Y A hs;replace Og:=dC.cL Og r L G (mC A);replace Oe:=cS.cL Oe r L G (mC A);replace Ol:=cS.cL Ol r L G (mC A);replace PQ:=cZ.cL PQ r L G (mC A);replace PV:=cZ.cL PV r L G (mC A);have QC:=cZ.eX (S:=S) hs r.cR (mN A);clear r G;conv=>whnf
       obtain⟨_,_,_,_,_,_,_,_,rfl⟩:=cZ.shape QC;refine cE Y (pR cZ (eR (E8.map cU) (b.map cU) (E8.map cU).length)) (fun O J r=>oh (h:=4) (rlo r L) (dM.cO (dM.cP Wt.1 ((kS Y r L))) fun g V=>(.inl V:Cv S w.heap.size _ g)) (dM.cO (dM.cP Td.1 ((kS Y r L))) fun g V=>(.inl V:Cv S w.heap.size _ g)) (by rw[aJ,aJ];omega) VH Pj bv (by rw[aJ];omega)) ?_;rintro O wa13 v13 wb13 Um r G Y A hs;replace Og:=dC.cL Og r L G (mC A);replace Oe:=cS.cL Oe r L G (mC A);replace Ol:=cS.cL Ol r L G (mC A);replace PQ:=cZ.cL PQ r L G (mC A);replace PV:=cZ.cL PV r L G (mC A);replace QC:=cZ.cL QC r L G (mC A);have Q4:=cZ.eX (S:=S) hs r.cR (mN A);clear r G;conv=>whnf
       obtain⟨_,_,_,_,_,_,_,_,rfl⟩:=cZ.shape Q4;rw[show (c.map cU).length=c.length from aJ ..]at QC;have g1:=iq UP RU bv c.length;have g2:=iq VH Pj bv (E8.map cU).length;rw[aJ]at g2;refine cE Y (pE (iV (rs (eR (c.map cU) (X.map cU) c.length-eR (E8.map cU) (b.map cU) (E8.map cU).length)))) (fun O J r=>ud (rlo r L) (cZ.l (cZ.rel QC r L) be) (cZ.l (cZ.rel Q4 r L) (by rw[aJ];omega))) ?_;rintro O wa14 v14 wb14 Vs r G Y A rfl;replace Og:=dC.cL Og r L G (mC A);replace Oe:=cS.cL Oe r L G (mC A);replace Ol:=cS.cL Ol r L G (mC A);replace PQ:=cZ.cL PQ r L G (mC A);replace PV:=cZ.cL PV r L G (mC A);replace QC:=cZ.cL QC r L G (mC A);replace Q4:=cZ.cL Q4 r L G (mC A);clear r G;conv=>whnf
       refine zF.mk (fun zy=>absurd (om.1 (aI zy)) (Rat.not_lt.2 hle)) (fun _=>?_);conv=>whnf
       refine cM (cE Y (pE (.bool true)) (fun O J r=>fw J) ?_);rintro O wa15 v15 wb15 Ww r G Y A rfl;replace Og:=dC.cL Og r L G (mC A);replace Oe:=cS.cL Oe r L G (mC A);replace Ol:=cS.cL Ol r L G (mC A);replace PQ:=cZ.cL PQ r L G (mC A);replace PV:=cZ.cL PV r L G (mC A);replace QC:=cZ.cL QC r L G (mC A);replace Q4:=cZ.cL Q4 r L G (mC A);clear r G;conv=>whnf
       exact rtn Y fun I8 we re=>rfl
    .conv=>whnf
     refine dP (idO 12) ?_;conv=>whnf
     refine dP [.x 0,.x 1,.x 2,.x 3,.x 4,.x 5,.x 6,.x 7,.x 8,.x 9,.x 10,.x 11,.x 12,.x 13,.x 14,.x 15,.x 17,.x 18,.x 19,.x 16,.x 20,.x 21,.x 22,.x 23] ?_;conv=>whnf
     refine cE Y (fun _ J v F=>∃d,v= .bool d/\(d=true->rn (de G8) c.length (X.map cU) (b.map cU))) (fun O J r=>(gk (h:=4) (rlo r L) (jJ.cO (jJ.cP hM.2.2.1 ((kS Y r L))) fun g V=>(.inl V:Cv S w.heap.size _ g)) (dM.cO (dM.cP Ws.1 ((kS Y r L))) fun g V=>(.inl V:Cv S w.heap.size _ g)) (dM.cO (dM.cP Td.1 ((kS Y r L))) fun g V=>(.inl V:Cv S w.heap.size _ g)) Uz WT m4 RU bv be be be).mono fun _ _ ⟨v2,e1,e2,d,e3,e4,_⟩=>⟨v2,e1,e2,d,e3,e4⟩) ?_;rintro O _ _ _ SP r G Y A ⟨d,rfl,hd⟩;replace Og:=dC.cL Og r L G (mC A);replace Oe:=cS.cL Oe r L G (mC A);replace Ol:=cS.cL Ol r L G (mC A);replace PQ:=cZ.cL PQ r L G (mC A);replace PV:=cZ.cL PV r L G (mC A);clear r G;conv=>whnf
     cases d with
     |false=>
      conv=>whnf
      refine cM (cE Y (pE (.bool true)) (fun O J r=>fw J) ?_);rintro O Ty v11 Tz SR r G Y A rfl;replace Og:=dC.cL Og r L G (mC A);replace Oe:=cS.cL Oe r L G (mC A);replace Ol:=cS.cL Ol r L G (mC A);replace PQ:=cZ.cL PQ r L G (mC A);replace PV:=cZ.cL PV r L G (mC A);clear r G;conv=>whnf
      exact rtn Y fun I8 we re=>rfl
     |true=>
      have Vr:=hd rfl;clear hd;conv=>whnf
      refine cE Y (fun _ J v F=>∃d,v= .bool d/\(d=true->rn (ef (de G8) c.length) b.length (E8.map cU) (gE (c.map cU)))) (fun O J r=>(gk (h:=4) (n:=b.length) (rlo r L) (dC.l (dC.rel Og r L) Wu) (dM.cO (dM.cP Wt.1 ((kS Y r L))) fun g V=>(.inl V:Cv S w.heap.size _ g)) (cS.l (cS.rel Oe r L) Wv) (by rw[il,fe,aJ]) (fun r hr=>by rw[kA r hr,SQ,e2]) hD4 VH bv be (by rw[fe];omega) be).mono fun _ _ ⟨v2,e1,e2,d,e3,e4,_⟩=>⟨v2,e1,e2,d,e3,e4⟩) ?_;rintro O _ _ _ SR r G Y A ⟨d,rfl,hd⟩;replace Og:=dC.cL Og r L G (mC A);replace Oe:=cS.cL Oe r L G (mC A);replace Ol:=cS.cL Ol r L G (mC A);replace PQ:=cZ.cL PQ r L G (mC A);replace PV:=cZ.cL PV r L G (mC A);clear r G;conv=>whnf
      cases d with
      |false=>
       conv=>whnf
       refine cM (cE Y (pE (.bool true)) (fun O J r=>fw J) ?_);rintro O Vp v12 Vq TN r G Y A rfl;replace Og:=dC.cL Og r L G (mC A);replace Oe:=cS.cL Oe r L G (mC A);replace Ol:=cS.cL Ol r L G (mC A);replace PQ:=cZ.cL PQ r L G (mC A);replace PV:=cZ.cL PV r L G (mC A);clear r G;conv=>whnf
       exact rtn Y fun I8 we re=>rfl
      |true=>
       have UQ:=hd rfl;clear hd;conv=>whnf
       have hle:=td WT Vr (by rw[SQ,<-e2];exact UQ);have Ra:X.length=c.length:=by have:=Vr.1;rwa [aJ]at this
       have TD:E8.length=b.length:=by have:=UQ.1;rwa [aJ]at this
       have UP:∀q∈c.map cU,rl q+1<=4:=fun q hq=>by have:=Oz.2.1 q hq;omega
       have Pj:∀q∈b.map cU,rl q+1<=4:=fun q hq=>by have:=Td.2.1 q hq;omega
       refine cE Y (pR cZ (eR (c.map cU) (X.map cU) (c.map cU).length)) (fun O J r=>oh (h:=4) (rlo r L) (dM.cO (dM.cP Oz.1 ((kS Y r L))) fun g V=>(.inl V:Cv S w.heap.size _ g)) (dM.cO (dM.cP Ws.1 ((kS Y r L))) fun g V=>(.inl V:Cv S w.heap.size _ g)) (by rw[aJ,aJ];omega) UP RU bv (by rw[aJ];omega)) ?_;rintro O _ _ _ TN r G Y A hs;replace Og:=dC.cL Og r L G (mC A);replace Oe:=cS.cL Oe r L G (mC A);replace Ol:=cS.cL Ol r L G (mC A);replace PQ:=cZ.cL PQ r L G (mC A);replace PV:=cZ.cL PV r L G (mC A);have QC:=cZ.eX (S:=S) hs r.cR (mN A);clear r G;conv=>whnf
       obtain⟨_,_,_,_,_,_,_,_,rfl⟩:=cZ.shape QC;refine cE Y (pR cZ (eR (E8.map cU) (b.map cU) (E8.map cU).length)) (fun O J r=>oh (h:=4) (rlo r L) (dM.cO (dM.cP Wt.1 ((kS Y r L))) fun g V=>(.inl V:Cv S w.heap.size _ g)) (dM.cO (dM.cP Td.1 ((kS Y r L))) fun g V=>(.inl V:Cv S w.heap.size _ g)) (by rw[aJ,aJ];omega) VH Pj bv (by rw[aJ];omega)) ?_;rintro O _ _ _ Um r G Y A hs;replace Og:=dC.cL Og r L G (mC A);replace Oe:=cS.cL Oe r L G (mC A);replace Ol:=cS.cL Ol r L G (mC A);replace PQ:=cZ.cL PQ r L G (mC A);replace PV:=cZ.cL PV r L G (mC A);replace QC:=cZ.cL QC r L G (mC A);have Q4:=cZ.eX (S:=S) hs r.cR (mN A);clear r G;conv=>whnf
       obtain⟨_,_,_,_,_,_,_,_,rfl⟩:=cZ.shape Q4;rw[show (c.map cU).length=c.length from aJ ..]at QC;have g1:=iq UP RU bv c.length;have g2:=iq VH Pj bv (E8.map cU).length;rw[aJ]at g2;refine cE Y (pE (iV (rs (eR (c.map cU) (X.map cU) c.length-eR (E8.map cU) (b.map cU) (E8.map cU).length)))) (fun O J r=>ud (rlo r L) (cZ.l (cZ.rel QC r L) be) (cZ.l (cZ.rel Q4 r L) (by rw[aJ];omega))) ?_;rintro O _ _ _ Vs r G Y A rfl;replace Og:=dC.cL Og r L G (mC A);replace Oe:=cS.cL Oe r L G (mC A);replace Ol:=cS.cL Ol r L G (mC A);replace PQ:=cZ.cL PQ r L G (mC A);replace PV:=cZ.cL PV r L G (mC A);replace QC:=cZ.cL QC r L G (mC A);replace Q4:=cZ.cL Q4 r L G (mC A);clear r G;conv=>whnf
       refine zF.mk (fun zy=>absurd (om.1 (aI zy)) (Rat.not_lt.2 hle)) (fun _=>?_);conv=>whnf
       refine cM (cE Y (pE (.bool true)) (fun O J r=>fw J) ?_);rintro O _ _ _ Ww r G Y A rfl;replace Og:=dC.cL Og r L G (mC A);replace Oe:=cS.cL Oe r L G (mC A);replace Ol:=cS.cL Ol r L G (mC A);replace PQ:=cZ.cL PQ r L G (mC A);replace PV:=cZ.cL PV r L G (mC A);replace QC:=cZ.cL QC r L G (mC A);replace Q4:=cZ.cL Q4 r L G (mC A);clear r G;conv=>whnf
       exact rtn Y fun I8 we re=>rfl
end Go.Ex
