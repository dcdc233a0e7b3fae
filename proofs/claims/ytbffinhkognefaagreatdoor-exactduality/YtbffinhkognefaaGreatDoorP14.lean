/- Texts X251 to X255: lemmas, each with its conditions. -/
import Derived.Laws.OwnMore
import Derived.Test.YtbffinhkognefaaGreatDoorP13
namespace Go.Ex
open Go Go.Sx Go.Proofs
variable{H:Hp}{iv:Iv}{G8:List (List (Int×Int))}{F':List (List Rat)}{b qs:List Rat}{xs:List Value}{nx:Nat}{S:Nat->Prop}{O:Nat->Sx.dc}{v:Value}{w:World}
theorem fM.later{B B1 e1 n:Nat}{J F:World}(h:fM w FF B1 [(B1,e1)] v n qs)(hB:B<=B1)(hm:(B1,e1)∈iv)(r:Rel H nx iv B w O J)(G:Ext J F):fM F FF B1 [(B1,e1)] v n qs:=
 h.cP fun g V=>by
  rcases V with V|⟨h0,lo,R,hh,W,I⟩
  .exact V.elim
  .rcases bW.1 hh with e;injection e with e1' e2';subst e1' e2';have hc:Cv FF B iv g:=.inr ⟨be,_,_,hm,W,I⟩;rw[G.block g (rlo r (kW B) g hc),rls r (kW B) hc]
theorem tZ.later{B B1 e1 n:Nat}{J F:World}{G8:List (List Rat)}(h:tZ w FF B1 [(B1,e1)] v n G8)(hB:B<=B1)(hm:(B1,e1)∈iv)(r:Rel H nx iv B w O J)(G:Ext J F):tZ F FF B1 [(B1,e1)] v n G8:=
 h.cP fun g V=>by
  rcases V with V|⟨h0,lo,R,hh,W,I⟩
  .exact V.elim
  .rcases bW.1 hh with e;injection e with e1' e2';subst e1' e2';have hc:Cv FF B iv g:=.inr ⟨be,_,_,hm,W,I⟩;rw[G.block g (rlo r (kW B) g hc),rls r (kW B) hc]
theorem eI{B1 e1 g:Nat}(h:Cv FF B1 [(B1,e1)] g):B1<=g/\g<e1:=by
 rcases h with h|⟨h0,lo,R,hh,W,I⟩
 .exact h.elim
 .rcases bW.1 hh with e;injection e with e1' e2';subst e1' e2';exact⟨W,I⟩
section
variable{S:Nat->Prop}{H:Hp}{nx:Nat}{iv:Iv}{B:Nat}{w J F:World}{O:Nat->Sx.dc}{x:Tx}{t:Tb}
theorem cj.M5(hT:cj w S B iv x t)(r:Rel H nx iv B w O J)(L:∀g,S g->g<B):J.ownsRow 0 T.int 1 x.vb t.bs.length (ints t.bs)/\∀g,x.vb.ownBlock=some g->∀id b,dF H id=some b->(O id).nil=false->(O id).g≠g:=by
 refine⟨?_,fun g V=>hT.not r g (Bv.cX.2 (.inr (.inl V)))⟩;obtain⟨tp,cb,cc,ca,hC⟩:=(hT.rel r L).iH;exact hC.ows.own ⟨x.vb,T.int,1,t.bs.length,ints t.bs⟩ (by simp[gL])
theorem cj.KE(hT:cj w S B iv x t)(r:Rel H nx iv B w O J)(L:∀g,S g->g<B):J.ownsRow 0 T.int 1 x.vf t.fs.length (ints t.fs)/\∀g,x.vf.ownBlock=some g->∀id b,dF H id=some b->(O id).nil=false->(O id).g≠g:=by
 refine⟨?_,fun g V=>hT.not r g (Bv.cX.2 (.inr (.inr (.inl V))))⟩;obtain⟨tp,cb,cc,ca,hC⟩:=(hT.rel r L).iH;exact hC.ows.own ⟨x.vf,T.int,1,t.fs.length,ints t.fs⟩ (by simp[gL])
end
theorem fy.Ij{sz k:Nat}(h:fy w S sz v xs k)(Od:0<sz):(∃c,v= .slice none 0 c/\k=0)\/∃ad c,v= .slice (some ad) k c/\∀(j:Nat) u,xs[j]? =some u->S ad.block/\w.cell? (ad.add j)=some u:=by
 obtain⟨_,hl,_,a,c,rfl,_,e3⟩:=h
 cases a with
 |none=>
  have h0:k=0:=by
   rcases bB k with h0|h0
   .exact h0
   .have:=Nat.mul_pos h0 Od;obtain⟨ad2,q1,_⟩:=e3 0 _ (aE (show 0<xs.length by omega))
    cases q1
  subst h0;exact .inl ⟨c,rfl,rfl⟩
 |some ad=>
  refine .inr ⟨ad,c,rfl,fun j u hu=>?_⟩;obtain⟨ad2,q1,q2,q3⟩:=e3 j u hu;injection q1 with q1;subst q1;exact⟨q2,q3⟩
theorem uW(l:List Nat)(n:Nat):ints l++[iV (n:Int)]=ints (l++[n]):=by unfold ints;rw[List.map_append];rfl
def Tb.tu(F':List (List Rat))(b c:List Rat)(i j:Nat):Tb:=⟨(List.range i).map fun k=>c.length+k,List.range j,F',b,c,0⟩
theorem Tb.M6{c:List Rat}{i j:Nat}:{Tb.tu F' b c i j with bs:=(Tb.tu F' b c i j).bs++[c.length+i]}=Tb.tu F' b c (i+1) j:=by
 unfold Tb.tu;rw[bw,List.map_append];rfl
theorem Tb.M7{c:List Rat}{i j:Nat}:{Tb.tu F' b c i j with fs:=(Tb.tu F' b c i j).fs++[j]}=Tb.tu F' b c i (j+1):=by
 unfold Tb.tu;rw[bw]
theorem KF{vm vb vc:Value}{b c:List (Int×Int)}(RR:Old S w)(hm:dK w S vm G8)(N:dB w S vb b)(hc:dB w S vc c)(hfM:∀r∈G8,wm r)(Xb:wm b)(hfc:wm c)(OI:∀r∈G8,r.length=c.length)(hM:G8.length<=1000)(OQ:b.length<=1000)(QM:c.length<=1000):
  eD PG Fd.uz #[.agg #[vm,vb,vc]] w (eL w fun v F=>∃x,v= .pointer (some ⟨x.g,0,none⟩)/\cj F FF w.heap.size [(w.heap.size,F.heap.size)] x (Tb.begin (de G8) (b.map cU) (c.map cU))/\∀g,Bv x.cX g->w.heap.size<=g):=by
 have L:=RR;have hF:=kW w.heap.size;have Y:=bR w;obtain⟨am,cm,rfl,Rd,TQ⟩:=dD.shape hm;obtain⟨ab,cb,rfl,Pv,S0⟩:=dU.shape N;obtain⟨ac,cc,rfl,Uc,RL⟩:=dU.shape hc;refine yC ce ?_;refine dP [.x 0,.x 1,.x 3,.x 4,.x 6,.x 7,.x 2,.x 5,.x 8,.x 9,.x 10,.x 11,.x 12] ?_;refine cN (I9:=fun _ J v F=>tZ F FF J.heap.size [(J.heap.size,F.heap.size)] v c.length (de G8)) (fun O J r=>DC (oS L r) (dK.cP hm ((kS Y r L))) hfM OI be be) ?_;rintro O On va Oi r G hbl1 Xc;replace Y:=Y.tr hbl1;have s1:=r.cR;have t1:=G.size;clear r G hbl1;refine cN (I9:=fun _ J v F=>fM F FF J.heap.size [(J.heap.size,F.heap.size)] v b.length (b.map cU)) (fun O J r=>yW (oS L r) (dB.cP N ((kS Y r L))) Xb be) ?_;rintro O Pc vB PK r G Vh Vi;replace Y:=Y.tr Vh;have s2:=r.size;have t2:=G.size;replace Xc:=Xc.later s1 ce r G;clear r G Vh;refine cN (I9:=fun _ J v F=>fM F FF J.heap.size [(J.heap.size,F.heap.size)] v c.length (c.map cU)) (fun O J r=>yW (oS L r) (dB.cP hc ((kS Y r L))) hfc be) ?_;rintro O PT vC PX r G hbl3 Wn;replace Y:=Y.tr hbl3;have s3:=r.size;have t3:=G.size;replace Xc:=Xc.later s1 ce r G;replace Vi:=Vi.later be ce r G;clear r G hbl3;refine cN (I9:=fun _ J v F=>cY F (Nf J F) v ((0:Int):Rat)) (fun O J r=>iD 0 J bv bv) ?_;rintro O QX vT QA r G hbl4 hTx;replace Y:=Y.tr hbl4;have s4:=r.size;have t4:=G.size;replace Xc:=Xc.later s1 ce r G;replace Vi:=Vi.later be ce r G;replace Wn:=Wn.later be ce r G;clear r G hbl4;obtain⟨rv,hMW,R7⟩:=Xc.ex;obtain⟨aA,cA,rfl,-⟩:=eK hMW.out;obtain⟨aB,cB,rfl,-⟩:=Vi.row.form;obtain⟨aC,cC,rfl,-⟩:=Wn.row.form;obtain⟨k1,k2,k3,k4,k5,k6,k7,k8,rfl⟩:=hTx.shape;rw[show ((0:Int):Rat)=0 by decide]at hTx;obtain⟨F',hA⟩:∃F',F'=de G8:=⟨_,rfl⟩
 obtain⟨bb,OX⟩:∃x,x=b.map cU:=⟨_,rfl⟩
 obtain⟨cc',hcc'⟩:∃x,x=c.map cU:=⟨_,rfl⟩
 rw[<-hA]at hMW;rw[<-OX]at Vi;rw[<-hcc']at Wn;have SQ:F'.length=G8.length:=by rw[hA];simp[de]
 have hbbl:bb.length=b.length:=by rw[OX];simp
 have hccl:cc'.length=c.length:=by rw[hcc'];simp
 have hAw:pf c.length F':=fun r hr=>by
  rw[hA]at hr;obtain⟨r0,h0,rfl⟩:=bD.1 hr;rw[aJ];exact OI r0 h0
 refine⟨Nat×Tx×World×Iv,fun z=>⟨[(4,.o (.v (.pointer (some ⟨z.2.1.g,0,none⟩)))),(3,.o (.v (iV (c.length:Int)))),(24,.o (.v (iV (G8.length:Int)))),(25,.o (.v (iV (z.1:Int))))],[],2,z.2.2.2,z.2.2.1⟩,fun z=>G8.length-z.1,fun z=>z.1<=G8.length/\Bq w z.2.2.1/\cj z.2.2.1 FF w.heap.size z.2.2.2 z.2.1 (Tb.tu F' bb cc' z.1 0)/\∀g,Bv z.2.1.cX g->w.heap.size<=g,?_,?_⟩
 .intro O J r;have OW:=r.nn 1 _ rfl (by intros;simp) ce;have hbox:=r.box 1 _ _ rfl;have p1:=r.ix _ _ (show (On.heap.size,Oi.heap.size)∈[(QX.heap.size,QA.heap.size),(PT.heap.size,PX.heap.size),(Pc.heap.size,PK.heap.size),(On.heap.size,Oi.heap.size)] by simp) 1 _ rfl OW;have p2:=r.ix _ _ (show (Pc.heap.size,PK.heap.size)∈[(QX.heap.size,QA.heap.size),(PT.heap.size,PX.heap.size),(Pc.heap.size,PK.heap.size),(On.heap.size,Oi.heap.size)] by simp) 1 _ rfl OW;have p3:=r.ix _ _ (show (PT.heap.size,PX.heap.size)∈[(QX.heap.size,QA.heap.size),(PT.heap.size,PX.heap.size),(Pc.heap.size,PK.heap.size),(On.heap.size,Oi.heap.size)] by simp) 1 _ rfl OW;have p4:=r.ix _ _ (show (QX.heap.size,QA.heap.size)∈[(QX.heap.size,QA.heap.size),(PT.heap.size,PX.heap.size),(Pc.heap.size,PK.heap.size),(On.heap.size,Oi.heap.size)] by simp) 1 _ rfl OW;have ON:=r.low 1 _ rfl OW;obtain⟨C8,hL⟩:∃C8,C8=[(QX.heap.size,QA.heap.size),(PT.heap.size,PX.heap.size),(Pc.heap.size,PK.heap.size),(On.heap.size,Oi.heap.size)]:=⟨_,rfl⟩
  have OM:∀B1 e1 g,(B1,e1)∈C8->w.heap.size<=B1->B1<=g->g<e1->J.heap[g]? =QA.heap[g]? :=fun B1 e1 g hm W I h3=>rls r hF (.inr ⟨be,B1,e1,by rw[<-hL];exact hm,I,h3⟩);have m1:(On.heap.size,Oi.heap.size)∈C8:=by rw[hL];simp
  have m2:(Pc.heap.size,PK.heap.size)∈C8:=by rw[hL];simp
  have m3:(PT.heap.size,PX.heap.size)∈C8:=by rw[hL];simp
  have m4:(QX.heap.size,QA.heap.size)∈C8:=by rw[hL];simp
  have RK:gA J (fun g=>Cf Pc [(Pc.heap.size,PK.heap.size)] g/\(Value.slice aB b.length cB).ownBlock≠some g) (.slice aB b.length cB) bb.length bb:=by
   rw[hbbl];refine Vi.row.cP fun g V=>?_;have:Cf Pc [(Pc.heap.size,PK.heap.size)] g:=V.elim (fun h=>h.1) fun h=>Vi.new g h;have:=eI this;exact OM _ _ g m2 be this.1 this.2
  have hc1:gA J (fun g=>Cf PT [(PT.heap.size,PX.heap.size)] g/\(Value.slice aC c.length cC).ownBlock≠some g) (.slice aC c.length cC) cc'.length cc':=by
   rw[hccl];refine Wn.row.cP fun g V=>?_;have:Cf PT [(PT.heap.size,PX.heap.size)] g:=V.elim (fun h=>h.1) fun h=>Wn.new g h;have:=eI this;exact OM _ _ g m3 be this.1 this.2
  have hW:=ed.begin (w:=J) (n:=c.length) (B1:=On.heap.size) (e1:=Oi.heap.size) (B2:=Pc.heap.size) (e2:=PK.heap.size) (B3:=PT.heap.size) (e3:=PX.heap.size) (B4:=QX.heap.size) (e4:=QA.heap.size) (g0:=(O 1).g)
   (hMW.cP fun g V=>by
    have:Cf On [(On.heap.size,Oi.heap.size)] g:=V.elim (fun h=>h.1) fun h=>R7 g h;have:=eI this
    exact OM _ _ g m1 be this.1 this.2) hAw (fun g V=>eI (R7 g V)) (fun g V=>⟨(eI V.1).1,(eI V.1).2,V.2⟩)
   (b:=bb) RK (fun g V=>eI (Vi.new g V)) (fun g V=>⟨(eI V.1).1,(eI V.1).2,V.2⟩)
   (c:=cc') hc1 (fun g V=>eI (Wn.new g V)) (fun g V=>⟨(eI V.1).1,(eI V.1).2,V.2⟩)
   rfl (hTx.cP fun g V=>by
    rcases V with V|V
    .exact V.elim
    .exact OM _ _ g m4 be V.1 V.2) (fun g V=>V.elim (fun h=>h.elim) id) s2 s3 t1 t2 t3 s4 t4 p1 p2 p3 p4 hbox
  have Th:∀g,(On.heap.size<=g/\g<Oi.heap.size)\/(Pc.heap.size<=g/\g<PK.heap.size)\/(PT.heap.size<=g/\g<PX.heap.size)\/(QX.heap.size<=g/\g<QA.heap.size)->Cf w C8 g:=fun g V=>by
   rcases V with h|h|h|h
   .exact .inr ⟨be,_,_,m1,h.1,h.2⟩
   .exact .inr ⟨be,_,_,m2,h.1,h.2⟩
   .exact .inr ⟨be,_,_,m3,h.1,h.2⟩
   .exact .inr ⟨be,_,_,m4,h.1,h.2⟩
  have PS:∀g,Bv (Tx.cX ⟨(O 1).g,nls,nls,.slice aA rv.length cA,.slice aB b.length cB,.slice aC c.length cC,rv⟩) g->g=(O 1).g\/Cf w C8 g:=fun g V=>by
   rw[Bv.cX]at V;rcases V with h|h|h|h|h|h|h
   .exact .inl h.symm
   .cases h
   .cases h
   .exact .inr (Th g (.inl (eI (R7 g (.inl h)))))
   .exact .inr (Th g (.inr (.inl (eI (Vi.new g h)))))
   .exact .inr (Th g (.inr (.inr (.inl (eI (Wn.new g h))))))
   .obtain⟨v,W,I⟩:=h;exact .inr (Th g (.inl (eI (R7 g (.inr ⟨v,W,I⟩)))))
  rw[<-hL]at r;refine⟨(0,⟨(O 1).g,nls,nls,.slice aA rv.length cA,.slice aB b.length cB,.slice aC c.length cC,rv⟩,J,((O 1).g,(O 1).g+1)::C8),⟨bA _,Y.tr r.cV,⟨hW.cO (fun g V=>⟨(Th g V.1).mono fun p hp=>aD _ hp,V.2⟩) fun g N U=>U.2 N,fun g V=>?_⟩,fun g V=>?_⟩,Sub.MW r (id:=1) (t:=4) rfl rfl OW trivial rfl ⟨rfl,rfl,rfl,trivial⟩ (by simp[ka,SV.sc,At.sc])⟩
  .rcases PS g V with h|h
   .exact .inr ⟨be,_,_,aF,be,be⟩
   .exact D3 (h.mono fun p hp=>aD _ hp)
  .rcases PS g V with h|h
   .omega
   .rcases h with h|h
    .exact h.elim
    .exact h.1
 clear Xc Vi Wn hTx hMW R7 Y s1 s2 s3 s4 t1 t2 t3 t4;rintro⟨i,x,w1,iv⟩ ⟨R,Y,hT,E⟩;dsimp only at R Y hT E ⊢;apply bS<;>intro OJ
 .have OJ:=dL OJ;have hbsl:(Tb.tu F' bb cc' i 0).bs.length=i:=by simp[Tb.tu]
  refine⟨x.vb,fun O J r=>hT.f0 hF rfl r,((c.length+i:Nat):Int),wo,?_⟩
  refine .inr (gp hτ (bA _) (xs:=ints ((Tb.tu F' bb cc' i 0).bs)) (news:=[iV ((c.length+i:Nat):Int)]) (m:=((Tb.tu F' bb cc' i 0).bs).length) (k:=1) d5 d5 bv d5 d5 (fun O J r=>hT.M5 r hF) rfl (by simp;rfl) mx be
   (fun O J r=>?_) (fun v' F=>e8 v'++iv) (fun O J v' F r Od Qu=>tY r (hT.M5 r hF).2 Od Qu) (fun O J v' F r h5 h6 h7=>?_))
  .exact(fy.Ij (r.kh (id:=2) (sz:=1) (n:=1) rfl rfl bv (by simp;rfl)) bv).imp id fun⟨ad,c,e1,e2⟩=>⟨ad,c,e1,fun j u hu=>(e2 j u hu).2⟩
  obtain⟨a2,c2,rfl,-⟩:=eK h5;rw[uW]at h5;have hG:=hT.M0 r hF (l:=(Tb.tu F' bb cc' i 0).bs++[c.length+i]) (by rw[aU];exact h5) h6 h7;rw[<-hccl,Tb.M6]at hG;have Q3:=(Y.tr r.cV).tr (hG.kept.toBel E r.cR);have Pe:∀g,Bv (Tx.cX {x with vb:=.slice a2 ((Tb.tu F' bb cc' i 0).bs.length+1) c2}) g->w.heap.size<=g:=fun g V=>(hG.AI g V).elim (E g) fun h=>aP r.cR h;have hP:=hG.iH;clear hG h5 h6 h7 r hT Y E;conv=>whnf
  intro IR w3 r3;have hs:=hP.BY r3 hF (k:=0) bv (v:=.slice a2 ((Tb.tu F' bb cc' i 0).bs.length+1) c2) (ad:=Addr.add ⟨x.g,0,none⟩ 0) (by rw[cd,aR]);refine⟨hs.spot,hs.cells,hs.own,fun w4 OZ=>?_⟩;obtain⟨Qb,Ot,-⟩:=hs.next w4 OZ
  have hT:=Qb.toO rfl rfl;have Y:=(Q3.tr r3.cV).tr (Ot.toBel Pe r3.cR);clear hs Qb Ot OZ r3 hP Q3;refine inc i ?_;intro In w5 r5;exact⟨(i+1,{x with vb:=.slice a2 ((Tb.tu F' bb cc' i 0).bs.length+1) c2},w5,_),⟨OJ,Y.tr r5.cV,hT.rel r5 hF,Pe⟩,sbgn [] r5,dec OJ⟩
 have OJ:=dE R OJ;subst OJ;refine⟨Nat×Tx×World×Iv,fun z=>⟨[(4,.o (.v (.pointer (some ⟨z.2.1.g,0,none⟩)))),(41,.o (.v (iV (c.length:Int)))),(42,.o (.v (iV (z.1:Int))))],[],2,z.2.2.2,z.2.2.1⟩,fun z=>c.length-z.1,fun z=>z.1<=c.length/\Bq w z.2.2.1/\cj z.2.2.1 FF w.heap.size z.2.2.2 z.2.1 (Tb.tu F' bb cc' G8.length z.1)/\∀g,Bv z.2.1.cX g->w.heap.size<=g,?_,?_⟩
 .intro O J r;exact⟨(0,x,J,_),⟨bA _,Y.tr r.cV,hT.rel r hF,E⟩,sbgn [] r⟩
 clear hT Y E;rintro⟨i,x,w1,iv⟩ ⟨R,Y,hT,E⟩;dsimp only at R Y hT E ⊢;apply bS<;>intro OJ
 .have OJ:=dL OJ;have hbsl:(Tb.tu F' bb cc' G8.length i).fs.length=i:=by simp[Tb.tu]
  refine⟨x.vf,fun O J r=>hT.f1 hF rfl r,?_⟩
  refine .inr (gp hτ (bA _) (xs:=ints ((Tb.tu F' bb cc' G8.length i).fs)) (news:=[iV ((i:Nat):Int)]) (m:=((Tb.tu F' bb cc' G8.length i).fs).length) (k:=1) d5 d5 bv d5 d5 (fun O J r=>hT.KE r hF) rfl (by simp;rfl) mx be
   (fun O J r=>?_) (fun v' F=>e8 v'++iv) (fun O J v' F r Od Qu=>tY r (hT.KE r hF).2 Od Qu) (fun O J v' F r h5 h6 h7=>?_))
  .exact(fy.Ij (r.kh (id:=2) (sz:=1) (n:=1) rfl rfl bv (by simp;rfl)) bv).imp id fun⟨ad,c,e1,e2⟩=>⟨ad,c,e1,fun j u hu=>(e2 j u hu).2⟩
  obtain⟨a2,c2,rfl,-⟩:=eK h5;rw[uW]at h5;have hG:=hT.Kk r hF (l:=(Tb.tu F' bb cc' G8.length i).fs++[i]) (by rw[aU];exact h5) h6 h7;rw[Tb.M7]at hG;have Q3:=(Y.tr r.cV).tr (hG.kept.toBel E r.cR);have Pe:∀g,Bv (Tx.cX {x with vf:=.slice a2 ((Tb.tu F' bb cc' G8.length i).fs.length+1) c2}) g->w.heap.size<=g:=fun g V=>(hG.AI g V).elim (E g) fun h=>aP r.cR h;have hP:=hG.iH;clear hG h5 h6 h7 r hT Y E;conv=>whnf
  intro IR w3 r3;have hs:=hP.BY r3 hF (k:=1) bv (v:=.slice a2 ((Tb.tu F' bb cc' G8.length i).fs.length+1) c2) (ad:=Addr.add ⟨x.g,0,none⟩ 1) (by rw[cd,aR]);refine⟨hs.spot,hs.cells,hs.own,fun w4 OZ=>?_⟩;obtain⟨Qb,Ot,-⟩:=hs.next w4 OZ
  have hT:=Qb.toO rfl rfl;have Y:=(Q3.tr r3.cV).tr (Ot.toBel Pe r3.cR);clear hs Qb Ot OZ r3 hP Q3;refine inc i ?_;intro In w5 r5;exact⟨(i+1,{x with vf:=.slice a2 ((Tb.tu F' bb cc' G8.length i).fs.length+1) c2},w5,_),⟨OJ,Y.tr r5.cV,hT.rel r5 hF,Pe⟩,sbgn [] r5,dec OJ⟩
 have OJ:=dE R OJ;subst OJ;intro I8 we re;refine⟨_,rfl,Y.tr re.cV,x,rfl,⟨?_,fun g V=>?_⟩,E⟩
 .have e:Tb.tu F' bb cc' G8.length c.length=Tb.begin F' bb cc':=by unfold Tb.tu Tb.begin;rw[SQ,hccl]
  rw[e,hA,OX,hcc']at hT;refine(hT.rel re hF).iH.cO (fun g V=>⟨.inr ?_,V.2⟩) fun g N U=>U.2 N;have:=rlo re hF g V.1;rcases V.1 with h|h
  .exact h.elim
  .exact⟨h.1,_,_,aF,h.1,this⟩
 .exact .inr ⟨E g V,_,_,aF,E g V,hT.low re V⟩
end Go.Ex
namespace Go.Ex
def Tb.kp(t:Tb)(n:Nat)(c:List Rat)(i:Nat):List Rat:=t.fs.mapIdx fun j v=>if j<i/\v<n then c.getD v 0 else 0
section
variable{t:Tb}{n i:Nat}{c:List Rat}
theorem BE:(t.kp n c i).length=t.fs.length:=List.length_mapIdx
theorem EI:t.kp n c 0=eF t.fs.length:=by
 apply aj;intro k;unfold Tb.kp eF;rw[List.getElem?_mapIdx,List.getElem?_replicate];by_cases h:k<t.fs.length
 .rw[aE h,aM h,bO,aK (fun h=>Nat.not_lt_zero _ h.1)]
 .rw[List.getElem?_eq_none be,aK h];rfl
theorem Gi:t.kp n c t.fs.length=t.iE n c 0:=by
 apply aj;intro k;unfold Tb.kp Tb.iE;rw[List.getElem?_mapIdx,aS];by_cases h:k<t.fs.length
 .rw[aE h,bO,bO];by_cases I:t.fs[k]<n
  .rw[aM ⟨h,I⟩,aM I]
  .rw[aK fun h=>I h.2,aK I]
 .rw[List.getElem?_eq_none be];rfl
theorem II(h:i<t.fs.length)(hv:t.fs.getD i 0<n):t.kp n c (i+1)=(t.kp n c i).set i (c.getD (t.fs.getD i 0) 0):=by
 apply aj;intro k;rw[List.getElem?_set];unfold Tb.kp;rw[List.getElem?_mapIdx,List.getElem?_mapIdx];by_cases e:i=k
 .subst e;rw[aM rfl,List.length_mapIdx,aM h,aE h,bO];have:t.fs.getD i 0=t.fs[i]:=by rw[List.getD,aE h];rfl
  rw[this]at hv ⊢;rw[aM ⟨cI i,hv⟩]
 .rw[aK e];congr 1
  funext v
  by_cases W:k<i/\v<n
  .rw[aM W,aM ⟨be,W.2⟩]
  .rw[aK W,aK fun I=>W ⟨be,I.2⟩]
theorem Gj(h:i<t.fs.length)(hv:¬t.fs.getD i 0<n):t.kp n c (i+1)=t.kp n c i:=by
 apply aj;intro k;unfold Tb.kp;rw[List.getElem?_mapIdx,List.getElem?_mapIdx];by_cases e:i=k
 .subst e;rw[aE h,bO,bO];have:t.fs.getD i 0=t.fs[i]:=by rw[List.getD,aE h];rfl
  rw[this]at hv;rw[aK fun h=>hv h.2,aK fun h=>hv h.2]
 .congr 1
  funext v
  by_cases W:k<i/\v<n
  .rw[aM W,aM ⟨be,W.2⟩]
  .rw[aK W,aK fun I=>W ⟨be,I.2⟩]
theorem IJ{x y:List Rat}{k q:Rat}(h:q∈pF x k y):∃p,p∈x/\∃j,q=p+k*y.getD j 0:=by
 obtain⟨j,hj⟩:=aY h;unfold pF at hj;rw[List.getElem?_mapIdx]at hj
 cases e:x[j]? with
 |none=>rw[e]at hj;cases hj
 |some p=>
  rw[e]at hj;injection hj with hj;exact⟨p,aG e,j,hj.symm⟩
theorem xg{h:Nat}(H:Ht t.a h)(hc:∀q∈c,rl q+1<=h)(I:2<=h):∀i,∀q∈t.iE n c i,rl q<=2*h*(i+1)
 |0,q,hq=>by
  unfold Tb.iE at hq;obtain⟨v,-,rfl⟩:=bD.1 hq;split
  .have:=qB (i:=v) hc I;omega
  .rw[show rl 0=1 by decide];omega
 |i+1,q,hq=>by
  rw[Tb.iE]at hq;have h3:2*h*(i+1+1)=2*h*(i+1)+2*h:=by rw[bN,bC]
  split at hq
  .obtain⟨p,hp,j,rfl⟩:=IJ hq;have h4:=xg H hc I i p hp;have h5:=Aq p (-(c.getD (t.bs.getD i 0) 0)*(t.a.getD i []).getD j 0);have h6:=jv (-(c.getD (t.bs.getD i 0) 0)) ((t.a.getD i []).getD j 0);rw[jM]at h6;have h7:=qB (i:=t.bs.getD i 0) hc I;have h8:rl ((t.a.getD i []).getD j 0)+1<=h:=by
    refine qB (fun q hq=>?_) I;by_cases hr:i<t.a.length
    .exact H _ (sq hr) q hq
    .rw[List.getD,List.getElem?_eq_none be]at hq;cases hq
   omega
  .have h4:=xg H hc I i q hq;omega
theorem Cj{h:Nat}(N:∀q∈t.b,rl q+1<=h)(hc:∀q∈c,rl q+1<=h)(I:2<=h):∀i,rl (t.j5 n c i)<=2*h*(i+1)
 |0=>by rw[Tb.j5,show rl 0=1 by decide];omega
 |i+1=>by
  have h3:2*h*(i+1+1)=2*h*(i+1)+2*h:=by rw[bN,bC]
  have h4:=Cj N hc I i;rw[Tb.j5];split
  .have h5:=Aq (t.j5 n c i) (c.getD (t.bs.getD i 0) 0*t.b.getD i 0);have h6:=jv (c.getD (t.bs.getD i 0) 0) (t.b.getD i 0);have h7:=qB (i:=t.bs.getD i 0) hc I;have h8:=qB (i:=i) N I;omega
  .omega
end
end Go.Ex
namespace Go.Ex
open Go Go.Sx Go.Proofs
variable{ops:Array Oper}{ps:List Nat}{q xs:List Rat}{n:Nat}{p:Nat->Bool}{S:Nat->Prop}{v:Value}{w:World}
theorem yX{P:Program}{τ:lO}{B:Nat}{l:Env}{H:Hp}{nx:Nat}{iv:Iv}{Fn:KT}(E9:KT)(W:∀K0:KT,(∀l H nx iv w,E9 l H nx iv w->K0 l H nx iv w)->uj P τ B ops.toList ops.toList l H nx iv w K0)(I:∀l H nx iv w,E9 l H nx iv w->Fn l H nx iv w):
  uj P τ B ops.toList ops.toList l H nx iv w Fn:=W Fn I
section
variable{S:Nat->Prop}{H:Hp}{nx:Nat}{iv:Iv}{B:Nat}{w J F:World}{O:Nat->Sx.dc}{x:Tx}{t:Tb}{v:Value}
theorem cj.NT(hT:cj w S B iv x t)(r:Rel H nx iv B w O J)(L:∀g,S g->g<B)(G:Ext J F)(hX:fM F FF J.heap.size [(J.heap.size,F.heap.size)] v q.length q):
  rk F S B ((J.heap.size,F.heap.size)::iv) x.hd x.rv {x with vc:=v} {t with c:=q}/\(∀g,Lv S B iv x g->F.heap[g]? =w.heap[g]? /\Lv S B ((J.heap.size,F.heap.size)::iv) {x with vc:=v} g)/\∀g,Bv (Tx.cX {x with vc:=v}) g->Bv x.cX g\/J.heap.size<=g:=by
 have hold:=Lv.old (x:=x) r L;have Sl:∀g,v.ownBlock=some g->J.heap.size<=g/\g<F.heap.size:=fun g V=>eI (hX.new g V);have E:∀g,Bv (Tx.cX {x with vc:=v}) g->v.ownBlock=some g\/Bv x.cX g:=fun g h=>by
  rw[Bv.cX]at h ⊢;simp only at h;rcases h with h|h|h|h|h|h|h<;>simp[h]
 have hL:∀g,Lv S B iv x g->Lv S B ((J.heap.size,F.heap.size)::iv) {x with vc:=v} g:=fun g V=>⟨V.1.mono fun _ hp=>aD _ hp,fun N=>by
  rcases E g N with h|h
  .have:=Sl g h;have:=hold g V;omega
  .exact V.2 h⟩
 have hR:gA F (Lv S B ((J.heap.size,F.heap.size)::iv) {x with vc:=v}) v q.length q:=hX.row.cO fun g V=>by
  have W:=eI V.1;refine⟨.inr ⟨by have:=r.cR;omega,_,_,aF,W.1,W.2⟩,fun N=>?_⟩;rcases E g N with h|h
  .exact V.2 h
  .have:=hT.low r h;omega
 refine⟨⟨(hT.rel r L).iH.toJ.MY (fun g V _=>G.block g V) hR (fun g V=>.inr (Sl g V).1) hold hL fun g N hl=>hl.2 N,fun g V=>?_⟩,fun g V=>⟨(G.block g (hold g V)).trans (Lv.same r L g V),hL g V⟩,fun g V=>(E g V).elim (fun h=>.inr (Sl g h).1) .inl⟩;rcases E g V with h|h
 .have:=Sl g h;exact .inr ⟨by have:=r.cR;omega,_,_,aF,this.1,this.2⟩
 .exact(hT.kL g h).mono fun _ hp=>aD _ hp
theorem cj.LY{w0:World}{x0:Tx}{t0:Tb}(h:cj w S w0.heap.size iv x t)(h0:ed w0 S x0 t0)(E:∀g,Bv x.cX g->Bv x0.cX g\/w0.heap.size<=g)(r:Rel H nx iv w0.heap.size w O J)(L:Old S w0):ed J (fun g=>Nw S w0 J g/\¬Bv x.cX g) x t:=
 (h.rel r L).iH.cO (fun _ V=>⟨V.nw r,V.2⟩) fun g N U=>U.2 N
end
theorem Gs{x:Tx}{t:Tb}{m q h:Nat}{vc0:Value}{c:List Rat}(RR:Old S w)(PM:ed w S x t)(hW:t.Wf m q)(hC:dm w S S vc0 c)(U:c.length=n)(hm:m<=1000)(hq:q<=1000)(Ss:n<=1000)(hH:t.uI h)(hc:∀q∈c,rl q+1<=h)(I:2<=h)(hh:h<=100000):
  eD PG Fd.ky #[.pointer (some ⟨x.g,0,none⟩),iV n,vc0] w (fun e F=>e= .returned (.tuple #[])/\∃x',x'.g=x.g/\Kept w F (Bv x.cX)/\ed F (fun g=>Nw S w F g/\¬Bv x'.cX g) x' (t.rest n c)/\∀g,Bv x'.cX g->Bv x.cX g\/w.heap.size<=g):=by
 have L:=RR;have Z:Kept w w (Bv x.cX):=Kept.refl;have SB:=hW.al;have OQ:=hW.b;have Pt:=hW.fs;have Sv:=hW.bs;obtain⟨ab,cb,Tt,Pv,-,Rj⟩:=PM.Mu hW;obtain⟨af,cf,UN,hcf,-,haf⟩:=PM.KD hW;obtain⟨aa,ca,Rb,PB,-,XZ⟩:=PM.Mv hW;obtain⟨aB,cB,TH,hcB,-,Xa⟩:=PM.Mw hW;have hR:∀i,i<m->∃a c,x.rv[i]? =some (.slice a q c)/\q<=c/\c<=maxLen/\(0<q->∃g,a=some ⟨g,0,none⟩):=fun i R=>PM.NR hW R;have hT:=cj.arg PM;obtain⟨acc,ccc,rfl,hccc,-⟩:=hC.shape;rw[U]at hccc hC;rw[U];refine oY ce ?_;refine yX (fun l H nx iv w1=>∃a1 a2 a3 a4:SV,l=(13,a1)::(12,a2)::(11,a3)::(10,a4)::gW 0 #[.pointer (some ⟨x.g,0,none⟩),iV (n:Int),.slice acc n ccc].toList/\H=[]/\nx=0/\Kept w w1 (Bv x.cX)/\cj w1 S w.heap.size iv x ⟨t.bs,t.fs,t.a,t.b,t.c,0⟩) ?_ ?_
 .intro K0 QK;refine cM (cN (I9:=fun _ J v F=>cY F (Nf J F) v ((0:Int):Rat)) (fun O J r=>iD 0 J bv bv) ?_);rintro O On v1 Oi r G N U;have hO:=U.s5 hT r;replace hT:=hT.cL (K:=(On.heap.size,Oi.heap.size)::[]) r L G fun x E=>aD _ E;replace Z:=Kept.cV N Z lr;clear r G N U;generalize (On.heap.size,Oi.heap.size)::[]=OS at*
  obtain⟨o1,o2,o3,o4,o5,o6,o7,o8,rfl⟩:=hO.shape;rw[show ((0:Int):Rat)=0 by decide]at hO;intro O J r;obtain⟨k1,k2,k3,k4⟩:=hT.NP L r (ad:=Addr.add ⟨x.g,0,none⟩ 5) hO.four (by rw[cd,aR]);refine⟨k1,k2,k3,fun w4 OZ=>?_⟩;obtain⟨Qq,Ot,QO⟩:=k4 w4 OZ;replace hO:=hO.cP QO;replace Z:=(Kept.cV r.cV Z lr).trans Ot;clear k1 k2 k3 k4 QO Ot OZ r;clear hT;have hT:=Qq;clear Qq;exact QK _ _ _ _ _ ⟨_,_,_,_,rfl,rfl,rfl,Z,hT⟩
 clear hT Z;rintro l H nx iv w1 ⟨a1,a2,a3,a4,rfl,rfl,rfl,Z,hT⟩;refine yX (fun l H nx iv w1=>∃(b0 b1 b2 b3 b4 b5 b6 b7 b8:SV) (ac:Option Addr) (cc:Nat) (y:Tx),l=(22,b0)::(21,b1)::(20,b2)::(19,b3)::(18,b4)::(17,b5)::(16,b6)::(15,b7)::(14,b8)::(13,a1)::(12,a2)::(11,a3)::(10,a4)::gW 0 #[.pointer (some ⟨y.g,0,none⟩),iV (n:Int),.slice acc n ccc].toList/\H=[]/\nx=0/\y={x with vc:=.slice ac q cc}/\Kept w w1 (Bv x.cX)/\cj w1 S w.heap.size iv y ⟨t.bs,t.fs,t.a,t.b,List.replicate q 0,0⟩/\∀g,Bv y.cX g->Bv x.cX g\/w.heap.size<=g) ?_ ?_
 .intro K0 QK;refine⟨_,fun O J r=>hT.f1 L UN r,?_⟩;refine cM (cN (I9:=fun _ J v F=>fM F FF J.heap.size [(J.heap.size,F.heap.size)] v q (List.replicate q 0)) (fun O J r=>mi q J be) ?_);rintro O wa v1 wb r G N hX;obtain⟨hP,-,OT⟩:=hT.NT (q:=List.replicate q 0) r L G (by rw[bp];exact hX);replace Z:=Kept.cV N Z lr;obtain⟨ac,cc,rfl,Uc⟩:=hX.row.form;have Qx:∀g,Bv (Tx.cX {x with vc:=.slice ac q cc}) g->Bv x.cX g\/w.heap.size<=g:=fun g V=>(OT g V).imp id fun h=>aP r.cR h;clear r G N hX OT hT;generalize (wa.heap.size,wb.heap.size)::iv=iv2 at*
  conv=>whnf
  intro IR w3 r3;have hs:=hP.BY r3 L (k:=4) bv (v:=.slice ac q cc) (ad:=Addr.add ⟨x.g,0,none⟩ 4) (by rw[cd,aR]);refine⟨hs.spot,hs.cells,hs.own,fun w4 OZ=>?_⟩;obtain⟨Qb,Ot,-⟩:=hs.next w4 OZ
  have hT:=Qb.toO rfl rfl;replace Z:=Kept.fu (Kept.cV r3.cV Z lr) Ot fun g V N=>(Qx g N).elim id fun h=>by omega
  clear hs Qb Ot OZ r3 hP;exact QK _ _ _ _ _ ⟨_,_,_,_,_,_,_,_,_,ac,cc,{x with vc:=.slice ac q cc},rfl,rfl,rfl,rfl,Z,hT,Qx⟩
 clear hT Z;rintro l H nx iv w1 ⟨b0,b1,b2,b3,b4,b5,b6,b7,b8,ac,cc,y,rfl,rfl,rfl,hy,Z,hT,Qx⟩;have QE:y.g=x.g:=by rw[hy]
 have WM:y.vb= .slice ab m cb:=by rw[hy];exact Tt
 have hyf:y.vf= .slice af q cf:=by rw[hy];exact UN
 have Pz:y.va= .slice aa m ca:=by rw[hy];exact Rb
 have hyB:y.vB= .slice aB m cB:=by rw[hy];exact TH
 have Tv:y.vc= .slice ac q cc:=by rw[hy]
 have VE:y.rv=x.rv:=by rw[hy]
 rw[<-VE]at hR;have XY:0<q->∃g,ac=some ⟨g,0,none⟩:=fun h0=>by
  have hWy:(Tb.mk t.bs t.fs t.a t.b (List.replicate q 0) 0).Wf m q:=⟨Sv,Pt,SB,hW.aw,OQ,bp⟩
  obtain⟨a',c',e,-,-,h5⟩:=(hT.iH.Ly hWy)
  rw[Tv]at e;injection e with e;rw[e];exact h5 h0
 clear hy Tt UN Rb TH;have hLS:∀{iv:Iv} g,S g->Lv S w.heap.size iv y g:=fun g V=>⟨.inl V,fun N=>(Qx g N).elim (fun h=>PM.off h V) fun h=>by have:=L g V;omega⟩
 refine⟨_,fun O J r=>hT.f1 L hyf r,Nat×World×Iv,fun z=>⟨[(0,.o (.v (.pointer (some ⟨y.g,0,none⟩)))),(1,.o (.v (iV (n:Int)))),(2,sV acc n ccc),(26,sV af q cf),(27,.o (.v (iV (q:Int)))),(28,.o (.v (iV (z.1:Int))))],[],0,z.2.2,z.2.1⟩,fun z=>q-z.1,fun z=>z.1<=q/\Kept w z.2.1 (Bv x.cX)/\cj z.2.1 S w.heap.size z.2.2 y ⟨t.bs,t.fs,t.a,t.b,t.kp n c z.1,0⟩,?_,?_⟩
 .intro O J r;exact⟨(0,J,_),⟨bA _,Kept.cV r.cV Z lr,(hT.cast (by rw[EI,Pt];rfl)).rel r L⟩,sbgn [] r⟩
 clear hT Z;rintro⟨i,w1,iv⟩ ⟨R,Z,hT⟩;dsimp only at R Z hT ⊢;apply bS<;>intro OJ
 .have OJ:=dL OJ;obtain⟨gf,rfl⟩:=haf be;obtain⟨gc,rfl⟩:=XY be;refine⟨_,rfl,be,_,fun O J r=>hT.Lx L (i:=i) (by dsimp only;omega) hyf r,?_⟩;obtain⟨u,hu⟩:=exq (t.fs.getD i 0);rw[hu];apply bS<;>intro hc
  .have Qf:u<n:=by simpa using hc
   have hSx:∀g,S g->w1.heap[g]? =w.heap[g]? :=fun g V=>Z.block g (L g V) fun N=>PM.off N V;obtain⟨ad,fcs,rfl,Vj,Px⟩:=hC.load (j:=u) (show c[u]? =some (c.getD u 0) by rw[List.getD,aE be];rfl);obtain⟨p1,p2,p3,p4,p5,p6,p7,p8,rfl,hF0⟩:=Vj;have hG:cY w1 (Lv S w.heap.size iv y) _ _:=(hF0.cP hSx).cO fun g V=>hLS g V;refine dP (idO 11) ?_;refine⟨_,fun O J r=>hT.f4 L Tv r,_,rfl,be,rC p1 p2 p3 p4 p5 p6 p7 p8,rfl,fun O J r j u hu=>?_,?_⟩
   .rw[aN,cg (w:=w) (F:=J) ((Kept.cV r.cV Z lr).block _ (L _ (by rw[eQ,eQ];exact(Px j u hu).1)) fun N=>PM.off N (by rw[eQ,eQ];exact(Px j u hu).1))];exact(Px j u hu).2
   refine⟨_,rfl,be,?_⟩;intro O J r;obtain⟨k1,k2,k3,k4⟩:=hT.No L r (ad:=Addr.add ⟨gc,0,none⟩ (((i:Nat):Int).toNat*4)) (j:=i) (by dsimp only;rw[BE];omega) Tv hG.four (by rw[aN,cd,aR]);refine⟨k1,k2,k3,fun w4 OZ=>?_⟩;obtain⟨Qq,Ot,QO⟩:=k4 w4 OZ;replace Z:=Kept.fu (Kept.cV r.cV Z lr) Ot fun g V N=>(Qx g N).elim id fun h=>by omega
   clear k1 k2 k3 k4 QO Ot OZ r;clear hT;have hT:=Qq;clear Qq;have e:t.kp n c (i+1)=(t.kp n c i).set i (c.getD u 0):=by rw[II be (by rw[hu];exact Qf),hu]
   refine inc i ?_;intro IR w3 r3;exact⟨(i+1,w3,_),⟨OJ,Kept.cV r3.cV Z lr,(hT.cast (by rw[e])).rel r3 L⟩,sbgn [] r3,dec OJ⟩
  have Qf:¬u<n:=by simpa using hc
  have e:t.kp n c (i+1)=t.kp n c i:=Gj be (by rw[hu];exact Qf);refine inc i ?_;intro IR w3 r3;exact⟨(i+1,w3,_),⟨OJ,Kept.cV r3.cV Z lr,(hT.cast (by rw[e])).rel r3 L⟩,sbgn [] r3,dec OJ⟩
 have OJ:=dE R OJ;replace hT:=hT.cast (t':=⟨t.bs,t.fs,t.a,t.b,t.iE n c 0,t.j5 n c 0⟩) (by rw[OJ,<-Pt,Gi];rfl);refine⟨_,fun O J r=>hT.f0 L WM r,Nat×World×Iv,fun z=>⟨[(0,.o (.v (.pointer (some ⟨y.g,0,none⟩)))),(1,.o (.v (iV (n:Int)))),(2,sV acc n ccc),(50,sV ab m cb),(51,.o (.v (iV (m:Int)))),(52,.o (.v (iV (z.1:Int))))],[],0,z.2.2,z.2.1⟩,fun z=>m-z.1,fun z=>z.1<=m/\Kept w z.2.1 (Bv x.cX)/\cj z.2.1 S w.heap.size z.2.2 y ⟨t.bs,t.fs,t.a,t.b,t.iE n c z.1,t.j5 n c z.1⟩,?_,?_⟩
 .intro O J r;exact⟨(0,J,_),⟨bA _,Kept.cV r.cV Z lr,hT.rel r L⟩,sbgn [] r⟩
 clear hT Z;rintro⟨i,w1,iv⟩ ⟨R,Z,hT⟩;dsimp only at R Z hT ⊢;apply bS<;>intro OJ
 .have OJ:=dL OJ;obtain⟨gb,rfl⟩:=Rj be;obtain⟨ga,rfl⟩:=XZ be;obtain⟨gB,rfl⟩:=Xa be;obtain⟨ai,ci,RS,-,-,-⟩:=hR i OJ;refine⟨_,rfl,be,_,fun O J r=>hT.LU L (i:=i) (by dsimp only;omega) WM r,?_⟩;obtain⟨u,hu⟩:=exq (t.bs.getD i 0);rw[hu];apply bS<;>intro Uc
  .have Qf:u<n:=by simpa using Uc
   have hSx:∀g,S g->w1.heap[g]? =w.heap[g]? :=fun g V=>Z.block g (L g V) fun N=>PM.off N V;have r1:=xg (t:=t) (n:=n) hH.a hc I i;have r2:=Cj (t:=t) (n:=n) hH.b hc I i;have r3:=qB (i:=u) hc I;have r4:=qB (i:=i) hH.b I;have r5:2*h*(i+1)<=200000*1000:=Nat.mul_le_mul be be;have r6:=jv (c.getD u 0) (t.b.getD i 0);have OI:∀y∈t.a.getD i [],rl y+1<=h:=hH.Jt i;obtain⟨ad,fcs,rfl,Vj,Px⟩:=hC.load (j:=u) (show c[u]? =some (c.getD u 0) by rw[List.getD,aE be];rfl);obtain⟨p1,p2,p3,p4,p5,p6,p7,p8,rfl,hF0⟩:=Vj;have hG:cY w1 (Lv S w.heap.size iv y) _ _:=(hF0.cP hSx).cO fun g V=>hLS g V;refine dP [.x 0,.x 1,.x 2,.x 3,.x 4,.x 5,.x 6,.x 7,.x 9,.x 10,.x 11,.x 12,.x 13,.x 14,.x 15,.x 8,.x 16] ?_;refine⟨_,fun O J r=>hT.f4 L Tv r,_,rfl,be,rC p1 p2 p3 p4 p5 p6 p7 p8,rfl,fun O J r j u hu=>?_,?_⟩
   .rw[aN,cg (w:=w) (F:=J) ((Kept.cV r.cV Z lr).block _ (L _ (by rw[eQ,eQ];exact(Px j u hu).1)) fun N=>PM.off N (by rw[eQ,eQ];exact(Px j u hu).1))];exact(Px j u hu).2
   refine⟨_,fun O J r=>hT.f2 L Pz r,_,rfl,be,_,fun O J r=>hT.cA L RS Pz r,?_⟩;refine cN (I9:=fun _ J v F=>cY F (Nw (Lv S w.heap.size iv y) J F) v (-(c.getD u 0))) (fun O J r=>kV (Lv.old r L) (hG.fz r L)) ?_;rintro O On v1 Oi r G N U;have hK:=U.LR hT r;replace hG:=hG.jQ (K:=(On.heap.size,Oi.heap.size)::iv) r L G fun x E=>aD _ E;replace hT:=hT.cL (K:=(On.heap.size,Oi.heap.size)::iv) r L G fun x E=>aD _ E;replace Z:=Kept.cV N Z lr;clear r G N U;generalize (On.heap.size,Oi.heap.size)::iv=OS at*
   obtain⟨k1,k2,k3,k4,k5,k6,k7,k8,rfl⟩:=hK.shape;refine⟨fun O J r=>?_⟩;refine(hT.Ig r L (k:=i) Tv (by first|omega|(dsimp only;omega)) RS (by dsimp only;rw[jf,hW.row OJ,Pt]) hK (by dsimp only;intro y hy;have:=r1 y hy;omega) (by dsimp only;intro y hy;have:=OI y hy;omega) (by rw[jM];omega)).mono fun e w8 G=>?_;obtain⟨rfl,PU,PJ⟩:=G;refine⟨.tuple #[],_,(J.heap.size,w8.heap.size)::OS,rfl,r.fU (hT.not r) PU,?_⟩;clear hK;replace hG:=hG.Fi r L PU;replace PJ:=hT.eX r PJ;replace Z:=Kept.fu (Kept.cV r.cV Z lr) PU fun g V N=>(Qx g N).elim id fun h=>by omega
   clear hT PU;have hT:=PJ;clear PJ r;generalize (J.heap.size,w8.heap.size)::OS=iv2 at*
   refine dP (idO 21) ?_;obtain⟨t1,t2,t3,t4,t5,t6,t7,t8,Wm,hY⟩:=hT.Mt L;obtain⟨b1,b2,b3,b4,b5,b6,b7,b8,hEb,hB⟩:=hT.eB L (j:=i) (by first|omega|(dsimp only;omega)) hyB;refine⟨rC t1 t2 t3 t4 t5 t6 t7 t8,rfl,fun O J r j x E=>Wm r j x E,_,rfl,be,rC p1 p2 p3 p4 p5 p6 p7 p8,rfl,fun O J r j u hu=>?_,?_⟩
   .rw[aN,cg (w:=w) (F:=J) ((Kept.cV r.cV Z lr).block _ (L _ (by rw[eQ,eQ];exact(Px j u hu).1)) fun N=>PM.off N (by rw[eQ,eQ];exact(Px j u hu).1))];exact(Px j u hu).2
   refine⟨_,fun O J r=>hT.f3 L hyB r,_,rfl,be,rC b1 b2 b3 b4 b5 b6 b7 b8,rfl,fun O J r j x E=>hEb r j x E,?_⟩;refine cN (I9:=fun _ J v F=>cY F (Nf J F) v (c.getD u 0*t.b.getD i 0)) (fun O J r=>nd (Lv.old r L) (hG.fz r L) (hB.fz r L) be (by first|omega|(dsimp only;omega))) ?_;rintro O PT v3 PX r G N U;have hM:=U.s5 hT r;clear hG;clear hB;replace hY:=hY.jQ (K:=(PT.heap.size,PX.heap.size)::iv2) r L G fun x E=>aD _ E;replace hT:=hT.cL (K:=(PT.heap.size,PX.heap.size)::iv2) r L G fun x E=>aD _ E;replace Z:=Kept.cV N Z lr;clear r G N U;generalize (PT.heap.size,PX.heap.size)::iv2=OR at*
   obtain⟨m1,m2,m3,m4,m5,m6,m7,m8,rfl⟩:=hM.shape;refine cN (I9:=fun _ J v F=>cY F (Nf J F) v (t.j5 n c i+c.getD u 0*t.b.getD i 0)) (fun O J r=>wj (Lv.old r L) (hY.fz r L) (hM.fz r L) (by first|omega|(dsimp only;omega)) be) ?_;rintro O QX v4 QA r G N U;have hN:=U.s5 hT r;clear hY;clear hM;replace hT:=hT.cL (K:=(QX.heap.size,QA.heap.size)::OR) r L G fun x E=>aD _ E;replace Z:=Kept.cV N Z lr;clear r G N U;generalize (QX.heap.size,QA.heap.size)::OR=Ob at*
   obtain⟨n1,n2,n3,n4,n5,n6,n7,n8,rfl⟩:=hN.shape;intro O J r;obtain⟨k1,k2,k3,k4⟩:=hT.NP L r (ad:=Addr.add ⟨y.g,0,none⟩ 5) hN.four (by rw[cd,aR]);refine⟨k1,k2,k3,fun w4 OZ=>?_⟩;obtain⟨Qq,Ot,QO⟩:=k4 w4 OZ;replace hN:=hN.cP QO;replace Z:=Kept.fu (Kept.cV r.cV Z lr) Ot fun g V N=>(Qx g N).elim id fun h=>by omega
   clear k1 k2 k3 k4 QO Ot OZ r;clear hT;have hT:=Qq;clear Qq;have e1:t.iE n c (i+1)=pF (t.iE n c i) (-(c.getD u 0)) (t.a.getD i []):=by rw[Tb.iE,hu,aM Qf]
   have e2:t.j5 n c (i+1)=t.j5 n c i+c.getD u 0*t.b.getD i 0:=by rw[Tb.j5,hu,aM Qf]
   refine inc i ?_;intro IR w3 r3;exact⟨(i+1,w3,_),⟨OJ,Kept.cV r3.cV Z lr,(hT.cast (by rw[e1,e2])).rel r3 L⟩,sbgn [] r3,dec OJ⟩
  have Qf:¬u<n:=by simpa using Uc
  have e1:t.iE n c (i+1)=t.iE n c i:=by rw[Tb.iE,hu,aK Qf]
  have e2:t.j5 n c (i+1)=t.j5 n c i:=by rw[Tb.j5,hu,aK Qf]
  refine inc i ?_;intro IR w3 r3;exact⟨(i+1,w3,_),⟨OJ,Kept.cV r3.cV Z lr,(hT.cast (by rw[e1,e2])).rel r3 L⟩,sbgn [] r3,dec OJ⟩
 have OJ:=dE R OJ;intro O J r;refine⟨rfl,y,QE,Kept.cV r.cV Z lr,?_,Qx⟩;have e:t.rest n c=⟨t.bs,t.fs,t.a,t.b,t.iE n c i,t.j5 n c i⟩:=by unfold Tb.rest;rw[Sv,OJ]
 rw[e];exact hT.LY PM Qx r L
def kj(p:Nat->Bool)(n:Nat):Option Nat:=(List.range n).find? p
theorem uX{i:Nat}(R:i<n)(h:p i=true)(U:∀j,j<i->p j=false):kj p n=some i:=by
 unfold kj;rw[List.find?_range_eq_some];exact⟨h,List.mem_range.2 R,fun j hj=>by rw[U j hj];rfl⟩
theorem uY(U:∀j,j<n->p j=false):kj p n=none:=by
 unfold kj;rw[List.find?_eq_none];intro j hj h;rw[U j (List.mem_range.1 hj)]at h
 cases h
theorem yY{x:Nat}(L:Old S w)(h:fF w S v ps)(hl:ps.length<=1000000):
  eD PG Fd.fm #[v,iV x] w (eL w fun v' _=>v'=iV (pN (kj (fun i=>decide (ps.getD i 0=x)) ps.length))):=by
 obtain⟨h0,W,I,a,c,rfl,hc,OY⟩:=h;refine gj ce ?_
 refine⟨Nat×World,fun z=>⟨[(0,sV a ps.length c),(1,iZ x),(7,iZ ps.length),(8,iZ z.1)],[],0,[],z.2⟩,fun z=>ps.length-z.1,
  fun z=>z.1<=ps.length/\Bq w z.2/\∀j,j<z.1->decide (ps.getD j 0=x)=false,?_,?_⟩
 .intro O J r;exact⟨(0,J),⟨ce,r.cV,ce⟩,sbgn [] r⟩
 rintro⟨i,w1⟩ ⟨R,Y,OL⟩;dsimp only at R Y OL ⊢;apply bS<;>intro h
 .have h:=dL h;obtain⟨y,hy⟩:=gO ps i;have hgy:ps.getD i 0=y:=by rw[List.getD,hy];rfl
  obtain⟨ad,rfl,k1,k2⟩:=OY i (iV (y:Int)) (by rw[aS,hy];rfl);refine⟨ad,rfl,be,iV (y:Int),fun O J r=>by simpa using fY L Y r k1 k2,?_⟩;apply bS<;>intro G
  .have G:x=y:=by have:=eq_of_beq G;omega
   exact rtn Y fun I8 we re=>by rw[uX h (by rw[hgy,G];exact bQ rfl) OL];rfl
  .have G:x≠y:=fun e=>by rw[e]at G;simp at G
   refine inc i ?_;intro IR w3 r3;refine⟨(i+1,w3),⟨h,Y.tr r3.cV,fun j hj=>?_⟩,sbgn [] r3,by dsimp only;omega⟩;by_cases Ov:j=i
   .subst Ov;rw[hgy];exact av (Ne.symm G)
   .exact OL j (by dsimp only at hj;omega)
 .have h:i=ps.length:=by
   have:¬i<ps.length:=by simpa using h
   omega
  exact rtn Y fun I8 we re=>by rw[uY (by rw[<-h];exact OL)];rfl
theorem M8{f:Rat}(L:Old S w)(hf:cY w S v f):
  eD PG Fd.fE #[v] w (eL w fun v' _=>v'= .bool (decide (f≠0))):=by
 have Y:=bR w;obtain⟨b1,a1,n1,c1,b2,a2,n2,c2,rfl⟩:=hf.shape;refine my ce ?_;refine cM (cE Y (pE (iV (rs f))) (fun O J r=>lM (oS L r) (hf.cP (kS Y r L))) ?_);rintro O _ _ _ OS r G Y A rfl;clear r;exact rtn Y fun I8 we re=>by rw[show decide (f≠0)=(rs f != 0)from Bool.eq_iff_iff.2 (by rw[decide_eq_true_eq,bne_iff_ne,ne_eq,ne_eq,KG])];rfl
theorem Gt(L:Old S w)(E:dm w S S v xs):
  eD PG Fd.dz #[v,.func (.func Fd.fE) #[] #[]] w (eL w fun v' _=>v'=iV (pN (kj (fun i=>decide (xs.getD i 0≠0)) xs.length))):=by
 have Y:=bR w;obtain⟨ax,cx,rfl,hcx,VN⟩:=E.shape;unfold maxLen at VN;refine fp ce ?_
 refine⟨Nat×World×Iv,fun z=>⟨[(0,sV ax xs.length cx),(1,.o (.v (.func (.func Fd.fE) #[] #[]))),(7,iZ xs.length),(8,iN z.1)],[],0,z.2.2,z.2.1⟩,fun z=>xs.length-z.1,
  fun z=>z.1<=xs.length/\Bq w z.2.1/\∀j,j<z.1->decide (xs.getD j 0≠0)=false,?_,?_⟩
 .intro O J r;exact⟨(0,J,[]),⟨ce,r.cV,ce⟩,sbgn [] r⟩
 clear Y;rintro⟨i,w1,iv⟩ ⟨R,Y,ht⟩;dsimp only at R Y ht ⊢;apply bS<;>intro OJ
 .have OJ:=dL OJ;obtain⟨x,Pf⟩:=gO xs i;have PC:xs.getD i 0=x:=by rw[List.getD,Pf];rfl
  obtain⟨adx,csx,Wo,Sm,QI⟩:=E.load Pf;obtain⟨p0,p1,p2,p3,p4,p5,p6,p7,rfl,Sm⟩:=Sm;refine⟨adx,Wo,be,rC p0 p1 p2 p3 p4 p5 p6 p7,rfl,rdO QI Y L,?_⟩;refine cM (cE Y (pE (.bool (decide (x≠0)))) (fun O J r=>M8 (oS L r) (Sm.cP (kS Y r L))) ?_);rintro O _ _ _ OS r G Y A rfl;clear r;apply bS<;>intro G
  .exact rtn Y fun I8 we re=>by rw[uX OJ (by rw[PC];exact G) ht];rfl
  refine inc i ?_;intro IR w3 r3;refine⟨(i+1,w3,_),⟨OJ,Y.tr r3.cV,fun j hj=>?_⟩,sbgn [] r3,by dsimp only;omega⟩;by_cases h:j=i
  .subst h;rw[PC];exact G
  .exact ht j (by dsimp only at hj;omega)
 have OJ:=dE R OJ;exact rtn Y fun I8 we re=>by rw[uY (by rw[<-OJ];exact ht)];rfl
end Go.Ex
namespace Go.Sx
open Go
variable{after:Array Edge}{z:Array Value}{ag':Bool}{ik ik':IntKind}{fs fs':List (Nat×Nat)}{ze ze':List Value}{bt:Nat}{guard:Option (Nat×Bool)}{dst:Option Tmp}{Fn:SV->Hp->Nat->Iv->World->Prop}{pos:String}
section
variable{P:Program}{τ:lO}{B n nx:Nat}{l:Env}{H:Hp}{iv:Iv}{w J:World}{O:Nat->dc}{a:Act}
theorem DD(hτ:en P τ){x y:Operand}{t ty e sz by_ k m c g:Nat}{ag:Bool}{sz0 e' al al' tag':Nat}
  {vy:SV} {xs news:List Value}
  (ht:τ t=some ⟨sz0,ag,bt,ze,4,ik,e,al,fs⟩) (PI:τ e=some ⟨sz,ag',by_,ze',tag',ik',e',al',fs'⟩) (E:ev l x=some (.o (.v (.slice (some ⟨g,0,none⟩) m c)))) (hy:ev l y=some vy)
  (QD:∀O J,Rel H nx iv B w O J->J.ownsRow 0 e sz (.slice (some ⟨g,0,none⟩) m c) m xs/\∀id b,dF H id=some b->(O id).nil=false->(O id).g≠g)
  (SK:news.length=k*sz) (Ss:∀u∈news,u.oneCell'=true) (hroom:m+k<=c)
  (src:∀O J,Rel H nx iv B w O J->∃ad c',vy.den O= .slice (some ad) k c'/\∀(j:Nat) u,news[j]? =some u->J.cell? (ad.add j)=some u)
  (hK:∀O J F,Rel H nx iv B w O J->F.ownsRow 0 e sz (.slice (some ⟨g,0,none⟩) (m+k) c) (m+k) (xs++news)->J.grownBy F (some g)->Fn (.o (.v (.slice (some ⟨g,0,none⟩) (m+k) c))) H nx iv F):
  xJ P B ⟨dst,.call ⟨.builtin .append,⟨[x,y]⟩,⟨[t,t]⟩⟩,ty,pos,after,guard⟩ l H nx iv w Fn:=by
 refine⟨fun O J ev' r RX=>?_⟩;have hu:=(hτ t _ ht).i4 rfl;simp only at hu;have Qh:=hτ e _ PI;obtain⟨inf,z,R,Od,Om,hz,Q6⟩:=Qh.info;simp only at Od;obtain⟨OI,OL⟩:=QD O J r;obtain⟨ad,c',hv,Oy⟩:=src O J r;obtain⟨F,W,I,h3⟩:=run_append_fits (P:=P) J 0 t ty e inf sz hu R Od g m c xs OI ad k c' news SK Oy Ss hroom;have e1:ev' x= .slice (some ⟨g,0,none⟩) m c:=RX x _ E;have e2:ev' y= .slice (some ad) k c':=(RX y _ hy).trans hv;refine⟨_,F,iv,.inl ?_,r.CA OL h3,hK O J F r I h3⟩;simp[execOp,resolve,invoke,builtin,e1,e2,W]
theorem zU{k:Nat}{u:Value}(h:u∈(Builtin.zeroCells z k).toList):u∈z.toList:=by
 unfold Builtin.zeroCells at h;rw[Array.toList_map]at h;obtain⟨i,R,rfl⟩:=bD.1 h;have QR:i<k*z.size:=by simpa using R
 have h0:0<z.size:=by
  rcases bB z.size with h|h
  .rw[h]at QR;omega
  .exact h
 rw[getElem!_pos z (i % z.size) (cG _ h0)];exact Array.getElem_mem_toList _
theorem yZ(hτ:en P τ){t ty e by_ k off c g sz:Nat}{x:Operand}{ag:Bool}{sz0 e' al al' tag':Nat}
  
  (ht:τ t=some ⟨sz0,ag,bt,ze,4,ik,e,al,fs⟩) (PI:τ e=some ⟨sz,ag',by_,ze',tag',ik',e',al',fs'⟩) (E:ev l x=some (.o (.v (.slice (some ⟨g,off,none⟩) k c)))) (Z:k≠0)
  (V:∀O J,Rel H nx iv B w O J->∃cur tg,J.heap[g]? =some (.cells cur tg (0,0))/\off+k*sz<=cur.size/\∀id b,dF H id=some b->(O id).nil=false->(O id).g≠g)
  (hK:∀O J F cur tg zs,Rel H nx iv B w O J->J.heap[g]? =some (.cells cur tg (0,0))->zs.length=k*sz->F.heap[g]? =some (.cells (cur.toList.take off++zs++cur.toList.drop (off+k*sz)).toArray tg (0,0))->J.grownBy F (some g)->Fn (.o (.v (.tuple #[]))) H nx iv F):
  xJ P B ⟨dst,.call ⟨.builtin .clear,⟨[x]⟩,⟨[t]⟩⟩,ty,pos,after,guard⟩ l H nx iv w Fn:=by
 refine⟨fun O J ev' r RX=>?_⟩;have hu:=(hτ t _ ht).i4 rfl;simp only at hu;have Qh:=hτ e _ PI;obtain⟨inf,zv,R,Od,Om,hz,Q6⟩:=Qh.info;have RC:=Qh.Bw;simp only at Od Q6 RC;obtain⟨cur,tg,hc,Pg,OL⟩:=V O J r;have Ut:zv.cells.size=sz:=by rw[<-RC,<-Q6];simp
 have hlen:(Builtin.zeroCells zv.cells k).toList.length=k*sz:=by rw[Array.length_toList,size_zeroCells,Ut]
 have Pr:=run_storeCells_at (P:=P) g off tg (Builtin.zeroCells zv.cells k).toList 0 cur J hc (by rw[cH,hlen];exact Pg) (fun v hv=>by
  have:=zU hv;rw[Q6]at this
  exact Qh.MC v this)
 have e1:ev' x= .slice (some ⟨g,off,none⟩) k c:=RX x _ E;simp only[cH,hlen]at Pr;refine⟨.tuple #[],_,iv,.inl ?_,r.CA OL (gX J g _),hK O J _ cur tg _ r hc hlen (setRow_heap J g cur _ tg _ hc) (gX _ _ _)⟩;simp[execOp,resolve,invoke,builtin,e1,Builtin.clear_,run_underlying hu,zeroValue,typeInfo,R,hz,Pr,Z]
end
end Go.Sx
namespace Go.Ex
open Go Go.Sx Go.Proofs
section
variable{xs:List Value}{w:World}
theorem ownsRow.part{e sz n i g c:Nat}(h:w.ownsRow 0 e sz (.slice (some ⟨g,0,none⟩) n c) n xs)(R:i<=n):w.ownsRow 0 e sz (.slice (some ⟨g,0,none⟩) i c) i (xs.take (i*sz)):=by
 have hs:=Nat.mul_le_mul_right sz R;refine⟨by rw[bL,h.1];omega,?_⟩;rcases h.2 with⟨e,_⟩|⟨g',cap,cur,e,N,V,So,Rd,Oz,Su⟩
 .cases e
 .injection e with e1 e2 e3;injection e1 with e1;injection e1 with e1;subst e1 e3;exact .inr ⟨g,c,cur,rfl,N,V,be,Rd,Oz,by rw[<-Su,List.take_take,Nat.min_eq_left hs]⟩
theorem Gu{n c i g:Nat}(OI:w.ownsRow 0 T.int 1 (.slice (some ⟨g,0,none⟩) n c) n xs)(R:i<n)(U:n<=1000000)(W:∀u∈xs,u.oneCell'=true):
  eD PG Fd.fT #[.slice (some ⟨g,0,none⟩) n c,iV i,iV ((i+1:Nat):Int)] w (fun e F=>e= .returned (.slice (some ⟨g,0,none⟩) (n-1) c)/\w.grownBy F (some g)/\F.ownsRow 0 T.int 1 (.slice (some ⟨g,0,none⟩) (n-1) c) (n-1) (xs.take (i*1)++xs.drop ((i+1)*1))):=by
 have So:n<=c/\c<=maxLen:=by
  rcases OI.2 with⟨e,_⟩|⟨g',cap,cur,e,_,_,I,h3,_⟩
  .cases e
  .injection e with _ _ e3;subst e3;exact⟨I,h3⟩
 have Ra:=OI.1;have ON:g<w.heap.size:=(ownsRow.low OI g rfl).2;have PN:∀{O:Nat->Sx.dc} {J:World},Rel [] 0 [] w.heap.size w O J->J.heap[g]? =w.heap[g]? :=fun r=>rls r (S:=fun g=>g<w.heap.size) (fun _ h=>h) (.inl ON);have PF:∀{iv:Iv} {H:Hp} {nx:Nat} {O:Nat->Sx.dc} {w1 J:World},Rel H nx iv w.heap.size w1 O J->∀id b,dF H id=some b->(O id).nil=false->(O id).g≠g:=fun r=>Rel.not r (S:=fun g=>g<w.heap.size) (fun _ h=>h) (.inl ON);refine jy ce ?_;refine⟨⟨be,be,be,be⟩,_,_,_,rfl,rfl,rfl,?_⟩;apply bS<;>intro G
 .have G:(i:Int)=((i+1:Nat):Int):=eq_of_beq G;omega
 refine dP (idO 8) ?_;refine⟨⟨be,be,be⟩,some ⟨g,0,none⟩,i,c,by split<;>simp[cd],be,be,?_⟩;obtain⟨ad2,PH⟩:∃ad:Addr,(if (c:Int)=((i+1:Nat):Int)then(some ⟨g,0,none⟩:Option Addr)else(some (⟨g,0,none⟩:Addr)).map (·.add ((((i+1:Nat):Int)).toNat*1)))=some ad/\(c≠i+1->ad=⟨g,(i+1)*1,none⟩):=by
  by_cases h:c=i+1
  .exact⟨⟨g,0,none⟩,by rw[aM be],fun I=>absurd h I⟩
  .exact⟨⟨g,(i+1)*1,none⟩,by rw[aK be];simp[cd],fun _=>rfl⟩
 refine⟨⟨be,be,be⟩,some ad2,n-(i+1),c-(i+1),PH.1,be,be,?_⟩;have hrm:=Nat.mul_le_mul_right 1 (show i+1<=n from R)
 refine .inr (DD hτ (xs:=xs.take (i*1)) (news:=xs.drop ((i+1)*1)) (m:=i) (k:=n-(i+1)) d5 d5 d5 d5 (fun O J r=>⟨ownsRow.part (ownsRow.cP OI fun g2 V=>by injection V with V;subst V;exact PN r) be,PF r⟩) (by rw[List.length_drop,Ra,Nat.sub_mul]) (fun u hu=>W u (List.mem_of_mem_drop hu)) be
  (fun O J r=>⟨ad2,c-(i+1),rfl,fun j u hu=>?_⟩) (fun O J F r h5 h6=>?_))
 .rw[bo]at hu;have hjl:=dx hu;have Qf:c≠i+1:=fun e=>by
   have:n=i+1:=by omega
   rw[Ra,this]at hjl;omega
  rw[PH.2 Qf,cd];have Vk:=ownsRow.cP OI (F:=J) fun g' V=>by injection V with V;subst V;exact PN r
  have:=Vk.cells (g:=g) rfl _ u hu;rw[cd,aR]at this;exact this
 have hL:i+(n-(i+1))=n-1:=by omega
 rw[hL]at h5;rw[hL];have Rc:w.grownBy F (some g):=eP (dg (⟨rfl,rfl,rfl,lr,fun _ _ _=>rfl⟩:w.grownBy w (some g)) r.cV) h6;clear h6 r;conv=>whnf
 refine⟨⟨be,be,be⟩,some ⟨g,(n-1)*1,none⟩,1,c-(n-1),by rw[aK be];simp[cd],be,be,?_⟩;refine yZ hτ d5 d5 d5 bv (fun O J r=>?_) (fun O J w3 cur tg zs r k1 k2 k3 k4=>?_)
 .rcases h5.2 with⟨e,_⟩|⟨g',cap,cur,e,_,V,h3,_,Oz,_⟩
  .cases e
  .injection e with e1 _ e3;injection e1 with e1;injection e1 with e1;subst e1 e3;have hq:=Nat.mul_le_mul_right 1 (show n-1+1<=c by omega);exact⟨cur,_,(rls r (S:=fun g=>g<w.heap.size) (fun _ h=>h) (.inl ON)).trans V,by rw[Oz];omega,PF r⟩
 have h6:w3.ownsRow 0 T.int 1 (.slice (some ⟨g,0,none⟩) (n-1) c) (n-1) (xs.take (i*1)++xs.drop ((i+1)*1)):=by
  refine⟨h5.1,?_⟩;rcases h5.2 with⟨e,_⟩|⟨g',cap,cur',e,N,V,h3,h4,Oz,Su⟩
  .cases e
  .injection e with e1 _ e3;injection e1 with e1;injection e1 with e1;subst e1 e3;have e5:=(rls r (S:=fun g=>g<w.heap.size) (fun _ h=>h) (.inl ON)).trans V;rw[k1]at e5;injection e5 with e5;injection e5 with e5 e6;subst e5 e6;have hq:=Nat.mul_le_mul_right 1 (show n-1+1<=c by omega);refine .inr ⟨g,c,_,rfl,N,k3,h3,h4,?_,?_⟩
   .simp only[List.size_toArray,aU,bL,List.length_drop,Array.length_toList,k2];omega
   .rw[<-Su];show List.take _ (_++zs++_)=_;rw[bg,List.take_append_of_le_length (by rw[bL,Array.length_toList];omega),List.take_take,Nat.min_self]
 have Pa:w.grownBy w3 (some g):=eP (dg Rc r.cV) k4;clear k1 k2 k3 k4 r h5 Rc;intro In w5 r5;exact⟨rfl,dg Pa r5.cV,ownsRow.cP h6 fun g' V=>by injection V with V;subst V;exact rls r5 (S:=fun g=>g<w.heap.size) (fun _ h=>h) (.inl ON)⟩
theorem Gv{n c i g:Nat}(OI:w.ownsRow 0 T.cw 4 (.slice (some ⟨g,0,none⟩) n c) n xs)(R:i<n)(U:n<=1000000)(W:∀u∈xs,u.oneCell'=true):
  eD PG Fd.dR #[.slice (some ⟨g,0,none⟩) n c,iV i,iV ((i+1:Nat):Int)] w (fun e F=>e= .returned (.slice (some ⟨g,0,none⟩) (n-1) c)/\w.grownBy F (some g)/\F.ownsRow 0 T.cw 4 (.slice (some ⟨g,0,none⟩) (n-1) c) (n-1) (xs.take (i*4)++xs.drop ((i+1)*4))):=by
 have So:n<=c/\c<=maxLen:=by
  rcases OI.2 with⟨e,_⟩|⟨g',cap,cur,e,_,_,I,h3,_⟩
  .cases e
  .injection e with _ _ e3;subst e3;exact⟨I,h3⟩
 have Ra:=OI.1;have ON:g<w.heap.size:=(ownsRow.low OI g rfl).2;have PN:∀{O:Nat->Sx.dc} {J:World},Rel [] 0 [] w.heap.size w O J->J.heap[g]? =w.heap[g]? :=fun r=>rls r (S:=fun g=>g<w.heap.size) (fun _ h=>h) (.inl ON);have PF:∀{iv:Iv} {H:Hp} {nx:Nat} {O:Nat->Sx.dc} {w1 J:World},Rel H nx iv w.heap.size w1 O J->∀id b,dF H id=some b->(O id).nil=false->(O id).g≠g:=fun r=>Rel.not r (S:=fun g=>g<w.heap.size) (fun _ h=>h) (.inl ON);refine gK ce ?_;refine⟨⟨be,be,be,be⟩,_,_,_,rfl,rfl,rfl,?_⟩;apply bS<;>intro G
 .have G:(i:Int)=((i+1:Nat):Int):=eq_of_beq G;omega
 refine dP (idO 8) ?_;refine⟨⟨be,be,be⟩,some ⟨g,0,none⟩,i,c,by split<;>simp[cd],be,be,?_⟩;obtain⟨ad2,PH⟩:∃ad:Addr,(if (c:Int)=((i+1:Nat):Int)then(some ⟨g,0,none⟩:Option Addr)else(some (⟨g,0,none⟩:Addr)).map (·.add ((((i+1:Nat):Int)).toNat*4)))=some ad/\(c≠i+1->ad=⟨g,(i+1)*4,none⟩):=by
  by_cases h:c=i+1
  .exact⟨⟨g,0,none⟩,by rw[aM be],fun I=>absurd h I⟩
  .exact⟨⟨g,(i+1)*4,none⟩,by rw[aK be];simp[cd],fun _=>rfl⟩
 refine⟨⟨be,be,be⟩,some ad2,n-(i+1),c-(i+1),PH.1,be,be,?_⟩;have hrm:=Nat.mul_le_mul_right 4 (show i+1<=n from R)
 refine .inr (DD hτ (xs:=xs.take (i*4)) (news:=xs.drop ((i+1)*4)) (m:=i) (k:=n-(i+1)) d5 d5 d5 d5 (fun O J r=>⟨ownsRow.part (ownsRow.cP OI fun g2 V=>by injection V with V;subst V;exact PN r) be,PF r⟩) (by rw[List.length_drop,Ra,Nat.sub_mul]) (fun u hu=>W u (List.mem_of_mem_drop hu)) be
  (fun O J r=>⟨ad2,c-(i+1),rfl,fun j u hu=>?_⟩) (fun O J F r h5 h6=>?_))
 .rw[bo]at hu;have hjl:=dx hu;have Qf:c≠i+1:=fun e=>by
   have:n=i+1:=by omega
   rw[Ra,this]at hjl;omega
  rw[PH.2 Qf,cd];have Vk:=ownsRow.cP OI (F:=J) fun g' V=>by injection V with V;subst V;exact PN r
  have:=Vk.cells (g:=g) rfl _ u hu;rw[cd,aR]at this;exact this
 have hL:i+(n-(i+1))=n-1:=by omega
 rw[hL]at h5;rw[hL];have Rc:w.grownBy F (some g):=eP (dg (⟨rfl,rfl,rfl,lr,fun _ _ _=>rfl⟩:w.grownBy w (some g)) r.cV) h6;clear h6 r;conv=>whnf
 refine⟨⟨be,be,be⟩,some ⟨g,(n-1)*4,none⟩,1,c-(n-1),by rw[aK be];simp[cd],be,be,?_⟩;refine yZ hτ d5 d5 d5 bv (fun O J r=>?_) (fun O J w3 cur tg zs r k1 k2 k3 k4=>?_)
 .rcases h5.2 with⟨e,_⟩|⟨g',cap,cur,e,_,V,h3,_,Oz,_⟩
  .cases e
  .injection e with e1 _ e3;injection e1 with e1;injection e1 with e1;subst e1 e3;have hq:=Nat.mul_le_mul_right 4 (show n-1+1<=c by omega);exact⟨cur,_,(rls r (S:=fun g=>g<w.heap.size) (fun _ h=>h) (.inl ON)).trans V,by rw[Oz];omega,PF r⟩
 have h6:w3.ownsRow 0 T.cw 4 (.slice (some ⟨g,0,none⟩) (n-1) c) (n-1) (xs.take (i*4)++xs.drop ((i+1)*4)):=by
  refine⟨h5.1,?_⟩;rcases h5.2 with⟨e,_⟩|⟨g',cap,cur',e,N,V,h3,h4,Oz,Su⟩
  .cases e
  .injection e with e1 _ e3;injection e1 with e1;injection e1 with e1;subst e1 e3;have e5:=(rls r (S:=fun g=>g<w.heap.size) (fun _ h=>h) (.inl ON)).trans V;rw[k1]at e5;injection e5 with e5;injection e5 with e5 e6;subst e5 e6;have hq:=Nat.mul_le_mul_right 4 (show n-1+1<=c by omega);refine .inr ⟨g,c,_,rfl,N,k3,h3,h4,?_,?_⟩
   .simp only[List.size_toArray,aU,bL,List.length_drop,Array.length_toList,k2];omega
   .rw[<-Su];show List.take _ (_++zs++_)=_;rw[bg,List.take_append_of_le_length (by rw[bL,Array.length_toList];omega),List.take_take,Nat.min_self]
 have Pa:w.grownBy w3 (some g):=eP (dg Rc r.cV) k4;clear k1 k2 k3 k4 r h5 Rc;intro In w5 r5;exact⟨rfl,dg Pa r5.cV,ownsRow.cP h6 fun g' V=>by injection V with V;subst V;exact rls r5 (S:=fun g=>g<w.heap.size) (fun _ h=>h) (.inl ON)⟩
end
variable{next:Act->World->Prop}{la:Array Bool}{Fn:Env->Hp->Nat->Iv->World->List Gh->Prop}{Q:Exit->Act->World->Prop}{ca:List (List (List Value))}{M:List (List Value)}{l:List Nat}{q qs:List Rat}{tp:List Value}{k n:Nat}{S:Nat->Prop}{o:Oper}
def z5(P:Program)(τ:lO)(B:Nat)(all:List Oper):Tg->List Gh->Env->Hp->Nat->Iv->World->KT->Prop
 | .nil,_,l,H,nx,iv,w,Fn=>Fn l H nx iv w
 | .x i t,Do,l,H,nx,iv,w,Fn=>mL all i (fun o=>eh (lG o.op||Ae o.op) P τ B all o l H nx iv w (fun l' H' OO K J=>stepG τ B (lG o.op) Do i l' H' OO K J (fun G'=>z5 P τ B all t G' l' H' OO K J Fn)))
 | .two i t j u,Do,l,H,nx,iv,w,Fn=>mL all i (fun o=>eh (lG o.op||Ae o.op) P τ B all o l H nx iv w (fun l' H' OO K J=>stepG τ B (lG o.op) Do i l' H' OO K J (fun G'=>z5 P τ B all t G' l' H' OO K J Fn)))/\
   mL all j (fun o=>eh (lG o.op||Ae o.op) P τ B all o l H nx iv w (fun l' H' OO K J=>stepG τ B (lG o.op) Do j l' H' OO K J (fun G'=>z5 P τ B all u G' l' H' OO K J Fn)))
 | .three i t j u k v,Do,l,H,nx,iv,w,Fn=>mL all i (fun o=>eh (lG o.op||Ae o.op) P τ B all o l H nx iv w (fun l' H' OO K J=>stepG τ B (lG o.op) Do i l' H' OO K J (fun G'=>z5 P τ B all t G' l' H' OO K J Fn)))/\
   (mL all j (fun o=>eh (lG o.op||Ae o.op) P τ B all o l H nx iv w (fun l' H' OO K J=>stepG τ B (lG o.op) Do j l' H' OO K J (fun G'=>z5 P τ B all u G' l' H' OO K J Fn)))/\
   mL all k (fun o=>eh (lG o.op||Ae o.op) P τ B all o l H nx iv w (fun l' H' OO K J=>stepG τ B (lG o.op) Do k l' H' OO K J (fun G'=>z5 P τ B all v G' l' H' OO K J Fn))))
 | .ld i b t,Do,l,H,nx,iv,w,Fn=>mL all i (fun o=>match Et o with
  |some (d,T,u)=>match fH l u with
   |some su=>xM τ B T su H nx iv w (fun v=>z5 P τ B all t (⟨u,d,T,b⟩::Do) ((d,v)::l) H nx iv w Fn)
   |none=>False
  |none=>False)
 | .EY id t,Do,l,H,nx,iv,w,Fn=>∃H' b,dF H id=some b/\b≠ .dead/\Ag H H'/\H0 id H'=true/\∀O J,Rel H nx iv B w O J->(O id).nil=false/\∃l',(∀u v,fH l' u=some v->v.sc nx/\∃v',fH l u=some v'/\v'.den O=v.den O)/\z5 P τ B all t Do l' H' nx (((O id).g,(O id).g+1)::iv) J Fn
section
variable{P:Program}{τ:lO}{ops:Array Oper}{B n nx:Nat}{l:Env}{H:Hp}{iv:Iv}{w J:World}{O:Nat->Sx.dc}{a:Act}
theorem Lw(hτ:en P τ){i:Nat}(ho:ops[i]? =some o)(hd:∀d,o.dst=some d->d<n){Fn:KT}
  (W:eh (lG o.op||Ae o.op) P τ B ops.toList o l H nx iv w Fn) (sat:Sat n l H nx iv B w O a J)
  (U:∀l' H' OO K F G9 x w3,Fn l' H' OO K F->Sat n l' H' OO K B F G9 (a.put o.dst x) w3->(lG o.op=true->w3=J)->next (a.put o.dst x) w3):
  wpOp P ops Q i next a J:=by
 unfold eh at W;refine mP ho ?_;rcases ja sat W with⟨Y,l1,I,sat1⟩|⟨Y,l1,I,sat1⟩
 .refine .inl ⟨Y,?_⟩
  cases hR:lG o.op with
  |true=>
   rw[hR]at I;obtain⟨v,hK,QF,OU⟩:=(j2 hτ I sat1 hR).resolve_right (fun hh=>by have:=hh.1;simp at this);obtain⟨l2,h3,sat2⟩:=fI sat1 hK hd QF;exact k9 (OU J (.inr sat1.rel)) (U _ _ _ _ _ _ _ _ h3 sat2 fun _=>rfl)
  |false=>
   have nr:∀w3:World,lG o.op=true->w3=J:=fun w3 h=>by rw[hR]at h;cases h
   cases hA:Ae o.op with
   |true=>
    obtain⟨b,v,mk,obj,hK,TR,N,hv,WZ,Pg,SB⟩:=lV hτ I sat1 hA;have PR:Rel ((nx,b)::H) (nx+1) iv B w (Sx.gn O nx ⟨J.heap.size,0,false⟩) (J.alloc obj):=
     sat1.rel.push b _ rfl rfl rfl ce (fun k Z=>heap_alloc_old _ _ Z) (fun _=>⟨lr,ce⟩) (Pg _ _ (heap_alloc_new _ _)) N
    obtain⟨l2,h3,sat2⟩:=fI (sat1.next PR (Nat.le_succ _) (fun id Pk=>gN id Pk)) hK hd hv;rw[WZ]at sat2;exact k9 (v:=mk J.heap.size) (F:=J.alloc obj) (SB J) (U _ _ _ _ _ _ _ _ h3 sat2 (by rw[hR];exact fun h=>by cases h))
   |false=>
    refine lW hτ I sat1 fun v H' OO K F G9 w3 hK sat2 hv=>?_;obtain⟨l2,h3,sat3⟩:=fI sat2 hK hd hv;exact U _ _ _ _ _ _ _ _ h3 sat3 (by rw[hR];exact fun h=>by cases h)
 .obtain⟨l2,h4,sat3⟩:=fI sat1 I hd trivial;exact .inr ⟨Y,U _ _ _ _ _ _ _ _ h4 sat3 fun _=>rfl⟩
theorem uh(hτ:en P τ){i:Nat}{Do:List Gh}{F9:List Zh}(ho:ops[i]? =some o)(hd:∀d,o.dst=some d->d<n)(hr:i∈Region.ready .any ops la)
  (W:eh (lG o.op||Ae o.op) P τ B ops.toList o l H nx iv w (fun l' H' OO K J=>stepG τ B (lG o.op) Do i l' H' OO K J (Fn l' H' OO K J))) (sat:Sat n l H nx iv B w O a J)
  (hG:∀z∈F9,kB ops z.1.b la->z.1∈Do) (hZ:∀z∈F9,JR ops la a z) (hI:IZ P ops F9 la J)
  (U:∀l' H' OO K F G9 x w3 G',Fn l' H' OO K F G'->Sat n l' H' OO K B F G9 (a.put o.dst x) w3->(∀z∈F9,kB ops z.1.b (la.setIfInBounds i true)->z.1∈G')->(∀z∈F9,JR ops (la.setIfInBounds i true) (a.put o.dst x) z)->IZ P ops F9 (la.setIfInBounds i true) w3->next (a.put o.dst x) w3):
  wpOp P ops Q i next a J:=by
 have hl:=(df.1 hr).1;refine Lw hτ ho hd W sat fun l' H' OO K F G9 x w3 hK sat2 Y=>?_;have XI:∀z∈F9,JR ops (la.setIfInBounds i true) (a.put o.dst x) z:=fun z hz=>(hZ z hz).step ho (kZ hr)
 cases hR:lG o.op with
 |true=>
  rw[hR]at hK;have Y:=Y hR;subst Y;refine U _ _ _ _ _ _ _ _ Do hK sat2 (fun z hz h=>hG z hz (iw ho hl h).1) XI fun z hz h=>hI z hz (iw ho hl h).1
 |false=>
  rw[hR]at hK;obtain⟨I,h3⟩:=rD hτ sat2 _ hK;refine U _ _ _ _ _ _ _ _ _ I sat2 (fun z hz h=>?_) XI fun z hz h=>?_
  .obtain⟨k1,k2⟩:=iw ho hl h;exact lT (hG z hz k1) (k2 hR)
  .obtain⟨k1,k2⟩:=iw ho hl h;obtain⟨su,sv,e1,e2,e3⟩:=h3 z.1 (lT (hG z hz k1) (k2 hR));have h4:=sat2.env _ _ e1;have h5:=sat2.env _ _ e2;rw[(XI z hz).u]at h4;rw[(XI z hz).d]at h5;injection h4 with h4;injection h5 with h5;unfold Yz;rw[h4,h5];exact e3
theorem jU(hτ:en P τ)(OV:∀(j:Nat) o,ops[j]? =some o->∀d,o.dst=some d->d<n)(Oc:∀(j:Nat) (o:Oper) cs b,ops[j]? =some o->o.op≠ .select cs b){Fn:KT}{Q0:Act->World->Prop}
  (hQ:∀l' H' OO K F G9 a' w3,Fn l' H' OO K F->Sat n l' H' OO K B F G9 a' w3->Q0 a' w3):
  ∀(t:Tg) (fuel:Nat) (la:Array Bool) (l:Env) (H:Hp) (nx:Nat) (iv:Iv) (w:World) (O:Nat->Sx.dc) (a:Act) (J:World) (Do:List Gh) (F9:List Zh),JW la<=fuel->la.size=ops.size->jK ops t la=true->z5 P τ B ops.toList t Do l H nx iv w Fn->Sat n l H nx iv B w O a J->
   (∀z∈F9,kB ops z.1.b la->z.1∈Do)->(∀z∈F9,JR ops la a z)->IZ P ops F9 la J->ou P .any ops (QN Q0) (IZ P ops F9) fuel la a J
 | .nil,fuel,la,l,H,nx,iv,w,O,a,J,Do,F9,_,_,hc,h,s,hG,hZ,hI=>by
  simp only[jK,List.isEmpty_iff]at hc;exact ve hI hc ⟨rfl,hQ _ _ _ _ _ _ _ _ h s⟩ fuel
 | .x i t,fuel,la,l,H,nx,iv,w,O,a,J,Do,F9,hf,hz,hc,h,s,hG,hZ,hI=>by
  unfold jK at hc;obtain⟨o,ho,W⟩:=eV h;rw[aX]at ho;simp only[ho,aq,Bool.or_eq_true]at hc;obtain⟨⟨c1,c2⟩,c3⟩:=hc;have c1:i∈Region.ready .any ops la:=by simpa using c1
  obtain⟨Ti,-⟩:=df.1 c1;have US:=gS Ti;obtain⟨f,rfl⟩:∃f,fuel=f+1:=⟨fuel-1,be⟩
  have Sf:(la.setIfInBounds i true).size=ops.size:=by rw[bG,hz]
  rcases c2 with c2|⟨⟨hP,RI⟩,c4⟩
  .refine⟨hI,fun h0=>(by rw[h0]at c1;cases c1),fun j hj=>?_⟩;have Ov:j=i:=eJ (List.all_eq_true.1 c2 j hj);subst Ov;exact uh hτ ho (OV j o ho) c1 W s hG hZ hI fun _ _ _ _ _ _ _ _ G' Z hs Rx Ry Rz=>jU hτ OV Oc hQ t f _ _ _ _ _ _ _ _ _ G' F9 be Sf c3 Z hs Rx Ry Rz
  .have hR:lG o.op=true:=by
    unfold Ew at hP;split at hP
    .cases hP
    .exact hP
   have hm:=rF la;have N:=jo (ops:=ops) (m:=gU la.toList 0) (i:=i) ops.toList 0 0 (fun n o U=>by rw[aR];rwa [aX]at U) (fun j hj=>by rw[nq]at hj;cases hj);generalize xB (gU la.toList 0) i ops.toList 0 0=b at*
   have Si:o.guard=none:=by simpa using RI
   unfold eh rH at W;rw[Si]at W;rw[hR]at W;obtain⟨v,hK,QF,OU⟩:=(j2 hτ W s hR).resolve_right (fun hh=>by have:=hh.1;simp at this);obtain⟨l2,h3,sat2⟩:=fI s hK (OV i o ho) QF
   try rw[hR]at h3
   have Y:Region.wanted o (yielded ops a.tmps)=true:=by simp[Region.wanted,Si]
   refine lN (v:=v.den O) (b:=b) (E8:=fun _=>True) (X:=execOp a.eval o) ho hR Oc (fun c a w hq=>absurd hq.1 ce) (fun j hj=>(N j hj).2.2) (fun w3 _=>OU w3 (.inl hP)) (fun lx w h z hz ha=>h z hz ((fJ ho hR).2 ha))
    f la a J (fun j hj=>(hm j).symm.trans (N j hj).1) (fun j oj QZ Ov hl Z=>mK ops.toList 0 c4 j oj (by rw[aX];exact QZ) be (by
     have hj:=(aZ.1 QZ).1
     rw[aR,hm,jn be false true];exact hl) (by rw[aR];exact Z)) c1 ⟨Y,rfl⟩ ?_
   refine iu (fun lx w h=>⟨h,fun _=>trivial⟩) _ _ _ _ ?_;exact jU hτ OV Oc hQ t f _ _ _ _ _ _ _ _ _ Do F9 be Sf c3 h3 sat2 (fun z hz h=>hG z hz ((fJ ho hR).1 h)) (fun z hz=>(hZ z hz).step ho (kZ c1)) (fun z hz h=>hI z hz ((fJ ho hR).1 h))
 | .two i t k u,fuel,la,l,H,nx,iv,w,O,a,J,Do,F9,hf,hz,hc,h,s,hG,hZ,hI=>by
  simp only[jK]at hc;split at hc
  .rename_i x y hr;simp only[aq]at hc;obtain⟨c1,c2,c3,c4⟩:=hc;have E:=bJ c1;have hy:=bJ c2;subst E;subst hy;obtain⟨W,I⟩:=h;obtain⟨o1,RN,W⟩:=eV W;obtain⟨o2,PZ,I⟩:=eV I;rw[aX]at RN PZ;have SM:x∈Region.ready .any ops la:=by rw[hr];simp
   have SF:y∈Region.ready .any ops la:=by rw[hr];simp
   have u1:=gS (df.1 SM).1;have u2:=gS (df.1 SF).1;obtain⟨f,rfl⟩:∃f,fuel=f+1:=⟨fuel-1,be⟩
   refine⟨hI,fun h0=>(by rw[hr]at h0;cases h0),fun j hj=>?_⟩;rw[hr,List.mem_cons,bW]at hj;rcases hj with rfl|rfl
   .exact uh hτ RN (OV _ o1 RN) SM W s hG hZ hI fun _ _ _ _ _ _ _ _ G' Z hs Rx Ry Rz=>jU hτ OV Oc hQ t f _ _ _ _ _ _ _ _ _ G' F9 be (by rw[bG,hz]) c3 Z hs Rx Ry Rz
   .exact uh hτ PZ (OV _ o2 PZ) SF I s hG hZ hI fun _ _ _ _ _ _ _ _ G' Z hs Rx Ry Rz=>jU hτ OV Oc hQ u f _ _ _ _ _ _ _ _ _ G' F9 be (by rw[bG,hz]) c4 Z hs Rx Ry Rz
  .cases hc
 | .three i t k u m v,fuel,la,l,H,nx,iv,w,O,a,J,Do,F9,hf,hz,hc,h,s,hG,hZ,hI=>by
  simp only[jK]at hc;split at hc
  .rename_i x y z9 hr;simp only[aq]at hc;obtain⟨c1,c2,c6,c3,c4,c5⟩:=hc;have E:=bJ c1;have hy:=bJ c2;have hz9:=bJ c6;subst E;subst hy;subst hz9;obtain⟨W,I,h3⟩:=h;obtain⟨o1,RN,W⟩:=eV W;obtain⟨o2,PZ,I⟩:=eV I;obtain⟨o3,Tc,h3⟩:=eV h3;rw[aX]at RN PZ Tc;have SM:x∈Region.ready .any ops la:=by rw[hr];simp
   have SF:y∈Region.ready .any ops la:=by rw[hr];simp
   have hm3:z9∈Region.ready .any ops la:=by rw[hr];simp
   have u1:=gS (df.1 SM).1;have u2:=gS (df.1 SF).1;have u3:=gS (df.1 hm3).1;obtain⟨f,rfl⟩:∃f,fuel=f+1:=⟨fuel-1,be⟩
   refine⟨hI,fun h0=>(by rw[hr]at h0;cases h0),fun j hj=>?_⟩;rw[hr,List.mem_cons,List.mem_cons,bW]at hj;rcases hj with rfl|rfl|rfl
   .exact uh hτ RN (OV _ o1 RN) SM W s hG hZ hI fun _ _ _ _ _ _ _ _ G' Z hs Rx Ry Rz=>jU hτ OV Oc hQ t f _ _ _ _ _ _ _ _ _ G' F9 be (by rw[bG,hz]) c3 Z hs Rx Ry Rz
   .exact uh hτ PZ (OV _ o2 PZ) SF I s hG hZ hI fun _ _ _ _ _ _ _ _ G' Z hs Rx Ry Rz=>jU hτ OV Oc hQ u f _ _ _ _ _ _ _ _ _ G' F9 be (by rw[bG,hz]) c4 Z hs Rx Ry Rz
   .exact uh hτ Tc (OV _ o3 Tc) hm3 h3 s hG hZ hI fun _ _ _ _ _ _ _ _ G' Z hs Rx Ry Rz=>jU hτ OV Oc hQ v f _ _ _ _ _ _ _ _ _ G' F9 be (by rw[bG,hz]) c5 Z hs Rx Ry Rz
  .cases hc
 | .ld i b t,fuel,la,l,H,nx,iv,w,O,a,J,Do,F9,hf,hz,hc,h,s,hG,hZ,hI=>by
  unfold jK at hc;obtain⟨o,ho,W⟩:=eV h;rw[aX]at ho;simp only[ho]at hc
  cases QU:Et o with
  |none=>rw[QU]at hc;cases hc
  |some q=>
   obtain⟨d,T,u⟩:=q;rw[QU]at hc W;simp only[aq]at hc;obtain⟨⟨⟨⟨c1,c2⟩,c4⟩,c5⟩,c3⟩:=hc;obtain⟨e1,e2,e3⟩:=Ac QU;have c1:i∈Region.ready .any ops la:=by simpa using c1
   obtain⟨Ti,-⟩:=df.1 c1;have US:=gS Ti;obtain⟨f,rfl⟩:∃f,fuel=f+1:=⟨fuel-1,be⟩
   have Sf:(la.setIfInBounds i true).size=ops.size:=by rw[bG,hz]
   have hR:lG o.op=true:=by rw[e2];rfl
   have hm:=rF la;have N:=jo (ops:=ops) (m:=gU la.toList 0) (i:=i) ops.toList 0 0 (fun n o U=>by rw[aR];rwa [aX]at U) (fun j hj=>by rw[nq]at hj;cases hj);rw[<-bJ c2]at N
   cases VJ:fH l u with
   |none=>simp only[VJ]at W
   |some su=>
    simp only[VJ]at W;obtain⟨v,hK,QF,OU⟩:=l9 hτ s.rel (s.sc _ _ VJ) W;have hau:=s.env _ _ VJ;have UT:=OV i o ho d e1;have sat2:Sat n ((d,v)::l) H nx iv B w O (a.put o.dst (v.den O)) J:=by rw[e1];exact s.put UT QF
    have Y:Region.wanted o (yielded ops a.tmps)=true:=by simp[Region.wanted,e3]
    have RX:a.eval (.tmp u)=su.den O:=by rw[Act.eval,ah,hau];rfl
    have hui:tb (gU la.toList 0) i=false:=by rw[hm];exact kZ c1
    have SJ:=s9 ops.toList 0 c5;refine lN (v:=v.den O) (b:=b) (E8:=Yz P (⟨u,d,T,b⟩,su.den O,v.den O)) (X:=execOp a.eval o) ho hR Oc (fun c a w hq=>absurd hq.1 ce) (fun j hj=>(N j hj).2.2) (fun w3 hY=>?_) (fun lx w h z hz ha=>h z hz ((fJ ho hR).2 ha))
     f la a J (fun j hj=>(hm j).symm.trans (N j hj).1) (fun j oj QZ Ov hl Z=>mK ops.toList 0 c4 j oj (by rw[aX];exact QZ) be (by
      have hj:=(aZ.1 QZ).1
      rw[aR,hm,jn be false true];exact hl) (by rw[aR];exact Z)) c1 ⟨Y,rfl⟩ ?_
    .unfold Yz at hY;obtain⟨dst,op,ty,pos,after,guard⟩:=o;simp only at e2;subst e2;simp only[execOp,RX]
     exact km hY
    .refine iu (E9:=IZ P ops ((⟨u,d,T,b⟩,su.den O,v.den O)::F9)) (fun lx w h=>⟨fun z hz=>h z (aD _ hz),h _ aF⟩) _ _ _ _ ?_;refine jU hτ OV Oc hQ t f _ _ _ _ _ _ _ _ _ (⟨u,d,T,b⟩::Do) ((⟨u,d,T,b⟩,su.den O,v.den O)::F9) be Sf c3 hK sat2 (fun z hz h=>?_) (fun z hz=>?_) (fun z hz h=>?_)
     .rcases List.mem_cons.1 hz with rfl|hz
      .exact aF
      .exact aD _ (hG z hz ((fJ ho hR).1 h))
     .rcases List.mem_cons.1 hz with rfl|hz
      .have h7:=(SJ i o (by rw[aX];exact ho) (by rw[aR];exact hui)).1;refine⟨ns h7 hau,?_,fun j oj QZ RP=>?_⟩
       .rw[e1];show(a.tmps.setIfInBounds d _)[d]? =_;rw[Array.getElem?_setIfInBounds_self_of_lt (by rw[s.size];exact UT)]
       .have Ov:i≠j:=fun e=>by
         subst e;have R:=(aZ.1 Ti).1;rw[ah,Array.getElem?_setIfInBounds_self_of_lt R]at RP
         cases RP
        rw[Go.getD_set_ne false Ov]at RP;obtain⟨k1,k2⟩:=SJ j oj (by rw[aX];exact QZ) (by rw[aR,hm];exact RP);exact⟨k1,k2 be⟩
      .exact(hZ z hz).step ho (kZ c1)
     .rcases List.mem_cons.1 hz with rfl|hz
      .exact OU J s.rel
      .exact hI z hz ((fJ ho hR).1 h)
 | .EY id t,fuel,la,l,H,nx,iv,w,O,a,J,Do,F9,hf,hz,hc,h,s,hG,hZ,hI=>by
  obtain⟨H',b,Pk,hd,hs,ho,h⟩:=h;obtain⟨U,l',hl,h⟩:=h _ _ s.rel;exact jU hτ OV Oc hQ t fuel la l' H' nx _ J O a J Do F9 hf hz hc h ⟨s.rel.free Pk hd U hs ho,s.size,s.defers,fun u v hv=>by obtain⟨-,v',W,I⟩:=hl u v hv;rw[<-I];exact s.env u v' W,fun u v hv=>(hl u v hv).1⟩ hG hZ hI
theorem vQ(hτ:en P τ)(hm:P.follows .mixedOrders=true){Fn:KT}(t:Tg)(hs:Region.noSelect ops=true)(hc:jK ops t (Array.replicate ops.size false)=true)
  (h:z5 P τ B ops.toList t [] l H nx iv w Fn):nu P B ops l H nx iv w Fn:=by
 refine⟨fun n O a J OV sat Q hQ id=>?_⟩;refine wp_mono (Q':=Q) (c:=.region id ops true) (wp_region_any (Q:=QN (Q .normal)) hm (s8 (E9:=IZ P ops []) _ _ _ _ ?_)) (fun e a w hq=>by obtain⟨rfl,hq⟩:=hq;exact hq);refine jU (Q0:=Q .normal) hτ (fun j o ho d hd=>?_) (Region.noSelect_spec hs) hQ t _ _ _ _ _ _ _ O _ _ [] [] ?_ ce hc h ⟨sat.rel.drew,sat.size,sat.defers,sat.env,sat.sc⟩ (fun z hz=>by cases hz) (fun z hz=>by cases hz) (fun z hz=>by cases hz)
 .have:=List.all_eq_true.1 OV o (aG (by rw[aX];exact ho));rw[hd]at this;have h5:d+1<=n:=by simpa [Nat.blt]using this
  exact h5
 .unfold JW;refine aP List.countP_le_length ?_;simp
end
theorem y9:∀{M:List (List Value)} {k:Nat},(∀cs∈M,cs.length=4)->k<M.length->M.flatten.take (k*4)++M.flatten.drop ((k+1)*4)=(M.eraseIdx k).flatten
 |[],k,_,h=>by simp at h
 |c::r,0,h,_=>by
  have hc:=h c aF;rw[List.flatten_cons,show(0+1)*4=c.length by omega];simp
 |c::r,k+1,h,Z=>by
  have hc:=h c aF;rw[List.flatten_cons,show(k+1)*4=c.length+k*4 by omega,List.take_length_add_append,show(k+1+1)*4=c.length+(k+1)*4 by omega,List.drop_length_add_append,bg,y9 (fun cs hc=>h cs (aD _ hc)) (by simpa using Z),List.eraseIdx_cons_succ,List.flatten_cons]
theorem getElem?_erase{α:Type}{l:List α}{j:Nat}:(l.eraseIdx k)[j]? =l[dq k j]? :=by
 unfold dq;rw[List.getElem?_eraseIdx];split<;>rfl
theorem Fr.erase{w:World}(h:Fr w S M qs)(k:Nat):Fr w S (M.eraseIdx k) (qs.eraseIdx k):=
 ⟨by rw[List.length_eraseIdx,List.length_eraseIdx,h.1],fun j cs q W I=>by
  rw[getElem?_erase]at W I
  exact h.2 _ cs q W I⟩
theorem EP:(ints l).take (k*1)++(ints l).drop ((k+1)*1)=ints (l.eraseIdx k):=by
 unfold ints;rw[bC,bC,<-List.map_take,<-List.map_drop,<-List.map_append,<-List.eraseIdx_eq_take_drop_succ]
theorem ql:∀u∈ints l,u.oneCell'=true:=fun u hu=>by
 obtain⟨n,-,rfl⟩:=bD.1 hu;rfl
section
variable{S:Nat->Prop}{H:Hp}{nx:Nat}{iv:Iv}{B:Nat}{w J F:World}{O:Nat->Sx.dc}{x:Tx}{t:Tb}{hd rvx:List Value}{v v0:Value}
structure LZ(w J F:World)(S:Nat->Prop)(B:Nat)(iv:Iv)(hd rvx:List Value)(x x':Tx)(t':Tb):Prop where
 iH:rk F S B ((J.heap.size,F.heap.size)::iv) hd rvx x' t'
 DZ:∀g,Lv S B iv x g->F.heap[g]? =w.heap[g]? /\Lv S B ((J.heap.size,F.heap.size)::iv) x' g
 kept:Kept J F (Bv x.cX)
 AI:∀g,Bv x'.cX g->Bv x.cX g
theorem cj.shr(hT:cj w S B iv x t)(r:Rel H nx iv B w O J)(L:∀g,S g->g<B){x':Tx}{t':Tb}(h0:∀g,v0.ownBlock=some g->Bv x.cX g)(E:∀g,Bv x'.cX g->v.ownBlock=some g\/Bv x.cX g)(h6:J.grownBy F v0.ownBlock)(h7:v.ownBlock=v0.ownBlock)
  (hJ:∀S':Nat->Prop,(∀g,g<J.heap.size->v0.ownBlock≠some g->F.heap[g]? =J.heap[g]?)->(∀g,v.ownBlock=some g->v0.ownBlock=some g\/J.heap.size<=g)->(∀g,Lv S B iv x g->g<J.heap.size)->(∀g,Lv S B iv x g->S' g)->(∀g,Bv x'.cX g->¬S' g)->nB F S' hd rvx x' t'):
  LZ w J F S B iv hd rvx x x' t':=by
 have hold:=Lv.old (x:=x) r L;have OM:∀g,g<J.heap.size->v0.ownBlock≠some g->F.heap[g]? =J.heap[g]? :=fun g V OL=>h6.block g V (Ne.symm OL);have OT:∀g,Bv x'.cX g->Bv x.cX g:=fun g V=>(E g V).elim (fun h=>h0 g (h7▸h)) id;have Qr:∀p,p∈iv->p∈(J.heap.size,F.heap.size)::iv:=fun p hp=>aD _ hp;have hL:∀g,Lv S B iv x g->Lv S B ((J.heap.size,F.heap.size)::iv) x' g:=fun g V=>⟨V.1.mono Qr,fun N=>V.2 (OT g N)⟩
 exact⟨⟨hJ (Lv S B ((J.heap.size,F.heap.size)::iv) x') OM (fun g V=>.inl (h7▸V)) hold hL fun g N hl=>hl.2 N,fun g V=>(hT.kL g (OT g V)).mono Qr⟩,fun g V=>⟨(OM g (hold g V) fun e=>V.2 (h0 g e)).trans (Lv.same r L g V),hL g V⟩,Kept.one h6 fun g e=>h0 g e,OT⟩
theorem cj.NU(hT:cj w S B iv x t)(r:Rel H nx iv B w O J)(L:∀g,S g->g<B)(h5:F.ownsRow 0 T.int 1 v l.length (ints l))(h6:J.grownBy F x.vf.ownBlock)(h7:v.ownBlock=x.vf.ownBlock):
  LZ w J F S B iv x.hd x.rv x {x with vf:=v} {t with fs:=l}:=
 hT.shr (v0:=x.vf) r L (fun g e=>Bv.cX.2 (.inr (.inr (.inl e)))) (fun g h=>by rw[Bv.cX]at h ⊢;simp only at h;rcases h with h|h|h|h|h|h|h<;>simp[h]) h6 h7 fun S' k1 k2 k3 k4 k5=>(hT.rel r L).iH.toJ.MX k1 h5 k2 k3 k4 k5
theorem cj.NV(hT:cj w S B iv x t)(r:Rel H nx iv B w O J)(L:∀g,S g->g<B)(h5:∀S':Nat->Prop,(∀g,Lv S B iv x g->S' g)->gA F S' v q.length q)(h6:J.grownBy F x.vc.ownBlock)(h7:v.ownBlock=x.vc.ownBlock):
  LZ w J F S B iv x.hd x.rv x {x with vc:=v} {t with c:=q}:=
 hT.shr (v0:=x.vc) r L (fun g e=>Bv.cX.2 (.inr (.inr (.inr (.inr (.inr (.inl e))))))) (fun g h=>by rw[Bv.cX]at h ⊢;simp only at h;rcases h with h|h|h|h|h|h|h<;>simp[h]) h6 h7 fun S' k1 k2 k3 k4 k5=>(hT.rel r L).iH.toJ.MY k1 (h5 S' k4) k2 k3 k4 k5
theorem cj.NW(hT:cj w S B iv x t)(r:Rel H nx iv B w O J)(L:∀g,S g->g<B){i:Nat}(hv:x.rv[i]? =some v0)(h5:∀S':Nat->Prop,(∀g,Lv S B iv x g->S' g)->gA F S' v q.length q)(h6:J.grownBy F v0.ownBlock)(h7:v.ownBlock=v0.ownBlock):
  LZ w J F S B iv x.hd x.rv x {x with rv:=x.rv.set i v} {t with a:=t.a.set i q}:=
 hT.shr (v0:=v0) r L (fun g e=>Bv.cX.2 (.inr (.inr (.inr (.inr (.inr (.inr ⟨v0,aG hv,e⟩))))))) (fun g h=>by
  rw[Bv.cX]at h ⊢;simp only at h;rcases h with h|h|h|h|h|h|h
  any_goals simp[h]
  rcases Bv.set h with h|h<;>simp[h]) h6 h7 fun S' k1 k2 k3 k4 k5=>(hT.rel r L).iH.toJ.MZ hv k1 (h5 S' k4) k2 k3 k4 k5
theorem cj.Ik(hT:cj w S B iv x t)(r:Rel H nx iv B w O J)(L:∀g,S g->g<B){c g:Nat}(hv:x.vf= .slice (some ⟨g,0,none⟩) n c)(U:t.fs.length=n)(Z:k<n)(Tm:n<=1000000):
  eD PG Fd.fT #[.slice (some ⟨g,0,none⟩) n c,.int .i64 k,iV ((k+1:Nat):Int)] J (fun e F=>e= .returned (.slice (some ⟨g,0,none⟩) (n-1) c)/\LZ w J F S B iv x.hd x.rv x {x with vf:=.slice (some ⟨g,0,none⟩) (n-1) c} {t with fs:=t.fs.eraseIdx k}):=by
 obtain⟨tp,cb,cc,ca,hC⟩:=(hT.rel r L).iH;have ho:=hC.ows.own ⟨x.vf,T.int,1,t.fs.length,ints t.fs⟩ (by simp[gL]);have ho:J.ownsRow 0 T.int 1 x.vf t.fs.length (ints t.fs):=ho;rw[hv,U]at ho;refine(Gu ho Z Tm ql).mono fun e F G=>?_;obtain⟨rfl,W,I⟩:=G;refine⟨rfl,hT.NU r L (l:=t.fs.eraseIdx k) ?_ (by rw[hv];exact W) (by rw[hv];rfl)⟩;rw[EP]at I;rw[List.length_eraseIdx,aM be,U];exact I
theorem fL.Fp{w:World}{S:Nat->Prop}{cb cc:List (List Value)}{c g:Nat}{v:Value}(hC:fL w S x t tp cb cc ca)(hm:fV v M∈gL x t tp cb cc ca)(hF:Fr w S M qs)(hv:v= .slice (some ⟨g,0,none⟩) n c)(U:qs.length=n)(Z:k<n)(Tm:n<=1000000):
  eD PG Fd.dR #[.slice (some ⟨g,0,none⟩) n c,.int .i64 k,iV ((k+1:Nat):Int)] w (fun e F=>e= .returned (.slice (some ⟨g,0,none⟩) (n-1) c)/\w.grownBy F (some g)/\∀S':Nat->Prop,(∀g,S g->S' g/\F.heap[g]? =w.heap[g]?)->gA F S' (.slice (some ⟨g,0,none⟩) (n-1) c) (qs.eraseIdx k).length (qs.eraseIdx k)):=by
 have ho:w.ownsRow 0 T.cw 4 v M.length M.flatten:=hC.ows.own _ hm;have QM:=hF.1;rw[hv,QM,U]at ho;refine(Gv ho Z Tm hF.one).mono fun e F G=>?_;obtain⟨rfl,W,I⟩:=G;refine⟨rfl,W,fun S' hs=>⟨M.eraseIdx k,?_,by rw[List.length_eraseIdx,List.length_eraseIdx,QM],((hF.erase k).cP fun g V=>(hs g V).2).cO fun g V=>(hs g V).1⟩⟩;rw[y9 hF.rj be]at I;rw[List.length_eraseIdx,aM be,U];exact I
theorem cj.Il(hT:cj w S B iv x t)(r:Rel H nx iv B w O J)(L:∀g,S g->g<B){i c g:Nat}(R:i<t.a.length)(hv:x.rv[i]? =some (.slice (some ⟨g,0,none⟩) n c))(U:(t.a.getD i []).length=n)(Z:k<n)(Tm:n<=1000000):
  eD PG Fd.dR #[.slice (some ⟨g,0,none⟩) n c,.int .i64 k,iV ((k+1:Nat):Int)] J (fun e F=>e= .returned (.slice (some ⟨g,0,none⟩) (n-1) c)/\LZ w J F S B iv x.hd x.rv x {x with rv:=x.rv.set i (.slice (some ⟨g,0,none⟩) (n-1) c)} {t with a:=t.a.set i ((t.a.getD i []).eraseIdx k)}):=by
 obtain⟨tp,cb,cc,ca,hC⟩:=(hT.rel r L).iH;obtain⟨v',M,W,I,h3,h4⟩:=hC.row R;rw[W]at hv;injection hv with hv;have hI:=hC.rowAt W I;have Sq:∀g',v'.ownBlock=some g'->Bv x.cX g':=fun g' V=>by rw[<-hC.cX];exact j0.bk (aG hI) V
 refine(hC.Fp (aG hI) h3 hv U Z Tm).mono fun e F G=>?_;obtain⟨rfl,k1,k2⟩:=G;have k1':J.grownBy F v'.ownBlock:=by rw[hv];exact k1
 exact⟨rfl,hT.NW r L W (fun S' hs=>k2 S' fun g' V=>⟨hs g' V,k1'.block g' (Lv.old r L g' V) fun e=>V.2 (Sq g' e.symm)⟩) k1' (by rw[hv];rfl)⟩
theorem cj.Im(hT:cj w S B iv x t)(r:Rel H nx iv B w O J)(L:∀g,S g->g<B){c g:Nat}(hv:x.vc= .slice (some ⟨g,0,none⟩) n c)(U:t.c.length=n)(Z:k<n)(Tm:n<=1000000):
  eD PG Fd.dR #[.slice (some ⟨g,0,none⟩) n c,.int .i64 k,iV ((k+1:Nat):Int)] J (fun e F=>e= .returned (.slice (some ⟨g,0,none⟩) (n-1) c)/\LZ w J F S B iv x.hd x.rv x {x with vc:=.slice (some ⟨g,0,none⟩) (n-1) c} {t with c:=t.c.eraseIdx k}):=by
 obtain⟨tp,cb,cc,ca,hC⟩:=(hT.rel r L).iH;have hm:fV x.vc cc∈gL x t tp cb cc ca:=by simp[gL]
 have Sq:∀g',x.vc.ownBlock=some g'->Bv x.cX g':=fun g' V=>by rw[<-hC.cX];exact j0.bk hm V
 refine(hC.Fp hm hC.fc hv U Z Tm).mono fun e F G=>?_;obtain⟨rfl,k1,k2⟩:=G;have k1':J.grownBy F x.vc.ownBlock:=by rw[hv];exact k1
 exact⟨rfl,hT.NV r L (fun S' hs=>k2 S' fun g' V=>⟨hs g' V,k1'.block g' (Lv.old r L g' V) fun e=>V.2 (Sq g' e.symm)⟩) k1' (by rw[hv];rfl)⟩
theorem cj.Io(hT:cj w S B iv x t)(r:Rel H nx iv B w O J)(L:∀g,S g->g<B)(U:t.fs.length<=n)(hm:n<=maxLen):fF J (fun g=>Bv x.cX g) x.vf t.fs:=by
 obtain⟨tp,cb,cc,ca,hC⟩:=(hT.rel r L).iH;have ho:J.ownsRow 0 T.int 1 x.vf t.fs.length (ints t.fs):=hC.ows.own ⟨x.vf,T.int,1,t.fs.length,ints t.fs⟩ (by simp[gL]);rcases ho.2 with⟨e,h0⟩|⟨g,cap,cur,e,N,hc,RL,Pu,Od,QJ⟩
 .exact⟨be,by rw[aJ,bC],ql,none,0,by rw[e,h0],be,fun j u hu=>by
   have:=dx hu;rw[aJ]at this
   omega⟩
 .exact⟨be,by rw[aJ,bC],ql,some ⟨g,0,none⟩,cap,e,RL,fun j u hu=>⟨_,rfl,Bv.cX.2 (.inr (.inr (.inl (by rw[e];rfl)))),ho.cells (g:=g) (by rw[e];rfl) j u hu⟩⟩
theorem cj.L0(hT:cj w S B iv x t)(r:Rel H nx iv B w O J)(L:∀g,S g->g<B)(U:t.bs.length<=n)(hm:n<=maxLen):fF J (fun g=>Bv x.cX g) x.vb t.bs:=by
 obtain⟨tp,cb,cc,ca,hC⟩:=(hT.rel r L).iH;have ho:J.ownsRow 0 T.int 1 x.vb t.bs.length (ints t.bs):=hC.ows.own ⟨x.vb,T.int,1,t.bs.length,ints t.bs⟩ (by simp[gL]);rcases ho.2 with⟨e,h0⟩|⟨g,cap,cur,e,N,hc,RL,Pu,Od,QJ⟩
 .exact⟨be,by rw[aJ,bC],ql,none,0,by rw[e,h0],be,fun j u hu=>by
   have:=dx hu;rw[aJ]at this
   omega⟩
 .exact⟨be,by rw[aJ,bC],ql,some ⟨g,0,none⟩,cap,e,RL,fun j u hu=>⟨_,rfl,Bv.cX.2 (.inr (.inl (by rw[e];rfl))),ho.cells (g:=g) (by rw[e];rfl) j u hu⟩⟩
end
end Go.Ex
