/- Texts X227 to L90: lemmas, each with its conditions. -/
import Derived.Test.YtgkpbdkechfgmaaGreatP15
namespace Go.Ex
open Go Go.Sx Go.Proofs
variable{b:List (Int×Int)}{M:List (List (Int×Int))}{rv:List Value}{h0:Nat}{S:Nat->Prop}{w:World}
theorem Me{f:fC}(hv:FrV f):db ((cT f).map jN)=f.cols:=by
 have St:=iX f
 cases h:cT f with
 |nil=>
  rw[h]at St;have h0:f.nodes.length=0:=by simp at St;omega
  have hb:f.bars=[]:=by
   cases hb:f.bars with
   |nil=>rfl
   |cons b t=>
    obtain⟨ka,kb,_,_,L,_⟩:=hv.Ng b (by rw[hb];exact aF ..);omega
  have hs:f.cZ=[]:=by
   cases hs:f.cZ with
   |nil=>rfl
   |cons b t=>
    have:=(hv.sup b (by rw[hs];exact aF ..)).1;omega
  unfold fC.cols;rw[hb,hs];rfl
 |cons r t=>
  show(jN r).length=f.cols;rw[rS];exact fQ f r (by rw[h];exact aF ..)
theorem KL{vm:Value}{n cols:Nat}{M:List (List Rat)}(X:Old S w)(hM:iq w S vm rv n M)(R0:∀g,S g->¬Mb vm rv g)(R:n<=1000000)(hR:M.length<=1000000)(Pp:cols<=n)
  (Pc:∀c,c<=cols->Ht (cQ M c).1 h0) (G:2<=h0) (hb:4*h0<=500000000):
  eI PG F'.uW #[vm,.int .i64 cols] w (fun e V=>∃v rv',e= .returned v/\Kept w V (Mb vm rv)/\iq V (Nw S w V) vm rv' n (cQ M cols).1/\(∀g,Mb vm rv' g↔Mb vm rv g)/\
   ie V (Nf w V) 1 v ((cQ M cols).2.map fun c:Nat=>.int .i64 (c:Int)) (cQ M cols).2.length):=by
 have Og:=hM.low;have QR:∀iv g,Mb vm rv g->Out w.heap.size iv g:=fun iv g Y=>.inl (Og g Y);have TV:∀iv g,Cv S w.heap.size iv g->¬Mb vm rv g:=fun iv g h Y=>by
  rcases h with h|⟨h,_⟩
  ·exact R0 g h Y
  ·have:=Og g Y;omega
 obtain⟨am,cm,rfl,So⟩:=fF hM.out;have hlen:=hM.len;generalize hRdef:rv.length=EQ at*
 have hMl:=hlen;replace hM:=hM.cN (S':=Cv S w.heap.size []) fun _ h=>.inl h;refine yT (by simp) ?_;conv=>whnf
 refine⟨Nat×List Value×List (List Rat)×List Nat×Iv×World,fun z=>⟨[(0,sV am EQ cm),(1,iZ cols),(5,.o (.w 0 z.2.2.2.1.length)),(6,iZ z.1)],
   [(0,.vec T.int 1 (z.2.2.2.1.map fun c:Nat=>.int .i64 (c:Int)))],1,z.2.2.2.2.1,z.2.2.2.2.2⟩,fun z=>cols-z.1,
  fun z=>z.1<=cols/\Kept w z.2.2.2.2.2 (Mb (.slice am EQ cm) rv)/\iq z.2.2.2.2.2 (Cv S w.heap.size z.2.2.2.2.1) (.slice am EQ cm) z.2.1 n z.2.2.1/\(∀g,Mb (.slice am EQ cm) z.2.1 g↔Mb (.slice am EQ cm) rv g)/\
   z.2.1.length=EQ/\(z.2.2.1,z.2.2.2.1)=(List.range z.1).foldl dW (M,[])/\z.2.2.2.1.length<=EQ/\Ht z.2.2.1 h0,?_,?_⟩
 ·intro O J r
  refine⟨(0,rv,M,[],[],J),⟨by simp,Kept.refl.cU r.cU (Nat.le_refl _),hM.rel r X Og,fun g=>Iff.rfl,hRdef,rfl,by simp,Pc 0 (aQ _)⟩,Sub.nil 5 T.int 1 rfl (by simp[jw,SV.sc,At.sc,fW]) r fun Id r1=>
   Sub.gn [] r1⟩
 clear hM;rintro⟨c,rv1,M1,pv,iv,w1⟩ ⟨hc,hK,hM,Sy,Po,Si,Pv,hht1⟩;dsimp only at hc hK hM Sy Po Si Pv hht1 ⊢;have hlM:M1.length=EQ:=by rw[<-hM.len,Po]
 have S4:w1.ownsRow 0 T.row 1 (.slice am EQ cm) EQ rv1:=by have:=hM.out;rwa [Po]at this
 have htot:cols<=c\/EQ<=pv.length->(M1,pv)=cQ M cols:=fun h=>by
  unfold cQ;rcases h with h|h
  ·have:c=cols:=by omega
   rw[Si,this]
  ·have N:List.range cols=List.range c++(List.range (cols-c)).map (c+ ·):=by
    rw[<-List.range_add];congr 1;omega
   rw[N,List.foldl_append,<-Si,AH (by simp only;omega)]
 conv=>whnf
 refine dQ.mk ?_ ?_<;>intro h
 ·have h:c<cols:=by simpa using h
  conv=>whnf
  refine⟨by simp,?_⟩;conv=>whnf
  refine dQ.mk ?_ ?_<;>intro hp
  ·have hp:pv.length<EQ:=by simpa using hp
   have QM:∀{v:Value} {k gx:Nat},rv1[k]? =some v->v.ownBlock=some gx->Mb (.slice am EQ cm) rv gx:=fun L G=>(Sy _).1 (.inr ⟨_,aC L,G⟩);conv=>whnf
   refine⟨by simp,?_⟩;conv=>whnf
   refine⟨Nat×Iv×World,fun z=>⟨[(0,sV am EQ cm),(1,iZ cols),(5,.o (.w 0 pv.length)),(6,iZ c),(7,iZ pv.length),(8,iZ z.1)],
     [(0,.vec T.int 1 (pv.map fun c:Nat=>.int .i64 (c:Int)))],1,z.2.1,z.2.2⟩,fun z=>EQ-z.1,
    fun z=>pv.length<=z.1/\z.1<=EQ/\Kept w z.2.2 (Mb (.slice am EQ cm) rv)/\iq z.2.2 (Cv S w.heap.size z.2.1) (.slice am EQ cm) rv1 n M1/\fw M1 c (EQ-z.1) z.1=fw M1 c (EQ-pv.length) pv.length,?_,?_⟩
   ·intro O J r
    exact⟨(pv.length,iv,J),⟨Nat.le_refl _,by dsimp only;omega,hK.cU r.cU (Nat.le_refl _),hM.rel r X (fun g Y=>Og g ((Sy g).1 Y)),rfl⟩,
     Sub.gn [] r⟩
   clear hK hM S4;rintro⟨k,Od,V⟩ ⟨S5,hkR,hK,hM,hfk⟩;dsimp only at S5 hkR hK hM hfk ⊢;conv=>whnf
   refine dQ.mk ?_ ?_<;>intro D
   ·have D:k<EQ:=by simpa using D
    obtain⟨gm,g,ck,q,d1,e1,m1,k1,d2,e2,m2,k2,rfl,hE⟩:=hM.elem (k:=k) (c:=c) (by omega) (by omega);have WN:=QM hE.rv rfl;conv=>whnf
    refine⟨⟨gm,0,none⟩,rfl,by omega,?_⟩;conv=>whnf
    refine⟨.slice (some ⟨g,0,none⟩) n ck,fun O J r=>kH hE.outer (QR _ _ (.inl (by rw[dF];rfl))) r,?_⟩;conv=>whnf
    refine⟨⟨g,0,none⟩,rfl,by omega,?_⟩;conv=>whnf
    refine⟨[.bool d1,.slice e1 m1 k1,.bool d2,.slice e2 m2 k2],rfl,fun O J r j x F=>kH (hE.cells j x F) (QR _ _ (by rw[dF,dF];exact WN)) r,?_⟩;conv=>whnf
    refine cJ (cO (If:=fun _ _ v _=>v= .int .i64 (rs q)) (fun O J r=>vG (Rel.old r X) (hE.aAk.rel r X)) ?_);rintro O wa v1 wb r U PD rfl;replace hM:=hM.cM (K:=(wa.heap.size,wb.heap.size)::Od) r X (fun g Y=>Og g ((Sy g).1 Y)) U fun x F=>aB _ F;replace hK:=hK.cU PD (Nat.le_refl _);have hq:=hE.at_;clear r U PD hE WN;generalize (wa.heap.size,wb.heap.size)::Od=Oq at*
    conv=>whnf
    refine dQ.mk ?_ ?_<;>intro h0
    ·have h0:q=0:=by
      have:rs q=0:=eq_of_beq h0;exact Rat.num_eq_zero.1 (bo.1 this)
     have Ou:fw M1 c (EQ-(k+1)) (k+1)=fw M1 c (EQ-pv.length) pv.length:=by
      rw[<-hfk,show EQ-k=(EQ-(k+1))+1 by omega,zS (by rw[hq,h0])]
     conv=>whnf
     refine⟨((k+1:Nat):Int),wo,?_⟩;conv=>whnf
     intro GT w3 E
     exact⟨(k+1,Oq,w3),⟨by dsimp only;omega,D,hK.cU E.cU (Nat.le_refl _),hM.rel E X (fun g Y=>Og g ((Sy g).1 Y)),Ou⟩,
      Sub.gn [] E,by dsimp only;omega⟩
    ·have h0':q≠0:=fun e=>by rw[e]at h0;exact absurd h0 (by decide)
     clear h0;have hfk2:fw M1 c (EQ-pv.length) pv.length=k:=by
      rw[<-hfk,show EQ-k=(EQ-(k+1))+1 by omega,zT (by rw[hq];exact h0')]
     conv=>whnf
     refine dQ.mk ?_ ?_<;>intro UK
     ·exact absurd (eq_of_beq UK) (by omega)
     clear UK;conv=>whnf
     refine cR hτ dx [.x 0,.x 1,.x 2,.x 3,.x 4,.x 5,.x 6,.x 7,.x 8,.x 9,.x 10,.x 11,.x 12,.x 13,.x 14,.x 15] (by kernel_rfl) (by kernel_rfl) ?_;conv=>whnf
     obtain⟨vk,hvk⟩:∃v,rv1[k]? =some v:=⟨_,aA (by omega)⟩
     obtain⟨va,UO⟩:∃v,rv1[pv.length]? =some v:=⟨_,aA (by omega)⟩
     obtain⟨_,Qo,Of⟩:=hM.outer hvk;injection Qo with Qo;injection Qo with Qo;subst Qo;obtain⟨_,Qo,hoa⟩:=hM.outer UO;injection Qo with Qo;injection Qo with Qo;subst Qo;obtain⟨cssk,Wf,-,-⟩:=hM.row k vk M1[k] hvk (aA (by omega));obtain⟨cssa,UD,-,-⟩:=hM.row pv.length va M1[pv.length] UO (aA (by omega));obtain⟨ak,ck',rfl,-⟩:=fF Wf;obtain⟨aa,ca,rfl,-⟩:=fF UD;clear Wf UD;have UE:∀{iv x},Out w.heap.size iv ((Addr.add ⟨gm,0,none⟩ x).block):=fun{iv x}=>QR _ _ (.inl (by rw[dF];rfl));refine⟨⟨gm,0,none⟩,rfl,by omega,?_⟩;conv=>whnf
     refine⟨.slice ak n ck',fun O J r=>kH Of UE r,?_⟩;conv=>whnf
     refine⟨⟨gm,0,none⟩,rfl,by omega,?_⟩;conv=>whnf
     refine⟨.slice aa n ca,fun O J r=>kH hoa UE r,?_⟩;conv=>whnf
     refine⟨⟨gm,0,none⟩,rfl,by omega,?_⟩;conv=>whnf
     intro O J r;have Wx:(⟨gm,0,none⟩:Addr).add ((pv.length:Int).toNat*1)=⟨gm,pv.length*1,none⟩:=by rw[aE,dL,aT]
     have Pg:(⟨gm,0,none⟩:Addr).add ((k:Int).toNat*1)=⟨gm,k*1,none⟩:=by rw[aE,dL,aT]
     have hMw:=hM.rel r X (fun g Y=>Og g ((Sy g).1 Y));obtain⟨g',Qr,hok1,Wy,Ug,hsz1⟩:=j3 (nv:=[.slice ak n ck']) hMw.out (by rw[Po]) (show pv.length<rv1.length by omega) rfl (by decide);injection Qr with Qr;injection Qr with Qr;subst Qr;rw[Eg (by omega)]at Wy;have Pa:=fun id b hb R=>Rel.not (S:=fun g=>g<w.heap.size) r (fun _ h=>h) (QR Oq gm (.inl rfl)) id b hb R;have hgm1:gm<J.heap.size:=by have:=Og gm (.inl rfl);have:=r.cI;omega
     have Vi:Kept w (setCells J ⟨gm,pv.length*1,none⟩ [.slice ak n ck']) (Mb (.slice (some ⟨gm,0,none⟩) EQ cm) rv):=(hK.cU r.cU (Nat.le_refl _)).row Ug (fun g Y=>.inl Y);have hold:∀g,Cv S w.heap.size Oq g\/Mb (.slice (some ⟨gm,0,none⟩) EQ cm) rv1 g->g<J.heap.size:=fun g Y=>Y.elim (Rel.old r X g) (fun Y=>by have:=Og g ((Sy g).1 Y);have:=r.cI;omega);clear hK hM Of hoa r;refine⟨by rw[Wx],fun j hj=>by rw[Wx];exact hok1 j hj,fun id b hb R=>by rw[Wx];exact Pa id b hb R,fun w4 hw4=>?_⟩;have hw4:w4=setCells J ⟨gm,pv.length*1,none⟩ [.slice ak n ck']:=by rw[hw4];exact congrArg (fun x=>setCells J x _) Wx
     rw[<-hw4]at Vi Wy Ug hsz1;clear hw4 hok1 Pa;conv=>whnf
     refine⟨⟨gm,0,none⟩,rfl,by omega,?_⟩;conv=>whnf
     intro O w5 r;have hst2:=fc Wy (fun g Y=>QR Oq g (.inl Y)) r;obtain⟨g',Qr,hok2,hst3,Uh,hsz2⟩:=j3 (nv:=[.slice aa n ca]) hst2 (by rw[Po]) (show k<rv1.length by omega) rfl (by decide);injection Qr with Qr;injection Qr with Qr;subst Qr;rw[Eg (by simp;omega)]at hst3;have Pa:=fun id b hb R=>Rel.not (S:=fun g=>g<w.heap.size) r (fun _ h=>h) (QR Oq gm (.inl rfl)) id b hb R;have Qh:Kept w (setCells w5 ⟨gm,k*1,none⟩ [.slice aa n ca]) (Mb (.slice (some ⟨gm,0,none⟩) EQ cm) rv):=(Vi.cU r.cU (Nat.le_refl _)).row Uh (fun g Y=>.inl Y);have QO:∀g,Cv S w.heap.size Oq g\/Mb (.slice (some ⟨gm,0,none⟩) EQ cm) rv1 g->(Value.slice (some ⟨gm,0,none⟩) EQ cm).ownBlock≠some g->(setCells w5 ⟨gm,k*1,none⟩ [.slice aa n ca]).heap[g]? =J.heap[g]? :=fun g Y Oe=>by
      have Wd:some g≠some gm:=fun e=>Oe e.symm;have N:w4.heap[g]? =J.heap[g]? :=Ug.block g (hold g Y) Wd;have h4:w5.heap[g]? =w4.heap[g]? :=Y.elim (fun Y=>Rel.same r X Y) (fun Y=>Rel.same (S:=fun g=>g<w.heap.size) r (fun _ h=>h) (QR Oq g ((Sy g).1 Y)));have h5:=Uh.block g (by have:=hold g Y;have:=r.size;omega) Wd;rw[h5,h4,N]
     have SB:=hMw.swap (fun g Y hm=>TV Oq g Y ((Sy g).1 hm)) UO hvk hst3 QO;have Rd:∀g,Mb (.slice (some ⟨gm,0,none⟩) EQ cm) ((rv1.set pv.length (.slice ak n ck')).set k (.slice aa n ca)) g↔Mb (.slice (some ⟨gm,0,none⟩) EQ cm) rv g:=fun g=>(Mb.swap UO hvk).trans (Sy g);have SY:((rv1.set pv.length (.slice ak n ck')).set k (.slice aa n ca)).length=EQ:=by simp[Po]
     clear Vi hMw Wy hst2 r QO hold Ug hst3 QM;refine⟨by rw[Pg],fun j hj=>by rw[Pg];exact hok2 j hj,fun id b hb R=>by rw[Pg];exact Pa id b hb R,fun w6 hw6=>?_⟩;have hw6:w6=setCells w5 ⟨gm,k*1,none⟩ [.slice aa n ca]:=by rw[hw6];exact congrArg (fun x=>setCells w5 x _) Pg
     rw[<-hw6]at Qh SB;clear hw6 hok2 Pa Uh hsz2 hsz1;have QH:dD (gH [] M1 pv.length k) pv.length c=q:=by rw[zV (by omega) (by omega),hq]
     have hht2:=hht1.swap (i:=pv.length) (j:=k) (by omega) (by omega);have Om:dW (M1,pv) c=(du (scaled (gH [] M1 pv.length k) pv.length c) pv.length c EQ,pv++[c]):=by
      unfold dW;rw[if_pos (by dsimp only;omega)];dsimp only
      rw[hlM,hfk2,aH (by omega),j5,gE,hlM]
     have QV:(gH [] M1 pv.length k).length=EQ:=by rw[gE,hlM]
     generalize (rv1.set pv.length (.slice ak n ck')).set k (.slice aa n ca)=rv2 at*
     generalize gH [] M1 pv.length k=M2 at*
     have QM:∀{v:Value} {k gx:Nat},rv2[k]? =some v->v.ownBlock=some gx->Mb (.slice (some ⟨gm,0,none⟩) EQ cm) rv gx:=fun L G=>(Rd _).1 (.inr ⟨_,aC L,G⟩);conv=>whnf
     refine cR hτ dx [.x 0,.x 1,.x 2,.x 3,.x 5,.x 6,.x 7,.x 8,.x 9,.x 10,.x 11,.x 4,.x 12,.x 13] (by kernel_rfl) (by kernel_rfl) ?_;conv=>whnf
     obtain⟨_,g,ck,q2,d1,e1,m1,k1,d2,e2,m2,k2,Qo,hE⟩:=SB.elem (k:=pv.length) (c:=c) (by omega) (by omega);injection Qo with Qo;injection Qo with Qo;subst Qo;have Qd:q2=q:=by rw[<-hE.at_,QH]
     subst Qd;have WN:=QM hE.rv rfl;refine⟨⟨gm,0,none⟩,rfl,by omega,?_⟩;conv=>whnf
     refine⟨.slice (some ⟨g,0,none⟩) n ck,fun O J r=>kH hE.outer UE r,?_⟩;conv=>whnf
     refine⟨⟨gm,0,none⟩,rfl,by omega,?_⟩;conv=>whnf
     refine⟨.slice (some ⟨g,0,none⟩) n ck,fun O J r=>kH hE.outer UE r,?_⟩;conv=>whnf
     refine⟨⟨g,0,none⟩,rfl,by omega,?_⟩;conv=>whnf
     refine⟨[.bool d1,.slice e1 m1 k1,.bool d2,.slice e2 m2 k2],rfl,fun O J r j x F=>kH (hE.cells j x F) (QR _ _ (by rw[dF,dF];exact WN)) r,?_⟩;conv=>whnf
     have hwb0:dw w.heap.size w6 w6:=dw.refl;refine cO (If:=fun _ J v V=>cd V (Nf J V) v (((1:Int):Rat))) (fun O J r=>rX 1 J (by decide) (by decide)) ?_;rintro O wa v1 wb' r U PD hO;have Q4:=hO.dK (S:=S) r.cI (iv:=(wa.heap.size,wb'.heap.size)::Oq) aF;have hF:=hE.aAk.cM (K:=(wa.heap.size,wb'.heap.size)::Oq) r X U fun x F=>aB _ F;replace SB:=SB.cM (K:=(wa.heap.size,wb'.heap.size)::Oq) r X (fun g Y=>Og g ((Rd g).1 Y)) U fun x F=>aB _ F;replace Qh:=Qh.cU PD (Nat.le_refl _);have Ui:=hE.rv;clear r U PD hO hE;generalize (wa.heap.size,wb'.heap.size)::Oq=Ox at*
     obtain⟨b5,a5,n5,c5,b6,a6,n6,c6,rfl⟩:=Q4.shape;have PZ:(((1:Int):Rat))=1:=rfl;rw[PZ]at Q4;have hhq:rl q2+1<=h0:=by
      have N:dD M2 pv.length c=(M2.getD pv.length []).getD c 0:=rfl;rw[<-QH,N];have h4:M2.getD pv.length []=M2[pv.length]'(by omega):=by rw[List.getD,aA (by omega)];rfl
      rw[h4];exact ma (hht2.at (aA (by omega))) G c
     have hH2:2<=h0:=G;have RS:=hht2.scaled (a:=pv.length) (c:=c) hH2 (by omega) (by rw[QH];exact h0');conv=>whnf
     refine cO (If:=fun _ J v V=>cd V (Nf J V) v (1 / q2)) (fun O J r=>Ma (Rel.old r X) (Q4.rel r X) (hF.rel r X) (by decide) (by omega) h0') ?_;rintro O wc v2 wd r U PD hO;have Rl:=hO.dK (S:=S) r.cI (iv:=(wc.heap.size,wd.heap.size)::Ox) aF;replace SB:=SB.cM (K:=(wc.heap.size,wd.heap.size)::Ox) r X (fun g Y=>Og g ((Rd g).1 Y)) U fun x F=>aB _ F;replace Qh:=Qh.cU PD (Nat.le_refl _);clear r U PD hO Q4 hF;generalize (wc.heap.size,wd.heap.size)::Ox=PX at*
     obtain⟨b7,a7,n7,c7,b8,a8,n8,c8,rfl⟩:=Rl.shape;conv=>whnf
     have hinv:=Dj h0';have hMA:M2[pv.length]? =some (M2[pv.length]'(by omega)):=aA (by omega);have hMAd:M2.getD pv.length []=M2[pv.length]'(by omega):=by rw[List.getD,hMA];rfl
     have hqa:=hht2.at hMA;generalize hqsa:(M2[pv.length]'(by omega))=qsa at*
     refine⟨fun O J r=>?_⟩;have Sd:=SB.rel r X (fun g Y=>Og g ((Rd g).1 Y));obtain⟨Z,SU,SW,Vo⟩:=Sd.row pv.length _ qsa Ui hMA;refine(JF (Rel.old r X) SU Vo SW (Rl.rel r X) (fun x F RP=>TV PX x RP (QM Ui F)) (fun x F=>by have:=hqa x F;omega) (by omega)).mono fun e w4 U=>?_;obtain⟨rfl,PC,css',Wz,hr5,Xb⟩:=U;have hM3:=Sd.setRow (S':=Nw (Cv S w.heap.size PX) J w4) (Rel.old r X) (fun x F RP=>TV PX x F ((Rd x).1 RP)) Ui PC (fun x F=>.inl F) ⟨css',Wz,hr5,Xb⟩;refine⟨.tuple #[],_,(J.heap.size,w4.heap.size)::PX,rfl,r.qn (fun x F=>Rel.not (S:=fun g=>g<w.heap.size) r (fun _ h=>h) (QR PX x (QM Ui F))) PC,?_⟩;have hM4:=hM3.cN (S':=Cv S w.heap.size ((J.heap.size,w4.heap.size)::PX)) fun x F=>Nw.cv F r.cI;have Qb:M2.set pv.length (qsa.map (· *(1 / q2)))=scaled M2 pv.length c:=by unfold scaled;rw[hMAd,QH]
     rw[Qb]at hM4;have hK4:Kept w w4 _:=(Qh.cU r.cU (Nat.le_refl _)).row PC (fun x F=>QM Ui F);have QU:(scaled M2 pv.length c).length=EQ:=by rw[j5,QV]
     clear Qh SB Sd SU Vo Wz Xb hM3 PC r Rl Qb hMA hMAd;generalize (J.heap.size,w4.heap.size)::PX=Q8 at*
     generalize scaled M2 pv.length c=M3 at*
     conv=>whnf
     refine⟨Nat×Iv×World,fun z=>⟨[(0,.o (.v (.slice (some ⟨gm,0,none⟩) EQ cm))),(1,iZ cols),(5,.o (.w 0 pv.length)),(6,iZ c),(7,iZ pv.length),(75,iZ EQ),(76,iZ z.1)],
       [(0,.vec T.int 1 (pv.map fun c:Nat=>.int .i64 (c:Int)))],1,z.2.1,z.2.2⟩,fun z=>EQ-z.1,
      fun z=>z.1<=EQ/\Kept w z.2.2 (Mb (.slice (some ⟨gm,0,none⟩) EQ cm) rv)/\iq z.2.2 (Cv S w.heap.size z.2.1) (.slice (some ⟨gm,0,none⟩) EQ cm) rv2 n (du M3 pv.length c z.1),?_,?_⟩
     ·intro O J r
      exact⟨(0,Q8,J),⟨by dsimp only;omega,hK4.cU r.cU (Nat.le_refl _),by rw[Df];exact hM4.rel r X (fun g Y=>Og g ((Rd g).1 Y))⟩,
       Sub.gn [] r⟩
     clear hK4 hM4;rintro⟨i,Qj,w7⟩ ⟨A,hK,hM⟩;dsimp only at A hK hM ⊢;conv=>whnf
     refine dQ.mk ?_ ?_<;>intro Rz
     ·have Rz:i<EQ:=by simpa using Rz
      conv=>whnf
      refine dQ.mk ?_ ?_<;>intro Oe
      ·have Oe:i≠pv.length:=fun e=>by
        rw[e]at Oe;simp at Oe
       conv=>whnf
       refine cR hτ dx [.x 0,.x 1,.x 2,.x 3,.x 4,.x 5,.x 6,.x 7,.x 8,.x 9,.x 10,.x 12,.x 13,.x 14,.x 15,.x 11,.x 16] (by kernel_rfl) (by kernel_rfl) ?_;conv=>whnf
       obtain⟨_,gi,ci,qi,d1',e1',m1',k1',d2',e2',m2',k2',Qo,hE⟩:=hM.elem (k:=i) (c:=c) (by omega) (by omega);injection Qo with Qo;injection Qo with Qo;subst Qo;obtain⟨va2,Vp⟩:∃v,rv2[pv.length]? =some v:=⟨_,aA (by omega)⟩
       obtain⟨_,Qo,hoa⟩:=hM.outer Vp;injection Qo with Qo;injection Qo with Qo;subst Qo;obtain⟨ri,hri⟩:∃r,M3[i]? =some r:=⟨_,aA (by omega)⟩
       obtain⟨ra,UD⟩:∃r,M3[pv.length]? =some r:=⟨_,aA (by omega)⟩
       have hri2:(du M3 pv.length c i)[i]? =some ri:=by rw[HW M3 pv.length c i i (Nat.le_refl _)];exact hri
       have hra2:(du M3 pv.length c i)[pv.length]? =some ra:=by rw[zW];exact UD
       have VE:(du M3 pv.length c i).getD i []=ri:=by rw[List.getD,hri2];rfl
       have SA:qi=ri.getD c 0:=by rw[<-hE.at_,dD,VE]
       have hrad:M3.getD pv.length []=ra:=by rw[List.getD,UD];rfl
       obtain⟨cssa,hraw,-,-⟩:=hM.row pv.length va2 ra Vp hra2;obtain⟨aa2,ca2,rfl,-⟩:=fF hraw;clear hraw;have WN:=QM hE.rv rfl;refine⟨⟨gm,0,none⟩,rfl,by omega,?_⟩;conv=>whnf
       refine⟨.slice (some ⟨gi,0,none⟩) n ci,fun O J r=>kH hE.outer UE r,?_⟩;conv=>whnf
       refine⟨⟨gm,0,none⟩,rfl,by omega,?_⟩;conv=>whnf
       refine⟨.slice (some ⟨gi,0,none⟩) n ci,fun O J r=>kH hE.outer UE r,?_⟩;conv=>whnf
       refine⟨⟨gi,0,none⟩,rfl,by omega,?_⟩;conv=>whnf
       refine⟨[.bool d1',.slice e1' m1' k1',.bool d2',.slice e2' m2' k2'],rfl,fun O J r j x F=>kH (hE.cells j x F) (QR _ _ (by rw[dF,dF];exact WN)) r,?_⟩;conv=>whnf
       refine⟨⟨gm,0,none⟩,rfl,by omega,?_⟩;conv=>whnf
       refine⟨.slice aa2 n ca2,fun O J r=>kH hoa UE r,?_⟩;conv=>whnf
       refine cO (If:=fun _ J v V=>cd V (Nw (Cv S w.heap.size Qj) J V) v (-qi)) (fun O J r=>BK (Rel.old r X) (hE.aAk.rel r X)) ?_;rintro O wa v1 wb' r U PD hO;have Rl:=hO.old r.cI;replace hM:=hM.cM (K:=(wa.heap.size,wb'.heap.size)::Qj) r X (fun g Y=>Og g ((Rd g).1 Y)) U fun x F=>aB _ F;replace hK:=hK.cU PD (Nat.le_refl _);have Uw:=hE.rv;clear r U PD hO hE hoa;generalize (wa.heap.size,wb'.heap.size)::Qj=SP at*
       obtain⟨b9,a9,n9,c9,b10,a10,n10,c10,rfl⟩:=Rl.shape;have hqs1:=RS.2 i ri Oe hri;have hqs2:=RS.1 ra UD;have hqc:=ma hqs1 hH2 c;have hng:=lh (ri.getD c 0);rw[SA]at Rl;conv=>whnf
       refine⟨fun O J r=>?_⟩;have Sd:=hM.rel r X (fun g Y=>Og g ((Rd g).1 Y));obtain⟨Z,SU,SW,Vo⟩:=Sd.row i _ ri Uw hri2;obtain⟨US,Qs⟩:=Sd.aB5 Vp hra2 (by unfold maxLen;omega);refine(aBJ (C:=fun g=>(Value.slice aa2 n ca2).ownBlock=some g) (fun x F=>by have:=Sd.low x (.inr ⟨_,aC Vp,F⟩);exact this) (Rel.old r X) SU Vo SW (Rl.rel r X) US Qs (fun x F RP=>TV SP x RP (QM Uw F)) (fun x F RP=>Oe (Sd.uw i pv.length _ _ x Uw Vp F RP)) (fun x F=>by have:=hqs1 x F;omega) (fun x F=>by have:=hqs2 x F;omega) (by omega)).mono fun e w8 U=>?_;obtain⟨rfl,PC,css',Wz,hr5,Xb⟩:=U;have hM3':=Sd.setRow (S':=Nw (Cv S w.heap.size SP) J w8) (Rel.old r X) (fun x F RP=>TV SP x F ((Rd x).1 RP)) Uw PC (fun x F=>.inl F) ⟨css',Wz,hr5,Xb⟩;refine⟨.tuple #[],_,(J.heap.size,w8.heap.size)::SP,rfl,r.qn (fun x F=>Rel.not (S:=fun g=>g<w.heap.size) r (fun _ h=>h) (QR SP x (QM Uw F))) PC,?_⟩;have hM4:=hM3'.cN (S':=Cv S w.heap.size ((J.heap.size,w8.heap.size)::SP)) fun x F=>Nw.cv F r.cI;have Qb:(du M3 pv.length c i).set i (ri.mapIdx (pI (-(ri.getD c 0)) ra))=du M3 pv.length c (i+1):=by
        rw[<-Dh hri Oe,hrad];rfl
       rw[Qb]at hM4;have hK4:Kept w w8 _:=(hK.cU r.cU (Nat.le_refl _)).row PC (fun x F=>QM Uw F);clear hK hM Sd SU Vo Wz Xb hM3' PC r Rl Qb US;generalize (J.heap.size,w8.heap.size)::SP=Uk at*
       conv=>whnf
       refine⟨((i+1:Nat):Int),wo,?_⟩;conv=>whnf
       intro GT w9 E
       exact⟨(i+1,Uk,w9),⟨Rz,hK4.cU E.cU (Nat.le_refl _),hM4.rel E X (fun g Y=>Og g ((Rd g).1 Y))⟩,
        Sub.gn [] E,by dsimp only;omega⟩
      ·have Oe:i=pv.length:=by
        have h4:((i:Int)==(pv.length:Int))=true:=by simpa using Oe
        have:=eq_of_beq h4;omega
       conv=>whnf
       refine⟨((i+1:Nat):Int),wo,?_⟩;conv=>whnf
       intro GT w9 E
       exact⟨(i+1,Qj,w9),⟨Rz,hK.cU E.cU (Nat.le_refl _),by
        dsimp only
        have h5:du M3 pv.length c (i+1)=du M3 pv.length c i:=by rw[Oe,Di]
        rw[h5]
        exact hM.rel E X (fun g Y=>Og g ((Rd g).1 Y))⟩,
        Sub.gn [] E,by dsimp only;omega⟩
     ·have hi3:i=EQ:=by
       have:¬i<EQ:=by simpa using Rz
       omega
      subst hi3;have Pu:=Ht.Ig (i:=i) (c:=c) RS.1 RS.2 hH2;conv=>whnf
      refine .inl ?_;conv=>whnf
      refine⟨by simp,by omega,by unfold maxLen;omega,?_⟩;conv=>whnf
      refine⟨((c+1:Nat):Int),wo,?_⟩;conv=>whnf
      intro GT w9 E;have WO:(pv++[c]).length=pv.length+1:=by simp
      have TW:(pv++[c]).map (fun c:Nat=>Value.int .i64 (c:Int))=pv.map (fun c:Nat=>Value.int .i64 (c:Int))++[.int .i64 (c:Int)]:=by simp
      refine⟨(c+1,rv2,du M3 pv.length c i,pv++[c],Qj,w9),⟨h,hK.cU E.cU (Nat.le_refl _),hM.rel E X (fun g Y=>Og g ((Rd g).1 Y)),Rd,SY,by rw[bO,List.foldl_append,<-Si];exact Om.symm,by rw[WO];exact hp,?_⟩,
       Sub.gn [(0,2)] E ⟨by rw[TW];rfl,trivial⟩ ⟨rfl,rfl,by dsimp only;rw[WO];rfl,rfl,trivial⟩,by dsimp only;omega⟩
      dsimp only
      have h9:=Pc (c+1) h;unfold cQ at h9;rw[bO,List.foldl_append,<-Si]at h9;have h9:Ht (dW (M1,pv) c).1 h0:=h9;rw[Om]at h9;exact h9
   ·have D:k=EQ:=by
     have:¬k<EQ:=by simpa using D
     omega
    subst D;have hfk2:fw M1 c (k-pv.length) pv.length=k:=by
     rw[<-hfk,bJ];rfl
    have Om:dW (M1,pv) c=(M1,pv):=by
     unfold dW;rw[if_pos (by dsimp only;omega)];dsimp only
     rw[hlM,if_pos hfk2]
    conv=>whnf
    refine dQ.mk ?_ ?_<;>intro UK
    ·conv=>whnf
     refine⟨((c+1:Nat):Int),wo,?_⟩;conv=>whnf
     intro GT w3 E
     exact⟨(c+1,rv1,M1,pv,Od,w3),⟨h,hK.cU E.cU (Nat.le_refl _),hM.rel E X (fun g Y=>Og g ((Sy g).1 Y)),Sy,Po,by rw[bO,List.foldl_append,<-Si];exact Om.symm,Pv,hht1⟩,
      Sub.gn [] E,by dsimp only;omega⟩
    ·exact absurd UK (by simp)
  ·have hp:¬pv.length<EQ:=by simpa using hp
   conv=>whnf
   intro In w5 r5;have L:=htot (.inr (by omega));rw[<-L];refine⟨_,rv1,rfl,hK.cU r5.cU (Nat.le_refl _),?_,Sy,?_⟩
   ·exact(hM.rel r5 X (fun g Y=>Og g ((Sy g).1 Y))).cN fun g Y=>Cv.nw Y r5
   ·exact(r5.iK (id:=0) (sz:=1) rfl (by simp) (by unfold maxLen;omega) (by decide) (by intro u hu;simp at hu;obtain⟨_,_,rfl⟩:=hu;rfl)).cN fun g Y=>.inr Y
 ·have h:¬c<cols:=by simpa using h
  conv=>whnf
  intro In w5 r5;have L:=htot (.inl (by omega));rw[<-L];refine⟨_,rv1,rfl,hK.cU r5.cU (Nat.le_refl _),?_,Sy,?_⟩
  ·exact(hM.rel r5 X (fun g Y=>Og g ((Sy g).1 Y))).cN fun g Y=>Cv.nw Y r5
  ·exact(r5.iK (id:=0) (sz:=1) rfl (by simp) (by unfold maxLen;omega) (by decide) (by intro u hu;simp at hu;obtain⟨_,_,rfl⟩:=hu;rfl)).cN fun g Y=>.inr Y
theorem Mf{v u:Value}(X:Old S w)(h:eL w S v M)(hu:eV w S u b)(hf:∀r∈M,Few r)(QB:Few b)(Oa:∀r∈M,r.length=db M)(PD:b.length=M.length)
  (R:db M<=1000) (hR:M.length<=1000) (Pc:∀c,c<=db M->Ht (cQ (gO (ju M) (b.map eY)) c).1 h0) (G:2<=h0) (PH:4*h0<=500000000):
  eI PG F'.xa #[v,u] w (eO w fun v' V=>∃F9 pv,(F9,pv)=cQ (gO (ju M) (b.map eY)) (db M)/\
   ((∃j vp,pv.length<=j/\j<M.length/\dD F9 j (db M)≠0/\(∀k,pv.length<=k->k<j->dD F9 k (db M)=0)/\v'= .agg #[vp,.slice none 0 0,.slice none 0 0]/\(∃a n c,vp= .slice (some a) n c)/\
     fU V (Nf w V) (Nf w V) vp (((F9.getD j []).drop (db M+1)).map (· *(1 / dD F9 j (db M)))))\/
    (∃vx vk,(∀k,pv.length<=k->k<M.length->dD F9 k (db M)=0)/\v'= .agg #[.slice none 0 0,vx,vk]/\fU V (Nf w V) (Nf w V) vx (fE F9 pv (db M) pv.length)/\
     fh V (Nf w V) vk (dM F9 pv (db M) (db M))))):=by
 replace h:=eL.arg h [];replace hu:=eV.arg hu [];obtain⟨am,cm,rfl,So,-⟩:=dC.shape h;obtain⟨ab,cb,rfl,Q3,-⟩:=dV.shape hu;obtain⟨cols,Pp⟩:∃c,c=db M:=⟨_,rfl⟩
 rw[<-Pp]at Oa R Pc ⊢;refine Al (by simp) ?_;conv=>whnf
 refine cJ (cO (If:=fun _ _ v _=>v= .int .i64 cols) (fun O J r=>by rw[Pp];exact wu (Rel.old r X) (eL.rel h r X)) ?_);rintro O wa v1 wb r U I rfl;replace h:=eL.cM (K:=(wa.heap.size,wb.heap.size)::[]) h r X U fun x F=>aB _ F;replace hu:=eV.cM (K:=(wa.heap.size,wb.heap.size)::[]) hu r X U fun x F=>aB _ F;clear r U;generalize (wa.heap.size,wb.heap.size)::[]=iv at*
 conv=>whnf
 refine⟨M.length,M.length,rfl,rfl,Nat.le_refl _,by omega,by omega,?_⟩;conv=>whnf
 refine cJ (cO (If:=fun _ J v V=>Hq V FF J.heap.size [(J.heap.size,V.heap.size)] v cols (ju M)) (fun O J r=>Mg (Rel.old r X) (eL.rel h r X) hf Oa (by omega) (by omega)) ?_);rintro O wc v1 wd r U hb hX;have S6:=(hX.dK (S:=FF) (iv:=(wc.heap.size,wd.heap.size)::iv) r.cI aF).read;replace h:=eL.cM (K:=(wc.heap.size,wd.heap.size)::iv) h r X U fun x F=>aB _ F;replace hu:=eV.cM (K:=(wc.heap.size,wd.heap.size)::iv) hu r X U fun x F=>aB _ F;replace I:=I.tr hb;clear r U hb hX;generalize (wc.heap.size,wd.heap.size)::iv=ivM at*
 obtain⟨at_,ct,rfl,hct,-⟩:=dC.shape S6;rw[aJ]at hct S6 ⊢;conv=>whnf
 refine⟨List Value×Iv×World,fun z=>⟨[(0,sV am M.length cm),(1,sV ab b.length cb),(4,pP 0 0),(5,iZ cols),(6,.o (.s 1 0 M.length M.length)),(23,sV at_ M.length ct),(24,iZ M.length),(25,iZ z.1.length)],
   [(1,.arr T.row (z.1++List.replicate (M.length-z.1.length) (.slice none 0 0))),(0,.box T.solved [.v (.slice none 0 0),.v (.slice none 0 0),.v (.slice none 0 0)])],2,z.2.1,z.2.2⟩,fun z=>M.length-z.1.length,
  fun z=>z.1.length<=M.length/\dw w.heap.size w z.2.2/\(∀p,p∈ivM->p∈z.2.1)/\eL z.2.2 (Cv S w.heap.size ivM) (.slice am M.length cm) M/\eV z.2.2 (Cv S w.heap.size ivM) (.slice ab b.length cb) b/\
   fh z.2.2 (Cf w ivM) (.slice at_ M.length ct) (ju M)/\
   iQ z.2.2 FF w.heap.size z.2.1 z.1 (cols+1+M.length) ((gO (ju M) (b.map eY)).take z.1.length)/\(∀u∈z.1,u.oneCell'=true)/\(∀u∈z.1,∀g,u.ownBlock=some g->¬Cf w ivM g),?_,?_⟩
 ·intro O J r
  exact⟨([],ivM,J),⟨by simp,I.tr r.cU,fun p hp=>hp,eL.rel h r X,eV.rel hu r X,fh.rel S6 r (cH w),by simpa using iQ.nil _ _ _ _ _,by simp,by simp⟩,
   Sub.gn [] r⟩
 clear h hu S6 I;rintro⟨rv,Oo,w1⟩ ⟨Po,I,Oc,h,hu,S6,Oy,h1c,XA⟩;dsimp only at Po I Oc h hu S6 Oy h1c XA ⊢;have hlA:(gO (ju M) (b.map eY)).length=M.length:=by rw[mc,aJ]
 conv=>whnf
 refine dQ.mk ?_ ?_<;>intro A
 ·have A:rv.length<M.length:=by simpa using A
  obtain⟨mr,hmr⟩:∃x,M[rv.length]? =some x:=⟨_,aA A⟩
  obtain⟨bx,SI⟩:∃x,b[rv.length]? =some x:=⟨_,aA (by omega)⟩
  have hmrl:=Oa mr (aC hmr);obtain⟨ad,ur,rfl,QY,kt1,kt2⟩:=dC.load S6 (j:=rv.length) (x:=mr.map eY) (by rw[aL,hmr];rfl);obtain⟨au,cu,hue⟩:=dC.rowOf QY;rw[aJ,hmrl]at hue;subst hue;have Oh:∀{H nx iv O wx J},(∀p,p∈ivM->p∈iv)->Rel H nx iv w.heap.size wx O J->∀{Do:Nat->Prop},(∀g,Do g->g<w.heap.size)->∀g,Cv Do w.heap.size ivM g->J.heap[g]? =wx.heap[g]? :=by
   intro H nx iv O wx J hm r Do hX g Y;exact Rel.same r hX (Y.mono hm)
  conv=>whnf
  refine⟨ad,rfl,by omega,?_⟩;conv=>whnf
  refine⟨.slice au cols cu,fun O J r=>?_,?_⟩
  ·rw[aE,cL (w:=w1) (V:=J) (by rw[dF];exact Oh Oc r (cH w) _ kt1)];exact kt2
  conv=>whnf
  refine cJ (cO (If:=fun _ J v V=>kI V FF J.heap.size [(J.heap.size,V.heap.size)] v M.length (List.replicate M.length 0)) (fun O J r=>Eh M.length J (by omega)) ?_);rintro O wa vx wb r U hb F;have hU0:=F.lim (rv:=rv) r (fun u hu g Y=>Er (Oy.new u hu g Y)) (cH w);have hU:rA wb w.heap.size ((wa.heap.size,wb.heap.size)::Oo) rv vx M.length (List.replicate M.length 0):=⟨hU0.1,fun g Y=>(hU0.2 g Y).1⟩
  have Xc:∀g,Cf w ivM g->g<wa.heap.size:=fun g Y=>Rel.old r (cH w) g (Y.mono Oc);have hgxr:∀g,vx.ownBlock=some g->∀u∈rv,u.ownBlock≠some g:=fun g Y u hu e=>by have:=Rel.old r (cH w) g (Oy.new u hu g e);have:=(hU0.2 g Y).2;omega
  have Vq:∀g,vx.ownBlock=some g->¬Cf w ivM g:=fun g Y h=>by have:=Xc g h;have:=(hU0.2 g Y).2;omega
  replace h:=eL.cK h fun g Y=>by rw[U.block g (Rel.old r X g (Y.mono Oc)),Oh Oc r X g Y]
  replace hu:=eV.cK hu fun g Y=>by rw[U.block g (Rel.old r X g (Y.mono Oc)),Oh Oc r X g Y]
  replace S6:=fh.cK S6 fun g Y=>by rw[U.block g (Rel.old r (cH w) g (Y.mono Oc)),Oh Oc r (cH w) g Y]
  replace QY:=QY.cK fun g Y=>by rw[U.block g (Rel.old r (cH w) g ((Y.elim id id).mono Oc)),Oh Oc r (cH w) g (Y.elim id id)]
  have hvx1:∀g,vx.ownBlock=some g->¬Cf w Oo g:=fun g Y h=>by have:=Rel.old r (cH w) g h;have:=(hU0.2 g Y).2;omega
  replace Oy:=Oy.cK fun g Y=>by rw[U.block g (Rel.old r (cH w) g Y),Rel.same r (cH w) Y]
  have Pq:∀p,p∈Oo->p∈(wa.heap.size,wb.heap.size)::Oo:=fun p hp=>aB _ hp;replace I:=I.tr hb;replace Oc:∀p,p∈ivM->p∈(wa.heap.size,wb.heap.size)::Oo:=fun p hp=>aB _ (Oc p hp);clear r U hb F hU0 Xc;generalize (wa.heap.size,wb.heap.size)::Oo=Od at*
  obtain⟨ax,cx,rfl,-⟩:=hU.row.form;conv=>whnf
  refine cJ (cO (If:=fun _ J v V=>cd V (Nf J V) v ((1:Int):Rat)) (fun O J r=>rX 1 J (by decide) (by decide)) ?_);rintro O wa v1 wb r U hb hO;have Q4:=(hO.lim (rv:=rv) r fun u hu g Y=>(Oy.new u hu g Y).mono Pq)
  have XB:cd wb (fun g=>(Cf w ((wa.heap.size,wb.heap.size)::Od) g/\¬ ∃u∈rv,u.ownBlock=some g)/\(Value.slice ax M.length cx).ownBlock≠some g) v1 ((1:Int):Rat):=by
   have L:=hO.apart (S':=fun _=>False) (iv:=Od) (v:=Value.slice ax M.length cx) (fun g Y=>⟨Rel.old r (cH w) g (hU.vR g Y),fun h=>h⟩) r.cI fun g Y=>Y;obtain⟨nv,dv,N,h4,h5⟩:=Q4;obtain⟨nv',dv',h3',h4',h5'⟩:=hO;rw[N]at h3';injection h3' with h3';simp at h3';obtain⟨rfl,rfl⟩:=h3';have R5:∀g,Nf wa wb g->((Cf w ((wa.heap.size,wb.heap.size)::Od) g/\¬ ∃u∈rv,u.ownBlock=some g)/\(Value.slice ax M.length cx).ownBlock≠some g):=fun g Y=>by
    rcases Y with Y|Y
    ·exact Y.elim
    ·refine⟨⟨.inr ⟨by have:=r.cI;omega,_,_,aF,Y.1,Y.2⟩,fun⟨u,hu,e⟩=>?_⟩,fun e=>?_⟩
     ·have:=Rel.old r (cH w) g ((Oy.new u hu g e).mono Pq);omega
     ·have:=Rel.old r (cH w) g (hU.vR g e);omega
   exact⟨nv,dv,N,h4'.cN R5,h5'.cN R5⟩
  replace h:=eL.cK h fun g Y=>by rw[U.block g (Rel.old r X g (Y.mono Oc)),Oh Oc r X g Y]
  replace hu:=eV.cK hu fun g Y=>by rw[U.block g (Rel.old r X g (Y.mono Oc)),Oh Oc r X g Y]
  replace S6:=fh.cK S6 fun g Y=>by rw[U.block g (Rel.old r (cH w) g (Y.mono Oc)),Oh Oc r (cH w) g Y]
  replace QY:=QY.cK fun g Y=>by rw[U.block g (Rel.old r (cH w) g ((Y.elim id id).mono Oc)),Oh Oc r (cH w) g (Y.elim id id)]
  replace Oy:=Oy.cK fun g Y=>by rw[U.block g (Rel.old r (cH w) g (Y.mono Pq)),Rel.same r (cH w) (Y.mono Pq)]
  replace Pq:∀p,p∈Oo->p∈(wa.heap.size,wb.heap.size)::Od:=fun p hp=>aB _ (Pq p hp);replace hU:=hU.cM (K:=(wa.heap.size,wb.heap.size)::Od) r U fun x F=>aB _ F;replace I:=I.tr hb;replace Oc:∀p,p∈ivM->p∈(wa.heap.size,wb.heap.size)::Od:=fun p hp=>aB _ (Oc p hp);clear r U hb hO Q4;generalize (wa.heap.size,wb.heap.size)::Od=Oq at*
  obtain⟨b1,a1,n1,c1,b2,a2,n2,c2,rfl⟩:=XB.shape;have PZ:(((1:Int):Rat))=1:=rfl;rw[PZ]at XB;conv=>whnf
  have Qe:∃g,ax=some ⟨g,0,none⟩:=by
   obtain⟨Z,ho,_⟩:=hU.row;rcases ho.2 with⟨_,h0⟩|⟨g,cap,cur,e,_⟩
   ·omega
   ·injection e with e;exact⟨g,e⟩
  obtain⟨gx,rfl⟩:=Qe;refine⟨⟨gx,0,none⟩,rfl,by omega,?_⟩;conv=>whnf
  intro O J r;have hUr:=hU.rel r;obtain⟨g',Qe,k1,k2,k3,k4⟩:=hUr.row.store A (cd.cK XB fun g Y=>Rel.same r (cH w) Y.1.1) (fun g Y F=>F.2 Y) (fun x F=>Rel.old r (cH w) x F.1.1);injection Qe with Qe;injection Qe with Qe;subst Qe;have XC:=hU.vR gx rfl;have Pa:=fun id b hb R=>Rel.not r (cH w) XC id b hb R;have Sj:∀{Do:Nat->Prop},(∀g,Do g->g<w.heap.size)->∀g,Cv Do w.heap.size Oq g->g<J.heap.size:=by
   intro Do hX g Y;exact Rel.old r hX g Y
  replace h:=eL.cK h fun g Y=>Oh Oc r X g Y;replace hu:=eV.cK hu fun g Y=>Oh Oc r X g Y;replace S6:=fh.cK S6 fun g Y=>Oh Oc r (cH w) g Y;replace QY:=QY.cK fun g Y=>Oh Oc r (cH w) g (Y.elim id id);replace Oy:=Oy.cK fun g Y=>Rel.same r (cH w) (Y.mono Pq);replace I:=I.tr r.cU;have hgxB:w.heap.size<=gx:=by
   rcases XC with h|⟨h,_⟩
   ·exact h.elim
   ·exact h
  have hgxrv:∀u∈rv,u.ownBlock≠some gx:=hgxr gx rfl;clear r hUr hU XB;refine⟨k1,k3,fun id b hb R=>by rw[k2];exact Pa id b hb R,fun V PE=>?_⟩;obtain⟨hU1,PC,-⟩:=k4 V PE;have hU:rA V w.heap.size Oq rv (.slice (some ⟨gx,0,none⟩) M.length cx) M.length (pM M.length rv.length):=⟨hU1,fun g Y=>by injection Y with Y;subst Y;exact XC⟩
  have Tf:∀g,g<J.heap.size->g≠gx->V.heap[g]? =J.heap[g]? :=fun g Y Oe=>PC.block g Y fun e=>by injection e with e;exact Oe e
  replace h:=eL.cK h fun g Y=>Tf g (Sj X g (Y.mono Oc)) fun e=>by
   subst e;rcases Y with Y|⟨q1,lo,RA,q2,q3⟩
   ·have:=X g Y;omega
   ·exact Vq g rfl (.inr ⟨q1,lo,RA,q2,q3⟩)
  replace hu:=eV.cK hu fun g Y=>Tf g (Sj X g (Y.mono Oc)) fun e=>by
   subst e;rcases Y with Y|⟨q1,lo,RA,q2,q3⟩
   ·have:=X g Y;omega
   ·exact Vq g rfl (.inr ⟨q1,lo,RA,q2,q3⟩)
  replace S6:=fh.cK S6 fun g Y=>Tf g (Sj (cH w) g (Y.mono Oc)) fun e=>by subst e;exact Vq g rfl Y
  replace QY:=QY.cK fun g Y=>Tf g (Sj (cH w) g ((Y.elim id id).mono Oc)) fun e=>by subst e;exact Vq g rfl (Y.elim id id)
  replace Oy:=Oy.cK fun g Y=>Tf g (Sj (cH w) g (Y.mono Pq)) fun e=>by subst e;exact hvx1 g rfl Y
  replace I:dw w.heap.size w V:=I.tr (dw.grown PC (fun g Y=>by injection Y with Y;subst Y;exact hgxB) (by have:=I.size;omega));clear k1 k2 k3 k4 hU1 PC Tf Pa PE Sj;obtain⟨adb,csb,rfl,hRb,-,PV⟩:=dV.load hu SI;obtain⟨b3,a3,n3,c3,b4,a4,n4,c4,rfl,hRb⟩:=hRb;obtain⟨fb1,fb2⟩:=QB bx (aC SI);conv=>whnf
  refine⟨adb,rfl,by omega,?_⟩;conv=>whnf
  refine⟨[.bool b3,.slice a3 n3 c3,.bool b4,.slice a4 n4 c4],rfl,fun O J r j x F=>?_,?_⟩
  ·obtain⟨q1,q2⟩:=PV j x F;rw[aE,cL (w:=V) (V:=J) (by rw[dF,dF];exact Oh Oc r X _ q1)];exact q2
  conv=>whnf
  refine cJ (cO (If:=fun _ J v V=>cd V (Nf J V) v (eY bx)) (fun O J r=>jd (Rel.old r X) (iM.cK (iM.cN hRb fun g Y=>Y.mono Oc) fun g Y=>Rel.same r X Y) (by omega) (by omega)) ?_);rintro O wa v1 QX r U hb hO;have hQ:=(hO.lim (rv:=rv) r fun u hu g Y=>(Oy.new u hu g Y).mono Pq)
  replace h:=eL.cK h fun g Y=>by rw[U.block g (Rel.old r X g (Y.mono Oc)),Oh Oc r X g Y]
  replace hu:=eV.cK hu fun g Y=>by rw[U.block g (Rel.old r X g (Y.mono Oc)),Oh Oc r X g Y]
  replace S6:=fh.cK S6 fun g Y=>by rw[U.block g (Rel.old r (cH w) g (Y.mono Oc)),Oh Oc r (cH w) g Y]
  replace QY:=QY.cK fun g Y=>by rw[U.block g (Rel.old r (cH w) g ((Y.elim id id).mono Oc)),Oh Oc r (cH w) g (Y.elim id id)]
  replace Oy:=Oy.cK fun g Y=>by rw[U.block g (Rel.old r (cH w) g (Y.mono Pq)),Rel.same r (cH w) (Y.mono Pq)]
  replace hU:=hU.cM (K:=(wa.heap.size,QX.heap.size)::Oq) r U fun x F=>aB _ F;replace I:=I.tr hb;replace Oc:∀p,p∈ivM->p∈(wa.heap.size,QX.heap.size)::Oq:=fun p hp=>aB _ (Oc p hp);replace Pq:∀p,p∈Oo->p∈(wa.heap.size,QX.heap.size)::Oq:=fun p hp=>aB _ (Pq p hp);clear r U hb hO hRb PV XC;generalize (wa.heap.size,QX.heap.size)::Oq=Ox at*
  obtain⟨b5,a5,n5,c5,b6,a6,n6,c6,rfl⟩:=hQ.shape;conv=>whnf
  have WJ:(mr.map eY).length=cols:=by rw[aJ,hmrl]
  have hlu:(pM M.length rv.length).length=M.length:=by simp[pM]
  refine cJ (cO (If:=fun _ J v V=>jy V (fun g=>Cf w Ox g/\¬ ∃u∈rv,u.ownBlock=some g) v (cols+1+M.length) (mr.map eY++eY bx::pM M.length rv.length)/\∀g,v.ownBlock=some g->J.heap.size<=g/\g<V.heap.size) (fun O J r=>?_) ?_)
  ·have hb3:=r.wm (id:=3) (sz:=1) (n:=3) rfl rfl (by decide) (by intro u hu;simp at hu;rcases hu with rfl|rfl|rfl<;>rfl);have Q5:=r.wm (id:=2) (sz:=4) (n:=1) rfl rfl (by decide) (by intro u hu;simp at hu;rcases hu with rfl|rfl|rfl|rfl<;>rfl);have hlow3:=r.low 3 _ rfl (r.nn 3 _ rfl (by intros;simp) (by simp));have hlow2:=r.low 2 _ rfl (r.nn 2 _ rfl (by intros;simp) (by simp));have hUr:=hU.rel r;have:=KM (C:=fun g=>Cf w Ox g\/g=(O 2).g\/g=(O 3).g) (S:=fun g=>Cf w Ox g/\¬ ∃u∈rv,u.ownBlock=some g)
    (w:=J) (rs:=mr.map eY) (xs:=pM M.length rv.length) (q:=eY bx) (u:=.slice au cols cu) (x:=.slice (some ⟨gx,0,none⟩) M.length cx)
    (fun g Y=>by rcases Y with Y|rfl|rfl;exact Rel.old r (cH w) g Y;exact hlow2.2;exact hlow3.2) (fun g Y=>Rel.old r (cH w) g Y.1)
    (hb3.cN fun g Y=>.inr (.inr Y)) (Q5.cN fun g Y=>.inr (.inl Y))
    ((QY.cK fun g Y=>Oh Oc r (cH w) g (Y.elim id id)).cN (fun g Y=>.inl (Y.mono Oc)) fun g Y=>⟨Y.mono Oc,fun⟨u,hu,e⟩=>XA u hu g e Y⟩)
    (hUr.row.read.cN (fun g Y=>.inl (hUr.vR g Y)) fun g Y=>Y.1) (cd.cK hQ fun g Y=>Rel.same r (cH w) Y.1) (by rw[WJ,hlu];omega)
   rw[WJ,hlu]at this;exact this
  rintro O wa vn wb r U hb ⟨Vr,PR⟩;have hB:=r.cI;have SD:iQ wb FF w.heap.size ((wa.heap.size,wb.heap.size)::Ox) (rv++[vn]) (cols+1+M.length) ((gO (ju M) (b.map eY)).take (rv.length+1)):=by
   have h4:iQ wb FF w.heap.size Ox rv (cols+1+M.length) ((gO (ju M) (b.map eY)).take rv.length):=
    ⟨Oy.len,fun i v qs L G=>((Oy.row i v qs L G).cK fun g Y=>by
      have Y:Cf w Oo g:=Y.elim (fun h=>h.1) fun Y=>Oy.new v (aC L) g Y
      rw[U.block g (Rel.old r (cH w) g (Y.mono Pq)),Rel.same r (cH w) (Y.mono Pq)]).cN fun g Y=>⟨Y.1.mono Pq,Y.2⟩,Oy.uw,fun v hv g Y=>(Oy.new v hv g Y).mono Pq⟩
   have h5:iQ QX FF w.heap.size Ox rv (cols+1+M.length) ((gO (ju M) (b.map eY)).take rv.length):=
    ⟨Oy.len,fun i v qs L G=>(Oy.row i v qs L G).cN fun g Y=>⟨Y.1.mono Pq,Y.2⟩,Oy.uw,fun v hv g Y=>(Oy.new v hv g Y).mono Pq⟩
   have h6:=h5.snoc r (cH w) U (Vr.cN fun g Y=>⟨Y.1.mono fun p hp=>aB _ hp,fun e=>by have:=Rel.old r (cH w) g Y.1;have:=(PR g e).1;omega,Y.2⟩) PR;have h7:(gO (ju M) (b.map eY)).take (rv.length+1)=(gO (ju M) (b.map eY)).take rv.length++[mr.map eY++eY bx::pM M.length rv.length]:=by
    rw[List.take_add_one,Ih (r:=mr.map eY) (by rw[aL,hmr];rfl)];have:(b.map eY).getD rv.length 0=eY bx:=by rw[List.getD,aL,SI];rfl
    rw[this,aJ];rfl
   rw[h7];exact h6
  have hvnM:∀g,vn.ownBlock=some g->¬Cf w ivM g:=fun g Y hm=>by
   have:=Rel.old r (cH w) g (hm.mono Oc);have:=(PR g Y).1;omega
  replace h:=eL.cK h fun g Y=>by rw[U.block g (Rel.old r X g (Y.mono Oc)),Oh Oc r X g Y]
  replace hu:=eV.cK hu fun g Y=>by rw[U.block g (Rel.old r X g (Y.mono Oc)),Oh Oc r X g Y]
  replace S6:=fh.cK S6 fun g Y=>by rw[U.block g (Rel.old r (cH w) g (Y.mono Oc)),Oh Oc r (cH w) g Y]
  replace I:=I.tr hb;replace Oc:∀p,p∈ivM->p∈(wa.heap.size,wb.heap.size)::Ox:=fun p hp=>aB _ (Oc p hp);obtain⟨an,cn,rfl,-⟩:=Vr.form;clear r U hb QY Oy hU hQ Vr PR hB hvx1 hgxr hgxrv Vq;generalize (wa.heap.size,wb.heap.size)::Ox=PX at*
  conv=>whnf
  refine⟨by omega,?_⟩;conv=>whnf
  refine⟨by simp;omega,(rv++[.slice an (cols+1+M.length) cn])++List.replicate (M.length-(rv.length+1)) (.slice none 0 0),?_,?_⟩
  ·have h5:M.length-rv.length=(M.length-(rv.length+1))+1:=by omega
   simp[h5,List.replicate_succ]
  conv=>whnf
  refine⟨((rv.length+1:Nat):Int),wo,?_⟩;conv=>whnf
  intro GT w3 E;have QU:(rv++[Value.slice an (cols+1+M.length) cn]).length=rv.length+1:=by simp
  refine⟨(rv++[.slice an (cols+1+M.length) cn],PX,w3),⟨by dsimp only;rw[QU];exact A,I.tr E.cU,Oc,eL.cK h fun g Y=>Rel.same E X (Y.mono Oc),eV.cK hu fun g Y=>Rel.same E X (Y.mono Oc),fh.cK S6 fun g Y=>Rel.same E (cH w) (Y.mono Oc),?_,?_,?_⟩,
   Sub.gn [] E ⟨by dsimp only;rw[QU];rfl,rfl,trivial⟩ ⟨rfl,rfl,rfl,rfl,rfl,rfl,rfl,by dsimp only;rw[QU];rfl,trivial⟩,by dsimp only;rw[QU];omega⟩
  ·dsimp only
   rw[QU];exact SD.rel E (cH w)
  ·intro u hu;rcases bB.1 hu with hu|hu
   ·exact h1c u hu
   ·simp at hu;subst hu;rfl
  ·intro u hu g Y;rcases bB.1 hu with hu|hu
   ·exact XA u hu g Y
   ·simp at hu;subst hu;exact hvnM g Y
 ·have A:rv.length=M.length:=by
   have:¬rv.length<M.length:=by simpa using A
   omega
  rw[A,show M.length-M.length=0 by omega,List.replicate_zero,List.append_nil];rw[A,<-hlA,bA]at Oy;clear h hu S6 XA Oc hf QB PD So Q3 hct;conv=>whnf
  have hht:Ht (gO (ju M) (b.map eY)) h0:=Pc 0 (aQ _);obtain⟨VI,Pv,Qv,-⟩:=xR (cols:=cols) hht G;have Xd:=Pc cols (Nat.le_refl _);rw[hlA]at Oy VI Pv;refine⟨fun O J r=>?_⟩;have Vs:=r.nn 1 _ rfl (by intros;simp) (by simp);have hm:=Oy.mat r (cH w) (id:=1) rfl Vs (by unfold maxLen;omega) h1c;rw[A]at hm;refine(KL (fun g Y=>Rel.old r (cH w) g Y.1) hm (fun g Y=>Y.2) (by omega) (by omega) (show cols<=cols+1+M.length by omega) Pc G PH).mono fun e V U=>?_;obtain⟨vp,rv',rfl,hK,SB,Sy,hP⟩:=U;obtain⟨F9,pv,hApv⟩:∃F9 pv,(F9,pv)=cQ (gO (ju M) (b.map eY)) cols:=⟨_,_,rfl⟩
  rw[<-hApv]at VI Pv Qv Xd SB hP;dsimp only at VI Pv Qv Xd SB hP;have UT:rv'.length=M.length:=by rw[SB.len,VI]
  have QM:V.heap[(O 1).g]? =some (.cells rv'.toArray T.row (0,0)):=by
   rcases SB.out.2 with⟨L,_⟩|⟨g,cap,cur,e,_,Y,_,_,PN,UU⟩
   ·cases L
   ·injection e with e1 e2 e3;injection e1 with e1;injection e1 with e1;subst e1 e3;rw[Y,<-UU,UT,aV,List.take_of_length_le (by simp;omega)]
  have hIn:∀g,Mb (.slice (some ⟨(O 1).g,0,none⟩) M.length M.length) rv g->g=(O 1).g\/Cf w Oo g:=fun g Y=>by
   rcases Y with Y|⟨x,F,Y⟩
   ·injection Y with Y;exact .inl Y.symm
   ·exact .inr (Oy.new x F g Y)
  refine⟨vp,[(1,.arr T.row rv'),(0,.box T.solved [.v (.slice none 0 0),.v (.slice none 0 0),.v (.slice none 0 0)])],(J.heap.size,V.heap.size)::Oo,rfl,
   r.Hr (id:=1) rfl rfl (fun j hj=>by simp[dB,Ne.symm hj]) hK (fun g Y=>(hIn g Y).imp id fun hc=>fun j c hj R=>Rel.not r (cH w) hc j c hj R) QM,?_⟩
  have hB:=r.cI;have hT:∀g,Nw (fun g=>Cf w Oo g/\¬Mb (.slice (some ⟨(O 1).g,0,none⟩) M.length M.length) rv g) J V g->Cf w ((J.heap.size,V.heap.size)::Oo) g:=fun g Y=>by
   rcases Y with Y|Y
   ·exact Y.1.mono fun p hp=>aB _ hp
   ·exact .inr ⟨by omega,_,_,aF,Y.1,Y.2⟩
  have Qx:∀(j:Nat) x qs,rv'[j]? =some x->F9[j]? =some qs->fU V (Cf w ((J.heap.size,V.heap.size)::Oo)) (Cf w ((J.heap.size,V.heap.size)::Oo)) x qs/\qs.length=cols+1+M.length:=fun j x qs L G=>by
   have N:jy V _ x (cols+1+M.length) qs:=SB.row j x qs L G;refine⟨N.read.cN (fun g Y=>?_) hT,N.len⟩;have hxm:=aC L;rcases hIn g ((Sy g).1 (.inr ⟨x,hxm,Y⟩))with e|hc
   ·subst e;exact absurd rfl (SB.Hs x hxm _ Y)
   ·exact hc.mono fun p hp=>aB _ hp
  have RB:dO V (Cf w ((J.heap.size,V.heap.size)::Oo)) vp pv:=ie.cN hP fun g Y=>by
   rcases Y with Y|Y
   ·exact Y.elim
   ·exact .inr ⟨by omega,_,_,aF,Y.1,Y.2⟩
  replace I:dw w.heap.size w V:=(I.tr r.cU).tr ⟨hK.os,hK.tape,hK.output,hK.size,fun k D=>hK.block k (by have:=r.cI;omega) fun F=>by
   rcases hIn k F with e|hc
   ·have:=(r.low 1 _ rfl Vs).1;omega
   ·rcases hc with hc|⟨hc,_⟩
    ·exact hc
    ·omega⟩
  clear hm hK SB Sy hP QM hIn hT Oy h1c Po hB Vs r;generalize (J.heap.size,V.heap.size)::Oo=Od at*
  obtain⟨apv,cpv,rfl,hcpv⟩:∃a c,vp= .slice a pv.length c/\pv.length<=c:=by
   obtain⟨-,-,-,a,c,e,L,-⟩:=RB;exact⟨a,c,e,L⟩
  have Ux:Ht F9 500000000:=Xd.mono (by omega);clear Xd hht PH Pc;conv=>whnf
  refine⟨⟨by omega,by omega,by omega⟩,(if M.length=pv.length then 0 else pv.length),M.length-pv.length,M.length-pv.length,?_,by omega,by omega,?_⟩
  ·split<;>split<;>omega
  have R0:pv.length<M.length->(if M.length=pv.length then 0 else pv.length)=pv.length:=fun h=>by rw[aH (by omega)]
  generalize (if M.length=pv.length then 0 else pv.length)=off at*
  conv=>whnf
  refine⟨Nat×Iv×World,fun z=>⟨[(4,pP 0 0),(5,iZ cols),(6,.o (.s 1 0 M.length M.length)),(10,sV apv pv.length cpv),(57,.o (.s 1 off (M.length-pv.length) (M.length-pv.length))),(58,iN (M.length-pv.length)),(59,iZ z.1)],
    [(1,.arr T.row rv'),(0,.box T.solved [.v (.slice none 0 0),.v (.slice none 0 0),.v (.slice none 0 0)])],2,z.2.1,z.2.2⟩,fun z=>M.length-pv.length-z.1,
   fun z=>z.1<=M.length-pv.length/\dw w.heap.size w z.2.2/\(∀p,p∈Od->p∈z.2.1)/\dO z.2.2 (Cf w Od) (.slice apv pv.length cpv) pv/\
    (∀(j:Nat) x qs,rv'[j]? =some x->F9[j]? =some qs->fU z.2.2 (Cf w Od) (Cf w Od) x qs/\qs.length=cols+1+M.length)/\(∀k,pv.length<=k->k<pv.length+z.1->dD F9 k cols=0),?_,?_⟩
  ·intro O J r
   exact⟨(0,Od,J),⟨by simp,I.tr r.cU,fun p hp=>hp,dO.rel RB r (cH w),fun j x qs L G=>⟨(Qx j x qs L G).1.rel r (cH w) (cH w),(Qx j x qs L G).2⟩,fun k L G=>by dsimp only at G;omega⟩,
    Sub.gn [] r⟩
  clear I Qx RB;rintro⟨j,Oq,w3⟩ ⟨hj,I,Oc,RB,Qx,hz⟩;dsimp only at hj I Oc RB Qx hz ⊢;have Oh:∀{H nx iv O wx J},(∀p,p∈Od->p∈iv)->Rel H nx iv w.heap.size wx O J->∀g,Cf w Od g->J.heap[g]? =wx.heap[g]? :=by
   intro H nx iv O wx J hm r g Y;exact Rel.same r (cH w) (Y.mono hm)
  conv=>whnf
  refine dQ.mk ?_ ?_<;>intro Pz
  ·have Pz:j<M.length-pv.length:=by
    have:=aK Pz;omega
   have R0:=R0 (by omega);subst R0;obtain⟨xr,Se⟩:∃x,rv'[pv.length+j]? =some x:=⟨_,aA (by omega)⟩
   obtain⟨qs,WQ⟩:∃x,F9[pv.length+j]? =some x:=⟨_,aA (by omega)⟩
   obtain⟨QY,SZ⟩:=Qx _ xr qs Se WQ;obtain⟨axr,cxr,hxe,hxc,-⟩:=QY.shape;rw[SZ]at hxe hxc;subst hxe;obtain⟨q,hq⟩:∃q,qs[cols]? =some q:=⟨_,aA (by omega)⟩
   have QH:dD F9 (pv.length+j) cols=q:=by
    have:F9.getD (pv.length+j) []=qs:=by rw[List.getD,WQ];rfl
    rw[dD,this,List.getD,hq];rfl
   obtain⟨adq,W,rfl,hF,hl⟩:=QY.load hq;obtain⟨b3,a3,n3,c3,b4,a4,n4,c4,rfl,hF⟩:=hF;conv=>whnf
   refine⟨by omega,?_⟩;conv=>whnf
   refine⟨.slice (some adq) (cols+1+M.length) cxr,by simpa using Se,?_⟩;conv=>whnf
   refine⟨adq,rfl,by omega,?_⟩;conv=>whnf
   refine⟨[.bool b3,.slice a3 n3 c3,.bool b4,.slice a4 n4 c4],rfl,fun O J r i x F=>?_,?_⟩
   ·obtain⟨k1,k2⟩:=hl i x F;rw[aE,cL (w:=w3) (V:=J) (by rw[dF,dF];exact Oh Oc r _ k1)];exact k2
   conv=>whnf
   refine cJ (cO (If:=fun _ _ v _=>v= .int .i64 (rs q)) (fun O J r=>vG (fun g Y=>Rel.old r (cH w) g (Y.mono Oc)) (cd.cK hF fun g Y=>Oh Oc r g Y)) ?_);rintro O wa v1 wb r U hb rfl;have Om:∀g,Cf w Od g->wb.heap[g]? =w3.heap[g]? :=fun g Y=>by rw[U.block g (Rel.old r (cH w) g (Y.mono Oc)),Oh Oc r g Y]
   replace RB:=dO.cK RB Om;replace Qx:∀(j:Nat) x qs,rv'[j]? =some x->F9[j]? =some qs->fU wb (Cf w Od) (Cf w Od) x qs/\qs.length=cols+1+M.length:=fun j x qs L G=>⟨(Qx j x qs L G).1.cK fun g Y=>Om g (Y.elim id id),(Qx j x qs L G).2⟩
   replace hF:=cd.cK hF Om;replace QY:=QY.cK fun g Y=>Om g (Y.elim id id)
   replace hl:∀k u,[Value.bool b3,.slice a3 n3 c3,.bool b4,.slice a4 n4 c4][k]? =some u->Cf w Od adq.block/\wb.cell? ((adq.add (cols*4)).add k)=some u:=fun k u hu=>⟨(hl k u hu).1,by
    rw[cL (w:=w3) (V:=wb) (by rw[dF,dF];exact Om _ (hl k u hu).1)]
    exact(hl k u hu).2⟩
   replace I:=I.tr hb;replace Oc:∀p,p∈Od->p∈(wa.heap.size,wb.heap.size)::Oq:=fun p hp=>aB _ (Oc p hp);clear r U hb Om;generalize (wa.heap.size,wb.heap.size)::Oq=Ox at*
   conv=>whnf
   refine dQ.mk ?_ ?_<;>intro h0
   ·have h0:q≠0:=fun e=>by rw[e]at h0;exact absurd h0 (by decide)
    have hqsd:F9.getD (pv.length+j) []=qs:=by rw[List.getD,WQ];rfl
    have hqA:=Ux.at WQ;have Wk:=hqA q (aC hq);have Rj:=QY.from (k:=cols+1) (by omega);have Sc:(qs.drop (cols+1)).length=M.length:=by rw[List.length_drop,SZ];omega
    rw[show cols+1+M.length-(cols+1)=M.length by omega]at Rj;conv=>whnf
    refine⟨((cols+1:Nat):Int),wo,?_⟩;conv=>whnf
    refine⟨⟨by omega,by omega,by omega⟩,(if (cxr:Int)=((cols+1:Nat):Int)then some adq else(some adq).map (·.add ((cols+1)*4))),M.length,cxr-(cols+1),rfl,by omega,by omega,?_⟩;generalize (if (cxr:Int)=((cols+1:Nat):Int)then some adq else(some adq).map (·.add ((cols+1)*4)))=adp at*
    conv=>whnf
    refine cJ (cO (If:=fun _ J v V=>jy V (Cf w Od) v M.length (qs.drop (cols+1))/\∀g,v.ownBlock=some g->J.heap.size<=g/\g<V.heap.size) (fun O J r=>?_) ?_)
    ·have:=Mh (w:=J) (fun g Y=>Rel.old r (cH w) g (Y.mono Oc)) (fun g Y=>Rel.old r (cH w) g (Y.mono Oc)) (Rj.cK fun g Y=>Oh Oc r g (Y.elim id id)) (by rw[Sc];omega) (by rw[Sc];omega);rw[Sc]at this;exact this
    rintro O wa v1 wb' r U hb ⟨hP,Td⟩;have hpT:∀g,v1.ownBlock=some g->¬Cf w Od g:=fun g Y h=>by have:=Rel.old r (cH w) g (h.mono Oc);have:=(Td g Y).1;omega
    have VJ:∀g,v1.ownBlock=some g->Cf w ((wa.heap.size,wb'.heap.size)::Ox) g:=fun g Y=>.inr ⟨by have:=(Td g Y).1;have:=r.cI;omega,_,_,aF,(Td g Y).1,(Td g Y).2⟩;have Om:∀g,Cf w Od g->wb'.heap[g]? =wb.heap[g]? :=fun g Y=>by rw[U.block g (Rel.old r (cH w) g (Y.mono Oc)),Oh Oc r g Y]
    replace hF:=cd.cK hF Om
    replace hl:∀k u,[Value.bool b3,.slice a3 n3 c3,.bool b4,.slice a4 n4 c4][k]? =some u->Cf w Od adq.block/\wb'.cell? ((adq.add (cols*4)).add k)=some u:=fun k u hu=>⟨(hl k u hu).1,by
     rw[cL (w:=wb) (V:=wb') (by rw[dF,dF];exact Om _ (hl k u hu).1)]
     exact(hl k u hu).2⟩
    replace I:=I.tr hb;replace Oc:∀p,p∈Od->p∈(wa.heap.size,wb'.heap.size)::Ox:=fun p hp=>aB _ (Oc p hp);clear r U hb Om Rj QY RB Qx Td;generalize (wa.heap.size,wb'.heap.size)::Ox=PX at*
    obtain⟨ap',cp',rfl,-⟩:=hP.form;conv=>whnf
    refine cR hτ dx [.x 0,.x 2,.x 3,.x 4,.x 5,.x 1,.x 6,.x 7] (by kernel_rfl) (by kernel_rfl) ?_;conv=>whnf
    refine⟨adq,rfl,by omega,?_⟩;conv=>whnf
    refine⟨[.bool b3,.slice a3 n3 c3,.bool b4,.slice a4 n4 c4],rfl,fun O J r i x F=>?_,?_⟩
    ·obtain⟨k1,k2⟩:=hl i x F;rw[aE,cL (w:=wb') (V:=J) (by rw[dF,dF];exact Oh Oc r _ k1)];exact k2
    conv=>whnf
    refine cO (If:=fun _ J v V=>cd V (Nf J V) v (((1:Int):Rat))) (fun O J r=>rX 1 J (by decide) (by decide)) ?_;rintro O wa v1 wc r U PD hO;have Q4:=hO.dK (S:=FF) r.cI (iv:=(wa.heap.size,wc.heap.size)::PX) aF;have Om:∀g,Cf w PX g->wc.heap[g]? =wb'.heap[g]? :=fun g Y=>by rw[U.block g (Rel.old r (cH w) g Y),Rel.same r (cH w) Y]
    replace hF:=cd.cK hF fun g Y=>Om g (Y.mono Oc);replace hP:=hP.cK fun g Y=>Om g (Y.elim (fun h=>h.mono Oc) (VJ g));replace I:=I.tr PD;replace Oc:∀p,p∈Od->p∈(wa.heap.size,wc.heap.size)::PX:=fun p hp=>aB _ (Oc p hp);replace VJ:∀g,(Value.slice ap' M.length cp').ownBlock=some g->Cf w ((wa.heap.size,wc.heap.size)::PX) g:=fun g Y=>(VJ g Y).cons;clear r U PD hO hl Om;generalize (wa.heap.size,wc.heap.size)::PX=Q8 at*
    obtain⟨b5,a5,n5,c5,b6,a6,n6,c6,rfl⟩:=Q4.shape;have PZ:(((1:Int):Rat))=1:=rfl;rw[PZ]at Q4;conv=>whnf
    refine cO (If:=fun _ J v V=>cd V (Nf J V) v (1 / q)) (fun O J r=>Ma (Rel.old r (cH w)) (Q4.rel r (cH w)) (cd.cN (cd.cK hF fun g Y=>Oh Oc r g Y) fun g Y=>Y.mono Oc) (by decide) (by omega) h0) ?_;rintro O wa v1 wd r U PD hO;have Va:=hO.dK (S:=FF) r.cI (iv:=(wa.heap.size,wd.heap.size)::Q8) aF;have hQp:∀g,Nf wa wd g->(Value.slice ap' M.length cp').ownBlock≠some g:=fun g Y e=>by
     rcases Y with Y|Y
     ·exact Y.elim
     ·have:=Rel.old r (cH w) g (VJ g e);omega
    have hQ2:cd wd (fun g=>Cf w ((wa.heap.size,wd.heap.size)::Q8) g/\(Value.slice ap' M.length cp').ownBlock≠some g) v1 (1 / q):=hO.cN fun g Y=>⟨Y.dK r.cI aF,hQp g Y⟩
    have Om:∀g,Cf w Q8 g->wd.heap[g]? =wc.heap[g]? :=fun g Y=>by rw[U.block g (Rel.old r (cH w) g Y),Rel.same r (cH w) Y]
    replace hP:=hP.cK fun g Y=>Om g (Y.elim (fun h=>h.mono Oc) (VJ g));replace I:=I.tr PD;replace Oc:∀p,p∈Od->p∈(wa.heap.size,wd.heap.size)::Q8:=fun p hp=>aB _ (Oc p hp);replace VJ:∀g,(Value.slice ap' M.length cp').ownBlock=some g->Cf w ((wa.heap.size,wd.heap.size)::Q8) g:=fun g Y=>(VJ g Y).cons;clear r U PD hO hF Q4 Om hQp;generalize (wa.heap.size,wd.heap.size)::Q8=Qj at*
    obtain⟨b7,a7,n7,c7,b8,a8,n8,c8,rfl⟩:=Va.shape;have hinv:=Dj h0;conv=>whnf
    refine⟨fun O J r=>?_⟩;have hPr:=(hP.cK (V:=J) fun g Y=>Rel.same r (cH w) (Y.elim (fun h=>h.mono Oc) (VJ g))).cN (S':=fun g=>Cf w Qj g/\(Value.slice ap' M.length cp').ownBlock≠some g) fun g Y=>⟨Y.mono Oc,fun e=>hpT g e Y⟩
    obtain⟨Z,SU,SW,Vo⟩:=hPr;refine(JF (fun g Y=>Rel.old r (cH w) g Y.1) SU Vo SW (cd.cK hQ2 fun g Y=>Rel.same r (cH w) Y.1) (fun x F RP=>RP.2 F) (fun x F=>by have:=hqA x (List.mem_of_mem_drop F);omega) (by omega)).mono fun e w4 U=>?_;obtain⟨rfl,PC,css',Wz,hr5,Xb⟩:=U;have hP2:jy w4 (Nw (fun g=>Cf w Qj g/\(Value.slice ap' M.length cp').ownBlock≠some g) J w4) (.slice ap' M.length cp') M.length ((qs.drop (cols+1)).map (· *(1 / q))):=⟨css',Wz,hr5,Xb⟩
    refine⟨.tuple #[],_,(J.heap.size,w4.heap.size)::Qj,rfl,r.qn (fun x F=>Rel.not r (cH w) (VJ x F)) PC,?_⟩;have hP3:fU w4 (Cf w ((J.heap.size,w4.heap.size)::Qj)) (Cf w ((J.heap.size,w4.heap.size)::Qj)) (.slice ap' M.length cp') ((qs.drop (cols+1)).map (· *(1 / q))):=
     hP2.read.cN (fun g Y=>(VJ g Y).cons) fun g Y=>by
      rcases Y with Y|Y
      ·exact Y.1.cons
      ·exact .inr ⟨by have:=r.cI;omega,_,_,aF,Y.1,Y.2⟩
    have hw4:dw w.heap.size w w4:=(I.tr r.cU).tr (dw.grown PC (fun g Y=>by
     rcases VJ g Y with h|⟨h,_⟩
     ·exact h.elim
     ·exact h) r.cI)
    have hsome:∃a,ap'=some a:=by
     rcases Wz.2 with⟨_,h9⟩|⟨g,cap,cur,e,_⟩
     ·omega
     ·injection e with e;exact⟨_,e⟩
    obtain⟨ag,rfl⟩:=hsome;clear hP Va hQ2 SU Vo Wz Xb PC hP2 r I hpT VJ Oc;generalize (J.heap.size,w4.heap.size)::Qj=SP at*
    conv=>whnf
    intro IR we re;refine⟨_,rfl,hw4.tr re.cU,F9,pv,hApv,.inl ⟨pv.length+j,_,by omega,by omega,by rw[QH];exact h0,fun k L G=>hz k L G,rfl,⟨ag,_,_,rfl⟩,?_⟩⟩;rw[hqsd,QH];exact(hP3.rel re (cH w) (cH w)).cN (fun g Y=>Cv.nw Y re) fun g Y=>Cv.nw Y re
   ·have h0:q=0:=by
     have L:(rs q==0)=true:=by simpa using h0
     exact Rat.num_eq_zero.1 (bo.1 (eq_of_beq L))
    conv=>whnf
    refine⟨((j+1:Nat):Int),wo,?_⟩;conv=>whnf
    intro GT w5 E
    refine⟨(j+1,Ox,w5),⟨Pz,I.tr E.cU,Oc,dO.cK RB fun g Y=>Oh Oc E g Y,fun j x qs L G=>⟨(Qx j x qs L G).1.cK fun g Y=>Oh Oc E g (Y.elim id id),(Qx j x qs L G).2⟩,fun k L G=>?_⟩,
     Sub.gn [] E,by dsimp only;omega⟩
    by_cases D:k=pv.length+j
    ·rw[D,QH,h0]
    ·exact hz k L (by dsimp only at G;omega)
  ·have Pz:j=M.length-pv.length:=by
    have:=aG Pz;omega
   have QD:∀k,pv.length<=k->k<M.length->dD F9 k cols=0:=fun k L G=>hz k L (by omega);clear hz R0;conv=>whnf
   refine cJ (cO (If:=fun _ J v V=>kI V FF J.heap.size [(J.heap.size,V.heap.size)] v cols (List.replicate cols 0)) (fun O J r=>Eh cols J (by omega)) ?_);rintro O wa vx wb r U hb F;have hX:=F.dK (S:=FF) (iv:=(wa.heap.size,wb.heap.size)::Oq) r.cI aF;have RI:∀g,vx.ownBlock=some g->¬Cf w Od g:=fun g Y h=>by
    have N:=Rel.old r (cH w) g (h.mono Oc);rcases F.new g Y with h4|⟨h4,_⟩
    ·exact h4
    ·omega
   have Om:∀g,Cf w Od g->wb.heap[g]? =w3.heap[g]? :=fun g Y=>by rw[U.block g (Rel.old r (cH w) g (Y.mono Oc)),Oh Oc r g Y]
   replace RB:=dO.cK RB Om;replace Qx:∀(j:Nat) x qs,rv'[j]? =some x->F9[j]? =some qs->fU wb (Cf w Od) (Cf w Od) x qs/\qs.length=cols+1+M.length:=fun j x qs L G=>⟨(Qx j x qs L G).1.cK fun g Y=>Om g (Y.elim id id),(Qx j x qs L G).2⟩
   have hxB:∀g,vx.ownBlock=some g->w.heap.size<=g:=fun g Y=>by
    rcases hX.new g Y with h4|⟨h4,_⟩
    ·exact h4.elim
    ·exact h4
   replace I:=I.tr hb;replace Oc:∀p,p∈Od->p∈(wa.heap.size,wb.heap.size)::Oq:=fun p hp=>aB _ (Oc p hp);clear r U hb F Om;generalize (wa.heap.size,wb.heap.size)::Oq=Ox at*
   obtain⟨ax,cx,rfl,-⟩:=hX.row.form;conv=>whnf
   refine⟨Nat×Iv×World,fun z=>⟨[(4,pP 0 0),(5,iZ cols),(6,.o (.s 1 0 M.length M.length)),(10,sV apv pv.length cpv),(14,sV ax cols cx),(87,sV apv pv.length cpv),(88,iZ pv.length),(89,iZ z.1)],
     [(1,.arr T.row rv'),(0,.box T.solved [.v (.slice none 0 0),.v (.slice none 0 0),.v (.slice none 0 0)])],2,z.2.1,z.2.2⟩,fun z=>pv.length-z.1,
    fun z=>z.1<=pv.length/\dw w.heap.size w z.2.2/\(∀p,p∈Od->p∈z.2.1)/\dO z.2.2 (Cf w Od) (.slice apv pv.length cpv) pv/\
     (∀(j:Nat) x qs,rv'[j]? =some x->F9[j]? =some qs->fU z.2.2 (Cf w Od) (Cf w Od) x qs/\qs.length=cols+1+M.length)/\
     kI z.2.2 FF w.heap.size z.2.1 (.slice ax cols cx) cols (fE F9 pv cols z.1),?_,?_⟩
   ·intro O J r
    exact⟨(0,Ox,J),⟨by simp,I.tr r.cU,Oc,dO.cK RB fun g Y=>Oh Oc r g Y,fun j x qs L G=>⟨(Qx j x qs L G).1.cK fun g Y=>Oh Oc r g (Y.elim id id),(Qx j x qs L G).2⟩,hX.rel r (cH w)⟩,
     Sub.gn [] r⟩
   clear I Oc RB Qx hX;rintro⟨i,PX,w5⟩ ⟨hi5,I,Oc,RB,Qx,hX⟩;dsimp only at hi5 I Oc RB Qx hX ⊢;conv=>whnf
   refine dQ.mk ?_ ?_<;>intro OZ
   ·have OZ:i<pv.length:=by simpa using OZ
    obtain⟨p,Sq⟩:∃p,pv[i]? =some p:=⟨_,aA OZ⟩
    have hpd:pv.getD i 0=p:=by rw[List.getD,Sq];rfl
    have Vt:=Qv p (aC Sq);obtain⟨_,_,_,_,_,hpe,_,SJ⟩:=id RB;injection hpe with Vu hpe2 Vv;subst Vu Vv;obtain⟨adp,rfl,kp1,kp2⟩:=SJ i (.int .i64 (p:Int)) (by rw[aL,Sq];rfl);obtain⟨xr,Se⟩:∃x,rv'[i]? =some x:=⟨_,aA (by omega)⟩
    obtain⟨qs,WQ⟩:∃x,F9[i]? =some x:=⟨_,aA (by omega)⟩
    obtain⟨QY,SZ⟩:=Qx _ xr qs Se WQ;obtain⟨axr,cxr,hxe,hxc,-⟩:=QY.shape;rw[SZ]at hxe hxc;subst hxe;obtain⟨q,hq⟩:∃q,qs[cols]? =some q:=⟨_,aA (by omega)⟩
    have QH:dD F9 i cols=q:=by
     have:F9.getD i []=qs:=by rw[List.getD,WQ];rfl
     rw[dD,this,List.getD,hq];rfl
    obtain⟨adq,W,rfl,hF,hl⟩:=QY.load hq;obtain⟨b3,a3,n3,c3,b4,a4,n4,c4,rfl,hF⟩:=hF;conv=>whnf
    refine⟨adp,rfl,by omega,?_⟩;conv=>whnf
    refine⟨.int .i64 (p:Int),fun O J r=>?_,?_⟩
    ·rw[aE,aV,cL (w:=w5) (V:=J) (by rw[dF];exact Oh Oc r _ kp1)];exact kp2
    conv=>whnf
    refine⟨by omega,?_⟩;conv=>whnf
    refine⟨.slice (some adq) (cols+1+M.length) cxr,by simpa using Se,?_⟩;conv=>whnf
    refine⟨adq,rfl,by omega,?_⟩;conv=>whnf
    refine⟨[.bool b3,.slice a3 n3 c3,.bool b4,.slice a4 n4 c4],rfl,fun O J r i x F=>?_,?_⟩
    ·obtain⟨k1,k2⟩:=hl i x F;rw[aE,cL (w:=w5) (V:=J) (by rw[dF,dF];exact Oh Oc r _ k1)];exact k2
    conv=>whnf
    have Qe:∃g,ax=some ⟨g,0,none⟩:=by
     obtain⟨Z,ho,_⟩:=hX.row;rcases ho.2 with⟨_,h0⟩|⟨g,cap,cur,e,_⟩
     ·omega
     ·injection e with e;exact⟨g,e⟩
    obtain⟨gx,rfl⟩:=Qe;refine⟨⟨gx,0,none⟩,rfl,by omega,?_⟩;conv=>whnf
    intro O J r;obtain⟨_,Qe,L,G,N,h4,h5⟩:=(hX.rel r (cH w)).store Vt (cd.cN (cd.cK hF fun g Y=>Oh Oc r g Y) fun g Y=>⟨Y.mono Oc,fun e=>RI g e Y⟩) r (cH w);injection Qe with Qe;injection Qe with Qe;subst Qe;have Om:∀g,Cf w Od g->J.heap[g]? =w5.heap[g]? :=fun g Y=>Oh Oc r g Y;replace RB:=dO.cK RB Om;replace Qx:∀(j:Nat) x qs,rv'[j]? =some x->F9[j]? =some qs->fU J (Cf w Od) (Cf w Od) x qs/\qs.length=cols+1+M.length:=fun j x qs L G=>⟨(Qx j x qs L G).1.cK fun g Y=>Om g (Y.elim id id),(Qx j x qs L G).2⟩
    have hold:∀g,Cf w PX g->g<J.heap.size:=Rel.old r (cH w);replace I:=I.tr r.cU;clear r hX QY hF hl Om kp1 kp2 SJ;refine⟨L,G,N,fun V PE=>?_⟩;obtain⟨hX,PC,-⟩:=h5 V PE;replace I:dw w.heap.size w V:=I.tr (dw.grown PC (fun g Y=>by injection Y with Y;subst Y;exact hxB gx rfl) (by have:=I.size;omega));have Om:∀g,Cf w Od g->V.heap[g]? =J.heap[g]? :=fun g Y=>PC.block g (hold g (Y.mono Oc)) fun e=>by injection e with e;subst e;exact RI _ rfl Y
    replace RB:=dO.cK RB Om;replace Qx:∀(j:Nat) x qs,rv'[j]? =some x->F9[j]? =some qs->fU V (Cf w Od) (Cf w Od) x qs/\qs.length=cols+1+M.length:=fun j x qs L G=>⟨(Qx j x qs L G).1.cK fun g Y=>Om g (Y.elim id id),(Qx j x qs L G).2⟩
    clear L G N h4 h5 PE PC hold Om;rw[<-QH,<-hpd,<-gJ]at hX;conv=>whnf
    refine⟨((i+1:Nat):Int),wo,?_⟩;conv=>whnf
    intro GT w6 E
    exact⟨(i+1,PX,w6),⟨OZ,I.tr E.cU,Oc,dO.cK RB fun g Y=>Oh Oc E g Y,fun j x qs L G=>⟨(Qx j x qs L G).1.cK fun g Y=>Oh Oc E g (Y.elim id id),(Qx j x qs L G).2⟩,hX.rel E (cH w)⟩,
     Sub.gn [] E,by dsimp only;omega⟩
   ·have OZ:i=pv.length:=by
     have:¬i<pv.length:=by simpa using OZ
     omega
    subst OZ;have hxR:=hX.read;clear hX;conv=>whnf
    refine gM (If:=fun O J v V=>fh V (Nw (fun g=>Cf w Od g\/g=(O 1).g) J V) v (dM F9 pv cols cols)) (H':=[(0,.box T.solved [.v (.slice none 0 0),.v (.slice none 0 0),.v (.slice none 0 0)])]) 1 rfl (by simp) ⟨rfl,trivial⟩ rfl (fun O J r=>r.nn 1 _ rfl (by intros;simp) (by simp)) (fun O J r=>?_) ?_
    ·have Og:=r.low 1 _ rfl (r.nn 1 _ rfl (by intros;simp) (by simp))
     have ha:=r.aAl (id:=1) (sz:=1) (n:=M.length) rfl (by rw[UT,aV]) (by unfold maxLen;omega) (fun u hu=>by
      obtain⟨i,A⟩:=aN hu;obtain⟨a,cc,e,_⟩:=((Qx i u _ A (aA (by rw[VI,<-UT];exact(aD.1 A).1))).1).shape;rw[e]
      rfl)
     refine Mi (n:=cols+1+M.length) (fun g Y=>?_) (⟨rv',?_,by rw[UT,VI],fun i x qs L G=>?_⟩:fh J _ _ F9) (dO.cN (dO.cK RB fun g Y=>Oh Oc r g Y) fun g Y=>.inl Y) (fun rr hrr=>?_) (by omega) (by omega) (by omega) (by omega) Qv
     ·rcases Y with Y|rfl
      ·exact Rel.old r (cH w) g (Y.mono Oc)
      ·exact Og.2
     ·rw[VI];exact ha.cN fun g Y=>.inr Y
     ·exact((Qx i x qs L G).1.cK fun g Y=>Oh Oc r g (Y.elim id id)).cN (fun g Y=>.inl Y) fun g Y=>.inl Y
     ·obtain⟨i,A⟩:=aN hrr;have hil:=(aD.1 A).1;exact(Qx i rv'[i] rr (aA (by omega)) A).2
    rintro O wa vk wb r U hb hkR;have Og:=r.low 1 _ rfl (r.nn 1 _ rfl (by intros;simp) (by simp));have Sp:fh wb (Cf w (((O 1).g,(O 1).g+1)::(wa.heap.size,wb.heap.size)::PX)) vk (dM F9 pv cols cols):=fh.cN hkR fun g Y=>by
     rcases Y with(Y|rfl)|Y
     ·exact(Y.mono Oc).cons.cons
     ·exact .inr ⟨Og.1,_,_,aF,by omega,by omega⟩
     ·exact .inr ⟨by have:=r.cI;omega,_,_,aB _ aF,Y.1,Y.2⟩
    have RP:fU wb (Cf w (((O 1).g,(O 1).g+1)::(wa.heap.size,wb.heap.size)::PX)) (Cf w (((O 1).g,(O 1).g+1)::(wa.heap.size,wb.heap.size)::PX)) (.slice ax cols cx) (fE F9 pv cols pv.length):=
     (hxR.cK fun g Y=>by rw[U.block g (Rel.old r (cH w) g (Y.elim id id)),Rel.same r (cH w) (Y.elim id id)]).cN (fun g Y=>Y.cons.cons) fun g Y=>Y.cons.cons
    replace I:=I.tr hb;clear r U hb hkR hxR Qx RB Og;generalize ((O 1).g,(O 1).g+1)::(wa.heap.size,wb.heap.size)::PX=Q8 at*
    obtain⟨ak,ck,rfl,-⟩:=dC.shape Sp;conv=>whnf
    exact rtn I fun IR we re=>⟨F9,pv,hApv,.inr ⟨_,_,QD,rfl,(RP.rel re (cH w) (cH w)).cN (fun g Y=>Cv.nw Y re) (fun g Y=>Cv.nw Y re),fh.out Sp re (cH w)⟩⟩
theorem Ge{v u:Value}(X:Old S w)(h:eL w S v M)(hu:eV w S u b)(hf:BO M b=0->(∀r∈M,Few r)/\Few b/\(∀c,c<=db M->Ht (cQ (gO (ju M) (b.map eY)) c).1 h0)/\2<=h0/\4*h0<=500000000):
  eI PG F'.qL #[v,u] w (eO w fun v' V=>(BO M b≠0/\v'= .tuple #[.agg #[.int .i64 0,.slice none 0 0,.slice none 0 0,.slice none 0 0],.int .i64 (BO M b)])\/
   (BO M b=0/\∃s,v'= .tuple #[s,.int .i64 0]/\aAm M b w V s)):=by
 replace h:=eL.arg h [];replace hu:=eV.arg hu [];obtain⟨am,cm,rfl,So,-⟩:=dC.shape h;obtain⟨ab,cb,rfl,Q3,-⟩:=dV.shape hu;refine Ad (by simp) ?_;conv=>whnf
 refine cJ (cO (If:=fun _ _ v _=>v= .int .i64 ((BO M b:Nat):Int)) (fun O J r=>Bv (Rel.old r X) (eL.rel h r X) (eV.rel hu r X)) ?_);rintro O wa v1 wb r U I rfl;replace h:=eL.cM (K:=(wa.heap.size,wb.heap.size)::[]) h r X U fun x F=>aB _ F;replace hu:=eV.cM (K:=(wa.heap.size,wb.heap.size)::[]) hu r X U fun x F=>aB _ F;clear r U;generalize (wa.heap.size,wb.heap.size)::[]=iv at*
 conv=>whnf
 refine dQ.mk (fun h0'=>?_) (fun h0'=>?_)
 ·have h0':BO M b≠0:=fun e=>by rw[e]at h0';simp at h0'
  conv=>whnf
  exact rtn I fun IR we re=>.inl ⟨h0',rfl⟩
 have h0':BO M b=0:=by
  have h4:((BO M b:Int)==0)=true:=by simpa using h0'
  have:=eq_of_beq h4;omega
 obtain⟨hf1,hf2,Pc,G,PH⟩:=hf h0';have hE:sB M=0/\b.length=M.length:=by
  unfold BO at h0';split at h0'
  ·rename_i N;exact absurd h0' N
  ·split at h0'
   ·cases h0'
   ·rename_i N h4;exact⟨by omega,by omega⟩
 have PM:(∀r∈M,r.length=db M)/\M.length<=60/\db M<=60:=by
  have N:=hE.1;unfold sB at N;split at N
  ·rename_i h4;split at N
   ·cases N
   ·exact⟨h4,by omega,by omega⟩
  ·cases N
 obtain⟨Oa,hRl,Pu⟩:=PM;conv=>whnf
 refine cJ (cO (If:=fun _ J v' V=>∃F9 pv,(F9,pv)=cQ (gO (ju M) (b.map eY)) (db M)/\
   ((∃j vp,pv.length<=j/\j<M.length/\dD F9 j (db M)≠0/\(∀k,pv.length<=k->k<j->dD F9 k (db M)=0)/\v'= .agg #[vp,.slice none 0 0,.slice none 0 0]/\(∃a n c,vp= .slice (some a) n c)/\
     fU V (Nf J V) (Nf J V) vp (((F9.getD j []).drop (db M+1)).map (· *(1 / dD F9 j (db M)))))\/
    (∃vx vk,(∀k,pv.length<=k->k<M.length->dD F9 k (db M)=0)/\v'= .agg #[.slice none 0 0,vx,vk]/\fU V (Nf J V) (Nf J V) vx (fE F9 pv (db M) pv.length)/\
     fh V (Nf J V) vk (dM F9 pv (db M) (db M))))) (fun O J r=>Mf (Rel.old r X) (eL.rel h r X) (eV.rel hu r X) hf1 hf2 Oa hE.2 (by omega) (by omega) Pc G PH) ?_)
 rintro O wc v1 wd r U hb ⟨F9,pv,hA,hcase⟩;have hinv:=xR (M:=gO (ju M) (b.map eY)) (cols:=db M) (Pc 0 (aQ _)) G;have Xd:=Pc (db M) (Nat.le_refl _);rw[<-hA]at hinv Xd;obtain⟨VI,Pv,Qv,-⟩:=hinv;dsimp only at VI Pv Qv Xd;rw[mc,aJ]at VI Pv;have Ux:Ht F9 500000000:=Xd.mono (by omega);replace I:=I.tr hb;rcases hcase with⟨j,vp,hj1,hj2,hj3,Xa,rfl,⟨ap,np,cp,rfl⟩,hP⟩|⟨vx,vk,hz,rfl,hX,hK⟩
 ·have Rl:fU wd (Cf w ((wc.heap.size,wd.heap.size)::iv)) (Cf w ((wc.heap.size,wd.heap.size)::iv)) (.slice (some ap) np cp) _:=hP.cN (fun g Y=>Y.dK r.cI aF) fun g Y=>Y.dK r.cI aF;clear r U hb hP h hu;generalize (wc.heap.size,wd.heap.size)::iv=Od at*
  obtain⟨_,_,hpe,-,hpm⟩:=Rl.shape;have hrj:∀x∈((F9.getD j []).drop (db M+1)).map (· *(1 / dD F9 j (db M))),rl x<=10000000000:=fun x F=>by
   obtain⟨y,hy,rfl⟩:=aU.1 F;have L:rl y+1<=500000000:=by
    cases hAj:F9[j]? with
    |none=>
     have:F9.getD j []=[]:=by rw[List.getD,hAj];rfl
     rw[this]at hy;simp at hy
    |some r=>
     have:F9.getD j []=r:=by rw[List.getD,hAj];rfl
     rw[this]at hy;exact Ux.at hAj y (List.mem_of_mem_drop hy)
   have h2':=iA y (1 / dD F9 j (db M));have N:=Dj hj3;have h4:=Hu Ux (by decide) j (db M);omega
  have SK:(((F9.getD j []).drop (db M+1)).map (· *(1 / dD F9 j (db M)))).length<=1000000:=by
   have hL0:fZ (db M+1+M.length) (gO (ju M) (b.map eY)):=fun r hr=>by
    obtain⟨i,A⟩:=aN hr;simp only[gO,List.getElem?_mapIdx,Option.map_eq_some_iff,aL]at A;obtain⟨r1,⟨r0,Wg,rfl⟩,rfl⟩:=A;have:=Oa r0 (aC Wg);simp[pM];omega
   have hL:=Fx (cols:=db M) hL0;rw[<-hA]at hL;rw[aJ,List.length_drop,hL.getD (show j<F9.length by omega)];omega
  conv=>whnf
  refine⟨true,fun O w1 o1 o2=>by simp[eqGuard,SV.den,At.den,oF w1 T.row T.eB (some ap) np cp 0 0 yr],?_⟩;conv=>whnf
  refine cJ (cO (If:=fun _ J v V=>cS V (Nf J V) v (((F9.getD j []).drop (db M+1)).map (· *(1 / dD F9 j (db M))))) (fun O J r=>wv (Rel.old r (cH w)) (Rl.rel r (cH w) (cH w)) SK hrj) ?_);rintro O wa v1 wb r U hb hO;have Q4:=cS.dK (S:=FF) hO r.cI (iv:=(wa.heap.size,wb.heap.size)::Od) aF;replace I:=I.tr hb;clear r U hb hO Rl;generalize (wa.heap.size,wb.heap.size)::Od=Oq at*
  obtain⟨a5,c5,rfl,-,-⟩:=dV.shape Q4;conv=>whnf
  exact rtn I fun IR we re=>.inr ⟨h0',_,rfl,F9,pv,hA,.inl ⟨j,_,hj1,hj2,hj3,Xa,rfl,cS.out Q4 re (cH w)⟩⟩
 ·have hXN:fU wd (Cf w ((wc.heap.size,wd.heap.size)::iv)) (Cf w ((wc.heap.size,wd.heap.size)::iv)) vx _:=hX.cN (fun g Y=>Y.dK r.cI aF) fun g Y=>Y.dK r.cI aF;have hKN:=fh.dK (S:=FF) hK r.cI (iv:=(wc.heap.size,wd.heap.size)::iv) aF;clear r U hb hX hK h hu;generalize (wc.heap.size,wd.heap.size)::iv=Od at*
  obtain⟨ax,cx,rfl,-,-⟩:=hXN.shape;obtain⟨ak,ck,rfl,-,-⟩:=dC.shape hKN;have QJ:=j7 F9 pv (db M) pv.length;have hxh:=KN Ux (by decide) pv (db M) pv.length;have hkh:=Gf Ux (by decide) pv (db M) (db M);have VV:=xk F9 pv (db M) (db M);conv=>whnf
  refine⟨false,fun O w1 o1 o2=>by simp[eqGuard,SV.den,At.den,oF w1 T.row T.eB none 0 0 0 0 yr],?_⟩;conv=>whnf
  refine cR hτ dx [.x 0,.x 1,.x 3,.x 4,.x 2,.x 5,.x 6,.x 7,.x 8] (by kernel_rfl) (by kernel_rfl) ?_;conv=>whnf
  refine cO (If:=fun _ J v V=>cS V (Nf J V) v (fE F9 pv (db M) pv.length)) (fun O J r=>wv (Rel.old r (cH w)) (hXN.rel r (cH w) (cH w)) (by rw[QJ];omega) (fun q hq=>by have:=hxh q hq;omega)) ?_;rintro O wa v1 wb r U hb hO;have Q4:=cS.dK (S:=FF) hO r.cI (iv:=(wa.heap.size,wb.heap.size)::Od) aF;replace hKN:=fh.cM (K:=(wa.heap.size,wb.heap.size)::Od) hKN r (cH w) U fun x F=>aB _ F;replace I:=I.tr hb;clear r U hb hO hXN;generalize (wa.heap.size,wb.heap.size)::Od=Oq at*
  obtain⟨a5,c5,rfl,-,-⟩:=dV.shape Q4;conv=>whnf
  refine cO (If:=fun _ J v V=>cV V (Nf J V) v (dM F9 pv (db M) (db M))) (fun O J r=>OE (Rel.old r (cH w)) (fh.rel hKN r (cH w)) (by omega) (show db M<=1000000 by omega) (fun r hr=>(hkh r hr).1) (fun r hr q hq=>by have:=(hkh r hr).2 q hq;omega)) ?_;rintro O wa v1 wb r U hb hO;have Rl:=cV.dK (S:=FF) hO r.cI (iv:=(wa.heap.size,wb.heap.size)::Oq) aF;replace Q4:=cS.cM (K:=(wa.heap.size,wb.heap.size)::Oq) Q4 r (cH w) U fun x F=>aB _ F;replace I:=I.tr hb;clear r U hb hO hKN;generalize (wa.heap.size,wb.heap.size)::Oq=Ox at*
  obtain⟨a6,c6,rfl,-,-⟩:=dC.shape Rl;conv=>whnf
  exact rtn I fun IR we re=>.inr ⟨h0',_,rfl,F9,pv,hA,.inr ⟨_,_,hz,rfl,cS.out Q4 re (cH w),cV.out Rl re (cH w)⟩⟩
end Go.Ex
namespace Go.Ex
variable{M:List (List Rat)}
structure Dc where
 m:Nat
 q:Nat
 B4:Nat->Nat
 Dk:Nat->Nat
 a:Nat->Nat->Rat
 b:Nat->Rat
 c:Nat->Rat
 top:Rat
structure Dc.Ok(Fd:Dc):Prop where
 bl:∀i,i<Fd.m->Fd.B4 i<Fd.m+Fd.q
 fl:∀j,j<Fd.q->Fd.Dk j<Fd.m+Fd.q
 bi:∀i k,i<Fd.m->k<Fd.m->Fd.B4 i=Fd.B4 k->i=k
 fi:∀j k,j<Fd.q->k<Fd.q->Fd.Dk j=Fd.Dk k->j=k
 bf:∀i j,i<Fd.m->j<Fd.q->Fd.B4 i≠Fd.Dk j
 all:∀v,v<Fd.m+Fd.q->(∃i,i<Fd.m/\Fd.B4 i=v)\/∃j,j<Fd.q/\Fd.Dk j=v
def Dc.row(Fd:Dc)(x:Nat->Rat)(i:Nat):Rat:=cw (fun j=>Fd.a i j*x (Fd.Dk j)) Fd.q
def Dc.Sol(Fd:Dc)(x:Nat->Rat)(z:Rat):Prop:=(∀i,i<Fd.m->x (Fd.B4 i)=Fd.b i-Fd.row x i)/\z=Fd.top+cw (fun j=>Fd.c j*x (Fd.Dk j)) Fd.q
def Dc.OU(Fd:Dc)(r s:Nat):Dc where
 m:=Fd.m
 q:=Fd.q
 B4:=fun i=>if i=r then Fd.Dk s else Fd.B4 i
 Dk:=fun j=>if j=s then Fd.B4 r else Fd.Dk j
 a:=fun i j=>if i=r then(if j=s then 1 / Fd.a r s else Fd.a r j / Fd.a r s)else if j=s then -(Fd.a i s / Fd.a r s)else Fd.a i j-Fd.a i s*(Fd.a r j / Fd.a r s)
 b:=fun i=>if i=r then Fd.b r / Fd.a r s else Fd.b i-Fd.a i s*(Fd.b r / Fd.a r s)
 c:=fun j=>if j=s then -(Fd.c s / Fd.a r s)else Fd.c j-Fd.c s*(Fd.a r j / Fd.a r s)
 top:=Fd.top+Fd.c s*(Fd.b r / Fd.a r s)
section
variable{Fd:Dc}{r s:Nat}{x:Nat->Rat}{z:Rat}
end
def Dc.val(Fd:Dc)(v:Nat):Rat:=cw (fun i=>if Fd.B4 i=v then Fd.b i else 0) Fd.m
structure Dc.Step(Fd:Dc)(r s:Nat):Prop where
 hr:r<Fd.m
 hs:s<Fd.q
 W:0<Fd.c s
 ent:∀j,j<Fd.q->0<Fd.c j->Fd.Dk s<=Fd.Dk j
 ars:0<Fd.a r s
 lea:∀i,i<Fd.m->0<Fd.a i s->Fd.b r / Fd.a r s<=Fd.b i / Fd.a i s/\(Fd.b r / Fd.a r s=Fd.b i / Fd.a i s->Fd.B4 r<=Fd.B4 i)
def Dc.Fea(Fd:Dc):Prop:=∀i,i<Fd.m->0<=Fd.b i
section
variable{Fd:Dc}{r s:Nat}{x:Nat->Rat}
end
structure Run(Fd:Nat->Dc)(r s:Nat->Nat)(k:Nat):Prop where
 ok:(Fd 0).Ok
 fea:(Fd 0).Fea
 step:∀t,t<k->(Fd t).Step (r t) (s t)/\Fd (t+1)=(Fd t).OU (r t) (s t)
section
variable{Fd:Nat->Dc}{r s:Nat->Nat}{k:Nat}
noncomputable def aBU (P:Nat->Prop):Nat->Nat
 |0=>0
 |n+1=>aBU P n+(by classical exact if P n then 2^n else 0)
end
inductive Dc.End (Fd:Dc):Prop
 |aBf (h:∀j,j<Fd.q->¬0<Fd.c j)
 |far (s:Nat) (hs:s<Fd.q) (hc:0<Fd.c s) (ha:∀i,i<Fd.m->Fd.a i s<=0)
def aA5(m n:Nat)(F9:Nat->Nat->Rat)(b c:Nat->Rat):Dc:=⟨m,n,fun i=>n+i,fun j=>j,F9,b,c,0⟩
def aA6(m n:Nat)(F9:Nat->Nat->Rat)(b:Nat->Rat):Dc:=⟨m,n+1,fun i=>n+i,fun j=>if j<n then j else n+m,fun i j=>if j<n then F9 i j else -1,b,fun j=>if j<n then 0 else -1,0⟩
section
variable{Fd:Dc}{m n:Nat}{F9:Nat->Nat->Rat}{b c x:Nat->Rat}
structure aBg(Fd:Dc)(m n:Nat)(F9:Nat->Nat->Rat)(b c:Nat->Rat):Prop where
 ok:Fd.Ok
 em:Fd.m=m
 eq:Fd.q=n
 sol:∀x z,Fd.Sol x z↔(aA5 m n F9 b c).Sol x z
end
structure aBa(Fd:Dc)(m n:Nat)(F9:Nat->Nat->Rat)(b:Nat->Rat):Prop where
 ok:Fd.Ok
 em:Fd.m=m
 eq:Fd.q=n+1
 sol:∀x z,Fd.Sol x z↔(aA6 m n F9 b).Sol x z
section
variable{Fd:Dc}{m n r s:Nat}{F9:Nat->Nat->Rat}{b c x:Nat->Rat}
def Fw(k j:Nat):Nat:=if j<k then j else j+1
def Dc.cut(Fd:Dc)(k n:Nat)(c:Nat->Rat):Dc where
 m:=Fd.m
 q:=Fd.q-1
 B4:=Fd.B4
 Dk:=fun j=>Fd.Dk (Fw k j)
 a:=fun i j=>Fd.a i (Fw k j)
 b:=Fd.b
 c:=fun j=>(if Fd.Dk (Fw k j)<n then c (Fd.Dk (Fw k j))else 0)-cw (fun i=>if Fd.B4 i<n then c (Fd.B4 i)*Fd.a i (Fw k j)else 0) Fd.m
 top:=cw (fun i=>if Fd.B4 i<n then c (Fd.B4 i)*Fd.b i else 0) Fd.m
end
structure Un(FS:Mx)(p:Nat->Nat)(r n:Nat):Prop where
 lt:∀i,i<r->p i<n
 unit:∀i j,i<r->j<r->FS j (p i)=if j=i then 1 else 0
section
variable{FS F8:Mx}{p:Nat->Nat}{r n:Nat}{v:Nat->Rat}
end
def aA7(v w:Nat):Rat:=if w=v then 1 else 0
def Dc.ext(Fd:Dc)(i v:Nat):Rat:=
 if i<Fd.m then(if v<Fd.m+Fd.q then aA7 v (Fd.B4 i)+Fd.row (aA7 v) i else if v=Fd.m+Fd.q then Fd.b i else 0)
 else(if v<Fd.m+Fd.q then -(cw (fun j=>Fd.c j*aA7 v (Fd.Dk j)) Fd.q)else if v=Fd.m+Fd.q then Fd.top else 1)
def Dc.pv(Fd:Dc)(i:Nat):Nat:=if i<Fd.m then Fd.B4 i else Fd.m+Fd.q+1
section
variable{Fd:Dc}{r s:Nat}
structure Dc.Sz(Fd:Dc)(B:Nat)(F8:Mx):Prop where
 sp:∀i,i<Fd.m+1->eN Fd.ext (Fd.m+1) (Fd.m+Fd.q+2) (F8 i)
 ib:∀i t,i<Fd.m+1->t<Fd.m+Fd.q+2->Ib B (F8 i t)
 nz:si F8 Fd.pv (Fd.m+1)≠0
end
structure Tb where
 bs:List Nat
 fs:List Nat
 a:List (List Rat)
 b:List Rat
 c:List Rat
 top:Rat
structure Rp(t:Tb)(Fd:Dc):Prop where
 bsl:t.bs.length=Fd.m
 fsl:t.fs.length=Fd.q
 al:t.a.length=Fd.m
 aw:fZ Fd.q t.a
 bl:t.b.length=Fd.m
 cl:t.c.length=Fd.q
 B4:∀i,i<Fd.m->t.bs.getD i 0=Fd.B4 i
 Dk:∀j,j<Fd.q->t.fs.getD j 0=Fd.Dk j
 ea:∀i j,i<Fd.m->j<Fd.q->dD t.a i j=Fd.a i j
 eb:∀i,i<Fd.m->t.b.getD i 0=Fd.b i
 ec:∀j,j<Fd.q->t.c.getD j 0=Fd.c j
 et:t.top=Fd.top
section
variable{t:Tb}{Fd:Dc}{r s:Nat}
end
def Ls(l:List Rat)(n off:Nat)(idx:Nat->Nat)(val:Nat->Rat):Nat->List Rat
 |0=>l
 |i+1=>if off<=idx i/\idx i<off+n then(Ls l n off idx val i).set (idx i-off) (val i)else Ls l n off idx val i
def Tb.aBb(t:Tb)(n:Nat):List Rat:=Ls (fL n) n 0 (fun i=>t.bs.getD i 0) (fun i=>t.b.getD i 0) t.bs.length
section
variable{t:Tb}{Fd:Dc}{s n m v:Nat}
end
section
variable{Fd FS:Dc}{B:Nat}{F8:Mx}{i v:Nat}{x:Nat->Rat}{z:Rat}
end
section
variable{F9:List (List Rat)}{b c:List Rat}{t:Tb}{Fd:Dc}
end
structure Whp(m n B:Nat)(F9:Nat->Nat->Rat)(b c d:Nat->Rat):Prop where
 nz:∀i,i<m+1->d i≠0
 id:∀i,i<m+1->Ib B (d i)
 ia:∀i j,i<m->j<n->Ib B (d i*F9 i j)
 ib:∀i,i<m->Ib B (d i*b i)
 ic:∀j,j<n->Ib B (d m*c j)
 one:1<=B
section
variable{m n B:Nat}{F9:Nat->Nat->Rat}{b c d:Nat->Rat}{Fd:Dc}
end
section
variable{Fd:Dc}{m n:Nat}{F9:Nat->Nat->Rat}{b c:Nat->Rat}
def aBV(m n:Nat)(F9:Nat->Nat->Rat)(b x:Nat->Rat):Prop:=(∀j,j<n->0<=x j)/\∀i,i<m->cw (fun j=>F9 i j*x j) n<=b i
theorem xQ{f g:Nat->Rat}:∀{n:Nat},(∀k,k<n->f k<=g k)->cw f n<=cw g n
 |0,_=>Rat.le_refl
 |n+1,h=>by
  have L:=xQ (f:=f) (g:=g) (n:=n) fun k D=>h k (by omega);have G:=h n (by omega);show cw f n+f n<=cw g n+g n;grind
theorem cN{x y:Nat->Rat}(F:aBV m n F9 b x)(hy:∀i,i<m->0<=y i):cw (fun j=>cw (fun i=>y i*F9 i j) m*x j) n<=cw (fun i=>y i*b i) m:=by
 rw[cP (g:=fun j=>cw (fun i=>y i*F9 i j*x j) m) fun j _=>by rw[kP],lZ];refine xQ fun i A=>?_;rw[cP (g:=fun j=>y i*(F9 i j*x j)) fun j _=>by grind,ek];have L:=F.2 i A;have G:=hy i A;have N:=Rat.mul_nonneg G (show 0<=b i-cw (fun j=>F9 i j*x j) n by grind);grind
end
section
variable{Fd:Dc}{m n:Nat}{F9:Nat->Nat->Rat}{b c x:Nat->Rat}
end
theorem Lt{n:Nat}(hM:fZ n M)(A:Inj M n):og M n=n:=by
 have hkc:=o9 hM;have Wf:og M n=(cQ M n).2.length:=rfl;have Qv:(cQ M n).2.length<=n:=by
  have:=(gh M n).2.2;show((List.range n).foldl dW (M,[])).2.length<=n;omega
 rcases bK (cW M n).length with h|h
 ·omega
 ·have hy:=qE hM h;have L:=A _ hy
  have N:=Da (M:=M) (n:=n) (c:=fun k=>if k=0 then 1 else 0) (fun t ht=>by
   rw[eo h fun k _ Oe=>by rw[aH Oe,bE],if_pos rfl,cB]
   exact L t ht) 0 h
  exact absurd N (by decide)
section
variable{Fd:Dc}{n:Nat}{F9:List (List Rat)}{b:List Rat}{c:Nat->Rat}
end
end Go.Ex
namespace Go.Ex
open Go Go.Sx Go.Proofs
variable{b x:List Rat}
section
variable{M:List (List Rat)}{b:List Rat}{n B:Nat}
theorem Nl(hM:fZ n M)(hB:1<=B)(hW:zl (dg M b) (n+1) B):zl (gO M b) (n+1+M.length) B:=fun j hj=>by
 rw[mc]at hj;obtain⟨d,d1,d2,d3⟩:=hW j (by rw[eH];exact hj);refine⟨d,d1,d2,fun t _=>?_⟩;rcases aO t (n+1)with h|h
 ·have:=d3 t h
  rwa [<-FR hM,ve h]at this
 ·have hr:=Ih (b:=b) (aA hj);have hl:=hM _ (aY hj);rw[dD,getD_some hr,List.getD,aM (by omega),hl];obtain⟨k,D⟩:∃k,t-n=k+1:=⟨t-n-1,by omega⟩
  rw[D,List.getElem?_cons_succ]
  cases e:(pM M.length j)[k]? with
  |none=>rw[Option.getD_none,ah];exact Ib.zero B
  |some q=>
   have hq:=aC e;rw[Option.getD_some];rcases bC hq with hq|rfl
   ·rw[bI hq,ah];exact Ib.zero B
   ·rw[Rat.mul_one];exact d2
theorem MA(hM:fZ n M)(h:M=[]->n=0):db (M.map jN)=n:=by
 cases M with
 |nil=>exact(h rfl).symm
 |cons r t=>
  show(jN r).length=n;rw[rS];exact hM r (aF ..)
theorem MB(hM:fZ n M)(A:Inj M n):(dM (cQ (gO M b) n).1 (cQ (gO M b) n).2 n n).length=0:=by
 have L:=o9 hM;have G:(cQ M n).2.length=n:=Lt hM A;have N:=s8 (M:=gO M b) (w:=n) n (Nat.le_refl _);rw[LD hM]at N;have h4:(cQ M n).2=(cQ (gO M b) n).2:=by rw[N]
 have h5:(cW M n).length=(dM (cQ (gO M b) n).1 (cQ (gO M b) n).2 n n).length:=by
  unfold cW dM;rw[aJ,aJ,h4]
 omega
end
section
variable{f:fC}{l:List Ld}
theorem MC(h:nd f)(hb:Bl b)(PD:b.length=(cT f).length){c:Nat}(hc:c<=f.cols):Ht (cQ (gO (iD (cT f) f.cols fun t=>(cY f).getD t 0) (b++fL (cW (cT f) f.cols).length)) c).1 2080:=by
 have L:=h.Lo (b:=b++fL (cW (cT f) f.cols).length);rw[eH]at L;have hM:=rP (I':=fun t=>(cY f).getD t 0) (fQ f);exact aBD (LC hM) (Nl hM kQ (h.Ni hb PD)) kQ (by rw[mc];omega) (by omega)
theorem Ii(t:Nat):(dE (fV f []) (-1)).getD t 0=0:=by
 rw[AG];have:(fV f []).getD t 0=0:=by
  have hv:fV f []=List.replicate (3*f.nodes.length) 0:=by
   show dI (List.replicate (3*f.nodes.length) 0)=_;rw[dI,List.map_replicate];rfl
  rw[hv,List.getD,List.getElem?_replicate];split<;>rfl
 rw[this,bE]
theorem Nm(h:nd f)(F:jB (cT f) f.cols (fun t=>(cY f).getD t 0) (dE (fV f []) (-1)) x):∀q∈x,q=0:=by
 have h0:jB (cT f) f.cols (fun t=>(cY f).getD t 0) (dE (fV f []) (-1)) (fL f.cols):=by
  have hz:(fun t=>(fL f.cols).getD t 0)=fun _=>(0:Rat):=funext fun t=>by
   rw[List.getD,fL,List.getElem?_replicate];split<;>rfl
  refine⟨bH ..,fun j hj=>?_,fun k D=>?_⟩
  ·rw[hz,Ii];show cw (fun t=>dD (cT f) j t*0) f.cols=0;rw[cP (g:=fun _=>0) fun t _=>ah _,dc]
  ·rw[hz];show cw (fun t=>(cY f).getD t 0*(dD (cW (cT f) f.cols) k t*0)) f.cols=0;rw[cP (g:=fun _=>0) fun t _=>by grind,dc]
 have:=h.B8.one F h0;subst this;exact fun q hq=>bI hq
theorem MD{u:List Rat}(F:jB (cT f) f.cols (fun t=>(cY f).getD t 0) b x)(hu:fM (da (cT f) f.cols) (dE (fJ x (cY f)) (-1)) (cT f).length=some u){k:Nat}(D:k<f.cols):
  -(jh (da (cT f) f.cols) u).getD k 0=(cY f).getD k 0*x.getD k 0:=by
 have hT:=fa (cT f) f.cols;obtain⟨L,G⟩:=iV hT hu;have Sp:k<(da (cT f) f.cols).length:=by rw[eJ];exact D
 rw[HV hT u Sp,G k Sp,AG,lf (by rw[F.len];exact D)];grind
end
end Go.Ex
