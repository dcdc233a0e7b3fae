/- Texts X260 to L96: lemmas, each with its conditions. -/
import Derived.Test.YtbffinhkognefaaGreatDoorP16
set_option linter.defProp false
namespace Go.Ex
open Go Go.Sx Go.Proofs
variable{Fn:List (List Rat)}{S:Nat->Prop}{d:Nat->Rat}
def Hl{w:World}{x:Tx}{b c:List Rat}{FS Bz:Nat}(TT:Old S w)(Qq:fL w S x (Tb.begin Fn b c))(hA:iP c.length Fn)(N:b.length=Fn.length)(hm:Fn.length<=900)(E:c.length<=900)
  (hW:LD Fn.length c.length Bz (dR Fn) (λi=>b.getD i 0) (λj=>c.getD j 0) d) (hK:ln (fB Bz (Fn.length+1))<=FS) (Y:1<=FS) (hh:FS<=90000):
  eH PG Fd.jS #[.pointer (some ⟨x.g,0,none⟩),iV c.length] w (λe F=>∃v x' t',e= .returned v/\x'.g=x.g/\Kept w F (Bv x.cz)/\fL F (λg=>Nw (λg=>S g\/Bv x.cz g) w F g/\¬Bv x'.cz g) x' t'/\(∀g,Bv x'.cz g->Bv x.cz g\/w.heap.size<=g)/\
   ((v=nls/\∃D,Rp t' D/\jO D Fn.length c.length (dR Fn) (λi=>b.getD i 0) (λj=>c.getD j 0)/\D.uO/\∃E9,D.Sz Bz E9)\/
    (∃a q y,v= .slice (some a) Fn.length q/\dx F (Nw S w F) (Nw S w F) v y/\y.length=Fn.length/\(∀q∈y,rl q+1<=FS+1)/\vY Fn.length c.length (dR Fn) (λi=>b.getD i 0) λi=>y.getD i 0))):=by
 have G:=TT;obtain⟨t0,ht0⟩:∃t0,t0=Tb.begin Fn b c:=⟨_,rfl⟩
 rw[<-ht0]at Qq;have XG:=Rp.start hA N;rw[<-ht0]at XG;have Zs:t0.Wf Fn.length c.length:=XG.wf;have Sp:=sq Fn.length c.length (dR Fn) (λi=>b.getD i 0) λj=>c.getD j 0;have hz0:=hW.szD;have hH:=XG.HA (hz0.all Sp hK);obtain⟨m,VK⟩:∃m,m=Fn.length:=⟨_,rfl⟩
 obtain⟨n,Po⟩:∃n,n=c.length:=⟨_,rfl⟩
 rw[<-VK,<-Po]at Zs;rw[<-VK]at hm;rw[<-Po]at E;have hbt:t0.b=b:=by rw[ht0];rfl
 have Pu:=Zs.b;obtain⟨aB,cB,VJ,hcB,-,Zp⟩:=Qq.hdB Zs;have hT:=dI.arg Qq;have Xp:∀g,S g->(λg=>S g\/Bv x.cz g) g:=λg V=>.inl V;have hUx:∀g,Bv x.cz g->(λg=>S g\/Bv x.cz g) g:=λg V=>.inr V;have hU:∀g,(λg=>S g\/Bv x.cz g) g->g<w.heap.size:=λg V=>V.elim (G g) λh=>Qq.low h;generalize (λg=>S g\/Bv x.cz g)=F8 at*
 have K:Kept w w (Bv x.cz):=Kept.refl;rw[<-Po,<-VK];refine ou ce ?_;refine⟨_,λO J r=>hT.f3 G VJ r,_,λO J r=>hT.f3 G VJ r,Nat×World×Iv,λz=>⟨[(0,.o (.v (.pointer (some ⟨x.g,0,none⟩)))),(1,.o (.v (iV (n:Int)))),(5,.o (.v (iV (m:Int)))),(6,iN (AN b z.1)),(19,.o (.v (iV (m:Int)))),(20,.o (.v (iV (z.1:Int))))],[],0,z.2.2,z.2.1⟩,λz=>m-z.1,λz=>z.1<=m/\Kept w z.2.1 (Bv x.cz)/\dI z.2.1 S w.heap.size z.2.2 x t0,?_,?_⟩
 .intro O J r;exact⟨(0,J,_),⟨aZ _,Kept.cg r.cg K lr,hT.rel r G⟩,sbgn [] r⟩
 clear hT K;rintro⟨i,w1,iv⟩ ⟨R,K,hT⟩;dsimp only at R K hT ⊢;obtain⟨lo,Te⟩:∃lo,lo=AN b i:=⟨_,rfl⟩
 rw[<-Te];apply bS<;>intro Pk
 .have Pk:=dL Pk;obtain⟨gB,rfl⟩:=Zp be;have Qi:lo<m:=by
   rcases bB i with h|h
   .rw[Te,h];show 0<m;omega
   .have:=(tA b i).1 h;omega
  have l1:=hH.PR be i;have l2:=hH.PR be lo;obtain⟨p1,p2,p3,p4,p5,p6,p7,p8,US,hF⟩:=hT.eB G (j:=i) be VJ;obtain⟨q1,q2,q3,q4,q5,q6,q7,q8,hEq,hG⟩:=hT.eB G (j:=lo) be VJ;refine dP (idO 16) ?_;refine⟨_,λO J r=>hT.f3 G VJ r,_,rfl,be,rC p1 p2 p3 p4 p5 p6 p7 p8,rfl,λO J r j x Z=>US r j x Z,_,λO J r=>hT.f3 G VJ r,_,rfl,be,rC q1 q2 q3 q4 q5 q6 q7 q8,rfl,λO J r j x Z=>hEq r j x Z,?_⟩;refine cR (GT:=λ_ J v F=>v=iV (rs (t0.b.getD i 0-t0.b.getD lo 0))) (λO J r=>ud (Lv.old r G) (hF.gh r G) (hG.gh r G) be be) ?_;rintro O QJ v1 QH r L N rfl;clear hF;clear hG;replace hT:=hT.cV (A:=(QJ.heap.size,QH.heap.size)::iv) r G L λx Z=>aD _ Z;replace K:=Kept.cg N K lr;clear r L N;generalize (QJ.heap.size,QH.heap.size)::iv=Pt at*
  apply bS<;>intro hc
  .have SN:b.getD i 0<b.getD lo 0:=by rw[<-hbt];exact iF.1 (aK hc)
   have e:AN b (i+1)=i:=by rw[AN,<-Te,aM SN]
   refine inc i ?_;intro I8 w3 r3;exact⟨(i+1,w3,_),⟨Pk,Kept.cg r3.cg K lr,hT.rel r3 G⟩,sbgn [] r3 (hE:=⟨rfl,rfl,rfl,by dsimp only;rw[e];rfl,rfl,rfl,trivial⟩),dec Pk⟩
  have SN:¬b.getD i 0<b.getD lo 0:=λh=>by rw[<-hbt]at h;exact absurd (iF.2 h) (aL hc)
  have e:AN b (i+1)=lo:=by rw[AN,<-Te,aJ SN]
  refine inc i ?_;intro I8 w3 r3;exact⟨(i+1,w3,_),⟨Pk,Kept.cg r3.cg K lr,hT.rel r3 G⟩,sbgn [] r3 (hE:=⟨rfl,rfl,rfl,by dsimp only;rw[e];rfl,rfl,rfl,trivial⟩),dec Pk⟩
 have Pk:=dE R Pk;have Pq:=tA b m;rw[<-Pk,<-Te]at Pq;have XN:∀k,k<m->b.getD lo 0<=b.getD k 0:=λk K=>Pq.2 k be;rcases bB m with UC|UC
 .have hm0':(m:Int)=0:=by omega
  rw[hm0'];intro GE we re;refine⟨_,x,t0,rfl,rfl,Kept.cg re.cg K lr,(hT.more Xp).OD re hU,λg N=>.inl N,.inl ⟨rfl,_,XG,(by rw[VK,Po];exact jO.start),uQ λi R=>?_,_,hz0⟩⟩;omega
 have Ti:((m:Int)==0)=false:=by rw[beq_eq_false_iff_ne];omega
 obtain⟨gB,rfl⟩:=Zp be;have Qi:lo<m:=by have:=Pq.1 be;omega
 obtain⟨q1,q2,q3,q4,q5,q6,q7,q8,hEq,hG⟩:=hT.eB G (j:=lo) be VJ;conv=>whnf
 rw[Ti];refine⟨_,λO J r=>hT.f3 G VJ r,_,rfl,be,rC q1 q2 q3 q4 q5 q6 q7 q8,rfl,λO J r j x Z=>hEq r j x Z,?_⟩;refine cS (cR (GT:=λ_ J v F=>v=iV (rs (t0.b.getD lo 0))) (λO J r=>ij (Lv.old r G) (hG.gh r G)) ?_);rintro O QJ v1 QH r L N rfl;clear hG;replace hT:=hT.cV (A:=(QJ.heap.size,QH.heap.size)::iv) r G L λx Z=>aD _ Z;replace K:=Kept.cg N K lr;clear r L N;generalize (QJ.heap.size,QH.heap.size)::iv=Pt at*
 apply bS<;>intro hc
 .have SN:¬b.getD lo 0<0:=λh=>by
   have h4:rs (t0.b.getD lo 0-0)<0:=iF.2 (by rw[hbt];exact h);rw[show t0.b.getD lo 0-0=t0.b.getD lo 0 by grind]at h4;have h5:=aK hc;omega
  intro GE we re;refine⟨_,x,t0,rfl,rfl,Kept.cg re.cg K lr,(hT.more Xp).OD re hU,λg N=>.inl N,.inl ⟨rfl,_,XG,(by rw[VK,Po];exact jO.start),uQ λi R=>?_,_,hz0⟩⟩;exact Rat.le_trans (Rat.not_lt.1 SN) (Pq.2 i be)
 have SN:b.getD lo 0<0:=by
  have h5:¬rs (t0.b.getD lo 0)≥0:=aL hc;have h4:rs (t0.b.getD lo 0-0)<0:=by rw[show t0.b.getD lo 0-0=t0.b.getD lo 0 by grind];omega
  rw[<-hbt];exact iF.1 h4
 obtain⟨ac,cc,YY,VF,-,-⟩:=Qq.hdc Zs;clear Pk Pq R;refine BP (λl0 l H nx iv w1=>l=l0/\H=[]/\nx=0/\Kept w w1 (Bv x.cz)/\dI w1 S w.heap.size iv x t0) ?_ ?_
 .intro K0 R8;exact R8 _ _ _ _ _ ⟨rfl,rfl,rfl,K,hT⟩
 clear hT K;rintro l H nx Pt w1 ⟨rfl,rfl,rfl,K,hT⟩;refine lE (λl0 l H nx iv w1=>∃(b57 b56 b55 b54:SV),l=(8,sV ac n cc)::(57,b57)::(56,b56)::(55,b55)::(54,b54)::l0/\H=[]/\nx=0/\Kept w w1 (Bv x.cz)/\dI w1 S w.heap.size iv x t0) ?_ ?_
 .intro K0 R8;refine⟨_,λO J r=>hT.f4 G YY r,?_⟩;exact R8 _ _ _ _ _ ⟨_,_,_,_,rfl,rfl,rfl,K,hT⟩
 clear hT K;rintro l H nx Pt w1 ⟨b57,b56,b55,b54,rfl,rfl,rfl,K,hT⟩;refine lE (λl0 l H nx iv w1=>∃(b65 b64 b63 b62 b61 b60 b59 b58:SV) (bx:jX) (y:Tx),l=(65,b65)::(64,b64)::(63,b63)::(62,b62)::(61,b61)::(60,b60)::(59,b59)::(58,b58)::l0/\H=[(0,bx)]/\nx=1/\Kept w w1 (Bv x.cz)/\dI w1 S w.heap.size iv y {t0 with c:=dm n++[-1]}/\dx w1 (Lv F8 w.heap.size iv y) (Lv F8 w.heap.size iv y) x.vc c/\(∀g,Bv y.cz g->Bv x.cz g\/w.heap.size<=g)/\y.g=x.g/\y.vf=x.vf/\y.va=x.va/\y.rv=x.rv) ?_ ?_
 .intro K0 R8;refine cS (cR (GT:=λ_ J v F=>eh F FF J.heap.size [(J.heap.size,F.heap.size)] v n (List.replicate n 0)) (λO J r=>j4 n J be) ?_);rintro O wa v1 wb r L Pu hX;have hN:∀g,Lv S w.heap.size Pt x g\/Bv x.cz g->g<wa.heap.size:=λg V=>V.elim (λh=>Lv.old r G g h) λh=>hT.low r h;have hBN:w.heap.size<=wa.heap.size:=r.cY;replace hT:=hT.cV (A:=Pt) r G L λp hp=>hp;replace K:=Kept.cg Pu K lr;have sz1:=L.size;clear r L Pu;refine cS (cR (GT:=λ_ J v F=>cw F (Nf J F) v ((-1:Int):Rat)) (λO J r=>iI (-1) J bv bv) ?_);rintro O wc v2 wd r L Pu hO;replace hT:=hT.cV (A:=Pt) (r.less λp hp=>aD _ hp) G L λp hp=>hp;replace hX:=hX.later hBN ce r L;replace K:=Kept.cg Pu K lr;have sz2:=r.size;have sz3:=L.size;clear r L Pu;obtain⟨k1,k2,k3,k4,k5,k6,k7,k8,rfl⟩:=hO.shape;rw[show ((-1:Int):Rat)= -1 by decide]at hO;obtain⟨iv2,Xq⟩:∃iv2,iv2=(wc.heap.size,wd.heap.size)::(wa.heap.size,wb.heap.size)::Pt:=⟨_,rfl⟩
  have q1:(wa.heap.size,wb.heap.size)∈iv2:=by rw[Xq];simp
  have q2:(wc.heap.size,wd.heap.size)∈iv2:=by rw[Xq];simp
  have q3:∀p,p∈Pt->p∈iv2:=λp hp=>by rw[Xq];simp[hp]
  rw[<-Xq];clear Xq;obtain⟨U,UR,RD,WA⟩:=hX.row;have hvn:∀g,v1.ownBlock=some g->wa.heap.size<=g/\g<wb.heap.size:=λg V=>e8 (hX.new g V);have hvc2:∀g,v1.ownBlock=some g->Cf w iv2 g:=λg V=>.inr ⟨by have:=hvn g V;omega,_,_,q1,(hvn g V).1,(hvn g V).2⟩;clear hX;have XH:Fr wd (λg=>wa.heap.size<=g/\g<wb.heap.size/\v1.ownBlock≠some g) U (List.replicate n 0):=WA.cU λg V=>⟨(e8 V.1).1,(e8 V.1).2,V.2⟩
  have Sy:cw wd (λg=>wc.heap.size<=g/\g<wd.heap.size) _ (-1):=hO.cU λg V=>V.elim (λh=>h.elim) id
  refine .inr (iC hτ (aZ _) (xs:=U.flatten) (news:=rC k1 k2 k3 k4 k5 k6 k7 k8) (m:=n) (k:=1) d8 d8 bv d8 d8 (λO J r=>⟨ownsRow.cW UR λg V=>rls r (iS _) (hvc2 g V),λg V=>Rel.not r (iS _) (hvc2 g V)⟩) rfl (by simp;exact⟨rfl,rfl,rfl,rfl⟩) mx be
   (λO J r=>?_) (λv' F=>e9 v'++iv2) (λO J v' F r QG SQ=>tB r (λg V=>Rel.not r (iS _) (hvc2 g V)) QG SQ) (λO J v' F r h5 h6 h7=>?_))
  .exact(fT.KV (r.jt (id:=0) (sz:=4) (n:=1) rfl rfl bv (by simp;exact⟨rfl,rfl,rfl,rfl⟩)) bv).imp id λ⟨ad,c,e1,e2⟩=>⟨ad,c,e1,λj u hu=>(e2 j u hu).2⟩
  obtain⟨hP,hbel,Pw,hR⟩:=hT.aBY r G Xp hUx hN hBN be XH RD hvn Sy be be q1 q2 q3 h5 h6 h7;obtain⟨a2,c2,rfl,-⟩:=eZ h5;replace K:=Kept.cg hbel (Kept.cg r.cg K lr) hBN;replace Pw:∀g,Bv (Tx.cz {x with vc:=.slice a2 (n+1) c2}) g->Bv x.cz g\/w.heap.size<=g:=λg V=>(Pw g V).imp id λh=>aR hBN h;rw[show t0.c=c by rw[ht0];rfl]at hR;clear hT h5 h6 h7 r hbel UR WA XH Sy hO;generalize e9 (.slice a2 (n+1) c2)++iv2=Ps at*
  intro I8 w3 r3;have hs:=hP.ET r3 G (k:=4) bv (v:=.slice a2 (n+1) c2) (ad:=Addr.add ⟨x.g,0,none⟩ 4) (by rw[dD,aV]);refine⟨hs.spot,hs.cells,hs.own,λw4 QD=>?_⟩;obtain⟨SC,QW,-⟩:=hs.next w4 QD
  have hT:=SC.toO rfl rfl;replace hR:=hR.pD r3 hU QW (λg V=>.inl V) λp hp=>hp;replace K:=Kept.gY (Kept.cg r3.cg K lr) QW λg V N=>(Pw g N).elim id λh=>by omega
  clear hs SC QW QD r3 hP;exact R8 _ _ _ _ _ ⟨_,_,_,_,_,_,_,_,_,{x with vc:=.slice a2 (n+1) c2},rfl,rfl,rfl,K,hT,hR,Pw,rfl,rfl,rfl,rfl⟩
 clear hT K;rintro l H nx iv w1 ⟨b65,b64,b63,b62,b61,b60,b59,b58,bx,y,rfl,rfl,rfl,K,hT,hR,Pw,R0,hyf,RW,XF⟩;obtain⟨fs,Yk⟩:∃fs,fs=t0.fs:=⟨_,rfl⟩
 have Qj:fs.length=n:=by rw[Yk];exact Zs.fs
 refine lE (λl0 l H nx iv w1=>∃(b77 b76 b75 b74 b73 b72 b71 b70 b69 b68 b67 b66:SV) (bx2:jX) (y2:Tx),l=(77,b77)::(76,b76)::(75,b75)::(74,b74)::(73,b73)::(72,b72)::(71,b71)::(70,b70)::(69,b69)::(68,b68)::(67,b67)::(66,b66)::l0/\H=[(1,bx2),(0,bx)]/\nx=2/\Kept w w1 (Bv x.cz)/\dI w1 S w.heap.size iv y2 ⟨t0.bs,fs++[n+m],t0.a,t0.b,dm n++[-1],t0.top⟩/\dx w1 (Lv F8 w.heap.size iv y2) (Lv F8 w.heap.size iv y2) x.vc c/\(∀g,Bv y2.cz g->Bv x.cz g\/w.heap.size<=g)/\y2.g=x.g/\y2.va=x.va/\y2.rv=x.rv) ?_ ?_
 .intro K0 R8;refine⟨y.vf,λO J r=>by have h:=hT.f1 G rfl r;rw[R0]at h;exact h,((n+m:Nat):Int),wo,?_⟩;rw[Yk]at Qj
  refine .inr (iC hτ (aZ _) (xs:=ints t0.fs) (news:=[iV ((n+m:Nat):Int)]) (m:=t0.fs.length) (k:=1) d8 d8 bv d8 d8 (λO J r=>hT.OA r G) rfl (by simp;rfl) mx be
   (λO J r=>?_) (λv' F=>e9 v'++iv) (λO J v' F r QG SQ=>tB r (hT.OA r G).2 QG SQ) (λO J v' F r h5 h6 h7=>?_))
  .exact(fT.KV (r.jt (id:=1) (sz:=1) (n:=1) rfl rfl bv (by simp;rfl)) bv).imp id λ⟨ad,c,e1,e2⟩=>⟨ad,c,e1,λj u hu=>(e2 j u hu).2⟩
  obtain⟨a2,c2,rfl,-⟩:=eZ h5;rw[xV]at h5;have hG:=hT.Ot r G (l:=t0.fs++[n+m]) (by rw[aU];exact h5) h6 h7;replace K:=Kept.gY (Kept.cg r.cg K lr) hG.kept λg V N=>(Pw g N).elim id λh=>by omega
  replace hR:=hR.pD r hU hG.kept hG.DL (iv2:=e9 (.slice a2 (t0.fs.length+1) c2)++iv) λp hp=>List.mem_append_right _ hp;replace Pw:∀g,Bv (Tx.cz {y with vf:=.slice a2 (t0.fs.length+1) c2}) g->Bv x.cz g\/w.heap.size<=g:=λg V=>(hG.DL g V).elim (Pw g) λh=>.inr (aR r.cY h);have hP:=hG.iw;clear hG h5 h6 h7 r hT;generalize e9 (.slice a2 (t0.fs.length+1) c2)++iv=Ps at*
  intro I8 w3 r3;have hs:=hP.ET r3 G (k:=1) bv (v:=.slice a2 (t0.fs.length+1) c2) (ad:=Addr.add ⟨x.g,0,none⟩ 1) (by rw[dD,aV,R0]);refine⟨hs.spot,hs.cells,hs.own,λw4 QD=>?_⟩;obtain⟨SC,QW,-⟩:=hs.next w4 QD
  have hT:=SC.toO rfl rfl;replace hR:=hR.pD r3 hU QW (λg V=>.inl V) λp hp=>hp;replace K:=Kept.gY (Kept.cg r3.cg K lr) QW λg V N=>(Pw g N).elim id λh=>by omega
  clear hs SC QW QD r3 hP;exact R8 _ _ _ _ _ ⟨_,_,_,_,_,_,_,_,_,_,_,_,_,{y with vf:=.slice a2 (t0.fs.length+1) c2},rfl,rfl,rfl,K,hT.cast (by rw[Yk]),hR,Pw,R0,RW,XF⟩
 clear hT K hR Pw R0 hyf RW XF;rintro l H nx iv w1 ⟨b77,b76,b75,b74,b73,b72,b71,b70,b69,b68,b67,b66,bx2,y2,rfl,rfl,rfl,K,hT,hR,Pw,VL,ZC,hyr2⟩;obtain⟨aa,ca,hxa,Qc,-,Zo⟩:=Qq.hda Zs;obtain⟨ga,rfl⟩:=Zo be;rw[hxa]at ZC;obtain⟨t1,Zb⟩:∃t1:Tb,t1=⟨t0.bs,fs++[n+m],t0.a,t0.b,dm n++[-1],t0.top⟩:=⟨_,rfl⟩
 rw[<-Zb]at hT;have UK:t1.a.length=m:=by rw[Zb];exact Zs.al
 have haw:∀i,i<m->(t1.a.getD i []).length=n:=λi R=>by rw[Zb];exact Zs.row R
 refine lE (λ_ l H nx iv w1=>∃(b84 b82 b83:SV) (y:Tx),l=(84,b84)::[(0,.o (.v (.pointer (some ⟨y.g,0,none⟩)))),(1,.o (.v (iV (n:Int)))),(5,.o (.v (iV (m:Int)))),(6,.o (.v (iV (lo:Int)))),(8,sV ac n cc),(82,b82),(83,b83)]/\H=[]/\nx=2/\Kept w w1 (Bv x.cz)/\dI w1 S w.heap.size iv y (t1.wQ m)/\dx w1 (Lv F8 w.heap.size iv y) (Lv F8 w.heap.size iv y) x.vc c/\(∀g,Bv (Tx.cz y) g->Bv x.cz g\/w.heap.size<=g)/\Tx.g y=x.g/\Tx.va y= .slice (some ⟨ga,0,none⟩) m ca) ?_ ?_
 .intro K0 R8;refine⟨.slice (some ⟨ga,0,none⟩) m ca,λO J r=>by have h:=hT.f2 G ZC r;rw[VL]at h;exact h,Nat×Tx×World×Iv,λz=>⟨[(0,.o (.v (.pointer (some ⟨x.g,0,none⟩)))),(1,.o (.v (iV (n:Int)))),(5,.o (.v (iV (m:Int)))),(6,.o (.v (iV (lo:Int)))),(8,sV ac n cc),(82,.o (.v (iV (m:Int)))),(83,.o (.v (iV (z.1:Int))))],[],2,z.2.2.2,z.2.2.1⟩,λz=>m-z.1,λz=>z.1<=m/\Kept w z.2.2.1 (Bv x.cz)/\dI z.2.2.1 S w.heap.size z.2.2.2 z.2.1 (t1.wQ z.1)/\dx z.2.2.1 (Lv F8 w.heap.size z.2.2.2 z.2.1) (Lv F8 w.heap.size z.2.2.2 z.2.1) x.vc c/\(∀g,Bv (Tx.cz z.2.1) g->Bv x.cz g\/w.heap.size<=g)/\Tx.g z.2.1=x.g/\Tx.va z.2.1= .slice (some ⟨ga,0,none⟩) m ca,?_,?_⟩
  .intro O J r;exact⟨(0,y2,J,_),⟨aZ _,Kept.cg r.cg K lr,(hT.rel r G).cast Tb.K4.symm,hR.pD r hU Kept.refl (λg V=>.inl V) (λp hp=>hp),Pw,VL,ZC⟩,sbgn [] r⟩
  clear hT K hR Pw VL ZC hyr2;rintro⟨i,y,w1,iv⟩ ⟨R,K,hT,hR,Pw,R0,RW⟩;dsimp only at R K hT hR Pw R0 RW ⊢;apply bS<;>intro Pk
  .have Pk:=dL Pk;obtain⟨v0,-,hv0,-⟩:=hT.aAu G (i:=i) (by rw[Tb.GU];omega);refine uf (λl0 l H nx iv w1=>∃(b101 b100 b99 b98 b97 b96 b94 b89 b95 b93 b92 b91 b90 b88 b87 b86:SV) (bx:jX) (y:Tx),l=(101,b101)::(100,b100)::(99,b99)::(98,b98)::(97,b97)::(96,b96)::(94,b94)::(89,b89)::(95,b95)::(93,b93)::(92,b92)::(91,b91)::(90,b90)::(88,b88)::(87,b87)::(86,b86)::l0/\H=[(2,bx)]/\nx=3/\Kept w w1 (Bv x.cz)/\dI w1 S w.heap.size iv y (t1.wQ (i+1))/\dx w1 (Lv F8 w.heap.size iv y) (Lv F8 w.heap.size iv y) x.vc c/\(∀g,Bv (Tx.cz y) g->Bv x.cz g\/w.heap.size<=g)/\Tx.g y=x.g/\Tx.va y= .slice (some ⟨ga,0,none⟩) m ca) ?_ ?_
   .intro K0 R8;refine fA hτ uR (.x 0 (.x 1 (.x 2 (.x 4 (.x 5 (.x 6 (.x 7 (.x 9 (.ld 3 98304 (.ld 8 117760 (.x 10 (.ld 11 114688 (.x 12 (.x 13 (.x 14 (.x 15 (.x 16 .nil))))))))))))))))) d9 d9 ?_;refine⟨.slice (some ⟨ga,0,none⟩) m ca,λO J r=>by have h:=hT.f2 G RW r;rw[R0]at h;exact h,.slice (some ⟨ga,0,none⟩) m ca,λO J r=>by have h:=hT.f2 G RW r;rw[R0]at h;exact h,_,rfl,be,_,λO J r=>hT.cA G hv0 RW r,?_⟩;refine cS (cR (GT:=λ_ J v F=>cw F (Nf J F) v ((-1:Int):Rat)) (λO J r=>iI (-1) J bv bv) ?_);rintro O wc v2 wd r L Pu hO;replace hO:=hO.uc hT r;replace hR:=hR.pD (iv2:=(wc.heap.size,wd.heap.size)::iv) r hU (GS L) (λg V=>.inl V) λp hp=>aD _ hp;replace hT:=hT.cV (A:=(wc.heap.size,wd.heap.size)::iv) r G L λp hp=>aD _ hp;replace K:=Kept.cg Pu K lr;clear r L Pu;generalize (wc.heap.size,wd.heap.size)::iv=iv2 at*
    obtain⟨k1,k2,k3,k4,k5,k6,k7,k8,rfl⟩:=hO.shape;rw[show ((-1:Int):Rat)= -1 by decide]at hO;refine⟨_,λO J r=>hT.cA G hv0 RW r,rfl,.slice (some ⟨ga,0,none⟩) m ca,λO J r=>by have h:=hT.f2 G RW r;rw[R0]at h;exact h,rfl,.slice (some ⟨ga,0,none⟩) m ca,λO J r=>by have h:=hT.f2 G RW r;rw[R0]at h;exact h,rfl,_,λO J r=>hT.cA G hv0 RW r,rfl,.slice (some ⟨ga,0,none⟩) m ca,λO J r=>by have h:=hT.f2 G RW r;rw[R0]at h;exact h,rfl,.slice (some ⟨ga,0,none⟩) m ca,λO J r=>by have h:=hT.f2 G RW r;rw[R0]at h;exact h,rfl,?_⟩;obtain⟨v1,U,TQ,Qa,hFr,Uw,RY⟩:=hT.aAu G (i:=i) (by rw[Tb.GU];omega);rw[hv0]at TQ;injection TQ with TQ;subst TQ;have QI:((t1.wQ i).a.getD i []).length=n:=by rw[Tb.JQ be];exact haw i Pk
    rw[QI]at Qa
    refine .inr (iC hτ (aZ _) (xs:=U.flatten) (news:=rC k1 k2 k3 k4 k5 k6 k7 k8) (m:=U.length) (k:=1) d8 d8 bv d8 d8 (λO J r=>RY r) rfl (by simp;exact⟨rfl,rfl,rfl,rfl⟩) mx be
     (λO J r=>?_) (λv' F=>e9 v'++iv2) (λO J v' F r QG SQ=>tB r (RY r).2 QG SQ) (λO J v' F r h5 h6 h7=>?_))
    .exact(fT.KV (r.jt (id:=2) (sz:=4) (n:=1) rfl rfl bv (by simp;exact⟨rfl,rfl,rfl,rfl⟩)) bv).imp id λ⟨ad,c,e1,e2⟩=>⟨ad,c,e1,λj u hu=>(e2 j u hu).2⟩
    obtain⟨a2,c2,rfl,-⟩:=eZ h5;have hG:=hT.aAB r G hv0 hFr Uw hO h5 h6 h7;replace K:=Kept.gY (Kept.cg r.cg K lr) hG.kept λg V N=>(Pw g N).elim id λh=>by omega
    replace hR:=hR.pD r hU hG.kept hG.DL (iv2:=e9 (.slice a2 (U.length+1) c2)++iv2) λp hp=>List.mem_append_right _ hp;obtain⟨y2,RH⟩:∃y2:Tx,y2={y with rv:=y.rv.set i (.slice a2 (U.length+1) c2)}:=⟨_,rfl⟩
    have hP:=hG.iw;have UX:=hG.DL;rw[<-RH]at hP UX hR;replace Pw:∀g,Bv y2.cz g->Bv x.cz g\/w.heap.size<=g:=λg V=>(UX g V).elim (Pw g) λh=>.inr (aR r.cY h);clear hG h5 h6 h7 r hT RY hO hFr Uw UX;generalize e9 (.slice a2 (U.length+1) c2)++iv2=Ps at*
    have Qv:y2.g=x.g:=by rw[RH];exact R0
    have RL:y2.va= .slice (some ⟨ga,0,none⟩) m ca:=by rw[RH];exact RW
    refine⟨.slice (some ⟨ga,0,none⟩) m ca,λO J r=>by have h:=hP.Nx G (k:=2) (show y.hd[2]? =some (.slice (some ⟨ga,0,none⟩) m ca)from congrArg some RW) r;rw[Qv]at h;exact h,rfl,_,rfl,be,?_⟩;intro I8 w3 r3;have hs:=hP.M5 r3 G (i:=i) (v:=.slice a2 (U.length+1) c2) (eQ hv0) RL (ad:=Addr.add ⟨ga,0,none⟩ (((i:Nat):Int).toNat*1)) (by rw[aI,dD,aV]);refine⟨hs.spot,hs.cells,hs.own,λw4 QD=>?_⟩;obtain⟨SC,QW,-⟩:=hs.next w4 QD
    have hT:=(SC.toO (by rw[RH];rfl) (by rw[RH])).cast (Tb.K5 be);replace hR:=hR.pD r3 hU QW (λg V=>.inl V) λp hp=>hp;replace K:=Kept.gY (Kept.cg r3.cg K lr) QW λg V N=>(Pw g N).elim id λh=>by omega
    clear hs SC QW QD r3 hP;exact R8 _ _ _ _ _ ⟨_,_,_,_,_,_,_,_,_,_,_,_,_,_,_,_,_,y2,rfl,rfl,rfl,K,hT,hR,Pw,Qv,RL⟩
   clear hT K hR Pw R0 RW;rintro l H nx iv2 F ⟨b101,b100,b99,b98,b97,b96,b94,b89,b95,b93,b92,b91,b90,b88,b87,b86,bx3,y2,rfl,rfl,rfl,K,hT,hR,Pw,R0,RW⟩;refine inc i ?_;intro I8 w3 r3;exact⟨(i+1,y2,w3,_),⟨Pk,Kept.cg r3.cg K lr,hT.rel r3 G,hR.pD r3 hU Kept.refl (λg V=>.inl V) (λp hp=>hp),Pw,R0,RW⟩,sbgn [] r3,dec Pk⟩
  have Pk:=dE R Pk;rw[Pk]at hT;rw[<-R0];exact R8 _ _ _ _ _ ⟨_,_,_,y,rfl,rfl,rfl,K,hT,hR,Pw,R0,RW⟩
 rintro l H nx iv w1 ⟨b84,b82,b83,y,rfl,rfl,rfl,K,hT,hR,Pw,R0,RW⟩;replace hT:=hT.cast (show t1.wQ m=Tb.H3 Fn b c by rw[<-UK,Tb.Ma,Zb,Yk,ht0,Po,VK];rfl);have hRa:=Rp.H3 (c:=c) hA N;rw[<-VK,<-Po]at hRa;have hza:=hW.szA;rw[<-VK,<-Po]at hza;have hWa:=hRa.wf;have hka:=ss m n (dR Fn) λi=>b.getD i 0;have hHa:=hRa.HA (hza.all hka (FS:=FS) (by show ln (fB Bz (m+1))<=FS;rw[VK];exact hK));have hnq:n<(dz m n (dR Fn) λi=>b.getD i 0).q:=cF n;have hpv:(dz m n (dR Fn) λi=>b.getD i 0).a lo n≠0:=by
  show(if n<n then dR Fn lo n else -1)≠0;rw[aJ (Nat.lt_irrefl n)];decide
 have hpt:dR (Tb.H3 Fn b c).a lo n≠0:=by rw[show dR (Tb.H3 Fn b c).a lo n=_ from hRa.ea lo n Qi hnq];exact hpv
 have hS1:=(fe.start (m:=m) (n:=n) (Fn:=dR Fn) (b:=λi=>b.getD i 0)).gP (r:=lo) (s:=n) Qi hnq hpv;have hf1:=AI (Fn:=dR Fn) (n:=n) (b:=λi=>b.getD i 0) Qi XN (Rat.le_of_lt SN);have VM:=hRa.gP (r:=lo) (s:=n) Qi hnq;have hz1:=hza.gP hka (r:=lo) (s:=n) Qi hnq hpv;clear UK haw Zb Yk Qj;refine lE (λl0 l H nx iv w1=>∃(b106 b105 b104 b103:SV),l=(106,b106)::(105,b105)::(104,b104)::(103,b103)::l0/\H=[]/\nx=2/\Kept w w1 (Bv x.cz)/\dI w1 S w.heap.size iv y ((Tb.H3 Fn b c).gP lo n)/\dx w1 (Lv F8 w.heap.size iv y) (Lv F8 w.heap.size iv y) x.vc c) ?_ ?_
 .intro K0 R8;refine⟨λO J r=>?_⟩;refine(ER (u:=lo) (s:=n) (Lv.old r G) (hT.rel r G).iw hWa Qi (cF n) hpt (by show m<=1000;omega) (by show n+1<=1000;omega) hHa be be).mono λe w8 L=>?_;obtain⟨rfl,Qu,Ql⟩:=L;refine⟨.tuple #[],_,(J.heap.size,w8.heap.size)::iv,rfl,r.fz (hT.not r) Qu,?_⟩;replace hR:=hR.pD (iv2:=(J.heap.size,w8.heap.size)::iv) r hU Qu (λg V=>.inl V) λp hp=>aD _ hp;replace Ql:=hT.ef r Ql;replace K:=Kept.gY (Kept.cg r.cg K lr) Qu λg V N=>(Pw g N).elim id λh=>by omega
  clear hT Qu;have hT:=Ql;clear Ql r;generalize (J.heap.size,w8.heap.size)::iv=QA at*
  exact R8 _ _ _ _ _ ⟨_,_,_,_,rfl,rfl,rfl,K,hT,hR⟩
 clear hT K hR;rintro l H nx iv w1 ⟨b106,b105,b104,b103,rfl,rfl,rfl,K,hT,hR⟩;refine lE (λl0 l H nx iv w1=>∃(b108 b107:SV) (t2:Tb) (D:Dc) (k:Nat) (j:Option Nat),l=(108,b108)::(107,b107)::l0/\H=[]/\nx=2/\Kept w w1 (Bv x.cz)/\dI w1 S w.heap.size iv y t2/\dx w1 (Lv F8 w.heap.size iv y) (Lv F8 w.heap.size iv y) x.vc c/\Hb ((dz m n (dR Fn) λi=>b.getD i 0).gP lo n) Bz (λi t=>dA m d i*(dz m n (dR Fn) λi=>b.getD i 0).ext i t) k D t2/\KJ t2 j) ?_ ?_
 .intro K0 R8;refine⟨λO J r=>?_⟩;refine(JM (Lv.old r G) (hT.rel r G).iw hS1.ok hf1 VM hz1 (by show m<=1000;omega) (by show n+1<=1000;omega) (by show ln (fB Bz (m+1))<=FS;rw[VK];exact hK) Y be).mono λe w8 L=>?_;obtain⟨t2,D,k,j,rfl,Qu,Ql,hC,hD⟩:=L;refine⟨iV (qo j),_,(J.heap.size,w8.heap.size)::iv,rfl,r.fz (hT.not r) Qu,?_⟩;replace hR:=hR.pD (iv2:=(J.heap.size,w8.heap.size)::iv) r hU Qu (λg V=>.inl V) λp hp=>aD _ hp;replace Ql:=hT.ef r Ql;replace K:=Kept.gY (Kept.cg r.cg K lr) Qu λg V N=>(Pw g N).elim id λh=>by omega
  clear hT Qu;have hT:=Ql;clear Ql r;generalize (J.heap.size,w8.heap.size)::iv=QA at*
  exact R8 _ _ _ _ _ ⟨_,_,t2,D,k,j,rfl,rfl,rfl,K,hT,hR,hC,hD⟩
 clear hT K hR;rintro l H nx iv w1 ⟨b108,b107,t2,D,k,j,rfl,rfl,rfl,K,hT,hR,hC,hD⟩;have hCf:=hC.facts;obtain⟨f1,f2,f3,f4,f5,-⟩:=hCf;have hSD:fe D m n (dR Fn) λi=>b.getD i 0:=⟨f1,f3.trans hS1.em,f4.trans hS1.eq,λx z=>(f5 x z).trans (hS1.Fi x z)⟩
 have TJ:∀j,j<D.q->¬0<D.c j:=by
  have h3:=KJ.end_ hC.rp hD
  cases j with
  |none=>exact h3
  |some s=>exact(hSD.bounded f2 h3.1 h3.2.1 h3.2.2).elim
 have hW2:t2.Wf m (n+1):=by
  have:=hC.rp.wf;rw[hSD.em,hSD.eq]at this;exact this
 have WE:=hC.rp.HA (hC.sz.all f1 (FS:=FS) (by rw[hSD.em,VK];exact hK));have Vi:=hC.sz;have Sr:=hC.rp;have WC:=Sr.et;clear hD f3 f4 f5 hC;obtain⟨t1,t2',t3,t4,t5,t6,t7,t8,ZA,hY⟩:=hT.ldT G;refine⟨rC t1 t2' t3 t4 t5 t6 t7 t8,rfl,λO J r k u hu=>ZA r k u hu,?_⟩;refine cS (cR (GT:=λ_ J v F=>v=iV (rs t2.top)) (λO J r=>ij (Lv.old r G) (hY.gh r G)) ?_);rintro O wa v1 wb r L Pu rfl;replace hR:=hR.pD (iv2:=(wa.heap.size,wb.heap.size)::iv) r hU (GS L) (λg V=>.inl V) λp hp=>aD _ hp;replace hT:=hT.cV (A:=(wa.heap.size,wb.heap.size)::iv) r G L λp hp=>aD _ hp;replace K:=Kept.cg Pu K lr;clear r L Pu ZA hY;generalize (wa.heap.size,wb.heap.size)::iv=QE at*
 apply bS<;>intro Ya
 .have ht0':D.top<0:=by rw[<-WC];exact kr.1 (aK Ya)
  refine cS (cR (GT:=λ_ J v F=>dx F (Nw (Lv S w.heap.size QE y) J F) (Nw (Lv S w.heap.size QE y) J F) v (t2.jP n m)) (λO J r=>GJ (Lv.old r G) (hT.rel r G).iw hW2 be be be) ?_);rintro O wa v1 wb r L Pu Si;have QL:(t2.jP n m).length=m:=(ie _ _ _ _ _ _).trans aq;have Xr:∀g,Nw (Lv S w.heap.size QE y) wa wb g->Cv S w.heap.size ((wa.heap.size,wb.heap.size)::QE) g:=λg V=>V.elim (λh=>h.1.mono λp hp=>aD _ hp) λh=>.inr ⟨by have:=r.cY;omega,_,_,aF,h.1,h.2⟩;replace Si:=Si.cU Xr Xr;replace hT:=hT.cV (A:=(wa.heap.size,wb.heap.size)::QE) r G L λp hp=>aD _ hp;replace K:=Kept.cg Pu K lr;clear r L Pu Xr;generalize (wa.heap.size,wb.heap.size)::QE=Q8 at*
  obtain⟨ap,cp,rfl,-⟩:=Si.shape;obtain⟨ad,fcs,rfl,-,-⟩:=Si.load (j:=0) (aE (by rw[QL];exact UC));intro GE we re;obtain⟨n1,n2,n3⟩:=hSD.none TJ;have hpr:∀i,i<m->(t2.jP n m).getD i 0= -(D.lu (n+i)):=λi R=>Sr.Cs f1 R;refine⟨_,y,t2,rfl,R0,Kept.cg re.cg K lr,(hT.more Xp).OD re hU,Pw,.inr ⟨ad,cp,t2.jP n m,?_,?_,?_,WE.jP be,?_⟩⟩
  .rw[QL,VK];rfl
  .exact(Si.cW λg V=>rls re G (V.elim id id)).cU (λg V=>Cv.nw V re) λg V=>Cv.nw V re
  .rw[QL,VK]
  .refine⟨λi R=>by dsimp only;rw[hpr i R];exact n1 i,?_,λj hj=>?_⟩
   .rw[cX (g:=λi=> -(D.lu (n+i))*b.getD i 0) λi R=>by dsimp only;rw[hpr i R],n2];exact ht0'
   .rw[cX (g:=λi=> -(D.lu (n+i))*dR Fn i j) λi R=>by dsimp only;rw[hpr i R]];exact n3 j hj
 have ht0':¬D.top<0:=λh=>by rw[<-WC]at h;exact aL Ya (kr.2 h)
 obtain⟨t3',D1,kk,ph1,ph2,ph3,ph4,ph5,ph6,ph7,ph8⟩:=K3 hSD f2 Sr ht0' Vi;have hW3:t3'.Wf m (n+1):=by
  have:=ph2.wf;rw[ph3.em,ph3.eq]at this;exact this
 have hH3:=(ph2.HA (ph5.all ph3.ok (FS:=FS) (by rw[ph3.em,VK];exact hK))).del kk;have hW4:=hW3.del ph7;have Qa:∀q∈c,rl q+1<=FS+1:=λq hq=>by
  obtain⟨i,R,rfl⟩:=rT (d:=0) hq;have:rl (c.getD i 0)<=FS:=(hz0.all Sp hK).2.2.1 i R;omega
 refine⟨((n+m:Nat):Int),wo,?_⟩;refine⟨λO J r=>?_⟩;refine(K1 (vv:=n+m) (h:=FS+1) (k:=kk) (t1:=t3') (Lv.old r G) (hT.rel r G).iw hW2 UC (Nat.succ_pos n) be be WE be be ph1 hW3 ph6 ph7).mono λe w8 L=>?_;obtain⟨rfl,y2,VL,Qu,Ql,TM⟩:=L;refine⟨.tuple #[],_,(J.heap.size,w8.heap.size)::QE,rfl,r.fz (hT.not r) Qu,?_⟩;replace hR:=hR.pD (y2:=y2) (iv2:=(J.heap.size,w8.heap.size)::QE) r hU Qu TM λp hp=>aD _ hp;replace Ql:=hT.aAv r Ql TM;replace K:=Kept.gY (Kept.cg r.cg K lr) Qu λg V N=>(Pw g N).elim id λh=>by omega
 have UX:∀g,Bv y2.cz g->Bv x.cz g\/w.heap.size<=g:=λg V=>(TM g V).elim (Pw g) λh=>.inr (aR r.cY h);have hyg8:=VL;replace VL:=VL.trans R0;clear hT Qu TM r;have hT:=Ql;clear Ql;generalize (J.heap.size,w8.heap.size)::QE=Q8 at*
 rw[<-hyg8];rw[YY]at hR;replace hT:=hT.more Xp;refine⟨λO J r=>?_⟩;refine(KW (n:=n) (h:=FS+1) (Lv.old r hU) (hT.rel r hU).iw hW4 (hR.pD r hU Kept.refl (λg V=>.inl V) λp hp=>hp) Po.symm be be be hH3 Qa be be).mono λe w8 L=>?_;obtain⟨rfl,y3,hyg3,Qu,Ql,TM⟩:=L;refine⟨.tuple #[],_,(J.heap.size,w8.heap.size)::Q8,rfl,r.fz (hT.not r) Qu,?_⟩;replace Ql:=hT.aAv r Ql TM;replace K:=Kept.gY (Kept.cg r.cg K lr) Qu λg V N=>(UX g N).elim id λh=>by omega
 have hwas3:∀g,Bv y3.cz g->Bv x.cz g\/w.heap.size<=g:=λg V=>(TM g V).elim (UX g) λh=>.inr (aR r.cY h);replace hyg3:=hyg3.trans VL;clear hT Qu TM r;have hT:=Ql;clear Ql;generalize (J.heap.size,w8.heap.size)::Q8=RJ at*
 intro GE we re;have Yb:kk<D1.q:=by rw[ph3.eq];exact ph7
 have hcut:=ph3.cut (c:=λj=>c.getD j 0) Yb ph8;have Rt:=hW.aA8 (D:=D1) (by rw[<-VK,<-Po];exact ph3) (by rw[<-VK,<-Po];exact ph5) Yb (by rw[<-VK,<-Po];exact ph8);refine⟨_,y3,_,rfl,hyg3,Kept.cg re.cg K lr,hT.OD re hU,hwas3,.inl ⟨rfl,(D1.cut kk n λj=>c.getD j 0),ph2.cut Yb,?_,λi R=>ph4 i R,λi t=>d i*(gk Fn.length c.length (dR Fn) (λi=>b.getD i 0) λj=>c.getD j 0).ext i t,?_⟩⟩
 .exact hcut
 .rw[<-Po]at Rt ⊢;exact Rt
end Go.Ex
namespace Go.Ex
inductive Cert (m n:Nat) (Fn:Nat->Nat->Rat) (b c:Nat->Rat):Nat->Rat->Prop
 |By (x y:Nat->Rat) (v:Rat) (Z:oH m n Fn b x) (hy:∀i,i<m->0<=y i) (hc:∀j,j<n->c j<=cj (λi=>y i*Fn i j) m) (e1:cj (λj=>c j*x j) n=v) (e2:cj (λi=>y i*b i) m=v):Cert m n Fn b c 0 v
 |none (y:Nat->Rat) (h:vY m n Fn b y):Cert m n Fn b c 1 0
 |Ll (x z:Nat->Rat) (Z:oH m n Fn b x) (hz:KE m n Fn c z):Cert m n Fn b c 2 0
section
variable{m n k l:Nat}{Fn:Nat->Nat->Rat}{b c:Nat->Rat}{v w:Rat}
end
end Go.Ex
namespace Go.Ex
open Go Go.Sx Go.Proofs
variable{after:Array Edge}{ops:Array Oper}{iv:Iv}{Fn:List (List Rat)}{U:List (List Value)}{b qs:List Rat}{cs rv:List Value}{B i j k:Nat}{S:Nat->Prop}{guard:Option (Nat×Bool)}{a a1 a2:Option Addr}{dst:Option Tmp}{FS:SV->Hp->Nat->Iv->World->Prop}{w:World}
section
variable{Fn:List (List Rat)}{b c X C9 F9:List Rat}{n k:Nat}{q:Rat}
def pF(n v:Nat):(fG n).getD v 0=0:=jC n v
def Md:(nI Fn j).getD i 0=dR Fn i j:=by
 unfold nI dR;rw[List.getD,List.getD,List.getD,aS]
 cases Fn[i]? <;>rfl
def tD:uj X (fG k)↔∀i,i<X.length->0<=X.getD i 0:=by
 unfold uj;constructor<;>intro h i R<;>have:=h i R
 .rw[pF]at this;exact this
 .rw[pF];exact this
def jj(hA:iP n Fn):xY Fn n X b↔X.length=n/\oH Fn.length n (dR Fn) (λi=>b.getD i 0) λj=>X.getD j 0:=by
 have key:∀(i:Nat) r,Fn[i]? =some r->eG r X r.length=cj (λj=>dR Fn i j*X.getD j 0) n:=λi r hr=>by
  rw[gN,hA r (aG hr)];refine cX λj _=>?_;unfold dR;rw[List.getD,List.getD,List.getD,List.getD,hr];rfl
 constructor
 .rintro⟨Y,I,h3⟩;refine⟨Y,λj hj=>tD.1 I j be,λi R=>?_⟩;have h4:=aE R;have:=h3 i _ h4;rw[key i _ h4]at this;exact this
 .rintro⟨Y,I,h3⟩;refine⟨Y,tD.2 λj hj=>I j be,λi r hr=>?_⟩;rw[key i r hr];exact h3 i (aH.1 hr).1
def BR:Hm Fn C9 c↔C9.length=Fn.length/\(∀i,i<Fn.length->0<=C9.getD i 0)/\∀j,j<c.length->c.getD j 0<=cj (λi=>C9.getD i 0*dR Fn i j) Fn.length:=by
 have hl:(eO C9 Fn c.length Fn.length).length=c.length:=by unfold eO;simp
 have key:∀j,j<c.length->(eO C9 Fn c.length Fn.length).getD j 0=cj (λi=>C9.getD i 0*dR Fn i j) Fn.length:=λj hj=>by
  unfold eO;rw[List.getD,aS,cN hj];show eG C9 (nI Fn j) Fn.length=_;rw[gN];exact cX λi _=>by rw[Md]
 unfold Hm;constructor
 .rintro⟨Y,I,h3⟩;refine⟨Y,λi R=>tD.1 I i be,λj hj=>?_⟩;have:=h3 j be;rw[key j hj]at this;exact this
 .rintro⟨Y,I,h3⟩;refine⟨Y,tD.2 λi R=>I i be,λj hj=>?_⟩;rw[hl]at hj;rw[key j hj];exact h3 j hj
def BS:Hm Fn C9 (fG n)↔C9.length=Fn.length/\(∀i,i<Fn.length->0<=C9.getD i 0)/\∀j,j<n->0<=cj (λi=>C9.getD i 0*dR Fn i j) Fn.length:=by
 rw[BR,show(fG n).length=n from aq];refine and_congr_right λ_=>and_congr_right λ_=>?_;constructor<;>intro h j hj<;>have:=h j hj
 .rw[pF]at this;exact this
 .rw[pF];exact this
def sY.cert{z:Int}(hA:iP c.length Fn)(N:b.length=Fn.length)(h:sY Fn b c z X C9 F9 q):∃k:Nat,z=(k:Int)/\k<=2/\Cert Fn.length c.length (dR Fn) (λi=>b.getD i 0) (λj=>c.getD j 0) k q:=by
 rcases h with⟨rfl,-,Y,I,h3,h4⟩|⟨rfl,-,-,rfl,I,h4⟩|⟨rfl,-,rfl,Y,I,h3⟩
 .obtain⟨k1,k2⟩:=(jj hA).1 Y;obtain⟨k3,k4,k5⟩:=BR.1 I;rw[gN]at h3 h4;rw[k3]at h4;exact⟨0,rfl,be,.By _ _ q k2 k4 k5 h3 h4⟩
 .obtain⟨k3,k4,k5⟩:=BS.1 I;rw[gN,k3]at h4;exact⟨1,rfl,be,.none _ ⟨k4,h4,k5⟩⟩
 .obtain⟨k1,k2⟩:=(jj hA).1 Y;obtain⟨k3,k4⟩:=(jj hA).1 I;rw[gN]at h3;refine⟨2,rfl,be,.Ll _ _ k2 ⟨⟨k4.1,λi R=>?_⟩,h3⟩⟩;have:=k4.2 i R;rw[show (λi=>(fG b.length).getD i 0) i=0 from pF _ _]at this;exact this
def Hn(hA:iP c.length Fn)(hX:X.length=c.length)(hY:C9.length=Fn.length)(hp:oH Fn.length c.length (dR Fn) (λi=>b.getD i 0) λj=>X.getD j 0)(hy:∀i,i<Fn.length->0<=C9.getD i 0)(hc:∀j,j<c.length->c.getD j 0<=cj (λi=>C9.getD i 0*dR Fn i j) Fn.length)
  (e1:cj (λj=>c.getD j 0*X.getD j 0) c.length=q) (e2:cj (λi=>C9.getD i 0*b.getD i 0) Fn.length=q):sY Fn b c 0 X C9 [] q:=
 .inl ⟨rfl,rfl,(jj hA).2 ⟨hX,hp⟩,BR.2 ⟨hY,hy,hc⟩,by rw[gN];exact e1,by rw[gN,hY];exact e2⟩
def Ho(hY:C9.length=Fn.length)(h:vY Fn.length c.length (dR Fn) (λi=>b.getD i 0) λi=>C9.getD i 0):sY Fn b c 1 [] C9 [] 0:=
 .inr (.inl ⟨rfl,rfl,rfl,rfl,BS.2 ⟨hY,h.1,h.2.2⟩,by rw[gN,hY];exact h.2.1⟩)
def K8(hA:iP c.length Fn)(hX:X.length=c.length)(hR:F9.length=c.length)(hp:oH Fn.length c.length (dR Fn) (λi=>b.getD i 0) λj=>X.getD j 0)(hr:KE Fn.length c.length (dR Fn) (λj=>c.getD j 0) λj=>F9.getD j 0):sY Fn b c 2 X [] F9 0:=
 .inr (.inr ⟨rfl,rfl,rfl,(jj hA).2 ⟨hX,hp⟩,(jj hA).2 ⟨hR,hr.1.1,λi R=>by
  have:=hr.1.2 i R;rw[show (λi=>(fG b.length).getD i 0) i=0 from pF _ _]
  exact this⟩,by rw[gN];exact hr.2⟩)
end
section
variable{S:Nat->Prop}{H:Hp}{nx:Nat}{iv:Iv}{B:Nat}{w J F:World}{O:Nat->Sx.eD}{x y:Tx}{t t':Tb}
def dI.aAC(h:dI F FF J.heap.size [(J.heap.size,F.heap.size)] x t)(Z:∀g,Bv x.cz g->J.heap.size<=g)(hB:B<=J.heap.size)(hm:(J.heap.size,F.heap.size)∈iv):dI F FF B iv x t:=
 ⟨h.iw.cU (λg V=>⟨by have:=e8 V.1;exact .inr ⟨be,_,_,hm,this.1,this.2⟩,V.2⟩) λg N V=>V.2 N,λg V=>.inr ⟨by have:=Z g V;omega,_,_,hm,Z g V,h.iw.low V⟩⟩
def dI.aBZ(h:dI w FF B iv x t)(r:Rel H nx iv B w O J)(Z:∀g,Bv x.cz g->B<=g)(I:fL F (λg=>Nw (λg=>Lv FF B iv x g\/Bv x.cz g) J F g/\¬Bv y.cz g) y t')(DL:∀g,Bv y.cz g->Bv x.cz g\/J.heap.size<=g):
  dI F FF B ((J.heap.size,F.heap.size)::iv) y t':=by
 have hm:∀p,p∈iv->p∈(J.heap.size,F.heap.size)::iv:=λp hp=>aD _ hp;have N:∀g,Bv x.cz g->Cv FF B iv g:=λg V=>(h.lH g V).elim (λh=>by have:=Z g V;omega) .inr;refine⟨I.cU (λg V=>⟨?_,V.2⟩) λg N V=>V.2 N,λg V=>?_⟩
 .rcases V.1 with Y|Y
  .exact Y.elim (λY=>Y.1.mono hm) λY=>(N g Y).mono hm
  .exact .inr ⟨by have:=r.cY;omega,_,_,aF,Y.1,Y.2⟩
 .rcases DL g V with Y|Y
  .exact(h.lH g Y).mono hm
  .exact .inr ⟨by have:=r.cY;omega,_,_,aF,Y,I.low V⟩
def dx.Me{v:Value}(h:dx F (Nw (Lv FF B iv x) J F) (Nw (Lv FF B iv x) J F) v qs)(hB:B<=J.heap.size):dx F (Cv FF B ((J.heap.size,F.heap.size)::iv)) (Cv FF B ((J.heap.size,F.heap.size)::iv)) v qs:=by
 have Xr:∀g,Nw (Lv FF B iv x) J F g->Cv FF B ((J.heap.size,F.heap.size)::iv) g:=λg V=>V.elim (λh=>h.1.mono λp hp=>aD _ hp) λh=>.inr ⟨be,_,_,aF,h.1,h.2⟩;exact h.cU Xr Xr
end
def ek.kp{F:World}{FS:List (List Rat)}(h:ek w S rv FS)(K:∀g,S g->F.heap[g]? =w.heap[g]?):ek F S rv FS:=⟨h.1,h.2.1,λi u x Y I=>dB.cW (h.2.2 i u x Y I) K⟩
def ek.nil:ek w S [] []:=⟨rfl,λ_ h=>(by cases h),λ_ _ _ h=>by cases h⟩
def fw.addr{n c:Nat}(h:fw w S B iv (.slice a n c) n qs)(E:0<n):∃g,a=some ⟨g,0,none⟩:=by
 obtain⟨U,Y,-,-⟩:=h.row;rcases Y.2 with⟨-,e⟩|⟨g,cap,cur,e,-⟩
 .omega
 .injection e with e1;exact⟨g,e1⟩
def iM{α:Type}{l:List α}{x:α}(h:l[i]? =some x):l.take i++[x]=l.take (i+1):=by rw[bH,h];rfl
def GY{x:List Rat}(hA:iP 0 Fn):Gz Fn b 0 x↔x=[]/\xY Fn 0 [] b:=by
 have h0:iP 0 ([]:List (List Rat)):=λr hr=>by cases hr
 constructor
 .rintro⟨⟨l,Y,I,h3⟩,h4⟩;rw[Br,aY]at Y;subst Y;have Z:x=[]:=List.length_eq_zero_iff.1 (uL h0 h3).1;subst Z;exact⟨rfl,(jj hA).2 ⟨rfl,h4⟩⟩
 .rintro⟨rfl,h⟩;refine⟨⟨[],by rw[Br];exact aY.2 rfl,rfl,?_⟩,((jj hA).1 h).2⟩;obtain⟨z,hz⟩:=Cm (M:=[]) (b:=rP (rO b 0) []) (n:=0) (x:=λ_=>0) h0 λj hj=>by cases hj
  have:=List.length_eq_zero_iff.1 (uL h0 hz).1;subst this;exact hz
def xZ(h:∀cs∈U,cs.length=4)(hj:U[j]? =some cs):(U.flatten.drop (j*4)).take 4=cs:=by
 have hc:=h cs (aG hj);refine av λk=>?_;rcases aW k 4 with K|K
 .rw[List.getElem?_take_of_lt K,cD,aE (l:=cs) be];exact flat_get h hj k _ (aE ..)
 .rw[List.getElem?_eq_none (by rw[bI];omega),List.getElem?_eq_none be]
section
variable{S:Nat->Prop}{H:Hp}{nx:Nat}{iv:Iv}{B:Nat}{w J:World}{O:Nat->Sx.eD}{rv:List Value}{M:List (List Rat)}{U:List (List Value)}{qs:List Rat}
def ek.asM(h:ek w (Cv S B iv) rv M)(r:Rel H nx iv B w O J)(G:∀g,S g->g<B){id:Nat}(hH:dT H id=some (.vec T.nQ 1 rv))(hl:rv.length<=maxLen):dZ J (λg=>g<J.heap.size) ((At.w id rv.length).den O) M:=
 ⟨rv,h.1▸r.DR (sz:=1) hH (ah _).symm hl bv h.2.1 λE=>(r.low id _ hH E).2,h.1,λi u x k1 k2=>dB.cU (dB.rel (h.2.2 i u x k1 k2) r G) λg V=>rlo r G g V⟩
def kM.asL(h:kM w (Cv S B iv) U qs)(r:Rel H nx iv B w O J)(G:∀g,S g->g<B){id:Nat}(hH:dT H id=some (.vec T.Rat 4 U.flatten))(hl:U.length<=maxLen):dB J (λg=>g<J.heap.size) ((At.w id U.length).den O) qs:=
 ((h.rel r G).cU λg V=>rlo r G g V).list (r.DR (sz:=4) hH (fJ h.four) hl bv h.one λE=>(r.low id _ hH E).2)
end
def Hr{α β:Type}{Do:List α}{FS:List β}{l:α}{P:α->β->Prop}(h:∀x,x∈FS↔∃l∈Do.take i,P l x)(hl:Do[i]? =some l)(E:∀x,¬P l x):∀x,x∈FS↔∃l∈Do.take (i+1),P l x:=λx=>by
 rw[h,<-iM hl];constructor
 .rintro⟨t,Y,I⟩;exact⟨t,List.mem_append_left _ Y,I⟩
 .rintro⟨t,Y,I⟩;rcases az.1 Y with Y|Y
  .exact⟨t,Y,I⟩
  .rw[aY.1 Y]at I;exact absurd I (E x)
def OH{α β:Type}{Do:List α}{FS:List β}{l:α}{y:β}{P:α->β->Prop}(h:∀x,x∈FS↔∃l∈Do.take i,P l x)(hl:Do[i]? =some l)(hy:P l y)(E:∀x,P l x->x=y):∀x,x∈FS++[y]↔∃l∈Do.take (i+1),P l x:=λx=>by
 rw[az,h,<-iM hl,aY];constructor
 .rintro(⟨t,Y,I⟩|rfl)
  .exact⟨t,List.mem_append_left _ Y,I⟩
  .exact⟨l,List.mem_append_right _ (aY.2 rfl),hy⟩
 .rintro⟨t,Y,I⟩;rcases az.1 Y with Y|Y
  .exact .inl ⟨t,Y,I⟩
  .rw[aY.1 Y]at I;exact .inr (E x I)
def BW(Fn:List (List Rat))(n k:Nat):List (List Rat):=Fn++(List.range k).map λj=>(dm n).set j 1
def ug(b:List Rat)(k:Nat):List Rat:=b++dm k
def Hs{n:Nat}:BW Fn n k++[(dm n).set k 1]=BW Fn n (k+1):=by
 unfold BW;rw[bu,bp,bg];rfl
def GZ:ug b k++[0]=ug b (k+1):=by
 unfold ug dm;rw[bg,<-List.replicate_succ']
def BX{vm vb:Value}{n1 c1 n c2:Nat}(G:Old S w)(hm:dZ w S vm Fn)(N:dB w S vb b)(hA:iP n Fn)(Pu:b.length=Fn.length)(hA6:Fn.length<=6)(E:n<=3)(rA:∀r∈Fn,∀q∈r,rl q<=3)(rb:∀q∈b,rl q<=3):
  eH PG Fd.ta #[.agg #[vm,.slice a1 n1 c1,.slice a2 n c2],vb] w (eV w λv F=>∃FS:List (List Rat),dX F (Nf w F) v FS/\(∀x,x∈FS↔Gz Fn b n x)/\∀x∈FS,x.length=n/\∀q∈x,rl q+1<=256):=by
 have hF:=iS w.heap.size;have W:=bR w;obtain⟨am,cm,rfl,Rw,Sv⟩:=dG.shape hm;obtain⟨ab,cb,rfl,Qz,TS⟩:=dK.shape N;refine xI ce ?_;refine⟨Nat×List Value×List (List Value)×World×Iv,λz=>⟨[(1,sV ab b.length cb),(2,pP 0 0),(5,.o (.v (iV (n:Int)))),(6,.o (.w 1 (z.2.1).length)),(7,.o (.w 2 (z.2.2.1).length)),(8,iN z.1)],[(1,.vec T.nQ 1 (z.2.1)),(2,.vec T.Rat 4 (z.2.2.1).flatten),(0,.box T.Program [.v (.slice am Fn.length cm),.v (.slice a1 n1 c1),.v (.slice a2 n c2)])],3,z.2.2.2.2,z.2.2.2.1⟩,λz=>Fn.length-z.1,λz=>z.1<=Fn.length/\Bq w z.2.2.2.1/\ek z.2.2.2.1 (Cv S w.heap.size z.2.2.2.2) z.2.1 (Fn.take z.1)/\kM z.2.2.2.1 (Cv S w.heap.size z.2.2.2.2) z.2.2.1 (b.take z.1),?_,?_⟩
 .intro O J r;exact⟨(0,[],[],J,[]),⟨aZ _,W.tr r.cg,ek.nil,kM.nil⟩,Sub.nil 6 T.nQ 1 rfl (by simp[kN,SV.sc,At.sc,ff]) r λI9 r1=>Sub.nil 7 T.Rat 4 rfl (by simp[kN,SV.sc,At.sc,ff]) r1 λG9 r2=>sbgn [] r2⟩
 clear W;rintro⟨i,rv,rc,w1,iv⟩ ⟨R,W,hR,hG⟩;dsimp only at R W hR hG ⊢;have QI:rv.length=i:=by rw[hR.1,bI];omega
 have hgl:rc.length=i:=by rw[hG.len,bI];omega
 have hgf:=fJ hG.four;apply bS<;>intro Pk
 .have Pk:=dL Pk;obtain⟨x,Z⟩:=gO Fn i;obtain⟨q,hq⟩:=gO b i;have SK:x.length=n:=hA x (aG Z);obtain⟨adm,um,Tw,SW,km1,km2⟩:=dG.load hm Z;obtain⟨ax,cx,rfl,Wi,-⟩:=dK.shape SW;obtain⟨adb,csb,TR,hFb,-,Va⟩:=dK.load N hq;obtain⟨f0,f1,f2,f3,f4,f5,f6,f7,rfl,hFb⟩:=hFb;have Ty:=hR.push (u:=.slice ax x.length cx) rfl (dB.cU (dB.cW SW λg V=>W.block g (G g V)) λg V=>(.inl V:Cv S w.heap.size iv g));have Wl:=hG.push (cs:=rC f0 f1 f2 f3 f4 f5 f6 f7) ⟨_,_,_,_,_,_,_,_,rfl,fx.cU (fx.cW hFb λg V=>W.block g (G g V)) λg V=>(.inl V:Cv S w.heap.size iv g)⟩ rfl;rw[iM Z]at Ty;rw[iM hq]at Wl;have Qm:rc.flatten++(rC f0 f1 f2 f3 f4 f5 f6 f7:List Value)=(rc++([rC f0 f1 f2 f3 f4 f5 f6 f7]:List (List Value))).flatten:=by simp
  refine fA hτ uR (.x 0 (.x 1 (.x 3 (.x 8 (.x 9 (.x 10 (.x 11 (.ld 2 114928 (.x 4 (.ld 5 114880 (.ld 12 122880 (.two 6 (.two 7 (.x 13 (.x 14 (.x 15 (.x 16 .nil)))) 13 (.x 7 (.x 14 (.x 15 (.x 16 .nil))))) 13 (.x 6 (.x 7 (.x 14 (.x 15 (.x 16 .nil))))))))))))))))) d9 d9 ?_;refine⟨adb,TR,be,adm,Tw,be,.slice ax x.length cx,rd1 km2 W (G _ km1),rC f0 f1 f2 f3 f4 f5 f6 f7,rfl,rdO Va W G,?_,?_⟩
  .conv=>whnf
   refine⟨rC f0 f1 f2 f3 f4 f5 f6 f7,rfl,rdO Va W G,rfl,?_,?_⟩
   .conv=>whnf
    refine .inl ?_;refine⟨be,be,mx,rC f0 f1 f2 f3 f4 f5 f6 f7,rfl,rdO Va W G,rfl,?_⟩;refine .inl ?_;refine⟨be,be,mx,((i+1:Nat):Int),wo,?_⟩;intro I8 w3 r3;exact⟨(i+1,rv++[.slice ax x.length cx],rc++[rC f0 f1 f2 f3 f4 f5 f6 f7],w3,_),⟨Pk,W.tr r3.cg,Ty.rel r3 G,Wl.rel r3 G⟩,sbgn [(1,4),(2,6)] r3 ⟨rfl,by dsimp only;rw[<-Qm];rfl,rfl,trivial⟩ ⟨rfl,rfl,rfl,by dsimp only;rw[l1];rfl,by dsimp only;rw[l1];rfl,rfl,trivial⟩,dec Pk⟩
   .conv=>whnf
    refine .inl ?_;refine⟨be,be,mx,?_⟩;refine .inl ?_;refine⟨be,be,mx,((i+1:Nat):Int),wo,?_⟩;intro I8 w3 r3;exact⟨(i+1,rv++[.slice ax x.length cx],rc++[rC f0 f1 f2 f3 f4 f5 f6 f7],w3,_),⟨Pk,W.tr r3.cg,Ty.rel r3 G,Wl.rel r3 G⟩,sbgn [(1,5),(2,6)] r3 ⟨rfl,by dsimp only;rw[<-Qm];rfl,rfl,trivial⟩ ⟨rfl,rfl,rfl,by dsimp only;rw[l1];rfl,by dsimp only;rw[l1];rfl,rfl,trivial⟩,dec Pk⟩
  .conv=>whnf
   refine⟨.slice ax x.length cx,rd1 km2 W (G _ km1),rfl,rfl,?_⟩;refine .inl ?_;refine⟨be,be,mx,?_⟩;refine .inl ?_;refine⟨be,be,mx,((i+1:Nat):Int),wo,?_⟩;intro I8 w3 r3;exact⟨(i+1,rv++[.slice ax x.length cx],rc++[rC f0 f1 f2 f3 f4 f5 f6 f7],w3,_),⟨Pk,W.tr r3.cg,Ty.rel r3 G,Wl.rel r3 G⟩,sbgn [(1,5),(2,6)] r3 ⟨rfl,by dsimp only;rw[<-Qm];rfl,rfl,trivial⟩ ⟨rfl,rfl,rfl,by dsimp only;rw[l1];rfl,by dsimp only;rw[l1];rfl,rfl,trivial⟩,dec Pk⟩
 have Pk:=dE R Pk;rw[Pk,bE]at hR;rw[Pk,<-Pu,bE]at hG;clear QI hgl hgf;refine⟨Nat×List Value×List (List Value)×World×Iv,λz=>⟨[(1,sV ab b.length cb),(2,pP 0 0),(5,.o (.v (iV (n:Int)))),(6,.o (.w 1 (z.2.1).length)),(7,.o (.w 2 (z.2.2.1).length)),(9,iN z.1)],[(1,.vec T.nQ 1 (z.2.1)),(2,.vec T.Rat 4 (z.2.2.1).flatten),(0,.box T.Program [.v (.slice am Fn.length cm),.v (.slice a1 n1 c1),.v (.slice a2 n c2)])],3,z.2.2.2.2,z.2.2.2.1⟩,λz=>n-z.1,λz=>z.1<=n/\Bq w z.2.2.2.1/\ek z.2.2.2.1 (Cv S w.heap.size z.2.2.2.2) z.2.1 (BW Fn n z.1)/\kM z.2.2.2.1 (Cv S w.heap.size z.2.2.2.2) z.2.2.1 (ug b z.1),?_,?_⟩
 .intro O J r;exact⟨(0,rv,rc,J,_),⟨aZ _,W.tr r.cg,by simpa [BW]using hR.rel r G,by simpa [ug,dm]using hG.rel r G⟩,sbgn [] r⟩
 clear W hR hG;rintro⟨k,rv,rc,w1,iv⟩ ⟨K,W,hR,hG⟩;dsimp only at K W hR hG ⊢;have QI:rv.length=Fn.length+k:=by rw[hR.1];simp[BW]
 have hgl:rc.length=b.length+k:=by rw[hG.len];simp[ug,dm]
 have hgf:=fJ hG.four;apply bS<;>intro R1
 .have R1:=dL R1;refine cS (cR (GT:=λ_ J v F=>fw F FF J.heap.size [(J.heap.size,F.heap.size)] v n (List.replicate n ((0:Int):Rat))) (λO J r=>DU n J be) ?_);rintro O wa v1 wb r L Qf hX;have TO:∀gx,v1.ownBlock=some gx->¬Cv S w.heap.size iv gx/\w.heap.size<=gx:=λgx e=>by
   have hB:=r.cY;rcases hX.new gx e with Y|⟨Y,-⟩
   .exact Y.elim
   .exact⟨λhc=>by have:=rlo r G gx hc;omega,be⟩
  replace hX:=hX.ef (S:=FF) (iv:=(wa.heap.size,wb.heap.size)::iv) r.cY aF;have RV:∀g,Cv S w.heap.size iv g->wb.heap[g]? =w1.heap[g]? :=λg V=>by rw[L.block g (rlo r G g V),rls r G V]
  replace hR:=hR.kp RV;replace hG:=hG.cW RV;replace W:=W.tr Qf;have Pn:∀p,p∈iv->p∈(wa.heap.size,wb.heap.size)::iv:=λp hp=>aD _ hp;clear RV r L Qf;generalize (wa.heap.size,wb.heap.size)::iv=iv2 at*
  obtain⟨a3,c3,rfl,Ya⟩:=hX.row.form;obtain⟨gx,rfl⟩:=hX.addr be;refine cS (cR (GT:=λ_ J v F=>dH F (Nf J F) v ((1:Int):Rat)) (λO J r=>fZ 1 J bv) ?_);rintro O wa v2 QP r L Qf hO;have Qb:dH QP (λg=>Cf w ((wa.heap.size,QP.heap.size)::iv2) g/\(Value.slice (some ⟨gx,0,none⟩) n c3).ownBlock≠some g) v2 ((1:Int):Rat):=hO.cU λg V=>by
   rcases V with V|V
   .exact V.elim
   .have hB:=r.cY;refine⟨.inr ⟨be,_,_,aF,V.1,V.2⟩,λe=>?_⟩;have:=rlo r hF g (hX.new g e);omega
  have RV:∀g,Cv S w.heap.size iv g->QP.heap[g]? =wb.heap[g]? :=λg V=>by rw[L.block g (rlo r G g (V.mono Pn)),rls r G (V.mono Pn)]
  replace hX:=hX.cV (A:=(wa.heap.size,QP.heap.size)::iv2) r hF L λx Z=>aD _ Z;replace hR:=hR.kp RV;replace hG:=hG.cW RV;replace W:=W.tr Qf;replace Pn:∀p,p∈iv->p∈(wa.heap.size,QP.heap.size)::iv2:=λp hp=>aD _ (Pn p hp);clear RV r L Qf;generalize (wa.heap.size,QP.heap.size)::iv2=Ps at*
  obtain⟨_,_,_,_,_,_,_,_,rfl⟩:=Qb.shape;refine⟨⟨gx,0,none⟩,rfl,be,?_⟩;intro O J r;obtain⟨_,QT,Y,h2',h3,h4,h5⟩:=(hX.rel r hF).store R1 (dH.cW Qb λg V=>rls r hF V.1) r hF;injection QT with QT;injection QT with QT;subst QT;refine⟨Y,h2',h3,λF RK=>?_⟩;obtain⟨Zv,QR,-⟩:=h5 F RK;have RV:∀g,Cv S w.heap.size iv g->F.heap[g]? =QP.heap[g]? :=λg V=>by
   rw[<-rls r G (V.mono Pn)];exact QR.block g (rlo r G g (V.mono Pn)) λe=>by injection e with e;subst e;exact(TO _ rfl).1 V
  replace hR:=hR.kp RV;replace hG:=hG.cW RV;replace W:=W.tr r.cg;replace W:Bq w F:=W.tr (Bel.grown QR (λg V=>by injection V with V;subst V;exact(TO _ rfl).2) (by have:=W.size;omega));have Pm:dB F (Cv S w.heap.size Ps) (.slice (some ⟨gx,0,none⟩) n c3) ((dm n).set k 1):=cd.l (cd.cU Zv.aAD λg V=>qL V) λq hq=>by
   rcases bL hq with hq|rfl
   .rw[bK hq];decide
   .decide
  replace hR:=(hR.cU λg V=>V.mono Pn).push (u:=.slice (some ⟨gx,0,none⟩) n c3) rfl Pm;rw[Hs]at hR;replace hG:=hG.cU λg V=>V.mono Pn;clear hX Zv Qb hO RV QR h5 h4 h3 h2' Y RK TO Pm Pn r;refine .inl ?_;refine⟨be,be,mx,?_⟩;refine cS (cR (GT:=λ_ J v F=>dH F (Nf J F) v ((0:Int):Rat)) (λO J r=>fZ 0 J bv) ?_);rintro O wa v3 Q7 r L Qf hO;replace hO:=dH.ef (S:=S) hO r.cY (iv:=(wa.heap.size,Q7.heap.size)::Ps) aF;replace hR:=hR.cV (A:=(wa.heap.size,Q7.heap.size)::Ps) r G L λp hp=>aD _ hp;replace hG:=hG.cV (A:=(wa.heap.size,Q7.heap.size)::Ps) r G L λp hp=>aD _ hp;replace W:=W.tr Qf;clear r L Qf;generalize (wa.heap.size,Q7.heap.size)::Ps=QA at*
  obtain⟨o0,o1,o2,o3,o4,o5,o6,o7,rfl⟩:=dH.shape hO;have Wl:=hG.push (cs:=rC o0 o1 o2 o3 o4 o5 o6 o7) (q:=0) ⟨_,_,_,_,_,_,_,_,rfl,dH.l hO bv⟩ rfl;rw[GZ]at Wl;have Qm:rc.flatten++(rC o0 o1 o2 o3 o4 o5 o6 o7:List Value)=(rc++([rC o0 o1 o2 o3 o4 o5 o6 o7]:List (List Value))).flatten:=by simp
  refine .inl ?_;refine⟨be,be,mx,((k+1:Nat):Int),wo,?_⟩;intro I8 w3 r3;exact⟨(k+1,rv++[.slice (some ⟨gx,0,none⟩) n c3],rc++[rC o0 o1 o2 o3 o4 o5 o6 o7],w3,_),⟨R1,W.tr r3.cg,hR.rel r3 G,Wl.rel r3 G⟩,sbgn [(1,4),(2,6)] r3 ⟨rfl,by dsimp only;rw[<-Qm];rfl,rfl,trivial⟩ ⟨rfl,rfl,rfl,by dsimp only;rw[l1];rfl,by dsimp only;rw[l1];rfl,rfl,trivial⟩,dec R1⟩
 have R1:=dE K R1;rw[R1]at hR hG QI hgl;apply bS<;>intro Wb
 .obtain rfl:n=0:=by simpa using Wb
  refine cS (cR (GT:=λ_ J v F=>∃d,v= .bool d/\(d=true->xY Fn 0 [] b)/\(xY Fn 0 [] b->d=true)) (λO J r=>lW (h:=4) (oS G r) (dZ.cW hm ((kS W r G))) (dB.nil J S) (dB.cW N ((kS W r G))) Pu hA (λr hr q hq=>by have:=rA r hr q hq;omega) (λq hq=>by cases hq) bv bv be bv) ?_);rintro O wa v1 wb r L Qf ⟨d,rfl,d1,d2⟩;replace W:=W.tr Qf
  cases d with
  |true=>
   intro GE we re;have Y:=re.jt (id:=4) (sz:=1) (n:=1) rfl rfl bv (by intro u hu;simp at hu;rcases hu with rfl;simp[At.den,Value.oneCell']);have l1:=re.low 4 _ rfl (re.fits (id:=4) rfl).1;have Wb:(GE 3).nil=false:=(re.fits (id:=3) rfl).1;refine⟨_,rfl,W.tr re.cg,[[]],⟨_,Y.cU λg V=>.inr (by rw[V];exact l1),rfl,λi u x k1 k2=>?_⟩,λx=>?_,λx Z=>?_⟩
   .rcases i with _|i
    .injection k1 with k1;injection k2 with k2;subst k1 k2;exact⟨[],⟨aZ _,rfl,ce,some ⟨(GE 3).g,0,none⟩,0,by simp[At.den],lr,λj u h=>by cases h⟩,rfl,ce,λj cs x h=>by cases h⟩
    .cases k2
   .rw[aY,GY hA];exact⟨λh=>⟨h,d1 rfl⟩,λh=>h.1⟩
   .rw[aY.1 Z];exact⟨rfl,λq hq=>by cases hq⟩
  |false=>
   intro GE we re;refine⟨_,rfl,W.tr re.cg,[],⟨[],⟨bv,rfl,λu hu=>(by cases hu),none,0,rfl,lr,λj u hu=>(by cases hu)⟩,rfl,λi u x Y I=>(by cases I)⟩,λx=>?_,λx Z=>by cases Z⟩;rw[GY hA];exact⟨λh=>(by cases h),λh=>absurd (d2 h.2) bv⟩
 have Wb:0<n:=by
  rcases bB n with h|h
  .rw[h]at Wb;simp at Wb
  .exact h
 obtain⟨F9,hRe⟩:∃F9,F9=kD Fn n:=⟨_,rfl⟩
 obtain⟨Q,hQe⟩:∃Q,Q=rO b n:=⟨_,rfl⟩
 rw[show BW Fn n n=F9 from hRe.symm]at hR;rw[show ug b n=Q from hQe.symm]at hG;have hRlen:iP n F9:=by rw[hRe];exact Cy hA
 have hRl:F9.length=Fn.length+n:=by rw[hRe];exact ve
 have hQl:Q.length=Fn.length+n:=by rw[<-hG.len,hgl,Pu]
 have hRh:Ht F9 4:=λr hr q hq=>by
  rw[hRe]at hr;rcases az.1 hr with hr|hr
  .exact Nat.succ_le_succ (rA r hr q hq)
  .obtain⟨k,-,rfl⟩:=bA.1 hr;rcases bL hq with hq|rfl
   .rw[bK hq];decide
   .decide
 have hQh:∀q∈Q,rl q+1<=4:=λq hq=>by
  rw[hQe]at hq;rcases az.1 hq with hq|hq
  .exact Nat.succ_le_succ (rb q hq)
  .rw[bK hq];decide
 refine⟨by rw[aV,ah],?_⟩;refine cS (cR (GT:=λ_ J v F=>qt F (Nf J F) v (Br n (Fn.length+n))) (λO J r=>?_) ?_)
 .have h:=BV n be (Fn.length+n) J be;rw[<-QI]at h ⊢;exact h
 rintro O wa v1 wb r L Qf hO;replace hO:=qt.cU (S':=Cv S w.heap.size ((wa.heap.size,wb.heap.size)::iv)) hO λg V=>V.ef r.cY aF;replace hR:=hR.cV (A:=(wa.heap.size,wb.heap.size)::iv) r G L λp hp=>aD _ hp;replace hG:=hG.cV (A:=(wa.heap.size,wb.heap.size)::iv) r G L λp hp=>aD _ hp;replace W:=W.tr Qf;clear r L Qf;generalize (wa.heap.size,wb.heap.size)::iv=ivn at*
 obtain⟨Do,hL⟩:∃Do,Do=Br n (Fn.length+n):=⟨_,rfl⟩
 have hLl:Do.length<=8000:=by rw[hL];exact aR (zP n _ be) (aR (Nat.pow_le_pow_right bv E) bv)
 rw[<-hL]at hO;obtain⟨al,cl,rfl,Qa,Um⟩:=dG.shape hO;refine⟨Nat×List Value×List (List Rat)×World×Iv,λz=>⟨[(1,sV ab b.length cb),(2,pP 0 0),(5,.o (.v (iV (n:Int)))),(6,.o (.w 1 rv.length)),(7,.o (.w 2 rc.length)),(11,sV al Do.length cl),(12,.o (.w 3 (z.2.1).length)),(13,iN z.1)],[(3,.vec T.nQ 1 (z.2.1)),(1,.vec T.nQ 1 (rv)),(2,.vec T.Rat 4 (rc).flatten),(0,.box T.Program [.v (.slice am Fn.length cm),.v (.slice a1 n1 c1),.v (.slice a2 n c2)])],4,z.2.2.2.2,z.2.2.2.1⟩,λz=>Do.length-z.1,λz=>z.1<=Do.length/\z.2.2.1.length<=z.1/\Bq w z.2.2.2.1/\ek z.2.2.2.1 (Cv S w.heap.size z.2.2.2.2) rv F9/\kM z.2.2.2.1 (Cv S w.heap.size z.2.2.2.2) rc Q/\qt z.2.2.2.1 (Cv S w.heap.size z.2.2.2.2) (.slice al Do.length cl) Do/\gH z.2.2.2.1 (Cf w z.2.2.2.2) z.2.1 z.2.2.1/\(∀x,x∈z.2.2.1↔∃l∈Do.take z.1,NO (jQ F9 l) n=n/\lL (jQ F9 l) (rP Q l) n=some x/\oH Fn.length n (dR Fn) (λi=>b.getD i 0) λj=>x.getD j 0)/\∀x∈z.2.2.1,x.length=n/\∀q∈x,rl q+1<=256,?_,?_⟩
 .intro O J r;exact⟨(0,[],[],J,_),⟨aZ _,lr,W.tr r.cg,hR.rel r G,hG.rel r G,qt.cW hO λg V=>rls r G V,by simp[gH],ce,ce⟩,Sub.nil 12 T.nQ 1 rfl (by simp[kN,SV.sc,At.sc,ff]) r λI9 r1=>sbgn [] r1⟩
 clear W hR hG hO;rintro⟨i,ro,FS,w1,iv⟩ ⟨R,hKi,W,hR,hG,hO,hK,S4,TN⟩;dsimp only at R hKi W hR hG hO hK S4 TN ⊢;have Rl:ro.length=FS.length:=hK.1;apply bS<;>intro Pk
 .have Pk:=dL Pk;obtain⟨li,UL⟩:=gO Do i;obtain⟨Va,-,RA⟩:=(vZ n (Fn.length+n) li).1 (by rw[<-hL];exact aG UL);refine⟨Nat×List Value×List (List Value)×World×Iv,λz=>⟨[(1,sV ab b.length cb),(2,pP 0 0),(5,.o (.v (iV (n:Int)))),(6,.o (.w 1 rv.length)),(7,.o (.w 2 rc.length)),(11,sV al Do.length cl),(12,.o (.w 3 (ro).length)),(13,iN i),(14,.o (.w 4 (z.2.1).length)),(15,.o (.w 5 (z.2.2.1).length)),(16,iN z.1)],[(4,.vec T.nQ 1 (z.2.1)),(5,.vec T.Rat 4 (z.2.2.1).flatten),(3,.vec T.nQ 1 (ro)),(1,.vec T.nQ 1 (rv)),(2,.vec T.Rat 4 (rc).flatten),(0,.box T.Program [.v (.slice am Fn.length cm),.v (.slice a1 n1 c1),.v (.slice a2 n c2)])],6,z.2.2.2.2,z.2.2.2.1⟩,λz=>n-z.1,λz=>z.1<=n/\Bq w z.2.2.2.1/\ek z.2.2.2.1 (Cv S w.heap.size z.2.2.2.2) rv F9/\kM z.2.2.2.1 (Cv S w.heap.size z.2.2.2.2) rc Q/\qt z.2.2.2.1 (Cv S w.heap.size z.2.2.2.2) (.slice al Do.length cl) Do/\gH z.2.2.2.1 (Cf w z.2.2.2.2) ro FS/\ek z.2.2.2.1 (Cv S w.heap.size z.2.2.2.2) z.2.1 (jQ F9 (li.take z.1))/\kM z.2.2.2.1 (Cv S w.heap.size z.2.2.2.2) z.2.2.1 (rP Q (li.take z.1)),?_,?_⟩
  .intro O J r;exact⟨(0,[],[],J,_),⟨aZ _,W.tr r.cg,hR.rel r G,hG.rel r G,qt.cW hO λg V=>rls r G V,gH.rel hK r hF,ek.nil,kM.nil⟩,Sub.nil 14 T.nQ 1 rfl (by simp[kN,SV.sc,At.sc,ff]) r λI9 r1=>Sub.nil 15 T.Rat 4 rfl (by simp[kN,SV.sc,At.sc,ff]) r1 λG9 r2=>sbgn [] r2⟩
  clear W hR hG hO hK;rintro⟨k,rm,rq,w1,iv⟩ ⟨K,W,hR,hG,hO,hK,hM,hB⟩;dsimp only at K W hR hG hO hK hM hB ⊢;have hml2:rm.length=k:=by rw[hM.1,jQ,aO,bI];omega
  have Qf:rq.length=k:=by rw[hB.len,rP,aO,bI];omega
  have hbf:=fJ hB.four;apply bS<;>intro R1
  .have R1:=dL R1;obtain⟨e,L⟩:=gO li k;have heb:=RA e (aG L);obtain⟨u,x,hu,Z,hux⟩:=hR.get (i:=e) be;obtain⟨au,cu,rfl,hcu,-⟩:=dK.shape hux;obtain⟨q,hq⟩:=gO Q e;obtain⟨cs,QX⟩:∃cs,rc[e]? =some cs:=⟨_,aE (by rw[hG.len];omega)⟩
   have Xi:=hG.at_ e cs q QX hq;obtain⟨f0,f1,f2,f3,f4,f5,f6,f7,rfl,-⟩:=Xi;have Xi:=hG.at_ e _ q QX hq;obtain⟨adm,um,Tw,SW,km1,km2⟩:=dG.load hO UL;obtain⟨ai,ci,rfl,hci,hmi⟩:=dw.form SW;obtain⟨adk,hak,kk1,kk2⟩:=dw.cell SW L;have UG:=hM.push (u:=.slice au x.length cu) rfl hux;have hB2:=hB.push Xi rfl;rw[show jQ F9 (li.take k)++[x]=jQ F9 (li.take (k+1)) by unfold jQ;rw[bH,L,bp,show [x]=[F9.getD e []] by rw[List.getD,Z];rfl];rfl]at UG;rw[show rP Q (li.take k)++[q]=rP Q (li.take (k+1)) by unfold rP;rw[bH,L,bp,show [q]=[Q.getD e 0] by rw[List.getD,hq];rfl];rfl]at hB2;have Qm:rq.flatten++(rC f0 f1 f2 f3 f4 f5 f6 f7:List Value)=(rq++([rC f0 f1 f2 f3 f4 f5 f6 f7]:List (List Value))).flatten:=by simp
   have hrcf:=fJ hG.four;have UD:rv.length=Fn.length+n:=by rw[hR.1,hRl]
   have hgl2:rc.length=Fn.length+n:=by rw[hG.len,hQl]
   refine fA hτ uR (.x 0 (.x 1 (.x 2 (.x 3 (.x 4 (.x 6 (.x 13 (.x 14 (.x 15 (.x 16 (.x 17 (.x 19 (.ld 5 234889088 (.x 7 (.ld 8 234888704 (.x 9 (.ld 10 234887168 (.ld 18 267386880 (.x 20 (.ld 21 264241152 (.x 22 (.ld 23 251658240 (.two 11 (.two 12 (.x 24 (.x 25 (.x 26 (.x 27 .nil)))) 24 (.x 12 (.x 25 (.x 26 (.x 27 .nil))))) 24 (.x 11 (.x 12 (.x 25 (.x 26 (.x 27 .nil)))))))))))))))))))))))))))) d9 d9 ?_;refine⟨adm,Tw,be,adm,Tw,be,.slice ai li.length ci,λO J r=>?_,?_⟩
   .rw[aI,cZ (w:=w1) (F:=J) (by rw[da];exact rls r G km1)];exact km2
   refine⟨adk,hak,be,iV (e:Int),λO J r=>?_,?_⟩
   .rw[aI,cZ (w:=w1) (F:=J) (by rw[da];exact rls r G kk1)];exact kk2
   refine⟨by simp[UD],be,.slice au x.length cu,by simpa using hu,.slice ai li.length ci,λO J r=>?_,?_⟩
   .rw[aI,cZ (w:=w1) (F:=J) (by rw[da];exact rls r G km1)];exact km2
   refine⟨adk,hak,be,iV (e:Int),λO J r=>?_,?_⟩
   .rw[aI,cZ (w:=w1) (F:=J) (by rw[da];exact rls r G kk1)];exact kk2
   refine⟨by rw[hrcf],be,rC f0 f1 f2 f3 f4 f5 f6 f7,by rw[aI];exact xZ hG.four QX,rfl,?_,?_⟩
   .conv=>whnf
    refine⟨rC f0 f1 f2 f3 f4 f5 f6 f7,by rw[aI];exact xZ hG.four QX,rfl,rfl,iV (e:Int),λO J r=>?_,?_⟩
    .rw[aI,cZ (w:=w1) (F:=J) (by rw[da];exact rls r G kk1)];exact kk2
    refine⟨rfl,.slice ai li.length ci,λO J r=>?_,?_⟩
    .rw[aI,cZ (w:=w1) (F:=J) (by rw[da];exact rls r G km1)];exact km2
    refine⟨rfl,?_,?_⟩
    .conv=>whnf
     refine .inl ?_;refine⟨be,be,mx,rC f0 f1 f2 f3 f4 f5 f6 f7,by rw[aI];exact xZ hG.four QX,rfl,rfl,iV (e:Int),λO J r=>?_,?_⟩
     .rw[aI,cZ (w:=w1) (F:=J) (by rw[da];exact rls r G kk1)];exact kk2
     refine⟨rfl,.slice ai li.length ci,λO J r=>?_,?_⟩
     .rw[aI,cZ (w:=w1) (F:=J) (by rw[da];exact rls r G km1)];exact km2
     refine⟨rfl,?_⟩;refine .inl ?_;refine⟨be,be,mx,((k+1:Nat):Int),wo,?_⟩;intro I8 w3 r3;exact⟨(k+1,rm++[.slice au x.length cu],rq++[rC f0 f1 f2 f3 f4 f5 f6 f7],w3,_),⟨R1,W.tr r3.cg,hR.rel r3 G,hG.rel r3 G,qt.cW hO λg V=>rls r3 G V,gH.rel hK r3 hF,UG.rel r3 G,hB2.rel r3 G⟩,sbgn [(4,7),(5,9)] r3 ⟨rfl,by dsimp only;rw[<-Qm];rfl,rfl,rfl,rfl,rfl,trivial⟩ ⟨rfl,rfl,rfl,rfl,rfl,rfl,rfl,rfl,by dsimp only;rw[l1];rfl,by dsimp only;rw[l1];rfl,rfl,trivial⟩,dec R1⟩
    .conv=>whnf
     refine .inl ?_;refine⟨be,be,mx,?_⟩;refine .inl ?_;refine⟨be,be,mx,((k+1:Nat):Int),wo,?_⟩;intro I8 w3 r3;exact⟨(k+1,rm++[.slice au x.length cu],rq++[rC f0 f1 f2 f3 f4 f5 f6 f7],w3,_),⟨R1,W.tr r3.cg,hR.rel r3 G,hG.rel r3 G,qt.cW hO λg V=>rls r3 G V,gH.rel hK r3 hF,UG.rel r3 G,hB2.rel r3 G⟩,sbgn [(4,8),(5,9)] r3 ⟨rfl,by dsimp only;rw[<-Qm];rfl,rfl,rfl,rfl,rfl,trivial⟩ ⟨rfl,rfl,rfl,rfl,rfl,rfl,rfl,rfl,by dsimp only;rw[l1];rfl,by dsimp only;rw[l1];rfl,rfl,trivial⟩,dec R1⟩
   .conv=>whnf
    refine⟨.slice au x.length cu,by simpa using hu,rfl,iV (e:Int),λO J r=>?_,?_⟩
    .rw[aI,cZ (w:=w1) (F:=J) (by rw[da];exact rls r G kk1)];exact kk2
    refine⟨rfl,.slice ai li.length ci,λO J r=>?_,?_⟩
    .rw[aI,cZ (w:=w1) (F:=J) (by rw[da];exact rls r G km1)];exact km2
    refine⟨rfl,?_⟩;refine .inl ?_;refine⟨be,be,mx,?_⟩;refine .inl ?_;refine⟨be,be,mx,((k+1:Nat):Int),wo,?_⟩;intro I8 w3 r3;exact⟨(k+1,rm++[.slice au x.length cu],rq++[rC f0 f1 f2 f3 f4 f5 f6 f7],w3,_),⟨R1,W.tr r3.cg,hR.rel r3 G,hG.rel r3 G,qt.cW hO λg V=>rls r3 G V,gH.rel hK r3 hF,UG.rel r3 G,hB2.rel r3 G⟩,sbgn [(4,8),(5,9)] r3 ⟨rfl,by dsimp only;rw[<-Qm];rfl,rfl,rfl,rfl,rfl,trivial⟩ ⟨rfl,rfl,rfl,rfl,rfl,rfl,rfl,rfl,by dsimp only;rw[l1];rfl,by dsimp only;rw[l1];rfl,rfl,trivial⟩,dec R1⟩
  have R1:=dE K R1;rw[R1,<-Va,bE]at hM hB;rw[R1]at hml2 Qf;have UA:(jQ F9 li).length=n:=by rw[<-hM.1,hml2]
  have hsL:iP n (jQ F9 li):=λr hr=>by
   obtain⟨e,L,rfl⟩:=bA.1 hr;rw[List.getD,aE (by have:=RA e L;omega)];exact hRlen _ (bm _)
  have YS:Ht (jQ F9 li) 4:=λr hr=>by
   obtain⟨e,L,rfl⟩:=bA.1 hr;rw[List.getD,aE (by have:=RA e L;omega)];exact hRh _ (bm _)
  have hsB:∀q∈rP Q li,rl q+1<=4:=λq hq=>by
   obtain⟨e,L,rfl⟩:=bA.1 hq;rw[List.getD,aE (by have:=RA e L;omega)];exact hQh _ (bm _)
  have hp4:4^(jQ F9 li).length*4<=256:=by
   rw[UA];exact Nat.mul_le_mul_right 4 (Nat.pow_le_pow_right bv E:4^n<=4^3)
  have hrkle:NO (jQ F9 li) n<=n:=by
   have:=(lM (cols:=n) YS bv).2.1
   rwa [UA]at this
  refine cS (cR (GT:=λ_ J v F=>v=iV (NO (jQ F9 li) n)) (λO J r=>Mh (S:=λg=>g<J.heap.size) (h0:=4) (λg V=>V) (hM.asM r G rfl mx) hsL be be be YS bv be) ?_);rintro O wa v1 wb r L Tm rfl;replace hR:=hR.cV (A:=(wa.heap.size,wb.heap.size)::iv) r G L λp hp=>aD _ hp;replace hG:=hG.cV (A:=(wa.heap.size,wb.heap.size)::iv) r G L λp hp=>aD _ hp;replace hO:=qt.cU (qt.cW hO λg V=>(L.block g (rlo r G g V)).trans (rls r G V)) λg V=>(V.mono λp hp=>aD _ hp:Cv S w.heap.size ((wa.heap.size,wb.heap.size)::iv) g)
  replace hK:=gH.cV (A:=(wa.heap.size,wb.heap.size)::iv) hK r hF L λp hp=>aD _ hp;replace hM:=hM.cV (A:=(wa.heap.size,wb.heap.size)::iv) r G L λp hp=>aD _ hp;replace hB:=hB.cV (A:=(wa.heap.size,wb.heap.size)::iv) r G L λp hp=>aD _ hp;replace W:=W.tr Tm;clear r L Tm;generalize (wa.heap.size,wb.heap.size)::iv=iv at*
  apply bS<;>intro YT
  .have YT:¬NO (jQ F9 li) n=n:=by have:=aK YT;omega
   refine inc i ?_;intro I8 w3 r3;exact⟨(i+1,ro,FS,w3,_),⟨Pk,by dsimp only;omega,W.tr r3.cg,hR.rel r3 G,hG.rel r3 G,qt.cW hO λg V=>rls r3 G V,gH.rel hK r3 hF,Hr S4 UL λx h=>YT h.1,TN⟩,sbgn [] r3,dec Pk⟩
  have YT:NO (jQ F9 li) n=n:=by have:=aL YT;omega
  refine cS (cR (GT:=λ_ J v F=>(lL (jQ F9 li) (rP Q li) n=none/\v= .tuple #[nls,.bool false])\/∃x vx,lL (jQ F9 li) (rP Q li) n=some x/\v= .tuple #[vx,.bool true]/\cd F (Nf J F) vx x/\x.length=n/\∀q∈x,rl q+1<=4^(jQ F9 li).length*4) (λO J r=>K9 (S:=λg=>g<J.heap.size) (h0:=4) (λg V=>V) (hM.asM r G rfl mx) (hB.asL r G rfl mx) hsL be (by rw[UA,<-hB.len,Qf]) be be YS hsB bv be) ?_);rintro O wa v1 wb r L Tm hQ;have hQ2:(lL (jQ F9 li) (rP Q li) n=none/\v1= .tuple #[nls,.bool false])\/∃x vx,lL (jQ F9 li) (rP Q li) n=some x/\v1= .tuple #[vx,.bool true]/\cd wb (Cf w ((wa.heap.size,wb.heap.size)::iv)) vx x/\x.length=n/\∀q∈x,rl q+1<=4^(jQ F9 li).length*4:=hQ.imp id λ⟨x,vx,q1,q2,q3,q4⟩=>⟨x,vx,q1,q2,cd.ef (S:=FF) q3 r.cY aF,q4⟩
  clear hQ hM hB;replace hR:=hR.cV (A:=(wa.heap.size,wb.heap.size)::iv) r G L λp hp=>aD _ hp;replace hG:=hG.cV (A:=(wa.heap.size,wb.heap.size)::iv) r G L λp hp=>aD _ hp;replace hO:=qt.cU (qt.cW hO λg V=>(L.block g (rlo r G g V)).trans (rls r G V)) λg V=>(V.mono λp hp=>aD _ hp:Cv S w.heap.size ((wa.heap.size,wb.heap.size)::iv) g)
  replace hK:=gH.cV (A:=(wa.heap.size,wb.heap.size)::iv) hK r hF L λp hp=>aD _ hp;replace W:=W.tr Tm;clear r L Tm;generalize (wa.heap.size,wb.heap.size)::iv=iv at*
  rcases hQ2 with⟨hQ,rfl⟩|⟨x,vx,hQ,rfl,hX,SK,hxh⟩
  .refine inc i ?_;intro I8 w3 r3;exact⟨(i+1,ro,FS,w3,_),⟨Pk,by dsimp only;omega,W.tr r3.cg,hR.rel r3 G,hG.rel r3 G,qt.cW hO λg V=>rls r3 G V,gH.rel hK r3 hF,Hr S4 UL λx h=>(by rw[hQ]at h;cases h.2.1),TN⟩,sbgn [] r3,dec Pk⟩
  have hxh2:∀q∈x,rl q+1<=256:=λq hq=>aR (hxh q hq) hp4;obtain⟨ax,cx,rfl,Wi,-⟩:=dK.shape hX;refine cS (cR (GT:=λ_ J v F=>∃d,v= .bool d/\(d=true->xY Fn n x b)/\(xY Fn n x b->d=true)) (λO J r=>lW (h:=256) (rlo r G) (dZ.cU (dZ.cW hm (kS W r G)) λg V=>(.inl V:Cv S w.heap.size _ g)) (cd.l (cd.cU (cd.rel hX r hF) λg V=>qL V) λq hq=>by have:=hxh2 q hq;omega) (dB.cU (dB.cW N (kS W r G)) λg V=>(.inl V:Cv S w.heap.size _ g)) Pu hA (λr hr q hq=>by have:=rA r hr q hq;omega) hxh2 bv be be be) ?_);rintro O wa v1 wb r L Tm ⟨d,rfl,d1,d2⟩;replace hR:=hR.cV (A:=(wa.heap.size,wb.heap.size)::iv) r G L λp hp=>aD _ hp;replace hG:=hG.cV (A:=(wa.heap.size,wb.heap.size)::iv) r G L λp hp=>aD _ hp;replace hO:=qt.cU (qt.cW hO λg V=>(L.block g (rlo r G g V)).trans (rls r G V)) λg V=>(V.mono λp hp=>aD _ hp:Cv S w.heap.size ((wa.heap.size,wb.heap.size)::iv) g)
  replace hK:=gH.cV (A:=(wa.heap.size,wb.heap.size)::iv) hK r hF L λp hp=>aD _ hp;replace hX:=cd.cV (A:=(wa.heap.size,wb.heap.size)::iv) hX r hF L λp hp=>aD _ hp;replace W:=W.tr Tm;clear r L Tm;generalize (wa.heap.size,wb.heap.size)::iv=iv at*
  cases d with
  |false=>
   refine inc i ?_;intro I8 w3 r3;exact⟨(i+1,ro,FS,w3,_),⟨Pk,by dsimp only;omega,W.tr r3.cg,hR.rel r3 G,hG.rel r3 G,qt.cW hO λg V=>rls r3 G V,gH.rel hK r3 hF,Hr S4 UL λx' h=>(by rw[hQ]at h;injection h.2.1 with I;subst I;exact absurd (d2 ((jj hA).2 ⟨SK,h.2.2⟩)) bv),TN⟩,sbgn [] r3,dec Pk⟩
  |true=>
   have TE:=gH.push (u:=.slice ax x.length cx) hK rfl hX;refine .inl ?_;refine⟨be,be,mx,?_⟩;clear hK;have hK:=TE;refine inc i ?_;intro I8 w3 r3;exact⟨(i+1,ro++[.slice ax x.length cx],FS++[x],w3,_),⟨Pk,by dsimp only;rw[l1];omega,W.tr r3.cg,hR.rel r3 G,hG.rel r3 G,qt.cW hO λg V=>rls r3 G V,gH.rel hK r3 hF,OH S4 UL ⟨YT,hQ,((jj hA).1 (d1 rfl)).2⟩ λx' h=>(by rw[hQ]at h;injection h.2.1 with I;exact I.symm),λy hy=>(az.1 hy).elim (TN y) λhy=>(by rw[aY.1 hy];exact⟨SK,hxh2⟩)⟩,sbgn [(3,7)] r3 (hE:=⟨rfl,rfl,rfl,rfl,rfl,rfl,by dsimp only;rw[l1];rfl,rfl,trivial⟩),dec Pk⟩
 have Pk:=dE R Pk;rw[Pk,bE]at S4;intro GE we re;have TE:=gH.cU (gH.rel hK re hF) λg V=>(Cv.nw V re:Nf w we g)
 refine⟨_,rfl,W.tr re.cg,FS,⟨ro,TE.1▸re.DR (id:=3) (sz:=1) (m:=ro.length) rfl (ah _).symm mx bv TE.2.1 λE=>.inr (re.low 3 _ rfl E),TE.1,TE.2.2⟩,λx=>?_,TN⟩;rw[S4,hRe,hQe,hL];exact⟨λ⟨l,Y,I,h3,h4⟩=>⟨⟨l,Y,I,h3⟩,h4⟩,λ⟨⟨l,Y,I,h3⟩,h4⟩=>⟨l,Y,I,h3,h4⟩⟩
def Ka{P:Program}{l:Env}{H:Hp}{nx:Nat}{FS:KT}{α:Type}(st:α->FG)(E8:α->Prop)(Y:pM P B ops l H nx iv w λl' H' Pv A F=>∀O J,Rel H' Pv A B F O J->∃z,E8 z/\Sx.Sub B l' Pv O J (st z))
  (I:∀z,E8 z->FS (st z).l (st z).H (st z).nx (st z).iv (st z).w):pM P B ops l H nx iv w FS:=
 ⟨λn O a J E sat Q hQ id=>Y.h n O a J E sat Q (λl' H' Pv A F F' a' w'' hK sat'=>by
  obtain⟨z,hz,G9,r2,Pn⟩:=hK F' w'' sat'.rel
  exact hQ _ _ _ _ _ G9 a' w'' (I z hz) ⟨r2,sat'.size,sat'.defers,λt v hv=>by obtain⟨_,v0,e1,e2⟩:=Pn t v hv;rw[sat'.env t v0 e1,e2],λt v hv=>(Pn t v hv).1⟩) id⟩
section
variable{l:Env}{H:Hp}{nx n:Nat}{iv:Iv}{B:Nat}{w J F:World}{O:Nat->Sx.eD}{v v':Value}{qs:List Rat}{q:Rat}
def fw.app(W:fw J FF B iv v n qs)(ho:Fc J (λg=>Cv FF B iv g/\v.ownBlock≠some g) U qs)(Qa:U.length=n)(hq:jV J (λg=>Cv FF B iv g/\v.ownBlock≠some g) cs q)(Pq:∀g,Cv FF B iv g->g<J.heap.size)(hB:B<=J.heap.size)
  (h5:F.ownsRow 0 T.Rat 4 v' (n+1) (U.flatten++cs)) (h6:J.grownBy F v.ownBlock) (h7:v'.ownBlock=v.ownBlock\/v'.ownBlock=some J.heap.size):fw F FF B (e9 v'++iv) v' (n+1) (qs++[q]):=by
 have K:∀g,(Cv FF B iv g/\v.ownBlock≠some g)->F.heap[g]? =J.heap[g]? :=λg V=>h6.block g (Pq g V.1) (Ne.symm V.2);have hm:∀p,p∈iv->p∈e9 v'++iv:=λp hp=>List.mem_append_right _ hp;have hv:∀g,(Cv FF B iv g/\v.ownBlock≠some g)->(Cv FF B (e9 v'++iv) g/\v'.ownBlock≠some g):=λg V=>by
  refine⟨V.1.mono hm,λe=>?_⟩;rcases h7 with h7|h7
  .exact V.2 (h7▸e)
  .rw[h7]at e;injection e with e;have:=Pq g V.1;omega
 have hF:Fc F (λg=>Cv FF B (e9 v'++iv) g/\v'.ownBlock≠some g) (U++[cs]) (qs++[q]):=((ho.cW K).cU hv).push ((hq.cW K).cU hv);refine⟨⟨U++[cs],by rw[List.flatten_append,List.flatten_singleton];exact h5,by rw[aU,Qa];rfl,hF⟩,λg V=>?_⟩;rcases h7 with h7|h7
 .exact(W.new g (h7▸V)).mono hm
 .rw[h7]at V;injection V with V;subst V;exact .inr ⟨hB,_,_,List.mem_append_left _ (kG.2 ⟨h7,rfl⟩),lr,cF _⟩
def Ga(hτ:fk PG τ){x y:Operand}{ty id:Nat}{pos:String}{b b2:Bool}{n1 c1 n2 c2:Nat}
  (hX:fw w FF B iv v n qs) (hO:dH w (λg=>Cv FF B iv g/\v.ownBlock≠some g) (.agg #[.bool b,.slice a1 n1 c1,.bool b2,.slice a2 n2 c2]) q) (E:n<=1000) (Z:ev l x=some (.o (.v v))) (hy:ev l y=some (.o (.s id 0 1 1)))
  (RR:dT H id=some (.box T.Rat [.v (.bool b),.v (.slice a1 n1 c1),.v (.bool b2),.v (.slice a2 n2 c2)]))
  (hK:∀O J v' F,Rel H nx iv B w O J->fw F FF B (e9 v'++iv) v' (n+1) (qs++[q])->J.grownBy F v.ownBlock->(v'.ownBlock=v.ownBlock\/v'.ownBlock=some J.heap.size)->FS (.o (.v v')) H nx (e9 v'++iv) F):
  yz PG B ⟨dst,.call ⟨.builtin .append,⟨[x,y]⟩,⟨[T.nQ,T.nQ]⟩⟩,ty,pos,after,guard⟩ l H nx iv w FS:=by
 obtain⟨U,Y,I,h3⟩:=hX.row;have hF:=iS B;refine iC hτ (aZ _) (xs:=U.flatten) (news:=rC b a1 n1 c1 b2 a2 n2 c2) (m:=n) (k:=1) d8 d8 bv Z hy (λO J r=>⟨ownsRow.cW Y λg V=>rls r hF (hX.new g V),λg V=>Rel.not r hF (hX.new g V)⟩) rfl (by simp;exact⟨rfl,rfl,rfl,rfl⟩) mx be
  (λO J r=>?_) (λv' F=>e9 v'++iv) (λO J v' F r QG SQ=>tB r (λg V=>Rel.not r hF (hX.new g V)) QG SQ) (λO J v' F r h5 h6 h7=>?_)
 .exact(fT.KV (r.jt (id:=id) (sz:=4) (n:=1) RR rfl bv (by simp;exact⟨rfl,rfl,rfl,rfl⟩)) bv).imp (λh=>h) λ⟨ad,c,e1,e2⟩=>⟨ad,c,e1,λj u hu=>(e2 j u hu).2⟩
 .exact hK O J v' F r ((hX.rel r hF).app (h3.cW λg V=>rls r hF V.1) I (dH.cW hO λg V=>rls r hF V.1).pG (λg V=>rlo r hF g V) (by have:=r.base;have:=r.size;omega) h5 h6 h7) h6 h7
end
end Go.Ex
namespace Go.Ex
variable{x:Nat->Rat}
def PT(Fn:List (List Rat))(b c:List Rat)(k:Nat)(q:Rat):Prop:=
 (k=1/\q=0/\∀x,¬Gz Fn b c.length x)\/
 (k=2/\q=0/\(∃x,Gz Fn b c.length x)/\∃r,Gz (ir Fn c.length) (kE Fn.length) c.length r/\0<oI c r c.length)\/
 (k=0/\(∃x,Gz Fn b c.length x/\oI c x c.length=q)/\(∀x,Gz Fn b c.length x->oI c x c.length<=q)/\∀r,Gz (ir Fn c.length) (kE Fn.length) c.length r->¬0<oI c r c.length)
section
variable{Fn:List (List Rat)}{b c:List Rat}{k l:Nat}{p q:Rat}
def DC(hA:iP c.length Fn)(N:b.length=Fn.length)(Z:oH Fn.length c.length (dR Fn) (λi=>b.getD i 0) x):
  (∃z,Gz Fn b c.length z/\cj (λj=>c.getD j 0*x j) c.length<=oI c z c.length)\/((∃z,Gz Fn b c.length z)/\∃r,KE Fn.length c.length (dR Fn) (λj=>c.getD j 0) r):=by
 rcases Iq Fn.length c.length (dR Fn) (λi=>b.getD i 0) (λj=>c.getD j 0)with⟨y,hy⟩|⟨D,hD,hF,hE⟩
 .exact absurd (hy.no Z) id
 .have hc:=hD.crn hA N hF
  cases hE with
  |By h=>
   refine .inl ⟨_,hc,?_⟩;rw[Is,(hD.jf hF).2.2];exact hD.By h Z
  |Ll s Y I h3=>exact .inr ⟨⟨_,hc⟩,_,hD.Ll Y I h3⟩
def MK(hA:iP c.length Fn)(N:b.length=Fn.length)(h:Cert Fn.length c.length (dR Fn) (λi=>b.getD i 0) (λj=>c.getD j 0) k p)(g:PT Fn b c l q):k=l/\p=q:=by
 cases h with
 |By x y v Z hy hc e1 e2=>
  rcases DC hA N Z with⟨z,hz,hle⟩|⟨_,r,hr⟩
  .rcases g with⟨rfl,rfl,g1⟩|⟨rfl,rfl,-,r,g1,g2⟩|⟨rfl,⟨w,g1,g2⟩,g3,g4⟩
   .exact absurd hz (g1 z)
   .exact absurd g2 (KG hy hc g1)
   .refine⟨rfl,?_⟩;have k1:=g3 z hz;have k2:oI c w c.length<=_:=Dv g1.ok hy hc;rw[e2]at k2;rw[e1]at hle;grind
  .exact absurd (Lu hr hy hc) id
 |none y hy=>
  rcases g with⟨rfl,rfl,g1⟩|⟨rfl,rfl,⟨z,hz⟩,-⟩|⟨rfl,⟨z,hz,-⟩,-⟩
  .exact⟨rfl,rfl⟩
  .exact absurd (xu hy hz) id
  .exact absurd (xu hy hz) id
 |Ll x z Z hz=>
  obtain⟨r,Y,I⟩:=H4 hA hz;rcases g with⟨rfl,rfl,g1⟩|⟨rfl,rfl,-⟩|⟨rfl,-,-,g4⟩
  .rcases DC hA N Z with⟨z,hz,_⟩|⟨⟨z,hz⟩,_⟩<;>exact absurd hz (g1 z)
  .exact⟨rfl,rfl⟩
  .exact absurd I (g4 r Y)
end
end Go.Ex
