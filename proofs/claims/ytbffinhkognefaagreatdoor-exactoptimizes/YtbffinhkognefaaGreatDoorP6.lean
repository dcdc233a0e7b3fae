/- Texts X31 to X38: lemmas, each with its conditions. -/
import Derived.Test.YtbffinhkognefaaGreatDoorP5
namespace Go.Ex
open Go Go.Sx Go.Proofs
variable{Z:List (List Value)}{qs:List Rat}{i:Nat}{C S:Nat->Prop}{a:Option Addr}{q:Rat}{v:Value}{w:World}
def ml(i:Nat)(f:Nat->Rat->Rat)(qs:List Rat):List Rat:=qs.mapIdx fun j q=>if j<i then f j q else q
theorem IT(f:Nat->Rat->Rat)(qs:List Rat):ml 0 f qs=qs:=by
 apply bA;intro j;simp[ml]
theorem Kx(f:Nat->Rat->Rat)(qs:List Rat):ml qs.length f qs=qs.mapIdx f:=by
 apply bA;intro j;simp only[ml,List.getElem?_mapIdx]
 cases h:qs[j]? with
 |none=>rfl
 |some q=>simp[(aH.1 h).1]
theorem Bw{f:Nat->Rat->Rat}(h:qs[i]? =some q):(ml i f qs).set i (f i q)=ml (i+1) f qs:=by
 apply bA;intro j;have N:=(aH.1 h).1;by_cases R0:i=j
 .subst R0;rw[aQ (by simp[ml];exact N)];simp[ml,List.getElem?_mapIdx,h]
 .rw[aZ R0];simp only[ml,List.getElem?_mapIdx]
  have:(j<i)↔(j<i+1):=by omega
  simp[this]
theorem IU{f:Nat->Rat->Rat}(h:qs[i]? =some q)(hf:f i q=q):ml i f qs=ml (i+1) f qs:=by
 rw[<-Bw h,hf];apply bA;intro j;have N:=(aH.1 h).1;by_cases R0:i=j
 .subst R0;rw[aQ (by simp[ml];exact N)];simp[ml,List.getElem?_mapIdx,h]
 .rw[aZ R0]
theorem ND{f:Nat->Rat->Rat}(h:qs[i]? =some q):(ml i f qs)[i]? =some q:=by
 simp only[ml,List.getElem?_mapIdx,h]
 simp
def eF(w:World)(C S:Nat->Prop)(v:Value)(qs:List Rat):Prop:=∃Z,fe w C 4 v Z.flatten qs.length/\Fr w S Z qs
section
variable{C C' S S':Nat->Prop}{H:Hp}{nx:Nat}{iv K:Iv}{B:Nat}{w J F:World}{O:Nat->Sx.eH}{v:Value}{qs:List Rat}
theorem eF.cX(h:eF w C S v qs)(R:∀g,C g\/S g->F.heap[g]? =w.heap[g]?):eF F C S v qs:=by
 obtain⟨Z,Y,I⟩:=h;exact⟨Z,Y.cX fun g V=>R g (.inl V),I.cX fun g V=>R g (.inr V)⟩
theorem eF.cV(h:eF w C S v qs)(R:∀g,C g->C' g)(Tm:∀g,S g->S' g):eF w C' S' v qs:=by
 obtain⟨Z,Y,I⟩:=h;exact⟨Z,Y.cV R,I.cV Tm⟩
theorem eF.rel(h:eF w (Cv C B iv) (Cv S B iv) v qs)(r:Rel H nx iv B w O J)(hC:∀g,C g->g<B)(W:∀g,S g->g<B):eF J (Cv C B iv) (Cv S B iv) v qs:=
 h.cX fun _ V=>V.elim (rls r hC) (rls r W)
theorem eF.cS(h:eF w (Cv C B iv) (Cv S B iv) v qs)(r:Rel H nx iv B w O J)(hC:∀g,C g->g<B)(W:∀g,S g->g<B)(L:Ext J F)(hm:∀p,p∈iv->p∈K):eF F (Cv C B K) (Cv S B K) v qs:=
 ((h.rel r hC W).cX fun g V=>L.block g (V.elim (rlo r hC g) (rlo r W g))).cV (fun _ V=>V.mono hm) (fun _ V=>V.mono hm)
theorem eF.arg(h:eF w C S v qs)(iv:Iv):eF w (Cv C w.heap.size iv) (Cv S w.heap.size iv) v qs:=h.cV (fun _ h=>.inl h) (fun _ h=>.inl h)
end
theorem eF.shape(h:eF w C S v qs):∃a c,v= .slice a qs.length c/\qs.length<=c/\qs.length<=maxLen:=by
 obtain⟨Z,⟨h0,_,_,a,c,Y,I,_⟩,_⟩:=h;exact⟨a,c,Y,I,h0⟩
theorem eF.load{n c j:Nat}(h:eF w C S (.slice a n c) qs)(hq:qs[j]? =some q):
  ∃ad cs,a=some ad/\jx w S cs q/\∀k u,cs[k]? =some u->C ad.block/\w.cell? ((ad.add (j*4)).add k)=some u:=by
 obtain⟨Z,⟨h0,Y,I,a',c',e,h3,h4⟩,hf⟩:=h;injection e with e1 e2 e3;subst e1;obtain⟨cs,Q4⟩:∃cs,Z[j]? =some cs:=⟨_,aE (by rw[hf.1];exact(aH.1 hq).1)⟩
 have hF:=hf.2 j cs q Q4 hq;have hl:=hF.len;obtain⟨ad,k1,k2,k3⟩:=h4 (j*4+0) _ (flat_get hf.oy Q4 0 _ (aE (show 0<cs.length by omega)));refine⟨ad,cs,k1,hF,fun k u hu=>?_⟩;obtain⟨ad2,m1,m2,m3⟩:=h4 (j*4+k) u (flat_get hf.oy Q4 k u hu);rw[k1]at m1;injection m1 with m1;subst m1;refine⟨m2,?_⟩;rw[<-m3];have:(ad.add (j*4)).add k=ad.add (j*4+k):=by
  unfold Addr.add;split<;>split<;>simp_all<;>omega
 rw[this]
def mV(p:Rat)(ps:List Rat)(j:Nat)(q:Rat):Rat:=q+p*ps.getD j 0
theorem HD(ps qs:List Rat):qs.mapIdx (mV 0 ps)=qs:=by
 apply bA;intro j;rw[List.getElem?_mapIdx]
 cases qs[j]? with
 |none=>rfl
 |some q=>exact congrArg some (by rw[mV,bj,cI])
theorem Jc{vby vs:Value}{n:Nat}{ps:List Rat}{p:Rat}(hC:Old C w)(W:Old S w)(Pm:w.ownsRow 0 T.dO 4 v n Z.flatten)(RX:Fr w S Z qs)(Qg:Z.length=n)(QR:cz w S vby p)
  (hs:eF w C S vs ps) (QQ:ps.length=n) (hdis:∀g,v.ownBlock=some g->¬S g) (hdc:∀g,v.ownBlock=some g->¬C g) (hq:∀q∈qs,rl q<=2000000000) (hps:∀q∈ps,rl q<=2000000000) (A:rl p<=2000000000):
  eL PG FS.lX #[v,vby,vs] w (fun e F=>e= .returned (.tuple #[])/\w.grownBy F v.ownBlock/\∃css',F.ownsRow 0 T.dO 4 v n css'.flatten/\css'.length=n/\Fr F (Nw S w F) css' (qs.mapIdx (mV p ps))):=by
 have Pq:∀g,v.ownBlock=some g->g<w.heap.size:=fun g V=>(ownsRow.low Pm g V).2;have RJ:∀iv g,v.ownBlock=some g->Out w.heap.size iv g:=fun iv g V=>.inl (Pq g V);have YP:∀iv g,v.ownBlock=some g->¬Cv S w.heap.size iv g:=fun iv g V h=>by
  rcases h with h|⟨h,_⟩
  .exact hdis g V h
  .have:=Pq g V;omega
 have hdis3:∀iv g,v.ownBlock=some g->¬Cv C w.heap.size iv g:=fun iv g V h=>by
  rcases h with h|⟨h,_⟩
  .exact hdc g V h
  .have:=Pq g V;omega
 have VC:qs.length=n:=by rw[<-RX.1,Qg]
 obtain⟨a,c,rfl,VI⟩:=ef Pm;obtain⟨b1,a1,n1,c1,b2,a2,n2,c2,rfl⟩:=QR.shape;obtain⟨asl,cs0,rfl,UP,Xo⟩:=hs.shape;rw[QQ]at UP Xo hs ⊢;unfold maxLen at Xo;replace RX:=RX.arg [];replace QR:=QR.arg [];replace hs:=hs.arg [];refine xg ce ?_;conv=>whnf
 refine cW (cU (GT:=fun _ _ v _=>v=iV (rs p)) (fun O J r=>jE (rlo r W) (QR.rel r W)) ?_);rintro O wa v1 wb r L Pw rfl;replace QR:=QR.cS (K:=(wa.heap.size,wb.heap.size)::[]) r W L fun x E=>aD _ E;replace RX:=RX.cS (K:=(wa.heap.size,wb.heap.size)::[]) r W L fun x E=>aD _ E;replace hs:=hs.cS (K:=(wa.heap.size,wb.heap.size)::[]) r hC W L fun x E=>aD _ E;have Q7:wb.ownsRow 0 T.dO 4 (.slice a n c) n Z.flatten:=ownsRow.cX (jP Pm (RJ []) r) fun b A=>L.block b (by have:=Pq b A;have:=r.cZ;omega);have V:w.grownBy wb (Value.slice a n c).ownBlock:=oZ Pw;clear r L Pw Pm;generalize (wa.heap.size,wb.heap.size)::[]=iv at*
 conv=>whnf
 apply bS<;>intro h0
 .have h0:p=0:=by
   have:rs p=0:=eq_of_beq h0;exact Rat.num_eq_zero.1 (bo.1 this)
  conv=>whnf
  intro Id w5 r5;refine⟨rfl,eN V r5.cj,Z,jP Q7 (RJ iv) r5,Qg,?_⟩;have:=(RX.rel r5 W).cV (S':=Nw S w w5) fun g V=>Cv.nw V r5;rw[h0,HD];exact this
 clear h0;conv=>whnf
 refine⟨Nat×List (List Value)×Iv×World,fun z=>⟨[(0,sV a n c),(4,pP 0 0),(11,sV asl n cs0),(12,iZ n),(13,iZ z.1)],
   [(0,.box T.dO [.v (.bool b1),.v (.slice a1 n1 c1),.v (.bool b2),.v (.slice a2 n2 c2)])],1,z.2.2.1,z.2.2.2⟩,fun z=>n-z.1,
  fun z=>z.1<=n/\w.grownBy z.2.2.2 (Value.slice a n c).ownBlock/\z.2.2.2.ownsRow 0 T.dO 4 (.slice a n c) n z.2.1.flatten/\z.2.1.length=n/\Fr z.2.2.2 (Cv S w.heap.size z.2.2.1) z.2.1 (ml z.1 (mV p ps) qs)/\
   cz z.2.2.2 (Cv S w.heap.size z.2.2.1) (.agg #[.bool b1,.slice a1 n1 c1,.bool b2,.slice a2 n2 c2]) p/\eF z.2.2.2 (Cv C w.heap.size z.2.2.1) (Cv S w.heap.size z.2.2.1) (.slice asl n cs0) ps,?_,?_⟩
 .intro O J r
  refine⟨(0,Z,iv,J),⟨ce,eN V r.cj,jP Q7 (RJ iv) r,Qg,by rw[IT];exact RX.rel r W,QR.rel r W,hs.rel r hC W⟩,
   sbgn [] r⟩
 clear Q7 RX QR Qg hs V;rintro⟨i,Z,iv,w1⟩ ⟨N,V,Pm,Qg,RX,QR,hs⟩;dsimp only at N V Pm Qg RX QR hs ⊢;conv=>whnf
 apply bS<;>intro h
 .have h:=dL h;obtain⟨cs,Q4⟩:=gO Z i;obtain⟨q,VG⟩:=gO qs i;obtain⟨f,Xj⟩:=gO ps i;have hF:=RX.2 i cs q Q4 (ND VG);have hadd:mV p ps i q=q+p*f:=by simp[mV,List.getD,Xj]
  obtain⟨d1,e1,m1,k1,d2,e2,m2,k2,rfl,hF⟩:=hF;have hrlq:=hq q (aG VG);have hrlf:=hps f (aG Xj);obtain⟨ad,fcs,QV,YF,Qp⟩:=hs.load Xj;obtain⟨f1,g1,o1,u1,f2,g2,o2,u2,rfl,YF⟩:=YF;conv=>whnf
  refine⟨ad,QV,be,?_⟩;conv=>whnf
  refine⟨rC f1 g1 o1 u1 f2 g2 o2 u2,rfl,fun O J r j x E=>?_,?_⟩
  .have TO:=hs.rel r hC W;obtain⟨k2',k3⟩:=Qp j x E;have:=rls r hC k2';rw[aK,cd (w:=w1) (F:=J) (by rw[df,df];exact this)];exact k3
  conv=>whnf
  refine cW (cU (GT:=fun _ _ v _=>v=iV (rs f)) (fun O J r=>jE (rlo r W) (YF.rel r W)) ?_);rintro O wa v1 wb r L Pw rfl;replace QR:=QR.cS (K:=(wa.heap.size,wb.heap.size)::iv) r W L fun x E=>aD _ E;replace RX:=RX.cS (K:=(wa.heap.size,wb.heap.size)::iv) r W L fun x E=>aD _ E;replace hs:=hs.cS (K:=(wa.heap.size,wb.heap.size)::iv) r hC W L fun x E=>aD _ E;replace YF:=YF.cS (K:=(wa.heap.size,wb.heap.size)::iv) r W L fun x E=>aD _ E;replace hF:=hF.cS (K:=(wa.heap.size,wb.heap.size)::iv) r W L fun x E=>aD _ E;replace Pm:wb.ownsRow 0 T.dO 4 (.slice a n c) n Z.flatten:=ownsRow.cX (jP Pm (RJ iv) r) fun b A=>L.block b (by have:=Pq b A;have:=r.cZ;omega);replace V:w.grownBy wb _:=eN V Pw;clear r L Pw Qp;generalize (wa.heap.size,wb.heap.size)::iv=iv2 at*
  conv=>whnf
  apply bS<;>intro hz
  .conv=>whnf
   refine dP (idO 12) ?_;conv=>whnf
   obtain⟨g,rfl,QX⟩:=tG Pm RX Q4;refine⟨⟨g,0,none⟩,rfl,be,?_⟩;conv=>whnf
   refine⟨rC d1 e1 m1 k1 d2 e2 m2 k2,rfl,fun O J r j x E=>?_,?_⟩
   .have:=tG (jP Pm (RJ iv2) r) (RX.rel r W) Q4;obtain⟨g',Y,I⟩:=this;injection Y with Y;rw[<-Y]at I;exact I j x E
   conv=>whnf
   have Ts:=jl p f;refine cU (GT:=fun _ J v F=>cz F (Nf J F) v (p*f)) (fun O J r=>ns (rlo r W) (QR.rel r W) (YF.rel r W) be be) ?_;rintro O wa v1 wb r L Pw hP;have UF:=hP.ep (S:=S) r.cZ (iv:=(wa.heap.size,wb.heap.size)::iv2) aF;replace QR:=QR.cS (K:=(wa.heap.size,wb.heap.size)::iv2) r W L fun x E=>aD _ E;replace RX:=RX.cS (K:=(wa.heap.size,wb.heap.size)::iv2) r W L fun x E=>aD _ E;replace hs:=hs.cS (K:=(wa.heap.size,wb.heap.size)::iv2) r hC W L fun x E=>aD _ E;replace hF:=hF.cS (K:=(wa.heap.size,wb.heap.size)::iv2) r W L fun x E=>aD _ E;replace Pm:wb.ownsRow 0 T.dO 4 (.slice (some ⟨g,0,none⟩) n c) n Z.flatten:=ownsRow.cX (jP Pm (RJ iv2) r) fun b A=>L.block b (by have:=Pq b A;have:=r.cZ;omega);replace V:w.grownBy wb _:=eN V Pw;clear r L Pw hP YF QX;generalize (wa.heap.size,wb.heap.size)::iv2=Pu at*
   obtain⟨b5,a5,n5,c5,b6,a6,n6,c6,rfl⟩:=UF.shape;conv=>whnf
   refine cU (GT:=fun _ J v F=>cz F (Nf J F) v (q+p*f)) (fun O J r=>wy (rlo r W) (hF.rel r W) (UF.rel r W) be be) ?_;rintro O wc v2 wd r L Pw hQ;have hQN:=hQ.ep (S:=S) r.cZ (iv:=(wc.heap.size,wd.heap.size)::Pu) aF;replace QR:=QR.cS (K:=(wc.heap.size,wd.heap.size)::Pu) r W L fun x E=>aD _ E;replace RX:=RX.cS (K:=(wc.heap.size,wd.heap.size)::Pu) r W L fun x E=>aD _ E;replace hs:=hs.cS (K:=(wc.heap.size,wd.heap.size)::Pu) r hC W L fun x E=>aD _ E;replace Pm:wd.ownsRow 0 T.dO 4 (.slice (some ⟨g,0,none⟩) n c) n Z.flatten:=ownsRow.cX (jP Pm (RJ Pu) r) fun b A=>L.block b (by have:=Pq b A;have:=r.cZ;omega);replace V:w.grownBy wd _:=eN V Pw;clear r L Pw hQ UF hF;generalize (wc.heap.size,wd.heap.size)::Pu=QD at*
   obtain⟨b7,a7,n7,c7,b8,a8,n8,c8,rfl⟩:=hQN.shape;rw[<-hadd]at hQN;conv=>whnf
   refine⟨⟨g,0,none⟩,rfl,be,?_⟩;conv=>whnf
   intro O J r;have UG:=jP Pm (RJ QD) r;have hF5:=(hQN.rel r W).four;obtain⟨g',Sm,Py,RN,QW,QK⟩:=nT (nv:=rC b7 a7 n7 c7 b8 a8 n8 c8) UG rfl h rfl bv;injection Sm with Sm;injection Sm with Sm;subst Sm;have RM:=kq (cs:=rC b7 a7 n7 c7 b8 a8 n8 c8) RX.oy (show i<Z.length by omega);rw[RM]at RN;have Q6:∀x,Cv S w.heap.size QD x->(setCells J ⟨g,i*4,none⟩ (rC b7 a7 n7 c7 b8 a8 n8 c8)).heap[x]? =J.heap[x]? :=fun x E=>
    QW.block x (rlo r W x E) fun e=>YP QD g rfl (by injection e with e;rw[<-e];exact E)
   have Q9:(⟨g,0,none⟩:Addr).add ((i:Int).toNat*4)=⟨g,i*4,none⟩:=by rw[aK,dF,aS]
   have YQ:=((RX.rel r W).cX Q6).set (j:=i) (hF5.cX Q6);rw[Bw (f:=mV p ps) VG]at YQ;have YR:=(QR.rel r W).cX Q6;have YS:∀x,Cv C w.heap.size QD x->(setCells J ⟨g,i*4,none⟩ (rC b7 a7 n7 c7 b8 a8 n8 c8)).heap[x]? =J.heap[x]? :=fun x E=>
    QW.block x (rlo r hC x E) fun e=>hdis3 QD g rfl (by injection e with e;rw[<-e];exact E)
   have hs6:=(hs.rel r hC W).cX fun x E=>E.elim (YS x) (Q6 x);clear YS;replace V:w.grownBy (setCells J ⟨g,i*4,none⟩ (rC b7 a7 n7 c7 b8 a8 n8 c8)) (some g):=fD (eN V r.cj) QW;have Qk:=fun id b A U=>Rel.not r (fun _ h=>h) (RJ QD g rfl) id b A U;clear r RX QR hQN Pm UG hF5 Q6 RM QW hs;refine⟨by rw[Q9],fun k R=>by rw[Q9];exact Py k R,fun id b A U=>by rw[Q9];exact Qk id b A U,fun F RT=>?_⟩;have RT:F=setCells J ⟨g,i*4,none⟩ (rC b7 a7 n7 c7 b8 a8 n8 c8):=by rw[RT];exact congrArg (fun x=>setCells J x _) Q9
   rw[<-RT]at YQ YR RN V QK hs6;clear RT Py Qk;conv=>whnf
   refine inc i ?_;conv=>whnf
   intro I8 w3 r3
   exact⟨(i+1,Z.set i (rC b7 a7 n7 c7 b8 a8 n8 c8),QD,w3),⟨h,eN V r3.cj,jP RN (RJ QD) r3,by simpa using Qg,YQ.rel r3 W,YR.rel r3 W,hs6.rel r3 hC W⟩,
    sbgn [] r3,by dsimp only;omega⟩
  .have hf0:f=0:=by
    have:rs f=0:=by
     have Y:(rs f==0)=true:=by simpa using hz
     exact eq_of_beq Y
    exact Rat.num_eq_zero.1 (bo.1 this)
   have Pp:mV p ps i q=q:=by rw[hadd,hf0,bL,cI]
   conv=>whnf
   refine inc i ?_;conv=>whnf
   intro I8 w3 r3
   exact⟨(i+1,Z,iv2,w3),⟨h,eN V r3.cj,jP Pm (RJ iv2) r3,Qg,by rw[<-IU VG Pp];exact RX.rel r3 W,QR.rel r3 W,hs.rel r3 hC W⟩,
    sbgn [] r3,by dsimp only;omega⟩
 .have h:i=n:=by
   have:¬i<n:=by simpa using h
   omega
  subst h;conv=>whnf
  intro Id w5 r5;refine⟨rfl,eN V r5.cj,Z,jP Pm (RJ iv) r5,Qg,?_⟩;have:=(RX.rel r5 W).cV (S':=Nw S w w5) fun g V=>Cv.nw V r5
  rwa [<-VC,Kx]at this
end Go.Ex
namespace Go.Ex
variable{M:List (List Rat)}{s:List (List Rat)×List Nat}{cols h i n:Nat}
def dU(M:List (List Rat))(i c:Nat):Rat:=(M.getD i []).getD c 0
def gW(M:List (List Rat))(c:Nat):Nat->Nat->Nat
 |0,k=>k
 |f+1,k=>if dU M k c=0 then gW M c f (k+1)else k
def fM{α:Type}(d:α)(l:List α)(i j:Nat):List α:=(l.set i (l.getD j d)).set j (l.getD i d)
def EJ(p:Rat)(ps:List Rat)(j:Nat)(q:Rat):Rat:=q+p*ps.getD j 0
def du(M:List (List Rat))(at_ c i:Nat):List (List Rat):=M.mapIdx fun j r=>if j<i/\j≠at_ then r.mapIdx (EJ (-(r.getD c 0)) (M.getD at_ []))else r
def scaled(M:List (List Rat))(at_ c:Nat):List (List Rat):=M.set at_ ((M.getD at_ []).map (· *(1 / dU M at_ c)))
def e9(s:List (List Rat)×List Nat)(c:Nat):List (List Rat)×List Nat:=
 if s.2.length<s.1.length then
  let k:=gW s.1 c (s.1.length-s.2.length) s.2.length
  if k=s.1.length then s else
   let M1:=scaled (fM [] s.1 s.2.length k) s.2.length c
   (du M1 s.2.length c M1.length,s.2++[c])
 else s
def dG(M:List (List Rat))(cols:Nat):List (List Rat)×List Nat:=(List.range cols).foldl e9 (M,[])
theorem Ad{s:List (List Rat)×List Nat}(h:¬s.2.length<s.1.length):∀l:List Nat,l.foldl e9 s=s
 |[]=>rfl
 |c::r=>by
  rw[List.foldl_cons];have:e9 s c=s:=by rw[e9,aI h]
  rw[this];exact Ad h r
theorem fU{α:Type}(d:α)(l:List α)(i j:Nat):(fM d l i j).length=l.length:=by simp[fM]
theorem gh(M:List (List Rat))(a c i:Nat):(du M a c i).length=M.length:=by simp[du]
theorem jr(M:List (List Rat))(a c:Nat):(scaled M a c).length=M.length:=by simp[scaled]
theorem vj(s:List (List Rat)×List Nat)(c:Nat):(e9 s c).1.length=s.1.length:=by
 unfold e9;split
 .dsimp only
  split
  .rfl
  .dsimp only
   rw[gh,jr,fU]
 .rfl
theorem vl(M:List (List Rat))(c:Nat):∀f k,k<=gW M c f k/\gW M c f k<=k+f
 |0,k=>⟨aq _,aq _⟩
 |f+1,k=>by
  unfold gW;split
  .have:=vl M c f (k+1);omega
  .omega
theorem vo(M:List (List Rat))(c:Nat):∀f k,gW M c f k<k+f->dU M (gW M c f k) c≠0
 |0,k,h=>by simp[gW]at h
 |f+1,k,h=>by
  unfold gW at h ⊢;split
  .rename_i h0;rw[aM h0]at h;exact vo M c f (k+1) be
  .rename_i h0;exact h0
theorem AI{c f k:Nat}(h:dU M k c=0):gW M c (f+1) k=gW M c f (k+1):=by rw[gW,aM h]
theorem AM{c f k:Nat}(h:dU M k c≠0):gW M c (f+1) k=k:=by rw[gW,aI h]
theorem wB(M:List (List Rat))(a c:Nat):du M a c 0=M:=by
 apply bA;intro j;simp[du]
theorem ud(M:List (List Rat))(a c i:Nat):(du M a c i)[a]? =M[a]? :=by
 simp only[du,List.getElem?_mapIdx]
 cases M[a]? <;>simp
theorem Ae(M:List (List Rat))(a c i j:Nat)(h:i<=j):(du M a c i)[j]? =M[j]? :=by
 simp only[du,List.getElem?_mapIdx]
 cases M[j]? with
 |none=>rfl
 |some r=>simp;omega
theorem wC{a c:Nat}{r:List Rat}(h:M[i]? =some r)(Po:i≠a):(du M a c i).set i (r.mapIdx (EJ (-(r.getD c 0)) (M.getD a [])))=du M a c (i+1):=by
 apply bA;intro j;have N:=(aH.1 h).1;by_cases R0:i=j
 .subst R0;rw[aQ (by rw[gh];exact N)];simp[du,List.getElem?_mapIdx,h,Po]
 .rw[aZ R0];simp only[du,List.getElem?_mapIdx]
  have:(j<i)↔(j<i+1):=by omega
  simp[this]
theorem wD(M:List (List Rat))(a c:Nat):du M a c a=du M a c (a+1):=by
 apply bA;intro j;simp only[du,List.getElem?_mapIdx]
 have:(j<a/\j≠a)↔(j<a+1/\j≠a):=by omega
 simp[this]
def Ht(M:List (List Rat))(h:Nat):Prop:=∀r∈M,∀q∈r,rl q+1<=h
theorem Ht.mono{h':Nat}(H:Ht M h)(k:h<=h'):Ht M h':=fun r hr q hq=>aR (H r hr q hq) k
theorem Ht.at{r:List Rat}(H:Ht M h)(N:M[i]? =some r):∀q∈r,rl q+1<=h:=H r (aG N)
theorem Ht.swap{j:Nat}(H:Ht M h)(N:i<M.length)(hj:j<M.length):Ht (fM [] M i j) h:=by
 intro r hr;have:r∈M:=by
  unfold fM at hr;rcases bQ hr with Y|Y
  .rcases bQ Y with I|I
   .exact I
   .rw[I,List.getD,aE hj];exact bp hj
  .rw[Y,List.getD,aE N];exact bp N
 exact H r this
theorem EM:rl 1=1:=by decide
theorem uj{q:Rat}(h:q≠0):rl (1 / q)<=rl q+1:=by
 have:=Hj 1 h;rw[EM]at this;omega
theorem kl{r:List Rat}(H:∀q∈r,rl q+1<=h)(I:2<=h)(c:Nat):rl (r.getD c 0)+1<=h:=by
 rw[List.getD]
 cases hc:r[c]? with
 |none=>simp;exact aR bv I
 |some q=>simp;exact H q (aG hc)
theorem DG{j:Nat}(N:i<M.length)(hj:j<M.length):(fM [] M i j)[i]? =M[j]? :=by
 unfold fM;by_cases h:j=i
 .subst h;rw[aQ (by simpa using N),List.getD,aE N];rfl
 .rw[aZ h,aQ N,List.getD,aE hj];rfl
theorem vt{j c:Nat}(N:i<M.length)(hj:j<M.length):dU (fM [] M i j) i c=dU M j c:=by
 simp only[dU,List.getD,DG N hj]
theorem Ht.scaled{a c:Nat}(H:Ht M h)(I:2<=h)(ha:a<M.length)(h0:dU M a c≠0):
  (∀r,(scaled M a c)[a]? =some r->∀q∈r,rl q+1<=2*h)/\∀j r,j≠a->(scaled M a c)[j]? =some r->∀q∈r,rl q+1<=h:=by
 have hA:M[a]? =some M[a]:=aE ha;have Sj:M.getD a []=M[a]:=by rw[List.getD,hA];rfl
 refine⟨fun r hr q hq=>?_,fun j r hj hr q hq=>?_⟩
 .unfold Go.Ex.scaled at hr;rw[aQ ha]at hr;injection hr with hr;subst hr;obtain⟨p,hp,rfl⟩:=bE.1 hq;rw[Sj]at hp;have Y:=H.at hA p hp;have h3:=jl p (1 / dU M a c);have h4:=uj h0;have h5:=kl (H.at hA) I c;have h6:dU M a c=M[a].getD c 0:=by rw[dU,Sj]
  rw[h6]at h4 h3;rw[h6];omega
 .unfold Go.Ex.scaled at hr;rw[aZ (Ne.symm hj)]at hr;exact H.at hr q hq
theorem Ht.EN{a c:Nat}(hA:∀r,M[a]? =some r->∀q∈r,rl q+1<=2*h)(hB:∀j r,j≠a->M[j]? =some r->∀q∈r,rl q+1<=h)(I:2<=h):Ht (du M a c i) (4*h):=by
 intro r hr q hq;obtain⟨j,hj⟩:=az hr;simp only[du,List.getElem?_mapIdx,Option.map_eq_some_iff]at hj;obtain⟨r0,RW,hj⟩:=hj;split at hj
 .rename_i hc;subst hj;obtain⟨x,E⟩:=az hq;simp only[List.getElem?_mapIdx,Option.map_eq_some_iff]at E;obtain⟨q0,SB,rfl⟩:=E;have Y:=hB j r0 hc.2 RW q0 (aG SB);have h3:=kl (hB j r0 hc.2 RW) I c;have h4:rl ((M.getD a []).getD x 0)+1<=2*h:=by
   cases hM:M[a]? with
   |none=>
    have:M.getD a []=[]:=by rw[List.getD,hM];rfl
    rw[this];show rl 0+1<=_;exact aR bv (show 2<=2*h by omega)
   |some ra=>
    have:M.getD a []=ra:=by rw[List.getD,hM];rfl
    rw[this];exact kl (hA ra hM) be x
  unfold EJ;have h5:=Ac q0 (-(r0.getD c 0)*(M.getD a []).getD x 0);have h6:=jl (-(r0.getD c 0)) ((M.getD a []).getD x 0);have h7:=kj (r0.getD c 0);omega
 .subst hj;by_cases Zo:j=a
  .subst Zo;have:=hA r0 RW q hq;omega
  .have:=hB j r0 Zo RW q hq;omega
def Inv(M:List (List Rat))(cols h0:Nat)(s:List (List Rat)×List Nat):Prop:=s.1.length=M.length/\s.2.length<=M.length/\(∀p∈s.2,p<cols)/\Ht s.1 (4^s.2.length*h0)
theorem Inv.step{h0 c:Nat}(h:Inv M cols h0 s)(hc:c<cols)(I:2<=h0):Inv M cols h0 (e9 s c):=by
 obtain⟨Y,h3,h4,h5⟩:=h;unfold e9;split
 .rename_i QZ;dsimp only
  split
  .exact⟨Y,h3,h4,h5⟩
  .rename_i R;have hle:=vl s.1 c (s.1.length-s.2.length) s.2.length;have WX:gW s.1 c (s.1.length-s.2.length) s.2.length<s.1.length:=by omega
   have Po:=vo s.1 c (s.1.length-s.2.length) s.2.length be;have WY:2<=4^s.2.length*h0:=aR I (Nat.le_mul_of_pos_left _ (Nat.pow_pos bv));have h6:=h5.swap QZ WX;have h7:=h6.scaled (a:=s.2.length) (c:=c) WY (by rw[fU];exact QZ) (by rw[vt QZ WX];exact Po);refine⟨by dsimp only;rw[gh,jr,fU,Y],by simp;omega,fun p hp=>?_,?_⟩
   .dsimp only at hp;rcases bB.1 hp with hp|hp
    .exact h4 p hp
    .simp at hp;omega
   .dsimp only
    have:4^(s.2++[c]).length*h0=4*(4^s.2.length*h0):=by
     rw[aV,List.length_singleton,Nat.pow_succ,bc (4^s.2.length) 4,bu]
    rw[this];exact Ht.EN h7.1 h7.2 WY
 .exact⟨Y,h3,h4,h5⟩
theorem lz{h0:Nat}(h:Ht M h0)(I:2<=h0):Inv M cols h0 (dG M cols):=by
 have key:∀(l:List Nat) (s:List (List Rat)×List Nat),(∀c∈l,c<cols)->Inv M cols h0 s->Inv M cols h0 (l.foldl e9 s):=by
  intro l
  induction l with
  |nil=>intro s _ hs;exact hs
  |cons c r ih=>
   intro s hc hs;rw[List.foldl_cons];exact ih _ (fun x E=>hc x (aD _ E)) (hs.step (hc c aF) I)
 exact key _ _ (fun c hc=>List.mem_range.1 hc) ⟨rfl,ae _,ce,by simpa using h⟩
def iq(n:Nat)(M:List (List Rat)):Prop:=∀r∈M,r.length=n
theorem iq.set{r:List Rat}(h:iq n M)(hr:r.length=n):iq n (M.set i r):=fun x E=>by
 rcases bQ E with Y|Y
 .exact h x Y
 .rw[Y];exact hr
theorem iq.getD(h:iq n M)(N:i<M.length):(M.getD i []).length=n:=by
 rw[List.getD,aE N];exact h _ (bp N)
theorem iq.step{c:Nat}(h:iq n s.1):iq n (e9 s c).1:=by
 unfold e9;split
 .rename_i QZ;dsimp only
  split
  .exact h
  .rename_i R;have hle:=vl s.1 c (s.1.length-s.2.length) s.2.length;have WX:gW s.1 c (s.1.length-s.2.length) s.2.length<s.1.length:=by omega
   dsimp only
   generalize gW s.1 c (s.1.length-s.2.length) s.2.length=k at*
   have Y:iq n (fM [] s.1 s.2.length k):=(h.set (h.getD WX)).set (h.getD QZ);have I:iq n (scaled (fM [] s.1 s.2.length k) s.2.length c):=Y.set (by rw[aO];exact Y.getD (by rw[fU];exact QZ));intro r hr;obtain⟨j,hj⟩:=az hr;simp only[du,List.getElem?_mapIdx,Option.map_eq_some_iff]at hj;obtain⟨r0,RW,hj⟩:=hj;have h3:=I r0 (aG RW);split at hj
   .subst hj;rw[List.length_mapIdx];exact h3
   .subst hj;exact h3
 .exact h
theorem yM(h:iq n M):iq n (dG M cols).1:=by
 have key:∀(l:List Nat) (s:List (List Rat)×List Nat),iq n s.1->iq n (l.foldl e9 s).1:=by
  intro l
  induction l with
  |nil=>intro s hs;exact hs
  |cons c r ih=>intro s hs;exact ih _ hs.step
 exact key _ _ h
end Go.Ex
namespace Go.Ex
open Go Go.Sx Go.Proofs
variable{qs':List Rat}{i:Nat}
structure jD(w:World)(S:Nat->Prop)(vm:Value)(rv:List Value)(n:Nat)(M:List (List Rat)):Prop where
 out:w.ownsRow 0 T.row 1 vm rv.length rv
 len:rv.length=M.length
 row:∀(i:Nat) v qs,rv[i]? =some v->M[i]? =some qs->∃Z,w.ownsRow 0 T.dO 4 v n Z.flatten/\Z.length=n/\Fr w S Z qs
 HZ:∀(i j:Nat) a b g,rv[i]? =some a->rv[j]? =some b->a.ownBlock=some g->b.ownBlock=some g->i=j
 Gk:∀v∈rv,∀g,v.ownBlock=some g->vm.ownBlock≠some g
def Mb(vm:Value)(rv:List Value)(g:Nat):Prop:=vm.ownBlock=some g\/∃v∈rv,v.ownBlock=some g
structure Kept(w F:World)(X:Nat->Prop):Prop where
 os:F.os=w.os
 tape:F.tape=w.tape
 output:F.output=w.output
 size:w.heap.size<=F.heap.size
 block:∀k,k<w.heap.size->¬X k->F.heap[k]? =w.heap[k]?
section
variable{S S' X:Nat->Prop}{H:Hp}{nx n:Nat}{iv K:Iv}{B:Nat}{w J F w3:World}{O:Nat->Sx.eH}{vm:Value}{rv:List Value}{M:List (List Rat)}
theorem Kept.refl:Kept w w X:=⟨rfl,rfl,rfl,lr,fun _ _ _=>rfl⟩
theorem Kept.trans(h:Kept w F X)(k:Kept F w3 X):Kept w w3 X:=
 ⟨k.os.trans h.os,k.tape.trans h.tape,k.output.trans h.output,aR h.size k.size,fun j hj E=>(k.block j (Nat.lt_of_lt_of_le hj h.size) E).trans (h.block j hj E)⟩
theorem Kept.cj(h:Bel B F w3)(k:Kept w F X)(hB:w.heap.size<=B):Kept w w3 X:=
 ⟨h.os.trans k.os,h.tape.trans k.tape,h.output.trans k.output,aR k.size h.size,fun j hj E=>(h.block j be).trans (k.block j hj E)⟩
theorem Kept.row{row:Option Nat}(h:Kept w F X)(k:F.grownBy w3 row)(hX:∀g,row=some g->X g):Kept w w3 X:=
 ⟨k.os.trans h.os,k.tape.trans h.tape,k.output.trans h.output,aR h.size k.size,fun j hj E=>(k.block j (Nat.lt_of_lt_of_le hj h.size) (fun e=>E (hX j e.symm))).trans (h.block j hj E)⟩
theorem jD.cX(h:jD w S vm rv n M)(R:∀g,S g\/Mb vm rv g->F.heap[g]? =w.heap[g]?):jD F S vm rv n M:=by
 refine⟨ownsRow.cX h.out fun g V=>R g (.inr (.inl V)),h.len,fun i v qs Y I=>?_,h.HZ,h.Gk⟩;obtain⟨Z,h3,h4,h5⟩:=h.row i v qs Y I;exact⟨Z,ownsRow.cX h3 fun g V=>R g (.inr (.inr ⟨v,aG Y,V⟩)),h4,h5.cX fun g V=>R g (.inl V)⟩
theorem jD.cV(h:jD w S vm rv n M)(R:∀g,S g->S' g):jD w S' vm rv n M:=
 ⟨h.out,h.len,fun i v qs Y I=>(h.row i v qs Y I).imp fun _ h=>⟨h.1,h.2.1,h.2.2.cV R⟩,h.HZ,h.Gk⟩
theorem jD.low(h:jD w S vm rv n M):∀g,Mb vm rv g->g<w.heap.size:=fun g V=>by
 rcases V with V|⟨v,hv,V⟩
 .exact(ownsRow.low h.out g V).2
 .obtain⟨i,N⟩:=az hv;have hl:=(aH.1 N).1;obtain⟨Z,Y,_⟩:=h.row i v _ N (aE (by rw[<-h.len];exact hl));exact(ownsRow.low Y g V).2
theorem jD.rel(h:jD w (Cv S B iv) vm rv n M)(r:Rel H nx iv B w O J)(W:∀g,S g->g<B)(hm:∀g,Mb vm rv g->g<B):jD J (Cv S B iv) vm rv n M:=
 h.cX fun _ V=>V.elim (rls r W) (fun V=>rls (S:=fun g=>g<B) r (fun _ h=>h) (.inl (hm _ V)))
theorem jD.cS(h:jD w (Cv S B iv) vm rv n M)(r:Rel H nx iv B w O J)(W:∀g,S g->g<B)(hm:∀g,Mb vm rv g->g<B)(L:Ext J F)(N:∀p,p∈iv->p∈K):jD F (Cv S B K) vm rv n M:=
 ((h.rel r W hm).cX fun g V=>L.block g (V.elim (rlo r W g) (oS hm r g))).cV fun _ V=>V.mono N
theorem jD.setRow(h:jD w S vm rv n M)(W:Old S w)(Rx:∀g,S g->¬Mb vm rv g){v:Value}(hv:rv[i]? =some v)(V:w.grownBy F v.ownBlock)(hSS:∀g,S g->S' g)
  (Pm:∃Z,F.ownsRow 0 T.dO 4 v n Z.flatten/\Z.length=n/\Fr F S' Z qs'):jD F S' vm rv n (M.set i qs'):=by
 have Pq:=h.low;have RU:∀g,g<w.heap.size->v.ownBlock≠some g->F.heap[g]? =w.heap[g]? :=fun g Y I=>V.block g Y (Ne.symm I);refine⟨ownsRow.cX h.out fun g Sd=>RU g (Pq g (.inl Sd)) (fun e=>h.Gk v (aG hv) g e Sd),by rw[h.len];simp,fun j u qs Y I=>?_,h.HZ,h.Gk⟩;by_cases R0:i=j
 .subst R0;rw[hv]at Y;injection Y with Y;subst Y;have hl:=(aH.1 hv).1;rw[aQ (by rw[<-h.len];exact hl)]at I;injection I with I;subst I;exact Pm
 .rw[aZ R0]at I;obtain⟨Z,h3,h4,h5⟩:=h.row j u qs Y I;refine⟨Z,ownsRow.cX h3 fun g hgu=>RU g (ownsRow.low h3 g hgu).2 (fun e=>R0 (h.HZ i j v u g hv Y e hgu)),h4,(h5.cX fun g hgs=>?_).cV hSS⟩;exact RU g (W g hgs) fun e=>Rx g hgs (.inr ⟨v,aG hv,e⟩)
theorem jD.swap(h:jD w S vm rv n M)(Rx:∀g,S g->¬Mb vm rv g){j:Nat}{a b:Value}(N:rv[i]? =some a)(hj:rv[j]? =some b)(RJ:F.ownsRow 0 T.row 1 vm rv.length ((rv.set i b).set j a))(RU:∀g,S g\/Mb vm rv g->vm.ownBlock≠some g->F.heap[g]? =w.heap[g]?):
  jD F S vm ((rv.set i b).set j a) n (fM [] M i j):=by
 have Ud:=(aH.1 N).1;have TM:=(aH.1 hj).1;have hmi:M.getD i []=M[i]'(by rw[<-h.len];exact Ud):=by rw[List.getD,aE (by rw[<-h.len];exact Ud)];rfl
 have hmj:M.getD j []=M[j]'(by rw[<-h.len];exact TM):=by rw[List.getD,aE (by rw[<-h.len];exact TM)];rfl
 have key:∀k v qs,((rv.set i b).set j a)[k]? =some v->(fM [] M i j)[k]? =some qs->∃k',rv[k']? =some v/\M[k']? =some qs/\k'=(if k=j then i else if k=i then j else k):=by
  intro k v qs Y I;unfold fM at I;rw[hmi,hmj]at I;by_cases Vw:j=k
  .subst Vw;rw[aQ (by simp;exact TM)]at Y;rw[aQ (by simp;rw[<-h.len];exact TM)]at I;injection Y with Y;injection I with I;subst Y I;exact⟨i,N,aE _,ce⟩
  .rw[aZ Vw]at Y I;by_cases Va:i=k
   .subst Va;rw[aQ Ud]at Y;rw[aQ (by rw[<-h.len];exact Ud)]at I;injection Y with Y;injection I with I;subst Y I;exact⟨j,hj,aE _,by rw[aI (Ne.symm Vw),aM rfl]⟩
   .rw[aZ Va]at Y I;exact⟨k,Y,I,by rw[aI (Ne.symm Vw),aI (Ne.symm Va)]⟩
 have hlen:((rv.set i b).set j a).length=rv.length:=by simp
 have hlenM:(fM [] M i j).length=rv.length:=by rw[fU,h.len]
 have keyv:∀k v,((rv.set i b).set j a)[k]? =some v->∃k',rv[k']? =some v/\k'=(if k=j then i else if k=i then j else k):=fun k v Y=>by
  have hl:=(aH.1 Y).1;obtain⟨k',I,_,h3⟩:=key k v _ Y (aE (by rw[hlenM,<-hlen];exact hl));exact⟨k',I,h3⟩
 refine⟨by rw[hlen];exact RJ,by rw[hlen,hlenM],fun k v qs Y I=>?_,fun k1 k2 v1 v2 g Y I e1 e2=>?_,fun v hv g hgv=>?_⟩
 .obtain⟨k',h3,h4,_⟩:=key k v qs Y I;obtain⟨Z,h5,h6,h7⟩:=h.row k' v qs h3 h4;have hvm:=h.Gk v (aG h3);exact⟨Z,ownsRow.cX h5 fun g hgu=>RU g (.inr (.inr ⟨v,aG h3,hgu⟩)) (hvm g hgu),h6,h7.cX fun g hgs=>RU g (.inl hgs) fun e=>Rx g hgs (.inl e)⟩
 .obtain⟨k3,h3,h4⟩:=keyv k1 v1 Y;obtain⟨k5,h5,h6⟩:=keyv k2 v2 I;have:=h.HZ k3 k5 v1 v2 g h3 h5 e1 e2;split at h4<;>split at h6<;>(try split at h4)<;>(try split at h6)<;>omega
 .obtain⟨k,R⟩:=az hv;obtain⟨k',h3,_⟩:=keyv k v R;exact h.Gk v (aG h3) g hgv
theorem Mb.swap{j:Nat}{a b:Value}(N:rv[i]? =some a)(hj:rv[j]? =some b){g:Nat}:Mb vm ((rv.set i b).set j a) g↔Mb vm rv g:=by
 have Ud:=(aH.1 N).1;have TM:=(aH.1 hj).1;unfold Mb;refine or_congr Iff.rfl ⟨fun ⟨v,hv,h⟩=>⟨v,?_,h⟩,fun⟨v,hv,h⟩=>⟨v,?_,h⟩⟩
 .rcases bQ hv with Y|Y
  .rcases bQ Y with I|I
   .exact I
   .rw[I];exact aG hj
  .rw[Y];exact aG N
 .obtain⟨k,R⟩:=az hv;by_cases Vw:k=j
  .subst Vw;rw[hj]at R;injection R with R;subst R;by_cases hik:i=k
   .subst hik;rw[N]at hj;injection hj with hj;subst hj;exact aG (i:=i) (by rw[aQ (by simp;exact Ud)])
   .exact aG (i:=i) (by rw[aZ (Ne.symm hik),aQ Ud])
  .by_cases Va:k=i
   .subst Va;rw[N]at R;injection R with R;subst R;exact aG (i:=j) (by rw[aQ (by simp;exact TM)])
   .exact aG (i:=k) (by rw[aZ (Ne.symm Vw),aZ (Ne.symm Va)];exact R)
end
end Go.Ex
namespace Go.Sx
open Go Go.Ex Go.Proofs
section
variable{O:Nat->Sx.eH}
theorem Rel.xD{H:Hp}{nx:Nat}{iv:Iv}{B:Nat}{w J F:World}{row:Option Nat}(r:Rel H nx iv B w O J)(Po:∀g,row=some g->∀id b,dV H id=some b->(O id).nil=false->(O id).g≠g)(h:J.grownBy F row):Rel H nx ((J.heap.size,F.heap.size)::iv) B F O F:=
 r.Cz h.size (fun id b A U=>h.block _ (r.low id b A U).2 fun e=>Po _ e.symm id b A U rfl) fun lo N hm=>by
  rcases List.mem_cons.1 hm with e|hm
  .injection e with e1 e2;subst e1 e2;exact⟨lr,fun id b A U=>by have:=(r.low id b A U).2;omega⟩
  .exact⟨by have:=r.oc lo N hm;have:=r.size;have:=h.size;omega,fun id b A U=>r.jU lo N hm id b A U⟩
end
variable{O:Nat->Sx.eH}
theorem Sub.nil{B nx:Nat}{l:Env}{H:Hp}{iv:Iv}{w J:World}{t:Fg}(u e sz:Nat)(h9:fZ l u=some (sV none 0 0))(UP:jn nx l)(r:Rel H nx iv B w O J)
  (h:∀I9,Rel ((nx,.vec e sz [])::H) (nx+1) iv B w I9 J->Sx.Sub B ((u,.o (.w nx 0))::l) (nx+1) I9 J t):Sx.Sub B l nx O J t:=by
 have r1:=r.push (.vec e sz []) ⟨0,0,true⟩ (F:=J) rfl rfl rfl lr (fun _ _=>rfl) (fun h=>by cases h) (.inl ⟨rfl,rfl⟩) trivial;obtain⟨F',Y,I⟩:=h _ r1;refine⟨F',Y,fun x v hv=>?_⟩;obtain⟨h3,v0,h4,h5⟩:=I x v hv;refine⟨h3,?_⟩;rw[fE]at h4;split at h4
 .rename_i e;subst e;injection h4 with h4;subst h4;refine⟨_,h9,?_⟩;rw[<-h5];simp[SV.den,At.den,fj]
 .refine⟨v0,h4,?_⟩;rw[<-h5];exact SV.nI (fun id RE=>iO id RE) (UP.get _ _ h4)
end Go.Sx
namespace Go.Ex
open Go Go.Sx Go.Proofs
section
variable{M:List (List Rat)}{qs:List Rat}{rv:List Value}{k n:Nat}{S:Nat->Prop}{O:Nat->Sx.eH}{am:Option Addr}{v vm:Value}{w:World}
theorem kv{H:Hp}{nx:Nat}{iv:Iv}{B:Nat}{J:World}{a:Addr}{x:Value}(h:w.cell? a=some x)(A:Out B iv a.block)(r:Rel H nx iv B w O J):J.cell? a=some x:=by
 rw[cd (rls r (fun _ h=>h) A)];exact h
structure aBL(w:World)(S:Nat->Prop)(rv:List Value)(n:Nat)(M:List (List Rat))(gm k c g ck:Nat)(q:Rat)(d1:Bool)(e1:Option Addr)(m1 k1:Nat)(d2:Bool)(e2:Option Addr)(m2 k2:Nat):Prop where
 rv:rv[k]? =some (.slice (some ⟨g,0,none⟩) n ck)
 at_:dU M k c=q
 aAS:cz w S (.agg #[.bool d1,.slice e1 m1 k1,.bool d2,.slice e2 m2 k2]) q
 outer:w.cell? (Addr.add ⟨gm,0,none⟩ (k*1))=some (.slice (some ⟨g,0,none⟩) n ck)
 cells:∀j u,[Value.bool d1,.slice e1 m1 k1,.bool d2,.slice e2 m2 k2][j]? =some u->w.cell? ((Addr.add ⟨g,0,none⟩ (c*4)).add j)=some u
theorem jD.outer{F9 cm:Nat}(h:jD w S (.slice am F9 cm) rv n M)(R:rv[k]? =some v):
  ∃gm,am=some ⟨gm,0,none⟩/\w.cell? (Addr.add ⟨gm,0,none⟩ (k*1))=some v:=by
 rcases h.out.2 with⟨Y,h0⟩|⟨gm,cap,cur,e,_⟩
 .have:=(aH.1 R).1;omega
 .injection e with e1 e2 e3;refine⟨gm,e1,?_⟩;have:=h.out.cells (g:=gm) (by rw[e1];rfl) k v R;rw[av];exact this
theorem jD.elem{F9 cm:Nat}(h:jD w S (.slice am F9 cm) rv n M){c:Nat}(R:k<rv.length)(hc:c<n):
  ∃gm g ck q d1 e1 m1 k1 d2 e2 m2 k2,am=some ⟨gm,0,none⟩/\aBL w S rv n M gm k c g ck q d1 e1 m1 k1 d2 e2 m2 k2:=by
 obtain⟨v,hv⟩:=gO rv k;obtain⟨qs,Ym⟩:∃qs,M[k]? =some qs:=⟨_,aE (by rw[<-h.len];exact R)⟩
 obtain⟨Z,Pm,Qg,RX⟩:=h.row k v qs hv Ym;obtain⟨a,ck,rfl,_⟩:=ef Pm;obtain⟨cs,Q4⟩:=gO Z c;obtain⟨q,hq⟩:∃q,qs[c]? =some q:=⟨_,aE (by rw[<-RX.1];omega)⟩
 obtain⟨g,rfl,QX⟩:=tG Pm RX Q4;obtain⟨d1,e1,m1,k1,d2,e2,m2,k2,rfl,hF⟩:=RX.2 c cs q Q4 hq;obtain⟨gm,rfl,ho⟩:=h.outer hv;exact⟨gm,g,ck,q,d1,e1,m1,k1,d2,e2,m2,k2,rfl,hv,by simp[dU,List.getD,Ym,hq],hF,ho,QX⟩
theorem Ez{α:Type}{xs:List α}{j:Nat}{v:α}(h:j<xs.length):xs.take (j*1)++[v]++xs.drop (j*1+1)=xs.set j v:=by
 rw[av,List.set_eq_take_append_cons_drop,aM h];simp
theorem jD.aBe(h:jD w S vm rv n M)(hv:rv[k]? =some v)(hq:M[k]? =some qs)(U:n<=maxLen):
  eF w (fun g=>v.ownBlock=some g) S v qs/\qs.length=n:=by
 obtain⟨Z,Y,I,h3⟩:=h.row k v qs hv hq;have hl:qs.length=n:=by rw[<-h3.1,I]
 refine⟨⟨Z,?_,h3⟩,hl⟩;rw[hl];rcases Y.2 with⟨rfl,rfl⟩|⟨g,cap,cur,rfl,A,hc,SR,RO,QK,R7⟩
 .refine⟨U,Y.1,h3.one,none,0,rfl,lr,fun j u hu=>?_⟩;have:=Y.1;rw[Nat.zero_mul]at this;rw[List.eq_nil_of_length_eq_zero this]at hu
  cases hu
 .refine⟨U,Y.1,h3.one,_,cap,rfl,SR,fun j u hu=>⟨_,rfl,rfl,?_⟩⟩;exact Y.cells (g:=g) rfl j u hu
theorem NF{cols h0:Nat}(W:Old S w)(hM:jD w S vm rv n M)(Rx:∀g,S g->¬Mb vm rv g)(U:n<=1000000)(hR:M.length<=1000000)(TZ:cols<=n)
  (TX:Ht M h0) (I:2<=h0) (A:4^M.length*h0<=500000000):
  eL PG FS.wU #[vm,iV cols] w (fun e F=>∃v rv',e= .returned v/\Kept w F (Mb vm rv)/\jD F (Nw S w F) vm rv' n (dG M cols).1/\(∀g,Mb vm rv' g↔Mb vm rv g)/\
   fe F (Nf w F) 1 v ((dG M cols).2.map fun c:Nat=>iV (c:Int)) (dG M cols).2.length):=by
 have Pq:=hM.low;have RZ:∀iv g,Mb vm rv g->Out w.heap.size iv g:=fun iv g V=>.inl (Pq g V);have Vk:∀iv g,Cv S w.heap.size iv g->¬Mb vm rv g:=fun iv g h V=>by
  rcases h with h|⟨h,_⟩
  .exact Rx g h V
  .have:=Pq g V;omega
 obtain⟨am,cm,rfl,SF⟩:=ef hM.out;have hlen:=hM.len;generalize hRdef:rv.length=F9 at*
 have hMl:=hlen;replace hM:=hM.cV (S':=Cv S w.heap.size []) fun _ h=>.inl h;refine zI ce ?_;conv=>whnf
 refine⟨Nat×List Value×List (List Rat)×List Nat×Iv×World,fun z=>⟨[(0,sV am F9 cm),(1,iZ cols),(5,.o (.w 0 z.2.2.2.1.length)),(6,iZ z.1)],
   [(0,.vec T.int 1 (z.2.2.2.1.map fun c:Nat=>iV (c:Int)))],1,z.2.2.2.2.1,z.2.2.2.2.2⟩,fun z=>cols-z.1,
  fun z=>z.1<=cols/\Kept w z.2.2.2.2.2 (Mb (.slice am F9 cm) rv)/\jD z.2.2.2.2.2 (Cv S w.heap.size z.2.2.2.2.1) (.slice am F9 cm) z.2.1 n z.2.2.1/\(∀g,Mb (.slice am F9 cm) z.2.1 g↔Mb (.slice am F9 cm) rv g)/\
   z.2.1.length=F9/\(z.2.2.1,z.2.2.2.1)=(List.range z.1).foldl e9 (M,[])/\z.2.2.2.1.length<=F9/\Ht z.2.2.1 (4^z.2.2.2.1.length*h0),?_,?_⟩
 .intro O J r
  refine⟨(0,rv,M,[],[],J),⟨ce,Kept.refl.cj r.cj lr,hM.rel r W Pq,fun g=>Iff.rfl,hRdef,rfl,ce,by simpa using TX⟩,Sub.nil 5 T.int 1 rfl (by simp[jn,SV.sc,At.sc,fu]) r fun I9 r1=>
   sbgn [] r1⟩
 clear hM;rintro⟨c,rv1,M1,pv,iv,w1⟩ ⟨hc,hK,hM,Tj,QO,Se,QQ,hht1⟩;dsimp only at hc hK hM Tj QO Se QQ hht1 ⊢;have hlM:M1.length=F9:=by rw[<-hM.len,QO]
 have UZ:w1.ownsRow 0 T.row 1 (.slice am F9 cm) F9 rv1:=by have:=hM.out;rwa [QO]at this
 have htot:cols<=c\/F9<=pv.length->(M1,pv)=dG M cols:=fun h=>by
  unfold dG;rcases h with h|h
  .have:c=cols:=by omega
   rw[Se,this]
  .have h3:List.range cols=List.range c++(List.range (cols-c)).map (c+ ·):=by
    rw[<-List.range_add];congr 1;omega
   rw[h3,List.foldl_append,<-Se,Ad (by simp only;omega)]
 conv=>whnf
 apply bS<;>intro h
 .have h:=dL h;conv=>whnf
  refine⟨ce,?_⟩;conv=>whnf
  apply bS<;>intro hp
  .have hp:pv.length<F9:=by simpa using hp
   have RA:∀{v:Value} {k gx:Nat},rv1[k]? =some v->v.ownBlock=some gx->Mb (.slice am F9 cm) rv gx:=fun Y I=>(Tj _).1 (.inr ⟨_,aG Y,I⟩);conv=>whnf
   refine⟨ce,?_⟩;conv=>whnf
   refine⟨Nat×Iv×World,fun z=>⟨[(0,sV am F9 cm),(1,iZ cols),(5,.o (.w 0 pv.length)),(6,iZ c),(7,iZ pv.length),(8,iZ z.1)],
     [(0,.vec T.int 1 (pv.map fun c:Nat=>iV (c:Int)))],1,z.2.1,z.2.2⟩,fun z=>F9-z.1,
    fun z=>pv.length<=z.1/\z.1<=F9/\Kept w z.2.2 (Mb (.slice am F9 cm) rv)/\jD z.2.2 (Cv S w.heap.size z.2.1) (.slice am F9 cm) rv1 n M1/\gW M1 c (F9-z.1) z.1=gW M1 c (F9-pv.length) pv.length,?_,?_⟩
   .intro O J r
    exact⟨(pv.length,iv,J),⟨lr,by dsimp only;omega,hK.cj r.cj lr,hM.rel r W (fun g V=>Pq g ((Tj g).1 V)),rfl⟩,
     sbgn [] r⟩
   clear hK hM UZ;rintro⟨k,iv2,F⟩ ⟨Ua,hkR,hK,hM,hfk⟩;dsimp only at Ua hkR hK hM hfk ⊢;conv=>whnf
   apply bS<;>intro R
   .have R:=dL R;obtain⟨gm,g,ck,q,d1,e1,m1,k1,d2,e2,m2,k2,rfl,hE⟩:=hM.elem (k:=k) (c:=c) be be;have Yn:=RA hE.rv rfl;conv=>whnf
    refine⟨⟨gm,0,none⟩,rfl,be,?_⟩;conv=>whnf
    refine⟨.slice (some ⟨g,0,none⟩) n ck,fun O J r=>kv hE.outer (RZ _ _ (.inl (by rw[df];rfl))) r,?_⟩;conv=>whnf
    refine⟨⟨g,0,none⟩,rfl,be,?_⟩;conv=>whnf
    refine⟨rC d1 e1 m1 k1 d2 e2 m2 k2,rfl,fun O J r j x E=>kv (hE.cells j x E) (RZ _ _ (by rw[df,df];exact Yn)) r,?_⟩;conv=>whnf
    refine cW (cU (GT:=fun _ _ v _=>v=iV (rs q)) (fun O J r=>jE (rlo r W) (hE.aAS.rel r W)) ?_);rintro O wa v1 wb r L Pw rfl;replace hM:=hM.cS (K:=(wa.heap.size,wb.heap.size)::iv2) r W (fun g V=>Pq g ((Tj g).1 V)) L fun x E=>aD _ E;replace hK:=hK.cj Pw lr;have hq:=hE.at_;clear r L Pw hE Yn;generalize (wa.heap.size,wb.heap.size)::iv2=Pu at*
    conv=>whnf
    apply bS<;>intro h0
    .have h0:q=0:=by
      have:rs q=0:=eq_of_beq h0;exact Rat.num_eq_zero.1 (bo.1 this)
     have RC:gW M1 c (F9-(k+1)) (k+1)=gW M1 c (F9-pv.length) pv.length:=by
      rw[<-hfk,show F9-k=(F9-(k+1))+1 by omega,AI (by rw[hq,h0])]
     conv=>whnf
     refine inc k ?_;conv=>whnf
     intro I8 w3 r3
     exact⟨(k+1,Pu,w3),⟨by dsimp only;omega,R,hK.cj r3.cj lr,hM.rel r3 W (fun g V=>Pq g ((Tj g).1 V)),RC⟩,
      sbgn [] r3,by dsimp only;omega⟩
    .have h0':q≠0:=fun e=>by rw[e]at h0;exact absurd h0 bv
     clear h0;have hfk2:gW M1 c (F9-pv.length) pv.length=k:=by
      rw[<-hfk,show F9-k=(F9-(k+1))+1 by omega,AM (by rw[hq];exact h0')]
     conv=>whnf
     apply bS<;>intro WV
     .exact absurd (eq_of_beq WV) be
     clear WV;conv=>whnf
     refine dP (idO 16) ?_;conv=>whnf
     obtain⟨vk,hvk⟩:=gO rv1 k;obtain⟨va,To⟩:=gO rv1 pv.length;obtain⟨_,Sd,Py⟩:=hM.outer hvk;injection Sd with Sd;injection Sd with Sd;subst Sd;obtain⟨_,Sd,hoa⟩:=hM.outer To;injection Sd with Sd;injection Sd with Sd;subst Sd;obtain⟨cssk,Ye,-,-⟩:=hM.row k vk M1[k] hvk (aE be);obtain⟨cssa,Sn,-,-⟩:=hM.row pv.length va M1[pv.length] To (aE be);obtain⟨ak,ck',rfl,-⟩:=ef Ye;obtain⟨aa,ca,rfl,-⟩:=ef Sn;clear Ye Sn;have WH:∀{iv x},Out w.heap.size iv ((Addr.add ⟨gm,0,none⟩ x).block):=fun{iv x}=>RZ _ _ (.inl (by rw[df];rfl));refine⟨⟨gm,0,none⟩,rfl,be,?_⟩;conv=>whnf
     refine⟨.slice ak n ck',fun O J r=>kv Py WH r,?_⟩;conv=>whnf
     refine⟨⟨gm,0,none⟩,rfl,be,?_⟩;conv=>whnf
     refine⟨.slice aa n ca,fun O J r=>kv hoa WH r,?_⟩;conv=>whnf
     refine⟨⟨gm,0,none⟩,rfl,be,?_⟩;conv=>whnf
     intro O J r;have ZO:(⟨gm,0,none⟩:Addr).add ((pv.length:Int).toNat*1)=⟨gm,pv.length*1,none⟩:=by rw[aK,dF,aS]
     have Q9:(⟨gm,0,none⟩:Addr).add ((k:Int).toNat*1)=⟨gm,k*1,none⟩:=by rw[aK,dF,aS]
     have hMw:=hM.rel r W (fun g V=>Pq g ((Tj g).1 V));obtain⟨g',Sm,VB,ZP,Wu,hsz1⟩:=nT (nv:=[.slice ak n ck']) hMw.out (by rw[QO]) (show pv.length<rv1.length by omega) rfl bv;injection Sm with Sm;injection Sm with Sm;subst Sm;rw[Ez be]at ZP;have Qk:=fun id b A U=>Rel.not (S:=fun g=>g<w.heap.size) r (fun _ h=>h) (RZ Pu gm (.inl rfl)) id b A U;have hgm1:gm<J.heap.size:=by have:=Pq gm (.inl rfl);have:=r.cZ;omega
     have hK1:Kept w (setCells J ⟨gm,pv.length*1,none⟩ [.slice ak n ck']) (Mb (.slice (some ⟨gm,0,none⟩) F9 cm) rv):=(hK.cj r.cj lr).row Wu (fun g V=>.inl V);have hold:∀g,Cv S w.heap.size Pu g\/Mb (.slice (some ⟨gm,0,none⟩) F9 cm) rv1 g->g<J.heap.size:=fun g V=>V.elim (rlo r W g) (fun V=>by have:=Pq g ((Tj g).1 V);have:=r.cZ;omega);clear hK hM Py hoa r;refine⟨by rw[ZO],fun j hj=>by rw[ZO];exact VB j hj,fun id b A U=>by rw[ZO];exact Qk id b A U,fun w4 QG=>?_⟩;have QG:w4=setCells J ⟨gm,pv.length*1,none⟩ [.slice ak n ck']:=by rw[QG];exact congrArg (fun x=>setCells J x _) ZO
     rw[<-QG]at hK1 ZP Wu hsz1;clear QG VB Qk;conv=>whnf
     refine⟨⟨gm,0,none⟩,rfl,be,?_⟩;conv=>whnf
     intro O w5 r;have hst2:=jP ZP (fun g V=>RZ Pu g (.inl V)) r;obtain⟨g',Sm,Wq,hst3,Wv,hsz2⟩:=nT (nv:=[.slice aa n ca]) hst2 (by rw[QO]) (show k<rv1.length by omega) rfl bv;injection Sm with Sm;injection Sm with Sm;subst Sm;rw[Ez (by simp;omega)]at hst3;have Qk:=fun id b A U=>Rel.not (S:=fun g=>g<w.heap.size) r (fun _ h=>h) (RZ Pu gm (.inl rfl)) id b A U;have TQ:Kept w (setCells w5 ⟨gm,k*1,none⟩ [.slice aa n ca]) (Mb (.slice (some ⟨gm,0,none⟩) F9 cm) rv):=(hK1.cj r.cj lr).row Wv (fun g V=>.inl V);have RU:∀g,Cv S w.heap.size Pu g\/Mb (.slice (some ⟨gm,0,none⟩) F9 cm) rv1 g->(Value.slice (some ⟨gm,0,none⟩) F9 cm).ownBlock≠some g->(setCells w5 ⟨gm,k*1,none⟩ [.slice aa n ca]).heap[g]? =J.heap[g]? :=fun g V Po=>by
      have VA:some g≠some gm:=fun e=>Po e.symm;have h3:w4.heap[g]? =J.heap[g]? :=Wu.block g (hold g V) VA;have h4:w5.heap[g]? =w4.heap[g]? :=V.elim (fun V=>rls r W V) (fun V=>rls (S:=fun g=>g<w.heap.size) r (fun _ h=>h) (RZ Pu g ((Tj g).1 V)));have h5:=Wv.block g (by have:=hold g V;have:=r.size;omega) VA;rw[h5,h4,h3]
     have UY:=hMw.swap (fun g V hm=>Vk Pu g V ((Tj g).1 hm)) To hvk hst3 RU;have TR:∀g,Mb (.slice (some ⟨gm,0,none⟩) F9 cm) ((rv1.set pv.length (.slice ak n ck')).set k (.slice aa n ca)) g↔Mb (.slice (some ⟨gm,0,none⟩) F9 cm) rv g:=fun g=>(Mb.swap To hvk).trans (Tj g);have US:((rv1.set pv.length (.slice ak n ck')).set k (.slice aa n ca)).length=F9:=by simp[QO]
     clear hK1 hMw ZP hst2 r RU hold Wu hst3 RA;refine⟨by rw[Q9],fun j hj=>by rw[Q9];exact Wq j hj,fun id b A U=>by rw[Q9];exact Qk id b A U,fun w6 hw6=>?_⟩;have hw6:w6=setCells w5 ⟨gm,k*1,none⟩ [.slice aa n ca]:=by rw[hw6];exact congrArg (fun x=>setCells w5 x _) Q9
     rw[<-hw6]at TQ UY;clear hw6 Wq Qk Wv hsz2 hsz1;have RG:dU (fM [] M1 pv.length k) pv.length c=q:=by rw[vt be be,hq]
     have hht2:=hht1.swap (i:=pv.length) (j:=k) be be;have Pt:e9 (M1,pv) c=(du (scaled (fM [] M1 pv.length k) pv.length c) pv.length c F9,pv++[c]):=by
      unfold e9;rw[aM (by dsimp only;omega)];dsimp only
      rw[hlM,hfk2,aI be,jr,fU,hlM]
     have Qu:(fM [] M1 pv.length k).length=F9:=by rw[fU,hlM]
     generalize (rv1.set pv.length (.slice ak n ck')).set k (.slice aa n ca)=rv2 at*
     generalize fM [] M1 pv.length k=M2 at*
     have RA:∀{v:Value} {k gx:Nat},rv2[k]? =some v->v.ownBlock=some gx->Mb (.slice (some ⟨gm,0,none⟩) F9 cm) rv gx:=fun Y I=>(TR _).1 (.inr ⟨_,aG Y,I⟩);conv=>whnf
     refine dP [.x 0,.x 1,.x 2,.x 3,.x 5,.x 6,.x 7,.x 8,.x 9,.x 10,.x 11,.x 4,.x 12,.x 13] ?_;conv=>whnf
     obtain⟨_,g,ck,q2,d1,e1,m1,k1,d2,e2,m2,k2,Sd,hE⟩:=UY.elem (k:=pv.length) (c:=c) be be;injection Sd with Sd;injection Sd with Sd;subst Sd;have Rq:q2=q:=by rw[<-hE.at_,RG]
     subst Rq;have Yn:=RA hE.rv rfl;refine⟨⟨gm,0,none⟩,rfl,be,?_⟩;conv=>whnf
     refine⟨.slice (some ⟨g,0,none⟩) n ck,fun O J r=>kv hE.outer WH r,?_⟩;conv=>whnf
     refine⟨⟨gm,0,none⟩,rfl,be,?_⟩;conv=>whnf
     refine⟨.slice (some ⟨g,0,none⟩) n ck,fun O J r=>kv hE.outer WH r,?_⟩;conv=>whnf
     refine⟨⟨g,0,none⟩,rfl,be,?_⟩;conv=>whnf
     refine⟨rC d1 e1 m1 k1 d2 e2 m2 k2,rfl,fun O J r j x E=>kv (hE.cells j x E) (RZ _ _ (by rw[df,df];exact Yn)) r,?_⟩;conv=>whnf
     have hwb0:Bel w.heap.size w6 w6:=Bel.refl;refine cU (GT:=fun _ J v F=>cz F (Nf J F) v (((1:Int):Rat))) (fun O J r=>iX 1 J bv bv) ?_;rintro O wa v1 wb' r L Pw hO;have Qh:=hO.ep (S:=S) r.cZ (iv:=(wa.heap.size,wb'.heap.size)::Pu) aF;have hF:=hE.aAS.cS (K:=(wa.heap.size,wb'.heap.size)::Pu) r W L fun x E=>aD _ E;replace UY:=UY.cS (K:=(wa.heap.size,wb'.heap.size)::Pu) r W (fun g V=>Pq g ((TR g).1 V)) L fun x E=>aD _ E;replace TQ:=TQ.cj Pw lr;have Ve:=hE.rv;clear r L Pw hO hE;generalize (wa.heap.size,wb'.heap.size)::Pu=QD at*
     obtain⟨b5,a5,n5,c5,b6,a6,n6,c6,rfl⟩:=Qh.shape;have SG:(((1:Int):Rat))=1:=rfl;rw[SG]at Qh;have hhq:rl q2+1<=4^pv.length*h0:=by
      have h3:dU M2 pv.length c=(M2.getD pv.length []).getD c 0:=rfl;rw[<-RG,h3];have h4:M2.getD pv.length []=M2[pv.length]' be:=by rw[List.getD,aE be];rfl
      rw[h4];exact kl (hht2.at (aE be)) (aR I (Nat.le_mul_of_pos_left _ (Nat.pow_pos bv))) c
     have hH4:4^(pv.length+1)*h0<=500000000:=aR (Nat.mul_le_mul_right _ (Nat.pow_le_pow_right bv be)) A;have ZQ:4^(pv.length+1)*h0=4*(4^pv.length*h0):=by rw[Nat.pow_succ,bc (4^pv.length) 4,bu]
     have WY:2<=4^pv.length*h0:=aR I (Nat.le_mul_of_pos_left _ (Nat.pow_pos bv));have UP:=hht2.scaled (a:=pv.length) (c:=c) WY be (by rw[RG];exact h0');generalize 4^pv.length*h0=hh at*
     conv=>whnf
     refine cU (GT:=fun _ J v F=>cz F (Nf J F) v (1 / q2)) (fun O J r=>JX (rlo r W) (Qh.rel r W) (hF.rel r W) bv be h0') ?_;rintro O wc v2 wd r L Pw hO;have UF:=hO.ep (S:=S) r.cZ (iv:=(wc.heap.size,wd.heap.size)::QD) aF;replace UY:=UY.cS (K:=(wc.heap.size,wd.heap.size)::QD) r W (fun g V=>Pq g ((TR g).1 V)) L fun x E=>aD _ E;replace TQ:=TQ.cj Pw lr;clear r L Pw hO Qh hF;generalize (wc.heap.size,wd.heap.size)::QD=QH at*
     obtain⟨b7,a7,n7,c7,b8,a8,n8,c8,rfl⟩:=UF.shape;conv=>whnf
     have hinv:=uj h0';have hMA:M2[pv.length]? =some (M2[pv.length]' be):=aE be;have hMAd:M2.getD pv.length []=M2[pv.length]' be:=by rw[List.getD,hMA];rfl
     have hqa:=hht2.at hMA;generalize hqsa:(M2[pv.length]' be)=qsa at*
     refine⟨fun O J r=>?_⟩;have YT:=UY.rel r W (fun g V=>Pq g ((TR g).1 V));obtain⟨Z,RP,S6,Wi⟩:=YT.row pv.length _ qsa Ve hMA;refine(wz (rlo r W) RP Wi S6 (UF.rel r W) (fun x E Qa=>Vk QH x Qa (RA Ve E)) (fun x E=>by have:=hqa x E;omega) be).mono fun e w4 L=>?_;obtain⟨rfl,QW,css',Xd,hr5,Xe⟩:=L;have hM3:=YT.setRow (S':=Nw (Cv S w.heap.size QH) J w4) (rlo r W) (fun x E Qa=>Vk QH x E ((TR x).1 Qa)) Ve QW (fun x E=>.inl E) ⟨css',Xd,hr5,Xe⟩;refine⟨.tuple #[],_,(J.heap.size,w4.heap.size)::QH,rfl,r.xD (fun x E=>Rel.not (S:=fun g=>g<w.heap.size) r (fun _ h=>h) (RZ QH x (RA Ve E))) QW,?_⟩;have ZM:=hM3.cV (S':=Cv S w.heap.size ((J.heap.size,w4.heap.size)::QH)) fun x E=>Nw.cv E r.cZ;have RM:M2.set pv.length (qsa.map (· *(1 / q2)))=scaled M2 pv.length c:=by unfold scaled;rw[hMAd,RG]
     rw[RM]at ZM;have hK4:Kept w w4 _:=(TQ.cj r.cj lr).row QW (fun x E=>RA Ve E);have RQ:(scaled M2 pv.length c).length=F9:=by rw[jr,Qu]
     clear TQ UY YT RP Wi Xd Xe hM3 QW r UF RM hMA hMAd;generalize (J.heap.size,w4.heap.size)::QH=Qe at*
     generalize scaled M2 pv.length c=M3 at*
     conv=>whnf
     refine⟨Nat×Iv×World,fun z=>⟨[(0,.o (.v (.slice (some ⟨gm,0,none⟩) F9 cm))),(1,iZ cols),(5,.o (.w 0 pv.length)),(6,iZ c),(7,iZ pv.length),(75,iZ F9),(76,iZ z.1)],
       [(0,.vec T.int 1 (pv.map fun c:Nat=>iV (c:Int)))],1,z.2.1,z.2.2⟩,fun z=>F9-z.1,
      fun z=>z.1<=F9/\Kept w z.2.2 (Mb (.slice (some ⟨gm,0,none⟩) F9 cm) rv)/\jD z.2.2 (Cv S w.heap.size z.2.1) (.slice (some ⟨gm,0,none⟩) F9 cm) rv2 n (du M3 pv.length c z.1),?_,?_⟩
     .intro O J r
      exact⟨(0,Qe,J),⟨by dsimp only;omega,hK4.cj r.cj lr,by rw[wB];exact ZM.rel r W (fun g V=>Pq g ((TR g).1 V))⟩,
       sbgn [] r⟩
     clear hK4 ZM;rintro⟨i,RS,w7⟩ ⟨N,hK,hM⟩;dsimp only at N hK hM ⊢;conv=>whnf
     apply bS<;>intro Qv
     .have Qv:=dL Qv;conv=>whnf
      apply bS<;>intro Po
      .have Po:i≠pv.length:=fun e=>by
        rw[e]at Po;simp at Po
       conv=>whnf
       refine dP [.x 0,.x 1,.x 2,.x 3,.x 4,.x 5,.x 6,.x 7,.x 8,.x 9,.x 10,.x 12,.x 13,.x 14,.x 15,.x 11,.x 16] ?_;conv=>whnf
       obtain⟨_,gi,ci,qi,d1',e1',m1',k1',d2',e2',m2',k2',Sd,hE⟩:=hM.elem (k:=i) (c:=c) be be;injection Sd with Sd;injection Sd with Sd;subst Sd;obtain⟨va2,YU⟩:=gO rv2 pv.length;obtain⟨_,Sd,hoa⟩:=hM.outer YU;injection Sd with Sd;injection Sd with Sd;subst Sd;obtain⟨ri,TP⟩:=gO M3 i;obtain⟨ra,Sn⟩:=gO M3 pv.length;have hri2:(du M3 pv.length c i)[i]? =some ri:=by rw[Ae M3 pv.length c i i lr];exact TP
       have hra2:(du M3 pv.length c i)[pv.length]? =some ra:=by rw[ud];exact Sn
       have hqd:(du M3 pv.length c i).getD i []=ri:=by rw[List.getD,hri2];rfl
       have VG:qi=ri.getD c 0:=by rw[<-hE.at_,dU,hqd]
       have hrad:M3.getD pv.length []=ra:=by rw[List.getD,Sn];rfl
       obtain⟨cssa,hraw,-,-⟩:=hM.row pv.length va2 ra YU hra2;obtain⟨aa2,ca2,rfl,-⟩:=ef hraw;clear hraw;have Yn:=RA hE.rv rfl;refine⟨⟨gm,0,none⟩,rfl,be,?_⟩;conv=>whnf
       refine⟨.slice (some ⟨gi,0,none⟩) n ci,fun O J r=>kv hE.outer WH r,?_⟩;conv=>whnf
       refine⟨⟨gm,0,none⟩,rfl,be,?_⟩;conv=>whnf
       refine⟨.slice (some ⟨gi,0,none⟩) n ci,fun O J r=>kv hE.outer WH r,?_⟩;conv=>whnf
       refine⟨⟨gi,0,none⟩,rfl,be,?_⟩;conv=>whnf
       refine⟨rC d1' e1' m1' k1' d2' e2' m2' k2',rfl,fun O J r j x E=>kv (hE.cells j x E) (RZ _ _ (by rw[df,df];exact Yn)) r,?_⟩;conv=>whnf
       refine⟨⟨gm,0,none⟩,rfl,be,?_⟩;conv=>whnf
       refine⟨.slice aa2 n ca2,fun O J r=>kv hoa WH r,?_⟩;conv=>whnf
       refine cU (GT:=fun _ J v F=>cz F (Nw (Cv S w.heap.size RS) J F) v (-qi)) (fun O J r=>mH (rlo r W) (hE.aAS.rel r W)) ?_;rintro O wa v1 wb' r L Pw hO;have UF:=hO.old r.cZ;replace hM:=hM.cS (K:=(wa.heap.size,wb'.heap.size)::RS) r W (fun g V=>Pq g ((TR g).1 V)) L fun x E=>aD _ E;replace hK:=hK.cj Pw lr;have XG:=hE.rv;clear r L Pw hO hE hoa;generalize (wa.heap.size,wb'.heap.size)::RS=Sw at*
       obtain⟨b9,a9,n9,c9,b10,a10,n10,c10,rfl⟩:=UF.shape;have hqs1:=UP.2 i ri Po TP;have hqs2:=UP.1 ra Sn;have XH:=kl hqs1 WY c;have hng:=kj (ri.getD c 0);rw[VG]at UF;conv=>whnf
       refine⟨fun O J r=>?_⟩;have YT:=hM.rel r W (fun g V=>Pq g ((TR g).1 V));obtain⟨Z,RP,S6,Wi⟩:=YT.row i _ ri XG hri2;obtain⟨Vi,UO⟩:=YT.aBe YU hra2 mx;refine(Jc (C:=fun g=>(Value.slice aa2 n ca2).ownBlock=some g) (fun x E=>by have:=YT.low x (.inr ⟨_,aG YU,E⟩);exact this) (rlo r W) RP Wi S6 (UF.rel r W) Vi UO (fun x E Qa=>Vk Sw x Qa (RA XG E)) (fun x E Qa=>Po (YT.HZ i pv.length _ _ x XG YU E Qa)) (fun x E=>by have:=hqs1 x E;omega) (fun x E=>by have:=hqs2 x E;omega) be).mono fun e w8 L=>?_;obtain⟨rfl,QW,css',Xd,hr5,Xe⟩:=L;have hM3':=YT.setRow (S':=Nw (Cv S w.heap.size Sw) J w8) (rlo r W) (fun x E Qa=>Vk Sw x E ((TR x).1 Qa)) XG QW (fun x E=>.inl E) ⟨css',Xd,hr5,Xe⟩;refine⟨.tuple #[],_,(J.heap.size,w8.heap.size)::Sw,rfl,r.xD (fun x E=>Rel.not (S:=fun g=>g<w.heap.size) r (fun _ h=>h) (RZ Sw x (RA XG E))) QW,?_⟩;have ZM:=hM3'.cV (S':=Cv S w.heap.size ((J.heap.size,w8.heap.size)::Sw)) fun x E=>Nw.cv E r.cZ;have RM:(du M3 pv.length c i).set i (ri.mapIdx (mV (-(ri.getD c 0)) ra))=du M3 pv.length c (i+1):=by
        rw[<-wC TP Po,hrad];rfl
       rw[RM]at ZM;have hK4:Kept w w8 _:=(hK.cj r.cj lr).row QW (fun x E=>RA XG E);clear hK hM YT RP Wi Xd Xe hM3' QW r UF RM Vi;generalize (J.heap.size,w8.heap.size)::Sw=VE at*
       conv=>whnf
       refine inc i ?_;conv=>whnf
       intro I8 w9 r3
       exact⟨(i+1,VE,w9),⟨Qv,hK4.cj r3.cj lr,ZM.rel r3 W (fun g V=>Pq g ((TR g).1 V))⟩,
        sbgn [] r3,by dsimp only;omega⟩
      .have Po:i=pv.length:=by
        have h4:((i:Int)==(pv.length:Int))=true:=by simpa using Po
        have:=eq_of_beq h4;omega
       conv=>whnf
       refine inc i ?_;conv=>whnf
       intro I8 w9 r3
       exact⟨(i+1,RS,w9),⟨Qv,hK.cj r3.cj lr,by
        dsimp only
        have h5:du M3 pv.length c (i+1)=du M3 pv.length c i:=by rw[Po,wD]
        rw[h5]
        exact hM.rel r3 W (fun g V=>Pq g ((TR g).1 V))⟩,
        sbgn [] r3,by dsimp only;omega⟩
     .have hi3:i=F9:=by
       have:¬i<F9:=by simpa using Qv
       omega
      subst hi3;have Qg:=Ht.EN (i:=i) (c:=c) UP.1 UP.2 WY;conv=>whnf
      refine .inl ?_;conv=>whnf
      refine⟨ce,be,mx,?_⟩;conv=>whnf
      refine inc c ?_;conv=>whnf
      intro I8 w9 r3;have XY:(pv++[c]).length=pv.length+1:=by simp
      have Um:(pv++[c]).map (fun c:Nat=>iV (c:Int))=pv.map (fun c:Nat=>iV (c:Int))++[iV (c:Int)]:=by simp
      refine⟨(c+1,rv2,du M3 pv.length c i,pv++[c],RS,w9),⟨h,hK.cj r3.cj lr,hM.rel r3 W (fun g V=>Pq g ((TR g).1 V)),TR,US,by rw[bz,List.foldl_append,<-Se];exact Pt.symm,by rw[XY];exact hp,?_⟩,
       sbgn [(0,2)] r3 ⟨by rw[Um];rfl,trivial⟩ ⟨rfl,rfl,by dsimp only;rw[XY];rfl,rfl,trivial⟩,by dsimp only;omega⟩
      dsimp only
      rw[XY,ZQ];exact Qg
   .have R:k=F9:=by
     have:¬k<F9:=by simpa using R
     omega
    subst R;have hfk2:gW M1 c (k-pv.length) pv.length=k:=by
     rw[<-hfk,bY];rfl
    have Pt:e9 (M1,pv) c=(M1,pv):=by
     unfold e9;rw[aM (by dsimp only;omega)];dsimp only
     rw[hlM,aM hfk2]
    conv=>whnf
    apply bS<;>intro WV
    .conv=>whnf
     refine inc c ?_;conv=>whnf
     intro I8 w3 r3
     exact⟨(c+1,rv1,M1,pv,iv2,w3),⟨h,hK.cj r3.cj lr,hM.rel r3 W (fun g V=>Pq g ((Tj g).1 V)),Tj,QO,by rw[bz,List.foldl_append,<-Se];exact Pt.symm,QQ,hht1⟩,
      sbgn [] r3,by dsimp only;omega⟩
    .exact absurd WV ce
  .have hp:¬pv.length<F9:=by simpa using hp
   conv=>whnf
   intro Id w5 r5;have Y:=htot (.inr be);rw[<-Y];refine⟨_,rv1,rfl,hK.cj r5.cj lr,?_,Tj,?_⟩
   .exact(hM.rel r5 W (fun g V=>Pq g ((Tj g).1 V))).cV fun g V=>Cv.nw V r5
   .exact(r5.ku (id:=0) (sz:=1) rfl ce mx bv (by intro u hu;simp at hu;obtain⟨_,_,rfl⟩:=hu;rfl)).cV fun g V=>.inr V
 .have h:¬c<cols:=by simpa using h
  conv=>whnf
  intro Id w5 r5;have Y:=htot (.inl be);rw[<-Y];refine⟨_,rv1,rfl,hK.cj r5.cj lr,?_,Tj,?_⟩
  .exact(hM.rel r5 W (fun g V=>Pq g ((Tj g).1 V))).cV fun g V=>Cv.nw V r5
  .exact(r5.ku (id:=0) (sz:=1) rfl ce mx bv (by intro u hu;simp at hu;obtain⟨_,_,rfl⟩:=hu;rfl)).cV fun g V=>.inr V
end
variable{x:Int×Int}{b xs:List (Int×Int)}{M:List (List (Int×Int))}{qs:List Rat}{cs:List Value}{id:Nat}{S:Nat->Prop}{a a2:Option Addr}{q:Rat}{v vm:Value}{w w0:World}
def gw(w:World)(S:Nat->Prop)(v:Value)(n:Nat)(qs:List Rat):Prop:=∃Z,w.ownsRow 0 T.dO 4 v n Z.flatten/\Z.length=n/\Fr w S Z qs
section
variable{S S' C:Nat->Prop}{H:Hp}{nx n:Nat}{iv K:Iv}{B:Nat}{w J F:World}{O:Nat->Sx.eH}{v:Value}{qs:List Rat}
theorem gw.cX(h:gw w S v n qs)(R:∀g,S g\/v.ownBlock=some g->F.heap[g]? =w.heap[g]?):gw F S v n qs:=by
 obtain⟨Z,Y,I,h3⟩:=h;exact⟨Z,ownsRow.cX Y fun g V=>R g (.inr V),I,h3.cX fun g V=>R g (.inl V)⟩
theorem gw.cV(h:gw w S v n qs)(R:∀g,S g->S' g):gw w S' v n qs:=by
 obtain⟨Z,Y,I,h3⟩:=h;exact⟨Z,Y,I,h3.cV R⟩
theorem gw.len(h:gw w S v n qs):qs.length=n:=by
 obtain⟨Z,Y,I,h3⟩:=h;rw[<-h3.1,I]
theorem gw.form(h:gw w S v n qs):∃a c,v= .slice a n c/\n<=c:=by
 obtain⟨Z,Y,I,h3⟩:=h;exact ef Y
theorem gw.le(h:gw w S v n qs):n<=maxLen:=by
 obtain⟨Z,Y,I,h3⟩:=h;rcases Y.2 with⟨_,h0⟩|⟨_,_,_,_,_,_,Y,I,_⟩
 .omega
 .omega
theorem gw.read(h:gw w S v n qs):eF w (fun g=>v.ownBlock=some g) S v qs:=by
 have hl:=h.len;have U:=h.le;obtain⟨Z,Y,I,h3⟩:=h;refine⟨Z,?_,h3⟩;rw[hl];rcases Y.2 with⟨rfl,rfl⟩|⟨g,cap,cur,rfl,A,hc,SR,RO,QK,R7⟩
 .refine⟨U,Y.1,h3.one,none,0,rfl,lr,fun j u hu=>?_⟩;have:=Y.1;rw[Nat.zero_mul]at this;rw[List.eq_nil_of_length_eq_zero this]at hu
  cases hu
 .refine⟨U,Y.1,h3.one,_,cap,rfl,SR,fun j u hu=>⟨_,rfl,rfl,?_⟩⟩;exact Y.cells (g:=g) rfl j u hu
theorem gw.store{a1:Option Addr}{c j n1 c1 n2 c2:Nat}{b b2:Bool}(h:gw w S (.slice a n c) n qs)(hj:j<n)(hf:cz w S (.agg #[.bool b,.slice a1 n1 c1,.bool b2,.slice a2 n2 c2]) q)(Rx:∀g,(Value.slice a n c).ownBlock=some g->¬S g)(W:Old S w):
  ∃g,a=some ⟨g,0,none⟩/\((⟨g,0,none⟩:Addr).add ((j:Int).toNat*4)).spot=none/\((⟨g,0,none⟩:Addr).add ((j:Int).toNat*4)).block=g/\
   (∀k,k<4->(w.cell? (((⟨g,0,none⟩:Addr).add ((j:Int).toNat*4)).add k)).isSome=true/\w.frozen? (((⟨g,0,none⟩:Addr).add ((j:Int).toNat*4)).add k)=false)/\
   ∀F,F=setCells w ((⟨g,0,none⟩:Addr).add ((j:Int).toNat*4)) (rC b a1 n1 c1 b2 a2 n2 c2)->gw F S (.slice a n c) n (qs.set j q)/\w.grownBy F (some g)/\F.heap.size=w.heap.size:=by
 obtain⟨Z,Y,I,h3⟩:=h;obtain⟨g,rfl,Py,RN,QW,QK⟩:=nT (nv:=rC b a1 n1 c1 b2 a2 n2 c2) Y rfl hj rfl bv;have QV:(⟨g,0,none⟩:Addr).add ((j:Int).toNat*4)=⟨g,j*4,none⟩:=by rw[aK,dF,aS]
 refine⟨g,rfl,by rw[QV],by rw[QV],fun k R=>by rw[QV];exact Py k R,fun F RT=>?_⟩;rw[QV]at RT;subst RT;have RM:=kq (cs:=rC b a1 n1 c1 b2 a2 n2 c2) h3.oy (show j<Z.length by omega);rw[RM]at RN;have Q6:∀x,S x->(setCells w ⟨g,j*4,none⟩ (rC b a1 n1 c1 b2 a2 n2 c2)).heap[x]? =w.heap[x]? :=fun x E=>
  QW.block x (W x E) fun e=>Rx g rfl (by injection e with e;rw[<-e];exact E)
 exact⟨⟨_,RN,by simpa using I,(h3.cX Q6).set (hf.cX Q6).four⟩,QW,QK⟩
structure eu(w:World)(S:Nat->Prop)(B:Nat)(iv:Iv)(v:Value)(n:Nat)(qs:List Rat):Prop where
 row:gw w (fun g=>Cv S B iv g/\v.ownBlock≠some g) v n qs
 new:∀g,v.ownBlock=some g->Cv FF B iv g
theorem eu.cX(h:eu w S B iv v n qs)(R:∀g,Cv S B iv g->F.heap[g]? =w.heap[g]?):eu F S B iv v n qs:=
 ⟨h.row.cX fun g V=>R g (V.elim (fun h=>h.1) fun V=>(h.new g V).elim (fun h=>h.elim) .inr),h.new⟩
theorem eu.rel(h:eu w S B iv v n qs)(r:Rel H nx iv B w O J)(W:∀g,S g->g<B):eu J S B iv v n qs:=h.cX fun _ V=>rls r W V
theorem eu.cS(h:eu w S B iv v n qs)(r:Rel H nx iv B w O J)(W:∀g,S g->g<B)(L:Ext J F)(hm:∀p,p∈iv->p∈K):eu F S B K v n qs:=
 have I:=(h.rel r W).cX fun g V=>L.block g (rlo r W g V)
 ⟨I.row.cV fun _ V=>⟨V.1.mono hm,V.2⟩,fun g V=>(I.new g V).mono hm⟩
theorem eu.ep(h:eu F FF J.heap.size [(J.heap.size,F.heap.size)] v n qs)(hB:B<=J.heap.size)(hm:(J.heap.size,F.heap.size)∈iv):eu F S B iv v n qs:=by
 have key:∀g {X:Nat->Prop},Cv FF J.heap.size [(J.heap.size,F.heap.size)] g->Cv X B iv g:=fun g X V=>by
  rcases V with V|⟨Y,lo,N,I,h3,h4⟩
  .exact V.elim
  .simp at I;obtain⟨rfl,rfl⟩:=I;exact .inr ⟨be,_,_,hm,h3,h4⟩
 exact⟨h.row.cV fun g V=>⟨key g V.1,V.2⟩,fun g V=>key g (h.new g V)⟩
theorem eu.read(h:eu w S B iv v n qs):eF w (Cv S B iv) (Cv S B iv) v qs:=
 h.row.read.cV (fun g V=>(h.new g V).elim (fun h=>h.elim) .inr) fun _ V=>V.1
def zO(w:World)(S:Nat->Prop)(cs:List Value)(x:Int×Int):Prop:=∃b a n c b2 a2 n2 c2,cs=(rC b a n c b2 a2 n2 c2)/\ky w S (.agg #[.bool b,.slice a n c,.bool b2,.slice a2 n2 c2]) x.1 x.2
theorem zO.cX(h:zO w S cs x)(R:∀g,S g->F.heap[g]? =w.heap[g]?):zO F S cs x:=by
 obtain⟨b,a,n,c,b2,a2,n2,c2,Y,I⟩:=h;exact⟨b,a,n,c,b2,a2,n2,c2,Y,I.cX R⟩
theorem zO.cV(h:zO w S cs x)(R:∀g,S g->S' g):zO w S' cs x:=by
 obtain⟨b,a,n,c,b2,a2,n2,c2,Y,I⟩:=h;exact⟨b,a,n,c,b2,a2,n2,c2,Y,I.cV R⟩
def dN{α:Type}(P:World->(Nat->Prop)->List Value->α->Prop)(w:World)(S:Nat->Prop)(v:Value)(xs:List α):Prop:=
 ∃Z:List (List Value),fe w S 4 v Z.flatten xs.length/\Z.length=xs.length/\(∀cs∈Z,cs.length=4)/\∀(j:Nat) cs x,Z[j]? =some cs->xs[j]? =some x->P w S cs x
abbrev dK:=dN zO
theorem dK.cX(h:dK w S v xs)(R:∀g,S g->F.heap[g]? =w.heap[g]?):dK F S v xs:=by
 obtain⟨Z,Y,I,h3,h4⟩:=h;exact⟨Z,Y.cX R,I,h3,fun j cs x k1 k2=>(h4 j cs x k1 k2).cX R⟩
theorem dK.cV(h:dK w S v xs)(R:∀g,S g->S' g):dK w S' v xs:=by
 obtain⟨Z,Y,I,h3,h4⟩:=h;exact⟨Z,Y.cV R,I,h3,fun j cs x k1 k2=>(h4 j cs x k1 k2).cV R⟩
theorem dN.shape{α:Type}{P:World->(Nat->Prop)->List Value->α->Prop}{xs:List α}(h:dN P w S v xs):∃a c,v= .slice a xs.length c/\xs.length<=c/\xs.length<=maxLen:=by
 obtain⟨Z,⟨h0,_,_,a,c,Y,I,_⟩,_⟩:=h;exact⟨a,c,Y,I,h0⟩
theorem dN.load{α:Type}{P:World->(Nat->Prop)->List Value->α->Prop}{xs:List α}{m c j:Nat}{x:α}(h:dN P w S (.slice a m c) xs)(hq:xs[j]? =some x):
  ∃ad cs,a=some ad/\P w S cs x/\cs.length=4/\∀k u,cs[k]? =some u->S ad.block/\w.cell? ((ad.add (j*4)).add k)=some u:=by
 obtain⟨Z,⟨h0,Y,I,a',c',e,h3,h4⟩,hl,Ri,hf⟩:=h;injection e with e1 e2 e3;subst e1;obtain⟨cs,Q4⟩:∃cs,Z[j]? =some cs:=⟨_,aE (by rw[hl];exact(aH.1 hq).1)⟩
 have hF:=hf j cs x Q4 hq;have Zn:=Ri cs (aG Q4);obtain⟨ad,k1,k2,k3⟩:=h4 (j*4+0) _ (flat_get Ri Q4 0 _ (aE (show 0<cs.length by omega)));refine⟨ad,cs,k1,hF,Zn,fun k u hu=>?_⟩;obtain⟨ad2,m1,m2,m3⟩:=h4 (j*4+k) u (flat_get Ri Q4 k u hu);rw[k1]at m1;injection m1 with m1;subst m1;refine⟨m2,?_⟩;rw[<-m3];have:(ad.add (j*4)).add k=ad.add (j*4+k):=by
  unfold Addr.add;split<;>split<;>simp_all<;>omega
 rw[this]
def dH{α:Type}(P:World->(Nat->Prop)->Value->α->Prop)(w:World)(S:Nat->Prop)(v:Value)(M:List α):Prop:=
 ∃rv,fe w S 1 v rv M.length/\rv.length=M.length/\∀(i:Nat) u x,rv[i]? =some u->M[i]? =some x->P w S u x
theorem dH.shape{α:Type}{P:World->(Nat->Prop)->Value->α->Prop}{xs:List α}(h:dH P w S v xs):∃a c,v= .slice a xs.length c/\xs.length<=c/\xs.length<=maxLen:=by
 obtain⟨rv,⟨h0,_,_,a,c,Y,I,_⟩,_⟩:=h;exact⟨a,c,Y,I,h0⟩
theorem dH.load{α:Type}{P:World->(Nat->Prop)->Value->α->Prop}{xs:List α}{m c j:Nat}{x:α}(h:dH P w S (.slice a m c) xs)(hq:xs[j]? =some x):
  ∃ad u,a=some ad/\P w S u x/\S ad.block/\w.cell? (ad.add (j*1))=some u:=by
 obtain⟨rv,⟨h0,Y,I,a',c',e,h3,h4⟩,hl,hf⟩:=h;injection e with e1 e2 e3;subst e1;obtain⟨u,hu⟩:∃u,rv[j]? =some u:=⟨_,aE (by rw[hl];exact(aH.1 hq).1)⟩
 obtain⟨ad,k1,k2,k3⟩:=h4 j u hu;exact⟨ad,u,k1,hf j u x hu hq,k2,by rw[av];exact k3⟩
abbrev dR:=dH dK
theorem dR.cX(h:dR w S v M)(R:∀g,S g->F.heap[g]? =w.heap[g]?):dR F S v M:=by
 obtain⟨rv,Y,I,h3⟩:=h;exact⟨rv,Y.cX R,I,fun i u x k1 k2=>dK.cX (h3 i u x k1 k2) R⟩
theorem dR.cV(h:dR w S v M)(R:∀g,S g->S' g):dR w S' v M:=by
 obtain⟨rv,Y,I,h3⟩:=h;exact⟨rv,Y.cV R,I,fun i u x k1 k2=>dK.cV (h3 i u x k1 k2) R⟩
abbrev fR:=dH (fun w S v qs=>eF w S S v qs)
theorem fR.cX{M:List (List Rat)}(h:fR w S v M)(R:∀g,S g->F.heap[g]? =w.heap[g]?):fR F S v M:=by
 obtain⟨rv,Y,I,h3⟩:=h;exact⟨rv,Y.cX R,I,fun i u x k1 k2=>(h3 i u x k1 k2).cX fun g V=>R g (V.elim id id)⟩
theorem fR.cV{M:List (List Rat)}(h:fR w S v M)(R:∀g,S g->S' g):fR w S' v M:=by
 obtain⟨rv,Y,I,h3⟩:=h;exact⟨rv,Y.cV R,I,fun i u x k1 k2=>(h3 i u x k1 k2).cV R R⟩
end
section
variable{S S':Nat->Prop}{H:Hp}{nx:Nat}{iv K:Iv}{B:Nat}{w J F:World}{O:Nat->Sx.eH}{v:Value}{xs:List (Int×Int)}
theorem dK.rel(h:dK w (Cv S B iv) v xs)(r:Rel H nx iv B w O J)(W:∀g,S g->g<B):dK J (Cv S B iv) v xs:=dK.cX h fun _ V=>rls r W V
theorem dK.cS(h:dK w (Cv S B iv) v xs)(r:Rel H nx iv B w O J)(W:∀g,S g->g<B)(L:Ext J F)(hm:∀p,p∈iv->p∈K):dK F (Cv S B K) v xs:=
 dK.cV (dK.cX (dK.rel h r W) fun g V=>L.block g (rlo r W g V)) fun _ V=>V.mono hm
theorem dK.arg(h:dK w S v xs)(iv:Iv):dK w (Cv S w.heap.size iv) v xs:=dK.cV h fun _ h=>.inl h
end
section
variable{S S':Nat->Prop}{H:Hp}{nx:Nat}{iv K:Iv}{B:Nat}{w J F:World}{O:Nat->Sx.eH}{v:Value}{M:List (List (Int×Int))}
theorem dR.rel(h:dR w (Cv S B iv) v M)(r:Rel H nx iv B w O J)(W:∀g,S g->g<B):dR J (Cv S B iv) v M:=dR.cX h fun _ V=>rls r W V
theorem dR.cS(h:dR w (Cv S B iv) v M)(r:Rel H nx iv B w O J)(W:∀g,S g->g<B)(L:Ext J F)(hm:∀p,p∈iv->p∈K):dR F (Cv S B K) v M:=
 dR.cV (dR.cX (dR.rel h r W) fun g V=>L.block g (rlo r W g V)) fun _ V=>V.mono hm
theorem dR.arg(h:dR w S v M)(iv:Iv):dR w (Cv S w.heap.size iv) v M:=dR.cV h fun _ h=>.inl h
end
section
variable{S S':Nat->Prop}{H:Hp}{nx:Nat}{iv K:Iv}{B:Nat}{w J F:World}{O:Nat->Sx.eH}{v:Value}{M:List (List Rat)}
theorem fR.rel(h:fR w (Cv S B iv) v M)(r:Rel H nx iv B w O J)(W:∀g,S g->g<B):fR J (Cv S B iv) v M:=fR.cX h fun _ V=>rls r W V
theorem fR.cS(h:fR w (Cv S B iv) v M)(r:Rel H nx iv B w O J)(W:∀g,S g->g<B)(L:Ext J F)(hm:∀p,p∈iv->p∈K):fR F (Cv S B K) v M:=
 fR.cV (fR.cX (fR.rel h r W) fun g V=>L.block g (rlo r W g V)) fun _ V=>V.mono hm
theorem fR.ep(h:fR F (Nf J F) v M)(hB:B<=J.heap.size)(hm:(J.heap.size,F.heap.size)∈iv):fR F (Cv S B iv) v M:=fR.cV h fun _ V=>V.ep hB hm
theorem fR.out{w1:World}(h:fR w1 (Cv S w0.heap.size iv) v M)(r:Rel H nx iv w0.heap.size w1 O J)(W:Old S w0):fR J (Nw S w0 J) v M:=
 fR.cV (fR.rel h r W) fun _ V=>Cv.nw V r
end
def dM{α:Type}:List (List α)->Nat
 |[]=>0
 |r::_=>r.length
def jm{α:Type}(M:List (List α)):Nat:=if ∀r∈M,r.length=dM M then(if 60<M.length\/60<dM M then 8 else 0)else 11
theorem dH.oB(h:dK w S v xs):∃a c,v= .slice a xs.length c:=by
 obtain⟨a,c,h,_⟩:=dN.shape h;exact⟨a,c,h⟩
theorem tf(W:Old S w)(h:dR w S v M):eL PG FS.uK #[v] w (eY w fun v' _=>v'=iV (dM M)):=by
 have U:=h;obtain⟨a,c,rfl,hc,hm⟩:=dH.shape h;refine xc ce ?_
 cases M with
 |nil=>
  conv=>whnf
  intro GE we re;exact⟨_,rfl,re.cj,rfl⟩
 |cons r t=>
  obtain⟨ad,u,rfl,hu,Y,I⟩:=dH.load h (j:=0) (x:=r) rfl;obtain⟨a2,c2,rfl⟩:=dH.oB hu;conv=>whnf
  refine⟨ad,rfl,⟨be,ce⟩,?_⟩;conv=>whnf
  refine⟨.slice a2 r.length c2,fun O J r'=>by simpa using gN W Bel.refl r' Y (by simpa using I),?_⟩;conv=>whnf
  intro GE we re;exact⟨_,rfl,re.cj,rfl⟩
theorem uT(W:Old S w)(h:dR w S v M):eL PG FS.oR #[v] w (eY w fun v' _=>v'=iV (jm M)):=by
 replace h:=dR.arg h [];obtain⟨a,c,rfl,hc,hm⟩:=dH.shape h;unfold maxLen at hm;refine s9 ce ?_;conv=>whnf
 refine⟨Nat×Iv×World,fun z=>⟨[(0,sV a M.length c),(5,sV a M.length c),(6,iZ M.length),(7,iZ z.1)],[],0,z.2.1,z.2.2⟩,fun z=>M.length-z.1,
  fun z=>z.1<=M.length/\Bq w z.2.2/\dR z.2.2 (Cv S w.heap.size z.2.1) (.slice a M.length c) M/\∀(j:Nat) r,j<z.1->M[j]? =some r->r.length=dM M,?_,?_⟩
 .intro O J r;exact⟨(0,[],J),⟨ce,r.cj,dR.rel h r W,ce⟩,sbgn [] r⟩
 clear h;rintro⟨i,iv,w1⟩ ⟨N,G,hM,Pm⟩;dsimp only at N G hM Pm ⊢;conv=>whnf
 apply bS<;>intro h
 .have h:=dL h;obtain⟨r,hr⟩:=gO M i;obtain⟨ad,u,rfl,hu,Y,I⟩:=dH.load hM hr;obtain⟨a2,c2,rfl⟩:=dH.oB hu;conv=>whnf
  refine⟨ad,rfl,be,?_⟩;conv=>whnf
  refine⟨.slice a2 r.length c2,fun O J r'=>?_,?_⟩
  .have h3:=rls r' W Y;rw[aK,cd (w:=w1) (F:=J) (by rw[df];exact h3)];exact I
  conv=>whnf
  refine cW (cU (GT:=fun _ _ v _=>v=iV (dM M)) (fun O J r=>tf (rlo r W) (dR.rel hM r W)) ?_);rintro O wa v1 wb r' L A rfl;replace G:=G.tr A;replace hM:=dR.cS (K:=(wa.heap.size,wb.heap.size)::iv) hM r' W L fun x E=>aD _ E;clear r' L A;generalize (wa.heap.size,wb.heap.size)::iv=iv2 at*
  conv=>whnf
  apply bS<;>intro Po
  .have Po:r.length≠dM M:=fun e=>by rw[e]at Po;simp at Po
   conv=>whnf
   intro GE we re;refine⟨_,rfl,G.tr re.cj,?_⟩;unfold jm;rw[aI (fun Qw=>Po (Qw r (aG hr)))];rfl
  .have heq:r.length=dM M:=by
    have h4:((r.length:Int)==(dM M:Int))=true:=by simpa using Po
    have:=eq_of_beq h4;omega
   conv=>whnf
   refine inc i ?_;conv=>whnf
   intro I8 w3 r3;refine⟨(i+1,iv2,w3),⟨h,G.tr r3.cj,dR.rel hM r3 W,fun j r' hj Wr=>?_⟩,sbgn [] r3,by dsimp only;omega⟩;by_cases Q1:j=i
   .subst Q1;rw[hr]at Wr;injection Wr with Wr;rw[<-Wr];exact heq
   .exact Pm j r' (by dsimp only at hj;omega) Wr
 .have h:i=M.length:=by
   have:¬i<M.length:=by simpa using h
   omega
  have Qw:∀r∈M,r.length=dM M:=fun r hr=>by
   obtain⟨j,hj⟩:=az hr;exact Pm j r (by rw[h];exact(aH.1 hj).1) hj
  have WI:jm M=if 60<M.length\/60<dM M then 8 else 0:=by unfold jm;rw[aM Qw]
  conv=>whnf
  apply bS<;>intro hl
  .have hl:60<M.length:=by
    have:(M.length:Int)>60:=aJ hl;omega
   conv=>whnf
   exact rtn G fun GE we re=>by rw[WI,aM (.inl hl)];rfl
  .have hl:¬60<M.length:=by
    have:¬(M.length:Int)>60:=aL hl;omega
   conv=>whnf
   refine cW (cU (GT:=fun _ _ v _=>v=iV (dM M)) (fun O J r=>tf (rlo r W) (dR.rel hM r W)) ?_);rintro O wa v1 wb r' L A rfl;replace G:=G.tr A;clear r' L A;conv=>whnf
   apply bS<;>intro Qu
   .have Qu:60<dM M:=by
     have:(dM M:Int)>60:=aJ Qu;omega
    conv=>whnf
    exact rtn G fun GE we re=>by rw[WI,aM (.inr Qu)];rfl
   .have Qu:¬60<dM M:=by
     have:¬(dM M:Int)>60:=aL Qu;omega
    conv=>whnf
    exact rtn G fun GE we re=>by rw[WI,aI be];rfl
theorem Ck{u:Value}(W:Old S w)(h:dR w S v M)(hu:dK w S u b):
  eL PG FS.oQ #[v,u] w (eY w fun v' _=>v'=iV ((if jm M≠0 then jm M else if b.length≠M.length then 11 else 0:Nat):Int)):=by
 replace h:=dR.arg h [];obtain⟨a,c,rfl,hc,hm⟩:=dH.shape h;obtain⟨a2,c2,rfl,SX,Th⟩:=dN.shape hu;refine s8 ce ?_;conv=>whnf
 refine cW (cU (GT:=fun _ _ v _=>v=iV (jm M)) (fun O J r=>uT (rlo r W) (dR.rel h r W)) ?_);rintro O wa v1 wb r' L G rfl;clear r' L h;conv=>whnf
 apply bS<;>intro h0
 .have h0:jm M≠0:=fun e=>by rw[e]at h0;simp at h0
  rw[aM h0];conv=>whnf
  exact rtn G fun GE we re=>rfl
 .have h0:jm M=0:=by
   have h4:((jm M:Int)==0)=true:=by simpa using h0
   have:=eq_of_beq h4;omega
  rw[aI be];conv=>whnf
  apply bS<;>intro Y
  .have Y:b.length≠M.length:=fun e=>by rw[e]at Y;simp at Y
   rw[aM Y];conv=>whnf
   exact rtn G fun GE we re=>rfl
  .have Y:b.length=M.length:=by
    have h4:((b.length:Int)==(M.length:Int))=true:=by simpa using Y
    have:=eq_of_beq h4;omega
   rw[aI be];conv=>whnf
   exact rtn G fun GE we re=>rfl
def f0:List Value:=[.bool false,nls,.bool false,nls]
structure mW(w:World)(S:Nat->Prop)(n i:Nat)(Z:List (List Value))(qs:List Rat):Prop where
 len:Z.length=n
 four:∀cs∈Z,cs.length=4
 one:∀cs∈Z,∀u∈cs,u.oneCell'=true
 at_:∀(j:Nat) cs q,j<i->Z[j]? =some cs->qs[j]? =some q->jx w S cs q
section
variable{S S':Nat->Prop}{H:Hp}{nx n i:Nat}{iv K:Iv}{B:Nat}{w w1 J F:World}{O:Nat->Sx.eH}{Z:List (List Value)}{qs:List Rat}
theorem mW.cX(h:mW w S n i Z qs)(R:∀g,S g->F.heap[g]? =w.heap[g]?):mW F S n i Z qs:=⟨h.len,h.four,h.one,fun j cs q hj Y I=>(h.at_ j cs q hj Y I).cX R⟩
theorem mW.cV(h:mW w S n i Z qs)(R:∀g,S g->S' g):mW w S' n i Z qs:=⟨h.len,h.four,h.one,fun j cs q hj Y I=>(h.at_ j cs q hj Y I).cV R⟩
theorem mW.rel(h:mW w (Cv S B iv) n i Z qs)(r:Rel H nx iv B w O J)(W:∀g,S g->g<B):mW J (Cv S B iv) n i Z qs:=h.cX fun _ V=>rls r W V
theorem mW.cS(h:mW w (Cv S B iv) n i Z qs)(r:Rel H nx iv B w O J)(W:∀g,S g->g<B)(L:Ext J F)(hm:∀p,p∈iv->p∈K):mW F (Cv S B K) n i Z qs:=
 ((h.rel r W).cX fun g V=>L.block g (rlo r W g V)).cV fun _ V=>V.mono hm
theorem mW.start(w:World)(S:Nat->Prop)(n:Nat)(qs:List Rat):mW w S n 0 (List.replicate n f0) qs:=
 ⟨ce,fun cs hc=>by rw[aY hc];rfl,fun cs hc u hu=>by rw[aY hc]at hu;simp[f0]at hu;rcases hu with rfl|rfl|rfl|rfl<;>rfl,fun j cs q hj=>be⟩
theorem mW.next{b b2:Bool}{m c m2 c2:Nat}(h:mW w S n i Z qs)(N:i<n)(hq:qs[i]? =some q)(hf:cz w S (.agg #[.bool b,.slice a m c,.bool b2,.slice a2 m2 c2]) q):
  mW w S n (i+1) (Z.set i (rC b a m c b2 a2 m2 c2)) qs:=by
 refine⟨by simp[h.len],fun cs hc=>?_,fun cs hc u hu=>?_,fun j cs p hj Y I=>?_⟩
 .rcases bQ hc with hc|rfl
  .exact h.four cs hc
  .rfl
 .rcases bQ hc with hc|rfl
  .exact h.one cs hc u hu
  .simp at hu;rcases hu with rfl|rfl|rfl|rfl<;>rfl
 .by_cases R0:i=j
  .subst R0;rw[aQ (by rw[h.len];exact N)]at Y;rw[hq]at I;injection Y with Y;injection I with I;subst Y I;exact hf.four
  .rw[aZ R0]at Y;exact h.at_ j cs p be Y I
theorem mW.flat(h:mW w S n i Z qs):Z.flatten.length=n*4:=by rw[fN h.four,h.len]
theorem mW.done(h:mW w1 (Cf w0 iv) n n Z qs)(hl:qs.length=n)(U:n<=maxLen)(r:Rel H nx iv w0.heap.size w1 O J)(hH:dV H id=some (.arr T.dO Z.flatten))(QF:(O id).nil=false):
  eu J FF w0.heap.size [(w0.heap.size,J.heap.size)] (.slice (some ⟨(O id).g,0,none⟩) n n) n qs:=by
 have I:=h.rel r (Mf w0);have Pq:=r.low id _ hH QF;refine⟨⟨Z,⟨h.flat,.inr ⟨(O id).g,n,Z.flatten.toArray,rfl,ae _,r.arr id _ _ hH,lr,U,by simpa using h.flat,?_⟩⟩,h.len,?_⟩,fun g V=>?_⟩
 .rw[<-h.flat];exact bK
 .refine⟨by rw[h.len,hl],fun j cs q h3 h4=>?_⟩;refine(I.at_ j cs q (by rw[<-hl];exact(aH.1 h4).1) h3 h4).cV fun g V=>⟨?_,fun e=>?_⟩
  .rcases V with V|⟨k1,lo,N,k2,k3,k4⟩
   .exact V.elim
   .exact .inr ⟨k1,_,_,aX.2 rfl,k1,by have:=r.oc lo N k2;have:=r.size;omega⟩
  .injection e with e;exact Rel.not r (Mf w0) V id _ hH QF e
 .injection V with V;subst V;exact .inr ⟨Pq.1,_,_,aX.2 rfl,Pq.1,Pq.2⟩
end
theorem jh(n:Nat)(w:World)(U:n<=1000000):eL PG FS.yW #[iV n] w (eY w fun v F=>eu F FF w.heap.size [(w.heap.size,F.heap.size)] v n (List.replicate n 0)):=by
 refine BQ ce ?_;conv=>whnf
 refine⟨n,n,rfl,rfl,lr,be,be,?_⟩;conv=>whnf
 refine⟨Nat×List (List Value)×Iv×World,fun z=>⟨[(3,.o (.s 0 0 n n)),(8,iZ n),(9,iZ z.1)],[(0,.arr T.dO z.2.1.flatten)],1,z.2.2.1,z.2.2.2⟩,fun z=>n-z.1,
  fun z=>z.1<=n/\Bq w z.2.2.2/\mW z.2.2.2 (Cf w z.2.2.1) n z.1 z.2.1 (List.replicate n 0),?_,?_⟩
 .intro O J r;exact⟨(0,List.replicate n f0,[],J),⟨ce,r.cj,mW.start _ _ _ _⟩,sbgn [] r⟩
 rintro⟨i,Z,iv,w1⟩ ⟨N,G,hF⟩;dsimp only at N G hF ⊢;conv=>whnf
 apply bS<;>intro h
 .have h:=dL h;conv=>whnf
  refine cW (cU (GT:=fun _ J v F=>cz F (Nf J F) v ((0:Int):Rat)) (fun O J r=>iX 0 J bv bv) ?_);rintro O wa v1 wb r L A hO;have Qh:=hO.ep (S:=FF) r.cZ (iv:=(wa.heap.size,wb.heap.size)::iv) aF;replace hF:=hF.cS (K:=(wa.heap.size,wb.heap.size)::iv) r oF L fun x E=>aD _ E;replace G:=G.tr A;clear r L A hO;generalize (wa.heap.size,wb.heap.size)::iv=iv2 at*
  obtain⟨b1,a1,n1,c1,b2,a2,n2,c2,rfl⟩:=Qh.shape;have RC:=hF.next h (q:=0) (by simp[h]) Qh
  conv=>whnf
  refine⟨be,?_⟩;conv=>whnf
  refine⟨by have:=hF.flat;omega,(Z.set i (rC b1 a1 n1 c1 b2 a2 n2 c2)).flatten,?_,?_⟩
  .have:=kq (cs:=rC b1 a1 n1 c1 b2 a2 n2 c2) hF.four (show i<Z.length by rw[hF.len];exact h);rw[<-this];simp
  conv=>whnf
  refine inc i ?_;conv=>whnf
  intro I8 w3 r3;exact⟨(i+1,Z.set i (rC b1 a1 n1 c1 b2 a2 n2 c2),iv2,w3),⟨h,G.tr r3.cj,RC.rel r3 oF⟩,sbgn [] r3,dec h⟩
 .have h:i=n:=by
   have:¬i<n:=by simpa using h
   omega
  subst h;conv=>whnf
  exact rtn G fun GE we re=>hF.done ce mx re (id:=0) rfl (re.nn 0 _ rfl (by intros;simp) ce)
def dD(x:Int×Int):Rat:=ratio x.1 x.2
def vN(xs:List (Int×Int)):Prop:=∀x∈xs,ln x.1.natAbs<=10000000000/\ln x.2.natAbs<=10000000000
theorem kr(W:Old S w)(h:dK w S v xs)(hf:vN xs)(U:xs.length<=1000000):
  eL PG FS.wQ #[v] w (eY w fun v' F=>eu F FF w.heap.size [(w.heap.size,F.heap.size)] v' xs.length (xs.map dD)):=by
 replace h:=dK.arg h [];obtain⟨a,c,rfl,hc,-⟩:=dN.shape h;refine zD ce ?_;conv=>whnf
 refine⟨xs.length,xs.length,rfl,rfl,lr,be,be,?_⟩;conv=>whnf
 refine⟨Nat×List (List Value)×Iv×World,fun z=>⟨[(3,.o (.s 0 0 xs.length xs.length)),(9,sV a xs.length c),(10,iZ xs.length),(11,iZ z.1)],[(0,.arr T.dO z.2.1.flatten)],1,z.2.2.1,z.2.2.2⟩,fun z=>xs.length-z.1,
  fun z=>z.1<=xs.length/\Bq w z.2.2.2/\dK z.2.2.2 (Cv S w.heap.size z.2.2.1) (.slice a xs.length c) xs/\mW z.2.2.2 (Cf w z.2.2.1) xs.length z.1 z.2.1 (xs.map dD),?_,?_⟩
 .intro O J r;exact⟨(0,List.replicate xs.length f0,[],J),⟨ce,r.cj,dK.rel h r W,mW.start _ _ _ _⟩,sbgn [] r⟩
 clear h;rintro⟨i,Z,iv,w1⟩ ⟨N,G,hX,hF⟩;dsimp only at N G hX hF ⊢;conv=>whnf
 apply bS<;>intro h
 .have h:=dL h;obtain⟨x,E⟩:=gO xs i;obtain⟨ad,cs,rfl,hR,-,hl⟩:=dN.load hX E;obtain⟨b3,a3,n3,c3,b4,a4,n4,c4,rfl,hR⟩:=hR;obtain⟨f1,f2⟩:=hf x (aG E);conv=>whnf
  refine⟨ad,rfl,be,?_⟩;conv=>whnf
  refine⟨rC b3 a3 n3 c3 b4 a4 n4 c4,rfl,fun O J r j u hu=>?_,?_⟩
  .obtain⟨k1,k2⟩:=hl j u hu;have:=rls r W k1;rw[aK,cd (w:=w1) (F:=J) (by rw[df,df];exact this)];exact k2
  conv=>whnf
  refine cW (cU (GT:=fun _ J v F=>cz F (Nf J F) v (dD x)) (fun O J r=>zd (rlo r W) (hR.rel r W) be be) ?_);rintro O wa v1 wb r L A hO;have Qh:=hO.ep (S:=FF) r.cZ (iv:=(wa.heap.size,wb.heap.size)::iv) aF;replace hF:=hF.cS (K:=(wa.heap.size,wb.heap.size)::iv) r oF L fun x E=>aD _ E;replace hX:=dK.cS (K:=(wa.heap.size,wb.heap.size)::iv) hX r W L fun x E=>aD _ E;replace G:=G.tr A;clear r L A hO hl hR;generalize (wa.heap.size,wb.heap.size)::iv=iv2 at*
  obtain⟨b1,a1,n1,c1,b2,a2,n2,c2,rfl⟩:=Qh.shape;have RC:=hF.next h (q:=dD x) (by rw[aU,E];rfl) Qh
  conv=>whnf
  refine⟨be,?_⟩;conv=>whnf
  refine⟨by have:=hF.flat;omega,(Z.set i (rC b1 a1 n1 c1 b2 a2 n2 c2)).flatten,?_,?_⟩
  .have:=kq (cs:=rC b1 a1 n1 c1 b2 a2 n2 c2) hF.four (show i<Z.length by rw[hF.len];exact h);rw[<-this];simp
  conv=>whnf
  refine inc i ?_;conv=>whnf
  intro I8 w3 r3;exact⟨(i+1,Z.set i (rC b1 a1 n1 c1 b2 a2 n2 c2),iv2,w3),⟨h,G.tr r3.cj,dK.rel hX r3 W,RC.rel r3 oF⟩,sbgn [] r3,dec h⟩
 .have h:i=xs.length:=by
   have:¬i<xs.length:=by simpa using h
   omega
  subst h;conv=>whnf
  exact rtn G fun GE we re=>hF.done ce mx re (id:=0) rfl (re.nn 0 _ rfl (by intros;simp) ce)
structure ix(w:World)(S:Nat->Prop)(B:Nat)(iv:Iv)(rv:List Value)(n:Nat)(M:List (List Rat)):Prop where
 len:rv.length=M.length
 row:∀(i:Nat) v qs,rv[i]? =some v->M[i]? =some qs->gw w (fun g=>Cv S B iv g/\¬ ∃u∈rv,u.ownBlock=some g) v n qs
 HZ:∀(i j:Nat) a b g,rv[i]? =some a->rv[j]? =some b->a.ownBlock=some g->b.ownBlock=some g->i=j
 new:∀v∈rv,∀g,v.ownBlock=some g->Cv FF B iv g
theorem iw(B:Nat):∀g,(fun _:Nat=>False) g->g<B:=fun _ h=>h.elim
theorem qj{B:Nat}{iv:Iv}{g:Nat}(h:Cv FF B iv g):Cv S B iv g:=h.elim (fun h=>h.elim) .inr
section
variable{S S':Nat->Prop}{H:Hp}{nx n i:Nat}{iv K:Iv}{B:Nat}{w w1 J F:World}{O:Nat->Sx.eH}{rv:List Value}{M:List (List Rat)}
theorem ix.cX(h:ix w S B iv rv n M)(R:∀g,Cv S B iv g->F.heap[g]? =w.heap[g]?):ix F S B iv rv n M:=
 ⟨h.len,fun i v qs Y I=>(h.row i v qs Y I).cX fun g V=>R g (V.elim (fun h=>h.1) fun V=>qj (h.new v (aG Y) g V)),h.HZ,h.new⟩
theorem ix.rel(h:ix w S B iv rv n M)(r:Rel H nx iv B w O J)(W:∀g,S g->g<B):ix J S B iv rv n M:=h.cX fun _ V=>rls r W V
theorem ix.cS(h:ix w S B iv rv n M)(r:Rel H nx iv B w O J)(W:∀g,S g->g<B)(L:Ext J F)(hm:∀p,p∈iv->p∈K):ix F S B K rv n M:=
 have I:=(h.rel r W).cX fun g V=>L.block g (rlo r W g V)
 ⟨I.len,fun i v qs k1 k2=>(I.row i v qs k1 k2).cV fun _ V=>⟨V.1.mono hm,V.2⟩,I.HZ,fun v hv g V=>(I.new v hv g V).mono hm⟩
theorem ix.nil(w:World)(S:Nat->Prop)(B:Nat)(iv:Iv)(n:Nat):ix w S B iv [] n []:=⟨rfl,ce,ce,ce⟩
theorem ix.snoc(h:ix w S B iv rv n M)(r:Rel H nx iv B w O J)(W:∀g,S g->g<B)(L:Ext J F)(hv:gw F (fun g=>Cv S B ((J.heap.size,F.heap.size)::iv) g/\v.ownBlock≠some g/\¬ ∃u∈rv,u.ownBlock=some g) v n qs)
  (Qs:∀g,v.ownBlock=some g->J.heap.size<=g/\g<F.heap.size):ix F S B ((J.heap.size,F.heap.size)::iv) (rv++[v]) n (M++[qs]):=by
 have hold:∀g,Cv S B iv g->g<J.heap.size:=rlo r W;have I:=h.cS (K:=(J.heap.size,F.heap.size)::iv) r W L fun x E=>aD _ E;have hvold:∀g,Cv S B iv g->v.ownBlock≠some g:=fun g V e=>by have:=hold g V;have:=(Qs g e).1;omega
 refine⟨by simp[h.len],fun i u ps h3 h4=>?_,fun i j a b g h3 h4 h5 h6=>?_,fun u hu g V=>?_⟩
 .rcases aW i rv.length with N|N
  .rw[aN N]at h3;rw[aN (by rw[<-h.len];exact N)]at h4;have h5:=((h.rel r W).cX (F:=F) fun g V=>L.block g (hold g V)).row i u ps h3 h4;refine h5.cV fun g V=>⟨V.1.mono fun x E=>aD _ E,fun⟨x,E,e⟩=>?_⟩
   rcases bB.1 E with E|E
   .exact V.2 ⟨x,E,e⟩
   .simp at E;subst E;exact hvold g V.1 e
  .rw[aP N]at h3;rw[aP (by rw[<-h.len];exact N)]at h4;have h0:i-rv.length=0:=by
    have:=(aH.1 h3).1;simp at this;omega
   rw[h0]at h3;rw[<-h.len,h0]at h4;simp at h3 h4;subst h3 h4;refine hv.cV fun g V=>⟨V.1,fun⟨x,E,e⟩=>?_⟩
   rcases bB.1 E with E|E
   .exact V.2.2 ⟨x,E,e⟩
   .simp at E;subst E;exact V.2.1 e
 .have key:∀(i:Nat) a,(rv++[v])[i]? =some a->rv[i]? =some a\/(i=rv.length/\a=v):=fun i a ha=>by
   rcases aW i rv.length with N|N
   .rw[aN N]at ha;exact .inl ha
   .rw[aP N]at ha;have:=(aH.1 ha).1;simp at this;rw[this]at ha;simp at ha;exact .inr ⟨be,ha.symm⟩
  have hvn:∀(i:Nat) a,rv[i]? =some a->a.ownBlock=some g->v.ownBlock≠some g:=fun i a ha e=>hvold g (qj (h.new a (aG ha) g e));rcases key i a h3 with k1|⟨k1,rfl⟩<;>rcases key j b h4 with k2|⟨k2,rfl⟩
  .exact h.HZ i j a b g k1 k2 h5 h6
  .exact absurd h6 (hvn i a k1 h5)
  .exact absurd h5 (hvn j b k2 h6)
  .omega
 .rcases bB.1 hu with hu|hu
  .exact(h.new u hu g V).mono fun x E=>aD _ E
  .simp at hu;subst hu;have:=Qs g V;exact .inr ⟨by have:=r.cZ;omega,_,_,aF,this.1,this.2⟩
theorem ix.aBM(h:ix w S B iv rv n M)(r:Rel H nx iv B w O J)(W:∀g,S g->g<B)(L:Ext J F)(E:eu F FF J.heap.size [(J.heap.size,F.heap.size)] v n qs):
  ix F S B ((J.heap.size,F.heap.size)::iv) (rv++[v]) n (M++[qs]):=by
 have key:∀g,Cv FF J.heap.size [(J.heap.size,F.heap.size)] g->J.heap.size<=g/\g<F.heap.size:=fun g V=>by
  rcases V with V|⟨Y,lo,N,I,h3,h4⟩
  .exact V.elim
  .simp at I;obtain⟨rfl,rfl⟩:=I;exact⟨h3,h4⟩
 refine h.snoc r W L (E.row.cV fun g V=>?_) fun g V=>key g (E.new g V);have:=key g V.1;refine⟨.inr ⟨by have:=r.cZ;omega,_,_,aF,this.1,this.2⟩,V.2,fun⟨u,hu,e⟩=>?_⟩;have:=rlo r (iw B) g (h.new u hu g e);omega
theorem ix.mat(h:ix w S B iv rv n M)(r:Rel H nx iv B w O J)(W:∀g,S g->g<B)(hH:dV H id=some (.arr T.row rv))(QF:(O id).nil=false)(hR:rv.length<=maxLen)(_h1:∀u∈rv,u.oneCell'=true):
  jD J (fun g=>Cv S B iv g/\¬Mb (.slice (some ⟨(O id).g,0,none⟩) rv.length rv.length) rv g) (.slice (some ⟨(O id).g,0,none⟩) rv.length rv.length) rv n M:=by
 have I:=h.rel r W;have Qk:∀g,Cv S B iv g->(O id).g≠g:=fun g V=>Rel.not r W V id _ hH QF;refine⟨⟨ce,.inr ⟨(O id).g,rv.length,rv.toArray,rfl,ae _,r.arr id _ _ hH,lr,hR,ce,ce⟩⟩,h.len,fun i v qs h3 h4=>?_,h.HZ,fun v hv g V e=>?_⟩
 .refine(I.row i v qs h3 h4).cV fun g V=>⟨V.1,fun hm=>?_⟩
  rcases hm with hm|hm
  .injection hm with hm;exact Qk g V.1 hm
  .exact V.2 hm
 .injection e with e;exact Qk g (qj (h.new v hv g V)) e
structure xA(w:World)(S:Nat->Prop)(B:Nat)(iv:Iv)(vm:Value)(n:Nat)(M:List (List Rat)):Prop where
 ex:∃rv,jD w (fun g=>Cv S B iv g/\¬Mb vm rv g) vm rv n M/\∀g,Mb vm rv g->Cv FF B iv g
theorem xA.cX(h:xA w S B iv vm n M)(R:∀g,Cv S B iv g->F.heap[g]? =w.heap[g]?):xA F S B iv vm n M:=by
 obtain⟨rv,Y,I⟩:=h.ex;exact⟨rv,Y.cX fun g V=>R g (V.elim (fun h=>h.1) fun V=>qj (I g V)),I⟩
theorem xA.ep(h:xA F FF J.heap.size [(J.heap.size,F.heap.size)] vm n M)(hB:B<=J.heap.size)(hm:(J.heap.size,F.heap.size)∈iv):xA F S B iv vm n M:=by
 have key:∀g {X:Nat->Prop},Cv FF J.heap.size [(J.heap.size,F.heap.size)] g->Cv X B iv g:=fun g X V=>by
  rcases V with V|⟨Y,lo,N,I,h3,h4⟩
  .exact V.elim
  .simp at I;obtain⟨rfl,rfl⟩:=I;exact .inr ⟨be,_,_,hm,h3,h4⟩
 obtain⟨rv,Y,I⟩:=h.ex;exact⟨rv,Y.cV fun g V=>⟨key g V.1,V.2⟩,fun g V=>key g (I g V)⟩
theorem jD.one(h:jD w S vm rv n M):∀u∈rv,u.oneCell'=true:=fun u hu=>by
 obtain⟨i,N⟩:=az hu;have hl:=(aH.1 N).1;obtain⟨Z,Y,_⟩:=h.row i u _ N (aE (by rw[<-h.len];exact hl));obtain⟨a,c,rfl,_⟩:=ef Y;rfl
theorem jD.read(h:jD w S vm rv n M):fR w (fun g=>S g\/Mb vm rv g) vm M:=by
 refine⟨rv,?_,h.len,fun i u qs Y I=>?_⟩
 .have hl:=h.len;rw[<-hl];rcases h.out.2 with⟨rfl,h0⟩|⟨g,cap,cur,rfl,A,hc,SR,RO,QK,R7⟩
  .have:rv=[]:=List.eq_nil_of_length_eq_zero h0;subst this;exact⟨by simp[maxLen],ce,ce,none,0,rfl,lr,ce⟩
  .refine⟨be,h.out.1,h.one,_,cap,rfl,SR,fun j u hu=>⟨_,rfl,.inr (.inl rfl),?_⟩⟩;exact h.out.cells (g:=g) rfl j u hu
 .have h3:gw w S u n qs:=h.row i u qs Y I;exact h3.read.cV (fun g V=>.inr (.inr ⟨u,aG Y,V⟩)) fun g V=>.inl V
theorem xA.read(h:xA w S B iv vm n M):fR w (Cv S B iv) vm M:=by
 obtain⟨rv,Y,I⟩:=h.ex;exact fR.cV Y.read fun g V=>V.elim (fun h=>h.1) fun V=>qj (I g V)
end
theorem Gm{n:Nat}(W:Old S w)(h:dR w S v M)(hf:∀r∈M,vN r)(Pm:∀r∈M,r.length=n)(U:n<=1000000)(hR:M.length<=1000000):
  eL PG FS.qQ #[v] w (eY w fun v' F=>xA F FF w.heap.size [(w.heap.size,F.heap.size)] v' n (M.map (·.map dD))):=by
 replace h:=dR.arg h [];obtain⟨a,c,rfl,hc,-⟩:=dH.shape h;refine rE ce ?_;conv=>whnf
 refine⟨M.length,M.length,rfl,rfl,lr,be,be,?_⟩;conv=>whnf
 refine⟨List Value×Iv×World,fun z=>⟨[(3,.o (.s 0 0 M.length M.length)),(9,sV a M.length c),(10,iZ M.length),(11,iZ z.1.length)],[(0,.arr T.row (z.1++List.replicate (M.length-z.1.length) nls))],1,z.2.1,z.2.2⟩,fun z=>M.length-z.1.length,
  fun z=>z.1.length<=M.length/\Bq w z.2.2/\dR z.2.2 (Cv S w.heap.size z.2.1) (.slice a M.length c) M/\ix z.2.2 FF w.heap.size z.2.1 z.1 n ((M.take z.1.length).map (·.map dD))/\∀u∈z.1,u.oneCell'=true,?_,?_⟩
 .intro O J r;exact⟨([],[],J),⟨ce,r.cj,dR.rel h r W,by simpa using ix.nil _ _ _ _ _,ce⟩,sbgn [] r⟩
 clear h;rintro⟨rv,iv,w1⟩ ⟨N,G,hX,hF,h1c⟩;dsimp only at N G hX hF h1c ⊢;conv=>whnf
 apply bS<;>intro h
 .have h:rv.length<M.length:=by simpa using h
  obtain⟨x,E⟩:=gO M rv.length;obtain⟨ad,u,rfl,Vi,Ts,Qu⟩:=dH.load hX E;obtain⟨a2,c2,rfl⟩:=dH.oB Vi;have SS:=Pm x (aG E);conv=>whnf
  refine⟨ad,rfl,be,?_⟩;conv=>whnf
  refine⟨.slice a2 x.length c2,fun O J r=>?_,?_⟩
  .have:=rls r W Ts;rw[aK,cd (w:=w1) (F:=J) (by rw[df];exact this)];exact Qu
  conv=>whnf
  refine cW (cU (GT:=fun _ J v F=>eu F FF J.heap.size [(J.heap.size,F.heap.size)] v n (x.map dD)) (fun O J r=>by rw[<-SS];exact kr (rlo r W) (dK.rel Vi r W) (hf x (aG E)) be) ?_);rintro O wa v1 wb r L A hO;have Xb:=hF.aBM r oF L hO;replace hX:=dR.cS (K:=(wa.heap.size,wb.heap.size)::iv) hX r W L fun x E=>aD _ E;replace G:=G.tr A;obtain⟨a3,c3,rfl,-⟩:=hO.row.form;clear r L A hO Vi hF Ts Qu;generalize (wa.heap.size,wb.heap.size)::iv=iv2 at*
  conv=>whnf
  refine⟨be,?_⟩;conv=>whnf
  refine⟨by simp;omega,(rv++[.slice a3 n c3])++List.replicate (M.length-(rv.length+1)) nls,?_,?_⟩
  .have h5:M.length-rv.length=(M.length-(rv.length+1))+1:=by omega
   simp[h5,List.replicate_succ]
  conv=>whnf
  refine⟨((rv.length+1:Nat):Int),wo,?_⟩;conv=>whnf
  intro I8 w3 r3;have RQ:(rv++[Value.slice a3 n c3]).length=rv.length+1:=by simp
  refine⟨(rv++[.slice a3 n c3],iv2,w3),⟨by dsimp only;rw[RQ];exact h,G.tr r3.cj,dR.rel hX r3 W,?_,?_⟩,sbgn [] r3 ⟨by dsimp only;rw[RQ];rfl,trivial⟩ ⟨rfl,rfl,rfl,by dsimp only;rw[RQ];rfl,trivial⟩,by dsimp only;rw[RQ];omega⟩
  .dsimp only
   rw[RQ,bM,E,bw];exact Xb.rel r3 oF
  .intro u hu;rcases bB.1 hu with hu|hu
   .exact h1c u hu
   .simp at hu;subst hu;rfl
 .have h:rv.length=M.length:=by
   have:¬rv.length<M.length:=by simpa using h
   omega
  rw[h,bK]at hF;rw[h,bY,List.replicate_zero,List.append_nil];conv=>whnf
  intro GE we re;refine⟨_,rfl,G.tr re.cj,?_⟩;have QF:=re.nn 0 _ rfl (by intros;simp) ce;have hm:=hF.mat re oF (id:=0) rfl QF mx h1c;rw[h]at hm;have key:∀g,Cf w iv g->Cf w [(w.heap.size,we.heap.size)] g:=fun g V=>by
   rcases V with V|⟨Y,lo,N,I,h3,h4⟩
   .exact V.elim
   .exact .inr ⟨Y,_,_,aX.2 rfl,Y,by have:=re.oc lo N I;have:=re.size;omega⟩
  have Pq:=re.low 0 _ rfl QF;refine⟨rv,hm.cV fun g V=>⟨key g V.1,V.2⟩,fun g V=>?_⟩;rcases V with V|⟨u,hu,V⟩
  .injection V with V;subst V;exact .inr ⟨Pq.1,_,_,aX.2 rfl,Pq.1,Pq.2⟩
  .exact key g (hF.new u hu g V)
end Go.Ex
