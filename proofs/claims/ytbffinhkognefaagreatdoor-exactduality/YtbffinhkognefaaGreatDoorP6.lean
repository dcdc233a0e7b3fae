/- Texts X31 to X38: lemmas, each with its conditions. -/
import Derived.Test.YtbffinhkognefaaGreatDoorP5
namespace Go.Ex
open Go Go.Sx Go.Proofs
variable{M:List (List Value)}{qs:List Rat}{i:Nat}{C S:Nat->Prop}{a:Option Addr}{q:Rat}{v:Value}{w:World}
def lD(i:Nat)(f:Nat->Rat->Rat)(qs:List Rat):List Rat:=qs.mapIdx fun j q=>if j<i then f j q else q
theorem Ed(f:Nat->Rat->Rat)(qs:List Rat):lD 0 f qs=qs:=by
 apply aj;intro j;simp[lD]
theorem HL(f:Nat->Rat->Rat)(qs:List Rat):lD qs.length f qs=qs.mapIdx f:=by
 apply aj;intro j;simp only[lD,List.getElem?_mapIdx]
 cases h:qs[j]? with
 |none=>rfl
 |some q=>simp[(aH.1 h).1]
theorem ym{f:Nat->Rat->Rat}(h:qs[i]? =some q):(lD i f qs).set i (f i q)=lD (i+1) f qs:=by
 apply aj;intro j;have R:=(aH.1 h).1;by_cases Qg:i=j
 .subst Qg;rw[aO (by simp[lD];exact R)];simp[lD,List.getElem?_mapIdx,h]
 .rw[aV Qg];simp only[lD,List.getElem?_mapIdx]
  have:(j<i)↔(j<i+1):=by omega
  simp[this]
theorem Ee{f:Nat->Rat->Rat}(h:qs[i]? =some q)(hf:f i q=q):lD i f qs=lD (i+1) f qs:=by
 rw[<-ym h,hf];apply aj;intro j;have R:=(aH.1 h).1;by_cases Qg:i=j
 .subst Qg;rw[aO (by simp[lD];exact R)];simp[lD,List.getElem?_mapIdx,h]
 .rw[aV Qg]
theorem Ix{f:Nat->Rat->Rat}(h:qs[i]? =some q):(lD i f qs)[i]? =some q:=by
 simp only[lD,List.getElem?_mapIdx,h]
 simp
def dm(w:World)(C S:Nat->Prop)(v:Value)(qs:List Rat):Prop:=∃M,fy w C 4 v M.flatten qs.length/\Fr w S M qs
section
variable{C C' S S':Nat->Prop}{H:Hp}{nx:Nat}{iv K:Iv}{B:Nat}{w J F:World}{O:Nat->Sx.dc}{v:Value}{qs:List Rat}
theorem dm.cP(h:dm w C S v qs)(Z:∀g,C g\/S g->F.heap[g]? =w.heap[g]?):dm F C S v qs:=by
 obtain⟨M,W,I⟩:=h;exact⟨M,W.cP fun g V=>Z g (.inl V),I.cP fun g V=>Z g (.inr V)⟩
theorem dm.cO(h:dm w C S v qs)(Z:∀g,C g->C' g)(SL:∀g,S g->S' g):dm w C' S' v qs:=by
 obtain⟨M,W,I⟩:=h;exact⟨M,W.cO Z,I.cO SL⟩
theorem dm.rel(h:dm w (Cv C B iv) (Cv S B iv) v qs)(r:Rel H nx iv B w O J)(hC:∀g,C g->g<B)(L:∀g,S g->g<B):dm J (Cv C B iv) (Cv S B iv) v qs:=
 h.cP fun _ V=>V.elim (rls r hC) (rls r L)
theorem dm.cL(h:dm w (Cv C B iv) (Cv S B iv) v qs)(r:Rel H nx iv B w O J)(hC:∀g,C g->g<B)(L:∀g,S g->g<B)(G:Ext J F)(hm:∀p,p∈iv->p∈K):dm F (Cv C B K) (Cv S B K) v qs:=
 ((h.rel r hC L).cP fun g V=>G.block g (V.elim (rlo r hC g) (rlo r L g))).cO (fun _ V=>V.mono hm) (fun _ V=>V.mono hm)
theorem dm.arg(h:dm w C S v qs)(iv:Iv):dm w (Cv C w.heap.size iv) (Cv S w.heap.size iv) v qs:=h.cO (fun _ h=>.inl h) (fun _ h=>.inl h)
end
theorem dm.shape(h:dm w C S v qs):∃a c,v= .slice a qs.length c/\qs.length<=c/\qs.length<=maxLen:=by
 obtain⟨M,⟨h0,_,_,a,c,W,I,_⟩,_⟩:=h;exact⟨a,c,W,I,h0⟩
theorem dm.load{n c j:Nat}(h:dm w C S (.slice a n c) qs)(hq:qs[j]? =some q):
  ∃ad cs,a=some ad/\jP w S cs q/\∀k u,cs[k]? =some u->C ad.block/\w.cell? ((ad.add (j*4)).add k)=some u:=by
 obtain⟨M,⟨h0,W,I,a',c',e,h3,h4⟩,hf⟩:=h;injection e with e1 e2 e3;subst e1;obtain⟨cs,Oz⟩:∃cs,M[j]? =some cs:=⟨_,aE (by rw[hf.1];exact(aH.1 hq).1)⟩
 have hF:=hf.2 j cs q Oz hq;have hl:=hF.len;obtain⟨ad,k1,k2,k3⟩:=h4 (j*4+0) _ (flat_get hf.rj Oz 0 _ (aE (show 0<cs.length by omega)));refine⟨ad,cs,k1,hF,fun k u hu=>?_⟩;obtain⟨ad2,m1,m2,m3⟩:=h4 (j*4+k) u (flat_get hf.rj Oz k u hu);rw[k1]at m1;injection m1 with m1;subst m1;refine⟨m2,?_⟩;rw[<-m3];have:(ad.add (j*4)).add k=ad.add (j*4+k):=by
  unfold Addr.add;split<;>split<;>simp_all<;>omega
 rw[this]
def ot(p:Rat)(ps:List Rat)(j:Nat)(q:Rat):Rat:=q+p*ps.getD j 0
theorem DN(ps qs:List Rat):qs.mapIdx (ot 0 ps)=qs:=by
 apply aj;intro j;rw[List.getElem?_mapIdx]
 cases qs[j]? with
 |none=>rfl
 |some q=>exact congrArg some (by rw[ot,bu,cK])
theorem Ie{vby vs:Value}{n:Nat}{ps:List Rat}{p:Rat}(hC:Old C w)(L:Old S w)(OI:w.ownsRow 0 T.cw 4 v n M.flatten)(Po:Fr w S M qs)(QM:M.length=n)(Om:cY w S vby p)
  (hs:dm w C S vs ps) (Oq:ps.length=n) (hdis:∀g,v.ownBlock=some g->¬S g) (Ly:∀g,v.ownBlock=some g->¬C g) (hq:∀q∈qs,rl q<=2000000000) (hps:∀q∈ps,rl q<=2000000000) (N:rl p<=2000000000):
  eD PG Fd.kG #[v,vby,vs] w (fun e F=>e= .returned (.tuple #[])/\w.grownBy F v.ownBlock/\∃css',F.ownsRow 0 T.cw 4 v n css'.flatten/\css'.length=n/\Fr F (Nw S w F) css' (qs.mapIdx (ot p ps))):=by
 have ON:∀g,v.ownBlock=some g->g<w.heap.size:=fun g V=>(ownsRow.low OI g V).2;have Py:∀iv g,v.ownBlock=some g->Out w.heap.size iv g:=fun iv g V=>.inl (ON g V);have Vw:∀iv g,v.ownBlock=some g->¬Cv S w.heap.size iv g:=fun iv g V h=>by
  rcases h with h|⟨h,_⟩
  .exact hdis g V h
  .have:=ON g V;omega
 have hdis3:∀iv g,v.ownBlock=some g->¬Cv C w.heap.size iv g:=fun iv g V h=>by
  rcases h with h|⟨h,_⟩
  .exact Ly g V h
  .have:=ON g V;omega
 have To:qs.length=n:=by rw[<-Po.1,QM]
 obtain⟨a,c,rfl,So⟩:=eK OI;obtain⟨b1,a1,n1,c1,b2,a2,n2,c2,rfl⟩:=Om.shape;obtain⟨asl,cs0,rfl,Re,VT⟩:=hs.shape;rw[Oq]at Re VT hs ⊢;unfold maxLen at VT;replace Po:=Po.arg [];replace Om:=Om.arg [];replace hs:=hs.arg [];refine uR ce ?_;conv=>whnf
 refine cM (cN (I9:=fun _ _ v _=>v=iV (rs p)) (fun O J r=>lM (rlo r L) (Om.rel r L)) ?_);rintro O wa v1 wb r G OQ rfl;replace Om:=Om.cL (K:=(wa.heap.size,wb.heap.size)::[]) r L G fun x E=>aD _ E;replace Po:=Po.cL (K:=(wa.heap.size,wb.heap.size)::[]) r L G fun x E=>aD _ E;replace hs:=hs.cL (K:=(wa.heap.size,wb.heap.size)::[]) r hC L G fun x E=>aD _ E;have Ox:wb.ownsRow 0 T.cw 4 (.slice a n c) n M.flatten:=ownsRow.cP (iL OI (Py []) r) fun b N=>G.block b (by have:=ON b N;have:=r.cR;omega);have V:w.grownBy wb (Value.slice a n c).ownBlock:=mg OQ;clear r G OQ OI;generalize (wa.heap.size,wb.heap.size)::[]=iv at*
 conv=>whnf
 apply bS<;>intro h0
 .have h0:p=0:=by
   have:rs p=0:=eq_of_beq h0;exact Rat.num_eq_zero.1 (bX.1 this)
  conv=>whnf
  intro In w5 r5;refine⟨rfl,dg V r5.cV,M,iL Ox (Py iv) r5,QM,?_⟩;have:=(Po.rel r5 L).cO (S':=Nw S w w5) fun g V=>Cv.nw V r5;rw[h0,DN];exact this
 clear h0;conv=>whnf
 refine⟨Nat×List (List Value)×Iv×World,fun z=>⟨[(0,sV a n c),(4,pP 0 0),(11,sV asl n cs0),(12,iZ n),(13,iZ z.1)],
   [(0,.box T.cw [.v (.bool b1),.v (.slice a1 n1 c1),.v (.bool b2),.v (.slice a2 n2 c2)])],1,z.2.2.1,z.2.2.2⟩,fun z=>n-z.1,
  fun z=>z.1<=n/\w.grownBy z.2.2.2 (Value.slice a n c).ownBlock/\z.2.2.2.ownsRow 0 T.cw 4 (.slice a n c) n z.2.1.flatten/\z.2.1.length=n/\Fr z.2.2.2 (Cv S w.heap.size z.2.2.1) z.2.1 (lD z.1 (ot p ps) qs)/\
   cY z.2.2.2 (Cv S w.heap.size z.2.2.1) (.agg #[.bool b1,.slice a1 n1 c1,.bool b2,.slice a2 n2 c2]) p/\dm z.2.2.2 (Cv C w.heap.size z.2.2.1) (Cv S w.heap.size z.2.2.1) (.slice asl n cs0) ps,?_,?_⟩
 .intro O J r
  refine⟨(0,M,iv,J),⟨ce,dg V r.cV,iL Ox (Py iv) r,QM,by rw[Ed];exact Po.rel r L,Om.rel r L,hs.rel r hC L⟩,
   sbgn [] r⟩
 clear Ox Po Om QM hs V;rintro⟨i,M,iv,w1⟩ ⟨R,V,OI,QM,Po,Om,hs⟩;dsimp only at R V OI QM Po Om hs ⊢;conv=>whnf
 apply bS<;>intro h
 .have h:=dL h;obtain⟨cs,Oz⟩:=gO M i;obtain⟨q,Sn⟩:=gO qs i;obtain⟨f,VM⟩:=gO ps i;have hF:=Po.2 i cs q Oz (Ix Sn);have hadd:ot p ps i q=q+p*f:=by simp[ot,List.getD,VM]
  obtain⟨d1,e1,m1,k1,d2,e2,m2,k2,rfl,hF⟩:=hF;have hrlq:=hq q (aG Sn);have hrlf:=hps f (aG VM);obtain⟨ad,fcs,Ou,Vj,Pt⟩:=hs.load VM;obtain⟨f1,g1,o1,u1,f2,g2,o2,u2,rfl,Vj⟩:=Vj;conv=>whnf
  refine⟨ad,Ou,be,?_⟩;conv=>whnf
  refine⟨rC f1 g1 o1 u1 f2 g2 o2 u2,rfl,fun O J r j x E=>?_,?_⟩
  .have R9:=hs.rel r hC L;obtain⟨k2',k3⟩:=Pt j x E;have:=rls r hC k2';rw[aN,cg (w:=w1) (F:=J) (by rw[eQ,eQ];exact this)];exact k3
  conv=>whnf
  refine cM (cN (I9:=fun _ _ v _=>v=iV (rs f)) (fun O J r=>lM (rlo r L) (Vj.rel r L)) ?_);rintro O wa v1 wb r G OQ rfl;replace Om:=Om.cL (K:=(wa.heap.size,wb.heap.size)::iv) r L G fun x E=>aD _ E;replace Po:=Po.cL (K:=(wa.heap.size,wb.heap.size)::iv) r L G fun x E=>aD _ E;replace hs:=hs.cL (K:=(wa.heap.size,wb.heap.size)::iv) r hC L G fun x E=>aD _ E;replace Vj:=Vj.cL (K:=(wa.heap.size,wb.heap.size)::iv) r L G fun x E=>aD _ E;replace hF:=hF.cL (K:=(wa.heap.size,wb.heap.size)::iv) r L G fun x E=>aD _ E;replace OI:wb.ownsRow 0 T.cw 4 (.slice a n c) n M.flatten:=ownsRow.cP (iL OI (Py iv) r) fun b N=>G.block b (by have:=ON b N;have:=r.cR;omega);replace V:w.grownBy wb _:=dg V OQ;clear r G OQ Pt;generalize (wa.heap.size,wb.heap.size)::iv=iv2 at*
  conv=>whnf
  apply bS<;>intro hz
  .conv=>whnf
   refine dP (idO 12) ?_;conv=>whnf
   obtain⟨g,rfl,Oj⟩:=qt OI Po Oz;refine⟨⟨g,0,none⟩,rfl,be,?_⟩;conv=>whnf
   refine⟨rC d1 e1 m1 k1 d2 e2 m2 k2,rfl,fun O J r j x E=>?_,?_⟩
   .have:=qt (iL OI (Py iv2) r) (Po.rel r L) Oz;obtain⟨g',W,I⟩:=this;injection W with W;rw[<-W]at I;exact I j x E
   conv=>whnf
   have SI:=jv p f;refine cN (I9:=fun _ J v F=>cY F (Nf J F) v (p*f)) (fun O J r=>nd (rlo r L) (Om.rel r L) (Vj.rel r L) be be) ?_;rintro O wa v1 wb r G OQ hP;have Rs:=hP.eX (S:=S) r.cR (iv:=(wa.heap.size,wb.heap.size)::iv2) aF;replace Om:=Om.cL (K:=(wa.heap.size,wb.heap.size)::iv2) r L G fun x E=>aD _ E;replace Po:=Po.cL (K:=(wa.heap.size,wb.heap.size)::iv2) r L G fun x E=>aD _ E;replace hs:=hs.cL (K:=(wa.heap.size,wb.heap.size)::iv2) r hC L G fun x E=>aD _ E;replace hF:=hF.cL (K:=(wa.heap.size,wb.heap.size)::iv2) r L G fun x E=>aD _ E;replace OI:wb.ownsRow 0 T.cw 4 (.slice (some ⟨g,0,none⟩) n c) n M.flatten:=ownsRow.cP (iL OI (Py iv2) r) fun b N=>G.block b (by have:=ON b N;have:=r.cR;omega);replace V:w.grownBy wb _:=dg V OQ;clear r G OQ hP Vj Oj;generalize (wa.heap.size,wb.heap.size)::iv2=OR at*
   obtain⟨b5,a5,n5,c5,b6,a6,n6,c6,rfl⟩:=Rs.shape;conv=>whnf
   refine cN (I9:=fun _ J v F=>cY F (Nf J F) v (q+p*f)) (fun O J r=>wj (rlo r L) (hF.rel r L) (Rs.rel r L) be be) ?_;rintro O wc v2 wd r G OQ hQ;have hQN:=hQ.eX (S:=S) r.cR (iv:=(wc.heap.size,wd.heap.size)::OR) aF;replace Om:=Om.cL (K:=(wc.heap.size,wd.heap.size)::OR) r L G fun x E=>aD _ E;replace Po:=Po.cL (K:=(wc.heap.size,wd.heap.size)::OR) r L G fun x E=>aD _ E;replace hs:=hs.cL (K:=(wc.heap.size,wd.heap.size)::OR) r hC L G fun x E=>aD _ E;replace OI:wd.ownsRow 0 T.cw 4 (.slice (some ⟨g,0,none⟩) n c) n M.flatten:=ownsRow.cP (iL OI (Py OR) r) fun b N=>G.block b (by have:=ON b N;have:=r.cR;omega);replace V:w.grownBy wd _:=dg V OQ;clear r G OQ hQ Rs hF;generalize (wc.heap.size,wd.heap.size)::OR=Ob at*
   obtain⟨b7,a7,n7,c7,b8,a8,n8,c8,rfl⟩:=hQN.shape;rw[<-hadd]at hQN;conv=>whnf
   refine⟨⟨g,0,none⟩,rfl,be,?_⟩;conv=>whnf
   intro O J r;have Rt:=iL OI (Py Ob) r;have hF5:=(hQN.rel r L).four;obtain⟨g',Qy,OV,Pr,PY,Od⟩:=nJ (nv:=rC b7 a7 n7 c7 b8 a8 n8 c8) Rt rfl h rfl bv;injection Qy with Qy;injection Qy with Qy;subst Qy;have Pp:=mH (cs:=rC b7 a7 n7 c7 b8 a8 n8 c8) Po.rj (show i<M.length by omega);rw[Pp]at Pr;have PN:∀x,Cv S w.heap.size Ob x->(setCells J ⟨g,i*4,none⟩ (rC b7 a7 n7 c7 b8 a8 n8 c8)).heap[x]? =J.heap[x]? :=fun x E=>
    PY.block x (rlo r L x E) fun e=>Vw Ob g rfl (by injection e with e;rw[<-e];exact E)
   have PH:(⟨g,0,none⟩:Addr).add ((i:Int).toNat*4)=⟨g,i*4,none⟩:=by rw[aN,cd,aR]
   have hF6:=((Po.rel r L).cP PN).set (j:=i) (hF5.cP PN);rw[ym (f:=ot p ps) Sn]at hF6;have Vx:=(Om.rel r L).cP PN;have Vy:∀x,Cv C w.heap.size Ob x->(setCells J ⟨g,i*4,none⟩ (rC b7 a7 n7 c7 b8 a8 n8 c8)).heap[x]? =J.heap[x]? :=fun x E=>
    PY.block x (rlo r hC x E) fun e=>hdis3 Ob g rfl (by injection e with e;rw[<-e];exact E)
   have hs6:=(hs.rel r hC L).cP fun x E=>E.elim (Vy x) (PN x);clear Vy;replace V:w.grownBy (setCells J ⟨g,i*4,none⟩ (rC b7 a7 n7 c7 b8 a8 n8 c8)) (some g):=eP (dg V r.cV) PY;have PF:=fun id b N U=>Rel.not r (fun _ h=>h) (Py Ob g rfl) id b N U;clear r Po Om hQN OI Rt hF5 PN Pp PY hs;refine⟨by rw[PH],fun k Z=>by rw[PH];exact OV k Z,fun id b N U=>by rw[PH];exact PF id b N U,fun F Q3=>?_⟩;have Q3:F=setCells J ⟨g,i*4,none⟩ (rC b7 a7 n7 c7 b8 a8 n8 c8):=by rw[Q3];exact congrArg (fun x=>setCells J x _) PH
   rw[<-Q3]at hF6 Vx Pr V Od hs6;clear Q3 OV PF;conv=>whnf
   refine inc i ?_;conv=>whnf
   intro IR w3 r3
   exact⟨(i+1,M.set i (rC b7 a7 n7 c7 b8 a8 n8 c8),Ob,w3),⟨h,dg V r3.cV,iL Pr (Py Ob) r3,by simpa using QM,hF6.rel r3 L,Vx.rel r3 L,hs6.rel r3 hC L⟩,
    sbgn [] r3,by dsimp only;omega⟩
  .have hf0:f=0:=by
    have:rs f=0:=by
     have W:(rs f==0)=true:=by simpa using hz
     exact eq_of_beq W
    exact Rat.num_eq_zero.1 (bX.1 this)
   have OM:ot p ps i q=q:=by rw[hadd,hf0,bI,cK]
   conv=>whnf
   refine inc i ?_;conv=>whnf
   intro IR w3 r3
   exact⟨(i+1,M,iv2,w3),⟨h,dg V r3.cV,iL OI (Py iv2) r3,QM,by rw[<-Ee Sn OM];exact Po.rel r3 L,Om.rel r3 L,hs.rel r3 hC L⟩,
    sbgn [] r3,by dsimp only;omega⟩
 .have h:i=n:=by
   have:¬i<n:=by simpa using h
   omega
  subst h;conv=>whnf
  intro In w5 r5;refine⟨rfl,dg V r5.cV,M,iL OI (Py iv) r5,QM,?_⟩;have:=(Po.rel r5 L).cO (S':=Nw S w w5) fun g V=>Cv.nw V r5
  rwa [<-To,HL]at this
end Go.Ex
namespace Go.Ex
variable{G8:List (List Rat)}{s:List (List Rat)×List Nat}{cols h i n:Nat}
def dZ(G8:List (List Rat))(i c:Nat):Rat:=(G8.getD i []).getD c 0
def iW(G8:List (List Rat))(c:Nat):Nat->Nat->Nat
 |0,k=>k
 |f+1,k=>if dZ G8 k c=0 then iW G8 c f (k+1)else k
def jl{α:Type}(d:α)(l:List α)(i j:Nat):List α:=(l.set i (l.getD j d)).set j (l.getD i d)
def LB(p:Rat)(ps:List Rat)(j:Nat)(q:Rat):Rat:=q+p*ps.getD j 0
def eN(G8:List (List Rat))(at_ c i:Nat):List (List Rat):=G8.mapIdx fun j r=>if j<i/\j≠at_ then r.mapIdx (LB (-(r.getD c 0)) (G8.getD at_ []))else r
def scaled(G8:List (List Rat))(at_ c:Nat):List (List Rat):=G8.set at_ ((G8.getD at_ []).map (· *(1 / dZ G8 at_ c)))
def lf(s:List (List Rat)×List Nat)(c:Nat):List (List Rat)×List Nat:=
 if s.2.length<s.1.length then
  let k:=iW s.1 c (s.1.length-s.2.length) s.2.length
  if k=s.1.length then s else
   let M1:=scaled (jl [] s.1 s.2.length k) s.2.length c
   (eN M1 s.2.length c M1.length,s.2++[c])
 else s
def gT(G8:List (List Rat))(cols:Nat):List (List Rat)×List Nat:=(List.range cols).foldl lf (G8,[])
theorem xY{s:List (List Rat)×List Nat}(h:¬s.2.length<s.1.length):∀l:List Nat,l.foldl lf s=s
 |[]=>rfl
 |c::r=>by
  rw[List.foldl_cons];have:lf s c=s:=by rw[lf,aK h]
  rw[this];exact xY h r
theorem jA{α:Type}(d:α)(l:List α)(i j:Nat):(jl d l i j).length=l.length:=by simp[jl]
theorem ph(G8:List (List Rat))(a c i:Nat):(eN G8 a c i).length=G8.length:=by simp[eN]
theorem mn(G8:List (List Rat))(a c:Nat):(scaled G8 a c).length=G8.length:=by simp[scaled]
theorem xZ(G8:List (List Rat))(c:Nat):∀f k,k<=iW G8 c f k/\iW G8 c f k<=k+f
 |0,k=>⟨ae _,ae _⟩
 |f+1,k=>by
  unfold iW;split
  .have:=xZ G8 c f (k+1);omega
  .omega
theorem CU(G8:List (List Rat))(c:Nat):∀f k,iW G8 c f k<k+f->dZ G8 (iW G8 c f k) c≠0
 |0,k,h=>by simp[iW]at h
 |f+1,k,h=>by
  unfold iW at h ⊢;split
  .rename_i h0;rw[aM h0]at h;exact CU G8 c f (k+1) be
  .rename_i h0;exact h0
theorem Dp{c f k:Nat}(h:dZ G8 k c=0):iW G8 c (f+1) k=iW G8 c f (k+1):=by rw[iW,aM h]
theorem Dq{c f k:Nat}(h:dZ G8 k c≠0):iW G8 c (f+1) k=k:=by rw[iW,aK h]
theorem Ar(G8:List (List Rat))(a c:Nat):eN G8 a c 0=G8:=by
 apply aj;intro j;simp[eN]
theorem Dr(G8:List (List Rat))(a c i:Nat):(eN G8 a c i)[a]? =G8[a]? :=by
 simp only[eN,List.getElem?_mapIdx]
 cases G8[a]? <;>simp
theorem Dt(G8:List (List Rat))(a c i j:Nat)(h:i<=j):(eN G8 a c i)[j]? =G8[j]? :=by
 simp only[eN,List.getElem?_mapIdx]
 cases G8[j]? with
 |none=>rfl
 |some r=>simp;omega
theorem As{a c:Nat}{r:List Rat}(h:G8[i]? =some r)(OL:i≠a):(eN G8 a c i).set i (r.mapIdx (LB (-(r.getD c 0)) (G8.getD a [])))=eN G8 a c (i+1):=by
 apply aj;intro j;have R:=(aH.1 h).1;by_cases Qg:i=j
 .subst Qg;rw[aO (by rw[ph];exact R)];simp[eN,List.getElem?_mapIdx,h,OL]
 .rw[aV Qg];simp only[eN,List.getElem?_mapIdx]
  have:(j<i)↔(j<i+1):=by omega
  simp[this]
theorem Au(G8:List (List Rat))(a c:Nat):eN G8 a c a=eN G8 a c (a+1):=by
 apply aj;intro j;simp only[eN,List.getElem?_mapIdx]
 have:(j<a/\j≠a)↔(j<a+1/\j≠a):=by omega
 simp[this]
def Ht(G8:List (List Rat))(h:Nat):Prop:=∀r∈G8,∀q∈r,rl q+1<=h
theorem Ht.mono{h':Nat}(H:Ht G8 h)(k:h<=h'):Ht G8 h':=fun r hr q hq=>aP (H r hr q hq) k
theorem Ht.at{r:List Rat}(H:Ht G8 h)(R:G8[i]? =some r):∀q∈r,rl q+1<=h:=H r (aG R)
theorem Ht.swap{j:Nat}(H:Ht G8 h)(R:i<G8.length)(hj:j<G8.length):Ht (jl [] G8 i j) h:=by
 intro r hr;have:r∈G8:=by
  unfold jl at hr;rcases bH hr with W|W
  .rcases bH W with I|I
   .exact I
   .rw[I,List.getD,aE hj];exact List.getElem_mem hj
  .rw[W,List.getD,aE R];exact List.getElem_mem R
 exact H r this
theorem Du:rl 1=1:=by decide
theorem uD{q:Rat}(h:q≠0):rl (1 / q)<=rl q+1:=by
 have:=Dn 1 h;rw[Du]at this;omega
theorem lI{r:List Rat}(H:∀q∈r,rl q+1<=h)(I:2<=h)(c:Nat):rl (r.getD c 0)+1<=h:=by
 rw[List.getD]
 cases hc:r[c]? with
 |none=>simp;exact aP bv I
 |some q=>simp;exact H q (aG hc)
theorem GX{j:Nat}(R:i<G8.length)(hj:j<G8.length):(jl [] G8 i j)[i]? =G8[j]? :=by
 unfold jl;by_cases h:j=i
 .subst h;rw[aO (by simpa using R),List.getD,aE R];rfl
 .rw[aV h,aO R,List.getD,aE hj];rfl
theorem CV{j c:Nat}(R:i<G8.length)(hj:j<G8.length):dZ (jl [] G8 i j) i c=dZ G8 j c:=by
 simp only[dZ,List.getD,GX R hj]
theorem Ht.scaled{a c:Nat}(H:Ht G8 h)(I:2<=h)(ha:a<G8.length)(h0:dZ G8 a c≠0):
  (∀r,(scaled G8 a c)[a]? =some r->∀q∈r,rl q+1<=2*h)/\∀j r,j≠a->(scaled G8 a c)[j]? =some r->∀q∈r,rl q+1<=h:=by
 have hA:G8[a]? =some G8[a]:=aE ha;have RI:G8.getD a []=G8[a]:=by rw[List.getD,hA];rfl
 refine⟨fun r hr q hq=>?_,fun j r hj hr q hq=>?_⟩
 .unfold Go.Ex.scaled at hr;rw[aO ha]at hr;injection hr with hr;subst hr;obtain⟨p,hp,rfl⟩:=bD.1 hq;rw[RI]at hp;have W:=H.at hA p hp;have h3:=jv p (1 / dZ G8 a c);have h4:=uD h0;have h5:=lI (H.at hA) I c;have h6:dZ G8 a c=G8[a].getD c 0:=by rw[dZ,RI]
  rw[h6]at h4 h3;rw[h6];omega
 .unfold Go.Ex.scaled at hr;rw[aV (Ne.symm hj)]at hr;exact H.at hr q hq
theorem Ht.FG{a c:Nat}(hA:∀r,G8[a]? =some r->∀q∈r,rl q+1<=2*h)(hB:∀j r,j≠a->G8[j]? =some r->∀q∈r,rl q+1<=h)(I:2<=h):Ht (eN G8 a c i) (4*h):=by
 intro r hr q hq;obtain⟨j,hj⟩:=aY hr;simp only[eN,List.getElem?_mapIdx,Option.map_eq_some_iff]at hj;obtain⟨r0,R6,hj⟩:=hj;split at hj
 .rename_i hc;subst hj;obtain⟨x,E⟩:=aY hq;simp only[List.getElem?_mapIdx,Option.map_eq_some_iff]at E;obtain⟨q0,hq0,rfl⟩:=E;have W:=hB j r0 hc.2 R6 q0 (aG hq0);have h3:=lI (hB j r0 hc.2 R6) I c;have h4:rl ((G8.getD a []).getD x 0)+1<=2*h:=by
   cases hM:G8[a]? with
   |none=>
    have:G8.getD a []=[]:=by rw[List.getD,hM];rfl
    rw[this];show rl 0+1<=_;exact aP bv (show 2<=2*h by omega)
   |some ra=>
    have:G8.getD a []=ra:=by rw[List.getD,hM];rfl
    rw[this];exact lI (hA ra hM) be x
  unfold LB;have h5:=Aq q0 (-(r0.getD c 0)*(G8.getD a []).getD x 0);have h6:=jv (-(r0.getD c 0)) ((G8.getD a []).getD x 0);have h7:=jM (r0.getD c 0);omega
 .subst hj;by_cases XQ:j=a
  .subst XQ;have:=hA r0 R6 q hq;omega
  .have:=hB j r0 XQ R6 q hq;omega
def Inv(G8:List (List Rat))(cols h0:Nat)(s:List (List Rat)×List Nat):Prop:=s.1.length=G8.length/\s.2.length<=G8.length/\(∀p∈s.2,p<cols)/\Ht s.1 (4^s.2.length*h0)
theorem Inv.step{h0 c:Nat}(h:Inv G8 cols h0 s)(hc:c<cols)(I:2<=h0):Inv G8 cols h0 (lf s c):=by
 obtain⟨W,h3,h4,h5⟩:=h;unfold lf;split
 .rename_i Oo;dsimp only
  split
  .exact⟨W,h3,h4,h5⟩
  .rename_i Z;have hle:=xZ s.1 c (s.1.length-s.2.length) s.2.length;have Uy:iW s.1 c (s.1.length-s.2.length) s.2.length<s.1.length:=by omega
   have OL:=CU s.1 c (s.1.length-s.2.length) s.2.length be;have UJ:2<=4^s.2.length*h0:=aP I (Nat.le_mul_of_pos_left _ (Nat.pow_pos bv));have h6:=h5.swap Oo Uy;have h7:=h6.scaled (a:=s.2.length) (c:=c) UJ (by rw[jA];exact Oo) (by rw[CV Oo Uy];exact OL);refine⟨by dsimp only;rw[ph,mn,jA,W],by simp;omega,fun p hp=>?_,?_⟩
   .dsimp only at hp;rcases bY.1 hp with hp|hp
    .exact h4 p hp
    .simp at hp;omega
   .dsimp only
    have:4^(s.2++[c]).length*h0=4*(4^s.2.length*h0):=by
     rw[aU,List.length_singleton,Nat.pow_succ,bV (4^s.2.length) 4,bc]
    rw[this];exact Ht.FG h7.1 h7.2 UJ
 .exact⟨W,h3,h4,h5⟩
theorem uv{h0:Nat}(h:Ht G8 h0)(I:2<=h0):Inv G8 cols h0 (gT G8 cols):=by
 have key:∀(l:List Nat) (s:List (List Rat)×List Nat),(∀c∈l,c<cols)->Inv G8 cols h0 s->Inv G8 cols h0 (l.foldl lf s):=by
  intro l
  induction l with
  |nil=>intro s _ hs;exact hs
  |cons c r ih=>
   intro s hc hs;rw[List.foldl_cons];exact ih _ (fun x E=>hc x (aD _ E)) (hs.step (hc c aF) I)
 exact key _ _ (fun c hc=>List.mem_range.1 hc) ⟨rfl,bA _,ce,by simpa using h⟩
def pf(n:Nat)(G8:List (List Rat)):Prop:=∀r∈G8,r.length=n
theorem pf.set{r:List Rat}(h:pf n G8)(hr:r.length=n):pf n (G8.set i r):=fun x E=>by
 rcases bH E with W|W
 .exact h x W
 .rw[W];exact hr
theorem pf.getD(h:pf n G8)(R:i<G8.length):(G8.getD i []).length=n:=by
 rw[List.getD,aE R];exact h _ (List.getElem_mem R)
theorem pf.step{c:Nat}(h:pf n s.1):pf n (lf s c).1:=by
 unfold lf;split
 .rename_i Oo;dsimp only
  split
  .exact h
  .rename_i Z;have hle:=xZ s.1 c (s.1.length-s.2.length) s.2.length;have Uy:iW s.1 c (s.1.length-s.2.length) s.2.length<s.1.length:=by omega
   dsimp only
   generalize iW s.1 c (s.1.length-s.2.length) s.2.length=k at*
   have W:pf n (jl [] s.1 s.2.length k):=(h.set (h.getD Uy)).set (h.getD Oo);have I:pf n (scaled (jl [] s.1 s.2.length k) s.2.length c):=W.set (by rw[aJ];exact W.getD (by rw[jA];exact Oo));intro r hr;obtain⟨j,hj⟩:=aY hr;simp only[eN,List.getElem?_mapIdx,Option.map_eq_some_iff]at hj;obtain⟨r0,R6,hj⟩:=hj;have h3:=I r0 (aG R6);split at hj
   .subst hj;rw[List.length_mapIdx];exact h3
   .subst hj;exact h3
 .exact h
theorem Cc(h:pf n G8):pf n (gT G8 cols).1:=by
 have key:∀(l:List Nat) (s:List (List Rat)×List Nat),pf n s.1->pf n (l.foldl lf s).1:=by
  intro l
  induction l with
  |nil=>intro s hs;exact hs
  |cons c r ih=>intro s hs;exact ih _ hs.step
 exact key _ _ h
end Go.Ex
namespace Go.Ex
open Go Go.Sx Go.Proofs
variable{qs':List Rat}{i:Nat}
structure iC(w:World)(S:Nat->Prop)(vm:Value)(rv:List Value)(n:Nat)(G8:List (List Rat)):Prop where
 out:w.ownsRow 0 T.row 1 vm rv.length rv
 len:rv.length=G8.length
 row:∀(i:Nat) v qs,rv[i]? =some v->G8[i]? =some qs->∃M,w.ownsRow 0 T.cw 4 v n M.flatten/\M.length=n/\Fr w S M qs
 D4:∀(i j:Nat) a b g,rv[i]? =some a->rv[j]? =some b->a.ownBlock=some g->b.ownBlock=some g->i=j
 DA:∀v∈rv,∀g,v.ownBlock=some g->vm.ownBlock≠some g
def Mb(vm:Value)(rv:List Value)(g:Nat):Prop:=vm.ownBlock=some g\/∃v∈rv,v.ownBlock=some g
structure Kept(w F:World)(X:Nat->Prop):Prop where
 os:F.os=w.os
 tape:F.tape=w.tape
 output:F.output=w.output
 size:w.heap.size<=F.heap.size
 block:∀k,k<w.heap.size->¬X k->F.heap[k]? =w.heap[k]?
section
variable{S S' X:Nat->Prop}{H:Hp}{nx n:Nat}{iv K:Iv}{B:Nat}{w J F w3:World}{O:Nat->Sx.dc}{vm:Value}{rv:List Value}{G8:List (List Rat)}
theorem Kept.refl:Kept w w X:=⟨rfl,rfl,rfl,lr,fun _ _ _=>rfl⟩
theorem Kept.trans(h:Kept w F X)(k:Kept F w3 X):Kept w w3 X:=
 ⟨k.os.trans h.os,k.tape.trans h.tape,k.output.trans h.output,aP h.size k.size,fun j hj E=>(k.block j (Nat.lt_of_lt_of_le hj h.size) E).trans (h.block j hj E)⟩
theorem Kept.cV(h:Bel B F w3)(k:Kept w F X)(hB:w.heap.size<=B):Kept w w3 X:=
 ⟨h.os.trans k.os,h.tape.trans k.tape,h.output.trans k.output,aP k.size h.size,fun j hj E=>(h.block j be).trans (k.block j hj E)⟩
theorem Kept.row{row:Option Nat}(h:Kept w F X)(k:F.grownBy w3 row)(hX:∀g,row=some g->X g):Kept w w3 X:=
 ⟨k.os.trans h.os,k.tape.trans h.tape,k.output.trans h.output,aP h.size k.size,fun j hj E=>(k.block j (Nat.lt_of_lt_of_le hj h.size) (fun e=>E (hX j e.symm))).trans (h.block j hj E)⟩
theorem iC.cP(h:iC w S vm rv n G8)(Z:∀g,S g\/Mb vm rv g->F.heap[g]? =w.heap[g]?):iC F S vm rv n G8:=by
 refine⟨ownsRow.cP h.out fun g V=>Z g (.inr (.inl V)),h.len,fun i v qs W I=>?_,h.D4,h.DA⟩;obtain⟨M,h3,h4,h5⟩:=h.row i v qs W I;exact⟨M,ownsRow.cP h3 fun g V=>Z g (.inr (.inr ⟨v,aG W,V⟩)),h4,h5.cP fun g V=>Z g (.inl V)⟩
theorem iC.cO(h:iC w S vm rv n G8)(Z:∀g,S g->S' g):iC w S' vm rv n G8:=
 ⟨h.out,h.len,fun i v qs W I=>(h.row i v qs W I).imp fun _ h=>⟨h.1,h.2.1,h.2.2.cO Z⟩,h.D4,h.DA⟩
theorem iC.low(h:iC w S vm rv n G8):∀g,Mb vm rv g->g<w.heap.size:=fun g V=>by
 rcases V with V|⟨v,hv,V⟩
 .exact(ownsRow.low h.out g V).2
 .obtain⟨i,R⟩:=aY hv;have hl:=(aH.1 R).1;obtain⟨M,W,_⟩:=h.row i v _ R (aE (by rw[<-h.len];exact hl));exact(ownsRow.low W g V).2
theorem iC.rel(h:iC w (Cv S B iv) vm rv n G8)(r:Rel H nx iv B w O J)(L:∀g,S g->g<B)(hm:∀g,Mb vm rv g->g<B):iC J (Cv S B iv) vm rv n G8:=
 h.cP fun _ V=>V.elim (rls r L) (fun V=>rls (S:=fun g=>g<B) r (fun _ h=>h) (.inl (hm _ V)))
theorem iC.cL(h:iC w (Cv S B iv) vm rv n G8)(r:Rel H nx iv B w O J)(L:∀g,S g->g<B)(hm:∀g,Mb vm rv g->g<B)(G:Ext J F)(R:∀p,p∈iv->p∈K):iC F (Cv S B K) vm rv n G8:=
 ((h.rel r L hm).cP fun g V=>G.block g (V.elim (rlo r L g) (oS hm r g))).cO fun _ V=>V.mono R
theorem iC.setRow(h:iC w S vm rv n G8)(L:Old S w)(Qk:∀g,S g->¬Mb vm rv g){v:Value}(hv:rv[i]? =some v)(V:w.grownBy F v.ownBlock)(hSS:∀g,S g->S' g)
  (OI:∃M,F.ownsRow 0 T.cw 4 v n M.flatten/\M.length=n/\Fr F S' M qs'):iC F S' vm rv n (G8.set i qs'):=by
 have ON:=h.low;have Pm:∀g,g<w.heap.size->v.ownBlock≠some g->F.heap[g]? =w.heap[g]? :=fun g W I=>V.block g W (Ne.symm I);refine⟨ownsRow.cP h.out fun g Qt=>Pm g (ON g (.inl Qt)) (fun e=>h.DA v (aG hv) g e Qt),by rw[h.len];simp,fun j u qs W I=>?_,h.D4,h.DA⟩;by_cases Qg:i=j
 .subst Qg;rw[hv]at W;injection W with W;subst W;have hl:=(aH.1 hv).1;rw[aO (by rw[<-h.len];exact hl)]at I;injection I with I;subst I;exact OI
 .rw[aV Qg]at I;obtain⟨M,h3,h4,h5⟩:=h.row j u qs W I;refine⟨M,ownsRow.cP h3 fun g hgu=>Pm g (ownsRow.low h3 g hgu).2 (fun e=>Qg (h.D4 i j v u g hv W e hgu)),h4,(h5.cP fun g hgs=>?_).cO hSS⟩;exact Pm g (L g hgs) fun e=>Qk g hgs (.inr ⟨v,aG hv,e⟩)
theorem iC.swap(h:iC w S vm rv n G8)(Qk:∀g,S g->¬Mb vm rv g){j:Nat}{a b:Value}(R:rv[i]? =some a)(hj:rv[j]? =some b)(Py:F.ownsRow 0 T.row 1 vm rv.length ((rv.set i b).set j a))(Pm:∀g,S g\/Mb vm rv g->vm.ownBlock≠some g->F.heap[g]? =w.heap[g]?):
  iC F S vm ((rv.set i b).set j a) n (jl [] G8 i j):=by
 have Wa:=(aH.1 R).1;have RP:=(aH.1 hj).1;have hmi:G8.getD i []=G8[i]'(by rw[<-h.len];exact Wa):=by rw[List.getD,aE (by rw[<-h.len];exact Wa)];rfl
 have hmj:G8.getD j []=G8[j]'(by rw[<-h.len];exact RP):=by rw[List.getD,aE (by rw[<-h.len];exact RP)];rfl
 have key:∀k v qs,((rv.set i b).set j a)[k]? =some v->(jl [] G8 i j)[k]? =some qs->∃k',rv[k']? =some v/\G8[k']? =some qs/\k'=(if k=j then i else if k=i then j else k):=by
  intro k v qs W I;unfold jl at I;rw[hmi,hmj]at I;by_cases Tf:j=k
  .subst Tf;rw[aO (by simp;exact RP)]at W;rw[aO (by simp;rw[<-h.len];exact RP)]at I;injection W with W;injection I with I;subst W I;exact⟨i,R,aE _,ce⟩
  .rw[aV Tf]at W I;by_cases TA:i=k
   .subst TA;rw[aO Wa]at W;rw[aO (by rw[<-h.len];exact Wa)]at I;injection W with W;injection I with I;subst W I;exact⟨j,hj,aE _,by rw[aK (Ne.symm Tf),aM rfl]⟩
   .rw[aV TA]at W I;exact⟨k,W,I,by rw[aK (Ne.symm Tf),aK (Ne.symm TA)]⟩
 have hlen:((rv.set i b).set j a).length=rv.length:=by simp
 have Xg:(jl [] G8 i j).length=rv.length:=by rw[jA,h.len]
 have keyv:∀k v,((rv.set i b).set j a)[k]? =some v->∃k',rv[k']? =some v/\k'=(if k=j then i else if k=i then j else k):=fun k v W=>by
  have hl:=(aH.1 W).1;obtain⟨k',I,_,h3⟩:=key k v _ W (aE (by rw[Xg,<-hlen];exact hl));exact⟨k',I,h3⟩
 refine⟨by rw[hlen];exact Py,by rw[hlen,Xg],fun k v qs W I=>?_,fun k1 k2 v1 v2 g W I e1 e2=>?_,fun v hv g hgv=>?_⟩
 .obtain⟨k',h3,h4,_⟩:=key k v qs W I;obtain⟨M,h5,h6,h7⟩:=h.row k' v qs h3 h4;have hvm:=h.DA v (aG h3);exact⟨M,ownsRow.cP h5 fun g hgu=>Pm g (.inr (.inr ⟨v,aG h3,hgu⟩)) (hvm g hgu),h6,h7.cP fun g hgs=>Pm g (.inl hgs) fun e=>Qk g hgs (.inl e)⟩
 .obtain⟨k3,h3,h4⟩:=keyv k1 v1 W;obtain⟨k5,h5,h6⟩:=keyv k2 v2 I;have:=h.D4 k3 k5 v1 v2 g h3 h5 e1 e2;split at h4<;>split at h6<;>(try split at h4)<;>(try split at h6)<;>omega
 .obtain⟨k,Z⟩:=aY hv;obtain⟨k',h3,_⟩:=keyv k v Z;exact h.DA v (aG h3) g hgv
theorem Mb.swap{j:Nat}{a b:Value}(R:rv[i]? =some a)(hj:rv[j]? =some b){g:Nat}:Mb vm ((rv.set i b).set j a) g↔Mb vm rv g:=by
 have Wa:=(aH.1 R).1;have RP:=(aH.1 hj).1;unfold Mb;refine or_congr Iff.rfl ⟨fun ⟨v,hv,h⟩=>⟨v,?_,h⟩,fun⟨v,hv,h⟩=>⟨v,?_,h⟩⟩
 .rcases bH hv with W|W
  .rcases bH W with I|I
   .exact I
   .rw[I];exact aG hj
  .rw[W];exact aG R
 .obtain⟨k,Z⟩:=aY hv;by_cases Tf:k=j
  .subst Tf;rw[hj]at Z;injection Z with Z;subst Z;by_cases hik:i=k
   .subst hik;rw[R]at hj;injection hj with hj;subst hj;exact aG (i:=i) (by rw[aO (by simp;exact Wa)])
   .exact aG (i:=i) (by rw[aV (Ne.symm hik),aO Wa])
  .by_cases TA:k=i
   .subst TA;rw[R]at Z;injection Z with Z;subst Z;exact aG (i:=j) (by rw[aO (by simp;exact RP)])
   .exact aG (i:=k) (by rw[aV (Ne.symm Tf),aV (Ne.symm TA)];exact Z)
end
end Go.Ex
namespace Go.Sx
open Go Go.Ex Go.Proofs
section
variable{O:Nat->Sx.dc}
theorem Rel.yn{H:Hp}{nx:Nat}{iv:Iv}{B:Nat}{w J F:World}{row:Option Nat}(r:Rel H nx iv B w O J)(OL:∀g,row=some g->∀id b,dF H id=some b->(O id).nil=false->(O id).g≠g)(h:J.grownBy F row):Rel H nx ((J.heap.size,F.heap.size)::iv) B F O F:=
 r.zb h.size (fun id b N U=>h.block _ (r.low id b N U).2 fun e=>OL _ e.symm id b N U rfl) fun lo R hm=>by
  rcases List.mem_cons.1 hm with e|hm
  .injection e with e1 e2;subst e1 e2;exact⟨lr,fun id b N U=>by have:=(r.low id b N U).2;omega⟩
  .exact⟨by have:=r.nG lo R hm;have:=r.size;have:=h.size;omega,fun id b N U=>r.ix lo R hm id b N U⟩
end
variable{O:Nat->Sx.dc}
theorem Sub.nil{B nx:Nat}{l:Env}{H:Hp}{iv:Iv}{w J:World}{t:CB}(u e sz:Nat)(h9:fH l u=some (sV none 0 0))(Re:ka nx l)(r:Rel H nx iv B w O J)
  (h:∀Id,Rel ((nx,.vec e sz [])::H) (nx+1) iv B w Id J->Sx.Sub B ((u,.o (.w nx 0))::l) (nx+1) Id J t):Sx.Sub B l nx O J t:=by
 have r1:=r.push (.vec e sz []) ⟨0,0,true⟩ (F:=J) rfl rfl rfl lr (fun _ _=>rfl) (fun h=>by cases h) (.inl ⟨rfl,rfl⟩) trivial;obtain⟨G9,W,I⟩:=h _ r1;refine⟨G9,W,fun x v hv=>?_⟩;obtain⟨h3,v0,h4,h5⟩:=I x v hv;refine⟨h3,?_⟩;rw[eU]at h4;split at h4
 .rename_i e;subst e;injection h4 with h4;subst h4;refine⟨_,h9,?_⟩;rw[<-h5];simp[SV.den,At.den,ek]
 .refine⟨v0,h4,?_⟩;rw[<-h5];exact SV.js (fun id Pk=>gN id Pk) (Re.get _ _ h4)
end Go.Sx
namespace Go.Ex
open Go Go.Sx Go.Proofs
section
variable{G8:List (List Rat)}{qs:List Rat}{rv:List Value}{k n:Nat}{S:Nat->Prop}{O:Nat->Sx.dc}{am:Option Addr}{v vm:Value}{w:World}
theorem ji{H:Hp}{nx:Nat}{iv:Iv}{B:Nat}{J:World}{a:Addr}{x:Value}(h:w.cell? a=some x)(N:Out B iv a.block)(r:Rel H nx iv B w O J):J.cell? a=some x:=by
 rw[cg (rls r (fun _ h=>h) N)];exact h
structure Mg(w:World)(S:Nat->Prop)(rv:List Value)(n:Nat)(G8:List (List Rat))(gm k c g ck:Nat)(q:Rat)(d1:Bool)(e1:Option Addr)(m1 k1:Nat)(d2:Bool)(e2:Option Addr)(m2 k2:Nat):Prop where
 rv:rv[k]? =some (.slice (some ⟨g,0,none⟩) n ck)
 at_:dZ G8 k c=q
 Lg:cY w S (.agg #[.bool d1,.slice e1 m1 k1,.bool d2,.slice e2 m2 k2]) q
 outer:w.cell? (Addr.add ⟨gm,0,none⟩ (k*1))=some (.slice (some ⟨g,0,none⟩) n ck)
 cells:∀j u,[Value.bool d1,.slice e1 m1 k1,.bool d2,.slice e2 m2 k2][j]? =some u->w.cell? ((Addr.add ⟨g,0,none⟩ (c*4)).add j)=some u
theorem iC.outer{FS cm:Nat}(h:iC w S (.slice am FS cm) rv n G8)(Z:rv[k]? =some v):
  ∃gm,am=some ⟨gm,0,none⟩/\w.cell? (Addr.add ⟨gm,0,none⟩ (k*1))=some v:=by
 rcases h.out.2 with⟨W,h0⟩|⟨gm,cap,cur,e,_⟩
 .have:=(aH.1 Z).1;omega
 .injection e with e1 e2 e3;refine⟨gm,e1,?_⟩;have:=h.out.cells (g:=gm) (by rw[e1];rfl) k v Z;rw[bC];exact this
theorem iC.elem{FS cm:Nat}(h:iC w S (.slice am FS cm) rv n G8){c:Nat}(Z:k<rv.length)(hc:c<n):
  ∃gm g ck q d1 e1 m1 k1 d2 e2 m2 k2,am=some ⟨gm,0,none⟩/\Mg w S rv n G8 gm k c g ck q d1 e1 m1 k1 d2 e2 m2 k2:=by
 obtain⟨v,hv⟩:=gO rv k;obtain⟨qs,WU⟩:∃qs,G8[k]? =some qs:=⟨_,aE (by rw[<-h.len];exact Z)⟩
 obtain⟨M,OI,QM,Po⟩:=h.row k v qs hv WU;obtain⟨a,ck,rfl,_⟩:=eK OI;obtain⟨cs,Oz⟩:=gO M c;obtain⟨q,hq⟩:∃q,qs[c]? =some q:=⟨_,aE (by rw[<-Po.1];omega)⟩
 obtain⟨g,rfl,Oj⟩:=qt OI Po Oz;obtain⟨d1,e1,m1,k1,d2,e2,m2,k2,rfl,hF⟩:=Po.2 c cs q Oz hq;obtain⟨gm,rfl,ho⟩:=h.outer hv;exact⟨gm,g,ck,q,d1,e1,m1,k1,d2,e2,m2,k2,rfl,hv,by simp[dZ,List.getD,WU,hq],hF,ho,Oj⟩
theorem B9{α:Type}{xs:List α}{j:Nat}{v:α}(h:j<xs.length):xs.take (j*1)++[v]++xs.drop (j*1+1)=xs.set j v:=by
 rw[bC,List.set_eq_take_append_cons_drop,aM h];simp
theorem iC.Nc(h:iC w S vm rv n G8)(hv:rv[k]? =some v)(hq:G8[k]? =some qs)(U:n<=maxLen):
  dm w (fun g=>v.ownBlock=some g) S v qs/\qs.length=n:=by
 obtain⟨M,W,I,h3⟩:=h.row k v qs hv hq;have hl:qs.length=n:=by rw[<-h3.1,I]
 refine⟨⟨M,?_,h3⟩,hl⟩;rw[hl];rcases W.2 with⟨rfl,rfl⟩|⟨g,cap,cur,rfl,N,hc,RL,Pu,Od,QJ⟩
 .refine⟨U,W.1,h3.one,none,0,rfl,lr,fun j u hu=>?_⟩;have:=W.1;rw[Nat.zero_mul]at this;rw[List.eq_nil_of_length_eq_zero this]at hu
  cases hu
 .refine⟨U,W.1,h3.one,_,cap,rfl,RL,fun j u hu=>⟨_,rfl,rfl,?_⟩⟩;exact W.cells (g:=g) rfl j u hu
theorem Iy{cols h0:Nat}(L:Old S w)(hM:iC w S vm rv n G8)(Qk:∀g,S g->¬Mb vm rv g)(U:n<=1000000)(hR:G8.length<=1000000)(Rv:cols<=n)
  (Xh:Ht G8 h0) (I:2<=h0) (N:4^G8.length*h0<=500000000):
  eD PG Fd.tJ #[vm,iV cols] w (fun e F=>∃v rv',e= .returned v/\Kept w F (Mb vm rv)/\iC F (Nw S w F) vm rv' n (gT G8 cols).1/\(∀g,Mb vm rv' g↔Mb vm rv g)/\
   fy F (Nf w F) 1 v ((gT G8 cols).2.map fun c:Nat=>iV (c:Int)) (gT G8 cols).2.length):=by
 have ON:=hM.low;have Pq:∀iv g,Mb vm rv g->Out w.heap.size iv g:=fun iv g V=>.inl (ON g V);have TO:∀iv g,Cv S w.heap.size iv g->¬Mb vm rv g:=fun iv g h V=>by
  rcases h with h|⟨h,_⟩
  .exact Qk g h V
  .have:=ON g V;omega
 obtain⟨am,cm,rfl,Rd⟩:=eK hM.out;have hlen:=hM.len;generalize hRdef:rv.length=FS at*
 have hMl:=hlen;replace hM:=hM.cO (S':=Cv S w.heap.size []) fun _ h=>.inl h;refine wG ce ?_;conv=>whnf
 refine⟨Nat×List Value×List (List Rat)×List Nat×Iv×World,fun z=>⟨[(0,sV am FS cm),(1,iZ cols),(5,.o (.w 0 z.2.2.2.1.length)),(6,iZ z.1)],
   [(0,.vec T.int 1 (z.2.2.2.1.map fun c:Nat=>iV (c:Int)))],1,z.2.2.2.2.1,z.2.2.2.2.2⟩,fun z=>cols-z.1,
  fun z=>z.1<=cols/\Kept w z.2.2.2.2.2 (Mb (.slice am FS cm) rv)/\iC z.2.2.2.2.2 (Cv S w.heap.size z.2.2.2.2.1) (.slice am FS cm) z.2.1 n z.2.2.1/\(∀g,Mb (.slice am FS cm) z.2.1 g↔Mb (.slice am FS cm) rv g)/\
   z.2.1.length=FS/\(z.2.2.1,z.2.2.2.1)=(List.range z.1).foldl lf (G8,[])/\z.2.2.2.1.length<=FS/\Ht z.2.2.1 (4^z.2.2.2.1.length*h0),?_,?_⟩
 .intro O J r
  refine⟨(0,rv,G8,[],[],J),⟨ce,Kept.refl.cV r.cV lr,hM.rel r L ON,fun g=>Iff.rfl,hRdef,rfl,ce,by simpa using Xh⟩,Sub.nil 5 T.int 1 rfl (by simp[ka,SV.sc,At.sc,gW]) r fun Id r1=>
   sbgn [] r1⟩
 clear hM;rintro⟨c,rv1,M1,pv,iv,w1⟩ ⟨hc,hK,hM,R7,QG,TP,Oq,hht1⟩;dsimp only at hc hK hM R7 QG TP Oq hht1 ⊢;have hlM:M1.length=FS:=by rw[<-hM.len,QG]
 have SS:w1.ownsRow 0 T.row 1 (.slice am FS cm) FS rv1:=by have:=hM.out;rwa [QG]at this
 have htot:cols<=c\/FS<=pv.length->(M1,pv)=gT G8 cols:=fun h=>by
  unfold gT;rcases h with h|h
  .have:c=cols:=by omega
   rw[TP,this]
  .have h3:List.range cols=List.range c++(List.range (cols-c)).map (c+ ·):=by
    rw[<-List.range_add];congr 1;omega
   rw[h3,List.foldl_append,<-TP,xY (by simp only;omega)]
 conv=>whnf
 apply bS<;>intro h
 .have h:=dL h;conv=>whnf
  refine⟨ce,?_⟩;conv=>whnf
  apply bS<;>intro hp
  .have hp:pv.length<FS:=by simpa using hp
   have PS:∀{v:Value} {k gx:Nat},rv1[k]? =some v->v.ownBlock=some gx->Mb (.slice am FS cm) rv gx:=fun W I=>(R7 _).1 (.inr ⟨_,aG W,I⟩);conv=>whnf
   refine⟨ce,?_⟩;conv=>whnf
   refine⟨Nat×Iv×World,fun z=>⟨[(0,sV am FS cm),(1,iZ cols),(5,.o (.w 0 pv.length)),(6,iZ c),(7,iZ pv.length),(8,iZ z.1)],
     [(0,.vec T.int 1 (pv.map fun c:Nat=>iV (c:Int)))],1,z.2.1,z.2.2⟩,fun z=>FS-z.1,
    fun z=>pv.length<=z.1/\z.1<=FS/\Kept w z.2.2 (Mb (.slice am FS cm) rv)/\iC z.2.2 (Cv S w.heap.size z.2.1) (.slice am FS cm) rv1 n M1/\iW M1 c (FS-z.1) z.1=iW M1 c (FS-pv.length) pv.length,?_,?_⟩
   .intro O J r
    exact⟨(pv.length,iv,J),⟨lr,by dsimp only;omega,hK.cV r.cV lr,hM.rel r L (fun g V=>ON g ((R7 g).1 V)),rfl⟩,
     sbgn [] r⟩
   clear hK hM SS;rintro⟨k,iv2,F⟩ ⟨SU,hkR,hK,hM,hfk⟩;dsimp only at SU hkR hK hM hfk ⊢;conv=>whnf
   apply bS<;>intro Z
   .have Z:=dL Z;obtain⟨gm,g,ck,q,d1,e1,m1,k1,d2,e2,m2,k2,rfl,hE⟩:=hM.elem (k:=k) (c:=c) be be;have WV:=PS hE.rv rfl;conv=>whnf
    refine⟨⟨gm,0,none⟩,rfl,be,?_⟩;conv=>whnf
    refine⟨.slice (some ⟨g,0,none⟩) n ck,fun O J r=>ji hE.outer (Pq _ _ (.inl (by rw[eQ];rfl))) r,?_⟩;conv=>whnf
    refine⟨⟨g,0,none⟩,rfl,be,?_⟩;conv=>whnf
    refine⟨rC d1 e1 m1 k1 d2 e2 m2 k2,rfl,fun O J r j x E=>ji (hE.cells j x E) (Pq _ _ (by rw[eQ,eQ];exact WV)) r,?_⟩;conv=>whnf
    refine cM (cN (I9:=fun _ _ v _=>v=iV (rs q)) (fun O J r=>lM (rlo r L) (hE.Lg.rel r L)) ?_);rintro O wa v1 wb r G OQ rfl;replace hM:=hM.cL (K:=(wa.heap.size,wb.heap.size)::iv2) r L (fun g V=>ON g ((R7 g).1 V)) G fun x E=>aD _ E;replace hK:=hK.cV OQ lr;have hq:=hE.at_;clear r G OQ hE WV;generalize (wa.heap.size,wb.heap.size)::iv2=OR at*
    conv=>whnf
    apply bS<;>intro h0
    .have h0:q=0:=by
      have:rs q=0:=eq_of_beq h0;exact Rat.num_eq_zero.1 (bX.1 this)
     have Qa:iW M1 c (FS-(k+1)) (k+1)=iW M1 c (FS-pv.length) pv.length:=by
      rw[<-hfk,show FS-k=(FS-(k+1))+1 by omega,Dp (by rw[hq,h0])]
     conv=>whnf
     refine inc k ?_;conv=>whnf
     intro IR w3 r3
     exact⟨(k+1,OR,w3),⟨by dsimp only;omega,Z,hK.cV r3.cV lr,hM.rel r3 L (fun g V=>ON g ((R7 g).1 V)),Qa⟩,
      sbgn [] r3,by dsimp only;omega⟩
    .have h0':q≠0:=fun e=>by rw[e]at h0;exact absurd h0 bv
     clear h0;have hfk2:iW M1 c (FS-pv.length) pv.length=k:=by
      rw[<-hfk,show FS-k=(FS-(k+1))+1 by omega,Dq (by rw[hq];exact h0')]
     conv=>whnf
     apply bS<;>intro TT
     .exact absurd (eq_of_beq TT) be
     clear TT;conv=>whnf
     refine dP (idO 16) ?_;conv=>whnf
     obtain⟨vk,hvk⟩:=gO rv1 k;obtain⟨va,Rb⟩:=gO rv1 pv.length;obtain⟨_,Qt,OV⟩:=hM.outer hvk;injection Qt with Qt;injection Qt with Qt;subst Qt;obtain⟨_,Qt,hoa⟩:=hM.outer Rb;injection Qt with Qt;injection Qt with Qt;subst Qt;obtain⟨cssk,hrk,-,-⟩:=hM.row k vk M1[k] hvk (aE be);obtain⟨cssa,UA,-,-⟩:=hM.row pv.length va M1[pv.length] Rb (aE be);obtain⟨ak,ck',rfl,-⟩:=eK hrk;obtain⟨aa,ca,rfl,-⟩:=eK UA;clear hrk UA;have UB:∀{iv x},Out w.heap.size iv ((Addr.add ⟨gm,0,none⟩ x).block):=fun{iv x}=>Pq _ _ (.inl (by rw[eQ];rfl));refine⟨⟨gm,0,none⟩,rfl,be,?_⟩;conv=>whnf
     refine⟨.slice ak n ck',fun O J r=>ji OV UB r,?_⟩;conv=>whnf
     refine⟨⟨gm,0,none⟩,rfl,be,?_⟩;conv=>whnf
     refine⟨.slice aa n ca,fun O J r=>ji hoa UB r,?_⟩;conv=>whnf
     refine⟨⟨gm,0,none⟩,rfl,be,?_⟩;conv=>whnf
     intro O J r;have Wx:(⟨gm,0,none⟩:Addr).add ((pv.length:Int).toNat*1)=⟨gm,pv.length*1,none⟩:=by rw[aN,cd,aR]
     have PH:(⟨gm,0,none⟩:Addr).add ((k:Int).toNat*1)=⟨gm,k*1,none⟩:=by rw[aN,cd,aR]
     have hMw:=hM.rel r L (fun g V=>ON g ((R7 g).1 V));obtain⟨g',Qy,Sg,Wy,Uf,hsz1⟩:=nJ (nv:=[.slice ak n ck']) hMw.out (by rw[QG]) (show pv.length<rv1.length by omega) rfl bv;injection Qy with Qy;injection Qy with Qy;subst Qy;rw[B9 be]at Wy;have PF:=fun id b N U=>Rel.not (S:=fun g=>g<w.heap.size) r (fun _ h=>h) (Pq OR gm (.inl rfl)) id b N U;have hgm1:gm<J.heap.size:=by have:=ON gm (.inl rfl);have:=r.cR;omega
     have hK1:Kept w (setCells J ⟨gm,pv.length*1,none⟩ [.slice ak n ck']) (Mb (.slice (some ⟨gm,0,none⟩) FS cm) rv):=(hK.cV r.cV lr).row Uf (fun g V=>.inl V);have hold:∀g,Cv S w.heap.size OR g\/Mb (.slice (some ⟨gm,0,none⟩) FS cm) rv1 g->g<J.heap.size:=fun g V=>V.elim (rlo r L g) (fun V=>by have:=ON g ((R7 g).1 V);have:=r.cR;omega);clear hK hM OV hoa r;refine⟨by rw[Wx],fun j hj=>by rw[Wx];exact Sg j hj,fun id b N U=>by rw[Wx];exact PF id b N U,fun w4 OZ=>?_⟩;have OZ:w4=setCells J ⟨gm,pv.length*1,none⟩ [.slice ak n ck']:=by rw[OZ];exact congrArg (fun x=>setCells J x _) Wx
     rw[<-OZ]at hK1 Wy Uf hsz1;clear OZ Sg PF;conv=>whnf
     refine⟨⟨gm,0,none⟩,rfl,be,?_⟩;conv=>whnf
     intro O w5 r;have hst2:=iL Wy (fun g V=>Pq OR g (.inl V)) r;obtain⟨g',Qy,Ub,hst3,Ug,hsz2⟩:=nJ (nv:=[.slice aa n ca]) hst2 (by rw[QG]) (show k<rv1.length by omega) rfl bv;injection Qy with Qy;injection Qy with Qy;subst Qy;rw[B9 (by simp;omega)]at hst3;have PF:=fun id b N U=>Rel.not (S:=fun g=>g<w.heap.size) r (fun _ h=>h) (Pq OR gm (.inl rfl)) id b N U;have hK2:Kept w (setCells w5 ⟨gm,k*1,none⟩ [.slice aa n ca]) (Mb (.slice (some ⟨gm,0,none⟩) FS cm) rv):=(hK1.cV r.cV lr).row Ug (fun g V=>.inl V);have Pm:∀g,Cv S w.heap.size OR g\/Mb (.slice (some ⟨gm,0,none⟩) FS cm) rv1 g->(Value.slice (some ⟨gm,0,none⟩) FS cm).ownBlock≠some g->(setCells w5 ⟨gm,k*1,none⟩ [.slice aa n ca]).heap[g]? =J.heap[g]? :=fun g V OL=>by
      have Tu:some g≠some gm:=fun e=>OL e.symm;have h3:w4.heap[g]? =J.heap[g]? :=Uf.block g (hold g V) Tu;have h4:w5.heap[g]? =w4.heap[g]? :=V.elim (fun V=>rls r L V) (fun V=>rls (S:=fun g=>g<w.heap.size) r (fun _ h=>h) (Pq OR g ((R7 g).1 V)));have h5:=Ug.block g (by have:=hold g V;have:=r.size;omega) Tu;rw[h5,h4,h3]
     have Te:=hMw.swap (fun g V hm=>TO OR g V ((R7 g).1 hm)) Rb hvk hst3 Pm;have RV:∀g,Mb (.slice (some ⟨gm,0,none⟩) FS cm) ((rv1.set pv.length (.slice ak n ck')).set k (.slice aa n ca)) g↔Mb (.slice (some ⟨gm,0,none⟩) FS cm) rv g:=fun g=>(Mb.swap Rb hvk).trans (R7 g);have Uh:((rv1.set pv.length (.slice ak n ck')).set k (.slice aa n ca)).length=FS:=by simp[QG]
     clear hK1 hMw Wy hst2 r Pm hold Uf hst3 PS;refine⟨by rw[PH],fun j hj=>by rw[PH];exact Ub j hj,fun id b N U=>by rw[PH];exact PF id b N U,fun w6 hw6=>?_⟩;have hw6:w6=setCells w5 ⟨gm,k*1,none⟩ [.slice aa n ca]:=by rw[hw6];exact congrArg (fun x=>setCells w5 x _) PH
     rw[<-hw6]at hK2 Te;clear hw6 Ub PF Ug hsz2 hsz1;have RE:dZ (jl [] M1 pv.length k) pv.length c=q:=by rw[CV be be,hq]
     have hht2:=hht1.swap (i:=pv.length) (j:=k) be be;have OP:lf (M1,pv) c=(eN (scaled (jl [] M1 pv.length k) pv.length c) pv.length c FS,pv++[c]):=by
      unfold lf;rw[aM (by dsimp only;omega)];dsimp only
      rw[hlM,hfk2,aK be,mn,jA,hlM]
     have Ph:(jl [] M1 pv.length k).length=FS:=by rw[jA,hlM]
     generalize (rv1.set pv.length (.slice ak n ck')).set k (.slice aa n ca)=rv2 at*
     generalize jl [] M1 pv.length k=M2 at*
     have PS:∀{v:Value} {k gx:Nat},rv2[k]? =some v->v.ownBlock=some gx->Mb (.slice (some ⟨gm,0,none⟩) FS cm) rv gx:=fun W I=>(RV _).1 (.inr ⟨_,aG W,I⟩);conv=>whnf
     refine dP [.x 0,.x 1,.x 2,.x 3,.x 5,.x 6,.x 7,.x 8,.x 9,.x 10,.x 11,.x 4,.x 12,.x 13] ?_;conv=>whnf
     obtain⟨_,g,ck,q2,d1,e1,m1,k1,d2,e2,m2,k2,Qt,hE⟩:=Te.elem (k:=pv.length) (c:=c) be be;injection Qt with Qt;injection Qt with Qt;subst Qt;have QW:q2=q:=by rw[<-hE.at_,RE]
     subst QW;have WV:=PS hE.rv rfl;refine⟨⟨gm,0,none⟩,rfl,be,?_⟩;conv=>whnf
     refine⟨.slice (some ⟨g,0,none⟩) n ck,fun O J r=>ji hE.outer UB r,?_⟩;conv=>whnf
     refine⟨⟨gm,0,none⟩,rfl,be,?_⟩;conv=>whnf
     refine⟨.slice (some ⟨g,0,none⟩) n ck,fun O J r=>ji hE.outer UB r,?_⟩;conv=>whnf
     refine⟨⟨g,0,none⟩,rfl,be,?_⟩;conv=>whnf
     refine⟨rC d1 e1 m1 k1 d2 e2 m2 k2,rfl,fun O J r j x E=>ji (hE.cells j x E) (Pq _ _ (by rw[eQ,eQ];exact WV)) r,?_⟩;conv=>whnf
     have hwb0:Bel w.heap.size w6 w6:=Bel.refl;refine cN (I9:=fun _ J v F=>cY F (Nf J F) v (((1:Int):Rat))) (fun O J r=>iD 1 J bv bv) ?_;rintro O wa v1 wb' r G OQ hO;have Pw:=hO.eX (S:=S) r.cR (iv:=(wa.heap.size,wb'.heap.size)::OR) aF;have hF:=hE.Lg.cL (K:=(wa.heap.size,wb'.heap.size)::OR) r L G fun x E=>aD _ E;replace Te:=Te.cL (K:=(wa.heap.size,wb'.heap.size)::OR) r L (fun g V=>ON g ((RV g).1 V)) G fun x E=>aD _ E;replace hK2:=hK2.cV OQ lr;have TG:=hE.rv;clear r G OQ hO hE;generalize (wa.heap.size,wb'.heap.size)::OR=Ob at*
     obtain⟨b5,a5,n5,c5,b6,a6,n6,c6,rfl⟩:=Pw.shape;have RQ:(((1:Int):Rat))=1:=rfl;rw[RQ]at Pw;have hhq:rl q2+1<=4^pv.length*h0:=by
      have h3:dZ M2 pv.length c=(M2.getD pv.length []).getD c 0:=rfl;rw[<-RE,h3];have h4:M2.getD pv.length []=M2[pv.length]' be:=by rw[List.getD,aE be];rfl
      rw[h4];exact lI (hht2.at (aE be)) (aP I (Nat.le_mul_of_pos_left _ (Nat.pow_pos bv))) c
     have hH4:4^(pv.length+1)*h0<=500000000:=aP (Nat.mul_le_mul_right _ (Nat.pow_le_pow_right bv be)) N;have hpow:4^(pv.length+1)*h0=4*(4^pv.length*h0):=by rw[Nat.pow_succ,bV (4^pv.length) 4,bc]
     have UJ:2<=4^pv.length*h0:=aP I (Nat.le_mul_of_pos_left _ (Nat.pow_pos bv));have Re:=hht2.scaled (a:=pv.length) (c:=c) UJ be (by rw[RE];exact h0');generalize 4^pv.length*h0=hh at*
     conv=>whnf
     refine cN (I9:=fun _ J v F=>cY F (Nf J F) v (1 / q2)) (fun O J r=>Fg (rlo r L) (Pw.rel r L) (hF.rel r L) bv be h0') ?_;rintro O wc v2 wd r G OQ hO;have Rs:=hO.eX (S:=S) r.cR (iv:=(wc.heap.size,wd.heap.size)::Ob) aF;replace Te:=Te.cL (K:=(wc.heap.size,wd.heap.size)::Ob) r L (fun g V=>ON g ((RV g).1 V)) G fun x E=>aD _ E;replace hK2:=hK2.cV OQ lr;clear r G OQ hO Pw hF;generalize (wc.heap.size,wd.heap.size)::Ob=Of at*
     obtain⟨b7,a7,n7,c7,b8,a8,n8,c8,rfl⟩:=Rs.shape;conv=>whnf
     have hinv:=uD h0';have hMA:M2[pv.length]? =some (M2[pv.length]' be):=aE be;have hMAd:M2.getD pv.length []=M2[pv.length]' be:=by rw[List.getD,hMA];rfl
     have hqa:=hht2.at hMA;generalize hqsa:(M2[pv.length]' be)=qsa at*
     refine⟨fun O J r=>?_⟩;have WW:=Te.rel r L (fun g V=>ON g ((RV g).1 V));obtain⟨M,Ps,Qw,Vz⟩:=WW.row pv.length _ qsa TG hMA;refine(tX (rlo r L) Ps Vz Qw (Rs.rel r L) (fun x E Pe=>TO Of x Pe (PS TG E)) (fun x E=>by have:=hqa x E;omega) be).mono fun e w4 G=>?_;obtain⟨rfl,PY,css',Wz,hr5,Xi⟩:=G;have hM3:=WW.setRow (S':=Nw (Cv S w.heap.size Of) J w4) (rlo r L) (fun x E Pe=>TO Of x E ((RV x).1 Pe)) TG PY (fun x E=>.inl E) ⟨css',Wz,hr5,Xi⟩;refine⟨.tuple #[],_,(J.heap.size,w4.heap.size)::Of,rfl,r.yn (fun x E=>Rel.not (S:=fun g=>g<w.heap.size) r (fun _ h=>h) (Pq Of x (PS TG E))) PY,?_⟩;have Wr:=hM3.cO (S':=Cv S w.heap.size ((J.heap.size,w4.heap.size)::Of)) fun x E=>Nw.cv E r.cR;have Pp:M2.set pv.length (qsa.map (· *(1 / q2)))=scaled M2 pv.length c:=by unfold scaled;rw[hMAd,RE]
     rw[Pp]at Wr;have hK4:Kept w w4 _:=(hK2.cV r.cV lr).row PY (fun x E=>PS TG E);have R4:(scaled M2 pv.length c).length=FS:=by rw[mn,Ph]
     clear hK2 Te WW Ps Vz Wz Xi hM3 PY r Rs Pp hMA hMAd;generalize (J.heap.size,w4.heap.size)::Of=PL at*
     generalize scaled M2 pv.length c=M3 at*
     conv=>whnf
     refine⟨Nat×Iv×World,fun z=>⟨[(0,.o (.v (.slice (some ⟨gm,0,none⟩) FS cm))),(1,iZ cols),(5,.o (.w 0 pv.length)),(6,iZ c),(7,iZ pv.length),(75,iZ FS),(76,iZ z.1)],
       [(0,.vec T.int 1 (pv.map fun c:Nat=>iV (c:Int)))],1,z.2.1,z.2.2⟩,fun z=>FS-z.1,
      fun z=>z.1<=FS/\Kept w z.2.2 (Mb (.slice (some ⟨gm,0,none⟩) FS cm) rv)/\iC z.2.2 (Cv S w.heap.size z.2.1) (.slice (some ⟨gm,0,none⟩) FS cm) rv2 n (eN M3 pv.length c z.1),?_,?_⟩
     .intro O J r
      exact⟨(0,PL,J),⟨by dsimp only;omega,hK4.cV r.cV lr,by rw[Ar];exact Wr.rel r L (fun g V=>ON g ((RV g).1 V))⟩,
       sbgn [] r⟩
     clear hK4 Wr;rintro⟨i,QB,w7⟩ ⟨R,hK,hM⟩;dsimp only at R hK hM ⊢;conv=>whnf
     apply bS<;>intro QR
     .have QR:=dL QR;conv=>whnf
      apply bS<;>intro OL
      .have OL:i≠pv.length:=fun e=>by
        rw[e]at OL;simp at OL
       conv=>whnf
       refine dP [.x 0,.x 1,.x 2,.x 3,.x 4,.x 5,.x 6,.x 7,.x 8,.x 9,.x 10,.x 12,.x 13,.x 14,.x 15,.x 11,.x 16] ?_;conv=>whnf
       obtain⟨_,gi,ci,qi,d1',e1',m1',k1',d2',e2',m2',k2',Qt,hE⟩:=hM.elem (k:=i) (c:=c) be be;injection Qt with Qt;injection Qt with Qt;subst Qt;obtain⟨va2,WA⟩:=gO rv2 pv.length;obtain⟨_,Qt,hoa⟩:=hM.outer WA;injection Qt with Qt;injection Qt with Qt;subst Qt;obtain⟨ri,RS⟩:=gO M3 i;obtain⟨ra,UA⟩:=gO M3 pv.length;have hri2:(eN M3 pv.length c i)[i]? =some ri:=by rw[Dt M3 pv.length c i i lr];exact RS
       have hra2:(eN M3 pv.length c i)[pv.length]? =some ra:=by rw[Dr];exact UA
       have hqd:(eN M3 pv.length c i).getD i []=ri:=by rw[List.getD,hri2];rfl
       have Sn:qi=ri.getD c 0:=by rw[<-hE.at_,dZ,hqd]
       have hrad:M3.getD pv.length []=ra:=by rw[List.getD,UA];rfl
       obtain⟨cssa,hraw,-,-⟩:=hM.row pv.length va2 ra WA hra2;obtain⟨aa2,ca2,rfl,-⟩:=eK hraw;clear hraw;have WV:=PS hE.rv rfl;refine⟨⟨gm,0,none⟩,rfl,be,?_⟩;conv=>whnf
       refine⟨.slice (some ⟨gi,0,none⟩) n ci,fun O J r=>ji hE.outer UB r,?_⟩;conv=>whnf
       refine⟨⟨gm,0,none⟩,rfl,be,?_⟩;conv=>whnf
       refine⟨.slice (some ⟨gi,0,none⟩) n ci,fun O J r=>ji hE.outer UB r,?_⟩;conv=>whnf
       refine⟨⟨gi,0,none⟩,rfl,be,?_⟩;conv=>whnf
       refine⟨rC d1' e1' m1' k1' d2' e2' m2' k2',rfl,fun O J r j x E=>ji (hE.cells j x E) (Pq _ _ (by rw[eQ,eQ];exact WV)) r,?_⟩;conv=>whnf
       refine⟨⟨gm,0,none⟩,rfl,be,?_⟩;conv=>whnf
       refine⟨.slice aa2 n ca2,fun O J r=>ji hoa UB r,?_⟩;conv=>whnf
       refine cN (I9:=fun _ J v F=>cY F (Nw (Cv S w.heap.size QB) J F) v (-qi)) (fun O J r=>kV (rlo r L) (hE.Lg.rel r L)) ?_;rintro O wa v1 wb' r G OQ hO;have Rs:=hO.old r.cR;replace hM:=hM.cL (K:=(wa.heap.size,wb'.heap.size)::QB) r L (fun g V=>ON g ((RV g).1 V)) G fun x E=>aD _ E;replace hK:=hK.cV OQ lr;have Uo:=hE.rv;clear r G OQ hO hE hoa;generalize (wa.heap.size,wb'.heap.size)::QB=RT at*
       obtain⟨b9,a9,n9,c9,b10,a10,n10,c10,rfl⟩:=Rs.shape;have hqs1:=Re.2 i ri OL RS;have hqs2:=Re.1 ra UA;have hqc:=lI hqs1 UJ c;have hng:=jM (ri.getD c 0);rw[Sn]at Rs;conv=>whnf
       refine⟨fun O J r=>?_⟩;have WW:=hM.rel r L (fun g V=>ON g ((RV g).1 V));obtain⟨M,Ps,Qw,Vz⟩:=WW.row i _ ri Uo hri2;obtain⟨Tw,SH⟩:=WW.Nc WA hra2 mx;refine(Ie (C:=fun g=>(Value.slice aa2 n ca2).ownBlock=some g) (fun x E=>by have:=WW.low x (.inr ⟨_,aG WA,E⟩);exact this) (rlo r L) Ps Vz Qw (Rs.rel r L) Tw SH (fun x E Pe=>TO RT x Pe (PS Uo E)) (fun x E Pe=>OL (WW.D4 i pv.length _ _ x Uo WA E Pe)) (fun x E=>by have:=hqs1 x E;omega) (fun x E=>by have:=hqs2 x E;omega) be).mono fun e w8 G=>?_;obtain⟨rfl,PY,css',Wz,hr5,Xi⟩:=G;have hM3':=WW.setRow (S':=Nw (Cv S w.heap.size RT) J w8) (rlo r L) (fun x E Pe=>TO RT x E ((RV x).1 Pe)) Uo PY (fun x E=>.inl E) ⟨css',Wz,hr5,Xi⟩;refine⟨.tuple #[],_,(J.heap.size,w8.heap.size)::RT,rfl,r.yn (fun x E=>Rel.not (S:=fun g=>g<w.heap.size) r (fun _ h=>h) (Pq RT x (PS Uo E))) PY,?_⟩;have Wr:=hM3'.cO (S':=Cv S w.heap.size ((J.heap.size,w8.heap.size)::RT)) fun x E=>Nw.cv E r.cR;have Pp:(eN M3 pv.length c i).set i (ri.mapIdx (ot (-(ri.getD c 0)) ra))=eN M3 pv.length c (i+1):=by
        rw[<-As RS OL,hrad];rfl
       rw[Pp]at Wr;have hK4:Kept w w8 _:=(hK.cV r.cV lr).row PY (fun x E=>PS Uo E);clear hK hM WW Ps Vz Wz Xi hM3' PY r Rs Pp Tw;generalize (J.heap.size,w8.heap.size)::RT=Ta at*
       conv=>whnf
       refine inc i ?_;conv=>whnf
       intro IR w9 r3
       exact⟨(i+1,Ta,w9),⟨QR,hK4.cV r3.cV lr,Wr.rel r3 L (fun g V=>ON g ((RV g).1 V))⟩,
        sbgn [] r3,by dsimp only;omega⟩
      .have OL:i=pv.length:=by
        have h4:((i:Int)==(pv.length:Int))=true:=by simpa using OL
        have:=eq_of_beq h4;omega
       conv=>whnf
       refine inc i ?_;conv=>whnf
       intro IR w9 r3
       exact⟨(i+1,QB,w9),⟨QR,hK.cV r3.cV lr,by
        dsimp only
        have h5:eN M3 pv.length c (i+1)=eN M3 pv.length c i:=by rw[OL,Au]
        rw[h5]
        exact hM.rel r3 L (fun g V=>ON g ((RV g).1 V))⟩,
        sbgn [] r3,by dsimp only;omega⟩
     .have hi3:i=FS:=by
       have:¬i<FS:=by simpa using QR
       omega
      subst hi3;have QM:=Ht.FG (i:=i) (c:=c) Re.1 Re.2 UJ;conv=>whnf
      refine .inl ?_;conv=>whnf
      refine⟨ce,be,mx,?_⟩;conv=>whnf
      refine inc c ?_;conv=>whnf
      intro IR w9 r3;have VD:(pv++[c]).length=pv.length+1:=by simp
      have S6:(pv++[c]).map (fun c:Nat=>iV (c:Int))=pv.map (fun c:Nat=>iV (c:Int))++[iV (c:Int)]:=by simp
      refine⟨(c+1,rv2,eN M3 pv.length c i,pv++[c],QB,w9),⟨h,hK.cV r3.cV lr,hM.rel r3 L (fun g V=>ON g ((RV g).1 V)),RV,Uh,by rw[bw,List.foldl_append,<-TP];exact OP.symm,by rw[VD];exact hp,?_⟩,
       sbgn [(0,2)] r3 ⟨by rw[S6];rfl,trivial⟩ ⟨rfl,rfl,by dsimp only;rw[VD];rfl,rfl,trivial⟩,by dsimp only;omega⟩
      dsimp only
      rw[VD,hpow];exact QM
   .have Z:k=FS:=by
     have:¬k<FS:=by simpa using Z
     omega
    subst Z;have hfk2:iW M1 c (k-pv.length) pv.length=k:=by
     rw[<-hfk,bj];rfl
    have OP:lf (M1,pv) c=(M1,pv):=by
     unfold lf;rw[aM (by dsimp only;omega)];dsimp only
     rw[hlM,aM hfk2]
    conv=>whnf
    apply bS<;>intro TT
    .conv=>whnf
     refine inc c ?_;conv=>whnf
     intro IR w3 r3
     exact⟨(c+1,rv1,M1,pv,iv2,w3),⟨h,hK.cV r3.cV lr,hM.rel r3 L (fun g V=>ON g ((R7 g).1 V)),R7,QG,by rw[bw,List.foldl_append,<-TP];exact OP.symm,Oq,hht1⟩,
      sbgn [] r3,by dsimp only;omega⟩
    .exact absurd TT ce
  .have hp:¬pv.length<FS:=by simpa using hp
   conv=>whnf
   intro In w5 r5;have W:=htot (.inr be);rw[<-W];refine⟨_,rv1,rfl,hK.cV r5.cV lr,?_,R7,?_⟩
   .exact(hM.rel r5 L (fun g V=>ON g ((R7 g).1 V))).cO fun g V=>Cv.nw V r5
   .exact(r5.oo (id:=0) (sz:=1) rfl ce mx bv (by intro u hu;simp at hu;obtain⟨_,_,rfl⟩:=hu;rfl)).cO fun g V=>.inr V
 .have h:¬c<cols:=by simpa using h
  conv=>whnf
  intro In w5 r5;have W:=htot (.inl be);rw[<-W];refine⟨_,rv1,rfl,hK.cV r5.cV lr,?_,R7,?_⟩
  .exact(hM.rel r5 L (fun g V=>ON g ((R7 g).1 V))).cO fun g V=>Cv.nw V r5
  .exact(r5.oo (id:=0) (sz:=1) rfl ce mx bv (by intro u hu;simp at hu;obtain⟨_,_,rfl⟩:=hu;rfl)).cO fun g V=>.inr V
end
variable{x:Int×Int}{b xs:List (Int×Int)}{G8:List (List (Int×Int))}{qs:List Rat}{cs:List Value}{id:Nat}{S:Nat->Prop}{a a2:Option Addr}{q:Rat}{v vm:Value}{w w0:World}
def gA(w:World)(S:Nat->Prop)(v:Value)(n:Nat)(qs:List Rat):Prop:=∃M,w.ownsRow 0 T.cw 4 v n M.flatten/\M.length=n/\Fr w S M qs
section
variable{S S' C:Nat->Prop}{H:Hp}{nx n:Nat}{iv K:Iv}{B:Nat}{w J F:World}{O:Nat->Sx.dc}{v:Value}{qs:List Rat}
theorem gA.cP(h:gA w S v n qs)(Z:∀g,S g\/v.ownBlock=some g->F.heap[g]? =w.heap[g]?):gA F S v n qs:=by
 obtain⟨M,W,I,h3⟩:=h;exact⟨M,ownsRow.cP W fun g V=>Z g (.inr V),I,h3.cP fun g V=>Z g (.inl V)⟩
theorem gA.cO(h:gA w S v n qs)(Z:∀g,S g->S' g):gA w S' v n qs:=by
 obtain⟨M,W,I,h3⟩:=h;exact⟨M,W,I,h3.cO Z⟩
theorem gA.len(h:gA w S v n qs):qs.length=n:=by
 obtain⟨M,W,I,h3⟩:=h;rw[<-h3.1,I]
theorem gA.form(h:gA w S v n qs):∃a c,v= .slice a n c/\n<=c:=by
 obtain⟨M,W,I,h3⟩:=h;exact eK W
theorem gA.le(h:gA w S v n qs):n<=maxLen:=by
 obtain⟨M,W,I,h3⟩:=h;rcases W.2 with⟨_,h0⟩|⟨_,_,_,_,_,_,W,I,_⟩
 .omega
 .omega
theorem gA.read(h:gA w S v n qs):dm w (fun g=>v.ownBlock=some g) S v qs:=by
 have hl:=h.len;have U:=h.le;obtain⟨M,W,I,h3⟩:=h;refine⟨M,?_,h3⟩;rw[hl];rcases W.2 with⟨rfl,rfl⟩|⟨g,cap,cur,rfl,N,hc,RL,Pu,Od,QJ⟩
 .refine⟨U,W.1,h3.one,none,0,rfl,lr,fun j u hu=>?_⟩;have:=W.1;rw[Nat.zero_mul]at this;rw[List.eq_nil_of_length_eq_zero this]at hu
  cases hu
 .refine⟨U,W.1,h3.one,_,cap,rfl,RL,fun j u hu=>⟨_,rfl,rfl,?_⟩⟩;exact W.cells (g:=g) rfl j u hu
theorem gA.store{a1:Option Addr}{c j n1 c1 n2 c2:Nat}{b b2:Bool}(h:gA w S (.slice a n c) n qs)(hj:j<n)(hf:cY w S (.agg #[.bool b,.slice a1 n1 c1,.bool b2,.slice a2 n2 c2]) q)(Qk:∀g,(Value.slice a n c).ownBlock=some g->¬S g)(L:Old S w):
  ∃g,a=some ⟨g,0,none⟩/\((⟨g,0,none⟩:Addr).add ((j:Int).toNat*4)).spot=none/\((⟨g,0,none⟩:Addr).add ((j:Int).toNat*4)).block=g/\
   (∀k,k<4->(w.cell? (((⟨g,0,none⟩:Addr).add ((j:Int).toNat*4)).add k)).isSome=true/\w.frozen? (((⟨g,0,none⟩:Addr).add ((j:Int).toNat*4)).add k)=false)/\
   ∀F,F=setCells w ((⟨g,0,none⟩:Addr).add ((j:Int).toNat*4)) (rC b a1 n1 c1 b2 a2 n2 c2)->gA F S (.slice a n c) n (qs.set j q)/\w.grownBy F (some g)/\F.heap.size=w.heap.size:=by
 obtain⟨M,W,I,h3⟩:=h;obtain⟨g,rfl,OV,Pr,PY,Od⟩:=nJ (nv:=rC b a1 n1 c1 b2 a2 n2 c2) W rfl hj rfl bv;have Ou:(⟨g,0,none⟩:Addr).add ((j:Int).toNat*4)=⟨g,j*4,none⟩:=by rw[aN,cd,aR]
 refine⟨g,rfl,by rw[Ou],by rw[Ou],fun k Z=>by rw[Ou];exact OV k Z,fun F Q3=>?_⟩;rw[Ou]at Q3;subst Q3;have Pp:=mH (cs:=rC b a1 n1 c1 b2 a2 n2 c2) h3.rj (show j<M.length by omega);rw[Pp]at Pr;have PN:∀x,S x->(setCells w ⟨g,j*4,none⟩ (rC b a1 n1 c1 b2 a2 n2 c2)).heap[x]? =w.heap[x]? :=fun x E=>
  PY.block x (L x E) fun e=>Qk g rfl (by injection e with e;rw[<-e];exact E)
 exact⟨⟨_,Pr,by simpa using I,(h3.cP PN).set (hf.cP PN).four⟩,PY,Od⟩
structure fM(w:World)(S:Nat->Prop)(B:Nat)(iv:Iv)(v:Value)(n:Nat)(qs:List Rat):Prop where
 row:gA w (fun g=>Cv S B iv g/\v.ownBlock≠some g) v n qs
 new:∀g,v.ownBlock=some g->Cv FF B iv g
theorem fM.cP(h:fM w S B iv v n qs)(Z:∀g,Cv S B iv g->F.heap[g]? =w.heap[g]?):fM F S B iv v n qs:=
 ⟨h.row.cP fun g V=>Z g (V.elim (fun h=>h.1) fun V=>(h.new g V).elim (fun h=>h.elim) .inr),h.new⟩
theorem fM.rel(h:fM w S B iv v n qs)(r:Rel H nx iv B w O J)(L:∀g,S g->g<B):fM J S B iv v n qs:=h.cP fun _ V=>rls r L V
theorem fM.cL(h:fM w S B iv v n qs)(r:Rel H nx iv B w O J)(L:∀g,S g->g<B)(G:Ext J F)(hm:∀p,p∈iv->p∈K):fM F S B K v n qs:=
 have I:=(h.rel r L).cP fun g V=>G.block g (rlo r L g V)
 ⟨I.row.cO fun _ V=>⟨V.1.mono hm,V.2⟩,fun g V=>(I.new g V).mono hm⟩
theorem fM.eX(h:fM F FF J.heap.size [(J.heap.size,F.heap.size)] v n qs)(hB:B<=J.heap.size)(hm:(J.heap.size,F.heap.size)∈iv):fM F S B iv v n qs:=by
 have key:∀g {X:Nat->Prop},Cv FF J.heap.size [(J.heap.size,F.heap.size)] g->Cv X B iv g:=fun g X V=>by
  rcases V with V|⟨W,lo,R,I,h3,h4⟩
  .exact V.elim
  .simp at I;obtain⟨rfl,rfl⟩:=I;exact .inr ⟨be,_,_,hm,h3,h4⟩
 exact⟨h.row.cO fun g V=>⟨key g V.1,V.2⟩,fun g V=>key g (h.new g V)⟩
theorem fM.read(h:fM w S B iv v n qs):dm w (Cv S B iv) (Cv S B iv) v qs:=
 h.row.read.cO (fun g V=>(h.new g V).elim (fun h=>h.elim) .inr) fun _ V=>V.1
def yo(w:World)(S:Nat->Prop)(cs:List Value)(x:Int×Int):Prop:=∃b a n c b2 a2 n2 c2,cs=(rC b a n c b2 a2 n2 c2)/\kU w S (.agg #[.bool b,.slice a n c,.bool b2,.slice a2 n2 c2]) x.1 x.2
theorem yo.cP(h:yo w S cs x)(Z:∀g,S g->F.heap[g]? =w.heap[g]?):yo F S cs x:=by
 obtain⟨b,a,n,c,b2,a2,n2,c2,W,I⟩:=h;exact⟨b,a,n,c,b2,a2,n2,c2,W,I.cP Z⟩
theorem yo.cO(h:yo w S cs x)(Z:∀g,S g->S' g):yo w S' cs x:=by
 obtain⟨b,a,n,c,b2,a2,n2,c2,W,I⟩:=h;exact⟨b,a,n,c,b2,a2,n2,c2,W,I.cO Z⟩
def dU{α:Type}(P:World->(Nat->Prop)->List Value->α->Prop)(w:World)(S:Nat->Prop)(v:Value)(xs:List α):Prop:=
 ∃M:List (List Value),fy w S 4 v M.flatten xs.length/\M.length=xs.length/\(∀cs∈M,cs.length=4)/\∀(j:Nat) cs x,M[j]? =some cs->xs[j]? =some x->P w S cs x
abbrev dB:=dU yo
theorem dB.cP(h:dB w S v xs)(Z:∀g,S g->F.heap[g]? =w.heap[g]?):dB F S v xs:=by
 obtain⟨M,W,I,h3,h4⟩:=h;exact⟨M,W.cP Z,I,h3,fun j cs x k1 k2=>(h4 j cs x k1 k2).cP Z⟩
theorem dB.cO(h:dB w S v xs)(Z:∀g,S g->S' g):dB w S' v xs:=by
 obtain⟨M,W,I,h3,h4⟩:=h;exact⟨M,W.cO Z,I,h3,fun j cs x k1 k2=>(h4 j cs x k1 k2).cO Z⟩
theorem dU.shape{α:Type}{P:World->(Nat->Prop)->List Value->α->Prop}{xs:List α}(h:dU P w S v xs):∃a c,v= .slice a xs.length c/\xs.length<=c/\xs.length<=maxLen:=by
 obtain⟨M,⟨h0,_,_,a,c,W,I,_⟩,_⟩:=h;exact⟨a,c,W,I,h0⟩
theorem dU.load{α:Type}{P:World->(Nat->Prop)->List Value->α->Prop}{xs:List α}{m c j:Nat}{x:α}(h:dU P w S (.slice a m c) xs)(hq:xs[j]? =some x):
  ∃ad cs,a=some ad/\P w S cs x/\cs.length=4/\∀k u,cs[k]? =some u->S ad.block/\w.cell? ((ad.add (j*4)).add k)=some u:=by
 obtain⟨M,⟨h0,W,I,a',c',e,h3,h4⟩,hl,QO,hf⟩:=h;injection e with e1 e2 e3;subst e1;obtain⟨cs,Oz⟩:∃cs,M[j]? =some cs:=⟨_,aE (by rw[hl];exact(aH.1 hq).1)⟩
 have hF:=hf j cs x Oz hq;have UZ:=QO cs (aG Oz);obtain⟨ad,k1,k2,k3⟩:=h4 (j*4+0) _ (flat_get QO Oz 0 _ (aE (show 0<cs.length by omega)));refine⟨ad,cs,k1,hF,UZ,fun k u hu=>?_⟩;obtain⟨ad2,m1,m2,m3⟩:=h4 (j*4+k) u (flat_get QO Oz k u hu);rw[k1]at m1;injection m1 with m1;subst m1;refine⟨m2,?_⟩;rw[<-m3];have:(ad.add (j*4)).add k=ad.add (j*4+k):=by
  unfold Addr.add;split<;>split<;>simp_all<;>omega
 rw[this]
def dD{α:Type}(P:World->(Nat->Prop)->Value->α->Prop)(w:World)(S:Nat->Prop)(v:Value)(G8:List α):Prop:=
 ∃rv,fy w S 1 v rv G8.length/\rv.length=G8.length/\∀(i:Nat) u x,rv[i]? =some u->G8[i]? =some x->P w S u x
theorem dD.shape{α:Type}{P:World->(Nat->Prop)->Value->α->Prop}{xs:List α}(h:dD P w S v xs):∃a c,v= .slice a xs.length c/\xs.length<=c/\xs.length<=maxLen:=by
 obtain⟨rv,⟨h0,_,_,a,c,W,I,_⟩,_⟩:=h;exact⟨a,c,W,I,h0⟩
theorem dD.load{α:Type}{P:World->(Nat->Prop)->Value->α->Prop}{xs:List α}{m c j:Nat}{x:α}(h:dD P w S (.slice a m c) xs)(hq:xs[j]? =some x):
  ∃ad u,a=some ad/\P w S u x/\S ad.block/\w.cell? (ad.add (j*1))=some u:=by
 obtain⟨rv,⟨h0,W,I,a',c',e,h3,h4⟩,hl,hf⟩:=h;injection e with e1 e2 e3;subst e1;obtain⟨u,hu⟩:∃u,rv[j]? =some u:=⟨_,aE (by rw[hl];exact(aH.1 hq).1)⟩
 obtain⟨ad,k1,k2,k3⟩:=h4 j u hu;exact⟨ad,u,k1,hf j u x hu hq,k2,by rw[bC];exact k3⟩
abbrev dK:=dD dB
theorem dK.cP(h:dK w S v G8)(Z:∀g,S g->F.heap[g]? =w.heap[g]?):dK F S v G8:=by
 obtain⟨rv,W,I,h3⟩:=h;exact⟨rv,W.cP Z,I,fun i u x k1 k2=>dB.cP (h3 i u x k1 k2) Z⟩
theorem dK.cO(h:dK w S v G8)(Z:∀g,S g->S' g):dK w S' v G8:=by
 obtain⟨rv,W,I,h3⟩:=h;exact⟨rv,W.cO Z,I,fun i u x k1 k2=>dB.cO (h3 i u x k1 k2) Z⟩
abbrev fK:=dD (fun w S v qs=>dm w S S v qs)
theorem fK.cP{G8:List (List Rat)}(h:fK w S v G8)(Z:∀g,S g->F.heap[g]? =w.heap[g]?):fK F S v G8:=by
 obtain⟨rv,W,I,h3⟩:=h;exact⟨rv,W.cP Z,I,fun i u x k1 k2=>(h3 i u x k1 k2).cP fun g V=>Z g (V.elim id id)⟩
theorem fK.cO{G8:List (List Rat)}(h:fK w S v G8)(Z:∀g,S g->S' g):fK w S' v G8:=by
 obtain⟨rv,W,I,h3⟩:=h;exact⟨rv,W.cO Z,I,fun i u x k1 k2=>(h3 i u x k1 k2).cO Z Z⟩
end
section
variable{S S':Nat->Prop}{H:Hp}{nx:Nat}{iv K:Iv}{B:Nat}{w J F:World}{O:Nat->Sx.dc}{v:Value}{xs:List (Int×Int)}
theorem dB.rel(h:dB w (Cv S B iv) v xs)(r:Rel H nx iv B w O J)(L:∀g,S g->g<B):dB J (Cv S B iv) v xs:=dB.cP h fun _ V=>rls r L V
theorem dB.cL(h:dB w (Cv S B iv) v xs)(r:Rel H nx iv B w O J)(L:∀g,S g->g<B)(G:Ext J F)(hm:∀p,p∈iv->p∈K):dB F (Cv S B K) v xs:=
 dB.cO (dB.cP (dB.rel h r L) fun g V=>G.block g (rlo r L g V)) fun _ V=>V.mono hm
theorem dB.arg(h:dB w S v xs)(iv:Iv):dB w (Cv S w.heap.size iv) v xs:=dB.cO h fun _ h=>.inl h
end
section
variable{S S':Nat->Prop}{H:Hp}{nx:Nat}{iv K:Iv}{B:Nat}{w J F:World}{O:Nat->Sx.dc}{v:Value}{G8:List (List (Int×Int))}
theorem dK.rel(h:dK w (Cv S B iv) v G8)(r:Rel H nx iv B w O J)(L:∀g,S g->g<B):dK J (Cv S B iv) v G8:=dK.cP h fun _ V=>rls r L V
theorem dK.cL(h:dK w (Cv S B iv) v G8)(r:Rel H nx iv B w O J)(L:∀g,S g->g<B)(G:Ext J F)(hm:∀p,p∈iv->p∈K):dK F (Cv S B K) v G8:=
 dK.cO (dK.cP (dK.rel h r L) fun g V=>G.block g (rlo r L g V)) fun _ V=>V.mono hm
theorem dK.arg(h:dK w S v G8)(iv:Iv):dK w (Cv S w.heap.size iv) v G8:=dK.cO h fun _ h=>.inl h
end
section
variable{S S':Nat->Prop}{H:Hp}{nx:Nat}{iv K:Iv}{B:Nat}{w J F:World}{O:Nat->Sx.dc}{v:Value}{G8:List (List Rat)}
theorem fK.rel(h:fK w (Cv S B iv) v G8)(r:Rel H nx iv B w O J)(L:∀g,S g->g<B):fK J (Cv S B iv) v G8:=fK.cP h fun _ V=>rls r L V
theorem fK.cL(h:fK w (Cv S B iv) v G8)(r:Rel H nx iv B w O J)(L:∀g,S g->g<B)(G:Ext J F)(hm:∀p,p∈iv->p∈K):fK F (Cv S B K) v G8:=
 fK.cO (fK.cP (fK.rel h r L) fun g V=>G.block g (rlo r L g V)) fun _ V=>V.mono hm
theorem fK.eX(h:fK F (Nf J F) v G8)(hB:B<=J.heap.size)(hm:(J.heap.size,F.heap.size)∈iv):fK F (Cv S B iv) v G8:=fK.cO h fun _ V=>V.eX hB hm
theorem fK.out{w1:World}(h:fK w1 (Cv S w0.heap.size iv) v G8)(r:Rel H nx iv w0.heap.size w1 O J)(L:Old S w0):fK J (Nw S w0 J) v G8:=
 fK.cO (fK.rel h r L) fun _ V=>Cv.nw V r
end
def dH{α:Type}:List (List α)->Nat
 |[]=>0
 |r::_=>r.length
def im{α:Type}(G8:List (List α)):Nat:=if ∀r∈G8,r.length=dH G8 then(if 60<G8.length\/60<dH G8 then 8 else 0)else 11
theorem dD.nk(h:dB w S v xs):∃a c,v= .slice a xs.length c:=by
 obtain⟨a,c,h,_⟩:=dU.shape h;exact⟨a,c,h⟩
theorem rS(L:Old S w)(h:dK w S v G8):eD PG Fd.sC #[v] w (eL w fun v' _=>v'=iV (dH G8)):=by
 have U:=h;obtain⟨a,c,rfl,hc,hm⟩:=dD.shape h;refine uO ce ?_
 cases G8 with
 |nil=>
  conv=>whnf
  intro I8 we re;exact⟨_,rfl,re.cV,rfl⟩
 |cons r t=>
  obtain⟨ad,u,rfl,hu,W,I⟩:=dD.load h (j:=0) (x:=r) rfl;obtain⟨a2,c2,rfl⟩:=dD.nk hu;conv=>whnf
  refine⟨ad,rfl,⟨be,ce⟩,?_⟩;conv=>whnf
  refine⟨.slice a2 r.length c2,fun O J r'=>by simpa using fY L Bel.refl r' W (by simpa using I),?_⟩;conv=>whnf
  intro I8 we re;exact⟨_,rfl,re.cV,rfl⟩
theorem sH(L:Old S w)(h:dK w S v G8):eD PG Fd.mZ #[v] w (eL w fun v' _=>v'=iV (im G8)):=by
 replace h:=dK.arg h [];obtain⟨a,c,rfl,hc,hm⟩:=dD.shape h;unfold maxLen at hm;refine qW ce ?_;conv=>whnf
 refine⟨Nat×Iv×World,fun z=>⟨[(0,sV a G8.length c),(5,sV a G8.length c),(6,iZ G8.length),(7,iZ z.1)],[],0,z.2.1,z.2.2⟩,fun z=>G8.length-z.1,
  fun z=>z.1<=G8.length/\Bq w z.2.2/\dK z.2.2 (Cv S w.heap.size z.2.1) (.slice a G8.length c) G8/\∀(j:Nat) r,j<z.1->G8[j]? =some r->r.length=dH G8,?_,?_⟩
 .intro O J r;exact⟨(0,[],J),⟨ce,r.cV,dK.rel h r L,ce⟩,sbgn [] r⟩
 clear h;rintro⟨i,iv,w1⟩ ⟨R,Y,hM,OI⟩;dsimp only at R Y hM OI ⊢;conv=>whnf
 apply bS<;>intro h
 .have h:=dL h;obtain⟨r,hr⟩:=gO G8 i;obtain⟨ad,u,rfl,hu,W,I⟩:=dD.load hM hr;obtain⟨a2,c2,rfl⟩:=dD.nk hu;conv=>whnf
  refine⟨ad,rfl,be,?_⟩;conv=>whnf
  refine⟨.slice a2 r.length c2,fun O J r'=>?_,?_⟩
  .have h3:=rls r' L W;rw[aN,cg (w:=w1) (F:=J) (by rw[eQ];exact h3)];exact I
  conv=>whnf
  refine cM (cN (I9:=fun _ _ v _=>v=iV (dH G8)) (fun O J r=>rS (rlo r L) (dK.rel hM r L)) ?_);rintro O wa v1 wb r' G N rfl;replace Y:=Y.tr N;replace hM:=dK.cL (K:=(wa.heap.size,wb.heap.size)::iv) hM r' L G fun x E=>aD _ E;clear r' G N;generalize (wa.heap.size,wb.heap.size)::iv=iv2 at*
  conv=>whnf
  apply bS<;>intro OL
  .have OL:r.length≠dH G8:=fun e=>by rw[e]at OL;simp at OL
   conv=>whnf
   intro I8 we re;refine⟨_,rfl,Y.tr re.cV,?_⟩;unfold im;rw[aK (fun Q7=>OL (Q7 r (aG hr)))];rfl
  .have heq:r.length=dH G8:=by
    have h4:((r.length:Int)==(dH G8:Int))=true:=by simpa using OL
    have:=eq_of_beq h4;omega
   conv=>whnf
   refine inc i ?_;conv=>whnf
   intro IR w3 r3;refine⟨(i+1,iv2,w3),⟨h,Y.tr r3.cV,dK.rel hM r3 L,fun j r' hj Sh=>?_⟩,sbgn [] r3,by dsimp only;omega⟩;by_cases Ov:j=i
   .subst Ov;rw[hr]at Sh;injection Sh with Sh;rw[<-Sh];exact heq
   .exact OI j r' (by dsimp only at hj;omega) Sh
 .have h:i=G8.length:=by
   have:¬i<G8.length:=by simpa using h
   omega
  have Q7:∀r∈G8,r.length=dH G8:=fun r hr=>by
   obtain⟨j,hj⟩:=aY hr;exact OI j r (by rw[h];exact(aH.1 hj).1) hj
  have UC:im G8=if 60<G8.length\/60<dH G8 then 8 else 0:=by unfold im;rw[aM Q7]
  conv=>whnf
  apply bS<;>intro hl
  .have hl:60<G8.length:=by
    have:(G8.length:Int)>60:=aI hl;omega
   conv=>whnf
   exact rtn Y fun I8 we re=>by rw[UC,aM (.inl hl)];rfl
  .have hl:¬60<G8.length:=by
    have:¬(G8.length:Int)>60:=aL hl;omega
   conv=>whnf
   refine cM (cN (I9:=fun _ _ v _=>v=iV (dH G8)) (fun O J r=>rS (rlo r L) (dK.rel hM r L)) ?_);rintro O wa v1 wb r' G N rfl;replace Y:=Y.tr N;clear r' G N;conv=>whnf
   apply bS<;>intro Ph
   .have Ph:60<dH G8:=by
     have:(dH G8:Int)>60:=aI Ph;omega
    conv=>whnf
    exact rtn Y fun I8 we re=>by rw[UC,aM (.inr Ph)];rfl
   .have Ph:¬60<dH G8:=by
     have:¬(dH G8:Int)>60:=aL Ph;omega
    conv=>whnf
    exact rtn Y fun I8 we re=>by rw[UC,aK be];rfl
theorem zV{u:Value}(L:Old S w)(h:dK w S v G8)(hu:dB w S u b):
  eD PG Fd.mY #[v,u] w (eL w fun v' _=>v'=iV ((if im G8≠0 then im G8 else if b.length≠G8.length then 11 else 0:Nat):Int)):=by
 replace h:=dK.arg h [];obtain⟨a,c,rfl,hc,hm⟩:=dD.shape h;obtain⟨a2,c2,rfl,Qf,SF⟩:=dU.shape hu;refine qV ce ?_;conv=>whnf
 refine cM (cN (I9:=fun _ _ v _=>v=iV (im G8)) (fun O J r=>sH (rlo r L) (dK.rel h r L)) ?_);rintro O wa v1 wb r' G Y rfl;clear r' G h;conv=>whnf
 apply bS<;>intro h0
 .have h0:im G8≠0:=fun e=>by rw[e]at h0;simp at h0
  rw[aM h0];conv=>whnf
  exact rtn Y fun I8 we re=>rfl
 .have h0:im G8=0:=by
   have h4:((im G8:Int)==0)=true:=by simpa using h0
   have:=eq_of_beq h4;omega
  rw[aK be];conv=>whnf
  apply bS<;>intro W
  .have W:b.length≠G8.length:=fun e=>by rw[e]at W;simp at W
   rw[aM W];conv=>whnf
   exact rtn Y fun I8 we re=>rfl
  .have W:b.length=G8.length:=by
    have h4:((b.length:Int)==(G8.length:Int))=true:=by simpa using W
    have:=eq_of_beq h4;omega
   rw[aK be];conv=>whnf
   exact rtn Y fun I8 we re=>rfl
def f0:List Value:=[.bool false,nls,.bool false,nls]
structure kl(w:World)(S:Nat->Prop)(n i:Nat)(M:List (List Value))(qs:List Rat):Prop where
 len:M.length=n
 four:∀cs∈M,cs.length=4
 one:∀cs∈M,∀u∈cs,u.oneCell'=true
 at_:∀(j:Nat) cs q,j<i->M[j]? =some cs->qs[j]? =some q->jP w S cs q
section
variable{S S':Nat->Prop}{H:Hp}{nx n i:Nat}{iv K:Iv}{B:Nat}{w w1 J F:World}{O:Nat->Sx.dc}{M:List (List Value)}{qs:List Rat}
theorem kl.cP(h:kl w S n i M qs)(Z:∀g,S g->F.heap[g]? =w.heap[g]?):kl F S n i M qs:=⟨h.len,h.four,h.one,fun j cs q hj W I=>(h.at_ j cs q hj W I).cP Z⟩
theorem kl.cO(h:kl w S n i M qs)(Z:∀g,S g->S' g):kl w S' n i M qs:=⟨h.len,h.four,h.one,fun j cs q hj W I=>(h.at_ j cs q hj W I).cO Z⟩
theorem kl.rel(h:kl w (Cv S B iv) n i M qs)(r:Rel H nx iv B w O J)(L:∀g,S g->g<B):kl J (Cv S B iv) n i M qs:=h.cP fun _ V=>rls r L V
theorem kl.cL(h:kl w (Cv S B iv) n i M qs)(r:Rel H nx iv B w O J)(L:∀g,S g->g<B)(G:Ext J F)(hm:∀p,p∈iv->p∈K):kl F (Cv S B K) n i M qs:=
 ((h.rel r L).cP fun g V=>G.block g (rlo r L g V)).cO fun _ V=>V.mono hm
theorem kl.start(w:World)(S:Nat->Prop)(n:Nat)(qs:List Rat):kl w S n 0 (List.replicate n f0) qs:=
 ⟨ce,fun cs hc=>by rw[List.eq_of_mem_replicate hc];rfl,fun cs hc u hu=>by rw[List.eq_of_mem_replicate hc]at hu;simp[f0]at hu;rcases hu with rfl|rfl|rfl|rfl<;>rfl,fun j cs q hj=>be⟩
theorem kl.next{b b2:Bool}{m c m2 c2:Nat}(h:kl w S n i M qs)(R:i<n)(hq:qs[i]? =some q)(hf:cY w S (.agg #[.bool b,.slice a m c,.bool b2,.slice a2 m2 c2]) q):
  kl w S n (i+1) (M.set i (rC b a m c b2 a2 m2 c2)) qs:=by
 refine⟨by simp[h.len],fun cs hc=>?_,fun cs hc u hu=>?_,fun j cs p hj W I=>?_⟩
 .rcases bH hc with hc|rfl
  .exact h.four cs hc
  .rfl
 .rcases bH hc with hc|rfl
  .exact h.one cs hc u hu
  .simp at hu;rcases hu with rfl|rfl|rfl|rfl<;>rfl
 .by_cases Qg:i=j
  .subst Qg;rw[aO (by rw[h.len];exact R)]at W;rw[hq]at I;injection W with W;injection I with I;subst W I;exact hf.four
  .rw[aV Qg]at W;exact h.at_ j cs p be W I
theorem kl.flat(h:kl w S n i M qs):M.flatten.length=n*4:=by rw[gZ h.four,h.len]
theorem kl.done(h:kl w1 (Cf w0 iv) n n M qs)(hl:qs.length=n)(U:n<=maxLen)(r:Rel H nx iv w0.heap.size w1 O J)(hH:dF H id=some (.arr T.cw M.flatten))(OW:(O id).nil=false):
  fM J FF w0.heap.size [(w0.heap.size,J.heap.size)] (.slice (some ⟨(O id).g,0,none⟩) n n) n qs:=by
 have I:=h.rel r (LO w0);have ON:=r.low id _ hH OW;refine⟨⟨M,⟨h.flat,.inr ⟨(O id).g,n,M.flatten.toArray,rfl,bA _,r.arr id _ _ hH,lr,U,by simpa using h.flat,?_⟩⟩,h.len,?_⟩,fun g V=>?_⟩
 .rw[<-h.flat];exact bF
 .refine⟨by rw[h.len,hl],fun j cs q h3 h4=>?_⟩;refine(I.at_ j cs q (by rw[<-hl];exact(aH.1 h4).1) h3 h4).cO fun g V=>⟨?_,fun e=>?_⟩
  .rcases V with V|⟨k1,lo,R,k2,k3,k4⟩
   .exact V.elim
   .exact .inr ⟨k1,_,_,bW.2 rfl,k1,by have:=r.nG lo R k2;have:=r.size;omega⟩
  .injection e with e;exact Rel.not r (LO w0) V id _ hH OW e
 .injection V with V;subst V;exact .inr ⟨ON.1,_,_,bW.2 rfl,ON.1,ON.2⟩
end
theorem mi(n:Nat)(w:World)(U:n<=1000000):eD PG Fd.vH #[iV n] w (eL w fun v F=>fM F FF w.heap.size [(w.heap.size,F.heap.size)] v n (List.replicate n 0)):=by
 refine yI ce ?_;conv=>whnf
 refine⟨n,n,rfl,rfl,lr,be,be,?_⟩;conv=>whnf
 refine⟨Nat×List (List Value)×Iv×World,fun z=>⟨[(3,.o (.s 0 0 n n)),(8,iZ n),(9,iZ z.1)],[(0,.arr T.cw z.2.1.flatten)],1,z.2.2.1,z.2.2.2⟩,fun z=>n-z.1,
  fun z=>z.1<=n/\Bq w z.2.2.2/\kl z.2.2.2 (Cf w z.2.2.1) n z.1 z.2.1 (List.replicate n 0),?_,?_⟩
 .intro O J r;exact⟨(0,List.replicate n f0,[],J),⟨ce,r.cV,kl.start _ _ _ _⟩,sbgn [] r⟩
 rintro⟨i,M,iv,w1⟩ ⟨R,Y,hF⟩;dsimp only at R Y hF ⊢;conv=>whnf
 apply bS<;>intro h
 .have h:=dL h;conv=>whnf
  refine cM (cN (I9:=fun _ J v F=>cY F (Nf J F) v ((0:Int):Rat)) (fun O J r=>iD 0 J bv bv) ?_);rintro O wa v1 wb r G N hO;have Pw:=hO.eX (S:=FF) r.cR (iv:=(wa.heap.size,wb.heap.size)::iv) aF;replace hF:=hF.cL (K:=(wa.heap.size,wb.heap.size)::iv) r oF G fun x E=>aD _ E;replace Y:=Y.tr N;clear r G N hO;generalize (wa.heap.size,wb.heap.size)::iv=iv2 at*
  obtain⟨b1,a1,n1,c1,b2,a2,n2,c2,rfl⟩:=Pw.shape;have Qa:=hF.next h (q:=0) (by simp[h]) Pw
  conv=>whnf
  refine⟨be,?_⟩;conv=>whnf
  refine⟨by have:=hF.flat;omega,(M.set i (rC b1 a1 n1 c1 b2 a2 n2 c2)).flatten,?_,?_⟩
  .have:=mH (cs:=rC b1 a1 n1 c1 b2 a2 n2 c2) hF.four (show i<M.length by rw[hF.len];exact h);rw[<-this];simp
  conv=>whnf
  refine inc i ?_;conv=>whnf
  intro IR w3 r3;exact⟨(i+1,M.set i (rC b1 a1 n1 c1 b2 a2 n2 c2),iv2,w3),⟨h,Y.tr r3.cV,Qa.rel r3 oF⟩,sbgn [] r3,dec h⟩
 .have h:i=n:=by
   have:¬i<n:=by simpa using h
   omega
  subst h;conv=>whnf
  exact rtn Y fun I8 we re=>hF.done ce mx re (id:=0) rfl (re.nn 0 _ rfl (by intros;simp) ce)
def cU(x:Int×Int):Rat:=ratio x.1 x.2
def wm(xs:List (Int×Int)):Prop:=∀x∈xs,ln x.1.natAbs<=10000000000/\ln x.2.natAbs<=10000000000
theorem yW(L:Old S w)(h:dB w S v xs)(hf:wm xs)(U:xs.length<=1000000):
  eD PG Fd.tE #[v] w (eL w fun v' F=>fM F FF w.heap.size [(w.heap.size,F.heap.size)] v' xs.length (xs.map cU)):=by
 replace h:=dB.arg h [];obtain⟨a,c,rfl,hc,-⟩:=dU.shape h;refine wB ce ?_;conv=>whnf
 refine⟨xs.length,xs.length,rfl,rfl,lr,be,be,?_⟩;conv=>whnf
 refine⟨Nat×List (List Value)×Iv×World,fun z=>⟨[(3,.o (.s 0 0 xs.length xs.length)),(9,sV a xs.length c),(10,iZ xs.length),(11,iZ z.1)],[(0,.arr T.cw z.2.1.flatten)],1,z.2.2.1,z.2.2.2⟩,fun z=>xs.length-z.1,
  fun z=>z.1<=xs.length/\Bq w z.2.2.2/\dB z.2.2.2 (Cv S w.heap.size z.2.2.1) (.slice a xs.length c) xs/\kl z.2.2.2 (Cf w z.2.2.1) xs.length z.1 z.2.1 (xs.map cU),?_,?_⟩
 .intro O J r;exact⟨(0,List.replicate xs.length f0,[],J),⟨ce,r.cV,dB.rel h r L,kl.start _ _ _ _⟩,sbgn [] r⟩
 clear h;rintro⟨i,M,iv,w1⟩ ⟨R,Y,hX,hF⟩;dsimp only at R Y hX hF ⊢;conv=>whnf
 apply bS<;>intro h
 .have h:=dL h;obtain⟨x,E⟩:=gO xs i;obtain⟨ad,cs,rfl,hR,-,hl⟩:=dU.load hX E;obtain⟨b3,a3,n3,c3,b4,a4,n4,c4,rfl,hR⟩:=hR;obtain⟨f1,f2⟩:=hf x (aG E);conv=>whnf
  refine⟨ad,rfl,be,?_⟩;conv=>whnf
  refine⟨rC b3 a3 n3 c3 b4 a4 n4 c4,rfl,fun O J r j u hu=>?_,?_⟩
  .obtain⟨k1,k2⟩:=hl j u hu;have:=rls r L k1;rw[aN,cg (w:=w1) (F:=J) (by rw[eQ,eQ];exact this)];exact k2
  conv=>whnf
  refine cM (cN (I9:=fun _ J v F=>cY F (Nf J F) v (cU x)) (fun O J r=>BT (rlo r L) (hR.rel r L) be be) ?_);rintro O wa v1 wb r G N hO;have Pw:=hO.eX (S:=FF) r.cR (iv:=(wa.heap.size,wb.heap.size)::iv) aF;replace hF:=hF.cL (K:=(wa.heap.size,wb.heap.size)::iv) r oF G fun x E=>aD _ E;replace hX:=dB.cL (K:=(wa.heap.size,wb.heap.size)::iv) hX r L G fun x E=>aD _ E;replace Y:=Y.tr N;clear r G N hO hl hR;generalize (wa.heap.size,wb.heap.size)::iv=iv2 at*
  obtain⟨b1,a1,n1,c1,b2,a2,n2,c2,rfl⟩:=Pw.shape;have Qa:=hF.next h (q:=cU x) (by rw[aS,E];rfl) Pw
  conv=>whnf
  refine⟨be,?_⟩;conv=>whnf
  refine⟨by have:=hF.flat;omega,(M.set i (rC b1 a1 n1 c1 b2 a2 n2 c2)).flatten,?_,?_⟩
  .have:=mH (cs:=rC b1 a1 n1 c1 b2 a2 n2 c2) hF.four (show i<M.length by rw[hF.len];exact h);rw[<-this];simp
  conv=>whnf
  refine inc i ?_;conv=>whnf
  intro IR w3 r3;exact⟨(i+1,M.set i (rC b1 a1 n1 c1 b2 a2 n2 c2),iv2,w3),⟨h,Y.tr r3.cV,dB.rel hX r3 L,Qa.rel r3 oF⟩,sbgn [] r3,dec h⟩
 .have h:i=xs.length:=by
   have:¬i<xs.length:=by simpa using h
   omega
  subst h;conv=>whnf
  exact rtn Y fun I8 we re=>hF.done ce mx re (id:=0) rfl (re.nn 0 _ rfl (by intros;simp) ce)
structure gl(w:World)(S:Nat->Prop)(B:Nat)(iv:Iv)(rv:List Value)(n:Nat)(G8:List (List Rat)):Prop where
 len:rv.length=G8.length
 row:∀(i:Nat) v qs,rv[i]? =some v->G8[i]? =some qs->gA w (fun g=>Cv S B iv g/\¬ ∃u∈rv,u.ownBlock=some g) v n qs
 D4:∀(i j:Nat) a b g,rv[i]? =some a->rv[j]? =some b->a.ownBlock=some g->b.ownBlock=some g->i=j
 new:∀v∈rv,∀g,v.ownBlock=some g->Cv FF B iv g
theorem kW(B:Nat):∀g,(fun _:Nat=>False) g->g<B:=fun _ h=>h.elim
theorem D3{B:Nat}{iv:Iv}{g:Nat}(h:Cv FF B iv g):Cv S B iv g:=h.elim (fun h=>h.elim) .inr
section
variable{S S':Nat->Prop}{H:Hp}{nx n i:Nat}{iv K:Iv}{B:Nat}{w w1 J F:World}{O:Nat->Sx.dc}{rv:List Value}{G8:List (List Rat)}
theorem gl.cP(h:gl w S B iv rv n G8)(Z:∀g,Cv S B iv g->F.heap[g]? =w.heap[g]?):gl F S B iv rv n G8:=
 ⟨h.len,fun i v qs W I=>(h.row i v qs W I).cP fun g V=>Z g (V.elim (fun h=>h.1) fun V=>D3 (h.new v (aG W) g V)),h.D4,h.new⟩
theorem gl.rel(h:gl w S B iv rv n G8)(r:Rel H nx iv B w O J)(L:∀g,S g->g<B):gl J S B iv rv n G8:=h.cP fun _ V=>rls r L V
theorem gl.cL(h:gl w S B iv rv n G8)(r:Rel H nx iv B w O J)(L:∀g,S g->g<B)(G:Ext J F)(hm:∀p,p∈iv->p∈K):gl F S B K rv n G8:=
 have I:=(h.rel r L).cP fun g V=>G.block g (rlo r L g V)
 ⟨I.len,fun i v qs k1 k2=>(I.row i v qs k1 k2).cO fun _ V=>⟨V.1.mono hm,V.2⟩,I.D4,fun v hv g V=>(I.new v hv g V).mono hm⟩
theorem gl.nil(w:World)(S:Nat->Prop)(B:Nat)(iv:Iv)(n:Nat):gl w S B iv [] n []:=⟨rfl,ce,ce,ce⟩
theorem gl.snoc(h:gl w S B iv rv n G8)(r:Rel H nx iv B w O J)(L:∀g,S g->g<B)(G:Ext J F)(hv:gA F (fun g=>Cv S B ((J.heap.size,F.heap.size)::iv) g/\v.ownBlock≠some g/\¬ ∃u∈rv,u.ownBlock=some g) v n qs)
  (Sl:∀g,v.ownBlock=some g->J.heap.size<=g/\g<F.heap.size):gl F S B ((J.heap.size,F.heap.size)::iv) (rv++[v]) n (G8++[qs]):=by
 have hold:∀g,Cv S B iv g->g<J.heap.size:=rlo r L;have I:=h.cL (K:=(J.heap.size,F.heap.size)::iv) r L G fun x E=>aD _ E;have Xj:∀g,Cv S B iv g->v.ownBlock≠some g:=fun g V e=>by have:=hold g V;have:=(Sl g e).1;omega
 refine⟨by simp[h.len],fun i u ps h3 h4=>?_,fun i j a b g h3 h4 h5 h6=>?_,fun u hu g V=>?_⟩
 .rcases az i rv.length with R|R
  .rw[aQ R]at h3;rw[aQ (by rw[<-h.len];exact R)]at h4;have h5:=((h.rel r L).cP (F:=F) fun g V=>G.block g (hold g V)).row i u ps h3 h4;refine h5.cO fun g V=>⟨V.1.mono fun x E=>aD _ E,fun⟨x,E,e⟩=>?_⟩
   rcases bY.1 E with E|E
   .exact V.2 ⟨x,E,e⟩
   .simp at E;subst E;exact Xj g V.1 e
  .rw[aW R]at h3;rw[aW (by rw[<-h.len];exact R)]at h4;have h0:i-rv.length=0:=by
    have:=(aH.1 h3).1;simp at this;omega
   rw[h0]at h3;rw[<-h.len,h0]at h4;simp at h3 h4;subst h3 h4;refine hv.cO fun g V=>⟨V.1,fun⟨x,E,e⟩=>?_⟩
   rcases bY.1 E with E|E
   .exact V.2.2 ⟨x,E,e⟩
   .simp at E;subst E;exact V.2.1 e
 .have key:∀(i:Nat) a,(rv++[v])[i]? =some a->rv[i]? =some a\/(i=rv.length/\a=v):=fun i a ha=>by
   rcases az i rv.length with R|R
   .rw[aQ R]at ha;exact .inl ha
   .rw[aW R]at ha;have:=(aH.1 ha).1;simp at this;rw[this]at ha;simp at ha;exact .inr ⟨be,ha.symm⟩
  have hvn:∀(i:Nat) a,rv[i]? =some a->a.ownBlock=some g->v.ownBlock≠some g:=fun i a ha e=>Xj g (D3 (h.new a (aG ha) g e));rcases key i a h3 with k1|⟨k1,rfl⟩<;>rcases key j b h4 with k2|⟨k2,rfl⟩
  .exact h.D4 i j a b g k1 k2 h5 h6
  .exact absurd h6 (hvn i a k1 h5)
  .exact absurd h5 (hvn j b k2 h6)
  .omega
 .rcases bY.1 hu with hu|hu
  .exact(h.new u hu g V).mono fun x E=>aD _ E
  .simp at hu;subst hu;have:=Sl g V;exact .inr ⟨by have:=r.cR;omega,_,_,aF,this.1,this.2⟩
theorem gl.Mh(h:gl w S B iv rv n G8)(r:Rel H nx iv B w O J)(L:∀g,S g->g<B)(G:Ext J F)(E:fM F FF J.heap.size [(J.heap.size,F.heap.size)] v n qs):
  gl F S B ((J.heap.size,F.heap.size)::iv) (rv++[v]) n (G8++[qs]):=by
 have key:∀g,Cv FF J.heap.size [(J.heap.size,F.heap.size)] g->J.heap.size<=g/\g<F.heap.size:=fun g V=>by
  rcases V with V|⟨W,lo,R,I,h3,h4⟩
  .exact V.elim
  .simp at I;obtain⟨rfl,rfl⟩:=I;exact⟨h3,h4⟩
 refine h.snoc r L G (E.row.cO fun g V=>?_) fun g V=>key g (E.new g V);have:=key g V.1;refine⟨.inr ⟨by have:=r.cR;omega,_,_,aF,this.1,this.2⟩,V.2,fun⟨u,hu,e⟩=>?_⟩;have:=rlo r (kW B) g (h.new u hu g e);omega
theorem gl.NI(h:gl w S B iv rv n G8)(r:Rel H nx iv B w O J)(L:∀g,S g->g<B)(hH:dF H id=some (.arr T.row rv))(OW:(O id).nil=false)(hR:rv.length<=maxLen)(_h1:∀u∈rv,u.oneCell'=true):
  iC J (fun g=>Cv S B iv g/\¬Mb (.slice (some ⟨(O id).g,0,none⟩) rv.length rv.length) rv g) (.slice (some ⟨(O id).g,0,none⟩) rv.length rv.length) rv n G8:=by
 have I:=h.rel r L;have PF:∀g,Cv S B iv g->(O id).g≠g:=fun g V=>Rel.not r L V id _ hH OW;refine⟨⟨ce,.inr ⟨(O id).g,rv.length,rv.toArray,rfl,bA _,r.arr id _ _ hH,lr,hR,ce,ce⟩⟩,h.len,fun i v qs h3 h4=>?_,h.D4,fun v hv g V e=>?_⟩
 .refine(I.row i v qs h3 h4).cO fun g V=>⟨V.1,fun hm=>?_⟩
  rcases hm with hm|hm
  .injection hm with hm;exact PF g V.1 hm
  .exact V.2 hm
 .injection e with e;exact PF g (D3 (h.new v hv g V)) e
structure tZ(w:World)(S:Nat->Prop)(B:Nat)(iv:Iv)(vm:Value)(n:Nat)(G8:List (List Rat)):Prop where
 ex:∃rv,iC w (fun g=>Cv S B iv g/\¬Mb vm rv g) vm rv n G8/\∀g,Mb vm rv g->Cv FF B iv g
theorem tZ.cP(h:tZ w S B iv vm n G8)(Z:∀g,Cv S B iv g->F.heap[g]? =w.heap[g]?):tZ F S B iv vm n G8:=by
 obtain⟨rv,W,I⟩:=h.ex;exact⟨rv,W.cP fun g V=>Z g (V.elim (fun h=>h.1) fun V=>D3 (I g V)),I⟩
theorem tZ.eX(h:tZ F FF J.heap.size [(J.heap.size,F.heap.size)] vm n G8)(hB:B<=J.heap.size)(hm:(J.heap.size,F.heap.size)∈iv):tZ F S B iv vm n G8:=by
 have key:∀g {X:Nat->Prop},Cv FF J.heap.size [(J.heap.size,F.heap.size)] g->Cv X B iv g:=fun g X V=>by
  rcases V with V|⟨W,lo,R,I,h3,h4⟩
  .exact V.elim
  .simp at I;obtain⟨rfl,rfl⟩:=I;exact .inr ⟨be,_,_,hm,h3,h4⟩
 obtain⟨rv,W,I⟩:=h.ex;exact⟨rv,W.cO fun g V=>⟨key g V.1,V.2⟩,fun g V=>key g (I g V)⟩
theorem iC.one(h:iC w S vm rv n G8):∀u∈rv,u.oneCell'=true:=fun u hu=>by
 obtain⟨i,R⟩:=aY hu;have hl:=(aH.1 R).1;obtain⟨M,W,_⟩:=h.row i u _ R (aE (by rw[<-h.len];exact hl));obtain⟨a,c,rfl,_⟩:=eK W;rfl
theorem iC.read(h:iC w S vm rv n G8):fK w (fun g=>S g\/Mb vm rv g) vm G8:=by
 refine⟨rv,?_,h.len,fun i u qs W I=>?_⟩
 .have hl:=h.len;rw[<-hl];rcases h.out.2 with⟨rfl,h0⟩|⟨g,cap,cur,rfl,N,hc,RL,Pu,Od,QJ⟩
  .have:rv=[]:=List.eq_nil_of_length_eq_zero h0;subst this;exact⟨by simp[maxLen],ce,ce,none,0,rfl,lr,ce⟩
  .refine⟨be,h.out.1,h.one,_,cap,rfl,RL,fun j u hu=>⟨_,rfl,.inr (.inl rfl),?_⟩⟩;exact h.out.cells (g:=g) rfl j u hu
 .have h3:gA w S u n qs:=h.row i u qs W I;exact h3.read.cO (fun g V=>.inr (.inr ⟨u,aG W,V⟩)) fun g V=>.inl V
theorem tZ.read(h:tZ w S B iv vm n G8):fK w (Cv S B iv) vm G8:=by
 obtain⟨rv,W,I⟩:=h.ex;exact fK.cO W.read fun g V=>V.elim (fun h=>h.1) fun V=>D3 (I g V)
end
theorem DC{n:Nat}(L:Old S w)(h:dK w S v G8)(hf:∀r∈G8,wm r)(OI:∀r∈G8,r.length=n)(U:n<=1000000)(hR:G8.length<=1000000):
  eD PG Fd.tD #[v] w (eL w fun v' F=>tZ F FF w.heap.size [(w.heap.size,F.heap.size)] v' n (G8.map (·.map cU))):=by
 replace h:=dK.arg h [];obtain⟨a,c,rfl,hc,-⟩:=dD.shape h;refine wA ce ?_;conv=>whnf
 refine⟨G8.length,G8.length,rfl,rfl,lr,be,be,?_⟩;conv=>whnf
 refine⟨List Value×Iv×World,fun z=>⟨[(3,.o (.s 0 0 G8.length G8.length)),(9,sV a G8.length c),(10,iZ G8.length),(11,iZ z.1.length)],[(0,.arr T.row (z.1++List.replicate (G8.length-z.1.length) nls))],1,z.2.1,z.2.2⟩,fun z=>G8.length-z.1.length,
  fun z=>z.1.length<=G8.length/\Bq w z.2.2/\dK z.2.2 (Cv S w.heap.size z.2.1) (.slice a G8.length c) G8/\gl z.2.2 FF w.heap.size z.2.1 z.1 n ((G8.take z.1.length).map (·.map cU))/\∀u∈z.1,u.oneCell'=true,?_,?_⟩
 .intro O J r;exact⟨([],[],J),⟨ce,r.cV,dK.rel h r L,by simpa using gl.nil _ _ _ _ _,ce⟩,sbgn [] r⟩
 clear h;rintro⟨rv,iv,w1⟩ ⟨R,Y,hX,hF,h1c⟩;dsimp only at R Y hX hF h1c ⊢;conv=>whnf
 apply bS<;>intro h
 .have h:rv.length<G8.length:=by simpa using h
  obtain⟨x,E⟩:=gO G8 rv.length;obtain⟨ad,u,rfl,Tw,SI,Ph⟩:=dD.load hX E;obtain⟨a2,c2,rfl⟩:=dD.nk Tw;have Ra:=OI x (aG E);conv=>whnf
  refine⟨ad,rfl,be,?_⟩;conv=>whnf
  refine⟨.slice a2 x.length c2,fun O J r=>?_,?_⟩
  .have:=rls r L SI;rw[aN,cg (w:=w1) (F:=J) (by rw[eQ];exact this)];exact Ph
  conv=>whnf
  refine cM (cN (I9:=fun _ J v F=>fM F FF J.heap.size [(J.heap.size,F.heap.size)] v n (x.map cU)) (fun O J r=>by rw[<-Ra];exact yW (rlo r L) (dB.rel Tw r L) (hf x (aG E)) be) ?_);rintro O wa v1 wb r G N hO;have hF2:=hF.Mh r oF G hO;replace hX:=dK.cL (K:=(wa.heap.size,wb.heap.size)::iv) hX r L G fun x E=>aD _ E;replace Y:=Y.tr N;obtain⟨a3,c3,rfl,-⟩:=hO.row.form;clear r G N hO Tw hF SI Ph;generalize (wa.heap.size,wb.heap.size)::iv=iv2 at*
  conv=>whnf
  refine⟨be,?_⟩;conv=>whnf
  refine⟨by simp;omega,(rv++[.slice a3 n c3])++List.replicate (G8.length-(rv.length+1)) nls,?_,?_⟩
  .have h5:G8.length-rv.length=(G8.length-(rv.length+1))+1:=by omega
   simp[h5,List.replicate_succ]
  conv=>whnf
  refine⟨((rv.length+1:Nat):Int),wo,?_⟩;conv=>whnf
  intro IR w3 r3;have R4:(rv++[Value.slice a3 n c3]).length=rv.length+1:=by simp
  refine⟨(rv++[.slice a3 n c3],iv2,w3),⟨by dsimp only;rw[R4];exact h,Y.tr r3.cV,dK.rel hX r3 L,?_,?_⟩,sbgn [] r3 ⟨by dsimp only;rw[R4];rfl,trivial⟩ ⟨rfl,rfl,rfl,by dsimp only;rw[R4];rfl,trivial⟩,by dsimp only;rw[R4];omega⟩
  .dsimp only
   rw[R4,bE,E,List.map_append];exact hF2.rel r3 oF
  .intro u hu;rcases bY.1 hu with hu|hu
   .exact h1c u hu
   .simp at hu;subst hu;rfl
 .have h:rv.length=G8.length:=by
   have:¬rv.length<G8.length:=by simpa using h
   omega
  rw[h,bF]at hF;rw[h,bj,List.replicate_zero,List.append_nil];conv=>whnf
  intro I8 we re;refine⟨_,rfl,Y.tr re.cV,?_⟩;have OW:=re.nn 0 _ rfl (by intros;simp) ce;have hm:=hF.NI re oF (id:=0) rfl OW mx h1c;rw[h]at hm;have key:∀g,Cf w iv g->Cf w [(w.heap.size,we.heap.size)] g:=fun g V=>by
   rcases V with V|⟨W,lo,R,I,h3,h4⟩
   .exact V.elim
   .exact .inr ⟨W,_,_,bW.2 rfl,W,by have:=re.nG lo R I;have:=re.size;omega⟩
  have ON:=re.low 0 _ rfl OW;refine⟨rv,hm.cO fun g V=>⟨key g V.1,V.2⟩,fun g V=>?_⟩;rcases V with V|⟨u,hu,V⟩
  .injection V with V;subst V;exact .inr ⟨ON.1,_,_,bW.2 rfl,ON.1,ON.2⟩
  .exact key g (hF.new u hu g V)
end Go.Ex
