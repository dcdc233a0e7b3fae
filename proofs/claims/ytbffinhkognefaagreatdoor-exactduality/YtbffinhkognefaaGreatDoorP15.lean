/- Texts X256 to X261: lemmas, each with its conditions. -/
import Derived.Test.YtbffinhkognefaaGreatDoorP14
namespace Go.Ex
open Go Go.Sx Go.Proofs
variable{ops:Array Oper}{l:Env}{H:Hp}{iv:Iv}{Fn:KT}{B i n nx:Nat}{p:Nat->Bool}{S:Nat->Prop}{O:Nat->Sx.dc}{P:Program}{Q:Sx.Ex->KT}{x:Tx}{w:World}{τ:lO}
section
variable{S:Nat->Prop}{H:Hp}{nx:Nat}{iv:Iv}{B:Nat}{w J F:World}{O:Nat->Sx.dc}{x:Tx}{t:Tb}{hd rvx:List Value}
theorem rk.KB(hT:rk w S B iv hd rvx x t)(L:∀g,S g->g<B){k:Nat}{u:Value}(hu:hd[k]? =some u):Gp w iv B fun J=>J.cell? (Addr.add ⟨x.g,0,none⟩ k)=some u:=fun r=>by
 obtain⟨tp,cb,cc,ca,hC⟩:=hT.iH;have Ve:(hd++tp)[k]? =some u:=by
  rw[aQ (dx hu)];exact hu
 obtain⟨g,c,e,W⟩:=(hC.cP (hT.same r L)).ows.ld aF Ve;injection e with e;injection e with e;injection e with e;rw[cd,aR,e];exact W
end
theorem qm(E9:Env->KT)(W:∀K0:KT,(∀l' H nx iv w,E9 l l' H nx iv w->K0 l' H nx iv w)->uj P τ B ops.toList ops.toList l H nx iv w K0)(I:∀l' H nx iv w,E9 l l' H nx iv w->Fn l' H nx iv w):
  uj P τ B ops.toList ops.toList l H nx iv w Fn:=W Fn I
theorem s6(E9:Env->KT)(W:∀K0:KT,(∀l' H nx iv w,E9 l l' H nx iv w->K0 l' H nx iv w)->nu P B ops l H nx iv w K0)(I:∀l' H nx iv w,E9 l l' H nx iv w->Fn l' H nx iv w):
  nu P B ops l H nx iv w Fn:=W Fn I
theorem ya{c:Code}(E9:Env->KT)(W:∀K0:Sx.Ex->KT,(∀l' H nx iv w,E9 l l' H nx iv w->K0 .normal l' H nx iv w)->jW P τ B c l H nx iv w K0)(I:∀l' H nx iv w,E9 l l' H nx iv w->Q .normal l' H nx iv w):
  jW P τ B c l H nx iv w Q:=W Q I
theorem kI{c1 c2:Code}(E9:Env->KT)(W:∀K0:Sx.Ex->KT,(∀l' H nx iv w,E9 l l' H nx iv w->K0 .normal l' H nx iv w)->jW P τ B c1 l H nx iv w K0)(I:∀l' H nx iv w,E9 l l' H nx iv w->jW P τ B c2 l' H nx iv w Q):
  jW P τ B (.seq c1 c2) l H nx iv w Q:=W _ fun l' H nx iv w hI=>I l' H nx iv w hI
theorem cj.NX{J:World}{t:Tb}(hT:cj w S B iv x t)(r:Rel H nx iv B w O J)(L:∀g,S g->g<B){q c g:Nat}(R:i<t.a.length)(hv:x.rv[i]? =some (.slice (some ⟨g,0,none⟩) q c))(U:(t.a.getD i []).length=q):
  eD PG Fd.dz #[.slice (some ⟨g,0,none⟩) q c,.func (.func Fd.fE) #[] #[]] J (eL J fun v' _=>v'=iV (pN (kj (fun j=>decide ((t.a.getD i []).getD j 0≠0)) (t.a.getD i []).length))):=by
 obtain⟨tp,cb,cc,ca,hC⟩:=(hT.rel r L).iH;obtain⟨v',M,W,I,h3,h4⟩:=hC.row R;rw[W]at hv;injection hv with hv;have hI:=hC.rowAt W I;have hm:=aG hI;have hR:=(fL.Fk hC hm h3).cO (C':=fun g=>Lv S B iv x g\/Bv x.cX g) (S':=fun g=>Lv S B iv x g\/Bv x.cX g) (fun g V=>.inr (by rw[<-hC.cX];exact j0.bk hm V)) fun g V=>.inl V;rw[hv]at hR;exact Gt (fun g V=>V.elim (fun V=>Lv.old r L g V) fun V=>hT.low r V) hR
def Tb.nC(t:Tb)(k i:Nat):Tb:={t with fs:=t.fs.eraseIdx k,a:=t.a.mapIdx fun j r=>if j<i then r.eraseIdx k else r}
theorem Tb.AM{t:Tb}{k:Nat}:t.nC k 0={t with fs:=t.fs.eraseIdx k}:=by
 refine Tb.ext rfl rfl ?_ rfl rfl rfl;show List.mapIdx _ _=_;apply aj;intro j;rw[List.getElem?_mapIdx]
 cases t.a[j]? with
 |none=>rfl
 |some r=>rw[bO,aK (Nat.not_lt_zero j)]
theorem Tb.BZ{t:Tb}{k:Nat}(R:i<t.a.length):(t.nC k i).a.getD i []=t.a.getD i []:=by
 unfold Tb.nC;rw[gI [] [] R,aK (Nat.lt_irrefl i)]
theorem Tb.DE{t:Tb}{k:Nat}:(t.nC k i).a.length=t.a.length:=List.length_mapIdx
theorem Tb.AN{t:Tb}{k:Nat}(R:i<t.a.length):{t.nC k i with a:=(t.nC k i).a.set i (((t.nC k i).a.getD i []).eraseIdx k)}=t.nC k (i+1):=by
 rw[Tb.BZ R];refine Tb.ext rfl rfl ?_ rfl rfl rfl;show List.set (List.mapIdx _ _) _ _=List.mapIdx _ _;apply aj;intro j;rw[List.getElem?_set,List.length_mapIdx,List.getElem?_mapIdx,List.getElem?_mapIdx];by_cases e:i=j
 .subst e;rw[aM rfl,aM R,aE R,bO,aM (cI i),List.getD,aE R];rfl
 .rw[aK e];congr 1
  funext r
  by_cases h:j<i
  .rw[aM h,aM be]
  .rw[aK h,aK be]
theorem Tb.DF{t:Tb}{k:Nat}:{t.nC k t.a.length with c:=t.c.eraseIdx k}=t.del k:=by
 refine Tb.ext rfl rfl ?_ rfl rfl rfl;show List.mapIdx _ _=List.map _ _;apply aj;intro j;rw[List.getElem?_mapIdx,aS]
 cases h:t.a[j]? with
 |none=>rfl
 |some r=>rw[bO,bO,aM (dx h)]
theorem Gw{t t1:Tb}{m q vv k h:Nat}(RR:Old S w)(PM:ed w S x t)(hW:t.Wf m q)(TF:0<m)(hq0:0<q)(hm:m<=1000)(hq:q<=1000)(hH:t.uI h)(I:2<=h)(hh:h<=100000000)
  (W:(kj (fun i=>decide (t.bs.getD i 0=vv)) t.bs.length=none/\t1=t)\/∃r s,kj (fun i=>decide (t.bs.getD i 0=vv)) t.bs.length=some r/\r<m/\kj (fun j=>decide ((t.a.getD r []).getD j 0≠0)) (t.a.getD r []).length=some s/\s<q/\dZ t.a r s≠0/\t1=t.fx r s)
  (hW1:t1.Wf m q) (TT:kj (fun i=>decide (t1.fs.getD i 0=vv)) t1.fs.length=some k) (WS:k<q):
  eD PG Fd.kx #[.pointer (some ⟨x.g,0,none⟩),iV vv] w (fun e F=>e= .returned (.tuple #[])/\∃x',x'.g=x.g/\Kept w F (Bv x.cX)/\ed F (fun g=>Nw S w F g/\¬Bv x'.cX g) x' (t1.del k)/\∀g,Bv x'.cX g->Bv x.cX g\/w.heap.size<=g):=by
 have L:=RR;obtain⟨gb,cb,gf,cf,ga,ca,gB,cB,gc,cc,hA⟩:=PM.KC hW TF hq0;have hT:=cj.arg PM;have Z:Kept w w (Bv x.cX):=Kept.refl;have Sv:=hW.bs;have SB:=hW.al;have hal1:=hW1.al;have hfl1:=hW1.fs;have hcl1:=hW1.c;have VF:∀i,i<m->∃g c,x.rv[i]? =some (.slice (some ⟨g,0,none⟩) q c):=hA.row;refine oX ce ?_;refine qm (fun l0 l H nx iv w1=>∃a13 a12 a11 a10 a9 a8:SV,l=(4,.o (.v (iV (pN (kj (fun i=>decide (t.bs.getD i 0=vv)) t.bs.length)))))::(13,a13)::(12,a12)::(11,a11)::(10,a10)::(9,a9)::(8,a8)::l0/\H=[]/\nx=0/\Kept w w1 (Bv x.cX)/\cj w1 S w.heap.size iv x t) ?_ ?_
 .intro K0 QK;refine⟨_,fun O J r=>hT.f0 L hA.b r,?_⟩;refine cM (cN (I9:=fun _ J v F=>v=iV (pN (kj (fun i=>decide (t.bs.getD i 0=vv)) t.bs.length))) (fun O J r=>(hA.b▸yY (S:=fun g=>Bv x.cX g) (fun g V=>hT.low r V) (hT.L0 r L (n:=m) be mx) be)) ?_);rintro O On v1 Oi r G N rfl;replace hT:=hT.cL (K:=(On.heap.size,Oi.heap.size)::[]) r L G fun x E=>aD _ E;replace Z:=Kept.cV N Z lr;clear r G N;generalize (On.heap.size,Oi.heap.size)::[]=OS at*
  conv=>whnf
  exact QK _ _ _ _ _ ⟨_,_,_,_,_,_,rfl,rfl,rfl,Z,hT⟩
 clear hT Z;rintro l H nx iv w1 ⟨a13,a12,a11,a10,a9,a8,rfl,rfl,rfl,Z,hT⟩;rcases W with⟨W,VO⟩|⟨u,s,W,hu,h3,hs,OL,VO⟩
 .replace hT:=hT.cast VO.symm;rw[W];refine ya (fun l0 l H nx iv w1=>∃a14:SV,l=(15,.o (.v (.bool false)))::(14,a14)::l0/\H=[]/\nx=0/\Kept w w1 (Bv x.cX)/\cj w1 S w.heap.size iv x t1) ?_ ?_
  .intro K0 QK;conv=>whnf
   exact QK _ _ _ _ _ ⟨_,rfl,rfl,rfl,Z,hT⟩
  clear hT Z;rintro l H nx iv w1 ⟨a14,rfl,rfl,rfl,Z,hT⟩;refine kI (fun l0 l H nx iv w1=>∃a33 a32 a31 a30 a29 a28:SV,l=(6,.o (.v (iV ((k:Int)))))::(33,a33)::(32,a32)::(31,a31)::(30,a30)::(29,a29)::(28,a28)::l0/\H=[]/\nx=0/\Kept w w1 (Bv x.cX)/\cj w1 S w.heap.size iv x t1) ?_ ?_
  .intro K0 QK;refine⟨_,fun O J r=>hT.f1 L hA.f r,?_⟩;refine cM (cN (I9:=fun _ J v F=>v=iV (pN (kj (fun i=>decide (t1.fs.getD i 0=vv)) t1.fs.length))) (fun O J r=>(hA.f▸yY (S:=fun g=>Bv x.cX g) (fun g V=>hT.low r V) (hT.Io r L (n:=q) be mx) be)) ?_);rintro O On v1 Oi r G N rfl;replace hT:=hT.cL (K:=(On.heap.size,Oi.heap.size)::iv) r L G fun x E=>aD _ E;replace Z:=Kept.cV N Z lr;clear r G N;generalize (On.heap.size,Oi.heap.size)::iv=OS at*
   rw[TT,j7];conv=>whnf
   exact QK _ _ _ _ _ ⟨_,_,_,_,_,_,rfl,rfl,rfl,Z,hT⟩
  clear hT Z;rintro l H nx iv w1 ⟨a33,a32,a31,a30,a29,a28,rfl,rfl,rfl,Z,hT⟩;refine kI (fun l0 l H nx iv w1=>∃a44 a43 a42 a41 a40 a39 a38 a37 a36 a35 a34:SV,l=(44,a44)::(43,a43)::(42,a42)::(41,a41)::(40,a40)::(39,a39)::(38,a38)::(37,a37)::(36,a36)::(35,a35)::(34,a34)::l0/\H=[]/\nx=0/\Kept w w1 (Bv x.cX)/\cj w1 S w.heap.size iv {x with vf:=.slice (some ⟨gf,0,none⟩) (q-1) cf} (t1.nC k 0)/\∀g,Bv (Tx.cX {x with vf:=.slice (some ⟨gf,0,none⟩) (q-1) cf}) g->Bv x.cX g) ?_ ?_
  .intro K0 QK;refine⟨_,fun O J r=>hT.f1 L hA.f r,((k+1:Nat):Int),wo,?_⟩;refine⟨fun O J r=>?_⟩;refine(hT.Ik r L (k:=k) hA.f hfl1 WS be).mono fun e w8 G=>?_;obtain⟨rfl,Qc⟩:=G;refine⟨_,_,(J.heap.size,w8.heap.size)::iv,rfl,r.fU (hT.not r) Qc.kept,?_⟩;have hP:=Qc.iH;have OT:=Qc.AI;replace Z:=(Kept.cV r.cV Z lr).trans Qc.kept;clear Qc r hT;generalize (J.heap.size,w8.heap.size)::iv=ivd at*
   conv=>whnf
   intro IR w3 r3;have hs:=hP.BY r3 L (k:=1) bv (v:=.slice (some ⟨gf,0,none⟩) (q-1) cf) (ad:=Addr.add ⟨x.g,0,none⟩ 1) (by rw[cd,aR]);refine⟨hs.spot,hs.cells,hs.own,fun w4 OZ=>?_⟩;obtain⟨Qb,Ot,-⟩:=hs.next w4 OZ
   have hT:=Qb.toO rfl rfl;replace Z:=Kept.fu (Kept.cV r3.cV Z lr) Ot fun g V N=>OT g N;clear hs Qb Ot OZ r3 hP;conv=>whnf
   exact QK _ _ _ _ _ ⟨_,_,_,_,_,_,_,_,_,_,_,rfl,rfl,rfl,Z,hT.cast Tb.AM.symm,OT⟩
  clear hT Z;rintro l H nx ivd w1 ⟨a44,a43,a42,a41,a40,a39,a38,a37,a36,a35,a34,rfl,rfl,rfl,Z,hT,Qx⟩;refine⟨_,fun O J r=>hT.f2 L (show Tx.va {x with vf:=.slice (some ⟨gf,0,none⟩) (q-1) cf}=_ from hA.a) r,Nat×Tx×World×Iv,fun z=>⟨[(0,.o (.v (.pointer (some ⟨x.g,0,none⟩)))),(6,.o (.v (iV (k:Int)))),(49,.o (.v (iV (m:Int)))),(50,.o (.v (iV (z.1:Int))))],[],0,z.2.2.2,z.2.2.1⟩,fun z=>m-z.1,fun z=>z.1<=m/\Kept w z.2.2.1 (Bv x.cX)/\cj z.2.2.1 S w.heap.size z.2.2.2 z.2.1 (t1.nC k z.1)/\z.2.1.g=x.g/\z.2.1.va= .slice (some ⟨ga,0,none⟩) m ca/\z.2.1.vc= .slice (some ⟨gc,0,none⟩) q cc/\(∀j,z.1<=j->z.2.1.rv[j]? =x.rv[j]?)/\∀g,Bv z.2.1.cX g->Bv x.cX g,?_,?_⟩
  .intro O J r;exact⟨(0,_,J,_),⟨bA _,Kept.cV r.cV Z lr,hT.rel r L,rfl,hA.a,hA.c,fun j _=>rfl,Qx⟩,sbgn [] r⟩
  clear hT Z Qx;rintro⟨i,y,w1,iv⟩ ⟨R,Z,hT,QE,Pz,Tv,VE,Qx⟩;dsimp only at R Z hT QE Pz Tv VE Qx ⊢;apply bS<;>intro OJ
  .have OJ:=dL OJ;obtain⟨gi,ci,RS⟩:=VF i OJ;have SG:=(VE i (ae i)).trans RS;have Uk:i<(t1.nC k i).a.length:=by rw[Tb.DE];omega
   have Vl:((t1.nC k i).a.getD i []).length=q:=by rw[Tb.BZ be];exact hW1.row OJ
   obtain⟨y2,Qs⟩:∃y2:Tx,y2={y with rv:=y.rv.set i (.slice (some ⟨gi,0,none⟩) (q-1) ci)}:=⟨_,rfl⟩
   refine s6 (fun l0 l H nx iv w1=>∃b69 b68 b64 b63 b61 b56 b67 b66 b65 b62 b60 b59 b58 b57 b55 b54 b53:SV,l=(69,b69)::(68,b68)::(64,b64)::(63,b63)::(61,b61)::(56,b56)::(67,b67)::(66,b66)::(65,b65)::(62,b62)::(60,b60)::(59,b59)::(58,b58)::(57,b57)::(55,b55)::(54,b54)::(53,b53)::l0/\H=[]/\nx=0/\Kept w w1 (Bv x.cX)/\cj w1 S w.heap.size iv y2 (t1.nC k (i+1))/\∀g,Bv y2.cX g->Bv x.cX g) ?_ ?_
   .intro K0 QK;refine vQ hτ uJ (.x 0 (.x 1 (.x 2 (.x 4 (.x 5 (.x 6 (.x 7 (.x 9 (.x 12 (.x 13 (.x 14 (.ld 3 196608 (.ld 8 232448 (.x 10 (.ld 11 229376 (.x 15 (.x 16 (.x 17 .nil)))))))))))))))))) d6 d6 ?_;refine⟨((k+1:Nat):Int),wo,.slice (some ⟨ga,0,none⟩) m ca,fun O J r=>by have h:=hT.f2 L Pz r;rw[QE]at h;exact h,.slice (some ⟨ga,0,none⟩) m ca,fun O J r=>by have h:=hT.f2 L Pz r;rw[QE]at h;exact h,_,rfl,be,_,fun O J r=>hT.cA L SG Pz r,?_⟩;refine⟨fun O J r=>?_⟩;refine(hT.Il r L (k:=k) Uk SG Vl WS be).mono fun e w8 G=>?_;obtain⟨rfl,Qc⟩:=G;refine⟨_,_,(J.heap.size,w8.heap.size)::iv,rfl,r.fU (hT.not r) Qc.kept,?_⟩;have hP:=Qc.iH;rw[<-Qs]at hP;have OT:=Qc.AI;rw[<-Qs]at OT;replace Z:=Kept.fu (Kept.cV r.cV Z lr) Qc.kept fun g V N=>Qx g N;clear Qc r;generalize (J.heap.size,w8.heap.size)::iv=iv2 at*
    have Pa:y2.g=x.g:=by rw[Qs];exact QE
    have Xd:y2.va= .slice (some ⟨ga,0,none⟩) m ca:=by rw[Qs];exact Pz
    refine⟨.slice (some ⟨ga,0,none⟩) m ca,fun O J r=>by have h:=hP.KB L (k:=2) (show y.hd[2]? =some (.slice (some ⟨ga,0,none⟩) m ca)from congrArg some Pz) r;rw[Pa]at h;exact h,rfl,_,rfl,be,?_⟩;intro IR w3 r3;have hs:=hP.Ii r3 L (i:=i) (v:=.slice (some ⟨gi,0,none⟩) (q-1) ci) (dx SG) Xd (ad:=Addr.add ⟨ga,0,none⟩ (((i:Nat):Int).toNat*1)) (by rw[aN,cd,aR]);refine⟨hs.spot,hs.cells,hs.own,fun w4 OZ=>?_⟩;obtain⟨Qb,Ot,-⟩:=hs.next w4 OZ
    have VW:=(Qb.toO (by rw[Qs];rfl) (by rw[Qs])).cast (Tb.AN be);replace Z:=Kept.fu (Kept.cV r3.cV Z lr) Ot fun g V N=>Qx g (OT g N);have Pe:∀g,Bv y2.cX g->Bv x.cX g:=fun g N=>Qx g (OT g N);clear hs Qb Ot OZ r3 hP;exact QK _ _ _ _ _ ⟨_,_,_,_,_,_,_,_,_,_,_,_,_,_,_,_,_,rfl,rfl,rfl,Z,VW,Pe⟩
   clear hT Z;rintro l H nx iv2 F ⟨b69,b68,b64,b63,b61,b56,b67,b66,b65,b62,b60,b59,b58,b57,b55,b54,b53,rfl,rfl,rfl,Z,hT,Pe⟩;refine inc i ?_;intro IR w3 r3;exact⟨(i+1,y2,w3,_),⟨OJ,Kept.cV r3.cV Z lr,hT.rel r3 L,by rw[Qs];exact QE,by rw[Qs];exact Pz,by rw[Qs];exact Tv,fun j hj=>by rw[Qs];exact(aV be).trans (VE j be),Pe⟩,sbgn [] r3,dec OJ⟩
  have OJ:=dE R OJ;have hD:{t1.nC k i with c:=t1.c.eraseIdx k}=t1.del k:=by rw[OJ,<-hal1];exact Tb.DF
  refine qm (fun l0 l H nx iv w1=>∃(b81 b80 b79 b78 b77 b76 b75 b74 b73 b72 b71:SV) (y2:Tx),l=(81,b81)::(80,b80)::(79,b79)::(78,b78)::(77,b77)::(76,b76)::(75,b75)::(74,b74)::(73,b73)::(72,b72)::(71,b71)::l0/\H=[]/\nx=0/\y2.g=x.g/\Kept w w1 (Bv x.cX)/\cj w1 S w.heap.size iv y2 (t1.del k)/\∀g,Bv y2.cX g->Bv x.cX g) ?_ ?_
  .intro K0 QK;refine⟨_,fun O J r=>by have h:=hT.f4 L Tv r;rw[QE]at h;exact h,((k+1:Nat):Int),wo,?_⟩;refine⟨fun O J r=>?_⟩;refine(hT.Im r L (k:=k) Tv hcl1 WS be).mono fun e w8 G=>?_;obtain⟨rfl,Qc⟩:=G;refine⟨_,_,(J.heap.size,w8.heap.size)::iv,rfl,r.fU (hT.not r) Qc.kept,?_⟩;have hP:=Qc.iH;have OT:=Qc.AI;replace Z:=Kept.fu (Kept.cV r.cV Z lr) Qc.kept fun g V N=>Qx g N;clear Qc r hT;generalize (J.heap.size,w8.heap.size)::iv=iv2 at*
   conv=>whnf
   intro IR w3 r3;have hs:=hP.BY r3 L (k:=4) bv (v:=.slice (some ⟨gc,0,none⟩) (q-1) cc) (ad:=Addr.add ⟨x.g,0,none⟩ 4) (by rw[cd,aR];exact congrArg (fun g=>(⟨g,4,none⟩:Addr)) QE.symm);refine⟨hs.spot,hs.cells,hs.own,fun w4 OZ=>?_⟩;obtain⟨Qb,Ot,-⟩:=hs.next w4 OZ
   have hT:=Qb.toO rfl rfl;replace Z:=Kept.fu (Kept.cV r3.cV Z lr) Ot fun g V N=>Qx g (OT g N);clear hs Qb Ot OZ r3 hP;exact QK _ _ _ _ _ ⟨_,_,_,_,_,_,_,_,_,_,_,{y with vc:=.slice (some ⟨gc,0,none⟩) (q-1) cc},rfl,rfl,rfl,QE,Z,hT.cast hD,fun g N=>Qx g (OT g N)⟩
  clear hT Z;rintro l H nx iv2 F ⟨b81,b80,b79,b78,b77,b76,b75,b74,b73,b72,b71,y2,rfl,rfl,rfl,Pa,Z,hT,Pe⟩;intro O J r;exact⟨rfl,y2,Pa,Kept.cV r.cV Z lr,hT.LY PM (fun g N=>.inl (Pe g N)) r L,fun g N=>.inl (Pe g N)⟩
 rw[W];obtain⟨gu,cu,hru⟩:=VF u hu;have QG:=hW.row hu;refine ya (fun l0 l H nx iv w1=>∃a27 a26 a25 a24 a5 a23 a22 a21 a20 a19 a18 a17 a16 a15 a14:SV,l=(27,a27)::(26,a26)::(25,a25)::(24,a24)::(5,a5)::(23,a23)::(22,a22)::(21,a21)::(20,a20)::(19,a19)::(18,a18)::(17,a17)::(16,a16)::(15,a15)::(14,a14)::l0/\H=[]/\nx=0/\Kept w w1 (Bv x.cX)/\cj w1 S w.heap.size iv x t1) ?_ ?_
 .intro K0 QK;conv=>whnf
  refine⟨_,fun O J r=>hT.f2 L hA.a r,_,rfl,⟨by rw[j7];omega,by rw[j7];omega⟩,_,fun O J r=>hT.cA L hru hA.a r,?_⟩;refine cM (cN (I9:=fun _ J v F=>v=iV (pN (kj (fun j=>decide ((t.a.getD u []).getD j 0≠0)) (t.a.getD u []).length))) (fun O J r=>(hT.NX r L be hru QG)) ?_);rintro O On v1 Oi r G N rfl;replace hT:=hT.cL (K:=(On.heap.size,Oi.heap.size)::iv) r L G fun x E=>aD _ E;replace Z:=Kept.cV N Z lr;clear r G N;generalize (On.heap.size,Oi.heap.size)::iv=OS at*
  rw[h3];refine⟨fun O J r=>?_⟩;refine(BW (u:=u) (s:=s) (Lv.old r L) (hT.rel r L).iH hW hu hs OL be be hH I hh).mono fun e w8 G=>?_;obtain⟨rfl,PU,PJ⟩:=G;refine⟨.tuple #[],_,(J.heap.size,w8.heap.size)::OS,rfl,r.fU (hT.not r) PU,?_⟩;replace PJ:=hT.eX r PJ;replace Z:=(Kept.cV r.cV Z lr).trans PU;clear hT PU;have hT:=PJ;clear PJ r;generalize (J.heap.size,w8.heap.size)::OS=iv2 at*
  replace hT:=hT.cast VO.symm;conv=>whnf
  exact QK _ _ _ _ _ ⟨_,_,_,_,_,_,_,_,_,_,_,_,_,_,_,rfl,rfl,rfl,Z,hT⟩
 clear hT Z;rintro l H nx iv w1 ⟨a27,a26,a25,a24,a5,a23,a22,a21,a20,a19,a18,a17,a16,a15,a14,rfl,rfl,rfl,Z,hT⟩;refine kI (fun l0 l H nx iv w1=>∃a33 a32 a31 a30 a29 a28:SV,l=(6,.o (.v (iV ((k:Int)))))::(33,a33)::(32,a32)::(31,a31)::(30,a30)::(29,a29)::(28,a28)::l0/\H=[]/\nx=0/\Kept w w1 (Bv x.cX)/\cj w1 S w.heap.size iv x t1) ?_ ?_
 .intro K0 QK;refine⟨_,fun O J r=>hT.f1 L hA.f r,?_⟩;refine cM (cN (I9:=fun _ J v F=>v=iV (pN (kj (fun i=>decide (t1.fs.getD i 0=vv)) t1.fs.length))) (fun O J r=>(hA.f▸yY (S:=fun g=>Bv x.cX g) (fun g V=>hT.low r V) (hT.Io r L (n:=q) be mx) be)) ?_);rintro O On v1 Oi r G N rfl;replace hT:=hT.cL (K:=(On.heap.size,Oi.heap.size)::iv) r L G fun x E=>aD _ E;replace Z:=Kept.cV N Z lr;clear r G N;generalize (On.heap.size,Oi.heap.size)::iv=OS at*
  rw[TT,j7];conv=>whnf
  exact QK _ _ _ _ _ ⟨_,_,_,_,_,_,rfl,rfl,rfl,Z,hT⟩
 clear hT Z;rintro l H nx iv w1 ⟨a33,a32,a31,a30,a29,a28,rfl,rfl,rfl,Z,hT⟩;refine kI (fun l0 l H nx iv w1=>∃a44 a43 a42 a41 a40 a39 a38 a37 a36 a35 a34:SV,l=(44,a44)::(43,a43)::(42,a42)::(41,a41)::(40,a40)::(39,a39)::(38,a38)::(37,a37)::(36,a36)::(35,a35)::(34,a34)::l0/\H=[]/\nx=0/\Kept w w1 (Bv x.cX)/\cj w1 S w.heap.size iv {x with vf:=.slice (some ⟨gf,0,none⟩) (q-1) cf} (t1.nC k 0)/\∀g,Bv (Tx.cX {x with vf:=.slice (some ⟨gf,0,none⟩) (q-1) cf}) g->Bv x.cX g) ?_ ?_
 .intro K0 QK;refine⟨_,fun O J r=>hT.f1 L hA.f r,((k+1:Nat):Int),wo,?_⟩;refine⟨fun O J r=>?_⟩;refine(hT.Ik r L (k:=k) hA.f hfl1 WS be).mono fun e w8 G=>?_;obtain⟨rfl,Qc⟩:=G;refine⟨_,_,(J.heap.size,w8.heap.size)::iv,rfl,r.fU (hT.not r) Qc.kept,?_⟩;have hP:=Qc.iH;have OT:=Qc.AI;replace Z:=(Kept.cV r.cV Z lr).trans Qc.kept;clear Qc r hT;generalize (J.heap.size,w8.heap.size)::iv=ivd at*
  conv=>whnf
  intro IR w3 r3;have hs:=hP.BY r3 L (k:=1) bv (v:=.slice (some ⟨gf,0,none⟩) (q-1) cf) (ad:=Addr.add ⟨x.g,0,none⟩ 1) (by rw[cd,aR]);refine⟨hs.spot,hs.cells,hs.own,fun w4 OZ=>?_⟩;obtain⟨Qb,Ot,-⟩:=hs.next w4 OZ
  have hT:=Qb.toO rfl rfl;replace Z:=Kept.fu (Kept.cV r3.cV Z lr) Ot fun g V N=>OT g N;clear hs Qb Ot OZ r3 hP;conv=>whnf
  exact QK _ _ _ _ _ ⟨_,_,_,_,_,_,_,_,_,_,_,rfl,rfl,rfl,Z,hT.cast Tb.AM.symm,OT⟩
 clear hT Z;rintro l H nx ivd w1 ⟨a44,a43,a42,a41,a40,a39,a38,a37,a36,a35,a34,rfl,rfl,rfl,Z,hT,Qx⟩;refine⟨_,fun O J r=>hT.f2 L (show Tx.va {x with vf:=.slice (some ⟨gf,0,none⟩) (q-1) cf}=_ from hA.a) r,Nat×Tx×World×Iv,fun z=>⟨[(0,.o (.v (.pointer (some ⟨x.g,0,none⟩)))),(6,.o (.v (iV (k:Int)))),(49,.o (.v (iV (m:Int)))),(50,.o (.v (iV (z.1:Int))))],[],0,z.2.2.2,z.2.2.1⟩,fun z=>m-z.1,fun z=>z.1<=m/\Kept w z.2.2.1 (Bv x.cX)/\cj z.2.2.1 S w.heap.size z.2.2.2 z.2.1 (t1.nC k z.1)/\z.2.1.g=x.g/\z.2.1.va= .slice (some ⟨ga,0,none⟩) m ca/\z.2.1.vc= .slice (some ⟨gc,0,none⟩) q cc/\(∀j,z.1<=j->z.2.1.rv[j]? =x.rv[j]?)/\∀g,Bv z.2.1.cX g->Bv x.cX g,?_,?_⟩
 .intro O J r;exact⟨(0,_,J,_),⟨bA _,Kept.cV r.cV Z lr,hT.rel r L,rfl,hA.a,hA.c,fun j _=>rfl,Qx⟩,sbgn [] r⟩
 clear hT Z Qx;rintro⟨i,y,w1,iv⟩ ⟨R,Z,hT,QE,Pz,Tv,VE,Qx⟩;dsimp only at R Z hT QE Pz Tv VE Qx ⊢;apply bS<;>intro OJ
 .have OJ:=dL OJ;obtain⟨gi,ci,RS⟩:=VF i OJ;have SG:=(VE i (ae i)).trans RS;have Uk:i<(t1.nC k i).a.length:=by rw[Tb.DE];omega
  have Vl:((t1.nC k i).a.getD i []).length=q:=by rw[Tb.BZ be];exact hW1.row OJ
  obtain⟨y2,Qs⟩:∃y2:Tx,y2={y with rv:=y.rv.set i (.slice (some ⟨gi,0,none⟩) (q-1) ci)}:=⟨_,rfl⟩
  refine s6 (fun l0 l H nx iv w1=>∃b69 b68 b64 b63 b61 b56 b67 b66 b65 b62 b60 b59 b58 b57 b55 b54 b53:SV,l=(69,b69)::(68,b68)::(64,b64)::(63,b63)::(61,b61)::(56,b56)::(67,b67)::(66,b66)::(65,b65)::(62,b62)::(60,b60)::(59,b59)::(58,b58)::(57,b57)::(55,b55)::(54,b54)::(53,b53)::l0/\H=[]/\nx=0/\Kept w w1 (Bv x.cX)/\cj w1 S w.heap.size iv y2 (t1.nC k (i+1))/\∀g,Bv y2.cX g->Bv x.cX g) ?_ ?_
  .intro K0 QK;refine vQ hτ uJ (.x 0 (.x 1 (.x 2 (.x 4 (.x 5 (.x 6 (.x 7 (.x 9 (.x 12 (.x 13 (.x 14 (.ld 3 196608 (.ld 8 232448 (.x 10 (.ld 11 229376 (.x 15 (.x 16 (.x 17 .nil)))))))))))))))))) d6 d6 ?_;refine⟨((k+1:Nat):Int),wo,.slice (some ⟨ga,0,none⟩) m ca,fun O J r=>by have h:=hT.f2 L Pz r;rw[QE]at h;exact h,.slice (some ⟨ga,0,none⟩) m ca,fun O J r=>by have h:=hT.f2 L Pz r;rw[QE]at h;exact h,_,rfl,be,_,fun O J r=>hT.cA L SG Pz r,?_⟩;refine⟨fun O J r=>?_⟩;refine(hT.Il r L (k:=k) Uk SG Vl WS be).mono fun e w8 G=>?_;obtain⟨rfl,Qc⟩:=G;refine⟨_,_,(J.heap.size,w8.heap.size)::iv,rfl,r.fU (hT.not r) Qc.kept,?_⟩;have hP:=Qc.iH;rw[<-Qs]at hP;have OT:=Qc.AI;rw[<-Qs]at OT;replace Z:=Kept.fu (Kept.cV r.cV Z lr) Qc.kept fun g V N=>Qx g N;clear Qc r;generalize (J.heap.size,w8.heap.size)::iv=iv2 at*
   have Pa:y2.g=x.g:=by rw[Qs];exact QE
   have Xd:y2.va= .slice (some ⟨ga,0,none⟩) m ca:=by rw[Qs];exact Pz
   refine⟨.slice (some ⟨ga,0,none⟩) m ca,fun O J r=>by have h:=hP.KB L (k:=2) (show y.hd[2]? =some (.slice (some ⟨ga,0,none⟩) m ca)from congrArg some Pz) r;rw[Pa]at h;exact h,rfl,_,rfl,be,?_⟩;intro IR w3 r3;have hs:=hP.Ii r3 L (i:=i) (v:=.slice (some ⟨gi,0,none⟩) (q-1) ci) (dx SG) Xd (ad:=Addr.add ⟨ga,0,none⟩ (((i:Nat):Int).toNat*1)) (by rw[aN,cd,aR]);refine⟨hs.spot,hs.cells,hs.own,fun w4 OZ=>?_⟩;obtain⟨Qb,Ot,-⟩:=hs.next w4 OZ
   have VW:=(Qb.toO (by rw[Qs];rfl) (by rw[Qs])).cast (Tb.AN be);replace Z:=Kept.fu (Kept.cV r3.cV Z lr) Ot fun g V N=>Qx g (OT g N);have Pe:∀g,Bv y2.cX g->Bv x.cX g:=fun g N=>Qx g (OT g N);clear hs Qb Ot OZ r3 hP;exact QK _ _ _ _ _ ⟨_,_,_,_,_,_,_,_,_,_,_,_,_,_,_,_,_,rfl,rfl,rfl,Z,VW,Pe⟩
  clear hT Z;rintro l H nx iv2 F ⟨b69,b68,b64,b63,b61,b56,b67,b66,b65,b62,b60,b59,b58,b57,b55,b54,b53,rfl,rfl,rfl,Z,hT,Pe⟩;refine inc i ?_;intro IR w3 r3;exact⟨(i+1,y2,w3,_),⟨OJ,Kept.cV r3.cV Z lr,hT.rel r3 L,by rw[Qs];exact QE,by rw[Qs];exact Pz,by rw[Qs];exact Tv,fun j hj=>by rw[Qs];exact(aV be).trans (VE j be),Pe⟩,sbgn [] r3,dec OJ⟩
 have OJ:=dE R OJ;have hD:{t1.nC k i with c:=t1.c.eraseIdx k}=t1.del k:=by rw[OJ,<-hal1];exact Tb.DF
 refine qm (fun l0 l H nx iv w1=>∃(b81 b80 b79 b78 b77 b76 b75 b74 b73 b72 b71:SV) (y2:Tx),l=(81,b81)::(80,b80)::(79,b79)::(78,b78)::(77,b77)::(76,b76)::(75,b75)::(74,b74)::(73,b73)::(72,b72)::(71,b71)::l0/\H=[]/\nx=0/\y2.g=x.g/\Kept w w1 (Bv x.cX)/\cj w1 S w.heap.size iv y2 (t1.del k)/\∀g,Bv y2.cX g->Bv x.cX g) ?_ ?_
 .intro K0 QK;refine⟨_,fun O J r=>by have h:=hT.f4 L Tv r;rw[QE]at h;exact h,((k+1:Nat):Int),wo,?_⟩;refine⟨fun O J r=>?_⟩;refine(hT.Im r L (k:=k) Tv hcl1 WS be).mono fun e w8 G=>?_;obtain⟨rfl,Qc⟩:=G;refine⟨_,_,(J.heap.size,w8.heap.size)::iv,rfl,r.fU (hT.not r) Qc.kept,?_⟩;have hP:=Qc.iH;have OT:=Qc.AI;replace Z:=Kept.fu (Kept.cV r.cV Z lr) Qc.kept fun g V N=>Qx g N;clear Qc r hT;generalize (J.heap.size,w8.heap.size)::iv=iv2 at*
  conv=>whnf
  intro IR w3 r3;have hs:=hP.BY r3 L (k:=4) bv (v:=.slice (some ⟨gc,0,none⟩) (q-1) cc) (ad:=Addr.add ⟨x.g,0,none⟩ 4) (by rw[cd,aR];exact congrArg (fun g=>(⟨g,4,none⟩:Addr)) QE.symm);refine⟨hs.spot,hs.cells,hs.own,fun w4 OZ=>?_⟩;obtain⟨Qb,Ot,-⟩:=hs.next w4 OZ
  have hT:=Qb.toO rfl rfl;replace Z:=Kept.fu (Kept.cV r3.cV Z lr) Ot fun g V N=>Qx g (OT g N);clear hs Qb Ot OZ r3 hP;exact QK _ _ _ _ _ ⟨_,_,_,_,_,_,_,_,_,_,_,{y with vc:=.slice (some ⟨gc,0,none⟩) (q-1) cc},rfl,rfl,rfl,QE,Z,hT.cast hD,fun g N=>Qx g (OT g N)⟩
 clear hT Z;rintro l H nx iv2 F ⟨b81,b80,b79,b78,b77,b76,b75,b74,b73,b72,b71,y2,rfl,rfl,rfl,Pa,Z,hT,Pe⟩;intro O J r;exact⟨rfl,y2,Pa,Kept.cV r.cV Z lr,hT.LY PM (fun g N=>.inl (Pe g N)) r L,fun g N=>.inl (Pe g N)⟩
theorem DG(R:i<n)(h:p i=true)(hu:∀j,j<n->p j=true->j=i):kj p n=some i:=
 uX R h fun j hj=>by
  cases e:p j with
  |false=>rfl
  |true=>have:=hu j be e;omega
theorem KH(h:∃i,i<n/\p i=true):∃i,kj p n=some i/\i<n/\p i=true:=by
 unfold kj
 cases e:(List.range n).find? p with
 |none=>
  obtain⟨i,R,hp⟩:=h;rw[List.find?_eq_none]at e;exact absurd hp (e i (List.mem_range.2 R))
 |some i=>exact⟨i,rfl,List.mem_range.1 (List.mem_of_find?_eq_some e),List.find?_some e⟩
section
variable{t:Tb}{D:Dc}{m n B:Nat}{F':Nat->Nat->Rat}{b:Nat->Rat}{F9:Mx}
theorem Gx(h:fW D m n F' b)(hf:D.vl)(hr:Rp t D)(ht:¬D.top<0)(hz:D.Sz B F9):∃t1 D1 k,
  ((kj (fun i=>decide (t.bs.getD i 0=n+m)) t.bs.length=none/\t1=t)\/∃r s,kj (fun i=>decide (t.bs.getD i 0=n+m)) t.bs.length=some r/\r<m/\kj (fun j=>decide ((t.a.getD r []).getD j 0≠0)) (t.a.getD r []).length=some s/\s<n+1/\dZ t.a r s≠0/\t1=t.fx r s)/\
  Rp t1 D1/\fW D1 m n F' b/\D1.vl/\D1.Sz B F9/\kj (fun i=>decide (t1.fs.getD i 0=n+m)) t1.fs.length=some k/\k<n+1/\D1.eG k=n+m:=by
 have hm:=h.em;have hq:=h.eq;have key:∀{t1:Tb} {D1:Dc} {k:Nat},Rp t1 D1->fW D1 m n F' b->k<D1.q->D1.eG k=n+m->kj (fun i=>decide (t1.fs.getD i 0=n+m)) t1.fs.length=some k/\k<n+1:=fun{t1 D1 k} Ps W Z hv=>by
  refine⟨DG (by rw[Ps.Jj];exact Z) (by rw[Ps.eG k Z];exact bQ hv) fun j hj e=>?_,by rw[<-W.eq];exact Z⟩;rw[Ps.Jj]at hj;have e:=aI e;rw[Ps.eG j hj]at e;exact W.ok.fi j k hj Z (e.trans hv.symm)
 rcases h.ND hf ht with⟨r,Ps,hv,N⟩|⟨k,Z,hv⟩
 .have hrb:t.bs.getD r 0=n+m:=by rw[hr.eS r Ps];exact hv
  have W:kj (fun i=>decide (t.bs.getD i 0=n+m)) t.bs.length=some r:=DG (by rw[hr.Gb];exact Ps) (bQ hrb) fun j hj e=>by
   rw[hr.Gb]at hj;have e:=aI e;rw[hr.eS j hj]at e;exact h.ok.bi j r hj Ps (e.trans hv.symm)
  have OI:=hr.Hy Ps
  obtain⟨s,Uu,R9,hs3⟩:=KH (p:=fun j=>decide ((t.a.getD r []).getD j 0≠0)) (n:=(t.a.getD r []).length) (by
   obtain⟨j,hj,OL⟩:=h.LC Ps hv N;refine⟨j,by rw[OI];exact hj,bQ ?_⟩;rw[show (t.a.getD r []).getD j 0=D.a r j from hr.ea r j Ps hj]
   exact OL)
  rw[OI]at R9;have OL:(t.a.getD r []).getD s 0≠0:=aI hs3;have Tu:D.a r s≠0:=by rw[<-hr.ea r s Ps R9];exact OL
  obtain⟨k1,k2,k3⟩:=h.out hf Ps hv N R9 Tu;obtain⟨k4,k5⟩:=key (hr.fx Ps R9) k1 R9 k3;exact⟨t.fx r s,D.fx r s,s,.inr ⟨r,s,W,be,Uu,be,OL,rfl⟩,hr.fx Ps R9,k1,k2,hz.fx h.ok Ps R9 Tu,k4,k5,k3⟩
 .obtain⟨k4,k5⟩:=key hr h Z hv;refine⟨t,D,k,.inl ⟨uY fun i R=>av fun e=>?_,rfl⟩,hr,h,hf,hz,k4,k5,hv⟩;rw[hr.Gb]at R;rw[hr.eS i R]at e;exact h.ok.bf i k R Z (e.trans hv.symm)
end
end Go.Ex
namespace Go.Sx
open Go Go.Ex Go.Proofs
variable{O:Nat->Sx.dc}
theorem Rel.less{H:Hp}{nx:Nat}{iv K:Iv}{B:Nat}{w J:World}(r:Rel H nx K B w O J)(hm:∀p,p∈iv->p∈K):Rel H nx iv B w O J:=
 {r with nG:=(fun lo R h=>r.nG lo R (hm _ h)),ix:=(fun lo R h=>r.ix lo R (hm _ h))}
end Go.Sx
namespace Go.Ex
open Go Go.Sx Go.Proofs
section
variable{q:List Rat}{C8 S:Nat->Prop}{v:Value}{w:World}
theorem j0.NY{S':Nat->Prop}{E9:List Ow}{it it':Ow}{k:Nat}(h:j0 w S E9)(Z:E9[k]? =some it)(ho:w.ownsRow 0 it'.e it'.sz it'.v it'.n it'.xs)
  (N:∀g,it'.v.ownBlock=some g->¬Bv (E9.map Ow.v) g) (off:∀g,Bv ((E9.set k it').map Ow.v) g->¬S' g):j0 w S' (E9.set k it'):=by
 refine⟨fun it2 QR=>?_,fun i j a b g R hj ha PD=>?_,off⟩
 .obtain⟨i,R⟩:=aY QR;rw[List.getElem?_set]at R;split at R
  .split at R
   .injection R with R;subst R;exact ho
   .cases R
  .exact h.own it2 (aG R)
 .have key:∀(i:Nat) (a:Ow),(E9.set k it')[i]? =some a->(i=k/\a=it')\/(i≠k/\E9[i]? =some a):=fun i a R=>by
   rw[List.getElem?_set]at R;split at R
   .rename_i e;split at R
    .injection R with R;exact .inl ⟨e.symm,R.symm⟩
    .cases R
   .rename_i e;exact .inr ⟨Ne.symm e,R⟩
  have low:∀(i:Nat) (a:Ow) (g:Nat),E9[i]? =some a->a.v.ownBlock=some g->Bv (E9.map Ow.v) g:=fun i a g R V=>j0.bk (aG R) V;rcases key i a R with⟨rfl,rfl⟩|⟨W,I⟩<;>rcases key j b hj with⟨rfl,rfl⟩|⟨h3,h4⟩
  .rfl
  .exact absurd (low j b g h4 PD) (N g ha)
  .exact absurd (low i a g I ha) (N g PD)
  .exact h.apart i j a b g I h4 ha PD
section
variable{w F:World}{S S':Nat->Prop}{hd rvx:List Value}{x:Tx}{t:Tb}
theorem nB.M9(h:nB w S hd rvx x t)(ho:gA w S' v q.length q)(N:∀g,v.ownBlock=some g->¬Bv x.cX g)
  (hs:∀g,S g->S' g) (U:∀g,Bv (Tx.cX {x with vc:=v}) g->¬S' g):nB w S' hd rvx {x with vc:=v} {t with c:=q}:=by
 obtain⟨tp,cb,cc,ca,h⟩:=h;obtain⟨M,RN,PZ,Tc⟩:=ho;have I:j0 w FF (mO hd rvx {x with vc:=v} {t with c:=q} tp cb M ca):=h.ows.NY (k:=5) (it':=fV v M) rfl (by show w.ownsRow 0 T.cw 4 v M.length _;rw[PZ];exact RN) (fun g V=>by rw[h.cX];exact N g V) fun _ _ h=>h;refine⟨tp,cb,M,ca,I.DZ fun g V=>U g ?_,h.ft.cO hs,h.fb.cO hs,Tc,h.fl,fun i M q W I=>(h.fa i M q W I).cO hs,h.rl,h.rx,h.h5⟩;have e:(mO hd rvx {x with vc:=v} {t with c:=q} tp cb M ca).map Ow.v=Tx.cX {x with vc:=v}:=by
  show _::_::_::_::_::_::(List.zipWith fV x.rv ca).map Ow.v=_;rw[ig (by rw[h.rl,h.fl])];rfl
 rw[<-e];exact V
end
theorem cj.Ma{iv K:Iv}{B Fd:Nat}{x:Tx}{t:Tb}(hT:cj w S B iv x t)(hN:∀g,Lv S B iv x g\/Bv x.cX g->g<Fd)(hX:gA w C8 v q.length q)(hv:∀g,v.ownBlock=some g->Fd<=g/\Cv FF B K g)(hL:∀g,C8 g->Fd<=g/\v.ownBlock≠some g/\Cv FF B K g)(hm:∀p,p∈iv->p∈K):
  rk w S B K x.hd x.rv {x with vc:=v} {t with c:=q}/\(∀g,Lv S B iv x g->Lv S B K {x with vc:=v} g)/\∀g,Bv (Tx.cX {x with vc:=v}) g->Bv x.cX g\/Fd<=g:=by
 have E:∀g,Bv (Tx.cX {x with vc:=v}) g->v.ownBlock=some g\/Bv x.cX g:=fun g h=>by
  rw[Bv.cX]at h ⊢;simp only at h;rcases h with h|h|h|h|h|h|h<;>simp[h]
 have hLL:∀g,Lv S B iv x g->Lv S B K {x with vc:=v} g:=fun g V=>⟨V.1.mono hm,fun N=>by
  rcases E g N with h|h
  .have:=(hv g h).1;have:=hN g (.inl V);omega
  .exact V.2 h⟩
 have hR:gA w (Lv S B K {x with vc:=v}) v q.length q:=hX.cO fun g V=>by
  obtain⟨W,I,h3⟩:=hL g V;refine⟨D3 h3,fun N=>?_⟩;rcases E g N with h|h
  .exact I h
  .have:=hN g (.inr h);omega
 refine⟨⟨hT.iH.toJ.M9 hR (fun g V N=>by have:=(hv g V).1;have:=hN g (.inr N);omega) hLL fun g N hl=>hl.2 N,fun g V=>?_⟩,hLL,fun g V=>(E g V).elim (fun h=>.inr (hv g h).1) .inl⟩;rcases E g V with h|h
 .exact D3 (hv g h).2
 .exact(hT.kL g h).mono hm
structure Way(w w0 w1:World)(x x0 y:Tx):Prop where
 k:Kept w w1 (Bv x.cX)
 a:∀g,Bv y.cX g->Bv x.cX g\/w.heap.size<=g
 k0:Kept w0 w1 (Bv x0.cX)
 a0:∀g,Bv y.cX g->Bv x0.cX g\/w0.heap.size<=g
section
variable{w w0 w1 F:World}{x x0 y y2:Tx}
end
end
variable{F':List (List Rat)}{M:List (List Value)}{zs:List Rat}{i:Nat}{S X:Nat->Prop}{d:Nat->Rat}{k2 k6:Option Addr}{q:Rat}{x:Tx}
section
variable{S F8:Nat->Prop}{H:Hp}{nx:Nat}{iv iv2:Iv}{B:Nat}{w J F:World}{O:Nat->Sx.dc}{y y2:Tx}{v:Value}{c:List Rat}
theorem dm.nf(h:dm w (Lv F8 B iv y) (Lv F8 B iv y) v c)(r:Rel H nx iv B w O J)(hU:∀g,F8 g->g<B)(Z:Kept J F (Bv y.cX))(AI:∀g,Bv y2.cX g->Bv y.cX g\/J.heap.size<=g)(hm:∀p,p∈iv->p∈iv2):dm F (Lv F8 B iv2 y2) (Lv F8 B iv2 y2) v c:=by
 have hold:∀g,Lv F8 B iv y g->g<J.heap.size:=fun g V=>rlo r hU g V.1;have OM:∀g,Lv F8 B iv y g->F.heap[g]? =w.heap[g]? :=fun g V=>(Z.block g (hold g V) V.2).trans (rls r hU V.1);have hL:∀g,Lv F8 B iv y g->Lv F8 B iv2 y2 g:=fun g V=>⟨V.1.mono hm,fun N=>(AI g N).elim V.2 fun h=>by have:=hold g V;omega⟩
 exact(h.cP fun g V=>OM g (V.elim id id)).cO hL hL
theorem cj.NZ{S F8:Nat->Prop}{iv K:Iv}{B Fd:Nat}{w:World}{t:Tb}{v:Value}(hT:cj w S B iv x t)(Vm:∀g,S g->F8 g)(hUx:∀g,Bv x.cX g->F8 g)(hN:∀g,Lv S B iv x g\/Bv x.cX g->g<Fd)(hv:∀g,v.ownBlock=some g->Fd<=g)(hm:∀p,p∈iv->p∈K):
  dm w (Lv F8 B K {x with vc:=v}) (Lv F8 B K {x with vc:=v}) x.vc t.c:=by
 obtain⟨tp,cb,cc,ca,hC⟩:=hT.iH;have S6:(gL x t tp cb cc ca)[5]? =some (fV x.vc cc):=rfl;have E:∀g,Bv (Tx.cX {x with vc:=v}) g->v.ownBlock=some g\/x.g=g\/x.vb.ownBlock=some g\/x.vf.ownBlock=some g\/x.va.ownBlock=some g\/x.vB.ownBlock=some g\/Bv x.rv g:=fun g h=>by
  rw[Bv.cX]at h;simp only at h;rcases h with h|h|h|h|h|h|h<;>simp[h]
 have RJ:∀g (k:Nat) it,k≠5->(gL x t tp cb cc ca)[k]? =some it->x.vc.ownBlock=some g->it.v.ownBlock=some g->False:=fun g k it Z R W I=>Z (hC.ows.apart k 5 it _ g R S6 I W);refine(fL.Fk hC (aG S6) hC.fc).cO (fun g V=>?_) fun g V=>?_
 .have TY:Bv x.cX g:=Bv.cX.2 (.inr (.inr (.inr (.inr (.inr (.inl V))))));refine⟨.inl (hUx g TY),fun N=>?_⟩;have Oo:=hN g (.inr TY);rcases E g N with h|h|h|h|h|h|⟨u,hu,h⟩
  .have:=hv g h;omega
  .exact RJ g 0 _ be rfl V (by rw[<-h];rfl)
  .exact RJ g 1 _ be rfl V h
  .exact RJ g 2 _ be rfl V h
  .exact RJ g 3 _ be rfl V h
  .exact RJ g 4 _ be rfl V h
  .obtain⟨i,R⟩:=aY hu;have Uk:=dx R;have hci:ca[i]? =some (ca[i]'(by rw[hC.fl,<-hC.rl];exact Uk)):=aE _;exact RJ g (i+6) _ be (hC.rowAt R hci) V h
 .have Oo:=hN g (.inl V);refine⟨(show Cv F8 B iv g from V.1.elim (fun h=>.inl (Vm g h)) .inr).mono hm,fun N=>?_⟩;rcases E g N with h|h
  .have:=hv g h;omega
  .refine V.2 (Bv.cX.2 ?_);rcases h with h|h|h|h|h|h<;>simp[h]
theorem DH(G:Ext J F):Kept J F X:=⟨G.os,G.tape,G.output,G.size,fun k Z _=>G.block k Z⟩
theorem cj.Na{S F8:Nat->Prop}{iv iv2:Iv}{B Fd e1 s2 e2 n:Nat}{wd J F:World}{t:Tb}{v1 v':Value}{k1 k5:Bool}{k3 k4 k7 k8:Nat}
  (hT:cj wd S B iv x t) (r:Rel H nx iv2 B wd O J) (L:∀g,S g->g<B) (Vm:∀g,S g->F8 g) (hUx:∀g,Bv x.cX g->F8 g) (hN:∀g,Lv S B iv x g\/Bv x.cX g->g<Fd) (hBN:B<=Fd) (hNw:Fd<=wd.heap.size)
  (hF:Fr wd (fun g=>Fd<=g/\g<e1/\v1.ownBlock≠some g) M zs) (hl:M.length=n) (Sp:∀g,v1.ownBlock=some g->Fd<=g/\g<e1) (hO:cY wd (fun g=>s2<=g/\g<e2) (.agg #[.bool k1,.slice k2 k3 k4,.bool k5,.slice k6 k7 k8]) q) (h12:Fd<=s2) (G:e1<=s2)
  (q1:(Fd,e1)∈iv2) (q2:(s2,e2)∈iv2) (q3:∀p,p∈iv->p∈iv2)
  (h5:F.ownsRow 0 T.cw 4 v' (n+1) (M.flatten++(rC k1 k2 k3 k4 k5 k6 k7 k8))) (h6:J.grownBy F v1.ownBlock) (h7:v'.ownBlock=v1.ownBlock\/v'.ownBlock=some J.heap.size):
  rk F S B (e8 v'++iv2) x.hd x.rv {x with vc:=v'} {t with c:=zs++[q]}/\Bel Fd J F/\(∀g,Bv (Tx.cX {x with vc:=v'}) g->Bv x.cX g\/Fd<=g)/\dm F (Lv F8 B (e8 v'++iv2) {x with vc:=v'}) (Lv F8 B (e8 v'++iv2) {x with vc:=v'}) x.vc t.c:=by
 have m1:∀p,p∈iv2->p∈e8 v'++iv2:=fun p hp=>List.mem_append_right _ hp;have z1:=(r.nG _ _ q1)
 have z2:=(r.nG _ _ q2)
 have Od:=r.size;have N:=r.cR;have r1:=r.less q3;have ON:∀g,Lv S B iv x g\/Bv x.cX g->F.heap[g]? =J.heap[g]? :=fun g V=>by
  have:=hN g V;refine h6.block g be fun e=>?_;have:=(Sp g e.symm).1;omega
 have VW:cj F S B iv x t:=(hT.rel r1 L).cP ON;have RD:∀g,v'.ownBlock=some g->Fd<=g/\Cv FF B (e8 v'++iv2) g:=fun g V=>by
  have W:Fd<=g:=by
   rcases h7 with h7|h7
   .rw[h7]at V;exact(Sp g V).1
   .rw[h7]at V;injection V with V;omega
  exact⟨W,.inr ⟨be,g,g+1,List.mem_append_left _ (jz.2 ⟨V,rfl⟩),lr,cI _⟩⟩
 have XN:∀g,v'.ownBlock=some g->v1.ownBlock=some g\/J.heap.size<=g:=fun g V=>by
  rcases h7 with h7|h7
  .exact .inl (h7▸V)
  .rw[h7]at V;injection V with V;exact .inr be
 have hF2:Fr F (fun g=>Fd<=g/\v'.ownBlock≠some g/\Cv FF B (e8 v'++iv2) g) M zs:=by
  refine(hF.cP (F:=F) fun g V=>?_).cO fun g V=>?_
  .exact(h6.block g be fun e=>V.2.2 e.symm).trans (rls r (kW _) (.inr ⟨be,_,_,q1,V.1,V.2.1⟩))
  .exact⟨V.1,fun e=>(XN g e).elim V.2.2 fun h=>be,.inr ⟨be,_,_,m1 _ q1,V.1,V.2.1⟩⟩
 have hO2:cY F (fun g=>Fd<=g/\v'.ownBlock≠some g/\Cv FF B (e8 v'++iv2) g) (.agg #[.bool k1,.slice k2 k3 k4,.bool k5,.slice k6 k7 k8]) q:=by
  refine(hO.cP (F:=F) fun g V=>?_).cO fun g V=>?_
  .exact(h6.block g be fun e=>by have:=(Sp g e.symm).2;omega).trans (rls r (kW _) (.inr ⟨be,_,_,q2,V.1,V.2⟩))
  .exact⟨be,fun e=>(XN g e).elim (fun h=>by have:=(Sp g h).2;omega) fun h=>be,.inr ⟨be,_,_,m1 _ q2,V.1,V.2⟩⟩
 have RC:(zs++[q]).length=n+1:=by rw[aU,<-hF.1,hl];rfl
 have hX:gA F (fun g=>Fd<=g/\v'.ownBlock≠some g/\Cv FF B (e8 v'++iv2) g) v' (zs++[q]).length (zs++[q]):=by
  rw[RC];refine⟨M++[rC k1 k2 k3 k4 k5 k6 k7 k8],?_,by rw[aU,hl];rfl,hF2.push hO2.four⟩;rw[List.flatten_append];exact h5
 obtain⟨k1,-,k3⟩:=VW.Ma hN hX RD (fun g V=>V) fun p hp=>m1 p (q3 p hp);refine⟨k1,⟨h6.os,h6.tape,h6.output,h6.size,fun g V=>h6.block g be fun e=>by have:=(Sp g e.symm).1;omega⟩,k3,VW.NZ Vm hUx hN (fun g V=>(RD g V).1) fun p hp=>m1 p (q3 p hp)⟩
theorem cj.Mc{t:Tb}(hT:cj w S B iv y t)(L:∀g,S g->g<B)(R:i<t.a.length):∃v M,y.rv[i]? =some v/\M.length=(t.a.getD i []).length/\Fr w (Lv S B iv y) M (t.a.getD i [])/\(∀g,v.ownBlock=some g->Bv y.cX g)/\
  ∀{H:Hp} {nx:Nat} {O:Nat->Sx.dc} {J:World},Rel H nx iv B w O J->J.ownsRow 0 T.cw 4 v M.length M.flatten/\∀g,v.ownBlock=some g->∀id b,dF H id=some b->(O id).nil=false->(O id).g≠g:=by
 obtain⟨tp,cb,cc,ca,hC⟩:=hT.iH;obtain⟨v,M,W,I,h3,h4⟩:=hC.row R;have hm:=aG (hC.rowAt W I);have N:∀g,v.ownBlock=some g->Bv y.cX g:=fun g V=>by rw[<-hC.cX];exact j0.bk hm V
 exact⟨v,M,W,h3.1,h3,N,fun{H nx O J} r=>⟨(hC.cP (hT.same r L)).ows.own (fV v M) hm,fun g V=>hT.not r g (N g V)⟩⟩
theorem cj.La{t:Tb}{v0 v':Value}{k1 k5:Bool}{k3 k4 k7 k8:Nat}(hT:cj w S B iv y t)(r:Rel H nx iv B w O J)(L:∀g,S g->g<B)(hv:y.rv[i]? =some v0)
  (hF:Fr w (Lv S B iv y) M (t.a.getD i [])) (N:∀g,v0.ownBlock=some g->Bv y.cX g) (hO:cY w (Lv S B iv y) (.agg #[.bool k1,.slice k2 k3 k4,.bool k5,.slice k6 k7 k8]) q)
  (h5:F.ownsRow 0 T.cw 4 v' (M.length+1) (M.flatten++(rC k1 k2 k3 k4 k5 k6 k7 k8))) (h6:J.grownBy F v0.ownBlock) (h7:v'.ownBlock=v0.ownBlock\/v'.ownBlock=some J.heap.size):
  Ih w J F S B iv v' y.hd y.rv y {y with rv:=y.rv.set i v'} {t with a:=t.a.set i (t.a.getD i []++[q])}:=by
 have Z:∀g,Lv S B iv y g->F.heap[g]? =w.heap[g]? :=fun g V=>(h6.block g (Lv.old r L g V) fun e=>V.2 (N g e.symm)).trans (Lv.same r L g V);refine hT.M4 r L hv (fun S' hS'=>⟨M++[rC k1 k2 k3 k4 k5 k6 k7 k8],?_,?_,((hF.push hO.four).cP Z).cO hS'⟩) h6 h7
 .rw[List.flatten_append,aU,<-hF.1];exact h5
 .rw[aU,aU,<-hF.1];rfl
theorem cj.Md{t t':Tb}(h:cj w S B iv y t)(r:Rel H nx iv B w O J)(I:ed F (fun g=>Nw (Lv S B iv y) J F g/\¬Bv y2.cX g) y2 t')(AI:∀g,Bv y2.cX g->Bv y.cX g\/J.heap.size<=g):cj F S B ((J.heap.size,F.heap.size)::iv) y2 t':=by
 have hm:∀p,p∈iv->p∈(J.heap.size,F.heap.size)::iv:=fun p hp=>aD _ hp;refine⟨I.cO (fun g V=>⟨?_,V.2⟩) fun g N V=>V.2 N,fun g V=>?_⟩
 .rcases V.1 with W|W
  .exact W.1.mono hm
  .exact .inr ⟨by have:=r.cR;omega,_,_,aF,W.1,W.2⟩
 .rcases AI g V with W|W
  .exact(h.kL g W).mono hm
  .exact .inr ⟨by have:=r.cR;omega,_,_,aF,W,I.low V⟩
theorem cj.KI{w0:World}{t:Tb}(h:cj w S w0.heap.size iv y t)(r:Rel H nx iv w0.heap.size w O J)(L:Old S w0):ed J (fun g=>Nw S w0 J g/\¬Bv y.cX g) y t:=
 (h.rel r L).iH.cO (fun _ V=>⟨V.nw r,V.2⟩) fun g N U=>U.2 N
theorem cj.more{t:Tb}(h:cj w S B iv y t)(Vm:∀g,S g->F8 g):cj w F8 B iv y t:=
 ⟨h.iH.cO (fun g V=>⟨V.1.elim (fun h=>.inl (Vm g h)) .inr,V.2⟩) fun g N V=>V.2 N,h.kL⟩
end
def Tb.ta(t:Tb)(i:Nat):Tb:={t with a:=t.a.mapIdx fun j r=>if j<i then r++[-1]else r}
theorem Tb.Gy{t:Tb}:t.ta 0=t:=by
 refine Tb.ext rfl rfl ?_ rfl rfl rfl;show List.mapIdx _ _=_;apply aj;intro j;rw[List.getElem?_mapIdx]
 cases t.a[j]? with
 |none=>rfl
 |some r=>rw[bO,aK (Nat.not_lt_zero j)]
theorem Tb.Fq{t:Tb}(R:i<t.a.length):(t.ta i).a.getD i []=t.a.getD i []:=by
 unfold Tb.ta;rw[gI [] [] R,aK (Nat.lt_irrefl i)]
theorem Tb.DI{t:Tb}:(t.ta i).a.length=t.a.length:=List.length_mapIdx
theorem Tb.Gz{t:Tb}(R:i<t.a.length):{t.ta i with a:=(t.ta i).a.set i ((t.ta i).a.getD i []++[-1])}=t.ta (i+1):=by
 rw[Tb.Fq R];refine Tb.ext rfl rfl ?_ rfl rfl rfl;show List.set (List.mapIdx _ _) _ _=List.mapIdx _ _;apply aj;intro j;rw[List.getElem?_set,List.length_mapIdx,List.getElem?_mapIdx,List.getElem?_mapIdx];by_cases e:i=j
 .subst e;rw[aM rfl,aM R,aE R,bO,aM (cI i),List.getD,aE R];rfl
 .rw[aK e];congr 1
  funext r
  by_cases h:j<i
  .rw[aM h,aM be]
  .rw[aK h,aK be]
theorem Tb.Ip{t:Tb}:t.ta t.a.length={t with a:=t.a.map fun r=>r++[-1]}:=by
 refine Tb.ext rfl rfl ?_ rfl rfl rfl;show List.mapIdx _ _=List.map _ _;apply aj;intro j;rw[List.getElem?_mapIdx,aS]
 cases h:t.a[j]? with
 |none=>rfl
 |some r=>rw[bO,bO,aM (dx h)]
theorem pC{α:Type}{l:List α}{k:Nat}{q:α}(h:q∈l.eraseIdx k):q∈l:=(List.eraseIdx_sublist l k).subset h
theorem Tb.uI.del{t:Tb}{h:Nat}(H:t.uI h)(k:Nat):(t.del k).uI h:=
 ⟨fun x E q hq=>by
  obtain⟨y,hy,rfl⟩:=bD.1 E
  exact H.a y hy q (pC hq),H.b,fun q hq=>H.c q (pC hq),H.top⟩
theorem Tb.Wf.del{t:Tb}{m q k:Nat}(H:t.Wf m (q+1))(Z:k<q+1):(t.del k).Wf m q:=
 ⟨H.bs,by show(List.eraseIdx _ _).length=_;rw[List.length_eraseIdx_of_lt (by rw[H.fs];exact Z),H.fs];rfl,by show(List.map _ _).length=_;rw[aJ];exact H.al,fun x E=>by
  obtain⟨y,hy,rfl⟩:=bD.1 E
  rw[List.length_eraseIdx_of_lt (by rw[H.aw y hy];exact Z),H.aw y hy];rfl,H.b,by show(List.eraseIdx _ _).length=_;rw[List.length_eraseIdx_of_lt (by rw[H.c];exact Z),H.c];rfl⟩
section
variable{t:Tb}{h m q n s k:Nat}
theorem qn{l:List Rat}{off:Nat}{idx:Nat->Nat}{val:Nat->Rat}(hl:∀q∈l,rl q+1<=h)(hv:∀i,rl (val i)+1<=h):∀k,∀q∈eZ l n off idx val k,rl q+1<=h
 |0=>hl
 |k+1=>fun q hq=>by
  rw[eZ]at hq;split at hq
  .rcases bH hq with W|W
   .exact qn hl hv k q W
   .rw[W];exact hv k
  .exact qn hl hv k q hq
theorem rP(I:2<=h):∀q∈eF n,rl q+1<=h:=fun q hq=>by rw[List.eq_of_mem_replicate hq];exact aP bv I
theorem Tb.uI.je(H:t.uI h)(I:2<=h):∀q∈t.je n,rl q+1<=h:=qn (rP I) (fun i=>H.LH I i) _
theorem Tb.uI.iX(H:t.uI h)(I:2<=h):∀q∈t.iX n k,rl q+1<=h:=qn (rP I) (fun i=>by rw[jM];exact H.cat I i) _
theorem Tb.uI.nN(H:t.uI h)(I:2<=h):∀q∈t.nN n s,rl q+1<=h:=qn (fun q hq=>by
 split at hq
 .rcases bH hq with W|W
  .exact rP I q W
  .rw[W];exact aP bv I
 .exact rP I q hq) (fun i=>by rw[jM];exact H.dZ I i s) _
theorem HA:(t.je n).length=n:=(iA _ _ _ _ _ _).trans bp
theorem ER:(t.iX n k).length=k:=(iA _ _ _ _ _ _).trans bp
theorem HB:(t.nN n s).length=n:=(iA _ _ _ _ _ _).trans (by split<;>simp[eF])
end
theorem ES{w:World}{b c:List Rat}{Fn Bz:Nat}(RR:Old S w)(PM:ed w S x (Tb.begin F' b c))(hA:pf c.length F')(N:b.length=F'.length)(hm:F'.length<=900)(U:c.length<=900)
  (hW:H4 F'.length c.length Bz (dZ F') (fun i=>b.getD i 0) (fun j=>c.getD j 0) d) (hK:ln (fB Bz (F'.length+1))<=Fn) (W:1<=Fn) (hh:Fn<=90000):
  eD PG Fd.iY #[.pointer (some ⟨x.g,0,none⟩),iV c.length] w (fun e F=>∃v x' t',e= .returned v/\x'.g=x.g/\Kept w F (Bv x.cX)/\ed F (fun g=>Nw (fun g=>S g\/Bv x.cX g) w F g/\¬Bv x'.cX g) x' t'/\(∀g,Bv x'.cX g->Bv x.cX g\/w.heap.size<=g)/\
   ((v=nls/\∃D,Rp t' D/\nM D F'.length c.length (dZ F') (fun i=>b.getD i 0) (fun j=>c.getD j 0)/\D.vl/\∃F9,D.Sz Bz F9)\/
    (∃a q y,v= .slice (some a) F'.length q/\dm F (Nw S w F) (Nw S w F) v y/\y.length=F'.length/\(∀q∈y,rl q+1<=Fn+1)/\zw F'.length c.length (dZ F') (fun i=>b.getD i 0) fun i=>y.getD i 0))):=by
 have L:=RR;obtain⟨t0,ht0⟩:∃t0,t0=Tb.begin F' b c:=⟨_,rfl⟩
 rw[<-ht0]at PM;have VF:=Rp.start hA N;rw[<-ht0]at VF;have Xe:t0.Wf F'.length c.length:=VF.wf;have Ui:=rM F'.length c.length (dZ F') (fun i=>b.getD i 0) fun j=>c.getD j 0;have hz0:=hW.OC;have hH:=VF.zy (hz0.all Ui hK);obtain⟨m,TJ⟩:∃m,m=F'.length:=⟨_,rfl⟩
 obtain⟨n,OL⟩:∃n,n=c.length:=⟨_,rfl⟩
 rw[<-TJ,<-OL]at Xe;rw[<-TJ]at hm;rw[<-OL]at U;have hbt:t0.b=b:=by rw[ht0];rfl
 have OQ:=Xe.b;obtain⟨aB,cB,TH,hcB,-,Xa⟩:=PM.Mw Xe;have hT:=cj.arg PM;have Vm:∀g,S g->(fun g=>S g\/Bv x.cX g) g:=fun g V=>.inl V;have hUx:∀g,Bv x.cX g->(fun g=>S g\/Bv x.cX g) g:=fun g V=>.inr V;have hU:∀g,(fun g=>S g\/Bv x.cX g) g->g<w.heap.size:=fun g V=>V.elim (L g) fun h=>PM.low h;generalize (fun g=>S g\/Bv x.cX g)=F8 at*
 have Z:Kept w w (Bv x.cX):=Kept.refl;rw[<-OL,<-TJ];refine nU ce ?_;refine⟨_,fun O J r=>hT.f3 L TH r,_,fun O J r=>hT.f3 L TH r,Nat×World×Iv,fun z=>⟨[(0,.o (.v (.pointer (some ⟨x.g,0,none⟩)))),(1,.o (.v (iV (n:Int)))),(5,.o (.v (iV (m:Int)))),(6,iN (x6 b z.1)),(19,.o (.v (iV (m:Int)))),(20,.o (.v (iV (z.1:Int))))],[],0,z.2.2,z.2.1⟩,fun z=>m-z.1,fun z=>z.1<=m/\Kept w z.2.1 (Bv x.cX)/\cj z.2.1 S w.heap.size z.2.2 x t0,?_,?_⟩
 .intro O J r;exact⟨(0,J,_),⟨bA _,Kept.cV r.cV Z lr,hT.rel r L⟩,sbgn [] r⟩
 clear hT Z;rintro⟨i,w1,iv⟩ ⟨R,Z,hT⟩;dsimp only at R Z hT ⊢;obtain⟨lo,Rg⟩:∃lo,lo=x6 b i:=⟨_,rfl⟩
 rw[<-Rg];apply bS<;>intro OJ
 .have OJ:=dL OJ;obtain⟨gB,rfl⟩:=Xa be;have PE:lo<m:=by
   rcases bB i with h|h
   .rw[Rg,h];show 0<m;omega
   .have:=(uG b i).1 h;omega
  have l1:=hH.LH be i;have l2:=hH.LH be lo;obtain⟨p1,p2,p3,p4,p5,p6,p7,p8,S4,hF⟩:=hT.eB L (j:=i) be TH;obtain⟨q1,q2,q3,q4,q5,q6,q7,q8,hEq,hG⟩:=hT.eB L (j:=lo) be TH;refine dP (idO 16) ?_;refine⟨_,fun O J r=>hT.f3 L TH r,_,rfl,be,rC p1 p2 p3 p4 p5 p6 p7 p8,rfl,fun O J r j x E=>S4 r j x E,_,fun O J r=>hT.f3 L TH r,_,rfl,be,rC q1 q2 q3 q4 q5 q6 q7 q8,rfl,fun O J r j x E=>hEq r j x E,?_⟩;refine cN (I9:=fun _ J v F=>v=iV (rs (t0.b.getD i 0-t0.b.getD lo 0))) (fun O J r=>EO (Lv.old r L) (hF.fz r L) (hG.fz r L) be be) ?_;rintro O On v1 Oi r G N rfl;clear hF;clear hG;replace hT:=hT.cL (K:=(On.heap.size,Oi.heap.size)::iv) r L G fun x E=>aD _ E;replace Z:=Kept.cV N Z lr;clear r G N;generalize (On.heap.size,Oi.heap.size)::iv=OS at*
  apply bS<;>intro hc
  .have Qf:b.getD i 0<b.getD lo 0:=by rw[<-hbt];exact ij.1 (aI hc)
   have e:x6 b (i+1)=i:=by rw[x6,<-Rg,aM Qf]
   refine inc i ?_;intro IR w3 r3;exact⟨(i+1,w3,_),⟨OJ,Kept.cV r3.cV Z lr,hT.rel r3 L⟩,sbgn [] r3 (hE:=⟨rfl,rfl,rfl,by dsimp only;rw[e];rfl,rfl,rfl,trivial⟩),dec OJ⟩
  have Qf:¬b.getD i 0<b.getD lo 0:=fun h=>by rw[<-hbt]at h;exact absurd (ij.2 h) (aL hc)
  have e:x6 b (i+1)=lo:=by rw[x6,<-Rg,aK Qf]
  refine inc i ?_;intro IR w3 r3;exact⟨(i+1,w3,_),⟨OJ,Kept.cV r3.cV Z lr,hT.rel r3 L⟩,sbgn [] r3 (hE:=⟨rfl,rfl,rfl,by dsimp only;rw[e];rfl,rfl,rfl,trivial⟩),dec OJ⟩
 have OJ:=dE R OJ;have ON:=uG b m;rw[<-OJ,<-Rg]at ON;have VK:∀k,k<m->b.getD lo 0<=b.getD k 0:=fun k Z=>ON.2 k be;rcases bB m with TF|TF
 .have hm0':(m:Int)=0:=by omega
  rw[hm0'];conv=>whnf
  intro I8 we re;refine⟨_,x,t0,rfl,rfl,Kept.cV re.cV Z lr,(hT.more Vm).KI re hU,fun g N=>.inl N,.inl ⟨rfl,_,VF,(by rw[TJ,OL];exact nM.start),x9 fun i R=>?_,_,hz0⟩⟩;omega
 have Ri:((m:Int)==0)=false:=by rw[beq_eq_false_iff_ne];omega
 obtain⟨gB,rfl⟩:=Xa be;have PE:lo<m:=by have:=ON.1 be;omega
 obtain⟨q1,q2,q3,q4,q5,q6,q7,q8,hEq,hG⟩:=hT.eB L (j:=lo) be TH;conv=>whnf
 rw[Ri];conv=>whnf
 refine⟨_,fun O J r=>hT.f3 L TH r,_,rfl,be,rC q1 q2 q3 q4 q5 q6 q7 q8,rfl,fun O J r j x E=>hEq r j x E,?_⟩;refine cM (cN (I9:=fun _ J v F=>v=iV (rs (t0.b.getD lo 0))) (fun O J r=>lM (Lv.old r L) (hG.fz r L)) ?_);rintro O On v1 Oi r G N rfl;clear hG;replace hT:=hT.cL (K:=(On.heap.size,Oi.heap.size)::iv) r L G fun x E=>aD _ E;replace Z:=Kept.cV N Z lr;clear r G N;generalize (On.heap.size,Oi.heap.size)::iv=OS at*
 apply bS<;>intro hc
 .have Qf:¬b.getD lo 0<0:=fun h=>by
   have h4:rs (t0.b.getD lo 0-0)<0:=ij.2 (by rw[hbt];exact h);rw[show t0.b.getD lo 0-0=t0.b.getD lo 0 by grind]at h4;have h5:=aI hc;omega
  intro I8 we re;refine⟨_,x,t0,rfl,rfl,Kept.cV re.cV Z lr,(hT.more Vm).KI re hU,fun g N=>.inl N,.inl ⟨rfl,_,VF,(by rw[TJ,OL];exact nM.start),x9 fun i R=>?_,_,hz0⟩⟩;exact Rat.le_trans (Rat.not_lt.1 Qf) (ON.2 i be)
 have Qf:b.getD lo 0<0:=by
  have h5:¬rs (t0.b.getD lo 0)≥0:=aL hc;have h4:rs (t0.b.getD lo 0-0)<0:=by rw[show t0.b.getD lo 0-0=t0.b.getD lo 0 by grind];omega
  rw[<-hbt];exact ij.1 h4
 obtain⟨ac,cc,WQ,Uc,-,-⟩:=PM.Ly Xe;clear OJ ON R;refine ya (fun l0 l H nx iv w1=>l=l0/\H=[]/\nx=0/\Kept w w1 (Bv x.cX)/\cj w1 S w.heap.size iv x t0) ?_ ?_
 .intro K0 QK;conv=>whnf
  exact QK _ _ _ _ _ ⟨rfl,rfl,rfl,Z,hT⟩
 clear hT Z;rintro l H nx OS w1 ⟨rfl,rfl,rfl,Z,hT⟩;refine kI (fun l0 l H nx iv w1=>∃(b57 b56 b55 b54:SV),l=(8,sV ac n cc)::(57,b57)::(56,b56)::(55,b55)::(54,b54)::l0/\H=[]/\nx=0/\Kept w w1 (Bv x.cX)/\cj w1 S w.heap.size iv x t0) ?_ ?_
 .intro K0 QK;refine⟨_,fun O J r=>hT.f4 L WQ r,?_⟩;conv=>whnf
  exact QK _ _ _ _ _ ⟨_,_,_,_,rfl,rfl,rfl,Z,hT⟩
 clear hT Z;rintro l H nx OS w1 ⟨b57,b56,b55,b54,rfl,rfl,rfl,Z,hT⟩;refine kI (fun l0 l H nx iv w1=>∃(b65 b64 b63 b62 b61 b60 b59 b58:SV) (bx:jL) (y:Tx),l=(65,b65)::(64,b64)::(63,b63)::(62,b62)::(61,b61)::(60,b60)::(59,b59)::(58,b58)::l0/\H=[(0,bx)]/\nx=1/\Kept w w1 (Bv x.cX)/\cj w1 S w.heap.size iv y {t0 with c:=eF n++[-1]}/\dm w1 (Lv F8 w.heap.size iv y) (Lv F8 w.heap.size iv y) x.vc c/\(∀g,Bv y.cX g->Bv x.cX g\/w.heap.size<=g)/\y.g=x.g/\y.vf=x.vf/\y.va=x.va/\y.rv=x.rv) ?_ ?_
 .intro K0 QK;refine cM (cN (I9:=fun _ J v F=>fM F FF J.heap.size [(J.heap.size,F.heap.size)] v n (List.replicate n 0)) (fun O J r=>mi n J be) ?_);rintro O wa v1 wb r G OQ hX;have hN:∀g,Lv S w.heap.size OS x g\/Bv x.cX g->g<wa.heap.size:=fun g V=>V.elim (fun h=>Lv.old r L g h) fun h=>hT.low r h;have hBN:w.heap.size<=wa.heap.size:=r.cR;replace hT:=hT.cL (K:=OS) r L G fun p hp=>hp;replace Z:=Kept.cV OQ Z lr;have sz1:=G.size;clear r G OQ;refine cM (cN (I9:=fun _ J v F=>cY F (Nf J F) v ((-1:Int):Rat)) (fun O J r=>iD (-1) J bv bv) ?_);rintro O wc v2 wd r G OQ hO;replace hT:=hT.cL (K:=OS) (r.less fun p hp=>aD _ hp) L G fun p hp=>hp;replace hX:=hX.later hBN ce r G;replace Z:=Kept.cV OQ Z lr;have sz2:=r.size;have sz3:=G.size;clear r G OQ;obtain⟨k1,k2,k3,k4,k5,k6,k7,k8,rfl⟩:=hO.shape;rw[show ((-1:Int):Rat)= -1 by decide]at hO;obtain⟨iv2,Vn⟩:∃iv2,iv2=(wc.heap.size,wd.heap.size)::(wa.heap.size,wb.heap.size)::OS:=⟨_,rfl⟩
  have q1:(wa.heap.size,wb.heap.size)∈iv2:=by rw[Vn];simp
  have q2:(wc.heap.size,wd.heap.size)∈iv2:=by rw[Vn];simp
  have q3:∀p,p∈OS->p∈iv2:=fun p hp=>by rw[Vn];simp[hp]
  rw[<-Vn];clear Vn;obtain⟨M,RN,PZ,Tc⟩:=hX.row;have hvn:∀g,v1.ownBlock=some g->wa.heap.size<=g/\g<wb.heap.size:=fun g V=>eI (hX.new g V);have hvc2:∀g,v1.ownBlock=some g->Cf w iv2 g:=fun g V=>.inr ⟨by have:=hvn g V;omega,_,_,q1,(hvn g V).1,(hvn g V).2⟩;clear hX;have hF2:Fr wd (fun g=>wa.heap.size<=g/\g<wb.heap.size/\v1.ownBlock≠some g) M (List.replicate n 0):=Tc.cO fun g V=>⟨(eI V.1).1,(eI V.1).2,V.2⟩
  have hO2:cY wd (fun g=>wc.heap.size<=g/\g<wd.heap.size) _ (-1):=hO.cO fun g V=>V.elim (fun h=>h.elim) id;conv=>whnf
  refine .inr (gp hτ (bA _) (xs:=M.flatten) (news:=rC k1 k2 k3 k4 k5 k6 k7 k8) (m:=n) (k:=1) d5 d5 bv d5 d5 (fun O J r=>⟨ownsRow.cP RN fun g V=>rls r (kW _) (hvc2 g V),fun g V=>Rel.not r (kW _) (hvc2 g V)⟩) rfl (by simp;exact⟨rfl,rfl,rfl,rfl⟩) mx be
   (fun O J r=>?_) (fun v' F=>e8 v'++iv2) (fun O J v' F r Od Qu=>tY r (fun g V=>Rel.not r (kW _) (hvc2 g V)) Od Qu) (fun O J v' F r h5 h6 h7=>?_))
  .exact(fy.Ij (r.kh (id:=0) (sz:=4) (n:=1) rfl rfl bv (by simp;exact⟨rfl,rfl,rfl,rfl⟩)) bv).imp id fun⟨ad,c,e1,e2⟩=>⟨ad,c,e1,fun j u hu=>(e2 j u hu).2⟩
  obtain⟨hP,hbel,OT,hR⟩:=hT.Na r L Vm hUx hN hBN be hF2 PZ hvn hO2 be be q1 q2 q3 h5 h6 h7;obtain⟨a2,c2,rfl,-⟩:=eK h5;replace Z:=Kept.cV hbel (Kept.cV r.cV Z lr) hBN;replace OT:∀g,Bv (Tx.cX {x with vc:=.slice a2 (n+1) c2}) g->Bv x.cX g\/w.heap.size<=g:=fun g V=>(OT g V).imp id fun h=>aP hBN h;rw[show t0.c=c by rw[ht0];rfl]at hR;clear hT h5 h6 h7 r hbel RN Tc hF2 hO2 hO;generalize e8 (.slice a2 (n+1) c2)++iv2=OR at*
  conv=>whnf
  intro IR w3 r3;have hs:=hP.BY r3 L (k:=4) bv (v:=.slice a2 (n+1) c2) (ad:=Addr.add ⟨x.g,0,none⟩ 4) (by rw[cd,aR]);refine⟨hs.spot,hs.cells,hs.own,fun w4 OZ=>?_⟩;obtain⟨Qb,Ot,-⟩:=hs.next w4 OZ
  have hT:=Qb.toO rfl rfl;replace hR:=hR.nf r3 hU Ot (fun g V=>.inl V) fun p hp=>hp;replace Z:=Kept.fu (Kept.cV r3.cV Z lr) Ot fun g V N=>(OT g N).elim id fun h=>by omega
  clear hs Qb Ot OZ r3 hP;conv=>whnf
  exact QK _ _ _ _ _ ⟨_,_,_,_,_,_,_,_,_,{x with vc:=.slice a2 (n+1) c2},rfl,rfl,rfl,Z,hT,hR,OT,rfl,rfl,rfl,rfl⟩
 clear hT Z;rintro l H nx iv w1 ⟨b65,b64,b63,b62,b61,b60,b59,b58,bx,y,rfl,rfl,rfl,Z,hT,hR,OT,QE,hyf,Pz,VE⟩;obtain⟨fs,Wb⟩:∃fs,fs=t0.fs:=⟨_,rfl⟩
 have Pt:fs.length=n:=by rw[Wb];exact Xe.fs
 refine kI (fun l0 l H nx iv w1=>∃(b77 b76 b75 b74 b73 b72 b71 b70 b69 b68 b67 b66:SV) (bx2:jL) (y2:Tx),l=(77,b77)::(76,b76)::(75,b75)::(74,b74)::(73,b73)::(72,b72)::(71,b71)::(70,b70)::(69,b69)::(68,b68)::(67,b67)::(66,b66)::l0/\H=[(1,bx2),(0,bx)]/\nx=2/\Kept w w1 (Bv x.cX)/\cj w1 S w.heap.size iv y2 ⟨t0.bs,fs++[n+m],t0.a,t0.b,eF n++[-1],t0.top⟩/\dm w1 (Lv F8 w.heap.size iv y2) (Lv F8 w.heap.size iv y2) x.vc c/\(∀g,Bv y2.cX g->Bv x.cX g\/w.heap.size<=g)/\y2.g=x.g/\y2.va=x.va/\y2.rv=x.rv) ?_ ?_
 .intro K0 QK;refine⟨y.vf,fun O J r=>by have h:=hT.f1 L rfl r;rw[QE]at h;exact h,((n+m:Nat):Int),wo,?_⟩;rw[Wb]at Pt;conv=>whnf
  refine .inr (gp hτ (bA _) (xs:=ints t0.fs) (news:=[iV ((n+m:Nat):Int)]) (m:=t0.fs.length) (k:=1) d5 d5 bv d5 d5 (fun O J r=>hT.KE r L) rfl (by simp;rfl) mx be
   (fun O J r=>?_) (fun v' F=>e8 v'++iv) (fun O J v' F r Od Qu=>tY r (hT.KE r L).2 Od Qu) (fun O J v' F r h5 h6 h7=>?_))
  .exact(fy.Ij (r.kh (id:=1) (sz:=1) (n:=1) rfl rfl bv (by simp;rfl)) bv).imp id fun⟨ad,c,e1,e2⟩=>⟨ad,c,e1,fun j u hu=>(e2 j u hu).2⟩
  obtain⟨a2,c2,rfl,-⟩:=eK h5;rw[uW]at h5;have hG:=hT.Kk r L (l:=t0.fs++[n+m]) (by rw[aU];exact h5) h6 h7;replace Z:=Kept.fu (Kept.cV r.cV Z lr) hG.kept fun g V N=>(OT g N).elim id fun h=>by omega
  replace hR:=hR.nf r hU hG.kept hG.AI (iv2:=e8 (.slice a2 (t0.fs.length+1) c2)++iv) fun p hp=>List.mem_append_right _ hp;replace OT:∀g,Bv (Tx.cX {y with vf:=.slice a2 (t0.fs.length+1) c2}) g->Bv x.cX g\/w.heap.size<=g:=fun g V=>(hG.AI g V).elim (OT g) fun h=>.inr (aP r.cR h);have hP:=hG.iH;clear hG h5 h6 h7 r hT;generalize e8 (.slice a2 (t0.fs.length+1) c2)++iv=OR at*
  conv=>whnf
  intro IR w3 r3;have hs:=hP.BY r3 L (k:=1) bv (v:=.slice a2 (t0.fs.length+1) c2) (ad:=Addr.add ⟨x.g,0,none⟩ 1) (by rw[cd,aR,QE]);refine⟨hs.spot,hs.cells,hs.own,fun w4 OZ=>?_⟩;obtain⟨Qb,Ot,-⟩:=hs.next w4 OZ
  have hT:=Qb.toO rfl rfl;replace hR:=hR.nf r3 hU Ot (fun g V=>.inl V) fun p hp=>hp;replace Z:=Kept.fu (Kept.cV r3.cV Z lr) Ot fun g V N=>(OT g N).elim id fun h=>by omega
  clear hs Qb Ot OZ r3 hP;conv=>whnf
  exact QK _ _ _ _ _ ⟨_,_,_,_,_,_,_,_,_,_,_,_,_,{y with vf:=.slice a2 (t0.fs.length+1) c2},rfl,rfl,rfl,Z,hT.cast (by rw[Wb]),hR,OT,QE,Pz,VE⟩
 clear hT Z hR OT QE hyf Pz VE;rintro l H nx iv w1 ⟨b77,b76,b75,b74,b73,b72,b71,b70,b69,b68,b67,b66,bx2,y2,rfl,rfl,rfl,Z,hT,hR,OT,TK,Wp,hyr2⟩;obtain⟨aa,ca,hxa,PB,-,XZ⟩:=PM.Mv Xe;obtain⟨ga,rfl⟩:=XZ be;rw[hxa]at Wp;obtain⟨t1,XR⟩:∃t1:Tb,t1=⟨t0.bs,fs++[n+m],t0.a,t0.b,eF n++[-1],t0.top⟩:=⟨_,rfl⟩
 rw[<-XR]at hT;have SB:t1.a.length=m:=by rw[XR];exact Xe.al
 have haw:∀i,i<m->(t1.a.getD i []).length=n:=fun i R=>by rw[XR];exact Xe.row R
 refine kI (fun _ l H nx iv w1=>∃(b84 b82 b83:SV) (y:Tx),l=(84,b84)::[(0,.o (.v (.pointer (some ⟨y.g,0,none⟩)))),(1,.o (.v (iV (n:Int)))),(5,.o (.v (iV (m:Int)))),(6,.o (.v (iV (lo:Int)))),(8,sV ac n cc),(82,b82),(83,b83)]/\H=[]/\nx=2/\Kept w w1 (Bv x.cX)/\cj w1 S w.heap.size iv y (t1.ta m)/\dm w1 (Lv F8 w.heap.size iv y) (Lv F8 w.heap.size iv y) x.vc c/\(∀g,Bv (Tx.cX y) g->Bv x.cX g\/w.heap.size<=g)/\Tx.g y=x.g/\Tx.va y= .slice (some ⟨ga,0,none⟩) m ca) ?_ ?_
 .intro K0 QK;refine⟨.slice (some ⟨ga,0,none⟩) m ca,fun O J r=>by have h:=hT.f2 L Wp r;rw[TK]at h;exact h,Nat×Tx×World×Iv,fun z=>⟨[(0,.o (.v (.pointer (some ⟨x.g,0,none⟩)))),(1,.o (.v (iV (n:Int)))),(5,.o (.v (iV (m:Int)))),(6,.o (.v (iV (lo:Int)))),(8,sV ac n cc),(82,.o (.v (iV (m:Int)))),(83,.o (.v (iV (z.1:Int))))],[],2,z.2.2.2,z.2.2.1⟩,fun z=>m-z.1,fun z=>z.1<=m/\Kept w z.2.2.1 (Bv x.cX)/\cj z.2.2.1 S w.heap.size z.2.2.2 z.2.1 (t1.ta z.1)/\dm z.2.2.1 (Lv F8 w.heap.size z.2.2.2 z.2.1) (Lv F8 w.heap.size z.2.2.2 z.2.1) x.vc c/\(∀g,Bv (Tx.cX z.2.1) g->Bv x.cX g\/w.heap.size<=g)/\Tx.g z.2.1=x.g/\Tx.va z.2.1= .slice (some ⟨ga,0,none⟩) m ca,?_,?_⟩
  .intro O J r;exact⟨(0,y2,J,_),⟨bA _,Kept.cV r.cV Z lr,(hT.rel r L).cast Tb.Gy.symm,hR.nf r hU Kept.refl (fun g V=>.inl V) (fun p hp=>hp),OT,TK,Wp⟩,sbgn [] r⟩
  clear hT Z hR OT TK Wp hyr2;rintro⟨i,y,w1,iv⟩ ⟨R,Z,hT,hR,OT,QE,Pz⟩;dsimp only at R Z hT hR OT QE Pz ⊢;apply bS<;>intro OJ
  .have OJ:=dL OJ;obtain⟨v0,-,hv0,-⟩:=hT.Mc L (i:=i) (by rw[Tb.DI];omega);refine s6 (fun l0 l H nx iv w1=>∃(b101 b100 b99 b98 b97 b96 b94 b89 b95 b93 b92 b91 b90 b88 b87 b86:SV) (bx:jL) (y:Tx),l=(101,b101)::(100,b100)::(99,b99)::(98,b98)::(97,b97)::(96,b96)::(94,b94)::(89,b89)::(95,b95)::(93,b93)::(92,b92)::(91,b91)::(90,b90)::(88,b88)::(87,b87)::(86,b86)::l0/\H=[(2,bx)]/\nx=3/\Kept w w1 (Bv x.cX)/\cj w1 S w.heap.size iv y (t1.ta (i+1))/\dm w1 (Lv F8 w.heap.size iv y) (Lv F8 w.heap.size iv y) x.vc c/\(∀g,Bv (Tx.cX y) g->Bv x.cX g\/w.heap.size<=g)/\Tx.g y=x.g/\Tx.va y= .slice (some ⟨ga,0,none⟩) m ca) ?_ ?_
   .intro K0 QK;refine qo hτ uJ (.x 0 (.x 1 (.x 2 (.x 4 (.x 5 (.x 6 (.x 7 (.x 9 (.ld 3 98304 (.ld 8 117760 (.x 10 (.ld 11 114688 (.x 12 (.x 13 (.x 14 (.x 15 (.x 16 .nil))))))))))))))))) d6 d6 ?_;refine⟨.slice (some ⟨ga,0,none⟩) m ca,fun O J r=>by have h:=hT.f2 L Pz r;rw[QE]at h;exact h,.slice (some ⟨ga,0,none⟩) m ca,fun O J r=>by have h:=hT.f2 L Pz r;rw[QE]at h;exact h,_,rfl,be,_,fun O J r=>hT.cA L hv0 Pz r,?_⟩;refine cN (I9:=fun _ J v F=>cY F (Nf J F) v ((-1:Int):Rat)) (fun O J r=>iD (-1) J bv bv) ?_;rintro O wc v2 wd r G OQ hO;replace hO:=hO.s5 hT r;replace hR:=hR.nf (iv2:=(wc.heap.size,wd.heap.size)::iv) r hU (DH G) (fun g V=>.inl V) fun p hp=>aD _ hp;replace hT:=hT.cL (K:=(wc.heap.size,wd.heap.size)::iv) r L G fun p hp=>aD _ hp;replace Z:=Kept.cV OQ Z lr;clear r G OQ;generalize (wc.heap.size,wd.heap.size)::iv=iv2 at*
    obtain⟨k1,k2,k3,k4,k5,k6,k7,k8,rfl⟩:=hO.shape;rw[show ((-1:Int):Rat)= -1 by decide]at hO;refine⟨_,fun O J r=>hT.cA L hv0 Pz r,rfl,.slice (some ⟨ga,0,none⟩) m ca,fun O J r=>by have h:=hT.f2 L Pz r;rw[QE]at h;exact h,rfl,.slice (some ⟨ga,0,none⟩) m ca,fun O J r=>by have h:=hT.f2 L Pz r;rw[QE]at h;exact h,rfl,_,fun O J r=>hT.cA L hv0 Pz r,rfl,.slice (some ⟨ga,0,none⟩) m ca,fun O J r=>by have h:=hT.f2 L Pz r;rw[QE]at h;exact h,rfl,.slice (some ⟨ga,0,none⟩) m ca,fun O J r=>by have h:=hT.f2 L Pz r;rw[QE]at h;exact h,rfl,?_⟩;obtain⟨v1,M,Sp,QM,hFr,Sq,QD⟩:=hT.Mc L (i:=i) (by rw[Tb.DI];omega);rw[hv0]at Sp;injection Sp with Sp;subst Sp;have QG:((t1.ta i).a.getD i []).length=n:=by rw[Tb.Fq be];exact haw i OJ
    rw[QG]at QM;conv=>whnf
    refine .inr (gp hτ (bA _) (xs:=M.flatten) (news:=rC k1 k2 k3 k4 k5 k6 k7 k8) (m:=M.length) (k:=1) d5 d5 bv d5 d5 (fun O J r=>QD r) rfl (by simp;exact⟨rfl,rfl,rfl,rfl⟩) mx be
     (fun O J r=>?_) (fun v' F=>e8 v'++iv2) (fun O J v' F r Od Qu=>tY r (QD r).2 Od Qu) (fun O J v' F r h5 h6 h7=>?_))
    .exact(fy.Ij (r.kh (id:=2) (sz:=4) (n:=1) rfl rfl bv (by simp;exact⟨rfl,rfl,rfl,rfl⟩)) bv).imp id fun⟨ad,c,e1,e2⟩=>⟨ad,c,e1,fun j u hu=>(e2 j u hu).2⟩
    obtain⟨a2,c2,rfl,-⟩:=eK h5;have hG:=hT.La r L hv0 hFr Sq hO h5 h6 h7;replace Z:=Kept.fu (Kept.cV r.cV Z lr) hG.kept fun g V N=>(OT g N).elim id fun h=>by omega
    replace hR:=hR.nf r hU hG.kept hG.AI (iv2:=e8 (.slice a2 (M.length+1) c2)++iv2) fun p hp=>List.mem_append_right _ hp;obtain⟨y2,Qs⟩:∃y2:Tx,y2={y with rv:=y.rv.set i (.slice a2 (M.length+1) c2)}:=⟨_,rfl⟩
    have hP:=hG.iH;have S7:=hG.AI;rw[<-Qs]at hP S7 hR;replace OT:∀g,Bv y2.cX g->Bv x.cX g\/w.heap.size<=g:=fun g V=>(S7 g V).elim (OT g) fun h=>.inr (aP r.cR h);clear hG h5 h6 h7 r hT QD hO hFr Sq S7;generalize e8 (.slice a2 (M.length+1) c2)++iv2=OR at*
    have Pa:y2.g=x.g:=by rw[Qs];exact QE
    have Xd:y2.va= .slice (some ⟨ga,0,none⟩) m ca:=by rw[Qs];exact Pz
    refine⟨.slice (some ⟨ga,0,none⟩) m ca,fun O J r=>by have h:=hP.KB L (k:=2) (show y.hd[2]? =some (.slice (some ⟨ga,0,none⟩) m ca)from congrArg some Pz) r;rw[Pa]at h;exact h,rfl,_,rfl,be,?_⟩;intro IR w3 r3;have hs:=hP.Ii r3 L (i:=i) (v:=.slice a2 (M.length+1) c2) (dx hv0) Xd (ad:=Addr.add ⟨ga,0,none⟩ (((i:Nat):Int).toNat*1)) (by rw[aN,cd,aR]);refine⟨hs.spot,hs.cells,hs.own,fun w4 OZ=>?_⟩;obtain⟨Qb,Ot,-⟩:=hs.next w4 OZ
    have hT:=(Qb.toO (by rw[Qs];rfl) (by rw[Qs])).cast (Tb.Gz be);replace hR:=hR.nf r3 hU Ot (fun g V=>.inl V) fun p hp=>hp;replace Z:=Kept.fu (Kept.cV r3.cV Z lr) Ot fun g V N=>(OT g N).elim id fun h=>by omega
    clear hs Qb Ot OZ r3 hP;exact QK _ _ _ _ _ ⟨_,_,_,_,_,_,_,_,_,_,_,_,_,_,_,_,_,y2,rfl,rfl,rfl,Z,hT,hR,OT,Pa,Xd⟩
   clear hT Z hR OT QE Pz;rintro l H nx iv2 F ⟨b101,b100,b99,b98,b97,b96,b94,b89,b95,b93,b92,b91,b90,b88,b87,b86,bx3,y2,rfl,rfl,rfl,Z,hT,hR,OT,QE,Pz⟩;refine inc i ?_;intro IR w3 r3;exact⟨(i+1,y2,w3,_),⟨OJ,Kept.cV r3.cV Z lr,hT.rel r3 L,hR.nf r3 hU Kept.refl (fun g V=>.inl V) (fun p hp=>hp),OT,QE,Pz⟩,sbgn [] r3,dec OJ⟩
  have OJ:=dE R OJ;rw[OJ]at hT;conv=>whnf
  rw[<-QE];exact QK _ _ _ _ _ ⟨_,_,_,y,rfl,rfl,rfl,Z,hT,hR,OT,QE,Pz⟩
 rintro l H nx iv w1 ⟨b84,b82,b83,y,rfl,rfl,rfl,Z,hT,hR,OT,QE,Pz⟩;replace hT:=hT.cast (show t1.ta m=Tb.Dz F' b c by rw[<-SB,Tb.Ip,XR,Wb,ht0,OL,TJ];rfl);have hRa:=Rp.Dz (c:=c) hA N;rw[<-TJ,<-OL]at hRa;have hza:=hW.OD;rw[<-TJ,<-OL]at hza;have hWa:=hRa.wf;have hka:=rN m n (dZ F') fun i=>b.getD i 0;have hHa:=hRa.zy (hza.all hka (Fn:=Fn) (by show ln (fB Bz (m+1))<=Fn;rw[TJ];exact hK));have hnq:n<(dW m n (dZ F') fun i=>b.getD i 0).q:=cI n;have hpv:(dW m n (dZ F') fun i=>b.getD i 0).a lo n≠0:=by
  show(if n<n then dZ F' lo n else -1)≠0;rw[aK (Nat.lt_irrefl n)];decide
 have hpt:dZ (Tb.Dz F' b c).a lo n≠0:=by rw[show dZ (Tb.Dz F' b c).a lo n=_ from hRa.ea lo n PE hnq];exact hpv
 have QC:=(fW.start (m:=m) (n:=n) (F':=dZ F') (b:=fun i=>b.getD i 0)).fx (r:=lo) (s:=n) PE hnq hpv;have hf1:=Dy (F':=dZ F') (n:=n) (b:=fun i=>b.getD i 0) PE VK (Rat.le_of_lt Qf);have Tw:=hRa.fx (r:=lo) (s:=n) PE hnq;have hz1:=hza.fx hka (r:=lo) (s:=n) PE hnq hpv;clear SB haw XR Wb Pt;refine kI (fun l0 l H nx iv w1=>∃(b106 b105 b104 b103:SV),l=(106,b106)::(105,b105)::(104,b104)::(103,b103)::l0/\H=[]/\nx=2/\Kept w w1 (Bv x.cX)/\cj w1 S w.heap.size iv y ((Tb.Dz F' b c).fx lo n)/\dm w1 (Lv F8 w.heap.size iv y) (Lv F8 w.heap.size iv y) x.vc c) ?_ ?_
 .intro K0 QK;conv=>whnf
  refine⟨fun O J r=>?_⟩;refine(BW (u:=lo) (s:=n) (Lv.old r L) (hT.rel r L).iH hWa PE (cI n) hpt (by show m<=1000;omega) (by show n+1<=1000;omega) hHa be be).mono fun e w8 G=>?_;obtain⟨rfl,PU,PJ⟩:=G;refine⟨.tuple #[],_,(J.heap.size,w8.heap.size)::iv,rfl,r.fU (hT.not r) PU,?_⟩;replace hR:=hR.nf (iv2:=(J.heap.size,w8.heap.size)::iv) r hU PU (fun g V=>.inl V) fun p hp=>aD _ hp;replace PJ:=hT.eX r PJ;replace Z:=Kept.fu (Kept.cV r.cV Z lr) PU fun g V N=>(OT g N).elim id fun h=>by omega
  clear hT PU;have hT:=PJ;clear PJ r;generalize (J.heap.size,w8.heap.size)::iv=Ob at*
  conv=>whnf
  exact QK _ _ _ _ _ ⟨_,_,_,_,rfl,rfl,rfl,Z,hT,hR⟩
 clear hT Z hR;rintro l H nx iv w1 ⟨b106,b105,b104,b103,rfl,rfl,rfl,Z,hT,hR⟩;refine kI (fun l0 l H nx iv w1=>∃(b108 b107:SV) (t2:Tb) (D:Dc) (k:Nat) (j:Option Nat),l=(108,b108)::(107,b107)::l0/\H=[]/\nx=2/\Kept w w1 (Bv x.cX)/\cj w1 S w.heap.size iv y t2/\dm w1 (Lv F8 w.heap.size iv y) (Lv F8 w.heap.size iv y) x.vc c/\EH ((dW m n (dZ F') fun i=>b.getD i 0).fx lo n) Bz (fun i t=>dA m d i*(dW m n (dZ F') fun i=>b.getD i 0).ext i t) k D t2/\Gg t2 j) ?_ ?_
 .intro K0 QK;conv=>whnf
  refine⟨fun O J r=>?_⟩;refine(Fl (Lv.old r L) (hT.rel r L).iH QC.ok hf1 Tw hz1 (by show m<=1000;omega) (by show n+1<=1000;omega) (by show ln (fB Bz (m+1))<=Fn;rw[TJ];exact hK) W be).mono fun e w8 G=>?_;obtain⟨t2,D,k,j,rfl,PU,PJ,hC,hD⟩:=G;refine⟨iV (pN j),_,(J.heap.size,w8.heap.size)::iv,rfl,r.fU (hT.not r) PU,?_⟩;replace hR:=hR.nf (iv2:=(J.heap.size,w8.heap.size)::iv) r hU PU (fun g V=>.inl V) fun p hp=>aD _ hp;replace PJ:=hT.eX r PJ;replace Z:=Kept.fu (Kept.cV r.cV Z lr) PU fun g V N=>(OT g N).elim id fun h=>by omega
  clear hT PU;have hT:=PJ;clear PJ r;generalize (J.heap.size,w8.heap.size)::iv=Ob at*
  conv=>whnf
  exact QK _ _ _ _ _ ⟨_,_,t2,D,k,j,rfl,rfl,rfl,Z,hT,hR,hC,hD⟩
 clear hT Z hR;rintro l H nx iv w1 ⟨b108,b107,t2,D,k,j,rfl,rfl,rfl,Z,hT,hR,hC,hD⟩;have hCf:=hC.facts;obtain⟨f1,f2,f3,f4,f5,-⟩:=hCf;have hSD:fW D m n (dZ F') fun i=>b.getD i 0:=⟨f1,f3.trans QC.em,f4.trans QC.eq,fun x z=>(f5 x z).trans (QC.GY x z)⟩
 have TR:∀j,j<D.q->¬0<D.c j:=by
  have h3:=Gg.end_ hC.rp hD
  cases j with
  |none=>exact h3
  |some s=>exact(hSD.bounded f2 h3.1 h3.2.1 h3.2.2).elim
 have hW2:t2.Wf m (n+1):=by
  have:=hC.rp.wf;rw[hSD.em,hSD.eq]at this;exact this
 have UJ:=hC.rp.zy (hC.sz.all f1 (Fn:=Fn) (by rw[hSD.em,TJ];exact hK));have Sf:=hC.sz;have Qw:=hC.rp;have UH:=Qw.et;clear hD f3 f4 f5 hC;obtain⟨t1,t2',t3,t4,t5,t6,t7,t8,Wm,hY⟩:=hT.Mt L;conv=>whnf
 refine⟨rC t1 t2' t3 t4 t5 t6 t7 t8,rfl,fun O J r k u hu=>Wm r k u hu,?_⟩;refine cM (cN (I9:=fun _ J v F=>v=iV (rs t2.top)) (fun O J r=>lM (Lv.old r L) (hY.fz r L)) ?_);rintro O wa v1 wb r G OQ rfl;replace hR:=hR.nf (iv2:=(wa.heap.size,wb.heap.size)::iv) r hU (DH G) (fun g V=>.inl V) fun p hp=>aD _ hp;replace hT:=hT.cL (K:=(wa.heap.size,wb.heap.size)::iv) r L G fun p hp=>aD _ hp;replace Z:=Kept.cV OQ Z lr;clear r G OQ Wm hY;generalize (wa.heap.size,wb.heap.size)::iv=Of at*
 apply bS<;>intro hc3
 .have ht0':D.top<0:=by rw[<-UH];exact og.1 (aI hc3)
  refine cM (cN (I9:=fun _ J v F=>dm F (Nw (Lv S w.heap.size Of y) J F) (Nw (Lv S w.heap.size Of y) J F) v (t2.iX n m)) (fun O J r=>Cy (Lv.old r L) (hT.rel r L).iH hW2 be be be) ?_);rintro O wa v1 wb r G OQ Ss;have Oq:(t2.iX n m).length=m:=(iA _ _ _ _ _ _).trans bp;have Vo:∀g,Nw (Lv S w.heap.size Of y) wa wb g->Cv S w.heap.size ((wa.heap.size,wb.heap.size)::Of) g:=fun g V=>V.elim (fun h=>h.1.mono fun p hp=>aD _ hp) fun h=>.inr ⟨by have:=r.cR;omega,_,_,aF,h.1,h.2⟩;replace Ss:=Ss.cO Vo Vo;replace hT:=hT.cL (K:=(wa.heap.size,wb.heap.size)::Of) r L G fun p hp=>aD _ hp;replace Z:=Kept.cV OQ Z lr;clear r G OQ Vo;generalize (wa.heap.size,wb.heap.size)::Of=PL at*
  obtain⟨ap,cp,rfl,-⟩:=Ss.shape;obtain⟨ad,fcs,rfl,-,-⟩:=Ss.load (j:=0) (aE (by rw[Oq];exact TF));conv=>whnf
  intro I8 we re;obtain⟨n1,n2,n3⟩:=hSD.none TR;have hpr:∀i,i<m->(t2.iX n m).getD i 0= -(D.ko (n+i)):=fun i R=>Qw.zo f1 R;refine⟨_,y,t2,rfl,QE,Kept.cV re.cV Z lr,(hT.more Vm).KI re hU,OT,.inr ⟨ad,cp,t2.iX n m,?_,?_,?_,UJ.iX be,?_⟩⟩
  .rw[Oq,TJ];rfl
  .exact(Ss.cP fun g V=>rls re L (V.elim id id)).cO (fun g V=>Cv.nw V re) fun g V=>Cv.nw V re
  .rw[Oq,TJ]
  .refine⟨fun i R=>by dsimp only;rw[hpr i R];exact n1 i,?_,fun j hj=>?_⟩
   .rw[cQ (g:=fun i=> -(D.ko (n+i))*b.getD i 0) fun i R=>by dsimp only;rw[hpr i R],n2];exact ht0'
   .rw[cQ (g:=fun i=> -(D.ko (n+i))*dZ F' i j) fun i R=>by dsimp only;rw[hpr i R]];exact n3 j hj
 have ht0':¬D.top<0:=fun h=>by rw[<-UH]at h;exact aL hc3 (og.2 h)
 obtain⟨t3',D1,kk,ph1,ph2,ph3,ph4,ph5,ph6,ph7,ph8⟩:=Gx hSD f2 Qw ht0' Sf;have hW3:t3'.Wf m (n+1):=by
  have:=ph2.wf;rw[ph3.em,ph3.eq]at this;exact this
 have hH3:=(ph2.zy (ph5.all ph3.ok (Fn:=Fn) (by rw[ph3.em,TJ];exact hK))).del kk;have hW4:=hW3.del ph7;have QM:∀q∈c,rl q+1<=Fn+1:=fun q hq=>by
  obtain⟨i,R,rfl⟩:=qC (d:=0) hq;have:rl (c.getD i 0)<=Fn:=(hz0.all Ui hK).2.2.1 i R;omega
 conv=>whnf
 refine⟨((n+m:Nat):Int),wo,?_⟩;refine⟨fun O J r=>?_⟩;refine(Gw (vv:=n+m) (h:=Fn+1) (k:=kk) (t1:=t3') (Lv.old r L) (hT.rel r L).iH hW2 TF (Nat.succ_pos n) be be UJ be be ph1 hW3 ph6 ph7).mono fun e w8 G=>?_;obtain⟨rfl,y2,TK,PU,PJ,R5⟩:=G;refine⟨.tuple #[],_,(J.heap.size,w8.heap.size)::Of,rfl,r.fU (hT.not r) PU,?_⟩;replace hR:=hR.nf (y2:=y2) (iv2:=(J.heap.size,w8.heap.size)::Of) r hU PU R5 fun p hp=>aD _ hp;replace PJ:=hT.Md r PJ R5;replace Z:=Kept.fu (Kept.cV r.cV Z lr) PU fun g V N=>(OT g N).elim id fun h=>by omega
 have S7:∀g,Bv y2.cX g->Bv x.cX g\/w.heap.size<=g:=fun g V=>(R5 g V).elim (OT g) fun h=>.inr (aP r.cR h);have hyg8:=TK;replace TK:=TK.trans QE;clear hT PU R5 r;have hT:=PJ;clear PJ;generalize (J.heap.size,w8.heap.size)::Of=PL at*
 rw[<-hyg8];conv=>whnf
 rw[WQ]at hR;replace hT:=hT.more Vm;refine⟨fun O J r=>?_⟩;refine(Gs (n:=n) (h:=Fn+1) (Lv.old r hU) (hT.rel r hU).iH hW4 (hR.nf r hU Kept.refl (fun g V=>.inl V) fun p hp=>hp) OL.symm be be be hH3 QM be be).mono fun e w8 G=>?_;obtain⟨rfl,y3,hyg3,PU,PJ,R5⟩:=G;refine⟨.tuple #[],_,(J.heap.size,w8.heap.size)::PL,rfl,r.fU (hT.not r) PU,?_⟩;replace PJ:=hT.Md r PJ R5;replace Z:=Kept.fu (Kept.cV r.cV Z lr) PU fun g V N=>(S7 g N).elim id fun h=>by omega
 have hwas3:∀g,Bv y3.cX g->Bv x.cX g\/w.heap.size<=g:=fun g V=>(R5 g V).elim (S7 g) fun h=>.inr (aP r.cR h);replace hyg3:=hyg3.trans TK;clear hT PU R5 r;have hT:=PJ;clear PJ;generalize (J.heap.size,w8.heap.size)::PL=QB at*
 conv=>whnf
 intro I8 we re;have WS:kk<D1.q:=by rw[ph3.eq];exact ph7
 have hcut:=ph3.cut (c:=fun j=>c.getD j 0) WS ph8;have Q6:=hW.MO (D:=D1) (by rw[<-TJ,<-OL];exact ph3) (by rw[<-TJ,<-OL];exact ph5) WS (by rw[<-TJ,<-OL];exact ph8);refine⟨_,y3,_,rfl,hyg3,Kept.cV re.cV Z lr,hT.KI re hU,hwas3,.inl ⟨rfl,(D1.cut kk n fun j=>c.getD j 0),ph2.cut WS,?_,fun i R=>ph4 i R,fun i t=>d i*(gD F'.length c.length (dZ F') (fun i=>b.getD i 0) fun j=>c.getD j 0).ext i t,?_⟩⟩
 .exact hcut
 .rw[<-OL]at Q6 ⊢;exact Q6
end Go.Ex
namespace Go.Ex
variable{G8:Nat->Nat->Rat}{x y:Nat->Rat}
def Nm:Nat->Nat->List (List Nat)
 |0,_=>[[]]
 |k+1,n=>(List.range' k (n-k)).flatMap fun last=>(Nm k last).map fun l=>l++[last]
section
variable{D:Dc}{m n:Nat}{F':Nat->Nat->Rat}{b c x:Nat->Rat}
end
def Ka(F':List (List Rat))(n:Nat):List (List Rat):=F'++(List.range n).map fun k=>(eF n).set k 1
def LF(b:List Rat)(n:Nat):List Rat:=b++eF n
def MP(rows:List (List Rat))(l:List Nat):List (List Rat):=l.map fun e=>rows.getD e []
def NG(right:List Rat)(l:List Nat):List Rat:=l.map fun e=>right.getD e 0
section
variable{D:Dc}{n:Nat}{F':List (List Rat)}{b:List Rat}{c:Nat->Rat}
end
structure Crn(F':List (List Rat))(b:List Rat)(n:Nat)(x:List Rat):Prop where
 ex:∃l∈Nm n (F'.length+n),OA (MP (Ka F' n) l) n=n/\MI (MP (Ka F' n) l) (NG (LF b n) l) n=some x
 ok:mo F'.length n (dZ F') (fun i=>b.getD i 0) fun j=>x.getD j 0
section
variable{D:Dc}{n:Nat}{F':List (List Rat)}{b c x:List Rat}
theorem mo.congr{m:Nat}{r z:Nat->Rat}(h:mo m n G8 r y)(e:∀j,j<n->z j=y j):mo m n G8 r z:=⟨fun j hj=>by rw[e j hj];exact h.1 j hj,fun i R=>by rw[cQ fun j hj=>by rw[e j hj]];exact h.2 i R⟩
end
inductive Cert (m n:Nat) (F':Nat->Nat->Rat) (b c:Nat->Rat):Nat->Rat->Prop
 |CY (x y:Nat->Rat) (v:Rat) (E:mo m n F' b x) (hy:∀i,i<m->0<=y i) (hc:∀j,j<n->c j<=cW (fun i=>y i*F' i j) m) (e1:cW (fun j=>c j*x j) n=v) (e2:cW (fun i=>y i*b i) m=v):Cert m n F' b c 0 v
 |none (y:Nat->Rat) (h:zw m n F' b y):Cert m n F' b c 1 0
 |JV (x z:Nat->Rat) (E:mo m n F' b x) (hz:Jo m n F' c z):Cert m n F' b c 2 0
section
variable{m n k l:Nat}{F':Nat->Nat->Rat}{b c:Nat->Rat}{v w:Rat}
def pt(F':Nat->Nat->Rat)(i j:Nat):Rat:= -(F' j i)
def pw(c:Nat->Rat)(j:Nat):Rat:= -(c j)
theorem rO:mo n m (pt F') (pw c) y↔(∀i,i<m->0<=y i)/\∀j,j<n->c j<=cW (fun i=>y i*F' i j) m:=by
 have e:∀j,cW (fun i=>pt F' j i*y i) m= -(cW (fun i=>y i*F' i j) m):=fun j=>by
  rw[<-eo];exact cQ fun i _=>by unfold pt;grind
 constructor
 .rintro⟨W,I⟩;refine⟨W,fun j hj=>?_⟩;have:=I j hj;rw[e]at this;unfold pw at this;grind
 .rintro⟨W,I⟩;refine⟨W,fun j hj=>?_⟩;rw[e];have:=I j hj;unfold pw;grind
theorem zx(i:Nat):cW (fun j=>x j*pt F' j i) n= -(cW (fun j=>F' i j*x j) n):=by
 rw[<-eo];exact cQ fun j _=>by unfold pt;grind
theorem Cd(g:Nat->Rat)(m:Nat):cW (fun i=>pw g i*y i) m= -(cW (fun i=>y i*g i) m):=by
 rw[<-eo];exact cQ fun i _=>by unfold pw;grind
theorem Gd(g:Nat->Rat)(m:Nat):cW (fun i=>y i*pw g i) m= -(cW (fun i=>g i*y i) m):=by
 rw[<-eo];exact cQ fun i _=>by unfold pw;grind
theorem Cert.Jp(h:Cert m n F' b c k v)(g:Cert n m (pt F') (pw c) (pw b) l w):
  (k=0↔l=0)/\(k=2->l=1)/\(l=2->k=1)/\(k=0->v= -w):=by
 cases h with
 |CY x y v E hy hc e1 e2=>
  cases g with
  |CY x' y' v' gx gy gc f1 f2=>
   obtain⟨p1,p2⟩:=rO.1 gx;refine⟨ce,ce,ce,fun _=>?_⟩;have k1:=xa E p1 p2;have hx':mo m n F' b y':=by
    refine⟨gy,fun i R=>?_⟩;have:=gc i R;rw[zx]at this;unfold pw at this;grind
   have k2:=xa hx' hy hc;rw[Cd]at f1;rw[Gd]at f2;rw[e1]at k1;rw[e2]at k2;grind
  |none y' gy=>exact absurd (gy.no (rO.2 ⟨hy,hc⟩)) id
  |JV x' z' gx gz=>
   obtain⟨p1,p2⟩:=gz;refine absurd (cO (F':=F') (b:=b) (m:=m) (n:=n) E p1.1) fun q=>?_;rw[Cd]at p2;have p3:0<=cW (fun j=>cW (fun i=>z' i*F' i j) m*x j) n:=iT fun j hj=>by
    have q1:=p1.2 j hj;have q2:cW (fun i=>pt F' j i*z' i) m= -(cW (fun i=>z' i*F' i j) m):=by
     rw[<-eo];exact cQ fun i _=>by unfold pt;grind
    rw[q2]at q1;exact Rat.mul_nonneg (by grind) (E.1 j hj)
   grind
 |none y hy=>
  cases g with
  |CY x' y' v' gx gy gc f1 f2=>
   refine absurd (hy.no (x:=y') ⟨gy,fun i R=>?_⟩) id;have:=gc i R;rw[zx]at this;unfold pw at this;grind
  |none y' gy=>exact⟨ce,ce,ce,ce⟩
  |JV x' z' gx gz=>exact⟨ce,ce,ce,ce⟩
 |JV x z E hz=>
  have SJ:∀y,mo n m (pt F') (pw c) y->False:=fun y gy=>by
   obtain⟨p1,p2⟩:=rO.1 gy;exact LD hz p1 p2
  cases g with
  |CY x' y' v' gx gy gc f1 f2=>exact absurd (SJ _ gx) id
  |none y' gy=>exact⟨ce,ce,ce,ce⟩
  |JV x' z' gx gz=>exact absurd (SJ _ gx) id
end
end Go.Ex
namespace Go.Ex
open Go Go.Sx Go.Proofs
variable{qs:List Rat}
section
variable{F':List (List Rat)}{b c X E8 FS:List Rat}{n k:Nat}{q:Rat}
theorem ng(n v:Nat):(iI n).getD v 0=0:=j4 n v
theorem Iq{i j:Nat}:(Fs F' j).getD i 0=dZ F' i j:=by
 unfold Fs dZ;rw[List.getD,List.getD,List.getD,aS]
 cases F'[i]? <;>rfl
theorem rQ:D5 X (iI k)↔∀i,i<X.length->0<=X.getD i 0:=by
 unfold D5;constructor<;>intro h i R<;>have:=h i R
 .rw[ng]at this;exact this
 .rw[ng];exact this
theorem kX(hA:pf n F'):rn F' n X b↔X.length=n/\mo F'.length n (dZ F') (fun i=>b.getD i 0) fun j=>X.getD j 0:=by
 have key:∀(i:Nat) r,F'[i]? =some r->eR r X r.length=cW (fun j=>dZ F' i j*X.getD j 0) n:=fun i r hr=>by
  rw[fQ,hA r (aG hr)];refine cQ fun j _=>?_;unfold dZ;rw[List.getD,List.getD,List.getD,List.getD,hr];rfl
 constructor
 .rintro⟨W,I,h3⟩;refine⟨W,fun j hj=>rQ.1 I j be,fun i R=>?_⟩;have h4:=aE R;have:=h3 i _ h4;rw[key i _ h4]at this;exact this
 .rintro⟨W,I,h3⟩;refine⟨W,rQ.2 fun j hj=>I j be,fun i r hr=>?_⟩;rw[key i r hr];exact h3 i (aH.1 hr).1
theorem yc:Ir F' E8 c↔E8.length=F'.length/\(∀i,i<F'.length->0<=E8.getD i 0)/\∀j,j<c.length->c.getD j 0<=cW (fun i=>E8.getD i 0*dZ F' i j) F'.length:=by
 have hl:(qp E8 F' c.length F'.length).length=c.length:=by unfold qp;simp
 have key:∀j,j<c.length->(qp E8 F' c.length F'.length).getD j 0=cW (fun i=>E8.getD i 0*dZ F' i j) F'.length:=fun j hj=>by
  unfold qp;rw[List.getD,aS,List.getElem?_range hj];show eR E8 (Fs F' j) F'.length=_;rw[fQ];exact cQ fun i _=>by rw[Iq]
 unfold Ir;constructor
 .rintro⟨W,I,h3⟩;refine⟨W,fun i R=>rQ.1 I i be,fun j hj=>?_⟩;have:=h3 j be;rw[key j hj]at this;exact this
 .rintro⟨W,I,h3⟩;refine⟨W,rQ.2 fun i R=>I i be,fun j hj=>?_⟩;rw[hl]at hj;rw[key j hj];exact h3 j hj
theorem yd:Ir F' E8 (iI n)↔E8.length=F'.length/\(∀i,i<F'.length->0<=E8.getD i 0)/\∀j,j<n->0<=cW (fun i=>E8.getD i 0*dZ F' i j) F'.length:=by
 rw[yc,show(iI n).length=n from bp];refine and_congr_right fun _=>and_congr_right fun _=>?_;constructor<;>intro h j hj<;>have:=h j hj
 .rw[ng]at this;exact this
 .rw[ng];exact this
theorem uZ.cert{z:Int}(hA:pf c.length F')(N:b.length=F'.length)(h:uZ F' b c z X E8 FS q):∃k:Nat,z=(k:Int)/\k<=2/\Cert F'.length c.length (dZ F') (fun i=>b.getD i 0) (fun j=>c.getD j 0) k q:=by
 rcases h with⟨rfl,-,W,I,h3,h4⟩|⟨rfl,-,-,rfl,I,h4⟩|⟨rfl,-,rfl,W,I,h3⟩
 .obtain⟨k1,k2⟩:=(kX hA).1 W;obtain⟨k3,k4,k5⟩:=yc.1 I;rw[fQ]at h3 h4;rw[k3]at h4;exact⟨0,rfl,be,.CY _ _ q k2 k4 k5 h3 h4⟩
 .obtain⟨k3,k4,k5⟩:=yd.1 I;rw[fQ,k3]at h4;exact⟨1,rfl,be,.none _ ⟨k4,h4,k5⟩⟩
 .obtain⟨k1,k2⟩:=(kX hA).1 W;obtain⟨k3,k4⟩:=(kX hA).1 I;rw[fQ]at h3;refine⟨2,rfl,be,.JV _ _ k2 ⟨⟨k4.1,fun i R=>?_⟩,h3⟩⟩;have:=k4.2 i R;rw[show (fun i=>(iI b.length).getD i 0) i=0 from ng _ _]at this;exact this
theorem ET(hA:pf c.length F')(hX:X.length=c.length)(hY:E8.length=F'.length)(hp:mo F'.length c.length (dZ F') (fun i=>b.getD i 0) fun j=>X.getD j 0)(hy:∀i,i<F'.length->0<=E8.getD i 0)(hc:∀j,j<c.length->c.getD j 0<=cW (fun i=>E8.getD i 0*dZ F' i j) F'.length)
  (e1:cW (fun j=>c.getD j 0*X.getD j 0) c.length=q) (e2:cW (fun i=>E8.getD i 0*b.getD i 0) F'.length=q):uZ F' b c 0 X E8 [] q:=
 .inl ⟨rfl,rfl,(kX hA).2 ⟨hX,hp⟩,yc.2 ⟨hY,hy,hc⟩,by rw[fQ];exact e1,by rw[fQ,hY];exact e2⟩
theorem EU(hY:E8.length=F'.length)(h:zw F'.length c.length (dZ F') (fun i=>b.getD i 0) fun i=>E8.getD i 0):uZ F' b c 1 [] E8 [] 0:=
 .inr (.inl ⟨rfl,rfl,rfl,rfl,yd.2 ⟨hY,h.1,h.2.2⟩,by rw[fQ,hY];exact h.2.1⟩)
theorem HC(hA:pf c.length F')(hX:X.length=c.length)(hR:FS.length=c.length)(hp:mo F'.length c.length (dZ F') (fun i=>b.getD i 0) fun j=>X.getD j 0)(hr:Jo F'.length c.length (dZ F') (fun j=>c.getD j 0) fun j=>FS.getD j 0):uZ F' b c 2 X [] FS 0:=
 .inr (.inr ⟨rfl,rfl,rfl,(kX hA).2 ⟨hX,hp⟩,(kX hA).2 ⟨hR,hr.1.1,fun i R=>by
  have:=hr.1.2 i R;rw[show (fun i=>(iI b.length).getD i 0) i=0 from ng _ _]
  exact this⟩,by rw[fQ];exact hr.2⟩)
end
section
variable{S:Nat->Prop}{H:Hp}{nx:Nat}{iv:Iv}{B:Nat}{w J F:World}{O:Nat->Sx.dc}{x y:Tx}{t t':Tb}
theorem cj.Lc(h:cj F FF J.heap.size [(J.heap.size,F.heap.size)] x t)(E:∀g,Bv x.cX g->J.heap.size<=g)(hB:B<=J.heap.size)(hm:(J.heap.size,F.heap.size)∈iv):cj F FF B iv x t:=
 ⟨h.iH.cO (fun g V=>⟨by have:=eI V.1;exact .inr ⟨be,_,_,hm,this.1,this.2⟩,V.2⟩) fun g N V=>V.2 N,fun g V=>.inr ⟨by have:=E g V;omega,_,_,hm,E g V,h.iH.low V⟩⟩
theorem cj.Nb(h:cj w FF B iv x t)(r:Rel H nx iv B w O J)(E:∀g,Bv x.cX g->B<=g)(I:ed F (fun g=>Nw (fun g=>Lv FF B iv x g\/Bv x.cX g) J F g/\¬Bv y.cX g) y t')(AI:∀g,Bv y.cX g->Bv x.cX g\/J.heap.size<=g):
  cj F FF B ((J.heap.size,F.heap.size)::iv) y t':=by
 have hm:∀p,p∈iv->p∈(J.heap.size,F.heap.size)::iv:=fun p hp=>aD _ hp;have N:∀g,Bv x.cX g->Cv FF B iv g:=fun g V=>(h.kL g V).elim (fun h=>by have:=E g V;omega) .inr;refine⟨I.cO (fun g V=>⟨?_,V.2⟩) fun g N V=>V.2 N,fun g V=>?_⟩
 .rcases V.1 with W|W
  .exact W.elim (fun W=>W.1.mono hm) fun W=>(N g W).mono hm
  .exact .inr ⟨by have:=r.cR;omega,_,_,aF,W.1,W.2⟩
 .rcases AI g V with W|W
  .exact(h.kL g W).mono hm
  .exact .inr ⟨by have:=r.cR;omega,_,_,aF,W,I.low V⟩
theorem dm.Is{v:Value}(h:dm F (Nw (Lv FF B iv x) J F) (Nw (Lv FF B iv x) J F) v qs)(hB:B<=J.heap.size):dm F (Cv FF B ((J.heap.size,F.heap.size)::iv)) (Cv FF B ((J.heap.size,F.heap.size)::iv)) v qs:=by
 have Vo:∀g,Nw (Lv FF B iv x) J F g->Cv FF B ((J.heap.size,F.heap.size)::iv) g:=fun g V=>V.elim (fun h=>h.1.mono fun p hp=>aD _ hp) fun h=>.inr ⟨be,_,_,aF,h.1,h.2⟩;exact h.cO Vo Vo
end
end Go.Ex
