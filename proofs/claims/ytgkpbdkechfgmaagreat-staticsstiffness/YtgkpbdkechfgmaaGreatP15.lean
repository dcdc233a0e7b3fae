/- Texts L45 to L50: lemmas, each with its conditions. -/
import Derived.Test.YtgkpbdkechfgmaaGreatP14
set_option maxHeartbeats 2000000
namespace Go.Ex
variable{d:Int}{M:List (List Int)}{x0:List Rat}{n:Nat}{x y:Nat->Rat}{f:eh}
theorem getD_some{α:Type}{l:List α}{i:Nat}{x d:α}(h:l[i]? =some x):l.getD i d=x:=by rw[List.getD,h];rfl
structure GC(M:List (List Rat))(n:Nat)(K8:Nat->Rat):Prop where
 len:fz n M
 pos:∀t,t<n->0<=K8 t
 aD1:∀x:Nat->Rat,(∀j,j<M.length->mulR M n x j=0)->dC (fun t=>K8 t*(x t*x t)) n=0->∀t,t<n->x t=0
theorem IC(M:List (List Rat))(n:Nat)(x y:Nat->Rat)(j:Nat):mulR M n (fun t=>x t+y t) j=mulR M n x j+mulR M n y j:=by
 unfold mulR;rw[<-fg];exact cT fun t _=>by grind
theorem Oq(M:List (List Rat))(n:Nat)(x:Nat->Rat)(c:Rat)(j:Nat):mulR M n (fun t=>c*x t) j=c*mulR M n x j:=by
 unfold mulR;rw[<-ec];exact cT fun t _=>by grind
theorem ID(M:List (List Rat))(n:Nat)(S:Mx)(c:Nat->Rat)(j s:Nat):mulR M n (fun t=>dC (fun k=>c k*S k t) s) j=dC (fun k=>c k*mulR M n (S k) j) s:=by
 induction s with
 |zero=>exact(cT (g:=fun _=>0) fun t _=>bF _).trans (df n)
 |succ s ih=>
  show mulR M n (fun t=>dC (fun k=>c k*S k t) s+c s*S s t) j=dC (fun k=>c k*mulR M n (S k) j) s+c s*mulR M n (S s) j;rw[IC,Oq,ih]
theorem uw{M:List (List Rat)}(h:∀t,t<n->x t=y t)(j:Nat):mulR M n x j=mulR M n y j:=cT fun t ht=>by rw[h t ht]
def yX(K8 x y:Nat->Rat)(n:Nat):Rat:=dC (fun t=>K8 t*(x t*y t)) n
theorem wZ(K8 x y:Nat->Rat)(n:Nat):yX K8 x y n=yX K8 y x n:=cT fun t _=>by grind
theorem LY(K8 x y z:Nat->Rat)(n:Nat):yX K8 x (fun t=>y t+z t) n=yX K8 x y n+yX K8 x z n:=by
 unfold yX;rw[<-fg];exact cT fun t _=>by grind
theorem wh(K8 x:Nat->Rat)(S:Mx)(c:Nat->Rat)(n s:Nat):yX K8 x (fun t=>dC (fun k=>c k*S k t) s) n=dC (fun k=>c k*yX K8 x (S k) n) s:=by
 unfold yX;rw[cT (g:=fun t=>dC (fun k=>c k*(K8 t*(x t*S k t))) s) fun t _=>by rw[<-ec,<-ec];exact cT fun k _=>by grind,k8];exact cT fun k _=>by rw[ec]
theorem yY{K8 x' y':Nat->Rat}(I:∀t,t<n->x t=x' t)(G:∀t,t<n->y t=y' t):yX K8 x y n=yX K8 x' y' n:=cT fun t ht=>by rw[I t ht,G t ht]
section
variable{M:List (List Rat)}{n:Nat}{K8:Nat->Rat}{b:List Rat}
def LZ(M:List (List Rat))(n:Nat)(K8:Nat->Rat)(i j:Nat):Rat:=yX K8 (dF (dJ M n) i) (dF (dJ M n) j) n
theorem GC.Ot(h:GC M n K8){c:Nat->Rat}(hc:∀i,i<(dJ M n).length->dC (fun j=>LZ M n K8 i j*c j) (dJ M n).length=0):∀i,i<(dJ M n).length->c i=0:=by
 obtain⟨y,hy⟩:∃y:Nat->Rat,y=fun t=>dC (fun k=>c k*dF (dJ M n) k t) (dJ M n).length:=⟨_,rfl⟩
 have TJ:∀j,j<M.length->mulR M n y j=0:=fun j hj=>by
  rw[hy,ID,cT (g:=fun _=>0) fun k K=>by rw[rh h.len K j hj,bF],df]
 have V:∀i,i<(dJ M n).length->yX K8 (dF (dJ M n) i) y n=0:=fun i D=>by
  rw[hy,wh,<-hc i D];exact cT fun k _=>cB _ _
 have h0:yX K8 y y n=0:=by
  have:yX K8 y y n=dC (fun k=>c k*yX K8 y (dF (dJ M n) k) n) (dJ M n).length:=by
   rw[<-wh,<-hy]
  rw[this,cT (g:=fun _=>0) fun k K=>by rw[wZ,V k K,bF],df]
 exact GB (M:=M) fun t ht=>by
  have:=h.aD1 y TJ h0 t ht;rw[hy]at this;exact this
theorem GC.only(h:GC M n K8)(U:∀j,j<M.length->mulR M n x j=0)(hs:∀k,k<(dJ M n).length->yX K8 (dF (dJ M n) k) x n=0):∀t,t<n->x t=0:=by
 obtain⟨c,hc⟩:=LW h.len U;have h0:yX K8 x x n=0:=by
  rw[yY (x':=x) (fun _ _=>rfl) hc,wh,cT (g:=fun _=>0) fun k K=>by rw[wZ,hs k K,bF],df]
 exact h.aD1 x U h0
def yZ(k:Nat):List Rat:=List.replicate k 0
theorem rk(b:List Rat)(k j:Nat):(b++yZ k).getD j 0=b.getD j 0:=by
 unfold yZ;rcases aS j b.length with h|h
 .rw[List.getD,aI h,<-List.getD]
 .rw[jL h,List.getD,aN h,List.getElem?_replicate];split<;>rfl
structure nA(M:List (List Rat))(n:Nat)(K8:Nat->Rat)(b x:List Rat):Prop where
 len:x.length=n
 eq:∀j,j<M.length->mulR M n (fun t=>x.getD t 0) j=b.getD j 0
 st:∀k,k<(dJ M n).length->yX K8 (dF (dJ M n) k) (fun t=>x.getD t 0) n=0
theorem GC.one(h:GC M n K8){x y:List Rat}(U:nA M n K8 b x)(hy:nA M n K8 b y):x=y:=by
 refine gW 0 (by rw[U.len,hy.len]) fun t ht=>?_;rw[U.len]at ht
 have:=h.only (x:=fun t=>x.getD t 0-y.getD t 0) (fun j hj=>by rw[Ok,U.eq j hj,hy.eq j hj];grind) (fun k K=>by
  rw[show (fun t=>x.getD t 0-y.getD t 0)=fun t=>x.getD t 0+(-1)*y.getD t 0 from funext fun t=>by grind,LY,U.st k K];have G:=hy.st k K;unfold yX at G ⊢;rw[cT (f:=fun t=>K8 t*(dF (dJ M n) k t*(-1*y.getD t 0))) (g:=fun t=>(-1)*(K8 t*(dF (dJ M n) k t*y.getD t 0))) fun t _=>by grind,ec,G]
  grind) t ht
 grind
end
theorem IE(x y:List Rat)(n:Nat):fD x y n=dC (fun t=>x.getD t 0*y.getD t 0) n:=pz x y n
theorem ox{a b:List Rat}{t:Nat}(ht:t<a.length):(fu a b).getD t 0=a.getD t 0*b.getD t 0:=by
 have h:=aD ht;rw[getD_some h];exact getD_some (by rw[fu,List.getElem?_mapIdx,h];rfl)
section
variable{M:List (List Rat)}{n:Nat}{fl b:List Rat}
theorem y8(M:List (List Rat))(n:Nat)(fl:List Rat){i j:Nat}(D:i<(dJ M n).length)(hj:j<(dJ M n).length):dF (fJ (dJ M n) fl) i j=LZ M n (fun t=>fl.getD t 0) i j:=by
 have hr:=aD D;have hs:=aD hj;have hl:((dJ M n)[i]).length=n:=qC M n _ (bA D);have I:(fJ (dJ M n) fl)[i]? =some ((dJ M n).map fun r=>fD (fu (dJ M n)[i] fl) r (dJ M n)[i].length):=by rw[fJ,aO,hr];rfl
 have G:((dJ M n).map fun r=>fD (fu (dJ M n)[i] fl) r (dJ M n)[i].length)[j]? =some (fD (fu (dJ M n)[i] fl) (dJ M n)[j] (dJ M n)[i].length):=by rw[aO,hs];rfl
 rw[dF,getD_some I,getD_some G,pz,hl];refine cT fun t ht=>?_;rw[ox be,dF,dF,getD_some hr,getD_some hs];grind
theorem qE(st:List (List Rat))(fl:List Rat):fz st.length (fJ st fl):=fun r hr=>by
 obtain⟨s,hs,rfl⟩:=aV.1 hr;rw[aL]
theorem IF(M:List (List Rat))(n:Nat)(fl x:List Rat){i:Nat}(D:i<(dJ M n).length):(iP (dJ M n) fl x).getD i 0= -(yX (fun t=>fl.getD t 0) (dF (dJ M n) i) (fun t=>x.getD t 0) n):=by
 have hr:=aD D;have hl:((dJ M n)[i]).length=n:=qC M n _ (bA D);have I:(iP (dJ M n) fl x)[i]? =some (-(fD (fu (dJ M n)[i] fl) x (dJ M n)[i].length)):=by rw[iP,aO,hr];rfl
 rw[getD_some I,pz,hl];congr 1;refine cT fun t ht=>?_;rw[ox be,dF,getD_some hr];grind
theorem tT(st:List (List Rat))(c x:List Rat):∀i,(mu st c x i).length=x.length
 |0=>rfl
 |i+1=>by rw[mu,List.length_mapIdx,tT st c x i]
theorem CN(st:List (List Rat))(c x:List Rat){t:Nat}(ht:t<x.length):∀i,(mu st c x i).getD t 0=x.getD t 0+dC (fun k=>c.getD k 0*dF st k t) i
 |0=>(bV _).symm
 |i+1=>by
  have hl:t<(mu st c x i).length:=by rw[tT];exact ht
  have ih:=CN st c x ht i;rw[getD_some (aD hl)]at ih;rw[getD_some (show (mu st c x (i+1))[t]? =some ((mu st c x i)[t]+c.getD i 0*(st.getD i []).getD t 0) by rw[mu,List.getElem?_mapIdx,aD hl];rfl),ih,dC,Rat.add_assoc];rfl
theorem GC.force(h:GC M n fun t=>fl.getD t 0)(h0:iB M b n=some x0):∃c,iB (fJ (dJ M n) fl) (iP (dJ M n) fl x0) (dJ M n).length=some c/\c.length=(dJ M n).length/\
  nA M n (fun t=>fl.getD t 0) b (mu (dJ M n) c x0 (dJ M n).length):=by
 obtain⟨Sq,RX⟩:=my h.len h0;have hG:=qE (dJ M n) fl;have hGl:(fJ (dJ M n) fl).length=(dJ M n).length:=aL _;have hc:∃c,iB (fJ (dJ M n) fl) (iP (dJ M n) fl x0) (dJ M n).length=some c:=by
  cases e:iB (fJ (dJ M n) fl) (iP (dJ M n) fl x0) (dJ M n).length with
  |some c=>exact⟨c,rfl⟩
  |none=>
   obtain⟨y,y1,y2⟩:=qB hG e;rw[hGl]at y1 y2;have hy:=h.Ot (c:=y) fun i D=>Eq.trans (cT fun j hj=>by rw[y8 M n fl hj D,cB];unfold LZ;rw[wZ]) (y1 i D);exact absurd (by rw[cT (g:=fun _=>0) fun j hj=>by rw[hy j hj,bI],df]) y2
 obtain⟨c,hc⟩:=hc;obtain⟨c1,c2⟩:=my hG hc;refine⟨c,hc,c1,by rw[tT];exact Sq,fun j hj=>?_,fun k K=>?_⟩
 .rw[uw (y:=fun t=>x0.getD t 0+dC (fun k=>c.getD k 0*dF (dJ M n) k t) (dJ M n).length) fun t ht=>CN _ c x0 be _,IC,ID,RX j hj,cT (g:=fun _=>0) fun k K=>by rw[rh h.len K j hj,bF],df,bV]
 .rw[yY (x':=dF (dJ M n) k) (y':=fun t=>x0.getD t 0+dC (fun k=>c.getD k 0*dF (dJ M n) k t) (dJ M n).length) (fun _ _=>rfl) fun t ht=>CN _ c x0 be _,LY,wh];have G:=c2 k be;rw[IF M n fl x0 K]at G;unfold mulR at G;rw[cT (g:=fun t=>c.getD t 0*yX (fun t=>fl.getD t 0) (dF (dJ M n) k) (dF (dJ M n) t) n) fun t ht=>by rw[y8 M n fl K ht,cB];rfl]at G;rw[G];grind
end
def ez(M:List (List Int))(r c:Nat):Int:=(M.getD r []).getD c 0
theorem getD_set_ne{α:Type}{l:List α}{i j:Nat}{x d:α}(h:i≠j):(l.set i x).getD j d=l.getD j d:=by rw[List.getD,aY h,<-List.getD]
theorem j6{α:Type}{l:List α}{i:Nat}{x d:α}(h:i<l.length):(l.set i x).getD i d=x:=by rw[List.getD,aT h];rfl
theorem iX{r c r' c':Nat}(h:r'≠r\/c'≠c):ez (putAt M r c d) r' c'=ez M r' c':=by
 unfold ez putAt;by_cases I:r'=r
 .subst I;have G:c≠c':=h.elim (fun h=>absurd rfl h) fun h=>h.symm;rcases aS r' M.length with h3|h3
  .rw[j6 h3,getD_set_ne G]
  .rw[List.set_eq_of_length_le h3]
 .rw[getD_set_ne (Ne.symm I)]
theorem wi{r c:Nat}(hr:r<M.length)(hc:c<(M.getD r []).length):ez (putAt M r c d) r c=d:=by
 unfold ez putAt;rw[j6 hr,j6 hc]
theorem gZ(M:List (List Int))(r c:Nat)(d:Int):wV M r c d=putAt M r c (ez M r c+d):=rfl
theorem jm{i:Nat}{b:Int×Int×Rat}(hb:f.bars[i]? =some b):f.bars.getD i (0,0,0)=b:=by rw[List.getD,hb];rfl
theorem tU{f:eh}{M:List (List Int)}{i c r:Nat}(h:c≠i):∀k,ez (eo f M i k) r c=ez M r c
 |0=>rfl
 |k+1=>by
  rw[eo];rw[gZ,iX (.inr h),gZ,iX (.inr h)];exact tU h k
theorem l9(f:eh){r c:Nat}:∀i,i<=c->ez (dx f i) r c=0
 |0,_=>by
  unfold ez dx;rcases aS r (3*f.nodes.length)with h|h
  .rw[show (List.replicate (3*f.nodes.length) (List.replicate f.cols (0:Int))).getD r []=List.replicate f.cols 0 by rw[List.getD,List.getElem?_replicate,aM h];rfl,List.getD,List.getElem?_replicate];split<;>rfl
  .rw[show (List.replicate (3*f.nodes.length) (List.replicate f.cols (0:Int))).getD r []=[] by rw[List.getD,List.getElem?_replicate,aJ be];rfl];rfl
 |i+1,h=>by rw[dx,tU be];exact l9 f i be
theorem toNat_add{a:Int}{k ka:Nat}(h:a=ka):(3*a+(k:Int)).toNat=3*ka+k:=by omega
theorem El{f:eh}{M:List (List Int)}{i r ka kb:Nat}{b:Int×Int×Rat}(hb:f.bars[i]? =some b)(ea:b.1=ka)(eb:b.2.1=kb):∀k,k<=3->k<=r % 3->ez (eo f M i k) r i=ez M r i
 |0,_,_=>rfl
 |k+1,h3,h=>by
  rw[eo];rw[jm hb,toNat_add ea,toNat_add eb,gZ,iX (.inl be),gZ,iX (.inl be)];exact El hb ea eb k be be
theorem qF{i r ka kb k:Nat}{b:Int×Int×Rat}(hb:f.bars[i]? =some b)(ea:b.1=ka)(eb:b.2.1=kb)(K:k<=3)(h:k<=r % 3):ez (eo f (dx f i) i k) r i=0:=by
 rw[El hb ea eb k K h];exact l9 f i (aP _)
theorem uy{f:eh}{r c:Nat}(h:c<f.bars.length):∀k,ez (fY f k) r c=ez (dx f f.bars.length) r c
 |0=>rfl
 |k+1=>by
  rw[fY];rw[iX (.inr be)];exact uy h k
theorem z8{f:eh}{r i:Nat}:∀k,k<=i->ez (fY f k) r (f.bars.length+i)=0
 |0,_=>l9 f _ be
 |k+1,h=>by
  rw[fY];rw[iX (.inr be)];exact z8 k be
def eD(s:Int×Int×Rat):Nat:=(3*s.1+s.2.1).toNat
theorem Em{f:eh}(V:∀k,∀l∈fY f k,l.length=f.cols)(hlen:∀k,(fY f k).length=3*f.nodes.length)(Ov:∀s∈f.dB,eD s<3*f.nodes.length){r i:Nat}{s:Int×Int×Rat}(hs:f.dB[i]? =some s):
  ∀k,i<k->ez (fY f k) r (f.bars.length+i)=if r=eD s then 1 else 0
 |0,h=>by omega
 |k+1,h=>by
  rw[fY];rcases aS i k with I|I
  .rw[iX (.inr be)];exact Em V hlen Ov hs k I
  .have:i=k:=by omega
   subst this;have X:f.dB.getD i (0,0,0)=s:=by rw[List.getD,hs];rfl
   have WA:=Ov s (aC hs);have D:=(aE.1 hs).1;rw[X];by_cases G:r=eD s
   .rw[aM G,G];have hm:eD s<(fY f i).length:=by rw[hlen];exact WA
    exact wi hm (by
     show f.bars.length+i<((fY f i).getD (eD s) []).length;rw[List.getD,aD hm];show f.bars.length+i<((fY f i)[eD s]).length;rw[V i _ (bA hm),eh.cols]
     omega)
   .rw[aJ G];exact(iX (r:=eD s) (.inl G)).trans (z8 i (aP _))
end Go.Ex
namespace Go.Sx
open Go Go.Ex Go.Proofs
variable{Z:List Value}{O:Nat->Sx.eG}
theorem Rel.Kl{H:Hp}{nx:Nat}{iv:Iv}{B:Nat}{w J:World}(r:Rel H nx iv B w O J){id t m sz:Nat}(h:dU H id=some (.vec t sz Z))(hm:Z.length=m*sz)(S9:m<=maxLen)(hs:0<sz)(I:∀u∈Z,u.oneCell'=true):
  j1 J (Cv FF B (kC (O id) iv)) sz ((At.w id m).den O) Z m:=by
 rcases r.fits h with⟨W,rfl⟩|⟨W,spare,G,h3,h4⟩
 .have Uu:m=0:=by
   rcases bZ m with h|h
   .exact h
   .have:=Nat.mul_pos h hs;simp at hm;omega
  subst Uu;have SI:(At.w id 0).den O=nls:=by simp[At.den,W]
  rw[SI];exact⟨aR _,bv,bv,none,0,rfl,lr,fun j u h=>by cases h⟩
 .have SI:(At.w id m).den O= .slice (some ⟨(O id).g,0,none⟩) m (O id).cap:=by simp[At.den,W]
  rw[SI];have PI:=r.low id _ h W;refine⟨S9,hm,I,_,_,rfl,?_,fun j u hu=>⟨_,rfl,.inr ⟨PI.1,_,_,Ha W,lr,bc _⟩,?_⟩⟩
  .rw[aQ,hm]at h3;exact cL (show m*sz<=(O id).cap*sz by omega) hs
  .rw[dX,cell_of G,aW,aI (aE.1 hu).1];exact hu
end Go.Sx
namespace Go.Ex
open Go Go.Sx Go.Proofs
section
variable{S:Nat->Prop}{f:eh}
theorem aCF{i k ka kb:Nat}{b:Int×Int×Rat}{d:Int}{la lb:List Int}(hb:f.bars[i]? =some b)(ea:b.1=ka)(eb:b.2.1=kb)(QV:ka≠kb)(K:k<3)(hd:(j5 f b).getD k 0=d)
  (Qs:(eo f (dx f i) i k)[3*ka+k]? =some la) (PW:((eo f (dx f i) i k).set (3*ka+k) (la.set i d))[3*kb+k]? =some lb):
  ((eo f (dx f i) i k).set (3*ka+k) (la.set i d)).set (3*kb+k) (lb.set i (-d))=eo f (dx f i) i (k+1):=by
 have z1:=qF (r:=3*ka+k) hb ea eb (show k<=3 by omega) be;have z2:=qF (r:=3*kb+k) hb ea eb (show k<=3 by omega) be;have hga:(eo f (dx f i) i k).getD (3*ka+k) []=la:=by rw[List.getD,Qs];rfl
 have hgb:((eo f (dx f i) i k).set (3*ka+k) (la.set i d)).getD (3*kb+k) []=lb:=by rw[List.getD,PW];rfl
 have e1:wV (eo f (dx f i) i k) (3*ka+k) i d=(eo f (dx f i) i k).set (3*ka+k) (la.set i d):=by
  rw[gZ,z1,Int.zero_add,putAt,hga]
 rw[eo];rw[jm hb,hd,toNat_add ea,toNat_add eb,e1,wV,hgb];have z3:lb.getD i 0=0:=by
  rw[<-hgb,getD_set_ne (show 3*ka+k≠3*kb+k by omega)];exact z2
 rw[z3,Int.zero_add]
theorem FQ{w:World}{vn vb vs:Value}(F:Old S w)(hf:dw w S vn vb vs f)(PJ:eW f=0):
  eH PG GT.xB #[.agg #[vn,vb,vs]] w (eR w fun v' Y=>oe Y (Nf w Y) v' (iW f)/\JV (iW f) 2000000):=by
 have V:=bR w;have Oz:=lQ PJ;obtain⟨an,cn,ab,cb,aq,cq,rfl,rfl,rfl,R4,RY,SX⟩:=hf.shape;obtain⟨Vk,UN,TY⟩:=And.intro Oz.n (And.intro Oz.b Oz.s);have QP:f.cols=f.bars.length+f.dB.length:=rfl;obtain⟨m,hm⟩:=exq (3*f.nodes.length);refine AV bv ?_
 refine⟨Nat×List Value×World×Iv,fun z=>⟨[(1,pP 0 0),(3,.o (.w 1 z.2.1.length)),(4,iN z.1)],[(1,.vec T.Lint 1 z.2.1),(0,.box T.Frame [.v (.slice an f.nodes.length cn),.v (.slice ab f.bars.length cb),.v (.slice aq f.dB.length cq)])],2,z.2.2.2,z.2.2.1⟩,fun z=>m-z.1,
  fun z=>z.1<=m/\z.2.1.length=z.1/\Bq w z.2.2.1/\im z.2.2.1 w.heap.size z.2.2.2 z.2.1 f.cols (List.replicate z.1 (List.replicate f.cols 0)),?_,?_⟩
 .intro O J R;exact⟨(0,[],J,[]),⟨aR _,rfl,V.tr R.cZ,im.nil⟩,Sub.nil 3 T.Lint 1 rfl (by simp[kK,SV.sc,At.sc,fc]) R fun In r1=>sbgn [] r1⟩
 clear V;rintro⟨i,rv,w1,iv⟩ ⟨D,PN,V,hE⟩;dsimp only at D PN V hE ⊢;refine⟨(m:Int),wo,?_⟩;apply bS<;>intro Ou
 .have Ou:=dL Ou;refine cQ (cE V (pE (iV f.cols)) (fun O J r=>kT (hf.cR (kS V r F)) ⟨UN,TY⟩) ?_);rintro O _ _ _ PA r L V E rfl;have WG:=im.cS hE r L (mC E);clear r;clear hE;refine⟨f.cols,f.cols,rfl,rfl,lr,be,be,?_⟩;refine mi hτ (id3:=3) (id2:=2) (tH:=[(1,.vec T.Lint 1 rv),(0,.box T.Frame [.v (.slice an f.nodes.length cn),.v (.slice ab f.bars.length cb),.v (.slice aq f.dB.length cq)])]) rfl rfl rfl rfl bv ⟨rfl,rfl,trivial⟩ rfl rfl (fun O J r r2 TZ=>?_);have W:=(r.fits (id:=2) rfl).1;have Ov:J.ownsRow 0 T.int 1 (.slice (some ⟨(O 2).g,0,none⟩) f.cols f.cols) f.cols ((List.replicate f.cols (0:Int)).map fun z=>iV z):=
   ⟨bv,.inr ⟨(O 2).g,f.cols,(List.replicate f.cols (iV 0)).toArray,rfl,aR _,r.arr 2 _ _ rfl,lr,mx,bv,bv⟩⟩
  have Pb:=(WG.rel r).push (gx:=(O 2).g) (l:=List.replicate f.cols 0) (fun g X e=>Rel.not r (dV _) X 2 _ rfl W e.symm) (r.low 2 _ rfl W).1 bv Ov;rw[<-List.replicate_succ']at Pb;have hgv:kC (O 2) PA=((O 2).g,(O 2).g+1)::PA:=by unfold kC;rw[W]
  have SK:=r.low 3 _ rfl (r.fits (id:=3) rfl).1;have TZ:J.heap[(O 3).g]? =some (.cells #[.slice (some ⟨(O 2).g,0,none⟩) f.cols f.cols] T.Lint (0,0)):=TZ;have Wo:=Pb.mono (N:=((O 3).g,(O 3).g+1)::((O 2).g,(O 2).g+1)::PA) fun p hp=>aB _ hp;have Pf:=V.tr r.cZ;have hC3:Cf w (((O 3).g,(O 3).g+1)::((O 2).g,(O 2).g+1)::PA) (O 3).g:=.inr ⟨SK.1,_,_,aH,lr,bc _⟩;rw[hgv];clear WG V r Ov W Pb hgv r2 SK;generalize (O 2).g=gx at*
  generalize (O 3).g=gy at*
  generalize (gy,gy+1)::(gx,gx+1)::PA=Oy at*
  refine⟨[.slice (some ⟨gx,0,none⟩) f.cols f.cols],rfl,by simp[Value.oneCell'],fun If Y r2 _=>⟨_,rfl,fun j u hu=>?_⟩,?_⟩
  .have h5:=rls r2 (dV _) hC3;rw[dX,cell_of (h5.trans TZ)];rcases j with _|j
   .exact hu
   .cases hu
  refine⟨be,be,mx,((i+1:Nat):Int),wo,?_⟩;intro I' w6 R;exact⟨(i+1,rv++[.slice (some ⟨gx,0,none⟩) f.cols f.cols],w6,_),⟨Ou,by simp[PN],Pf.tr R.cZ,Wo.rel R⟩,sbgn [(1,4)] R (hE:=⟨rfl,by dsimp only;rw[l1];rfl,rfl,trivial⟩),dec Ou⟩
 have Ou:=dE D Ou;subst Ou;have hE0:im w1 w.heap.size iv rv f.cols (dx f 0):=by rw[dx,hm];exact hE
 have Xr:JV (dx f 0) 2000000:=fun l hl z hz=>by
  rw[dx]at hl;rw[bW hl]at hz;rw[bW hz];exact⟨bi,bi⟩
 clear hE;rw[PN]
 refine⟨Nat×World×Iv,fun z=>⟨[(1,pP 0 0),(3,.o (.w 1 i)),(5,iN z.1)],[(1,.vec T.Lint 1 rv),(0,.box T.Frame [.v (.slice an f.nodes.length cn),.v (.slice ab f.bars.length cb),.v (.slice aq f.dB.length cq)])],2,z.2.2,z.2.1⟩,fun z=>f.bars.length-z.1,
  fun z=>z.1<=f.bars.length/\Bq w z.2.1/\im z.2.1 w.heap.size z.2.2 rv f.cols (dx f z.1)/\JV (dx f z.1) 2000000,?_,?_⟩
 .intro O J R;exact⟨(0,J,_),⟨aR _,V.tr R.cZ,hE0.rel R,Xr⟩,sbgn [] R⟩
 clear V hE0 Xr D;rintro⟨j,Y,iv⟩ ⟨hj,V,hE,Pm⟩;dsimp only at hj V hE Pm ⊢;apply bS<;>intro Pn
 .have Pn:=dL Pn;obtain⟨b,hb⟩:=gO f.bars j;obtain⟨hA,hB⟩:=Oz.IG b (aC hb);have Ox:=(aAp PJ (aC hb)).1;obtain⟨ka,pa,ea,Up,-,WE,⟨_,_⟩,⟨_,_⟩,⟨_,_⟩⟩:=Oz.node hA.1 hA.2;obtain⟨kb,pb,eb,Ow,-,So,⟨_,_⟩,⟨_,_⟩,⟨_,_⟩⟩:=Oz.node hB.1 hB.2;have QV:ka≠kb:=fun e=>Ox (by rw[ea,eb,e]);obtain⟨adb,Z,Ws,hF,-,hlb0⟩:=hf.bars.load bi hb;obtain⟨g0,g1,g2,g3,g4,g5,g6,g7,rfl,hF⟩:=hF;have hbD:j5 f b=[pb.1-pa.1,pb.2.1-pa.2.1,pb.2.2-pa.2.2]:=by rw[j5,WE,So]
  refine cQ (cE V (pE (.agg #[iV (pb.1-pa.1),iV (pb.2.1-pa.2.1),iV (pb.2.2-pa.2.2)])) (fun O J r=>(EK (S:=S) (oS F r) (hf.cR (kS V r F)) Oz hb).mono fun _ _ ⟨v2,e1,e2,e3⟩=>⟨v2,e1,e2,by rw[e3,WE,So]⟩) ?_);rintro O _ _ _ Oy r L V E rfl;have WG:=im.cS hE r L (mC E);clear r;clear hE hF;rw[ea,eb]at hlb0;obtain⟨ds,WJ⟩:∃ds:List Value,ds=[iV (pb.1-pa.1),iV (pb.2.1-pa.2.1),iV (pb.2.2-pa.2.2)]:=⟨_,rfl⟩
  refine⟨Nat×World×Iv,fun z=>⟨[(1,pP 0 0),(3,.o (.w 1 i)),(5,iN j),(6,pP 2 0),(7,iN z.1)],[(2,.arr 267 ds),(1,.vec T.Lint 1 rv),(0,.box T.Frame [.v (.slice an f.nodes.length cn),.v (.slice ab f.bars.length cb),.v (.slice aq f.dB.length cq)])],3,z.2.2,z.2.1⟩,fun z=>3-z.1,
   fun z=>z.1<=3/\Bq w z.2.1/\im z.2.1 w.heap.size z.2.2 rv f.cols (eo f (dx f j) j z.1)/\JV (eo f (dx f j) j z.1) 2000000,?_,?_⟩
  .intro O J R;exact⟨(0,J,_),⟨aR _,V.tr R.cZ,WG.rel R,Pm⟩,Sub.aDg 2 (vs:=ds) (by rw[WJ];rfl) R fun r4=>sbgn [] r4⟩
  clear V WG Pm;rintro⟨k,w3,iv⟩ ⟨K,V,hE,Pm⟩;dsimp only at K V hE Pm ⊢;apply bS<;>intro UR
  .have Xx:k<3:=by have:=aK UR;omega
   obtain⟨d,hd⟩:=exq ((j5 f b).getD k 0);have hdb: -2000000<=d/\d<=2000000:=by
    rw[<-hd,hbD];rcases(show k=0\/k=1\/k=2 by omega)with rfl|rfl|rfl<;>simp[List.getD]<;>omega
   have hdk:ds[k]? =some (iV d):=by
    rw[WJ,<-hd,hbD];rcases(show k=0\/k=1\/k=2 by omega)with rfl|rfl|rfl<;>rfl
   have hMl:(eo f (dx f j) j k).length=3*f.nodes.length:=by rw[<-hE.len];have:=hE.len;omega
   obtain⟨la,Qs⟩:∃l,(eo f (dx f j) j k)[3*ka+k]? =some l:=⟨_,aD (by first|omega|(rw [bj];omega))⟩
   have hlaw:=hE.wid la (aC Qs);obtain⟨za,XR⟩:=gO la j;obtain⟨va,Xs⟩:∃v,rv[3*ka+k]? =some v:=⟨_,aD (by have:=(aE.1 Qs).1;rw[hE.len];exact this)⟩
   obtain⟨aa5,ca5,rfl⟩:=hE.form Xs;obtain⟨ada5,Uz,-,-⟩:=hE.load Xs Qs XR;refine dP (idO 18) ?_;refine⟨adb,Ws,be,iV (ka:Int),rdF (hlb0 0 _ rfl) V F,?_⟩;refine⟨((3*ka:Nat):Int),wo,((3*ka+k:Nat):Int),wo,by rw[PN,aW,aZ],be,.slice aa5 f.cols ca5,by rw[aF,aZ];exact Xs,be,iV d,by rw[aW,aF,aZ];exact hdk,ada5,Uz,be,?_⟩;intro O J r;obtain⟨g,X,I,G,h3,h4⟩:=hE.store r (z:=d) Xs Qs (show j<f.cols by omega);rw[Uz]at X;injection X with X;subst X;refine⟨I,G,h3,fun w5 Qv=>?_⟩;obtain⟨k1,k2,k3,-,-⟩:=h4 w5 Qv;replace V:=(V.tr r.cZ).tr k2;replace Pm:=Pm.set (r:=3*ka+k) (c:=j) (z:=d) (t2:=2000000) be Qs be;replace hE:=k1;clear I G h3 h4 Qv k1 k2 k3 r Uz;obtain⟨lb,PW⟩:∃l,((eo f (dx f j) j k).set (3*ka+k) (la.set j d))[3*kb+k]? =some l:=⟨_,aD (by first|omega|(rw [bj];omega))⟩
   have hlbw:=hE.wid lb (aC PW);obtain⟨zb,Uy⟩:=gO lb j;obtain⟨vb,Wm⟩:∃v,rv[3*kb+k]? =some v:=⟨_,aD (by have:=(aE.1 PW).1;rw[hE.len];exact this)⟩
   obtain⟨ab5,cb5,rfl⟩:=hE.form Wm;obtain⟨adb5,VA,-,-⟩:=hE.load Wm PW Uy;refine dP (idO 19) ?_;refine⟨adb,Ws,be,iV (kb:Int),rdF (hlb0 1 _ rfl) V F,?_⟩;refine⟨((3*kb:Nat):Int),wo,((3*kb+k:Nat):Int),wo,by rw[PN,aW,aZ],be,.slice ab5 f.cols cb5,by rw[aF,aZ];exact Wm,be,iV d,by rw[aW,aF,aZ];exact hdk,-d,wo,adb5,VA,be,?_⟩;intro O J r;obtain⟨g,X,I,G,h3,h4⟩:=hE.store r (z:=(-d)) Wm PW (show j<f.cols by omega);rw[VA]at X;injection X with X;subst X;refine⟨I,G,h3,fun w5 Qv=>?_⟩;obtain⟨k1,k2,k3,-,-⟩:=h4 w5 Qv;replace V:=(V.tr r.cZ).tr k2;replace Pm:=Pm.set (r:=3*kb+k) (c:=j) (z:=(-d)) (t2:=2000000) be PW be;replace hE:=k1;clear I G h3 h4 Qv k1 k2 k3 r VA;rw[aCF hb ea eb QV Xx hd Qs PW]at hE Pm;refine inc k ?_;intro I' w6 R;exact⟨(k+1,w6,_),⟨Xx,V.tr R.cZ,hE.rel R,Pm⟩,sbgn [] R,dec Xx⟩
  have UR:k=3:=by have:=aG UR;omega
  subst UR;refine inc j ?_;intro I' w6 R;exact⟨(j+1,w6,_),⟨Pn,V.tr R.cZ,hE.rel R,Pm⟩,sbgn [] R,dec Pn⟩
 have Pn:=dE hj Pn;subst Pn
 refine⟨Nat×World×Iv,fun z=>⟨[(1,pP 0 0),(3,.o (.w 1 i)),(8,iN z.1)],[(1,.vec T.Lint 1 rv),(0,.box T.Frame [.v (.slice an f.nodes.length cn),.v (.slice ab f.bars.length cb),.v (.slice aq f.dB.length cq)])],2,z.2.2,z.2.1⟩,fun z=>f.dB.length-z.1,
  fun z=>z.1<=f.dB.length/\Bq w z.2.1/\im z.2.1 w.heap.size z.2.2 rv f.cols (fY f z.1)/\JV (fY f z.1) 2000000,?_,?_⟩
 .intro O J R;exact⟨(0,J,_),⟨aR _,V.tr R.cZ,hE.rel R,Pm⟩,sbgn [] R⟩
 clear V hE Pm hj;rintro⟨j,Y,iv⟩ ⟨hj,V,hE,Pm⟩;dsimp only at hj V hE Pm ⊢;apply bS<;>intro Pn
 .have Pn:=dL Pn;obtain⟨s,hs⟩:=gO f.dB j;obtain⟨hA,hB⟩:=Oz.sup s (aC hs);obtain⟨ks,XS⟩:=Int.eq_ofNat_of_zero_le (show 0<=3*s.1+s.2.1 by omega);have hMl:=pO f j;obtain⟨l,hl⟩:=gO (fY f j) ks;have hlw:=hE.wid l (aC hl);obtain⟨v,hv⟩:∃v,rv[ks]? =some v:=⟨_,aD (by rw[hE.len];omega)⟩
  obtain⟨a5,c5,rfl⟩:=hE.form hv;obtain⟨z0,PQ⟩:=gO l (f.bars.length+j);obtain⟨ad5,ha5,-,-⟩:=hE.load hv hl PQ;obtain⟨adb,Z,QV,hF,-,PW⟩:=hf.dB.load bi hs;obtain⟨g0,g1,g2,g3,g4,g5,g6,g7,rfl,hF⟩:=hF;refine dP (idO 24) ?_;refine⟨adb,QV,be,iV s.1,rdF (PW 0 _ rfl) V F,?_⟩;refine⟨3*s.1,wo,adb,QV,be,iV s.2.1,rdF (PW 1 _ rfl) V F,?_⟩;refine⟨((ks:Nat):Int),wo,by rw[PN,aZ],be,.slice a5 f.cols c5,by rw[aF,aZ];exact hv,((f.bars.length+j:Nat):Int),wo,ad5,ha5,be,?_⟩;intro O J r;obtain⟨g,X,I,G,h3,h4⟩:=hE.store r (z:=1) hv hl (show f.bars.length+j<f.cols by omega);rw[ha5]at X;injection X with X;subst X;refine⟨I,G,h3,fun w5 Qv=>?_⟩;obtain⟨k1,k2,k3,-,-⟩:=h4 w5 Qv;replace V:=(V.tr r.cZ).tr k2;have UO:=Pm.set (r:=ks) (c:=f.bars.length+j) (z:=1) (t2:=2000000) be hl be;rw[Io hs XS hl]at k1 UO;clear I G h3 h4 Qv k2 k3 r hE;refine inc j ?_;intro I' w6 R;exact⟨(j+1,w6,_),⟨Pn,V.tr R.cZ,k1.rel R,UO⟩,sbgn [] R,dec Pn⟩
 have Pn:=dE hj Pn;subst Pn;intro J8 we re;have Pb:=hE.rel re;have hMl:=pO f f.dB.length;have R0:=hE.len;refine⟨_,rfl,V.tr re.cZ,⟨rv,?_,hE.len,fun i u x k1 k2=>?_⟩,Pm⟩
 .rw[show (iW f).length=rv.length from hE.len.symm];have h5:=re.iD (id:=1) (sz:=1) (m:=rv.length) rfl bv mx bi hE.one;rw[show (i:Nat)=rv.length by omega];exact h5.cP fun g X=>.inr X
 .obtain⟨a,c,rfl⟩:=hE.form k1;have QM:=hE.wid x (aC k2);refine⟨by rw[QM];unfold maxLen;omega,bv,fun v hv=>by obtain⟨z,_,rfl⟩:=aV.1 hv;rfl,a,c,by rw[QM],?_,fun t v hv=>?_⟩
  .rw[QM];obtain⟨a2,c2,e,h⟩:=ie (hE.row i _ x k1 k2);injection e with e1 e2 e3;omega
  .rw[aO]at hv
   cases ht:x[t]? with
   |none=>rw[ht]at hv;cases hv
   |some z=>
    rw[ht]at hv;simp only[bw,Option.some.injEq]at hv;subst hv;obtain⟨ad,I,G,h3⟩:=Pb.load k1 k2 ht;exact⟨ad,I,Cv.nw G re,by rw[aZ]at h3;exact h3⟩
end
variable{M:List (List Int)}{l:List Int}{xs:List Value}{g:Nat}{S:Nat->Prop}{O:Nat->Sx.eG}{v:Value}
theorem yB{i:Nat}{z:Int}(h:l[i]? =some z):dQ (l.take (i+1))=dQ (l.take i)++[(z:Rat)]:=by rw[dQ,bB,h,a9];rfl
theorem HA{w:World}{B e sz n:Nat}(h:w.ownsRow B e sz v n xs):w.ownsRow 0 e sz v n xs:=⟨h.1,h.2.imp id fun⟨g,cap,cur,e1,_,rest⟩=>⟨g,cap,cur,e1,aR _,rest⟩⟩
theorem Cv.fin{H:Hp}{nx:Nat}{iv:Iv}{w0 w1 J:World}(X:Cf w0 iv g)(r:Rel H nx iv w0.heap.size w1 O J):Cf w0 [(w0.heap.size,J.heap.size)] g:=by
 rcases X with X|⟨I,lo,D,G,h3,h4⟩
 .exact X.elim
 .exact .inr ⟨I,_,_,bK.2 rfl,I,by have:=r.tI lo D G;have:=r.size;omega⟩
theorem Cv.new{w Y:World}(X:Cf w [(w.heap.size,Y.heap.size)] g):Nf w Y g:=by
 rcases X with X|⟨I,lo,D,G,h3,h4⟩
 .exact X.elim
 .simp at G;obtain⟨rfl,rfl⟩:=G;exact .inr ⟨h3,h4⟩
structure aDK(w:World)(B:Nat)(iv:Iv)(v:Value)(M:List (List Rat)):Prop where
 row:∃rv,w.ownsRow 0 T.gF 1 v M.length rv/\rv.length=M.length/\(∀u∈rv,u.oneCell'=true)/\∀(i:Nat) u x,rv[i]? =some u->M[i]? =some x->cX w (Bs FF B iv v) u x
 new:∀g,v.ownBlock=some g->Cv FF B iv g
section
variable{H:Hp}{nx:Nat}{iv N:Iv}{B:Nat}{w J Y:World}{O:Nat->Sx.eG}{v:Value}{M:List (List Rat)}
theorem aDK.c(h:aDK w B iv v M):dD w (Cv FF B iv) v M:=by
 obtain⟨⟨rv,I,G,h3,h4⟩,h5⟩:=h;refine⟨rv,?_,G,fun i u x k1 k2=>cX.cP (h4 i u x k1 k2) fun g X=>X.1⟩;rcases I.2 with⟨e,h0⟩|⟨g,cap,cur,e,_,hc,W,hm,hs,ht⟩
 .have:rv=[]:=List.eq_nil_of_length_eq_zero (by rw[G,h0]);subst this;rw[e,h0];exact⟨aR _,rfl,bv,none,0,rfl,lr,fun j u h=>by cases h⟩
 .subst e;refine⟨aX W hm,I.1,h3,_,cap,rfl,W,fun j u hu=>⟨_,rfl,h5 g rfl,?_⟩⟩;have:=I.cells (g:=g) rfl j u hu;exact this
end
theorem At.MF{id n:Nat}:((At.w id n).den O).oneCell'=true:=by
 cases h:(O id).nil<;>simp[At.den,h,Value.oneCell']
theorem aAr{w:World}(F:Old S w)(hM:oe w S v M)(hR:M.length<=1000)(W:∀l∈M,l.length<=1000)(hb:∀l∈M,∀z∈l,-1000000000<=z/\z<=1000000000):
  eH PG GT.vE #[v] w (eR w fun v' Y=>aDK Y w.heap.size [(w.heap.size,Y.heap.size)] v' (M.map dQ)):=by
 have V:=bR w;obtain⟨am,cm,rfl,-,Qr⟩:=dI.shape hM;unfold maxLen at Qr;refine Dr bv ?_
 refine⟨Nat×List Value×World×Iv,fun z=>⟨[(0,sV am M.length cm),(3,.o (.w 0 z.2.1.length)),(4,iN z.1)],[(0,.vec T.gF 1 z.2.1)],1,z.2.2.2,z.2.2.1⟩,fun z=>M.length-z.1,
  fun z=>z.1<=M.length/\Bq w z.2.2.1/\dZ z.2.2.1 (Cf w z.2.2.2) z.2.1 ((M.take z.1).map dQ),?_,?_⟩
 .intro O J r;exact⟨(0,[],J,[]),⟨aR _,V.tr r.cZ,by simp[dZ]⟩,Sub.nil 3 T.gF 1 rfl (by simp[kK,SV.sc,At.sc,fc]) r fun In r1=>sbgn [] r1⟩
 clear V;rintro⟨i,rv,w1,iv⟩ ⟨D,V,hK⟩;dsimp only at D V hK ⊢;have PN:rv.length=i:=by rw[hK.1,aL,ah];omega
 apply bS<;>intro Ou
 .have Ou:=dL Ou;obtain⟨l,hl⟩:=gO M i;have TK:=W l (aC hl);have PW:=hb l (aC hl);obtain⟨adm,um,S7,QZ,km1,km2⟩:=dI.load hM hl;obtain⟨al,cl,rfl,-,SA⟩:=QZ.shape
  refine⟨Nat×List (List Value)×World×Iv,fun z=>⟨[(0,sV am M.length cm),(3,.o (.w 0 rv.length)),(4,iN i),(5,.o (.w 1 z.2.1.length)),(6,iN z.1)],[(1,.vec T.Rat 4 z.2.1.flatten),(0,.vec T.gF 1 rv)],2,z.2.2.2,z.2.2.1⟩,fun z=>l.length-z.1,
   fun z=>z.1<=l.length/\Bq w z.2.2.1/\dZ z.2.2.1 (Cf w z.2.2.2) rv ((M.take i).map dQ)/\dq z.2.2.1 (Cf w z.2.2.2) z.2.1 (dQ (l.take z.1)),?_,?_⟩
  .intro O J r;exact⟨(0,[],J,_),⟨aR _,V.tr r.cZ,hK.rel r oF,dq.nil⟩,Sub.nil 5 T.Rat 4 rfl (by simp[kK,SV.sc,At.sc,fc]) r fun In r1=>sbgn [] r1⟩
  clear V hK;rintro⟨k,A,w3,iv⟩ ⟨K,V,hK,hG⟩;dsimp only at K V hK hG ⊢;have PM:=eP hG.four;have SG:A.length=k:=by rw[hG.len,dQ,aL,ah];omega
  refine⟨adm,S7,be,.slice al l.length cl,rd1 km2 V (F _ km1),?_⟩;apply bS<;>intro Ow
  .have Ow:=dL Ow;obtain⟨z,hz⟩:=gO l k;have Uy:=PW z (aC hz);obtain⟨adx,QU,hSx,Pq⟩:=DW.at QZ hz;refine⟨adm,S7,be,.slice al l.length cl,rd1 km2 V (F _ km1),adx,QU,be,iV z,rd1 Pq V (F _ hSx),?_⟩;refine cQ (cE V (pR cY (z:Rat)) (fun O J r=>jf z J be) ?_);rintro O _ _ _ PA r L V E W;replace hK:=hK.cS r oF L (mC E);replace hG:=hG.cS r oF L (mC E);have hd:=W.cP (nw r E);clear r W;obtain⟨A0,A1,A2,A3,A4,A5,A6,A7,rfl⟩:=hd.shape;have Rz:=hG.push (Z:=rC A0 A1 A2 A3 A4 A5 A6 A7) (q:=(z:Rat)) ⟨_,_,_,_,_,_,_,_,rfl,hd⟩ rfl;rw[<-yB hz]at Rz;have QI:A.flatten++(rC A0 A1 A2 A3 A4 A5 A6 A7:List Value)=(A++([rC A0 A1 A2 A3 A4 A5 A6 A7]:List (List Value))).flatten:=by simp
   refine .inl ?_;refine⟨be,be,mx,((k+1:Nat):Int),wo,?_⟩;intro I' w6 R;exact⟨(k+1,A++[rC A0 A1 A2 A3 A4 A5 A6 A7],w6,_),⟨Ow,V.tr R.cZ,hK.rel R oF,Rz.rel R oF⟩,sbgn [(1,3)] R ⟨by dsimp only;rw[<-QI];rfl,rfl,trivial⟩ ⟨rfl,rfl,rfl,by dsimp only;rw[l1];rfl,rfl,trivial⟩,dec Ow⟩
  have Ow:=dE K Ow;have Vz:dQ (l.take k)=dQ l:=by rw[Ow,bN]
  rw[Vz]at hG;refine mi hτ (id3:=2) (id2:=1) (tH:=[(0,.vec T.gF 1 rv)]) rfl rfl rfl rfl bv (by first|exact⟨rfl,trivial⟩|exact⟨rfl,rfl,trivial⟩) rfl rfl (fun O J r r2 TZ=>?_);have Ov:=dq.list ((hG.rel r oF).cP fun g X=>Cv.mono (N:=((O 2).g,(O 2).g+1)::kC (O 1) iv) X fun p hp=>aB _ (kx p hp)) ((r.Kl (id:=1) (sz:=4) (m:=A.length) rfl PM mx bi hG.one).cP fun g X=>Cv.mono X fun p hp=>aB _ hp);have PX:((At.w 1 A.length).den O).oneCell'=true:=At.MF;have SK:=r.low 2 _ rfl (r.fits (id:=2) rfl).1;have hC3:Cf w (((O 2).g,(O 2).g+1)::kC (O 1) iv) (O 2).g:=.inr ⟨SK.1,_,_,aH,lr,bc _⟩;have Q2:∀p,p∈iv->p∈((O 2).g,(O 2).g+1)::kC (O 1) iv:=fun p hp=>aB _ (kx p hp);have Pf:=V.tr r.cZ;have hK1:=(hK.rel r oF).cP fun g X=>Cv.mono X Q2;clear r2 SK;generalize (At.w 1 A.length).den O=ur at*
  generalize (O 2).g=gy at*
  generalize (gy,gy+1)::kC (O 1) iv=Oy at*
  refine⟨[ur],rfl,by simpa using PX,fun If Y r2 _=>⟨_,rfl,fun j u hu=>?_⟩,?_⟩
  .have h5:=rls r2 (dV _) hC3;rw[dX,cell_of (h5.trans TZ)];rcases j with _|j
   .exact hu
   .cases hu
  refine⟨bv,be,mx,?_⟩;have R1:=hK1.push PX Ov;rw[show (M.take i).map dQ++[dQ l]=(M.take (i+1)).map dQ by rw[bB,hl];simp]at R1;refine inc i ?_;intro I' w6 R;exact⟨(i+1,rv++[ur],w6,_),⟨Ou,Pf.tr R.cZ,R1.rel R oF⟩,sbgn [(0,3)] R (hE:=⟨rfl,by dsimp only;rw[l1];rfl,rfl,trivial⟩),dec Ou⟩
 have Ou:=dE D Ou;rw[show (M.take i).map dQ=M.map dQ by rw[Ou,bN]]at hK;intro J8 we re;refine⟨_,rfl,V.tr re.cZ,⟨rv,by rw[<-hK.1];exact HA (B9 re (id:=0) rfl bv bi),hK.1,hK.2.1,fun i u x k1 k2=>cX.cP (cX.cR (hK.2.2 i u x k1 k2) fun g X=>rls re oF X) fun g X=>⟨X.fin re,fun e=>Rel.not re oF X 0 _ rfl (FR e).1 (FR e).2⟩⟩,fun g e=>?_⟩;have hl:=re.low 0 _ rfl (FR e).1;rw[(FR e).2]at hl;exact .inr ⟨hl.1,_,_,bK.2 rfl,hl.1,hl.2⟩
theorem aCG{w:World}(F:Old S w)(hM:oe w S v M)(hR:M.length<=1000)(W:∀l∈M,l.length<=1000)(hb:∀l∈M,∀z∈l,-1000000000<=z/\z<=1000000000):
  eH PG GT.vE #[v] w (eR w fun v' Y=>dD Y (Nf w Y) v' (M.map dQ)):=
 (aAr F hM hR W hb).mono fun _ _ ⟨v2,e1,e2,e3⟩=>⟨v2,e1,e2,dD.cP e3.c fun _ X=>X.new⟩
end Go.Ex
namespace Go.Ex
variable{s:Int×Int×Rat}{M:List (List Rat)}{fl x:List Rat}{n t:Nat}{u y z:Nat->Rat}{f:eh}
theorem aBi{M:List (List Int)}{r c:Nat}:dF (M.map dQ) r c=((ez M r c:Int):Rat):=by
 have key:∀l:List Int,(dQ l).getD c 0=((l.getD c 0:Int):Rat):=fun l=>by
  rw[dQ,List.getD,List.getD,aO]
  cases l[c]? <;>rfl
 unfold dF ez;rw[<-key];congr 1;rw[List.getD,List.getD,aO]
 cases M[r]? <;>rfl
theorem nB(f:eh)(r c:Nat):dF (c9 f) r c=((ez (iW f) r c:Int):Rat):=aBi
def Wid(n:Nat)(M:List (List Int)):Prop:=∀l∈M,l.length=n
theorem Wid.put{r c:Nat}{d:Int}{M:List (List Int)}(h:Wid n M):Wid n (putAt M r c d):=fun l hl=>by
 unfold putAt at hl;rcases aS r M.length with hr|hr
 .rcases bE hl with hl|rfl
  .exact h l hl
  .rw[bj,List.getD,aD hr];exact h _ (bA hr)
 .rw[List.set_eq_of_length_le hr]at hl;exact h l hl
theorem y9{f:eh}{M:List (List Int)}{n i:Nat}(h:Wid n M):∀k,Wid n (eo f M i k)
 |0=>h
 |k+1=>by rw[eo];rw[gZ,gZ];exact((y9 h k).put).put
theorem uz(f:eh):∀i,Wid f.cols (dx f i)
 |0=>fun l hl=>by rw[dx]at hl;rw[bW hl,bD]
 |i+1=>by rw[dx];exact y9 (uz f i) 3
theorem lH(f:eh):∀i,Wid f.cols (fY f i)
 |0=>uz f _
 |i+1=>by rw[fY];exact(lH f i).put
theorem mU(M:List (List Int))(r c:Nat)(d:Int):(putAt M r c d).length=M.length:=bj ..
theorem qG(f:eh)(M:List (List Int))(i:Nat):∀k,(eo f M i k).length=M.length
 |0=>rfl
 |k+1=>by rw[eo];rw[gZ,gZ,mU,mU];exact qG f M i k
theorem oX(f:eh):∀i,(dx f i).length=3*f.nodes.length
 |0=>bD ..
 |i+1=>by rw[dx,qG];exact oX f i
theorem lP(f:eh):∀i,(fY f i).length=3*f.nodes.length
 |0=>oX f _
 |i+1=>by rw[fY,mU];exact lP f i
theorem gE(f:eh):fz f.cols (c9 f):=fun r hr=>by
 obtain⟨l,hl,rfl⟩:=aV.1 hr;rw[dQ,aL];exact lH f _ l hl
theorem gl(f:eh):(c9 f).length=3*f.nodes.length:=by rw[c9,aL];exact lP f _
structure FrV(f:eh):Prop where
 co:∀p∈f.nodes,(-1000000<=p.1/\p.1<=1000000)/\(-1000000<=p.2.1/\p.2.1<=1000000)/\(-1000000<=p.2.2/\p.2.2<=1000000)
 IG:∀b∈f.bars,∃ka kb:Nat,b.1=ka/\b.2.1=kb/\ka<f.nodes.length/\kb<f.nodes.length/\ka≠kb/\0<b.2.2
 sup:∀s∈f.dB,eD s<3*f.nodes.length/\0<=s.2.2
 one:∀(i j:Nat) s t,f.dB[i]? =some s->f.dB[j]? =some t->eD s=eD t->i=j
 n:f.nodes.length<=20
 b:f.bars.length<=60
 s:f.dB.length<=60
theorem GD{α:Type}{l:List α}{x:α}(h:x∈l):∃i:Nat,l[i]? =some x:=by
 obtain⟨i,D,rfl⟩:=List.mem_iff_getElem.1 h;exact⟨i,aD D⟩
theorem Ju(h:eW f=0):FrV f:=by
 have Oz:=lQ h;obtain⟨⟨I,G,h3⟩,h4,h5,h6⟩:=ya h;have XZ:∀(k:Nat) s,f.dB[k]? =some s->jw f.nodes.length s.1/\(0<=s.2.1/\s.2.1<=2)/\j7 s∉(f.dB.take k).map j7/\0<=s.2.2:=fun k s hs=>tV.1 (j8 h6 k s hs);have Ov:∀(k:Nat) s,f.dB[k]? =some s->(eD s:Int)=3*s.1+s.2.1/\eD s<3*f.nodes.length:=fun k s hs=>by
  obtain⟨⟨a1,a2⟩,⟨a3,a4⟩,-,-⟩:=XZ k s hs;unfold eD;omega
 have lt:∀(i j:Nat) s t,i<j->f.dB[i]? =some s->f.dB[j]? =some t->eD s≠eD t:=fun i j s t Py hs ht e=>by
  obtain⟨⟨a1,a2⟩,⟨a3,a4⟩,-,-⟩:=XZ i s hs;obtain⟨⟨b1,b2⟩,⟨b3,b4⟩,b5,-⟩:=XZ j t ht;have e1:=(Ov i s hs).1;have e2:=(Ov j t ht).1;refine b5 (aV.2 ⟨s,aC (i:=i) (by rw[bo Py];exact hs),?_⟩);exact Prod.ext (by show s.1=t.1;omega) (by show s.2.1=t.2.1;omega)
 refine⟨Oz.co,fun b hb=>?_,fun s hs=>?_,fun i j s t hs ht e=>?_,I,G,h3⟩
 .obtain⟨k,K⟩:=GD hb;obtain⟨⟨⟨a1,a2⟩,a3,a4⟩,a5,-,a6⟩:=oy.1 (j8 h5 k b K);exact⟨b.1.toNat,b.2.1.toNat,be,be,be,be,be,a6⟩
 .obtain⟨k,K⟩:=GD hs;exact⟨(Ov k s K).2,(XZ k s K).2.2.2⟩
 .rcases cH i j with h7|h7|h7
  .exact absurd e (lt i j s t h7 hs ht)
  .exact h7
  .exact absurd e.symm (lt j i t s h7 ht hs)
theorem IH(M:List (List Int))(r c r' c':Nat)(d:Int):ez (putAt M r c d) r' c'=d\/ez (putAt M r c d) r' c'=ez M r' c':=by
 by_cases h:r'=r/\c'=c
 .obtain⟨rfl,rfl⟩:=h;rcases aS r' M.length with I|I
  .rcases aS c' (M.getD r' []).length with G|G
   .exact .inl (wi I G)
   .refine .inr ?_;unfold ez putAt;rw[j6 I,List.set_eq_of_length_le G]
  .refine .inr ?_;unfold ez putAt;rw[List.set_eq_of_length_le I]
 .exact .inr (iX (by
   by_cases I:r'=r
   .exact .inr fun G=>h ⟨I,G⟩
   .exact .inl I))
theorem II{k:Nat}(K:k<f.nodes.length):f.node (k:Int)∈f.nodes:=by
 rw[eh.node,aF,List.getD,aD K];exact bA K
section
variable{f:eh}(h:FrV f)
include h
theorem FrV.dif{b:Int×Int×Rat}(hb:b∈f.bars)(k:Nat): -2000000<=(j5 f b).getD k 0/\(j5 f b).getD k 0<=2000000:=by
 obtain⟨ka,kb,ea,eb,Up,Ow,-,-⟩:=h.IG b hb;obtain⟨⟨a1,a2⟩,⟨a3,a4⟩,a5,a6⟩:=h.co _ (II Up);obtain⟨⟨b1,b2⟩,⟨b3,b4⟩,b5,b6⟩:=h.co _ (II Ow);rw[j5,ea,eb]
 match k with
 |0=>simp[List.getD];omega
 |1=>simp[List.getD];omega
 |2=>simp[List.getD];omega
 |k+3=>simp[List.getD]
theorem FrV.IJ{i:Nat}{b:Int×Int×Rat}(hb:f.bars[i]? =some b)(r:Nat):∀k,k<=3-> -2000000<=ez (eo f (dx f i) i k) r i/\ez (eo f (dx f i) i k) r i<=2000000
 |0,_=>by
  have:=l9 f (r:=r) i (aP i);rw[eo,this];omega
 |k+1,K=>by
  obtain⟨ka,kb,ea,eb,-,-,Ox,-⟩:=h.IG b (aC hb);have ih:=FrV.IJ hb r k be;have hd:=h.dif (aC hb) k;have z1:=qF (r:=3*ka+k) hb ea eb (show k<=3 by omega) be;have z2:=qF (r:=3*kb+k) hb ea eb (show k<=3 by omega) be;rw[eo];rw[jm hb,toNat_add ea,toNat_add eb,gZ,gZ,z1,iX (r':=3*kb+k) (.inl be),z2];rcases IH (putAt (eo f (dx f i) i k) (3*ka+k) i (0+(j5 f b).getD k 0)) (3*kb+k) i r i (0+ -(j5 f b).getD k 0)with e|e
  .rw[e];omega
  .rw[e];rcases IH (eo f (dx f i) i k) (3*ka+k) i r i (0+(j5 f b).getD k 0)with e|e
   .rw[e];omega
   .rw[e];exact ih
theorem FrV.L0{i r:Nat}(D:i<f.bars.length):∀j,i<j->j<=f.bars.length-> -2000000<=ez (dx f j) r i/\ez (dx f j) r i<=2000000
 |0,I,_=>by omega
 |j+1,I,G=>by
  rw[dx];rcases aS i j with h3|h3
  .rw[tU be];exact FrV.L0 D j h3 be
  .rw[show j=i by omega];exact h.IJ (aD D) r 3 (aP _)
theorem FrV.oY{r i:Nat}(hs:f.dB[i]? =some s):ez (iW f) r (f.bars.length+i)=if r=eD s then 1 else 0:=
 Em (lH f) (lP f) (fun s hs=>(h.sup s hs).1) hs _ (aE.1 hs).1
theorem FrV.aCu(r c:Nat): -2000000<=ez (iW f) r c/\ez (iW f) r c<=2000000:=by
 rcases aS c f.bars.length with hc|hc
 .rw[iW,uy hc];exact h.L0 hc _ hc (aP _)
 .rcases aS c f.cols with I|I
  .obtain⟨i,rfl⟩:∃i,c=f.bars.length+i:=⟨c-f.bars.length,be⟩
   rw[eh.cols]at I;rw[h.oY (aD (show i<f.dB.length by omega))];split<;>omega
  .have:ez (iW f) r c=0:=by
    unfold ez;rw[List.getD,List.getElem?_eq_none]
    .rfl
    .rcases aS r (iW f).length with G|G
     .rw[List.getD,aD G];show((iW f)[r]).length<=c;rw[lH f _ _ (bA G)];exact I
     .rw[List.getD,List.getElem?_eq_none G];exact aR _
   rw[this];omega
theorem FrV.qH(r c:Nat):Ib 2000000 (dF (c9 f) r c):=by
 rw[nB];have:=h.aCu r c;exact Ib.int be
theorem FrV.mV:GA (c9 f) f.cols 2000000:=fun j _=>⟨1,bi,Ib.one bi,fun t _=>by rw[bs];exact h.qH j t⟩
theorem FrV.only{x:Nat->Rat}(U:∀j,j<(c9 f).length->mulR (c9 f) f.cols x j=0)(h0:∀t,t<f.bars.length->x t=0):∀t,t<f.cols->x t=0:=fun t ht=>by
 rcases aS t f.bars.length with I|I
 .exact h0 t I
 .obtain⟨i,rfl⟩:∃i,t=f.bars.length+i:=⟨t-f.bars.length,be⟩
  have D:i<f.dB.length:=by unfold eh.cols at ht;omega
  have hs:=aD D;have hr:=h.sup _ (bA D);have G:=U (eD f.dB[i]) (by rw[gl];exact hr.1);unfold mulR at G;rw[ed ht fun k K Ox=>?_,nB,h.oY hs,aM rfl]at G
  .have e:((1:Int):Rat)*x (f.bars.length+i)=x (f.bars.length+i):=bs _
   rwa [e]at G
  .rcases aS k f.bars.length with h3|h3
   .rw[h0 k h3,bF]
   .obtain⟨i',rfl⟩:∃i,k=f.bars.length+i:=⟨k-f.bars.length,be⟩
    have UX:i'<f.dB.length:=by unfold eh.cols at K;omega
    have VM:=aD UX;rw[nB,h.oY VM,aJ fun e=>Ox (by rw[h.one i i' _ _ hs VM e])];exact bI _
theorem FrV.IK(ht:t<f.bars.length):0<(dM f).getD t 0:=by
 obtain⟨_,_,_,_,_,_,_,I⟩:=h.IG _ (bA ht);rw[dM,List.getD,aI (by rw[aL];exact ht),aO,aD ht];exact I
theorem FrV.rn(t:Nat):0<=(dM f).getD t 0:=by
 rw[List.getD]
 cases ht:(dM f)[t]? with
 |none=>exact Rat.le_refl
 |some q=>
  show 0<=q;have hm:=aC ht;rcases bG.1 hm with hm|hm
  .obtain⟨b,hb,rfl⟩:=aV.1 hm;obtain⟨_,_,_,_,_,_,_,I⟩:=h.IG b hb;exact Rat.le_of_lt I
  .obtain⟨s,hs,rfl⟩:=aV.1 hm;exact(h.sup s hs).2
theorem FrV.aBj:GC (c9 f) f.cols fun t=>(dM f).getD t 0:=by
 refine⟨gE f,fun t _=>h.rn t,fun x U h0=>h.only U fun t ht=>?_⟩;have I:=rb (f:=fun t=>(dM f).getD t 0*(x t*x t)) (n:=f.cols) (fun k _=>Rat.mul_nonneg (h.rn k) (sq_nonneg _)) (by rw[h0];exact Rat.le_refl) t (by unfold eh.cols;omega);have G:=h.IK ht;rcases Rat.mul_eq_zero.1 I with h3|h3
 .rw[h3]at G;exact absurd G (Rat.lt_irrefl)
 .rcases Rat.mul_eq_zero.1 h3 with h4|h4<;>exact h4
end
theorem lI(f:Nat->Rat)(a:Nat):∀b,dC f (a+b)=dC f a+dC (fun k=>f (a+k)) b
 |0=>(bV _).symm
 |b+1=>by rw[show a+(b+1)=a+b+1 by omega,dC,dC,lI f a b,Rat.add_assoc]
theorem yb{k:Nat}(K:k<n):(eA M n).getD k []=M.map fun r=>r.getD k 0:=by
 unfold eA;exact getD_some (by rw[aO,bY K];rfl)
theorem lf{k i:Nat}(K:k<n):dF (eA M n) k i=dF M i k:=by
 rw[dF,dF,yb K];rcases aS i M.length with h|h
 .have hr:=aD h;rw[getD_some (show (M.map fun r=>r.getD k 0)[i]? =some (M[i].getD k 0) by rw[aO,hr];rfl),getD_some hr]
 .rw[jL (by rw[aL];exact h),show M.getD i []=[] by rw[List.getD,List.getElem?_eq_none h];rfl];rfl
theorem ga(M:List (List Rat))(n:Nat):fz M.length (eA M n):=fun r hr=>by
 obtain⟨k,_,rfl⟩:=aV.1 hr;exact aL ..
theorem eK(M:List (List Rat))(n:Nat):(eA M n).length=n:=by simp[eA]
theorem IL(hM:fz n M):eA (eA M n) M.length=M:=by
 refine gW [] (eK _ _) fun i D=>?_;rw[eK]at D;have hr:=hM.getD D;refine gW 0 (by rw[yb D,aL,eK,hr]) fun t ht=>?_;rw[yb D,aL,eK]at ht;have:=lf (M:=eA M n) (n:=M.length) (i:=t) D;rw[lf ht]at this;exact this
abbrev kM(M:List (List Rat))(n:Nat):Nat:=(cW M n).2.length
section
variable{M:List (List Rat)}{n:Nat}
theorem Mm(hM:fz n M){C9:Mx}{r:Nat}(h:∀j,j<M.length->ef C9 r n (dF M j)):kM M n<=r:=by
 obtain⟨r1,r2,R,r4,r5⟩:=di hM n (aP _);have hl:=eC M n;have Xa:kM M n=(cW M n).2.length:=rfl;have hB:∀i,∃c:Nat->Rat,i<kM M n->∀t,t<n->dF (cW M n).1 i t=dC (fun k=>c k*C9 k t) r:=fun i=>by
  by_cases D:i<kM M n
  .obtain⟨c,hc⟩:=((kF hM n (aP _)).1 i be).trans h;exact⟨c,fun _=>hc⟩
  .exact⟨fun _=>0,fun h=>absurd h D⟩
 obtain⟨Fd,hD⟩:∃Fd:Nat->Nat->Rat,∀i,i<kM M n->∀t,t<n->dF (cW M n).1 i t=dC (fun k=>Fd i k*C9 k t) r:=⟨fun i=>(hB i).choose,fun i=>(hB i).choose_spec⟩
 refine Nat.le_of_not_lt fun PY=>?_;obtain⟨T,hT⟩:∃T:List (List Rat),T=(List.range r).map fun k=>(List.range (kM M n)).map fun i=>Fd i k:=⟨_,rfl⟩
 have hTl:T.length=r:=by rw[hT];simp
 have hTn:fz (kM M n) T:=fun x U=>by
  rw[hT]at U;obtain⟨k,_,rfl⟩:=aV.1 U;simp
 have hTat:∀k i,k<r->i<kM M n->dF T k i=Fd i k:=fun k i K D=>by
  have I:T[k]? =some ((List.range (kM M n)).map fun i=>Fd i k):=by rw[hT,aO,bY K];rfl
  rw[dF,getD_some I];exact getD_some (by rw[aO,bY D];rfl)
 obtain⟨-,t2,-⟩:=di hTn (kM M n) (aP _);have YR:=l8 T (kM M n);rw[eC,hTl]at t2;have hc:=uv hTn;have Sc:0<(dJ T (kM M n)).length:=by omega
 have hy:=rh hTn Sc;have RA:∀i,i<kM M n->dF (dJ T (kM M n)) 0 i=0:=fun j hj=>by
  have hpj:(cW M n).2.getD j 0<n:=r4 _ (by rw[List.getD,aD hj];exact bA _);have e1:dC (fun i=>dF (dJ T (kM M n)) 0 i*dF (cW M n).1 i ((cW M n).2.getD j 0)) (kM M n)=0:=by
   rw[cT (g:=fun i=>dC (fun k=>dF (dJ T (kM M n)) 0 i*(Fd i k*C9 k ((cW M n).2.getD j 0))) r) fun i D=>by rw[hD i D _ hpj,ec],k8,cT (g:=fun _=>0) fun k K=>?_,df];have G:=hy k be;unfold mulR at G;rw[cT (g:=fun i=>(dF T k i*dF (dJ T (kM M n)) 0 i)*C9 k ((cW M n).2.getD j 0)) fun i D=>by rw[hTat k i K D];grind,jT,G,bI]
  rw[ed hj fun i D Ox=>by rw[r5 j i hj be,aJ Ox,bF],r5 j j hj be,aM rfl,Rat.mul_one]at e1;exact e1
 have h3:=GB (M:=T) (n:=kM M n) (c:=fun k=>if k=0 then 1 else 0) (fun t ht=>by
  rw[ed Sc fun k _ Ox=>by rw[aJ Ox,bI],aM rfl,bs]
  exact RA t ht) 0 Sc
 exact absurd h3 bi
theorem uA(hM:fz n M):kM (eA M n) M.length<=kM M n:=by
 obtain⟨r1,r2,R,r4,r5⟩:=di hM n (aP _);have hl:=eC M n;have Xa:kM M n=(cW M n).2.length:=rfl;have hrf:=By hM;refine Mm (ga M n) (C9:=fun i j=>dF M j ((cW M n).2.getD i 0)) fun t ht=>?_;rw[eK]at ht;refine⟨fun i=>dF (cW M n).1 i t,fun j hj=>?_⟩;rw[lf ht];have I:ef (dF (cW M n).1) (kM M n) n (dF M j):=((kF hM n (aP _)).2 j hj).cut fun i t I G ht=>R i t I be ht;rw[hrf.coeff I t ht];exact cT fun i _=>cB _ _
theorem CO(hM:fz n M):kM (eA M n) M.length=kM M n:=by
 refine Nat.le_antisymm (uA hM) ?_;have h:=uA (ga M n);rw[eK,IL hM]at h;exact h
theorem IM(hM:fz n M)(hr:kM M n=M.length):Fy (dF M) M.length n:=by
 obtain⟨r1,r2,R,r4,r5⟩:=di hM n (aP _);have hl:=eC M n;have Xa:kM M n=(cW M n).2.length:=rfl;refine(z5 hM n (aP _)).1 fun x U j hj=>?_;have hj2:j<(cW M n).2.length:=by omega
 have hpj:(cW M n).2.getD j 0<n:=r4 _ (by rw[List.getD,aD hj2];exact bA _);have I:=U _ hpj;rw[ed hj fun i D Ox=>by rw[r5 j i hj2 be,aJ Ox,bF],r5 j j hj2 be,aM rfl,Rat.mul_one]at I;exact I
theorem En{k:Nat}(K:k<n):mulR (eA M n) M.length y k=dC (fun i=>dF M i k*y i) M.length:=cT fun i _=>by rw[lf K]
def kv(M:List (List Rat))(n:Nat)(fl:List Rat):List (List Rat):=(M.map fun r=>List.replicate M.length 0++r)++(List.range n).map fun j=>(M.map fun r=>r.getD j 0)++(List.replicate n 0).set j (fl.getD j 0)
theorem jn(fl:List Rat):(kv M n fl).length=M.length+n:=by unfold kv;rw[aQ,aL,aL,List.length_range]
theorem tW(hM:fz n M)(fl:List Rat):fz (M.length+n) (kv M n fl):=fun r hr=>by
 rcases bG.1 hr with hr|hr
 .obtain⟨x,U,rfl⟩:=aV.1 hr;rw[aQ,bD,hM x U]
 .obtain⟨x,U,rfl⟩:=aV.1 hr;rw[aQ,aL,bj,bD]
theorem GF{i:Nat}(D:i<M.length):(t<M.length->dF (kv M n fl) i t=0)/\dF (kv M n fl) i (M.length+t)=dF M i t:=by
 have hr:=aD D;have h:(kv M n fl)[i]? =some (List.replicate M.length 0++M[i]):=by
  unfold kv;rw[aI (by rw[aL];exact D),aO,hr];rfl
 refine⟨fun ht=>?_,?_⟩
 .rw[dF,getD_some h];exact getD_some (by rw[aI (by rw[bD];exact ht),List.getElem?_replicate,aM ht])
 .rw[dF,dF,getD_some h,getD_some hr,List.getD,List.getD,aN (by rw[bD];exact Nat.le_add_right _ _),bD,Nat.add_sub_cancel_left]
theorem CP{j:Nat}(hj:j<n):(t<M.length->dF (kv M n fl) (M.length+j) t=dF M t j)/\(t<n->dF (kv M n fl) (M.length+j) (M.length+t)=if t=j then fl.getD j 0 else 0):=by
 have h:(kv M n fl)[M.length+j]? =some ((M.map fun r=>r.getD j 0)++(List.replicate n 0).set j (fl.getD j 0)):=by
  unfold kv;rw[aN (by rw[aL];exact Nat.le_add_right _ _),aL,Nat.add_sub_cancel_left,aO,bY hj];rfl
 refine⟨fun ht=>?_,fun ht=>?_⟩
 .have hr:=aD ht;rw[dF,dF,getD_some h,getD_some hr];exact getD_some (by rw[aI (by rw[aL];exact ht),aO,hr];rfl)
 .rw[dF,getD_some h];by_cases e:t=j
  .subst e;rw[aM rfl];exact getD_some (by rw[aN (by rw[aL];exact Nat.le_add_right _ _),aL,Nat.add_sub_cancel_left,aT (by rw[bD];exact ht)])
  .rw[aJ e];exact getD_some (by rw[aN (by rw[aL];exact Nat.le_add_right _ _),aL,Nat.add_sub_cancel_left,aY (Ne.symm e),List.getElem?_replicate,aM ht])
theorem Eo{i:Nat}(D:i<M.length):mulR (kv M n fl) (M.length+n) z i=mulR M n (fun t=>z (M.length+t)) i:=by
 unfold mulR;rw[lI,cT (g:=fun _=>0) fun t ht=>by rw[(GF D).1 ht,bI],df,Rat.zero_add];exact cT fun t _=>by rw[(GF D).2]
theorem Ep{j:Nat}(hj:j<n):mulR (kv M n fl) (M.length+n) z (M.length+j)=dC (fun i=>dF M i j*z i) M.length+fl.getD j 0*z (M.length+j):=by
 unfold mulR;rw[lI,cT fun t ht=>by rw[(CP hj).1 ht]];congr 1;rw[ed hj fun t ht Ox=>by rw[(CP hj).2 ht,aJ Ox,bI],(CP hj).2 hj,aM rfl]
theorem Mn(h:∀j,j<M.length->mulR M n y j=0):dC (fun t=>y t*dC (fun i=>dF M i t*u i) M.length) n=0:=by
 rw[cT (g:=fun t=>dC (fun i=>y t*(dF M i t*u i)) M.length) fun t _=>by rw[ec],k8,cT (g:=fun _=>0) fun i D=>?_,df];have I:=h i D;unfold mulR at I;rw[cT (g:=fun t=>dF M i t*y t*u i) fun t _=>by grind,jT,I,bI]
end
section
variable{M:List (List Rat)}{n:Nat}{fl b:List Rat}
theorem nA.aD2(hM:fz n M)(h:nA M n (fun t=>fl.getD t 0) b x):∃u,iB (eA M n) (eI (fu x fl) (-1)) M.length=some u:=by
 cases e:iB (eA M n) (eI (fu x fl) (-1)) M.length with
 |some u=>exact⟨u,rfl⟩
 |none=>
  obtain⟨y,y1,y2⟩:=qB (ga M n) e;rw[eK]at y1 y2;refine absurd ?_ y2;have TJ:∀j,j<M.length->mulR M n y j=0:=fun j hj=>Eq.trans (cT fun t ht=>by rw[lf ht,cB]) (y1 j hj);obtain⟨c,hc⟩:=LW hM TJ;have hb:∀t,t<n->(eI (fu x fl) (-1)).getD t 0= -(fl.getD t 0*x.getD t 0):=fun t ht=>by
   have I:=ox (a:=x) (b:=fl) (t:=t) (by rw[h.len];exact ht);have hl:t<(fu x fl).length:=by rw[fu,List.length_mapIdx,h.len];exact ht
   rw[getD_some (aD hl)]at I;rw[getD_some (show (eI (fu x fl) (-1))[t]? =some ((fu x fl)[t]* -1) by rw[eI,aO,aD hl];rfl),I];grind
  have e1:dC (fun t=>y t*(eI (fu x fl) (-1)).getD t 0) n= -(yX (fun t=>fl.getD t 0) (fun t=>x.getD t 0) y n):=by
   unfold yX;rw[<-ov];exact cT fun t ht=>by rw[hb t ht];grind
  rw[e1,yY (x':=fun t=>x.getD t 0) (fun _ _=>rfl) hc,wh,cT (g:=fun _=>0) fun k K=>by rw[wZ,h.st k K,bF],df];rfl
theorem CQ(x fl:List Rat){n:Nat}(U:x.length=n)(ht:t<n):(eI (fu x fl) (-1)).getD t 0= -(fl.getD t 0*x.getD t 0):=by
 have I:=ox (a:=x) (b:=fl) (t:=t) (by rw[U];exact ht);have hl:t<(fu x fl).length:=by rw[fu,List.length_mapIdx,U];exact ht
 rw[getD_some (aD hl)]at I;rw[getD_some (show (eI (fu x fl) (-1))[t]? =some ((fu x fl)[t]* -1) by rw[eI,aO,aD hl];rfl),I];grind
theorem aAB(hM:fz n M){u:List Rat}(hb:b.length=M.length)(h:nA M n (fun t=>fl.getD t 0) b x)(hu:iB (eA M n) (eI (fu x fl) (-1)) M.length=some u):
  (u++x).length=M.length+n/\∀j,j<(kv M n fl).length->mulR (kv M n fl) (M.length+n) (fun t=>(u++x).getD t 0) j=(b++yZ n).getD j 0:=by
 obtain⟨u1,u2⟩:=my (ga M n) hu;rw[eK]at u2;have ha:∀t,t<M.length->(u++x).getD t 0=u.getD t 0:=fun t ht=>by rw[List.getD,aI be,<-List.getD]
 have hc:∀t,(u++x).getD (M.length+t) 0=x.getD t 0:=fun t=>by rw[List.getD,aN be,u1,Nat.add_sub_cancel_left,<-List.getD]
 refine⟨by rw[aQ,u1,h.len],fun j hj=>?_⟩;rw[jn]at hj;rw[rk];rcases aS j M.length with I|I
 .rw[Eo I,uw (y:=fun t=>x.getD t 0) fun t _=>hc t];exact h.eq j I
 .obtain⟨k,rfl⟩:∃k,j=M.length+k:=⟨j-M.length,be⟩
  have K:k<n:=by omega
  rw[Ep K,hc,jL (l:=b) be,cT (g:=fun i=>dF M i k*u.getD i 0) fun i D=>by rw[ha i D]];have G:=u2 k K;rw[En K,CQ x fl h.len K]at G;rw[G];grind
theorem aAC(hM:fz n M){z:List Rat}(hb:b.length=M.length)(hz:iB (kv M n fl) (b++yZ n) (M.length+n)=some z):nA M n (fun t=>fl.getD t 0) b (z.drop M.length):=by
 obtain⟨z1,z2⟩:=my (tW hM fl) hz;have hd:∀t,(z.drop M.length).getD t 0=z.getD (M.length+t) 0:=fun t=>by rw[List.getD,List.getD,cF]
 refine⟨by rw[List.length_drop,z1];omega,fun j hj=>?_,fun k K=>?_⟩
 .have I:=z2 j (by rw[jn];omega);rw[Eo hj,rk]at I;rw[<-I];exact uw (fun t _=>hd t) j
 .have h0:=Mn (u:=fun i=>z.getD i 0) (rh hM K);unfold yX;have e:dC (fun t=>fl.getD t 0*(dF (dJ M n) k t*(z.drop M.length).getD t 0)) n= -dC (fun t=>dF (dJ M n) k t*dC (fun i=>dF M i t*z.getD i 0) M.length) n:=by
   rw[<-ov];refine cT fun t ht=>?_;have I:=z2 (M.length+t) (by rw[jn];omega);rw[Ep ht,rk,jL (l:=b) be]at I;rw[hd];grind
  rw[e,h0];rfl
theorem Mo(hM:fz n M)(hr:kM M n=M.length):∃x,iB M b n=some x:=by
 cases e:iB M b n with
 |some x=>exact⟨x,rfl⟩
 |none=>
  obtain⟨y,y1,y2⟩:=qB hM e;have:=IM hM hr y y1;exact absurd (by rw[cT (g:=fun _=>0) fun j hj=>by rw[this j hj,bI],df]) y2
end
end Go.Ex
namespace Go.Ex
open Go Go.Sx Go.Proofs
variable{S:Nat->Prop}
section
variable{S S':Nat->Prop}{H:Hp}{nx:Nat}{iv N:Iv}{B:Nat}{w J Y:World}{O:Nat->Sx.eG}{v:Value}{M:List (List Int)}
theorem oe.rel(h:oe w (Cv S B iv) v M)(r:Rel H nx iv B w O J)(F:∀g,S g->g<B):oe J (Cv S B iv) v M:=oe.cR h fun _ X=>rls r F X
theorem oe.cS(h:oe w (Cv S B iv) v M)(r:Rel H nx iv B w O J)(F:∀g,S g->g<B)(L:Ext J Y)(hm:∀p,p∈iv->p∈N):oe Y (Cv S B N) v M:=
 oe.cP ((oe.rel h r F).cR fun g X=>L.block g (rlo r F g X)) fun _ X=>X.mono hm
theorem oe.iR(h:oe Y (Nf J Y) v M)(hB:B<=J.heap.size)(hm:(J.heap.size,Y.heap.size)∈iv):oe Y (Cv S B iv) v M:=oe.cP h fun _ X=>X.iR hB hm
end
theorem Km(F9:List (List Int))(k:Nat):dQ (F9.map fun l=>l.getD k 0)=(F9.map dQ).map fun r=>r.getD k 0:=by
 rw[dQ,List.map_map,List.map_map];refine List.map_congr_left fun l _=>?_;show((l.getD k 0:Int):Rat)=(dQ l).getD k 0;rw[dQ,List.getD,List.getD,aO]
 cases l[k]? <;>rfl
theorem Iz(M:List (List Rat))(k:Nat):eA M k++[M.map fun r=>r.getD k 0]=eA M (k+1):=by
 rw[eA,eA,bU,a9];rfl
theorem Nd{w:World}{vn vb vs:Value}{f:eh}(F:Old S w)(hf:dw w S vn vb vs f)(PJ:eW f=0):
  eH PG GT.xI #[.agg #[vn,vb,vs]] w (eR w fun v' Y=>dD Y (Nf w Y) v' (eA (c9 f) f.cols)):=by
 have V:=bR w;have hv:=Ju PJ;obtain⟨an,cn,ab,cb,aq,cq,rfl,rfl,rfl,R4,RY,SX⟩:=hf.shape;obtain⟨Vk,UN,TY⟩:=And.intro hv.n (And.intro hv.b hv.s);have QP:f.cols=f.bars.length+f.dB.length:=rfl;have hZl:(iW f).length=3*f.nodes.length:=lP f _;refine Ac bv ?_;refine cQ (cE V (fun _ J v Y=>oe Y (Nf J Y) v (iW f)/\JV (iW f) 2000000) (fun O J r=>FQ (S:=S) (oS F r) (hf.cR (kS V r F)) PJ) ?_);rintro O _ _ _ PA r L V E ⟨W,Pm⟩;have hM:=oe.cP W (nw r E);obtain⟨am,cm,rfl,-,Qr⟩:=dI.shape hM;obtain⟨F9,hZ⟩:=exq (iW f);have htab:c9 f=F9.map dQ:=by rw[c9,hZ]
 have Xt:∀l∈F9,l.length=f.cols:=by rw[<-hZ];exact lH f _
 rw[hZ]at hM Pm hZl Qr ⊢
 refine⟨Nat×List Value×World×Iv,fun z=>⟨[(1,pP 0 0),(3,sV am F9.length cm),(4,.o (.w 1 z.2.1.length)),(5,iN z.1)],[(1,.vec T.gF 1 z.2.1),(0,.box T.Frame [.v (.slice an f.nodes.length cn),.v (.slice ab f.bars.length cb),.v (.slice aq f.dB.length cq)])],2,z.2.2.2,z.2.2.1⟩,fun z=>f.cols-z.1,
  fun z=>z.1<=f.cols/\Bq w z.2.2.1/\oe z.2.2.1 (Cf w z.2.2.2) (.slice am F9.length cm) F9/\dZ z.2.2.1 (Cf w z.2.2.2) z.2.1 (eA (F9.map dQ) z.1),?_,?_⟩
 .intro O J r;exact⟨(0,[],J,_),⟨aR _,V.tr r.cZ,oe.rel hM r oF,by simp[dZ,eA]⟩,Sub.nil 4 T.gF 1 rfl (by simp[kK,SV.sc,At.sc,fc]) r fun In r1=>sbgn [] r1⟩
 rintro⟨k,rv,w1,iv⟩ ⟨K,V,hM,hK⟩;dsimp only at K V hM hK ⊢;have PN:rv.length=k:=by rw[hK.1,o7]
 refine cQ (cE V (pE (iV f.cols)) (fun O J r=>kT (hf.cR (kS V r F)) ⟨UN,TY⟩) ?_);rintro O _ _ _ Oy r L V E rfl;replace hM:=oe.cS hM r oF L (mC E);replace hK:=hK.cS r oF L (mC E);apply bS<;>intro Ow
 .have Ow:=dL Ow
  refine⟨Nat×List (List Value)×World×Iv,fun z=>⟨[(1,pP 0 0),(3,sV am F9.length cm),(4,.o (.w 1 rv.length)),(5,iN k),(6,.o (.w 2 z.2.1.length)),(7,iN z.1)],[(2,.vec T.Rat 4 z.2.1.flatten),(1,.vec T.gF 1 rv),(0,.box T.Frame [.v (.slice an f.nodes.length cn),.v (.slice ab f.bars.length cb),.v (.slice aq f.dB.length cq)])],3,z.2.2.2,z.2.2.1⟩,fun z=>F9.length-z.1,
   fun z=>z.1<=F9.length/\Bq w z.2.2.1/\oe z.2.2.1 (Cf w z.2.2.2) (.slice am F9.length cm) F9/\dZ z.2.2.1 (Cf w z.2.2.2) rv (eA (F9.map dQ) k)/\dq z.2.2.1 (Cf w z.2.2.2) z.2.1 (dQ ((F9.map fun l=>l.getD k 0).take z.1)),?_,?_⟩
  .intro O J r;exact⟨(0,[],J,_),⟨aR _,V.tr r.cZ,oe.rel hM r oF,hK.rel r oF,dq.nil⟩,Sub.nil 6 T.Rat 4 rfl (by simp[kK,SV.sc,At.sc,fc]) r fun In r1=>sbgn [] r1⟩
  rintro⟨i,A,w3,iv⟩ ⟨D,V,hM,hK,hG⟩;dsimp only at D V hM hK hG ⊢;have PM:=eP hG.four;have SG:A.length=i:=by rw[hG.len,dQ,aL,ah,aL];omega
  apply bS<;>intro Ou
  .have Ou:=dL Ou;obtain⟨l,hl⟩:=gO F9 i;have hlw:=Xt l (aC hl);obtain⟨z,hz⟩:=gO l k;have Uy:=Pm l (aC hl) z (aC hz);have Wt:(F9.map fun l=>l.getD k 0)[i]? =some z:=by rw[aO,hl];show some (l.getD k 0)=_;rw[List.getD,hz];rfl
   obtain⟨adm,um,S7,QZ,km1,km2⟩:=dI.load hM hl;obtain⟨al,cl,rfl,-,SA⟩:=QZ.shape;obtain⟨adx,QU,hSx,Pq⟩:=DW.at QZ hz;refine⟨adm,S7,be,.slice al l.length cl,fun O J r=>?_,?_⟩
   .rw[aF,cV (w:=w3) (Y:=J) (by rw[dO];exact rls r oF km1)];exact km2
   refine⟨adx,QU,be,iV z,fun O J r=>?_,?_⟩
   .rw[aF,cV (w:=w3) (Y:=J) (by rw[dO];exact rls r oF hSx)];exact Pq
   refine cQ (cE V (pR cY (z:Rat)) (fun O J r=>jf z J be) ?_);rintro O _ _ _ PH r L V E W;replace hM:=oe.cS hM r oF L (mC E);replace hK:=hK.cS r oF L (mC E);replace hG:=hG.cS r oF L (mC E);have hd:=W.cP (nw r E);obtain⟨A0,A1,A2,A3,A4,A5,A6,A7,rfl⟩:=hd.shape;have Rz:=hG.push (Z:=rC A0 A1 A2 A3 A4 A5 A6 A7) (q:=(z:Rat)) ⟨_,_,_,_,_,_,_,_,rfl,hd⟩ rfl;rw[<-yB Wt]at Rz;have QI:A.flatten++(rC A0 A1 A2 A3 A4 A5 A6 A7:List Value)=(A++([rC A0 A1 A2 A3 A4 A5 A6 A7]:List (List Value))).flatten:=by simp
   refine .inl ?_;refine⟨be,be,mx,((i+1:Nat):Int),wo,?_⟩;intro I' w6 R;exact⟨(i+1,A++[rC A0 A1 A2 A3 A4 A5 A6 A7],w6,_),⟨Ou,V.tr R.cZ,oe.rel hM R oF,hK.rel R oF,Rz.rel R oF⟩,sbgn [(2,4)] R ⟨by dsimp only;rw[<-QI];rfl,rfl,rfl,trivial⟩ ⟨rfl,rfl,rfl,rfl,by dsimp only;rw[l1];rfl,rfl,trivial⟩,dec Ou⟩
  have Ou:=dE D Ou;have Vz:dQ ((F9.map fun l=>l.getD k 0).take i)=(F9.map dQ).map fun r=>r.getD k 0:=by rw[Ou,<-aL (f:=fun l:List Int=>l.getD k 0),bN,Km]
  rw[Vz]at hG;refine mi hτ (id3:=3) (id2:=2) (tH:=[(1,.vec T.gF 1 rv),(0,.box T.Frame [.v (.slice an f.nodes.length cn),.v (.slice ab f.bars.length cb),.v (.slice aq f.dB.length cq)])]) rfl rfl rfl rfl bv (by first|exact⟨rfl,trivial⟩|exact⟨rfl,rfl,trivial⟩) rfl rfl (fun O J r r2 TZ=>?_);have Ov:=dq.list ((hG.rel r oF).cP fun g X=>Cv.mono (N:=((O 3).g,(O 3).g+1)::kC (O 2) iv) X fun p hp=>aB _ (kx p hp)) ((r.Kl (id:=2) (sz:=4) (m:=A.length) rfl PM mx bi hG.one).cP fun g X=>Cv.mono X fun p hp=>aB _ hp);have PX:((At.w 2 A.length).den O).oneCell'=true:=At.MF;have SK:=r.low 3 _ rfl (r.fits (id:=3) rfl).1;have hC3:Cf w (((O 3).g,(O 3).g+1)::kC (O 2) iv) (O 3).g:=.inr ⟨SK.1,_,_,aH,lr,bc _⟩;have Q2:∀p,p∈iv->p∈((O 3).g,(O 3).g+1)::kC (O 2) iv:=fun p hp=>aB _ (kx p hp);have Pf:=V.tr r.cZ;have hK1:=(hK.rel r oF).cP fun g X=>Cv.mono X Q2;have We:=oe.cP (oe.rel hM r oF) fun g X=>Cv.mono X Q2;generalize (At.w 2 A.length).den O=ur at*
  generalize (O 3).g=gy at*
  generalize (gy,gy+1)::kC (O 2) iv=Oy at*
  refine⟨[ur],rfl,by simpa using PX,fun If Y r2 _=>⟨_,rfl,fun j u hu=>?_⟩,?_⟩
  .have h5:=rls r2 (dV _) hC3;rw[dX,cell_of (h5.trans TZ)];rcases j with _|j
   .exact hu
   .cases hu
  refine⟨bv,be,mx,?_⟩;have R1:=hK1.push PX Ov;rw[Iz]at R1;refine inc k ?_;intro I' w6 R;exact⟨(k+1,rv++[ur],w6,_),⟨Ow,Pf.tr R.cZ,oe.rel We R oF,R1.rel R oF⟩,sbgn [(1,4)] R (hE:=⟨rfl,rfl,by dsimp only;rw[l1];rfl,rfl,trivial⟩),dec Ow⟩
 have Ow:=dE K Ow;rw[Ow]at hK;rw[htab];intro J8 we re;refine⟨_,rfl,V.tr re.cZ,rv,?_,hK.1,fun i u x k1 k2=>cX.out (hK.2.2 i u x k1 k2) re oF⟩;have h5:=re.iD (id:=1) (sz:=1) (m:=rv.length) rfl bv mx bi hK.2.1;rw[show (eA (F9.map dQ) f.cols).length=rv.length from hK.1.symm];exact h5.cP fun g X=>.inr X
end Go.Ex
namespace Go.Ex
open Go
section
theorem Jv:∀(GT m:Nat) (g:Nat->Nat),(∀i,i<m->g i<GT)->(∀i j,i<m->j<m->g i=g j->i=j)->m<=GT
 |0,m,g,I,_=>by
  rcases bZ m with h|h
  .omega
  .exact absurd (I 0 h) (Nat.not_lt_zero _)
 |GT+1,m,g,I,G=>by
  by_cases h:∃i,i<m/\g i=GT
  .obtain⟨i0,D,e⟩:=h
   have:=Jv GT (m-1) (fun i=>if i<i0 then g i else g (i+1)) (fun i UX=>by
    show(if i<i0 then g i else g (i+1))<GT;split
    .rename_i PY;have:=I i be;have:g i≠GT:=fun e2=>by have:=G i i0 be D (by rw[e2,e]);omega
     omega
    .have:=I (i+1) be;have:g (i+1)≠GT:=fun e2=>by have:=G (i+1) i0 be D (by rw[e2,e]);omega
     omega) (fun i j UX hj' e2=>by
    have e3:(if i<i0 then g i else g (i+1))=(if j<i0 then g j else g (j+1)):=e2;split at e3<;>split at e3
    .exact G _ _ be be e3
    .have:=G _ _ be be e3;omega
    .have:=G _ _ be be e3;omega
    .have:=G _ _ be be e3;omega)
   omega
  .exact Nat.le_succ_of_le (Jv GT m g (fun i D=>by
    have:=I i D;have:g i≠GT:=fun e=>h ⟨i,D,e⟩
    omega) G)
structure FrS(f:eh):Prop extends FrV f where
 n4:f.nodes.length<=4
 b6:f.bars.length<=6
variable{f:eh}
theorem FrS.s12(h:FrS f):f.dB.length<=12:=by
 have:=Jv (3*f.nodes.length) f.dB.length (fun i=>eD (f.dB.getD i (0,0,0))) (fun i D=>by
  have e:f.dB.getD i (0,0,0)=f.dB[i]:=getD_some (aD D);show eD (f.dB.getD i (0,0,0))<_;rw[e]
  exact(h.sup _ (bA D)).1) (fun i j D hj e=>by
  have e1:f.dB.getD i (0,0,0)=f.dB[i]:=getD_some (aD D);have e2:f.dB.getD j (0,0,0)=f.dB[j]:=getD_some (aD hj);have e:eD (f.dB.getD i (0,0,0))=eD (f.dB.getD j (0,0,0)):=e;rw[e1,e2]at e
  exact h.one i j _ _ (aD D) (aD hj) e)
 have:=h.n4;omega
theorem FrS.Mp(h:FrS f):f.cols<=18:=by
 have I:=h.s12;have G:=h.b6;unfold eh.cols;omega
theorem FrS.r12(h:FrS f):(c9 f).length<=12:=by
 rw[gl];have:=h.n4;omega
theorem aD3:18*2000000<=wt 1:=by decide
theorem FrS.size(h:FrS f):ln (fB 2000000 (c9 f).length)<=13:=by
 have:=h.r12;have G:=aC0 (B:=2000000) (Fn:=18) (l:=1) (n:=(c9 f).length) be aD3;omega
theorem FrS.ht{c:Nat}(h:FrS f)(hc:c<=f.cols):Ht (cW (c9 f) c).1 20:=fun r hr q hq=>by
 have:=CI (gE f) h.mV bi hc r hr q hq;have:=h.size;omega
end
end Go.Ex
namespace Go.Ex
open Go Go.Sx Go.Proofs
variable{M:List (List Rat)}{s:List Int}{u:List Rat}{n:Nat}{S:Nat->Prop}{O:Nat->Sx.eG}{vb vn vs:Value}{f:eh}
theorem pT{B h:Nat}(hM:fz n M)(hW:GA M n B)(hB:1<=B)(hh:ln (fB B M.length)+1<=h):Gn M n h:=
 ⟨fun i D r hr q hq=>by have:=Oh hM hW hB D r hr q hq;omega,fun i D k K q hq=>by have:=Oi hM hW hB D K q hq;omega⟩
theorem Kq{B h:Nat}(hM:fz n M)(hW:GA M n B)(hB:1<=B)(hh:ln (fB B M.length)+1<=h):Ht (dh M n).1 h:=fun r hr q hq=>by
 rw[(mw hM hW).2]at hr;have:=CI hM hW hB (aP n) r (bq hr) q hq;omega
theorem jg(M:List (List Rat))(n:Nat)(hM:fz n M):(cW M n).2.length<=(cW M n).1.length/\(cW M n).2.length<=n:=by
 obtain⟨r1,r2,R,r4,r5⟩:=di hM n lr;have:=(jD M n).2.2;unfold cW at*
 exact⟨r2,be⟩
theorem Ng{w:World}(F:Old S w)(hf:dw w S vn vb vs f)(Si:eW f=0->FrS f):
  eH PG GT.uE #[.agg #[vn,vb,vs]] w (eR w fun v' _=>(eW f≠0/\v'= .tuple #[.agg #[iV 0,iV 0,iV 0],iV (eW f)])\/(eW f=0/\v'= .tuple #[.agg #[iV (kM (c9 f) f.cols),iV ((f.cols:Int)-kM (c9 f) f.cols),iV ((3*f.nodes.length:Nat)-kM (c9 f) f.cols)],iV 0])):=by
 have V:=bR w;obtain⟨an,cn,ab,cb,aq,cq,rfl,rfl,rfl,R4,RY,SX⟩:=hf.shape;have QP:f.cols=f.bars.length+f.dB.length:=rfl;have VR:=Iq f;obtain⟨e0,EE⟩:=exq (eW f);refine yo bv ?_;refine cQ (cE V (pE (iV e0)) (fun O J r=>(DX (oS F r) (hf.cR (kS V r F))).mono fun _ _ ⟨v2,e1,e2,e3⟩=>⟨v2,e1,e2,by rw[e3,EE]⟩) ?_);rintro O Pw v1 Pa PA r L V E rfl;apply bS<;>intro L
 .have L:e0≠0:=by simpa using L
  exact rtn V fun J8 we re=>.inl ⟨by rw[EE];exact L,by rw[EE];rfl⟩
 have L:e0=0:=by simpa using L
 have PJ:eW f=0:=by rw[EE,L]
 have PS:=Si PJ;have Oz:=lQ PJ;refine cQ (cE V (fun _ J v Y=>(∃vr,v= .agg #[vr,iV f.cols]/\dD Y (Nf J Y) vr (c9 f))/\fz f.cols (c9 f)/\Ht (c9 f) 2) (fun O J r=>vY (S:=S) (oS F r) (hf.cR (kS V r F)) Oz) ?_);rintro O _ _ _ ivt r L V E ⟨⟨vr,rfl,k1⟩,hlen,Qd⟩;have hM:=dD.cP k1 (nw r E);obtain⟨am,cm,rfl,SB,Qr⟩:=dI.shape hM;have US:=PS.Mp;have Vm:=PS.r12;refine cQ (cE V (fun _ J v Y=>∃vr vp vf,v= .agg #[vr,iV f.cols,vp,vf]/\dD Y (Nw (Cf w ivt) J Y) vr (dh (c9 f) f.cols).1) (fun O J r=>(DZ (C:=Cf w ivt) (S:=Cf w ivt) (h:=20) (rlo r oF) (rlo r oF) (dD.rel hM r oF) hlen be be (pT hlen PS.mV bi (by have:=PS.size;omega)) bi).mono fun _ _ ⟨v2,e1,e2,vr,vp,vf,k1,k2,_,_⟩=>⟨v2,e1,e2,vr,vp,vf,k1,k2⟩) ?_);rintro O _ _ _ Oy r L V E ⟨vr2,vp2,vf2,rfl,W⟩;replace hM:=dD.cS hM r oF L (mC E);obtain⟨ar,cr,rfl,-,-⟩:=dI.shape W;have Xa:(dh (c9 f) f.cols).1.length=kM (c9 f) f.cols:=by
  rw[(mw hlen PS.mV).2,ah,Nat.min_eq_left (jg _ _ hlen).1]
 rw[Xa];have hle:kM (c9 f) f.cols<=f.cols:=(jg _ _ hlen).2;obtain⟨nr,hnr⟩:=exq (kM (c9 f) f.cols);rw[hnr]at hle ⊢;refine⟨(f.cols:Int)-nr,wo,((c9 f).length:Int)-nr,wo,?_⟩;exact rtn V fun J8 we re=>.inr ⟨PJ,by rw[VR];rfl⟩
theorem Nh{α β:Type}(g:List α->List β)(X:∀r,(g r).length=r.length):∀M:List (List α),fo (M.map g)=fo M
 |[]=>rfl
 |r::M=>X r
theorem aAs(hlen:fz n M)(Wt:0<M.length\/n=0):fo (M.map jh)=n:=by
 rw[Nh jh fun r=>zN r]
 cases M with
 |nil=>
  rcases Wt with h|h
  .exact absurd h (Nat.lt_irrefl 0)
  .exact h.symm
 |cons r M=>exact hlen r aH
section
variable{S:Nat->Prop}{w:World}{v u:Value}{M:List (List Rat)}{b:List Rat}{n h0:Nat}
theorem Ni(hlen:fz n M)(hc:fo (M.map jh)=n):∀r∈M.map jh,r.length=fo (M.map jh):=fun r hr=>by
 obtain⟨x,U,rfl⟩:=aV.1 hr;rw[hc,zN];exact hlen x U
theorem aCH(hB:∀c,c<=n->Ht (cW M c).1 h0):Ht M h0:=hB 0 (aR _)
theorem aAt(h:dD w S v M)(hq:Ht M h0)(hh:3*h0<=90000):fT w S v (iy (M.map Ex.jh)):=by
 rw[D2];exact h.l fun r hr q Qn=>by have:=hq r hr q Qn;omega
theorem aAu(F:Old S w)(h:dD w S v M)(hlen:fz n M)(Wt:0<M.length\/n=0)(hR:M.length<=1000)(W:n<=1000)(hB:∀c,c<=n->Ht (cW M c).1 h0)(hh:3*h0<=90000):
  eH PG GT.vG #[v] w (eR w fun v' _=>v'=iV (kM M n)):=by
 have hc:=aAs hlen Wt;refine(aAq (h0:=h0) F h.jh (aAt h (aCH hB) hh) (Ni hlen hc) (by rw[aL];exact hR) (by rw[hc];exact W) (by rw[hc,D2];exact hB) hh).mono fun e Y ⟨v2,e1,e2,e3⟩=>⟨v2,e1,e2,by rw[e3,D2,hc]⟩
end
theorem eV.aDy{H:Hp}{nx:Nat}{iv:Iv}{w0 w1 J:World}{g:Nat}(X:Cf w0 iv g)(r:Rel H nx iv w0.heap.size w1 O J):Cf w0 [(w0.heap.size,J.heap.size)] g:=by
 rcases X with X|⟨I,lo,D,G,h3,h4⟩
 .exact X.elim
 .exact .inr ⟨I,_,_,bK.2 rfl,I,by have:=r.tI lo D G;have:=r.size;omega⟩
theorem FT(n:Nat)(w:World)(h0:0<n)(W:n<=1000):eH PG GT.zw #[iV n] w (eR w fun v' Y=>eV Y FF w.heap.size [(w.heap.size,Y.heap.size)] v' n (List.replicate n 0)):=by
 have V:=bR w;refine DE bv ?_
 refine⟨Nat×List (List Value)×World×Iv,fun z=>⟨[(0,.o (.v (iV (n:Int)))),(3,.o (.w 0 z.2.1.length)),(4,iN z.1)],[(0,.vec T.Rat 4 z.2.1.flatten)],1,z.2.2.2,z.2.2.1⟩,fun z=>n-z.1,
  fun z=>z.1<=n/\Bq w z.2.2.1/\dq z.2.2.1 (Cf w z.2.2.2) z.2.1 (List.replicate z.1 0),?_,?_⟩
 .intro O J r;exact⟨(0,[],J,[]),⟨aR _,V.tr r.cZ,dq.nil⟩,Sub.nil 3 T.Rat 4 rfl (by simp[kK,SV.sc,At.sc,fc]) r fun In r1=>sbgn [] r1⟩
 rintro⟨i,A,w1,iv⟩ ⟨D,V,hG⟩;dsimp only at D V hG ⊢;have PM:=eP hG.four;have SG:A.length=i:=by rw[hG.len,bD]
 apply bS<;>intro Ou
 .have Ou:=dL Ou;refine cQ (cE V (pR cY (((0:Int)):Rat)) (fun O J r=>jf 0 J bi) ?_);rintro O _ _ _ PA r L V E W;replace hG:=hG.cS r oF L (mC E);have hd:=W.cP (nw r E);obtain⟨A0,A1,A2,A3,A4,A5,A6,A7,rfl⟩:=hd.shape;have Rz:=hG.push (Z:=rC A0 A1 A2 A3 A4 A5 A6 A7) (q:=((0:Int):Rat)) ⟨_,_,_,_,_,_,_,_,rfl,hd⟩ rfl;rw[show List.replicate i (0:Rat)++[((0:Int):Rat)]=List.replicate (i+1) 0 by rw[List.replicate_succ'];rfl]at Rz;have QI:A.flatten++(rC A0 A1 A2 A3 A4 A5 A6 A7:List Value)=(A++([rC A0 A1 A2 A3 A4 A5 A6 A7]:List (List Value))).flatten:=by simp
  refine .inl ?_;refine⟨be,be,mx,((i+1:Nat):Int),wo,?_⟩;intro I' w6 R;exact⟨(i+1,A++[rC A0 A1 A2 A3 A4 A5 A6 A7],w6,_),⟨Ou,V.tr R.cZ,Rz.rel R oF⟩,sbgn [(0,2)] R ⟨by dsimp only;rw[<-QI];rfl,trivial⟩ ⟨rfl,by dsimp only;rw[l1];rfl,rfl,trivial⟩,dec Ou⟩
 have Ou:=dE D Ou;subst Ou;intro J8 we re;have Rz:=hG.rel re oF;have I:=(aBx (S:=Cf w iv) (qs:=List.replicate i 0) re (id:=0) rfl SG h0 mx ⟨Rz.len,Rz.at_⟩).1
 obtain⟨-,G,h3,h4⟩:=aBx (S:=fun g=>Cf w iv g/\(Value.slice (some ⟨(J8 0).g,0,none⟩) i (J8 0).cap).ownBlock≠some g) (qs:=List.replicate i 0) re (id:=0) rfl SG h0 mx ⟨Rz.len,fun j Z q k1 k2=>by
  obtain⟨b,a,n,c,b2,a2,n2,c2,e,hr⟩:=Rz.at_ j Z q k1 k2
  exact⟨b,a,n,c,b2,a2,n2,c2,e,hr.cP fun g X=>⟨X,fun e=>Rel.not re oF X 0 _ rfl I (by injection e)⟩⟩⟩
 refine⟨.slice (some ⟨(J8 0).g,0,none⟩) i (J8 0).cap,?_,V.tr re.cZ,?_⟩
 .simp[oQ,SV.den,At.den,I,SG]
 .refine⟨h4.cP fun g X=>⟨?_,X.2⟩,fun g X=>?_⟩
  .exact(eV.aDy X.1 re)
  .injection X with X;have X:(J8 0).g=g:=X;subst X;exact .inr ⟨G,_,_,bK.2 rfl,G,(re.low 0 _ rfl I).2⟩
theorem FrS.col(h:FrS f):0<3*f.nodes.length\/f.cols=0:=by
 rcases bZ f.nodes.length with h0|h0
 .right;have I:f.bars=[]:=List.eq_nil_iff_forall_not_mem.2 fun b hb=>by
   obtain⟨ka,kb,_,_,h3,_⟩:=h.IG b hb;omega
  have G:f.dB=[]:=List.eq_nil_iff_forall_not_mem.2 fun s hs=>by
   have:=(h.sup s hs).1;omega
  unfold eh.cols;rw[I,G];rfl
 .left;omega
theorem JA{w:World}(F:Old S w)(hf:dw w S vn vb vs f)(PJ:eW f=0)(PS:FrS f):
  eH PG GT.zj #[.agg #[vn,vb,vs]] w (eR w fun v' _=>v'= .agg #[iV (kM (c9 f) f.cols),iV ((f.cols:Int)-kM (c9 f) f.cols),iV ((3*f.nodes.length:Nat)-kM (c9 f) f.cols)]):=by
 have V:=bR w;obtain⟨an,cn,ab,cb,aq,cq,rfl,rfl,rfl,R4,RY,SX⟩:=hf.shape;have QP:f.cols=f.bars.length+f.dB.length:=rfl;have VR:=gl f;have US:=PS.Mp;have Vm:=PS.r12;have hlen:=gE f;refine Cu bv ?_;refine cQ (cE V (fun _ J v Y=>oe Y (Nf J Y) v (iW f)/\JV (iW f) 2000000) (fun O J r=>FQ (oS F r) (hf.cR (kS V r F)) PJ) ?_);rintro O _ _ _ PA r L V E ⟨W,Uy⟩;have hZ:=oe.cP W (nw r E);obtain⟨az,cz,rfl,-,-⟩:=dI.shape hZ;refine cQ (cE V (pR dD (c9 f)) (fun O J r=>aCG (rlo r oF) (oe.rel hZ r oF) (by rw[<-aL (f:=dQ)];exact aX Vm bi) (fun l hl=>by rw[lH f _ l hl];omega) (fun l hl z hz=>by have:=Uy l hl z hz;omega)) ?_);rintro O _ _ _ Oy r L V E W;have hM:=dD.cP W (nw r E);obtain⟨am,cm,rfl,-,-⟩:=dI.shape hM;refine cQ (cE V (pE (iV (kM (c9 f) f.cols))) (fun O J r=>aAu (h0:=20) (rlo r oF) (dD.rel hM r oF) hlen (by rw[VR];exact PS.col) be be (fun c hc=>PS.ht hc) bi) ?_);rintro O _ _ _ PH r L V E rfl;have hle:kM (c9 f) f.cols<=f.cols:=(jg _ _ hlen).2;obtain⟨nr,hnr⟩:=exq (kM (c9 f) f.cols);rw[hnr]at hle ⊢;refine dP [.x 0,.x 1,.x 3,.x 5,.x 6,.x 7,.x 8,.x 9,.x 10,.x 2,.x 4,.x 11,.x 12] ?_;refine⟨((3*f.nodes.length:Nat):Int),by have:=PS.n4;rw[wrap64]<;>omega,((3*f.nodes.length:Nat):Int)-nr,by have:=PS.n4;rw[wrap64]<;>omega,?_⟩;refine cE V (pE (iV f.cols)) (fun O J r=>kT (hf.cR (kS V r F)) ⟨PS.b,PS.s⟩) ?_;rintro O _ _ _ PV r L V E rfl;refine⟨(f.cols:Int)-nr,wo,?_⟩;exact rtn V fun J8 we re=>rfl
theorem aDL(h:eW f≠0\/f.nodes.length<=4/\f.bars.length<=6)(h0:eW f=0):FrS f:=⟨Ju h0,(h.resolve_left fun e=>e h0).1,(h.resolve_left fun e=>e h0).2⟩
theorem Mr{x r:List Rat}{i:Nat}(h:M[i]? =some r):(lA M x)[i]? =some (fD r x r.length):=by rw[lA,aO,h];rfl
theorem JB(h:FrS f):Ht (eA (c9 f) f.cols) 4:=fun r hr q hq=>by
 obtain⟨i,D⟩:=aU hr;obtain⟨t,ht⟩:=aU hq;have hil:i<f.cols:=by have:=(aE.1 D).1;rwa [eK]at this
 have:=h.qH t i;rw[<-lf (M:=c9 f) hil,dF,getD_some D,getD_some ht]at this;obtain⟨z,rfl,hz⟩:=this;have:rl ((z:Int):Rat)<=2:=GQ be;omega
theorem FV(h:FrS f):Ht (eA (c9 f) f.cols) 41:=fun r hr q hq=>by have:=JB h r hr q hq;omega
theorem aAw{t:Int}(h:LBd s t)(ht:0<=t)(j:Nat): -t<=s.getD j 0/\s.getD j 0<=t:=by
 rcases aS j s.length with hj|hj
 .rw[getD_some (aD hj)];exact h _ (bA hj)
 .rw[List.getD,List.getElem?_eq_none hj];show -t<=0/\0<=t;omega
theorem FW{s:List Int}{x:Ld}{t:Int}(h:LBd s t)(ht:0<=t)(U:(-1000000<=x.2.1/\x.2.1<=1000000)/\(-1000000<=x.2.2.1/\x.2.2.1<=1000000)/\(-1000000<=x.2.2.2/\x.2.2.2<=1000000)):∀k,k<=3->LBd (jV s x k) (t+1000000*(k:Int))
 |0,_=>by rw[jV];simpa using h
 |k+1,K=>by
  have ih:=FW h ht U k be;have hd: -1000000<=(ldC x).getD k 0/\(ldC x).getD k 0<=1000000:=by
   rcases(show k=0\/k=1\/k=2 by omega)with rfl|rfl|rfl
   .exact U.1
   .exact U.2.1
   .exact U.2.2
  have X:=aAw ih be (3*x.1+k).toNat;rw[jV,LS];exact ih.set be be
theorem FX{n:Nat}{l:List Ld}(Oz:Ir n l):∀i,i<=l.length->LBd (jH n l i) (3000000*(i:Int))
 |0,_=>fun z hz=>by rw[bW hz];decide
 |i+1,D=>by
  have ih:=FX Oz i be;have hm:l.getD i (0,0,0,0)∈l:=by rw[getD_some (aD (show i<l.length by omega))];exact bA _
  have:=FW ih be (Oz.ld _ hm).2 3 lr;rw[jH];intro z hz;have:=this z hz;omega
theorem JC{w:World}(F:Old S w)(hf:dw w S vn vb vs f)(PJ:eW f=0)(PS:FrS f){vu:Value}(hu:dK w S vu u)(huq:∀q∈u,rl q<=40)(hu80:u.length<=80)(hul:u.length=3*f.nodes.length):
  eH PG GT.zn #[.agg #[vn,vb,vs],vu] w (eR w fun v' Y=>cX Y (Nf w Y) v' (lA (eA (c9 f) f.cols) u)):=by
 have V:=bR w;obtain⟨an,cn,ab,cb,aq,cq,rfl,rfl,rfl,R4,RY,SX⟩:=hf.shape;obtain⟨au,cu,rfl,hcu,hmu⟩:=dT.shape hu;unfold maxLen at hmu;have US:=PS.Mp;have Vm:=PS.r12;have VR:=gl f;have hlen:=gE f;have hn4:=PS.n4;have Oz:=lQ PJ;have YS:f.cols=f.bars.length+f.dB.length:=rfl;refine Cy bv ?_;refine cQ (cE V (pR dD (eA (c9 f) f.cols)) (fun O J r=>Nd (oS F r) (hf.cR (kS V r F)) PJ) ?_);rintro O _ _ _ PA r L V E W;have hM:=dD.cP W (nw r E);clear r;clear W;obtain⟨am,cm,rfl,-,-⟩:=dI.shape hM;refine cQ (cE V (pR cX (lA (eA (c9 f) f.cols) u)) (fun O J r=>aAx (S:=fun g=>S g\/Cf w PA g) (h:=41) (fun g X=>X.elim (oS F r g) (rlo r oF g)) (fT.cP (dD.l (dD.rel hM r oF) fun y hy q hq=>by have:=(FV PS) y hy q hq;omega) fun g X=>.inr X) (dK.cP (dK.cR hu (kS V r F)) fun g X=>.inl X) (fun y hy=>by rw[ga _ _ y hy,hul,VR]) (FV PS) (fun q hq=>by have:=huq q hq;omega) bi be (by rw[eK];omega)) ?_);rintro O _ _ _ Oy r L V E W;clear hM;have hT:=cX.cP W (nw r E);clear r;clear W;obtain⟨at_,ct,rfl,-,-⟩:=dT.shape hT;exact rtn V fun J8 we re=>cX.out hT re oF
end Go.Ex
namespace Go.Ex
variable{M:List (List Rat)}{l:Nat}{g:Nat->Rat}{Fd p q:Rat}
structure qo(f:eh):Prop extends FrS f where
 fx:∀q∈dM f,rl q<=3
def Bl(b:List Rat):Prop:=∀t,Ib 1000000000 (b.getD t 0)
theorem Ib.w{B:Nat}(h:Ib B q)(k:B<=wt l):Ib (wt l) q:=h.mono k
theorem lK(a b:Nat)(h:a+b<=l):wt a*wt b<=wt l:=by rw[<-Fu];exact Bd h
theorem Ib.wm{a b:Nat}(h:Ib (wt a) p)(k:Ib (wt b) q)(hl:a+b<=l):Ib (wt l) (p*q):=(h.mul k).mono (lK a b hl)
theorem Ib.up{a:Nat}(h:Ib (wt a) p)(hl:a<=l):Ib (wt l) p:=h.mono (Bd hl)
theorem Ib.aD4{a n:Nat}(W:n<=18)(h:∀k,k<n->Ib (wt a) (g k))(hl:a+1<=l):Ib (wt l) (dC g n):=
 (Ib.sum n h).mono (aX (Nat.mul_le_mul_right _ (aX W (by decide:18<=wt 1))) (lK 1 a be))
theorem Den.mono{GE D':Nat}{l:List Rat}(h:Den GE Fd l)(k:GE<=D'):Den D' Fd l:=⟨h.1,h.2.1.mono k,fun t=>(h.2.2 t).mono k⟩
theorem Jt.mono{GE D':Nat}(h:Jt GE Fd M)(k:GE<=D'):Jt D' Fd M:=⟨h.1,h.2.1.mono k,fun i t=>(h.2.2 i t).mono k⟩
theorem IN{k n Fn m:Nat}(W:n<=Fn)(hR:Fn<=4294967295)(hl:k+1<=l)(hm:l*Fn+1<=m):ln (fB (wt k) n)<=m/\fB (wt k) n<=wt m:=by
 have I:=aC0 (B:=wt k) (l:=l) W (aX (Nat.mul_le_mul_right _ (aX hR (by decide:4294967295<=wt 1))) (lK 1 k be));have G:l*n+1<=m:=aX (Nat.succ_le_succ (bX _ W)) hm;exact⟨aX I G,Nat.le_of_lt (gg.1 (aX I G))⟩
section
variable{f:eh}{b x x0 c u:List Rat}
theorem FrS.La(h:FrS f)(hb:Bl b):GA (eU (c9 f) b) (f.cols+1) (wt 1):=fun j hj=>by
 rw[fH]at hj;have V:=fun t=>lG (b:=b) (t:=t) (gE f) hj;refine⟨1,bi,Ib.one qD,fun t ht=>?_⟩;rw[bs];rcases aS t f.cols with I|I
 .rw[(V t).1 I];exact(h.qH j t).w bi
 .rw[show t=f.cols by omega,(V 0).2];exact(hb j).w bi
theorem FrS.aAD(h:FrS f):ln (fB (wt 1) (eU (c9 f) b).length)<=25:=by
 rw[fH];exact(IN (l:=2) h.r12 bi bi bi).1
theorem FrS.aD5(h:FrS f)(hb:Bl b)(h0:iB (c9 f) b f.cols=some x0):∃Fd,Den (wt 25) Fd x0:=by
 obtain⟨Fd,hD⟩:=CL (gE f) (h.La hb) qD h0;exact⟨Fd,hD.mono (IN (l:=2) h.r12 bi bi bi).2⟩
theorem FrS.ker(h:FrS f):∃Fd,Jt (wt 13) Fd (dJ (c9 f) f.cols):=by
 obtain⟨Fd,hD⟩:=aBh (gE f) h.mV bi;exact⟨Fd,hD.mono (Nat.le_of_lt (gg.1 h.size))⟩
theorem FrS.aC1(h:FrS f):(dJ (c9 f) f.cols).length<=18:=by
 have I:=uv (gE f);have G:=h.Mp;omega
theorem CR(f:eh):(dM f).length=f.cols:=by simp[dM,eh.cols]
theorem qo.aDs(h:qo f):Den (wt 54) (mz (dM f) 18) (dM f):=IB (by rw[CR];exact h.Mp) h.fx
theorem qo.aAE(h:qo f)(U:∃Fd,Den (wt 25) Fd x0):GA (eU (fJ (dJ (c9 f) f.cols) (dM f)) (iP (dJ (c9 f) f.cols) (dM f) x0)) ((dJ (c9 f) f.cols).length+1) (wt 106):=fun i D=>by
 rw[fH,fJ,aL]at D;obtain⟨D0,a1,a2,a3⟩:=U;obtain⟨D1,b1,b2,b3⟩:=h.ker;obtain⟨c1,c2,c3⟩:=h.aDs;have W:=h.Mp;have V:=fun t=>lG (b:=iP (dJ (c9 f) f.cols) (dM f) x0) (t:=t) (qE (dJ (c9 f) f.cols) (dM f)) (j:=i) (by rw[fJ,aL];exact D);refine⟨mz (dM f) 18*(D1*D1)*D0,wY (wY c1 (wY b1 b1)) a1,(((c2.wm (b2.wm b2 (aP _)) (aP _)).wm a2 bi)),fun t ht=>?_⟩;rcases aS t (dJ (c9 f) f.cols).length with I|I
 .rw[(V t).1 I,y8 _ _ _ D I];unfold LZ yX;rw[<-ec];refine Ib.aD4 W (fun k _=>?_) (aP _);rw[show mz (dM f) 18*(D1*D1)*D0*((dM f).getD k 0*(dF (dJ (c9 f) f.cols) i k*dF (dJ (c9 f) f.cols) t k))=(mz (dM f) 18*(dM f).getD k 0)*((D1*dF (dJ (c9 f) f.cols) i k)*(D1*dF (dJ (c9 f) f.cols) t k))*D0 by grind];exact((c3 k).wm ((b3 i k).wm (b3 t k) (aP _)) (aP _)).wm a2 bi
 .rw[show t=(dJ (c9 f) f.cols).length by omega,(V 0).2,IF _ _ _ _ D];unfold yX;rw[show mz (dM f) 18*(D1*D1)*D0* -(dC (fun t=>(dM f).getD t 0*(dF (dJ (c9 f) f.cols) i t*x0.getD t 0)) f.cols)= -(mz (dM f) 18*(D1*D1)*D0*dC (fun t=>(dM f).getD t 0*(dF (dJ (c9 f) f.cols) i t*x0.getD t 0)) f.cols) by grind,<-ec];refine(Ib.aD4 W (fun k _=>?_) (aP _)).neg;rw[show mz (dM f) 18*(D1*D1)*D0*((dM f).getD k 0*(dF (dJ (c9 f) f.cols) i k*x0.getD k 0))=(mz (dM f) 18*(dM f).getD k 0)*((D1*dF (dJ (c9 f) f.cols) i k)*D1)*(D0*x0.getD k 0) by grind];exact((c3 k).wm ((b3 i k).wm b2 (aP _)) (aP _)).wm (a3 k) bi
theorem qo.Lb(h:qo f){b:List Rat}:ln (fB (wt 106) (eU (fJ (dJ (c9 f) f.cols) (dM f)) b).length)<=1927:=by
 rw[fH,fJ,aL];exact(IN (l:=107) h.aC1 bi bi bi).1
theorem qo.aCv(h:qo f)(U:∃Fd,Den (wt 25) Fd x0)(hc:iB (fJ (dJ (c9 f) f.cols) (dM f)) (iP (dJ (c9 f) f.cols) (dM f) x0) (dJ (c9 f) f.cols).length=some c):∀q∈c,rl q<=1927:=fun q hq=>by
 obtain⟨Fd,hD⟩:=CL (qE _ _) (h.aAE U) qD hc;have I:=hD.rl q hq;have G:=h.Lb (b:=[]);rw[fH]at G;omega
theorem GH(h:rl q<=3):Ib (wt 3) (q.den:Rat):=⟨(q.den:Int),rfl,by have:=(IA h).2;omega⟩
theorem aAF(h:rl q<=3):Ib (wt 3) ((q.den:Rat)*q):=by rw[BB];exact⟨q.num,rfl,Nat.le_of_lt (IA h).1⟩
theorem GI(q:Rat):(q.den:Rat)≠0:=fun e=>by
 have:((q.den:Int):Rat)=((0:Int):Rat):=e;exact q.den_nz (by have:=Rat.intCast_inj.1 this;omega)
theorem qo.fxD(h:qo f){t:Nat}(ht:t<f.cols):rl ((dM f).getD t 0)<=3:=by
 have hl:t<(dM f).length:=by rw[CR];exact ht
 rw[getD_some (aD hl)];exact h.fx _ (bA hl)
theorem qo.aBl(h:qo f)(hb:Bl b)(Q3:b.length=(c9 f).length):GA (eU (kv (c9 f) f.cols (dM f)) (b++yZ f.cols)) ((c9 f).length+f.cols+1) (wt 4):=fun j hj=>by
 rw[fH,jn]at hj;have V:=fun t=>lG (b:=b++yZ f.cols) (t:=t) (tW (gE f) (dM f)) (j:=j) (by rw[jn];exact hj);rcases aS j (c9 f).length with G|G
 .refine⟨1,bi,Ib.one qD,fun t ht=>?_⟩;rw[bs];rcases aS t ((c9 f).length+f.cols)with I|I
  .rw[(V t).1 I];rcases aS t (c9 f).length with h3|h3
   .rw[(GF G).1 h3];exact Ib.zero _
   .obtain⟨s,rfl⟩:∃s,t=(c9 f).length+s:=⟨t-(c9 f).length,be⟩
    rw[(GF (t:=s) G).2];exact((h.qH j s).w (by decide:2000000<=wt 1)).up bi
  .rw[show t=(c9 f).length+f.cols by omega,(V 0).2,rk];exact((hb j).w (by decide:1000000000<=wt 1)).up bi
 .obtain⟨k,rfl⟩:∃k,j=(c9 f).length+k:=⟨j-(c9 f).length,be⟩
  have K:k<f.cols:=by omega
  have hq:=h.fxD K;refine⟨(((dM f).getD k 0).den:Rat),GI _,(GH hq).up bi,fun t ht=>?_⟩;rcases aS t ((c9 f).length+f.cols)with I|I
  .rw[(V t).1 I];rcases aS t (c9 f).length with h3|h3
   .rw[(CP (t:=t) K).1 h3];exact(GH hq).wm ((h.qH t k).w (by decide:2000000<=wt 1)) bi
   .obtain⟨s,rfl⟩:∃s,t=(c9 f).length+s:=⟨t-(c9 f).length,be⟩
    rw[(CP (t:=s) K).2 be];split
    .exact(aAF hq).up bi
    .rw[bF];exact Ib.zero _
  .rw[show t=(c9 f).length+f.cols by omega,(V 0).2,rk,jL (l:=b) be,bF];exact Ib.zero _
theorem qo.aAG(h:qo f)(hb:Bl b)(Q3:b.length=(c9 f).length)(U:nA (c9 f) f.cols (fun t=>(dM f).getD t 0) b x):∃Fd,Den (wt 151) Fd x:=by
 obtain⟨u,hu⟩:=U.aD2 (gE f);obtain⟨s1,s2⟩:=aAB (gE f) Q3 U hu;obtain⟨z,hz⟩:=Ej (tW (gE f) (dM f)) s2;have I:=aAC (gE f) Q3 hz;have G:=h.aBj.one U I;obtain⟨Fd,d1,d2,d3⟩:=CL (tW (gE f) (dM f)) (h.aBl hb Q3) qD hz;have h3:fB (wt 4) (kv (c9 f) f.cols (dM f)).length<=wt 151:=by
  rw[jn];have I:=h.Mp;have G:=h.r12;exact(IN (l:=5) (Fn:=30) be bi bi bi).2
 refine⟨Fd,d1,d2.mono h3,fun t=>?_⟩;rw[G,List.getD,cF,<-List.getD];exact(d3 _).mono h3
theorem qo.aD6(h:qo f)(hb:Bl b)(Q3:b.length=(c9 f).length)(U:nA (c9 f) f.cols (fun t=>(dM f).getD t 0) b x):∀q∈x,rl q<=152:=fun q hq=>by
 obtain⟨Fd,hD⟩:=h.aAG hb Q3 U;have:=hD.rl q hq;have G:ln (wt 151)<=152:=gg.2 (LN bi);omega
theorem qo.Mq(h:qo f)(QM:x.length=f.cols)(U:∃Fd,Den (wt 151) Fd x):GA (eU (eA (c9 f) f.cols) (eI (fu x (dM f)) (-1))) ((c9 f).length+1) (wt 156):=fun j hj=>by
 rw[fH,eK]at hj;obtain⟨Fd,d1,d2,d3⟩:=U;have hq:=h.fxD hj;have V:=fun t=>lG (b:=eI (fu x (dM f)) (-1)) (t:=t) (ga (c9 f) f.cols) (j:=j) (by rw[eK];exact hj);refine⟨(((dM f).getD j 0).den:Rat)*Fd,wY (GI _) d1,(GH hq).wm d2 bi,fun t ht=>?_⟩;rcases aS t (c9 f).length with I|I
 .rw[(V t).1 I,lf hj];exact((GH hq).wm d2 (aP _)).wm ((h.qH t j).w (by decide:2000000<=wt 1)) bi
 .rw[show t=(c9 f).length by omega,(V 0).2,CQ x _ QM hj,show(((dM f).getD j 0).den:Rat)*Fd* -((dM f).getD j 0*x.getD j 0)= -(((((dM f).getD j 0).den:Rat)*(dM f).getD j 0)*(Fd*x.getD j 0)) by grind];exact((aAF hq).wm (d3 j) bi).neg
theorem qo.Jw(h:qo f){b:List Rat}:ln (fB (wt 156) (eU (eA (c9 f) f.cols) b).length)<=2827:=by
 rw[fH,eK];exact(IN (l:=157) h.Mp bi bi bi).1
end
end Go.Ex
