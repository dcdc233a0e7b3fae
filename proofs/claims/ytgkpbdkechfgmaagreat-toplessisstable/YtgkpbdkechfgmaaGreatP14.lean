/- Texts L44 to L56: lemmas, each with its conditions. -/
import Derived.Test.YtgkpbdkechfgmaaGreatP13
namespace Go.Ex
variable{d:Int}{M:List (List Rat)}{l x0 I':List Rat}{Fn c n:Nat}{x y:Nat->Rat}{F9:Rat}{f:ed}
theorem xa{a b:Rat}(ha:a≠0)(hb:b≠0):a*b≠0:=fun e=>by
 rcases Rat.mul_eq_zero.1 e with h|h
 ·exact ha h
 ·exact hb h
def Den(Fn:Nat)(F9:Rat)(l:List Rat):Prop:=F9≠0/\Ib Fn F9/\∀t,Ib Fn (F9*l.getD t 0)
def Fu(Fn:Nat)(F9:Rat)(M:List (List Rat)):Prop:=F9≠0/\Ib Fn F9/\∀k t,Ib Fn (F9*cW M k t)
theorem Den.rl(h:Den Fn F9 l):∀q∈l,rl q<=ln Fn:=fun q hq=>by
 obtain⟨j,hj⟩:=aQ hq;have:=qj h.1 h.2.1 (h.2.2 j)
 rwa [List.getD,hj]at this
theorem Fu.rl(h:Fu Fn F9 M):∀r∈M,∀q∈r,rl q<=ln Fn:=fun r hr q hq=>by
 obtain⟨k,R⟩:=aQ hr;obtain⟨j,hj⟩:=aQ hq;have:=qj h.1 h.2.1 (h.2.2 k j)
 rwa [cW,show M.getD k []=r by rw[List.getD,R];rfl,List.getD,hj]at this
theorem lE{t:Nat}(h:l.length<=t):l.getD t 0=0:=by rw[List.getD,List.getElem?_eq_none h];rfl
theorem Lz{k t:Nat}(hM:gh n M)(h:n<=t):cW M k t=0:=by
 rw[cW];rcases aP k M.length with R|R
 ·exact lE (by rw[hM.getD R];exact h)
 ·rw[show M.getD k []=[] by rw[List.getD,List.getElem?_eq_none R];rfl];rfl
theorem Jz{k t:Nat}(h:M.length<=k):cW M k t=0:=by
 rw[cW,show M.getD k []=[] by rw[List.getD,List.getElem?_eq_none h];rfl];rfl
section
variable{M:List (List Rat)}{n B:Nat}{b:List Rat}
theorem HH(hM:gh n M)(hW:Dw M n B)(hB:1<=B)(hc:c<=n):∃F9:Rat,F9≠0/\Ib (fB B M.length) F9/\∀i t,i<(cK M c).2.length->t<n->Ib (fB B M.length) (F9*cW (cK M c).1 i t):=by
 obtain⟨σ,EQ,h⟩:=pQ hM hW c hc;have hle:=h.red.2.1;rw[h.len]at hle;have hm:=qi hB hle;exact⟨_,h.yh.nz,h.yh.den.mono hm,fun i t D ht=>(h.yh.ent D ht).mono hm⟩
theorem MA(hM:gh n M)(hW:Dw M n B)(hB:1<=B):∃F9,Fu (fB B M.length) F9 (cR M n):=by
 obtain⟨F9,h0,hD,hE⟩:=HH hM hW hB (Nat.le_refl n);obtain⟨r1,r2,K,r4,r5⟩:=eK hM n (Nat.le_refl _);have Qe:=iq M n;refine⟨F9,h0,hD,fun k t=>?_⟩;rcases aP k (cR M n).length with R|R
 ·rcases aP t n with ht|ht
  ·have hf:=kx.1 (pK (by rw[<-mz];exact R));rw[cW,yj M n R];generalize (iz (cK M n).2 n).getD k 0=c at hf;by_cases hp:t∈(cK M n).2
   ·obtain⟨j,hj,rfl⟩:=sD hp;rw[nd (D':=fq (cK M n).1 (cK M n).2 n c) (f:=fun i=> -(cW (cK M n).1 i c)) (fun i=>gl _ _ n c i) (ju _ _ n c) Qe.2.1 r4 _ (Nat.le_refl _) hj,show F9* -(cW (cK M n).1 j c)= -(F9*cW (cK M n).1 j c) by grind];exact(hE j c hj hf.1).neg
   ·rw[pJ hp hf.1];split
    ·rw[Rat.mul_one];exact hD
    ·rw[az];exact Ib.zero _
  ·rw[Lz (np M n) ht,az];exact Ib.zero _
 ·rw[Jz R,az];exact Ib.zero _
theorem EB{x:List Rat}(hM:gh n M)(hW:Dw (dX M b) (n+1) B)(hB:1<=B)(h:jG M b n=some x):∃F9,Den (fB B M.length) F9 x:=by
 obtain⟨F9,h0,hD,hE⟩:=HH (jP (b:=b) hM) hW hB (Nat.le_succ n);rw[fP]at hD hE;obtain⟨r1,r2,K,r4,r5⟩:=eK (jP (b:=b) hM) n (Nat.le_succ _);have Qe:=iq (dX M b) n;unfold jG at h;dsimp only at h;split at h
 ·injection h with h;subst h;refine⟨F9,h0,hD,fun t=>?_⟩;by_cases hp:t∈(cK (dX M b) n).2
  ·obtain⟨j,hj,rfl⟩:=sD hp;rw[nd (D':=gW (cK (dX M b) n).1 (cK (dX M b) n).2 n) (f:=fun i=>cW (cK (dX M b) n).1 i n) (fun i=>gp _ _ n i) (jv _ _ n) Qe.2.1 r4 _ (Nat.le_refl _) hj];exact hE j n hj (by omega)
  ·rw[tG hp,az];exact Ib.zero _
 ·cases h
end
def lF(I':List Rat):Nat->Rat
 |0=>1
 |t+1=>lF I' t*((I'.getD t 0).den:Rat)
theorem EC(I':List Rat):∀k,lF I' k≠0
 |0=>by show(1:Rat)≠0;decide
 |k+1=>xa (EC I' k) (by have:=(I'.getD k 0).den_nz;exact_mod_cast this)
theorem ym{I':List Rat}{B:Nat}(h:∀t,(I'.getD t 0).den<=B):∀k,Ib (B^k) (lF I' k)
 |0=>Ib.one (Nat.le_refl _)
 |k+1=>by
  rw[Nat.pow_succ];exact(ym h k).mul ⟨((I'.getD k 0).den:Int),rfl,by rw[Int.natAbs_natCast];exact h k⟩
theorem CJ(q:Rat):(q.den:Rat)*q=(q.num:Rat):=by
 have h:=Rat.num_divInt_den q;have h0:((q.den:Int):Rat)≠0:=by have:=q.den_nz;exact_mod_cast this
 rw[Rat.divInt_eq_div]at h;have I:(q.num:Rat) / ((q.den:Int):Rat)*((q.den:Int):Rat)=(q.num:Rat):=Rat.div_mul_cancel h0;rw[h,bs]at I;exact I
theorem BU{I':List Rat}{B:Nat}(h:∀t,(I'.getD t 0).den<=B)(Z:∀t,(I'.getD t 0).num.natAbs<=B)(hB:1<=B):∀k t,t<k->Ib (B^k) (lF I' k*I'.getD t 0)
 |0,t,ht=>by omega
 |k+1,t,ht=>by
  rw[lF,Nat.pow_succ];rcases aP t k with I|I
  ·rw[show ∀a b c:Rat,a*b*c=(a*c)*b from fun a b c=>by grind];exact(BU h Z hB k t I).mul ⟨((I'.getD k 0).den:Int),rfl,by rw[Int.natAbs_natCast];exact h k⟩
  ·rw[show t=k by omega,Rat.mul_assoc,CJ];exact(ym h k).mul (Ib.int (Z k))
theorem uz{l:Nat}:1<=wt l:=uo l
theorem KA{q:Rat}{l:Nat}(h:rl q<=l):q.num.natAbs<wt l/\q.den<wt l:=⟨gD.1 (aW (fu q) h),gD.1 (aW (NS q) h)⟩
theorem KB(l k:Nat):wt l^k=wt (l*k):=by rw[uq,uq,<-Nat.pow_mul,bc]
theorem ED(hl:I'.length<=n)(h:∀q∈I',rl q<=3):Den (wt (3*n)) (lF I' n) I':=by
 have N:∀t,rl (I'.getD t 0)<=3:=fun t=>by
  rw[List.getD]
  cases ht:I'[t]? with
  |none=>show rl 0<=3;decide
  |some q=>exact h q (aE ht)
 have I:∀t,(I'.getD t 0).den<=wt 3:=fun t=>Nat.le_of_lt (KA (N t)).2;have X:∀t,(I'.getD t 0).num.natAbs<=wt 3:=fun t=>Nat.le_of_lt (KA (N t)).1;refine⟨EC I' n,by rw[<-KB];exact ym I n,fun t=>?_⟩;rcases aP t n with ht|ht
 ·rw[<-KB];exact BU I X uz n t ht
 ·rw[lE (by omega),az];exact Ib.zero _
theorem getD_some{α:Type}{l:List α}{i:Nat}{x d:α}(h:l[i]? =some x):l.getD i d=x:=by rw[List.getD,h];rfl
structure CK(M:List (List Rat))(n:Nat)(I':Nat->Rat):Prop where
 len:gh n M
 pos:∀t,t<n->0<=I' t
 OG:∀x:Nat->Rat,(∀j,j<M.length->mulR M n x j=0)->cQ (fun t=>I' t*(x t*x t)) n=0->∀t,t<n->x t=0
theorem EF(M:List (List Rat))(n:Nat)(x y:Nat->Rat)(j:Nat):mulR M n (fun t=>x t+y t) j=mulR M n x j+mulR M n y j:=by
 unfold mulR;rw[<-fK];exact cH fun t _=>by grind
theorem KC(M:List (List Rat))(n:Nat)(x:Nat->Rat)(c:Rat)(j:Nat):mulR M n (fun t=>c*x t) j=c*mulR M n x j:=by
 unfold mulR;rw[<-dY];exact cH fun t _=>by grind
theorem EG(M:List (List Rat))(n:Nat)(S:Mx)(c:Nat->Rat)(j s:Nat):mulR M n (fun t=>cQ (fun k=>c k*S k t) s) j=cQ (fun k=>c k*mulR M n (S k) j) s:=by
 induction s with
 |zero=>exact(cH (g:=fun _=>0) fun t _=>az _).trans (dU n)
 |succ s ih=>
  show mulR M n (fun t=>cQ (fun k=>c k*S k t) s+c s*S s t) j=cQ (fun k=>c k*mulR M n (S k) j) s+c s*mulR M n (S s) j;rw[EF,KC,ih]
theorem Fv(h:∀t,t<n->x t=y t)(j:Nat):mulR M n x j=mulR M n y j:=cH fun t ht=>by rw[h t ht]
def xb(I' x y:Nat->Rat)(n:Nat):Rat:=cQ (fun t=>I' t*(x t*y t)) n
theorem yn(I' x y:Nat->Rat)(n:Nat):xb I' x y n=xb I' y x n:=cH fun t _=>by grind
theorem HI(I' x y z:Nat->Rat)(n:Nat):xb I' x (fun t=>y t+z t) n=xb I' x y n+xb I' x z n:=by
 unfold xb;rw[<-fK];exact cH fun t _=>by grind
theorem xc(I' x:Nat->Rat)(S:Mx)(c:Nat->Rat)(n s:Nat):xb I' x (fun t=>cQ (fun k=>c k*S k t) s) n=cQ (fun k=>c k*xb I' x (S k) n) s:=by
 unfold xb;rw[cH (g:=fun t=>cQ (fun k=>c k*(I' t*(x t*S k t))) s) fun t _=>by rw[<-dY,<-dY];exact cH fun k _=>by grind,mx];exact cH fun k _=>by rw[dY]
theorem BV{I' x' y':Nat->Rat}(I:∀t,t<n->x t=x' t)(X:∀t,t<n->y t=y' t):xb I' x y n=xb I' x' y' n:=cH fun t ht=>by rw[I t ht,X t ht]
section
variable{M:List (List Rat)}{n:Nat}{I':Nat->Rat}{b:List Rat}
def HJ(M:List (List Rat))(n:Nat)(I':Nat->Rat)(i j:Nat):Rat:=xb I' (cW (cR M n) i) (cW (cR M n) j) n
theorem CK.KD(h:CK M n I'){c:Nat->Rat}(hc:∀i,i<(cR M n).length->cQ (fun j=>HJ M n I' i j*c j) (cR M n).length=0):∀i,i<(cR M n).length->c i=0:=by
 obtain⟨y,hy⟩:∃y:Nat->Rat,y=fun t=>cQ (fun k=>c k*cW (cR M n) k t) (cR M n).length:=⟨_,rfl⟩
 have hnull:∀j,j<M.length->mulR M n y j=0:=fun j hj=>by
  rw[hy,EG,cH (g:=fun _=>0) fun k R=>by rw[EA h.len R j hj,az],dU]
 have Y:∀i,i<(cR M n).length->xb I' (cW (cR M n) i) y n=0:=fun i D=>by
  rw[hy,xc,<-hc i D];exact cH fun k _=>bs _ _
 have h0:xb I' y y n=0:=by
  have:xb I' y y n=cQ (fun k=>c k*xb I' y (cW (cR M n) k) n) (cR M n).length:=by
   rw[<-xc,<-hy]
  rw[this,cH (g:=fun _=>0) fun k R=>by rw[yn,Y k R,az],dU]
 exact Ly (M:=M) fun t ht=>by
  have:=h.OG y hnull h0 t ht;rw[hy]at this;exact this
theorem CK.only(h:CK M n I')(L:∀j,j<M.length->mulR M n x j=0)(hs:∀k,k<(cR M n).length->xb I' (cW (cR M n) k) x n=0):∀t,t<n->x t=0:=by
 obtain⟨c,hc⟩:=Lx h.len L;have h0:xb I' x x n=0:=by
  rw[BV (x':=x) (fun _ _=>rfl) hc,xc,cH (g:=fun _=>0) fun k R=>by rw[yn,hs k R,az],dU]
 exact h.OG x L h0
structure yo(M:List (List Rat))(n:Nat)(I':Nat->Rat)(b x:List Rat):Prop where
 len:x.length=n
 eq:∀j,j<M.length->mulR M n (fun t=>x.getD t 0) j=b.getD j 0
 st:∀k,k<(cR M n).length->xb I' (cW (cR M n) k) (fun t=>x.getD t 0) n=0
theorem CK.one(h:CK M n I'){x y:List Rat}(L:yo M n I' b x)(hy:yo M n I' b y):x=y:=by
 refine iL 0 (by rw[L.len,hy.len]) fun t ht=>?_;rw[L.len]at ht
 have:=h.only (x:=fun t=>x.getD t 0-y.getD t 0) (fun j hj=>by rw[Jw,L.eq j hj,hy.eq j hj];grind) (fun k R=>by
  rw[show (fun t=>x.getD t 0-y.getD t 0)=fun t=>x.getD t 0+(-1)*y.getD t 0 from funext fun t=>by grind,HI,L.st k R];have X:=hy.st k R;unfold xb at X ⊢;rw[cH (f:=fun t=>I' t*(cW (cR M n) k t*(-1*y.getD t 0))) (g:=fun t=>(-1)*(I' t*(cW (cR M n) k t*y.getD t 0))) fun t _=>by grind,dY,X]
  grind) t ht
 grind
end
theorem yp{a b:List Rat}{t:Nat}(ht:t<a.length):(lu a b).getD t 0=a.getD t 0*b.getD t 0:=by
 have h:=aB ht;rw[getD_some h];exact getD_some (by rw[lu,List.getElem?_mapIdx,h];rfl)
section
variable{M:List (List Rat)}{n:Nat}{fl b:List Rat}
theorem vA(M:List (List Rat))(n:Nat)(fl:List Rat){i j:Nat}(D:i<(cR M n).length)(hj:j<(cR M n).length):cW (eO (cR M n) fl) i j=HJ M n (fun t=>fl.getD t 0) i j:=by
 have hr:=aB D;have hs:=aB hj;have hl:((cR M n)[i]).length=n:=np M n _ (aX D);have I:(eO (cR M n) fl)[i]? =some ((cR M n).map fun r=>fL (lu (cR M n)[i] fl) r (cR M n)[i].length):=by rw[eO,aM,hr];rfl
 have X:((cR M n).map fun r=>fL (lu (cR M n)[i] fl) r (cR M n)[i].length)[j]? =some (fL (lu (cR M n)[i] fl) (cR M n)[j] (cR M n)[i].length):=by rw[aM,hs];rfl
 rw[cW,getD_some I,getD_some X,sH,hl];refine cH fun t ht=>?_;rw[yp (by omega),cW,cW,getD_some hr,getD_some hs];grind
theorem ns(st:List (List Rat))(fl:List Rat):gh st.length (eO st fl):=fun r hr=>by
 obtain⟨s,hs,rfl⟩:=aR.1 hr;rw[aL]
theorem EH(M:List (List Rat))(n:Nat)(fl x:List Rat){i:Nat}(D:i<(cR M n).length):(gQ (cR M n) fl x).getD i 0= -(xb (fun t=>fl.getD t 0) (cW (cR M n) i) (fun t=>x.getD t 0) n):=by
 have hr:=aB D;have hl:((cR M n)[i]).length=n:=np M n _ (aX D);have I:(gQ (cR M n) fl x)[i]? =some (-(fL (lu (cR M n)[i] fl) x (cR M n)[i].length)):=by rw[gQ,aM,hr];rfl
 rw[getD_some I,sH,hl];congr 1;refine cH fun t ht=>?_;rw[yp (by omega),cW,getD_some hr];grind
theorem ql(st:List (List Rat))(c x:List Rat):∀i,(lD st c x i).length=x.length
 |0=>rfl
 |i+1=>by rw[lD,List.length_mapIdx,ql st c x i]
theorem yq(st:List (List Rat))(c x:List Rat){t:Nat}(ht:t<x.length):∀i,(lD st c x i).getD t 0=x.getD t 0+cQ (fun k=>c.getD k 0*cW st k t) i
 |0=>(bD _).symm
 |i+1=>by
  have hl:t<(lD st c x i).length:=by rw[ql];exact ht
  have ih:=yq st c x ht i;rw[getD_some (aB hl)]at ih;rw[getD_some (show (lD st c x (i+1))[t]? =some ((lD st c x i)[t]+c.getD i 0*(st.getD i []).getD t 0) by rw[lD,List.getElem?_mapIdx,aB hl];rfl),ih,cQ,Rat.add_assoc];rfl
theorem CK.force(h:CK M n fun t=>fl.getD t 0)(h0:jG M b n=some x0):∃c,jG (eO (cR M n) fl) (gQ (cR M n) fl x0) (cR M n).length=some c/\c.length=(cR M n).length/\
  yo M n (fun t=>fl.getD t 0) b (lD (cR M n) c x0 (cR M n).length):=by
 obtain⟨Ro,R1⟩:=sK h.len h0;have hG:=ns (cR M n) fl;have hGl:(eO (cR M n) fl).length=(cR M n).length:=aL _;have hc:∃c,jG (eO (cR M n) fl) (gQ (cR M n) fl x0) (cR M n).length=some c:=by
  cases e:jG (eO (cR M n) fl) (gQ (cR M n) fl x0) (cR M n).length with
  |some c=>exact⟨c,rfl⟩
  |none=>
   obtain⟨y,y1,y2⟩:=yi hG e;rw[hGl]at y1 y2;have hy:=h.KD (c:=y) fun i D=>Eq.trans (cH fun j hj=>by rw[vA M n fl hj D,bs];unfold HJ;rw[yn]) (y1 i D);exact absurd (by rw[cH (g:=fun _=>0) fun j hj=>by rw[hy j hj,bC],dU]) y2
 obtain⟨c,hc⟩:=hc;obtain⟨c1,c2⟩:=sK hG hc;refine⟨c,hc,c1,by rw[ql];exact Ro,fun j hj=>?_,fun k R=>?_⟩
 ·rw[Fv (y:=fun t=>x0.getD t 0+cQ (fun k=>c.getD k 0*cW (cR M n) k t) (cR M n).length) fun t ht=>yq _ c x0 (by omega) _,EF,EG,R1 j hj,cH (g:=fun _=>0) fun k R=>by rw[EA h.len R j hj,az],dU,bD]
 ·rw[BV (x':=cW (cR M n) k) (y':=fun t=>x0.getD t 0+cQ (fun k=>c.getD k 0*cW (cR M n) k t) (cR M n).length) (fun _ _=>rfl) fun t ht=>yq _ c x0 (by omega) _,HI,xc];have X:=c2 k (by omega);rw[EH M n fl x0 R]at X;unfold mulR at X;rw[cH (g:=fun t=>c.getD t 0*xb (fun t=>fl.getD t 0) (cW (cR M n) k) (cW (cR M n) t) n) fun t ht=>by rw[vA M n fl R ht,bs];rfl]at X;rw[X];grind
end
def ez(M:List (List Int))(r c:Nat):Int:=(M.getD r []).getD c 0
theorem getD_set_ne{α:Type}{l:List α}{i j:Nat}{x d:α}(h:i≠j):(l.set i x).getD j d=l.getD j d:=by rw[List.getD,aT h,<-List.getD]
theorem jV{α:Type}{l:List α}{i:Nat}{x d:α}(h:i<l.length):(l.set i x).getD i d=x:=by rw[List.getD,aO h];rfl
theorem gX{M:List (List Int)}{r r' c':Nat}(h:r'≠r\/c'≠c):ez (putAt M r c d) r' c'=ez M r' c':=by
 unfold ez putAt;by_cases I:r'=r
 ·subst I;have X:c≠c':=h.elim (fun h=>absurd rfl h) fun h=>h.symm;rcases aP r' M.length with N|N
  ·rw[jV N,getD_set_ne X]
  ·rw[List.set_eq_of_length_le N]
 ·rw[getD_set_ne (Ne.symm I)]
theorem tQ{M:List (List Int)}{r:Nat}(hr:r<M.length)(hc:c<(M.getD r []).length):ez (putAt M r c d) r c=d:=by
 unfold ez putAt;rw[jV hr,jV hc]
theorem gH(M:List (List Int))(r c:Nat)(d:Int):yb M r c d=putAt M r c (ez M r c+d):=rfl
theorem jx{i:Nat}{b:Int×Int×Rat}(hb:f.bars[i]? =some b):f.bars.getD i (0,0,0)=b:=by rw[List.getD,hb];rfl
theorem qm{f:ed}{M:List (List Int)}{i c r:Nat}(h:c≠i):∀k,ez (fD f M i k) r c=ez M r c
 |0=>rfl
 |k+1=>by
  rw[fD];rw[gH,gX (.inr h),gH,gX (.inr h)];exact qm h k
theorem kG(f:ed){r c:Nat}:∀i,i<=c->ez (eG f i) r c=0
 |0,_=>by
  unfold ez eG;rcases aP r (3*f.nodes.length)with h|h
  ·rw[show (List.replicate (3*f.nodes.length) (List.replicate f.cols (0:Int))).getD r []=List.replicate f.cols 0 by rw[List.getD,List.getElem?_replicate,if_pos h];rfl,List.getD,List.getElem?_replicate];split<;>rfl
  ·rw[show (List.replicate (3*f.nodes.length) (List.replicate f.cols (0:Int))).getD r []=[] by rw[List.getD,List.getElem?_replicate,aI (by omega)];rfl];rfl
 |i+1,h=>by rw[eG,qm (by omega)];exact kG f i (by omega)
theorem toNat_add{a:Int}{k ka:Nat}(h:a=ka):(3*a+(k:Int)).toNat=3*ka+k:=by omega
theorem BW{f:ed}{M:List (List Int)}{i r ka kb:Nat}{b:Int×Int×Rat}(hb:f.bars[i]? =some b)(ea:b.1=ka)(eb:b.2.1=kb):∀k,k<=3->k<=r % 3->ez (fD f M i k) r i=ez M r i
 |0,_,_=>rfl
 |k+1,N,h=>by
  rw[fD];rw[jx hb,toNat_add ea,toNat_add eb,gH,gX (.inl (by omega)),gH,gX (.inl (by omega))];exact BW hb ea eb k (by omega) (by omega)
theorem yr{i r ka kb k:Nat}{b:Int×Int×Rat}(hb:f.bars[i]? =some b)(ea:b.1=ka)(eb:b.2.1=kb)(R:k<=3)(h:k<=r % 3):ez (fD f (eG f i) i k) r i=0:=by
 rw[BW hb ea eb k R h];exact kG f i (Nat.le_refl _)
theorem sL{f:ed}{r c:Nat}(h:c<f.bars.length):∀k,ez (fG f k) r c=ez (eG f f.bars.length) r c
 |0=>rfl
 |k+1=>by
  rw[fG];rw[gX (.inr (by omega))];exact sL h k
theorem wH{f:ed}{r i:Nat}:∀k,k<=i->ez (fG f k) r (f.bars.length+i)=0
 |0,_=>kG f _ (by omega)
 |k+1,h=>by
  rw[fG];rw[gX (.inr (by omega))];exact wH k (by omega)
def dP(s:Int×Int×Rat):Nat:=(3*s.1+s.2.1).toNat
theorem BX{f:ed}(Y:∀k,∀l∈fG f k,l.length=f.cols)(hlen:∀k,(fG f k).length=3*f.nodes.length)(OR:∀s∈f.cM,dP s<3*f.nodes.length){r i:Nat}{s:Int×Int×Rat}(hs:f.cM[i]? =some s):
  ∀k,i<k->ez (fG f k) r (f.bars.length+i)=if r=dP s then 1 else 0
 |0,h=>by omega
 |k+1,h=>by
  rw[fG];rcases aP i k with I|I
  ·rw[gX (.inr (by omega))];exact BX Y hlen OR hs k I
  ·have:i=k:=by omega
   subst this;have G:f.cM.getD i (0,0,0)=s:=by rw[List.getD,hs];rfl
   have hsr:=OR s (aE hs);have D:=(aD.1 hs).1;rw[G];by_cases X:r=dP s
   ·rw[if_pos X,X];have hm:dP s<(fG f i).length:=by rw[hlen];exact hsr
    exact tQ hm (by
     show f.bars.length+i<((fG f i).getD (dP s) []).length;rw[List.getD,aB hm];show f.bars.length+i<((fG f i)[dP s]).length;rw[Y i _ (aX hm),ed.cols]
     omega)
   ·rw[aI X];exact(gX (r:=dP s) (.inl X)).trans (wH i (Nat.le_refl _))
end Go.Ex
namespace Go.Ex
open Go Go.Sx Go.Proofs
variable{O:Nat->Sx.dL}
theorem Cv.new{w V:World}{g:Nat}(G:Cf w [(w.heap.size,V.heap.size)] g):Nf w V g:=by
 rcases G with G|⟨I,lo,D,X,N,h4⟩
 ·exact G.elim
 ·simp at X;obtain⟨rfl,rfl⟩:=X;exact .inr ⟨N,h4⟩
structure aA9(w:World)(B:Nat)(iv:Iv)(v:Value)(M:List (List Rat)):Prop where
 row:∃rv,w.ownsRow 0 T.jC 1 v M.length rv/\rv.length=M.length/\(∀u∈rv,u.oneCell'=true)/\∀(i:Nat) u x,rv[i]? =some u->M[i]? =some x->cS w (Bs FF B iv v) u x
 new:∀g,v.ownBlock=some g->Cv FF B iv g
section
variable{H:Hp}{nx:Nat}{iv E:Iv}{B:Nat}{w J V:World}{O:Nat->Sx.dL}{v:Value}{M:List (List Rat)}
end
theorem At.aAH{id n:Nat}:((At.w id n).den O).oneCell'=true:=by
 cases h:(O id).nil<;>simp[At.den,h,Value.oneCell']
end Go.Ex
namespace Go.Ex
variable{s:Int×Int×Rat}{M:List (List Int)}{r:Nat}{x:Nat->Rat}{f:ed}
theorem MB{c:Nat}:cW (M.map ew) r c=((ez M r c:Int):Rat):=by
 have key:∀l:List Int,(ew l).getD c 0=((l.getD c 0:Int):Rat):=fun l=>by
  rw[ew,List.getD,List.getD,aM]
  cases l[c]? <;>rfl
 unfold cW ez;rw[<-key];congr 1;rw[List.getD,List.getD,aM]
 cases M[r]? <;>rfl
theorem pR(f:ed)(r c:Nat):cW (cY f) r c=((ez (jF f) r c:Int):Rat):=MB
def MC(n:Nat)(M:List (List Int)):Prop:=∀l∈M,l.length=n
theorem MC.put{n c:Nat}{d:Int}(h:MC n M):MC n (putAt M r c d):=fun l hl=>by
 unfold putAt at hl;rcases aP r M.length with hr|hr
 ·rcases a9 hl with hl|rfl
  ·exact h l hl
  ·rw[bX,List.getD,aB hr];exact h _ (aX hr)
 ·rw[List.set_eq_of_length_le hr]at hl;exact h l hl
theorem vB{f:ed}{M:List (List Int)}{n i:Nat}(h:MC n M):∀k,MC n (fD f M i k)
 |0=>h
 |k+1=>by rw[fD];rw[gH,gH];exact((vB h k).put).put
theorem sM(f:ed):∀i,MC f.cols (eG f i)
 |0=>fun l hl=>by rw[eG]at hl;rw[b9 hl,bN]
 |i+1=>by rw[eG];exact vB (sM f i) 3
theorem nt(f:ed):∀i,MC f.cols (fG f i)
 |0=>sM f _
 |i+1=>by rw[fG];exact(nt f i).put
theorem kc(M:List (List Int))(r c:Nat)(d:Int):(putAt M r c d).length=M.length:=bX ..
theorem nu(f:ed)(M:List (List Int))(i:Nat):∀k,(fD f M i k).length=M.length
 |0=>rfl
 |k+1=>by rw[fD];rw[gH,gH,kc,kc];exact nu f M i k
theorem mZ(f:ed):∀i,(eG f i).length=3*f.nodes.length
 |0=>bN ..
 |i+1=>by rw[eG,nu];exact mZ f i
theorem ma(f:ed):∀i,(fG f i).length=3*f.nodes.length
 |0=>mZ f _
 |i+1=>by rw[fG,kc];exact ma f i
theorem lz(f:ed):gh f.cols (cY f):=fun r hr=>by
 obtain⟨l,hl,rfl⟩:=aR.1 hr;rw[ew,aL];exact nt f _ l hl
theorem oA(f:ed):(cY f).length=3*f.nodes.length:=by rw[cY,aL];exact ma f _
structure FrV(f:ed):Prop where
 co:∀p∈f.nodes,(-1000000<=p.1/\p.1<=1000000)/\(-1000000<=p.2.1/\p.2.1<=1000000)/\(-1000000<=p.2.2/\p.2.2<=1000000)
 JH:∀b∈f.bars,∃ka kb:Nat,b.1=ka/\b.2.1=kb/\ka<f.nodes.length/\kb<f.nodes.length/\ka≠kb/\0<b.2.2
 sup:∀s∈f.cM,dP s<3*f.nodes.length/\0<=s.2.2
 one:∀(i j:Nat) s t,f.cM[i]? =some s->f.cM[j]? =some t->dP s=dP t->i=j
 n:f.nodes.length<=20
 b:f.bars.length<=60
 s:f.cM.length<=60
theorem HK{α:Type}{l:List α}{x:α}(h:x∈l):∃i:Nat,l[i]? =some x:=by
 obtain⟨i,D,rfl⟩:=List.mem_iff_getElem.1 h;exact⟨i,aB D⟩
theorem NT(h:eN f=0):FrV f:=by
 have OV:=xd h;obtain⟨⟨I,X,N⟩,h4,h5,h6⟩:=BY h;have Vq:∀(k:Nat) s,f.cM[k]? =some s->jB f.nodes.length s.1/\(0<=s.2.1/\s.2.1<=2)/\iY s∉(f.cM.take k).map iY/\0<=s.2.2:=fun k s hs=>qn.1 (jW h6 k s hs);have OR:∀(k:Nat) s,f.cM[k]? =some s->(dP s:Int)=3*s.1+s.2.1/\dP s<3*f.nodes.length:=fun k s hs=>by
  obtain⟨⟨a1,a2⟩,⟨a3,a4⟩,-,-⟩:=Vq k s hs;unfold dP;omega
 have lt:∀(i j:Nat) s t,i<j->f.cM[i]? =some s->f.cM[j]? =some t->dP s≠dP t:=fun i j s t PH hs ht e=>by
  obtain⟨⟨a1,a2⟩,⟨a3,a4⟩,-,-⟩:=Vq i s hs;obtain⟨⟨b1,b2⟩,⟨b3,b4⟩,b5,-⟩:=Vq j t ht;have e1:=(OR i s hs).1;have e2:=(OR j t ht).1;refine b5 (aR.2 ⟨s,aE (i:=i) (by rw[bO PH];exact hs),?_⟩);exact Prod.ext (by show s.1=t.1;omega) (by show s.2.1=t.2.1;omega)
 refine⟨OV.co,fun b hb=>?_,fun s hs=>?_,fun i j s t hs ht e=>?_,I,X,N⟩
 ·obtain⟨k,R⟩:=HK hb;obtain⟨⟨⟨a1,a2⟩,a3,a4⟩,a5,-,a6⟩:=qo.1 (jW h5 k b R);exact⟨b.1.toNat,b.2.1.toNat,by omega,by omega,by omega,by omega,by omega,a6⟩
 ·obtain⟨k,R⟩:=HK hs;exact⟨(OR k s R).2,(Vq k s R).2.2.2⟩
 ·rcases bp i j with h7|h7|h7
  ·exact absurd e (lt i j s t h7 hs ht)
  ·exact h7
  ·exact absurd e.symm (lt j i t s h7 ht hs)
theorem EI(M:List (List Int))(r c r' c':Nat)(d:Int):ez (putAt M r c d) r' c'=d\/ez (putAt M r c d) r' c'=ez M r' c':=by
 by_cases h:r'=r/\c'=c
 ·obtain⟨rfl,rfl⟩:=h;rcases aP r' M.length with I|I
  ·rcases aP c' (M.getD r' []).length with X|X
   ·exact .inl (tQ I X)
   ·refine .inr ?_;unfold ez putAt;rw[jV I,List.set_eq_of_length_le X]
  ·refine .inr ?_;unfold ez putAt;rw[List.set_eq_of_length_le I]
 ·exact .inr (gX (by
   by_cases I:r'=r
   ·exact .inr fun X=>h ⟨I,X⟩
   ·exact .inl I))
theorem EJ{k:Nat}(R:k<f.nodes.length):f.node (k:Int)∈f.nodes:=by
 rw[ed.node,aF,List.getD,aB R];exact aX R
section
variable{f:ed}(h:FrV f)
include h
theorem FrV.OH{b:Int×Int×Rat}(hb:b∈f.bars)(k:Nat): -2000000<=(jR f b).getD k 0/\(jR f b).getD k 0<=2000000:=by
 obtain⟨ka,kb,ea,eb,Uo,OT,-,-⟩:=h.JH b hb;obtain⟨⟨a1,a2⟩,⟨a3,a4⟩,a5,a6⟩:=h.co _ (EJ Uo);obtain⟨⟨b1,b2⟩,⟨b3,b4⟩,b5,b6⟩:=h.co _ (EJ OT);rw[jR,ea,eb]
 match k with
 |0=>simp[List.getD];omega
 |1=>simp[List.getD];omega
 |2=>simp[List.getD];omega
 |k+3=>simp[List.getD]
theorem FrV.EK{i:Nat}{b:Int×Int×Rat}(hb:f.bars[i]? =some b)(r:Nat):∀k,k<=3-> -2000000<=ez (fD f (eG f i) i k) r i/\ez (fD f (eG f i) i k) r i<=2000000
 |0,_=>by
  have:=kG f (r:=r) i (Nat.le_refl i);rw[fD,this];omega
 |k+1,R=>by
  obtain⟨ka,kb,ea,eb,-,-,OS,-⟩:=h.JH b (aE hb);have ih:=FrV.EK hb r k (by omega);have hd:=h.OH (aE hb) k;have z1:=yr (r:=3*ka+k) hb ea eb (show k<=3 by omega) (by omega);have z2:=yr (r:=3*kb+k) hb ea eb (show k<=3 by omega) (by omega);rw[fD];rw[jx hb,toNat_add ea,toNat_add eb,gH,gH,z1,gX (r':=3*kb+k) (.inl (by omega)),z2];rcases EI (putAt (fD f (eG f i) i k) (3*ka+k) i (0+(jR f b).getD k 0)) (3*kb+k) i r i (0+ -(jR f b).getD k 0)with e|e
  ·rw[e];omega
  ·rw[e];rcases EI (fD f (eG f i) i k) (3*ka+k) i r i (0+(jR f b).getD k 0)with e|e
   ·rw[e];omega
   ·rw[e];exact ih
theorem FrV.HL{i r:Nat}(D:i<f.bars.length):∀j,i<j->j<=f.bars.length-> -2000000<=ez (eG f j) r i/\ez (eG f j) r i<=2000000
 |0,I,_=>by omega
 |j+1,I,X=>by
  rw[eG];rcases aP i j with N|N
  ·rw[qm (by omega)];exact FrV.HL D j N (by omega)
  ·rw[show j=i by omega];exact h.EK (aB D) r 3 (Nat.le_refl _)
theorem FrV.sN{i:Nat}(hs:f.cM[i]? =some s):ez (jF f) r (f.bars.length+i)=if r=dP s then 1 else 0:=
 BX (nt f) (ma f) (fun s hs=>(h.sup s hs).1) hs _ (aD.1 hs).1
theorem FrV.NU(r c:Nat): -2000000<=ez (jF f) r c/\ez (jF f) r c<=2000000:=by
 rcases aP c f.bars.length with hc|hc
 ·rw[jF,sL hc];exact h.HL hc _ hc (Nat.le_refl _)
 ·rcases aP c f.cols with I|I
  ·obtain⟨i,rfl⟩:∃i,c=f.bars.length+i:=⟨c-f.bars.length,by omega⟩
   rw[ed.cols]at I;rw[h.sN (aB (show i<f.cM.length by omega))];split<;>omega
  ·have:ez (jF f) r c=0:=by
    unfold ez;rw[List.getD,List.getElem?_eq_none]
    ·rfl
    ·rcases aP r (jF f).length with X|X
     ·rw[List.getD,aB X];show((jF f)[r]).length<=c;rw[nt f _ _ (aX X)];exact I
     ·rw[List.getD,List.getElem?_eq_none X];exact aS _
   rw[this];omega
theorem FrV.yt(r c:Nat):Ib 2000000 (cW (cY f) r c):=by
 rw[pR];have:=h.NU r c;exact Ib.int (by omega)
theorem FrV.xe:Dw (cY f) f.cols 2000000:=fun j _=>⟨1,by decide,Ib.one (by decide),fun t _=>by rw[bm];exact h.yt j t⟩
theorem FrV.only(L:∀j,j<(cY f).length->mulR (cY f) f.cols x j=0)(h0:∀t,t<f.bars.length->x t=0):∀t,t<f.cols->x t=0:=fun t ht=>by
 rcases aP t f.bars.length with I|I
 ·exact h0 t I
 ·obtain⟨i,rfl⟩:∃i,t=f.bars.length+i:=⟨t-f.bars.length,by omega⟩
  have D:i<f.cM.length:=by unfold ed.cols at ht;omega
  have hs:=aB D;have hr:=h.sup _ (aX D);have X:=L (dP f.cM[i]) (by rw[oA];exact hr.1);unfold mulR at X;rw[fY ht fun k R OS=>?_,pR,h.sN hs,if_pos rfl]at X
  ·have e:((1:Int):Rat)*x (f.bars.length+i)=x (f.bars.length+i):=bm _
   rwa [e]at X
  ·rcases aP k f.bars.length with N|N
   ·rw[h0 k N,az]
   ·obtain⟨i',rfl⟩:∃i,k=f.bars.length+i:=⟨k-f.bars.length,by omega⟩
    have Sp:i'<f.cM.length:=by unfold ed.cols at R;omega
    have Tj:=aB Sp;rw[pR,h.sN Tj,aI fun e=>OS (by rw[h.one i i' _ _ hs Tj e])];exact bC _
theorem FrV.KE{t:Nat}(ht:t<f.bars.length):0<(dI f).getD t 0:=by
 obtain⟨_,_,_,_,_,_,_,I⟩:=h.JH _ (aX ht);rw[dI,List.getD,aJ (by rw[aL];exact ht),aM,aB ht];exact I
theorem FrV.EL(t:Nat):0<=(dI f).getD t 0:=by
 rw[List.getD]
 cases ht:(dI f)[t]? with
 |none=>exact Rat.le_refl
 |some q=>
  show 0<=q;have hm:=aE ht;rcases List.mem_append.1 hm with hm|hm
  ·obtain⟨b,hb,rfl⟩:=aR.1 hm;obtain⟨_,_,_,_,_,_,_,I⟩:=h.JH b hb;exact Rat.le_of_lt I
  ·obtain⟨s,hs,rfl⟩:=aR.1 hm;exact(h.sup s hs).2
theorem FrV.OI:CK (cY f) f.cols fun t=>(dI f).getD t 0:=by
 refine⟨lz f,fun t _=>h.EL t,fun x L h0=>h.only L fun t ht=>?_⟩;have I:=wD (f:=fun t=>(dI f).getD t 0*(x t*x t)) (n:=f.cols) (fun k _=>Rat.mul_nonneg (h.EL k) (sq_nonneg _)) (by rw[h0];exact Rat.le_refl) t (by unfold ed.cols;omega);have X:=h.KE ht;rcases Rat.mul_eq_zero.1 I with N|N
 ·rw[N]at X;exact absurd X (Rat.lt_irrefl)
 ·rcases Rat.mul_eq_zero.1 N with h4|h4<;>exact h4
end
theorem oB(f:Nat->Rat)(a:Nat):∀b,cQ f (a+b)=cQ f a+cQ (fun k=>f (a+k)) b
 |0=>(bD _).symm
 |b+1=>by rw[show a+(b+1)=a+b+1 by omega,cQ,cQ,oB f a b,Rat.add_assoc]
section
variable{M:List (List Rat)}{n:Nat}
end
section
variable{M:List (List Rat)}{n:Nat}{fl b:List Rat}
end
end Go.Ex
namespace Go.Ex
open Go Go.Sx Go.Proofs
section
variable{S S':Nat->Prop}{H:Hp}{nx:Nat}{iv E:Iv}{B:Nat}{w J V:World}{O:Nat->Sx.dL}{v:Value}{M:List (List Int)}
end
end Go.Ex
namespace Go.Ex
open Go
section
theorem Fw:∀(F' m:Nat) (g:Nat->Nat),(∀i,i<m->g i<F')->(∀i j,i<m->j<m->g i=g j->i=j)->m<=F'
 |0,m,g,I,_=>by
  rcases bJ m with h|h
  ·omega
  ·exact absurd (I 0 h) (Nat.not_lt_zero _)
 |F'+1,m,g,I,X=>by
  by_cases h:∃i,i<m/\g i=F'
  ·obtain⟨i0,D,e⟩:=h
   have:=Fw F' (m-1) (fun i=>if i<i0 then g i else g (i+1)) (fun i Sp=>by
    show(if i<i0 then g i else g (i+1))<F';split
    ·rename_i Ou;have:=I i (by omega);have:g i≠F':=fun e2=>by have:=X i i0 (by omega) D (by rw[e2,e]);omega
     omega
    ·have:=I (i+1) (by omega);have:g (i+1)≠F':=fun e2=>by have:=X (i+1) i0 (by omega) D (by rw[e2,e]);omega
     omega) (fun i j Sp hj' e2=>by
    have e3:(if i<i0 then g i else g (i+1))=(if j<i0 then g j else g (j+1)):=e2;split at e3<;>split at e3
    ·exact X _ _ (by omega) (by omega) e3
    ·have:=X _ _ (by omega) (by omega) e3;omega
    ·have:=X _ _ (by omega) (by omega) e3;omega
    ·have:=X _ _ (by omega) (by omega) e3;omega)
   omega
  ·exact Nat.le_succ_of_le (Fw F' m g (fun i D=>by
    have:=I i D;have:g i≠F':=fun e=>h ⟨i,D,e⟩
    omega) X)
structure FrS(f:ed):Prop extends FrV f where
 n4:f.nodes.length<=4
 b6:f.bars.length<=6
variable{f:ed}
theorem FrS.s12(h:FrS f):f.cM.length<=12:=by
 have:=Fw (3*f.nodes.length) f.cM.length (fun i=>dP (f.cM.getD i (0,0,0))) (fun i D=>by
  have e:f.cM.getD i (0,0,0)=f.cM[i]:=getD_some (aB D);show dP (f.cM.getD i (0,0,0))<_;rw[e]
  exact(h.sup _ (aX D)).1) (fun i j D hj e=>by
  have e1:f.cM.getD i (0,0,0)=f.cM[i]:=getD_some (aB D);have e2:f.cM.getD j (0,0,0)=f.cM[j]:=getD_some (aB hj);have e:dP (f.cM.getD i (0,0,0))=dP (f.cM.getD j (0,0,0)):=e;rw[e1,e2]at e
  exact h.one i j _ _ (aB D) (aB hj) e)
 have:=h.n4;omega
theorem FrS.Nv(h:FrS f):f.cols<=18:=by
 have I:=h.s12;have X:=h.b6;unfold ed.cols;omega
theorem FrS.OJ(h:FrS f):(cY f).length<=12:=by
 rw[oA];have:=h.n4;omega
theorem OK:18*2000000<=wt 1:=by decide
theorem FrS.size(h:FrS f):ln (fB 2000000 (cY f).length)<=13:=by
 have:=h.OJ;have X:=Mk (B:=2000000) (FS:=18) (l:=1) (n:=(cY f).length) (by omega) OK;omega
end
end Go.Ex
namespace Go.Ex
open Go Go.Sx Go.Proofs
variable{M:List (List Rat)}{s:List Int}{l:List Ld}{S:Nat->Prop}{f:ed}
theorem AA{n B h:Nat}(hM:gh n M)(hW:Dw M n B)(hB:1<=B)(hh:ln (fB B M.length)+1<=h):Ef M n h:=
 ⟨fun i D r hr q hq=>by have:=Jt hM hW hB D r hr q hq;omega,fun i D k R q hq=>by have:=Ju hM hW hB D R q hq;omega⟩
theorem Ga{n B h:Nat}(hM:gh n M)(hW:Dw M n B)(hB:1<=B)(hh:ln (fB B M.length)+1<=h):Ht (dh M n).1 h:=fun r hr q hq=>by
 rw[(sJ hM hW).2]at hr;have:=Fp hM hW hB (Nat.le_refl n) r (bS hr) q hq;omega
section
variable{S:Nat->Prop}{w:World}{v u:Value}{M:List (List Rat)}{b:List Rat}{n h0:Nat}
end
theorem Am{w:World}{vn vb vs vl:Value}(F:Old S w)(hf:dm w S vn vb vs f)(hl:jS w S vl l):dx PG F'.nB #[.agg #[vn,vb,vs],vl] w (eH w fun v' _=>v'= .int .i64 (uO f.nodes.length l)):=by
 have Y:=bR w;obtain⟨an,cn,ab,cb,aq,cq,rfl,rfl,rfl,RX,RP,Sk⟩:=hf.shape;obtain⟨al,cl,rfl,PZ,Qq⟩:=hl.shape;unfold maxLen at Qq;refine rG (by simp) ?_;refine dB.mk ?_ ?_<;>intro I
 ·have I:=aK I;exact rtn Y fun GT we re=>by show Value.int .i64 _=_;rw[uO,if_pos (by omega)]
 have I:=aH I
 refine⟨Nat×World×Iv,fun z=>⟨[(1,sV al l.length cl),(2,pP 0 0),(5,iN z.1)],[(0,.box T.Frame [.v (.slice an f.nodes.length cn),.v (.slice ab f.bars.length cb),.v (.slice aq f.cM.length cq)])],1,z.2.2,z.2.1⟩,fun z=>l.length-z.1,
  fun z=>z.1<=l.length/\dT w.heap.size w z.2.1/\uO f.nodes.length l=e9 (fun _=>j2 f.nodes.length) (l.take z.1) (l.drop z.1),?_,?_⟩
 ·intro O J K;exact⟨(0,J,[]),⟨aS _,Y.tr K.cL,by rw[uO,aI (by omega)];rfl⟩,Sub.gn [] K⟩
 clear Y;rintro⟨i,w1,iv⟩ ⟨D,Y,hE⟩;dsimp only at D Y hE ⊢;refine dB.mk ?_ ?_<;>intro OQ
 ·have OQ:i<l.length:=by simpa using OQ
  obtain⟨x,L⟩:∃x,l[i]? =some x:=⟨_,aB OQ⟩
  obtain⟨adx,U,Pu,hP,-,Pt⟩:=hl.load (by decide) L;have hP:U=[.int .i64 x.1,.int .i64 x.2.1,.int .i64 x.2.2.1,.int .i64 x.2.2.2]:=hP;subst hP;refine cI hτ dN [.x 0,.x 1,.x 2,.x 3,.x 4,.x 5,.x 6,.x 7] (by kernel_rfl) (by kernel_rfl) ?_;refine⟨adx,Pu,by omega,.int .i64 x.1,fun O J r=>?_,?_⟩
  ·obtain⟨k1,k2⟩:=Pt 0 _ rfl;rw[cJ (w:=w) (V:=J) (by simp only[c9];exact(Y.tr r.cL).block _ (F _ k1))];simp only[aF,Cu]at k2 ⊢;exact k2
  refine cE Y (fun _ J v V=>∃d,v= .bool d/\(d=true↔jB f.nodes.length x.1)) (fun O J r=>qt _ _ _ _ _ _ _ _ _ _ J) ?_;rintro O _ _ _ OZ r W Y h_ ⟨d,rfl,hd⟩;clear r
  cases d
  ·have hc:j2 f.nodes.length x=6:=by
    unfold j2;rw[aI fun h=>by have:=hd.2 h;cases this]
   exact rtn Y fun GT we re=>by show Value.int .i64 _=_;rw[hE,cO L hc (by decide)]
  have hd:=hd.1 rfl;refine⟨adx,Pu,by omega,[.int .i64 x.1,.int .i64 x.2.1,.int .i64 x.2.2.1,.int .i64 x.2.2.2],rfl,rdO Pt Y F,?_⟩;refine cB (cE Y (fun _ J v V=>∃d,v= .bool d/\(d=true↔Lt x.2)) (fun O J r=>Is x J) ?_);rintro O _ _ _ OU r W Y h_ ⟨d2,rfl,PN⟩;clear r
  cases d2
  ·have hc:j2 f.nodes.length x=2:=by
    unfold j2;rw[if_pos hd,aI fun h=>by have:=PN.2 h;cases this]
   exact rtn Y fun GT we re=>by show Value.int .i64 _=_;rw[hE,cO L hc (by decide)]
  have PN:=PN.1 rfl;have hc:j2 f.nodes.length x=0:=by
   unfold j2;rw[if_pos hd];exact if_pos PN
  rw[gL L hc]at hE;refine⟨((i+1:Nat):Int),wo,?_⟩;intro IR w6 K;exact⟨(i+1,w6,_),⟨OQ,Y.tr K.cL,hE⟩,Sub.gn [] K,by dsimp only;omega⟩
 have OQ:i=l.length:=aU D (by simpa using OQ);rw[ij (by omega)]at hE;exact rtn Y fun GT we re=>by show Value.int .i64 _=_;rw[hE]
theorem DA{w:World}{vn vb vs vl:Value}(F:Old S w)(hf:dm w S vn vb vs f)(hl:jS w S vl l):dx PG F'.o7 #[.agg #[vn,vb,vs],vl] w (eH w fun v' _=>v'= .int .i64 (kM f l)):=by
 have Y:=bR w;obtain⟨an,cn,ab,cb,aq,cq,rfl,rfl,rfl,RX,RP,Sk⟩:=hf.shape;obtain⟨al,cl,rfl,PZ,Qq⟩:=hl.shape;obtain⟨e0,EE⟩:∃e,eN f=e:=⟨_,rfl⟩
 refine sS (by simp) ?_;refine cB (cE Y (fun _ J v V=>v= .int .i64 e0) (fun O J r=>(Kw (oS F r) (hf.cC (kS Y r F))).mono fun _ _ ⟨v2,e1,e2,e3⟩=>⟨v2,e1,e2,by rw[e3,EE]⟩) ?_);rintro O _ _ _ OZ r W Y h_ rfl;clear r;refine dB.mk ?_ ?_<;>intro W
 ·have W:e0≠0:=by simpa using W
  exact rtn Y fun GT we re=>by show Value.int .i64 _=_;rw[kM,if_pos (by rw[EE];exact W),EE]
 have W:e0=0:=by simpa using W
 refine cB (cE Y (fun _ J v V=>v= .int .i64 (uO f.nodes.length l)) (fun O J r=>Am (oS F r) (hf.cC (kS Y r F)) (hl.cC (kS Y r F))) ?_);rintro O _ _ _ OU r W Y h_ rfl;clear r W;exact rtn Y fun GT we re=>by show Value.int .i64 _=_;rw[kM,aI (by rw[EE,W];decide)]
theorem Nl(h:eN f≠0\/f.nodes.length<=4/\f.bars.length<=6)(h0:eN f=0):FrS f:=⟨NT h0,(h.resolve_left fun e=>e h0).1,(h.resolve_left fun e=>e h0).2⟩
theorem Kz{t:Int}(h:MU s t)(ht:0<=t)(j:Nat): -t<=s.getD j 0/\s.getD j 0<=t:=by
 rcases aP j s.length with hj|hj
 ·rw[getD_some (aB hj)];exact h _ (aX hj)
 ·rw[List.getD,List.getElem?_eq_none hj];show -t<=0/\0<=t;omega
theorem Bg{s:List Int}{x:Ld}{t:Int}(h:MU s t)(ht:0<=t)(L:(-1000000<=x.2.1/\x.2.1<=1000000)/\(-1000000<=x.2.2.1/\x.2.2.1<=1000000)/\(-1000000<=x.2.2.2/\x.2.2.2<=1000000)):∀k,k<=3->MU (iM s x k) (t+1000000*(k:Int))
 |0,_=>by rw[iM];simpa using h
 |k+1,R=>by
  have ih:=Bg h ht L k (by omega);have hd: -1000000<=(Ni x).getD k 0/\(Ni x).getD k 0<=1000000:=by
   rcases(show k=0\/k=1\/k=2 by omega)with rfl|rfl|rfl
   ·exact L.1
   ·exact L.2.1
   ·exact L.2.2
  have G:=Kz ih (by omega) (3*x.1+k).toNat;rw[iM,HE];exact ih.set (by omega) (by omega)
theorem Bh{n:Nat}{l:List Ld}(OV:Em n l):∀i,i<=l.length->MU (iC n l i) (3000000*(i:Int))
 |0,_=>fun z hz=>by rw[b9 hz];decide
 |i+1,D=>by
  have ih:=Bh OV i (by omega);have hm:l.getD i (0,0,0,0)∈l:=by rw[getD_some (aB (show i<l.length by omega))];exact aX _
  have:=Bg ih (by omega) (OV.ld _ hm).2 3 (Nat.le_refl _);rw[iC];intro z hz;have:=this z hz;omega
end Go.Ex
namespace Go.Ex
variable{M:List (List Rat)}{l:Nat}{g:Nat->Rat}{F9 q:Rat}
structure yv(f:ed):Prop extends FrS f where
 fx:∀q∈dI f,rl q<=3
def Bl(b:List Rat):Prop:=∀t,Ib 1000000000 (b.getD t 0)
theorem Ib.w{B:Nat}(h:Ib B q)(k:B<=wt l):Ib (wt l) q:=h.mono k
theorem jr(a b:Nat)(h:a+b<=l):wt a*wt b<=wt l:=by rw[<-CH];exact BI h
theorem Ib.CL{a b:Nat}{p:Rat}(h:Ib (wt a) p)(k:Ib (wt b) q)(hl:a+b<=l):Ib (wt l) (p*q):=(h.mul k).mono (jr a b hl)
theorem Ib.OL{a n:Nat}(Z:n<=18)(h:∀k,k<n->Ib (wt a) (g k))(hl:a+1<=l):Ib (wt l) (cQ g n):=
 (Ib.sum n h).mono (aW (Nat.mul_le_mul_right _ (aW Z (by decide:18<=wt 1))) (jr 1 a (by omega)))
theorem Den.mono{Fn Do:Nat}{l:List Rat}(h:Den Fn F9 l)(k:Fn<=Do):Den Do F9 l:=⟨h.1,h.2.1.mono k,fun t=>(h.2.2 t).mono k⟩
theorem Fu.mono{Fn Do:Nat}(h:Fu Fn F9 M)(k:Fn<=Do):Fu Do F9 M:=⟨h.1,h.2.1.mono k,fun i t=>(h.2.2 i t).mono k⟩
theorem KF{k n FS m:Nat}(Z:n<=FS)(hR:FS<=4294967295)(hl:k+1<=l)(hm:l*FS+1<=m):ln (fB (wt k) n)<=m/\fB (wt k) n<=wt m:=by
 have I:=Mk (B:=wt k) (l:=l) Z (aW (Nat.mul_le_mul_right _ (aW hR (by decide:4294967295<=wt 1))) (jr 1 k (by omega)));have X:l*n+1<=m:=aW (Nat.succ_le_succ (bP _ Z)) hm;exact⟨aW I X,Nat.le_of_lt (gD.1 (aW I X))⟩
section
variable{f:ed}{b x x0 c u:List Rat}
theorem FrS.HN(h:FrS f)(hb:Bl b):Dw (dX (cY f) b) (f.cols+1) (wt 1):=fun j hj=>by
 rw[fP]at hj;have Y:=fun t=>my (b:=b) (t:=t) (lz f) hj;refine⟨1,by decide,Ib.one uz,fun t ht=>?_⟩;rw[bm];rcases aP t f.cols with I|I
 ·rw[(Y t).1 I];exact(h.yt j t).w (by decide)
 ·rw[show t=f.cols by omega,(Y 0).2];exact(hb j).w (by decide)
theorem FrS.KG(h:FrS f):ln (fB (wt 1) (dX (cY f) b).length)<=25:=by
 rw[fP];exact(KF (l:=2) h.OJ (by decide) (by decide) (by decide)).1
theorem FrS.OM(h:FrS f)(hb:Bl b)(h0:jG (cY f) b f.cols=some x0):∃F9,Den (wt 25) F9 x0:=by
 obtain⟨F9,hD⟩:=EB (lz f) (h.HN hb) uz h0;exact⟨F9,hD.mono (KF (l:=2) h.OJ (by decide) (by decide) (by decide)).2⟩
theorem FrS.ker(h:FrS f):∃F9,Fu (wt 13) F9 (cR (cY f) f.cols):=by
 obtain⟨F9,hD⟩:=MA (lz f) h.xe (by decide);exact⟨F9,hD.mono (Nat.le_of_lt (gD.1 h.size))⟩
theorem FrS.Ml(h:FrS f):(cR (cY f) f.cols).length<=18:=by
 have I:=Ft (lz f);have X:=h.Nv;omega
theorem yw(f:ed):(dI f).length=f.cols:=by simp[dI,ed.cols]
theorem yv.aAR(h:yv f):Den (wt 54) (lF (dI f) 18) (dI f):=ED (by rw[yw];exact h.Nv) h.fx
theorem yv.KH(h:yv f)(L:∃F9,Den (wt 25) F9 x0):Dw (dX (eO (cR (cY f) f.cols) (dI f)) (gQ (cR (cY f) f.cols) (dI f) x0)) ((cR (cY f) f.cols).length+1) (wt 106):=fun i D=>by
 rw[fP,eO,aL]at D;obtain⟨D0,a1,a2,a3⟩:=L;obtain⟨D1,b1,b2,b3⟩:=h.ker;obtain⟨c1,c2,c3⟩:=h.aAR;have Z:=h.Nv;have Y:=fun t=>my (b:=gQ (cR (cY f) f.cols) (dI f) x0) (t:=t) (ns (cR (cY f) f.cols) (dI f)) (j:=i) (by rw[eO,aL];exact D);refine⟨lF (dI f) 18*(D1*D1)*D0,xa (xa c1 (xa b1 b1)) a1,(((c2.CL (b2.CL b2 (Nat.le_refl _)) (Nat.le_refl _)).CL a2 (by decide))),fun t ht=>?_⟩;rcases aP t (cR (cY f) f.cols).length with I|I
 ·rw[(Y t).1 I,vA _ _ _ D I];unfold HJ xb;rw[<-dY];refine Ib.OL Z (fun k _=>?_) (Nat.le_refl _);rw[show lF (dI f) 18*(D1*D1)*D0*((dI f).getD k 0*(cW (cR (cY f) f.cols) i k*cW (cR (cY f) f.cols) t k))=(lF (dI f) 18*(dI f).getD k 0)*((D1*cW (cR (cY f) f.cols) i k)*(D1*cW (cR (cY f) f.cols) t k))*D0 by grind];exact((c3 k).CL ((b3 i k).CL (b3 t k) (Nat.le_refl _)) (Nat.le_refl _)).CL a2 (by decide)
 ·rw[show t=(cR (cY f) f.cols).length by omega,(Y 0).2,EH _ _ _ _ D];unfold xb;rw[show lF (dI f) 18*(D1*D1)*D0* -(cQ (fun t=>(dI f).getD t 0*(cW (cR (cY f) f.cols) i t*x0.getD t 0)) f.cols)= -(lF (dI f) 18*(D1*D1)*D0*cQ (fun t=>(dI f).getD t 0*(cW (cR (cY f) f.cols) i t*x0.getD t 0)) f.cols) by grind,<-dY];refine(Ib.OL Z (fun k _=>?_) (Nat.le_refl _)).neg;rw[show lF (dI f) 18*(D1*D1)*D0*((dI f).getD k 0*(cW (cR (cY f) f.cols) i k*x0.getD k 0))=(lF (dI f) 18*(dI f).getD k 0)*((D1*cW (cR (cY f) f.cols) i k)*D1)*(D0*x0.getD k 0) by grind];exact((c3 k).CL ((b3 i k).CL b2 (Nat.le_refl _)) (Nat.le_refl _)).CL (a3 k) (by decide)
theorem yv.HO(h:yv f){b:List Rat}:ln (fB (wt 106) (dX (eO (cR (cY f) f.cols) (dI f)) b).length)<=1927:=by
 rw[fP,eO,aL];exact(KF (l:=107) h.Ml (by decide) (by decide) (by decide)).1
theorem yv.NV(h:yv f)(L:∃F9,Den (wt 25) F9 x0)(hc:jG (eO (cR (cY f) f.cols) (dI f)) (gQ (cR (cY f) f.cols) (dI f) x0) (cR (cY f) f.cols).length=some c):∀q∈c,rl q<=1927:=fun q hq=>by
 obtain⟨F9,hD⟩:=EB (ns _ _) (h.KH L) uz hc;have I:=hD.rl q hq;have X:=h.HO (b:=[]);rw[fP]at X;omega
theorem ME(q:Rat):(q.den:Rat)≠0:=fun e=>by
 have:((q.den:Int):Rat)=((0:Int):Rat):=e;exact q.den_nz (by have:=Rat.intCast_inj.1 this;omega)
theorem yv.fxD(h:yv f){t:Nat}(ht:t<f.cols):rl ((dI f).getD t 0)<=3:=by
 have hl:t<(dI f).length:=by rw[yw];exact ht
 rw[getD_some (aB hl)];exact h.fx _ (aX hl)
end
end Go.Ex
namespace Go.Ex
open Go Go.Sx Go.Proofs
end Go.Ex
namespace Go.Sx
open Go Go.Ex Go.Proofs
variable{U:List Value}{O:Nat->Sx.dL}
theorem Rel.DB{H:Hp}{nx:Nat}{iv:Iv}{B:Nat}{w J:World}(r:Rel H nx iv B w O J){T:Nat->Prop}{id t m sz:Nat}(h:cV H id=some (.vec t sz U))(hm:U.length=m*sz)(Sh:m<=maxLen)(hs:0<sz)(I:∀u∈U,u.oneCell'=true)(hT:(O id).nil=false->T (O id).g):
  iu J T sz ((At.w id m).den O) U m:=by
 rcases r.fits h with⟨Z,rfl⟩|⟨Z,spare,X,N,h4⟩
 ·have Ut:m=0:=by
   rcases bJ m with h|h
   ·exact h
   ·have:=Nat.mul_pos h hs;simp at hm;omega
  subst Ut;have SO:(At.w id 0).den O= .slice none 0 0:=by simp[At.den,Z]
  rw[SO];exact⟨aS _,by simp,by simp,none,0,rfl,Nat.le_refl _,fun j u h=>by cases h⟩
 ·have SO:(At.w id m).den O= .slice (some ⟨(O id).g,0,none⟩) m (O id).cap:=by simp[At.den,Z]
  rw[SO];refine⟨Sh,hm,I,_,_,rfl,?_,fun j u hu=>⟨_,rfl,hT Z,?_⟩⟩
  ·rw[List.length_append,hm]at N;exact Nat.le_of_mul_le_mul_right (show m*sz<=(O id).cap*sz by omega) hs
  ·rw[dA,cell_of X,aV,aJ (aD.1 hu).1];exact hu
end Go.Sx
namespace Go.Ex
open Go Go.Sx Go.Proofs
variable{p:List Rat}{g:Nat}{S:Nat->Prop}
section
variable{S:Nat->Prop}{H:Hp}{nx:Nat}{iv E:Iv}{B n:Nat}{w J V:World}{O:Nat->Sx.dL}{v:Value}{qs:List Rat}
theorem Bs.fresh(r:Rel H nx iv B w O J)(L:∀g,v.ownBlock=some g->g<J.heap.size)(G:Nf J V g):Bs S B ((J.heap.size,V.heap.size)::iv) v g:=by
 rcases G with G|G
 ·exact G.elim
 ·exact⟨.inr ⟨by have:=r.bz;omega,_,_,aG,G.1,G.2⟩,fun e=>by have:=L g e;omega⟩
theorem Bs.solved{T:Nat->Prop}(r:Rel H nx iv B w O J)(L:∀g,v.ownBlock=some g->g<J.heap.size)(hT:∀g,T g->Bs S B iv v g)(G:Cv T J.heap.size [(J.heap.size,V.heap.size)] g):Bs S B ((J.heap.size,V.heap.size)::iv) v g:=by
 rcases G with G|⟨I,lo,D,X,N,h4⟩
 ·exact Bs.mono (fun p hp=>aC _ hp) (hT g G)
 ·simp at X;obtain⟨rfl,rfl⟩:=X;exact Bs.fresh r L (.inr ⟨N,h4⟩)
end
section
variable{S:Nat->Prop}{H:Hp}{nx:Nat}{iv E:Iv}{B:Nat}{w J V:World}{O:Nat->Sx.dL}{v v0:Value}{q:Rat}
theorem lW.rel(h:cN w (Bs S B iv v) v0 q)(r:Rel H nx iv B w O J)(F:∀g,S g->g<B):cN J (Bs S B iv v) v0 q:=cN.cC h (Bs.same r F)
theorem lW.fresh(h:cN V (Nf J V) v0 q)(r:Rel H nx iv B w O J)(L:∀g,v.ownBlock=some g->g<J.heap.size):cN V (Bs S B ((J.heap.size,V.heap.size)::iv) v) v0 q:=cN.cF h fun _ G=>Bs.fresh r L G
theorem lW.cv(h:cN w (Bs S B iv v) v0 q):cN w (Cv S B iv) v0 q:=cN.cF h fun _ G=>G.1
end
section
variable{S:Nat->Prop}{H:Hp}{nx:Nat}{iv E:Iv}{B:Nat}{w J V:World}{O:Nat->Sx.dL}{v v0:Value}{Fn:List (List Rat)}
theorem gC.rel(h:cT w (Bs S B iv v) v0 Fn)(r:Rel H nx iv B w O J)(F:∀g,S g->g<B):cT J (Bs S B iv v) v0 Fn:=cT.cC h (Bs.same r F)
theorem gC.cD(h:cT w (Bs S B iv v) v0 Fn)(r:Rel H nx iv B w O J)(F:∀g,S g->g<B)(W:Ext J V)(hm:∀p,p∈iv->p∈E):cT V (Bs S B E v) v0 Fn:=
 cT.cF (cT.cC (gC.rel h r F) fun g G=>W.block g (Rel.old r F g G.1)) fun _ G=>Bs.mono hm G
theorem gC.fresh(h:cT V (Nf J V) v0 Fn)(r:Rel H nx iv B w O J)(L:∀g,v.ownBlock=some g->g<J.heap.size):cT V (Bs S B ((J.heap.size,V.heap.size)::iv) v) v0 Fn:=cT.cF h fun _ G=>Bs.fresh r L G
theorem gC.kept(h:cT w (Bs S B iv v) v0 Fn)(r:Rel H nx iv B w O J)(F:∀g,S g->g<B)(G:J.grownBy V v.ownBlock):cT V (Bs S B iv v) v0 Fn:=cT.cC h (Bs.kept r F G fun _ e=>e)
end
section
variable{S:Nat->Prop}{H:Hp}{nx:Nat}{iv E:Iv}{B:Nat}{w J V:World}{O:Nat->Sx.dL}{v v0:Value}{xs:List Rat}
theorem eS.rel(h:cS w (Bs S B iv v) v0 xs)(r:Rel H nx iv B w O J)(F:∀g,S g->g<B):cS J (Bs S B iv v) v0 xs:=cS.cC h (Bs.same r F)
theorem eS.cD(h:cS w (Bs S B iv v) v0 xs)(r:Rel H nx iv B w O J)(F:∀g,S g->g<B)(W:Ext J V)(hm:∀p,p∈iv->p∈E):cS V (Bs S B E v) v0 xs:=
 cS.cF (cS.cC (eS.rel h r F) fun g G=>W.block g (Rel.old r F g G.1)) fun _ G=>Bs.mono hm G
theorem eS.fresh(h:cS V (Nf J V) v0 xs)(r:Rel H nx iv B w O J)(L:∀g,v.ownBlock=some g->g<J.heap.size):cS V (Bs S B ((J.heap.size,V.heap.size)::iv) v) v0 xs:=cS.cF h fun _ G=>Bs.fresh r L G
theorem eS.cv(h:cS w (Bs S B iv v) v0 xs):cS w (Cv S B iv) v0 xs:=cS.cF h fun _ G=>G.1
theorem eS.kept(h:cS w (Bs S B iv v) v0 xs)(r:Rel H nx iv B w O J)(F:∀g,S g->g<B)(G:J.grownBy V v.ownBlock):cS V (Bs S B iv v) v0 xs:=cS.cC h (Bs.kept r F G fun _ e=>e)
end
section
variable{S:Nat->Prop}{H:Hp}{nx:Nat}{iv E:Iv}{B:Nat}{w J V:World}{O:Nat->Sx.dL}{v v0:Value}{rv:List Value}{Fn:List (List Rat)}
theorem mi.rel(h:du w (Bs S B iv v) rv Fn)(r:Rel H nx iv B w O J)(F:∀g,S g->g<B):du J (Bs S B iv v) rv Fn:=du.cC h (Bs.same r F)
theorem mi.cD(h:du w (Bs S B iv v) rv Fn)(r:Rel H nx iv B w O J)(F:∀g,S g->g<B)(W:Ext J V)(hm:∀p,p∈iv->p∈E):du V (Bs S B E v) rv Fn:=
 du.cF (du.cC (mi.rel h r F) fun g G=>W.block g (Rel.old r F g G.1)) fun _ G=>Bs.mono hm G
end
section
variable{S:Nat->Prop}{H:Hp}{nx:Nat}{iv E:Iv}{B:Nat}{w J V:World}{O:Nat->Sx.dL}{v v0:Value}{A:List (List Value)}{xs:List Rat}
theorem jc.rel(h:gM w (Bs S B iv v) A xs)(r:Rel H nx iv B w O J)(F:∀g,S g->g<B):gM J (Bs S B iv v) A xs:=gM.cC h (Bs.same r F)
theorem jc.cD(h:gM w (Bs S B iv v) A xs)(r:Rel H nx iv B w O J)(F:∀g,S g->g<B)(W:Ext J V)(hm:∀p,p∈iv->p∈E):gM V (Bs S B E v) A xs:=
 gM.cF (gM.cC (jc.rel h r F) fun g G=>W.block g (Rel.old r F g G.1)) fun _ G=>Bs.mono hm G
end
theorem Ew{st:List (List Rat)}{c x:List Rat}{a b:Nat}(L:∀q∈x,rl q<=a)(hs:∀r∈st,∀q∈r,rl q<=b)(hc:∀q∈c,rl q<=b):∀i,∀q∈lD st c x i,rl q<=a+i*(2*b+5)
 |0,q,hq=>by have:=L q hq;omega
 |i+1,q,hq=>by
  rw[lD]at hq;obtain⟨k,R⟩:=aQ hq;rw[List.getElem?_mapIdx]at R;obtain⟨p,hp,rfl⟩:=Option.map_eq_some_iff.1 R;have I:=Ew L hs hc i p (aE hp);have h0:rl 0<=2:=by decide
  have X:rl (c.getD i 0)<=b+2:=by
   rcases aP i c.length with h|h
   ·rw[getD_some (aB h)];have:=hc _ (aX h);omega
   ·rw[lE h];omega
  have N:rl ((st.getD i []).getD k 0)<=b+2:=by
   rcases aP i st.length with h|h
   ·rw[getD_some (d:=[]) (aB h)];rcases aP k (st[i]).length with h4|h4
    ·rw[getD_some (aB h4)];have:=hs _ (aX h) _ (aX h4);omega
    ·rw[lE h4];omega
   ·rw[show st.getD i []=[] by rw[List.getD,List.getElem?_eq_none h];rfl];exact aW h0 (Nat.le_add_left _ _)
  have h4:=lA p (c.getD i 0*(st.getD i []).getD k 0);have h5:=hJ (c.getD i 0) ((st.getD i []).getD k 0);rw[Nat.add_mul];omega
set_option maxHeartbeats 2000000 in
set_option maxRecDepth 8000 in
theorem Iu{w:World}{vn vb vs u:Value}{f:ed}(F:Old S w)(hf:dm w S vn vb vs f)(PV:eN f=0)(Pw:yv f)(hp:cS w S u p)(Pj:p.length=3*f.nodes.length)(WI:∀q∈p,rl q<=100000)(hb:Bl (df p (-1))):
  dx PG F'.pY #[.agg #[vn,vb,vs],u] w (eH w fun v' V=>(jG (cY f) (df p (-1)) f.cols=none/\v'= .tuple #[.slice none 0 0,.bool false])\/∃x vx,yo (cY f) f.cols (fun t=>(dI f).getD t 0) (df p (-1)) x/\v'= .tuple #[vx,.bool true]/\cS V (Nf w V) vx x):=by
 have Y:=bR w;obtain⟨an,cn,ab,cb,aq,cq,rfl,rfl,rfl,RX,RP,Sk⟩:=hf.shape;have OV:=xd PV;have hlen:=lz f;have htl:=oA f;have hc18:=Pw.Nv;have hr12:=Pw.OJ;have Ot:=uN f;have Q1:f.cols=f.bars.length+f.cM.length:=rfl;obtain⟨ap,cp,rfl,hcp,hmp⟩:=eD.shape hp;have QL:(df p (-1)).length=(cY f).length:=by rw[df,aL,htl];exact Pj
 have hw0:=Pw.HN hb;have Of:=Pw.KG (b:=df p (-1));refine tv (by simp) ?_;refine cB (cE Y (fun _ J v V=>(∃vr,v= .agg #[vr,.int .i64 f.cols]/\cT V (Nf J V) vr (cY f))/\gh f.cols (cY f)/\Ht (cY f) 2) (fun O J r=>GR (S:=S) (oS F r) (hf.cC (kS Y r F)) OV) ?_);rintro O _ _ _ OZ r W Y h_ ⟨⟨vr,rfl,k1⟩,-,-⟩;have hM:=cT.dD (S:=FF) k1 r.bz (mN h_);clear r;obtain⟨am,cm,rfl,S3,Rd⟩:=dG.shape hM;refine cI hτ dN [.x 0,.x 1,.x 2,.x 3,.x 4,.x 5,.x 6,.x 7,.x 8,.x 9] (by kernel_rfl) (by kernel_rfl) ?_;refine cE Y (fun _ J v V=>cN V (Nf J V) v ((-1:Int):Rat)) (fun O J r=>kK (-1) J (by decide) (by decide)) ?_;rintro O _ v2 _ OU r W Y h_ Z;replace hM:=cT.cD hM r (bw w) W (mC h_);have hd:=Z.dD (S:=FF) r.bz (mN h_);clear r;obtain⟨A0,A1,A2,A3,A4,A5,A6,A7,rfl⟩:=hd.shape;refine cE Y (fun _ J v V=>eE V FF J.heap.size [(J.heap.size,V.heap.size)] v p.length (df p (-1))) (fun O J r=>Ig (S:=Cv S w.heap.size OU) (Rel.old r F) (dM.cF (cS.l (cS.cC hp (kS Y r F)) fun q hq=>by have:=WI q hq;omega) fun g G=>.inl G) (((hd.rel r (bw w)).l (by decide)).cF fun g G=>Cg G) (by omega)) ?_;rintro O _ _ _ Oi r W Y h_ Z;replace hM:=cT.cD hM r (bw w) W (mC h_);clear hd;have hB:=Z.dD (S:=FF) r.bz (mN h_);clear r;clear Z;obtain⟨a3,c3,rfl,hc3⟩:=hB.row.form;refine cG (Id:=fun _ J v V=>(jG (cY f) (df p (-1)) f.cols=none/\v= .tuple #[.slice none 0 0,.bool false])\/∃x vx,jG (cY f) (df p (-1)) f.cols=some x/\v= .tuple #[vx,.bool true]/\eE V (Cf w Oi) J.heap.size [(J.heap.size,V.heap.size)] vx f.cols x) (fun O J r=>BT (M:=cY f) (b:=df p (-1)) hlen hw0▸Kn (C:=Cf w Oi) (S:=Cf w Oi) (h:=30) (Rel.old r (bw w)) (Rel.old r (bw w)) (cT.rel hM r (bw w)) ((hB.rel r (bw w)).c) QL hlen (by omega) (by omega) (AA (jP hlen) hw0 uz (by rw[tP]at *;omega)) (by decide)) ?_;rintro O Qw v4 Q9 r W hb (⟨Rx,rfl⟩|⟨x0,vx,Ri,rfl,k2⟩)
 ·replace Y:=Y.tr hb;clear r W hb;exact rtn Y fun GT we re=>.inl ⟨Rx,rfl⟩
 replace Y:=Y.tr hb;replace hM:=cT.cD (E:=(Qw.heap.size,Q9.heap.size)::Oi) hM r (bw w) W fun x L=>aC _ L;have hX:=k2.aAX r.bz;clear r W hb k2 hB;generalize (Qw.heap.size,Q9.heap.size)::Oi=Ow at*
 obtain⟨ax,cx,rfl,UM⟩:=hX.row.form;obtain⟨hx0l,-⟩:=sK hlen Ri;have hx0D:=Pw.OM hb Ri;have WJ:∀q∈x0,rl q<=26:=fun q hq=>by
  obtain⟨F9,hD⟩:=hx0D;have I:=hD.rl q hq;have X:ln (wt 25)<=26:=gD.2 (Jc (by decide));omega
 have hw1:=Pw.KH hx0D;have Ol:=Pw.HO (b:=gQ (cR (cY f) f.cols) (dI f) x0);obtain⟨c,hc,PZ,hfrc⟩:=Pw.OI.force (fl:=dI f) Ri;have Su:=Pw.NV hx0D hc;have hKr:∀r∈cR (cY f) f.cols,∀q∈r,rl q<=14:=fun r hr q hq=>by
  obtain⟨F9,hD⟩:=Pw.ker;have I:=hD.rl r hr q hq;have X:ln (wt 13)<=14:=gD.2 (Jc (by decide));omega
 have hKl:=np (cY f) f.cols;have hK18:=Pw.Ml;have hSl:=ns (cR (cY f) f.cols) (dI f);have hfx:=Pw.fx;have TZ:=BT (M:=eO (cR (cY f) f.cols) (dI f)) (b:=gQ (cR (cY f) f.cols) (dI f) x0) hSl hw1;rw[hc]at TZ;have hredB:=AA (M:=dX (eO (cR (cY f) f.cols) (dI f)) (gQ (cR (cY f) f.cols) (dI f) x0)) (h:=1930) (jP hSl) hw1 uz (by omega);refine cI hτ dN [.x 0,.x 2,.x 1,.x 3,.x 4,.x 5] (by kernel_rfl) (by kernel_rfl) ?_;refine cG (Id:=fun _ J v V=>cT V (Nf J V) v (cR (cY f) f.cols)) (fun O J r=>Fs (M:=cY f) (n:=f.cols) hlen Pw.xe▸GZ (C:=Cf w Ow) (S:=Cf w Ow) (h:=20) (Rel.old r (bw w)) (Rel.old r (bw w)) (cT.rel hM r (bw w)) hlen (by omega) (by omega) (AA hlen Pw.xe (by decide) (by have:=Pw.size;omega)) (Ga hlen Pw.xe (by decide) (by have:=Pw.size;omega)) (by decide)) ?_;rintro O SZ v5 Sm r W Oa Z;replace Y:=Y.tr Oa;have RT:∀g,(Value.slice ax f.cols cx).ownBlock=some g->g<SZ.heap.size:=fun g e=>Rel.old r (bw w) g (hX.new g e);clear hM;replace hX:=hX.cD (E:=(SZ.heap.size,Sm.heap.size)::Ow) r (bw w) W fun x L=>aC _ L;have hK:=gC.fresh (S:=FF) (v:=(.slice ax f.cols cx)) Z r RT;clear r W Oa RT Z;generalize (SZ.heap.size,Sm.heap.size)::Ow=QO at*
 obtain⟨ak,ck,rfl,VS,Ve⟩:=dG.shape hK;refine cG (Id:=fun _ J v V=>dM V (Nw S J V) v (dI f)) (fun O J r=>Ip (S:=S) (oS F r) (hf.cC (kS Y r F)) OV) ?_;rintro O R7 v6 Rj r W Oa Z;replace Y:=Y.tr Oa;have RT:∀g,(Value.slice ax f.cols cx).ownBlock=some g->g<R7.heap.size:=fun g e=>Rel.old r (bw w) g (hX.new g e);replace hX:=hX.cD (E:=(R7.heap.size,Rj.heap.size)::QO) r (bw w) W fun x L=>aC _ L;replace hK:=gC.cD (E:=(R7.heap.size,Rj.heap.size)::QO) hK r (bw w) W fun x L=>aC _ L;have hL:=dM.cF (S':=Cv S w.heap.size ((R7.heap.size,Rj.heap.size)::QO)) Z fun g G=>G.elim .inl fun h=>.inr ⟨by have:=r.bz;omega,_,_,aG,h.1,h.2⟩;clear r W Oa RT Z;generalize (R7.heap.size,Rj.heap.size)::QO=R8 at*
 obtain⟨al,cl,rfl,hcl2,Qq⟩:=eD.shape hL;rw[Ot]
 refine⟨Nat×List Value×List (List Value)×World×Iv,fun z=>⟨[(7,sV ax f.cols cx),(9,.o (.v (.slice ak (cR (cY f) f.cols).length ck))),(10,sV al f.cols cl),(11,pP 2 0),(43,.o (.v (.slice ak (cR (cY f) f.cols).length ck))),(44,.o (.v (.int .i64 (cR (cY f) f.cols).length))),(12,.o (.w 4 z.2.2.1.length)),(45,iN z.1)],[(2,.box T.di [.w 3 z.2.1.length,.v (.int .i64 (cR (cY f) f.cols).length)]),(3,.vec T.jC 1 z.2.1),(4,.vec T.Rat 4 z.2.2.1.flatten)],5,z.2.2.2.2,z.2.2.2.1⟩,fun z=>(cR (cY f) f.cols).length-z.1,
  fun z=>z.1<=(cR (cY f) f.cols).length/\dT w.heap.size w z.2.2.2.1/\eE z.2.2.2.1 FF w.heap.size z.2.2.2.2 (.slice ax f.cols cx) f.cols x0/\cT z.2.2.2.1 (Bs FF w.heap.size z.2.2.2.2 (.slice ax f.cols cx)) (.slice ak (cR (cY f) f.cols).length ck) (cR (cY f) f.cols)/\dM z.2.2.2.1 (Cv S w.heap.size z.2.2.2.2) (.slice al f.cols cl) (dI f)/\du z.2.2.2.1 (Bs FF w.heap.size z.2.2.2.2 (.slice ax f.cols cx)) z.2.1 ((eO (cR (cY f) f.cols) (dI f)).take z.1)/\gM z.2.2.2.1 (Bs FF w.heap.size z.2.2.2.2 (.slice ax f.cols cx)) z.2.2.1 ((gQ (cR (cY f) f.cols) (dI f) x0).take z.1),?_,?_⟩
 ·intro O J K;exact⟨(0,[],[],J,_),⟨aS _,Y.tr K.cL,hX.rel K (bw w),gC.rel hK K (bw w),by have:=dM.rel hL K F;rw[Ot]at this;exact this,by simp[du],gM.nil⟩,Sub.Ee 2 0 T.jC 1 rfl rfl (by simp[l5,SV.sc,At.sc,iW]) K fun In r1=>Sub.nil 12 T.Rat 4 rfl (by simp[l5,SV.sc,At.sc,iW]) r1 fun GE r2=>Sub.gn [] r2⟩
 clear Y hX hK hL;rintro⟨i,rv,rc,w7,iv⟩ ⟨D,Y,hX,hK,hL,hR,hG⟩;dsimp only at D Y hX hK hL hR hG ⊢;have Pm:rv.length=i:=by rw[hR.1,aZ,eO,aL];omega
 have hgl:rc.length=i:=by rw[hG.len,aZ,gQ,aL];omega
 have VX:=eo hG.four;refine dB.mk ?_ ?_<;>intro OQ
 ·have OQ:i<(cR (cY f) f.cols).length:=by have:=aK OQ;omega
  obtain⟨s,hs⟩:∃s,(cR (cY f) f.cols)[i]? =some s:=⟨_,aB OQ⟩
  have SJ:s.length=f.cols:=hKl s (aE hs);have hsr:=hKr s (aE hs);obtain⟨adm1,um,ham1,Qc,km1,kn1⟩:=dG.load hK hs;obtain⟨as1,cs1,rfl,-,-⟩:=eD.shape Qc;obtain⟨bent,Sn⟩:∃b,lu s (dI f)=b:=⟨_,rfl⟩
  have Ta:bent.length=f.cols:=by rw[<-Sn,uQ,SJ]
  have hbr:∀q∈bent,rl q<=20:=fun q hq=>by
   rw[<-Sn]at hq;obtain⟨t,ht⟩:=aQ hq;have htl2:t<s.length:=by have:=(aD.1 ht).1;rw[uQ]at this;exact this
   have I:=yp (a:=s) (b:=dI f) htl2;rw[getD_some ht]at I;have X:=hJ (s.getD t 0) ((dI f).getD t 0);have N:=hsr (s.getD t 0) (by rw[getD_some (aB htl2)];exact aX _);have h4:=Pw.fxD (t:=t) (by omega);rw[I];omega
  refine⟨adm1,ham1,by omega,.slice as1 s.length cs1,fun O J r=>?_,?_⟩
  ·rw[aF,cJ (w:=w7) (V:=J) (by rw[c9];exact Rel.same r (bw w) km1.1)];exact kn1
  refine cB (cG (Id:=fun _ J v V=>cS V (Nf J V) v bent) (fun O J r=>(Sn▸MP (S:=Cv S w.heap.size iv) (Rel.old r F) (dM.cF (cS.l (eS.cv (eS.rel Qc r (bw w))) fun q hq=>by have:=hsr q hq;omega) fun g G=>Cg G) (dM.rel hL r F) (by rw[SJ,Ot];exact Nat.le_refl _) (by omega)).mono fun _ _ ⟨v2,e1,e2,e3⟩=>⟨v2,e1,e2,cS.cF e3.c fun g G=>G.elim (fun h=>h.elim) fun⟨_,lo,D,X,N,h4⟩=>by
   simp at X;obtain⟨rfl,rfl⟩:=X
   exact .inr ⟨N,h4⟩⟩) ?_)
  rintro O SE v8 SP r W Oa Z;replace Y:=Y.tr Oa;have RT:∀g,(Value.slice ax f.cols cx).ownBlock=some g->g<SE.heap.size:=fun g e=>Rel.old r (bw w) g (hX.new g e);replace hX:=hX.cD (E:=(SE.heap.size,SP.heap.size)::iv) r (bw w) W fun x L=>aC _ L;replace hK:=gC.cD (E:=(SE.heap.size,SP.heap.size)::iv) hK r (bw w) W fun x L=>aC _ L;replace hL:=dM.cD (E:=(SE.heap.size,SP.heap.size)::iv) hL r F W fun x L=>aC _ L;replace hR:=mi.cD (E:=(SE.heap.size,SP.heap.size)::iv) hR r (bw w) W fun x L=>aC _ L;replace hG:=jc.cD (E:=(SE.heap.size,SP.heap.size)::iv) hG r (bw w) W fun x L=>aC _ L;have hE:=eS.fresh (S:=FF) (v:=(.slice ax f.cols cx)) Z r RT;clear r W Oa RT Z;generalize (SE.heap.size,SP.heap.size)::iv=SF at*
  clear Qc;obtain⟨ae,ce,rfl,-,-⟩:=eD.shape hE;rw[Ta]
  refine⟨Nat×List (List Value)×World×Iv,fun z=>⟨[(7,sV ax f.cols cx),(9,.o (.v (.slice ak (cR (cY f) f.cols).length ck))),(10,sV al f.cols cl),(11,pP 2 0),(43,.o (.v (.slice ak (cR (cY f) f.cols).length ck))),(44,.o (.v (.int .i64 (cR (cY f) f.cols).length))),(12,.o (.w 4 rc.length)),(45,iN i),(15,sV ae f.cols ce),(52,.o (.v (.slice ak (cR (cY f) f.cols).length ck))),(53,.o (.v (.int .i64 (cR (cY f) f.cols).length))),(16,.o (.w 5 z.2.1.length)),(54,iN z.1)],[(5,.vec T.Rat 4 z.2.1.flatten),(2,.box T.di [.w 3 rv.length,.v (.int .i64 (cR (cY f) f.cols).length)]),(3,.vec T.jC 1 rv),(4,.vec T.Rat 4 rc.flatten)],6,z.2.2.2,z.2.2.1⟩,fun z=>(cR (cY f) f.cols).length-z.1,
   fun z=>z.1<=(cR (cY f) f.cols).length/\dT w.heap.size w z.2.2.1/\(eE z.2.2.1 FF w.heap.size z.2.2.2 (.slice ax f.cols cx) f.cols x0/\cT z.2.2.1 (Bs FF w.heap.size z.2.2.2 (.slice ax f.cols cx)) (.slice ak (cR (cY f) f.cols).length ck) (cR (cY f) f.cols)/\dM z.2.2.1 (Cv S w.heap.size z.2.2.2) (.slice al f.cols cl) (dI f)/\du z.2.2.1 (Bs FF w.heap.size z.2.2.2 (.slice ax f.cols cx)) rv ((eO (cR (cY f) f.cols) (dI f)).take i)/\gM z.2.2.1 (Bs FF w.heap.size z.2.2.2 (.slice ax f.cols cx)) rc ((gQ (cR (cY f) f.cols) (dI f) x0).take i)/\cS z.2.2.1 (Bs FF w.heap.size z.2.2.2 (.slice ax f.cols cx)) (.slice ae f.cols ce) bent)/\gM z.2.2.1 (Bs FF w.heap.size z.2.2.2 (.slice ax f.cols cx)) z.2.1 (((cR (cY f) f.cols).map fun r=>fL bent r f.cols).take z.1),?_,?_⟩
  ·intro O J K;exact⟨(0,[],J,_),⟨aS _,Y.tr K.cL,⟨hX.rel K (bw w),gC.rel hK K (bw w),dM.rel hL K F,mi.rel hR K (bw w),jc.rel hG K (bw w),by have:=eS.rel hE K (bw w);rw[Ta]at this;exact this⟩,gM.nil⟩,Sub.nil 16 T.Rat 4 rfl (by simp[l5,SV.sc,At.sc,iW]) K fun GE r2=>Sub.gn [] r2⟩
  clear Y hX hK hL hR hG hE;rintro⟨j,A,w8,iv⟩ ⟨hj,Y,⟨hX,hK,hL,hR,hG,hE⟩,hD⟩;dsimp only at hj Y hX hK hL hR hG hE hD ⊢;have Rq:A.length=j:=by rw[hD.len,aZ,aL];omega
  have hdf:=eo hD.four;refine dB.mk ?_ ?_<;>intro Pv
  ·have Pv:j<(cR (cY f) f.cols).length:=by have:=aK Pv;omega
   obtain⟨t,ht⟩:∃s,(cR (cY f) f.cols)[j]? =some s:=⟨_,aB Pv⟩
   have htl2:t.length=f.cols:=hKl t (aE ht);have htr:=hKr t (aE ht);obtain⟨adm2,um2,ham2,Qc,km2,kn2⟩:=dG.load hK ht;obtain⟨as2,cs2,rfl,-,-⟩:=eD.shape Qc;refine⟨adm2,ham2,by omega,.slice as2 t.length cs2,fun O J r=>?_,?_⟩
   ·rw[aF,cJ (w:=w8) (V:=J) (by rw[c9];exact Rel.same r (bw w) km2.1)];exact kn2
   refine cB (cG (Id:=fun _ J v V=>cN V (Nf J V) v (fL bent t f.cols)) (fun O J r=>Ta▸Kj (S:=Cf w iv) (h:=21) (Rel.old r (bw w)) (cS.l (by have:=eS.cv (eS.rel hE r (bw w));rw[<-Ta]at this;exact this) fun q hq=>by have:=hbr q hq;omega) (cS.l (eS.cv (eS.rel Qc r (bw w))) fun q hq=>by have:=htr q hq;omega) (by omega) (fun q hq=>by have:=hbr q hq;omega) (fun q hq=>by have:=htr q hq;omega) (by decide) (by omega)) ?_);rintro O R9 v9 Rk r W Oa Z;replace Y:=Y.tr Oa;have RT:∀g,(Value.slice ax f.cols cx).ownBlock=some g->g<R9.heap.size:=fun g e=>Rel.old r (bw w) g (hX.new g e);replace hX:=hX.cD (E:=(R9.heap.size,Rk.heap.size)::iv) r (bw w) W fun x L=>aC _ L;replace hK:=gC.cD (E:=(R9.heap.size,Rk.heap.size)::iv) hK r (bw w) W fun x L=>aC _ L;replace hL:=dM.cD (E:=(R9.heap.size,Rk.heap.size)::iv) hL r F W fun x L=>aC _ L;replace hR:=mi.cD (E:=(R9.heap.size,Rk.heap.size)::iv) hR r (bw w) W fun x L=>aC _ L;replace hG:=jc.cD (E:=(R9.heap.size,Rk.heap.size)::iv) hG r (bw w) W fun x L=>aC _ L;replace hE:=eS.cD (E:=(R9.heap.size,Rk.heap.size)::iv) hE r (bw w) W fun x L=>aC _ L;replace hD:=jc.cD (E:=(R9.heap.size,Rk.heap.size)::iv) hD r (bw w) W fun x L=>aC _ L;have hd:=lW.fresh (S:=FF) (v:=(.slice ax f.cols cx)) Z r RT;clear r W Oa RT Z;generalize (R9.heap.size,Rk.heap.size)::iv=RW at*
   obtain⟨C0,C1,C2,C3,C4,C5,C6,C7,rfl⟩:=hd.shape;clear Qc;have Vr:=hD.push (U:=[.bool C0,.slice C1 C2 C3,.bool C4,.slice C5 C6 C7]) (q:=fL bent t f.cols) ⟨_,_,_,_,_,_,_,_,rfl,hd⟩ rfl;rw[show (((cR (cY f) f.cols).map fun r=>fL bent r f.cols).take j)++[fL bent t f.cols]=((cR (cY f) f.cols).map fun r=>fL bent r f.cols).take (j+1) by rw[List.take_add_one,aM,ht];rfl]at Vr;have R5:A.flatten++([.bool C0,.slice C1 C2 C3,.bool C4,.slice C5 C6 C7]:List Value)=(A++([[.bool C0,.slice C1 C2 C3,.bool C4,.slice C5 C6 C7]]:List (List Value))).flatten:=by simp
   refine .inl ?_;refine⟨by omega,by omega,by unfold maxLen;omega,((j+1:Nat):Int),wo,?_⟩;intro IR w6 K;exact⟨(j+1,A++[[.bool C0,.slice C1 C2 C3,.bool C4,.slice C5 C6 C7]],w6,_),⟨Pv,Y.tr K.cL,⟨hX.rel K (bw w),gC.rel hK K (bw w),dM.rel hL K F,mi.rel hR K (bw w),jc.rel hG K (bw w),eS.rel hE K (bw w)⟩,jc.rel Vr K (bw w)⟩,Sub.gn [(5,7)] K ⟨by dsimp only;rw[<-R5];rfl,rfl,rfl,rfl,trivial⟩ ⟨rfl,rfl,rfl,rfl,rfl,rfl,rfl,rfl,rfl,rfl,rfl,by dsimp only;rw[List.length_append,List.length_singleton];rfl,rfl,trivial⟩,by dsimp only;omega⟩
  have Pv:j=(cR (cY f) f.cols).length:=by have:=aH Pv;omega
  rw[Pv,List.take_of_length_le (by rw[aL];exact Nat.le_refl _)]at hD;have OR:(eO (cR (cY f) f.cols) (dI f)).take i++[((cR (cY f) f.cols).map fun r=>fL bent r f.cols)]=(eO (cR (cY f) f.cols) (dI f)).take (i+1):=by
   rw[List.take_add_one,eO,aM,hs,<-Sn,<-SJ];rfl
  have hrgt:(gQ (cR (cY f) f.cols) (dI f) x0).take i++[-(fL bent x0 f.cols)]=(gQ (cR (cY f) f.cols) (dI f) x0).take (i+1):=by
   rw[List.take_add_one,gQ,aM,hs,<-Sn,<-SJ];rfl
  refine FV hτ (id3:=6) (id2:=5) (tH:=[(2,.box T.di [.w 3 rv.length,.v (.int .i64 (cR (cY f) f.cols).length)]),(3,.vec T.jC 1 rv),(4,.vec T.Rat 4 rc.flatten)]) rfl rfl rfl rfl (by simp) ⟨rfl,rfl,rfl,trivial⟩ rfl rfl (fun O J r r2 WH=>?_);have QU:∀g,(Value.slice ax f.cols cx).ownBlock=some g->∀id b,cV [(6,.box T.jC [.w 5 A.length]),(5,.vec T.Rat 4 A.flatten),(2,.box T.di [.w 3 rv.length,.v (.int .i64 (cR (cY f) f.cols).length)]),(3,.vec T.jC 1 rv),(4,.vec T.Rat 4 rc.flatten)] id=some b->(O id).nil=false->(O id).g≠g:=fun g e id b I X=>Rel.not r (bw w) (hX.new g e) id b I X;have hlo3:=r.low 6 _ rfl (r.fits (id:=6) rfl).1;have hB3:Bs FF w.heap.size (((O 6).g,(O 6).g+1)::rD (O 5) iv) (.slice ax f.cols cx) (O 6).g:=⟨.inr ⟨hlo3.1,_,_,aG,Nat.le_refl _,bV _⟩,fun e=>QU _ e 6 _ rfl (r.fits (id:=6) rfl).1 rfl⟩
  have RM:∀p,p∈iv->p∈((O 6).g,(O 6).g+1)::rD (O 5) iv:=fun p hp=>aC _ (Hy p hp);have Wl:=gM.list ((jc.rel hD r (bw w)).cF fun g G=>Bs.mono RM G) (r.DB (T:=Bs FF w.heap.size (((O 6).g,(O 6).g+1)::rD (O 5) iv) (.slice ax f.cols cx)) (id:=5) (sz:=4) (m:=A.length) rfl hdf (by unfold maxLen;omega) (by decide) hD.one fun Z=>⟨.inr ⟨(r.low 5 _ rfl Z).1,_,_,aC _ (JX Z),Nat.le_refl _,bV _⟩,fun e=>QU _ e 5 _ rfl Z rfl⟩);have PK:((At.w 5 A.length).den O).oneCell'=true:=At.aAH;have PR:=Y.tr r.cL;replace hX:eE J FF w.heap.size (((O 6).g,(O 6).g+1)::rD (O 5) iv) (.slice ax f.cols cx) f.cols x0:=by
   have I:=hX.rel r (bw w);exact⟨I.row.cF fun g G=>⟨G.1.mono RM,G.2⟩,fun g G=>(I.new g G).mono RM⟩
  replace hK:=cT.cF (gC.rel hK r (bw w)) fun g G=>Bs.mono RM G;replace hL:=dM.cF (dM.rel hL r F) fun g G=>G.mono RM;replace hR:=du.cF (mi.rel hR r (bw w)) fun g G=>Bs.mono RM G;replace hG:=gM.cF (jc.rel hG r (bw w)) fun g G=>Bs.mono RM G;replace hE:=cS.cF (eS.rel hE r (bw w)) fun g G=>Bs.mono RM G;clear r2 hlo3 hD QU Y;generalize (At.w 5 A.length).den O=ur at*
  generalize (O 6).g=gy at*
  generalize (gy,gy+1)::rD (O 5) iv=ivg at*
  clear r;refine⟨[ur],rfl,by simpa using PK,fun GE V r2 _=>⟨_,rfl,fun j u hu=>?_⟩,?_⟩
  ·have h5:=Rel.same r2 (eI _) hB3.1;rw[dA,cell_of (h5.trans WH)];rcases j with _|j
   ·exact hu
   ·cases hu
  refine⟨by simp,by omega,by unfold maxLen;omega,?_⟩;have RL:=hR.push PK Wl;rw[OR]at RL;clear Wl hR WH hB3;rename_i wg _;have Y:=PR;clear PR;refine cB (cG (Id:=fun _ J v V=>cN V (Nf J V) v (fL bent x0 f.cols)) (fun O J r=>Ta▸Kj (S:=Cf w ivg) (h:=30) (Rel.old r (bw w)) (cS.l (by have:=eS.cv (eS.rel hE r (bw w));rw[<-Ta]at this;exact this) fun q hq=>by have:=hbr q hq;omega) (cS.l (by have:=(hX.rel r (bw w)).c;rw[<-Ta]at this;exact this) fun q hq=>by have:=WJ q hq;omega) (by omega) (fun q hq=>by have:=hbr q hq;omega) (fun q hq=>by have:=WJ q hq;omega) (by decide) (by omega)) ?_);rintro O QJ v11 QQ r W Oa Z;replace Y:=Y.tr Oa;have RT:∀g,(Value.slice ax f.cols cx).ownBlock=some g->g<QJ.heap.size:=fun g e=>Rel.old r (bw w) g (hX.new g e);replace hX:=hX.cD (E:=(QJ.heap.size,QQ.heap.size)::ivg) r (bw w) W fun x L=>aC _ L;replace hK:=gC.cD (E:=(QJ.heap.size,QQ.heap.size)::ivg) hK r (bw w) W fun x L=>aC _ L;replace hL:=dM.cD (E:=(QJ.heap.size,QQ.heap.size)::ivg) hL r F W fun x L=>aC _ L;replace RL:=mi.cD (E:=(QJ.heap.size,QQ.heap.size)::ivg) RL r (bw w) W fun x L=>aC _ L;replace hG:=jc.cD (E:=(QJ.heap.size,QQ.heap.size)::ivg) hG r (bw w) W fun x L=>aC _ L;replace hE:=eS.cD (E:=(QJ.heap.size,QQ.heap.size)::ivg) hE r (bw w) W fun x L=>aC _ L;have hd:=lW.fresh (S:=FF) (v:=(.slice ax f.cols cx)) Z r RT;clear r W Oa RT Z;generalize (QJ.heap.size,QQ.heap.size)::ivg=PD at*
  obtain⟨E0,E1,E2,E3,E4,E5,E6,E7,rfl⟩:=hd.shape;have hdr:=zj (h:=30) (xs:=bent) (ys:=x0) (fun q hq=>by have:=hbr q hq;omega) (fun q hq=>by have:=WJ q hq;omega) (by decide) f.cols;refine cB (cG (Id:=fun _ J v V=>cN V (Nf J V) v (-(fL bent x0 f.cols))) (fun O J r=>vU (S:=Cf w PD) (Rel.old r (bw w)) (cN.l (lW.cv (lW.rel hd r (bw w))) (by omega))) ?_);rintro O Qh v12 Qv r W Oa Z;replace Y:=Y.tr Oa;have RT:∀g,(Value.slice ax f.cols cx).ownBlock=some g->g<Qh.heap.size:=fun g e=>Rel.old r (bw w) g (hX.new g e);replace hX:=hX.cD (E:=(Qh.heap.size,Qv.heap.size)::PD) r (bw w) W fun x L=>aC _ L;replace hK:=gC.cD (E:=(Qh.heap.size,Qv.heap.size)::PD) hK r (bw w) W fun x L=>aC _ L;replace hL:=dM.cD (E:=(Qh.heap.size,Qv.heap.size)::PD) hL r F W fun x L=>aC _ L;replace RL:=mi.cD (E:=(Qh.heap.size,Qv.heap.size)::PD) RL r (bw w) W fun x L=>aC _ L;replace hG:=jc.cD (E:=(Qh.heap.size,Qv.heap.size)::PD) hG r (bw w) W fun x L=>aC _ L;replace hE:=eS.cD (E:=(Qh.heap.size,Qv.heap.size)::PD) hE r (bw w) W fun x L=>aC _ L;clear hd;have PN:=lW.fresh (S:=FF) (v:=(.slice ax f.cols cx)) Z r RT;clear r W Oa RT Z;generalize (Qh.heap.size,Qv.heap.size)::PD=Vv at*
  obtain⟨F0,F1,F2,F3,F4,F5,F6,F7,rfl⟩:=PN.shape;have hG2:=hG.push (U:=[.bool F0,.slice F1 F2 F3,.bool F4,.slice F5 F6 F7]) (q:= -(fL bent x0 f.cols)) ⟨_,_,_,_,_,_,_,_,rfl,PN⟩ rfl;rw[hrgt]at hG2;have R5:rc.flatten++([.bool F0,.slice F1 F2 F3,.bool F4,.slice F5 F6 F7]:List Value)=(rc++([[.bool F0,.slice F1 F2 F3,.bool F4,.slice F5 F6 F7]]:List (List Value))).flatten:=by simp
  refine .inl ?_;refine⟨by omega,by omega,by unfold maxLen;omega,((i+1:Nat):Int),wo,?_⟩;intro IR w6 K;exact⟨(i+1,rv++[ur],rc++[[.bool F0,.slice F1 F2 F3,.bool F4,.slice F5 F6 F7]],w6,_),⟨OQ,Y.tr K.cL,hX.rel K (bw w),gC.rel hK K (bw w),dM.rel hL K F,mi.rel RL K (bw w),jc.rel hG2 K (bw w)⟩,Sub.gn [(3,7),(4,9)] K ⟨by dsimp only;rw[List.length_append,List.length_singleton];rfl,rfl,by dsimp only;rw[<-R5];rfl,trivial⟩ ⟨rfl,rfl,rfl,rfl,rfl,rfl,by dsimp only;rw[List.length_append,List.length_singleton];rfl,rfl,trivial⟩,by dsimp only;omega⟩
 have OQ:i=(cR (cY f) f.cols).length:=by have:=aH OQ;omega
 rw[OQ,List.take_of_length_le (by rw[eO,aL];exact Nat.le_refl _)]at hR;rw[OQ,List.take_of_length_le (by rw[gQ,aL];exact Nat.le_refl _)]at hG;have TV:rv.length=(eO (cR (cY f) f.cols) (dI f)).length:=hR.1
 refine cB (cG (Id:=fun _ J v V=>∃vc,v= .tuple #[vc,.bool true]/\eE V (Bs FF w.heap.size iv (.slice ax f.cols cx)) J.heap.size [(J.heap.size,V.heap.size)] vc (cR (cY f) f.cols).length c) (fun O J r=>(B8 (C:=(fun g=>g<J.heap.size)) (F9:=(fun g=>g<J.heap.size)) (S:=Bs FF w.heap.size iv (.slice ax f.cols cx)) (M:=eO (cR (cY f) f.cols) (dI f)) (b:=gQ (cR (cY f) f.cols) (dI f) x0) (cols:=(cR (cY f) f.cols).length) (h:=1930) (fun g G=>G) (fun g G=>G) (fun g G=>Rel.old r (bw w) g G.1) ⟨rv,by rw[<-TV];exact r.DB (T:=(fun g=>g<J.heap.size)) (id:=3) (sz:=1) (m:=rv.length) rfl (by simp) (by unfold maxLen;omega) (by decide) hR.2.1 fun Z=>(r.low 3 _ rfl Z).2,hR.1,fun a u x I X=>eS.rel (hR.2.2 a u x I X) r (bw w)⟩ ⟨rc,by rw[<-hG.len];exact r.DB (T:=(fun g=>g<J.heap.size)) (id:=4) (sz:=4) (m:=rc.length) rfl VX (by unfold maxLen;omega) (by decide) hG.one fun Z=>(r.low 4 _ rfl Z).2,hG.len,fun a U x I X=>(jc.rel hG r (bw w)).at_ a U x I X⟩ (by rw[gQ,eO,aL,aL]) hSl (by omega) (by rw[eO,aL];omega) hredB (by decide)).mono fun _ _ ⟨v2,e1,e2,e3⟩=>⟨v2,e1,e2,by
  rcases e3 with⟨I,_⟩|⟨x2,vx,I,X,N⟩
  ·rw[TZ]at I;cases I
  ·rw[TZ]at I;injection I with I;subst I;exact⟨vx,X,N⟩⟩) ?_)
 rintro O SK v13 Se r W Oa ⟨vc,rfl,Z⟩;replace Y:=Y.tr Oa;have RT:∀g,(Value.slice ax f.cols cx).ownBlock=some g->g<SK.heap.size:=fun g e=>Rel.old r (bw w) g (hX.new g e);replace hX:=hX.cD (E:=(SK.heap.size,Se.heap.size)::iv) r (bw w) W fun x L=>aC _ L;replace hK:=gC.cD (E:=(SK.heap.size,Se.heap.size)::iv) hK r (bw w) W fun x L=>aC _ L;have hC:=cS.cF Z.c fun g G=>Bs.solved r RT (fun _ h=>h) G;clear r W Oa RT;generalize (SK.heap.size,Se.heap.size)::iv=TU at*
 clear Z hR hG hL;obtain⟨ac,cc,rfl,-,-⟩:=eD.shape hC;rw[PZ]
 refine⟨Nat×World×Iv,fun z=>⟨[(7,sV ax f.cols cx),(19,.o (.v (.slice ac (cR (cY f) f.cols).length cc))),(87,.o (.v (.slice ak (cR (cY f) f.cols).length ck))),(88,.o (.v (.int .i64 (cR (cY f) f.cols).length))),(89,iN z.1)],[],0,z.2.2,z.2.1⟩,fun z=>(cR (cY f) f.cols).length-z.1,
  fun z=>z.1<=(cR (cY f) f.cols).length/\dT w.heap.size w z.2.1/\eE z.2.1 FF w.heap.size z.2.2 (.slice ax f.cols cx) f.cols (lD (cR (cY f) f.cols) c x0 z.1)/\cT z.2.1 (Bs FF w.heap.size z.2.2 (.slice ax f.cols cx)) (.slice ak (cR (cY f) f.cols).length ck) (cR (cY f) f.cols)/\cS z.2.1 (Bs FF w.heap.size z.2.2 (.slice ax f.cols cx)) (.slice ac (cR (cY f) f.cols).length cc) c,?_,?_⟩
 ·intro O J K;exact⟨(0,J,_),⟨aS _,Y.tr K.cL,hX.rel K (bw w),gC.rel hK K (bw w),by have:=eS.rel hC K (bw w);rw[PZ]at this;exact this⟩,Sub.gn [] K⟩
 clear Y hX hK hC;rintro⟨i,w13,iv⟩ ⟨D,Y,hX,hK,hC⟩;dsimp only at D Y hX hK hC ⊢;refine dB.mk ?_ ?_<;>intro OQ
 ·have OQ:i<(cR (cY f) f.cols).length:=by have:=aK OQ;omega
  obtain⟨s,hs⟩:∃s,(cR (cY f) f.cols)[i]? =some s:=⟨_,aB OQ⟩
  have SJ:s.length=f.cols:=hKl s (aE hs);have hsr:=hKr s (aE hs);obtain⟨ci,TP⟩:∃q,c[i]? =some q:=⟨_,aB (by omega)⟩
  have hcir:=Su ci (aE TP);obtain⟨y0,Ph⟩:∃y,lD (cR (cY f) f.cols) c x0 i=y:=⟨_,rfl⟩
  have hy0l:y0.length=f.cols:=by rw[<-Ph,ql,hx0l]
  have hy0r:∀q∈y0,rl q<=75000:=fun q hq=>by
   rw[<-Ph]at hq;have I:=Ew (a:=26) (b:=1927) WJ (fun r hr q hq=>by have:=hKr r hr q hq;omega) Su i q hq;have X:i*(2*1927+5)<=18*(2*1927+5):=Nat.mul_le_mul_right _ (by omega);omega
  have hnextA:lD (cR (cY f) f.cols) c x0 (i+1)=y0.mapIdx fun k q=>q+ci*s.getD k 0:=by rw[lD,Ph,getD_some TP,getD_some (d:=[]) hs]
  rw[Ph]at hX;obtain⟨adm3,um,ham3,Qc,km3,kn3⟩:=dG.load hK hs;obtain⟨as3,cs3,rfl,-,-⟩:=eD.shape Qc;refine⟨adm3,ham3,by omega,.slice as3 s.length cs3,fun O J r=>?_,?_⟩
  ·rw[aF,cJ (w:=w13) (V:=J) (by rw[c9];exact Rel.same r (bw w) km3.1)];exact kn3
  rw[SJ]
  refine⟨Nat×World×Iv,fun z=>⟨[(7,sV ax f.cols cx),(19,.o (.v (.slice ac (cR (cY f) f.cols).length cc))),(87,.o (.v (.slice ak (cR (cY f) f.cols).length ck))),(88,.o (.v (.int .i64 (cR (cY f) f.cols).length))),(89,iN i),(20,iN i),(94,sV as3 f.cols cs3),(95,iZ f.cols),(96,iN z.1)],[],0,z.2.2,z.2.1⟩,fun z=>f.cols-z.1,
   fun z=>z.1<=f.cols/\dT w.heap.size w z.2.1/\eE z.2.1 FF w.heap.size z.2.2 (.slice ax f.cols cx) f.cols ((gb z.1 (fun k q=>q+ci*s.getD k 0) y0))/\cT z.2.1 (Bs FF w.heap.size z.2.2 (.slice ax f.cols cx)) (.slice ak (cR (cY f) f.cols).length ck) (cR (cY f) f.cols)/\cS z.2.1 (Bs FF w.heap.size z.2.2 (.slice ax f.cols cx)) (.slice ac (cR (cY f) f.cols).length cc) c/\cS z.2.1 (Bs FF w.heap.size z.2.2 (.slice ax f.cols cx)) (.slice as3 f.cols cs3) s,?_,?_⟩
  ·intro O J K;exact⟨(0,J,_),⟨aS _,Y.tr K.cL,by dsimp only;rw[oP];exact hX.rel K (bw w),gC.rel hK K (bw w),eS.rel hC K (bw w),by have:=eS.rel Qc K (bw w);rw[SJ]at this;exact this⟩,Sub.gn [] K⟩
  clear Y hX hK hC Qc;rintro⟨k,w14,iv⟩ ⟨R,Y,hX,hK,hC,Qc⟩;dsimp only at R Y hX hK hC Qc ⊢;refine dB.mk ?_ ?_<;>intro OT
  ·have OT:k<f.cols:=by have:=aK OT;omega
   obtain⟨gx,rfl⟩:=hX.at (by omega);obtain⟨q,hq⟩:∃q,s[k]? =some q:=⟨_,aB (by omega)⟩
   obtain⟨y,hy⟩:∃q,y0[k]? =some q:=⟨_,aB (by omega)⟩
   have hyu:=uL (f:=fun k q=>q+ci*s.getD k 0) hy;have hqr:=hsr q (aE hq);have hyr:=hy0r y (aE hy);obtain⟨adq,csq,haq,hFq,_,hlq⟩:=eD.load Qc hq;obtain⟨q0,q1,q2,q3,q4,q5,q6,q7,rfl,hFq⟩:=hFq;obtain⟨ady,csy,Ud,RR,_,Q3⟩:=eD.load hX.c hyu;obtain⟨y0',y1,y2,y3,y4,y5,y6,y7,rfl,RR⟩:=RR;obtain⟨adc,csc,Wk,hFc,_,TJ⟩:=eD.load hC TP;obtain⟨c0,c1,c2,c3,c4,c5,c6,c7,rfl,hFc⟩:=hFc;refine⟨adq,haq,by omega,[.bool q0,.slice q1 q2 q3,.bool q4,.slice q5 q6 q7],rfl,fun O J r j u hu=>?_,?_⟩
   ·obtain⟨k1,k2⟩:=hlq j u hu;rw[aF,cJ (w:=w14) (V:=J) (by rw[c9,c9];exact Rel.same r (bw w) k1.1)];exact k2
   refine cI hτ dN [.x 0,.x 1,.x 2,.x 3,.x 4,.x 5,.x 6,.x 7,.x 8,.x 9,.x 10,.x 11,.x 12,.x 13,.x 14] (by kernel_rfl) (by kernel_rfl) ?_;refine⟨ady,Ud,by omega,[.bool y0',.slice y1 y2 y3,.bool y4,.slice y5 y6 y7],rfl,fun O J r j u hu=>?_,?_⟩
   ·obtain⟨k1,k2⟩:=Q3 j u hu;rw[aF,cJ (w:=w14) (V:=J) (by rw[c9,c9];exact Rel.same r (bw w) k1)];exact k2
   refine⟨adc,Wk,by omega,[.bool c0,.slice c1 c2 c3,.bool c4,.slice c5 c6 c7],rfl,fun O J r j u hu=>?_,?_⟩
   ·obtain⟨k1,k2⟩:=TJ j u hu;rw[aF,cJ (w:=w14) (V:=J) (by rw[c9,c9];exact Rel.same r (bw w) k1.1)];exact k2
   refine cG (Id:=fun _ J v V=>cN V (Nf J V) v (ci*q)) (fun O J r=>zl (S:=Cf w iv) (Rel.old r (bw w)) ((cN.l (lW.cv (lW.rel hFc r (bw w))) (by omega)).v) ((cN.l (lW.cv (lW.rel hFq r (bw w))) (by omega)).v)) ?_;rintro O Tb v15 UP r W Oa Z;replace Y:=Y.tr Oa;have RT:∀g,(Value.slice (some ⟨gx,0,none⟩) f.cols cx).ownBlock=some g->g<Tb.heap.size:=fun g e=>Rel.old r (bw w) g (hX.new g e);replace hX:=hX.cD (E:=(Tb.heap.size,UP.heap.size)::iv) r (bw w) W fun x L=>aC _ L;replace hK:=gC.cD (E:=(Tb.heap.size,UP.heap.size)::iv) hK r (bw w) W fun x L=>aC _ L;replace hC:=eS.cD (E:=(Tb.heap.size,UP.heap.size)::iv) hC r (bw w) W fun x L=>aC _ L;replace Qc:=eS.cD (E:=(Tb.heap.size,UP.heap.size)::iv) Qc r (bw w) W fun x L=>aC _ L;replace RR:=cN.cD (E:=(Tb.heap.size,UP.heap.size)::iv) RR r (bw w) W fun x L=>aC _ L;have hm:=lW.fresh (S:=FF) (v:=(.slice (some ⟨gx,0,none⟩) f.cols cx)) Z r RT;clear r W Oa RT Z;generalize (Tb.heap.size,UP.heap.size)::iv=UQ at*
   obtain⟨G0,G1,G2,G3,G4,G5,G6,G7,rfl⟩:=hm.shape;refine cG (Id:=fun _ J v V=>cN V (Nf J V) v (y+ci*q)) (fun O J r=>Cn (S:=Cf w UQ) (Rel.old r (bw w)) ((cN.l (cN.rel RR r (bw w)) (by omega)).v) ((cN.l (lW.cv (lW.rel hm r (bw w))) (by have:=hJ ci q;omega)).v)) ?_;rintro O UR v16 VF r W Oa Z;replace Y:=Y.tr Oa;have RT:∀g,(Value.slice (some ⟨gx,0,none⟩) f.cols cx).ownBlock=some g->g<UR.heap.size:=fun g e=>Rel.old r (bw w) g (hX.new g e);replace hX:=hX.cD (E:=(UR.heap.size,VF.heap.size)::UQ) r (bw w) W fun x L=>aC _ L;replace hK:=gC.cD (E:=(UR.heap.size,VF.heap.size)::UQ) hK r (bw w) W fun x L=>aC _ L;replace hC:=eS.cD (E:=(UR.heap.size,VF.heap.size)::UQ) hC r (bw w) W fun x L=>aC _ L;replace Qc:=eS.cD (E:=(UR.heap.size,VF.heap.size)::UQ) Qc r (bw w) W fun x L=>aC _ L;clear RR;clear hm;have hd:=lW.fresh (S:=FF) (v:=(.slice (some ⟨gx,0,none⟩) f.cols cx)) Z r RT;clear r W Oa RT Z;generalize (UR.heap.size,VF.heap.size)::UQ=iv16 at*
   obtain⟨J0,J1,J2,J3,J4,J5,J6,J7,rfl⟩:=hd.shape;refine⟨⟨gx,0,none⟩,rfl,by omega,?_⟩;intro O J r;obtain⟨g,G,I,X,N,h4,h5⟩:=(hX.rel r (bw w)).store (j:=k) OT (hd.cC (Bs.same r (bw w))) r (bw w);injection G with G;injection G with G;subst G;refine⟨I,X,N,fun w5 Rr=>?_⟩;obtain⟨k1,k2,k3⟩:=h5 w5 Rr;have PR:dT w.heap.size w w5:=(Y.tr r.cL).tr (dT.grown k2 (fun g e=>by injection e with e;subst e;exact h4.elim (fun h=>h.elim) fun h=>h.1) r.bz);have Rs:=gC.kept hK r (bw w) k2;have St:=eS.kept hC r (bw w) k2;have RL:=eS.kept Qc r (bw w) k2;have Oh:(gb k (fun k q=>q+ci*s.getD k 0) y0).set k (y+ci*q)=(gb (k+1) (fun k q=>q+ci*s.getD k 0) y0):=by rw[<-lO hy,getD_some hq]
   rw[Oh]at k1;clear hX hK hC Qc Y I X N h4 h5 Rr k2 k3 r hd;refine⟨((k+1:Nat):Int),wo,?_⟩;intro IR w6 K;exact⟨(k+1,w6,_),⟨OT,PR.tr K.cL,k1.rel K (bw w),gC.rel Rs K (bw w),eS.rel St K (bw w),eS.rel RL K (bw w)⟩,Sub.gn [] K,by dsimp only;omega⟩
  have OT:k=f.cols:=by have:=aH OT;omega
  rw[OT,<-hy0l,qq,<-hnextA,hy0l]at hX;refine⟨((i+1:Nat):Int),wo,?_⟩;intro IR w6 K;exact⟨(i+1,w6,_),⟨OQ,Y.tr K.cL,hX.rel K (bw w),gC.rel hK K (bw w),eS.rel hC K (bw w)⟩,Sub.gn [] K,by dsimp only;omega⟩
 have OQ:i=(cR (cY f) f.cols).length:=by have:=aH OQ;omega
 rw[OQ]at hX;exact rtn Y fun GT we re=>.inr ⟨_,_,hfrc,rfl,cS.out hX.c re (bw w)⟩
end Go.Ex
namespace Go.Ex
open Go Go.Sx Go.Proofs
def LB(g:Nat):Iv->Iv
 |[]=>[]
 |(lo,D)::iv=>(lo,min D g)::(max lo (g+1),D)::LB g iv
def Iw(v:Value)(iv:Iv):Iv:=match v.ownBlock with
 |some g=>LB g iv
 |none=>iv
theorem Bi{g lo D:Nat}:∀{iv:Iv},(lo,D)∈LB g iv->∃a b,(a,b)∈iv/\a<=lo/\D<=b/\¬(lo<=g/\g<D)
 |[],h=>by cases h
 |(x,y)::iv,h=>by
  rcases List.mem_cons.1 h with h|h
  ·injection h with I X;exact⟨x,y,aG,by omega,by omega,by omega⟩
  ·rcases List.mem_cons.1 h with h|h
   ·injection h with I X;exact⟨x,y,aG,by omega,by omega,by omega⟩
   ·obtain⟨a,b,I,X⟩:=Bi h;exact⟨a,b,aC _ I,X⟩
theorem AB{v:Value}{iv:Iv}{lo D:Nat}(h:(lo,D)∈Iw v iv):∃a b,(a,b)∈iv/\a<=lo/\D<=b/\∀g,v.ownBlock=some g->¬(lo<=g/\g<D):=by
 unfold Iw at h
 cases e:v.ownBlock with
 |none=>rw[e]at h;exact⟨lo,D,h,Nat.le_refl _,Nat.le_refl _,fun g e2=>by cases e2⟩
 |some g=>
  rw[e]at h;obtain⟨a,b,I,X,N,h4⟩:=Bi h;exact⟨a,b,I,X,N,fun g2 e2=>by injection e2 with e2;subst e2;exact h4⟩
end Go.Ex
namespace Go.Sx
open Go Go.Ex Go.Proofs
variable{xs:List Value}{O:Nat->Sx.dL}
theorem Rel.JO{H:Hp}{nx:Nat}{iv:Iv}{B:Nat}{w J:World}(r:Rel H nx iv B w O J){e sz n:Nat}{v:Value}(OR:J.ownsRow 0 e sz v n xs)(Od:∀g,v.ownBlock=some g->B<=g)
  (OS:∀g,v.ownBlock=some g->∀id b,cV H id=some b->(O id).nil=false->(O id).g≠g):
  ∃u:Sx.dL,Rel ((nx,.vec e sz xs)::H) (nx+1) (Iw v iv) B J (Sx.fh O nx u) J/\(At.w nx n).den (Sx.fh O nx u)=v:=by
 have r0:Rel H nx (Iw v iv) B J O J:=Rel.mk' rfl rfl rfl (Nat.le_refl _) (by have:=r.base;have:=r.size;omega)
  (fun lo D hm=>by obtain⟨a,b,I,X,N,_⟩:=AB hm;have:=r.qW a b I;have:=r.size;omega) r.keys (fun j c h=>r.fits h) (fun j c h=>r.scopd h) r.inj r.low (fun _ _ _=>rfl)
  (fun lo D hm id b h Z hh=>by obtain⟨a,c,I,X,N,_⟩:=AB hm;exact r.ji a c I id b h Z ⟨by omega,by omega⟩)
 have hcut:∀lo D,(lo,D)∈Iw v iv->∀g,v.ownBlock=some g->¬(lo<=g/\g<D):=fun lo D hm=>by obtain⟨a,c,I,X,N,h4⟩:=AB hm;exact h4
 obtain⟨I,X⟩:=OR;rcases X with⟨rfl,rfl⟩|⟨g,cap,cur,rfl,_,hc,Z,hm,hs,ht⟩
 ·have:xs=[]:=List.eq_nil_of_length_eq_zero (by rw[I,Nat.zero_mul]);subst this;exact⟨⟨0,0,true⟩,r0.push (.vec e sz []) ⟨0,0,true⟩ rfl rfl rfl (Nat.le_refl _) (fun _ _=>rfl) (fun h=>by cases h) (.inl ⟨rfl,rfl⟩) trivial,by simp[At.den,Sx.fh]⟩
 ·generalize Iw (.slice (some ⟨g,0,none⟩) n cap) iv=OU at*
  have OS:=OS g rfl;have Od:=Od g rfl;have hgl:g<J.heap.size:=(ah.1 hc).1;have Ou:∀id b,cV H id=some b->id≠nx:=fun id b h=>Nat.ne_of_lt (r.keys id b h);have Pp:∀id b,cV H id=some b->Sx.fh O nx ⟨g,cap,false⟩ id=O id:=fun id b h=>by simp[Sx.fh,Ou id b h]
  have WX:xs++cur.toList.drop (n*sz)=cur.toList:=by rw[<-ht,List.take_append_drop]
  refine⟨⟨g,cap,false⟩,Rel.mk' rfl rfl rfl (Nat.le_refl _) r0.base r0.qW ?_ ?_ ?_ ?_ ?_ (fun _ _ _=>rfl) ?_,by simp[At.den,Sx.fh]⟩
  ·intro id b' h;rw[cU]at h;split at h
   ·omega
   ·have:=r.keys id b' h;omega
  ·intro id b' h;rw[cU]at h;split at h
   ·rename_i e2;subst e2;injection h with h;subst h;rw[Sx.dw];exact .inr ⟨rfl,cur.toList.drop (n*sz),by rw[WX];simpa using hc,by rw[WX];simpa using hs,hm⟩
   ·rw[Pp id b' h];exact jh.gV (r.fits h) Sx.fm (r.scopd h) (fun _ _=>rfl)
  ·intro id b' h;rw[cU]at h;split at h
   ·injection h with h;subst h;exact trivial
   ·exact jh.iV (by omega) (r.scopd h)
  ·intro id id' b1 b2 I X d1 d2 n1 n2 e2;rw[cU]at I X;split at I<;>split at X
   ·omega
   ·rename_i e1 e3;subst e1;rw[Sx.dw]at e2 n1;rw[Pp id' b2 X]at e2 n2;exact absurd e2.symm (OS id' b2 X n2)
   ·rename_i e1 e3;subst e3;rw[Sx.dw]at e2 n2;rw[Pp id b1 I]at e2 n1;exact absurd e2 (OS id b1 I n1)
   ·rw[Pp id b1 I]at e2 n1;rw[Pp id' b2 X]at e2 n2;exact r.inj id id' b1 b2 I X d1 d2 n1 n2 e2
  ·intro id b' h n1;rw[cU]at h;split at h
   ·rename_i e2;subst e2;rw[Sx.dw];exact⟨Od,hgl⟩
   ·rw[Pp id b' h]at n1 ⊢;exact r.low id b' h n1
  ·intro lo D Wm id b' h n1;rw[cU]at h;split at h
   ·rename_i e2;subst e2;rw[Sx.dw];exact hcut lo D Wm g rfl
   ·rw[Pp id b' h]at n1 ⊢;exact r0.ji lo D Wm id b' h n1
end Go.Sx
namespace Go.Ex
open Go Go.Sx Go.Proofs
end Go.Ex
namespace Go.Ex
open Go Go.Sx Go.Proofs
variable{l:List Ld}{S:Nat->Prop}{f:ed}
theorem Nm(OV:Em f.nodes.length l):Bl (df (mh f l) (-1)):=fun t=>by
 rcases aP t (df (mh f l) (-1)).length with h|h
 ·have X:t<(mh f l).length:=by rw[df,aL]at h;exact h
  have N:(mh f l)[t]∈mh f l:=aX X;rw[getD_some (show (df (mh f l) (-1))[t]? =some ((mh f l)[t]* -1) by rw[df,aM,aB X];rfl)];obtain⟨z,hz,Pg⟩:=aR.1 N;have hb:=Bh OV l.length (Nat.le_refl _) z hz;have hl:=OV.len;rw[<-Pg,show(z:Rat)* -1=((-z:Int):Rat) by rw[Rat.intCast_neg];grind];exact Ib.int (by omega)
 ·rw[lE h];exact Ib.zero _
abbrev Nn(f:ed):Nat->Rat:=fun t=>(dI f).getD t 0
set_option maxRecDepth 8000 in
theorem Gb{w:World}{vn vb vs vl:Value}(F:Old S w)(hf:dm w S vn vb vs f)(hl:jS w S vl l)(TA:eN f=0->yv f):
  dx PG F'.pV #[.agg #[vn,vb,vs],vl] w (eH w fun v' V=>(kM f l≠0/\v'= .tuple #[.slice none 0 0,.int .i64 (kM f l)])\/(kM f l=0/\((jG (cY f) (df (mh f l) (-1)) f.cols=none/\v'= .tuple #[.slice none 0 0,.int .i64 17])\/∃x vx,yo (cY f) f.cols (Nn f) (df (mh f l) (-1)) x/\v'= .tuple #[vx,.int .i64 0]/\cS V (Nf w V) vx x))):=by
 have Y:=bR w;obtain⟨an,cn,ab,cb,aq,cq,rfl,rfl,rfl,RX,RP,Sk⟩:=hf.shape;obtain⟨al,cl,rfl,PZ,Qq⟩:=hl.shape;obtain⟨e0,EE⟩:∃e,kM f l=e:=⟨_,rfl⟩
 refine tq (by simp) ?_;refine cB (cE Y (fun _ J v V=>v= .int .i64 e0) (fun O J r=>(zw (oS F r) (hf.cC (kS Y r F)) (hl.cC (kS Y r F))).mono fun _ _ ⟨v2,e1,e2,e3⟩=>⟨v2,e1,e2,by rw[e3,EE]⟩) ?_);rintro O _ _ _ OZ r W Y h_ rfl;refine dB.mk ?_ ?_<;>intro W
 ·have W:e0≠0:=by simpa using W
  exact rtn Y fun GT we re=>.inl ⟨by rw[EE];exact W,by rw[EE];rfl⟩
 have W:e0=0:=by simpa using W
 have VB:kM f l=0:=by rw[EE,W]
 obtain⟨PV,Sf⟩:=sd VB;have Pw:=TA PV;have RF:=Pw.toFrS;have Sf:=MV Sf;have hc18:=RF.Nv;have hr12:=RF.OJ;have htl:=oA f;have hlen:=lz f;have hn4:=RF.n4;have OV:=xd PV;have hvl:=Er f l;have hc0:f.cols=f.bars.length+f.cM.length:=rfl;refine cI hτ dN [.x 0,.x 1,.x 2,.x 3,.x 4,.x 5,.x 6,.x 7,.x 8,.x 9] (by kernel_rfl) (by kernel_rfl) ?_;refine cE Y (fun _ J v V=>cS V (Nf J V) v (mh f l)/\∀q∈mh f l,rl q<=1) (fun O J r=>(Io (oS F r) (hl.cC (kS Y r F)) RF.n Sf rfl rfl).mono fun _ _ ⟨v2,e1,e2,e3,e4⟩=>⟨v2,e1,e2,cS.cF e3.c fun g G=>G.new,e4⟩) ?_;rintro O _ _ _ OU r W Y h_ ⟨Z,hvq⟩;have hP:=cS.dD (S:=FF) Z r.bz (mN h_);obtain⟨ap,cp,rfl,-,-⟩:=eD.shape hP;rw[hvl];refine cG (Id:=fun _ J v V=>(jG (cY f) (df (mh f l) (-1)) f.cols=none/\v= .tuple #[.slice none 0 0,.bool false])\/∃x vx,yo (cY f) f.cols (Nn f) (df (mh f l) (-1)) x/\v= .tuple #[vx,.bool true]/\cS V (Nf J V) vx x) (fun O J r=>Iu (S:=fun g=>S g\/Cf w OU g) (fun g G=>G.elim (oS F r g) (Rel.old r (bw w) g)) (dm.cF (hf.cC (kS Y r F)) fun g G=>.inl G) PV Pw (cS.cF (by have:=cS.rel hP r (bw w);rw[hvl]at this;exact this) fun g G=>.inr G) hvl (fun q hq=>by have:=hvq q hq;omega) (Nm Sf)) ?_;rintro O PY v3 PX r W hb (⟨Rx,rfl⟩|⟨x,vx,L,rfl,Z⟩)
 ·replace Y:=Y.tr hb;exact rtn Y fun GT we re=>.inr ⟨VB,.inl ⟨Rx,rfl⟩⟩
 replace Y:=Y.tr hb;have hX:=cS.dD (S:=FF) Z r.bz (iv:=(PY.heap.size,PX.heap.size)::OU) aG;generalize (PY.heap.size,PX.heap.size)::OU=ivx at*
 obtain⟨ax,cx,rfl,-,-⟩:=eD.shape hX;exact rtn Y fun GT we re=>.inr ⟨VB,.inr ⟨x,_,L,rfl,cS.out hX re (bw w)⟩⟩
end Go.Ex
namespace Go.Ex
variable{f:ed}
def Le(w:Nat->Rat)(e:Nat->Nat->Rat)(F' i k:Nat):Rat:=cQ (fun l=>w l*(e l i*e l k)) F'
def wv(e:Nat->Nat->Rat)(d:Nat->Nat)(c:Nat->Rat)(n l:Nat):Rat:=cQ (fun i=>c i*e l (d i)) n
section
variable{w:Nat->Rat}{e:Nat->Nat->Rat}{c:Nat->Rat}{d:Nat->Nat}{F' n:Nat}
theorem KI:qf (fun i k=>Le w e F' (d i) (d k)) c n=cQ (fun l=>w l*(wv e d c n l*wv e d c n l)) F':=by
 unfold qf;rw[cH (g:=fun i=>cQ (fun l=>c i*(w l*e l (d i)*wv e d c n l)) F') fun i _=>?_,mx]
 ·refine cH fun l _=>?_;rw[cH (g:=fun i=>(c i*e l (d i))*(w l*wv e d c n l)) fun i _=>by grind,km];show wv e d c n l*_=_;grind
 ·rw[dY];congr 1;rw[cH (g:=fun k=>cQ (fun l=>w l*e l (d i)*(c k*e l (d k))) F') fun k _=>?_,mx]
  ·exact cH fun l _=>dY ..
  ·unfold Le;rw[<-km];exact cH fun l _=>by grind
theorem EM(i k:Nat):Le w e F' i k=Le w e F' k i:=cH fun l _=>by grind
theorem NW(m m':Mx):qf (fun i k=>m i k+m' i k) c n=qf m c n+qf m' c n:=by
 unfold qf;rw[<-fK];refine cH fun i _=>?_;rw[cH (g:=fun j=>m i j*c j+m' i j*c j) fun j _=>by grind,fK];grind
end
def ke(f:ed)(r:Nat):Bool:=f.cM.any fun s=>decide (dP s=r)&&decide (s.2.2=0)
def dy(f:ed):List Nat:=(List.range (3*f.nodes.length)).filter fun r=> !ke f r
def fa(f:ed)(i:Nat):Nat:=(dy f).getD i 0
theorem MF{i:Nat}(h:i<(dy f).length):fa f i<3*f.nodes.length/\ke f (fa f i)=false:=by
 have I:fa f i∈dy f:=by
  unfold fa;rw[List.getD,aB h];exact aX h
 unfold dy at I;rw[List.mem_filter,List.mem_range]at I;exact⟨I.1,by simpa using I.2⟩
theorem MG{i k:Nat}(D:i<(dy f).length)(R:k<(dy f).length)(e:fa f i=fa f k):i=k:=by
 have I:(dy f).Nodup:=List.nodup_range.filter _;unfold fa at e;rw[List.getD,aB D,List.getD,aB R]at e;have X:=List.pairwise_iff_getElem.1 I;rcases bp i k with g|g|g
 ·exact absurd e (X i k D R g)
 ·exact g
 ·exact absurd e.symm (X k i R D g)
def l7(f:ed)(l r:Nat):Rat:=(if (r:Int)=3*(f.bars.getD (l / 3) (0,0,0)).2.1+(l % 3:Nat)then 1 else 0)-if(r:Int)=3*(f.bars.getD (l / 3) (0,0,0)).1+(l % 3:Nat)then 1 else 0
def mb(f:ed)(l r:Nat):Rat:=cW (cY f) r l
def wE(f:ed)(l:Nat):Rat:=((dI f).getD l 0)⁻¹
def IW(f:ed)(x:List Rat)(r s:Nat):Rat:=Le (wE f) (mb f) f.cols r s+Le (fun l=>x.getD (l / 3) 0) (l7 f) (3*f.bars.length) r s
def fE(f:ed)(x:List Rat):List (List Rat):=(dy f).map fun r=>(dy f).map fun s=>IW f x r s
section
variable{f:ed}{x y z:List Rat}
theorem jH:(fE f x).length=(dy f).length:=aL ..
theorem sO:gh (dy f).length (fE f x):=fun r hr=>by
 obtain⟨_,_,rfl⟩:=aR.1 hr;exact aL ..
theorem nA{i k:Nat}(D:i<(dy f).length)(R:k<(dy f).length):cW (fE f x) i k=IW f x (fa f i) (fa f k):=by
 unfold cW fE fa;simp only[List.getD,aM,aB D,aB R,bY,Option.getD_some]
theorem KJ(r s:Nat):IW f x r s=IW f x s r:=by unfold IW;rw[EM,EM (i:=r)]
theorem IX:sI (fE f x)↔Qp (fun i k=>IW f x (fa f i) (fa f k)) (dy f).length:=by
 rw[Ji,jH];have hs:Sy (cW (fE f x)) (dy f).length:=fun i j D hj=>by rw[nA D hj,nA hj D,KJ]
 have hc:Qp (cW (fE f x)) (dy f).length↔Qp (fun i k=>IW f x (fa f i) (fa f k)) (dy f).length:=by
  constructor<;>intro h c hc<;>have I:=h c hc
  ·rwa [Dr fun i j D hj=>nA D hj]at I
  ·rwa [<-Dr fun i j D hj=>nA D hj]at I
 rw[<-hc];exact⟨fun h=>OD _ _ hs h.2,fun h=>⟨hs,OE _ _ hs h⟩⟩
theorem NX(c:Nat->Rat)(n:Nat):qf (fun i k=>IW f x (fa f i) (fa f k)) c n=cQ (fun l=>wE f l*(wv (mb f) (fa f) c n l*wv (mb f) (fa f) c n l)) f.cols+cQ (fun l=>x.getD (l / 3) 0*(wv (l7 f) (fa f) c n l*wv (l7 f) (fa f) c n l)) (3*f.bars.length):=by
 unfold IW;rw[NW (fun i k=>Le (wE f) (mb f) f.cols (fa f i) (fa f k)) fun i k=>Le (fun l=>x.getD (l / 3) 0) (l7 f) (3*f.bars.length) (fa f i) (fa f k),KI,KI]
theorem Fx(L:sI (fE f x))(hz:sI (fE f z)){p q:Rat}(hp:0<p)(hq:0<=q)(hy:∀i,y.getD i 0=p*x.getD i 0+q*z.getD i 0)(I:p+q=1):sI (fE f y):=by
 rw[IX]at L hz ⊢;intro c hc;have a:=L c hc;have b:=hz c hc;rw[NX]at a b ⊢;obtain⟨P,hP⟩:∃P,cQ (fun l=>wE f l*(wv (mb f) (fa f) c (dy f).length l*wv (mb f) (fa f) c (dy f).length l)) f.cols=P:=⟨_,rfl⟩
 obtain⟨Do,hL⟩:∃Do,wv (l7 f) (fa f) c (dy f).length=Do:=⟨_,rfl⟩
 rw[hP,hL]at a b ⊢;rw[cH (g:=fun l=>p*(x.getD (l / 3) 0*(Do l*Do l))+q*(z.getD (l / 3) 0*(Do l*Do l))) fun l _=>by rw[hy];grind,fK,dY,dY];obtain⟨C9,hX⟩:∃C9,cQ (fun l=>x.getD (l / 3) 0*(Do l*Do l)) (3*f.bars.length)=C9:=⟨_,rfl⟩
 obtain⟨EQ,hZ⟩:∃EQ,cQ (fun l=>z.getD (l / 3) 0*(Do l*Do l)) (3*f.bars.length)=EQ:=⟨_,rfl⟩
 rw[hX]at a ⊢;rw[hZ]at b ⊢;have k1:=Rat.mul_pos hp a;have k2:=Rat.mul_nonneg hq (Rat.le_of_lt b);have e:P+(p*C9+q*EQ)=p*(P+C9)+q*(P+EQ):=by
  rw[show P=(p+q)*P by rw[I,bm]];grind
 rw[e];grind
end
end Go.Ex
