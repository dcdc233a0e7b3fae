/- Texts L44 to L56: lemmas, each with its conditions. -/
import Derived.Test.YtgkpbdkechfgmaaGreatP13
namespace Go.Ex
variable{d:Int}{M:List (List Rat)}{l x0 φ:List Rat}{K c n:Nat}{x y:Nat->Rat}{D:Rat}{f:ed}
theorem xa{a b:Rat}(ha:a≠0)(hb:b≠0):a*b≠0:=fun e=>by
 rcases Rat.mul_eq_zero.1 e with h|h
 ·exact ha h
 ·exact hb h
def Den(K:Nat)(D:Rat)(l:List Rat):Prop:=D≠0∧Ib K D∧∀t,Ib K (D*l.getD t 0)
def Fu(K:Nat)(D:Rat)(M:List (List Rat)):Prop:=D≠0∧Ib K D∧∀k t,Ib K (D*cW M k t)
theorem Den.rl(h:Den K D l):∀q∈l,rl q<=ln K:=fun q hq=>by
 obtain⟨j,hj⟩:=aQ hq;have:=qj h.1 h.2.1 (h.2.2 j)
 rwa [List.getD,hj]at this
theorem Fu.rl(h:Fu K D M):∀r∈M,∀q∈r,rl q<=ln K:=fun r hr q hq=>by
 obtain⟨k,hk⟩:=aQ hr;obtain⟨j,hj⟩:=aQ hq;have:=qj h.1 h.2.1 (h.2.2 k j)
 rwa [cW,show M.getD k []=r by rw[List.getD,hk];rfl,List.getD,hj]at this
theorem lF{t:Nat}(h:l.length<=t):l.getD t 0=0:=by rw[List.getD,List.getElem?_eq_none h];rfl
theorem Lz{k t:Nat}(hM:gh n M)(h:n<=t):cW M k t=0:=by
 rw[cW];rcases aP k M.length with hk|hk
 ·exact lF (by rw[hM.getD hk];exact h)
 ·rw[show M.getD k []=[] by rw[List.getD,List.getElem?_eq_none hk];rfl];rfl
theorem Jz{k t:Nat}(h:M.length<=k):cW M k t=0:=by
 rw[cW,show M.getD k []=[] by rw[List.getD,List.getElem?_eq_none h];rfl];rfl
section
variable{M:List (List Rat)}{n B:Nat}{b:List Rat}
theorem HH(hM:gh n M)(hW:Dw M n B)(hB:1<=B)(hc:c<=n):∃D:Rat,D≠0∧Ib (fB B M.length) D∧∀i t,i<(cK M c).2.length->t<n->Ib (fB B M.length) (D*cW (cK M c).1 i t):=by
 obtain⟨σ,Z,h⟩:=pQ hM hW c hc;have hle:=h.red.2.1;rw[h.len]at hle;have hm:=qi hB hle;exact⟨_,h.yh.nz,h.yh.den.mono hm,fun i t hi ht=>(h.yh.ent hi ht).mono hm⟩
theorem MA(hM:gh n M)(hW:Dw M n B)(hB:1<=B):∃D,Fu (fB B M.length) D (cR M n):=by
 obtain⟨D,h0,hD,hE⟩:=HH hM hW hB (Nat.le_refl n);obtain⟨r1,r2,r3,r4,r5⟩:=eK hM n (Nat.le_refl _);have Qe:=iq M n;refine⟨D,h0,hD,fun k t=>?_⟩;rcases aP k (cR M n).length with hk|hk
 ·rcases aP t n with ht|ht
  ·have hf:=ky.1 (pK (by rw[<-mz];exact hk));rw[cW,yj M n hk];generalize (iz (cK M n).2 n).getD k 0=c at hf;by_cases hp:t∈(cK M n).2
   ·obtain⟨j,hj,rfl⟩:=sD hp;rw[nd (F:=fq (cK M n).1 (cK M n).2 n c) (f:=fun i=> -(cW (cK M n).1 i c)) (fun i=>gl _ _ n c i) (jv _ _ n c) Qe.2.1 r4 _ (Nat.le_refl _) hj,show D* -(cW (cK M n).1 j c)= -(D*cW (cK M n).1 j c) by grind];exact(hE j c hj hf.1).neg
   ·rw[pJ hp hf.1];split
    ·rw[Rat.mul_one];exact hD
    ·rw[az];exact Ib.zero _
  ·rw[Lz (np M n) ht,az];exact Ib.zero _
 ·rw[Jz hk,az];exact Ib.zero _
theorem EB{x:List Rat}(hM:gh n M)(hW:Dw (dX M b) (n+1) B)(hB:1<=B)(h:jG M b n=some x):∃D,Den (fB B M.length) D x:=by
 obtain⟨D,h0,hD,hE⟩:=HH (jP (b:=b) hM) hW hB (Nat.le_succ n);rw[fP]at hD hE;obtain⟨r1,r2,r3,r4,r5⟩:=eK (jP (b:=b) hM) n (Nat.le_succ _);have Qe:=iq (dX M b) n;unfold jG at h;dsimp only at h;split at h
 ·injection h with h;subst h;refine⟨D,h0,hD,fun t=>?_⟩;by_cases hp:t∈(cK (dX M b) n).2
  ·obtain⟨j,hj,rfl⟩:=sD hp;rw[nd (F:=gW (cK (dX M b) n).1 (cK (dX M b) n).2 n) (f:=fun i=>cW (cK (dX M b) n).1 i n) (fun i=>gp _ _ n i) (jw _ _ n) Qe.2.1 r4 _ (Nat.le_refl _) hj];exact hE j n hj (by omega)
  ·rw[tG hp,az];exact Ib.zero _
 ·cases h
end
def lG(φ:List Rat):Nat->Rat
 |0=>1
 |t+1=>lG φ t*((φ.getD t 0).den:Rat)
theorem EC(φ:List Rat):∀k,lG φ k≠0
 |0=>by show(1:Rat)≠0;decide
 |k+1=>xa (EC φ k) (by have:=(φ.getD k 0).den_nz;exact_mod_cast this)
theorem ym{φ:List Rat}{B:Nat}(h:∀t,(φ.getD t 0).den<=B):∀k,Ib (B^k) (lG φ k)
 |0=>Ib.one (Nat.le_refl _)
 |k+1=>by
  rw[Nat.pow_succ];exact(ym h k).mul ⟨((φ.getD k 0).den:Int),rfl,by rw[Int.natAbs_natCast];exact h k⟩
theorem CJ(q:Rat):(q.den:Rat)*q=(q.num:Rat):=by
 have h:=Rat.num_divInt_den q;have h0:((q.den:Int):Rat)≠0:=by have:=q.den_nz;exact_mod_cast this
 rw[Rat.divInt_eq_div]at h;have h1:(q.num:Rat) / ((q.den:Int):Rat)*((q.den:Int):Rat)=(q.num:Rat):=Rat.div_mul_cancel h0;rw[h,bs]at h1;exact h1
theorem BU{φ:List Rat}{B:Nat}(h:∀t,(φ.getD t 0).den<=B)(hn:∀t,(φ.getD t 0).num.natAbs<=B)(hB:1<=B):∀k t,t<k->Ib (B^k) (lG φ k*φ.getD t 0)
 |0,t,ht=>by omega
 |k+1,t,ht=>by
  rw[lG,Nat.pow_succ];rcases aP t k with h1|h1
  ·rw[show ∀a b c:Rat,a*b*c=(a*c)*b from fun a b c=>by grind];exact(BU h hn hB k t h1).mul ⟨((φ.getD k 0).den:Int),rfl,by rw[Int.natAbs_natCast];exact h k⟩
  ·rw[show t=k by omega,Rat.mul_assoc,CJ];exact(ym h k).mul (Ib.int (hn k))
theorem uz{l:Nat}:1<=wt l:=uo l
theorem KA{q:Rat}{l:Nat}(h:rl q<=l):q.num.natAbs<wt l∧q.den<wt l:=⟨gD.1 (aW (fu q) h),gD.1 (aW (NS q) h)⟩
theorem KB(l k:Nat):wt l^k=wt (l*k):=by rw[uq,uq,<-Nat.pow_mul,bc]
theorem ED(hl:φ.length<=n)(h:∀q∈φ,rl q<=3):Den (wt (3*n)) (lG φ n) φ:=by
 have h3:∀t,rl (φ.getD t 0)<=3:=fun t=>by
  rw[List.getD]
  cases ht:φ[t]? with
  |none=>show rl 0<=3;decide
  |some q=>exact h q (aE ht)
 have h1:∀t,(φ.getD t 0).den<=wt 3:=fun t=>Nat.le_of_lt (KA (h3 t)).2;have h2:∀t,(φ.getD t 0).num.natAbs<=wt 3:=fun t=>Nat.le_of_lt (KA (h3 t)).1;refine⟨EC φ n,by rw[<-KB];exact ym h1 n,fun t=>?_⟩;rcases aP t n with ht|ht
 ·rw[<-KB];exact BU h1 h2 uz n t ht
 ·rw[lF (by omega),az];exact Ib.zero _
theorem getD_some{α:Type}{l:List α}{i:Nat}{x d:α}(h:l[i]? =some x):l.getD i d=x:=by rw[List.getD,h];rfl
structure CK(M:List (List Rat))(n:Nat)(φ:Nat->Rat):Prop where
 len:gh n M
 pos:∀t,t<n->0<=φ t
 OG:∀x:Nat->Rat,(∀j,j<M.length->mulR M n x j=0)->cQ (fun t=>φ t*(x t*x t)) n=0->∀t,t<n->x t=0
theorem EF(M:List (List Rat))(n:Nat)(x y:Nat->Rat)(j:Nat):mulR M n (fun t=>x t+y t) j=mulR M n x j+mulR M n y j:=by
 unfold mulR;rw[<-fK];exact cG fun t _=>by grind
theorem KC(M:List (List Rat))(n:Nat)(x:Nat->Rat)(c:Rat)(j:Nat):mulR M n (fun t=>c*x t) j=c*mulR M n x j:=by
 unfold mulR;rw[<-dY];exact cG fun t _=>by grind
theorem EG(M:List (List Rat))(n:Nat)(S:Mx)(c:Nat->Rat)(j s:Nat):mulR M n (fun t=>cQ (fun k=>c k*S k t) s) j=cQ (fun k=>c k*mulR M n (S k) j) s:=by
 induction s with
 |zero=>exact(cG (g:=fun _=>0) fun t _=>az _).trans (dU n)
 |succ s ih=>
  show mulR M n (fun t=>cQ (fun k=>c k*S k t) s+c s*S s t) j=cQ (fun k=>c k*mulR M n (S k) j) s+c s*mulR M n (S s) j;rw[EF,KC,ih]
theorem Fv(h:∀t,t<n->x t=y t)(j:Nat):mulR M n x j=mulR M n y j:=cG fun t ht=>by rw[h t ht]
def xb(φ x y:Nat->Rat)(n:Nat):Rat:=cQ (fun t=>φ t*(x t*y t)) n
theorem yn(φ x y:Nat->Rat)(n:Nat):xb φ x y n=xb φ y x n:=cG fun t _=>by grind
theorem HI(φ x y z:Nat->Rat)(n:Nat):xb φ x (fun t=>y t+z t) n=xb φ x y n+xb φ x z n:=by
 unfold xb;rw[<-fK];exact cG fun t _=>by grind
theorem xc(φ x:Nat->Rat)(S:Mx)(c:Nat->Rat)(n s:Nat):xb φ x (fun t=>cQ (fun k=>c k*S k t) s) n=cQ (fun k=>c k*xb φ x (S k) n) s:=by
 unfold xb;rw[cG (g:=fun t=>cQ (fun k=>c k*(φ t*(x t*S k t))) s) fun t _=>by rw[<-dY,<-dY];exact cG fun k _=>by grind,mx];exact cG fun k _=>by rw[dY]
theorem BV{φ x' y':Nat->Rat}(h1:∀t,t<n->x t=x' t)(h2:∀t,t<n->y t=y' t):xb φ x y n=xb φ x' y' n:=cG fun t ht=>by rw[h1 t ht,h2 t ht]
section
variable{M:List (List Rat)}{n:Nat}{φ:Nat->Rat}{b:List Rat}
def HJ(M:List (List Rat))(n:Nat)(φ:Nat->Rat)(i j:Nat):Rat:=xb φ (cW (cR M n) i) (cW (cR M n) j) n
theorem CK.KD(h:CK M n φ){c:Nat->Rat}(hc:∀i,i<(cR M n).length->cQ (fun j=>HJ M n φ i j*c j) (cR M n).length=0):∀i,i<(cR M n).length->c i=0:=by
 obtain⟨y,hy⟩:∃y:Nat->Rat,y=fun t=>cQ (fun k=>c k*cW (cR M n) k t) (cR M n).length:=⟨_,rfl⟩
 have hnull:∀j,j<M.length->mulR M n y j=0:=fun j hj=>by
  rw[hy,EG,cG (g:=fun _=>0) fun k hk=>by rw[EA h.len hk j hj,az],dU]
 have hw:∀i,i<(cR M n).length->xb φ (cW (cR M n) i) y n=0:=fun i hi=>by
  rw[hy,xc,<-hc i hi];exact cG fun k _=>bs _ _
 have h0:xb φ y y n=0:=by
  have:xb φ y y n=cQ (fun k=>c k*xb φ y (cW (cR M n) k) n) (cR M n).length:=by
   rw[<-xc,<-hy]
  rw[this,cG (g:=fun _=>0) fun k hk=>by rw[yn,hw k hk,az],dU]
 exact Ly (M:=M) fun t ht=>by
  have:=h.OG y hnull h0 t ht;rw[hy]at this;exact this
theorem CK.only(h:CK M n φ)(hx:∀j,j<M.length->mulR M n x j=0)(hs:∀k,k<(cR M n).length->xb φ (cW (cR M n) k) x n=0):∀t,t<n->x t=0:=by
 obtain⟨c,hc⟩:=Lx h.len hx;have h0:xb φ x x n=0:=by
  rw[BV (x':=x) (fun _ _=>rfl) hc,xc,cG (g:=fun _=>0) fun k hk=>by rw[yn,hs k hk,az],dU]
 exact h.OG x hx h0
structure yo(M:List (List Rat))(n:Nat)(φ:Nat->Rat)(b x:List Rat):Prop where
 len:x.length=n
 eq:∀j,j<M.length->mulR M n (fun t=>x.getD t 0) j=b.getD j 0
 st:∀k,k<(cR M n).length->xb φ (cW (cR M n) k) (fun t=>x.getD t 0) n=0
theorem CK.one(h:CK M n φ){x y:List Rat}(hx:yo M n φ b x)(hy:yo M n φ b y):x=y:=by
 refine iL 0 (by rw[hx.len,hy.len]) fun t ht=>?_;rw[hx.len]at ht
 have:=h.only (x:=fun t=>x.getD t 0-y.getD t 0) (fun j hj=>by rw[Jw,hx.eq j hj,hy.eq j hj];grind) (fun k hk=>by
  rw[show (fun t=>x.getD t 0-y.getD t 0)=fun t=>x.getD t 0+(-1)*y.getD t 0 from funext fun t=>by grind,HI,hx.st k hk];have h2:=hy.st k hk;unfold xb at h2 ⊢;rw[cG (f:=fun t=>φ t*(cW (cR M n) k t*(-1*y.getD t 0))) (g:=fun t=>(-1)*(φ t*(cW (cR M n) k t*y.getD t 0))) fun t _=>by grind,dY,h2]
  grind) t ht
 grind
end
theorem yp{a b:List Rat}{t:Nat}(ht:t<a.length):(lz a b).getD t 0=a.getD t 0*b.getD t 0:=by
 have h:=aB ht;rw[getD_some h];exact getD_some (by rw[lz,List.getElem?_mapIdx,h];rfl)
section
variable{M:List (List Rat)}{n:Nat}{fl b:List Rat}
theorem vA(M:List (List Rat))(n:Nat)(fl:List Rat){i j:Nat}(hi:i<(cR M n).length)(hj:j<(cR M n).length):cW (eO (cR M n) fl) i j=HJ M n (fun t=>fl.getD t 0) i j:=by
 have hr:=aB hi;have hs:=aB hj;have hl:((cR M n)[i]).length=n:=np M n _ (aX hi);have h1:(eO (cR M n) fl)[i]? =some ((cR M n).map fun r=>fL (lz (cR M n)[i] fl) r (cR M n)[i].length):=by rw[eO,aM,hr];rfl
 have h2:((cR M n).map fun r=>fL (lz (cR M n)[i] fl) r (cR M n)[i].length)[j]? =some (fL (lz (cR M n)[i] fl) (cR M n)[j] (cR M n)[i].length):=by rw[aM,hs];rfl
 rw[cW,getD_some h1,getD_some h2,sH,hl];refine cG fun t ht=>?_;rw[yp (by omega),cW,cW,getD_some hr,getD_some hs];grind
theorem ns(st:List (List Rat))(fl:List Rat):gh st.length (eO st fl):=fun r hr=>by
 obtain⟨s,hs,rfl⟩:=aR.1 hr;rw[aL]
theorem EH(M:List (List Rat))(n:Nat)(fl x:List Rat){i:Nat}(hi:i<(cR M n).length):(gQ (cR M n) fl x).getD i 0= -(xb (fun t=>fl.getD t 0) (cW (cR M n) i) (fun t=>x.getD t 0) n):=by
 have hr:=aB hi;have hl:((cR M n)[i]).length=n:=np M n _ (aX hi);have h1:(gQ (cR M n) fl x)[i]? =some (-(fL (lz (cR M n)[i] fl) x (cR M n)[i].length)):=by rw[gQ,aM,hr];rfl
 rw[getD_some h1,sH,hl];congr 1;refine cG fun t ht=>?_;rw[yp (by omega),cW,getD_some hr];grind
theorem ql(st:List (List Rat))(c x:List Rat):∀i,(lE st c x i).length=x.length
 |0=>rfl
 |i+1=>by rw[lE,List.length_mapIdx,ql st c x i]
theorem yq(st:List (List Rat))(c x:List Rat){t:Nat}(ht:t<x.length):∀i,(lE st c x i).getD t 0=x.getD t 0+cQ (fun k=>c.getD k 0*cW st k t) i
 |0=>(bD _).symm
 |i+1=>by
  have hl:t<(lE st c x i).length:=by rw[ql];exact ht
  have ih:=yq st c x ht i;rw[getD_some (aB hl)]at ih;rw[getD_some (show (lE st c x (i+1))[t]? =some ((lE st c x i)[t]+c.getD i 0*(st.getD i []).getD t 0) by rw[lE,List.getElem?_mapIdx,aB hl];rfl),ih,cQ,Rat.add_assoc];rfl
theorem CK.force(h:CK M n fun t=>fl.getD t 0)(h0:jG M b n=some x0):∃c,jG (eO (cR M n) fl) (gQ (cR M n) fl x0) (cR M n).length=some c∧c.length=(cR M n).length∧
  yo M n (fun t=>fl.getD t 0) b (lE (cR M n) c x0 (cR M n).length):=by
 obtain⟨Rn,RZ⟩:=sK h.len h0;have hG:=ns (cR M n) fl;have hGl:(eO (cR M n) fl).length=(cR M n).length:=aL _;have hc:∃c,jG (eO (cR M n) fl) (gQ (cR M n) fl x0) (cR M n).length=some c:=by
  cases e:jG (eO (cR M n) fl) (gQ (cR M n) fl x0) (cR M n).length with
  |some c=>exact⟨c,rfl⟩
  |none=>
   obtain⟨y,y1,y2⟩:=yi hG e;rw[hGl]at y1 y2;have hy:=h.KD (c:=y) fun i hi=>Eq.trans (cG fun j hj=>by rw[vA M n fl hj hi,bs];unfold HJ;rw[yn]) (y1 i hi);exact absurd (by rw[cG (g:=fun _=>0) fun j hj=>by rw[hy j hj,bC],dU]) y2
 obtain⟨c,hc⟩:=hc;obtain⟨c1,c2⟩:=sK hG hc;refine⟨c,hc,c1,by rw[ql];exact Rn,fun j hj=>?_,fun k hk=>?_⟩
 ·rw[Fv (y:=fun t=>x0.getD t 0+cQ (fun k=>c.getD k 0*cW (cR M n) k t) (cR M n).length) fun t ht=>yq _ c x0 (by omega) _,EF,EG,RZ j hj,cG (g:=fun _=>0) fun k hk=>by rw[EA h.len hk j hj,az],dU,bD]
 ·rw[BV (x':=cW (cR M n) k) (y':=fun t=>x0.getD t 0+cQ (fun k=>c.getD k 0*cW (cR M n) k t) (cR M n).length) (fun _ _=>rfl) fun t ht=>yq _ c x0 (by omega) _,HI,xc];have h2:=c2 k (by omega);rw[EH M n fl x0 hk]at h2;unfold mulR at h2;rw[cG (g:=fun t=>c.getD t 0*xb (fun t=>fl.getD t 0) (cW (cR M n) k) (cW (cR M n) t) n) fun t ht=>by rw[vA M n fl hk ht,bs];rfl]at h2;rw[h2];grind
end
def ez(M:List (List Int))(r c:Nat):Int:=(M.getD r []).getD c 0
theorem getD_set_ne{α:Type}{l:List α}{i j:Nat}{x d:α}(h:i≠j):(l.set i x).getD j d=l.getD j d:=by rw[List.getD,aT h,<-List.getD]
theorem jV{α:Type}{l:List α}{i:Nat}{x d:α}(h:i<l.length):(l.set i x).getD i d=x:=by rw[List.getD,aO h];rfl
theorem gX{M:List (List Int)}{r r' c':Nat}(h:r'≠r∨c'≠c):ez (putAt M r c d) r' c'=ez M r' c':=by
 unfold ez putAt;by_cases h1:r'=r
 ·subst h1;have h2:c≠c':=h.elim (fun h=>absurd rfl h) fun h=>h.symm;rcases aP r' M.length with h3|h3
  ·rw[jV h3,getD_set_ne h2]
  ·rw[List.set_eq_of_length_le h3]
 ·rw[getD_set_ne (Ne.symm h1)]
theorem tQ{M:List (List Int)}{r:Nat}(hr:r<M.length)(hc:c<(M.getD r []).length):ez (putAt M r c d) r c=d:=by
 unfold ez putAt;rw[jV hr,jV hc]
theorem gH(M:List (List Int))(r c:Nat)(d:Int):yb M r c d=putAt M r c (ez M r c+d):=rfl
theorem jy{i:Nat}{b:Int×Int×Rat}(hb:f.bars[i]? =some b):f.bars.getD i (0,0,0)=b:=by rw[List.getD,hb];rfl
theorem qm{f:ed}{M:List (List Int)}{i c r:Nat}(h:c≠i):∀k,ez (fD f M i k) r c=ez M r c
 |0=>rfl
 |k+1=>by
  rw[fD];rw[gH,gX (.inr h),gH,gX (.inr h)];exact qm h k
theorem kH(f:ed){r c:Nat}:∀i,i<=c->ez (eG f i) r c=0
 |0,_=>by
  unfold ez eG;rcases aP r (3*f.nodes.length)with h|h
  ·rw[show (List.replicate (3*f.nodes.length) (List.replicate f.cols (0:Int))).getD r []=List.replicate f.cols 0 by rw[List.getD,List.getElem?_replicate,if_pos h];rfl,List.getD,List.getElem?_replicate];split<;>rfl
  ·rw[show (List.replicate (3*f.nodes.length) (List.replicate f.cols (0:Int))).getD r []=[] by rw[List.getD,List.getElem?_replicate,aI (by omega)];rfl];rfl
 |i+1,h=>by rw[eG,qm (by omega)];exact kH f i (by omega)
theorem toNat_add{a:Int}{k ka:Nat}(h:a=ka):(3*a+(k:Int)).toNat=3*ka+k:=by omega
theorem BW{f:ed}{M:List (List Int)}{i r ka kb:Nat}{b:Int×Int×Rat}(hb:f.bars[i]? =some b)(ea:b.1=ka)(eb:b.2.1=kb):∀k,k<=3->k<=r % 3->ez (fD f M i k) r i=ez M r i
 |0,_,_=>rfl
 |k+1,h3,h=>by
  rw[fD];rw[jy hb,toNat_add ea,toNat_add eb,gH,gX (.inl (by omega)),gH,gX (.inl (by omega))];exact BW hb ea eb k (by omega) (by omega)
theorem yr{i r ka kb k:Nat}{b:Int×Int×Rat}(hb:f.bars[i]? =some b)(ea:b.1=ka)(eb:b.2.1=kb)(hk:k<=3)(h:k<=r % 3):ez (fD f (eG f i) i k) r i=0:=by
 rw[BW hb ea eb k hk h];exact kH f i (Nat.le_refl _)
theorem sL{f:ed}{r c:Nat}(h:c<f.bars.length):∀k,ez (fG f k) r c=ez (eG f f.bars.length) r c
 |0=>rfl
 |k+1=>by
  rw[fG];rw[gX (.inr (by omega))];exact sL h k
theorem wH{f:ed}{r i:Nat}:∀k,k<=i->ez (fG f k) r (f.bars.length+i)=0
 |0,_=>kH f _ (by omega)
 |k+1,h=>by
  rw[fG];rw[gX (.inr (by omega))];exact wH k (by omega)
def dP(s:Int×Int×Rat):Nat:=(3*s.1+s.2.1).toNat
theorem BX{f:ed}(hw:∀k,∀l∈fG f k,l.length=f.cols)(hlen:∀k,(fG f k).length=3*f.nodes.length)(OR:∀s∈f.cM,dP s<3*f.nodes.length){r i:Nat}{s:Int×Int×Rat}(hs:f.cM[i]? =some s):
  ∀k,i<k->ez (fG f k) r (f.bars.length+i)=if r=dP s then 1 else 0
 |0,h=>by omega
 |k+1,h=>by
  rw[fG];rcases aP i k with h1|h1
  ·rw[gX (.inr (by omega))];exact BX hw hlen OR hs k h1
  ·have:i=k:=by omega
   subst this;have hg:f.cM.getD i (0,0,0)=s:=by rw[List.getD,hs];rfl
   have hsr:=OR s (aE hs);have hi:=(aD.1 hs).1;rw[hg];by_cases h2:r=dP s
   ·rw[if_pos h2,h2];have hm:dP s<(fG f i).length:=by rw[hlen];exact hsr
    exact tQ hm (by
     show f.bars.length+i<((fG f i).getD (dP s) []).length;rw[List.getD,aB hm];show f.bars.length+i<((fG f i)[dP s]).length;rw[hw i _ (aX hm),ed.cols]
     omega)
   ·rw[aI h2];exact(gX (r:=dP s) (.inl h2)).trans (wH i (Nat.le_refl _))
end Go.Ex
namespace Go.Ex
open Go Go.Sx Go.Proofs
variable{O:Nat->Sx.dL}
theorem Cv.new{w w2:World}{g:Nat}(hg:Cf w [(w.heap.size,w2.heap.size)] g):Nf w w2 g:=by
 rcases hg with hg|⟨h1,lo,hi,h2,h3,h4⟩
 ·exact hg.elim
 ·simp at h2;obtain⟨rfl,rfl⟩:=h2;exact .inr ⟨h3,h4⟩
structure aA9(w:World)(B:Nat)(iv:Iv)(v:Value)(M:List (List Rat)):Prop where
 row:∃rv,w.ownsRow 0 T.jC 1 v M.length rv∧rv.length=M.length∧(∀u∈rv,u.oneCell'=true)∧∀(i:Nat) u x,rv[i]? =some u->M[i]? =some x->cS w (Bs FF B iv v) u x
 new:∀g,v.ownBlock=some g->Cv FF B iv g
section
variable{H:Hp}{nx:Nat}{iv iv':Iv}{B:Nat}{w w' w2:World}{O:Nat->Sx.dL}{v:Value}{M:List (List Rat)}
end
theorem At.aAH{id n:Nat}:((At.w id n).den O).oneCell'=true:=by
 cases h:(O id).nil<;>simp[At.den,h,Value.oneCell']
end Go.Ex
namespace Go.Ex
variable{s:Int×Int×Rat}{M:List (List Int)}{r:Nat}{x:Nat->Rat}{f:ed}
theorem MB{c:Nat}:cW (M.map ew) r c=((ez M r c:Int):Rat):=by
 have key:∀l:List Int,(ew l).getD c 0=((l.getD c 0:Int):Rat):=fun l=>by
  rw[ew,List.getD,List.getD,aM]
  cases l[c]? <;>rfl
 unfold cW ez;rw[<-key];congr 1;rw[List.getD,List.getD,aM]
 cases M[r]? <;>rfl
theorem pR(f:ed)(r c:Nat):cW (cY f) r c=((ez (jF f) r c:Int):Rat):=MB
def MC(n:Nat)(M:List (List Int)):Prop:=∀l∈M,l.length=n
theorem MC.put{n c:Nat}{d:Int}(h:MC n M):MC n (putAt M r c d):=fun l hl=>by
 unfold putAt at hl;rcases aP r M.length with hr|hr
 ·rcases a9 hl with hl|rfl
  ·exact h l hl
  ·rw[bX,List.getD,aB hr];exact h _ (aX hr)
 ·rw[List.set_eq_of_length_le hr]at hl;exact h l hl
theorem vB{f:ed}{M:List (List Int)}{n i:Nat}(h:MC n M):∀k,MC n (fD f M i k)
 |0=>h
 |k+1=>by rw[fD];rw[gH,gH];exact((vB h k).put).put
theorem sM(f:ed):∀i,MC f.cols (eG f i)
 |0=>fun l hl=>by rw[eG]at hl;rw[b9 hl,bN]
 |i+1=>by rw[eG];exact vB (sM f i) 3
theorem nt(f:ed):∀i,MC f.cols (fG f i)
 |0=>sM f _
 |i+1=>by rw[fG];exact(nt f i).put
theorem ke(M:List (List Int))(r c:Nat)(d:Int):(putAt M r c d).length=M.length:=bX ..
theorem nu(f:ed)(M:List (List Int))(i:Nat):∀k,(fD f M i k).length=M.length
 |0=>rfl
 |k+1=>by rw[fD];rw[gH,gH,ke,ke];exact nu f M i k
theorem ma(f:ed):∀i,(eG f i).length=3*f.nodes.length
 |0=>bN ..
 |i+1=>by rw[eG,nu];exact ma f i
theorem mb(f:ed):∀i,(fG f i).length=3*f.nodes.length
 |0=>ma f _
 |i+1=>by rw[fG,ke];exact mb f i
theorem mA(f:ed):gh f.cols (cY f):=fun r hr=>by
 obtain⟨l,hl,rfl⟩:=aR.1 hr;rw[ew,aL];exact nt f _ l hl
theorem oA(f:ed):(cY f).length=3*f.nodes.length:=by rw[cY,aL];exact mb f _
structure FrV(f:ed):Prop where
 co:∀p∈f.nodes,(-1000000<=p.1∧p.1<=1000000)∧(-1000000<=p.2.1∧p.2.1<=1000000)∧(-1000000<=p.2.2∧p.2.2<=1000000)
 JH:∀b∈f.bars,∃ka kb:Nat,b.1=ka∧b.2.1=kb∧ka<f.nodes.length∧kb<f.nodes.length∧ka≠kb∧0<b.2.2
 sup:∀s∈f.cM,dP s<3*f.nodes.length∧0<=s.2.2
 one:∀(i j:Nat) s t,f.cM[i]? =some s->f.cM[j]? =some t->dP s=dP t->i=j
 n:f.nodes.length<=20
 b:f.bars.length<=60
 s:f.cM.length<=60
theorem HK{α:Type}{l:List α}{x:α}(h:x∈l):∃i:Nat,l[i]? =some x:=by
 obtain⟨i,hi,rfl⟩:=List.mem_iff_getElem.1 h;exact⟨i,aB hi⟩
theorem NT(h:eN f=0):FrV f:=by
 have OV:=xd h;obtain⟨⟨h1,h2,h3⟩,h4,h5,h6⟩:=BY h;have Vg:∀(k:Nat) s,f.cM[k]? =some s->jB f.nodes.length s.1∧(0<=s.2.1∧s.2.1<=2)∧iY s∉(f.cM.take k).map iY∧0<=s.2.2:=fun k s hs=>qn.1 (jW h6 k s hs);have OR:∀(k:Nat) s,f.cM[k]? =some s->(dP s:Int)=3*s.1+s.2.1∧dP s<3*f.nodes.length:=fun k s hs=>by
  obtain⟨⟨a1,a2⟩,⟨a3,a4⟩,-,-⟩:=Vg k s hs;unfold dP;omega
 have lt:∀(i j:Nat) s t,i<j->f.cM[i]? =some s->f.cM[j]? =some t->dP s≠dP t:=fun i j s t PE hs ht e=>by
  obtain⟨⟨a1,a2⟩,⟨a3,a4⟩,-,-⟩:=Vg i s hs;obtain⟨⟨b1,b2⟩,⟨b3,b4⟩,b5,-⟩:=Vg j t ht;have e1:=(OR i s hs).1;have e2:=(OR j t ht).1;refine b5 (aR.2 ⟨s,aE (i:=i) (by rw[bO PE];exact hs),?_⟩);exact Prod.ext (by show s.1=t.1;omega) (by show s.2.1=t.2.1;omega)
 refine⟨OV.co,fun b hb=>?_,fun s hs=>?_,fun i j s t hs ht e=>?_,h1,h2,h3⟩
 ·obtain⟨k,hk⟩:=HK hb;obtain⟨⟨⟨a1,a2⟩,a3,a4⟩,a5,-,a6⟩:=qo.1 (jW h5 k b hk);exact⟨b.1.toNat,b.2.1.toNat,by omega,by omega,by omega,by omega,by omega,a6⟩
 ·obtain⟨k,hk⟩:=HK hs;exact⟨(OR k s hk).2,(Vg k s hk).2.2.2⟩
 ·rcases bp i j with h7|h7|h7
  ·exact absurd e (lt i j s t h7 hs ht)
  ·exact h7
  ·exact absurd e.symm (lt j i t s h7 ht hs)
theorem EI(M:List (List Int))(r c r' c':Nat)(d:Int):ez (putAt M r c d) r' c'=d∨ez (putAt M r c d) r' c'=ez M r' c':=by
 by_cases h:r'=r∧c'=c
 ·obtain⟨rfl,rfl⟩:=h;rcases aP r' M.length with h1|h1
  ·rcases aP c' (M.getD r' []).length with h2|h2
   ·exact .inl (tQ h1 h2)
   ·refine .inr ?_;unfold ez putAt;rw[jV h1,List.set_eq_of_length_le h2]
  ·refine .inr ?_;unfold ez putAt;rw[List.set_eq_of_length_le h1]
 ·exact .inr (gX (by
   by_cases h1:r'=r
   ·exact .inr fun h2=>h ⟨h1,h2⟩
   ·exact .inl h1))
theorem EJ{k:Nat}(hk:k<f.nodes.length):f.node (k:Int)∈f.nodes:=by
 rw[ed.node,aF,List.getD,aB hk];exact aX hk
section
variable{f:ed}(h:FrV f)
include h
theorem FrV.OH{b:Int×Int×Rat}(hb:b∈f.bars)(k:Nat): -2000000<=(jR f b).getD k 0∧(jR f b).getD k 0<=2000000:=by
 obtain⟨ka,kb,ea,eb,Uc,OT,-,-⟩:=h.JH b hb;obtain⟨⟨a1,a2⟩,⟨a3,a4⟩,a5,a6⟩:=h.co _ (EJ Uc);obtain⟨⟨b1,b2⟩,⟨b3,b4⟩,b5,b6⟩:=h.co _ (EJ OT);rw[jR,ea,eb]
 match k with
 |0=>simp[List.getD];omega
 |1=>simp[List.getD];omega
 |2=>simp[List.getD];omega
 |k+3=>simp[List.getD]
theorem FrV.EK{i:Nat}{b:Int×Int×Rat}(hb:f.bars[i]? =some b)(r:Nat):∀k,k<=3-> -2000000<=ez (fD f (eG f i) i k) r i∧ez (fD f (eG f i) i k) r i<=2000000
 |0,_=>by
  have:=kH f (r:=r) i (Nat.le_refl i);rw[fD,this];omega
 |k+1,hk=>by
  obtain⟨ka,kb,ea,eb,-,-,OS,-⟩:=h.JH b (aE hb);have ih:=FrV.EK hb r k (by omega);have hd:=h.OH (aE hb) k;have z1:=yr (r:=3*ka+k) hb ea eb (show k<=3 by omega) (by omega);have z2:=yr (r:=3*kb+k) hb ea eb (show k<=3 by omega) (by omega);rw[fD];rw[jy hb,toNat_add ea,toNat_add eb,gH,gH,z1,gX (r':=3*kb+k) (.inl (by omega)),z2];rcases EI (putAt (fD f (eG f i) i k) (3*ka+k) i (0+(jR f b).getD k 0)) (3*kb+k) i r i (0+ -(jR f b).getD k 0)with e|e
  ·rw[e];omega
  ·rw[e];rcases EI (fD f (eG f i) i k) (3*ka+k) i r i (0+(jR f b).getD k 0)with e|e
   ·rw[e];omega
   ·rw[e];exact ih
theorem FrV.HL{i r:Nat}(hi:i<f.bars.length):∀j,i<j->j<=f.bars.length-> -2000000<=ez (eG f j) r i∧ez (eG f j) r i<=2000000
 |0,h1,_=>by omega
 |j+1,h1,h2=>by
  rw[eG];rcases aP i j with h3|h3
  ·rw[qm (by omega)];exact FrV.HL hi j h3 (by omega)
  ·rw[show j=i by omega];exact h.EK (aB hi) r 3 (Nat.le_refl _)
theorem FrV.sN{i:Nat}(hs:f.cM[i]? =some s):ez (jF f) r (f.bars.length+i)=if r=dP s then 1 else 0:=
 BX (nt f) (mb f) (fun s hs=>(h.sup s hs).1) hs _ (aD.1 hs).1
theorem FrV.NU(r c:Nat): -2000000<=ez (jF f) r c∧ez (jF f) r c<=2000000:=by
 rcases aP c f.bars.length with hc|hc
 ·rw[jF,sL hc];exact h.HL hc _ hc (Nat.le_refl _)
 ·rcases aP c f.cols with h1|h1
  ·obtain⟨i,rfl⟩:∃i,c=f.bars.length+i:=⟨c-f.bars.length,by omega⟩
   rw[ed.cols]at h1;rw[h.sN (aB (show i<f.cM.length by omega))];split<;>omega
  ·have:ez (jF f) r c=0:=by
    unfold ez;rw[List.getD,List.getElem?_eq_none]
    ·rfl
    ·rcases aP r (jF f).length with h2|h2
     ·rw[List.getD,aB h2];show((jF f)[r]).length<=c;rw[nt f _ _ (aX h2)];exact h1
     ·rw[List.getD,List.getElem?_eq_none h2];exact aS _
   rw[this];omega
theorem FrV.yt(r c:Nat):Ib 2000000 (cW (cY f) r c):=by
 rw[pR];have:=h.NU r c;exact Ib.int (by omega)
theorem FrV.xe:Dw (cY f) f.cols 2000000:=fun j _=>⟨1,by decide,Ib.one (by decide),fun t _=>by rw[bm];exact h.yt j t⟩
theorem FrV.only(hx:∀j,j<(cY f).length->mulR (cY f) f.cols x j=0)(h0:∀t,t<f.bars.length->x t=0):∀t,t<f.cols->x t=0:=fun t ht=>by
 rcases aP t f.bars.length with h1|h1
 ·exact h0 t h1
 ·obtain⟨i,rfl⟩:∃i,t=f.bars.length+i:=⟨t-f.bars.length,by omega⟩
  have hi:i<f.cM.length:=by unfold ed.cols at ht;omega
  have hs:=aB hi;have hr:=h.sup _ (aX hi);have h2:=hx (dP f.cM[i]) (by rw[oA];exact hr.1);unfold mulR at h2;rw[fY ht fun k hk OS=>?_,pR,h.sN hs,if_pos rfl]at h2
  ·have e:((1:Int):Rat)*x (f.bars.length+i)=x (f.bars.length+i):=bm _
   rwa [e]at h2
  ·rcases aP k f.bars.length with h3|h3
   ·rw[h0 k h3,az]
   ·obtain⟨i',rfl⟩:∃i,k=f.bars.length+i:=⟨k-f.bars.length,by omega⟩
    have Sl:i'<f.cM.length:=by unfold ed.cols at hk;omega
    have TZ:=aB Sl;rw[pR,h.sN TZ,aI fun e=>OS (by rw[h.one i i' _ _ hs TZ e])];exact bC _
theorem FrV.KE{t:Nat}(ht:t<f.bars.length):0<(dI f).getD t 0:=by
 obtain⟨_,_,_,_,_,_,_,h1⟩:=h.JH _ (aX ht);rw[dI,List.getD,aJ (by rw[aL];exact ht),aM,aB ht];exact h1
theorem FrV.EL(t:Nat):0<=(dI f).getD t 0:=by
 rw[List.getD]
 cases ht:(dI f)[t]? with
 |none=>exact Rat.le_refl
 |some q=>
  show 0<=q;have hm:=aE ht;rcases List.mem_append.1 hm with hm|hm
  ·obtain⟨b,hb,rfl⟩:=aR.1 hm;obtain⟨_,_,_,_,_,_,_,h1⟩:=h.JH b hb;exact Rat.le_of_lt h1
  ·obtain⟨s,hs,rfl⟩:=aR.1 hm;exact(h.sup s hs).2
theorem FrV.OI:CK (cY f) f.cols fun t=>(dI f).getD t 0:=by
 refine⟨mA f,fun t _=>h.EL t,fun x hx h0=>h.only hx fun t ht=>?_⟩;have h1:=wD (f:=fun t=>(dI f).getD t 0*(x t*x t)) (n:=f.cols) (fun k _=>Rat.mul_nonneg (h.EL k) (sq_nonneg _)) (by rw[h0];exact Rat.le_refl) t (by unfold ed.cols;omega);have h2:=h.KE ht;rcases Rat.mul_eq_zero.1 h1 with h3|h3
 ·rw[h3]at h2;exact absurd h2 (Rat.lt_irrefl)
 ·rcases Rat.mul_eq_zero.1 h3 with h4|h4<;>exact h4
end
theorem oB(f:Nat->Rat)(a:Nat):∀b,cQ f (a+b)=cQ f a+cQ (fun k=>f (a+k)) b
 |0=>(bD _).symm
 |b+1=>by rw[show a+(b+1)=a+b+1 by omega,cQ,cQ,oB f a b,Rat.add_assoc]
section
variable{M:List (List Rat)}{n:Nat}
end
section
variable{M:List (List Rat)}{n:Nat}{fl b:List Rat}
end
end Go.Ex
namespace Go.Ex
open Go Go.Sx Go.Proofs
section
variable{S S':Nat->Prop}{H:Hp}{nx:Nat}{iv iv':Iv}{B:Nat}{w w' w2:World}{O:Nat->Sx.dL}{v:Value}{M:List (List Int)}
end
end Go.Ex
namespace Go.Ex
open Go
section
theorem Fw:∀(N m:Nat) (g:Nat->Nat),(∀i,i<m->g i<N)->(∀i j,i<m->j<m->g i=g j->i=j)->m<=N
 |0,m,g,h1,_=>by
  rcases bJ m with h|h
  ·omega
  ·exact absurd (h1 0 h) (Nat.not_lt_zero _)
 |N+1,m,g,h1,h2=>by
  by_cases h:∃i,i<m∧g i=N
  ·obtain⟨i0,hi,e⟩:=h
   have:=Fw N (m-1) (fun i=>if i<i0 then g i else g (i+1)) (fun i Sl=>by
    show(if i<i0 then g i else g (i+1))<N;split
    ·rename_i Ou;have:=h1 i (by omega);have:g i≠N:=fun e2=>by have:=h2 i i0 (by omega) hi (by rw[e2,e]);omega
     omega
    ·have:=h1 (i+1) (by omega);have:g (i+1)≠N:=fun e2=>by have:=h2 (i+1) i0 (by omega) hi (by rw[e2,e]);omega
     omega) (fun i j Sl hj' e2=>by
    have e3:(if i<i0 then g i else g (i+1))=(if j<i0 then g j else g (j+1)):=e2;split at e3<;>split at e3
    ·exact h2 _ _ (by omega) (by omega) e3
    ·have:=h2 _ _ (by omega) (by omega) e3;omega
    ·have:=h2 _ _ (by omega) (by omega) e3;omega
    ·have:=h2 _ _ (by omega) (by omega) e3;omega)
   omega
  ·exact Nat.le_succ_of_le (Fw N m g (fun i hi=>by
    have:=h1 i hi;have:g i≠N:=fun e=>h ⟨i,hi,e⟩
    omega) h2)
structure FrS(f:ed):Prop extends FrV f where
 n4:f.nodes.length<=4
 b6:f.bars.length<=6
variable{f:ed}
theorem FrS.s12(h:FrS f):f.cM.length<=12:=by
 have:=Fw (3*f.nodes.length) f.cM.length (fun i=>dP (f.cM.getD i (0,0,0))) (fun i hi=>by
  have e:f.cM.getD i (0,0,0)=f.cM[i]:=getD_some (aB hi);show dP (f.cM.getD i (0,0,0))<_;rw[e]
  exact(h.sup _ (aX hi)).1) (fun i j hi hj e=>by
  have e1:f.cM.getD i (0,0,0)=f.cM[i]:=getD_some (aB hi);have e2:f.cM.getD j (0,0,0)=f.cM[j]:=getD_some (aB hj);have e:dP (f.cM.getD i (0,0,0))=dP (f.cM.getD j (0,0,0)):=e;rw[e1,e2]at e
  exact h.one i j _ _ (aB hi) (aB hj) e)
 have:=h.n4;omega
theorem FrS.Nv(h:FrS f):f.cols<=18:=by
 have h1:=h.s12;have h2:=h.b6;unfold ed.cols;omega
theorem FrS.OJ(h:FrS f):(cY f).length<=12:=by
 rw[oA];have:=h.n4;omega
theorem OK:18*2000000<=wt 1:=by decide
theorem FrS.size(h:FrS f):ln (fB 2000000 (cY f).length)<=13:=by
 have:=h.OJ;have h2:=Mk (B:=2000000) (R:=18) (l:=1) (n:=(cY f).length) (by omega) OK;omega
end
end Go.Ex
namespace Go.Ex
open Go Go.Sx Go.Proofs
variable{M:List (List Rat)}{s:List Int}{l:List Ld}{S:Nat->Prop}{f:ed}
theorem AA{n B h:Nat}(hM:gh n M)(hW:Dw M n B)(hB:1<=B)(hh:ln (fB B M.length)+1<=h):Ef M n h:=
 ⟨fun i hi r hr q hq=>by have:=Jt hM hW hB hi r hr q hq;omega,fun i hi k hk q hq=>by have:=Ju hM hW hB hi hk q hq;omega⟩
theorem Ga{n B h:Nat}(hM:gh n M)(hW:Dw M n B)(hB:1<=B)(hh:ln (fB B M.length)+1<=h):Ht (dh M n).1 h:=fun r hr q hq=>by
 rw[(sJ hM hW).2]at hr;have:=Fp hM hW hB (Nat.le_refl n) r (bS hr) q hq;omega
section
variable{S:Nat->Prop}{w:World}{v u:Value}{M:List (List Rat)}{b:List Rat}{n h0:Nat}
end
theorem Am{w:World}{vn vb vs vl:Value}(hS:Old S w)(hf:dm w S vn vb vs f)(hl:jS w S vl l):dx PG N.nB #[.agg #[vn,vb,vs],vl] w (eH w fun v' _=>v'= .int .i64 (uO f.nodes.length l)):=by
 have hw:=bR w;obtain⟨an,cn,ab,cb,aq,cq,rfl,rfl,rfl,RV,RN,Sg⟩:=hf.shape;obtain⟨al,cl,rfl,PY,Qo⟩:=hl.shape;unfold maxLen at Qo;refine rG (by simp) ?_;refine dB.mk ?_ ?_<;>intro h1
 ·have h1:=aK h1;exact rtn hw fun ρe we re=>by show Value.int .i64 _=_;rw[uO,if_pos (by omega)]
 have h1:=aH h1
 refine⟨Nat×World×Iv,fun z=>⟨[(1,sV al l.length cl),(2,pP 0 0),(5,iN z.1)],[(0,.box T.Frame [.v (.slice an f.nodes.length cn),.v (.slice ab f.bars.length cb),.v (.slice aq f.cM.length cq)])],1,z.2.2,z.2.1⟩,fun z=>l.length-z.1,
  fun z=>z.1<=l.length∧dT w.heap.size w z.2.1∧uO f.nodes.length l=e9 (fun _=>j2 f.nodes.length) (l.take z.1) (l.drop z.1),?_,?_⟩
 ·intro O w' r3;exact⟨(0,w',[]),⟨aS _,hw.tr r3.cL,by rw[uO,aI (by omega)];rfl⟩,Sub.gn [] r3⟩
 clear hw;rintro⟨i,w1,iv⟩ ⟨hi,hw,hE⟩;dsimp only at hi hw hE ⊢;refine dB.mk ?_ ?_<;>intro OQ
 ·have OQ:i<l.length:=by simpa using OQ
  obtain⟨x,hx⟩:∃x,l[i]? =some x:=⟨_,aB OQ⟩
  obtain⟨adx,cs,Pu,hP,-,Pt⟩:=hl.load (by decide) hx;have hP:cs=[.int .i64 x.1,.int .i64 x.2.1,.int .i64 x.2.2.1,.int .i64 x.2.2.2]:=hP;subst hP;refine cH hτ dN [.x 0,.x 1,.x 2,.x 3,.x 4,.x 5,.x 6,.x 7] (by kernel_rfl) (by kernel_rfl) ?_;refine⟨adx,Pu,by omega,.int .i64 x.1,fun O w' r=>?_,?_⟩
  ·obtain⟨k1,k2⟩:=Pt 0 _ rfl;rw[cJ (w:=w) (w2:=w') (by simp only[c9];exact(hw.tr r.cL).block _ (hS _ k1))];simp only[aF,Cu]at k2 ⊢;exact k2
  refine cE hw (fun _ w' v w2=>∃d,v= .bool d∧(d=true↔jB f.nodes.length x.1)) (fun O w' r=>qt _ _ _ _ _ _ _ _ _ _ w') ?_;rintro O _ _ _ OZ r he hw h_ ⟨d,rfl,hd⟩;clear r
  cases d
  ·have hc:j2 f.nodes.length x=6:=by
    unfold j2;rw[aI fun h=>by have:=hd.2 h;cases this]
   exact rtn hw fun ρe we re=>by show Value.int .i64 _=_;rw[hE,cO hx hc (by decide)]
  have hd:=hd.1 rfl;refine⟨adx,Pu,by omega,[.int .i64 x.1,.int .i64 x.2.1,.int .i64 x.2.2.1,.int .i64 x.2.2.2],rfl,rdO Pt hw hS,?_⟩;refine cB (cE hw (fun _ w' v w2=>∃d,v= .bool d∧(d=true↔Lt x.2)) (fun O w' r=>Is x w') ?_);rintro O _ _ _ OU r he hw h_ ⟨d2,rfl,PM⟩;clear r
  cases d2
  ·have hc:j2 f.nodes.length x=2:=by
    unfold j2;rw[if_pos hd,aI fun h=>by have:=PM.2 h;cases this]
   exact rtn hw fun ρe we re=>by show Value.int .i64 _=_;rw[hE,cO hx hc (by decide)]
  have PM:=PM.1 rfl;have hc:j2 f.nodes.length x=0:=by
   unfold j2;rw[if_pos hd];exact if_pos PM
  rw[gL hx hc]at hE;refine⟨((i+1:Nat):Int),wo,?_⟩;intro ρ3 w6 r3;exact⟨(i+1,w6,_),⟨OQ,hw.tr r3.cL,hE⟩,Sub.gn [] r3,by dsimp only;omega⟩
 have OQ:i=l.length:=aU hi (by simpa using OQ);rw[ij (by omega)]at hE;exact rtn hw fun ρe we re=>by show Value.int .i64 _=_;rw[hE]
theorem DA{w:World}{vn vb vs vl:Value}(hS:Old S w)(hf:dm w S vn vb vs f)(hl:jS w S vl l):dx PG N.o7 #[.agg #[vn,vb,vs],vl] w (eH w fun v' _=>v'= .int .i64 (kN f l)):=by
 have hw:=bR w;obtain⟨an,cn,ab,cb,aq,cq,rfl,rfl,rfl,RV,RN,Sg⟩:=hf.shape;obtain⟨al,cl,rfl,PY,Qo⟩:=hl.shape;obtain⟨e0,EE⟩:∃e,eN f=e:=⟨_,rfl⟩
 refine sS (by simp) ?_;refine cB (cE hw (fun _ w' v w2=>v= .int .i64 e0) (fun O w' r=>(Kw (oS hS r) (hf.cC (kS hw r hS))).mono fun _ _ ⟨v2,e1,e2,e3⟩=>⟨v2,e1,e2,by rw[e3,EE]⟩) ?_);rintro O _ _ _ OZ r he hw h_ rfl;clear r;refine dB.mk ?_ ?_<;>intro he
 ·have he:e0≠0:=by simpa using he
  exact rtn hw fun ρe we re=>by show Value.int .i64 _=_;rw[kN,if_pos (by rw[EE];exact he),EE]
 have he:e0=0:=by simpa using he
 refine cB (cE hw (fun _ w' v w2=>v= .int .i64 (uO f.nodes.length l)) (fun O w' r=>Am (oS hS r) (hf.cC (kS hw r hS)) (hl.cC (kS hw r hS))) ?_);rintro O _ _ _ OU r he hw h_ rfl;clear r he;exact rtn hw fun ρe we re=>by show Value.int .i64 _=_;rw[kN,aI (by rw[EE,he];decide)]
theorem Nl(h:eN f≠0∨f.nodes.length<=4∧f.bars.length<=6)(h0:eN f=0):FrS f:=⟨NT h0,(h.resolve_left fun e=>e h0).1,(h.resolve_left fun e=>e h0).2⟩
theorem Kz{t:Int}(h:MU s t)(ht:0<=t)(j:Nat): -t<=s.getD j 0∧s.getD j 0<=t:=by
 rcases aP j s.length with hj|hj
 ·rw[getD_some (aB hj)];exact h _ (aX hj)
 ·rw[List.getD,List.getElem?_eq_none hj];show -t<=0∧0<=t;omega
theorem Bg{s:List Int}{x:Ld}{t:Int}(h:MU s t)(ht:0<=t)(hx:(-1000000<=x.2.1∧x.2.1<=1000000)∧(-1000000<=x.2.2.1∧x.2.2.1<=1000000)∧(-1000000<=x.2.2.2∧x.2.2.2<=1000000)):∀k,k<=3->MU (iM s x k) (t+1000000*(k:Int))
 |0,_=>by rw[iM];simpa using h
 |k+1,hk=>by
  have ih:=Bg h ht hx k (by omega);have hd: -1000000<=(Ni x).getD k 0∧(Ni x).getD k 0<=1000000:=by
   rcases(show k=0∨k=1∨k=2 by omega)with rfl|rfl|rfl
   ·exact hx.1
   ·exact hx.2.1
   ·exact hx.2.2
  have hg:=Kz ih (by omega) (3*x.1+k).toNat;rw[iM,HE];exact ih.set (by omega) (by omega)
theorem Bh{n:Nat}{l:List Ld}(OV:Em n l):∀i,i<=l.length->MU (iC n l i) (3000000*(i:Int))
 |0,_=>fun z hz=>by rw[b9 hz];decide
 |i+1,hi=>by
  have ih:=Bh OV i (by omega);have hm:l.getD i (0,0,0,0)∈l:=by rw[getD_some (aB (show i<l.length by omega))];exact aX _
  have:=Bg ih (by omega) (OV.ld _ hm).2 3 (Nat.le_refl _);rw[iC];intro z hz;have:=this z hz;omega
end Go.Ex
namespace Go.Ex
variable{M:List (List Rat)}{l:Nat}{g:Nat->Rat}{D q:Rat}
structure yv(f:ed):Prop extends FrS f where
 fx:∀q∈dI f,rl q<=3
def Bl(b:List Rat):Prop:=∀t,Ib 1000000000 (b.getD t 0)
theorem Ib.w{B:Nat}(h:Ib B q)(k:B<=wt l):Ib (wt l) q:=h.mono k
theorem js(a b:Nat)(h:a+b<=l):wt a*wt b<=wt l:=by rw[<-CH];exact BI h
theorem Ib.CL{a b:Nat}{p:Rat}(h:Ib (wt a) p)(k:Ib (wt b) q)(hl:a+b<=l):Ib (wt l) (p*q):=(h.mul k).mono (js a b hl)
theorem Ib.OL{a n:Nat}(hn:n<=18)(h:∀k,k<n->Ib (wt a) (g k))(hl:a+1<=l):Ib (wt l) (cQ g n):=
 (Ib.sum n h).mono (aW (Nat.mul_le_mul_right _ (aW hn (by decide:18<=wt 1))) (js 1 a (by omega)))
theorem Den.mono{K L:Nat}{l:List Rat}(h:Den K D l)(k:K<=L):Den L D l:=⟨h.1,h.2.1.mono k,fun t=>(h.2.2 t).mono k⟩
theorem Fu.mono{K L:Nat}(h:Fu K D M)(k:K<=L):Fu L D M:=⟨h.1,h.2.1.mono k,fun i t=>(h.2.2 i t).mono k⟩
theorem KF{k n R m:Nat}(hn:n<=R)(hR:R<=4294967295)(hl:k+1<=l)(hm:l*R+1<=m):ln (fB (wt k) n)<=m∧fB (wt k) n<=wt m:=by
 have h1:=Mk (B:=wt k) (l:=l) hn (aW (Nat.mul_le_mul_right _ (aW hR (by decide:4294967295<=wt 1))) (js 1 k (by omega)));have h2:l*n+1<=m:=aW (Nat.succ_le_succ (bP _ hn)) hm;exact⟨aW h1 h2,Nat.le_of_lt (gD.1 (aW h1 h2))⟩
section
variable{f:ed}{b x x0 c u:List Rat}
theorem FrS.HN(h:FrS f)(hb:Bl b):Dw (dX (cY f) b) (f.cols+1) (wt 1):=fun j hj=>by
 rw[fP]at hj;have hw:=fun t=>my (b:=b) (t:=t) (mA f) hj;refine⟨1,by decide,Ib.one uz,fun t ht=>?_⟩;rw[bm];rcases aP t f.cols with h1|h1
 ·rw[(hw t).1 h1];exact(h.yt j t).w (by decide)
 ·rw[show t=f.cols by omega,(hw 0).2];exact(hb j).w (by decide)
theorem FrS.KG(h:FrS f):ln (fB (wt 1) (dX (cY f) b).length)<=25:=by
 rw[fP];exact(KF (l:=2) h.OJ (by decide) (by decide) (by decide)).1
theorem FrS.OM(h:FrS f)(hb:Bl b)(h0:jG (cY f) b f.cols=some x0):∃D,Den (wt 25) D x0:=by
 obtain⟨D,hD⟩:=EB (mA f) (h.HN hb) uz h0;exact⟨D,hD.mono (KF (l:=2) h.OJ (by decide) (by decide) (by decide)).2⟩
theorem FrS.ker(h:FrS f):∃D,Fu (wt 13) D (cR (cY f) f.cols):=by
 obtain⟨D,hD⟩:=MA (mA f) h.xe (by decide);exact⟨D,hD.mono (Nat.le_of_lt (gD.1 h.size))⟩
theorem FrS.Ml(h:FrS f):(cR (cY f) f.cols).length<=18:=by
 have h1:=Ft (mA f);have h2:=h.Nv;omega
theorem yw(f:ed):(dI f).length=f.cols:=by simp[dI,ed.cols]
theorem yv.aAR(h:yv f):Den (wt 54) (lG (dI f) 18) (dI f):=ED (by rw[yw];exact h.Nv) h.fx
theorem yv.KH(h:yv f)(hx:∃D,Den (wt 25) D x0):Dw (dX (eO (cR (cY f) f.cols) (dI f)) (gQ (cR (cY f) f.cols) (dI f) x0)) ((cR (cY f) f.cols).length+1) (wt 106):=fun i hi=>by
 rw[fP,eO,aL]at hi;obtain⟨D0,a1,a2,a3⟩:=hx;obtain⟨D1,b1,b2,b3⟩:=h.ker;obtain⟨c1,c2,c3⟩:=h.aAR;have hn:=h.Nv;have hw:=fun t=>my (b:=gQ (cR (cY f) f.cols) (dI f) x0) (t:=t) (ns (cR (cY f) f.cols) (dI f)) (j:=i) (by rw[eO,aL];exact hi);refine⟨lG (dI f) 18*(D1*D1)*D0,xa (xa c1 (xa b1 b1)) a1,(((c2.CL (b2.CL b2 (Nat.le_refl _)) (Nat.le_refl _)).CL a2 (by decide))),fun t ht=>?_⟩;rcases aP t (cR (cY f) f.cols).length with h1|h1
 ·rw[(hw t).1 h1,vA _ _ _ hi h1];unfold HJ xb;rw[<-dY];refine Ib.OL hn (fun k _=>?_) (Nat.le_refl _);rw[show lG (dI f) 18*(D1*D1)*D0*((dI f).getD k 0*(cW (cR (cY f) f.cols) i k*cW (cR (cY f) f.cols) t k))=(lG (dI f) 18*(dI f).getD k 0)*((D1*cW (cR (cY f) f.cols) i k)*(D1*cW (cR (cY f) f.cols) t k))*D0 by grind];exact((c3 k).CL ((b3 i k).CL (b3 t k) (Nat.le_refl _)) (Nat.le_refl _)).CL a2 (by decide)
 ·rw[show t=(cR (cY f) f.cols).length by omega,(hw 0).2,EH _ _ _ _ hi];unfold xb;rw[show lG (dI f) 18*(D1*D1)*D0* -(cQ (fun t=>(dI f).getD t 0*(cW (cR (cY f) f.cols) i t*x0.getD t 0)) f.cols)= -(lG (dI f) 18*(D1*D1)*D0*cQ (fun t=>(dI f).getD t 0*(cW (cR (cY f) f.cols) i t*x0.getD t 0)) f.cols) by grind,<-dY];refine(Ib.OL hn (fun k _=>?_) (Nat.le_refl _)).neg;rw[show lG (dI f) 18*(D1*D1)*D0*((dI f).getD k 0*(cW (cR (cY f) f.cols) i k*x0.getD k 0))=(lG (dI f) 18*(dI f).getD k 0)*((D1*cW (cR (cY f) f.cols) i k)*D1)*(D0*x0.getD k 0) by grind];exact((c3 k).CL ((b3 i k).CL b2 (Nat.le_refl _)) (Nat.le_refl _)).CL (a3 k) (by decide)
theorem yv.HO(h:yv f){b:List Rat}:ln (fB (wt 106) (dX (eO (cR (cY f) f.cols) (dI f)) b).length)<=1927:=by
 rw[fP,eO,aL];exact(KF (l:=107) h.Ml (by decide) (by decide) (by decide)).1
theorem yv.NV(h:yv f)(hx:∃D,Den (wt 25) D x0)(hc:jG (eO (cR (cY f) f.cols) (dI f)) (gQ (cR (cY f) f.cols) (dI f) x0) (cR (cY f) f.cols).length=some c):∀q∈c,rl q<=1927:=fun q hq=>by
 obtain⟨D,hD⟩:=EB (ns _ _) (h.KH hx) uz hc;have h1:=hD.rl q hq;have h2:=h.HO (b:=[]);rw[fP]at h2;omega
theorem ME(q:Rat):(q.den:Rat)≠0:=fun e=>by
 have:((q.den:Int):Rat)=((0:Int):Rat):=e;exact q.den_nz (by have:=Rat.intCast_inj.1 this;omega)
theorem yv.fxD(h:yv f){t:Nat}(ht:t<f.cols):rl ((dI f).getD t 0)<=3:=by
 have hl:t<(dI f).length:=by rw[yw];exact ht
 rw[getD_some (aB hl)];exact h.fx _ (aX hl)
end
end Go.Ex
namespace Go.Ex
open Go Go.Sx Go.Proofs
end Go.Ex
namespace Go.Sx
open Go Go.Ex Go.Proofs
variable{cs:List Value}{T:Nat->Prop}{O:Nat->Sx.dL}
theorem Rel.DB{H:Hp}{nx:Nat}{iv:Iv}{B:Nat}{w w':World}(r:Rel H nx iv B w O w'){id t m sz:Nat}(h:cV H id=some (.vec t sz cs))(hm:cs.length=m*sz)(Sd:m<=maxLen)(hs:0<sz)(h1:∀u∈cs,u.oneCell'=true)(hT:(O id).nil=false->T (O id).g):
  iu w' T sz ((At.w id m).den O) cs m:=by
 rcases r.fits h with⟨hn,rfl⟩|⟨hn,spare,h2,h3,h4⟩
 ·have Uj:m=0:=by
   rcases bJ m with h|h
   ·exact h
   ·have:=Nat.mul_pos h hs;simp at hm;omega
  subst Uj;have SM:(At.w id 0).den O= .slice none 0 0:=by simp[At.den,hn]
  rw[SM];exact⟨aS _,by simp,by simp,none,0,rfl,Nat.le_refl _,fun j u h=>by cases h⟩
 ·have SM:(At.w id m).den O= .slice (some ⟨(O id).g,0,none⟩) m (O id).cap:=by simp[At.den,hn]
  rw[SM];refine⟨Sd,hm,h1,_,_,rfl,?_,fun j u hu=>⟨_,rfl,hT hn,?_⟩⟩
  ·rw[List.length_append,hm]at h3;exact Nat.le_of_mul_le_mul_right (show m*sz<=(O id).cap*sz by omega) hs
  ·rw[dA,cell_of h2,aV,aJ (aD.1 hu).1];exact hu
end Go.Sx
namespace Go.Ex
open Go Go.Sx Go.Proofs
variable{p:List Rat}{g:Nat}{S T:Nat->Prop}
section
variable{S:Nat->Prop}{H:Hp}{nx:Nat}{iv iv':Iv}{B n:Nat}{w w' w2:World}{O:Nat->Sx.dL}{v:Value}{qs:List Rat}
theorem Bs.fresh(r:Rel H nx iv B w O w')(hx:∀g,v.ownBlock=some g->g<w'.heap.size)(hg:Nf w' w2 g):Bs S B ((w'.heap.size,w2.heap.size)::iv) v g:=by
 rcases hg with hg|hg
 ·exact hg.elim
 ·exact⟨.inr ⟨by have:=r.bz;omega,_,_,aG,hg.1,hg.2⟩,fun e=>by have:=hx g e;omega⟩
theorem Bs.solved(r:Rel H nx iv B w O w')(hx:∀g,v.ownBlock=some g->g<w'.heap.size)(hT:∀g,T g->Bs S B iv v g)(hg:Cv T w'.heap.size [(w'.heap.size,w2.heap.size)] g):Bs S B ((w'.heap.size,w2.heap.size)::iv) v g:=by
 rcases hg with hg|⟨h1,lo,hi,h2,h3,h4⟩
 ·exact Bs.mono (fun p hp=>aC _ hp) (hT g hg)
 ·simp at h2;obtain⟨rfl,rfl⟩:=h2;exact Bs.fresh r hx (.inr ⟨h3,h4⟩)
end
section
variable{S:Nat->Prop}{H:Hp}{nx:Nat}{iv iv':Iv}{B:Nat}{w w' w2:World}{O:Nat->Sx.dL}{v v0:Value}{q:Rat}
theorem lX.rel(h:cN w (Bs S B iv v) v0 q)(r:Rel H nx iv B w O w')(hS:∀g,S g->g<B):cN w' (Bs S B iv v) v0 q:=cN.cC h (Bs.same r hS)
theorem lX.fresh(h:cN w2 (Nf w' w2) v0 q)(r:Rel H nx iv B w O w')(hx:∀g,v.ownBlock=some g->g<w'.heap.size):cN w2 (Bs S B ((w'.heap.size,w2.heap.size)::iv) v) v0 q:=cN.cF h fun _ hg=>Bs.fresh r hx hg
theorem lX.cv(h:cN w (Bs S B iv v) v0 q):cN w (Cv S B iv) v0 q:=cN.cF h fun _ hg=>hg.1
end
section
variable{S:Nat->Prop}{H:Hp}{nx:Nat}{iv iv':Iv}{B:Nat}{w w' w2:World}{O:Nat->Sx.dL}{v v0:Value}{K:List (List Rat)}
theorem gC.rel(h:cT w (Bs S B iv v) v0 K)(r:Rel H nx iv B w O w')(hS:∀g,S g->g<B):cT w' (Bs S B iv v) v0 K:=cT.cC h (Bs.same r hS)
theorem gC.cD(h:cT w (Bs S B iv v) v0 K)(r:Rel H nx iv B w O w')(hS:∀g,S g->g<B)(he:Ext w' w2)(hm:∀p,p∈iv->p∈iv'):cT w2 (Bs S B iv' v) v0 K:=
 cT.cF (cT.cC (gC.rel h r hS) fun g hg=>he.block g (Rel.old r hS g hg.1)) fun _ hg=>Bs.mono hm hg
theorem gC.fresh(h:cT w2 (Nf w' w2) v0 K)(r:Rel H nx iv B w O w')(hx:∀g,v.ownBlock=some g->g<w'.heap.size):cT w2 (Bs S B ((w'.heap.size,w2.heap.size)::iv) v) v0 K:=cT.cF h fun _ hg=>Bs.fresh r hx hg
theorem gC.kept(h:cT w (Bs S B iv v) v0 K)(r:Rel H nx iv B w O w')(hS:∀g,S g->g<B)(hg:w'.grownBy w2 v.ownBlock):cT w2 (Bs S B iv v) v0 K:=cT.cC h (Bs.kept r hS hg fun _ e=>e)
end
section
variable{S:Nat->Prop}{H:Hp}{nx:Nat}{iv iv':Iv}{B:Nat}{w w' w2:World}{O:Nat->Sx.dL}{v v0:Value}{xs:List Rat}
theorem eS.rel(h:cS w (Bs S B iv v) v0 xs)(r:Rel H nx iv B w O w')(hS:∀g,S g->g<B):cS w' (Bs S B iv v) v0 xs:=cS.cC h (Bs.same r hS)
theorem eS.cD(h:cS w (Bs S B iv v) v0 xs)(r:Rel H nx iv B w O w')(hS:∀g,S g->g<B)(he:Ext w' w2)(hm:∀p,p∈iv->p∈iv'):cS w2 (Bs S B iv' v) v0 xs:=
 cS.cF (cS.cC (eS.rel h r hS) fun g hg=>he.block g (Rel.old r hS g hg.1)) fun _ hg=>Bs.mono hm hg
theorem eS.fresh(h:cS w2 (Nf w' w2) v0 xs)(r:Rel H nx iv B w O w')(hx:∀g,v.ownBlock=some g->g<w'.heap.size):cS w2 (Bs S B ((w'.heap.size,w2.heap.size)::iv) v) v0 xs:=cS.cF h fun _ hg=>Bs.fresh r hx hg
theorem eS.cv(h:cS w (Bs S B iv v) v0 xs):cS w (Cv S B iv) v0 xs:=cS.cF h fun _ hg=>hg.1
theorem eS.kept(h:cS w (Bs S B iv v) v0 xs)(r:Rel H nx iv B w O w')(hS:∀g,S g->g<B)(hg:w'.grownBy w2 v.ownBlock):cS w2 (Bs S B iv v) v0 xs:=cS.cC h (Bs.kept r hS hg fun _ e=>e)
end
section
variable{S:Nat->Prop}{H:Hp}{nx:Nat}{iv iv':Iv}{B:Nat}{w w' w2:World}{O:Nat->Sx.dL}{v v0:Value}{rv:List Value}{K:List (List Rat)}
theorem mj.rel(h:du w (Bs S B iv v) rv K)(r:Rel H nx iv B w O w')(hS:∀g,S g->g<B):du w' (Bs S B iv v) rv K:=du.cC h (Bs.same r hS)
theorem mj.cD(h:du w (Bs S B iv v) rv K)(r:Rel H nx iv B w O w')(hS:∀g,S g->g<B)(he:Ext w' w2)(hm:∀p,p∈iv->p∈iv'):du w2 (Bs S B iv' v) rv K:=
 du.cF (du.cC (mj.rel h r hS) fun g hg=>he.block g (Rel.old r hS g hg.1)) fun _ hg=>Bs.mono hm hg
end
section
variable{S:Nat->Prop}{H:Hp}{nx:Nat}{iv iv':Iv}{B:Nat}{w w' w2:World}{O:Nat->Sx.dL}{v v0:Value}{css:List (List Value)}{xs:List Rat}
theorem jc.rel(h:gM w (Bs S B iv v) css xs)(r:Rel H nx iv B w O w')(hS:∀g,S g->g<B):gM w' (Bs S B iv v) css xs:=gM.cC h (Bs.same r hS)
theorem jc.cD(h:gM w (Bs S B iv v) css xs)(r:Rel H nx iv B w O w')(hS:∀g,S g->g<B)(he:Ext w' w2)(hm:∀p,p∈iv->p∈iv'):gM w2 (Bs S B iv' v) css xs:=
 gM.cF (gM.cC (jc.rel h r hS) fun g hg=>he.block g (Rel.old r hS g hg.1)) fun _ hg=>Bs.mono hm hg
end
theorem Ew{st:List (List Rat)}{c x:List Rat}{a b:Nat}(hx:∀q∈x,rl q<=a)(hs:∀r∈st,∀q∈r,rl q<=b)(hc:∀q∈c,rl q<=b):∀i,∀q∈lE st c x i,rl q<=a+i*(2*b+5)
 |0,q,hq=>by have:=hx q hq;omega
 |i+1,q,hq=>by
  rw[lE]at hq;obtain⟨k,hk⟩:=aQ hq;rw[List.getElem?_mapIdx]at hk;obtain⟨p,hp,rfl⟩:=Option.map_eq_some_iff.1 hk;have h1:=Ew hx hs hc i p (aE hp);have h0:rl 0<=2:=by decide
  have h2:rl (c.getD i 0)<=b+2:=by
   rcases aP i c.length with h|h
   ·rw[getD_some (aB h)];have:=hc _ (aX h);omega
   ·rw[lF h];omega
  have h3:rl ((st.getD i []).getD k 0)<=b+2:=by
   rcases aP i st.length with h|h
   ·rw[getD_some (d:=[]) (aB h)];rcases aP k (st[i]).length with h4|h4
    ·rw[getD_some (aB h4)];have:=hs _ (aX h) _ (aX h4);omega
    ·rw[lF h4];omega
   ·rw[show st.getD i []=[] by rw[List.getD,List.getElem?_eq_none h];rfl];exact aW h0 (Nat.le_add_left _ _)
  have h4:=lC p (c.getD i 0*(st.getD i []).getD k 0);have h5:=hJ (c.getD i 0) ((st.getD i []).getD k 0);rw[Nat.add_mul];omega
set_option maxHeartbeats 2000000 in
set_option maxRecDepth 8000 in
theorem Iu{w:World}{vn vb vs u:Value}{f:ed}(hS:Old S w)(hf:dm w S vn vb vs f)(PT:eN f=0)(Pw:yv f)(hp:cS w S u p)(Ph:p.length=3*f.nodes.length)(Vu:∀q∈p,rl q<=100000)(hb:Bl (df p (-1))):
  dx PG N.pY #[.agg #[vn,vb,vs],u] w (eH w fun v' w2=>(jG (cY f) (df p (-1)) f.cols=none∧v'= .tuple #[.slice none 0 0,.bool false])∨∃x vx,yo (cY f) f.cols (fun t=>(dI f).getD t 0) (df p (-1)) x∧v'= .tuple #[vx,.bool true]∧cS w2 (Nf w w2) vx x):=by
 have hw:=bR w;obtain⟨an,cn,ab,cb,aq,cq,rfl,rfl,rfl,RV,RN,Sg⟩:=hf.shape;have OV:=xd PT;have hlen:=mA f;have htl:=oA f;have hc18:=Pw.Nv;have hr12:=Pw.OJ;have Ot:=uN f;have Q1:f.cols=f.bars.length+f.cM.length:=rfl;obtain⟨ap,cp,rfl,hcp,hmp⟩:=eD.shape hp;have QL:(df p (-1)).length=(cY f).length:=by rw[df,aL,htl];exact Ph
 have hw0:=Pw.HN hb;have Of:=Pw.KG (b:=df p (-1));refine tv (by simp) ?_;refine cB (cE hw (fun _ w' v w2=>(∃vr,v= .agg #[vr,.int .i64 f.cols]∧cT w2 (Nf w' w2) vr (cY f))∧gh f.cols (cY f)∧Ht (cY f) 2) (fun O w' r=>GR (S:=S) (oS hS r) (hf.cC (kS hw r hS)) OV) ?_);rintro O _ _ _ OZ r he hw h_ ⟨⟨vr,rfl,k1⟩,-,-⟩;have hM:=cT.dD (S:=FF) k1 r.bz (mN h_);clear r;obtain⟨am,cm,rfl,S1,Rc⟩:=dG.shape hM;refine cH hτ dN [.x 0,.x 1,.x 2,.x 3,.x 4,.x 5,.x 6,.x 7,.x 8,.x 9] (by kernel_rfl) (by kernel_rfl) ?_;refine cE hw (fun _ w' v w2=>cN w2 (Nf w' w2) v ((-1:Int):Rat)) (fun O w' r=>kL (-1) w' (by decide) (by decide)) ?_;rintro O _ v2 _ OU r he hw h_ hn;replace hM:=cT.cD hM r (bw w) he (mC h_);have hd:=hn.dD (S:=FF) r.bz (mN h_);clear r;obtain⟨A0,A1,A2,A3,A4,A5,A6,A7,rfl⟩:=hd.shape;refine cE hw (fun _ w' v w2=>eE w2 FF w'.heap.size [(w'.heap.size,w2.heap.size)] v p.length (df p (-1))) (fun O w' r=>Ig (S:=Cv S w.heap.size OU) (Rel.old r hS) (dM.cF (cS.l (cS.cC hp (kS hw r hS)) fun q hq=>by have:=Vu q hq;omega) fun g hg=>.inl hg) (((hd.rel r (bw w)).l (by decide)).cF fun g hg=>Cg hg) (by omega)) ?_;rintro O _ _ _ Oi r he hw h_ hn;replace hM:=cT.cD hM r (bw w) he (mC h_);clear hd;have hB:=hn.dD (S:=FF) r.bz (mN h_);clear r;clear hn;obtain⟨a3,c3,rfl,hc3⟩:=hB.row.form;refine cI (Φ:=fun _ w' v w2=>(jG (cY f) (df p (-1)) f.cols=none∧v= .tuple #[.slice none 0 0,.bool false])∨∃x vx,jG (cY f) (df p (-1)) f.cols=some x∧v= .tuple #[vx,.bool true]∧eE w2 (Cf w Oi) w'.heap.size [(w'.heap.size,w2.heap.size)] vx f.cols x) (fun O w' r=>BT (M:=cY f) (b:=df p (-1)) hlen hw0▸Kn (C:=Cf w Oi) (S:=Cf w Oi) (h:=30) (Rel.old r (bw w)) (Rel.old r (bw w)) (cT.rel hM r (bw w)) ((hB.rel r (bw w)).c) QL hlen (by omega) (by omega) (AA (jP hlen) hw0 uz (by rw[tP]at *;omega)) (by decide)) ?_;rintro O Qu v4 Q9 r he hb (⟨Rw,rfl⟩|⟨x0,vx,Rh,rfl,k2⟩)
 ·replace hw:=hw.tr hb;clear r he hb;exact rtn hw fun ρe we re=>.inl ⟨Rw,rfl⟩
 replace hw:=hw.tr hb;replace hM:=cT.cD (iv':=(Qu.heap.size,Q9.heap.size)::Oi) hM r (bw w) he fun x hx=>aC _ hx;have hX:=k2.aAX r.bz;clear r he hb k2 hB;generalize (Qu.heap.size,Q9.heap.size)::Oi=Ow at*
 obtain⟨ax,cx,rfl,Tz⟩:=hX.row.form;obtain⟨hx0l,-⟩:=sK hlen Rh;have hx0D:=Pw.OM hb Rh;have Vv:∀q∈x0,rl q<=26:=fun q hq=>by
  obtain⟨D,hD⟩:=hx0D;have h1:=hD.rl q hq;have h2:ln (wt 25)<=26:=gD.2 (Jc (by decide));omega
 have hw1:=Pw.KH hx0D;have Ol:=Pw.HO (b:=gQ (cR (cY f) f.cols) (dI f) x0);obtain⟨c,hc,PY,hfrc⟩:=Pw.OI.force (fl:=dI f) Rh;have Sq:=Pw.NV hx0D hc;have hKr:∀r∈cR (cY f) f.cols,∀q∈r,rl q<=14:=fun r hr q hq=>by
  obtain⟨D,hD⟩:=Pw.ker;have h1:=hD.rl r hr q hq;have h2:ln (wt 13)<=14:=gD.2 (Jc (by decide));omega
 have hKl:=np (cY f) f.cols;have hK18:=Pw.Ml;have hSl:=ns (cR (cY f) f.cols) (dI f);have hfx:=Pw.fx;have TQ:=BT (M:=eO (cR (cY f) f.cols) (dI f)) (b:=gQ (cR (cY f) f.cols) (dI f) x0) hSl hw1;rw[hc]at TQ;have hredB:=AA (M:=dX (eO (cR (cY f) f.cols) (dI f)) (gQ (cR (cY f) f.cols) (dI f) x0)) (h:=1930) (jP hSl) hw1 uz (by omega);refine cH hτ dN [.x 0,.x 2,.x 1,.x 3,.x 4,.x 5] (by kernel_rfl) (by kernel_rfl) ?_;refine cI (Φ:=fun _ w' v w2=>cT w2 (Nf w' w2) v (cR (cY f) f.cols)) (fun O w' r=>Fs (M:=cY f) (n:=f.cols) hlen Pw.xe▸GZ (C:=Cf w Ow) (S:=Cf w Ow) (h:=20) (Rel.old r (bw w)) (Rel.old r (bw w)) (cT.rel hM r (bw w)) hlen (by omega) (by omega) (AA hlen Pw.xe (by decide) (by have:=Pw.size;omega)) (Ga hlen Pw.xe (by decide) (by have:=Pw.size;omega)) (by decide)) ?_;rintro O SX v5 Si r he Oa hn;replace hw:=hw.tr Oa;have RR:∀g,(Value.slice ax f.cols cx).ownBlock=some g->g<SX.heap.size:=fun g e=>Rel.old r (bw w) g (hX.new g e);clear hM;replace hX:=hX.cD (iv':=(SX.heap.size,Si.heap.size)::Ow) r (bw w) he fun x hx=>aC _ hx;have hK:=gC.fresh (S:=FF) (v:=(.slice ax f.cols cx)) hn r RR;clear r he Oa RR hn;generalize (SX.heap.size,Si.heap.size)::Ow=QO at*
 obtain⟨ak,ck,rfl,VI,VU⟩:=dG.shape hK;refine cI (Φ:=fun _ w' v w2=>dM w2 (Nw S w' w2) v (dI f)) (fun O w' r=>Ip (S:=S) (oS hS r) (hf.cC (kS hw r hS)) OV) ?_;rintro O R5 v6 Ri r he Oa hn;replace hw:=hw.tr Oa;have RR:∀g,(Value.slice ax f.cols cx).ownBlock=some g->g<R5.heap.size:=fun g e=>Rel.old r (bw w) g (hX.new g e);replace hX:=hX.cD (iv':=(R5.heap.size,Ri.heap.size)::QO) r (bw w) he fun x hx=>aC _ hx;replace hK:=gC.cD (iv':=(R5.heap.size,Ri.heap.size)::QO) hK r (bw w) he fun x hx=>aC _ hx;have hL:=dM.cF (S':=Cv S w.heap.size ((R5.heap.size,Ri.heap.size)::QO)) hn fun g hg=>hg.elim .inl fun h=>.inr ⟨by have:=r.bz;omega,_,_,aG,h.1,h.2⟩;clear r he Oa RR hn;generalize (R5.heap.size,Ri.heap.size)::QO=R6 at*
 obtain⟨al,cl,rfl,hcl2,Qo⟩:=eD.shape hL;rw[Ot]
 refine⟨Nat×List Value×List (List Value)×World×Iv,fun z=>⟨[(7,sV ax f.cols cx),(9,.o (.v (.slice ak (cR (cY f) f.cols).length ck))),(10,sV al f.cols cl),(11,pP 2 0),(43,.o (.v (.slice ak (cR (cY f) f.cols).length ck))),(44,.o (.v (.int .i64 (cR (cY f) f.cols).length))),(12,.o (.w 4 z.2.2.1.length)),(45,iN z.1)],[(2,.box T.di [.w 3 z.2.1.length,.v (.int .i64 (cR (cY f) f.cols).length)]),(3,.vec T.jC 1 z.2.1),(4,.vec T.Rat 4 z.2.2.1.flatten)],5,z.2.2.2.2,z.2.2.2.1⟩,fun z=>(cR (cY f) f.cols).length-z.1,
  fun z=>z.1<=(cR (cY f) f.cols).length∧dT w.heap.size w z.2.2.2.1∧eE z.2.2.2.1 FF w.heap.size z.2.2.2.2 (.slice ax f.cols cx) f.cols x0∧cT z.2.2.2.1 (Bs FF w.heap.size z.2.2.2.2 (.slice ax f.cols cx)) (.slice ak (cR (cY f) f.cols).length ck) (cR (cY f) f.cols)∧dM z.2.2.2.1 (Cv S w.heap.size z.2.2.2.2) (.slice al f.cols cl) (dI f)∧du z.2.2.2.1 (Bs FF w.heap.size z.2.2.2.2 (.slice ax f.cols cx)) z.2.1 ((eO (cR (cY f) f.cols) (dI f)).take z.1)∧gM z.2.2.2.1 (Bs FF w.heap.size z.2.2.2.2 (.slice ax f.cols cx)) z.2.2.1 ((gQ (cR (cY f) f.cols) (dI f) x0).take z.1),?_,?_⟩
 ·intro O w' r3;exact⟨(0,[],[],w',_),⟨aS _,hw.tr r3.cL,hX.rel r3 (bw w),gC.rel hK r3 (bw w),by have:=dM.rel hL r3 hS;rw[Ot]at this;exact this,by simp[du],gM.nil⟩,Sub.Ee 2 0 T.jC 1 rfl rfl (by simp[l6,SV.sc,At.sc,iW]) r3 fun ρ1 r1=>Sub.nil 12 T.Rat 4 rfl (by simp[l6,SV.sc,At.sc,iW]) r1 fun ρ2 r2=>Sub.gn [] r2⟩
 clear hw hX hK hL;rintro⟨i,rv,rc,w7,iv⟩ ⟨hi,hw,hX,hK,hL,hR,hG⟩;dsimp only at hi hw hX hK hL hR hG ⊢;have Pk:rv.length=i:=by rw[hR.1,aZ,eO,aL];omega
 have hgl:rc.length=i:=by rw[hG.len,aZ,gQ,aL];omega
 have VN:=eo hG.four;refine dB.mk ?_ ?_<;>intro OQ
 ·have OQ:i<(cR (cY f) f.cols).length:=by have:=aK OQ;omega
  obtain⟨s,hs⟩:∃s,(cR (cY f) f.cols)[i]? =some s:=⟨_,aB OQ⟩
  have SI:s.length=f.cols:=hKl s (aE hs);have hsr:=hKr s (aE hs);obtain⟨adm1,um,ham1,Qc,km1,kn1⟩:=dG.load hK hs;obtain⟨as1,cs1,rfl,-,-⟩:=eD.shape Qc;obtain⟨bent,Sj⟩:∃b,lz s (dI f)=b:=⟨_,rfl⟩
  have TR:bent.length=f.cols:=by rw[<-Sj,uQ,SI]
  have hbr:∀q∈bent,rl q<=20:=fun q hq=>by
   rw[<-Sj]at hq;obtain⟨t,ht⟩:=aQ hq;have htl2:t<s.length:=by have:=(aD.1 ht).1;rw[uQ]at this;exact this
   have h1:=yp (a:=s) (b:=dI f) htl2;rw[getD_some ht]at h1;have h2:=hJ (s.getD t 0) ((dI f).getD t 0);have h3:=hsr (s.getD t 0) (by rw[getD_some (aB htl2)];exact aX _);have h4:=Pw.fxD (t:=t) (by omega);rw[h1];omega
  refine⟨adm1,ham1,by omega,.slice as1 s.length cs1,fun O w' r=>?_,?_⟩
  ·rw[aF,cJ (w:=w7) (w2:=w') (by rw[c9];exact Rel.same r (bw w) km1.1)];exact kn1
  refine cB (cI (Φ:=fun _ w' v w2=>cS w2 (Nf w' w2) v bent) (fun O w' r=>(Sj▸MP (S:=Cv S w.heap.size iv) (Rel.old r hS) (dM.cF (cS.l (eS.cv (eS.rel Qc r (bw w))) fun q hq=>by have:=hsr q hq;omega) fun g hg=>Cg hg) (dM.rel hL r hS) (by rw[SI,Ot];exact Nat.le_refl _) (by omega)).mono fun _ _ ⟨v2,e1,e2,e3⟩=>⟨v2,e1,e2,cS.cF e3.c fun g hg=>hg.elim (fun h=>h.elim) fun⟨_,lo,hi,h2,h3,h4⟩=>by
   simp at h2;obtain⟨rfl,rfl⟩:=h2
   exact .inr ⟨h3,h4⟩⟩) ?_)
  rintro O SD v8 SN r he Oa hn;replace hw:=hw.tr Oa;have RR:∀g,(Value.slice ax f.cols cx).ownBlock=some g->g<SD.heap.size:=fun g e=>Rel.old r (bw w) g (hX.new g e);replace hX:=hX.cD (iv':=(SD.heap.size,SN.heap.size)::iv) r (bw w) he fun x hx=>aC _ hx;replace hK:=gC.cD (iv':=(SD.heap.size,SN.heap.size)::iv) hK r (bw w) he fun x hx=>aC _ hx;replace hL:=dM.cD (iv':=(SD.heap.size,SN.heap.size)::iv) hL r hS he fun x hx=>aC _ hx;replace hR:=mj.cD (iv':=(SD.heap.size,SN.heap.size)::iv) hR r (bw w) he fun x hx=>aC _ hx;replace hG:=jc.cD (iv':=(SD.heap.size,SN.heap.size)::iv) hG r (bw w) he fun x hx=>aC _ hx;have hE:=eS.fresh (S:=FF) (v:=(.slice ax f.cols cx)) hn r RR;clear r he Oa RR hn;generalize (SD.heap.size,SN.heap.size)::iv=SE at*
  clear Qc;obtain⟨ae,ce,rfl,-,-⟩:=eD.shape hE;rw[TR]
  refine⟨Nat×List (List Value)×World×Iv,fun z=>⟨[(7,sV ax f.cols cx),(9,.o (.v (.slice ak (cR (cY f) f.cols).length ck))),(10,sV al f.cols cl),(11,pP 2 0),(43,.o (.v (.slice ak (cR (cY f) f.cols).length ck))),(44,.o (.v (.int .i64 (cR (cY f) f.cols).length))),(12,.o (.w 4 rc.length)),(45,iN i),(15,sV ae f.cols ce),(52,.o (.v (.slice ak (cR (cY f) f.cols).length ck))),(53,.o (.v (.int .i64 (cR (cY f) f.cols).length))),(16,.o (.w 5 z.2.1.length)),(54,iN z.1)],[(5,.vec T.Rat 4 z.2.1.flatten),(2,.box T.di [.w 3 rv.length,.v (.int .i64 (cR (cY f) f.cols).length)]),(3,.vec T.jC 1 rv),(4,.vec T.Rat 4 rc.flatten)],6,z.2.2.2,z.2.2.1⟩,fun z=>(cR (cY f) f.cols).length-z.1,
   fun z=>z.1<=(cR (cY f) f.cols).length∧dT w.heap.size w z.2.2.1∧(eE z.2.2.1 FF w.heap.size z.2.2.2 (.slice ax f.cols cx) f.cols x0∧cT z.2.2.1 (Bs FF w.heap.size z.2.2.2 (.slice ax f.cols cx)) (.slice ak (cR (cY f) f.cols).length ck) (cR (cY f) f.cols)∧dM z.2.2.1 (Cv S w.heap.size z.2.2.2) (.slice al f.cols cl) (dI f)∧du z.2.2.1 (Bs FF w.heap.size z.2.2.2 (.slice ax f.cols cx)) rv ((eO (cR (cY f) f.cols) (dI f)).take i)∧gM z.2.2.1 (Bs FF w.heap.size z.2.2.2 (.slice ax f.cols cx)) rc ((gQ (cR (cY f) f.cols) (dI f) x0).take i)∧cS z.2.2.1 (Bs FF w.heap.size z.2.2.2 (.slice ax f.cols cx)) (.slice ae f.cols ce) bent)∧gM z.2.2.1 (Bs FF w.heap.size z.2.2.2 (.slice ax f.cols cx)) z.2.1 (((cR (cY f) f.cols).map fun r=>fL bent r f.cols).take z.1),?_,?_⟩
  ·intro O w' r3;exact⟨(0,[],w',_),⟨aS _,hw.tr r3.cL,⟨hX.rel r3 (bw w),gC.rel hK r3 (bw w),dM.rel hL r3 hS,mj.rel hR r3 (bw w),jc.rel hG r3 (bw w),by have:=eS.rel hE r3 (bw w);rw[TR]at this;exact this⟩,gM.nil⟩,Sub.nil 16 T.Rat 4 rfl (by simp[l6,SV.sc,At.sc,iW]) r3 fun ρ2 r2=>Sub.gn [] r2⟩
  clear hw hX hK hL hR hG hE;rintro⟨j,css,w8,iv⟩ ⟨hj,hw,⟨hX,hK,hL,hR,hG,hE⟩,hD⟩;dsimp only at hj hw hX hK hL hR hG hE hD ⊢;have Ro:css.length=j:=by rw[hD.len,aZ,aL];omega
  have hdf:=eo hD.four;refine dB.mk ?_ ?_<;>intro Pv
  ·have Pv:j<(cR (cY f) f.cols).length:=by have:=aK Pv;omega
   obtain⟨t,ht⟩:∃s,(cR (cY f) f.cols)[j]? =some s:=⟨_,aB Pv⟩
   have htl2:t.length=f.cols:=hKl t (aE ht);have htr:=hKr t (aE ht);obtain⟨adm2,um2,ham2,Qc,km2,kn2⟩:=dG.load hK ht;obtain⟨as2,cs2,rfl,-,-⟩:=eD.shape Qc;refine⟨adm2,ham2,by omega,.slice as2 t.length cs2,fun O w' r=>?_,?_⟩
   ·rw[aF,cJ (w:=w8) (w2:=w') (by rw[c9];exact Rel.same r (bw w) km2.1)];exact kn2
   refine cB (cI (Φ:=fun _ w' v w2=>cN w2 (Nf w' w2) v (fL bent t f.cols)) (fun O w' r=>TR▸Kj (S:=Cf w iv) (h:=21) (Rel.old r (bw w)) (cS.l (by have:=eS.cv (eS.rel hE r (bw w));rw[<-TR]at this;exact this) fun q hq=>by have:=hbr q hq;omega) (cS.l (eS.cv (eS.rel Qc r (bw w))) fun q hq=>by have:=htr q hq;omega) (by omega) (fun q hq=>by have:=hbr q hq;omega) (fun q hq=>by have:=htr q hq;omega) (by decide) (by omega)) ?_);rintro O R7 v9 Rj r he Oa hn;replace hw:=hw.tr Oa;have RR:∀g,(Value.slice ax f.cols cx).ownBlock=some g->g<R7.heap.size:=fun g e=>Rel.old r (bw w) g (hX.new g e);replace hX:=hX.cD (iv':=(R7.heap.size,Rj.heap.size)::iv) r (bw w) he fun x hx=>aC _ hx;replace hK:=gC.cD (iv':=(R7.heap.size,Rj.heap.size)::iv) hK r (bw w) he fun x hx=>aC _ hx;replace hL:=dM.cD (iv':=(R7.heap.size,Rj.heap.size)::iv) hL r hS he fun x hx=>aC _ hx;replace hR:=mj.cD (iv':=(R7.heap.size,Rj.heap.size)::iv) hR r (bw w) he fun x hx=>aC _ hx;replace hG:=jc.cD (iv':=(R7.heap.size,Rj.heap.size)::iv) hG r (bw w) he fun x hx=>aC _ hx;replace hE:=eS.cD (iv':=(R7.heap.size,Rj.heap.size)::iv) hE r (bw w) he fun x hx=>aC _ hx;replace hD:=jc.cD (iv':=(R7.heap.size,Rj.heap.size)::iv) hD r (bw w) he fun x hx=>aC _ hx;have hd:=lX.fresh (S:=FF) (v:=(.slice ax f.cols cx)) hn r RR;clear r he Oa RR hn;generalize (R7.heap.size,Rj.heap.size)::iv=RU at*
   obtain⟨C0,C1,C2,C3,C4,C5,C6,C7,rfl⟩:=hd.shape;clear Qc;have Vh:=hD.push (cs:=[.bool C0,.slice C1 C2 C3,.bool C4,.slice C5 C6 C7]) (q:=fL bent t f.cols) ⟨_,_,_,_,_,_,_,_,rfl,hd⟩ rfl;rw[show (((cR (cY f) f.cols).map fun r=>fL bent r f.cols).take j)++[fL bent t f.cols]=((cR (cY f) f.cols).map fun r=>fL bent r f.cols).take (j+1) by rw[List.take_add_one,aM,ht];rfl]at Vh;have R1:css.flatten++([.bool C0,.slice C1 C2 C3,.bool C4,.slice C5 C6 C7]:List Value)=(css++([[.bool C0,.slice C1 C2 C3,.bool C4,.slice C5 C6 C7]]:List (List Value))).flatten:=by simp
   refine .inl ?_;refine⟨by omega,by omega,by unfold maxLen;omega,((j+1:Nat):Int),wo,?_⟩;intro ρ3 w6 r3;exact⟨(j+1,css++[[.bool C0,.slice C1 C2 C3,.bool C4,.slice C5 C6 C7]],w6,_),⟨Pv,hw.tr r3.cL,⟨hX.rel r3 (bw w),gC.rel hK r3 (bw w),dM.rel hL r3 hS,mj.rel hR r3 (bw w),jc.rel hG r3 (bw w),eS.rel hE r3 (bw w)⟩,jc.rel Vh r3 (bw w)⟩,Sub.gn [(5,7)] r3 ⟨by dsimp only;rw[<-R1];rfl,rfl,rfl,rfl,trivial⟩ ⟨rfl,rfl,rfl,rfl,rfl,rfl,rfl,rfl,rfl,rfl,rfl,by dsimp only;rw[List.length_append,List.length_singleton];rfl,rfl,trivial⟩,by dsimp only;omega⟩
  have Pv:j=(cR (cY f) f.cols).length:=by have:=aH Pv;omega
  rw[Pv,List.take_of_length_le (by rw[aL];exact Nat.le_refl _)]at hD;have OR:(eO (cR (cY f) f.cols) (dI f)).take i++[((cR (cY f) f.cols).map fun r=>fL bent r f.cols)]=(eO (cR (cY f) f.cols) (dI f)).take (i+1):=by
   rw[List.take_add_one,eO,aM,hs,<-Sj,<-SI];rfl
  have hrgt:(gQ (cR (cY f) f.cols) (dI f) x0).take i++[-(fL bent x0 f.cols)]=(gQ (cR (cY f) f.cols) (dI f) x0).take (i+1):=by
   rw[List.take_add_one,gQ,aM,hs,<-Sj,<-SI];rfl
  refine FV hτ (id3:=6) (id2:=5) (tH:=[(2,.box T.di [.w 3 rv.length,.v (.int .i64 (cR (cY f) f.cols).length)]),(3,.vec T.jC 1 rv),(4,.vec T.Rat 4 rc.flatten)]) rfl rfl rfl rfl (by simp) ⟨rfl,rfl,rfl,trivial⟩ rfl rfl (fun O w' r r2 Vt=>?_);have QU:∀g,(Value.slice ax f.cols cx).ownBlock=some g->∀id b,cV [(6,.box T.jC [.w 5 css.length]),(5,.vec T.Rat 4 css.flatten),(2,.box T.di [.w 3 rv.length,.v (.int .i64 (cR (cY f) f.cols).length)]),(3,.vec T.jC 1 rv),(4,.vec T.Rat 4 rc.flatten)] id=some b->(O id).nil=false->(O id).g≠g:=fun g e id b h1 h2=>Rel.not r (bw w) (hX.new g e) id b h1 h2;have hlo3:=r.low 6 _ rfl (r.fits (id:=6) rfl).1;have hB3:Bs FF w.heap.size (((O 6).g,(O 6).g+1)::rD (O 5) iv) (.slice ax f.cols cx) (O 6).g:=⟨.inr ⟨hlo3.1,_,_,aG,Nat.le_refl _,bV _⟩,fun e=>QU _ e 6 _ rfl (r.fits (id:=6) rfl).1 rfl⟩
  have RK:∀p,p∈iv->p∈((O 6).g,(O 6).g+1)::rD (O 5) iv:=fun p hp=>aC _ (Hy p hp);have Wb:=gM.list ((jc.rel hD r (bw w)).cF fun g hg=>Bs.mono RK hg) (r.DB (T:=Bs FF w.heap.size (((O 6).g,(O 6).g+1)::rD (O 5) iv) (.slice ax f.cols cx)) (id:=5) (sz:=4) (m:=css.length) rfl hdf (by unfold maxLen;omega) (by decide) hD.one fun hn=>⟨.inr ⟨(r.low 5 _ rfl hn).1,_,_,aC _ (JX hn),Nat.le_refl _,bV _⟩,fun e=>QU _ e 5 _ rfl hn rfl⟩);have PI:((At.w 5 css.length).den O).oneCell'=true:=At.aAH;have PO:=hw.tr r.cL;replace hX:eE w' FF w.heap.size (((O 6).g,(O 6).g+1)::rD (O 5) iv) (.slice ax f.cols cx) f.cols x0:=by
   have h1:=hX.rel r (bw w);exact⟨h1.row.cF fun g hg=>⟨hg.1.mono RK,hg.2⟩,fun g hg=>(h1.new g hg).mono RK⟩
  replace hK:=cT.cF (gC.rel hK r (bw w)) fun g hg=>Bs.mono RK hg;replace hL:=dM.cF (dM.rel hL r hS) fun g hg=>hg.mono RK;replace hR:=du.cF (mj.rel hR r (bw w)) fun g hg=>Bs.mono RK hg;replace hG:=gM.cF (jc.rel hG r (bw w)) fun g hg=>Bs.mono RK hg;replace hE:=cS.cF (eS.rel hE r (bw w)) fun g hg=>Bs.mono RK hg;clear r2 hlo3 hD QU hw;generalize (At.w 5 css.length).den O=ur at*
  generalize (O 6).g=gy at*
  generalize (gy,gy+1)::rD (O 5) iv=ivg at*
  clear r;refine⟨[ur],rfl,by simpa using PI,fun ρ2 w2 r2 _=>⟨_,rfl,fun j u hu=>?_⟩,?_⟩
  ·have h5:=Rel.same r2 (eI _) hB3.1;rw[dA,cell_of (h5.trans Vt)];rcases j with _|j
   ·exact hu
   ·cases hu
  refine⟨by simp,by omega,by unfold maxLen;omega,?_⟩;have RJ:=hR.push PI Wb;rw[OR]at RJ;clear Wb hR Vt hB3;rename_i wg _;have hw:=PO;clear PO;refine cB (cI (Φ:=fun _ w' v w2=>cN w2 (Nf w' w2) v (fL bent x0 f.cols)) (fun O w' r=>TR▸Kj (S:=Cf w ivg) (h:=30) (Rel.old r (bw w)) (cS.l (by have:=eS.cv (eS.rel hE r (bw w));rw[<-TR]at this;exact this) fun q hq=>by have:=hbr q hq;omega) (cS.l (by have:=(hX.rel r (bw w)).c;rw[<-TR]at this;exact this) fun q hq=>by have:=Vv q hq;omega) (by omega) (fun q hq=>by have:=hbr q hq;omega) (fun q hq=>by have:=Vv q hq;omega) (by decide) (by omega)) ?_);rintro O QJ v11 QQ r he Oa hn;replace hw:=hw.tr Oa;have RR:∀g,(Value.slice ax f.cols cx).ownBlock=some g->g<QJ.heap.size:=fun g e=>Rel.old r (bw w) g (hX.new g e);replace hX:=hX.cD (iv':=(QJ.heap.size,QQ.heap.size)::ivg) r (bw w) he fun x hx=>aC _ hx;replace hK:=gC.cD (iv':=(QJ.heap.size,QQ.heap.size)::ivg) hK r (bw w) he fun x hx=>aC _ hx;replace hL:=dM.cD (iv':=(QJ.heap.size,QQ.heap.size)::ivg) hL r hS he fun x hx=>aC _ hx;replace RJ:=mj.cD (iv':=(QJ.heap.size,QQ.heap.size)::ivg) RJ r (bw w) he fun x hx=>aC _ hx;replace hG:=jc.cD (iv':=(QJ.heap.size,QQ.heap.size)::ivg) hG r (bw w) he fun x hx=>aC _ hx;replace hE:=eS.cD (iv':=(QJ.heap.size,QQ.heap.size)::ivg) hE r (bw w) he fun x hx=>aC _ hx;have hd:=lX.fresh (S:=FF) (v:=(.slice ax f.cols cx)) hn r RR;clear r he Oa RR hn;generalize (QJ.heap.size,QQ.heap.size)::ivg=Pq at*
  obtain⟨E0,E1,E2,E3,E4,E5,E6,E7,rfl⟩:=hd.shape;have hdr:=zj (h:=30) (xs:=bent) (ys:=x0) (fun q hq=>by have:=hbr q hq;omega) (fun q hq=>by have:=Vv q hq;omega) (by decide) f.cols;refine cB (cI (Φ:=fun _ w' v w2=>cN w2 (Nf w' w2) v (-(fL bent x0 f.cols))) (fun O w' r=>vU (S:=Cf w Pq) (Rel.old r (bw w)) (cN.l (lX.cv (lX.rel hd r (bw w))) (by omega))) ?_);rintro O R8 v12 Rr r he Oa hn;replace hw:=hw.tr Oa;have RR:∀g,(Value.slice ax f.cols cx).ownBlock=some g->g<R8.heap.size:=fun g e=>Rel.old r (bw w) g (hX.new g e);replace hX:=hX.cD (iv':=(R8.heap.size,Rr.heap.size)::Pq) r (bw w) he fun x hx=>aC _ hx;replace hK:=gC.cD (iv':=(R8.heap.size,Rr.heap.size)::Pq) hK r (bw w) he fun x hx=>aC _ hx;replace hL:=dM.cD (iv':=(R8.heap.size,Rr.heap.size)::Pq) hL r hS he fun x hx=>aC _ hx;replace RJ:=mj.cD (iv':=(R8.heap.size,Rr.heap.size)::Pq) RJ r (bw w) he fun x hx=>aC _ hx;replace hG:=jc.cD (iv':=(R8.heap.size,Rr.heap.size)::Pq) hG r (bw w) he fun x hx=>aC _ hx;replace hE:=eS.cD (iv':=(R8.heap.size,Rr.heap.size)::Pq) hE r (bw w) he fun x hx=>aC _ hx;clear hd;have PM:=lX.fresh (S:=FF) (v:=(.slice ax f.cols cx)) hn r RR;clear r he Oa RR hn;generalize (R8.heap.size,Rr.heap.size)::Pq=Vk at*
  obtain⟨F0,F1,F2,F3,F4,F5,F6,F7,rfl⟩:=PM.shape;have hG2:=hG.push (cs:=[.bool F0,.slice F1 F2 F3,.bool F4,.slice F5 F6 F7]) (q:= -(fL bent x0 f.cols)) ⟨_,_,_,_,_,_,_,_,rfl,PM⟩ rfl;rw[hrgt]at hG2;have R1:rc.flatten++([.bool F0,.slice F1 F2 F3,.bool F4,.slice F5 F6 F7]:List Value)=(rc++([[.bool F0,.slice F1 F2 F3,.bool F4,.slice F5 F6 F7]]:List (List Value))).flatten:=by simp
  refine .inl ?_;refine⟨by omega,by omega,by unfold maxLen;omega,((i+1:Nat):Int),wo,?_⟩;intro ρ3 w6 r3;exact⟨(i+1,rv++[ur],rc++[[.bool F0,.slice F1 F2 F3,.bool F4,.slice F5 F6 F7]],w6,_),⟨OQ,hw.tr r3.cL,hX.rel r3 (bw w),gC.rel hK r3 (bw w),dM.rel hL r3 hS,mj.rel RJ r3 (bw w),jc.rel hG2 r3 (bw w)⟩,Sub.gn [(3,7),(4,9)] r3 ⟨by dsimp only;rw[List.length_append,List.length_singleton];rfl,rfl,by dsimp only;rw[<-R1];rfl,trivial⟩ ⟨rfl,rfl,rfl,rfl,rfl,rfl,by dsimp only;rw[List.length_append,List.length_singleton];rfl,rfl,trivial⟩,by dsimp only;omega⟩
 have OQ:i=(cR (cY f) f.cols).length:=by have:=aH OQ;omega
 rw[OQ,List.take_of_length_le (by rw[eO,aL];exact Nat.le_refl _)]at hR;rw[OQ,List.take_of_length_le (by rw[gQ,aL];exact Nat.le_refl _)]at hG;have TM:rv.length=(eO (cR (cY f) f.cols) (dI f)).length:=hR.1
 refine cB (cI (Φ:=fun _ w' v w2=>∃vc,v= .tuple #[vc,.bool true]∧eE w2 (Bs FF w.heap.size iv (.slice ax f.cols cx)) w'.heap.size [(w'.heap.size,w2.heap.size)] vc (cR (cY f) f.cols).length c) (fun O w' r=>(B8 (C:=(fun g=>g<w'.heap.size)) (D:=(fun g=>g<w'.heap.size)) (S:=Bs FF w.heap.size iv (.slice ax f.cols cx)) (M:=eO (cR (cY f) f.cols) (dI f)) (b:=gQ (cR (cY f) f.cols) (dI f) x0) (cols:=(cR (cY f) f.cols).length) (h:=1930) (fun g hg=>hg) (fun g hg=>hg) (fun g hg=>Rel.old r (bw w) g hg.1) ⟨rv,by rw[<-TM];exact r.DB (T:=(fun g=>g<w'.heap.size)) (id:=3) (sz:=1) (m:=rv.length) rfl (by simp) (by unfold maxLen;omega) (by decide) hR.2.1 fun hn=>(r.low 3 _ rfl hn).2,hR.1,fun a u x h1 h2=>eS.rel (hR.2.2 a u x h1 h2) r (bw w)⟩ ⟨rc,by rw[<-hG.len];exact r.DB (T:=(fun g=>g<w'.heap.size)) (id:=4) (sz:=4) (m:=rc.length) rfl VN (by unfold maxLen;omega) (by decide) hG.one fun hn=>(r.low 4 _ rfl hn).2,hG.len,fun a cs x h1 h2=>(jc.rel hG r (bw w)).at_ a cs x h1 h2⟩ (by rw[gQ,eO,aL,aL]) hSl (by omega) (by rw[eO,aL];omega) hredB (by decide)).mono fun _ _ ⟨v2,e1,e2,e3⟩=>⟨v2,e1,e2,by
  rcases e3 with⟨h1,_⟩|⟨x2,vx,h1,h2,h3⟩
  ·rw[TQ]at h1;cases h1
  ·rw[TQ]at h1;injection h1 with h1;subst h1;exact⟨vx,h2,h3⟩⟩) ?_)
 rintro O Vw v13 wb13 r he Oa ⟨vc,rfl,hn⟩;replace hw:=hw.tr Oa;have RR:∀g,(Value.slice ax f.cols cx).ownBlock=some g->g<Vw.heap.size:=fun g e=>Rel.old r (bw w) g (hX.new g e);replace hX:=hX.cD (iv':=(Vw.heap.size,wb13.heap.size)::iv) r (bw w) he fun x hx=>aC _ hx;replace hK:=gC.cD (iv':=(Vw.heap.size,wb13.heap.size)::iv) hK r (bw w) he fun x hx=>aC _ hx;have hC:=cS.cF hn.c fun g hg=>Bs.solved r RR (fun _ h=>h) hg;clear r he Oa RR;generalize (Vw.heap.size,wb13.heap.size)::iv=iv13 at*
 clear hn hR hG hL;obtain⟨ac,cc,rfl,-,-⟩:=eD.shape hC;rw[PY]
 refine⟨Nat×World×Iv,fun z=>⟨[(7,sV ax f.cols cx),(19,.o (.v (.slice ac (cR (cY f) f.cols).length cc))),(87,.o (.v (.slice ak (cR (cY f) f.cols).length ck))),(88,.o (.v (.int .i64 (cR (cY f) f.cols).length))),(89,iN z.1)],[],0,z.2.2,z.2.1⟩,fun z=>(cR (cY f) f.cols).length-z.1,
  fun z=>z.1<=(cR (cY f) f.cols).length∧dT w.heap.size w z.2.1∧eE z.2.1 FF w.heap.size z.2.2 (.slice ax f.cols cx) f.cols (lE (cR (cY f) f.cols) c x0 z.1)∧cT z.2.1 (Bs FF w.heap.size z.2.2 (.slice ax f.cols cx)) (.slice ak (cR (cY f) f.cols).length ck) (cR (cY f) f.cols)∧cS z.2.1 (Bs FF w.heap.size z.2.2 (.slice ax f.cols cx)) (.slice ac (cR (cY f) f.cols).length cc) c,?_,?_⟩
 ·intro O w' r3;exact⟨(0,w',_),⟨aS _,hw.tr r3.cL,hX.rel r3 (bw w),gC.rel hK r3 (bw w),by have:=eS.rel hC r3 (bw w);rw[PY]at this;exact this⟩,Sub.gn [] r3⟩
 clear hw hX hK hC;rintro⟨i,w13,iv⟩ ⟨hi,hw,hX,hK,hC⟩;dsimp only at hi hw hX hK hC ⊢;refine dB.mk ?_ ?_<;>intro OQ
 ·have OQ:i<(cR (cY f) f.cols).length:=by have:=aK OQ;omega
  obtain⟨s,hs⟩:∃s,(cR (cY f) f.cols)[i]? =some s:=⟨_,aB OQ⟩
  have SI:s.length=f.cols:=hKl s (aE hs);have hsr:=hKr s (aE hs);obtain⟨ci,TJ⟩:∃q,c[i]? =some q:=⟨_,aB (by omega)⟩
  have hcir:=Sq ci (aE TJ);obtain⟨y0,Pg⟩:∃y,lE (cR (cY f) f.cols) c x0 i=y:=⟨_,rfl⟩
  have hy0l:y0.length=f.cols:=by rw[<-Pg,ql,hx0l]
  have hy0r:∀q∈y0,rl q<=75000:=fun q hq=>by
   rw[<-Pg]at hq;have h1:=Ew (a:=26) (b:=1927) Vv (fun r hr q hq=>by have:=hKr r hr q hq;omega) Sq i q hq;have h2:i*(2*1927+5)<=18*(2*1927+5):=Nat.mul_le_mul_right _ (by omega);omega
  have hnextA:lE (cR (cY f) f.cols) c x0 (i+1)=y0.mapIdx fun k q=>q+ci*s.getD k 0:=by rw[lE,Pg,getD_some TJ,getD_some (d:=[]) hs]
  rw[Pg]at hX;obtain⟨adm3,um,ham3,Qc,km3,kn3⟩:=dG.load hK hs;obtain⟨as3,cs3,rfl,-,-⟩:=eD.shape Qc;refine⟨adm3,ham3,by omega,.slice as3 s.length cs3,fun O w' r=>?_,?_⟩
  ·rw[aF,cJ (w:=w13) (w2:=w') (by rw[c9];exact Rel.same r (bw w) km3.1)];exact kn3
  rw[SI]
  refine⟨Nat×World×Iv,fun z=>⟨[(7,sV ax f.cols cx),(19,.o (.v (.slice ac (cR (cY f) f.cols).length cc))),(87,.o (.v (.slice ak (cR (cY f) f.cols).length ck))),(88,.o (.v (.int .i64 (cR (cY f) f.cols).length))),(89,iN i),(20,iN i),(94,sV as3 f.cols cs3),(95,iZ f.cols),(96,iN z.1)],[],0,z.2.2,z.2.1⟩,fun z=>f.cols-z.1,
   fun z=>z.1<=f.cols∧dT w.heap.size w z.2.1∧eE z.2.1 FF w.heap.size z.2.2 (.slice ax f.cols cx) f.cols ((gb z.1 (fun k q=>q+ci*s.getD k 0) y0))∧cT z.2.1 (Bs FF w.heap.size z.2.2 (.slice ax f.cols cx)) (.slice ak (cR (cY f) f.cols).length ck) (cR (cY f) f.cols)∧cS z.2.1 (Bs FF w.heap.size z.2.2 (.slice ax f.cols cx)) (.slice ac (cR (cY f) f.cols).length cc) c∧cS z.2.1 (Bs FF w.heap.size z.2.2 (.slice ax f.cols cx)) (.slice as3 f.cols cs3) s,?_,?_⟩
  ·intro O w' r3;exact⟨(0,w',_),⟨aS _,hw.tr r3.cL,by dsimp only;rw[oP];exact hX.rel r3 (bw w),gC.rel hK r3 (bw w),eS.rel hC r3 (bw w),by have:=eS.rel Qc r3 (bw w);rw[SI]at this;exact this⟩,Sub.gn [] r3⟩
  clear hw hX hK hC Qc;rintro⟨k,w14,iv⟩ ⟨hk,hw,hX,hK,hC,Qc⟩;dsimp only at hk hw hX hK hC Qc ⊢;refine dB.mk ?_ ?_<;>intro OT
  ·have OT:k<f.cols:=by have:=aK OT;omega
   obtain⟨gx,rfl⟩:=hX.at (by omega);obtain⟨q,hq⟩:∃q,s[k]? =some q:=⟨_,aB (by omega)⟩
   obtain⟨y,hy⟩:∃q,y0[k]? =some q:=⟨_,aB (by omega)⟩
   have hyu:=uL (f:=fun k q=>q+ci*s.getD k 0) hy;have hqr:=hsr q (aE hq);have hyr:=hy0r y (aE hy);obtain⟨adq,csq,haq,hFq,_,hlq⟩:=eD.load Qc hq;obtain⟨q0,q1,q2,q3,q4,q5,q6,q7,rfl,hFq⟩:=hFq;obtain⟨ady,csy,UQ,RP,_,Q3⟩:=eD.load hX.c hyu;obtain⟨y0',y1,y2,y3,y4,y5,y6,y7,rfl,RP⟩:=RP;obtain⟨adc,csc,Wa,hFc,_,TE⟩:=eD.load hC TJ;obtain⟨c0,c1,c2,c3,c4,c5,c6,c7,rfl,hFc⟩:=hFc;refine⟨adq,haq,by omega,[.bool q0,.slice q1 q2 q3,.bool q4,.slice q5 q6 q7],rfl,fun O w' r j u hu=>?_,?_⟩
   ·obtain⟨k1,k2⟩:=hlq j u hu;rw[aF,cJ (w:=w14) (w2:=w') (by rw[c9,c9];exact Rel.same r (bw w) k1.1)];exact k2
   refine cH hτ dN [.x 0,.x 1,.x 2,.x 3,.x 4,.x 5,.x 6,.x 7,.x 8,.x 9,.x 10,.x 11,.x 12,.x 13,.x 14] (by kernel_rfl) (by kernel_rfl) ?_;refine⟨ady,UQ,by omega,[.bool y0',.slice y1 y2 y3,.bool y4,.slice y5 y6 y7],rfl,fun O w' r j u hu=>?_,?_⟩
   ·obtain⟨k1,k2⟩:=Q3 j u hu;rw[aF,cJ (w:=w14) (w2:=w') (by rw[c9,c9];exact Rel.same r (bw w) k1)];exact k2
   refine⟨adc,Wa,by omega,[.bool c0,.slice c1 c2 c3,.bool c4,.slice c5 c6 c7],rfl,fun O w' r j u hu=>?_,?_⟩
   ·obtain⟨k1,k2⟩:=TE j u hu;rw[aF,cJ (w:=w14) (w2:=w') (by rw[c9,c9];exact Rel.same r (bw w) k1.1)];exact k2
   refine cI (Φ:=fun _ w' v w2=>cN w2 (Nf w' w2) v (ci*q)) (fun O w' r=>zl (S:=Cf w iv) (Rel.old r (bw w)) ((cN.l (lX.cv (lX.rel hFc r (bw w))) (by omega)).v) ((cN.l (lX.cv (lX.rel hFq r (bw w))) (by omega)).v)) ?_;rintro O TS v15 UD r he Oa hn;replace hw:=hw.tr Oa;have RR:∀g,(Value.slice (some ⟨gx,0,none⟩) f.cols cx).ownBlock=some g->g<TS.heap.size:=fun g e=>Rel.old r (bw w) g (hX.new g e);replace hX:=hX.cD (iv':=(TS.heap.size,UD.heap.size)::iv) r (bw w) he fun x hx=>aC _ hx;replace hK:=gC.cD (iv':=(TS.heap.size,UD.heap.size)::iv) hK r (bw w) he fun x hx=>aC _ hx;replace hC:=eS.cD (iv':=(TS.heap.size,UD.heap.size)::iv) hC r (bw w) he fun x hx=>aC _ hx;replace Qc:=eS.cD (iv':=(TS.heap.size,UD.heap.size)::iv) Qc r (bw w) he fun x hx=>aC _ hx;replace RP:=cN.cD (iv':=(TS.heap.size,UD.heap.size)::iv) RP r (bw w) he fun x hx=>aC _ hx;have hm:=lX.fresh (S:=FF) (v:=(.slice (some ⟨gx,0,none⟩) f.cols cx)) hn r RR;clear r he Oa RR hn;generalize (TS.heap.size,UD.heap.size)::iv=UE at*
   obtain⟨G0,G1,G2,G3,G4,G5,G6,G7,rfl⟩:=hm.shape;refine cI (Φ:=fun _ w' v w2=>cN w2 (Nf w' w2) v (y+ci*q)) (fun O w' r=>Cn (S:=Cf w UE) (Rel.old r (bw w)) ((cN.l (cN.rel RP r (bw w)) (by omega)).v) ((cN.l (lX.cv (lX.rel hm r (bw w))) (by have:=hJ ci q;omega)).v)) ?_;rintro O UF v16 Uv r he Oa hn;replace hw:=hw.tr Oa;have RR:∀g,(Value.slice (some ⟨gx,0,none⟩) f.cols cx).ownBlock=some g->g<UF.heap.size:=fun g e=>Rel.old r (bw w) g (hX.new g e);replace hX:=hX.cD (iv':=(UF.heap.size,Uv.heap.size)::UE) r (bw w) he fun x hx=>aC _ hx;replace hK:=gC.cD (iv':=(UF.heap.size,Uv.heap.size)::UE) hK r (bw w) he fun x hx=>aC _ hx;replace hC:=eS.cD (iv':=(UF.heap.size,Uv.heap.size)::UE) hC r (bw w) he fun x hx=>aC _ hx;replace Qc:=eS.cD (iv':=(UF.heap.size,Uv.heap.size)::UE) Qc r (bw w) he fun x hx=>aC _ hx;clear RP;clear hm;have hd:=lX.fresh (S:=FF) (v:=(.slice (some ⟨gx,0,none⟩) f.cols cx)) hn r RR;clear r he Oa RR hn;generalize (UF.heap.size,Uv.heap.size)::UE=iv16 at*
   obtain⟨J0,J1,J2,J3,J4,J5,J6,J7,rfl⟩:=hd.shape;refine⟨⟨gx,0,none⟩,rfl,by omega,?_⟩;intro O w' r;obtain⟨g,hg,h1,h2,h3,h4,h5⟩:=(hX.rel r (bw w)).store (j:=k) OT (hd.cC (Bs.same r (bw w))) r (bw w);injection hg with hg;injection hg with hg;subst hg;refine⟨h1,h2,h3,fun w5 Rp=>?_⟩;obtain⟨k1,k2,k3⟩:=h5 w5 Rp;have PO:dT w.heap.size w w5:=(hw.tr r.cL).tr (dT.grown k2 (fun g e=>by injection e with e;subst e;exact h4.elim (fun h=>h.elim) fun h=>h.1) r.bz);have Rq:=gC.kept hK r (bw w) k2;have Sp:=eS.kept hC r (bw w) k2;have RJ:=eS.kept Qc r (bw w) k2;have Oh:(gb k (fun k q=>q+ci*s.getD k 0) y0).set k (y+ci*q)=(gb (k+1) (fun k q=>q+ci*s.getD k 0) y0):=by rw[<-lP hy,getD_some hq]
   rw[Oh]at k1;clear hX hK hC Qc hw h1 h2 h3 h4 h5 Rp k2 k3 r hd;refine⟨((k+1:Nat):Int),wo,?_⟩;intro ρ3 w6 r3;exact⟨(k+1,w6,_),⟨OT,PO.tr r3.cL,k1.rel r3 (bw w),gC.rel Rq r3 (bw w),eS.rel Sp r3 (bw w),eS.rel RJ r3 (bw w)⟩,Sub.gn [] r3,by dsimp only;omega⟩
  have OT:k=f.cols:=by have:=aH OT;omega
  rw[OT,<-hy0l,qq,<-hnextA,hy0l]at hX;refine⟨((i+1:Nat):Int),wo,?_⟩;intro ρ3 w6 r3;exact⟨(i+1,w6,_),⟨OQ,hw.tr r3.cL,hX.rel r3 (bw w),gC.rel hK r3 (bw w),eS.rel hC r3 (bw w)⟩,Sub.gn [] r3,by dsimp only;omega⟩
 have OQ:i=(cR (cY f) f.cols).length:=by have:=aH OQ;omega
 rw[OQ]at hX;exact rtn hw fun ρe we re=>.inr ⟨_,_,hfrc,rfl,cS.out hX.c re (bw w)⟩
end Go.Ex
namespace Go.Ex
open Go Go.Sx Go.Proofs
def LB(g:Nat):Iv->Iv
 |[]=>[]
 |(lo,hi)::iv=>(lo,min hi g)::(max lo (g+1),hi)::LB g iv
def Iw(v:Value)(iv:Iv):Iv:=match v.ownBlock with
 |some g=>LB g iv
 |none=>iv
theorem Bi{g lo hi:Nat}:∀{iv:Iv},(lo,hi)∈LB g iv->∃a b,(a,b)∈iv∧a<=lo∧hi<=b∧¬(lo<=g∧g<hi)
 |[],h=>by cases h
 |(x,y)::iv,h=>by
  rcases List.mem_cons.1 h with h|h
  ·injection h with h1 h2;exact⟨x,y,aG,by omega,by omega,by omega⟩
  ·rcases List.mem_cons.1 h with h|h
   ·injection h with h1 h2;exact⟨x,y,aG,by omega,by omega,by omega⟩
   ·obtain⟨a,b,h1,h2⟩:=Bi h;exact⟨a,b,aC _ h1,h2⟩
theorem AB{v:Value}{iv:Iv}{lo hi:Nat}(h:(lo,hi)∈Iw v iv):∃a b,(a,b)∈iv∧a<=lo∧hi<=b∧∀g,v.ownBlock=some g->¬(lo<=g∧g<hi):=by
 unfold Iw at h
 cases e:v.ownBlock with
 |none=>rw[e]at h;exact⟨lo,hi,h,Nat.le_refl _,Nat.le_refl _,fun g e2=>by cases e2⟩
 |some g=>
  rw[e]at h;obtain⟨a,b,h1,h2,h3,h4⟩:=Bi h;exact⟨a,b,h1,h2,h3,fun g2 e2=>by injection e2 with e2;subst e2;exact h4⟩
end Go.Ex
namespace Go.Sx
open Go Go.Ex Go.Proofs
variable{xs:List Value}{O:Nat->Sx.dL}
theorem Rel.JO{H:Hp}{nx:Nat}{iv:Iv}{B:Nat}{w w':World}(r:Rel H nx iv B w O w'){e sz n:Nat}{v:Value}(OR:w'.ownsRow 0 e sz v n xs)(Od:∀g,v.ownBlock=some g->B<=g)
  (OS:∀g,v.ownBlock=some g->∀id b,cV H id=some b->(O id).nil=false->(O id).g≠g):
  ∃u:Sx.dL,Rel ((nx,.vec e sz xs)::H) (nx+1) (Iw v iv) B w' (Sx.fh O nx u) w'∧(At.w nx n).den (Sx.fh O nx u)=v:=by
 have r0:Rel H nx (Iw v iv) B w' O w':=Rel.mk' rfl rfl rfl (Nat.le_refl _) (by have:=r.base;have:=r.size;omega)
  (fun lo hi hm=>by obtain⟨a,b,h1,h2,h3,_⟩:=AB hm;have:=r.qW a b h1;have:=r.size;omega) r.keys (fun j c h=>r.fits h) (fun j c h=>r.scopd h) r.inj r.low (fun _ _ _=>rfl)
  (fun lo hi hm id b h hn hh=>by obtain⟨a,c,h1,h2,h3,_⟩:=AB hm;exact r.ji a c h1 id b h hn ⟨by omega,by omega⟩)
 have hcut:∀lo hi,(lo,hi)∈Iw v iv->∀g,v.ownBlock=some g->¬(lo<=g∧g<hi):=fun lo hi hm=>by obtain⟨a,c,h1,h2,h3,h4⟩:=AB hm;exact h4
 obtain⟨h1,h2⟩:=OR;rcases h2 with⟨rfl,rfl⟩|⟨g,cap,cur,rfl,_,hc,hn,hm,hs,ht⟩
 ·have:xs=[]:=List.eq_nil_of_length_eq_zero (by rw[h1,Nat.zero_mul]);subst this;exact⟨⟨0,0,true⟩,r0.push (.vec e sz []) ⟨0,0,true⟩ rfl rfl rfl (Nat.le_refl _) (fun _ _=>rfl) (fun h=>by cases h) (.inl ⟨rfl,rfl⟩) trivial,by simp[At.den,Sx.fh]⟩
 ·generalize Iw (.slice (some ⟨g,0,none⟩) n cap) iv=OU at*
  have OS:=OS g rfl;have Od:=Od g rfl;have hgl:g<w'.heap.size:=(ah.1 hc).1;have Ou:∀id b,cV H id=some b->id≠nx:=fun id b h=>Nat.ne_of_lt (r.keys id b h);have Pn:∀id b,cV H id=some b->Sx.fh O nx ⟨g,cap,false⟩ id=O id:=fun id b h=>by simp[Sx.fh,Ou id b h]
  have WM:xs++cur.toList.drop (n*sz)=cur.toList:=by rw[<-ht,List.take_append_drop]
  refine⟨⟨g,cap,false⟩,Rel.mk' rfl rfl rfl (Nat.le_refl _) r0.base r0.qW ?_ ?_ ?_ ?_ ?_ (fun _ _ _=>rfl) ?_,by simp[At.den,Sx.fh]⟩
  ·intro id b' h;rw[cU]at h;split at h
   ·omega
   ·have:=r.keys id b' h;omega
  ·intro id b' h;rw[cU]at h;split at h
   ·rename_i e2;subst e2;injection h with h;subst h;rw[Sx.dw];exact .inr ⟨rfl,cur.toList.drop (n*sz),by rw[WM];simpa using hc,by rw[WM];simpa using hs,hm⟩
   ·rw[Pn id b' h];exact jh.gV (r.fits h) Sx.fm (r.scopd h) (fun _ _=>rfl)
  ·intro id b' h;rw[cU]at h;split at h
   ·injection h with h;subst h;exact trivial
   ·exact jh.iV (by omega) (r.scopd h)
  ·intro id id' b1 b2 h1 h2 d1 d2 n1 n2 e2;rw[cU]at h1 h2;split at h1<;>split at h2
   ·omega
   ·rename_i e1 e3;subst e1;rw[Sx.dw]at e2 n1;rw[Pn id' b2 h2]at e2 n2;exact absurd e2.symm (OS id' b2 h2 n2)
   ·rename_i e1 e3;subst e3;rw[Sx.dw]at e2 n2;rw[Pn id b1 h1]at e2 n1;exact absurd e2 (OS id b1 h1 n1)
   ·rw[Pn id b1 h1]at e2 n1;rw[Pn id' b2 h2]at e2 n2;exact r.inj id id' b1 b2 h1 h2 d1 d2 n1 n2 e2
  ·intro id b' h n1;rw[cU]at h;split at h
   ·rename_i e2;subst e2;rw[Sx.dw];exact⟨Od,hgl⟩
   ·rw[Pn id b' h]at n1 ⊢;exact r.low id b' h n1
  ·intro lo hi Wc id b' h n1;rw[cU]at h;split at h
   ·rename_i e2;subst e2;rw[Sx.dw];exact hcut lo hi Wc g rfl
   ·rw[Pn id b' h]at n1 ⊢;exact r0.ji lo hi Wc id b' h n1
end Go.Sx
namespace Go.Ex
open Go Go.Sx Go.Proofs
end Go.Ex
namespace Go.Ex
open Go Go.Sx Go.Proofs
variable{l:List Ld}{S:Nat->Prop}{f:ed}
theorem Nm(OV:Em f.nodes.length l):Bl (df (mi f l) (-1)):=fun t=>by
 rcases aP t (df (mi f l) (-1)).length with h|h
 ·have h2:t<(mi f l).length:=by rw[df,aL]at h;exact h
  have h3:(mi f l)[t]∈mi f l:=aX h2;rw[getD_some (show (df (mi f l) (-1))[t]? =some ((mi f l)[t]* -1) by rw[df,aM,aB h2];rfl)];obtain⟨z,hz,Pf⟩:=aR.1 h3;have hb:=Bh OV l.length (Nat.le_refl _) z hz;have hl:=OV.len;rw[<-Pf,show(z:Rat)* -1=((-z:Int):Rat) by rw[Rat.intCast_neg];grind];exact Ib.int (by omega)
 ·rw[lF h];exact Ib.zero _
abbrev Nn(f:ed):Nat->Rat:=fun t=>(dI f).getD t 0
set_option maxRecDepth 8000 in
theorem Gb{w:World}{vn vb vs vl:Value}(hS:Old S w)(hf:dm w S vn vb vs f)(hl:jS w S vl l)(Su:eN f=0->yv f):
  dx PG N.pV #[.agg #[vn,vb,vs],vl] w (eH w fun v' w2=>(kN f l≠0∧v'= .tuple #[.slice none 0 0,.int .i64 (kN f l)])∨(kN f l=0∧((jG (cY f) (df (mi f l) (-1)) f.cols=none∧v'= .tuple #[.slice none 0 0,.int .i64 17])∨∃x vx,yo (cY f) f.cols (Nn f) (df (mi f l) (-1)) x∧v'= .tuple #[vx,.int .i64 0]∧cS w2 (Nf w w2) vx x))):=by
 have hw:=bR w;obtain⟨an,cn,ab,cb,aq,cq,rfl,rfl,rfl,RV,RN,Sg⟩:=hf.shape;obtain⟨al,cl,rfl,PY,Qo⟩:=hl.shape;obtain⟨e0,EE⟩:∃e,kN f l=e:=⟨_,rfl⟩
 refine tq (by simp) ?_;refine cB (cE hw (fun _ w' v w2=>v= .int .i64 e0) (fun O w' r=>(zw (oS hS r) (hf.cC (kS hw r hS)) (hl.cC (kS hw r hS))).mono fun _ _ ⟨v2,e1,e2,e3⟩=>⟨v2,e1,e2,by rw[e3,EE]⟩) ?_);rintro O _ _ _ OZ r he hw h_ rfl;refine dB.mk ?_ ?_<;>intro he
 ·have he:e0≠0:=by simpa using he
  exact rtn hw fun ρe we re=>.inl ⟨by rw[EE];exact he,by rw[EE];rfl⟩
 have he:e0=0:=by simpa using he
 have Ur:kN f l=0:=by rw[EE,he]
 obtain⟨PT,Sb⟩:=sd Ur;have Pw:=Su PT;have RD:=Pw.toFrS;have Sb:=MV Sb;have hc18:=RD.Nv;have hr12:=RD.OJ;have htl:=oA f;have hlen:=mA f;have hn4:=RD.n4;have OV:=xd PT;have hvl:=Er f l;have hc0:f.cols=f.bars.length+f.cM.length:=rfl;refine cH hτ dN [.x 0,.x 1,.x 2,.x 3,.x 4,.x 5,.x 6,.x 7,.x 8,.x 9] (by kernel_rfl) (by kernel_rfl) ?_;refine cE hw (fun _ w' v w2=>cS w2 (Nf w' w2) v (mi f l)∧∀q∈mi f l,rl q<=1) (fun O w' r=>(Io (oS hS r) (hl.cC (kS hw r hS)) RD.n Sb rfl rfl).mono fun _ _ ⟨v2,e1,e2,e3,e4⟩=>⟨v2,e1,e2,cS.cF e3.c fun g hg=>hg.new,e4⟩) ?_;rintro O _ _ _ OU r he hw h_ ⟨hn,hvq⟩;have hP:=cS.dD (S:=FF) hn r.bz (mN h_);obtain⟨ap,cp,rfl,-,-⟩:=eD.shape hP;rw[hvl];refine cI (Φ:=fun _ w' v w2=>(jG (cY f) (df (mi f l) (-1)) f.cols=none∧v= .tuple #[.slice none 0 0,.bool false])∨∃x vx,yo (cY f) f.cols (Nn f) (df (mi f l) (-1)) x∧v= .tuple #[vx,.bool true]∧cS w2 (Nf w' w2) vx x) (fun O w' r=>Iu (S:=fun g=>S g∨Cf w OU g) (fun g hg=>hg.elim (oS hS r g) (Rel.old r (bw w) g)) (dm.cF (hf.cC (kS hw r hS)) fun g hg=>.inl hg) PT Pw (cS.cF (by have:=cS.rel hP r (bw w);rw[hvl]at this;exact this) fun g hg=>.inr hg) hvl (fun q hq=>by have:=hvq q hq;omega) (Nm Sb)) ?_;rintro O PX v3 PW r he hb (⟨Rw,rfl⟩|⟨x,vx,hx,rfl,hn⟩)
 ·replace hw:=hw.tr hb;exact rtn hw fun ρe we re=>.inr ⟨Ur,.inl ⟨Rw,rfl⟩⟩
 replace hw:=hw.tr hb;have hX:=cS.dD (S:=FF) hn r.bz (iv:=(PX.heap.size,PW.heap.size)::OU) aG;generalize (PX.heap.size,PW.heap.size)::OU=ivx at*
 obtain⟨ax,cx,rfl,-,-⟩:=eD.shape hX;exact rtn hw fun ρe we re=>.inr ⟨Ur,.inr ⟨x,_,hx,rfl,cS.out hX re (bw w)⟩⟩
end Go.Ex
namespace Go.Ex
variable{f:ed}
def Le(w:Nat->Rat)(e:Nat->Nat->Rat)(N i k:Nat):Rat:=cQ (fun l=>w l*(e l i*e l k)) N
def wv(e:Nat->Nat->Rat)(d:Nat->Nat)(c:Nat->Rat)(n l:Nat):Rat:=cQ (fun i=>c i*e l (d i)) n
section
variable{w:Nat->Rat}{e:Nat->Nat->Rat}{c:Nat->Rat}{d:Nat->Nat}{N n:Nat}
theorem KI:qf (fun i k=>Le w e N (d i) (d k)) c n=cQ (fun l=>w l*(wv e d c n l*wv e d c n l)) N:=by
 unfold qf;rw[cG (g:=fun i=>cQ (fun l=>c i*(w l*e l (d i)*wv e d c n l)) N) fun i _=>?_,mx]
 ·refine cG fun l _=>?_;rw[cG (g:=fun i=>(c i*e l (d i))*(w l*wv e d c n l)) fun i _=>by grind,ko];show wv e d c n l*_=_;grind
 ·rw[dY];congr 1;rw[cG (g:=fun k=>cQ (fun l=>w l*e l (d i)*(c k*e l (d k))) N) fun k _=>?_,mx]
  ·exact cG fun l _=>dY ..
  ·unfold Le;rw[<-ko];exact cG fun l _=>by grind
theorem EM(i k:Nat):Le w e N i k=Le w e N k i:=cG fun l _=>by grind
theorem NW(m m':Mx):qf (fun i k=>m i k+m' i k) c n=qf m c n+qf m' c n:=by
 unfold qf;rw[<-fK];refine cG fun i _=>?_;rw[cG (g:=fun j=>m i j*c j+m' i j*c j) fun j _=>by grind,fK];grind
end
def kf(f:ed)(r:Nat):Bool:=f.cM.any fun s=>decide (dP s=r)&&decide (s.2.2=0)
def dy(f:ed):List Nat:=(List.range (3*f.nodes.length)).filter fun r=> !kf f r
def fa(f:ed)(i:Nat):Nat:=(dy f).getD i 0
theorem MF{i:Nat}(h:i<(dy f).length):fa f i<3*f.nodes.length∧kf f (fa f i)=false:=by
 have h1:fa f i∈dy f:=by
  unfold fa;rw[List.getD,aB h];exact aX h
 unfold dy at h1;rw[List.mem_filter,List.mem_range]at h1;exact⟨h1.1,by simpa using h1.2⟩
theorem MG{i k:Nat}(hi:i<(dy f).length)(hk:k<(dy f).length)(e:fa f i=fa f k):i=k:=by
 have h1:(dy f).Nodup:=List.nodup_range.filter _;unfold fa at e;rw[List.getD,aB hi,List.getD,aB hk]at e;have h2:=List.pairwise_iff_getElem.1 h1;rcases bp i k with g|g|g
 ·exact absurd e (h2 i k hi hk g)
 ·exact g
 ·exact absurd e.symm (h2 k i hk hi g)
def l8(f:ed)(l r:Nat):Rat:=(if (r:Int)=3*(f.bars.getD (l / 3) (0,0,0)).2.1+(l % 3:Nat)then 1 else 0)-if(r:Int)=3*(f.bars.getD (l / 3) (0,0,0)).1+(l % 3:Nat)then 1 else 0
def mc(f:ed)(l r:Nat):Rat:=cW (cY f) r l
def wE(f:ed)(l:Nat):Rat:=((dI f).getD l 0)⁻¹
def IW(f:ed)(x:List Rat)(r s:Nat):Rat:=Le (wE f) (mc f) f.cols r s+Le (fun l=>x.getD (l / 3) 0) (l8 f) (3*f.bars.length) r s
def fE(f:ed)(x:List Rat):List (List Rat):=(dy f).map fun r=>(dy f).map fun s=>IW f x r s
section
variable{f:ed}{x y z:List Rat}
theorem jH:(fE f x).length=(dy f).length:=aL ..
theorem sO:gh (dy f).length (fE f x):=fun r hr=>by
 obtain⟨_,_,rfl⟩:=aR.1 hr;exact aL ..
theorem nA{i k:Nat}(hi:i<(dy f).length)(hk:k<(dy f).length):cW (fE f x) i k=IW f x (fa f i) (fa f k):=by
 unfold cW fE fa;simp only[List.getD,aM,aB hi,aB hk,bY,Option.getD_some]
theorem KJ(r s:Nat):IW f x r s=IW f x s r:=by unfold IW;rw[EM,EM (i:=r)]
theorem IX:sI (fE f x)↔Qp (fun i k=>IW f x (fa f i) (fa f k)) (dy f).length:=by
 rw[Ji,jH];have hs:Sy (cW (fE f x)) (dy f).length:=fun i j hi hj=>by rw[nA hi hj,nA hj hi,KJ]
 have hc:Qp (cW (fE f x)) (dy f).length↔Qp (fun i k=>IW f x (fa f i) (fa f k)) (dy f).length:=by
  constructor<;>intro h c hc<;>have h1:=h c hc
  ·rwa [Dr fun i j hi hj=>nA hi hj]at h1
  ·rwa [<-Dr fun i j hi hj=>nA hi hj]at h1
 rw[<-hc];exact⟨fun h=>OD _ _ hs h.2,fun h=>⟨hs,OE _ _ hs h⟩⟩
theorem NX(c:Nat->Rat)(n:Nat):qf (fun i k=>IW f x (fa f i) (fa f k)) c n=cQ (fun l=>wE f l*(wv (mc f) (fa f) c n l*wv (mc f) (fa f) c n l)) f.cols+cQ (fun l=>x.getD (l / 3) 0*(wv (l8 f) (fa f) c n l*wv (l8 f) (fa f) c n l)) (3*f.bars.length):=by
 unfold IW;rw[NW (fun i k=>Le (wE f) (mc f) f.cols (fa f i) (fa f k)) fun i k=>Le (fun l=>x.getD (l / 3) 0) (l8 f) (3*f.bars.length) (fa f i) (fa f k),KI,KI]
theorem Fx(hx:sI (fE f x))(hz:sI (fE f z)){p q:Rat}(hp:0<p)(hq:0<=q)(hy:∀i,y.getD i 0=p*x.getD i 0+q*z.getD i 0)(h1:p+q=1):sI (fE f y):=by
 rw[IX]at hx hz ⊢;intro c hc;have a:=hx c hc;have b:=hz c hc;rw[NX]at a b ⊢;obtain⟨P,hP⟩:∃P,cQ (fun l=>wE f l*(wv (mc f) (fa f) c (dy f).length l*wv (mc f) (fa f) c (dy f).length l)) f.cols=P:=⟨_,rfl⟩
 obtain⟨L,hL⟩:∃L,wv (l8 f) (fa f) c (dy f).length=L:=⟨_,rfl⟩
 rw[hP,hL]at a b ⊢;rw[cG (g:=fun l=>p*(x.getD (l / 3) 0*(L l*L l))+q*(z.getD (l / 3) 0*(L l*L l))) fun l _=>by rw[hy];grind,fK,dY,dY];obtain⟨X,hX⟩:∃X,cQ (fun l=>x.getD (l / 3) 0*(L l*L l)) (3*f.bars.length)=X:=⟨_,rfl⟩
 obtain⟨Z,hZ⟩:∃Z,cQ (fun l=>z.getD (l / 3) 0*(L l*L l)) (3*f.bars.length)=Z:=⟨_,rfl⟩
 rw[hX]at a ⊢;rw[hZ]at b ⊢;have k1:=Rat.mul_pos hp a;have k2:=Rat.mul_nonneg hq (Rat.le_of_lt b);have e:P+(p*X+q*Z)=p*(P+X)+q*(P+Z):=by
  rw[show P=(p+q)*P by rw[h1,bm]];grind
 rw[e];grind
end
end Go.Ex
