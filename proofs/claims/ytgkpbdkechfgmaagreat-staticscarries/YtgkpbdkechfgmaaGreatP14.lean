/- Texts L44 to X188: lemmas, each with its conditions. -/
import Derived.Test.YtgkpbdkechfgmaaGreatP13
namespace Go.Ex
variable{d:Int}{M:List (List Rat)}{l x0 φ:List Rat}{K n:Nat}{y:Nat->Rat}{D:Rat}{f:fA}
theorem qo{a b:Rat}(ha:a≠0)(hb:b≠0):a*b≠0:=fun e=>by
 rcases Rat.mul_eq_zero.1 e with h|h
 ·exact ha h
 ·exact hb h
def Den(K:Nat)(D:Rat)(l:List Rat):Prop:=D≠0∧Ib K D∧∀t,Ib K (D*l.getD t 0)
def Gd(K:Nat)(D:Rat)(M:List (List Rat)):Prop:=D≠0∧Ib K D∧∀k t,Ib K (D*dD M k t)
theorem Den.rl(h:Den K D l):∀q∈l,rl q<=ln K:=fun q hq=>by
 obtain⟨j,hj⟩:=aS hq;have:=tX h.1 h.2.1 (h.2.2 j)
 rwa [List.getD,hj]at this
theorem Gd.rl(h:Gd K D M):∀r∈M,∀q∈r,rl q<=ln K:=fun r hr q hq=>by
 obtain⟨k,hk⟩:=aS hr;obtain⟨j,hj⟩:=aS hq;have:=tX h.1 h.2.1 (h.2.2 k j)
 rwa [dD,show M.getD k []=r by rw[List.getD,hk];rfl,List.getD,hj]at this
theorem jI{t:Nat}(h:l.length<=t):l.getD t 0=0:=by rw[List.getD,List.getElem?_eq_none h];rfl
theorem M8{k t:Nat}(hM:fZ n M)(h:n<=t):dD M k t=0:=by
 rw[dD];rcases aP k M.length with hk|hk
 ·exact jI (by rw[hM.getD hk];exact h)
 ·rw[show M.getD k []=[] by rw[List.getD,List.getElem?_eq_none hk];rfl];rfl
theorem KX{k t:Nat}(h:M.length<=k):dD M k t=0:=by
 rw[dD,show M.getD k []=[] by rw[List.getD,List.getElem?_eq_none h];rfl];rfl
section
variable{M:List (List Rat)}{n B:Nat}{b:List Rat}
theorem Hk(hM:fZ n M)(hW:BF M n B)(hB:1<=B){c:Nat}(hc:c<=n):∃D:Rat,D≠0∧Ib (fB B M.length) D∧∀i t,i<(cN M c).2.length->t<n->Ib (fB B M.length) (D*dD (cN M c).1 i t):=by
 obtain⟨σ,Z,h⟩:=pZ hM hW c hc;have hle:=h.red.2.1;rw[h.len]at hle;have hm:=ql hB hle;exact⟨_,h.zQ.nz,h.zQ.den.mono hm,fun i t hi ht=>(h.zQ.ent hi ht).mono hm⟩
theorem Cx(hM:fZ n M)(hW:BF M n B)(hB:1<=B):∃D,Gd (fB B M.length) D (cV M n):=by
 obtain⟨D,h0,hD,hE⟩:=Hk hM hW hB (aF n);obtain⟨r1,r2,r3,r4,r5⟩:=dc hM n (aF _);have Qz:=iD M n;refine⟨D,h0,hD,fun k t=>?_⟩;rcases aP k (cV M n).length with hk|hk
 ·rcases aP t n with ht|ht
  ·have hf:=lO.1 (pY (by rw[<-lV];exact hk));rw[dD,zT M n hk];generalize (jC (cN M n).2 n).getD k 0=c at hf;by_cases hp:t∈(cN M n).2
   ·obtain⟨j,hj,rfl⟩:=sP hp;rw[oE (F:=gI (cN M n).1 (cN M n).2 n c) (f:=fun i=> -(dD (cN M n).1 i c)) (fun i=>gz _ _ n c i) (kD _ _ n c) Qz.2.1 r4 _ (aF _) hj,show D* -(dD (cN M n).1 j c)= -(D*dD (cN M n).1 j c) by grind];exact(hE j c hj hf.1).neg
   ·rw[pX hp hf.1];split
    ·rw[Rat.mul_one];exact hD
    ·rw[bC];exact Ib.zero _
  ·rw[M8 (jy M n) ht,bC];exact Ib.zero _
 ·rw[KX hk,bC];exact Ib.zero _
theorem zW{x:List Rat}(hM:fZ n M)(hW:BF (dH M b) (n+1) B)(hB:1<=B)(h:ed M b n=some x):∃D,Den (fB B M.length) D x:=by
 obtain⟨D,h0,hD,hE⟩:=Hk (gH (b:=b) hM) hW hB (Nat.le_succ n);rw[eH]at hD hE;obtain⟨r1,r2,r3,r4,r5⟩:=dc (gH (b:=b) hM) n (Nat.le_succ _);have Qz:=iD (dH M b) n;unfold ed at h;dsimp only at h;split at h
 ·injection h with h;subst h;refine⟨D,h0,hD,fun t=>?_⟩;by_cases hp:t∈(cN (dH M b) n).2
  ·obtain⟨j,hj,rfl⟩:=sP hp;rw[oE (F:=fy (cN (dH M b) n).1 (cN (dH M b) n).2 n) (f:=fun i=>dD (cN (dH M b) n).1 i n) (fun i=>gV _ _ n i) (jH _ _ n) Qz.2.1 r4 _ (aF _) hj];exact hE j n hj (by omega)
  ·rw[tQ hp,bC];exact Ib.zero _
 ·cases h
end
def mM(φ:List Rat):Nat->Rat
 |0=>1
 |t+1=>mM φ t*((φ.getD t 0).den:Rat)
theorem Eo(φ:List Rat):∀k,mM φ k≠0
 |0=>by show(1:Rat)≠0;decide
 |k+1=>qo (Eo φ k) (by have:=(φ.getD k 0).den_nz;exact_mod_cast this)
theorem zX{φ:List Rat}{B:Nat}(h:∀t,(φ.getD t 0).den<=B):∀k,Ib (B^k) (mM φ k)
 |0=>Ib.one (aF _)
 |k+1=>by
  rw[Nat.pow_succ];exact(zX h k).mul ⟨((φ.getD k 0).den:Int),rfl,by rw[Int.natAbs_natCast];exact h k⟩
theorem Hl(q:Rat):(q.den:Rat)*q=(q.num:Rat):=by
 have h:=Rat.num_divInt_den q;have h0:((q.den:Int):Rat)≠0:=by have:=q.den_nz;exact_mod_cast this
 rw[Rat.divInt_eq_div]at h;have h1:(q.num:Rat) / ((q.den:Int):Rat)*((q.den:Int):Rat)=(q.num:Rat):=Rat.div_mul_cancel h0;rw[h,bg]at h1;exact h1
theorem Bt{φ:List Rat}{B:Nat}(h:∀t,(φ.getD t 0).den<=B)(hn:∀t,(φ.getD t 0).num.natAbs<=B)(hB:1<=B):∀k t,t<k->Ib (B^k) (mM φ k*φ.getD t 0)
 |0,t,ht=>by omega
 |k+1,t,ht=>by
  rw[mM,Nat.pow_succ];rcases aP t k with h1|h1
  ·rw[show ∀a b c:Rat,a*b*c=(a*c)*b from fun a b c=>by grind];exact(Bt h hn hB k t h1).mul ⟨((φ.getD k 0).den:Int),rfl,by rw[Int.natAbs_natCast];exact h k⟩
  ·rw[show t=k by omega,Rat.mul_assoc,Hl];exact(zX h k).mul (Ib.int (hn k))
theorem lW{l:Nat}:1<=wt l:=yp l
theorem Hm{q:Rat}{l:Nat}(h:rl q<=l):q.num.natAbs<wt l∧q.den<wt l:=⟨gB.1 (aX (fm q) h),gB.1 (aX (Nq q) h)⟩
theorem KY(l k:Nat):wt l^k=wt (l*k):=by rw[uw,uw,<-Nat.pow_mul,bh]
theorem KZ(hl:φ.length<=n)(h:∀q∈φ,rl q<=3):Den (wt (3*n)) (mM φ n) φ:=by
 have h3:∀t,rl (φ.getD t 0)<=3:=fun t=>by
  rw[List.getD]
  cases ht:φ[t]? with
  |none=>show rl 0<=3;decide
  |some q=>exact h q (aC ht)
 have h1:∀t,(φ.getD t 0).den<=wt 3:=fun t=>Nat.le_of_lt (Hm (h3 t)).2;have h2:∀t,(φ.getD t 0).num.natAbs<=wt 3:=fun t=>Nat.le_of_lt (Hm (h3 t)).1;refine⟨Eo φ n,by rw[<-KY];exact zX h1 n,fun t=>?_⟩;rcases aP t n with ht|ht
 ·rw[<-KY];exact Bt h1 h2 lW n t ht
 ·rw[jI (by omega),bC];exact Ib.zero _
theorem getD_some{α:Type}{l:List α}{i:Nat}{x d:α}(h:l[i]? =some x):l.getD i d=x:=by rw[List.getD,h];rfl
structure Cy(M:List (List Rat))(n:Nat)(φ:Nat->Rat):Prop where
 len:fZ n M
 pos:∀t,t<n->0<=φ t
 aAY:∀x:Nat->Rat,(∀j,j<M.length->mulR M n x j=0)->cZ (fun t=>φ t*(x t*x t)) n=0->∀t,t<n->x t=0
theorem Ep(M:List (List Rat))(n:Nat)(x y:Nat->Rat)(j:Nat):mulR M n (fun t=>x t+y t) j=mulR M n x j+mulR M n y j:=by
 unfold mulR;rw[<-gJ];exact cL fun t _=>by grind
theorem Ka(M:List (List Rat))(n:Nat)(x:Nat->Rat)(c:Rat)(j:Nat):mulR M n (fun t=>c*x t) j=c*mulR M n x j:=by
 unfold mulR;rw[<-eR];exact cL fun t _=>by grind
theorem Er(M:List (List Rat))(n:Nat)(S:Mx)(c:Nat->Rat)(j s:Nat):mulR M n (fun t=>cZ (fun k=>c k*S k t) s) j=cZ (fun k=>c k*mulR M n (S k) j) s:=by
 induction s with
 |zero=>exact(cL (g:=fun _=>0) fun t _=>bC _).trans (dm n)
 |succ s ih=>
  show mulR M n (fun t=>cZ (fun k=>c k*S k t) s+c s*S s t) j=cZ (fun k=>c k*mulR M n (S k) j) s+c s*mulR M n (S s) j;rw[Ep,Ka,ih]
theorem sT{x:Nat->Rat}(h:∀t,t<n->x t=y t)(j:Nat):mulR M n x j=mulR M n y j:=cL fun t ht=>by rw[h t ht]
def uz(φ x y:Nat->Rat)(n:Nat):Rat:=cZ (fun t=>φ t*(x t*y t)) n
theorem tZ(φ x y:Nat->Rat)(n:Nat):uz φ x y n=uz φ y x n:=cL fun t _=>by grind
theorem Hn(φ x y z:Nat->Rat)(n:Nat):uz φ x (fun t=>y t+z t) n=uz φ x y n+uz φ x z n:=by
 unfold uz;rw[<-gJ];exact cL fun t _=>by grind
theorem ta(φ x:Nat->Rat)(S:Mx)(c:Nat->Rat)(n s:Nat):uz φ x (fun t=>cZ (fun k=>c k*S k t) s) n=cZ (fun k=>c k*uz φ x (S k) n) s:=by
 unfold uz;rw[cL (g:=fun t=>cZ (fun k=>c k*(φ t*(x t*S k t))) s) fun t _=>by rw[<-eR,<-eR];exact cL fun k _=>by grind,lP];exact cL fun k _=>by rw[eR]
theorem vA{φ x x' y':Nat->Rat}(h1:∀t,t<n->x t=x' t)(h2:∀t,t<n->y t=y' t):uz φ x y n=uz φ x' y' n:=cL fun t ht=>by rw[h1 t ht,h2 t ht]
section
variable{M:List (List Rat)}{n:Nat}{φ:Nat->Rat}{b:List Rat}
def Ho(M:List (List Rat))(n:Nat)(φ:Nat->Rat)(i j:Nat):Rat:=uz φ (dD (cV M n) i) (dD (cV M n) j) n
theorem Cy.Kb(h:Cy M n φ){c:Nat->Rat}(hc:∀i,i<(cV M n).length->cZ (fun j=>Ho M n φ i j*c j) (cV M n).length=0):∀i,i<(cV M n).length->c i=0:=by
 obtain⟨y,hy⟩:∃y:Nat->Rat,y=fun t=>cZ (fun k=>c k*dD (cV M n) k t) (cV M n).length:=⟨_,rfl⟩
 have UK:∀j,j<M.length->mulR M n y j=0:=fun j hj=>by
  rw[hy,Er,cL (g:=fun _=>0) fun k hk=>by rw[p9 h.len hk j hj,bC],dm]
 have hw:∀i,i<(cV M n).length->uz φ (dD (cV M n) i) y n=0:=fun i hi=>by
  rw[hy,ta,<-hc i hi];exact cL fun k _=>bg _ _
 have h0:uz φ y y n=0:=by
  have:uz φ y y n=cZ (fun k=>c k*uz φ y (dD (cV M n) k) n) (cV M n).length:=by
   rw[<-ta,<-hy]
  rw[this,cL (g:=fun _=>0) fun k hk=>by rw[tZ,hw k hk,bC],dm]
 exact Hj (M:=M) fun t ht=>by
  have:=h.aAY y UK h0 t ht;rw[hy]at this;exact this
theorem Cy.only(h:Cy M n φ){x:Nat->Rat}(hx:∀j,j<M.length->mulR M n x j=0)(hs:∀k,k<(cV M n).length->uz φ (dD (cV M n) k) x n=0):∀t,t<n->x t=0:=by
 obtain⟨c,hc⟩:=Cw h.len hx;have h0:uz φ x x n=0:=by
  rw[vA (x':=x) (fun _ _=>rfl) hc,ta,cL (g:=fun _=>0) fun k hk=>by rw[tZ,hs k hk,bC],dm]
 exact h.aAY x hx h0
def vB(k:Nat):List Rat:=List.replicate k 0
theorem pc(b:List Rat)(k j:Nat):(b++vB k).getD j 0=b.getD j 0:=by
 unfold vB;rcases aP j b.length with h|h
 ·rw[List.getD,aL h,<-List.getD]
 ·rw[jI h,List.getD,aN h,List.getElem?_replicate];split<;>rfl
structure lX(M:List (List Rat))(n:Nat)(φ:Nat->Rat)(b x:List Rat):Prop where
 len:x.length=n
 eq:∀j,j<M.length->mulR M n (fun t=>x.getD t 0) j=b.getD j 0
 st:∀k,k<(cV M n).length->uz φ (dD (cV M n) k) (fun t=>x.getD t 0) n=0
theorem Cy.one(h:Cy M n φ){x y:List Rat}(hx:lX M n φ b x)(hy:lX M n φ b y):x=y:=by
 refine fH 0 (by rw[hx.len,hy.len]) fun t ht=>?_;rw[hx.len]at ht
 have:=h.only (x:=fun t=>x.getD t 0-y.getD t 0) (fun j hj=>by rw[KU,hx.eq j hj,hy.eq j hj];grind) (fun k hk=>by
  rw[show (fun t=>x.getD t 0-y.getD t 0)=fun t=>x.getD t 0+(-1)*y.getD t 0 from funext fun t=>by grind,Hn,hx.st k hk];have h2:=hy.st k hk;unfold uz at h2 ⊢;rw[cL (f:=fun t=>φ t*(dD (cV M n) k t*(-1*y.getD t 0))) (g:=fun t=>(-1)*(φ t*(dD (cV M n) k t*y.getD t 0))) fun t _=>by grind,eR,h2]
  grind) t ht
 grind
end
theorem kO(x y:List Rat)(n:Nat):dP x y n=cZ (fun t=>x.getD t 0*y.getD t 0) n:=oH x y n
theorem nJ{a b:List Rat}{t:Nat}(ht:t<a.length):(fR a b).getD t 0=a.getD t 0*b.getD t 0:=by
 have h:=aB ht;rw[getD_some h];exact getD_some (by rw[fR,List.getElem?_mapIdx,h];rfl)
section
variable{M:List (List Rat)}{n:Nat}{fl b:List Rat}
theorem vC(M:List (List Rat))(n:Nat)(fl:List Rat){i j:Nat}(hi:i<(cV M n).length)(hj:j<(cV M n).length):dD (eW (cV M n) fl) i j=Ho M n (fun t=>fl.getD t 0) i j:=by
 have hr:=aB hi;have hs:=aB hj;have hl:((cV M n)[i]).length=n:=jy M n _ (aY hi);have h1:(eW (cV M n) fl)[i]? =some ((cV M n).map fun r=>dP (fR (cV M n)[i] fl) r (cV M n)[i].length):=by rw[eW,aM,hr];rfl
 have h2:((cV M n).map fun r=>dP (fR (cV M n)[i] fl) r (cV M n)[i].length)[j]? =some (dP (fR (cV M n)[i] fl) (cV M n)[j] (cV M n)[i].length):=by rw[aM,hs];rfl
 rw[dD,getD_some h1,getD_some h2,oH,hl];refine cL fun t ht=>?_;rw[nJ (by omega),dD,dD,getD_some hr,getD_some hs];grind
theorem oJ(st:List (List Rat))(fl:List Rat):fZ st.length (eW st fl):=fun r hr=>by
 obtain⟨s,hs,rfl⟩:=aU.1 hr;rw[aK]
theorem Es(M:List (List Rat))(n:Nat)(fl x:List Rat){i:Nat}(hi:i<(cV M n).length):(gh (cV M n) fl x).getD i 0= -(uz (fun t=>fl.getD t 0) (dD (cV M n) i) (fun t=>x.getD t 0) n):=by
 have hr:=aB hi;have hl:((cV M n)[i]).length=n:=jy M n _ (aY hi);have h1:(gh (cV M n) fl x)[i]? =some (-(dP (fR (cV M n)[i] fl) x (cV M n)[i].length)):=by rw[gh,aM,hr];rfl
 rw[getD_some h1,oH,hl];congr 1;refine cL fun t ht=>?_;rw[nJ (by omega),dD,getD_some hr];grind
theorem qp(st:List (List Rat))(c x:List Rat):∀i,(lQ st c x i).length=x.length
 |0=>rfl
 |i+1=>by rw[lQ,List.length_mapIdx,qp st c x i]
theorem zY(st:List (List Rat))(c x:List Rat){t:Nat}(ht:t<x.length):∀i,(lQ st c x i).getD t 0=x.getD t 0+cZ (fun k=>c.getD k 0*dD st k t) i
 |0=>(bW _).symm
 |i+1=>by
  have hl:t<(lQ st c x i).length:=by rw[qp];exact ht
  have ih:=zY st c x ht i;rw[getD_some (aB hl)]at ih;rw[getD_some (show (lQ st c x (i+1))[t]? =some ((lQ st c x i)[t]+c.getD i 0*(st.getD i []).getD t 0) by rw[lQ,List.getElem?_mapIdx,aB hl];rfl),ih,cZ,Rat.add_assoc];rfl
theorem Cy.force(h:Cy M n fun t=>fl.getD t 0)(h0:ed M b n=some x0):∃c,ed (eW (cV M n) fl) (gh (cV M n) fl x0) (cV M n).length=some c∧c.length=(cV M n).length∧
  lX M n (fun t=>fl.getD t 0) b (lQ (cV M n) c x0 (cV M n).length):=by
 obtain⟨SH,RM⟩:=jx h.len h0;have hG:=oJ (cV M n) fl;have hGl:(eW (cV M n) fl).length=(cV M n).length:=aK _;have hc:∃c,ed (eW (cV M n) fl) (gh (cV M n) fl x0) (cV M n).length=some c:=by
  cases e:ed (eW (cV M n) fl) (gh (cV M n) fl x0) (cV M n).length with
  |some c=>exact⟨c,rfl⟩
  |none=>
   obtain⟨y,y1,y2⟩:=lT hG e;rw[hGl]at y1 y2;have hy:=h.Kb (c:=y) fun i hi=>Eq.trans (cL fun j hj=>by rw[vC M n fl hj hi,bg];unfold Ho;rw[tZ]) (y1 i hi);exact absurd (by rw[cL (g:=fun _=>0) fun j hj=>by rw[hy j hj,bE],dm]) y2
 obtain⟨c,hc⟩:=hc;obtain⟨c1,c2⟩:=jx hG hc;refine⟨c,hc,c1,by rw[qp];exact SH,fun j hj=>?_,fun k hk=>?_⟩
 ·rw[sT (y:=fun t=>x0.getD t 0+cZ (fun k=>c.getD k 0*dD (cV M n) k t) (cV M n).length) fun t ht=>zY _ c x0 (by omega) _,Ep,Er,RM j hj,cL (g:=fun _=>0) fun k hk=>by rw[p9 h.len hk j hj,bC],dm,bW]
 ·rw[vA (x':=dD (cV M n) k) (y':=fun t=>x0.getD t 0+cZ (fun k=>c.getD k 0*dD (cV M n) k t) (cV M n).length) (fun _ _=>rfl) fun t ht=>zY _ c x0 (by omega) _,Hn,ta];have h2:=c2 k (by omega);rw[Es M n fl x0 hk]at h2;unfold mulR at h2;rw[cL (g:=fun t=>c.getD t 0*uz (fun t=>fl.getD t 0) (dD (cV M n) k) (dD (cV M n) t) n) fun t ht=>by rw[vC M n fl hk ht,bg];rfl]at h2;rw[h2];grind
end
def ez(M:List (List Int))(r c:Nat):Int:=(M.getD r []).getD c 0
theorem getD_set_ne{α:Type}{l:List α}{i j:Nat}{x d:α}(h:i≠j):(l.set i x).getD j d=l.getD j d:=by rw[List.getD,aZ h,<-List.getD]
theorem mO{α:Type}{l:List α}{i:Nat}{x d:α}(h:i<l.length):(l.set i x).getD i d=x:=by rw[List.getD,aV h];rfl
theorem jJ{M:List (List Int)}{r c r' c':Nat}(h:r'≠r∨c'≠c):ez (putAt M r c d) r' c'=ez M r' c':=by
 unfold ez putAt;by_cases h1:r'=r
 ·subst h1;have h2:c≠c':=h.elim (fun h=>absurd rfl h) fun h=>h.symm;rcases aP r' M.length with h3|h3
  ·rw[mO h3,getD_set_ne h2]
  ·rw[List.set_eq_of_length_le h3]
 ·rw[getD_set_ne (Ne.symm h1)]
theorem Et{M:List (List Int)}{r c:Nat}(hr:r<M.length)(hc:c<(M.getD r []).length):ez (putAt M r c d) r c=d:=by
 unfold ez putAt;rw[mO hr,mO hc]
theorem gp(M:List (List Int))(r c:Nat)(d:Int):tW M r c d=putAt M r c (ez M r c+d):=rfl
theorem Cz{i:Nat}{b:Int×Int×Rat}(hb:f.bars[i]? =some b):f.bars.getD i (0,0,0)=b:=by rw[List.getD,hb];rfl
theorem vD{f:fA}{M:List (List Int)}{i c r:Nat}(h:c≠i):∀k,ez (eV f M i k) r c=ez M r c
 |0=>rfl
 |k+1=>by
  rw[eV];rw[gp,jJ (.inr h),gp,jJ (.inr h)];exact vD h k
theorem mP(f:fA){r c:Nat}:∀i,i<=c->ez (du f i) r c=0
 |0,_=>by
  unfold ez du;rcases aP r (3*f.nodes.length)with h|h
  ·rw[show (List.replicate (3*f.nodes.length) (List.replicate f.cols (0:Int))).getD r []=List.replicate f.cols 0 by rw[List.getD,List.getElem?_replicate,if_pos h];rfl,List.getD,List.getElem?_replicate];split<;>rfl
  ·rw[show (List.replicate (3*f.nodes.length) (List.replicate f.cols (0:Int))).getD r []=[] by rw[List.getD,List.getElem?_replicate,aJ (by omega)];rfl];rfl
 |i+1,h=>by rw[du,vD (by omega)];exact mP f i (by omega)
theorem toNat_add{a:Int}{k ka:Nat}(h:a=ka):(3*a+(k:Int)).toNat=3*ka+k:=by omega
theorem Bu{f:fA}{M:List (List Int)}{i r ka kb:Nat}{b:Int×Int×Rat}(hb:f.bars[i]? =some b)(ea:b.1=ka)(eb:b.2.1=kb):∀k,k<=3->k<=r % 3->ez (eV f M i k) r i=ez M r i
 |0,_,_=>rfl
 |k+1,h3,h=>by
  rw[eV];rw[Cz hb,toNat_add ea,toNat_add eb,gp,jJ (.inl (by omega)),gp,jJ (.inl (by omega))];exact Bu hb ea eb k (by omega) (by omega)
theorem oK{i r ka kb k:Nat}{b:Int×Int×Rat}(hb:f.bars[i]? =some b)(ea:b.1=ka)(eb:b.2.1=kb)(hk:k<=3)(h:k<=r % 3):ez (eV f (du f i) i k) r i=0:=by
 rw[Bu hb ea eb k hk h];exact mP f i (aF _)
theorem zZ{f:fA}{r c:Nat}(h:c<f.bars.length):∀k,ez (fG f k) r c=ez (du f f.bars.length) r c
 |0=>rfl
 |k+1=>by
  rw[fG];rw[jJ (.inr (by omega))];exact zZ h k
theorem wj{f:fA}{r i:Nat}:∀k,k<=i->ez (fG f k) r (f.bars.length+i)=0
 |0,_=>mP f _ (by omega)
 |k+1,h=>by
  rw[fG];rw[jJ (.inr (by omega))];exact wj k (by omega)
def gi(s:Int×Int×Rat):Nat:=(3*s.1+s.2.1).toNat
theorem Bv{f:fA}(hw:∀k,∀l∈fG f k,l.length=f.cols)(hlen:∀k,(fG f k).length=3*f.nodes.length)(OE:∀s∈f.cX,gi s<3*f.nodes.length){r i:Nat}{s:Int×Int×Rat}(hs:f.cX[i]? =some s):
  ∀k,i<k->ez (fG f k) r (f.bars.length+i)=if r=gi s then 1 else 0
 |0,h=>by omega
 |k+1,h=>by
  rw[fG];rcases aP i k with h1|h1
  ·rw[jJ (.inr (by omega))];exact Bv hw hlen OE hs k h1
  ·have:i=k:=by omega
   subst this;have hg:f.cX.getD i (0,0,0)=s:=by rw[List.getD,hs];rfl
   have hsr:=OE s (aC hs);have hi:=(aD.1 hs).1;rw[hg];by_cases h2:r=gi s
   ·rw[if_pos h2,h2];have hm:gi s<(fG f i).length:=by rw[hlen];exact hsr
    exact Et hm (by
     show f.bars.length+i<((fG f i).getD (gi s) []).length;rw[List.getD,aB hm];show f.bars.length+i<((fG f i)[gi s]).length;rw[hw i _ (aY hm),fA.cols]
     omega)
   ·rw[aJ h2];exact(jJ (r:=gi s) (.inl h2)).trans (wj i (aF _))
end Go.Ex
namespace Go.Ex
open Go Go.Sx Go.Proofs
end Go.Ex
namespace Go.Sx
open Go Go.Ex Go.Proofs
variable{cs:List Value}{O:Nat->Sx.dx}
theorem Rel.LX{H:Hp}{nx:Nat}{iv:Iv}{B:Nat}{w w':World}(r:Rel H nx iv B w O w'){id t m sz:Nat}(h:dF H id=some (.vec t sz cs))(hm:cs.length=m*sz)(Ra:m<=maxLen)(hs:0<sz)(h1:∀u∈cs,u.oneCell'=true):
  ij w' (Cv FF B (js (O id) iv)) sz ((At.w id m).den O) cs m:=by
 rcases r.fits h with⟨hn,rfl⟩|⟨hn,spare,h2,h3,h4⟩
 ·have Rp:m=0:=by
   rcases bH m with h|h
   ·exact h
   ·have:=Nat.mul_pos h hs;simp at hm;omega
  subst Rp;have Qo:(At.w id 0).den O= .slice none 0 0:=by simp[At.den,hn]
  rw[Qo];exact⟨aQ _,by simp,by simp,none,0,rfl,aF _,fun j u h=>by cases h⟩
 ·have Qo:(At.w id m).den O= .slice (some ⟨(O id).g,0,none⟩) m (O id).cap:=by simp[At.den,hn]
  rw[Qo];have PB:=r.low id _ h hn;refine⟨Ra,hm,h1,_,_,rfl,?_,fun j u hu=>⟨_,rfl,.inr ⟨PB.1,_,_,ET hn,aF _,bZ _⟩,?_⟩⟩
  ·rw[List.length_append,hm]at h3;exact bo (show m*sz<=(O id).cap*sz by omega) hs
  ·rw[dV,cell_of h2,aR,aL (aD.1 hu).1];exact hu
end Go.Sx
namespace Go.Ex
open Go Go.Sx Go.Proofs
variable{S:Nat->Prop}{f:fA}
theorem Mr{i k ka kb:Nat}{b:Int×Int×Rat}{d:Int}{la lb:List Int}(hb:f.bars[i]? =some b)(ea:b.1=ka)(eb:b.2.1=kb)(Pf:ka≠kb)(hk:k<3)(hd:(sS f b).getD k 0=d)
  (PW:(eV f (du f i) i k)[3*ka+k]? =some la) (Od:((eV f (du f i) i k).set (3*ka+k) (la.set i d))[3*kb+k]? =some lb):
  ((eV f (du f i) i k).set (3*ka+k) (la.set i d)).set (3*kb+k) (lb.set i (-d))=eV f (du f i) i (k+1):=by
 have z1:=oK (r:=3*ka+k) hb ea eb (show k<=3 by omega) (by omega);have z2:=oK (r:=3*kb+k) hb ea eb (show k<=3 by omega) (by omega);have hga:(eV f (du f i) i k).getD (3*ka+k) []=la:=by rw[List.getD,PW];rfl
 have hgb:((eV f (du f i) i k).set (3*ka+k) (la.set i d)).getD (3*kb+k) []=lb:=by rw[List.getD,Od];rfl
 have e1:tW (eV f (du f i) i k) (3*ka+k) i d=(eV f (du f i) i k).set (3*ka+k) (la.set i d):=by
  rw[gp,z1,Int.zero_add,putAt,hga]
 rw[eV];rw[Cz hb,hd,toNat_add ea,toNat_add eb,e1,tW,hgb];have z3:lb.getD i 0=0:=by
  rw[<-hgb,getD_set_ne (show 3*ka+k≠3*kb+k by omega)];exact z2
 rw[z3,Int.zero_add]
set_option maxHeartbeats 2000000 in
theorem wE{w:World}{vn vb vs:Value}(hS:Old S w)(hf:dU w S vn vb vs f)(OP:eL f=0):
  eA PG N.tk #[.agg #[vn,vb,vs]] w (eF w fun v' w2=>mG w2 (Nf w w2) v' (gk f)∧FW (gk f) 2000000):=by
 have hw:=bR w;have OF:=jS OP;obtain⟨an,cn,ab,cb,aq,cq,rfl,rfl,rfl,Q1,Qh,RN⟩:=hf.shape;obtain⟨TR,SY,SZ⟩:=And.intro OF.n (And.intro OF.b OF.s);have Px:f.cols=f.bars.length+f.cX.length:=rfl;obtain⟨m,hm⟩:∃m,3*f.nodes.length=m:=⟨_,rfl⟩
 refine xc (by simp) ?_
 refine⟨Nat×List Value×World×Iv,fun z=>⟨[(1,pP 0 0),(3,.o (.w 1 z.2.1.length)),(4,iN z.1)],[(1,.vec T.Lint 1 z.2.1),(0,.box T.Frame [.v (.slice an f.nodes.length cn),.v (.slice ab f.bars.length cb),.v (.slice aq f.cX.length cq)])],2,z.2.2.2,z.2.2.1⟩,fun z=>m-z.1,
  fun z=>z.1<=m∧z.2.1.length=z.1∧eE w.heap.size w z.2.2.1∧gw z.2.2.1 w.heap.size z.2.2.2 z.2.1 f.cols (List.replicate z.1 (List.replicate f.cols 0)),?_,?_⟩
 ·intro O w' r3;exact⟨(0,[],w',[]),⟨aQ _,rfl,hw.tr r3.cQ,gw.nil⟩,Sub.nil 3 T.Lint 1 rfl (by simp[j8,SV.sc,At.sc,fa]) r3 fun ρ1 r1=>Sub.gn [] r1⟩
 clear hw;rintro⟨i,rv,w1,iv⟩ ⟨hi,Of,hw,hE⟩;dsimp only at hi Of hw hE ⊢;refine⟨(m:Int),wo,?_⟩;refine dK.mk ?_ ?_<;>intro OC
 ·have OC:i<m:=by simpa using OC
  refine cF (cE hw (fun _ w' v w2=>v= .int .i64 f.cols) (fun O w' r=>me (hf.cJ (kS hw r hS)) ⟨SY,SZ⟩) ?_);rintro O _ _ _ OJ r he hw h_ rfl;have Tv:=gw.cG hE r he (mC h_);clear r;clear hE;refine⟨f.cols,f.cols,rfl,rfl,aF _,by omega,by omega,?_⟩;refine nm hτ (id3:=3) (id2:=2) (tH:=[(1,.vec T.Lint 1 rv),(0,.box T.Frame [.v (.slice an f.nodes.length cn),.v (.slice ab f.bars.length cb),.v (.slice aq f.cX.length cq)])]) rfl rfl rfl rfl (by simp) ⟨rfl,rfl,trivial⟩ rfl rfl (fun O w' r r2 S3=>?_);have hn:=(r.fits (id:=2) rfl).1;have OE:w'.ownsRow 0 T.int 1 (.slice (some ⟨(O 2).g,0,none⟩) f.cols f.cols) f.cols ((List.replicate f.cols (0:Int)).map fun z=>.int .i64 z):=
   ⟨by simp,.inr ⟨(O 2).g,f.cols,(List.replicate f.cols (Value.int .i64 0)).toArray,rfl,aQ _,r.arr 2 _ _ rfl,aF _,by unfold maxLen;omega,by simp,by simp⟩⟩
  have OT:=(Tv.rel r).push (gx:=(O 2).g) (l:=List.replicate f.cols 0) (fun g hg e=>Rel.not r (gQ _) hg 2 _ rfl hn e.symm) (r.low 2 _ rfl hn).1 (by simp) OE;rw[<-List.replicate_succ']at OT;have hgv:js (O 2) OJ=((O 2).g,(O 2).g+1)::OJ:=by unfold js;rw[hn]
  have Rd:=r.low 3 _ rfl (r.fits (id:=3) rfl).1;have S3:w'.heap[(O 3).g]? =some (.cells #[.slice (some ⟨(O 2).g,0,none⟩) f.cols f.cols] T.Lint (0,0)):=S3;have UU:=OT.mono (iv':=((O 3).g,(O 3).g+1)::((O 2).g,(O 2).g+1)::OJ) fun p hp=>List.mem_cons_of_mem _ hp;have Oz:=hw.tr r.cQ;have hC3:Cf w (((O 3).g,(O 3).g+1)::((O 2).g,(O 2).g+1)::OJ) (O 3).g:=.inr ⟨Rd.1,_,_,aG,aF _,bZ _⟩;rw[hgv];clear Tv hw r OE hn OT hgv r2 Rd;generalize (O 2).g=gx at*
  generalize (O 3).g=gy at*
  generalize (gy,gy+1)::(gx,gx+1)::OJ=OG at*
  refine⟨[.slice (some ⟨gx,0,none⟩) f.cols f.cols],rfl,by simp[Value.oneCell'],fun ρ2 w2 r2 _=>⟨_,rfl,fun j u hu=>?_⟩,?_⟩
  ·have h5:=Rel.same r2 (gQ _) hC3;rw[dV,cell_of (h5.trans S3)];rcases j with _|j
   ·exact hu
   ·cases hu
  refine⟨by omega,by omega,by unfold maxLen;omega,((i+1:Nat):Int),wo,?_⟩;intro ρ3 w6 r3;exact⟨(i+1,rv++[.slice (some ⟨gx,0,none⟩) f.cols f.cols],w6,_),⟨OC,by simp[Of],Oz.tr r3.cQ,UU.rel r3⟩,Sub.gn [(1,4)] r3 (hE:=⟨rfl,by dsimp only;rw[List.length_append,List.length_singleton];rfl,rfl,trivial⟩),by dsimp only;omega⟩
 have OC:i=m:=aO hi (by simpa using OC);subst OC;have hE0:gw w1 w.heap.size iv rv f.cols (du f 0):=by rw[du,hm];exact hE
 have VI:FW (du f 0) 2000000:=fun l hl z hz=>by
  rw[du]at hl;rw[bP hl]at hz;rw[bP hz];exact⟨by decide,by decide⟩
 clear hE;rw[Of]
 refine⟨Nat×World×Iv,fun z=>⟨[(1,pP 0 0),(3,.o (.w 1 i)),(5,iN z.1)],[(1,.vec T.Lint 1 rv),(0,.box T.Frame [.v (.slice an f.nodes.length cn),.v (.slice ab f.bars.length cb),.v (.slice aq f.cX.length cq)])],2,z.2.2,z.2.1⟩,fun z=>f.bars.length-z.1,
  fun z=>z.1<=f.bars.length∧eE w.heap.size w z.2.1∧gw z.2.1 w.heap.size z.2.2 rv f.cols (du f z.1)∧FW (du f z.1) 2000000,?_,?_⟩
 ·intro O w' r3;exact⟨(0,w',_),⟨aQ _,hw.tr r3.cQ,hE0.rel r3,VI⟩,Sub.gn [] r3⟩
 clear hw hE0 VI hi;rintro⟨j,w2,iv⟩ ⟨hj,hw,hE,OW⟩;dsimp only at hj hw hE OW ⊢;refine dK.mk ?_ ?_<;>intro PT
 ·have PT:j<f.bars.length:=by simpa using PT
  obtain⟨b,hb⟩:∃b,f.bars[j]? =some b:=⟨_,aB PT⟩
  obtain⟨hA,hB⟩:=OF.Ma b (aC hb);have OD:=(LU OP (aC hb)).1;obtain⟨ka,pa,ea,hka,-,VG,⟨_,_⟩,⟨_,_⟩,⟨_,_⟩⟩:=OF.node hA.1 hA.2;obtain⟨kb,pb,eb,OH,-,VH,⟨_,_⟩,⟨_,_⟩,⟨_,_⟩⟩:=OF.node hB.1 hB.2;have Pf:ka≠kb:=fun e=>OD (by rw[ea,eb,e]);obtain⟨adb,cs,hadb,hF,-,hlb0⟩:=hf.bars.load (by decide) hb;obtain⟨g0,g1,g2,g3,g4,g5,g6,g7,rfl,hF⟩:=hF;have hbD:sS f b=[pb.1-pa.1,pb.2.1-pa.2.1,pb.2.2-pa.2.2]:=by rw[sS,VG,VH]
  refine cF (cE hw (fun _ w' v w2=>v= .agg #[.int .i64 (pb.1-pa.1),.int .i64 (pb.2.1-pa.2.1),.int .i64 (pb.2.2-pa.2.2)]) (fun O w' r=>(BW (S:=S) (oS hS r) (hf.cJ (kS hw r hS)) OF hb).mono fun _ _ ⟨v2,e1,e2,e3⟩=>⟨v2,e1,e2,by rw[e3,VG,VH]⟩) ?_);rintro O _ _ _ OG r he hw h_ rfl;have Tv:=gw.cG hE r he (mC h_);clear r;clear hE hF;rw[ea,eb]at hlb0;obtain⟨ds,hds⟩:∃ds:List Value,ds=[.int .i64 (pb.1-pa.1),.int .i64 (pb.2.1-pa.2.1),.int .i64 (pb.2.2-pa.2.2)]:=⟨_,rfl⟩
  refine⟨Nat×World×Iv,fun z=>⟨[(1,pP 0 0),(3,.o (.w 1 i)),(5,iN j),(6,pP 2 0),(7,iN z.1)],[(2,.arr 267 ds),(1,.vec T.Lint 1 rv),(0,.box T.Frame [.v (.slice an f.nodes.length cn),.v (.slice ab f.bars.length cb),.v (.slice aq f.cX.length cq)])],3,z.2.2,z.2.1⟩,fun z=>3-z.1,
   fun z=>z.1<=3∧eE w.heap.size w z.2.1∧gw z.2.1 w.heap.size z.2.2 rv f.cols (eV f (du f j) j z.1)∧FW (eV f (du f j) j z.1) 2000000,?_,?_⟩
  ·intro O w' r3;exact⟨(0,w',_),⟨aQ _,hw.tr r3.cQ,Tv.rel r3,OW⟩,Sub.aAt 2 (vs:=ds) (by rw[hds];rfl) r3 fun r4=>Sub.gn [] r4⟩
  clear hw Tv OW;rintro⟨k,w3,iv⟩ ⟨hk,hw,hE,OW⟩;dsimp only at hk hw hE OW ⊢;refine dK.mk ?_ ?_<;>intro VP
  ·have hk3:k<3:=by have:=aI VP;omega
   obtain⟨d,hd⟩:∃d,(sS f b).getD k 0=d:=⟨_,rfl⟩
   have hdb: -2000000<=d∧d<=2000000:=by
    rw[<-hd,hbD];rcases(show k=0∨k=1∨k=2 by omega)with rfl|rfl|rfl<;>simp[List.getD]<;>omega
   have hdk:ds[k]? =some (.int .i64 d):=by
    rw[hds,<-hd,hbD];rcases(show k=0∨k=1∨k=2 by omega)with rfl|rfl|rfl<;>rfl
   have hMl:(eV f (du f j) j k).length=3*f.nodes.length:=by rw[<-hE.len];have:=hE.len;omega
   obtain⟨la,PW⟩:∃l,(eV f (du f j) j k)[3*ka+k]? =some l:=⟨_,aB (by first|omega|(rw [bF];omega))⟩
   have hlaw:=hE.wid la (aC PW);obtain⟨za,Ur⟩:∃z,la[j]? =some z:=⟨_,aB (by omega)⟩
   obtain⟨va,VJ⟩:∃v,rv[3*ka+k]? =some v:=⟨_,aB (by have:=(aD.1 PW).1;rw[hE.len];exact this)⟩
   obtain⟨aa5,ca5,rfl⟩:=hE.form VJ;obtain⟨ada5,Sn,-,-⟩:=hE.load VJ PW Ur;refine cM hτ df [.x 0,.x 1,.x 2,.x 3,.x 4,.x 5,.x 6,.x 7,.x 8,.x 9,.x 10,.x 11,.x 12,.x 13,.x 14,.x 15,.x 16,.x 17] (by kernel_rfl) (by kernel_rfl) ?_;refine⟨adb,hadb,by omega,.int .i64 (ka:Int),fun O w' r=>?_,?_⟩
   ·obtain⟨k1,k2⟩:=hlb0 0 _ rfl;rw[cH (w:=w) (w2:=w') (by simp only[dN];exact(hw.tr r.cQ).block _ (hS _ k1))];simp only[aE,k7]at k2 ⊢;exact k2
   refine⟨((3*ka:Nat):Int),wo,((3*ka+k:Nat):Int),wo,by rw[Of,aR,aT],by omega,.slice aa5 f.cols ca5,by rw[aE,aT];exact VJ,by omega,.int .i64 d,by rw[aR,aE,aT];exact hdk,ada5,Sn,by omega,?_⟩;intro O w' r;obtain⟨g,hg,h1,h2,h3,h4⟩:=hE.store r (z:=d) VJ PW (show j<f.cols by omega);rw[Sn]at hg;injection hg with hg;subst hg;refine⟨h1,h2,h3,fun w5 QZ=>?_⟩;obtain⟨k1,k2,k3,-,-⟩:=h4 w5 QZ;replace hw:=(hw.tr r.cQ).tr k2;replace OW:=OW.set (r:=3*ka+k) (c:=j) (z:=d) (t2:=2000000) (by omega) PW (by omega);replace hE:=k1;clear h1 h2 h3 h4 QZ k1 k2 k3 r Sn;obtain⟨lb,Od⟩:∃l,((eV f (du f j) j k).set (3*ka+k) (la.set j d))[3*kb+k]? =some l:=⟨_,aB (by first|omega|(rw [bF];omega))⟩
   have hlbw:=hE.wid lb (aC Od);obtain⟨zb,SL⟩:∃z,lb[j]? =some z:=⟨_,aB (by omega)⟩
   obtain⟨vb,US⟩:∃v,rv[3*kb+k]? =some v:=⟨_,aB (by have:=(aD.1 Od).1;rw[hE.len];exact this)⟩
   obtain⟨ab5,cb5,rfl⟩:=hE.form US;obtain⟨adb5,So,-,-⟩:=hE.load US Od SL;refine cM hτ df [.x 0,.x 1,.x 2,.x 3,.x 4,.x 5,.x 6,.x 7,.x 8,.x 9,.x 10,.x 11,.x 12,.x 13,.x 14,.x 15,.x 16,.x 17,.x 18] (by kernel_rfl) (by kernel_rfl) ?_;refine⟨adb,hadb,by omega,.int .i64 (kb:Int),fun O w' r=>?_,?_⟩
   ·obtain⟨k1,k2⟩:=hlb0 1 _ rfl;rw[cH (w:=w) (w2:=w') (by simp only[dN];exact(hw.tr r.cQ).block _ (hS _ k1))];simp only[aE,k7]at k2 ⊢;exact k2
   refine⟨((3*kb:Nat):Int),wo,((3*kb+k:Nat):Int),wo,by rw[Of,aR,aT],by omega,.slice ab5 f.cols cb5,by rw[aE,aT];exact US,by omega,.int .i64 d,by rw[aR,aE,aT];exact hdk,-d,wo,adb5,So,by omega,?_⟩;intro O w' r;obtain⟨g,hg,h1,h2,h3,h4⟩:=hE.store r (z:=(-d)) US Od (show j<f.cols by omega);rw[So]at hg;injection hg with hg;subst hg;refine⟨h1,h2,h3,fun w5 QZ=>?_⟩;obtain⟨k1,k2,k3,-,-⟩:=h4 w5 QZ;replace hw:=(hw.tr r.cQ).tr k2;replace OW:=OW.set (r:=3*kb+k) (c:=j) (z:=(-d)) (t2:=2000000) (by omega) Od (by omega);replace hE:=k1;clear h1 h2 h3 h4 QZ k1 k2 k3 r So;rw[Mr hb ea eb Pf hk3 hd PW Od]at hE OW;refine⟨((k+1:Nat):Int),wo,?_⟩;intro ρ3 w6 r3;exact⟨(k+1,w6,_),⟨hk3,hw.tr r3.cQ,hE.rel r3,OW⟩,Sub.gn [] r3,by dsimp only;omega⟩
  have VP:k=3:=by have:=aH VP;omega
  subst VP;refine⟨((j+1:Nat):Int),wo,?_⟩;intro ρ3 w6 r3;exact⟨(j+1,w6,_),⟨PT,hw.tr r3.cQ,hE.rel r3,OW⟩,Sub.gn [] r3,by dsimp only;omega⟩
 have PT:j=f.bars.length:=aO hj (by simpa using PT);subst PT
 refine⟨Nat×World×Iv,fun z=>⟨[(1,pP 0 0),(3,.o (.w 1 i)),(8,iN z.1)],[(1,.vec T.Lint 1 rv),(0,.box T.Frame [.v (.slice an f.nodes.length cn),.v (.slice ab f.bars.length cb),.v (.slice aq f.cX.length cq)])],2,z.2.2,z.2.1⟩,fun z=>f.cX.length-z.1,
  fun z=>z.1<=f.cX.length∧eE w.heap.size w z.2.1∧gw z.2.1 w.heap.size z.2.2 rv f.cols (fG f z.1)∧FW (fG f z.1) 2000000,?_,?_⟩
 ·intro O w' r3;exact⟨(0,w',_),⟨aQ _,hw.tr r3.cQ,hE.rel r3,OW⟩,Sub.gn [] r3⟩
 clear hw hE OW hj;rintro⟨j,w2,iv⟩ ⟨hj,hw,hE,OW⟩;dsimp only at hj hw hE OW ⊢;refine dK.mk ?_ ?_<;>intro PT
 ·have PT:j<f.cX.length:=by simpa using PT
  obtain⟨s,hs⟩:∃b,f.cX[j]? =some b:=⟨_,aB PT⟩
  obtain⟨hA,hB⟩:=OF.sup s (aC hs);obtain⟨ks,Us⟩:=Int.eq_ofNat_of_zero_le (show 0<=3*s.1+s.2.1 by omega);have hMl:=nZ f j;obtain⟨l,hl⟩:∃l,(fG f j)[ks]? =some l:=⟨_,aB (by omega)⟩
  have hlw:=hE.wid l (aC hl);obtain⟨v,hv⟩:∃v,rv[ks]? =some v:=⟨_,aB (by rw[hE.len];omega)⟩
  obtain⟨a5,c5,rfl⟩:=hE.form hv;obtain⟨z0,OM⟩:∃z,l[f.bars.length+j]? =some z:=⟨_,aB (by omega)⟩
  obtain⟨ad5,ha5,-,-⟩:=hE.load hv hl OM;obtain⟨adb,cs,Pf,hF,-,Od⟩:=hf.cX.load (by decide) hs;obtain⟨g0,g1,g2,g3,g4,g5,g6,g7,rfl,hF⟩:=hF;refine cM hτ df [.x 0,.x 1,.x 2,.x 3,.x 4,.x 5,.x 6,.x 7,.x 8,.x 9,.x 10,.x 11,.x 12,.x 13,.x 14,.x 15,.x 16,.x 17,.x 18,.x 19,.x 20,.x 21,.x 22,.x 23] (by kernel_rfl) (by kernel_rfl) ?_;refine⟨adb,Pf,by omega,.int .i64 s.1,fun O w' r=>?_,?_⟩
  ·obtain⟨k1,k2⟩:=Od 0 _ rfl;rw[cH (w:=w) (w2:=w') (by simp only[dN];exact(hw.tr r.cQ).block _ (hS _ k1))];simp only[aE,k7]at k2 ⊢;exact k2
  refine⟨3*s.1,wo,adb,Pf,by omega,.int .i64 s.2.1,fun O w' r=>?_,?_⟩
  ·obtain⟨k1,k2⟩:=Od 1 _ rfl;rw[cH (w:=w) (w2:=w') (by simp only[dN];exact(hw.tr r.cQ).block _ (hS _ k1))];simp only[aE,k7]at k2 ⊢;exact k2
  refine⟨((ks:Nat):Int),wo,by rw[Of,aT],by omega,.slice a5 f.cols c5,by rw[aE,aT];exact hv,((f.bars.length+j:Nat):Int),wo,ad5,ha5,by omega,?_⟩;intro O w' r;obtain⟨g,hg,h1,h2,h3,h4⟩:=hE.store r (z:=1) hv hl (show f.bars.length+j<f.cols by omega);rw[ha5]at hg;injection hg with hg;subst hg;refine⟨h1,h2,h3,fun w5 QZ=>?_⟩;obtain⟨k1,k2,k3,-,-⟩:=h4 w5 QZ;replace hw:=(hw.tr r.cQ).tr k2;have Rc:=OW.set (r:=ks) (c:=f.bars.length+j) (z:=1) (t2:=2000000) (by omega) hl (by omega);rw[FY hs Us hl]at k1 Rc;clear h1 h2 h3 h4 QZ k2 k3 r hE;refine⟨((j+1:Nat):Int),wo,?_⟩;intro ρ3 w6 r3;exact⟨(j+1,w6,_),⟨PT,hw.tr r3.cQ,k1.rel r3,Rc⟩,Sub.gn [] r3,by dsimp only;omega⟩
 have PT:j=f.cX.length:=aO hj (by simpa using PT);subst PT;intro ρe we re;have OT:=hE.rel re;have hMl:=nZ f f.cX.length;have QT:=hE.len;refine⟨_,rfl,hw.tr re.cQ,⟨rv,?_,hE.len,fun i u x k1 k2=>?_⟩,OW⟩
 ·rw[show (gk f).length=rv.length from hE.len.symm];have h5:=re.iG (id:=1) (sz:=1) (m:=rv.length) rfl (by simp) (by unfold maxLen;omega) (by decide) hE.one;rw[show (i:Nat)=rv.length by omega];exact h5.cK fun g hg=>.inr hg
 ·obtain⟨a,c,rfl⟩:=hE.form k1;have PZ:=hE.wid x (aC k2);refine⟨by rw[PZ];unfold maxLen;omega,by simp,fun v hv=>by obtain⟨z,_,rfl⟩:=aU.1 hv;rfl,a,c,by rw[PZ],?_,fun t v hv=>?_⟩
  ·rw[PZ];obtain⟨a2,c2,e,h⟩:=je (hE.row i _ x k1 k2);injection e with e1 e2 e3;omega
  ·rw[aM]at hv
   cases ht:x[t]? with
   |none=>rw[ht]at hv;cases hv
   |some z=>
    rw[ht]at hv;simp only[Option.map_some,Option.some.injEq]at hv;subst hv;obtain⟨ad,h1,h2,h3⟩:=OT.load k1 k2 ht;exact⟨ad,h1,Cv.nw h2 re,by rw[aT]at h3;exact h3⟩
end Go.Ex
namespace Go.Ex
open Go Go.Sx Go.Proofs
variable{M:List (List Int)}{l:List Int}{xs:List Rat}{g n:Nat}{S:Nat->Prop}{O:Nat->Sx.dx}{v:Value}{w:World}
theorem og{i:Nat}{z:Int}(h:l[i]? =some z):c9 (l.take (i+1))=c9 (l.take i)++[(z:Rat)]:=by rw[c9,List.take_add_one,h,List.map_append];rfl
theorem u7{B e sz:Nat}{xs:List Value}(h:w.ownsRow B e sz v n xs):w.ownsRow 0 e sz v n xs:=⟨h.1,h.2.imp id fun⟨g,cap,cur,e1,_,rest⟩=>⟨g,cap,cur,e1,aQ _,rest⟩⟩
theorem Cv.fin{H:Hp}{nx:Nat}{iv:Iv}{w0 w1 w':World}(hg:Cf w0 iv g)(r:Rel H nx iv w0.heap.size w1 O w'):Cf w0 [(w0.heap.size,w'.heap.size)] g:=by
 rcases hg with hg|⟨h1,lo,hi,h2,h3,h4⟩
 ·exact hg.elim
 ·exact .inr ⟨h1,_,_,bB.2 rfl,h1,by have:=r.rM lo hi h2;have:=r.size;omega⟩
theorem Cv.new{w2:World}(hg:Cf w [(w.heap.size,w2.heap.size)] g):Nf w w2 g:=by
 rcases hg with hg|⟨h1,lo,hi,h2,h3,h4⟩
 ·exact hg.elim
 ·simp at h2;obtain⟨rfl,rfl⟩:=h2;exact .inr ⟨h3,h4⟩
theorem aAH.x{w2:World}(h:aAH w w2 v xs)(hn:xs.length=n):dg w2 FF w.heap.size [(w.heap.size,w2.heap.size)] v n xs:=by
 subst hn;obtain⟨css,h1,h2,h3,h4⟩:=h;have hl:=ownsRow.low h1;refine⟨⟨css,u7 h1,h2,h2,fun j cs q k1 k2=>(h4 j cs q k1 k2).cK fun g hg=>⟨?_,hg.2⟩⟩,fun g e=>.inr ⟨(hl g e).1,_,_,bB.2 rfl,(hl g e).1,(hl g e).2⟩⟩;rcases hg.1 with h|h
 ·exact h.elim
 ·exact .inr ⟨h.1,_,_,bB.2 rfl,h.1,h.2⟩
structure aAI(w:World)(B:Nat)(iv:Iv)(v:Value)(M:List (List Rat)):Prop where
 row:∃rv,w.ownsRow 0 T.gA 1 v M.length rv∧rv.length=M.length∧(∀u∈rv,u.oneCell'=true)∧∀(i:Nat) u x,rv[i]? =some u->M[i]? =some x->cI w (Bs FF B iv v) u x
 new:∀g,v.ownBlock=some g->Cv FF B iv g
section
variable{H:Hp}{nx:Nat}{iv iv':Iv}{B:Nat}{w w' w2:World}{O:Nat->Sx.dx}{v:Value}{M:List (List Rat)}
theorem aAI.c(h:aAI w B iv v M):cR w (Cv FF B iv) v M:=by
 obtain⟨⟨rv,h1,h2,h3,h4⟩,h5⟩:=h;refine⟨rv,?_,h2,fun i u x k1 k2=>cI.cK (h4 i u x k1 k2) fun g hg=>hg.1⟩;rcases h1.2 with⟨e,h0⟩|⟨g,cap,cur,e,_,hc,hn,hm,hs,ht⟩
 ·have:rv=[]:=List.eq_nil_of_length_eq_zero (by rw[h2,h0]);subst this;rw[e,h0];exact⟨aQ _,rfl,by simp,none,0,rfl,aF _,fun j u h=>by cases h⟩
 ·subst e;refine⟨aX hn hm,h1.1,h3,_,cap,rfl,hn,fun j u hu=>⟨_,rfl,h5 g rfl,?_⟩⟩;have:=h1.cells (g:=g) rfl j u hu;exact this
end
theorem At.LY{id:Nat}:((At.w id n).den O).oneCell'=true:=by
 cases h:(O id).nil<;>simp[At.den,h,Value.oneCell']
theorem LZ(hS:Old S w)(hM:mG w S v M)(hR:M.length<=1000)(hn:∀l∈M,l.length<=1000)(hb:∀l∈M,∀z∈l,-1000000000<=z∧z<=1000000000):
  eA PG N.sZ #[v] w (eF w fun v' w2=>aAI w2 w.heap.size [(w.heap.size,w2.heap.size)] v' (M.map c9)):=by
 have hw:=bR w;obtain⟨am,cm,rfl,-,Qg⟩:=dM.shape hM;unfold maxLen at Qg;refine BJ (by simp) ?_
 refine⟨Nat×List Value×World×Iv,fun z=>⟨[(0,sV am M.length cm),(3,.o (.w 0 z.2.1.length)),(4,iN z.1)],[(0,.vec T.gA 1 z.2.1)],1,z.2.2.2,z.2.2.1⟩,fun z=>M.length-z.1,
  fun z=>z.1<=M.length∧eE w.heap.size w z.2.2.1∧dh z.2.2.1 (Cf w z.2.2.2) z.2.1 ((M.take z.1).map c9),?_,?_⟩
 ·intro O w' r;exact⟨(0,[],w',[]),⟨aQ _,hw.tr r.cQ,by simp[dh]⟩,Sub.nil 3 T.gA 1 rfl (by simp[j8,SV.sc,At.sc,fa]) r fun ρ1 r1=>Sub.gn [] r1⟩
 clear hw;rintro⟨i,rv,w1,iv⟩ ⟨hi,hw,hK⟩;dsimp only at hi hw hK ⊢;have Of:rv.length=i:=by rw[hK.1,aK,aW];omega
 refine dK.mk ?_ ?_<;>intro OC
 ·have OC:i<M.length:=by simpa using OC
  obtain⟨l,hl⟩:∃x,M[i]? =some x:=⟨_,aB OC⟩
  have Rq:=hn l (aC hl);have Od:=hb l (aC hl);obtain⟨adm,um,Qd,Oh,km1,km2⟩:=dM.load hM hl;obtain⟨al,cl,rfl,-,QO⟩:=Oh.shape
  refine⟨Nat×List (List Value)×World×Iv,fun z=>⟨[(0,sV am M.length cm),(3,.o (.w 0 rv.length)),(4,iN i),(5,.o (.w 1 z.2.1.length)),(6,iN z.1)],[(1,.vec T.Rat 4 z.2.1.flatten),(0,.vec T.gA 1 rv)],2,z.2.2.2,z.2.2.1⟩,fun z=>l.length-z.1,
   fun z=>z.1<=l.length∧eE w.heap.size w z.2.2.1∧dh z.2.2.1 (Cf w z.2.2.2) rv ((M.take i).map c9)∧eN z.2.2.1 (Cf w z.2.2.2) z.2.1 (c9 (l.take z.1)),?_,?_⟩
  ·intro O w' r;exact⟨(0,[],w',_),⟨aQ _,hw.tr r.cQ,hK.rel r (cC w),eN.nil⟩,Sub.nil 5 T.Rat 4 rfl (by simp[j8,SV.sc,At.sc,fa]) r fun ρ1 r1=>Sub.gn [] r1⟩
  clear hw hK;rintro⟨k,css,w3,iv⟩ ⟨hk,hw,hK,hG⟩;dsimp only at hk hw hK hG ⊢;have OX:=eY hG.four;have TS:css.length=k:=by rw[hG.len,c9,aK,aW];omega
  refine⟨adm,Qd,by omega,.slice al l.length cl,rd1 km2 hw (hS _ km1),?_⟩;refine dK.mk ?_ ?_<;>intro OH
  ·have OH:k<l.length:=by simpa using OH
   obtain⟨z,hz⟩:∃x,l[k]? =some x:=⟨_,aB OH⟩
   have SL:=Od z (aC hz);obtain⟨adx,PC,hSx,Oa⟩:=EC.at Oh hz;refine⟨adm,Qd,by omega,.slice al l.length cl,rd1 km2 hw (hS _ km1),adx,PC,by omega,.int .i64 z,rd1 Oa hw (hS _ hSx),?_⟩;refine cF (cE hw (fun _ w' v w2=>cT w2 (Nf w' w2) v (z:Rat)) (fun O w' r=>jO z w' (by omega)) ?_);rintro O _ _ _ OJ r he hw h_ hn;replace hK:=hK.cG r (cC w) he (mC h_);replace hG:=hG.cG r (cC w) he (mC h_);have hd:=hn.dB (S:=FF) r.cD (mN h_);clear r hn;obtain⟨A0,A1,A2,A3,A4,A5,A6,A7,rfl⟩:=hd.shape;have S2:=hG.push (cs:=[.bool A0,.slice A1 A2 A3,.bool A4,.slice A5 A6 A7]) (q:=(z:Rat)) ⟨_,_,_,_,_,_,_,_,rfl,hd⟩ rfl;rw[<-og hz]at S2;have Pt:css.flatten++([.bool A0,.slice A1 A2 A3,.bool A4,.slice A5 A6 A7]:List Value)=(css++([[.bool A0,.slice A1 A2 A3,.bool A4,.slice A5 A6 A7]]:List (List Value))).flatten:=by simp
   refine .inl ?_;refine⟨by omega,by omega,by unfold maxLen;omega,((k+1:Nat):Int),wo,?_⟩;intro ρ3 w6 r3;exact⟨(k+1,css++[[.bool A0,.slice A1 A2 A3,.bool A4,.slice A5 A6 A7]],w6,_),⟨OH,hw.tr r3.cQ,hK.rel r3 (cC w),S2.rel r3 (cC w)⟩,Sub.gn [(1,3)] r3 ⟨by dsimp only;rw[<-Pt];rfl,rfl,trivial⟩ ⟨rfl,rfl,rfl,by dsimp only;rw[List.length_append,List.length_singleton];rfl,rfl,trivial⟩,by dsimp only;omega⟩
  have OH:k=l.length:=aO hk (by simpa using OH);have Sb:c9 (l.take k)=c9 l:=by rw[OH,bD]
  rw[Sb]at hG;refine nm hτ (id3:=2) (id2:=1) (tH:=[(0,.vec T.gA 1 rv)]) rfl rfl rfl rfl (by simp) (by first|exact⟨rfl,trivial⟩|exact⟨rfl,rfl,trivial⟩) rfl rfl (fun O w' r r2 S3=>?_);have OE:=eN.list ((hG.rel r (cC w)).cK fun g hg=>Cv.mono (iv':=((O 2).g,(O 2).g+1)::js (O 1) iv) hg fun p hp=>List.mem_cons_of_mem _ (nF p hp)) ((r.LX (id:=1) (sz:=4) (m:=css.length) rfl OX (by unfold maxLen;omega) (by decide) hG.one).cK fun g hg=>Cv.mono hg fun p hp=>List.mem_cons_of_mem _ hp);have Pm:((At.w 1 css.length).den O).oneCell'=true:=At.LY;have Rd:=r.low 2 _ rfl (r.fits (id:=2) rfl).1;have hC3:Cf w (((O 2).g,(O 2).g+1)::js (O 1) iv) (O 2).g:=.inr ⟨Rd.1,_,_,aG,aF _,bZ _⟩;have Po:∀p,p∈iv->p∈((O 2).g,(O 2).g+1)::js (O 1) iv:=fun p hp=>List.mem_cons_of_mem _ (nF p hp);have Oz:=hw.tr r.cQ;have hK1:=(hK.rel r (cC w)).cK fun g hg=>Cv.mono hg Po;clear r2 Rd;generalize (At.w 1 css.length).den O=ur at*
  generalize (O 2).g=gy at*
  generalize (gy,gy+1)::js (O 1) iv=OG at*
  refine⟨[ur],rfl,by simpa using Pm,fun ρ2 w2 r2 _=>⟨_,rfl,fun j u hu=>?_⟩,?_⟩
  ·have h5:=Rel.same r2 (gQ _) hC3;rw[dV,cell_of (h5.trans S3)];rcases j with _|j
   ·exact hu
   ·cases hu
  refine⟨by simp,by omega,by unfold maxLen;omega,?_⟩;have Qe:=hK1.push Pm OE;rw[show (M.take i).map c9++[c9 l]=(M.take (i+1)).map c9 by rw[List.take_add_one,hl];simp]at Qe;refine⟨((i+1:Nat):Int),wo,?_⟩;intro ρ3 w6 r3;exact⟨(i+1,rv++[ur],w6,_),⟨OC,Oz.tr r3.cQ,Qe.rel r3 (cC w)⟩,Sub.gn [(0,3)] r3 (hE:=⟨rfl,by dsimp only;rw[List.length_append,List.length_singleton];rfl,rfl,trivial⟩),by dsimp only;omega⟩
 have OC:i=M.length:=aO hi (by simpa using OC);rw[show (M.take i).map c9=M.map c9 by rw[OC,bD]]at hK;intro ρe we re;refine⟨_,rfl,hw.tr re.cQ,⟨rv,by rw[<-hK.1];exact u7 (ym re (id:=0) rfl (by simp) (by decide)),hK.1,hK.2.1,fun i u x k1 k2=>cI.cK (cI.cJ (hK.2.2 i u x k1 k2) fun g hg=>Rel.same re (cC w) hg) fun g hg=>⟨hg.fin re,fun e=>Rel.not re (cC w) hg 0 _ rfl (CS e).1 (CS e).2⟩⟩,fun g e=>?_⟩;have hl:=re.low 0 _ rfl (CS e).1;rw[(CS e).2]at hl;exact .inr ⟨hl.1,_,_,bB.2 rfl,hl.1,hl.2⟩
theorem IK(hS:Old S w)(hM:mG w S v M)(hR:M.length<=1000)(hn:∀l∈M,l.length<=1000)(hb:∀l∈M,∀z∈l,-1000000000<=z∧z<=1000000000):
  eA PG N.sZ #[v] w (eF w fun v' w2=>cR w2 (Nf w w2) v' (M.map c9)):=
 (LZ hS hM hR hn hb).mono fun _ _ ⟨v2,e1,e2,e3⟩=>⟨v2,e1,e2,cR.cK e3.c fun _ hg=>hg.new⟩
theorem L0(n:Nat)(w:World)(hn:n<=1000):eA PG N.xG #[.int .i64 n] w (eF w fun v' w2=>cI w2 (Nf w w2) v' (List.replicate n 0)):=by
 have hw:=bR w;refine AO (by simp) ?_
 refine⟨Nat×List (List Value)×World×Iv,fun z=>⟨[(0,.o (.v (.int .i64 (n:Int)))),(3,.o (.w 0 z.2.1.length)),(4,iN z.1)],[(0,.vec T.Rat 4 z.2.1.flatten)],1,z.2.2.2,z.2.2.1⟩,fun z=>n-z.1,
  fun z=>z.1<=n∧eE w.heap.size w z.2.2.1∧eN z.2.2.1 (Cf w z.2.2.2) z.2.1 (List.replicate z.1 0),?_,?_⟩
 ·intro O w' r;exact⟨(0,[],w',[]),⟨aQ _,hw.tr r.cQ,eN.nil⟩,Sub.nil 3 T.Rat 4 rfl (by simp[j8,SV.sc,At.sc,fa]) r fun ρ1 r1=>Sub.gn [] r1⟩
 clear hw;rintro⟨i,css,w1,iv⟩ ⟨hi,hw,hG⟩;dsimp only at hi hw hG ⊢;have OX:=eY hG.four;have TS:css.length=i:=by rw[hG.len,bG]
 refine dK.mk ?_ ?_<;>intro OC
 ·have OC:i<n:=by simpa using OC
  refine cF (cE hw (fun _ w' v w2=>cT w2 (Nf w' w2) v (((0:Int)):Rat)) (fun O w' r=>jO 0 w' (by decide)) ?_);rintro O _ _ _ OJ r he hw h_ hn;replace hG:=hG.cG r (cC w) he (mC h_);have hd:=hn.dB (S:=FF) r.cD (mN h_);clear r hn;obtain⟨A0,A1,A2,A3,A4,A5,A6,A7,rfl⟩:=hd.shape;have S2:=hG.push (cs:=[.bool A0,.slice A1 A2 A3,.bool A4,.slice A5 A6 A7]) (q:=((0:Int):Rat)) ⟨_,_,_,_,_,_,_,_,rfl,hd⟩ rfl;rw[show List.replicate i (0:Rat)++[((0:Int):Rat)]=List.replicate (i+1) 0 by rw[List.replicate_succ'];rfl]at S2;have Pt:css.flatten++([.bool A0,.slice A1 A2 A3,.bool A4,.slice A5 A6 A7]:List Value)=(css++([[.bool A0,.slice A1 A2 A3,.bool A4,.slice A5 A6 A7]]:List (List Value))).flatten:=by simp
  refine .inl ?_;refine⟨by omega,by omega,by unfold maxLen;omega,((i+1:Nat):Int),wo,?_⟩;intro ρ3 w6 r3;exact⟨(i+1,css++[[.bool A0,.slice A1 A2 A3,.bool A4,.slice A5 A6 A7]],w6,_),⟨OC,hw.tr r3.cQ,S2.rel r3 (cC w)⟩,Sub.gn [(0,2)] r3 ⟨by dsimp only;rw[<-Pt];rfl,trivial⟩ ⟨rfl,by dsimp only;rw[List.length_append,List.length_singleton];rfl,rfl,trivial⟩,by dsimp only;omega⟩
 have OC:i=n:=aO hi (by simpa using OC);subst OC;intro ρe we re;refine⟨_,rfl,hw.tr re.cQ,?_⟩;have h5:=re.iG (id:=0) (sz:=4) (m:=css.length) rfl OX (by unfold maxLen;omega) (by decide) hG.one;exact eN.list ((hG.rel re (cC w)).cK fun g hg=>Cv.nw hg re) (h5.cK fun g hg=>.inr hg)
theorem Dk(hS:Old S w)(hx:cS w S v xs)(hn:xs.length<=1000)(hb:∀q∈xs,rl q<=90000):
  eA PG N.l7 #[v] w (eF w fun v' w2=>dg w2 FF w.heap.size [(w.heap.size,w2.heap.size)] v' xs.length (cW xs (-1))):=by
 have hw:=bR w;have Ra:rl (-1)=1:=by decide
 have Qi:=hx;obtain⟨ax,cx,rfl,-,-⟩:=cY.shape Qi;refine uK (by simp) ?_;refine cF (cE hw (fun _ w' v w2=>cT w2 (Nf w' w2) v (((-1:Int)):Rat)) (fun O w' r=>jO (-1) w' (by decide)) ?_);rintro O _ _ _ OJ r he hw h_ hn;have hd:=hn.dB (S:=FF) r.cD (mN h_);clear r hn;obtain⟨A0,A1,A2,A3,A4,A5,A6,A7,rfl⟩:=hd.shape;refine cF (cE hw (fun _ w' v w2=>dg w2 FF w'.heap.size [(w'.heap.size,w2.heap.size)] v xs.length (cW xs (-1))) (fun O w' r=>((show jr [] xs (-1)=cW xs (-1)from wD xs (-1))▸Fj (b:=(-1:Rat)) (S:=fun g=>S g∨Cf w OJ g) (fun g hg=>hg.elim (oS hS r g) (Rel.old r (cC w) g)) (cS.nil w' _) (cS.cK (cS.cJ hx (kS hw r hS)) fun g hg=>.inl hg) (((hd.rel r (cC w)).l (by decide)).cK fun g hg=>.inr hg) (.inl rfl) (by omega) (fun y hy=>by have:=hb y hy;omega)).mono fun _ _ ⟨v2,e1,e2,_,e3⟩=>⟨v2,e1,e2,e3.x (by rw[cW,aK])⟩) ?_);rintro O _ _ _ OG r he hw h_ hn;clear hd;have hr:=dg.dB (S:=FF) hn r.cD (mN h_);clear r;clear hn;exact rtn hw fun ρe we re=>hr.out re
theorem Fk(hS:Old S w)(hx:cS w S v xs)(hn:xs.length<=1000)(hb:∀q∈xs,rl q<=90000):
  eA PG N.l7 #[v] w (eF w fun v' w2=>cI w2 (Nf w w2) v' (cW xs (-1))):=
 (Dk hS hx hn hb).mono fun _ _ ⟨v2,e1,e2,e3⟩=>⟨v2,e1,e2,cI.cK e3.c fun _ hg=>hg.new⟩
end Go.Ex
namespace Go.Ex
variable{s:Int×Int×Rat}{M:List (List Rat)}{fl:List Rat}{n:Nat}{u y z:Nat->Rat}{f:fA}
theorem M9{M:List (List Int)}{r c:Nat}:dD (M.map c9) r c=((ez M r c:Int):Rat):=by
 have key:∀l:List Int,(c9 l).getD c 0=((l.getD c 0:Int):Rat):=fun l=>by
  rw[c9,List.getD,List.getD,aM]
  cases l[c]? <;>rfl
 unfold dD ez;rw[<-key];congr 1;rw[List.getD,List.getD,aM]
 cases M[r]? <;>rfl
theorem Ge(f:fA)(r c:Nat):dD (cP f) r c=((ez (gk f) r c:Int):Rat):=M9
def Nr(n:Nat)(M:List (List Int)):Prop:=∀l∈M,l.length=n
theorem Nr.put{r c:Nat}{d:Int}{M:List (List Int)}(h:Nr n M):Nr n (putAt M r c d):=fun l hl=>by
 unfold putAt at hl;rcases aP r M.length with hr|hr
 ·rcases bJ hl with hl|rfl
  ·exact h l hl
  ·rw[bF,List.getD,aB hr];exact h _ (aY hr)
 ·rw[List.set_eq_of_length_le hr]at hl;exact h l hl
theorem Bw{f:fA}{M:List (List Int)}{n i:Nat}(h:Nr n M):∀k,Nr n (eV f M i k)
 |0=>h
 |k+1=>by rw[eV];rw[gp,gp];exact((Bw h k).put).put
theorem z4(f:fA):∀i,Nr f.cols (du f i)
 |0=>fun l hl=>by rw[du]at hl;rw[bP hl,bG]
 |i+1=>by rw[du];exact Bw (z4 f i) 3
theorem jW(f:fA):∀i,Nr f.cols (fG f i)
 |0=>z4 f _
 |i+1=>by rw[fG];exact(jW f i).put
theorem oL(M:List (List Int))(r c:Nat)(d:Int):(putAt M r c d).length=M.length:=bF ..
theorem tc(f:fA)(M:List (List Int))(i:Nat):∀k,(eV f M i k).length=M.length
 |0=>rfl
 |k+1=>by rw[eV];rw[gp,gp,oL,oL];exact tc f M i k
theorem rQ(f:fA):∀i,(du f i).length=3*f.nodes.length
 |0=>bG ..
 |i+1=>by rw[du,tc];exact rQ f i
theorem kF(f:fA):∀i,(fG f i).length=3*f.nodes.length
 |0=>rQ f _
 |i+1=>by rw[fG,oL];exact kF f i
theorem fE(f:fA):fZ f.cols (cP f):=fun r hr=>by
 obtain⟨l,hl,rfl⟩:=aU.1 hr;rw[c9,aK];exact jW f _ l hl
theorem e9(f:fA):(cP f).length=3*f.nodes.length:=by rw[cP,aK];exact kF f _
structure GG(f:fA):Prop where
 co:∀p∈f.nodes,(-1000000<=p.1∧p.1<=1000000)∧(-1000000<=p.2.1∧p.2.1<=1000000)∧(-1000000<=p.2.2∧p.2.2<=1000000)
 Ma:∀b∈f.bars,∃ka kb:Nat,b.1=ka∧b.2.1=kb∧ka<f.nodes.length∧kb<f.nodes.length∧ka≠kb∧0<b.2.2
 sup:∀s∈f.cX,gi s<3*f.nodes.length∧0<=s.2.2
 one:∀(i j:Nat) s t,f.cX[i]? =some s->f.cX[j]? =some t->gi s=gi t->i=j
 n:f.nodes.length<=20
 b:f.bars.length<=60
 s:f.cX.length<=60
theorem Hq{α:Type}{l:List α}{x:α}(h:x∈l):∃i:Nat,l[i]? =some x:=by
 obtain⟨i,hi,rfl⟩:=List.mem_iff_getElem.1 h;exact⟨i,aB hi⟩
theorem Kd(h:eL f=0):GG f:=by
 have OF:=jS h;obtain⟨⟨h1,h2,h3⟩,h4,h5,h6⟩:=vE h;have VB:∀(k:Nat) s,f.cX[k]? =some s->jD f.nodes.length s.1∧(0<=s.2.1∧s.2.1<=2)∧ia s∉(f.cX.take k).map ia∧0<=s.2.2:=fun k s hs=>qq.1 (ic h6 k s hs);have OE:∀(k:Nat) s,f.cX[k]? =some s->(gi s:Int)=3*s.1+s.2.1∧gi s<3*f.nodes.length:=fun k s hs=>by
  obtain⟨⟨a1,a2⟩,⟨a3,a4⟩,-,-⟩:=VB k s hs;unfold gi;omega
 have lt:∀(i j:Nat) s t,i<j->f.cX[i]? =some s->f.cX[j]? =some t->gi s≠gi t:=fun i j s t Pa hs ht e=>by
  obtain⟨⟨a1,a2⟩,⟨a3,a4⟩,-,-⟩:=VB i s hs;obtain⟨⟨b1,b2⟩,⟨b3,b4⟩,b5,-⟩:=VB j t ht;have e1:=(OE i s hs).1;have e2:=(OE j t ht).1;refine b5 (aU.2 ⟨s,aC (i:=i) (by rw[bT Pa];exact hs),?_⟩);exact Prod.ext (by show s.1=t.1;omega) (by show s.2.1=t.2.1;omega)
 refine⟨OF.co,fun b hb=>?_,fun s hs=>?_,fun i j s t hs ht e=>?_,h1,h2,h3⟩
 ·obtain⟨k,hk⟩:=Hq hb;obtain⟨⟨⟨a1,a2⟩,a3,a4⟩,a5,-,a6⟩:=nK.1 (ic h5 k b hk);exact⟨b.1.toNat,b.2.1.toNat,by omega,by omega,by omega,by omega,by omega,a6⟩
 ·obtain⟨k,hk⟩:=Hq hs;exact⟨(OE k s hk).2,(VB k s hk).2.2.2⟩
 ·rcases bs i j with h7|h7|h7
  ·exact absurd e (lt i j s t h7 hs ht)
  ·exact h7
  ·exact absurd e.symm (lt j i t s h7 ht hs)
theorem Eu(M:List (List Int))(r c r' c':Nat)(d:Int):ez (putAt M r c d) r' c'=d∨ez (putAt M r c d) r' c'=ez M r' c':=by
 by_cases h:r'=r∧c'=c
 ·obtain⟨rfl,rfl⟩:=h;rcases aP r' M.length with h1|h1
  ·rcases aP c' (M.getD r' []).length with h2|h2
   ·exact .inl (Et h1 h2)
   ·refine .inr ?_;unfold ez putAt;rw[mO h1,List.set_eq_of_length_le h2]
  ·refine .inr ?_;unfold ez putAt;rw[List.set_eq_of_length_le h1]
 ·exact .inr (jJ (by
   by_cases h1:r'=r
   ·exact .inr fun h2=>h ⟨h1,h2⟩
   ·exact .inl h1))
theorem Ev{k:Nat}(hk:k<f.nodes.length):f.node (k:Int)∈f.nodes:=by
 rw[fA.node,aE,List.getD,aB hk];exact aY hk
section
variable{f:fA}(h:GG f)
include h
theorem GG.dif{b:Int×Int×Rat}(hb:b∈f.bars)(k:Nat): -2000000<=(sS f b).getD k 0∧(sS f b).getD k 0<=2000000:=by
 obtain⟨ka,kb,ea,eb,hka,OH,-,-⟩:=h.Ma b hb;obtain⟨⟨a1,a2⟩,⟨a3,a4⟩,a5,a6⟩:=h.co _ (Ev hka);obtain⟨⟨b1,b2⟩,⟨b3,b4⟩,b5,b6⟩:=h.co _ (Ev OH);rw[sS,ea,eb]
 match k with
 |0=>simp[List.getD];omega
 |1=>simp[List.getD];omega
 |2=>simp[List.getD];omega
 |k+3=>simp[List.getD]
theorem GG.Ew{i:Nat}{b:Int×Int×Rat}(hb:f.bars[i]? =some b)(r:Nat):∀k,k<=3-> -2000000<=ez (eV f (du f i) i k) r i∧ez (eV f (du f i) i k) r i<=2000000
 |0,_=>by
  have:=mP f (r:=r) i (aF i);rw[eV,this];omega
 |k+1,hk=>by
  obtain⟨ka,kb,ea,eb,-,-,OD,-⟩:=h.Ma b (aC hb);have ih:=GG.Ew hb r k (by omega);have hd:=h.dif (aC hb) k;have z1:=oK (r:=3*ka+k) hb ea eb (show k<=3 by omega) (by omega);have z2:=oK (r:=3*kb+k) hb ea eb (show k<=3 by omega) (by omega);rw[eV];rw[Cz hb,toNat_add ea,toNat_add eb,gp,gp,z1,jJ (r':=3*kb+k) (.inl (by omega)),z2];rcases Eu (putAt (eV f (du f i) i k) (3*ka+k) i (0+(sS f b).getD k 0)) (3*kb+k) i r i (0+ -(sS f b).getD k 0)with e|e
  ·rw[e];omega
  ·rw[e];rcases Eu (eV f (du f i) i k) (3*ka+k) i r i (0+(sS f b).getD k 0)with e|e
   ·rw[e];omega
   ·rw[e];exact ih
theorem GG.Hr{i r:Nat}(hi:i<f.bars.length):∀j,i<j->j<=f.bars.length-> -2000000<=ez (du f j) r i∧ez (du f j) r i<=2000000
 |0,h1,_=>by omega
 |j+1,h1,h2=>by
  rw[du];rcases aP i j with h3|h3
  ·rw[vD (by omega)];exact GG.Hr hi j h3 (by omega)
  ·rw[show j=i by omega];exact h.Ew (aB hi) r 3 (aF _)
theorem GG.Gf{r i:Nat}(hs:f.cX[i]? =some s):ez (gk f) r (f.bars.length+i)=if r=gi s then 1 else 0:=
 Bv (jW f) (kF f) (fun s hs=>(h.sup s hs).1) hs _ (aD.1 hs).1
theorem GG.Ns(r c:Nat): -2000000<=ez (gk f) r c∧ez (gk f) r c<=2000000:=by
 rcases aP c f.bars.length with hc|hc
 ·rw[gk,zZ hc];exact h.Hr hc _ hc (aF _)
 ·rcases aP c f.cols with h1|h1
  ·obtain⟨i,rfl⟩:∃i,c=f.bars.length+i:=⟨c-f.bars.length,by omega⟩
   rw[fA.cols]at h1;rw[h.Gf (aB (show i<f.cX.length by omega))];split<;>omega
  ·have:ez (gk f) r c=0:=by
    unfold ez;rw[List.getD,List.getElem?_eq_none]
    ·rfl
    ·rcases aP r (gk f).length with h2|h2
     ·rw[List.getD,aB h2];show((gk f)[r]).length<=c;rw[jW f _ _ (aY h2)];exact h1
     ·rw[List.getD,List.getElem?_eq_none h2];exact aQ _
   rw[this];omega
theorem GG.pe(r c:Nat):Ib 2000000 (dD (cP f) r c):=by
 rw[Ge];have:=h.Ns r c;exact Ib.int (by omega)
theorem GG.mQ:BF (cP f) f.cols 2000000:=fun j _=>⟨1,by decide,Ib.one (by decide),fun t _=>by rw[bp];exact h.pe j t⟩
theorem GG.only{x:Nat->Rat}(hx:∀j,j<(cP f).length->mulR (cP f) f.cols x j=0)(h0:∀t,t<f.bars.length->x t=0):∀t,t<f.cols->x t=0:=fun t ht=>by
 rcases aP t f.bars.length with h1|h1
 ·exact h0 t h1
 ·obtain⟨i,rfl⟩:∃i,t=f.bars.length+i:=⟨t-f.bars.length,by omega⟩
  have hi:i<f.cX.length:=by unfold fA.cols at ht;omega
  have hs:=aB hi;have hr:=h.sup _ (aY hi);have h2:=hx (gi f.cX[i]) (by rw[e9];exact hr.1);unfold mulR at h2;rw[eh ht fun k hk OD=>?_,Ge,h.Gf hs,if_pos rfl]at h2
  ·have e:((1:Int):Rat)*x (f.bars.length+i)=x (f.bars.length+i):=bp _
   rwa [e]at h2
  ·rcases aP k f.bars.length with h3|h3
   ·rw[h0 k h3,bC]
   ·obtain⟨i',rfl⟩:∃i,k=f.bars.length+i:=⟨k-f.bars.length,by omega⟩
    have S8:i'<f.cX.length:=by unfold fA.cols at hk;omega
    have TC:=aB S8;rw[Ge,h.Gf TC,aJ fun e=>OD (by rw[h.one i i' _ _ hs TC e])];exact bE _
theorem GG.Ke{t:Nat}(ht:t<f.bars.length):0<(dO f).getD t 0:=by
 obtain⟨_,_,_,_,_,_,_,h1⟩:=h.Ma _ (aY ht);rw[dO,List.getD,aL (by rw[aK];exact ht),aM,aB ht];exact h1
theorem GG.Ey(t:Nat):0<=(dO f).getD t 0:=by
 rw[List.getD]
 cases ht:(dO f)[t]? with
 |none=>exact Rat.le_refl
 |some q=>
  show 0<=q;have hm:=aC ht;rcases bS.1 hm with hm|hm
  ·obtain⟨b,hb,rfl⟩:=aU.1 hm;obtain⟨_,_,_,_,_,_,_,h1⟩:=h.Ma b hb;exact Rat.le_of_lt h1
  ·obtain⟨s,hs,rfl⟩:=aU.1 hm;exact(h.sup s hs).2
theorem GG.Mc:Cy (cP f) f.cols fun t=>(dO f).getD t 0:=by
 refine⟨fE f,fun t _=>h.Ey t,fun x hx h0=>h.only hx fun t ht=>?_⟩;have h1:=wY (f:=fun t=>(dO f).getD t 0*(x t*x t)) (n:=f.cols) (fun k _=>Rat.mul_nonneg (h.Ey k) (sq_nonneg _)) (by rw[h0];exact Rat.le_refl) t (by unfold fA.cols;omega);have h2:=h.Ke ht;rcases Rat.mul_eq_zero.1 h1 with h3|h3
 ·rw[h3]at h2;exact absurd h2 (Rat.lt_irrefl)
 ·rcases Rat.mul_eq_zero.1 h3 with h4|h4<;>exact h4
end
theorem sU(f:Nat->Rat)(a:Nat):∀b,cZ f (a+b)=cZ f a+cZ (fun k=>f (a+k)) b
 |0=>(bW _).symm
 |b+1=>by rw[show a+(b+1)=a+b+1 by omega,cZ,cZ,sU f a b,Rat.add_assoc]
theorem vF{k:Nat}(hk:k<n):(cd M n).getD k []=M.map fun r=>r.getD k 0:=by
 unfold cd;exact getD_some (by rw[aM,bq hk];rfl)
theorem kP{k i:Nat}(hk:k<n):dD (cd M n) k i=dD M i k:=by
 rw[dD,dD,vF hk];rcases aP i M.length with h|h
 ·have hr:=aB h;rw[getD_some (show (M.map fun r=>r.getD k 0)[i]? =some (M[i].getD k 0) by rw[aM,hr];rfl),getD_some hr]
 ·rw[jI (by rw[aK];exact h),show M.getD i []=[] by rw[List.getD,List.getElem?_eq_none h];rfl];rfl
theorem eP(M:List (List Rat))(n:Nat):fZ M.length (cd M n):=fun r hr=>by
 obtain⟨k,_,rfl⟩:=aU.1 hr;exact aK ..
theorem dY(M:List (List Rat))(n:Nat):(cd M n).length=n:=by simp[cd]
theorem Ez(hM:fZ n M):cd (cd M n) M.length=M:=by
 refine fH [] (dY _ _) fun i hi=>?_;rw[dY]at hi;have hr:=hM.getD hi;refine fH 0 (by rw[vF hi,aK,dY,hr]) fun t ht=>?_;rw[vF hi,aK,dY]at ht;have:=kP (M:=cd M n) (n:=M.length) (i:=t) hi;rw[kP ht]at this;exact this
abbrev nf(M:List (List Rat))(n:Nat):Nat:=(cN M n).2.length
section
variable{M:List (List Rat)}{n:Nat}
theorem Is(hM:fZ n M){G:Mx}{r:Nat}(h:∀j,j<M.length->eJ G r n (dD M j)):nf M n<=r:=by
 obtain⟨r1,r2,r3,r4,r5⟩:=dc hM n (aF _);have hl:=eB M n;have hrk:nf M n=(cN M n).2.length:=rfl;have hB:∀i,∃c:Nat->Rat,i<nf M n->∀t,t<n->dD (cN M n).1 i t=cZ (fun k=>c k*G k t) r:=fun i=>by
  by_cases hi:i<nf M n
  ·obtain⟨c,hc⟩:=((jV hM n (aF _)).1 i (by omega)).trans h;exact⟨c,fun _=>hc⟩
  ·exact⟨fun _=>0,fun h=>absurd h hi⟩
 obtain⟨D,hD⟩:∃D:Nat->Nat->Rat,∀i,i<nf M n->∀t,t<n->dD (cN M n).1 i t=cZ (fun k=>D i k*G k t) r:=⟨fun i=>(hB i).choose,fun i=>(hB i).choose_spec⟩
 refine Nat.le_of_not_lt fun OU=>?_;obtain⟨T,hT⟩:∃T:List (List Rat),T=(List.range r).map fun k=>(List.range (nf M n)).map fun i=>D i k:=⟨_,rfl⟩
 have hTl:T.length=r:=by rw[hT];simp
 have hTn:fZ (nf M n) T:=fun x hx=>by
  rw[hT]at hx;obtain⟨k,_,rfl⟩:=aU.1 hx;simp
 have hTat:∀k i,k<r->i<nf M n->dD T k i=D i k:=fun k i hk hi=>by
  have h1:T[k]? =some ((List.range (nf M n)).map fun i=>D i k):=by rw[hT,aM,bq hk];rfl
  rw[dD,getD_some h1];exact getD_some (by rw[aM,bq hi];rfl)
 obtain⟨-,t2,-⟩:=dc hTn (nf M n) (aF _);have VC:=lV T (nf M n);rw[eB,hTl]at t2;have hc:=zV hTn;have RA:0<(cV T (nf M n)).length:=by omega
 have hy:=p9 hTn RA;have Ph:∀i,i<nf M n->dD (cV T (nf M n)) 0 i=0:=fun j hj=>by
  have hpj:(cN M n).2.getD j 0<n:=r4 _ (by rw[List.getD,aB hj];exact aY _);have e1:cZ (fun i=>dD (cV T (nf M n)) 0 i*dD (cN M n).1 i ((cN M n).2.getD j 0)) (nf M n)=0:=by
   rw[cL (g:=fun i=>cZ (fun k=>dD (cV T (nf M n)) 0 i*(D i k*G k ((cN M n).2.getD j 0))) r) fun i hi=>by rw[hD i hi _ hpj,eR],lP,cL (g:=fun _=>0) fun k hk=>?_,dm];have h2:=hy k (by omega);unfold mulR at h2;rw[cL (g:=fun i=>(dD T k i*dD (cV T (nf M n)) 0 i)*G k ((cN M n).2.getD j 0)) fun i hi=>by rw[hTat k i hk hi];grind,iy,h2,bE]
  rw[eh hj fun i hi OD=>by rw[r5 j i hj (by omega),aJ OD,bC],r5 j j hj (by omega),if_pos rfl,Rat.mul_one]at e1;exact e1
 have h3:=Hj (M:=T) (n:=nf M n) (c:=fun k=>if k=0 then 1 else 0) (fun t ht=>by
  rw[eh RA fun k _ OD=>by rw[aJ OD,bE],if_pos rfl,bp]
  exact Ph t ht) 0 RA
 exact absurd h3 (by decide)
theorem rR(hM:fZ n M):nf (cd M n) M.length<=nf M n:=by
 obtain⟨r1,r2,r3,r4,r5⟩:=dc hM n (aF _);have hl:=eB M n;have hrk:nf M n=(cN M n).2.length:=rfl;have hrf:=zH hM;refine Is (eP M n) (G:=fun i j=>dD M j ((cN M n).2.getD i 0)) fun t ht=>?_;rw[dY]at ht;refine⟨fun i=>dD (cN M n).1 i t,fun j hj=>?_⟩;rw[kP ht];have h1:eJ (dD (cN M n).1) (nf M n) n (dD M j):=((jV hM n (aF _)).2 j hj).cut fun i t h1 h2 ht=>r3 i t h1 (by omega) ht;rw[hrf.coeff h1 t ht];exact cL fun i _=>bg _ _
theorem Gg(hM:fZ n M):nf (cd M n) M.length=nf M n:=by
 refine aO (rR hM) ?_;have h:=rR (eP M n);rw[dY,Ez hM]at h;exact h
theorem Kf(hM:fZ n M)(hr:nf M n=M.length):Ct (dD M) M.length n:=by
 obtain⟨r1,r2,r3,r4,r5⟩:=dc hM n (aF _);have hl:=eB M n;have hrk:nf M n=(cN M n).2.length:=rfl;refine(wZ hM n (aF _)).1 fun x hx j hj=>?_;have hj2:j<(cN M n).2.length:=by omega
 have hpj:(cN M n).2.getD j 0<n:=r4 _ (by rw[List.getD,aB hj2];exact aY _);have h1:=hx _ hpj;rw[eh hj fun i hi OD=>by rw[r5 j i hj2 (by omega),aJ OD,bC],r5 j j hj2 (by omega),if_pos rfl,Rat.mul_one]at h1;exact h1
theorem Bx{k:Nat}(hk:k<n):mulR (cd M n) M.length y k=cZ (fun i=>dD M i k*y i) M.length:=cL fun i _=>by rw[kP hk]
def jq(M:List (List Rat))(n:Nat)(fl:List Rat):List (List Rat):=(M.map fun r=>List.replicate M.length 0++r)++(List.range n).map fun j=>(M.map fun r=>r.getD j 0)++(List.replicate n 0).set j (fl.getD j 0)
theorem iz(fl:List Rat):(jq M n fl).length=M.length+n:=by unfold jq;rw[List.length_append,aK,aK,List.length_range]
theorem qt(hM:fZ n M)(fl:List Rat):fZ (M.length+n) (jq M n fl):=fun r hr=>by
 rcases bS.1 hr with hr|hr
 ·obtain⟨x,hx,rfl⟩:=aU.1 hr;rw[List.length_append,bG,hM x hx]
 ·obtain⟨x,hx,rfl⟩:=aU.1 hr;rw[List.length_append,aK,bF,bG]
theorem DA{i t:Nat}(hi:i<M.length):(t<M.length->dD (jq M n fl) i t=0)∧dD (jq M n fl) i (M.length+t)=dD M i t:=by
 have hr:=aB hi;have h:(jq M n fl)[i]? =some (List.replicate M.length 0++M[i]):=by
  unfold jq;rw[aL (by rw[aK];exact hi),aM,hr];rfl
 refine⟨fun ht=>?_,?_⟩
 ·rw[dD,getD_some h];exact getD_some (by rw[aL (by rw[bG];exact ht),List.getElem?_replicate,if_pos ht])
 ·rw[dD,dD,getD_some h,getD_some hr,List.getD,List.getD,aN (by rw[bG];exact Nat.le_add_right _ _),bG,Nat.add_sub_cancel_left]
theorem z5{j t:Nat}(hj:j<n):(t<M.length->dD (jq M n fl) (M.length+j) t=dD M t j)∧(t<n->dD (jq M n fl) (M.length+j) (M.length+t)=if t=j then fl.getD j 0 else 0):=by
 have h:(jq M n fl)[M.length+j]? =some ((M.map fun r=>r.getD j 0)++(List.replicate n 0).set j (fl.getD j 0)):=by
  unfold jq;rw[aN (by rw[aK];exact Nat.le_add_right _ _),aK,Nat.add_sub_cancel_left,aM,bq hj];rfl
 refine⟨fun ht=>?_,fun ht=>?_⟩
 ·have hr:=aB ht;rw[dD,dD,getD_some h,getD_some hr];exact getD_some (by rw[aL (by rw[aK];exact ht),aM,hr];rfl)
 ·rw[dD,getD_some h];by_cases e:t=j
  ·subst e;rw[if_pos rfl];exact getD_some (by rw[aN (by rw[aK];exact Nat.le_add_right _ _),aK,Nat.add_sub_cancel_left,aV (by rw[bG];exact ht)])
  ·rw[aJ e];exact getD_some (by rw[aN (by rw[aK];exact Nat.le_add_right _ _),aK,Nat.add_sub_cancel_left,aZ (Ne.symm e),List.getElem?_replicate,if_pos ht])
theorem By{i:Nat}(hi:i<M.length):mulR (jq M n fl) (M.length+n) z i=mulR M n (fun t=>z (M.length+t)) i:=by
 unfold mulR;rw[sU,cL (g:=fun _=>0) fun t ht=>by rw[(DA hi).1 ht,bE],dm,Rat.zero_add];exact cL fun t _=>by rw[(DA hi).2]
theorem Bz{j:Nat}(hj:j<n):mulR (jq M n fl) (M.length+n) z (M.length+j)=cZ (fun i=>dD M i j*z i) M.length+fl.getD j 0*z (M.length+j):=by
 unfold mulR;rw[sU,cL fun t ht=>by rw[(z5 hj).1 ht]];congr 1;rw[eh hj fun t ht OD=>by rw[(z5 hj).2 ht,aJ OD,bE],(z5 hj).2 hj,if_pos rfl]
theorem Iu(h:∀j,j<M.length->mulR M n y j=0):cZ (fun t=>y t*cZ (fun i=>dD M i t*u i) M.length) n=0:=by
 rw[cL (g:=fun t=>cZ (fun i=>y t*(dD M i t*u i)) M.length) fun t _=>by rw[eR],lP,cL (g:=fun _=>0) fun i hi=>?_,dm];have h1:=h i hi;unfold mulR at h1;rw[cL (g:=fun t=>dD M i t*y t*u i) fun t _=>by grind,iy,h1,bE]
end
section
variable{M:List (List Rat)}{n:Nat}{fl b:List Rat}
theorem lX.aAZ(hM:fZ n M){x:List Rat}(h:lX M n (fun t=>fl.getD t 0) b x):∃u,ed (cd M n) (cW (fR x fl) (-1)) M.length=some u:=by
 cases e:ed (cd M n) (cW (fR x fl) (-1)) M.length with
 |some u=>exact⟨u,rfl⟩
 |none=>
  obtain⟨y,y1,y2⟩:=lT (eP M n) e;rw[dY]at y1 y2;refine absurd ?_ y2;have UK:∀j,j<M.length->mulR M n y j=0:=fun j hj=>Eq.trans (cL fun t ht=>by rw[kP ht,bg]) (y1 j hj);obtain⟨c,hc⟩:=Cw hM UK;have hb:∀t,t<n->(cW (fR x fl) (-1)).getD t 0= -(fl.getD t 0*x.getD t 0):=fun t ht=>by
   have h1:=nJ (a:=x) (b:=fl) (t:=t) (by rw[h.len];exact ht);have hl:t<(fR x fl).length:=by rw[fR,List.length_mapIdx,h.len];exact ht
   rw[getD_some (aB hl)]at h1;rw[getD_some (show (cW (fR x fl) (-1))[t]? =some ((fR x fl)[t]* -1) by rw[cW,aM,aB hl];rfl),h1];grind
  have e1:cZ (fun t=>y t*(cW (fR x fl) (-1)).getD t 0) n= -(uz (fun t=>fl.getD t 0) (fun t=>x.getD t 0) y n):=by
   unfold uz;rw[<-nH];exact cL fun t ht=>by rw[hb t ht];grind
  rw[e1,vA (x':=fun t=>x.getD t 0) (fun _ _=>rfl) hc,ta,cL (g:=fun _=>0) fun k hk=>by rw[tZ,h.st k hk,bC],dm];rfl
theorem z6(x fl:List Rat){n t:Nat}(hx:x.length=n)(ht:t<n):(cW (fR x fl) (-1)).getD t 0= -(fl.getD t 0*x.getD t 0):=by
 have h1:=nJ (a:=x) (b:=fl) (t:=t) (by rw[hx];exact ht);have hl:t<(fR x fl).length:=by rw[fR,List.length_mapIdx,hx];exact ht
 rw[getD_some (aB hl)]at h1;rw[getD_some (show (cW (fR x fl) (-1))[t]? =some ((fR x fl)[t]* -1) by rw[cW,aM,aB hl];rfl),h1];grind
theorem Kg(hM:fZ n M){x u:List Rat}(hb:b.length=M.length)(h:lX M n (fun t=>fl.getD t 0) b x)(hu:ed (cd M n) (cW (fR x fl) (-1)) M.length=some u):
  (u++x).length=M.length+n∧∀j,j<(jq M n fl).length->mulR (jq M n fl) (M.length+n) (fun t=>(u++x).getD t 0) j=(b++vB n).getD j 0:=by
 obtain⟨u1,u2⟩:=jx (eP M n) hu;rw[dY]at u2;have ha:∀t,t<M.length->(u++x).getD t 0=u.getD t 0:=fun t ht=>by rw[List.getD,aL (by omega),<-List.getD]
 have hc:∀t,(u++x).getD (M.length+t) 0=x.getD t 0:=fun t=>by rw[List.getD,aN (by omega),u1,Nat.add_sub_cancel_left,<-List.getD]
 refine⟨by rw[List.length_append,u1,h.len],fun j hj=>?_⟩;rw[iz]at hj;rw[pc];rcases aP j M.length with h1|h1
 ·rw[By h1,sT (y:=fun t=>x.getD t 0) fun t _=>hc t];exact h.eq j h1
 ·obtain⟨k,rfl⟩:∃k,j=M.length+k:=⟨j-M.length,by omega⟩
  have hk:k<n:=by omega
  rw[Bz hk,hc,jI (l:=b) (by omega),cL (g:=fun i=>dD M i k*u.getD i 0) fun i hi=>by rw[ha i hi]];have h2:=u2 k hk;rw[Bx hk,z6 x fl h.len hk]at h2;rw[h2];grind
theorem Kh(hM:fZ n M){z:List Rat}(hb:b.length=M.length)(hz:ed (jq M n fl) (b++vB n) (M.length+n)=some z):lX M n (fun t=>fl.getD t 0) b (z.drop M.length):=by
 obtain⟨z1,z2⟩:=jx (qt hM fl) hz;have hd:∀t,(z.drop M.length).getD t 0=z.getD (M.length+t) 0:=fun t=>by rw[List.getD,List.getD,List.getElem?_drop]
 refine⟨by rw[List.length_drop,z1];omega,fun j hj=>?_,fun k hk=>?_⟩
 ·have h1:=z2 j (by rw[iz];omega);rw[By hj,pc]at h1;rw[<-h1];exact sT (fun t _=>hd t) j
 ·have h0:=Iu (u:=fun i=>z.getD i 0) (p9 hM hk);unfold uz;have e:cZ (fun t=>fl.getD t 0*(dD (cV M n) k t*(z.drop M.length).getD t 0)) n= -cZ (fun t=>dD (cV M n) k t*cZ (fun i=>dD M i t*z.getD i 0) M.length) n:=by
   rw[<-nH];refine cL fun t ht=>?_;have h1:=z2 (M.length+t) (by rw[iz];omega);rw[Bz ht,pc,jI (l:=b) (by omega)]at h1;rw[hd];grind
  rw[e,h0];rfl
theorem Iw(hM:fZ n M)(hr:nf M n=M.length):∃x,ed M b n=some x:=by
 cases e:ed M b n with
 |some x=>exact⟨x,rfl⟩
 |none=>
  obtain⟨y,y1,y2⟩:=lT hM e;have:=Kf hM hr y y1;exact absurd (by rw[cL (g:=fun _=>0) fun j hj=>by rw[this j hj,bE],dm]) y2
end
end Go.Ex
namespace Go.Ex
open Go Go.Sx Go.Proofs
variable{S:Nat->Prop}{w:World}{f:fA}
section
variable{S S':Nat->Prop}{H:Hp}{nx:Nat}{iv iv':Iv}{B:Nat}{w w' w2:World}{O:Nat->Sx.dx}{v:Value}{M:List (List Int)}
theorem mG.rel(h:mG w (Cv S B iv) v M)(r:Rel H nx iv B w O w')(hS:∀g,S g->g<B):mG w' (Cv S B iv) v M:=mG.cJ h fun _ hg=>Rel.same r hS hg
theorem mG.cG(h:mG w (Cv S B iv) v M)(r:Rel H nx iv B w O w')(hS:∀g,S g->g<B)(he:Ext w' w2)(hm:∀p,p∈iv->p∈iv'):mG w2 (Cv S B iv') v M:=
 mG.cK ((mG.rel h r hS).cJ fun g hg=>he.block g (Rel.old r hS g hg)) fun _ hg=>hg.mono hm
theorem mG.dB(h:mG w2 (Nf w' w2) v M)(hB:B<=w'.heap.size)(hm:(w'.heap.size,w2.heap.size)∈iv):mG w2 (Cv S B iv) v M:=mG.cK h fun _ hg=>hg.dB hB hm
end
theorem HN(Z:List (List Int))(k:Nat):c9 (Z.map fun l=>l.getD k 0)=(Z.map c9).map fun r=>r.getD k 0:=by
 rw[c9,List.map_map,List.map_map];refine List.map_congr_left fun l _=>?_;show((l.getD k 0:Int):Rat)=(c9 l).getD k 0;rw[c9,List.getD,List.getD,aM]
 cases l[k]? <;>rfl
theorem Fl(M:List (List Rat))(k:Nat):cd M k++[M.map fun r=>r.getD k 0]=cd M (k+1):=by
 rw[cd,cd,bM,List.map_append];rfl
set_option maxHeartbeats 1000000 in
theorem JQ{vn vb vs:Value}(hS:Old S w)(hf:dU w S vn vb vs f)(OP:eL f=0):
  eA PG N.tu #[.agg #[vn,vb,vs]] w (eF w fun v' w2=>cR w2 (Nf w w2) v' (cd (cP f) f.cols)):=by
 have hw:=bR w;have hv:=Kd OP;obtain⟨an,cn,ab,cb,aq,cq,rfl,rfl,rfl,Q1,Qh,RN⟩:=hf.shape;obtain⟨TR,SY,SZ⟩:=And.intro hv.n (And.intro hv.b hv.s);have Px:f.cols=f.bars.length+f.cX.length:=rfl;have hZl:(gk f).length=3*f.nodes.length:=kF f _;refine xj (by simp) ?_;refine cF (cE hw (fun _ w' v w2=>mG w2 (Nf w' w2) v (gk f)∧FW (gk f) 2000000) (fun O w' r=>wE (S:=S) (oS hS r) (hf.cJ (kS hw r hS)) OP) ?_);rintro O _ _ _ OJ r he hw h_ ⟨hn,OW⟩;have hM:=mG.dB (S:=FF) hn r.cD (mN h_);obtain⟨am,cm,rfl,-,Qg⟩:=dM.shape hM;obtain⟨Z,hZ⟩:∃Z,gk f=Z:=⟨_,rfl⟩
 have htab:cP f=Z.map c9:=by rw[cP,hZ]
 have VK:∀l∈Z,l.length=f.cols:=by rw[<-hZ];exact jW f _
 rw[hZ]at hM OW hZl Qg ⊢
 refine⟨Nat×List Value×World×Iv,fun z=>⟨[(1,pP 0 0),(3,sV am Z.length cm),(4,.o (.w 1 z.2.1.length)),(5,iN z.1)],[(1,.vec T.gA 1 z.2.1),(0,.box T.Frame [.v (.slice an f.nodes.length cn),.v (.slice ab f.bars.length cb),.v (.slice aq f.cX.length cq)])],2,z.2.2.2,z.2.2.1⟩,fun z=>f.cols-z.1,
  fun z=>z.1<=f.cols∧eE w.heap.size w z.2.2.1∧mG z.2.2.1 (Cf w z.2.2.2) (.slice am Z.length cm) Z∧dh z.2.2.1 (Cf w z.2.2.2) z.2.1 (cd (Z.map c9) z.1),?_,?_⟩
 ·intro O w' r;exact⟨(0,[],w',_),⟨aQ _,hw.tr r.cQ,mG.rel hM r (cC w),by simp[dh,cd]⟩,Sub.nil 4 T.gA 1 rfl (by simp[j8,SV.sc,At.sc,fa]) r fun ρ1 r1=>Sub.gn [] r1⟩
 rintro⟨k,rv,w1,iv⟩ ⟨hk,hw,hM,hK⟩;dsimp only at hk hw hM hK ⊢;have Of:rv.length=k:=by rw[hK.1,kI]
 refine cF (cE hw (fun _ w' v w2=>v= .int .i64 f.cols) (fun O w' r=>me (hf.cJ (kS hw r hS)) ⟨SY,SZ⟩) ?_);rintro O _ _ _ OG r he hw h_ rfl;replace hM:=mG.cG hM r (cC w) he (mC h_);replace hK:=hK.cG r (cC w) he (mC h_);refine dK.mk ?_ ?_<;>intro OH
 ·have OH:k<f.cols:=by simpa using OH
  refine⟨Nat×List (List Value)×World×Iv,fun z=>⟨[(1,pP 0 0),(3,sV am Z.length cm),(4,.o (.w 1 rv.length)),(5,iN k),(6,.o (.w 2 z.2.1.length)),(7,iN z.1)],[(2,.vec T.Rat 4 z.2.1.flatten),(1,.vec T.gA 1 rv),(0,.box T.Frame [.v (.slice an f.nodes.length cn),.v (.slice ab f.bars.length cb),.v (.slice aq f.cX.length cq)])],3,z.2.2.2,z.2.2.1⟩,fun z=>Z.length-z.1,
   fun z=>z.1<=Z.length∧eE w.heap.size w z.2.2.1∧mG z.2.2.1 (Cf w z.2.2.2) (.slice am Z.length cm) Z∧dh z.2.2.1 (Cf w z.2.2.2) rv (cd (Z.map c9) k)∧eN z.2.2.1 (Cf w z.2.2.2) z.2.1 (c9 ((Z.map fun l=>l.getD k 0).take z.1)),?_,?_⟩
  ·intro O w' r;exact⟨(0,[],w',_),⟨aQ _,hw.tr r.cQ,mG.rel hM r (cC w),hK.rel r (cC w),eN.nil⟩,Sub.nil 6 T.Rat 4 rfl (by simp[j8,SV.sc,At.sc,fa]) r fun ρ1 r1=>Sub.gn [] r1⟩
  rintro⟨i,css,w3,iv⟩ ⟨hi,hw,hM,hK,hG⟩;dsimp only at hi hw hM hK hG ⊢;have OX:=eY hG.four;have TS:css.length=i:=by rw[hG.len,c9,aK,aW,aK];omega
  refine dK.mk ?_ ?_<;>intro OC
  ·have OC:i<Z.length:=by simpa using OC
   obtain⟨l,hl⟩:∃x,Z[i]? =some x:=⟨_,aB OC⟩
   have hlw:=VK l (aC hl);obtain⟨z,hz⟩:∃x,l[k]? =some x:=⟨_,aB (by omega)⟩
   have SL:=OW l (aC hl) z (aC hz);have UX:(Z.map fun l=>l.getD k 0)[i]? =some z:=by rw[aM,hl];show some (l.getD k 0)=_;rw[List.getD,hz];rfl
   obtain⟨adm,um,Qd,Oh,km1,km2⟩:=dM.load hM hl;obtain⟨al,cl,rfl,-,QO⟩:=Oh.shape;obtain⟨adx,PC,hSx,Oa⟩:=EC.at Oh hz;refine⟨adm,Qd,by omega,.slice al l.length cl,fun O w' r=>?_,?_⟩
   ·rw[aE,cH (w:=w3) (w2:=w') (by rw[dN];exact Rel.same r (cC w) km1)];exact km2
   refine⟨adx,PC,by omega,.int .i64 z,fun O w' r=>?_,?_⟩
   ·rw[aE,cH (w:=w3) (w2:=w') (by rw[dN];exact Rel.same r (cC w) hSx)];exact Oa
   refine cF (cE hw (fun _ w' v w2=>cT w2 (Nf w' w2) v (z:Rat)) (fun O w' r=>jO z w' (by omega)) ?_);rintro O _ _ _ ON r he hw h_ hn;replace hM:=mG.cG hM r (cC w) he (mC h_);replace hK:=hK.cG r (cC w) he (mC h_);replace hG:=hG.cG r (cC w) he (mC h_);have hd:=hn.dB (S:=FF) r.cD (mN h_);obtain⟨A0,A1,A2,A3,A4,A5,A6,A7,rfl⟩:=hd.shape;have S2:=hG.push (cs:=[.bool A0,.slice A1 A2 A3,.bool A4,.slice A5 A6 A7]) (q:=(z:Rat)) ⟨_,_,_,_,_,_,_,_,rfl,hd⟩ rfl;rw[<-og UX]at S2;have Pt:css.flatten++([.bool A0,.slice A1 A2 A3,.bool A4,.slice A5 A6 A7]:List Value)=(css++([[.bool A0,.slice A1 A2 A3,.bool A4,.slice A5 A6 A7]]:List (List Value))).flatten:=by simp
   refine .inl ?_;refine⟨by omega,by omega,by unfold maxLen;omega,((i+1:Nat):Int),wo,?_⟩;intro ρ3 w6 r3;exact⟨(i+1,css++[[.bool A0,.slice A1 A2 A3,.bool A4,.slice A5 A6 A7]],w6,_),⟨OC,hw.tr r3.cQ,mG.rel hM r3 (cC w),hK.rel r3 (cC w),S2.rel r3 (cC w)⟩,Sub.gn [(2,4)] r3 ⟨by dsimp only;rw[<-Pt];rfl,rfl,rfl,trivial⟩ ⟨rfl,rfl,rfl,rfl,by dsimp only;rw[List.length_append,List.length_singleton];rfl,rfl,trivial⟩,by dsimp only;omega⟩
  have OC:i=Z.length:=aO hi (by simpa using OC);have Sb:c9 ((Z.map fun l=>l.getD k 0).take i)=(Z.map c9).map fun r=>r.getD k 0:=by rw[OC,<-aK (f:=fun l:List Int=>l.getD k 0),bD,HN]
  rw[Sb]at hG;refine nm hτ (id3:=3) (id2:=2) (tH:=[(1,.vec T.gA 1 rv),(0,.box T.Frame [.v (.slice an f.nodes.length cn),.v (.slice ab f.bars.length cb),.v (.slice aq f.cX.length cq)])]) rfl rfl rfl rfl (by simp) (by first|exact⟨rfl,trivial⟩|exact⟨rfl,rfl,trivial⟩) rfl rfl (fun O w' r r2 S3=>?_);have OE:=eN.list ((hG.rel r (cC w)).cK fun g hg=>Cv.mono (iv':=((O 3).g,(O 3).g+1)::js (O 2) iv) hg fun p hp=>List.mem_cons_of_mem _ (nF p hp)) ((r.LX (id:=2) (sz:=4) (m:=css.length) rfl OX (by unfold maxLen;omega) (by decide) hG.one).cK fun g hg=>Cv.mono hg fun p hp=>List.mem_cons_of_mem _ hp);have Pm:((At.w 2 css.length).den O).oneCell'=true:=At.LY;have Rd:=r.low 3 _ rfl (r.fits (id:=3) rfl).1;have hC3:Cf w (((O 3).g,(O 3).g+1)::js (O 2) iv) (O 3).g:=.inr ⟨Rd.1,_,_,aG,aF _,bZ _⟩;have Po:∀p,p∈iv->p∈((O 3).g,(O 3).g+1)::js (O 2) iv:=fun p hp=>List.mem_cons_of_mem _ (nF p hp);have Oz:=hw.tr r.cQ;have hK1:=(hK.rel r (cC w)).cK fun g hg=>Cv.mono hg Po;have hM1:=mG.cK (mG.rel hM r (cC w)) fun g hg=>Cv.mono hg Po;generalize (At.w 2 css.length).den O=ur at*
  generalize (O 3).g=gy at*
  generalize (gy,gy+1)::js (O 2) iv=OG at*
  refine⟨[ur],rfl,by simpa using Pm,fun ρ2 w2 r2 _=>⟨_,rfl,fun j u hu=>?_⟩,?_⟩
  ·have h5:=Rel.same r2 (gQ _) hC3;rw[dV,cell_of (h5.trans S3)];rcases j with _|j
   ·exact hu
   ·cases hu
  refine⟨by simp,by omega,by unfold maxLen;omega,?_⟩;have Qe:=hK1.push Pm OE;rw[Fl]at Qe;refine⟨((k+1:Nat):Int),wo,?_⟩;intro ρ3 w6 r3;exact⟨(k+1,rv++[ur],w6,_),⟨OH,Oz.tr r3.cQ,mG.rel hM1 r3 (cC w),Qe.rel r3 (cC w)⟩,Sub.gn [(1,4)] r3 (hE:=⟨rfl,rfl,by dsimp only;rw[List.length_append,List.length_singleton];rfl,rfl,trivial⟩),by dsimp only;omega⟩
 have OH:k=f.cols:=aO hk (by simpa using OH);rw[OH]at hK;rw[htab];intro ρe we re;refine⟨_,rfl,hw.tr re.cQ,rv,?_,hK.1,fun i u x k1 k2=>cI.out (hK.2.2 i u x k1 k2) re (cC w)⟩;have h5:=re.iG (id:=1) (sz:=1) (m:=rv.length) rfl (by simp) (by unfold maxLen;omega) (by decide) hK.2.1;rw[show (cd (Z.map c9) f.cols).length=rv.length from hK.1.symm];exact h5.cK fun g hg=>.inr hg
set_option maxHeartbeats 1000000 in
theorem wF{vn vb vs vl:Value}{l:List Ld}(hS:Old S w)(hf:dU w S vn vb vs f)(hl:fL w S vl l)(TR:f.nodes.length<=20)(OF:nL f.nodes.length l):
  eA PG N.tf #[.agg #[vn,vb,vs],vl] w (eF w fun v' w2=>cI w2 (Nf w w2) v' (dI f l)):=by
 have hw:=bR w;obtain⟨an,cn,ab,cb,aq,cq,rfl,rfl,rfl,Q1,Qh,RN⟩:=hf.shape;obtain⟨al,cl,rfl,PU,QO⟩:=hl.shape;have hl200:=OF.len;refine x8 (by simp) ?_;refine⟨((3*f.nodes.length:Nat):Int),wo,?_⟩;obtain⟨m,hm⟩:∃m,3*f.nodes.length=m:=⟨_,rfl⟩
 rw[hm]
 refine⟨m,m,rfl,rfl,aF _,by omega,by omega,Nat×World,fun z=>⟨[(1,sV al l.length cl),(5,.o (.s 1 0 m m)),(6,iN z.1)],[(1,.arr T.int (zv (fU f.nodes.length l z.1)))],2,[],z.2⟩,fun z=>l.length-z.1,
  fun z=>z.1<=l.length∧eE w.heap.size w z.2∧MR (fU f.nodes.length l z.1) (3000000*z.1),?_,?_⟩
 ·intro O w' r3;exact⟨(0,w'),⟨aQ _,hw.tr r3.cQ,fun z hz=>by rw[fU]at hz;rw[bP hz];exact⟨Int.le_refl _,Int.le_refl _⟩⟩,Sub.gn [] r3 ⟨by dsimp only;rw[fU,hm,zv,List.map_replicate];rfl,trivial⟩⟩
 rintro⟨i,w1⟩ ⟨hi,hw,OW⟩;dsimp only at hi hw OW ⊢;refine dK.mk ?_ ?_<;>intro OC
 ·have OC:i<l.length:=by simpa using OC
  obtain⟨x,hx⟩:∃x,l[i]? =some x:=⟨_,aB OC⟩
  obtain⟨hn,SH,RM,hx3⟩:=OF.ld x (aC hx);obtain⟨kn,hkn⟩:=Int.eq_ofNat_of_zero_le hn.1;obtain⟨adx,cs,PC,hP,-,Oa⟩:=hl.load (by decide) hx;have hP:cs=[.int .i64 x.1,.int .i64 x.2.1,.int .i64 x.2.2.1,.int .i64 x.2.2.2]:=hP;subst hP;obtain⟨s0,Uo⟩:∃s,fU f.nodes.length l i=s:=⟨_,rfl⟩
  rw[Uo]at OW;have R1:s0.length=m:=by rw[<-Uo,kB,hm]
  obtain⟨z0,OM⟩:∃z,s0[3*kn]? =some z:=⟨_,aB (by omega)⟩
  obtain⟨z1,OR⟩:∃z,s0[3*kn+1]? =some z:=⟨_,aB (by omega)⟩
  obtain⟨z2,Oq⟩:∃z,s0[3*kn+2]? =some z:=⟨_,aB (by omega)⟩
  have b0:=OW z0 (aC OM);have b1:=OW z1 (aC OR);have b2:=OW z2 (aC Oq);have n1:gT s0 x 1=s0.set (3*kn) (z0+x.2.1):=(mb (k:=0) (j:=3*kn) (by omega) rfl OM).symm;have n2:gT s0 x 2=(s0.set (3*kn) (z0+x.2.1)).set (3*kn+1) (z1+x.2.2.1):=by
   rw[<-n1];exact(mb (k:=1) (j:=3*kn+1) (by omega) rfl (by rw[n1,aZ (by omega)];exact OR)).symm
  have n3:gT s0 x 3=((s0.set (3*kn) (z0+x.2.1)).set (3*kn+1) (z1+x.2.2.1)).set (3*kn+2) (z2+x.2.2.2):=by
   rw[<-n2];exact(mb (k:=2) (j:=3*kn+2) (by omega) rfl (by rw[n2,aZ (by omega),aZ (by omega)];exact Oq)).symm
  have QR:gT s0 x 3=fU f.nodes.length l (i+1):=by rw[fU,show l.getD i (0,0,0,0)=x by rw[List.getD,hx];rfl,Uo]
  have hbd1:=OW.set (j:=3*kn) (z:=z0+x.2.1) (t2:=3000000*i+1000000) (by omega) (by omega);have Rc:=hbd1.set (j:=3*kn+1) (z:=z1+x.2.2.1) (t2:=3000000*i+2000000) (by omega) (by omega);have hbd3:=Rc.set (j:=3*kn+2) (z:=z2+x.2.2.2) (t2:=3000000*i+3000000) (by omega) (by omega);rw[<-n3,QR]at hbd3;rw[Uo];refine⟨adx,PC,by omega,.int .i64 x.1,fun O w' r=>?_,?_⟩
  ·obtain⟨k1,k2⟩:=Oa 0 _ rfl;rw[cH (w:=w) (w2:=w') (by simp only[dN];exact(hw.tr r.cQ).block _ (hS _ k1))];simp only[aE,k7]at k2 ⊢;exact k2
  refine⟨((3*kn:Nat):Int),wo,?_⟩;refine cM hτ df [.x 0,.x 1,.x 2,.x 3,.x 4,.x 5,.x 6,.x 7,.x 8,.x 9,.x 10,.x 11,.x 12,.x 13,.x 14,.x 15,.x 16,.x 17,.x 18,.x 19,.x 20,.x 21,.x 22,.x 23,.x 24,.x 25,.x 26,.x 27,.x 28,.x 29,.x 30,.x 31,.x 32,.x 33,.x 34,.x 35,.x 36,.x 37,.x 38,.x 39,.x 40,.x 41,.x 42,.x 43,.x 44,.x 45] (by kernel_rfl) (by kernel_rfl) ?_;refine⟨((3*kn+1:Nat):Int),wo,((3*kn+2:Nat):Int),wo,by omega,.int .i64 z0,by rw[aE,aT,aR];exact CN OM,adx,PC,by omega,.int .i64 x.2.1,fun O w' r=>?_,?_⟩
  ·obtain⟨k1,k2⟩:=Oa 1 _ rfl;rw[cH (w:=w) (w2:=w') (by simp only[dN];exact(hw.tr r.cQ).block _ (hS _ k1))];simp only[aE,k7]at k2 ⊢;exact k2
  refine⟨z0+x.2.1,wo,((3*kn+1:Nat):Int),wo,by omega,.int .i64 z1,by rw[aE,aT,aR];exact CN OR,adx,PC,by omega,.int .i64 x.2.2.1,fun O w' r=>?_,?_⟩
  ·obtain⟨k1,k2⟩:=Oa 2 _ rfl;rw[cH (w:=w) (w2:=w') (by simp only[dN];exact(hw.tr r.cQ).block _ (hS _ k1))];simp only[aE,k7]at k2 ⊢;exact k2
  refine⟨z1+x.2.2.1,wo,((3*kn+2:Nat):Int),wo,by omega,.int .i64 z2,by rw[aE,aT,aR];exact CN Oq,adx,PC,by omega,.int .i64 x.2.2.2,fun O w' r=>?_,?_⟩
  ·obtain⟨k1,k2⟩:=Oa 3 _ rfl;rw[cH (w:=w) (w2:=w') (by simp only[dN];exact(hw.tr r.cQ).block _ (hS _ k1))];simp only[aE,k7]at k2 ⊢;exact k2
  refine⟨z2+x.2.2.2,wo,by omega,by rw[Dc];(try rw[bF]);(try rw[bF]);omega,zv ((s0).set (3*kn) (z0+x.2.1)),?_,?_⟩
  ·rw[aE,aT,aR];exact Dd (by (try rw[bF]);(try rw[bF]);omega)
  refine⟨by omega,by rw[Dc];(try rw[bF]);(try rw[bF]);omega,zv (((s0).set (3*kn) (z0+x.2.1)).set (3*kn+1) (z1+x.2.2.1)),?_,?_⟩
  ·rw[aE,aT,aR];exact Dd (by (try rw[bF]);(try rw[bF]);omega)
  refine⟨by omega,by rw[Dc];(try rw[bF]);(try rw[bF]);omega,zv ((((s0).set (3*kn) (z0+x.2.1)).set (3*kn+1) (z1+x.2.2.1)).set (3*kn+2) (z2+x.2.2.2)),?_,?_⟩
  ·rw[aE,aT,aR];exact Dd (by (try rw[bF]);(try rw[bF]);omega)
  refine⟨((i+1:Nat):Int),wo,?_⟩;intro ρ3 w6 r3;exact⟨(i+1,w6),⟨OC,hw.tr r3.cQ,fun z hz=>by have:=hbd3 z hz;dsimp only;omega⟩,Sub.gn [] r3 ⟨by dsimp only;rw[<-QR,n3];rfl,trivial⟩,by dsimp only;omega⟩
 have OC:i=l.length:=aO hi (by simpa using OC);subst OC;obtain⟨s0,Uo⟩:∃s,fU f.nodes.length l l.length=s:=⟨_,rfl⟩
 have R1:s0.length=m:=by rw[<-Uo,kB,hm]
 rw[Uo]at OW ⊢
 refine⟨Nat×List (List Value)×World×Iv,fun z=>⟨[(5,.o (.s 1 0 m m)),(8,.o (.w 2 z.2.1.length)),(9,iN z.1)],[(2,.vec T.Rat 4 z.2.1.flatten),(1,.arr T.int (zv s0))],3,z.2.2.2,z.2.2.1⟩,fun z=>m-z.1,
  fun z=>z.1<=m∧eE w.heap.size w z.2.2.1∧eN z.2.2.1 (Cf w z.2.2.2) z.2.1 (c9 (s0.take z.1)),?_,?_⟩
 ·intro O w' r;exact⟨(0,[],w',_),⟨aQ _,hw.tr r.cQ,eN.nil⟩,Sub.nil 8 T.Rat 4 rfl (by simp[j8,SV.sc,At.sc,fa]) r fun ρ1 r1=>Sub.gn [] r1⟩
 rintro⟨i,css,w1,iv⟩ ⟨hi,hw,hG⟩;dsimp only at hi hw hG ⊢;have OX:=eY hG.four;have TS:css.length=i:=by rw[hG.len,c9,aK,aW];omega
 refine dK.mk ?_ ?_<;>intro OC
 ·have OC:i<m:=by simpa using OC
  obtain⟨z,hz⟩:∃z,s0[i]? =some z:=⟨_,aB (by omega)⟩
  have SL:=OW z (aC hz);refine⟨by omega,.int .i64 z,by rw[aE,aT,aR];exact CN hz,?_⟩;refine cF (cE hw (fun _ w' v w2=>cT w2 (Nf w' w2) v (z:Rat)) (fun O w' r=>jO z w' (by omega)) ?_);rintro O _ _ _ OJ r he hw h_ hn;replace hG:=hG.cG r (cC w) he (mC h_);have hd:=hn.dB (S:=FF) r.cD (mN h_);obtain⟨A0,A1,A2,A3,A4,A5,A6,A7,rfl⟩:=hd.shape;have S2:=hG.push (cs:=[.bool A0,.slice A1 A2 A3,.bool A4,.slice A5 A6 A7]) (q:=(z:Rat)) ⟨_,_,_,_,_,_,_,_,rfl,hd⟩ rfl;rw[<-og hz]at S2;have Pt:css.flatten++([.bool A0,.slice A1 A2 A3,.bool A4,.slice A5 A6 A7]:List Value)=(css++([[.bool A0,.slice A1 A2 A3,.bool A4,.slice A5 A6 A7]]:List (List Value))).flatten:=by simp
  refine .inl ?_;refine⟨by omega,by omega,by unfold maxLen;omega,((i+1:Nat):Int),wo,?_⟩;intro ρ3 w6 r3;exact⟨(i+1,css++[[.bool A0,.slice A1 A2 A3,.bool A4,.slice A5 A6 A7]],w6,_),⟨OC,hw.tr r3.cQ,S2.rel r3 (cC w)⟩,Sub.gn [(2,4)] r3 ⟨by dsimp only;rw[<-Pt];rfl,rfl,trivial⟩ ⟨rfl,by dsimp only;rw[List.length_append,List.length_singleton];rfl,rfl,trivial⟩,by dsimp only;omega⟩
 have OC:i=m:=aO hi (by simpa using OC);have Sb:c9 (s0.take i)=dI f l:=by rw[dI,Uo,OC,<-R1,bD]
 rw[Sb]at hG;intro ρe we re;refine⟨_,rfl,hw.tr re.cQ,?_⟩;have h5:=re.iG (id:=2) (sz:=4) (m:=css.length) rfl OX (by unfold maxLen;omega) (by decide) hG.one;exact eN.list ((hG.rel re (cC w)).cK fun g hg=>Cv.nw hg re) (h5.cK fun g hg=>.inr hg)
end Go.Ex
namespace Go.Ex
open Go
section
theorem Gi:∀(N m:Nat) (g:Nat->Nat),(∀i,i<m->g i<N)->(∀i j,i<m->j<m->g i=g j->i=j)->m<=N
 |0,m,g,h1,_=>by
  rcases bH m with h|h
  ·omega
  ·exact absurd (h1 0 h) (cB _)
 |N+1,m,g,h1,h2=>by
  by_cases h:∃i,i<m∧g i=N
  ·obtain⟨i0,hi,e⟩:=h
   have:=Gi N (m-1) (fun i=>if i<i0 then g i else g (i+1)) (fun i S8=>by
    show(if i<i0 then g i else g (i+1))<N;split
    ·rename_i OU;have:=h1 i (by omega);have:g i≠N:=fun e2=>by have:=h2 i i0 (by omega) hi (by rw[e2,e]);omega
     omega
    ·have:=h1 (i+1) (by omega);have:g (i+1)≠N:=fun e2=>by have:=h2 (i+1) i0 (by omega) hi (by rw[e2,e]);omega
     omega) (fun i j S8 hj' e2=>by
    have e3:(if i<i0 then g i else g (i+1))=(if j<i0 then g j else g (j+1)):=e2;split at e3<;>split at e3
    ·exact h2 _ _ (by omega) (by omega) e3
    ·have:=h2 _ _ (by omega) (by omega) e3;omega
    ·have:=h2 _ _ (by omega) (by omega) e3;omega
    ·have:=h2 _ _ (by omega) (by omega) e3;omega)
   omega
  ·exact Nat.le_succ_of_le (Gi N m g (fun i hi=>by
    have:=h1 i hi;have:g i≠N:=fun e=>h ⟨i,hi,e⟩
    omega) h2)
structure FrS(f:fA):Prop extends GG f where
 n4:f.nodes.length<=4
 b6:f.bars.length<=6
variable{f:fA}
theorem FrS.s12(h:FrS f):f.cX.length<=12:=by
 have:=Gi (3*f.nodes.length) f.cX.length (fun i=>gi (f.cX.getD i (0,0,0))) (fun i hi=>by
  have e:f.cX.getD i (0,0,0)=f.cX[i]:=getD_some (aB hi);show gi (f.cX.getD i (0,0,0))<_;rw[e]
  exact(h.sup _ (aY hi)).1) (fun i j hi hj e=>by
  have e1:f.cX.getD i (0,0,0)=f.cX[i]:=getD_some (aB hi);have e2:f.cX.getD j (0,0,0)=f.cX[j]:=getD_some (aB hj);have e:gi (f.cX.getD i (0,0,0))=gi (f.cX.getD j (0,0,0)):=e;rw[e1,e2]at e
  exact h.one i j _ _ (aB hi) (aB hj) e)
 have:=h.n4;omega
theorem FrS.FA(h:FrS f):f.cols<=18:=by
 have h1:=h.s12;have h2:=h.b6;unfold fA.cols;omega
theorem FrS.Hs(h:FrS f):(cP f).length<=12:=by
 rw[e9];have:=h.n4;omega
theorem NL:18*2000000<=wt 1:=by decide
theorem FrS.size(h:FrS f):ln (fB 2000000 (cP f).length)<=13:=by
 have:=h.Hs;have h2:=KM (B:=2000000) (R:=18) (l:=1) (n:=(cP f).length) (by omega) NL;omega
theorem FrS.Hu(h:FrS f):ln (fB 2000000 (cd (cP f) f.cols).length)<=19:=by
 have:=h.FA;have h2:=KM (B:=2000000) (R:=18) (l:=1) (n:=(cd (cP f) f.cols).length) (by rw[dY];omega) NL;rw[dY]at h2 ⊢;omega
theorem FrS.pf(h:FrS f):BF (cd (cP f) f.cols) (cP f).length 2000000:=fun j hj=>by
 rw[dY]at hj;exact⟨1,by decide,Ib.one (by decide),fun t _=>by rw[bp,kP hj];exact h.pe t j⟩
end
end Go.Ex
namespace Go.Ex
open Go Go.Sx Go.Proofs
variable{M:List (List Rat)}{l:List Ld}{n:Nat}{S:Nat->Prop}{vb vl vn vs:Value}{w:World}{f:fA}
theorem kY{B h:Nat}(hM:fZ n M)(hW:BF M n B)(hB:1<=B)(hh:ln (fB B M.length)+1<=h):D8 M n h:=
 ⟨fun i hi r hr q hq=>by have:=KP hM hW hB hi r hr q hq;omega,fun i hi k hk q hq=>by have:=KQ hM hW hB hi hk q hq;omega⟩
theorem Al{B h:Nat}(hM:fZ n M)(hW:BF M n B)(hB:1<=B)(hh:ln (fB B M.length)+1<=h):Ht (dT M n).1 h:=fun r hr q hq=>by
 rw[(lS hM hW).2]at hr;have:=zR hM hW hB (aF n) r (List.mem_of_mem_take hr) q hq;omega
theorem mf(M:List (List Rat))(n:Nat)(hM:fZ n M):(cN M n).2.length<=(cN M n).1.length∧(cN M n).2.length<=n:=by
 obtain⟨r1,r2,r3,r4,r5⟩:=dc hM n (aF _);have:=(iD M n).2.2;unfold cN at*
 exact⟨r2,by omega⟩
theorem JR(hS:Old S w)(hf:dU w S vn vb vs f)(R7:eL f=0->FrS f):
  eA PG N.rW #[.agg #[vn,vb,vs]] w (eF w fun v' _=>(eL f≠0∧v'= .tuple #[.agg #[.int .i64 0,.int .i64 0,.int .i64 0],.int .i64 (eL f)])∨(eL f=0∧v'= .tuple #[.agg #[.int .i64 (nf (cP f) f.cols),.int .i64 ((f.cols:Int)-nf (cP f) f.cols),.int .i64 ((3*f.nodes.length:Nat)-nf (cP f) f.cols)],.int .i64 0])):=by
 have hw:=bR w;obtain⟨an,cn,ab,cb,aq,cq,rfl,rfl,rfl,Q1,Qh,RN⟩:=hf.shape;have Px:f.cols=f.bars.length+f.cX.length:=rfl;have RD:=Fa f;obtain⟨e0,EE⟩:∃e,eL f=e:=⟨_,rfl⟩
 refine vS (by simp) ?_;refine cF (cE hw (fun _ w' v w2=>v= .int .i64 e0) (fun O w' r=>(Fe (oS hS r) (hf.cJ (kS hw r hS))).mono fun _ _ ⟨v2,e1,e2,e3⟩=>⟨v2,e1,e2,by rw[e3,EE]⟩) ?_);rintro O Pg v1 PS OJ r he hw h_ rfl;refine dK.mk ?_ ?_<;>intro he
 ·have he:e0≠0:=by simpa using he
  exact rtn hw fun ρe we re=>.inl ⟨by rw[EE];exact he,by rw[EE];rfl⟩
 have he:e0=0:=by simpa using he
 have OP:eL f=0:=by rw[EE,he]
 have OO:=R7 OP;have OF:=jS OP;refine cF (cE hw (fun _ w' v w2=>(∃vr,v= .agg #[vr,.int .i64 f.cols]∧cR w2 (Nf w' w2) vr (cP f))∧fZ f.cols (cP f)∧Ht (cP f) 2) (fun O w' r=>lh (S:=S) (oS hS r) (hf.cJ (kS hw r hS)) OF) ?_);rintro O _ _ _ ivt r he hw h_ ⟨⟨vr,rfl,k1⟩,hlen,hht⟩;have hM:=cR.dB (S:=FF) k1 r.cD (mN h_);obtain⟨am,cm,rfl,Rk,Qg⟩:=dM.shape hM;have Re:=OO.FA;have RX:=OO.Hs;refine cF (cE hw (fun _ w' v w2=>∃vr vp vf,v= .agg #[vr,.int .i64 f.cols,vp,vf]∧cR w2 (Nw (Cf w ivt) w' w2) vr (dT (cP f) f.cols).1) (fun O w' r=>(Aj (C:=Cf w ivt) (S:=Cf w ivt) (h:=20) (Rel.old r (cC w)) (Rel.old r (cC w)) (cR.rel hM r (cC w)) hlen (by omega) (by omega) (kY hlen OO.mQ (by decide) (by have:=OO.size;omega)) (by decide)).mono fun _ _ ⟨v2,e1,e2,vr,vp,vf,k1,k2,_,_⟩=>⟨v2,e1,e2,vr,vp,vf,k1,k2⟩) ?_);rintro O _ _ _ OG r he hw h_ ⟨vr2,vp2,vf2,rfl,hn⟩;replace hM:=cR.cG hM r (cC w) he (mC h_);obtain⟨ar,cr,rfl,-,-⟩:=dM.shape hn;have hrk:(dT (cP f) f.cols).1.length=nf (cP f) f.cols:=by
  rw[(lS hlen OO.mQ).2,aW,Nat.min_eq_left (mf _ _ hlen).1]
 rw[hrk];have hle:nf (cP f) f.cols<=f.cols:=(mf _ _ hlen).2;obtain⟨nr,hnr⟩:∃nr,nf (cP f) f.cols=nr:=⟨_,rfl⟩
 rw[hnr]at hle ⊢;refine⟨(f.cols:Int)-nr,wo,((cP f).length:Int)-nr,wo,?_⟩;exact rtn hw fun ρe we re=>.inr ⟨OP,by rw[RD];rfl⟩
theorem JS{α β:Type}(g:List α->List β)(hg:∀r,(g r).length=r.length):∀M:List (List α),gS (M.map g)=gS M
 |[]=>rfl
 |r::M=>hg r
theorem La(hlen:fZ n M)(UX:0<M.length∨n=0):gS (M.map j6)=n:=by
 rw[JS j6 fun r=>wG r]
 cases M with
 |nil=>
  rcases UX with h|h
  ·exact absurd h (Nat.lt_irrefl 0)
  ·exact h.symm
 |cons r M=>exact hlen r aG
section
variable{S:Nat->Prop}{w:World}{v u:Value}{M:List (List Rat)}{b:List Rat}{n h0:Nat}
theorem JT(hlen:fZ n M)(hc:gS (M.map j6)=n):∀r∈M.map j6,r.length=gS (M.map j6):=fun r hr=>by
 obtain⟨x,hx,rfl⟩:=aU.1 hr;rw[hc,wG];exact hlen x hx
theorem Lb(h:cR w S v M)(hq:Ht M h0)(hh:3*h0<=90000):da w S v (ir (M.map Ex.j6)):=by
 rw[HQ];exact h.l fun r hr q Pv=>by have:=hq r hr q Pv;omega
theorem JU(hS:Old S w)(h:cR w S v M)(hb:cI w S u b)(hlen:fZ n M)(UX:0<M.length∨n=0)(PX:b.length=M.length)(hbq:∀q∈b,rl q<=100000)(hMq:Ht M h0)(hR:M.length<=1000)(hn:n<=999)(hB:∀c,c<=n->Ht (cN (dH M b) c).1 h0)(hh:3*h0<=90000):
  eA PG N.qB #[v,u] w (eF w fun v' w2=>(ed M b n=none∧v'= .tuple #[.slice none 0 0,.bool false])∨∃x vx,ed M b n=some x∧v'= .tuple #[vx,.bool true]∧cI w2 (Nf w w2) vx x):=by
 have hc:=La hlen UX;refine(JP (h0:=h0) (b:=j6 b) hS h.j6 (Lb h hMq hh) (by rw[mg];exact hb.l hbq) (JT hlen hc) (by rw[wG,aK];exact PX) (by rw[aK];exact hR) (by rw[hc];exact hn) (by rw[hc,HQ,mg];exact hB) hh).mono fun e w2 ⟨v2,e1,e2,e3⟩=>⟨v2,e1,e2,?_⟩
 rw[HQ,mg,hc,aK]at e3;unfold ed;rcases e3 with⟨j,h1,h2,h3,h4⟩|⟨h1,vx,h2,h3⟩
 ·left;refine⟨?_,h4⟩;rw[aJ fun Ph=>h3 (Ph j h2 h1)]
 ·right;refine⟨_,vx,if_pos fun j h4 h5=>h1 j h5 h4,h2,h3⟩
end
theorem FrS.col(h:FrS f):0<3*f.nodes.length∨f.cols=0:=by
 rcases bH f.nodes.length with h0|h0
 ·right;have h1:f.bars=[]:=List.eq_nil_iff_forall_not_mem.2 fun b hb=>by
   obtain⟨ka,kb,_,_,h3,_⟩:=h.Ma b hb;omega
  have h2:f.cX=[]:=List.eq_nil_iff_forall_not_mem.2 fun s hs=>by
   have:=(h.sup s hs).1;omega
  unfold fA.cols;rw[h1,h2];rfl
 ·left;omega
theorem aAJ(hl:fL w S vl l):eA PG N.CB #[vl] w (eF w fun v' _=>∃d,v'= .bool d):=by
 have hw:=bR w;obtain⟨al,cl,rfl,-,QO⟩:=hl.shape;refine DL (by simp) ?_;refine dK.mk ?_ ?_<;>intro h1
 ·conv=>whnf
  exact rtn hw fun ρe we re=>⟨_,rfl⟩
 refine dK.mk ?_ ?_<;>intro h1
 ·conv=>whnf
  exact rtn hw fun ρe we re=>⟨_,rfl⟩
 exact rtn hw fun ρe we re=>⟨_,rfl⟩
theorem BX(hS:Old S w)(hf:dU w S vn vb vs f)(hl:fL w S vl l):eA PG N.nO #[.agg #[vn,vb,vs],vl] w (eF w fun v' _=>v'= .int .i64 (uV f.nodes.length l)):=by
 have hw:=bR w;obtain⟨an,cn,ab,cb,aq,cq,rfl,rfl,rfl,Q1,Qh,RN⟩:=hf.shape;obtain⟨al,cl,rfl,PU,QO⟩:=hl.shape;unfold maxLen at QO;refine rH (by simp) ?_;refine dK.mk ?_ ?_<;>intro h1
 ·have h1:=aI h1;exact rtn hw fun ρe we re=>by show Value.int .i64 _=_;rw[uV,if_pos (by omega)]
 have h1:=aH h1
 refine⟨Nat×World×Iv,fun z=>⟨[(1,sV al l.length cl),(2,pP 0 0),(5,iN z.1)],[(0,.box T.Frame [.v (.slice an f.nodes.length cn),.v (.slice ab f.bars.length cb),.v (.slice aq f.cX.length cq)])],1,z.2.2,z.2.1⟩,fun z=>l.length-z.1,
  fun z=>z.1<=l.length∧eE w.heap.size w z.2.1∧uV f.nodes.length l=ek (fun _=>j5 f.nodes.length) (l.take z.1) (l.drop z.1),?_,?_⟩
 ·intro O w' r3;exact⟨(0,w',[]),⟨aQ _,hw.tr r3.cQ,by rw[uV,aJ (by omega)];rfl⟩,Sub.gn [] r3⟩
 clear hw;rintro⟨i,w1,iv⟩ ⟨hi,hw,hE⟩;dsimp only at hi hw hE ⊢;refine dK.mk ?_ ?_<;>intro OC
 ·have OC:i<l.length:=by simpa using OC
  obtain⟨x,hx⟩:∃x,l[i]? =some x:=⟨_,aB OC⟩
  obtain⟨adx,cs,PC,hP,-,Oa⟩:=hl.load (by decide) hx;have hP:cs=[.int .i64 x.1,.int .i64 x.2.1,.int .i64 x.2.2.1,.int .i64 x.2.2.2]:=hP;subst hP;refine cM hτ df [.x 0,.x 1,.x 2,.x 3,.x 4,.x 5,.x 6,.x 7] (by kernel_rfl) (by kernel_rfl) ?_;refine⟨adx,PC,by omega,.int .i64 x.1,fun O w' r=>?_,?_⟩
  ·obtain⟨k1,k2⟩:=Oa 0 _ rfl;rw[cH (w:=w) (w2:=w') (by simp only[dN];exact(hw.tr r.cQ).block _ (hS _ k1))];simp only[aE,k7]at k2 ⊢;exact k2
  refine cE hw (fun _ w' v w2=>∃d,v= .bool d∧(d=true↔jD f.nodes.length x.1)) (fun O w' r=>qw _ _ _ _ _ _ _ _ _ _ w') ?_;rintro O _ _ _ OJ r he hw h_ ⟨d,rfl,hd⟩;clear r
  cases d
  ·have hc:j5 f.nodes.length x=6:=by
    unfold j5;rw[aJ fun h=>by have:=hd.2 h;cases this]
   exact rtn hw fun ρe we re=>by show Value.int .i64 _=_;rw[hE,cU hx hc (by decide)]
  have hd:=hd.1 rfl;refine⟨adx,PC,by omega,[.int .i64 x.1,.int .i64 x.2.1,.int .i64 x.2.2.1,.int .i64 x.2.2.2],rfl,rdO Oa hw hS,?_⟩;refine cF (cE hw (fun _ w' v w2=>∃d,v= .bool d∧(d=true↔M4 x.2)) (fun O w' r=>JN x w') ?_);rintro O _ _ _ OG r he hw h_ ⟨d2,rfl,Oc⟩;clear r
  cases d2
  ·have hc:j5 f.nodes.length x=2:=by
    unfold j5;rw[if_pos hd,aJ fun h=>by have:=Oc.2 h;cases this]
   exact rtn hw fun ρe we re=>by show Value.int .i64 _=_;rw[hE,cU hx hc (by decide)]
  have Oc:=Oc.1 rfl;have hc:j5 f.nodes.length x=0:=by
   unfold j5;rw[if_pos hd];exact if_pos Oc
  rw[gY hx hc]at hE;refine⟨((i+1:Nat):Int),wo,?_⟩;intro ρ3 w6 r3;exact⟨(i+1,w6,_),⟨OC,hw.tr r3.cQ,hE⟩,Sub.gn [] r3,by dsimp only;omega⟩
 have OC:i=l.length:=aO hi (by simpa using OC);rw[iq (by omega)]at hE;exact rtn hw fun ρe we re=>by show Value.int .i64 _=_;rw[hE]
theorem oh(hS:Old S w)(hf:dU w S vn vb vs f)(hl:fL w S vl l):eA PG N.ow #[.agg #[vn,vb,vs],vl] w (eF w fun v' _=>v'= .int .i64 (gR f l)):=by
 have hw:=bR w;obtain⟨an,cn,ab,cb,aq,cq,rfl,rfl,rfl,Q1,Qh,RN⟩:=hf.shape;obtain⟨al,cl,rfl,PU,QO⟩:=hl.shape;obtain⟨e0,EE⟩:∃e,eL f=e:=⟨_,rfl⟩
 refine s4 (by simp) ?_;refine cF (cE hw (fun _ w' v w2=>v= .int .i64 e0) (fun O w' r=>(Fg (oS hS r) (hf.cJ (kS hw r hS))).mono fun _ _ ⟨v2,e1,e2,e3⟩=>⟨v2,e1,e2,by rw[e3,EE]⟩) ?_);rintro O _ _ _ OJ r he hw h_ rfl;clear r;refine dK.mk ?_ ?_<;>intro he
 ·have he:e0≠0:=by simpa using he
  exact rtn hw fun ρe we re=>by show Value.int .i64 _=_;rw[gR,if_pos (by rw[EE];exact he),EE]
 have he:e0=0:=by simpa using he
 refine cF (cE hw (fun _ w' v w2=>v= .int .i64 (uV f.nodes.length l)) (fun O w' r=>BX (oS hS r) (hf.cJ (kS hw r hS)) (hl.cJ (kS hw r hS))) ?_);rintro O _ _ _ OG r he hw h_ rfl;clear r he;exact rtn hw fun ρe we re=>by show Value.int .i64 _=_;rw[gR,aJ (by rw[EE,he];decide)]
theorem aAK(h:eL f≠0∨f.nodes.length<=4∧f.bars.length<=6)(h0:eL f=0):FrS f:=⟨Kd h0,(h.resolve_left fun e=>e h0).1,(h.resolve_left fun e=>e h0).2⟩
end Go.Ex
