/- A part of the proof: texts L45 to L50. Each tells its conditions in its theorems. -/
import Derived.Test.YtkdcaknoaeicdaaGreatP8
import Derived.Test.YtkdcaknoaeicdaaGreatP11
import Derived.Test.YtkdcaknoaeicdaaGreatP12
namespace Go.Ex
variable{d:Int}{M:List (List Int)}{x0:List Rat}{n:Nat}{c x y:Nat->Rat}{f:ei}
theorem getD_some{α:Type}{l:List α}{i:Nat}{x d:α}(h:l[i]? =some x):l.getD i d=x:=by rw[List.getD,h];rfl
structure yh(M:List (List Rat))(n:Nat)(φ:Nat->Rat):Prop where
 len:fZ n M
 pos:∀t,t<n->0<=φ t
 J3:∀x:Nat->Rat,(∀j,j<M.length->mulR M n x j=0)->cQ (fun t=>φ t*(x t*x t)) n=0->∀t,t<n->x t=0
theorem CB(M:List (List Rat))(n:Nat)(x y:Nat->Rat)(j:Nat):mulR M n (fun t=>x t+y t) j=mulR M n x j+mulR M n y j:=by
 unfold mulR;rw[<-fO];exact cA fun t _=>by grind
theorem Gl(M:List (List Rat))(n:Nat)(x:Nat->Rat)(c:Rat)(j:Nat):mulR M n (fun t=>c*x t) j=c*mulR M n x j:=by
 unfold mulR;rw[<-eE];exact cA fun t _=>by grind
theorem CC(M:List (List Rat))(n:Nat)(S:Mx)(c:Nat->Rat)(j s:Nat):mulR M n (fun t=>cQ (fun k=>c k*S k t) s) j=cQ (fun k=>c k*mulR M n (S k) j) s:=by
 induction s with
 |zero=>exact(cA (g:=fun _=>0) fun t _=>aw _).trans (dK n)
 |succ s ih=>
  show mulR M n (fun t=>cQ (fun k=>c k*S k t) s+c s*S s t) j=cQ (fun k=>c k*mulR M n (S k) j) s+c s*mulR M n (S s) j;rw[CB,Gl,ih]
theorem qQ{M:List (List Rat)}(h:∀t,t<n->x t=y t)(j:Nat):mulR M n x j=mulR M n y j:=cA fun t ht=>by rw[h t ht]
def nu(φ x y:Nat->Rat)(n:Nat):Rat:=cQ (fun t=>φ t*(x t*y t)) n
theorem oA(φ x y:Nat->Rat)(n:Nat):nu φ x y n=nu φ y x n:=cA fun t _=>by grind
theorem E5(φ x y z:Nat->Rat)(n:Nat):nu φ x (fun t=>y t+z t) n=nu φ x y n+nu φ x z n:=by
 unfold nu;rw[<-fO];exact cA fun t _=>by grind
theorem rT(φ x:Nat->Rat)(S:Mx)(c:Nat->Rat)(n s:Nat):nu φ x (fun t=>cQ (fun k=>c k*S k t) s) n=cQ (fun k=>c k*nu φ x (S k) n) s:=by
 unfold nu;rw[cA (g:=fun t=>cQ (fun k=>c k*(φ t*(x t*S k t))) s) fun t _=>by rw[<-eE,<-eE];exact cA fun k _=>by grind,kN];exact cA fun k _=>by rw[eE]
theorem tE{φ x' y':Nat->Rat}(h1:∀t,t<n->x t=x' t)(h2:∀t,t<n->y t=y' t):nu φ x y n=nu φ x' y' n:=cA fun t ht=>by rw[h1 t ht,h2 t ht]
section
variable{M:List (List Rat)}{n:Nat}{φ:Nat->Rat}{b:List Rat}
def E6(M:List (List Rat))(n:Nat)(φ:Nat->Rat)(i j:Nat):Rat:=nu φ (cY (cN M n) i) (cY (cN M n) j) n
theorem yh.Gm(h:yh M n φ)(hc:∀i,i<(cN M n).length->cQ (fun j=>E6 M n φ i j*c j) (cN M n).length=0):∀i,i<(cN M n).length->c i=0:=by
 obtain⟨y,hy⟩:∃y:Nat->Rat,y=fun t=>cQ (fun k=>c k*cY (cN M n) k t) (cN M n).length:=⟨_,rfl⟩
 have hnull:∀j,j<M.length->mulR M n y j=0:=fun j hj=>by
  rw[hy,CC,cA (g:=fun _=>0) fun k hk=>by rw[rQ h.len hk j hj,aw],dK]
 have hw:∀i,i<(cN M n).length->nu φ (cY (cN M n) i) y n=0:=fun i hi=>by
  rw[hy,rT,<-hc i hi];exact cA fun k _=>bZ _ _
 have h0:nu φ y y n=0:=by
  have:nu φ y y n=cQ (fun k=>c k*nu φ y (cY (cN M n) k) n) (cN M n).length:=by
   rw[<-rT,<-hy]
  rw[this,cA (g:=fun _=>0) fun k hk=>by rw[oA,hw k hk,aw],dK]
 exact E1 (M:=M) fun t ht=>by
  have:=h.J3 y hnull h0 t ht;rw[hy]at this;exact this
theorem yh.only(h:yh M n φ)(hx:∀j,j<M.length->mulR M n x j=0)(hs:∀k,k<(cN M n).length->nu φ (cY (cN M n) k) x n=0):∀t,t<n->x t=0:=by
 obtain⟨c,hc⟩:=E0 h.len hx;have h0:nu φ x x n=0:=by
  rw[tE (x':=x) (fun _ _=>rfl) hc,rT,cA (g:=fun _=>0) fun k hk=>by rw[oA,hs k hk,aw],dK]
 exact h.J3 x hx h0
def qR(k:Nat):List Rat:=List.replicate k 0
theorem oB(b:List Rat)(k j:Nat):(b++qR k).getD j 0=b.getD j 0:=by
 unfold qR;rcases aO j b.length with h|h
 ·rw[List.getD,aK h,<-List.getD]
 ·rw[iL h,List.getD,aN h,List.getElem?_replicate];split<;>rfl
structure iG(M:List (List Rat))(n:Nat)(φ:Nat->Rat)(b x:List Rat):Prop where
 len:x.length=n
 eq:∀j,j<M.length->mulR M n (fun t=>x.getD t 0) j=b.getD j 0
 st:∀k,k<(cN M n).length->nu φ (cY (cN M n) k) (fun t=>x.getD t 0) n=0
theorem yh.one(h:yh M n φ){x y:List Rat}(hx:iG M n φ b x)(hy:iG M n φ b y):x=y:=by
 refine fu 0 (by rw[hx.len,hy.len]) fun t ht=>?_;rw[hx.len]at ht
 have:=h.only (x:=fun t=>x.getD t 0-y.getD t 0) (fun j hj=>by rw[By,hx.eq j hj,hy.eq j hj];grind) (fun k hk=>by
  rw[show (fun t=>x.getD t 0-y.getD t 0)=fun t=>x.getD t 0+(-1)*y.getD t 0 from funext fun t=>by grind,E5,hx.st k hk];have h2:=hy.st k hk;unfold nu at h2 ⊢;rw[cA (f:=fun t=>φ t*(cY (cN M n) k t*(-1*y.getD t 0))) (g:=fun t=>(-1)*(φ t*(cY (cN M n) k t*y.getD t 0))) fun t _=>by grind,eE,h2]
  grind) t ht
 grind
end
theorem oC(x y:List Rat)(n:Nat):de x y n=cQ (fun t=>x.getD t 0*y.getD t 0) n:=mc x y n
theorem kR{a b:List Rat}{t:Nat}(ht:t<a.length):(da a b).getD t 0=a.getD t 0*b.getD t 0:=by
 have h:=aA ht;rw[getD_some h];exact getD_some (by rw[da,List.getElem?_mapIdx,h];rfl)
section
variable{M:List (List Rat)}{n:Nat}{fl b:List Rat}
theorem tF(M:List (List Rat))(n:Nat)(fl:List Rat){i j:Nat}(hi:i<(cN M n).length)(hj:j<(cN M n).length):cY (eD (cN M n) fl) i j=E6 M n (fun t=>fl.getD t 0) i j:=by
 have hr:=aA hi;have hs:=aA hj;have hl:((cN M n)[i]).length=n:=mg M n _ (aX hi);have h1:(eD (cN M n) fl)[i]? =some ((cN M n).map fun r=>de (da (cN M n)[i] fl) r (cN M n)[i].length):=by rw[eD,aM,hr];rfl
 have h2:((cN M n).map fun r=>de (da (cN M n)[i] fl) r (cN M n)[i].length)[j]? =some (de (da (cN M n)[i] fl) (cN M n)[j] (cN M n)[i].length):=by rw[aM,hs];rfl
 rw[cY,getD_some h1,getD_some h2,mc,hl];refine cA fun t ht=>?_;rw[kR (by omega),cY,cY,getD_some hr,getD_some hs];grind
theorem mh(st:List (List Rat))(fl:List Rat):fZ st.length (eD st fl):=fun r hr=>by
 obtain⟨s,hs,rfl⟩:=aR.1 hr;rw[aL]
theorem CD(M:List (List Rat))(n:Nat)(fl x:List Rat){i:Nat}(hi:i<(cN M n).length):(fq (cN M n) fl x).getD i 0= -(nu (fun t=>fl.getD t 0) (cY (cN M n) i) (fun t=>x.getD t 0) n):=by
 have hr:=aA hi;have hl:((cN M n)[i]).length=n:=mg M n _ (aX hi);have h1:(fq (cN M n) fl x)[i]? =some (-(de (da (cN M n)[i] fl) x (cN M n)[i].length)):=by rw[fq,aM,hr];rfl
 rw[getD_some h1,mc,hl];congr 1;refine cA fun t ht=>?_;rw[kR (by omega),cY,getD_some hr];grind
theorem pD(st:List (List Rat))(c x:List Rat):∀i,(kO st c x i).length=x.length
 |0=>rfl
 |i+1=>by rw[kO,List.length_mapIdx,pD st c x i]
theorem xR(st:List (List Rat))(c x:List Rat){t:Nat}(ht:t<x.length):∀i,(kO st c x i).getD t 0=x.getD t 0+cQ (fun k=>c.getD k 0*cY st k t) i
 |0=>(bP _).symm
 |i+1=>by
  have hl:t<(kO st c x i).length:=by rw[pD];exact ht
  have ih:=xR st c x ht i;rw[getD_some (aA hl)]at ih;rw[getD_some (show (kO st c x (i+1))[t]? =some ((kO st c x i)[t]+c.getD i 0*(st.getD i []).getD t 0) by rw[kO,List.getElem?_mapIdx,aA hl];rfl),ih,cQ,Rat.add_assoc];rfl
theorem yh.force(h:yh M n fun t=>fl.getD t 0)(h0:eU M b n=some x0):∃c,eU (eD (cN M n) fl) (fq (cN M n) fl x0) (cN M n).length=some c∧c.length=(cN M n).length∧
  iG M n (fun t=>fl.getD t 0) b (kO (cN M n) c x0 (cN M n).length):=by
 obtain⟨hx1,hx2⟩:=gk h.len h0;have hG:=mh (cN M n) fl;have hGl:(eD (cN M n) fl).length=(cN M n).length:=aL _;have hc:∃c,eU (eD (cN M n) fl) (fq (cN M n) fl x0) (cN M n).length=some c:=by
  cases e:eU (eD (cN M n) fl) (fq (cN M n) fl x0) (cN M n).length with
  |some c=>exact⟨c,rfl⟩
  |none=>
   obtain⟨y,y1,y2⟩:=mf hG e;rw[hGl]at y1 y2;have hy:=h.Gm (c:=y) fun i hi=>Eq.trans (cA fun j hj=>by rw[tF M n fl hj hi,bZ];unfold E6;rw[oA]) (y1 i hi);exact absurd (by rw[cA (g:=fun _=>0) fun j hj=>by rw[hy j hj,bA],dK]) y2
 obtain⟨c,hc⟩:=hc;obtain⟨c1,c2⟩:=gk hG hc;refine⟨c,hc,c1,by rw[pD];exact hx1,fun j hj=>?_,fun k hk=>?_⟩
 ·rw[qQ (y:=fun t=>x0.getD t 0+cQ (fun k=>c.getD k 0*cY (cN M n) k t) (cN M n).length) fun t ht=>xR _ c x0 (by omega) _,CB,CC,hx2 j hj,cA (g:=fun _=>0) fun k hk=>by rw[rQ h.len hk j hj,aw],dK,bP]
 ·rw[tE (x':=cY (cN M n) k) (y':=fun t=>x0.getD t 0+cQ (fun k=>c.getD k 0*cY (cN M n) k t) (cN M n).length) (fun _ _=>rfl) fun t ht=>xR _ c x0 (by omega) _,E5,rT];have h2:=c2 k (by omega);rw[CD M n fl x0 hk]at h2;unfold mulR at h2;rw[cA (g:=fun t=>c.getD t 0*nu (fun t=>fl.getD t 0) (cY (cN M n) k) (cY (cN M n) t) n) fun t ht=>by rw[tF M n fl hk ht,bZ];rfl]at h2;rw[h2];grind
end
def ez(M:List (List Int))(r c:Nat):Int:=(M.getD r []).getD c 0
theorem getD_set_ne{α:Type}{l:List α}{i j:Nat}{x d:α}(h:i≠j):(l.set i x).getD j d=l.getD j d:=by rw[List.getD,aZ h,<-List.getD]
theorem kv{α:Type}{l:List α}{i:Nat}{x d:α}(h:i<l.length):(l.set i x).getD i d=x:=by rw[List.getD,aU h];rfl
theorem iM{r c r' c':Nat}(h:r'≠r∨c'≠c):ez (putAt M r c d) r' c'=ez M r' c':=by
 unfold ez putAt;by_cases h1:r'=r
 ·subst h1;have h2:c≠c':=h.elim (fun h=>absurd rfl h) fun h=>h.symm;rcases aO r' M.length with h3|h3
  ·rw[kv h3,getD_set_ne h2]
  ·rw[List.set_eq_of_length_le h3]
 ·rw[getD_set_ne (Ne.symm h1)]
theorem CE{r c:Nat}(hr:r<M.length)(hc:c<(M.getD r []).length):ez (putAt M r c d) r c=d:=by
 unfold ez putAt;rw[kv hr,kv hc]
theorem gV(M:List (List Int))(r c:Nat)(d:Int):xG M r c d=putAt M r c (ez M r c+d):=rfl
theorem E7{i:Nat}{b:Int×Int×Rat}(hb:f.bars[i]? =some b):f.bars.getD i (0,0,0)=b:=by rw[List.getD,hb];rfl
theorem tG{f:ei}{M:List (List Int)}{i c r:Nat}(h:c≠i):∀k,ez (fH f M i k) r c=ez M r c
 |0=>rfl
 |k+1=>by
  rw[fH];rw[gV,iM (.inr h),gV,iM (.inr h)];exact tG h k
theorem kx(f:ei){r c:Nat}:∀i,i<=c->ez (eM f i) r c=0
 |0,_=>by
  unfold ez eM;rcases aO r (3*f.nodes.length)with h|h
  ·rw[show (List.replicate (3*f.nodes.length) (List.replicate f.cols (0:Int))).getD r []=List.replicate f.cols 0 by rw[List.getD,List.getElem?_replicate,if_pos h];rfl,List.getD,List.getElem?_replicate];split<;>rfl
  ·rw[show (List.replicate (3*f.nodes.length) (List.replicate f.cols (0:Int))).getD r []=[] by rw[List.getD,List.getElem?_replicate,aI (by omega)];rfl];rfl
 |i+1,h=>by rw[eM,tG (by omega)];exact kx f i (by omega)
theorem toNat_add{a:Int}{k ka:Nat}(h:a=ka):(3*a+(k:Int)).toNat=3*ka+k:=by omega
theorem z5{f:ei}{M:List (List Int)}{i r ka kb:Nat}{b:Int×Int×Rat}(hb:f.bars[i]? =some b)(ea:b.1=ka)(eb:b.2.1=kb):∀k,k<=3->k<=r % 3->ez (fH f M i k) r i=ez M r i
 |0,_,_=>rfl
 |k+1,h3,h=>by
  rw[fH];rw[E7 hb,toNat_add ea,toNat_add eb,gV,iM (.inl (by omega)),gV,iM (.inl (by omega))];exact z5 hb ea eb k (by omega) (by omega)
theorem xS{i r ka kb k:Nat}{b:Int×Int×Rat}(hb:f.bars[i]? =some b)(ea:b.1=ka)(eb:b.2.1=kb)(hk:k<=3)(h:k<=r % 3):ez (fH f (eM f i) i k) r i=0:=by
 rw[z5 hb ea eb k hk h];exact kx f i (aE _)
theorem xT{f:ei}{r c:Nat}(h:c<f.bars.length):∀k,ez (ed f k) r c=ez (eM f f.bars.length) r c
 |0=>rfl
 |k+1=>by
  rw[ed];rw[iM (.inr (by omega))];exact xT h k
theorem uN{f:ei}{r i:Nat}:∀k,k<=i->ez (ed f k) r (f.bars.length+i)=0
 |0,_=>kx f _ (by omega)
 |k+1,h=>by
  rw[ed];rw[iM (.inr (by omega))];exact uN k (by omega)
def fw(s:Int×Int×Rat):Nat:=(3*s.1+s.2.1).toNat
theorem z6{f:ei}(hw:∀k,∀l∈ed f k,l.length=f.cols)(hlen:∀k,(ed f k).length=3*f.nodes.length)(hrow:∀s∈f.cS,fw s<3*f.nodes.length){r i:Nat}{s:Int×Int×Rat}(hs:f.cS[i]? =some s):
  ∀k,i<k->ez (ed f k) r (f.bars.length+i)=if r=fw s then 1 else 0
 |0,h=>by omega
 |k+1,h=>by
  rw[ed];rcases aO i k with h1|h1
  ·rw[iM (.inr (by omega))];exact z6 hw hlen hrow hs k h1
  ·have:i=k:=by omega
   subst this;have hg:f.cS.getD i (0,0,0)=s:=by rw[List.getD,hs];rfl
   have hsr:=hrow s (aD hs);have hi:=(aC.1 hs).1;rw[hg];by_cases h2:r=fw s
   ·rw[if_pos h2,h2];have hm:fw s<(ed f i).length:=by rw[hlen];exact hsr
    exact CE hm (by
     show f.bars.length+i<((ed f i).getD (fw s) []).length;rw[List.getD,aA hm];show f.bars.length+i<((ed f i)[fw s]).length;rw[hw i _ (aX hm),ei.cols]
     omega)
   ·rw[aI h2];exact(iM (r:=fw s) (.inl h2)).trans (uN i (aE _))
end Go.Ex
namespace Go.Ex
open Go Go.Sx Go.Proofs
variable{l:List Int}{O:Nat->Sx.dS}
theorem BJ{i:Nat}{z:Int}(h:l[i]? =some z):dL (l.take (i+1))=dL (l.take i)++[(z:Rat)]:=by rw[dL,List.take_add_one,h,List.map_append];rfl
theorem Cv.new{w w2:World}{g:Nat}(hg:Cf w [(w.heap.size,w2.heap.size)] g):Nf w w2 g:=by
 rcases hg with hg|⟨h1,lo,hi,h2,h3,h4⟩
 ·exact hg.elim
 ·simp at h2;obtain⟨rfl,rfl⟩:=h2;exact .inr ⟨h3,h4⟩
structure aAL(w:World)(B:Nat)(iv:Iv)(v:Value)(M:List (List Rat)):Prop where
 row:∃rv,w.ownsRow 0 T.iw 1 v M.length rv∧rv.length=M.length∧(∀u∈rv,u.oneCell'=true)∧∀(i:Nat) u x,rv[i]? =some u->M[i]? =some x->cD w (Bs (fun _=>False) B iv v) u x
 new:∀g,v.ownBlock=some g->Cv (fun _=>False) B iv g
section
variable{H:Hp}{nx:Nat}{iv iv':Iv}{B:Nat}{w w' w2:World}{O:Nat->Sx.dS}{v:Value}{M:List (List Rat)}
end
theorem At.KQ{id n:Nat}:((At.w id n).den O).oneCell'=true:=by
 cases h:(O id).nil<;>simp[At.den,h,Value.oneCell']
end Go.Ex
namespace Go.Ex
variable{s:Int×Int×Rat}{M:List (List Rat)}{fl x:List Rat}{n r t:Nat}{u y z:Nat->Rat}{f:ei}
theorem IQ{M:List (List Int)}{c:Nat}:cY (M.map dL) r c=((ez M r c:Int):Rat):=by
 have key:∀l:List Int,(dL l).getD c 0=((l.getD c 0:Int):Rat):=fun l=>by
  rw[dL,List.getD,List.getD,aM]
  cases l[c]? <;>rfl
 unfold cY ez;rw[<-key];congr 1;rw[List.getD,List.getD,aM]
 cases M[r]? <;>rfl
theorem DT(f:ei)(r c:Nat):cY (cK f) r c=((ez (iV f) r c:Int):Rat):=IQ
def J4(n:Nat)(M:List (List Int)):Prop:=∀l∈M,l.length=n
theorem J4.put{c:Nat}{d:Int}{M:List (List Int)}(h:J4 n M):J4 n (putAt M r c d):=fun l hl=>by
 unfold putAt at hl;rcases aO r M.length with hr|hr
 ·rcases bS hl with hl|rfl
  ·exact h l hl
  ·rw[bB,List.getD,aA hr];exact h _ (aX hr)
 ·rw[List.set_eq_of_length_le hr]at hl;exact h l hl
theorem z7{f:ei}{M:List (List Int)}{n i:Nat}(h:J4 n M):∀k,J4 n (fH f M i k)
 |0=>h
 |k+1=>by rw[fH];rw[gV,gV];exact((z7 h k).put).put
theorem xU(f:ei):∀i,J4 f.cols (eM f i)
 |0=>fun l hl=>by rw[eM]at hl;rw[bV hl,bE]
 |i+1=>by rw[eM];exact z7 (xU f i) 3
theorem mi(f:ei):∀i,J4 f.cols (ed f i)
 |0=>xU f _
 |i+1=>by rw[ed];exact(mi f i).put
theorem mj(M:List (List Int))(r c:Nat)(d:Int):(putAt M r c d).length=M.length:=bB ..
theorem rU(f:ei)(M:List (List Int))(i:Nat):∀k,(fH f M i k).length=M.length
 |0=>rfl
 |k+1=>by rw[fH];rw[gV,gV,mj,mj];exact rU f M i k
theorem pZ(f:ei):∀i,(eM f i).length=3*f.nodes.length
 |0=>bE ..
 |i+1=>by rw[eM,rU];exact pZ f i
theorem lX(f:ei):∀i,(ed f i).length=3*f.nodes.length
 |0=>pZ f _
 |i+1=>by rw[ed,mj];exact lX f i
theorem fc(f:ei):fZ f.cols (cK f):=fun r hr=>by
 obtain⟨l,hl,rfl⟩:=aR.1 hr;rw[dL,aL];exact mi f _ l hl
theorem gl(f:ei):(cK f).length=3*f.nodes.length:=by rw[cK,aL];exact lX f _
structure BW(f:ei):Prop where
 co:∀p∈f.nodes,(-1000000<=p.1∧p.1<=1000000)∧(-1000000<=p.2.1∧p.2.1<=1000000)∧(-1000000<=p.2.2∧p.2.2<=1000000)
 Jw:∀b∈f.bars,∃ka kb:Nat,b.1=ka∧b.2.1=kb∧ka<f.nodes.length∧kb<f.nodes.length∧ka≠kb∧0<b.2.2
 sup:∀s∈f.cS,fw s<3*f.nodes.length∧0<=s.2.2
 one:∀(i j:Nat) s t,f.cS[i]? =some s->f.cS[j]? =some t->fw s=fw t->i=j
 n:f.nodes.length<=20
 b:f.bars.length<=60
 s:f.cS.length<=60
theorem E8{α:Type}{l:List α}{x:α}(h:x∈l):∃i:Nat,l[i]? =some x:=by
 obtain⟨i,hi,rfl⟩:=List.mem_iff_getElem.1 h;exact⟨i,aA hi⟩
theorem J5(h:dx f=0):BW f:=by
 have hok:=pE h;obtain⟨⟨h1,h2,h3⟩,h4,h5,h6⟩:=z8 h;have hsup:∀(k:Nat) s,f.cS[k]? =some s->iH f.nodes.length s.1∧(0<=s.2.1∧s.2.1<=2)∧gp s∉(f.cS.take k).map gp∧0<=s.2.2:=fun k s hs=>pF.1 (ia h6 k s hs);have hrow:∀(k:Nat) s,f.cS[k]? =some s->(fw s:Int)=3*s.1+s.2.1∧fw s<3*f.nodes.length:=fun k s hs=>by
  obtain⟨⟨a1,a2⟩,⟨a3,a4⟩,-,-⟩:=hsup k s hs;unfold fw;omega
 have lt:∀(i j:Nat) s t,i<j->f.cS[i]? =some s->f.cS[j]? =some t->fw s≠fw t:=fun i j s t hij hs ht e=>by
  obtain⟨⟨a1,a2⟩,⟨a3,a4⟩,-,-⟩:=hsup i s hs;obtain⟨⟨b1,b2⟩,⟨b3,b4⟩,b5,-⟩:=hsup j t ht;have e1:=(hrow i s hs).1;have e2:=(hrow j t ht).1;refine b5 (aR.2 ⟨s,aD (i:=i) (by rw[bK hij];exact hs),?_⟩);exact Prod.ext (by show s.1=t.1;omega) (by show s.2.1=t.2.1;omega)
 refine⟨hok.co,fun b hb=>?_,fun s hs=>?_,fun i j s t hs ht e=>?_,h1,h2,h3⟩
 ·obtain⟨k,hk⟩:=E8 hb;obtain⟨⟨⟨a1,a2⟩,a3,a4⟩,a5,-,a6⟩:=pG.1 (ia h5 k b hk);exact⟨b.1.toNat,b.2.1.toNat,by omega,by omega,by omega,by omega,by omega,a6⟩
 ·obtain⟨k,hk⟩:=E8 hs;exact⟨(hrow k s hk).2,(hsup k s hk).2.2.2⟩
 ·rcases bl i j with h7|h7|h7
  ·exact absurd e (lt i j s t h7 hs ht)
  ·exact h7
  ·exact absurd e.symm (lt j i t s h7 ht hs)
theorem CF(M:List (List Int))(r c r' c':Nat)(d:Int):ez (putAt M r c d) r' c'=d∨ez (putAt M r c d) r' c'=ez M r' c':=by
 by_cases h:r'=r∧c'=c
 ·obtain⟨rfl,rfl⟩:=h;rcases aO r' M.length with h1|h1
  ·rcases aO c' (M.getD r' []).length with h2|h2
   ·exact .inl (CE h1 h2)
   ·refine .inr ?_;unfold ez putAt;rw[kv h1,List.set_eq_of_length_le h2]
  ·refine .inr ?_;unfold ez putAt;rw[List.set_eq_of_length_le h1]
 ·exact .inr (iM (by
   by_cases h1:r'=r
   ·exact .inr fun h2=>h ⟨h1,h2⟩
   ·exact .inl h1))
theorem CG{k:Nat}(hk:k<f.nodes.length):f.node (k:Int)∈f.nodes:=by
 rw[ei.node,aJ,List.getD,aA hk];exact aX hk
section
variable{f:ei}(h:BW f)
include h
theorem BW.Kz{b:Int×Int×Rat}(hb:b∈f.bars)(k:Nat): -2000000<=(xF f b).getD k 0∧(xF f b).getD k 0<=2000000:=by
 obtain⟨ka,kb,ea,eb,hka,hkb,-,-⟩:=h.Jw b hb;obtain⟨⟨a1,a2⟩,⟨a3,a4⟩,a5,a6⟩:=h.co _ (CG hka);obtain⟨⟨b1,b2⟩,⟨b3,b4⟩,b5,b6⟩:=h.co _ (CG hkb);rw[xF,ea,eb]
 match k with
 |0=>simp[List.getD];omega
 |1=>simp[List.getD];omega
 |2=>simp[List.getD];omega
 |k+3=>simp[List.getD]
theorem BW.CH{i:Nat}{b:Int×Int×Rat}(hb:f.bars[i]? =some b)(r:Nat):∀k,k<=3-> -2000000<=ez (fH f (eM f i) i k) r i∧ez (fH f (eM f i) i k) r i<=2000000
 |0,_=>by
  have:=kx f (r:=r) i (aE i);rw[fH,this];omega
 |k+1,hk=>by
  obtain⟨ka,kb,ea,eb,-,-,hne,-⟩:=h.Jw b (aD hb);have ih:=BW.CH hb r k (by omega);have hd:=h.Kz (aD hb) k;have z1:=xS (r:=3*ka+k) hb ea eb (show k<=3 by omega) (by omega);have z2:=xS (r:=3*kb+k) hb ea eb (show k<=3 by omega) (by omega);rw[fH];rw[E7 hb,toNat_add ea,toNat_add eb,gV,gV,z1,iM (r':=3*kb+k) (.inl (by omega)),z2];rcases CF (putAt (fH f (eM f i) i k) (3*ka+k) i (0+(xF f b).getD k 0)) (3*kb+k) i r i (0+ -(xF f b).getD k 0)with e|e
  ·rw[e];omega
  ·rw[e];rcases CF (fH f (eM f i) i k) (3*ka+k) i r i (0+(xF f b).getD k 0)with e|e
   ·rw[e];omega
   ·rw[e];exact ih
theorem BW.E9{i r:Nat}(hi:i<f.bars.length):∀j,i<j->j<=f.bars.length-> -2000000<=ez (eM f j) r i∧ez (eM f j) r i<=2000000
 |0,h1,_=>by omega
 |j+1,h1,h2=>by
  rw[eM];rcases aO i j with h3|h3
  ·rw[tG (by omega)];exact BW.E9 hi j h3 (by omega)
  ·rw[show j=i by omega];exact h.CH (aA hi) r 3 (aE _)
theorem BW.DU{i:Nat}(hs:f.cS[i]? =some s):ez (iV f) r (f.bars.length+i)=if r=fw s then 1 else 0:=
 z6 (mi f) (lX f) (fun s hs=>(h.sup s hs).1) hs _ (aC.1 hs).1
theorem BW.J6(r c:Nat): -2000000<=ez (iV f) r c∧ez (iV f) r c<=2000000:=by
 rcases aO c f.bars.length with hc|hc
 ·rw[iV,xT hc];exact h.E9 hc _ hc (aE _)
 ·rcases aO c f.cols with h1|h1
  ·obtain⟨i,rfl⟩:∃i,c=f.bars.length+i:=⟨c-f.bars.length,by omega⟩
   rw[ei.cols]at h1;rw[h.DU (aA (show i<f.cS.length by omega))];split<;>omega
  ·have:ez (iV f) r c=0:=by
    unfold ez;rw[List.getD,List.getElem?_eq_none]
    ·rfl
    ·rcases aO r (iV f).length with h2|h2
     ·rw[List.getD,aA h2];show((iV f)[r]).length<=c;rw[mi f _ _ (aX h2)];exact h1
     ·rw[List.getD,List.getElem?_eq_none h2];exact aP _
   rw[this];omega
theorem BW.xV(r c:Nat):Ib 2000000 (cY (cK f) r c):=by
 rw[DT];have:=h.J6 r c;exact Ib.int (by omega)
theorem BW.ky:A4 (cK f) f.cols 2000000:=fun j _=>⟨1,by decide,Ib.one (by decide),fun t _=>by rw[bj];exact h.xV j t⟩
theorem BW.only{x:Nat->Rat}(hx:∀j,j<(cK f).length->mulR (cK f) f.cols x j=0)(h0:∀t,t<f.bars.length->x t=0):∀t,t<f.cols->x t=0:=fun t ht=>by
 rcases aO t f.bars.length with h1|h1
 ·exact h0 t h1
 ·obtain⟨i,rfl⟩:∃i,t=f.bars.length+i:=⟨t-f.bars.length,by omega⟩
  have hi:i<f.cS.length:=by unfold ei.cols at ht;omega
  have hs:=aA hi;have hr:=h.sup _ (aX hi);have h2:=hx (fw f.cS[i]) (by rw[gl];exact hr.1);unfold mulR at h2;rw[eL ht fun k hk hne=>?_,DT,h.DU hs,if_pos rfl]at h2
  ·have e:((1:Int):Rat)*x (f.bars.length+i)=x (f.bars.length+i):=bj _
   rwa [e]at h2
  ·rcases aO k f.bars.length with h3|h3
   ·rw[h0 k h3,aw]
   ·obtain⟨i',rfl⟩:∃i,k=f.bars.length+i:=⟨k-f.bars.length,by omega⟩
    have hi':i'<f.cS.length:=by unfold ei.cols at hk;omega
    have hs':=aA hi';rw[DT,h.DU hs',aI fun e=>hne (by rw[h.one i i' _ _ hs hs' e])];exact bA _
theorem BW.Gn(ht:t<f.bars.length):0<(cP f).getD t 0:=by
 obtain⟨_,_,_,_,_,_,_,h1⟩:=h.Jw _ (aX ht);rw[cP,List.getD,aK (by rw[aL];exact ht),aM,aA ht];exact h1
theorem BW.CI(t:Nat):0<=(cP f).getD t 0:=by
 rw[List.getD]
 cases ht:(cP f)[t]? with
 |none=>exact Rat.le_refl
 |some q=>
  show 0<=q;have hm:=aD ht;rcases bN.1 hm with hm|hm
  ·obtain⟨b,hb,rfl⟩:=aR.1 hm;obtain⟨_,_,_,_,_,_,_,h1⟩:=h.Jw b hb;exact Rat.le_of_lt h1
  ·obtain⟨s,hs,rfl⟩:=aR.1 hm;exact(h.sup s hs).2
theorem BW.CJ:yh (cK f) f.cols fun t=>(cP f).getD t 0:=by
 refine⟨fc f,fun t _=>h.CI t,fun x hx h0=>h.only hx fun t ht=>?_⟩;have h1:=uJ (f:=fun t=>(cP f).getD t 0*(x t*x t)) (n:=f.cols) (fun k _=>Rat.mul_nonneg (h.CI k) (sq_nonneg _)) (by rw[h0];exact Rat.le_refl) t (by unfold ei.cols;omega);have h2:=h.Gn ht;rcases Rat.mul_eq_zero.1 h1 with h3|h3
 ·rw[h3]at h2;exact absurd h2 (Rat.lt_irrefl)
 ·rcases Rat.mul_eq_zero.1 h3 with h4|h4<;>exact h4
end
theorem qS(f:Nat->Rat)(a:Nat):∀b,cQ f (a+b)=cQ f a+cQ (fun k=>f (a+k)) b
 |0=>(bP _).symm
 |b+1=>by rw[show a+(b+1)=a+b+1 by omega,cQ,cQ,qS f a b,Rat.add_assoc]
theorem tI{k:Nat}(hk:k<n):(dZ M n).getD k []=M.map fun r=>r.getD k 0:=by
 unfold dZ;exact getD_some (by rw[aM,bh hk];rfl)
theorem lr{k i:Nat}(hk:k<n):cY (dZ M n) k i=cY M i k:=by
 rw[cY,cY,tI hk];rcases aO i M.length with h|h
 ·have hr:=aA h;rw[getD_some (show (M.map fun r=>r.getD k 0)[i]? =some (M[i].getD k 0) by rw[aM,hr];rfl),getD_some hr]
 ·rw[iL (by rw[aL];exact h),show M.getD i []=[] by rw[List.getD,List.getElem?_eq_none h];rfl];rfl
theorem fa(M:List (List Rat))(n:Nat):fZ M.length (dZ M n):=fun r hr=>by
 obtain⟨k,_,rfl⟩:=aR.1 hr;exact aL ..
theorem dy(M:List (List Rat))(n:Nat):(dZ M n).length=n:=by simp[dZ]
theorem CK(hM:fZ n M):dZ (dZ M n) M.length=M:=by
 refine fu [] (dy _ _) fun i hi=>?_;rw[dy]at hi;have hr:=hM.getD hi;refine fu 0 (by rw[tI hi,aL,dy,hr]) fun t ht=>?_;rw[tI hi,aL,dy]at ht;have:=lr (M:=dZ M n) (n:=M.length) (i:=t) hi;rw[lr ht]at this;exact this
abbrev kz(M:List (List Rat))(n:Nat):Nat:=(cH M n).2.length
section
variable{M:List (List Rat)}{n:Nat}
theorem F2(hM:fZ n M){G:Mx}(h:∀j,j<M.length->df G r n (cY M j)):kz M n<=r:=by
 obtain⟨r1,r2,r3,r4,r5⟩:=dN hM n (aE _);have hl:=dg M n;have hrk:kz M n=(cH M n).2.length:=rfl;have hB:∀i,∃c:Nat->Rat,i<kz M n->∀t,t<n->cY (cH M n).1 i t=cQ (fun k=>c k*G k t) r:=fun i=>by
  by_cases hi:i<kz M n
  ·obtain⟨c,hc⟩:=((iU hM n (aE _)).1 i (by omega)).trans h;exact⟨c,fun _=>hc⟩
  ·exact⟨fun _=>0,fun h=>absurd h hi⟩
 obtain⟨D,hD⟩:∃D:Nat->Nat->Rat,∀i,i<kz M n->∀t,t<n->cY (cH M n).1 i t=cQ (fun k=>D i k*G k t) r:=⟨fun i=>(hB i).choose,fun i=>(hB i).choose_spec⟩
 refine Nat.le_of_not_lt fun hlt=>?_;obtain⟨T,hT⟩:∃T:List (List Rat),T=(List.range r).map fun k=>(List.range (kz M n)).map fun i=>D i k:=⟨_,rfl⟩
 have hTl:T.length=r:=by rw[hT];simp
 have hTn:fZ (kz M n) T:=fun x hx=>by
  rw[hT]at hx;obtain⟨k,_,rfl⟩:=aR.1 hx;simp
 have hTat:∀k i,k<r->i<kz M n->cY T k i=D i k:=fun k i hk hi=>by
  have h1:T[k]? =some ((List.range (kz M n)).map fun i=>D i k):=by rw[hT,aM,bh hk];rfl
  rw[cY,getD_some h1];exact getD_some (by rw[aM,bh hi];rfl)
 obtain⟨-,t2,-⟩:=dN hTn (kz M n) (aE _);have hkl:=kQ T (kz M n);rw[dg,hTl]at t2;have hc:=xP hTn;have hk0:0<(cN T (kz M n)).length:=by omega
 have hy:=rQ hTn hk0;have hall:∀i,i<kz M n->cY (cN T (kz M n)) 0 i=0:=fun j hj=>by
  have hpj:(cH M n).2.getD j 0<n:=r4 _ (by rw[List.getD,aA hj];exact aX _);have e1:cQ (fun i=>cY (cN T (kz M n)) 0 i*cY (cH M n).1 i ((cH M n).2.getD j 0)) (kz M n)=0:=by
   rw[cA (g:=fun i=>cQ (fun k=>cY (cN T (kz M n)) 0 i*(D i k*G k ((cH M n).2.getD j 0))) r) fun i hi=>by rw[hD i hi _ hpj,eE],kN,cA (g:=fun _=>0) fun k hk=>?_,dK];have h2:=hy k (by omega);unfold mulR at h2;rw[cA (g:=fun i=>(cY T k i*cY (cN T (kz M n)) 0 i)*G k ((cH M n).2.getD j 0)) fun i hi=>by rw[hTat k i hk hi];grind,jN,h2,bA]
  rw[eL hj fun i hi hne=>by rw[r5 j i hj (by omega),aI hne,aw],r5 j j hj (by omega),if_pos rfl,Rat.mul_one]at e1;exact e1
 have h3:=E1 (M:=T) (n:=kz M n) (c:=fun k=>if k=0 then 1 else 0) (fun t ht=>by
  rw[eL hk0 fun k _ hne=>by rw[aI hne,bA],if_pos rfl,bj]
  exact hall t ht) 0 hk0
 exact absurd h3 (by decide)
theorem p8(hM:fZ n M):kz (dZ M n) M.length<=kz M n:=by
 obtain⟨r1,r2,r3,r4,r5⟩:=dN hM n (aE _);have hl:=dg M n;have hrk:kz M n=(cH M n).2.length:=rfl;have hrf:=xB hM;refine F2 (fa M n) (G:=fun i j=>cY M j ((cH M n).2.getD i 0)) fun t ht=>?_;rw[dy]at ht;refine⟨fun i=>cY (cH M n).1 i t,fun j hj=>?_⟩;rw[lr ht];have h1:df (cY (cH M n).1) (kz M n) n (cY M j):=((iU hM n (aE _)).2 j hj).cut fun i t h1 h2 ht=>r3 i t h1 (by omega) ht;rw[hrf.coeff h1 t ht];exact cA fun i _=>bZ _ _
theorem DV(hM:fZ n M):kz (dZ M n) M.length=kz M n:=by
 refine aQ (p8 hM) ?_;have h:=p8 (fa M n);rw[dy,CK hM]at h;exact h
theorem CL(hM:fZ n M)(hr:kz M n=M.length):A2 (cY M) M.length n:=by
 obtain⟨r1,r2,r3,r4,r5⟩:=dN hM n (aE _);have hl:=dg M n;have hrk:kz M n=(cH M n).2.length:=rfl;refine(uK hM n (aE _)).1 fun x hx j hj=>?_;have hj2:j<(cH M n).2.length:=by omega
 have hpj:(cH M n).2.getD j 0<n:=r4 _ (by rw[List.getD,aA hj2];exact aX _);have h1:=hx _ hpj;rw[eL hj fun i hi hne=>by rw[r5 j i hj2 (by omega),aI hne,aw],r5 j j hj2 (by omega),if_pos rfl,Rat.mul_one]at h1;exact h1
theorem zc{k:Nat}(hk:k<n):mulR (dZ M n) M.length y k=cQ (fun i=>cY M i k*y i) M.length:=cA fun i _=>by rw[lr hk]
def ic(M:List (List Rat))(n:Nat)(fl:List Rat):List (List Rat):=(M.map fun r=>List.replicate M.length 0++r)++(List.range n).map fun j=>(M.map fun r=>r.getD j 0)++(List.replicate n 0).set j (fl.getD j 0)
theorem fe(fl:List Rat):(ic M n fl).length=M.length+n:=by unfold ic;rw[List.length_append,aL,aL,List.length_range]
theorem lu(hM:fZ n M)(fl:List Rat):fZ (M.length+n) (ic M n fl):=fun r hr=>by
 rcases bN.1 hr with hr|hr
 ·obtain⟨x,hx,rfl⟩:=aR.1 hr;rw[List.length_append,bE,hM x hx]
 ·obtain⟨x,hx,rfl⟩:=aR.1 hr;rw[List.length_append,aL,bB,bE]
theorem A5{i:Nat}(hi:i<M.length):(t<M.length->cY (ic M n fl) i t=0)∧cY (ic M n fl) i (M.length+t)=cY M i t:=by
 have hr:=aA hi;have h:(ic M n fl)[i]? =some (List.replicate M.length 0++M[i]):=by
  unfold ic;rw[aK (by rw[aL];exact hi),aM,hr];rfl
 refine⟨fun ht=>?_,?_⟩
 ·rw[cY,getD_some h];exact getD_some (by rw[aK (by rw[bE];exact ht),List.getElem?_replicate,if_pos ht])
 ·rw[cY,cY,getD_some h,getD_some hr,List.getD,List.getD,aN (by rw[bE];exact Nat.le_add_right _ _),bE,Nat.add_sub_cancel_left]
theorem xW{j:Nat}(hj:j<n):(t<M.length->cY (ic M n fl) (M.length+j) t=cY M t j)∧(t<n->cY (ic M n fl) (M.length+j) (M.length+t)=if t=j then fl.getD j 0 else 0):=by
 have h:(ic M n fl)[M.length+j]? =some ((M.map fun r=>r.getD j 0)++(List.replicate n 0).set j (fl.getD j 0)):=by
  unfold ic;rw[aN (by rw[aL];exact Nat.le_add_right _ _),aL,Nat.add_sub_cancel_left,aM,bh hj];rfl
 refine⟨fun ht=>?_,fun ht=>?_⟩
 ·have hr:=aA ht;rw[cY,cY,getD_some h,getD_some hr];exact getD_some (by rw[aK (by rw[aL];exact ht),aM,hr];rfl)
 ·rw[cY,getD_some h];by_cases e:t=j
  ·subst e;rw[if_pos rfl];exact getD_some (by rw[aN (by rw[aL];exact Nat.le_add_right _ _),aL,Nat.add_sub_cancel_left,aU (by rw[bE];exact ht)])
  ·rw[aI e];exact getD_some (by rw[aN (by rw[aL];exact Nat.le_add_right _ _),aL,Nat.add_sub_cancel_left,aZ (Ne.symm e),List.getElem?_replicate,if_pos ht])
theorem tJ{i:Nat}(hi:i<M.length):mulR (ic M n fl) (M.length+n) z i=mulR M n (fun t=>z (M.length+t)) i:=by
 unfold mulR;rw[qS,cA (g:=fun _=>0) fun t ht=>by rw[(A5 hi).1 ht,bA],dK,Rat.zero_add];exact cA fun t _=>by rw[(A5 hi).2]
theorem tK{j:Nat}(hj:j<n):mulR (ic M n fl) (M.length+n) z (M.length+j)=cQ (fun i=>cY M i j*z i) M.length+fl.getD j 0*z (M.length+j):=by
 unfold mulR;rw[qS,cA fun t ht=>by rw[(xW hj).1 ht]];congr 1;rw[eL hj fun t ht hne=>by rw[(xW hj).2 ht,aI hne,bA],(xW hj).2 hj,if_pos rfl]
theorem zd(h:∀j,j<M.length->mulR M n y j=0):cQ (fun t=>y t*cQ (fun i=>cY M i t*u i) M.length) n=0:=by
 rw[cA (g:=fun t=>cQ (fun i=>y t*(cY M i t*u i)) M.length) fun t _=>by rw[eE],kN,cA (g:=fun _=>0) fun i hi=>?_,dK];have h1:=h i hi;unfold mulR at h1;rw[cA (g:=fun t=>cY M i t*y t*u i) fun t _=>by grind,jN,h1,bA]
end
section
variable{M:List (List Rat)}{n:Nat}{fl b:List Rat}
theorem iG.J7(hM:fZ n M)(h:iG M n (fun t=>fl.getD t 0) b x):∃u,eU (dZ M n) (cU (da x fl) (-1)) M.length=some u:=by
 cases e:eU (dZ M n) (cU (da x fl) (-1)) M.length with
 |some u=>exact⟨u,rfl⟩
 |none=>
  obtain⟨y,y1,y2⟩:=mf (fa M n) e;rw[dy]at y1 y2;refine absurd ?_ y2;have hnull:∀j,j<M.length->mulR M n y j=0:=fun j hj=>Eq.trans (cA fun t ht=>by rw[lr ht,bZ]) (y1 j hj);obtain⟨c,hc⟩:=E0 hM hnull;have hb:∀t,t<n->(cU (da x fl) (-1)).getD t 0= -(fl.getD t 0*x.getD t 0):=fun t ht=>by
   have h1:=kR (a:=x) (b:=fl) (t:=t) (by rw[h.len];exact ht);have hl:t<(da x fl).length:=by rw[da,List.length_mapIdx,h.len];exact ht
   rw[getD_some (aA hl)]at h1;rw[getD_some (show (cU (da x fl) (-1))[t]? =some ((da x fl)[t]* -1) by rw[cU,aM,aA hl];rfl),h1];grind
  have e1:cQ (fun t=>y t*(cU (da x fl) (-1)).getD t 0) n= -(nu (fun t=>fl.getD t 0) (fun t=>x.getD t 0) y n):=by
   unfold nu;rw[<-jB];exact cA fun t ht=>by rw[hb t ht];grind
  rw[e1,tE (x':=fun t=>x.getD t 0) (fun _ _=>rfl) hc,rT,cA (g:=fun _=>0) fun k hk=>by rw[oA,h.st k hk,aw],dK];rfl
theorem qT(x fl:List Rat){n:Nat}(hx:x.length=n)(ht:t<n):(cU (da x fl) (-1)).getD t 0= -(fl.getD t 0*x.getD t 0):=by
 have h1:=kR (a:=x) (b:=fl) (t:=t) (by rw[hx];exact ht);have hl:t<(da x fl).length:=by rw[da,List.length_mapIdx,hx];exact ht
 rw[getD_some (aA hl)]at h1;rw[getD_some (show (cU (da x fl) (-1))[t]? =some ((da x fl)[t]* -1) by rw[cU,aM,aA hl];rfl),h1];grind
theorem CM(hM:fZ n M){u:List Rat}(hb:b.length=M.length)(h:iG M n (fun t=>fl.getD t 0) b x)(hu:eU (dZ M n) (cU (da x fl) (-1)) M.length=some u):
  (u++x).length=M.length+n∧∀j,j<(ic M n fl).length->mulR (ic M n fl) (M.length+n) (fun t=>(u++x).getD t 0) j=(b++qR n).getD j 0:=by
 obtain⟨u1,u2⟩:=gk (fa M n) hu;rw[dy]at u2;have ha:∀t,t<M.length->(u++x).getD t 0=u.getD t 0:=fun t ht=>by rw[List.getD,aK (by omega),<-List.getD]
 have hc:∀t,(u++x).getD (M.length+t) 0=x.getD t 0:=fun t=>by rw[List.getD,aN (by omega),u1,Nat.add_sub_cancel_left,<-List.getD]
 refine⟨by rw[List.length_append,u1,h.len],fun j hj=>?_⟩;rw[fe]at hj;rw[oB];rcases aO j M.length with h1|h1
 ·rw[tJ h1,qQ (y:=fun t=>x.getD t 0) fun t _=>hc t];exact h.eq j h1
 ·obtain⟨k,rfl⟩:∃k,j=M.length+k:=⟨j-M.length,by omega⟩
  have hk:k<n:=by omega
  rw[tK hk,hc,iL (l:=b) (by omega),cA (g:=fun i=>cY M i k*u.getD i 0) fun i hi=>by rw[ha i hi]];have h2:=u2 k hk;rw[zc hk,qT x fl h.len hk]at h2;rw[h2];grind
theorem Gp(hM:fZ n M){z:List Rat}(hb:b.length=M.length)(hz:eU (ic M n fl) (b++qR n) (M.length+n)=some z):iG M n (fun t=>fl.getD t 0) b (z.drop M.length):=by
 obtain⟨z1,z2⟩:=gk (lu hM fl) hz;have hd:∀t,(z.drop M.length).getD t 0=z.getD (M.length+t) 0:=fun t=>by rw[List.getD,List.getD,List.getElem?_drop]
 refine⟨by rw[List.length_drop,z1];omega,fun j hj=>?_,fun k hk=>?_⟩
 ·have h1:=z2 j (by rw[fe];omega);rw[tJ hj,oB]at h1;rw[<-h1];exact qQ (fun t _=>hd t) j
 ·have h0:=zd (u:=fun i=>z.getD i 0) (rQ hM hk);unfold nu;have e:cQ (fun t=>fl.getD t 0*(cY (cN M n) k t*(z.drop M.length).getD t 0)) n= -cQ (fun t=>cY (cN M n) k t*cQ (fun i=>cY M i t*z.getD i 0) M.length) n:=by
   rw[<-jB];refine cA fun t ht=>?_;have h1:=z2 (M.length+t) (by rw[fe];omega);rw[tK ht,oB,iL (l:=b) (by omega)]at h1;rw[hd];grind
  rw[e,h0];rfl
theorem Gq(hE:yh M n fun t=>fl.getD t 0)(hr:kz M n=M.length):Ks (ic M n fl) (M.length+n):=fun z hz=>by
 have hM:=hE.len;have h1:∀j,j<M.length->mulR M n (fun t=>z (M.length+t)) j=0:=fun j hj=>by rw[<-tJ hj];exact hz j (by rw[fe];omega)
 have h2:∀k,k<n->cQ (fun i=>cY M i k*z i) M.length+fl.getD k 0*z (M.length+k)=0:=fun k hk=>by rw[<-tK hk];exact hz _ (by rw[fe];omega)
 have h3:nu (fun t=>fl.getD t 0) (fun t=>z (M.length+t)) (fun t=>z (M.length+t)) n=0:=by
  have e:nu (fun t=>fl.getD t 0) (fun t=>z (M.length+t)) (fun t=>z (M.length+t)) n= -cQ (fun t=>z (M.length+t)*cQ (fun i=>cY M i t*z i) M.length) n:=by
   unfold nu;rw[<-jB];exact cA fun t ht=>by have:=h2 t ht;grind
  rw[e,zd h1];rfl
 have h4:=hE.J3 _ h1 h3;have h5:=CL hM hr z fun t ht=>by
  have:=h2 t ht;rw[h4 t ht,aw,bP]at this;exact Eq.trans (cA fun i _=>bZ _ _) this
 intro t ht;rcases aO t M.length with h6|h6
 ·exact h5 t h6
 ·have:=h4 (t-M.length) (by omega)
  rwa [show M.length+(t-M.length)=t by omega]at this
theorem zf(hM:fZ n M)(hr:kz M n=M.length):∃x,eU M b n=some x:=by
 cases e:eU M b n with
 |some x=>exact⟨x,rfl⟩
 |none=>
  obtain⟨y,y1,y2⟩:=mf hM e;have:=CL hM hr y y1;exact absurd (by rw[cA (g:=fun _=>0) fun j hj=>by rw[this j hj,bA],dK]) y2
end
end Go.Ex
namespace Go.Ex
open Go Go.Sx Go.Proofs
variable{S:Nat->Prop}
section
variable{S S':Nat->Prop}{H:Hp}{nx:Nat}{iv iv':Iv}{B:Nat}{w w' w2:World}{O:Nat->Sx.dS}{v:Value}{M:List (List Int)}
end
set_option maxHeartbeats 1000000 in
theorem AE{w:World}{vn vb vs vl:Value}{f:ei}{l:List Ld}(hS:Old S w)(hf:dU w S vn vb vs f)(hl:iJ w S vl l)(hn20:f.nodes.length<=20)(hok:yN f.nodes.length l):
  di PG N.rY #[.agg #[vn,vb,vs],vl] w (dw w fun v' w2=>cD w2 (Nf w w2) v' (e9 f l)):=by
 have hw:cR w.heap.size w w:=cR.refl;obtain⟨an,cn,ab,cb,aq,cq,rfl,rfl,rfl,hmn,hmb,hms⟩:=hf.shape;obtain⟨al,cl,rfl,hcl,hml⟩:=hl.shape;have hl200:=hok.len;refine uy (by simp) ?_;refine⟨((3*f.nodes.length:Nat):Int),wo,?_⟩;obtain⟨m,hm⟩:∃m,3*f.nodes.length=m:=⟨_,rfl⟩
 rw[hm]
 refine⟨m,m,rfl,rfl,aE _,by omega,by omega,Nat×World,fun z=>⟨[(1,.o (.v (.slice al l.length cl))),(5,.o (.s 1 0 m m)),(6,.o (.v (.int .i64 ((z.1:Nat):Int))))],[(1,.arr T.int (zv (ef f.nodes.length l z.1)))],2,[],z.2⟩,fun z=>l.length-z.1,
  fun z=>z.1<=l.length∧cR w.heap.size w z.2∧IA (ef f.nodes.length l z.1) (3000000*z.1),?_,?_⟩
 ·intro O w' r3;exact⟨(0,w'),⟨aP _,hw.tr r3.cI,fun z hz=>by rw[ef]at hz;rw[bV hz];exact⟨Int.le_refl _,Int.le_refl _⟩⟩,Sub.gn [] r3 ⟨by dsimp only;rw[ef,hm,zv,List.map_replicate];rfl,trivial⟩⟩
 rintro⟨i,w1⟩ ⟨hi,hw,hbd⟩;dsimp only at hi hw hbd ⊢;refine dF.mk (fun hib=>?_) (fun hib=>?_)
 ·have hib:i<l.length:=by simpa using hib
  obtain⟨x,hx⟩:∃x,l[i]? =some x:=⟨_,aA hib⟩
  obtain⟨hn,hx1,hx2,hx3⟩:=hok.ld x (aD hx);obtain⟨kn,hkn⟩:=Int.eq_ofNat_of_zero_le hn.1;obtain⟨adx,cs,hax,hP,-,hlx⟩:=hl.load (by decide) hx;have hP:cs=[.int .i64 x.1,.int .i64 x.2.1,.int .i64 x.2.2.1,.int .i64 x.2.2.2]:=hP;subst hP;obtain⟨s0,hs0⟩:∃s,ef f.nodes.length l i=s:=⟨_,rfl⟩
  rw[hs0]at hbd;have hsl:s0.length=m:=by rw[<-hs0,jQ,hm]
  obtain⟨z0,hz0⟩:∃z,s0[3*kn]? =some z:=⟨_,aA (by omega)⟩
  obtain⟨z1,hz1⟩:∃z,s0[3*kn+1]? =some z:=⟨_,aA (by omega)⟩
  obtain⟨z2,hz2⟩:∃z,s0[3*kn+2]? =some z:=⟨_,aA (by omega)⟩
  have b0:=hbd z0 (aD hz0);have b1:=hbd z1 (aD hz1);have b2:=hbd z2 (aD hz2);have n1:fX s0 x 1=s0.set (3*kn) (z0+x.2.1):=(lM (k:=0) (j:=3*kn) (by omega) rfl hz0).symm;have n2:fX s0 x 2=(s0.set (3*kn) (z0+x.2.1)).set (3*kn+1) (z1+x.2.2.1):=by
   rw[<-n1];exact(lM (k:=1) (j:=3*kn+1) (by omega) rfl (by rw[n1,aZ (by omega)];exact hz1)).symm
  have n3:fX s0 x 3=((s0.set (3*kn) (z0+x.2.1)).set (3*kn+1) (z1+x.2.2.1)).set (3*kn+2) (z2+x.2.2.2):=by
   rw[<-n2];exact(lM (k:=2) (j:=3*kn+2) (by omega) rfl (by rw[n2,aZ (by omega),aZ (by omega)];exact hz2)).symm
  have hnx:fX s0 x 3=ef f.nodes.length l (i+1):=by rw[ef,show l.getD i (0,0,0,0)=x by rw[List.getD,hx];rfl,hs0]
  have hbd1:=hbd.set (j:=3*kn) (z:=z0+x.2.1) (t2:=3000000*i+1000000) (by omega) (by omega);have hbd2:=hbd1.set (j:=3*kn+1) (z:=z1+x.2.2.1) (t2:=3000000*i+2000000) (by omega) (by omega);have hbd3:=hbd2.set (j:=3*kn+2) (z:=z2+x.2.2.2) (t2:=3000000*i+3000000) (by omega) (by omega);rw[<-n3,hnx]at hbd3;rw[hs0];refine⟨adx,hax,by omega,.int .i64 x.1,fun O w' r=>?_,?_⟩
  ·obtain⟨k1,k2⟩:=hlx 0 _ rfl;rw[cJ (w:=w) (w2:=w') (by simp only[eA];exact(hw.tr r.cI).block _ (hS _ k1))];simp only[aJ,BF]at k2 ⊢;exact k2
  refine⟨((3*kn:Nat):Int),wo,?_⟩;refine cF hτ dc [.x 0,.x 1,.x 2,.x 3,.x 4,.x 5,.x 6,.x 7,.x 8,.x 9,.x 10,.x 11,.x 12,.x 13,.x 14,.x 15,.x 16,.x 17,.x 18,.x 19,.x 20,.x 21,.x 22,.x 23,.x 24,.x 25,.x 26,.x 27,.x 28,.x 29,.x 30,.x 31,.x 32,.x 33,.x 34,.x 35,.x 36,.x 37,.x 38,.x 39,.x 40,.x 41,.x 42,.x 43,.x 44,.x 45] (by kernel_rfl) (by kernel_rfl) ?_;refine⟨((3*kn+1:Nat):Int),wo,((3*kn+2:Nat):Int),wo,by omega,.int .i64 z0,by rw[aJ,aV,aS];exact zy hz0,adx,hax,by omega,.int .i64 x.2.1,fun O w' r=>?_,?_⟩
  ·obtain⟨k1,k2⟩:=hlx 1 _ rfl;rw[cJ (w:=w) (w2:=w') (by simp only[eA];exact(hw.tr r.cI).block _ (hS _ k1))];simp only[aJ,BF]at k2 ⊢;exact k2
  refine⟨z0+x.2.1,wo,((3*kn+1:Nat):Int),wo,by omega,.int .i64 z1,by rw[aJ,aV,aS];exact zy hz1,adx,hax,by omega,.int .i64 x.2.2.1,fun O w' r=>?_,?_⟩
  ·obtain⟨k1,k2⟩:=hlx 2 _ rfl;rw[cJ (w:=w) (w2:=w') (by simp only[eA];exact(hw.tr r.cI).block _ (hS _ k1))];simp only[aJ,BF]at k2 ⊢;exact k2
  refine⟨z1+x.2.2.1,wo,((3*kn+2:Nat):Int),wo,by omega,.int .i64 z2,by rw[aJ,aV,aS];exact zy hz2,adx,hax,by omega,.int .i64 x.2.2.2,fun O w' r=>?_,?_⟩
  ·obtain⟨k1,k2⟩:=hlx 3 _ rfl;rw[cJ (w:=w) (w2:=w') (by simp only[eA];exact(hw.tr r.cI).block _ (hS _ k1))];simp only[aJ,BF]at k2 ⊢;exact k2
  refine⟨z2+x.2.2.2,wo,by omega,by rw[BB];(try rw[bB]);(try rw[bB]);omega,zv ((s0).set (3*kn) (z0+x.2.1)),?_,?_⟩
  ·rw[aJ,aV,aS];exact BC (by (try rw[bB]);(try rw[bB]);omega)
  refine⟨by omega,by rw[BB];(try rw[bB]);(try rw[bB]);omega,zv (((s0).set (3*kn) (z0+x.2.1)).set (3*kn+1) (z1+x.2.2.1)),?_,?_⟩
  ·rw[aJ,aV,aS];exact BC (by (try rw[bB]);(try rw[bB]);omega)
  refine⟨by omega,by rw[BB];(try rw[bB]);(try rw[bB]);omega,zv ((((s0).set (3*kn) (z0+x.2.1)).set (3*kn+1) (z1+x.2.2.1)).set (3*kn+2) (z2+x.2.2.2)),?_,?_⟩
  ·rw[aJ,aV,aS];exact BC (by (try rw[bB]);(try rw[bB]);omega)
  refine⟨((i+1:Nat):Int),wo,?_⟩;intro ρ3 w6 r3;exact⟨(i+1,w6),⟨hib,hw.tr r3.cI,fun z hz=>by have:=hbd3 z hz;dsimp only;omega⟩,Sub.gn [] r3 ⟨by dsimp only;rw[<-hnx,n3];rfl,trivial⟩,by dsimp only;omega⟩
 have hib:i=l.length:=aQ hi (by simpa using hib);subst hib;obtain⟨s0,hs0⟩:∃s,ef f.nodes.length l l.length=s:=⟨_,rfl⟩
 have hsl:s0.length=m:=by rw[<-hs0,jQ,hm]
 rw[hs0]at hbd ⊢
 refine⟨Nat×List (List Value)×World×Iv,fun z=>⟨[(5,.o (.s 1 0 m m)),(8,.o (.w 2 z.2.1.length)),(9,.o (.v (.int .i64 ((z.1:Nat):Int))))],[(2,.vec T.Rat 4 z.2.1.flatten),(1,.arr T.int (zv s0))],3,z.2.2.2,z.2.2.1⟩,fun z=>m-z.1,
  fun z=>z.1<=m∧cR w.heap.size w z.2.2.1∧eP z.2.2.1 (Cf w z.2.2.2) z.2.1 (dL (s0.take z.1)),?_,?_⟩
 ·intro O w' r;exact⟨(0,[],w',_),⟨aP _,hw.tr r.cI,eP.nil⟩,Sub.nil 8 T.Rat 4 rfl (by simp[kl,SV.sc,At.sc,gP]) r fun ρ1 r1=>Sub.gn [] r1⟩
 rintro⟨i,css,w1,iv⟩ ⟨hi,hw,hG⟩;dsimp only at hi hw hG ⊢;have hfl:=fg hG.four;have hcl2:css.length=i:=by rw[hG.len,dL,aL,aW];omega
 refine dF.mk (fun hib=>?_) (fun hib=>?_)
 ·have hib:i<m:=by simpa using hib
  obtain⟨z,hz⟩:∃z,s0[i]? =some z:=⟨_,aA (by omega)⟩
  have hzb:=hbd z (aD hz);refine⟨by omega,.int .i64 z,by rw[aJ,aV,aS];exact zy hz,?_⟩;refine bw (cE hw (fun _ w' v w2=>cM w2 (Nf w' w2) v (z:Rat)) (fun O w' r=>sU z w' (by omega)) ?_);rintro O wa1 v1 wb1 iv1 r he hw h_ hn;replace hG:=hG.bz r (bs w) he (mC h_);have hd:=hn.cd (S:=fun _=>False) r.bu (mN h_);obtain⟨s1_0,s1_1,s1_2,s1_3,s1_4,s1_5,s1_6,s1_7,rfl⟩:=hd.shape;have hG2:=hG.push (cs:=[.bool s1_0,.slice s1_1 s1_2 s1_3,.bool s1_4,.slice s1_5 s1_6 s1_7]) (q:=(z:Rat)) ⟨_,_,_,_,_,_,_,_,rfl,hd⟩ rfl;rw[<-BJ hz]at hG2;have hfl2:css.flatten++([.bool s1_0,.slice s1_1 s1_2 s1_3,.bool s1_4,.slice s1_5 s1_6 s1_7]:List Value)=(css++([[.bool s1_0,.slice s1_1 s1_2 s1_3,.bool s1_4,.slice s1_5 s1_6 s1_7]]:List (List Value))).flatten:=by simp
  refine .inl ?_;refine⟨by omega,by omega,by unfold maxLen;omega,((i+1:Nat):Int),wo,?_⟩;intro ρ3 w6 r3;exact⟨(i+1,css++[[.bool s1_0,.slice s1_1 s1_2 s1_3,.bool s1_4,.slice s1_5 s1_6 s1_7]],w6,_),⟨hib,hw.tr r3.cI,hG2.rel r3 (bs w)⟩,Sub.gn [(2,4)] r3 ⟨by dsimp only;rw[<-hfl2];rfl,rfl,trivial⟩ ⟨rfl,by dsimp only;rw[List.length_append,List.length_singleton];rfl,rfl,trivial⟩,by dsimp only;omega⟩
 have hib:i=m:=aQ hi (by simpa using hib);have hwl:dL (s0.take i)=e9 f l:=by rw[e9,hs0,hib,<-hsl,bC]
 rw[hwl]at hG;intro ρe we re;refine⟨_,rfl,hw.tr re.cI,?_⟩;have h5:=re.k6 (id:=2) (sz:=4) (m:=css.length) rfl hfl (by unfold maxLen;omega) (by decide) hG.one;exact eP.list ((hG.rel re (bs w)).cC fun g hg=>Cv.nw hg re) (h5.cC fun g hg=>.inr hg)
end Go.Ex
namespace Go.Ex
open Go
theorem DW:∀(N m:Nat) (g:Nat->Nat),(∀i,i<m->g i<N)->(∀i j,i<m->j<m->g i=g j->i=j)->m<=N
 |0,m,g,h1,_=>by
  rcases bH m with h|h
  ·omega
  ·exact absurd (h1 0 h) (Nat.not_lt_zero _)
 |N+1,m,g,h1,h2=>by
  by_cases h:∃i,i<m∧g i=N
  ·obtain⟨i0,hi,e⟩:=h
   have:=DW N (m-1) (fun i=>if i<i0 then g i else g (i+1)) (fun i hi'=>by
    show(if i<i0 then g i else g (i+1))<N;split
    ·rename_i hlt;have:=h1 i (by omega);have:g i≠N:=fun e2=>by have:=h2 i i0 (by omega) hi (by rw[e2,e]);omega
     omega
    ·have:=h1 (i+1) (by omega);have:g (i+1)≠N:=fun e2=>by have:=h2 (i+1) i0 (by omega) hi (by rw[e2,e]);omega
     omega) (fun i j hi' hj' e2=>by
    have e3:(if i<i0 then g i else g (i+1))=(if j<i0 then g j else g (j+1)):=e2;split at e3<;>split at e3
    ·exact h2 _ _ (by omega) (by omega) e3
    ·have:=h2 _ _ (by omega) (by omega) e3;omega
    ·have:=h2 _ _ (by omega) (by omega) e3;omega
    ·have:=h2 _ _ (by omega) (by omega) e3;omega)
   omega
  ·exact Nat.le_succ_of_le (DW N m g (fun i hi=>by
    have:=h1 i hi;have:g i≠N:=fun e=>h ⟨i,hi,e⟩
    omega) h2)
structure FrS(f:ei):Prop extends BW f where
 n4:f.nodes.length<=4
 b6:f.bars.length<=6
variable{f:ei}
theorem FrS.LB(h:FrS f):f.cS.length<=12:=by
 have:=DW (3*f.nodes.length) f.cS.length (fun i=>fw (f.cS.getD i (0,0,0))) (fun i hi=>by
  have e:f.cS.getD i (0,0,0)=f.cS[i]:=getD_some (aA hi);show fw (f.cS.getD i (0,0,0))<_;rw[e]
  exact(h.sup _ (aX hi)).1) (fun i j hi hj e=>by
  have e1:f.cS.getD i (0,0,0)=f.cS[i]:=getD_some (aA hi);have e2:f.cS.getD j (0,0,0)=f.cS[j]:=getD_some (aA hj);have e:fw (f.cS.getD i (0,0,0))=fw (f.cS.getD j (0,0,0)):=e;rw[e1,e2]at e
  exact h.one i j _ _ (aA hi) (aA hj) e)
 have:=h.n4;omega
theorem FrS.Gr(h:FrS f):f.cols<=18:=by
 have h1:=h.LB;have h2:=h.b6;unfold ei.cols;omega
theorem FrS.IS(h:FrS f):(cK f).length<=12:=by
 rw[gl];have:=h.n4;omega
theorem KE:18*2000000<=wt 1:=by decide
theorem FrS.size(h:FrS f):ln (fB 2000000 (cK f).length)<=13:=by
 have:=h.IS;have h2:=Iy (B:=2000000) (R:=18) (l:=1) (n:=(cK f).length) (by omega) KE;omega
end Go.Ex
namespace Go.Ex
open Go Go.Sx Go.Proofs
variable{M:List (List Rat)}{s:List Int}{l:List Ld}{S:Nat->Prop}{vb vl vn vs:Value}{f:ei}
theorem mJ{n B h:Nat}(hM:fZ n M)(hW:A4 M n B)(hB:1<=B)(hh:ln (fB B M.length)+1<=h):Ax M n h:=
 ⟨fun i hi r hr q hq=>by have:=Gc hM hW hB hi r hr q hq;omega,fun i hi k hk q hq=>by have:=Gd hM hW hB hi hk q hq;omega⟩
theorem Du{n B h:Nat}(hM:fZ n M)(hW:A4 M n B)(hB:1<=B)(hh:ln (fB B M.length)+1<=h):Ht (dB M n).1 h:=fun r hr q hq=>by
 rw[(kP hM hW).2]at hr;have:=DP hM hW hB (aE n) r (List.mem_of_mem_take hr) q hq;omega
theorem j9(M:List (List Rat))(n:Nat)(hM:fZ n M):(cH M n).2.length<=(cH M n).1.length∧(cH M n).2.length<=n:=by
 obtain⟨r1,r2,r3,r4,r5⟩:=dN hM n (aE _);have:=(gL M n).2.2;unfold cH at*
 exact⟨r2,by omega⟩
theorem Fk{w:World}(hS:Old S w)(hf:dU w S vn vb vs f)(hsm:dx f=0->FrS f):
  di PG N.pc #[.agg #[vn,vb,vs]] w (dw w fun v' _=>(dx f≠0∧v'= .tuple #[.agg #[.int .i64 0,.int .i64 0,.int .i64 0],.int .i64 (dx f)])∨(dx f=0∧v'= .tuple #[.agg #[.int .i64 (kz (cK f) f.cols),.int .i64 ((f.cols:Int)-kz (cK f) f.cols),.int .i64 ((3*f.nodes.length:Nat)-kz (cK f) f.cols)],.int .i64 0])):=by
 have hw:cR w.heap.size w w:=cR.refl;obtain⟨an,cn,ab,cb,aq,cq,rfl,rfl,rfl,hmn,hmb,hms⟩:=hf.shape;have hcols:f.cols=f.bars.length+f.cS.length:=rfl;have htl:=C8 f;obtain⟨e0,EE⟩:∃e,dx f=e:=⟨_,rfl⟩
 refine tT (by simp) ?_;refine bw (cE hw (fun _ w' v w2=>v= .int .i64 e0) (fun O w' r=>(yO (oS hS r) (hf.cB (kS hw r hS))).mono fun _ _ ⟨v2,e1,e2,e3⟩=>⟨v2,e1,e2,by rw[e3,EE]⟩) ?_);rintro O wa1 v1 wb1 iv1 r he hw h_ rfl;refine dF.mk (fun he=>?_) (fun he=>?_)
 ·have he:e0≠0:=by simpa using he
  intro ρe we re;exact⟨_,rfl,hw.tr re.cI,.inl ⟨by rw[EE];exact he,by rw[EE];rfl⟩⟩
 have he:e0=0:=by simpa using he
 have herr:dx f=0:=by rw[EE,he]
 have hfs:=hsm herr;have hok:=pE herr;refine bw (cE hw (fun _ w' v w2=>(∃vr,v= .agg #[vr,.int .i64 f.cols]∧cO w2 (Nf w' w2) vr (cK f))∧fZ f.cols (cK f)∧Ht (cK f) 2) (fun O w' r=>qj (S:=S) (oS hS r) (hf.cB (kS hw r hS)) hok) ?_);rintro O wa1 v1 wb1 ivt r he hw h_ ⟨⟨vr,rfl,k1⟩,hlen,hht⟩;have hM:=cO.cd (S:=fun _=>False) k1 r.bu (mN h_);obtain⟨am,cm,rfl,hcm,hmm⟩:=e8.shape hM;have hc18:=hfs.Gr;have hr12:=hfs.IS;refine bw (cE hw (fun _ w' v w2=>∃vr vp vf,v= .agg #[vr,.int .i64 f.cols,vp,vf]∧cO w2 (Nw (Cf w ivt) w' w2) vr (dB (cK f) f.cols).1) (fun O w' r=>(yS (C:=Cf w ivt) (S:=Cf w ivt) (h:=20) (Rel.old r (bs w)) (Rel.old r (bs w)) (cO.rel hM r (bs w)) hlen (by omega) (by omega) (mJ hlen hfs.ky (by decide) (by have:=hfs.size;omega)) (by decide)).mono fun _ _ ⟨v2,e1,e2,vr,vp,vf,k1,k2,_,_⟩=>⟨v2,e1,e2,vr,vp,vf,k1,k2⟩) ?_);rintro O wa2 v2 wb2 iv2 r he hw h_ ⟨vr2,vp2,vf2,rfl,hn⟩;replace hM:=cO.bz hM r (bs w) he (mC h_);obtain⟨ar,cr,rfl,-,-⟩:=e8.shape hn;have hrk:(dB (cK f) f.cols).1.length=kz (cK f) f.cols:=by
  rw[(kP hlen hfs.ky).2,aW,Nat.min_eq_left (j9 _ _ hlen).1]
 rw[hrk];have hle:kz (cK f) f.cols<=f.cols:=(j9 _ _ hlen).2;obtain⟨nr,hnr⟩:∃nr,kz (cK f) f.cols=nr:=⟨_,rfl⟩
 rw[hnr]at hle ⊢;refine⟨(f.cols:Int)-nr,wo,((cK f).length:Int)-nr,wo,?_⟩;intro ρe we re;exact⟨_,rfl,hw.tr re.cI,.inr ⟨herr,by rw[htl];rfl⟩⟩
section
variable{S:Nat->Prop}{w:World}{v u:Value}{M:List (List Rat)}{b:List Rat}{n h0:Nat}
end
theorem H2{w:World}(hl:iJ w S vl l):di PG N.zh #[vl] w (dw w fun v' _=>∃d,v'= .bool d):=by
 have hw:cR w.heap.size w w:=cR.refl;obtain⟨al,cl,rfl,-,hml⟩:=hl.shape;refine Ab (by simp) ?_;refine dF.mk (fun h1=>?_) (fun h1=>?_)
 ·conv=>whnf
  intro ρe we re;exact⟨_,rfl,hw.tr re.cI,_,rfl⟩
 refine dF.mk (fun h1=>?_) (fun h1=>?_)
 ·conv=>whnf
  intro ρe we re;exact⟨_,rfl,hw.tr re.cI,_,rfl⟩
 intro ρe we re;exact⟨_,rfl,hw.tr re.cI,_,rfl⟩
theorem zB{w:World}(hS:Old S w)(hf:dU w S vn vb vs f)(hl:iJ w S vl l):di PG N.mA #[.agg #[vn,vb,vs],vl] w (dw w fun v' _=>v'= .int .i64 (sS f.nodes.length l)):=by
 have hw:cR w.heap.size w w:=cR.refl;obtain⟨an,cn,ab,cb,aq,cq,rfl,rfl,rfl,hmn,hmb,hms⟩:=hf.shape;obtain⟨al,cl,rfl,hcl,hml⟩:=hl.shape;unfold maxLen at hml;refine pR (by simp) ?_;refine dF.mk (fun h1=>?_) (fun h1=>?_)
 ·have h1:=aG h1;intro ρe we re;exact⟨_,rfl,hw.tr re.cI,by show Value.int .i64 _=_;rw[sS,if_pos (by omega)]⟩
 have h1:=aF h1
 refine⟨Nat×World×Iv,fun z=>⟨[(1,.o (.v (.slice al l.length cl))),(2,.o (.p 0 0)),(5,.o (.v (.int .i64 ((z.1:Nat):Int))))],[(0,.box T.Frame [.v (.slice an f.nodes.length cn),.v (.slice ab f.bars.length cb),.v (.slice aq f.cS.length cq)])],1,z.2.2,z.2.1⟩,fun z=>l.length-z.1,
  fun z=>z.1<=l.length∧cR w.heap.size w z.2.1∧sS f.nodes.length l=eN (fun _=>iq f.nodes.length) (l.take z.1) (l.drop z.1),?_,?_⟩
 ·intro O w' r3;exact⟨(0,w',[]),⟨aP _,hw.tr r3.cI,by rw[sS,aI (by omega)];rfl⟩,Sub.gn [] r3⟩
 clear hw;rintro⟨i,w1,iv⟩ ⟨hi,hw,hE⟩;dsimp only at hi hw hE ⊢;refine dF.mk (fun hib=>?_) (fun hib=>?_)
 ·have hib:i<l.length:=by simpa using hib
  obtain⟨x,hx⟩:∃x,l[i]? =some x:=⟨_,aA hib⟩
  obtain⟨adx,cs,hax,hP,-,hlx⟩:=hl.load (by decide) hx;have hP:cs=[.int .i64 x.1,.int .i64 x.2.1,.int .i64 x.2.2.1,.int .i64 x.2.2.2]:=hP;subst hP;refine cF hτ dc [.x 0,.x 1,.x 2,.x 3,.x 4,.x 5,.x 6,.x 7] (by kernel_rfl) (by kernel_rfl) ?_;refine⟨adx,hax,by omega,.int .i64 x.1,fun O w' r=>?_,?_⟩
  ·obtain⟨k1,k2⟩:=hlx 0 _ rfl;rw[cJ (w:=w) (w2:=w') (by simp only[eA];exact(hw.tr r.cI).block _ (hS _ k1))];simp only[aJ,BF]at k2 ⊢;exact k2
  refine cE hw (fun _ w' v w2=>∃d,v= .bool d∧(d=true↔iH f.nodes.length x.1)) (fun O w' r=>pI _ _ _ _ _ _ _ _ _ _ w') ?_;rintro O wa1 v1 wb1 iv1 r he hw h_ ⟨d,rfl,hd⟩;clear r
  cases d
  ·have hc:iq f.nodes.length x=6:=by
    unfold iq;rw[aI fun h=>by have:=hd.2 h;cases this]
   intro ρe we re;exact⟨_,rfl,hw.tr re.cI,by show Value.int .i64 _=_;rw[hE,cL hx hc (by decide)]⟩
  have hd:=hd.1 rfl;refine⟨adx,hax,by omega,[.int .i64 x.1,.int .i64 x.2.1,.int .i64 x.2.2.1,.int .i64 x.2.2.2],rfl,rdO hlx hw hS,?_⟩;refine bw (cE hw (fun _ w' v w2=>∃d,v= .bool d∧(d=true↔IJ x.2)) (fun O w' r=>Fj x w') ?_);rintro O wa2 v2 wb2 iv2 r he hw h_ ⟨d2,rfl,hd2⟩;clear r
  cases d2
  ·have hc:iq f.nodes.length x=2:=by
    unfold iq;rw[if_pos hd,aI fun h=>by have:=hd2.2 h;cases this]
   intro ρe we re;exact⟨_,rfl,hw.tr re.cI,by show Value.int .i64 _=_;rw[hE,cL hx hc (by decide)]⟩
  have hd2:=hd2.1 rfl;have hc:iq f.nodes.length x=0:=by
   unfold iq;rw[if_pos hd];exact if_pos hd2
  rw[fk hx hc]at hE;refine⟨((i+1:Nat):Int),wo,?_⟩;intro ρ3 w6 r3;exact⟨(i+1,w6,_),⟨hib,hw.tr r3.cI,hE⟩,Sub.gn [] r3,by dsimp only;omega⟩
 have hib:i=l.length:=aQ hi (by simpa using hib);rw[gw (by omega)]at hE;intro ρe we re;exact⟨_,rfl,hw.tr re.cI,by show Value.int .i64 _=_;rw[hE]⟩
theorem sY{w:World}(hS:Old S w)(hf:dU w S vn vb vs f)(hl:iJ w S vl l):di PG N.nJ #[.agg #[vn,vb,vs],vl] w (dw w fun v' _=>v'= .int .i64 (iP f l)):=by
 have hw:cR w.heap.size w w:=cR.refl;obtain⟨an,cn,ab,cb,aq,cq,rfl,rfl,rfl,hmn,hmb,hms⟩:=hf.shape;obtain⟨al,cl,rfl,hcl,hml⟩:=hl.shape;obtain⟨e0,EE⟩:∃e,dx f=e:=⟨_,rfl⟩
 refine qW (by simp) ?_;refine bw (cE hw (fun _ w' v w2=>v= .int .i64 e0) (fun O w' r=>(Cb (oS hS r) (hf.cB (kS hw r hS))).mono fun _ _ ⟨v2,e1,e2,e3⟩=>⟨v2,e1,e2,by rw[e3,EE]⟩) ?_);rintro O wa1 v1 wb1 iv1 r he hw h_ rfl;clear r;refine dF.mk (fun he=>?_) (fun he=>?_)
 ·have he:e0≠0:=by simpa using he
  intro ρe we re;exact⟨_,rfl,hw.tr re.cI,by show Value.int .i64 _=_;rw[iP,if_pos (by rw[EE];exact he),EE]⟩
 have he:e0=0:=by simpa using he
 refine bw (cE hw (fun _ w' v w2=>v= .int .i64 (sS f.nodes.length l)) (fun O w' r=>zB (oS hS r) (hf.cB (kS hw r hS)) (hl.cB (kS hw r hS))) ?_);rintro O wa2 v2 wb2 iv2 r he hw h_ rfl;clear r he;intro ρe we re;exact⟨_,rfl,hw.tr re.cI,by show Value.int .i64 _=_;rw[iP,aI (by rw[EE,he];decide)]⟩
theorem Jj(h:dx f≠0∨f.nodes.length<=4∧f.bars.length<=6)(h0:dx f=0):FrS f:=⟨J5 h0,(h.resolve_left fun e=>e h0).1,(h.resolve_left fun e=>e h0).2⟩
theorem H4{t:Int}(h:IA s t)(ht:0<=t)(j:Nat): -t<=s.getD j 0∧s.getD j 0<=t:=by
 rcases aO j s.length with hj|hj
 ·rw[getD_some (aA hj)];exact h _ (aX hj)
 ·rw[List.getD,List.getElem?_eq_none hj];show -t<=0∧0<=t;omega
theorem AG{s:List Int}{x:Ld}{t:Int}(h:IA s t)(ht:0<=t)(hx:(-1000000<=x.2.1∧x.2.1<=1000000)∧(-1000000<=x.2.2.1∧x.2.2.1<=1000000)∧(-1000000<=x.2.2.2∧x.2.2.2<=1000000)):∀k,k<=3->IA (fX s x k) (t+1000000*(k:Int))
 |0,_=>by rw[fX];simpa using h
 |k+1,hk=>by
  have ih:=AG h ht hx k (by omega);have hd: -1000000<=(Je x).getD k 0∧(Je x).getD k 0<=1000000:=by
   rcases(show k=0∨k=1∨k=2 by omega)with rfl|rfl|rfl
   ·exact hx.1
   ·exact hx.2.1
   ·exact hx.2.2
  have hg:=H4 ih (by omega) (3*x.1+k).toNat;rw[fX,EX];exact ih.set (by omega) (by omega)
theorem tu{n:Nat}{l:List Ld}(hok:yN n l):∀i,i<=l.length->IA (ef n l i) (3000000*(i:Int))
 |0,_=>fun z hz=>by rw[bV hz];decide
 |i+1,hi=>by
  have ih:=tu hok i (by omega);have hm:l.getD i (0,0,0,0)∈l:=by rw[getD_some (aA (show i<l.length by omega))];exact aX _
  have:=AG ih (by omega) (hok.ld _ hm).2 3 (aE _);rw[ef];intro z hz;have:=this z hz;omega
theorem Eo(hn:f.nodes.length<=20)(hok:yN f.nodes.length l):∀q∈e9 f l,rl q<=1:=fun q hq=>by
 obtain⟨z,hz,rfl⟩:=aR.1 hq;have:=tu hok l.length (aE _) z hz;have hl:=hok.len;exact tn (by omega) (by omega)
end Go.Ex
namespace Go.Ex
variable{M:List (List Rat)}{l:Nat}{g:Nat->Rat}{D p q:Rat}
structure p9(f:ei):Prop extends FrS f where
 fx:∀q∈cP f,rl q<=3
def Bl(b:List Rat):Prop:=∀t,Ib 1000000000 (b.getD t 0)
theorem Ib.w{B:Nat}(h:Ib B q)(k:B<=wt l):Ib (wt l) q:=h.mono k
theorem tL(a b:Nat)(h:a+b<=l):wt a*wt b<=wt l:=by rw[<-A1];exact zU h
theorem Ib.rX{a b:Nat}(h:Ib (wt a) p)(k:Ib (wt b) q)(hl:a+b<=l):Ib (wt l) (p*q):=(h.mul k).mono (tL a b hl)
theorem Ib.up{a:Nat}(h:Ib (wt a) p)(hl:a<=l):Ib (wt l) p:=h.mono (zU hl)
theorem Ib.KF{a n:Nat}(hn:n<=18)(h:∀k,k<n->Ib (wt a) (g k))(hl:a+1<=l):Ib (wt l) (cQ g n):=
 (Ib.sum n h).mono (ai (Nat.mul_le_mul_right _ (ai hn (by decide:18<=wt 1))) (tL 1 a (by omega)))
theorem Den.mono{K L:Nat}{l:List Rat}(h:Den K D l)(k:K<=L):Den L D l:=⟨h.1,h.2.1.mono k,fun t=>(h.2.2 t).mono k⟩
theorem DS.mono{K L:Nat}(h:DS K D M)(k:K<=L):DS L D M:=⟨h.1,h.2.1.mono k,fun i t=>(h.2.2 i t).mono k⟩
theorem CN{k n R m:Nat}(hn:n<=R)(hR:R<=4294967295)(hl:k+1<=l)(hm:l*R+1<=m):ln (fB (wt k) n)<=m∧fB (wt k) n<=wt m:=by
 have h1:=Iy (B:=wt k) (l:=l) hn (ai (Nat.mul_le_mul_right _ (ai hR (by decide:4294967295<=wt 1))) (tL 1 k (by omega)));have h2:l*n+1<=m:=ai (Nat.succ_le_succ (bQ _ hn)) hm;exact⟨ai h1 h2,Nat.le_of_lt (fb.1 (ai h1 h2))⟩
section
variable{f:ei}{b x x0 c u:List Rat}
theorem FrS.Eb(h:FrS f)(hb:Bl b):A4 (dP (cK f) b) (f.cols+1) (wt 1):=fun j hj=>by
 rw[eC]at hj;have hw:=fun t=>jP (b:=b) (t:=t) (fc f) hj;refine⟨1,by decide,Ib.one lW,fun t ht=>?_⟩;rw[bj];rcases aO t f.cols with h1|h1
 ·rw[(hw t).1 h1];exact(h.xV j t).w (by decide)
 ·rw[show t=f.cols by omega,(hw 0).2];exact(hb j).w (by decide)
theorem FrS.Gs(h:FrS f):ln (fB (wt 1) (dP (cK f) b).length)<=25:=by
 rw[eC];exact(CN (l:=2) h.IS (by decide) (by decide) (by decide)).1
theorem FrS.KG(h:FrS f)(hb:Bl b)(h0:eU (cK f) b f.cols=some x0):∃D,Den (wt 25) D x0:=by
 obtain⟨D,hD⟩:=rS (fc f) (h.Eb hb) lW h0;exact⟨D,hD.mono (CN (l:=2) h.IS (by decide) (by decide) (by decide)).2⟩
theorem FrS.Kt(h:FrS f):∃D,DS (wt 13) D (cN (cK f) f.cols):=by
 obtain⟨D,hD⟩:=IP (fc f) h.ky (by decide);exact⟨D,hD.mono (Nat.le_of_lt (fb.1 h.size))⟩
theorem FrS.Iz(h:FrS f):(cN (cK f) f.cols).length<=18:=by
 have h1:=xP (fc f);have h2:=h.Gr;omega
theorem xY(f:ei):(cP f).length=f.cols:=by simp[cP,ei.cols]
theorem p9.Ke(h:p9 f):Den (wt 54) (ku (cP f) 18) (cP f):=Gk (by rw[xY];exact h.Gr) h.fx
theorem p9.Gt(h:p9 f)(hx:∃D,Den (wt 25) D x0):A4 (dP (eD (cN (cK f) f.cols) (cP f)) (fq (cN (cK f) f.cols) (cP f) x0)) ((cN (cK f) f.cols).length+1) (wt 106):=fun i hi=>by
 rw[eC,eD,aL]at hi;obtain⟨D0,a1,a2,a3⟩:=hx;obtain⟨D1,b1,b2,b3⟩:=h.Kt;obtain⟨c1,c2,c3⟩:=h.Ke;have hn:=h.Gr;have hw:=fun t=>jP (b:=fq (cN (cK f) f.cols) (cP f) x0) (t:=t) (mh (cN (cK f) f.cols) (cP f)) (j:=i) (by rw[eD,aL];exact hi);refine⟨ku (cP f) 18*(D1*D1)*D0,rR (rR c1 (rR b1 b1)) a1,(((c2.rX (b2.rX b2 (aE _)) (aE _)).rX a2 (by decide))),fun t ht=>?_⟩;rcases aO t (cN (cK f) f.cols).length with h1|h1
 ·rw[(hw t).1 h1,tF _ _ _ hi h1];unfold E6 nu;rw[<-eE];refine Ib.KF hn (fun k _=>?_) (aE _);rw[show ku (cP f) 18*(D1*D1)*D0*((cP f).getD k 0*(cY (cN (cK f) f.cols) i k*cY (cN (cK f) f.cols) t k))=(ku (cP f) 18*(cP f).getD k 0)*((D1*cY (cN (cK f) f.cols) i k)*(D1*cY (cN (cK f) f.cols) t k))*D0 by grind];exact((c3 k).rX ((b3 i k).rX (b3 t k) (aE _)) (aE _)).rX a2 (by decide)
 ·rw[show t=(cN (cK f) f.cols).length by omega,(hw 0).2,CD _ _ _ _ hi];unfold nu;rw[show ku (cP f) 18*(D1*D1)*D0* -(cQ (fun t=>(cP f).getD t 0*(cY (cN (cK f) f.cols) i t*x0.getD t 0)) f.cols)= -(ku (cP f) 18*(D1*D1)*D0*cQ (fun t=>(cP f).getD t 0*(cY (cN (cK f) f.cols) i t*x0.getD t 0)) f.cols) by grind,<-eE];refine(Ib.KF hn (fun k _=>?_) (aE _)).neg;rw[show ku (cP f) 18*(D1*D1)*D0*((cP f).getD k 0*(cY (cN (cK f) f.cols) i k*x0.getD k 0))=(ku (cP f) 18*(cP f).getD k 0)*((D1*cY (cN (cK f) f.cols) i k)*D1)*(D0*x0.getD k 0) by grind];exact((c3 k).rX ((b3 i k).rX b2 (aE _)) (aE _)).rX (a3 k) (by decide)
theorem p9.Ec(h:p9 f){b:List Rat}:ln (fB (wt 106) (dP (eD (cN (cK f) f.cols) (cP f)) b).length)<=1927:=by
 rw[eC,eD,aL];exact(CN (l:=107) h.Iz (by decide) (by decide) (by decide)).1
theorem p9.J9(h:p9 f)(hx:∃D,Den (wt 25) D x0)(hc:eU (eD (cN (cK f) f.cols) (cP f)) (fq (cN (cK f) f.cols) (cP f) x0) (cN (cK f) f.cols).length=some c):∀q∈c,rl q<=1927:=fun q hq=>by
 obtain⟨D,hD⟩:=rS (mh _ _) (h.Gt hx) lW hc;have h1:=hD.rl q hq;have h2:=h.Ec (b:=[]);rw[eC]at h2;omega
theorem A6(h:rl q<=3):Ib (wt 3) (q.den:Rat):=⟨(q.den:Int),rfl,by have:=(E4 h).2;omega⟩
theorem Gu(h:rl q<=3):Ib (wt 3) ((q.den:Rat)*q):=by rw[E3];exact⟨q.num,rfl,Nat.le_of_lt (E4 h).1⟩
theorem Ed(q:Rat):(q.den:Rat)≠0:=fun e=>by
 have:((q.den:Int):Rat)=((0:Int):Rat):=e;exact q.den_nz (by have:=Rat.intCast_inj.1 this;omega)
theorem p9.KH(h:p9 f){t:Nat}(ht:t<f.cols):rl ((cP f).getD t 0)<=3:=by
 have hl:t<(cP f).length:=by rw[xY];exact ht
 rw[getD_some (aA hl)];exact h.fx _ (aX hl)
theorem p9.IU(h:p9 f)(hb:Bl b)(hbl:b.length=(cK f).length):A4 (dP (ic (cK f) f.cols (cP f)) (b++qR f.cols)) ((cK f).length+f.cols+1) (wt 4):=fun j hj=>by
 rw[eC,fe]at hj;have hw:=fun t=>jP (b:=b++qR f.cols) (t:=t) (lu (fc f) (cP f)) (j:=j) (by rw[fe];exact hj);rcases aO j (cK f).length with h2|h2
 ·refine⟨1,by decide,Ib.one lW,fun t ht=>?_⟩;rw[bj];rcases aO t ((cK f).length+f.cols)with h1|h1
  ·rw[(hw t).1 h1];rcases aO t (cK f).length with h3|h3
   ·rw[(A5 h2).1 h3];exact Ib.zero _
   ·obtain⟨s,rfl⟩:∃s,t=(cK f).length+s:=⟨t-(cK f).length,by omega⟩
    rw[(A5 (t:=s) h2).2];exact((h.xV j s).w (by decide:2000000<=wt 1)).up (by decide)
  ·rw[show t=(cK f).length+f.cols by omega,(hw 0).2,oB];exact((hb j).w (by decide:1000000000<=wt 1)).up (by decide)
 ·obtain⟨k,rfl⟩:∃k,j=(cK f).length+k:=⟨j-(cK f).length,by omega⟩
  have hk:k<f.cols:=by omega
  have hq:=h.KH hk;refine⟨(((cP f).getD k 0).den:Rat),Ed _,(A6 hq).up (by decide),fun t ht=>?_⟩;rcases aO t ((cK f).length+f.cols)with h1|h1
  ·rw[(hw t).1 h1];rcases aO t (cK f).length with h3|h3
   ·rw[(xW (t:=t) hk).1 h3];exact(A6 hq).rX ((h.xV t k).w (by decide:2000000<=wt 1)) (by decide)
   ·obtain⟨s,rfl⟩:∃s,t=(cK f).length+s:=⟨t-(cK f).length,by omega⟩
    rw[(xW (t:=s) hk).2 (by omega)];split
    ·exact(Gu hq).up (by decide)
    ·rw[aw];exact Ib.zero _
  ·rw[show t=(cK f).length+f.cols by omega,(hw 0).2,oB,iL (l:=b) (by omega),aw];exact Ib.zero _
theorem p9.DX(h:p9 f)(hb:Bl b)(hbl:b.length=(cK f).length)(hx:iG (cK f) f.cols (fun t=>(cP f).getD t 0) b x):∃D,Den (wt 151) D x:=by
 obtain⟨u,hu⟩:=hx.J7 (fc f);obtain⟨s1,s2⟩:=CM (fc f) hbl hx hu;obtain⟨z,hz⟩:=tC (lu (fc f) (cP f)) s2;have h1:=Gp (fc f) hbl hz;have h2:=h.CJ.one hx h1;obtain⟨D,d1,d2,d3⟩:=rS (lu (fc f) (cP f)) (h.IU hb hbl) lW hz;have h3:fB (wt 4) (ic (cK f) f.cols (cP f)).length<=wt 151:=by
  rw[fe];have h1:=h.Gr;have h2:=h.IS;exact(CN (l:=5) (R:=30) (by omega) (by decide) (by decide) (by decide)).2
 refine⟨D,d1,d2.mono h3,fun t=>?_⟩;rw[h2,List.getD,List.getElem?_drop,<-List.getD];exact(d3 _).mono h3
theorem p9.Gv(h:p9 f)(hb:Bl b)(hbl:b.length=(cK f).length)(hx:iG (cK f) f.cols (fun t=>(cP f).getD t 0) b x):∀q∈x,rl q<=152:=fun q hq=>by
 obtain⟨D,hD⟩:=h.DX hb hbl hx;have:=hD.rl q hq;have h2:ln (wt 151)<=152:=fb.2 (GS (by decide));omega
theorem p9.zg(h:p9 f)(hxl:x.length=f.cols)(hx:∃D,Den (wt 151) D x):A4 (dP (dZ (cK f) f.cols) (cU (da x (cP f)) (-1))) ((cK f).length+1) (wt 156):=fun j hj=>by
 rw[eC,dy]at hj;obtain⟨D,d1,d2,d3⟩:=hx;have hq:=h.KH hj;have hw:=fun t=>jP (b:=cU (da x (cP f)) (-1)) (t:=t) (fa (cK f) f.cols) (j:=j) (by rw[dy];exact hj);refine⟨(((cP f).getD j 0).den:Rat)*D,rR (Ed _) d1,(A6 hq).rX d2 (by decide),fun t ht=>?_⟩;rcases aO t (cK f).length with h1|h1
 ·rw[(hw t).1 h1,lr hj];exact((A6 hq).rX d2 (aE _)).rX ((h.xV t j).w (by decide:2000000<=wt 1)) (by decide)
 ·rw[show t=(cK f).length by omega,(hw 0).2,qT x _ hxl hj,show(((cP f).getD j 0).den:Rat)*D* -((cP f).getD j 0*x.getD j 0)= -(((((cP f).getD j 0).den:Rat)*(cP f).getD j 0)*(D*x.getD j 0)) by grind];exact((Gu hq).rX (d3 j) (by decide)).neg
theorem p9.xZ(h:p9 f){b:List Rat}:ln (fB (wt 156) (dP (dZ (cK f) f.cols) b).length)<=2827:=by
 rw[eC,dy];exact(CN (l:=157) h.Gr (by decide) (by decide) (by decide)).1
end
end Go.Ex
