/- Texts L45 to X199: lemmas, each with its conditions. -/
import Derived.Test.YtgkpbdkechfgmaaGreatP11
set_option maxHeartbeats 2000000
set_option maxRecDepth 8000
namespace Go.Ex
variable{d:Int}{M:List (List Int)}{x0:List Rat}{n:Nat}{c x y:Nat->Rat}{f:fc}
theorem getD_some{α:Type}{l:List α}{i:Nat}{x d:α}(h:l[i]? =some x):l.getD i d=x:=by rw[List.getD,h];rfl
structure Bk(M:List (List Rat))(n:Nat)(In:Nat->Rat):Prop where
 len:gD n M
 pos:∀t,t<n->0<=In t
 Mr:∀x:Nat->Rat,(∀j,j<M.length->mulR M n x j=0)->cW (fun t=>In t*(x t*x t)) n=0->∀t,t<n->x t=0
theorem DY(M:List (List Rat))(n:Nat)(x y:Nat->Rat)(j:Nat):mulR M n (fun t=>x t+y t) j=mulR M n x j+mulR M n y j:=by
 unfold mulR;rw[<-fg];exact cG fun t _=>by grind
theorem Iz(M:List (List Rat))(n:Nat)(x:Nat->Rat)(c:Rat)(j:Nat):mulR M n (fun t=>c*x t) j=c*mulR M n x j:=by
 unfold mulR;rw[<-eY];exact cG fun t _=>by grind
theorem DZ(M:List (List Rat))(n:Nat)(S:Mx)(c:Nat->Rat)(j s:Nat):mulR M n (fun t=>cW (fun k=>c k*S k t) s) j=cW (fun k=>c k*mulR M n (S k) j) s:=by
 induction s with
 |zero=>exact(cG (g:=fun _=>0) fun t _=>bD _).trans (dX n)
 |succ s ih=>
  show mulR M n (fun t=>cW (fun k=>c k*S k t) s+c s*S s t) j=cW (fun k=>c k*mulR M n (S k) j) s+c s*mulR M n (S s) j;rw[DY,Iz,ih]
theorem rW{M:List (List Rat)}(h:∀t,t<n->x t=y t)(j:Nat):mulR M n x j=mulR M n y j:=cG fun t ht=>by rw[h t ht]
def uP(In x y:Nat->Rat)(n:Nat):Rat:=cW (fun t=>In t*(x t*y t)) n
theorem sj(In x y:Nat->Rat)(n:Nat):uP In x y n=uP In y x n:=cG fun t _=>by grind
theorem GR(In x y z:Nat->Rat)(n:Nat):uP In x (fun t=>y t+z t) n=uP In x y n+uP In x z n:=by
 unfold uP;rw[<-fg];exact cG fun t _=>by grind
theorem sk(In x:Nat->Rat)(S:Mx)(c:Nat->Rat)(n s:Nat):uP In x (fun t=>cW (fun k=>c k*S k t) s) n=cW (fun k=>c k*uP In x (S k) n) s:=by
 unfold uP;rw[cG (g:=fun t=>cW (fun k=>c k*(In t*(x t*S k t))) s) fun t _=>by rw[<-eY,<-eY];exact cG fun k _=>by grind,mZ];exact cG fun k _=>by rw[eY]
theorem uQ{In x' y':Nat->Rat}(Y:∀t,t<n->x t=x' t)(X:∀t,t<n->y t=y' t):uP In x y n=uP In x' y' n:=cG fun t ht=>by rw[Y t ht,X t ht]
section
variable{M:List (List Rat)}{n:Nat}{In:Nat->Rat}{b:List Rat}
def GS(M:List (List Rat))(n:Nat)(In:Nat->Rat)(i j:Nat):Rat:=uP In (dB (cS M n) i) (dB (cS M n) j) n
theorem Bk.JA(h:Bk M n In)(hc:∀i,i<(cS M n).length->cW (fun j=>GS M n In i j*c j) (cS M n).length=0):∀i,i<(cS M n).length->c i=0:=by
 obtain⟨y,hy⟩:∃y:Nat->Rat,y=fun t=>cW (fun k=>c k*dB (cS M n) k t) (cS M n).length:=⟨_,rfl⟩
 have TX:∀j,j<M.length->mulR M n y j=0:=fun j hj=>by
  rw[hy,DZ,cG (g:=fun _=>0) fun k E=>by rw[sh h.len E j hj,bD],dX]
 have V:∀i,i<(cS M n).length->uP In (dB (cS M n) i) y n=0:=fun i D=>by
  rw[hy,sk,<-hc i D];exact cG fun k _=>bs _ _
 have h0:uP In y y n=0:=by
  have:uP In y y n=cW (fun k=>c k*uP In y (dB (cS M n) k) n) (cS M n).length:=by
   rw[<-sk,<-hy]
  rw[this,cG (g:=fun _=>0) fun k E=>by rw[sj,V k E,bD],dX]
 exact GN (M:=M) fun t ht=>by
  have:=h.Mr y TX h0 t ht;rw[hy]at this;exact this
theorem Bk.only(h:Bk M n In)(G:∀j,j<M.length->mulR M n x j=0)(hs:∀k,k<(cS M n).length->uP In (dB (cS M n) k) x n=0):∀t,t<n->x t=0:=by
 obtain⟨c,hc⟩:=GM h.len G;have h0:uP In x x n=0:=by
  rw[uQ (x':=x) (fun _ _=>rfl) hc,sk,cG (g:=fun _=>0) fun k E=>by rw[sj,hs k E,bD],dX]
 exact h.Mr x G h0
def uR(k:Nat):List Rat:=List.replicate k 0
theorem ox(b:List Rat)(k j:Nat):(b++uR k).getD j 0=b.getD j 0:=by
 unfold uR;rcases aR j b.length with h|h
 .rw[List.getD,aK h,<-List.getD]
 .rw[iw h,List.getD,aQ h,List.getElem?_replicate];split<;>rfl
structure kj(M:List (List Rat))(n:Nat)(In:Nat->Rat)(b x:List Rat):Prop where
 len:x.length=n
 eq:∀j,j<M.length->mulR M n (fun t=>x.getD t 0) j=b.getD j 0
 st:∀k,k<(cS M n).length->uP In (dB (cS M n) k) (fun t=>x.getD t 0) n=0
theorem Bk.one(h:Bk M n In){x y:List Rat}(G:kj M n In b x)(hy:kj M n In b y):x=y:=by
 refine gz 0 (by rw[G.len,hy.len]) fun t ht=>?_;rw[G.len]at ht
 have:=h.only (x:=fun t=>x.getD t 0-y.getD t 0) (fun j hj=>by rw[Ir,G.eq j hj,hy.eq j hj];grind) (fun k E=>by
  rw[show (fun t=>x.getD t 0-y.getD t 0)=fun t=>x.getD t 0+(-1)*y.getD t 0 from funext fun t=>by grind,GR,G.st k E];have X:=hy.st k E;unfold uP at X ⊢;rw[cG (f:=fun t=>In t*(dB (cS M n) k t*(-1*y.getD t 0))) (g:=fun t=>(-1)*(In t*(dB (cS M n) k t*y.getD t 0))) fun t _=>by grind,eY,X]
  grind) t ht
 grind
end
theorem mb{a b:List Rat}{t:Nat}(ht:t<a.length):(fD a b).getD t 0=a.getD t 0*b.getD t 0:=by
 have h:=aB ht;rw[getD_some h];exact getD_some (by rw[fD,List.getElem?_mapIdx,h];rfl)
section
variable{M:List (List Rat)}{n:Nat}{fl b:List Rat}
theorem uS(M:List (List Rat))(n:Nat)(fl:List Rat){i j:Nat}(D:i<(cS M n).length)(hj:j<(cS M n).length):dB (eO (cS M n) fl) i j=GS M n (fun t=>fl.getD t 0) i j:=by
 have hr:=aB D;have hs:=aB hj;have hl:((cS M n)[i]).length=n:=nP M n _ (a9 D);have Y:(eO (cS M n) fl)[i]? =some ((cS M n).map fun r=>fC (fD (cS M n)[i] fl) r (cS M n)[i].length):=by rw[eO,aO,hr];rfl
 have X:((cS M n).map fun r=>fC (fD (cS M n)[i] fl) r (cS M n)[i].length)[j]? =some (fC (fD (cS M n)[i] fl) (cS M n)[j] (cS M n)[i].length):=by rw[aO,hs];rfl
 rw[dB,getD_some Y,getD_some X,rT,hl];refine cG fun t ht=>?_;rw[mb be,dB,dB,getD_some hr,getD_some hs];grind
theorem nR(st:List (List Rat))(fl:List Rat):gD st.length (eO st fl):=fun r hr=>by
 obtain⟨s,hs,rfl⟩:=aV.1 hr;rw[aM]
theorem D2(M:List (List Rat))(n:Nat)(fl x:List Rat){i:Nat}(D:i<(cS M n).length):(gL (cS M n) fl x).getD i 0= -(uP (fun t=>fl.getD t 0) (dB (cS M n) i) (fun t=>x.getD t 0) n):=by
 have hr:=aB D;have hl:((cS M n)[i]).length=n:=nP M n _ (a9 D);have Y:(gL (cS M n) fl x)[i]? =some (-(fC (fD (cS M n)[i] fl) x (cS M n)[i].length)):=by rw[gL,aO,hr];rfl
 rw[getD_some Y,rT,hl];congr 1;refine cG fun t ht=>?_;rw[mb be,dB,getD_some hr];grind
theorem qN(st:List (List Rat))(c x:List Rat):∀i,(kf st c x i).length=x.length
 |0=>rfl
 |i+1=>by rw[kf,List.length_mapIdx,qN st c x i]
theorem yS(st:List (List Rat))(c x:List Rat){t:Nat}(ht:t<x.length):∀i,(kf st c x i).getD t 0=x.getD t 0+cW (fun k=>c.getD k 0*dB st k t) i
 |0=>(bg _).symm
 |i+1=>by
  have hl:t<(kf st c x i).length:=by rw[qN];exact ht
  have ih:=yS st c x ht i;rw[getD_some (aB hl)]at ih;rw[getD_some (show (kf st c x (i+1))[t]? =some ((kf st c x i)[t]+c.getD i 0*(st.getD i []).getD t 0) by rw[kf,List.getElem?_mapIdx,aB hl];rfl),ih,cW,Rat.add_assoc];rfl
theorem Bk.force(h:Bk M n fun t=>fl.getD t 0)(h0:fu M b n=some x0):∃c,fu (eO (cS M n) fl) (gL (cS M n) fl x0) (cS M n).length=some c/\c.length=(cS M n).length/\
  kj M n (fun t=>fl.getD t 0) b (kf (cS M n) c x0 (cS M n).length):=by
 obtain⟨Qe,QH⟩:=kh h.len h0;have hG:=nR (cS M n) fl;have hGl:(eO (cS M n) fl).length=(cS M n).length:=aM _;have hc:∃c,fu (eO (cS M n) fl) (gL (cS M n) fl x0) (cS M n).length=some c:=by
  cases e:fu (eO (cS M n) fl) (gL (cS M n) fl x0) (cS M n).length with
  |some c=>exact⟨c,rfl⟩
  |none=>
   obtain⟨y,y1,y2⟩:=nO hG e;rw[hGl]at y1 y2;have hy:=h.JA (c:=y) fun i D=>Eq.trans (cG fun j hj=>by rw[uS M n fl hj D,bs];unfold GS;rw[sj]) (y1 i D);exact absurd (by rw[cG (g:=fun _=>0) fun j hj=>by rw[hy j hj,bH],dX]) y2
 obtain⟨c,hc⟩:=hc;obtain⟨c1,c2⟩:=kh hG hc;refine⟨c,hc,c1,by rw[qN];exact Qe,fun j hj=>?_,fun k E=>?_⟩
 .rw[rW (y:=fun t=>x0.getD t 0+cW (fun k=>c.getD k 0*dB (cS M n) k t) (cS M n).length) fun t ht=>yS _ c x0 be _,DY,DZ,QH j hj,cG (g:=fun _=>0) fun k E=>by rw[sh h.len E j hj,bD],dX,bg]
 .rw[uQ (x':=dB (cS M n) k) (y':=fun t=>x0.getD t 0+cW (fun k=>c.getD k 0*dB (cS M n) k t) (cS M n).length) (fun _ _=>rfl) fun t ht=>yS _ c x0 be _,GR,sk];have X:=c2 k be;rw[D2 M n fl x0 E]at X;unfold mulR at X;rw[cG (g:=fun t=>c.getD t 0*uP (fun t=>fl.getD t 0) (dB (cS M n) k) (dB (cS M n) t) n) fun t ht=>by rw[uS M n fl E ht,bs];rfl]at X;rw[X];grind
end
def ez(M:List (List Int))(r c:Nat):Int:=(M.getD r []).getD c 0
theorem getD_set_ne{α:Type}{l:List α}{i j:Nat}{x d:α}(h:i≠j):(l.set i x).getD j d=l.getD j d:=by rw[List.getD,bC h,<-List.getD]
theorem lT{α:Type}{l:List α}{i:Nat}{x d:α}(h:i<l.length):(l.set i x).getD i d=x:=by rw[List.getD,aW h];rfl
theorem ix{r c r' c':Nat}(h:r'≠r\/c'≠c):ez (putAt M r c d) r' c'=ez M r' c':=by
 unfold ez putAt;by_cases Y:r'=r
 .subst Y;have X:c≠c':=h.elim (fun h=>absurd rfl h) fun h=>h.symm;rcases aR r' M.length with N|N
  .rw[lT N,getD_set_ne X]
  .rw[List.set_eq_of_length_le N]
 .rw[getD_set_ne (Ne.symm Y)]
theorem D3{r c:Nat}(hr:r<M.length)(hc:c<(M.getD r []).length):ez (putAt M r c d) r c=d:=by
 unfold ez putAt;rw[lT hr,lT hc]
theorem hJ(M:List (List Int))(r c:Nat)(d:Int):yG M r c d=putAt M r c (ez M r c+d):=rfl
theorem GU{i:Nat}{b:Int×Int×Rat}(hb:f.bars[i]? =some b):f.bars.getD i (0,0,0)=b:=by rw[List.getD,hb];rfl
theorem uT{f:fc}{M:List (List Int)}{i c r:Nat}(h:c≠i):∀k,ez (fX f M i k) r c=ez M r c
 |0=>rfl
 |k+1=>by
  rw[fX];rw[hJ,ix (.inr h),hJ,ix (.inr h)];exact uT h k
theorem lV(f:fc){r c:Nat}:∀i,i<=c->ez (e8 f i) r c=0
 |0,_=>by
  unfold ez e8;rcases aR r (3*f.nodes.length)with h|h
  .rw[show (List.replicate (3*f.nodes.length) (List.replicate f.cols (0:Int))).getD r []=List.replicate f.cols 0 by rw[List.getD,List.getElem?_replicate,aH h];rfl,List.getD,List.getElem?_replicate];split<;>rfl
  .rw[show (List.replicate (3*f.nodes.length) (List.replicate f.cols (0:Int))).getD r []=[] by rw[List.getD,List.getElem?_replicate,aF be];rfl];rfl
 |i+1,h=>by rw[e8,uT be];exact lV f i be
theorem toNat_add{a:Int}{k ka:Nat}(h:a=ka):(3*a+(k:Int)).toNat=3*ka+k:=by omega
theorem Av{f:fc}{M:List (List Int)}{i r ka kb:Nat}{b:Int×Int×Rat}(hb:f.bars[i]? =some b)(ea:b.1=ka)(eb:b.2.1=kb):∀k,k<=3->k<=r % 3->ez (fX f M i k) r i=ez M r i
 |0,_,_=>rfl
 |k+1,N,h=>by
  rw[fX];rw[GU hb,toNat_add ea,toNat_add eb,hJ,ix (.inl be),hJ,ix (.inl be)];exact Av hb ea eb k be be
theorem yT{i r ka kb k:Nat}{b:Int×Int×Rat}(hb:f.bars[i]? =some b)(ea:b.1=ka)(eb:b.2.1=kb)(E:k<=3)(h:k<=r % 3):ez (fX f (e8 f i) i k) r i=0:=by
 rw[Av hb ea eb k E h];exact lV f i (aN _)
theorem yU{f:fc}{r c:Nat}(h:c<f.bars.length):∀k,ez (fE f k) r c=ez (e8 f f.bars.length) r c
 |0=>rfl
 |k+1=>by
  rw[fE];rw[ix (.inr be)];exact yU h k
theorem vS{f:fc}{r i:Nat}:∀k,k<=i->ez (fE f k) r (f.bars.length+i)=0
 |0,_=>lV f _ be
 |k+1,h=>by
  rw[fE];rw[ix (.inr be)];exact vS k be
def gM(s:Int×Int×Rat):Nat:=(3*s.1+s.2.1).toNat
theorem Aw{f:fc}(V:∀k,∀l∈fE f k,l.length=f.cols)(hlen:∀k,(fE f k).length=3*f.nodes.length)(OD:∀s∈f.cV,gM s<3*f.nodes.length){r i:Nat}{s:Int×Int×Rat}(hs:f.cV[i]? =some s):
  ∀k,i<k->ez (fE f k) r (f.bars.length+i)=if r=gM s then 1 else 0
 |0,h=>by omega
 |k+1,h=>by
  rw[fE];rcases aR i k with Y|Y
  .rw[ix (.inr be)];exact Aw V hlen OD hs k Y
  .have:i=k:=by omega
   subst this;have F:f.cV.getD i (0,0,0)=s:=by rw[List.getD,hs];rfl
   have hsr:=OD s (aG hs);have D:=(aD.1 hs).1;rw[F];by_cases X:r=gM s
   .rw[aH X,X];have hm:gM s<(fE f i).length:=by rw[hlen];exact hsr
    exact D3 hm (by
     show f.bars.length+i<((fE f i).getD (gM s) []).length;rw[List.getD,aB hm];show f.bars.length+i<((fE f i)[gM s]).length;rw[V i _ (a9 hm),fc.cols]
     omega)
   .rw[aF X];exact(ix (r:=gM s) (.inl X)).trans (vS i (aN _))
end Go.Ex
namespace Go.Ex
open Go Go.Sx Go.Proofs
variable{O:Nat->Sx.da}
theorem Cv.new{w I:World}{g:Nat}(F:Cf w [(w.heap.size,I.heap.size)] g):Nf w I g:=by
 rcases F with F|⟨Y,lo,D,X,N,h4⟩
 .exact F.elim
 .simp at X;obtain⟨rfl,rfl⟩:=X;exact .inr ⟨N,h4⟩
structure aAM(w:World)(B:Nat)(iv:Iv)(v:Value)(M:List (List Rat)):Prop where
 row:∃rv,w.ownsRow 0 T.jQ 1 v M.length rv/\rv.length=M.length/\(∀u∈rv,u.oneCell'=true)/\∀(i:Nat) u x,rv[i]? =some u->M[i]? =some x->cP w (Bs FF B iv v) u x
 new:∀g,v.ownBlock=some g->Cv FF B iv g
section
variable{H:Hp}{nx:Nat}{iv K:Iv}{B:Nat}{w J I:World}{O:Nat->Sx.da}{v:Value}{M:List (List Rat)}
end
theorem At.NG{id n:Nat}:((At.w id n).den O).oneCell'=true:=by
 cases h:(O id).nil<;>simp[At.den,h,Value.oneCell']
end Go.Ex
namespace Go.Ex
variable{s:Int×Int×Rat}{M:List (List Rat)}{fl x:List Rat}{n r t:Nat}{u y z:Nat->Rat}{f:fc}
theorem Km{M:List (List Int)}{c:Nat}:dB (M.map dx) r c=((ez M r c:Int):Rat):=by
 have key:∀l:List Int,(dx l).getD c 0=((l.getD c 0:Int):Rat):=fun l=>by
  rw[dx,List.getD,List.getD,aO]
  cases l[c]? <;>rfl
 unfold dB ez;rw[<-key];congr 1;rw[List.getD,List.getD,aO]
 cases M[r]? <;>rfl
theorem Ev(f:fc)(r c:Nat):dB (cQ f) r c=((ez (jG f) r c:Int):Rat):=Km
def MM(n:Nat)(M:List (List Int)):Prop:=∀l∈M,l.length=n
theorem MM.put{c:Nat}{d:Int}{M:List (List Int)}(h:MM n M):MM n (putAt M r c d):=fun l hl=>by
 unfold putAt at hl;rcases aR r M.length with hr|hr
 .rcases b9 hl with hl|rfl
  .exact h l hl
  .rw[bm,List.getD,aB hr];exact h _ (a9 hr)
 .rw[List.set_eq_of_length_le hr]at hl;exact h l hl
theorem Ax{f:fc}{M:List (List Int)}{n i:Nat}(h:MM n M):∀k,MM n (fX f M i k)
 |0=>h
 |k+1=>by rw[fX];rw[hJ,hJ];exact((Ax h k).put).put
theorem yV(f:fc):∀i,MM f.cols (e8 f i)
 |0=>fun l hl=>by rw[e8]at hl;rw[List.eq_of_mem_replicate hl,bK]
 |i+1=>by rw[e8];exact Ax (yV f i) 3
theorem nS(f:fc):∀i,MM f.cols (fE f i)
 |0=>yV f _
 |i+1=>by rw[fE];exact(nS f i).put
theorem nT(M:List (List Int))(r c:Nat)(d:Int):(putAt M r c d).length=M.length:=bm ..
theorem sn(f:fc)(M:List (List Int))(i:Nat):∀k,(fX f M i k).length=M.length
 |0=>rfl
 |k+1=>by rw[fX];rw[hJ,hJ,nT,nT];exact sn f M i k
theorem qg(f:fc):∀i,(e8 f i).length=3*f.nodes.length
 |0=>bK ..
 |i+1=>by rw[e8,sn];exact qg f i
theorem mJ(f:fc):∀i,(fE f i).length=3*f.nodes.length
 |0=>qg f _
 |i+1=>by rw[fE,nT];exact mJ f i
theorem gi(f:fc):gD f.cols (cQ f):=fun r hr=>by
 obtain⟨l,hl,rfl⟩:=aV.1 hr;rw[dx,aM];exact nS f _ l hl
theorem kk(f:fc):(cQ f).length=3*f.nodes.length:=by rw[cQ,aM];exact mJ f _
structure ER(f:fc):Prop where
 co:∀p∈f.nodes,(-1000000<=p.1/\p.1<=1000000)/\(-1000000<=p.2.1/\p.2.1<=1000000)/\(-1000000<=p.2.2/\p.2.2<=1000000)
 Mj:∀b∈f.bars,∃ka kb:Nat,b.1=ka/\b.2.1=kb/\ka<f.nodes.length/\kb<f.nodes.length/\ka≠kb/\0<b.2.2
 sup:∀s∈f.cV,gM s<3*f.nodes.length/\0<=s.2.2
 one:∀(i j:Nat) s t,f.cV[i]? =some s->f.cV[j]? =some t->gM s=gM t->i=j
 n:f.nodes.length<=20
 b:f.bars.length<=60
 s:f.cV.length<=60
theorem GV{α:Type}{l:List α}{x:α}(h:x∈l):∃i:Nat,l[i]? =some x:=by
 obtain⟨i,D,rfl⟩:=List.mem_iff_getElem.1 h;exact⟨i,aB D⟩
theorem MN(h:eJ f=0):ER f:=by
 have OE:=so h;obtain⟨⟨Y,X,N⟩,h4,h5,h6⟩:=Ay h;have UW:∀(k:Nat) s,f.cV[k]? =some s->gA f.nodes.length s.1/\(0<=s.2.1/\s.2.1<=2)/\iP s∉(f.cV.take k).map iP/\0<=s.2.2:=fun k s hs=>qO.1 (fL h6 k s hs);have OD:∀(k:Nat) s,f.cV[k]? =some s->(gM s:Int)=3*s.1+s.2.1/\gM s<3*f.nodes.length:=fun k s hs=>by
  obtain⟨⟨a1,a2⟩,⟨a3,a4⟩,-,-⟩:=UW k s hs;unfold gM;omega
 have lt:∀(i j:Nat) s t,i<j->f.cV[i]? =some s->f.cV[j]? =some t->gM s≠gM t:=fun i j s t PR hs ht e=>by
  obtain⟨⟨a1,a2⟩,⟨a3,a4⟩,-,-⟩:=UW i s hs;obtain⟨⟨b1,b2⟩,⟨b3,b4⟩,b5,-⟩:=UW j t ht;have e1:=(OD i s hs).1;have e2:=(OD j t ht).1;refine b5 (aV.2 ⟨s,aG (i:=i) (by rw[bT PR];exact hs),?_⟩);exact Prod.ext (by show s.1=t.1;omega) (by show s.2.1=t.2.1;omega)
 refine⟨OE.co,fun b hb=>?_,fun s hs=>?_,fun i j s t hs ht e=>?_,Y,X,N⟩
 .obtain⟨k,E⟩:=GV hb;obtain⟨⟨⟨a1,a2⟩,a3,a4⟩,a5,-,a6⟩:=qP.1 (fL h5 k b E);exact⟨b.1.toNat,b.2.1.toNat,be,be,be,be,be,a6⟩
 .obtain⟨k,E⟩:=GV hs;exact⟨(OD k s E).2,(UW k s E).2.2.2⟩
 .rcases bw i j with h7|h7|h7
  .exact absurd e (lt i j s t h7 hs ht)
  .exact h7
  .exact absurd e.symm (lt j i t s h7 ht hs)
theorem D4(M:List (List Int))(r c r' c':Nat)(d:Int):ez (putAt M r c d) r' c'=d\/ez (putAt M r c d) r' c'=ez M r' c':=by
 by_cases h:r'=r/\c'=c
 .obtain⟨rfl,rfl⟩:=h;rcases aR r' M.length with Y|Y
  .rcases aR c' (M.getD r' []).length with X|X
   .exact .inl (D3 Y X)
   .refine .inr ?_;unfold ez putAt;rw[lT Y,List.set_eq_of_length_le X]
  .refine .inr ?_;unfold ez putAt;rw[List.set_eq_of_length_le Y]
 .exact .inr (ix (by
   by_cases Y:r'=r
   .exact .inr fun X=>h ⟨Y,X⟩
   .exact .inl Y))
theorem D5{k:Nat}(E:k<f.nodes.length):f.node (k:Int)∈f.nodes:=by
 rw[fc.node,aJ,List.getD,aB E];exact a9 E
section
variable{f:fc}(h:ER f)
include h
theorem ER.dif{b:Int×Int×Rat}(hb:b∈f.bars)(k:Nat): -2000000<=(yF f b).getD k 0/\(yF f b).getD k 0<=2000000:=by
 obtain⟨ka,kb,ea,eb,hka,OA,-,-⟩:=h.Mj b hb;obtain⟨⟨a1,a2⟩,⟨a3,a4⟩,a5,a6⟩:=h.co _ (D5 hka);obtain⟨⟨b1,b2⟩,⟨b3,b4⟩,b5,b6⟩:=h.co _ (D5 OA);rw[yF,ea,eb]
 match k with
 |0=>simp[List.getD];omega
 |1=>simp[List.getD];omega
 |2=>simp[List.getD];omega
 |k+3=>simp[List.getD]
theorem ER.D6{i:Nat}{b:Int×Int×Rat}(hb:f.bars[i]? =some b)(r:Nat):∀k,k<=3-> -2000000<=ez (fX f (e8 f i) i k) r i/\ez (fX f (e8 f i) i k) r i<=2000000
 |0,_=>by
  have:=lV f (r:=r) i (aN i);rw[fX,this];omega
 |k+1,E=>by
  obtain⟨ka,kb,ea,eb,-,-,OB,-⟩:=h.Mj b (aG hb);have ih:=ER.D6 hb r k be;have hd:=h.dif (aG hb) k;have z1:=yT (r:=3*ka+k) hb ea eb (show k<=3 by omega) be;have z2:=yT (r:=3*kb+k) hb ea eb (show k<=3 by omega) be;rw[fX];rw[GU hb,toNat_add ea,toNat_add eb,hJ,hJ,z1,ix (r':=3*kb+k) (.inl be),z2];rcases D4 (putAt (fX f (e8 f i) i k) (3*ka+k) i (0+(yF f b).getD k 0)) (3*kb+k) i r i (0+ -(yF f b).getD k 0)with e|e
  .rw[e];omega
  .rw[e];rcases D4 (fX f (e8 f i) i k) (3*ka+k) i r i (0+(yF f b).getD k 0)with e|e
   .rw[e];omega
   .rw[e];exact ih
theorem ER.GW{i r:Nat}(D:i<f.bars.length):∀j,i<j->j<=f.bars.length-> -2000000<=ez (e8 f j) r i/\ez (e8 f j) r i<=2000000
 |0,Y,_=>by omega
 |j+1,Y,X=>by
  rw[e8];rcases aR i j with N|N
  .rw[uT be];exact ER.GW D j N be
  .rw[show j=i by omega];exact h.D6 (aB D) r 3 (aN _)
theorem ER.Ew{i:Nat}(hs:f.cV[i]? =some s):ez (jG f) r (f.bars.length+i)=if r=gM s then 1 else 0:=
 Aw (nS f) (mJ f) (fun s hs=>(h.sup s hs).1) hs _ (aD.1 hs).1
theorem ER.MO(r c:Nat): -2000000<=ez (jG f) r c/\ez (jG f) r c<=2000000:=by
 rcases aR c f.bars.length with hc|hc
 .rw[jG,yU hc];exact h.GW hc _ hc (aN _)
 .rcases aR c f.cols with Y|Y
  .obtain⟨i,rfl⟩:∃i,c=f.bars.length+i:=⟨c-f.bars.length,be⟩
   rw[fc.cols]at Y;rw[h.Ew (aB (show i<f.cV.length by omega))];split<;>omega
  .have:ez (jG f) r c=0:=by
    unfold ez;rw[List.getD,List.getElem?_eq_none]
    .rfl
    .rcases aR r (jG f).length with X|X
     .rw[List.getD,aB X];show((jG f)[r]).length<=c;rw[nS f _ _ (a9 X)];exact Y
     .rw[List.getD,List.getElem?_eq_none X];exact aP _
   rw[this];omega
theorem ER.yW(r c:Nat):Ib 2000000 (dB (cQ f) r c):=by
 rw[Ev];have:=h.MO r c;exact Ib.int be
theorem ER.lW:Bj (cQ f) f.cols 2000000:=fun j _=>⟨1,bi,Ib.one bi,fun t _=>by rw[cA];exact h.yW j t⟩
theorem ER.only{x:Nat->Rat}(G:∀j,j<(cQ f).length->mulR (cQ f) f.cols x j=0)(h0:∀t,t<f.bars.length->x t=0):∀t,t<f.cols->x t=0:=fun t ht=>by
 rcases aR t f.bars.length with Y|Y
 .exact h0 t Y
 .obtain⟨i,rfl⟩:∃i,t=f.bars.length+i:=⟨t-f.bars.length,be⟩
  have D:i<f.cV.length:=by unfold fc.cols at ht;omega
  have hs:=aB D;have hr:=h.sup _ (a9 D);have X:=G (gM f.cV[i]) (by rw[kk];exact hr.1);unfold mulR at X;rw[e7 ht fun k E OB=>?_,Ev,h.Ew hs,aH rfl]at X
  .have e:((1:Int):Rat)*x (f.bars.length+i)=x (f.bars.length+i):=cA _
   rwa [e]at X
  .rcases aR k f.bars.length with N|N
   .rw[h0 k N,bD]
   .obtain⟨i',rfl⟩:∃i,k=f.bars.length+i:=⟨k-f.bars.length,be⟩
    have Rw:i'<f.cV.length:=by unfold fc.cols at E;omega
    have Se:=aB Rw;rw[Ev,h.Ew Se,aF fun e=>OB (by rw[h.one i i' _ _ hs Se e])];exact bH _
theorem ER.JB(ht:t<f.bars.length):0<(dC f).getD t 0:=by
 obtain⟨_,_,_,_,_,_,_,Y⟩:=h.Mj _ (a9 ht);rw[dC,List.getD,aK (by rw[aM];exact ht),aO,aB ht];exact Y
theorem ER.D7(t:Nat):0<=(dC f).getD t 0:=by
 rw[List.getD]
 cases ht:(dC f)[t]? with
 |none=>exact Rat.le_refl
 |some q=>
  show 0<=q;have hm:=aG ht;rcases bV.1 hm with hm|hm
  .obtain⟨b,hb,rfl⟩:=aV.1 hm;obtain⟨_,_,_,_,_,_,_,Y⟩:=h.Mj b hb;exact Rat.le_of_lt Y
  .obtain⟨s,hs,rfl⟩:=aV.1 hm;exact(h.sup s hs).2
theorem ER.Kn:Bk (cQ f) f.cols fun t=>(dC f).getD t 0:=by
 refine⟨gi f,fun t _=>h.D7 t,fun x G h0=>h.only G fun t ht=>?_⟩;have Y:=vO (f:=fun t=>(dC f).getD t 0*(x t*x t)) (n:=f.cols) (fun k _=>Rat.mul_nonneg (h.D7 k) (sq_nonneg _)) (by rw[h0];exact Rat.le_refl) t (by unfold fc.cols;omega);have X:=h.JB ht;rcases Rat.mul_eq_zero.1 Y with N|N
 .rw[N]at X;exact absurd X (Rat.lt_irrefl)
 .rcases Rat.mul_eq_zero.1 N with h4|h4<;>exact h4
end
theorem Ey:∀(Fn m:Nat) (g:Nat->Nat),(∀i,i<m->g i<Fn)->(∀i j,i<m->j<m->g i=g j->i=j)->m<=Fn
 |0,m,g,Y,_=>by
  rcases bN m with h|h
  .omega
  .exact absurd (Y 0 h) (Nat.not_lt_zero _)
 |Fn+1,m,g,Y,X=>by
  by_cases h:∃i,i<m/\g i=Fn
  .obtain⟨i0,D,e⟩:=h
   have:=Ey Fn (m-1) (fun i=>if i<i0 then g i else g (i+1)) (fun i Rw=>by
    show(if i<i0 then g i else g (i+1))<Fn;split
    .rename_i OT;have:=Y i be;have:g i≠Fn:=fun e2=>by have:=X i i0 be D (by rw[e2,e]);omega
     omega
    .have:=Y (i+1) be;have:g (i+1)≠Fn:=fun e2=>by have:=X (i+1) i0 be D (by rw[e2,e]);omega
     omega) (fun i j Rw hj' e2=>by
    have e3:(if i<i0 then g i else g (i+1))=(if j<i0 then g j else g (j+1)):=e2;split at e3<;>split at e3
    .exact X _ _ be be e3
    .have:=X _ _ be be e3;omega
    .have:=X _ _ be be e3;omega
    .have:=X _ _ be be e3;omega)
   omega
  .exact Nat.le_succ_of_le (Ey Fn m g (fun i D=>by
    have:=Y i D;have:g i≠Fn:=fun e=>h ⟨i,D,e⟩
    omega) X)
theorem rX(f:Nat->Rat)(a:Nat):∀b,cW f (a+b)=cW f a+cW (fun k=>f (a+k)) b
 |0=>(bg _).symm
 |b+1=>by rw[show a+(b+1)=a+b+1 by omega,cW,cW,rX f a b,Rat.add_assoc]
theorem uU{k:Nat}(E:k<n):(eS M n).getD k []=M.map fun r=>r.getD k 0:=by
 unfold eS;exact getD_some (by rw[aO,bf E];rfl)
theorem mc{k i:Nat}(E:k<n):dB (eS M n) k i=dB M i k:=by
 rw[dB,dB,uU E];rcases aR i M.length with h|h
 .have hr:=aB h;rw[getD_some (show (M.map fun r=>r.getD k 0)[i]? =some (M[i].getD k 0) by rw[aO,hr];rfl),getD_some hr]
 .rw[iw (by rw[aM];exact h),show M.getD i []=[] by rw[List.getD,List.getElem?_eq_none h];rfl];rfl
theorem iY(M:List (List Rat))(n:Nat):gD M.length (eS M n):=fun r hr=>by
 obtain⟨k,_,rfl⟩:=aV.1 hr;exact aM ..
theorem eP(M:List (List Rat))(n:Nat):(eS M n).length=n:=by simp[eS]
theorem D8(hM:gD n M):eS (eS M n) M.length=M:=by
 refine gz [] (eP _ _) fun i D=>?_;rw[eP]at D;have hr:=hM.getD D;refine gz 0 (by rw[uU D,aM,eP,hr]) fun t ht=>?_;rw[uU D,aM,eP]at ht;have:=mc (M:=eS M n) (n:=M.length) (i:=t) D;rw[mc ht]at this;exact this
abbrev mu(M:List (List Rat))(n:Nat):Nat:=(cL M n).2.length
section
variable{M:List (List Rat)}{n:Nat}
theorem H4(hM:gD n M){Do:Mx}(h:∀j,j<M.length->dw Do r n (dB M j)):mu M n<=r:=by
 obtain⟨r1,r2,A,r4,r5⟩:=dZ hM n (aN _);have hl:=eD M n;have hrk:mu M n=(cL M n).2.length:=rfl;have hB:∀i,∃c:Nat->Rat,i<mu M n->∀t,t<n->dB (cL M n).1 i t=cW (fun k=>c k*Do k t) r:=fun i=>by
  by_cases D:i<mu M n
  .obtain⟨c,hc⟩:=((jF hM n (aN _)).1 i be).trans h;exact⟨c,fun _=>hc⟩
  .exact⟨fun _=>0,fun h=>absurd h D⟩
 obtain⟨FS,hD⟩:∃FS:Nat->Nat->Rat,∀i,i<mu M n->∀t,t<n->dB (cL M n).1 i t=cW (fun k=>FS i k*Do k t) r:=⟨fun i=>(hB i).choose,fun i=>(hB i).choose_spec⟩
 refine Nat.le_of_not_lt fun OT=>?_;obtain⟨T,hT⟩:∃T:List (List Rat),T=(List.range r).map fun k=>(List.range (mu M n)).map fun i=>FS i k:=⟨_,rfl⟩
 have hTl:T.length=r:=by rw[hT];simp
 have hTn:gD (mu M n) T:=fun x G=>by
  rw[hT]at G;obtain⟨k,_,rfl⟩:=aV.1 G;simp
 have hTat:∀k i,k<r->i<mu M n->dB T k i=FS i k:=fun k i E D=>by
  have Y:T[k]? =some ((List.range (mu M n)).map fun i=>FS i k):=by rw[hT,aO,bf E];rfl
  rw[dB,getD_some Y];exact getD_some (by rw[aO,bf D];rfl)
 obtain⟨-,t2,-⟩:=dZ hTn (mu M n) (aN _);have hkl:=ki T (mu M n);rw[eD,hTl]at t2;have hc:=yP hTn;have SM:0<(cS T (mu M n)).length:=by omega
 have hy:=sh hTn SM;have Q1:∀i,i<mu M n->dB (cS T (mu M n)) 0 i=0:=fun j hj=>by
  have hpj:(cL M n).2.getD j 0<n:=r4 _ (by rw[List.getD,aB hj];exact a9 _);have e1:cW (fun i=>dB (cS T (mu M n)) 0 i*dB (cL M n).1 i ((cL M n).2.getD j 0)) (mu M n)=0:=by
   rw[cG (g:=fun i=>cW (fun k=>dB (cS T (mu M n)) 0 i*(FS i k*Do k ((cL M n).2.getD j 0))) r) fun i D=>by rw[hD i D _ hpj,eY],mZ,cG (g:=fun _=>0) fun k E=>?_,dX];have X:=hy k be;unfold mulR at X;rw[cG (g:=fun i=>(dB T k i*dB (cS T (mu M n)) 0 i)*Do k ((cL M n).2.getD j 0)) fun i D=>by rw[hTat k i E D];grind,kZ,X,bH]
  rw[e7 hj fun i D OB=>by rw[r5 j i hj be,aF OB,bD],r5 j j hj be,aH rfl,Rat.mul_one]at e1;exact e1
 have N:=GN (M:=T) (n:=mu M n) (c:=fun k=>if k=0 then 1 else 0) (fun t ht=>by
  rw[e7 SM fun k _ OB=>by rw[aF OB,bH],aH rfl,cA]
  exact Q1 t ht) 0 SM
 exact absurd N bi
theorem qh(hM:gD n M):mu (eS M n) M.length<=mu M n:=by
 obtain⟨r1,r2,A,r4,r5⟩:=dZ hM n (aN _);have hl:=eD M n;have hrk:mu M n=(cL M n).2.length:=rfl;have hrf:=yB hM;refine H4 (iY M n) (Do:=fun i j=>dB M j ((cL M n).2.getD i 0)) fun t ht=>?_;rw[eP]at ht;refine⟨fun i=>dB (cL M n).1 i t,fun j hj=>?_⟩;rw[mc ht];have Y:dw (dB (cL M n).1) (mu M n) n (dB M j):=((jF hM n (aN _)).2 j hj).cut fun i t Y X ht=>A i t Y be ht;rw[hrf.coeff Y t ht];exact cG fun i _=>bs _ _
theorem Ez(hM:gD n M):mu (eS M n) M.length=mu M n:=by
 refine Nat.le_antisymm (qh hM) ?_;have h:=qh (iY M n);rw[eP,D8 hM]at h;exact h
theorem JC(hM:gD n M)(hr:mu M n=M.length):Bg (dB M) M.length n:=by
 obtain⟨r1,r2,A,r4,r5⟩:=dZ hM n (aN _);have hl:=eD M n;have hrk:mu M n=(cL M n).2.length:=rfl;refine(vP hM n (aN _)).1 fun x G j hj=>?_;have hj2:j<(cL M n).2.length:=by omega
 have hpj:(cL M n).2.getD j 0<n:=r4 _ (by rw[List.getD,aB hj2];exact a9 _);have Y:=G _ hpj;rw[e7 hj fun i D OB=>by rw[r5 j i hj2 be,aF OB,bD],r5 j j hj2 be,aH rfl,Rat.mul_one]at Y;exact Y
theorem H5{k:Nat}(E:k<n):mulR (eS M n) M.length y k=cW (fun i=>dB M i k*y i) M.length:=cG fun i _=>by rw[mc E]
def j4(M:List (List Rat))(n:Nat)(fl:List Rat):List (List Rat):=(M.map fun r=>List.replicate M.length 0++r)++(List.range n).map fun j=>(M.map fun r=>r.getD j 0)++(List.replicate n 0).set j (fl.getD j 0)
theorem ia(fl:List Rat):(j4 M n fl).length=M.length+n:=by unfold j4;rw[aL,aM,aM,List.length_range]
theorem qQ(hM:gD n M)(fl:List Rat):gD (M.length+n) (j4 M n fl):=fun r hr=>by
 rcases bV.1 hr with hr|hr
 .obtain⟨x,G,rfl⟩:=aV.1 hr;rw[aL,bK,hM x G]
 .obtain⟨x,G,rfl⟩:=aV.1 hr;rw[aL,aM,bm,bK]
theorem Bm{i:Nat}(D:i<M.length):(t<M.length->dB (j4 M n fl) i t=0)/\dB (j4 M n fl) i (M.length+t)=dB M i t:=by
 have hr:=aB D;have h:(j4 M n fl)[i]? =some (List.replicate M.length 0++M[i]):=by
  unfold j4;rw[aK (by rw[aM];exact D),aO,hr];rfl
 refine⟨fun ht=>?_,?_⟩
 .rw[dB,getD_some h];exact getD_some (by rw[aK (by rw[bK];exact ht),List.getElem?_replicate,aH ht])
 .rw[dB,dB,getD_some h,getD_some hr,List.getD,List.getD,aQ (by rw[bK];exact Nat.le_add_right _ _),bK,Nat.add_sub_cancel_left]
theorem yX{j:Nat}(hj:j<n):(t<M.length->dB (j4 M n fl) (M.length+j) t=dB M t j)/\(t<n->dB (j4 M n fl) (M.length+j) (M.length+t)=if t=j then fl.getD j 0 else 0):=by
 have h:(j4 M n fl)[M.length+j]? =some ((M.map fun r=>r.getD j 0)++(List.replicate n 0).set j (fl.getD j 0)):=by
  unfold j4;rw[aQ (by rw[aM];exact Nat.le_add_right _ _),aM,Nat.add_sub_cancel_left,aO,bf hj];rfl
 refine⟨fun ht=>?_,fun ht=>?_⟩
 .have hr:=aB ht;rw[dB,dB,getD_some h,getD_some hr];exact getD_some (by rw[aK (by rw[aM];exact ht),aO,hr];rfl)
 .rw[dB,getD_some h];by_cases e:t=j
  .subst e;rw[aH rfl];exact getD_some (by rw[aQ (by rw[aM];exact Nat.le_add_right _ _),aM,Nat.add_sub_cancel_left,aW (by rw[bK];exact ht)])
  .rw[aF e];exact getD_some (by rw[aQ (by rw[aM];exact Nat.le_add_right _ _),aM,Nat.add_sub_cancel_left,bC (Ne.symm e),List.getElem?_replicate,aH ht])
theorem Az{i:Nat}(D:i<M.length):mulR (j4 M n fl) (M.length+n) z i=mulR M n (fun t=>z (M.length+t)) i:=by
 unfold mulR;rw[rX,cG (g:=fun _=>0) fun t ht=>by rw[(Bm D).1 ht,bH],dX,Rat.zero_add];exact cG fun t _=>by rw[(Bm D).2]
theorem BA{j:Nat}(hj:j<n):mulR (j4 M n fl) (M.length+n) z (M.length+j)=cW (fun i=>dB M i j*z i) M.length+fl.getD j 0*z (M.length+j):=by
 unfold mulR;rw[rX,cG fun t ht=>by rw[(yX hj).1 ht]];congr 1;rw[e7 hj fun t ht OB=>by rw[(yX hj).2 ht,aF OB,bH],(yX hj).2 hj,aH rfl]
theorem H6(h:∀j,j<M.length->mulR M n y j=0):cW (fun t=>y t*cW (fun i=>dB M i t*u i) M.length) n=0:=by
 rw[cG (g:=fun t=>cW (fun i=>y t*(dB M i t*u i)) M.length) fun t _=>by rw[eY],mZ,cG (g:=fun _=>0) fun i D=>?_,dX];have Y:=h i D;unfold mulR at Y;rw[cG (g:=fun t=>dB M i t*y t*u i) fun t _=>by grind,kZ,Y,bH]
end
section
variable{M:List (List Rat)}{n:Nat}{fl b:List Rat}
theorem kj.Ms(hM:gD n M)(h:kj M n (fun t=>fl.getD t 0) b x):∃u,fu (eS M n) (dV (fD x fl) (-1)) M.length=some u:=by
 cases e:fu (eS M n) (dV (fD x fl) (-1)) M.length with
 |some u=>exact⟨u,rfl⟩
 |none=>
  obtain⟨y,y1,y2⟩:=nO (iY M n) e;rw[eP]at y1 y2;refine absurd ?_ y2;have TX:∀j,j<M.length->mulR M n y j=0:=fun j hj=>Eq.trans (cG fun t ht=>by rw[mc ht,bs]) (y1 j hj);obtain⟨c,hc⟩:=GM hM TX;have hb:∀t,t<n->(dV (fD x fl) (-1)).getD t 0= -(fl.getD t 0*x.getD t 0):=fun t ht=>by
   have Y:=mb (a:=x) (b:=fl) (t:=t) (by rw[h.len];exact ht);have hl:t<(fD x fl).length:=by rw[fD,List.length_mapIdx,h.len];exact ht
   rw[getD_some (aB hl)]at Y;rw[getD_some (show (dV (fD x fl) (-1))[t]? =some ((fD x fl)[t]* -1) by rw[dV,aO,aB hl];rfl),Y];grind
  have e1:cW (fun t=>y t*(dV (fD x fl) (-1)).getD t 0) n= -(uP (fun t=>fl.getD t 0) (fun t=>x.getD t 0) y n):=by
   unfold uP;rw[<-mX];exact cG fun t ht=>by rw[hb t ht];grind
  rw[e1,uQ (x':=fun t=>x.getD t 0) (fun _ _=>rfl) hc,sk,cG (g:=fun _=>0) fun k E=>by rw[sj,h.st k E,bD],dX];rfl
theorem yY(x fl:List Rat){n:Nat}(G:x.length=n)(ht:t<n):(dV (fD x fl) (-1)).getD t 0= -(fl.getD t 0*x.getD t 0):=by
 have Y:=mb (a:=x) (b:=fl) (t:=t) (by rw[G];exact ht);have hl:t<(fD x fl).length:=by rw[fD,List.length_mapIdx,G];exact ht
 rw[getD_some (aB hl)]at Y;rw[getD_some (show (dV (fD x fl) (-1))[t]? =some ((fD x fl)[t]* -1) by rw[dV,aO,aB hl];rfl),Y];grind
theorem JD(hM:gD n M){u:List Rat}(hb:b.length=M.length)(h:kj M n (fun t=>fl.getD t 0) b x)(hu:fu (eS M n) (dV (fD x fl) (-1)) M.length=some u):
  (u++x).length=M.length+n/\∀j,j<(j4 M n fl).length->mulR (j4 M n fl) (M.length+n) (fun t=>(u++x).getD t 0) j=(b++uR n).getD j 0:=by
 obtain⟨u1,u2⟩:=kh (iY M n) hu;rw[eP]at u2;have ha:∀t,t<M.length->(u++x).getD t 0=u.getD t 0:=fun t ht=>by rw[List.getD,aK be,<-List.getD]
 have hc:∀t,(u++x).getD (M.length+t) 0=x.getD t 0:=fun t=>by rw[List.getD,aQ be,u1,Nat.add_sub_cancel_left,<-List.getD]
 refine⟨by rw[aL,u1,h.len],fun j hj=>?_⟩;rw[ia]at hj;rw[ox];rcases aR j M.length with Y|Y
 .rw[Az Y,rW (y:=fun t=>x.getD t 0) fun t _=>hc t];exact h.eq j Y
 .obtain⟨k,rfl⟩:∃k,j=M.length+k:=⟨j-M.length,be⟩
  have E:k<n:=by omega
  rw[BA E,hc,iw (l:=b) be,cG (g:=fun i=>dB M i k*u.getD i 0) fun i D=>by rw[ha i D]];have X:=u2 k E;rw[H5 E,yY x fl h.len E]at X;rw[X];grind
theorem JE(hM:gD n M){z:List Rat}(hb:b.length=M.length)(hz:fu (j4 M n fl) (b++uR n) (M.length+n)=some z):kj M n (fun t=>fl.getD t 0) b (z.drop M.length):=by
 obtain⟨z1,z2⟩:=kh (qQ hM fl) hz;have hd:∀t,(z.drop M.length).getD t 0=z.getD (M.length+t) 0:=fun t=>by rw[List.getD,List.getD,List.getElem?_drop]
 refine⟨by rw[List.length_drop,z1];omega,fun j hj=>?_,fun k E=>?_⟩
 .have Y:=z2 j (by rw[ia];omega);rw[Az hj,ox]at Y;rw[<-Y];exact rW (fun t _=>hd t) j
 .have h0:=H6 (u:=fun i=>z.getD i 0) (sh hM E);unfold uP;have e:cW (fun t=>fl.getD t 0*(dB (cS M n) k t*(z.drop M.length).getD t 0)) n= -cW (fun t=>dB (cS M n) k t*cW (fun i=>dB M i t*z.getD i 0) M.length) n:=by
   rw[<-mX];refine cG fun t ht=>?_;have Y:=z2 (M.length+t) (by rw[ia];omega);rw[BA ht,ox,iw (l:=b) be]at Y;rw[hd];grind
  rw[e,h0];rfl
theorem H7(hM:gD n M)(hr:mu M n=M.length):∃x,fu M b n=some x:=by
 cases e:fu M b n with
 |some x=>exact⟨x,rfl⟩
 |none=>
  obtain⟨y,y1,y2⟩:=nO hM e;have:=JC hM hr y y1;exact absurd (by rw[cG (g:=fun _=>0) fun j hj=>by rw[this j hj,bH],dX]) y2
end
end Go.Ex
namespace Go.Ex
open Go Go.Sx Go.Proofs
section
variable{S S':Nat->Prop}{H:Hp}{nx:Nat}{iv K:Iv}{B:Nat}{w J I:World}{O:Nat->Sx.da}{v:Value}{M:List (List Int)}
end
end Go.Ex
namespace Go.Ex
open Go
section
structure FrS(f:fc):Prop extends ER f where
 n4:f.nodes.length<=4
 b6:f.bars.length<=6
variable{f:fc}
theorem FrS.s12(h:FrS f):f.cV.length<=12:=by
 have:=Ey (3*f.nodes.length) f.cV.length (fun i=>gM (f.cV.getD i (0,0,0))) (fun i D=>by
  have e:f.cV.getD i (0,0,0)=f.cV[i]:=getD_some (aB D);show gM (f.cV.getD i (0,0,0))<_;rw[e]
  exact(h.sup _ (a9 D)).1) (fun i j D hj e=>by
  have e1:f.cV.getD i (0,0,0)=f.cV[i]:=getD_some (aB D);have e2:f.cV.getD j (0,0,0)=f.cV[j]:=getD_some (aB hj);have e:gM (f.cV.getD i (0,0,0))=gM (f.cV.getD j (0,0,0)):=e;rw[e1,e2]at e
  exact h.one i j _ _ (aB D) (aB hj) e)
 have:=h.n4;omega
theorem FrS.Ko(h:FrS f):f.cols<=18:=by
 have Y:=h.s12;have X:=h.b6;unfold fc.cols;omega
theorem FrS.La(h:FrS f):(cQ f).length<=12:=by
 rw[kk];have:=h.n4;omega
theorem Mt:18*2000000<=wt 1:=by decide
theorem FrS.size(h:FrS f):ln (fB 2000000 (cQ f).length)<=13:=by
 have:=h.La;have X:=L0 (B:=2000000) (E9:=18) (l:=1) (n:=(cQ f).length) be Mt;omega
end
end Go.Ex
namespace Go.Ex
open Go Go.Sx Go.Proofs
variable{M:List (List Rat)}{s:List Int}{S:Nat->Prop}{f:fc}
theorem mo{n B h:Nat}(hM:gD n M)(hW:Bj M n B)(hB:1<=B)(hh:ln (fB B M.length)+1<=h):CI M n h:=
 ⟨fun i D r hr q hq=>by have:=Io hM hW hB D r hr q hq;omega,fun i D k E q hq=>by have:=Ip hM hW hB D E q hq;omega⟩
theorem Fg{n B h:Nat}(hM:gD n M)(hW:Bj M n B)(hB:1<=B)(hh:ln (fB B M.length)+1<=h):Ht (dJ M n).1 h:=fun r hr q hq=>by
 rw[(kg hM hW).2]at hr;have:=Er hM hW hB (aN n) r (List.mem_of_mem_take hr) q hq;omega
theorem mB(M:List (List Rat))(n:Nat)(hM:gD n M):(cL M n).2.length<=(cL M n).1.length/\(cL M n).2.length<=n:=by
 obtain⟨r1,r2,A,r4,r5⟩:=dZ hM n lr;have:=(gg M n).2.2;unfold cL at*
 exact⟨r2,be⟩
theorem Hv{w:World}{vn vb vs:Value}(U:Old S w)(hf:dq w S vn vb vs f)(UF:eJ f=0->FrS f):
  eC PG Fn.qk #[.agg #[vn,vb,vs]] w (eI w fun v' _=>(eJ f≠0/\v'= .tuple #[.agg #[iV 0,iV 0,iV 0],iV (eJ f)])\/(eJ f=0/\v'= .tuple #[.agg #[iV (mu (cQ f) f.cols),iV ((f.cols:Int)-mu (cQ f) f.cols),iV ((3*f.nodes.length:Nat)-mu (cQ f) f.cols)],iV 0])):=by
 have V:=bR w;obtain⟨an,cn,ab,cb,aq,cq,rfl,rfl,rfl,RH,Rh,Si⟩:=hf.shape;have QS:f.cols=f.bars.length+f.cV.length:=rfl;have UA:=Dy f;obtain⟨e0,EE⟩:=exq (eJ f);refine uc bv ?_;refine cD (cE V (pE (iV e0)) (fun O J r=>(tk (oS U r) (hf.cK (kS V r U))).mono fun _ _ ⟨v2,e1,e2,e3⟩=>⟨v2,e1,e2,by rw[e3,EE]⟩) ?_);rintro O Ph v1 Pa OK r R V h_ rfl;apply bS<;>intro R
 .have R:e0≠0:=by simpa using R
  exact rtn V fun GT we re=>.inl ⟨by rw[EE];exact R,by rw[EE];rfl⟩
 have R:e0=0:=by simpa using R
 have Q5:eJ f=0:=by rw[EE,R]
 have Qs:=UF Q5;have OE:=so Q5;refine cD (cE V (fun _ J v I=>(∃vr,v= .agg #[vr,iV f.cols]/\cT I (Nf J I) vr (cQ f))/\gD f.cols (cQ f)/\Ht (cQ f) 2) (fun O J r=>sF (S:=S) (oS U r) (hf.cK (kS V r U)) OE) ?_);rintro O _ _ _ ivt r R V h_ ⟨⟨vr,rfl,k1⟩,hlen,hht⟩;have hM:=cT.cF k1 (nw r h_);obtain⟨am,cm,rfl,Sd,Rc⟩:=eH.shape hM;have hc18:=Qs.Ko;have hr12:=Qs.La;refine cD (cE V (fun _ J v I=>∃vr vp vf,v= .agg #[vr,iV f.cols,vp,vf]/\cT I (Nw (Cf w ivt) J I) vr (dJ (cQ f) f.cols).1) (fun O J r=>(zY (C:=Cf w ivt) (S:=Cf w ivt) (h:=20) (rlo r oF) (rlo r oF) (cT.rel hM r oF) hlen be be (mo hlen Qs.lW bi (by have:=Qs.size;omega)) bi).mono fun _ _ ⟨v2,e1,e2,vr,vp,vf,k1,k2,_,_⟩=>⟨v2,e1,e2,vr,vp,vf,k1,k2⟩) ?_);rintro O _ _ _ OH r R V h_ ⟨vr2,vp2,vf2,rfl,Z⟩;replace hM:=cT.cH hM r oF R (mC h_);obtain⟨ar,cr,rfl,-,-⟩:=eH.shape Z;have hrk:(dJ (cQ f) f.cols).1.length=mu (cQ f) f.cols:=by
  rw[(kg hlen Qs.lW).2,aZ,Nat.min_eq_left (mB _ _ hlen).1]
 rw[hrk];have hle:mu (cQ f) f.cols<=f.cols:=(mB _ _ hlen).2;obtain⟨nr,hnr⟩:=exq (mu (cQ f) f.cols);rw[hnr]at hle ⊢;refine⟨(f.cols:Int)-nr,wo,((cQ f).length:Int)-nr,wo,?_⟩;exact rtn V fun GT we re=>.inr ⟨Q5,by rw[UA];rfl⟩
section
variable{S:Nat->Prop}{w:World}{v u:Value}{M:List (List Rat)}{b:List Rat}{n h0:Nat}
end
theorem M8(h:eJ f≠0\/f.nodes.length<=4/\f.bars.length<=6)(h0:eJ f=0):FrS f:=⟨MN h0,(h.resolve_left fun e=>e h0).1,(h.resolve_left fun e=>e h0).2⟩
theorem Jr{t:Int}(h:LB s t)(ht:0<=t)(j:Nat): -t<=s.getD j 0/\s.getD j 0<=t:=by
 rcases aR j s.length with hj|hj
 .rw[getD_some (aB hj)];exact h _ (a9 hj)
 .rw[List.getD,List.getElem?_eq_none hj];show -t<=0/\0<=t;omega
theorem BR{s:List Int}{x:Ld}{t:Int}(h:LB s t)(ht:0<=t)(G:(-1000000<=x.2.1/\x.2.1<=1000000)/\(-1000000<=x.2.2.1/\x.2.2.1<=1000000)/\(-1000000<=x.2.2.2/\x.2.2.2<=1000000)):∀k,k<=3->LB (iB s x k) (t+1000000*(k:Int))
 |0,_=>by rw[iB];simpa using h
 |k+1,E=>by
  have ih:=BR h ht G k be;have hd: -1000000<=(MX x).getD k 0/\(MX x).getD k 0<=1000000:=by
   rcases(show k=0\/k=1\/k=2 by omega)with rfl|rfl|rfl
   .exact G.1
   .exact G.2.1
   .exact G.2.2
  have F:=Jr ih be (3*x.1+k).toNat;rw[iB,GJ];exact ih.set be be
theorem BS{n:Nat}{l:List Ld}(OE:zT n l):∀i,i<=l.length->LB (gk n l i) (3000000*(i:Int))
 |0,_=>fun z hz=>by rw[List.eq_of_mem_replicate hz];decide
 |i+1,D=>by
  have ih:=BS OE i be;have hm:l.getD i (0,0,0,0)∈l:=by rw[getD_some (aB (show i<l.length by omega))];exact a9 _
  have:=BR ih be (OE.ld _ hm).2 3 lr;rw[gk];intro z hz;have:=this z hz;omega
end Go.Ex
namespace Go.Ex
variable{M:List (List Rat)}{l:Nat}{g:Nat->Rat}{FS p q:Rat}
def Bl(b:List Rat):Prop:=∀t,Ib 1000000000 (b.getD t 0)
theorem Ib.w{B:Nat}(h:Ib B q)(k:B<=wt l):Ib (wt l) q:=h.mono k
theorem uX(a b:Nat)(h:a+b<=l):wt a*wt b<=wt l:=by rw[<-Bf];exact Al h
theorem Ib.sw{a b:Nat}(h:Ib (wt a) p)(k:Ib (wt b) q)(hl:a+b<=l):Ib (wt l) (p*q):=(h.mul k).mono (uX a b hl)
theorem Ib.up{a:Nat}(h:Ib (wt a) p)(hl:a<=l):Ib (wt l) p:=h.mono (Al hl)
theorem Ib.Mv{a n:Nat}(Z:n<=18)(h:∀k,k<n->Ib (wt a) (g k))(hl:a+1<=l):Ib (wt l) (cW g n):=
 (Ib.sum n h).mono (bB (Nat.mul_le_mul_right _ (bB Z (by decide:18<=wt 1))) (uX 1 a be))
theorem Den.mono{F' C9:Nat}{l:List Rat}(h:Den F' FS l)(k:F'<=C9):Den C9 FS l:=⟨h.1,h.2.1.mono k,fun t=>(h.2.2 t).mono k⟩
theorem Eu.mono{F' C9:Nat}(h:Eu F' FS M)(k:F'<=C9):Eu C9 FS M:=⟨h.1,h.2.1.mono k,fun i t=>(h.2.2 i t).mono k⟩
theorem D9{k n E9 m:Nat}(Z:n<=E9)(hR:E9<=4294967295)(hl:k+1<=l)(hm:l*E9+1<=m):ln (fB (wt k) n)<=m/\fB (wt k) n<=wt m:=by
 have Y:=L0 (B:=wt k) (l:=l) Z (bB (Nat.mul_le_mul_right _ (bB hR (by decide:4294967295<=wt 1))) (uX 1 k be));have X:l*n+1<=m:=bB (Nat.succ_le_succ (bh _ Z)) hm;exact⟨bB Y X,Nat.le_of_lt (gC.1 (bB Y X))⟩
structure vT(f:fc):Prop extends FrS f where
 fx:∀q∈dC f,rl q<=3
section
variable{f:fc}{b x x0 c u:List Rat}
theorem FrS.GZ(h:FrS f)(hb:Bl b):Bj (df (cQ f) b) (f.cols+1) (wt 1):=fun j hj=>by
 rw[eN]at hj;have V:=fun t=>j9 (b:=b) (t:=t) (gi f) hj;refine⟨1,bi,Ib.one nQ,fun t ht=>?_⟩;rw[cA];rcases aR t f.cols with Y|Y
 .rw[(V t).1 Y];exact(h.yW j t).w bi
 .rw[show t=f.cols by omega,(V 0).2];exact(hb j).w bi
theorem FrS.JF(h:FrS f):ln (fB (wt 1) (df (cQ f) b).length)<=25:=by
 rw[eN];exact(D9 (l:=2) h.La bi bi bi).1
theorem FrS.Mu(h:FrS f)(hb:Bl b)(h0:fu (cQ f) b f.cols=some x0):∃FS,Den (wt 25) FS x0:=by
 obtain⟨FS,hD⟩:=yQ (gi f) (h.GZ hb) nQ h0;exact⟨FS,hD.mono (D9 (l:=2) h.La bi bi bi).2⟩
theorem FrS.Ns(h:FrS f):∃FS,Eu (wt 13) FS (cS (cQ f) f.cols):=by
 obtain⟨FS,hD⟩:=Kl (gi f) h.lW bi;exact⟨FS,hD.mono (Nat.le_of_lt (gC.1 h.size))⟩
theorem FrS.Lb(h:FrS f):(cS (cQ f) f.cols).length<=18:=by
 have Y:=yP (gi f);have X:=h.Ko;omega
theorem y8(f:fc):(dC f).length=f.cols:=by simp[dC,fc.cols]
theorem vT.Nb(h:vT f):Den (wt 54) (lS (dC f) 18) (dC f):=Iy (by rw[y8];exact h.Ko) h.fx
theorem vT.JG(h:vT f)(G:∃FS,Den (wt 25) FS x0):Bj (df (eO (cS (cQ f) f.cols) (dC f)) (gL (cS (cQ f) f.cols) (dC f) x0)) ((cS (cQ f) f.cols).length+1) (wt 106):=fun i D=>by
 rw[eN,eO,aM]at D;obtain⟨D0,a1,a2,a3⟩:=G;obtain⟨D1,b1,b2,b3⟩:=h.Ns;obtain⟨c1,c2,c3⟩:=h.Nb;have Z:=h.Ko;have V:=fun t=>j9 (b:=gL (cS (cQ f) f.cols) (dC f) x0) (t:=t) (nR (cS (cQ f) f.cols) (dC f)) (j:=i) (by rw[eO,aM];exact D);refine⟨lS (dC f) 18*(D1*D1)*D0,si (si c1 (si b1 b1)) a1,(((c2.sw (b2.sw b2 (aN _)) (aN _)).sw a2 bi)),fun t ht=>?_⟩;rcases aR t (cS (cQ f) f.cols).length with Y|Y
 .rw[(V t).1 Y,uS _ _ _ D Y];unfold GS uP;rw[<-eY];refine Ib.Mv Z (fun k _=>?_) (aN _);rw[show lS (dC f) 18*(D1*D1)*D0*((dC f).getD k 0*(dB (cS (cQ f) f.cols) i k*dB (cS (cQ f) f.cols) t k))=(lS (dC f) 18*(dC f).getD k 0)*((D1*dB (cS (cQ f) f.cols) i k)*(D1*dB (cS (cQ f) f.cols) t k))*D0 by grind];exact((c3 k).sw ((b3 i k).sw (b3 t k) (aN _)) (aN _)).sw a2 bi
 .rw[show t=(cS (cQ f) f.cols).length by omega,(V 0).2,D2 _ _ _ _ D];unfold uP;rw[show lS (dC f) 18*(D1*D1)*D0* -(cW (fun t=>(dC f).getD t 0*(dB (cS (cQ f) f.cols) i t*x0.getD t 0)) f.cols)= -(lS (dC f) 18*(D1*D1)*D0*cW (fun t=>(dC f).getD t 0*(dB (cS (cQ f) f.cols) i t*x0.getD t 0)) f.cols) by grind,<-eY];refine(Ib.Mv Z (fun k _=>?_) (aN _)).neg;rw[show lS (dC f) 18*(D1*D1)*D0*((dC f).getD k 0*(dB (cS (cQ f) f.cols) i k*x0.getD k 0))=(lS (dC f) 18*(dC f).getD k 0)*((D1*dB (cS (cQ f) f.cols) i k)*D1)*(D0*x0.getD k 0) by grind];exact((c3 k).sw ((b3 i k).sw b2 (aN _)) (aN _)).sw (a3 k) bi
theorem vT.Ga(h:vT f){b:List Rat}:ln (fB (wt 106) (df (eO (cS (cQ f) f.cols) (dC f)) b).length)<=1927:=by
 rw[eN,eO,aM];exact(D9 (l:=107) h.Lb bi bi bi).1
theorem vT.MQ(h:vT f)(G:∃FS,Den (wt 25) FS x0)(hc:fu (eO (cS (cQ f) f.cols) (dC f)) (gL (cS (cQ f) f.cols) (dC f) x0) (cS (cQ f) f.cols).length=some c):∀q∈c,rl q<=1927:=fun q hq=>by
 obtain⟨FS,hD⟩:=yQ (nR _ _) (h.JG G) nQ hc;have Y:=hD.rl q hq;have X:=h.Ga (b:=[]);rw[eN]at X;omega
theorem Bo(h:rl q<=3):Ib (wt 3) (q.den:Rat):=⟨(q.den:Int),rfl,by have:=(GQ h).2;omega⟩
theorem JH(h:rl q<=3):Ib (wt 3) ((q.den:Rat)*q):=by rw[GP];exact⟨q.num,rfl,Nat.le_of_lt (GQ h).1⟩
theorem Gb(q:Rat):(q.den:Rat)≠0:=fun e=>by
 have:((q.den:Int):Rat)=((0:Int):Rat):=e;exact q.den_nz (by have:=Rat.intCast_inj.1 this;omega)
theorem vT.NR(h:vT f){t:Nat}(ht:t<f.cols):rl ((dC f).getD t 0)<=3:=by
 have hl:t<(dC f).length:=by rw[y8];exact ht
 rw[getD_some (aB hl)];exact h.fx _ (a9 hl)
theorem vT.Kq(h:vT f)(hb:Bl b)(Po:b.length=(cQ f).length):Bj (df (j4 (cQ f) f.cols (dC f)) (b++uR f.cols)) ((cQ f).length+f.cols+1) (wt 4):=fun j hj=>by
 rw[eN,ia]at hj;have V:=fun t=>j9 (b:=b++uR f.cols) (t:=t) (qQ (gi f) (dC f)) (j:=j) (by rw[ia];exact hj);rcases aR j (cQ f).length with X|X
 .refine⟨1,bi,Ib.one nQ,fun t ht=>?_⟩;rw[cA];rcases aR t ((cQ f).length+f.cols)with Y|Y
  .rw[(V t).1 Y];rcases aR t (cQ f).length with N|N
   .rw[(Bm X).1 N];exact Ib.zero _
   .obtain⟨s,rfl⟩:∃s,t=(cQ f).length+s:=⟨t-(cQ f).length,be⟩
    rw[(Bm (t:=s) X).2];exact((h.yW j s).w (by decide:2000000<=wt 1)).up bi
  .rw[show t=(cQ f).length+f.cols by omega,(V 0).2,ox];exact((hb j).w (by decide:1000000000<=wt 1)).up bi
 .obtain⟨k,rfl⟩:∃k,j=(cQ f).length+k:=⟨j-(cQ f).length,be⟩
  have E:k<f.cols:=by omega
  have hq:=h.NR E;refine⟨(((dC f).getD k 0).den:Rat),Gb _,(Bo hq).up bi,fun t ht=>?_⟩;rcases aR t ((cQ f).length+f.cols)with Y|Y
  .rw[(V t).1 Y];rcases aR t (cQ f).length with N|N
   .rw[(yX (t:=t) E).1 N];exact(Bo hq).sw ((h.yW t k).w (by decide:2000000<=wt 1)) bi
   .obtain⟨s,rfl⟩:∃s,t=(cQ f).length+s:=⟨t-(cQ f).length,be⟩
    rw[(yX (t:=s) E).2 be];split
    .exact(JH hq).up bi
    .rw[bD];exact Ib.zero _
  .rw[show t=(cQ f).length+f.cols by omega,(V 0).2,ox,iw (l:=b) be,bD];exact Ib.zero _
theorem vT.JI(h:vT f)(hb:Bl b)(Po:b.length=(cQ f).length)(G:kj (cQ f) f.cols (fun t=>(dC f).getD t 0) b x):∃FS,Den (wt 151) FS x:=by
 obtain⟨u,hu⟩:=G.Ms (gi f);obtain⟨s1,s2⟩:=JD (gi f) Po G hu;obtain⟨z,hz⟩:=As (qQ (gi f) (dC f)) s2;have Y:=JE (gi f) Po hz;have X:=h.Kn.one G Y;obtain⟨FS,d1,d2,d3⟩:=yQ (qQ (gi f) (dC f)) (h.Kq hb Po) nQ hz;have N:fB (wt 4) (j4 (cQ f) f.cols (dC f)).length<=wt 151:=by
  rw[ia];have Y:=h.Ko;have X:=h.La;exact(D9 (l:=5) (E9:=30) be bi bi bi).2
 refine⟨FS,d1,d2.mono N,fun t=>?_⟩;rw[X,List.getD,List.getElem?_drop,<-List.getD];exact(d3 _).mono N
theorem vT.Mw(h:vT f)(hb:Bl b)(Po:b.length=(cQ f).length)(G:kj (cQ f) f.cols (fun t=>(dC f).getD t 0) b x):∀q∈x,rl q<=152:=fun q hq=>by
 obtain⟨FS,hD⟩:=h.JI hb Po G;have:=hD.rl q hq;have X:ln (wt 151)<=152:=gC.2 (IY bi);omega
theorem vT.H8(h:vT f)(PJ:x.length=f.cols)(G:∃FS,Den (wt 151) FS x):Bj (df (eS (cQ f) f.cols) (dV (fD x (dC f)) (-1))) ((cQ f).length+1) (wt 156):=fun j hj=>by
 rw[eN,eP]at hj;obtain⟨FS,d1,d2,d3⟩:=G;have hq:=h.NR hj;have V:=fun t=>j9 (b:=dV (fD x (dC f)) (-1)) (t:=t) (iY (cQ f) f.cols) (j:=j) (by rw[eP];exact hj);refine⟨(((dC f).getD j 0).den:Rat)*FS,si (Gb _) d1,(Bo hq).sw d2 bi,fun t ht=>?_⟩;rcases aR t (cQ f).length with Y|Y
 .rw[(V t).1 Y,mc hj];exact((Bo hq).sw d2 (aN _)).sw ((h.yW t j).w (by decide:2000000<=wt 1)) bi
 .rw[show t=(cQ f).length by omega,(V 0).2,yY x _ PJ hj,show(((dC f).getD j 0).den:Rat)*FS* -((dC f).getD j 0*x.getD j 0)= -(((((dC f).getD j 0).den:Rat)*(dC f).getD j 0)*(FS*x.getD j 0)) by grind];exact((JH hq).sw (d3 j) bi).neg
theorem vT.FA(h:vT f){b:List Rat}:ln (fB (wt 156) (df (eS (cQ f) f.cols) b).length)<=2827:=by
 rw[eN,eP];exact(D9 (l:=157) h.Ko bi bi bi).1
end
end Go.Ex
namespace Go.Sx
open Go Go.Ex Go.Proofs
variable{L:List Value}{O:Nat->Sx.da}
theorem Rel.CU{H:Hp}{nx:Nat}{iv:Iv}{B:Nat}{w J:World}(r:Rel H nx iv B w O J){T:Nat->Prop}{id t m sz:Nat}(h:cw H id=some (.vec t sz L))(hm:L.length=m*sz)(SB:m<=maxLen)(hs:0<sz)(Y:∀u∈L,u.oneCell'=true)(hT:(O id).nil=false->T (O id).g):
  jW J T sz ((At.w id m).den O) L m:=by
 rcases r.fits h with⟨Z,rfl⟩|⟨Z,spare,X,N,h4⟩
 .have TZ:m=0:=by
   rcases bN m with h|h
   .exact h
   .have:=Nat.mul_pos h hs;simp at hm;omega
  subst TZ;have R6:(At.w id 0).den O=nls:=by simp[At.den,Z]
  rw[R6];exact⟨aP _,bv,bv,none,0,rfl,lr,fun j u h=>by cases h⟩
 .have R6:(At.w id m).den O= .slice (some ⟨(O id).g,0,none⟩) m (O id).cap:=by simp[At.den,Z]
  rw[R6];refine⟨SB,hm,Y,_,_,rfl,?_,fun j u hu=>⟨_,rfl,hT Z,?_⟩⟩
  .rw[aL,hm]at N;exact Nat.le_of_mul_le_mul_right (show m*sz<=(O id).cap*sz by omega) hs
  .rw[dS,cell_of X,aX,aK (aD.1 hu).1];exact hu
end Go.Sx
namespace Go.Ex
open Go Go.Sx Go.Proofs
section
variable{p:List Rat}{g:Nat}{S:Nat->Prop}
section
variable{S:Nat->Prop}{H:Hp}{nx:Nat}{iv K:Iv}{B n:Nat}{w J I:World}{O:Nat->Sx.da}{v:Value}{qs:List Rat}
theorem Bs.fresh(r:Rel H nx iv B w O J)(G:∀g,v.ownBlock=some g->g<J.heap.size)(F:Nf J I g):Bs S B ((J.heap.size,I.heap.size)::iv) v g:=by
 rcases F with F|F
 .exact F.elim
 .exact⟨.inr ⟨by have:=r.cR;omega,_,_,aI,F.1,F.2⟩,fun e=>by have:=G g e;omega⟩
theorem Bs.solved{T:Nat->Prop}(r:Rel H nx iv B w O J)(G:∀g,v.ownBlock=some g->g<J.heap.size)(hT:∀g,T g->Bs S B iv v g)(F:Cv T J.heap.size [(J.heap.size,I.heap.size)] g):Bs S B ((J.heap.size,I.heap.size)::iv) v g:=by
 rcases F with F|⟨Y,lo,D,X,N,h4⟩
 .exact Bs.mono (fun p hp=>aA _ hp) (hT g F)
 .simp at X;obtain⟨rfl,rfl⟩:=X;exact Bs.fresh r G (.inr ⟨N,h4⟩)
end
section
variable{S:Nat->Prop}{H:Hp}{nx:Nat}{iv K:Iv}{B:Nat}{w J I:World}{O:Nat->Sx.da}{v v0:Value}{q:Rat}
theorem lG.rel(h:cY w (Bs S B iv v) v0 q)(r:Rel H nx iv B w O J)(U:∀g,S g->g<B):cY J (Bs S B iv v) v0 q:=cY.cK h (Bs.same r U)
theorem lG.fresh(h:cY I (Nf J I) v0 q)(r:Rel H nx iv B w O J)(G:∀g,v.ownBlock=some g->g<J.heap.size):cY I (Bs S B ((J.heap.size,I.heap.size)::iv) v) v0 q:=cY.cF h fun _ F=>Bs.fresh r G F
theorem lG.cv(h:cY w (Bs S B iv v) v0 q):cY w (Cv S B iv) v0 q:=cY.cF h fun _ F=>F.1
end
section
variable{S:Nat->Prop}{H:Hp}{nx:Nat}{iv K:Iv}{B:Nat}{w J I:World}{O:Nat->Sx.da}{v v0:Value}{F':List (List Rat)}
theorem fo.rel(h:cT w (Bs S B iv v) v0 F')(r:Rel H nx iv B w O J)(U:∀g,S g->g<B):cT J (Bs S B iv v) v0 F':=cT.cK h (Bs.same r U)
theorem fo.cH(h:cT w (Bs S B iv v) v0 F')(r:Rel H nx iv B w O J)(U:∀g,S g->g<B)(R:Ext J I)(hm:∀p,p∈iv->p∈K):cT I (Bs S B K v) v0 F':=
 cT.cF (cT.cK (fo.rel h r U) fun g F=>R.block g (rlo r U g F.1)) fun _ F=>Bs.mono hm F
theorem fo.fresh(h:cT I (Nf J I) v0 F')(r:Rel H nx iv B w O J)(G:∀g,v.ownBlock=some g->g<J.heap.size):cT I (Bs S B ((J.heap.size,I.heap.size)::iv) v) v0 F':=cT.cF h fun _ F=>Bs.fresh r G F
theorem fo.kept(h:cT w (Bs S B iv v) v0 F')(r:Rel H nx iv B w O J)(U:∀g,S g->g<B)(F:J.grownBy I v.ownBlock):cT I (Bs S B iv v) v0 F':=cT.cK h (Bs.kept r U F fun _ e=>e)
end
section
variable{S:Nat->Prop}{H:Hp}{nx:Nat}{iv K:Iv}{B:Nat}{w J I:World}{O:Nat->Sx.da}{v v0:Value}{xs:List Rat}
theorem eU.rel(h:cP w (Bs S B iv v) v0 xs)(r:Rel H nx iv B w O J)(U:∀g,S g->g<B):cP J (Bs S B iv v) v0 xs:=cP.cK h (Bs.same r U)
theorem eU.cH(h:cP w (Bs S B iv v) v0 xs)(r:Rel H nx iv B w O J)(U:∀g,S g->g<B)(R:Ext J I)(hm:∀p,p∈iv->p∈K):cP I (Bs S B K v) v0 xs:=
 cP.cF (cP.cK (eU.rel h r U) fun g F=>R.block g (rlo r U g F.1)) fun _ F=>Bs.mono hm F
theorem eU.fresh(h:cP I (Nf J I) v0 xs)(r:Rel H nx iv B w O J)(G:∀g,v.ownBlock=some g->g<J.heap.size):cP I (Bs S B ((J.heap.size,I.heap.size)::iv) v) v0 xs:=cP.cF h fun _ F=>Bs.fresh r G F
theorem eU.cv(h:cP w (Bs S B iv v) v0 xs):cP w (Cv S B iv) v0 xs:=cP.cF h fun _ F=>F.1
theorem eU.kept(h:cP w (Bs S B iv v) v0 xs)(r:Rel H nx iv B w O J)(U:∀g,S g->g<B)(F:J.grownBy I v.ownBlock):cP I (Bs S B iv v) v0 xs:=cP.cK h (Bs.kept r U F fun _ e=>e)
end
section
variable{S:Nat->Prop}{H:Hp}{nx:Nat}{iv K:Iv}{B:Nat}{w J I:World}{O:Nat->Sx.da}{v v0:Value}{rv:List Value}{F':List (List Rat)}
theorem mP.rel(h:dg w (Bs S B iv v) rv F')(r:Rel H nx iv B w O J)(U:∀g,S g->g<B):dg J (Bs S B iv v) rv F':=dg.cK h (Bs.same r U)
theorem mP.cH(h:dg w (Bs S B iv v) rv F')(r:Rel H nx iv B w O J)(U:∀g,S g->g<B)(R:Ext J I)(hm:∀p,p∈iv->p∈K):dg I (Bs S B K v) rv F':=
 dg.cF (dg.cK (mP.rel h r U) fun g F=>R.block g (rlo r U g F.1)) fun _ F=>Bs.mono hm F
end
section
variable{S:Nat->Prop}{H:Hp}{nx:Nat}{iv K:Iv}{B:Nat}{w J I:World}{O:Nat->Sx.da}{v v0:Value}{W:List (List Value)}{xs:List Rat}
theorem jY.rel(h:ek w (Bs S B iv v) W xs)(r:Rel H nx iv B w O J)(U:∀g,S g->g<B):ek J (Bs S B iv v) W xs:=ek.cK h (Bs.same r U)
theorem jY.cH(h:ek w (Bs S B iv v) W xs)(r:Rel H nx iv B w O J)(U:∀g,S g->g<B)(R:Ext J I)(hm:∀p,p∈iv->p∈K):ek I (Bs S B K v) W xs:=
 ek.cF (ek.cK (jY.rel h r U) fun g F=>R.block g (rlo r U g F.1)) fun _ F=>Bs.mono hm F
end
theorem EF{st:List (List Rat)}{c x:List Rat}{a b:Nat}(G:∀q∈x,rl q<=a)(hs:∀r∈st,∀q∈r,rl q<=b)(hc:∀q∈c,rl q<=b):∀i,∀q∈kf st c x i,rl q<=a+i*(2*b+5)
 |0,q,hq=>by have:=G q hq;omega
 |i+1,q,hq=>by
  rw[kf]at hq;obtain⟨k,E⟩:=aT hq;rw[List.getElem?_mapIdx]at E;obtain⟨p,hp,rfl⟩:=Option.map_eq_some_iff.1 E;have Y:=EF G hs hc i p (aG hp);have h0:rl 0<=2:=by decide
  have X:rl (c.getD i 0)<=b+2:=by
   rcases aR i c.length with h|h
   .rw[getD_some (aB h)];have:=hc _ (a9 h);omega
   .rw[iw h];omega
  have N:rl ((st.getD i []).getD k 0)<=b+2:=by
   rcases aR i st.length with h|h
   .rw[getD_some (d:=[]) (aB h)];rcases aR k (st[i]).length with h4|h4
    .rw[getD_some (aB h4)];have:=hs _ (a9 h) _ (a9 h4);omega
    .rw[iw h4];omega
   .rw[show st.getD i []=[] by rw[List.getD,List.getElem?_eq_none h];rfl];exact bB h0 (Nat.le_add_left _ _)
  have h4:=oy p (c.getD i 0*(st.getD i []).getD k 0);have h5:=jy (c.getD i 0) ((st.getD i []).getD k 0);rw[Nat.add_mul];omega
theorem BT{w:World}{vn vb vs u:Value}{f:fc}(U:Old S w)(hf:dq w S vn vb vs f)(Q5:eJ f=0)(PM:vT f)(hp:cP w S u p)(Pc:p.length=3*f.nodes.length)(hpq:∀q∈p,rl q<=100000)(hb:Bl (dV p (-1))):
  eC PG Fn.pH #[.agg #[vn,vb,vs],u] w (eI w fun v' I=>(fu (cQ f) (dV p (-1)) f.cols=none/\v'= .tuple #[nls,.bool false])\/∃x vx,kj (cQ f) f.cols (fun t=>(dC f).getD t 0) (dV p (-1)) x/\v'= .tuple #[vx,.bool true]/\cP I (Nf w I) vx x):=by
 have V:=bR w;obtain⟨an,cn,ab,cb,aq,cq,rfl,rfl,rfl,RH,Rh,Si⟩:=hf.shape;have OE:=so Q5;have hlen:=gi f;have UA:=kk f;have hc18:=PM.Ko;have hr12:=PM.La;have OL:=np f;have QS:f.cols=f.bars.length+f.cV.length:=rfl;obtain⟨ap,cp,rfl,hcp,hmp⟩:=eM.shape hp;have Po:(dV p (-1)).length=(cQ f).length:=by rw[dV,aM,UA];exact Pc
 have hw0:=PM.GZ hb;have OM:=PM.JF (b:=dV p (-1));refine tS bv ?_;refine cD (cE V (fun _ J v I=>(∃vr,v= .agg #[vr,iV f.cols]/\cT I (Nf J I) vr (cQ f))/\gD f.cols (cQ f)/\Ht (cQ f) 2) (fun O J r=>sF (S:=S) (oS U r) (hf.cK (kS V r U)) OE) ?_);rintro O _ _ _ OK r R V h_ ⟨⟨vr,rfl,k1⟩,-,-⟩;have hM:=cT.cF k1 (nw r h_);clear r;obtain⟨am,cm,rfl,Sd,Rc⟩:=eH.shape hM;refine dP (idO 10) ?_;refine cE V (pR cY ((-1:Int):Rat)) (fun O J r=>lA (-1) J bi bi) ?_;rintro O _ v2 _ OH r R V h_ Z;replace hM:=cT.cH hM r oF R (mC h_);have hd:=Z.cF (nw r h_);clear r;obtain⟨A0,A1,A2,A3,A4,A5,A6,A7,rfl⟩:=hd.shape;refine cE V (fun _ J v I=>eA I FF J.heap.size [(J.heap.size,I.heap.size)] v p.length (dV p (-1))) (fun O J r=>BG (S:=Cv S w.heap.size OH) (rlo r U) (eL.cF (cP.l (cP.cK hp (kS V r U)) fun q hq=>by have:=hpq q hq;omega) fun g F=>.inl F) (((hd.rel r oF).l bi).cF fun g F=>KW F) be) ?_;rintro O _ _ _ OW r R V h_ Z;replace hM:=cT.cH hM r oF R (mC h_);clear hd;have hB:=Z.iR (S:=FF) r.cR (mN h_);clear r;clear Z;obtain⟨a3,c3,rfl,hc3⟩:=hB.row.form;refine cM (If:=fun _ J v I=>(fu (cQ f) (dV p (-1)) f.cols=none/\v= .tuple #[nls,.bool false])\/∃x vx,fu (cQ f) (dV p (-1)) f.cols=some x/\v= .tuple #[vx,.bool true]/\eA I (Cf w OW) J.heap.size [(J.heap.size,I.heap.size)] vx f.cols x) (fun O J r=>uO (M:=cQ f) (b:=dV p (-1)) hlen hw0▸Dt (C:=Cf w OW) (S:=Cf w OW) (h:=30) (rlo r oF) (rlo r oF) (cT.rel hM r oF) ((hB.rel r oF).c) Po hlen be be (mo (iL hlen) hw0 nQ (by rw[sf]at *;omega)) bi) ?_;rintro O RA v4 Qi r R hb (⟨Qm,rfl⟩|⟨x0,vx,hx0,rfl,k2⟩)
 .replace V:=V.tr hb;clear r R hb;exact rtn V fun GT we re=>.inl ⟨Qm,rfl⟩
 replace V:=V.tr hb;replace hM:=cT.cH (K:=(RA.heap.size,Qi.heap.size)::OW) hM r oF R fun x G=>aA _ G;have hX:=k2.ND r.cR;clear r R hb k2 hB;generalize (RA.heap.size,Qi.heap.size)::OW=Ow at*
 obtain⟨ax,cx,rfl,hcx⟩:=hX.row.form;obtain⟨hx0l,-⟩:=kh hlen hx0;have hx0D:=PM.Mu hb hx0;have Ui:∀q∈x0,rl q<=26:=fun q hq=>by
  obtain⟨FS,hD⟩:=hx0D;have Y:=hD.rl q hq;have X:ln (wt 25)<=26:=gC.2 (IY bi);omega
 have hw1:=PM.JG hx0D;have OG:=PM.Ga (b:=gL (cS (cQ f) f.cols) (dC f) x0);obtain⟨c,hc,OR,hfrc⟩:=PM.Kn.force (fl:=dC f) hx0;have SC:=PM.MQ hx0D hc;have hKr:∀r∈cS (cQ f) f.cols,∀q∈r,rl q<=14:=fun r hr q hq=>by
  obtain⟨FS,hD⟩:=PM.Ns;have Y:=hD.rl r hr q hq;have X:ln (wt 13)<=14:=gC.2 (IY bi);omega
 have hKl:=nP (cQ f) f.cols;have hK18:=PM.Lb;have hSl:=nR (cS (cQ f) f.cols) (dC f);have hfx:=PM.fx;have QJ:=uO (M:=eO (cS (cQ f) f.cols) (dC f)) (b:=gL (cS (cQ f) f.cols) (dC f) x0) hSl hw1;rw[hc]at QJ;have hredB:=mo (M:=df (eO (cS (cQ f) f.cols) (dC f)) (gL (cS (cQ f) f.cols) (dC f) x0)) (h:=1930) (iL hSl) hw1 nQ be;refine dP [.x 0,.x 2,.x 1,.x 3,.x 4,.x 5] ?_;refine cM (If:=fun _ J v I=>cT I (Nf J I) v (cS (cQ f) f.cols)) (fun O J r=>Et (M:=cQ f) (n:=f.cols) hlen PM.lW▸Ff (C:=Cf w Ow) (S:=Cf w Ow) (h:=20) (rlo r oF) (rlo r oF) (cT.rel hM r oF) hlen be be (mo hlen PM.lW bi (by have:=PM.size;omega)) (Fg hlen PM.lW bi (by have:=PM.size;omega)) bi) ?_;rintro O Rr v5 SH r R Om Z;replace V:=V.tr Om;have Ql:∀g,(Value.slice ax f.cols cx).ownBlock=some g->g<Rr.heap.size:=fun g e=>rlo r oF g (hX.new g e);clear hM;replace hX:=hX.cH (K:=(Rr.heap.size,SH.heap.size)::Ow) r oF R fun x G=>aA _ G;have hK:=fo.fresh (S:=FF) (v:=(.slice ax f.cols cx)) Z r Ql;clear r R Om Ql Z;generalize (Rr.heap.size,SH.heap.size)::Ow=Qg at*
 obtain⟨ak,ck,rfl,hck,UJ⟩:=eH.shape hK;refine cM (If:=fun _ J v I=>eL I (Nw S J I) v (dC f)) (fun O J r=>BL (S:=S) (oS U r) (hf.cK (kS V r U)) OE) ?_;rintro O SI v6 SX r R Om Z;replace V:=V.tr Om;have Ql:∀g,(Value.slice ax f.cols cx).ownBlock=some g->g<SI.heap.size:=fun g e=>rlo r oF g (hX.new g e);replace hX:=hX.cH (K:=(SI.heap.size,SX.heap.size)::Qg) r oF R fun x G=>aA _ G;replace hK:=fo.cH (K:=(SI.heap.size,SX.heap.size)::Qg) hK r oF R fun x G=>aA _ G;have hL:=eL.cF (S':=Cv S w.heap.size ((SI.heap.size,SX.heap.size)::Qg)) Z fun g F=>F.elim .inl fun h=>.inr ⟨by have:=r.cR;omega,_,_,aI,h.1,h.2⟩;clear r R Om Ql Z;generalize (SI.heap.size,SX.heap.size)::Qg=SY at*
 obtain⟨al,cl,rfl,hcl2,Qo⟩:=eM.shape hL;rw[OL]
 refine⟨Nat×List Value×List (List Value)×World×Iv,fun z=>⟨[(7,sV ax f.cols cx),(9,.o (.v (.slice ak (cS (cQ f) f.cols).length ck))),(10,sV al f.cols cl),(11,pP 2 0),(43,.o (.v (.slice ak (cS (cQ f) f.cols).length ck))),(44,.o (.v (iV (cS (cQ f) f.cols).length))),(12,.o (.w 4 z.2.2.1.length)),(45,iN z.1)],[(2,.box T.dY [.w 3 z.2.1.length,.v (iV (cS (cQ f) f.cols).length)]),(3,.vec T.jQ 1 z.2.1),(4,.vec T.Rat 4 z.2.2.1.flatten)],5,z.2.2.2.2,z.2.2.2.1⟩,fun z=>(cS (cQ f) f.cols).length-z.1,
  fun z=>z.1<=(cS (cQ f) f.cols).length/\Bq w z.2.2.2.1/\eA z.2.2.2.1 FF w.heap.size z.2.2.2.2 (.slice ax f.cols cx) f.cols x0/\cT z.2.2.2.1 (Bs FF w.heap.size z.2.2.2.2 (.slice ax f.cols cx)) (.slice ak (cS (cQ f) f.cols).length ck) (cS (cQ f) f.cols)/\eL z.2.2.2.1 (Cv S w.heap.size z.2.2.2.2) (.slice al f.cols cl) (dC f)/\dg z.2.2.2.1 (Bs FF w.heap.size z.2.2.2.2 (.slice ax f.cols cx)) z.2.1 ((eO (cS (cQ f) f.cols) (dC f)).take z.1)/\ek z.2.2.2.1 (Bs FF w.heap.size z.2.2.2.2 (.slice ax f.cols cx)) z.2.2.1 ((gL (cS (cQ f) f.cols) (dC f) x0).take z.1),?_,?_⟩
 .intro O J A;exact⟨(0,[],[],J,_),⟨aP _,V.tr A.cN,hX.rel A oF,fo.rel hK A oF,by have:=eL.rel hL A U;rw[OL]at this;exact this,by simp[dg],ek.nil⟩,Sub.AM 2 0 T.jQ 1 rfl rfl (by simp[kL,SV.sc,At.sc,fp]) A fun Id r1=>Sub.nil 12 T.Rat 4 rfl (by simp[kL,SV.sc,At.sc,fp]) r1 fun GE r2=>sbgn [] r2⟩
 clear V hX hK hL;rintro⟨i,rv,rc,w7,iv⟩ ⟨D,V,hX,hK,hL,hR,hG⟩;dsimp only at D V hX hK hL hR hG ⊢;have QY:rv.length=i:=by rw[hR.1,aZ,eO,aM];omega
 have hgl:rc.length=i:=by rw[hG.len,aZ,gL,aM];omega
 have hgf:=gW hG.four;apply bS<;>intro Ny
 .have Ny:i<(cS (cQ f) f.cols).length:=by have:=aE Ny;omega
  obtain⟨s,hs⟩:=gO (cS (cQ f) f.cols) i;have RZ:s.length=f.cols:=hKl s (aG hs);have hsr:=hKr s (aG hs);obtain⟨adm1,um,ham1,PD,km1,kn1⟩:=eH.load hK hs;obtain⟨as1,cs1,rfl,-,-⟩:=eM.shape PD;obtain⟨bent,Rs⟩:=exq (fD s (dC f));have SZ:bent.length=f.cols:=by rw[<-Rs,jX,RZ]
  have hbr:∀q∈bent,rl q<=20:=fun q hq=>by
   rw[<-Rs]at hq;obtain⟨t,ht⟩:=aT hq;have Sw:t<s.length:=by have:=(aD.1 ht).1;rw[jX]at this;exact this
   have Y:=mb (a:=s) (b:=dC f) Sw;rw[getD_some ht]at Y;have X:=jy (s.getD t 0) ((dC f).getD t 0);have N:=hsr (s.getD t 0) (by rw[getD_some (aB Sw)];exact a9 _);have h4:=PM.NR (t:=t) be;rw[Y];omega
  refine⟨adm1,ham1,be,.slice as1 s.length cs1,fun O J r=>?_,?_⟩
  .rw[aJ,cO (w:=w7) (I:=J) (by rw[eV];exact rls r oF km1.1)];exact kn1
  refine cD (cM (If:=fun _ J v I=>cP I (Nf J I) v bent) (fun O J r=>(Rs▸Gm (S:=Cv S w.heap.size iv) (rlo r U) (eL.cF (cP.l (eU.cv (eU.rel PD r oF)) fun q hq=>by have:=hsr q hq;omega) fun g F=>KW F) (eL.rel hL r U) (by rw[RZ,OL];exact aN _) be).mono fun _ _ ⟨v2,e1,e2,e3⟩=>⟨v2,e1,e2,cP.cF e3.c fun g F=>F.elim (fun h=>h.elim) fun⟨_,lo,D,X,N,h4⟩=>by
   simp at X;obtain⟨rfl,rfl⟩:=X
   exact .inr ⟨N,h4⟩⟩) ?_)
  rintro O UG v8 Uj r R Om Z;replace V:=V.tr Om;have Ql:∀g,(Value.slice ax f.cols cx).ownBlock=some g->g<UG.heap.size:=fun g e=>rlo r oF g (hX.new g e);replace hX:=hX.cH (K:=(UG.heap.size,Uj.heap.size)::iv) r oF R fun x G=>aA _ G;replace hK:=fo.cH (K:=(UG.heap.size,Uj.heap.size)::iv) hK r oF R fun x G=>aA _ G;replace hL:=eL.cH (K:=(UG.heap.size,Uj.heap.size)::iv) hL r U R fun x G=>aA _ G;replace hR:=mP.cH (K:=(UG.heap.size,Uj.heap.size)::iv) hR r oF R fun x G=>aA _ G;replace hG:=jY.cH (K:=(UG.heap.size,Uj.heap.size)::iv) hG r oF R fun x G=>aA _ G;have hE:=eU.fresh (S:=FF) (v:=(.slice ax f.cols cx)) Z r Ql;clear r R Om Ql Z;generalize (UG.heap.size,Uj.heap.size)::iv=Sj at*
  clear PD;obtain⟨ae,ce,rfl,-,-⟩:=eM.shape hE;rw[SZ]
  refine⟨Nat×List (List Value)×World×Iv,fun z=>⟨[(7,sV ax f.cols cx),(9,.o (.v (.slice ak (cS (cQ f) f.cols).length ck))),(10,sV al f.cols cl),(11,pP 2 0),(43,.o (.v (.slice ak (cS (cQ f) f.cols).length ck))),(44,.o (.v (iV (cS (cQ f) f.cols).length))),(12,.o (.w 4 rc.length)),(45,iN i),(15,sV ae f.cols ce),(52,.o (.v (.slice ak (cS (cQ f) f.cols).length ck))),(53,.o (.v (iV (cS (cQ f) f.cols).length))),(16,.o (.w 5 z.2.1.length)),(54,iN z.1)],[(5,.vec T.Rat 4 z.2.1.flatten),(2,.box T.dY [.w 3 rv.length,.v (iV (cS (cQ f) f.cols).length)]),(3,.vec T.jQ 1 rv),(4,.vec T.Rat 4 rc.flatten)],6,z.2.2.2,z.2.2.1⟩,fun z=>(cS (cQ f) f.cols).length-z.1,
   fun z=>z.1<=(cS (cQ f) f.cols).length/\Bq w z.2.2.1/\(eA z.2.2.1 FF w.heap.size z.2.2.2 (.slice ax f.cols cx) f.cols x0/\cT z.2.2.1 (Bs FF w.heap.size z.2.2.2 (.slice ax f.cols cx)) (.slice ak (cS (cQ f) f.cols).length ck) (cS (cQ f) f.cols)/\eL z.2.2.1 (Cv S w.heap.size z.2.2.2) (.slice al f.cols cl) (dC f)/\dg z.2.2.1 (Bs FF w.heap.size z.2.2.2 (.slice ax f.cols cx)) rv ((eO (cS (cQ f) f.cols) (dC f)).take i)/\ek z.2.2.1 (Bs FF w.heap.size z.2.2.2 (.slice ax f.cols cx)) rc ((gL (cS (cQ f) f.cols) (dC f) x0).take i)/\cP z.2.2.1 (Bs FF w.heap.size z.2.2.2 (.slice ax f.cols cx)) (.slice ae f.cols ce) bent)/\ek z.2.2.1 (Bs FF w.heap.size z.2.2.2 (.slice ax f.cols cx)) z.2.1 (((cS (cQ f) f.cols).map fun r=>fC bent r f.cols).take z.1),?_,?_⟩
  .intro O J A;exact⟨(0,[],J,_),⟨aP _,V.tr A.cN,⟨hX.rel A oF,fo.rel hK A oF,eL.rel hL A U,mP.rel hR A oF,jY.rel hG A oF,by have:=eU.rel hE A oF;rw[SZ]at this;exact this⟩,ek.nil⟩,Sub.nil 16 T.Rat 4 rfl (by simp[kL,SV.sc,At.sc,fp]) A fun GE r2=>sbgn [] r2⟩
  clear V hX hK hL hR hG hE;rintro⟨j,W,w8,iv⟩ ⟨hj,V,⟨hX,hK,hL,hR,hG,hE⟩,hD⟩;dsimp only at hj V hX hK hL hR hG hE hD ⊢;have Rz:W.length=j:=by rw[hD.len,aZ,aM];omega
  have hdf:=gW hD.four;apply bS<;>intro ON
  .have ON:j<(cS (cQ f) f.cols).length:=by have:=aE ON;omega
   obtain⟨t,ht⟩:=gO (cS (cQ f) f.cols) j;have Sw:t.length=f.cols:=hKl t (aG ht);have htr:=hKr t (aG ht);obtain⟨adm2,um2,ham2,PD,km2,kn2⟩:=eH.load hK ht;obtain⟨as2,cs2,rfl,-,-⟩:=eM.shape PD;refine⟨adm2,ham2,be,.slice as2 t.length cs2,fun O J r=>?_,?_⟩
   .rw[aJ,cO (w:=w8) (I:=J) (by rw[eV];exact rls r oF km2.1)];exact kn2
   refine cD (cM (If:=fun _ J v I=>cY I (Nf J I) v (fC bent t f.cols)) (fun O J r=>SZ▸JX (S:=Cf w iv) (h:=21) (rlo r oF) (cP.l (by have:=eU.cv (eU.rel hE r oF);rw[<-SZ]at this;exact this) fun q hq=>by have:=hbr q hq;omega) (cP.l (eU.cv (eU.rel PD r oF)) fun q hq=>by have:=htr q hq;omega) be (fun q hq=>by have:=hbr q hq;omega) (fun q hq=>by have:=htr q hq;omega) bi be) ?_);rintro O RV v9 R8 r R Om Z;replace V:=V.tr Om;have Ql:∀g,(Value.slice ax f.cols cx).ownBlock=some g->g<RV.heap.size:=fun g e=>rlo r oF g (hX.new g e);replace hX:=hX.cH (K:=(RV.heap.size,R8.heap.size)::iv) r oF R fun x G=>aA _ G;replace hK:=fo.cH (K:=(RV.heap.size,R8.heap.size)::iv) hK r oF R fun x G=>aA _ G;replace hL:=eL.cH (K:=(RV.heap.size,R8.heap.size)::iv) hL r U R fun x G=>aA _ G;replace hR:=mP.cH (K:=(RV.heap.size,R8.heap.size)::iv) hR r oF R fun x G=>aA _ G;replace hG:=jY.cH (K:=(RV.heap.size,R8.heap.size)::iv) hG r oF R fun x G=>aA _ G;replace hE:=eU.cH (K:=(RV.heap.size,R8.heap.size)::iv) hE r oF R fun x G=>aA _ G;replace hD:=jY.cH (K:=(RV.heap.size,R8.heap.size)::iv) hD r oF R fun x G=>aA _ G;have hd:=lG.fresh (S:=FF) (v:=(.slice ax f.cols cx)) Z r Ql;clear r R Om Ql Z;generalize (RV.heap.size,R8.heap.size)::iv=Sh at*
   obtain⟨C0,C1,C2,C3,C4,C5,C6,C7,rfl⟩:=hd.shape;clear PD;have hD2:=hD.push (L:=rC C0 C1 C2 C3 C4 C5 C6 C7) (q:=fC bent t f.cols) ⟨_,_,_,_,_,_,_,_,rfl,hd⟩ rfl;rw[show (((cS (cQ f) f.cols).map fun r=>fC bent r f.cols).take j)++[fC bent t f.cols]=((cS (cQ f) f.cols).map fun r=>fC bent r f.cols).take (j+1) by rw[aY,aO,ht];rfl]at hD2;have OV:W.flatten++(rC C0 C1 C2 C3 C4 C5 C6 C7:List Value)=(W++([rC C0 C1 C2 C3 C4 C5 C6 C7]:List (List Value))).flatten:=by simp
   refine .inl ?_;refine⟨be,be,mx,((j+1:Nat):Int),wo,?_⟩;intro IR w6 A;exact⟨(j+1,W++[rC C0 C1 C2 C3 C4 C5 C6 C7],w6,_),⟨ON,V.tr A.cN,⟨hX.rel A oF,fo.rel hK A oF,eL.rel hL A U,mP.rel hR A oF,jY.rel hG A oF,eU.rel hE A oF⟩,jY.rel hD2 A oF⟩,sbgn [(5,7)] A ⟨by dsimp only;rw[<-OV];rfl,rfl,rfl,rfl,trivial⟩ ⟨rfl,rfl,rfl,rfl,rfl,rfl,rfl,rfl,rfl,rfl,rfl,by dsimp only;rw[l1];rfl,rfl,trivial⟩,dec ON⟩
  have ON:j=(cS (cQ f) f.cols).length:=by have:=aC ON;omega
  rw[ON,bF (by rw[aM];exact aN _)]at hD;have OD:(eO (cS (cQ f) f.cols) (dC f)).take i++[((cS (cQ f) f.cols).map fun r=>fC bent r f.cols)]=(eO (cS (cQ f) f.cols) (dC f)).take (i+1):=by
   rw[aY,eO,aO,hs,<-Rs,<-RZ];rfl
  have hrgt:(gL (cS (cQ f) f.cols) (dC f) x0).take i++[-(fC bent x0 f.cols)]=(gL (cS (cQ f) f.cols) (dC f) x0).take (i+1):=by
   rw[aY,gL,aO,hs,<-Rs,<-RZ];rfl
  refine Ed hτ (id3:=6) (id2:=5) (tH:=[(2,.box T.dY [.w 3 rv.length,.v (iV (cS (cQ f) f.cols).length)]),(3,.vec T.jQ 1 rv),(4,.vec T.Rat 4 rc.flatten)]) rfl rfl rfl rfl bv ⟨rfl,rfl,rfl,trivial⟩ rfl rfl (fun O J r r2 Ug=>?_);have PI:∀g,(Value.slice ax f.cols cx).ownBlock=some g->∀id b,cw [(6,.box T.jQ [.w 5 W.length]),(5,.vec T.Rat 4 W.flatten),(2,.box T.dY [.w 3 rv.length,.v (iV (cS (cQ f) f.cols).length)]),(3,.vec T.jQ 1 rv),(4,.vec T.Rat 4 rc.flatten)] id=some b->(O id).nil=false->(O id).g≠g:=fun g e id b Y X=>Rel.not r oF (hX.new g e) id b Y X;have hlo3:=r.low 6 _ rfl (r.fits (id:=6) rfl).1;have hB3:Bs FF w.heap.size (((O 6).g,(O 6).g+1)::qZ (O 5) iv) (.slice ax f.cols cx) (O 6).g:=⟨.inr ⟨hlo3.1,_,_,aI,lr,cB _⟩,fun e=>PI _ e 6 _ rfl (r.fits (id:=6) rfl).1 rfl⟩
  have Qc:∀p,p∈iv->p∈((O 6).g,(O 6).g+1)::qZ (O 5) iv:=fun p hp=>aA _ (HL p hp);have VJ:=ek.list ((jY.rel hD r oF).cF fun g F=>Bs.mono Qc F) (r.CU (T:=Bs FF w.heap.size (((O 6).g,(O 6).g+1)::qZ (O 5) iv) (.slice ax f.cols cx)) (id:=5) (sz:=4) (m:=W.length) rfl hdf mx bi hD.one fun Z=>⟨.inr ⟨(r.low 5 _ rfl Z).1,_,_,aA _ (IS Z),lr,cB _⟩,fun e=>PI _ e 5 _ rfl Z rfl⟩);have Qd:((At.w 5 W.length).den O).oneCell'=true:=At.NG;have PA:=V.tr r.cN;replace hX:eA J FF w.heap.size (((O 6).g,(O 6).g+1)::qZ (O 5) iv) (.slice ax f.cols cx) f.cols x0:=by
   have Y:=hX.rel r oF;exact⟨Y.row.cF fun g F=>⟨F.1.mono Qc,F.2⟩,fun g F=>(Y.new g F).mono Qc⟩
  replace hK:=cT.cF (fo.rel hK r oF) fun g F=>Bs.mono Qc F;replace hL:=eL.cF (eL.rel hL r U) fun g F=>F.mono Qc;replace hR:=dg.cF (mP.rel hR r oF) fun g F=>Bs.mono Qc F;replace hG:=ek.cF (jY.rel hG r oF) fun g F=>Bs.mono Qc F;replace hE:=cP.cF (eU.rel hE r oF) fun g F=>Bs.mono Qc F;clear r2 hlo3 hD PI V;generalize (At.w 5 W.length).den O=ur at*
  generalize (O 6).g=gy at*
  generalize (gy,gy+1)::qZ (O 5) iv=ivg at*
  clear r;refine⟨[ur],rfl,by simpa using Qd,fun GE I r2 _=>⟨_,rfl,fun j u hu=>?_⟩,?_⟩
  .have h5:=rls r2 (iH _) hB3.1;rw[dS,cell_of (h5.trans Ug)];rcases j with _|j
   .exact hu
   .cases hu
  refine⟨bv,be,mx,?_⟩;have QZ:=hR.push Qd VJ;rw[OD]at QZ;clear VJ hR Ug hB3;rename_i wg _;have V:=PA;clear PA;refine cD (cM (If:=fun _ J v I=>cY I (Nf J I) v (fC bent x0 f.cols)) (fun O J r=>SZ▸JX (S:=Cf w ivg) (h:=30) (rlo r oF) (cP.l (by have:=eU.cv (eU.rel hE r oF);rw[<-SZ]at this;exact this) fun q hq=>by have:=hbr q hq;omega) (cP.l (by have:=(hX.rel r oF).c;rw[<-SZ]at this;exact this) fun q hq=>by have:=Ui q hq;omega) be (fun q hq=>by have:=hbr q hq;omega) (fun q hq=>by have:=Ui q hq;omega) bi be) ?_);rintro O QK v11 QV r R Om Z;replace V:=V.tr Om;have Ql:∀g,(Value.slice ax f.cols cx).ownBlock=some g->g<QK.heap.size:=fun g e=>rlo r oF g (hX.new g e);replace hX:=hX.cH (K:=(QK.heap.size,QV.heap.size)::ivg) r oF R fun x G=>aA _ G;replace hK:=fo.cH (K:=(QK.heap.size,QV.heap.size)::ivg) hK r oF R fun x G=>aA _ G;replace hL:=eL.cH (K:=(QK.heap.size,QV.heap.size)::ivg) hL r U R fun x G=>aA _ G;replace QZ:=mP.cH (K:=(QK.heap.size,QV.heap.size)::ivg) QZ r oF R fun x G=>aA _ G;replace hG:=jY.cH (K:=(QK.heap.size,QV.heap.size)::ivg) hG r oF R fun x G=>aA _ G;replace hE:=eU.cH (K:=(QK.heap.size,QV.heap.size)::ivg) hE r oF R fun x G=>aA _ G;have hd:=lG.fresh (S:=FF) (v:=(.slice ax f.cols cx)) Z r Ql;clear r R Om Ql Z;generalize (QK.heap.size,QV.heap.size)::ivg=PQ at*
  obtain⟨E0,E1,E2,E3,E4,E5,E6,E7,rfl⟩:=hd.shape;have hdr:=zN (h:=30) (xs:=bent) (ys:=x0) (fun q hq=>by have:=hbr q hq;omega) (fun q hq=>by have:=Ui q hq;omega) bi f.cols;refine cD (cM (If:=fun _ J v I=>cY I (Nf J I) v (-(fC bent x0 f.cols))) (fun O J r=>JV (S:=Cf w PQ) (rlo r oF) (cY.l (lG.cv (lG.rel hd r oF)) be)) ?_);rintro O RC v12 RL r R Om Z;replace V:=V.tr Om;have Ql:∀g,(Value.slice ax f.cols cx).ownBlock=some g->g<RC.heap.size:=fun g e=>rlo r oF g (hX.new g e);replace hX:=hX.cH (K:=(RC.heap.size,RL.heap.size)::PQ) r oF R fun x G=>aA _ G;replace hK:=fo.cH (K:=(RC.heap.size,RL.heap.size)::PQ) hK r oF R fun x G=>aA _ G;replace hL:=eL.cH (K:=(RC.heap.size,RL.heap.size)::PQ) hL r U R fun x G=>aA _ G;replace QZ:=mP.cH (K:=(RC.heap.size,RL.heap.size)::PQ) QZ r oF R fun x G=>aA _ G;replace hG:=jY.cH (K:=(RC.heap.size,RL.heap.size)::PQ) hG r oF R fun x G=>aA _ G;replace hE:=eU.cH (K:=(RC.heap.size,RL.heap.size)::PQ) hE r oF R fun x G=>aA _ G;clear hd;have Ot:=lG.fresh (S:=FF) (v:=(.slice ax f.cols cx)) Z r Ql;clear r R Om Ql Z;generalize (RC.heap.size,RL.heap.size)::PQ=RM at*
  obtain⟨F0,F1,F2,F3,F4,F5,F6,F7,rfl⟩:=Ot.shape;have PF:=hG.push (L:=rC F0 F1 F2 F3 F4 F5 F6 F7) (q:= -(fC bent x0 f.cols)) ⟨_,_,_,_,_,_,_,_,rfl,Ot⟩ rfl;rw[hrgt]at PF;have OV:rc.flatten++(rC F0 F1 F2 F3 F4 F5 F6 F7:List Value)=(rc++([rC F0 F1 F2 F3 F4 F5 F6 F7]:List (List Value))).flatten:=by simp
  refine .inl ?_;refine⟨be,be,mx,((i+1:Nat):Int),wo,?_⟩;intro IR w6 A;exact⟨(i+1,rv++[ur],rc++[rC F0 F1 F2 F3 F4 F5 F6 F7],w6,_),⟨Ny,V.tr A.cN,hX.rel A oF,fo.rel hK A oF,eL.rel hL A U,mP.rel QZ A oF,jY.rel PF A oF⟩,sbgn [(3,7),(4,9)] A ⟨by dsimp only;rw[l1];rfl,rfl,by dsimp only;rw[<-OV];rfl,trivial⟩ ⟨rfl,rfl,rfl,rfl,rfl,rfl,by dsimp only;rw[l1];rfl,rfl,trivial⟩,dec Ny⟩
 have Ny:i=(cS (cQ f) f.cols).length:=by have:=aC Ny;omega
 rw[Ny,bF (by rw[eO,aM];exact aN _)]at hR;rw[Ny,bF (by rw[gL,aM];exact aN _)]at hG;have SP:rv.length=(eO (cS (cQ f) f.cols) (dC f)).length:=hR.1
 refine cD (cM (If:=fun _ J v I=>∃vc,v= .tuple #[vc,.bool true]/\eA I (Bs FF w.heap.size iv (.slice ax f.cols cx)) J.heap.size [(J.heap.size,I.heap.size)] vc (cS (cQ f) f.cols).length c) (fun O J r=>(BH (C:=(fun g=>g<J.heap.size)) (FS:=(fun g=>g<J.heap.size)) (S:=Bs FF w.heap.size iv (.slice ax f.cols cx)) (M:=eO (cS (cQ f) f.cols) (dC f)) (b:=gL (cS (cQ f) f.cols) (dC f) x0) (cols:=(cS (cQ f) f.cols).length) (h:=1930) (fun g F=>F) (fun g F=>F) (fun g F=>rlo r oF g F.1) ⟨rv,by rw[<-SP];exact r.CU (T:=(fun g=>g<J.heap.size)) (id:=3) (sz:=1) (m:=rv.length) rfl bv mx bi hR.2.1 fun Z=>(r.low 3 _ rfl Z).2,hR.1,fun a u x Y X=>eU.rel (hR.2.2 a u x Y X) r oF⟩ ⟨rc,by rw[<-hG.len];exact r.CU (T:=(fun g=>g<J.heap.size)) (id:=4) (sz:=4) (m:=rc.length) rfl hgf mx bi hG.one fun Z=>(r.low 4 _ rfl Z).2,hG.len,fun a L x Y X=>(jY.rel hG r oF).at_ a L x Y X⟩ (by rw[gL,eO,aM,aM]) hSl be (by rw[eO,aM];omega) hredB bi).mono fun _ _ ⟨v2,e1,e2,e3⟩=>⟨v2,e1,e2,by
  rcases e3 with⟨Y,_⟩|⟨x2,vx,Y,X,N⟩
  .rw[QJ]at Y;cases Y
  .rw[QJ]at Y;injection Y with Y;subst Y;exact⟨vx,X,N⟩⟩) ?_)
 rintro O Tl v13 Uk r R Om ⟨vc,rfl,Z⟩;replace V:=V.tr Om;have Ql:∀g,(Value.slice ax f.cols cx).ownBlock=some g->g<Tl.heap.size:=fun g e=>rlo r oF g (hX.new g e);replace hX:=hX.cH (K:=(Tl.heap.size,Uk.heap.size)::iv) r oF R fun x G=>aA _ G;replace hK:=fo.cH (K:=(Tl.heap.size,Uk.heap.size)::iv) hK r oF R fun x G=>aA _ G;have hC:=cP.cF Z.c fun g F=>Bs.solved r Ql (fun _ h=>h) F;clear r R Om Ql;generalize (Tl.heap.size,Uk.heap.size)::iv=Tm at*
 clear Z hR hG hL;obtain⟨ac,cc,rfl,-,-⟩:=eM.shape hC;rw[OR]
 refine⟨Nat×World×Iv,fun z=>⟨[(7,sV ax f.cols cx),(19,.o (.v (.slice ac (cS (cQ f) f.cols).length cc))),(87,.o (.v (.slice ak (cS (cQ f) f.cols).length ck))),(88,.o (.v (iV (cS (cQ f) f.cols).length))),(89,iN z.1)],[],0,z.2.2,z.2.1⟩,fun z=>(cS (cQ f) f.cols).length-z.1,
  fun z=>z.1<=(cS (cQ f) f.cols).length/\Bq w z.2.1/\eA z.2.1 FF w.heap.size z.2.2 (.slice ax f.cols cx) f.cols (kf (cS (cQ f) f.cols) c x0 z.1)/\cT z.2.1 (Bs FF w.heap.size z.2.2 (.slice ax f.cols cx)) (.slice ak (cS (cQ f) f.cols).length ck) (cS (cQ f) f.cols)/\cP z.2.1 (Bs FF w.heap.size z.2.2 (.slice ax f.cols cx)) (.slice ac (cS (cQ f) f.cols).length cc) c,?_,?_⟩
 .intro O J A;exact⟨(0,J,_),⟨aP _,V.tr A.cN,hX.rel A oF,fo.rel hK A oF,by have:=eU.rel hC A oF;rw[OR]at this;exact this⟩,sbgn [] A⟩
 clear V hX hK hC;rintro⟨i,w13,iv⟩ ⟨D,V,hX,hK,hC⟩;dsimp only at D V hX hK hC ⊢;apply bS<;>intro Ny
 .have Ny:i<(cS (cQ f) f.cols).length:=by have:=aE Ny;omega
  obtain⟨s,hs⟩:=gO (cS (cQ f) f.cols) i;have RZ:s.length=f.cols:=hKl s (aG hs);have hsr:=hKr s (aG hs);obtain⟨ci,hci⟩:=gO c i;have hcir:=SC ci (aG hci);obtain⟨y0,PL⟩:=exq (kf (cS (cQ f) f.cols) c x0 i);have hy0l:y0.length=f.cols:=by rw[<-PL,qN,hx0l]
  have hy0r:∀q∈y0,rl q<=75000:=fun q hq=>by
   rw[<-PL]at hq;have Y:=EF (a:=26) (b:=1927) Ui (fun r hr q hq=>by have:=hKr r hr q hq;omega) SC i q hq;have X:i*(2*1927+5)<=18*(2*1927+5):=Nat.mul_le_mul_right _ be;omega
  have hnextA:kf (cS (cQ f) f.cols) c x0 (i+1)=y0.mapIdx fun k q=>q+ci*s.getD k 0:=by rw[kf,PL,getD_some hci,getD_some (d:=[]) hs]
  rw[PL]at hX;obtain⟨adm3,um,ham3,PD,km3,kn3⟩:=eH.load hK hs;obtain⟨as3,cs3,rfl,-,-⟩:=eM.shape PD;refine⟨adm3,ham3,be,.slice as3 s.length cs3,fun O J r=>?_,?_⟩
  .rw[aJ,cO (w:=w13) (I:=J) (by rw[eV];exact rls r oF km3.1)];exact kn3
  rw[RZ]
  refine⟨Nat×World×Iv,fun z=>⟨[(7,sV ax f.cols cx),(19,.o (.v (.slice ac (cS (cQ f) f.cols).length cc))),(87,.o (.v (.slice ak (cS (cQ f) f.cols).length ck))),(88,.o (.v (iV (cS (cQ f) f.cols).length))),(89,iN i),(20,iN i),(94,sV as3 f.cols cs3),(95,iZ f.cols),(96,iN z.1)],[],0,z.2.2,z.2.1⟩,fun z=>f.cols-z.1,
   fun z=>z.1<=f.cols/\Bq w z.2.1/\eA z.2.1 FF w.heap.size z.2.2 (.slice ax f.cols cx) f.cols ((g9 z.1 (fun k q=>q+ci*s.getD k 0) y0))/\cT z.2.1 (Bs FF w.heap.size z.2.2 (.slice ax f.cols cx)) (.slice ak (cS (cQ f) f.cols).length ck) (cS (cQ f) f.cols)/\cP z.2.1 (Bs FF w.heap.size z.2.2 (.slice ax f.cols cx)) (.slice ac (cS (cQ f) f.cols).length cc) c/\cP z.2.1 (Bs FF w.heap.size z.2.2 (.slice ax f.cols cx)) (.slice as3 f.cols cs3) s,?_,?_⟩
  .intro O J A;exact⟨(0,J,_),⟨aP _,V.tr A.cN,by dsimp only;rw[sA];exact hX.rel A oF,fo.rel hK A oF,eU.rel hC A oF,by have:=eU.rel PD A oF;rw[RZ]at this;exact this⟩,sbgn [] A⟩
  clear V hX hK hC PD;rintro⟨k,w14,iv⟩ ⟨E,V,hX,hK,hC,PD⟩;dsimp only at E V hX hK hC PD ⊢;apply bS<;>intro OA
  .have OA:=dL OA;obtain⟨gx,rfl⟩:=hX.at be;obtain⟨q,hq⟩:=gO s k;obtain⟨y,hy⟩:=gO y0 k;have hyu:=zP (f:=fun k q=>q+ci*s.getD k 0) hy;have hqr:=hsr q (aG hq);have hyr:=hy0r y (aG hy);obtain⟨adq,csq,Ud,hFq,_,hlq⟩:=eM.load PD hq;obtain⟨q0,q1,q2,q3,q4,q5,q6,q7,rfl,hFq⟩:=hFq;obtain⟨ady,csy,RF,SQ,_,PS⟩:=eM.load hX.c hyu;obtain⟨y0',y1,y2,y3,y4,y5,y6,y7,rfl,SQ⟩:=SQ;obtain⟨adc,csc,VI,hFc,_,SN⟩:=eM.load hC hci;obtain⟨c0,c1,c2,c3,c4,c5,c6,c7,rfl,hFc⟩:=hFc;refine⟨adq,Ud,be,rC q0 q1 q2 q3 q4 q5 q6 q7,rfl,fun O J r j u hu=>?_,?_⟩
   .obtain⟨k1,k2⟩:=hlq j u hu;rw[aJ,cO (w:=w14) (I:=J) (by rw[eV,eV];exact rls r oF k1.1)];exact k2
   refine dP (idO 15) ?_;refine⟨ady,RF,be,rC y0' y1 y2 y3 y4 y5 y6 y7,rfl,fun O J r j u hu=>?_,?_⟩
   .obtain⟨k1,k2⟩:=PS j u hu;rw[aJ,cO (w:=w14) (I:=J) (by rw[eV,eV];exact rls r oF k1)];exact k2
   refine⟨adc,VI,be,rC c0 c1 c2 c3 c4 c5 c6 c7,rfl,fun O J r j u hu=>?_,?_⟩
   .obtain⟨k1,k2⟩:=SN j u hu;rw[aJ,cO (w:=w14) (I:=J) (by rw[eV,eV];exact rls r oF k1.1)];exact k2
   refine cM (If:=fun _ J v I=>cY I (Nf J I) v (ci*q)) (fun O J r=>zO (S:=Cf w iv) (rlo r oF) ((cY.l (lG.cv (lG.rel hFc r oF)) be).v) ((cY.l (lG.cv (lG.rel hFq r oF)) be).v)) ?_;rintro O S1 v15 Sy r R Om Z;replace V:=V.tr Om;have Ql:∀g,(Value.slice (some ⟨gx,0,none⟩) f.cols cx).ownBlock=some g->g<S1.heap.size:=fun g e=>rlo r oF g (hX.new g e);replace hX:=hX.cH (K:=(S1.heap.size,Sy.heap.size)::iv) r oF R fun x G=>aA _ G;replace hK:=fo.cH (K:=(S1.heap.size,Sy.heap.size)::iv) hK r oF R fun x G=>aA _ G;replace hC:=eU.cH (K:=(S1.heap.size,Sy.heap.size)::iv) hC r oF R fun x G=>aA _ G;replace PD:=eU.cH (K:=(S1.heap.size,Sy.heap.size)::iv) PD r oF R fun x G=>aA _ G;replace SQ:=cY.cH (K:=(S1.heap.size,Sy.heap.size)::iv) SQ r oF R fun x G=>aA _ G;have hm:=lG.fresh (S:=FF) (v:=(.slice (some ⟨gx,0,none⟩) f.cols cx)) Z r Ql;clear r R Om Ql Z;generalize (S1.heap.size,Sy.heap.size)::iv=Sz at*
   obtain⟨G0,G1,G2,G3,G4,G5,G6,G7,rfl⟩:=hm.shape;refine cM (If:=fun _ J v I=>cY I (Nf J I) v (y+ci*q)) (fun O J r=>JY (S:=Cf w Sz) (rlo r oF) ((cY.l (cY.rel SQ r oF) be).v) ((cY.l (lG.cv (lG.rel hm r oF)) (by have:=jy ci q;omega)).v)) ?_;rintro O TA v16 Tn r R Om Z;replace V:=V.tr Om;have Ql:∀g,(Value.slice (some ⟨gx,0,none⟩) f.cols cx).ownBlock=some g->g<TA.heap.size:=fun g e=>rlo r oF g (hX.new g e);replace hX:=hX.cH (K:=(TA.heap.size,Tn.heap.size)::Sz) r oF R fun x G=>aA _ G;replace hK:=fo.cH (K:=(TA.heap.size,Tn.heap.size)::Sz) hK r oF R fun x G=>aA _ G;replace hC:=eU.cH (K:=(TA.heap.size,Tn.heap.size)::Sz) hC r oF R fun x G=>aA _ G;replace PD:=eU.cH (K:=(TA.heap.size,Tn.heap.size)::Sz) PD r oF R fun x G=>aA _ G;clear SQ;clear hm;have hd:=lG.fresh (S:=FF) (v:=(.slice (some ⟨gx,0,none⟩) f.cols cx)) Z r Ql;clear r R Om Ql Z;generalize (TA.heap.size,Tn.heap.size)::Sz=iv16 at*
   obtain⟨J0,J1,J2,J3,J4,J5,J6,J7,rfl⟩:=hd.shape;refine⟨⟨gx,0,none⟩,rfl,be,?_⟩;intro O J r;obtain⟨g,F,Y,X,N,h4,h5⟩:=(hX.rel r oF).store (j:=k) OA (hd.cK (Bs.same r oF)) r oF;injection F with F;injection F with F;subst F;refine⟨Y,X,N,fun w5 Qy=>?_⟩;obtain⟨k1,k2,k3⟩:=h5 w5 Qy;have PA:Bq w w5:=(V.tr r.cN).tr (jv.grown k2 (fun g e=>by injection e with e;subst e;exact h4.elim (fun h=>h.elim) fun h=>h.1) r.cR);have Qz:=fo.kept hK r oF k2;have Uz:=eU.kept hC r oF k2;have QZ:=eU.kept PD r oF k2;have OP:(g9 k (fun k q=>q+ci*s.getD k 0) y0).set k (y+ci*q)=(g9 (k+1) (fun k q=>q+ci*s.getD k 0) y0):=by rw[<-nk hy,getD_some hq]
   rw[OP]at k1;clear hX hK hC PD V Y X N h4 h5 Qy k2 k3 r hd;refine inc k ?_;intro IR w6 A;exact⟨(k+1,w6,_),⟨OA,PA.tr A.cN,k1.rel A oF,fo.rel Qz A oF,eU.rel Uz A oF,eU.rel QZ A oF⟩,sbgn [] A,dec OA⟩
  have OA:k=f.cols:=by have:=aC OA;omega
  rw[OA,<-hy0l,uu,<-hnextA,hy0l]at hX;refine inc i ?_;intro IR w6 A;exact⟨(i+1,w6,_),⟨Ny,V.tr A.cN,hX.rel A oF,fo.rel hK A oF,eU.rel hC A oF⟩,sbgn [] A,dec Ny⟩
 have Ny:i=(cS (cQ f) f.cols).length:=by have:=aC Ny;omega
 rw[Ny]at hX;exact rtn V fun GT we re=>.inr ⟨_,_,hfrc,rfl,cP.out hX.c re oF⟩
end
variable{l:List Ld}{S:Nat->Prop}{f:fc}
theorem Fh(OE:zT f.nodes.length l):Bl (dV (j0 f l) (-1)):=fun t=>by
 rcases aR t (dV (j0 f l) (-1)).length with h|h
 .have X:t<(j0 f l).length:=by rw[dV,aM]at h;exact h
  have N:(j0 f l)[t]∈j0 f l:=a9 X;rw[getD_some (show (dV (j0 f l) (-1))[t]? =some ((j0 f l)[t]* -1) by rw[dV,aO,aB X];rfl)];obtain⟨z,hz,OQ⟩:=aV.1 N;have hb:=BS OE l.length lr z hz;have hl:=OE.len;rw[<-OQ,show(z:Rat)* -1=((-z:Int):Rat) by rw[Rat.intCast_neg];grind];exact Ib.int be
 .rw[iw h];exact Ib.zero _
abbrev Js(f:fc):Nat->Rat:=fun t=>(dC f).getD t 0
theorem Fi{w:World}{vn vb vs vl:Value}(U:Old S w)(hf:dq w S vn vb vs f)(hl:cU w S vl l)(UF:eJ f=0->vT f):
  eC PG Fn.pD #[.agg #[vn,vb,vs],vl] w (eI w fun v' I=>(kH f l≠0/\v'= .tuple #[nls,iV (kH f l)])\/(kH f l=0/\((fu (cQ f) (dV (j0 f l) (-1)) f.cols=none/\v'= .tuple #[nls,iV 17])\/∃x vx,kj (cQ f) f.cols (Js f) (dV (j0 f l) (-1)) x/\v'= .tuple #[vx,iV 0]/\cP I (Nf w I) vx x))):=by
 have V:=bR w;obtain⟨an,cn,ab,cb,aq,cq,rfl,rfl,rfl,RH,Rh,Si⟩:=hf.shape;obtain⟨al,cl,rfl,OR,Qo⟩:=hl.shape;obtain⟨e0,EE⟩:=exq (kH f l);refine tQ bv ?_;refine cD (cE V (pE (iV e0)) (fun O J r=>(ph (oS U r) (hf.cK (kS V r U)) (hl.cK (kS V r U))).mono fun _ _ ⟨v2,e1,e2,e3⟩=>⟨v2,e1,e2,by rw[e3,EE]⟩) ?_);rintro O _ _ _ OK r R V h_ rfl;apply bS<;>intro R
 .have R:e0≠0:=by simpa using R
  exact rtn V fun GT we re=>.inl ⟨by rw[EE];exact R,by rw[EE];rfl⟩
 have R:e0=0:=by simpa using R
 have RG:kH f l=0:=by rw[EE,R]
 obtain⟨Q5,RE⟩:=ns RG;have PM:=UF Q5;have Qs:=PM.toFrS;have RE:=xU RE;have hc18:=Qs.Ko;have hr12:=Qs.La;have UA:=kk f;have hlen:=gi f;have hn4:=Qs.n4;have OE:=so Q5;have VK:=wH f l;have Sv:f.cols=f.bars.length+f.cV.length:=rfl;refine dP (idO 10) ?_;refine cE V (fun _ J v I=>cP I (Nf J I) v (j0 f l)/\∀q∈j0 f l,rl q<=1) (fun O J r=>(BK (oS U r) (hl.cK (kS V r U)) Qs.n RE rfl rfl).mono fun _ _ ⟨v2,e1,e2,e3,e4⟩=>⟨v2,e1,e2,cP.cF e3.c fun g F=>F.new,e4⟩) ?_;rintro O _ _ _ OH r R V h_ ⟨Z,hvq⟩;have hP:=cP.cF Z (nw r h_);obtain⟨ap,cp,rfl,-,-⟩:=eM.shape hP;rw[VK];refine cM (If:=fun _ J v I=>(fu (cQ f) (dV (j0 f l) (-1)) f.cols=none/\v= .tuple #[nls,.bool false])\/∃x vx,kj (cQ f) f.cols (Js f) (dV (j0 f l) (-1)) x/\v= .tuple #[vx,.bool true]/\cP I (Nf J I) vx x) (fun O J r=>BT (S:=fun g=>S g\/Cf w OH g) (fun g F=>F.elim (oS U r g) (rlo r oF g)) (dq.cF (hf.cK (kS V r U)) fun g F=>.inl F) Q5 PM (cP.cF (by have:=cP.rel hP r oF;rw[VK]at this;exact this) fun g F=>.inr F) VK (fun q hq=>by have:=hvq q hq;omega) (Fh RE)) ?_;rintro O Pm v3 Pg r R hb (⟨Qm,rfl⟩|⟨x,vx,G,rfl,Z⟩)
 .replace V:=V.tr hb;exact rtn V fun GT we re=>.inr ⟨RG,.inl ⟨Qm,rfl⟩⟩
 replace V:=V.tr hb;have hX:=cP.iR (S:=FF) Z r.cR (iv:=(Pm.heap.size,Pg.heap.size)::OH) aI;generalize (Pm.heap.size,Pg.heap.size)::OH=ivx at*
 obtain⟨ax,cx,rfl,-,-⟩:=eM.shape hX;exact rtn V fun GT we re=>.inr ⟨RG,.inr ⟨x,_,G,rfl,cP.out hX re oF⟩⟩
theorem M9(h:eJ f≠0\/f.nodes.length<=4/\f.bars.length<=6)(hb:∀b∈f.bars,rl b.2.2<=3)(hs:∀b∈f.cV,rl b.2.2<=3)(h0:eJ f=0):vT f:=
 ⟨M8 h h0,fun q hq=>by
  rcases bV.1 hq with h|h
  .obtain⟨b,QP,rfl⟩:=aV.1 h;exact hb b QP
  .obtain⟨b,QP,rfl⟩:=aV.1 h;exact hs b QP⟩
end Go.Ex
namespace Go.Ex
section
variable{f:fc}{b y s z:List Rat}{c:Rat}
end
end Go.Ex
namespace Go.Ex
open Go Go.Sx Go.Proofs
variable{x:List Rat}
theorem Jt{f:fc}(h:vT f){h0:Nat}(G:x.length<=f.cols)(hq:∀q∈x,rl q<=h0):∀q∈fD x (dC f),rl q<=h0+3:=fun q Pq=>by
 obtain⟨t,ht⟩:=aT Pq;have Sw:t<x.length:=by have:=(aD.1 ht).1;rw[jX]at this;exact this
 have Y:=mb (a:=x) (b:=dC f) Sw;rw[getD_some ht]at Y;have X:=jy (x.getD t 0) ((dC f).getD t 0);have N:=hq (x.getD t 0) (by rw[getD_some (aB Sw)];exact a9 _);have h4:=h.NR (t:=t) be;rw[Y];omega
end Go.Ex
