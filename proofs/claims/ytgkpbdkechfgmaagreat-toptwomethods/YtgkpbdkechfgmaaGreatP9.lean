/- Texts L18 to X179: lemmas, each with its conditions. -/
import Derived.Test.YtgkpbdkechfgmaaGreatP8
namespace Go.Ex
abbrev Mx:=Nat->Nat->Rat
def skip(k j:Nat):Nat:=if j<k then j else j+1
def sf(k:Nat):Rat:=if k % 2=1 then -1 else 1
def cw(f:Nat->Rat):Nat->Rat
 |0=>0
 |n+1=>cw f n+f n
def gA:Nat->Mx->Rat
 |0,_=>1
 |n+1,m=>cw (fun k=>sf k*(m 0 k*gA n fun i j=>m (i+1) (skip k j))) (n+1)
theorem cP{f g:Nat->Rat}:∀{n:Nat},(∀k,k<n->f k=g k)->cw f n=cw g n
 |0,_=>rfl
 |n+1,h=>by rw[cw,cw,cP fun k D=>h k (by omega),h n (by omega)]
theorem dc:∀(n:Nat),cw (fun _=>0) n=0
 |0=>rfl
 |n+1=>by rw[cw,dc n,bU]
theorem gP(f g:Nat->Rat):∀(n:Nat),cw (fun k=>f k+g k) n=cw f n+cw g n
 |0=>(bU 0).symm
 |n+1=>by rw[cw,cw,cw,gP f g n];grind
theorem ek(p:Rat)(f:Nat->Rat):∀(n:Nat),cw (fun k=>p*f k) n=p*cw f n
 |0=>(ah p).symm
 |n+1=>by rw[cw,cw,ek p f n];grind
theorem lY(f:Nat->Rat)(n:Nat):cw (fun k=> -f k) n= -cw f n:=by
 have h:=ek (-1) f n;rw[show (-1:Rat)*cw f n= -cw f n by grind]at h;rw[<-h];exact cP fun k _=>by grind
theorem z6(f:Nat->Rat):∀(n:Nat),cw f (n+1)=f 0+cw (fun k=>f (k+1)) n
 |0=>by show 0+f 0=f 0+0;grind
 |n+1=>by rw[cw,z6 f n,cw];grind
theorem IQ{k j n:Nat}(h:j<n):skip k j<n+1:=by unfold skip;split<;>omega
theorem Jf{k l:Nat}(h:k<=l)(j:Nat):skip k (skip l j)=skip (l+1) (skip k j):=by
 unfold skip;grind
theorem jJ:∀{n:Nat} {m m':Mx},(∀i j,i<n->j<n->m i j=m' i j)->gA n m=gA n m'
 |0,_,_,_=>rfl
 |n+1,m,m',h=>by
  unfold gA;refine cP fun k D=>?_;rw[h 0 k (by omega) D,jJ fun i j A hj=>h (i+1) (skip k j) (by omega) (IQ hj)]
def gT(m:Mx)(r:Nat)(u:Nat->Rat):Mx:=fun i j=>if i=r then u j else m i j
theorem vh(m:Mx)(r k:Nat)(u:Nat->Rat):(fun i j=>gT m (r+1) u (i+1) (skip k j))=gT (fun i j=>m (i+1) (skip k j)) r fun j=>u (skip k j):=by
 funext i j
 unfold gT;by_cases h:i=r
 ·rw[if_pos h,if_pos (by omega)]
 ·rw[aH h,aH (by omega)]
theorem nX(p:Rat):∀(n r:Nat) (m:Mx),r<n->∀(u v:Nat->Rat),gA n (gT m r fun j=>u j+p*v j)=gA n (gT m r u)+p*gA n (gT m r v)
 |0,_,_,h,_,_=>by omega
 |n+1,0,m,_,u,v=>by
  unfold gA;rw[<-ek,<-gP];refine cP fun k _=>?_;have e:∀x:Nat->Rat,(fun i j=>gT m 0 x (i+1) (skip k j))=fun i j=>m (i+1) (skip k j):=fun x=>by
   funext i j;unfold gT;rw[aH (by omega)]
  rw[e,e,e];unfold gT;rw[if_pos rfl,if_pos rfl,if_pos rfl];grind
 |n+1,r+1,m,h,u,v=>by
  unfold gA;rw[<-ek,<-gP];refine cP fun k _=>?_;rw[vh,vh,vh,nX p n r _ (by omega) (fun j=>u (skip k j)) fun j=>v (skip k j)];have e:∀x:Nat->Rat,gT m (r+1) x 0 k=m 0 k:=fun x=>by unfold gT;rw[aH (by omega)]
  rw[e,e,e];grind
theorem z7{D':Nat->Nat->Rat}:∀{n:Nat},(∀k l,k<=l->l<n->D' k l+D' (l+1) k=0)->cw (fun k=>cw (D' k) n) (n+1)=0
 |0,_=>by show 0+0=(0:Rat);grind
 |n+1,h=>by
  have ih:=z7 (D':=D') (n:=n) fun k l L G=>h k l L (by omega);have N:cw (fun k=>D' k n+D' (n+1) k) (n+1)=0:=by
   rw[cP (g:=fun _=>0) fun k D=>h k n (by omega) (by omega),dc]
  rw[gP]at N;rw[cw];have h4:cw (fun k=>cw (D' k) (n+1)) (n+1)=cw (fun k=>cw (D' k) n) (n+1)+cw (fun k=>D' k n) (n+1):=by
   rw[<-gP];rfl
  rw[h4,ih,Rat.zero_add];exact N
def lM(a b i:Nat):Nat:=if i=a then b else if i=b then a else i
theorem Jg(r i:Nat):lM (r+1) (r+2) (i+1)=lM r (r+1) i+1:=by
 unfold lM;by_cases h:i=r
 ·rw[if_pos (by omega),if_pos h]
 ·rw[aH (by omega),aH h];by_cases G:i=r+1
  ·rw[if_pos (by omega),if_pos G]
  ·rw[aH (by omega),aH G]
theorem LH(k:Nat):sf (k+1)= -sf k:=by
 unfold sf;by_cases h:k % 2=1
 ·rw[if_pos h,aH (by omega)];grind
 ·rw[aH h,if_pos (by omega)]
theorem FU(n:Nat)(m:Mx):gA (n+2) m=cw (fun k=>cw (fun l=>sf k*sf l*(m 0 k*m 1 (skip k l))*gA n fun i j=>m (i+2) (skip k (skip l j))) (n+1)) (n+2):=by
 rw[gA];refine cP fun k _=>?_;rw[gA,<-ek,<-ek];refine cP fun l _=>?_;grind
theorem z8:∀(n r:Nat) (m:Mx),r+1<n->gA n (fun i j=>m (lM r (r+1) i) j)= -gA n m
 |0,_,_,h=>by omega
 |1,_,_,h=>by omega
 |n+2,0,m,_=>by
  rw[FU,FU,<-lY];have key:cw (fun k=>cw (fun l=>sf k*sf l*(m 1 k*m 0 (skip k l))*(gA n fun i j=>m (i+2) (skip k (skip l j)))+sf k*sf l*(m 0 k*m 1 (skip k l))*gA n fun i j=>m (i+2) (skip k (skip l j))) (n+1)) (n+2)=0:=by
   refine z7 fun k l L G=>?_;have e1:skip k l=l+1:=by unfold skip;rw[aH (by omega)]
   have e2:skip (l+1) k=k:=by unfold skip;rw[if_pos (by omega)]
   have e3:(fun i j=>m (i+2) (skip (l+1) (skip k j)))=fun i j=>m (i+2) (skip k (skip l j)):=by
    funext i j;rw[Jf L]
   rw[e1,e2,e3,LH];grind
  have h4:cw (fun k=>cw (fun l=>sf k*sf l*(m 1 k*m 0 (skip k l))*(gA n fun i j=>m (i+2) (skip k (skip l j)))+sf k*sf l*(m 0 k*m 1 (skip k l))*gA n fun i j=>m (i+2) (skip k (skip l j))) (n+1)) (n+2)=
    cw (fun k=>cw (fun l=>sf k*sf l*(m 1 k*m 0 (skip k l))*gA n fun i j=>m (i+2) (skip k (skip l j))) (n+1)) (n+2)+cw (fun k=>cw (fun l=>sf k*sf l*(m 0 k*m 1 (skip k l))*gA n fun i j=>m (i+2) (skip k (skip l j))) (n+1)) (n+2):=by
   rw[<-gP];exact cP fun k _=>gP _ _ _
  rw[h4]at key;have h5:cw (fun k=> -cw (fun l=>sf k*sf l*(m 0 k*m 1 (skip k l))*gA n fun i j=>m (i+2) (skip k (skip l j))) (n+1)) (n+2)= -cw (fun k=>cw (fun l=>sf k*sf l*(m 0 k*m 1 (skip k l))*gA n fun i j=>m (i+2) (skip k (skip l j))) (n+1)) (n+2):=lY _ _;rw[h5];have h6:cw (fun k=>cw (fun l=>sf k*sf l*(m (lM 0 1 0) k*m (lM 0 1 1) (skip k l))*gA n fun i j=>m (lM 0 1 (i+2)) (skip k (skip l j))) (n+1)) (n+2)=cw (fun k=>cw (fun l=>sf k*sf l*(m 1 k*m 0 (skip k l))*gA n fun i j=>m (i+2) (skip k (skip l j))) (n+1)) (n+2):=by
   refine cP fun k _=>cP fun l _=>?_;have e:∀i,lM 0 1 (i+2)=i+2:=fun i=>by unfold lM;rw[aH (by omega),aH (by omega)]
   simp only[e]
   rfl
  rw[show (0:Nat)+1=1 from rfl,h6];grind
 |n+2,r+1,m,h=>by
  rw[gA,gA,<-lY];refine cP fun k _=>?_;have e:(fun i j=>m (lM (r+1) (r+1+1) (i+1)) (skip k j))=fun i j=>m (lM r (r+1) i+1) (skip k j):=by
   funext i j
   rw[show r+1+1=r+2 from rfl,Jg]
  have ih:gA (n+1) (fun i j=>m (lM r (r+1) i+1) (skip k j))= -gA (n+1) fun i j=>m (i+1) (skip k j):=z8 (n+1) r (fun i j=>m (i+1) (skip k j)) (by omega);rw[e,ih];rw[show lM (r+1) (r+1+1) 0=0 by unfold lM;rw[aH (by omega),aH (by omega)]];grind
theorem oZ:∀(k n:Nat) (m:Mx),k+1<n->(∀j,j<n->m 0 j=m (k+1) j)->gA n m=0
 |0,n,m,h,U=>by
  have L:=z8 n 0 m h;rw[jJ (m':=m) fun i j A hj=>?_]at L
  ·grind
  ·unfold lM;by_cases h0:i=0
   ·rw[if_pos h0,h0];exact(U j hj).symm
   ·rw[aH h0];by_cases G:i=1
    ·rw[if_pos G,G];exact U j hj
    ·rw[aH G]
 |k+1,n,m,h,U=>by
  have L:=z8 n (k+1) m h;rw[oZ k n _ (by omega) fun j hj=>?_]at L
  ·grind
  ·rw[show lM (k+1) (k+1+1) 0=0 by unfold lM;rw[aH (by omega),aH (by omega)],show lM (k+1) (k+1+1) (k+1)=k+1+1 by unfold lM;rw[if_pos rfl]];exact U j hj
theorem FV(m:Mx)(r:Nat):gT m r (m r)=m:=by
 funext i j
 unfold gT;by_cases h:i=r
 ·rw[if_pos h,h]
 ·rw[aH h]
theorem Jh{n k:Nat}{m:Mx}(h:k+1<n):gA n (fun i j=>m (lM 0 (k+1) i) j)= -gA n m:=by
 have z:∀u:Nat->Rat,gA n (gT (gT m 0 u) (k+1) u)=0:=fun u=>oZ k n _ h fun j _=>by
  unfold gT;rw[aH (by omega),if_pos rfl,if_pos rfl]
 have cm:∀u v:Nat->Rat,gT (gT m 0 u) (k+1) v=gT (gT m (k+1) v) 0 u:=fun u v=>by
  funext i j;unfold gT
  by_cases L:i=k+1
  ·rw[if_pos L,aH (by omega),if_pos L]
  ·rw[aH L,aH L]
 have l1:∀u v x:Nat->Rat,gA n (gT (gT m 0 u) (k+1) fun j=>v j+1*x j)=gA n (gT (gT m 0 u) (k+1) v)+1*gA n (gT (gT m 0 u) (k+1) x):=fun u v x=>nX 1 n (k+1) _ h v x;have l2:∀u v x:Nat->Rat,gA n (gT (gT m 0 fun j=>v j+1*x j) (k+1) u)=gA n (gT (gT m 0 v) (k+1) u)+1*gA n (gT (gT m 0 x) (k+1) u):=fun u v x=>by
  rw[cm,cm,cm];exact nX 1 n 0 _ (by omega) v x
 have L:=z fun j=>m 0 j+1*m (k+1) j;rw[l1,l2,l2,z,z]at L;have e1:gT (gT m 0 (m 0)) (k+1) (m (k+1))=m:=by rw[FV,FV]
 have e2:gT (gT m 0 (m (k+1))) (k+1) (m 0)=fun i j=>m (lM 0 (k+1) i) j:=by
  funext i j;unfold gT lM
  by_cases L:i=k+1
  ·rw[if_pos L,aH (by omega),if_pos L]
  ·rw[aH L];by_cases h0:i=0
   ·rw[if_pos h0,if_pos h0]
   ·rw[aH h0,aH h0,aH L]
 rw[e1,e2]at L;grind
theorem kP(f:Nat->Rat)(p:Rat)(n:Nat):cw (fun k=>f k*p) n=cw f n*p:=by
 rw[bu,<-ek];exact cP fun k _=>bu ..
theorem tu(f g:Nat->Rat):∀(n:Nat),cw (fun k=>f k-g k) n=cw f n-cw g n
 |0=>by show(0:Rat)=0-0;grind
 |n+1=>by rw[cw,cw,cw,tu f g n];grind
theorem eo{f:Nat->Rat}{i:Nat}:∀{n:Nat},i<n->(∀k,k<n->k≠i->f k=0)->cw f n=f i
 |0,h,_=>by omega
 |n+1,h,hz=>by
  rw[cw];rcases aO i n with L|L
  ·rw[eo L fun k D Oe=>hz k (by omega) Oe,hz n (by omega) (by omega),bU]
  ·obtain rfl:i=n:=by omega
   rw[cP (g:=fun _=>0) fun k D=>hz k (by omega) (by omega),dc,Rat.zero_add]
theorem sq_nonneg(x:Rat):0<=x*x:=by
 rcases Rat.le_total (a:=0) (b:=x)with h|h
 ·exact Rat.mul_nonneg h h
 ·have:=Rat.mul_nonneg (show 0<= -x by grind) (show 0<= -x by grind);grind
end Go.Ex
namespace Go.Ex
open Go Go.Sx Go.Proofs
variable{W:List Value}{j:Nat}{S:Nat->Prop}{a a1 a2:Option Addr}{q:Rat}
theorem jD.len{w:World}(h:jD w S W q):W.length=4:=by obtain⟨_,_,_,_,_,_,_,_,rfl,_⟩:=h;rfl
def Fc(w:World)(S:Nat->Prop)(Z:List (List Value))(qs:List Rat):Prop:=Z.length=qs.length/\∀(j:Nat) W q,Z[j]? =some W->qs[j]? =some q->jD w S W q
section
variable{S S':Nat->Prop}{w V:World}{W:List Value}{Z:List (List Value)}{q:Rat}{qs:List Rat}
theorem Fc.cK(h:Fc w S Z qs)(D:∀g,S g->V.heap[g]? =w.heap[g]?):Fc V S Z qs:=⟨h.1,fun j W q L G=>(h.2 j W q L G).cK D⟩
theorem Fc.cN(h:Fc w S Z qs)(D:∀g,S g->S' g):Fc w S' Z qs:=⟨h.1,fun j W q L G=>(h.2 j W q L G).cN D⟩
theorem Fc.mR(h:Fc w S Z qs):∀W∈Z,W.length=4:=fun W hc=>by
 obtain⟨j,hj⟩:=aN hc;have hl:=(aD.1 hj).1;exact(h.2 j W _ hj (aA (by rw[<-h.1];exact hl))).len
theorem Fc.one(h:Fc w S Z qs):∀u∈Z.flatten,u.oneCell'=true:=fun u hu=>by
 obtain⟨W,hc,hu⟩:=List.mem_flatten.1 hu;obtain⟨j,hj⟩:=aN hc;have hl:=(aD.1 hj).1;obtain⟨_,_,_,_,_,_,_,_,rfl,_⟩:=h.2 j W _ hj (aA (by rw[<-h.1];exact hl));simp at hu;rcases hu with rfl|rfl|rfl|rfl<;>rfl
theorem Fc.set(h:Fc w S Z qs)(hq:jD w S W q):Fc w S (Z.set j W) (qs.set j q):=by
 refine⟨by simp[h.1],fun i c p L G=>?_⟩;by_cases Pr:j=i
 ·subst Pr;have hl:=(aD.1 L).1;rw[aP (by simpa using hl)]at L;rw[aP (by have:=h.1;simp at hl;omega)]at G;injection L with L;injection G with G;subst L G;exact hq
 ·rw[aS Pr]at L G;exact h.2 i c p L G
end
def gX(w:World)(C S:Nat->Prop)(v:Value)(qs:List Rat):Prop:=∃Z,ie w C 4 v Z.flatten qs.length/\Fc w S Z qs
section
variable{C C' S S':Nat->Prop}{H:Hp}{nx:Nat}{iv K:Iv}{B:Nat}{w J V:World}{O:Nat->Sx.dq}{v:Value}{qs:List Rat}
theorem gX.cK(h:gX w C S v qs)(D:∀g,C g\/S g->V.heap[g]? =w.heap[g]?):gX V C S v qs:=by
 obtain⟨Z,L,G⟩:=h;exact⟨Z,L.cK fun g Y=>D g (.inl Y),G.cK fun g Y=>D g (.inr Y)⟩
theorem gX.cN(h:gX w C S v qs)(D:∀g,C g->C' g)(Sp:∀g,S g->S' g):gX w C' S' v qs:=by
 obtain⟨Z,L,G⟩:=h;exact⟨Z,L.cN D,G.cN Sp⟩
end
def ir(w:World)(S:Nat->Prop)(v:Value)(n:Nat)(qs:List Rat):Prop:=∃Z,w.ownsRow 0 T.Rat 4 v n Z.flatten/\Z.length=n/\Fc w S Z qs
section
variable{S S' C:Nat->Prop}{H:Hp}{nx n:Nat}{iv K:Iv}{B:Nat}{w J V:World}{O:Nat->Sx.dq}{v:Value}{qs:List Rat}
theorem ir.cK(h:ir w S v n qs)(D:∀g,S g\/v.ownBlock=some g->V.heap[g]? =w.heap[g]?):ir V S v n qs:=by
 obtain⟨Z,L,G,N⟩:=h;exact⟨Z,ownsRow.cK L fun g Y=>D g (.inr Y),G,N.cK fun g Y=>D g (.inl Y)⟩
theorem ir.cN(h:ir w S v n qs)(D:∀g,S g->S' g):ir w S' v n qs:=by
 obtain⟨Z,L,G,N⟩:=h;exact⟨Z,L,G,N.cN D⟩
theorem ir.len(h:ir w S v n qs):qs.length=n:=by
 obtain⟨Z,L,G,N⟩:=h;rw[<-N.1,G]
theorem ir.form(h:ir w S v n qs):∃a c,v= .slice a n c/\n<=c:=by
 obtain⟨Z,L,G,N⟩:=h;exact fF L
theorem ir.le(h:ir w S v n qs):n<=maxLen:=by
 obtain⟨Z,L,G,N⟩:=h;rcases L.2 with⟨_,h0⟩|⟨_,_,_,_,_,_,L,G,_⟩
 ·omega
 ·omega
theorem ir.read(h:ir w S v n qs):gX w (fun g=>v.ownBlock=some g) S v qs:=by
 have hl:=h.len;have R:=h.le;obtain⟨Z,L,G,N⟩:=h;refine⟨Z,?_,N⟩;rw[hl];rcases L.2 with⟨rfl,rfl⟩|⟨g,cap,cur,rfl,hb,hc,VO,Q2,PN,RU⟩
 ·refine⟨R,L.1,N.one,none,0,rfl,Nat.le_refl _,fun j u hu=>?_⟩;have:=L.1;rw[Nat.zero_mul]at this;rw[List.eq_nil_of_length_eq_zero this]at hu
  cases hu
 ·refine⟨R,L.1,N.one,_,cap,rfl,VO,fun j u hu=>⟨_,rfl,rfl,?_⟩⟩;exact L.cells (g:=g) rfl j u hu
theorem ir.store{c n1 c1 n2 c2:Nat}{b b2:Bool}(h:ir w S (.slice a n c) n qs)(hj:j<n)(hf:dA w S (.agg #[.bool b,.slice a1 n1 c1,.bool b2,.slice a2 n2 c2]) q)(R0:∀g,(Value.slice a n c).ownBlock=some g->¬S g)(X:Old S w):
  ∃g,a=some ⟨g,0,none⟩/\((⟨g,0,none⟩:Addr).add ((j:Int).toNat*4)).spot=none/\((⟨g,0,none⟩:Addr).add ((j:Int).toNat*4)).block=g/\
   (∀k,k<4->(w.cell? (((⟨g,0,none⟩:Addr).add ((j:Int).toNat*4)).add k)).isSome=true/\w.frozen? (((⟨g,0,none⟩:Addr).add ((j:Int).toNat*4)).add k)=false)/\
   ∀V,V=setCells w ((⟨g,0,none⟩:Addr).add ((j:Int).toNat*4)) [.bool b,.slice a1 n1 c1,.bool b2,.slice a2 n2 c2]->ir V S (.slice a n c) n (qs.set j q)/\w.grownBy V (some g)/\V.heap.size=w.heap.size:=by
 obtain⟨Z,L,G,N⟩:=h;obtain⟨g,rfl,Of,QW,PC,PN⟩:=j3 (nv:=[.bool b,.slice a1 n1 c1,.bool b2,.slice a2 n2 c2]) L rfl hj rfl (by decide);have PI:(⟨g,0,none⟩:Addr).add ((j:Int).toNat*4)=⟨g,j*4,none⟩:=by rw[aE,dL,aT]
 refine⟨g,rfl,by rw[PI],by rw[PI],fun k D=>by rw[PI];exact Of k D,fun V PE=>?_⟩;rw[PI]at PE;subst PE;have Qb:=iI (W:=[.bool b,.slice a1 n1 c1,.bool b2,.slice a2 n2 c2]) N.mR (show j<Z.length by omega);rw[Qb]at QW;have Oi:∀x,S x->(setCells w ⟨g,j*4,none⟩ [.bool b,.slice a1 n1 c1,.bool b2,.slice a2 n2 c2]).heap[x]? =w.heap[x]? :=fun x F=>
  PC.block x (X x F) fun e=>R0 g rfl (by injection e with e;rw[<-e];exact F)
 exact⟨⟨_,QW,by simpa using G,(N.cK Oi).set (hf.cK Oi).sR⟩,PC,PN⟩
structure eU(w:World)(S:Nat->Prop)(B:Nat)(iv:Iv)(v:Value)(n:Nat)(qs:List Rat):Prop where
 row:ir w (fun g=>Cv S B iv g/\v.ownBlock≠some g) v n qs
 new:∀g,v.ownBlock=some g->Cv FF B iv g
theorem eU.cK(h:eU w S B iv v n qs)(D:∀g,Cv S B iv g->V.heap[g]? =w.heap[g]?):eU V S B iv v n qs:=
 ⟨h.row.cK fun g Y=>D g (Y.elim (fun h=>h.1) fun Y=>(h.new g Y).elim (fun h=>h.elim) .inr),h.new⟩
theorem eU.rel(h:eU w S B iv v n qs)(r:Rel H nx iv B w O J)(X:∀g,S g->g<B):eU J S B iv v n qs:=h.cK fun _ Y=>Rel.same r X Y
theorem eU.cM(h:eU w S B iv v n qs)(r:Rel H nx iv B w O J)(X:∀g,S g->g<B)(U:Ext J V)(hm:∀p,p∈iv->p∈K):eU V S B K v n qs:=
 have G:=(h.rel r X).cK fun g Y=>U.block g (Rel.old r X g Y)
 ⟨G.row.cN fun _ Y=>⟨Y.1.mono hm,Y.2⟩,fun g Y=>(G.new g Y).mono hm⟩
theorem eU.dK(h:eU V FF J.heap.size [(J.heap.size,V.heap.size)] v n qs)(hB:B<=J.heap.size)(hm:(J.heap.size,V.heap.size)∈iv):eU V S B iv v n qs:=by
 have key:∀g {Do:Nat->Prop},Cv FF J.heap.size [(J.heap.size,V.heap.size)] g->Cv Do B iv g:=fun g Do Y=>by
  rcases Y with Y|⟨L,lo,A,G,N,h4⟩
  ·exact Y.elim
  ·simp at G;obtain⟨rfl,rfl⟩:=G;exact .inr ⟨by omega,_,_,hm,N,h4⟩
 exact⟨h.row.cN fun g Y=>⟨key g Y.1,Y.2⟩,fun g Y=>key g (h.new g Y)⟩
theorem eU.read(h:eU w S B iv v n qs):gX w (Cv S B iv) (Cv S B iv) v qs:=
 h.row.read.cN (fun g Y=>(h.new g Y).elim (fun h=>h.elim) .inr) fun _ Y=>Y.1
end
section
variable{S S':Nat->Prop}{H:Hp}{nx n:Nat}{iv K:Iv}{B:Nat}{w J V:World}{O:Nat->Sx.dq}{v:Value}{qs:List Rat}
theorem eU.store{c n1 c1 n2 c2:Nat}{b b2:Bool}(h:eU J S B iv (.slice a n c) n qs)(hj:j<n)(hf:dA J (fun g=>Cv S B iv g/\(Value.slice a n c).ownBlock≠some g) (.agg #[.bool b,.slice a1 n1 c1,.bool b2,.slice a2 n2 c2]) q)
  (r:Rel H nx iv B w O J) (X:∀g,S g->g<B):
  ∃g,a=some ⟨g,0,none⟩/\((⟨g,0,none⟩:Addr).add ((j:Int).toNat*4)).spot=none/\
   (∀k,k<4->(J.cell? (((⟨g,0,none⟩:Addr).add ((j:Int).toNat*4)).add k)).isSome=true/\J.frozen? (((⟨g,0,none⟩:Addr).add ((j:Int).toNat*4)).add k)=false)/\
   (∀id b,dG H id=some b->(O id).nil=false->(O id).g≠((⟨g,0,none⟩:Addr).add ((j:Int).toNat*4)).block)/\Cv FF B iv g/\
   ∀V,V=setCells J ((⟨g,0,none⟩:Addr).add ((j:Int).toNat*4)) [.bool b,.slice a1 n1 c1,.bool b2,.slice a2 n2 c2]->eU V S B iv (.slice a n c) n (qs.set j q)/\J.grownBy V (some g)/\V.heap.size=J.heap.size:=by
 obtain⟨g,rfl,L,G,N,h4⟩:=h.row.store hj hf (fun g Y F=>F.2 Y) (fun x F=>Rel.old r X x F.1);refine⟨g,rfl,L,N,fun id b hb R=>by rw[G];exact Rel.not r X (Er (h.new g rfl)) id b hb R,h.new g rfl,fun V PE=>?_⟩;obtain⟨k1,k2,k3⟩:=h4 V PE;exact⟨⟨k1,h.new⟩,k2,k3⟩
end
end Go.Ex
namespace Go.Sx
open Go Go.Ex Go.Proofs
variable{W:List Value}{O:Nat->Sx.dq}
theorem Sub.wX{B:Nat}{l tl:Env}{nx:Nat}{H tH:Hp}{iv:Iv}{w J:World}{id t n c:Nat}{e:TypeId}(r:Rel H nx iv B w O J)(PY:dG H id=some (.arr e W))(ht:fm l t=some (.o (.s id 0 n c)))
  (hs:vT H tH) (ho:DZ id tH=true) (L:FC l tl) (G:jw nx tl):
  Sub B l nx O J ⟨(t,.o (.v (.slice (some ⟨(O id).g,0,none⟩) n c)))::tl,tH,nx,((O id).g,(O id).g+1)::iv,J⟩:=by
 refine⟨O,r.free PY (by simp) (r.fits PY).1 hs ho,fun u v hv=>?_⟩;rw[eh]at hv;split at hv
 ·rename_i e;subst e;injection hv with hv;subst hv;exact⟨trivial,_,ht,rfl⟩
 ·exact⟨G.get u v hv,v,L.get u v hv,rfl⟩
end Go.Sx
namespace Go.Ex
open Go Go.Sx Go.Proofs
end Go.Ex
namespace Go.Ex
open Go Go.Sx Go.Proofs
def dS(w:World)(S:Nat->Prop)(rv:List Value)(Fn:List (List Rat)):Prop:=rv.length=Fn.length/\(∀u∈rv,u.oneCell'=true)/\∀(i:Nat) u r,rv[i]? =some u->Fn[i]? =some r->cS w S u r
section
variable{S S':Nat->Prop}{H:Hp}{nx:Nat}{iv K:Iv}{B:Nat}{w J V:World}{O:Nat->Sx.dq}{rv:List Value}{Fn:List (List Rat)}
theorem dS.cK(h:dS w S rv Fn)(D:∀g,S g->V.heap[g]? =w.heap[g]?):dS V S rv Fn:=⟨h.1,h.2.1,fun i u x L G=>cS.cK (h.2.2 i u x L G) D⟩
theorem dS.cN(h:dS w S rv Fn)(D:∀g,S g->S' g):dS w S' rv Fn:=⟨h.1,h.2.1,fun i u x L G=>cS.cN (h.2.2 i u x L G) D⟩
theorem dS.rel(h:dS w (Cv S B iv) rv Fn)(r:Rel H nx iv B w O J)(X:∀g,S g->g<B):dS J (Cv S B iv) rv Fn:=h.cK fun _ Y=>Rel.same r X Y
theorem dS.cM(h:dS w (Cv S B iv) rv Fn)(r:Rel H nx iv B w O J)(X:∀g,S g->g<B)(U:Ext J V)(hm:∀p,p∈iv->p∈K):dS V (Cv S B K) rv Fn:=
 ((h.rel r X).cK fun g Y=>U.block g (Rel.old r X g Y)).cN fun _ Y=>Y.mono hm
theorem dS.push{u:Value}{x:List Rat}(h:dS w S rv Fn)(hu:u.oneCell'=true)(F:cS w S u x):dS w S (rv++[u]) (Fn++[x]):=by
 refine⟨by simp[h.1],fun v hv=>?_,fun i v y L G=>?_⟩
 ·rcases bB.1 hv with hv|hv
  ·exact h.2.1 v hv
  ·simp at hv;subst hv;exact hu
 ·rcases aO i rv.length with A|A
  ·rw[aI A]at L;rw[aI (by rw[<-h.1];exact A)]at G;exact h.2.2 i v y L G
  ·have SR:i=rv.length:=by have:=(aD.1 L).1;simp at this;omega
   subst SR;rw[aM (Nat.le_refl _),bJ]at L;rw[h.1,aM (Nat.le_refl _),bJ]at G;simp at L G;subst L G;exact F
end
end Go.Ex
namespace Go.Ex
theorem Ky(s:List (List Rat)×List Nat)(c:Nat):(dW s c).2=s.2\/(dW s c).2=s.2++[c]:=by
 unfold dW;split
 ·dsimp only
  split
  ·exact .inl rfl
  ·exact .inr rfl
 ·exact .inl rfl
theorem gh(M:List (List Rat)):∀c:Nat,(∀p∈((List.range c).foldl dW (M,[])).2,p<c)/\(((List.range c).foldl dW (M,[])).2).Pairwise (· < ·)/\((List.range c).filter fun j=>decide (j∉((List.range c).foldl dW (M,[])).2)).length+((List.range c).foldl dW (M,[])).2.length=c:=by
 intro c
 induction c with
 |zero=>simp
 |succ c ih=>
  rw[bO,List.foldl_append,List.foldl_cons,List.foldl_nil];generalize (List.range c).foldl dW (M,[])=s at*
  obtain⟨L,G,N⟩:=ih;have hc:c∉s.2:=fun h=>by have:=L c h;omega
  rcases Ky s c with e|e
  ·rw[e];refine⟨fun p hp=>by have:=L p hp;omega,G,?_⟩;rw[List.filter_append,List.length_append];simp only[List.filter_cons,hc,not_false_eq_true,decide_true,if_true,List.filter_nil,List.length_singleton]
   omega
  ·rw[e];refine⟨fun p hp=>?_,?_,?_⟩
   ·rcases bB.1 hp with hp|hp
    ·have:=L p hp;omega
    ·simp at hp;omega
   ·rw[List.pairwise_append];exact⟨G,by simp,fun a ha b hb=>by simp at hb;subst hb;exact L a ha⟩
   ·rw[List.filter_append,List.length_append];have:(List.range c).filter (fun j=>decide (j∉s.2++[c]))=(List.range c).filter (fun j=>decide (j∉s.2)):=List.filter_congr fun j hj=>by
     have:=List.mem_range.1 hj;have Oe:j≠c:=by omega
     simp[Oe]
    have h0:(([c]:List Nat).filter fun j=>decide (j∉s.2++[c])).length=0:=by simp
    rw[this,List.length_append,List.length_singleton,h0];omega
end Go.Ex
namespace Go.Ex
open Go Go.Sx Go.Proofs
variable{W:List Value}{O:Nat->Sx.dq}
section
variable{S S':Nat->Prop}{H:Hp}{nx:Nat}{iv K:Iv}{B:Nat}{w J V:World}{O:Nat->Sx.dq}{v:Value}{M:List (List (Int×Int))}
end
def e7(xs ys:List Rat):Nat->Rat
 |0=>0
 |i+1=>e7 xs ys i+xs.getD i 0*ys.getD i 0
theorem qm{xs ys:List Rat}{h:Nat}(F:∀q∈xs,rl q+1<=h)(hy:∀q∈ys,rl q+1<=h)(G:2<=h):∀i:Nat,rl (e7 xs ys i)<=2*h*i+2
 |0=>by rw[e7];exact aW (by decide:rl 0<=2) (by omega)
 |i+1=>by
  have N:=qm F hy G i;have h4:=oh (e7 xs ys i) (xs.getD i 0*ys.getD i 0);have h5:=iA (xs.getD i 0) (ys.getD i 0);have h6:=ma F G i;have h7:=ma hy G i;rw[e7,bV];omega
section
variable{S S':Nat->Prop}{H:Hp}{nx:Nat}{iv K:Iv}{B:Nat}{w J V:World}{O:Nat->Sx.dq}{v:Value}{qs:List Rat}
end
section
variable{S S':Nat->Prop}{H:Hp}{nx:Nat}{iv K:Iv}{B:Nat}{w J V:World}{O:Nat->Sx.dq}{v:Value}{M:List (List Rat)}
end
section
variable{S S':Nat->Prop}{H:Hp}{nx:Nat}{iv K:Iv}{B:Nat}{w J V:World}{O:Nat->Sx.dq}{v:List Value}{M:List (List Rat)}
end
abbrev vmO(gm EQ:Nat):Value:=.slice (some ⟨gm,0,none⟩) EQ EQ
def Lm'(S:Nat->Prop)(B:Nat)(iv:Iv)(gm EQ:Nat)(rv:List Value)(g:Nat):Prop:=Cv S B iv g/\¬Mb (vmO gm EQ) rv g
structure aBX(w:World)(S:Nat->Prop)(B:Nat)(iv:Iv)(gm EQ n:Nat)(rv:List Value)(M:List (List Rat)):Prop where
 mat:iq w (Lm' S B iv gm EQ rv) (vmO gm EQ) rv n M
 vR:∀g,Mb (vmO gm EQ) rv g->Cv FF B iv g
 rows:rv.length=EQ
section
variable{S S':Nat->Prop}{H:Hp}{nx gm EQ n:Nat}{iv K:Iv}{B:Nat}{w J V:World}{O:Nat->Sx.dq}{rv:List Value}{M:List (List Rat)}
structure aBc(w:World)(S:Nat->Prop)(B:Nat)(iv:Iv)(gm EQ n:Nat)(rv:List Value)(M:List (List Rat))(i:Nat)(vb:Value):Prop where
 out:w.ownsRow 0 T.row 1 (vmO gm EQ) EQ (rv.set i vb)
 was:∃w0,aBX w0 S B iv gm EQ n rv M/\∀g,Cv S B iv g->g≠gm->w.heap[g]? =w0.heap[g]?
end
section
variable{S:Nat->Prop}{H:Hp}{nx gm EQ:Nat}{iv K:Iv}{B:Nat}{w J V:World}{O:Nat->Sx.dq}{rv:List Value}{Z:List (List Value)}{qs:List Rat}
end
inductive Tp where
 |nil
 |x (i:Nat) (t:Tp)
 |two (i:Nat) (t:Tp) (j:Nat) (u:Tp)
 |wX (id:Nat) (t:Tp)
section
variable{P:Program}{τ:nR}{ops:Array Oper}{B n nx:Nat}{l:Env}{H:Hp}{iv:Iv}{w J:World}{O:Nat->Sx.dq}{a:Act}
end
theorem uq{l tl:Env}{nx t id n:Nat}(R:(O id).nil=false)(ht:fm l t=some (.o (.w id n)))(L:FC l tl)(G:jw nx tl):∀u v,fm ((t,.o (.v (.slice (some ⟨(O id).g,0,none⟩) n (O id).cap)))::tl) u=some v->v.sc nx/\∃v',fm l u=some v'/\v'.den O=v.den O:=fun u v hv=>by
 rw[eh]at hv;split at hv
 ·rename_i e;subst e;injection hv with hv;subst hv;exact⟨trivial,_,ht,by simp[SV.den,At.den,R]⟩
 ·exact⟨G.get u v hv,v,L.get u v hv,rfl⟩
theorem Nt{H:Hp}{nx:Nat}{iv:Iv}{B:Nat}{w J:World}(r:Rel H nx iv B w O J){id t m sz:Nat}(h:dG H id=some (.vec t sz W))(hm:W.length=m*sz)(SX:m<=maxLen)(hs:0<sz)(h0:0<m)(L:∀u∈W,u.oneCell'=true):
  (O id).nil=false/\B<=(O id).g/\ie J (fun g=>g=(O id).g) sz (.slice (some ⟨(O id).g,0,none⟩) m (O id).cap) W m:=by
 rcases r.vec id t sz _ h with⟨R,rfl⟩|⟨R,spare,hb,hc,Q2⟩
 ·have:=Nat.mul_pos h0 hs;simp at hm;omega
 ·refine⟨R,(r.low id _ h R).1,SX,hm,L,some ⟨(O id).g,0,none⟩,(O id).cap,rfl,?_,fun j x F=>⟨_,rfl,rfl,?_⟩⟩
  ·have L:(W++spare).length=W.length+spare.length:=List.length_append;have G:m*sz<=(O id).cap*sz:=by omega
   exact cA G hs
  ·rw[dL,cell_of hb,aT,aI (aD.1 F).1];exact F
end Go.Ex
namespace Go.Ex
theorem Jd(EQ i:Nat):(pM EQ i).length=EQ:=by simp[pM]
section
variable{M:List (List Rat)}{b:List Rat}{n:Nat}
theorem LC(hl:fZ n M):fZ (n+1+M.length) (gO M b):=fun r hr=>by
 obtain⟨i,A⟩:=aN hr;unfold gO at A;rw[List.getElem?_mapIdx]at A
 cases F:M[i]? with
 |none=>rw[F]at A;cases A
 |some x=>
  rw[F]at A;injection A with A;subst A;rw[List.length_append,List.length_cons,Jd,hl x (aC F)];omega
def dg(M:List (List Rat))(b:List Rat):List (List Rat):=M.mapIdx fun i r=>r++[b.getD i 0]
theorem jI(hl:fZ n M):fZ (n+1) (dg M b):=fun r hr=>by
 obtain⟨i,A⟩:=aN hr;unfold dg at A;rw[List.getElem?_mapIdx]at A
 cases F:M[i]? with
 |none=>rw[F]at A;cases A
 |some x=>
  rw[F]at A;injection A with A;subst A;rw[List.length_append,hl x (aC F)];rfl
theorem eH:(dg M b).length=M.length:=by simp[dg]
theorem FR(hl:fZ n M):tk (n+1) (gO M b)=dg M b:=by
 refine bF fun i=>?_;unfold tk gO dg;rw[aL,List.getElem?_mapIdx,List.getElem?_mapIdx]
 cases F:M[i]? with
 |none=>rfl
 |some x=>
  have hy:=hl x (aC F);simp only[bc]
  congr 1;rw[List.take_append,List.take_of_length_le (by omega),hy,Nat.add_sub_cancel_left];rfl
theorem LD(hl:fZ n M):tk n (gO M b)=M:=by
 refine bF fun i=>?_;unfold tk gO;rw[aL,List.getElem?_mapIdx]
 cases F:M[i]? with
 |none=>rfl
 |some x=>
  have hy:=hl x (aC F);simp only[bc]
  congr 1;rw[List.take_append,List.take_of_length_le (by omega),hy,bJ,List.take_zero,List.append_nil]
theorem sF(hl:fZ n M):cQ (dg M b) n=(tk (n+1) (cQ (gO M b) n).1,(cQ (gO M b) n).2):=by
 have:=s8 (M:=gO M b) (w:=n+1) n (by omega);rw[FR hl]at this;exact this
end
theorem Je(F9:List (List Rat))(pv:List Nat)(n i:Nat):fE (tk (n+1) F9) pv n i=fE F9 pv n i:=by
 unfold fE;simp only[ve (bQ n)]
end Go.Ex
namespace Go.Ex
open Go Go.Sx Go.Proofs
variable{q:Rat}
section
variable{S:Nat->Prop}{H:Hp}{nx:Nat}{iv0:Iv}{B:Nat}{w J V:World}{O:Nat->Sx.dq}{v:Value}{xs:List Rat}
end
theorem mF:rs q<0↔q<0:=by rw[rs,Int.sign_neg_iff,<-Int.not_le,Rat.num_nonneg,Rat.not_le]
theorem pD:0<rs q↔0<q:=by
 have h:=mF (q:= -q);rw[aAT]at h;constructor
 ·intro k;have:=h.1 (by omega);grind
 ·intro k;have:=h.2 (by grind);omega
end Go.Ex
namespace Go.Ex
variable{FS M:List (List Rat)}{pv:List Nat}{l:List Rat}{B C a j r:Nat}{p σ:Nat->Nat}{u v:Nat->Rat}{d q:Rat}
def kO:List Nat->(Nat->Rat)->Rat
 |[],_=>0
 |t::l,g=>g t+kO l g
theorem zX{g h:Nat->Rat}:∀{l:List Nat},(∀t∈l,g t=h t)->kO l g=kO l h
 |[],_=>rfl
 |t::l,e=>by show g t+_=h t+_;rw[e t aF,zX fun s hs=>e s (aB _ hs)]
theorem CS{g:Nat->Rat}:∀{l:List Nat},(∀t∈l,g t=0)->kO l g=0
 |[],_=>rfl
 |t::l,e=>by show g t+_=0;rw[e t aF,CS fun s hs=>e s (aB _ hs),bU]
theorem xI(g:Nat->Rat):∀l k:List Nat,kO (l++k) g=kO l g+kO k g
 |[],k=>(Rat.zero_add _).symm
 |t::l,k=>by show g t+kO (l++k) g=g t+kO l g+kO k g;rw[xI g l k,Rat.add_assoc]
theorem FT(g:Nat->Rat):∀l:List Nat,kO l (fun t=> -g t)= -kO l g
 |[]=>rfl
 |t::l=>by show -g t+kO l _= -(g t+kO l g);rw[FT g l,Rat.neg_add]
theorem xJ(p:Nat->Bool)(g:Nat->Rat):∀l:List Nat,kO l g=kO (l.filter p) g+kO (l.filter fun t=> !p t) g
 |[]=>(bU 0).symm
 |t::l=>by
  show g t+kO l g=_;rw[xJ p g l,List.filter_cons,List.filter_cons]
  cases p t with
  |true=>show _=g t+_+_;rw[Rat.add_assoc];rfl
  |false=>
   show _=kO (l.filter p) g+(g t+_)
   rw[<-Rat.add_assoc,Rat.add_comm (g t),Rat.add_assoc]
theorem zY{g:Nat->Rat}{s:Nat}:∀{l:List Nat},l.Nodup->s∈l->(∀t∈l,t≠s->g t=0)->kO l g=g s
 |[],_,hm,_=>by cases hm
 |t::l,R,hm,h=>by
  show g t+kO l g=g s;have Ri:=List.nodup_cons.1 R;rcases List.mem_cons.1 hm with rfl|hm
  ·rw[CS fun u hu=>h u (aB _ hu) fun e=>Ri.1 (e▸hu),bU]
  ·rw[h t aF (fun e=>Ri.1 (e▸hm)),Rat.zero_add,zY Ri.2 hm fun u hu=>h u (aB _ hu)]
theorem zZ{i t:Nat}{v:Rat}:(l.set i v).getD t 0=if i=t/\i<l.length then v else l.getD t 0:=by
 simp only[List.getD,List.getElem?_set]
 by_cases h:i=t
 ·subst h;by_cases hl:i<l.length
  ·simp[hl]
  ·simp[hl]
 ·simp[h]
theorem z4{D':Nat->List Rat}{pv:List Nat}{f:Nat->Rat}(hF:∀i,D' (i+1)=(D' i).set (pv.getD i 0) (f i)){t:Nat}(ht:t∉pv):∀i,i<=pv.length->(D' i).getD t 0=(D' 0).getD t 0
 |0,_=>rfl
 |i+1,h=>by
  rw[hF,zZ,aH fun e=>ht (by rw[<-e.1,List.getD,aA (by omega)];exact aY _)];exact z4 hF ht i (by omega)
theorem LF(hp:pv.Pairwise (· < ·)){i:Nat}(Pr:j<i)(A:i<pv.length):pv.getD j 0<pv.getD i 0:=by
 rw[List.getD,List.getD,aA A,aA (by omega)];exact List.pairwise_iff_getElem.1 hp j i _ _ Pr
theorem oX{D':Nat->List Rat}{pv:List Nat}{f:Nat->Rat}{n:Nat}(hF:∀i,D' (i+1)=(D' i).set (pv.getD i 0) (f i))(hl:∀i,(D' i).length=n)(hp:pv.Pairwise (· < ·))(R:∀p∈pv,p<n){j:Nat}:∀i,i<=pv.length->j<i->(D' i).getD (pv.getD j 0) 0=f j
 |0,_,h=>by omega
 |i+1,h,hj=>by
  rw[hF,zZ];rcases aO j i with L|L
  ·have:=LF hp L (by omega);rw[aH (by omega)];exact oX hF hl hp R i (by omega) L
  ·have e:j=i:=by omega
   subst e;have hm:pv.getD j 0<(D' j).length:=by rw[hl];exact R _ (by rw[List.getD,aA (by omega)];exact aY _)
   rw[if_pos ⟨rfl,hm⟩]
def jh(M:List (List Rat))(x:List Rat):List Rat:=M.map fun r=>e7 r x r.length
abbrev jZ(pv:List Nat)(n:Nat):List Nat:=(List.range n).filter fun c=>decide (c∉pv)
section
variable{M:List (List Rat)}{x:List Rat}{n:Nat}
end
structure Diff(F9:List (List Rat))(pv:List Nat)(n:Nat)(x:List Rat):Prop where
 up:pv.Pairwise (· < ·)
 lt:∀p∈pv,p<n
 le:pv.length<=F9.length
 unit:∀i j,i<pv.length->j<F9.length->dD F9 j (pv.getD i 0)=if j=i then 1 else 0
 sum:∀j,j<F9.length->kO (List.range n) (fun t=>dD F9 j t*x.getD t 0)=dD F9 j n
section
variable{F9:List (List Rat)}{pv:List Nat}{n:Nat}{x:List Rat}
theorem sd{t:Nat}(h:t∈pv):∃j,j<pv.length/\pv.getD j 0=t:=by
 obtain⟨j,hj,rfl⟩:=List.mem_iff_getElem.1 h;exact⟨j,hj,by rw[List.getD,aA hj];rfl⟩
theorem qB{c t:Nat}(ht:t∉pv)(hc:c<n):(fp F9 pv n c pv.length).getD t 0=if t=c then 1 else 0:=by
 rw[z4 (D':=fp F9 pv n c) (fun i=>gI F9 pv n c i) ht _ (Nat.le_refl _)];show((List.replicate n (0:Rat)).set c 1).getD t 0=_;rw[zZ,bH];by_cases h:c=t
 ·rw[if_pos ⟨h,hc⟩,if_pos h.symm]
 ·rw[aH (fun e=>h e.1),aH (fun e=>h e.symm)];simp only[List.getD,List.getElem?_replicate]
  split<;>rfl
theorem Diff.kin(h:Diff F9 pv n x){c:Nat}(hj:j<pv.length):(fp F9 pv n c pv.length).getD (pv.getD j 0) 0= -(dD F9 j c):=
 oX (D':=fp F9 pv n c) (f:=fun i=> -(dD F9 i c)) (fun i=>gI F9 pv n c i) (j6 F9 pv n c) h.up h.lt _ (Nat.le_refl _) hj
theorem tt{t:Nat}(ht:t∉pv):(fE F9 pv n pv.length).getD t 0=0:=by
 rw[z4 (D':=fE F9 pv n) (fun i=>gJ F9 pv n i) ht _ (Nat.le_refl _)];show(List.replicate n (0:Rat)).getD t 0=0;simp only[List.getD,List.getElem?_replicate]
 split<;>rfl
theorem Diff.xin(h:Diff F9 pv n x)(hj:j<pv.length):(fE F9 pv n pv.length).getD (pv.getD j 0) 0=dD F9 j n:=
 oX (D':=fE F9 pv n) (f:=fun i=>dD F9 i n) (fun i=>gJ F9 pv n i) (j7 F9 pv n) h.up h.lt _ (Nat.le_refl _) hj
theorem se:(jZ pv n).Nodup:=List.Pairwise.filter _ List.nodup_range
theorem lX{c:Nat}:c∈jZ pv n↔c<n/\c∉pv:=by
 unfold jZ;rw[List.mem_filter,List.mem_range,decide_eq_true_eq]
theorem Diff.rest(h:Diff F9 pv n x){t:Nat}(ht:t<n):x.getD t 0+(fE F9 pv n pv.length).getD t 0* -1=kO (jZ pv n) fun c=>x.getD c 0*(fp F9 pv n c pv.length).getD t 0:=by
 by_cases hp:t∈pv
 ·obtain⟨j,hj,rfl⟩:=sd hp;have hs:=h.sum j (Nat.lt_of_lt_of_le hj h.le);rw[xJ (fun c=>decide (c∉pv)),zY (s:=pv.getD j 0) (l:=(List.range n).filter fun t=> !decide (t∉pv)) (List.Pairwise.filter _ List.nodup_range) (List.mem_filter.2 ⟨List.mem_range.2 ht,by rw[bM fun e=>e hp];rfl⟩) (fun s hs Oe=>?_),h.unit j j hj (Nat.lt_of_lt_of_le hj h.le),if_pos rfl,cB]at hs
  ·rw[h.xin hj,zX (h:=fun c=> -(dD F9 j c*x.getD c 0)) fun c hc=>by rw[h.kin hj,Rat.mul_neg,bu],FT,<-hs];generalize x.getD (pv.getD j 0) 0=q;generalize kO _ _=s;rw[Rat.mul_neg,Rat.mul_one,Rat.neg_add,<-Rat.add_assoc,Rat.add_comm q,Rat.add_assoc,Rat.add_neg_cancel,bU]
  ·have Qm:s∈pv:=by simpa using(List.mem_filter.1 hs).2
   obtain⟨i,A,rfl⟩:=sd Qm;rw[h.unit i j A (Nat.lt_of_lt_of_le hj h.le),aH (fun e=>Oe (by rw[e])),bE]
 ·rw[tt hp,bE,bU,zY (s:=t) se (lX.2 ⟨ht,hp⟩) fun c hc Oe=>by rw[qB hp (lX.1 hc).1,aH (Ne.symm Oe),ah],qB hp ht,if_pos rfl,Rat.mul_one]
theorem qC{k:Nat}(D:k<(jZ pv n).length):(jZ pv n).getD k 0∈jZ pv n:=by rw[List.getD,aA D];exact aY D
theorem oY{k:Nat}{r:List Rat}(h:(dM F9 pv n n)[k]? =some r):k<(jZ pv n).length/\r=fp F9 pv n ((jZ pv n).getD k 0) pv.length:=by
 unfold dM at h;rw[aL]at h;obtain⟨c,hc,rfl⟩:=Option.map_eq_some_iff.1 h;refine⟨(aD.1 hc).1,?_⟩;rw[List.getD,hc];rfl
theorem LG{i k:Nat}(A:i<(jZ pv n).length)(D:k<(jZ pv n).length)(e:(jZ pv n).getD i 0=(jZ pv n).getD k 0):i=k:=by
 rw[List.getD,List.getD,aA A,aA D]at e;rcases cC i k with h|h|h
 ·exact absurd e (List.pairwise_iff_getElem.1 se i k A D h)
 ·exact h
 ·exact absurd e.symm (List.pairwise_iff_getElem.1 se k i D A h)
theorem z5{k i:Nat}{r s:List Rat}(hr:(dM F9 pv n n)[k]? =some r)(hs:(dM F9 pv n n)[i]? =some s):s.getD ((jZ pv n).getD k 0) 0=if i=k then 1 else 0:=by
 obtain⟨D,-⟩:=oY hr;obtain⟨A,rfl⟩:=oY hs;have hm:=lX.1 (qC D);rw[qB hm.2 (lX.1 (qC A)).1];by_cases h:i=k
 ·rw[h,if_pos rfl,if_pos rfl]
 ·rw[aH (fun e=>h (LG A D e.symm)),aH h]
end
theorem lZ(f:Nat->Nat->Rat)(m:Nat):∀n,cw (fun i=>cw (f i) m) n=cw (fun j=>cw (fun i=>f i j) n) m
 |0=>(dc m).symm
 |n+1=>by
  show cw (fun i=>cw (f i) m) n+cw (f n) m=cw (fun j=>cw (fun i=>f i j) n+f n j) m;rw[gP,lZ f m n]
theorem o0(x y:List Rat):∀n,e7 x y n=cw (fun t=>x.getD t 0*y.getD t 0) n
 |0=>rfl
 |n+1=>by rw[e7,o0 x y n];rfl
theorem xK{f:Nat->Rat}:∀{n:Nat},(∀k,k<n->0<=f k)->0<=cw f n
 |0,_=>Rat.le_refl
 |n+1,h=>by
  have L:=xK (n:=n) fun k D=>h k (by omega);have G:=h n (by omega);show 0<=cw f n+f n;grind
theorem xL{f:Nat->Rat}:∀{n:Nat},(∀k,k<n->0<=f k)->cw f n<=0->∀k,k<n->f k=0
 |0,_,_,k,D=>by omega
 |n+1,h,h0,k,D=>by
  have L:=xK (n:=n) fun k D=>h k (by omega);have G:=h n (by omega);have N:cw f n+f n<=0:=h0;rcases aO k n with h4|h4
  ·exact xL (fun k D=>h k (by omega)) (by grind) k h4
  ·rw[show k=n by omega];grind
def D8(m:Mx)(n w:Nat):Prop:=∀x:Nat->Rat,(∀t,t<w->cw (fun i=>x i*m i t) n=0)->∀i,i<n->x i=0
theorem LI(f:Nat->Rat){n b:Nat}(ha:a<n)(hb:b<n):cw (fun i=>f (lM a b i)) n=cw f n:=by
 have L:cw (fun i=>(if i=a then f b-f a else 0)+(if i=b then f a-f b else 0)) n=0:=by
  rw[gP,eo ha fun k _ Oe=>aH Oe,eo hb fun k _ Oe=>aH Oe,if_pos rfl,if_pos rfl];grind
 have G:cw (fun i=>f (lM a b i)) n-cw f n=0:=by
  rw[<-tu,<-L];refine cP fun k _=>?_;unfold lM;by_cases N:k=a
  ·subst N;rw[if_pos rfl,if_pos rfl];by_cases h4:k=b
   ·subst h4;rw[if_pos rfl];grind
   ·rw[aH h4];grind
  ·rw[aH N,aH N];by_cases h4:k=b
   ·subst h4;rw[if_pos rfl,if_pos rfl];grind
   ·rw[aH h4,aH h4];grind
 grind
theorem D9(a b i:Nat):lM a b (lM a b i)=i:=by
 unfold lM;by_cases L:i=a
 ·rw[if_pos L];by_cases G:b=a
  ·rw[if_pos G];omega
  ·rw[aH G,if_pos rfl];omega
 ·rw[aH L];by_cases G:i=b
  ·rw[if_pos G,if_pos rfl];omega
  ·rw[aH G,aH L,aH G]
theorem aAU{b i n:Nat}(ha:a<n)(hb:b<n)(A:i<n):lM a b i<n:=by unfold lM;split<;>(try split)<;>omega
theorem D8.lM{m:Mx}{n w b:Nat}(h:D8 m n w)(ha:a<n)(hb:b<n):D8 (fun i t=>m (lM a b i) t) n w:=fun x F i A=>by
 have L:=h (fun i=>x (Go.Ex.lM a b i)) (fun t ht=>by
  rw[<-F t ht,<-LI (fun i=>x i*m (Go.Ex.lM a b i) t) ha hb]
  exact cP fun k _=>by simp only[D9]) (Go.Ex.lM a b i) (aAU ha hb A)
 simp only[D9]at L;exact L
section
variable{m m':Mx}{n w p:Nat}{κ:Rat}{q:Nat->Rat}
def mV(p:Nat)(q x:Nat->Rat)(n:Nat):Rat:=cw (fun j=>if j=p then 0 else x j*q j) n
theorem IS(hp:p<n)(L:∀t,t<w->m' p t=κ*m p t)(G:∀j t,j<n->j≠p->t<w->m' j t=m j t+q j*m' p t)(x:Nat->Rat){t:Nat}(ht:t<w):
  cw (fun j=>x j*m' j t) n=cw (fun j=>(if j=p then κ*(x p+mV p q x n)else x j)*m j t) n:=by
 have N:cw (fun j=>x j*m' j t) n-cw (fun j=>(if j=p then κ*(x p+mV p q x n)else x j)*m j t) n=0:=by
  rw[<-tu];have h4:∀j,j<n->x j*m' j t-(if j=p then κ*(x p+mV p q x n)else x j)*m j t=(if j=p then 0 else x j*q j)*(κ*m p t)+(if j=p then -(mV p q x n*(κ*m p t))else 0):=fun j hj=>by
   by_cases h5:j=p
   ·subst h5;rw[if_pos rfl,if_pos rfl,if_pos rfl,L t ht];grind
   ·rw[aH h5,aH h5,aH h5,G j t hj h5 ht,L t ht];grind
  rw[cP h4,gP,kP,eo hp fun k _ Oe=>aH Oe,if_pos rfl];unfold mV;grind
 grind
theorem D8.mix(A:D8 m n w)(hκ:κ≠0)(hp:p<n)(L:∀t,t<w->m' p t=κ*m p t)(G:∀j t,j<n->j≠p->t<w->m' j t=m j t+q j*m' p t):D8 m' n w:=fun x F=>by
 have N:=A _ fun t ht=>(IS hp L G x ht).symm.trans (F t ht);have h4:∀j,j<n->j≠p->x j=0:=fun j hj Oe=>by have:=N j hj;rwa [aH Oe]at this
 have h5:mV p q x n=0:=by
  unfold mV;rw[cP (g:=fun _=>0) fun j hj=>?_,dc];by_cases h6:j=p
  ·rw[if_pos h6]
  ·rw[aH h6,h4 j hj h6,bE]
 have h6:=N p hp;rw[if_pos rfl,h5,bU]at h6;intro i A;by_cases h7:i=p
 ·rw[h7];exact(Rat.mul_eq_zero.1 h6).resolve_left hκ
 ·exact h4 i A h7
theorem D8.aAy(A:D8 m' n w)(hκ:κ≠0)(hp:p<n)(L:∀t,t<w->m' p t=κ*m p t)(G:∀j t,j<n->j≠p->t<w->m' j t=m j t+q j*m' p t):D8 m n w:=fun y hy=>by
 have D:κ*κ⁻¹=1:=Rat.mul_inv_cancel _ hκ;have N:=A (fun j=>if j=p then y p*κ⁻¹-mV p q y n else y j) fun t ht=>by
  rw[IS hp L G _ ht,<-hy t ht];refine cP fun j hj=>?_;have h5:mV p q (fun j=>if j=p then y p*κ⁻¹-mV p q y n else y j) n=mV p q y n:=by
   unfold mV;refine cP fun i _=>?_;by_cases h6:i=p
   ·rw[if_pos h6,if_pos h6]
   ·rw[aH h6,aH h6];simp only[aH h6]
  rw[h5,if_pos rfl];by_cases h6:j=p
  ·rw[if_pos h6,h6];grind
  ·rw[aH h6,aH h6]
 have h4:∀j,j<n->j≠p->y j=0:=fun j hj Oe=>by have:=N j hj;rwa [aH Oe]at this
 have h5:mV p q y n=0:=by
  unfold mV;rw[cP (g:=fun _=>0) fun j hj=>?_,dc];by_cases h6:j=p
  ·rw[if_pos h6]
  ·rw[aH h6,h4 j hj h6,bE]
 have h6:=N p hp;rw[if_pos rfl,h5]at h6;intro i A;by_cases h7:i=p
 ·rw[h7];grind
 ·exact h4 i A h7
end
theorem D8.congr{m m':Mx}{n w:Nat}(h:D8 m n w)(e:∀i t,i<n->t<w->m' i t=m i t):D8 m' n w:=fun x F=>h x fun t ht=>by
 rw[<-F t ht];exact cP fun i A=>by rw[e i t A ht]
theorem LJ{s:List (List Rat)×List Nat}{c w:Nat}(hl:fZ w s.1)(hle:s.2.length<=s.1.length):D8 (dD (dW s c).1) s.1.length w↔D8 (dD s.1) s.1.length w:=by
 rcases jm c hle with⟨e,-⟩|⟨k,L,G,N,e⟩
 ·rw[e]
 ·obtain⟨r1,r2⟩:=lW hl L G N e;have hp:s.2.length<s.1.length:=by omega
  have hs:lM s.2.length k s.2.length=k:=by unfold lM;rw[if_pos rfl]
  have hκ:(1 / dD s.1 k c)≠0:=fun e=>by have:=tq N;rw[e,ah]at this;exact absurd this (by decide)
  have q1:∀t,t<w->dD (dW s c).1 s.2.length t=(1 / dD s.1 k c)*(fun i t=>dD s.1 (lM s.2.length k i) t) s.2.length t:=fun t _=>by
   simp only[hs]
   rw[r1,bu]
  have q2:∀j t,j<s.1.length->j≠s.2.length->t<w->dD (dW s c).1 j t=(fun i t=>dD s.1 (lM s.2.length k i) t) j t+(fun j=> -(dD s.1 (lM s.2.length k j) c)) j*dD (dW s c).1 s.2.length t:=fun j t hj Oe ht=>by
   rw[r2 j hj Oe t ht,r1];have:lM s.2.length k j=if j=k then s.2.length else j:=by unfold lM;rw[aH Oe]
   simp only[this]
  constructor
  ·intro h;have h4:=(D8.aAy h hκ hp q1 q2).lM hp G;exact h4.congr fun i t _ _=>by simp only[D9]
  ·intro h;exact D8.mix (h.lM hp G) hκ hp q1 q2
theorem xM{M:List (List Rat)}{w:Nat}(hl:fZ w M):∀cols,cols<=w->(D8 (dD (cQ M cols).1) M.length w↔D8 (dD M) M.length w)
 |0,_=>Iff.rfl
 |c+1,h=>by
  have ih:=xM hl c (by omega);have hr:=eA hl c (by omega);have L:=eP M c;rw[<-ih];have G:=LJ (c:=c) hr.1 hr.2.1;rw[L]at G;rw[<-G];unfold cQ;rw[bO,List.foldl_append];exact Iff.rfl
def eN(FS:Mx)(r n:Nat)(v:Nat->Rat):Prop:=∃c:Nat->Rat,∀t,t<n->v t=cw (fun i=>c i*FS i t) r
structure Rf(FS:Mx)(p:Nat->Nat)(r n:Nat):Prop where
 lt:∀i,i<r->p i<n
 mono:∀i j,i<j->j<r->p i<p j
 unit:∀i j,i<r->j<r->FS j (p i)=if j=i then 1 else 0
 lead:∀i t,i<r->t<p i->FS i t=0
section
variable{FS D':Mx}{p q:Nat->Nat}{r s n:Nat}{v:Nat->Rat}
theorem Rf.coeff(h:Rf FS p r n)(hv:eN FS r n v):∀t,t<n->v t=cw (fun i=>v (p i)*FS i t) r:=by
 obtain⟨c,hc⟩:=hv;intro t ht;rw[hc t ht];refine cP fun i A=>?_;rw[hc (p i) (h.lt i A),eo A fun k D Oe=>by rw[h.unit i k A D,aH Oe,ah],h.unit i i A A,if_pos rfl,Rat.mul_one]
theorem Rf.NU(h:Rf FS p r n)(hv:eN FS r n v){t:Nat}(ht:t<n)(h0:v t≠0)(hz:∀k,k<t->v k=0):∃i,i<r/\p i=t:=by
 refine Decidable.byContradiction fun TA=>h0 ?_;rw[h.coeff hv t ht,cP (g:=fun _=>0) fun i A=>?_,dc];rcases cC (p i) t with L|L|L
 ·rw[hz _ L,bE]
 ·exact absurd ⟨i,A,L⟩ TA
 ·rw[h.lead i t A L,ah]
theorem Rf.OR(h:Rf FS p r n)(k:Rf D' q s n)(hE:∀i,i<r->eN D' s n (FS i)){i:Nat}(A:i<r):∃j,j<s/\q j=p i:=
 k.NU (hE i A) (h.lt i A) (by rw[h.unit i i A A,if_pos rfl];decide) fun t ht=>h.lead i t A ht
theorem Rf.LK(h:Rf FS p r n)(k:Rf D' q s n)(hE:∀i,i<r->eN D' s n (FS i))(hF:∀j,j<s->eN FS r n (D' j)):∀i,i<r->i<s/\p i=q i:=by
 intro i
 induction i using Nat.strongRecOn with
 |ind i ih=>
  intro A;obtain⟨j,hj,e1⟩:=h.OR k hE A;have Ph:i<=j:=by
   refine Nat.le_of_not_lt fun Ow=>?_;have L:=(ih j Ow (by omega)).2;have G:=h.mono j i Ow A;omega
  have his:i<s:=by omega
  refine⟨his,?_⟩;obtain⟨l,hl,e2⟩:=k.OR h hF his;have UH:i<=l:=by
   refine Nat.le_of_not_lt fun Ow=>?_;have L:=(ih l Ow hl).2;have G:=k.mono l i Ow his;omega
  have N:q i<=q j:=by
   rcases aO i j with h4|h4
   ·exact Nat.le_of_lt (k.mono i j h4 hj)
   ·rw[show i=j by omega];exact Nat.le_refl _
  have h5:p i<=p l:=by
   rcases aO i l with h4|h4
   ·exact Nat.le_of_lt (h.mono i l h4 hl)
   ·rw[show i=l by omega];exact Nat.le_refl _
  omega
theorem Rf.one(h:Rf FS p r n)(k:Rf D' q s n)(hE:∀i,i<r->eN D' s n (FS i))(hF:∀j,j<s->eN FS r n (D' j)):r=s/\(∀i,i<r->p i=q i)/\∀i t,i<r->t<n->FS i t=D' i t:=by
 have L:=h.LK k hE hF;have G:=k.LK h hF hE;have Wb:r=s:=by
  rcases cC r s with N|N|N
  ·have:=(G r N).1;omega
  ·exact N
  ·have:=(L s N).1;omega
 refine⟨Wb,fun i A=>(L i A).2,fun i t A ht=>?_⟩;rw[k.coeff (hE i A) t ht,eo (i:=i) (by omega) fun j hj Oe=>by rw[<-(L j (by omega)).2,h.unit j i (by omega) A,aH (Ne.symm Oe),bE],<-(L i A).2,h.unit i i A A,if_pos rfl,cB]
end
theorem eN.row{FS:Mx}{n i:Nat}(A:i<r):eN FS r n (FS i):=⟨fun k=>if k=i then 1 else 0,fun t _=>by
 rw[eo A fun k _ Oe=>by simp only[aH Oe,bE]]
 simp only[if_pos,cB]⟩
theorem eN.add{FS:Mx}{n:Nat}(h:eN FS r n u)(k:eN FS r n v)(x:Rat):eN FS r n fun t=>u t+x*v t:=by
 obtain⟨c,hc⟩:=h;obtain⟨d,hd⟩:=k;refine⟨fun i=>c i+x*d i,fun t ht=>?_⟩;show u t+x*v t=cw (fun i=>(c i+x*d i)*FS i t) r;rw[hc t ht,hd t ht,<-ek,<-gP];exact cP fun i _=>by grind
theorem eN.mul{FS:Mx}{n:Nat}(h:eN FS r n u)(x:Rat):eN FS r n fun t=>u t*x:=by
 obtain⟨c,hc⟩:=h;refine⟨fun i=>c i*x,fun t ht=>?_⟩;show u t*x=cw (fun i=>(c i*x)*FS i t) r;rw[hc t ht,<-kP];exact cP fun i _=>by grind
theorem eN.congr{FS:Mx}{n:Nat}(h:eN FS r n u)(e:∀t,t<n->v t=u t):eN FS r n v:=by
 obtain⟨c,hc⟩:=h;exact⟨c,fun t ht=>by rw[e t ht,hc t ht]⟩
theorem eN.trans{FS D':Mx}{s n:Nat}(h:eN FS r n v)(k:∀i,i<r->eN D' s n (FS i)):eN D' s n v:=by
 obtain⟨c,hc⟩:=h;have key:∀m,m<=r->eN D' s n fun t=>cw (fun i=>c i*FS i t) m:=by
  intro m
  induction m with
  |zero=>intro _;exact⟨fun _=>0,fun t _=>by rw[cP (g:=fun _=>0) fun i _=>bE _,dc];rfl⟩
  |succ m ih=>
   intro hm;exact(ih (by omega)).add (k m (by omega)) (c m)
 exact(key r (Nat.le_refl _)).congr fun t ht=>hc t ht
def LL(s:List (List Rat)×List Nat):Prop:=(∀i j,i<j->j<s.2.length->s.2.getD i 0<s.2.getD j 0)/\∀i t,i<s.2.length->t<s.2.getD i 0->dD s.1 i t=0
theorem LL.step{n c:Nat}{s:List (List Rat)×List Nat}(h:LL s)(hr:Red n c s)(hc:c<n):LL (dW s c):=by
 obtain⟨hl,hle,hz,Qv,hu⟩:=hr;rcases jm c hle with⟨e,-⟩|⟨k,L,G,N,e⟩
 ·rw[e];exact h
 ·obtain⟨r1,r2⟩:=lW hl L G N e;have e2:(dW s c).2=s.2++[c]:=by rw[e]
  have hold:∀i,i<s.2.length->(dW s c).2.getD i 0=s.2.getD i 0:=fun i A=>by rw[e2,List.getD,aI A,<-List.getD]
  have SD:(dW s c).2.getD s.2.length 0=c:=by rw[e2,List.getD,aM (Nat.le_refl _),bJ];rfl
  have Ow:∀i,i<s.2.length->s.2.getD i 0<c:=fun i A=>Qv _ (by rw[List.getD,aA A];exact aY _);have hlen:(dW s c).2.length=s.2.length+1:=by rw[e2];simp
  refine⟨fun i j Pr hj=>?_,fun i t A ht=>?_⟩
  ·rw[hlen]at hj;rcases aO j s.2.length with h4|h4
   ·rw[hold i (by omega),hold j h4];exact h.1 i j Pr h4
   ·rw[show j=s.2.length by omega,SD,hold i (by omega)];exact Ow i (by omega)
  ·rw[hlen]at A;rcases aO i s.2.length with h4|h4
   ·rw[hold i h4]at ht;have h5:=Ow i h4;rw[r2 i (by omega) (by omega) t (by omega),hz k t L G (by omega),aH (by omega),h.2 i t h4 ht,bE,ah,Rat.zero_add]
   ·rw[show i=s.2.length by omega]at ht ⊢;rw[SD]at ht;rw[r1,hz k t L G ht,bE]
theorem tv{M:List (List Rat)}{n:Nat}(hl:fZ n M):∀cols,cols<=n->LL (cQ M cols)
 |0,_=>⟨fun _ _ _ h=>(by cases h),fun _ _ h=>(by cases h)⟩
 |c+1,h=>by
  have ih:=tv hl c (by omega);have hr:=eA hl c (by omega);unfold cQ at ih hr ⊢;rw[bO,List.foldl_append];exact ih.step hr (by omega)
theorem zc{n:Nat}(hl:fZ n M):Rf (dD (cQ M n).1) (fun i=>(cQ M n).2.getD i 0) (cQ M n).2.length n:=by
 obtain⟨L,G,N,h4,h5⟩:=eA hl n (Nat.le_refl _);obtain⟨k1,k2⟩:=tv hl n (Nat.le_refl _);refine⟨fun i A=>h4 _ (by rw[List.getD,aA A];exact aY _),k1,fun i j A hj=>h5 i j A (by omega),k2⟩
theorem NV{s:List (List Rat)×List Nat}{c n:Nat}(hl:fZ n s.1)(hle:s.2.length<=s.1.length):(∀j,j<s.1.length->eN (dD s.1) s.1.length n (dD (dW s c).1 j))/\∀j,j<s.1.length->eN (dD (dW s c).1) s.1.length n (dD s.1 j):=by
 rcases jm c hle with⟨e,-⟩|⟨k,L,G,N,e⟩
 ·rw[e];exact⟨fun j hj=>eN.row hj,fun j hj=>eN.row hj⟩
 ·obtain⟨r1,r2⟩:=lW hl L G N e;have hp:s.2.length<s.1.length:=by omega
  have a1:eN (dD s.1) s.1.length n (dD (dW s c).1 s.2.length):=((eN.row G).mul (1 / dD s.1 k c)).congr fun t _=>r1 t;have b1:eN (dD (dW s c).1) s.1.length n (dD s.1 k):=((eN.row hp).mul (dD s.1 k c)).congr fun t _=>by rw[r1,Rat.mul_assoc,bu (1 / _),tq N,Rat.mul_one]
  refine⟨fun j hj=>?_,fun j hj=>?_⟩
  ·by_cases h4:j=s.2.length
   ·rw[h4];exact a1
   ·exact((eN.row (show (if j=k then s.2.length else j)<s.1.length by split<;>omega)).add (eN.row G) (-(dD s.1 (if j=k then s.2.length else j) c)*(1 / dD s.1 k c))).congr fun t ht=>by rw[r2 j hj h4 t ht];grind
  ·by_cases h4:j=k
   ·rw[h4];exact b1
   ·obtain⟨i,A,Oe,Pr⟩:∃i,i<s.1.length/\i≠s.2.length/\(if i=k then s.2.length else i)=j:=by
     by_cases h5:j=s.2.length
     ·exact⟨k,G,fun e6=>h4 (h5.trans e6.symm),by rw[if_pos rfl,h5]⟩
     ·exact⟨j,hj,h5,aH h4⟩
    refine((eN.row A).add (eN.row hp) (dD s.1 j c)).congr fun t ht=>?_;rw[r2 i A Oe t ht,Pr,r1];grind
theorem ji{M:List (List Rat)}{n:Nat}(hl:fZ n M):∀cols,cols<=n->(∀j,j<M.length->eN (dD M) M.length n (dD (cQ M cols).1 j))/\∀j,j<M.length->eN (dD (cQ M cols).1) M.length n (dD M j)
 |0,_=>⟨fun j hj=>eN.row hj,fun j hj=>eN.row hj⟩
 |c+1,h=>by
  obtain⟨i1,i2⟩:=ji hl c (by omega);have hr:=eA hl c (by omega);have L:=eP M c;have G:=NV (c:=c) hr.1 hr.2.1;rw[L]at G;have e:(cQ M (c+1))=dW (cQ M c) c:=by unfold cQ;rw[bO,List.foldl_append];rfl
  rw[e];exact⟨fun j hj=>(G.1 j hj).trans i1,fun j hj=>(i2 j hj).trans G.2⟩
theorem eN.cut{FS:Mx}{m n:Nat}(h:eN FS m n v)(hz:∀i t,r<=i->i<m->t<n->FS i t=0):eN FS r n v:=by
 refine h.trans fun i A=>?_;rcases aO i r with L|L
 ·exact eN.row L
 ·exact⟨fun _=>0,fun t ht=>by rw[hz i t L A ht,cP (g:=fun _=>0) fun k _=>bE _,dc]⟩
theorem FW{n:Nat}{D':Mx}{q:Nat->Nat}(hl:fZ n M)(k:Rf D' q r n)(L:∀i,i<r->eN (dD M) M.length n (D' i))(G:∀j,j<M.length->eN D' r n (dD M j)):
  (cQ M n).2.length=r/\(∀i,i<r->(cQ M n).2.getD i 0=q i)/\∀i t,i<r->t<n->dD (cQ M n).1 i t=D' i t:=by
 obtain⟨a1,a2⟩:=ji hl n (Nat.le_refl _);obtain⟨-,hle,hz,-,-⟩:=eA hl n (Nat.le_refl _);rw[eP]at hle hz;have h:=zc hl;obtain⟨e1,e2,e3⟩:=h.one k (fun i A=>(a1 i (by omega)).trans G) fun j hj=>((L j hj).trans a2).cut fun i t A hm ht=>hz i t A hm ht;exact⟨e1,fun i A=>e2 i (by omega),fun i t A ht=>e3 i t (by omega) ht⟩
structure Ru(FS:Mx)(p:Nat->Nat)(r n:Nat):Prop where
 lt:∀i,i<r->p i<n
 inj:∀i j,i<r->j<r->p i=p j->i=j
 unit:∀i j,i<r->j<r->FS j (p i)=if j=i then 1 else 0
 lead:∀i t,i<r->t<p i->FS i t=0
def mP(FS:Mx)(p:Nat->Nat)(r:Nat)(v:Nat->Rat)(k t:Nat):Rat:=v t-cw (fun i=>if p i<k then v (p i)*FS i t else 0) r
theorem LM(FS:Mx)(p:Nat->Nat)(r:Nat)(v:Nat->Rat)(t:Nat):mP FS p r v 0 t=v t:=by
 unfold mP;rw[cP (g:=fun _=>0) fun i _=>aH (by omega),dc];grind
section
variable{FS:Mx}{p:Nat->Nat}{r n:Nat}{v:Nat->Rat}
theorem LN{k t:Nat}(h:∀i,i<r->p i≠k):mP FS p r v (k+1) t=mP FS p r v k t:=by
 unfold mP;rw[cP fun i A=>?_];have:=h i A;by_cases L:p i<k
 ·rw[if_pos L,if_pos (by omega)]
 ·rw[aH L,aH (by omega)]
theorem aAV(h:Ru FS p r n){i:Nat}(A:i<r):mP FS p r v (p i) (p i)=v (p i):=by
 unfold mP;rw[cP (g:=fun _=>0) fun j hj=>?_,dc]
 ·grind
 ·by_cases L:p j<p i
  ·rw[if_pos L,h.unit i j A hj,aH (fun e=>by rw[e]at L;omega),ah]
  ·rw[aH L]
theorem LO(h:Ru FS p r n){i t:Nat}(A:i<r):mP FS p r v (p i+1) t=mP FS p r v (p i) t+ -(mP FS p r v (p i) (p i))*FS i t:=by
 rw[aAV h A];unfold mP;have e:cw (fun j=>if p j<p i+1 then v (p j)*FS j t else 0) r=cw (fun j=>(if p j<p i then v (p j)*FS j t else 0)+(if j=i then v (p i)*FS i t else 0)) r:=by
  refine cP fun j hj=>?_;by_cases L:j=i
  ·subst L;rw[if_pos (by omega),aH (by omega),if_pos rfl,Rat.zero_add]
  ·have G:p j≠p i:=fun e=>L (h.inj j i hj A e);rw[aH L,bU];by_cases N:p j<p i
   ·rw[if_pos N,if_pos (by omega)]
   ·rw[aH N,aH (by omega)]
 rw[e,gP,eo A fun k _ Oe=>aH Oe,if_pos rfl];grind
theorem IT(h:Ru FS p r n){i:Nat}(A:i<r):mP FS p r v n (p i)=0:=by
 unfold mP;rw[eo A fun k D Oe=>?_,if_pos (h.lt i A),h.unit i i A A,if_pos rfl]
 ·grind
 ·rw[if_pos (h.lt k D),h.unit i k A D,aH Oe,ah]
end
def kp(FS:Mx)(r:Nat)(u:Nat->Rat)(k:Nat):Mx:=fun i t=>if i=r then u t / u k else FS i t+ -(FS i k)*(u t / u k)
theorem Ru.push{FS:Mx}{n k:Nat}(h:Ru FS p r n)(D:k<n)(hu:∀i,i<r->u (p i)=0)(h0:u k≠0)(hz:∀t,t<k->u t=0):
  Ru (kp FS r u k) (fun i=>if i=r then k else p i) (r+1) n:=by
 have Oe:∀i,i<r->p i≠k:=fun i A e=>h0 (e▸hu i A);have PZ:u k / u k=1:=by rw[bp,Rat.mul_inv_cancel _ h0]
 have Ov:∀i,i<r->u (p i) / u k=0:=fun i A=>by rw[hu i A,bp,bE]
 refine⟨fun i A=>?_,fun i j A hj e=>?_,fun i j A hj=>?_,fun i t A ht=>?_⟩
 ·split
  ·exact D
  ·exact h.lt i (by omega)
 ·by_cases L:i=r
  ·by_cases G:j=r
   ·omega
   ·rw[if_pos L,aH G]at e;exact absurd e.symm (Oe j (by omega))
  ·by_cases G:j=r
   ·rw[aH L,if_pos G]at e;exact absurd e (Oe i (by omega))
   ·rw[aH L,aH G]at e;exact h.inj i j (by omega) (by omega) e
 ·unfold kp;by_cases L:i=r
  ·rw[if_pos L];by_cases G:j=r
   ·rw[if_pos G,if_pos (by omega),PZ]
   ·rw[aH G,aH (by omega),PZ];grind
  ·rw[aH L];by_cases G:j=r
   ·rw[if_pos G,aH (by omega),Ov i (by omega)]
   ·rw[aH G,Ov i (by omega),ah,bU];exact h.unit i j (by omega) (by omega)
 ·unfold kp;by_cases L:i=r
  ·rw[if_pos L]at ht;rw[if_pos L,hz t ht,bp,bE]
  ·rw[aH L]at ht;rw[aH L,h.lead i t (by omega) ht,Rat.zero_add];rcases aO t k with G|G
   ·rw[hz t G,bp,bE,ah]
   ·rw[h.lead i k (by omega) (by omega)];grind
def kL(FS:Mx)(r:Nat)(v:Nat->Rat):Mx:=fun i t=>if i=r then v t else FS i t
section
variable{FS:Mx}{p:Nat->Nat}{r n k:Nat}{u v:Nat->Rat}
theorem Ji(i:Nat)(A:i<r):eN (kL FS r v) (r+1) n (FS i):=(eN.row (show i<r+1 by omega)).congr fun t _=>by unfold kL;rw[aH (by omega)]
theorem aAW(hu:∀t,t<n->u t=mP FS p r v n t)(hl:∀i,i<r->p i<n):eN (kL FS r v) (r+1) n u:=by
 refine⟨fun i=>if i=r then 1 else -(v (p i)),fun t ht=>?_⟩;rw[hu t ht];show mP FS p r v n t=cw (fun i=>(if i=r then 1 else -(v (p i)))*kL FS r v i t) r+(if r=r then 1 else -(v (p r)))*kL FS r v r t;rw[if_pos rfl,cP (g:=fun i=> -(v (p i)*FS i t)) fun i A=>by unfold kL;rw[aH (by omega),aH (by omega),Rat.neg_mul],lY];unfold mP kL;rw[if_pos rfl,cP (g:=fun i=>v (p i)*FS i t) fun i A=>if_pos (hl i A)];grind
theorem LP(hu:eN (kL FS r v) (r+1) n u):∀i,i<r+1->eN (kL FS r v) (r+1) n (kp FS r u k i):=fun i A=>by
 by_cases L:i=r
 ·exact(hu.mul (1 / u k)).congr fun t _=>by unfold kp;rw[if_pos L,bp,bp,cB]
 ·exact((Ji i (by omega)).add hu (-(FS i k)*(1 / u k))).congr fun t _=>by unfold kp;rw[aH L,bp,bp];grind
theorem IU(h0:u k≠0):eN (kp FS r u k) (r+1) n u:=((eN.row (show r<r+1 by omega)).mul (u k)).congr fun t _=>by
 unfold kp;rw[if_pos rfl,Rat.div_mul_cancel h0]
theorem rL(h0:u k≠0)(i:Nat)(A:i<r):eN (kp FS r u k) (r+1) n (FS i):=((eN.row (show i<r+1 by omega)).add (IU h0) (FS i k / u k)).congr fun t _=>by
 unfold kp;rw[aH (by omega),bp,bp];grind
theorem CT(h0:u k≠0)(hu:∀t,t<n->u t=mP FS p r v n t)(hl:∀i,i<r->p i<n):eN (kp FS r u k) (r+1) n v:=by
 have L:eN (kL FS r u) (r+1) n v:=by
  refine⟨fun i=>if i=r then 1 else v (p i),fun t ht=>?_⟩;show v t=cw (fun i=>(if i=r then 1 else v (p i))*kL FS r u i t) r+(if r=r then 1 else v (p r))*kL FS r u r t;rw[if_pos rfl,cP (g:=fun i=>v (p i)*FS i t) fun i A=>by unfold kL;rw[aH (by omega),aH (by omega)]];unfold kL;rw[if_pos rfl,hu t ht];unfold mP;rw[cP (g:=fun i=>v (p i)*FS i t) fun i A=>if_pos (hl i A)];grind
 refine L.trans fun i A=>?_;by_cases G:i=r
 ·exact(IU h0).congr fun t _=>by unfold kL;rw[if_pos G]
 ·exact(rL h0 i (by omega)).congr fun t _=>by unfold kL;rw[aH G]
end
def mW(row vP:List Rat)(by_:Rat):List Rat:=row.mapIdx (tj (-by_) vP)
theorem tw(row vP:List Rat)(b:Rat):(mW row vP b).length=row.length:=List.length_mapIdx
theorem zd(row vP:List Rat):mW row vP 0=row:=by
 refine bF fun j=>?_;rw[mW,List.getElem?_mapIdx]
 cases row[j]? with
 |none=>rfl
 |some q=>exact congrArg some (by rw[tj,Rat.neg_zero,bE,bU])
def pN(row:List Rat):Nat->Nat->Nat
 |0,k=>k
 |f+1,k=>if row.getD k 0=0 then pN row f (k+1)else k
def tx(row:List Rat)(cols:Nat):Nat:=pN row cols 0
theorem LR{row:List Rat}{k:Nat}:∀(f j:Nat),(∀i,j<=i->i<j+k->row.getD i 0=0)->k<=f->(k<f->row.getD (j+k) 0≠0)->pN row f j=j+k:=by
 induction k with
 |zero=>
  intro f j _ _ h
  cases f with
  |zero=>rfl
  |succ f=>rw[pN,aH (by have:=h (by omega);rwa [cF]at this)];rfl
 |succ k ih=>
  intro f j h0 hf h
  cases f with
  |zero=>omega
  |succ f=>
   rw[pN,if_pos (h0 j (Nat.le_refl _) (by omega)),ih f (j+1) (fun i L G=>h0 i (by omega) (by omega)) (by omega) (fun L=>by rw[Nat.add_assoc,Nat.add_comm 1 k];exact h (by omega))];omega
theorem IV{row:List Rat}{cols k:Nat}(h0:∀i,i<k->row.getD i 0=0)(D:k<=cols)(h:k<cols->row.getD k 0≠0):tx row cols=k:=by
 rw[tx,LR (k:=k) cols 0 (fun i _ G=>h0 i (by omega)) D (fun L=>by rw[aT];exact h L),aT]
abbrev yB:=List (List Rat)×List (Option Nat)×List Nat
def gB(FS:List (List Rat))(at_:List (Option Nat))(row:List Rat):Nat->List Rat
 |0=>row
 |k+1=>match at_.getD k none with
  |some j=>mW (gB FS at_ row k) (FS.getD j []) ((gB FS at_ row k).getD k 0)
  |none=>gB FS at_ row k
theorem iU(FS:List (List Rat))(at_:List (Option Nat))(row:List Rat):∀k,(gB FS at_ row k).length=row.length
 |0=>rfl
 |k+1=>by
  rw[gB];split
  ·rw[tw,iU FS at_ row k]
  ·exact iU FS at_ row k
def gV(FS:List (List Rat))(u:List Rat)(p i:Nat):List (List Rat):=FS.mapIdx fun j r=>if j<i then mW r u (r.getD p 0)else r
def kW(cols:Nat)(s:yB)(i:Nat)(row:List Rat):yB:=
 let r:=gB s.1 s.2.1 row cols
 let p:=tx r cols
 if p=cols then s else
  let u:=r.map (· / r.getD p 0)
  (gV s.1 u p s.1.length++[u],s.2.1.set p (some s.1.length),s.2.2++[i])
def iO(M:List (List Rat))(cols:Nat):Nat->yB
 |0=>([],List.replicate cols none,[])
 |i+1=>kW cols (iO M cols i) i (M.getD i [])
def dN(s:yB):Nat->List (List Rat)×List Nat×List Nat
 |0=>([],[],[])
 |k+1=>match s.2.1.getD k none with
  |some r=>((dN s k).1++[s.1.getD r []],(dN s k).2.1++[k],(dN s k).2.2++[s.2.2.getD r 0])
  |none=>dN s k
def dY(M:List (List Rat))(cols:Nat):List (List Rat)×List Nat×List Nat:=dN (iO M cols M.length) cols
structure tz(n cols i:Nat)(s:yB):Prop where
 len:fZ n s.1
 at_:s.2.1.length=cols
 vP:s.2.2.length=s.1.length
 lt:∀(k r:Nat),s.2.1[k]? =some (some r)->r<s.1.length
 le:s.1.length<=i
 fr:∀j∈s.2.2,j<i
theorem gF(FS:List (List Rat))(u:List Rat)(p i:Nat):(gV FS u p i).length=FS.length:=List.length_mapIdx
theorem HK(FS:List (List Rat))(u:List Rat)(p:Nat):gV FS u p 0=FS:=by
 refine bF fun j=>?_;rw[gV,List.getElem?_mapIdx]
 cases FS[j]? <;>rfl
theorem FY{u:List Rat}{p i:Nat}{r:List Rat}(h:FS[i]? =some r):(gV FS u p i)[i]? =some r:=by
 rw[gV,List.getElem?_mapIdx,h];exact congrArg some (aH (Nat.lt_irrefl i))
theorem zf{u:List Rat}{p i:Nat}{r:List Rat}(h:FS[i]? =some r):gV FS u p (i+1)=(gV FS u p i).set i (mW r u (r.getD p 0)):=by
 refine bF fun j=>?_;have A:=(aD.1 h).1;by_cases hj:i=j
 ·subst hj;rw[aP (by rw[gF];exact A),gV,List.getElem?_mapIdx,h];exact congrArg some (if_pos (bQ i))
 ·rw[aS hj,gV,gV,List.getElem?_mapIdx,List.getElem?_mapIdx]
  cases FS[j]? with
  |none=>rfl
  |some r=>
   have e:(j<i+1)↔(j<i):=by omega
   simp only[bc,e]
theorem Jl{u:List Rat}{p i n:Nat}(h:fZ n FS):fZ n (gV FS u p i):=fun r hr=>by
 obtain⟨j,hj⟩:=aN hr;rw[gV,List.getElem?_mapIdx]at hj
 cases hE:FS[j]? with
 |none=>rw[hE]at hj;cases hj
 |some x=>
  rw[hE]at hj;have F:=h x (aC hE);simp only[bc,Option.some.injEq]at hj;subst hj;split
  ·rw[tw];exact F
  ·exact F
theorem tz.start(n cols:Nat):tz n cols 0 ([],List.replicate cols none,[]):=
 ⟨(fun r hr=>by cases hr),bH ..,rfl,(fun (k r:Nat) h=>by rw[List.getElem?_replicate]at h;split at h<;>cases h),Nat.le_refl _,fun j hj=>by cases hj⟩
theorem tz.step{n cols i:Nat}{s:yB}(h:tz n cols i s){row:List Rat}(hr:row.length=n):tz n cols (i+1) (kW cols s i row):=by
 unfold kW;dsimp only
 split
 ·exact⟨h.len,h.at_,h.vP,h.lt,Nat.le_succ_of_le h.le,fun j hj=>Nat.lt_succ_of_lt (h.fr j hj)⟩
 ·refine⟨fun r hm=>?_,by simp[h.at_],by simp[h.vP,gF],fun k r D=>?_,?_,fun j hj=>?_⟩
  ·rcases bB.1 hm with hm|hm
   ·exact Jl h.len r hm
   ·rw[bD]at hm;subst hm;rw[aJ,iU,hr]
  ·dsimp only at D ⊢;rw[List.length_append,gF,List.length_singleton];rw[List.getElem?_set]at D;split at D
   ·split at D
    ·injection D with D;injection D with D;omega
    ·cases D
   ·have:=h.lt k r D;omega
  ·dsimp only
   rw[List.length_append,gF,List.length_singleton];have:=h.le;omega
  ·rcases bB.1 hj with hj|hj
   ·exact Nat.lt_succ_of_lt (h.fr j hj)
   ·rw[bD]at hj;omega
theorem zg{M:List (List Rat)}{n:Nat}(cols:Nat)(hM:fZ n M):∀i,i<=M.length->tz n cols i (iO M cols i)
 |0,_=>tz.start n cols
 |i+1,A=>by
  have hm:=aA (l:=M) (show i<M.length by omega);refine(zg cols hM i (by omega)).step ?_;rw[List.getD,hm];exact hM _ (aC hm)
structure fC where
 nodes:List (Int×Int×Int)
 bars:List (Int×Int×Rat)
 cZ:List (Int×Int×Rat)
def fC.cols(f:fC):Nat:=f.bars.length+f.cZ.length
def fC.node(f:fC)(n:Int):Int×Int×Int:=f.nodes.getD n.toNat (0,0,0)
def sh(f:fC)(b:Int×Int×Rat):List Int:=[(f.node b.2.1).1-(f.node b.1).1,(f.node b.2.1).2.1-(f.node b.1).2.1,(f.node b.2.1).2.2-(f.node b.1).2.2]
def uA(M:List (List Int))(r c:Nat)(d:Int):List (List Int):=M.set r ((M.getD r []).set c ((M.getD r []).getD c 0+d))
def putAt(M:List (List Int))(r c:Nat)(d:Int):List (List Int):=M.set r ((M.getD r []).set c d)
def ee(f:fC)(M:List (List Int))(i:Nat):Nat->List (List Int)
 |0=>M
 |k+1=>
  let b:=f.bars.getD i (0,0,0)
  let d:=(sh f b).getD k 0
  uA (uA (ee f M i k) (3*b.1+k).toNat i d) (3*b.2.1+k).toNat i (-d)
def dm(f:fC):Nat->List (List Int)
 |0=>List.replicate (3*f.nodes.length) (List.replicate f.cols 0)
 |i+1=>ee f (dm f i) i 3
def fO(f:fC):Nat->List (List Int)
 |0=>dm f f.bars.length
 |i+1=>
  let s:=f.cZ.getD i (0,0,0)
  putAt (fO f i) (3*s.1+s.2.1).toNat (f.bars.length+i) 1
def gZ(f:fC):List (List Int):=fO f f.cZ.length
def dI(l:List Int):List Rat:=l.map fun(n:Int)=>(n:Rat)
def cT(f:fC):List (List Rat):=(gZ f).map dI
def da(M:List (List Rat))(cols:Nat):List (List Rat):=(List.range cols).map fun k=>M.map fun r=>r.getD k 0
abbrev Ld:=Int×Int×Int×Int
def IW(s:List Int)(r:Nat)(d:Int):List Int:=s.set r (s.getD r 0+d)
def dE(l:List Rat)(b:Rat):List Rat:=l.map (· *b)
def fJ(a b:List Rat):List Rat:=a.mapIdx fun i x=>x*b.getD i 0
def cY(f:fC):List Rat:=f.bars.map (·.2.2)++f.cZ.map (·.2.2)
def kM(M:List (List Rat))(b:List Rat):List (List Rat):=M.mapIdx fun i r=>r++[b.getD i 0]
def kX(M:List (List Rat))(cols:Nat):List (List Rat):=dM (dY M cols).1 (dY M cols).2.1 cols cols
def o6(M:List (List Rat))(b:List Rat)(cols:Nat):Option (List Rat):=
 let e:=dY (kM M b) (cols+1)
 if cols∈e.2.1 then none else some (fE e.1 e.2.1 cols e.2.1.length)
def ei(st:List (List Rat))(fl:List Rat):List (List Rat):=st.map fun s=>st.map fun r=>e7 (fJ s fl) r s.length
def gw(st:List (List Rat))(fl x:List Rat):List Rat:=st.map fun s=> -(e7 (fJ s fl) x s.length)
def l8(st:List (List Rat))(c x:List Rat):Nat->List Rat
 |0=>x
 |i+1=>(l8 st c x i).mapIdx fun k q=>q+c.getD i 0*(st.getD i []).getD k 0
def Ib(B:Nat)(q:Rat):Prop:=∃z:Int,q=(z:Rat)/\z.natAbs<=B
theorem Ib.mono(h:Ib B q)(k:B<=C):Ib C q:=let⟨z,e,b⟩:=h;⟨z,e,aW b k⟩
theorem Ib.add{p:Rat}(h:Ib B p)(k:Ib C q):Ib (B+C) (p+q):=by
 obtain⟨z,rfl,b⟩:=h;obtain⟨y,rfl,c⟩:=k;exact⟨z+y,by rw[Rat.intCast_add],by omega⟩
theorem Ib.mul{p:Rat}(h:Ib B p)(k:Ib C q):Ib (B*C) (p*q):=by
 obtain⟨z,rfl,b⟩:=h;obtain⟨y,rfl,c⟩:=k;exact⟨z*y,by rw[Rat.intCast_mul],by rw[Int.natAbs_mul];exact Nat.mul_le_mul b c⟩
theorem Ib.neg{p:Rat}(h:Ib B p):Ib B (-p):=by
 obtain⟨z,rfl,b⟩:=h;exact⟨-z,by rw[Rat.intCast_neg],by omega⟩
theorem Ib.sub{p:Rat}(h:Ib B p)(k:Ib C q):Ib (B+C) (p-q):=by rw[Rat.sub_eq_add_neg];exact h.add k.neg
theorem Ib.zero(B:Nat):Ib B 0:=⟨0,rfl,aQ _⟩
theorem Ib.one(h:1<=B):Ib B 1:=⟨1,rfl,h⟩
theorem Ib.int{z:Int}(h:z.natAbs<=B):Ib B (z:Rat):=⟨z,rfl,h⟩
theorem Ib.sum{B:Nat}{f:Nat->Rat}:∀(n:Nat),(∀k,k<n->Ib B (f k))->Ib (n*B) (cw f n)
 |0,_=>Ib.zero _
 |n+1,h=>by rw[cw,Nat.succ_mul];exact(Ib.sum n fun k D=>h k (by omega)).add (h n (by omega))
def fB(B:Nat):Nat->Nat
 |0=>1
 |n+1=>(n+1)*(B*fB B n)
theorem Ib.sf{k:Nat}(h:Ib B q):Ib B (sf k*q):=by
 unfold Go.Ex.sf;split
 ·rw[show (-1:Rat)*q= -q by grind];exact h.neg
 ·rw[cB];exact h
theorem Ib.det{B:Nat}:∀(n:Nat) {m:Mx},(∀i j,i<n->j<n->Ib B (m i j))->Ib (fB B n) (gA n m)
 |0,_,_=>Ib.one (Nat.le_refl _)
 |n+1,m,h=>by
  unfold gA fB;exact Ib.sum (n+1) fun k D=>((h 0 k (by omega) D).mul (Ib.det n fun i j A hj=>h (i+1) (skip k j) (by omega) (IQ hj))).sf
theorem IX(B n:Nat):B*fB B n<=fB B (n+1):=Nat.le_mul_of_pos_left _ (Nat.succ_pos n)
theorem NY(h:1<=B)(n:Nat):fB B n<=fB B (n+1):=aW (Nat.le_mul_of_pos_left _ h) (IX B n)
theorem rM{B a:Nat}(h:1<=B):∀{b:Nat},a<=b->fB B a<=fB B b
 |0,k=>by rw[Nat.le_zero.1 k];exact Nat.le_refl _
 |b+1,k=>by
  rcases aO b a with L|L
  ·rw[show a=b+1 by omega];exact Nat.le_refl _
  ·exact aW (rM h L) (NY h b)
theorem OS{B EQ:Nat}:∀{n:Nat},n<=EQ->fB B n<=(EQ*B)^n
 |0,_=>Nat.le_refl _
 |n+1,h=>by
  rw[fB,Nat.pow_succ,<-bg,bT _ (EQ*B)];exact Nat.mul_le_mul (Nat.mul_le_mul_right B h) (OS (by omega))
theorem OT{EQ l n:Nat}(R:n<=EQ)(h:EQ*B<=wt l):ln (fB B n)<=l*n+1:=by
 rw[gU,jU];have L:=aW (OS (B:=B) R) (Nat.pow_le_pow_left h n);rw[vY,<-Nat.pow_mul]at L;have G:=vY (l*n);have N:=zR (l*n);rw[show 32*l*n=32*(l*n) by rw[bg]]at L;omega
theorem yj{Fn:Nat}{Fd:Rat}(h0:Fd≠0)(hD:Ib Fn Fd)(hq:Ib Fn (Fd*q)):rl q<=ln Fn:=by
 obtain⟨d,rfl,b⟩:=hD;obtain⟨z,e,c⟩:=hq;have hd:d≠0:=fun e=>h0 (by rw[e];rfl);have e2:q=Rat.divInt z d:=by
  rw[Rat.divInt_eq_div,<-e,bp,bu (d:Rat) q,Rat.mul_assoc,Rat.mul_inv_cancel _ h0,Rat.mul_one]
 have:=lN (a:=z) hd;have:=fY b;have:=fY c;rw[e2];omega
theorem Jn{n:Nat}{m:Mx}(h:r<n):gA n (gT m r fun _=>0)=0:=by
 have L:=nX 1 n r m h (fun _=>0) fun _=>0;rw[show (fun _:Nat=>(0:Rat)+1*0)=fun _=>0 from funext fun _=>by grind]at L;grind
theorem zj{n r:Nat}{m:Mx}(h:r<n)(c:Nat->Rat)(v:Nat->Nat->Rat):∀s,gA n (gT m r fun j=>cw (fun k=>c k*v k j) s)=cw (fun k=>c k*gA n (gT m r (v k))) s
 |0=>Jn h
 |s+1=>by
  have L:=nX (c s) n r m h (fun j=>cw (fun k=>c k*v k j) s) (v s);rw[zj h c v s]at L;exact L
theorem IY{n b:Nat}{m:Mx}(hb:b<n)(QS:a<b)(U:∀j,j<n->m a j=m b j):gA n m=0:=by
 obtain⟨b,rfl⟩:∃k,b=k+1:=⟨b-1,by omega⟩
 cases a with
 |zero=>exact oZ b n m hb U
 |succ a=>
  have L:=Jh (m:=m) (k:=a) (n:=n) (by omega);rw[oZ b n _ hb fun j hj=>?_]at L
  ·grind
  ·rw[show lM 0 (a+1) 0=a+1 by unfold lM;rw[if_pos rfl],show lM 0 (a+1) (b+1)=b+1 by unfold lM;rw[aH (by omega),aH (by omega)]];exact U j hj
theorem FZ{n b:Nat}{m:Mx}(ha:a<n)(hb:b<n)(QS:a≠b)(U:∀j,j<n->m a j=m b j):gA n m=0:=by
 rcases Nat.lt_or_gt_of_ne QS with h|h
 ·exact IY hb h U
 ·exact IY ha h fun j hj=>(U j hj).symm
section
variable{FS F8:Mx}{p:Nat->Nat}{r n:Nat}{v:Nat->Rat}
theorem Ru.coeff(h:Ru FS p r n)(hv:eN FS r n v):∀t,t<n->v t=cw (fun i=>v (p i)*FS i t) r:=by
 obtain⟨c,hc⟩:=hv;intro t ht;rw[hc t ht];refine cP fun i A=>?_;rw[hc (p i) (h.lt i A),eo A fun k D Oe=>by rw[h.unit i k A D,aH Oe,ah],h.unit i i A A,if_pos rfl,Rat.mul_one]
def si(F8:Mx)(p:Nat->Nat)(r:Nat):Rat:=gA r fun j i=>F8 (r-1-i) (p (r-1-j))
theorem aAX(h:Ru FS p r n)(hZ:∀i,i<r->eN FS r n (F8 i)){k t:Nat}(D:k<r)(ht:t<n):
  si F8 p r*FS k t=gA r (gT (fun j i=>F8 (r-1-i) (p (r-1-j))) (r-1-k) fun i=>F8 (r-1-i) t):=by
 have e:∀i j,i<r->j<r->gT (fun j i=>F8 (r-1-i) (p (r-1-j))) (r-1-k) (fun i=>F8 (r-1-i) t) i j=gT (fun j i=>F8 (r-1-i) (p (r-1-j))) (r-1-k) (fun i=>cw (fun j=>FS j t*F8 (r-1-i) (p j)) r) i j:=fun i j A hj=>by
  unfold gT;split
  ·show F8 (r-1-j) t=cw (fun l=>FS l t*F8 (r-1-j) (p l)) r;rw[h.coeff (hZ (r-1-j) (by omega)) t ht];exact cP fun l _=>bu _ _
  ·rfl
 rw[jJ e,zj (v:=fun k i=>F8 (r-1-i) (p k)) (by omega),eo D fun j hj Oe=>?_]
 ·rw[show gT (fun j i=>F8 (r-1-i) (p (r-1-j))) (r-1-k) (fun i=>F8 (r-1-i) (p k))=fun j i=>F8 (r-1-i) (p (r-1-j))from ?_]
  ·rw[si,bu]
  ·funext i j
   unfold gT;split
   ·rename_i A;rw[A,show r-1-(r-1-k)=k by omega]
   ·rfl
 ·rw[FZ (a:=r-1-k) (b:=r-1-j) (by omega) (by omega) (by omega) fun i A=>?_,ah];unfold gT;rw[if_pos rfl,aH (by omega)];show F8 (r-1-i) (p j)=F8 (r-1-i) (p (r-1-(r-1-j)));rw[show r-1-(r-1-j)=j by omega]
theorem aAY(h:Ru FS p r n)(hZ:∀i,i<r->eN FS r n (F8 i)){t:Nat}(ht:t<n):
  gA (r+1) (fun j i=>if j=0 then F8 (r-i) t else F8 (r-i) (p (r-j)))=mP FS p r (F8 r) n t*si F8 p r:=by
 obtain⟨m,hm⟩:∃m:Mx,m=fun j i=>if j=0 then F8 (r-i) t else F8 (r-i) (p (r-j)):=⟨_,rfl⟩
 obtain⟨w,I⟩:∃w:Nat->Rat,w=fun i=>if i=0 then mP FS p r (F8 r) n t else 0:=⟨_,rfl⟩
 rw[<-hm];have Oa:∀j,j<r->∀i,m (r-j) i=F8 (r-i) (p j):=fun j hj i=>by rw[hm];simp only;rw[aH (by omega),show r-(r-j)=j by omega]
 have e:∀i j,i<r+1->j<r+1->m i j=gT m 0 (fun i=>w i+1*cw (fun j=>FS j t*m (r-j) i) r) i j:=fun i j A hj=>by
  unfold gT;split
  ·rename_i h0;subst h0;show m 0 j=w j+1*cw (fun l=>FS l t*m (r-l) j) r;rw[cP (g:=fun l=>FS l t*F8 (r-j) (p l)) fun l hl=>by rw[Oa l hl],cB,I];simp only
   by_cases VT:j=0
   ·rw[if_pos VT,VT,hm];simp only[if_pos,Nat.sub_zero]
    unfold mP;rw[cP (f:=fun i=>if p i<n then F8 r (p i)*FS i t else 0) (g:=fun i=>FS i t*F8 r (p i)) fun l hl=>by rw[if_pos (h.lt l hl),bu]];grind
   ·rw[aH VT,Rat.zero_add,hm];simp only[if_pos]
    rw[h.coeff (hZ (r-j) (by omega)) t ht];exact cP fun l _=>bu _ _
  ·rfl
 rw[jJ e,nX 1 (r+1) 0 m (by omega),zj (v:=fun k i=>m (r-k) i) (by omega),cP (g:=fun _=>0) fun j hj=>?_,dc,ah,bU]
 ·rw[gA,eo (i:=0) (by omega) fun k D Oe=>?_]
  ·unfold gT;rw[if_pos rfl,I];simp only[if_pos]
   rw[show sf 0=1 by decide,cB,si,jJ fun i j A hj=>?_];rw[aH (by omega),hm];simp only
   rw[aH (by omega),show skip 0 j=j+1 by unfold skip;rw[aH (by omega)],show r-(j+1)=r-1-j by omega,show r-(i+1)=r-1-i by omega]
  ·unfold gT;rw[if_pos rfl,I];simp only
   rw[aH Oe,bE,ah]
 ·rw[FZ (a:=0) (b:=r-j) (by omega) (by omega) (by omega) fun i _=>?_,ah];unfold gT;rw[if_pos rfl,aH (by omega)]
theorem NZ(d:Rat)(k t:Nat):mP FS p r (fun t=>d*v t) k t=d*mP FS p r v k t:=by
 unfold mP;rw[cP (g:=fun i=>d*if p i<k then v (p i)*FS i t else 0) fun i _=>?_,ek]
 ·grind
 ·split
  ·rw[Rat.mul_assoc]
  ·rw[ah]
theorem Na(h:Ru FS p r n){x:Nat->Rat}(F:eN FS r n fun t=>v t+ -(x t))(h0:∀i,i<r->x (p i)=0){t:Nat}(ht:t<n):x t=mP FS p r v n t:=by
 have L:=h.coeff F t ht;unfold mP;rw[cP (g:=fun i=>v (p i)*FS i t) fun i A=>if_pos (h.lt i A)];rw[cP (g:=fun i=>v (p i)*FS i t) fun i A=>by rw[h0 i A];grind]at L;grind
end
structure zk(FS:Mx)(p:Nat->Nat)(r n B:Nat)(F8:Mx):Prop where
 ru:Ru FS p r n
 sp:∀i,i<r->eN FS r n (F8 i)
 ib:∀i t,i<r->t<n->Ib B (F8 i t)
 nz:si F8 p r≠0
section
variable{FS F8:Mx}{p:Nat->Nat}{r n B k:Nat}{v u:Nat->Rat}
theorem zk.start(FS F8:Mx)(p:Nat->Nat)(n B:Nat):zk FS p 0 n B F8:=
 ⟨⟨fun _ h=>(by omega),fun _ _ h=>(by omega),fun _ _ h=>(by omega),fun _ _ h=>(by omega)⟩,fun _ h=>(by omega),fun _ _ h=>(by omega),by show(1:Rat)≠0;decide⟩
theorem zk.push(h:zk FS p r n B F8)(hd:d≠0)(hz:∀t,t<n->Ib B (d*v t))(hu:∀t,t<n->u t=mP FS p r v n t)(D:k<n)(h0:u k≠0)(hl:∀t,t<k->u t=0):
  zk (kp FS r u k) (fun i=>if i=r then k else p i) (r+1) n B fun i t=>if i=r then d*v t else F8 i t:=by
 refine⟨h.ru.push D (fun i A=>by rw[hu _ (h.ru.lt i A),IT h.ru A]) h0 hl,fun i A=>?_,fun i t A ht=>?_,?_⟩
 ·by_cases L:i=r
  ·exact((CT h0 hu h.ru.lt).mul d).congr fun t _=>by simp only[if_pos L];rw[bu]
  ·exact((h.sp i (by omega)).trans fun j hj=>rL h0 j hj).congr fun t _=>by simp only[aH L]
 ·by_cases L:i=r
  ·simp only[if_pos L];exact hz t ht
  ·simp only[aH L];exact h.ib i t (by omega) ht
 ·have hb:=aAY (F8:=fun i t=>if i=r then d*v t else F8 i t) h.ru (fun i A=>(h.sp i A).congr fun t _=>by simp only[aH (Nat.ne_of_lt A)]) D;have e1:si (fun i t=>if i=r then d*v t else F8 i t) p r=si F8 p r:=jJ fun i j A hj=>by simp only;rw[aH (by omega)]
  simp only[if_pos]at hb;rw[NZ,<-hu k D,e1]at hb;have e2:si (fun i t=>if i=r then d*v t else F8 i t) (fun i=>if i=r then k else p i) (r+1)=d*u k*si F8 p r:=by
   rw[<-hb];refine jJ fun i j A hj=>?_;by_cases L:i=0
   ·subst L;simp only[if_true]
    rw[if_pos (show r+1-1-0=r by omega),show r+1-1-j=r-j by omega]
   ·simp only[aH L]
    rw[aH (show ¬r+1-1-i=r by omega),show r+1-1-j=r-j by omega,show r+1-1-i=r-i by omega]
  rw[e2];have PF:∀{a b:Rat},a≠0->b≠0->a*b≠0:=fun ha hb e=>by
   rcases Rat.mul_eq_zero.1 e with h|h
   ·exact ha h
   ·exact hb h
  exact PF (PF hd h0) h.nz
theorem zk.den(h:zk FS p r n B F8):Ib (fB B r) (si F8 p r):=Ib.det r fun i j A hj=>h.ib _ _ (by omega) (h.ru.lt _ (by omega))
theorem zk.ent(h:zk FS p r n B F8){i t:Nat}(A:i<r)(ht:t<n):Ib (fB B r) (si F8 p r*FS i t):=by
 rw[aAX h.ru h.sp A ht];refine Ib.det r fun j l hj hl=>?_;unfold gT;split
 ·exact h.ib _ _ (by omega) ht
 ·exact h.ib _ _ (by omega) (h.ru.lt _ (by omega))
theorem zk.LS(h:zk FS p r n B F8){i t:Nat}(A:i<r)(ht:t<n):rl (FS i t)<=ln (fB B r):=yj h.nz h.den (h.ent A ht)
theorem zk.mP(h:zk FS p r n B F8)(hz:∀t,t<n->Ib B (d*v t))(k:Nat){t:Nat}(ht:t<n):Ib (fB B (r+1)) (d*si F8 p r*mP FS p r v k t):=by
 unfold Go.Ex.mP;rw[show ∀a b c s:Rat,a*b*(c-s)=b*(a*c)-(a*b)*s from fun a b c s=>by grind,<-ek,fB,Nat.succ_mul,Nat.add_comm];refine Ib.sub (by rw[bT B];exact h.den.mul (hz t ht)) (Ib.sum r fun i A=>?_);split
 ·rw[show ∀a b c s:Rat,a*b*(c*s)=(a*c)*(b*s)from fun a b c s=>by grind];exact(hz _ (h.ru.lt i A)).mul (h.ent A ht)
 ·rw[ah];exact Ib.zero _
theorem zk.LU(h:zk FS p r n B F8)(hB:1<=B)(hd:d≠0)(hdB:Ib B d)(hz:∀t,t<n->Ib B (d*v t))(k:Nat){t:Nat}(ht:t<n):Go.Ex.rl (Go.Ex.mP FS p r v k t)<=ln (fB B (r+1)):=
 yj (fun e=>by rcases Rat.mul_eq_zero.1 e with e|e;exact hd e;exact h.nz e) ((hdB.mul h.den).mono (IX B r)) (h.mP hz k ht)
end
def zl(M:List (List Rat))(n B:Nat):Prop:=∀j,j<M.length->∃d:Rat,d≠0/\Ib B d/\∀t,t<n->Ib B (d*dD M j t)
theorem eN.HL{FS D':Mx}{n:Nat}(h:eN FS r n v)(e:∀i t,i<r->t<n->D' i t=FS i t):eN D' r n v:=by
 obtain⟨c,hc⟩:=h;exact⟨c,fun t ht=>by rw[hc t ht];exact cP fun i A=>by rw[e i t A ht]⟩
theorem eN.more{FS:Mx}{s n:Nat}(h:eN FS r n v)(k:r<=s):eN FS s n v:=h.trans fun i A=>eN.row (Nat.lt_of_lt_of_le A k)
theorem Ru.congr{FS D':Mx}{q:Nat->Nat}{n:Nat}(h:Ru FS p r n)(e:∀i t,i<r->t<n->D' i t=FS i t)(ep:∀i,i<r->q i=p i):Ru D' q r n:=
 ⟨fun i A=>by rw[ep i A];exact h.lt i A,fun i j A hj k=>h.inj i j A hj (by rw[<-ep i A,<-ep j hj];exact k),fun i j A hj=>by rw[ep i A,e j _ hj (h.lt i A)];exact h.unit i j A hj,
  fun i t A ht=>by rw[ep i A]at ht;rw[e i t A (by have:=h.lt i A;omega)];exact h.lead i t A ht⟩
theorem zk.congr{FS D' F8 AC:Mx}{q:Nat->Nat}{n:Nat}(h:zk FS p r n B F8)(e:∀i t,i<r->t<n->D' i t=FS i t)(ep:∀i,i<r->q i=p i)(eZ:∀i t,i<r->t<n->AC i t=F8 i t):zk D' q r n B AC:=by
 refine⟨h.ru.congr e ep,fun i A=>((h.sp i A).congr fun t ht=>eZ i t A ht).HL e,fun i t A ht=>by rw[eZ i t A ht];exact h.ib i t A ht,?_⟩;rw[show si AC q r=si F8 p r from jJ fun i j A hj=>by rw[ep _ (by omega),eZ _ _ (by omega) (h.ru.lt _ (by omega))]];exact h.nz
theorem zm(row:List Rat):∀f k,k<=pN row f k/\pN row f k<=k+f/\(∀t,k<=t->t<pN row f k->row.getD t 0=0)/\(pN row f k<k+f->row.getD (pN row f k) 0≠0)
 |0,k=>by
  unfold pN;exact⟨Nat.le_refl _,Nat.le_refl _,fun t L G=>by omega,fun h=>by omega⟩
 |f+1,k=>by
  unfold pN;split
  ·rename_i h;obtain⟨L,G,N,h4⟩:=zm row f (k+1);refine⟨by omega,by omega,fun t k1 k2=>?_,fun h5=>h4 (by omega)⟩;rcases aO k t with h5|h5
   ·exact N t h5 k2
   ·rw[show t=k by omega];exact h
  ·rename_i h;exact⟨Nat.le_refl _,by omega,fun t L G=>by omega,fun _=>h⟩
theorem Jo(row:List Rat)(n:Nat):tx row n<=n/\(∀t,t<tx row n->row.getD t 0=0)/\(tx row n≠n->row.getD (tx row n) 0≠0):=by
 obtain⟨_,G,N,h4⟩:=zm row n 0;unfold tx;exact⟨by omega,fun t h=>N t (aQ _) h,fun h=>h4 (by omega)⟩
theorem Jp(y:List Rat)(q:Rat)(t:Nat):(y.map (· / q)).getD t 0=y.getD t 0 / q:=by
 simp only[List.getD,aL]
 cases y[t]? with
 |none=>show(0:Rat)=0 / q;rw[bp,bE]
 |some x=>rfl
structure HM(M:List (List Rat))(n B i:Nat)(s:yB)(p:Nat->Nat)(F8:Mx):Prop where
 ok:tz n n i s
 OU:∀k,k<n->∀r:Nat,s.2.1[k]? =some (some r)↔r<s.1.length/\p r=k
 zn:zk (dD s.1) p s.1.length n B F8
 up:∀r,r<s.1.length->eN (dD M) i n (dD s.1 r)
 dn:∀j,j<i->eN (dD s.1) s.1.length n (dD M j)
section
variable{M:List (List Rat)}{n B i:Nat}{s:yB}{p:Nat->Nat}{F8:Mx}
theorem HM.mP(h:HM M n B i s p F8){x:List Rat}(F:x.length=n):∀k,k<=n->∀t,t<n->(gB s.1 s.2.1 x k).getD t 0=mP (dD s.1) p s.1.length (fun t=>x.getD t 0) k t
 |0,_,t,ht=>by rw[LM];rfl
 |k+1,D,t,ht=>by
  have ih:=HM.mP h F k (by omega);obtain⟨o,ho⟩:∃o,s.2.1[k]? =some o:=⟨_,aA (by rw[h.ok.at_];omega)⟩
  have hd:s.2.1.getD k none=o:=by rw[List.getD,ho];rfl
  rw[gB,hd]
  cases o with
  |none=>
   simp only
   rw[ih t ht,LN fun r hr e=>?_];have:=(h.OU k (by omega) r).2 ⟨hr,e⟩;rw[ho]at this
   cases this
  |some r=>
   simp only
   obtain⟨hr,e⟩:=(h.OU k (by omega) r).1 ho;rw[mW,vg (by rw[iU,F];exact ht),ih t ht,ih k (by omega),<-e,LO h.zn.ru hr];rfl
theorem HM.step(h:HM M n B i s p F8)(hM:fZ n M)(A:i<M.length)(hd:d≠0)(hz:∀t,t<n->Ib B (d*dD M i t)):
  ∃p' Z',HM M n B (i+1) (kW n s i (M.getD i [])) p' Z':=by
 have F:(M.getD i []).length=n:=hM.getD A;have Of:=h.ok.step F;obtain⟨y,hy⟩:∃y,gB s.1 s.2.1 (M.getD i []) n=y:=⟨_,rfl⟩
 have hu:∀t,t<n->y.getD t 0=Go.Ex.mP (dD s.1) p s.1.length (dD M i) n t:=fun t ht=>by rw[<-hy];exact h.mP F n (Nat.le_refl _) t ht
 have hyl:y.length=n:=by rw[<-hy,iU,F]
 obtain⟨q1,q2,q3⟩:=Jo y n;by_cases hq:tx y n=n
 ·have e:kW n s i (M.getD i [])=s:=by unfold kW;simp only[hy,hq,if_true]
  rw[e]at Of ⊢;refine⟨p,F8,Of,h.OU,h.zn,fun r hr=>(h.up r hr).more (Nat.le_succ i),fun j hj=>?_⟩;rcases aO j i with L|L
  ·exact h.dn j L
  ·rw[show j=i by omega];refine⟨fun j=>dD M i (p j),fun t ht=>?_⟩;have G:=hu t ht;rw[q2 t (by omega)]at G;unfold Go.Ex.mP at G;rw[cP (g:=fun j=>dD M i (p j)*dD s.1 j t) fun j hj=>if_pos (h.zn.ru.lt j hj)]at G;grind
 ·have h0:=q3 hq;obtain⟨k,D⟩:∃k,tx y n=k:=⟨_,rfl⟩
  rw[D]at hq h0 q1 q2;have Wc:k<n:=by omega
  have e:kW n s i (M.getD i [])=(gV s.1 (y.map (· / y.getD k 0)) k s.1.length++[y.map (· / y.getD k 0)],s.2.1.set k (some s.1.length),s.2.2++[i]):=by
   unfold kW;simp only[hy,D,aH hq]
  rw[e]at Of ⊢;have hl:(gV s.1 (y.map (· / y.getD k 0)) k s.1.length).length=s.1.length:=gF ..;have Ry:(gV s.1 (y.map (· / y.getD k 0)) k s.1.length++[y.map (· / y.getD k 0)]).length=s.1.length+1:=by rw[List.length_append,hl];rfl
  have hdv:∀t,t<n->(y.map (· / y.getD k 0)).getD t 0=y.getD t 0 / y.getD k 0:=fun t _=>Jp y _ t;have hE:∀a t,a<s.1.length+1->t<n->dD (gV s.1 (y.map (· / y.getD k 0)) k s.1.length++[y.map (· / y.getD k 0)]) a t=kp (dD s.1) s.1.length (fun t=>y.getD t 0) k a t:=fun a t ha ht=>by
   unfold kp;by_cases L:a=s.1.length
   ·rw[if_pos L,<-hdv t ht,dD];congr 1;rw[List.getD,aM (by omega),hl,L,bJ];rfl
   ·have RV:a<s.1.length:=by omega
    have hr:=aA RV;have Po:(s.1[a]).length=n:=h.ok.len _ (aY RV);have Y:s.1.getD a []=s.1[a]:=by rw[List.getD,hr];rfl
    have Oa:(gV s.1 (y.map (· / y.getD k 0)) k s.1.length++[y.map (· / y.getD k 0)]).getD a []=mW s.1[a] (y.map (· / y.getD k 0)) ((s.1[a]).getD k 0):=by
     rw[List.getD,aI (by omega),gV,List.getElem?_mapIdx,hr];simp only[bc,Option.getD_some,if_pos RV]
    rw[aH L,dD,Oa,mW,vg (by omega),hdv t ht];unfold dD;rw[Y]
  have hC:=h.zn.push hd hz hu Wc h0 q2;have hu2:=aAW (v:=dD M i) hu h.zn.ru.lt;refine⟨fun i=>if i=s.1.length then k else p i,fun a t=>if a=s.1.length then d*dD M i t else F8 a t,Of,?_,?_,?_,?_⟩
  ·intro c hc r;dsimp only
   rw[Ry];have Oe:∀j,j<s.1.length->p j≠k:=fun j hj e=>h0 (by rw[hu k Wc,<-e];exact IT h.zn.ru hj);by_cases L:c=k
   ·rw[L,aP (by rw[h.ok.at_];exact Wc)];constructor
    ·intro e;injection e with e;injection e with e;exact⟨by omega,by rw[if_pos e.symm]⟩
    ·rintro⟨G,N⟩;by_cases h4:r=s.1.length
     ·rw[h4]
     ·rw[aH h4]at N;exact absurd N (Oe r (by omega))
   ·rw[aS (Ne.symm L),h.OU c hc r];constructor
    ·rintro⟨G,N⟩;exact⟨by omega,by rw[aH (by omega)];exact N⟩
    ·rintro⟨G,N⟩;by_cases h4:r=s.1.length
     ·rw[if_pos h4]at N;exact absurd N.symm L
     ·rw[aH h4]at N;exact⟨by omega,N⟩
  ·dsimp only
   rw[Ry];exact hC.congr hE (fun _ _=>rfl) fun _ _ _ _=>rfl
  ·dsimp only
   rw[Ry];intro a ha;refine((LP (k:=k) hu2 a ha).trans fun b hb=>?_).congr fun t ht=>hE a t ha ht;by_cases L:b=s.1.length
   ·exact(eN.row (show i<i+1 by omega)).congr fun t _=>by unfold kL;rw[if_pos L]
   ·exact((h.up b (by omega)).more (Nat.le_succ i)).congr fun t _=>by unfold kL;rw[aH L]
  ·dsimp only
   rw[Ry];intro j hj;refine eN.HL ?_ hE;rcases aO j i with L|L
   ·exact(h.dn j L).trans fun b hb=>rL h0 b hb
   ·rw[show j=i by omega];exact CT h0 hu h.zn.ru.lt
end
theorem rN{M:List (List Rat)}{n B:Nat}(hM:fZ n M)(hW:zl M n B):∀i,i<=M.length->∃p F8,HM M n B i (iO M n i) p F8
 |0,_=>⟨fun _=>0,fun _ _=>0,tz.start n n,fun k _ r=>⟨fun h=>(by
   simp only[iO,List.getElem?_replicate]at h
   split at h<;>cases h),fun h=>(by have:=h.1;simp[iO]at this)⟩,zk.start _ _ _ _ _,fun r h=>(by simp[iO]at h),fun j h=>by omega⟩
 |i+1,A=>by
  obtain⟨p,F8,h⟩:=rN hM hW i (by omega);obtain⟨d,hd,-,hz⟩:=hW i (by omega);exact h.step hM (by omega) hd hz
theorem LV{n:Nat}(hM:fZ n M)(hW:zl M n B)(hB:1<=B){i:Nat}(A:i<=M.length):∀r∈(iO M n i).1,∀q∈r,rl q<=ln (fB B M.length):=fun r hr q hq=>by
 obtain⟨p,F8,h⟩:=rN hM hW i A;obtain⟨a,ha⟩:=aN hr;obtain⟨t,ht⟩:=aN hq;have RV:=(aD.1 ha).1;have TK:=(aD.1 ht).1;rw[h.ok.len r hr]at TK;have L:=h.zn.LS RV TK;rw[dD,show(iO M n i).1.getD a []=r by rw[List.getD,ha];rfl,show r.getD t 0=q by rw[List.getD,ht];rfl]at L;exact aW L (fY (rM hB (aW h.ok.le A)))
theorem LW{n:Nat}(hM:fZ n M)(hW:zl M n B)(hB:1<=B){i k:Nat}(A:i<M.length)(D:k<=n):∀q∈gB (iO M n i).1 (iO M n i).2.1 (M.getD i []) k,rl q<=ln (fB B M.length):=fun q hq=>by
 obtain⟨p,F8,h⟩:=rN hM hW i (by omega);have F:(M.getD i []).length=n:=hM.getD A;obtain⟨t,ht⟩:=aN hq;have TK:=(aD.1 ht).1;rw[iU,F]at TK;have L:=h.mP F k D t TK;rw[show (gB (iO M n i).1 (iO M n i).2.1 (M.getD i []) k).getD t 0=q by rw[List.getD,ht];rfl]at L;obtain⟨d,hd,hdB,hz⟩:=hW i A;rw[L];exact aW (h.zn.LU hB hd hdB hz k TK) (fY (rM hB (by have:=h.ok.le;omega)))
theorem CU{s:yB}:∀k,(dN s k).1.length=(dN s k).2.1.length/\(∀i,i<(dN s k).2.1.length->∃r:Nat,s.2.1[(dN s k).2.1.getD i 0]? =some (some r)/\(dN s k).1.getD i []=s.1.getD r []/\(dN s k).2.1.getD i 0<k)/\
  (∀i j,i<j->j<(dN s k).2.1.length->(dN s k).2.1.getD i 0<(dN s k).2.1.getD j 0)/\∀q,q<k->∀r:Nat,s.2.1[q]? =some (some r)->∃i,i<(dN s k).2.1.length/\(dN s k).2.1.getD i 0=q
 |0=>⟨rfl,fun i h=>(by cases h),fun i j _ h=>(by cases h),fun q h=>by omega⟩
 |k+1=>by
  obtain⟨L,G,N,h4⟩:=CU (s:=s) k;have step:(∃r:Nat,s.2.1[k]? =some (some r)/\dN s (k+1)=((dN s k).1++[s.1.getD r []],(dN s k).2.1++[k],(dN s k).2.2++[s.2.2.getD r 0]))\/((∀r:Nat,s.2.1[k]? ≠some (some r))/\dN s (k+1)=dN s k):=by
   rw[dN]
   cases ho:s.2.1[k]? with
   |none=>exact .inr ⟨fun r e=>(by cases e),by rw[show s.2.1.getD k none=none by rw[List.getD,ho];rfl]⟩
   |some o=>cases o with
    |none=>exact .inr ⟨fun r e=>(by cases e),by rw[show s.2.1.getD k none=none by rw[List.getD,ho];rfl]⟩
    |some r=>exact .inl ⟨r,rfl,by rw[show s.2.1.getD k none=some r by rw[List.getD,ho];rfl]⟩
  rcases step with⟨r,hr,e⟩|⟨hr,e⟩
  ·rw[e];have old:∀i,i<(dN s k).2.1.length->((dN s k).2.1++[k]).getD i 0=(dN s k).2.1.getD i 0:=fun i A=>by rw[List.getD,aI A,<-List.getD]
   have new:((dN s k).2.1++[k]).getD (dN s k).2.1.length 0=k:=by rw[List.getD,aM (Nat.le_refl _),bJ];rfl
   have hlen:((dN s k).2.1++[k]).length=(dN s k).2.1.length+1:=by simp
   dsimp only
   rw[hlen];refine⟨by simp[L],fun i A=>?_,fun i j Pr hj=>?_,fun q hq x F=>?_⟩
   ·rcases aO i (dN s k).2.1.length with h5|h5
    ·obtain⟨x,x1,x2,x3⟩:=G i h5;rw[old i h5];refine⟨x,x1,?_,by omega⟩;rw[List.getD,aI (by omega),<-List.getD];exact x2
    ·rw[show i=(dN s k).2.1.length by omega,new];refine⟨r,hr,?_,by omega⟩;rw[List.getD,aM (by omega),L,bJ];rfl
   ·rcases aO j (dN s k).2.1.length with h5|h5
    ·rw[old i (by omega),old j h5];exact N i j Pr h5
    ·rw[show j=(dN s k).2.1.length by omega,new,old i (by omega)];obtain⟨_,_,_,x3⟩:=G i (by omega);exact x3
   ·rcases aO q k with h5|h5
    ·obtain⟨i,i1,i2⟩:=h4 q h5 x F;exact⟨i,by omega,by rw[old i i1];exact i2⟩
    ·exact⟨(dN s k).2.1.length,by omega,by rw[new];omega⟩
  ·rw[e];refine⟨L,fun i A=>?_,N,fun q hq x F=>?_⟩
   ·obtain⟨x,x1,x2,x3⟩:=G i A;exact⟨x,x1,x2,by omega⟩
   ·rcases aO q k with h5|h5
    ·exact h4 q h5 x F
    ·rw[show q=k by omega]at F;exact absurd F (hr x)
theorem gz{α:Type}{a b:List α}(d:α)(hl:a.length=b.length)(h:∀i,i<a.length->a.getD i d=b.getD i d):a=b:=by
 refine List.ext_getElem hl fun i L G=>?_;have:=h i L
 rwa [List.getD,List.getD,aA L,aA G]at this
theorem o7{n:Nat}(hM:fZ n M)(hW:zl M n B):(dY M n).2.1=(cQ M n).2/\(dY M n).1=(cQ M n).1.take (cQ M n).2.length:=by
 obtain⟨p,F8,h⟩:=rN hM hW M.length (Nat.le_refl _);obtain⟨L,G,N,h4⟩:=CU (s:=iO M n M.length) n;unfold dY;generalize iO M n M.length=s at*
 obtain⟨D',hF⟩:∃D',dN s n=D':=⟨_,rfl⟩
 rw[hF]at L G N h4 ⊢;have Oa:∀i,i<D'.2.1.length->∃r,r<s.1.length/\p r=D'.2.1.getD i 0/\D'.1.getD i []=s.1.getD r []/\D'.2.1.getD i 0<n:=fun i A=>by
  obtain⟨r,r1,r2,E⟩:=G i A;obtain⟨k1,k2⟩:=(h.OU _ E r).1 r1;exact⟨r,k1,k2,r2,E⟩
 have inj:∀i j,i<D'.2.1.length->j<D'.2.1.length->D'.2.1.getD i 0=D'.2.1.getD j 0->i=j:=fun i j A hj e=>by
  rcases cC i j with h5|h5|h5
  ·have:=N i j h5 hj;omega
  ·exact h5
  ·have:=N j i h5 A;omega
 have hrf:Rf (dD D'.1) (fun i=>D'.2.1.getD i 0) D'.2.1.length n:=by
  refine⟨fun i A=>?_,N,fun i j A hj=>?_,fun i t A ht=>?_⟩
  ·obtain⟨_,_,_,_,h5⟩:=Oa i A;exact h5
  ·obtain⟨a,a1,a2,a3,_⟩:=Oa i A;obtain⟨b,b1,b2,b3,_⟩:=Oa j hj;rw[dD,b3,<-a2];have:=h.zn.ru.unit a b a1 b1;unfold dD at this;rw[this];by_cases h5:j=i
   ·rw[if_pos h5,if_pos (h.zn.ru.inj b a b1 a1 (by rw[a2,b2,h5]))]
   ·rw[aH h5,aH fun e=>h5 (inj j i hj A (by rw[<-a2,<-b2,e]))]
  ·obtain⟨a,a1,a2,a3,_⟩:=Oa i A;rw[dD,a3];have:=h.zn.ru.lead a t a1 (by rw[a2];exact ht);unfold dD at this;exact this
 have XQ:∀r,r<s.1.length->eN (dD D'.1) D'.2.1.length n (dD s.1 r):=fun r hr=>by
  have hp:=h.zn.ru.lt r hr;obtain⟨i,i1,i2⟩:=h4 (p r) hp r ((h.OU _ hp r).2 ⟨hr,rfl⟩);obtain⟨a,a1,a2,a3,_⟩:=Oa i i1;have e:a=r:=h.zn.ru.inj a r a1 hr (by rw[a2,i2]);exact(eN.row i1).congr fun t _=>by rw[dD,dD,a3,e]
 obtain⟨e1,e2,e3⟩:=FW hM hrf (fun i A=>by
  obtain⟨a,a1,a2,a3,_⟩:=Oa i A
  exact(h.up a a1).congr fun t _=>by rw[dD,dD,a3]) fun j hj=>(h.dn j hj).trans XQ
 obtain⟨g1,g2,-,-,-⟩:=eA hM n (Nat.le_refl _);refine⟨gz 0 e1.symm fun i A=>(e2 i A).symm,gz [] ?_ fun i A=>?_⟩
 ·rw[aX,e1,L];omega
 ·rw[L]at A;have Rz:i<(cQ M n).2.length:=by omega
  obtain⟨a,a1,a2,a3,_⟩:=Oa i A;have R6:(D'.1.getD i []).length=n:=by rw[a3];exact h.ok.len.getD a1
  have Y:((cQ M n).1.take (cQ M n).2.length).getD i []=(cQ M n).1.getD i []:=by rw[List.getD,bS Rz,<-List.getD]
  rw[Y];refine gz 0 (by rw[R6,g1.getD (by omega)]) fun t ht=>?_;rw[R6]at ht;exact(e3 i t A ht).symm
structure ElI(M:List (List Rat))(n B c:Nat)(s:List (List Rat)×List Nat)(σ:Nat->Nat)(F8:Mx):Prop where
 red:Red n c s
 mon:LL s
 len:s.1.length=M.length
 zn:zk (dD s.1) (fun i=>s.2.getD i 0) s.2.length n B F8
 org:∀j,j<M.length->σ j<M.length
 rest:∀j,s.2.length<=j->j<M.length->∀t,t<n->dD s.1 j t=mP (dD s.1) (fun i=>s.2.getD i 0) s.2.length (dD M (σ j)) n t
theorem ElI.step{n c:Nat}{s:List (List Rat)×List Nat}{F8:Mx}(h:ElI M n B c s σ F8)(hW:zl M n B)(hc:c<n):∃σ' Z',ElI M n B (c+1) (dW s c) σ' Z':=by
 have Qw:=h.red.step hc;have hmon:=h.mon.step h.red hc;have hlen:(dW s c).1.length=M.length:=by rw[oW,h.len]
 obtain⟨hl,hle,hz,Qv,hu⟩:=h.red;rcases jm c hle with⟨e,h0⟩|⟨k,L,G,N,e⟩
 ·rw[e]at Qw hmon hlen ⊢;exact⟨σ,F8,Qw,hmon,hlen,h.zn,h.org,h.rest⟩
 ·obtain⟨r1,r2⟩:=lW hl L G N e;have e2:(dW s c).2=s.2++[c]:=by rw[e]
  have e3:(dW s c).2.length=s.2.length+1:=by rw[e2];simp
  have hkM:k<M.length:=by rw[<-h.len];exact G
  have D:=h.rest k L hkM;obtain⟨d,hd,-,hdz⟩:=hW (σ k) (h.org k hkM);have hC:=h.zn.push (u:=dD s.1 k) hd hdz D hc N fun t ht=>hz k t L G ht;have hold:∀i,i<s.2.length->(dW s c).2.getD i 0=s.2.getD i 0:=fun i A=>by rw[e2,List.getD,aI A,<-List.getD]
  have SD:(dW s c).2.getD s.2.length 0=c:=by rw[e2,List.getD,aM (Nat.le_refl _),bJ];rfl
  have hE:∀i t,i<s.2.length+1->t<n->dD (dW s c).1 i t=kp (dD s.1) s.2.length (dD s.1 k) c i t:=fun i t A ht=>by
   unfold kp;by_cases XR:i=s.2.length
   ·rw[if_pos XR,XR,r1,bp,bp,cB]
   ·rw[aH XR,r2 i (by omega) XR t ht,aH (by omega),bp,bp,cB]
  have Ud:zk (dD (dW s c).1) (fun i=>(dW s c).2.getD i 0) (dW s c).2.length n B fun i t=>if i=s.2.length then d*dD M (σ k) t else F8 i t:=by
   rw[e3];refine hC.congr hE (fun i A=>?_) fun _ _ _ _=>rfl;by_cases XR:i=s.2.length
   ·rw[if_pos XR,XR,SD]
   ·rw[aH XR,hold i (by omega)]
  refine⟨fun j=>if j=k then σ s.2.length else σ j,_,Qw,hmon,hlen,Ud,fun j hj=>?_,fun j hj hjM t ht=>?_⟩
  ·split
   ·exact h.org _ (by omega)
   ·exact h.org j hj
  ·rw[e3]at hj;have hjs:j<s.1.length:=by rw[h.len];exact hjM
   obtain⟨jj,hjj⟩:∃jj,(if j=k then s.2.length else j)=jj:=⟨_,rfl⟩
   have hjr:s.2.length<=jj:=by rw[<-hjj];split<;>omega
   have Tj:jj<M.length:=by rw[<-hjj];split<;>omega
   have hσ:(if j=k then σ s.2.length else σ j)=σ jj:=by rw[<-hjj];split<;>rfl
   rw[hσ];refine Na Ud.ru ?_ (fun i A=>?_) ht
   ·have hr:eN (dD (dW s c).1) (dW s c).2.length n (dD (dW s c).1 s.2.length):=eN.row (by omega);have h5:eN (dD s.1) s.2.length n fun t=>cw (fun i=>dD M (σ jj) (s.2.getD i 0)*dD s.1 i t) s.2.length:=⟨_,fun t _=>rfl⟩
    have h6:eN (dD (dW s c).1) (dW s c).2.length n fun t=>cw (fun i=>dD M (σ jj) (s.2.getD i 0)*dD s.1 i t) s.2.length:=h5.trans fun i A=>by
     rw[e3];exact eN.HL (rL N i A) hE
    refine(h6.add hr (dD s.1 jj c)).congr fun t ht=>?_;have h7:=h.rest jj hjr Tj t ht;unfold mP at h7;rw[cP (g:=fun i=>dD M (σ jj) (s.2.getD i 0)*dD s.1 i t) fun i A=>if_pos (h.zn.ru.lt i A)]at h7;rw[r2 j hjs (by omega) t ht,hjj,r1,h7];grind
   ·rw[Qw.2.2.2.2 i j A (by rw[hlen];exact hjM),aH (by omega)]
theorem qD{M:List (List Rat)}{n B:Nat}(hM:fZ n M)(hW:zl M n B):∀c,c<=n->∃σ F8,ElI M n B c (cQ M c) σ F8
 |0,_=>⟨fun j=>j,fun _ _=>0,⟨hM,aQ _,fun _ _ _ _ h=>by omega,fun p hp=>(by cases hp),fun _ _ h=>(by cases h)⟩,⟨fun _ _ _ h=>(by cases h),fun _ _ h=>(by cases h)⟩,rfl,zk.start _ _ _ _ _,fun j hj=>hj,fun j _ hj t ht=>by
   show dD M j t=mP (dD M) _ 0 (dD M j) n t;unfold mP;show _=_-0
   grind⟩
 |c+1,hc=>by
  obtain⟨σ,F8,h⟩:=qD hM hW c (by omega);unfold cQ at h ⊢;rw[bO,List.foldl_append];exact h.step hW (by omega)
theorem zo{n:Nat}(hM:fZ n M)(hW:zl M n B)(hB:1<=B){c:Nat}(hc:c<=n):∀r∈(cQ M c).1,∀q∈r,rl q<=ln (fB B M.length):=fun r hr q hq=>by
 obtain⟨σ,F8,h⟩:=qD hM hW c hc;obtain⟨a,ha⟩:=aN hr;obtain⟨t,ht⟩:=aN hq;have RV:=(aD.1 ha).1;have TK:=(aD.1 ht).1;rw[h.red.1 r hr]at TK;have hle:=h.red.2.1;have e:q=dD (cQ M c).1 a t:=by rw[dD,show(cQ M c).1.getD a []=r by rw[List.getD,ha];rfl,List.getD,ht];rfl
 rw[h.len]at RV hle;rw[e];rcases aO a (cQ M c).2.length with L|L
 ·exact aW (h.zn.LS L TK) (fY (rM hB hle))
 ·obtain⟨d,hd,hdB,hz⟩:=hW _ (h.org a RV);rw[h.rest a L RV t TK];exact aW (h.zn.LU hB hd hdB hz n TK) (fY (rM hB (by omega)))
end Go.Ex
namespace Go.Ex
open Go Go.Sx Go.Proofs
end Go.Ex
